/-
  Parts of the proofs that the laws of this seat hold of every input, merged by a program: a machine over pure data that is sound for the model, what each function of the translation does in it, and plain lemmas. No conditions but those in each theorem.
-/
import Derived.Test.YtlfcebhnjkcmnaaGreatA5
set_option linter.all false
set_option maxRecDepth 100000
noncomputable section
namespace Go.Proofs.YtlfcebhnjkcmnaaGreat
open Go Go.Bv Go.Cv Go.Md Go.RowKit
open Go.IntKind (i64 u64)
noncomputable def k9m:Con TB.den:= .tp 52 [.st 0] [yqi] [] fun(p0:wF)=>((rulesE p0:Int),())
theorem k5a:k9m.Ok Tryz.prog TB:=qtv Bs Tryz.func52 (.r 0 (.jn ⟨[],[],[3],[.one (.d (.bool))],[]⟩ [] .no [] .no)) (k96.c c0) (Q:=∀(p0:wF),∀r0:Int,rulesE p0=r0-> 
 ∀J1:Bool->Prop,(∀(b1:Bool),
(((!b1)=true->
 1=r0)/\
((!b1)=false->
((p0.wm==1)=true->
 let r1:Bool:=(prS (wAH.mk p0.wJ p0.wI p0.wG))
((!r1)=true->
 1=r0)/\
((!r1)=false->
 0=r0))/\
((p0.wm==1)=false->
 0=r0)))->J1 b1)->
(decide (1<=p0.wm)=true->
(decide (p0.wm<=3)=true->
(decide (1<=p0.wD)=true->
(decide (p0.wD<=12)=true->
(decide (1<=p0.wU)=true->
(decide (p0.wU<=100)=true->
(decide (1<=p0.wO)=true->
(decide (p0.wO<=1048576)=true->
(decide (p0.wP<=4294967296)=true->
(decide (1<=p0.wh)=true->
 J1 (decide (p0.wh<=65536)))/\
(decide (1<=p0.wh)=false->
 J1 false))/\
(decide (p0.wP<=4294967296)=false->
 J1 false))/\
(decide (p0.wO<=1048576)=false->
 J1 false))/\
(decide (1<=p0.wO)=false->
 J1 false))/\
(decide (p0.wU<=100)=false->
 J1 false))/\
(decide (1<=p0.wU)=false->
 J1 false))/\
(decide (p0.wD<=12)=false->
 J1 false))/\
(decide (1<=p0.wD)=false->
 J1 false))/\
(decide (p0.wm<=3)=false->
 J1 false))/\
(decide (1<=p0.wm)=false->
 J1 false)) (by kernel_rfl)<|by
 rintro p0 _ rfl
 intro J1 j1
 have j1:∀b,b=rulesB p0->J1 b:=by
  intro b hb
  refine j1 _ ?_
  unfold rulesE
  rw[<-hb]
  refine⟨fun e=> ?_,fun e=> ?_⟩
  ·have e:b=false:=by simpa using e
   rw[e];rfl
  ·have e:b=true:=by simpa using e
   rw[e,if_pos rfl]
   refine⟨fun e2=>⟨fun e3=> ?_,fun e3=> ?_⟩,fun e2=> ?_⟩
   ·have e2:p0.wm=1:=by simpa using e2
    have e3:¬prS ⟨p0.wJ,p0.wI,p0.wG⟩=true:=by simpa using e3
    rw[if_pos e2,if_neg e3]
   ·have e2:p0.wm=1:=by simpa using e2
    have e3:prS ⟨p0.wJ,p0.wI,p0.wG⟩=true:=by simpa using e3
    rw[if_pos e2,if_pos e3]
   ·have e2:¬p0.wm=1:=by simpa using e2
    rw[if_neg e2]
 have no:∀b:Bool,(b=false->rulesB p0=false)->b=false->false=rulesB p0:=fun b h e=>(h e).symm
 refine⟨fun e1=>⟨fun e2=>⟨fun e3=>⟨fun e4=>⟨fun e5=>⟨fun e6=>⟨fun e7=>⟨fun e8=>⟨fun e9=>⟨fun e10=>j1 _ ?_,fun e=>j1 _ ?_⟩,fun e=>j1 _ ?_⟩,fun e=>j1 _ ?_⟩,fun e=>j1 _ ?_⟩,fun e=>j1 _ ?_⟩,fun e=>j1 _ ?_⟩,fun e=>j1 _ ?_⟩,fun e=>j1 _ ?_⟩,fun e=>j1 _ ?_⟩,fun e=>j1 _ ?_⟩
 ·unfold rulesB;rw[e1,e2,e3,e4,e5,e6,e7,e8,e9,e10];simp
 all_goals unfold rulesB;rw[e];simp
noncomputable def ki3:Con TB.den:= .g ⟨23,[.agg [zqi,zqi,zqi,zqi,zqi,zqu,zqi,zqi,zqu]],[],(.tup [.one (.ptr 0 0),.one (zqi)]),[.cells [zqi,zqi,zqi,zqi,zqi,zqu,zqi,zqi,zqu,zqi,zqi,zql,.row 1,.ptr 2 0,.d (.sl (.st 8)),zqu,.row 3,.row 4],.vec yqu,.cells [.mp 5],.vec yqu,.vec (.st 9),.map yqu (.bool)],true⟩ [.st 0] [yqi,yqi,yqi,yqi,yqi,yqi,yqu,yqi,yqi,yqu,yqi,yqi,.sl yqu,.sl (.st 8),yqu,.sl yqu,.sl yqu,.sl (.st 9),.sl yqu,.sl (.bool)] [] fun(p0:wF)=>(rulesE p0=0,(0:Int),((newS p0).R.wm:Int),((newS p0).R.wD:Int),((newS p0).R.wJ:Int),((newS p0).R.wI:Int),((newS p0).R.wG:Int),((newS p0).R.wP:Int),((newS p0).R.wU:Int),((newS p0).R.wO:Int),((newS p0).R.wh:Int),((newS p0).F.wD:Int),((newS p0).F.wY:Int),((newS p0).F.wd:List Int),((newS p0).b:List wA),((newS p0).n:Int),((newS p0).l:List Int),((newS p0).r:List Int),((newS p0).p:List wN),((newS p0).k:List Int),((newS p0).v:List Bool),())
theorem ka0:ki3.Ok Tryz.prog TB:=prx Bs [19] Tryz.func23 (.r 3 (.rt [.rnilc 30 12 yqu,.rnilc 30 17 (.st 9)])) x0 (k5a.c (k5r.c (k6i.c (k2m.c c0)))) (Q:=∀(p0:wF),(rulesE p0=0)->∀r1:Int,(0:Int)=r1->∀Av:Int,((newS p0).R.wm)=Av->∀Aw:Int,((newS p0).R.wD)=Aw->∀Ax:Int,((newS p0).R.wJ)=Ax->∀Ay:Int,((newS p0).R.wI)=Ay->∀Az:Int,((newS p0).R.wG)=Az->∀A0:Int,((newS p0).R.wP)=A0->∀A1:Int,((newS p0).R.wU)=A1->∀A3:Int,((newS p0).R.wO)=A3->∀A4:Int,((newS p0).R.wh)=A4->∀A5:Int,((newS p0).F.wD)=A5->∀Ap:Int,((newS p0).F.wY)=Ap->∀Aq:List Int,((newS p0).F.wd)=Aq->∀As:List wA,((newS p0).b)=As->∀At:Int,((newS p0).n)=At->∀e1:List Int,((newS p0).l)=e1->∀e3:List Int,((newS p0).r)=e3->∀e4:List wN,((newS p0).p)=e4->∀e5k:List Int,((newS p0).k)=e5k->∀e5v:List Bool,((newS p0).v)=e5v-> 
(((rulesE p0) !=0)=true->
 False)/\
(((rulesE p0) !=0)=false->
(1<=p0.wD/\p0.wD<=12)/\(FV (frF p0.wD []))/\(0=([]:List wN).length)/\([(rootF (frF p0.wD []))].length=[(rootF (frF p0.wD []))].length)/\(0=([]:List Int).length)/\0=r1/\p0.wm=Av/\p0.wD=Aw/\p0.wJ=Ax/\p0.wI=Ay/\p0.wG=Az/\p0.wP=A0/\p0.wU=A1/\p0.wO=A3/\p0.wh=A4/\(frF p0.wD []).wD=A5/\(frF p0.wD []).wY=Ap/\(frF p0.wD []).wd=Aq/\([]:List wA)=As/\0=At/\([]:List Int)=e1/\[(rootF (frF p0.wD []))]=e3/\([]:List wN)=e4/\[]=e5k/\[]=e5v)) (by kernel_rfl)<|by
 rintro p0 h _ rfl _ rfl _ rfl _ rfl _ rfl _ rfl _ rfl _ rfl _ rfl _ rfl _ rfl _ rfl _ rfl _ rfl _ rfl _ rfl _ rfl _ rfl _ rfl _ rfl
 have hb:rulesB p0=true:=by
  cases hb:rulesB p0 with
  |true=>rfl
  |false=>unfold rulesE at h;rw[hb]at h;cases h
 have hd:1<=p0.wD/\p0.wD<=12:=by
  simp only[rulesB,Bool.and_eq_true,decide_eq_true_eq]at hb
  omega
 exact⟨fun e=>(by rw[h]at e;cases e),fun _=>⟨hd,frF_FV hd.1 hd.2 (Nat.zero_le _) (fun x hx=>by cases hx),rfl,rfl,rfl,rfl,rfl,rfl,rfl,rfl,rfl,rfl,rfl,rfl,rfl,rfl,rfl,rfl,rfl,rfl,rfl,rfl,rfl,rfl,rfl⟩⟩
noncomputable def kcs:Con TB.den:= .g ⟨23,[.agg [zqi,zqi,zqi,zqi,zqi,zqu,zqi,zqi,zqu]],[],(.tup [.one (.k .nilPtr),.one (zqi)]),[],false⟩ [.st 0] [yqi] [] fun(p0:wF)=>(rulesE p0≠0,(rulesE p0:Int),())
theorem k6h:kcs.Ok Tryz.prog TB:=prx Bs [19] Tryz.func23 (.r 3 (.rt [.rnilc 30 12 yqu,.rnilc 30 17 (.st 9)])) x0 (k5a.c (k5r.c (k6i.c (k2m.c c0)))) (Q:=∀(p0:wF),(rulesE p0≠0)->∀r1:Int,rulesE p0=r1-> 
(((rulesE p0) !=0)=true->
(rulesE p0)=r1)/\
(((rulesE p0) !=0)=false->
(1<=p0.wD/\p0.wD<=12)/\(FV (frF p0.wD []))/\False)) (by kernel_rfl)<|by
 rintro p0 h _ rfl
 exact⟨fun _=>rfl,fun e=>(h (by simpa using e)).elim⟩
noncomputable def khm:Con TB.den:= .gp 32 [.sl yqu,.sl yqu] [.bool] [] fun(p0 p1:List Int)=>(p0.length<=9223372036854775807,(decide (p0=p1):Bool),())
theorem k9w:khm.Ok Tryz.prog TB:=qrv Bs Tryz.func32 (.r 1 (.nd [] (.r 0 (.lp [] ⟨[],[],[5],[.one (zqi)],[]⟩ .no)) [] .no)) c0 (Q:=∀(p0 p1:List Int),(p0.length<=9223372036854775807)->∀r0:Bool,(decide (p0=p1))=r0-> 
(((p0.length:Int) !=(p1.length:Int))=true->
 false=r0)/\
(((p0.length:Int) !=(p1.length:Int))=false->
 ∃(I1:Int->Prop) (M1:Int->Nat),I1 0/\∀(b1:Int),(I1 b1->
(decide (b1<(p0.length:Int))=true->
(0<=b1)/\b1<(p0.length:Int)/\(0<=b1)/\b1<(p1.length:Int)/\(((ix p0 b1) !=(ix p1 b1))=true->
 false=r0)/\
(((ix p0 b1) !=(ix p1 b1))=false->
 I1 (i64.wrap (b1+1))/\M1 (i64.wrap (b1+1))<M1 b1))/\
(decide (b1<(p0.length:Int))=false->
 true=r0)))) (by kernel_rfl)<|by
 rintro p0 p1 h _ rfl
 refine⟨fun e=> ?_,fun e=> ?_⟩
 ·have e:¬(p0.length:Int)=p1.length:=by simpa using e
  rw[decide_eq_false (by rintro rfl;exact e rfl)]
 ·have e:(p0.length:Int)=p1.length:=by simpa using e
  refine⟨(fun i=>0<=i/\i<=p0.length/\p0.take i.toNat=p1.take i.toNat),(fun i=>(p0.length-i).toNat),⟨by omega,by omega,by simp⟩,?_⟩
  rintro i ⟨g0,g1,g2⟩
  refine⟨fun hh=> ?_,fun hh=> ?_⟩
  ·have hh:=of_decide_eq_true hh
   refine⟨g0,hh,g0,by omega,fun e2=> ?_,fun e2=> ?_⟩
   ·have e2:¬ix p0 i=ix p1 i:=by simpa using e2
    rw[decide_eq_false (by rintro rfl;exact e2 rfl)]
   ·have e2:ix p0 i=ix p1 i:=by simpa using e2
    rw[inc i p0.length g0 hh (by omega)]
    refine⟨⟨by omega,by omega,?_⟩,by(dsimp only;omega)⟩
    rw[ki p0 i g0 hh,ki p1 i g0 (by omega),g2,e2]
  ·have hh:=of_decide_eq_false hh
   rw[List.take_of_length_le (by omega),List.take_of_length_le (by omega)]at g2
   rw[decide_eq_true g2]
noncomputable def kfm:Con TB.den:= .tp 11 [] [.bool] [] (true,())
theorem k28:kfm.Ok Tryz.prog TB:=qtv Bs Tryz.func11 .no (ka0.c (k6h.c (k3e.c (k7s.c (k5p.c (k47.c (k5z.c (k5y.c (k9w.c (k5d.c (k2e.c c0))))))))))) (Q:=∀r0:Bool,(true:Bool)=r0-> 
((rulesE (wF.mk 2 2 0 0 0 50 3 5 1)=0)/\let r1:=newS (wF.mk 2 2 0 0 0 50 3 5 1)
(((0:Int) !=0)=true->
 false=r0)/\
(((0:Int) !=0)=false->
(r1.p.length=r1.p.length)/\(r1.r.length=r1.r.length)/\(r1.l.length=r1.l.length)/\((∃c:Nat,c+(wV.mk 0 1 7 0 0 ([]:List wo)).Txs.length<=790/\PI (r1) c 0)/\BR' (wV.mk 0 1 7 0 0 ([]:List wo)))/\let r2:Int:=((applyS (r1) (wV.mk 0 1 7 0 0 ([]:List wo))).e)
 let r3:=(applyS (r1) (wV.mk 0 1 7 0 0 ([]:List wo))).s
((r2 !=0)=true->
 false=r0)/\
((r2 !=0)=false->
(r3.p.length=r3.p.length)/\(r3.r.length=r3.r.length)/\(r3.l.length=r3.l.length)/\(r3.r.length<=1000000)/\let r4:Int:=(if r3.r=[]then 0 else ix r3.r ((r3.r.length:Int)-1))
 let v5:List wo:=[wo.mk r4 ([]:List Int) [wAR.mk 3 2 1 [1,2,3]] 30 0 2 7 0 9 ([]:List Int)]
(r3.p.length=r3.p.length)/\(r3.r.length=r3.r.length)/\(r3.l.length=r3.l.length)/\((∃c:Nat,c+(wV.mk 0 2 7 0 0 v5).Txs.length<=790/\PI (r3) c 0)/\BR' (wV.mk 0 2 7 0 0 v5))/\let r6:Int:=((applyS (r3) (wV.mk 0 2 7 0 0 v5)).e)
 let r7:=(applyS (r3) (wV.mk 0 2 7 0 0 v5)).s
((r6 !=0)=true->
 false=r0)/\
((r6 !=0)=false->
(r7.p.length=r7.p.length)/\(r7.r.length=r7.r.length)/\(r7.l.length=r7.l.length)/\(r7.b.length<=100000)/\(Srt (wl.mk r7.b).wB/\(wl.mk r7.b).wB.length<4611686018427387904)/\let r8:=getA (wl.mk r7.b).wB (7:Int)
((r8.wR==72)=true->
((r8.wL==1)=true->
(r7.p.length=r7.p.length)/\(r7.r.length=r7.r.length)/\(r7.l.length=r7.l.length)/\((r7.n==28)=true->
(r7.p.length=r7.p.length)/\(r7.r.length=r7.r.length)/\(r7.l.length=r7.l.length)/\(r7.l.length<=1000000)/\(r7.l.length<=9223372036854775807)/\((decide (r7.l=[3]))=true->
(r7.p.length=r7.p.length)/\(r7.r.length=r7.r.length)/\(r7.l.length=r7.l.length)/\((1<=r7.R.wU/\r7.R.wU<=100)/\r7.r.length<=1000000)/\let v9:Bool:=(((ancL r7.r r7.R.wU).length:Int)==3)
(v9=true->
(r7.p.length=r7.p.length)/\(r7.r.length=r7.r.length)/\(r7.l.length=r7.l.length)/\((∃(c:Nat) (f:Int),c<=800/\PI (r7) c f)/\TR (wo.mk r4 ([]:List Int) [wAR.mk 3 2 1 [1,2,3]] 30 0 2 7 0 9 ([]:List Int)))/\let r10:Int:=(chkS (r7) (wo.mk r4 ([]:List Int) [wAR.mk 3 2 1 [1,2,3]] 30 0 2 7 0 9 ([]:List Int)))
(r10==20)=r0)/\
(v9=false->
 false=r0))/\
((decide (r7.l=[3]))=false->
 false=r0))/\
((r7.n==28)=false->
 false=r0))/\
((r8.wL==1)=false->
 false=r0))/\
((r8.wR==72)=false->
 false=r0)))))∨((rulesE (wF.mk 2 2 0 0 0 50 3 5 1)≠0)/\false=r0)) (by kernel_rfl)<|by
 rintro _ rfl
 refine(.inl ⟨aR_ok,fun e=>(by cases e),fun _=>⟨rfl,rfl,rfl,⟨⟨0,by decide,a_PI1⟩,aB1_r⟩,?_⟩⟩)
 have h1:applyS (newS aR) aB1=⟨0,aS2⟩:=a_ap1
 rw[show applyS (PS.mk (wF.mk (newS (wF.mk 2 2 0 0 0 50 3 5 1)).R.wm (newS (wF.mk 2 2 0 0 0 50 3 5 1)).R.wD (newS (wF.mk 2 2 0 0 0 50 3 5 1)).R.wJ (newS (wF.mk 2 2 0 0 0 50 3 5 1)).R.wI (newS (wF.mk 2 2 0 0 0 50 3 5 1)).R.wG (newS (wF.mk 2 2 0 0 0 50 3 5 1)).R.wP (newS (wF.mk 2 2 0 0 0 50 3 5 1)).R.wU (newS (wF.mk 2 2 0 0 0 50 3 5 1)).R.wO (newS (wF.mk 2 2 0 0 0 50 3 5 1)).R.wh) (wE.mk (newS (wF.mk 2 2 0 0 0 50 3 5 1)).F.wD (newS (wF.mk 2 2 0 0 0 50 3 5 1)).F.wY (newS (wF.mk 2 2 0 0 0 50 3 5 1)).F.wd) (newS (wF.mk 2 2 0 0 0 50 3 5 1)).b (newS (wF.mk 2 2 0 0 0 50 3 5 1)).n (newS (wF.mk 2 2 0 0 0 50 3 5 1)).l (newS (wF.mk 2 2 0 0 0 50 3 5 1)).r (newS (wF.mk 2 2 0 0 0 50 3 5 1)).p (newS (wF.mk 2 2 0 0 0 50 3 5 1)).k (newS (wF.mk 2 2 0 0 0 50 3 5 1)).v) (wV.mk 0 1 7 0 0 ([]:List wo))=⟨0,aS2⟩from a_ap1]
 refine⟨fun e=>(by cases e),fun _=>⟨(by first|exact rfl|exact True.intro),(by first|exact rfl|exact True.intro),(by first|exact rfl|exact True.intro),by decide,?_⟩⟩
 have hr:(if aS2.r=[]then 0 else ix aS2.r ((aS2.r.length:Int)-1))=aA:=by
  rw[if_neg (fun hh=>by cases hh)]
  rfl
 simp only[hr]
 refine⟨(by first|exact rfl|exact True.intro),(by first|exact rfl|exact True.intro),(by first|exact rfl|exact True.intro),⟨⟨1,by decide,a_PI2⟩,aB2_r⟩,?_⟩
 rw[show applyS (PS.mk (wF.mk aS2.R.wm aS2.R.wD aS2.R.wJ aS2.R.wI aS2.R.wG aS2.R.wP aS2.R.wU aS2.R.wO aS2.R.wh) (wE.mk aS2.F.wD aS2.F.wY aS2.F.wd) aS2.b aS2.n aS2.l aS2.r aS2.p aS2.k aS2.v) (wV.mk 0 2 7 0 0 [wo.mk aA ([]:List Int) [wAR.mk 3 2 1 [1,2,3]] 30 0 2 7 0 9 ([]:List Int)])=⟨0,aS4⟩from a_ap2]
 have hg:getA aS4.b 7=⟨7,72,1⟩:=by decide +kernel
 refine⟨fun e=>(by cases e),fun _=>⟨(by first|exact rfl|exact True.intro),(by first|exact rfl|exact True.intro),(by first|exact rfl|exact True.intro),by decide,⟨a_PI4.b.1.1,by decide⟩,?_⟩⟩
 simp only[hg]
 refine⟨fun _=>⟨fun _=>⟨(by first|exact rfl|exact True.intro),(by first|exact rfl|exact True.intro),(by first|exact rfl|exact True.intro),fun _=>⟨(by first|exact rfl|exact True.intro),(by first|exact rfl|exact True.intro),(by first|exact rfl|exact True.intro),by decide,by decide,fun _=>⟨(by first|exact rfl|exact True.intro),(by first|exact rfl|exact True.intro),(by first|exact rfl|exact True.intro),⟨by decide,by decide⟩,fun _=>⟨(by first|exact rfl|exact True.intro),(by first|exact rfl|exact True.intro),(by first|exact rfl|exact True.intro),⟨⟨3,0,by decide,a_PI4⟩,aT_r.1⟩,(congrArg (fun z:Int=>z==20) a_chk2).trans rfl⟩,fun e=>absurd e (by decide)⟩,fun e=>absurd e (by decide)⟩,fun e=>absurd e (by decide)⟩,fun e=>absurd e (by decide)⟩,fun e=>absurd e (by decide)⟩
noncomputable def kdk:Con TB.den:= .b ⟨26,[.one (.ptr 0 0)],[.cells [zqi,zqi,zqi,zqi,zqi,zqu,zqi,zqi,zqu,zqi,zqi,zql,.row 1,.ptr 2 0,.d (.sl (.st 8)),zqu,.row 3,.row 4],.vec yqu,.cells [.mp 5],.vec yqu,.vec (.st 9),.map yqu (.bool)],(.one (.one (.d (.bool)))),[.cells [zqi,zqi,zqi,zqi,zqi,zqu,zqi,zqi,zqu,zqi,zqi,zql,.row 6,.ptr 2 0,.d (.sl (.st 8)),zqu,.row 7,.row 8],.dead,.cells [.mp 5],.dead,.dead,.map yqu (.bool),.vec yqu,.vec yqu,.vec (.st 9)],false⟩ [yqi,yqi,yqi,yqi,yqi,yqu,yqi,yqi,yqu,yqi,yqi,.sl yqu,.sl (.st 8),yqu,.sl yqu,.sl yqu,.sl (.st 9),.sl yqu,.sl (.bool)] [.bool,yqi,yqi,yqi,yqi,yqi,yqu,yqi,yqi,yqu,yqi,yqi,.sl yqu,.sl (.st 8),yqu,.sl yqu,.sl (.bool),.sl yqu,.sl yqu,.sl (.st 9)] fun(Ah Af Ai Aj Ak Al Ae Am Ao Ag Ac:Int) (Ad:List Int) (Aa:List wA) (Ab:Int) (w1 w3:List Int) (w4:List wN) (w5k:List Int) (w5v:List Bool)=>(UOk (PS.mk (wF.mk Ah Af Ai Aj Ak Al Ae Am Ao) (wE.mk Ag Ac Ad) Aa Ab w1 w3 w4 w5k w5v),undoS (PS.mk (wF.mk Ah Af Ai Aj Ak Al Ae Am Ao) (wE.mk Ag Ac Ad) Aa Ab w1 w3 w4 w5k w5v),fun R=>(((decide (w4≠[])):Bool),R.R.wm,R.R.wD,R.R.wJ,R.R.wI,R.R.wG,R.R.wP,R.R.wU,R.R.wO,R.R.wh,R.F.wD,R.F.wY,R.F.wd,R.b,R.n,R.k,R.v,R.l,R.r,R.p,()))
theorem k46:kdk.Ok Tryz.prog TB:=pbv Bs Tryz.func26 (.r 1 (.nd [] (.r 0 (.nd [] (.r 0 (.rt [.trimc 0 12,.trimc 0 16,.trimc 0 17])) [] .no)) [] (.r 4 (.rt [.trimc 0 12,.trimc 0 16,.trimc 0 17])))) (k54.c c0) (Q:=∀(Ah Af Ai Aj Ak Al Ae Am Ao Ag Ac:Int) (Ad:List Int) (Aa:List wA) (Ab:Int) (w1 w3:List Int) (w4:List wN) (w5k:List Int) (w5v:List Bool),(UOk (PS.mk (wF.mk Ah Af Ai Aj Ak Al Ae Am Ao) (wE.mk Ag Ac Ad) Aa Ab w1 w3 w4 w5k w5v))->∀R,undoS (PS.mk (wF.mk Ah Af Ai Aj Ak Al Ae Am Ao) (wE.mk Ag Ac Ad) Aa Ab w1 w3 w4 w5k w5v)=R-> 
(((w4.length:Int)==0)=true->
 w1.length=w1.length/\w3.length=w3.length/\w4.length=w4.length/\(w4.length=w4.length)/\(w3.length=w3.length)/\(w1.length=w1.length)/\false=(decide (w4≠[]))/\Ah=R.R.wm/\Af=R.R.wD/\Ai=R.R.wJ/\Aj=R.R.wI/\Ak=R.R.wG/\Al=R.R.wP/\Ae=R.R.wU/\Am=R.R.wO/\Ao=R.R.wh/\Ag=R.F.wD/\Ac=R.F.wY/\Ad=R.F.wd/\Aa=R.b/\Ab=R.n/\w5k=R.k/\w5v=R.v/\w1=R.l/\w3=R.r/\w4=R.p)/\
(((w4.length:Int)==0)=false->
(0<=i64.wrap ((w4.length:Int)-1)/\i64.wrap ((w4.length:Int)-1)<(w4.length:Int))/\(0<=i64.wrap ((w4.length:Int)-1)/\i64.wrap ((w4.length:Int)-1)<(w4.length:Int))/\(w4.length=w4.length)/\(w3.length=w3.length)/\(w1.length=w1.length)/\(w5v=trs w5k/\(ix w4 (i64.wrap ((w4.length:Int)-1))).marks.length<=1000000/\0<=(ix w4 (i64.wrap ((w4.length:Int)-1))).leaves/\(ix w4 (i64.wrap ((w4.length:Int)-1))).leaves<=(w1.length:Int))/\let r1:=ix w4 (i64.wrap ((w4.length:Int)-1))
 let r2:Int:=((ix w4 (i64.wrap ((w4.length:Int)-1))).leaves.toNat:Int)
 let r3:List Int:=((remS (ix w4 (i64.wrap ((w4.length:Int)-1))).marks w5k).2)
 let r4:List Bool:=(trs (remS (ix w4 (i64.wrap ((w4.length:Int)-1))).marks w5k).2)
(0<=i64.wrap ((w4.length:Int)-1)/\i64.wrap ((w4.length:Int)-1)<(w4.length:Int))/\(0<=i64.wrap ((w4.length:Int)-1)/\i64.wrap ((w4.length:Int)-1)<(w4.length:Int))/\(0<=i64.wrap ((w4.length:Int)-1))/\i64.wrap ((w4.length:Int)-1)<=(w4.length:Int)/\(0<=i64.wrap ((w3.length:Int)-1))/\i64.wrap ((w3.length:Int)-1)<=(w3.length:Int)/\(0:Int).toNat=0/\r2.toNat<=w1.length/\0=0/\(i64.wrap ((w3.length:Int)-1)).toNat<=w3.length/\0=0/\(i64.wrap ((w4.length:Int)-1)).toNat<=(w4.set (i64.wrap ((w4.length:Int)-1)).toNat (wN.mk 0 0 ([]:List Int) 0 ([]:List Int) ([]:List wA) 0)).length/\(((w4.set (i64.wrap ((w4.length:Int)-1)).toNat (wN.mk 0 0 ([]:List Int) 0 ([]:List Int) ([]:List wA) 0)).take ((i64.wrap ((w4.length:Int)-1)).toNat)).length=((w4.set (i64.wrap ((w4.length:Int)-1)).toNat (wN.mk 0 0 ([]:List Int) 0 ([]:List Int) ([]:List wA) 0)).take ((i64.wrap ((w4.length:Int)-1)).toNat)).length)/\((w3.take ((i64.wrap ((w3.length:Int)-1)).toNat)).length=(w3.take ((i64.wrap ((w3.length:Int)-1)).toNat)).length)/\((w1.take r2.toNat).length=(w1.take r2.toNat).length)/\true=(decide (w4≠[]))/\Ah=R.R.wm/\Af=R.R.wD/\Ai=R.R.wJ/\Aj=R.R.wI/\Ak=R.R.wG/\Al=R.R.wP/\Ae=R.R.wU/\Am=R.R.wO/\Ao=R.R.wh/\r1.wAV=R.F.wD/\r1.wAU=R.F.wY/\r1.wAX=R.F.wd/\r1.wAQ=R.b/\r1.hidden=R.n/\r3=R.k/\r4=R.v/\w1.take r2.toNat=R.l/\w3.take ((i64.wrap ((w3.length:Int)-1)).toNat)=R.r/\(w4.set (i64.wrap ((w4.length:Int)-1)).toNat (wN.mk 0 0 ([]:List Int) 0 ([]:List Int) ([]:List wA) 0)).take ((i64.wrap ((w4.length:Int)-1)).toNat)=R.p)) (by kernel_rfl)<|by
 rintro Ah Af Ai Aj Ak Al Ae Am Ao Ag Ac Ad Aa Ab w1 w3 w4 w5k w5v h R hR
 have hv:w5v=trs w5k:=h.v
 have hr1:1<=w3.length:=h.r
 have hr2:w3.length<=1000000:=h.rl
 have hpl:w4.length<=1000000:=h.pl
 have hq:w4≠[]->(ix w4 ((w4.length:Int)-1)).marks.length<=1000000/\0<=(ix w4 ((w4.length:Int)-1)).leaves/\(ix w4 ((w4.length:Int)-1)).leaves<=(w1.length:Int):=h.q
 unfold undoS at hR
 simp only at hR
 refine⟨fun e=> ?_,fun e=> ?_⟩
 ·have e:w4=[]:=by simpa using e
  rw[if_pos e]at hR
  subst hR
  rw[decide_eq_false (fun hh=>hh e)]
  exact(by repeat' first|apply And.intro|exact rfl|exact True.intro)
 ·have e:¬w4=[]:=by simpa using e
  have hne:1<=w4.length:=List.length_pos_iff.2 e
  rw[if_neg e]at hR
  obtain⟨q1,q2,q3⟩:=hq e
  have e1:i64.wrap ((w4.length:Int)-1)=((w4.length-1:Nat):Int):=by rw[kh _ (by omega) (by omega)];omega
  have e2:i64.wrap ((w3.length:Int)-1)=((w3.length-1:Nat):Int):=by rw[kh _ (by omega) (by omega)];omega
  have e3:((w4.length:Int)-1)=((w4.length-1:Nat):Int):=by omega
  rw[e3]at q1 q2 q3 hR
  unfold resS at hR
  subst hR
  rw[e1,e2,decide_eq_true e]
  simp only[Int.toNat_natCast]
  rw[take_set']
  refine⟨⟨by omega,by omega⟩,⟨by omega,by omega⟩,(by first|exact rfl|exact True.intro),(by first|exact rfl|exact True.intro),(by first|exact rfl|exact True.intro),⟨hv,q1,q2,q3⟩,⟨by omega,by omega⟩,⟨by omega,by omega⟩,by omega,by omega,by omega,by omega,(by first|exact rfl|exact True.intro),by omega,(by first|exact rfl|exact True.intro),by omega,(by first|exact rfl|exact True.intro),?_,(by repeat' first|apply And.intro|exact rfl|exact True.intro)⟩
  rw[List.length_set]
  omega
noncomputable def kir:Con TB.den:= .gp 140 [yqu] [.st 7] [] fun(p0:Int)=>(p0=18446744069414584321,(wAA.mk 7 32 7:wAA),())
theorem kcr:kir.Ok Tryz.prog TB:=qrv Bs Tryz.func140 .no c0 (Q:=∀(p0:Int),(p0=18446744069414584321)->∀r0:wAA,wAA.mk 7 32 7=r0-> 
((p0==17)=true->
 3=r0.a0/\4=r0.a1/\3=r0.a2)/\
((p0==17)=false->
((p0==97)=true->
 5=r0.a0/\5=r0.a1/\5=r0.a2)/\
((p0==97)=false->
((p0==193)=true->
 5=r0.a0/\6=r0.a1/\5=r0.a2)/\
((p0==193)=false->
((p0==257)=true->
 3=r0.a0/\8=r0.a1/\3=r0.a2)/\
((p0==257)=false->
((p0==12289)=true->
 11=r0.a0/\12=r0.a1/\5=r0.a2)/\
((p0==12289)=false->
((p0==65537)=true->
 3=r0.a0/\16=r0.a1/\3=r0.a2)/\
((p0==65537)=false->
((p0==18446744069414584321)=true->
 7=r0.a0/\32=r0.a1/\7=r0.a2)/\
((p0==18446744069414584321)=false->
 0=r0.a0/\0=r0.a1/\0=r0.a2)))))))) (by kernel_rfl)<|by
 rintro p0 h _ rfl
 simp[h]
noncomputable def kfa:Con TB.den:= .gp 130 [yqu] [.bool] [] fun(p0:Int)=>(p0=18446744069414584321,true,())
theorem k1q:kfa.Ok Tryz.prog TB:=qrv Bs Tryz.func130 .no (kcr.c c0) (Q:=∀(p0:Int),(p0=18446744069414584321)->∀r0:Bool,(true:Bool)=r0-> 
(p0=18446744069414584321)/\decide (0<(7:Int))=r0) (by kernel_rfl)<|by
 rintro p0 h _ rfl
 exact⟨h,rfl⟩
noncomputable def kjj:Con TB.den:= .gp 141 [yqu,yqu,yqu] [yqu] [] fun(p0 p1 p2:Int)=>(p0=18446744069414584321/\U64 p1/\U64 p2,((p1+p2)%18446744069414584321:Int),())
theorem k4d:kjj.Ok Tryz.prog TB:=qrv Bs Tryz.func141 .no (k1q.c c0) (Q:=∀(p0 p1 p2:Int),(p0=18446744069414584321/\U64 p1/\U64 p2)->∀r0:Int,((p1+p2)%18446744069414584321)=r0-> 
(p0=18446744069414584321)/\((!true)=true->
 0=r0)/\
((!true)=false->
(p0≠0)/\(p0≠0)/\let v1:Bool:=decide ((u64.wrap (p0-(Int.tmod p2 p0)))<=(Int.tmod p1 p0))
(v1=true->
 let v2:Int:=u64.wrap ((Int.tmod p1 p0)-(u64.wrap (p0-(Int.tmod p2 p0))))
 v2=r0)/\
(v1=false->
 let v3:Int:=u64.wrap ((Int.tmod p1 p0)+(Int.tmod p2 p0))
 v3=r0))) (by kernel_rfl)<|by
 rintro p0 p1 p2 h _ rfl
 obtain⟨rfl,h1,h2⟩:=h
 refine⟨rfl,fun h=>by simp at h,fun _=> ?_⟩
 rw[tmod_nn _ _ h1.1,tmod_nn _ _ h2.1]
 simp only[u64w]
 refine⟨by omega,by omega,fun h=> ?_,fun h=> ?_⟩
 ·have h:=of_decide_eq_true h
  omega
 ·have h:=of_decide_eq_false h
  omega
noncomputable def kim:Con TB.den:= .gp 142 [yqu,yqu,yqu] [yqu] [] fun(p0 p1 p2:Int)=>(p0=18446744069414584321/\U64 p1/\U64 p2,(p1*p2%18446744069414584321:Int),())
theorem kd2:kim.Ok Tryz.prog TB:=qrv Bs Tryz.func142 .no (k1q.c (k7w.c (k7t.c c0))) (Q:=∀(p0 p1 p2:Int),(p0=18446744069414584321/\U64 p1/\U64 p2)->∀r0:Int,(p1*p2%18446744069414584321)=r0-> 
(p0=18446744069414584321)/\((!true)=true->
 0=r0)/\
((!true)=false->
(p0≠0)/\(p0≠0)/\(U64 (Int.tmod p1 p0)/\U64 (Int.tmod p2 p0))/\let r1:Int:=((Int.tmod p1 p0)*(Int.tmod p2 p0)/18446744073709551616)
 let r2:Int:=((Int.tmod p1 p0)*(Int.tmod p2 p0)%18446744073709551616)
(U64 r1/\U64 r2/\U64 p0/\r1<p0)/\((r1*18446744073709551616+r2)%p0)=r0)) (by kernel_rfl)<|by
 rintro p0 p1 p2 h _ rfl
 obtain⟨rfl,h1,h2⟩:=h
 refine⟨rfl,fun h=>by simp at h,fun _=> ?_⟩
 rw[tmod_nn _ _ h1.1,tmod_nn _ _ h2.1,Int.mul_emod p1 p2]
 have a1:0<=p1%18446744069414584321/\p1%18446744069414584321<18446744069414584321:=by omega
 have a2:0<=p2%18446744069414584321/\p2%18446744069414584321<18446744069414584321:=by omega
 generalize p1%18446744069414584321=a at *
 generalize p2%18446744069414584321=b at *
 have h3:0<=a*b:=Int.mul_nonneg a1.1 a2.1
 have h4:a*b<=18446744069414584320*18446744069414584320:=Int.mul_le_mul (by omega) (by omega) a2.1 (by omega)
 generalize a*b=m at *
 refine⟨by omega,by omega,⟨⟨by omega,by omega⟩,⟨by omega,by omega⟩⟩,⟨⟨by omega,by omega⟩,⟨by omega,by omega⟩,⟨by omega,by omega⟩,by omega⟩,?_⟩
 rw[show m/18446744073709551616*18446744073709551616+m%18446744073709551616=m by omega]
noncomputable def kaz:Con TB.den:= .gp 151 [yqu] [yqu] [] fun(p0:Int)=>(p0=18446744069414584321,(7:Int),())
theorem kcj:kaz.Ok Tryz.prog TB:=qrv Bs Tryz.func151 .no (kcr.c c0) (Q:=∀(p0:Int),(p0=18446744069414584321)->∀r0:Int,(7:Int)=r0-> 
(p0=18446744069414584321)/\7=r0) (by kernel_rfl)<|by
 rintro p0 h _ rfl
 exact⟨h,rfl⟩
noncomputable def kix:Con TB.den:= .gp 149 [yqu,yqu,yqu] [yqu] [] fun(p0 p1 p2:Int)=>(p0=18446744069414584321/\U64 p1/\U64 p2,(pw p1 p2:Int),())
theorem kjt:kix.Ok Tryz.prog TB:=qrv Bs Tryz.func149 (.r 3 (.nd [] (.lp [] ⟨[],[],[1,2,7],[.one (zqu),.one (zqu),.one (zqu)],[]⟩ (.r 0 (.jn ⟨[],[],[7],[.one (zqu)],[]⟩ [] .no [] .no))) [] .no)) (k1q.c (kd2.c c0)) (Q:=∀(p0 p1 p2:Int),(p0=18446744069414584321/\U64 p1/\U64 p2)->∀r0:Int,pw p1 p2=r0-> 
(p0=18446744069414584321)/\((!true)=true->
 0=r0)/\
((!true)=false->
(p0≠0)/\∃(I1:Int->Int->Int->Prop) (M1:Int->Int->Int->Nat),I1 (Int.tmod p1 p0) p2 1/\∀(b1 f1 i1:Int),(I1 b1 f1 i1->
(decide (0<f1)=true->
 ∀J1:Int->Prop,(∀(k1:Int),
((p0=18446744069414584321/\U64 b1/\U64 b1)/\I1 (b1*b1%18446744069414584321) (u64.wrap (Int.tdiv f1 2)) k1/\M1 (b1*b1%18446744069414584321) (u64.wrap (Int.tdiv f1 2)) k1<M1 b1 f1 i1)->J1 k1)->
(((Int.tmod f1 2)==1)=true->
(p0=18446744069414584321/\U64 i1/\U64 b1)/\J1 (i1*b1%18446744069414584321))/\
(((Int.tmod f1 2)==1)=false->
 J1 i1))/\
(decide (0<f1)=false->
 i1=r0)))) (by kernel_rfl)<|by
 rintro p0 p1 p2 h _ rfl
 obtain⟨rfl,h1,h2⟩:=h
 refine⟨rfl,fun h=>by simp at h,fun _=>⟨by omega,?_⟩⟩
 rw[tmod_nn _ _ h1.1]
 refine⟨fun a e r=>(0<=a/\a<18446744069414584321)/\U64 e/\(0<=r/\r<18446744069414584321)/\(r*a^e.toNat)%18446744069414584321=pw p1 p2,fun a e r=>e.toNat,⟨by omega,h2,by omega,by rw[Int.one_mul,k7d];rfl⟩,?_⟩
 rintro a e r ⟨ha,he,hr,hv⟩
 have hpow:∀k:Nat,a^(2*k)=(a*a)^k:=fun k=>by rw[Int.pow_mul];congr 1;rw[Int.pow_succ,Int.pow_succ,Int.pow_zero,Int.one_mul]
 refine⟨fun h J1 j=> ?_,fun h=> ?_⟩
 ·have h:=of_decide_eq_true h
  have jj:∀r',(0<=r'/\r' <18446744069414584321)->(r' *(a*a)^(e/2).toNat)%18446744069414584321=pw p1 p2->J1 r' :=by
   intro r' hr' hv'
   have hm:0<=a*a%18446744069414584321/\a*a%18446744069414584321<18446744069414584321:=⟨Int.emod_nonneg _ (by omega),Int.emod_lt_of_pos _ (by omega)⟩
   refine j _ ⟨⟨rfl,by omega,by omega⟩,?_⟩
   rw[tdiv_nn _ _ he.1,wu (e/2) (by omega) (by omega)]
   refine⟨⟨hm,⟨by omega,by omega⟩,hr',?_⟩,by(dsimp only;omega)⟩
   rw[<-hv',Int.mul_emod,Int.mul_emod r' ((a*a)^_),k7d]
  rw[tmod_nn _ _ he.1]
  refine⟨fun h1=>⟨⟨rfl,by omega,by omega⟩,?_⟩,fun h1=> ?_⟩
  ·have h1:e%2=1:=by simpa using h1
   refine jj _ ⟨Int.emod_nonneg _ (by omega),Int.emod_lt_of_pos _ (by omega)⟩ ?_
   rw[<-hv,show e.toNat=2*(e/2).toNat+1 by omega,Int.pow_succ,hpow,Int.mul_emod,Int.emod_emod_of_dvd _ (Int.dvd_refl _),<-Int.mul_emod]
   congr 1
   grind
  ·have h1:¬e%2=1:=by simpa using h1
   refine jj _ hr ?_
   rw[<-hv,<-hpow,show e.toNat=2*(e/2).toNat by omega]
 ·have h:¬0<e:=of_decide_eq_false h
  rw[show e.toNat=0 by omega,Int.pow_zero,Int.mul_one,Int.emod_eq_of_lt hr.1 hr.2]at hv
  exact hv
noncomputable def kbd:Con TB.den:= .gp 150 [yqu,yqi,yqi] [yqu] [] fun(p0 p1 p2:Int)=>(p0=18446744069414584321/\(0<=p1/\p1<8)/\0<=p2/\p2<3,(rc p1 p2:Int),())
theorem kcg:kbd.Ok Tryz.prog TB:=qrv Bs Tryz.func150 .no (k1q.c c0) (Q:=∀(p0 p1 p2:Int),(p0=18446744069414584321/\(0<=p1/\p1<8)/\0<=p2/\p2<3)->∀r0:Int,rc p1 p2=r0-> 
(p0=18446744069414584321)/\((!true)=true->
 0=r0)/\
((!true)=false->
(decide (p1<0)=true->
 0=r0)/\
(decide (p1<0)=false->
(decide (7<p1)=true->
 0=r0)/\
(decide (7<p1)=false->
(decide (p2<0)=true->
 0=r0)/\
(decide (p2<0)=false->
(decide (2<p2)=true->
 0=r0)/\
(decide (2<p2)=false->
 let v1:Int:=i64.wrap ((i64.wrap (3*p1))+p2)
 let v2:Int:=u64.wrap (i64.wrap (v1+1))
 let v3:Int:=u64.wrap (v2*11400714819323198485)
(p0≠0)/\Int.tmod v3 p0=r0)))))) (by kernel_rfl)<|by
 rintro p0 p1 p2 h _ rfl
 obtain⟨rfl,h1,h2⟩:=h
 refine⟨rfl,fun h=>by simp at h,fun _=>⟨fun h=> ?_,fun _=>⟨fun h=> ?_,fun _=>⟨fun h=> ?_,fun _=>⟨fun h=> ?_,fun _=> ?_⟩⟩⟩⟩⟩
 ·simp at h;omega
 ·simp at h;omega
 ·simp at h;omega
 ·simp at h;omega
 ·simp only[]
  rw[wi (3*p1) (by omega) (by omega),wi (3*p1+p2) (by omega) (by omega),wi (3*p1+p2+1) (by omega) (by omega),wu (3*p1+p2+1) (by omega) (by omega),u64w]
  exact⟨by omega,by rw[tmod_nn _ _ (by omega)];rfl⟩
noncomputable def kip:Con TB.den:= .gp 154 [yqu,.sl yqu] [yqu] [] fun(p0:Int) (p1:List Int)=>(p0=18446744069414584321/\Us p1/\p1.length<=9223372036854775807,(p1.foldl (fun s x=>(s+x)%18446744069414584321) 0:Int),())
theorem kju:kip.Ok Tryz.prog TB:=qrv Bs Tryz.func154 (.r 1 (.nd [] (.r 0 (.lp [] ⟨[],[],[5,6],[.one (zqu),.one (zqi)],[]⟩ .no)) [] .no)) (k4d.c c0) (Q:=∀(p0:Int) (p1:List Int),(p0=18446744069414584321/\Us p1/\p1.length<=9223372036854775807)->∀r0:Int,(p1.foldl (fun s x=>(s+x)%18446744069414584321) 0)=r0-> 
 ∃(I1:Int->Int->Prop) (M1:Int->Int->Nat),I1 0 0/\∀(b1 f1:Int),(I1 b1 f1->
(decide (f1<(p1.length:Int))=true->
(0<=f1)/\f1<(p1.length:Int)/\(p0=18446744069414584321/\U64 b1/\U64 (ix p1 f1))/\let r1:Int:=((b1+(ix p1 f1))%18446744069414584321)
 I1 r1 (i64.wrap (f1+1))/\M1 r1 (i64.wrap (f1+1))<M1 b1 f1)/\
(decide (f1<(p1.length:Int))=false->
 b1=r0))) (by kernel_rfl)<|by
 rintro p0 p1 h _ rfl
 obtain⟨rfl,h1,h2⟩:=h
 refine(⟨(fun s i=>FoldI (fun s x=>(s+x)%18446744069414584321) 0 p1 i s/\U64 s),(fun s i=>(p1.length-i).toNat),⟨FoldI.start,by omega⟩,?_⟩)
 rintro s i ⟨hi,hs⟩
 refine⟨fun hh=> ?_,fun hh=>hi.done (of_decide_eq_false hh)⟩
 have hh:=of_decide_eq_true hh
 have hx:=h1 _ (ix_mem p1 i hi.1 hh)
 have nx:=hi.next hh (by omega) rfl
 exact⟨hi.1,hh,⟨rfl,hs,hx⟩,⟨nx.1,by omega⟩,nx.2⟩
noncomputable def kja:Con TB.den:= .gp 152 [yqu,.st 7] [.st 7] [] fun(p0:Int) (p1:wAA)=>(p0=18446744069414584321/\S3 p1,(mixS p1:wAA),())
theorem kjm:kja.Ok Tryz.prog TB:=qrv Bs Tryz.func152 (.r 2 (.nd [] (.r 0 (.lp [] ⟨[3],[.cells [zqu,zqu,zqu]],[7],[.one (zqi)],[]⟩ .no)) [] .no)) (kju.c (k4d.c c0)) (Q:=∀(p0:Int) (p1:wAA),(p0=18446744069414584321/\S3 p1)->∀r0:wAA,mixS p1=r0-> 
(p0=18446744069414584321/\Us [p1.a0,p1.a1,p1.a2]/\[p1.a0,p1.a1,p1.a2].length<=9223372036854775807)/\let r1:Int:=([p1.a0,p1.a1,p1.a2].foldl (fun s x=>(s+x)%18446744069414584321) 0)
 ∃(I1:Int->Int->Int->Int->Prop) (M1:Int->Int->Int->Int->Nat),I1 0 0 0 0/\∀(b1 f1 i1 k1:Int),(I1 b1 f1 i1 k1->
(decide (b1<3)=true->
(0<=b1/\b1<(3:Int))/\(0<=b1/\b1<(3:Int))/\(p0=18446744069414584321/\U64 (ix [p1.a0,p1.a1,p1.a2] b1)/\U64 r1)/\let r2:Int:=(((ix [p1.a0,p1.a1,p1.a2] b1)+r1)%18446744069414584321)
(0<=b1/\b1<(3:Int))/\(0<=b1/\b1<(3:Int))/\I1 (i64.wrap (b1+1)) (bif decide (b1=(0:Int))then r2 else f1) (bif decide (b1=(1:Int))then r2 else i1) (bif decide (b1=(2:Int))then r2 else k1)/\M1 (i64.wrap (b1+1)) (bif decide (b1=(0:Int))then r2 else f1) (bif decide (b1=(1:Int))then r2 else i1) (bif decide (b1=(2:Int))then r2 else k1)<M1 b1 f1 i1 k1)/\
(decide (b1<3)=false->
 f1=r0.a0/\i1=r0.a1/\k1=r0.a2))) (by kernel_rfl)<|by
 rintro p0 p1 h _ rfl
 obtain⟨rfl,h0,h1,h2⟩:=h
 have e:[p1.a0,p1.a1,p1.a2].foldl (fun s x=>(s+x)%18446744069414584321) 0=((p1.a0+p1.a1)%18446744069414584321+p1.a2)%18446744069414584321:=by
  show(((0+p1.a0)%18446744069414584321+p1.a1)%18446744069414584321+p1.a2)%18446744069414584321=_
  omega
 refine⟨⟨rfl,?_,by simp⟩,?_⟩
 ·intro x hx
  simp only[List.mem_cons,List.not_mem_nil,or_false]at hx
  rcases hx with rfl|rfl|rfl
  ·exact h0
  ·exact h1
  ·exact h2
 rw[e]
 have hu:U64 (((p1.a0+p1.a1)%18446744069414584321+p1.a2)%18446744069414584321):=⟨by omega,by omega⟩
 generalize hg:((p1.a0+p1.a1)%18446744069414584321+p1.a2)%18446744069414584321=t at *
 refine⟨(fun i x y z=>(i=0)∨(i=1/\x=(p1.a0+t)%18446744069414584321)∨(i=2/\x=(p1.a0+t)%18446744069414584321/\y=(p1.a1+t)%18446744069414584321)∨(i=3/\x=(p1.a0+t)%18446744069414584321/\y=(p1.a1+t)%18446744069414584321/\z=(p1.a2+t)%18446744069414584321)),(fun i _ _ _=>(3-i).toNat),(.inl rfl),?_⟩
 intro i x y z hi
 refine⟨fun hh=> ?_,fun hh=> ?_⟩
 ·have hh:=of_decide_eq_true hh
  rcases hi with rfl|⟨rfl,rfl⟩|⟨rfl,rfl,rfl⟩|⟨rfl,_⟩
  ·exact⟨by omega,by omega,⟨rfl,h0,hu⟩,by omega,by omega,.inr (.inl ⟨rfl,rfl⟩),by(dsimp only;decide)⟩
  ·exact⟨by omega,by omega,⟨rfl,h1,hu⟩,by omega,by omega,.inr (.inr (.inl ⟨rfl,rfl,rfl⟩)),by(dsimp only;decide)⟩
  ·exact⟨by omega,by omega,⟨rfl,h2,hu⟩,by omega,by omega,.inr (.inr (.inr ⟨rfl,rfl,rfl,rfl⟩)),by(dsimp only;decide)⟩
  ·omega
 ·have hh:=of_decide_eq_false hh
  rcases hi with rfl|⟨rfl,rfl⟩|⟨rfl,rfl,rfl⟩|⟨rfl,rfl,rfl,rfl⟩
  ·omega
  ·omega
  ·omega
  ·unfold mixS
   rw[hg]
   exact⟨rfl,rfl,rfl⟩
noncomputable def kd0:Con TB.den:= .gp 143 [yqu,.st 7] [.st 7] [] fun(p0:Int) (p1:wAA)=>(p0=18446744069414584321/\S3 p1,(permS p1:wAA),())
theorem kdr:kd0.Ok Tryz.prog TB:=qrv Bs Tryz.func143 (.r 1 (.nd [] (.r 0 (.lp [] ⟨[0],[.cells [zqu,zqu,zqu]],[5],[.one (zqi)],[]⟩ (.r 0 (.nd [] (.nd [] (.r 0 (.lp [] ⟨[0],[.cells [zqu,zqu,zqu]],[6],[.one (zqi)],[]⟩ .no)) [] .no) [] .no)))) [] .no)) (k1q.c (kcg.c (k4d.c (kcj.c (kjt.c (kjm.c c0)))))) (Q:=∀(p0:Int) (p1:wAA),(p0=18446744069414584321/\S3 p1)->∀r0:wAA,permS p1=r0-> 
(p0=18446744069414584321)/\((!true)=true->
 0=r0.a0/\0=r0.a1/\0=r0.a2)/\
((!true)=false->
 ∃(I1:Int->Int->Int->Int->Prop) (M1:Int->Int->Int->Int->Nat),I1 0 p1.a0 p1.a1 p1.a2/\∀(b1 f1 i1 k1:Int),(I1 b1 f1 i1 k1->
(decide (b1<8)=true->
 ∃(I2:Int->Int->Int->Int->Prop) (M2:Int->Int->Int->Int->Nat),I2 0 f1 i1 k1/\∀(l1 m1 n1 o1:Int),(I2 l1 m1 n1 o1->
(decide (l1<3)=true->
(0<=l1/\l1<(3:Int))/\(0<=l1/\l1<(3:Int))/\(p0=18446744069414584321/\(0<=b1/\b1<8)/\0<=l1/\l1<3)/\(p0=18446744069414584321/\U64 (ix [m1,n1,o1] l1)/\U64 (rc b1 l1))/\let r1:Int:=(((ix [m1,n1,o1] l1)+(rc b1 l1))%18446744069414584321)
(p0=18446744069414584321)/\(p0=18446744069414584321/\U64 r1/\U64 (7:Int))/\(0<=l1/\l1<(3:Int))/\(0<=l1/\l1<(3:Int))/\I2 (i64.wrap (l1+1)) (bif decide (l1=(0:Int))then(pw r1 (7:Int))else m1) (bif decide (l1=(1:Int))then(pw r1 (7:Int))else n1) (bif decide (l1=(2:Int))then(pw r1 (7:Int))else o1)/\M2 (i64.wrap (l1+1)) (bif decide (l1=(0:Int))then(pw r1 (7:Int))else m1) (bif decide (l1=(1:Int))then(pw r1 (7:Int))else n1) (bif decide (l1=(2:Int))then(pw r1 (7:Int))else o1)<M2 l1 m1 n1 o1)/\
(decide (l1<3)=false->
(p0=18446744069414584321/\S3 (wAA.mk m1 n1 o1))/\I1 (i64.wrap (b1+1)) ((mixS (wAA.mk m1 n1 o1)).a0) ((mixS (wAA.mk m1 n1 o1)).a1) ((mixS (wAA.mk m1 n1 o1)).a2)/\M1 (i64.wrap (b1+1)) ((mixS (wAA.mk m1 n1 o1)).a0) ((mixS (wAA.mk m1 n1 o1)).a1) ((mixS (wAA.mk m1 n1 o1)).a2)<M1 b1 f1 i1 k1)))/\
(decide (b1<8)=false->
 f1=r0.a0/\i1=r0.a1/\k1=r0.a2)))) (by kernel_rfl)<|by
 rintro p0 p1 h _ rfl
 obtain⟨hP,hs⟩:=h
 subst hP
 refine⟨rfl,fun h=>by simp at h,fun _=> ?_⟩
 refine⟨(fun n a b c=>0<=n/\n<=8/\(⟨a,b,c⟩:wAA)=rnds n.toNat p1/\S3 ⟨a,b,c⟩),(fun n _ _ _=>(8-n).toNat),⟨by omega,by omega,rfl,hs⟩,?_⟩
 rintro n a b c ⟨g0,g1,g2,g3⟩
 refine⟨fun h=> ?_,fun h=> ?_⟩
 ·have h:=of_decide_eq_true h
  refine⟨(fun i x y z=>(i=0/\x=a/\y=b/\z=c)∨(i=1/\x=pw ((a+rc n 0)%18446744069414584321) 7/\y=b/\z=c)∨(i=2/\x=pw ((a+rc n 0)%18446744069414584321) 7/\y=pw ((b+rc n 1)%18446744069414584321) 7/\z=c)∨(i=3/\x=pw ((a+rc n 0)%18446744069414584321) 7/\y=pw ((b+rc n 1)%18446744069414584321) 7/\z=pw ((c+rc n 2)%18446744069414584321) 7)),(fun i _ _ _=>(3-i).toNat),(.inl ⟨rfl,rfl,rfl,rfl⟩),?_⟩
  intro i x y z hi
  have hrc:∀k,U64 (rc n k):=fun k=>by unfold rc;omega
  have hpw:∀k e,0<=pw k e/\pw k e<18446744069414584321:=fun k e=>⟨Int.emod_nonneg _ (by omega),Int.emod_lt_of_pos _ (by omega)⟩
  obtain⟨h3a,h3b,h3c⟩:=g3
  have u7:U64 7:=by decide
  have hm:∀q:Int,U64 (q%18446744069414584321):=fun q=>⟨Int.emod_nonneg _ (by omega),Int.lt_trans (Int.emod_lt_of_pos _ (by omega)) (by omega)⟩
  refine⟨fun hh=> ?_,fun hh=> ?_⟩
  ·have hh:=of_decide_eq_true hh
   rcases hi with⟨rfl,rfl,rfl,rfl⟩|⟨rfl,rfl,rfl,rfl⟩|⟨rfl,rfl,rfl,rfl⟩|⟨rfl,_⟩
   ·exact⟨by omega,by omega,⟨rfl,by omega,by omega⟩,⟨rfl,h3a,hrc _⟩,rfl,⟨rfl,hm _,u7⟩,by omega,by omega,.inr (.inl ⟨rfl,rfl,rfl,rfl⟩),by(dsimp only;decide)⟩
   ·exact⟨by omega,by omega,⟨rfl,by omega,by omega⟩,⟨rfl,h3b,hrc _⟩,rfl,⟨rfl,hm _,u7⟩,by omega,by omega,.inr (.inr (.inl ⟨rfl,rfl,rfl,rfl⟩)),by(dsimp only;decide)⟩
   ·exact⟨by omega,by omega,⟨rfl,by omega,by omega⟩,⟨rfl,h3c,hrc _⟩,rfl,⟨rfl,hm _,u7⟩,by omega,by omega,.inr (.inr (.inr ⟨rfl,rfl,rfl,rfl⟩)),by(dsimp only;decide)⟩
   ·omega
  ·have hh:=of_decide_eq_false hh
   rcases hi with⟨rfl,_⟩|⟨rfl,_⟩|⟨rfl,_⟩|⟨rfl,rfl,rfl,rfl⟩
   ·omega
   ·omega
   ·omega
   ·have e:rnds (n+1).toNat p1=rnd ⟨a,b,c⟩ n:=by
     rw[show(n+1).toNat=n.toNat+1 by omega]
     show rnd (rnds n.toNat p1) (n.toNat:Int)=_
     rw[<-g2,show(n.toNat:Int)=n by omega]
    have hS:S3 (rnds (n+1).toNat p1):=by
     rw[e]
     unfold rnd mixS S3
     dsimp only
     omega
    have hinc:i64.wrap (n+1)=n+1:=wi _ (by omega) (by omega)
    rw[hinc]
    refine⟨⟨rfl,by unfold S3;have:=hpw ((a+rc n 0)%18446744069414584321) 7;have:=hpw ((b+rc n 1)%18446744069414584321) 7;have:=hpw ((c+rc n 2)%18446744069414584321) 7;dsimp only;omega⟩,(?_:0<=n+1/\n+1<=8/\_/\_),(?_:(8-(n+1)).toNat<(8-n).toNat)⟩
    ·refine⟨by omega,by omega,e.symm,?_⟩
     rw[e]at hS
     exact hS
    ·omega
 ·have h:=of_decide_eq_false h
  rw[show n=8 by omega]at g2
  have g2:(⟨a,b,c⟩:wAA)=permS p1:=g2
  rw[<-g2]
  exact⟨rfl,rfl,rfl⟩
noncomputable def kdp:Con TB.den:= .gp 131 [yqu,yqu,.sl yqu] [.st 7] [] fun(p0 p1:Int) (p2:List Int)=>(p0=18446744069414584321/\U64 p1/\Us p2/\p2.length<=1099511627776,(absS p1 p2:wAA),())
theorem kf7:kdp.Ok Tryz.prog TB:=qrv Bs Tryz.func131 (.r 1 (.nd [] (.r 0 (.lp [] ⟨[1],[.cells [zqu,zqu,zqu]],[8],[.one (zqi)],[]⟩ (.jn ⟨[],[],[],[],[]⟩ [] .no [] (.nd [] (.jn ⟨[1],[.cells [zqu,zqu,zqu]],[],[],[]⟩ [] .no [] (.jn ⟨[1],[.cells [zqu,zqu,zqu]],[],[],[]⟩ [] .no [] .no)) [] .no)))) [] .no)) (kd2.c (k4d.c (kdr.c c0))) (Q:=∀(p0 p1:Int) (p2:List Int),(p0=18446744069414584321/\U64 p1/\Us p2/\p2.length<=1099511627776)->∀r0:wAA,absS p1 p2=r0-> 
(p0=18446744069414584321/\U64 p1/\U64 (65536:Int))/\let r1:Int:=(p1*(65536:Int)%18446744069414584321)
(p0=18446744069414584321/\U64 r1/\U64 (u64.wrap (p2.length:Int)))/\let r2:Int:=((r1+(u64.wrap (p2.length:Int)))%18446744069414584321)
 ∃(I1:Int->Int->Int->Int->Prop) (M1:Int->Int->Int->Int->Nat),I1 0 0 0 r2/\∀(b1 f1 i1 k1:Int),(I1 b1 f1 i1 k1->
 ∀J1:Prop,((∀J2:Int->Int->Int->Prop,(∀(l1 m1 n1:Int),
(∀J3:Int->Int->Int->Prop,(∀(o1 q1 s1:Int),
((p0=18446744069414584321/\S3 (wAA.mk o1 q1 s1))/\I1 (i64.wrap (b1+2)) ((permS (wAA.mk o1 q1 s1)).a0) ((permS (wAA.mk o1 q1 s1)).a1) ((permS (wAA.mk o1 q1 s1)).a2)/\M1 (i64.wrap (b1+2)) ((permS (wAA.mk o1 q1 s1)).a0) ((permS (wAA.mk o1 q1 s1)).a1) ((permS (wAA.mk o1 q1 s1)).a2)<M1 b1 f1 i1 k1)->J3 o1 q1 s1)->
 let v4:Bool:=decide ((i64.wrap (b1+1))<(p2.length:Int))
(v4=true->
(0<=i64.wrap (b1+1))/\i64.wrap (b1+1)<(p2.length:Int)/\(p0=18446744069414584321/\U64 m1/\U64 (ix p2 (i64.wrap (b1+1))))/\let r5:Int:=((m1+(ix p2 (i64.wrap (b1+1))))%18446744069414584321)
 J3 l1 r5 n1)/\
(v4=false->
 J3 l1 m1 n1))->J2 l1 m1 n1)->
(decide (b1<(p2.length:Int))=true->
(0<=b1)/\b1<(p2.length:Int)/\(p0=18446744069414584321/\U64 f1/\U64 (ix p2 b1))/\let r3:Int:=((f1+(ix p2 b1))%18446744069414584321)
 J2 r3 i1 k1)/\
(decide (b1<(p2.length:Int))=false->
 J2 f1 i1 k1))->J1)->
((b1==0)=true->
 J1)/\
((b1==0)=false->
(decide (b1<(p2.length:Int))=true->
 J1)/\
(decide (b1<(p2.length:Int))=false->
 f1=r0.a0/\i1=r0.a1/\k1=r0.a2)))) (by kernel_rfl)<|by
 rintro p0 p1 p2 h _ rfl
 obtain⟨hP,h1,h2,h3⟩:=h
 subst hP
 have hp:=k1z
 have hi:S3 (absI p1 p2):=by unfold absI S3;dsimp only;omega
 have e:u64.wrap (p2.length:Int)=p2.length:=wu _ (by omega) (by omega)
 have em:(p1*65536%18446744069414584321+(p2.length:Int))%18446744069414584321=(absI p1 p2).a2:=rfl
 rw[e]
 refine⟨⟨rfl,h1,by omega⟩,⟨rfl,by omega,by omega⟩,?_⟩
 rw[em]
 refine⟨fun i a b c=>(i=0/\a=0/\b=0/\c=(absI p1 p2).a2)∨(0<i/\i<=p2.length+2/\absL (p2.drop i.toNat) ⟨a,b,c⟩=absS p1 p2/\S3 ⟨a,b,c⟩),fun i _ _ _=>(p2.length+4-i).toNat,.inl ⟨rfl,rfl,rfl,rfl⟩,?_⟩
 intro i a b c hg J1 j1
 have body:0<=i->i<=p2.length->(i<p2.length->absL (p2.drop i.toNat) ⟨a,b,c⟩=absS p1 p2)->(¬i<p2.length->permS ⟨a,b,c⟩=absS p1 p2)->S3 ⟨a,b,c⟩->J1:=by
  intro g0 g1 hne hnil hS
  obtain⟨h3a,h3b,h3c⟩:=hS
  refine j1 fun J2 j2=> ?_
  have hJ2:∀x y z,S3 ⟨x,y,z⟩->(i+1<p2.length->absL (p2.drop (i+2).toNat) (permS ⟨x,(y+ix p2 (i+1))%18446744069414584321,z⟩)=absS p1 p2)->(¬i+1<p2.length->permS ⟨x,y,z⟩=absS p1 p2)->J2 x y z:=by
   intro x y z hS k1 k2
   refine j2 _ _ _ fun J3 j3=> ?_
   have hJ3:∀x y z:Int,S3 ⟨x,y,z⟩->absL (p2.drop (i+2).toNat) (permS ⟨x,y,z⟩)=absS p1 p2->J3 x y z:=by
    intro x y z hS k
    refine j3 _ _ _ ?_
    rw[wi (i+2) (by omega) (by omega)]
    exact⟨⟨rfl,hS⟩,.inr ⟨(by omega:0<i+2),(by omega:i+2<=p2.length+2),k,hp _⟩,by(dsimp only;omega)⟩
   rw[wi (i+1) (by omega) (by omega)]
   refine⟨fun h5=> ?_,fun h5=> ?_⟩
   ·have h5:=of_decide_eq_true h5
    have hy:=h2 _ (ix_mem p2 (i+1) (by omega) h5)
    exact⟨by omega,h5,⟨rfl,hS.2.1,hy⟩,hJ3 _ _ _ (S3m (by have:=hS.1;omega) (by omega) hS.2.2) (k1 h5)⟩
   ·have ed2:p2.drop (i+2).toNat=[]:=List.drop_eq_nil_of_le (by have:=of_decide_eq_false h5;omega)
    exact hJ3 _ _ _ hS (by rw[ed2];exact k2 (of_decide_eq_false h5))
  refine⟨fun hh=> ?_,fun hh=> ?_⟩
  ·have hh:=of_decide_eq_true hh
   have hx:=h2 _ (ix_mem p2 i g0 hh)
   have g2:=hne hh
   rw[drop_ix p2 i g0 hh]at g2
   refine⟨g0,hh,⟨rfl,h3a,hx⟩,hJ2 _ _ _ (S3m (by omega) h3b h3c) (fun h5=> ?_) (fun h5=> ?_)⟩
   ·rw[drop_ix p2 (i+1) (by omega) h5,show i+1+1=i+2 by omega]at g2
    exact g2
   ·rw[show p2.drop (i+1).toNat=[]from List.drop_eq_nil_of_le (by omega)]at g2
    exact g2
  ·have hh:=of_decide_eq_false hh
   exact hJ2 _ _ _ ⟨h3a,h3b,h3c⟩ (fun h5=>by omega) (fun _=>hnil hh)
 refine⟨fun h0=> ?_,fun h0=>⟨fun hh=> ?_,fun hh=> ?_⟩⟩
 ·have h0:i=0:=by simpa using h0
  rcases hg with⟨_,rfl,rfl,rfl⟩|⟨hp0,_⟩
  ·subst h0
   refine body (by omega) (by omega) (fun hl=> ?_) (fun hl=> ?_) hi
   ·have hne:p2≠[]:=by rintro rfl;simp at hl
    unfold absS
    rw[if_neg hne]
    rfl
   ·have hnil:p2=[]:=List.eq_nil_of_length_eq_zero (by omega)
    unfold absS
    rw[if_pos hnil]
    rfl
  ·omega
 ·have h0:¬i=0:=by simpa using h0
  have hh:=of_decide_eq_true hh
  rcases hg with⟨h1,_⟩|⟨g0,g1,g2,g3⟩
  ·omega
  ·exact body (by omega) (by omega) (fun _=>g2) (fun hl=>absurd hh hl) g3
 ·have h0:¬i=0:=by simpa using h0
  have hh:=of_decide_eq_false hh
  rcases hg with⟨h1,_⟩|⟨g0,g1,g2,g3⟩
  ·omega
  ·rw[List.drop_eq_nil_of_le (by omega)]at g2
   have hv:(⟨a,b,c⟩:wAA)=absS p1 p2:=g2
   rw[<-hv]
   exact⟨rfl,rfl,rfl⟩
noncomputable def kg5:Con TB.den:= .gp 121 [yqu,yqu,.sl yqu] [yqu] [] fun(p0 p1:Int) (p2:List Int)=>(p0=18446744069414584321/\U64 p1/\Us p2/\p2.length<=1099511627776,(hashS p1 p2:Int),())
theorem k9t:kg5.Ok Tryz.prog TB:=qrv Bs Tryz.func121 .no (k1q.c (kf7.c c0)) (Q:=∀(p0 p1:Int) (p2:List Int),(p0=18446744069414584321/\U64 p1/\Us p2/\p2.length<=1099511627776)->∀r0:Int,hashS p1 p2=r0-> 
(p0=18446744069414584321)/\((!true)=true->
 0=r0)/\
((!true)=false->
(p0=18446744069414584321/\U64 p1/\Us p2/\p2.length<=1099511627776)/\(absS p1 p2).a0=r0)) (by kernel_rfl)<|by
 rintro p0 p1 p2 h _ rfl
 obtain⟨hP,h1,h2,h3⟩:=h
 subst hP
 exact⟨rfl,fun h=>by simp at h,fun _=>⟨⟨rfl,h1,h2,h3⟩,rfl⟩⟩
noncomputable def khb:Con TB.den:= .gp 101 [yqu,yqu] [yqu] [] fun(p0 p1:Int)=>(U64 p0/\U64 p1,(nd p0 p1:Int),())
theorem k9x:khb.Ok Tryz.prog TB:=qrv Bs Tryz.func101 .no (k9t.c c0) (Q:=∀(p0 p1:Int),(U64 p0/\U64 p1)->∀r0:Int,nd p0 p1=r0-> 
((18446744069414584321:Int)=18446744069414584321/\U64 (6:Int)/\Us [p0,p1]/\[p0,p1].length<=1099511627776)/\(hashS (6:Int) [p0,p1])=r0) (by kernel_rfl)<|by
 rintro p0 p1 h _ rfl
 exact⟨⟨rfl,by decide,(by intro x hx;rcases List.mem_cons.1 hx with rfl|hx;exact h.1;rw[List.mem_singleton.1 hx];exact h.2),by simp⟩,rfl⟩
noncomputable def kf6:Con TB.den:= .gp 85 [.sl yqu] [.sl yqu] [] fun(p0:List Int)=>((∀x∈p0,0<=x/\x<18446744069414584321)/\p0.length<=100000,(pairs p0:List Int),())
theorem khy:kf6.Ok Tryz.prog TB:=qrx Bs [23,24] Tryz.func85 (.r 1 (.nd [] (.r 0 (.lp [.rnil 3 yqu] ⟨[],[.vec yqu],[3,4],[.one (.row 0),.one (zqi)],[0]⟩ .no)) [] (.r 0 (.rt [.frz 1 [2]])))) x0 (k9x.c c0) (Q:=∀(p0:List Int),((∀x∈p0,0<=x/\x<18446744069414584321)/\p0.length<=100000)->∀r0:List Int,pairs p0=r0-> 
(0=([]:List Int).length)/\∃(I1:Int->(List Int)->Prop) (M1:Int->(List Int)->Nat),I1 0 ([]:List Int)/\∀(b1:Int) (f1:List Int),(I1 b1 f1->
 let v1:Bool:=decide ((i64.wrap (b1+1))<(p0.length:Int))
(v1=true->
(0<=b1)/\b1<(p0.length:Int)/\(0<=i64.wrap (b1+1))/\i64.wrap (b1+1)<(p0.length:Int)/\(U64 (ix p0 b1)/\U64 (ix p0 (i64.wrap (b1+1))))/\let r2:Int:=(nd (ix p0 b1) (ix p0 (i64.wrap (b1+1))))
 f1.length=f1.length/\[r2].length=[r2].length/\(f1.length+[r2].length)*8<=140737488355328/\f1.length+[r2].length<=maxLen/\((f1++[r2]).length=(f1++[r2]).length)/\I1 (i64.wrap (b1+2)) (f1++[r2])/\M1 (i64.wrap (b1+2)) (f1++[r2])<M1 b1 f1)/\
(v1=false->
(f1.length=f1.length)/\f1=r0))) (by kernel_rfl)<|by
 rintro p0 h _ rfl
 obtain⟨hu,hl⟩:=h
 refine⟨rfl,⟨(fun a g=>∃j:Nat,a=(j:Int)/\j<=p0.length/\g.length<=j/\g++pairs (p0.drop j)=pairs p0),(fun a _=>(p0.length-a).toNat),⟨0,rfl,by omega,by simp,by simp⟩,?_⟩⟩
 rintro _ g ⟨j,rfl,hj,hg,he⟩
 have ei:=inc_i64 j (by omega)
 refine⟨fun e=> ?_,fun e=> ?_⟩
 ·have e:=of_decide_eq_true e
  rw[ei]at e ⊢
  have e:j+1<p0.length:=by omega
  have e0:j<p0.length:=by omega
  have u1:=hu _ (List.getElem_mem e0)
  have u2:=hu _ (List.getElem_mem e)
  rw[ix_get _ _ e0,ix_get _ _ e]
  rw[kkf e]at he
  rw[show i64.wrap ((j:Int)+2)=((j+2:Nat):Int)by rw[kh _ (by omega) (by omega)];omega]
  refine⟨by omega,by omega,by omega,by omega,⟨⟨u1.1,by omega⟩,u2.1,by omega⟩,rfl,rfl,?_,?_,rfl,⟨j+2,rfl,by omega,?_,?_⟩,by(dsimp only;omega)⟩
  ·simp only[List.length_cons,List.length_nil];omega
  ·simp only[List.length_cons,List.length_nil];unfold maxLen;omega
  ·simp only[List.length_append,List.length_cons,List.length_nil];omega
  ·rw[List.append_assoc];exact he
 ·have e:=of_decide_eq_false e
  rw[ei]at e
  rw[kje (by rw[List.length_drop];omega),List.append_nil]at he
  exact⟨rfl,he⟩
noncomputable def kfs:Con TB.den:= .gp 100 [yqi] [yqu] [] fun(p0:Int)=>(0<=p0/\p0<=12,(emp p0.toNat:Int),())
theorem khw:kfs.Ok Tryz.prog TB:=qrv Bs Tryz.func100 (.r 2 (.nd [] (.r 0 (.lp [] ⟨[],[],[3,4],[.one (zqu),.one (zqi)],[]⟩ .no)) [] .no)) (k9t.c (k9x.c c0)) (Q:=∀(p0:Int),(0<=p0/\p0<=12)->∀r0:Int,emp p0.toNat=r0-> 
(decide (p0<0)=true->
 0=r0)/\
(decide (p0<0)=false->
(decide (12<p0)=true->
 0=r0)/\
(decide (12<p0)=false->
((18446744069414584321:Int)=18446744069414584321/\U64 (6:Int)/\Us ([]:List Int)/\([]:List Int).length<=1099511627776)/\∃(I1:Int->Int->Prop) (M1:Int->Int->Nat),I1 (hashS (6:Int) ([]:List Int)) 0/\∀(b1 f1:Int),(I1 b1 f1->
(decide (f1<p0)=true->
(U64 b1/\U64 b1)/\I1 (nd b1 b1) (i64.wrap (f1+1))/\M1 (nd b1 b1) (i64.wrap (f1+1))<M1 b1 f1)/\
(decide (f1<p0)=false->
 b1=r0))))) (by kernel_rfl)<|by
 rintro p0 h _ rfl
 refine⟨fun e=>(by have:=of_decide_eq_true e;omega),fun _=>⟨fun e=>(by have:=of_decide_eq_true e;omega),fun _=>⟨⟨rfl,by decide,(by intro x hx;cases hx),by decide⟩,?_⟩⟩⟩
 refine⟨(fun x a=>∃i:Nat,a=(i:Int)/\(i:Int)<=p0/\x=emp i),(fun _ a=>(p0-a).toNat),⟨0,rfl,by omega,rfl⟩,?_⟩
 rintro _ _ ⟨i,rfl,hi,rfl⟩
 refine⟨fun e=> ?_,fun e=> ?_⟩
 ·have e:=of_decide_eq_true e
  rw[inc_i64 _ (by omega)]
  exact⟨⟨emp_u i,emp_u i⟩,⟨i+1,rfl,by omega,rfl⟩,by(dsimp only;omega)⟩
 ·have e:=of_decide_eq_false e
  have:p0.toNat=i:=by omega
  rw[this]
noncomputable def kdi:Con TB.den:= .gp 84 [yqi,.sl yqu] [.sl yqu] [] fun(p0:Int) (p1:List Int)=>((0<=p0/\p0<=12)/\p1.length<=2^p0.toNat,(p1++List.replicate (2^p0.toNat-p1.length) (emp 0):List Int),())
theorem kfu:kdi.Ok Tryz.prog TB:=qrv Bs Tryz.func84 (.r 1 (.nd [] (.lp [] ⟨[1],[.tip yqu],[5],[.one (.own 0)],[]⟩ .no) [] .no)) (khw.c c0) (Q:=∀(p0:Int) (p1:List Int),((0<=p0/\p0<=12)/\p1.length<=2^p0.toNat)->∀r0:List Int,(p1++List.replicate (2^p0.toNat-p1.length) (emp 0))=r0-> 
(([]:List Int).length+p1.length)*8<=140737488355328/\([]:List Int).length+p1.length<=maxLen/\(([]:List Int)++p1=([]:List Int)++p1)/\∃(I1:(List Int)->Prop) (M1:(List Int)->Nat),I1 (([]:List Int)++p1)/\∀(b1:List Int),(I1 b1->
(0<=p0)/\let v1:Bool:=decide ((b1.length:Int)<(ishl .i64 1 p0))
(v1=true->
(0<=(0:Int)/\(0:Int)<=12)/\b1.length=b1.length/\(b1.length+[(emp (0:Int).toNat)].length)*8<=140737488355328/\b1.length+[(emp (0:Int).toNat)].length<=maxLen/\(b1++[(emp (0:Int).toNat)]=b1++[(emp (0:Int).toNat)])/\I1 (b1++[(emp (0:Int).toNat)])/\M1 (b1++[(emp (0:Int).toNat)])<M1 b1)/\
(v1=false->
 b1=r0))) (by kernel_rfl)<|by
 rintro p0 p1 h _ rfl
 obtain⟨⟨h0,h1⟩,h2⟩:=h
 obtain⟨d,rfl⟩:=Int.eq_ofNat_of_zero_le h0
 rw[Int.toNat_natCast]at h2 ⊢
 have hp:=pow12 d (by omega)
 refine⟨by simp;omega,by simp;unfold maxLen;omega,rfl,?_⟩
 refine⟨(fun g=>∃m:Nat,g=p1++List.replicate m (emp 0)/\p1.length+m<=2^d),(fun g=>2^d-g.length),⟨0,by simp,by omega⟩,?_⟩
 rintro _ ⟨m,rfl,hm⟩
 have hl:(p1++List.replicate m (emp 0)).length=p1.length+m:=by simp
 refine⟨h0,?_⟩
 rw[shl1 d (by omega)]
 refine⟨fun e=> ?_,fun e=> ?_⟩
 ·have e:=of_decide_eq_true e
  rw[hl]at e
  refine⟨by decide,rfl,?_,?_,rfl,⟨m+1,?_,by omega⟩,?_⟩
  ·rw[hl];simp only[List.length_cons,List.length_nil];omega
  ·rw[hl];simp only[List.length_cons,List.length_nil];unfold maxLen;omega
  ·rw[List.append_assoc,List.replicate_succ'];rfl
  ·dsimp only;rw[List.length_append,hl];simp only[List.length_cons,List.length_nil];omega
 ·have e:=of_decide_eq_false e
  rw[hl]at e
  have:2^d-p1.length=m:=by omega
  rw[this]
noncomputable def kfx:Con TB.den:= .gp 57 [yqi,.sl yqu] [yqu] [] fun(p0:Int) (p1:List Int)=>((0<=p0/\p0<=12)/\p1.length<=2^p0.toNat/\(∀x∈p1,0<=x/\x<18446744069414584321),(TT (lf p1) p0.toNat 0:Int),())
theorem k8s:kfx.Ok Tryz.prog TB:=qrv Bs Tryz.func57 (.r 1 (.nd [] (.lp [] ⟨[],[],[5],[.one (zql)],[]⟩ .no) [] .no)) (kfu.c (khy.c c0)) (Q:=∀(p0:Int) (p1:List Int),((0<=p0/\p0<=12)/\p1.length<=2^p0.toNat/\(∀x∈p1,0<=x/\x<18446744069414584321))->∀r0:Int,(TT (lf p1) p0.toNat 0)=r0-> 
((0<=p0/\p0<=12)/\p1.length<=2^p0.toNat)/\let r1:List Int:=(p1++List.replicate (2^p0.toNat-p1.length) (emp 0))
 ∃(I1:(List Int)->Prop) (M1:(List Int)->Nat),I1 r1/\∀(b1:List Int),(I1 b1->
(decide (1<(b1.length:Int))=true->
((∀x∈b1,0<=x/\x<18446744069414584321)/\b1.length<=100000)/\I1 (pairs b1)/\M1 (pairs b1)<M1 b1)/\
(decide (1<(b1.length:Int))=false->
 0<(b1.length:Int)/\ix b1 0=r0))) (by kernel_rfl)<|by
 rintro p0 p1 h _ rfl
 obtain⟨⟨h0,h1⟩,h2,h3⟩:=h
 refine⟨⟨⟨h0,h1⟩,h2⟩,?_⟩
 obtain⟨d,rfl⟩:=Int.eq_ofNat_of_zero_le h0
 rw[Int.toNat_natCast]at h2 ⊢
 have hp:=pow12 d (by omega)
 rw[km6 h2]
 refine⟨(fun g=>∃i:Nat,i<=d/\g=lvl p1 d i),(fun g=>g.length),⟨0,by omega,rfl⟩,?_⟩
 rintro _ ⟨i,hi,rfl⟩
 have hli:=lvl_len p1 d i
 refine⟨fun e=> ?_,fun e=> ?_⟩
 ·have e:=of_decide_eq_true e
  have hid:i<d:=by
   rcases Nat.lt_or_ge i d with h1|h1
   ·exact h1
   ·have:i=d:=by omega
    subst this
    rw[hli,Nat.sub_self]at e
    exact absurd e (by decide)
  have:2^(d-i)=2*2^(d-(i+1)):=by rw[show d-i=d-(i+1)+1 by omega,Nat.pow_succ];omega
  have hq:=Nat.two_pow_pos (d-(i+1))
  have hp2:=pow12 (d-i) (by omega)
  refine⟨⟨lvl_u h3 d i,by omega⟩,?_⟩
  rw[klt hid]
  refine⟨⟨i+1,by omega,rfl⟩,?_⟩
  dsimp only
  rw[lvl_len,lvl_len]
  omega
 ·have e:=of_decide_eq_false e
  rw[hli]at e
  have hid:i=d:=by
   rcases Nat.lt_or_ge i d with h1|h1
   ·have:2^(d-i)=2*2^(d-(i+1)):=by rw[show d-i=d-(i+1)+1 by omega,Nat.pow_succ];omega
    have hq:=Nat.two_pow_pos (d-(i+1))
    omega
   ·omega
  subst hid
  have e1:lvl p1 i i=[TT (lf p1) i 0]:=by simp[lvl,List.range_succ]
  rw[e1]
  exact⟨by show(0:Int)<((1:Nat):Int);decide,rfl⟩
noncomputable def kj7:Con TB.den:= .gp 78 [.sl (.st 8),yqu] [.st 8] [] fun(p0:List wA) (p1:Int)=>(p0.length<=1001,(getA p0 p1:wA),())
theorem kcf:kj7.Ok Tryz.prog TB:=qrv Bs Tryz.func78 (.r 0 (.nd [] (.r 0 (.lp [] ⟨[],[],[5],[.one (zqi)],[]⟩ .no)) [] .no)) c0 (Q:=∀(p0:List wA) (p1:Int),(p0.length<=1001)->∀r0:wA,getA p0 p1=r0-> 
 ∃(I1:Int->Prop) (M1:Int->Nat),I1 0/\∀(b1:Int),(I1 b1->
(decide (b1<(p0.length:Int))=true->
(0<=b1)/\b1<(p0.length:Int)/\((((ix p0 b1).ID)==p1)=true->
(0<=b1)/\b1<(p0.length:Int)/\(ix p0 b1).ID=r0.ID/\(ix p0 b1).wR=r0.wR/\(ix p0 b1).wL=r0.wL)/\
((((ix p0 b1).ID)==p1)=false->
 I1 (i64.wrap (b1+1))/\M1 (i64.wrap (b1+1))<M1 b1))/\
(decide (b1<(p0.length:Int))=false->
 p1=r0.ID/\0=r0.wR/\0=r0.wL))) (by kernel_rfl)<|by
 rintro p0 p1 h _ rfl
 refine(⟨(fun a=>∃i:Nat,a=(i:Int)/\i<=p0.length/\∀k (h:k<p0.length),k<i->p0[k].ID≠p1),(fun a=>(p0.length-a).toNat),⟨0,rfl,by omega,fun k _ h=>by omega⟩,?_⟩)
 rintro _ ⟨i,rfl,hi,hk⟩
 refine⟨fun h=> ?_,fun h=> ?_⟩
 ·have h:=of_decide_eq_true h
  have hi' :i<p0.length:=by omega
  rw[ix_get _ _ hi']
  refine⟨by omega,h,fun he=> ?_,fun he=> ?_⟩
  ·rw[getA_at hi' (by simpa using he) hk]
   exact⟨by omega,h,rfl,rfl,rfl⟩
  ·rw[inc_i64 _ (by omega)]
   refine⟨⟨i+1,rfl,by omega,fun k h1 h2=> ?_⟩,by(dsimp only;omega)⟩
   rcases Nat.lt_or_ge k i with h5|h5
   ·exact hk k h1 h5
   ·have:k=i:=by omega
    subst this;simpa using he
 ·have h:=of_decide_eq_false h
  rw[kl6 (fun k hk' =>hk k hk' (by omega))]
  exact⟨rfl,rfl,rfl⟩
noncomputable def kit:Con TB.den:= .gp 79 [.sl (.st 8),.st 8] [.sl (.st 8)] [] fun(p0:List wA) (p1:wA)=>(Srt p0/\p0.length<=1000/\0<=p1.wR/\0<=p1.wL,(putA p0 p1:List wA),())
theorem kck:kit.Ok Tryz.prog TB:=qrv Bs Tryz.func79 (.r 1 (.jn ⟨[],[.tip (.st 8)],[5],[.one (.own 0)],[]⟩ [] (.r 0 (.lp [.tok 5 (.st 8)] ⟨[1],[.tip (.st 8)],[5,6],[.one (.own 0),.one (zqi)],[]⟩ .no)) [] (.jn ⟨[1],[.tip (.st 8)],[5],[.one (.own 0)],[]⟩ [] (.jn ⟨[],[],[38],[.one (.d (.bool))],[]⟩ [] .no [] .no) [] (.nd [] (.r 0 (.lp [] ⟨[1],[.tip (.st 8)],[5,7],[.one (.own 0),.one (zqi)],[]⟩ .no)) [] .no)))) c0 (Q:=∀(p0:List wA) (p1:wA),(Srt p0/\p0.length<=1000/\0<=p1.wR/\0<=p1.wL)->∀r0:List wA,putA p0 p1=r0-> 
 ∀J1:(List wA)->Prop,(∀(b1:List wA),
(∀J2:(List wA)->Prop,(∀(k1:List wA),
((k1=k1)/\∃(I2:Int->(List wA)->Prop) (M2:Int->(List wA)->Nat),I2 0 k1/\∀(m1:Int) (n1:List wA),(I2 m1 n1->
(decide (m1<(p0.length:Int))=true->
(0<=m1)/\m1<(p0.length:Int)/\(decide (p1.ID<((ix p0 m1).ID))=true->
(0<=m1)/\m1<(p0.length:Int)/\n1.length=n1.length/\(n1.length+[(ix p0 m1)].length)*24<=140737488355328/\n1.length+[(ix p0 m1)].length<=maxLen/\(n1++[(ix p0 m1)]=n1++[(ix p0 m1)])/\I2 (i64.wrap (m1+1)) (n1++[(ix p0 m1)])/\M2 (i64.wrap (m1+1)) (n1++[(ix p0 m1)])<M2 m1 n1)/\
(decide (p1.ID<((ix p0 m1).ID))=false->
(n1=n1)/\I2 (i64.wrap (m1+1)) n1/\M2 (i64.wrap (m1+1)) n1<M2 m1 n1))/\
(decide (m1<(p0.length:Int))=false->
 n1=r0)))->J2 k1)->
 ∀J3:Bool->Prop,(∀(l1:Bool),
((l1=true->
 b1.length=b1.length/\(b1.length+[p1].length)*24<=140737488355328/\b1.length+[p1].length<=maxLen/\(b1++[p1]=b1++[p1])/\J2 (b1++[p1]))/\
(l1=false->
(b1=b1)/\J2 b1))->J3 l1)->
(decide (0<p1.wR)=true->
 J3 true)/\
(decide (0<p1.wR)=false->
 J3 (decide (0<p1.wL))))->J1 b1)->
(([]:List wA)=([]:List wA))/\∃(I1:Int->(List wA)->Prop) (M1:Int->(List wA)->Nat),I1 0 ([]:List wA)/\∀(f1:Int) (i1:List wA),(I1 f1 i1->
(decide (f1<(p0.length:Int))=true->
(0<=f1)/\f1<(p0.length:Int)/\(decide (((ix p0 f1).ID)<p1.ID)=true->
(0<=f1)/\f1<(p0.length:Int)/\i1.length=i1.length/\(i1.length+[(ix p0 f1)].length)*24<=140737488355328/\i1.length+[(ix p0 f1)].length<=maxLen/\(i1++[(ix p0 f1)]=i1++[(ix p0 f1)])/\I1 (i64.wrap (f1+1)) (i1++[(ix p0 f1)])/\M1 (i64.wrap (f1+1)) (i1++[(ix p0 f1)])<M1 f1 i1)/\
(decide (((ix p0 f1).ID)<p1.ID)=false->
(i1=i1)/\J1 i1))/\
(decide (f1<(p0.length:Int))=false->
(i1=i1)/\J1 i1))) (by kernel_rfl)<|by
  rintro p0 p1 h _ rfl
  obtain⟨hs,hl,hb,hn⟩:=h
  have hlb:=lb_le p0 p1.ID
  intro J1 j1
  have hJ1:J1 (p0.take (lb p0 p1.ID)):=by
   refine j1 _ fun J2 j2=> ?_
   have hJ3:∀m:List wA,m=p0.take (lb p0 p1.ID)++(if p1.wR≠0∨p1.wL≠0 then [p1]else [])->J2 m:=by
    intro m hm
    have hml:m.length<=1001:=by
      rw[hm];simp only[List.length_append,List.length_take];split<;>simp<;>omega
    refine j2 _ ⟨rfl,fun a g=>∃i:Nat,a=(i:Int)/\g=m++(p0.take i).filter (fun x=>decide (p1.ID<x.ID))/\i<=p0.length,fun a _=>(p0.length-a).toNat,⟨0,rfl,by simp,by omega⟩,?_⟩
    rintro _ _ ⟨i,rfl,rfl,hi⟩
    refine⟨fun h=> ?_,fun h=> ?_⟩
    · have h:=of_decide_eq_true h
      have hi' :i<p0.length:=by omega
      have hfl:((p0.take i).filter (fun x=>decide (p1.ID<x.ID))).length<=i:=by
        have:=List.length_filter_le (fun x=>decide (p1.ID<x.ID)) (p0.take i)
        simp at this ⊢
        omega
      have hlen:(m++(p0.take i).filter (fun x=>decide (p1.ID<x.ID))).length<=3000:=by rw[List.length_append];omega
      have e1:(p0.take (i+1)).filter (fun x=>decide (p1.ID<x.ID))=(p0.take i).filter (fun x=>decide (p1.ID<x.ID))++(if p1.ID<p0[i].ID then [p0[i]]else []):=by
        rw[List.take_succ_eq_append_getElem hi',List.filter_append]
        congr 1
        simp only[List.filter_cons,List.filter_nil,decide_eq_true_eq]
      rw[ix_get _ _ hi']
      refine⟨by omega,h,fun hc=>⟨by omega,h,rfl,?_,?_,rfl,?_⟩,fun hc=>⟨rfl,?_⟩⟩
      · simp only[List.length_cons,List.length_nil];omega
      · simp only[List.length_cons,List.length_nil];unfold maxLen;omega
      · have hc:=of_decide_eq_true hc
        rw[inc_i64 _ (by omega)]
        refine⟨⟨i+1,rfl,?_,by omega⟩,by(dsimp only;omega)⟩
        rw[e1,if_pos hc,List.append_assoc]
      · have hc:=of_decide_eq_false hc
        rw[inc_i64 _ (by omega)]
        refine⟨⟨i+1,rfl,?_,by omega⟩,by(dsimp only;omega)⟩
        rw[e1,if_neg hc,List.append_nil]
    · have h:=of_decide_eq_false h
      have:i=p0.length:=by omega
      subst this
      simp only[List.take_length]
      rw[tail_eq hs,hm]
      unfold putA
      first|rfl|(rw[List.append_assoc];rfl)
   intro J3 j3
   have hJ2:∀b:Bool,(b=true↔(p1.wR≠0∨p1.wL≠0))->J3 b:=by
    intro b hb
    have hlt:(p0.take (lb p0 p1.ID)).length<=1000:=by rw[List.length_take];omega
    refine j3 _ ⟨fun e=>⟨rfl,(len24 _ _ (Nat.le_trans hlt (by decide))).1,(len24 _ _ (Nat.le_trans hlt (by decide))).2,rfl,hJ3 _ ?_⟩,fun e=>⟨rfl,hJ3 _ ?_⟩⟩
    · rw[if_pos (hb.1 e)]
    · rw[if_neg (fun hh=>by rw[hb.2 hh]at e;cases e)]
      exact(List.append_nil _).symm
   refine⟨fun e=>hJ2 _ ?_,fun e=>hJ2 _ ?_⟩
   · have:=of_decide_eq_true e
     simp;omega
   · have:=of_decide_eq_false e
     simp;omega
  refine⟨rfl,fun a g=>∃i:Nat,a=(i:Int)/\g=p0.take i/\i<=p0.length/\∀k (h:k<p0.length),k<i->p0[k].ID<p1.ID,fun a _=>(p0.length-a).toNat,⟨0,rfl,rfl,by omega,fun k _ h=>by omega⟩,?_⟩
  rintro _ _ ⟨i,rfl,rfl,hi,hk⟩
  refine⟨fun h=> ?_,fun h=> ?_⟩
  · have h:=of_decide_eq_true h
    have hi' :i<p0.length:=by omega
    have hlt:(p0.take i).length<=1000:=by rw[List.length_take];omega
    rw[ix_get _ _ hi']
    refine⟨by omega,h,fun hc=>⟨by omega,h,rfl,?_,?_,rfl,?_⟩,fun hc=>⟨rfl,?_⟩⟩
    · simp only[List.length_cons,List.length_nil];omega
    · simp only[List.length_cons,List.length_nil];unfold maxLen;omega
    · have hc:=of_decide_eq_true hc
      rw[inc_i64 _ (by omega),<-List.take_succ_eq_append_getElem]
      refine⟨⟨i+1,rfl,rfl,by omega,fun k h1 h2=> ?_⟩,by(dsimp only;omega)⟩
      rcases Nat.lt_or_ge k i with h5|h5
      · exact hk k h1 h5
      · have:k=i:=by omega
        subst this;exact hc
    · have hc:=of_decide_eq_false hc
      have:lb p0 p1.ID=i:=lb_eq p0 p1.ID i hi hk fun _=>by omega
      rw[<-this]
      exact hJ1
  · have h:=of_decide_eq_false h
    have:lb p0 p1.ID=i:=lb_eq p0 p1.ID i hi hk fun hh=>by omega
    rw[<-this]
    exact⟨rfl,hJ1⟩
noncomputable def kda:Con TB.den:= .bp 69 [.sl (.st 8),yqu,yqu] [.sl (.st 8),yqi] fun(p0:List wA) (p1 p2:Int)=>(OkA p0/\U64 p2,creditA p0 p1 p2,fun R=>(R.1,R.2,()))
theorem k7o:kda.Ok Tryz.prog TB:=qbv Bs Tryz.func69 .no (kcf.c (kck.c c0)) (Q:=∀(p0:List wA) (p1 p2:Int),(OkA p0/\U64 p2)->∀R,creditA p0 p1 p2=R-> 
(p0.length<=1001)/\let v2:Int:=u64.wrap (9223372036854775807-((getA p0 p1).wR))
(decide (v2<p2)=true->
([]:List wA)=R.1/\1=R.2)/\
(decide (v2<p2)=false->
 let v3:Int:=u64.wrap (((getA p0 p1).wR)+p2)
(Srt p0/\p0.length<=1000/\0<=(wA.mk ((getA p0 p1).ID) v3 ((getA p0 p1).wL)).wR/\0<=(wA.mk ((getA p0 p1).ID) v3 ((getA p0 p1).wL)).wL)/\let r4:List wA:=(putA p0 (wA.mk ((getA p0 p1).ID) v3 ((getA p0 p1).wL)))
 r4=R.1/\0=R.2)) (by kernel_rfl)<|by
 rintro p0 p1 p2 h R hR
 subst hR
 obtain⟨h,ha,ha'⟩:=h
 obtain⟨g1,g2⟩:=getA_ok h p1
 refine⟨by have:=h.2.1;omega,?_⟩
 rw[wrap_u64 (9223372036854775807-(getA p0 p1).wR) (by omega) (by omega),getA_id]
 refine⟨fun hh=> ?_,fun hh=> ?_⟩
 ·have:=of_decide_eq_true hh
  simp[creditA,this]
 ·have:=of_decide_eq_false hh
  simp only[creditA,if_neg this]
  rw[wrap_u64 _ (by omega) (by omega)]
  exact⟨⟨h.1,h.2.1,by first|omega|(simp only;omega),by first|omega|(simp only;omega)⟩,rfl,by first|exact rfl|exact True.intro⟩
noncomputable def kfo:Con TB.den:= .bp 51 [.sl (.st 8),yqu,yqu,yqu] [.sl (.st 8),yqi] fun(p0:List wA) (p1 p2 p3:Int)=>(OkA p0/\U64 p2/\U64 p3,debitA p0 p1 p2 p3,fun R=>(R.1,R.2,()))
theorem k89:kfo.Ok Tryz.prog TB:=qbv Bs Tryz.func51 (.r 1 (.nd [] (.r 1 (.jn ⟨[],[],[17],[.one (.d (.bool))],[]⟩ [] .no [] .no)) [] .no)) (kcf.c (kck.c c0)) (Q:=∀(p0:List wA) (p1 p2 p3:Int),(OkA p0/\U64 p2/\U64 p3)->∀R,debitA p0 p1 p2 p3=R-> 
(p0.length<=1001)/\((p2==0)=true->
([]:List wA)=R.1/\1=R.2)/\
((p2==0)=false->
 ∀J1:Bool->Prop,(∀(b1:Bool),
((b1=true->
([]:List wA)=R.1/\20=R.2)/\
(b1=false->
(decide (((getA p0 p1).wR)<p2)=true->
([]:List wA)=R.1/\15=R.2)/\
(decide (((getA p0 p1).wR)<p2)=false->
 let v2:Int:=u64.wrap (((getA p0 p1).wR)-p2)
 let v3:Int:=u64.wrap (((getA p0 p1).wL)+1)
(Srt p0/\p0.length<=1000/\0<=(wA.mk ((getA p0 p1).ID) v2 v3).wR/\0<=(wA.mk ((getA p0 p1).ID) v2 v3).wL)/\let r4:List wA:=(putA p0 (wA.mk ((getA p0 p1).ID) v2 v3))
 r4=R.1/\0=R.2)))->J1 b1)->
((p3 !=((getA p0 p1).wL))=true->
 J1 true)/\
((p3 !=((getA p0 p1).wL))=false->
 J1 (p3==18446744073709551615)))) (by kernel_rfl)<|by
 rintro p0 p1 p2 p3 h R hR
 subst hR
 obtain⟨h,⟨ha,ha'⟩,hn,hn'⟩:=h
 obtain⟨g1,g2⟩:=getA_ok h p1
 refine⟨by have:=h.2.1;omega,fun hh=> ?_,fun hh J1 j=> ?_⟩
 ·have:p2=0:=by simpa using hh
  simp[debitA,this]
 have h0:p2≠0:=by simpa using hh
 have key:∀b:Bool,(b=true↔(p3≠(getA p0 p1).wL∨p3=18446744073709551615))->J1 b:=by
  intro b hb
  refine j _ ⟨fun e=> ?_,fun e=> ?_⟩
  ·simp only[debitA,if_neg h0,if_pos (hb.1 e)]
   exact⟨by first|exact rfl|exact True.intro,by first|exact rfl|exact True.intro⟩
  ·have h1:¬(p3≠(getA p0 p1).wL∨p3=18446744073709551615):=fun hh=>by rw[hb.2 hh]at e;cases e
   simp only[debitA,if_neg h0,if_neg h1]
   refine⟨fun hh=> ?_,fun hh=> ?_⟩
   ·have:=of_decide_eq_true hh
    simp[this]
   ·have h2:=of_decide_eq_false hh
    simp only[if_neg h2]
    have h3:p3≠18446744073709551615:=fun e=>h1 (.inr e)
    have h4:p3=(getA p0 p1).wL:=Classical.byContradiction fun e=>h1 (.inl e)
    rw[wrap_u64 _ (by omega) (by omega),wrap_u64 ((getA p0 p1).wL+1) (by omega) (by omega),getA_id,h4]
    exact⟨⟨h.1,h.2.1,by first|omega|(simp only;omega),by first|omega|(simp only;omega)⟩,rfl,by first|exact rfl|exact True.intro⟩
 refine⟨fun e=>key _ ?_,fun e=>key _ ?_⟩
 ·have:p3≠(getA p0 p1).wL:=by simpa using e
  simp[this]
 ·have:p3=(getA p0 p1).wL:=by simpa using e
  rw[this];simp
noncomputable def kfd:Con TB.den:= .gp 77 [.st 11] [.bool] [] fun(p0:wAY)=>(0<=p0.a0/\0<=p0.a1,(vPoint p0.a0 p0.a1:Bool),())
theorem kgu:kfd.Ok Tryz.prog TB:=qrv Bs Tryz.func77 .no c0 (Q:=∀(p0:wAY),(0<=p0.a0/\0<=p0.a1)->∀r0:Bool,vPoint p0.a0 p0.a1=r0-> 
(decide (p0.a0<18446744069414584321)=true->
(decide (p0.a1<18446744069414584321)=true->
(decide (0<p0.a0)=true->
 true=r0)/\
(decide (0<p0.a0)=false->
 decide (0<p0.a1)=r0))/\
(decide (p0.a1<18446744069414584321)=false->
 false=r0))/\
(decide (p0.a0<18446744069414584321)=false->
 false=r0)) (by kernel_rfl)<|by
 rintro p0 h _ rfl
 refine ?_
 unfold vPoint
 repeat' (apply And.intro<;>intro h)
 all_goals grind
noncomputable def kcd:Con TB.den:= .gp 76 [.sl yqu] [.bool] [] fun(p0:List Int)=>(p0.length<=9223372036854775807,(p0.all (fun x=>decide (x<18446744069414584321)):Bool),())
theorem kdl:kcd.Ok Tryz.prog TB:=qrv Bs Tryz.func76 (.r 0 (.nd [] (.r 0 (.lp [] ⟨[],[],[3],[.one (zqi)],[]⟩ .no)) [] .no)) c0 (Q:=∀(p0:List Int),(p0.length<=9223372036854775807)->∀r0:Bool,(p0.all (fun x=>decide (x<18446744069414584321)))=r0-> 
 ∃(I1:Int->Prop) (M1:Int->Nat),I1 0/\∀(b1:Int),(I1 b1->
(decide (b1<(p0.length:Int))=true->
(0<=b1)/\b1<(p0.length:Int)/\let v1:Bool:=decide (18446744069414584321<=(ix p0 b1))
(v1=true->
 false=r0)/\
(v1=false->
 I1 (i64.wrap (b1+1))/\M1 (i64.wrap (b1+1))<M1 b1))/\
(decide (b1<(p0.length:Int))=false->
 true=r0))) (by kernel_rfl)<|by
 rintro p0 h _ rfl
 refine(⟨(fun i=>0<=i/\i<=p0.length/\∀x∈p0.take i.toNat,x<18446744069414584321),(fun i=>(p0.length-i).toNat),⟨by omega,by omega,by simp⟩,?_⟩)
 rintro i ⟨g0,g1,g2⟩
 refine⟨fun hh=> ?_,fun hh=> ?_⟩
 ·have hh:=of_decide_eq_true hh
  refine⟨g0,hh,fun e=> ?_,fun e=> ?_⟩
  ·have e:=of_decide_eq_true e
   exact(List.all_eq_false.2 ⟨_,ix_mem p0 i g0 hh,by simp;omega⟩).symm
  ·have e:=of_decide_eq_false e
   rw[inc i p0.length g0 hh (by omega)]
   refine⟨⟨by omega,by omega,?_⟩,by(dsimp only;omega)⟩
   rw[ki p0 i g0 hh]
   intro x hx
   rcases List.mem_append.1 hx with hx|hx
   ·exact g2 x hx
   ·have:x=ix p0 i:=by simpa using hx
    omega
 ·have hh:=of_decide_eq_false hh
  rw[List.take_of_length_le (by omega)]at g2
  symm
  simpa using g2
noncomputable def kf9:Con TB.den:= .gp 49 [.st 2] [yqi] [] fun(p0:wo)=>(TR p0/\TL p0,(validE p0:Int),())
theorem kgp:kf9.Ok Tryz.prog TB:=qrv Bs Tryz.func49 (.r 1 (.nd [] (.r 0 (.lp [] ⟨[],[],[3],[.one (zqi)],[]⟩ (.r 0 (.nd [] (.r 0 (.lp [] ⟨[],[],[4],[.one (zqi)],[]⟩ .no)) [] .no)))) [] (.nd [] (.r 0 (.lp [] ⟨[],[],[5],[.one (zqi)],[]⟩ .no)) [] (.jn ⟨[],[],[],[],[]⟩ [] .no [] (.jn ⟨[],[],[],[],[]⟩ [] .no [] .no))))) (kdl.c (kgu.c c0)) (Q:=∀(p0:wo),(TR p0/\TL p0)->∀r0:Int,validE p0=r0-> 
(decide (4<(p0.wC.length:Int))=true->
 1=r0)/\
(decide (4<(p0.wC.length:Int))=false->
(decide (4<(p0.wH.length:Int))=true->
 1=r0)/\
(decide (4<(p0.wH.length:Int))=false->
(p0.wC.length<=9223372036854775807)/\let r1:Bool:=(p0.wC.all (fun x=>decide (x<18446744069414584321)))
((!r1)=true->
 1=r0)/\
((!r1)=false->
([p0.wAE,p0.wZ,p0.wL].length<=9223372036854775807)/\let r2:Bool:=([p0.wAE,p0.wZ,p0.wL].all (fun x=>decide (x<18446744069414584321)))
((!r2)=true->
 1=r0)/\
((!r2)=false->
 ∃(I1:Int->Prop) (M1:Int->Nat),I1 0/\∀(b1:Int),(I1 b1->
(decide (b1<(p0.wC.length:Int))=true->
 ∃(I2:Int->Prop) (M2:Int->Nat),I2 0/\∀(f1:Int),(I2 f1->
(decide (f1<b1)=true->
(0<=b1)/\b1<(p0.wC.length:Int)/\(0<=f1)/\f1<(p0.wC.length:Int)/\(((ix p0.wC b1)==(ix p0.wC f1))=true->
 1=r0)/\
(((ix p0.wC b1)==(ix p0.wC f1))=false->
 I2 (i64.wrap (f1+1))/\M2 (i64.wrap (f1+1))<M2 f1))/\
(decide (f1<b1)=false->
 I1 (i64.wrap (b1+1))/\M1 (i64.wrap (b1+1))<M1 b1)))/\
(decide (b1<(p0.wC.length:Int))=false->
 ∃(I3:Int->Prop) (M3:Int->Nat),I3 0/\∀(i1:Int),(I3 i1->
(decide (i1<(p0.wH.length:Int))=true->
(0<=i1)/\i1<(p0.wH.length:Int)/\let v3:Bool:=decide (18446744069414584321<=((ix p0.wH i1).wn))
(v3=true->
 1=r0)/\
(v3=false->
(0<=(wAY.mk ((ix p0.wH i1).wAI) ((ix p0.wH i1).wAJ)).a0/\0<=(wAY.mk ((ix p0.wH i1).wAI) ((ix p0.wH i1).wAJ)).a1)/\let r4:Bool:=(vPoint (wAY.mk ((ix p0.wH i1).wAI) ((ix p0.wH i1).wAJ)).a0 (wAY.mk ((ix p0.wH i1).wAI) ((ix p0.wH i1).wAJ)).a1)
((!r4)=true->
 1=r0)/\
((!r4)=false->
 let v5:Bool:=((((ix p0.wH i1).wv).length:Int) !=3)
(v5=true->
 1=r0)/\
(v5=false->
(((ix p0.wH i1).wv).length<=9223372036854775807)/\let r6:Bool:=(((ix p0.wH i1).wv).all (fun x=>decide (x<18446744069414584321)))
((!r6)=true->
 1=r0)/\
((!r6)=false->
 I3 (i64.wrap (i1+1))/\M3 (i64.wrap (i1+1))<M3 i1)))))/\
(decide (i1<(p0.wH.length:Int))=false->
 ∀J1:Prop,((∀J2:Prop,(((decide (p0.wAC<0)=true->
 1=r0)/\
(decide (p0.wAC<0)=false->
(decide (1048576<p0.wAC)=true->
 1=r0)/\
(decide (1048576<p0.wAC)=false->
 let v7:Bool:=decide (1048576<(p0.wAP.length:Int))
(v7=true->
 3=r0)/\
(v7=false->
 0=r0))))->J2)->
((p0.wM==0)=true->
((p0.wL !=0)=true->
 1=r0)/\
((p0.wL !=0)=false->
(((p0.wC.length:Int)==0)=true->
 1=r0)/\
(((p0.wC.length:Int)==0)=false->
((p0.wQ==0)=true->
((p0.wZ !=0)=true->
 1=r0)/\
((p0.wZ !=0)=false->
 J2))/\
((p0.wQ==0)=false->
 J2))))/\
((p0.wM==0)=false->
 J2))->J1)->
(decide (4294967295<p0.wM)=true->
 1=r0)/\
(decide (4294967295<p0.wM)=false->
(decide (4294967295<p0.wQ)=true->
 1=r0)/\
(decide (4294967295<p0.wQ)=false->
(decide (4294967295<p0.Fee)=true->
 1=r0)/\
(decide (4294967295<p0.Fee)=false->
(decide (0<p0.wM)=true->
(decide (0<p0.wQ)=true->
 1=r0)/\
(decide (0<p0.wQ)=false->
 J1))/\
(decide (0<p0.wM)=false->
 J1))))))))))))) (by kernel_rfl)<|by
 rintro p0 h _ rfl
 obtain⟨hr,hl⟩:=h
 have e3:[p0.wAE,p0.wZ,p0.wL].all (fun x=>decide (x<18446744069414584321))=(decide (p0.wAE<18446744069414584321)&&(decide (p0.wZ<18446744069414584321)&&decide (p0.wL<18446744069414584321))):=by simp
 have bad:(vMarks p0.wC&&vOuts p0.wH&&vAmounts p0&&vRest p0)=false->1=validE p0:=by intro h;unfold validE;rw[h];rfl
 have badM:vMarks p0.wC=false->1=validE p0:=fun h=>bad (by rw[h];rfl)
 have badO:vOuts p0.wH=false->1=validE p0:=fun h=>bad (by rw[h];simp)
 have badA:vAmounts p0=false->1=validE p0:=fun h=>bad (by rw[h];simp)
 have badR:vRest p0=false->1=validE p0:=fun h=>bad (by rw[h];simp)
 refine⟨fun h=>badM ?_,fun h=>⟨fun h2=>badO ?_,fun h2=>⟨by have:=hl.m;omega,fun h3=>badM ?_,fun h3=>⟨by simp,fun h4=> ?_,fun h4=> ?_⟩⟩⟩⟩
 ·have h:=of_decide_eq_true h
  unfold vMarks
  rw[decide_eq_false (by omega)]
  rfl
 ·have h2:=of_decide_eq_true h2
  unfold vOuts
  rw[decide_eq_false (by omega)]
  rfl
 ·have h3:p0.wC.all (fun x=>decide (x<18446744069414584321))=false:=by simpa using h3
  unfold vMarks
  rw[h3]
  simp
 ·rw[e3]at h4
  have:vAmounts p0=false∨vRest p0=false:=by
   unfold vAmounts vRest
   grind
  exact this.elim badA badR
 have h:=of_decide_eq_false h
 have h2:=of_decide_eq_false h2
 have h3:p0.wC.all (fun x=>decide (x<18446744069414584321))=true:=by simpa using h3
 have h4:[p0.wAE,p0.wZ,p0.wL].all (fun x=>decide (x<18446744069414584321))=true:=by
  cases hq:[p0.wAE,p0.wZ,p0.wL].all (fun x=>decide (x<18446744069414584321))
  ·rw[hq]at h4;simp at h4
  ·rfl
 rw[e3]at h4
 simp only[Bool.and_eq_true,decide_eq_true_eq]at h4
 obtain⟨a1,a2,a3⟩:=h4
 refine⟨fun i=>0<=i/\i<=p0.wC.length/\(p0.wC.take i.toNat).Nodup,fun i=>(p0.wC.length-i).toNat,⟨by omega,by omega,by simp⟩,?_⟩
 rintro i ⟨g0,g1,g2⟩
 refine⟨fun hh=> ?_,fun hh=> ?_⟩
 ·have hh:=of_decide_eq_true hh
  refine⟨fun k=>0<=k/\k<=i/\∀x∈p0.wC.take k.toNat,x≠ix p0.wC i,fun k=>(i-k).toNat,⟨by omega,by omega,by simp⟩,?_⟩
  rintro k ⟨k0,k1,k2⟩
  refine⟨fun hk=> ?_,fun hk=> ?_⟩
  ·have hk:=of_decide_eq_true hk
   refine⟨g0,hh,k0,by omega,fun e=>badM ?_,fun e=> ?_⟩
   ·have e:ix p0.wC i=ix p0.wC k:=by simpa using e
    have:¬p0.wC.Nodup:=by
     intro hn
     rw[ix_nat _ i g0 hh,ix_nat _ k k0 (by omega)]at e
     have:=(List.getElem_inj hn).1 e
     omega
    unfold vMarks
    rw[decide_eq_false this]
    simp
   ·have e:¬ix p0.wC i=ix p0.wC k:=by simpa using e
    rw[inc k i k0 hk (by omega)]
    refine⟨⟨by omega,by omega,?_⟩,by(dsimp only;omega)⟩
    rw[ki p0.wC k k0 (by omega)]
    intro x hx
    rcases List.mem_append.1 hx with hx|hx
    ·exact k2 x hx
    ·have:x=ix p0.wC k:=by simpa using hx
     rw[this];exact fun e' =>e e'.symm
  ·have hk:=of_decide_eq_false hk
   have hki:k=i:=by omega
   subst hki
   have nxt:(0<=k+1/\k+1<=p0.wC.length/\(p0.wC.take (k+1).toNat).Nodup)/\(p0.wC.length-(k+1)).toNat<(p0.wC.length-k).toNat:=by
    refine⟨⟨by omega,by omega,?_⟩,by omega⟩
    rw[ki p0.wC k g0 hh]
    refine List.nodup_append.2 ⟨g2,by simp,fun a ha b hb=> ?_⟩
    have:b=ix p0.wC k:=by simpa using hb
    rw[this];exact k2 a ha
   have hi:=inc k p0.wC.length g0 hh (by omega)
   rw[hi]
   exact nxt
 ·have hh:=of_decide_eq_false hh
  rw[List.take_of_length_le (by omega)]at g2
  have vm:vMarks p0.wC=true:=by
   unfold vMarks
   rw[h3,decide_eq_true g2,decide_eq_true (by omega)]
   rfl
  refine⟨fun i=>0<=i/\i<=p0.wH.length/\∀x∈p0.wH.take i.toNat,vOut x=true,fun i=>(p0.wH.length-i).toNat,⟨by omega,by omega,by simp⟩,?_⟩
  rintro i ⟨g0,g1,g2⟩
  refine⟨fun hh=> ?_,fun hh J1 k1=> ?_⟩
  ·have hh:=of_decide_eq_true hh
   have hx:=hr.o _ (ix_mem p0.wH i g0 hh)
   have hlc:=hl.c _ (ix_mem p0.wH i g0 hh)
   have bd:vOut (ix p0.wH i)=false->1=validE p0:=by
    intro hb
    refine badO ?_
    unfold vOuts
    have:p0.wH.all vOut=false:=List.all_eq_false.2 ⟨_,ix_mem p0.wH i g0 hh,by simp[hb]⟩
    rw[this]
    simp
   unfold vOut at bd
   refine⟨g0,hh,fun e=>bd ?_,fun e=>⟨⟨hx.p0.1,hx.p1.1⟩,fun e2=>bd ?_,fun e2=>⟨fun e3=>bd ?_,fun e3=>⟨by omega,fun e4=>bd ?_,fun e4=> ?_⟩⟩⟩⟩
   ·have e:=of_decide_eq_true e
    rw[decide_eq_false (by omega)]
    rfl
   ·have e2:vPoint (ix p0.wH i).wAI (ix p0.wH i).wAJ=false:=by simpa using e2
    simp[e2]
   ·have e3:¬((ix p0.wH i).wv.length:Int)=3:=by simpa using e3
    have e3:¬(ix p0.wH i).wv.length=3:=by omega
    simp[e3]
   ·have e4:(ix p0.wH i).wv.all (fun x=>decide (x<18446744069414584321))=false:=by
     cases hq:(ix p0.wH i).wv.all (fun x=>decide (x<18446744069414584321))
     ·rfl
     ·rw[hq]at e4;simp at e4
    rw[e4]
    simp
   ·have e:=of_decide_eq_false e
    have e2:vPoint (ix p0.wH i).wAI (ix p0.wH i).wAJ=true:=by simpa using e2
    have e3:((ix p0.wH i).wv.length:Int)=3:=by simpa using e3
    have e4:(ix p0.wH i).wv.all (fun x=>decide (x<18446744069414584321))=true:=by
     cases hq:(ix p0.wH i).wv.all (fun x=>decide (x<18446744069414584321))
     ·rw[hq]at e4;simp at e4
     ·rfl
    have hv:vOut (ix p0.wH i)=true:=(k4s _).2 ⟨by omega,e2,by omega,by simpa using e4⟩
    rw[inc i p0.wH.length g0 hh (by omega)]
    refine⟨⟨by omega,by omega,?_⟩,by(dsimp only;omega)⟩
    rw[ki p0.wH i g0 hh]
    intro x hx
    rcases List.mem_append.1 hx with hx|hx
    ·exact g2 x hx
    ·have:x=ix p0.wH i:=by simpa using hx
     rw[this];exact hv
  ·have hh:=of_decide_eq_false hh
   rw[List.take_of_length_le (by omega)]at g2
   have vo:vOuts p0.wH=true:=by
    unfold vOuts
    have:p0.wH.all vOut=true:=by simpa using g2
    rw[this,decide_eq_true (by omega)]
    rfl
   have j1:vOuts p0.wH=true->p0.wM<=4294967295->p0.wQ<=4294967295->p0.Fee<=4294967295->(0<p0.wM->p0.wQ=0)->J1:=by
    intro vo d1 d2 d3 d4
    have hd:=hr.d
    have hw:=hr.w
    have fA:¬(p0.wM<=4294967295/\p0.wQ<=4294967295/\p0.Fee<=4294967295/\p0.wZ<18446744069414584321/\p0.wL<18446744069414584321/\(0<p0.wM->p0.wQ=0)/\(¬0<p0.wM->p0.wC≠[]/\p0.wL=0/\(0<p0.wQ∨p0.wZ=0)))->1=validE p0:=fun h=>badA (Bool.eq_false_iff.2 fun h' =>h ((k1r p0).1 h'))
    refine k1 fun J2 k2=> ?_
    have j2:vOuts p0.wH=true->vAmounts p0=true->J2:=by
     intro vo va
     refine k2 ⟨fun e=>badR ?_,fun e=>⟨fun e2=>badR ?_,fun e2=> ?_⟩⟩
     ·have e:=of_decide_eq_true e
      unfold vRest
      rw[decide_eq_false (p:=0<=p0.wAC) (by omega)]
      simp
     ·have e2:=of_decide_eq_true e2
      unfold vRest
      rw[decide_eq_false (p:=p0.wAC<=1048576) (by omega)]
      simp
     ·have e:=of_decide_eq_false e
      have e2:=of_decide_eq_false e2
      have vr:vRest p0=true:=by
       unfold vRest
       rw[decide_eq_true a1,decide_eq_true (p:=0<=p0.wAC) (by omega),decide_eq_true (p:=p0.wAC<=1048576) (by omega)]
       rfl
      unfold validE
      rw[vm,vo,va,vr]
      refine⟨fun e=> ?_,fun e=> ?_⟩
      ·have e:=of_decide_eq_true e
       simp;omega
      ·have e:=of_decide_eq_false e
       simp;omega
    refine⟨fun e=>⟨fun e2=>fA ?_,fun e2=>⟨fun e3=>fA ?_,fun e3=>⟨fun e4=>⟨fun e5=>fA ?_,fun e5=>j2 vo ((k1r p0).2 ?_)⟩,fun e4=>j2 vo ((k1r p0).2 ?_)⟩⟩⟩,fun e=>j2 vo ((k1r p0).2 ?_)⟩
    all_goals simp only[beq_iff_eq,bne_iff_ne,beq_eq_false_iff_ne,bne_eq_false_iff_eq,Int.natCast_eq_zero,List.length_eq_zero_iff]at *
    ·exact fun h=>by have:=h.2.2.2.2.2.2 (by omega);omega
    ·exact fun h=>(h.2.2.2.2.2.2 (by omega)).1 e3
    ·exact fun h=>by have:=(h.2.2.2.2.2.2 (by omega)).2.2;omega
    ·exact⟨d1,d2,d3,a2,a3,d4,fun _=>⟨fun hq=>e3 (by rw[hq];rfl),e2,.inr e5⟩⟩
    ·exact⟨d1,d2,d3,a2,a3,d4,fun _=>⟨fun hq=>e3 (by rw[hq];rfl),e2,.inl (by omega)⟩⟩
    ·exact⟨d1,d2,d3,a2,a3,d4,fun h=>by omega⟩
   have hd:=hr.d
   have hw:=hr.w
   have fA:¬(p0.wM<=4294967295/\p0.wQ<=4294967295/\p0.Fee<=4294967295/\(0<p0.wM->p0.wQ=0))->1=validE p0:=fun h=>badA (Bool.eq_false_iff.2 fun h' =>h (by have:=(k1r p0).1 h';exact⟨this.1,this.2.1,this.2.2.1,this.2.2.2.2.2.1⟩))
   refine⟨fun e=>fA ?_,fun e=>⟨fun e2=>fA ?_,fun e2=>⟨fun e3=>fA ?_,fun e3=>⟨fun e4=>⟨fun e5=>fA ?_,fun e5=>j1 vo ?_ ?_ ?_ ?_⟩,fun e4=>j1 vo ?_ ?_ ?_ ?_⟩⟩⟩⟩
   all_goals simp only[decide_eq_true_eq,decide_eq_false_iff_not]at *
   all_goals omega
noncomputable def kcv:Con TB.den:= .gp 48 [.st 13] [.sl yqu] [] fun(p0:wt)=>((1<=p0.wK/\p0.wK<=100)/\p0.we.length<=1000000,(ancL p0.we p0.wK:List Int),())
theorem k3o:kcv.Ok Tryz.prog TB:=qrv Bs Tryz.func48 .no c0 (Q:=∀(p0:wt),((1<=p0.wK/\p0.wK<=100)/\p0.we.length<=1000000)->∀r0:List Int,ancL p0.we p0.wK=r0-> 
 let v1:Bool:=decide ((p0.we.length:Int)<=p0.wK)
(v1=true->
 p0.we=r0)/\
(v1=false->
 let v2:Int:=i64.wrap ((p0.we.length:Int)-p0.wK)
(0<=v2)/\v2<=(p0.we.length:Int)/\p0.we.drop v2.toNat=r0)) (by kernel_rfl)<|by
 rintro p0 h _ rfl
 obtain⟨⟨h1,h2⟩,h3⟩:=h
 refine⟨fun e=> ?_,fun e=> ?_⟩
 ·have e:=of_decide_eq_true e
  unfold ancL
  rw[show p0.we.length-p0.wK.toNat=0 by omega]
  rfl
 ·have e:=of_decide_eq_false e
  rw[kh _ (by omega) (by omega)]
  refine⟨by omega,by omega,?_⟩
  unfold ancL
  rw[show((p0.we.length:Int)-p0.wK).toNat=p0.we.length-p0.wK.toNat by omega]
noncomputable def kjf:Con TB.den:= .gp 50 [.sl yqu,yqu] [.bool] [] fun(p0:List Int) (p1:Int)=>(p0.length<=1000000,(decide (p1∈p0):Bool),())
theorem kjs:kjf.Ok Tryz.prog TB:=qrv Bs Tryz.func50 (.r 0 (.nd [] (.r 0 (.lp [] ⟨[],[],[5],[.one (zqi)],[]⟩ .no)) [] .no)) c0 (Q:=∀(p0:List Int) (p1:Int),(p0.length<=1000000)->∀r0:Bool,(decide (p1∈p0))=r0-> 
 ∃(I1:Int->Prop) (M1:Int->Nat),I1 0/\∀(b1:Int),(I1 b1->
(decide (b1<(p0.length:Int))=true->
(0<=b1)/\b1<(p0.length:Int)/\(((ix p0 b1)==p1)=true->
 true=r0)/\
(((ix p0 b1)==p1)=false->
 I1 (i64.wrap (b1+1))/\M1 (i64.wrap (b1+1))<M1 b1))/\
(decide (b1<(p0.length:Int))=false->
 false=r0))) (by kernel_rfl)<|by
 rintro p0 p1 h _ rfl
 refine(⟨(fun a=>∃i:Nat,a=(i:Int)/\i<=p0.length/\p1∉p0.take i),(fun a=>(p0.length-a).toNat),⟨0,rfl,by omega,by simp⟩,?_⟩)
 rintro _ ⟨i,rfl,hi,hm⟩
 refine⟨fun e=> ?_,fun e=> ?_⟩
 ·have e:i<p0.length:=by have:=of_decide_eq_true e;omega
  rw[ix_get _ _ e,inc_i64 _ (by omega)]
  refine⟨by omega,by omega,fun e2=> ?_,fun e2=>⟨⟨i+1,rfl,by omega,?_⟩,by(dsimp only;omega)⟩⟩
  ·have e2:p0[i]=p1:=by simpa using e2
   rw[<-e2,decide_eq_true (List.getElem_mem e)]
  ·have e2:¬p0[i]=p1:=by simpa using e2
   rw[List.take_succ_eq_append_getElem e]
   simp only[List.mem_append,List.mem_singleton]
   exact fun hh=>hh.elim hm fun h=>e2 h.symm
 ·have e:i=p0.length:=by have:=of_decide_eq_false e;omega
  subst e
  rw[List.take_length]at hm
  rw[decide_eq_false hm]
noncomputable def kfp:Con TB.den:= .gp 22 [.st 13,.st 2] [yqi] [] fun(p0:wt) (p1:wo)=>(ROk p0/\TR p1/\TL p1,(rchk p0 p1:Int),())
theorem k8f:kfp.Ok Tryz.prog TB:=qrv Bs Tryz.func22 (.r 3 (.nd [] (.r 0 (.lp [] ⟨[],[],[6],[.one (zqi)],[]⟩ .no)) [] (.jn ⟨[],[],[],[],[]⟩ [] .no [] .no))) (kgp.c (k3o.c (kjs.c (k89.c c0)))) (Q:=∀(p0:wt) (p1:wo),(ROk p0/\TR p1/\TL p1)->∀r0:Int,rchk p0 p1=r0-> 
(TR p1/\TL p1)/\(((validE p1) !=0)=true->
(validE p1)=r0)/\
(((validE p1) !=0)=false->
 let v1:Bool:=decide (p1.wAC<(i64.wrap (p0.wS+1)))
(v1=true->
 14=r0)/\
(v1=false->
((1<=p0.wK/\p0.wK<=100)/\p0.we.length<=1000000)/\((ancL p0.we p0.wK).length<=1000000)/\let r2:Bool:=(decide (p1.wAE∈(ancL p0.we p0.wK)))
((!r2)=true->
 11=r0)/\
((!r2)=false->
 ∃(I1:Int->Prop) (M1:Int->Nat),I1 0/\∀(b1:Int),(I1 b1->
(decide (b1<(p1.wC.length:Int))=true->
(0<=b1)/\b1<(p1.wC.length:Int)/\(p0.wC.length<=1000000)/\((decide ((ix p1.wC b1)∈p0.wC))=true->
 12=r0)/\
((decide ((ix p1.wC b1)∈p0.wC))=false->
 I1 (i64.wrap (b1+1))/\M1 (i64.wrap (b1+1))<M1 b1))/\
(decide (b1<(p1.wC.length:Int))=false->
 ∀J1:Prop,((let v4:Int:=u64.wrap (p0.wz+p1.wM)
 let v5:Bool:=decide (v4<(u64.wrap (p1.wQ+p1.Fee)))
(v5=true->
 13=r0)/\
(v5=false->
 let v6:Int:=i64.wrap ((p0.wq.length:Int)+(p1.wH.length:Int))
(0<=u64.wrap p0.wa)/\let v7:Int:=ishl .i64 1 (u64.wrap p0.wa)
(decide (v7<v6)=true->
 16=r0)/\
(decide (v7<v6)=false->
 0=r0)))->J1)->
(decide (0<p1.wM)=true->
(OkA p0.wB/\U64 p1.wM/\U64 p1.wL)/\let r3:=debitA p0.wB p1.wZ p1.wM p1.wL
((r3.2 !=0)=true->
 r3.2=r0)/\
((r3.2 !=0)=false->
 J1))/\
(decide (0<p1.wM)=false->
 J1))))))) (by kernel_rfl)<|by
 rintro p0 p1 h _ rfl
 obtain⟨hr,ht,hl⟩:=h
 have hd1:=hr.d1
 have hd2:=hr.d2
 have hh:=hr.h
 have hml0:=hr.ml
 have hll:=hr.ll
 have hrl:=hr.rl
 have hp12:=pow12 p0.wa.toNat (by omega)
 generalize hR0:rchk p0 p1=R
 have hR:chk p0.wS (ancL p0.we p0.wK) p0.wC p0.wB p0.wz p0.wq.length p0.wa p1=R:=hR0
 clear hR0
 unfold chk at hR
 refine⟨⟨ht,hl⟩,fun e=> ?_,fun e=> ?_⟩
 ·have e:validE p1≠0:=by simpa using e
  rw[if_pos e]at hR
  exact hR
 have e:validE p1=0:=by simpa using e
 have vt:=(k1n p1).1 e
 have hol:=vt.ol
 have hml:=vt.ml
 rw[if_neg (by rw[e];decide)]at hR
 have ei:i64.wrap (p0.wS+1)=p0.wS+1:=kh _ (by omega) (by omega)
 rw[ei]
 refine⟨fun e2=> ?_,fun e2=>⟨⟨⟨hr.w1,hr.w2⟩,hrl⟩,?_,fun e3=> ?_,fun e3=> ?_⟩⟩
 ·rw[if_pos (of_decide_eq_true e2)]at hR
  exact hR
 ·unfold ancL
  rw[List.length_drop]
  omega
 ·have e3:p1.wAE∉ancL p0.we p0.wK:=by simpa using e3
  rw[if_neg (of_decide_eq_false e2),if_pos e3]at hR
  exact hR
 have e3:¬p1.wAE∉ancL p0.we p0.wK:=by simpa using e3
 rw[if_neg (of_decide_eq_false e2),if_neg e3]at hR
 refine⟨fun a=>∃i:Nat,a=(i:Int)/\i<=p1.wC.length/\((p1.wC.take i).any fun m=>decide (m∈p0.wC))=false,fun a=>(p1.wC.length-a).toNat,⟨0,rfl,by omega,rfl⟩,?_⟩
 rintro _ ⟨i,rfl,hi,hm⟩
 refine⟨fun e4=> ?_,fun e4 J1 j=> ?_⟩
 ·have e4:i<p1.wC.length:=by have:=of_decide_eq_true e4;omega
  rw[ix_get _ _ e4,inc_i64 _ (by omega)]
  refine⟨by omega,by omega,by omega,fun e5=> ?_,fun e5=>⟨⟨i+1,rfl,by omega,?_⟩,by(dsimp only;omega)⟩⟩
  ·rw[if_pos (List.any_eq_true.2 ⟨_,List.getElem_mem e4,e5⟩)]at hR
   exact hR
  ·rw[List.take_succ_eq_append_getElem e4,List.any_append,hm,List.any_cons,e5]
   rfl
 ·have e4:i=p1.wC.length:=by have:=of_decide_eq_false e4;omega
  subst e4
  rw[List.take_length]at hm
  have j1:(p1.wC.any fun m=>decide (m∈p0.wC))=false->¬(0<p1.wM/\(debitA p0.wB p1.wZ p1.wM p1.wL).2≠0)->J1:=by
   intro g1 g2
   rw[if_neg (by rw[g1];decide),if_neg g2]at hR
   obtain⟨d,hd⟩:=Int.eq_ofNat_of_zero_le (show 0<=p0.wa by omega)
   have hdn:p0.wa.toNat=d:=by omega
   rw[hdn]at hR hp12
   have ew:u64.wrap p0.wa=(d:Int):=by rw[wrap_u64 _ (by omega) (by omega)];exact hd
   refine j ⟨fun e4=> ?_,fun e4=> ?_⟩
   ·rw[if_pos (of_decide_eq_true e4)]at hR
    exact hR
   ·rw[if_neg (of_decide_eq_false e4)]at hR
    rw[ew,kh _ (by omega) (by omega),shl1 d (by omega)]
    refine⟨by omega,fun e5=> ?_,fun e5=> ?_⟩
    ·rw[if_pos (by have:=of_decide_eq_true e5;omega)]at hR
     exact hR
    ·rw[if_neg (by have:=of_decide_eq_false e5;omega)]at hR
     exact hR
  refine⟨fun e5=>⟨⟨hr.a,ht.d,ht.n⟩,fun e6=> ?_,fun e6=>j1 hm ?_⟩,fun e5=>j1 hm ?_⟩
  ·have e5:=of_decide_eq_true e5
   have e6:(debitA p0.wB p1.wZ p1.wM p1.wL).2≠0:=by simpa using e6
   rw[if_neg (by rw[hm];decide),if_pos ⟨e5,e6⟩]at hR
   exact hR
  ·have e6:(debitA p0.wB p1.wZ p1.wM p1.wL).2=0:=by simpa using e6
   exact fun hh=>hh.2 e6
  ·have e5:=of_decide_eq_false e5
   exact fun hh=>e5 hh.1
noncomputable def kdv:Con TB.den:= .gp 95 [.sl yqu,yqu] [.sl yqu] [] fun(p0:List Int) (p1:Int)=>(p0.length<=1000000,(insI p1 p0:List Int),())
theorem kfc:kdv.Ok Tryz.prog TB:=qrv Bs Tryz.func95 (.r 1 (.jn ⟨[],[],[5],[.one (zqi)],[]⟩ [] (.lp [] ⟨[],[],[5],[.one (zqi)],[]⟩ .no) [] .no)) c0 (Q:=∀(p0:List Int) (p1:Int),(p0.length<=1000000)->∀r0:List Int,insI p1 p0=r0-> 
 ∀J1:Int->Prop,(∀(b1:Int),
((0<=b1)/\b1<=(p0.length:Int)/\(([]:List Int).length+(p0.take b1.toNat).length)*8<=140737488355328/\([]:List Int).length+(p0.take b1.toNat).length<=maxLen/\(([]:List Int)++(p0.take b1.toNat)).length=(([]:List Int)++(p0.take b1.toNat)).length/\((([]:List Int)++(p0.take b1.toNat)).length+[p1].length)*8<=140737488355328/\(([]:List Int)++(p0.take b1.toNat)).length+[p1].length<=maxLen/\let v1:List Int:=(([]:List Int)++(p0.take b1.toNat))++[p1]
(0<=b1)/\b1<=(p0.length:Int)/\v1.length=v1.length/\(v1.length+(p0.drop b1.toNat).length)*8<=140737488355328/\v1.length+(p0.drop b1.toNat).length<=maxLen/\v1++(p0.drop b1.toNat)=r0)->J1 b1)->
 ∃(I1:Int->Prop) (M1:Int->Nat),I1 0/\∀(f1:Int),(I1 f1->
(decide (f1<(p0.length:Int))=true->
(0<=f1)/\f1<(p0.length:Int)/\(decide ((ix p0 f1)<p1)=true->
 I1 (i64.wrap (f1+1))/\M1 (i64.wrap (f1+1))<M1 f1)/\
(decide ((ix p0 f1)<p1)=false->
 J1 f1))/\
(decide (f1<(p0.length:Int))=false->
 J1 f1))) (by kernel_rfl)<|by
 rintro p0 p1 h _ rfl
 have ins:∀(l r:List Int),(∀x∈l,x<p1)->(∀x∈r.head?,p1<=x)->insI p1 (l++r)=l++[p1]++r:=by
  intro l
  induction l with
  |nil=>
   intro r _ h2
   cases r with
   |nil=>rfl
   |cons y r=>show insI p1 (y::r)=_;unfold insI;rw[if_pos (h2 y (by simp))];rfl
  |cons y l ih=>
   intro r h1 h2
   have:=h1 y (by simp)
   show insI p1 (y::(l++r))=_
   unfold insI
   rw[if_neg (by omega),ih r (fun x hx=>h1 x (by simp[hx])) h2]
   rfl
 intro J1 j1
 have j1:∀i:Nat,i<=p0.length->insI p1 p0=p0.take i++[p1]++p0.drop i->J1 (i:Int):=by
  intro i hi he
  have h1:(p0.take i).length=i:=by rw[List.length_take];omega
  have h2:(p0.drop i).length=p0.length-i:=List.length_drop
  refine j1 _ ?_
  rw[he]
  simp only[Int.toNat_natCast,List.nil_append]
  refine⟨by omega,by omega,?_,?_,(by first|exact rfl|exact True.intro),?_,?_,by omega,by omega,(by first|exact rfl|exact True.intro),?_,?_,(by first|exact rfl|exact True.intro)⟩
  all_goals simp only[List.length_append,List.length_cons,List.length_nil]
  all_goals first|omega|(unfold maxLen;omega)
 refine⟨fun a=>∃i:Nat,a=(i:Int)/\i<=p0.length/\∀x∈p0.take i,x<p1,fun a=>(p0.length-a).toNat,⟨0,rfl,by omega,by simp⟩,?_⟩
 rintro _ ⟨i,rfl,hi,hm⟩
 refine⟨fun e=> ?_,fun e=>j1 i hi ?_⟩
 ·have e:i<p0.length:=by have:=of_decide_eq_true e;omega
  rw[ix_get _ _ e,inc_i64 _ (by omega)]
  refine⟨by omega,by omega,fun e2=>⟨⟨i+1,rfl,by omega,?_⟩,by(dsimp only;omega)⟩,fun e2=>j1 i hi ?_⟩
  ·have e2:=of_decide_eq_true e2
   rw[List.take_succ_eq_append_getElem e]
   intro x hx
   rcases List.mem_append.1 hx with hx|hx
   ·exact hm x hx
   ·rw[List.mem_singleton.1 hx];exact e2
  ·have e2:=of_decide_eq_false e2
   have:=ins (p0.take i) (p0.drop i) hm (by
    rw[List.drop_eq_getElem_cons e]
    intro x hx
    rw[List.head?_cons]at hx
    have hx:p0[i]=x:=Option.some.inj hx
    omega)
   rw[List.take_append_drop]at this
   exact this
 ·have e:i=p0.length:=by have:=of_decide_eq_false e;omega
  have:=ins (p0.take i) (p0.drop i) hm (by rw[List.drop_eq_nil_of_le (by omega)];intro x hx;cases hx)
  rw[List.take_append_drop]at this
  exact this
noncomputable def kd4:Con TB.den:= .gp 68 [.st 13,.st 2] [.st 13,yqi] [] fun(p0:wt) (p1:wo)=>(ROk p0/\TR p1/\TL p1,((rperf p0 p1).m:wt),((rperf p0 p1).e:Int),())
theorem kdq:kd4.Ok Tryz.prog TB:=qrv Bs Tryz.func68 (.r 1 (.nd [] (.r 0 (.lp [] ⟨[0],[.cells [zqi,zqi,zqi,zqi,zqi,zqu,zqi,zqi,zqu,zqi,zql,zql,.d (.sl (.st 8)),zqu,zql]],[7],[.one (zqi)],[]⟩ .no)) [] (.r 0 (.nd [] (.r 0 (.lp [] ⟨[0,4],[.cells [zqi,zqi,zqi,zqi,zqi,zqu,zqi,zqi,zqu,zqi,.own 1,zql,.d (.sl (.st 8)),zqu,zql],.tip yqu],[8],[.one (zqi)],[]⟩ .no)) [] (.r 0 (.jn ⟨[0,4],[.cells [zqi,zqi,zqi,zqi,zqi,zqu,zqi,zqi,zqu,zqi,.own 1,zql,.d (.sl (.st 8)),zqu,zql],.tip yqu],[9],[.one (zqi)],[]⟩ [] .no [] (.jn ⟨[0,4],[.cells [zqi,zqi,zqi,zqi,zqi,zqu,zqi,zqi,zqu,zqi,.own 1,zql,.d (.sl (.st 8)),zqu,zql],.tip yqu],[9],[.one (zqi)],[]⟩ [] .no [] .no))))))) (k8f.c (kfc.c (k89.c (k7o.c c0)))) (Q:=∀(p0:wt) (p1:wo),(ROk p0/\TR p1/\TL p1)->∀r0:wt,((rperf p0 p1).m)=r0->∀r1:Int,((rperf p0 p1).e)=r1-> 
(ROk p0/\TR p1/\TL p1)/\(((rchk p0 p1) !=0)=true->
 p0.wx=r0.wx/\p0.wa=r0.wa/\p0.wX=r0.wX/\p0.wW=r0.wW/\p0.wT=r0.wT/\p0.wc=r0.wc/\p0.wK=r0.wK/\p0.wg=r0.wg/\p0.ww=r0.ww/\p0.wS=r0.wS/\p0.wq=r0.wq/\p0.wC=r0.wC/\p0.wB=r0.wB/\p0.wz=r0.wz/\p0.we=r0.we/\(rchk p0 p1)=r1)/\
(((rchk p0 p1) !=0)=false->
 ∃(I1:Int->Int->Int->Int->Int->Int->Int->Int->Int->Int->Int->(List Int)->(List Int)->(List wA)->Int->(List Int)->Prop) (M1:Int->Int->Int->Int->Int->Int->Int->Int->Int->Int->Int->(List Int)->(List Int)->(List wA)->Int->(List Int)->Nat),I1 0 p0.wx p0.wa p0.wX p0.wW p0.wT p0.wc p0.wK p0.wg p0.ww p0.wS p0.wq p0.wC p0.wB p0.wz p0.we/\∀(b1 f1 i1 k1 l1 m1 n1 o1 q1 s1 t1:Int) (u1 x1:List Int) (y1:List wA) (b2:Int) (f2:List Int),(I1 b1 f1 i1 k1 l1 m1 n1 o1 q1 s1 t1 u1 x1 y1 b2 f2->
(decide (b1<(p1.wC.length:Int))=true->
(0<=b1)/\b1<(p1.wC.length:Int)/\(x1.length<=1000000)/\I1 (i64.wrap (b1+1)) f1 i1 k1 l1 m1 n1 o1 q1 s1 t1 u1 (insI (ix p1.wC b1) x1) y1 b2 f2/\M1 (i64.wrap (b1+1)) f1 i1 k1 l1 m1 n1 o1 q1 s1 t1 u1 (insI (ix p1.wC b1) x1) y1 b2 f2<M1 b1 f1 i1 k1 l1 m1 n1 o1 q1 s1 t1 u1 x1 y1 b2 f2)/\
(decide (b1<(p1.wC.length:Int))=false->
(([]:List Int).length+u1.length)*8<=140737488355328/\([]:List Int).length+u1.length<=maxLen/\(([]:List Int)++u1=([]:List Int)++u1)/\∃(I2:Int->Int->Int->Int->Int->Int->Int->Int->Int->Int->Int->(List Int)->(List wA)->Int->(List Int)->(List Int)->Prop) (M2:Int->Int->Int->Int->Int->Int->Int->Int->Int->Int->Int->(List Int)->(List wA)->Int->(List Int)->(List Int)->Nat),I2 0 f1 i1 k1 l1 m1 n1 o1 q1 s1 t1 x1 y1 b2 f2 (([]:List Int)++u1)/\∀(i2 k2 l2 m2 n2 o2 q2 s2 t2 u2 x2:Int) (y2:List Int) (b3:List wA) (f3:Int) (i3 k3:List Int),(I2 i2 k2 l2 m2 n2 o2 q2 s2 t2 u2 x2 y2 b3 f3 i3 k3->
(decide (i2<(p1.wH.length:Int))=true->
(0<=i2)/\i2<(p1.wH.length:Int)/\k3.length=k3.length/\(k3.length+[(ix p1.wH i2).wn].length)*8<=140737488355328/\k3.length+[(ix p1.wH i2).wn].length<=maxLen/\(k3++[(ix p1.wH i2).wn]=k3++[(ix p1.wH i2).wn])/\I2 (i64.wrap (i2+1)) k2 l2 m2 n2 o2 q2 s2 t2 u2 x2 y2 b3 f3 i3 (k3++[(ix p1.wH i2).wn])/\M2 (i64.wrap (i2+1)) k2 l2 m2 n2 o2 q2 s2 t2 u2 x2 y2 b3 f3 i3 (k3++[(ix p1.wH i2).wn])<M2 i2 k2 l2 m2 n2 o2 q2 s2 t2 u2 x2 y2 b3 f3 i3 k3)/\
(decide (i2<(p1.wH.length:Int))=false->
 ∀J1:Int->Int->Int->Int->Int->Int->Int->Int->Int->Int->Int->(List Int)->(List wA)->Int->(List Int)->(List Int)->Prop,(∀(l3 m3 n3 o3 q3 s3 t3 u3 x3 y3 b4:Int) (f4:List Int) (i4:List wA) (k4:Int) (l4 m4:List Int),
(∀J2:Int->Int->Int->Int->Int->Int->Int->Int->Int->Int->Int->(List Int)->(List wA)->Int->(List Int)->(List Int)->Prop,(∀(n4 o4 q4 s4 t4 u4 x4 y4 b5 f5 i5:Int) (k5:List Int) (l5:List wA) (m5:Int) (n5 o5:List Int),
(let v3:Int:=u64.wrap ((u64.wrap (m5+p1.wM))-p1.wQ)
 o4=r0.wx/\q4=r0.wa/\s4=r0.wX/\t4=r0.wW/\u4=r0.wT/\x4=r0.wc/\y4=r0.wK/\b5=r0.wg/\f5=r0.ww/\i5=r0.wS/\o5=r0.wq/\k5=r0.wC/\l5=r0.wB/\u64.wrap (v3-p1.Fee)=r0.wz/\n5=r0.we/\n4=r1)->J2 n4 o4 q4 s4 t4 u4 x4 y4 b5 f5 i5 k5 l5 m5 n5 o5)->
(decide (0<p1.wQ)=true->
(OkA i4/\U64 p1.wQ)/\(m4=m4)/\J2 ((creditA i4 p1.wZ p1.wQ).2) m3 n3 o3 q3 s3 t3 u3 x3 y3 b4 f4 ((creditA i4 p1.wZ p1.wQ).1) k4 l4 m4)/\
(decide (0<p1.wQ)=false->
(m4=m4)/\J2 l3 m3 n3 o3 q3 s3 t3 u3 x3 y3 b4 f4 i4 k4 l4 m4))->J1 l3 m3 n3 o3 q3 s3 t3 u3 x3 y3 b4 f4 i4 k4 l4 m4)->
(decide (0<p1.wM)=true->
(OkA b3/\U64 p1.wM/\U64 p1.wL)/\let r2:=debitA b3 p1.wZ p1.wM p1.wL
(k3=k3)/\J1 r2.2 k2 l2 m2 n2 o2 q2 s2 t2 u2 x2 y2 r2.1 f3 i3 k3)/\
(decide (0<p1.wM)=false->
(k3=k3)/\J1 0 k2 l2 m2 n2 o2 q2 s2 t2 u2 x2 y2 b3 f3 i3 k3))))))) (by kernel_rfl)<|by
 rintro p0 p1 h _ rfl _ rfl
 obtain⟨hr,ht,hl⟩:=h
 generalize hR:rperf p0 p1=R
 unfold rperf at hR
 refine⟨⟨hr,ht,hl⟩,fun e=> ?_,fun e=> ?_⟩
 ·have e:rchk p0 p1≠0:=by simpa using e
  rw[if_pos e]at hR
  subst hR
  exact(by repeat' first|apply And.intro|exact rfl|exact True.intro)
 have e:rchk p0 p1=0:=by simpa using e
 rw[if_neg (fun hh=>hh e)]at hR
 have vt:VT p1/\(0<p1.wM->(debitA p0.wB p1.wZ p1.wM p1.wL).2=0):=by
  have e2:=e
  unfold rchk chk at e2
  split at e2
  ·rename_i h1;exact(h1 e2).elim
  ·rename_i h1
   refine⟨(k1n p1).1 (Classical.byContradiction h1),fun hd=> ?_⟩
   split at e2
   ·cases e2
   ·split at e2
    ·cases e2
    ·split at e2
     ·cases e2
     ·split at e2
      ·rename_i h5;exact(h5.2 e2).elim
      ·rename_i h5;exact Classical.byContradiction fun hn=>h5 ⟨hd,hn⟩
 obtain⟨vt,hdd⟩:=vt
 have hml:=vt.ml
 have hol:=vt.ol
 have hml0:=hr.ml
 have hll:=hr.ll
 have hal:=hr.al
 obtain⟨a1,a2,a3,a4,a5⟩:=vt.am'
 have hdA:OkA (depA p0.wB p1):=by
  unfold depA
  split
  ·exact kn1 hr.a hal ⟨ht.ac.1,a4⟩ ht.d.1 ht.n
  ·exact hr.a
 have il:∀x (l:List Int),(insI x l).length=l.length+1:=fun x l=>(k40 x l).length_eq
 refine⟨fun a y0 y1 y2 y3 y4 y5 y6 y7 y8 hh lv g ac hd rt=>(p0.wx=y0/\p0.wa=y1/\p0.wX=y2/\p0.wW=y3/\p0.wT=y4/\p0.wc=y5/\p0.wK=y6/\p0.wg=y7/\p0.ww=y8/\p0.wS=hh/\p0.wq=lv/\p0.wB=ac/\p0.wz=hd/\p0.we=rt)/\∃i:Nat,a=(i:Int)/\i<=p1.wC.length/\g=(p1.wC.take i).foldl (fun a x=>insI x a) p0.wC/\g.length=p0.wC.length+i,fun a _ _ _ _ _ _ _ _ _ _ _ _ _ _ _=>(p1.wC.length-a).toNat,⟨⟨rfl,rfl,rfl,rfl,rfl,rfl,rfl,rfl,rfl,rfl,rfl,rfl,rfl,rfl⟩,0,rfl,by omega,rfl,by omega⟩,?_⟩
 rintro _ _ _ _ _ _ _ _ _ _ _ _ _ _ _ _ ⟨⟨rfl,rfl,rfl,rfl,rfl,rfl,rfl,rfl,rfl,rfl,rfl,rfl,rfl,rfl⟩,i,rfl,hi,rfl,hgl⟩
 refine⟨fun e=> ?_,fun e=> ?_⟩
 ·have e:i<p1.wC.length:=by have:=of_decide_eq_true e;omega
  rw[ix_get _ _ e,inc_i64 _ (by omega)]
  refine⟨by omega,by omega,by omega,⟨⟨rfl,rfl,rfl,rfl,rfl,rfl,rfl,rfl,rfl,rfl,rfl,rfl,rfl,rfl⟩,i+1,rfl,by omega,?_,?_⟩,by(dsimp only;omega)⟩
  ·rw[List.take_succ_eq_append_getElem e,List.foldl_append]
   rfl
  ·rw[il,hgl]
   omega
 have e:i=p1.wC.length:=by have:=of_decide_eq_false e;omega
 subst e
 rw[List.take_length]
 refine⟨by simp;omega,by simp;unfold maxLen;omega,rfl,?_⟩
 refine⟨fun a y0 y1 y2 y3 y4 y5 y6 y7 y8 hh mk ac hd rt g=>(p0.wx=y0/\p0.wa=y1/\p0.wX=y2/\p0.wW=y3/\p0.wT=y4/\p0.wc=y5/\p0.wK=y6/\p0.wg=y7/\p0.ww=y8/\p0.wS=hh/\(p1.wC.foldl (fun a x=>insI x a) p0.wC)=mk/\p0.wB=ac/\p0.wz=hd/\p0.we=rt)/\∃i:Nat,a=(i:Int)/\i<=p1.wH.length/\g=p0.wq++(p1.wH.take i).map (·.wn),fun a _ _ _ _ _ _ _ _ _ _ _ _ _ _ _=>(p1.wH.length-a).toNat,⟨⟨rfl,rfl,rfl,rfl,rfl,rfl,rfl,rfl,rfl,rfl,rfl,rfl,rfl,rfl⟩,0,rfl,by omega,by simp⟩,?_⟩
 rintro _ _ _ _ _ _ _ _ _ _ _ _ _ _ _ _ ⟨⟨rfl,rfl,rfl,rfl,rfl,rfl,rfl,rfl,rfl,rfl,rfl,rfl,rfl,rfl⟩,i,rfl,hi,rfl⟩
 refine⟨fun e=> ?_,fun e=> ?_⟩
 ·have e:i<p1.wH.length:=by have:=of_decide_eq_true e;omega
  have hgl:(p0.wq++(p1.wH.take i).map (·.wn)).length=p0.wq.length+i:=by simp only[List.length_append,List.length_map,List.length_take];omega
  rw[ix_get _ _ e,inc_i64 _ (by omega)]
  refine⟨by omega,by omega,rfl,?_,?_,rfl,⟨⟨rfl,rfl,rfl,rfl,rfl,rfl,rfl,rfl,rfl,rfl,rfl,rfl,rfl,rfl⟩,i+1,rfl,by omega,?_⟩,by(dsimp only;omega)⟩
  ·rw[hgl];simp only[List.length_cons,List.length_nil];omega
  ·rw[hgl];simp only[List.length_cons,List.length_nil];unfold maxLen;omega
  ·rw[List.take_succ_eq_append_getElem e,List.map_append,List.append_assoc]
   rfl
 have e:i=p1.wH.length:=by have:=of_decide_eq_false e;omega
 subst e
 rw[List.take_length]
 intro J1 j
 have j1:∀b',b' =depA p0.wB p1->J1 0 p0.wx p0.wa p0.wX p0.wW p0.wT p0.wc p0.wK p0.wg p0.ww p0.wS (p1.wC.foldl (fun a x=>insI x a) p0.wC) b' p0.wz p0.we (p0.wq++p1.wH.map (·.wn)):=by
  intro b' h1
  subst h1
  refine j _ _ _ _ _ _ _ _ _ _ _ _ _ _ _ _ fun J2 k=> ?_
  have j2:∀(e:Int) b',e=(wdA p0.wB p1).2->b' =(wdA p0.wB p1).1->J2 e p0.wx p0.wa p0.wX p0.wW p0.wT p0.wc p0.wK p0.wg p0.ww p0.wS (p1.wC.foldl (fun a x=>insI x a) p0.wC) b' p0.wz p0.we (p0.wq++p1.wH.map (·.wn)):=by
   intro e b' h1 h2
   subst hR
   subst h1
   subst h2
   exact k _ _ _ _ _ _ _ _ _ _ _ _ _ _ _ _ (by repeat' first|apply And.intro|exact rfl|exact True.intro)
  refine⟨fun e=>⟨⟨hdA,ht.w⟩,rfl,j2 _ _ ?_ ?_⟩,fun e=>⟨rfl,j2 _ _ ?_ ?_⟩⟩
  ·unfold wdA;rw[if_pos (of_decide_eq_true e)]
  ·unfold wdA;rw[if_pos (of_decide_eq_true e)]
  ·unfold wdA;rw[if_neg (of_decide_eq_false e)]
  ·unfold wdA;rw[if_neg (of_decide_eq_false e)]
 refine⟨fun e2=>⟨⟨hr.a,ht.d,ht.n⟩,rfl,?_⟩,fun e2=>⟨rfl,j1 _ ?_⟩⟩
 ·rw[hdd (of_decide_eq_true e2)]
  refine j1 _ ?_
  unfold depA;rw[if_pos (of_decide_eq_true e2)]
 ·unfold depA;rw[if_neg (of_decide_eq_false e2)]
noncomputable def kfb:Con TB.den:= .gp 36 [.st 13,.st 10] [.st 13,yqi] [] fun(p0:wt) (p1:wV)=>((∃(s:PS) (c:Nat),p0=mOf s/\c+p1.Txs.length<=790/\PI s c 0)/\BR' p1,((rapply p0 p1).m:wt),((rapply p0 p1).e:Int),())
theorem ki0:kfb.Ok Tryz.prog TB:=qrx Bs [73,76,83,84] Tryz.func36 (.r 5 (.nd [] (.r 0 (.lp [] ⟨[3],[.cells [zqi,zqi,zqi,zqi,zqi,zqu,zqi,zqi,zqu,zqi,zql,zql,.d (.sl (.st 8)),zqu,zql]],[7,8,9],[.one (zqu),.one (.any),.one (zqi)],[]⟩ .no)) [] (.r 4 (.rt [.frzc 48 2 14])))) x0 (kdq.c (k7o.c (k8s.c c0))) (Q:=∀(p0:wt) (p1:wV),((∃(s:PS) (c:Nat),p0=mOf s/\c+p1.Txs.length<=790/\PI s c 0)/\BR' p1)->∀r0:wt,((rapply p0 p1).m)=r0->∀r1:Int,((rapply p0 p1).e)=r1-> 
 let v2:Bool:=(p1.wS !=(i64.wrap (p0.wS+1)))
(v2=true->
 p0.wx=r0.wx/\p0.wa=r0.wa/\p0.wX=r0.wX/\p0.wW=r0.wW/\p0.wT=r0.wT/\p0.wc=r0.wc/\p0.wK=r0.wK/\p0.wg=r0.wg/\p0.ww=r0.ww/\p0.wS=r0.wS/\p0.wq=r0.wq/\p0.wC=r0.wC/\p0.wB=r0.wB/\p0.wz=r0.wz/\p0.we=r0.we/\18=r1)/\
(v2=false->
(decide (18446744069414584321<=p1.wAM)=true->
 p0.wx=r0.wx/\p0.wa=r0.wa/\p0.wX=r0.wX/\p0.wW=r0.wW/\p0.wT=r0.wT/\p0.wc=r0.wc/\p0.wK=r0.wK/\p0.wg=r0.wg/\p0.ww=r0.ww/\p0.wS=r0.wS/\p0.wq=r0.wq/\p0.wC=r0.wC/\p0.wB=r0.wB/\p0.wz=r0.wz/\p0.we=r0.we/\1=r1)/\
(decide (18446744069414584321<=p1.wAM)=false->
 ∃(I1:Int->Int->Int->Int->Int->Int->Int->Int->Int->Int->Int->Int->(List Int)->(List Int)->(List wA)->Int->(List Int)->Prop) (M1:Int->Int->Int->Int->Int->Int->Int->Int->Int->Int->Int->Int->(List Int)->(List Int)->(List wA)->Int->(List Int)->Nat),I1 0 0 p0.wx p0.wa p0.wX p0.wW p0.wT p0.wc p0.wK p0.wg p0.ww p0.wS p0.wq p0.wC p0.wB p0.wz p0.we/\∀(b1 f1 i1 k1 l1 m1 n1 o1 q1 s1 t1 u1:Int) (x1 y1:List Int) (b2:List wA) (f2:Int) (i2:List Int),(I1 b1 f1 i1 k1 l1 m1 n1 o1 q1 s1 t1 u1 x1 y1 b2 f2 i2->
(decide (f1<(p1.Txs.length:Int))=true->
(0<=f1)/\f1<(p1.Txs.length:Int)/\(ROk (wt.mk i1 k1 l1 m1 n1 o1 q1 s1 t1 u1 x1 y1 b2 f2 i2)/\TR (ix p1.Txs f1)/\TL (ix p1.Txs f1))/\let r3:=(rperf (wt.mk i1 k1 l1 m1 n1 o1 q1 s1 t1 u1 x1 y1 b2 f2 i2) (ix p1.Txs f1)).m
 let r4:Int:=((rperf (wt.mk i1 k1 l1 m1 n1 o1 q1 s1 t1 u1 x1 y1 b2 f2 i2) (ix p1.Txs f1)).e)
((r4 !=0)=true->
 p0.wx=r0.wx/\p0.wa=r0.wa/\p0.wX=r0.wX/\p0.wW=r0.wW/\p0.wT=r0.wT/\p0.wc=r0.wc/\p0.wK=r0.wK/\p0.wg=r0.wg/\p0.ww=r0.ww/\p0.wS=r0.wS/\p0.wq=r0.wq/\p0.wC=r0.wC/\p0.wB=r0.wB/\p0.wz=r0.wz/\p0.we=r0.we/\r4=r1)/\
((r4 !=0)=false->
(0<=f1)/\f1<(p1.Txs.length:Int)/\let v5:Int:=u64.wrap (b1+((ix p1.Txs f1).Fee))
 I1 v5 (i64.wrap (f1+1)) r3.wx r3.wa r3.wX r3.wW r3.wT r3.wc r3.wK r3.wg r3.ww r3.wS r3.wq r3.wC r3.wB r3.wz r3.we/\M1 v5 (i64.wrap (f1+1)) r3.wx r3.wa r3.wX r3.wW r3.wT r3.wc r3.wK r3.wg r3.ww r3.wS r3.wq r3.wC r3.wB r3.wz r3.we<M1 b1 f1 i1 k1 l1 m1 n1 o1 q1 s1 t1 u1 x1 y1 b2 f2 i2))/\
(decide (f1<(p1.Txs.length:Int))=false->
(OkA b2/\U64 (u64.wrap (p0.wc+b1)))/\let r6:=creditA b2 p1.wAM (u64.wrap (p0.wc+b1))
((r6.2 !=0)=true->
 p0.wx=r0.wx/\p0.wa=r0.wa/\p0.wX=r0.wX/\p0.wW=r0.wW/\p0.wT=r0.wT/\p0.wc=r0.wc/\p0.wK=r0.wK/\p0.wg=r0.wg/\p0.ww=r0.ww/\p0.wS=r0.wS/\p0.wq=r0.wq/\p0.wC=r0.wC/\p0.wB=r0.wB/\p0.wz=r0.wz/\p0.we=r0.we/\r6.2=r1)/\
((r6.2 !=0)=false->
([]:List Int).length=([]:List Int).length/\(([]:List Int).length+i2.length)*8<=140737488355328/\([]:List Int).length+i2.length<=maxLen/\((0<=k1/\k1<=12)/\x1.length<=2^k1.toNat/\(∀x∈x1,0<=x/\x<18446744069414584321))/\(([]:List Int)++i2).length=(([]:List Int)++i2).length/\[(TT (lf x1) k1.toNat 0)].length=[(TT (lf x1) k1.toNat 0)].length/\((([]:List Int)++i2).length+[(TT (lf x1) k1.toNat 0)].length)*8<=140737488355328/\(([]:List Int)++i2).length+[(TT (lf x1) k1.toNat 0)].length<=maxLen/\let v7:List Int:=(([]:List Int)++i2)++[(TT (lf x1) k1.toNat 0)]
(v7.length=v7.length)/\i1=r0.wx/\k1=r0.wa/\l1=r0.wX/\m1=r0.wW/\n1=r0.wT/\o1=r0.wc/\q1=r0.wK/\s1=r0.wg/\t1=r0.ww/\i64.wrap (u1+1)=r0.wS/\x1=r0.wq/\y1=r0.wC/\r6.1=r0.wB/\f2=r0.wz/\v7=r0.we/\0=r1)))))) (by kernel_rfl)<|by
 rintro p0 p1 h _ rfl _ rfl
 obtain⟨⟨s,c,rfl,hc,hp⟩,hb⟩:=h
 have hpl:=hp.p
 generalize hR:rapply (mOf s) p1=R
 unfold rapply at hR
 generalize hG:rGo p1.Txs (mOf s) 0=G at hR
 have hH:(mOf s).wS=(s.p.length:Int):=rfl
 have ei:i64.wrap ((mOf s).wS+1)=(mOf s).wS+1:=by rw[hH];exact kh _ (by omega) (by omega)
 refine ?_
 rw[ei]
 refine⟨fun e=> ?_,fun e=>⟨fun e2=> ?_,fun e2=> ?_⟩⟩
 ·have e:p1.wS≠(mOf s).wS+1:=by simpa using e
  rw[if_pos e]at hR
  subst hR
  exact(by repeat' first|apply And.intro|exact rfl|exact True.intro)
 ·have e:¬p1.wS≠(mOf s).wS+1:=by simpa using e
  rw[if_neg e,if_pos (of_decide_eq_true e2)]at hR
  subst hR
  exact(by repeat' first|apply And.intro|exact rfl|exact True.intro)
 have e:¬p1.wS≠(mOf s).wS+1:=by simpa using e
 rw[if_neg e,if_neg (of_decide_eq_false e2)]at hR
 refine⟨(fun fe a y0 y1 y2 y3 y4 y5 y6 y7 y8 y9 y10 y11 y12 y13 y14=>∃i:Nat,a=(i:Int)/\i<=p1.Txs.length/\∃(s' :PS) (c' :Nat),(y0=(mOf s').wx/\y1=(mOf s').wa/\y2=(mOf s').wX/\y3=(mOf s').wW/\y4=(mOf s').wT/\y5=(mOf s').wc/\y6=(mOf s').wK/\y7=(mOf s').wg/\y8=(mOf s').ww/\y9=(mOf s').wS/\y10=(mOf s').wq/\y11=(mOf s').wC/\y12=(mOf s').wB/\y13=(mOf s').wz/\y14=(mOf s').we)/\c' +(p1.Txs.length-i)<=790/\PI s' c' fe/\s'.R=s.R/\rGo (p1.Txs.drop i) (mOf s') fe=G),(fun _ a _ _ _ _ _ _ _ _ _ _ _ _ _ _ _=>(p1.Txs.length-a).toNat),⟨0,rfl,by omega,s,c,⟨rfl,rfl,rfl,rfl,rfl,rfl,rfl,rfl,rfl,rfl,rfl,rfl,rfl,rfl,rfl⟩,by omega,hp,rfl,hG⟩,?_⟩
 rintro fe _ _ _ _ _ _ _ _ _ _ _ _ _ _ _ _ ⟨i,rfl,hi,s',c',⟨rfl,rfl,rfl,rfl,rfl,rfl,rfl,rfl,rfl,rfl,rfl,rfl,rfl,rfl,rfl⟩,hc',hq,hsR,hg⟩
 have em:wt.mk (mOf s').wx (mOf s').wa (mOf s').wX (mOf s').wW (mOf s').wT (mOf s').wc (mOf s').wK (mOf s').wg (mOf s').ww (mOf s').wS (mOf s').wq (mOf s').wC (mOf s').wB (mOf s').wz (mOf s').we=mOf s' :=rfl
 have hqk:=hq.rok (by omega)
 refine⟨fun e3=> ?_,fun e3=> ?_⟩
 ·have e3:i<p1.Txs.length:=by have:=of_decide_eq_true e3;omega
  have ht:=hb.t _ (List.getElem_mem e3)
  have hl:=hb.l _ (List.getElem_mem e3)
  rw[List.drop_eq_getElem_cons e3]at hg
  unfold rGo at hg
  rw[ix_get _ _ e3,inc_i64 _ (by omega),em]
  refine⟨by omega,by omega,⟨hqk,ht,hl⟩,fun e4=> ?_,fun e4=> ?_⟩
  ·have e4:(rperf (mOf s') p1.Txs[i]).e≠0:=by simpa using e4
   rw[if_pos e4]at hg
   subst hg
   simp only at hR
   rw[if_pos e4]at hR
   subst hR
   exact(by repeat' first|apply And.intro|exact rfl|exact True.intro)
  ·have e4:(rperf (mOf s') p1.Txs[i]).e=0:=by simpa using e4
   rw[if_neg (fun hh=>hh e4)]at hg
   have hk0:chkS s' p1.Txs[i]=0:=by
    rw[<-rchk_eq]
    refine Classical.byContradiction fun hn=> ?_
    unfold rperf at e4
    rw[if_pos hn]at e4
    exact hn e4
   have k:=k4o hk0
   obtain⟨g1,g2⟩:=kg6 hk0
   rw[g1]at e4
   have g2:=g2 e4
   have h9:=(hq.perf (by omega) ht k).2.2 e4
   rw[kan hq (by omega) ht k]at hg ⊢
   rw[g2]at hg ⊢
   exact⟨by omega,by omega,⟨i+1,rfl,by omega,(perfS s' p1.Txs[i]).s,c' +1,⟨rfl,rfl,rfl,rfl,rfl,rfl,rfl,rfl,rfl,rfl,rfl,rfl,rfl,rfl,rfl⟩,by omega,h9,(ke3 s' p1.Txs[i]).1.trans hsR,hg⟩,by(dsimp only;omega)⟩
 ·have e3:i=p1.Txs.length:=by have:=of_decide_eq_false e3;omega
  subst e3
  rw[List.drop_length]at hg
  unfold rGo at hg
  subst hg
  have hw:=kbb (x:=⟨0,s',[],fe⟩) hq (by omega)
  simp only at hw
  have hrr:(mOf s).wc=s'.R.wP:=by rw[hsR];rfl
  rw[hrr]at hR ⊢
  unfold rcr at hR
  simp only at hR
  rw[if_neg (fun hh=>hh rfl)]at hR
  have hpq:=hq.p
  have hrq:=hq.rl
  have hgk:=hq.b.1
  have hrl2:(mOf s').we.length<=1000000:=hqk.rl
  refine⟨⟨hgk,?_⟩,fun e4=> ?_,fun e4=> ?_⟩
  ·rw[hw.1];exact hw.2
  ·have e4:(creditA (mOf s').wB p1.wAM (u64.wrap (s'.R.wP+fe))).2≠0:=by simpa using e4
   rw[if_pos e4]at hR
   subst hR
   rw[<-hrr]
   exact(by repeat' first|apply And.intro|exact rfl|exact True.intro)
  ·have e4:(creditA (mOf s').wB p1.wAM (u64.wrap (s'.R.wP+fe))).2=0:=by simpa using e4
   rw[if_neg (fun hh=>hh e4)]at hR
   have eh:i64.wrap ((mOf s').wS+1)=(mOf s').wS+1:=by
    show i64.wrap ((s'.p.length:Int)+1)=(s'.p.length:Int)+1
    exact kh _ (by omega) (by omega)
   have hd1:=hqk.d1
   have hd2:=hqk.d2
   rw[eh]
   simp only[List.nil_append]
   subst hR
   refine⟨(by first|exact rfl|exact True.intro),?_,?_,⟨⟨by omega,hd2⟩,hq.ll,hq.l⟩,(by first|exact rfl|exact True.intro),(by first|exact rfl|exact True.intro),?_,?_,(by repeat' first|apply And.intro|exact rfl|exact True.intro)⟩
   all_goals simp only[List.length_cons,List.length_nil]
   all_goals first|omega|(unfold maxLen;omega)
noncomputable def kiu:Con TB.den:= .gp 25 [.st 0] [.st 13] [] fun(p0:wF)=>(rulesE p0=0,(mOf (newS p0):wt),())
theorem kk2:kiu.Ok Tryz.prog TB:=qrv Bs Tryz.func25 .no (k8s.c c0) (Q:=∀(p0:wF),(rulesE p0=0)->∀r0:wt,(mOf (newS p0))=r0-> 
((0<=p0.wD/\p0.wD<=12)/\([]:List Int).length<=2^p0.wD.toNat/\(∀x∈([]:List Int),0<=x/\x<18446744069414584321))/\let r1:Int:=(TT (lf ([]:List Int)) p0.wD.toNat 0)
 p0.wm=r0.wx/\p0.wD=r0.wa/\p0.wJ=r0.wX/\p0.wI=r0.wW/\p0.wG=r0.wT/\p0.wP=r0.wc/\p0.wU=r0.wK/\p0.wO=r0.wg/\p0.wh=r0.ww/\0=r0.wS/\([]:List Int)=r0.wq/\([]:List Int)=r0.wC/\([]:List wA)=r0.wB/\0=r0.wz/\[r1]=r0.we) (by kernel_rfl)<|by
 rintro p0 h _ rfl
 have hb:rulesB p0=true:=by
  cases hb:rulesB p0 with
  |true=>rfl
  |false=>unfold rulesE at h;rw[hb]at h;cases h
 have hd:1<=p0.wD/\p0.wD<=12:=by
  simp only[rulesB,Bool.and_eq_true,decide_eq_true_eq]at hb
  omega
 have hr:=k3u (d:=p0.wD) (l:=[]) (by omega) (Nat.zero_le _)
 refine⟨⟨⟨by omega,hd.2⟩,Nat.zero_le _,fun x hx=>by cases hx⟩,?_⟩
 rw[<-hr]
 exact(by repeat' first|apply And.intro|exact rfl|exact True.intro)
noncomputable def kgm:Con TB.den:= .g ⟨13,[.agg [zqi,zqi,zqi,zqi,zqi,zqu,zqi,zqi,zqu],.one (.d (.sl (.st 3)))],[],(.tup [.one (.ptr 0 0),.one (.view 1),.one (.d (.bool))]),[.cells [zqi,zqi,zqi,zqi,zqi,zqu,zqi,zqi,zqu,zqi,zqi,zql,.row 2,.ptr 3 0,.d (.sl (.st 8)),zqu,.row 4,.row 5],.vec (.st 13),.vec yqu,.cells [.mp 6],.vec yqu,.vec (.st 9),.map yqu (.bool)],false⟩ [.st 0,.sl (.st 3)] [yqi,yqi,.bool,yqi,yqi,yqi,yqi,yqi,yqu,yqi,yqi,yqu,yqi,yqi,.sl yqu,.sl (.st 8),yqu,.sl (.st 13),.sl yqu,.sl yqu,.sl (.st 9),.sl yqu,.sl (.bool)] [] fun(p0:wF) (p1:List wAD)=>(rulesE p0=0/\0<=p0.wP/\p1.length<=60/\OpsR p1,(0:Int),(((plS p0 p1).n:Int):Int),true,(((plS p0 p1).s).R.wm:Int),(((plS p0 p1).s).R.wD:Int),(((plS p0 p1).s).R.wJ:Int),(((plS p0 p1).s).R.wI:Int),(((plS p0 p1).s).R.wG:Int),(((plS p0 p1).s).R.wP:Int),(((plS p0 p1).s).R.wU:Int),(((plS p0 p1).s).R.wO:Int),(((plS p0 p1).s).R.wh:Int),(((plS p0 p1).s).F.wD:Int),(((plS p0 p1).s).F.wY:Int),(((plS p0 p1).s).F.wd:List Int),(((plS p0 p1).s).b:List wA),(((plS p0 p1).s).n:Int),((plS p0 p1).g:List wt),(((plS p0 p1).s).l:List Int),(((plS p0 p1).s).r:List Int),(((plS p0 p1).s).p:List wN),(((plS p0 p1).s).k:List Int),(((plS p0 p1).s).v:List Bool),())
theorem k2g:kgm.Ok Tryz.prog TB:=prx Bs [27,72,73] Tryz.func13 (.r 1 (.nd [] (.r 0 (.nd [] (.r 0 (.rt [.rnil 5 (.st 13)])) [] .no)) [] (.r 0 (.nd [] (.r 0 (.lp [] ⟨[1,3,6],[.cells [zqi,zqi,zqi,zqi,zqi,zqu,zqi,zqi,zqu,zqi,zqi,zql,.row 4,.ptr 1 0,.d (.sl (.st 8)),zqu,.row 5,.row 6],.cells [.mp 2],.map yqu (.bool),.vec (.st 13),.vec yqu,.vec yqu,.vec (.st 9)],[9,30],[.one (.view 3),.one (zqi)],[2,4,5,7]⟩ (.r 1 (.nd [] (.r 0 (.nd [] (.r 0 (.nd [] (.nd [] (.r 0 (.nd [] (.r 0 (.rt [.rnil 5 (.st 13)])) [] .no)) [] .no) [] .no)) [] (.r 0 (.nd [] (.r 0 (.nd [] (.r 0 (.rt [.rnil 5 (.st 13)])) [] .no)) [] .no)))) [] .no)))) [] .no)))) x0 (ka0.c (k6h.c (kk2.c (k46.c (ki0.c (k3e.c c0)))))) (Q:=∀(p0:wF) (p1:List wAD),(rulesE p0=0/\0<=p0.wP/\p1.length<=60/\OpsR p1)->∀r1o:Int,(0:Int)=r1o->∀r1n:Int,((plS p0 p1).n:Int)=r1n->∀r2:Bool,(true:Bool)=r2->∀Av:Int,(((plS p0 p1).s).R.wm)=Av->∀Aw:Int,(((plS p0 p1).s).R.wD)=Aw->∀Ax:Int,(((plS p0 p1).s).R.wJ)=Ax->∀Ay:Int,(((plS p0 p1).s).R.wI)=Ay->∀Az:Int,(((plS p0 p1).s).R.wG)=Az->∀A0:Int,(((plS p0 p1).s).R.wP)=A0->∀A1:Int,(((plS p0 p1).s).R.wU)=A1->∀A3:Int,(((plS p0 p1).s).R.wO)=A3->∀A4:Int,(((plS p0 p1).s).R.wh)=A4->∀A5:Int,(((plS p0 p1).s).F.wD)=A5->∀Ap:Int,(((plS p0 p1).s).F.wY)=Ap->∀Aq:List Int,(((plS p0 p1).s).F.wd)=Aq->∀As:List wA,(((plS p0 p1).s).b)=As->∀At:Int,(((plS p0 p1).s).n)=At->∀e1:List wt,((plS p0 p1).g)=e1->∀e2:List Int,(((plS p0 p1).s).l)=e2->∀e4:List Int,(((plS p0 p1).s).r)=e4->∀e5:List wN,(((plS p0 p1).s).p)=e5->∀e6k:List Int,(((plS p0 p1).s).k)=e6k->∀e6v:List Bool,(((plS p0 p1).s).v)=e6v-> 
((rulesE p0=0)/\(((0:Int) !=0)=true->
 False)/\
(((0:Int) !=0)=false->
(rulesE p0=0)/\(((newS p0).p).length=((newS p0).p).length)/\(((newS p0).r).length=((newS p0).r).length)/\(((newS p0).l).length=((newS p0).l).length)/\∃(I1:Int->Int->Int->Int->Int->Int->Int->Int->Int->Int->Int->Int->Int->Int->(List Int)->(List wA)->Int->(List Int)->(List Bool)->(List wt)->(List Int)->(List Int)->(List wN)->Prop) (M1:Int->Int->Int->Int->Int->Int->Int->Int->Int->Int->Int->Int->Int->Int->(List Int)->(List wA)->Int->(List Int)->(List Bool)->(List wt)->(List Int)->(List Int)->(List wN)->Nat),I1 (0:Int) (([(mOf (newS p0))].length:Nat):Int) 0 ((newS p0).R.wm) ((newS p0).R.wD) ((newS p0).R.wJ) ((newS p0).R.wI) ((newS p0).R.wG) ((newS p0).R.wP) ((newS p0).R.wU) ((newS p0).R.wO) ((newS p0).R.wh) ((newS p0).F.wD) ((newS p0).F.wY) ((newS p0).F.wd) ((newS p0).b) ((newS p0).n) ((newS p0).k) ((newS p0).v) [(mOf (newS p0))] ((newS p0).l) ((newS p0).r) ((newS p0).p)/\∀(b1 f1 i1 k1 l1 m1 n1 o1 q1 s1 t1 u1 x1 y1:Int) (b2:List Int) (f2:List wA) (i2:Int) (k2:List Int) (l2:List Bool) (m2:List wt) (n2 o2:List Int) (q2:List wN),(I1 b1 f1 i1 k1 l1 m1 n1 o1 q1 s1 t1 u1 x1 y1 b2 f2 i2 k2 l2 m2 n2 o2 q2->
(decide (i1<(p1.length:Int))=true->
(0<=i1)/\i1<(p1.length:Int)/\((ix p1 i1).wAZ=true->
(q2.length=q2.length)/\(o2.length=o2.length)/\(n2.length=n2.length)/\(UOk (PS.mk (wF.mk k1 l1 m1 n1 o1 q1 s1 t1 u1) (wE.mk x1 y1 b2) f2 i2 n2 o2 q2 k2 l2))/\let r3:=undoS (PS.mk (wF.mk k1 l1 m1 n1 o1 q1 s1 t1 u1) (wE.mk x1 y1 b2) f2 i2 n2 o2 q2 k2 l2)
 let v4:Bool:=(!((decide (q2≠[]))==decide (1<(f1.toNat:Int))))
(v4=true->
 False)/\
(v4=false->
(decide (1<(f1.toNat:Int))=true->
(0<=i64.wrap ((f1.toNat:Int)-1))/\i64.wrap ((f1.toNat:Int)-1)<=(f1.toNat:Int)/\(r3.p.length=r3.p.length)/\(r3.r.length=r3.r.length)/\(r3.l.length=r3.l.length)/\I1 (b1.toNat:Int) (((i64.wrap ((f1.toNat:Int)-1)).toNat:Nat):Int) (i64.wrap (i1+1)) r3.R.wm r3.R.wD r3.R.wJ r3.R.wI r3.R.wG r3.R.wP r3.R.wU r3.R.wO r3.R.wh r3.F.wD r3.F.wY r3.F.wd r3.b r3.n r3.k r3.v m2 r3.l r3.r r3.p/\M1 (b1.toNat:Int) (((i64.wrap ((f1.toNat:Int)-1)).toNat:Nat):Int) (i64.wrap (i1+1)) r3.R.wm r3.R.wD r3.R.wJ r3.R.wI r3.R.wG r3.R.wP r3.R.wU r3.R.wO r3.R.wh r3.F.wD r3.F.wY r3.F.wd r3.b r3.n r3.k r3.v m2 r3.l r3.r r3.p<M1 b1 f1 i1 k1 l1 m1 n1 o1 q1 s1 t1 u1 x1 y1 b2 f2 i2 k2 l2 m2 n2 o2 q2)/\
(decide (1<(f1.toNat:Int))=false->
(r3.p.length=r3.p.length)/\(r3.r.length=r3.r.length)/\(r3.l.length=r3.l.length)/\I1 (b1.toNat:Int) (f1.toNat:Int) (i64.wrap (i1+1)) r3.R.wm r3.R.wD r3.R.wJ r3.R.wI r3.R.wG r3.R.wP r3.R.wU r3.R.wO r3.R.wh r3.F.wD r3.F.wY r3.F.wd r3.b r3.n r3.k r3.v m2 r3.l r3.r r3.p/\M1 (b1.toNat:Int) (f1.toNat:Int) (i64.wrap (i1+1)) r3.R.wm r3.R.wD r3.R.wJ r3.R.wI r3.R.wG r3.R.wP r3.R.wU r3.R.wO r3.R.wh r3.F.wD r3.F.wY r3.F.wd r3.b r3.n r3.k r3.v m2 r3.l r3.r r3.p<M1 b1 f1 i1 k1 l1 m1 n1 o1 q1 s1 t1 u1 x1 y1 b2 f2 i2 k2 l2 m2 n2 o2 q2)))/\
((ix p1 i1).wAZ=false->
(0<=i64.wrap ((f1.toNat:Int)-1)/\i64.wrap ((f1.toNat:Int)-1)<(f1.toNat:Int))/\(0<=((b1.toNat:Int)+i64.wrap ((f1.toNat:Int)-1))/\((b1.toNat:Int)+i64.wrap ((f1.toNat:Int)-1))<(m2.length:Int))/\((∃(s:PS) (c:Nat),(ix m2 ((b1.toNat:Int)+i64.wrap ((f1.toNat:Int)-1)))=mOf s/\c+(wV.mk ((ix p1 i1).wAF) ((ix p1 i1).wAG) ((ix p1 i1).wAK) ((ix p1 i1).wAO) ((ix p1 i1).wAL) ((ix p1 i1).wAB)).Txs.length<=790/\PI s c 0)/\BR' (wV.mk ((ix p1 i1).wAF) ((ix p1 i1).wAG) ((ix p1 i1).wAK) ((ix p1 i1).wAO) ((ix p1 i1).wAL) ((ix p1 i1).wAB)))/\let r5:=(rapply (ix m2 ((b1.toNat:Int)+i64.wrap ((f1.toNat:Int)-1))) (wV.mk ((ix p1 i1).wAF) ((ix p1 i1).wAG) ((ix p1 i1).wAK) ((ix p1 i1).wAO) ((ix p1 i1).wAL) ((ix p1 i1).wAB))).m
 let r6:Int:=((rapply (ix m2 ((b1.toNat:Int)+i64.wrap ((f1.toNat:Int)-1))) (wV.mk ((ix p1 i1).wAF) ((ix p1 i1).wAG) ((ix p1 i1).wAK) ((ix p1 i1).wAO) ((ix p1 i1).wAL) ((ix p1 i1).wAB))).e)
(q2.length=q2.length)/\(o2.length=o2.length)/\(n2.length=n2.length)/\((∃c:Nat,c+(wV.mk ((ix p1 i1).wAF) ((ix p1 i1).wAG) ((ix p1 i1).wAK) ((ix p1 i1).wAO) ((ix p1 i1).wAL) ((ix p1 i1).wAB)).Txs.length<=790/\PI (PS.mk (wF.mk k1 l1 m1 n1 o1 q1 s1 t1 u1) (wE.mk x1 y1 b2) f2 i2 n2 o2 q2 k2 l2) c 0)/\BR' (wV.mk ((ix p1 i1).wAF) ((ix p1 i1).wAG) ((ix p1 i1).wAK) ((ix p1 i1).wAO) ((ix p1 i1).wAL) ((ix p1 i1).wAB)))/\let r7:Int:=((applyS (PS.mk (wF.mk k1 l1 m1 n1 o1 q1 s1 t1 u1) (wE.mk x1 y1 b2) f2 i2 n2 o2 q2 k2 l2) (wV.mk ((ix p1 i1).wAF) ((ix p1 i1).wAG) ((ix p1 i1).wAK) ((ix p1 i1).wAO) ((ix p1 i1).wAL) ((ix p1 i1).wAB))).e)
 let r8:=(applyS (PS.mk (wF.mk k1 l1 m1 n1 o1 q1 s1 t1 u1) (wE.mk x1 y1 b2) f2 i2 n2 o2 q2 k2 l2) (wV.mk ((ix p1 i1).wAF) ((ix p1 i1).wAG) ((ix p1 i1).wAK) ((ix p1 i1).wAO) ((ix p1 i1).wAL) ((ix p1 i1).wAB))).s
((r7 !=r6)=true->
 False)/\
((r7 !=r6)=false->
((r6==0)=true->
 b1.toNat=0/\f1.toNat<=m2.length/\[r5].length=[r5].length/\((m2.take f1.toNat).length+[r5].length)*184<=140737488355328/\(m2.take f1.toNat).length+[r5].length<=maxLen/\(r8.p.length=r8.p.length)/\(r8.r.length=r8.r.length)/\(r8.l.length=r8.l.length)/\I1 (0:Int) (((m2.take f1.toNat)++[r5]).length:Int) (i64.wrap (i1+1)) r8.R.wm r8.R.wD r8.R.wJ r8.R.wI r8.R.wG r8.R.wP r8.R.wU r8.R.wO r8.R.wh r8.F.wD r8.F.wY r8.F.wd r8.b r8.n r8.k r8.v ((m2.take f1.toNat)++[r5]) r8.l r8.r r8.p/\M1 (0:Int) (((m2.take f1.toNat)++[r5]).length:Int) (i64.wrap (i1+1)) r8.R.wm r8.R.wD r8.R.wJ r8.R.wI r8.R.wG r8.R.wP r8.R.wU r8.R.wO r8.R.wh r8.F.wD r8.F.wY r8.F.wd r8.b r8.n r8.k r8.v ((m2.take f1.toNat)++[r5]) r8.l r8.r r8.p<M1 b1 f1 i1 k1 l1 m1 n1 o1 q1 s1 t1 u1 x1 y1 b2 f2 i2 k2 l2 m2 n2 o2 q2)/\
((r6==0)=false->
(r8.p.length=r8.p.length)/\(r8.r.length=r8.r.length)/\(r8.l.length=r8.l.length)/\I1 (b1.toNat:Int) (f1.toNat:Int) (i64.wrap (i1+1)) r8.R.wm r8.R.wD r8.R.wJ r8.R.wI r8.R.wG r8.R.wP r8.R.wU r8.R.wO r8.R.wh r8.F.wD r8.F.wY r8.F.wd r8.b r8.n r8.k r8.v m2 r8.l r8.r r8.p/\M1 (b1.toNat:Int) (f1.toNat:Int) (i64.wrap (i1+1)) r8.R.wm r8.R.wD r8.R.wJ r8.R.wI r8.R.wG r8.R.wP r8.R.wU r8.R.wO r8.R.wh r8.F.wD r8.F.wY r8.F.wd r8.b r8.n r8.k r8.v m2 r8.l r8.r r8.p<M1 b1 f1 i1 k1 l1 m1 n1 o1 q1 s1 t1 u1 x1 y1 b2 f2 i2 k2 l2 m2 n2 o2 q2))))/\
(decide (i1<(p1.length:Int))=false->
(q2.length=q2.length)/\(o2.length=o2.length)/\(n2.length=n2.length)/\(b1.toNat:Int)=r1o/\(f1.toNat:Int)=r1n/\true=r2/\k1=Av/\l1=Aw/\m1=Ax/\n1=Ay/\o1=Az/\q1=A0/\s1=A1/\t1=A3/\u1=A4/\x1=A5/\y1=Ap/\b2=Aq/\f2=As/\i2=At/\m2=e1/\n2=e2/\o2=e4/\q2=e5/\k2=e6k/\l2=e6v))))∨((rulesE p0≠0)/\False)) (by kernel_rfl)<|by
 rintro p0 p1 h _ rfl _ rfl _ rfl _ rfl _ rfl _ rfl _ rfl _ rfl _ rfl _ rfl _ rfl _ rfl _ rfl _ rfl _ rfl _ rfl _ rfl _ rfl _ rfl _ rfl _ rfl _ rfl _ rfl
 obtain⟨h,h0,hl,ho⟩:=h
 generalize hG:plS p0 p1=G
 unfold plS at hG
 refine(.inl ⟨h,fun e=>(by cases e),fun _=>⟨h,rfl,rfl,rfl,?_⟩⟩)
 refine⟨(fun q n a x0 x1 x2 x3 x4 x5 x6 x7 x8 x9 x10 x11 bb nn kk vv gg ll rr pp=>∃i m:Nat,a=(i:Int)/\i<=p1.length/\q=0/\n=(m:Int)/\m<=i+1/\(∃(H:List PS) (c:Nat),PH ⟨gg,m,(PS.mk (wF.mk x0 x1 x2 x3 x4 x5 x6 x7 x8) (wE.mk x9 x10 x11) bb nn ll rr pp kk vv)⟩ H c p0/\c+9*(p1.length-i)<=760)/\(p1.drop i).foldl plStep ⟨gg,m,(PS.mk (wF.mk x0 x1 x2 x3 x4 x5 x6 x7 x8) (wE.mk x9 x10 x11) bb nn ll rr pp kk vv)⟩=G),(fun _ _ a _ _ _ _ _ _ _ _ _ _ _ _ _ _ _ _ _ _ _ _=>(p1.length-a).toNat),⟨0,1,rfl,by omega,rfl,rfl,by omega,⟨[newS p0],0,PH.new h h0,by omega⟩,hG⟩,?_⟩
 rintro _ _ _ x0 x1 x2 x3 x4 x5 x6 x7 x8 x9 x10 x11 bb nn kk vv gg ll rr pp ⟨i,m,rfl,hi,rfl,rfl,hm,⟨H,c,hH,hc⟩,hg⟩
 generalize hS:(PS.mk (wF.mk x0 x1 x2 x3 x4 x5 x6 x7 x8) (wE.mk x9 x10 x11) bb nn ll rr pp kk vv)=S at hH hg
 refine⟨fun e=> ?_,fun e=> ?_⟩
 ·have e:i<p1.length:=by have:=of_decide_eq_true e;omega
  have hb:=ho.b _ (List.getElem_mem e)
  have hT:(opB p1[i]).Txs.length<=8:=ho.n _ (List.getElem_mem e)
  obtain⟨H2,hH2⟩:=hH.step (o:=p1[i]) (by omega) hb
  have so:=hH.uok (by omega) p1[i]
  obtain⟨hm1,hmg,htop⟩:=hH.top
  have hm1:1<=m:=hm1
  rw[List.drop_eq_getElem_cons e,List.foldl_cons]at hg
  obtain⟨rH,hrH⟩:=hH.pos
  have hPI:PI S c 0:=(hH.i S (by rw[hrH];simp)).1
  have hnl:H.length=m:=hH.n
  have hml:m<=gg.length:=hH.l
  have hmm:m-1<gg.length:=hmg
  have htop:gg[m-1]=mOf S:=htop
  have hse:decide (S.p≠[])=decide (1<m):=so.e
  have hsp:pp=S.p:=by rw[<-hS]
  rw[ix_get _ _ e,inc_i64 _ (by omega)]
  refine⟨by omega,by omega,fun hu=>⟨rfl,rfl,rfl,so.u,fun e2=> ?_,fun _=>⟨fun e3=> ?_,fun e3=> ?_⟩⟩,fun hu=> ?_⟩
  ·exfalso
   rw[hsp,hse,Int.toNat_natCast]at e2
   have:decide (1<(m:Int))=decide (1<m):=by
    rw[Bool.eq_iff_iff,decide_eq_true_iff,decide_eq_true_iff]
    omega
   rw[this]at e2
   simp at e2
  ·have e3:=of_decide_eq_true e3
   rw[Int.toNat_natCast]at e3
   have hst:plStep ⟨gg,m,S⟩ p1[i]=⟨gg,m-1,undoS S⟩:=by
    unfold plStep
    rw[if_pos hu,if_pos (show 1<m by omega)]
   rw[hst]at hg hH2
   have ew:i64.wrap ((((m:Int).toNat:Nat):Int)-1)=((m-1:Nat):Int):=by
    rw[Int.toNat_natCast,kh _ (by omega) (by omega)]
    omega
   rw[ew]
   simp only[Int.toNat_natCast]
   exact⟨by omega,by omega,(by first|exact rfl|exact True.intro),(by first|exact rfl|exact True.intro),(by first|exact rfl|exact True.intro),⟨i+1,m-1,(by first|exact rfl|exact True.intro),by omega,(by first|exact rfl|exact True.intro),(by first|exact rfl|exact True.intro),by omega,⟨H2,_,hH2,by omega⟩,hg⟩,by omega⟩
  ·have e3:=of_decide_eq_false e3
   rw[Int.toNat_natCast]at e3
   have hst:plStep ⟨gg,m,S⟩ p1[i]=⟨gg,m,undoS S⟩:=by
    unfold plStep
    rw[if_pos hu,if_neg (show¬1<m by omega)]
   rw[hst]at hg hH2
   simp only[Int.toNat_natCast]
   exact⟨(by first|exact rfl|exact True.intro),(by first|exact rfl|exact True.intro),(by first|exact rfl|exact True.intro),⟨i+1,m,(by first|exact rfl|exact True.intro),by omega,(by first|exact rfl|exact True.intro),(by first|exact rfl|exact True.intro),by omega,⟨H2,_,hH2,by omega⟩,hg⟩,by omega⟩
  ·have ew:i64.wrap ((((m:Int).toNat:Nat):Int)-1)=((m-1:Nat):Int):=by
    rw[Int.toNat_natCast,kh _ (by omega) (by omega)]
    omega
   have e0:(((0:Int).toNat:Nat):Int)+((m-1:Nat):Int)=((m-1:Nat):Int):=by
    rw[show(0:Int).toNat=0 from rfl]
    omega
   have hra:rapply (mOf S) (wV.mk p1[i].wAF p1[i].wAG p1[i].wAK p1[i].wAO p1[i].wAL p1[i].wAB)=⟨(applyS S (opB p1[i])).e,mOf (applyS S (opB p1[i])).s⟩:=kkt (b:=opB p1[i]) hPI (by omega) hb
   rw[ew,e0,ix_get _ _ hmm,htop,hra,show wV.mk p1[i].wAF p1[i].wAG p1[i].wAK p1[i].wAO p1[i].wAL p1[i].wAB=opB p1[i]from rfl]
   have hu2:¬p1[i].wAZ=true:=by rw[hu];decide
   refine⟨⟨by omega,by rw[Int.toNat_natCast];omega⟩,⟨by omega,by omega⟩,⟨⟨S,c,rfl,by omega,hPI⟩,hb⟩,rfl,rfl,rfl,⟨⟨c,by omega,hPI⟩,hb⟩,fun e2=> ?_,fun _=>⟨fun e3=> ?_,fun e3=> ?_⟩⟩
   ·exfalso
    simp at e2
   ·have e3:(applyS S (opB p1[i])).e=0:=by simpa using e3
    have hst:plStep ⟨gg,m,S⟩ p1[i]=⟨gg.take m++[mOf (applyS S (opB p1[i])).s],m+1,(applyS S (opB p1[i])).s⟩:=by
     unfold plStep
     rw[if_neg hu2,if_pos e3]
    rw[hst]at hg hH2
    have htl:(gg.take m).length=m:=by rw[List.length_take];omega
    have hln:((gg.take m++[mOf (applyS S (opB p1[i])).s]).length:Int)=((m+1:Nat):Int):=by rw[List.length_append,htl];rfl
    simp only[Int.toNat_natCast]
    rw[hln]
    refine⟨(by first|exact rfl|exact True.intro),hml,(by first|exact rfl|exact True.intro),?_,?_,(by first|exact rfl|exact True.intro),(by first|exact rfl|exact True.intro),(by first|exact rfl|exact True.intro),⟨i+1,m+1,(by first|exact rfl|exact True.intro),by omega,(by first|exact rfl|exact True.intro),(by first|exact rfl|exact True.intro),by omega,⟨H2,_,hH2,by omega⟩,hg⟩,by omega⟩
    ·rw[htl];simp only[List.length_cons,List.length_nil];omega
    ·rw[htl];simp only[List.length_cons,List.length_nil];unfold maxLen;omega
   ·have e3:¬(applyS S (opB p1[i])).e=0:=by simpa using e3
    have hst:plStep ⟨gg,m,S⟩ p1[i]=⟨gg,m,(applyS S (opB p1[i])).s⟩:=by
     unfold plStep
     rw[if_neg hu2,if_neg e3]
    rw[hst]at hg hH2
    simp only[Int.toNat_natCast]
    exact⟨(by first|exact rfl|exact True.intro),(by first|exact rfl|exact True.intro),(by first|exact rfl|exact True.intro),⟨i+1,m,(by first|exact rfl|exact True.intro),by omega,(by first|exact rfl|exact True.intro),(by first|exact rfl|exact True.intro),by omega,⟨H2,_,hH2,by omega⟩,hg⟩,by omega⟩
 ·have e:i=p1.length:=by have:=of_decide_eq_false e;omega
  subst e
  rw[List.drop_length]at hg
  subst hg
  subst hS
  simp only[Int.toNat_natCast]
  exact(by repeat' first|apply And.intro|exact rfl|exact True.intro)
noncomputable def kax:Con TB.den:= .t ⟨17,[.one (.ptr 0 0)],[.cells [zqi,zqi,zqi,zqi,zqi,zqu,zqi,zqi,zqu,zqi,zqi,zql,.row 1,.ptr 2 0,.d (.sl (.st 8)),zqu,.row 3,.row 4],.vec yqu,.cells [.mp 5],.vec yqu,.vec (.st 9),.map yqu (.bool)],(.one (.one (zqi))),[.cells [zqi,zqi,zqi,zqi,zqi,zqu,zqi,zqi,zqu,zqi,zqi,zql,.row 1,.ptr 2 0,.d (.sl (.st 8)),zqu,.row 3,.row 4],.vec yqu,.cells [.mp 5],.vec yqu,.vec (.st 9),.map yqu (.bool)],false⟩ [yqi,yqi,yqi,yqi,yqi,yqu,yqi,yqi,yqu,yqi,yqi,.sl yqu,.sl (.st 8),yqu,.sl yqu,.sl yqu,.sl (.st 9),.sl yqu,.sl (.bool)] [yqi,yqi,yqi,yqi,yqi,yqi,yqu,yqi,yqi,yqu,yqi,yqi,.sl yqu,.sl (.st 8),yqu,.sl yqu,.sl yqu,.sl (.st 9),.sl yqu,.sl (.bool)] [] fun(Ah Af Ai Aj Ak Al Ae Am Ao Ag Ac:Int) (Ad:List Int) (Aa:List wA) (Ab:Int) (w1 w3:List Int) (w4:List wN) (w5k:List Int) (w5v:List Bool)=>((w4.length:Int),Ah,Af,Ai,Aj,Ak,Al,Ae,Am,Ao,Ag,Ac,Ad,Aa,Ab,w1,w3,w4,w5k,w5v,())
theorem kc8:kax.Ok Tryz.prog TB:=ptv Bs Tryz.func17 .no c0 (Q:=∀(Ah Af Ai Aj Ak Al Ae Am Ao Ag Ac:Int) (Ad:List Int) (Aa:List wA) (Ab:Int) (w1 w3:List Int) (w4:List wN) (w5k:List Int) (w5v:List Bool),∀r0:Int,(w4.length:Int)=r0->∀Av:Int,Ah=Av->∀Aw:Int,Af=Aw->∀Ax:Int,Ai=Ax->∀Ay:Int,Aj=Ay->∀Az:Int,Ak=Az->∀A0:Int,Al=A0->∀A1:Int,Ae=A1->∀A3:Int,Am=A3->∀A4:Int,Ao=A4->∀A5:Int,Ag=A5->∀Ap:Int,Ac=Ap->∀Aq:List Int,Ad=Aq->∀As:List wA,Aa=As->∀At:Int,Ab=At->∀e1:List Int,w1=e1->∀e3:List Int,w3=e3->∀e4:List wN,w4=e4->∀e5k:List Int,w5k=e5k->∀e5v:List Bool,w5v=e5v-> 
(w4.length=w4.length)/\(w3.length=w3.length)/\(w1.length=w1.length)/\(w4.length:Int)=r0/\Ah=Av/\Af=Aw/\Ai=Ax/\Aj=Ay/\Ak=Az/\Al=A0/\Ae=A1/\Am=A3/\Ao=A4/\Ag=A5/\Ac=Ap/\Ad=Aq/\Aa=As/\Ab=At/\w1=e1/\w3=e3/\w4=e4/\w5k=e5k/\w5v=e5v) (by kernel_rfl)<|by
 rintro Ah Af Ai Aj Ak Al Ae Am Ao Ag Ac Ad Aa Ab w1 w3 w4 w5k w5v _ rfl _ rfl _ rfl _ rfl _ rfl _ rfl _ rfl _ rfl _ rfl _ rfl _ rfl _ rfl _ rfl _ rfl _ rfl _ rfl _ rfl _ rfl _ rfl _ rfl
 exact(by repeat' first|apply And.intro|exact rfl|exact True.intro)
noncomputable def khf:Con TB.den:= .gp 97 [yqu] [yqi] [] fun(p0:Int)=>(U64 p0,(len64 p0:Int),())
theorem k9y:khf.Ok Tryz.prog TB:=qrv Bs Tryz.func97 .no (k7y.c c0) (Q:=∀(p0:Int),(U64 p0)->∀r0:Int,len64 p0=r0-> 
(U64 p0)/\(len64 p0)=r0) (by kernel_rfl)<|by
 rintro p0 h _ rfl
 exact⟨h,rfl⟩
noncomputable def kg8:Con TB.den:= .tp 114 [yqu,yqu] [.bool] [] fun(p0 p1:Int)=>((decide (p0<p1):Bool),())
theorem k1l:kg8.Ok Tryz.prog TB:=qtv Bs Tryz.func114 .no (k8q.c c0) (Q:=∀(p0 p1:Int),∀r0:Bool,(decide (p0<p1))=r0-> 
(false=true->
((!false)=true->
 true=r0)/\
((!false)=false->
 decide (p0<p1)=r0))/\
(false=false->
 decide (p0<p1)=r0)) (by kernel_rfl)<|by
 rintro p0 p1 _ rfl
 exact⟨fun h=>by simp at h,fun _=>rfl⟩
noncomputable def k4m:Con TB.den:= .gp 123 [yqi] [yqu] [] fun(p0:Int)=>(0<=p0/\p0<4611686018427387904,(((1<<<Sort.bitsLen p0.toNat:Nat):Int):Int),())
theorem k5h:k4m.Ok Tryz.prog TB:=qrv Bs Tryz.func123 .no (k9y.c c0) (Q:=∀(p0:Int),(0<=p0/\p0<4611686018427387904)->∀r0:Int,((1<<<Sort.bitsLen p0.toNat:Nat):Int)=r0-> 
(U64 (u64.wrap p0))/\(0<=(len64 (u64.wrap p0)))/\let v1:Int:=ishl .u64 1 (len64 (u64.wrap p0))
 v1=r0) (by kernel_rfl)<|by
 rintro p0 h _ rfl
 obtain⟨h0,h1⟩:=h
 have e:=npo p0.toNat (by omega)
 rw[show((p0.toNat:Nat):Int)=p0 by omega]at e
 have e2:=kct p0.toNat
 rw[show((p0.toNat:Nat):Int)=p0 by omega]at e2
 refine ?_
 rw[wu p0 h0 (by omega),e]
 exact⟨⟨h0,by omega⟩,by rw[e2];omega,rfl⟩
noncomputable def k9f:Con TB.den:= .t ⟨124,[.one (.ptr 0 0)],[.cells [zqu]],(.one (.one (zqu))),[.cells [zqu]],false⟩ [yqu] [yqu,yqu] [] fun(Ah:Int)=>((xnI Ah:Int),(xnI Ah:Int),())
theorem ka9:k9f.Ok Tryz.prog TB:=ptv Bs Tryz.func124 .no c0 (Q:=∀(Ah:Int),∀r0:Int,xnI Ah=r0->∀Av:Int,xnI Ah=Av-> 
 let v1:Int:=ishr .u64 (ixor .u64 Ah (ishl .u64 Ah 13)) 7
 let v2:Int:=ixor .u64 (ixor .u64 Ah (ishl .u64 Ah 13)) v1
 ixor .u64 v2 (ishl .u64 v2 17)=r0/\ixor .u64 v2 (ishl .u64 v2 17)=Av) (by kernel_rfl)<|by
 rintro Ah _ rfl _ rfl
 exact⟨rfl,rfl⟩
noncomputable def k2w:Con TB.den:= .g ⟨110,[.one (.row 0),.one (zqi),.one (zqi)],[.vec yqu],(.tup []),[.vec yqu],false⟩ [yqi,yqi,.sl yqu] [.sl yqu] [] fun(p1 p2:Int) (w0:List Int)=>((0<=p1/\p1<=p2/\p2<=w0.length)/\w0.length<=1099511627776,(brkS w0 p1 p2:List Int),())
set_option maxHeartbeats 1000000 in
theorem k39:k2w.Ok Tryz.prog TB:=prv Bs Tryz.func110 (.r 1 (.nd [] (.r 2 (.lp [] ⟨[1,0],[.cells [zqu],.vec yqu],[9],[.one (zqi)],[]⟩ (.r 0 (.nd [] (.r 0 (.jn ⟨[],[],[10],[.one (zqi)],[]⟩ [] .no [] .no)) [] .no)))) [] .no)) (k5h.c (ka9.c c0)) (Q:=∀(p1 p2:Int) (w0:List Int),((0<=p1/\p1<=p2/\p2<=w0.length)/\w0.length<=1099511627776)->∀e0:List Int,brkS w0 p1 p2=e0-> 
 let v1:Bool:=decide (8<=(i64.wrap (p2-p1)))
(v1=true->
 let v2:Int:=u64.wrap (i64.wrap (p2-p1))
(0<=(i64.wrap (p2-p1))/\(i64.wrap (p2-p1))<4611686018427387904)/\let r3:Int:=((1<<<Sort.bitsLen (i64.wrap (p2-p1)).toNat:Nat):Int)
 let v4:Int:=i64.wrap (Int.tdiv (i64.wrap (p2-p1)) 4)
 let v5:Int:=i64.wrap (p1+(i64.wrap (v4*2)))
 ∃(I1:Int->Int->(List Int)->Prop) (M1:Int->Int->(List Int)->Nat),I1 (i64.wrap (v5-1)) v2 w0/\∀(b1 f1:Int) (i1:List Int),(I1 b1 f1 i1->
 let v6:Int:=i64.wrap (Int.tdiv (i64.wrap (p2-p1)) 4)
 let v7:Int:=i64.wrap (p1+(i64.wrap (v6*2)))
 let v8:Bool:=decide (b1<=(i64.wrap (v7+1)))
(v8=true->
 let v9:Int:=iand .u64 (xnI f1) (u64.wrap (r3-1))
 ∀J1:Int->Prop,(∀(k1:Int),
((0<=i64.wrap (p1+k1)/\i64.wrap (p1+k1)<(w0.length:Int))/\(0<=i64.wrap (p1+k1)/\i64.wrap (p1+k1)<(i1.length:Int))/\(0<=b1/\b1<(w0.length:Int))/\(0<=b1/\b1<(i1.length:Int))/\(0<=b1/\b1<(w0.length:Int))/\(0<=b1/\b1<(i1.length:Int))/\(0<=i64.wrap (p1+k1)/\i64.wrap (p1+k1)<(w0.length:Int))/\(0<=i64.wrap (p1+k1)/\i64.wrap (p1+k1)<((i1.set b1.toNat (ix i1 (i64.wrap (p1+k1)))).length:Int))/\I1 (i64.wrap (b1+1)) (xnI f1) ((i1.set b1.toNat (ix i1 (i64.wrap (p1+k1)))).set (i64.wrap (p1+k1)).toNat (ix i1 b1))/\M1 (i64.wrap (b1+1)) (xnI f1) ((i1.set b1.toNat (ix i1 (i64.wrap (p1+k1)))).set (i64.wrap (p1+k1)).toNat (ix i1 b1))<M1 b1 f1 i1)->J1 k1)->
 let v10:Bool:=decide ((i64.wrap (p2-p1))<=(i64.wrap v9))
(v10=true->
 let v11:Int:=i64.wrap ((i64.wrap v9)-(i64.wrap (p2-p1)))
 J1 v11)/\
(v10=false->
 J1 (i64.wrap v9)))/\
(v8=false->
 i1=e0)))/\
(v1=false->
 w0=e0)) (by kernel_rfl)<|by
 rintro p1 p2 w0 h _ rfl
 obtain⟨⟨h1,h2,h3⟩,h4⟩:=h
 have e1:=wi (p2-p1) (by omega) (by omega)
 have e5:=wu (p2-p1) (by omega) (by omega)
 have e3:Int.tdiv (p2-p1) 4=(p2-p1)/4:=Int.tdiv_eq_ediv_of_nonneg (by omega)
 have e4:=wi ((p2-p1)/4) (by omega) (by omega)
 have e6:=wi ((p2-p1)/4*2) (by omega) (by omega)
 have e7:=wi (p1+(p2-p1)/4*2) (by omega) (by omega)
 have e8:=wi (p1+(p2-p1)/4*2-1) (by omega) (by omega)
 have e9:=wi (p1+(p2-p1)/4*2+1) (by omega) (by omega)
 dsimp only
 rw[e1,e5,e3,e4,e6,e7,e8]
 refine⟨fun hh=> ?_,fun hh=> ?_⟩
 ·have hh:=of_decide_eq_true hh
  have hm:=npo_le (p2-p1).toNat (by omega)
  have hb:=brk_eq w0.toArray p1.toNat p2.toNat (by omega)
  rw[show p2.toNat-p1.toNat=(p2-p1).toNat by omega]at hb
  have hR:(brkS w0 p1 p2)=(brkL p1.toNat (p2-p1).toNat (1<<<Sort.bitsLen (p2-p1).toNat) 3 (UInt64.ofNat (p2-p1).toNat,w0.toArray) (p1.toNat+(p2-p1).toNat/4*2-1)).toList:=by unfold brkS;rw[hb]
  refine⟨⟨by omega,by omega⟩,?_⟩
  generalize 1<<<Sort.bitsLen (p2-p1).toNat=md at *
  generalize brkS w0 p1 p2=R at *
  clear hb
  have e0:(UInt64.ofNat (p2-p1).toNat).toNat=(p2-p1).toNat:=by rw[UInt64.toNat_ofNat',Nat.mod_eq_of_lt (by omega)]
  refine⟨fun idx rnd g=>∃(k:Nat) (u:UInt64),(k<=3/\idx+k=p1+(p2-p1)/4*2+2)/\rnd=(u.toNat:Int)/\g.length=w0.length/\R=(brkL p1.toNat (p2-p1).toNat md k (u,g.toArray) idx.toNat).toList,fun idx _ _=>(p1+(p2-p1)/4*2+2-idx).toNat,⟨3,UInt64.ofNat (p2-p1).toNat,⟨by omega,by omega⟩,by omega,rfl,by rw[hR,show(p1+(p2-p1)/4*2-1).toNat=p1.toNat+(p2-p1).toNat/4*2-1 by omega]⟩,?_⟩
  clear hR e0
  have hq:0<=(p2-p1)/4/\4*((p2-p1)/4)<=p2-p1/\p2-p1<4*((p2-p1)/4)+4:=by omega
  generalize (p2-p1)/4=dq at *
  generalize hn:(p2-p1).toNat=n at *
  have hn2:(n:Int)=p2-p1:=by omega
  rintro idx rnd g ⟨k,u,⟨k0,k1⟩,rfl,g2,g3⟩
  rw[e9]
  refine⟨fun q=> ?_,fun q=> ?_⟩
  ·have q:=of_decide_eq_true q
   intro J1 k1
   obtain⟨k,rfl⟩:∃m,k=m+1:=⟨k-1,by omega⟩
   rw[brkL_go]at g3
   have hx:=xnI_eq u
   have hlt:=(Sort.xorNext u).toNat_lt
   generalize xnI (u.toNat:Int)=xu at *
   generalize Sort.xorNext u=u' at *
   subst hx
   have hmd:(u'.toNat&&&(md-1))<=md-1:=Nat.and_le_right
   have e10:iand .u64 (u'.toNat:Int) (u64.wrap ((md:Int)-1))=((u'.toNat&&&(md-1):Nat):Int):=by
    rw[wu _ (by omega) (by omega),show(md:Int)-1=((md-1:Nat):Int)by omega,kaa _ _ (by omega) (by omega)]
   rw[e10]
   generalize u'.toNat&&&(md-1)=z at *
   rw[wi (z:Int) (by omega) (by omega)]
   generalize ho:(if z≥n then z-n else z)=o at *
   have ho2:o<n:=by rw[<-ho];split<;>omega
   have w1:=wi (p1+(o:Int)) (by omega) (by omega)
   have w2:=wi (idx+1) (by omega) (by omega)
   have hs:=swp_arr (g:=g) (i:=idx) (j:=p1+(o:Int)) (by omega) (by omega) (by omega) (by omega)
   rw[show p1.toNat+o=(p1+(o:Int)).toNat by omega,hs,show idx.toNat+1=(idx+1).toNat by omega]at g3
   have fin:(∃(k:Nat) (u:UInt64),(k<=3/\i64.wrap (idx+1)+k=p1+dq*2+2)/\(u'.toNat:Int)=(u.toNat:Int)/\(swpL g idx (i64.wrap (p1+(o:Int)))).length=w0.length/\R=(brkL p1.toNat n md k (u,(swpL g idx (i64.wrap (p1+(o:Int)))).toArray) (i64.wrap (idx+1)).toNat).toList)/\(p1+dq*2+2-i64.wrap (idx+1)).toNat<(p1+dq*2+2-idx).toNat:=by
    rw[w1,w2]
    exact⟨⟨k,u',⟨by omega,by omega⟩,rfl,by rw[k7h];exact g2,g3⟩,by omega⟩
   have rng:(0<=i64.wrap (p1+(o:Int))/\i64.wrap (p1+(o:Int))<(g.length:Int))/\(0<=idx/\idx<(g.length:Int)):=by rw[w1];exact⟨⟨by omega,by omega⟩,⟨by omega,by omega⟩⟩
   have rng2:0<=i64.wrap (p1+(o:Int))/\i64.wrap (p1+(o:Int))<((g.set idx.toNat (ix g (i64.wrap (p1+(o:Int))))).length:Int):=by rw[List.length_set];exact rng.1
   have rw1:0<=i64.wrap (p1+(o:Int))/\i64.wrap (p1+(o:Int))<(w0.length:Int):=by rw[<-g2];exact rng.1
   have rw2:0<=idx/\idx<(w0.length:Int):=by rw[<-g2];exact rng.2
   refine⟨fun e=> ?_,fun e=> ?_⟩
   ·have e:=of_decide_eq_true e
    rw[if_pos (by omega)]at ho
    rw[show(z:Int)-(p2-p1)=(o:Int)by omega,wi (o:Int) (by omega) (by omega)]
    exact k1 _ ⟨rw1,rng.1,rw2,rng.2,rw2,rng.2,rw1,rng2,fin.1,fin.2⟩
   ·have e:=of_decide_eq_false e
    rw[if_neg (by omega)]at ho
    subst ho
    exact k1 _ ⟨rw1,rng.1,rw2,rng.2,rw2,rng.2,rw1,rng2,fin.1,fin.2⟩
  ·have q:=of_decide_eq_false q
   have:k=0:=by omega
   subst this
   rw[g3]
   rfl
 ·have hh:=of_decide_eq_false hh
  unfold brkS
  rw[brk_no _ _ _ (by omega)]
noncomputable def k5j:Con TB.den:= .g ⟨132,[.one (.row 0),.one (zqi),.one (zqi),.one (.ptr 1 0)],[.vec yqu,.cells [zqi]],(.tup [.one (zqi),.one (zqi)]),[.vec yqu,.cells [zqi]],false⟩ [yqi,yqi,yqi,.sl yqu] [yqi,yqi,yqi,.sl yqu] [] fun(p1 p2 Au:Int) (w0:List Int)=>((0<=p1/\p1<w0.length)/\(0<=p2/\p2<w0.length)/\0<=Au/\Au<=1000,(((Sort.order2 Sort.ltInt w0.toArray p1.toNat p2.toNat Au.toNat).1:Int):Int),(((Sort.order2 Sort.ltInt w0.toArray p1.toNat p2.toNat Au.toNat).2.1:Int):Int),(((Sort.order2 Sort.ltInt w0.toArray p1.toNat p2.toNat Au.toNat).2.2:Int):Int),w0,())
theorem k5k:k5j.Ok Tryz.prog TB:=prv Bs Tryz.func132 .no (k1l.c c0) (Q:=∀(p1 p2 Au:Int) (w0:List Int),((0<=p1/\p1<w0.length)/\(0<=p2/\p2<w0.length)/\0<=Au/\Au<=1000)->∀r0:Int,((Sort.order2 Sort.ltInt w0.toArray p1.toNat p2.toNat Au.toNat).1:Int)=r0->∀r1:Int,((Sort.order2 Sort.ltInt w0.toArray p1.toNat p2.toNat Au.toNat).2.1:Int)=r1->∀d1_0:Int,((Sort.order2 Sort.ltInt w0.toArray p1.toNat p2.toNat Au.toNat).2.2:Int)=d1_0->∀e0:List Int,w0=e0-> 
(0<=p2/\p2<(w0.length:Int))/\(0<=p2/\p2<(w0.length:Int))/\(0<=p1/\p1<(w0.length:Int))/\(0<=p1/\p1<(w0.length:Int))/\((decide ((ix w0 p2)<(ix w0 p1)))=true->
 p2=r0/\p1=r1/\i64.wrap (Au+1)=d1_0/\w0=e0)/\
((decide ((ix w0 p2)<(ix w0 p1)))=false->
 p1=r0/\p2=r1/\Au=d1_0/\w0=e0)) (by kernel_rfl)<|by
 rintro p1 p2 Au w0 h _ rfl _ rfl _ rfl _ rfl
 obtain⟨⟨h1,h2⟩,⟨h3,h4⟩,h5,h6⟩:=h
 have x1:=arr_ix (g:=w0) h1 h2
 have x2:=arr_ix (g:=w0) h3 h4
 refine⟨⟨h3,h4⟩,⟨h3,h4⟩,⟨h1,h2⟩,⟨h1,h2⟩,fun e=> ?_,fun e=> ?_⟩
 ·unfold Sort.order2
  rw[x1,x2,ltI_iff,e,if_pos rfl,wi (Au+1) (by omega) (by omega)]
  exact⟨(Int.toNat_of_nonneg h3).symm,(Int.toNat_of_nonneg h1).symm,(by show Au+1=((Au.toNat+1:Nat):Int);omega),rfl⟩
 ·unfold Sort.order2
  rw[x1,x2,ltI_iff,e,if_neg (by decide)]
  exact⟨(Int.toNat_of_nonneg h1).symm,(Int.toNat_of_nonneg h3).symm,(Int.toNat_of_nonneg h5).symm,rfl⟩
noncomputable def k5c:Con TB.den:= .g ⟨126,[.one (.row 0),.one (zqi),.one (zqi),.one (zqi),.one (.ptr 1 0)],[.vec yqu,.cells [zqi]],(.one (.one (zqi))),[.vec yqu,.cells [zqi]],false⟩ [yqi,yqi,yqi,yqi,.sl yqu] [yqi,yqi,.sl yqu] [] fun(p1 p2 p3 Au:Int) (w0:List Int)=>((0<=p1/\p1<w0.length)/\(0<=p2/\p2<w0.length)/\(0<=p3/\p3<w0.length)/\0<=Au/\Au<=100,(((Sort.median Sort.ltInt w0.toArray p1.toNat p2.toNat p3.toNat Au.toNat).1:Int):Int),(((Sort.median Sort.ltInt w0.toArray p1.toNat p2.toNat p3.toNat Au.toNat).2:Int):Int),w0,())
theorem k2f:k5c.Ok Tryz.prog TB:=prv Bs Tryz.func126 .no (k5k.c c0) (Q:=∀(p1 p2 p3 Au:Int) (w0:List Int),((0<=p1/\p1<w0.length)/\(0<=p2/\p2<w0.length)/\(0<=p3/\p3<w0.length)/\0<=Au/\Au<=100)->∀r0:Int,((Sort.median Sort.ltInt w0.toArray p1.toNat p2.toNat p3.toNat Au.toNat).1:Int)=r0->∀d1_0:Int,((Sort.median Sort.ltInt w0.toArray p1.toNat p2.toNat p3.toNat Au.toNat).2:Int)=d1_0->∀e0:List Int,w0=e0-> 
(w0.length=w0.length)/\((0<=p1/\p1<w0.length)/\(0<=p2/\p2<w0.length)/\0<=Au/\Au<=1000)/\let r1:Int:=((Sort.order2 Sort.ltInt w0.toArray p1.toNat p2.toNat Au.toNat).1:Int)
 let r2:Int:=((Sort.order2 Sort.ltInt w0.toArray p1.toNat p2.toNat Au.toNat).2.1:Int)
 let r3:Int:=((Sort.order2 Sort.ltInt w0.toArray p1.toNat p2.toNat Au.toNat).2.2:Int)
(w0.length=w0.length)/\((0<=r2/\r2<w0.length)/\(0<=p3/\p3<w0.length)/\0<=r3/\r3<=1000)/\let r4:Int:=((Sort.order2 Sort.ltInt w0.toArray r2.toNat p3.toNat r3.toNat).1:Int)
 let r5:Int:=((Sort.order2 Sort.ltInt w0.toArray r2.toNat p3.toNat r3.toNat).2.1:Int)
 let r6:Int:=((Sort.order2 Sort.ltInt w0.toArray r2.toNat p3.toNat r3.toNat).2.2:Int)
(w0.length=w0.length)/\((0<=r1/\r1<w0.length)/\(0<=r4/\r4<w0.length)/\0<=r6/\r6<=1000)/\let r7:Int:=((Sort.order2 Sort.ltInt w0.toArray r1.toNat r4.toNat r6.toNat).1:Int)
 let r8:Int:=((Sort.order2 Sort.ltInt w0.toArray r1.toNat r4.toNat r6.toNat).2.1:Int)
 let r9:Int:=((Sort.order2 Sort.ltInt w0.toArray r1.toNat r4.toNat r6.toNat).2.2:Int)
 r8=r0/\r9=d1_0/\w0=e0) (by kernel_rfl)<|by
 rintro p1 p2 p3 Au w0 h _ rfl _ rfl _ rfl
 obtain⟨⟨h1,h2⟩,⟨h3,h4⟩,⟨h5,h6⟩,h7,h8⟩:=h
 refine ?_
 unfold Sort.median
 dsimp only
 simp only[Int.toNat_natCast]
 have q1:=k2c (d:=w0.toArray) (a:=p1.toNat) (b:=p2.toNat) (c:=Au.toNat) (n:=w0.length) (by omega) (by omega)
 generalize Sort.order2 Sort.ltInt w0.toArray p1.toNat p2.toNat Au.toNat=r1 at *
 have q2:=k2c (d:=w0.toArray) (a:=r1.2.1) (b:=p3.toNat) (c:=r1.2.2) (n:=w0.length) q1.2.1 (by omega)
 generalize Sort.order2 Sort.ltInt w0.toArray r1.2.1 p3.toNat r1.2.2=r2 at *
 have q3:=k2c (d:=w0.toArray) (a:=r1.1) (b:=r2.1) (c:=r2.2.2) (n:=w0.length) q1.1 q2.1
 exact⟨by trivial,⟨⟨h1,h2⟩,⟨h3,h4⟩,h7,by omega⟩,by trivial,⟨⟨by omega,by omega⟩,⟨h5,h6⟩,by omega,by omega⟩,by trivial,⟨⟨by omega,by omega⟩,⟨by omega,by omega⟩,by omega,by omega⟩,by trivial,by trivial,by trivial⟩
noncomputable def k2l:Con TB.den:= .g ⟨125,[.one (.row 0),.one (zqi),.one (.ptr 1 0)],[.vec yqu,.cells [zqi]],(.one (.one (zqi))),[.vec yqu,.cells [zqi]],false⟩ [yqi,yqi,.sl yqu] [yqi,yqi,.sl yqu] [] fun(p1 Au:Int) (w0:List Int)=>((1<=p1/\p1+1<w0.length)/\w0.length<=1099511627776/\0<=Au/\Au<=100,(((Sort.medianAdjacent Sort.ltInt w0.toArray p1.toNat Au.toNat).1:Int):Int),(((Sort.medianAdjacent Sort.ltInt w0.toArray p1.toNat Au.toNat).2:Int):Int),w0,())
theorem k2x:k2l.Ok Tryz.prog TB:=prv Bs Tryz.func125 .no (k2f.c c0) (Q:=∀(p1 Au:Int) (w0:List Int),((1<=p1/\p1+1<w0.length)/\w0.length<=1099511627776/\0<=Au/\Au<=100)->∀r0:Int,((Sort.medianAdjacent Sort.ltInt w0.toArray p1.toNat Au.toNat).1:Int)=r0->∀d1_0:Int,((Sort.medianAdjacent Sort.ltInt w0.toArray p1.toNat Au.toNat).2:Int)=d1_0->∀e0:List Int,w0=e0-> 
(w0.length=w0.length)/\((0<=(i64.wrap (p1-1))/\(i64.wrap (p1-1))<w0.length)/\(0<=p1/\p1<w0.length)/\(0<=(i64.wrap (p1+1))/\(i64.wrap (p1+1))<w0.length)/\0<=Au/\Au<=100)/\let r1:Int:=((Sort.median Sort.ltInt w0.toArray (i64.wrap (p1-1)).toNat p1.toNat (i64.wrap (p1+1)).toNat Au.toNat).1:Int)
 let r2:Int:=((Sort.median Sort.ltInt w0.toArray (i64.wrap (p1-1)).toNat p1.toNat (i64.wrap (p1+1)).toNat Au.toNat).2:Int)
 r1=r0/\r2=d1_0/\w0=e0) (by kernel_rfl)<|by
 rintro p1 Au w0 h _ rfl _ rfl _ rfl
 obtain⟨⟨h1,h2⟩,h3,h4,h5⟩:=h
 refine ?_
 rw[wi (p1-1) (by omega) (by omega),wi (p1+1) (by omega) (by omega)]
 unfold Sort.medianAdjacent
 rw[show(p1-1).toNat=p1.toNat-1 by omega,show(p1+1).toNat=p1.toNat+1 by omega]
 exact⟨rfl,⟨⟨by omega,by omega⟩,⟨by omega,by omega⟩,⟨by omega,by omega⟩,h4,h5⟩,rfl,rfl,rfl⟩
noncomputable def k3a:Con TB.den:= .g ⟨111,[.one (.row 0),.one (zqi),.one (zqi)],[.vec yqu],(.tup [.one (zqi),.one (zqi)]),[.vec yqu],false⟩ [yqi,yqi,.sl yqu] [yqi,yqi,.sl yqu] [] fun(p1 p2:Int) (w0:List Int)=>((0<=p1/\p1<p2/\p2<=w0.length)/\w0.length<=1099511627776,(((cpS w0 p1 p2).1:Int):Int),(hintN (cpS w0 p1 p2).2:Int),w0,())
set_option maxHeartbeats 1000000 in
theorem k3i:k3a.Ok Tryz.prog TB:=prv Bs Tryz.func111 (.r 5 (.jn ⟨[1,0],[.cells [zqi],.vec yqu],[10,11,12],[.one (.any),.one (zqi),.one (.any)],[]⟩ [] (.r 0 (.nd [] (.jn ⟨[1,0],[.cells [zqi],.vec yqu],[10,11,12],[.one (zqi),.one (zqi),.one (zqi)],[]⟩ [] .no [] .no) [] .no)) [] .no)) (k2x.c (k2f.c c0)) (Q:=∀(p1 p2:Int) (w0:List Int),((0<=p1/\p1<p2/\p2<=w0.length)/\w0.length<=1099511627776)->∀r0:Int,((cpS w0 p1 p2).1:Int)=r0->∀r1:Int,(hintN (cpS w0 p1 p2).2)=r1->∀e0:List Int,w0=e0-> 
 let v2:Int:=i64.wrap (Int.tdiv (i64.wrap (p2-p1)) 4)
 let v3:Int:=i64.wrap (p1+(i64.wrap (v2*1)))
 let v4:Int:=i64.wrap (Int.tdiv (i64.wrap (p2-p1)) 4)
 let v5:Int:=i64.wrap (p1+(i64.wrap (v4*2)))
 let v6:Int:=i64.wrap (Int.tdiv (i64.wrap (p2-p1)) 4)
 let v7:Int:=i64.wrap (p1+(i64.wrap (v6*3)))
 ∀J1:Int->Int->(List Int)->Prop,(∀(b1 f1:Int) (i1:List Int),
(((f1==0)=true->
 b1=r0/\1=r1/\i1=e0)/\
((f1==0)=false->
((f1==12)=true->
 b1=r0/\2=r1/\i1=e0)/\
((f1==12)=false->
 b1=r0/\0=r1/\i1=e0)))->J1 b1 f1 i1)->
 let v8:Bool:=decide (8<=(i64.wrap (p2-p1)))
(v8=true->
 ∀J2:Int->Int->Int->Int->(List Int)->Prop,(∀(k1 l1 m1 n1:Int) (o1:List Int),
((w0.length=o1.length)/\((0<=k1/\k1<o1.length)/\(0<=l1/\l1<o1.length)/\(0<=m1/\m1<o1.length)/\0<=n1/\n1<=100)/\let r16:Int:=((Sort.median Sort.ltInt o1.toArray k1.toNat l1.toNat m1.toNat n1.toNat).1:Int)
 let r17:Int:=((Sort.median Sort.ltInt o1.toArray k1.toNat l1.toNat m1.toNat n1.toNat).2:Int)
 J1 r16 r17 o1)->J2 k1 l1 m1 n1 o1)->
 let v9:Bool:=decide (50<=(i64.wrap (p2-p1)))
(v9=true->
(w0.length=w0.length)/\((1<=v3/\v3+1<w0.length)/\w0.length<=1099511627776/\0<=(0:Int)/\(0:Int)<=100)/\let r10:Int:=((Sort.medianAdjacent Sort.ltInt w0.toArray v3.toNat (0:Int).toNat).1:Int)
 let r11:Int:=((Sort.medianAdjacent Sort.ltInt w0.toArray v3.toNat (0:Int).toNat).2:Int)
(w0.length=w0.length)/\((1<=v5/\v5+1<w0.length)/\w0.length<=1099511627776/\0<=r11/\r11<=100)/\let r12:Int:=((Sort.medianAdjacent Sort.ltInt w0.toArray v5.toNat r11.toNat).1:Int)
 let r13:Int:=((Sort.medianAdjacent Sort.ltInt w0.toArray v5.toNat r11.toNat).2:Int)
(w0.length=w0.length)/\((1<=v7/\v7+1<w0.length)/\w0.length<=1099511627776/\0<=r13/\r13<=100)/\let r14:Int:=((Sort.medianAdjacent Sort.ltInt w0.toArray v7.toNat r13.toNat).1:Int)
 let r15:Int:=((Sort.medianAdjacent Sort.ltInt w0.toArray v7.toNat r13.toNat).2:Int)
 J2 r10 r12 r14 r15 w0)/\
(v9=false->
 J2 v3 v5 v7 0 w0))/\
(v8=false->
 J1 v5 0 w0)) (by kernel_rfl)<|by
 rintro p1 p2 w0 h _ rfl _ rfl _ rfl
 obtain⟨⟨h1,h2,h3⟩,h4⟩:=h
 have e1:=wi (p2-p1) (by omega) (by omega)
 have e3:Int.tdiv (p2-p1) 4=(p2-p1)/4:=Int.tdiv_eq_ediv_of_nonneg (by omega)
 have e4:=wi ((p2-p1)/4) (by omega) (by omega)
 have e5:=wi ((p2-p1)/4*1) (by omega) (by omega)
 have e6:=wi ((p2-p1)/4*2) (by omega) (by omega)
 have e7:=wi ((p2-p1)/4*3) (by omega) (by omega)
 have f5:=wi (p1+(p2-p1)/4*1) (by omega) (by omega)
 have f6:=wi (p1+(p2-p1)/4*2) (by omega) (by omega)
 have f7:=wi (p1+(p2-p1)/4*3) (by omega) (by omega)
 have hcp:cpS w0 p1 p2=Sort.choosePivot Sort.ltInt w0.toArray p1.toNat p2.toNat:=rfl
 dsimp only
 rw[e1,e3,e4,e5,e6,e7,f5,f6,f7]
 have dq:(p2-p1)/4=(((p2.toNat-p1.toNat)/4:Nat):Int):=by omega
 intro J1 k1
 have j2:∀(r:Nat×Nat),cpS w0 p1 p2=(r.1,if r.2=0 then Sort.Hint.increasing else if r.2=12 then .decreasing else .unknown)->J1 (r.1:Int) (r.2:Int) w0:=by
  intro r hr
  refine k1 _ _ _ ?_
  rw[hr]
  refine⟨fun e=> ?_,fun e=>⟨fun e2=> ?_,fun e2=> ?_⟩⟩
  ·have e:(r.2:Int)=0:=by simpa using e
   rw[if_pos (by omega)]
   exact⟨rfl,rfl,rfl⟩
  ·have e:¬(r.2:Int)=0:=by simpa using e
   have e2:(r.2:Int)=12:=by simpa using e2
   rw[if_neg (by omega),if_pos (by omega)]
   exact⟨rfl,rfl,rfl⟩
  ·have e:¬(r.2:Int)=0:=by simpa using e
   have e2:¬(r.2:Int)=12:=by simpa using e2
   rw[if_neg (by omega),if_neg (by omega)]
   exact⟨rfl,rfl,rfl⟩
 refine⟨fun a J2 k2=> ?_,fun a=> ?_⟩
 ·have j1:∀(i j k s:Nat),(i<w0.length/\j<w0.length/\k<w0.length/\s<=100)->cpS w0 p1 p2=((Sort.median Sort.ltInt w0.toArray i j k s).1,if(Sort.median Sort.ltInt w0.toArray i j k s).2=0 then Sort.Hint.increasing else if(Sort.median Sort.ltInt w0.toArray i j k s).2=12 then .decreasing else .unknown)->J2 (i:Int) (j:Int) (k:Int) (s:Int) w0:=by
   intro i j k s ⟨i1,i2,i3,i4⟩ hr
   refine k2 _ _ _ _ _ ⟨rfl,⟨⟨by omega,by omega⟩,⟨by omega,by omega⟩,⟨by omega,by omega⟩,by omega,by omega⟩,?_⟩
   simp only[Int.toNat_natCast]
   exact j2 _ hr
  refine⟨fun b=> ?_,fun b=> ?_⟩
  ·have a:=of_decide_eq_true a
   have b:=of_decide_eq_true b
   have ei:(p1+(p2-p1)/4*1).toNat=p1.toNat+(p2.toNat-p1.toNat)/4*1:=by omega
   have ej:(p1+(p2-p1)/4*2).toNat=p1.toNat+(p2.toNat-p1.toNat)/4*2:=by omega
   have ek:(p1+(p2-p1)/4*3).toNat=p1.toNat+(p2.toNat-p1.toNat)/4*3:=by omega
   have key:=hcp
   unfold Sort.choosePivot at key
   simp only[if_pos (show p2.toNat-p1.toNat≥8 by omega),if_pos (show p2.toNat-p1.toNat≥50 by omega)]at key
   rw[<-ei,<-ej,<-ek]at key
   have r1:=k6o (d:=w0.toArray) (a:=(p1+(p2-p1)/4*1).toNat-1) (b:=(p1+(p2-p1)/4*1).toNat) (c:=(p1+(p2-p1)/4*1).toNat+1) (s:=0) (n:=w0.length) (by omega) (by omega) (by omega)
   have m1:Sort.medianAdjacent Sort.ltInt w0.toArray (p1+(p2-p1)/4*1).toNat 0=Sort.median Sort.ltInt w0.toArray ((p1+(p2-p1)/4*1).toNat-1) (p1+(p2-p1)/4*1).toNat ((p1+(p2-p1)/4*1).toNat+1) 0:=rfl
   rw[<-m1]at r1
   rw[show(0:Int).toNat=0 from rfl]
   generalize Sort.medianAdjacent Sort.ltInt w0.toArray (p1+(p2-p1)/4*1).toNat 0=A at *
   have r2:=k6o (d:=w0.toArray) (a:=(p1+(p2-p1)/4*2).toNat-1) (b:=(p1+(p2-p1)/4*2).toNat) (c:=(p1+(p2-p1)/4*2).toNat+1) (s:=A.2) (n:=w0.length) (by omega) (by omega) (by omega)
   have m2:Sort.medianAdjacent Sort.ltInt w0.toArray (p1+(p2-p1)/4*2).toNat A.2=Sort.median Sort.ltInt w0.toArray ((p1+(p2-p1)/4*2).toNat-1) (p1+(p2-p1)/4*2).toNat ((p1+(p2-p1)/4*2).toNat+1) A.2:=rfl
   rw[<-m2]at r2
   simp only[Int.toNat_natCast]
   generalize Sort.medianAdjacent Sort.ltInt w0.toArray (p1+(p2-p1)/4*2).toNat A.2=B at *
   have r3:=k6o (d:=w0.toArray) (a:=(p1+(p2-p1)/4*3).toNat-1) (b:=(p1+(p2-p1)/4*3).toNat) (c:=(p1+(p2-p1)/4*3).toNat+1) (s:=B.2) (n:=w0.length) (by omega) (by omega) (by omega)
   have m3:Sort.medianAdjacent Sort.ltInt w0.toArray (p1+(p2-p1)/4*3).toNat B.2=Sort.median Sort.ltInt w0.toArray ((p1+(p2-p1)/4*3).toNat-1) (p1+(p2-p1)/4*3).toNat ((p1+(p2-p1)/4*3).toNat+1) B.2:=rfl
   rw[<-m3]at r3
   generalize Sort.medianAdjacent Sort.ltInt w0.toArray (p1+(p2-p1)/4*3).toNat B.2=C at *
   exact⟨by trivial,⟨⟨by omega,by omega⟩,h4,by omega,by omega⟩,by trivial,⟨⟨by omega,by omega⟩,h4,by omega,by omega⟩,by trivial,⟨⟨by omega,by omega⟩,h4,by omega,by omega⟩,j1 _ _ _ _ ⟨r1.1,r2.1,r3.1,by omega⟩ key⟩
  ·have a:=of_decide_eq_true a
   have b:=of_decide_eq_false b
   have key:=hcp
   unfold Sort.choosePivot at key
   simp only[if_pos (show p2.toNat-p1.toNat≥8 by omega),if_neg (show¬p2.toNat-p1.toNat≥50 by omega)]at key
   have ei:p1+(p2-p1)/4*1=((p1.toNat+(p2.toNat-p1.toNat)/4*1:Nat):Int):=by omega
   have ej:p1+(p2-p1)/4*2=((p1.toNat+(p2.toNat-p1.toNat)/4*2:Nat):Int):=by omega
   have ek:p1+(p2-p1)/4*3=((p1.toNat+(p2.toNat-p1.toNat)/4*3:Nat):Int):=by omega
   rw[ei,ej,ek]
   exact j1 _ _ _ 0 ⟨by omega,by omega,by omega,by omega⟩ key
 ·have a:=of_decide_eq_false a
  have key:=hcp
  unfold Sort.choosePivot at key
  simp only[if_neg (show¬p2.toNat-p1.toNat≥8 by omega)]at key
  have ej:p1+(p2-p1)/4*2=((p1.toNat+(p2.toNat-p1.toNat)/4*2:Nat):Int):=by omega
  rw[ej]
  exact j2 (_,0) key
noncomputable def k42:Con TB.den:= .g ⟨122,[.one (.row 0),.one (zqi),.one (zqi),.one (zqi)],[.vec yqu],(.tup []),[.vec yqu],false⟩ [yqi,yqi,yqi,.sl yqu] [.sl yqu] [] fun(p1 p2 p3:Int) (w0:List Int)=>((0<=p1/\p1<=1099511627776)/\(0<=p2/\0<=p3/\p3+p2<=w0.length)/\w0.length<=1099511627776,(sdS w0 p1 p2 p3:List Int),())
theorem k4l:k42.Ok Tryz.prog TB:=prv Bs Tryz.func122 (.r 0 (.lp [] ⟨[0],[.vec yqu],[8],[.one (zqi)],[]⟩ (.r 1 (.jn ⟨[],[],[9],[.one (zqi)],[]⟩ [] (.jn ⟨[],[],[36],[.one (.d (.bool))],[]⟩ [] .no [] .no) [] .no)))) (k1l.c c0) (Q:=∀(p1 p2 p3:Int) (w0:List Int),((0<=p1/\p1<=1099511627776)/\(0<=p2/\0<=p3/\p3+p2<=w0.length)/\w0.length<=1099511627776)->∀e0:List Int,sdS w0 p1 p2 p3=e0-> 
 ∃(I1:Int->(List Int)->Prop) (M1:Int->(List Int)->Nat),I1 p1 w0/\∀(b1:Int) (f1:List Int),(I1 b1 f1->
 let v1:Int:=i64.wrap ((i64.wrap (2*b1))+1)
(decide (p2<=v1)=true->
 f1=e0)/\
(decide (p2<=v1)=false->
 ∀J1:Int->Prop,(∀(i1:Int),
((0<=i64.wrap (p3+b1)/\i64.wrap (p3+b1)<(w0.length:Int))/\(0<=i64.wrap (p3+b1)/\i64.wrap (p3+b1)<(f1.length:Int))/\(0<=i64.wrap (p3+i1)/\i64.wrap (p3+i1)<(w0.length:Int))/\(0<=i64.wrap (p3+i1)/\i64.wrap (p3+i1)<(f1.length:Int))/\let r5:Bool:=(decide ((ix f1 (i64.wrap (p3+b1)))<(ix f1 (i64.wrap (p3+i1)))))
((!r5)=true->
 f1=e0)/\
((!r5)=false->
(0<=i64.wrap (p3+i1)/\i64.wrap (p3+i1)<(w0.length:Int))/\(0<=i64.wrap (p3+i1)/\i64.wrap (p3+i1)<(f1.length:Int))/\(0<=i64.wrap (p3+b1)/\i64.wrap (p3+b1)<(w0.length:Int))/\(0<=i64.wrap (p3+b1)/\i64.wrap (p3+b1)<(f1.length:Int))/\(0<=i64.wrap (p3+b1)/\i64.wrap (p3+b1)<(w0.length:Int))/\(0<=i64.wrap (p3+b1)/\i64.wrap (p3+b1)<(f1.length:Int))/\(0<=i64.wrap (p3+i1)/\i64.wrap (p3+i1)<(w0.length:Int))/\(0<=i64.wrap (p3+i1)/\i64.wrap (p3+i1)<((f1.set (i64.wrap (p3+b1)).toNat (ix f1 (i64.wrap (p3+i1)))).length:Int))/\I1 i1 ((f1.set (i64.wrap (p3+b1)).toNat (ix f1 (i64.wrap (p3+i1)))).set (i64.wrap (p3+i1)).toNat (ix f1 (i64.wrap (p3+b1))))/\M1 i1 ((f1.set (i64.wrap (p3+b1)).toNat (ix f1 (i64.wrap (p3+i1)))).set (i64.wrap (p3+i1)).toNat (ix f1 (i64.wrap (p3+b1))))<M1 b1 f1))->J1 i1)->
 ∀J2:Bool->Prop,(∀(k1:Bool),
((k1=true->
 J1 (i64.wrap (v1+1)))/\
(k1=false->
 J1 v1))->J2 k1)->
 let v2:Bool:=decide ((i64.wrap (v1+1))<p2)
(v2=true->
(0<=i64.wrap (p3+v1)/\i64.wrap (p3+v1)<(w0.length:Int))/\(0<=i64.wrap (p3+v1)/\i64.wrap (p3+v1)<(f1.length:Int))/\let v3:Int:=i64.wrap ((i64.wrap (p3+v1))+1)
(0<=v3/\v3<(w0.length:Int))/\(0<=v3/\v3<(f1.length:Int))/\let r4:Bool:=(decide ((ix f1 (i64.wrap (p3+v1)))<(ix f1 v3)))
 J2 r4)/\
(v2=false->
 J2 false)))) (by kernel_rfl)<|by
 rintro p1 p2 p3 w0 h _ rfl
 obtain⟨⟨h0,h1⟩,⟨h2,h3,h4⟩,h5⟩:=h
 refine⟨fun root g=>(0<=root/\root<=1099511627776)/\g.length=w0.length/\Sort.siftDown Sort.ltInt p2.toNat p3.toNat root.toNat g.toArray=Sort.siftDown Sort.ltInt p2.toNat p3.toNat p1.toNat w0.toArray,fun root _=>(p2-root).toNat,⟨⟨h0,h1⟩,rfl,rfl⟩,?_⟩
 rintro root g ⟨⟨g0,g1⟩,g2,g3⟩
 rw[wi (2*root) (by omega) (by omega),wi (2*root+1) (by omega) (by omega)]
 dsimp only
 rw[wi (2*root+1+1) (by omega) (by omega)]
 refine⟨fun hh=> ?_,fun hh=> ?_⟩
 ·have hh:=of_decide_eq_true hh
  rw[khe g0 hh]at g3
  unfold sdS
  rw[<-g3]
 have hh:=of_decide_eq_false hh
 have hc:=chS_rng (g:=g) (hi:=p2) (first:=p3) (root:=root) (by omega)
 rw[kjh g0 h3 (by omega) (by omega)]at g3
 intro J1 k1
 have key:∀c:Int,c=chS g p2 p3 root->J1 c:=by
  rintro c rfl
  rw[<-wi (p3+root) (by omega) (by omega)]at g3
  rw[<-wi (p3+chS g p2 p3 root) (by omega) (by omega)]at g3
  have w1:=wi (p3+root) (by omega) (by omega)
  have w2:=wi (p3+chS g p2 p3 root) (by omega) (by omega)
  generalize hcc:chS g p2 p3 root=c at *
  refine k1 _ ?_
  generalize i64.wrap (p3+root)=u at *
  generalize i64.wrap (p3+c)=v at *
  refine⟨⟨by omega,by omega⟩,⟨by omega,by omega⟩,⟨by omega,by omega⟩,⟨by omega,by omega⟩,fun e=> ?_,fun e=> ?_⟩
  ·have e:¬ix g u<ix g v:=by simpa using e
   rw[if_neg e]at g3
   unfold sdS
   rw[<-g3]
  ·have e:ix g u<ix g v:=by simpa using e
   rw[if_pos e]at g3
   exact⟨⟨by omega,by omega⟩,⟨by omega,by omega⟩,⟨by omega,by omega⟩,⟨by omega,by omega⟩,⟨by omega,by omega⟩,⟨by omega,by omega⟩,⟨by omega,by omega⟩,⟨by omega,by rw[List.length_set];omega⟩,⟨⟨by omega,by omega⟩,by rw[List.length_set,List.length_set];exact g2,g3⟩,by omega⟩
 intro J2 k2
 have j1:∀s:Bool,(s=true↔(2*root+2<p2/\ix g (p3+(2*root+1))<ix g (p3+(2*root+1)+1)))->J2 s:=by
  intro s hs
  refine k2 _ ⟨fun e=>key _ ?_,fun e=>key _ (Eq.symm (if_neg fun q=>by rw[hs.2 q]at e;cases e))⟩
  unfold Go.Md.chS
  rw[if_pos (hs.1 e)]
  omega
 refine⟨fun e=> ?_,fun e=> ?_⟩
 ·have e:=of_decide_eq_true e
  have w1:=wi (p3+(2*root+1)) (by omega) (by omega)
  rw[w1,wi (p3+(2*root+1)+1) (by omega) (by omega)]
  refine⟨⟨by omega,by omega⟩,⟨by omega,by omega⟩,⟨by omega,by omega⟩,⟨by omega,by omega⟩,?_⟩
  exact j1 _ ⟨fun q=>⟨by omega,of_decide_eq_true q⟩,fun q=>decide_eq_true q.2⟩
 ·have e:=of_decide_eq_false e
  exact j1 _ ⟨fun q=>(by cases q),fun q=>absurd q.1 (by omega)⟩
noncomputable def k49:Con TB.den:= .g ⟨109,[.one (.row 0),.one (zqi),.one (zqi)],[.vec yqu],(.tup []),[.vec yqu],false⟩ [yqi,yqi,.sl yqu] [.sl yqu] [] fun(p1 p2:Int) (w0:List Int)=>((0<=p1/\p1<p2/\p2<=w0.length)/\w0.length<=1099511627776,(heapS w0 p1 p2:List Int),())
theorem k4n:k49.Ok Tryz.prog TB:=prv Bs Tryz.func109 (.r 2 (.nd [] (.r 0 (.lp [] ⟨[0],[.vec yqu],[9],[.one (zqi)],[]⟩ .no)) [] (.r 0 (.lp [] ⟨[0],[.vec yqu],[10],[.one (zqi)],[]⟩ .no)))) (k4l.c c0) (Q:=∀(p1 p2:Int) (w0:List Int),((0<=p1/\p1<p2/\p2<=w0.length)/\w0.length<=1099511627776)->∀e0:List Int,heapS w0 p1 p2=e0-> 
 let v1:Int:=i64.wrap ((i64.wrap (p2-p1))-1)
 ∃(I1:Int->(List Int)->Prop) (M1:Int->(List Int)->Nat),I1 (i64.wrap (Int.tdiv v1 2)) w0/\∀(b1:Int) (f1:List Int),(I1 b1 f1->
(decide (0<=b1)=true->
(w0.length=f1.length)/\((0<=b1/\b1<=1099511627776)/\(0<=(i64.wrap (p2-p1))/\0<=p1/\p1+(i64.wrap (p2-p1))<=f1.length)/\f1.length<=1099511627776)/\let r2:List Int:=(sdS f1 b1 (i64.wrap (p2-p1)) p1)
 I1 (i64.wrap (b1-1)) r2/\M1 (i64.wrap (b1-1)) r2<M1 b1 f1)/\
(decide (0<=b1)=false->
 let v3:Int:=i64.wrap ((i64.wrap (p2-p1))-1)
 ∃(I2:Int->(List Int)->Prop) (M2:Int->(List Int)->Nat),I2 v3 f1/\∀(i1:Int) (k1:List Int),(I2 i1 k1->
(decide (0<=i1)=true->
(0<=i64.wrap (p1+i1)/\i64.wrap (p1+i1)<(w0.length:Int))/\(0<=i64.wrap (p1+i1)/\i64.wrap (p1+i1)<(k1.length:Int))/\(0<=p1/\p1<(w0.length:Int))/\(0<=p1/\p1<(k1.length:Int))/\(0<=p1/\p1<(w0.length:Int))/\(0<=p1/\p1<(k1.length:Int))/\(0<=i64.wrap (p1+i1)/\i64.wrap (p1+i1)<(w0.length:Int))/\(0<=i64.wrap (p1+i1)/\i64.wrap (p1+i1)<((k1.set p1.toNat (ix k1 (i64.wrap (p1+i1)))).length:Int))/\(w0.length=((k1.set p1.toNat (ix k1 (i64.wrap (p1+i1)))).set (i64.wrap (p1+i1)).toNat (ix k1 p1)).length)/\((0<=(0:Int)/\(0:Int)<=1099511627776)/\(0<=i1/\0<=p1/\p1+i1<=((k1.set p1.toNat (ix k1 (i64.wrap (p1+i1)))).set (i64.wrap (p1+i1)).toNat (ix k1 p1)).length)/\((k1.set p1.toNat (ix k1 (i64.wrap (p1+i1)))).set (i64.wrap (p1+i1)).toNat (ix k1 p1)).length<=1099511627776)/\let r4:List Int:=(sdS ((k1.set p1.toNat (ix k1 (i64.wrap (p1+i1)))).set (i64.wrap (p1+i1)).toNat (ix k1 p1)) (0:Int) i1 p1)
 I2 (i64.wrap (i1-1)) r4/\M2 (i64.wrap (i1-1)) r4<M2 i1 k1)/\
(decide (0<=i1)=false->
 k1=e0))))) (by kernel_rfl)<|by
 rintro p1 p2 w0 h _ rfl
 obtain⟨⟨h1,h2,h3⟩,h4⟩:=h
 have e1:=wi (p2-p1) (by omega) (by omega)
 have e2:=wi (p2-p1-1) (by omega) (by omega)
 have e3:Int.tdiv (p2-p1-1) 2=(p2-p1-1)/2:=Int.tdiv_eq_ediv_of_nonneg (by omega)
 have e4:=wi ((p2-p1-1)/2) (by omega) (by omega)
 dsimp only
 rw[e1,e2,e3,e4]
 refine⟨(fun i g=>(-1<=i/\i<=1099511627776)/\g.length=w0.length/\Sort.heapPop Sort.ltInt p1.toNat (p2-p1).toNat (Sort.heapBuild Sort.ltInt (p2-p1).toNat p1.toNat (i+1).toNat g.toArray)=Sort.heapSort Sort.ltInt w0.toArray p1.toNat p2.toNat),(fun i _=>(i+1).toNat),⟨⟨by omega,by omega⟩,rfl,?_⟩,?_⟩
 ·unfold Sort.heapSort
  rw[show(p2-p1).toNat=p2.toNat-p1.toNat by omega,show((p2-p1-1)/2+1).toNat=(p2.toNat-p1.toNat-1)/2+1 by omega]
 rintro i g ⟨⟨g0,g1⟩,g2,g3⟩
 refine⟨fun hh=> ?_,fun hh=> ?_⟩
 ·have hh:=of_decide_eq_true hh
  rw[kic hh]at g3
  have hl:(sdS g i (p2-p1) p1).length=g.length:=sdS_len
  refine⟨g2.symm,⟨⟨by omega,by omega⟩,⟨by omega,by omega,by omega⟩,by omega⟩,?_⟩
  dsimp only
  rw[wi (i-1) (by omega) (by omega)]
  refine⟨⟨⟨by omega,by omega⟩,hl.trans g2,?_⟩,by omega⟩
  rw[show(i-1+1).toNat=i.toNat by omega]
  exact g3
 ·have hh:=of_decide_eq_false hh
  rw[show(i+1).toNat=0 by omega,Sort.heapBuild]at g3
  refine⟨(fun i g=>(-1<=i/\i<p2-p1)/\g.length=w0.length/\Sort.heapPop Sort.ltInt p1.toNat (i+1).toNat g.toArray=Sort.heapSort Sort.ltInt w0.toArray p1.toNat p2.toNat),(fun i _=>(i+1).toNat),⟨⟨by omega,by omega⟩,g2,by rw[show(p2-p1-1+1).toNat=(p2-p1).toNat by omega];exact g3⟩,?_⟩
  rintro i g ⟨⟨g0,g1⟩,g2,g3⟩
  refine⟨fun hh=> ?_,fun hh=> ?_⟩
  ·have hh:=of_decide_eq_true hh
   rw[kkg hh]at g3
   have w1:=wi (p1+i) (by omega) (by omega)
   rw[w1]
   have hs:=swp_arr (g:=g) (i:=p1) (j:=p1+i) (by omega) (by omega) (by omega) (by omega)
   rw[show p1.toNat+i.toNat=(p1+i).toNat by omega,hs]at g3
   have hl0:(swpL g p1 (p1+i)).length=g.length:=k7h
   have hl:(sdS (swpL g p1 (p1+i)) 0 i p1).length=(swpL g p1 (p1+i)).length:=sdS_len
   refine⟨⟨by omega,by omega⟩,⟨by omega,by omega⟩,⟨by omega,by omega⟩,⟨by omega,by omega⟩,⟨by omega,by omega⟩,⟨by omega,by omega⟩,⟨by omega,by omega⟩,⟨by omega,by rw[List.length_set];omega⟩,by rw[List.length_set,List.length_set,g2],⟨⟨by omega,by omega⟩,⟨by omega,by omega,?_⟩,?_⟩,?_⟩
   ·rw[List.length_set,List.length_set];omega
   ·rw[List.length_set,List.length_set];omega
   dsimp only
   rw[wi (i-1) (by omega) (by omega)]
   refine⟨⟨⟨by omega,by omega⟩,(hl.trans hl0).trans g2,?_⟩,by omega⟩
   rw[show(i-1+1).toNat=i.toNat by omega]
   exact g3
  ·have hh:=of_decide_eq_false hh
   rw[show(i+1).toNat=0 by omega,Sort.heapPop]at g3
   unfold heapS
   rw[<-g3]
noncomputable def k2y:Con TB.den:= .g ⟨108,[.one (.row 0),.one (zqi),.one (zqi)],[.vec yqu],(.tup []),[.vec yqu],false⟩ [yqi,yqi,.sl yqu] [.sl yqu] [] fun(p1 p2:Int) (w0:List Int)=>((0<=p1/\p1<=p2/\p2<=w0.length)/\w0.length<=1099511627776,(insS w0 p1 p2:List Int),())
theorem k36:k2y.Ok Tryz.prog TB:=prv Bs Tryz.func108 (.r 0 (.lp [] ⟨[0],[.vec yqu],[6],[.one (zqi)],[]⟩ (.r 0 (.nd [] (.r 0 (.lp [] ⟨[0],[.vec yqu],[7],[.one (zqi)],[]⟩ .no)) [] .no)))) (k1l.c c0) (Q:=∀(p1 p2:Int) (w0:List Int),((0<=p1/\p1<=p2/\p2<=w0.length)/\w0.length<=1099511627776)->∀e0:List Int,insS w0 p1 p2=e0-> 
 ∃(I1:Int->(List Int)->Prop) (M1:Int->(List Int)->Nat),I1 (i64.wrap (p1+1)) w0/\∀(b1:Int) (f1:List Int),(I1 b1 f1->
(decide (b1<p2)=true->
 ∃(I2:Int->(List Int)->Prop) (M2:Int->(List Int)->Nat),I2 b1 f1/\∀(i1:Int) (k1:List Int),(I2 i1 k1->
(decide (p1<i1)=true->
(0<=i1/\i1<(w0.length:Int))/\(0<=i1/\i1<(k1.length:Int))/\(0<=i64.wrap (i1-1)/\i64.wrap (i1-1)<(w0.length:Int))/\(0<=i64.wrap (i1-1)/\i64.wrap (i1-1)<(k1.length:Int))/\let r1:Bool:=(decide ((ix k1 i1)<(ix k1 (i64.wrap (i1-1)))))
(r1=true->
(0<=i64.wrap (i1-1)/\i64.wrap (i1-1)<(w0.length:Int))/\(0<=i64.wrap (i1-1)/\i64.wrap (i1-1)<(k1.length:Int))/\(0<=i1/\i1<(w0.length:Int))/\(0<=i1/\i1<(k1.length:Int))/\(0<=i1/\i1<(w0.length:Int))/\(0<=i1/\i1<(k1.length:Int))/\(0<=i64.wrap (i1-1)/\i64.wrap (i1-1)<(w0.length:Int))/\(0<=i64.wrap (i1-1)/\i64.wrap (i1-1)<((k1.set i1.toNat (ix k1 (i64.wrap (i1-1)))).length:Int))/\I2 (i64.wrap (i1-1)) ((k1.set i1.toNat (ix k1 (i64.wrap (i1-1)))).set (i64.wrap (i1-1)).toNat (ix k1 i1))/\M2 (i64.wrap (i1-1)) ((k1.set i1.toNat (ix k1 (i64.wrap (i1-1)))).set (i64.wrap (i1-1)).toNat (ix k1 i1))<M2 i1 k1)/\
(r1=false->
 I1 (i64.wrap (b1+1)) k1/\M1 (i64.wrap (b1+1)) k1<M1 b1 f1))/\
(decide (p1<i1)=false->
 I1 (i64.wrap (b1+1)) k1/\M1 (i64.wrap (b1+1)) k1<M1 b1 f1)))/\
(decide (b1<p2)=false->
 f1=e0))) (by kernel_rfl)<|by
 rintro p1 p2 w0 h _ rfl
 obtain⟨⟨h1,h2,h3⟩,h4⟩:=h
 rw[wi (p1+1) (by omega) (by omega)]
 refine⟨(fun i g=>(p1+1<=i/\i<=1099511627777)/\g.length=w0.length/\Sort.insOuter Sort.ltInt p1.toNat p2.toNat i.toNat g.toArray=Sort.insertionSort Sort.ltInt w0.toArray p1.toNat p2.toNat),(fun i _=>(1099511627778-i).toNat),⟨⟨by omega,by omega⟩,rfl,by unfold Sort.insertionSort;rw[show(p1+1).toNat=p1.toNat+1 by omega]⟩,?_⟩
 rintro i g ⟨⟨g0,g1⟩,g2,g3⟩
 refine⟨fun hh=> ?_,fun hh=> ?_⟩
 ·have hh:=of_decide_eq_true hh
  rw[kiy (by omega) hh]at g3
  refine⟨(fun j g' =>(p1<=j/\j<=i)/\g'.length=w0.length/\Sort.insInner Sort.ltInt p1.toNat j.toNat g'.toArray=Sort.insInner Sort.ltInt p1.toNat i.toNat g.toArray),(fun j _=>j.toNat),⟨⟨by omega,by omega⟩,g2,rfl⟩,?_⟩
  rintro j g' ⟨⟨k0,k1⟩,k2,k3⟩
  have nxt:g'.toArray=Sort.insInner Sort.ltInt p1.toNat i.toNat g.toArray->((p1+1<=i64.wrap (i+1)/\i64.wrap (i+1)<=1099511627777)/\g'.length=w0.length/\Sort.insOuter Sort.ltInt p1.toNat p2.toNat (i64.wrap (i+1)).toNat g'.toArray=Sort.insertionSort Sort.ltInt w0.toArray p1.toNat p2.toNat)/\(1099511627778-i64.wrap (i+1)).toNat<(1099511627778-i).toNat:=by
   intro e
   rw[wi (i+1) (by omega) (by omega),e]
   exact⟨⟨⟨by omega,by omega⟩,k2,g3⟩,by omega⟩
  refine⟨fun h2=> ?_,fun h2=> ?_⟩
  ·have h2:=of_decide_eq_true h2
   rw[wi (j-1) (by omega) (by omega)]
   rw[kj3 h1 h2 (by omega)]at k3
   refine⟨⟨by omega,by omega⟩,⟨by omega,by omega⟩,⟨by omega,by omega⟩,⟨by omega,by omega⟩,fun h5=> ?_,fun h5=> ?_⟩
   ·have h5:=of_decide_eq_true h5
    rw[if_pos h5]at k3
    exact⟨⟨by omega,by omega⟩,⟨by omega,by omega⟩,⟨by omega,by omega⟩,⟨by omega,by omega⟩,⟨by omega,by omega⟩,⟨by omega,by omega⟩,⟨by omega,by omega⟩,⟨by omega,by rw[List.length_set];omega⟩,⟨⟨by omega,by omega⟩,by rw[List.length_set,List.length_set];exact k2,k3⟩,by(dsimp only;omega)⟩
   ·have h5:=of_decide_eq_false h5
    rw[if_neg h5]at k3
    exact nxt k3
  ·have h2:=of_decide_eq_false h2
   rw[kgn h2]at k3
   exact nxt k3
 ·have hh:=of_decide_eq_false hh
  rw[kg7 (by omega) hh]at g3
  unfold insS
  rw[<-g3]
noncomputable def k20:Con TB.den:= .b ⟨113,[.one (.row 0),.one (zqi),.one (zqi)],[.vec yqu],(.one (.one (.d (.bool)))),[.vec yqu],false⟩ [yqi,yqi,.sl yqu] [.bool,.sl yqu] fun(p1 p2:Int) (w0:List Int)=>((0<=p1/\p1<p2/\p2<=w0.length)/\w0.length<=1099511627776,pisS w0 p1 p2,fun R=>(R.2,R.1.toList,()))
set_option maxHeartbeats 1000000 in
theorem k22:k20.Ok Tryz.prog TB:=pbv Bs Tryz.func113 (.r 1 (.nd [] (.r 0 (.lp [] ⟨[0],[.vec yqu],[7,8],[.one (zqi),.one (zqi)],[]⟩ (.r 0 (.nd [] (.jn ⟨[],[],[7],[.one (zqi)],[]⟩ [] (.lp [] ⟨[],[],[7],[.one (zqi)],[]⟩ .no) [] (.r 2 (.jn ⟨[0],[.vec yqu],[],[],[]⟩ [] (.r 0 (.nd [] (.r 0 (.lp [] ⟨[0],[.vec yqu],[9],[.one (zqi)],[]⟩ .no)) [] .no)) [] (.r 0 (.nd [] (.r 0 (.lp [] ⟨[0],[.vec yqu],[10],[.one (zqi)],[]⟩ .no)) [] .no))))) [] .no)))) [] .no)) (k1l.c c0) (Q:=∀(p1 p2:Int) (w0:List Int),((0<=p1/\p1<p2/\p2<=w0.length)/\w0.length<=1099511627776)->∀R,pisS w0 p1 p2=R-> 
 ∃(I1:Int->Int->(List Int)->Prop) (M1:Int->Int->(List Int)->Nat),I1 (i64.wrap (p1+1)) 0 w0/\∀(b1 f1:Int) (i1:List Int),(I1 b1 f1 i1->
(decide (f1<5)=true->
 ∀J1:Int->Prop,(∀(k1:Int),
(((k1==p2)=true->
 true=R.2/\i1=R.1.toList)/\
((k1==p2)=false->
 let v2:Bool:=decide ((i64.wrap (p2-p1))<50)
(v2=true->
 false=R.2/\i1=R.1.toList)/\
(v2=false->
(0<=i64.wrap (k1-1)/\i64.wrap (k1-1)<(w0.length:Int))/\(0<=i64.wrap (k1-1)/\i64.wrap (k1-1)<(i1.length:Int))/\(0<=k1/\k1<(w0.length:Int))/\(0<=k1/\k1<(i1.length:Int))/\(0<=k1/\k1<(w0.length:Int))/\(0<=k1/\k1<(i1.length:Int))/\(0<=i64.wrap (k1-1)/\i64.wrap (k1-1)<(w0.length:Int))/\(0<=i64.wrap (k1-1)/\i64.wrap (k1-1)<((i1.set k1.toNat (ix i1 (i64.wrap (k1-1)))).length:Int))/\∀J2:(List Int)->Prop,(∀(m1:List Int),
(let v5:Bool:=decide (2<=(i64.wrap (p2-k1)))
(v5=true->
 ∃(I4:Int->(List Int)->Prop) (M4:Int->(List Int)->Nat),I4 (i64.wrap (k1+1)) m1/\∀(q1:Int) (s1:List Int),(I4 q1 s1->
(decide (q1<p2)=true->
(0<=q1/\q1<(w0.length:Int))/\(0<=q1/\q1<(s1.length:Int))/\(0<=i64.wrap (q1-1)/\i64.wrap (q1-1)<(w0.length:Int))/\(0<=i64.wrap (q1-1)/\i64.wrap (q1-1)<(s1.length:Int))/\let r6:Bool:=(decide ((ix s1 q1)<(ix s1 (i64.wrap (q1-1)))))
((!r6)=true->
 I1 k1 (i64.wrap (f1+1)) s1/\M1 k1 (i64.wrap (f1+1)) s1<M1 b1 f1 i1)/\
((!r6)=false->
(0<=i64.wrap (q1-1)/\i64.wrap (q1-1)<(w0.length:Int))/\(0<=i64.wrap (q1-1)/\i64.wrap (q1-1)<(s1.length:Int))/\(0<=q1/\q1<(w0.length:Int))/\(0<=q1/\q1<(s1.length:Int))/\(0<=q1/\q1<(w0.length:Int))/\(0<=q1/\q1<(s1.length:Int))/\(0<=i64.wrap (q1-1)/\i64.wrap (q1-1)<(w0.length:Int))/\(0<=i64.wrap (q1-1)/\i64.wrap (q1-1)<((s1.set q1.toNat (ix s1 (i64.wrap (q1-1)))).length:Int))/\I4 (i64.wrap (q1+1)) ((s1.set q1.toNat (ix s1 (i64.wrap (q1-1)))).set (i64.wrap (q1-1)).toNat (ix s1 q1))/\M4 (i64.wrap (q1+1)) ((s1.set q1.toNat (ix s1 (i64.wrap (q1-1)))).set (i64.wrap (q1-1)).toNat (ix s1 q1))<M4 q1 s1))/\
(decide (q1<p2)=false->
 I1 k1 (i64.wrap (f1+1)) s1/\M1 k1 (i64.wrap (f1+1)) s1<M1 b1 f1 i1)))/\
(v5=false->
 I1 k1 (i64.wrap (f1+1)) m1/\M1 k1 (i64.wrap (f1+1)) m1<M1 b1 f1 i1))->J2 m1)->
 let v3:Bool:=decide (2<=(i64.wrap (k1-p1)))
(v3=true->
 ∃(I3:Int->(List Int)->Prop) (M3:Int->(List Int)->Nat),I3 (i64.wrap (k1-1)) ((i1.set k1.toNat (ix i1 (i64.wrap (k1-1)))).set (i64.wrap (k1-1)).toNat (ix i1 k1))/\∀(n1:Int) (o1:List Int),(I3 n1 o1->
(decide (1<=n1)=true->
(0<=n1/\n1<(w0.length:Int))/\(0<=n1/\n1<(o1.length:Int))/\(0<=i64.wrap (n1-1)/\i64.wrap (n1-1)<(w0.length:Int))/\(0<=i64.wrap (n1-1)/\i64.wrap (n1-1)<(o1.length:Int))/\let r4:Bool:=(decide ((ix o1 n1)<(ix o1 (i64.wrap (n1-1)))))
((!r4)=true->
 J2 o1)/\
((!r4)=false->
(0<=i64.wrap (n1-1)/\i64.wrap (n1-1)<(w0.length:Int))/\(0<=i64.wrap (n1-1)/\i64.wrap (n1-1)<(o1.length:Int))/\(0<=n1/\n1<(w0.length:Int))/\(0<=n1/\n1<(o1.length:Int))/\(0<=n1/\n1<(w0.length:Int))/\(0<=n1/\n1<(o1.length:Int))/\(0<=i64.wrap (n1-1)/\i64.wrap (n1-1)<(w0.length:Int))/\(0<=i64.wrap (n1-1)/\i64.wrap (n1-1)<((o1.set n1.toNat (ix o1 (i64.wrap (n1-1)))).length:Int))/\I3 (i64.wrap (n1-1)) ((o1.set n1.toNat (ix o1 (i64.wrap (n1-1)))).set (i64.wrap (n1-1)).toNat (ix o1 n1))/\M3 (i64.wrap (n1-1)) ((o1.set n1.toNat (ix o1 (i64.wrap (n1-1)))).set (i64.wrap (n1-1)).toNat (ix o1 n1))<M3 n1 o1))/\
(decide (1<=n1)=false->
 J2 o1)))/\
(v3=false->
 J2 ((i1.set k1.toNat (ix i1 (i64.wrap (k1-1)))).set (i64.wrap (k1-1)).toNat (ix i1 k1))))))->J1 k1)->
 ∃(I2:Int->Prop) (M2:Int->Nat),I2 b1/\∀(l1:Int),(I2 l1->
(decide (l1<p2)=true->
(0<=l1/\l1<(w0.length:Int))/\(0<=l1/\l1<(i1.length:Int))/\(0<=i64.wrap (l1-1)/\i64.wrap (l1-1)<(w0.length:Int))/\(0<=i64.wrap (l1-1)/\i64.wrap (l1-1)<(i1.length:Int))/\let r1:Bool:=(decide ((ix i1 l1)<(ix i1 (i64.wrap (l1-1)))))
((!r1)=true->
 I2 (i64.wrap (l1+1))/\M2 (i64.wrap (l1+1))<M2 l1)/\
((!r1)=false->
 J1 l1))/\
(decide (l1<p2)=false->
 J1 l1)))/\
(decide (f1<5)=false->
 false=R.2/\i1=R.1.toList))) (by kernel_rfl)<|by
 rintro p1 p2 w0 h R hR
 obtain⟨⟨h1,h2,h3⟩,h4⟩:=h
 rw[wi (p1+1) (by omega) (by omega)]
 have hst:R=Sort.partialIns Sort.ltInt p1.toNat p2.toNat 5 (p1.toNat+1) w0.toArray:=hR.symm
 clear hR
 refine⟨fun i jj g=>(p1<i/\i<=p2)/\(0<=jj/\jj<=5)/\g.length=w0.length/\R=Sort.partialIns Sort.ltInt p1.toNat p2.toNat (5-jj).toNat i.toNat g.toArray,fun _ jj _=>(5-jj).toNat,⟨⟨by omega,by omega⟩,⟨by omega,by omega⟩,rfl,by rw[hst,show(p1+1).toNat=p1.toNat+1 by omega];rfl⟩,?_⟩
 clear hst
 rintro i jj g ⟨⟨i0,i1⟩,⟨j0,j1⟩,g2,g3⟩
 refine⟨fun hh J1 kJ1=> ?_,fun hh=> ?_⟩
 ·have hh:=of_decide_eq_true hh
  rw[show(5-jj).toNat=(5-(jj+1)).toNat+1 by omega,Sort.partialIns_succ]at g3
  have wj:=wi (jj+1) (by omega) (by omega)
  have last:∀(i' :Int) (g' :List Int),(p1<i'/\i'<=p2)->g'.length=w0.length->R=Sort.partialIns Sort.ltInt p1.toNat p2.toNat (5-(jj+1)).toNat i'.toNat g'.toArray->(((p1<i'/\i'<=p2)/\(0<=i64.wrap (jj+1)/\i64.wrap (jj+1)<=5)/\g'.length=w0.length/\R=Sort.partialIns Sort.ltInt p1.toNat p2.toNat (5-i64.wrap (jj+1)).toNat i'.toNat g'.toArray)/\(5-i64.wrap (jj+1)).toNat<(5-jj).toNat):=by
   intro i' g' q1 q2 q3
   rw[wj]
   exact⟨⟨q1,⟨by omega,by omega⟩,q2,q3⟩,by omega⟩
  have jj1:∀i' :Int,(p1<i'/\i'<=p2)->Sort.scanSorted Sort.ltInt g.toArray p2.toNat i.toNat=i'.toNat->J1 i' :=by
   intro i' ⟨q0,q1⟩ q2
   rw[q2]at g3
   refine kJ1 _ ?_
   rw[wi (p2-p1) (by omega) (by omega),wi (i' -1) (by omega) (by omega),wi (i' -p1) (by omega) (by omega)]
   refine⟨fun e=> ?_,fun e=>⟨fun e2=> ?_,fun e2=> ?_⟩⟩
   ·have e:i' =p2:=by simpa using e
    rw[if_pos (by omega)]at g3
    rw[g3]
    exact⟨rfl,rfl⟩
   ·have e:¬i' =p2:=by simpa using e
    have e2:=of_decide_eq_true e2
    rw[if_neg (by omega),if_pos (by omega)]at g3
    rw[g3]
    exact⟨rfl,rfl⟩
   ·have e:¬i' =p2:=by simpa using e
    have e2:=of_decide_eq_false e2
    rw[if_neg (by omega),if_neg (by omega)]at g3
    have hs:=swp_arr (g:=g) (i:=i') (j:=i' -1) (by omega) (by omega) (by omega) (by omega)
    rw[show i'.toNat-1=(i' -1).toNat by omega,hs]at g3
    have sl:(swpL g i' (i' -1)).length=w0.length:=by rw[k7h];exact g2
    refine⟨⟨by omega,by omega⟩,⟨by omega,by omega⟩,⟨by omega,by omega⟩,⟨by omega,by omega⟩,⟨by omega,by omega⟩,⟨by omega,by omega⟩,⟨by omega,by omega⟩,⟨by omega,by rw[List.length_set];omega⟩,fun J2 kJ2=> ?_⟩
    have j2:∀g' :List Int,g'.length=w0.length->R=Sort.partialIns Sort.ltInt p1.toNat p2.toNat (5-(jj+1)).toNat i'.toNat (Sort.fixUp Sort.ltInt p2.toNat i'.toNat g'.toArray)->J2 g' :=by
     intro g' q2 q3
     refine kJ2 _ ?_
     rw[wi (p2-i') (by omega) (by omega),wi (i' +1) (by omega) (by omega)]
     refine⟨fun e=> ?_,fun e=>last _ _ ⟨q0,by omega⟩ q2 ?_⟩
     ·have e:=of_decide_eq_true e
      unfold Sort.fixUp at q3
      rw[if_pos (by omega),show i'.toNat+1=(i' +1).toNat by omega]at q3
      refine⟨fun k g2=>(i' +1<=k/\k<=p2)/\g2.length=w0.length/\Sort.shiftUp Sort.ltInt p2.toNat k.toNat g2.toArray=Sort.shiftUp Sort.ltInt p2.toNat (i' +1).toNat g'.toArray,fun k _=>(p2-k).toNat,⟨⟨by omega,by omega⟩,q2,rfl⟩,?_⟩
      rintro k g2 ⟨⟨k0,k1⟩,k2,k3⟩
      refine⟨fun c=> ?_,fun c=> ?_⟩
      ·have c:=of_decide_eq_true c
       rw[wi (k-1) (by omega) (by omega),wi (k+1) (by omega) (by omega)]
       rw[kkb (by omega) c (by omega)]at k3
       refine⟨⟨by omega,by omega⟩,⟨by omega,by omega⟩,⟨by omega,by omega⟩,⟨by omega,by omega⟩,fun d=> ?_,fun d=> ?_⟩
       ·have d:¬ix g2 k<ix g2 (k-1):=by simpa using d
        rw[if_neg d]at k3
        exact last _ _ ⟨q0,by omega⟩ k2 (by rw[q3,<-k3])
       ·have d:ix g2 k<ix g2 (k-1):=by simpa using d
        rw[if_pos d]at k3
        exact⟨⟨by omega,by omega⟩,⟨by omega,by omega⟩,⟨by omega,by omega⟩,⟨by omega,by omega⟩,⟨by omega,by omega⟩,⟨by omega,by omega⟩,⟨by omega,by omega⟩,⟨by omega,by rw[List.length_set];omega⟩,⟨⟨by omega,by omega⟩,by rw[List.length_set,List.length_set];exact k2,k3⟩,by(dsimp only;omega)⟩
      ·have c:=of_decide_eq_false c
       rw[kil (by omega) c]at k3
       exact last _ _ ⟨q0,by omega⟩ k2 (by rw[q3,<-k3])
     ·have e:=of_decide_eq_false e
      unfold Sort.fixUp at q3
      rw[if_neg (by omega)]at q3
      exact q3
    refine⟨fun e3=> ?_,fun e3=> ?_⟩
    ·have e3:=of_decide_eq_true e3
     unfold Sort.fixDown at g3
     rw[if_pos (by omega),show i'.toNat-1=(i' -1).toNat by omega]at g3
     refine⟨fun k g2=>(0<=k/\k<p2)/\g2.length=w0.length/\Sort.shiftDown Sort.ltInt k.toNat g2.toArray=Sort.shiftDown Sort.ltInt (i' -1).toNat (swpL g i' (i' -1)).toArray,fun k _=>k.toNat,⟨⟨by omega,by omega⟩,sl,rfl⟩,?_⟩
     rintro k g2 ⟨⟨k0,k1⟩,k2,k3⟩
     refine⟨fun c=> ?_,fun c=> ?_⟩
     ·have c:=of_decide_eq_true c
      rw[wi (k-1) (by omega) (by omega)]
      rw[khi c (by omega)]at k3
      refine⟨⟨by omega,by omega⟩,⟨by omega,by omega⟩,⟨by omega,by omega⟩,⟨by omega,by omega⟩,fun d=> ?_,fun d=> ?_⟩
      ·have d:¬ix g2 k<ix g2 (k-1):=by simpa using d
       rw[if_neg d]at k3
       exact j2 _ k2 (by rw[g3,k3])
      ·have d:ix g2 k<ix g2 (k-1):=by simpa using d
       rw[if_pos d]at k3
       exact⟨⟨by omega,by omega⟩,⟨by omega,by omega⟩,⟨by omega,by omega⟩,⟨by omega,by omega⟩,⟨by omega,by omega⟩,⟨by omega,by omega⟩,⟨by omega,by omega⟩,⟨by omega,by rw[List.length_set];omega⟩,⟨⟨by omega,by omega⟩,by rw[List.length_set,List.length_set];exact k2,k3⟩,by(dsimp only;omega)⟩
     ·have c:=of_decide_eq_false c
      rw[kfj c]at k3
      exact j2 _ k2 (by rw[g3,k3])
    ·have e3:=of_decide_eq_false e3
     unfold Sort.fixDown at g3
     rw[if_neg (by omega)]at g3
     exact j2 _ sl g3
  refine⟨fun i' =>(p1<i'/\i'<=p2)/\Sort.scanSorted Sort.ltInt g.toArray p2.toNat i'.toNat=Sort.scanSorted Sort.ltInt g.toArray p2.toNat i.toNat,fun i' =>(p2-i').toNat,⟨⟨i0,i1⟩,rfl⟩,?_⟩
  rintro i' ⟨⟨q0,q1⟩,q2⟩
  refine⟨fun c=> ?_,fun c=> ?_⟩
  ·have c:=of_decide_eq_true c
   rw[kfq (by omega) c (by omega)]at q2
   rw[wi (i' -1) (by omega) (by omega),wi (i' +1) (by omega) (by omega)]
   refine⟨⟨by omega,by omega⟩,⟨by omega,by omega⟩,⟨by omega,by omega⟩,⟨by omega,by omega⟩,fun d=>⟨⟨⟨by omega,by omega⟩,?_⟩,by(dsimp only;omega)⟩,fun d=>jj1 _ ⟨q0,q1⟩ ?_⟩
   ·have d:¬ix g i' <ix g (i' -1):=by simpa using d
    rw[if_neg d]at q2
    exact q2
   ·have d:ix g i' <ix g (i' -1):=by simpa using d
    rw[if_pos d]at q2
    exact q2.symm
  ·have c:=of_decide_eq_false c
   rw[kdn (by omega) c]at q2
   exact jj1 _ ⟨q0,q1⟩ q2.symm
 ·have hh:=of_decide_eq_false hh
  rw[show(5-jj).toNat=0 by omega]at g3
  rw[g3]
  exact⟨rfl,rfl⟩
noncomputable def k2q:Con TB.den:= .g ⟨115,[.one (.row 0),.one (zqi),.one (zqi),.one (zqi)],[.vec yqu],(.one (.one (zqi))),[.vec yqu],false⟩ [yqi,yqi,yqi,.sl yqu] [yqi,.sl yqu] [] fun(p1 p2 p3:Int) (w0:List Int)=>((0<=p1/\p1<=p3/\p3<p2/\p2<=w0.length)/\w0.length<=1099511627776,(((peqS w0 p1 p2 p3).1:Int):Int),((peqS w0 p1 p2 p3).2.toList:List Int),())
set_option maxHeartbeats 1000000 in
theorem k2v:k2q.Ok Tryz.prog TB:=prv Bs Tryz.func115 (.r 2 (.nd [] (.lp [] ⟨[0],[.vec yqu],[9,10],[.one (zqi),.one (zqi)],[]⟩ (.jn ⟨[],[],[9],[.one (zqi)],[]⟩ [] (.lp [] ⟨[],[],[9],[.one (zqi)],[]⟩ .no) [] (.jn ⟨[],[],[10],[.one (zqi)],[]⟩ [] (.lp [] ⟨[],[],[10],[.one (zqi)],[]⟩ .no) [] .no))) [] .no)) (k1l.c c0) (Q:=∀(p1 p2 p3:Int) (w0:List Int),((0<=p1/\p1<=p3/\p3<p2/\p2<=w0.length)/\w0.length<=1099511627776)->∀r0:Int,((peqS w0 p1 p2 p3).1:Int)=r0->∀e0:List Int,((peqS w0 p1 p2 p3).2.toList)=e0-> 
(0<=p3/\p3<(w0.length:Int))/\(0<=p3/\p3<(w0.length:Int))/\(0<=p1/\p1<(w0.length:Int))/\(0<=p1/\p1<(w0.length:Int))/\(0<=p1/\p1<(w0.length:Int))/\(0<=p1/\p1<(w0.length:Int))/\(0<=p3/\p3<(w0.length:Int))/\(0<=p3/\p3<((w0.set p1.toNat (ix w0 p3)).length:Int))/\∃(I1:Int->Int->(List Int)->Prop) (M1:Int->Int->(List Int)->Nat),I1 (i64.wrap (p1+1)) (i64.wrap (p2-1)) ((w0.set p1.toNat (ix w0 p3)).set p3.toNat (ix w0 p1))/\∀(b1 f1:Int) (i1:List Int),(I1 b1 f1 i1->
 ∀J1:Int->Prop,(∀(k1:Int),
(∀J2:Int->Prop,(∀(m1:Int),
((decide (m1<k1)=true->
 k1=r0/\i1=e0)/\
(decide (m1<k1)=false->
(0<=m1/\m1<(w0.length:Int))/\(0<=m1/\m1<(i1.length:Int))/\(0<=k1/\k1<(w0.length:Int))/\(0<=k1/\k1<(i1.length:Int))/\(0<=k1/\k1<(w0.length:Int))/\(0<=k1/\k1<(i1.length:Int))/\(0<=m1/\m1<(w0.length:Int))/\(0<=m1/\m1<((i1.set k1.toNat (ix i1 m1)).length:Int))/\I1 (i64.wrap (k1+1)) (i64.wrap (m1-1)) ((i1.set k1.toNat (ix i1 m1)).set m1.toNat (ix i1 k1))/\M1 (i64.wrap (k1+1)) (i64.wrap (m1-1)) ((i1.set k1.toNat (ix i1 m1)).set m1.toNat (ix i1 k1))<M1 b1 f1 i1))->J2 m1)->
 ∃(I3:Int->Prop) (M3:Int->Nat),I3 f1/\∀(n1:Int),(I3 n1->
(decide (k1<=n1)=true->
(0<=p1/\p1<(w0.length:Int))/\(0<=p1/\p1<(i1.length:Int))/\(0<=n1/\n1<(w0.length:Int))/\(0<=n1/\n1<(i1.length:Int))/\((decide ((ix i1 p1)<(ix i1 n1)))=true->
 I3 (i64.wrap (n1-1))/\M3 (i64.wrap (n1-1))<M3 n1)/\
((decide ((ix i1 p1)<(ix i1 n1)))=false->
 J2 n1))/\
(decide (k1<=n1)=false->
 J2 n1)))->J1 k1)->
 ∃(I2:Int->Prop) (M2:Int->Nat),I2 b1/\∀(l1:Int),(I2 l1->
(decide (l1<=f1)=true->
(0<=p1/\p1<(w0.length:Int))/\(0<=p1/\p1<(i1.length:Int))/\(0<=l1/\l1<(w0.length:Int))/\(0<=l1/\l1<(i1.length:Int))/\((!(decide ((ix i1 p1)<(ix i1 l1))))=true->
 I2 (i64.wrap (l1+1))/\M2 (i64.wrap (l1+1))<M2 l1)/\
((!(decide ((ix i1 p1)<(ix i1 l1))))=false->
 J1 l1))/\
(decide (l1<=f1)=false->
 J1 l1)))) (by kernel_rfl)<|by
 rintro p1 p2 p3 w0 h _ rfl _ rfl
 obtain⟨⟨h1,h2,h3,h4⟩,h5⟩:=h
 have hs0:=swp_arr (g:=w0) (i:=p1) (j:=p3) (by omega) (by omega) (by omega) (by omega)
 have hst:peqS w0 p1 p2 p3=Sort.partEqLoop Sort.ltInt p1.toNat (p1.toNat+1) (p2.toNat-1) (Sort.swp w0.toArray p1.toNat p3.toNat):=rfl
 rw[hs0]at hst
 refine⟨⟨by omega,by omega⟩,⟨by omega,by omega⟩,⟨by omega,by omega⟩,⟨by omega,by omega⟩,⟨by omega,by omega⟩,⟨by omega,by omega⟩,⟨by omega,by omega⟩,⟨by omega,by rw[List.length_set];omega⟩,?_⟩
 rw[wi (p1+1) (by omega) (by omega),wi (p2-1) (by omega) (by omega)]
 generalize peqS w0 p1 p2 p3=R at *
 refine⟨fun i j g=>(p1<i/\i<=j+1/\j<p2)/\g.length=w0.length/\R=Sort.partEqLoop Sort.ltInt p1.toNat i.toNat j.toNat g.toArray,fun i j _=>(j+1-i).toNat,⟨⟨by omega,by omega,by omega⟩,by rw[List.length_set,List.length_set],by rw[hst,show(p1+1).toNat=p1.toNat+1 by omega,show(p2-1).toNat=p2.toNat-1 by omega]⟩,?_⟩
 clear hst hs0
 rintro i j g ⟨⟨i0,i1,i2⟩,g2,g3⟩ J1 kJ1
 rw[Sort.partEqLoop_eq]at g3
 have xa:=arr_ix (g:=g) (i:=p1) (by omega) (by omega)
 rw[xa]at g3
 have jj1:∀i' :Int,(i<=i'/\i'<=j+1)->Sort.scanUp (fun x=> !Sort.ltInt (ix g p1) x) g.toArray j.toNat i.toNat=i'.toNat->(i'<=j->ix g p1<ix g i')->J1 i' :=by
  intro i' ⟨q0,q1⟩ e1 e2
  refine kJ1 _ fun J2 kJ2=> ?_
  have jj2:∀j' :Int,(i' -1<=j'/\j'<=j)->Sort.scanDown (fun x=>Sort.ltInt (ix g p1) x) g.toArray i'.toNat j.toNat=j'.toNat->(i'<=j'->i' <j')->J2 j' :=by
   intro j' ⟨q2,q3⟩ e4 e3
   rw[e1,e4]at g3
   refine kJ2 _ ⟨fun c=> ?_,fun c=> ?_⟩
   ·have c:=of_decide_eq_true c
    rw[if_pos (by omega)]at g3
    rw[g3]
    exact⟨(Int.toNat_of_nonneg (by omega)).symm,rfl⟩
   ·have c:=of_decide_eq_false c
    have hs:=swp_arr (g:=g) (i:=i') (j:=j') (by omega) (by omega) (by omega) (by omega)
    rw[if_neg (by omega),hs,show i'.toNat+1=(i' +1).toNat by omega,show j'.toNat-1=(j' -1).toNat by omega]at g3
    have w1:=wi (i' +1) (by omega) (by omega)
    have w2:=wi (j' -1) (by omega) (by omega)
    have e4:=e3 (by omega)
    rw[w1,w2]
    exact⟨⟨by omega,by omega⟩,⟨by omega,by omega⟩,⟨by omega,by omega⟩,⟨by omega,by omega⟩,⟨by omega,by omega⟩,⟨by omega,by omega⟩,⟨by omega,by omega⟩,⟨by omega,by rw[List.length_set];omega⟩,⟨⟨by omega,by omega,by omega⟩,by rw[List.length_set,List.length_set];exact g2,g3⟩,by(dsimp only;omega)⟩
  refine⟨fun j' =>(i' -1<=j'/\j'<=j)/\Sort.scanDown (fun x=>Sort.ltInt (ix g p1) x) g.toArray i'.toNat j'.toNat=Sort.scanDown (fun x=>Sort.ltInt (ix g p1) x) g.toArray i'.toNat j.toNat,fun j' =>(j' +1).toNat,⟨⟨by omega,by omega⟩,rfl⟩,?_⟩
  rintro j' ⟨⟨k0,k1⟩,k2⟩
  refine⟨fun c=> ?_,fun c=> ?_⟩
  ·have c:=of_decide_eq_true c
   have xj:=arr_ix (g:=g) (i:=j') (by omega) (by omega)
   rw[k61 (by omega) c,xj,ltI_iff]at k2
   rw[wi (j' -1) (by omega) (by omega)]
   refine⟨⟨by omega,by omega⟩,⟨by omega,by omega⟩,⟨by omega,by omega⟩,⟨by omega,by omega⟩,fun d=>⟨⟨⟨by omega,by omega⟩,?_⟩,by(dsimp only;omega)⟩,fun d=> ?_⟩
   ·rw[if_pos d]at k2
    exact k2
   ·rw[if_neg (by rw[d];decide)]at k2
    refine jj2 j' ⟨k0,k1⟩ k2.symm fun e=> ?_
    have:=e2 (by omega)
    have d:=of_decide_eq_false d
    by_cases hij:i' =j'
    ·subst hij;exact absurd this d
    ·omega
  ·have c:=of_decide_eq_false c
   rw[k59 (by omega) c]at k2
   exact jj2 j' ⟨k0,k1⟩ k2.symm fun e=>absurd e c
 refine⟨fun i' =>(i<=i'/\i'<=j+1)/\Sort.scanUp (fun x=> !Sort.ltInt (ix g p1) x) g.toArray j.toNat i'.toNat=Sort.scanUp (fun x=> !Sort.ltInt (ix g p1) x) g.toArray j.toNat i.toNat,fun i' =>(j+2-i').toNat,⟨⟨by omega,by omega⟩,rfl⟩,?_⟩
 rintro i' ⟨⟨k0,k1⟩,k2⟩
 refine⟨fun c=> ?_,fun c=> ?_⟩
 ·have c:=of_decide_eq_true c
  have xj:=arr_ix (g:=g) (i:=i') (by omega) (by omega)
  rw[k87 (by omega) c,xj,ltI_iff]at k2
  rw[wi (i' +1) (by omega) (by omega)]
  refine⟨⟨by omega,by omega⟩,⟨by omega,by omega⟩,⟨by omega,by omega⟩,⟨by omega,by omega⟩,fun d=>⟨⟨⟨by omega,by omega⟩,?_⟩,by(dsimp only;omega)⟩,fun d=> ?_⟩
  ·rw[if_pos d]at k2
   exact k2
  ·rw[if_neg (by rw[d];decide)]at k2
   exact jj1 i' ⟨k0,k1⟩ k2.symm fun _=>by simpa using d
 ·have c:=of_decide_eq_false c
  rw[k7j (by omega) c]at k2
  exact jj1 i' ⟨k0,k1⟩ k2.symm fun e=>absurd e c
noncomputable def k3y:Con TB.den:= .b ⟨116,[.one (.row 0),.one (zqi),.one (zqi),.one (zqi)],[.vec yqu],(.tup [.one (zqi),.one (.d (.bool))]),[.vec yqu],false⟩ [yqi,yqi,yqi,.sl yqu] [yqi,.bool,.sl yqu] fun(p1 p2 p3:Int) (w0:List Int)=>((0<=p1/\p1<=p3/\p3<p2/\p2<=w0.length)/\w0.length<=1099511627776,partS w0 p1 p2 p3,fun R=>((((partS w0 p1 p2 p3).1:Int):Int),R.2.1,R.2.2.toList,()))
set_option maxHeartbeats 1000000 in
theorem k43:k3y.Ok Tryz.prog TB:=pbv Bs Tryz.func116 (.r 2 (.jn ⟨[],[],[10],[.one (zqi)],[]⟩ [] (.lp [] ⟨[],[],[10],[.one (zqi)],[]⟩ .no) [] (.jn ⟨[],[],[11],[.one (zqi)],[]⟩ [] (.lp [] ⟨[],[],[11],[.one (zqi)],[]⟩ .no) [] (.r 3 (.nd [] (.lp [] ⟨[0],[.vec yqu],[10,11],[.one (zqi),.one (zqi)],[]⟩ (.jn ⟨[],[],[10],[.one (zqi)],[]⟩ [] (.lp [] ⟨[],[],[10],[.one (zqi)],[]⟩ .no) [] (.jn ⟨[],[],[11],[.one (zqi)],[]⟩ [] (.lp [] ⟨[],[],[11],[.one (zqi)],[]⟩ .no) [] .no))) [] .no))))) (k1l.c c0) (Q:=∀(p1 p2 p3:Int) (w0:List Int),((0<=p1/\p1<=p3/\p3<p2/\p2<=w0.length)/\w0.length<=1099511627776)->∀R,partS w0 p1 p2 p3=R-> 
(0<=p3/\p3<(w0.length:Int))/\(0<=p3/\p3<(w0.length:Int))/\(0<=p1/\p1<(w0.length:Int))/\(0<=p1/\p1<(w0.length:Int))/\(0<=p1/\p1<(w0.length:Int))/\(0<=p1/\p1<(w0.length:Int))/\(0<=p3/\p3<(w0.length:Int))/\(0<=p3/\p3<((w0.set p1.toNat (ix w0 p3)).length:Int))/\∀J1:Int->Prop,(∀(b1:Int),
(∀J2:Int->Prop,(∀(i1:Int),
((decide (i1<b1)=true->
(0<=p1/\p1<(w0.length:Int))/\(0<=p1/\p1<(((w0.set p1.toNat (ix w0 p3)).set p3.toNat (ix w0 p1)).length:Int))/\let v7:Int:=ix ((w0.set p1.toNat (ix w0 p3)).set p3.toNat (ix w0 p1)) p1
(0<=i1/\i1<(w0.length:Int))/\(0<=i1/\i1<(((w0.set p1.toNat (ix w0 p3)).set p3.toNat (ix w0 p1)).length:Int))/\let v8:Int:=ix ((w0.set p1.toNat (ix w0 p3)).set p3.toNat (ix w0 p1)) i1
(0<=i1/\i1<(w0.length:Int))/\(0<=i1/\i1<(((w0.set p1.toNat (ix w0 p3)).set p3.toNat (ix w0 p1)).length:Int))/\(0<=p1/\p1<(w0.length:Int))/\(0<=p1/\p1<((((w0.set p1.toNat (ix w0 p3)).set p3.toNat (ix w0 p1)).set i1.toNat v7).length:Int))/\i1=((partS w0 p1 p2 p3).1:Int)/\true=R.2.1/\(((w0.set p1.toNat (ix w0 p3)).set p3.toNat (ix w0 p1)).set i1.toNat v7).set p1.toNat v8=R.2.2.toList)/\
(decide (i1<b1)=false->
(0<=i1/\i1<(w0.length:Int))/\(0<=i1/\i1<(((w0.set p1.toNat (ix w0 p3)).set p3.toNat (ix w0 p1)).length:Int))/\let v9:Int:=ix ((w0.set p1.toNat (ix w0 p3)).set p3.toNat (ix w0 p1)) i1
(0<=b1/\b1<(w0.length:Int))/\(0<=b1/\b1<(((w0.set p1.toNat (ix w0 p3)).set p3.toNat (ix w0 p1)).length:Int))/\let v10:Int:=ix ((w0.set p1.toNat (ix w0 p3)).set p3.toNat (ix w0 p1)) b1
(0<=b1/\b1<(w0.length:Int))/\(0<=b1/\b1<(((w0.set p1.toNat (ix w0 p3)).set p3.toNat (ix w0 p1)).length:Int))/\(0<=i1/\i1<(w0.length:Int))/\(0<=i1/\i1<((((w0.set p1.toNat (ix w0 p3)).set p3.toNat (ix w0 p1)).set b1.toNat v9).length:Int))/\∃(I3:Int->Int->(List Int)->Prop) (M3:Int->Int->(List Int)->Nat),I3 (i64.wrap (b1+1)) (i64.wrap (i1-1)) ((((w0.set p1.toNat (ix w0 p3)).set p3.toNat (ix w0 p1)).set b1.toNat v9).set i1.toNat v10)/\∀(l1 m1:Int) (n1:List Int),(I3 l1 m1 n1->
 ∀J3:Int->Prop,(∀(o1:Int),
(∀J4:Int->Prop,(∀(s1:Int),
((decide (s1<o1)=true->
(0<=p1/\p1<(w0.length:Int))/\(0<=p1/\p1<(n1.length:Int))/\(0<=s1/\s1<(w0.length:Int))/\(0<=s1/\s1<(n1.length:Int))/\(0<=s1/\s1<(w0.length:Int))/\(0<=s1/\s1<(n1.length:Int))/\(0<=p1/\p1<(w0.length:Int))/\(0<=p1/\p1<((n1.set s1.toNat (ix n1 p1)).length:Int))/\s1=((partS w0 p1 p2 p3).1:Int)/\false=R.2.1/\(n1.set s1.toNat (ix n1 p1)).set p1.toNat (ix n1 s1)=R.2.2.toList)/\
(decide (s1<o1)=false->
(0<=s1/\s1<(w0.length:Int))/\(0<=s1/\s1<(n1.length:Int))/\(0<=o1/\o1<(w0.length:Int))/\(0<=o1/\o1<(n1.length:Int))/\(0<=o1/\o1<(w0.length:Int))/\(0<=o1/\o1<(n1.length:Int))/\(0<=s1/\s1<(w0.length:Int))/\(0<=s1/\s1<((n1.set o1.toNat (ix n1 s1)).length:Int))/\I3 (i64.wrap (o1+1)) (i64.wrap (s1-1)) ((n1.set o1.toNat (ix n1 s1)).set s1.toNat (ix n1 o1))/\M3 (i64.wrap (o1+1)) (i64.wrap (s1-1)) ((n1.set o1.toNat (ix n1 s1)).set s1.toNat (ix n1 o1))<M3 l1 m1 n1))->J4 s1)->
 ∃(I5:Int->Prop) (M5:Int->Nat),I5 m1/\∀(t1:Int),(I5 t1->
(decide (o1<=t1)=true->
(0<=t1/\t1<(w0.length:Int))/\(0<=t1/\t1<(n1.length:Int))/\(0<=p1/\p1<(w0.length:Int))/\(0<=p1/\p1<(n1.length:Int))/\((!(decide ((ix n1 t1)<(ix n1 p1))))=true->
 I5 (i64.wrap (t1-1))/\M5 (i64.wrap (t1-1))<M5 t1)/\
((!(decide ((ix n1 t1)<(ix n1 p1))))=false->
 J4 t1))/\
(decide (o1<=t1)=false->
 J4 t1)))->J3 o1)->
 ∃(I4:Int->Prop) (M4:Int->Nat),I4 l1/\∀(q1:Int),(I4 q1->
(decide (q1<=m1)=true->
(0<=q1/\q1<(w0.length:Int))/\(0<=q1/\q1<(n1.length:Int))/\(0<=p1/\p1<(w0.length:Int))/\(0<=p1/\p1<(n1.length:Int))/\((decide ((ix n1 q1)<(ix n1 p1)))=true->
 I4 (i64.wrap (q1+1))/\M4 (i64.wrap (q1+1))<M4 q1)/\
((decide ((ix n1 q1)<(ix n1 p1)))=false->
 J3 q1))/\
(decide (q1<=m1)=false->
 J3 q1)))))->J2 i1)->
 ∃(I2:Int->Prop) (M2:Int->Nat),I2 (i64.wrap (p2-1))/\∀(k1:Int),(I2 k1->
(decide (b1<=k1)=true->
(0<=k1/\k1<(w0.length:Int))/\(0<=k1/\k1<(((w0.set p1.toNat (ix w0 p3)).set p3.toNat (ix w0 p1)).length:Int))/\let v5:Int:=ix ((w0.set p1.toNat (ix w0 p3)).set p3.toNat (ix w0 p1)) k1
(0<=p1/\p1<(w0.length:Int))/\(0<=p1/\p1<(((w0.set p1.toNat (ix w0 p3)).set p3.toNat (ix w0 p1)).length:Int))/\let v6:Int:=ix ((w0.set p1.toNat (ix w0 p3)).set p3.toNat (ix w0 p1)) p1
((!(decide (v5<v6)))=true->
 I2 (i64.wrap (k1-1))/\M2 (i64.wrap (k1-1))<M2 k1)/\
((!(decide (v5<v6)))=false->
 J2 k1))/\
(decide (b1<=k1)=false->
 J2 k1)))->J1 b1)->
 ∃(I1:Int->Prop) (M1:Int->Nat),I1 (i64.wrap (p1+1))/\∀(f1:Int),(I1 f1->
 let v2:Bool:=decide (f1<=(i64.wrap (p2-1)))
(v2=true->
(0<=f1/\f1<(w0.length:Int))/\(0<=f1/\f1<(((w0.set p1.toNat (ix w0 p3)).set p3.toNat (ix w0 p1)).length:Int))/\let v3:Int:=ix ((w0.set p1.toNat (ix w0 p3)).set p3.toNat (ix w0 p1)) f1
(0<=p1/\p1<(w0.length:Int))/\(0<=p1/\p1<(((w0.set p1.toNat (ix w0 p3)).set p3.toNat (ix w0 p1)).length:Int))/\let v4:Int:=ix ((w0.set p1.toNat (ix w0 p3)).set p3.toNat (ix w0 p1)) p1
((decide (v3<v4))=true->
 I1 (i64.wrap (f1+1))/\M1 (i64.wrap (f1+1))<M1 f1)/\
((decide (v3<v4))=false->
 J1 f1))/\
(v2=false->
 J1 f1))) (by kernel_rfl)<|by
 rintro p1 p2 p3 w0 h R hR
 subst hR
 obtain⟨⟨h1,h2,h3,h4⟩,h5⟩:=h
 have hs0:=swp_arr (g:=w0) (i:=p1) (j:=p3) (by omega) (by omega) (by omega) (by omega)
 have hst:partS w0 p1 p2 p3=Sort.partition Sort.ltInt w0.toArray p1.toNat p2.toNat p3.toNat:=rfl
 unfold Sort.partition at hst
 dsimp only at hst
 rw[hs0]at hst
 have hl0:(swpL w0 p1 p3).length=w0.length:=k7h
 refine⟨⟨by omega,by omega⟩,⟨by omega,by omega⟩,⟨by omega,by omega⟩,⟨by omega,by omega⟩,⟨by omega,by omega⟩,⟨by omega,by omega⟩,⟨by omega,by omega⟩,⟨by omega,by rw[List.length_set];omega⟩,?_⟩
 rw[wi (p1+1) (by omega) (by omega),wi (p2-1) (by omega) (by omega),show(w0.set p1.toNat (ix w0 p3)).set p3.toNat (ix w0 p1)=swpL w0 p1 p3 from rfl]
 generalize partS w0 p1 p2 p3=R at *
 generalize swpL w0 p1 p3=gs at *
 rw[show p2.toNat-1=(p2-1).toNat by omega,show p1.toNat+1=(p1+1).toNat by omega,arr_ix (g:=gs) (i:=p1) (by omega) (by omega)]at hst
 clear hs0
 intro J1 kJ1
 have jj1:∀i' :Int,(p1+1<=i'/\i'<=p2)->Sort.scanUp (fun x=>Sort.ltInt x (ix gs p1)) gs.toArray (p2-1).toNat (p1+1).toNat=i'.toNat->(i'<=p2-1->¬ix gs i' <ix gs p1)->J1 i' :=by
  intro i' ⟨q0,q1⟩ e1 e2
  refine kJ1 _ fun J2 kJ2=> ?_
  have jj2:∀j' :Int,(i' -1<=j'/\j'<=p2-1)->Sort.scanDown (fun x=> !Sort.ltInt x (ix gs p1)) gs.toArray i'.toNat (p2-1).toNat=j'.toNat->(i'<=j'->i' <j')->J2 j' :=by
   intro j' ⟨q2,q3⟩ e4 e3
   rw[e1,e4]at hst
   refine kJ2 _ ⟨fun c=> ?_,fun c=> ?_⟩
   ·have c:=of_decide_eq_true c
    rw[if_pos (by omega)]at hst
    have hs:=swp_arr (g:=gs) (i:=j') (j:=p1) (by omega) (by omega) (by omega) (by omega)
    rw[hs]at hst
    rw[hst]
    exact⟨⟨by omega,by omega⟩,⟨by omega,by omega⟩,⟨by omega,by omega⟩,⟨by omega,by omega⟩,⟨by omega,by omega⟩,⟨by omega,by omega⟩,⟨by omega,by omega⟩,⟨by omega,by rw[List.length_set];omega⟩,(Int.toNat_of_nonneg (by omega)).symm,rfl,rfl⟩
   ·have c:=of_decide_eq_false c
    have hs:=swp_arr (g:=gs) (i:=i') (j:=j') (by omega) (by omega) (by omega) (by omega)
    rw[if_neg (by omega),hs,show i'.toNat+1=(i' +1).toNat by omega,show j'.toNat-1=(j' -1).toNat by omega]at hst
    have e5:=e3 (by omega)
    rw[wi (i' +1) (by omega) (by omega),wi (j' -1) (by omega) (by omega)]
    refine⟨⟨by omega,by omega⟩,⟨by omega,by omega⟩,⟨by omega,by omega⟩,⟨by omega,by omega⟩,⟨by omega,by omega⟩,⟨by omega,by omega⟩,⟨by omega,by omega⟩,⟨by omega,by rw[List.length_set];omega⟩,fun i j g=>(p1<i/\i<=j+1/\j<p2)/\g.length=w0.length/\R=((Sort.partLoop Sort.ltInt p1.toNat i.toNat j.toNat g.toArray).1,false,Sort.swp (Sort.partLoop Sort.ltInt p1.toNat i.toNat j.toNat g.toArray).2 (Sort.partLoop Sort.ltInt p1.toNat i.toNat j.toNat g.toArray).1 p1.toNat),fun i j _=>(j+1-i).toNat,⟨⟨by omega,by omega,by omega⟩,by rw[List.length_set,List.length_set];exact hl0,hst⟩,?_⟩
    clear hst hs e1 e4
    rintro i j g ⟨⟨i0,i1,i2⟩,g2,g3⟩ J3 kJ3
    rw[Sort.partLoop_eq]at g3
    have xa:=arr_ix (g:=g) (i:=p1) (by omega) (by omega)
    rw[xa]at g3
    have jj3:∀i' :Int,(i<=i'/\i'<=j+1)->Sort.scanUp (fun x=>Sort.ltInt x (ix g p1)) g.toArray j.toNat i.toNat=i'.toNat->(i'<=j->¬ix g i' <ix g p1)->J3 i' :=by
     intro i' ⟨q0,q1⟩ e1 e2
     refine kJ3 _ fun J4 kJ4=> ?_
     have jj4:∀j' :Int,(i' -1<=j'/\j'<=j)->Sort.scanDown (fun x=> !Sort.ltInt x (ix g p1)) g.toArray i'.toNat j.toNat=j'.toNat->(i'<=j'->i' <j')->J4 j' :=by
      intro j' ⟨q2,q3⟩ e4 e3
      rw[e1,e4]at g3
      refine kJ4 _ ⟨fun c=> ?_,fun c=> ?_⟩
      ·have c:=of_decide_eq_true c
       rw[if_pos (by omega)]at g3
       have hs:=swp_arr (g:=g) (i:=j') (j:=p1) (by omega) (by omega) (by omega) (by omega)
       dsimp only at g3
       rw[hs]at g3
       rw[g3]
       exact⟨⟨by omega,by omega⟩,⟨by omega,by omega⟩,⟨by omega,by omega⟩,⟨by omega,by omega⟩,⟨by omega,by omega⟩,⟨by omega,by omega⟩,⟨by omega,by omega⟩,⟨by omega,by rw[List.length_set];omega⟩,(Int.toNat_of_nonneg (by omega)).symm,rfl,rfl⟩
      ·have c:=of_decide_eq_false c
       have hs:=swp_arr (g:=g) (i:=i') (j:=j') (by omega) (by omega) (by omega) (by omega)
       rw[if_neg (by omega),hs,show i'.toNat+1=(i' +1).toNat by omega,show j'.toNat-1=(j' -1).toNat by omega]at g3
       have w1:=wi (i' +1) (by omega) (by omega)
       have w2:=wi (j' -1) (by omega) (by omega)
       have e4:=e3 (by omega)
       rw[w1,w2]
       exact⟨⟨by omega,by omega⟩,⟨by omega,by omega⟩,⟨by omega,by omega⟩,⟨by omega,by omega⟩,⟨by omega,by omega⟩,⟨by omega,by omega⟩,⟨by omega,by omega⟩,⟨by omega,by rw[List.length_set];omega⟩,⟨⟨by omega,by omega,by omega⟩,by rw[List.length_set,List.length_set];exact g2,g3⟩,by(dsimp only;omega)⟩
     refine⟨fun j' =>(i' -1<=j'/\j'<=j)/\Sort.scanDown (fun x=> !Sort.ltInt x (ix g p1)) g.toArray i'.toNat j'.toNat=Sort.scanDown (fun x=> !Sort.ltInt x (ix g p1)) g.toArray i'.toNat j.toNat,fun j' =>(j' +1).toNat,⟨⟨by omega,by omega⟩,rfl⟩,?_⟩
     rintro j' ⟨⟨k0,k1⟩,k2⟩
     refine⟨fun c=> ?_,fun c=> ?_⟩
     ·have c:=of_decide_eq_true c
      have xj:=arr_ix (g:=g) (i:=j') (by omega) (by omega)
      rw[k61 (by omega) c,xj,ltI_iff]at k2
      rw[wi (j' -1) (by omega) (by omega)]
      refine⟨⟨by omega,by omega⟩,⟨by omega,by omega⟩,⟨by omega,by omega⟩,⟨by omega,by omega⟩,fun d=>⟨⟨⟨by omega,by omega⟩,?_⟩,by(dsimp only;omega)⟩,fun d=> ?_⟩
      ·rw[if_pos d]at k2
       exact k2
      ·rw[if_neg (by rw[d];decide)]at k2
       refine jj4 j' ⟨k0,k1⟩ k2.symm fun e=> ?_
       have:=e2 (by omega)
       have d:ix g j' <ix g p1:=by simpa using d
       by_cases hij:i' =j'
       ·subst hij;exact absurd d this
       ·omega
     ·have c:=of_decide_eq_false c
      rw[k59 (by omega) c]at k2
      exact jj4 j' ⟨k0,k1⟩ k2.symm fun e=>absurd e c
    refine⟨fun i' =>(i<=i'/\i'<=j+1)/\Sort.scanUp (fun x=>Sort.ltInt x (ix g p1)) g.toArray j.toNat i'.toNat=Sort.scanUp (fun x=>Sort.ltInt x (ix g p1)) g.toArray j.toNat i.toNat,fun i' =>(j+2-i').toNat,⟨⟨by omega,by omega⟩,rfl⟩,?_⟩
    rintro i' ⟨⟨k0,k1⟩,k2⟩
    refine⟨fun c=> ?_,fun c=> ?_⟩
    ·have c:=of_decide_eq_true c
     have xj:=arr_ix (g:=g) (i:=i') (by omega) (by omega)
     rw[k87 (by omega) c,xj,ltI_iff]at k2
     rw[wi (i' +1) (by omega) (by omega)]
     refine⟨⟨by omega,by omega⟩,⟨by omega,by omega⟩,⟨by omega,by omega⟩,⟨by omega,by omega⟩,fun d=>⟨⟨⟨by omega,by omega⟩,?_⟩,by(dsimp only;omega)⟩,fun d=> ?_⟩
     ·rw[if_pos d]at k2
      exact k2
     ·rw[if_neg (by rw[d];decide)]at k2
      exact jj3 i' ⟨k0,k1⟩ k2.symm fun _=>of_decide_eq_false d
    ·have c:=of_decide_eq_false c
     rw[k7j (by omega) c]at k2
     exact jj3 i' ⟨k0,k1⟩ k2.symm fun e=>absurd e c
  refine⟨fun j' =>(i' -1<=j'/\j'<=p2-1)/\Sort.scanDown (fun x=> !Sort.ltInt x (ix gs p1)) gs.toArray i'.toNat j'.toNat=Sort.scanDown (fun x=> !Sort.ltInt x (ix gs p1)) gs.toArray i'.toNat (p2-1).toNat,fun j' =>(j' +1).toNat,⟨⟨by omega,by omega⟩,rfl⟩,?_⟩
  rintro j' ⟨⟨k0,k1⟩,k2⟩
  refine⟨fun c=> ?_,fun c=> ?_⟩
  ·have c:=of_decide_eq_true c
   have xj:=arr_ix (g:=gs) (i:=j') (by omega) (by omega)
   rw[k61 (by omega) c,xj,ltI_iff]at k2
   rw[wi (j' -1) (by omega) (by omega)]
   refine⟨⟨by omega,by omega⟩,⟨by omega,by omega⟩,⟨by omega,by omega⟩,⟨by omega,by omega⟩,fun d=>⟨⟨⟨by omega,by omega⟩,?_⟩,by(dsimp only;omega)⟩,fun d=> ?_⟩
   ·rw[if_pos d]at k2
    exact k2
   ·rw[if_neg (by rw[d];decide)]at k2
    refine jj2 j' ⟨k0,k1⟩ k2.symm fun e=> ?_
    have:=e2 (by omega)
    have d:ix gs j' <ix gs p1:=by simpa using d
    by_cases hij:i' =j'
    ·subst hij;exact absurd d this
    ·omega
  ·have c:=of_decide_eq_false c
   rw[k59 (by omega) c]at k2
   exact jj2 j' ⟨k0,k1⟩ k2.symm fun e=>absurd e c
 refine⟨fun i' =>(p1+1<=i'/\i'<=p2)/\Sort.scanUp (fun x=>Sort.ltInt x (ix gs p1)) gs.toArray (p2-1).toNat i'.toNat=Sort.scanUp (fun x=>Sort.ltInt x (ix gs p1)) gs.toArray (p2-1).toNat (p1+1).toNat,fun i' =>(p2+2-i').toNat,⟨⟨by omega,by omega⟩,rfl⟩,?_⟩
 rintro i' ⟨⟨k0,k1⟩,k2⟩
 refine⟨fun c=> ?_,fun c=> ?_⟩
 ·have c:=of_decide_eq_true c
  have xj:=arr_ix (g:=gs) (i:=i') (by omega) (by omega)
  rw[k87 (by omega) c,xj,ltI_iff]at k2
  rw[wi (i' +1) (by omega) (by omega)]
  refine⟨⟨by omega,by omega⟩,⟨by omega,by omega⟩,⟨by omega,by omega⟩,⟨by omega,by omega⟩,fun d=>⟨⟨⟨by omega,by omega⟩,?_⟩,by(dsimp only;omega)⟩,fun d=> ?_⟩
  ·rw[if_pos d]at k2
   exact k2
  ·rw[if_neg (by rw[d];decide)]at k2
   exact jj1 i' ⟨k0,k1⟩ k2.symm fun _=>of_decide_eq_false d
 ·have c:=of_decide_eq_false c
  rw[k7j (by omega) c]at k2
  exact jj1 i' ⟨k0,k1⟩ k2.symm fun e=>absurd e c
noncomputable def k31:Con TB.den:= .g ⟨112,[.one (.row 0),.one (zqi),.one (zqi)],[.vec yqu],(.tup []),[.vec yqu],false⟩ [yqi,yqi,.sl yqu] [.sl yqu] [] fun(p1 p2:Int) (w0:List Int)=>((0<=p1/\p1<=p2/\p2<=w0.length)/\w0.length<=1099511627776,(revS w0 p1 p2:List Int),())
theorem k3b:k31.Ok Tryz.prog TB:=prv Bs Tryz.func112 (.r 1 (.lp [] ⟨[0],[.vec yqu],[6,7],[.one (zqi),.one (zqi)],[]⟩ .no)) c0 (Q:=∀(p1 p2:Int) (w0:List Int),((0<=p1/\p1<=p2/\p2<=w0.length)/\w0.length<=1099511627776)->∀e0:List Int,revS w0 p1 p2=e0-> 
 ∃(I1:Int->Int->(List Int)->Prop) (M1:Int->Int->(List Int)->Nat),I1 p1 (i64.wrap (p2-1)) w0/\∀(b1 f1:Int) (i1:List Int),(I1 b1 f1 i1->
(decide (b1<f1)=true->
(0<=f1/\f1<(w0.length:Int))/\(0<=f1/\f1<(i1.length:Int))/\(0<=b1/\b1<(w0.length:Int))/\(0<=b1/\b1<(i1.length:Int))/\(0<=b1/\b1<(w0.length:Int))/\(0<=b1/\b1<(i1.length:Int))/\(0<=f1/\f1<(w0.length:Int))/\(0<=f1/\f1<((i1.set b1.toNat (ix i1 f1)).length:Int))/\I1 (i64.wrap (b1+1)) (i64.wrap (f1-1)) ((i1.set b1.toNat (ix i1 f1)).set f1.toNat (ix i1 b1))/\M1 (i64.wrap (b1+1)) (i64.wrap (f1-1)) ((i1.set b1.toNat (ix i1 f1)).set f1.toNat (ix i1 b1))<M1 b1 f1 i1)/\
(decide (b1<f1)=false->
 i1=e0))) (by kernel_rfl)<|by
 rintro p1 p2 w0 h _ rfl
 obtain⟨⟨h1,h2,h3⟩,h4⟩:=h
 rw[wi (p2-1) (by omega) (by omega)]
 refine⟨(fun i j g=>(0<=i/\-1<=j/\i<=2199023255552/\j<w0.length)/\g.length=w0.length/\revS w0 p1 p2=(Sort.reverseLoop i.toNat j.toNat g.toArray).toList),(fun i j _=>(j-i).toNat),⟨⟨by omega,by omega,by omega,by omega⟩,rfl,by unfold revS Sort.reverseRange;rw[show(p2-1).toNat=p2.toNat-1 by omega]⟩,?_⟩
 rintro i j g ⟨⟨g0,g1,g2,g3⟩,g4,g5⟩
 refine⟨fun hh=> ?_,fun hh=> ?_⟩
 ·have hh:=of_decide_eq_true hh
  rw[kdf g0 hh (by omega)]at g5
  rw[wi (i+1) (by omega) (by omega),wi (j-1) (by omega) (by omega)]
  exact⟨⟨by omega,by omega⟩,⟨by omega,by omega⟩,⟨by omega,by omega⟩,⟨by omega,by omega⟩,⟨by omega,by omega⟩,⟨by omega,by omega⟩,⟨by omega,by omega⟩,⟨by omega,by rw[List.length_set];omega⟩,⟨⟨by omega,by omega,by omega,by omega⟩,by rw[List.length_set,List.length_set];exact g4,g5⟩,by(dsimp only;omega)⟩
 ·have hh:=of_decide_eq_false hh
  rw[kbx g0 hh]at g5
  rw[g5]
noncomputable def k4j:Con TB.den:= .g ⟨96,[.one (.row 0),.one (zqi),.one (zqi),.one (zqi)],[.vec yqu],(.tup []),[.vec yqu],false⟩ [yqi,yqi,yqi,.sl yqu] [.sl yqu] [] fun(p1 p2 p3:Int) (w0:List Int)=>((0<=p1/\p1<=p2/\p2<=w0.length)/\w0.length<=1099511627776/\Sort.Below Sort.ltInt p1.toNat p2.toNat w0.toArray,(insS w0 p1 p2:List Int),())
set_option maxHeartbeats 1000000 in
theorem k4w:k4j.Ok Tryz.prog TB:=rec_ok (μ:=fun(p1 p2 p3:Int) (w0:List Int)=>(p2-p1).toNat) (cal Tryz.func96 (by kernel_rfl)) fun rn hr=>prv Bs Tryz.func96 (.r 1 (.lp [] ⟨[0],[.vec yqu],[1,2,3,8,9],[.one (zqi),.one (zqi),.one (zqi),.one (.d (.bool)),.one (.d (.bool))],[]⟩ (.r 2 (.jn ⟨[0],[.vec yqu],[3],[.one (zqi)],[]⟩ [] .no [] (.r 0 (.jn ⟨[0],[.vec yqu],[11,12],[.one (zqi),.one (zqi)],[]⟩ [] .no [] (.jn ⟨[0],[.vec yqu],[],[],[]⟩ [] (.jn ⟨[],[],[68],[.one (.d (.bool))],[]⟩ [] .no [] .no) [] (.nd [] (.jn ⟨[],[],[87],[.one (.d (.bool))],[]⟩ [] .no [] .no) [] .no)))))))) (k36.c (k4n.c (k39.c (k3i.c (k3b.c (k22.c (k1l.c (k2v.c (k43.c (hr.c c0)))))))))) (Q:=∀(p1 p2 p3:Int) (w0:List Int),(((0<=p1/\p1<=p2/\p2<=w0.length)/\w0.length<=1099511627776/\Sort.Below Sort.ltInt p1.toNat p2.toNat w0.toArray)/\((p2-p1).toNat)<rn+1)->∀e0:List Int,insS w0 p1 p2=e0-> 
 ∃(I1:Int->Int->Int->Bool->Bool->(List Int)->Prop) (M1:Int->Int->Int->Bool->Bool->(List Int)->Nat),I1 p1 p2 p3 true true w0/\∀(b1 f1 i1:Int) (k1 l1:Bool) (m1:List Int),(I1 b1 f1 i1 k1 l1 m1->
 let v1:Bool:=decide ((i64.wrap (f1-b1))<=12)
(v1=true->
(w0.length=m1.length)/\((0<=b1/\b1<=f1/\f1<=m1.length)/\m1.length<=1099511627776)/\(insS m1 b1 f1)=e0)/\
(v1=false->
((i1==0)=true->
(w0.length=m1.length)/\((0<=b1/\b1<f1/\f1<=m1.length)/\m1.length<=1099511627776)/\(heapS m1 b1 f1)=e0)/\
((i1==0)=false->
 ∀J1:Int->(List Int)->Prop,(∀(n1:Int) (o1:List Int),
((w0.length=o1.length)/\((0<=b1/\b1<f1/\f1<=o1.length)/\o1.length<=1099511627776)/\∀J2:Int->Int->(List Int)->Prop,(∀(q1 s1:Int) (t1:List Int),
(∀J3:(List Int)->Prop,(∀(u1:List Int),
(∀J5:Bool->Prop,(∀(y1:Bool),
((y1=true->
(w0.length=u1.length)/\((0<=b1/\b1<=q1/\q1<f1/\f1<=u1.length)/\u1.length<=1099511627776)/\I1 ((peqS u1 b1 f1 q1).1:Int) f1 n1 k1 l1 ((peqS u1 b1 f1 q1).2.toList)/\M1 ((peqS u1 b1 f1 q1).1:Int) f1 n1 k1 l1 ((peqS u1 b1 f1 q1).2.toList)<M1 b1 f1 i1 k1 l1 m1)/\
(y1=false->
(w0.length=u1.length)/\((0<=b1/\b1<=q1/\q1<f1/\f1<=u1.length)/\u1.length<=1099511627776)/\let v5:Int:=i64.wrap (((partS u1 b1 f1 q1).1:Int)-b1)
 let v6:Int:=i64.wrap (f1-((partS u1 b1 f1 q1).1:Int))
 let v7:Int:=i64.wrap (Int.tdiv (i64.wrap (f1-b1)) 8)
(decide (v5<v6)=true->
(w0.length=((partS u1 b1 f1 q1).2.2.toList).length)/\(((0<=b1/\b1<=((partS u1 b1 f1 q1).1:Int)/\((partS u1 b1 f1 q1).1:Int)<=((partS u1 b1 f1 q1).2.2.toList).length)/\((partS u1 b1 f1 q1).2.2.toList).length<=1099511627776/\Sort.Below Sort.ltInt b1.toNat ((partS u1 b1 f1 q1).1:Int).toNat ((partS u1 b1 f1 q1).2.2.toList).toArray)/\(((partS u1 b1 f1 q1).1:Int)-b1).toNat<rn)/\let r8:List Int:=(insS ((partS u1 b1 f1 q1).2.2.toList) b1 ((partS u1 b1 f1 q1).1:Int))
 let v9:Int:=i64.wrap (((partS u1 b1 f1 q1).1:Int)+1)
 I1 v9 f1 n1 (decide (v7<=v5)) ((partS u1 b1 f1 q1).2.1) r8/\M1 v9 f1 n1 (decide (v7<=v5)) ((partS u1 b1 f1 q1).2.1) r8<M1 b1 f1 i1 k1 l1 m1)/\
(decide (v5<v6)=false->
 let v10:Int:=i64.wrap (((partS u1 b1 f1 q1).1:Int)+1)
(w0.length=((partS u1 b1 f1 q1).2.2.toList).length)/\(((0<=v10/\v10<=f1/\f1<=((partS u1 b1 f1 q1).2.2.toList).length)/\((partS u1 b1 f1 q1).2.2.toList).length<=1099511627776/\Sort.Below Sort.ltInt v10.toNat f1.toNat ((partS u1 b1 f1 q1).2.2.toList).toArray)/\(f1-v10).toNat<rn)/\let r11:List Int:=(insS ((partS u1 b1 f1 q1).2.2.toList) v10 f1)
 I1 b1 ((partS u1 b1 f1 q1).1:Int) n1 (decide (v7<=v6)) ((partS u1 b1 f1 q1).2.1) r11/\M1 b1 ((partS u1 b1 f1 q1).1:Int) n1 (decide (v7<=v6)) ((partS u1 b1 f1 q1).2.1) r11<M1 b1 f1 i1 k1 l1 m1)))->J5 y1)->
(decide (0<b1)=true->
(0<=i64.wrap (b1-1)/\i64.wrap (b1-1)<(w0.length:Int))/\(0<=i64.wrap (b1-1)/\i64.wrap (b1-1)<(u1.length:Int))/\(0<=q1/\q1<(w0.length:Int))/\(0<=q1/\q1<(u1.length:Int))/\let r4:Bool:=(decide ((ix u1 (i64.wrap (b1-1)))<(ix u1 q1)))
 J5 (!r4))/\
(decide (0<b1)=false->
 J5 false))->J3 u1)->
 ∀J4:Bool->Prop,(∀(x1:Bool),
((x1=true->
(w0.length=t1.length)/\((0<=b1/\b1<f1/\f1<=t1.length)/\t1.length<=1099511627776)/\(((pisS t1 b1 f1).2)=true->
((pisS t1 b1 f1).1.toList)=e0)/\
(((pisS t1 b1 f1).2)=false->
 J3 ((pisS t1 b1 f1).1.toList)))/\
(x1=false->
 J3 t1))->J4 x1)->
(k1=true->
(l1=true->
 J4 (s1==1))/\
(l1=false->
 J4 false))/\
(k1=false->
 J4 false))->J2 q1 s1 t1)->
(((hintN (cpS o1 b1 f1).2)==2)=true->
(w0.length=o1.length)/\((0<=b1/\b1<=f1/\f1<=o1.length)/\o1.length<=1099511627776)/\let v2:Int:=i64.wrap (((cpS o1 b1 f1).1:Int)-b1)
 let v3:Int:=i64.wrap ((i64.wrap (f1-1))-v2)
 J2 v3 1 (revS o1 b1 f1))/\
(((hintN (cpS o1 b1 f1).2)==2)=false->
 J2 ((cpS o1 b1 f1).1:Int) (hintN (cpS o1 b1 f1).2) o1))->J1 n1 o1)->
((!k1)=true->
(w0.length=m1.length)/\((0<=b1/\b1<=f1/\f1<=m1.length)/\m1.length<=1099511627776)/\J1 (i64.wrap (i1-1)) (brkS m1 b1 f1))/\
((!k1)=false->
 J1 i1 m1))))) (by kernel_rfl)<|by
 rintro p1 p2 p3 w0 ⟨h,hm⟩ _ rfl
 replace hm:=Nat.lt_succ_iff.1 hm
 obtain⟨⟨h1,h2,h3⟩,h4,hB⟩:=h
 have h0:=PdqI.start h1 h2 h3 hB
 have hR:insS w0 p1 p2=(insS w0 p1 p2).toArray.toList:=rfl
 rw[hR]
 generalize (insS w0 p1 p2).toArray=R at *
 refine⟨fun a b _ _ _ g=>PdqI R w0.length a b g/\(b-a).toNat<=rn,fun a b _ _ _ _=>(b-a).toNat,⟨h0,hm⟩,?_⟩
 clear h0 hm h1 h2 h3 hB hR
 rintro a b l wb wp g ⟨hP,hb⟩
 have a0:=hP.a0
 have ab:=hP.ab
 have bl:=hP.bl
 have gl:=hP.n
 dsimp only
 have w1:=wi (b-a) (by omega) (by omega)
 refine⟨fun e=>⟨by omega,⟨⟨a0,ab,bl⟩,by omega⟩,hP.ins⟩,fun e=> ?_⟩
 have e:¬b-a<=12:=by rw[w1]at e;exact of_decide_eq_false e
 refine⟨fun e2=>⟨by omega,⟨⟨a0,by omega,bl⟩,by omega⟩,hP.heap⟩,fun e2 J1 k1=> ?_⟩
 have j1:∀(l:Int) (g:List Int),PdqI R w0.length a b g->J1 l g:=by
  intro l g hP
  have bl:=hP.bl
  have gl:=hP.n
  have hc:=cpS_rng (g:=g) (a:=a) (b:=b) a0 (by omega)
  have hr:=hP.rev
  have rl:=hr.n
  refine k1 _ _ ⟨by omega,⟨⟨a0,by omega,bl⟩,by omega⟩,fun J2 k2=> ?_⟩
  have j2:∀(p h:Int) (g:List Int),PdqI R w0.length a b g->(a<=p/\p<b)->J2 p h g:=by
   intro p h g hP hp
   have bl:=hP.bl
   have gl:=hP.n
   refine k2 _ _ _ fun J3 k3=> ?_
   have j3:∀g:List Int,PdqI R w0.length a b g->J3 g:=by
    intro g hP
    have bl:=hP.bl
    have gl:=hP.n
    refine k3 _ fun J5 k5=> ?_
    have j5:∀s:Bool,(s=true->0<a/\¬ix g (a-1)<ix g p)->J5 s:=by
     intro s hs
     refine k5 _ ⟨fun e=> ?_,fun e=> ?_⟩
     ·obtain⟨s1,s2⟩:=hs e
      obtain⟨m1,m2,m3⟩:=hP.peq s1 hp.1 hp.2 s2
      have ml:=m3.n
      exact⟨by omega,⟨⟨a0,hp.1,hp.2,bl⟩,by omega⟩,⟨m3,by omega⟩,by omega⟩
     ·obtain⟨m1,m2,m3,m4,m5,m6,m7⟩:=hP.part hp.1 hp.2
      have l6:=m6.n
      have l7:=m7.n
      generalize partS g a b p=P at *
      have dl:P.2.2.toList.length=w0.length:=by simpa using m3
      refine⟨by omega,⟨⟨a0,hp.1,hp.2,bl⟩,by omega⟩,?_⟩
      have w1:=wi ((P.1:Int)-a) (by omega) (by omega)
      have w2:=wi (b-(P.1:Int)) (by omega) (by omega)
      have w3:=wi ((P.1:Int)+1) (by omega) (by omega)
      rw[w1,w2,w3]
      refine⟨fun c=>⟨by omega,⟨⟨⟨a0,m1,by omega⟩,by omega,by simpa using m4⟩,by omega⟩,⟨m6,by omega⟩,by omega⟩,fun c=>⟨by omega,⟨⟨⟨by omega,by omega,by omega⟩,by omega,?_⟩,by omega⟩,⟨m7,by omega⟩,by omega⟩⟩
      rw[show((P.1:Int)+1).toNat=P.1+1 by omega]
      simpa using m5
    refine⟨fun e=> ?_,fun e=>j5 _ (fun h=>by cases h)⟩
    have e:=of_decide_eq_true e
    rw[wi (a-1) (by omega) (by omega)]
    refine⟨⟨by omega,by omega⟩,⟨by omega,by omega⟩,⟨by omega,by omega⟩,⟨by omega,by omega⟩,j5 _ fun h=>⟨e,?_⟩⟩
    simpa using h
   intro J4 k4
   have j4:∀x,J4 x:=by
    intro x
    refine k4 x ⟨fun e=> ?_,fun e=>j3 _ hP⟩
    obtain⟨m1,m2⟩:=hP.pis (by omega)
    have ml:=m1.n
    exact⟨by omega,⟨⟨a0,by omega,bl⟩,by omega⟩,fun e2=>m2 e2,fun e2=>j3 _ m1⟩
   exact⟨fun e=>⟨fun e2=>j4 _,fun e2=>j4 _⟩,fun e=>j4 _⟩
  refine⟨fun e=>⟨by omega,⟨⟨a0,by omega,bl⟩,by omega⟩,?_⟩,fun e=>j2 _ _ _ hP ⟨hc.1,hc.2⟩⟩
  rw[wi (((cpS g a b).1:Int)-a) (by omega) (by omega),wi (b-1) (by omega) (by omega),wi (b-1-(((cpS g a b).1:Int)-a)) (by omega) (by omega)]
  exact j2 _ _ _ hr ⟨by omega,by omega⟩
 refine⟨fun e3=> ?_,fun e3=>j1 _ _ hP⟩
 have hk:=hP.brk
 have kl:=hk.n
 exact⟨by omega,⟨⟨a0,ab,bl⟩,by omega⟩,j1 _ _ hk⟩
noncomputable def kca:Con TB.den:= .g ⟨70,[.one (.row 0)],[.vec yqu],(.tup []),[.vec yqu],false⟩ [.sl yqu] [.sl yqu] [] fun(w0:List Int)=>(w0.length<=1099511627776,(srt w0:List Int),())
theorem kdh:kca.Ok Tryz.prog TB:=prv Bs Tryz.func70 .no (k9y.c (k4w.c c0)) (Q:=∀(w0:List Int),(w0.length<=1099511627776)->∀e0:List Int,srt w0=e0-> 
(U64 (u64.wrap (w0.length:Int)))/\let r1:Int:=(len64 (u64.wrap (w0.length:Int)))
(w0.length=w0.length)/\((0<=(0:Int)/\(0:Int)<=(w0.length:Int)/\(w0.length:Int)<=w0.length)/\w0.length<=1099511627776/\Sort.Below Sort.ltInt (0:Int).toNat (w0.length:Int).toNat w0.toArray)/\(insS w0 (0:Int) (w0.length:Int))=e0) (by kernel_rfl)<|by
 rintro w0 h _ rfl
 refine⟨by rw[wu _ (by omega) (by omega)];omega,?_⟩
 refine⟨rfl,⟨⟨by omega,by omega,by omega⟩,h,Or.inl rfl⟩,?_⟩
 exact kmg w0
noncomputable def kgz:Con TB.den:= .g ⟨39,[.one (.ptr 0 0)],[.cells [.mp 1],.map yqu (.bool)],(.one (.one (.row 2))),[.cells [.mp 1],.map yqu (.bool),.vec yqu],false⟩ [.sl yqu,.sl (.bool)] [.sl yqu,.sl (.bool),.sl yqu] [] fun(w1k:List Int) (w1v:List Bool)=>(w1v=trs w1k/\w1k.length<=1000000,w1k,w1v,(srt w1k:List Int),())
theorem kj8:kgz.Ok Tryz.prog TB:=prx Bs [22,23] Tryz.func39 (.r 1 (.nd [] (.r 0 (.lp [] ⟨[3,1],[.it 1 yqu (.bool),.map yqu (.bool),.vec yqu],[3],[.one (.row 2)],[2]⟩ .no)) [] .no)) x0 (kdh.c c0) (Q:=∀(w1k:List Int) (w1v:List Bool),(w1v=trs w1k/\w1k.length<=1000000)->∀e1k:List Int,w1k=e1k->∀e1v:List Bool,w1v=e1v->∀e2:List Int,srt w1k=e2-> 
 w1k.length=w1v.length/\0<=(0:Int)/\(0:Int)<=(w1k.length:Int)/\((w1k.length:Int).toNat*8<=140737488355328)/\((w1k.length:Int).toNat<=maxLen)/\(0=(List.replicate 0 (0:Int)).length)/\∃(I1:(List Int)->(List Bool)->(List Int)->(List Bool)->(List Int)->Prop) (M1:(List Int)->(List Bool)->(List Int)->(List Bool)->(List Int)->Nat),I1 w1k w1v w1k w1v (List.replicate 0 (0:Int))/\∀(b1:List Int) (f1:List Bool) (i1:List Int) (k1:List Bool) (l1:List Int),(I1 b1 f1 i1 k1 l1->
 b1.length=f1.length/\(b1=[]->
(l1.length=l1.length)/\(l1.length<=1099511627776)/\(l1.length=(srt l1).length)/\i1=e1k/\k1=e1v/\(srt l1)=e2)/\
(∀j4:Nat,j4<b1.length->
 l1.length=l1.length/\[ix b1 (j4:Int)].length=[ix b1 (j4:Int)].length/\(l1.length+[ix b1 (j4:Int)].length)*8<=140737488355328/\l1.length+[ix b1 (j4:Int)].length<=maxLen/\((l1++[ix b1 (j4:Int)]).length=(l1++[ix b1 (j4:Int)]).length)/\I1 (b1.eraseIdx j4) (f1.eraseIdx j4) i1 k1 (l1++[ix b1 (j4:Int)])/\M1 (b1.eraseIdx j4) (f1.eraseIdx j4) i1 k1 (l1++[ix b1 (j4:Int)])<M1 b1 f1 i1 k1 l1))) (by kernel_rfl)<|by
 rintro w1k w1v h _ rfl _ rfl _ rfl
 obtain⟨h,hl⟩:=h
 subst h
 have hlv:w1k.length=(trs w1k).length:=by simp[trs]
 refine⟨hlv,by omega,by omega,by omega,by unfold maxLen;omega,rfl,?_⟩
 refine⟨(fun a b x y g=>(w1k=x/\trs w1k=y)/\a.length=b.length/\(g++a).Perm w1k),(fun a _ _ _ _=>a.length),⟨⟨rfl,rfl⟩,hlv,by simp⟩,?_⟩
 rintro a b _ _ g ⟨⟨rfl,rfl⟩,hab,hp⟩
 have hln:=hp.length_eq
 rw[List.length_append]at hln
 refine⟨hab,fun e=> ?_,fun j hj=> ?_⟩
 ·subst e
  rw[List.append_nil]at hp
  have hln:g.length=w1k.length:=by simpa using hln
  exact⟨rfl,by omega,(k35 g).symm,rfl,rfl,kl8 hp⟩
 ·rw[ix_get _ _ hj]
  have he:=List.length_eraseIdx (l:=a) (i:=j)
  rw[if_pos hj]at he
  have he2:=List.length_eraseIdx (l:=b) (i:=j)
  rw[if_pos (by omega)]at he2
  refine⟨rfl,rfl,?_,?_,rfl,⟨⟨rfl,rfl⟩,by omega,?_⟩,by(dsimp only;omega)⟩
  ·simp only[List.length_cons,List.length_nil];omega
  ·simp only[List.length_cons,List.length_nil];unfold maxLen;omega
  ·refine List.Perm.trans ?_ hp
   rw[List.append_assoc]
   refine List.Perm.append_left g ?_
   exact kbp hj
noncomputable def kc4:Con TB.den:= .g ⟨19,[.one (.ptr 0 0)],[.cells [zqi,zqi,zqi,zqi,zqi,zqu,zqi,zqi,zqu,zqi,zqi,zql,.row 1,.ptr 2 0,.d (.sl (.st 8)),zqu,.row 3,.row 4],.vec yqu,.cells [.mp 5],.vec yqu,.vec (.st 9),.map yqu (.bool)],(.one (.one (zql))),[.cells [zqi,zqi,zqi,zqi,zqi,zqu,zqi,zqi,zqu,zqi,zqi,zql,.row 1,.ptr 2 0,.d (.sl (.st 8)),zqu,.row 3,.row 4],.vec yqu,.cells [.mp 5],.vec yqu,.vec (.st 9),.map yqu (.bool)],false⟩ [yqi,yqi,yqi,yqi,yqi,yqu,yqi,yqi,yqu,yqi,yqi,.sl yqu,.sl (.st 8),yqu,.sl yqu,.sl yqu,.sl (.st 9),.sl yqu,.sl (.bool)] [.sl yqu,yqi,yqi,yqi,yqi,yqi,yqu,yqi,yqi,yqu,yqi,yqi,.sl yqu,.sl (.st 8),yqu,.sl yqu,.sl yqu,.sl (.st 9),.sl yqu,.sl (.bool)] [] fun(Ah Af Ai Aj Ak Al Ae Am Ao Ag Ac:Int) (Ad:List Int) (Aa:List wA) (Ab:Int) (w1 w3:List Int) (w4:List wN) (w5k:List Int) (w5v:List Bool)=>(w5v=trs w5k/\w5k.length<=1000000,(srt w5k:List Int),Ah,Af,Ai,Aj,Ak,Al,Ae,Am,Ao,Ag,Ac,Ad,Aa,Ab,w1,w3,w4,w5k,w5v,())
theorem k3k:kc4.Ok Tryz.prog TB:=prv Bs Tryz.func19 (.r 2 (.rt [.frz 6 [2]])) (kj8.c c0) (Q:=∀(Ah Af Ai Aj Ak Al Ae Am Ao Ag Ac:Int) (Ad:List Int) (Aa:List wA) (Ab:Int) (w1 w3:List Int) (w4:List wN) (w5k:List Int) (w5v:List Bool),(w5v=trs w5k/\w5k.length<=1000000)->∀r0:List Int,srt w5k=r0->∀Av:Int,Ah=Av->∀Aw:Int,Af=Aw->∀Ax:Int,Ai=Ax->∀Ay:Int,Aj=Ay->∀Az:Int,Ak=Az->∀A0:Int,Al=A0->∀A1:Int,Ae=A1->∀A3:Int,Am=A3->∀A4:Int,Ao=A4->∀A5:Int,Ag=A5->∀Ap:Int,Ac=Ap->∀Aq:List Int,Ad=Aq->∀As:List wA,Aa=As->∀At:Int,Ab=At->∀e1:List Int,w1=e1->∀e3:List Int,w3=e3->∀e4:List wN,w4=e4->∀e5k:List Int,w5k=e5k->∀e5v:List Bool,w5v=e5v-> 
(w5v=trs w5k/\w5k.length<=1000000)/\((srt w5k).length=(srt w5k).length)/\(w4.length=w4.length)/\(w3.length=w3.length)/\(w1.length=w1.length)/\(srt w5k)=r0/\Ah=Av/\Af=Aw/\Ai=Ax/\Aj=Ay/\Ak=Az/\Al=A0/\Ae=A1/\Am=A3/\Ao=A4/\Ag=A5/\Ac=Ap/\Ad=Aq/\Aa=As/\Ab=At/\w1=e1/\w3=e3/\w4=e4/\w5k=e5k/\w5v=e5v) (by kernel_rfl)<|by
 rintro Ah Af Ai Aj Ak Al Ae Am Ao Ag Ac Ad Aa Ab w1 w3 w4 w5k w5v h _ rfl _ rfl _ rfl _ rfl _ rfl _ rfl _ rfl _ rfl _ rfl _ rfl _ rfl _ rfl _ rfl _ rfl _ rfl _ rfl _ rfl _ rfl _ rfl _ rfl
 exact⟨h,(by repeat' first|apply And.intro|exact rfl|exact True.intro)⟩
noncomputable def kas:Con TB.den:= .gp 47 [.st 12] [.sl (.st 8)] [] fun(p0:wl)=>(p0.wB.length<=100000,p0.wB,())
theorem kc6:kas.Ok Tryz.prog TB:=qrv Bs Tryz.func47 (.r 1 (.nd [] (.r 0 (.lp [.tok 3 (.st 8)] ⟨[1],[.tip (.st 8)],[3,9],[.one (.own 0),.one (zqi)],[]⟩ .no)) [] .no)) c0 (Q:=∀(p0:wl),(p0.wB.length<=100000)->∀r0:List wA,p0.wB=r0-> 
(([]:List wA)=([]:List wA))/\∃(I1:Int->(List wA)->Prop) (M1:Int->(List wA)->Nat),I1 0 ([]:List wA)/\∀(b1:Int) (f1:List wA),(I1 b1 f1->
(decide (b1<(p0.wB.length:Int))=true->
(0<=b1)/\b1<(p0.wB.length:Int)/\f1.length=f1.length/\(f1.length+[(ix p0.wB b1)].length)*24<=140737488355328/\f1.length+[(ix p0.wB b1)].length<=maxLen/\(f1++[(ix p0.wB b1)]=f1++[(ix p0.wB b1)])/\I1 (i64.wrap (b1+1)) (f1++[(ix p0.wB b1)])/\M1 (i64.wrap (b1+1)) (f1++[(ix p0.wB b1)])<M1 b1 f1)/\
(decide (b1<(p0.wB.length:Int))=false->
 f1=r0))) (by kernel_rfl)<|by
 rintro p0 h _ rfl
 refine⟨rfl,⟨(fun a g=>∃i:Nat,a=(i:Int)/\i<=p0.wB.length/\g=p0.wB.take i),(fun a _=>(p0.wB.length-a).toNat),⟨0,rfl,by omega,rfl⟩,?_⟩⟩
 rintro _ _ ⟨i,rfl,hi,rfl⟩
 refine⟨fun e=> ?_,fun e=> ?_⟩
 ·have e:i<p0.wB.length:=by have:=of_decide_eq_true e;omega
  have hl:(p0.wB.take i).length<=90000∨90000<(p0.wB.take i).length:=by omega
  have h2:(p0.wB.take i).length=i:=by rw[List.length_take];omega
  rw[ix_get _ _ e,inc_i64 _ (by omega)]
  refine⟨by omega,by omega,rfl,?_,?_,rfl,⟨i+1,rfl,by omega,(List.take_succ_eq_append_getElem e).symm⟩,by(dsimp only;omega)⟩
  ·rw[h2];simp only[List.length_cons,List.length_nil];omega
  ·rw[h2];simp only[List.length_cons,List.length_nil];unfold maxLen;omega
 ·have e:i=p0.wB.length:=by have:=of_decide_eq_false e;omega
  subst e
  rw[List.take_length]
noncomputable def ki6:Con TB.den:= .gp 46 [.sl (.st 8),.sl (.st 8)] [.bool] [] fun(p0 p1:List wA)=>(p0.length<=100000,(decide (p0=p1):Bool),())
theorem kiv:ki6.Ok Tryz.prog TB:=qrv Bs Tryz.func46 (.r 1 (.nd [] (.r 0 (.lp [] ⟨[],[],[5],[.one (zqi)],[]⟩ .no)) [] .no)) c0 (Q:=∀(p0 p1:List wA),(p0.length<=100000)->∀r0:Bool,(decide (p0=p1))=r0-> 
(((p0.length:Int) !=(p1.length:Int))=true->
 false=r0)/\
(((p0.length:Int) !=(p1.length:Int))=false->
 ∃(I1:Int->Prop) (M1:Int->Nat),I1 0/\∀(b1:Int),(I1 b1->
(decide (b1<(p0.length:Int))=true->
(0<=b1)/\b1<(p0.length:Int)/\(0<=b1)/\b1<(p1.length:Int)/\let v1:Bool:=(!(((ix p0 b1).ID==(ix p1 b1).ID)&&(((ix p0 b1).wR==(ix p1 b1).wR)&&(((ix p0 b1).wL==(ix p1 b1).wL)&&true))))
(v1=true->
 false=r0)/\
(v1=false->
 I1 (i64.wrap (b1+1))/\M1 (i64.wrap (b1+1))<M1 b1))/\
(decide (b1<(p0.length:Int))=false->
 true=r0)))) (by kernel_rfl)<|by
 rintro p0 p1 h _ rfl
 refine⟨fun e=> ?_,fun e=> ?_⟩
 ·have e:¬(p0.length:Int)=p1.length:=by simpa using e
  rw[decide_eq_false (by rintro rfl;exact e rfl)]
 ·have e:(p0.length:Int)=p1.length:=by simpa using e
  refine⟨(fun i=>0<=i/\i<=p0.length/\p0.take i.toNat=p1.take i.toNat),(fun i=>(p0.length-i).toNat),⟨by omega,by omega,by simp⟩,?_⟩
  rintro a ⟨g0,g1,g2⟩
  obtain⟨i,rfl⟩:=Int.eq_ofNat_of_zero_le g0
  simp only[Int.toNat_natCast]at g2
  refine⟨fun hh=> ?_,fun hh=> ?_⟩
  ·have hh:=of_decide_eq_true hh
   have k0:i<p0.length:=by omega
   have k1:i<p1.length:=by omega
   rw[ix_get _ _ k0,ix_get _ _ k1]
   have hx:∀x y:wA,((x.ID==y.ID)&&((x.wR==y.wR)&&((x.wL==y.wL)&&true)))=decide (x=y):=by
    intro x y
    cases x;cases y
    rw[Bool.eq_iff_iff]
    simp
   refine⟨g0,hh,g0,by omega,fun e2=> ?_,fun e2=> ?_⟩
   ·have e2:¬p0[i]=p1[i]:=by rw[hx]at e2;simpa using e2
    rw[decide_eq_false (by rintro rfl;exact e2 rfl)]
   ·have e2:p0[i]=p1[i]:=by rw[hx]at e2;simpa using e2
    rw[inc_i64 _ (by omega)]
    refine⟨⟨by omega,by omega,?_⟩,by(dsimp only;omega)⟩
    simp only[Int.toNat_natCast]
    rw[List.take_succ_eq_append_getElem k0,List.take_succ_eq_append_getElem k1,g2,e2]
  ·have hh:=of_decide_eq_false hh
   have:i=p0.length:=by omega
   subst this
   rw[List.take_length,show p0.length=p1.length by omega,List.take_length]at g2
   rw[decide_eq_true g2]
noncomputable def khc:Con TB.den:= .gp 45 [.st 13] [yqu] [] fun(p0:wt)=>(1<=p0.we.length/\p0.we.length<=1000000,(ix p0.we ((p0.we.length:Int)-1):Int),())
theorem kii:khc.Ok Tryz.prog TB:=qrv Bs Tryz.func45 .no c0 (Q:=∀(p0:wt),(1<=p0.we.length/\p0.we.length<=1000000)->∀r0:Int,(ix p0.we ((p0.we.length:Int)-1))=r0-> 
 let v1:Int:=i64.wrap ((p0.we.length:Int)-1)
(0<=v1)/\v1<(p0.we.length:Int)/\ix p0.we v1=r0) (by kernel_rfl)<|by
 rintro p0 h _ rfl
 refine ?_
 rw[kh _ (by omega) (by omega)]
 exact⟨by omega,by omega,rfl⟩
noncomputable def khz:Con TB.den:= .g ⟨21,[.one (.ptr 0 0),.agg [zqi,zqi,zqi,zqi,zqi,zqu,zqi,zqi,zqu,zqi,zql,zql,.d (.sl (.st 8)),zqu,zql]],[.cells [zqi,zqi,zqi,zqi,zqi,zqu,zqi,zqi,zqu,zqi,zqi,zql,.row 1,.ptr 2 0,.d (.sl (.st 8)),zqu,.row 3,.row 4],.vec yqu,.cells [.mp 5],.vec yqu,.vec (.st 9),.map yqu (.bool)],(.one (.one (.d (.bool)))),[.cells [zqi,zqi,zqi,zqi,zqi,zqu,zqi,zqi,zqu,zqi,zqi,zql,.row 1,.ptr 2 0,.d (.sl (.st 8)),zqu,.row 3,.row 4],.vec yqu,.cells [.mp 5],.vec yqu,.vec (.st 9),.map yqu (.bool)],false⟩ [.st 13,yqi,yqi,yqi,yqi,yqi,yqu,yqi,yqi,yqu,yqi,yqi,.sl yqu,.sl (.st 8),yqu,.sl yqu,.sl yqu,.sl (.st 9),.sl yqu,.sl (.bool)] [.bool,yqi,yqi,yqi,yqi,yqi,yqu,yqi,yqi,yqu,yqi,yqi,.sl yqu,.sl (.st 8),yqu,.sl yqu,.sl yqu,.sl (.st 9),.sl yqu,.sl (.bool)] [] fun(p1:wt) (Ah Af Ai Aj Ak Al Ae Am Ao Ag Ac:Int) (Ad:List Int) (Aa:List wA) (Ab:Int) (w1 w3:List Int) (w4:List wN) (w5k:List Int) (w5v:List Bool)=>((∃(c:Nat) (f:Int),c<=800/\PI (PS.mk (wF.mk Ah Af Ai Aj Ak Al Ae Am Ao) (wE.mk Ag Ac Ad) Aa Ab w1 w3 w4 w5k w5v) c f)/\p1=mOf (PS.mk (wF.mk Ah Af Ai Aj Ak Al Ae Am Ao) (wE.mk Ag Ac Ad) Aa Ab w1 w3 w4 w5k w5v),true,Ah,Af,Ai,Aj,Ak,Al,Ae,Am,Ao,Ag,Ac,Ad,Aa,Ab,w1,w3,w4,w5k,w5v,())
theorem ka1:khz.Ok Tryz.prog TB:=prv Bs Tryz.func21 .no (kc8.c (k7s.c (kii.c (k5y.c (k9w.c (k3k.c (k5p.c (kc6.c (kiv.c (k5z.c (k5d.c (k3o.c c0)))))))))))) (Q:=∀(p1:wt) (Ah Af Ai Aj Ak Al Ae Am Ao Ag Ac:Int) (Ad:List Int) (Aa:List wA) (Ab:Int) (w1 w3:List Int) (w4:List wN) (w5k:List Int) (w5v:List Bool),((∃(c:Nat) (f:Int),c<=800/\PI (PS.mk (wF.mk Ah Af Ai Aj Ak Al Ae Am Ao) (wE.mk Ag Ac Ad) Aa Ab w1 w3 w4 w5k w5v) c f)/\p1=mOf (PS.mk (wF.mk Ah Af Ai Aj Ak Al Ae Am Ao) (wE.mk Ag Ac Ad) Aa Ab w1 w3 w4 w5k w5v))->∀r0:Bool,(true:Bool)=r0->∀Av:Int,Ah=Av->∀Aw:Int,Af=Aw->∀Ax:Int,Ai=Ax->∀Ay:Int,Aj=Ay->∀Az:Int,Ak=Az->∀A0:Int,Al=A0->∀A1:Int,Ae=A1->∀A3:Int,Am=A3->∀A4:Int,Ao=A4->∀A5:Int,Ag=A5->∀Ap:Int,Ac=Ap->∀Aq:List Int,Ad=Aq->∀As:List wA,Aa=As->∀At:Int,Ab=At->∀e1:List Int,w1=e1->∀e3:List Int,w3=e3->∀e4:List wN,w4=e4->∀e5k:List Int,w5k=e5k->∀e5v:List Bool,w5v=e5v-> 
(w4.length=w4.length)/\(w3.length=w3.length)/\(w1.length=w1.length)/\(((w4.length:Int)==p1.wS)=true->
(w4.length=w4.length)/\(w3.length=w3.length)/\(w1.length=w1.length)/\(w3.length<=1000000)/\let r1:Int:=(if w3=[]then 0 else ix w3 ((w3.length:Int)-1))
(1<=p1.we.length/\p1.we.length<=1000000)/\let r2:Int:=(ix p1.we ((p1.we.length:Int)-1))
((r1==r2)=true->
(w4.length=w4.length)/\(w3.length=w3.length)/\(w1.length=w1.length)/\(w1.length<=1000000)/\(w1.length<=9223372036854775807)/\((decide (w1=p1.wq))=true->
(w4.length=w4.length)/\(w3.length=w3.length)/\(w1.length=w1.length)/\(w5v=trs w5k/\w5k.length<=1000000)/\((srt w5k).length<=9223372036854775807)/\((decide ((srt w5k)=p1.wC))=true->
(w4.length=w4.length)/\(w3.length=w3.length)/\(w1.length=w1.length)/\(Aa.length<=100000)/\((wl.mk Aa).wB.length<=100000)/\(((wl.mk Aa).wB).length<=100000)/\let r3:Bool:=(decide (((wl.mk Aa).wB)=p1.wB))
(r3=true->
(w4.length=w4.length)/\(w3.length=w3.length)/\(w1.length=w1.length)/\((Ab==p1.wz)=true->
(w4.length=w4.length)/\(w3.length=w3.length)/\(w1.length=w1.length)/\((1<=Ae/\Ae<=100)/\w3.length<=1000000)/\((1<=p1.wK/\p1.wK<=100)/\p1.we.length<=1000000)/\((ancL w3 Ae).length<=9223372036854775807)/\let r4:Bool:=(decide ((ancL w3 Ae)=(ancL p1.we p1.wK)))
(w4.length=w4.length)/\(w3.length=w3.length)/\(w1.length=w1.length)/\r4=r0/\Ah=Av/\Af=Aw/\Ai=Ax/\Aj=Ay/\Ak=Az/\Al=A0/\Ae=A1/\Am=A3/\Ao=A4/\Ag=A5/\Ac=Ap/\Ad=Aq/\Aa=As/\Ab=At/\w1=e1/\w3=e3/\w4=e4/\w5k=e5k/\w5v=e5v)/\
((Ab==p1.wz)=false->
(w4.length=w4.length)/\(w3.length=w3.length)/\(w1.length=w1.length)/\false=r0/\Ah=Av/\Af=Aw/\Ai=Ax/\Aj=Ay/\Ak=Az/\Al=A0/\Ae=A1/\Am=A3/\Ao=A4/\Ag=A5/\Ac=Ap/\Ad=Aq/\Aa=As/\Ab=At/\w1=e1/\w3=e3/\w4=e4/\w5k=e5k/\w5v=e5v))/\
(r3=false->
(w4.length=w4.length)/\(w3.length=w3.length)/\(w1.length=w1.length)/\false=r0/\Ah=Av/\Af=Aw/\Ai=Ax/\Aj=Ay/\Ak=Az/\Al=A0/\Ae=A1/\Am=A3/\Ao=A4/\Ag=A5/\Ac=Ap/\Ad=Aq/\Aa=As/\Ab=At/\w1=e1/\w3=e3/\w4=e4/\w5k=e5k/\w5v=e5v))/\
((decide ((srt w5k)=p1.wC))=false->
(w4.length=w4.length)/\(w3.length=w3.length)/\(w1.length=w1.length)/\false=r0/\Ah=Av/\Af=Aw/\Ai=Ax/\Aj=Ay/\Ak=Az/\Al=A0/\Ae=A1/\Am=A3/\Ao=A4/\Ag=A5/\Ac=Ap/\Ad=Aq/\Aa=As/\Ab=At/\w1=e1/\w3=e3/\w4=e4/\w5k=e5k/\w5v=e5v))/\
((decide (w1=p1.wq))=false->
(w4.length=w4.length)/\(w3.length=w3.length)/\(w1.length=w1.length)/\false=r0/\Ah=Av/\Af=Aw/\Ai=Ax/\Aj=Ay/\Ak=Az/\Al=A0/\Ae=A1/\Am=A3/\Ao=A4/\Ag=A5/\Ac=Ap/\Ad=Aq/\Aa=As/\Ab=At/\w1=e1/\w3=e3/\w4=e4/\w5k=e5k/\w5v=e5v))/\
((r1==r2)=false->
(w4.length=w4.length)/\(w3.length=w3.length)/\(w1.length=w1.length)/\false=r0/\Ah=Av/\Af=Aw/\Ai=Ax/\Aj=Ay/\Ak=Az/\Al=A0/\Ae=A1/\Am=A3/\Ao=A4/\Ag=A5/\Ac=Ap/\Ad=Aq/\Aa=As/\Ab=At/\w1=e1/\w3=e3/\w4=e4/\w5k=e5k/\w5v=e5v))/\
(((w4.length:Int)==p1.wS)=false->
(w4.length=w4.length)/\(w3.length=w3.length)/\(w1.length=w1.length)/\false=r0/\Ah=Av/\Af=Aw/\Ai=Ax/\Aj=Ay/\Ak=Az/\Al=A0/\Ae=A1/\Am=A3/\Ao=A4/\Ag=A5/\Ac=Ap/\Ad=Aq/\Aa=As/\Ab=At/\w1=e1/\w3=e3/\w4=e4/\w5k=e5k/\w5v=e5v)) (by kernel_rfl)<|by
 rintro p1 Ah Af Ai Aj Ak Al Ae Am Ao Ag Ac Ad Aa Ab w1 w3 w4 w5k w5v h _ rfl _ rfl _ rfl _ rfl _ rfl _ rfl _ rfl _ rfl _ rfl _ rfl _ rfl _ rfl _ rfl _ rfl _ rfl _ rfl _ rfl _ rfl _ rfl _ rfl
 obtain⟨⟨c,f,hc,hp⟩,rfl⟩:=h
 have hrl:w3.length=w4.length+1:=hp.rl
 have hpl:w4.length<=c:=hp.p
 have hll:w1.length<=2^Af.toNat:=hp.ll
 have hd2:Af<=12:=hp.d2
 have hp12:=pow12 Af.toNat (by omega)
 have hkl:w5k.length<=4*c:=hp.kl
 have hbl:Aa.length<=c:=hp.b.2.2
 have hv:w5v=trs w5k:=hp.v
 have hw1:1<=Ae:=hp.w1
 have hw2:Ae<=100:=hp.w2
 have hne:¬w3=[]:=fun hh=>by rw[hh]at hrl;cases hrl
 have hal:(ancL w3 Ae).length<=w3.length:=by unfold ancL;rw[List.length_drop];omega
 refine⟨rfl,rfl,rfl,fun _=>⟨rfl,rfl,rfl,by omega,⟨by show 1<=w3.length;omega,by show w3.length<=1000000;omega⟩,fun _=>⟨rfl,rfl,rfl,by omega,by omega,fun _=>⟨rfl,rfl,rfl,⟨hv,by omega⟩,by rw[k35];omega,fun _=>⟨rfl,rfl,rfl,(by show Aa.length<=100000;omega),(by show Aa.length<=100000;omega),(by show Aa.length<=100000;omega),fun _=>⟨rfl,rfl,rfl,fun _=>⟨rfl,rfl,rfl,⟨⟨hw1,hw2⟩,by omega⟩,⟨⟨hw1,hw2⟩,by show w3.length<=1000000;omega⟩,by omega,rfl,rfl,rfl,?_⟩,fun e=> ?_⟩,fun e=> ?_⟩,fun e=> ?_⟩,fun e=> ?_⟩,fun e=> ?_⟩,fun e=> ?_⟩
 ·exact⟨decide_eq_true rfl,(by repeat' first|apply And.intro|exact rfl|exact True.intro)⟩
 ·have e:(Ab==Ab)=false:=e
  simp at e
 ·have e:decide (Aa=Aa)=false:=e
  simp at e
 ·have e:decide (srt w5k=srt w5k)=false:=e
  simp at e
 ·have e:decide (w1=w1)=false:=e
  simp at e
 ·have e:((if w3=[]then 0 else ix w3 ((w3.length:Int)-1))==ix w3 ((w3.length:Int)-1))=false:=e
  rw[if_neg hne]at e
  simp at e
 ·have e:((w4.length:Int)==(w4.length:Int))=false:=e
  simp at e
noncomputable def kdt:Con TB.den:= .tp 56 [.st 4] [.bool] [] fun(p0:wAH)=>((prS p0:Bool),())
theorem kfk:kdt.Ok Tryz.prog TB:=qtv Bs Tryz.func56 (.r 1 (.nd [] (.r 0 (.lp [] ⟨[],[],[3,5],[.one (.d (.bool)),.one (zqi)],[]⟩ .no)) [] (.nd [] (.r 0 (.lp [] ⟨[],[],[4,6],[.one (.d (.bool)),.one (zqi)],[]⟩ .no)) [] .no))) c0 (Q:=∀(p0:wAH),∀r0:Bool,prS p0=r0-> 
 ∃(I1:Bool->Int->Prop) (M1:Bool->Int->Nat),I1 false 2/\∀(b1:Bool) (f1:Int),(I1 b1 f1->
(decide (f1<=256)=true->
(b1=true->
 I1 true (i64.wrap (2*f1))/\M1 true (i64.wrap (2*f1))<M1 b1 f1)/\
(b1=false->
 I1 (p0.wAT==f1) (i64.wrap (2*f1))/\M1 (p0.wAT==f1) (i64.wrap (2*f1))<M1 b1 f1))/\
(decide (f1<=256)=false->
 ∃(I2:Bool->Int->Prop) (M2:Bool->Int->Nat),I2 false 1/\∀(i1:Bool) (k1:Int),(I2 i1 k1->
(decide (k1<=8)=true->
(i1=true->
 I2 true (i64.wrap (2*k1))/\M2 true (i64.wrap (2*k1))<M2 i1 k1)/\
(i1=false->
 I2 (p0.wAN==k1) (i64.wrap (2*k1))/\M2 (p0.wAN==k1) (i64.wrap (2*k1))<M2 i1 k1))/\
(decide (k1<=8)=false->
(b1=true->
(i1=true->
(decide (1<=p0.wAS)=true->
 decide (p0.wAS<=64)=r0)/\
(decide (1<=p0.wAS)=false->
 false=r0))/\
(i1=false->
 false=r0))/\
(b1=false->
 false=r0)))))) (by kernel_rfl)<|by
 rintro p0 _ rfl
 have hw:∀n k:Nat,k<=8->i64.wrap (2*(n*((2^k:Nat):Int)))=n*((2^(k+1):Nat):Int)∨2<n:=by
  intro n k hk
  rcases Nat.lt_or_ge 2 n with h|h
  ·exact .inr h
  ·have h1:2^k<=2^8:=Nat.pow_le_pow_right (by decide) hk
   have h2:2^(k+1)=2*2^k:=by rw[Nat.pow_succ];omega
   rw[h2]
   generalize 2^k=q at *
   refine .inl ?_
   have:n=0∨n=1∨n=2:=by omega
   rcases this with rfl|rfl|rfl
   ·rw[kh _ (by omega) (by omega)];omega
   ·rw[kh _ (by omega) (by omega)];omega
   ·rw[kh _ (by omega) (by omega)];omega
 refine(⟨(fun s a=>∃k:Nat,k<=8/\a=2*((2^k:Nat):Int)/\s=pws k 2 p0.wAT),(fun _ a=>(1000-a).toNat),⟨0,by omega,rfl,rfl⟩,?_⟩)
 rintro _ _ ⟨k,hk,rfl,rfl⟩
 have h1:=Nat.two_pow_pos k
 have h2:2^(k+1)=2*2^k:=by rw[Nat.pow_succ];omega
 refine⟨fun e=> ?_,fun e=> ?_⟩
 ·have e:=of_decide_eq_true e
  have hk7:k<=7:=by
   rcases Nat.lt_or_ge k 8 with h|h
   ·omega
   ·have:k=8:=by omega
    subst this
    exact absurd e (by decide)
  have hwk:i64.wrap (2*(2*((2^k:Nat):Int)))=2*((2^(k+1):Nat):Int):=(hw 2 k hk).resolve_right (by decide)
  rw[hwk]
  refine⟨fun e2=>⟨⟨k+1,by omega,rfl,?_⟩,?_⟩,fun e2=>⟨⟨k+1,by omega,rfl,?_⟩,?_⟩⟩
  ·rw[k78,e2];rfl
  ·rw[h2];generalize 2^k=q at *;(dsimp only;omega)
  ·rw[k78,e2];rfl
  ·rw[h2];generalize 2^k=q at *;(dsimp only;omega)
 have e:=of_decide_eq_false e
 have hk8:k=8:=by
  rcases Nat.lt_or_ge k 8 with h|h
  ·have:2^k<=2^7:=Nat.pow_le_pow_right (by decide) (by omega)
   omega
  ·omega
 subst hk8
 refine⟨(fun s a=>∃k:Nat,k<=4/\a=1*((2^k:Nat):Int)/\s=pws k 1 p0.wAN),(fun _ a=>(1000-a).toNat),⟨0,by omega,rfl,rfl⟩,?_⟩
 rintro _ _ ⟨k,hk,rfl,rfl⟩
 have h1:=Nat.two_pow_pos k
 have h2:2^(k+1)=2*2^k:=by rw[Nat.pow_succ];omega
 refine⟨fun e=> ?_,fun e=> ?_⟩
 ·have e:=of_decide_eq_true e
  have hk7:k<=3:=by
   rcases Nat.lt_or_ge k 4 with h|h
   ·omega
   ·have:k=4:=by omega
    subst this
    exact absurd e (by decide)
  have hwk:i64.wrap (2*(1*((2^k:Nat):Int)))=1*((2^(k+1):Nat):Int):=(hw 1 k (by omega)).resolve_right (by decide)
  rw[hwk]
  refine⟨fun e2=>⟨⟨k+1,by omega,rfl,?_⟩,?_⟩,fun e2=>⟨⟨k+1,by omega,rfl,?_⟩,?_⟩⟩
  ·rw[k78,e2];rfl
  ·rw[h2];generalize 2^k=q at *;(dsimp only;omega)
  ·rw[k78,e2];rfl
  ·rw[h2];generalize 2^k=q at *;(dsimp only;omega)
 have e:=of_decide_eq_false e
 have hk4:k=4:=by
  rcases Nat.lt_or_ge k 4 with h|h
  ·have:2^k<=2^3:=Nat.pow_le_pow_right (by decide) (by omega)
   omega
  ·omega
 subst hk4
 unfold prS
 refine⟨fun e=>⟨fun e2=>⟨fun e3=> ?_,fun e3=> ?_⟩,fun e2=> ?_⟩,fun e=> ?_⟩
 ·rw[e,e2,e3];simp
 ·rw[e,e2,e3];simp
 ·rw[e,e2];simp
 ·rw[e];simp
end Go.Proofs.YtlfcebhnjkcmnaaGreat
end
