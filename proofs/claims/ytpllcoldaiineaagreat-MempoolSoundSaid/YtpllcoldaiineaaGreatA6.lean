/-
  Parts of the proofs that the laws of this seat hold of every input, merged by a program: a machine over pure data that is sound for the model, what each function of the translation does in it, and plain lemmas. No conditions but those in each theorem.
-/
import Derived.Test.YtpllcoldaiineaaGreatA5
set_option linter.all false
set_option maxRecDepth 100000
noncomputable section
namespace Go.Proofs.YtpllcoldaiineaaGreat
open Go Go.Bv Go.Cv Go.Md Go.RowKit
open Go.IntKind (i64 u64)
noncomputable def ke5:Con TB.den:= .tp 10 [] [.bool] [] (true,())
theorem k2j:ke5.Ok Tryz.prog TB:=qtv Bs Tryz.func10 .no (k2o.c (keg.c (k2u.c (k1p.c (k4i.c c0))))) (Q:=∀r0:Bool,(true:Bool)=r0-> 
 let r1:Int:=(if 0<(64:Int)then(64:Int)else 0)
(([]:List wA).length=([]:List wA).length)/\(PW ([]:List wA)/\0<=(if 0<(0:Int)then(0:Int)else 0)/\TR (wC.mk 0 [] [] 5 0 (9:Int) (1:Int) 0 0 []))/\let r2:=addL (if 0<(0:Int)then(0:Int)else 0) (tL ([]:List wA)) (wC.mk 0 [] [] 5 0 (9:Int) (1:Int) 0 0 [])
 let r3:List wA:=(eL (addL (if 0<(0:Int)then(0:Int)else 0) (tL ([]:List wA)) (wC.mk 0 [] [] 5 0 (9:Int) (1:Int) 0 0 [])).l)
(([]:List wA).length=([]:List wA).length)/\(PW ([]:List wA)/\0<=r1/\TR (wC.mk 0 [] [] 5 0 (3:Int) (1:Int) 0 0 []))/\let r4:=addL r1 (tL ([]:List wA)) (wC.mk 0 [] [] 5 0 (3:Int) (1:Int) 0 0 [])
 let r5:List wA:=(eL (addL r1 (tL ([]:List wA)) (wC.mk 0 [] [] 5 0 (3:Int) (1:Int) 0 0 [])).l)
(r5.length=r5.length)/\(PW r5/\0<=r1/\TR (wC.mk 0 [] [] 5 0 (4:Int) (2:Int) 0 0 []))/\let r6:=addL r1 (tL r5) (wC.mk 0 [] [] 5 0 (4:Int) (2:Int) 0 0 [])
 let r7:List wA:=(eL (addL r1 (tL r5) (wC.mk 0 [] [] 5 0 (4:Int) (2:Int) 0 0 [])).l)
(r7.length=r7.length)/\(PW r7/\0<=r1/\TR (wC.mk 0 [] [] 5 0 (2:Int) (3:Int) 0 0 []))/\let r8:=addL r1 (tL r7) (wC.mk 0 [] [] 5 0 (2:Int) (3:Int) 0 0 [])
 let r9:List wA:=(eL (addL r1 (tL r7) (wC.mk 0 [] [] 5 0 (2:Int) (3:Int) 0 0 [])).l)
((r2.e==3)=true->
((r4.e==0)=true->
((r6.e==0)=true->
(((r6.g.length:Int)==1)=true->
((r8.e==16)=true->
(r9.length=r9.length)/\(EL r9)/\(((wL (tL r9))==64)=true->
(TR (wC.mk 0 [] [] 5 0 (4:Int) (2:Int) 0 0 [])/\TR (wC.mk 0 [] [] 5 0 (3:Int) (1:Int) 0 0 []))/\let r10:Bool:=(betB (wC.mk 0 [] [] 5 0 (4:Int) (2:Int) 0 0 []) (wC.mk 0 [] [] 5 0 (3:Int) (1:Int) 0 0 []))
 r10=r0)/\
(((wL (tL r9))==64)=false->
 false=r0))/\
((r8.e==16)=false->
 false=r0))/\
(((r6.g.length:Int)==1)=false->
 false=r0))/\
((r6.e==0)=false->
 false=r0))/\
((r4.e==0)=false->
 false=r0))/\
((r2.e==3)=false->
 false=r0)) (by kernel_rfl)<|by
 rintro _ rfl
 have e1:=ex1
 have e2:=ex2
 have e3:=ex3
 have e4:=ex4
 unfold pay at e1 e2 e3 e4
 have t0:tL []=[]:=rfl
 have r1:=pay_r 1 9 (by omega) (by omega)
 have r2:=pay_r 1 3 (by omega) (by omega)
 have r3:=pay_r 2 4 (by omega) (by omega)
 have r4:=pay_r 3 2 (by omega) (by omega)
 have p0:PW ([]:List wA):=PW.of (L:=[]) PL.nil (by decide)
 have p1:=PW.of ex7.1 (by decide)
 have p2:=PW.of ex7.2 (by decide)
 dsimp only
 simp only[show(if 0<(0:Int)then(0:Int)else 0)=0 from rfl,show(if 0<(64:Int)then(64:Int)else 0)=64 from rfl,t0,e1,e2,tL_eL,e3,e4]
 refine⟨trivial,⟨p0,by decide,r1⟩,trivial,⟨p0,by decide,r2⟩,trivial,⟨p1,by decide,r3⟩,trivial,⟨p2,by decide,r4⟩,?_⟩
 have w:=ex5
 have b:=ex6
 unfold pay at w b
 simp only[w,b]
 exact⟨fun _=>⟨fun _=>⟨fun _=>⟨fun _=>⟨fun _=>⟨trivial,p2.el,fun _=>⟨⟨r3,r2⟩,trivial⟩,fun e=>(by cases e)⟩,fun e=>(by cases e)⟩,fun e=>(by cases e)⟩,fun e=>(by cases e)⟩,fun e=>(by cases e)⟩,fun e=>(by cases e)⟩
noncomputable def keh:Con TB.den:= .gp 34 [.st 1,yqi] [.bool] [] fun(p0:wC) (p1:Int)=>(p0.wB.length<=9223372036854775807,(smallB p0 p1:Bool),())
theorem kej:keh.Ok Tryz.prog TB:=qrv Bs Tryz.func34 (.r 0 (.nd [] (.r 0 (.lp [] ⟨[],[],[5],[.one (zqi)],[]⟩ .no)) [] .no)) c0 (Q:=∀(p0:wC) (p1:Int),(p0.wB.length<=9223372036854775807)->∀r0:Bool,smallB p0 p1=r0-> 
 ∃(I1:Int->Prop) (M1:Int->Nat),I1 0/\∀(b1:Int),(I1 b1->
(decide (b1<(p0.wB.length:Int))=true->
(0<=b1)/\b1<(p0.wB.length:Int)/\let v1:Bool:=decide (10<(((ix p0.wB b1).wE).length:Int))
(v1=true->
 false=r0)/\
(v1=false->
 I1 (i64.wrap (b1+1))/\M1 (i64.wrap (b1+1))<M1 b1))/\
(decide (b1<(p0.wB.length:Int))=false->
(decide ((p0.wD.length:Int)<=10)=true->
(decide ((p0.wB.length:Int)<=10)=true->
 decide ((p0.wR.length:Int)<=p1)=r0)/\
(decide ((p0.wB.length:Int)<=10)=false->
 false=r0))/\
(decide ((p0.wD.length:Int)<=10)=false->
 false=r0)))) (by kernel_rfl)<|by
 rintro p0 p1 h _ rfl
 refine(⟨(fun i=>0<=i/\i<=p0.wB.length/\∀x∈p0.wB.take i.toNat,x.wE.length<=10),(fun i=>(p0.wB.length-i).toNat),⟨by omega,by omega,by simp⟩,?_⟩)
 rintro i ⟨g0,g1,g2⟩
 refine⟨fun hh=> ?_,fun hh=> ?_⟩
 ·have hh:=of_decide_eq_true hh
  refine⟨g0,hh,fun e=> ?_,fun e=> ?_⟩
  ·have e:=of_decide_eq_true e
   unfold smallB
   have:p0.wB.all (fun x=>decide (x.wE.length<=10))=false:=List.all_eq_false.2 ⟨_,ix_mem p0.wB i g0 hh,by simp;omega⟩
   rw[this]
   simp
  ·have e:=of_decide_eq_false e
   rw[inc i p0.wB.length g0 hh (by omega)]
   refine⟨⟨by omega,by omega,?_⟩,by(dsimp only;omega)⟩
   rw[kb p0.wB i g0 hh]
   intro x hx
   rcases List.mem_append.1 hx with hx|hx
   ·exact g2 x hx
   ·have:x=ix p0.wB i:=by simpa using hx
    rw[this];omega
 ·have hh:=of_decide_eq_false hh
  rw[List.take_of_length_le (by omega)]at g2
  unfold smallB
  have:p0.wB.all (fun x=>decide (x.wE.length<=10))=true:=by simpa using g2
  rw[this]
  refine⟨fun h1=>⟨fun h2=> ?_,fun h2=> ?_⟩,fun h1=> ?_⟩
  ·have h1:=of_decide_eq_true h1
   have h2:=of_decide_eq_true h2
   rw[decide_eq_true (p:=p0.wD.length<=10) (by omega),decide_eq_true (p:=p0.wB.length<=10) (by omega)]
   simp
  ·have h2:=of_decide_eq_false h2
   rw[decide_eq_false (p:=p0.wB.length<=10) (by omega)]
   simp
  ·have h1:=of_decide_eq_false h1
   rw[decide_eq_false (p:=p0.wD.length<=10) (by omega)]
   simp
noncomputable def khn:Con TB.den:= .gp 11 [.sl (.st 6),.sl (.st 1)] [.bool] [] fun(p0:List wo) (p1:List wC)=>(OA p0 p1,(fewB p0 p1:Bool),())
theorem k3k:khn.Ok Tryz.prog TB:=qrv Bs Tryz.func11 (.r 0 (.nd [] (.r 0 (.lp [] ⟨[],[],[11],[.one (zqi)],[]⟩ .no)) [] (.nd [] (.r 0 (.lp [] ⟨[],[],[22],[.one (zqi)],[]⟩ .no)) [] .no))) (kej.c c0) (Q:=∀(p0:List wo) (p1:List wC),(OA p0 p1)->∀r0:Bool,fewB p0 p1=r0-> 
 ∃(I1:Int->Prop) (M1:Int->Nat),I1 0/\∀(b1:Int),(I1 b1->
(decide (b1<(p0.length:Int))=true->
(0<=b1)/\b1<(p0.length:Int)/\((wC.mk ((ix p0 b1).wP) ((ix p0 b1).wT) ((ix p0 b1).wd) ((ix p0 b1).wM) ((ix p0 b1).wJ) ((ix p0 b1).wh) ((ix p0 b1).wN) ((ix p0 b1).wV) ((ix p0 b1).wO) ((ix p0 b1).wU)).wB.length<=9223372036854775807)/\let r1:Bool:=(smallB (wC.mk ((ix p0 b1).wP) ((ix p0 b1).wT) ((ix p0 b1).wd) ((ix p0 b1).wM) ((ix p0 b1).wJ) ((ix p0 b1).wh) ((ix p0 b1).wN) ((ix p0 b1).wV) ((ix p0 b1).wO) ((ix p0 b1).wU)) (400:Int))
((!r1)=true->
 false=r0)/\
((!r1)=false->
 I1 (i64.wrap (b1+1))/\M1 (i64.wrap (b1+1))<M1 b1))/\
(decide (b1<(p0.length:Int))=false->
 ∃(I2:Int->Prop) (M2:Int->Nat),I2 0/\∀(f1:Int),(I2 f1->
(decide (f1<(p1.length:Int))=true->
(0<=f1)/\f1<(p1.length:Int)/\((ix p1 f1).wB.length<=9223372036854775807)/\((!(smallB (ix p1 f1) (400:Int)))=true->
 false=r0)/\
((!(smallB (ix p1 f1) (400:Int)))=false->
 I2 (i64.wrap (f1+1))/\M2 (i64.wrap (f1+1))<M2 f1))/\
(decide (f1<(p1.length:Int))=false->
(decide ((p0.length:Int)<=16)=true->
 decide ((p1.length:Int)<=12)=r0)/\
(decide ((p0.length:Int)<=16)=false->
 false=r0)))))) (by kernel_rfl)<|by
 rintro p0 p1 h _ rfl
 have ha:=h.a
 have hb:=h.b
 unfold fewB
 refine⟨(fun i=>∃k:Nat,i=(k:Int)/\k<=p0.length/\(p0.take k).all (fun o=>smallB (opT o) 400)=true),fun i=>(p0.length-i).toNat,⟨0,rfl,by omega,rfl⟩,?_⟩
 rintro _ ⟨k,rfl,g1,g2⟩
 refine⟨fun e=> ?_,fun e=> ?_⟩
 ·have e:k<p0.length:=by have:=of_decide_eq_true e;omega
  have ho:=(h.r _ (List.getElem_mem e)).2
  rw[ix_get _ _ e,inc k p0.length (by omega) (by omega) (by omega)]
  refine⟨by omega,by omega,ho,fun q=> ?_,fun q=>⟨⟨k+1,rfl,by omega,?_⟩,by(dsimp only;omega)⟩⟩
  ·have q:smallB (opT p0[k]) 400=false:=by simpa using q
   have:p0.all (fun o=>smallB (opT o) 400)=false:=by
    rw[List.all_eq_false]
    exact⟨_,List.getElem_mem e,by rw[q];decide⟩
   rw[this]
   rfl
  ·have q:smallB (opT p0[k]) 400=true:=by simpa using q
   rw[List.take_succ_eq_append_getElem e,List.all_append,g2,List.all_cons,q]
   rfl
 ·have e:k=p0.length:=by have:=of_decide_eq_false e;omega
  rw[List.take_of_length_le (by omega)]at g2
  rw[g2,Bool.true_and]
  refine⟨(fun i=>∃k:Nat,i=(k:Int)/\k<=p1.length/\(p1.take k).all (fun t=>smallB t 400)=true),fun i=>(p1.length-i).toNat,⟨0,rfl,by omega,rfl⟩,?_⟩
  rintro _ ⟨j,rfl,j1,j2⟩
  refine⟨fun e=> ?_,fun e=> ?_⟩
  ·have e:j<p1.length:=by have:=of_decide_eq_true e;omega
   have ho:=(h.s _ (List.getElem_mem e)).2
   rw[ix_get _ _ e,inc j p1.length (by omega) (by omega) (by omega)]
   refine⟨by omega,by omega,ho,fun q=> ?_,fun q=>⟨⟨j+1,rfl,by omega,?_⟩,by(dsimp only;omega)⟩⟩
   ·have q:smallB p1[j] 400=false:=by simpa using q
    have:p1.all (fun t=>smallB t 400)=false:=by
     rw[List.all_eq_false]
     exact⟨_,List.getElem_mem e,by rw[q];decide⟩
    rw[this]
    rfl
   ·have q:smallB p1[j] 400=true:=by simpa using q
    rw[List.take_succ_eq_append_getElem e,List.all_append,j2,List.all_cons,q]
    rfl
  ·have e:j=p1.length:=by have:=of_decide_eq_false e;omega
   rw[List.take_of_length_le (by omega)]at j2
   rw[j2,Bool.true_and]
   refine⟨fun q=> ?_,fun q=> ?_⟩
   ·have q:=of_decide_eq_true q
    rw[decide_eq_true (show p0.length<=16 by omega),Bool.true_and]
    exact decide_eq_decide.2 (by omega)
   ·have q:=of_decide_eq_false q
    rw[decide_eq_false (show¬p0.length<=16 by omega)]
    rfl
noncomputable def k5k:Con TB.den:= .g ⟨49,[.one (.row 0),.one (zqi),.one (zqi)],[.vec (.st 2)],(.one (.one (.view 0))),[.vec (.st 2)],false⟩ [yqi,yqi,.sl (.st 2)] [yqi,yqi,.sl (.st 2)] [] fun(p1 p2:Int) (w0:List wA)=>((0<=p1/\p1<w0.length)/\p2=p1+1,(0:Int),(((w0.length-1:Nat):Int):Int),(w0.take p1.toNat++w0.drop (p1.toNat+1)++[default]:List wA),())
theorem k65:k5k.Ok Tryz.prog TB:=by
 refine⟨cal Tryz.func49 (by kernel_rfl),fun x K hx=> ?_⟩
 obtain⟨(p1:Int),(p2:Int),(w0:List wA),_⟩:=x
 obtain⟨h,hK⟩:=hx
 have h:(0<=p1/\p1<w0.length)/\p2=p1+1:=h
 refine⟨_,hK,?_⟩
 obtain⟨⟨h1,h2⟩,rfl⟩:=h
 obtain⟨i,rfl⟩:=Int.eq_ofNat_of_zero_le h1
 have:=kfm w0 i (by omega)
 rw[show i+(w0.length-(i+1))=w0.length-1 by omega]at this
 exact this
noncomputable def kbi:Con TB.den:= .g ⟨31,[.one (.ptr 0 0),.one (zqu)],[.cells [zqi,.row 1],.vec (.st 2)],(.one (.one (.d (.bool)))),[.cells [zqi,.row 2],.dead,.vec (.st 2)],false⟩ [yqu,yqi,.sl (.st 2)] [.bool,yqi,.sl (.st 2)] [] fun(p1 Aa:Int) (w1:List wA)=>(PW w1,((remL (tL w1) p1).b:Bool),Aa,(eL (remL (tL w1) p1).l:List wA),())
theorem k6m:kbi.Ok Tryz.prog TB:=prv Bs Tryz.func31 (.r 1 (.nd [] (.r 0 (.nd [] (.r 0 (.rt [.trimc 0 1])) [] .no)) [] (.r 1 (.rt [.trimc 0 1])))) (k8x.c (k65.c c0)) (Q:=∀(p1 Aa:Int) (w1:List wA),(PW w1)->∀r0:Bool,((remL (tL w1) p1).b)=r0->∀Ac:Int,Aa=Ac->∀e2:List wA,(eL (remL (tL w1) p1).l)=e2-> 
(w1.length=w1.length)/\(w1.length<=1000000)/\(decide ((idxI (w1.map (·.id)) p1)<0)=true->
 w1.length=w1.length/\(w1.length=w1.length)/\false=r0/\Aa=Ac/\w1=e2)/\
(decide ((idxI (w1.map (·.id)) p1)<0)=false->
 let v1:Int:=i64.wrap ((idxI (w1.map (·.id)) p1)+1)
(w1.length=w1.length)/\((0<=(idxI (w1.map (·.id)) p1)/\(idxI (w1.map (·.id)) p1)<w1.length)/\v1=(idxI (w1.map (·.id)) p1)+1)/\let r2:List wA:=(w1.take (idxI (w1.map (·.id)) p1).toNat++w1.drop ((idxI (w1.map (·.id)) p1).toNat+1)++[default])
(0:Int).toNat=0/\((w1.length-1:Nat):Int).toNat<=r2.length/\((r2.take (((w1.length-1:Nat):Int).toNat)).length=(r2.take (((w1.length-1:Nat):Int).toNat)).length)/\true=r0/\Aa=Ac/\r2.take (((w1.length-1:Nat):Int).toNat)=e2)) (by kernel_rfl)<|by
 rintro p1 Aa w1 h _ rfl _ rfl _ rfl
 obtain⟨L,rfl,hP,hn⟩:=h.at
 rw[tL_eL]
 have hb:=fnd_b L p1
 have hf:idxI ((eL L).map (·.id)) p1=fndL L p1:=by rw[eL_id];rfl
 unfold remL
 rw[hf]
 refine⟨rfl,by rw[eL_len];omega,fun e=> ?_,fun e=> ?_⟩
 ·rw[if_pos (of_decide_eq_true e)]
  exact⟨rfl,rfl,rfl,rfl,rfl⟩
 ·have e:=of_decide_eq_false e
  rw[if_neg e]
  generalize fndL L p1=i at *
  rw[wi (i+1) (by omega) (by omega),eL_len]
  refine⟨rfl,⟨⟨by omega,by omega⟩,rfl⟩,?_⟩
  have l0:((eL L).take i.toNat++(eL L).drop (i.toNat+1)).length=L.length-1:=by
   rw[List.length_append,List.length_take,List.length_drop,eL_len];omega
  have e1:((eL L).take i.toNat++(eL L).drop (i.toNat+1)++[default]).take (L.length-1)=eL (L.take i.toNat++L.drop (i.toNat+1)):=by
   rw[List.take_left' l0];simp[eL]
  refine⟨rfl,?_,?_,rfl,rfl,?_⟩
  ·rw[Int.toNat_natCast,List.length_append,l0];simp
  ·rfl
  ·rw[Int.toNat_natCast];exact e1
noncomputable def kdo:Con TB.den:= .gp 13 [.st 1] [.st 1] [] fun(p0:wC)=>(TL p0,p0,())
theorem k26:kdo.Ok Tryz.prog TB:=qrv Bs Tryz.func13 (.r 3 (.nd [] (.r 0 (.lp [.tok 3 (.st 0)] ⟨[6],[.tip (.st 0)],[3,19],[.one (.own 0),.one (zqi)],[]⟩ .no)) [] .no)) c0 (Q:=∀(p0:wC),(TL p0)->∀r0:wC,p0=r0-> 
(([]:List Int).length+p0.wD.length)*8<=140737488355328/\([]:List Int).length+p0.wD.length<=maxLen/\(([]:List Int).length+p0.wR.length)*1<=140737488355328/\([]:List Int).length+p0.wR.length<=maxLen/\(([]:List wg)=([]:List wg))/\∃(I1:Int->(List wg)->Prop) (M1:Int->(List wg)->Nat),I1 0 ([]:List wg)/\∀(b1:Int) (f1:List wg),(I1 b1 f1->
(decide (b1<(p0.wB.length:Int))=true->
(0<=b1)/\b1<(p0.wB.length:Int)/\(([]:List Int).length+((ix p0.wB b1).wE).length)*8<=140737488355328/\([]:List Int).length+((ix p0.wB b1).wE).length<=maxLen/\let v1:List Int:=([]:List Int)++((ix p0.wB b1).wE)
 let v2:List wg:=[wg.mk ((ix p0.wB b1).wn) ((ix p0.wB b1).wW) ((ix p0.wB b1).wS) v1]
 f1.length=f1.length/\(f1.length+v2.length)*48<=140737488355328/\f1.length+v2.length<=maxLen/\(f1++v2=f1++v2)/\I1 (i64.wrap (b1+1)) (f1++v2)/\M1 (i64.wrap (b1+1)) (f1++v2)<M1 b1 f1)/\
(decide (b1<(p0.wB.length:Int))=false->
 p0.wY=r0.wY/\([]:List Int)++p0.wD=r0.wD/\f1=r0.wB/\p0.wF=r0.wF/\p0.wG=r0.wG/\p0.Fee=r0.Fee/\p0.wH=r0.wH/\p0.wQ=r0.wQ/\p0.wK=r0.wK/\([]:List Int)++p0.wR=r0.wR))) (by kernel_rfl)<|by
 rintro p0 h _ rfl
 have l1:=h.m
 have l2:=h.o
 have l3:=h.p
 simp only[List.length_nil,List.nil_append]
 refine⟨by omega,by unfold maxLen;omega,by omega,by unfold maxLen;omega,trivial,?_⟩
 refine⟨(fun i f=>∃k:Nat,i=(k:Int)/\k<=p0.wB.length/\f=p0.wB.take k),fun i _=>(p0.wB.length-i).toNat,⟨0,rfl,by omega,rfl⟩,?_⟩
 rintro _ _ ⟨k,rfl,g1,rfl⟩
 refine⟨fun e=> ?_,fun e=> ?_⟩
 ·have e:k<p0.wB.length:=by have:=of_decide_eq_true e;omega
  have hc:=h.c _ (List.getElem_mem e)
  rw[ix_get _ _ e,inc_i64 _ (by omega)]
  dsimp only
  simp only[List.length_take,List.length_singleton]
  refine⟨by omega,by omega,by omega,by unfold maxLen;omega,trivial,by omega,by unfold maxLen;omega,trivial,⟨k+1,rfl,by omega,?_⟩,by omega⟩
  rw[List.take_succ_eq_append_getElem e]
 ·have e:k=p0.wB.length:=by have:=of_decide_eq_false e;omega
  rw[List.take_of_length_le (by omega)]
  exact(by repeat' first|apply And.intro|exact rfl|exact True.intro)
noncomputable def kfr:Con TB.den:= .gp 25 [.sl yqu,.sl yqu] [.bool] [] fun(p0 p1:List Int)=>(p0.length<=100000,(decide (p0=p1):Bool),())
theorem k9r:kfr.Ok Tryz.prog TB:=qrv Bs Tryz.func25 (.r 1 (.nd [] (.r 0 (.lp [] ⟨[],[],[5],[.one (zqi)],[]⟩ .no)) [] .no)) c0 (Q:=∀(p0 p1:List Int),(p0.length<=100000)->∀r0:Bool,(decide (p0=p1))=r0-> 
(((p0.length:Int) !=(p1.length:Int))=true->
 false=r0)/\
(((p0.length:Int) !=(p1.length:Int))=false->
 ∃(I1:Int->Prop) (M1:Int->Nat),I1 0/\∀(b1:Int),(I1 b1->
(decide (b1<(p0.length:Int))=true->
(0<=b1)/\b1<(p0.length:Int)/\(0<=b1)/\b1<(p1.length:Int)/\(((ix p0 b1) !=(ix p1 b1))=true->
 false=r0)/\
(((ix p0 b1) !=(ix p1 b1))=false->
 I1 (i64.wrap (b1+1))/\M1 (i64.wrap (b1+1))<M1 b1))/\
(decide (b1<(p0.length:Int))=false->
 true=r0)))) (by kernel_rfl)<|by
 rintro p0 p1 h _ rfl
 refine⟨fun e=> ?_,fun e=> ?_⟩
 ·have e:¬(p0.length:Int)=p1.length:=by simpa using e
  rw[decide_eq_false (by rintro rfl;exact e rfl)]
 ·have e:(p0.length:Int)=p1.length:=by simpa using e
  refine⟨(fun i=>0<=i/\i<=p0.length/\p0.take i.toNat=p1.take i.toNat),(fun i=>(p0.length-i).toNat),⟨by omega,by omega,by simp⟩,?_⟩
  rintro i ⟨g0,g1,g2⟩
  refine⟨fun hh=> ?_,fun hh=> ?_⟩
  ·have hh:=of_decide_eq_true hh
   refine⟨g0,hh,g0,by omega,fun e2=> ?_,fun e2=> ?_⟩
   ·have e2:¬ix p0 i=ix p1 i:=by simpa using e2
    rw[decide_eq_false (by rintro rfl;exact e2 rfl)]
   ·have e2:ix p0 i=ix p1 i:=by simpa using e2
    rw[inc i p0.length g0 hh (by omega)]
    refine⟨⟨by omega,by omega,?_⟩,by(dsimp only;omega)⟩
    rw[kb p0 i g0 hh,kb p1 i g0 (by omega),g2,e2]
  ·have hh:=of_decide_eq_false hh
   rw[List.take_of_length_le (by omega),List.take_of_length_le (by omega)]at g2
   rw[decide_eq_true g2]
noncomputable def kgz:Con TB.den:= .gp 93 [yqu] [.st 5] [] fun(p0:Int)=>(p0=18446744069414584321,(wc.mk 7 32 7:wc),())
theorem kbu:kgz.Ok Tryz.prog TB:=qrv Bs Tryz.func93 .no c0 (Q:=∀(p0:Int),(p0=18446744069414584321)->∀r0:wc,wc.mk 7 32 7=r0-> 
((p0==17)=true->
 3=r0.a0/\4=r0.a1/\3=r0.a2)/\
((p0==17)=false->
((p0==97)=true->
 5=r0.a0/\5=r0.a1/\5=r0.a2)/\
((p0==97)=false->
((p0==193)=true->
 5=r0.a0/\6=r0.a1/\5=r0.a2)/\
((p0==193)=false->
((p0==257)=true->
 3=r0.a0/\8=r0.a1/\3=r0.a2)/\
((p0==257)=false->
((p0==12289)=true->
 11=r0.a0/\12=r0.a1/\5=r0.a2)/\
((p0==12289)=false->
((p0==65537)=true->
 3=r0.a0/\16=r0.a1/\3=r0.a2)/\
((p0==65537)=false->
((p0==18446744069414584321)=true->
 7=r0.a0/\32=r0.a1/\7=r0.a2)/\
((p0==18446744069414584321)=false->
 0=r0.a0/\0=r0.a1/\0=r0.a2)))))))) (by kernel_rfl)<|by
 rintro p0 h _ rfl
 simp[h]
noncomputable def kdq:Con TB.den:= .gp 76 [yqu] [.bool] [] fun(p0:Int)=>(p0=18446744069414584321,true,())
theorem k1o:kdq.Ok Tryz.prog TB:=qrv Bs Tryz.func76 .no (kbu.c c0) (Q:=∀(p0:Int),(p0=18446744069414584321)->∀r0:Bool,(true:Bool)=r0-> 
(p0=18446744069414584321)/\decide (0<(7:Int))=r0) (by kernel_rfl)<|by
 rintro p0 h _ rfl
 exact⟨h,rfl⟩
noncomputable def khh:Con TB.den:= .gp 94 [yqu,yqu,yqu] [yqu] [] fun(p0 p1 p2:Int)=>(p0=18446744069414584321/\U64 p1/\U64 p2,((p1+p2)%18446744069414584321:Int),())
theorem k4v:khh.Ok Tryz.prog TB:=qrv Bs Tryz.func94 .no (k1o.c c0) (Q:=∀(p0 p1 p2:Int),(p0=18446744069414584321/\U64 p1/\U64 p2)->∀r0:Int,((p1+p2)%18446744069414584321)=r0-> 
(p0=18446744069414584321)/\((!true)=true->
 0=r0)/\
((!true)=false->
(p0≠0)/\(p0≠0)/\let v1:Bool:=decide ((u64.wrap (p0-(Int.tmod p2 p0)))<=(Int.tmod p1 p0))
(v1=true->
 let v2:Int:=u64.wrap ((Int.tmod p1 p0)-(u64.wrap (p0-(Int.tmod p2 p0))))
 v2=r0)/\
(v1=false->
 let v3:Int:=u64.wrap ((Int.tmod p1 p0)+(Int.tmod p2 p0))
 v3=r0))) (by kernel_rfl)<|by
 rintro p0 p1 p2 h _ rfl
 obtain⟨rfl,h1,h2⟩:=h
 refine⟨rfl,fun h=>by simp at h,fun _=> ?_⟩
 rw[tmod_nn _ _ h1.1,tmod_nn _ _ h2.1]
 simp only[u64w]
 refine⟨by omega,by omega,fun h=> ?_,fun h=> ?_⟩
 ·have h:=of_decide_eq_true h
  omega
 ·have h:=of_decide_eq_false h
  omega
noncomputable def kh6:Con TB.den:= .gp 95 [yqu,yqu,yqu] [yqu] [] fun(p0 p1 p2:Int)=>(p0=18446744069414584321/\U64 p1/\U64 p2,(p1*p2%18446744069414584321:Int),())
theorem kbm:kh6.Ok Tryz.prog TB:=qrv Bs Tryz.func95 .no (k1o.c (k7x.c (k7z.c c0))) (Q:=∀(p0 p1 p2:Int),(p0=18446744069414584321/\U64 p1/\U64 p2)->∀r0:Int,(p1*p2%18446744069414584321)=r0-> 
(p0=18446744069414584321)/\((!true)=true->
 0=r0)/\
((!true)=false->
(p0≠0)/\(p0≠0)/\(U64 (Int.tmod p1 p0)/\U64 (Int.tmod p2 p0))/\let r1:Int:=((Int.tmod p1 p0)*(Int.tmod p2 p0)/18446744073709551616)
 let r2:Int:=((Int.tmod p1 p0)*(Int.tmod p2 p0)%18446744073709551616)
(U64 r1/\U64 r2/\U64 p0/\r1<p0)/\((r1*18446744073709551616+r2)%p0)=r0)) (by kernel_rfl)<|by
 rintro p0 p1 p2 h _ rfl
 obtain⟨rfl,h1,h2⟩:=h
 refine⟨rfl,fun h=>by simp at h,fun _=> ?_⟩
 rw[tmod_nn _ _ h1.1,tmod_nn _ _ h2.1,Int.mul_emod p1 p2]
 have a1:0<=p1%18446744069414584321/\p1%18446744069414584321<18446744069414584321:=by omega
 have a2:0<=p2%18446744069414584321/\p2%18446744069414584321<18446744069414584321:=by omega
 generalize p1%18446744069414584321=a at *
 generalize p2%18446744069414584321=b at *
 have h3:0<=a*b:=Int.mul_nonneg a1.1 a2.1
 have h4:a*b<=18446744069414584320*18446744069414584320:=Int.mul_le_mul (by omega) (by omega) a2.1 (by omega)
 generalize a*b=m at *
 refine⟨by omega,by omega,⟨⟨by omega,by omega⟩,⟨by omega,by omega⟩⟩,⟨⟨by omega,by omega⟩,⟨by omega,by omega⟩,⟨by omega,by omega⟩,by omega⟩,?_⟩
 rw[show m/18446744073709551616*18446744073709551616+m%18446744073709551616=m by omega]
noncomputable def k9t:Con TB.den:= .gp 113 [yqu] [yqu] [] fun(p0:Int)=>(p0=18446744069414584321,(7:Int),())
theorem kbt:k9t.Ok Tryz.prog TB:=qrv Bs Tryz.func113 .no (kbu.c c0) (Q:=∀(p0:Int),(p0=18446744069414584321)->∀r0:Int,(7:Int)=r0-> 
(p0=18446744069414584321)/\7=r0) (by kernel_rfl)<|by
 rintro p0 h _ rfl
 exact⟨h,rfl⟩
noncomputable def khc:Con TB.den:= .gp 111 [yqu,yqu,yqu] [yqu] [] fun(p0 p1 p2:Int)=>(p0=18446744069414584321/\U64 p1/\U64 p2,(pw p1 p2:Int),())
theorem kim:khc.Ok Tryz.prog TB:=qrv Bs Tryz.func111 (.r 3 (.nd [] (.lp [] ⟨[],[],[1,2,7],[.one (zqu),.one (zqu),.one (zqu)],[]⟩ (.r 0 (.jn ⟨[],[],[7],[.one (zqu)],[]⟩ [] .no [] .no))) [] .no)) (k1o.c (kbm.c c0)) (Q:=∀(p0 p1 p2:Int),(p0=18446744069414584321/\U64 p1/\U64 p2)->∀r0:Int,pw p1 p2=r0-> 
(p0=18446744069414584321)/\((!true)=true->
 0=r0)/\
((!true)=false->
(p0≠0)/\∃(I1:Int->Int->Int->Prop) (M1:Int->Int->Int->Nat),I1 (Int.tmod p1 p0) p2 1/\∀(b1 f1 i1:Int),(I1 b1 f1 i1->
(decide (0<f1)=true->
 ∀J1:Int->Prop,(∀(k1:Int),
((p0=18446744069414584321/\U64 b1/\U64 b1)/\I1 (b1*b1%18446744069414584321) (u64.wrap (Int.tdiv f1 2)) k1/\M1 (b1*b1%18446744069414584321) (u64.wrap (Int.tdiv f1 2)) k1<M1 b1 f1 i1)->J1 k1)->
(((Int.tmod f1 2)==1)=true->
(p0=18446744069414584321/\U64 i1/\U64 b1)/\J1 (i1*b1%18446744069414584321))/\
(((Int.tmod f1 2)==1)=false->
 J1 i1))/\
(decide (0<f1)=false->
 i1=r0)))) (by kernel_rfl)<|by
 rintro p0 p1 p2 h _ rfl
 obtain⟨rfl,h1,h2⟩:=h
 refine⟨rfl,fun h=>by simp at h,fun _=>⟨by omega,?_⟩⟩
 rw[tmod_nn _ _ h1.1]
 refine⟨fun a e r=>(0<=a/\a<18446744069414584321)/\U64 e/\(0<=r/\r<18446744069414584321)/\(r*a^e.toNat)%18446744069414584321=pw p1 p2,fun a e r=>e.toNat,⟨by omega,h2,by omega,by rw[Int.one_mul,k7d];rfl⟩,?_⟩
 rintro a e r ⟨ha,he,hr,hv⟩
 have hpow:∀k:Nat,a^(2*k)=(a*a)^k:=fun k=>by rw[Int.pow_mul];congr 1;rw[Int.pow_succ,Int.pow_succ,Int.pow_zero,Int.one_mul]
 refine⟨fun h J1 j=> ?_,fun h=> ?_⟩
 ·have h:=of_decide_eq_true h
  have jj:∀r',(0<=r'/\r' <18446744069414584321)->(r' *(a*a)^(e/2).toNat)%18446744069414584321=pw p1 p2->J1 r' :=by
   intro r' hr' hv'
   have hm:0<=a*a%18446744069414584321/\a*a%18446744069414584321<18446744069414584321:=⟨Int.emod_nonneg _ (by omega),Int.emod_lt_of_pos _ (by omega)⟩
   refine j _ ⟨⟨rfl,by omega,by omega⟩,?_⟩
   rw[tdiv_nn _ _ he.1,wu (e/2) (by omega) (by omega)]
   refine⟨⟨hm,⟨by omega,by omega⟩,hr',?_⟩,by(dsimp only;omega)⟩
   rw[<-hv',Int.mul_emod,Int.mul_emod r' ((a*a)^_),k7d]
  rw[tmod_nn _ _ he.1]
  refine⟨fun h1=>⟨⟨rfl,by omega,by omega⟩,?_⟩,fun h1=> ?_⟩
  ·have h1:e%2=1:=by simpa using h1
   refine jj _ ⟨Int.emod_nonneg _ (by omega),Int.emod_lt_of_pos _ (by omega)⟩ ?_
   rw[<-hv,show e.toNat=2*(e/2).toNat+1 by omega,Int.pow_succ,hpow,Int.mul_emod,Int.emod_emod_of_dvd _ (Int.dvd_refl _),<-Int.mul_emod]
   congr 1
   grind
  ·have h1:¬e%2=1:=by simpa using h1
   refine jj _ hr ?_
   rw[<-hv,<-hpow,show e.toNat=2*(e/2).toNat by omega]
 ·have h:¬0<e:=of_decide_eq_false h
  rw[show e.toNat=0 by omega,Int.pow_zero,Int.mul_one,Int.emod_eq_of_lt hr.1 hr.2]at hv
  exact hv
noncomputable def kam:Con TB.den:= .gp 112 [yqu,yqi,yqi] [yqu] [] fun(p0 p1 p2:Int)=>(p0=18446744069414584321/\(0<=p1/\p1<8)/\0<=p2/\p2<3,(rc p1 p2:Int),())
theorem kb3:kam.Ok Tryz.prog TB:=qrv Bs Tryz.func112 .no (k1o.c c0) (Q:=∀(p0 p1 p2:Int),(p0=18446744069414584321/\(0<=p1/\p1<8)/\0<=p2/\p2<3)->∀r0:Int,rc p1 p2=r0-> 
(p0=18446744069414584321)/\((!true)=true->
 0=r0)/\
((!true)=false->
(decide (p1<0)=true->
 0=r0)/\
(decide (p1<0)=false->
(decide (7<p1)=true->
 0=r0)/\
(decide (7<p1)=false->
(decide (p2<0)=true->
 0=r0)/\
(decide (p2<0)=false->
(decide (2<p2)=true->
 0=r0)/\
(decide (2<p2)=false->
 let v1:Int:=i64.wrap ((i64.wrap (3*p1))+p2)
 let v2:Int:=u64.wrap (i64.wrap (v1+1))
 let v3:Int:=u64.wrap (v2*11400714819323198485)
(p0≠0)/\Int.tmod v3 p0=r0)))))) (by kernel_rfl)<|by
 rintro p0 p1 p2 h _ rfl
 obtain⟨rfl,h1,h2⟩:=h
 refine⟨rfl,fun h=>by simp at h,fun _=>⟨fun h=> ?_,fun _=>⟨fun h=> ?_,fun _=>⟨fun h=> ?_,fun _=>⟨fun h=> ?_,fun _=> ?_⟩⟩⟩⟩⟩
 ·simp at h;omega
 ·simp at h;omega
 ·simp at h;omega
 ·simp at h;omega
 ·simp only[]
  rw[wi (3*p1) (by omega) (by omega),wi (3*p1+p2) (by omega) (by omega),wi (3*p1+p2+1) (by omega) (by omega),wu (3*p1+p2+1) (by omega) (by omega),u64w]
  exact⟨by omega,by rw[tmod_nn _ _ (by omega)];rfl⟩
noncomputable def khi:Con TB.den:= .gp 123 [yqu,.sl yqu] [yqu] [] fun(p0:Int) (p1:List Int)=>(p0=18446744069414584321/\Us p1/\p1.length<=9223372036854775807,(p1.foldl (fun s x=>(s+x)%18446744069414584321) 0:Int),())
theorem ki6:khi.Ok Tryz.prog TB:=qrv Bs Tryz.func123 (.r 1 (.nd [] (.r 0 (.lp [] ⟨[],[],[5,6],[.one (zqu),.one (zqi)],[]⟩ .no)) [] .no)) (k4v.c c0) (Q:=∀(p0:Int) (p1:List Int),(p0=18446744069414584321/\Us p1/\p1.length<=9223372036854775807)->∀r0:Int,(p1.foldl (fun s x=>(s+x)%18446744069414584321) 0)=r0-> 
 ∃(I1:Int->Int->Prop) (M1:Int->Int->Nat),I1 0 0/\∀(b1 f1:Int),(I1 b1 f1->
(decide (f1<(p1.length:Int))=true->
(0<=f1)/\f1<(p1.length:Int)/\(p0=18446744069414584321/\U64 b1/\U64 (ix p1 f1))/\let r1:Int:=((b1+(ix p1 f1))%18446744069414584321)
 I1 r1 (i64.wrap (f1+1))/\M1 r1 (i64.wrap (f1+1))<M1 b1 f1)/\
(decide (f1<(p1.length:Int))=false->
 b1=r0))) (by kernel_rfl)<|by
 rintro p0 p1 h _ rfl
 obtain⟨rfl,h1,h2⟩:=h
 refine(⟨(fun s i=>FoldI (fun s x=>(s+x)%18446744069414584321) 0 p1 i s/\U64 s),(fun s i=>(p1.length-i).toNat),⟨FoldI.start,by omega⟩,?_⟩)
 rintro s i ⟨hi,hs⟩
 refine⟨fun hh=> ?_,fun hh=>hi.done (of_decide_eq_false hh)⟩
 have hh:=of_decide_eq_true hh
 have hx:=h1 _ (ix_mem p1 i hi.1 hh)
 have nx:=hi.next hh (by omega) rfl
 exact⟨hi.1,hh,⟨rfl,hs,hx⟩,⟨nx.1,by omega⟩,nx.2⟩
noncomputable def khm:Con TB.den:= .gp 114 [yqu,.st 5] [.st 5] [] fun(p0:Int) (p1:wc)=>(p0=18446744069414584321/\S3 p1,(mixS p1:wc),())
theorem kic:khm.Ok Tryz.prog TB:=qrv Bs Tryz.func114 (.r 2 (.nd [] (.r 0 (.lp [] ⟨[3],[.cells [zqu,zqu,zqu]],[7],[.one (zqi)],[]⟩ .no)) [] .no)) (ki6.c (k4v.c c0)) (Q:=∀(p0:Int) (p1:wc),(p0=18446744069414584321/\S3 p1)->∀r0:wc,mixS p1=r0-> 
(p0=18446744069414584321/\Us [p1.a0,p1.a1,p1.a2]/\[p1.a0,p1.a1,p1.a2].length<=9223372036854775807)/\let r1:Int:=([p1.a0,p1.a1,p1.a2].foldl (fun s x=>(s+x)%18446744069414584321) 0)
 ∃(I1:Int->Int->Int->Int->Prop) (M1:Int->Int->Int->Int->Nat),I1 0 0 0 0/\∀(b1 f1 i1 k1:Int),(I1 b1 f1 i1 k1->
(decide (b1<3)=true->
(0<=b1/\b1<(3:Int))/\(0<=b1/\b1<(3:Int))/\(p0=18446744069414584321/\U64 (ix [p1.a0,p1.a1,p1.a2] b1)/\U64 r1)/\let r2:Int:=(((ix [p1.a0,p1.a1,p1.a2] b1)+r1)%18446744069414584321)
(0<=b1/\b1<(3:Int))/\(0<=b1/\b1<(3:Int))/\I1 (i64.wrap (b1+1)) (bif decide (b1=(0:Int))then r2 else f1) (bif decide (b1=(1:Int))then r2 else i1) (bif decide (b1=(2:Int))then r2 else k1)/\M1 (i64.wrap (b1+1)) (bif decide (b1=(0:Int))then r2 else f1) (bif decide (b1=(1:Int))then r2 else i1) (bif decide (b1=(2:Int))then r2 else k1)<M1 b1 f1 i1 k1)/\
(decide (b1<3)=false->
 f1=r0.a0/\i1=r0.a1/\k1=r0.a2))) (by kernel_rfl)<|by
 rintro p0 p1 h _ rfl
 obtain⟨rfl,h0,h1,h2⟩:=h
 have e:[p1.a0,p1.a1,p1.a2].foldl (fun s x=>(s+x)%18446744069414584321) 0=((p1.a0+p1.a1)%18446744069414584321+p1.a2)%18446744069414584321:=by
  show(((0+p1.a0)%18446744069414584321+p1.a1)%18446744069414584321+p1.a2)%18446744069414584321=_
  omega
 refine⟨⟨rfl,?_,by simp⟩,?_⟩
 ·intro x hx
  simp only[List.mem_cons,List.not_mem_nil,or_false]at hx
  rcases hx with rfl|rfl|rfl
  ·exact h0
  ·exact h1
  ·exact h2
 rw[e]
 have hu:U64 (((p1.a0+p1.a1)%18446744069414584321+p1.a2)%18446744069414584321):=⟨by omega,by omega⟩
 generalize hg:((p1.a0+p1.a1)%18446744069414584321+p1.a2)%18446744069414584321=t at *
 refine⟨(fun i x y z=>(i=0)∨(i=1/\x=(p1.a0+t)%18446744069414584321)∨(i=2/\x=(p1.a0+t)%18446744069414584321/\y=(p1.a1+t)%18446744069414584321)∨(i=3/\x=(p1.a0+t)%18446744069414584321/\y=(p1.a1+t)%18446744069414584321/\z=(p1.a2+t)%18446744069414584321)),(fun i _ _ _=>(3-i).toNat),(.inl rfl),?_⟩
 intro i x y z hi
 refine⟨fun hh=> ?_,fun hh=> ?_⟩
 ·have hh:=of_decide_eq_true hh
  rcases hi with rfl|⟨rfl,rfl⟩|⟨rfl,rfl,rfl⟩|⟨rfl,_⟩
  ·exact⟨by omega,by omega,⟨rfl,h0,hu⟩,by omega,by omega,.inr (.inl ⟨rfl,rfl⟩),by(dsimp only;decide)⟩
  ·exact⟨by omega,by omega,⟨rfl,h1,hu⟩,by omega,by omega,.inr (.inr (.inl ⟨rfl,rfl,rfl⟩)),by(dsimp only;decide)⟩
  ·exact⟨by omega,by omega,⟨rfl,h2,hu⟩,by omega,by omega,.inr (.inr (.inr ⟨rfl,rfl,rfl,rfl⟩)),by(dsimp only;decide)⟩
  ·omega
 ·have hh:=of_decide_eq_false hh
  rcases hi with rfl|⟨rfl,rfl⟩|⟨rfl,rfl,rfl⟩|⟨rfl,rfl,rfl,rfl⟩
  ·omega
  ·omega
  ·omega
  ·unfold mixS
   rw[hg]
   exact⟨rfl,rfl,rfl⟩
noncomputable def kbw:Con TB.den:= .gp 96 [yqu,.st 5] [.st 5] [] fun(p0:Int) (p1:wc)=>(p0=18446744069414584321/\S3 p1,(permS p1:wc),())
theorem kce:kbw.Ok Tryz.prog TB:=qrv Bs Tryz.func96 (.r 1 (.nd [] (.r 0 (.lp [] ⟨[0],[.cells [zqu,zqu,zqu]],[5],[.one (zqi)],[]⟩ (.r 0 (.nd [] (.nd [] (.r 0 (.lp [] ⟨[0],[.cells [zqu,zqu,zqu]],[6],[.one (zqi)],[]⟩ .no)) [] .no) [] .no)))) [] .no)) (k1o.c (kb3.c (k4v.c (kbt.c (kim.c (kic.c c0)))))) (Q:=∀(p0:Int) (p1:wc),(p0=18446744069414584321/\S3 p1)->∀r0:wc,permS p1=r0-> 
(p0=18446744069414584321)/\((!true)=true->
 0=r0.a0/\0=r0.a1/\0=r0.a2)/\
((!true)=false->
 ∃(I1:Int->Int->Int->Int->Prop) (M1:Int->Int->Int->Int->Nat),I1 0 p1.a0 p1.a1 p1.a2/\∀(b1 f1 i1 k1:Int),(I1 b1 f1 i1 k1->
(decide (b1<8)=true->
 ∃(I2:Int->Int->Int->Int->Prop) (M2:Int->Int->Int->Int->Nat),I2 0 f1 i1 k1/\∀(l1 m1 n1 o1:Int),(I2 l1 m1 n1 o1->
(decide (l1<3)=true->
(0<=l1/\l1<(3:Int))/\(0<=l1/\l1<(3:Int))/\(p0=18446744069414584321/\(0<=b1/\b1<8)/\0<=l1/\l1<3)/\(p0=18446744069414584321/\U64 (ix [m1,n1,o1] l1)/\U64 (rc b1 l1))/\let r1:Int:=(((ix [m1,n1,o1] l1)+(rc b1 l1))%18446744069414584321)
(p0=18446744069414584321)/\(p0=18446744069414584321/\U64 r1/\U64 (7:Int))/\(0<=l1/\l1<(3:Int))/\(0<=l1/\l1<(3:Int))/\I2 (i64.wrap (l1+1)) (bif decide (l1=(0:Int))then(pw r1 (7:Int))else m1) (bif decide (l1=(1:Int))then(pw r1 (7:Int))else n1) (bif decide (l1=(2:Int))then(pw r1 (7:Int))else o1)/\M2 (i64.wrap (l1+1)) (bif decide (l1=(0:Int))then(pw r1 (7:Int))else m1) (bif decide (l1=(1:Int))then(pw r1 (7:Int))else n1) (bif decide (l1=(2:Int))then(pw r1 (7:Int))else o1)<M2 l1 m1 n1 o1)/\
(decide (l1<3)=false->
(p0=18446744069414584321/\S3 (wc.mk m1 n1 o1))/\I1 (i64.wrap (b1+1)) ((mixS (wc.mk m1 n1 o1)).a0) ((mixS (wc.mk m1 n1 o1)).a1) ((mixS (wc.mk m1 n1 o1)).a2)/\M1 (i64.wrap (b1+1)) ((mixS (wc.mk m1 n1 o1)).a0) ((mixS (wc.mk m1 n1 o1)).a1) ((mixS (wc.mk m1 n1 o1)).a2)<M1 b1 f1 i1 k1)))/\
(decide (b1<8)=false->
 f1=r0.a0/\i1=r0.a1/\k1=r0.a2)))) (by kernel_rfl)<|by
 rintro p0 p1 h _ rfl
 obtain⟨hP,hs⟩:=h
 subst hP
 refine⟨rfl,fun h=>by simp at h,fun _=> ?_⟩
 refine⟨(fun n a b c=>0<=n/\n<=8/\(⟨a,b,c⟩:wc)=rnds n.toNat p1/\S3 ⟨a,b,c⟩),(fun n _ _ _=>(8-n).toNat),⟨by omega,by omega,rfl,hs⟩,?_⟩
 rintro n a b c ⟨g0,g1,g2,g3⟩
 refine⟨fun h=> ?_,fun h=> ?_⟩
 ·have h:=of_decide_eq_true h
  refine⟨(fun i x y z=>(i=0/\x=a/\y=b/\z=c)∨(i=1/\x=pw ((a+rc n 0)%18446744069414584321) 7/\y=b/\z=c)∨(i=2/\x=pw ((a+rc n 0)%18446744069414584321) 7/\y=pw ((b+rc n 1)%18446744069414584321) 7/\z=c)∨(i=3/\x=pw ((a+rc n 0)%18446744069414584321) 7/\y=pw ((b+rc n 1)%18446744069414584321) 7/\z=pw ((c+rc n 2)%18446744069414584321) 7)),(fun i _ _ _=>(3-i).toNat),(.inl ⟨rfl,rfl,rfl,rfl⟩),?_⟩
  intro i x y z hi
  have hrc:∀k,U64 (rc n k):=fun k=>by unfold rc;omega
  have hpw:∀k e,0<=pw k e/\pw k e<18446744069414584321:=fun k e=>⟨Int.emod_nonneg _ (by omega),Int.emod_lt_of_pos _ (by omega)⟩
  obtain⟨h3a,h3b,h3c⟩:=g3
  have u7:U64 7:=by decide
  have hm:∀q:Int,U64 (q%18446744069414584321):=fun q=>⟨Int.emod_nonneg _ (by omega),Int.lt_trans (Int.emod_lt_of_pos _ (by omega)) (by omega)⟩
  refine⟨fun hh=> ?_,fun hh=> ?_⟩
  ·have hh:=of_decide_eq_true hh
   rcases hi with⟨rfl,rfl,rfl,rfl⟩|⟨rfl,rfl,rfl,rfl⟩|⟨rfl,rfl,rfl,rfl⟩|⟨rfl,_⟩
   ·exact⟨by omega,by omega,⟨rfl,by omega,by omega⟩,⟨rfl,h3a,hrc _⟩,rfl,⟨rfl,hm _,u7⟩,by omega,by omega,.inr (.inl ⟨rfl,rfl,rfl,rfl⟩),by(dsimp only;decide)⟩
   ·exact⟨by omega,by omega,⟨rfl,by omega,by omega⟩,⟨rfl,h3b,hrc _⟩,rfl,⟨rfl,hm _,u7⟩,by omega,by omega,.inr (.inr (.inl ⟨rfl,rfl,rfl,rfl⟩)),by(dsimp only;decide)⟩
   ·exact⟨by omega,by omega,⟨rfl,by omega,by omega⟩,⟨rfl,h3c,hrc _⟩,rfl,⟨rfl,hm _,u7⟩,by omega,by omega,.inr (.inr (.inr ⟨rfl,rfl,rfl,rfl⟩)),by(dsimp only;decide)⟩
   ·omega
  ·have hh:=of_decide_eq_false hh
   rcases hi with⟨rfl,_⟩|⟨rfl,_⟩|⟨rfl,_⟩|⟨rfl,rfl,rfl,rfl⟩
   ·omega
   ·omega
   ·omega
   ·have e:rnds (n+1).toNat p1=rnd ⟨a,b,c⟩ n:=by
     rw[show(n+1).toNat=n.toNat+1 by omega]
     show rnd (rnds n.toNat p1) (n.toNat:Int)=_
     rw[<-g2,show(n.toNat:Int)=n by omega]
    have hS:S3 (rnds (n+1).toNat p1):=by
     rw[e]
     unfold rnd mixS S3
     dsimp only
     omega
    have hinc:i64.wrap (n+1)=n+1:=wi _ (by omega) (by omega)
    rw[hinc]
    refine⟨⟨rfl,by unfold S3;have:=hpw ((a+rc n 0)%18446744069414584321) 7;have:=hpw ((b+rc n 1)%18446744069414584321) 7;have:=hpw ((c+rc n 2)%18446744069414584321) 7;dsimp only;omega⟩,(?_:0<=n+1/\n+1<=8/\_/\_),(?_:(8-(n+1)).toNat<(8-n).toNat)⟩
    ·refine⟨by omega,by omega,e.symm,?_⟩
     rw[e]at hS
     exact hS
    ·omega
 ·have h:=of_decide_eq_false h
  rw[show n=8 by omega]at g2
  have g2:(⟨a,b,c⟩:wc)=permS p1:=g2
  rw[<-g2]
  exact⟨rfl,rfl,rfl⟩
noncomputable def kc3:Con TB.den:= .gp 77 [yqu,yqu,.sl yqu] [.st 5] [] fun(p0 p1:Int) (p2:List Int)=>(p0=18446744069414584321/\U64 p1/\Us p2/\p2.length<=1099511627776,(absS p1 p2:wc),())
theorem kdy:kc3.Ok Tryz.prog TB:=qrv Bs Tryz.func77 (.r 1 (.nd [] (.r 0 (.lp [] ⟨[1],[.cells [zqu,zqu,zqu]],[8],[.one (zqi)],[]⟩ (.jn ⟨[],[],[],[],[]⟩ [] .no [] (.nd [] (.jn ⟨[1],[.cells [zqu,zqu,zqu]],[],[],[]⟩ [] .no [] (.jn ⟨[1],[.cells [zqu,zqu,zqu]],[],[],[]⟩ [] .no [] .no)) [] .no)))) [] .no)) (kbm.c (k4v.c (kce.c c0))) (Q:=∀(p0 p1:Int) (p2:List Int),(p0=18446744069414584321/\U64 p1/\Us p2/\p2.length<=1099511627776)->∀r0:wc,absS p1 p2=r0-> 
(p0=18446744069414584321/\U64 p1/\U64 (65536:Int))/\let r1:Int:=(p1*(65536:Int)%18446744069414584321)
(p0=18446744069414584321/\U64 r1/\U64 (u64.wrap (p2.length:Int)))/\let r2:Int:=((r1+(u64.wrap (p2.length:Int)))%18446744069414584321)
 ∃(I1:Int->Int->Int->Int->Prop) (M1:Int->Int->Int->Int->Nat),I1 0 0 0 r2/\∀(b1 f1 i1 k1:Int),(I1 b1 f1 i1 k1->
 ∀J1:Prop,((∀J2:Int->Int->Int->Prop,(∀(l1 m1 n1:Int),
(∀J3:Int->Int->Int->Prop,(∀(o1 q1 s1:Int),
((p0=18446744069414584321/\S3 (wc.mk o1 q1 s1))/\I1 (i64.wrap (b1+2)) ((permS (wc.mk o1 q1 s1)).a0) ((permS (wc.mk o1 q1 s1)).a1) ((permS (wc.mk o1 q1 s1)).a2)/\M1 (i64.wrap (b1+2)) ((permS (wc.mk o1 q1 s1)).a0) ((permS (wc.mk o1 q1 s1)).a1) ((permS (wc.mk o1 q1 s1)).a2)<M1 b1 f1 i1 k1)->J3 o1 q1 s1)->
 let v4:Bool:=decide ((i64.wrap (b1+1))<(p2.length:Int))
(v4=true->
(0<=i64.wrap (b1+1))/\i64.wrap (b1+1)<(p2.length:Int)/\(p0=18446744069414584321/\U64 m1/\U64 (ix p2 (i64.wrap (b1+1))))/\let r5:Int:=((m1+(ix p2 (i64.wrap (b1+1))))%18446744069414584321)
 J3 l1 r5 n1)/\
(v4=false->
 J3 l1 m1 n1))->J2 l1 m1 n1)->
(decide (b1<(p2.length:Int))=true->
(0<=b1)/\b1<(p2.length:Int)/\(p0=18446744069414584321/\U64 f1/\U64 (ix p2 b1))/\let r3:Int:=((f1+(ix p2 b1))%18446744069414584321)
 J2 r3 i1 k1)/\
(decide (b1<(p2.length:Int))=false->
 J2 f1 i1 k1))->J1)->
((b1==0)=true->
 J1)/\
((b1==0)=false->
(decide (b1<(p2.length:Int))=true->
 J1)/\
(decide (b1<(p2.length:Int))=false->
 f1=r0.a0/\i1=r0.a1/\k1=r0.a2)))) (by kernel_rfl)<|by
 rintro p0 p1 p2 h _ rfl
 obtain⟨hP,h1,h2,h3⟩:=h
 subst hP
 have hp:=khl
 have hi:S3 (absI p1 p2):=by unfold absI S3;dsimp only;omega
 have e:u64.wrap (p2.length:Int)=p2.length:=wu _ (by omega) (by omega)
 have em:(p1*65536%18446744069414584321+(p2.length:Int))%18446744069414584321=(absI p1 p2).a2:=rfl
 rw[e]
 refine⟨⟨rfl,h1,by omega⟩,⟨rfl,by omega,by omega⟩,?_⟩
 rw[em]
 refine⟨fun i a b c=>(i=0/\a=0/\b=0/\c=(absI p1 p2).a2)∨(0<i/\i<=p2.length+2/\absL (p2.drop i.toNat) ⟨a,b,c⟩=absS p1 p2/\S3 ⟨a,b,c⟩),fun i _ _ _=>(p2.length+4-i).toNat,.inl ⟨rfl,rfl,rfl,rfl⟩,?_⟩
 intro i a b c hg J1 j1
 have body:0<=i->i<=p2.length->(i<p2.length->absL (p2.drop i.toNat) ⟨a,b,c⟩=absS p1 p2)->(¬i<p2.length->permS ⟨a,b,c⟩=absS p1 p2)->S3 ⟨a,b,c⟩->J1:=by
  intro g0 g1 hne hnil hS
  obtain⟨h3a,h3b,h3c⟩:=hS
  refine j1 fun J2 j2=> ?_
  have hJ2:∀x y z,S3 ⟨x,y,z⟩->(i+1<p2.length->absL (p2.drop (i+2).toNat) (permS ⟨x,(y+ix p2 (i+1))%18446744069414584321,z⟩)=absS p1 p2)->(¬i+1<p2.length->permS ⟨x,y,z⟩=absS p1 p2)->J2 x y z:=by
   intro x y z hS k1 k2
   refine j2 _ _ _ fun J3 j3=> ?_
   have hJ3:∀x y z:Int,S3 ⟨x,y,z⟩->absL (p2.drop (i+2).toNat) (permS ⟨x,y,z⟩)=absS p1 p2->J3 x y z:=by
    intro x y z hS k
    refine j3 _ _ _ ?_
    rw[wi (i+2) (by omega) (by omega)]
    exact⟨⟨rfl,hS⟩,.inr ⟨(by omega:0<i+2),(by omega:i+2<=p2.length+2),k,hp _⟩,by(dsimp only;omega)⟩
   rw[wi (i+1) (by omega) (by omega)]
   refine⟨fun h5=> ?_,fun h5=> ?_⟩
   ·have h5:=of_decide_eq_true h5
    have hy:=h2 _ (ix_mem p2 (i+1) (by omega) h5)
    exact⟨by omega,h5,⟨rfl,hS.2.1,hy⟩,hJ3 _ _ _ (S3m (by have:=hS.1;omega) (by omega) hS.2.2) (k1 h5)⟩
   ·have ed2:p2.drop (i+2).toNat=[]:=List.drop_eq_nil_of_le (by have:=of_decide_eq_false h5;omega)
    exact hJ3 _ _ _ hS (by rw[ed2];exact k2 (of_decide_eq_false h5))
  refine⟨fun hh=> ?_,fun hh=> ?_⟩
  ·have hh:=of_decide_eq_true hh
   have hx:=h2 _ (ix_mem p2 i g0 hh)
   have g2:=hne hh
   rw[drop_ix p2 i g0 hh]at g2
   refine⟨g0,hh,⟨rfl,h3a,hx⟩,hJ2 _ _ _ (S3m (by omega) h3b h3c) (fun h5=> ?_) (fun h5=> ?_)⟩
   ·rw[drop_ix p2 (i+1) (by omega) h5,show i+1+1=i+2 by omega]at g2
    exact g2
   ·rw[show p2.drop (i+1).toNat=[]from List.drop_eq_nil_of_le (by omega)]at g2
    exact g2
  ·have hh:=of_decide_eq_false hh
   exact hJ2 _ _ _ ⟨h3a,h3b,h3c⟩ (fun h5=>by omega) (fun _=>hnil hh)
 refine⟨fun h0=> ?_,fun h0=>⟨fun hh=> ?_,fun hh=> ?_⟩⟩
 ·have h0:i=0:=by simpa using h0
  rcases hg with⟨_,rfl,rfl,rfl⟩|⟨hp0,_⟩
  ·subst h0
   refine body (by omega) (by omega) (fun hl=> ?_) (fun hl=> ?_) hi
   ·have hne:p2≠[]:=by rintro rfl;simp at hl
    unfold absS
    rw[if_neg hne]
    rfl
   ·have hnil:p2=[]:=List.eq_nil_of_length_eq_zero (by omega)
    unfold absS
    rw[if_pos hnil]
    rfl
  ·omega
 ·have h0:¬i=0:=by simpa using h0
  have hh:=of_decide_eq_true hh
  rcases hg with⟨h1,_⟩|⟨g0,g1,g2,g3⟩
  ·omega
  ·exact body (by omega) (by omega) (fun _=>g2) (fun hl=>absurd hh hl) g3
 ·have h0:¬i=0:=by simpa using h0
  have hh:=of_decide_eq_false hh
  rcases hg with⟨h1,_⟩|⟨g0,g1,g2,g3⟩
  ·omega
  ·rw[List.drop_eq_nil_of_le (by omega)]at g2
   have hv:(⟨a,b,c⟩:wc)=absS p1 p2:=g2
   rw[<-hv]
   exact⟨rfl,rfl,rfl⟩
noncomputable def ket:Con TB.den:= .gp 55 [yqu,yqu,.sl yqu] [yqu] [] fun(p0 p1:Int) (p2:List Int)=>(p0=18446744069414584321/\U64 p1/\Us p2/\p2.length<=1099511627776,(hashS p1 p2:Int),())
theorem khy:ket.Ok Tryz.prog TB:=qrv Bs Tryz.func55 .no (k1o.c (kdy.c c0)) (Q:=∀(p0 p1:Int) (p2:List Int),(p0=18446744069414584321/\U64 p1/\Us p2/\p2.length<=1099511627776)->∀r0:Int,hashS p1 p2=r0-> 
(p0=18446744069414584321)/\((!true)=true->
 0=r0)/\
((!true)=false->
(p0=18446744069414584321/\U64 p1/\Us p2/\p2.length<=1099511627776)/\(absS p1 p2).a0=r0)) (by kernel_rfl)<|by
 rintro p0 p1 p2 h _ rfl
 obtain⟨hP,h1,h2,h3⟩:=h
 subst hP
 exact⟨rfl,fun h=>by simp at h,fun _=>⟨⟨rfl,h1,h2,h3⟩,rfl⟩⟩
noncomputable def kgc:Con TB.den:= .gp 56 [.sl yqb] [.sl yqu] [] fun(p0:List Int)=>(By p0/\p0.length<=1099511627776,(packS p0:List Int),())
theorem khb:kgc.Ok Tryz.prog TB:=qrx Bs [10,21,22] Tryz.func56 (.r 1 (.nd [] (.r 0 (.lp [] ⟨[],[.vec yqu],[3,4],[.one (.row 0),.one (zqi)],[0]⟩ (.r 0 (.nd [] (.jn ⟨[],[.vec yqu],[3],[.one (.row 0)],[0,1]⟩ [] .no [] (.r 0 (.nd [] (.r 0 (.lp [] ⟨[],[],[5,6],[.one (zqu),.one (zqi)],[]⟩ .no)) [] .no))) [] .no)))) [] (.r 0 (.rt [.frz 1 [2]])))) x0 c0 (Q:=∀(p0:List Int),(By p0/\p0.length<=1099511627776)->∀r0:List Int,packS p0=r0-> 
([u64.wrap (p0.length:Int)].length=[u64.wrap (p0.length:Int)].length)/\∃(I1:Int->(List Int)->Prop) (M1:Int->(List Int)->Nat),I1 0 [u64.wrap (p0.length:Int)]/\∀(b1:Int) (f1:List Int),(I1 b1 f1->
(decide (b1<(p0.length:Int))=true->
 ∀J1:(List Int)->Prop,(∀(i1:List Int),
((0<=b1)/\b1<(p0.length:Int)/\∃(I2:Int->Int->Prop) (M2:Int->Int->Nat),I2 (u64.wrap (ix p0 b1)) 0/\∀(k1 l1:Int),(I2 k1 l1->
(decide (l1<(Int.tmod b1 7))=true->
 I2 (u64.wrap (k1*256)) (i64.wrap (l1+1))/\M2 (u64.wrap (k1*256)) (i64.wrap (l1+1))<M2 k1 l1)/\
(decide (l1<(Int.tmod b1 7))=false->
(0<=i64.wrap ((i1.length:Int)-1)/\i64.wrap ((i1.length:Int)-1)<(i1.length:Int))/\(0<=i64.wrap ((i1.length:Int)-1)/\i64.wrap ((i1.length:Int)-1)<(i1.length:Int))/\let v1:Int:=ix i1 (i64.wrap ((i1.length:Int)-1))
(0<=i64.wrap ((i1.length:Int)-1)/\i64.wrap ((i1.length:Int)-1)<(i1.length:Int))/\(0<=i64.wrap ((i1.length:Int)-1)/\i64.wrap ((i1.length:Int)-1)<(i1.length:Int))/\(i1.length=(i1.set (i64.wrap ((i1.length:Int)-1)).toNat (u64.wrap (v1+k1))).length)/\I1 (i64.wrap (b1+1)) (i1.set (i64.wrap ((i1.length:Int)-1)).toNat (u64.wrap (v1+k1)))/\M1 (i64.wrap (b1+1)) (i1.set (i64.wrap ((i1.length:Int)-1)).toNat (u64.wrap (v1+k1)))<M1 b1 f1)))->J1 i1)->
(((Int.tmod b1 7)==0)=true->
 f1.length=f1.length/\[0].length=[0].length/\(f1.length+[0].length)*8<=140737488355328/\f1.length+[0].length<=maxLen/\((f1++[0]).length=(f1++[0]).length)/\J1 (f1++[0]))/\
(((Int.tmod b1 7)==0)=false->
(f1.length=f1.length)/\J1 f1))/\
(decide (b1<(p0.length:Int))=false->
(f1.length=f1.length)/\f1=r0))) (by kernel_rfl)<|by
 rintro p0 h _ rfl
 obtain⟨hb,hl⟩:=h
 have e0:u64.wrap (p0.length:Int)=p0.length:=wu _ (by omega) (by omega)
 rw[e0]
 refine⟨rfl,?_⟩
 refine⟨(fun i g=>0<=i/\i<=p0.length/\g=(p0.length:Int)::pkI p0 i.toNat),(fun i _=>(p0.length-i).toNat),⟨by omega,by omega,by rw[show(0:Int).toNat=0 from rfl,kl2]⟩,?_⟩
 rintro i g ⟨g0,g1,rfl⟩
 have hlen:=ki3 p0 i.toNat
 have em:Int.tmod i 7=i%7:=tmod_nn _ _ g0
 refine⟨fun hh J1 kJ1=> ?_,fun hh=> ?_⟩
 ·have hh:=of_decide_eq_true hh
  have rest:J1 ((p0.length:Int)::(pkF p0 i.toNat++[if i.toNat%7=0 then 0 else pkV p0 i.toNat])):=by
   have hb1:=hb _ (ix_mem p0 i g0 hh)
   have hF:=kaz p0 i.toNat
   refine kJ1 _ ⟨g0,hh,?_⟩
   rw[wu (ix p0 i) (by omega) (by omega)]
   have hp6:∀k:Nat,k<=6->(256:Int)^k<=281474976710656:=fun k hk=>k5y (m:=6) hk
   refine⟨(fun n k=>0<=k/\k<=i%7/\n=256^k.toNat*ix p0 i),(fun _ k=>(i%7-k).toNat),⟨by omega,by omega,by rw[show(0:Int).toNat=0 from rfl,Int.pow_zero,Int.one_mul]⟩,?_⟩
   rintro n k ⟨k0,k1,rfl⟩
   have hpk:=hp6 k.toNat (by omega)
   have hpp:=k2s k.toNat
   have hb2:256^k.toNat*ix p0 i<=281474976710656*255:=Int.mul_le_mul hpk (by omega) (by omega) (by omega)
   have hb3:0<=256^k.toNat*ix p0 i:=Int.mul_nonneg (by omega) (by omega)
   refine⟨fun h2=> ?_,fun h2=> ?_⟩
   ·have h2:=of_decide_eq_true h2
    rw[em]at h2
    rw[wi (k+1) (by omega) (by omega),wu _ (by omega) (by omega)]
    refine⟨⟨by omega,by omega,?_⟩,by(dsimp only;omega)⟩
    rw[show(k+1).toNat=k.toNat+1 by omega,k2x,Int.mul_comm,Int.mul_assoc]
   ·have h2:=of_decide_eq_false h2
    rw[em]at h2
    have hk:k.toNat=i.toNat%7:=by omega
    have hl1:(((p0.length:Int)::(pkF p0 i.toNat++[if i.toNat%7=0 then 0 else pkV p0 i.toNat])).length:Int)=(pkF p0 i.toNat).length+2:=by simp;omega
    have hix:ix ((p0.length:Int)::(pkF p0 i.toNat++[if i.toNat%7=0 then 0 else pkV p0 i.toNat])) ((pkF p0 i.toNat).length+1)=if i.toNat%7=0 then 0 else pkV p0 i.toNat:=by
     rw[ix_nat _ _ (by omega) (by omega)]
     have:((pkF p0 i.toNat).length+1:Int).toNat=(pkF p0 i.toNat).length+1:=by omega
     simp[this]
    have hv:=kjj hb i.toNat
    have hv2:(256:Int)^(i.toNat%7)<=281474976710656:=hp6 _ (by omega)
    rw[hl1,show((pkF p0 i.toNat).length:Int)+2-1=(pkF p0 i.toNat).length+1 by omega,wi ((pkF p0 i.toNat).length+1) (by omega) (by omega)]
    dsimp only
    have e5:((pkF p0 i.toNat).length+1:Int).toNat=(pkF p0 i.toNat).length+1:=by omega
    have e6:(i+1).toNat=i.toNat+1:=by omega
    refine⟨⟨by omega,by omega⟩,⟨by omega,by omega⟩,⟨by omega,by omega⟩,⟨by omega,by omega⟩,by rw[List.length_set],?_⟩
    rw[hix,wi (i+1) (by omega) (by omega),wu _ (by split<;>omega) (by split<;>omega)]
    refine⟨⟨by omega,by omega,?_⟩,by omega⟩
    rw[e6,kkm (by omega),e5,List.set_cons_succ,kl4,hk,ix_nat p0 i g0 hh]
  refine⟨fun h7=> ?_,fun h7=> ?_⟩
  ·have h7:i%7=0:=by rw[em]at h7;simpa using h7
   have e1:pkI p0 i.toNat=pkF p0 i.toNat:=if_pos (by omega)
   have e2:(if i.toNat%7=0 then(0:Int)else pkV p0 i.toNat)=0:=if_pos (by omega)
   rw[e2]at rest
   refine⟨rfl,rfl,by simp;omega,by simp;unfold maxLen;omega,rfl,?_⟩
   rw[List.cons_append,e1]
   exact rest
  ·have h7:¬i%7=0:=by rw[em]at h7;simpa using h7
   have e1:pkI p0 i.toNat=pkF p0 i.toNat++[pkV p0 i.toNat]:=if_neg (by omega)
   have e2:(if i.toNat%7=0 then(0:Int)else pkV p0 i.toNat)=pkV p0 i.toNat:=if_neg (by omega)
   rw[e2]at rest
   refine⟨rfl,?_⟩
   rw[e1]
   exact rest
 ·have hh:=of_decide_eq_false hh
  refine⟨rfl,?_⟩
  rw[show i.toNat=p0.length by omega,kkn]
  rfl
noncomputable def k94:Con TB.den:= .gp 39 [yqu,.sl yqb] [yqu] [] fun(p0:Int) (p1:List Int)=>(U64 p0/\By p1/\p1.length<=1099511627775,(hashB p0 p1:Int),())
theorem ka1:k94.Ok Tryz.prog TB:=qrv Bs Tryz.func39 .no (khb.c (khy.c c0)) (Q:=∀(p0:Int) (p1:List Int),(U64 p0/\By p1/\p1.length<=1099511627775)->∀r0:Int,hashB p0 p1=r0-> 
(By p1/\p1.length<=1099511627776)/\((18446744069414584321:Int)=18446744069414584321/\U64 p0/\Us (packS p1)/\(packS p1).length<=1099511627776)/\(hashS p0 (packS p1))=r0) (by kernel_rfl)<|by
 rintro p0 p1 h _ rfl
 obtain⟨h1,h2,h3⟩:=h
 refine⟨⟨h2,by omega⟩,⟨rfl,h1,?_,?_⟩,rfl⟩
 ·intro x hx
  rcases List.mem_cons.1 hx with rfl|hx
  ·omega
  ·exact kai _ _ h2 x hx
 ·have:=k3h p1.length p1
  simp only[packS,List.length_cons]
  omega
noncomputable def ka7:Con TB.den:= .g ⟨57,[.one (zqu),.one (zqi)],[],(.one (.one (.own 0))),[.tip yqb],false⟩ [yqu,yqi] [.sl yqb] [] fun(p0 p1:Int)=>(U64 p0/\0<=p1/\p1<=8,(dig p1.toNat p0:List Int),())
theorem k5u:ka7.Ok Tryz.prog TB:=prv Bs Tryz.func57 (.r 1 (.nd [] (.r 0 (.lp [.tok 5 yqb] ⟨[0],[.tip yqb],[0,5,6],[.one (zqu),.one (.own 0),.one (zqi)],[]⟩ .no)) [] .no)) c0 (Q:=∀(p0 p1:Int),(U64 p0/\0<=p1/\p1<=8)->∀e0:List Int,dig p1.toNat p0=e0-> 
(([]:List Int)=([]:List Int))/\∃(I1:Int->Int->(List Int)->Prop) (M1:Int->Int->(List Int)->Nat),I1 p0 0 ([]:List Int)/\∀(b1 f1:Int) (i1:List Int),(I1 b1 f1 i1->
(decide (f1<p1)=true->
 i1.length=i1.length/\(i1.length+[IntKind.u8.wrap (Int.tmod b1 256)].length)*1<=140737488355328/\i1.length+[IntKind.u8.wrap (Int.tmod b1 256)].length<=maxLen/\let v1:List Int:=i1++[IntKind.u8.wrap (Int.tmod b1 256)]
(v1=v1)/\I1 (u64.wrap (Int.tdiv b1 256)) (i64.wrap (f1+1)) v1/\M1 (u64.wrap (Int.tdiv b1 256)) (i64.wrap (f1+1)) v1<M1 b1 f1 i1)/\
(decide (f1<p1)=false->
(i1=i1)/\i1=e0))) (by kernel_rfl)<|by
 rintro p0 p1 h _ rfl
 obtain⟨h1,h2,h3⟩:=h
 refine⟨rfl,⟨(fun n i g=>0<=i/\i<=p1/\U64 n/\n=p0/256^i.toNat/\g=dig i.toNat p0),(fun _ i _=>(p1-i).toNat),⟨by omega,by omega,h1,by simp,by simp[dig]⟩,?_⟩⟩
 rintro n i g ⟨g0,g1,g2,g3,rfl⟩
 refine⟨fun h=> ?_,fun h=> ?_⟩
 ·have h:=of_decide_eq_true h
  rw[inc i p1 g0 h (by omega),tmod_nn _ _ g2.1,tdiv_nn _ _ g2.1,u8w,wu (n/256) (by omega) (by omega)]
  refine⟨rfl,?_,?_,rfl,⟨by omega,by omega,⟨by omega,by omega⟩,?_,?_⟩,by(dsimp only;omega)⟩
  ·simp;omega
  ·simp;unfold maxLen;omega
  ·rw[g3,show(i+1).toNat=i.toNat+1 by omega,Int.ediv_ediv_of_nonneg (Int.le_of_lt (k2s _)),Int.pow_succ]
  ·rw[show(i+1).toNat=i.toNat+1 by omega,k6y,g3]
   congr 2
   omega
 ·have h:=of_decide_eq_false h
  exact⟨rfl,by rw[show i=p1 by omega]⟩
noncomputable def kdv:Con TB.den:= .t ⟨59,[.one (zqi)],[],(.one (.one (.own 0))),[.tip yqb],false⟩ [yqi] [.sl yqb] [] fun(p0:Int)=>((dig 4 (len4 p0):List Int),())
theorem k8w:kdv.Ok Tryz.prog TB:=ptv Bs Tryz.func59 (.r 0 (.jn ⟨[],[],[0],[.one (zqi)],[]⟩ [] .no [] .no)) (k5u.c c0) (Q:=∀(p0:Int),∀e0:List Int,(dig 4 (len4 p0))=e0-> 
 ∀J1:Int->Prop,(∀(b1:Int),
((U64 (u64.wrap b1)/\0<=(4:Int)/\(4:Int)<=8)/\let r1:List Int:=(dig (4:Int).toNat (u64.wrap b1))
(r1=r1)/\r1=e0)->J1 b1)->
(decide (p0<0)=true->
 J1 0)/\
(decide (p0<0)=false->
(decide (4294967296<=p0)=true->
 J1 0)/\
(decide (4294967296<=p0)=false->
 J1 p0))) (by kernel_rfl)<|by
 rintro p0 _ rfl
 intro J1 j1
 have j:∀n,0<=n->n<=4294967295->len4 p0=n->J1 n:=by
  intro n h0 h1 e
  refine j1 _ ?_
  rw[wu n (by omega) (by omega),e]
  exact⟨⟨⟨h0,by omega⟩,by omega⟩,by trivial,rfl⟩
 refine⟨fun h=>j 0 (by omega) (by omega) ?_,fun h=>⟨fun h' =>j 0 (by omega) (by omega) ?_,fun h' =>j p0 ?_ ?_ ?_⟩⟩
 ·have h:=of_decide_eq_true h;exact if_pos (.inl h)
 ·have h' :=of_decide_eq_true h';exact if_pos (.inr (by omega))
 ·have h:=of_decide_eq_false h;omega
 ·have h' :=of_decide_eq_false h';omega
 ·have h:=of_decide_eq_false h;have h' :=of_decide_eq_false h';exact len4_in ⟨by omega,by omega⟩
noncomputable def kdp:Con TB.den:= .gp 60 [.sl yqb] [.sl yqb] [] fun(p0:List Int)=>(p0.length<=4294967295,(encB p0:List Int),())
theorem kg5:kdp.Ok Tryz.prog TB:=qrv Bs Tryz.func60 .no (k8w.c c0) (Q:=∀(p0:List Int),(p0.length<=4294967295)->∀r0:List Int,encB p0=r0-> 
(dig 4 (len4 (p0.length:Int))).length=(dig 4 (len4 (p0.length:Int))).length/\((dig 4 (len4 (p0.length:Int))).length+p0.length)*1<=140737488355328/\(dig 4 (len4 (p0.length:Int))).length+p0.length<=maxLen/\(dig 4 (len4 (p0.length:Int)))++p0=r0) (by kernel_rfl)<|by
 rintro p0 h _ rfl
 refine⟨by trivial,?_,?_,rfl⟩
 ·simp;omega
 ·simp;unfold maxLen;omega
noncomputable def kc8:Con TB.den:= .gp 57 [yqu,yqi] [.sl yqb] [] fun(p0 p1:Int)=>(U64 p0/\0<=p1/\p1<=8,(dig p1.toNat p0:List Int),())
theorem k7v:kc8.Ok Tryz.prog TB:=qrv Bs Tryz.func57 (.r 1 (.nd [] (.r 0 (.lp [.tok 5 yqb] ⟨[0],[.tip yqb],[0,5,6],[.one (zqu),.one (.own 0),.one (zqi)],[]⟩ .no)) [] .no)) c0 (Q:=∀(p0 p1:Int),(U64 p0/\0<=p1/\p1<=8)->∀r0:List Int,dig p1.toNat p0=r0-> 
(([]:List Int)=([]:List Int))/\∃(I1:Int->Int->(List Int)->Prop) (M1:Int->Int->(List Int)->Nat),I1 p0 0 ([]:List Int)/\∀(b1 f1:Int) (i1:List Int),(I1 b1 f1 i1->
(decide (f1<p1)=true->
 i1.length=i1.length/\(i1.length+[IntKind.u8.wrap (Int.tmod b1 256)].length)*1<=140737488355328/\i1.length+[IntKind.u8.wrap (Int.tmod b1 256)].length<=maxLen/\let v1:List Int:=i1++[IntKind.u8.wrap (Int.tmod b1 256)]
(v1=v1)/\I1 (u64.wrap (Int.tdiv b1 256)) (i64.wrap (f1+1)) v1/\M1 (u64.wrap (Int.tdiv b1 256)) (i64.wrap (f1+1)) v1<M1 b1 f1 i1)/\
(decide (f1<p1)=false->
 i1=r0))) (by kernel_rfl)<|by
 rintro p0 p1 h _ rfl
 obtain⟨h1,h2,h3⟩:=h
 refine⟨rfl,⟨(fun n i g=>0<=i/\i<=p1/\U64 n/\n=p0/256^i.toNat/\g=dig i.toNat p0),(fun _ i _=>(p1-i).toNat),⟨by omega,by omega,h1,by simp,by simp[dig]⟩,?_⟩⟩
 rintro n i g ⟨g0,g1,g2,g3,rfl⟩
 refine⟨fun h=> ?_,fun h=> ?_⟩
 ·have h:=of_decide_eq_true h
  rw[inc i p1 g0 h (by omega),tmod_nn _ _ g2.1,tdiv_nn _ _ g2.1,u8w,wu (n/256) (by omega) (by omega)]
  refine⟨rfl,?_,?_,rfl,⟨by omega,by omega,⟨by omega,by omega⟩,?_,?_⟩,by(dsimp only;omega)⟩
  ·simp;omega
  ·simp;unfold maxLen;omega
  ·rw[g3,show(i+1).toNat=i.toNat+1 by omega,Int.ediv_ediv_of_nonneg (Int.le_of_lt (k2s _)),Int.pow_succ]
  ·rw[show(i+1).toNat=i.toNat+1 by omega,k6y,g3]
   congr 2
   omega
 ·have h:=of_decide_eq_false h
  rw[show i=p1 by omega]
noncomputable def khe:Con TB.den:= .tp 59 [yqi] [.sl yqb] [] fun(p0:Int)=>((dig 4 (len4 p0):List Int),())
theorem ki7:khe.Ok Tryz.prog TB:=qtv Bs Tryz.func59 (.r 0 (.jn ⟨[],[],[0],[.one (zqi)],[]⟩ [] .no [] .no)) (k7v.c c0) (Q:=∀(p0:Int),∀r0:List Int,(dig 4 (len4 p0))=r0-> 
 ∀J1:Int->Prop,(∀(b1:Int),
((U64 (u64.wrap b1)/\0<=(4:Int)/\(4:Int)<=8)/\let r1:List Int:=(dig (4:Int).toNat (u64.wrap b1))
 r1=r0)->J1 b1)->
(decide (p0<0)=true->
 J1 0)/\
(decide (p0<0)=false->
(decide (4294967296<=p0)=true->
 J1 0)/\
(decide (4294967296<=p0)=false->
 J1 p0))) (by kernel_rfl)<|by
 rintro p0 _ rfl
 intro J1 j1
 have j:∀n,0<=n->n<=4294967295->len4 p0=n->J1 n:=by
  intro n h0 h1 e
  refine j1 _ ?_
  rw[wu n (by omega) (by omega),e]
  exact⟨⟨⟨h0,by omega⟩,by omega⟩,rfl⟩
 refine⟨fun h=>j 0 (by omega) (by omega) ?_,fun h=>⟨fun h' =>j 0 (by omega) (by omega) ?_,fun h' =>j p0 ?_ ?_ ?_⟩⟩
 ·have h:=of_decide_eq_true h;exact if_pos (.inl h)
 ·have h' :=of_decide_eq_true h';exact if_pos (.inr (by omega))
 ·have h:=of_decide_eq_false h;omega
 ·have h' :=of_decide_eq_false h';omega
 ·have h:=of_decide_eq_false h;have h' :=of_decide_eq_false h';exact len4_in ⟨by omega,by omega⟩
noncomputable def kfn:Con TB.den:= .gp 58 [.sl yqu] [.sl yqb] [] fun(p0:List Int)=>(Us p0/\p0.length<=4294967295,(encL p0:List Int),())
theorem khu:kfn.Ok Tryz.prog TB:=qrv Bs Tryz.func58 (.r 1 (.nd [] (.r 0 (.lp [] ⟨[0],[.tip yqb],[3,4],[.one (.own 0),.one (zqi)],[]⟩ .no)) [] .no)) (k8w.c (k7v.c c0)) (Q:=∀(p0:List Int),(Us p0/\p0.length<=4294967295)->∀r0:List Int,encL p0=r0-> 
((dig 4 (len4 (p0.length:Int)))=(dig 4 (len4 (p0.length:Int))))/\∃(I1:Int->(List Int)->Prop) (M1:Int->(List Int)->Nat),I1 0 (dig 4 (len4 (p0.length:Int)))/\∀(b1:Int) (f1:List Int),(I1 b1 f1->
(decide (b1<(p0.length:Int))=true->
(0<=b1)/\b1<(p0.length:Int)/\(U64 (ix p0 b1)/\0<=(8:Int)/\(8:Int)<=8)/\f1.length=f1.length/\(f1.length+(dig (8:Int).toNat (ix p0 b1)).length)*1<=140737488355328/\f1.length+(dig (8:Int).toNat (ix p0 b1)).length<=maxLen/\(f1++(dig (8:Int).toNat (ix p0 b1))=f1++(dig (8:Int).toNat (ix p0 b1)))/\I1 (i64.wrap (b1+1)) (f1++(dig (8:Int).toNat (ix p0 b1)))/\M1 (i64.wrap (b1+1)) (f1++(dig (8:Int).toNat (ix p0 b1)))<M1 b1 f1)/\
(decide (b1<(p0.length:Int))=false->
 f1=r0))) (by kernel_rfl)<|by
 rintro p0 h _ rfl
 obtain⟨h1,h2⟩:=h
 refine⟨rfl,⟨(fun i g=>0<=i/\i<=p0.length/\g=dig 4 (len4 p0.length)++(p0.take i.toNat).flatMap (dig 8)),(fun i _=>(p0.length-i).toNat),⟨by omega,by omega,by simp⟩,?_⟩⟩
 rintro i g ⟨g0,g1,rfl⟩
 refine⟨fun h=> ?_,fun h=> ?_⟩
 ·have h:=of_decide_eq_true h
  have hx:=h1 _ (ix_mem p0 i g0 h)
  rw[inc i p0.length g0 h (by omega)]
  have hlen:(dig 4 (len4 p0.length)++(p0.take i.toNat).flatMap (dig 8)).length<=4+8*p0.length:=by simp only[List.length_append,ke,k2f,List.length_take];omega
  refine⟨g0,h,⟨hx,by omega⟩,rfl,?_,?_,rfl,⟨by omega,by omega,?_⟩,by(dsimp only;omega)⟩
  ·rw[ke];omega
  ·rw[ke];unfold maxLen;omega
  ·rw[kb p0 i g0 h,List.flatMap_append,List.append_assoc]
   simp
 ·have h:=of_decide_eq_false h
  rw[List.take_of_length_le (by omega)]
  rfl
noncomputable def keb:Con TB.den:= .gp 40 [.st 1] [.sl yqb] [] fun(p0:wC)=>(TR p0/\TL p0/\p0.wB.length<=1048576/\(∀x∈p0.wB,x.wE.length<=1024),(encT p0 p0.wR:List Int),())
theorem k4x:keb.Ok Tryz.prog TB:=qrv Bs Tryz.func40 (.r 3 (.nd [] (.r 0 (.lp [] ⟨[1],[.tip yqb],[3,4],[.one (.own 0),.one (zqi)],[]⟩ (.r 0 (.nd [] (.r 1 (.nd [] (.r 0 (.lp [] ⟨[1],[.tip yqb],[3,7],[.one (.own 0),.one (zqi)],[]⟩ .no)) [] .no)) [] .no)))) [] (.r 0 (.nd [] (.r 0 (.lp [] ⟨[1],[.tip yqb],[3,9],[.one (.own 0),.one (zqi)],[]⟩ .no)) [] .no)))) (k5u.c (khu.c (ki7.c (kg5.c c0)))) (Q:=∀(p0:wC),(TR p0/\TL p0/\p0.wB.length<=1048576/\(∀x∈p0.wB,x.wE.length<=1024))->∀r0:List Int,encT p0 p0.wR=r0-> 
(U64 p0.wY/\0<=(8:Int)/\(8:Int)<=8)/\(Us p0.wD/\p0.wD.length<=4294967295)/\(dig (8:Int).toNat p0.wY).length=(dig (8:Int).toNat p0.wY).length/\((dig (8:Int).toNat p0.wY).length+(encL p0.wD).length)*1<=140737488355328/\(dig (8:Int).toNat p0.wY).length+(encL p0.wD).length<=maxLen/\let v1:List Int:=(dig (8:Int).toNat p0.wY)++(encL p0.wD)
 v1.length=v1.length/\(v1.length+(dig 4 (len4 (p0.wB.length:Int))).length)*1<=140737488355328/\v1.length+(dig 4 (len4 (p0.wB.length:Int))).length<=maxLen/\let v2:List Int:=v1++(dig 4 (len4 (p0.wB.length:Int)))
(v2=v2)/\∃(I1:Int->(List Int)->Prop) (M1:Int->(List Int)->Nat),I1 0 v2/\∀(b1:Int) (f1:List Int),(I1 b1 f1->
(decide (b1<(p0.wB.length:Int))=true->
(0<=b1)/\b1<(p0.wB.length:Int)/\let v3:List Int:=[(ix p0.wB b1).wn,(ix p0.wB b1).wW,(ix p0.wB b1).wS]
(f1=f1)/\∃(I2:Int->(List Int)->Prop) (M2:Int->(List Int)->Nat),I2 0 f1/\∀(i1:Int) (k1:List Int),(I2 i1 k1->
(decide (i1<(v3.length:Int))=true->
(0<=i1)/\i1<(v3.length:Int)/\(U64 (ix v3 i1)/\0<=(8:Int)/\(8:Int)<=8)/\k1.length=k1.length/\(k1.length+(dig (8:Int).toNat (ix v3 i1)).length)*1<=140737488355328/\k1.length+(dig (8:Int).toNat (ix v3 i1)).length<=maxLen/\(k1++(dig (8:Int).toNat (ix v3 i1))=k1++(dig (8:Int).toNat (ix v3 i1)))/\I2 (i64.wrap (i1+1)) (k1++(dig (8:Int).toNat (ix v3 i1)))/\M2 (i64.wrap (i1+1)) (k1++(dig (8:Int).toNat (ix v3 i1)))<M2 i1 k1)/\
(decide (i1<(v3.length:Int))=false->
(Us ((ix p0.wB b1).wE)/\((ix p0.wB b1).wE).length<=4294967295)/\k1.length=k1.length/\(k1.length+(encL ((ix p0.wB b1).wE)).length)*1<=140737488355328/\k1.length+(encL ((ix p0.wB b1).wE)).length<=maxLen/\(k1++(encL ((ix p0.wB b1).wE))=k1++(encL ((ix p0.wB b1).wE)))/\I1 (i64.wrap (b1+1)) (k1++(encL ((ix p0.wB b1).wE)))/\M1 (i64.wrap (b1+1)) (k1++(encL ((ix p0.wB b1).wE)))<M1 b1 f1)))/\
(decide (b1<(p0.wB.length:Int))=false->
(f1=f1)/\∃(I3:Int->(List Int)->Prop) (M3:Int->(List Int)->Nat),I3 0 f1/\∀(l1:Int) (m1:List Int),(I3 l1 m1->
 let v4:Int:=([p0.wF,p0.wG,p0.Fee,p0.wH,p0.wQ].length:Int)
(decide (l1<v4)=true->
(0<=l1)/\l1<([p0.wF,p0.wG,p0.Fee,p0.wH,p0.wQ].length:Int)/\let v5:Int:=ix [p0.wF,p0.wG,p0.Fee,p0.wH,p0.wQ] l1
(U64 v5/\0<=(8:Int)/\(8:Int)<=8)/\m1.length=m1.length/\(m1.length+(dig (8:Int).toNat v5).length)*1<=140737488355328/\m1.length+(dig (8:Int).toNat v5).length<=maxLen/\(m1++(dig (8:Int).toNat v5)=m1++(dig (8:Int).toNat v5))/\I3 (i64.wrap (l1+1)) (m1++(dig (8:Int).toNat v5))/\M3 (i64.wrap (l1+1)) (m1++(dig (8:Int).toNat v5))<M3 l1 m1)/\
(decide (l1<v4)=false->
 m1.length=m1.length/\(m1.length+(dig 4 (len4 p0.wK)).length)*1<=140737488355328/\m1.length+(dig 4 (len4 p0.wK)).length<=maxLen/\(p0.wR.length<=4294967295)/\(m1++(dig 4 (len4 p0.wK))).length=(m1++(dig 4 (len4 p0.wK))).length/\((m1++(dig 4 (len4 p0.wK))).length+(encB p0.wR).length)*1<=140737488355328/\(m1++(dig 4 (len4 p0.wK))).length+(encB p0.wR).length<=maxLen/\let v6:List Int:=(m1++(dig 4 (len4 p0.wK)))++(encB p0.wR)
 v6=r0))))) (by kernel_rfl)<|by
 rintro p0 h _ rfl
 obtain⟨hr,hl,ho,hc⟩:=h
 have hm:=hl.m
 have hpl:=hl.p
 refine⟨⟨hr.a,by omega⟩,⟨hr.m,hm⟩,rfl,?_,?_,rfl,?_,?_,rfl,?_⟩
 ·simp;omega
 ·simp;unfold maxLen;omega
 ·simp;omega
 ·simp;unfold maxLen;omega
 have hb:=fun i:Int=>k1n (p0.wB.take i.toNat) 1024 (fun x hx=>hc x (List.mem_of_mem_take hx))
 have hb:∀i:Int,((p0.wB.take i.toNat).flatMap encO).length<=8700000000:=by
  intro i
  have:=hb i
  rw[List.length_take]at this
  refine Nat.le_trans this ?_
  have:min i.toNat p0.wB.length<=1048576:=by omega
  have:=Nat.mul_le_mul_left (28+8*1024) this
  omega
 have hpre:(dig 8 p0.wY++encL p0.wD++dig 4 (len4 p0.wB.length)).length<=40000000000:=by simp;omega
 generalize hP:dig 8 p0.wY++encL p0.wD++dig 4 (len4 p0.wB.length)=P at *
 refine⟨(fun i g=>0<=i/\i<=p0.wB.length/\g=P++(p0.wB.take i.toNat).flatMap encO),(fun i _=>(p0.wB.length-i).toNat),⟨by omega,by omega,by rw[<-hP];simp⟩,?_⟩
 rintro i g ⟨g0,g1,rfl⟩
 have hbi:=hb i
 generalize hB:P++(p0.wB.take i.toNat).flatMap encO=B at *
 have hBl:B.length<=50000000000:=by rw[<-hB,List.length_append];omega
 refine⟨fun h=> ?_,fun h=> ?_⟩
 ·have h:=of_decide_eq_true h
  have hx:=hr.o _ (ix_mem p0.wB i g0 h)
  have hxc:=hc _ (ix_mem p0.wB i g0 h)
  refine⟨g0,h,rfl,?_⟩
  refine⟨(fun k g=>0<=k/\k<=3/\g=B++([(ix p0.wB i).wn,(ix p0.wB i).wW,(ix p0.wB i).wS].take k.toNat).flatMap (dig 8)),(fun k _=>(3-k).toNat),⟨by omega,by omega,by simp⟩,?_⟩
  rintro k g ⟨k0,k1,rfl⟩
  have hul:Us [(ix p0.wB i).wn,(ix p0.wB i).wW,(ix p0.wB i).wS]:=by
   intro x hx'
   simp only[List.mem_cons,List.not_mem_nil,or_false]at hx'
   rcases hx' with rfl|rfl|rfl
   ·exact hx.c
   ·exact hx.p0
   ·exact hx.p1
  have hll:([(ix p0.wB i).wn,(ix p0.wB i).wW,(ix p0.wB i).wS].length:Int)=3:=rfl
  generalize hLd:[(ix p0.wB i).wn,(ix p0.wB i).wW,(ix p0.wB i).wS]=Lc at *
  have hgl:(B++(Lc.take k.toNat).flatMap (dig 8)).length<=50000000024:=by simp only[List.length_append,k2f,List.length_take];omega
  refine⟨fun hk=> ?_,fun hk=> ?_⟩
  ·have hk:=of_decide_eq_true hk
   rw[inc k 3 k0 (by omega) (by omega)]
   refine⟨k0,hk,⟨hul _ (ix_mem Lc k k0 hk),by omega⟩,rfl,?_,?_,rfl,⟨by omega,by omega,?_⟩,by(dsimp only;omega)⟩
   ·rw[ke];omega
   ·rw[ke];unfold maxLen;omega
   ·rw[kb Lc k k0 hk,List.flatMap_append,List.append_assoc]
    simp
  ·have hk:=of_decide_eq_false hk
   rw[List.take_of_length_le (by omega)]at hgl ⊢
   have hi:=inc i p0.wB.length g0 h (by omega)
   rw[hi]
   have nxt:(0<=i+1/\i+1<=p0.wB.length/\B++Lc.flatMap (dig 8)++encL (ix p0.wB i).wE=P++(p0.wB.take (i+1).toNat).flatMap encO)/\(p0.wB.length-(i+1)).toNat<(p0.wB.length-i).toNat:=by
    refine⟨⟨by omega,by omega,?_⟩,by omega⟩
    rw[kb p0.wB i g0 h,List.flatMap_append,<-List.append_assoc,hB,<-hLd]
    simp[encO,List.append_assoc]
   refine⟨⟨hx.ci,by omega⟩,rfl,?_,?_,rfl,nxt.1,nxt.2⟩
   ·rw[kr];omega
   ·rw[kr];unfold maxLen;omega
 ·have h:=of_decide_eq_false h
  refine⟨rfl,?_⟩
  have hul:Us [p0.wF,p0.wG,p0.Fee,p0.wH,p0.wQ]:=by
   intro x hx'
   simp only[List.mem_cons,List.not_mem_nil,or_false]at hx'
   rcases hx' with rfl|rfl|rfl|rfl|rfl
   ·exact hr.d
   ·exact hr.w
   ·exact hr.f
   ·exact hr.ac
   ·exact hr.n
  have hll:([p0.wF,p0.wG,p0.Fee,p0.wH,p0.wQ].length:Int)=5:=rfl
  refine⟨(fun k g=>0<=k/\k<=5/\g=B++([p0.wF,p0.wG,p0.Fee,p0.wH,p0.wQ].take k.toNat).flatMap (dig 8)),(fun k _=>(5-k).toNat),⟨by omega,by omega,by simp⟩,?_⟩
  rintro k g ⟨k0,k1,rfl⟩
  generalize hLd:[p0.wF,p0.wG,p0.Fee,p0.wH,p0.wQ]=Lc at *
  have hgl:(B++(Lc.take k.toNat).flatMap (dig 8)).length<=50000000040:=by simp only[List.length_append,k2f,List.length_take];omega
  refine⟨fun hk=> ?_,fun hk=> ?_⟩
  ·have hk:=of_decide_eq_true hk
   rw[inc k 5 k0 (by omega) (by omega)]
   refine⟨k0,hk,⟨hul _ (ix_mem Lc k k0 hk),by omega⟩,rfl,?_,?_,rfl,⟨by omega,by omega,?_⟩,by(dsimp only;omega)⟩
   ·rw[ke];omega
   ·rw[ke];unfold maxLen;omega
   ·rw[kb Lc k k0 hk,List.flatMap_append,List.append_assoc]
    simp
  ·have hk:=of_decide_eq_false hk
   rw[List.take_of_length_le (by omega)]at hgl ⊢
   refine⟨rfl,?_,?_,hpl,by trivial,?_,?_,?_⟩
   ·rw[ke];omega
   ·rw[ke];unfold maxLen;omega
   ·rw[List.length_append,ke,k41];omega
   ·rw[List.length_append,ke,k41];unfold maxLen;omega
   ·rw[<-hB,<-hLd,<-hP,List.take_of_length_le (by omega)]
    simp[encT,List.append_assoc]
noncomputable def kee:Con TB.den:= .gp 38 [.st 3] [.bool] [] fun(p0:wy)=>(0<=p0.a0/\0<=p0.a1,(vPoint p0.a0 p0.a1:Bool),())
theorem kgn:kee.Ok Tryz.prog TB:=qrv Bs Tryz.func38 .no c0 (Q:=∀(p0:wy),(0<=p0.a0/\0<=p0.a1)->∀r0:Bool,vPoint p0.a0 p0.a1=r0-> 
(decide (p0.a0<18446744069414584321)=true->
(decide (p0.a1<18446744069414584321)=true->
(decide (0<p0.a0)=true->
 true=r0)/\
(decide (0<p0.a0)=false->
 decide (0<p0.a1)=r0))/\
(decide (p0.a1<18446744069414584321)=false->
 false=r0))/\
(decide (p0.a0<18446744069414584321)=false->
 false=r0)) (by kernel_rfl)<|by
 rintro p0 h _ rfl
 refine ?_
 unfold vPoint
 repeat' (apply And.intro<;>intro h)
 all_goals grind
noncomputable def kb2:Con TB.den:= .gp 37 [.sl yqu] [.bool] [] fun(p0:List Int)=>(p0.length<=9223372036854775807,(p0.all (fun x=>decide (x<18446744069414584321)):Bool),())
theorem kc7:kb2.Ok Tryz.prog TB:=qrv Bs Tryz.func37 (.r 0 (.nd [] (.r 0 (.lp [] ⟨[],[],[3],[.one (zqi)],[]⟩ .no)) [] .no)) c0 (Q:=∀(p0:List Int),(p0.length<=9223372036854775807)->∀r0:Bool,(p0.all (fun x=>decide (x<18446744069414584321)))=r0-> 
 ∃(I1:Int->Prop) (M1:Int->Nat),I1 0/\∀(b1:Int),(I1 b1->
(decide (b1<(p0.length:Int))=true->
(0<=b1)/\b1<(p0.length:Int)/\let v1:Bool:=decide (18446744069414584321<=(ix p0 b1))
(v1=true->
 false=r0)/\
(v1=false->
 I1 (i64.wrap (b1+1))/\M1 (i64.wrap (b1+1))<M1 b1))/\
(decide (b1<(p0.length:Int))=false->
 true=r0))) (by kernel_rfl)<|by
 rintro p0 h _ rfl
 refine(⟨(fun i=>0<=i/\i<=p0.length/\∀x∈p0.take i.toNat,x<18446744069414584321),(fun i=>(p0.length-i).toNat),⟨by omega,by omega,by simp⟩,?_⟩)
 rintro i ⟨g0,g1,g2⟩
 refine⟨fun hh=> ?_,fun hh=> ?_⟩
 ·have hh:=of_decide_eq_true hh
  refine⟨g0,hh,fun e=> ?_,fun e=> ?_⟩
  ·have e:=of_decide_eq_true e
   exact(List.all_eq_false.2 ⟨_,ix_mem p0 i g0 hh,by simp;omega⟩).symm
  ·have e:=of_decide_eq_false e
   rw[inc i p0.length g0 hh (by omega)]
   refine⟨⟨by omega,by omega,?_⟩,by(dsimp only;omega)⟩
   rw[kb p0 i g0 hh]
   intro x hx
   rcases List.mem_append.1 hx with hx|hx
   ·exact g2 x hx
   ·have:x=ix p0 i:=by simpa using hx
    omega
 ·have hh:=of_decide_eq_false hh
  rw[List.take_of_length_le (by omega)]at g2
  symm
  simpa using g2
noncomputable def ke0:Con TB.den:= .gp 14 [.st 1] [yqi] [] fun(p0:wC)=>(TR p0/\TL p0,(validE p0:Int),())
theorem k1m:ke0.Ok Tryz.prog TB:=qrv Bs Tryz.func14 (.r 1 (.nd [] (.r 0 (.lp [] ⟨[],[],[3],[.one (zqi)],[]⟩ (.r 0 (.nd [] (.r 0 (.lp [] ⟨[],[],[4],[.one (zqi)],[]⟩ .no)) [] .no)))) [] (.nd [] (.r 0 (.lp [] ⟨[],[],[5],[.one (zqi)],[]⟩ .no)) [] (.jn ⟨[],[],[],[],[]⟩ [] .no [] (.jn ⟨[],[],[],[],[]⟩ [] .no [] .no))))) (kc7.c (kgn.c c0)) (Q:=∀(p0:wC),(TR p0/\TL p0)->∀r0:Int,validE p0=r0-> 
(decide (4<(p0.wD.length:Int))=true->
 1=r0)/\
(decide (4<(p0.wD.length:Int))=false->
(decide (4<(p0.wB.length:Int))=true->
 1=r0)/\
(decide (4<(p0.wB.length:Int))=false->
(p0.wD.length<=9223372036854775807)/\let r1:Bool:=(p0.wD.all (fun x=>decide (x<18446744069414584321)))
((!r1)=true->
 1=r0)/\
((!r1)=false->
([p0.wY,p0.wH,p0.wQ].length<=9223372036854775807)/\let r2:Bool:=([p0.wY,p0.wH,p0.wQ].all (fun x=>decide (x<18446744069414584321)))
((!r2)=true->
 1=r0)/\
((!r2)=false->
 ∃(I1:Int->Prop) (M1:Int->Nat),I1 0/\∀(b1:Int),(I1 b1->
(decide (b1<(p0.wD.length:Int))=true->
 ∃(I2:Int->Prop) (M2:Int->Nat),I2 0/\∀(f1:Int),(I2 f1->
(decide (f1<b1)=true->
(0<=b1)/\b1<(p0.wD.length:Int)/\(0<=f1)/\f1<(p0.wD.length:Int)/\(((ix p0.wD b1)==(ix p0.wD f1))=true->
 1=r0)/\
(((ix p0.wD b1)==(ix p0.wD f1))=false->
 I2 (i64.wrap (f1+1))/\M2 (i64.wrap (f1+1))<M2 f1))/\
(decide (f1<b1)=false->
 I1 (i64.wrap (b1+1))/\M1 (i64.wrap (b1+1))<M1 b1)))/\
(decide (b1<(p0.wD.length:Int))=false->
 ∃(I3:Int->Prop) (M3:Int->Nat),I3 0/\∀(i1:Int),(I3 i1->
(decide (i1<(p0.wB.length:Int))=true->
(0<=i1)/\i1<(p0.wB.length:Int)/\let v3:Bool:=decide (18446744069414584321<=((ix p0.wB i1).wn))
(v3=true->
 1=r0)/\
(v3=false->
(0<=(wy.mk ((ix p0.wB i1).wW) ((ix p0.wB i1).wS)).a0/\0<=(wy.mk ((ix p0.wB i1).wW) ((ix p0.wB i1).wS)).a1)/\let r4:Bool:=(vPoint (wy.mk ((ix p0.wB i1).wW) ((ix p0.wB i1).wS)).a0 (wy.mk ((ix p0.wB i1).wW) ((ix p0.wB i1).wS)).a1)
((!r4)=true->
 1=r0)/\
((!r4)=false->
 let v5:Bool:=((((ix p0.wB i1).wE).length:Int) !=3)
(v5=true->
 1=r0)/\
(v5=false->
(((ix p0.wB i1).wE).length<=9223372036854775807)/\let r6:Bool:=(((ix p0.wB i1).wE).all (fun x=>decide (x<18446744069414584321)))
((!r6)=true->
 1=r0)/\
((!r6)=false->
 I3 (i64.wrap (i1+1))/\M3 (i64.wrap (i1+1))<M3 i1)))))/\
(decide (i1<(p0.wB.length:Int))=false->
 ∀J1:Prop,((∀J2:Prop,(((decide (p0.wK<0)=true->
 1=r0)/\
(decide (p0.wK<0)=false->
(decide (1048576<p0.wK)=true->
 1=r0)/\
(decide (1048576<p0.wK)=false->
 let v7:Bool:=decide (1048576<(p0.wR.length:Int))
(v7=true->
 3=r0)/\
(v7=false->
 0=r0))))->J2)->
((p0.wF==0)=true->
((p0.wQ !=0)=true->
 1=r0)/\
((p0.wQ !=0)=false->
(((p0.wD.length:Int)==0)=true->
 1=r0)/\
(((p0.wD.length:Int)==0)=false->
((p0.wG==0)=true->
((p0.wH !=0)=true->
 1=r0)/\
((p0.wH !=0)=false->
 J2))/\
((p0.wG==0)=false->
 J2))))/\
((p0.wF==0)=false->
 J2))->J1)->
(decide (4294967295<p0.wF)=true->
 1=r0)/\
(decide (4294967295<p0.wF)=false->
(decide (4294967295<p0.wG)=true->
 1=r0)/\
(decide (4294967295<p0.wG)=false->
(decide (4294967295<p0.Fee)=true->
 1=r0)/\
(decide (4294967295<p0.Fee)=false->
(decide (0<p0.wF)=true->
(decide (0<p0.wG)=true->
 1=r0)/\
(decide (0<p0.wG)=false->
 J1))/\
(decide (0<p0.wF)=false->
 J1))))))))))))) (by kernel_rfl)<|by
 rintro p0 h _ rfl
 obtain⟨hr,hl⟩:=h
 have e3:[p0.wY,p0.wH,p0.wQ].all (fun x=>decide (x<18446744069414584321))=(decide (p0.wY<18446744069414584321)&&(decide (p0.wH<18446744069414584321)&&decide (p0.wQ<18446744069414584321))):=by simp
 have bad:(vMarks p0.wD&&vOuts p0.wB&&vAmounts p0&&vRest p0)=false->1=validE p0:=by intro h;unfold validE;rw[h];rfl
 have badM:vMarks p0.wD=false->1=validE p0:=fun h=>bad (by rw[h];rfl)
 have badO:vOuts p0.wB=false->1=validE p0:=fun h=>bad (by rw[h];simp)
 have badA:vAmounts p0=false->1=validE p0:=fun h=>bad (by rw[h];simp)
 have badR:vRest p0=false->1=validE p0:=fun h=>bad (by rw[h];simp)
 refine⟨fun h=>badM ?_,fun h=>⟨fun h2=>badO ?_,fun h2=>⟨by have:=hl.m;omega,fun h3=>badM ?_,fun h3=>⟨by simp,fun h4=> ?_,fun h4=> ?_⟩⟩⟩⟩
 ·have h:=of_decide_eq_true h
  unfold vMarks
  rw[decide_eq_false (by omega)]
  rfl
 ·have h2:=of_decide_eq_true h2
  unfold vOuts
  rw[decide_eq_false (by omega)]
  rfl
 ·have h3:p0.wD.all (fun x=>decide (x<18446744069414584321))=false:=by simpa using h3
  unfold vMarks
  rw[h3]
  simp
 ·rw[e3]at h4
  have:vAmounts p0=false∨vRest p0=false:=by
   unfold vAmounts vRest
   grind
  exact this.elim badA badR
 have h:=of_decide_eq_false h
 have h2:=of_decide_eq_false h2
 have h3:p0.wD.all (fun x=>decide (x<18446744069414584321))=true:=by simpa using h3
 have h4:[p0.wY,p0.wH,p0.wQ].all (fun x=>decide (x<18446744069414584321))=true:=by
  cases hq:[p0.wY,p0.wH,p0.wQ].all (fun x=>decide (x<18446744069414584321))
  ·rw[hq]at h4;simp at h4
  ·rfl
 rw[e3]at h4
 simp only[Bool.and_eq_true,decide_eq_true_eq]at h4
 obtain⟨a1,a2,a3⟩:=h4
 refine⟨fun i=>0<=i/\i<=p0.wD.length/\(p0.wD.take i.toNat).Nodup,fun i=>(p0.wD.length-i).toNat,⟨by omega,by omega,by simp⟩,?_⟩
 rintro i ⟨g0,g1,g2⟩
 refine⟨fun hh=> ?_,fun hh=> ?_⟩
 ·have hh:=of_decide_eq_true hh
  refine⟨fun k=>0<=k/\k<=i/\∀x∈p0.wD.take k.toNat,x≠ix p0.wD i,fun k=>(i-k).toNat,⟨by omega,by omega,by simp⟩,?_⟩
  rintro k ⟨k0,k1,k2⟩
  refine⟨fun hk=> ?_,fun hk=> ?_⟩
  ·have hk:=of_decide_eq_true hk
   refine⟨g0,hh,k0,by omega,fun e=>badM ?_,fun e=> ?_⟩
   ·have e:ix p0.wD i=ix p0.wD k:=by simpa using e
    have:¬p0.wD.Nodup:=by
     intro hn
     rw[ix_nat _ i g0 hh,ix_nat _ k k0 (by omega)]at e
     have:=(List.getElem_inj hn).1 e
     omega
    unfold vMarks
    rw[decide_eq_false this]
    simp
   ·have e:¬ix p0.wD i=ix p0.wD k:=by simpa using e
    rw[inc k i k0 hk (by omega)]
    refine⟨⟨by omega,by omega,?_⟩,by(dsimp only;omega)⟩
    rw[kb p0.wD k k0 (by omega)]
    intro x hx
    rcases List.mem_append.1 hx with hx|hx
    ·exact k2 x hx
    ·have:x=ix p0.wD k:=by simpa using hx
     rw[this];exact fun e' =>e e'.symm
  ·have hk:=of_decide_eq_false hk
   have hki:k=i:=by omega
   subst hki
   have nxt:(0<=k+1/\k+1<=p0.wD.length/\(p0.wD.take (k+1).toNat).Nodup)/\(p0.wD.length-(k+1)).toNat<(p0.wD.length-k).toNat:=by
    refine⟨⟨by omega,by omega,?_⟩,by omega⟩
    rw[kb p0.wD k g0 hh]
    refine List.nodup_append.2 ⟨g2,by simp,fun a ha b hb=> ?_⟩
    have:b=ix p0.wD k:=by simpa using hb
    rw[this];exact k2 a ha
   have hi:=inc k p0.wD.length g0 hh (by omega)
   rw[hi]
   exact nxt
 ·have hh:=of_decide_eq_false hh
  rw[List.take_of_length_le (by omega)]at g2
  have vm:vMarks p0.wD=true:=by
   unfold vMarks
   rw[h3,decide_eq_true g2,decide_eq_true (by omega)]
   rfl
  refine⟨fun i=>0<=i/\i<=p0.wB.length/\∀x∈p0.wB.take i.toNat,vOut x=true,fun i=>(p0.wB.length-i).toNat,⟨by omega,by omega,by simp⟩,?_⟩
  rintro i ⟨g0,g1,g2⟩
  refine⟨fun hh=> ?_,fun hh J1 k1=> ?_⟩
  ·have hh:=of_decide_eq_true hh
   have hx:=hr.o _ (ix_mem p0.wB i g0 hh)
   have hlc:=hl.c _ (ix_mem p0.wB i g0 hh)
   have bd:vOut (ix p0.wB i)=false->1=validE p0:=by
    intro hb
    refine badO ?_
    unfold vOuts
    have:p0.wB.all vOut=false:=List.all_eq_false.2 ⟨_,ix_mem p0.wB i g0 hh,by simp[hb]⟩
    rw[this]
    simp
   unfold vOut at bd
   refine⟨g0,hh,fun e=>bd ?_,fun e=>⟨⟨hx.p0.1,hx.p1.1⟩,fun e2=>bd ?_,fun e2=>⟨fun e3=>bd ?_,fun e3=>⟨by omega,fun e4=>bd ?_,fun e4=> ?_⟩⟩⟩⟩
   ·have e:=of_decide_eq_true e
    rw[decide_eq_false (by omega)]
    rfl
   ·have e2:vPoint (ix p0.wB i).wW (ix p0.wB i).wS=false:=by simpa using e2
    simp[e2]
   ·have e3:¬((ix p0.wB i).wE.length:Int)=3:=by simpa using e3
    have e3:¬(ix p0.wB i).wE.length=3:=by omega
    simp[e3]
   ·have e4:(ix p0.wB i).wE.all (fun x=>decide (x<18446744069414584321))=false:=by
     cases hq:(ix p0.wB i).wE.all (fun x=>decide (x<18446744069414584321))
     ·rfl
     ·rw[hq]at e4;simp at e4
    rw[e4]
    simp
   ·have e:=of_decide_eq_false e
    have e2:vPoint (ix p0.wB i).wW (ix p0.wB i).wS=true:=by simpa using e2
    have e3:((ix p0.wB i).wE.length:Int)=3:=by simpa using e3
    have e4:(ix p0.wB i).wE.all (fun x=>decide (x<18446744069414584321))=true:=by
     cases hq:(ix p0.wB i).wE.all (fun x=>decide (x<18446744069414584321))
     ·rw[hq]at e4;simp at e4
     ·rfl
    have hv:vOut (ix p0.wB i)=true:=(k7l _).2 ⟨by omega,e2,by omega,by simpa using e4⟩
    rw[inc i p0.wB.length g0 hh (by omega)]
    refine⟨⟨by omega,by omega,?_⟩,by(dsimp only;omega)⟩
    rw[kb p0.wB i g0 hh]
    intro x hx
    rcases List.mem_append.1 hx with hx|hx
    ·exact g2 x hx
    ·have:x=ix p0.wB i:=by simpa using hx
     rw[this];exact hv
  ·have hh:=of_decide_eq_false hh
   rw[List.take_of_length_le (by omega)]at g2
   have vo:vOuts p0.wB=true:=by
    unfold vOuts
    have:p0.wB.all vOut=true:=by simpa using g2
    rw[this,decide_eq_true (by omega)]
    rfl
   have j1:vOuts p0.wB=true->p0.wF<=4294967295->p0.wG<=4294967295->p0.Fee<=4294967295->(0<p0.wF->p0.wG=0)->J1:=by
    intro vo d1 d2 d3 d4
    have hd:=hr.d
    have hw:=hr.w
    have fA:¬(p0.wF<=4294967295/\p0.wG<=4294967295/\p0.Fee<=4294967295/\p0.wH<18446744069414584321/\p0.wQ<18446744069414584321/\(0<p0.wF->p0.wG=0)/\(¬0<p0.wF->p0.wD≠[]/\p0.wQ=0/\(0<p0.wG∨p0.wH=0)))->1=validE p0:=fun h=>badA (Bool.eq_false_iff.2 fun h' =>h ((k1c p0).1 h'))
    refine k1 fun J2 k2=> ?_
    have j2:vOuts p0.wB=true->vAmounts p0=true->J2:=by
     intro vo va
     refine k2 ⟨fun e=>badR ?_,fun e=>⟨fun e2=>badR ?_,fun e2=> ?_⟩⟩
     ·have e:=of_decide_eq_true e
      unfold vRest
      rw[decide_eq_false (p:=0<=p0.wK) (by omega)]
      simp
     ·have e2:=of_decide_eq_true e2
      unfold vRest
      rw[decide_eq_false (p:=p0.wK<=1048576) (by omega)]
      simp
     ·have e:=of_decide_eq_false e
      have e2:=of_decide_eq_false e2
      have vr:vRest p0=true:=by
       unfold vRest
       rw[decide_eq_true a1,decide_eq_true (p:=0<=p0.wK) (by omega),decide_eq_true (p:=p0.wK<=1048576) (by omega)]
       rfl
      unfold validE
      rw[vm,vo,va,vr]
      refine⟨fun e=> ?_,fun e=> ?_⟩
      ·have e:=of_decide_eq_true e
       simp;omega
      ·have e:=of_decide_eq_false e
       simp;omega
    refine⟨fun e=>⟨fun e2=>fA ?_,fun e2=>⟨fun e3=>fA ?_,fun e3=>⟨fun e4=>⟨fun e5=>fA ?_,fun e5=>j2 vo ((k1c p0).2 ?_)⟩,fun e4=>j2 vo ((k1c p0).2 ?_)⟩⟩⟩,fun e=>j2 vo ((k1c p0).2 ?_)⟩
    all_goals simp only[beq_iff_eq,bne_iff_ne,beq_eq_false_iff_ne,bne_eq_false_iff_eq,Int.natCast_eq_zero,List.length_eq_zero_iff]at *
    ·exact fun h=>by have:=h.2.2.2.2.2.2 (by omega);omega
    ·exact fun h=>(h.2.2.2.2.2.2 (by omega)).1 e3
    ·exact fun h=>by have:=(h.2.2.2.2.2.2 (by omega)).2.2;omega
    ·exact⟨d1,d2,d3,a2,a3,d4,fun _=>⟨fun hq=>e3 (by rw[hq];rfl),e2,.inr e5⟩⟩
    ·exact⟨d1,d2,d3,a2,a3,d4,fun _=>⟨fun hq=>e3 (by rw[hq];rfl),e2,.inl (by omega)⟩⟩
    ·exact⟨d1,d2,d3,a2,a3,d4,fun h=>by omega⟩
   have hd:=hr.d
   have hw:=hr.w
   have fA:¬(p0.wF<=4294967295/\p0.wG<=4294967295/\p0.Fee<=4294967295/\(0<p0.wF->p0.wG=0))->1=validE p0:=fun h=>badA (Bool.eq_false_iff.2 fun h' =>h (by have:=(k1c p0).1 h';exact⟨this.1,this.2.1,this.2.2.1,this.2.2.2.2.2.1⟩))
   refine⟨fun e=>fA ?_,fun e=>⟨fun e2=>fA ?_,fun e2=>⟨fun e3=>fA ?_,fun e3=>⟨fun e4=>⟨fun e5=>fA ?_,fun e5=>j1 vo ?_ ?_ ?_ ?_⟩,fun e4=>j1 vo ?_ ?_ ?_ ?_⟩⟩⟩⟩
   all_goals simp only[decide_eq_true_eq,decide_eq_false_iff_not]at *
   all_goals omega
noncomputable def kis:Con TB.den:= .gp 15 [.st 1] [yqu] [] fun(p0:wC)=>(TR p0/\TL p0,(idS p0:Int),())
theorem k1a:kis.Ok Tryz.prog TB:=qrv Bs Tryz.func15 .no (k1m.c (k4x.c (ka1.c c0))) (Q:=∀(p0:wC),(TR p0/\TL p0)->∀r0:Int,idS p0=r0-> 
(TR p0/\TL p0)/\(((validE p0) !=0)=true->
 0=r0)/\
(((validE p0) !=0)=false->
(TR p0/\TL p0/\p0.wB.length<=1048576/\(∀x∈p0.wB,x.wE.length<=1024))/\(U64 (14:Int)/\By (encT p0 p0.wR)/\(encT p0 p0.wR).length<=1099511627775)/\(hashB (14:Int) (encT p0 p0.wR))=r0)) (by kernel_rfl)<|by
 rintro p0 h _ rfl
 obtain⟨hr,hl⟩:=h
 refine⟨⟨hr,hl⟩,fun e=> ?_,fun e=> ?_⟩
 ·have e:¬validE p0=0:=by simpa using e
  unfold idS
  rw[if_neg e]
 ·have e:validE p0=0:=by simpa using e
  have v:=(k46 p0).1 e
  unfold idS
  rw[if_pos e]
  have hv:VR p0:=⟨e,hr⟩
  have hw:=k2c hv
  unfold weightS at hw
  rw[if_pos e]at hw
  exact⟨⟨hr,hl,hv.dcap.1,hv.dcap.2⟩,⟨by decide,encT_by hr.p,by omega⟩,rfl⟩
noncomputable def ka5:Con TB.den:= .gp 16 [.st 1,.st 1] [.bool] [] fun(p0 p1:wC)=>((TR p0/\TL p0)/\TR p1/\TL p1,(confT p0 p1:Bool),())
theorem k3d:ka5.Ok Tryz.prog TB:=qrv Bs Tryz.func16 (.r 1 (.nd [] (.r 0 (.lp [] ⟨[],[],[5],[.one (zqi)],[]⟩ (.r 0 (.nd [] (.r 0 (.lp [] ⟨[],[],[6],[.one (zqi)],[]⟩ .no)) [] .no)))) [] .no)) (k1a.c c0) (Q:=∀(p0 p1:wC),((TR p0/\TL p0)/\TR p1/\TL p1)->∀r0:Bool,confT p0 p1=r0-> 
(TR p0/\TL p0)/\(TR p1/\TL p1)/\(((idS p0)==(idS p1))=true->
 false=r0)/\
(((idS p0)==(idS p1))=false->
 ∃(I1:Int->Prop) (M1:Int->Nat),I1 0/\∀(b1:Int),(I1 b1->
(decide (b1<(p0.wD.length:Int))=true->
 ∃(I2:Int->Prop) (M2:Int->Nat),I2 0/\∀(f1:Int),(I2 f1->
(decide (f1<(p1.wD.length:Int))=true->
(0<=b1)/\b1<(p0.wD.length:Int)/\(0<=f1)/\f1<(p1.wD.length:Int)/\(((ix p0.wD b1)==(ix p1.wD f1))=true->
 true=r0)/\
(((ix p0.wD b1)==(ix p1.wD f1))=false->
 I2 (i64.wrap (f1+1))/\M2 (i64.wrap (f1+1))<M2 f1))/\
(decide (f1<(p1.wD.length:Int))=false->
 I1 (i64.wrap (b1+1))/\M1 (i64.wrap (b1+1))<M1 b1)))/\
(decide (b1<(p0.wD.length:Int))=false->
(decide (0<p0.wF)=true->
(decide (0<p1.wF)=true->
((p0.wH==p1.wH)=true->
(p0.wQ==p1.wQ)=r0)/\
((p0.wH==p1.wH)=false->
 false=r0))/\
(decide (0<p1.wF)=false->
 false=r0))/\
(decide (0<p0.wF)=false->
 false=r0))))) (by kernel_rfl)<|by
 rintro p0 p1 h _ rfl
 obtain⟨h0,h1⟩:=h
 have l0:=h0.2.m
 have l1:=h1.2.m
 unfold confT
 refine⟨h0,h1,fun e=> ?_,fun e=> ?_⟩
 ·have e:idS p0=idS p1:=by simpa using e
  rw[if_pos e]
 ·have e:¬idS p0=idS p1:=by simpa using e
  rw[if_neg e]
  refine⟨(fun i=>∃k:Nat,i=(k:Int)/\k<=p0.wD.length/\(p0.wD.take k).any (fun m=>decide (m∈p1.wD))=false),fun i=>(p0.wD.length-i).toNat,⟨0,rfl,by omega,by simp⟩,?_⟩
  rintro _ ⟨k,rfl,g1,g2⟩
  refine⟨fun c=> ?_,fun c=> ?_⟩
  ·have c:k<p0.wD.length:=by have:=of_decide_eq_true c;omega
   rw[ix_get _ _ c,inc_i64 _ (by omega)]
   refine⟨(fun i=>∃j:Nat,i=(j:Int)/\j<=p1.wD.length/\p0.wD[k]∉p1.wD.take j),fun i=>(p1.wD.length-i).toNat,⟨0,rfl,by omega,by simp⟩,?_⟩
   rintro _ ⟨j,rfl,j1,j2⟩
   refine⟨fun d=> ?_,fun d=> ?_⟩
   ·have d:j<p1.wD.length:=by have:=of_decide_eq_true d;omega
    rw[ix_get _ _ d,inc_i64 _ (by omega)]
    refine⟨by omega,by omega,by omega,by omega,fun q=> ?_,fun q=>⟨⟨j+1,rfl,by omega,?_⟩,by(dsimp only;omega)⟩⟩
    ·have q:p0.wD[k]=p1.wD[j]:=by simpa using q
     rw[List.any_eq_true.2 ⟨p0.wD[k],List.getElem_mem c,by rw[q];exact decide_eq_true (List.getElem_mem d)⟩]
     rfl
    ·have q:¬p0.wD[k]=p1.wD[j]:=by simpa using q
     rw[List.take_succ_eq_append_getElem d]
     simp only[List.mem_append,List.mem_singleton]
     exact fun hh=>hh.elim j2 q
   ·have d:j=p1.wD.length:=by have:=of_decide_eq_false d;omega
    rw[List.take_of_length_le (by omega)]at j2
    refine⟨⟨k+1,rfl,by omega,?_⟩,by(dsimp only;omega)⟩
    rw[List.take_succ_eq_append_getElem c,List.any_append,g2,List.any_cons,decide_eq_false j2]
    rfl
  ·have c:k=p0.wD.length:=by have:=of_decide_eq_false c;omega
   rw[List.take_of_length_le (by omega)]at g2
   rw[g2]
   by_cases q1:0<p0.wF<;>by_cases q2:0<p1.wF<;>by_cases q3:p0.wH=p1.wH<;>by_cases q4:p0.wQ=p1.wQ<;>simp[q1,q2,q3,q4]
noncomputable def k97:Con TB.den:= .gp 27 [.st 7,.st 1] [.sl yqu] [] fun(p0:wZ) (p1:wC)=>((VL p0.L/\p0.L.length<=100000)/\TR p1/\TL p1,((if validE p1=0 then cfl p0.L p1 else []):List Int),())
theorem k59:k97.Ok Tryz.prog TB:=qrv Bs Tryz.func27 (.r 1 (.nd [] (.r 0 (.lp [.tok 5 yqu] ⟨[2],[.tip yqu],[5,6],[.one (.own 0),.one (zqi)],[]⟩ .no)) [] .no)) (k1m.c (k3d.c (k1a.c c0))) (Q:=∀(p0:wZ) (p1:wC),((VL p0.L/\p0.L.length<=100000)/\TR p1/\TL p1)->∀r0:List Int,((if validE p1=0 then cfl p0.L p1 else []):List Int)=r0-> 
(([]:List Int)=([]:List Int))/\∃(I1:Int->(List Int)->Prop) (M1:Int->(List Int)->Nat),I1 0 ([]:List Int)/\∀(b1:Int) (f1:List Int),(I1 b1 f1->
(decide (b1<(p0.L.length:Int))=true->
(TR p1/\TL p1)/\(((validE p1)==0)=true->
(0<=b1)/\b1<(p0.L.length:Int)/\((TR p1/\TL p1)/\TR (ix p0.L b1)/\TL (ix p0.L b1))/\((confT p1 (ix p0.L b1))=true->
(0<=b1)/\b1<(p0.L.length:Int)/\(TR (ix p0.L b1)/\TL (ix p0.L b1))/\f1.length=f1.length/\(f1.length+[(idS (ix p0.L b1))].length)*8<=140737488355328/\f1.length+[(idS (ix p0.L b1))].length<=maxLen/\(f1++[(idS (ix p0.L b1))]=f1++[(idS (ix p0.L b1))])/\I1 (i64.wrap (b1+1)) (f1++[(idS (ix p0.L b1))])/\M1 (i64.wrap (b1+1)) (f1++[(idS (ix p0.L b1))])<M1 b1 f1)/\
((confT p1 (ix p0.L b1))=false->
(f1=f1)/\I1 (i64.wrap (b1+1)) f1/\M1 (i64.wrap (b1+1)) f1<M1 b1 f1))/\
(((validE p1)==0)=false->
 f1=r0))/\
(decide (b1<(p0.L.length:Int))=false->
 f1=r0))) (by kernel_rfl)<|by
 rintro p0 p1 h _ rfl
 obtain⟨⟨hL,hn⟩,ht⟩:=h
 refine⟨rfl,?_⟩
 refine⟨(fun i f=>∃k:Nat,i=(k:Int)/\k<=p0.L.length/\(0<k->validE p1=0)/\f=cfl (p0.L.take k) p1),fun i _=>(p0.L.length-i).toNat,⟨0,rfl,by omega,by omega,rfl⟩,?_⟩
 rintro _ _ ⟨k,rfl,g1,g2,rfl⟩
 have hcl:=cfl_len (p0.L.take k) p1
 rw[List.length_take]at hcl
 refine⟨fun e=>⟨ht,fun q=> ?_,fun q=> ?_⟩,fun e=> ?_⟩
 ·have e:k<p0.L.length:=by have:=of_decide_eq_true e;omega
  have q:validE p1=0:=by simpa using q
  have hv:=hL _ (List.getElem_mem e)
  have hct:=kgm (t:=p1) e
  rw[ix_get _ _ e,inc_i64 _ (by omega)]
  refine⟨by omega,by omega,⟨ht,hv.r,hv.tl⟩,fun c=> ?_,fun c=> ?_⟩
  ·rw[if_pos c]at hct
   refine⟨by omega,by omega,⟨hv.r,hv.tl⟩,rfl,?_,?_,rfl,⟨k+1,rfl,by omega,fun _=>q,hct.symm⟩,by(dsimp only;omega)⟩<;>simp only[List.length_singleton]<;>(try unfold maxLen)<;>omega
  ·rw[if_neg (by rw[c];decide)]at hct
   exact⟨rfl,⟨k+1,rfl,by omega,fun _=>q,hct.symm⟩,by(dsimp only;omega)⟩
 ·have q:¬validE p1=0:=by simpa using q
  rw[if_neg q,show k=0 by have:=fun z=>q (g2 z);omega]
  rfl
 ·have e:k=p0.L.length:=by have:=of_decide_eq_false e;omega
  rw[List.take_of_length_le (by omega)]
  by_cases q:validE p1=0
  ·rw[if_pos q]
  ·rw[if_neg q,show p0.L=[]by have:=fun z=>q (g2 z);exact List.length_eq_zero_iff.1 (by omega)]
   rfl
noncomputable def kfh:Con TB.den:= .gp 29 [.sl (.st 1),yqu] [yqi] [] fun(p0:List wC) (p1:Int)=>(VL p0/\p0.length<=100000,(fndL p0 p1:Int),())
theorem k63:kfh.Ok Tryz.prog TB:=qrv Bs Tryz.func29 (.r 0 (.nd [] (.r 0 (.lp [] ⟨[],[],[5],[.one (zqi)],[]⟩ .no)) [] .no)) (k1a.c c0) (Q:=∀(p0:List wC) (p1:Int),(VL p0/\p0.length<=100000)->∀r0:Int,fndL p0 p1=r0-> 
 ∃(I1:Int->Prop) (M1:Int->Nat),I1 0/\∀(b1:Int),(I1 b1->
(decide (b1<(p0.length:Int))=true->
(0<=b1)/\b1<(p0.length:Int)/\(TR (ix p0 b1)/\TL (ix p0 b1))/\(((idS (ix p0 b1))==p1)=true->
 b1=r0)/\
(((idS (ix p0 b1))==p1)=false->
 I1 (i64.wrap (b1+1))/\M1 (i64.wrap (b1+1))<M1 b1))/\
(decide (b1<(p0.length:Int))=false->
(-1)=r0))) (by kernel_rfl)<|by
 rintro p0 p1 h _ rfl
 obtain⟨hL,hn⟩:=h
 refine⟨(fun i=>∃k:Nat,i=(k:Int)/\k<=p0.length/\p1∉(p0.map idS).take k),fun i=>(p0.length-i).toNat,⟨0,rfl,by omega,by simp⟩,?_⟩
 rintro _ ⟨k,rfl,h1,h2⟩
 have hl:(p0.map idS).length=p0.length:=List.length_map ..
 refine⟨fun e=> ?_,fun e=> ?_⟩
 ·have e:k<p0.length:=by have:=of_decide_eq_true e;omega
  have hv:=hL _ (List.getElem_mem e)
  rw[ix_get _ _ e,inc_i64 _ (by omega)]
  refine⟨by omega,by omega,⟨hv.r,hv.tl⟩,fun e2=> ?_,fun e2=>⟨⟨k+1,rfl,by omega,?_⟩,by(dsimp only;omega)⟩⟩
  ·have e2:idS p0[k]=p1:=by simpa using e2
   exact(idx_at (by omega) h2 (by simpa using e2)).symm
  ·have e2:¬idS p0[k]=p1:=by simpa using e2
   rw[List.take_succ_eq_append_getElem (by omega)]
   simp only[List.mem_append,List.mem_singleton,List.getElem_map]
   exact fun hh=>hh.elim h2 fun q=>e2 q.symm
 ·have e:k=p0.length:=by have:=of_decide_eq_false e;omega
  rw[List.take_of_length_le (by omega)]at h2
  exact(idx_no h2).symm
noncomputable def kc9:Con TB.den:= .gp 41 [.st 1] [yqi] [] fun(p0:wC)=>(VR p0,(weightS p0:Int),())
theorem k4e:kc9.Ok Tryz.prog TB:=qrv Bs Tryz.func41 .no (k4x.c c0) (Q:=∀(p0:wC),(VR p0)->∀r0:Int,weightS p0=r0-> 
(TR p0/\TL p0/\p0.wB.length<=1048576/\(∀x∈p0.wB,x.wE.length<=1024))/\((encT p0 p0.wR).length:Int)=r0) (by kernel_rfl)<|by
 rintro p0 h _ rfl
 unfold weightS
 rw[if_pos h.v]
 exact⟨⟨h.r,h.tl,h.dcap.1,h.dcap.2⟩,rfl⟩
noncomputable def kca:Con TB.den:= .gp 17 [.sl (.st 1)] [yqi] [] fun(p0:List wC)=>(VL p0/\p0.length<=100000,(wL p0:Int),())
theorem k1y:kca.Ok Tryz.prog TB:=qrv Bs Tryz.func17 (.r 1 (.nd [] (.r 0 (.lp [] ⟨[],[],[3,4],[.one (zqi),.one (zqi)],[]⟩ .no)) [] .no)) (k4e.c c0) (Q:=∀(p0:List wC),(VL p0/\p0.length<=100000)->∀r0:Int,wL p0=r0-> 
 ∃(I1:Int->Int->Prop) (M1:Int->Int->Nat),I1 0 0/\∀(b1 f1:Int),(I1 b1 f1->
(decide (f1<(p0.length:Int))=true->
(0<=f1)/\f1<(p0.length:Int)/\(VR (ix p0 f1))/\let v1:Int:=i64.wrap (b1+(weightS (ix p0 f1)))
 I1 v1 (i64.wrap (f1+1))/\M1 v1 (i64.wrap (f1+1))<M1 b1 f1)/\
(decide (f1<(p0.length:Int))=false->
 b1=r0))) (by kernel_rfl)<|by
 rintro p0 h _ rfl
 obtain⟨hL,hn⟩:=h
 refine⟨(fun b i=>∃k:Nat,i=(k:Int)/\k<=p0.length/\b=wL (p0.take k)),fun _ i=>(p0.length-i).toNat,⟨0,rfl,by omega,rfl⟩,?_⟩
 rintro _ _ ⟨k,rfl,g1,rfl⟩
 refine⟨fun e=> ?_,fun e=> ?_⟩
 ·have e:k<p0.length:=by have:=of_decide_eq_true e;omega
  have hb:=wL_tb hL hn (k+1)
  rw[wL_take e]at hb
  rw[ix_get _ _ e,inc_i64 _ (by omega)]
  refine⟨by omega,by omega,hL _ (List.getElem_mem e),⟨k+1,rfl,by omega,?_⟩,by(dsimp only;omega)⟩
  rw[wL_take e,wi _ (by omega) (by omega)]
 ·have e:k=p0.length:=by have:=of_decide_eq_false e;omega
  rw[List.take_of_length_le (by omega)]
noncomputable def kc4:Con TB.den:= .gp 30 [.st 1,.st 1] [.bool] [] fun(p0 p1:wC)=>((TR p0/\TL p0)/\TR p1/\TL p1,(betB p0 p1:Bool),())
theorem k2y:kc4.Ok Tryz.prog TB:=qrv Bs Tryz.func30 .no (k1m.c (k4e.c (k1a.c c0))) (Q:=∀(p0 p1:wC),((TR p0/\TL p0)/\TR p1/\TL p1)->∀r0:Bool,betB p0 p1=r0-> 
(TR p0/\TL p0)/\(((validE p0) !=0)=true->
 false=r0)/\
(((validE p0) !=0)=false->
(TR p1/\TL p1)/\(((validE p1) !=0)=true->
 false=r0)/\
(((validE p1) !=0)=false->
(VR p1)/\let v1:Int:=u64.wrap (p0.Fee*(u64.wrap (weightS p1)))
(VR p0)/\let v2:Int:=u64.wrap (p1.Fee*(u64.wrap (weightS p0)))
(decide (v2<v1)=true->
 true=r0)/\
(decide (v2<v1)=false->
((v1==v2)=true->
(TR p0/\TL p0)/\(TR p1/\TL p1)/\decide ((idS p0)<(idS p1))=r0)/\
((v1==v2)=false->
 false=r0))))) (by kernel_rfl)<|by
 rintro p0 p1 h _ rfl
 obtain⟨h0,h1⟩:=h
 unfold betB
 refine⟨h0,fun e=> ?_,fun e=>⟨h1,fun e2=> ?_,fun e2=> ?_⟩⟩
 ·have e:¬validE p0=0:=by simpa using e
  rw[decide_eq_false e]
  rfl
 ·have e2:¬validE p1=0:=by simpa using e2
  rw[decide_eq_false e2]
  simp
 ·have e:validE p0=0:=by simpa using e
  have e2:validE p1=0:=by simpa using e2
  have v0:VR p0:=⟨e,h0.1⟩
  have v1:VR p1:=⟨e2,h1.1⟩
  have w0:=k2c v0
  have w1:=k2c v1
  have g0:=ge_of v0
  have g1:=ge_of v1
  have f0:0<=p0.Fee:=g0.f0
  have f1:p0.Fee<=4294967295:=g0.f1
  have f2:0<=p1.Fee:=g1.f0
  have f3:p1.Fee<=4294967295:=g1.f1
  have m1:0<=p0.Fee*weightS p1/\p0.Fee*weightS p1<=4294967295*4294967295:=⟨Int.mul_nonneg (by omega) (by omega),Int.mul_le_mul f1 w1.2 (by omega) (by omega)⟩
  have m2:0<=p1.Fee*weightS p0/\p1.Fee*weightS p0<=4294967295*4294967295:=⟨Int.mul_nonneg (by omega) (by omega),Int.mul_le_mul f3 w0.2 (by omega) (by omega)⟩
  rw[decide_eq_true e,decide_eq_true e2,Bool.true_and,Bool.true_and]
  refine⟨v1,v0,?_⟩
  dsimp only
  rw[wu (weightS p1) (by omega) (by omega),wu (weightS p0) (by omega) (by omega),wu _ m1.1 (by omega),wu _ m2.1 (by omega)]
  have hb:betT p0 p1=decide (p1.Fee*weightS p0<p0.Fee*weightS p1∨(p1.Fee*weightS p0=p0.Fee*weightS p1/\idS p0<idS p1)):=rfl
  rw[hb]
  refine⟨fun q=> ?_,fun q=>⟨fun q2=>⟨h0,h1,?_⟩,fun q2=> ?_⟩⟩
  ·rw[decide_eq_true (.inl (of_decide_eq_true q))]
  ·have q2:p0.Fee*weightS p1=p1.Fee*weightS p0:=by simpa using q2
   refine decide_eq_decide.2 ⟨fun r=> .inr ⟨q2.symm,r⟩,fun r=> ?_⟩
   have:=of_decide_eq_false q
   omega
  ·have q2:¬p0.Fee*weightS p1=p1.Fee*weightS p0:=by simpa using q2
   have:=of_decide_eq_false q
   rw[decide_eq_false]
   omega
noncomputable def kht:Con TB.den:= .gp 50 [.sl (.st 1),.st 1] [.sl (.st 1)] [] fun(p0:List wC) (p1:wC)=>((VL p0/\p0.length<=100000)/\VR p1,(putL p0 p1:List wC),())
theorem kii:kht.Ok Tryz.prog TB:=qrx Bs [20,24,26,27,31] Tryz.func50 (.r 1 (.jn ⟨[],[],[5],[.one (zqi)],[]⟩ [] (.lp [] ⟨[],[],[5],[.one (zqi)],[]⟩ .no) [] (.r 0 (.rt [.frz 45 [4]])))) x0 (k2y.c c0) (Q:=∀(p0:List wC) (p1:wC),((VL p0/\p0.length<=100000)/\VR p1)->∀r0:List wC,putL p0 p1=r0-> 
 ∀J1:Int->Prop,(∀(b1:Int),
((0<=b1)/\b1<=(p0.length:Int)/\([]:List wC).length=([]:List wC).length/\(([]:List wC).length+(p0.take b1.toNat).length)*128<=140737488355328/\([]:List wC).length+(p0.take b1.toNat).length<=maxLen/\(([]:List wC)++(p0.take b1.toNat)).length=(([]:List wC)++(p0.take b1.toNat)).length/\[p1].length=[p1].length/\((([]:List wC)++(p0.take b1.toNat)).length+[p1].length)*128<=140737488355328/\(([]:List wC)++(p0.take b1.toNat)).length+[p1].length<=maxLen/\let v1:List wC:=(([]:List wC)++(p0.take b1.toNat))++[p1]
(0<=b1)/\b1<=(p0.length:Int)/\v1.length=v1.length/\(v1.length+(p0.drop b1.toNat).length)*128<=140737488355328/\v1.length+(p0.drop b1.toNat).length<=maxLen/\((v1++(p0.drop b1.toNat)).length=(v1++(p0.drop b1.toNat)).length)/\v1++(p0.drop b1.toNat)=r0)->J1 b1)->
 ∃(I1:Int->Prop) (M1:Int->Nat),I1 0/\∀(f1:Int),(I1 f1->
(decide (f1<(p0.length:Int))=true->
(0<=f1)/\f1<(p0.length:Int)/\((TR (ix p0 f1)/\TL (ix p0 f1))/\TR p1/\TL p1)/\((betB (ix p0 f1) p1)=true->
 I1 (i64.wrap (f1+1))/\M1 (i64.wrap (f1+1))<M1 f1)/\
((betB (ix p0 f1) p1)=false->
 J1 f1))/\
(decide (f1<(p0.length:Int))=false->
 J1 f1))) (by kernel_rfl)<|by
 rintro p0 p1 h _ rfl
 obtain⟨⟨hL,hn⟩,ht⟩:=h
 intro J1 kJ1
 have bb:∀{x:wC},x∈p0->betB x p1=betT x p1:=fun hx=>by
  unfold betB;rw[decide_eq_true (hL _ hx).v,decide_eq_true ht.v];simp
 have fin:∀k:Nat,k<=p0.length->p0.take k=p0.takeWhile (betT · p1)->p0.drop k=p0.dropWhile (betT · p1)->J1 (k:Int):=by
  intro k hk e1 e2
  refine kJ1 _ ?_
  simp only[Int.toNat_natCast,List.nil_append]
  have l1:(p0.take k).length=k:=by rw[List.length_take];omega
  have l2:(p0.drop k).length=p0.length-k:=List.length_drop ..
  refine⟨by omega,by omega,trivial,?_,?_,trivial,trivial,?_,?_,by omega,by omega,trivial,?_,?_,trivial,?_⟩<;>try simp only[List.length_append,List.length_nil,List.length_singleton,l1,l2]
  ·omega
  ·unfold maxLen;omega
  ·omega
  ·unfold maxLen;omega
  ·omega
  ·unfold maxLen;omega
  ·rw[e1,e2,List.append_assoc]
   rfl
 refine⟨(fun i=>∃k:Nat,i=(k:Int)/\k<=p0.length/\p0.takeWhile (betT · p1)=p0.take k++(p0.drop k).takeWhile (betT · p1)/\p0.dropWhile (betT · p1)=(p0.drop k).dropWhile (betT · p1)),fun i=>(p0.length-i).toNat,⟨0,rfl,by omega,rfl,rfl⟩,?_⟩
 rintro _ ⟨k,rfl,g1,g2,g3⟩
 refine⟨fun e=> ?_,fun e=> ?_⟩
 ·have e:k<p0.length:=by have:=of_decide_eq_true e;omega
  have hv:=hL _ (List.getElem_mem e)
  rw[ix_get _ _ e,inc_i64 _ (by omega),bb (List.getElem_mem e)]
  have hd:p0.drop k=p0[k]::p0.drop (k+1):=List.drop_eq_getElem_cons e
  refine⟨by omega,by omega,⟨⟨hv.r,hv.tl⟩,ht.r,ht.tl⟩,fun q=>⟨⟨k+1,rfl,by omega,?_,?_⟩,by(dsimp only;omega)⟩,fun q=>fin k g1 ?_ ?_⟩
  ·rw[g2,hd,List.takeWhile_cons,if_pos q,List.take_succ_eq_append_getElem e,List.append_assoc]
   rfl
  ·rw[g3,hd,List.dropWhile_cons,if_pos q]
  ·rw[g2,hd,List.takeWhile_cons,if_neg (by rw[q];decide),List.append_nil]
  ·rw[g3,hd,List.dropWhile_cons,if_neg (by rw[q];decide)]
 ·have e:k=p0.length:=by have:=of_decide_eq_false e;omega
  subst e
  refine fin _ (Nat.le_refl _) ?_ ?_
  ·rw[g2,List.drop_length];simp
  ·rw[g3,List.drop_length];rfl
noncomputable def kh7:Con TB.den:= .bp 32 [.st 7,.st 1] [.st 7,.sl yqu,yqi] fun(p0:wZ) (p1:wC)=>((PL p0.L/\p0.L.length<=1000/\0<=p0.wI)/\TR p1/\TL p1,addL p0.wI p0.L p1,fun R=>(((wZ.mk p0.wI (addL p0.wI p0.L p1).l):wZ),R.g,R.e,()))
theorem kik:kh7.Ok Tryz.prog TB:=qbv Bs Tryz.func32 (.r 7 (.nd [] (.lp [.tok 10 yqu] ⟨[23],[.tip yqu],[9,10],[.one (.d (.sl (.st 1))),.one (.own 0)],[]⟩ .no) [] .no)) (k1m.c (k1a.c (k63.c (k59.c (k4e.c (kii.c (k1y.c c0))))))) (Q:=∀(p0:wZ) (p1:wC),((PL p0.L/\p0.L.length<=1000/\0<=p0.wI)/\TR p1/\TL p1)->∀R,addL p0.wI p0.L p1=R-> 
(TR p1/\TL p1)/\(((validE p1) !=0)=true->
 p0.wI=p0.wI/\p0.L=(addL p0.wI p0.L p1).l/\([]:List Int)=R.g/\(validE p1)=R.e)/\
(((validE p1) !=0)=false->
(TR p1/\TL p1)/\(VL p0.L/\p0.L.length<=100000)/\(decide (0<=(fndL p0.L (idS p1)))=true->
 p0.wI=p0.wI/\p0.L=(addL p0.wI p0.L p1).l/\([]:List Int)=R.g/\5=R.e)/\
(decide (0<=(fndL p0.L (idS p1)))=false->
((VL p0.L/\p0.L.length<=100000)/\TR p1/\TL p1)/\let r3:List Int:=(if validE p1=0 then cfl p0.L p1 else [])
(decide (0<(r3.length:Int))=true->
 p0.wI=p0.wI/\p0.L=(addL p0.wI p0.L p1).l/\([]:List Int)=R.g/\12=R.e)/\
(decide (0<(r3.length:Int))=false->
(VR p1)/\(decide (p0.wI<(weightS p1))=true->
 p0.wI=p0.wI/\p0.L=(addL p0.wI p0.L p1).l/\([]:List Int)=R.g/\3=R.e)/\
(decide (p0.wI<(weightS p1))=false->
((VL p0.L/\p0.L.length<=100000)/\VR p1)/\(([]:List Int)=([]:List Int))/\∃(I1:(List wC)->(List Int)->Prop) (M1:(List wC)->(List Int)->Nat),I1 (putL p0.L p1) ([]:List Int)/\∀(b1:List wC) (f1:List Int),(I1 b1 f1->
(VL b1/\b1.length<=100000)/\(decide (p0.wI<(wL b1))=true->
(0<=i64.wrap ((b1.length:Int)-1))/\i64.wrap ((b1.length:Int)-1)<(b1.length:Int)/\(TR (ix b1 (i64.wrap ((b1.length:Int)-1)))/\TL (ix b1 (i64.wrap ((b1.length:Int)-1))))/\let r4:Int:=(idS (ix b1 (i64.wrap ((b1.length:Int)-1))))
((r4==(idS p1))=true->
 p0.wI=p0.wI/\p0.L=(addL p0.wI p0.L p1).l/\([]:List Int)=R.g/\16=R.e)/\
((r4==(idS p1))=false->
 f1.length=f1.length/\(f1.length+[r4].length)*8<=140737488355328/\f1.length+[r4].length<=maxLen/\(0<=i64.wrap ((b1.length:Int)-1))/\i64.wrap ((b1.length:Int)-1)<=(b1.length:Int)/\let v5:List wC:=b1.take (i64.wrap ((b1.length:Int)-1)).toNat
(f1++[r4]=f1++[r4])/\I1 v5 (f1++[r4])/\M1 v5 (f1++[r4])<M1 b1 f1))/\
(decide (p0.wI<(wL b1))=false->
 p0.wI=p0.wI/\b1=(addL p0.wI p0.L p1).l/\f1=R.g/\0=R.e))))))) (by kernel_rfl)<|by
 rintro p0 p1 h R hR
 obtain⟨⟨hP,hn,hc⟩,ht⟩:=h
 have hA:=hR
 rw[hR]
 clear hR
 unfold addL at hA
 refine⟨ht,fun e=> ?_,fun e=>⟨ht,⟨hP.v,by omega⟩,fun e2=> ?_,fun e2=>⟨⟨⟨hP.v,by omega⟩,ht⟩,?_⟩⟩⟩
 ·have e:¬validE p1=0:=by simpa using e
  rw[if_pos e]at hA
  subst hA
  exact⟨rfl,rfl,rfl,rfl⟩
 ·have e:validE p1=0:=by simpa using e
  have e2:=of_decide_eq_true e2
  rw[if_neg (by simp[e]),if_pos e2]at hA
  subst hA
  exact⟨rfl,rfl,rfl,rfl⟩
 ·have e:validE p1=0:=by simpa using e
  have e2:=of_decide_eq_false e2
  have hv:VR p1:=⟨e,ht.1⟩
  rw[if_neg (by simp[e]),if_neg e2]at hA
  rw[if_pos e]
  refine⟨fun e3=> ?_,fun e3=>⟨hv,fun e4=> ?_,fun e4=>⟨⟨⟨hP.v,by omega⟩,hv⟩,?_⟩⟩⟩
  ·have e3:cfl p0.L p1≠[]:=by have:=of_decide_eq_true e3;intro q;rw[q]at this;simp at this
   rw[if_pos e3]at hA
   subst hA
   exact⟨rfl,rfl,rfl,rfl⟩
  ·have e3:¬cfl p0.L p1≠[]:=by
    have:=of_decide_eq_false e3
    intro q
    have:=List.length_pos_iff.2 q
    omega
   rw[if_neg e3,if_pos (of_decide_eq_true e4)]at hA
   subst hA
   exact⟨rfl,rfl,rfl,rfl⟩
  ·have e3:¬cfl p0.L p1≠[]:=by
    have:=of_decide_eq_false e3
    intro q
    have:=List.length_pos_iff.2 q
    omega
   rw[if_neg e3,if_neg (of_decide_eq_false e4)]at hA
   have hpp:=hP.put hv (fun q=>e2 ((fnd_has _ _).2 q)) (Decidable.not_not.1 e3)
   have hpl:=put_len p0.L p1
   generalize putL p0.L p1=M at *
   refine⟨rfl,?_⟩
   refine⟨(fun b f=>∃k:Nat,k<=M.length/\b=M.take k/\f.length<=M.length-k/\evL p0.wI (idS p1) M M.length []=evL p0.wI (idS p1) M k f),fun b _=>b.length,⟨M.length,Nat.le_refl _,(List.take_length).symm,by simp,rfl⟩,?_⟩
   rintro _ f ⟨k,g1,rfl,g2,g3⟩
   have hl:(M.take k).length=k:=by rw[List.length_take];omega
   rw[hl]
   refine⟨⟨hpp.v.take k,by omega⟩,fun q=> ?_,fun q=> ?_⟩
   ·have q:=of_decide_eq_true q
    have hk:0<k:=by
     cases k with
     |zero=>simp[wL]at q;omega
     |succ k=>omega
    obtain⟨j,rfl⟩:∃j,k=j+1:=⟨k-1,by omega⟩
    have hj:j<M.length:=by omega
    have hx:ix (M.take (j+1)) ((j:Nat):Int)=M[j]:=by rw[ix_get _ _ (by omega)];simp
    have hx2:ix M ((j:Nat):Int)=M[j]:=ix_get _ _ hj
    have hvj:=hpp.v _ (List.getElem_mem hj)
    rw[evL,if_pos q,hx2]at g3
    rw[show(((j+1:Nat):Int)-1)=(j:Int)by omega,wi (j:Int) (by omega) (by omega),hx]
    refine⟨by omega,by omega,⟨hvj.r,hvj.tl⟩,fun r=> ?_,fun r=>⟨rfl,?_,?_,by omega,by omega,rfl,⟨j,by omega,?_,?_,?_⟩,?_⟩⟩
    ·have r:idS M[j]=idS p1:=by simpa using r
     rw[if_pos r]at g3
     rw[g3]at hA
     subst hA
     exact⟨rfl,rfl,rfl,rfl⟩
    ·simp only[List.length_singleton];omega
    ·simp only[List.length_singleton];unfold maxLen;omega
    ·rw[Int.toNat_natCast,List.take_take,Nat.min_eq_left (by omega)]
    ·rw[List.length_append,List.length_singleton];omega
    ·have r:¬idS M[j]=idS p1:=by simpa using r
     rw[g3,if_neg r]
    ·show(List.take _ (List.take (j+1) M)).length<(M.take (j+1)).length
     rw[Int.toNat_natCast,List.length_take,hl];omega
   ·have q:=of_decide_eq_false q
    have hE:evL p0.wI (idS p1) M k f=⟨true,f,k⟩:=by
     cases k with
     |zero=>rfl
     |succ k=>rw[evL,if_neg q]
    rw[g3,hE,if_pos rfl]at hA
    subst hA
    exact⟨rfl,rfl,rfl,rfl⟩
noncomputable def kcb:Con TB.den:= .gp 47 [.st 7,yqu] [.st 7,.bool] [] fun(p0:wZ) (p1:Int)=>(PL p0.L/\p0.L.length<=1000,(wZ.mk p0.wI (remL p0.L p1).l:wZ),((remL p0.L p1).b:Bool),())
theorem kdm:kcb.Ok Tryz.prog TB:=qrx Bs [16,21,27] Tryz.func47 (.r 3 (.rt [.frzc 54 1 1])) x0 (k63.c c0) (Q:=∀(p0:wZ) (p1:Int),(PL p0.L/\p0.L.length<=1000)->∀r0:wZ,(wZ.mk p0.wI (remL p0.L p1).l)=r0->∀r1:Bool,((remL p0.L p1).b)=r1-> 
(VL p0.L/\p0.L.length<=100000)/\(decide ((fndL p0.L p1)<0)=true->
 p0.wI=r0.wI/\p0.L=r0.L/\false=r1)/\
(decide ((fndL p0.L p1)<0)=false->
(0<=(fndL p0.L p1))/\(fndL p0.L p1)<=(p0.L.length:Int)/\([]:List wC).length=([]:List wC).length/\(([]:List wC).length+(p0.L.take (fndL p0.L p1).toNat).length)*128<=140737488355328/\([]:List wC).length+(p0.L.take (fndL p0.L p1).toNat).length<=maxLen/\let v2:List wC:=([]:List wC)++(p0.L.take (fndL p0.L p1).toNat)
(0<=i64.wrap ((fndL p0.L p1)+1))/\i64.wrap ((fndL p0.L p1)+1)<=(p0.L.length:Int)/\let v3:List wC:=p0.L.drop (i64.wrap ((fndL p0.L p1)+1)).toNat
 v2.length=v2.length/\(v2.length+v3.length)*128<=140737488355328/\v2.length+v3.length<=maxLen/\((v2++v3).length=(v2++v3).length)/\p0.wI=r0.wI/\v2++v3=r0.L/\true=r1)) (by kernel_rfl)<|by
 rintro p0 p1 h _ rfl _ rfl
 obtain⟨hP,hn⟩:=h
 have hb:=fnd_b p0.L p1
 unfold remL
 refine⟨⟨hP.v,by omega⟩,fun e=> ?_,fun e=> ?_⟩
 ·rw[if_pos (of_decide_eq_true e)]
  exact⟨rfl,rfl,rfl⟩
 ·have e:=of_decide_eq_false e
  rw[if_neg e]
  generalize fndL p0.L p1=i at *
  rw[wi (i+1) (by omega) (by omega),show(i+1).toNat=i.toNat+1 by omega]
  have l1:(p0.L.take i.toNat).length=i.toNat:=by rw[List.length_take];omega
  have l2:(p0.L.drop (i.toNat+1)).length=p0.L.length-(i.toNat+1):=List.length_drop ..
  simp only[List.nil_append]
  refine⟨by omega,by omega,trivial,?_,?_,by omega,by omega,trivial,?_,?_,trivial,(by first|exact rfl|exact True.intro),(by first|exact rfl|exact True.intro),(by first|exact rfl|exact True.intro)⟩<;>simp only[List.length_nil,l1,l2]
  ·omega
  ·unfold maxLen;omega
  ·omega
  ·unfold maxLen;omega
noncomputable def khq:Con TB.den:= .g ⟨23,[.one (zqi),.one (.d (.sl (.st 6)))],[],(.tup [.one (.ptr 0 0),.agg [zqi,.d (.sl (.st 1))],.one (.d (.bool))]),[.cells [zqi,.row 1],.vec (.st 2)],false⟩ [yqi,.sl (.st 6)] [.st 7,.bool,yqi,.sl (.st 2)] [] fun(p0:Int) (p1:List wo)=>(FA p1 [],(wZ.mk (capS p0) (runL (capS p0) p1):wZ),true,(capS p0:Int),(eL (runL (capS p0) p1):List wA),())
theorem k74:khq.Ok Tryz.prog TB:=prv Bs Tryz.func23 (.r 2 (.jn ⟨[3,1],[.cells [zqi,.d (.sl (.st 1))],.cells [zqi,.row 2],.vec (.st 2)],[9],[.one (.d (.bool))],[2]⟩ [] (.r 0 (.lp [] ⟨[3,1],[.cells [zqi,.d (.sl (.st 1))],.cells [zqi,.row 2],.vec (.st 2)],[9,28],[.one (.d (.bool)),.one (zqi)],[2]⟩ .no)) [] .no)) (k2o.c (k1a.c (kdm.c (k6m.c (kik.c (k26.c (k2u.c (k9r.c c0)))))))) (Q:=∀(p0:Int) (p1:List wo),(FA p1 [])->∀r1:wZ,(wZ.mk (capS p0) (runL (capS p0) p1))=r1->∀r2:Bool,(true:Bool)=r2->∀Ac:Int,capS p0=Ac->∀e1:List wA,(eL (runL (capS p0) p1))=e1-> 
 ∀J1:Bool->Int->(List wC)->Int->(List wA)->Prop,(∀(b1:Bool) (f1:Int) (i1:List wC) (k1:Int) (l1:List wA),
((l1.length=l1.length)/\f1=r1.wI/\i1=r1.L/\b1=r2/\k1=Ac/\l1=e1)->J1 b1 f1 i1 k1 l1)->
(([]:List wA).length=([]:List wA).length)/\∃(I1:Bool->Int->Int->(List wC)->Int->(List wA)->Prop) (M1:Bool->Int->Int->(List wC)->Int->(List wA)->Nat),I1 true 0 (if 0<p0 then p0 else 0) ([]:List wC) (if 0<p0 then p0 else 0) ([]:List wA)/\∀(m1:Bool) (n1 o1:Int) (q1:List wC) (s1:Int) (t1:List wA),(I1 m1 n1 o1 q1 s1 t1->
(decide (n1<(p1.length:Int))=true->
(0<=n1)/\n1<(p1.length:Int)/\((!m1)=true->
(t1.length=t1.length)/\J1 m1 o1 q1 s1 t1)/\
((!m1)=false->
((ix p1 n1).wz=true->
(TR (wC.mk ((ix p1 n1).wP) ((ix p1 n1).wT) ((ix p1 n1).wd) ((ix p1 n1).wM) ((ix p1 n1).wJ) ((ix p1 n1).wh) ((ix p1 n1).wN) ((ix p1 n1).wV) ((ix p1 n1).wO) ((ix p1 n1).wU))/\TL (wC.mk ((ix p1 n1).wP) ((ix p1 n1).wT) ((ix p1 n1).wd) ((ix p1 n1).wM) ((ix p1 n1).wJ) ((ix p1 n1).wh) ((ix p1 n1).wN) ((ix p1 n1).wV) ((ix p1 n1).wO) ((ix p1 n1).wU)))/\let r3:Int:=(idS (wC.mk ((ix p1 n1).wP) ((ix p1 n1).wT) ((ix p1 n1).wd) ((ix p1 n1).wM) ((ix p1 n1).wJ) ((ix p1 n1).wh) ((ix p1 n1).wN) ((ix p1 n1).wV) ((ix p1 n1).wO) ((ix p1 n1).wU)))
(PL (wZ.mk o1 q1).L/\(wZ.mk o1 q1).L.length<=1000)/\(t1.length=t1.length)/\(PW t1)/\let v4:Bool:=(((remL (tL t1) r3).b)==((remL (wZ.mk o1 q1).L r3).b))
((eL (remL (tL t1) r3).l).length=(eL (remL (tL t1) r3).l).length)/\I1 v4 (i64.wrap (n1+1)) ((wZ.mk o1 q1).wI) ((remL (wZ.mk o1 q1).L r3).l) s1 (eL (remL (tL t1) r3).l)/\M1 v4 (i64.wrap (n1+1)) ((wZ.mk o1 q1).wI) ((remL (wZ.mk o1 q1).L r3).l) s1 (eL (remL (tL t1) r3).l)<M1 m1 n1 o1 q1 s1 t1)/\
((ix p1 n1).wz=false->
((PL (wZ.mk o1 q1).L/\(wZ.mk o1 q1).L.length<=1000/\0<=(wZ.mk o1 q1).wI)/\TR (wC.mk ((ix p1 n1).wP) ((ix p1 n1).wT) ((ix p1 n1).wd) ((ix p1 n1).wM) ((ix p1 n1).wJ) ((ix p1 n1).wh) ((ix p1 n1).wN) ((ix p1 n1).wV) ((ix p1 n1).wO) ((ix p1 n1).wU))/\TL (wC.mk ((ix p1 n1).wP) ((ix p1 n1).wT) ((ix p1 n1).wd) ((ix p1 n1).wM) ((ix p1 n1).wJ) ((ix p1 n1).wh) ((ix p1 n1).wN) ((ix p1 n1).wV) ((ix p1 n1).wO) ((ix p1 n1).wU)))/\let r5:=addL (wZ.mk o1 q1).wI (wZ.mk o1 q1).L (wC.mk ((ix p1 n1).wP) ((ix p1 n1).wT) ((ix p1 n1).wd) ((ix p1 n1).wM) ((ix p1 n1).wJ) ((ix p1 n1).wh) ((ix p1 n1).wN) ((ix p1 n1).wV) ((ix p1 n1).wO) ((ix p1 n1).wU))
(TL (wC.mk ((ix p1 n1).wP) ((ix p1 n1).wT) ((ix p1 n1).wd) ((ix p1 n1).wM) ((ix p1 n1).wJ) ((ix p1 n1).wh) ((ix p1 n1).wN) ((ix p1 n1).wV) ((ix p1 n1).wO) ((ix p1 n1).wU)))/\(t1.length=t1.length)/\(PW t1/\0<=s1/\TR (wC.mk ((ix p1 n1).wP) ((ix p1 n1).wT) ((ix p1 n1).wd) ((ix p1 n1).wM) ((ix p1 n1).wJ) ((ix p1 n1).wh) ((ix p1 n1).wN) ((ix p1 n1).wV) ((ix p1 n1).wO) ((ix p1 n1).wU)))/\let r6:=addL s1 (tL t1) (wC.mk ((ix p1 n1).wP) ((ix p1 n1).wT) ((ix p1 n1).wd) ((ix p1 n1).wM) ((ix p1 n1).wJ) ((ix p1 n1).wh) ((ix p1 n1).wN) ((ix p1 n1).wV) ((ix p1 n1).wO) ((ix p1 n1).wU))
 let r7:List wA:=(eL (addL s1 (tL t1) (wC.mk ((ix p1 n1).wP) ((ix p1 n1).wT) ((ix p1 n1).wd) ((ix p1 n1).wM) ((ix p1 n1).wJ) ((ix p1 n1).wh) ((ix p1 n1).wN) ((ix p1 n1).wV) ((ix p1 n1).wO) ((ix p1 n1).wU))).l)
((r5.e==r6.e)=true->
(r6.g.length<=100000)/\(r7.length=r7.length)/\I1 (decide (r6.g=r5.g)) (i64.wrap (n1+1)) ((wZ.mk o1 q1).wI) r5.l s1 r7/\M1 (decide (r6.g=r5.g)) (i64.wrap (n1+1)) ((wZ.mk o1 q1).wI) r5.l s1 r7<M1 m1 n1 o1 q1 s1 t1)/\
((r5.e==r6.e)=false->
(r7.length=r7.length)/\I1 false (i64.wrap (n1+1)) ((wZ.mk o1 q1).wI) r5.l s1 r7/\M1 false (i64.wrap (n1+1)) ((wZ.mk o1 q1).wI) r5.l s1 r7<M1 m1 n1 o1 q1 s1 t1))))/\
(decide (n1<(p1.length:Int))=false->
(t1.length=t1.length)/\J1 m1 o1 q1 s1 t1))) (by kernel_rfl)<|by
 rintro p0 p1 h _ rfl _ rfl _ rfl _ rfl
 have ha:=h.a
 have hc:=capS_nn p0
 intro J1 kJ1
 rw[show(if 0<p0 then p0 else 0)=capS p0 from rfl]
 generalize capS p0=c at *
 refine⟨rfl,?_⟩
 refine⟨(fun m n o q s t=>m=true/\o=c/\s=c/\∃k:Nat,n=(k:Int)/\k<=p1.length/\q=runL c (p1.take k)/\t=eL q),fun _ n _ _ _ _=>(p1.length-n).toNat,⟨rfl,rfl,rfl,0,rfl,by omega,rfl,rfl⟩,?_⟩
 rintro _ _ o _ s _ ⟨rfl,ho,hs,k,rfl,g1,rfl,rfl⟩
 subst o
 subst s
 obtain⟨q1,q2⟩:=run_ok (c:=c) (fun o ho=>(h.r o ho).1) k g1
 refine⟨fun e=> ?_,fun e=> ?_⟩
 ·have e:k<p1.length:=by have:=of_decide_eq_true e;omega
  have hr:=h.r _ (List.getElem_mem e)
  have q3:(wZ.mk c (runL c (p1.take k))).L.length<=1000:=by show(runL c (p1.take k)).length<=_;omega
  have hst:=k5r (c:=c) e
  obtain⟨s1,s2⟩:=run_ok (c:=c) (fun o ho=>(h.r o ho).1) (k+1) e
  rw[hst]at s1 s2
  rw[ix_get _ _ e,inc_i64 _ (by omega)]
  refine⟨by omega,by omega,fun z=>(by cases z),fun _=>⟨fun z=> ?_,fun z=> ?_⟩⟩
  ·refine⟨hr,⟨q1,q3⟩,rfl,PW.of q1 (by omega),rfl,?_⟩
   rw[tL_eL]
   refine⟨⟨beq_self_eq_true _,rfl,rfl,k+1,rfl,by omega,?_,rfl⟩,by(dsimp only;omega)⟩
   rw[hst]
   unfold stepL
   rw[if_pos z]
  ·have hadd:stepL c (runL c (p1.take k)) p1[k]=(addL c (runL c (p1.take k)) (opT p1[k])).l:=by unfold stepL;rw[if_neg (by rw[z];decide)]
   have hg:=klc (L:=runL c (p1.take k)) (t:=opT p1[k]) hc
   refine⟨⟨⟨q1,q3,hc⟩,hr⟩,hr.2,rfl,⟨PW.of q1 (by omega),hc,hr.1⟩,?_⟩
   dsimp only
   rw[tL_eL]
   refine⟨fun y=>⟨by show(addL c (runL c (p1.take k)) (opT p1[k])).g.length<=_;omega,rfl,⟨decide_eq_true rfl,rfl,rfl,k+1,rfl,by omega,?_,rfl⟩,by omega⟩,fun y=> ?_⟩
   ·rw[hst,hadd]
   ·rw[beq_self_eq_true]at y;cases y
 ·have e:k=p1.length:=by have:=of_decide_eq_false e;omega
  rw[List.take_of_length_le (by omega)]
  exact⟨rfl,kJ1 _ _ _ _ _ ⟨rfl,rfl,rfl,rfl,rfl,rfl⟩⟩
noncomputable def ke4:Con TB.den:= .g ⟨21,[.one (.ptr 0 0)],[.cells [zqi,.row 1],.vec (.st 2)],(.one (.one (.d (.sl (.st 1))))),[.cells [zqi,.row 1],.vec (.st 2)],false⟩ [yqi,.sl (.st 2)] [.sl (.st 1),yqi,.sl (.st 2)] [] fun(Aa:Int) (w1:List wA)=>(EL w1,(tL w1:List wC),Aa,w1,())
theorem k3j:ke4.Ok Tryz.prog TB:=prv Bs Tryz.func21 (.r 1 (.nd [] (.r 0 (.lp [.frz 2 [3]] ⟨[3],[.tip (.st 1)],[3,17],[.one (.own 0),.one (zqi)],[]⟩ .no)) [] .no)) (k4z.c c0) (Q:=∀(Aa:Int) (w1:List wA),(EL w1)->∀r0:List wC,tL w1=r0->∀Ac:Int,Aa=Ac->∀e1:List wA,w1=e1-> 
 0<=(0:Int)/\(0:Int)<=(w1.length:Int)/\((w1.length:Int).toNat*128<=140737488355328)/\((w1.length:Int).toNat<=maxLen)/\(0=(List.replicate 0 (default:wC)).length)/\(List.replicate 0 (default:wC)=List.replicate 0 (default:wC))/\∃(I1:Int->(List wC)->Prop) (M1:Int->(List wC)->Nat),I1 0 (List.replicate 0 (default:wC))/\∀(b1:Int) (f1:List wC),(I1 b1 f1->
(decide (b1<(w1.length:Int))=true->
(0<=b1/\b1<(w1.length:Int))/\(0<=b1/\b1<(w1.length:Int))/\(TL (wC.mk ((ix w1 b1).wv) ((ix w1 b1).we) ((ix w1 b1).wAA) ((ix w1 b1).wl) ((ix w1 b1).wt) ((ix w1 b1).wX) ((ix w1 b1).wm) ((ix w1 b1).wq) ((ix w1 b1).ww) ((ix w1 b1).wx)))/\let v1:List wC:=[wC.mk ((ix w1 b1).wv) ((ix w1 b1).we) ((ix w1 b1).wAA) ((ix w1 b1).wl) ((ix w1 b1).wt) ((ix w1 b1).wX) ((ix w1 b1).wm) ((ix w1 b1).wq) ((ix w1 b1).ww) ((ix w1 b1).wx)]
 f1.length=f1.length/\(f1.length+v1.length)*128<=140737488355328/\f1.length+v1.length<=maxLen/\(f1++v1=f1++v1)/\I1 (i64.wrap (b1+1)) (f1++v1)/\M1 (i64.wrap (b1+1)) (f1++v1)<M1 b1 f1)/\
(decide (b1<(w1.length:Int))=false->
(w1.length=w1.length)/\f1=r0/\Aa=Ac/\w1=e1))) (by kernel_rfl)<|by
 rintro Aa w1 h _ rfl _ rfl _ rfl
 obtain⟨L,rfl,hL,hn⟩:=h.at
 rw[tL_eL,eL_len]
 have e0:List.replicate 0 (default:wC)=[]:=rfl
 rw[e0]
 refine⟨by omega,by omega,by omega,by unfold maxLen;omega,rfl,rfl,?_⟩
 refine⟨(fun i f=>∃k:Nat,i=(k:Int)/\k<=L.length/\f=L.take k),fun i _=>(L.length-i).toNat,⟨0,rfl,by omega,rfl⟩,?_⟩
 rintro _ _ ⟨k,rfl,g1,rfl⟩
 refine⟨fun e=> ?_,fun e=> ?_⟩
 ·have e:k<L.length:=by have:=of_decide_eq_true e;omega
  have hv:=hL _ (List.getElem_mem e)
  rw[eL_ix e,inc_i64 _ (by omega)]
  have hl:(L.take k).length=k:=by rw[List.length_take];omega
  refine⟨by omega,by omega,hv.tl,rfl,?_,?_,rfl,⟨k+1,rfl,by omega,?_⟩,by(dsimp only;omega)⟩
  ·rw[hl,List.length_singleton];omega
  ·rw[hl,List.length_singleton];unfold maxLen;omega
  ·rw[List.take_succ_eq_append_getElem e];rfl
 ·have e:k=L.length:=by have:=of_decide_eq_false e;omega
  rw[List.take_of_length_le (by omega)]
  exact⟨rfl,rfl,rfl,rfl⟩
noncomputable def k95:Con TB.den:= .gp 67 [.sl yqb,.sl yqb] [.bool] [] fun(p0 p1:List Int)=>(p0.length<=9223372036854775807,(decide (p0=p1):Bool),())
theorem kae:k95.Ok Tryz.prog TB:=qrv Bs Tryz.func67 (.r 1 (.nd [] (.r 0 (.lp [] ⟨[],[],[5],[.one (zqi)],[]⟩ .no)) [] .no)) c0 (Q:=∀(p0 p1:List Int),(p0.length<=9223372036854775807)->∀r0:Bool,(decide (p0=p1))=r0-> 
(((p0.length:Int) !=(p1.length:Int))=true->
 false=r0)/\
(((p0.length:Int) !=(p1.length:Int))=false->
 ∃(I1:Int->Prop) (M1:Int->Nat),I1 0/\∀(b1:Int),(I1 b1->
(decide (b1<(p0.length:Int))=true->
(0<=b1)/\b1<(p0.length:Int)/\(0<=b1)/\b1<(p1.length:Int)/\(((ix p0 b1) !=(ix p1 b1))=true->
 false=r0)/\
(((ix p0 b1) !=(ix p1 b1))=false->
 I1 (i64.wrap (b1+1))/\M1 (i64.wrap (b1+1))<M1 b1))/\
(decide (b1<(p0.length:Int))=false->
 true=r0)))) (by kernel_rfl)<|by
 rintro p0 p1 h _ rfl
 refine⟨fun e=> ?_,fun e=> ?_⟩
 ·have e:¬(p0.length:Int)=p1.length:=by simpa using e
  rw[decide_eq_false (by rintro rfl;exact e rfl)]
 ·have e:(p0.length:Int)=p1.length:=by simpa using e
  refine⟨(fun i=>0<=i/\i<=p0.length/\p0.take i.toNat=p1.take i.toNat),(fun i=>(p0.length-i).toNat),⟨by omega,by omega,by simp⟩,?_⟩
  rintro i ⟨g0,g1,g2⟩
  refine⟨fun hh=> ?_,fun hh=> ?_⟩
  ·have hh:=of_decide_eq_true hh
   refine⟨g0,hh,g0,by omega,fun e2=> ?_,fun e2=> ?_⟩
   ·have e2:¬ix p0 i=ix p1 i:=by simpa using e2
    rw[decide_eq_false (by rintro rfl;exact e2 rfl)]
   ·have e2:ix p0 i=ix p1 i:=by simpa using e2
    rw[inc i p0.length g0 hh (by omega)]
    refine⟨⟨by omega,by omega,?_⟩,by(dsimp only;omega)⟩
    rw[kb p0 i g0 hh,kb p1 i g0 (by omega),g2,e2]
  ·have hh:=of_decide_eq_false hh
   rw[List.take_of_length_le (by omega),List.take_of_length_le (by omega)]at g2
   rw[decide_eq_true g2]
noncomputable def kg8:Con TB.den:= .gp 46 [.st 1,.st 1] [.bool] [] fun(p0 p1:wC)=>(TD p0/\TD p1,(sameT p0 p1:Bool),())
theorem kha:kg8.Ok Tryz.prog TB:=qrv Bs Tryz.func46 (.r 1 (.nd [] (.r 0 (.lp [] ⟨[],[],[5],[.one (zqi)],[]⟩ .no)) [] .no)) (k4x.c (kae.c c0)) (Q:=∀(p0 p1:wC),(TD p0/\TD p1)->∀r0:Bool,sameT p0 p1=r0-> 
 let v1:Bool:=((p0.wB.length:Int) !=(p1.wB.length:Int))
(v1=true->
 false=r0)/\
(v1=false->
((p0.wK !=p1.wK)=true->
 false=r0)/\
((p0.wK !=p1.wK)=false->
 ∃(I1:Int->Prop) (M1:Int->Nat),I1 0/\∀(b1:Int),(I1 b1->
(decide (b1<(p0.wB.length:Int))=true->
(0<=b1)/\b1<(p0.wB.length:Int)/\(0<=b1)/\b1<(p1.wB.length:Int)/\let v2:Bool:=((((ix p0.wB b1).wE).length:Int) !=(((ix p1.wB b1).wE).length:Int))
(v2=true->
 false=r0)/\
(v2=false->
 I1 (i64.wrap (b1+1))/\M1 (i64.wrap (b1+1))<M1 b1))/\
(decide (b1<(p0.wB.length:Int))=false->
(TR p0/\TL p0/\p0.wB.length<=1048576/\(∀x∈p0.wB,x.wE.length<=1024))/\(TR p1/\TL p1/\p1.wB.length<=1048576/\(∀x∈p1.wB,x.wE.length<=1024))/\((encT p0 p0.wR).length<=9223372036854775807)/\let r3:Bool:=(decide ((encT p0 p0.wR)=(encT p1 p1.wR)))
 r3=r0))))) (by kernel_rfl)<|by
 rintro p0 p1 h _ rfl
 obtain⟨⟨hr,hl,ho,hc⟩,hr',hl',ho',hc'⟩:=h
 refine⟨fun e=> ?_,fun e=>⟨fun e2=> ?_,fun e2=> ?_⟩⟩
 ·have e:¬((p0.wB.length:Int)=p1.wB.length):=by simpa using e
  unfold sameT
  rw[decide_eq_false (by omega)]
  rfl
 ·have e2:¬p0.wK=p1.wK:=by simpa using e2
  unfold sameT
  simp[e2]
 have e:(p0.wB.length:Int)=p1.wB.length:=by simpa using e
 have e2:p0.wK=p1.wK:=by simpa using e2
 refine⟨(fun i=>0<=i/\i<=p0.wB.length/\(p0.wB.take i.toNat).map (·.wE.length)=(p1.wB.take i.toNat).map (·.wE.length)),(fun i=>(p0.wB.length-i).toNat),⟨by omega,by omega,by simp⟩,?_⟩
 rintro i ⟨g0,g1,g2⟩
 refine⟨fun hh=> ?_,fun hh=> ?_⟩
 ·have hh:=of_decide_eq_true hh
  refine⟨g0,hh,g0,by omega,fun e3=> ?_,fun e3=> ?_⟩
  ·have e3:¬(((ix p0.wB i).wE.length:Int)=(ix p1.wB i).wE.length):=by simpa using e3
   unfold sameT
   rw[decide_eq_false (p:=p0.wB.map _=p1.wB.map _)]
   ·simp
   ·intro h
    have h2:=congrArg (fun l=>l[i.toNat]?) h
    simp only[List.getElem?_map]at h2
    rw[List.getElem?_eq_getElem (by omega),List.getElem?_eq_getElem (by omega)]at h2
    rw[ix_nat _ i g0 hh,ix_nat _ i g0 (by omega)]at e3
    simp at h2
    omega
  ·have e3:(((ix p0.wB i).wE.length:Int)=(ix p1.wB i).wE.length):=by simpa using e3
   rw[inc i p0.wB.length g0 hh (by omega)]
   refine⟨⟨by omega,by omega,?_⟩,by(dsimp only;omega)⟩
   rw[kb _ i g0 hh,kb _ i g0 (by omega),List.map_append,List.map_append,g2]
   simp
   omega
 ·have hh:=of_decide_eq_false hh
  rw[List.take_of_length_le (by omega),List.take_of_length_le (by omega)]at g2
  simp only[TTx_eta]
  have hlen:=k1n p0.wB 1024 hc
  refine⟨⟨hr,hl,ho,hc⟩,⟨hr',hl',ho',hc'⟩,?_,?_⟩
  ·rw[k9p]
   have:=hl.m
   have:=hl.p
   have:(28+8*1024)*p0.wB.length<=(28+8*1024)*1048576:=Nat.mul_le_mul_left _ ho
   omega
  ·unfold sameT
   rw[decide_eq_true (p:=p0.wB.length=p1.wB.length) (by omega),decide_eq_true g2,beq_iff_eq.2 e2]
   simp
noncomputable def kgl:Con TB.den:= .gp 22 [.sl (.st 1),.sl (.st 1)] [.bool] [] fun(p0 p1:List wC)=>((∀t∈p0,TD t)/\(∀t∈p1,TD t)/\p0.length<=100000,(sameL p0 p1:Bool),())
theorem k9l:kgl.Ok Tryz.prog TB:=qrv Bs Tryz.func22 (.r 1 (.nd [] (.r 0 (.lp [] ⟨[],[],[5],[.one (zqi)],[]⟩ .no)) [] .no)) (kha.c c0) (Q:=∀(p0 p1:List wC),((∀t∈p0,TD t)/\(∀t∈p1,TD t)/\p0.length<=100000)->∀r0:Bool,sameL p0 p1=r0-> 
(((p0.length:Int) !=(p1.length:Int))=true->
 false=r0)/\
(((p0.length:Int) !=(p1.length:Int))=false->
 ∃(I1:Int->Prop) (M1:Int->Nat),I1 0/\∀(b1:Int),(I1 b1->
(decide (b1<(p0.length:Int))=true->
(0<=b1)/\b1<(p0.length:Int)/\(0<=b1)/\b1<(p1.length:Int)/\(TD (ix p0 b1)/\TD (ix p1 b1))/\((!(sameT (ix p0 b1) (ix p1 b1)))=true->
 false=r0)/\
((!(sameT (ix p0 b1) (ix p1 b1)))=false->
 I1 (i64.wrap (b1+1))/\M1 (i64.wrap (b1+1))<M1 b1))/\
(decide (b1<(p0.length:Int))=false->
 true=r0)))) (by kernel_rfl)<|by
  rintro p0 p1 h _ rfl
  obtain⟨h0,h1,hn⟩:=h
  refine⟨fun e=> ?_,fun e=> ?_⟩
  · have e : ¬ p0.length = p1.length := by have:¬(p0.length:Int)=p1.length:=by simpa using e; 
                                           omega
    unfold sameL
    rw[decide_eq_false e]
    rfl
  · have e : p0.length = p1.length := by have:(p0.length:Int)=p1.length:=by simpa using e; 
                                         omega
    refine⟨(fun i=>∃k:Nat,i=(k:Int)/\k<=p0.length/\∀j (hj:j<k) (a:j<p0.length) (b:j<p1.length),sameT p0[j] p1[j]=true),fun i=>(p0.length-i).toNat,⟨0,rfl,by omega,fun j hj=>by omega⟩,?_⟩
    rintro _ ⟨k,rfl,g1,g2⟩
    refine⟨fun c=> ?_,fun c=> ?_⟩
    · have c:k<p0.length:=by have:=of_decide_eq_true c;omega
      rw[ix_get _ _ c,ix_get _ _ (show k<p1.length by omega),inc_i64 _ (by omega)]
      refine⟨by omega,by omega,by omega,by omega,⟨h0 _ (List.getElem_mem c),h1 _ (List.getElem_mem _)⟩,fun q=> ?_,fun q=>⟨⟨k+1,rfl,by omega,fun j hj a b=> ?_⟩,by(dsimp only;omega)⟩⟩
      · refine(kle c (by omega) ?_).symm
        cases hs:sameT p0[k] p1[k]with
        |false=>rfl
        |true=>rw[hs]at q;cases q
      · by_cases ej:j=k
        · subst ej
          cases hs:sameT p0[j] p1[j]with
          |true=>rfl
          |false=>rw[hs]at q;cases q
        · exact g2 j (by omega) a b
    · have c:k=p0.length:=by have:=of_decide_eq_false c;omega
      exact(kd8 e fun j a b=>g2 j (by omega) a b).symm
noncomputable def kfa:Con TB.den:= .g ⟨24,[.one (.ptr 0 0),.agg [zqi,.d (.sl (.st 1))]],[.cells [zqi,.row 1],.vec (.st 2)],(.one (.one (.d (.bool)))),[.cells [zqi,.row 1],.vec (.st 2)],false⟩ [.st 7,yqi,.sl (.st 2)] [.bool,yqi,.sl (.st 2)] [] fun(p1:wZ) (Aa:Int) (w1:List wA)=>(EL w1/\VL p1.L/\p1.L.length<=100000,(sameL (tL w1) p1.L&&(wL (tL w1)==wL p1.L):Bool),Aa,w1,())
theorem k9h:kfa.Ok Tryz.prog TB:=prv Bs Tryz.func24 .no (k3j.c (k9l.c (k1p.c (k1y.c c0)))) (Q:=∀(p1:wZ) (Aa:Int) (w1:List wA),(EL w1/\VL p1.L/\p1.L.length<=100000)->∀r0:Bool,(sameL (tL w1) p1.L&&(wL (tL w1)==wL p1.L))=r0->∀Ac:Int,Aa=Ac->∀e1:List wA,w1=e1-> 
(w1.length=w1.length)/\(EL w1)/\((∀t∈(tL w1),TD t)/\(∀t∈p1.L,TD t)/\(tL w1).length<=100000)/\((sameL (tL w1) p1.L)=true->
(w1.length=w1.length)/\(EL w1)/\(VL p1.L/\p1.L.length<=100000)/\(w1.length=w1.length)/\((wL (tL w1))==(wL p1.L))=r0/\Aa=Ac/\w1=e1)/\
((sameL (tL w1) p1.L)=false->
(w1.length=w1.length)/\false=r0/\Aa=Ac/\w1=e1)) (by kernel_rfl)<|by
 rintro p1 Aa w1 h _ rfl _ rfl _ rfl
 obtain⟨hE,hV,hn⟩:=h
 have hn1:=hE.n
 have hl:(tL w1).length=w1.length:=by simp[tL]
 refine⟨rfl,hE,⟨fun t ht=>(hE.v t ht).td,fun t ht=>(hV t ht).td,by omega⟩,fun e=> ?_,fun e=> ?_⟩
 ·rw[e,Bool.true_and]
  exact⟨rfl,hE,⟨hV,hn⟩,rfl,rfl,rfl,rfl⟩
 ·rw[e,Bool.false_and]
  exact⟨rfl,rfl,rfl,rfl⟩
noncomputable def km:Con TB.den:= .gp 5 [yqi,.sl (.st 6)] [.bool] [] fun(p0:Int) (p1:List wo)=>(OA p1 [],true,())
theorem k4g:km.Ok Tryz.prog TB:=qrv Bs Tryz.func5 .no (k2j.c (k3k.c (k74.c (k9h.c c0)))) (Q:=∀(p0:Int) (p1:List wo),(OA p1 [])->∀r0:Bool,(true:Bool)=r0-> 
((!true)=true->
 false=r0)/\
((!true)=false->
(OA p1 ([]:List wC))/\((!(fewB p1 ([]:List wC)))=true->
 true=r0)/\
((!(fewB p1 ([]:List wC)))=false->
(FA p1 [])/\(true=true->
((eL (runL (capS p0) p1)).length=(eL (runL (capS p0) p1)).length)/\(EL (eL (runL (capS p0) p1))/\VL (wZ.mk (capS p0) (runL (capS p0) p1)).L/\(wZ.mk (capS p0) (runL (capS p0) p1)).L.length<=100000)/\let r1:Bool:=(sameL (tL (eL (runL (capS p0) p1))) (wZ.mk (capS p0) (runL (capS p0) p1)).L&&(wL (tL (eL (runL (capS p0) p1)))==wL (wZ.mk (capS p0) (runL (capS p0) p1)).L))
 r1=r0)/\
(true=false->
 false=r0)))) (by kernel_rfl)<|by
 rintro p0 p1 h _ rfl
 refine⟨fun e=>(by cases e),fun _=>⟨h,fun e=>rfl,fun e=> ?_⟩⟩
 have e:fewB p1 []=true:=by simpa using e
 have hf:=few_fa h e
 obtain⟨q1,q2⟩:=run_all (c:=capS p0) hf
 refine⟨hf,fun _=>⟨rfl,⟨EL.of q1.v (by omega),q1.v,by show(runL (capS p0) p1).length<=_;omega⟩,?_⟩,fun z=>(by cases z)⟩
 rw[tL_eL,k7f,beq_self_eq_true]
 rfl
noncomputable def k8t:Con TB.den:= .g ⟨26,[.one (.ptr 0 0),.agg [zqu,zql,.d (.sl (.st 0)),zqu,zqu,zqu,zqu,zqu,zqi,.d (.sl yqb)]],[.cells [zqi,.row 1],.vec (.st 2)],(.one (.one (zql))),[.cells [zqi,.row 1],.vec (.st 2)],false⟩ [.st 1,yqi,.sl (.st 2)] [.sl yqu,yqi,.sl (.st 2)] [] fun(p1:wC) (Aa:Int) (w1:List wA)=>(TR p1/\EL w1,((if validE p1=0 then cfl (tL w1) p1 else []):List Int),Aa,w1,())
theorem k9a:k8t.Ok Tryz.prog TB:=prv Bs Tryz.func26 .no (k27.c (k4j.c c0)) (Q:=∀(p1:wC) (Aa:Int) (w1:List wA),(TR p1/\EL w1)->∀r0:List Int,((if validE p1=0 then cfl (tL w1) p1 else []):List Int)=r0->∀Ac:Int,Aa=Ac->∀e1:List wA,w1=e1-> 
(TR p1)/\let r1:=if validE p1=0 then eOf p1 else default
(((validE p1) !=0)=true->
(w1.length=w1.length)/\([]:List Int)=r0/\Aa=Ac/\w1=e1)/\
(((validE p1) !=0)=false->
(w1.length=w1.length)/\((∃t,r1=eOf t/\VR t)/\EL w1)/\(w1.length=w1.length)/\(cfl (tL w1) (tOf r1))=r0/\Aa=Ac/\w1=e1)) (by kernel_rfl)<|by
 rintro p1 Aa w1 h _ rfl _ rfl _ rfl
 obtain⟨hr,hE⟩:=h
 refine⟨hr,fun e=> ?_,fun e=> ?_⟩
 ·have e:¬validE p1=0:=by simpa using e
  rw[if_neg e]
  exact⟨rfl,rfl,rfl,rfl⟩
 ·have e:validE p1=0:=by simpa using e
  rw[if_pos e,if_pos e]
  exact⟨rfl,⟨⟨_,rfl,e,hr⟩,hE⟩,rfl,rfl,rfl,rfl⟩
noncomputable def kn:Con TB.den:= .gp 6 [yqi,.sl (.st 6),.st 1] [.bool] [] fun(p0:Int) (p1:List wo) (p2:wC)=>(OA p1 [p2],true,())
theorem k5m:kn.Ok Tryz.prog TB:=qrv Bs Tryz.func6 (.r 4 (.nd [] (.r 0 (.lp [] ⟨[],[],[54],[.one (zqi)],[]⟩ .no)) [] .no)) (k2j.c (k3k.c (k74.c (k26.c (k9a.c (k59.c (k9r.c (k1a.c (k42.c (k63.c (k4i.c (k2y.c c0)))))))))))) (Q:=∀(p0:Int) (p1:List wo) (p2:wC),(OA p1 [p2])->∀r0:Bool,(true:Bool)=r0-> 
((!true)=true->
 false=r0)/\
((!true)=false->
(OA p1 [p2])/\((!(fewB p1 [p2]))=true->
 true=r0)/\
((!(fewB p1 [p2]))=false->
(FA p1 [])/\((!true)=true->
 false=r0)/\
((!true)=false->
(TL p2)/\((eL (runL (capS p0) p1)).length=(eL (runL (capS p0) p1)).length)/\(TR p2/\EL (eL (runL (capS p0) p1)))/\let r1:List Int:=(if validE p2=0 then cfl (tL (eL (runL (capS p0) p1))) p2 else [])
((VL (wZ.mk (capS p0) (runL (capS p0) p1)).L/\(wZ.mk (capS p0) (runL (capS p0) p1)).L.length<=100000)/\TR p2/\TL p2)/\let r2:List Int:=(if validE p2=0 then cfl (wZ.mk (capS p0) (runL (capS p0) p1)).L p2 else [])
(r1.length<=100000)/\((!(decide (r1=r2)))=true->
 false=r0)/\
((!(decide (r1=r2)))=false->
(TR p2/\TL p2)/\((eL (runL (capS p0) p1)).length=(eL (runL (capS p0) p1)).length)/\((eL (runL (capS p0) p1)).length<=1000000)/\let r3:Bool:=(decide (0<=idxI ((eL (runL (capS p0) p1)).map (·.id)) (idS p2)))
(TR p2/\TL p2)/\(VL (runL (capS p0) p1)/\(runL (capS p0) p1).length<=100000)/\let v4:Bool:=decide (0<=(fndL (runL (capS p0) p1) (idS p2)))
((!(r3==v4))=true->
 false=r0)/\
((!(r3==v4))=false->
 ∃(I1:Int->Prop) (M1:Int->Nat),I1 0/\∀(b1:Int),(I1 b1->
(decide (b1<(p1.length:Int))=true->
(0<=b1)/\b1<(p1.length:Int)/\(TL (wC.mk ((ix p1 b1).wP) ((ix p1 b1).wT) ((ix p1 b1).wd) ((ix p1 b1).wM) ((ix p1 b1).wJ) ((ix p1 b1).wh) ((ix p1 b1).wN) ((ix p1 b1).wV) ((ix p1 b1).wO) ((ix p1 b1).wU)))/\(TL p2)/\(TR (wC.mk ((ix p1 b1).wP) ((ix p1 b1).wT) ((ix p1 b1).wd) ((ix p1 b1).wM) ((ix p1 b1).wJ) ((ix p1 b1).wh) ((ix p1 b1).wN) ((ix p1 b1).wV) ((ix p1 b1).wO) ((ix p1 b1).wU))/\TR p2)/\let r5:Bool:=(betB (wC.mk ((ix p1 b1).wP) ((ix p1 b1).wT) ((ix p1 b1).wd) ((ix p1 b1).wM) ((ix p1 b1).wJ) ((ix p1 b1).wh) ((ix p1 b1).wN) ((ix p1 b1).wV) ((ix p1 b1).wO) ((ix p1 b1).wU)) p2)
((TR (wC.mk ((ix p1 b1).wP) ((ix p1 b1).wT) ((ix p1 b1).wd) ((ix p1 b1).wM) ((ix p1 b1).wJ) ((ix p1 b1).wh) ((ix p1 b1).wN) ((ix p1 b1).wV) ((ix p1 b1).wO) ((ix p1 b1).wU))/\TL (wC.mk ((ix p1 b1).wP) ((ix p1 b1).wT) ((ix p1 b1).wd) ((ix p1 b1).wM) ((ix p1 b1).wJ) ((ix p1 b1).wh) ((ix p1 b1).wN) ((ix p1 b1).wV) ((ix p1 b1).wO) ((ix p1 b1).wU)))/\TR p2/\TL p2)/\let r6:Bool:=(betB (wC.mk ((ix p1 b1).wP) ((ix p1 b1).wT) ((ix p1 b1).wd) ((ix p1 b1).wM) ((ix p1 b1).wJ) ((ix p1 b1).wh) ((ix p1 b1).wN) ((ix p1 b1).wV) ((ix p1 b1).wO) ((ix p1 b1).wU)) p2)
((!(r5==r6))=true->
 false=r0)/\
((!(r5==r6))=false->
(TL p2)/\(TL (wC.mk ((ix p1 b1).wP) ((ix p1 b1).wT) ((ix p1 b1).wd) ((ix p1 b1).wM) ((ix p1 b1).wJ) ((ix p1 b1).wh) ((ix p1 b1).wN) ((ix p1 b1).wV) ((ix p1 b1).wO) ((ix p1 b1).wU)))/\(TR p2/\TR (wC.mk ((ix p1 b1).wP) ((ix p1 b1).wT) ((ix p1 b1).wd) ((ix p1 b1).wM) ((ix p1 b1).wJ) ((ix p1 b1).wh) ((ix p1 b1).wN) ((ix p1 b1).wV) ((ix p1 b1).wO) ((ix p1 b1).wU)))/\let r7:Bool:=(betB p2 (wC.mk ((ix p1 b1).wP) ((ix p1 b1).wT) ((ix p1 b1).wd) ((ix p1 b1).wM) ((ix p1 b1).wJ) ((ix p1 b1).wh) ((ix p1 b1).wN) ((ix p1 b1).wV) ((ix p1 b1).wO) ((ix p1 b1).wU)))
((TR p2/\TL p2)/\TR (wC.mk ((ix p1 b1).wP) ((ix p1 b1).wT) ((ix p1 b1).wd) ((ix p1 b1).wM) ((ix p1 b1).wJ) ((ix p1 b1).wh) ((ix p1 b1).wN) ((ix p1 b1).wV) ((ix p1 b1).wO) ((ix p1 b1).wU))/\TL (wC.mk ((ix p1 b1).wP) ((ix p1 b1).wT) ((ix p1 b1).wd) ((ix p1 b1).wM) ((ix p1 b1).wJ) ((ix p1 b1).wh) ((ix p1 b1).wN) ((ix p1 b1).wV) ((ix p1 b1).wO) ((ix p1 b1).wU)))/\let r8:Bool:=(betB p2 (wC.mk ((ix p1 b1).wP) ((ix p1 b1).wT) ((ix p1 b1).wd) ((ix p1 b1).wM) ((ix p1 b1).wJ) ((ix p1 b1).wh) ((ix p1 b1).wN) ((ix p1 b1).wV) ((ix p1 b1).wO) ((ix p1 b1).wU)))
((!(r7==r8))=true->
 false=r0)/\
((!(r7==r8))=false->
 I1 (i64.wrap (b1+1))/\M1 (i64.wrap (b1+1))<M1 b1)))/\
(decide (b1<(p1.length:Int))=false->
 true=r0)))))))) (by kernel_rfl)<|by
 rintro p0 p1 p2 h _ rfl
 refine⟨fun e=>(by cases e),fun _=>⟨h,fun e=>rfl,fun e=> ?_⟩⟩
 have e:fewB p1 [p2]=true:=by simpa using e
 have hf:=few_fa h e
 have hf0:FA p1 []:=⟨hf.a,hf.r,by simp,fun t ht=>by cases ht⟩
 have h2:=hf.s p2 (by simp)
 have ha:=hf.a
 obtain⟨q1,q2⟩:=run_all (c:=capS p0) hf0
 have hfi:idxI ((eL (runL (capS p0) p1)).map (·.id)) (idS p2)=fndL (runL (capS p0) p1) (idS p2):=by rw[eL_id];rfl
 have hcl:=cfl_len (runL (capS p0) p1) p2
 refine⟨hf0,fun z=>(by cases z),fun _=>⟨h2.2,rfl,⟨h2.1,EL.of q1.v (by omega)⟩,⟨⟨q1.v,by show(runL (capS p0) p1).length<=_;omega⟩,h2⟩,?_⟩⟩
 rw[tL_eL,hfi]
 dsimp only
 refine⟨by split<;>first|omega|exact Nat.zero_le _,fun z=> ?_,fun _=>⟨h2,rfl,by rw[eL_len];omega,h2,⟨q1.v,by omega⟩,fun z=> ?_,fun _=> ?_⟩⟩
 ·rw[decide_eq_true rfl]at z;cases z
 ·rw[beq_self_eq_true]at z;cases z
 refine⟨(fun i=>∃k:Nat,i=(k:Int)/\k<=p1.length),fun i=>(p1.length-i).toNat,⟨0,rfl,by omega⟩,?_⟩
 rintro _ ⟨k,rfl,g1⟩
 refine⟨fun e=> ?_,fun _=>rfl⟩
 have e:k<p1.length:=by have:=of_decide_eq_true e;omega
 have hr:=hf.r _ (List.getElem_mem e)
 rw[ix_get _ _ e,inc_i64 _ (by omega),beq_self_eq_true,beq_self_eq_true]
 exact⟨by omega,by omega,hr.2,h2.2,⟨hr.1,h2.1⟩,⟨hr,h2⟩,fun z=>(by cases z),fun _=>⟨h2.2,hr.2,⟨h2.1,hr.1⟩,⟨h2,hr⟩,fun z=>(by cases z),fun _=>⟨⟨k+1,rfl,by omega⟩,by(dsimp only;omega)⟩⟩⟩
noncomputable def kw:Con TB.den:= .gp 7 [yqi,.sl (.st 6)] [.bool] [] fun(p0:Int) (p1:List wo)=>(OA p1 [],true,())
theorem k83:kw.Ok Tryz.prog TB:=qrv Bs Tryz.func7 (.r 4 (.nd [] (.r 0 (.lp [] ⟨[0],[.cells [zqi,.row 1],.vec (.st 2)],[24],[.one (zqi)],[1]⟩ (.r 1 (.nd [] (.r 0 (.jn ⟨[0],[.cells [zqi,.row 1],.vec (.st 2)],[],[],[1,2]⟩ [] .no [] (.r 2 (.lp [] ⟨[0],[.cells [zqi,.row 1],.vec (.st 2)],[56],[.one (zqi)],[3,4]⟩ (.r 1 (.nd [] (.r 2 (.lp [] ⟨[],[],[73],[.one (zqi)],[]⟩ .no)) [] .no)))))) [] .no)))) [] .no)) (k2j.c (k3k.c (k2o.c (k1a.c (k6m.c (k26.c (k2u.c (k3j.c (k1y.c (k1p.c (k1m.c (k42.c (k3d.c (k2y.c c0)))))))))))))) (Q:=∀(p0:Int) (p1:List wo),(OA p1 [])->∀r0:Bool,(true:Bool)=r0-> 
((!true)=true->
 false=r0)/\
((!true)=false->
(OA p1 ([]:List wC))/\((!(fewB p1 ([]:List wC)))=true->
 true=r0)/\
((!(fewB p1 ([]:List wC)))=false->
(([]:List wA).length=([]:List wA).length)/\∃(I1:Int->Int->(List wA)->Prop) (M1:Int->Int->(List wA)->Nat),I1 0 (if 0<p0 then p0 else 0) ([]:List wA)/\∀(b1 f1:Int) (i1:List wA),(I1 b1 f1 i1->
(decide (b1<(p1.length:Int))=true->
(0<=b1)/\b1<(p1.length:Int)/\∀J1:Int->(List wA)->Prop,(∀(k1:Int) (l1:List wA),
((l1.length=l1.length)/\(EL l1)/\(VL (tL l1)/\(tL l1).length<=100000)/\(l1.length=l1.length)/\(EL l1)/\(((wL (tL l1)) !=(wL (tL l1)))=true->
 false=r0)/\
(((wL (tL l1)) !=(wL (tL l1)))=false->
(l1.length=l1.length)/\(EL l1)/\let v4:Bool:=decide ((if 0<p0 then p0 else 0)<(wL (tL l1)))
(v4=true->
 false=r0)/\
(v4=false->
(l1.length=l1.length)/\∃(I2:Int->Int->(List wA)->Prop) (M2:Int->Int->(List wA)->Nat),I2 0 k1 l1/\∀(m1 n1:Int) (o1:List wA),(I2 m1 n1 o1->
(decide (m1<((tL l1).length:Int))=true->
(0<=m1)/\m1<((tL l1).length:Int)/\(TR (ix (tL l1) m1)/\TL (ix (tL l1) m1))/\(((validE (ix (tL l1) m1)) !=0)=true->
 false=r0)/\
(((validE (ix (tL l1) m1)) !=0)=false->
(TR (ix (tL l1) m1)/\TL (ix (tL l1) m1))/\(o1.length=o1.length)/\(o1.length<=1000000)/\let r5:Bool:=(decide (0<=idxI (o1.map (·.id)) (idS (ix (tL l1) m1))))
((!r5)=true->
 false=r0)/\
((!r5)=false->
 ∃(I3:Int->Prop) (M3:Int->Nat),I3 0/\∀(q1:Int),(I3 q1->
(decide (q1<((tL l1).length:Int))=true->
(0<=q1)/\q1<((tL l1).length:Int)/\((m1 !=q1)=true->
((TR (ix (tL l1) m1)/\TL (ix (tL l1) m1))/\TR (ix (tL l1) q1)/\TL (ix (tL l1) q1))/\((confT (ix (tL l1) m1) (ix (tL l1) q1))=true->
 false=r0)/\
((confT (ix (tL l1) m1) (ix (tL l1) q1))=false->
(decide (m1<q1)=true->
((TR (ix (tL l1) m1)/\TL (ix (tL l1) m1))/\TR (ix (tL l1) q1)/\TL (ix (tL l1) q1))/\let v6:Bool:=(!(betB (ix (tL l1) m1) (ix (tL l1) q1)))
(v6=true->
 false=r0)/\
(v6=false->
 I3 (i64.wrap (q1+1))/\M3 (i64.wrap (q1+1))<M3 q1))/\
(decide (m1<q1)=false->
 I3 (i64.wrap (q1+1))/\M3 (i64.wrap (q1+1))<M3 q1)))/\
((m1 !=q1)=false->
(decide (m1<q1)=true->
((TR (ix (tL l1) m1)/\TL (ix (tL l1) m1))/\TR (ix (tL l1) q1)/\TL (ix (tL l1) q1))/\let v7:Bool:=(!(betB (ix (tL l1) m1) (ix (tL l1) q1)))
(v7=true->
 false=r0)/\
(v7=false->
 I3 (i64.wrap (q1+1))/\M3 (i64.wrap (q1+1))<M3 q1))/\
(decide (m1<q1)=false->
 I3 (i64.wrap (q1+1))/\M3 (i64.wrap (q1+1))<M3 q1)))/\
(decide (q1<((tL l1).length:Int))=false->
(o1.length=o1.length)/\I2 (i64.wrap (m1+1)) n1 o1/\M2 (i64.wrap (m1+1)) n1 o1<M2 m1 n1 o1)))))/\
(decide (m1<((tL l1).length:Int))=false->
(o1.length=o1.length)/\I1 (i64.wrap (b1+1)) n1 o1/\M1 (i64.wrap (b1+1)) n1 o1<M1 b1 f1 i1)))))->J1 k1 l1)->
((ix p1 b1).wz=true->
(TR (wC.mk ((ix p1 b1).wP) ((ix p1 b1).wT) ((ix p1 b1).wd) ((ix p1 b1).wM) ((ix p1 b1).wJ) ((ix p1 b1).wh) ((ix p1 b1).wN) ((ix p1 b1).wV) ((ix p1 b1).wO) ((ix p1 b1).wU))/\TL (wC.mk ((ix p1 b1).wP) ((ix p1 b1).wT) ((ix p1 b1).wd) ((ix p1 b1).wM) ((ix p1 b1).wJ) ((ix p1 b1).wh) ((ix p1 b1).wN) ((ix p1 b1).wV) ((ix p1 b1).wO) ((ix p1 b1).wU)))/\let r1:Int:=(idS (wC.mk ((ix p1 b1).wP) ((ix p1 b1).wT) ((ix p1 b1).wd) ((ix p1 b1).wM) ((ix p1 b1).wJ) ((ix p1 b1).wh) ((ix p1 b1).wN) ((ix p1 b1).wV) ((ix p1 b1).wO) ((ix p1 b1).wU)))
(i1.length=i1.length)/\(PW i1)/\((eL (remL (tL i1) r1).l).length=(eL (remL (tL i1) r1).l).length)/\J1 f1 (eL (remL (tL i1) r1).l))/\
((ix p1 b1).wz=false->
(TL (wC.mk ((ix p1 b1).wP) ((ix p1 b1).wT) ((ix p1 b1).wd) ((ix p1 b1).wM) ((ix p1 b1).wJ) ((ix p1 b1).wh) ((ix p1 b1).wN) ((ix p1 b1).wV) ((ix p1 b1).wO) ((ix p1 b1).wU)))/\(i1.length=i1.length)/\(PW i1/\0<=f1/\TR (wC.mk ((ix p1 b1).wP) ((ix p1 b1).wT) ((ix p1 b1).wd) ((ix p1 b1).wM) ((ix p1 b1).wJ) ((ix p1 b1).wh) ((ix p1 b1).wN) ((ix p1 b1).wV) ((ix p1 b1).wO) ((ix p1 b1).wU)))/\let r2:=addL f1 (tL i1) (wC.mk ((ix p1 b1).wP) ((ix p1 b1).wT) ((ix p1 b1).wd) ((ix p1 b1).wM) ((ix p1 b1).wJ) ((ix p1 b1).wh) ((ix p1 b1).wN) ((ix p1 b1).wV) ((ix p1 b1).wO) ((ix p1 b1).wU))
 let r3:List wA:=(eL (addL f1 (tL i1) (wC.mk ((ix p1 b1).wP) ((ix p1 b1).wT) ((ix p1 b1).wd) ((ix p1 b1).wM) ((ix p1 b1).wJ) ((ix p1 b1).wh) ((ix p1 b1).wN) ((ix p1 b1).wV) ((ix p1 b1).wO) ((ix p1 b1).wU))).l)
(r3.length=r3.length)/\J1 f1 r3))/\
(decide (b1<(p1.length:Int))=false->
 true=r0))))) (by kernel_rfl)<|by
 rintro p0 p1 h _ rfl
 refine⟨fun e=>(by cases e),fun _=>⟨h,fun e=>rfl,fun e=> ?_⟩⟩
 have e:fewB p1 []=true:=by simpa using e
 have hf:=few_fa h e
 have ha:=hf.a
 have hc:=capS_nn p0
 rw[show(if 0<p0 then p0 else 0)=capS p0 from rfl]
 generalize capS p0=c at *
 have hro:=fun o ho=>(hf.r o ho).1
 refine⟨rfl,?_⟩
 refine⟨(fun b f w=>f=c/\∃k:Nat,b=(k:Int)/\k<=p1.length/\w=eL (runL c (p1.take k))),fun b _ _=>(p1.length-b).toNat,⟨rfl,0,rfl,by omega,rfl⟩,?_⟩
 rintro _ f _ ⟨hfc,k,rfl,g1,rfl⟩
 subst f
 refine⟨fun e=> ?_,fun _=>rfl⟩
 have e:k<p1.length:=by have:=of_decide_eq_true e;omega
 have hr:=hf.r _ (List.getElem_mem e)
 obtain⟨q1,q2⟩:=run_ok (c:=c) hro k g1
 obtain⟨s1,s2⟩:=run_ok (c:=c) hro (k+1) e
 have sw:=run_w hc hro (k+1) e
 have hst:=k5r (c:=c) e
 rw[ix_get _ _ e,inc_i64 _ (by omega)]
 refine⟨by omega,by omega,fun J kJ=> ?_⟩
 have j:J c (eL (runL c (p1.take (k+1)))):=by
  refine kJ _ _ ?_
  generalize hL:runL c (p1.take (k+1))=L at *
  rw[tL_eL]
  have hE:EL (eL L):=EL.of s1.v (by omega)
  refine⟨rfl,hE,⟨s1.v,by omega⟩,rfl,hE,fun z=> ?_,fun _=>⟨rfl,hE,fun z=> ?_,fun _=>⟨rfl,?_⟩⟩⟩
  ·rw[bne_self_eq_false]at z;cases z
  ·have:=of_decide_eq_true z;omega
  refine⟨(fun m n o=>n=c/\o=eL L/\∃a:Nat,m=(a:Int)/\a<=L.length),fun m _ _=>(L.length-m).toNat,⟨rfl,rfl,0,rfl,by omega⟩,?_⟩
  rintro _ n _ ⟨hnc,rfl,a,rfl,a1⟩
  subst n
  refine⟨fun x=> ?_,fun x=> ?_⟩
  ·have x:a<L.length:=by have:=of_decide_eq_true x;omega
   have hv:=s1.v _ (List.getElem_mem x)
   have hfi:idxI ((eL L).map (·.id)) (idS L[a])=fndL L (idS L[a]):=by rw[eL_id];rfl
   rw[ix_get _ _ x,hfi,decide_eq_true (pl_has x),inc_i64 a (by omega)]
   refine⟨by omega,by omega,⟨hv.r,hv.tl⟩,fun z=> ?_,fun _=>⟨⟨hv.r,hv.tl⟩,rfl,by rw[eL_len];omega,fun z=>(by cases z),fun _=> ?_⟩⟩
   ·rw[hv.v]at z;cases z
   refine⟨(fun q=>∃b:Nat,q=(b:Int)/\b<=L.length),fun q=>(L.length-q).toNat,⟨0,rfl,by omega⟩,?_⟩
   rintro _ ⟨b,rfl,b1⟩
   refine⟨fun y=> ?_,fun y=>⟨rfl,⟨rfl,rfl,a+1,rfl,by omega⟩,by(dsimp only;omega)⟩⟩
   have y:b<L.length:=by have:=of_decide_eq_true y;omega
   have hw:=s1.v _ (List.getElem_mem y)
   rw[ix_get _ _ y,inc_i64 b (by omega)]
   have nxt:(∃b' :Nat,((b+1:Nat):Int)=(b' :Int)/\b'<=L.length)/\(L.length-((b+1:Nat):Int)).toNat<(L.length-(b:Int)).toNat:=⟨⟨b+1,rfl,by omega⟩,by omega⟩
   have tt:(TR L[a]/\TL L[a])/\TR L[b]/\TL L[b]:=⟨⟨hv.r,hv.tl⟩,hw.r,hw.tl⟩
   refine⟨by omega,by omega,fun z=>⟨tt,fun w=> ?_,fun _=>⟨fun w=>⟨tt,fun v=> ?_,fun _=>nxt⟩,fun _=>nxt⟩⟩,fun z=>⟨fun w=> ?_,fun _=>nxt⟩⟩
   ·have z:¬(a:Int)=b:=by simpa using z
    rw[pl_conf s1 x y (by omega)]at w
    cases w
   ·have w:=of_decide_eq_true w
    rw[pl_bet s1 x y (by omega)]at v
    cases v
   ·have z:(a:Int)=b:=by simpa using z
    have w:=of_decide_eq_true w
    omega
  ·exact⟨rfl,⟨rfl,k+1,rfl,by omega,hL▸rfl⟩,by(dsimp only;omega)⟩
 rw[hst]at j
 unfold stepL at j
 refine⟨fun z=>⟨hr,rfl,PW.of q1 (by omega),rfl,?_⟩,fun z=>⟨hr.2,rfl,⟨PW.of q1 (by omega),hc,hr.1⟩,rfl,?_⟩⟩
 ·rw[if_pos z]at j
  rw[tL_eL]
  exact j
 ·rw[if_neg (by rw[z];decide)]at j
  rw[tL_eL]
  exact j
noncomputable def ky:Con TB.den:= .gp 4 [.sl (.st 1),yqb] [.bool] [] fun(p0:List wC) (p1:Int)=>(OA [] p0/\0<=p1/\p1<256,true,())
theorem k88:ky.Ok Tryz.prog TB:=qrv Bs Tryz.func4 (.r 2 (.nd [] (.r 0 (.lp [] ⟨[],[],[24],[.one (zqi)],[]⟩ (.r 1 (.nd [] (.r 2 (.lp [] ⟨[],[],[36],[.one (zqi)],[]⟩ .no)) [] .no)))) [] (.r 2 (.nd [] (.r 0 (.lp [] ⟨[2,0],[.cells [zqi,.row 2],.cells [zqi,.row 3],.vec (.st 2),.vec (.st 2)],[66],[.one (zqi)],[1,3]⟩ .no)) [] .no)))) (k2j.c (k3k.c (k1m.c (k3d.c (k1a.c (k1y.c (k2o.c (k26.c (k2u.c (k1p.c (k3j.c (k9l.c c0)))))))))))) (Q:=∀(p0:List wC) (p1:Int),(OA [] p0/\0<=p1/\p1<256)->∀r0:Bool,(true:Bool)=r0-> 
((!true)=true->
 false=r0)/\
((!true)=false->
(OA ([]:List wo) p0)/\((!(fewB ([]:List wo) p0))=true->
 true=r0)/\
((!(fewB ([]:List wo) p0))=false->
 ∃(I1:Int->Prop) (M1:Int->Nat),I1 0/\∀(b1:Int),(I1 b1->
(decide (b1<(p0.length:Int))=true->
(0<=b1)/\b1<(p0.length:Int)/\(TR (ix p0 b1)/\TL (ix p0 b1))/\(((validE (ix p0 b1)) !=0)=true->
 true=r0)/\
(((validE (ix p0 b1)) !=0)=false->
(0<=b1)/\b1<=(p0.length:Int)/\∃(I2:Int->Prop) (M2:Int->Nat),I2 0/\∀(f1:Int),(I2 f1->
 let v1:Bool:=decide (f1<((p0.take b1.toNat).length:Int))
(v1=true->
(0<=f1)/\f1<((p0.take b1.toNat).length:Int)/\((TR (ix p0 b1)/\TL (ix p0 b1))/\TR (ix (p0.take b1.toNat) f1)/\TL (ix (p0.take b1.toNat) f1))/\let r2:Bool:=(confT (ix p0 b1) (ix (p0.take b1.toNat) f1))
(r2=true->
 true=r0)/\
(r2=false->
(TR (ix p0 b1)/\TL (ix p0 b1))/\(TR (ix (p0.take b1.toNat) f1)/\TL (ix (p0.take b1.toNat) f1))/\let v3:Bool:=((idS (ix p0 b1))==(idS (ix (p0.take b1.toNat) f1)))
(v3=true->
 true=r0)/\
(v3=false->
 I2 (i64.wrap (f1+1))/\M2 (i64.wrap (f1+1))<M2 f1)))/\
(v1=false->
 I1 (i64.wrap (b1+1))/\M1 (i64.wrap (b1+1))<M1 b1))))/\
(decide (b1<(p0.length:Int))=false->
(VL p0/\p0.length<=100000)/\(([]:List wA).length=([]:List wA).length)/\(([]:List wA).length=([]:List wA).length)/\∃(I3:Int->Int->Int->(List wA)->(List wA)->Prop) (M3:Int->Int->Int->(List wA)->(List wA)->Nat),I3 0 (if 0<(wL p0)then(wL p0)else 0) (if 0<(wL p0)then(wL p0)else 0) ([]:List wA) ([]:List wA)/\∀(i1 k1 l1:Int) (m1 n1:List wA),(I3 i1 k1 l1 m1 n1->
(decide (i1<(p0.length:Int))=true->
(0<=i1)/\i1<(p0.length:Int)/\(TL (ix p0 i1))/\(n1.length=n1.length)/\(PW n1/\0<=l1/\TR (ix p0 i1))/\let v4:Int:=i64.wrap (i1+(i64.wrap p1))
((p0.length:Int)≠0)/\(0<=Int.tmod v4 (p0.length:Int))/\Int.tmod v4 (p0.length:Int)<(p0.length:Int)/\(TL (ix p0 (Int.tmod v4 (p0.length:Int))))/\let r5:=ix p0 (Int.tmod v4 (p0.length:Int))
(m1.length=m1.length)/\(PW m1/\0<=k1/\TR r5)/\((((addL l1 (tL n1) (ix p0 i1)).e) !=0)=true->
 false=r0)/\
((((addL l1 (tL n1) (ix p0 i1)).e) !=0)=false->
((((addL k1 (tL m1) r5).e) !=0)=true->
 false=r0)/\
((((addL k1 (tL m1) r5).e) !=0)=false->
 let v6:Int:=(((addL l1 (tL n1) (ix p0 i1)).g).length:Int)
 let v7:Int:=i64.wrap (v6+(((addL k1 (tL m1) r5).g).length:Int))
(decide (0<v7)=true->
 false=r0)/\
(decide (0<v7)=false->
((eL (addL l1 (tL n1) (ix p0 i1)).l).length=(eL (addL l1 (tL n1) (ix p0 i1)).l).length)/\((eL (addL k1 (tL m1) r5).l).length=(eL (addL k1 (tL m1) r5).l).length)/\I3 (i64.wrap (i1+1)) k1 l1 (eL (addL k1 (tL m1) r5).l) (eL (addL l1 (tL n1) (ix p0 i1)).l)/\M3 (i64.wrap (i1+1)) k1 l1 (eL (addL k1 (tL m1) r5).l) (eL (addL l1 (tL n1) (ix p0 i1)).l)<M3 i1 k1 l1 m1 n1))))/\
(decide (i1<(p0.length:Int))=false->
(n1.length=n1.length)/\(EL n1)/\(((wL (tL n1))==(wL p0))=true->
(n1.length=n1.length)/\(EL n1)/\let v8:Bool:=(((tL n1).length:Int)==(p0.length:Int))
(v8=true->
(n1.length=n1.length)/\(EL n1)/\(m1.length=m1.length)/\(EL m1)/\((∀t∈(tL n1),TD t)/\(∀t∈(tL m1),TD t)/\(tL n1).length<=100000)/\(sameL (tL n1) (tL m1))=r0)/\
(v8=false->
 false=r0))/\
(((wL (tL n1))==(wL p0))=false->
 false=r0)))))))) (by kernel_rfl)<|by
 rintro p0 p1 h _ rfl
 obtain⟨h,hp0,hp1⟩:=h
 refine⟨fun e=>(by cases e),fun _=>⟨h,fun e=>rfl,fun e=> ?_⟩⟩
 have e:fewB [] p0=true:=by simpa using e
 have hf:=few_fa h e
 have hb:=hf.b
 refine⟨(fun b=>∃k:Nat,b=(k:Int)/\k<=p0.length/\VL (p0.take k)/\((p0.take k).map idS).Nodup/\(p0.take k).Pairwise (fun a b=>confT a b=false)),fun b=>(p0.length-b).toNat,⟨0,rfl,by omega,fun _ h=>(by cases h),.nil,.nil⟩,?_⟩
 rintro _ ⟨k,rfl,g1,g2,g3,g4⟩
 refine⟨fun e=> ?_,fun e=> ?_⟩
 ·have e:k<p0.length:=by have:=of_decide_eq_true e;omega
  have hr:=hf.s _ (List.getElem_mem e)
  have hl:(p0.take k).length=k:=by rw[List.length_take];omega
  rw[ix_get _ _ e,inc_i64 _ (by omega),Int.toNat_natCast,hl]
  refine⟨by omega,by omega,hr,fun z=>rfl,fun z=>⟨by omega,by omega,?_⟩⟩
  have hv:VR p0[k]:=⟨by simpa using z,hr.1⟩
  refine⟨(fun f=>∃j:Nat,f=(j:Int)/\j<=k/\∀i (hi:i<j) (hi' :i<p0.length),confT p0[k] p0[i]=false/\idS p0[k]≠idS p0[i]),fun f=>(k-f).toNat,⟨0,rfl,by omega,fun i hi=>by omega⟩,?_⟩
  rintro _ ⟨j,rfl,j1,j2⟩
  dsimp only
  refine⟨fun y=> ?_,fun y=> ?_⟩
  ·have y:j<k:=by have:=of_decide_eq_true y;omega
   have hj:j<p0.length:=by omega
   have hrj:=hf.s _ (List.getElem_mem hj)
   have hx:ix (p0.take k) (j:Int)=p0[j]:=by rw[ix_get _ _ (by omega)];simp
   rw[hx,inc_i64 _ (by omega)]
   refine⟨by omega,by omega,⟨hr,hrj⟩,fun _=>rfl,fun w=>⟨hr,hrj,fun _=>rfl,fun v=>⟨⟨j+1,rfl,by omega,fun i hi hi' => ?_⟩,by omega⟩⟩⟩
   by_cases q:i=j
   ·subst q
    exact⟨w,by simpa using v⟩
   ·exact j2 i (by omega) hi'
  ·have y:j=k:=by have:=of_decide_eq_false y;omega
   subst y
   refine⟨⟨j+1,rfl,by omega,?_,?_,?_⟩,by omega⟩
   ·rw[List.take_succ_eq_append_getElem e]
    intro x hx
    rcases List.mem_append.1 hx with hx|hx
    ·exact g2 x hx
    ·rw[List.mem_singleton.1 hx];exact hv
   ·rw[List.take_succ_eq_append_getElem e,List.map_append,List.nodup_append]
    refine⟨g3,by simp,fun x hx z hz=> ?_⟩
    rw[List.map_singleton,List.mem_singleton]at hz
    subst hz
    obtain⟨t,ht,rfl⟩:=List.mem_map.1 hx
    obtain⟨i,hi,rfl⟩:=List.getElem_of_mem ht
    rw[hl]at hi
    rw[List.getElem_take]
    exact fun q=>(j2 i hi (by omega)).2 q.symm
   ·rw[List.take_succ_eq_append_getElem e,List.pairwise_append]
    refine⟨g4,by simp,fun x hx z hz=> ?_⟩
    rw[List.mem_singleton.1 hz]
    obtain⟨i,hi,rfl⟩:=List.getElem_of_mem hx
    rw[hl]at hi
    rw[List.getElem_take,k4c]
    exact(j2 i hi (by omega)).1
 ·have e:k=p0.length:=by have:=of_decide_eq_false e;omega
  subst e
  rw[List.take_length]at g2 g3 g4
  have hO:OK p0:=⟨g2,g3,g4⟩
  have hwb:=wL_b g2
  rw[show(if 0<wL p0 then wL p0 else 0)=wL p0 by split<;>omega]
  have hwt:∀{l:List wC} (hl:l.Perm p0) (k:Nat) (hk:k<l.length),wL (allL (l.take k))+weightS l[k]<=wL p0:=by
   intro l hl k hk
   rw[wL_perm (k38 (l.take k)),<-wL_take hk,<-wL_perm hl]
   exact wL_sub (List.take_sublist ..) (fun x hx=>g2 x (hl.mem_iff.1 hx))
  generalize hr:p1.toNat%p0.length=r at *
  have hRp:=kes p0 r
  have hRo:=hO.perm hRp.symm
  have hRl:=rot_len p0 r
  refine⟨⟨g2,by omega⟩,rfl,rfl,?_⟩
  refine⟨(fun i k l m n=>k=wL p0/\l=wL p0/\∃a:Nat,i=(a:Int)/\a<=p0.length/\n=eL (allL (p0.take a))/\m=eL (allL ((rotL p0 r).take a))),fun i _ _ _ _=>(p0.length-i).toNat,⟨rfl,rfl,0,rfl,by omega,rfl,rfl⟩,?_⟩
  rintro _ k l _ _ ⟨hk,hl,a,rfl,a1,rfl,rfl⟩
  subst k
  subst l
  have P1:=allL_pl hO a a1
  have P2:=allL_pl hRo a (by omega)
  have n1:(allL (p0.take a)).length<=12:=by rw[(k38 _).length_eq,List.length_take];omega
  have n2:(allL ((rotL p0 r).take a)).length<=12:=by rw[(k38 _).length_eq,List.length_take];omega
  refine⟨fun x=> ?_,fun x=> ?_⟩
  ·have x:a<p0.length:=by have:=of_decide_eq_true x;omega
   have x2:a<(rotL p0 r).length:=by omega
   have hv:=g2 _ (List.getElem_mem x)
   have hv2:=hRo.v _ (List.getElem_mem x2)
   obtain⟨u1,u2⟩:=hO.new x
   obtain⟨w1,w2⟩:=hRo.new x2
   have f1:=add_fit (c:=wL p0) P1 hv u1 u2 (hwt (List.Perm.refl _) a x)
   have f2:=add_fit (c:=wL p0) P2 hv2 w1 w2 (hwt hRp a x2)
   have eix:ix p0 (Int.tmod (i64.wrap ((a:Int)+i64.wrap p1)) (p0.length:Int))=(rotL p0 r)[a]:=by
    rw[rot_get (by rw[<-hr];exact Nat.mod_lt _ (by omega)) x,wi p1 (by omega) (by omega),wi ((a:Int)+p1) (by omega) (by omega),tmod_nn _ _ (by omega)]
    have:((a:Int)+p1)%(p0.length:Int)=((((a+r)%p0.length:Nat)):Int):=by
     rw[<-hr,show(a:Int)+p1=((a+p1.toNat:Nat):Int)by omega,<-Int.natCast_emod,Nat.add_mod_mod]
    rw[this,ix_get _ _ (Nat.mod_lt _ (by omega))]
   have rng:0<=Int.tmod (i64.wrap ((a:Int)+i64.wrap p1)) (p0.length:Int)/\Int.tmod (i64.wrap ((a:Int)+i64.wrap p1)) (p0.length:Int)<p0.length:=by
    rw[wi p1 (by omega) (by omega),wi ((a:Int)+p1) (by omega) (by omega),tmod_nn _ _ (by omega)]
    exact⟨Int.emod_nonneg _ (by omega),Int.emod_lt_of_pos _ (by omega)⟩
   dsimp only
   rw[ix_get _ _ x,eix,tL_eL,tL_eL,f1,f2,inc_i64 _ (by omega)]
   have hb0:=(wL_b P1.v).1
   refine⟨by omega,by omega,hv.tl,rfl,⟨PW.of P1 (by omega),by omega,hv.r⟩,by omega,rng.1,rng.2,hv2.tl,rfl,⟨PW.of P2 (by omega),by omega,hv2.r⟩,fun z=>(by cases z),fun _=>⟨fun z=>(by cases z),fun _=>⟨fun z=> ?_,fun _=>⟨rfl,rfl,⟨rfl,rfl,a+1,rfl,by omega,?_,?_⟩,by omega⟩⟩⟩⟩
   ·have z:=of_decide_eq_true z
    exact absurd z (by show¬(0:Int)<0;decide)
   ·rw[k93 x]
   ·rw[k93 x2]
  ·have x:a=p0.length:=by have:=of_decide_eq_false x;omega
   subst x
   rw[List.take_length]at P1 n1 ⊢
   rw[List.take_of_length_le (by omega)]at P2 n2 ⊢
   have pp1:=k38 p0
   have pp2:=(k38 (rotL p0 r)).trans hRp
   have hu:=pl_uniq P1 P2 (pp1.trans pp2.symm)
   have E1:=EL.of P1.v (by omega)
   have E2:=EL.of P2.v (by omega)
   rw[tL_eL,tL_eL,wL_perm pp1,pp1.length_eq,<-hu,k7f]
   have E2' :=hu▸E2
   exact⟨rfl,E1,fun _=>⟨rfl,E1,fun _=>⟨rfl,E1,rfl,E1,⟨fun t ht=>(P1.v t ht).td,fun t ht=>(P1.v t ht).td,by omega⟩,rfl⟩,fun z=>(by rw[beq_self_eq_true]at z;cases z)⟩,fun z=>(by rw[beq_self_eq_true]at z;cases z)⟩
noncomputable def kp:Con TB.den:= .gp 8 [yqi,.sl (.st 6),.st 1] [.bool] [] fun(p0:Int) (p1:List wo) (p2:wC)=>(OA p1 [p2],true,())
theorem k5j:kp.Ok Tryz.prog TB:=qrv Bs Tryz.func8 (.r 9 (.nd [] (.r 0 (.lp [] ⟨[2,5],[.cells [zqi,.row 1],.vec (.st 2)],[76],[.one (zqi)],[]⟩ .no)) [] .no)) (k2j.c (k3k.c (k74.c (k3j.c (k26.c (k2u.c (k9h.c (k1a.c (k42.c (k2y.c (k1y.c c0))))))))))) (Q:=∀(p0:Int) (p1:List wo) (p2:wC),(OA p1 [p2])->∀r0:Bool,(true:Bool)=r0-> 
((!true)=true->
 false=r0)/\
((!true)=false->
(OA p1 [p2])/\((!(fewB p1 [p2]))=true->
 true=r0)/\
((!(fewB p1 [p2]))=false->
(FA p1 [])/\((!true)=true->
 false=r0)/\
((!true)=false->
((eL (runL (capS p0) p1)).length=(eL (runL (capS p0) p1)).length)/\(EL (eL (runL (capS p0) p1)))/\(TL p2)/\((eL (runL (capS p0) p1)).length=(eL (runL (capS p0) p1)).length)/\(PW (eL (runL (capS p0) p1))/\0<=(capS p0)/\TR p2)/\let r1:=addL (capS p0) (tL (eL (runL (capS p0) p1))) p2
 let r2:List wA:=(eL (addL (capS p0) (tL (eL (runL (capS p0) p1))) p2).l)
((r1.e !=0)=true->
(((r1.g.length:Int)==0)=true->
(r2.length=r2.length)/\(EL r2/\VL (wZ.mk (capS p0) (runL (capS p0) p1)).L/\(wZ.mk (capS p0) (runL (capS p0) p1)).L.length<=100000)/\let r3:Bool:=(sameL (tL r2) (wZ.mk (capS p0) (runL (capS p0) p1)).L&&(wL (tL r2)==wL (wZ.mk (capS p0) (runL (capS p0) p1)).L))
 r3=r0)/\
(((r1.g.length:Int)==0)=false->
 false=r0))/\
((r1.e !=0)=false->
 let v4:Int:=((tL (eL (runL (capS p0) p1))).length:Int)
 let v5:Int:=i64.wrap (v4-(r1.g.length:Int))
(decide (v5<0)=true->
 false=r0)/\
(decide (v5<0)=false->
(r2.length=r2.length)/\(EL r2)/\let v6:Bool:=(((tL r2).length:Int) !=(i64.wrap (v5+1)))
(v6=true->
 false=r0)/\
(v6=false->
(TR p2/\TL p2)/\(r2.length=r2.length)/\(r2.length<=1000000)/\let r7:Bool:=(decide (0<=idxI (r2.map (·.id)) (idS p2)))
((!r7)=true->
 false=r0)/\
((!r7)=false->
 let v8:Int:=((tL (eL (runL (capS p0) p1))).length:Int)
(r2.length=r2.length)/\∃(I1:Int->Int->(List wA)->Prop) (M1:Int->Int->(List wA)->Nat),I1 0 (capS p0) r2/\∀(b1 f1:Int) (i1:List wA),(I1 b1 f1 i1->
(decide (b1<v8)=true->
(0<=b1)/\b1<((tL (eL (runL (capS p0) p1))).length:Int)/\(TR (ix (tL (eL (runL (capS p0) p1))) b1)/\TL (ix (tL (eL (runL (capS p0) p1))) b1))/\let r9:Int:=(idS (ix (tL (eL (runL (capS p0) p1))) b1))
(i1.length=i1.length)/\(i1.length<=1000000)/\let v10:Bool:=(!((decide (0<=idxI (i1.map (·.id)) r9))==decide (b1<v5)))
(v10=true->
 false=r0)/\
(v10=false->
(decide (v5<=b1)=true->
 let v11:Int:=((tL (eL (runL (capS p0) p1))).length:Int)
 let v12:Int:=i64.wrap ((i64.wrap (v11-1))-b1)
(0<=v12)/\v12<(r1.g.length:Int)/\(((ix r1.g v12) !=r9)=true->
 false=r0)/\
(((ix r1.g v12) !=r9)=false->
((TR p2/\TL p2)/\TR (ix (tL (eL (runL (capS p0) p1))) b1)/\TL (ix (tL (eL (runL (capS p0) p1))) b1))/\let r13:Bool:=(betB p2 (ix (tL (eL (runL (capS p0) p1))) b1))
((!r13)=true->
 false=r0)/\
((!r13)=false->
(i1.length=i1.length)/\I1 (i64.wrap (b1+1)) f1 i1/\M1 (i64.wrap (b1+1)) f1 i1<M1 b1 f1 i1)))/\
(decide (v5<=b1)=false->
(i1.length=i1.length)/\I1 (i64.wrap (b1+1)) f1 i1/\M1 (i64.wrap (b1+1)) f1 i1<M1 b1 f1 i1)))/\
(decide (b1<v8)=false->
(((r1.g.length:Int)==0)=true->
 true=r0)/\
(((r1.g.length:Int)==0)=false->
(0<=i64.wrap (v5+1))/\i64.wrap (v5+1)<=((tL (eL (runL (capS p0) p1))).length:Int)/\let v14:List wC:=(tL (eL (runL (capS p0) p1))).take (i64.wrap (v5+1)).toNat
(VL v14/\v14.length<=100000)/\(VL [p2]/\[p2].length<=100000)/\let v15:Bool:=decide ((if 0<p0 then p0 else 0)<(i64.wrap ((wL v14)+(wL [p2]))))
 v15=r0))))))))))) (by kernel_rfl)<|by
 rintro p0 p1 p2 h _ rfl
 refine⟨fun e=>(by cases e),fun _=>⟨h,fun e=>rfl,fun e=> ?_⟩⟩
 have e:fewB p1 [p2]=true:=by simpa using e
 have hf:=few_fa h e
 have hf0:FA p1 []:=⟨hf.a,hf.r,by simp,fun t ht=>by cases ht⟩
 have h2:=hf.s p2 (by simp)
 have hc:=capS_nn p0
 obtain⟨q1,q2⟩:=run_all (c:=capS p0) hf0
 refine⟨hf0,fun z=>(by cases z),fun _=> ?_⟩
 rw[show(if 0<p0 then p0 else 0)=capS p0 from rfl]
 generalize hL:runL (capS p0) p1=L at *
 generalize capS p0=c at *
 rw[tL_eL]
 have hok:=addL_ok (c:=c) (t:=p2) q1 h2.1
 refine⟨rfl,EL.of q1.v (by omega),h2.2,rfl,⟨PW.of q1 (by omega),hc,h2.1⟩,fun z=> ?_,fun z=> ?_⟩
 ·have z:(addL c L p2).e≠0:=by simpa using z
  obtain⟨s1,s2⟩:=kl6 z
  rw[s1,s2,tL_eL,k7f,beq_self_eq_true]
  exact⟨fun _=>⟨rfl,⟨EL.of q1.v (by omega),q1.v,by show L.length<=_;omega⟩,rfl⟩,fun y=>(by cases y)⟩
 ·have z:(addL c L p2).e=0:=by simpa using z
  obtain⟨n,D⟩:=add_ds hc q1 h2.1 z
  have dg:=D.g
  have dl:=D.l
  have dh:=D.h
  generalize addL c L p2=A at *
  have hv:VR p2:=D.v
  have dn:=D.a
  have hgl:A.g.length=L.length-n:=by rw[dg,List.length_reverse,List.length_map,List.length_drop]
  dsimp only
  rw[tL_eL,hgl,wi ((L.length:Int)-((L.length-n:Nat):Int)) (by omega) (by omega),show(L.length:Int)-((L.length-n:Nat):Int)=(n:Int)by omega,dl,wi ((n:Int)+1) (by omega) (by omega),eL_len,dl]
  have hfi:∀i,idxI ((eL A.l).map (·.id)) i=fndL A.l i:=fun i=>by rw[eL_id];rfl
  have hhas:∀i,(0<=fndL A.l i)↔i=idS p2∨i∈(L.take n).map idS:=fun i=>(fnd_has _ _).trans (dh i)
  have EA:=EL.of hok.1.v (by omega)
  refine⟨fun y=> ?_,fun _=>⟨rfl,EA,fun y=> ?_,fun _=>⟨h2,rfl,by omega,fun y=> ?_,fun _=>⟨rfl,?_⟩⟩⟩⟩
  ·have:=of_decide_eq_true y;omega
  ·simp at y
  ·rw[hfi,decide_eq_true ((hhas _).2 (.inl rfl))]at y
   cases y
  refine⟨(fun b f i=>f=c/\i=eL A.l/\∃k:Nat,b=(k:Int)/\k<=L.length),fun b _ _=>(L.length-b).toNat,⟨rfl,rfl,0,rfl,by omega⟩,?_⟩
  rintro _ f _ ⟨hfc,rfl,k,rfl,k1⟩
  subst f
  refine⟨fun x=> ?_,fun x=>⟨fun _=>rfl,fun y=> ?_⟩⟩
  ·have x:k<L.length:=by have:=of_decide_eq_true x;omega
   have hvk:=q1.v _ (List.getElem_mem x)
   have hne:idS L[k]≠idS p2:=fun q=>D.ni (q▸List.mem_map_of_mem (List.getElem_mem x))
   have hk:decide (0<=fndL A.l (idS L[k]))=decide ((k:Int)<(n:Int)):=by
    refine decide_eq_decide.2 ((hhas _).trans ⟨fun q=> ?_,fun q=> .inr ?_⟩)
    ·rcases q with q|q
     ·exact absurd q hne
     ·obtain⟨t,ht,et⟩:=List.mem_map.1 q
      obtain⟨j,hj,rfl⟩:=List.getElem_of_mem ht
      rw[List.length_take]at hj
      rw[List.getElem_take]at et
      have:=(List.getElem_inj (i:=j) (j:=k) (h₀:=by simp;omega) (h₁:=by simpa using x) q1.i).1 (by simpa using et)
      omega
    ·refine List.mem_map_of_mem ?_
     have:(L.take n)[k]'(by rw[List.length_take];omega)=L[k]:=List.getElem_take ..
     rw[<-this]
     exact List.getElem_mem _
   rw[ix_get _ _ x,hfi,hk,inc_i64 _ (by omega),beq_self_eq_true]
   refine⟨by omega,by omega,⟨hvk.r,hvk.tl⟩,rfl,by rw[eL_len];omega,fun y=>(by cases y),fun _=>⟨fun y=> ?_,fun y=>⟨rfl,⟨rfl,rfl,k+1,rfl,by omega⟩,by(dsimp only;omega)⟩⟩⟩
   have y:=of_decide_eq_true y
   rw[wi ((L.length:Int)-1) (by omega) (by omega),wi ((L.length:Int)-1-k) (by omega) (by omega)]
   have hg:ix A.g ((L.length:Int)-1-k)=idS L[k]:=by
    rw[show(L.length:Int)-1-k=((L.length-1-k:Nat):Int)by omega,ix_get _ _ (by omega)]
    simp only[dg]
    rw[List.getElem_reverse,List.getElem_map,List.getElem_drop]
    congr 2
    simp only[List.length_map,List.length_drop]
    omega
   have hbt:betB p2 L[k]=true:=by
    unfold betB
    rw[decide_eq_true hv.v,decide_eq_true hvk.v,D.b L[k] (by
     have:(L.drop n)[k-n]'(by rw[List.length_drop];omega)=L[k]:=by rw[List.getElem_drop];congr 1;omega
     rw[<-this]
     exact List.getElem_mem _)]
    rfl
   rw[hg,hbt]
   exact⟨by omega,by omega,fun w=>(by rw[bne_self_eq_false]at w;cases w),fun _=>⟨⟨h2,hvk.r,hvk.tl⟩,fun w=>(by cases w),fun _=>⟨rfl,⟨rfl,rfl,k+1,rfl,by omega⟩,by(dsimp only;omega)⟩⟩⟩
  ·have y:¬((L.length-n:Nat):Int)=0:=by simpa using y
   have hw:=D.w (by omega)
   have hb1:=wL_tb q1.v (by omega) (n+1)
   have hb2:=k2c hv
   have e1:wL [p2]=weightS p2:=by simp[wL]
   rw[show((n:Int)+1).toNat=n+1 by omega,e1,wi (wL (L.take (n+1))+weightS p2) (by omega) (by omega)]
   refine⟨by omega,by omega,⟨q1.v.take _,by rw[List.length_take];omega⟩,⟨fun t ht=>by rw[List.mem_singleton.1 ht];exact hv,by simp⟩,?_⟩
   exact decide_eq_true hw
end Go.Proofs.YtpllcoldaiineaaGreat
end
