/-
  Parts of the proofs that the laws of this seat hold of every input, merged by a program: a machine over pure data that is sound for the model, what each function of the translation does in it, and plain lemmas. No conditions but those in each theorem.
-/
import Derived.Test.YtijdfglbhaedoaaGreatA5
set_option maxRecDepth 100000
noncomputable section
namespace Go.Proofs.YtijdfglbhaedoaaGreat
open Go Go.Bv Go.Cv Go.Md Go.RowKit
open Go.IntKind (i64 u64)
noncomputable def k92:Con TB.den:= .b ⟨67,[.one (.ptr 0 0),.agg [zqu,zqi,zqu,zqu,zqu,.d (.sl (.st 2))],.one (.ptr 1 0)],[.cells [zqi,zqi,zqi,zqi,zqi,zqu,zqi,zqi,zqu,zqi,zqi,zql,.row 2,.ptr 3 0,.d (.sl (.st 9)),zqu,.row 4,.row 5],.cells [zqi,zqi,zql,zqi,.own 6,.d (.sl (.st 9)),zqu],.vec yqu,.cells [.mp 7],.vec yqu,.vec (.st 10),.tip yqu,.map yqu (.bool)],(.one (.one (zqi))),[.cells [zqi,zqi,zqi,zqi,zqi,zqu,zqi,zqi,zqu,zqi,zqi,zql,.row 8,.ptr 3 0,.d (.sl (.st 9)),zqu,.row 4,.row 5],.cells [zqi,zqi,zql,zqi,.own 6,.d (.sl (.st 9)),zqu],.dead,.cells [.mp 7],.vec yqu,.vec (.st 10),.tip yqu,.map yqu (.bool),.vec yqu],false⟩ [.st 3,yqi,yqi,yqi,yqi,yqi,yqu,yqi,yqi,yqu,yqi,yqi,.sl yqu,.sl (.st 9),yqu,yqi,yqi,.sl yqu,yqi,.sl (.st 9),yqu,.sl yqu,.sl yqu,.sl (.st 10),.sl yqu,.sl yqu,.sl (.bool)] [yqi,yqi,yqi,yqi,yqi,yqi,yqu,yqi,yqi,yqu,yqi,yqi,.sl yqu,.sl (.st 9),yqu,yqi,yqi,.sl yqu,yqi,.sl (.st 9),yqu,.sl yqu,.sl (.st 10),.sl yqu,.sl yqu,.sl (.bool),.sl yqu] fun(p1:wT) (Aa Ab Ad Ac As At Ai Ak Al Aj Af:Int) (Ag:List Int) (Ae:List wA) (Ah Av Aw:Int) (Ax:List Int) (Au:Int) (Bk:List wA) (Bl:Int) (w2 w4:List Int) (w5:List wS) (w6 w7k:List Int) (w7v:List Bool)=>((∃c:Nat,c+p1.Txs.length<=790/\PI (PS.mk (wJ.mk Aa Ab Ad Ac As At Ai Ak Al) (wF.mk Aj Af Ag) Ae Ah w2 w4 w5 w7k w7v) c 0)/\BR' p1/\w6=[],blkS (PS.mk (wJ.mk Aa Ab Ad Ac As At Ai Ak Al) (wF.mk Aj Af Ag) Ae Ah w2 w4 w5 w7k w7v) w6 p1,fun R=>(R.e,R.s.R.wAE,R.s.R.wC,R.s.R.wR,R.s.R.wO,R.s.R.wN,R.s.R.wQ,R.s.R.wm,R.s.R.wc,R.s.R.wAJ,R.s.F.wC,R.s.F.wa,R.s.F.wh,R.s.b,R.s.n,Av,Aw,Ax,Au,Bk,Bl,R.s.r,R.s.p,R.m,R.s.k,R.s.v,R.s.l,()))
theorem kao:k92.Ok Tryz.prog TB:=pbv Bs Tryz.func67 (.nd [.trimc 0 12] .no [] (.r 0 (.nd [] (.r 0 (.lp [] ⟨[7,6,5,4,3,1,0],[.map yqu (.bool),.tip yqu,.vec (.st 10),.vec yqu,.cells [.mp 0],.cells [zqi,zqi,zql,zqi,.own 1,.d (.sl (.st 9)),zqu],.cells [zqi,zqi,zqi,zqi,zqi,zqu,zqi,zqi,zqu,zqi,zqi,zql,.row 7,.ptr 4 0,.d (.sl (.st 9)),zqu,.row 3,.row 2],.vec yqu],[7,17],[.one (zqu),.one (zqi)],[8]⟩ .no)) [] .no))) (kcx.c (k7d.c (k41.c c0))) (Q:=∀(p1:wT) (Aa Ab Ad Ac As At Ai Ak Al Aj Af:Int) (Ag:List Int) (Ae:List wA) (Ah Av Aw:Int) (Ax:List Int) (Au:Int) (Bk:List wA) (Bl:Int) (w2 w4:List Int) (w5:List wS) (w6 w7k:List Int) (w7v:List Bool),((∃c:Nat,c+p1.Txs.length<=790/\PI (PS.mk (wJ.mk Aa Ab Ad Ac As At Ai Ak Al) (wF.mk Aj Af Ag) Ae Ah w2 w4 w5 w7k w7v) c 0)/\BR' p1/\w6=[])->∀R,blkS (PS.mk (wJ.mk Aa Ab Ad Ac As At Ai Ak Al) (wF.mk Aj Af Ag) Ae Ah w2 w4 w5 w7k w7v) w6 p1=R-> 
w2.length=w2.length/\(w5.length=w5.length)/\(w4.length=w4.length)/\(w2.length=w2.length)/\(w6=w6)/\∃(I1:Int->Int->Int->Int->(List Int)->Int->(List wA)->Int->Int->Int->Int->Int->Int->Int->Int->Int->Int->Int->Int->(List Int)->(List wA)->Int->(List Int)->(List Bool)->(List Int)->(List wS)->(List Int)->(List Int)->Prop) (M1:Int->Int->Int->Int->(List Int)->Int->(List wA)->Int->Int->Int->Int->Int->Int->Int->Int->Int->Int->Int->Int->(List Int)->(List wA)->Int->(List Int)->(List Bool)->(List Int)->(List wS)->(List Int)->(List Int)->Nat),I1 0 0 Av Aw Ax Au Bk Bl Aa Ab Ad Ac As At Ai Ak Al Aj Af Ag Ae Ah w7k w7v w6 w5 w4 w2/\∀(b1 f1 i1 k1:Int) (l1:List Int) (m1:Int) (n1:List wA) (o1 q1 s1 t1 u1 x1 y1 b2 f2 i2 k2 l2:Int) (m2:List Int) (n2:List wA) (o2:Int) (q2:List Int) (s2:List Bool) (t2:List Int) (u2:List wS) (x2 y2:List Int),(I1 b1 f1 i1 k1 l1 m1 n1 o1 q1 s1 t1 u1 x1 y1 b2 f2 i2 k2 l2 m2 n2 o2 q2 s2 t2 u2 x2 y2->
(decide (f1<(p1.Txs.length:Int))=true->
(0<=f1)/\f1<(p1.Txs.length:Int)/\(u2.length=u2.length)/\(x2.length=x2.length)/\(y2.length=y2.length)/\((∃(c:Nat) (f:Int),c<=800/\PI (PS.mk (wJ.mk q1 s1 t1 u1 x1 y1 b2 f2 i2) (wF.mk k2 l2 m2) n2 o2 y2 x2 u2 q2 s2) c f)/\TR (ix p1.Txs f1))/\let r1:Int:=(chkS (PS.mk (wJ.mk q1 s1 t1 u1 x1 y1 b2 f2 i2) (wF.mk k2 l2 m2) n2 o2 y2 x2 u2 q2 s2) (ix p1.Txs f1))
((r1 !=0)=true->
(t2=t2)/\(u2.length=u2.length)/\(x2.length=x2.length)/\(y2.length=y2.length)/\r1=R.e/\q1=R.s.R.wAE/\s1=R.s.R.wC/\t1=R.s.R.wR/\u1=R.s.R.wO/\x1=R.s.R.wN/\y1=R.s.R.wQ/\b2=R.s.R.wm/\f2=R.s.R.wc/\i2=R.s.R.wAJ/\k2=R.s.F.wC/\l2=R.s.F.wa/\m2=R.s.F.wh/\n2=R.s.b/\o2=R.s.n/\i1=Av/\k1=Aw/\l1=Ax/\m1=Au/\n1=Bk/\o1=Bl/\x2=R.s.r/\u2=R.s.p/\t2=R.m/\q2=R.s.k/\s2=R.s.v/\y2=R.s.l)/\
((r1 !=0)=false->
(t2=t2)/\(u2.length=u2.length)/\(x2.length=x2.length)/\(y2.length=y2.length)/\((∃(c:Nat) (f:Int),c<=800/\PI (PS.mk (wJ.mk q1 s1 t1 u1 x1 y1 b2 f2 i2) (wF.mk k2 l2 m2) n2 o2 y2 x2 u2 q2 s2) c f)/\TR (ix p1.Txs f1)/\CK (PS.mk (wJ.mk q1 s1 t1 u1 x1 y1 b2 f2 i2) (wF.mk k2 l2 m2) n2 o2 y2 x2 u2 q2 s2) (ix p1.Txs f1)/\t2.length<=1000000)/\let r2:Int:=((perfS (PS.mk (wJ.mk q1 s1 t1 u1 x1 y1 b2 f2 i2) (wF.mk k2 l2 m2) n2 o2 y2 x2 u2 q2 s2) (ix p1.Txs f1)).e)
let r3:=(perfS (PS.mk (wJ.mk q1 s1 t1 u1 x1 y1 b2 f2 i2) (wF.mk k2 l2 m2) n2 o2 y2 x2 u2 q2 s2) (ix p1.Txs f1)).s
((r2 !=0)=true->
((t2++(ix p1.Txs f1).wG)=(t2++(ix p1.Txs f1).wG))/\(r3.p.length=r3.p.length)/\(r3.r.length=r3.r.length)/\(r3.l.length=r3.l.length)/\r2=R.e/\r3.R.wAE=R.s.R.wAE/\r3.R.wC=R.s.R.wC/\r3.R.wR=R.s.R.wR/\r3.R.wO=R.s.R.wO/\r3.R.wN=R.s.R.wN/\r3.R.wQ=R.s.R.wQ/\r3.R.wm=R.s.R.wm/\r3.R.wc=R.s.R.wc/\r3.R.wAJ=R.s.R.wAJ/\r3.F.wC=R.s.F.wC/\r3.F.wa=R.s.F.wa/\r3.F.wh=R.s.F.wh/\r3.b=R.s.b/\r3.n=R.s.n/\i1=Av/\k1=Aw/\l1=Ax/\m1=Au/\n1=Bk/\o1=Bl/\r3.r=R.s.r/\r3.p=R.s.p/\(t2++(ix p1.Txs f1).wG)=R.m/\r3.k=R.s.k/\r3.v=R.s.v/\r3.l=R.s.l)/\
((r2 !=0)=false->
let v4:Int:=u64.wrap (b1+((ix p1.Txs f1).Fee))
(r3.p.length=r3.p.length)/\(r3.r.length=r3.r.length)/\(r3.l.length=r3.l.length)/\((t2++(ix p1.Txs f1).wG)=(t2++(ix p1.Txs f1).wG))/\I1 v4 (i64.wrap (f1+1)) i1 k1 l1 m1 n1 o1 r3.R.wAE r3.R.wC r3.R.wR r3.R.wO r3.R.wN r3.R.wQ r3.R.wm r3.R.wc r3.R.wAJ r3.F.wC r3.F.wa r3.F.wh r3.b r3.n r3.k r3.v (t2++(ix p1.Txs f1).wG) r3.p r3.r r3.l/\M1 v4 (i64.wrap (f1+1)) i1 k1 l1 m1 n1 o1 r3.R.wAE r3.R.wC r3.R.wR r3.R.wO r3.R.wN r3.R.wQ r3.R.wm r3.R.wc r3.R.wAJ r3.F.wC r3.F.wa r3.F.wh r3.b r3.n r3.k r3.v (t2++(ix p1.Txs f1).wG) r3.p r3.r r3.l<M1 b1 f1 i1 k1 l1 m1 n1 o1 q1 s1 t1 u1 x1 y1 b2 f2 i2 k2 l2 m2 n2 o2 q2 s2 t2 u2 x2 y2)))/\
(decide (f1<(p1.Txs.length:Int))=false->
(OkA (wg.mk n2).wD/\U64 (u64.wrap (y1+b1)))/\let r5:=creditA (wg.mk n2).wD p1.wAo (u64.wrap (y1+b1))
((r5.2 !=0)=true->
(t2=t2)/\(u2.length=u2.length)/\(x2.length=x2.length)/\(y2.length=y2.length)/\r5.2=R.e/\q1=R.s.R.wAE/\s1=R.s.R.wC/\t1=R.s.R.wR/\u1=R.s.R.wO/\x1=R.s.R.wN/\y1=R.s.R.wQ/\b2=R.s.R.wm/\f2=R.s.R.wc/\i2=R.s.R.wAJ/\k2=R.s.F.wC/\l2=R.s.F.wa/\m2=R.s.F.wh/\n2=R.s.b/\o2=R.s.n/\i1=Av/\k1=Aw/\l1=Ax/\m1=Au/\n1=Bk/\o1=Bl/\x2=R.s.r/\u2=R.s.p/\t2=R.m/\q2=R.s.k/\s2=R.s.v/\y2=R.s.l)/\
((r5.2 !=0)=false->
(t2=t2)/\(u2.length=u2.length)/\(x2.length=x2.length)/\(y2.length=y2.length)/\0=R.e/\q1=R.s.R.wAE/\s1=R.s.R.wC/\t1=R.s.R.wR/\u1=R.s.R.wO/\x1=R.s.R.wN/\y1=R.s.R.wQ/\b2=R.s.R.wm/\f2=R.s.R.wc/\i2=R.s.R.wAJ/\k2=R.s.F.wC/\l2=R.s.F.wa/\m2=R.s.F.wh/\r5.1=R.s.b/\o2=R.s.n/\i1=Av/\k1=Aw/\l1=Ax/\m1=Au/\n1=Bk/\o1=Bl/\x2=R.s.r/\u2=R.s.p/\t2=R.m/\q2=R.s.k/\s2=R.s.v/\y2=R.s.l)))) (by kernel_rfl)<|by
 rintro p1 Aa Ab Ad Ac As At Ai Ak Al Aj Af Ag Ae Ah Av Aw Ax Au Bk Bl w2 w4 w5 w6 w7k w7v h R hR
 obtain⟨⟨c,hc,hp⟩,hb,hw⟩:=h
 subst hw
 unfold blkS at hR
 generalize hG:blkGo p1.Txs (PS.mk (wJ.mk Aa Ab Ad Ac As At Ai Ak Al) (wF.mk Aj Af Ag) Ae Ah w2 w4 w5 w7k w7v) [] 0=G at hR
 refine⟨rfl,rfl,rfl,rfl,rfl,⟨(fun fe a y0 y1 y2 y3 y4 y5 x0 x1 x2 x3 x4 x5 x6 x7 x8 x9 x10 x11 bb nn kk vv mm pp rr ll=>(y0=Av/\y1=Aw/\y2=Ax/\y3=Au/\y4=Bk/\y5=Bl)/\∃i:Nat,a=(i:Int)/\i<=p1.Txs.length/\(∃c' :Nat,c' +(p1.Txs.length-i)<=790/\PI (PS.mk (wJ.mk x0 x1 x2 x3 x4 x5 x6 x7 x8) (wF.mk x9 x10 x11) bb nn ll rr pp kk vv) c' fe)/\mm.length<=4*i/\blkGo (p1.Txs.drop i) (PS.mk (wJ.mk x0 x1 x2 x3 x4 x5 x6 x7 x8) (wF.mk x9 x10 x11) bb nn ll rr pp kk vv) mm fe=G),(fun _ a _ _ _ _ _ _ _ _ _ _ _ _ _ _ _ _ _ _ _ _ _ _ _ _ _ _=>(p1.Txs.length-a).toNat),⟨⟨rfl,rfl,rfl,rfl,rfl,rfl⟩,0,rfl,by omega,⟨c,by omega,hp⟩,by simp,hG⟩,?_⟩⟩
 rintro fe _ y0 y1 y2 y3 y4 y5 x0 x1 x2 x3 x4 x5 x6 x7 x8 x9 x10 x11 bb nn kk vv mm pp rr ll ⟨⟨rfl,rfl,rfl,rfl,rfl,rfl⟩,i,rfl,hi,⟨c',hc',hq⟩,hm,hg⟩
 refine⟨fun e=> ?_,fun e=> ?_⟩
 ·have e:i<p1.Txs.length:=by have:=of_decide_eq_true e;omega
  have ht:=hb.t _ (List.getElem_mem e)
  rw[List.drop_eq_getElem_cons e]at hg
  unfold blkGo at hg
  rw[ix_get _ _ e,inc_i64 _ (by omega)]
  refine⟨by omega,by omega,rfl,rfl,rfl,⟨⟨c',fe,by omega,hq⟩,ht⟩,fun e2=> ?_,fun e2=> ?_⟩
  ·have e2:chkS (PS.mk (wJ.mk x0 x1 x2 x3 x4 x5 x6 x7 x8) (wF.mk x9 x10 x11) bb nn ll rr pp kk vv) p1.Txs[i]≠0:=by simpa using e2
   rw[if_pos e2]at hg
   subst hg
   simp only at hR
   rw[if_pos e2]at hR
   subst hR
   exact(by repeat' first|apply And.intro|exact rfl|exact True.intro)
  ·have e2:chkS (PS.mk (wJ.mk x0 x1 x2 x3 x4 x5 x6 x7 x8) (wF.mk x9 x10 x11) bb nn ll rr pp kk vv) p1.Txs[i]=0:=by simpa using e2
   have k:=kai e2
   rw[if_neg (fun hh=>hh e2)]at hg
   refine⟨rfl,rfl,rfl,rfl,⟨⟨c',fe,by omega,hq⟩,ht,k,by omega⟩,fun e3=> ?_,fun e3=>⟨rfl,rfl,rfl,rfl,⟨⟨rfl,rfl,rfl,rfl,rfl,rfl⟩,i+1,rfl,by omega,⟨c' +1,by omega,?_⟩,?_,?_⟩,by(dsimp only;omega)⟩⟩
   ·have e3:(perfS (PS.mk (wJ.mk x0 x1 x2 x3 x4 x5 x6 x7 x8) (wF.mk x9 x10 x11) bb nn ll rr pp kk vv) p1.Txs[i]).e≠0:=by simpa using e3
    rw[if_pos e3]at hg
    subst hg
    simp only at hR
    rw[if_pos e3]at hR
    subst hR
    exact(by repeat' first|apply And.intro|exact rfl|exact True.intro)
   ·have e3:(perfS (PS.mk (wJ.mk x0 x1 x2 x3 x4 x5 x6 x7 x8) (wF.mk x9 x10 x11) bb nn ll rr pp kk vv) p1.Txs[i]).e=0:=by simpa using e3
    have h9:=(hq.perf (by omega) ht k).2.2 e3
    rw[khj hq (by omega) ht k]
    exact h9
   ·have:=k.v.ml
    rw[List.length_append]
    omega
   ·have e3:(perfS (PS.mk (wJ.mk x0 x1 x2 x3 x4 x5 x6 x7 x8) (wF.mk x9 x10 x11) bb nn ll rr pp kk vv) p1.Txs[i]).e=0:=by simpa using e3
    rw[if_neg (fun hh=>hh e3)]at hg
    exact hg
 ·have e:i=p1.Txs.length:=by have:=of_decide_eq_false e;omega
  subst e
  rw[List.drop_length]at hg
  unfold blkGo at hg
  subst hg
  have hw:=khp (x:=⟨0,(PS.mk (wJ.mk x0 x1 x2 x3 x4 x5 x6 x7 x8) (wF.mk x9 x10 x11) bb nn ll rr pp kk vv),mm,fe⟩) hq (by omega)
  simp only at hw
  unfold crB at hR
  simp only at hR
  rw[if_neg (fun hh=>hh rfl)]at hR
  refine⟨⟨hq.b.1,?_⟩,fun e2=> ?_,fun e2=> ?_⟩
  ·rw[hw.1];exact hw.2
  ·have e2:(creditA bb p1.wAo (u64.wrap (x5+fe))).2≠0:=by simpa using e2
   rw[if_pos e2]at hR
   subst hR
   exact(by repeat' first|apply And.intro|exact rfl|exact True.intro)
  ·have e2:(creditA bb p1.wAo (u64.wrap (x5+fe))).2=0:=by simpa using e2
   rw[if_neg (fun hh=>hh e2)]at hR
   subst hR
   exact(by repeat' first|apply And.intro|exact rfl|exact True.intro)
noncomputable def kd0:Con TB.den:= .g ⟨104,[.one (.ptr 0 0),.one (zql)],[.cells [.mp 1],.map yqu (.bool)],(.one (.one (zqi))),[.cells [.mp 1],.map yqu (.bool)],false⟩ [.sl yqu,.sl yqu,.sl (.bool)] [yqi,.sl yqu,.sl (.bool)] [] fun(p1 w1k:List Int) (w1v:List Bool)=>(w1v=trs w1k/\p1.length<=1000000,((remS p1 w1k).1:Int),((remS p1 w1k).2:List Int),(trs (remS p1 w1k).2:List Bool),())
theorem kfg:kd0.Ok Tryz.prog TB:=prv Bs Tryz.func104 (.r 1 (.nd [] (.r 0 (.lp [] ⟨[1],[.map yqu (.bool)],[16],[.one (zqi)],[]⟩ .no)) [] .no)) (k9k.c (k2o.c c0)) (Q:=∀(p1 w1k:List Int) (w1v:List Bool),(w1v=trs w1k/\p1.length<=1000000)->∀r0:Int,((remS p1 w1k).1)=r0->∀e1k:List Int,((remS p1 w1k).2)=e1k->∀e1v:List Bool,(trs (remS p1 w1k).2)=e1v-> 
(w1v=trs w1k/\p1.length<=1000000)/\let r1:Bool:=(p1.any (fun m=>decide (m∈w1k)==false))
(r1=true->
4=r0/\w1k=e1k/\w1v=e1v)/\
(r1=false->
(p1.length<=1000000)/\((!decide p1.Nodup)=true->
4=r0/\w1k=e1k/\w1v=e1v)/\
((!decide p1.Nodup)=false->
∃(I1:Int->(List Int)->(List Bool)->Prop) (M1:Int->(List Int)->(List Bool)->Nat),I1 0 w1k w1v/\∀(b1:Int) (f1:List Int) (i1:List Bool),(I1 b1 f1 i1->
(decide (b1<(p1.length:Int))=true->
(0<=b1)/\b1<(p1.length:Int)/\f1.length=i1.length/\let v2:List Int:=mDelK (BEq.beq (ix p1 b1)) f1
let v3:List Bool:=mDelV (BEq.beq (ix p1 b1)) f1 i1
I1 (i64.wrap (b1+1)) v2 v3/\M1 (i64.wrap (b1+1)) v2 v3<M1 b1 f1 i1)/\
(decide (b1<(p1.length:Int))=false->
0=r0/\f1=e1k/\i1=e1v))))) (by kernel_rfl)<|by
 rintro p1 w1k w1v h _ rfl _ rfl _ rfl
 obtain⟨h,hl⟩:=h
 subst h
 have ea:(p1.any fun m=>decide (m∈w1k)==false)=p1.any fun m=> !decide (m∈w1k):=by congr 1;funext m;cases decide (m∈w1k)<;>rfl
 refine⟨⟨rfl,hl⟩,?_⟩
 rw[ea]
 refine⟨fun e=> ?_,fun e=>⟨hl,fun e2=> ?_,fun e2=> ?_⟩⟩
 ·have:remS p1 w1k=(4,w1k):=by unfold remS;rw[e];rfl
  rw[this]
  exact⟨rfl,rfl,rfl⟩
 ·have:remS p1 w1k=(4,w1k):=by unfold remS;rw[e,e2];rfl
  rw[this]
  exact⟨rfl,rfl,rfl⟩
 ·have hA:remS p1 w1k=(0,p1.foldl List.erase w1k):=by unfold remS;rw[e,e2];rfl
  rw[hA]
  refine⟨(fun a k v=>∃i:Nat,a=(i:Int)/\i<=p1.length/\k=(p1.take i).foldl List.erase w1k/\v=trs k),(fun a _ _=>(p1.length-a).toNat),⟨0,rfl,by omega,rfl,rfl⟩,?_⟩
  rintro _ _ _ ⟨i,rfl,hi,rfl,rfl⟩
  refine⟨fun e3=> ?_,fun e3=> ?_⟩
  ·have e3:i<p1.length:=by have:=of_decide_eq_true e3;omega
   rw[ix_get _ _ e3,inc_i64 _ (by omega)]
   obtain⟨q1,q2⟩:=sDel ((p1.take i).foldl List.erase w1k) p1[i]
   rw[q1,q2]
   refine⟨by omega,by omega,by simp[trs],⟨i+1,rfl,by omega,?_,rfl⟩,by(dsimp only;omega)⟩
   rw[List.take_succ_eq_append_getElem e3,List.foldl_append]
   rfl
  ·have e3:i=p1.length:=by have:=of_decide_eq_false e3;omega
   subst e3
   rw[List.take_length]
   exact⟨rfl,rfl,rfl⟩
noncomputable def k8z:Con TB.den:= .g ⟨68,[.one (.ptr 0 0),.agg [zqi,zqi,zql,zqi,zql,.d (.sl (.st 9)),zqu]],[.cells [zqi,zqi,zqi,zqi,zqi,zqu,zqi,zqi,zqu,zqi,zqi,zql,.row 1,.ptr 2 0,.d (.sl (.st 9)),zqu,.row 3,.row 4],.vec yqu,.cells [.mp 5],.vec yqu,.vec (.st 10),.map yqu (.bool)],(.tup []),[.cells [zqi,zqi,zqi,zqi,zqi,zqu,zqi,zqi,zqu,zqi,zqi,zql,.view 1,.ptr 2 0,.d (.sl (.st 9)),zqu,.row 3,.row 4],.vec yqu,.cells [.mp 5],.vec yqu,.vec (.st 10),.map yqu (.bool)],false⟩ [.st 10,yqi,yqi,yqi,yqi,yqi,yqu,yqi,yqi,yqu,yqi,yqi,.sl yqu,.sl (.st 9),yqu,.sl yqu,.sl yqu,.sl (.st 10),.sl yqu,.sl (.bool)] [yqi,yqi,yqi,yqi,yqi,yqu,yqi,yqi,yqu,yqi,yqi,.sl yqu,yqi,yqi,.sl (.st 9),yqu,.sl yqu,.sl yqu,.sl (.st 10),.sl yqu,.sl (.bool)] [] fun(p1:wS) (Aa Ab Ad Ac As At Ai Ak Al Aj Af:Int) (Ag:List Int) (Ae:List wA) (Ah:Int) (w1 w3:List Int) (w4:List wS) (w5k:List Int) (w5v:List Bool)=>(w5v=trs w5k/\p1.marks.length<=1000000/\0<=p1.leaves/\p1.leaves<=(w1.length:Int),Aa,Ab,Ad,Ac,As,At,Ai,Ak,Al,p1.wAs,p1.wAt,p1.wAu,(0:Int),(p1.leaves.toNat:Int),p1.wAm,p1.hidden,w1,w3,w4,((remS p1.marks w5k).2:List Int),(trs (remS p1.marks w5k).2:List Bool),())
theorem k9v:k8z.Ok Tryz.prog TB:=prv Bs Tryz.func68 .no (kfg.c c0) (Q:=∀(p1:wS) (Aa Ab Ad Ac As At Ai Ak Al Aj Af:Int) (Ag:List Int) (Ae:List wA) (Ah:Int) (w1 w3:List Int) (w4:List wS) (w5k:List Int) (w5v:List Bool),(w5v=trs w5k/\p1.marks.length<=1000000/\0<=p1.leaves/\p1.leaves<=(w1.length:Int))->∀Ao:Int,Aa=Ao->∀Am:Int,Ab=Am->∀Ap:Int,Ad=Ap->∀Aq:Int,Ac=Aq->∀Bi:Int,As=Bi->∀Bj:Int,At=Bj->∀Be:Int,Ai=Be->∀Bf:Int,Ak=Bf->∀Bg:Int,Al=Bg->∀Bh:Int,p1.wAs=Bh->∀Ba:Int,p1.wAt=Ba->∀Bb:List Int,p1.wAu=Bb->∀d0_12o:Int,(0:Int)=d0_12o->∀d0_12n:Int,(p1.leaves.toNat:Int)=d0_12n->∀Bc:List wA,p1.wAm=Bc->∀Bd:Int,p1.hidden=Bd->∀e1:List Int,w1=e1->∀e3:List Int,w3=e3->∀e4:List wS,w4=e4->∀e5k:List Int,((remS p1.marks w5k).2)=e5k->∀e5v:List Bool,(trs (remS p1.marks w5k).2)=e5v-> 
(w5v=trs w5k/\p1.marks.length<=1000000)/\(0<=p1.leaves)/\p1.leaves<=(w1.length:Int)/\(w4.length=w4.length)/\(w3.length=w3.length)/\Aa=Ao/\Ab=Am/\Ad=Ap/\Ac=Aq/\As=Bi/\At=Bj/\Ai=Be/\Ak=Bf/\Al=Bg/\p1.wAs=Bh/\p1.wAt=Ba/\p1.wAu=Bb/\(0:Int)=d0_12o/\(p1.leaves.toNat:Int)=d0_12n/\p1.wAm=Bc/\p1.hidden=Bd/\w1=e1/\w3=e3/\w4=e4/\((remS p1.marks w5k).2)=e5k/\(trs (remS p1.marks w5k).2)=e5v) (by kernel_rfl)<|by
 rintro p1 Aa Ab Ad Ac As At Ai Ak Al Aj Af Ag Ae Ah w1 w3 w4 w5k w5v h _ rfl _ rfl _ rfl _ rfl _ rfl _ rfl _ rfl _ rfl _ rfl _ rfl _ rfl _ rfl _ rfl _ rfl _ rfl _ rfl _ rfl _ rfl _ rfl _ rfl _ rfl
 exact⟨⟨h.1,h.2.1⟩,h.2.2.1,h.2.2.2,rfl,rfl,rfl,rfl,rfl,rfl,rfl,rfl,rfl,rfl,rfl,rfl,rfl,rfl,rfl,rfl,rfl,rfl,rfl,rfl,rfl,rfl,rfl⟩
noncomputable def k7w:Con TB.den:= .gp 99 [yqi] [yqu] [] fun(p0:Int)=>(0<=p0/\p0<=12,(emp p0.toNat:Int),())
theorem k3d:k7w.Ok Tryz.prog TB:=qrv Bs Tryz.func99 (.r 2 (.nd [] (.r 0 (.lp [] ⟨[],[],[3,12],[.one (zqu),.one (zqi)],[]⟩ .no)) [] .no)) (kx.c (k1l.c c0)) (Q:=∀(p0:Int),(0<=p0/\p0<=12)->∀r0:Int,emp p0.toNat=r0-> 
(decide (p0<0)=true->
0=r0)/\
(decide (p0<0)=false->
(decide (12<p0)=true->
0=r0)/\
(decide (12<p0)=false->
((18446744069414584321:Int)=18446744069414584321/\U64 (6:Int)/\Us ([]:List Int)/\([]:List Int).length<=1099511627776)/\∃(I1:Int->Int->Prop) (M1:Int->Int->Nat),I1 (hashS (6:Int) ([]:List Int)) 0/\∀(b1 f1:Int),(I1 b1 f1->
(decide (f1<p0)=true->
(U64 b1/\U64 b1)/\I1 (hashS 6 [b1,b1]) (i64.wrap (f1+1))/\M1 (hashS 6 [b1,b1]) (i64.wrap (f1+1))<M1 b1 f1)/\
(decide (f1<p0)=false->
b1=r0))))) (by kernel_rfl)<|by
 rintro p0 h _ rfl
 refine⟨fun e=>(by have:=of_decide_eq_true e;omega),fun _=>⟨fun e=>(by have:=of_decide_eq_true e;omega),fun _=>⟨⟨rfl,by decide,(by intro x hx;cases hx),by decide⟩,?_⟩⟩⟩
 refine⟨(fun x a=>∃i:Nat,a=(i:Int)/\(i:Int)<=p0/\x=emp i),(fun _ a=>(p0-a).toNat),⟨0,rfl,by omega,rfl⟩,?_⟩
 rintro _ _ ⟨i,rfl,hi,rfl⟩
 refine⟨fun e=> ?_,fun e=> ?_⟩
 ·have e:=of_decide_eq_true e
  rw[inc_i64 _ (by omega)]
  exact⟨⟨emp_u i,emp_u i⟩,⟨i+1,rfl,by omega,rfl⟩,by(dsimp only;omega)⟩
 ·have e:=of_decide_eq_false e
  have:p0.toNat=i:=by omega
  rw[this]
noncomputable def k8r:Con TB.den:= .gp 66 [.st 6] [yqu] [] fun(p0:wF)=>(FV p0,(rootF p0:Int),())
theorem k2c:k8r.Ok Tryz.prog TB:=qrv Bs Tryz.func66 (.r 4 (.nd [] (.r 0 (.lp [] ⟨[],[],[3,4,25],[.one (zqu),.one (zqu),.one (zqi)],[]⟩ (.r 1 (.nd [] (.r 0 (.jn ⟨[],[],[4],[.one (zqu)],[]⟩ [] .no [] .no)) [] .no)))) [] .no)) (k3e.c (k3d.c (k1l.c c0))) (Q:=∀(p0:wF),(FV p0)->∀r0:Int,rootF p0=r0-> 
(FV p0)/\((!true)=true->
0=r0)/\
((!true)=false->
(0<=p0.wC)/\((p0.wa==(ishl .i64 1 p0.wC))=true->
(0<=p0.wC)/\p0.wC<(p0.wh.length:Int)/\ix p0.wh p0.wC=r0)/\
((p0.wa==(ishl .i64 1 p0.wC))=false->
(0<=(0:Int)/\(0:Int)<=12)/\∃(I1:Int->Int->Int->Prop) (M1:Int->Int->Int->Nat),I1 (emp (0:Int).toNat) (emp (0:Int).toNat) 0/\∀(b1 f1 i1:Int),(I1 b1 f1 i1->
(decide (i1<p0.wC)=true->
∀J1:Int->Prop,(∀(k1:Int),
((U64 b1/\U64 b1)/\I1 (hashS 6 [b1,b1]) k1 (i64.wrap (i1+1))/\M1 (hashS 6 [b1,b1]) k1 (i64.wrap (i1+1))<M1 b1 f1 i1)->J1 k1)->
(0<=i1)/\let v1:Bool:=((iand .i64 (ishr .i64 p0.wa i1) 1)==1)
(v1=true->
(0<=i1)/\i1<(p0.wh.length:Int)/\(U64 (ix p0.wh i1)/\U64 f1)/\J1 (hashS 6 [(ix p0.wh i1),f1]))/\
(v1=false->
(U64 f1/\U64 b1)/\J1 (hashS 6 [f1,b1])))/\
(decide (i1<p0.wC)=false->
f1=r0))))) (by kernel_rfl)<|by
 rintro p0 h _ rfl
 have hv:=h
 obtain⟨d1,d2,c0,c1,ll,u,z⟩:=h
 obtain⟨d,hd⟩:=Int.eq_ofNat_of_zero_le (show 0<=p0.wC by omega)
 obtain⟨n,hn⟩:=Int.eq_ofNat_of_zero_le c0
 have hdn:p0.wC.toNat=d:=by omega
 have hp:=pow12 d (by omega)
 rw[hdn]at c1 ll
 refine⟨hv,fun e=>(by cases e),fun _=>⟨by omega,?_⟩⟩
 rw[hd,shl1 d (by omega),hn]
 refine⟨fun e=>⟨by omega,by omega,?_⟩,fun e=>⟨by decide,?_⟩⟩
 ·have e:(n:Int)=((2^d:Nat):Int):=by simpa using e
  unfold rootF
  rw[hdn,hn,if_pos e,hd]
 have e:¬(n:Int)=((2^d:Nat):Int):=by simpa using e
 have hr:rootF p0=rootGo p0 d 0 (emp 0) (emp 0):=by
  unfold rootF
  rw[hdn,hn,if_neg e]
 rw[hr]
 refine⟨fun a x b=>∃i:Nat,b=(i:Int)/\i<=d/\a=emp i/\(0<=x/\x<18446744069414584321)/\rootGo p0 (d-i) i (emp i) x=rootGo p0 d 0 (emp 0) (emp 0),fun _ _ b=>(d-b).toNat,⟨0,rfl,by omega,rfl,⟨(emp_u 0).1,emp_lt 0⟩,rfl⟩,?_⟩
 rintro _ x _ ⟨i,rfl,hi,rfl,hx,hg⟩
 refine⟨fun e J1 j=> ?_,fun e=> ?_⟩
 ·have e:i<d:=by have:=of_decide_eq_true e;omega
  have hs:i<p0.wh.length:=by omega
  have hxl:=u _ (List.getElem_mem hs)
  generalize hR:rootGo p0 d 0 (emp 0) (emp 0)=R at hg ⊢
  rw[show d-i=d-(i+1)+1 by omega]at hg
  unfold rootGo at hg
  rw[hn,Int.toNat_natCast]at hg
  rw[bit1 n i (by omega) (by omega)]
  refine⟨by omega,fun e2=>⟨by omega,by omega,?_,?_⟩,fun e2=>⟨⟨⟨hx.1,by omega⟩,emp_u i⟩,?_⟩⟩
  ·rw[ix_get _ _ hs]
   exact⟨⟨hxl.1,by omega⟩,hx.1,by omega⟩
  ·have e2:((n/2^i%2:Nat):Int)=1:=by simpa using e2
   have hb:bitN n i=true:=by unfold bitN;generalize n/2^i%2=q at *;simp;omega
   rw[if_pos hb]at hg
   refine j _ ⟨⟨emp_u i,emp_u i⟩,?_⟩
   rw[inc_i64 _ (by omega)]
   exact⟨⟨i+1,rfl,by omega,rfl,⟨(kr _ _).1,k3w _ _⟩,hg.trans hR.symm⟩,by show((d:Int)-((i+1:Nat):Int)).toNat<((d:Int)-(i:Int)).toNat;omega⟩
  ·have e2:¬((n/2^i%2:Nat):Int)=1:=by simpa using e2
   have hb:¬bitN n i=true:=by unfold bitN;generalize n/2^i%2=q at *;simp;omega
   rw[if_neg hb]at hg
   refine j _ ⟨⟨emp_u i,emp_u i⟩,?_⟩
   rw[inc_i64 _ (by omega)]
   exact⟨⟨i+1,rfl,by omega,rfl,⟨(kr _ _).1,k3w _ _⟩,hg.trans hR.symm⟩,by show((d:Int)-((i+1:Nat):Int)).toNat<((d:Int)-(i:Int)).toNat;omega⟩
 ·have e:d=i:=by have:=of_decide_eq_false e;omega
  subst e
  rw[Nat.sub_self]at hg
  exact hg
noncomputable def kbf:Con TB.den:= .b ⟨43,[.one (.ptr 0 0),.agg [zqu,zqi,zqu,zqu,zqu,.d (.sl (.st 2))]],[.cells [zqi,zqi,zqi,zqi,zqi,zqu,zqi,zqi,zqu,zqi,zqi,zql,.row 1,.ptr 2 0,.d (.sl (.st 9)),zqu,.row 3,.row 4],.vec yqu,.cells [.mp 5],.vec yqu,.vec (.st 10),.map yqu (.bool)],(.one (.one (zqi))),[.cells [zqi,zqi,zqi,zqi,zqi,zqu,zqi,zqi,zqu,zqi,zqi,zql,.row 6,.ptr 2 0,.d (.sl (.st 9)),zqu,.row 7,.row 8],.dead,.cells [.mp 5],.dead,.dead,.map yqu (.bool),.vec yqu,.vec yqu,.vec (.st 10)],false⟩ [.st 3,yqi,yqi,yqi,yqi,yqi,yqu,yqi,yqi,yqu,yqi,yqi,.sl yqu,.sl (.st 9),yqu,.sl yqu,.sl yqu,.sl (.st 10),.sl yqu,.sl (.bool)] [yqi,yqi,yqi,yqi,yqi,yqi,yqu,yqi,yqi,yqu,yqi,yqi,.sl yqu,.sl (.st 9),yqu,.sl yqu,.sl (.bool),.sl yqu,.sl yqu,.sl (.st 10)] fun(p1:wT) (Aa Ab Ad Ac As At Ai Ak Al Aj Af:Int) (Ag:List Int) (Ae:List wA) (Ah:Int) (w1 w3:List Int) (w4:List wS) (w5k:List Int) (w5v:List Bool)=>((∃c:Nat,c+p1.Txs.length<=790/\PI (PS.mk (wJ.mk Aa Ab Ad Ac As At Ai Ak Al) (wF.mk Aj Af Ag) Ae Ah w1 w3 w4 w5k w5v) c 0)/\BR' p1,applyS (PS.mk (wJ.mk Aa Ab Ad Ac As At Ai Ak Al) (wF.mk Aj Af Ag) Ae Ah w1 w3 w4 w5k w5v) p1,fun R=>(R.e,R.s.R.wAE,R.s.R.wC,R.s.R.wR,R.s.R.wO,R.s.R.wN,R.s.R.wQ,R.s.R.wm,R.s.R.wc,R.s.R.wAJ,R.s.F.wC,R.s.F.wa,R.s.F.wh,R.s.b,R.s.n,R.s.k,R.s.v,R.s.l,R.s.r,R.s.p,()))
theorem kd1:kbf.Ok Tryz.prog TB:=pbx Bs [61,62,75,76] Tryz.func43 (.r 0 (.nd [] (.r 0 (.nd [] (.r 0 (.rt [.trimc 0 12,.trimc 0 16,.trimc 0 17])) [] .no)) [] (.nd [] (.r 0 (.nd [] (.r 0 (.rt [.trimc 0 12,.trimc 0 16,.trimc 0 17])) [] .no)) [] (.r 1 (.nd [] (.nd [.tokc 115 4 yqu] .no [] (.r 0 (.nd [] (.r 1 (.rt [.trimc 0 12,.trimc 0 16,.trimc 0 17])) [] .no))) [] .no))))) x0 (kao.c (k9v.c (k2c.c c0))) (Q:=∀(p1:wT) (Aa Ab Ad Ac As At Ai Ak Al Aj Af:Int) (Ag:List Int) (Ae:List wA) (Ah:Int) (w1 w3:List Int) (w4:List wS) (w5k:List Int) (w5v:List Bool),((∃c:Nat,c+p1.Txs.length<=790/\PI (PS.mk (wJ.mk Aa Ab Ad Ac As At Ai Ak Al) (wF.mk Aj Af Ag) Ae Ah w1 w3 w4 w5k w5v) c 0)/\BR' p1)->∀R,applyS (PS.mk (wJ.mk Aa Ab Ad Ac As At Ai Ak Al) (wF.mk Aj Af Ag) Ae Ah w1 w3 w4 w5k w5v) p1=R-> 
let v1:Bool:=(p1.wY !=(i64.wrap ((w4.length:Int)+1)))
(v1=true->
w1.length=w1.length/\w3.length=w3.length/\w4.length=w4.length/\(w4.length=w4.length)/\(w3.length=w3.length)/\(w1.length=w1.length)/\18=R.e/\Aa=R.s.R.wAE/\Ab=R.s.R.wC/\Ad=R.s.R.wR/\Ac=R.s.R.wO/\As=R.s.R.wN/\At=R.s.R.wQ/\Ai=R.s.R.wm/\Ak=R.s.R.wc/\Al=R.s.R.wAJ/\Aj=R.s.F.wC/\Af=R.s.F.wa/\Ag=R.s.F.wh/\Ae=R.s.b/\Ah=R.s.n/\w5k=R.s.k/\w5v=R.s.v/\w1=R.s.l/\w3=R.s.r/\w4=R.s.p)/\
(v1=false->
(decide (18446744069414584321<=p1.wAo)=true->
w1.length=w1.length/\w3.length=w3.length/\w4.length=w4.length/\(w4.length=w4.length)/\(w3.length=w3.length)/\(w1.length=w1.length)/\1=R.e/\Aa=R.s.R.wAE/\Ab=R.s.R.wC/\Ad=R.s.R.wR/\Ac=R.s.R.wO/\As=R.s.R.wN/\At=R.s.R.wQ/\Ai=R.s.R.wm/\Ak=R.s.R.wc/\Al=R.s.R.wAJ/\Aj=R.s.F.wC/\Af=R.s.F.wa/\Ag=R.s.F.wh/\Ae=R.s.b/\Ah=R.s.n/\w5k=R.s.k/\w5v=R.s.v/\w1=R.s.l/\w3=R.s.r/\w4=R.s.p)/\
(decide (18446744069414584321<=p1.wAo)=false->
(([]:List Int)=([]:List Int))/\(w4.length=w4.length)/\(w3.length=w3.length)/\(w1.length=w1.length)/\((∃c:Nat,c+p1.Txs.length<=790/\PI (PS.mk (wJ.mk Aa Ab Ad Ac As At Ai Ak Al) (wF.mk Aj Af Ag) Ae Ah w1 w3 w4 w5k w5v) c 0)/\BR' p1/\([]:List Int)=[])/\let r2:=blkS (PS.mk (wJ.mk Aa Ab Ad Ac As At Ai Ak Al) (wF.mk Aj Af Ag) Ae Ah w1 w3 w4 w5k w5v) ([]:List Int) p1
let r3:=(blkS (PS.mk (wJ.mk Aa Ab Ad Ac As At Ai Ak Al) (wF.mk Aj Af Ag) Ae Ah w1 w3 w4 w5k w5v) ([]:List Int) p1).s
((r2.e !=0)=true->
(r3.p.length=r3.p.length)/\(r3.r.length=r3.r.length)/\(r3.l.length=r3.l.length)/\(r3.v=trs r3.k/\(wS.mk Aj Af Ag (w1.length:Int) r2.m Ae Ah).marks.length<=1000000/\0<=(wS.mk Aj Af Ag (w1.length:Int) r2.m Ae Ah).leaves/\(wS.mk Aj Af Ag (w1.length:Int) r2.m Ae Ah).leaves<=(r3.l.length:Int))/\let r4:=wS.mk Aj Af Ag (w1.length:Int) r2.m Ae Ah
let r5:Int:=((wS.mk Aj Af Ag (w1.length:Int) r2.m Ae Ah).leaves.toNat:Int)
let r6:List Int:=((remS (wS.mk Aj Af Ag (w1.length:Int) r2.m Ae Ah).marks r3.k).2)
let r7:List Bool:=(trs (remS (wS.mk Aj Af Ag (w1.length:Int) r2.m Ae Ah).marks r3.k).2)
(0:Int).toNat=0/\r5.toNat<=r3.l.length/\r3.r.length=r3.r.length/\r3.p.length=r3.p.length/\(r3.p.length=r3.p.length)/\(r3.r.length=r3.r.length)/\((r3.l.take r5.toNat).length=(r3.l.take r5.toNat).length)/\r2.e=R.e/\r3.R.wAE=R.s.R.wAE/\r3.R.wC=R.s.R.wC/\r3.R.wR=R.s.R.wR/\r3.R.wO=R.s.R.wO/\r3.R.wN=R.s.R.wN/\r3.R.wQ=R.s.R.wQ/\r3.R.wm=R.s.R.wm/\r3.R.wc=R.s.R.wc/\r3.R.wAJ=R.s.R.wAJ/\r4.wAs=R.s.F.wC/\r4.wAt=R.s.F.wa/\r4.wAu=R.s.F.wh/\r4.wAm=R.s.b/\r4.hidden=R.s.n/\r6=R.s.k/\r7=R.s.v/\r3.l.take r5.toNat=R.s.l/\r3.r=R.s.r/\r3.p=R.s.p)/\
((r2.e !=0)=false->
let v8:List wS:=[wS.mk Aj Af Ag (w1.length:Int) r2.m Ae Ah]
r3.p.length=r3.p.length/\v8.length=v8.length/\(r3.p.length+v8.length)*104<=140737488355328/\r3.p.length+v8.length<=maxLen/\(FV r3.F)/\r3.r.length=r3.r.length/\[(rootF r3.F)].length=[(rootF r3.F)].length/\(r3.r.length+[(rootF r3.F)].length)*8<=140737488355328/\r3.r.length+[(rootF r3.F)].length<=maxLen/\((r3.p++v8).length=(r3.p++v8).length)/\((r3.r++[(rootF r3.F)]).length=(r3.r++[(rootF r3.F)]).length)/\(r3.l.length=r3.l.length)/\0=R.e/\r3.R.wAE=R.s.R.wAE/\r3.R.wC=R.s.R.wC/\r3.R.wR=R.s.R.wR/\r3.R.wO=R.s.R.wO/\r3.R.wN=R.s.R.wN/\r3.R.wQ=R.s.R.wQ/\r3.R.wm=R.s.R.wm/\r3.R.wc=R.s.R.wc/\r3.R.wAJ=R.s.R.wAJ/\r3.F.wC=R.s.F.wC/\r3.F.wa=R.s.F.wa/\r3.F.wh=R.s.F.wh/\r3.b=R.s.b/\r3.n=R.s.n/\r3.k=R.s.k/\r3.v=R.s.v/\r3.l=R.s.l/\r3.r++[(rootF r3.F)]=R.s.r/\r3.p++v8=R.s.p)))) (by kernel_rfl)<|by
 rintro p1 Aa Ab Ad Ac As At Ai Ak Al Aj Af Ag Ae Ah w1 w3 w4 w5k w5v h R hR
 obtain⟨⟨c,hc,hp⟩,hb⟩:=h
 have hB:=blkS_BI hp (by omega) hb
 have hml:=blkS_ml (PS.mk (wJ.mk Aa Ab Ad Ac As At Ai Ak Al) (wF.mk Aj Af Ag) Ae Ah w1 w3 w4 w5k w5v) p1
 have hQ:=kln hB hp.v
 have hpl:w4.length<=c:=hp.p
 have hrl:w3.length=w4.length+1:=hp.rl
 unfold applyS at hR
 generalize hx:blkS (PS.mk (wJ.mk Aa Ab Ad Ac As At Ai Ak Al) (wF.mk Aj Af Ag) Ae Ah w1 w3 w4 w5k w5v) [] p1=x at hB hml hQ hR
 simp only at hR
 have ei:i64.wrap ((w4.length:Int)+1)=(w4.length:Int)+1:=k15 _ (by omega) (by omega)
 rw[ei]
 refine⟨fun e=> ?_,fun e=>⟨fun e2=> ?_,fun e2=>⟨(by first|exact rfl|exact True.intro),rfl,rfl,rfl,⟨⟨c,hc,hp⟩,hb,rfl⟩,fun e3=> ?_,fun e3=> ?_⟩⟩⟩
 ·have e:p1.wY≠(w4.length:Int)+1:=by simpa using e
  rw[if_pos e]at hR
  subst hR
  exact(by repeat' first|apply And.intro|exact rfl|exact True.intro)
 ·have e:¬p1.wY≠(w4.length:Int)+1:=by simpa using e
  rw[if_neg e,if_pos (of_decide_eq_true e2)]at hR
  subst hR
  exact(by repeat' first|apply And.intro|exact rfl|exact True.intro)
 ·have e:¬p1.wY≠(w4.length:Int)+1:=by simpa using e
  have e3:x.e≠0:=by simpa using e3
  rw[if_neg e,if_neg (of_decide_eq_false e2),if_pos e3]at hR
  subst hR
  obtain⟨y,hy⟩:=hB.l
  have hy:x.s.l=w1++y:=hy
  have hR2:x.s.R=wJ.mk Aa Ab Ad Ac As At Ai Ak Al:=hB.R
  have hk2:(remS x.m x.s.k).2=w5k:=congrArg PS.k hQ
  have hv2:trs (remS x.m x.s.k).2=w5v:=congrArg PS.v hQ
  have hl2:x.s.l.take w1.length=w1:=by rw[hy];exact List.take_left
  have hr2:x.s.r=w3:=hB.r
  have hp2:x.s.p=w4:=hB.p
  refine⟨rfl,rfl,rfl,⟨hB.v,?_,?_,?_⟩,?_⟩
  ·show x.m.length<=1000000
   omega
  ·show(0:Int)<=(w1.length:Int)
   omega
  ·show(w1.length:Int)<=(x.s.l.length:Int)
   rw[hy,List.length_append]
   omega
  ·simp only[Int.toNat_natCast]
   rw[hR2,hk2,hl2,hr2,hp2]
   rw[hk2]at hv2
   refine⟨(by first|exact rfl|exact True.intro),?_,?_⟩
   ·rw[hy,List.length_append]
    omega
   ·rw[hv2]
    exact(by repeat' first|apply And.intro|exact rfl|exact True.intro)
 ·have e:¬p1.wY≠(w4.length:Int)+1:=by simpa using e
  have e3:x.e=0:=by simpa using e3
  rw[if_neg e,if_neg (of_decide_eq_false e2),if_neg (fun hh=>hh e3)]at hR
  subst hR
  have hr2:x.s.r=w3:=hB.r
  have hp2:x.s.p=w4:=hB.p
  have hR2:x.s.R=wJ.mk Aa Ab Ad Ac As At Ai Ak Al:=hB.R
  have hfv:FV x.s.F:=by
   rw[hB.F]
   exact frF_FV (by rw[hR2];exact hp.d1) (by rw[hR2];exact hp.d2) hB.ll hB.lb
  rw[hr2,hp2]
  refine⟨rfl,rfl,?_,?_,hfv,rfl,rfl,?_,?_,(by repeat' first|apply And.intro|exact rfl|exact True.intro)⟩
  ·simp only[List.length_cons,List.length_nil];omega
  ·simp only[List.length_cons,List.length_nil];unfold maxLen;omega
  ·simp only[List.length_cons,List.length_nil];omega
  ·simp only[List.length_cons,List.length_nil];unfold maxLen;omega
noncomputable def k7i:Con TB.den:= .g ⟨69,[.one (.row 0)],[.vec yqu],(.one (.one (.row 1))),[.vec yqu,.vec yqu],false⟩ [.sl yqu] [.sl yqu,.sl yqu] [] fun(w0:List Int)=>(w0.length<=1000000,w0,w0,())
theorem k8i:k7i.Ok Tryz.prog TB:=prx Bs [5,7] Tryz.func69 (.r 0 (.nd [] (.r 0 (.nd [] (.r 0 (.rt [.rnil 2 yqu])) [] .no)) [] .no)) x0 c0 (Q:=∀(w0:List Int),(w0.length<=1000000)->∀e0:List Int,w0=e0->∀e1:List Int,w0=e1-> 
∀z4:Bool,(z4=true->w0.length=0)->(z4=true->
(0=([]:List Int).length)/\w0=e0/\([]:List Int)=e1)/\
(z4=false->
([]:List Int).length=([]:List Int).length/\w0.length=w0.length/\(([]:List Int).length+w0.length)*8<=140737488355328/\([]:List Int).length+w0.length<=maxLen/\((([]:List Int)++w0).length=(([]:List Int)++w0).length)/\w0=e0/\([]:List Int)++w0=e1)) (by kernel_rfl)<|by
 rintro w0 h _ rfl _ rfl
 exact fun z hz=>⟨fun e=>⟨rfl,rfl,(List.eq_nil_of_length_eq_zero (hz e)).symm⟩,fun e=>⟨rfl,rfl,by simp;omega,by simp;unfold maxLen;omega,rfl,rfl,rfl⟩⟩
noncomputable def ka5:Con TB.den:= .g ⟨44,[.one (.ptr 0 0)],[.cells [zqi,zqi,zqi,zqi,zqi,zqu,zqi,zqi,zqu,zqi,zqi,zql,.row 1,.ptr 2 0,.d (.sl (.st 9)),zqu,.row 3,.row 4],.vec yqu,.cells [.mp 5],.vec yqu,.vec (.st 10),.map yqu (.bool)],(.one (.one (zql))),[.cells [zqi,zqi,zqi,zqi,zqi,zqu,zqi,zqi,zqu,zqi,zqi,zql,.row 1,.ptr 2 0,.d (.sl (.st 9)),zqu,.row 3,.row 4],.vec yqu,.cells [.mp 5],.vec yqu,.vec (.st 10),.map yqu (.bool)],false⟩ [yqi,yqi,yqi,yqi,yqi,yqu,yqi,yqi,yqu,yqi,yqi,.sl yqu,.sl (.st 9),yqu,.sl yqu,.sl yqu,.sl (.st 10),.sl yqu,.sl (.bool)] [.sl yqu,yqi,yqi,yqi,yqi,yqi,yqu,yqi,yqi,yqu,yqi,yqi,.sl yqu,.sl (.st 9),yqu,.sl yqu,.sl yqu,.sl (.st 10),.sl yqu,.sl (.bool)] [] fun(Aa Ab Ad Ac As At Ai Ak Al Aj Af:Int) (Ag:List Int) (Ae:List wA) (Ah:Int) (w1 w3:List Int) (w4:List wS) (w5k:List Int) (w5v:List Bool)=>(w1.length<=1000000,w1,Aa,Ab,Ad,Ac,As,At,Ai,Ak,Al,Aj,Af,Ag,Ae,Ah,w1,w3,w4,w5k,w5v,())
theorem kbk:ka5.Ok Tryz.prog TB:=prv Bs Tryz.func44 (.r 1 (.rt [.frz 6 [2]])) (k8i.c c0) (Q:=∀(Aa Ab Ad Ac As At Ai Ak Al Aj Af:Int) (Ag:List Int) (Ae:List wA) (Ah:Int) (w1 w3:List Int) (w4:List wS) (w5k:List Int) (w5v:List Bool),(w1.length<=1000000)->∀r0:List Int,w1=r0->∀Ao:Int,Aa=Ao->∀Am:Int,Ab=Am->∀Ap:Int,Ad=Ap->∀Aq:Int,Ac=Aq->∀Bi:Int,As=Bi->∀Bj:Int,At=Bj->∀Be:Int,Ai=Be->∀Bf:Int,Ak=Bf->∀Bg:Int,Al=Bg->∀Bh:Int,Aj=Bh->∀Ba:Int,Af=Ba->∀Bb:List Int,Ag=Bb->∀Bc:List wA,Ae=Bc->∀Bd:Int,Ah=Bd->∀e1:List Int,w1=e1->∀e3:List Int,w3=e3->∀e4:List wS,w4=e4->∀e5k:List Int,w5k=e5k->∀e5v:List Bool,w5v=e5v-> 
(w1.length=w1.length)/\(w1.length<=1000000)/\(w1.length=w1.length)/\(w4.length=w4.length)/\(w3.length=w3.length)/\(w1.length=w1.length)/\w1=r0/\Aa=Ao/\Ab=Am/\Ad=Ap/\Ac=Aq/\As=Bi/\At=Bj/\Ai=Be/\Ak=Bf/\Al=Bg/\Aj=Bh/\Af=Ba/\Ag=Bb/\Ae=Bc/\Ah=Bd/\w1=e1/\w3=e3/\w4=e4/\w5k=e5k/\w5v=e5v) (by kernel_rfl)<|by
 rintro Aa Ab Ad Ac As At Ai Ak Al Aj Af Ag Ae Ah w1 w3 w4 w5k w5v h _ rfl _ rfl _ rfl _ rfl _ rfl _ rfl _ rfl _ rfl _ rfl _ rfl _ rfl _ rfl _ rfl _ rfl _ rfl _ rfl _ rfl _ rfl _ rfl _ rfl
 exact⟨rfl,h,(by repeat' first|apply And.intro|exact rfl|exact True.intro)⟩
noncomputable def k3p:Con TB.den:= .gp 71 [.sl (.st 9)] [.sl (.st 9)] [] fun(p0:List wA)=>(p0.length<=100000,p0,())
theorem k4b:k3p.Ok Tryz.prog TB:=qrv Bs Tryz.func71 .no c0 (Q:=∀(p0:List wA),(p0.length<=100000)->∀r0:List wA,p0=r0-> 
∀z4:Bool,(z4=true->p0=[])->(z4=true->
([]:List wA)=r0)/\
(z4=false->
(([]:List wA).length+p0.length)*24<=140737488355328/\([]:List wA).length+p0.length<=maxLen/\([]:List wA)++p0=r0)) (by kernel_rfl)<|by
 rintro p0 h _ rfl
 exact fun z hz=>⟨fun h=>(hz h).symm,fun _=>⟨by simp;omega,by simp;unfold maxLen;omega,rfl⟩⟩
noncomputable def kap:Con TB.den:= .g ⟨46,[.one (.ptr 0 0)],[.cells [zqi,zqi,zqi,zqi,zqi,zqu,zqi,zqi,zqu,zqi,zqi,zql,.row 1,.ptr 2 0,.d (.sl (.st 9)),zqu,.row 3,.row 4],.vec yqu,.cells [.mp 5],.vec yqu,.vec (.st 10),.map yqu (.bool)],(.one (.agg [.d (.sl (.st 9))])),[.cells [zqi,zqi,zqi,zqi,zqi,zqu,zqi,zqi,zqu,zqi,zqi,zql,.row 1,.ptr 2 0,.d (.sl (.st 9)),zqu,.row 3,.row 4],.vec yqu,.cells [.mp 5],.vec yqu,.vec (.st 10),.map yqu (.bool)],false⟩ [yqi,yqi,yqi,yqi,yqi,yqu,yqi,yqi,yqu,yqi,yqi,.sl yqu,.sl (.st 9),yqu,.sl yqu,.sl yqu,.sl (.st 10),.sl yqu,.sl (.bool)] [.st 15,yqi,yqi,yqi,yqi,yqi,yqu,yqi,yqi,yqu,yqi,yqi,.sl yqu,.sl (.st 9),yqu,.sl yqu,.sl yqu,.sl (.st 10),.sl yqu,.sl (.bool)] [] fun(Aa Ab Ad Ac As At Ai Ak Al Aj Af:Int) (Ag:List Int) (Ae:List wA) (Ah:Int) (w1 w3:List Int) (w4:List wS) (w5k:List Int) (w5v:List Bool)=>(Ae.length<=100000,(wg.mk Ae:wg),Aa,Ab,Ad,Ac,As,At,Ai,Ak,Al,Aj,Af,Ag,Ae,Ah,w1,w3,w4,w5k,w5v,())
theorem kck:kap.Ok Tryz.prog TB:=prv Bs Tryz.func46 .no (k4b.c c0) (Q:=∀(Aa Ab Ad Ac As At Ai Ak Al Aj Af:Int) (Ag:List Int) (Ae:List wA) (Ah:Int) (w1 w3:List Int) (w4:List wS) (w5k:List Int) (w5v:List Bool),(Ae.length<=100000)->∀r0:wg,wg.mk Ae=r0->∀Ao:Int,Aa=Ao->∀Am:Int,Ab=Am->∀Ap:Int,Ad=Ap->∀Aq:Int,Ac=Aq->∀Bi:Int,As=Bi->∀Bj:Int,At=Bj->∀Be:Int,Ai=Be->∀Bf:Int,Ak=Bf->∀Bg:Int,Al=Bg->∀Bh:Int,Aj=Bh->∀Ba:Int,Af=Ba->∀Bb:List Int,Ag=Bb->∀Bc:List wA,Ae=Bc->∀Bd:Int,Ah=Bd->∀e1:List Int,w1=e1->∀e3:List Int,w3=e3->∀e4:List wS,w4=e4->∀e5k:List Int,w5k=e5k->∀e5v:List Bool,w5v=e5v-> 
(Ae.length<=100000)/\(w4.length=w4.length)/\(w3.length=w3.length)/\(w1.length=w1.length)/\Ae=r0.wD/\Aa=Ao/\Ab=Am/\Ad=Ap/\Ac=Aq/\As=Bi/\At=Bj/\Ai=Be/\Ak=Bf/\Al=Bg/\Aj=Bh/\Af=Ba/\Ag=Bb/\Ae=Bc/\Ah=Bd/\w1=e1/\w3=e3/\w4=e4/\w5k=e5k/\w5v=e5v) (by kernel_rfl)<|by
 rintro Aa Ab Ad Ac As At Ai Ak Al Aj Af Ag Ae Ah w1 w3 w4 w5k w5v h _ rfl _ rfl _ rfl _ rfl _ rfl _ rfl _ rfl _ rfl _ rfl _ rfl _ rfl _ rfl _ rfl _ rfl _ rfl _ rfl _ rfl _ rfl _ rfl _ rfl
 exact⟨h,(by repeat' first|apply And.intro|exact rfl|exact True.intro)⟩
noncomputable def kd6:Con TB.den:= .g ⟨42,[.one (.ptr 0 0)],[.cells [zqi,zqi,zqi,zqi,zqi,zqu,zqi,zqi,zqu,zqi,zqi,zql,.row 1,.ptr 2 0,.d (.sl (.st 9)),zqu,.row 3,.row 4],.vec yqu,.cells [.mp 5],.vec yqu,.vec (.st 10),.map yqu (.bool)],(.one (.one (zqu))),[.cells [zqi,zqi,zqi,zqi,zqi,zqu,zqi,zqi,zqu,zqi,zqi,zql,.row 1,.ptr 2 0,.d (.sl (.st 9)),zqu,.row 3,.row 4],.vec yqu,.cells [.mp 5],.vec yqu,.vec (.st 10),.map yqu (.bool)],false⟩ [yqi,yqi,yqi,yqi,yqi,yqu,yqi,yqi,yqu,yqi,yqi,.sl yqu,.sl (.st 9),yqu,.sl yqu,.sl yqu,.sl (.st 10),.sl yqu,.sl (.bool)] [yqu,yqi,yqi,yqi,yqi,yqi,yqu,yqi,yqi,yqu,yqi,yqi,.sl yqu,.sl (.st 9),yqu,.sl yqu,.sl yqu,.sl (.st 10),.sl yqu,.sl (.bool)] [] fun(Aa Ab Ad Ac As At Ai Ak Al Aj Af:Int) (Ag:List Int) (Ae:List wA) (Ah:Int) (w1 w3:List Int) (w4:List wS) (w5k:List Int) (w5v:List Bool)=>(w3.length<=1000000,((if w3=[]then 0 else ix w3 ((w3.length:Int)-1)):Int),Aa,Ab,Ad,Ac,As,At,Ai,Ak,Al,Aj,Af,Ag,Ae,Ah,w1,w3,w4,w5k,w5v,())
theorem kff:kd6.Ok Tryz.prog TB:=prv Bs Tryz.func42 .no c0 (Q:=∀(Aa Ab Ad Ac As At Ai Ak Al Aj Af:Int) (Ag:List Int) (Ae:List wA) (Ah:Int) (w1 w3:List Int) (w4:List wS) (w5k:List Int) (w5v:List Bool),(w3.length<=1000000)->∀r0:Int,((if w3=[]then 0 else ix w3 ((w3.length:Int)-1)):Int)=r0->∀Ao:Int,Aa=Ao->∀Am:Int,Ab=Am->∀Ap:Int,Ad=Ap->∀Aq:Int,Ac=Aq->∀Bi:Int,As=Bi->∀Bj:Int,At=Bj->∀Be:Int,Ai=Be->∀Bf:Int,Ak=Bf->∀Bg:Int,Al=Bg->∀Bh:Int,Aj=Bh->∀Ba:Int,Af=Ba->∀Bb:List Int,Ag=Bb->∀Bc:List wA,Ae=Bc->∀Bd:Int,Ah=Bd->∀e1:List Int,w1=e1->∀e3:List Int,w3=e3->∀e4:List wS,w4=e4->∀e5k:List Int,w5k=e5k->∀e5v:List Bool,w5v=e5v-> 
(((w3.length:Int)==0)=true->
(w4.length=w4.length)/\(w3.length=w3.length)/\(w1.length=w1.length)/\0=r0/\Aa=Ao/\Ab=Am/\Ad=Ap/\Ac=Aq/\As=Bi/\At=Bj/\Ai=Be/\Ak=Bf/\Al=Bg/\Aj=Bh/\Af=Ba/\Ag=Bb/\Ae=Bc/\Ah=Bd/\w1=e1/\w3=e3/\w4=e4/\w5k=e5k/\w5v=e5v)/\
(((w3.length:Int)==0)=false->
(0<=i64.wrap ((w3.length:Int)-1)/\i64.wrap ((w3.length:Int)-1)<(w3.length:Int))/\(0<=i64.wrap ((w3.length:Int)-1)/\i64.wrap ((w3.length:Int)-1)<(w3.length:Int))/\let v1:Int:=ix w3 (i64.wrap ((w3.length:Int)-1))
(w4.length=w4.length)/\(w3.length=w3.length)/\(w1.length=w1.length)/\v1=r0/\Aa=Ao/\Ab=Am/\Ad=Ap/\Ac=Aq/\As=Bi/\At=Bj/\Ai=Be/\Ak=Bf/\Al=Bg/\Aj=Bh/\Af=Ba/\Ag=Bb/\Ae=Bc/\Ah=Bd/\w1=e1/\w3=e3/\w4=e4/\w5k=e5k/\w5v=e5v)) (by kernel_rfl)<|by
 rintro Aa Ab Ad Ac As At Ai Ak Al Aj Af Ag Ae Ah w1 w3 w4 w5k w5v h _ rfl _ rfl _ rfl _ rfl _ rfl _ rfl _ rfl _ rfl _ rfl _ rfl _ rfl _ rfl _ rfl _ rfl _ rfl _ rfl _ rfl _ rfl _ rfl _ rfl
 refine⟨fun e=> ?_,fun e=> ?_⟩
 ·have e:w3=[]:=by simpa using e
  rw[if_pos e]
  exact(by repeat' first|apply And.intro|exact rfl|exact True.intro)
 ·have e:¬w3=[]:=by simpa using e
  have hne:1<=w3.length:=List.length_pos_iff.2 e
  rw[if_neg e,k15 _ (by omega) (by omega)]
  exact⟨⟨by omega,by omega⟩,⟨by omega,by omega⟩,(by repeat' first|apply And.intro|exact rfl|exact True.intro)⟩
noncomputable def kbh:Con TB.den:= .t ⟨78,[.one (.ptr 0 0)],[.cells [.d (.sl yqb),zqi,.d (.bool)]],(.one (.one (.d (.bool)))),[.cells [.d (.sl yqb),zqi,.d (.bool)]],false⟩ [.sl yqb,yqi,.bool] [.bool,.sl yqb,yqi,.bool] [] fun(Aa:List Int) (Ab:Int) (Ad:Bool)=>(((!Ad&&Ab==(Aa.length:Int)):Bool),Aa,Ab,Ad,())
theorem kd9:kbh.Ok Tryz.prog TB:=ptv Bs Tryz.func78 .no c0 (Q:=∀(Aa:List Int) (Ab:Int) (Ad:Bool),∀r0:Bool,(!Ad&&Ab==(Aa.length:Int))=r0->∀Ao:List Int,Aa=Ao->∀Am:Int,Ab=Am->∀Ap:Bool,Ad=Ap-> 
((!Ad)=true->
(Ab==(Aa.length:Int))=r0/\Aa=Ao/\Ab=Am/\Ad=Ap)/\
((!Ad)=false->
false=r0/\Aa=Ao/\Ab=Am/\Ad=Ap)) (by kernel_rfl)<|by
 rintro Aa Ab Ad _ rfl _ rfl _ rfl _ rfl
 refine⟨fun e=>⟨by rw[e];rfl,rfl,rfl,rfl⟩,fun e=>⟨by rw[e];rfl,rfl,rfl,rfl⟩⟩
noncomputable def kb7:Con TB.den:= .g ⟨112,[.one (.ptr 0 0)],[.cells [.d (.sl yqb),zqi,.d (.bool)]],(.one (.one (zqi))),[.cells [.d (.sl yqb),zqi,.d (.bool)]],false⟩ [.sl yqb,yqi,.bool] [yqi,.sl yqb,yqi,.bool] [] fun(Aa:List Int) (Ab:Int) (Ad:Bool)=>((0<=Ab/\Ab<=Aa.length)/\Aa.length<=137438953472,((Aa.length:Int)-Ab:Int),Aa,Ab,Ad,())
theorem k5g:kb7.Ok Tryz.prog TB:=prv Bs Tryz.func112 .no c0 (Q:=∀(Aa:List Int) (Ab:Int) (Ad:Bool),((0<=Ab/\Ab<=Aa.length)/\Aa.length<=137438953472)->∀r0:Int,((Aa.length:Int)-Ab)=r0->∀Ao:List Int,Aa=Ao->∀Am:Int,Ab=Am->∀Ap:Bool,Ad=Ap-> 
let v1:Int:=i64.wrap ((Aa.length:Int)-Ab)
v1=r0/\Aa=Ao/\Ab=Am/\Ad=Ap) (by kernel_rfl)<|by
 rintro Aa Ab Ad h _ rfl _ rfl _ rfl _ rfl
 exact⟨wi _ (by omega) (by omega),rfl,rfl,rfl⟩
noncomputable def k8n:Con TB.den:= .g ⟨111,[.one (.ptr 0 0),.one (zqi)],[.cells [.d (.sl yqb),zqi,.d (.bool)]],(.tup [.one (zqu),.one (.d (.bool))]),[.cells [.d (.sl yqb),zqi,.d (.bool)]],false⟩ [yqi,.sl yqb,yqi,.bool] [yqu,.bool,.sl yqb,yqi,.bool] [true,true,false,true,true] fun(p1:Int) (Aa:List Int) (Ab:Int) (Ad:Bool)=>(RdOk Aa Ab/\1<=p1/\p1<=8,((rdD Aa Ab Ad p1).n:Int),((rdD Aa Ab Ad p1).ok:Bool),Aa,((rdD Aa Ab Ad p1).pos:Int),((rdD Aa Ab Ad p1).fail:Bool),())
theorem k29:k8n.Ok Tryz.prog TB:=prv Bs Tryz.func111 (.r 0 (.nd [] (.jn ⟨[0],[.cells [.d (.sl yqb),zqi,.d (.bool)]],[17],[.one (.d (.bool))],[]⟩ [] .no [] .no) [] (.r 0 (.nd [] (.r 0 (.lp [] ⟨[],[],[6,22],[.one (zqu),.one (zqi)],[]⟩ .no)) [] .no)))) (k5g.c c0) (Q:=∀(p1:Int) (Aa:List Int) (Ab:Int) (Ad:Bool),(RdOk Aa Ab/\1<=p1/\p1<=8)->∀r0:Int,((rdD Aa Ab Ad p1).n)=r0->∀r1:Bool,((rdD Aa Ab Ad p1).ok)=r1->∀Ao:List Int,Aa=Ao->∀Am:Int,((rdD Aa Ab Ad p1).pos)=Am->∀Ap:Bool,((rdD Aa Ab Ad p1).fail)=Ap-> 
∀J1:Bool->(List Int)->Int->Bool->Prop,(∀(b1:Bool) (f1:List Int) (i1:Int) (k1:Bool),
((b1=true->
0=r0/\false=r1/\f1=Ao/\i1=Am/\true=Ap)/\
(b1=false->
∃(I1:Int->Int->Prop) (M1:Int->Int->Nat),I1 0 0/\∀(l1 m1:Int),(I1 l1 m1->
(decide (m1<p1)=true->
(0<=i64.wrap (i1+m1))/\i64.wrap (i1+m1)<(f1.length:Int)/\let v3:Int:=u64.wrap (ix f1 (i64.wrap (i1+m1)))
(0<=i64.wrap (8*m1))/\let v4:Int:=ior .u64 l1 (ishl .u64 v3 (i64.wrap (8*m1)))
I1 v4 (i64.wrap (m1+1))/\M1 v4 (i64.wrap (m1+1))<M1 l1 m1)/\
(decide (m1<p1)=false->
l1=r0/\true=r1/\f1=Ao/\i64.wrap (i1+p1)=Am/\k1=Ap))))->J1 b1 f1 i1 k1)->
(Ad=true->
J1 true Aa Ab Ad)/\
(Ad=false->
((0<=Ab/\Ab<=Aa.length)/\Aa.length<=137438953472)/\let v2:Bool:=decide (((Aa.length:Int)-Ab)<p1)
J1 v2 Aa Ab Ad)) (by kernel_rfl)<|by
 rintro p1 Aa Ab Ad h _ rfl _ rfl _ rfl _ rfl _ rfl
 obtain⟨⟨hb,hl,h0,h1⟩,h2,h3⟩:=h
 intro J1 k1
 have jf:(Ad=true∨(Aa.length:Int)-Ab<p1)->J1 true Aa Ab Ad:=by
  intro h
  refine k1 _ _ _ _ ⟨fun _=> ?_,fun h=>by simp at h⟩
  unfold rdD
  rw[if_pos h]
  exact⟨rfl,rfl,rfl,rfl,rfl⟩
 have jt:¬(Ad=true∨(Aa.length:Int)-Ab<p1)->J1 false Aa Ab Ad:=by
  intro h
  refine k1 _ _ _ _ ⟨fun h=>by simp at h,fun _=> ?_⟩
  have hD:rdD Aa Ab Ad p1=⟨val ((Aa.drop Ab.toNat).take p1.toNat),true,Ab+p1,false⟩:=by unfold rdD;rw[if_neg h]
  rw[hD]
  refine⟨(fun n i=>0<=i/\i<=p1/\n=val ((Aa.drop Ab.toNat).take i.toNat)),(fun _ i=>(p1-i).toNat),⟨by omega,by omega,rfl⟩,?_⟩
  rintro n i ⟨g0,g1,rfl⟩
  refine⟨fun hh=> ?_,fun hh=> ?_⟩
  ·have hh:=of_decide_eq_true hh
   have hlen:(((Aa.drop Ab.toNat).take i.toNat).length:Int)=i:=by rw[List.length_take,List.length_drop];omega
   have hix:ix Aa (Ab+i)=ix (Aa.drop Ab.toNat) i:=by
    rw[ix_nat _ _ (by omega) (by omega),ix_nat _ _ g0 (by rw[List.length_drop];omega),List.getElem_drop]
    congr 1
    omega
   have hx:=hb _ (ix_mem Aa (Ab+i) (by omega) (by omega))
   have hv:=ior_val ((Aa.drop Ab.toNat).take i.toNat) (ix (Aa.drop Ab.toNat) i) ((hb.drop _).take _) (by omega) (by rw[<-hix];exact hx)
   rw[hlen]at hv
   rw[inc i p1 g0 hh (by omega),wi (Ab+i) (by omega) (by omega),wi (8*i) (by omega) (by omega),wu (ix Aa (Ab+i)) (by omega) (by omega),hix]
   simp only[hv]
   refine⟨by omega,by omega,by omega,⟨by omega,by omega,?_⟩,by(first|omega|(dsimp only;omega))⟩
   rw[kg _ i g0 (by rw[List.length_drop];omega)]
  ·have hh:=of_decide_eq_false hh
   have h4:Ad=false:=by
    cases hc:Ad
    ·rfl
    ·exact absurd (.inl hc) h
   exact⟨by rw[show i=p1 by omega],rfl,rfl,wi _ (by omega) (by omega),h4⟩
 refine⟨fun h=>by have:=jf (.inl h);rw[h]at this;exact h▸this,fun h=>⟨⟨⟨h0,h1⟩,hl⟩,?_⟩⟩
 by_cases hq:(Aa.length:Int)-Ab<p1
 ·rw[decide_eq_true hq];exact jf (.inr hq)
 ·rw[decide_eq_false hq];exact jt (by rw[h];simpa using hq)
noncomputable def kd2:Con TB.den:= .g ⟨74,[.one (.ptr 0 0),.one (zqi)],[.cells [.d (.sl yqb),zqi,.d (.bool)]],(.one (.one (zqi))),[.cells [.d (.sl yqb),zqi,.d (.bool)]],false⟩ [yqi,.sl yqb,yqi,.bool] [yqi,.sl yqb,yqi,.bool] [true,false,true,true] fun(p1:Int) (Aa:List Int) (Ab:Int) (Ad:Bool)=>(RdOk Aa Ab,((rdI Aa Ab Ad p1).n:Int),Aa,((rdI Aa Ab Ad p1).pos:Int),((rdI Aa Ab Ad p1).fail:Bool),())
theorem k6p:kd2.Ok Tryz.prog TB:=prv Bs Tryz.func74 (.r 1 (.nd [] (.jn ⟨[],[],[19],[.one (.d (.bool))],[]⟩ [] .no [] .no) [] .no)) (k29.c c0) (Q:=∀(p1:Int) (Aa:List Int) (Ab:Int) (Ad:Bool),(RdOk Aa Ab)->∀r0:Int,((rdI Aa Ab Ad p1).n)=r0->∀Ao:List Int,Aa=Ao->∀Am:Int,((rdI Aa Ab Ad p1).pos)=Am->∀Ap:Bool,((rdI Aa Ab Ad p1).fail)=Ap-> 
(RdOk Aa Ab/\1<=(4:Int)/\(4:Int)<=8)/\∀(r5:Int) (r6:Bool) (r7:Int) (r8:Bool),(r5=((rdD Aa Ab Ad (4:Int)).n)/\r6=((rdD Aa Ab Ad (4:Int)).ok)/\r7=((rdD Aa Ab Ad (4:Int)).pos)/\r8=((rdD Aa Ab Ad (4:Int)).fail))->∀J1:Bool->Prop,(∀(b1:Bool),
((b1=true->
0=r0/\Aa=Ao/\r7=Am/\true=Ap)/\
(b1=false->
i64.wrap r5=r0/\Aa=Ao/\r7=Am/\r8=Ap))->J1 b1)->
((!r6)=true->
J1 true)/\
((!r6)=false->
J1 (decide (p1<(i64.wrap r5))))) (by kernel_rfl)<|by
 rintro p1 Aa Ab Ad h _ rfl _ rfl _ rfl _ rfl
 have hn:0<=(rdD Aa Ab Ad 4).n/\(rdD Aa Ab Ad 4).n<4294967296:=k7h h (p:=4) (f:=Ad) (by omega) (by omega)
 refine⟨⟨h,by omega,by omega⟩,?_⟩
 rintro _ _ _ _ ⟨rfl,rfl,rfl,rfl⟩
 intro J1 k1
 unfold rdI at k1
 rw[wi (rdD Aa Ab Ad 4).n (by omega) (by have:=hn.2;omega)]
 refine⟨fun e=>k1 _ ⟨fun _=> ?_,fun h=>by simp at h⟩,fun e=>k1 _ ⟨fun e2=> ?_,fun e2=> ?_⟩⟩
 ·have e:(rdD Aa Ab Ad 4).ok=false:=by simpa using e
  rw[e]
  exact⟨rfl,rfl,rfl,rfl⟩
 ·have e:(rdD Aa Ab Ad 4).ok=true:=by simpa using e
  have e2:=of_decide_eq_true e2
  rw[if_pos (.inr e2)]
  exact⟨rfl,rfl,rfl,rfl⟩
 ·have e:(rdD Aa Ab Ad 4).ok=true:=by simpa using e
  have e2:=of_decide_eq_false e2
  rw[if_neg (by rw[e];simpa using e2)]
  exact⟨wi _ (by omega) (by have:=hn.2;omega),rfl,rfl,rfl⟩
noncomputable def kc1:Con TB.den:= .g ⟨77,[.one (.ptr 0 0),.one (zqi),.one (zqu)],[.cells [.d (.sl yqb),zqi,.d (.bool)]],(.one (.one (zql))),[.cells [.d (.sl yqb),zqi,.d (.bool)]],false⟩ [yqi,yqu,.sl yqb,yqi,.bool] [.sl yqu,.sl yqb,yqi,.bool] [true,false,true,true] fun(p1 p2:Int) (Aa:List Int) (Ab:Int) (Ad:Bool)=>(RdOk Aa Ab/\(0<=p1/\p1<=4096),((rdL Aa Ab Ad p1 p2).l:List Int),Aa,((rdL Aa Ab Ad p1 p2).pos:Int),((rdL Aa Ab Ad p1 p2).fail:Bool),())
theorem kcn:kc1.Ok Tryz.prog TB:=prv Bs Tryz.func77 (.r 1 (.nd [] (.jn ⟨[0],[.cells [.d (.sl yqb),zqi,.d (.bool)]],[23],[.one (.d (.bool))],[]⟩ [] .no [] .no) [] (.r 0 (.nd [] (.r 0 (.lp [] ⟨[1,0],[.vec yqu,.cells [.d (.sl yqb),zqi,.d (.bool)]],[31],[.one (zqi)],[]⟩ .no)) [] (.r 0 (.rt [.frz 1 [6]])))))) (k6p.c (k5g.c (k29.c c0))) (Q:=∀(p1 p2:Int) (Aa:List Int) (Ab:Int) (Ad:Bool),(RdOk Aa Ab/\(0<=p1/\p1<=4096))->∀r0:List Int,((rdL Aa Ab Ad p1 p2).l)=r0->∀Ao:List Int,Aa=Ao->∀Am:Int,((rdL Aa Ab Ad p1 p2).pos)=Am->∀Ap:Bool,((rdL Aa Ab Ad p1 p2).fail)=Ap-> 
(RdOk Aa Ab)/\∀(r4 r5:Int) (r6:Bool),(r4=((rdI Aa Ab Ad p1).n)/\r5=((rdI Aa Ab Ad p1).pos)/\r6=((rdI Aa Ab Ad p1).fail))->∀J1:Bool->(List Int)->Int->Bool->Prop,(∀(b1:Bool) (f1:List Int) (i1:Int) (k1:Bool),
((b1=true->
([]:List Int)=r0/\f1=Ao/\i1=Am/\true=Ap)/\
(b1=false->
0<=r4/\r4<=r4/\(r4.toNat*8<=140737488355328)/\(r4.toNat<=maxLen)/\∃(I1:Int->(List Int)->Int->Bool->(List Int)->Prop) (M1:Int->(List Int)->Int->Bool->(List Int)->Nat),I1 0 f1 i1 k1 (List.replicate r4.toNat (0:Int))/\∀(l1:Int) (m1:List Int) (n1:Int) (o1:Bool) (q1:List Int),(I1 l1 m1 n1 o1 q1->
(decide (l1<(r4.toNat:Int))=true->
(RdOk m1 n1/\1<=(8:Int)/\(8:Int)<=8)/\∀(r40:Int) (r41:Bool) (r42:Int) (r43:Bool),(r40=((rdD m1 n1 o1 (8:Int)).n)/\r41=((rdD m1 n1 o1 (8:Int)).ok)/\r42=((rdD m1 n1 o1 (8:Int)).pos)/\r43=((rdD m1 n1 o1 (8:Int)).fail))->(0<=l1/\l1<(r4.toNat:Int))/\(0<=l1/\l1<(q1.length:Int))/\(0<=l1/\l1<(r4.toNat:Int))/\(0<=l1/\l1<((q1.set l1.toNat r40).length:Int))/\let v44:Bool:=decide (p2<=(ix (q1.set l1.toNat r40) l1))
(v44=true->
([]:List Int)=r0/\m1=Ao/\r42=Am/\true=Ap)/\
(v44=false->
I1 (i64.wrap (l1+1)) m1 r42 r43 (q1.set l1.toNat r40)/\M1 (i64.wrap (l1+1)) m1 r42 r43 (q1.set l1.toNat r40)<M1 l1 m1 n1 o1 q1))/\
(decide (l1<(r4.toNat:Int))=false->
(r4.toNat=q1.length)/\q1=r0/\m1=Ao/\n1=Am/\o1=Ap))))->J1 b1 f1 i1 k1)->
(r6=true->
J1 true Aa r5 r6)/\
(r6=false->
((0<=r5/\r5<=Aa.length)/\Aa.length<=137438953472)/\let v7:Int:=i64.wrap (Int.tdiv ((Aa.length:Int)-r5) 8)
J1 (decide (v7<r4)) Aa r5 r6)) (by kernel_rfl)<|by
 rintro p1 p2 Aa Ab Ad h _ rfl _ rfl _ rfl _ rfl
 obtain⟨h,hp0,hp1⟩:=h
 have hI:=rdI_ok h (f:=Ad) (m:=p1)
 have hIn:=rdI_n h (f:=Ad) (m:=p1) hp0
 have hb:=h.by_
 have hl:=h.len
 generalize hX:rdI Aa Ab Ad p1=X at *
 refine⟨h,?_⟩
 rintro _ _ _ ⟨rfl,rfl,rfl⟩
 intro J1 k1
 have jf:(X.fail=true∨((Aa.length:Int)-X.pos)/8<X.n)->J1 true Aa X.pos X.fail:=by
  intro hf
  refine k1 _ _ _ _ ⟨fun _=> ?_,fun h=>by simp at h⟩
  unfold rdL
  rw[hX,if_pos hf]
  exact⟨rfl,rfl,rfl,rfl⟩
 have jt:¬(X.fail=true∨((Aa.length:Int)-X.pos)/8<X.n)->J1 false Aa X.pos X.fail:=by
  intro hf
  have hff:X.fail=false:=by
   cases hc:X.fail
   ·rfl
   ·exact absurd (.inl hc) hf
  have hle:X.n*8<=(Aa.length:Int)-X.pos:=by
   have:¬((Aa.length:Int)-X.pos)/8<X.n:=fun h=>hf (.inr h)
   omega
  refine k1 _ _ _ _ ⟨fun h=>by simp at h,fun _=>⟨hIn.1,by omega,by have:=hIn.2;omega,by have:=hIn.2;unfold maxLen;omega,?_⟩⟩
  have hL:rdL Aa Ab Ad p1 p2=rdLs Aa p2 X.n.toNat X.pos []:=by unfold rdL;rw[hX,if_neg hf]
  rw[hff]
  have hnn:((X.n.toNat:Int))=X.n:=by have:=hIn.1;omega
  rw[hnn,hL]
  refine⟨(fun i c pos f g=>Aa=c/\0<=i/\i<=X.n/\f=false/\0<=pos/\pos+(X.n-i)*8<=Aa.length/\(g.length:Int)=X.n/\rdLs Aa p2 (X.n-i).toNat pos (g.take i.toNat)=rdLs Aa p2 X.n.toNat X.pos []),(fun i _ _ _ _=>(X.n-i).toNat),⟨rfl,by omega,hIn.1,rfl,hI.pos0,by omega,by simp;have:=hIn.1;omega,by simp⟩,?_⟩
  rintro i _ pos f g ⟨rfl,g0,g1,rfl,g2,g3,g4,g5⟩
  have hok:RdOk Aa pos:=⟨hb,hl,g2,by(first|omega|(dsimp only;omega))⟩
  refine⟨fun hh=> ?_,fun hh=> ?_⟩
  ·have hh:=of_decide_eq_true hh
   have hD:rdD Aa pos false 8=⟨val ((Aa.drop pos.toNat).take 8),true,pos+8,false⟩:=by unfold rdD;rw[if_neg (by simp;omega)];rfl
   have hset:ix (g.set i.toNat (val ((Aa.drop pos.toNat).take 8))) i=val ((Aa.drop pos.toNat).take 8):=by
    rw[ix_nat _ i g0 (by rw[List.length_set];omega)]
    simp
   have hstep:rdLs Aa p2 (X.n-i).toNat pos (g.take i.toNat)=if p2<=val ((Aa.drop pos.toNat).take 8)then⟨[],pos+8,true⟩else rdLs Aa p2 (X.n-(i+1)).toNat (pos+8) (g.take i.toNat++[val ((Aa.drop pos.toNat).take 8)]):=by
    rw[show(X.n-i).toNat=(X.n-(i+1)).toNat+1 by omega]
    rfl
   refine⟨⟨hok,by omega,by omega⟩,fun n1 n2 n3 n4 e=> ?_⟩
   rw[hD]at e
   obtain⟨rfl,rfl,rfl,rfl⟩:=e
   refine⟨⟨by omega,by omega⟩,⟨by omega,by omega⟩,⟨by omega,by omega⟩,⟨by omega,by rw[List.length_set];omega⟩,fun e=> ?_,fun e=> ?_⟩
   ·have e:=of_decide_eq_true e
    rw[hset]at e
    rw[<-g5,hstep,if_pos e]
    exact⟨rfl,rfl,rfl,rfl⟩
   ·have e:=of_decide_eq_false e
    rw[hset]at e
    rw[inc i X.n g0 hh (by have:=hIn.2;omega)]
    refine⟨⟨rfl,by omega,by omega,rfl,by show 0<=pos+8;omega,by show pos+8+(X.n-(i+1))*8<=_;omega,by rw[List.length_set];exact g4,?_⟩,by(dsimp only;omega)⟩
    rw[<-g5,hstep,if_neg e]
    congr 1
    rw[kg _ i g0 (by rw[List.length_set];omega),hset]
    congr 1
    rw[List.take_set_of_le (by omega)]
  ·have hh:=of_decide_eq_false hh
   have hi:i=X.n:=by omega
   subst hi
   rw[Int.sub_self,List.take_of_length_le (by omega)]at g5
   rw[<-g5]
   exact⟨by omega,rfl,rfl,rfl,rfl⟩
 refine⟨fun e=>by have:=jf (.inl e);rw[e]at this;exact e▸this,fun e=>⟨⟨⟨hI.pos0,hI.pos1⟩,hl⟩,?_⟩⟩
 have:=hI.pos0
 have:=hI.pos1
 try simp only[]
 rw[tdiv_nn _ _ (by omega),wi _ (by omega) (by omega)]
 by_cases hq:((Aa.length:Int)-X.pos)/8<X.n
 ·rw[decide_eq_true hq];exact jf (.inr hq)
 ·rw[decide_eq_false hq];exact jt (by rw[e];simpa using hq)
noncomputable def kcl:Con TB.den:= .g ⟨76,[.one (.ptr 0 0),.one (zqu)],[.cells [.d (.sl yqb),zqi,.d (.bool)]],(.one (.one (zqu))),[.cells [.d (.sl yqb),zqi,.d (.bool)]],false⟩ [yqu,.sl yqb,yqi,.bool] [yqu,.sl yqb,yqi,.bool] [true,false,true,true] fun(p1:Int) (Aa:List Int) (Ab:Int) (Ad:Bool)=>(RdOk Aa Ab,((rdU Aa Ab Ad p1).n:Int),Aa,((rdU Aa Ab Ad p1).pos:Int),((rdU Aa Ab Ad p1).fail:Bool),())
theorem k5a:kcl.Ok Tryz.prog TB:=prv Bs Tryz.func76 (.r 1 (.nd [] (.jn ⟨[],[],[18],[.one (.d (.bool))],[]⟩ [] .no [] .no) [] .no)) (k29.c c0) (Q:=∀(p1:Int) (Aa:List Int) (Ab:Int) (Ad:Bool),(RdOk Aa Ab)->∀r0:Int,((rdU Aa Ab Ad p1).n)=r0->∀Ao:List Int,Aa=Ao->∀Am:Int,((rdU Aa Ab Ad p1).pos)=Am->∀Ap:Bool,((rdU Aa Ab Ad p1).fail)=Ap-> 
(RdOk Aa Ab/\1<=(8:Int)/\(8:Int)<=8)/\∀(r5:Int) (r6:Bool) (r7:Int) (r8:Bool),(r5=((rdD Aa Ab Ad (8:Int)).n)/\r6=((rdD Aa Ab Ad (8:Int)).ok)/\r7=((rdD Aa Ab Ad (8:Int)).pos)/\r8=((rdD Aa Ab Ad (8:Int)).fail))->∀J1:Bool->Prop,(∀(b1:Bool),
((b1=true->
0=r0/\Aa=Ao/\r7=Am/\true=Ap)/\
(b1=false->
r5=r0/\Aa=Ao/\r7=Am/\r8=Ap))->J1 b1)->
((!r6)=true->
J1 true)/\
((!r6)=false->
J1 (decide (p1<r5)))) (by kernel_rfl)<|by
 rintro p1 Aa Ab Ad h _ rfl _ rfl _ rfl _ rfl
 refine⟨⟨h,by omega,by omega⟩,?_⟩
 rintro _ _ _ _ ⟨rfl,rfl,rfl,rfl⟩
 intro J1 k1
 unfold rdU at k1
 refine⟨fun e=>k1 _ ⟨fun _=> ?_,fun h=>by simp at h⟩,fun e=>k1 _ ⟨fun e2=> ?_,fun e2=> ?_⟩⟩
 ·have e:(rdD Aa Ab Ad 8).ok=false:=by simpa using e
  rw[e]
  exact⟨rfl,rfl,rfl,rfl⟩
 ·have e:(rdD Aa Ab Ad 8).ok=true:=by simpa using e
  have e2:=of_decide_eq_true e2
  rw[if_pos (.inr e2)]
  exact⟨rfl,rfl,rfl,rfl⟩
 ·have e:(rdD Aa Ab Ad 8).ok=true:=by simpa using e
  have e2:=of_decide_eq_false e2
  rw[if_neg (by rw[e];simpa using e2)]
  exact⟨rfl,rfl,rfl,rfl⟩
noncomputable def k59:Con TB.den:= .g ⟨75,[.one (.ptr 0 0)],[.cells [.d (.sl yqb),zqi,.d (.bool)]],(.one (.agg [zqu,zqu,zqu,zqu])),[.cells [.d (.sl yqb),zqi,.d (.bool)]],false⟩ [.sl yqb,yqi,.bool] [.st 13,.sl yqb,yqi,.bool] [true,false,true,true] fun(Aa:List Int) (Ab:Int) (Ad:Bool)=>(RdOk Aa Ab,((rdNt Aa Ab Ad).n:wM),Aa,((rdNt Aa Ab Ad).pos:Int),((rdNt Aa Ab Ad).f:Bool),())
theorem k5s:k59.Ok Tryz.prog TB:=prv Bs Tryz.func75 .no (k5a.c c0) (Q:=∀(Aa:List Int) (Ab:Int) (Ad:Bool),(RdOk Aa Ab)->∀r0:wM,((rdNt Aa Ab Ad).n)=r0->∀Ao:List Int,Aa=Ao->∀Am:Int,((rdNt Aa Ab Ad).pos)=Am->∀Ap:Bool,((rdNt Aa Ab Ad).f)=Ap-> 
(RdOk Aa Ab)/\∀(r4 r5:Int) (r6:Bool),(r4=((rdU Aa Ab Ad (4294967295:Int)).n)/\r5=((rdU Aa Ab Ad (4294967295:Int)).pos)/\r6=((rdU Aa Ab Ad (4294967295:Int)).fail))->(RdOk Aa r5)/\∀(r10 r11:Int) (r12:Bool),(r10=((rdU Aa r5 r6 (18446744069414584320:Int)).n)/\r11=((rdU Aa r5 r6 (18446744069414584320:Int)).pos)/\r12=((rdU Aa r5 r6 (18446744069414584320:Int)).fail))->(RdOk Aa r11)/\∀(r16 r17:Int) (r18:Bool),(r16=((rdU Aa r11 r12 (18446744069414584320:Int)).n)/\r17=((rdU Aa r11 r12 (18446744069414584320:Int)).pos)/\r18=((rdU Aa r11 r12 (18446744069414584320:Int)).fail))->(RdOk Aa r17)/\∀(r22 r23:Int) (r24:Bool),(r22=((rdU Aa r17 r18 (18446744069414584320:Int)).n)/\r23=((rdU Aa r17 r18 (18446744069414584320:Int)).pos)/\r24=((rdU Aa r17 r18 (18446744069414584320:Int)).fail))->r4=r0.Value/\r10=r0.wAi/\r16=r0.Rho/\r22=r0.wAk/\Aa=Ao/\r23=Am/\r24=Ap) (by kernel_rfl)<|by
 rintro Aa Ab Ad h _ rfl _ rfl _ rfl _ rfl
 refine⟨h,?_⟩
 rintro _ _ _ ⟨rfl,rfl,rfl⟩
 refine⟨rdU_ok h,?_⟩
 rintro _ _ _ ⟨rfl,rfl,rfl⟩
 refine⟨rdU_ok (rdU_ok h),?_⟩
 rintro _ _ _ ⟨rfl,rfl,rfl⟩
 refine⟨rdU_ok (rdU_ok (rdU_ok h)),?_⟩
 rintro _ _ _ ⟨rfl,rfl,rfl⟩
 exact⟨rfl,rfl,rfl,rfl,rfl,rfl,rfl⟩
noncomputable def kf7:Con TB.den:= .gp 110 [.sl yqb,yqi] [.sl yqb] [] fun(p0:List Int) (p1:Int)=>(0<=p1/\p0.length+p1<=140737488355328,p0,())
theorem kgh:kf7.Ok Tryz.prog TB:=qrv Bs Tryz.func110 (.r 3 (.rt [.frz 0 [4]])) c0 (Q:=∀(p0:List Int) (p1:Int),(0<=p1/\p0.length+p1<=140737488355328)->∀r0:List Int,p0=r0-> 
let v1:Int:=i64.wrap ((p0.length:Int)+p1)
0<=(p0.length:Int)/\(p0.length:Int)<=v1/\(v1.toNat*1<=140737488355328)/\(v1.toNat<=maxLen)/\(p0.length:Int).toNat=(List.replicate ((p0.length:Int).toNat) (0:Int)).length/\let v2:Int:=((min p0.length (List.replicate ((p0.length:Int).toNat) (0:Int)).length:Nat):Int)
((p0.length:Int).toNat=(rowOver (List.replicate ((p0.length:Int).toNat) (0:Int)) p0 (List.replicate ((p0.length:Int).toNat) (0:Int)).length).length)/\rowOver (List.replicate ((p0.length:Int).toNat) (0:Int)) p0 (List.replicate ((p0.length:Int).toNat) (0:Int)).length=r0) (by kernel_rfl)<|by
 rintro p0 p1 h _ rfl
 obtain⟨h1,h2⟩:=h
 refine ?_
 rw[wi _ (by omega) (by omega)]
 have e:rowOver (List.replicate ((p0.length:Int).toNat) (0:Int)) p0 (List.replicate ((p0.length:Int).toNat) (0:Int)).length=p0:=k9j _ _ (by simp)
 simp only[e]
 exact⟨by omega,by omega,by omega,by unfold maxLen;omega,by simp,by omega,by trivial⟩
noncomputable def k7g:Con TB.den:= .g ⟨73,[.one (.d (.sl yqb))],[],(.one (.one (.ptr 0 0))),[.cells [.d (.sl yqb),zqi,.d (.bool)]],false⟩ [.sl yqb] [.sl yqb,yqi,.bool] [] fun(p0:List Int)=>(p0.length<=137438953472,p0,(0:Int),false,())
theorem k8t:k7g.Ok Tryz.prog TB:=prv Bs Tryz.func73 .no (kgh.c c0) (Q:=∀(p0:List Int),(p0.length<=137438953472)->∀Ao:List Int,p0=Ao->∀Am:Int,(0:Int)=Am->∀Ap:Bool,(false:Bool)=Ap-> 
(0<=(0:Int)/\p0.length+(0:Int)<=140737488355328)/\p0=Ao/\0=Am/\false=Ap) (by kernel_rfl)<|by
 rintro p0 h _ rfl _ rfl _ rfl
 exact⟨⟨by omega,by omega⟩,rfl,rfl,rfl⟩
noncomputable def k73:Con TB.den:= .gp 48 [.sl yqb] [.st 16,yqi] [true,true] fun(p0:List Int)=>(By p0/\p0.length<=137438953472,((decW p0).1:wV),((decW p0).2:Int),())
theorem k7p:k73.Ok Tryz.prog TB:=qrv Bs Tryz.func48 (.r 2 (.nd [] (.r 0 (.lp [.tokc 2 0 (.st 11),.tokc 2 1 (.st 13)] ⟨[2,1,3,4],[.cells [.own 2,.own 3,zqu],.cells [.d (.sl yqb),zqi,.d (.bool)],.tip (.st 11),.tip (.st 13)],[10],[.one (zqi)],[]⟩ .no)) [] (.nd [] (.r 0 (.lp [] ⟨[2,1,3,4],[.cells [.own 2,.own 3,zqu],.cells [.d (.sl yqb),zqi,.d (.bool)],.tip (.st 11),.tip (.st 13)],[34],[.one (zqi)],[]⟩ .no)) [] .no))) (k8t.c (k6p.c (k5s.c (k5a.c (kcn.c (kd9.c c0)))))) (Q:=∀(p0:List Int),(By p0/\p0.length<=137438953472)->∀r0:wV,((decW p0).1)=r0->∀r1:Int,((decW p0).2)=r1-> 
(p0.length<=137438953472)/\(RdOk p0 (0:Int))/\∀(r49 r50:Int) (r51:Bool),(r49=((rdI p0 (0:Int) false (4:Int)).n)/\r50=((rdI p0 (0:Int) false (4:Int)).pos)/\r51=((rdI p0 (0:Int) false (4:Int)).fail))->(([]:List wM)=([]:List wM))/\(([]:List wK)=([]:List wK))/\∃(I1:Int->Int->(List Int)->Int->Bool->(List wK)->(List wM)->Prop) (M1:Int->Int->(List Int)->Int->Bool->(List wK)->(List wM)->Nat),I1 0 0 p0 r50 r51 ([]:List wK) ([]:List wM)/\∀(b1 f1:Int) (i1:List Int) (k1:Int) (l1:Bool) (m1:List wK) (n1:List wM),(I1 b1 f1 i1 k1 l1 m1 n1->
(decide (b1<r49)=true->
(RdOk i1 k1)/\∀(r70:wM) (r71:Int) (r72:Bool),(r70=((rdNt i1 k1 l1).n)/\r71=((rdNt i1 k1 l1).pos)/\r72=((rdNt i1 k1 l1).f))->(RdOk i1 r71)/\∀(r73 r74:Int) (r75:Bool),(r73=((rdU i1 r71 r72 (18446744069414584320:Int)).n)/\r74=((rdU i1 r71 r72 (18446744069414584320:Int)).pos)/\r75=((rdU i1 r71 r72 (18446744069414584320:Int)).fail))->(RdOk i1 r74)/\∀(r76 r77:Int) (r78:Bool),(r76=((rdI i1 r74 r75 (3:Int)).n)/\r77=((rdI i1 r74 r75 (3:Int)).pos)/\r78=((rdI i1 r74 r75 (3:Int)).fail))->(RdOk i1 r77)/\∀(r79 r80:Int) (r81:Bool),(r79=((rdI i1 r77 r78 (4095:Int)).n)/\r80=((rdI i1 r77 r78 (4095:Int)).pos)/\r81=((rdI i1 r77 r78 (4095:Int)).fail))->(RdOk i1 r80/\(0<=(12:Int)/\(12:Int)<=4096))/\∀(r82:List Int) (r83:Int) (r84:Bool),(r82=((rdL i1 r80 r81 (12:Int) (18446744069414584321:Int)).l)/\r83=((rdL i1 r80 r81 (12:Int) (18446744069414584321:Int)).pos)/\r84=((rdL i1 r80 r81 (12:Int) (18446744069414584321:Int)).fail))->(RdOk i1 r83)/\∀(r85 r86:Int) (r87:Bool),(r85=((rdI i1 r83 r84 (1:Int)).n)/\r86=((rdI i1 r83 r84 (1:Int)).pos)/\r87=((rdI i1 r83 r84 (1:Int)).fail))->let v88:List wK:=[wK.mk r70.Value r70.wAi r70.Rho r70.wAk r73 r76 r79 r82 (r85==1)]
m1.length=m1.length/\(m1.length+v88.length)*88<=140737488355328/\m1.length+v88.length<=maxLen/\(n1=n1)/\(m1++v88=m1++v88)/\I1 (i64.wrap (b1+1)) f1 i1 r86 r87 (m1++v88) n1/\M1 (i64.wrap (b1+1)) f1 i1 r86 r87 (m1++v88) n1<M1 b1 f1 i1 k1 l1 m1 n1)/\
(decide (b1<r49)=false->
(RdOk i1 k1)/\∀(r106 r107:Int) (r108:Bool),(r106=((rdI i1 k1 l1 (4:Int)).n)/\r107=((rdI i1 k1 l1 (4:Int)).pos)/\r108=((rdI i1 k1 l1 (4:Int)).fail))->(n1=n1)/\(m1=m1)/\∃(I2:Int->Int->(List Int)->Int->Bool->(List wK)->(List wM)->Prop) (M2:Int->Int->(List Int)->Int->Bool->(List wK)->(List wM)->Nat),I2 0 f1 i1 r107 r108 m1 n1/\∀(o1 q1:Int) (s1:List Int) (t1:Int) (u1:Bool) (x1:List wK) (y1:List wM),(I2 o1 q1 s1 t1 u1 x1 y1->
(decide (o1<r106)=true->
(RdOk s1 t1)/\∀(r112:wM) (r113:Int) (r114:Bool),(r112=((rdNt s1 t1 u1).n)/\r113=((rdNt s1 t1 u1).pos)/\r114=((rdNt s1 t1 u1).f))->y1.length=y1.length/\(y1.length+[r112].length)*32<=140737488355328/\y1.length+[r112].length<=maxLen/\(y1++[r112]=y1++[r112])/\(x1=x1)/\I2 (i64.wrap (o1+1)) q1 s1 r113 r114 x1 (y1++[r112])/\M2 (i64.wrap (o1+1)) q1 s1 r113 r114 x1 (y1++[r112])<M2 o1 q1 s1 t1 u1 x1 y1)/\
(decide (o1<r106)=false->
(RdOk s1 t1)/\∀(r118 r119:Int) (r120:Bool),(r118=((rdU s1 t1 u1 (18446744069414584320:Int)).n)/\r119=((rdU s1 t1 u1 (18446744069414584320:Int)).pos)/\r120=((rdU s1 t1 u1 (18446744069414584320:Int)).fail))->((!(!r120&&r119==(s1.length:Int)))=true->
([]:List wK)=r0.Ins/\([]:List wM)=r0.wB/\0=r0.wAN/\2=r1)/\
((!(!r120&&r119==(s1.length:Int)))=false->
x1=r0.Ins/\y1=r0.wB/\r118=r0.wAN/\0=r1)))))) (by kernel_rfl)<|by
 rintro p0 h _ rfl _ rfl
 obtain⟨hb,hl⟩:=h
 have h0:RdOk p0 0:=⟨hb,hl,by omega,by(first|omega|(dsimp only;omega))⟩
 refine⟨hl,h0,?_⟩
 rintro _ _ _ ⟨rfl,rfl,rfl⟩
 have hC:=rdI_ok (m:=4) (f:=false) h0
 have nC:=rdI_n (m:=4) (f:=false) h0 (by omega)
 have zC:=rdI_pz (m:=4) (f:=false) h0 (by omega)
 generalize rdI p0 0 false 4=C at *
 refine⟨rfl,rfl,?_⟩
 refine⟨(fun i sec l pos f g o=>(p0=l/\sec=0/\([]:List wM)=o)/\0<=i/\i<=C.n/\RdOk p0 pos/\(g.length:Int)=i/\Pz (fun l:List wK=>l.flatMap encSp) (Gl (GS limW) i.toNat) (p0.drop C.pos.toNat) C.fail g (p0.drop pos.toNat) f),(fun i _ _ _ _ _ _=>(C.n-i).toNat),⟨⟨rfl,rfl,rfl⟩,by omega,nC.1,hC,rfl,Pz.nil⟩,?_⟩
 rintro i _ _ pos f g _ ⟨⟨rfl,rfl,rfl⟩,g0,g1,hp,g2,gz⟩
 refine⟨fun hh=> ?_,fun hh=> ?_⟩
 ·have hh:=of_decide_eq_true hh
  refine⟨hp,?_⟩
  rintro _ _ _ ⟨rfl,rfl,rfl⟩
  have o1:=rdNt_ok (f:=f) hp
  have z1:=rdNt_pz (f:=f) hp
  generalize rdNt p0 pos f=A1 at *
  refine⟨o1,?_⟩
  rintro _ _ _ ⟨rfl,rfl,rfl⟩
  have o2:=rdU_ok (m:=18446744069414584320) (f:=A1.f) o1
  have z2:=rdU_pz (m:=18446744069414584320) (f:=A1.f) o1
  generalize rdU p0 A1.pos A1.f 18446744069414584320=A2 at *
  refine⟨o2,?_⟩
  rintro _ _ _ ⟨rfl,rfl,rfl⟩
  have o3:=rdI_ok (m:=3) (f:=A2.fail) o2
  have z3:=rdI_pz (m:=3) (f:=A2.fail) o2 (by omega)
  generalize rdI p0 A2.pos A2.fail 3=A3 at *
  refine⟨o3,?_⟩
  rintro _ _ _ ⟨rfl,rfl,rfl⟩
  have o4:=rdI_ok (m:=4095) (f:=A3.fail) o3
  have z4:=rdI_pz (m:=4095) (f:=A3.fail) o3 (by omega)
  generalize rdI p0 A3.pos A3.fail 4095=A4 at *
  refine⟨⟨o4,by omega,by omega⟩,?_⟩
  rintro _ _ _ ⟨rfl,rfl,rfl⟩
  have o5:=rdL_ok (m:=12) (p:=18446744069414584321) (f:=A4.fail) o4 (by omega)
  have z5:=rdL_pz (m:=12) (p:=18446744069414584321) (f:=A4.fail) o4 (by omega)
  generalize rdL p0 A4.pos A4.fail 12 18446744069414584321=A5 at *
  refine⟨o5,?_⟩
  rintro _ _ _ ⟨rfl,rfl,rfl⟩
  have o6:=rdI_ok (m:=1) (f:=A5.fail) o5
  have z6:=rdI_pz (m:=1) (f:=A5.fail) o5 (by omega)
  generalize rdI p0 A5.pos A5.fail 1=A6 at *
  have zz:=kg2 (L:=limW) z1 z2 z3 z4 z5 z6
  rw[inc i C.n g0 hh (by omega)]
  refine⟨rfl,by simp;omega,by simp;unfold maxLen;omega,rfl,rfl,⟨⟨rfl,rfl,rfl⟩,by omega,by omega,o6,by simp;omega,?_⟩,by(dsimp only;omega)⟩
  rw[show(i+1).toNat=i.toNat+1 by omega]
  exact gz.snoc zz
 ·have hh:=of_decide_eq_false hh
  have hi:i=C.n:=by omega
  subst hi
  have zI:=Pz.list zC gz
  refine⟨hp,?_⟩
  rintro _ _ _ ⟨rfl,rfl,rfl⟩
  have hD:=rdI_ok (m:=4) (f:=f) hp
  have nD:=rdI_n (m:=4) (f:=f) hp (by omega)
  have zD:=rdI_pz (m:=4) (f:=f) hp (by omega)
  generalize rdI p0 pos f 4=D at *
  refine⟨rfl,rfl,?_⟩
  refine⟨(fun i sec l pos' f' gg g' =>(p0=l/\sec=0/\g=gg)/\0<=i/\i<=D.n/\RdOk p0 pos'/\(g'.length:Int)=i/\Pz (fun l:List wM=>l.flatMap encN) (Gl (GN limW) i.toNat) (p0.drop D.pos.toNat) D.fail g' (p0.drop pos'.toNat) f'),(fun i _ _ _ _ _ _=>(D.n-i).toNat),⟨⟨rfl,rfl,rfl⟩,by omega,nD.1,hD,rfl,Pz.nil⟩,?_⟩
  rintro i _ _ pos' f' _ g' ⟨⟨rfl,rfl,rfl⟩,g0',g1',hp',g2',gz'⟩
  refine⟨fun hh=> ?_,fun hh=> ?_⟩
  ·have hh:=of_decide_eq_true hh
   refine⟨hp',?_⟩
   rintro _ _ _ ⟨rfl,rfl,rfl⟩
   have o1:=rdNt_ok (f:=f') hp'
   have z1:=rdNt_pz (f:=f') hp'
   generalize rdNt p0 pos' f' =A1 at *
   rw[inc i D.n g0' hh (by omega)]
   refine⟨rfl,by simp;omega,by simp;unfold maxLen;omega,rfl,rfl,⟨⟨rfl,rfl,rfl⟩,by omega,by omega,o1,by simp;omega,?_⟩,by(dsimp only;omega)⟩
   rw[show(i+1).toNat=i.toNat+1 by omega]
   exact gz'.snoc z1
  ·have hh:=of_decide_eq_false hh
   have hi:i=D.n:=by omega
   subst hi
   have zO:=Pz.list zD gz'
   refine⟨hp',?_⟩
   rintro _ _ _ ⟨rfl,rfl,rfl⟩
   have hS:=rdU_ok (m:=18446744069414584320) (f:=f') hp'
   have zS:=rdU_pz (m:=18446744069414584320) (f:=f') hp'
   generalize rdU p0 pos' f' 18446744069414584320=X at *
   obtain⟨snd,cpl⟩:=pz_wit (L:=limW) zI zO zS
   refine⟨fun e=> ?_,fun e=> ?_⟩
   ·rw[decW_no]
    ·exact⟨rfl,rfl,rfl,rfl⟩
    intro u hu
    obtain⟨c1,c2,c3⟩:=cpl u hu
    obtain⟨_,_,q3,q4⟩:=hS
    have:=List.drop_eq_nil_iff.1 c2
    have e4:X.pos=(p0.length:Int):=by omega
    rw[c1,e4]at e
    simp at e
   ·have e:X.fail=false/\X.pos=(p0.length:Int):=by simpa using e
    obtain⟨s1,s2⟩:=snd e.1 (List.drop_eq_nil_of_le (by omega))
    have hE:EW ⟨g,g',X.n⟩ p0:=by
     refine⟨s2.wq,k6g.2 ⟨?_,?_,?_,fun x hx=>(s2.1.2 x hx).spendV,fun x hx=>(s2.2.1.2 x hx).noteV⟩,s1⟩
     ·have:=s2.1.1.2.2;show g.length<=4;omega
     ·have:=s2.2.1.1.2.2;show g'.length<=4;omega
     ·have:X.n<=18446744069414584320:=s2.2.2.2
      show X.n<_;omega
    rw[kmm hE fun u hu=>(cpl u hu).2.2]
    exact⟨rfl,rfl,rfl,rfl⟩
noncomputable def k8o:Con TB.den:= .gp 24 [yqi,.st 2] [.st 16,.bool] [] fun(p0:Int) (p1:wl)=>(By p1.wAH/\p1.wAH.length<=137438953472,((decW p1.wAH).1:wV),((decW p1.wAH).2==0:Bool),())
theorem ka8:k8o.Ok Tryz.prog TB:=qrv Bs Tryz.func24 .no (k7p.c c0) (Q:=∀(p0:Int) (p1:wl),(By p1.wAH/\p1.wAH.length<=137438953472)->∀r0:wV,((decW p1.wAH).1)=r0->∀r1:Bool,((decW p1.wAH).2==0)=r1-> 
(By p1.wAH/\p1.wAH.length<=137438953472)/\∀(r4:wV) (r5:Int),(r4=((decW p1.wAH).1)/\r5=((decW p1.wAH).2))->r4.Ins=r0.Ins/\r4.wB=r0.wB/\r4.wAN=r0.wAN/\(r5==0)=r1) (by kernel_rfl)<|by
 rintro p0 p1 h _ rfl _ rfl
 exact⟨h,fun r4 r5 hr=>by obtain⟨rfl,rfl⟩:=hr;exact⟨rfl,rfl,rfl,rfl⟩⟩
noncomputable def kb6:Con TB.den:= .tp 108 [.st 11] [.st 4] [] fun(p0:wK)=>((ownQ p0:wE),())
theorem kcv:kb6.Ok Tryz.prog TB:=qtv Bs Tryz.func108 .no c0 (Q:=∀(p0:wK),∀r0:wE,ownQ p0=r0-> 
1=r0.wAl/\[p0.Key,u64.wrap p0.wAY]=r0.wAa/\p0.wAD=r0.wAd) (by kernel_rfl)<|by
 rintro p0 _ rfl
 exact(by repeat' first|apply And.intro|exact rfl|exact True.intro)
noncomputable def kb2:Con TB.den:= .tp 166 [.st 14,yqu] [.st 4] [] fun(p0:wAF) (p1:Int)=>((brQ p0 p1:wE),())
theorem kbg:kb2.Ok Tryz.prog TB:=qtv Bs Tryz.func166 .no c0 (Q:=∀(p0:wAF) (p1:Int),∀r0:wE,brQ p0 p1=r0-> 
6=r0.wAl/\[p0.a0,p0.a1]=r0.wAa/\p1=r0.wAd) (by kernel_rfl)<|by
 rintro p0 p1 _ rfl
 exact(by repeat' first|apply And.intro|exact rfl|exact True.intro)
noncomputable def k5k:Con TB.den:= .tp 168 [.st 13,yqu] [.st 4] [] fun(p0:wM) (p1:Int)=>((comQ p0 p1:wE),())
theorem k75:k5k.Ok Tryz.prog TB:=qtv Bs Tryz.func168 .no c0 (Q:=∀(p0:wM) (p1:Int),∀r0:wE,comQ p0 p1=r0-> 
2=r0.wAl/\[p0.Value,p0.wAi,p0.Rho,p0.wAk]=r0.wAa/\p1=r0.wAd) (by kernel_rfl)<|by
 rintro p0 p1 _ rfl
 exact(by repeat' first|apply And.intro|exact rfl|exact True.intro)
noncomputable def kcm:Con TB.den:= .gp 167 [.st 14] [yqu] [] fun(p0:wAF)=>(U64 p0.a0/\U64 p0.a1,(ndA p0:Int),())
theorem k39:kcm.Ok Tryz.prog TB:=by
 refine⟨cal Tryz.func167 (by kernel_rfl),fun x K hx=> ?_⟩
 obtain⟨(a:Int),(b:Int),_⟩:=x
 obtain⟨h,hK⟩:=hx
 have h:U64 a/\U64 b:=h
 have hs:=kx.at ((18446744069414584321:Int),(6:Int),([a,b]:List Int),()) ((nd a b:Int),()) ⟨⟨rfl,(by decide:U64 6),us2 h.1 h.2,(by decide:(2:Nat)<=_)⟩,rfl⟩
 exact⟨_,hK,kiw hs⟩
noncomputable def k55:Con TB.den:= .g ⟨164,[.one (.ptr 0 0),.one (zqu),.one (zqi)],[.cells [.ptr 1 0,zqi,.own 2,zql,.own 3,.mp 4,zqu,zqu,zqu,zqi,zqi,zqi,zqi,zqi,zqu,zql,zqu,zqu,zql,zqu],.cells [.d (.bool),zqu,zqi,.d (.sl (.st 4)),.mp 5,.mp 6,.mp 7],.tip (.st 12),.tip (.st 13),.map yqi (.st 11),.map (.str) yqi,.map (.str) (.sl yqu),.map (.str) (.bool)],(.one (.one (zql))),[.cells [.ptr 1 0,zqi,.own 2,zql,.own 3,.mp 4,zqu,zqu,zqu,zqi,zqi,zqi,zqi,zqi,zqu,zql,zqu,zqu,zql,zqu],.cells [.d (.bool),zqu,zqi,.d (.sl (.st 4)),.mp 5,.mp 6,.mp 7],.tip (.st 12),.tip (.st 13),.map yqi (.st 11),.map (.str) yqi,.map (.str) (.sl yqu),.map (.str) (.bool)],false⟩ (.int .u64:: .int .i64::[yqi,.sl yqu,yqu,yqu,yqu,yqi,yqi,yqi,yqi,yqi,yqu,.sl yqu,yqu,yqu,.sl yqu,yqu,.bool,yqu,yqi,.sl (.st 4),.sl (.st 12),.sl (.st 13),.sl yqi,.sl (.st 11),.sl (.str),.sl yqi,.sl (.str),.sl (.sl yqu),.sl (.str),.sl (.bool)]) [.sl yqu,yqi,.sl yqu,yqu,yqu,yqu,yqi,yqi,yqi,yqi,yqi,yqu,.sl yqu,yqu,yqu,.sl yqu,yqu,.bool,yqu,yqi,.sl (.st 4),.sl (.st 12),.sl (.st 13),.sl yqi,.sl (.st 11),.sl (.str),.sl yqi,.sl (.str),.sl (.sl yqu),.sl (.str),.sl (.bool)] [] fun(p1 p2 Ab:Int) (Ac:List Int) (Ai Ak Al Aj Af Ag Ay Az Ae:Int) (Ah:List Int) (A0 A7:Int) (A8:List Int) (A9:Int) (Av:Bool) (Aw Ax:Int) (Au:List wE) (w2:List wo) (w3:List wM) (w4k:List Int) (w4v:List wK) (w5k:List ByteArray) (w5v:List Int) (w6k:List ByteArray) (w6v:List (List Int)) (w7k:List ByteArray) (w7v:List Bool)=>((0<=p2/\p2<=w2.length/\p2<=9223372036854775807)/\ECk ⟨w2,Ac⟩,(ancS w2 Ac p1 p2.toNat:List Int),Ab,Ac,Ai,Ak,Al,Aj,Af,Ag,Ay,Az,Ae,Ah,A0,A7,A8,A9,Av,Aw,Ax,Au,w2,w3,w4k,w4v,w5k,w5v,w6k,w6v,w7k,w7v,())
theorem k5y:k55.Ok Tryz.prog TB:=prv Bs Tryz.func164 (.r 0 (.nd [] (.r 0 (.lp [] ⟨[],[],[7],[.one (zqi)],[]⟩ .no)) [] .no)) c0 (Q:=∀(p1 p2 Ab:Int) (Ac:List Int) (Ai Ak Al Aj Af Ag Ay Az Ae:Int) (Ah:List Int) (A0 A7:Int) (A8:List Int) (A9:Int) (Av:Bool) (Aw Ax:Int) (Au:List wE) (w2:List wo) (w3:List wM) (w4k:List Int) (w4v:List wK) (w5k:List ByteArray) (w5v:List Int) (w6k:List ByteArray) (w6v:List (List Int)) (w7k:List ByteArray) (w7v:List Bool),((0<=p2/\p2<=w2.length/\p2<=9223372036854775807)/\ECk ⟨w2,Ac⟩)->∀r0:List Int,ancS w2 Ac p1 p2.toNat=r0->∀Am:Int,Ab=Am->∀Aq:List Int,Ac=Aq->∀Be:Int,Ai=Be->∀Bf:Int,Ak=Bf->∀Bg:Int,Al=Bg->∀Bh:Int,Aj=Bh->∀Ba:Int,Af=Ba->∀Bb:Int,Ag=Bb->∀Bm:Int,Ay=Bm->∀Bn:Int,Az=Bn->∀Bc:Int,Ae=Bc->∀Bd:List Int,Ah=Bd->∀Bo:Int,A0=Bo->∀Bp:Int,A7=Bp->∀Bq:List Int,A8=Bq->∀Br:Int,A9=Br->∀d1_0:Bool,Av=d1_0->∀d1_1:Int,Aw=d1_1->∀d1_2:Int,Ax=d1_2->∀d1_3:List wE,Au=d1_3->∀e2:List wo,w2=e2->∀e3:List wM,w3=e3->∀e4k:List Int,w4k=e4k->∀e4v:List wK,w4v=e4v->∀e5k:List ByteArray,w5k=e5k->∀e5v:List Int,w5v=e5v->∀e6k:List ByteArray,w6k=e6k->∀e6v:List (List Int),w6v=e6v->∀e7k:List ByteArray,w7k=e7k->∀e7v:List Bool,w7v=e7v-> 
∃(I1:Int->Prop) (M1:Int->Nat),I1 (i64.wrap (p2-1))/\∀(b1:Int),(I1 b1->
(decide (0<=b1)=true->
(0<=b1)/\b1<(w2.length:Int)/\((((ix w2 b1).root)==p1)=true->
(0<=b1)/\b1<(w2.length:Int)/\(0<=(ix w2 b1).leaves)/\(ix w2 b1).leaves<=(Ac.length:Int)/\(w3=w3)/\(w2=w2)/\Ac.take ((ix w2 b1).leaves).toNat=r0/\Ab=Am/\Ac=Aq/\Ai=Be/\Ak=Bf/\Al=Bg/\Aj=Bh/\Af=Ba/\Ag=Bb/\Ay=Bm/\Az=Bn/\Ae=Bc/\Ah=Bd/\A0=Bo/\A7=Bp/\A8=Bq/\A9=Br/\Av=d1_0/\Aw=d1_1/\Ax=d1_2/\Au=d1_3/\w2=e2/\w3=e3/\w4k=e4k/\w4v=e4v/\w5k=e5k/\w5v=e5v/\w6k=e6k/\w6v=e6v/\w7k=e7k/\w7v=e7v)/\
((((ix w2 b1).root)==p1)=false->
I1 (i64.wrap (b1-1))/\M1 (i64.wrap (b1-1))<M1 b1))/\
(decide (0<=b1)=false->
(w3=w3)/\(w2=w2)/\([]:List Int)=r0/\Ab=Am/\Ac=Aq/\Ai=Be/\Ak=Bf/\Al=Bg/\Aj=Bh/\Af=Ba/\Ag=Bb/\Ay=Bm/\Az=Bn/\Ae=Bc/\Ah=Bd/\A0=Bo/\A7=Bp/\A8=Bq/\A9=Br/\Av=d1_0/\Aw=d1_1/\Ax=d1_2/\Au=d1_3/\w2=e2/\w3=e3/\w4k=e4k/\w4v=e4v/\w5k=e5k/\w5v=e5v/\w6k=e6k/\w6v=e6v/\w7k=e7k/\w7v=e7v))) (by kernel_rfl)<|by
 rintro p1 p2 Ab Ac Ai Ak Al Aj Af Ag Ay Az Ae Ah A0 A7 A8 A9 Av Aw Ax Au w2 w3 w4k w4v w5k w5v w6k w6v w7k w7v h _ rfl _ rfl _ rfl _ rfl _ rfl _ rfl _ rfl _ rfl _ rfl _ rfl _ rfl _ rfl _ rfl _ rfl _ rfl _ rfl _ rfl _ rfl _ rfl _ rfl _ rfl _ rfl _ rfl _ rfl _ rfl _ rfl _ rfl _ rfl _ rfl _ rfl _ rfl
 obtain⟨⟨h1,h2,h3⟩,hC⟩:=h
 obtain⟨n,rfl⟩:=Int.eq_ofNat_of_zero_le h1
 rw[Int.toNat_natCast,wi ((n:Int)-1) (by omega) (by omega)]
 refine⟨(fun i=>∃k:Nat,i=(k:Int)-1/\k<=n/\ancS w2 Ac p1 k=ancS w2 Ac p1 n),(fun i=>(i+1).toNat),⟨n,rfl,Nat.le_refl _,rfl⟩,?_⟩
 rintro _ ⟨k,rfl,hk,hg⟩
 refine⟨fun e=> ?_,fun e=> ?_⟩
 ·have e:0<=(k:Int)-1:=of_decide_eq_true e
  obtain⟨j,rfl⟩:∃j,k=j+1:=⟨k-1,by omega⟩
  have ej:((j+1:Nat):Int)-1=(j:Int):=by omega
  rw[ej]
  have hm:=ix_mem w2 (j:Int) (by omega) (by omega)
  obtain⟨t1,t2⟩:=hC.t _ hm
  rw[ancS]at hg
  refine⟨by omega,by omega,fun e2=> ?_,fun e2=> ?_⟩
  ·rw[if_pos (by simpa using e2)]at hg
   rw[<-hg]
   exact⟨by omega,by omega,t1,t2,(by repeat' first|apply And.intro|exact rfl|exact True.intro)⟩
  ·rw[if_neg (by simpa using e2)]at hg
   rw[wi ((j:Int)-1) (by omega) (by omega)]
   exact⟨⟨j,rfl,by omega,hg⟩,by(dsimp only;omega)⟩
 ·have e:¬0<=(k:Int)-1:=of_decide_eq_false e
  obtain rfl:k=0:=by omega
  rw[<-hg]
  exact(by repeat' first|apply And.intro|exact rfl|exact True.intro)
noncomputable def kfr:Con TB.den:= .gp 205 [yqi,.sl yqu,yqi] [yqu] [] fun(p0:Int) (p1:List Int) (p2:Int)=>(0<=p2/\0<=p0/\p0<=12,(p1.getD p2.toNat (emp p0.toNat):Int),())
theorem k9h:kfr.Ok Tryz.prog TB:=qrv Bs Tryz.func205 .no (k3d.c c0) (Q:=∀(p0:Int) (p1:List Int) (p2:Int),(0<=p2/\0<=p0/\p0<=12)->∀r0:Int,(p1.getD p2.toNat (emp p0.toNat))=r0-> 
(decide (p2<(p1.length:Int))=true->
(0<=p2)/\p2<(p1.length:Int)/\ix p1 p2=r0)/\
(decide (p2<(p1.length:Int))=false->
(0<=p0/\p0<=12)/\(emp p0.toNat)=r0)) (by kernel_rfl)<|by
 rintro p0 p1 p2 h _ rfl
 obtain⟨h1,h2,h3⟩:=h
 obtain⟨k,rfl⟩:=Int.eq_ofNat_of_zero_le h1
 refine⟨fun e=> ?_,fun e=> ?_⟩
 ·have e:=of_decide_eq_true e
  exact⟨h1,e,by rw[ix_get p1 k (by omega),Int.toNat_natCast,gD_lt (by omega)]⟩
 ·have e:=of_decide_eq_false e
  exact⟨⟨h2,h3⟩,by rw[gD_ge (by omega)]⟩
noncomputable def kc3:Con TB.den:= .gp 206 [yqi,.sl yqu] [.sl yqu] [] fun(p0:Int) (p1:List Int)=>((0<=p0/\p0<=12)/\Us p1/\p1.length<=4096,(abvS p0.toNat p1:List Int),())
theorem kcs:kc3.Ok Tryz.prog TB:=qrv Bs Tryz.func206 (.r 1 (.nd [] (.r 0 (.lp [.frz 0 [5]] ⟨[1],[.tip yqu],[5,6],[.one (.own 0),.one (zqi)],[]⟩ .no)) [] .no)) (k9h.c (k39.c c0)) (Q:=∀(p0:Int) (p1:List Int),((0<=p0/\p0<=12)/\Us p1/\p1.length<=4096)->∀r0:List Int,abvS p0.toNat p1=r0-> 
let v1:Int:=i64.wrap (Int.tdiv (i64.wrap ((p1.length:Int)+1)) 2)
0<=(0:Int)/\(0:Int)<=v1/\(v1.toNat*8<=140737488355328)/\(v1.toNat<=maxLen)/\(0=(List.replicate 0 (0:Int)).length)/\(List.replicate 0 (0:Int)=List.replicate 0 (0:Int))/\∃(I1:Int->(List Int)->Prop) (M1:Int->(List Int)->Nat),I1 0 (List.replicate 0 (0:Int))/\∀(b1:Int) (f1:List Int),(I1 b1 f1->
(decide (b1<(p1.length:Int))=true->
(0<=b1)/\b1<(p1.length:Int)/\(0<=(i64.wrap (b1+1))/\0<=p0/\p0<=12)/\let r2:Int:=(p1.getD (i64.wrap (b1+1)).toNat (emp p0.toNat))
(U64 (wAF.mk (ix p1 b1) r2).a0/\U64 (wAF.mk (ix p1 b1) r2).a1)/\f1.length=f1.length/\(f1.length+[(ndA (wAF.mk (ix p1 b1) r2))].length)*8<=140737488355328/\f1.length+[(ndA (wAF.mk (ix p1 b1) r2))].length<=maxLen/\(f1++[(ndA (wAF.mk (ix p1 b1) r2))]=f1++[(ndA (wAF.mk (ix p1 b1) r2))])/\I1 (i64.wrap (b1+2)) (f1++[(ndA (wAF.mk (ix p1 b1) r2))])/\M1 (i64.wrap (b1+2)) (f1++[(ndA (wAF.mk (ix p1 b1) r2))])<M1 b1 f1)/\
(decide (b1<(p1.length:Int))=false->
f1=r0))) (by kernel_rfl)<|by
 rintro p0 p1 h _ rfl
 obtain⟨⟨h1,h2⟩,hu,hl⟩:=h
 have e1:i64.wrap (Int.tdiv (i64.wrap ((p1.length:Int)+1)) 2)=(((p1.length+1)/2:Nat):Int):=by
  rw[wi ((p1.length:Int)+1) (by omega) (by omega),Int.tdiv_eq_ediv_of_nonneg (by omega),wi _ (by omega) (by omega)]
  omega
 dsimp only
 rw[e1]
 refine⟨by omega,by omega,by omega,(by unfold maxLen;omega),rfl,rfl,(fun i f=>∃k:Nat,i=2*(k:Int)/\f.length=k/\k<=p1.length/\f++abvS p0.toNat (p1.drop (2*k))=abvS p0.toNat p1),(fun i _=>(p1.length+1-i).toNat),⟨0,by simp,rfl,by omega,by simp⟩,?_⟩
 rintro _ f1 ⟨k,rfl,hf,hk,hg⟩
 refine⟨fun e=> ?_,fun e=> ?_⟩
 ·have e:2*(k:Int)<p1.length:=of_decide_eq_true e
  have hm:=ix_mem p1 (2*(k:Int)) (by omega) e
  have hx:ix p1 (2*(k:Int))=p1.getD (2*k) 0:=by rw[show(2*(k:Int))=((2*k:Nat):Int)by omega,ix_get _ _ (by omega),gD_lt (by omega)]
  have ht:(2*(k:Int)+1).toNat=2*k+1:=by omega
  rw[wi (2*(k:Int)+1) (by omega) (by omega),wi (2*(k:Int)+2) (by omega) (by omega),ht]
  rw[kkh _ _ _ (by omega),<-hx]at hg
  have hu2:U64 (p1.getD (2*k+1) (emp p0.toNat)):=by
   by_cases hh:2*k+1<p1.length
   ·rw[gD_lt hh];exact hu _ (List.getElem_mem hh)
   ·rw[gD_ge (by omega)];exact emp_u _
  refine⟨by omega,e,⟨by omega,h1,h2⟩,⟨hu _ hm,hu2⟩,rfl,?_,?_,rfl,⟨k+1,by omega,by simp[hf],by omega,?_⟩,by(dsimp only;omega)⟩
  ·simp only[List.length_cons,List.length_nil];omega
  ·simp only[List.length_cons,List.length_nil];unfold maxLen;omega
  ·rw[<-hg,List.append_assoc];rfl
 ·have e:¬2*(k:Int)<p1.length:=of_decide_eq_false e
  rw[List.drop_eq_nil_of_le (by omega)]at hg
  rw[<-hg]
  exact(List.append_nil _).symm
noncomputable def k7q:Con TB.den:= .g ⟨165,[.one (.ptr 0 0),.agg [zqu,zqu,zqu,zqu,zqu,zqi,zqi,zql,.d (.bool)],.one (zqu),.one (zql)],[.cells [.ptr 1 0,zqi,.own 2,zql,.own 3,.mp 4,zqu,zqu,zqu,zqi,zqi,zqi,zqi,zqi,zqu,zql,zqu,zqu,zql,zqu],.cells [.d (.bool),zqu,zqi,.d (.sl (.st 4)),.mp 5,.mp 6,.mp 7],.tip (.st 12),.tip (.st 13),.map yqi (.st 11),.map (.str) yqi,.map (.str) (.sl yqu),.map (.str) (.bool)],(.tup [.one (.d (.sl (.st 14))),.one (.d (.sl (.st 14)))]),[.cells [.ptr 1 0,zqi,.own 2,zql,.own 3,.mp 4,zqu,zqu,zqu,zqi,zqi,zqi,zqi,zqi,zqu,zql,zqu,zqu,zql,zqu],.cells [.d (.bool),zqu,zqi,.d (.sl (.st 4)),.mp 5,.mp 6,.mp 7],.tip (.st 12),.tip (.st 13),.map yqi (.st 11),.map (.str) yqi,.map (.str) (.sl yqu),.map (.str) (.bool)],false⟩ (.st 11:: .int .u64:: .sl yqu::[yqi,.sl yqu,yqu,yqu,yqu,yqi,yqi,yqi,yqi,yqi,yqu,.sl yqu,yqu,yqu,.sl yqu,yqu,.bool,yqu,yqi,.sl (.st 4),.sl (.st 12),.sl (.st 13),.sl yqi,.sl (.st 11),.sl (.str),.sl yqi,.sl (.str),.sl (.sl yqu),.sl (.str),.sl (.bool)]) (.sl (.st 14):: .sl (.st 14)::[yqi,.sl yqu,yqu,yqu,yqu,yqi,yqi,yqi,yqi,yqi,yqu,.sl yqu,yqu,yqu,.sl yqu,yqu,.bool,yqu,yqi,.sl (.st 4),.sl (.st 12),.sl (.st 13),.sl yqi,.sl (.st 11),.sl (.str),.sl yqi,.sl (.str),.sl (.sl yqu),.sl (.str),.sl (.bool)]) [] fun(p1:wK) (p2:Int) (p3:List Int) (Ab:Int) (Ac:List Int) (Ai Ak Al Aj Af Ag Ay Az Ae:Int) (Ah:List Int) (A0 A7:Int) (A8:List Int) (A9:Int) (Av:Bool) (Aw Ax:Int) (Au:List wE) (w2:List wo) (w3:List wM) (w4k:List Int) (w4v:List wK) (w5k:List ByteArray) (w5v:List Int) (w6k:List ByteArray) (w6v:List (List Int)) (w7k:List ByteArray) (w7v:List Bool)=>((U64 p2/\Us p3/\p3.length<=4096)/\SPk p1,(ownsL p1.wH p2 p1.wn:List wAF),(realsL (lf p3) p1.wH.toNat p1.wn.length:List wAF),Ab,Ac,Ai,Ak,Al,Aj,Af,Ag,Ay,Az,Ae,Ah,A0,A7,A8,A9,Av,Aw,Ax,Au,w2,w3,w4k,w4v,w5k,w5v,w6k,w6v,w7k,w7v,())
theorem k8s:k7q.Ok Tryz.prog TB:=prv Bs Tryz.func165 (.r 0 (.nd [] (.r 0 (.lp [.tok 8 (.st 14),.tok 9 (.st 14)] ⟨[9,10],[.tip (.st 14),.tip (.st 14)],[2,3,8,9,17],[.one (zqu),.one (zql),.one (.own 0),.one (.own 1),.one (zqi)],[]⟩ (.r 1 (.nd [] (.r 2 (.jn ⟨[11],[.cells [zqu,zqu]],[],[],[]⟩ [] .no [] .no)) [] .no)))) [] .no)) (k9h.c (k39.c (kcs.c c0))) (Q:=∀(p1:wK) (p2:Int) (p3:List Int) (Ab:Int) (Ac:List Int) (Ai Ak Al Aj Af Ag Ay Az Ae:Int) (Ah:List Int) (A0 A7:Int) (A8:List Int) (A9:Int) (Av:Bool) (Aw Ax:Int) (Au:List wE) (w2:List wo) (w3:List wM) (w4k:List Int) (w4v:List wK) (w5k:List ByteArray) (w5v:List Int) (w6k:List ByteArray) (w6v:List (List Int)) (w7k:List ByteArray) (w7v:List Bool),((U64 p2/\Us p3/\p3.length<=4096)/\SPk p1)->∀r0:List wAF,ownsL p1.wH p2 p1.wn=r0->∀r1:List wAF,(realsL (lf p3) p1.wH.toNat p1.wn.length)=r1->∀Am:Int,Ab=Am->∀Aq:List Int,Ac=Aq->∀Be:Int,Ai=Be->∀Bf:Int,Ak=Bf->∀Bg:Int,Al=Bg->∀Bh:Int,Aj=Bh->∀Ba:Int,Af=Ba->∀Bb:Int,Ag=Bb->∀Bm:Int,Ay=Bm->∀Bn:Int,Az=Bn->∀Bc:Int,Ae=Bc->∀Bd:List Int,Ah=Bd->∀Bo:Int,A0=Bo->∀Bp:Int,A7=Bp->∀Bq:List Int,A8=Bq->∀Br:Int,A9=Br->∀d1_0:Bool,Av=d1_0->∀d1_1:Int,Aw=d1_1->∀d1_2:Int,Ax=d1_2->∀d1_3:List wE,Au=d1_3->∀e2:List wo,w2=e2->∀e3:List wM,w3=e3->∀e4k:List Int,w4k=e4k->∀e4v:List wK,w4v=e4v->∀e5k:List ByteArray,w5k=e5k->∀e5v:List Int,w5v=e5v->∀e6k:List ByteArray,w6k=e6k->∀e6v:List (List Int),w6v=e6v->∀e7k:List ByteArray,w7k=e7k->∀e7v:List Bool,w7v=e7v-> 
(([]:List wAF)=([]:List wAF))/\(([]:List wAF)=([]:List wAF))/\∃(I1:Int->(List Int)->Int->(List wAF)->(List wAF)->Prop) (M1:Int->(List Int)->Int->(List wAF)->(List wAF)->Nat),I1 p2 p3 0 ([]:List wAF) ([]:List wAF)/\∀(b1:Int) (f1:List Int) (i1:Int) (k1 l1:List wAF),(I1 b1 f1 i1 k1 l1->
(decide (i1<(p1.wn.length:Int))=true->
(0<=i1)/\i1<(p1.wn.length:Int)/\(0<=i1)/\∀J1:Int->Int->Prop,(∀(m1 n1:Int),
(k1.length=k1.length/\(k1.length+[wAF.mk m1 n1].length)*16<=140737488355328/\k1.length+[wAF.mk m1 n1].length<=maxLen/\(0<=(ianot .i64 (ishr .i64 p1.wH i1) 1)/\0<=i1/\i1<=12)/\let r3:Int:=(f1.getD (ianot .i64 (ishr .i64 p1.wH i1) 1).toNat (emp i1.toNat))
(0<=(ior .i64 (ishr .i64 p1.wH i1) 1)/\0<=i1/\i1<=12)/\let r4:Int:=(f1.getD (ior .i64 (ishr .i64 p1.wH i1) 1).toNat (emp i1.toNat))
l1.length=l1.length/\(l1.length+[wAF.mk r3 r4].length)*16<=140737488355328/\l1.length+[wAF.mk r3 r4].length<=maxLen/\(U64 (wAF.mk m1 n1).a0/\U64 (wAF.mk m1 n1).a1)/\((0<=i1/\i1<=12)/\Us f1/\f1.length<=4096)/\(l1++[wAF.mk r3 r4]=l1++[wAF.mk r3 r4])/\(k1++[wAF.mk m1 n1]=k1++[wAF.mk m1 n1])/\I1 (ndA (wAF.mk m1 n1)) (abvS i1.toNat f1) (i64.wrap (i1+1)) (k1++[wAF.mk m1 n1]) (l1++[wAF.mk r3 r4])/\M1 (ndA (wAF.mk m1 n1)) (abvS i1.toNat f1) (i64.wrap (i1+1)) (k1++[wAF.mk m1 n1]) (l1++[wAF.mk r3 r4])<M1 b1 f1 i1 k1 l1)->J1 m1 n1)->
let v2:Bool:=((iand .i64 (ishr .i64 p1.wH i1) 1)==1)
(v2=true->
J1 (ix p1.wn i1) b1)/\
(v2=false->
J1 b1 (ix p1.wn i1)))/\
(decide (i1<(p1.wn.length:Int))=false->
(w3=w3)/\(w2=w2)/\k1=r0/\l1=r1/\Ab=Am/\Ac=Aq/\Ai=Be/\Ak=Bf/\Al=Bg/\Aj=Bh/\Af=Ba/\Ag=Bb/\Ay=Bm/\Az=Bn/\Ae=Bc/\Ah=Bd/\A0=Bo/\A7=Bp/\A8=Bq/\A9=Br/\Av=d1_0/\Aw=d1_1/\Ax=d1_2/\Au=d1_3/\w2=e2/\w3=e3/\w4k=e4k/\w4v=e4v/\w5k=e5k/\w5v=e5v/\w6k=e6k/\w6v=e6v/\w7k=e7k/\w7v=e7v))) (by kernel_rfl)<|by
 rintro p1 p2 p3 Ab Ac Ai Ak Al Aj Af Ag Ay Az Ae Ah A0 A7 A8 A9 Av Aw Ax Au w2 w3 w4k w4v w5k w5v w6k w6v w7k w7v h _ rfl _ rfl _ rfl _ rfl _ rfl _ rfl _ rfl _ rfl _ rfl _ rfl _ rfl _ rfl _ rfl _ rfl _ rfl _ rfl _ rfl _ rfl _ rfl _ rfl _ rfl _ rfl _ rfl _ rfl _ rfl _ rfl _ rfl _ rfl _ rfl _ rfl _ rfl _ rfl
 obtain⟨⟨hu,hs,hl⟩,hp⟩:=h
 obtain⟨p0,pm,pl,pu⟩:=hp.p0,hp.pm,hp.pl,hp.pu
 generalize hP:p1.wH=P at *
 generalize hQ:p1.wn=Q at *
 obtain⟨n,rfl⟩:=Int.eq_ofNat_of_zero_le p0
 rw[Int.toNat_natCast]
 refine⟨rfl,rfl,(fun b f i k l=>∃j:Nat,i=(j:Int)/\j<=Q.length/\U64 b/\Us f/\f.length<=4096/\(∀p,f.getD p (emp j)=TT (lf p3) j p)/\k.length=j/\k++ownsL ((n/2^j:Nat):Int) b (Q.drop j)=ownsL (n:Int) p2 Q/\l=realsL (lf p3) n j),(fun _ _ i _ _=>(Q.length-i).toNat),⟨0,rfl,Nat.zero_le _,hu,hs,hl,fun p=>rfl,rfl,by simp,rfl⟩,?_⟩
 rintro b f _ k _ ⟨j,rfl,hj,hb,hf,hfl,hT,hk,hg,rfl⟩
 refine⟨fun e=> ?_,fun e=> ?_⟩
 ·have e:(j:Int)<Q.length:=of_decide_eq_true e
  have hjl:j<Q.length:=by omega
  have hm:=ix_mem Q (j:Int) (by omega) e
  have hq:n/2^j<=64:=Nat.le_trans (Nat.div_le_self _ _) (by omega)
  have hx:ix Q (j:Int)=Q[j]:=ix_get _ _ hjl
  rw[shr_nat n j (by omega),(bitnot _ hq).1,(bitnot _ hq).2,inc (j:Int) Q.length (by omega) (by omega) (by omega),k45 _ ⟨Int.natCast_nonneg _,Int.lt_of_le_of_lt (Int.ofNat_le.2 hq) (by decide)⟩]
  rw[List.drop_eq_getElem_cons hjl,<-hx]at hg
  simp only[Int.toNat_natCast]
  refine⟨by omega,e,by omega,?_⟩
  intro J kJ
  have j1:∀m s,wAF.mk m s=ownP ((n/2^j:Nat):Int) b (ix Q (j:Int))->U64 m->U64 s->J m s:=fun m s hms um us=>kJ m s (by
   rw[hms]
   have hr:realsL (lf p3) n j++[wAF.mk (f.getD (2*(n/2^j/2)) (emp j)) (f.getD (2*(n/2^j/2)+1) (emp j))]=realsL (lf p3) n (j+1):=by
    rw[hT,hT]
    unfold realsL
    rw[List.range_succ,List.map_append]
    rfl
   rw[hr]
   have hrl:(realsL (lf p3) n j).length=j:=by simp[realsL]
   have h12:(j:Int)<=12:=by omega
   refine⟨by trivial,?_,?_,⟨Int.natCast_nonneg _,by omega,h12⟩,⟨Int.natCast_nonneg _,by omega,h12⟩,by trivial,?_,?_,?_,⟨⟨by omega,h12⟩,hf,hfl⟩,by trivial,by trivial,⟨j+1,by omega,by omega,kr _ _,abvS_u _ _,Nat.le_trans (kh9 _ _) hfl,fun p=> ?_,by simp[hk],?_,rfl⟩,by(first|omega|(dsimp only;omega))⟩
   ·rw[hk];simp only[List.length_cons,List.length_nil];omega
   ·rw[hk];simp only[List.length_cons,List.length_nil];unfold maxLen;omega
   ·rw[hrl];simp only[List.length_cons,List.length_nil];omega
   ·rw[hrl];simp only[List.length_cons,List.length_nil];unfold maxLen;omega
   ·exact⟨um,us⟩
   ·rw[kgc,hT,hT];rfl
   ·rw[<-hg,List.append_assoc,k1c]
    congr 1)
  refine⟨fun e2=> ?_,fun e2=> ?_⟩
  ·exact j1 _ _ (by unfold ownP;rw[if_pos (by simpa using e2)]) (pu _ hm) hb
  ·exact j1 _ _ (by unfold ownP;rw[if_neg (by simpa using e2)]) hb (pu _ hm)
 ·have e:¬(j:Int)<Q.length:=of_decide_eq_false e
  obtain rfl:j=Q.length:=by omega
  rw[List.drop_length]at hg
  have hg:k++[]=ownsL (n:Int) p2 Q:=hg
  rw[List.append_nil]at hg
  subst hg
  exact(by repeat' first|apply And.intro|exact rfl|exact True.intro)
noncomputable def k77:Con TB.den:= .gp 81 [.sl yqu] [.bool] [] fun(p0:List Int)=>(p0.length<=9223372036854775807,(allB p0:Bool),())
theorem k7s:k77.Ok Tryz.prog TB:=qrv Bs Tryz.func81 (.r 0 (.nd [] (.r 0 (.lp [] ⟨[],[],[7],[.one (zqi)],[]⟩ .no)) [] .no)) c0 (Q:=∀(p0:List Int),(p0.length<=9223372036854775807)->∀r0:Bool,allB p0=r0-> 
∃(I1:Int->Prop) (M1:Int->Nat),I1 0/\∀(b1:Int),(I1 b1->
(decide (b1<(p0.length:Int))=true->
(0<=b1)/\b1<(p0.length:Int)/\let v1:Bool:=decide (18446744069414584321<=(ix p0 b1))
(v1=true->
false=r0)/\
(v1=false->
I1 (i64.wrap (b1+1))/\M1 (i64.wrap (b1+1))<M1 b1))/\
(decide (b1<(p0.length:Int))=false->
true=r0))) (by kernel_rfl)<|by
 rintro p0 h _ rfl
 refine(⟨(AllI (fun x=>decide (x<18446744069414584321)) p0),(fun i=>(p0.length-i).toNat),AllI.start,?_⟩)
 intro i hi
 refine⟨fun hh=> ?_,fun hh=>(hi.done (of_decide_eq_false hh)).symm⟩
 have hh:=of_decide_eq_true hh
 exact⟨hi.1,hh,fun e=>(hi.bad hh (by simpa using e)).symm,fun e=>hi.next hh (by omega) (by simpa using e)⟩
noncomputable def k49:Con TB.den:= .g ⟨115,[.one (.own 0),.one (zqu)],[.tip yqb],(.one (.one (.own 0))),[.tip yqb],false⟩ [yqu,.sl yqb] [.sl yqb] [] fun(p1:Int) (w0:List Int)=>(U64 p1/\w0.length<=137438953472,(w0++dig 8 p1:List Int),())
theorem k4s:k49.Ok Tryz.prog TB:=prv Bs Tryz.func115 (.r 0 (.nd [] (.r 0 (.lp [] ⟨[0],[.tip yqb],[0,1,5],[.one (.own 0),.one (zqu),.one (zqi)],[]⟩ .no)) [] .no)) c0 (Q:=∀(p1:Int) (w0:List Int),(U64 p1/\w0.length<=137438953472)->∀e0:List Int,(w0++dig 8 p1)=e0-> 
(w0=w0)/\∃(I1:Int->Int->(List Int)->Prop) (M1:Int->Int->(List Int)->Nat),I1 p1 0 w0/\∀(b1 f1:Int) (i1:List Int),(I1 b1 f1 i1->
(decide (f1<8)=true->
i1.length=i1.length/\(i1.length+[IntKind.u8.wrap b1].length)*1<=140737488355328/\i1.length+[IntKind.u8.wrap b1].length<=maxLen/\(i1++[IntKind.u8.wrap b1]=i1++[IntKind.u8.wrap b1])/\I1 (ishr .u64 b1 8) (i64.wrap (f1+1)) (i1++[IntKind.u8.wrap b1])/\M1 (ishr .u64 b1 8) (i64.wrap (f1+1)) (i1++[IntKind.u8.wrap b1])<M1 b1 f1 i1)/\
(decide (f1<8)=false->
(i1=i1)/\i1=e0))) (by kernel_rfl)<|by
 rintro p1 w0 h _ rfl
 obtain⟨h1,h2⟩:=h
 refine⟨rfl,⟨(fun n i g=>0<=i/\i<=8/\U64 n/\n=p1/256^i.toNat/\g=w0++dig i.toNat p1),(fun _ i _=>(8-i).toNat),⟨by omega,by omega,h1,by simp,by simp[dig]⟩,?_⟩⟩
 rintro n i g ⟨g0,g1,g2,g3,rfl⟩
 refine⟨fun h=> ?_,fun h=> ?_⟩
 ·have h:=of_decide_eq_true h
  rw[inc i 8 g0 h (by omega),ishr8,u8w]
  refine⟨rfl,?_,?_,rfl,⟨by omega,by omega,⟨by omega,by omega⟩,?_,?_⟩,by(first|omega|(dsimp only;omega))⟩
  ·simp;omega
  ·simp;unfold maxLen;omega
  ·rw[g3,show(i+1).toNat=i.toNat+1 by omega,Int.ediv_ediv_of_nonneg (Int.le_of_lt (k22 _)),Int.pow_succ]
  ·rw[show(i+1).toNat=i.toNat+1 by omega,kaj,List.append_assoc,g3]
 ·have h:=of_decide_eq_false h
  exact⟨rfl,by rw[show i=8 by omega];rfl⟩
noncomputable def kcr:Con TB.den:= .gp 82 [.sl yqu,.sl yqu] [.str] [] fun(p0 p1:List Int)=>(Us p0/\Us p1/\p0.length<=1073741824/\p1.length<=1073741824,(keyB p1 p0:ByteArray),())
theorem kes:kcr.Ok Tryz.prog TB:=qrv Bs Tryz.func82 (.r 1 (.nd [] (.r 0 (.lp [.frz 0 [5]] ⟨[1],[.tip yqb],[5,19],[.one (.own 0),.one (zqi)],[]⟩ .no)) [] (.nd [] (.r 0 (.lp [] ⟨[1],[.tip yqb],[5,29],[.one (.own 0),.one (zqi)],[]⟩ .no)) [] .no))) (k4s.c c0) (Q:=∀(p0 p1:List Int),(Us p0/\Us p1/\p0.length<=1073741824/\p1.length<=1073741824)->∀r0:ByteArray,keyB p1 p0=r0-> 
let v1:Int:=i64.wrap ((p1.length:Int)+(p0.length:Int))
0<=(0:Int)/\(0:Int)<=i64.wrap (8*v1)/\((i64.wrap (8*v1)).toNat*1<=140737488355328)/\((i64.wrap (8*v1)).toNat<=maxLen)/\(0=(List.replicate 0 (0:Int)).length)/\(List.replicate 0 (0:Int)=List.replicate 0 (0:Int))/\∃(I1:Int->(List Int)->Prop) (M1:Int->(List Int)->Nat),I1 0 (List.replicate 0 (0:Int))/\∀(b1:Int) (f1:List Int),(I1 b1 f1->
(decide (b1<(p1.length:Int))=true->
(0<=b1)/\b1<(p1.length:Int)/\(f1=f1)/\(U64 (ix p1 b1)/\f1.length<=137438953472)/\((f1++dig 8 (ix p1 b1))=(f1++dig 8 (ix p1 b1)))/\I1 (i64.wrap (b1+1)) (f1++dig 8 (ix p1 b1))/\M1 (i64.wrap (b1+1)) (f1++dig 8 (ix p1 b1))<M1 b1 f1)/\
(decide (b1<(p1.length:Int))=false->
(f1=f1)/\∃(I2:Int->(List Int)->Prop) (M2:Int->(List Int)->Nat),I2 0 f1/\∀(i1:Int) (k1:List Int),(I2 i1 k1->
(decide (i1<(p0.length:Int))=true->
(0<=i1)/\i1<(p0.length:Int)/\(k1=k1)/\(U64 (ix p0 i1)/\k1.length<=137438953472)/\((k1++dig 8 (ix p0 i1))=(k1++dig 8 (ix p0 i1)))/\I2 (i64.wrap (i1+1)) (k1++dig 8 (ix p0 i1))/\M2 (i64.wrap (i1+1)) (k1++dig 8 (ix p0 i1))<M2 i1 k1)/\
(decide (i1<(p0.length:Int))=false->
strOfNums k1=r0))))) (by kernel_rfl)<|by
 rintro p0 p1 h _ rfl
 obtain⟨h0,h1,h2,h3⟩:=h
 refine ?_
 rw[wi ((p1.length:Int)+p0.length) (by omega) (by omega)]
 dsimp only
 rw[wi (8*((p1.length:Int)+p0.length)) (by omega) (by omega)]
 refine⟨by omega,by omega,by omega,by unfold maxLen;omega,rfl,rfl,?_⟩
 refine⟨(fun i g=>FlatI (dig 8) [] p1 i g),(fun i _=>(p1.length-i).toNat),FlatI.start,?_⟩
 intro i g hg
 have hl:=hg.len 8 (fun x _=>by simp)
 refine⟨fun hh=> ?_,fun hh=> ?_⟩
 ·have hh:=of_decide_eq_true hh
  exact⟨hg.1,hh,rfl,⟨h1 _ (ix_mem p1 i hg.1 hh),by simp at hl;omega⟩,rfl,hg.next hh (by omega) rfl⟩
 ·have hh:=of_decide_eq_false hh
  have e:=hg.done hh
  refine⟨rfl,⟨(fun j g=>FlatI (dig 8) (p1.flatMap (dig 8)) p0 j g),(fun j _=>(p0.length-j).toNat),(by rw[e];exact FlatI.start),?_⟩⟩
  intro j g2 hg2
  have hl2:=hg2.len 8 (fun x _=>by simp)
  have hl3:=k3t p1
  refine⟨fun hh2=> ?_,fun hh2=> ?_⟩
  ·have hh2:=of_decide_eq_true hh2
   exact⟨hg2.1,hh2,rfl,⟨h0 _ (ix_mem p0 j hg2.1 hh2),by omega⟩,rfl,hg2.next hh2 (by omega) rfl⟩
  ·rw[hg2.done (of_decide_eq_false hh2)];rfl
noncomputable def kbr:Con TB.den:= .g ⟨53,[.one (.ptr 0 0),.one (zqu),.one (zql)],[.cells [.d (.bool),zqu,zqi,.d (.sl (.st 4)),.mp 1,.mp 2,.mp 3],.map (.str) yqi,.map (.str) (.sl yqu),.map (.str) (.bool)],(.tup [.one (zqu),.one (.d (.bool))]),[.cells [.d (.bool),zqu,zqi,.d (.sl (.st 4)),.mp 1,.mp 2,.mp 3],.map (.str) yqi,.map (.str) (.sl yqu),.map (.str) (.bool)],false⟩ [yqu,.sl yqu,.bool,yqu,yqi,.sl (.st 4),.sl (.str),.sl yqi,.sl (.str),.sl (.sl yqu),.sl (.str),.sl (.bool)] [yqu,.bool,.bool,yqu,yqi,.sl (.st 4),.sl (.str),.sl yqi,.sl (.str),.sl (.sl yqu),.sl (.str),.sl (.bool)] [] fun(p1:Int) (p2:List Int) (Aa:Bool) (Ab Ad:Int) (Ac:List wE) (w1k:List ByteArray) (w1v:List Int) (w2k:List ByteArray) (w2v:List (List Int)) (w3k:List ByteArray) (w3v:List Bool)=>(U64 p1/\Us p2/\p2.length<=1073741824/\OrOk w1k w1v Ac,((pk Aa Ac w1k w1v p1 p2).getD 0:Int),((pk Aa Ac w1k w1v p1 p2).isSome:Bool),Aa,Ab,Ad,Ac,w1k,w1v,w2k,w2v,w3k,w3v,())
theorem k5c:kbr.Ok Tryz.prog TB:=prv Bs Tryz.func53 .no (k7s.c (kes.c (kx.c c0))) (Q:=∀(p1:Int) (p2:List Int) (Aa:Bool) (Ab Ad:Int) (Ac:List wE) (w1k:List ByteArray) (w1v:List Int) (w2k:List ByteArray) (w2v:List (List Int)) (w3k:List ByteArray) (w3v:List Bool),(U64 p1/\Us p2/\p2.length<=1073741824/\OrOk w1k w1v Ac)->∀r0:Int,((pk Aa Ac w1k w1v p1 p2).getD 0)=r0->∀r1:Bool,((pk Aa Ac w1k w1v p1 p2).isSome)=r1->∀Ao:Bool,Aa=Ao->∀Am:Int,Ab=Am->∀Ap:Int,Ad=Ap->∀Aq:List wE,Ac=Aq->∀e1k:List ByteArray,w1k=e1k->∀e1v:List Int,w1v=e1v->∀e2k:List ByteArray,w2k=e2k->∀e2v:List (List Int),w2v=e2v->∀e3k:List ByteArray,w3k=e3k->∀e3v:List Bool,w3v=e3v-> 
(p2.length<=9223372036854775807)/\((!(allB p2))=true->
0=r0/\false=r1/\Aa=Ao/\Ab=Am/\Ad=Ap/\Ac=Aq/\w1k=e1k/\w1v=e1v/\w2k=e2k/\w2v=e2v/\w3k=e3k/\w3v=e3v)/\
((!(allB p2))=false->
(Us p2/\Us [p1]/\p2.length<=1073741824/\[p1].length<=1073741824)/\w1k.length=w1v.length/\let v2:Int:=mVal (BEq.beq (keyB [p1] p2)) w1k w1v (0:Int)
(mHas (BEq.beq (keyB [p1] p2)) w1k=true->
(0<=v2)/\v2<(Ac.length:Int)/\(ix Ac v2).wAd=r0/\true=r1/\Aa=Ao/\Ab=Am/\Ad=Ap/\Ac=Aq/\w1k=e1k/\w1v=e1v/\w2k=e2k/\w2v=e2v/\w3k=e3k/\w3v=e3v)/\
(mHas (BEq.beq (keyB [p1] p2)) w1k=false->
(Aa=true->
0=r0/\false=r1/\Aa=Ao/\Ab=Am/\Ad=Ap/\Ac=Aq/\w1k=e1k/\w1v=e1v/\w2k=e2k/\w2v=e2v/\w3k=e3k/\w3v=e3v)/\
(Aa=false->
((18446744069414584321:Int)=18446744069414584321/\U64 p1/\Us p2/\p2.length<=1099511627776)/\(hashS p1 p2)=r0/\true=r1/\Aa=Ao/\Ab=Am/\Ad=Ap/\Ac=Aq/\w1k=e1k/\w1v=e1v/\w2k=e2k/\w2v=e2v/\w3k=e3k/\w3v=e3v)))) (by kernel_rfl)<|by
 rintro p1 p2 Aa Ab Ad Ac w1k w1v w2k w2v w3k w3v h _ rfl _ rfl _ rfl _ rfl _ rfl _ rfl _ rfl _ rfl _ rfl _ rfl _ rfl _ rfl
 obtain⟨h1,h2,h3,ho⟩:=h
 have hu:Us [p1]:=by intro x hx;rw[List.mem_singleton]at hx;subst hx;exact h1
 refine⟨by omega,fun e=> ?_,fun e=>⟨⟨h2,hu,h3,by simp⟩,ho.len,fun hm=> ?_,fun hm=>⟨fun hi=> ?_,fun hi=>⟨⟨rfl,h1,h2,by omega⟩,?_⟩⟩⟩⟩
 ·have e:allB p2=false:=by simpa using e
  simp[pk,e]
 ·have e:allB p2=true:=by simpa using e
  have hv:=ho.rng _ (kmx (z:=(0:Int)) hm ho.len)
  refine⟨hv.1,hv.2,?_⟩
  simp[pk,e,hm]
 ·have e:allB p2=true:=by simpa using e
  simp[pk,e,hm,hi]
 ·have e:allB p2=true:=by simpa using e
  simp[pk,e,hm,hi]
noncomputable def kd7:Con TB.den:= .tp 200 [.st 13] [.bool] [] fun(p0:wM)=>((noteV p0:Bool),())
theorem k3c:kd7.Ok Tryz.prog TB:=qtv Bs Tryz.func200 .no c0 (Q:=∀(p0:wM),∀r0:Bool,noteV p0=r0-> 
(decide (p0.Value<=4294967295)=true->
(decide (p0.wAi<18446744069414584321)=true->
(decide (p0.Rho<18446744069414584321)=true->
decide (p0.wAk<18446744069414584321)=r0)/\
(decide (p0.Rho<18446744069414584321)=false->
false=r0))/\
(decide (p0.wAi<18446744069414584321)=false->
false=r0))/\
(decide (p0.Value<=4294967295)=false->
false=r0)) (by kernel_rfl)<|by
 rintro p0 _ rfl
 refine ?_
 unfold noteV
 grind
noncomputable def k8y:Con TB.den:= .tp 201 [.st 13] [.sl yqu] [] fun(p0:wM)=>((noteL p0:List Int),())
theorem kaz:k8y.Ok Tryz.prog TB:=qtv Bs Tryz.func201 .no c0 (Q:=∀(p0:wM),∀r0:List Int,noteL p0=r0-> 
[p0.Value,p0.wAi,p0.Rho,p0.wAk]=r0) (by kernel_rfl)<|by
 rintro p0 _ rfl
 exact rfl
noncomputable def k76:Con TB.den:= .g ⟨158,[.one (.ptr 0 0),.agg [zqu,zqu,zqu,zqu]],[.cells [.d (.bool),zqu,zqi,.d (.sl (.st 4)),.mp 1,.mp 2,.mp 3],.map (.str) yqi,.map (.str) (.sl yqu),.map (.str) (.bool)],(.tup [.one (zqu),.one (.d (.bool))]),[.cells [.d (.bool),zqu,zqi,.d (.sl (.st 4)),.mp 1,.mp 2,.mp 3],.map (.str) yqi,.map (.str) (.sl yqu),.map (.str) (.bool)],false⟩ [.st 13,.bool,yqu,yqi,.sl (.st 4),.sl (.str),.sl yqi,.sl (.str),.sl (.sl yqu),.sl (.str),.sl (.bool)] [yqu,.bool,.bool,yqu,yqi,.sl (.st 4),.sl (.str),.sl yqi,.sl (.str),.sl (.sl yqu),.sl (.str),.sl (.bool)] [] fun(p1:wM) (Aa:Bool) (Ab Ad:Int) (Ac:List wE) (w1k:List ByteArray) (w1v:List Int) (w2k:List ByteArray) (w2v:List (List Int)) (w3k:List ByteArray) (w3v:List Bool)=>(NR p1/\OrOk w1k w1v Ac,((commP (pk Aa Ac w1k w1v) p1).getD 0:Int),((commP (pk Aa Ac w1k w1v) p1).isSome:Bool),Aa,Ab,Ad,Ac,w1k,w1v,w2k,w2v,w3k,w3v,())
theorem k1u:k76.Ok Tryz.prog TB:=prv Bs Tryz.func158 .no (k3c.c (kaz.c (k5c.c c0))) (Q:=∀(p1:wM) (Aa:Bool) (Ab Ad:Int) (Ac:List wE) (w1k:List ByteArray) (w1v:List Int) (w2k:List ByteArray) (w2v:List (List Int)) (w3k:List ByteArray) (w3v:List Bool),(NR p1/\OrOk w1k w1v Ac)->∀r0:Int,((commP (pk Aa Ac w1k w1v) p1).getD 0)=r0->∀r1:Bool,((commP (pk Aa Ac w1k w1v) p1).isSome)=r1->∀Ao:Bool,Aa=Ao->∀Am:Int,Ab=Am->∀Ap:Int,Ad=Ap->∀Aq:List wE,Ac=Aq->∀e1k:List ByteArray,w1k=e1k->∀e1v:List Int,w1v=e1v->∀e2k:List ByteArray,w2k=e2k->∀e2v:List (List Int),w2v=e2v->∀e3k:List ByteArray,w3k=e3k->∀e3v:List Bool,w3v=e3v-> 
((!(noteV p1))=true->
0=r0/\false=r1/\Aa=Ao/\Ab=Am/\Ad=Ap/\Ac=Aq/\w1k=e1k/\w1v=e1v/\w2k=e2k/\w2v=e2v/\w3k=e3k/\w3v=e3v)/\
((!(noteV p1))=false->
(U64 (2:Int)/\Us (noteL p1)/\(noteL p1).length<=1073741824/\OrOk w1k w1v Ac)/\let r2:Int:=((pk Aa Ac w1k w1v (2:Int) (noteL p1)).getD 0)
let r3:Bool:=((pk Aa Ac w1k w1v (2:Int) (noteL p1)).isSome)
r2=r0/\r3=r1/\Aa=Ao/\Ab=Am/\Ad=Ap/\Ac=Aq/\w1k=e1k/\w1v=e1v/\w2k=e2k/\w2v=e2v/\w3k=e3k/\w3v=e3v)) (by kernel_rfl)<|by
 rintro p1 Aa Ab Ad Ac w1k w1v w2k w2v w3k w3v h _ rfl _ rfl _ rfl _ rfl _ rfl _ rfl _ rfl _ rfl _ rfl _ rfl _ rfl _ rfl
 obtain⟨h1,ho⟩:=h
 have hu:Us (noteL p1):=by
  intro x hx
  simp only[noteL,List.mem_cons,List.not_mem_nil,or_false]at hx
  rcases hx with rfl|rfl|rfl|rfl
  ·exact h1.v
  ·exact h1.o
  ·exact h1.r
  ·exact h1.b
 refine ?_
 simp only[kjs]
 unfold commP
 refine⟨fun e=> ?_,fun e=>⟨⟨by decide,hu,by simp[noteL],ho⟩,?_⟩⟩
 ·have e:noteV p1=false:=by simpa using e
  simp[e]
 ·have e:noteV p1=true:=by simpa using e
  simp[e]
noncomputable def k7z:Con TB.den:= .g ⟨107,[.one (.ptr 0 0),.agg [zqu,zqu,zqu,zqu,zqu,zqi,zqi,zql,.d (.bool)],.one (zqu),.one (zqi)],[.cells [.ptr 1 0,zqi,.own 2,zql,.own 3,.mp 4,zqu,zqu,zqu,zqi,zqi,zqi,zqi,zqi,zqu,zql,zqu,zqu,zql,zqu],.cells [.d (.bool),zqu,zqi,.d (.sl (.st 4)),.mp 5,.mp 6,.mp 7],.tip (.st 12),.tip (.st 13),.map yqi (.st 11),.map (.str) yqi,.map (.str) (.sl yqu),.map (.str) (.bool)],(.one (.agg [zqi,zqi,zqi,zqu,zql,zqu,zqu,zql,zqu])),[.cells [.ptr 1 0,zqi,.own 2,zql,.own 3,.mp 4,zqu,zqu,zqu,zqi,zqi,zqi,zqi,zqi,zqu,zql,zqu,zqu,zql,zqu],.cells [.d (.bool),zqu,zqi,.d (.sl (.st 4)),.mp 5,.mp 6,.mp 7],.tip (.st 12),.tip (.st 13),.map yqi (.st 11),.map (.str) yqi,.map (.str) (.sl yqu),.map (.str) (.bool)],false⟩ (.st 11:: .int .u64:: .int .i64::[yqi,.sl yqu,yqu,yqu,yqu,yqi,yqi,yqi,yqi,yqi,yqu,.sl yqu,yqu,yqu,.sl yqu,yqu,.bool,yqu,yqi,.sl (.st 4),.sl (.st 12),.sl (.st 13),.sl yqi,.sl (.st 11),.sl (.str),.sl yqi,.sl (.str),.sl (.sl yqu),.sl (.str),.sl (.bool)]) [.st 18,yqi,.sl yqu,yqu,yqu,yqu,yqi,yqi,yqi,yqi,yqi,yqu,.sl yqu,yqu,yqu,.sl yqu,yqu,.bool,yqu,yqi,.sl (.st 4),.sl (.st 12),.sl (.st 13),.sl yqi,.sl (.st 11),.sl (.str),.sl yqi,.sl (.str),.sl (.sl yqu),.sl (.str),.sl (.bool)] [] fun(p1:wK) (p2 p3 Ab:Int) (Ac:List Int) (Ai Ak Al Aj Af Ag Ay Az Ae:Int) (Ah:List Int) (A0 A7:Int) (A8:List Int) (A9:Int) (Av:Bool) (Aw Ax:Int) (Au:List wE) (w2:List wo) (w3:List wM) (w4k:List Int) (w4v:List wK) (w5k:List ByteArray) (w5v:List Int) (w6k:List ByteArray) (w6v:List (List Int)) (w7k:List ByteArray) (w7v:List Bool)=>(((0<=p3/\p3<=w2.length/\p3<=9223372036854775807)/\ECk ⟨w2,Ac⟩)/\SPk p1/\Av=false/\w5k=[]/\w5v=[],(wrgS ⟨w2,Ac⟩ w3 p1 p2 p3:wAj),Ab,Ac,Ai,Ak,Al,Aj,Af,Ag,Ay,Az,Ae,Ah,A0,A7,A8,A9,Av,Aw,Ax,Au,w2,w3,w4k,w4v,w5k,w5v,w6k,w6v,w7k,w7v,())
theorem k99:k7z.Ok Tryz.prog TB:=prv Bs Tryz.func107 (.r 3 (.nd [] (.r 0 (.lp [] ⟨[],[],[14],[.one (zqi)],[]⟩ .no)) [] (.r 0 (.nd [] (.jn ⟨[],[],[94],[.one (.d (.bool))],[]⟩ [] .no [] .no) [] .no)))) (k5y.c (k1u.c (k8s.c (k39.c (kbg.c (k75.c c0)))))) (Q:=∀(p1:wK) (p2 p3 Ab:Int) (Ac:List Int) (Ai Ak Al Aj Af Ag Ay Az Ae:Int) (Ah:List Int) (A0 A7:Int) (A8:List Int) (A9:Int) (Av:Bool) (Aw Ax:Int) (Au:List wE) (w2:List wo) (w3:List wM) (w4k:List Int) (w4v:List wK) (w5k:List ByteArray) (w5v:List Int) (w6k:List ByteArray) (w6v:List (List Int)) (w7k:List ByteArray) (w7v:List Bool),(((0<=p3/\p3<=w2.length/\p3<=9223372036854775807)/\ECk ⟨w2,Ac⟩)/\SPk p1/\Av=false/\w5k=[]/\w5v=[])->∀r0:wAj,(wrgS ⟨w2,Ac⟩ w3 p1 p2 p3)=r0->∀Am:Int,Ab=Am->∀Aq:List Int,Ac=Aq->∀Be:Int,Ai=Be->∀Bf:Int,Ak=Bf->∀Bg:Int,Al=Bg->∀Bh:Int,Aj=Bh->∀Ba:Int,Af=Ba->∀Bb:Int,Ag=Bb->∀Bm:Int,Ay=Bm->∀Bn:Int,Az=Bn->∀Bc:Int,Ae=Bc->∀Bd:List Int,Ah=Bd->∀Bo:Int,A0=Bo->∀Bp:Int,A7=Bp->∀Bq:List Int,A8=Bq->∀Br:Int,A9=Br->∀d1_0:Bool,Av=d1_0->∀d1_1:Int,Aw=d1_1->∀d1_2:Int,Ax=d1_2->∀d1_3:List wE,Au=d1_3->∀e2:List wo,w2=e2->∀e3:List wM,w3=e3->∀e4k:List Int,w4k=e4k->∀e4v:List wK,w4v=e4v->∀e5k:List ByteArray,w5k=e5k->∀e5v:List Int,w5v=e5v->∀e6k:List ByteArray,w6k=e6k->∀e6v:List (List Int),w6v=e6v->∀e7k:List ByteArray,w7k=e7k->∀e7v:List Bool,w7v=e7v-> 
(w3=w3)/\(w2=w2)/\((0<=p3/\p3<=w2.length/\p3<=9223372036854775807)/\ECk ⟨w2,Ac⟩)/\(NR (wM.mk p1.wZ p1.wAD p1.wAG p1.wAQ)/\OrOk w5k w5v Au)/\let r1:Int:=((commP (pk Av Au w5k w5v) (wM.mk p1.wZ p1.wAD p1.wAG p1.wAQ)).getD 0)
let r2:Bool:=((commP (pk Av Au w5k w5v) (wM.mk p1.wZ p1.wAD p1.wAG p1.wAQ)).isSome)
(w3=w3)/\(w2=w2)/\((U64 r1/\Us (ancS w2 Ac p2 p3.toNat)/\(ancS w2 Ac p2 p3.toNat).length<=4096)/\SPk p1)/\let r3:List wAF:=(realsL (lf (ancS w2 Ac p2 p3.toNat)) p1.wH.toNat p1.wn.length)
let v4:Int:=((ownsL p1.wH r1 p1.wn).length:Int)
∃(I1:Int->Prop) (M1:Int->Nat),I1 (i64.wrap (v4-1))/\∀(b1:Int),(I1 b1->
(decide (0<=b1)=true->
(0<=b1)/\b1<((ownsL p1.wH r1 p1.wn).length:Int)/\(0<=b1)/\b1<(r3.length:Int)/\let v5:Bool:=(!(((ix (ownsL p1.wH r1 p1.wn) b1).a0==(ix r3 b1).a0)&&(((ix (ownsL p1.wH r1 p1.wn) b1).a1==(ix r3 b1).a1)&&true)))
(v5=true->
(0<=b1)/\b1<((ownsL p1.wH r1 p1.wn).length:Int)/\(0<=b1)/\b1<((ownsL p1.wH r1 p1.wn).length:Int)/\(U64 (ix (ownsL p1.wH r1 p1.wn) b1).a0/\U64 (ix (ownsL p1.wH r1 p1.wn) b1).a1)/\let r6:Int:=(ndA (ix (ownsL p1.wH r1 p1.wn) b1))
let r7:=brQ (ix (ownsL p1.wH r1 p1.wn) b1) r6
(0<=b1)/\b1<(r3.length:Int)/\(0<=b1)/\b1<((ownsL p1.wH r1 p1.wn).length:Int)/\(U64 (ix (ownsL p1.wH r1 p1.wn) b1).a0/\U64 (ix (ownsL p1.wH r1 p1.wn) b1).a1)/\let r8:Int:=(ndA (ix (ownsL p1.wH r1 p1.wn) b1))
(w3=w3)/\(w2=w2)/\2=r0.wAK/\0=r0.wY/\0=r0.Tx/\r7.wAl=r0.wAT/\r7.wAa=r0.wAS/\r7.wAd=r0.wAL/\(brQ (ix r3 b1) r8).wAl=r0.wAV/\(brQ (ix r3 b1) r8).wAa=r0.wAU/\(brQ (ix r3 b1) r8).wAd=r0.wAM/\Ab=Am/\Ac=Aq/\Ai=Be/\Ak=Bf/\Al=Bg/\Aj=Bh/\Af=Ba/\Ag=Bb/\Ay=Bm/\Az=Bn/\Ae=Bc/\Ah=Bd/\A0=Bo/\A7=Bp/\A8=Bq/\A9=Br/\Av=d1_0/\Aw=d1_1/\Ax=d1_2/\Au=d1_3/\w2=e2/\w3=e3/\w4k=e4k/\w4v=e4v/\w5k=e5k/\w5v=e5v/\w6k=e6k/\w6v=e6v/\w7k=e7k/\w7v=e7v)/\
(v5=false->
I1 (i64.wrap (b1-1))/\M1 (i64.wrap (b1-1))<M1 b1))/\
(decide (0<=b1)=false->
let r9:=comQ (wM.mk p1.wZ p1.wAD p1.wAG p1.wAQ) r1
∀J1:Bool->Prop,(∀(f1:Bool),
((f1=true->
(0<=p1.wH)/\p1.wH<(w3.length:Int)/\(w3=w3)/\(w2=w2)/\2=r0.wAK/\0=r0.wY/\0=r0.Tx/\r9.wAl=r0.wAT/\r9.wAa=r0.wAS/\r9.wAd=r0.wAL/\(comQ (ix w3 p1.wH) r1).wAl=r0.wAV/\(comQ (ix w3 p1.wH) r1).wAa=r0.wAU/\(comQ (ix w3 p1.wH) r1).wAd=r0.wAM/\Ab=Am/\Ac=Aq/\Ai=Be/\Ak=Bf/\Al=Bg/\Aj=Bh/\Af=Ba/\Ag=Bb/\Ay=Bm/\Az=Bn/\Ae=Bc/\Ah=Bd/\A0=Bo/\A7=Bp/\A8=Bq/\A9=Br/\Av=d1_0/\Aw=d1_1/\Ax=d1_2/\Au=d1_3/\w2=e2/\w3=e3/\w4k=e4k/\w4v=e4v/\w5k=e5k/\w5v=e5v/\w6k=e6k/\w6v=e6v/\w7k=e7k/\w7v=e7v)/\
(f1=false->
(w3=w3)/\(w2=w2)/\2=r0.wAK/\0=r0.wY/\0=r0.Tx/\r9.wAl=r0.wAT/\r9.wAa=r0.wAS/\r9.wAd=r0.wAL/\6=r0.wAV/\([]:List Int)=r0.wAU/\r1=r0.wAM/\Ab=Am/\Ac=Aq/\Ai=Be/\Ak=Bf/\Al=Bg/\Aj=Bh/\Af=Ba/\Ag=Bb/\Ay=Bm/\Az=Bn/\Ae=Bc/\Ah=Bd/\A0=Bo/\A7=Bp/\A8=Bq/\A9=Br/\Av=d1_0/\Aw=d1_1/\Ax=d1_2/\Au=d1_3/\w2=e2/\w3=e3/\w4k=e4k/\w4v=e4v/\w5k=e5k/\w5v=e5v/\w6k=e6k/\w6v=e6v/\w7k=e7k/\w7v=e7v))->J1 f1)->
let v10:Int:=((ancS w2 Ac p2 p3.toNat).length:Int)
(decide (p1.wH<v10)=true->
J1 (decide (p1.wH<(w3.length:Int))))/\
(decide (p1.wH<v10)=false->
J1 false)))) (by kernel_rfl)<|by
 rintro p1 p2 p3 Ab Ac Ai Ak Al Aj Af Ag Ay Az Ae Ah A0 A7 A8 A9 Av Aw Ax Au w2 w3 w4k w4v w5k w5v w6k w6v w7k w7v h _ rfl _ rfl _ rfl _ rfl _ rfl _ rfl _ rfl _ rfl _ rfl _ rfl _ rfl _ rfl _ rfl _ rfl _ rfl _ rfl _ rfl _ rfl _ rfl _ rfl _ rfl _ rfl _ rfl _ rfl _ rfl _ rfl _ rfl _ rfl _ rfl _ rfl _ rfl
 obtain⟨⟨⟨a1,a2,a3⟩,hC⟩,hp,rfl,rfl,rfl⟩:=h
 have hl1:(commP (pk false Au [] []) (wM.mk p1.wZ p1.wAD p1.wAG p1.wAQ)).getD 0=leafS p1:=by rw[pk_emp];rfl
 have hlu:=leafS_u p1
 have hA:=khf hC p2 p3.toNat
 have hol:=kdw p1.wH (leafS p1) p1.wn
 have hou:=ownsL_u p1.wH (leafS p1) p1.wn hlu hp.pu
 have hrl:=kiy (lf (ancS w2 Ac p2 p3.toNat)) p1.wH.toNat p1.wn.length
 have h0:=hp.p0
 have hpl:=hp.pl
 generalize hG:wrgS ⟨w2,Ac⟩ w3 p1 p2 p3=G
 unfold wrgS wrgF at hG
 dsimp only at hG ⊢
 rw[hl1]
 generalize ownsL p1.wH (leafS p1) p1.wn=O at *
 generalize realsL (lf (ancS w2 Ac p2 p3.toNat)) p1.wH.toNat p1.wn.length=Q at *
 refine⟨by trivial,by trivial,⟨⟨a1,a2,a3⟩,hC⟩,⟨hp.n,kh2 _⟩,by trivial,by trivial,⟨⟨hlu,hA.2,hA.1⟩,hp⟩,(fun i=>∃k:Nat,i=(k:Int)-1/\k<=O.length/\wrgGo O Q k=wrgGo O Q O.length),(fun i=>(i+1).toNat),⟨O.length,wi _ (by omega) (by omega),Nat.le_refl _,rfl⟩,?_⟩
 rintro _ ⟨k,rfl,hk,hg⟩
 refine⟨fun e=> ?_,fun e=> ?_⟩
 ·have e:0<=(k:Int)-1:=of_decide_eq_true e
  obtain⟨j,rfl⟩:∃j,k=j+1:=⟨k-1,by omega⟩
  have ej:((j+1:Nat):Int)-1=(j:Int):=by omega
  rw[ej]
  have hu:=hou _ (ix_mem O (j:Int) (by omega) (by omega))
  rw[wrgGo]at hg
  refine⟨by omega,by omega,by omega,by omega,fun e2=> ?_,fun e2=> ?_⟩
  ·rw[if_pos ((pair_ne _ _).1 e2)]at hg
   rw[<-hg]at hG
   have hG:colF _ _=G:=hG
   subst hG
   exact⟨by omega,by omega,by omega,by omega,hu,by omega,by omega,by omega,by omega,hu,(by repeat' first|apply And.intro|exact rfl|exact True.intro)⟩
  ·rw[if_neg (fun hn=>by rw[(pair_ne _ _).2 hn]at e2;cases e2)]at hg
   rw[wi ((j:Int)-1) (by omega) (by omega)]
   exact⟨⟨j,rfl,by omega,hg⟩,by(first|omega|(dsimp only;omega))⟩
 ·have e:¬0<=(k:Int)-1:=of_decide_eq_false e
  obtain rfl:k=0:=by omega
  have hg:none=wrgGo O Q O.length:=hg
  rw[<-hg]at hG
  dsimp only at hG
  intro J kJ
  have j:∀b:Bool,(b=true↔(p1.wH<(ancS w2 Ac p2 p3.toNat).length/\p1.wH<w3.length))->J b:=fun b hb=>kJ b ⟨fun e=>by
    rw[if_pos (hb.1 e)]at hG
    subst hG
    have:=(hb.1 e).2
    exact⟨h0,this,(by repeat' first|apply And.intro|exact rfl|exact True.intro)⟩,fun e=>by
    rw[if_neg (fun hh=>by rw[hb.2 hh]at e;cases e)]at hG
    subst hG
    exact(by repeat' first|apply And.intro|exact rfl|exact True.intro)⟩
  refine⟨fun e2=>j _ ?_,fun e2=>j _ ?_⟩
  ·have e2:=of_decide_eq_true e2
   simp[e2]
  ·have e2:=of_decide_eq_false e2
   simp[e2]
noncomputable def ket:Con TB.den:= .gp 50 [yqu,.sl yqu] [yqu] [] fun(p0:Int) (p1:List Int)=>(U64 p0/\Us p1/\p1.length<=1099511627776,(hashS p0 p1:Int),())
theorem k7a:ket.Ok Tryz.prog TB:=qrv Bs Tryz.func50 .no (kx.c c0) (Q:=∀(p0:Int) (p1:List Int),(U64 p0/\Us p1/\p1.length<=1099511627776)->∀r0:Int,hashS p0 p1=r0-> 
((18446744069414584321:Int)=18446744069414584321/\U64 p0/\Us p1/\p1.length<=1099511627776)/\(hashS p0 p1)=r0) (by kernel_rfl)<|by
 rintro p0 p1 h _ rfl
 exact⟨⟨rfl,h.1,h.2.1,h.2.2⟩,rfl⟩
noncomputable def kay:Con TB.den:= .gp 159 [yqu] [yqu] [] fun(p0:Int)=>(U64 p0,(acctS p0:Int),())
theorem kbq:kay.Ok Tryz.prog TB:=qrv Bs Tryz.func159 .no (k7a.c c0) (Q:=∀(p0:Int),(U64 p0)->∀r0:Int,acctS p0=r0-> 
(U64 (7:Int)/\Us [p0]/\[p0].length<=1099511627776)/\(hashS (7:Int) [p0])=r0) (by kernel_rfl)<|by
 rintro p0 h _ rfl
 exact⟨⟨by decide,(by intro x hx;rw[List.mem_singleton]at hx;subst hx;exact h),by simp⟩,rfl⟩
noncomputable def k78:Con TB.den:= .gp 160 [.st 16] [yqu] [] fun(p0:wV)=>(p0.Ins.length<=9223372036854775807,(inS p0.Ins:Int),())
theorem k7o:k78.Ok Tryz.prog TB:=qrv Bs Tryz.func160 (.r 1 (.nd [] (.r 0 (.lp [] ⟨[],[],[3,9],[.one (zqu),.one (zqi)],[]⟩ .no)) [] .no)) c0 (Q:=∀(p0:wV),(p0.Ins.length<=9223372036854775807)->∀r0:Int,inS p0.Ins=r0-> 
∃(I1:Int->Int->Prop) (M1:Int->Int->Nat),I1 0 0/\∀(b1 f1:Int),(I1 b1 f1->
(decide (f1<(p0.Ins.length:Int))=true->
(0<=f1)/\f1<(p0.Ins.length:Int)/\let v1:Int:=u64.wrap (b1+((ix p0.Ins f1).wZ))
I1 v1 (i64.wrap (f1+1))/\M1 v1 (i64.wrap (f1+1))<M1 b1 f1)/\
(decide (f1<(p0.Ins.length:Int))=false->
b1=r0))) (by kernel_rfl)<|by
 rintro p0 h _ rfl
 refine(⟨(fun s i=>FoldI (fun s x=>(s+x.wZ)%18446744073709551616) 0 p0.Ins i s),(fun s i=>(p0.Ins.length-i).toNat),FoldI.start,?_⟩)
 intro s i hi
 refine⟨fun hh=> ?_,fun hh=>hi.done (of_decide_eq_false hh)⟩
 have hh:=of_decide_eq_true hh
 exact⟨hi.1,hh,hi.next hh (by omega) (by rw[u64w])⟩
noncomputable def k6d:Con TB.den:= .gp 109 [.st 16] [yqu] [] fun(p0:wV)=>(p0.wB.length<=9223372036854775807,(outS p0.wB:Int),())
theorem k2n:k6d.Ok Tryz.prog TB:=qrv Bs Tryz.func109 (.r 1 (.nd [] (.r 0 (.lp [] ⟨[],[],[3,9],[.one (zqu),.one (zqi)],[]⟩ .no)) [] .no)) c0 (Q:=∀(p0:wV),(p0.wB.length<=9223372036854775807)->∀r0:Int,outS p0.wB=r0-> 
∃(I1:Int->Int->Prop) (M1:Int->Int->Nat),I1 0 0/\∀(b1 f1:Int),(I1 b1 f1->
(decide (f1<(p0.wB.length:Int))=true->
(0<=f1)/\f1<(p0.wB.length:Int)/\let v1:Int:=u64.wrap (b1+((ix p0.wB f1).Value))
I1 v1 (i64.wrap (f1+1))/\M1 v1 (i64.wrap (f1+1))<M1 b1 f1)/\
(decide (f1<(p0.wB.length:Int))=false->
b1=r0))) (by kernel_rfl)<|by
 rintro p0 h _ rfl
 refine(⟨(fun s i=>FoldI (fun s x=>(s+x.Value)%18446744073709551616) 0 p0.wB i s),(fun s i=>(p0.wB.length-i).toNat),FoldI.start,?_⟩)
 intro s i hi
 refine⟨fun hh=> ?_,fun hh=>hi.done (of_decide_eq_false hh)⟩
 have hh:=of_decide_eq_true hh
 exact⟨hi.1,hh,hi.next hh (by omega) (by rw[u64w])⟩
noncomputable def k50:Con TB.den:= .gp 196 [.sl yqu] [.bool] [] fun(p0:List Int)=>(p0.length<=9223372036854775807,(allB p0:Bool),())
theorem k2k:k50.Ok Tryz.prog TB:=qrv Bs Tryz.func196 (.r 0 (.nd [] (.r 0 (.lp [] ⟨[],[],[7],[.one (zqi)],[]⟩ .no)) [] .no)) c0 (Q:=∀(p0:List Int),(p0.length<=9223372036854775807)->∀r0:Bool,allB p0=r0-> 
∃(I1:Int->Prop) (M1:Int->Nat),I1 0/\∀(b1:Int),(I1 b1->
(decide (b1<(p0.length:Int))=true->
(0<=b1)/\b1<(p0.length:Int)/\let v1:Bool:=decide (18446744069414584321<=(ix p0 b1))
(v1=true->
false=r0)/\
(v1=false->
I1 (i64.wrap (b1+1))/\M1 (i64.wrap (b1+1))<M1 b1))/\
(decide (b1<(p0.length:Int))=false->
true=r0))) (by kernel_rfl)<|by
 rintro p0 h _ rfl
 refine(⟨(AllI (fun x=>decide (x<18446744069414584321)) p0),(fun i=>(p0.length-i).toNat),AllI.start,?_⟩)
 intro i hi
 refine⟨fun hh=> ?_,fun hh=>(hi.done (of_decide_eq_false hh)).symm⟩
 have hh:=of_decide_eq_true hh
 exact⟨hi.1,hh,fun e=>(hi.bad hh (by simpa using e)).symm,fun e=>hi.next hh (by omega) (by simpa using e)⟩
noncomputable def k81:Con TB.den:= .gp 198 [.sl (.st 13)] [.bool] [] fun(p0:List wM)=>(p0.length<=9223372036854775807,(p0.all noteV:Bool),())
theorem k91:k81.Ok Tryz.prog TB:=qrv Bs Tryz.func198 (.r 0 (.nd [] (.r 0 (.lp [] ⟨[],[],[7],[.one (zqi)],[]⟩ .no)) [] .no)) (k3c.c c0) (Q:=∀(p0:List wM),(p0.length<=9223372036854775807)->∀r0:Bool,p0.all noteV=r0-> 
∃(I1:Int->Prop) (M1:Int->Nat),I1 0/\∀(b1:Int),(I1 b1->
(decide (b1<(p0.length:Int))=true->
(0<=b1)/\b1<(p0.length:Int)/\((!(noteV (ix p0 b1)))=true->
false=r0)/\
((!(noteV (ix p0 b1)))=false->
I1 (i64.wrap (b1+1))/\M1 (i64.wrap (b1+1))<M1 b1))/\
(decide (b1<(p0.length:Int))=false->
true=r0))) (by kernel_rfl)<|by
 rintro p0 h _ rfl
 refine(⟨(AllI noteV p0),(fun i=>(p0.length-i).toNat),AllI.start,?_⟩)
 intro i hi
 refine⟨fun hh=> ?_,fun hh=>(hi.done (of_decide_eq_false hh)).symm⟩
 have hh:=of_decide_eq_true hh
 exact⟨hi.1,hh,fun e=>(hi.bad hh (by simpa using e)).symm,fun e=>hi.next hh (by omega) (by simpa using e)⟩
noncomputable def k4u:Con TB.den:= .gp 197 [.st 11] [.bool] [] fun(p0:wK)=>(p0.wn.length<=9223372036854775807,(spendV p0:Bool),())
theorem k53:k4u.Ok Tryz.prog TB:=qrv Bs Tryz.func197 .no (k3c.c (k2k.c c0)) (Q:=∀(p0:wK),(p0.wn.length<=9223372036854775807)->∀r0:Bool,spendV p0=r0-> 
let r1:Bool:=(noteV (wM.mk p0.wZ p0.wAD p0.wAG p0.wAQ))
(r1=true->
([p0.Key].length<=9223372036854775807)/\((allB [p0.Key])=true->
(decide (0<=p0.wAY)=true->
(decide (p0.wAY<4)=true->
(decide (0<=p0.wH)=true->
(decide (p0.wH<=4095)=true->
(decide ((p0.wn.length:Int)<=12)=true->
(p0.wn.length<=9223372036854775807)/\(allB p0.wn)=r0)/\
(decide ((p0.wn.length:Int)<=12)=false->
false=r0))/\
(decide (p0.wH<=4095)=false->
false=r0))/\
(decide (0<=p0.wH)=false->
false=r0))/\
(decide (p0.wAY<4)=false->
false=r0))/\
(decide (0<=p0.wAY)=false->
false=r0))/\
((allB [p0.Key])=false->
false=r0))/\
(r1=false->
false=r0)) (by kernel_rfl)<|by
 rintro p0 h _ rfl
 have e1:allB [p0.Key]=decide (p0.Key<18446744069414584321):=by simp[allB]
 have e2:(decide ((p0.wn.length:Int)<=12))=decide (p0.wn.length<=12):=by congr 1;apply propext;omega
 refine ?_
 simp only[e1,e2]
 unfold spendV noteOf
 have:[p0.Key].length<=9223372036854775807:=by simp
 grind
noncomputable def k7y:Con TB.den:= .gp 156 [.st 17,.st 16] [.bool] [] fun(p0:wx) (p1:wV)=>(SR p0/\WR p1,(relV p0 p1:Bool),())
theorem k90:k7y.Ok Tryz.prog TB:=qrv Bs Tryz.func156 (.r 5 (.nd [] (.r 0 (.lp [] ⟨[],[],[95],[.one (zqi)],[]⟩ .no)) [] .no)) (k2k.c (k53.c (k91.c c0))) (Q:=∀(p0:wx) (p1:wV),(SR p0/\WR p1)->∀r0:Bool,relV p0 p1=r0-> 
(decide (p0.wC<1)=true->
false=r0)/\
(decide (p0.wC<1)=false->
(decide (12<p0.wC)=true->
false=r0)/\
(decide (12<p0.wC)=false->
([p0.wW,p0.wP,p0.wAw,p1.wAN].length<=9223372036854775807)/\let r1:Bool:=(allB [p0.wW,p0.wP,p0.wAw,p1.wAN])
((!r1)=true->
false=r0)/\
((!r1)=false->
(decide (4294967295<p0.wI)=true->
false=r0)/\
(decide (4294967295<p0.wI)=false->
(decide (4294967295<p0.wL)=true->
false=r0)/\
(decide (4294967295<p0.wL)=false->
(decide (4294967295<p0.Fee)=true->
false=r0)/\
(decide (4294967295<p0.Fee)=false->
(p0.wG.length<=9223372036854775807)/\((!(allB p0.wG))=true->
false=r0)/\
((!(allB p0.wG))=false->
(p0.wj.length<=9223372036854775807)/\((!(allB p0.wj))=true->
false=r0)/\
((!(allB p0.wj))=false->
(p0.wAO.length<=9223372036854775807)/\((!(allB p0.wAO))=true->
false=r0)/\
((!(allB p0.wAO))=false->
let v2:Bool:=((p1.Ins.length:Int) !=(p0.wG.length:Int))
(v2=true->
false=r0)/\
(v2=false->
(decide (4<(p1.Ins.length:Int))=true->
false=r0)/\
(decide (4<(p1.Ins.length:Int))=false->
let v3:Bool:=((p1.wB.length:Int) !=(p0.wj.length:Int))
(v3=true->
false=r0)/\
(v3=false->
let v4:Bool:=((p1.wB.length:Int) !=(p0.wAO.length:Int))
(v4=true->
false=r0)/\
(v4=false->
(decide (4<(p1.wB.length:Int))=true->
false=r0)/\
(decide (4<(p1.wB.length:Int))=false->
∃(I1:Int->Prop) (M1:Int->Nat),I1 0/\∀(b1:Int),(I1 b1->
(decide (b1<(p1.Ins.length:Int))=true->
(0<=b1)/\b1<(p1.Ins.length:Int)/\((ix p1.Ins b1).wn.length<=9223372036854775807)/\((!(spendV (ix p1.Ins b1)))=true->
false=r0)/\
((!(spendV (ix p1.Ins b1)))=false->
let v5:Bool:=((((ix p1.Ins b1).wn).length:Int) !=p0.wC)
(v5=true->
false=r0)/\
(v5=false->
(0<=p0.wC)/\let v6:Bool:=decide ((ishl .i64 1 p0.wC)<=((ix p1.Ins b1).wH))
(v6=true->
false=r0)/\
(v6=false->
I1 (i64.wrap (b1+1))/\M1 (i64.wrap (b1+1))<M1 b1))))/\
(decide (b1<(p1.Ins.length:Int))=false->
(p1.wB.length<=9223372036854775807)/\(p1.wB.all noteV)=r0))))))))))))))))) (by kernel_rfl)<|by
 rintro p0 p1 h _ rfl
 obtain⟨hs,hw⟩:=h
 have l1:=hs.ml
 have l2:=hs.cl
 have l3:=hs.rl
 have l4:=hw.il
 have l5:=hw.ol
 have bad:∀b:Bool,(relV p0 p1=true->b=true)->b=false->false=relV p0 p1:=by
  intro b h hb
  cases hr:relV p0 p1 with
  |false=>rfl
  |true=>have:=h hr;rw[this]at hb;cases hb
 have hf:relV p0 p1=true↔(1<=p0.wC/\p0.wC<=12/\allB [p0.wW,p0.wP,p0.wAw,p1.wAN]=true/\p0.wI<=4294967295/\p0.wL<=4294967295/\p0.Fee<=4294967295/\allB p0.wG=true/\allB p0.wj=true/\allB p0.wAO=true/\p1.Ins.length=p0.wG.length/\p1.Ins.length<=4/\p1.wB.length=p0.wj.length/\p1.wB.length=p0.wAO.length/\p1.wB.length<=4/\p1.Ins.all (inV p0.wC)=true/\p1.wB.all noteV=true):=by
  unfold relV
  simp only[Bool.and_eq_true,decide_eq_true_eq,and_assoc]
 have no:¬(1<=p0.wC/\p0.wC<=12/\allB [p0.wW,p0.wP,p0.wAw,p1.wAN]=true/\p0.wI<=4294967295/\p0.wL<=4294967295/\p0.Fee<=4294967295/\allB p0.wG=true/\allB p0.wj=true/\allB p0.wAO=true/\p1.Ins.length=p0.wG.length/\p1.Ins.length<=4/\p1.wB.length=p0.wj.length/\p1.wB.length=p0.wAO.length/\p1.wB.length<=4/\p1.Ins.all (inV p0.wC)=true/\p1.wB.all noteV=true)->false=relV p0 p1:=by
  intro h
  cases hr:relV p0 p1 with
  |false=>rfl
  |true=>exact(h (hf.1 hr)).elim
 clear bad
 refine⟨fun h=>no fun a=> ?_,fun h1=>⟨fun h=>no fun a=> ?_,fun h2=>⟨by simp,fun h=>no fun a=> ?_,fun h3=>⟨fun h=>no fun a=> ?_,fun h4=>⟨fun h=>no fun a=> ?_,fun h5=>⟨fun h=>no fun a=> ?_,fun h6=>⟨by omega,fun h=>no fun a=> ?_,fun h7=>⟨by omega,fun h=>no fun a=> ?_,fun h8=>⟨by omega,fun h=>no fun a=> ?_,fun h9=>⟨fun h=>no fun a=> ?_,fun h10=>⟨fun h=>no fun a=> ?_,fun h11=>⟨fun h=>no fun a=> ?_,fun h12=>⟨fun h=>no fun a=> ?_,fun h13=>⟨fun h=>no fun a=> ?_,fun h14=> ?_⟩⟩⟩⟩⟩⟩⟩⟩⟩⟩⟩⟩⟩⟩
 ·have h:=of_decide_eq_true h;omega
 ·have h:=of_decide_eq_true h;omega
 ·rw[a.2.2.1]at h;cases h
 ·have h:=of_decide_eq_true h;omega
 ·have h:=of_decide_eq_true h;omega
 ·have h:=of_decide_eq_true h;omega
 ·rw[a.2.2.2.2.2.2.1]at h;cases h
 ·rw[a.2.2.2.2.2.2.2.1]at h;cases h
 ·rw[a.2.2.2.2.2.2.2.2.1]at h;cases h
 ·have h:¬(p1.Ins.length:Int)=p0.wG.length:=by simpa using h
  omega
 ·have h:=of_decide_eq_true h;omega
 ·have h:¬(p1.wB.length:Int)=p0.wj.length:=by simpa using h
  omega
 ·have h:¬(p1.wB.length:Int)=p0.wAO.length:=by simpa using h
  omega
 ·have h:=of_decide_eq_true h;omega
 have h1:=of_decide_eq_false h1
 have h2:=of_decide_eq_false h2
 have h3:allB [p0.wW,p0.wP,p0.wAw,p1.wAN]=true:=by simpa using h3
 have h4:=of_decide_eq_false h4
 have h5:=of_decide_eq_false h5
 have h6:=of_decide_eq_false h6
 have h7:allB p0.wG=true:=by simpa using h7
 have h8:allB p0.wj=true:=by simpa using h8
 have h9:allB p0.wAO=true:=by simpa using h9
 have h10:(p1.Ins.length:Int)=p0.wG.length:=by simpa using h10
 have h11:=of_decide_eq_false h11
 have h12:(p1.wB.length:Int)=p0.wj.length:=by simpa using h12
 have h13:(p1.wB.length:Int)=p0.wAO.length:=by simpa using h13
 have h14:=of_decide_eq_false h14
 have hd:ishl .i64 1 p0.wC=2^p0.wC.toNat:=by
  have h0:0<=p0.wC/\p0.wC<=12:=by omega
  obtain⟨d,hd⟩:=Int.eq_ofNat_of_zero_le h0.1
  rw[hd]at h0 ⊢
  have h0:d<=12:=by omega
  have key:∀d:Nat,d<=12->ishl .i64 1 (d:Int)=2^d:=by decide +kernel
  exact key d h0
 refine⟨(AllI (inV p0.wC) p1.Ins),(fun i=>(p1.Ins.length-i).toNat),AllI.start,?_⟩
 intro i hi
 refine⟨fun hh=> ?_,fun hh=> ?_⟩
 ·have hh:=of_decide_eq_true hh
  have hx:=hw.i _ (ix_mem p1.Ins i hi.1 hh)
  have nb:inV p0.wC (ix p1.Ins i)=false->false=relV p0 p1:=fun hb=>no fun a=>by
   rw[hi.bad hh hb]at a;exact absurd a.2.2.2.2.2.2.2.2.2.2.2.2.2.2.1 (by simp)
  refine⟨hi.1,hh,by have:=hx.pl;show(ix p1.Ins i).wn.length<=_;omega,fun e=>nb ?_,fun e=>⟨fun e2=>nb ?_,fun e2=>⟨by omega,fun e3=>nb ?_,fun e3=>hi.next hh (by omega) ?_⟩⟩⟩
  ·have e:spendV (ix p1.Ins i)=false:=by simpa using e
   simp[inV,e]
  ·have e2:¬((ix p1.Ins i).wn.length:Int)=p0.wC:=by simpa using e2
   simp[inV,e2]
  ·have e3:=of_decide_eq_true e3
   rw[hd]at e3
   simp only[inV,Bool.and_eq_false_iff,decide_eq_false_iff_not]
   right;omega
  ·have e:spendV (ix p1.Ins i)=true:=by simpa using e
   have e2:((ix p1.Ins i).wn.length:Int)=p0.wC:=by simpa using e2
   have e3:=of_decide_eq_false e3
   rw[hd]at e3
   simp only[inV,e,Bool.true_and,Bool.and_eq_true,decide_eq_true_eq]
   exact⟨e2,by(first|omega|(dsimp only;omega))⟩
 ·have ha:=hi.done (of_decide_eq_false hh)
  refine⟨by omega,?_⟩
  cases hn:p1.wB.all noteV with
  |false=>exact no fun a=>by rw[hn]at a;exact absurd a.2.2.2.2.2.2.2.2.2.2.2.2.2.2.2 (by simp)
  |true=>exact(hf.2 ⟨by omega,by omega,h3,by omega,by omega,by omega,h7,h8,h9,by omega,by omega,by omega,by omega,by omega,ha,hn⟩).symm
noncomputable def k86:Con TB.den:= .gp 199 [yqu,yqi,.sl yqu] [yqu] [] fun(p0 p1:Int) (p2:List Int)=>(U64 p0/\Us p2/\p2.length<=1073741824/\p1<=9223372036854775807,(climbS p0 p1 p2:Int),())
theorem k97:k86.Ok Tryz.prog TB:=qrv Bs Tryz.func199 (.r 1 (.nd [] (.r 0 (.lp [] ⟨[],[],[32],[.one (zqi)],[]⟩ .no)) [] (.r 0 (.nd [] (.r 0 (.lp [] ⟨[],[],[9,42],[.one (zqu),.one (zqi)],[]⟩ .no)) [] .no)))) (k1l.c c0) (Q:=∀(p0 p1:Int) (p2:List Int),(U64 p0/\Us p2/\p2.length<=1073741824/\p1<=9223372036854775807)->∀r0:Int,climbS p0 p1 p2=r0-> 
(decide (12<(p2.length:Int))=true->
0=r0)/\
(decide (12<(p2.length:Int))=false->
(decide (p1<0)=true->
0=r0)/\
(decide (p1<0)=false->
(0<=(p2.length:Int))/\let v1:Bool:=decide ((ishl .i64 1 (p2.length:Int))<=p1)
(v1=true->
0=r0)/\
(v1=false->
(decide (18446744069414584321<=p0)=true->
0=r0)/\
(decide (18446744069414584321<=p0)=false->
∃(I1:Int->Prop) (M1:Int->Nat),I1 0/\∀(b1:Int),(I1 b1->
(decide (b1<(p2.length:Int))=true->
(0<=b1)/\b1<(p2.length:Int)/\let v2:Bool:=decide (18446744069414584321<=(ix p2 b1))
(v2=true->
0=r0)/\
(v2=false->
I1 (i64.wrap (b1+1))/\M1 (i64.wrap (b1+1))<M1 b1))/\
(decide (b1<(p2.length:Int))=false->
∃(I2:Int->Int->Prop) (M2:Int->Int->Nat),I2 p0 0/\∀(f1 i1:Int),(I2 f1 i1->
(decide (i1<(p2.length:Int))=true->
(0<=i1)/\i1<(p2.length:Int)/\(0<=i1)/\(((iand .i64 (ishr .i64 p1 i1) 1)==0)=true->
(U64 f1/\U64 (ix p2 i1))/\I2 (hashS 6 [f1,(ix p2 i1)]) (i64.wrap (i1+1))/\M2 (hashS 6 [f1,(ix p2 i1)]) (i64.wrap (i1+1))<M2 f1 i1)/\
(((iand .i64 (ishr .i64 p1 i1) 1)==0)=false->
(U64 (ix p2 i1)/\U64 f1)/\I2 (hashS 6 [(ix p2 i1),f1]) (i64.wrap (i1+1))/\M2 (hashS 6 [(ix p2 i1),f1]) (i64.wrap (i1+1))<M2 f1 i1))/\
(decide (i1<(p2.length:Int))=false->
f1=r0))))))))) (by kernel_rfl)<|by
 rintro p0 p1 p2 h _ rfl
 obtain⟨h0,h2,h3,h4⟩:=h
 have sh:∀d:Nat,d<=12->ishl .i64 1 (d:Int)=2^d:=by decide +kernel
 refine⟨fun e=> ?_,fun e=>⟨fun e2=> ?_,fun e2=>⟨by omega,fun e3=> ?_,fun e3=>⟨fun e4=> ?_,fun e4=> ?_⟩⟩⟩⟩
 ·have e:=of_decide_eq_true e
  unfold climbS
  rw[if_neg (by omega)]
 ·have e2:=of_decide_eq_true e2
  unfold climbS
  rw[if_neg (by omega)]
 ·have e:=of_decide_eq_false e
  have e3:=of_decide_eq_true e3
  rw[sh _ (by omega)]at e3
  unfold climbS
  rw[if_neg (fun a=>by have:=a.2.2.1;omega)]
 ·have e4:=of_decide_eq_true e4
  unfold climbS
  rw[if_neg (by omega)]
 have e:=of_decide_eq_false e
 have e2:=of_decide_eq_false e2
 have e3:=of_decide_eq_false e3
 have e4:=of_decide_eq_false e4
 rw[sh _ (by omega)]at e3
 refine⟨(AllI (fun x=>decide (x<18446744069414584321)) p2),(fun i=>(p2.length-i).toNat),AllI.start,?_⟩
 intro i hi
 refine⟨fun hh=> ?_,fun hh=> ?_⟩
 ·have hh:=of_decide_eq_true hh
  refine⟨hi.1,hh,fun e5=> ?_,fun e5=>hi.next hh (by omega) (by simpa using e5)⟩
  have hb:allB p2=false:=hi.bad hh (by simpa using e5)
  unfold climbS
  rw[if_neg (fun a=>by rw[hb]at a;exact absurd a.2.2.2.2 (by simp))]
 ·have ha:allB p2=true:=hi.done (of_decide_eq_false hh)
  have hc:climbS p0 p1 p2=climbL p0 p1 p2:=by
   unfold climbS
   rw[if_pos ⟨by omega,by omega,by omega,by omega,ha⟩]
  rw[hc]
  have hpos:p1<4096:=by
   have h1:(2:Int)^p2.length<=2^12:=by exact_mod_cast Nat.pow_le_pow_right (by omega) (by omega)
   omega
  refine⟨(fun d i=>0<=i/\i<=p2.length/\U64 d/\climbL d (p1/2^i.toNat) (p2.drop i.toNat)=climbL p0 p1 p2),(fun d i=>(p2.length-i).toNat),⟨by omega,by omega,h0,by simp⟩,?_⟩
  rintro d i ⟨g0,g1,g2,g3⟩
  refine⟨fun hh=> ?_,fun hh=> ?_⟩
  ·have hh:=of_decide_eq_true hh
   have hx:=h2 _ (ix_mem p2 i g0 hh)
   rw[drop_ix p2 i g0 hh]at g3
   have nx:=inc i p2.length g0 hh (by omega)
   have hq:p1/2^i.toNat/2=p1/2^(i+1).toNat:=by
    rw[show(i+1).toNat=i.toNat+1 by omega,Int.pow_succ,Int.ediv_ediv_of_nonneg (Int.le_of_lt (Int.pow_pos (by omega)))]
   have hbit:iand .i64 (ishr .i64 p1 i) 1=p1/2^i.toNat%2:=by
    have hs:ishr .i64 p1 i=p1/2^i.toNat:=by
     rw[k1n,show min i.toNat i64.bits=i.toNat from Nat.min_eq_left (by show i.toNat<=64;omega)]
     simp
    rw[hs]
    have hb0:0<=p1/2^i.toNat:=Int.ediv_nonneg (by omega) (Int.le_of_lt (Int.pow_pos (by omega)))
    have hb1:p1/2^i.toNat<=p1:=Int.ediv_le_self _ (by omega)
    exact k45 _ ⟨hb0,by(first|omega|(dsimp only;omega))⟩
   rw[hbit]
   have g3:climbL (if p1/2^i.toNat%2=0 then hashS 6 [d,ix p2 i]else hashS 6 [ix p2 i,d]) (p1/2^i.toNat/2) (p2.drop (i+1).toNat)=climbL p0 p1 p2:=g3
   rw[hq]at g3
   refine⟨g0,hh,g0,fun hb=> ?_,fun hb=> ?_⟩
   ·have hb:p1/2^i.toNat%2=0:=by simpa using hb
    rw[if_pos hb]at g3
    rw[nx]
    exact⟨⟨g2,hx⟩,⟨by omega,by omega,kr _ _,g3⟩,by(first|omega|(dsimp only;omega))⟩
   ·have hb:¬p1/2^i.toNat%2=0:=by simpa using hb
    rw[if_neg hb]at g3
    rw[nx]
    exact⟨⟨hx,g2⟩,⟨by omega,by omega,kr _ _,g3⟩,by(first|omega|(dsimp only;omega))⟩
  ·have hh:=of_decide_eq_false hh
   rw[List.drop_eq_nil_of_le (by omega)]at g3
   exact g3
noncomputable def k8x:Con TB.den:= .tp 80 [yqi] [.bool] [] fun(p0:Int)=>((decide (0<=p0)&&decide (p0<4):Bool),())
theorem k9t:k8x.Ok Tryz.prog TB:=qtv Bs Tryz.func80 .no c0 (Q:=∀(p0:Int),∀r0:Bool,(decide (0<=p0)&&decide (p0<4))=r0-> 
(decide (0<=p0)=true->
decide (p0<4)=r0)/\
(decide (0<=p0)=false->
false=r0)) (by kernel_rfl)<|by
 rintro p0 _ rfl
 refine ?_
 grind
noncomputable def kcz:Con TB.den:= .gp 52 [yqu,yqi] [yqu] [] fun(p0 p1:Int)=>(U64 p0/\-9223372036854775808<=p1/\p1<=9223372036854775807,(ownerS p0 p1:Int),())
theorem kfb:kcz.Ok Tryz.prog TB:=qrv Bs Tryz.func52 .no (k9t.c (k7a.c c0)) (Q:=∀(p0 p1:Int),(U64 p0/\-9223372036854775808<=p1/\p1<=9223372036854775807)->∀r0:Int,ownerS p0 p1=r0-> 
((!(decide (0<=p1)&&decide (p1<4)))=true->
0=r0)/\
((!(decide (0<=p1)&&decide (p1<4)))=false->
(U64 (1:Int)/\Us [p0,u64.wrap p1]/\[p0,u64.wrap p1].length<=1099511627776)/\let r1:Int:=(hashS (1:Int) [p0,u64.wrap p1])
r1=r0)) (by kernel_rfl)<|by
 rintro p0 p1 h _ rfl
 obtain⟨h0,h1,h2⟩:=h
 refine⟨fun e=> ?_,fun e=> ?_⟩
 ·unfold ownerS
  rw[if_neg (by simp at e;omega)]
 ·have e:0<=p1/\p1<4:=by simpa using e
  rw[wu p1 (by omega) (by omega)]
  refine⟨⟨by decide,?_,by simp⟩,?_⟩
  ·intro x hx
   simp only[List.mem_cons,List.not_mem_nil,or_false]at hx
   rcases hx with rfl|rfl
   ·exact h0
   ·omega
  ·unfold ownerS
   rw[if_pos e]
noncomputable def kbb:Con TB.den:= .g ⟨33,[.one (.ptr 0 0),.one (zqu),.one (zqu)],[.cells [.d (.bool),zqu,zqi,.d (.sl (.st 4)),.mp 1,.mp 2,.mp 3],.map (.str) yqi,.map (.str) (.sl yqu),.map (.str) (.bool)],(.tup [.one (zqu),.one (.d (.bool))]),[.cells [.d (.bool),zqu,zqi,.d (.sl (.st 4)),.mp 1,.mp 2,.mp 3],.map (.str) yqi,.map (.str) (.sl yqu),.map (.str) (.bool)],false⟩ [yqu,yqu,.bool,yqu,yqi,.sl (.st 4),.sl (.str),.sl yqi,.sl (.str),.sl (.sl yqu),.sl (.str),.sl (.bool)] [yqu,.bool,.bool,yqu,yqi,.sl (.st 4),.sl (.str),.sl yqi,.sl (.str),.sl (.sl yqu),.sl (.str),.sl (.bool)] [] fun(p1 p2:Int) (Aa:Bool) (Ab Ad:Int) (Ac:List wE) (w1k:List ByteArray) (w1v:List Int) (w2k:List ByteArray) (w2v:List (List Int)) (w3k:List ByteArray) (w3v:List Bool)=>(U64 p1/\U64 p2/\OrOk w1k w1v Ac,((markP (pk Aa Ac w1k w1v) p1 p2).getD 0:Int),((markP (pk Aa Ac w1k w1v) p1 p2).isSome:Bool),Aa,Ab,Ad,Ac,w1k,w1v,w2k,w2v,w3k,w3v,())
theorem kcu:kbb.Ok Tryz.prog TB:=prv Bs Tryz.func33 (.r 0 (.nd [] (.jn ⟨[],[],[13],[.one (.d (.bool))],[]⟩ [] .no [] .no) [] .no)) (k5c.c c0) (Q:=∀(p1 p2:Int) (Aa:Bool) (Ab Ad:Int) (Ac:List wE) (w1k:List ByteArray) (w1v:List Int) (w2k:List ByteArray) (w2v:List (List Int)) (w3k:List ByteArray) (w3v:List Bool),(U64 p1/\U64 p2/\OrOk w1k w1v Ac)->∀r0:Int,((markP (pk Aa Ac w1k w1v) p1 p2).getD 0)=r0->∀r1:Bool,((markP (pk Aa Ac w1k w1v) p1 p2).isSome)=r1->∀Ao:Bool,Aa=Ao->∀Am:Int,Ab=Am->∀Ap:Int,Ad=Ap->∀Aq:List wE,Ac=Aq->∀e1k:List ByteArray,w1k=e1k->∀e1v:List Int,w1v=e1v->∀e2k:List ByteArray,w2k=e2k->∀e2v:List (List Int),w2v=e2v->∀e3k:List ByteArray,w3k=e3k->∀e3v:List Bool,w3v=e3v-> 
∀J1:Bool->Prop,(∀(b1:Bool),
((b1=true->
0=r0/\false=r1/\Aa=Ao/\Ab=Am/\Ad=Ap/\Ac=Aq/\w1k=e1k/\w1v=e1v/\w2k=e2k/\w2v=e2v/\w3k=e3k/\w3v=e3v)/\
(b1=false->
(U64 (3:Int)/\Us [p1,p2]/\[p1,p2].length<=1073741824/\OrOk w1k w1v Ac)/\let r2:Int:=((pk Aa Ac w1k w1v (3:Int) [p1,p2]).getD 0)
let r3:Bool:=((pk Aa Ac w1k w1v (3:Int) [p1,p2]).isSome)
r2=r0/\r3=r1/\Aa=Ao/\Ab=Am/\Ad=Ap/\Ac=Aq/\w1k=e1k/\w1v=e1v/\w2k=e2k/\w2v=e2v/\w3k=e3k/\w3v=e3v))->J1 b1)->
(decide (18446744069414584321<=p1)=true->
J1 true)/\
(decide (18446744069414584321<=p1)=false->
J1 (decide (18446744069414584321<=p2)))) (by kernel_rfl)<|by
 rintro p1 p2 Aa Ab Ad Ac w1k w1v w2k w2v w3k w3v h _ rfl _ rfl _ rfl _ rfl _ rfl _ rfl _ rfl _ rfl _ rfl _ rfl _ rfl _ rfl
 obtain⟨h1,h2,ho⟩:=h
 intro J1 k1
 have j1:∀s:Bool,s=decide (¬(p1<18446744069414584321/\p2<18446744069414584321))->J1 s:=by
  intro s hs
  refine k1 _ ⟨fun e=> ?_,fun e=> ?_⟩
  ·rw[e]at hs
   have hs:=of_decide_eq_true hs.symm
   unfold markP
   rw[if_neg hs]
   exact(by repeat' first|apply And.intro|exact rfl|exact True.intro)
  ·rw[e]at hs
   have hs:p1<18446744069414584321/\p2<18446744069414584321:=by simpa using hs.symm
   unfold markP
   rw[if_pos hs]
   refine⟨⟨by decide,?_,by simp,ho⟩,(by repeat' first|apply And.intro|exact rfl|exact True.intro)⟩
   intro x hx
   simp only[List.mem_cons,List.not_mem_nil,or_false]at hx
   rcases hx with rfl|rfl
   ·exact h1
   ·exact h2
 refine⟨fun e=>j1 _ ?_,fun e=>j1 _ ?_⟩
 ·have e:=of_decide_eq_true e
  symm;apply decide_eq_true;omega
 ·have e:=of_decide_eq_false e
  congr 1;apply propext;omega
noncomputable def k6b:Con TB.den:= .g ⟨157,[.one (.ptr 0 0),.agg [zqi,zqu,zql,zql,zql,zqu,zqu,zqu,zqu,zqu],.agg [zqu,zqu,zqu,zqu,zqu,zqi,zqi,zql,.d (.bool)],.one (zqu)],[.cells [.d (.bool),zqu,zqi,.d (.sl (.st 4)),.mp 1,.mp 2,.mp 3],.map (.str) yqi,.map (.str) (.sl yqu),.map (.str) (.bool)],(.one (.one (zqi))),[.cells [.d (.bool),zqu,zqi,.d (.sl (.st 4)),.mp 1,.mp 2,.mp 3],.map (.str) yqi,.map (.str) (.sl yqu),.map (.str) (.bool)],false⟩ [.st 17,.st 11,yqu,.bool,yqu,yqi,.sl (.st 4),.sl (.str),.sl yqi,.sl (.str),.sl (.sl yqu),.sl (.str),.sl (.bool)] [yqi,.bool,yqu,yqi,.sl (.st 4),.sl (.str),.sl yqi,.sl (.str),.sl (.sl yqu),.sl (.str),.sl (.bool)] [] fun(p1:wx) (p2:wK) (p3:Int) (Aa:Bool) (Ab Ad:Int) (Ac:List wE) (w1k:List ByteArray) (w1v:List Int) (w2k:List ByteArray) (w2v:List (List Int)) (w3k:List ByteArray) (w3v:List Bool)=>(PR p2/\OrOk w1k w1v Ac/\(∀l a,(pk Aa Ac w1k w1v) l a=none∨∃n,(pk Aa Ac w1k w1v) l a=some n/\U64 n),(inE (pk Aa Ac w1k w1v) p1.wW p3 p2:Int),Aa,Ab,Ad,Ac,w1k,w1v,w2k,w2v,w3k,w3v,())
theorem k6x:k6b.Ok Tryz.prog TB:=prv Bs Tryz.func157 .no (kfb.c (kcu.c (k1u.c (k97.c c0)))) (Q:=∀(p1:wx) (p2:wK) (p3:Int) (Aa:Bool) (Ab Ad:Int) (Ac:List wE) (w1k:List ByteArray) (w1v:List Int) (w2k:List ByteArray) (w2v:List (List Int)) (w3k:List ByteArray) (w3v:List Bool),(PR p2/\OrOk w1k w1v Ac/\(∀l a,(pk Aa Ac w1k w1v) l a=none∨∃n,(pk Aa Ac w1k w1v) l a=some n/\U64 n))->∀r0:Int,(inE (pk Aa Ac w1k w1v) p1.wW p3 p2)=r0->∀Ao:Bool,Aa=Ao->∀Am:Int,Ab=Am->∀Ap:Int,Ad=Ap->∀Aq:List wE,Ac=Aq->∀e1k:List ByteArray,w1k=e1k->∀e1v:List Int,w1v=e1v->∀e2k:List ByteArray,w2k=e2k->∀e2v:List (List Int),w2v=e2v->∀e3k:List ByteArray,w3k=e3k->∀e3v:List Bool,w3v=e3v-> 
(U64 p2.Key/\-9223372036854775808<=p2.wAY/\p2.wAY<=9223372036854775807)/\let v1:Bool:=(p2.wAD !=(ownerS p2.Key p2.wAY))
(v1=true->
21=r0/\Aa=Ao/\Ab=Am/\Ad=Ap/\Ac=Aq/\w1k=e1k/\w1v=e1v/\w2k=e2k/\w2v=e2v/\w3k=e3k/\w3v=e3v)/\
(v1=false->
(U64 p2.Key/\U64 p2.wAG/\OrOk w1k w1v Ac)/\let r2:Int:=((markP (pk Aa Ac w1k w1v) p2.Key p2.wAG).getD 0)
let r3:Bool:=((markP (pk Aa Ac w1k w1v) p2.Key p2.wAG).isSome)
((!r3)=true->
12=r0/\Aa=Ao/\Ab=Am/\Ad=Ap/\Ac=Aq/\w1k=e1k/\w1v=e1v/\w2k=e2k/\w2v=e2v/\w3k=e3k/\w3v=e3v)/\
((!r3)=false->
((r2 !=p3)=true->
12=r0/\Aa=Ao/\Ab=Am/\Ad=Ap/\Ac=Aq/\w1k=e1k/\w1v=e1v/\w2k=e2k/\w2v=e2v/\w3k=e3k/\w3v=e3v)/\
((r2 !=p3)=false->
(p2.wAv=true->
((p2.wZ !=0)=true->
13=r0/\Aa=Ao/\Ab=Am/\Ad=Ap/\Ac=Aq/\w1k=e1k/\w1v=e1v/\w2k=e2k/\w2v=e2v/\w3k=e3k/\w3v=e3v)/\
((p2.wZ !=0)=false->
0=r0/\Aa=Ao/\Ab=Am/\Ad=Ap/\Ac=Aq/\w1k=e1k/\w1v=e1v/\w2k=e2k/\w2v=e2v/\w3k=e3k/\w3v=e3v))/\
(p2.wAv=false->
(NR (wM.mk p2.wZ p2.wAD p2.wAG p2.wAQ)/\OrOk w1k w1v Ac)/\let r4:Int:=((commP (pk Aa Ac w1k w1v) (wM.mk p2.wZ p2.wAD p2.wAG p2.wAQ)).getD 0)
let r5:Bool:=((commP (pk Aa Ac w1k w1v) (wM.mk p2.wZ p2.wAD p2.wAG p2.wAQ)).isSome)
((!r5)=true->
11=r0/\Aa=Ao/\Ab=Am/\Ad=Ap/\Ac=Aq/\w1k=e1k/\w1v=e1v/\w2k=e2k/\w2v=e2v/\w3k=e3k/\w3v=e3v)/\
((!r5)=false->
(U64 r4/\Us p2.wn/\p2.wn.length<=1073741824/\p2.wH<=9223372036854775807)/\let v6:Bool:=((climbS r4 p2.wH p2.wn) !=p1.wW)
(v6=true->
11=r0/\Aa=Ao/\Ab=Am/\Ad=Ap/\Ac=Aq/\w1k=e1k/\w1v=e1v/\w2k=e2k/\w2v=e2v/\w3k=e3k/\w3v=e3v)/\
(v6=false->
0=r0/\Aa=Ao/\Ab=Am/\Ad=Ap/\Ac=Aq/\w1k=e1k/\w1v=e1v/\w2k=e2k/\w2v=e2v/\w3k=e3k/\w3v=e3v))))))) (by kernel_rfl)<|by
 rintro p1 p2 p3 Aa Ab Ad Ac w1k w1v w2k w2v w3k w3v h _ rfl _ rfl _ rfl _ rfl _ rfl _ rfl _ rfl _ rfl _ rfl _ rfl _ rfl
 obtain⟨hp,ho,hu⟩:=h
 have hm:markP (pk Aa Ac w1k w1v) p2.Key p2.wAG=none∨∃n,markP (pk Aa Ac w1k w1v) p2.Key p2.wAG=some n/\U64 n:=by unfold markP;split;exact hu _ _;exact .inl rfl
 have hc:commP (pk Aa Ac w1k w1v) (noteOf p2)=none∨∃n,commP (pk Aa Ac w1k w1v) (noteOf p2)=some n/\U64 n:=by unfold commP;split;exact hu _ _;exact .inl rfl
 have hcu:U64 ((commP (pk Aa Ac w1k w1v) (noteOf p2)).getD 0):=by
  rcases hc with h|⟨n,h,hn⟩
  ·rw[h];decide
  ·rw[h];exact hn
 have en:noteOf p2=⟨p2.wZ,p2.wAD,p2.wAG,p2.wAQ⟩:=rfl
 refine⟨⟨hp.k,hp.nu.1,hp.nu.2⟩,?_⟩
 simp only[<-en]
 unfold inE
 refine⟨fun e=> ?_,fun e=>⟨⟨hp.k,hp.n.r,ho⟩,fun e2=> ?_,fun e2=>⟨fun e3=> ?_,fun e3=>⟨fun e4=>⟨fun e5=> ?_,fun e5=> ?_⟩,fun e4=>⟨⟨hp.n,ho⟩,fun e6=> ?_,fun e6=>⟨⟨hcu,hp.pa,hp.pl,hp.po.2⟩,fun e7=> ?_,fun e7=> ?_⟩⟩⟩⟩⟩⟩
 all_goals simp_all
noncomputable def k88:Con TB.den:= .g ⟨105,[.one (.ptr 0 0),.agg [zqi,zqu,zql,zql,zql,zqu,zqu,zqu,zqu,zqu],.agg [.d (.sl (.st 11)),.d (.sl (.st 13)),zqu]],[.cells [.d (.bool),zqu,zqi,.d (.sl (.st 4)),.mp 1,.mp 2,.mp 3],.map (.str) yqi,.map (.str) (.sl yqu),.map (.str) (.bool)],(.one (.one (zqi))),[.cells [.d (.bool),zqu,zqi,.d (.sl (.st 4)),.mp 1,.mp 2,.mp 3],.map (.str) yqi,.map (.str) (.sl yqu),.map (.str) (.bool)],false⟩ [.st 17,.st 16,.bool,yqu,yqi,.sl (.st 4),.sl (.str),.sl yqi,.sl (.str),.sl (.sl yqu),.sl (.str),.sl (.bool)] [yqi,.bool,yqu,yqi,.sl (.st 4),.sl (.str),.sl yqi,.sl (.str),.sl (.sl yqu),.sl (.str),.sl (.bool)] [] fun(p1:wx) (p2:wV) (Aa:Bool) (Ab Ad:Int) (Ac:List wE) (w1k:List ByteArray) (w1v:List Int) (w2k:List ByteArray) (w2v:List (List Int)) (w3k:List ByteArray) (w3v:List Bool)=>(SR p1/\WR p2/\OrOk w1k w1v Ac/\(∀l a,(pk Aa Ac w1k w1v) l a=none∨∃n,(pk Aa Ac w1k w1v) l a=some n/\U64 n),(checkS (pk Aa Ac w1k w1v) p1 p2:Int),Aa,Ab,Ad,Ac,w1k,w1v,w2k,w2v,w3k,w3v,())
theorem k8h:k88.Ok Tryz.prog TB:=prv Bs Tryz.func105 (.r 1 (.nd [] (.r 0 (.lp [] ⟨[3,2,1,0],[.map (.str) (.bool),.map (.str) (.sl yqu),.map (.str) yqi,.cells [.d (.bool),zqu,zqi,.d (.sl (.st 4)),.mp 2,.mp 1,.mp 0]],[21],[.one (zqi)],[]⟩ .no)) [] (.nd [] (.r 0 (.lp [] ⟨[3,2,1,0],[.map (.str) (.bool),.map (.str) (.sl yqu),.map (.str) yqi,.cells [.d (.bool),zqu,zqi,.d (.sl (.st 4)),.mp 2,.mp 1,.mp 0]],[42],[.one (zqi)],[]⟩ .no)) [] (.jn ⟨[],[],[],[],[]⟩ [] .no [] .no)))) (k90.c (k6x.c (k1u.c (kbq.c (k7o.c (k2n.c c0)))))) (Q:=∀(p1:wx) (p2:wV) (Aa:Bool) (Ab Ad:Int) (Ac:List wE) (w1k:List ByteArray) (w1v:List Int) (w2k:List ByteArray) (w2v:List (List Int)) (w3k:List ByteArray) (w3v:List Bool),(SR p1/\WR p2/\OrOk w1k w1v Ac/\(∀l a,(pk Aa Ac w1k w1v) l a=none∨∃n,(pk Aa Ac w1k w1v) l a=some n/\U64 n))->∀r0:Int,(checkS (pk Aa Ac w1k w1v) p1 p2)=r0->∀Ao:Bool,Aa=Ao->∀Am:Int,Ab=Am->∀Ap:Int,Ad=Ap->∀Aq:List wE,Ac=Aq->∀e1k:List ByteArray,w1k=e1k->∀e1v:List Int,w1v=e1v->∀e2k:List ByteArray,w2k=e2k->∀e2v:List (List Int),w2v=e2v->∀e3k:List ByteArray,w3k=e3k->∀e3v:List Bool,w3v=e3v-> 
(SR p1/\WR p2)/\((!(relV p1 p2))=true->
1=r0/\Aa=Ao/\Ab=Am/\Ad=Ap/\Ac=Aq/\w1k=e1k/\w1v=e1v/\w2k=e2k/\w2v=e2v/\w3k=e3k/\w3v=e3v)/\
((!(relV p1 p2))=false->
∃(I1:Int->Bool->Int->Int->(List wE)->(List ByteArray)->(List Bool)->(List ByteArray)->(List (List Int))->(List ByteArray)->(List Int)->Prop) (M1:Int->Bool->Int->Int->(List wE)->(List ByteArray)->(List Bool)->(List ByteArray)->(List (List Int))->(List ByteArray)->(List Int)->Nat),I1 0 Aa Ab Ad Ac w3k w3v w2k w2v w1k w1v/\∀(b1:Int) (f1:Bool) (i1 k1:Int) (l1:List wE) (m1:List ByteArray) (n1:List Bool) (o1:List ByteArray) (q1:List (List Int)) (s1:List ByteArray) (t1:List Int),(I1 b1 f1 i1 k1 l1 m1 n1 o1 q1 s1 t1->
(decide (b1<(p2.Ins.length:Int))=true->
(0<=b1)/\b1<(p2.Ins.length:Int)/\(0<=b1)/\b1<(p1.wG.length:Int)/\(PR (ix p2.Ins b1)/\OrOk s1 t1 l1/\(∀l a,(pk f1 l1 s1 t1) l a=none∨∃n,(pk f1 l1 s1 t1) l a=some n/\U64 n))/\let r1:Int:=(inE (pk f1 l1 s1 t1) p1.wW (ix p1.wG b1) (ix p2.Ins b1))
((r1 !=0)=true->
r1=r0/\f1=Ao/\i1=Am/\k1=Ap/\l1=Aq/\s1=e1k/\t1=e1v/\o1=e2k/\q1=e2v/\m1=e3k/\n1=e3v)/\
((r1 !=0)=false->
I1 (i64.wrap (b1+1)) f1 i1 k1 l1 m1 n1 o1 q1 s1 t1/\M1 (i64.wrap (b1+1)) f1 i1 k1 l1 m1 n1 o1 q1 s1 t1<M1 b1 f1 i1 k1 l1 m1 n1 o1 q1 s1 t1))/\
(decide (b1<(p2.Ins.length:Int))=false->
∃(I2:Int->Bool->Int->Int->(List wE)->(List ByteArray)->(List Bool)->(List ByteArray)->(List (List Int))->(List ByteArray)->(List Int)->Prop) (M2:Int->Bool->Int->Int->(List wE)->(List ByteArray)->(List Bool)->(List ByteArray)->(List (List Int))->(List ByteArray)->(List Int)->Nat),I2 0 f1 i1 k1 l1 m1 n1 o1 q1 s1 t1/\∀(u1:Int) (x1:Bool) (y1 b2:Int) (f2:List wE) (i2:List ByteArray) (k2:List Bool) (l2:List ByteArray) (m2:List (List Int)) (n2:List ByteArray) (o2:List Int),(I2 u1 x1 y1 b2 f2 i2 k2 l2 m2 n2 o2->
(decide (u1<(p2.wB.length:Int))=true->
(0<=u1)/\u1<(p2.wB.length:Int)/\(NR (ix p2.wB u1)/\OrOk n2 o2 f2)/\let r2:Int:=((commP (pk x1 f2 n2 o2) (ix p2.wB u1)).getD 0)
let r3:Bool:=((commP (pk x1 f2 n2 o2) (ix p2.wB u1)).isSome)
((!r3)=true->
1=r0/\x1=Ao/\y1=Am/\b2=Ap/\f2=Aq/\n2=e1k/\o2=e1v/\l2=e2k/\m2=e2v/\i2=e3k/\k2=e3v)/\
((!r3)=false->
(0<=u1)/\u1<(p1.wj.length:Int)/\((r2 !=(ix p1.wj u1))=true->
1=r0/\x1=Ao/\y1=Am/\b2=Ap/\f2=Aq/\n2=e1k/\o2=e1v/\l2=e2k/\m2=e2v/\i2=e3k/\k2=e3v)/\
((r2 !=(ix p1.wj u1))=false->
(0<=u1)/\u1<(p1.wAO.length:Int)/\let v4:Bool:=(((ix p2.wB u1).Rho) !=(ix p1.wAO u1))
(v4=true->
1=r0/\x1=Ao/\y1=Am/\b2=Ap/\f2=Aq/\n2=e1k/\o2=e1v/\l2=e2k/\m2=e2v/\i2=e3k/\k2=e3v)/\
(v4=false->
I2 (i64.wrap (u1+1)) x1 y1 b2 f2 i2 k2 l2 m2 n2 o2/\M2 (i64.wrap (u1+1)) x1 y1 b2 f2 i2 k2 l2 m2 n2 o2<M2 u1 x1 y1 b2 f2 i2 k2 l2 m2 n2 o2))))/\
(decide (u1<(p2.wB.length:Int))=false->
∀J1:Prop,(((p2.Ins.length<=9223372036854775807)/\let v5:Int:=u64.wrap ((inS p2.Ins)+p1.wI)
(p2.wB.length<=9223372036854775807)/\let v6:Int:=u64.wrap ((outS p2.wB)+p1.wL)
((v5 !=(u64.wrap (v6+p1.Fee)))=true->
13=r0/\x1=Ao/\y1=Am/\b2=Ap/\f2=Aq/\n2=e1k/\o2=e1v/\l2=e2k/\m2=e2v/\i2=e3k/\k2=e3v)/\
((v5 !=(u64.wrap (v6+p1.Fee)))=false->
0=r0/\x1=Ao/\y1=Am/\b2=Ap/\f2=Aq/\n2=e1k/\o2=e1v/\l2=e2k/\m2=e2v/\i2=e3k/\k2=e3v))->J1)->
(decide (0<p1.wI)=true->
(U64 p2.wAN)/\((p1.wP !=(acctS p2.wAN))=true->
21=r0/\x1=Ao/\y1=Am/\b2=Ap/\f2=Aq/\n2=e1k/\o2=e1v/\l2=e2k/\m2=e2v/\i2=e3k/\k2=e3v)/\
((p1.wP !=(acctS p2.wAN))=false->
J1))/\
(decide (0<p1.wI)=false->
J1))))))) (by kernel_rfl)<|by
 rintro p1 p2 Aa Ab Ad Ac w1k w1v w2k w2v w3k w3v h _ rfl _ rfl _ rfl _ rfl _ rfl _ rfl _ rfl _ rfl _ rfl _ rfl _ rfl
 obtain⟨hs,hw,ho,hu⟩:=h
 refine⟨⟨hs,hw⟩,fun e=> ?_,fun e=> ?_⟩
 ·have e:relV p1 p2=false:=by simpa using e
  unfold checkS
  rw[if_pos e]
  (repeat' apply And.intro)<;>first|rfl|exact True.intro
 have e:relV p1 p2=true:=by simpa using e
 have hv:p2.Ins.length=p1.wG.length/\p2.wB.length=p1.wj.length/\p2.wB.length=p1.wAO.length:=by
  unfold relV at e
  simp only[Bool.and_eq_true,decide_eq_true_eq]at e
  exact⟨e.1.1.1.1.1.1.2,e.1.1.1.1.2,e.1.1.1.2⟩
 obtain⟨v1,v2,v3⟩:=hv
 have hil:=hw.il
 have hol:=hw.ol
 refine⟨(fun i z0 z1 z2 z3 z4 z5 z6 z7 z8 z9=>(Aa=z0/\Ab=z1/\Ad=z2/\Ac=z3/\w3k=z4/\w3v=z5/\w2k=z6/\w2v=z7/\w1k=z8/\w1v=z9)/\(0<=i/\i<=p2.Ins.length/\insE (pk Aa Ac w1k w1v) p1.wW (p2.Ins.drop i.toNat) (p1.wG.drop i.toNat)=insE (pk Aa Ac w1k w1v) p1.wW p2.Ins p1.wG)),(fun i _ _ _ _ _ _ _ _ _ _=>(p2.Ins.length-i).toNat),⟨⟨rfl,rfl,rfl,rfl,rfl,rfl,rfl,rfl,rfl,rfl⟩,by omega,by omega,rfl⟩,?_⟩
 rintro i _ _ _ _ _ _ _ _ _ _ ⟨⟨rfl,rfl,rfl,rfl,rfl,rfl,rfl,rfl,rfl,rfl⟩,g0,g1,g2⟩
 refine⟨fun hh=> ?_,fun hh=> ?_⟩
 ·have hh:=of_decide_eq_true hh
  have hp:=hw.i _ (ix_mem p2.Ins i g0 hh)
  have hd:=drop_ix p2.Ins i g0 hh
  have hd2:=drop_ix p1.wG i g0 (by omega)
  rw[hd,hd2]at g2
  have g2:(if inE (pk Aa Ac w1k w1v) p1.wW (ix p1.wG i) (ix p2.Ins i)≠0 then inE (pk Aa Ac w1k w1v) p1.wW (ix p1.wG i) (ix p2.Ins i)else insE (pk Aa Ac w1k w1v) p1.wW (p2.Ins.drop (i+1).toNat) (p1.wG.drop (i+1).toNat))=insE (pk Aa Ac w1k w1v) p1.wW p2.Ins p1.wG:=g2
  have nx:=inc i p2.Ins.length g0 hh (by omega)
  refine⟨g0,hh,g0,by omega,⟨hp,ho,hu⟩,?_⟩
  refine⟨fun e2=> ?_,fun e2=> ?_⟩
  ·have e2:inE (pk Aa Ac w1k w1v) p1.wW (ix p1.wG i) (ix p2.Ins i)≠0:=by simpa using e2
   rw[if_pos e2]at g2
   refine⟨?_,by(repeat' apply And.intro)<;>first|rfl|exact True.intro⟩
   have g2:_=insE (pk Aa Ac w1k w1v) p1.wW p2.Ins p1.wG:=g2
   unfold checkS
   rw[if_neg (by simp[e]),if_pos (by rw[<-g2];exact e2),<-g2]
  ·have e2:inE (pk Aa Ac w1k w1v) p1.wW (ix p1.wG i) (ix p2.Ins i)=0:=by simpa using e2
   rw[if_neg (by simp[e2])]at g2
   rw[nx]
   exact⟨⟨⟨rfl,rfl,rfl,rfl,rfl,rfl,rfl,rfl,rfl,rfl⟩,by omega,by omega,g2⟩,by(dsimp only;omega)⟩
 ·have hh:=of_decide_eq_false hh
  rw[List.drop_eq_nil_of_le (by omega)]at g2
  have g2:0=insE (pk Aa Ac w1k w1v) p1.wW p2.Ins p1.wG:=g2
  have hck:checkS (pk Aa Ac w1k w1v) p1 p2=if outsB (pk Aa Ac w1k w1v) p2.wB p1.wj p1.wAO=false then 1 else if 0<p1.wI/\p1.wP≠acctS p2.wAN then 21 else
    if(inS p2.Ins+p1.wI)%18446744073709551616≠((outS p2.wB+p1.wL)%18446744073709551616+p1.Fee)%18446744073709551616 then 13 else 0:=by
   conv=>lhs;unfold checkS
   rw[if_neg (by simp[e]),if_neg (by rw[<-g2];simp)]
  refine⟨(fun i z0 z1 z2 z3 z4 z5 z6 z7 z8 z9=>(Aa=z0/\Ab=z1/\Ad=z2/\Ac=z3/\w3k=z4/\w3v=z5/\w2k=z6/\w2v=z7/\w1k=z8/\w1v=z9)/\(0<=i/\i<=p2.wB.length/\outsB (pk Aa Ac w1k w1v) (p2.wB.drop i.toNat) (p1.wj.drop i.toNat) (p1.wAO.drop i.toNat)=outsB (pk Aa Ac w1k w1v) p2.wB p1.wj p1.wAO)),(fun i _ _ _ _ _ _ _ _ _ _=>(p2.wB.length-i).toNat),⟨⟨rfl,rfl,rfl,rfl,rfl,rfl,rfl,rfl,rfl,rfl⟩,by omega,by omega,rfl⟩,?_⟩
  rintro k _ _ _ _ _ _ _ _ _ _ ⟨⟨rfl,rfl,rfl,rfl,rfl,rfl,rfl,rfl,rfl,rfl⟩,k0,k1,k2⟩
  refine⟨fun hk=> ?_,fun hk=> ?_⟩
  ·have hk:=of_decide_eq_true hk
   have hp:=hw.o _ (ix_mem p2.wB k k0 hk)
   rw[drop_ix p2.wB k k0 hk,drop_ix p1.wj k k0 (by omega),drop_ix p1.wAO k k0 (by omega)]at k2
   have k2:(outB (pk Aa Ac w1k w1v) (ix p2.wB k) (ix p1.wj k) (ix p1.wAO k)&&outsB (pk Aa Ac w1k w1v) (p2.wB.drop (k+1).toNat) (p1.wj.drop (k+1).toNat) (p1.wAO.drop (k+1).toNat))=outsB (pk Aa Ac w1k w1v) p2.wB p1.wj p1.wAO:=k2
   have nx:=inc k p2.wB.length k0 hk (by omega)
   have bad:outB (pk Aa Ac w1k w1v) (ix p2.wB k) (ix p1.wj k) (ix p1.wAO k)=false->outsB (pk Aa Ac w1k w1v) p2.wB p1.wj p1.wAO=false:=fun hb=>by rw[hb]at k2;exact k2.symm
   refine⟨k0,hk,⟨hp,ho⟩,?_⟩
   refine⟨fun e3=> ?_,fun e3=>⟨k0,by omega,fun e4=> ?_,fun e4=>⟨k0,by omega,fun e5=> ?_,fun e5=> ?_⟩⟩⟩
   ·rw[hck,if_pos (bad (by unfold outB;rw[show(commP (pk Aa Ac w1k w1v) (ix p2.wB k)).isSome=false by simpa using e3];rfl))]
    (repeat' apply And.intro)<;>first|rfl|exact True.intro
   ·rw[hck,if_pos (bad (by
     have e4:¬(commP (pk Aa Ac w1k w1v) (ix p2.wB k)).getD 0=ix p1.wj k:=by simpa using e4
     simp[outB,e4]))]
    (repeat' apply And.intro)<;>first|rfl|exact True.intro
   ·rw[hck,if_pos (bad (by
     have e5:¬(ix p2.wB k).Rho=ix p1.wAO k:=by simpa using e5
     simp[outB,e5]))]
    (repeat' apply And.intro)<;>first|rfl|exact True.intro
   ·have e3:(commP (pk Aa Ac w1k w1v) (ix p2.wB k)).isSome=true:=by simpa using e3
    have e4:(commP (pk Aa Ac w1k w1v) (ix p2.wB k)).getD 0=ix p1.wj k:=by simpa using e4
    have e5:(ix p2.wB k).Rho=ix p1.wAO k:=by simpa using e5
    have hb:outB (pk Aa Ac w1k w1v) (ix p2.wB k) (ix p1.wj k) (ix p1.wAO k)=true:=by simp[outB,e3,e4,e5]
    rw[hb,Bool.true_and]at k2
    rw[nx]
    exact⟨⟨⟨rfl,rfl,rfl,rfl,rfl,rfl,rfl,rfl,rfl,rfl⟩,by omega,by omega,k2⟩,by(dsimp only;omega)⟩
  ·have hk:=of_decide_eq_false hk
   rw[List.drop_eq_nil_of_le (by omega)]at k2
   have k2:true=outsB (pk Aa Ac w1k w1v) p2.wB p1.wj p1.wAO:=k2
   intro J1 kJ
   have j1:(checkS (pk Aa Ac w1k w1v) p1 p2=if(inS p2.Ins+p1.wI)%18446744073709551616≠((outS p2.wB+p1.wL)%18446744073709551616+p1.Fee)%18446744073709551616 then 13 else 0)->J1:=by
    intro hr
    refine kJ ⟨by show p2.Ins.length<=_;omega,by show p2.wB.length<=_;omega,?_⟩
    simp only[u64w]
    refine⟨fun hb=> ?_,fun hb=> ?_⟩
    ·rw[hr,if_pos (by simpa using hb)]
     (repeat' apply And.intro)<;>first|rfl|exact True.intro
    ·rw[hr,if_neg (by simpa using hb)]
     (repeat' apply And.intro)<;>first|rfl|exact True.intro
   rw[<-k2,if_neg (by simp)]at hck
   refine⟨fun hd=>⟨hw.s,fun ha=> ?_,fun ha=>j1 ?_⟩,fun hd=>j1 ?_⟩
   ·have ha:¬p1.wP=acctS p2.wAN:=by simpa using ha
    rw[hck,if_pos ⟨of_decide_eq_true hd,ha⟩]
    (repeat' apply And.intro)<;>first|rfl|exact True.intro
   ·have ha:p1.wP=acctS p2.wAN:=by simpa using ha
    rw[hck,if_neg (fun h=>h.2 ha)]
   ·rw[hck,if_neg (fun h=>of_decide_eq_false hd h.1)]
noncomputable def khn:Con TB.den:= .gp 163 [yqu,yqi] [yqu] [] fun(p0 p1:Int)=>(U64 p0/\0<=p1/\p1<=9223372036854775807,(rhoS p0 p1:Int),())
theorem ki7:khn.Ok Tryz.prog TB:=qrv Bs Tryz.func163 .no (kx.c c0) (Q:=∀(p0 p1:Int),(U64 p0/\0<=p1/\p1<=9223372036854775807)->∀r0:Int,rhoS p0 p1=r0-> 
(decide (18446744069414584321<=p0)=true->
0=r0)/\
(decide (18446744069414584321<=p0)=false->
(decide (p1<0)=true->
0=r0)/\
(decide (p1<0)=false->
((18446744069414584321:Int)=18446744069414584321/\U64 (4:Int)/\Us [p0,u64.wrap p1]/\[p0,u64.wrap p1].length<=1099511627776)/\let r1:Int:=(hashS (4:Int) [p0,u64.wrap p1])
r1=r0))) (by kernel_rfl)<|by
 rintro p0 p1 h _ rfl
 obtain⟨h1,h2,h3⟩:=h
 refine ?_
 unfold rhoS
 rw[wu p1 h2 (by omega)]
 refine⟨fun e=> ?_,fun e=>⟨fun e2=> ?_,fun e2=> ?_⟩⟩
 ·have e:=of_decide_eq_true e
  rw[if_neg (by omega)]
 ·have e2:=of_decide_eq_true e2;omega
 ·have e:=of_decide_eq_false e
  rw[if_pos (by omega)]
  refine⟨⟨rfl,by omega,?_,by simp⟩,rfl⟩
  intro x hx
  simp only[List.mem_cons,List.not_mem_nil,or_false]at hx
  rcases hx with rfl|rfl
  ·exact h1
  ·omega
noncomputable def kc6:Con TB.den:= .gp 227 [.sl yqb] [.sl yqu] [] fun(p0:List Int)=>(By p0/\p0.length<=1099511627776,(packS p0:List Int),())
theorem kct:kc6.Ok Tryz.prog TB:=qrv Bs Tryz.func227 (.r 2 (.nd [] (.r 0 (.lp [.frz 0 [3]] ⟨[1],[.tip yqu],[3,4],[.one (.own 0),.one (zqi)],[]⟩ (.r 0 (.nd [] (.r 1 (.nd [] (.r 0 (.lp [] ⟨[],[],[6,37],[.one (zqu),.one (zqi)],[]⟩ .no)) [] .no)) [] .no)))) [] .no)) c0 (Q:=∀(p0:List Int),(By p0/\p0.length<=1099511627776)->∀r0:List Int,packS p0=r0-> 
let v1:Int:=i64.wrap ((i64.wrap ((p0.length:Int)+7))-1)
let v2:Int:=i64.wrap (1+(i64.wrap (Int.tdiv v1 7)))
0<=(1:Int)/\(1:Int)<=v2/\(v2.toNat*8<=140737488355328)/\(v2.toNat<=maxLen)/\(0<=(0:Int)/\0<(1:Int))/\(0<=(0:Int)/\0<((List.replicate 1 (0:Int)).length:Int))/\(1=((List.replicate 1 (0:Int)).set (0:Int).toNat (u64.wrap (p0.length:Int))).length)/\((List.replicate 1 (0:Int)).set (0:Int).toNat (u64.wrap (p0.length:Int))=(List.replicate 1 (0:Int)).set (0:Int).toNat (u64.wrap (p0.length:Int)))/\∃(I1:Int->(List Int)->Prop) (M1:Int->(List Int)->Nat),I1 0 ((List.replicate 1 (0:Int)).set (0:Int).toNat (u64.wrap (p0.length:Int)))/\∀(b1:Int) (f1:List Int),(I1 b1 f1->
(decide (b1<(p0.length:Int))=true->
let v3:Int:=(if(p0.length:Int)<i64.wrap (b1+7)then(p0.length:Int)else i64.wrap (b1+7))
(0<=b1)/\b1<=v3/\v3<=(p0.length:Int)/\let v4:Int:=(((p0.take v3.toNat).drop b1.toNat).length:Int)
∃(I2:Int->Int->Prop) (M2:Int->Int->Nat),I2 0 0/\∀(i1 k1:Int),(I2 i1 k1->
(decide (k1<v4)=true->
(0<=k1)/\k1<(((p0.take v3.toNat).drop b1.toNat).length:Int)/\let v5:Int:=u64.wrap (ix ((p0.take v3.toNat).drop b1.toNat) k1)
(0<=i64.wrap (8*k1))/\let v6:Int:=ior .u64 i1 (ishl .u64 v5 (i64.wrap (8*k1)))
I2 v6 (i64.wrap (k1+1))/\M2 v6 (i64.wrap (k1+1))<M2 i1 k1)/\
(decide (k1<v4)=false->
f1.length=f1.length/\(f1.length+[i1].length)*8<=140737488355328/\f1.length+[i1].length<=maxLen/\(f1++[i1]=f1++[i1])/\I1 (i64.wrap (b1+7)) (f1++[i1])/\M1 (i64.wrap (b1+7)) (f1++[i1])<M1 b1 f1)))/\
(decide (b1<(p0.length:Int))=false->
f1=r0))) (by kernel_rfl)<|by
 rintro p0 h _ rfl
 obtain⟨hb,hl⟩:=h
 refine ?_
 rw[wi ((p0.length:Int)+7) (by omega) (by omega),wi ((p0.length:Int)+7-1) (by omega) (by omega)]
 try simp only[]
 rw[tdiv_nn _ _ (by omega),wi (((p0.length:Int)+7-1)/7) (by omega) (by omega),wi (1+((p0.length:Int)+7-1)/7) (by omega) (by omega),wu (p0.length:Int) (by omega) (by omega)]
 refine⟨by omega,by omega,by omega,by unfold maxLen;omega,by omega,⟨by omega,by decide⟩,by trivial,by trivial,?_⟩
 refine⟨(fun i g=>0<=i/\i<=p0.length+7/\g++packN p0.length (p0.drop i.toNat)=packS p0/\(g.length:Int)<=1+i),(fun i _=>(p0.length+7-i).toNat),⟨by omega,by omega,rfl,by show(1:Int)<=_;omega⟩,?_⟩
 rintro i g ⟨g0,g1,g2,g3⟩
 refine⟨fun h=> ?_,fun h=> ?_⟩
 ·have h:=of_decide_eq_true h
  have h7:i64.wrap (i+7)=i+7:=wi (i+7) (by omega) (by omega)
  rw[h7]
  have ev:((p0.take (if(p0.length:Int)<i+7 then(p0.length:Int)else i+7).toNat).drop i.toNat)=(p0.drop i.toNat).take 7:=by
   split
   ·rw[Int.toNat_natCast,List.take_length,List.take_of_length_le (by simp;omega)]
   ·rw[List.drop_take,show(i+7).toNat-i.toNat=7 by omega]
  simp only[ev]
  refine⟨g0,by split<;>omega,by split<;>omega,?_⟩
  have hpb:By ((p0.drop i.toNat).take 7):=(hb.drop _).take _
  have hpl:((p0.drop i.toNat).take 7).length<=7:=by simp;omega
  have hnext:g++[val ((p0.drop i.toNat).take 7)]++packN p0.length (p0.drop (i+7).toNat)=packS p0:=by
   rw[<-g2,List.append_assoc]
   congr 1
   have h5:(p0.drop i.toNat).length<=p0.length:=by simp
   have h6:=kji p0.length (p0.drop i.toNat) h5 (by intro h7;have:=congrArg List.length h7;simp at this;omega)
   rw[h6,List.drop_drop,show i.toNat+7=(i+7).toNat by omega]
   rfl
  generalize (p0.drop i.toNat).take 7=part at *
  refine⟨(fun n k=>0<=k/\k<=part.length/\n=val (part.take k.toNat)),(fun _ k=>(part.length-k).toNat),⟨by omega,by omega,rfl⟩,?_⟩
  rintro n k ⟨k0,k1,rfl⟩
  refine⟨fun hk=> ?_,fun hk=> ?_⟩
  ·have hk:=of_decide_eq_true hk
   have hx:=hpb _ (ix_mem part k k0 hk)
   have hlen:((part.take k.toNat).length:Int)=k:=by rw[List.length_take];omega
   rw[wi (8*k) (by omega) (by omega),wu (ix part k) (by omega) (by omega),wi (k+1) (by omega) (by omega)]
   have:=ior_val (part.take k.toNat) (ix part k) (hpb.take _) (by omega) hx
   rw[hlen]at this
   simp only[this]
   refine⟨k0,hk,by omega,⟨by omega,by omega,?_⟩,by(first|omega|(dsimp only;omega))⟩
   rw[kg part k k0 hk]
  ·have hk:=of_decide_eq_false hk
   have e1:part.take k.toNat=part:=List.take_of_length_le (by omega)
   rw[e1]
   refine⟨by trivial,by simp only[List.length_cons,List.length_nil];omega,by simp only[List.length_cons,List.length_nil];unfold maxLen;omega,by trivial,(?_:0<=i+7/\i+7<=p0.length+7/\_/\_),(?_:(p0.length+7-(i+7)).toNat<(p0.length+7-i).toNat)⟩
   ·exact⟨by omega,by omega,hnext,by simp only[List.length_append,List.length_cons,List.length_nil];omega⟩
   ·omega
 ·have h:=of_decide_eq_false h
  rw[List.drop_eq_nil_of_le (by omega)]at g2
  have:packN p0.length ([]:List Int)=[]:=by cases p0.length<;>rfl
  rw[this,List.append_nil]at g2
  exact g2
noncomputable def k64:Con TB.den:= .gp 202 [yqu,.sl yqb] [yqu] [] fun(p0:Int) (p1:List Int)=>(U64 p0/\By p1/\p1.length<=1099511627775,(hashB p0 p1:Int),())
theorem k70:k64.Ok Tryz.prog TB:=qrv Bs Tryz.func202 .no (kct.c (kx.c c0)) (Q:=∀(p0:Int) (p1:List Int),(U64 p0/\By p1/\p1.length<=1099511627775)->∀r0:Int,hashB p0 p1=r0-> 
(By p1/\p1.length<=1099511627776)/\((18446744069414584321:Int)=18446744069414584321/\U64 p0/\Us (packS p1)/\(packS p1).length<=1099511627776)/\(hashS p0 (packS p1))=r0) (by kernel_rfl)<|by
 rintro p0 p1 h _ rfl
 obtain⟨h1,h2,h3⟩:=h
 refine⟨⟨h2,by omega⟩,⟨rfl,h1,?_,?_⟩,rfl⟩
 ·intro x hx
  rcases List.mem_cons.1 hx with rfl|hx
  ·omega
  ·exact kh1 _ _ h2 x hx
 ·have:=k7t p1.length p1
  simp only[packS,List.length_cons]
  omega
noncomputable def k5d:Con TB.den:= .g ⟨237,[.one (.own 0),.one (zqu),.one (zqi)],[.tip yqb],(.one (.one (.own 0))),[.tip yqb],false⟩ [yqu,yqi,.sl yqb] [.sl yqb] [] fun(p1 p2:Int) (w0:List Int)=>(U64 p1/\(0<=p2/\p2<=8)/\w0.length<=137438953472,(w0++dig p2.toNat p1:List Int),())
theorem k1p:k5d.Ok Tryz.prog TB:=prv Bs Tryz.func237 (.r 0 (.nd [] (.r 0 (.lp [] ⟨[0],[.tip yqb],[0,1,8],[.one (.own 0),.one (zqu),.one (zqi)],[]⟩ .no)) [] .no)) c0 (Q:=∀(p1 p2:Int) (w0:List Int),(U64 p1/\(0<=p2/\p2<=8)/\w0.length<=137438953472)->∀e0:List Int,(w0++dig p2.toNat p1)=e0-> 
(w0=w0)/\∃(I1:Int->Int->(List Int)->Prop) (M1:Int->Int->(List Int)->Nat),I1 p1 0 w0/\∀(b1 f1:Int) (i1:List Int),(I1 b1 f1 i1->
(decide (f1<p2)=true->
i1.length=i1.length/\(i1.length+[IntKind.u8.wrap b1].length)*1<=140737488355328/\i1.length+[IntKind.u8.wrap b1].length<=maxLen/\(i1++[IntKind.u8.wrap b1]=i1++[IntKind.u8.wrap b1])/\I1 (ishr .u64 b1 8) (i64.wrap (f1+1)) (i1++[IntKind.u8.wrap b1])/\M1 (ishr .u64 b1 8) (i64.wrap (f1+1)) (i1++[IntKind.u8.wrap b1])<M1 b1 f1 i1)/\
(decide (f1<p2)=false->
(i1=i1)/\i1=e0))) (by kernel_rfl)<|by
 rintro p1 p2 w0 h _ rfl
 obtain⟨h1,h2,h3⟩:=h
 refine⟨rfl,⟨(fun n i g=>0<=i/\i<=p2/\U64 n/\n=p1/256^i.toNat/\g=w0++dig i.toNat p1),(fun _ i _=>(p2-i).toNat),⟨by omega,by omega,h1,by simp,by simp[dig]⟩,?_⟩⟩
 rintro n i g ⟨g0,g1,g2,g3,rfl⟩
 refine⟨fun h=> ?_,fun h=> ?_⟩
 ·have h:=of_decide_eq_true h
  rw[inc i p2 g0 h (by omega),ishr8,u8w]
  refine⟨rfl,?_,?_,rfl,⟨by omega,by omega,⟨by omega,by omega⟩,?_,?_⟩,by(dsimp only;omega)⟩
  ·simp;omega
  ·simp;unfold maxLen;omega
  ·rw[g3,show(i+1).toNat=i.toNat+1 by omega,Int.ediv_ediv_of_nonneg (Int.le_of_lt (k22 _)),Int.pow_succ]
  ·rw[show(i+1).toNat=i.toNat+1 by omega,kaj,List.append_assoc,g3]
 ·have h:=of_decide_eq_false h
  exact⟨rfl,by rw[show i=p2 by omega]⟩
noncomputable def k57:Con TB.den:= .g ⟨238,[.one (.own 0),.one (zqi)],[.tip yqb],(.one (.one (.own 0))),[.tip yqb],false⟩ [yqi,.sl yqb] [.sl yqb] [] fun(p1:Int) (w0:List Int)=>((-9223372036854775808<=p1/\p1<=9223372036854775807)/\w0.length<=137438953472,(w0++dig 4 (len4 p1):List Int),())
theorem k1q:k57.Ok Tryz.prog TB:=prv Bs Tryz.func238 (.r 0 (.jn ⟨[],[],[1],[.one (zqi)],[]⟩ [] .no [] .no)) (k1p.c c0) (Q:=∀(p1:Int) (w0:List Int),((-9223372036854775808<=p1/\p1<=9223372036854775807)/\w0.length<=137438953472)->∀e0:List Int,(w0++dig 4 (len4 p1))=e0-> 
∀J1:Int->Prop,(∀(b1:Int),
((w0=w0)/\(U64 (u64.wrap b1)/\(0<=(4:Int)/\(4:Int)<=8)/\w0.length<=137438953472)/\let r1:List Int:=(w0++dig (4:Int).toNat (u64.wrap b1))
(r1=r1)/\r1=e0)->J1 b1)->
(decide (p1<0)=true->
J1 0)/\
(decide (p1<0)=false->
(decide (4294967295<p1)=true->
J1 0)/\
(decide (4294967295<p1)=false->
J1 p1))) (by kernel_rfl)<|by
 rintro p1 w0 h _ rfl
 obtain⟨h1,h2⟩:=h
 intro J1 j1
 have j:∀n,0<=n->n<=4294967295->len4 p1=n->J1 n:=by
  intro n h0 h1 e
  refine j1 _ ?_
  rw[wu n (by omega) (by omega),e]
  exact⟨rfl,⟨⟨h0,by omega⟩,by omega,h2⟩,by trivial,rfl⟩
 refine⟨fun h=>j 0 (by omega) (by omega) ?_,fun h=>⟨fun h' =>j 0 (by omega) (by omega) ?_,fun h' =>j p1 ?_ ?_ ?_⟩⟩
 ·have h:=of_decide_eq_true h;exact if_pos (.inl h)
 ·have h' :=of_decide_eq_true h';exact if_pos (.inr h')
 ·have h:=of_decide_eq_false h;omega
 ·have h' :=of_decide_eq_false h';omega
 ·have h:=of_decide_eq_false h;have h' :=of_decide_eq_false h';exact len4_in ⟨by omega,by(first|omega|(dsimp only;omega))⟩
noncomputable def kbj:Con TB.den:= .g ⟨110,[.one (.d (.sl yqb)),.one (zqi)],[],(.one (.one (.own 0))),[.tip yqb],false⟩ [.sl yqb,yqi] [.sl yqb] [] fun(p0:List Int) (p1:Int)=>(0<=p1/\p0.length+p1<=140737488355328,p0,())
theorem k23:kbj.Ok Tryz.prog TB:=prv Bs Tryz.func110 (.r 3 (.rt [.frz 0 [4]])) c0 (Q:=∀(p0:List Int) (p1:Int),(0<=p1/\p0.length+p1<=140737488355328)->∀e0:List Int,p0=e0-> 
let v1:Int:=i64.wrap ((p0.length:Int)+p1)
0<=(p0.length:Int)/\(p0.length:Int)<=v1/\(v1.toNat*1<=140737488355328)/\(v1.toNat<=maxLen)/\(p0.length:Int).toNat=(List.replicate ((p0.length:Int).toNat) (0:Int)).length/\let v2:Int:=((min p0.length (List.replicate ((p0.length:Int).toNat) (0:Int)).length:Nat):Int)
((p0.length:Int).toNat=(rowOver (List.replicate ((p0.length:Int).toNat) (0:Int)) p0 (List.replicate ((p0.length:Int).toNat) (0:Int)).length).length)/\(rowOver (List.replicate ((p0.length:Int).toNat) (0:Int)) p0 (List.replicate ((p0.length:Int).toNat) (0:Int)).length=rowOver (List.replicate ((p0.length:Int).toNat) (0:Int)) p0 (List.replicate ((p0.length:Int).toNat) (0:Int)).length)/\rowOver (List.replicate ((p0.length:Int).toNat) (0:Int)) p0 (List.replicate ((p0.length:Int).toNat) (0:Int)).length=e0) (by kernel_rfl)<|by
 rintro p0 p1 h _ rfl
 obtain⟨h1,h2⟩:=h
 refine ?_
 rw[wi _ (by omega) (by omega)]
 have e:rowOver (List.replicate ((p0.length:Int).toNat) (0:Int)) p0 (List.replicate ((p0.length:Int).toNat) (0:Int)).length=p0:=k9j _ _ (by simp)
 simp only[e]
 exact⟨by omega,by omega,by omega,by unfold maxLen;omega,by simp,by omega,by trivial,by trivial⟩
noncomputable def kcw:Con TB.den:= .gp 231 [.sl yqb,.sl yqb] [.sl yqb] [] fun(p0 p1:List Int)=>(p0.length<=68719476736/\p1.length<=4294967295,(p0++encB p1:List Int),())
theorem kex:kcw.Ok Tryz.prog TB:=qrv Bs Tryz.func231 .no (k23.c (k1q.c c0)) (Q:=∀(p0 p1:List Int),(p0.length<=68719476736/\p1.length<=4294967295)->∀r0:List Int,(p0++encB p1)=r0-> 
(0<=(i64.wrap (4+(p1.length:Int)))/\p0.length+(i64.wrap (4+(p1.length:Int)))<=140737488355328)/\(p0=p0)/\((-9223372036854775808<=(p1.length:Int)/\(p1.length:Int)<=9223372036854775807)/\p0.length<=137438953472)/\(p0++dig 4 (len4 (p1.length:Int))).length=(p0++dig 4 (len4 (p1.length:Int))).length/\((p0++dig 4 (len4 (p1.length:Int))).length+p1.length)*1<=140737488355328/\(p0++dig 4 (len4 (p1.length:Int))).length+p1.length<=maxLen/\let v1:List Int:=(p0++dig 4 (len4 (p1.length:Int)))++p1
v1=r0) (by kernel_rfl)<|by
 rintro p0 p1 h _ rfl
 obtain⟨h1,h2⟩:=h
 refine ?_
 rw[wi (4+(p1.length:Int)) (by omega) (by omega)]
 refine⟨⟨by omega,by omega⟩,by trivial,⟨by omega,by omega⟩,by trivial,?_,?_,?_⟩
 ·simp;omega
 ·simp;unfold maxLen;omega
 ·rw[List.append_assoc];rfl
noncomputable def kfz:Con TB.den:= .gp 230 [.sl yqb,yqi] [.sl yqb] [] fun(p0:List Int) (p1:Int)=>((-9223372036854775808<=p1/\p1<=9223372036854775807)/\p0.length<=137438953472,(p0++dig 4 (len4 p1):List Int),())
theorem ki9:kfz.Ok Tryz.prog TB:=qrv Bs Tryz.func230 .no (k23.c (k1q.c c0)) (Q:=∀(p0:List Int) (p1:Int),((-9223372036854775808<=p1/\p1<=9223372036854775807)/\p0.length<=137438953472)->∀r0:List Int,(p0++dig 4 (len4 p1))=r0-> 
(0<=(4:Int)/\p0.length+(4:Int)<=140737488355328)/\(p0=p0)/\((-9223372036854775808<=p1/\p1<=9223372036854775807)/\p0.length<=137438953472)/\(p0++dig 4 (len4 p1))=r0) (by kernel_rfl)<|by
 rintro p0 p1 h _ rfl
 obtain⟨h1,h2⟩:=h
 exact⟨⟨by omega,by omega⟩,by trivial,⟨h1,h2⟩,rfl⟩
noncomputable def kf5:Con TB.den:= .gp 229 [.sl yqb,.sl yqu] [.sl yqb] [] fun(p0 p1:List Int)=>(Us p1/\p0.length<=68719476736/\p1.length<=4294967295,(p0++encL p1:List Int),())
theorem kfx:kf5.Ok Tryz.prog TB:=qrv Bs Tryz.func229 (.r 1 (.nd [] (.r 0 (.lp [] ⟨[0],[.tip yqb],[5,19],[.one (.own 0),.one (zqi)],[]⟩ .no)) [] .no)) (k23.c (k1q.c (k1p.c c0))) (Q:=∀(p0 p1:List Int),(Us p1/\p0.length<=68719476736/\p1.length<=4294967295)->∀r0:List Int,(p0++encL p1)=r0-> 
let v1:Int:=i64.wrap (4+(i64.wrap (8*(p1.length:Int))))
(0<=v1/\p0.length+v1<=140737488355328)/\(p0=p0)/\((-9223372036854775808<=(p1.length:Int)/\(p1.length:Int)<=9223372036854775807)/\p0.length<=137438953472)/\((p0++dig 4 (len4 (p1.length:Int)))=(p0++dig 4 (len4 (p1.length:Int))))/\∃(I1:Int->(List Int)->Prop) (M1:Int->(List Int)->Nat),I1 0 (p0++dig 4 (len4 (p1.length:Int)))/\∀(b1:Int) (f1:List Int),(I1 b1 f1->
(decide (b1<(p1.length:Int))=true->
(0<=b1)/\b1<(p1.length:Int)/\(f1=f1)/\(U64 (ix p1 b1)/\(0<=(8:Int)/\(8:Int)<=8)/\f1.length<=137438953472)/\((f1++dig (8:Int).toNat (ix p1 b1))=(f1++dig (8:Int).toNat (ix p1 b1)))/\I1 (i64.wrap (b1+1)) (f1++dig (8:Int).toNat (ix p1 b1))/\M1 (i64.wrap (b1+1)) (f1++dig (8:Int).toNat (ix p1 b1))<M1 b1 f1)/\
(decide (b1<(p1.length:Int))=false->
f1=r0))) (by kernel_rfl)<|by
 rintro p0 p1 h _ rfl
 obtain⟨h1,h2,h3⟩:=h
 refine ?_
 rw[wi (8*(p1.length:Int)) (by omega) (by omega),wi (4+8*(p1.length:Int)) (by omega) (by omega)]
 refine⟨⟨by omega,by omega⟩,by trivial,⟨by omega,by omega⟩,by trivial,?_⟩
 refine⟨(fun i g=>0<=i/\i<=p1.length/\g=p0++dig 4 (len4 p1.length)++(p1.take i.toNat).flatMap (dig 8)),(fun i _=>(p1.length-i).toNat),⟨by omega,by omega,by simp⟩,?_⟩
 rintro i g ⟨g0,g1,rfl⟩
 refine⟨fun h=> ?_,fun h=> ?_⟩
 ·have h:=of_decide_eq_true h
  have hx:=h1 _ (ix_mem p1 i g0 h)
  rw[inc i p1.length g0 h (by omega)]
  refine⟨g0,h,by trivial,⟨hx,by omega,?_⟩,by trivial,⟨by omega,by omega,?_⟩,by(dsimp only;omega)⟩
  ·simp only[List.length_append,ko,k3t,List.length_take];omega
  ·rw[kg p1 i g0 h,List.flatMap_append,List.append_assoc]
   simp
 ·have h:=of_decide_eq_false h
  rw[List.take_of_length_le (by omega),List.append_assoc]
  rfl
noncomputable def kfi:Con TB.den:= .gp 228 [.sl yqb,yqu] [.sl yqb] [] fun(p0:List Int) (p1:Int)=>(U64 p1/\p0.length<=137438953472,(p0++dig 8 p1:List Int),())
theorem kft:kfi.Ok Tryz.prog TB:=qrv Bs Tryz.func228 .no (k23.c (k1p.c c0)) (Q:=∀(p0:List Int) (p1:Int),(U64 p1/\p0.length<=137438953472)->∀r0:List Int,(p0++dig 8 p1)=r0-> 
(0<=(8:Int)/\p0.length+(8:Int)<=140737488355328)/\(p0=p0)/\(U64 p1/\(0<=(8:Int)/\(8:Int)<=8)/\p0.length<=137438953472)/\(p0++dig (8:Int).toNat p1)=r0) (by kernel_rfl)<|by
 rintro p0 p1 h _ rfl
 obtain⟨h1,h2⟩:=h
 refine⟨⟨by omega,by omega⟩,by trivial,⟨h1,by omega,h2⟩,rfl⟩
noncomputable def kfe:Con TB.den:= .gp 203 [.st 2,.sl yqb] [.sl yqb] [] fun(p0:wl) (p1:List Int)=>(TR p0/\TL p0/\p0.wB.length<=1048576/\(∀x∈p0.wB,x.wAA.length<=1024)/\p1.length<=4294967295,(encT p0 p1:List Int),())
theorem kgd:kfe.Ok Tryz.prog TB:=qrv Bs Tryz.func203 (.r 3 (.nd [] (.r 0 (.lp [] ⟨[],[],[5,23],[.one (.d (.sl yqb)),.one (zqi)],[]⟩ .no)) [] .no)) (kft.c (kfx.c (ki9.c (kex.c c0)))) (Q:=∀(p0:wl) (p1:List Int),(TR p0/\TL p0/\p0.wB.length<=1048576/\(∀x∈p0.wB,x.wAA.length<=1024)/\p1.length<=4294967295)->∀r0:List Int,encT p0 p1=r0-> 
(U64 p0.wW/\([]:List Int).length<=137438953472)/\(Us p0.wG/\(([]:List Int)++dig 8 p0.wW).length<=68719476736/\p0.wG.length<=4294967295)/\let r1:List Int:=((([]:List Int)++dig 8 p0.wW)++encL p0.wG)
((-9223372036854775808<=(p0.wB.length:Int)/\(p0.wB.length:Int)<=9223372036854775807)/\r1.length<=137438953472)/\let r2:List Int:=(r1++dig 4 (len4 (p0.wB.length:Int)))
∃(I1:(List Int)->Int->Prop) (M1:(List Int)->Int->Nat),I1 r2 0/\∀(b1:List Int) (f1:Int),(I1 b1 f1->
(decide (f1<(p0.wB.length:Int))=true->
(0<=f1)/\f1<(p0.wB.length:Int)/\(U64 ((ix p0.wB f1).wb)/\b1.length<=137438953472)/\(U64 ((ix p0.wB f1).wAc)/\(b1++dig 8 ((ix p0.wB f1).wb)).length<=137438953472)/\let r3:List Int:=((b1++dig 8 ((ix p0.wB f1).wb))++dig 8 ((ix p0.wB f1).wAc))
(U64 ((ix p0.wB f1).wAX)/\r3.length<=137438953472)/\(Us ((ix p0.wB f1).wAA)/\(r3++dig 8 ((ix p0.wB f1).wAX)).length<=68719476736/\((ix p0.wB f1).wAA).length<=4294967295)/\let r4:List Int:=((r3++dig 8 ((ix p0.wB f1).wAX))++encL ((ix p0.wB f1).wAA))
I1 r4 (i64.wrap (f1+1))/\M1 r4 (i64.wrap (f1+1))<M1 b1 f1)/\
(decide (f1<(p0.wB.length:Int))=false->
(U64 p0.wI/\b1.length<=137438953472)/\(U64 p0.wL/\(b1++dig 8 p0.wI).length<=137438953472)/\let r5:List Int:=((b1++dig 8 p0.wI)++dig 8 p0.wL)
(U64 p0.Fee/\r5.length<=137438953472)/\(U64 p0.wP/\(r5++dig 8 p0.Fee).length<=137438953472)/\let r6:List Int:=((r5++dig 8 p0.Fee)++dig 8 p0.wP)
(U64 p0.wX/\r6.length<=137438953472)/\((-9223372036854775808<=p0.wAZ/\p0.wAZ<=9223372036854775807)/\(r6++dig 8 p0.wX).length<=137438953472)/\let r7:List Int:=((r6++dig 8 p0.wX)++dig 4 (len4 p0.wAZ))
(r7.length<=68719476736/\p1.length<=4294967295)/\(r7++encB p1)=r0))) (by kernel_rfl)<|by
 rintro p0 p1 h _ rfl
 obtain⟨hr,hl,ho,hc,hp⟩:=h
 have hm:=hl.m
 have hol:=k2l
 refine⟨⟨hr.a,by simp⟩,⟨hr.m,by simp,hm⟩,⟨by omega,by simp;omega⟩,?_⟩
 refine⟨(fun b i=>0<=i/\i<=p0.wB.length/\b=dig 8 p0.wW++encL p0.wG++dig 4 (len4 p0.wB.length)++(p0.wB.take i.toNat).flatMap encO),(fun _ i=>(p0.wB.length-i).toNat),⟨by omega,by omega,by simp⟩,?_⟩
 rintro b i ⟨g0,g1,rfl⟩
 have hb:=k2l (p0.wB.take i.toNat) 1024 (fun x hx=>hc x (List.mem_of_mem_take hx))
 rw[List.length_take]at hb
 have hb:((p0.wB.take i.toNat).flatMap encO).length<=8700000000:=by
  refine Nat.le_trans hb ?_
  have:min i.toNat p0.wB.length<=1048576:=by omega
  have:=Nat.mul_le_mul_left (28+8*1024) this
  omega
 refine⟨fun h=> ?_,fun h=> ?_⟩
 ·have h:=of_decide_eq_true h
  have hx:=hr.o _ (ix_mem p0.wB i g0 h)
  have hxc:=hc _ (ix_mem p0.wB i g0 h)
  rw[inc i p0.wB.length g0 h (by omega)]
  refine⟨g0,h,⟨hx.c,?_⟩,⟨hx.p0,?_⟩,⟨hx.p1,?_⟩,⟨hx.ci,?_,by omega⟩,⟨by omega,by omega,?_⟩,by(dsimp only;omega)⟩
  ·simp only[List.length_append,ko,k1s];omega
  ·simp only[List.length_append,ko,k1s];omega
  ·simp only[List.length_append,ko,k1s];omega
  ·simp only[List.length_append,ko,k1s];omega
  ·rw[kg p0.wB i g0 h,List.flatMap_append]
   simp[encO,List.append_assoc]
 ·have h:=of_decide_eq_false h
  rw[List.take_of_length_le (by omega)]at hb ⊢
  refine⟨⟨hr.d,?_⟩,⟨hr.w,?_⟩,⟨hr.f,?_⟩,⟨hr.ac,?_⟩,⟨hr.n,?_⟩,⟨hr.e,?_⟩,⟨?_,hp⟩,rfl⟩<;>simp only[List.length_append,ko,k1s]<;>omega
noncomputable def kil:Con TB.den:= .gp 161 [.st 2] [yqu] [] fun(p0:wl)=>(TR p0,(bindS p0:Int),())
theorem kjo:kil.Ok Tryz.prog TB:=qrv Bs Tryz.func161 .no (k32.c (kgd.c (k70.c c0))) (Q:=∀(p0:wl),(TR p0)->∀r0:Int,bindS p0=r0-> 
(((validE p0) !=0)=true->
0=r0)/\
(((validE p0) !=0)=false->
(TR p0/\TL p0/\p0.wB.length<=1048576/\(∀x∈p0.wB,x.wAA.length<=1024)/\([]:List Int).length<=4294967295)/\(U64 (13:Int)/\By (encT p0 ([]:List Int))/\(encT p0 ([]:List Int)).length<=1099511627775)/\let r1:Int:=(hashB (13:Int) (encT p0 ([]:List Int)))
r1=r0)) (by kernel_rfl)<|by
 rintro p0 h _ rfl
 refine ?_
 unfold bindS
 refine⟨fun e=> ?_,fun e=> ?_⟩
 ·have e:validE p0≠0:=by simpa using e
  rw[if_neg e]
 ·have e:validE p0=0:=by simpa using e
  have v:=(k1r p0).1 e
  rw[if_pos e]
  refine⟨⟨h,v.tl,by have:=v.ol;omega,fun x hx=>by have:=(v.o x hx).l;omega,by simp⟩,⟨by omega,encT_by (by intro x hx;cases hx),?_⟩,rfl⟩
  have:=v.enc_len []
  simp at this ⊢
  omega
noncomputable def kcd:Con TB.den:= .gp 204 [.sl yqu,yqu,yqu] [yqu] [] fun(p0:List Int) (p1 p2:Int)=>(Us p0/\U64 p1/\U64 p2,((if p0=[]then(if p1<18446744069414584321/\p2<18446744069414584321 then hashS 5 [p1,p2]else 0)else if ix p0 0<18446744069414584321 then ix p0 0 else 0):Int),())
theorem kcq:kcd.Ok Tryz.prog TB:=qrv Bs Tryz.func204 .no (kx.c c0) (Q:=∀(p0:List Int) (p1 p2:Int),(Us p0/\U64 p1/\U64 p2)->∀r0:Int,((if p0=[]then(if p1<18446744069414584321/\p2<18446744069414584321 then hashS 5 [p1,p2]else 0)else if ix p0 0<18446744069414584321 then ix p0 0 else 0):Int)=r0-> 
(decide (0<(p0.length:Int))=true->
0<(p0.length:Int)/\let v1:Bool:=decide (18446744069414584321<=(ix p0 0))
(v1=true->
0=r0)/\
(v1=false->
0<(p0.length:Int)/\ix p0 0=r0))/\
(decide (0<(p0.length:Int))=false->
(decide (18446744069414584321<=p1)=true->
0=r0)/\
(decide (18446744069414584321<=p1)=false->
(decide (18446744069414584321<=p2)=true->
0=r0)/\
(decide (18446744069414584321<=p2)=false->
((18446744069414584321:Int)=18446744069414584321/\U64 (5:Int)/\Us [p1,p2]/\[p1,p2].length<=1099511627776)/\(hashS (5:Int) [p1,p2])=r0)))) (by kernel_rfl)<|by
 rintro p0 p1 p2 h _ rfl
 obtain⟨h1,h2,h3⟩:=h
 refine⟨fun h=> ?_,fun h=> ?_⟩
 ·have h:=of_decide_eq_true h
  rw[if_neg (by rintro rfl;simp at h)]
  exact⟨h,fun e=>(by rw[if_neg (by have:=of_decide_eq_true e;omega)]),fun e=>⟨h,(by rw[if_pos (by have:=of_decide_eq_false e;omega)])⟩⟩
 ·have h:=of_decide_eq_false h
  have h:p0=[]:=List.length_eq_zero_iff.1 (by omega)
  rw[if_pos h]
  refine⟨fun e=>(by rw[if_neg (by have:=of_decide_eq_true e;omega)]),fun e=>⟨fun e2=>(by rw[if_neg (by have:=of_decide_eq_true e2;omega)]),fun e2=> ?_⟩⟩
  rw[if_pos (by have:=of_decide_eq_false e;have:=of_decide_eq_false e2;omega)]
  refine⟨⟨rfl,by omega,?_,by simp⟩,rfl⟩
  intro x hx
  rcases List.mem_cons.1 hx with rfl|hx
  ·exact h2
  ·have:x=p2:=by simpa using hx
   rw[this];exact h3
noncomputable def kf3:Con TB.den:= .gp 162 [.st 2] [yqu] [] fun(p0:wl)=>(TR p0,(originS p0:Int),())
theorem kgq:kf3.Ok Tryz.prog TB:=qrv Bs Tryz.func162 .no (k32.c (kcq.c c0)) (Q:=∀(p0:wl),(TR p0)->∀r0:Int,originS p0=r0-> 
(((validE p0) !=0)=true->
0=r0)/\
(((validE p0) !=0)=false->
(Us p0.wG/\U64 p0.wP/\U64 p0.wX)/\let r1:Int:=(if p0.wG=[]then(if p0.wP<18446744069414584321/\p0.wX<18446744069414584321 then hashS 5 [p0.wP,p0.wX]else 0)else if ix p0.wG 0<18446744069414584321 then ix p0.wG 0 else 0)
r1=r0)) (by kernel_rfl)<|by
 rintro p0 h _ rfl
 refine ?_
 unfold originS
 refine⟨fun e=> ?_,fun e=> ?_⟩
 ·have e:validE p0≠0:=by simpa using e
  rw[if_neg e]
 ·have e:validE p0=0:=by simpa using e
  have v:=(k1r p0).1 e
  rw[if_pos e]
  refine⟨⟨h.m,h.ac,h.n⟩,?_⟩
  have va:=v.am
  unfold vAmounts at va
  simp only[Bool.and_eq_true,decide_eq_true_eq]at va
  split
  ·rw[if_pos ⟨va.1.1.2,va.1.2⟩]
  ·rename_i hne
   rw[if_pos]
   exact v.m _ (ix_mem _ 0 (by omega) (by have:=List.length_pos_iff.2 hne;omega))
noncomputable def kab:Con TB.den:= .gp 106 [.st 2,yqi] [.st 17] [] fun(p0:wl) (p1:Int)=>(TR p0/\-9223372036854775808<=p1/\p1<=9223372036854775807,(stmtS p0 p1:wx),())
theorem kbp:kab.Ok Tryz.prog TB:=qrv Bs Tryz.func106 (.r 3 (.nd [] (.r 0 (.lp [.tokc 70 4 yqu,.tokc 70 3 yqu] ⟨[70,22,79,78],[.cells [zqi,zqu,.row 1,.own 2,.own 3,zqu,zqu,zqu,zqu,zqu],.vec yqu,.tip yqu,.tip yqu],[35],[.one (zqi)],[]⟩ .no)) [] (.r 0 (.rt [.frzc 22 1 2])))) (k32.c (k4m.c (kjo.c (kgq.c (ki7.c c0))))) (Q:=∀(p0:wl) (p1:Int),(TR p0/\-9223372036854775808<=p1/\p1<=9223372036854775807)->∀r0:wx,stmtS p0 p1=r0-> 
(((validE p0) !=0)=true->
0=r0.wC/\0=r0.wW/\([]:List Int)=r0.wG/\([]:List Int)=r0.wj/\([]:List Int)=r0.wAO/\0=r0.wI/\0=r0.wL/\0=r0.Fee/\0=r0.wP/\0=r0.wAw)/\
(((validE p0) !=0)=false->
(p0.wG.length<=4294967295)/\(TR p0)/\(TR p0)/\(([]:List Int)=([]:List Int))/\(([]:List Int)=([]:List Int))/\(p0.wG.length=p0.wG.length)/\∃(I1:Int->Int->Int->Int->Int->Int->Int->Int->(List Int)->(List Int)->(List Int)->Prop) (M1:Int->Int->Int->Int->Int->Int->Int->Int->(List Int)->(List Int)->(List Int)->Nat),I1 0 p1 p0.wW p0.wI p0.wL p0.Fee p0.wP (bindS p0) p0.wG ([]:List Int) ([]:List Int)/\∀(b1 f1 i1 k1 l1 m1 n1 o1:Int) (q1 s1 t1:List Int),(I1 b1 f1 i1 k1 l1 m1 n1 o1 q1 s1 t1->
(decide (b1<(p0.wB.length:Int))=true->
(0<=b1)/\b1<(p0.wB.length:Int)/\s1.length=s1.length/\(s1.length+[(ix p0.wB b1).wb].length)*8<=140737488355328/\s1.length+[(ix p0.wB b1).wb].length<=maxLen/\(U64 (originS p0)/\0<=b1/\b1<=9223372036854775807)/\t1.length=t1.length/\(t1.length+[(rhoS (originS p0) b1)].length)*8<=140737488355328/\t1.length+[(rhoS (originS p0) b1)].length<=maxLen/\(t1++[(rhoS (originS p0) b1)]=t1++[(rhoS (originS p0) b1)])/\(s1++[(ix p0.wB b1).wb]=s1++[(ix p0.wB b1).wb])/\(q1.length=q1.length)/\I1 (i64.wrap (b1+1)) f1 i1 k1 l1 m1 n1 o1 q1 (s1++[(ix p0.wB b1).wb]) (t1++[(rhoS (originS p0) b1)])/\M1 (i64.wrap (b1+1)) f1 i1 k1 l1 m1 n1 o1 q1 (s1++[(ix p0.wB b1).wb]) (t1++[(rhoS (originS p0) b1)])<M1 b1 f1 i1 k1 l1 m1 n1 o1 q1 s1 t1)/\
(decide (b1<(p0.wB.length:Int))=false->
(q1.length=q1.length)/\f1=r0.wC/\i1=r0.wW/\q1=r0.wG/\s1=r0.wj/\t1=r0.wAO/\k1=r0.wI/\l1=r0.wL/\m1=r0.Fee/\n1=r0.wP/\o1=r0.wAw)))) (by kernel_rfl)<|by
 rintro p0 p1 h _ rfl
 obtain⟨hr,hd⟩:=h
 refine ?_
 refine⟨fun e=> ?_,fun e=> ?_⟩
 ·have e:validE p0≠0:=by simpa using e
  unfold stmtS
  rw[if_neg e]
  exact⟨rfl,rfl,rfl,rfl,rfl,rfl,rfl,rfl,rfl,rfl⟩
 ·have e:validE p0=0:=by simpa using e
  have v:=(k1r _).1 e
  have vo:=v.ol
  have hor:=kig hr
  have es:stmtS p0 p1=⟨p1,p0.wW,p0.wG,p0.wB.map (·.wb),(List.range p0.wB.length).map (fun i:Nat=>rhoS (originS p0) (i:Int)),p0.wI,p0.wL,p0.Fee,p0.wP,bindS p0⟩:=by unfold stmtS;rw[if_pos e]
  refine⟨by have:=v.ml;omega,hr,hr,rfl,rfl,rfl,?_⟩
  refine⟨(fun i z1 z2 z3 z4 z5 z6 z7 z8 g g' =>(p1=z1/\p0.wW=z2/\p0.wI=z3/\p0.wL=z4/\p0.Fee=z5/\p0.wP=z6/\bindS p0=z7/\p0.wG=z8)/\0<=i/\i<=p0.wB.length/\g=(p0.wB.take i.toNat).map (·.wb)/\g' =(List.range i.toNat).map (fun i:Nat=>rhoS (originS p0) (i:Int))),(fun i _ _ _ _ _ _ _ _ _ _=>(p0.wB.length-i).toNat),⟨⟨rfl,rfl,rfl,rfl,rfl,rfl,rfl,rfl⟩,by omega,by omega,by simp,by simp⟩,?_⟩
  rintro i _ _ _ _ _ _ _ _ g g' ⟨⟨rfl,rfl,rfl,rfl,rfl,rfl,rfl,rfl⟩,g0,g1,rfl,rfl⟩
  refine⟨fun hh=> ?_,fun hh=> ?_⟩
  ·have hh:=of_decide_eq_true hh
   rw[inc i p0.wB.length g0 hh (by omega)]
   refine⟨g0,hh,rfl,by simp;omega,by simp;unfold maxLen;omega,⟨hor,by omega,by omega⟩,rfl,by simp;omega,by simp;unfold maxLen;omega,rfl,rfl,rfl,⟨⟨rfl,rfl,rfl,rfl,rfl,rfl,rfl,rfl⟩,by omega,by omega,?_,?_⟩,by(first|omega|(dsimp only;omega))⟩
   ·rw[kg p0.wB i g0 hh]
    simp
   ·rw[show(i+1).toNat=i.toNat+1 by omega,List.range_succ]
    simp[show max i 0=i by omega]
  ·have hh:=of_decide_eq_false hh
   rw[List.take_of_length_le (by omega),show i.toNat=p0.wB.length by omega]
   rw[es]
   exact⟨rfl,rfl,rfl,rfl,rfl,rfl,rfl,rfl,rfl,rfl,rfl⟩
noncomputable def k4n:Con TB.den:= .b ⟨72,[.one (.ptr 0 0),.agg [zqu,zql,.d (.sl (.st 1)),zqu,zqu,zqu,zqu,zqu,zqi,.d (.sl yqb)],.agg [.d (.sl (.st 11)),.d (.sl (.st 13)),zqu],.one (.d (.bool)),.one (zqi)],[.cells [.ptr 1 0,zqi,.own 2,zql,.own 3,.mp 4,zqu,zqu,zqu,zqi,zqi,zqi,zqi,zqi,zqu,zql,zqu,zqu,zql,zqu],.cells [.d (.bool),zqu,zqi,.d (.sl (.st 4)),.mp 5,.mp 6,.mp 7],.tip (.st 12),.tip (.st 13),.map yqi (.st 11),.map (.str) yqi,.map (.str) (.sl yqu),.map (.str) (.bool)],(.one (.agg [zqi,zqi,zqi,zqu,zql,zqu,zqu,zql,zqu])),[.cells [.ptr 1 0,zqi,.own 2,zql,.own 3,.mp 4,zqu,zqu,zqu,zqi,zqi,zqi,zqi,zqi,zqu,zql,zqu,zqu,zql,zqu],.cells [.d (.bool),zqu,zqi,.d (.sl (.st 4)),.mp 5,.mp 6,.mp 7],.tip (.st 12),.tip (.st 13),.map yqi (.st 11),.map (.str) yqi,.map (.str) (.sl yqu),.map (.str) (.bool)],false⟩ (.st 2:: .st 16:: .bool:: .int .i64::[yqi,.sl yqu,yqu,yqu,yqu,yqi,yqi,yqi,yqi,yqi,yqu,.sl yqu,yqu,yqu,.sl yqu,yqu,.bool,yqu,yqi,.sl (.st 4),.sl (.st 12),.sl (.st 13),.sl yqi,.sl (.st 11),.sl (.str),.sl yqi,.sl (.str),.sl (.sl yqu),.sl (.str),.sl (.bool)]) [.st 18,yqi,.sl yqu,yqu,yqu,yqu,yqi,yqi,yqi,yqi,yqi,yqu,.sl yqu,yqu,yqu,.sl yqu,yqu,.bool,yqu,yqi,.sl (.st 4),.sl (.st 12),.sl (.st 13),.sl yqi,.sl (.st 11),.sl (.str),.sl yqi,.sl (.str),.sl (.sl yqu),.sl (.str),.sl (.bool)] fun(p1:wl) (p2:wV) (p3:Bool) (p4 Ab:Int) (Ac:List Int) (Ai Ak Al Aj Af Ag Ay Az Ae:Int) (Ah:List Int) (A0 A7:Int) (A8:List Int) (A9:Int) (Av:Bool) (Aw Ax:Int) (Au:List wE) (w2:List wo) (w3:List wM) (w4k:List Int) (w4v:List wK) (w5k:List ByteArray) (w5v:List Int) (w6k:List ByteArray) (w6v:List (List Int)) (w7k:List ByteArray) (w7v:List Bool)=>((∃c:Nat,c<=1000/\EXk ⟨w3,w4k,w4v,Aj,Af,Al⟩ c)/\ECk ⟨w2,Ac⟩/\(0<=p4/\p4<=w2.length/\p4<=9223372036854775807)/\(Av=false/\w5k=[]/\w5v=[])/\TR p1/\(p3=true->WR p2)/\1<=Ab/\Ab<=6,exTx ⟨w2,Ac⟩ Ab ⟨w3,w4k,w4v,Aj,Af,Al⟩ p1 p2 p3 p4,fun R=>(R.f,Ab,Ac,Ai,Ak,R.x.hd,R.x.cr,R.x.sp,Ag,Ay,Az,Ae,Ah,A0,A7,A8,A9,Av,Aw,Ax,Au,w2,R.x.n,R.x.k,R.x.v,w5k,w5v,w6k,w6v,w7k,w7v,()))
theorem k56:k4n.Ok Tryz.prog TB:=pbv Bs Tryz.func72 (.r 0 (.nd [] (.jn ⟨[7,6,5,1],[.map (.str) (.bool),.map (.str) (.sl yqu),.map (.str) yqi,.cells [.d (.bool),zqu,zqi,.d (.sl (.st 4)),.mp 2,.mp 1,.mp 0]],[35],[.one (.d (.bool))],[]⟩ [] .no [] .no) [] (.r 0 (.nd [] (.r 0 (.lp [] ⟨[4],[.map yqi (.st 11)],[11,12,40],[.one (zqi),.one (zqu),.one (zqi)],[]⟩ .no)) [] (.nd [] (.r 0 (.lp [] ⟨[7,6,5,4,3,2,1,0],[.map (.str) (.bool),.map (.str) (.sl yqu),.map (.str) yqi,.map yqi (.st 11),.tip (.st 13),.tip (.st 12),.cells [.d (.bool),zqu,zqi,.d (.sl (.st 4)),.mp 2,.mp 1,.mp 0],.cells [.ptr 6 0,zqi,.own 5,zql,.own 4,.mp 3,zqu,zqu,zqu,zqi,zqi,zqi,zqi,zqi,zqu,zql,zqu,zqu,zql,zqu]],[107],[.one (zqi)],[]⟩ .no)) [] .no))))) (kbp.c (k8h.c (k99.c (kcv.c (k2n.c c0))))) (Q:=∀(p1:wl) (p2:wV) (p3:Bool) (p4 Ab:Int) (Ac:List Int) (Ai Ak Al Aj Af Ag Ay Az Ae:Int) (Ah:List Int) (A0 A7:Int) (A8:List Int) (A9:Int) (Av:Bool) (Aw Ax:Int) (Au:List wE) (w2:List wo) (w3:List wM) (w4k:List Int) (w4v:List wK) (w5k:List ByteArray) (w5v:List Int) (w6k:List ByteArray) (w6v:List (List Int)) (w7k:List ByteArray) (w7v:List Bool),((∃c:Nat,c<=1000/\EXk ⟨w3,w4k,w4v,Aj,Af,Al⟩ c)/\ECk ⟨w2,Ac⟩/\(0<=p4/\p4<=w2.length/\p4<=9223372036854775807)/\(Av=false/\w5k=[]/\w5v=[])/\TR p1/\(p3=true->WR p2)/\1<=Ab/\Ab<=6)->∀R,exTx ⟨w2,Ac⟩ Ab ⟨w3,w4k,w4v,Aj,Af,Al⟩ p1 p2 p3 p4=R-> 
∀J1:Bool->Bool->Int->Int->(List wE)->(List ByteArray)->(List Bool)->(List ByteArray)->(List (List Int))->(List ByteArray)->(List Int)->Prop,(∀(b1 f1:Bool) (i1 k1:Int) (l1:List wE) (m1:List ByteArray) (n1:List Bool) (o1:List ByteArray) (q1:List (List Int)) (s1:List ByteArray) (t1:List Int),
((b1=true->
(w3=w3)/\(w2=w2)/\1=R.f.wAK/\0=R.f.wY/\0=R.f.Tx/\0=R.f.wAT/\([]:List Int)=R.f.wAS/\0=R.f.wAL/\0=R.f.wAV/\([]:List Int)=R.f.wAU/\0=R.f.wAM/\Ab=Ab/\Ac=Ac/\Ai=Ai/\Ak=Ak/\Al=R.x.hd/\Aj=R.x.cr/\Af=R.x.sp/\Ag=Ag/\Ay=Ay/\Az=Az/\Ae=Ae/\Ah=Ah/\A0=A0/\A7=A7/\A8=A8/\A9=A9/\f1=Av/\i1=Aw/\k1=Ax/\l1=Au/\w2=w2/\w3=R.x.n/\w4k=R.x.k/\w4v=R.x.v/\s1=w5k/\t1=w5v/\o1=w6k/\q1=w6v/\m1=w7k/\n1=w7v)/\
(b1=false->
∃(I1:Int->Int->Int->(List Int)->(List wK)->Prop) (M1:Int->Int->Int->(List Int)->(List wK)->Nat),I1 0 0 0 w4k w4v/\∀(u1 x1 y1:Int) (b2:List Int) (f2:List wK),(I1 u1 x1 y1 b2 f2->
(decide (y1<(p2.Ins.length:Int))=true->
(0<=y1)/\y1<(p2.Ins.length:Int)/\((ix p2.Ins y1).wAv=true->
I1 u1 x1 (i64.wrap (y1+1)) b2 f2/\M1 u1 x1 (i64.wrap (y1+1)) b2 f2<M1 u1 x1 y1 b2 f2)/\
((ix p2.Ins y1).wAv=false->
let v2:Bool:=decide ((w3.length:Int)<=((ix p2.Ins y1).wH))
(v2=true->
(w3=w3)/\(w2=w2)/\(((0<=p4/\p4<=w2.length/\p4<=9223372036854775807)/\ECk ⟨w2,Ac⟩)/\SPk (ix p2.Ins y1)/\f1=false/\s1=[]/\t1=[])/\let r3:=wrgS ⟨w2,Ac⟩ w3 (ix p2.Ins y1) p1.wW p4
(w3=w3)/\(w2=w2)/\r3.wAK=R.f.wAK/\r3.wY=R.f.wY/\r3.Tx=R.f.Tx/\r3.wAT=R.f.wAT/\r3.wAS=R.f.wAS/\r3.wAL=R.f.wAL/\r3.wAV=R.f.wAV/\r3.wAU=R.f.wAU/\r3.wAM=R.f.wAM/\Ab=Ab/\Ac=Ac/\Ai=Ai/\Ak=Ak/\Al=R.x.hd/\Aj=R.x.cr/\Af=R.x.sp/\Ag=Ag/\Ay=Ay/\Az=Az/\Ae=Ae/\Ah=Ah/\A0=A0/\A7=A7/\A8=A8/\A9=A9/\f1=Av/\i1=Aw/\k1=Ax/\l1=Au/\w2=w2/\w3=R.x.n/\b2=R.x.k/\f2=R.x.v/\s1=w5k/\t1=w5v/\o1=w6k/\q1=w6v/\m1=w7k/\n1=w7v)/\
(v2=false->
(0<=(ix p2.Ins y1).wH)/\(ix p2.Ins y1).wH<(w3.length:Int)/\let v4:Bool:=(!(((ix w3 ((ix p2.Ins y1).wH)).Value==(ix p2.Ins y1).wZ)&&(((ix w3 ((ix p2.Ins y1).wH)).wAi==(ix p2.Ins y1).wAD)&&(((ix w3 ((ix p2.Ins y1).wH)).Rho==(ix p2.Ins y1).wAG)&&(((ix w3 ((ix p2.Ins y1).wH)).wAk==(ix p2.Ins y1).wAQ)&&true)))))
(v4=true->
(w3=w3)/\(w2=w2)/\(((0<=p4/\p4<=w2.length/\p4<=9223372036854775807)/\ECk ⟨w2,Ac⟩)/\SPk (ix p2.Ins y1)/\f1=false/\s1=[]/\t1=[])/\let r5:=wrgS ⟨w2,Ac⟩ w3 (ix p2.Ins y1) p1.wW p4
(w3=w3)/\(w2=w2)/\r5.wAK=R.f.wAK/\r5.wY=R.f.wY/\r5.Tx=R.f.Tx/\r5.wAT=R.f.wAT/\r5.wAS=R.f.wAS/\r5.wAL=R.f.wAL/\r5.wAV=R.f.wAV/\r5.wAU=R.f.wAU/\r5.wAM=R.f.wAM/\Ab=Ab/\Ac=Ac/\Ai=Ai/\Ak=Ak/\Al=R.x.hd/\Aj=R.x.cr/\Af=R.x.sp/\Ag=Ag/\Ay=Ay/\Az=Az/\Ae=Ae/\Ah=Ah/\A0=A0/\A7=A7/\A8=A8/\A9=A9/\f1=Av/\i1=Aw/\k1=Ax/\l1=Au/\w2=w2/\w3=R.x.n/\b2=R.x.k/\f2=R.x.v/\s1=w5k/\t1=w5v/\o1=w6k/\q1=w6v/\m1=w7k/\n1=w7v)/\
(v4=false->
b2.length=f2.length/\let v6:wK:=mVal (BEq.beq ((ix p2.Ins y1).wH)) b2 f2 (default:wK)
let v7:Bool:=mHas (BEq.beq ((ix p2.Ins y1).wH)) b2
(v7=true->
(w3=w3)/\(w2=w2)/\2=R.f.wAK/\0=R.f.wY/\0=R.f.Tx/\(ownQ v6).wAl=R.f.wAT/\(ownQ v6).wAa=R.f.wAS/\(ownQ v6).wAd=R.f.wAL/\(ownQ (ix p2.Ins y1)).wAl=R.f.wAV/\(ownQ (ix p2.Ins y1)).wAa=R.f.wAU/\(ownQ (ix p2.Ins y1)).wAd=R.f.wAM/\Ab=Ab/\Ac=Ac/\Ai=Ai/\Ak=Ak/\Al=R.x.hd/\Aj=R.x.cr/\Af=R.x.sp/\Ag=Ag/\Ay=Ay/\Az=Az/\Ae=Ae/\Ah=Ah/\A0=A0/\A7=A7/\A8=A8/\A9=A9/\f1=Av/\i1=Aw/\k1=Ax/\l1=Au/\w2=w2/\w3=R.x.n/\b2=R.x.k/\f2=R.x.v/\s1=w5k/\t1=w5v/\o1=w6k/\q1=w6v/\m1=w7k/\n1=w7v)/\
(v7=false->
b2.length=f2.length/\let v8:List Int:=mPutK (BEq.beq ((ix p2.Ins y1).wH)) b2 ((ix p2.Ins y1).wH)
let v9:List wK:=mPutV (BEq.beq ((ix p2.Ins y1).wH)) b2 f2 (ix p2.Ins y1)
let v10:Int:=u64.wrap (x1+((ix p2.Ins y1).wZ))
I1 (i64.wrap (u1+1)) v10 (i64.wrap (y1+1)) v8 v9/\M1 (i64.wrap (u1+1)) v10 (i64.wrap (y1+1)) v8 v9<M1 u1 x1 y1 b2 f2)))))/\
(decide (y1<(p2.Ins.length:Int))=false->
(w3=w3)/\(w2=w2)/\∃(I2:Int->Bool->Int->Int->(List wE)->Int->(List Int)->Int->Int->Int->Int->Int->Int->Int->Int->Int->(List Int)->Int->Int->(List Int)->Int->(List ByteArray)->(List Bool)->(List ByteArray)->(List (List Int))->(List ByteArray)->(List Int)->(List Int)->(List wK)->(List wM)->(List wo)->Prop) (M2:Int->Bool->Int->Int->(List wE)->Int->(List Int)->Int->Int->Int->Int->Int->Int->Int->Int->Int->(List Int)->Int->Int->(List Int)->Int->(List ByteArray)->(List Bool)->(List ByteArray)->(List (List Int))->(List ByteArray)->(List Int)->(List Int)->(List wK)->(List wM)->(List wo)->Nat),I2 0 f1 i1 k1 l1 Ab Ac Ai Ak Al Aj Af Ag Ay Az Ae Ah A0 A7 A8 A9 m1 n1 o1 q1 s1 t1 b2 f2 w3 w2/\∀(i2:Int) (k2:Bool) (l2 m2:Int) (n2:List wE) (o2:Int) (q2:List Int) (s2 t2 u2 x2 y2 b3 f3 i3 k3:Int) (l3:List Int) (m3 n3:Int) (o3:List Int) (q3:Int) (s3:List ByteArray) (t3:List Bool) (u3:List ByteArray) (x3:List (List Int)) (y3:List ByteArray) (b4 f4:List Int) (i4:List wK) (k4:List wM) (l4:List wo),(I2 i2 k2 l2 m2 n2 o2 q2 s2 t2 u2 x2 y2 b3 f3 i3 k3 l3 m3 n3 o3 q3 s3 t3 u3 x3 y3 b4 f4 i4 k4 l4->
(decide (i2<(p2.wB.length:Int))=true->
(0<=i2)/\i2<(p2.wB.length:Int)/\k4.length=k4.length/\(k4.length+[(ix p2.wB i2)].length)*32<=140737488355328/\k4.length+[(ix p2.wB i2)].length<=maxLen/\(k4++[(ix p2.wB i2)]=k4++[(ix p2.wB i2)])/\(l4=l4)/\I2 (i64.wrap (i2+1)) k2 l2 m2 n2 o2 q2 s2 t2 u2 x2 y2 b3 f3 i3 k3 l3 m3 n3 o3 q3 s3 t3 u3 x3 y3 b4 f4 i4 (k4++[(ix p2.wB i2)]) l4/\M2 (i64.wrap (i2+1)) k2 l2 m2 n2 o2 q2 s2 t2 u2 x2 y2 b3 f3 i3 k3 l3 m3 n3 o3 q3 s3 t3 u3 x3 y3 b4 f4 i4 (k4++[(ix p2.wB i2)]) l4<M2 i2 k2 l2 m2 n2 o2 q2 s2 t2 u2 x2 y2 b3 f3 i3 k3 l3 m3 n3 o3 q3 s3 t3 u3 x3 y3 b4 f4 i4 k4 l4)/\
(decide (i2<(p2.wB.length:Int))=false->
let v11:Int:=i64.wrap (x2+(p2.wB.length:Int))
(p2.wB.length<=9223372036854775807)/\let v12:Int:=u64.wrap (u2+(u64.wrap ((outS p2.wB)-x1)))
(k4=k4)/\(l4=l4)/\0=R.f.wAK/\0=R.f.wY/\0=R.f.Tx/\0=R.f.wAT/\([]:List Int)=R.f.wAS/\0=R.f.wAL/\0=R.f.wAV/\([]:List Int)=R.f.wAU/\0=R.f.wAM/\o2=Ab/\q2=Ac/\s2=Ai/\t2=Ak/\v12=R.x.hd/\v11=R.x.cr/\i64.wrap (y2+u1)=R.x.sp/\b3=Ag/\f3=Ay/\i3=Az/\k3=Ae/\l3=Ah/\m3=A0/\n3=A7/\o3=A8/\q3=A9/\k2=Av/\l2=Aw/\m2=Ax/\n2=Au/\l4=w2/\k4=R.x.n/\f4=R.x.k/\i4=R.x.v/\y3=w5k/\b4=w5v/\u3=w6k/\x3=w6v/\s3=w7k/\t3=w7v))))))->J1 b1 f1 i1 k1 l1 m1 n1 o1 q1 s1 t1)->
((!p3)=true->
J1 true Av Aw Ax Au w7k w7v w6k w6v w5k w5v)/\
((!p3)=false->
(TR p1/\-9223372036854775808<=Ab/\Ab<=9223372036854775807)/\(SR (stmtS p1 Ab)/\WR p2/\OrOk w5k w5v Au/\(∀l a,(pk Av Au w5k w5v) l a=none∨∃n,(pk Av Au w5k w5v) l a=some n/\U64 n))/\let r1:Int:=(checkS (pk Av Au w5k w5v) (stmtS p1 Ab) p2)
J1 (r1 !=0) Av Aw Ax Au w7k w7v w6k w6v w5k w5v)) (by kernel_rfl)<|by
 rintro p1 p2 p3 p4 Ab Ac Ai Ak Al Aj Af Ag Ay Az Ae Ah A0 A7 A8 A9 Av Aw Ax Au w2 w3 w4k w4v w5k w5v w6k w6v w7k w7v h R hR
 obtain⟨⟨c,hc,hX⟩,hC,hh,⟨rfl,rfl,rfl⟩,hT,hW,hd1,hd6⟩:=h
 have hF:checkS (pk false Au [] [])=checkS pkR:=by rw[pk_emp]
 intro J kJ
 have j:∀b,(b=true↔(p3=false∨checkS pkR (stmtS p1 Ab) p2≠0))->J b false Aw Ax Au w7k w7v w6k w6v [] []:=by
  intro b hb
  refine kJ _ _ _ _ _ _ _ _ _ _ _ ⟨fun e=> ?_,fun e=> ?_⟩
  ·unfold exTx at hR
   rw[if_pos (hb.1 e)]at hR
   subst hR
   exact(by repeat' first|apply And.intro|exact rfl|exact True.intro)
  ·have hn:¬(p3=false∨checkS pkR (stmtS p1 Ab) p2≠0):=fun hh=>by rw[hb.2 hh]at e;cases e
   have hk:p3=true:=by cases p3 with|true=>rfl|false=>exact(hn (.inl rfl)).elim
   have hck:checkS pkR (stmtS p1 Ab) p2=0:=Classical.byContradiction fun hh=>hn (.inr hh)
   have hr:=(k4r.1 hck).1
   obtain⟨r1,r2,r3,r4⟩:=rel_in hr (Int.le_trans (kc2 hd1) hd6) (hW hk)
   unfold exTx at hR
   rw[if_neg hn]at hR
   generalize hE:exIn ⟨w2,Ac⟩ ⟨w3,w4k,w4v,Aj,Af,Al⟩ p1 p2 p4=E at hR
   have hnl:=hX.nl
   have hnl:w3.length<=4*c:=hnl
   refine⟨(fun u x y k v=>∃j:Nat,y=(j:Int)/\j<=p2.Ins.length/\k.length=v.length/\insS ⟨w2,Ac⟩ w3 p1.wW p4 (p2.Ins.drop j) ⟨zeroF,u,x,k,v⟩=E),(fun _ _ y _ _=>(p2.Ins.length-y).toNat),⟨0,rfl,Nat.zero_le _,hX.kv,hE⟩,?_⟩
   rintro u x _ k v ⟨i,rfl,hi,hkv,hg⟩
   refine⟨fun e2=> ?_,fun e2=> ?_⟩
   ·have e2:(i:Int)<p2.Ins.length:=of_decide_eq_true e2
    have hil:i<p2.Ins.length:=by omega
    have hx:ix p2.Ins (i:Int)=p2.Ins[i]:=ix_get _ _ hil
    obtain⟨sx,px⟩:=r1 _ (ix_mem p2.Ins (i:Int) (by omega) e2)
    rw[List.drop_eq_getElem_cons hil,<-hx,insS]at hg
    rw[inc (i:Int) p2.Ins.length (by omega) e2 (by omega)]
    generalize ix p2.Ins (i:Int)=X at *
    have hkd:(wrgS ⟨w2,Ac⟩ w3 X p1.wW p4).wAK≠0:=by unfold wrgS;rw[ke7];decide
    refine⟨by omega,e2,fun e3=> ?_,fun e3=> ?_⟩
    ·rw[if_pos e3]at hg
     exact⟨⟨i+1,rfl,by omega,hkv,hg⟩,by(first|omega|(dsimp only;omega))⟩
    ·rw[if_neg (by simp[e3])]at hg
     refine⟨fun e4=> ?_,fun e4=> ?_⟩
     ·have e4:=of_decide_eq_true e4
      rw[if_pos (.inl e4)]at hg
      subst hg
      rw[if_pos hkd]at hR
      subst hR
      exact⟨rfl,rfl,⟨⟨hh,hC⟩,sx,rfl,rfl,rfl⟩,(by repeat' first|apply And.intro|exact rfl|exact True.intro)⟩
     ·have e4:=of_decide_eq_false e4
      refine⟨sx.p0,by omega,fun e5=> ?_,fun e5=> ?_⟩
      ·rw[if_pos (.inr ((note_ne _ _).1 e5))]at hg
       subst hg
       rw[if_pos hkd]at hR
       subst hR
       exact⟨rfl,rfl,⟨⟨hh,hC⟩,sx,rfl,rfl,rfl⟩,(by repeat' first|apply And.intro|exact rfl|exact True.intro)⟩
      ·rw[if_neg (fun hq=>hq.elim e4 fun hq=>by rw[(note_ne _ _).2 hq]at e5;cases e5)]at hg
       refine⟨hkv,fun e6=> ?_,fun e6=>⟨hkv,?_⟩⟩
       ·rw[if_pos (khl.1 e6)]at hg
        subst hg
        have hR:EF.mk _ _=R:=hR
        subst hR
        exact(by repeat' first|apply And.intro|exact rfl|exact True.intro)
       ·rw[if_neg (fun hq=>by rw[khl.2 hq]at e6;cases e6)]at hg
        obtain⟨q1,q2⟩:=klz e6 v X
        dsimp only
        rw[q1,q2]
        exact⟨⟨i+1,rfl,by omega,by simp[hkv],hg⟩,by(first|omega|(dsimp only;omega))⟩
   ·have e2:¬(i:Int)<p2.Ins.length:=of_decide_eq_false e2
    rw[List.drop_eq_nil_of_le (by omega)]at hg
    have hg:EIn.mk zeroF u x k v=E:=hg
    subst hg
    have hR:EF.mk zeroF ⟨w3++p2.wB,k,v,i64.wrap (Aj+(p2.wB.length:Int)),i64.wrap (Af+u),u64.wrap (Al+u64.wrap (outS p2.wB-x))⟩=R:=hR
    subst hR
    refine⟨rfl,rfl,(fun i z1 z2 z3 z4 z5 z6 z7 z8 z9 y0 y1 y2 y3 y4 y5 y6 y7 y8 y9 x0 x1 x2 x3 x4 x5 x6 x7 x8 n t=>∃j:Nat,i=(j:Int)/\j<=p2.wB.length/\(false=z1/\Aw=z2/\Ax=z3/\Au=z4/\Ab=z5/\Ac=z6/\Ai=z7/\Ak=z8/\Al=z9/\Aj=y0)/\(Af=y1/\Ag=y2/\Ay=y3/\Az=y4/\Ae=y5/\Ah=y6/\A0=y7/\A7=y8/\A8=y9/\A9=x0)/\(w7k=x1/\w7v=x2/\w6k=x3/\w6v=x4/\[]=x5/\[]=x6/\k=x7/\v=x8)/\n=w3++p2.wB.take j/\w2=t),(fun i _ _ _ _ _ _ _ _ _ _ _ _ _ _ _ _ _ _ _ _ _ _ _ _ _ _ _ _ _ _=>(p2.wB.length-i).toNat),⟨0,rfl,Nat.zero_le _,⟨rfl,rfl,rfl,rfl,rfl,rfl,rfl,rfl,rfl,rfl⟩,⟨rfl,rfl,rfl,rfl,rfl,rfl,rfl,rfl,rfl,rfl⟩,⟨rfl,rfl,rfl,rfl,rfl,rfl,rfl,rfl⟩,by simp,rfl⟩,?_⟩
    rintro _ _ _ _ _ _ _ _ _ _ _ _ _ _ _ _ _ _ _ _ _ _ _ _ _ _ _ _ _ _ _ ⟨j,rfl,hj,⟨rfl,rfl,rfl,rfl,rfl,rfl,rfl,rfl,rfl,rfl⟩,⟨rfl,rfl,rfl,rfl,rfl,rfl,rfl,rfl,rfl,rfl⟩,⟨rfl,rfl,rfl,rfl,rfl,rfl,rfl,rfl⟩,rfl,rfl⟩
    refine⟨fun e3=> ?_,fun e3=> ?_⟩
    ·have e3:(j:Int)<p2.wB.length:=of_decide_eq_true e3
     have hjl:j<p2.wB.length:=by omega
     have hx:ix p2.wB (j:Int)=p2.wB[j]:=ix_get _ _ hjl
     have hlen:(w3++p2.wB.take j).length<=4004:=by rw[List.length_append,List.length_take];omega
     rw[inc (j:Int) p2.wB.length (by omega) e3 (by omega)]
     refine⟨by omega,e3,rfl,?_,?_,rfl,rfl,⟨j+1,rfl,by omega,⟨rfl,rfl,rfl,rfl,rfl,rfl,rfl,rfl,rfl,rfl⟩,⟨rfl,rfl,rfl,rfl,rfl,rfl,rfl,rfl,rfl,rfl⟩,⟨rfl,rfl,rfl,rfl,rfl,rfl,rfl,rfl⟩,?_,rfl⟩,by(first|omega|(dsimp only;omega))⟩
     ·simp only[List.length_cons,List.length_nil];omega
     ·simp only[List.length_cons,List.length_nil];unfold maxLen;omega
     ·have tk:=kg p2.wB (j:Int) (by omega) e3
      rw[show((j:Int)+1).toNat=j+1 by omega,Int.toNat_natCast]at tk
      rw[List.append_assoc,tk]
    ·have e3:¬(j:Int)<p2.wB.length:=of_decide_eq_false e3
     rw[List.take_of_length_le (by omega)]
     exact⟨by omega,(by repeat' first|apply And.intro|exact rfl|exact True.intro)⟩
 refine⟨fun e=>j true ⟨fun _=> .inl (by simpa using e),fun _=>rfl⟩,fun e=> ?_⟩
 have e:p3=true:=by simpa using e
 refine⟨⟨hT,by omega,by omega⟩,⟨stmt_SR hT ⟨by omega,by omega⟩,hW e,kh2 _,fun l a=>by rw[pk_emp];exact pkR_u⟩,?_⟩
 dsimp only
 rw[hF]
 exact j _ ⟨fun h1=> .inr (by simpa using h1),fun h1=>h1.elim (fun h2=>by rw[e]at h2;cases h2) (fun h2=>by simpa using h2)⟩
noncomputable def ka0:Con TB.den:= .b ⟨47,[.one (.ptr 0 0),.one (.d (.sl (.st 3))),.one (.k (.fn 24))],[.cells [.ptr 1 0,zqi,.own 2,zql,.own 3,.mp 4,zqu,zqu,zqu,zqi,zqi,zqi,zqi,zqi,zqu,zql,zqu,zqu,zql,zqu],.cells [.d (.bool),zqu,zqi,.d (.sl (.st 4)),.mp 5,.mp 6,.mp 7],.tip (.st 12),.tip (.st 13),.map yqi (.st 11),.map (.str) yqi,.map (.str) (.sl yqu),.map (.str) (.bool)],(.tup []),[.cells [.ptr 1 0,zqi,.own 2,zql,.own 3,.mp 4,zqu,zqu,zqu,zqi,zqi,zqi,zqi,zqi,zqu,zql,zqu,zqu,zql,zqu],.cells [.d (.bool),zqu,zqi,.d (.sl (.st 4)),.mp 5,.mp 6,.mp 7],.tip (.st 12),.tip (.st 13),.map yqi (.st 11),.map (.str) yqi,.map (.str) (.sl yqu),.map (.str) (.bool)],false⟩ [.sl (.st 3),yqi,.sl yqu,yqu,yqu,yqu,yqi,yqi,yqi,yqi,yqi,yqu,.sl yqu,yqu,yqu,.sl yqu,yqu,.bool,yqu,yqi,.sl (.st 4),.sl (.st 12),.sl (.st 13),.sl yqi,.sl (.st 11),.sl (.str),.sl yqi,.sl (.str),.sl (.sl yqu),.sl (.str),.sl (.bool)] [yqi,.sl yqu,yqu,yqu,yqu,yqi,yqi,yqi,yqi,yqi,yqu,.sl yqu,yqu,yqu,.sl yqu,yqu,.bool,yqu,yqi,.sl (.st 4),.sl (.st 12),.sl (.st 13),.sl yqi,.sl (.st 11),.sl (.str),.sl yqi,.sl (.str),.sl (.sl yqu),.sl (.str),.sl (.bool)] fun(p1:List wT) (Ab:Int) (Ac:List Int) (Ai Ak Al Aj Af Ag Ay Az Ae:Int) (Ah:List Int) (A0 A7:Int) (A8:List Int) (A9:Int) (Av:Bool) (Aw Ax:Int) (Au:List wE) (w2:List wo) (w3:List wM) (w4k:List Int) (w4v:List wK) (w5k:List ByteArray) (w5v:List Int) (w6k:List ByteArray) (w6v:List (List Int)) (w7k:List ByteArray) (w7v:List Bool)=>(CHk Ab p1 w2 Ac ⟨w3,w4k,w4v,Aj,Af,Al⟩/\(Av=false/\w5k=[]/\w5v=[])/\(Ag=0/\Ay=0/\Az=0/\Ae=0/\Ah=[]/\A0=0)/\A7=0/\A8=[]/\A9=0,chnGo ⟨w2,Ac⟩ Ab p1 ⟨w3,w4k,w4v,Aj,Af,Al⟩,fun R=>(Ab,Ac,Ai,Ak,R.x.hd,R.x.cr,R.x.sp,R.f.wAK,R.f.wY,R.f.Tx,R.f.wAT,R.f.wAS,R.f.wAL,R.f.wAV,R.f.wAU,R.f.wAM,Av,Aw,Ax,Au,w2,R.x.n,R.x.k,R.x.v,w5k,w5v,w6k,w6v,w7k,w7v,()))
theorem kbe:ka0.Ok Tryz.prog TB:=pbv Bs Tryz.func47 (.r 1 (.lp [] ⟨[7,6,5,4,3,2,1,0],[.map (.str) (.bool),.map (.str) (.sl yqu),.map (.str) yqi,.map yqi (.st 11),.tip (.st 13),.tip (.st 12),.cells [.d (.bool),zqu,zqi,.d (.sl (.st 4)),.mp 2,.mp 1,.mp 0],.cells [.ptr 6 0,zqi,.own 5,zql,.own 4,.mp 3,zqu,zqu,zqu,zqi,zqi,zqi,zqi,zqi,zqu,zql,zqu,zqu,zql,zqu]],[6,16],[.one (zqi),.one (zqi)],[]⟩ (.r 1 (.nd [] (.r 1 (.lp [] ⟨[7,6,5,4,3,2,1,0],[.map (.str) (.bool),.map (.str) (.sl yqu),.map (.str) yqi,.map yqi (.st 11),.tip (.st 13),.tip (.st 12),.cells [.d (.bool),zqu,zqi,.d (.sl (.st 4)),.mp 2,.mp 1,.mp 0],.cells [.ptr 6 0,zqi,.own 5,zql,.own 4,.mp 3,zqu,zqu,zqu,zqi,zqi,zqi,zqi,zqi,zqu,zql,zqu,zqu,zql,zqu]],[6,23],[.one (zqi),.one (zqi)],[]⟩ .no)) [] .no)))) (ka8.c (k56.c c0)) (Q:=∀(p1:List wT) (Ab:Int) (Ac:List Int) (Ai Ak Al Aj Af Ag Ay Az Ae:Int) (Ah:List Int) (A0 A7:Int) (A8:List Int) (A9:Int) (Av:Bool) (Aw Ax:Int) (Au:List wE) (w2:List wo) (w3:List wM) (w4k:List Int) (w4v:List wK) (w5k:List ByteArray) (w5v:List Int) (w6k:List ByteArray) (w6v:List (List Int)) (w7k:List ByteArray) (w7v:List Bool),(CHk Ab p1 w2 Ac ⟨w3,w4k,w4v,Aj,Af,Al⟩/\(Av=false/\w5k=[]/\w5v=[])/\(Ag=0/\Ay=0/\Az=0/\Ae=0/\Ah=[]/\A0=0)/\A7=0/\A8=[]/\A9=0)->∀R,chnGo ⟨w2,Ac⟩ Ab p1 ⟨w3,w4k,w4v,Aj,Af,Al⟩=R-> 
(w3=w3)/\(w2=w2)/\∃(I1:Int->Int->Bool->Int->Int->(List wE)->Int->(List Int)->Int->Int->Int->Int->Int->Int->Int->Int->Int->(List Int)->Int->Int->(List Int)->Int->(List ByteArray)->(List Bool)->(List ByteArray)->(List (List Int))->(List ByteArray)->(List Int)->(List Int)->(List wK)->(List wM)->(List wo)->Prop) (M1:Int->Int->Bool->Int->Int->(List wE)->Int->(List Int)->Int->Int->Int->Int->Int->Int->Int->Int->Int->(List Int)->Int->Int->(List Int)->Int->(List ByteArray)->(List Bool)->(List ByteArray)->(List (List Int))->(List ByteArray)->(List Int)->(List Int)->(List wK)->(List wM)->(List wo)->Nat),I1 0 0 Av Aw Ax Au Ab Ac Ai Ak Al Aj Af Ag Ay Az Ae Ah A0 A7 A8 A9 w7k w7v w6k w6v w5k w5v w4k w4v w3 w2/\∀(b1 f1:Int) (i1:Bool) (k1 l1:Int) (m1:List wE) (n1:Int) (o1:List Int) (q1 s1 t1 u1 x1 y1 b2 f2 i2:Int) (k2:List Int) (l2 m2:Int) (n2:List Int) (o2:Int) (q2:List ByteArray) (s2:List Bool) (t2:List ByteArray) (u2:List (List Int)) (x2:List ByteArray) (y2 b3:List Int) (f3:List wK) (i3:List wM) (k3:List wo),(I1 b1 f1 i1 k1 l1 m1 n1 o1 q1 s1 t1 u1 x1 y1 b2 f2 i2 k2 l2 m2 n2 o2 q2 s2 t2 u2 x2 y2 b3 f3 i3 k3->
(decide (f1<(p1.length:Int))=true->
(0<=f1)/\f1<(p1.length:Int)/\(i3=i3)/\(k3=k3)/\∃(I2:Int->Int->Bool->Int->Int->(List wE)->Int->(List Int)->Int->Int->Int->Int->Int->Int->Int->Int->Int->(List Int)->Int->Int->(List Int)->Int->(List ByteArray)->(List Bool)->(List ByteArray)->(List (List Int))->(List ByteArray)->(List Int)->(List Int)->(List wK)->(List wM)->(List wo)->Prop) (M2:Int->Int->Bool->Int->Int->(List wE)->Int->(List Int)->Int->Int->Int->Int->Int->Int->Int->Int->Int->(List Int)->Int->Int->(List Int)->Int->(List ByteArray)->(List Bool)->(List ByteArray)->(List (List Int))->(List ByteArray)->(List Int)->(List Int)->(List wK)->(List wM)->(List wo)->Nat),I2 b1 0 i1 k1 l1 m1 n1 o1 q1 s1 t1 u1 x1 y1 b2 f2 i2 k2 l2 m2 n2 o2 q2 s2 t2 u2 x2 y2 b3 f3 i3 k3/\∀(l3 m3:Int) (n3:Bool) (o3 q3:Int) (s3:List wE) (t3:Int) (u3:List Int) (x3 y3 b4 f4 i4 k4 l4 m4 n4:Int) (o4:List Int) (q4 s4:Int) (t4:List Int) (u4:Int) (x4:List ByteArray) (y4:List Bool) (b5:List ByteArray) (f5:List (List Int)) (i5:List ByteArray) (k5 l5:List Int) (m5:List wK) (n5:List wM) (o5:List wo),(I2 l3 m3 n3 o3 q3 s3 t3 u3 x3 y3 b4 f4 i4 k4 l4 m4 n4 o4 q4 s4 t4 u4 x4 y4 b5 f5 i5 k5 l5 m5 n5 o5->
let v1:Bool:=decide (m3<(((ix p1 f1).Txs).length:Int))
(v1=true->
(0<=m3)/\m3<(((ix p1 f1).Txs).length:Int)/\(By (ix ((ix p1 f1).Txs) m3).wAH/\(ix ((ix p1 f1).Txs) m3).wAH.length<=137438953472)/\let r2:=(decW (ix ((ix p1 f1).Txs) m3).wAH).1
let r3:Bool:=((decW (ix ((ix p1 f1).Txs) m3).wAH).2==0)
(n5=n5)/\(o5=o5)/\((∃c:Nat,c<=1000/\EXk ⟨n5,l5,m5,f4,i4,b4⟩ c)/\ECk ⟨o5,u3⟩/\(0<=((ix p1 f1).wY)/\((ix p1 f1).wY)<=o5.length/\((ix p1 f1).wY)<=9223372036854775807)/\(n3=false/\i5=[]/\k5=[])/\TR (ix ((ix p1 f1).Txs) m3)/\(r3=true->WR r2)/\1<=t3/\t3<=6)/\let r4:=(exTx ⟨o5,u3⟩ t3 ⟨n5,l5,m5,f4,i4,b4⟩ (ix ((ix p1 f1).Txs) m3) r2 r3 ((ix p1 f1).wY)).f
let r5:=exTx ⟨o5,u3⟩ t3 ⟨n5,l5,m5,f4,i4,b4⟩ (ix ((ix p1 f1).Txs) m3) r2 r3 ((ix p1 f1).wY)
((r4.wAK !=0)=true->
(r5.x.n=r5.x.n)/\(o5=o5)/\t3=Ab/\u3=Ac/\x3=Ai/\y3=Ak/\r5.x.hd=R.x.hd/\r5.x.cr=R.x.cr/\r5.x.sp=R.x.sp/\r4.wAK=R.f.wAK/\(ix p1 f1).wY=R.f.wY/\m3=R.f.Tx/\r4.wAT=R.f.wAT/\r4.wAS=R.f.wAS/\r4.wAL=R.f.wAL/\r4.wAV=R.f.wAV/\r4.wAU=R.f.wAU/\r4.wAM=R.f.wAM/\n3=Av/\o3=Aw/\q3=Ax/\s3=Au/\o5=w2/\r5.x.n=R.x.n/\r5.x.k=R.x.k/\r5.x.v=R.x.v/\i5=w5k/\k5=w5v/\b5=w6k/\f5=w6v/\x4=w7k/\y4=w7v)/\
((r4.wAK !=0)=false->
(r5.x.n=r5.x.n)/\(o5=o5)/\I2 (i64.wrap (l3+1)) (i64.wrap (m3+1)) n3 o3 q3 s3 t3 u3 x3 y3 r5.x.hd r5.x.cr r5.x.sp k4 l4 m4 n4 o4 q4 s4 t4 u4 x4 y4 b5 f5 i5 k5 r5.x.k r5.x.v r5.x.n o5/\M2 (i64.wrap (l3+1)) (i64.wrap (m3+1)) n3 o3 q3 s3 t3 u3 x3 y3 r5.x.hd r5.x.cr r5.x.sp k4 l4 m4 n4 o4 q4 s4 t4 u4 x4 y4 b5 f5 i5 k5 r5.x.k r5.x.v r5.x.n o5<M2 l3 m3 n3 o3 q3 s3 t3 u3 x3 y3 b4 f4 i4 k4 l4 m4 n4 o4 q4 s4 t4 u4 x4 y4 b5 f5 i5 k5 l5 m5 n5 o5))/\
(v1=false->
(n5=n5)/\(o5=o5)/\I1 l3 (i64.wrap (f1+1)) n3 o3 q3 s3 t3 u3 x3 y3 b4 f4 i4 k4 l4 m4 n4 o4 q4 s4 t4 u4 x4 y4 b5 f5 i5 k5 l5 m5 n5 o5/\M1 l3 (i64.wrap (f1+1)) n3 o3 q3 s3 t3 u3 x3 y3 b4 f4 i4 k4 l4 m4 n4 o4 q4 s4 t4 u4 x4 y4 b5 f5 i5 k5 l5 m5 n5 o5<M1 b1 f1 i1 k1 l1 m1 n1 o1 q1 s1 t1 u1 x1 y1 b2 f2 i2 k2 l2 m2 n2 o2 q2 s2 t2 u2 x2 y2 b3 f3 i3 k3)))/\
(decide (f1<(p1.length:Int))=false->
(i3=i3)/\(k3=k3)/\n1=Ab/\o1=Ac/\q1=Ai/\s1=Ak/\t1=R.x.hd/\u1=R.x.cr/\x1=R.x.sp/\y1=R.f.wAK/\b2=R.f.wY/\f2=R.f.Tx/\i2=R.f.wAT/\k2=R.f.wAS/\l2=R.f.wAL/\m2=R.f.wAV/\n2=R.f.wAU/\o2=R.f.wAM/\i1=Av/\k1=Aw/\l1=Ax/\m1=Au/\k3=w2/\i3=R.x.n/\b3=R.x.k/\f3=R.x.v/\x2=w5k/\y2=w5v/\t2=w6k/\u2=w6v/\q2=w7k/\s2=w7v))) (by kernel_rfl)<|by
 rintro p1 Ab Ac Ai Ak Al Aj Af Ag Ay Az Ae Ah A0 A7 A8 A9 Av Aw Ax Au w2 w3 w4k w4v w5k w5v w6k w6v w7k w7v h R hR
 obtain⟨hH,⟨rfl,rfl,rfl⟩,⟨rfl,rfl,rfl,rfl,rfl,rfl⟩,rfl,rfl,rfl⟩:=h
 have hlen:=hH.len
 refine⟨rfl,rfl,(fun nb f z1 z2 z3 z4 z5 z6 z7 z8 hd cr sp y1 y2 y3 y4 y5 y6 y7 y8 y9 x1 x2 x3 x4 x5 x6 sk sv ns tr=>∃k:Nat,f=(k:Int)/\k<=p1.length/\(0<=nb/\nb<=4*k)/\(false=z1/\Aw=z2/\Ax=z3/\Au=z4/\Ab=z5/\Ac=z6/\Ai=z7/\Ak=z8)/\(0=y1/\0=y2/\0=y3/\0=y4/\[]=y5/\0=y6/\0=y7/\[]=y8/\0=y9)/\(w7k=x1/\w7v=x2/\w6k=x3/\w6v=x4/\[]=x5/\[]=x6/\w2=tr)/\EXk ⟨ns,sk,sv,cr,sp,hd⟩ nb.toNat/\chnGo ⟨w2,Ac⟩ Ab (p1.drop k) ⟨ns,sk,sv,cr,sp,hd⟩=R),(fun _ f _ _ _ _ _ _ _ _ _ _ _ _ _ _ _ _ _ _ _ _ _ _ _ _ _ _ _ _ _ _=>(p1.length-f).toNat),⟨0,rfl,Nat.zero_le _,⟨by omega,by omega⟩,⟨rfl,rfl,rfl,rfl,rfl,rfl,rfl,rfl⟩,⟨rfl,rfl,rfl,rfl,rfl,rfl,rfl,rfl,rfl⟩,⟨rfl,rfl,rfl,rfl,rfl,rfl,rfl⟩,hH.x,hR⟩,?_⟩
 rintro nb _ _ _ _ _ _ _ _ _ hd cr sp _ _ _ _ _ _ _ _ _ _ _ _ _ _ _ sk sv ns _ ⟨k,rfl,hk,⟨n0,n1⟩,⟨rfl,rfl,rfl,rfl,rfl,rfl,rfl,rfl⟩,⟨rfl,rfl,rfl,rfl,rfl,rfl,rfl,rfl,rfl⟩,⟨rfl,rfl,rfl,rfl,rfl,rfl,rfl⟩,hX,hg⟩
 refine⟨fun e=> ?_,fun e=> ?_⟩
 ·have e:(k:Int)<p1.length:=of_decide_eq_true e
  have hkl:k<p1.length:=by omega
  have hm:=ix_mem p1 (k:Int) (by omega) e
  rw[kjf hkl]at hg
  have hh:=hH.h _ hm
  have htl:=hH.tl _ hm
  have htt:=hH.t _ hm
  rw[inc (k:Int) p1.length (by omega) e (by omega)]
  generalize ix p1 (k:Int)=B at *
  refine⟨by omega,e,rfl,rfl,(fun nb2 m z1 z2 z3 z4 z5 z6 z7 z8 hd cr sp y1 y2 y3 y4 y5 y6 y7 y8 y9 x1 x2 x3 x4 x5 x6 sk sv ns tr=>∃j:Nat,m=(j:Int)/\j<=B.Txs.length/\nb2=nb+(j:Int)/\(false=z1/\Aw=z2/\Ax=z3/\Au=z4/\Ab=z5/\Ac=z6/\Ai=z7/\Ak=z8)/\(0=y1/\0=y2/\0=y3/\0=y4/\[]=y5/\0=y6/\0=y7/\[]=y8/\0=y9)/\(w7k=x1/\w7v=x2/\w6k=x3/\w6v=x4/\[]=x5/\[]=x6/\w2=tr)/\EXk ⟨ns,sk,sv,cr,sp,hd⟩ nb2.toNat/\(if(txsGo ⟨w2,Ac⟩ Ab B.wY j (B.Txs.drop j) ⟨ns,sk,sv,cr,sp,hd⟩).f.wAK≠0 then txsGo ⟨w2,Ac⟩ Ab B.wY j (B.Txs.drop j) ⟨ns,sk,sv,cr,sp,hd⟩else chnGo ⟨w2,Ac⟩ Ab (p1.drop (k+1)) (txsGo ⟨w2,Ac⟩ Ab B.wY j (B.Txs.drop j) ⟨ns,sk,sv,cr,sp,hd⟩).x)=R),(fun _ m _ _ _ _ _ _ _ _ _ _ _ _ _ _ _ _ _ _ _ _ _ _ _ _ _ _ _ _ _ _=>(B.Txs.length-m).toNat),⟨0,rfl,Nat.zero_le _,by omega,⟨rfl,rfl,rfl,rfl,rfl,rfl,rfl,rfl⟩,⟨rfl,rfl,rfl,rfl,rfl,rfl,rfl,rfl,rfl⟩,⟨rfl,rfl,rfl,rfl,rfl,rfl,rfl⟩,hX,hg⟩,?_⟩
  rintro _ _ _ _ _ _ _ _ _ _ hd cr sp _ _ _ _ _ _ _ _ _ _ _ _ _ _ _ sk sv ns _ ⟨j,rfl,hj,rfl,⟨rfl,rfl,rfl,rfl,rfl,rfl,rfl,rfl⟩,⟨rfl,rfl,rfl,rfl,rfl,rfl,rfl,rfl,rfl⟩,⟨rfl,rfl,rfl,rfl,rfl,rfl,rfl⟩,hX,hg⟩
  refine⟨fun e2=> ?_,fun e2=> ?_⟩
  ·have e2:(j:Int)<B.Txs.length:=of_decide_eq_true e2
   have hjl:j<B.Txs.length:=by omega
   have hx:ix B.Txs (j:Int)=B.Txs[j]:=ix_get _ _ hjl
   have ht:=htt _ (ix_mem B.Txs (j:Int) (by omega) e2)
   rw[List.drop_eq_getElem_cons hjl,<-hx,txsGo]at hg
   rw[inc (j:Int) B.Txs.length (by omega) e2 (by omega),wi (nb+(j:Int)+1) (by omega) (by omega)]
   generalize ix B.Txs (j:Int)=X at *
   have hW:((decW X.wAH).2==0)=true->WR (decW X.wAH).1:=decW_WR
   have hc:(nb+(j:Int)).toNat<=1000:=by omega
   refine⟨by omega,e2,⟨ht.1.p,ht.2⟩,rfl,rfl,⟨⟨_,hc,hX⟩,hH.C,hh,⟨rfl,rfl,rfl⟩,ht.1,hW,hH.d1,hH.d6⟩,fun e3=> ?_,fun e3=> ?_⟩
   ·have e3:(exTd ⟨w2,Ac⟩ Ab B.wY ⟨ns,sk,sv,cr,sp,hd⟩ X).f.wAK≠0:=bne_iff_ne.1 e3
    rw[if_pos e3,if_pos e3]at hg
    subst hg
    exact(by repeat' first|apply And.intro|exact rfl|exact True.intro)
   ·have e3:(exTd ⟨w2,Ac⟩ Ab B.wY ⟨ns,sk,sv,cr,sp,hd⟩ X).f.wAK=0:=bne_eq_false_iff_eq.1 e3
    rw[if_neg (fun hq:(exTd ⟨w2,Ac⟩ Ab B.wY ⟨ns,sk,sv,cr,sp,hd⟩ X).f.wAK≠0=>hq e3)]at hg
    have hn:=(exTx_ok hX hc ⟨hH.d1,hH.d6⟩ hW e3).1
    rw[show(nb+(j:Int)).toNat+1=(nb+(j:Int)+1).toNat by omega]at hn
    exact⟨rfl,rfl,⟨j+1,rfl,by omega,by omega,⟨rfl,rfl,rfl,rfl,rfl,rfl,rfl,rfl⟩,⟨rfl,rfl,rfl,rfl,rfl,rfl,rfl,rfl,rfl⟩,⟨rfl,rfl,rfl,rfl,rfl,rfl,rfl⟩,hn,hg⟩,by(first|omega|(dsimp only;omega))⟩
  ·have e2:¬(j:Int)<B.Txs.length:=of_decide_eq_false e2
   rw[List.drop_eq_nil_of_le (by omega)]at hg
   have hg:chnGo ⟨w2,Ac⟩ Ab (p1.drop (k+1)) ⟨ns,sk,sv,cr,sp,hd⟩=R:=hg
   exact⟨rfl,rfl,⟨k+1,rfl,by omega,⟨by omega,by omega⟩,⟨rfl,rfl,rfl,rfl,rfl,rfl,rfl,rfl⟩,⟨rfl,rfl,rfl,rfl,rfl,rfl,rfl,rfl,rfl⟩,⟨rfl,rfl,rfl,rfl,rfl,rfl,rfl⟩,hX,hg⟩,by(first|omega|(dsimp only;omega))⟩
 ·have e:¬(k:Int)<p1.length:=of_decide_eq_false e
  rw[List.drop_eq_nil_of_le (by omega)]at hg
  have hg:EF.mk zeroF ⟨ns,sk,sv,cr,sp,hd⟩=R:=hg
  subst hg
  exact(by repeat' first|apply And.intro|exact rfl|exact True.intro)
noncomputable def kak:Con TB.den:= .bp 45 [.st 15] [yqu,yqi] fun(p0:wg)=>(OkA p0.wD,totA 0 p0.wD,fun R=>(R.1,R.2,()))
theorem kc4:kak.Ok Tryz.prog TB:=qbx Bs [] Tryz.func45 (.r 1 (.nd [] (.r 0 (.lp [] ⟨[],[],[4,12],[.one (zqu),.one (zqi)],[]⟩ .no)) [] .no)) (x1 x70_ok x0) c0 (Q:=∀(p0:wg),(OkA p0.wD)->∀R,totA 0 p0.wD=R-> 
∃(I1:Int->Int->Prop) (M1:Int->Int->Nat),I1 0 0/\∀(b1 f1:Int),(I1 b1 f1->
(decide (f1<(p0.wD.length:Int))=true->
(0<=f1)/\f1<(p0.wD.length:Int)/\(0<=b1/\0<=((ix p0.wD f1).wU)/\0<=(0:Int)/\(0:Int)<=1)/\let r2:Int:=(b1+((ix p0.wD f1).wU)+(0:Int))%18446744073709551616
let r3:Int:=(b1+((ix p0.wD f1).wU)+(0:Int))/18446744073709551616
((r3 !=0)=true->
0=R.1/\3=R.2)/\
((r3 !=0)=false->
I1 r2 (i64.wrap (f1+1))/\M1 r2 (i64.wrap (f1+1))<M1 b1 f1))/\
(decide (f1<(p0.wD.length:Int))=false->
b1=R.1/\0=R.2))) (by kernel_rfl)<|by
 rintro p0 h R hR
 subst hR
 have hl:=h.2.1
 refine(⟨(fun t a=>∃i:Nat,a=(i:Int)/\i<=p0.wD.length/\(0<=t/\t<18446744073709551616)/\totA t (p0.wD.drop i)=totA 0 p0.wD),(fun _ a=>(p0.wD.length-a).toNat),⟨0,rfl,by omega,by omega,rfl⟩,?_⟩)
 rintro t _ ⟨i,rfl,hi,ht,he⟩
 refine⟨fun hc=> ?_,fun hc=> ?_⟩
 ·have hc:=of_decide_eq_true hc
  have hi' :i<p0.wD.length:=by omega
  have hb:=h.2.2 _ (List.getElem_mem hi')
  unfold AccOk at hb
  rw[kma _ _ _ hi']at he
  rw[ix_get _ _ hi']
  refine⟨by omega,hc,⟨ht.1,by omega,by omega,by omega⟩,fun hx=> ?_,fun hx=> ?_⟩
  ·have hx:(t+p0.wD[i].wU+0)/18446744073709551616≠0:=by simpa using hx
   rw[if_pos (by omega)]at he
   rw[<-he]
   exact⟨rfl,rfl⟩
  ·have hx:(t+p0.wD[i].wU+0)/18446744073709551616=0:=by simpa using hx
   rw[if_neg (by omega)]at he
   rw[inc_i64 _ (by omega)]
   have e:(t+p0.wD[i].wU+0)%18446744073709551616=t+p0.wD[i].wU:=by omega
   rw[e]
   exact⟨⟨i+1,rfl,by omega,by omega,he⟩,by(dsimp only;omega)⟩
 ·have hc:=of_decide_eq_false hc
  have:i=p0.wD.length:=by omega
  subst this
  rw[List.drop_length]at he
  rw[<-he]
  exact⟨rfl,rfl⟩
noncomputable def kas:Con TB.den:= .gp 64 [yqi] [.st 6] [] fun(p0:Int)=>(1<=p0/\p0<=12,(frF p0 []:wF),())
theorem k4g:kas.Ok Tryz.prog TB:=qrv Bs Tryz.func64 (.r 0 (.nd [] (.jn ⟨[],[],[8],[.one (.d (.bool))],[]⟩ [] .no [] .no) [] (.r 0 (.rt [.frzc 1 0 2])))) c0 (Q:=∀(p0:Int),(1<=p0/\p0<=12)->∀r0:wF,(frF p0 [])=r0-> 
∀J1:Bool->Prop,(∀(b1:Bool),
((b1=true->
0=r0.wC/\0=r0.wa/\([]:List Int)=r0.wh)/\
(b1=false->
0<=i64.wrap (p0+1)/\i64.wrap (p0+1)<=i64.wrap (p0+1)/\((i64.wrap (p0+1)).toNat*8<=140737488355328)/\((i64.wrap (p0+1)).toNat<=maxLen)/\((i64.wrap (p0+1)).toNat=(List.replicate ((i64.wrap (p0+1)).toNat) (0:Int)).length)/\p0=r0.wC/\0=r0.wa/\List.replicate ((i64.wrap (p0+1)).toNat) (0:Int)=r0.wh))->J1 b1)->
(decide (p0<1)=true->
J1 true)/\
(decide (p0<1)=false->
J1 (decide (12<p0)))) (by kernel_rfl)<|by
 rintro p0 h _ rfl
 refine fun J1 j=>⟨fun e=>(by have:=of_decide_eq_true e;omega),fun e=> ?_⟩
 refine j _ ⟨fun e=>(by have:=of_decide_eq_true e;omega),fun _=> ?_⟩
 obtain⟨d,rfl⟩:=Int.eq_ofNat_of_zero_le (show 0<=p0 by omega)
 rw[k15 _ (by omega) (by omega)]
 have e2:((d:Int)+1).toNat=d+1:=by omega
 rw[e2]
 refine⟨by omega,by omega,by omega,by unfold maxLen;omega,by simp,rfl,rfl,?_⟩
 show _=leftS (d:Int).toNat []
 rw[Int.toNat_natCast]
 refine(List.eq_replicate_iff.2 ⟨k1j _ _,fun x hx=> ?_⟩).symm
 obtain⟨i,hi,rfl⟩:=List.mem_map.1 hx
 have:bitN ([]:List Int).length i=false:=by simp[bitN]
 rw[if_neg (by rw[this];decide)]
noncomputable def kch:Con TB.den:= .t ⟨65,[],[],(.one (.one (.ptr 0 0))),[.cells [.mp 1],.map yqu (.bool)],false⟩ [] [.sl yqu,.sl (.bool)] [] (([]:List Int),([]:List Bool),())
theorem k51:kch.Ok Tryz.prog TB:=ptv Bs Tryz.func65 .no c0 (Q:=∀e1k:List Int,([]:List Int)=e1k->∀e1v:List Bool,([]:List Bool)=e1v-> 
([]:List Int)=e1k/\([]:List Bool)=e1v) (by kernel_rfl)<|by
 rintro _ rfl _ rfl
 exact⟨rfl,rfl⟩
noncomputable def k79:Con TB.den:= .tp 40 [.st 5] [.bool] [] fun(p0:wAb)=>((prS p0:Bool),())
theorem k98:k79.Ok Tryz.prog TB:=qtv Bs Tryz.func40 (.r 0 (.jn ⟨[],[],[3],[.one (.d (.bool))],[]⟩ [] .no [] (.jn ⟨[],[],[4],[.one (.d (.bool))],[]⟩ [] .no [] .no))) c0 (Q:=∀(p0:wAb),∀r0:Bool,prS p0=r0-> 
∀J1:Bool->Prop,(∀(b1:Bool),
(∀J2:Bool->Prop,(∀(f1:Bool),
((b1=true->
(f1=true->
(decide (1<=p0.wAq)=true->
decide (p0.wAq<=64)=r0)/\
(decide (1<=p0.wAq)=false->
false=r0))/\
(f1=false->
false=r0))/\
(b1=false->
false=r0))->J2 f1)->
((p0.wAf==1)=true->
J2 true)/\
((p0.wAf==1)=false->
((p0.wAf==2)=true->
J2 true)/\
((p0.wAf==2)=false->
((p0.wAf==4)=true->
J2 true)/\
((p0.wAf==4)=false->
J2 (p0.wAf==8)))))->J1 b1)->
(decide (2<=p0.wAp)=true->
(decide (p0.wAp<=256)=true->
let v1:Int:=iand .i64 p0.wAp (i64.wrap (p0.wAp-1))
J1 (v1==0))/\
(decide (p0.wAp<=256)=false->
J1 false))/\
(decide (2<=p0.wAp)=false->
J1 false)) (by kernel_rfl)<|by
 rintro p0 _ rfl
 have hb4:pws 4 1 p0.wAf=((p0.wAf==1)||(p0.wAf==2)||(p0.wAf==4)||(p0.wAf==8)):=by simp[pws,List.range_succ,Bool.or_assoc]
 intro J1 j1
 have j1:∀a,a=pws 8 2 p0.wAp->J1 a:=by
  intro a ha
  refine j1 _ fun J2 j2=> ?_
  have j2:∀b,b=pws 4 1 p0.wAf->J2 b:=by
   intro b hb
   refine j2 _ ?_
   unfold prS
   rw[<-ha,<-hb]
   refine⟨fun e=>⟨fun e2=>⟨fun e3=> ?_,fun e3=> ?_⟩,fun e2=> ?_⟩,fun e=> ?_⟩
   ·rw[e,e2,e3];simp
   ·rw[e,e2,e3];simp
   ·rw[e,e2];simp
   ·rw[e];simp
  refine⟨fun e=>j2 _ ?_,fun e=>⟨fun e2=>j2 _ ?_,fun e2=>⟨fun e3=>j2 _ ?_,fun e3=>j2 _ ?_⟩⟩⟩
  ·rw[hb4,e];rfl
  ·rw[hb4,e,e2];rfl
  ·rw[hb4,e,e2,e3];rfl
  ·rw[hb4,e,e2,e3];rfl
 refine⟨fun e=>⟨fun e2=> ?_,fun e2=>j1 _ ?_⟩,fun e=>j1 _ ?_⟩
 ·have e:=of_decide_eq_true e
  have e2:=of_decide_eq_true e2
  obtain⟨b,hb⟩:=Int.eq_ofNat_of_zero_le (show 0<=p0.wAp by omega)
  refine j1 _ ?_
  rw[hb,k15 _ (by omega) (by omega)]
  exact pws_and b (by omega)
 ·have e2:=of_decide_eq_false e2
  cases hq:pws 8 2 p0.wAp with
  |false=>rfl
  |true=>have:=kea hq (by decide);simp at this;omega
 ·have e:=of_decide_eq_false e
  cases hq:pws 8 2 p0.wAp with
  |false=>rfl
  |true=>have:=kea hq (by decide);simp at this;omega
noncomputable def k9a:Con TB.den:= .tp 21 [.st 0] [yqi] [] fun(p0:wJ)=>((rulesE p0:Int),())
theorem k2b:k9a.Ok Tryz.prog TB:=qtv Bs Tryz.func21 (.r 0 (.jn ⟨[],[],[3],[.one (.d (.bool))],[]⟩ [] .no [] .no)) (k98.c c0) (Q:=∀(p0:wJ),∀r0:Int,rulesE p0=r0-> 
∀J1:Bool->Prop,(∀(b1:Bool),
(((!b1)=true->
1=r0)/\
((!b1)=false->
((p0.wAE==1)=true->
let r1:Bool:=(prS (wAb.mk p0.wR p0.wO p0.wN))
((!r1)=true->
1=r0)/\
((!r1)=false->
0=r0))/\
((p0.wAE==1)=false->
0=r0)))->J1 b1)->
(decide (1<=p0.wAE)=true->
(decide (p0.wAE<=3)=true->
(decide (1<=p0.wC)=true->
(decide (p0.wC<=12)=true->
(decide (1<=p0.wm)=true->
(decide (p0.wm<=100)=true->
(decide (1<=p0.wc)=true->
(decide (p0.wc<=1048576)=true->
(decide (p0.wQ<=4294967296)=true->
(decide (1<=p0.wAJ)=true->
J1 (decide (p0.wAJ<=65536)))/\
(decide (1<=p0.wAJ)=false->
J1 false))/\
(decide (p0.wQ<=4294967296)=false->
J1 false))/\
(decide (p0.wc<=1048576)=false->
J1 false))/\
(decide (1<=p0.wc)=false->
J1 false))/\
(decide (p0.wm<=100)=false->
J1 false))/\
(decide (1<=p0.wm)=false->
J1 false))/\
(decide (p0.wC<=12)=false->
J1 false))/\
(decide (1<=p0.wC)=false->
J1 false))/\
(decide (p0.wAE<=3)=false->
J1 false))/\
(decide (1<=p0.wAE)=false->
J1 false)) (by kernel_rfl)<|by
 rintro p0 _ rfl
 intro J1 j1
 have j1:∀b,b=rulesB p0->J1 b:=by
  intro b hb
  refine j1 _ ?_
  unfold rulesE
  rw[<-hb]
  refine⟨fun e=> ?_,fun e=> ?_⟩
  ·have e:b=false:=by simpa using e
   rw[e];rfl
  ·have e:b=true:=by simpa using e
   rw[e,if_pos rfl]
   refine⟨fun e2=>⟨fun e3=> ?_,fun e3=> ?_⟩,fun e2=> ?_⟩
   ·have e2:p0.wAE=1:=by simpa using e2
    have e3:¬prS ⟨p0.wR,p0.wO,p0.wN⟩=true:=by simpa using e3
    rw[if_pos e2,if_neg e3]
   ·have e2:p0.wAE=1:=by simpa using e2
    have e3:prS ⟨p0.wR,p0.wO,p0.wN⟩=true:=by simpa using e3
    rw[if_pos e2,if_pos e3]
   ·have e2:¬p0.wAE=1:=by simpa using e2
    rw[if_neg e2]
 have no:∀b:Bool,(b=false->rulesB p0=false)->b=false->false=rulesB p0:=fun b h e=>(h e).symm
 refine⟨fun e1=>⟨fun e2=>⟨fun e3=>⟨fun e4=>⟨fun e5=>⟨fun e6=>⟨fun e7=>⟨fun e8=>⟨fun e9=>⟨fun e10=>j1 _ ?_,fun e=>j1 _ ?_⟩,fun e=>j1 _ ?_⟩,fun e=>j1 _ ?_⟩,fun e=>j1 _ ?_⟩,fun e=>j1 _ ?_⟩,fun e=>j1 _ ?_⟩,fun e=>j1 _ ?_⟩,fun e=>j1 _ ?_⟩,fun e=>j1 _ ?_⟩,fun e=>j1 _ ?_⟩
 ·unfold rulesB;rw[e1,e2,e3,e4,e5,e6,e7,e8,e9,e10];simp
 all_goals unfold rulesB;rw[e];simp
noncomputable def kg5:Con TB.den:= .g ⟨41,[.agg [zqi,zqi,zqi,zqi,zqi,zqu,zqi,zqi,zqu]],[],(.tup [.one (.ptr 0 0),.one (zqi)]),[.cells [zqi,zqi,zqi,zqi,zqi,zqu,zqi,zqi,zqu,zqi,zqi,zql,.row 1,.ptr 2 0,.d (.sl (.st 9)),zqu,.row 3,.row 4],.vec yqu,.cells [.mp 5],.vec yqu,.vec (.st 10),.map yqu (.bool)],true⟩ [.st 0] [yqi,yqi,yqi,yqi,yqi,yqi,yqu,yqi,yqi,yqu,yqi,yqi,.sl yqu,.sl (.st 9),yqu,.sl yqu,.sl yqu,.sl (.st 10),.sl yqu,.sl (.bool)] [] fun(p0:wJ)=>(rulesE p0=0,(0:Int),((newS p0).R.wAE:Int),((newS p0).R.wC:Int),((newS p0).R.wR:Int),((newS p0).R.wO:Int),((newS p0).R.wN:Int),((newS p0).R.wQ:Int),((newS p0).R.wm:Int),((newS p0).R.wc:Int),((newS p0).R.wAJ:Int),((newS p0).F.wC:Int),((newS p0).F.wa:Int),((newS p0).F.wh:List Int),((newS p0).b:List wA),((newS p0).n:Int),((newS p0).l:List Int),((newS p0).r:List Int),((newS p0).p:List wS),((newS p0).k:List Int),((newS p0).v:List Bool),())
theorem kib:kg5.Ok Tryz.prog TB:=prx Bs [19] Tryz.func41 (.r 3 (.rt [.rnilc 30 12 yqu,.rnilc 30 17 (.st 10)])) x0 (k2b.c (k4g.c (k51.c (k2c.c c0)))) (Q:=∀(p0:wJ),(rulesE p0=0)->∀r1:Int,(0:Int)=r1->∀Ao:Int,((newS p0).R.wAE)=Ao->∀Am:Int,((newS p0).R.wC)=Am->∀Ap:Int,((newS p0).R.wR)=Ap->∀Aq:Int,((newS p0).R.wO)=Aq->∀Bi:Int,((newS p0).R.wN)=Bi->∀Bj:Int,((newS p0).R.wQ)=Bj->∀Be:Int,((newS p0).R.wm)=Be->∀Bf:Int,((newS p0).R.wc)=Bf->∀Bg:Int,((newS p0).R.wAJ)=Bg->∀Bh:Int,((newS p0).F.wC)=Bh->∀Ba:Int,((newS p0).F.wa)=Ba->∀Bb:List Int,((newS p0).F.wh)=Bb->∀Bc:List wA,((newS p0).b)=Bc->∀Bd:Int,((newS p0).n)=Bd->∀e1:List Int,((newS p0).l)=e1->∀e3:List Int,((newS p0).r)=e3->∀e4:List wS,((newS p0).p)=e4->∀e5k:List Int,((newS p0).k)=e5k->∀e5v:List Bool,((newS p0).v)=e5v-> 
(((rulesE p0) !=0)=true->
False)/\
(((rulesE p0) !=0)=false->
(1<=p0.wC/\p0.wC<=12)/\(FV (frF p0.wC []))/\(0=([]:List wS).length)/\([(rootF (frF p0.wC []))].length=[(rootF (frF p0.wC []))].length)/\(0=([]:List Int).length)/\0=r1/\p0.wAE=Ao/\p0.wC=Am/\p0.wR=Ap/\p0.wO=Aq/\p0.wN=Bi/\p0.wQ=Bj/\p0.wm=Be/\p0.wc=Bf/\p0.wAJ=Bg/\(frF p0.wC []).wC=Bh/\(frF p0.wC []).wa=Ba/\(frF p0.wC []).wh=Bb/\([]:List wA)=Bc/\0=Bd/\([]:List Int)=e1/\[(rootF (frF p0.wC []))]=e3/\([]:List wS)=e4/\[]=e5k/\[]=e5v)) (by kernel_rfl)<|by
 rintro p0 h _ rfl _ rfl _ rfl _ rfl _ rfl _ rfl _ rfl _ rfl _ rfl _ rfl _ rfl _ rfl _ rfl _ rfl _ rfl _ rfl _ rfl _ rfl _ rfl _ rfl
 have hb:rulesB p0=true:=by
  cases hb:rulesB p0 with
  |true=>rfl
  |false=>unfold rulesE at h;rw[hb]at h;cases h
 have hd:1<=p0.wC/\p0.wC<=12:=by
  simp only[rulesB,Bool.and_eq_true,decide_eq_true_eq]at hb
  omega
 exact⟨fun e=>(by rw[h]at e;cases e),fun _=>⟨hd,frF_FV hd.1 hd.2 (Nat.zero_le _) (fun x hx=>by cases hx),rfl,rfl,rfl,rfl,rfl,rfl,rfl,rfl,rfl,rfl,rfl,rfl,rfl,rfl,rfl,rfl,rfl,rfl,rfl,rfl,rfl,rfl,rfl⟩⟩
noncomputable def kcj:Con TB.den:= .g ⟨41,[.agg [zqi,zqi,zqi,zqi,zqi,zqu,zqi,zqi,zqu]],[],(.tup [.one (.k .nilPtr),.one (zqi)]),[],false⟩ [.st 0] [yqi] [] fun(p0:wJ)=>(rulesE p0≠0,(rulesE p0:Int),())
theorem kd8:kcj.Ok Tryz.prog TB:=prx Bs [19] Tryz.func41 (.r 3 (.rt [.rnilc 30 12 yqu,.rnilc 30 17 (.st 10)])) x0 (k2b.c (k4g.c (k51.c (k2c.c c0)))) (Q:=∀(p0:wJ),(rulesE p0≠0)->∀r1:Int,rulesE p0=r1-> 
(((rulesE p0) !=0)=true->
(rulesE p0)=r1)/\
(((rulesE p0) !=0)=false->
(1<=p0.wC/\p0.wC<=12)/\(FV (frF p0.wC []))/\False)) (by kernel_rfl)<|by
 rintro p0 h _ rfl
 exact⟨fun _=>rfl,fun e=>(h (by simpa using e)).elim⟩
end Go.Proofs.YtijdfglbhaedoaaGreat
end
