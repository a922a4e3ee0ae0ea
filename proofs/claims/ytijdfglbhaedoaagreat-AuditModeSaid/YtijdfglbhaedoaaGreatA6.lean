/-
  Parts of the proofs that the laws of this seat hold of every input, merged by a program: a machine over pure data that is sound for the model, what each function of the translation does in it, and plain lemmas. No conditions but those in each theorem.
-/
import Derived.Test.YtijdfglbhaedoaaGreatA5
set_option maxRecDepth 100000
noncomputable section
namespace Go.Proofs.YtijdfglbhaedoaaGreat
open Go Go.Bv Go.Cv Go.Md Go.RowKit
open Go.IntKind (i64 u64)
noncomputable def k58:Con TB.den:= .t ⟨25,[],[],(.one (.one (.ptr 0 0))),[.cells [.d (.bool),zqu,zqi,.d (.sl (.st 4)),.mp 1,.mp 2,.mp 3],.map (.str) yqi,.map (.str) (.sl yqu),.map (.str) (.bool)],false⟩ [] [.bool,yqu,yqi,.sl (.st 4),.sl (.str),.sl yqi,.sl (.str),.sl (.sl yqu),.sl (.str),.sl (.bool)] [] (false,(0:Int),(0:Int),([]:List wF),([]:List ByteArray),([]:List Int),([]:List ByteArray),([]:List (List Int)),([]:List ByteArray),([]:List Bool),())
theorem k28:k58.Ok Tryz.prog TB:=ptv Bs Tryz.func25 .no c0 (Q:=∀As:Bool,(false:Bool)=As->∀Ap:Int,(0:Int)=Ap->∀At:Int,(0:Int)=At->∀Aq:List wF,([]:List wF)=Aq->∀e1k:List ByteArray,([]:List ByteArray)=e1k->∀e1v:List Int,([]:List Int)=e1v->∀e2k:List ByteArray,([]:List ByteArray)=e2k->∀e2v:List (List Int),([]:List (List Int))=e2v->∀e3k:List ByteArray,([]:List ByteArray)=e3k->∀e3v:List Bool,([]:List Bool)=e3v-> 
false=As/\0=Ap/\0=At/\([]:List wF)=Aq/\([]:List ByteArray)=e1k/\([]:List Int)=e1v/\([]:List ByteArray)=e2k/\([]:List (List Int))=e2v/\([]:List ByteArray)=e3k/\([]:List Bool)=e3v) (by kernel_rfl)<|by
 rintro _ rfl _ rfl _ rfl _ rfl _ rfl _ rfl _ rfl _ rfl _ rfl _ rfl
 exact⟨rfl,rfl,rfl,rfl,rfl,rfl,rfl,rfl,rfl,rfl⟩
noncomputable def k9o:Con TB.den:= .t ⟨9,[],[],(.one (.one (.ptr 0 0))),[.cells [.d (.bool),zqu,zqi,.d (.sl (.st 4)),.mp 1,.mp 2,.mp 3],.map (.str) yqi,.map (.str) (.sl yqu),.map (.str) (.bool)],false⟩ [] [.bool,yqu,yqi,.sl (.st 4),.sl (.str),.sl yqi,.sl (.str),.sl (.sl yqu),.sl (.str),.sl (.bool)] [] (false,(0:Int),(0:Int),([]:List wF),([]:List ByteArray),([]:List Int),([]:List ByteArray),([]:List (List Int)),([]:List ByteArray),([]:List Bool),())
theorem k4d:k9o.Ok Tryz.prog TB:=ptv Bs Tryz.func9 .no (k28.c c0) (Q:=∀As:Bool,(false:Bool)=As->∀Ap:Int,(0:Int)=Ap->∀At:Int,(0:Int)=At->∀Aq:List wF,([]:List wF)=Aq->∀e1k:List ByteArray,([]:List ByteArray)=e1k->∀e1v:List Int,([]:List Int)=e1v->∀e2k:List ByteArray,([]:List ByteArray)=e2k->∀e2v:List (List Int),([]:List (List Int))=e2v->∀e3k:List ByteArray,([]:List ByteArray)=e3k->∀e3v:List Bool,([]:List Bool)=e3v-> 
false=As/\0=Ap/\0=At/\[]=Aq/\[]=e1k/\[]=e1v/\[]=e2k/\[]=e2v/\[]=e3k/\[]=e3v) (by kernel_rfl)<|by
 rintro _ rfl _ rfl _ rfl _ rfl _ rfl _ rfl _ rfl _ rfl _ rfl _ rfl
 exact⟨rfl,rfl,rfl,rfl,rfl,rfl,rfl,rfl,rfl,rfl⟩
noncomputable def kc3:Con TB.den:= .gp 49 [.sl yqu,.sl yqu] [.bool] [] fun(p0 p1:List Int)=>(p0.length<=9223372036854775807/\p1.length<=9223372036854775807,(decide (p0=p1):Bool),())
theorem kee:kc3.Ok Tryz.prog TB:=qrv Bs Tryz.func49 (.r 1 (.nd [] (.r 0 (.lp [] ⟨[],[],[5],[.one (zqi)],[]⟩ .no)) [] .no)) c0 (Q:=∀(p0 p1:List Int),(p0.length<=9223372036854775807/\p1.length<=9223372036854775807)->∀r0:Bool,(decide (p0=p1))=r0-> 
(((p0.length:Int) !=(p1.length:Int))=true->
false=r0)/\
(((p0.length:Int) !=(p1.length:Int))=false->
∃(I1:Int->Prop) (M1:Int->Nat),I1 0/\∀(b1:Int),(I1 b1->
(decide (b1<(p0.length:Int))=true->
(0<=b1)/\b1<(p0.length:Int)/\(0<=b1)/\b1<(p1.length:Int)/\(((ix p0 b1) !=(ix p1 b1))=true->
false=r0)/\
(((ix p0 b1) !=(ix p1 b1))=false->
I1 (i64.wrap (b1+1))/\M1 (i64.wrap (b1+1))<M1 b1))/\
(decide (b1<(p0.length:Int))=false->
true=r0)))) (by kernel_rfl)<|by
 rintro p0 p1 h _ rfl
 obtain⟨h1,h2⟩:=h
 have no:p0≠p1->false=decide (p0=p1):=fun h=>(decide_eq_false h).symm
 refine⟨fun e=>no ?_,fun e=> ?_⟩
 ·rintro rfl
  simp at e
 have e:(p0.length:Int)=p1.length:=by simpa using e
 refine⟨(fun i=>0<=i/\i<=p0.length/\p0.take i.toNat=p1.take i.toNat),(fun i=>(p0.length-i).toNat),⟨by omega,by omega,by simp⟩,?_⟩
 rintro i ⟨g0,g1,g2⟩
 refine⟨fun hh=> ?_,fun hh=> ?_⟩
 ·have hh:=of_decide_eq_true hh
  refine⟨g0,hh,g0,by omega,fun e2=>no ?_,fun e2=> ?_⟩
  ·rintro rfl
   simp at e2
  ·have e2:ix p0 i=ix p1 i:=by simpa using e2
   rw[inc i p0.length g0 hh (by omega)]
   refine⟨⟨by omega,by omega,?_⟩,by(first|omega|(dsimp only;omega))⟩
   rw[ki p0 i g0 hh,ki p1 i g0 (by omega),g2,e2]
 ·have hh:=of_decide_eq_false hh
  rw[List.take_of_length_le (by omega),List.take_of_length_le (by omega)]at g2
  exact(decide_eq_true g2).symm
noncomputable def k5e:Con TB.den:= .gp 28 [.st 4,.st 4] [.bool] [] fun(p0 p1:wF)=>(p0.wAR.length<=9223372036854775807/\p1.wAR.length<=9223372036854775807,(sameQ p0 p1:Bool),())
theorem k5r:k5e.Ok Tryz.prog TB:=qrv Bs Tryz.func28 .no (kee.c c0) (Q:=∀(p0 p1:wF),(p0.wAR.length<=9223372036854775807/\p1.wAR.length<=9223372036854775807)->∀r0:Bool,sameQ p0 p1=r0-> 
((p0.wAY==p1.wAY)=true->
((p0.wAW==p1.wAW)=true->
(p0.wAR.length<=9223372036854775807/\p1.wAR.length<=9223372036854775807)/\(decide (p0.wAR=p1.wAR))=r0)/\
((p0.wAW==p1.wAW)=false->
false=r0))/\
((p0.wAY==p1.wAY)=false->
false=r0)) (by kernel_rfl)<|by
 rintro p0 p1 h _ rfl
 refine⟨fun e=>⟨fun e2=>⟨h,?_⟩,fun e2=> ?_⟩,fun e=> ?_⟩<;>unfold sameQ
 ·rw[e,e2];rfl
 ·rw[e,e2];rfl
 ·rw[e];rfl
noncomputable def kc8:Con TB.den:= .gp 13 [.st 16,.st 16] [.bool] [] fun(p0 p1:wj)=>((p0.wM.length<=9223372036854775807/\p1.wM.length<=9223372036854775807)/\p0.wL.length<=9223372036854775807/\p1.wL.length<=9223372036854775807,(sameR p0 p1:Bool),())
theorem k7g:kc8.Ok Tryz.prog TB:=qrv Bs Tryz.func13 .no (k5r.c c0) (Q:=∀(p0 p1:wj),((p0.wM.length<=9223372036854775807/\p1.wM.length<=9223372036854775807)/\p0.wL.length<=9223372036854775807/\p1.wL.length<=9223372036854775807)->∀r0:Bool,sameR p0 p1=r0-> 
((p0.wAC==p1.wAC)=true->
((p0.wAI==p1.wAI)=true->
((p0.wy==p1.wy)=true->
((p0.wt==p1.wt)=true->
((p0.wAB==p1.wAB)=true->
((p0.wg==p1.wg)=true->
((p0.wZ==p1.wZ)=true->
((p0.wn==p1.wn)=true->
((wF.mk p0.wW p0.wM p0.wR).wAR.length<=9223372036854775807/\(wF.mk p1.wW p1.wM p1.wR).wAR.length<=9223372036854775807)/\let r1:Bool:=(sameQ (wF.mk p0.wW p0.wM p0.wR) (wF.mk p1.wW p1.wM p1.wR))
(r1=true->
((wF.mk p0.wV p0.wL p0.wS).wAR.length<=9223372036854775807/\(wF.mk p1.wV p1.wL p1.wS).wAR.length<=9223372036854775807)/\let r2:Bool:=(sameQ (wF.mk p0.wV p0.wL p0.wS) (wF.mk p1.wV p1.wL p1.wS))
r2=r0)/\
(r1=false->
false=r0))/\
((p0.wn==p1.wn)=false->
false=r0))/\
((p0.wZ==p1.wZ)=false->
false=r0))/\
((p0.wg==p1.wg)=false->
false=r0))/\
((p0.wAB==p1.wAB)=false->
false=r0))/\
((p0.wt==p1.wt)=false->
false=r0))/\
((p0.wy==p1.wy)=false->
false=r0))/\
((p0.wAI==p1.wAI)=false->
false=r0))/\
((p0.wAC==p1.wAC)=false->
false=r0)) (by kernel_rfl)<|by
 rintro p0 p1 h _ rfl
 unfold sameR
 refine⟨fun e1=>⟨fun e2=>⟨fun e3=>⟨fun e4=>⟨fun e5=>⟨fun e6=>⟨fun e7=>⟨fun e8=>⟨h.1,fun e9=>⟨h.2,?_⟩,fun e9=> ?_⟩,fun e8=> ?_⟩,fun e7=> ?_⟩,fun e6=> ?_⟩,fun e5=> ?_⟩,fun e4=> ?_⟩,fun e3=> ?_⟩,fun e2=> ?_⟩,fun e1=> ?_⟩
 ·rw[e1,e2,e3,e4,e5,e6,e7,e8,show sameQ (qA p0) (qA p1)=true from e9];rfl
 ·rw[e1,e2,e3,e4,e5,e6,e7,e8,show sameQ (qA p0) (qA p1)=false from e9];rfl
 ·rw[e1,e2,e3,e4,e5,e6,e7,e8];rfl
 ·rw[e1,e2,e3,e4,e5,e6,e7];rfl
 ·rw[e1,e2,e3,e4,e5,e6];rfl
 ·rw[e1,e2,e3,e4,e5];rfl
 ·rw[e1,e2,e3,e4];rfl
 ·rw[e1,e2,e3];rfl
 ·rw[e1,e2];rfl
 ·rw[e1];rfl
noncomputable def kbv:Con TB.den:= .tp 6 [] [.bool] [] (true,())
theorem kck:kbv.Ok Tryz.prog TB:=qtv Bs Tryz.func6 .no (k4d.c (kdn.c (k4e.c (k5i.c (k7g.c c0))))) (Q:=∀r0:Bool,(true:Bool)=r0-> 
let v1:List wU:=[wU.mk 0 1 7 0 0 ([]:List wx),wU.mk 0 2 8 0 0 ([]:List wx)]
((rulesE (wE.mk 2 2 0 0 0 50 3 5 1)=0->(wE.mk 2 2 0 0 0 50 3 5 1).we=2->false=false->BL0 v1/\v1.length<=8)/\0<=(wE.mk 2 2 0 0 0 50 3 5 1).wJ)/\let r2:=(audS false (wE.mk 2 2 0 0 0 50 3 5 1) v1).1
let r3:Int:=((audS false (wE.mk 2 2 0 0 0 50 3 5 1) v1).2)
((rulesE (wE.mk 2 2 0 0 0 50 3 5 1)=0->(wE.mk 2 2 0 0 0 50 3 5 1).we=2->false=false->BL0 [wU.mk 0 2 0 0 0 ([]:List wx)]/\[wU.mk 0 2 0 0 0 ([]:List wx)].length<=8)/\0<=(wE.mk 2 2 0 0 0 50 3 5 1).wJ)/\let r4:=(audS false (wE.mk 2 2 0 0 0 50 3 5 1) [wU.mk 0 2 0 0 0 ([]:List wx)]).1
let r5:Int:=((audS false (wE.mk 2 2 0 0 0 50 3 5 1) [wU.mk 0 2 0 0 0 ([]:List wx)]).2)
((r3==0)=true->
((r2.wM.length<=9223372036854775807/\(wj.mk 100 100 0 0 0 0 0 0 0 ([]:List Int) 0 0 ([]:List Int) 0).wM.length<=9223372036854775807)/\r2.wL.length<=9223372036854775807/\(wj.mk 100 100 0 0 0 0 0 0 0 ([]:List Int) 0 0 ([]:List Int) 0).wL.length<=9223372036854775807)/\let r6:Bool:=(sameR r2 (wj.mk 100 100 0 0 0 0 0 0 0 ([]:List Int) 0 0 ([]:List Int) 0))
(r6=true->
(r5==18)=r0)/\
(r6=false->
false=r0))/\
((r3==0)=false->
false=r0)) (by kernel_rfl)<|by
 rintro _ rfl
 have hw:∀b:wU,b.Txs=[]->U64 b.wAU->BR' b:=fun b h1 h2=>⟨h2,fun t ht=>(by rw[h1]at ht;cases ht),fun t ht=>(by rw[h1]at ht;cases ht)⟩
 have b2:BL0 [wU.mk 0 1 7 0 0 [],wU.mk 0 2 8 0 0 []]:=⟨fun b hb=>(by simp at hb;rcases hb with rfl|rfl<;>rfl),fun b hb=>(by simp at hb;rcases hb with rfl|rfl<;>exact hw _ rfl ⟨by decide,by decide⟩)⟩
 have b1:BL0 [wU.mk 0 2 0 0 0 []]:=⟨fun b hb=>(by simp at hb;subst hb;rfl),fun b hb=>(by simp at hb;subst hb;exact hw _ rfl ⟨by decide,by decide⟩)⟩
 have e1:audS false (wE.mk 2 2 0 0 0 50 3 5 1) [wU.mk 0 1 7 0 0 [],wU.mk 0 2 8 0 0 []]=(wj.mk 100 100 0 0 0 0 0 0 0 [] 0 0 [] 0,0):=by kernel_rfl
 have e2:(audS false (wE.mk 2 2 0 0 0 50 3 5 1) [wU.mk 0 2 0 0 0 []]).2=18:=by kernel_rfl
 refine⟨⟨fun _ _ _=>⟨b2,by decide⟩,by decide⟩,?_⟩
 dsimp only
 rw[e1,e2]
 refine⟨⟨fun _ _ _=>⟨b1,by decide⟩,by decide⟩,fun _=>⟨⟨⟨by decide,by decide⟩,by decide,by decide⟩,?_⟩,fun h=>by cases h⟩
 rw[k9n]
 exact⟨fun _=>rfl,fun h=>by cases h⟩
noncomputable def k7t:Con TB.den:= .t ⟨10,[.one (zqu)],[],(.one (.one (.ptr 0 0))),[.cells [.d (.bool),zqu,zqi,.d (.sl (.st 4)),.mp 1,.mp 2,.mp 3],.map (.str) yqi,.map (.str) (.sl yqu),.map (.str) (.bool)],false⟩ [yqu] [.bool,yqu,yqi,.sl (.st 4),.sl (.str),.sl yqi,.sl (.str),.sl (.sl yqu),.sl (.str),.sl (.bool)] [] fun(p0:Int)=>(true,p0,(0:Int),([]:List wF),([]:List ByteArray),([]:List Int),([]:List ByteArray),([]:List (List Int)),([]:List ByteArray),([]:List Bool),())
theorem k9g:k7t.Ok Tryz.prog TB:=ptv Bs Tryz.func10 .no (k28.c c0) (Q:=∀(p0:Int),∀As:Bool,(true:Bool)=As->∀Ap:Int,p0=Ap->∀At:Int,(0:Int)=At->∀Aq:List wF,([]:List wF)=Aq->∀e1k:List ByteArray,([]:List ByteArray)=e1k->∀e1v:List Int,([]:List Int)=e1v->∀e2k:List ByteArray,([]:List ByteArray)=e2k->∀e2v:List (List Int),([]:List (List Int))=e2v->∀e3k:List ByteArray,([]:List ByteArray)=e3k->∀e3v:List Bool,([]:List Bool)=e3v-> 
true=As/\p0=Ap/\0=At/\[]=Aq/\[]=e1k/\[]=e1v/\[]=e2k/\[]=e2v/\[]=e3k/\[]=e3v) (by kernel_rfl)<|by
 rintro p0 _ rfl _ rfl _ rfl _ rfl _ rfl _ rfl _ rfl _ rfl _ rfl _ rfl
 exact⟨rfl,rfl,rfl,rfl,rfl,rfl,rfl,rfl,rfl,rfl⟩
noncomputable def k9y:Con TB.den:= .tp 27 [.st 5] [.bool] [] fun(p0:ww)=>((prS p0:Bool),())
theorem kbs:k9y.Ok Tryz.prog TB:=qtv Bs Tryz.func27 (.r 1 (.nd [] (.r 0 (.lp [] ⟨[],[],[3,5],[.one (.d (.bool)),.one (zqi)],[]⟩ .no)) [] (.nd [] (.r 0 (.lp [] ⟨[],[],[4,6],[.one (.d (.bool)),.one (zqi)],[]⟩ .no)) [] .no))) c0 (Q:=∀(p0:ww),∀r0:Bool,prS p0=r0-> 
∃(I1:Bool->Int->Prop) (M1:Bool->Int->Nat),I1 false 2/\∀(b1:Bool) (f1:Int),(I1 b1 f1->
(decide (f1<=256)=true->
(b1=true->
I1 true (i64.wrap (2*f1))/\M1 true (i64.wrap (2*f1))<M1 b1 f1)/\
(b1=false->
I1 (p0.wAK==f1) (i64.wrap (2*f1))/\M1 (p0.wAK==f1) (i64.wrap (2*f1))<M1 b1 f1))/\
(decide (f1<=256)=false->
∃(I2:Bool->Int->Prop) (M2:Bool->Int->Nat),I2 false 1/\∀(i1:Bool) (k1:Int),(I2 i1 k1->
(decide (k1<=8)=true->
(i1=true->
I2 true (i64.wrap (2*k1))/\M2 true (i64.wrap (2*k1))<M2 i1 k1)/\
(i1=false->
I2 (p0.wAA==k1) (i64.wrap (2*k1))/\M2 (p0.wAA==k1) (i64.wrap (2*k1))<M2 i1 k1))/\
(decide (k1<=8)=false->
(b1=true->
(i1=true->
(decide (1<=p0.wAJ)=true->
decide (p0.wAJ<=64)=r0)/\
(decide (1<=p0.wAJ)=false->
false=r0))/\
(i1=false->
false=r0))/\
(b1=false->
false=r0)))))) (by kernel_rfl)<|by
 rintro p0 _ rfl
 have hw:∀n k:Nat,k<=8->i64.wrap (2*(n*((2^k:Nat):Int)))=n*((2^(k+1):Nat):Int)∨2<n:=by
  intro n k hk
  rcases Nat.lt_or_ge 2 n with h|h
  ·exact .inr h
  ·have h1:2^k<=2^8:=Nat.pow_le_pow_right (by decide) hk
   have h2:2^(k+1)=2*2^k:=by rw[Nat.pow_succ];omega
   rw[h2]
   generalize 2^k=q at *
   refine .inl ?_
   have:n=0∨n=1∨n=2:=by omega
   rcases this with rfl|rfl|rfl
   ·rw[kp _ (by omega) (by omega)];omega
   ·rw[kp _ (by omega) (by omega)];omega
   ·rw[kp _ (by omega) (by omega)];omega
 refine(⟨(fun s a=>∃k:Nat,k<=8/\a=2*((2^k:Nat):Int)/\s=pws k 2 p0.wAK),(fun _ a=>(1000-a).toNat),⟨0,by omega,rfl,rfl⟩,?_⟩)
 rintro _ _ ⟨k,hk,rfl,rfl⟩
 have h1:=Nat.two_pow_pos k
 have h2:2^(k+1)=2*2^k:=by rw[Nat.pow_succ];omega
 refine⟨fun e=> ?_,fun e=> ?_⟩
 ·have e:=of_decide_eq_true e
  have hk7:k<=7:=by
   rcases Nat.lt_or_ge k 8 with h|h
   ·omega
   ·have:k=8:=by omega
    subst this
    exact absurd e (by decide)
  have hwk:i64.wrap (2*(2*((2^k:Nat):Int)))=2*((2^(k+1):Nat):Int):=(hw 2 k hk).resolve_right (by decide)
  rw[hwk]
  refine⟨fun e2=>⟨⟨k+1,by omega,rfl,?_⟩,?_⟩,fun e2=>⟨⟨k+1,by omega,rfl,?_⟩,?_⟩⟩
  ·rw[k4q,e2];rfl
  ·rw[h2];generalize 2^k=q at *;(dsimp only;omega)
  ·rw[k4q,e2];rfl
  ·rw[h2];generalize 2^k=q at *;(dsimp only;omega)
 have e:=of_decide_eq_false e
 have hk8:k=8:=by
  rcases Nat.lt_or_ge k 8 with h|h
  ·have:2^k<=2^7:=Nat.pow_le_pow_right (by decide) (by omega)
   omega
  ·omega
 subst hk8
 refine⟨(fun s a=>∃k:Nat,k<=4/\a=1*((2^k:Nat):Int)/\s=pws k 1 p0.wAA),(fun _ a=>(1000-a).toNat),⟨0,by omega,rfl,rfl⟩,?_⟩
 rintro _ _ ⟨k,hk,rfl,rfl⟩
 have h1:=Nat.two_pow_pos k
 have h2:2^(k+1)=2*2^k:=by rw[Nat.pow_succ];omega
 refine⟨fun e=> ?_,fun e=> ?_⟩
 ·have e:=of_decide_eq_true e
  have hk7:k<=3:=by
   rcases Nat.lt_or_ge k 4 with h|h
   ·omega
   ·have:k=4:=by omega
    subst this
    exact absurd e (by decide)
  have hwk:i64.wrap (2*(1*((2^k:Nat):Int)))=1*((2^(k+1):Nat):Int):=(hw 1 k (by omega)).resolve_right (by decide)
  rw[hwk]
  refine⟨fun e2=>⟨⟨k+1,by omega,rfl,?_⟩,?_⟩,fun e2=>⟨⟨k+1,by omega,rfl,?_⟩,?_⟩⟩
  ·rw[k4q,e2];rfl
  ·rw[h2];generalize 2^k=q at *;(dsimp only;omega)
  ·rw[k4q,e2];rfl
  ·rw[h2];generalize 2^k=q at *;(dsimp only;omega)
 have e:=of_decide_eq_false e
 have hk4:k=4:=by
  rcases Nat.lt_or_ge k 4 with h|h
  ·have:2^k<=2^3:=Nat.pow_le_pow_right (by decide) (by omega)
   omega
  ·omega
 subst hk4
 unfold prS
 refine⟨fun e=>⟨fun e2=>⟨fun e3=> ?_,fun e3=> ?_⟩,fun e2=> ?_⟩,fun e=> ?_⟩
 ·rw[e,e2,e3];simp
 ·rw[e,e2,e3];simp
 ·rw[e,e2];simp
 ·rw[e];simp
noncomputable def kbq:Con TB.den:= .tp 12 [.st 0] [yqi] [] fun(p0:wE)=>((rulesE p0:Int),())
theorem kdi:kbq.Ok Tryz.prog TB:=qtv Bs Tryz.func12 .no (kbs.c c0) (Q:=∀(p0:wE),∀r0:Int,rulesE p0=r0-> 
(decide (p0.we<1)=true->
1=r0)/\
(decide (p0.we<1)=false->
(decide (3<p0.we)=true->
1=r0)/\
(decide (3<p0.we)=false->
(decide (p0.wD<1)=true->
1=r0)/\
(decide (p0.wD<1)=false->
(decide (12<p0.wD)=true->
1=r0)/\
(decide (12<p0.wD)=false->
(decide (p0.wb<1)=true->
1=r0)/\
(decide (p0.wb<1)=false->
(decide (100<p0.wb)=true->
1=r0)/\
(decide (100<p0.wb)=false->
(decide (p0.wQ<1)=true->
1=r0)/\
(decide (p0.wQ<1)=false->
(decide (1048576<p0.wQ)=true->
1=r0)/\
(decide (1048576<p0.wQ)=false->
(decide (4294967296<p0.wJ)=true->
1=r0)/\
(decide (4294967296<p0.wJ)=false->
(decide (p0.wq<1)=true->
1=r0)/\
(decide (p0.wq<1)=false->
(decide (65536<p0.wq)=true->
1=r0)/\
(decide (65536<p0.wq)=false->
((p0.we==1)=true->
let r1:Bool:=(prS (ww.mk p0.wI p0.wH p0.wG))
((!r1)=true->
1=r0)/\
((!r1)=false->
0=r0))/\
((p0.we==1)=false->
0=r0))))))))))))) (by kernel_rfl)<|by
 rintro p0 _ rfl
 have no:¬rulesB p0=true->1=rulesE p0:=fun h=>by unfold rulesE;rw[if_neg h]
 have nb:∀c:Prop,(rulesB p0=true->¬c)->c->1=rulesE p0:=fun c h hc=>no fun hb=>h hb hc
 have ub:rulesB p0=true->(1<=p0.we/\p0.we<=3)/\(1<=p0.wD/\p0.wD<=12)/\(1<=p0.wb/\p0.wb<=100)/\(1<=p0.wQ/\p0.wQ<=1048576)/\p0.wJ<=4294967296/\1<=p0.wq/\p0.wq<=65536:=by
  intro hb
  simp only[rulesB,Bool.and_eq_true,decide_eq_true_eq]at hb
  omega
 refine⟨fun e=>nb _ (fun hb h=>by have:=ub hb;omega) (of_decide_eq_true e),fun e1=>⟨fun e=>nb _ (fun hb h=>by have:=ub hb;omega) (of_decide_eq_true e),fun e2=>⟨fun e=>nb _ (fun hb h=>by have:=ub hb;omega) (of_decide_eq_true e),fun e3=>⟨fun e=>nb _ (fun hb h=>by have:=ub hb;omega) (of_decide_eq_true e),fun e4=>⟨fun e=>nb _ (fun hb h=>by have:=ub hb;omega) (of_decide_eq_true e),fun e5=>⟨fun e=>nb _ (fun hb h=>by have:=ub hb;omega) (of_decide_eq_true e),fun e6=>⟨fun e=>nb _ (fun hb h=>by have:=ub hb;omega) (of_decide_eq_true e),fun e7=>⟨fun e=>nb _ (fun hb h=>by have:=ub hb;omega) (of_decide_eq_true e),fun e8=>⟨fun e=>nb _ (fun hb h=>by have:=ub hb;omega) (of_decide_eq_true e),fun e9=>⟨fun e=>nb _ (fun hb h=>by have:=ub hb;omega) (of_decide_eq_true e),fun e10=>⟨fun e=>nb _ (fun hb h=>by have:=ub hb;omega) (of_decide_eq_true e),fun e11=> ?_⟩⟩⟩⟩⟩⟩⟩⟩⟩⟩⟩
 have e1:=of_decide_eq_false e1
 have e2:=of_decide_eq_false e2
 have e3:=of_decide_eq_false e3
 have e4:=of_decide_eq_false e4
 have e5:=of_decide_eq_false e5
 have e6:=of_decide_eq_false e6
 have e7:=of_decide_eq_false e7
 have e8:=of_decide_eq_false e8
 have e9:=of_decide_eq_false e9
 have e10:=of_decide_eq_false e10
 have e11:=of_decide_eq_false e11
 have hb:rulesB p0=true:=by
  simp only[rulesB,Bool.and_eq_true,decide_eq_true_eq]
  omega
 unfold rulesE
 rw[if_pos hb]
 refine⟨fun e=>⟨fun e3=> ?_,fun e3=> ?_⟩,fun e=> ?_⟩
 ·have e:p0.we=1:=by simpa using e
  have e3:¬prS ⟨p0.wI,p0.wH,p0.wG⟩=true:=by simpa using e3
  rw[if_pos e,if_neg e3]
 ·have e:p0.we=1:=by simpa using e
  have e3:prS ⟨p0.wI,p0.wH,p0.wG⟩=true:=by simpa using e3
  rw[if_pos e,if_pos e3]
 ·have e:¬p0.we=1:=by simpa using e
  rw[if_neg e]
noncomputable def kbl:Con TB.den:= .gp 20 [.st 2,yqi] [.bool] [] fun(p0:wx) (p1:Int)=>(p0.wN.length<=9223372036854775807,(smallB p0 p1:Bool),())
theorem kdk:kbl.Ok Tryz.prog TB:=qrv Bs Tryz.func20 (.r 0 (.nd [] (.r 0 (.lp [] ⟨[],[],[5],[.one (zqi)],[]⟩ .no)) [] .no)) c0 (Q:=∀(p0:wx) (p1:Int),(p0.wN.length<=9223372036854775807)->∀r0:Bool,smallB p0 p1=r0-> 
∃(I1:Int->Prop) (M1:Int->Nat),I1 0/\∀(b1:Int),(I1 b1->
(decide (b1<(p0.wN.length:Int))=true->
(0<=b1)/\b1<(p0.wN.length:Int)/\let v1:Bool:=decide (10<(((ix p0.wN b1).wv).length:Int))
(v1=true->
false=r0)/\
(v1=false->
I1 (i64.wrap (b1+1))/\M1 (i64.wrap (b1+1))<M1 b1))/\
(decide (b1<(p0.wN.length:Int))=false->
(decide ((p0.wK.length:Int)<=10)=true->
(decide ((p0.wN.length:Int)<=10)=true->
decide ((p0.wAQ.length:Int)<=p1)=r0)/\
(decide ((p0.wN.length:Int)<=10)=false->
false=r0))/\
(decide ((p0.wK.length:Int)<=10)=false->
false=r0)))) (by kernel_rfl)<|by
 rintro p0 p1 h _ rfl
 refine(⟨(fun i=>0<=i/\i<=p0.wN.length/\∀x∈p0.wN.take i.toNat,x.wv.length<=10),(fun i=>(p0.wN.length-i).toNat),⟨by omega,by omega,by simp⟩,?_⟩)
 rintro i ⟨g0,g1,g2⟩
 refine⟨fun hh=> ?_,fun hh=> ?_⟩
 ·have hh:=of_decide_eq_true hh
  refine⟨g0,hh,fun e=> ?_,fun e=> ?_⟩
  ·have e:=of_decide_eq_true e
   unfold smallB
   have:p0.wN.all (fun x=>decide (x.wv.length<=10))=false:=List.all_eq_false.2 ⟨_,ix_mem p0.wN i g0 hh,by simp;omega⟩
   rw[this]
   simp
  ·have e:=of_decide_eq_false e
   rw[inc i p0.wN.length g0 hh (by omega)]
   refine⟨⟨by omega,by omega,?_⟩,by(dsimp only;omega)⟩
   rw[ki p0.wN i g0 hh]
   intro x hx
   rcases List.mem_append.1 hx with hx|hx
   ·exact g2 x hx
   ·have:x=ix p0.wN i:=by simpa using hx
    rw[this];omega
 ·have hh:=of_decide_eq_false hh
  rw[List.take_of_length_le (by omega)]at g2
  unfold smallB
  have:p0.wN.all (fun x=>decide (x.wv.length<=10))=true:=by simpa using g2
  rw[this]
  refine⟨fun h1=>⟨fun h2=> ?_,fun h2=> ?_⟩,fun h1=> ?_⟩
  ·have h1:=of_decide_eq_true h1
   have h2:=of_decide_eq_true h2
   rw[decide_eq_true (p:=p0.wK.length<=10) (by omega),decide_eq_true (p:=p0.wN.length<=10) (by omega)]
   simp
  ·have h2:=of_decide_eq_false h2
   rw[decide_eq_false (p:=p0.wN.length<=10) (by omega)]
   simp
  ·have h1:=of_decide_eq_false h1
   rw[decide_eq_false (p:=p0.wK.length<=10) (by omega)]
   simp
noncomputable def kbx:Con TB.den:= .gp 7 [.st 0,.sl (.st 3)] [.bool] [] fun(p0:wE) (p1:List wU)=>(p1.length<=9223372036854775807/\∀b∈p1,b.Txs.length<=9223372036854775807/\∀t∈b.Txs,t.wN.length<=9223372036854775807,(smA p0 p1:Bool),())
theorem kcf:kbx.Ok Tryz.prog TB:=qrv Bs Tryz.func7 (.r 1 (.nd [] (.r 0 (.lp [] ⟨[],[],[5],[.one (zqi)],[]⟩ (.r 0 (.nd [] (.r 1 (.lp [] ⟨[],[],[6],[.one (zqi)],[]⟩ .no)) [] .no)))) [] .no)) (kdk.c c0) (Q:=∀(p0:wE) (p1:List wU),(p1.length<=9223372036854775807/\∀b∈p1,b.Txs.length<=9223372036854775807/\∀t∈b.Txs,t.wN.length<=9223372036854775807)->∀r0:Bool,smA p0 p1=r0-> 
(decide (p0.wD<1)=true->
false=r0)/\
(decide (p0.wD<1)=false->
(decide (6<p0.wD)=true->
false=r0)/\
(decide (6<p0.wD)=false->
(decide (8<(p1.length:Int))=true->
false=r0)/\
(decide (8<(p1.length:Int))=false->
∃(I1:Int->Prop) (M1:Int->Nat),I1 0/\∀(b1:Int),(I1 b1->
(decide (b1<(p1.length:Int))=true->
(0<=b1)/\b1<(p1.length:Int)/\let v1:Bool:=decide (4<(((ix p1 b1).Txs).length:Int))
(v1=true->
false=r0)/\
(v1=false->
∃(I2:Int->Prop) (M2:Int->Nat),I2 0/\∀(f1:Int),(I2 f1->
(0<=b1)/\b1<(p1.length:Int)/\let v2:Bool:=decide (f1<(((ix p1 b1).Txs).length:Int))
(v2=true->
(0<=b1)/\b1<(p1.length:Int)/\(0<=f1)/\f1<(((ix p1 b1).Txs).length:Int)/\((ix ((ix p1 b1).Txs) f1).wN.length<=9223372036854775807)/\let r3:Bool:=(smallB (ix ((ix p1 b1).Txs) f1) (1200:Int))
((!r3)=true->
false=r0)/\
((!r3)=false->
I2 (i64.wrap (f1+1))/\M2 (i64.wrap (f1+1))<M2 f1))/\
(v2=false->
I1 (i64.wrap (b1+1))/\M1 (i64.wrap (b1+1))<M1 b1))))/\
(decide (b1<(p1.length:Int))=false->
true=r0)))))) (by kernel_rfl)<|by
 rintro p0 p1 h _ rfl
 obtain⟨hl,hb⟩:=h
 refine⟨fun e1=> ?_,fun e1=>⟨fun e2=> ?_,fun e2=>⟨fun e3=> ?_,fun e3=> ?_⟩⟩⟩
 ·have e1:=of_decide_eq_true e1
  unfold smA
  rw[decide_eq_false (p:=1<=p0.wD) (by omega)]
  rfl
 ·have e2:=of_decide_eq_true e2
  unfold smA
  rw[decide_eq_false (p:=p0.wD<=6) (by omega)]
  simp
 ·have e3:=of_decide_eq_true e3
  unfold smA
  rw[decide_eq_false (p:=(p1.length:Int)<=8) (by omega)]
  simp
 have e1:=of_decide_eq_false e1
 have e2:=of_decide_eq_false e2
 have e3:=of_decide_eq_false e3
 have es:smA p0 p1=p1.all (fun b=>decide ((b.Txs.length:Int)<=4)&&b.Txs.all (fun t=>smallB t 1200)):=by
  unfold smA
  rw[decide_eq_true (p:=1<=p0.wD) (by omega),decide_eq_true (p:=p0.wD<=6) (by omega),decide_eq_true (p:=(p1.length:Int)<=8) (by omega)]
  rfl
 rw[es]
 refine⟨(fun i=>0<=i/\i<=p1.length/\∀x∈p1.take i.toNat,(decide ((x.Txs.length:Int)<=4)&&x.Txs.all (fun t=>smallB t 1200))=true),(fun i=>(p1.length-i).toNat),⟨by omega,by omega,by simp⟩,?_⟩
 rintro i ⟨g0,g1,g2⟩
 refine⟨fun hh=> ?_,fun hh=> ?_⟩
 ·have hh:=of_decide_eq_true hh
  have hm:=ix_mem p1 i g0 hh
  obtain⟨b1,b2⟩:=hb _ hm
  refine⟨g0,hh,fun e=> ?_,fun e=> ?_⟩
  ·have e:=of_decide_eq_true e
   exact(List.all_eq_false.2 ⟨_,hm,by rw[decide_eq_false (p:=((ix p1 i).Txs.length:Int)<=4) (by omega)];simp⟩).symm
  ·have e:=of_decide_eq_false e
   refine⟨(fun k=>0<=k/\k<=(ix p1 i).Txs.length/\∀x∈(ix p1 i).Txs.take k.toNat,smallB x 1200=true),(fun k=>((ix p1 i).Txs.length-k).toNat),⟨by omega,by omega,by simp⟩,?_⟩
   rintro k ⟨k0,k1,k2⟩
   refine⟨g0,hh,fun hk=> ?_,fun hk=> ?_⟩
   ·have hk:=of_decide_eq_true hk
    have hn:=ix_mem (ix p1 i).Txs k k0 hk
    refine⟨g0,hh,k0,hk,b2 _ hn,fun e4=> ?_,fun e4=> ?_⟩
    ·have e4:smallB (ix (ix p1 i).Txs k) 1200=false:=by simpa using e4
     refine(List.all_eq_false.2 ⟨_,hm,?_⟩).symm
     have:(ix p1 i).Txs.all (fun t=>smallB t 1200)=false:=List.all_eq_false.2 ⟨_,hn,by simp[e4]⟩
     rw[this]
     simp
    ·rw[inc k (ix p1 i).Txs.length k0 hk (by omega)]
     refine⟨⟨by omega,by omega,?_⟩,by(first|omega|(dsimp only;omega))⟩
     rw[ki (ix p1 i).Txs k k0 hk]
     intro t ht
     rcases List.mem_append.1 ht with ht|ht
     ·exact k2 t ht
     ·rw[List.mem_singleton.1 ht];simpa using e4
   ·have hk:=of_decide_eq_false hk
    rw[List.take_of_length_le (by omega)]at k2
    rw[inc i p1.length g0 hh (by omega)]
    refine⟨⟨by omega,by omega,?_⟩,by(first|omega|(dsimp only;omega))⟩
    rw[ki p1 i g0 hh]
    intro t ht
    rcases List.mem_append.1 ht with ht|ht
    ·exact g2 t ht
    ·rw[List.mem_singleton.1 ht,decide_eq_true (p:=((ix p1 i).Txs.length:Int)<=4) (by omega),List.all_eq_true.2 k2]
     rfl
 ·have hh:=of_decide_eq_false hh
  rw[List.take_of_length_le (by omega)]at g2
  exact(List.all_eq_true.2 g2).symm
noncomputable def k13:Con TB.den:= .gp 4 [.st 0,.bool,.sl (.st 3)] [.bool] [] fun(p0:wE) (p1:Bool) (p2:List wU)=>(0<=p0.wJ/\p2.length<=9223372036854775807/\∀b∈p2,b.Txs.length<=9223372036854775807/\∀t∈b.Txs,t.wN.length<=9223372036854775807,true,())
theorem k8j:k13.Ok Tryz.prog TB:=qrv Bs Tryz.func4 (.r 0 (.nd [] (.jn ⟨[],[],[29],[.one (.d (.bool))],[]⟩ [] .no [] .no) [] (.r 0 (.jn ⟨[],[.cells [.d (.bool),zqu,zqi,.d (.sl (.st 4)),.mp 1,.mp 2,.mp 3],.map (.str) yqi,.map (.str) (.sl yqu),.map (.str) (.bool)],[7],[.one (.ptr 0 0)],[1,2,3,4]⟩ [] .no [] (.r 2 (.jn ⟨[],[],[12],[.one (zqi)],[]⟩ [] .no [] .no)))))) (kck.c (kcf.c (k4d.c (k9g.c (k4e.c (kbt.c (kdi.c (k5i.c (k7g.c c0))))))))) (Q:=∀(p0:wE) (p1:Bool) (p2:List wU),(0<=p0.wJ/\p2.length<=9223372036854775807/\∀b∈p2,b.Txs.length<=9223372036854775807/\∀t∈b.Txs,t.wN.length<=9223372036854775807)->∀r0:Bool,(true:Bool)=r0-> 
∀J1:Bool->Prop,(∀(b1:Bool),
((b1=true->
true=r0)/\
(b1=false->
∀J2:Bool->Int->Int->(List wF)->(List ByteArray)->(List Int)->(List ByteArray)->(List (List Int))->(List ByteArray)->(List Bool)->Prop,(∀(f1:Bool) (i1 k1:Int) (l1:List wF) (m1:List ByteArray) (n1:List Int) (o1:List ByteArray) (q1:List (List Int)) (s1:List ByteArray) (t1:List Bool),
(((rulesE p0=0->p0.we=2->f1=false->BL0 p2/\p2.length<=8)/\0<=p0.wJ)/\(([]:List wU)=[]/\([]:List wAG)=[]/\0<=p0.wJ)/\∀J3:Int->Prop,(∀(u1:Int),
(((((audS f1 p0 p2).2)==1)=true->
((((audS f1 p0 p2).1).wM.length<=9223372036854775807/\(wj.mk 0 0 0 0 0 0 0 0 0 ([]:List Int) 0 0 ([]:List Int) 0).wM.length<=9223372036854775807)/\((audS f1 p0 p2).1).wL.length<=9223372036854775807/\(wj.mk 0 0 0 0 0 0 0 0 0 ([]:List Int) 0 0 ([]:List Int) 0).wL.length<=9223372036854775807)/\let r1:Bool:=(sameR ((audS f1 p0 p2).1) (wj.mk 0 0 0 0 0 0 0 0 0 ([]:List Int) 0 0 ([]:List Int) 0))
(r1=true->
(((bokS f1 p0).2)==u1)=r0)/\
(r1=false->
false=r0))/\
((((audS f1 p0 p2).2)==1)=false->
false=r0))->J3 u1)->
(((rulesE p0) !=0)=true->
J3 1)/\
(((rulesE p0) !=0)=false->
((!(p1==(p0.we==3)))=true->
J3 1)/\
((!(p1==(p0.we==3)))=false->
J3 0)))->J2 f1 i1 k1 l1 m1 n1 o1 q1 s1 t1)->
(p1=true->
J2 true (3:Int) 0 [] [] [] [] [] [] [])/\
(p1=false->
J2 false 0 0 [] [] [] [] [] [] [])))->J1 b1)->
((!true)=true->
J1 true)/\
((!true)=false->
(p2.length<=9223372036854775807/\∀b∈p2,b.Txs.length<=9223372036854775807/\∀t∈b.Txs,t.wN.length<=9223372036854775807)/\((!(smA p0 p2))=true->
J1 true)/\
((!(smA p0 p2))=false->
((p0.we==2)=true->
J1 (!p1))/\
((p0.we==2)=false->
J1 false)))) (by kernel_rfl)<|by
 rintro p0 p1 p2 h _ rfl
 obtain⟨hw,hs⟩:=h
 have hE0:rulesE p0=0∨rulesE p0=1:=by
  unfold rulesE
  repeat' split
  all_goals simp
 have hE1:rulesE p0≠0->rulesE p0=1:=fun h=>hE0.resolve_left h
 intro J1 k1
 have j:∀s:Bool,(s=false->¬(p0.we=2/\p1=false))->J1 s:=fun s hc=>k1 s ⟨fun _=>rfl,fun e=>by
  have hm:=hc e
  intro J2 k2
  have j2:∀(f:Bool) (a:Int),p1=f->J2 f a 0 [] [] [] [] [] [] []:=fun f a hf=>k2 f a 0 [] [] [] [] [] [] [] (by
   subst hf
   have hA:audS p1 p0 p2=(zeroR,1):=by
    unfold audS
    by_cases hE:rulesE p0=0
    ·rw[if_neg (by simp[hE]),if_pos]
     by_cases hp:p1=true
     ·exact .inr hp
     ·exact .inl fun hh=>hm ⟨hh,by simpa using hp⟩
    ·rw[if_pos hE,hE1 hE]
   refine⟨⟨fun h1 h2 h3=>(hm ⟨h2,h3⟩).elim,hw⟩,⟨rfl,rfl,hw⟩,?_⟩
   intro J3 k3
   have j3:∀u,(bokS p1 p0).2=u->J3 u:=fun u hu=>k3 u (by
    rw[hA]
    refine⟨fun _=>⟨⟨⟨by decide,by decide⟩,by decide,by decide⟩,?_⟩,fun h=>absurd h (by decide)⟩
    dsimp only
    rw[show sameR zeroR (wj.mk 0 0 0 0 0 0 0 0 0 [] 0 0 [] 0)=true from k9n zeroR]
    exact⟨fun _=>by simp[hu],fun h=>by cases h⟩)
   refine⟨fun e=>j3 1 ?_,fun e=>⟨fun e2=>j3 1 ?_,fun e2=>j3 0 ?_⟩⟩
   ·have e:rulesE p0≠0:=by simpa using e
    unfold bokS
    rw[if_pos e]
    exact hE1 e
   ·have e:rulesE p0=0:=by simpa using e
    unfold bokS
    rw[if_neg (by simp[e]),if_pos (by simpa using e2)]
   ·have e:rulesE p0=0:=by simpa using e
    unfold bokS
    rw[if_neg (by simp[e]),if_neg (by simpa using e2)]
    unfold auS
    rw[if_pos e]
    rfl)
  exact⟨fun e=>j2 true 3 e,fun e=>j2 false 0 e⟩⟩
 exact⟨fun h=>by simp at h,fun _=>⟨hs,fun _=>j true (fun h=>by cases h),fun _=>⟨fun e2=>j _ (fun e3 hh=>by rw[hh.2]at e3;cases e3),fun e2=>j _ (fun _ hh=>by rw[hh.1]at e2;simp at e2)⟩⟩⟩
end Go.Proofs.YtijdfglbhaedoaaGreat
end
