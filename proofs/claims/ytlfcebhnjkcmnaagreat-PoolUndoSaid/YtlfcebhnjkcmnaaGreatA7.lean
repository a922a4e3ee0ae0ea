/-
  Parts of the proofs that the laws of this seat hold of every input, merged by a program: a machine over pure data that is sound for the model, what each function of the translation does in it, and plain lemmas. No conditions but those in each theorem.
-/
import Derived.Test.YtlfcebhnjkcmnaaGreatA6
set_option linter.all false
set_option maxRecDepth 100000
noncomputable section
namespace Go.Proofs.YtlfcebhnjkcmnaaGreat
open Go Go.Bv Go.Cv Go.Md Go.RowKit
open Go.IntKind (i64 u64)
noncomputable def kfi:Con TB.den:= .tp 24 [.st 0] [yqi] [] fun(p0:wF)=>((rulesE p0:Int),())
theorem k8l:kfi.Ok Tryz.prog TB:=qtv Bs Tryz.func24 .no (kfk.c c0) (Q:=∀(p0:wF),∀r0:Int,rulesE p0=r0-> 
(decide (p0.wm<1)=true->
 1=r0)/\
(decide (p0.wm<1)=false->
(decide (3<p0.wm)=true->
 1=r0)/\
(decide (3<p0.wm)=false->
(decide (p0.wD<1)=true->
 1=r0)/\
(decide (p0.wD<1)=false->
(decide (12<p0.wD)=true->
 1=r0)/\
(decide (12<p0.wD)=false->
(decide (p0.wU<1)=true->
 1=r0)/\
(decide (p0.wU<1)=false->
(decide (100<p0.wU)=true->
 1=r0)/\
(decide (100<p0.wU)=false->
(decide (p0.wO<1)=true->
 1=r0)/\
(decide (p0.wO<1)=false->
(decide (1048576<p0.wO)=true->
 1=r0)/\
(decide (1048576<p0.wO)=false->
(decide (4294967296<p0.wP)=true->
 1=r0)/\
(decide (4294967296<p0.wP)=false->
(decide (p0.wh<1)=true->
 1=r0)/\
(decide (p0.wh<1)=false->
(decide (65536<p0.wh)=true->
 1=r0)/\
(decide (65536<p0.wh)=false->
((p0.wm==1)=true->
 let r1:Bool:=(prS (wAH.mk p0.wJ p0.wI p0.wG))
((!r1)=true->
 1=r0)/\
((!r1)=false->
 0=r0))/\
((p0.wm==1)=false->
 0=r0))))))))))))) (by kernel_rfl)<|by
 rintro p0 _ rfl
 have no:¬rulesB p0=true->1=rulesE p0:=fun h=>by unfold rulesE;rw[if_neg h]
 have nb:∀c:Prop,(rulesB p0=true->¬c)->c->1=rulesE p0:=fun c h hc=>no fun hb=>h hb hc
 have ub:rulesB p0=true->(1<=p0.wm/\p0.wm<=3)/\(1<=p0.wD/\p0.wD<=12)/\(1<=p0.wU/\p0.wU<=100)/\(1<=p0.wO/\p0.wO<=1048576)/\p0.wP<=4294967296/\1<=p0.wh/\p0.wh<=65536:=by
  intro hb
  simp only[rulesB,Bool.and_eq_true,decide_eq_true_eq]at hb
  omega
 refine⟨fun e=>nb _ (fun hb h=>by have:=ub hb;omega) (of_decide_eq_true e),fun e1=>⟨fun e=>nb _ (fun hb h=>by have:=ub hb;omega) (of_decide_eq_true e),fun e2=>⟨fun e=>nb _ (fun hb h=>by have:=ub hb;omega) (of_decide_eq_true e),fun e3=>⟨fun e=>nb _ (fun hb h=>by have:=ub hb;omega) (of_decide_eq_true e),fun e4=>⟨fun e=>nb _ (fun hb h=>by have:=ub hb;omega) (of_decide_eq_true e),fun e5=>⟨fun e=>nb _ (fun hb h=>by have:=ub hb;omega) (of_decide_eq_true e),fun e6=>⟨fun e=>nb _ (fun hb h=>by have:=ub hb;omega) (of_decide_eq_true e),fun e7=>⟨fun e=>nb _ (fun hb h=>by have:=ub hb;omega) (of_decide_eq_true e),fun e8=>⟨fun e=>nb _ (fun hb h=>by have:=ub hb;omega) (of_decide_eq_true e),fun e9=>⟨fun e=>nb _ (fun hb h=>by have:=ub hb;omega) (of_decide_eq_true e),fun e10=>⟨fun e=>nb _ (fun hb h=>by have:=ub hb;omega) (of_decide_eq_true e),fun e11=> ?_⟩⟩⟩⟩⟩⟩⟩⟩⟩⟩⟩
 have e1:=of_decide_eq_false e1
 have e2:=of_decide_eq_false e2
 have e3:=of_decide_eq_false e3
 have e4:=of_decide_eq_false e4
 have e5:=of_decide_eq_false e5
 have e6:=of_decide_eq_false e6
 have e7:=of_decide_eq_false e7
 have e8:=of_decide_eq_false e8
 have e9:=of_decide_eq_false e9
 have e10:=of_decide_eq_false e10
 have e11:=of_decide_eq_false e11
 have hb:rulesB p0=true:=by
  simp only[rulesB,Bool.and_eq_true,decide_eq_true_eq]
  omega
 unfold rulesE
 rw[if_pos hb]
 refine⟨fun e=>⟨fun e3=> ?_,fun e3=> ?_⟩,fun e=> ?_⟩
 ·have e:p0.wm=1:=by simpa using e
  have e3:¬prS ⟨p0.wJ,p0.wI,p0.wG⟩=true:=by simpa using e3
  rw[if_pos e,if_neg e3]
 ·have e:p0.wm=1:=by simpa using e
  have e3:prS ⟨p0.wJ,p0.wI,p0.wG⟩=true:=by simpa using e3
  rw[if_pos e,if_pos e3]
 ·have e:¬p0.wm=1:=by simpa using e
  rw[if_neg e]
noncomputable def kfl:Con TB.den:= .gp 18 [.st 2,yqi] [.bool] [] fun(p0:wo) (p1:Int)=>(p0.wH.length<=9223372036854775807,(smallB p0 p1:Bool),())
theorem k58:kfl.Ok Tryz.prog TB:=qrv Bs Tryz.func18 (.r 0 (.nd [] (.r 0 (.lp [] ⟨[],[],[5],[.one (zqi)],[]⟩ .no)) [] .no)) c0 (Q:=∀(p0:wo) (p1:Int),(p0.wH.length<=9223372036854775807)->∀r0:Bool,smallB p0 p1=r0-> 
 ∃(I1:Int->Prop) (M1:Int->Nat),I1 0/\∀(b1:Int),(I1 b1->
(decide (b1<(p0.wH.length:Int))=true->
(0<=b1)/\b1<(p0.wH.length:Int)/\let v1:Bool:=decide (10<(((ix p0.wH b1).wv).length:Int))
(v1=true->
 false=r0)/\
(v1=false->
 I1 (i64.wrap (b1+1))/\M1 (i64.wrap (b1+1))<M1 b1))/\
(decide (b1<(p0.wH.length:Int))=false->
(decide ((p0.wC.length:Int)<=10)=true->
(decide ((p0.wH.length:Int)<=10)=true->
 decide ((p0.wAP.length:Int)<=p1)=r0)/\
(decide ((p0.wH.length:Int)<=10)=false->
 false=r0))/\
(decide ((p0.wC.length:Int)<=10)=false->
 false=r0)))) (by kernel_rfl)<|by
 rintro p0 p1 h _ rfl
 refine(⟨(fun i=>0<=i/\i<=p0.wH.length/\∀x∈p0.wH.take i.toNat,x.wv.length<=10),(fun i=>(p0.wH.length-i).toNat),⟨by omega,by omega,by simp⟩,?_⟩)
 rintro i ⟨g0,g1,g2⟩
 refine⟨fun hh=> ?_,fun hh=> ?_⟩
 ·have hh:=of_decide_eq_true hh
  refine⟨g0,hh,fun e=> ?_,fun e=> ?_⟩
  ·have e:=of_decide_eq_true e
   unfold smallB
   have:p0.wH.all (fun x=>decide (x.wv.length<=10))=false:=List.all_eq_false.2 ⟨_,ix_mem p0.wH i g0 hh,by simp;omega⟩
   rw[this]
   simp
  ·have e:=of_decide_eq_false e
   rw[inc i p0.wH.length g0 hh (by omega)]
   refine⟨⟨by omega,by omega,?_⟩,by(dsimp only;omega)⟩
   rw[ki p0.wH i g0 hh]
   intro x hx
   rcases List.mem_append.1 hx with hx|hx
   ·exact g2 x hx
   ·have:x=ix p0.wH i:=by simpa using hx
    rw[this];omega
 ·have hh:=of_decide_eq_false hh
  rw[List.take_of_length_le (by omega)]at g2
  unfold smallB
  have:p0.wH.all (fun x=>decide (x.wv.length<=10))=true:=by simpa using g2
  rw[this]
  refine⟨fun h1=>⟨fun h2=> ?_,fun h2=> ?_⟩,fun h1=> ?_⟩
  ·have h1:=of_decide_eq_true h1
   have h2:=of_decide_eq_true h2
   rw[decide_eq_true (p:=p0.wC.length<=10) (by omega),decide_eq_true (p:=p0.wH.length<=10) (by omega)]
   simp
  ·have h2:=of_decide_eq_false h2
   rw[decide_eq_false (p:=p0.wH.length<=10) (by omega)]
   simp
  ·have h1:=of_decide_eq_false h1
   rw[decide_eq_false (p:=p0.wC.length<=10) (by omega)]
   simp
noncomputable def kfv:Con TB.den:= .gp 35 [.st 10] [.bool] [] fun(p0:wV)=>(p0.Txs.length<=9223372036854775807/\∀t∈p0.Txs,t.wH.length<=9223372036854775807,(smB p0:Bool),())
theorem k8e:kfv.Ok Tryz.prog TB:=qrv Bs Tryz.func35 (.r 0 (.nd [] (.r 0 (.lp [] ⟨[],[],[3],[.one (zqi)],[]⟩ .no)) [] .no)) (k58.c c0) (Q:=∀(p0:wV),(p0.Txs.length<=9223372036854775807/\∀t∈p0.Txs,t.wH.length<=9223372036854775807)->∀r0:Bool,smB p0=r0-> 
 ∃(I1:Int->Prop) (M1:Int->Nat),I1 0/\∀(b1:Int),(I1 b1->
(decide (b1<(p0.Txs.length:Int))=true->
(0<=b1)/\b1<(p0.Txs.length:Int)/\((ix p0.Txs b1).wH.length<=9223372036854775807)/\((!(smallB (ix p0.Txs b1) (200:Int)))=true->
 false=r0)/\
((!(smallB (ix p0.Txs b1) (200:Int)))=false->
 I1 (i64.wrap (b1+1))/\M1 (i64.wrap (b1+1))<M1 b1))/\
(decide (b1<(p0.Txs.length:Int))=false->
 decide ((p0.Txs.length:Int)<=8)=r0))) (by kernel_rfl)<|by
 rintro p0 h _ rfl
 obtain⟨hl,ho⟩:=h
 generalize hR:smB p0=R
 unfold smB at hR
 refine(⟨(fun a=>∃i:Nat,a=(i:Int)/\i<=p0.Txs.length/\(p0.Txs.drop i).all (fun t=>smallB t 200)=p0.Txs.all fun t=>smallB t 200),(fun a=>(p0.Txs.length-a).toNat),⟨0,rfl,by omega,rfl⟩,?_⟩)
 rintro _ ⟨i,rfl,hi,he⟩
 refine⟨fun e=> ?_,fun e=> ?_⟩
 ·have e:i<p0.Txs.length:=by have:=of_decide_eq_true e;omega
  rw[List.drop_eq_getElem_cons e,List.all_cons]at he
  rw[ix_get _ _ e,inc (i:Int) p0.Txs.length (by omega) (by omega) (by omega)]
  refine⟨by omega,by omega,ho _ (List.getElem_mem e),fun e2=> ?_,fun e2=>⟨⟨i+1,by omega,by omega,?_⟩,by(dsimp only;omega)⟩⟩
  ·have e2:smallB p0.Txs[i] 200=false:=by simpa using e2
   rw[e2,Bool.false_and]at he
   rw[<-he]at hR
   exact hR
  ·have e2:smallB p0.Txs[i] 200=true:=by simpa using e2
   rw[e2,Bool.true_and]at he
   exact he
 ·have e:i=p0.Txs.length:=by have:=of_decide_eq_false e;omega
  subst e
  rw[List.drop_length]at he
  rw[<-he]at hR
  simpa using hR
noncomputable def kfy:Con TB.den:= .gp 12 [.st 0,.sl (.st 3)] [.bool] [] fun(p0:wF) (p1:List wAD)=>(p1.length<=9223372036854775807/\∀o∈p1,o.wAB.length<=9223372036854775807/\∀t∈o.wAB,t.wH.length<=9223372036854775807,(smOps p0 p1:Bool),())
theorem k2z:kfy.Ok Tryz.prog TB:=qrv Bs Tryz.func12 (.r 0 (.nd [] (.r 0 (.lp [] ⟨[],[],[9],[.one (zqi)],[]⟩ .no)) [] .no)) (k8e.c (k8l.c c0)) (Q:=∀(p0:wF) (p1:List wAD),(p1.length<=9223372036854775807/\∀o∈p1,o.wAB.length<=9223372036854775807/\∀t∈o.wAB,t.wH.length<=9223372036854775807)->∀r0:Bool,smOps p0 p1=r0-> 
 ∃(I1:Int->Prop) (M1:Int->Nat),I1 0/\∀(b1:Int),(I1 b1->
(decide (b1<(p1.length:Int))=true->
(0<=b1)/\b1<(p1.length:Int)/\((wV.mk ((ix p1 b1).wAF) ((ix p1 b1).wAG) ((ix p1 b1).wAK) ((ix p1 b1).wAO) ((ix p1 b1).wAL) ((ix p1 b1).wAB)).Txs.length<=9223372036854775807/\∀t∈(wV.mk ((ix p1 b1).wAF) ((ix p1 b1).wAG) ((ix p1 b1).wAK) ((ix p1 b1).wAO) ((ix p1 b1).wAL) ((ix p1 b1).wAB)).Txs,t.wH.length<=9223372036854775807)/\let r1:Bool:=(smB (wV.mk ((ix p1 b1).wAF) ((ix p1 b1).wAG) ((ix p1 b1).wAK) ((ix p1 b1).wAO) ((ix p1 b1).wAL) ((ix p1 b1).wAB)))
((!r1)=true->
 false=r0)/\
((!r1)=false->
 I1 (i64.wrap (b1+1))/\M1 (i64.wrap (b1+1))<M1 b1))/\
(decide (b1<(p1.length:Int))=false->
(decide (p0.wD<=6)=true->
(decide ((p1.length:Int)<=12)=true->
((rulesE p0)==0)=r0)/\
(decide ((p1.length:Int)<=12)=false->
 false=r0))/\
(decide (p0.wD<=6)=false->
 false=r0)))) (by kernel_rfl)<|by
 rintro p0 p1 h _ rfl
 obtain⟨hl,ho⟩:=h
 generalize hR:smOps p0 p1=R
 unfold smOps at hR
 refine(⟨(fun a=>∃i:Nat,a=(i:Int)/\i<=p1.length/\(p1.drop i).all (fun o=>smB (opB o))=p1.all fun o=>smB (opB o)),(fun a=>(p1.length-a).toNat),⟨0,rfl,by omega,rfl⟩,?_⟩)
 rintro _ ⟨i,rfl,hi,he⟩
 refine⟨fun e=> ?_,fun e=> ?_⟩
 ·have e:i<p1.length:=by have:=of_decide_eq_true e;omega
  rw[List.drop_eq_getElem_cons e,List.all_cons]at he
  rw[ix_get _ _ e,inc (i:Int) p1.length (by omega) (by omega) (by omega)]
  refine⟨by omega,by omega,ho _ (List.getElem_mem e),fun e2=> ?_,fun e2=>⟨⟨i+1,by omega,by omega,?_⟩,by(dsimp only;omega)⟩⟩
  ·have e2:(!(smB (opB p1[i])))=true:=e2
   have e2:smB (opB p1[i])=false:=by simpa using e2
   rw[e2,Bool.false_and]at he
   rw[<-he,Bool.false_and]at hR
   exact hR
  ·have e2:(!(smB (opB p1[i])))=false:=e2
   have e2:smB (opB p1[i])=true:=by simpa using e2
   rw[e2,Bool.true_and]at he
   exact he
 ·have e:i=p1.length:=by have:=of_decide_eq_false e;omega
  subst e
  rw[List.drop_length]at he
  rw[<-he,List.all_nil,Bool.true_and]at hR
  refine⟨fun e2=>⟨fun e3=> ?_,fun e3=> ?_⟩,fun e2=> ?_⟩
  ·rw[e2,e3,Bool.true_and,Bool.true_and]at hR
   exact hR
  ·rw[e2,e3,Bool.true_and,Bool.false_and]at hR
   exact hR
  ·rw[e2,Bool.false_and]at hR
   exact hR
noncomputable def k1a:Con TB.den:= .gp 6 [.st 0,.sl (.st 3),.st 2] [.bool] [] fun(p0:wF) (p1:List wAD) (p2:wo)=>(OArg p0 p1/\TR p2/\p2.wH.length<=9223372036854775807,true,())
theorem kb3:k1a.Ok Tryz.prog TB:=qrv Bs Tryz.func6 (.r 0 (.nd [] (.jn ⟨[],[],[22],[.one (.d (.bool))],[]⟩ [] .no [] .no) [] .no)) (k28.c (k2z.c (k58.c (k2g.c (k2e.c (k8f.c (ka1.c c0))))))) (Q:=∀(p0:wF) (p1:List wAD) (p2:wo),(OArg p0 p1/\TR p2/\p2.wH.length<=9223372036854775807)->∀r0:Bool,(true:Bool)=r0-> 
 ∀J1:Bool->Prop,(∀(b1:Bool),
((b1=true->
 true=r0)/\
(b1=false->
(rulesE p0=0/\0<=p0.wP/\p1.length<=60/\OpsR p1)/\(true=true->
((((plS p0 p1).s).p).length=(((plS p0 p1).s).p).length)/\((((plS p0 p1).s).r).length=(((plS p0 p1).s).r).length)/\((((plS p0 p1).s).l).length=(((plS p0 p1).s).l).length)/\((∃(c:Nat) (f:Int),c<=800/\PI (((plS p0 p1).s)) c f)/\TR p2)/\let v1:Int:=((((plS p0 p1).n:Int).toNat:Nat):Int)
(0<=i64.wrap (v1-1)/\i64.wrap (v1-1)<((((plS p0 p1).n:Int).toNat:Nat):Int))/\(0<=((((0:Int).toNat:Nat):Int)+i64.wrap (v1-1))/\((((0:Int).toNat:Nat):Int)+i64.wrap (v1-1))<(((plS p0 p1).g).length:Int))/\(ROk (ix ((plS p0 p1).g) ((((0:Int).toNat:Nat):Int)+i64.wrap (v1-1)))/\TR p2/\TL p2)/\let r2:Int:=(rchk (ix ((plS p0 p1).g) ((((0:Int).toNat:Nat):Int)+i64.wrap (v1-1))) p2)
(((chkS (((plS p0 p1).s)) p2)==r2)=true->
 let v3:Int:=((((plS p0 p1).n:Int).toNat:Nat):Int)
(0<=i64.wrap (v3-1)/\i64.wrap (v3-1)<((((plS p0 p1).n:Int).toNat:Nat):Int))/\(0<=((((0:Int).toNat:Nat):Int)+i64.wrap (v3-1))/\((((0:Int).toNat:Nat):Int)+i64.wrap (v3-1))<(((plS p0 p1).g).length:Int))/\((((plS p0 p1).s).p).length=(((plS p0 p1).s).p).length)/\((((plS p0 p1).s).r).length=(((plS p0 p1).s).r).length)/\((((plS p0 p1).s).l).length=(((plS p0 p1).s).l).length)/\((∃(c:Nat) (f:Int),c<=800/\PI (((plS p0 p1).s)) c f)/\(ix ((plS p0 p1).g) ((((0:Int).toNat:Nat):Int)+i64.wrap (v3-1)))=mOf (((plS p0 p1).s)))/\true=r0)/\
(((chkS (((plS p0 p1).s)) p2)==r2)=false->
 false=r0))/\
(true=false->
 false=r0)))->J1 b1)->
((!true)=true->
 J1 true)/\
((!true)=false->
(p1.length<=9223372036854775807/\∀o∈p1,o.wAB.length<=9223372036854775807/\∀t∈o.wAB,t.wH.length<=9223372036854775807)/\((!(smOps p0 p1))=true->
 J1 true)/\
((!(smOps p0 p1))=false->
(p2.wH.length<=9223372036854775807)/\J1 (!(smallB p2 (200:Int)))))) (by kernel_rfl)<|by
 rintro p0 p1 p2 h _ rfl
 obtain⟨h,ht,hl⟩:=h
 intro J1 j
 have j1:∀b,(b=false->smOps p0 p1=true/\smallB p2 200=true)->J1 b:=by
  intro b hb
  refine j _ ⟨fun _=>rfl,fun e=> ?_⟩
  obtain⟨q1,q2,q3,q4⟩:=k5g (hb e).1 h
  have tl:=ki8 (hb e).2
  have pt:=play_PT q1 h.hr (by omega) q2
  refine⟨⟨q1,h.hr,by omega,q2⟩,?_⟩
  generalize plS p0 p1=X at *
  obtain⟨⟨c,hc,hi⟩,pR,n1,n2,pl,pw,ptt⟩:=pt
  have b1:0<=i64.wrap ((((X.n:Int).toNat:Nat):Int)-1)/\i64.wrap ((((X.n:Int).toNat:Nat):Int)-1)<(((X.n:Int).toNat:Nat):Int):=by rw[pw,Int.toNat_natCast];omega
  have b2:0<=(((0:Int).toNat:Nat):Int)+i64.wrap ((((X.n:Int).toNat:Nat):Int)-1)/\(((0:Int).toNat:Nat):Int)+i64.wrap ((((X.n:Int).toNat:Nat):Int)-1)<(X.g.length:Int):=by rw[pw,show(0:Int).toNat=0 from rfl];omega
  refine⟨fun _=>⟨rfl,rfl,rfl,⟨⟨c,0,by omega,hi⟩,ht⟩,b1,b2,?_⟩,fun e=>(by cases e)⟩
  refine⟨⟨by rw[ptt];exact hi.rok (by omega),ht,tl⟩,fun _=>⟨b1,b2,rfl,rfl,rfl,⟨⟨c,0,by omega,hi⟩,ptt⟩,rfl⟩,fun e=> ?_⟩
  have e:(chkS X.s p2==rchk (ix X.g ((((0:Int).toNat:Nat):Int)+i64.wrap ((((X.n:Int).toNat:Nat):Int)-1))) p2)=false:=e
  rw[ptt,rchk_eq]at e
  simp at e
 refine⟨fun e=>(by cases e),fun _=>⟨h.sm,fun e=>j1 _ (fun hh=>by cases hh),fun e=>⟨hl,j1 _ fun e2=>⟨by simpa using e,by simpa using e2⟩⟩⟩⟩
noncomputable def k1b:Con TB.den:= .gp 4 [.st 0,.sl (.st 3),.st 2] [.bool] [] fun(p0:wF) (p1:List wAD) (p2:wo)=>(OArg p0 p1/\TR p2/\p2.wH.length<=9223372036854775807,true,())
theorem ka8:k1b.Ok Tryz.prog TB:=qrv Bs Tryz.func4 (.r 0 (.nd [] (.jn ⟨[],[],[26],[.one (.d (.bool))],[]⟩ [] .no [] .no) [] (.r 2 (.nd [] (.r 0 (.lp [] ⟨[2,4,5,6,7,8],[.cells [zqi,zqi,zqi,zqi,zqi,zqu,zqi,zqi,zqu,zqi,zqi,zql,.row 1,.ptr 2 0,.d (.sl (.st 8)),zqu,.row 3,.row 4],.vec yqu,.cells [.mp 5],.vec yqu,.vec (.st 9),.map yqu (.bool)],[41],[.one (zqi)],[]⟩ (.r 1 (.nd [] (.r 0 (.jn ⟨[],[],[],[],[]⟩ [] .no [] .no)) [] .no)))) [] .no)))) (k28.c (k2z.c (k58.c (k2g.c (k3k.c (k2e.c c0)))))) (Q:=∀(p0:wF) (p1:List wAD) (p2:wo),(OArg p0 p1/\TR p2/\p2.wH.length<=9223372036854775807)->∀r0:Bool,(true:Bool)=r0-> 
 ∀J1:Bool->Prop,(∀(b1:Bool),
((b1=true->
 true=r0)/\
(b1=false->
(rulesE p0=0/\0<=p0.wP/\p1.length<=60/\OpsR p1)/\((!true)=true->
 false=r0)/\
((!true)=false->
((((plS p0 p1).s).p).length=(((plS p0 p1).s).p).length)/\((((plS p0 p1).s).r).length=(((plS p0 p1).s).r).length)/\((((plS p0 p1).s).l).length=(((plS p0 p1).s).l).length)/\((((plS p0 p1).s).v)=trs (((plS p0 p1).s).k)/\(((plS p0 p1).s).k).length<=1000000)/\((((plS p0 p1).s).p).length=(((plS p0 p1).s).p).length)/\((((plS p0 p1).s).r).length=(((plS p0 p1).s).r).length)/\((((plS p0 p1).s).l).length=(((plS p0 p1).s).l).length)/\∃(I1:Int->Int->Int->Int->Int->Int->Int->Int->Int->Int->Int->Int->(List Int)->(List wA)->Int->(List Int)->(List Int)->(List wN)->(List Int)->(List Bool)->Prop) (M1:Int->Int->Int->Int->Int->Int->Int->Int->Int->Int->Int->Int->(List Int)->(List wA)->Int->(List Int)->(List Int)->(List wN)->(List Int)->(List Bool)->Nat),I1 0 (((plS p0 p1).s).R.wm) (((plS p0 p1).s).R.wD) (((plS p0 p1).s).R.wJ) (((plS p0 p1).s).R.wI) (((plS p0 p1).s).R.wG) (((plS p0 p1).s).R.wP) (((plS p0 p1).s).R.wU) (((plS p0 p1).s).R.wO) (((plS p0 p1).s).R.wh) (((plS p0 p1).s).F.wD) (((plS p0 p1).s).F.wY) (((plS p0 p1).s).F.wd) (((plS p0 p1).s).b) (((plS p0 p1).s).n) (((plS p0 p1).s).l) (((plS p0 p1).s).r) (((plS p0 p1).s).p) (((plS p0 p1).s).k) (((plS p0 p1).s).v)/\∀(f1 i1 k1 l1 m1 n1 o1 q1 s1 t1 u1 x1:Int) (y1:List Int) (b2:List wA) (f2:Int) (i2 k2:List Int) (l2:List wN) (m2:List Int) (n2:List Bool),(I1 f1 i1 k1 l1 m1 n1 o1 q1 s1 t1 u1 x1 y1 b2 f2 i2 k2 l2 m2 n2->
 let v1:Bool:=decide (f1<((srt (((plS p0 p1).s).k)).length:Int))
(v1=true->
(0<=f1)/\f1<((srt (((plS p0 p1).s).k)).length:Int)/\∀J2:Prop,(((l2.length=l2.length)/\(k2.length=k2.length)/\(i2.length=i2.length)/\((∃(c:Nat) (f:Int),c<=800/\PI (PS.mk (wF.mk i1 k1 l1 m1 n1 o1 q1 s1 t1) (wE.mk u1 x1 y1) b2 f2 i2 k2 l2 m2 n2) c f)/\TR (wo.mk p2.wAE [ix (srt (((plS p0 p1).s).k)) f1] p2.wH p2.wM p2.wQ p2.Fee p2.wZ p2.wL p2.wAC p2.wAP))/\let r4:Int:=(chkS (PS.mk (wF.mk i1 k1 l1 m1 n1 o1 q1 s1 t1) (wE.mk u1 x1 y1) b2 f2 i2 k2 l2 m2 n2) (wo.mk p2.wAE [ix (srt (((plS p0 p1).s).k)) f1] p2.wH p2.wM p2.wQ p2.Fee p2.wZ p2.wL p2.wAC p2.wAP))
((r4==0)=true->
 false=r0)/\
((r4==0)=false->
(l2.length=l2.length)/\(k2.length=k2.length)/\(i2.length=i2.length)/\I1 (i64.wrap (f1+1)) i1 k1 l1 m1 n1 o1 q1 s1 t1 u1 x1 y1 b2 f2 i2 k2 l2 m2 n2/\M1 (i64.wrap (f1+1)) i1 k1 l1 m1 n1 o1 q1 s1 t1 u1 x1 y1 b2 f2 i2 k2 l2 m2 n2<M1 f1 i1 k1 l1 m1 n1 o1 q1 s1 t1 u1 x1 y1 b2 f2 i2 k2 l2 m2 n2))->J2)->
(decide (0<f1)=true->
(0<=i64.wrap (f1-1))/\i64.wrap (f1-1)<((srt (((plS p0 p1).s).k)).length:Int)/\let v2:Int:=ix (srt (((plS p0 p1).s).k)) (i64.wrap (f1-1))
 let v3:Bool:=decide ((ix (srt (((plS p0 p1).s).k)) f1)<=v2)
(v3=true->
 false=r0)/\
(v3=false->
 J2))/\
(decide (0<f1)=false->
 J2))/\
(v1=false->
 true=r0)))))->J1 b1)->
((!true)=true->
 J1 true)/\
((!true)=false->
(p1.length<=9223372036854775807/\∀o∈p1,o.wAB.length<=9223372036854775807/\∀t∈o.wAB,t.wH.length<=9223372036854775807)/\((!(smOps p0 p1))=true->
 J1 true)/\
((!(smOps p0 p1))=false->
(p2.wH.length<=9223372036854775807)/\J1 (!(smallB p2 (200:Int)))))) (by kernel_rfl)<|by
 rintro p0 p1 p2 h _ rfl
 obtain⟨h,ht,hl⟩:=h
 intro J1 j
 have j1:∀b,(b=false->smOps p0 p1=true/\smallB p2 200=true)->J1 b:=by
  intro b hb
  refine j _ ⟨fun _=>rfl,fun e=> ?_⟩
  obtain⟨q1,q2,q3,q4⟩:=k5g (hb e).1 h
  have pt:=play_PT q1 h.hr (by omega) q2
  refine⟨⟨q1,h.hr,by omega,q2⟩,?_⟩
  generalize plS p0 p1=X at *
  obtain⟨⟨c,hc,hi⟩,pR,n1,n2,pl,pw,ptt⟩:=pt
  have hkl:=hi.kl
  have hsl:=k35 X.s.k
  have hss:=List.pairwise_iff_getElem.1 (k38 X.s.k)
  have hnd:=List.pairwise_iff_getElem.1 ((k1x X.s.k).nodup_iff.2 hi.kn)
  refine⟨fun e=>(by cases e),fun _=>⟨rfl,rfl,rfl,⟨hi.v,by omega⟩,rfl,rfl,rfl,?_⟩⟩
  refine⟨fun a y0 y1 y2 y3 y4 y5 y6 y7 y8 y9 y10 y11 y12 y13 y14 y15 y16 y17 y18=>(X.s.R.wm=y0/\X.s.R.wD=y1/\X.s.R.wJ=y2/\X.s.R.wI=y3/\X.s.R.wG=y4/\X.s.R.wP=y5/\X.s.R.wU=y6/\X.s.R.wO=y7/\X.s.R.wh=y8/\X.s.F.wD=y9/\X.s.F.wY=y10/\X.s.F.wd=y11/\X.s.b=y12/\X.s.n=y13/\X.s.l=y14/\X.s.r=y15/\X.s.p=y16/\X.s.k=y17/\X.s.v=y18)/\∃i:Nat,a=(i:Int)/\i<=(srt X.s.k).length,fun a _ _ _ _ _ _ _ _ _ _ _ _ _ _ _ _ _ _ _=>((srt X.s.k).length-a).toNat,⟨⟨rfl,rfl,rfl,rfl,rfl,rfl,rfl,rfl,rfl,rfl,rfl,rfl,rfl,rfl,rfl,rfl,rfl,rfl,rfl⟩,0,rfl,by omega⟩,?_⟩
  rintro _ _ _ _ _ _ _ _ _ _ _ _ _ _ _ _ _ _ _ _ ⟨⟨rfl,rfl,rfl,rfl,rfl,rfl,rfl,rfl,rfl,rfl,rfl,rfl,rfl,rfl,rfl,rfl,rfl,rfl,rfl⟩,i,rfl,hi2⟩
  refine⟨fun e=> ?_,fun _=>rfl⟩
  have e:i<(srt X.s.k).length:=by have:=of_decide_eq_true e;omega
  have hmem:(srt X.s.k)[i]∈X.s.k:=(k1x X.s.k).mem_iff.1 (List.getElem_mem e)
  have hr:=hi.kb _ hmem
  have htu:TR (wo.mk p2.wAE [(srt X.s.k)[i]] p2.wH p2.wM p2.wQ p2.Fee p2.wZ p2.wL p2.wAC p2.wAP):=⟨ht.a,fun x hx=>(by rw[List.mem_singleton.1 hx];exact⟨hr.1,by omega⟩),ht.o,ht.d,ht.w,ht.f,ht.ac,ht.n,ht.e,ht.p⟩
  have hno:chkS X.s (wo.mk p2.wAE [(srt X.s.k)[i]] p2.wH p2.wM p2.wQ p2.Fee p2.wZ p2.wL p2.wAC p2.wAP)≠0:=fun hh=>(k4o hh).m _ (List.mem_singleton.2 rfl) hmem
  rw[ix_get _ _ e]
  refine⟨by omega,by omega,fun J2 k=> ?_⟩
  have k2:J2:=by
   refine k ⟨rfl,rfl,rfl,⟨⟨c,0,by omega,hi⟩,htu⟩,fun e4=>(hno (by simpa using e4)).elim,fun _=>⟨rfl,rfl,rfl,⟨⟨rfl,rfl,rfl,rfl,rfl,rfl,rfl,rfl,rfl,rfl,rfl,rfl,rfl,rfl,rfl,rfl,rfl,rfl,rfl⟩,i+1,inc_i64 _ (by omega),by omega⟩,?_⟩⟩
   show(((srt X.s.k).length:Int)-i64.wrap ((i:Int)+1)).toNat<(((srt X.s.k).length:Int)-(i:Int)).toNat
   rw[inc_i64 _ (by omega)]
   omega
  refine⟨fun e2=> ?_,fun e2=>k2⟩
  ·have e2:0<i:=by have:=of_decide_eq_true e2;omega
   have e1:i-1<(srt X.s.k).length:=by omega
   rw[show i64.wrap ((i:Int)-1)=((i-1:Nat):Int)by rw[kh _ (by omega) (by omega)];omega,ix_get _ _ e1]
   have g1:=hss (i-1) i e1 e (by omega)
   have g2:=hnd (i-1) i e1 e (by omega)
   refine⟨by omega,by omega,fun e3=> ?_,fun e3=>k2⟩
   have e3:=of_decide_eq_true e3
   exact(g2 (Int.le_antisymm g1 e3)).elim
 refine⟨fun e=>(by cases e),fun _=>⟨h.sm,fun e=>j1 _ (fun hh=>by cases hh),fun e=>⟨hl,j1 _ fun e2=>⟨by simpa using e,by simpa using e2⟩⟩⟩⟩
noncomputable def k6e:Con TB.den:= .g ⟨89,[.one (.own 0),.one (zqu),.one (zqi)],[.tip yqb],(.one (.one (.own 0))),[.tip yqb],false⟩ [yqu,yqi,.sl yqb] [.sl yqb] [] fun(p1 p2:Int) (w0:List Int)=>(U64 p1/\(0<=p2/\p2<=8)/\w0.length<=137438953472,(w0++dig p2.toNat p1:List Int),())
theorem kx:k6e.Ok Tryz.prog TB:=prv Bs Tryz.func89 (.r 0 (.nd [] (.r 0 (.lp [] ⟨[0],[.tip yqb],[0,1,8],[.one (.own 0),.one (zqu),.one (zqi)],[]⟩ .no)) [] .no)) c0 (Q:=∀(p1 p2:Int) (w0:List Int),(U64 p1/\(0<=p2/\p2<=8)/\w0.length<=137438953472)->∀e0:List Int,(w0++dig p2.toNat p1)=e0-> 
(w0=w0)/\∃(I1:Int->Int->(List Int)->Prop) (M1:Int->Int->(List Int)->Nat),I1 p1 0 w0/\∀(b1 f1:Int) (i1:List Int),(I1 b1 f1 i1->
(decide (f1<p2)=true->
 i1.length=i1.length/\(i1.length+[IntKind.u8.wrap b1].length)*1<=140737488355328/\i1.length+[IntKind.u8.wrap b1].length<=maxLen/\(i1++[IntKind.u8.wrap b1]=i1++[IntKind.u8.wrap b1])/\I1 (ishr .u64 b1 8) (i64.wrap (f1+1)) (i1++[IntKind.u8.wrap b1])/\M1 (ishr .u64 b1 8) (i64.wrap (f1+1)) (i1++[IntKind.u8.wrap b1])<M1 b1 f1 i1)/\
(decide (f1<p2)=false->
(i1=i1)/\i1=e0))) (by kernel_rfl)<|by
 rintro p1 p2 w0 h _ rfl
 obtain⟨h1,h2,h3⟩:=h
 refine⟨rfl,⟨(fun n i g=>0<=i/\i<=p2/\U64 n/\n=p1/256^i.toNat/\g=w0++dig i.toNat p1),(fun _ i _=>(p2-i).toNat),⟨by omega,by omega,h1,by simp,by simp[dig]⟩,?_⟩⟩
 rintro n i g ⟨g0,g1,g2,g3,rfl⟩
 refine⟨fun h=> ?_,fun h=> ?_⟩
 ·have h:=of_decide_eq_true h
  rw[inc i p2 g0 h (by omega),ishr8,u8w]
  refine⟨rfl,?_,?_,rfl,⟨by omega,by omega,⟨by omega,by omega⟩,?_,?_⟩,by(dsimp only;omega)⟩
  ·simp;omega
  ·simp;unfold maxLen;omega
  ·rw[g3,show(i+1).toNat=i.toNat+1 by omega,Int.ediv_ediv_of_nonneg (Int.le_of_lt (k7b _)),Int.pow_succ]
  ·rw[show(i+1).toNat=i.toNat+1 by omega,k6y,List.append_assoc,g3]
 ·have h:=of_decide_eq_false h
  exact⟨rfl,by rw[show i=p2 by omega]⟩
noncomputable def k6g:Con TB.den:= .g ⟨87,[.one (.own 0),.one (zqi)],[.tip yqb],(.one (.one (.own 0))),[.tip yqb],false⟩ [yqi,.sl yqb] [.sl yqb] [] fun(p1:Int) (w0:List Int)=>((-9223372036854775808<=p1/\p1<=9223372036854775807)/\w0.length<=137438953472,(w0++dig 4 (len4 p1):List Int),())
theorem k1c:k6g.Ok Tryz.prog TB:=prv Bs Tryz.func87 (.r 0 (.jn ⟨[],[],[1],[.one (zqi)],[]⟩ [] .no [] .no)) (kx.c c0) (Q:=∀(p1:Int) (w0:List Int),((-9223372036854775808<=p1/\p1<=9223372036854775807)/\w0.length<=137438953472)->∀e0:List Int,(w0++dig 4 (len4 p1))=e0-> 
 ∀J1:Int->Prop,(∀(b1:Int),
((w0=w0)/\(U64 (u64.wrap b1)/\(0<=(4:Int)/\(4:Int)<=8)/\w0.length<=137438953472)/\let r1:List Int:=(w0++dig (4:Int).toNat (u64.wrap b1))
(r1=r1)/\r1=e0)->J1 b1)->
(decide (p1<0)=true->
 J1 0)/\
(decide (p1<0)=false->
(decide (4294967295<p1)=true->
 J1 0)/\
(decide (4294967295<p1)=false->
 J1 p1))) (by kernel_rfl)<|by
 rintro p1 w0 h _ rfl
 obtain⟨h1,h2⟩:=h
 intro J1 j1
 have j:∀n,0<=n->n<=4294967295->len4 p1=n->J1 n:=by
  intro n h0 h1 e
  refine j1 _ ?_
  rw[wu n (by omega) (by omega),e]
  exact⟨rfl,⟨⟨h0,by omega⟩,by omega,h2⟩,by trivial,rfl⟩
 refine⟨fun h=>j 0 (by omega) (by omega) ?_,fun h=>⟨fun h' =>j 0 (by omega) (by omega) ?_,fun h' =>j p1 ?_ ?_ ?_⟩⟩
 ·have h:=of_decide_eq_true h;exact if_pos (.inl h)
 ·have h' :=of_decide_eq_true h';exact if_pos (.inr h')
 ·have h:=of_decide_eq_false h;omega
 ·have h' :=of_decide_eq_false h';omega
 ·have h:=of_decide_eq_false h;have h' :=of_decide_eq_false h';exact len4_in ⟨by omega,by omega⟩
noncomputable def kc3:Con TB.den:= .g ⟨88,[.one (.d (.sl yqb)),.one (zqi)],[],(.one (.one (.own 0))),[.tip yqb],false⟩ [.sl yqb,yqi] [.sl yqb] [] fun(p0:List Int) (p1:Int)=>(0<=p1/\p0.length+p1<=140737488355328,p0,())
theorem k1p:kc3.Ok Tryz.prog TB:=prv Bs Tryz.func88 (.r 3 (.rt [.frz 0 [4]])) c0 (Q:=∀(p0:List Int) (p1:Int),(0<=p1/\p0.length+p1<=140737488355328)->∀e0:List Int,p0=e0-> 
 let v1:Int:=i64.wrap ((p0.length:Int)+p1)
 0<=(p0.length:Int)/\(p0.length:Int)<=v1/\(v1.toNat*1<=140737488355328)/\(v1.toNat<=maxLen)/\(p0.length:Int).toNat=(List.replicate ((p0.length:Int).toNat) (0:Int)).length/\let v2:Int:=((min p0.length (List.replicate ((p0.length:Int).toNat) (0:Int)).length:Nat):Int)
((p0.length:Int).toNat=(rowOver (List.replicate ((p0.length:Int).toNat) (0:Int)) p0 (List.replicate ((p0.length:Int).toNat) (0:Int)).length).length)/\(rowOver (List.replicate ((p0.length:Int).toNat) (0:Int)) p0 (List.replicate ((p0.length:Int).toNat) (0:Int)).length=rowOver (List.replicate ((p0.length:Int).toNat) (0:Int)) p0 (List.replicate ((p0.length:Int).toNat) (0:Int)).length)/\rowOver (List.replicate ((p0.length:Int).toNat) (0:Int)) p0 (List.replicate ((p0.length:Int).toNat) (0:Int)).length=e0) (by kernel_rfl)<|by
 rintro p0 p1 h _ rfl
 obtain⟨h1,h2⟩:=h
 refine ?_
 rw[wi _ (by omega) (by omega)]
 have e:rowOver (List.replicate ((p0.length:Int).toNat) (0:Int)) p0 (List.replicate ((p0.length:Int).toNat) (0:Int)).length=p0:=kji _ _ (by simp)
 simp only[e]
 exact⟨by omega,by omega,by omega,by unfold maxLen;omega,by simp,by omega,by trivial,by trivial⟩
noncomputable def kih:Con TB.den:= .gp 59 [.sl yqb,yqi] [.sl yqb] [] fun(p0:List Int) (p1:Int)=>((-9223372036854775808<=p1/\p1<=9223372036854775807)/\p0.length<=137438953472,(p0++dig 4 (len4 p1):List Int),())
theorem kik:kih.Ok Tryz.prog TB:=qrv Bs Tryz.func59 .no (k1p.c (k1c.c c0)) (Q:=∀(p0:List Int) (p1:Int),((-9223372036854775808<=p1/\p1<=9223372036854775807)/\p0.length<=137438953472)->∀r0:List Int,(p0++dig 4 (len4 p1))=r0-> 
(0<=(4:Int)/\p0.length+(4:Int)<=140737488355328)/\(p0=p0)/\((-9223372036854775808<=p1/\p1<=9223372036854775807)/\p0.length<=137438953472)/\(p0++dig 4 (len4 p1))=r0) (by kernel_rfl)<|by
 rintro p0 p1 h _ rfl
 obtain⟨h1,h2⟩:=h
 exact⟨⟨by omega,by omega⟩,by trivial,⟨h1,h2⟩,rfl⟩
noncomputable def kfg:Con TB.den:= .gp 60 [.sl yqb,.sl yqu] [.sl yqb] [] fun(p0 p1:List Int)=>(Us p1/\p0.length<=68719476736/\p1.length<=4294967295,(p0++encL p1:List Int),())
theorem kh7:kfg.Ok Tryz.prog TB:=qrv Bs Tryz.func60 (.r 1 (.nd [] (.r 0 (.lp [] ⟨[0],[.tip yqb],[5,19],[.one (.own 0),.one (zqi)],[]⟩ .no)) [] .no)) (k1p.c (k1c.c (kx.c c0))) (Q:=∀(p0 p1:List Int),(Us p1/\p0.length<=68719476736/\p1.length<=4294967295)->∀r0:List Int,(p0++encL p1)=r0-> 
 let v1:Int:=i64.wrap (4+(i64.wrap (8*(p1.length:Int))))
(0<=v1/\p0.length+v1<=140737488355328)/\(p0=p0)/\((-9223372036854775808<=(p1.length:Int)/\(p1.length:Int)<=9223372036854775807)/\p0.length<=137438953472)/\((p0++dig 4 (len4 (p1.length:Int)))=(p0++dig 4 (len4 (p1.length:Int))))/\∃(I1:Int->(List Int)->Prop) (M1:Int->(List Int)->Nat),I1 0 (p0++dig 4 (len4 (p1.length:Int)))/\∀(b1:Int) (f1:List Int),(I1 b1 f1->
(decide (b1<(p1.length:Int))=true->
(0<=b1)/\b1<(p1.length:Int)/\(f1=f1)/\(U64 (ix p1 b1)/\(0<=(8:Int)/\(8:Int)<=8)/\f1.length<=137438953472)/\((f1++dig (8:Int).toNat (ix p1 b1))=(f1++dig (8:Int).toNat (ix p1 b1)))/\I1 (i64.wrap (b1+1)) (f1++dig (8:Int).toNat (ix p1 b1))/\M1 (i64.wrap (b1+1)) (f1++dig (8:Int).toNat (ix p1 b1))<M1 b1 f1)/\
(decide (b1<(p1.length:Int))=false->
 f1=r0))) (by kernel_rfl)<|by
 rintro p0 p1 h _ rfl
 obtain⟨h1,h2,h3⟩:=h
 refine ?_
 rw[wi (8*(p1.length:Int)) (by omega) (by omega),wi (4+8*(p1.length:Int)) (by omega) (by omega)]
 refine⟨⟨by omega,by omega⟩,by trivial,⟨by omega,by omega⟩,by trivial,?_⟩
 refine⟨(fun i g=>0<=i/\i<=p1.length/\g=p0++dig 4 (len4 p1.length)++(p1.take i.toNat).flatMap (dig 8)),(fun i _=>(p1.length-i).toNat),⟨by omega,by omega,by simp⟩,?_⟩
 rintro i g ⟨g0,g1,rfl⟩
 refine⟨fun h=> ?_,fun h=> ?_⟩
 ·have h:=of_decide_eq_true h
  have hx:=h1 _ (ix_mem p1 i g0 h)
  rw[inc i p1.length g0 h (by omega)]
  refine⟨g0,h,by trivial,⟨hx,by omega,?_⟩,by trivial,⟨by omega,by omega,?_⟩,by(dsimp only;omega)⟩
  ·simp only[List.length_append,kg,k23,List.length_take];omega
  ·rw[ki p1 i g0 h,List.flatMap_append,List.append_assoc]
   simp
 ·have h:=of_decide_eq_false h
  rw[List.take_of_length_le (by omega),List.append_assoc]
  rfl
noncomputable def kbt:Con TB.den:= .g ⟨60,[.one (.d (.sl yqb)),.one (.row 0)],[.vec yqu],(.one (.one (.d (.sl yqb)))),[.vec yqu],false⟩ [.sl yqb,.sl yqu] [.sl yqb,.sl yqu] [] fun(p0 w0:List Int)=>(Us w0/\p0.length<=68719476736/\w0.length<=4294967295,(p0++encL w0:List Int),w0,())
theorem kdc:kbt.Ok Tryz.prog TB:=prv Bs Tryz.func60 (.r 1 (.nd [] (.r 0 (.lp [] ⟨[1],[.tip yqb],[5,19],[.one (.own 0),.one (zqi)],[]⟩ .no)) [] .no)) (k1p.c (k1c.c (kx.c c0))) (Q:=∀(p0 w0:List Int),(Us w0/\p0.length<=68719476736/\w0.length<=4294967295)->∀r0:List Int,(p0++encL w0)=r0->∀e0:List Int,w0=e0-> 
 let v1:Int:=i64.wrap (4+(i64.wrap (8*(w0.length:Int))))
(0<=v1/\p0.length+v1<=140737488355328)/\(p0=p0)/\((-9223372036854775808<=(w0.length:Int)/\(w0.length:Int)<=9223372036854775807)/\p0.length<=137438953472)/\((p0++dig 4 (len4 (w0.length:Int)))=(p0++dig 4 (len4 (w0.length:Int))))/\∃(I1:Int->(List Int)->Prop) (M1:Int->(List Int)->Nat),I1 0 (p0++dig 4 (len4 (w0.length:Int)))/\∀(b1:Int) (f1:List Int),(I1 b1 f1->
(decide (b1<(w0.length:Int))=true->
(0<=b1/\b1<(w0.length:Int))/\(0<=b1/\b1<(w0.length:Int))/\(f1=f1)/\(U64 (ix w0 b1)/\(0<=(8:Int)/\(8:Int)<=8)/\f1.length<=137438953472)/\((f1++dig (8:Int).toNat (ix w0 b1))=(f1++dig (8:Int).toNat (ix w0 b1)))/\I1 (i64.wrap (b1+1)) (f1++dig (8:Int).toNat (ix w0 b1))/\M1 (i64.wrap (b1+1)) (f1++dig (8:Int).toNat (ix w0 b1))<M1 b1 f1)/\
(decide (b1<(w0.length:Int))=false->
 f1=r0/\w0=e0))) (by kernel_rfl)<|by
 rintro p0 w0 h _ rfl _ rfl
 obtain⟨h1,h2,h3⟩:=h
 refine ?_
 rw[wi (8*(w0.length:Int)) (by omega) (by omega),wi (4+8*(w0.length:Int)) (by omega) (by omega)]
 refine⟨⟨by omega,by omega⟩,rfl,⟨by omega,by omega⟩,rfl,?_⟩
 refine⟨(fun i g=>0<=i/\i<=w0.length/\g=p0++dig 4 (len4 w0.length)++(w0.take i.toNat).flatMap (dig 8)),(fun i _=>(w0.length-i).toNat),⟨by omega,by omega,by simp⟩,?_⟩
 rintro i g ⟨g0,g1,rfl⟩
 refine⟨fun h=> ?_,fun h=> ?_⟩
 ·have h:=of_decide_eq_true h
  have hx:=h1 _ (ix_mem w0 i g0 h)
  rw[inc i w0.length g0 h (by omega)]
  refine⟨⟨g0,h⟩,⟨g0,h⟩,rfl,⟨hx,by omega,?_⟩,rfl,⟨by omega,by omega,?_⟩,by(dsimp only;omega)⟩
  ·simp only[List.length_append,kg,k23,List.length_take];omega
  ·rw[ki w0 i g0 h,List.flatMap_append,List.append_assoc]
   simp
 ·have h:=of_decide_eq_false h
  rw[List.take_of_length_le (by omega),List.append_assoc]
  exact⟨rfl,rfl⟩
noncomputable def k9c:Con TB.den:= .g ⟨60,[.one (.d (.sl yqb)),.one (.view 0)],[.vec yqu],(.one (.one (.d (.sl yqb)))),[.vec yqu],false⟩ [.sl yqb,yqi,yqi,.sl yqu] [.sl yqb,.sl yqu] [] fun(p0:List Int) (p1o p1n:Int) (w0:List Int)=>(Us ((w0.drop p1o.toNat).take p1n.toNat)/\p0.length<=68719476736/\w0.length<=4294967295/\p1o.toNat+p1n.toNat<=w0.length,(p0++encL ((w0.drop p1o.toNat).take p1n.toNat):List Int),w0,())
theorem kat:k9c.Ok Tryz.prog TB:=prv Bs Tryz.func60 (.r 1 (.nd [] (.r 0 (.lp [] ⟨[1],[.tip yqb],[5,19],[.one (.own 0),.one (zqi)],[]⟩ .no)) [] .no)) (k1p.c (k1c.c (kx.c c0))) (Q:=∀(p0:List Int) (p1o p1n:Int) (w0:List Int),(Us ((w0.drop p1o.toNat).take p1n.toNat)/\p0.length<=68719476736/\w0.length<=4294967295/\p1o.toNat+p1n.toNat<=w0.length)->∀r0:List Int,(p0++encL ((w0.drop p1o.toNat).take p1n.toNat))=r0->∀e0:List Int,w0=e0-> 
 let v1:Int:=i64.wrap (4+(i64.wrap (8*(p1n.toNat:Int))))
(0<=v1/\p0.length+v1<=140737488355328)/\(p0=p0)/\((-9223372036854775808<=(p1n.toNat:Int)/\(p1n.toNat:Int)<=9223372036854775807)/\p0.length<=137438953472)/\((p0++dig 4 (len4 (p1n.toNat:Int)))=(p0++dig 4 (len4 (p1n.toNat:Int))))/\∃(I1:Int->(List Int)->Prop) (M1:Int->(List Int)->Nat),I1 0 (p0++dig 4 (len4 (p1n.toNat:Int)))/\∀(b1:Int) (f1:List Int),(I1 b1 f1->
(decide (b1<(p1n.toNat:Int))=true->
(0<=b1/\b1<(p1n.toNat:Int))/\(0<=((p1o.toNat:Int)+b1)/\((p1o.toNat:Int)+b1)<(w0.length:Int))/\(f1=f1)/\(U64 (ix w0 ((p1o.toNat:Int)+b1))/\(0<=(8:Int)/\(8:Int)<=8)/\f1.length<=137438953472)/\let r2:List Int:=(f1++dig (8:Int).toNat (ix w0 ((p1o.toNat:Int)+b1)))
(r2=r2)/\I1 (i64.wrap (b1+1)) r2/\M1 (i64.wrap (b1+1)) r2<M1 b1 f1)/\
(decide (b1<(p1n.toNat:Int))=false->
 f1=r0/\w0=e0))) (by kernel_rfl)<|by
 rintro p0 p1o p1n w0 h _ rfl _ rfl
 obtain⟨h1,h2,h3,h4⟩:=h
 have hl:((w0.drop p1o.toNat).take p1n.toNat).length=p1n.toNat:=by rw[List.length_take,List.length_drop];omega
 have hix:∀i:Nat,i<p1n.toNat->ix w0 ((p1o.toNat:Int)+i)=ix ((w0.drop p1o.toNat).take p1n.toNat) (i:Int):=by
  intro i hi
  rw[show((p1o.toNat:Int)+i)=((p1o.toNat+i:Nat):Int)by omega,ix_get _ _ (by omega),ix_get _ _ (by omega),List.getElem_take,List.getElem_drop]
 generalize ((w0.drop p1o.toNat).take p1n.toNat)=w at *
 refine ?_
 rw[wi (8*(p1n.toNat:Int)) (by omega) (by omega),wi (4+8*(p1n.toNat:Int)) (by omega) (by omega)]
 refine⟨⟨by omega,by omega⟩,rfl,⟨by omega,by omega⟩,rfl,?_⟩
 refine⟨(fun i g=>∃k:Nat,i=(k:Int)/\k<=w.length/\g=p0++dig 4 (len4 w.length)++(w.take k).flatMap (dig 8)),(fun i _=>(w.length-i).toNat),⟨0,rfl,by omega,by rw[hl];simp⟩,?_⟩
 rintro _ _ ⟨k,rfl,g1,rfl⟩
 refine⟨fun h=> ?_,fun h=> ?_⟩
 ·have h:k<w.length:=by have:=of_decide_eq_true h;omega
  have hx:=h1 _ (ix_mem w (k:Int) (by omega) (by omega))
  rw[inc_i64 _ (by omega),hix k (by omega)]
  refine⟨⟨by omega,by omega⟩,⟨by omega,by omega⟩,rfl,⟨hx,by omega,?_⟩,rfl,⟨k+1,rfl,by omega,?_⟩,by(dsimp only;omega)⟩
  ·simp only[List.length_append,kg,k23,List.length_take];omega
  ·rw[List.take_succ_eq_append_getElem h,List.flatMap_append,List.append_assoc,ix_get _ _ h]
   simp
 ·have h:k=w.length:=by have:=of_decide_eq_false h;omega
  rw[List.take_of_length_le (by omega),List.append_assoc]
  exact⟨rfl,rfl⟩
noncomputable def kfe:Con TB.den:= .gp 61 [.sl yqb,yqu] [.sl yqb] [] fun(p0:List Int) (p1:Int)=>(U64 p1/\p0.length<=137438953472,(p0++dig 8 p1:List Int),())
theorem kgo:kfe.Ok Tryz.prog TB:=qrv Bs Tryz.func61 .no (k1p.c (kx.c c0)) (Q:=∀(p0:List Int) (p1:Int),(U64 p1/\p0.length<=137438953472)->∀r0:List Int,(p0++dig 8 p1)=r0-> 
(0<=(8:Int)/\p0.length+(8:Int)<=140737488355328)/\(p0=p0)/\(U64 p1/\(0<=(8:Int)/\(8:Int)<=8)/\p0.length<=137438953472)/\(p0++dig (8:Int).toNat p1)=r0) (by kernel_rfl)<|by
 rintro p0 p1 h _ rfl
 obtain⟨h1,h2⟩:=h
 refine⟨⟨by omega,by omega⟩,by trivial,⟨h1,by omega,h2⟩,rfl⟩
noncomputable def kba:Con TB.den:= .g ⟨27,[.one (.ptr 0 0)],[.cells [zqi,zqi,zqi,zqi,zqi,zqu,zqi,zqi,zqu,zqi,zqi,zql,.row 1,.ptr 2 0,.d (.sl (.st 8)),zqu,.row 3,.row 4],.vec yqu,.cells [.mp 5],.vec yqu,.vec (.st 9),.map yqu (.bool)],(.one (.one (.d (.sl yqb)))),[.cells [zqi,zqi,zqi,zqi,zqi,zqu,zqi,zqi,zqu,zqi,zqi,zql,.row 1,.ptr 2 0,.d (.sl (.st 8)),zqu,.row 3,.row 4],.vec yqu,.cells [.mp 5],.vec yqu,.vec (.st 9),.map yqu (.bool)],false⟩ [yqi,yqi,yqi,yqi,yqi,yqu,yqi,yqi,yqu,yqi,yqi,.sl yqu,.sl (.st 8),yqu,.sl yqu,.sl yqu,.sl (.st 9),.sl yqu,.sl (.bool)] [.sl yqb,yqi,yqi,yqi,yqi,yqi,yqu,yqi,yqi,yqu,yqi,yqi,.sl yqu,.sl (.st 8),yqu,.sl yqu,.sl yqu,.sl (.st 9),.sl yqu,.sl (.bool)] [] fun(Ah Af Ai Aj Ak Al Ae Am Ao Ag Ac:Int) (Ad:List Int) (Aa:List wA) (Ab:Int) (w1 w3:List Int) (w4:List wN) (w5k:List Int) (w5v:List Bool)=>(∃(c:Nat) (f:Int),c<=800/\PI (PS.mk (wF.mk Ah Af Ai Aj Ak Al Ae Am Ao) (wE.mk Ag Ac Ad) Aa Ab w1 w3 w4 w5k w5v) c f,(encM (mOf (PS.mk (wF.mk Ah Af Ai Aj Ak Al Ae Am Ao) (wE.mk Ag Ac Ad) Aa Ab w1 w3 w4 w5k w5v)):List Int),Ah,Af,Ai,Aj,Ak,Al,Ae,Am,Ao,Ag,Ac,Ad,Aa,Ab,w1,w3,w4,w5k,w5v,())
theorem k32:kba.Ok Tryz.prog TB:=prv Bs Tryz.func27 (.r 4 (.nd [] (.r 0 (.lp [] ⟨[],[],[3,36],[.one (.d (.sl yqb)),.one (zqi)],[]⟩ .no)) [] .no)) (kik.c (kdc.c (k3k.c (kh7.c (kgo.c (k2k.c (kat.c c0))))))) (Q:=∀(Ah Af Ai Aj Ak Al Ae Am Ao Ag Ac:Int) (Ad:List Int) (Aa:List wA) (Ab:Int) (w1 w3:List Int) (w4:List wN) (w5k:List Int) (w5v:List Bool),(∃(c:Nat) (f:Int),c<=800/\PI (PS.mk (wF.mk Ah Af Ai Aj Ak Al Ae Am Ao) (wE.mk Ag Ac Ad) Aa Ab w1 w3 w4 w5k w5v) c f)->∀r0:List Int,(encM (mOf (PS.mk (wF.mk Ah Af Ai Aj Ak Al Ae Am Ao) (wE.mk Ag Ac Ad) Aa Ab w1 w3 w4 w5k w5v)))=r0->∀Av:Int,Ah=Av->∀Aw:Int,Af=Aw->∀Ax:Int,Ai=Ax->∀Ay:Int,Aj=Ay->∀Az:Int,Ak=Az->∀A0:Int,Al=A0->∀A1:Int,Ae=A1->∀A3:Int,Am=A3->∀A4:Int,Ao=A4->∀A5:Int,Ag=A5->∀Ap:Int,Ac=Ap->∀Aq:List Int,Ad=Aq->∀As:List wA,Aa=As->∀At:Int,Ab=At->∀e1:List Int,w1=e1->∀e3:List Int,w3=e3->∀e4:List wN,w4=e4->∀e5k:List Int,w5k=e5k->∀e5v:List Bool,w5v=e5v-> 
((-9223372036854775808<=(w4.length:Int)/\(w4.length:Int)<=9223372036854775807)/\([]:List Int).length<=137438953472)/\let r1:List Int:=(([]:List Int)++dig 4 (len4 (w4.length:Int)))
(w1.length=w1.length)/\(Us w1/\r1.length<=68719476736/\w1.length<=4294967295)/\(w4.length=w4.length)/\(w3.length=w3.length)/\(w1.length=w1.length)/\(w5v=trs w5k/\w5k.length<=1000000)/\(Us (srt w5k)/\(r1++encL w1).length<=68719476736/\(srt w5k).length<=4294967295)/\((-9223372036854775808<=(Aa.length:Int)/\(Aa.length:Int)<=9223372036854775807)/\((r1++encL w1)++encL (srt w5k)).length<=137438953472)/\let r2:List Int:=(((r1++encL w1)++encL (srt w5k))++dig 4 (len4 (Aa.length:Int)))
 ∃(I1:(List Int)->Int->Prop) (M1:(List Int)->Int->Nat),I1 r2 0/\∀(b1:List Int) (f1:Int),(I1 b1 f1->
(decide (f1<(Aa.length:Int))=true->
(0<=f1)/\f1<(Aa.length:Int)/\(U64 ((ix Aa f1).ID)/\b1.length<=137438953472)/\(U64 ((ix Aa f1).wR)/\(b1++dig 8 ((ix Aa f1).ID)).length<=137438953472)/\let r3:List Int:=((b1++dig 8 ((ix Aa f1).ID))++dig 8 ((ix Aa f1).wR))
(U64 ((ix Aa f1).wL)/\r3.length<=137438953472)/\I1 (r3++dig 8 ((ix Aa f1).wL)) (i64.wrap (f1+1))/\M1 (r3++dig 8 ((ix Aa f1).wL)) (i64.wrap (f1+1))<M1 b1 f1)/\
(decide (f1<(Aa.length:Int))=false->
(U64 Ab/\b1.length<=137438953472)/\(w4.length=w4.length)/\(w3.length=w3.length)/\(w1.length=w1.length)/\((1<=Ae/\Ae<=100)/\w3.length<=1000000)/\let r4:Int:=((w3.length-(w3.length-Ae.toNat):Nat):Int)
(Us ((w3.drop ((((w3.length-Ae.toNat:Nat):Int).toNat:Nat):Int).toNat).take (r4.toNat:Int).toNat)/\(b1++dig 8 Ab).length<=68719476736/\w3.length<=4294967295/\((((w3.length-Ae.toNat:Nat):Int).toNat:Nat):Int).toNat+(r4.toNat:Int).toNat<=w3.length)/\let r5:List Int:=((b1++dig 8 Ab)++encL ((w3.drop ((((w3.length-Ae.toNat:Nat):Int).toNat:Nat):Int).toNat).take (r4.toNat:Int).toNat))
(w4.length=w4.length)/\(w3.length=w3.length)/\(w1.length=w1.length)/\r5=r0/\Ah=Av/\Af=Aw/\Ai=Ax/\Aj=Ay/\Ak=Az/\Al=A0/\Ae=A1/\Am=A3/\Ao=A4/\Ag=A5/\Ac=Ap/\Ad=Aq/\Aa=As/\Ab=At/\w1=e1/\w3=e3/\w4=e4/\w5k=e5k/\w5v=e5v))) (by kernel_rfl)<|by
 rintro Ah Af Ai Aj Ak Al Ae Am Ao Ag Ac Ad Aa Ab w1 w3 w4 w5k w5v h _ rfl _ rfl _ rfl _ rfl _ rfl _ rfl _ rfl _ rfl _ rfl _ rfl _ rfl _ rfl _ rfl _ rfl _ rfl _ rfl _ rfl _ rfl _ rfl _ rfl
 obtain⟨c,f,hc,hp⟩:=h
 have he:=hp.eok hc
 have hrl:w3.length=w4.length+1:=hp.rl
 have hpl:w4.length<=c:=hp.p
 have hll:w1.length<=4096:=he.r.ll
 have hkl:w5k.length<=4*c:=hp.kl
 have hv:w5v=trs w5k:=hp.v
 have hw1:1<=Ae:=hp.w1
 have hw2:Ae<=100:=hp.w2
 have hal:Aa.length<=999:=he.r.al
 have hok:OkA Aa:=he.r.a
 have hn:U64 Ab:=he.r.n
 have hul:Us w1:=BG.us hp.l
 have huk:Us (srt w5k):=BG.us he.k
 have hua:Us (ancL w3 Ae):=anc_us hp.r
 have hsl:=k35 w5k
 have hmin:=anc_len w3 Ae
 have eA:(w3.drop (w3.length-Ae.toNat)).take (w3.length-(w3.length-Ae.toNat))=ancL w3 Ae:=by
  unfold ancL
  exact List.take_of_length_le (by rw[List.length_drop];omega)
 refine⟨⟨⟨by omega,by omega⟩,Nat.zero_le _⟩,rfl,⟨hul,by simp only[List.nil_append,kg];omega,by omega⟩,rfl,rfl,rfl,⟨hv,by omega⟩,⟨huk,?_,by omega⟩,⟨⟨by omega,by omega⟩,?_⟩,?_⟩
 ·simp only[List.nil_append,List.length_append,kg,ku];omega
 ·simp only[List.nil_append,List.length_append,kg,ku];omega
 rw[List.nil_append]
 refine⟨fun g a=>∃i:Nat,a=(i:Int)/\i<=Aa.length/\g=dig 4 (len4 (w4.length:Int))++encL w1++encL (srt w5k)++dig 4 (len4 (Aa.length:Int))++(Aa.take i).flatMap encA,fun _ a=>(Aa.length-a).toNat,⟨0,rfl,by omega,by simp⟩,?_⟩
 rintro _ _ ⟨i,rfl,hi,rfl⟩
 have hlen:(dig 4 (len4 (w4.length:Int))++encL w1++encL (srt w5k)++dig 4 (len4 (Aa.length:Int))++(Aa.take i).flatMap encA).length<=1000000:=by
  simp only[List.length_append,kg,ku,k63,List.length_take];omega
 refine⟨fun e=> ?_,fun e=> ?_⟩
 ·have e:i<Aa.length:=by have:=of_decide_eq_true e;omega
  obtain⟨u1,u2,u3⟩:=acc_u hok (List.getElem_mem e)
  rw[ix_get _ _ e,inc_i64 _ (by omega)]
  refine⟨by omega,by omega,⟨u1,by omega⟩,⟨u2,?_⟩,⟨u3,?_⟩,⟨i+1,rfl,by omega,kgg e _⟩,by(dsimp only;omega)⟩
  ·rw[List.length_append,kg];omega
  ·rw[List.length_append,List.length_append,kg,kg];omega
 ·have e:i=Aa.length:=by have:=of_decide_eq_false e;omega
  subst e
  rw[List.take_length]at hlen ⊢
  simp only[Int.toNat_natCast,eA]
  refine⟨⟨hn,by omega⟩,by trivial,by trivial,by trivial,⟨⟨hw1,hw2⟩,by omega⟩,⟨hua,?_,by omega,by omega⟩,by trivial,by trivial,by trivial,rfl,(by repeat' first|apply And.intro|exact rfl|exact True.intro)⟩
  rw[List.length_append,kg];omega
noncomputable def kd6:Con TB.den:= .gp 64 [yqu,yqi] [.sl yqb] [] fun(p0 p1:Int)=>(U64 p0/\0<=p1/\p1<=8,(dig p1.toNat p0:List Int),())
theorem k7p:kd6.Ok Tryz.prog TB:=qrv Bs Tryz.func64 (.r 1 (.nd [] (.r 0 (.lp [.tok 5 yqb] ⟨[0],[.tip yqb],[0,5,6],[.one (zqu),.one (.own 0),.one (zqi)],[]⟩ .no)) [] .no)) c0 (Q:=∀(p0 p1:Int),(U64 p0/\0<=p1/\p1<=8)->∀r0:List Int,dig p1.toNat p0=r0-> 
(([]:List Int)=([]:List Int))/\∃(I1:Int->Int->(List Int)->Prop) (M1:Int->Int->(List Int)->Nat),I1 p0 0 ([]:List Int)/\∀(b1 f1:Int) (i1:List Int),(I1 b1 f1 i1->
(decide (f1<p1)=true->
 i1.length=i1.length/\(i1.length+[IntKind.u8.wrap (Int.tmod b1 256)].length)*1<=140737488355328/\i1.length+[IntKind.u8.wrap (Int.tmod b1 256)].length<=maxLen/\let v1:List Int:=i1++[IntKind.u8.wrap (Int.tmod b1 256)]
(v1=v1)/\I1 (u64.wrap (Int.tdiv b1 256)) (i64.wrap (f1+1)) v1/\M1 (u64.wrap (Int.tdiv b1 256)) (i64.wrap (f1+1)) v1<M1 b1 f1 i1)/\
(decide (f1<p1)=false->
 i1=r0))) (by kernel_rfl)<|by
 rintro p0 p1 h _ rfl
 obtain⟨h1,h2,h3⟩:=h
 refine⟨rfl,⟨(fun n i g=>0<=i/\i<=p1/\U64 n/\n=p0/256^i.toNat/\g=dig i.toNat p0),(fun _ i _=>(p1-i).toNat),⟨by omega,by omega,h1,by simp,by simp[dig]⟩,?_⟩⟩
 rintro n i g ⟨g0,g1,g2,g3,rfl⟩
 refine⟨fun h=> ?_,fun h=> ?_⟩
 ·have h:=of_decide_eq_true h
  rw[inc i p1 g0 h (by omega),tmod_nn _ _ g2.1,tdiv_nn _ _ g2.1,u8w,wu (n/256) (by omega) (by omega)]
  refine⟨rfl,?_,?_,rfl,⟨by omega,by omega,⟨by omega,by omega⟩,?_,?_⟩,by(dsimp only;omega)⟩
  ·simp;omega
  ·simp;unfold maxLen;omega
  ·rw[g3,show(i+1).toNat=i.toNat+1 by omega,Int.ediv_ediv_of_nonneg (Int.le_of_lt (k7b _)),Int.pow_succ]
  ·rw[show(i+1).toNat=i.toNat+1 by omega,k6y,g3]
   congr 2
   omega
 ·have h:=of_decide_eq_false h
  rw[show i=p1 by omega]
noncomputable def kak:Con TB.den:= .g ⟨64,[.one (zqu),.one (zqi)],[],(.one (.one (.own 0))),[.tip yqb],false⟩ [yqu,yqi] [.sl yqb] [] fun(p0 p1:Int)=>(U64 p0/\0<=p1/\p1<=8,(dig p1.toNat p0:List Int),())
theorem kby:kak.Ok Tryz.prog TB:=prv Bs Tryz.func64 (.r 1 (.nd [] (.r 0 (.lp [.tok 5 yqb] ⟨[0],[.tip yqb],[0,5,6],[.one (zqu),.one (.own 0),.one (zqi)],[]⟩ .no)) [] .no)) c0 (Q:=∀(p0 p1:Int),(U64 p0/\0<=p1/\p1<=8)->∀e0:List Int,dig p1.toNat p0=e0-> 
(([]:List Int)=([]:List Int))/\∃(I1:Int->Int->(List Int)->Prop) (M1:Int->Int->(List Int)->Nat),I1 p0 0 ([]:List Int)/\∀(b1 f1:Int) (i1:List Int),(I1 b1 f1 i1->
(decide (f1<p1)=true->
 i1.length=i1.length/\(i1.length+[IntKind.u8.wrap (Int.tmod b1 256)].length)*1<=140737488355328/\i1.length+[IntKind.u8.wrap (Int.tmod b1 256)].length<=maxLen/\let v1:List Int:=i1++[IntKind.u8.wrap (Int.tmod b1 256)]
(v1=v1)/\I1 (u64.wrap (Int.tdiv b1 256)) (i64.wrap (f1+1)) v1/\M1 (u64.wrap (Int.tdiv b1 256)) (i64.wrap (f1+1)) v1<M1 b1 f1 i1)/\
(decide (f1<p1)=false->
(i1=i1)/\i1=e0))) (by kernel_rfl)<|by
 rintro p0 p1 h _ rfl
 obtain⟨h1,h2,h3⟩:=h
 refine⟨rfl,⟨(fun n i g=>0<=i/\i<=p1/\U64 n/\n=p0/256^i.toNat/\g=dig i.toNat p0),(fun _ i _=>(p1-i).toNat),⟨by omega,by omega,h1,by simp,by simp[dig]⟩,?_⟩⟩
 rintro n i g ⟨g0,g1,g2,g3,rfl⟩
 refine⟨fun h=> ?_,fun h=> ?_⟩
 ·have h:=of_decide_eq_true h
  rw[inc i p1 g0 h (by omega),tmod_nn _ _ g2.1,tdiv_nn _ _ g2.1,u8w,wu (n/256) (by omega) (by omega)]
  refine⟨rfl,?_,?_,rfl,⟨by omega,by omega,⟨by omega,by omega⟩,?_,?_⟩,by(dsimp only;omega)⟩
  ·simp;omega
  ·simp;unfold maxLen;omega
  ·rw[g3,show(i+1).toNat=i.toNat+1 by omega,Int.ediv_ediv_of_nonneg (Int.le_of_lt (k7b _)),Int.pow_succ]
  ·rw[show(i+1).toNat=i.toNat+1 by omega,k6y,g3]
   congr 2
   omega
 ·have h:=of_decide_eq_false h
  exact⟨rfl,by rw[show i=p1 by omega]⟩
noncomputable def kff:Con TB.den:= .t ⟨62,[.one (zqi)],[],(.one (.one (.own 0))),[.tip yqb],false⟩ [yqi] [.sl yqb] [] fun(p0:Int)=>((dig 4 (len4 p0):List Int),())
theorem k86:kff.Ok Tryz.prog TB:=ptv Bs Tryz.func62 (.r 0 (.jn ⟨[],[],[0],[.one (zqi)],[]⟩ [] .no [] .no)) (kby.c c0) (Q:=∀(p0:Int),∀e0:List Int,(dig 4 (len4 p0))=e0-> 
 ∀J1:Int->Prop,(∀(b1:Int),
((U64 (u64.wrap b1)/\0<=(4:Int)/\(4:Int)<=8)/\let r1:List Int:=(dig (4:Int).toNat (u64.wrap b1))
(r1=r1)/\r1=e0)->J1 b1)->
(decide (p0<0)=true->
 J1 0)/\
(decide (p0<0)=false->
(decide (4294967296<=p0)=true->
 J1 0)/\
(decide (4294967296<=p0)=false->
 J1 p0))) (by kernel_rfl)<|by
 rintro p0 _ rfl
 intro J1 j1
 have j:∀n,0<=n->n<=4294967295->len4 p0=n->J1 n:=by
  intro n h0 h1 e
  refine j1 _ ?_
  rw[wu n (by omega) (by omega),e]
  exact⟨⟨⟨h0,by omega⟩,by omega⟩,by trivial,rfl⟩
 refine⟨fun h=>j 0 (by omega) (by omega) ?_,fun h=>⟨fun h' =>j 0 (by omega) (by omega) ?_,fun h' =>j p0 ?_ ?_ ?_⟩⟩
 ·have h:=of_decide_eq_true h;exact if_pos (.inl h)
 ·have h' :=of_decide_eq_true h';exact if_pos (.inr (by omega))
 ·have h:=of_decide_eq_false h;omega
 ·have h' :=of_decide_eq_false h';omega
 ·have h:=of_decide_eq_false h;have h' :=of_decide_eq_false h';exact len4_in ⟨by omega,by omega⟩
noncomputable def kg3:Con TB.den:= .gp 63 [.sl yqu] [.sl yqb] [] fun(p0:List Int)=>(Us p0/\p0.length<=4294967295,(encL p0:List Int),())
theorem kj4:kg3.Ok Tryz.prog TB:=qrv Bs Tryz.func63 (.r 1 (.nd [] (.r 0 (.lp [] ⟨[0],[.tip yqb],[3,4],[.one (.own 0),.one (zqi)],[]⟩ .no)) [] .no)) (k86.c (k7p.c c0)) (Q:=∀(p0:List Int),(Us p0/\p0.length<=4294967295)->∀r0:List Int,encL p0=r0-> 
((dig 4 (len4 (p0.length:Int)))=(dig 4 (len4 (p0.length:Int))))/\∃(I1:Int->(List Int)->Prop) (M1:Int->(List Int)->Nat),I1 0 (dig 4 (len4 (p0.length:Int)))/\∀(b1:Int) (f1:List Int),(I1 b1 f1->
(decide (b1<(p0.length:Int))=true->
(0<=b1)/\b1<(p0.length:Int)/\(U64 (ix p0 b1)/\0<=(8:Int)/\(8:Int)<=8)/\f1.length=f1.length/\(f1.length+(dig (8:Int).toNat (ix p0 b1)).length)*1<=140737488355328/\f1.length+(dig (8:Int).toNat (ix p0 b1)).length<=maxLen/\(f1++(dig (8:Int).toNat (ix p0 b1))=f1++(dig (8:Int).toNat (ix p0 b1)))/\I1 (i64.wrap (b1+1)) (f1++(dig (8:Int).toNat (ix p0 b1)))/\M1 (i64.wrap (b1+1)) (f1++(dig (8:Int).toNat (ix p0 b1)))<M1 b1 f1)/\
(decide (b1<(p0.length:Int))=false->
 f1=r0))) (by kernel_rfl)<|by
 rintro p0 h _ rfl
 obtain⟨h1,h2⟩:=h
 refine⟨rfl,⟨(fun i g=>0<=i/\i<=p0.length/\g=dig 4 (len4 p0.length)++(p0.take i.toNat).flatMap (dig 8)),(fun i _=>(p0.length-i).toNat),⟨by omega,by omega,by simp⟩,?_⟩⟩
 rintro i g ⟨g0,g1,rfl⟩
 refine⟨fun h=> ?_,fun h=> ?_⟩
 ·have h:=of_decide_eq_true h
  have hx:=h1 _ (ix_mem p0 i g0 h)
  rw[inc i p0.length g0 h (by omega)]
  have hlen:(dig 4 (len4 p0.length)++(p0.take i.toNat).flatMap (dig 8)).length<=4+8*p0.length:=by simp only[List.length_append,kg,k23,List.length_take];omega
  refine⟨g0,h,⟨hx,by omega⟩,rfl,?_,?_,rfl,⟨by omega,by omega,?_⟩,by(dsimp only;omega)⟩
  ·rw[kg];omega
  ·rw[kg];unfold maxLen;omega
  ·rw[ki p0 i g0 h,List.flatMap_append,List.append_assoc]
   simp
 ·have h:=of_decide_eq_false h
  rw[List.take_of_length_le (by omega)]
  rfl
noncomputable def kdg:Con TB.den:= .gp 28 [.st 13] [.sl yqb] [] fun(p0:wt)=>(EOk p0,(encM p0:List Int),())
theorem k7v:kdg.Ok Tryz.prog TB:=qrv Bs Tryz.func28 (.r 4 (.nd [] (.r 0 (.lp [] ⟨[1],[.tip yqb],[3,4],[.one (.own 0),.one (zqi)],[]⟩ .no)) [] .no)) (k86.c (kj4.c (k7p.c (k3o.c c0)))) (Q:=∀(p0:wt),(EOk p0)->∀r0:List Int,encM p0=r0-> 
(Us p0.wq/\p0.wq.length<=4294967295)/\(dig 4 (len4 p0.wS)).length=(dig 4 (len4 p0.wS)).length/\((dig 4 (len4 p0.wS)).length+(encL p0.wq).length)*1<=140737488355328/\(dig 4 (len4 p0.wS)).length+(encL p0.wq).length<=maxLen/\let v1:List Int:=(dig 4 (len4 p0.wS))++(encL p0.wq)
(Us p0.wC/\p0.wC.length<=4294967295)/\v1.length=v1.length/\(v1.length+(encL p0.wC).length)*1<=140737488355328/\v1.length+(encL p0.wC).length<=maxLen/\let r2:List Int:=(dig 4 (len4 (p0.wB.length:Int)))
(v1++(encL p0.wC)).length=(v1++(encL p0.wC)).length/\((v1++(encL p0.wC)).length+r2.length)*1<=140737488355328/\(v1++(encL p0.wC)).length+r2.length<=maxLen/\((v1++(encL p0.wC))++r2=(v1++(encL p0.wC))++r2)/\∃(I1:Int->(List Int)->Prop) (M1:Int->(List Int)->Nat),I1 0 ((v1++(encL p0.wC))++r2)/\∀(b1:Int) (f1:List Int),(I1 b1 f1->
(decide (b1<(p0.wB.length:Int))=true->
(0<=b1)/\b1<(p0.wB.length:Int)/\(U64 ((ix p0.wB b1).ID)/\0<=(8:Int)/\(8:Int)<=8)/\let r3:List Int:=(dig (8:Int).toNat ((ix p0.wB b1).ID))
 f1.length=f1.length/\(f1.length+r3.length)*1<=140737488355328/\f1.length+r3.length<=maxLen/\(U64 ((ix p0.wB b1).wR)/\0<=(8:Int)/\(8:Int)<=8)/\let r4:List Int:=(dig (8:Int).toNat ((ix p0.wB b1).wR))
(f1++r3).length=(f1++r3).length/\((f1++r3).length+r4.length)*1<=140737488355328/\(f1++r3).length+r4.length<=maxLen/\(U64 ((ix p0.wB b1).wL)/\0<=(8:Int)/\(8:Int)<=8)/\let r5:List Int:=(dig (8:Int).toNat ((ix p0.wB b1).wL))
((f1++r3)++r4).length=((f1++r3)++r4).length/\(((f1++r3)++r4).length+r5.length)*1<=140737488355328/\((f1++r3)++r4).length+r5.length<=maxLen/\(((f1++r3)++r4)++r5=((f1++r3)++r4)++r5)/\I1 (i64.wrap (b1+1)) (((f1++r3)++r4)++r5)/\M1 (i64.wrap (b1+1)) (((f1++r3)++r4)++r5)<M1 b1 f1)/\
(decide (b1<(p0.wB.length:Int))=false->
(U64 p0.wz/\0<=(8:Int)/\(8:Int)<=8)/\f1.length=f1.length/\(f1.length+(dig (8:Int).toNat p0.wz).length)*1<=140737488355328/\f1.length+(dig (8:Int).toNat p0.wz).length<=maxLen/\((1<=p0.wK/\p0.wK<=100)/\p0.we.length<=1000000)/\(Us (ancL p0.we p0.wK)/\(ancL p0.we p0.wK).length<=4294967295)/\(f1++(dig (8:Int).toNat p0.wz)).length=(f1++(dig (8:Int).toNat p0.wz)).length/\((f1++(dig (8:Int).toNat p0.wz)).length+(encL (ancL p0.we p0.wK)).length)*1<=140737488355328/\(f1++(dig (8:Int).toNat p0.wz)).length+(encL (ancL p0.we p0.wK)).length<=maxLen/\let v6:List Int:=(f1++(dig (8:Int).toNat p0.wz))++(encL (ancL p0.we p0.wK))
 v6=r0))) (by kernel_rfl)<|by
 rintro p0 h _ rfl
 have hr:=h.r
 have hal:p0.wB.length<=999:=hr.al
 have hll:=hr.ll
 have hml:=hr.ml
 have hrl:=hr.rl
 have hmin:=anc_len p0.we p0.wK
 have hX:(dig 4 (len4 p0.wS)++encL p0.wq++encL p0.wC).length=4+(4+8*p0.wq.length)+(4+8*p0.wC.length):=by simp only[List.length_append,kg,ku]
 refine⟨⟨BG.us h.l,by omega⟩,rfl,?_,?_,⟨BG.us h.k,by omega⟩,rfl,?_,?_,rfl,?_,?_,rfl,?_⟩
 ·simp only[kg,ku];omega
 ·simp only[kg,ku];unfold maxLen;omega
 ·simp only[List.length_append,kg,ku];omega
 ·simp only[List.length_append,kg,ku];unfold maxLen;omega
 ·rw[hX,kg];omega
 ·rw[hX,kg];unfold maxLen;omega
 refine⟨fun a g=>∃i:Nat,a=(i:Int)/\i<=p0.wB.length/\g=dig 4 (len4 p0.wS)++encL p0.wq++encL p0.wC++dig 4 (len4 (p0.wB.length:Int))++(p0.wB.take i).flatMap encA,fun a _=>(p0.wB.length-a).toNat,⟨0,rfl,by omega,by simp⟩,?_⟩
 rintro _ _ ⟨i,rfl,hi,rfl⟩
 have hlen:(dig 4 (len4 p0.wS)++encL p0.wq++encL p0.wC++dig 4 (len4 (p0.wB.length:Int))++(p0.wB.take i).flatMap encA).length<=10000000:=by
  simp only[List.length_append,kg,ku,k63,List.length_take];omega
 refine⟨fun e=> ?_,fun e=> ?_⟩
 ·have e:i<p0.wB.length:=by have:=of_decide_eq_true e;omega
  obtain⟨u1,u2,u3⟩:=acc_u hr.a (List.getElem_mem e)
  rw[ix_get _ _ e,inc_i64 _ (by omega)]
  refine⟨by omega,by omega,⟨u1,by omega,by omega⟩,rfl,?_,?_,⟨u2,by omega,by omega⟩,rfl,?_,?_,⟨u3,by omega,by omega⟩,rfl,?_,?_,rfl,⟨i+1,rfl,by omega,kgg e _⟩,by(dsimp only;omega)⟩
  all_goals (try unfold maxLen)
  all_goals (simp only[List.length_append,kg]at hlen ⊢;omega)
 ·have e:i=p0.wB.length:=by have:=of_decide_eq_false e;omega
  subst e
  rw[List.take_length]at hlen ⊢
  refine⟨⟨hr.n,by omega,by omega⟩,rfl,?_,?_,⟨⟨hr.w1,hr.w2⟩,hrl⟩,⟨anc_us h.o,by omega⟩,rfl,?_,?_,rfl⟩
  all_goals (try unfold maxLen)
  all_goals (simp only[List.length_append,kg,ku]at hlen ⊢;omega)
noncomputable def k17:Con TB.den:= .gp 9 [.st 0,.sl (.st 3)] [.bool] [] fun(p0:wF) (p1:List wAD)=>(OArg p0 p1,true,())
theorem k9q:k17.Ok Tryz.prog TB:=qrv Bs Tryz.func9 (.r 0 (.nd [] (.jn ⟨[],[],[15],[.one (.d (.bool))],[]⟩ [] .no [] .no) [] .no)) (k28.c (k2z.c (k2g.c (k32.c (k7v.c c0))))) (Q:=∀(p0:wF) (p1:List wAD),(OArg p0 p1)->∀r0:Bool,(true:Bool)=r0-> 
 ∀J1:Bool->Prop,(∀(b1:Bool),
((b1=true->
 true=r0)/\
(b1=false->
(rulesE p0=0/\0<=p0.wP/\p1.length<=60/\OpsR p1)/\(true=true->
((((plS p0 p1).s).p).length=(((plS p0 p1).s).p).length)/\((((plS p0 p1).s).r).length=(((plS p0 p1).s).r).length)/\((((plS p0 p1).s).l).length=(((plS p0 p1).s).l).length)/\(∃(c:Nat) (f:Int),c<=800/\PI (((plS p0 p1).s)) c f)/\let v1:Int:=((((plS p0 p1).n:Int).toNat:Nat):Int)
(0<=i64.wrap (v1-1)/\i64.wrap (v1-1)<((((plS p0 p1).n:Int).toNat:Nat):Int))/\(0<=((((0:Int).toNat:Nat):Int)+i64.wrap (v1-1))/\((((0:Int).toNat:Nat):Int)+i64.wrap (v1-1))<(((plS p0 p1).g).length:Int))/\(EOk (ix ((plS p0 p1).g) ((((0:Int).toNat:Nat):Int)+i64.wrap (v1-1))))/\let r2:List Int:=(encM (ix ((plS p0 p1).g) ((((0:Int).toNat:Nat):Int)+i64.wrap (v1-1))))
 let v3:Bool:=((strOfNums (encM (mOf (((plS p0 p1).s))))).toList==(strOfNums r2).toList)
 v3=r0)/\
(true=false->
 false=r0)))->J1 b1)->
((!true)=true->
 J1 true)/\
((!true)=false->
(p1.length<=9223372036854775807/\∀o∈p1,o.wAB.length<=9223372036854775807/\∀t∈o.wAB,t.wH.length<=9223372036854775807)/\J1 (!(smOps p0 p1)))) (by kernel_rfl)<|by
 rintro p0 p1 h _ rfl
 intro J1 j
 have j1:∀b,(b=false->smOps p0 p1=true)->J1 b:=by
  intro b hb
  refine j _ ⟨fun _=>rfl,fun e=> ?_⟩
  obtain⟨q1,q2,q3,q4⟩:=k5g (hb e) h
  have pt:=play_PT q1 h.hr (by omega) q2
  refine⟨⟨q1,h.hr,by omega,q2⟩,?_⟩
  generalize plS p0 p1=X at *
  obtain⟨⟨c,hc,hi⟩,pR,n1,n2,pl,pw,ptt⟩:=pt
  have b1:0<=i64.wrap ((((X.n:Int).toNat:Nat):Int)-1)/\i64.wrap ((((X.n:Int).toNat:Nat):Int)-1)<(((X.n:Int).toNat:Nat):Int):=by rw[pw,Int.toNat_natCast];omega
  have b2:0<=(((0:Int).toNat:Nat):Int)+i64.wrap ((((X.n:Int).toNat:Nat):Int)-1)/\(((0:Int).toNat:Nat):Int)+i64.wrap ((((X.n:Int).toNat:Nat):Int)-1)<(X.g.length:Int):=by rw[pw,show(0:Int).toNat=0 from rfl];omega
  refine⟨fun _=>⟨rfl,rfl,rfl,⟨c,0,by omega,hi⟩,b1,b2,(by rw[ptt];exact hi.eok (by omega)),?_⟩,fun e=>(by cases e)⟩
  show((strOfNums (encM (mOf X.s))).toList==(strOfNums (encM (ix X.g ((((0:Int).toNat:Nat):Int)+i64.wrap ((((X.n:Int).toNat:Nat):Int)-1))))).toList)=true
  rw[ptt]
  exact BEq.rfl
 exact⟨fun e=>(by cases e),fun _=>⟨h.sm,j1 _ fun e=>by simpa using e⟩⟩
noncomputable def kcc:Con TB.den:= .g ⟨12,[.agg [zqi,zqi,zqi,zqi,zqi,zqu,zqi,zqi,zqu],.one (.row 0)],[.vec (.st 3)],(.one (.one (.d (.bool)))),[.vec (.st 3)],false⟩ [.st 0,.sl (.st 3)] [.bool,.sl (.st 3)] [] fun(p0:wF) (w0:List wAD)=>(w0.length<=9223372036854775807/\∀o∈w0,o.wAB.length<=9223372036854775807/\∀t∈o.wAB,t.wH.length<=9223372036854775807,(smOps p0 w0:Bool),w0,())
theorem kde:kcc.Ok Tryz.prog TB:=prv Bs Tryz.func12 (.r 0 (.nd [] (.r 0 (.lp [] ⟨[],[],[9],[.one (zqi)],[]⟩ .no)) [] .no)) (k8e.c (k8l.c c0)) (Q:=∀(p0:wF) (w0:List wAD),(w0.length<=9223372036854775807/\∀o∈w0,o.wAB.length<=9223372036854775807/\∀t∈o.wAB,t.wH.length<=9223372036854775807)->∀r0:Bool,smOps p0 w0=r0->∀e0:List wAD,w0=e0-> 
 ∃(I1:Int->Prop) (M1:Int->Nat),I1 0/\∀(b1:Int),(I1 b1->
(decide (b1<(w0.length:Int))=true->
(0<=b1/\b1<(w0.length:Int))/\(0<=b1/\b1<(w0.length:Int))/\((wV.mk ((ix w0 b1).wAF) ((ix w0 b1).wAG) ((ix w0 b1).wAK) ((ix w0 b1).wAO) ((ix w0 b1).wAL) ((ix w0 b1).wAB)).Txs.length<=9223372036854775807/\∀t∈(wV.mk ((ix w0 b1).wAF) ((ix w0 b1).wAG) ((ix w0 b1).wAK) ((ix w0 b1).wAO) ((ix w0 b1).wAL) ((ix w0 b1).wAB)).Txs,t.wH.length<=9223372036854775807)/\let r1:Bool:=(smB (wV.mk ((ix w0 b1).wAF) ((ix w0 b1).wAG) ((ix w0 b1).wAK) ((ix w0 b1).wAO) ((ix w0 b1).wAL) ((ix w0 b1).wAB)))
((!r1)=true->
 false=r0/\w0=e0)/\
((!r1)=false->
 I1 (i64.wrap (b1+1))/\M1 (i64.wrap (b1+1))<M1 b1))/\
(decide (b1<(w0.length:Int))=false->
(decide (p0.wD<=6)=true->
(decide ((w0.length:Int)<=12)=true->
((rulesE p0)==0)=r0/\w0=e0)/\
(decide ((w0.length:Int)<=12)=false->
 false=r0/\w0=e0))/\
(decide (p0.wD<=6)=false->
 false=r0/\w0=e0)))) (by kernel_rfl)<|by
 rintro p0 w0 h _ rfl _ rfl
 obtain⟨hl,ho⟩:=h
 generalize hR:smOps p0 w0=R
 unfold smOps at hR
 refine(⟨(fun a=>∃i:Nat,a=(i:Int)/\i<=w0.length/\(w0.drop i).all (fun o=>smB (opB o))=w0.all fun o=>smB (opB o)),(fun a=>(w0.length-a).toNat),⟨0,rfl,by omega,rfl⟩,?_⟩)
 rintro _ ⟨i,rfl,hi,he⟩
 refine⟨fun e=> ?_,fun e=> ?_⟩
 ·have e:i<w0.length:=by have:=of_decide_eq_true e;omega
  rw[List.drop_eq_getElem_cons e,List.all_cons]at he
  rw[ix_get _ _ e,inc (i:Int) w0.length (by omega) (by omega) (by omega)]
  refine⟨⟨by omega,by omega⟩,⟨by omega,by omega⟩,ho _ (List.getElem_mem e),fun e2=>⟨?_,rfl⟩,fun e2=>⟨⟨i+1,by omega,by omega,?_⟩,by(dsimp only;omega)⟩⟩
  ·have e2:(!(smB (opB w0[i])))=true:=e2
   have e2:smB (opB w0[i])=false:=by simpa using e2
   rw[e2,Bool.false_and]at he
   rw[<-he,Bool.false_and]at hR
   exact hR
  ·have e2:(!(smB (opB w0[i])))=false:=e2
   have e2:smB (opB w0[i])=true:=by simpa using e2
   rw[e2,Bool.true_and]at he
   exact he
 ·have e:i=w0.length:=by have:=of_decide_eq_false e;omega
  subst e
  rw[List.drop_length]at he
  rw[<-he,List.all_nil,Bool.true_and]at hR
  refine⟨fun e2=>⟨fun e3=> ?_,fun e3=> ?_⟩,fun e2=> ?_⟩
  ·rw[e2,e3,Bool.true_and,Bool.true_and]at hR
   exact⟨hR,rfl⟩
  ·rw[e2,e3,Bool.true_and,Bool.false_and]at hR
   exact⟨hR,rfl⟩
  ·rw[e2,Bool.false_and]at hR
   exact⟨hR,rfl⟩
noncomputable def k1f:Con TB.den:= .gp 10 [.st 0,.sl (.st 3),.st 10] [.bool] [] fun(p0:wF) (p1:List wAD) (p2:wV)=>(OArg p0 p1/\BArg p2/\p1.length*72<=140737488351232,true,())
theorem kcm:k1f.Ok Tryz.prog TB:=qrx Bs [16,18,21,22] Tryz.func10 (.r 0 (.nd [] (.jn ⟨[],[],[25],[.one (.d (.bool))],[]⟩ [] .no [] .no) [] .no)) x0 (k28.c (kde.c (k2g.c (k32.c (k3e.c (ka1.c (k46.c c0))))))) (Q:=∀(p0:wF) (p1:List wAD) (p2:wV),(OArg p0 p1/\BArg p2/\p1.length*72<=140737488351232)->∀r0:Bool,(true:Bool)=r0-> 
 ∀J1:Bool->Prop,(∀(b1:Bool),
((b1=true->
 true=r0)/\
(b1=false->
(rulesE p0=0/\0<=p0.wP/\p1.length<=60/\OpsR p1)/\((!true)=true->
 false=r0)/\
((!true)=false->
((((plS p0 p1).s).p).length=(((plS p0 p1).s).p).length)/\((((plS p0 p1).s).r).length=(((plS p0 p1).s).r).length)/\((((plS p0 p1).s).l).length=(((plS p0 p1).s).l).length)/\(∃(c:Nat) (f:Int),c<=800/\PI (((plS p0 p1).s)) c f)/\((((plS p0 p1).s).p).length=(((plS p0 p1).s).p).length)/\((((plS p0 p1).s).r).length=(((plS p0 p1).s).r).length)/\((((plS p0 p1).s).l).length=(((plS p0 p1).s).l).length)/\((∃c:Nat,c+p2.Txs.length<=790/\PI (((plS p0 p1).s)) c 0)/\BR' p2)/\let r3:=(applyS (((plS p0 p1).s)) p2).s
((((applyS (((plS p0 p1).s)) p2).e) !=0)=true->
((((applyS (((plS p0 p1).s)) p2).s).p).length=(((applyS (((plS p0 p1).s)) p2).s).p).length)/\((((applyS (((plS p0 p1).s)) p2).s).r).length=(((applyS (((plS p0 p1).s)) p2).s).r).length)/\((((applyS (((plS p0 p1).s)) p2).s).l).length=(((applyS (((plS p0 p1).s)) p2).s).l).length)/\(∃(c:Nat) (f:Int),c<=800/\PI (PS.mk (r3.R) (r3.F) (((applyS (((plS p0 p1).s)) p2).s).b) (((applyS (((plS p0 p1).s)) p2).s).n) (((applyS (((plS p0 p1).s)) p2).s).l) (((applyS (((plS p0 p1).s)) p2).s).r) (((applyS (((plS p0 p1).s)) p2).s).p) (((applyS (((plS p0 p1).s)) p2).s).k) (((applyS (((plS p0 p1).s)) p2).s).v)) c f)/\let r4:List Int:=(encM (mOf (PS.mk (r3.R) (r3.F) (((applyS (((plS p0 p1).s)) p2).s).b) (((applyS (((plS p0 p1).s)) p2).s).n) (((applyS (((plS p0 p1).s)) p2).s).l) (((applyS (((plS p0 p1).s)) p2).s).r) (((applyS (((plS p0 p1).s)) p2).s).p) (((applyS (((plS p0 p1).s)) p2).s).k) (((applyS (((plS p0 p1).s)) p2).s).v))))
 let v5:Bool:=((strOfNums r4).toList==(strOfNums (encM (mOf (((plS p0 p1).s))))).toList)
(v5=true->
 let v6:Int:=((((plS p0 p1).n:Int).toNat:Nat):Int)
(0<=i64.wrap (v6-1)/\i64.wrap (v6-1)<((((plS p0 p1).n:Int).toNat:Nat):Int))/\(0<=((((0:Int).toNat:Nat):Int)+i64.wrap (v6-1))/\((((0:Int).toNat:Nat):Int)+i64.wrap (v6-1))<(((plS p0 p1).g).length:Int))/\((((applyS (((plS p0 p1).s)) p2).s).p).length=(((applyS (((plS p0 p1).s)) p2).s).p).length)/\((((applyS (((plS p0 p1).s)) p2).s).r).length=(((applyS (((plS p0 p1).s)) p2).s).r).length)/\((((applyS (((plS p0 p1).s)) p2).s).l).length=(((applyS (((plS p0 p1).s)) p2).s).l).length)/\((∃(c:Nat) (f:Int),c<=800/\PI (PS.mk (r3.R) (r3.F) (((applyS (((plS p0 p1).s)) p2).s).b) (((applyS (((plS p0 p1).s)) p2).s).n) (((applyS (((plS p0 p1).s)) p2).s).l) (((applyS (((plS p0 p1).s)) p2).s).r) (((applyS (((plS p0 p1).s)) p2).s).p) (((applyS (((plS p0 p1).s)) p2).s).k) (((applyS (((plS p0 p1).s)) p2).s).v)) c f)/\(ix ((plS p0 p1).g) ((((0:Int).toNat:Nat):Int)+i64.wrap (v6-1)))=mOf (PS.mk (r3.R) (r3.F) (((applyS (((plS p0 p1).s)) p2).s).b) (((applyS (((plS p0 p1).s)) p2).s).n) (((applyS (((plS p0 p1).s)) p2).s).l) (((applyS (((plS p0 p1).s)) p2).s).r) (((applyS (((plS p0 p1).s)) p2).s).p) (((applyS (((plS p0 p1).s)) p2).s).k) (((applyS (((plS p0 p1).s)) p2).s).v)))/\true=r0)/\
(v5=false->
 false=r0))/\
((((applyS (((plS p0 p1).s)) p2).e) !=0)=false->
((((applyS (((plS p0 p1).s)) p2).s).p).length=(((applyS (((plS p0 p1).s)) p2).s).p).length)/\((((applyS (((plS p0 p1).s)) p2).s).r).length=(((applyS (((plS p0 p1).s)) p2).s).r).length)/\((((applyS (((plS p0 p1).s)) p2).s).l).length=(((applyS (((plS p0 p1).s)) p2).s).l).length)/\(∃(c:Nat) (f:Int),c<=800/\PI (PS.mk (r3.R) (r3.F) (((applyS (((plS p0 p1).s)) p2).s).b) (((applyS (((plS p0 p1).s)) p2).s).n) (((applyS (((plS p0 p1).s)) p2).s).l) (((applyS (((plS p0 p1).s)) p2).s).r) (((applyS (((plS p0 p1).s)) p2).s).p) (((applyS (((plS p0 p1).s)) p2).s).k) (((applyS (((plS p0 p1).s)) p2).s).v)) c f)/\let r7:List Int:=(encM (mOf (PS.mk (r3.R) (r3.F) (((applyS (((plS p0 p1).s)) p2).s).b) (((applyS (((plS p0 p1).s)) p2).s).n) (((applyS (((plS p0 p1).s)) p2).s).l) (((applyS (((plS p0 p1).s)) p2).s).r) (((applyS (((plS p0 p1).s)) p2).s).p) (((applyS (((plS p0 p1).s)) p2).s).k) (((applyS (((plS p0 p1).s)) p2).s).v))))
((((applyS (((plS p0 p1).s)) p2).s).p).length=(((applyS (((plS p0 p1).s)) p2).s).p).length)/\((((applyS (((plS p0 p1).s)) p2).s).r).length=(((applyS (((plS p0 p1).s)) p2).s).r).length)/\((((applyS (((plS p0 p1).s)) p2).s).l).length=(((applyS (((plS p0 p1).s)) p2).s).l).length)/\(UOk (PS.mk (r3.R) (r3.F) (((applyS (((plS p0 p1).s)) p2).s).b) (((applyS (((plS p0 p1).s)) p2).s).n) (((applyS (((plS p0 p1).s)) p2).s).l) (((applyS (((plS p0 p1).s)) p2).s).r) (((applyS (((plS p0 p1).s)) p2).s).p) (((applyS (((plS p0 p1).s)) p2).s).k) (((applyS (((plS p0 p1).s)) p2).s).v)))/\let r8:Bool:=(decide ((((applyS (((plS p0 p1).s)) p2).s).p)≠[]))
 let r9:=undoS (PS.mk (r3.R) (r3.F) (((applyS (((plS p0 p1).s)) p2).s).b) (((applyS (((plS p0 p1).s)) p2).s).n) (((applyS (((plS p0 p1).s)) p2).s).l) (((applyS (((plS p0 p1).s)) p2).s).r) (((applyS (((plS p0 p1).s)) p2).s).p) (((applyS (((plS p0 p1).s)) p2).s).k) (((applyS (((plS p0 p1).s)) p2).s).v))
((!r8)=true->
 false=r0)/\
((!r8)=false->
(r9.p.length=r9.p.length)/\(r9.r.length=r9.r.length)/\(r9.l.length=r9.l.length)/\(∃(c:Nat) (f:Int),c<=800/\PI (r9) c f)/\let v10:Bool:=(!((strOfNums (encM (mOf (r9)))).toList==(strOfNums (encM (mOf (((plS p0 p1).s))))).toList))
(v10=true->
 false=r0)/\
(v10=false->
 let v11:Int:=((((plS p0 p1).n:Int).toNat:Nat):Int)
(0<=i64.wrap (v11-1)/\i64.wrap (v11-1)<((((plS p0 p1).n:Int).toNat:Nat):Int))/\(0<=((((0:Int).toNat:Nat):Int)+i64.wrap (v11-1))/\((((0:Int).toNat:Nat):Int)+i64.wrap (v11-1))<(((plS p0 p1).g).length:Int))/\(r9.p.length=r9.p.length)/\(r9.r.length=r9.r.length)/\(r9.l.length=r9.l.length)/\((∃(c:Nat) (f:Int),c<=800/\PI (r9) c f)/\(ix ((plS p0 p1).g) ((((0:Int).toNat:Nat):Int)+i64.wrap (v11-1)))=mOf (r9))/\((!true)=true->
 false=r0)/\
((!true)=false->
(r9.p.length=r9.p.length)/\(r9.r.length=r9.r.length)/\(r9.l.length=r9.l.length)/\((∃c:Nat,c+p2.Txs.length<=790/\PI (r9) c 0)/\BR' p2)/\((((applyS (r9) p2).e)==0)=true->
((((applyS (r9) p2).s).p).length=(((applyS (r9) p2).s).p).length)/\((((applyS (r9) p2).s).r).length=(((applyS (r9) p2).s).r).length)/\((((applyS (r9) p2).s).l).length=(((applyS (r9) p2).s).l).length)/\(∃(c:Nat) (f:Int),c<=800/\PI (((applyS (r9) p2).s)) c f)/\let v12:ByteArray:=strOfNums (encM (mOf (((applyS (r9) p2).s))))
(v12.toList==(strOfNums r7).toList)=r0)/\
((((applyS (r9) p2).e)==0)=false->
 false=r0))))))))->J1 b1)->
((!true)=true->
 J1 true)/\
((!true)=false->
([]:List wAD).length=([]:List wAD).length/\(([]:List wAD).length+p1.length)*72<=140737488355328/\([]:List wAD).length+p1.length<=maxLen/\let v1:List wAD:=[wAD.mk false p2.wAW p2.wS p2.wAM p2.wh p2.wL p2.Txs]
(([]:List wAD)++p1).length=(([]:List wAD)++p1).length/\v1.length=v1.length/\((([]:List wAD)++p1).length+v1.length)*72<=140737488355328/\(([]:List wAD)++p1).length+v1.length<=maxLen/\(((([]:List wAD)++p1)++v1).length=((([]:List wAD)++p1)++v1).length)/\(((([]:List wAD)++p1)++v1).length<=9223372036854775807/\∀o∈((([]:List wAD)++p1)++v1),o.wAB.length<=9223372036854775807/\∀t∈o.wAB,t.wH.length<=9223372036854775807)/\let r2:Bool:=(smOps p0 ((([]:List wAD)++p1)++v1))
 J1 (!r2))) (by kernel_rfl)<|by
 rintro p0 p1 p2 h _ rfl
 obtain⟨h,hb,hz⟩:=h
 intro J1 j
 have hq:=h.snoc (by omega) hb
 have j1:∀b,(b=false->smOps p0 (p1++[bOp p2])=true)->J1 b:=by
  intro b hb
  refine j _ ⟨fun _=>rfl,fun e=> ?_⟩
  obtain⟨q1,q2,q3,q4⟩:=k5g (hb e) hq
  have hB:BR' p2:=q2.b (bOp p2) (by simp)
  have hN:p2.Txs.length<=8:=q2.n (bOp p2) (by simp)
  have q5:OpsR p1:=⟨fun o ho=>q2.b o (by simp[ho]),fun o ho=>q2.n o (by simp[ho])⟩
  rw[List.length_append,List.length_singleton]at q3
  have pt:=play_PT q1 h.hr (by omega) q5
  refine⟨⟨q1,h.hr,by omega,q5⟩,fun e=>(by cases e),fun _=> ?_⟩
  generalize plS p0 p1=X at *
  obtain⟨⟨c,hc,hi⟩,pR,n1,n2,pl,pw,ptt⟩:=pt
  have b1:0<=i64.wrap ((((X.n:Int).toNat:Nat):Int)-1)/\i64.wrap ((((X.n:Int).toNat:Nat):Int)-1)<(((X.n:Int).toNat:Nat):Int):=by rw[pw,Int.toNat_natCast];omega
  have b2:0<=(((0:Int).toNat:Nat):Int)+i64.wrap ((((X.n:Int).toNat:Nat):Int)-1)/\(((0:Int).toNat:Nat):Int)+i64.wrap ((((X.n:Int).toNat:Nat):Int)-1)<(X.g.length:Int):=by rw[pw,show(0:Int).toNat=0 from rfl];omega
  refine⟨rfl,rfl,rfl,⟨c,0,by omega,hi⟩,rfl,rfl,rfl,⟨⟨c,by omega,hi⟩,hB⟩,fun e1=> ?_,fun e1=> ?_⟩
  ·have e1:((applyS X.s p2).e !=0)=true:=e1
   have es:(applyS X.s p2).s=X.s:=kc0 (by simpa using e1)
   rw[es]
   refine⟨rfl,rfl,rfl,⟨c,0,by omega,hi⟩,fun _=>⟨b1,b2,rfl,rfl,rfl,⟨⟨c,0,by omega,hi⟩,ptt⟩,rfl⟩,fun e2=> ?_⟩
   have e2:((strOfNums (encM (mOf X.s))).toList==(strOfNums (encM (mOf X.s))).toList)=false:=e2
   simp at e2
  ·have e1:((applyS X.s p2).e !=0)=false:=e1
   have he:(applyS X.s p2).e=0:=by simpa using e1
   have hP:=k5i hi (by omega) hB he
   have hu:=keh hi (by omega) hB he
   obtain⟨u1,u2⟩:=kbz hi (by omega) hB he
   refine⟨rfl,rfl,rfl,⟨c+p2.Txs.length+1,0,by omega,hP⟩,rfl,rfl,rfl,hu,fun e2=> ?_,fun _=> ?_⟩
   ·have e2:(!(decide ((applyS X.s p2).s.p≠[])))=true:=e2
    have hne:(applyS X.s p2).s.p≠[]:=fun hh=>by rw[hh]at u2;cases u2
    simp[hne]at e2
   ·rw[kmt,u1]
    refine⟨rfl,rfl,rfl,⟨c,0,by omega,hi⟩,fun e3=> ?_,fun _=>⟨b1,b2,rfl,rfl,rfl,⟨⟨c,0,by omega,hi⟩,ptt⟩,fun e=>(by cases e),fun _=>⟨rfl,rfl,rfl,⟨⟨c,by omega,hi⟩,hB⟩,fun _=>⟨rfl,rfl,rfl,⟨c+p2.Txs.length+1,0,by omega,hP⟩,?_⟩,fun e4=> ?_⟩⟩⟩
    ·have e3:(!((strOfNums (encM (mOf X.s))).toList==(strOfNums (encM (mOf X.s))).toList))=true:=e3
     simp at e3
    ·show((strOfNums (encM (mOf (applyS X.s p2).s))).toList==(strOfNums (encM (mOf (applyS X.s p2).s))).toList)=true
     exact BEq.rfl
    ·have e4:((applyS X.s p2).e==0)=false:=e4
     rw[he]at e4
     cases e4
 refine⟨fun e=>(by cases e),fun _=>⟨rfl,?_,?_,rfl,rfl,?_,?_,rfl,hq.sm,j1 _ fun e=>by simpa[bOp]using e⟩⟩
 ·simp only[List.length_nil];omega
 ·simp only[List.length_nil];unfold maxLen;omega
 ·simp only[List.nil_append,List.length_singleton];omega
 ·simp only[List.nil_append,List.length_singleton];unfold maxLen;omega
noncomputable def ky:Con TB.den:= .gp 8 [.st 0,.sl (.st 3)] [.bool] [] fun(p0:wF) (p1:List wAD)=>(OArg p0 p1,true,())
theorem k8g:ky.Ok Tryz.prog TB:=qrv Bs Tryz.func8 (.r 0 (.nd [] (.jn ⟨[],[],[16],[.one (.d (.bool))],[]⟩ [] .no [] .no) [] (.r 1 (.nd [] (.r 0 (.lp [] ⟨[1,4,7],[.cells [zqi,zqi,zqi,zqi,zqi,zqu,zqi,zqi,zqu,zqi,zqi,zql,.row 3,.ptr 1 0,.d (.sl (.st 8)),zqu,.row 4,.row 5],.cells [.mp 2],.map yqu (.bool),.vec yqu,.vec yqu,.vec (.st 9)],[8],[.one (zqi)],[3,5,6]⟩ .no)) [] .no)))) (k28.c (k2z.c (k2g.c (k32.c (k7v.c (k46.c c0)))))) (Q:=∀(p0:wF) (p1:List wAD),(OArg p0 p1)->∀r0:Bool,(true:Bool)=r0-> 
 ∀J1:Bool->Prop,(∀(b1:Bool),
((b1=true->
 true=r0)/\
(b1=false->
(rulesE p0=0/\0<=p0.wP/\p1.length<=60/\OpsR p1)/\((!true)=true->
 false=r0)/\
((!true)=false->
 let v1:Int:=((((plS p0 p1).n:Int).toNat:Nat):Int)
((((plS p0 p1).s).p).length=(((plS p0 p1).s).p).length)/\((((plS p0 p1).s).r).length=(((plS p0 p1).s).r).length)/\((((plS p0 p1).s).l).length=(((plS p0 p1).s).l).length)/\∃(I1:Int->Int->Int->Int->Int->Int->Int->Int->Int->Int->Int->Int->(List Int)->(List wA)->Int->(List Int)->(List Bool)->(List Int)->(List Int)->(List wN)->Prop) (M1:Int->Int->Int->Int->Int->Int->Int->Int->Int->Int->Int->Int->(List Int)->(List wA)->Int->(List Int)->(List Bool)->(List Int)->(List Int)->(List wN)->Nat),I1 (i64.wrap (v1-1)) (((plS p0 p1).s).R.wm) (((plS p0 p1).s).R.wD) (((plS p0 p1).s).R.wJ) (((plS p0 p1).s).R.wI) (((plS p0 p1).s).R.wG) (((plS p0 p1).s).R.wP) (((plS p0 p1).s).R.wU) (((plS p0 p1).s).R.wO) (((plS p0 p1).s).R.wh) (((plS p0 p1).s).F.wD) (((plS p0 p1).s).F.wY) (((plS p0 p1).s).F.wd) (((plS p0 p1).s).b) (((plS p0 p1).s).n) (((plS p0 p1).s).k) (((plS p0 p1).s).v) (((plS p0 p1).s).l) (((plS p0 p1).s).r) (((plS p0 p1).s).p)/\∀(f1 i1 k1 l1 m1 n1 o1 q1 s1 t1 u1 x1:Int) (y1:List Int) (b2:List wA) (f2:Int) (i2:List Int) (k2:List Bool) (l2 m2:List Int) (n2:List wN),(I1 f1 i1 k1 l1 m1 n1 o1 q1 s1 t1 u1 x1 y1 b2 f2 i2 k2 l2 m2 n2->
(decide (0<=f1)=true->
(n2.length=n2.length)/\(m2.length=m2.length)/\(l2.length=l2.length)/\(∃(c:Nat) (f:Int),c<=800/\PI (PS.mk (wF.mk i1 k1 l1 m1 n1 o1 q1 s1 t1) (wE.mk u1 x1 y1) b2 f2 l2 m2 n2 i2 k2) c f)/\let r2:List Int:=(encM (mOf (PS.mk (wF.mk i1 k1 l1 m1 n1 o1 q1 s1 t1) (wE.mk u1 x1 y1) b2 f2 l2 m2 n2 i2 k2)))
(0<=f1/\f1<((((plS p0 p1).n:Int).toNat:Nat):Int))/\(0<=((((0:Int).toNat:Nat):Int)+f1)/\((((0:Int).toNat:Nat):Int)+f1)<(((plS p0 p1).g).length:Int))/\(EOk (ix ((plS p0 p1).g) ((((0:Int).toNat:Nat):Int)+f1)))/\let r3:List Int:=(encM (ix ((plS p0 p1).g) ((((0:Int).toNat:Nat):Int)+f1)))
 let v4:Bool:=(!((strOfNums r2).toList==(strOfNums r3).toList))
(v4=true->
 false=r0)/\
(v4=false->
(n2.length=n2.length)/\(m2.length=m2.length)/\(l2.length=l2.length)/\(UOk (PS.mk (wF.mk i1 k1 l1 m1 n1 o1 q1 s1 t1) (wE.mk u1 x1 y1) b2 f2 l2 m2 n2 i2 k2))/\let r5:=undoS (PS.mk (wF.mk i1 k1 l1 m1 n1 o1 q1 s1 t1) (wE.mk u1 x1 y1) b2 f2 l2 m2 n2 i2 k2)
 let v6:Bool:=(!((decide (n2≠[]))==decide (0<f1)))
(v6=true->
 false=r0)/\
(v6=false->
(r5.p.length=r5.p.length)/\(r5.r.length=r5.r.length)/\(r5.l.length=r5.l.length)/\I1 (i64.wrap (f1-1)) r5.R.wm r5.R.wD r5.R.wJ r5.R.wI r5.R.wG r5.R.wP r5.R.wU r5.R.wO r5.R.wh r5.F.wD r5.F.wY r5.F.wd r5.b r5.n r5.k r5.v r5.l r5.r r5.p/\M1 (i64.wrap (f1-1)) r5.R.wm r5.R.wD r5.R.wJ r5.R.wI r5.R.wG r5.R.wP r5.R.wU r5.R.wO r5.R.wh r5.F.wD r5.F.wY r5.F.wd r5.b r5.n r5.k r5.v r5.l r5.r r5.p<M1 f1 i1 k1 l1 m1 n1 o1 q1 s1 t1 u1 x1 y1 b2 f2 i2 k2 l2 m2 n2)))/\
(decide (0<=f1)=false->
 true=r0)))))->J1 b1)->
((!true)=true->
 J1 true)/\
((!true)=false->
(p1.length<=9223372036854775807/\∀o∈p1,o.wAB.length<=9223372036854775807/\∀t∈o.wAB,t.wH.length<=9223372036854775807)/\J1 (!(smOps p0 p1)))) (by kernel_rfl)<|by
 rintro p0 p1 h _ rfl
 intro J1 j
 have j1:∀b,(b=false->smOps p0 p1=true)->J1 b:=by
  intro b hb
  refine j _ ⟨fun _=>rfl,fun e=> ?_⟩
  obtain⟨q1,q2,q3,q4⟩:=k5g (hb e) h
  obtain⟨H,hH⟩:=play_PH q1 h.hr (by omega) q2
  have pt:=play_PT q1 h.hr (by omega) q2
  refine⟨⟨q1,h.hr,by omega,q2⟩,fun e=>(by cases e),fun _=> ?_⟩
  generalize plS p0 p1=X at *
  obtain⟨-,-,n1,n2,-,pw,-⟩:=pt
  have hn:=hH.n
  have hl:=hH.l
  refine⟨rfl,rfl,rfl,fun f y0 y1 y2 y3 y4 y5 y6 y7 y8 y9 y10 y11 y12 y13 y14 y15 y16 y17 y18=>∃S:PS,(S.R.wm=y0/\S.R.wD=y1/\S.R.wJ=y2/\S.R.wI=y3/\S.R.wG=y4/\S.R.wP=y5/\S.R.wU=y6/\S.R.wO=y7/\S.R.wh=y8/\S.F.wD=y9/\S.F.wY=y10/\S.F.wd=y11/\S.b=y12/\S.n=y13/\S.k=y14/\S.v=y15/\S.l=y16/\S.r=y17/\S.p=y18)/\(f= -1∨∃(pre H' :List PS),f=(H'.length:Int)/\H=pre++S::H'),fun f _ _ _ _ _ _ _ _ _ _ _ _ _ _ _ _ _ _ _=>(f+1).toNat,?_,?_⟩
  ·obtain⟨r,hr⟩:=hH.pos
   refine⟨X.s,⟨rfl,rfl,rfl,rfl,rfl,rfl,rfl,rfl,rfl,rfl,rfl,rfl,rfl,rfl,rfl,rfl,rfl,rfl,rfl⟩,.inr ⟨[],r,?_,hr⟩⟩
   rw[pw]
   rw[hr,List.length_cons]at hn
   omega
  ·rintro f _ _ _ _ _ _ _ _ _ _ _ _ _ _ _ _ _ _ _ ⟨S,⟨rfl,rfl,rfl,rfl,rfl,rfl,rfl,rfl,rfl,rfl,rfl,rfl,rfl,rfl,rfl,rfl,rfl,rfl,rfl⟩,hS⟩
   refine⟨fun e=> ?_,fun _=>rfl⟩
   have e:=of_decide_eq_true e
   rcases hS with rfl|⟨pre,H',rfl,hq⟩
   ·omega
   obtain⟨⟨a1,a2,a3⟩,hC,hP⟩:=hH.at hq
   have e0:(((0:Int).toNat:Nat):Int)+(H'.length:Int)=(H'.length:Int):=by rw[show(0:Int).toNat=0 from rfl];omega
   have a4:ix X.g ((((0:Int).toNat:Nat):Int)+(H'.length:Int))=mOf S:=by rw[e0];exact a3
   obtain⟨u1,u2⟩:=hC.u hP (by omega)
   have ew:i64.wrap ((H'.length:Int)-1)=(H'.length:Int)-1:=kh _ (by omega) (by omega)
   refine⟨rfl,rfl,rfl,⟨9*p1.length,0,by omega,hP⟩,⟨by omega,by rw[Int.toNat_natCast];omega⟩,⟨by omega,by omega⟩,(by rw[a4];exact hP.eok (by omega)),fun e4=> ?_,fun _=>⟨rfl,rfl,rfl,u1,fun e5=> ?_,fun _=>⟨rfl,rfl,rfl,?_,?_⟩⟩⟩
   ·exfalso
    have e4:(!((strOfNums (encM (mOf S))).toList==(strOfNums (encM (ix X.g ((((0:Int).toNat:Nat):Int)+(H'.length:Int))))).toList))=true:=e4
    rw[a4]at e4
    simp at e4
   ·exfalso
    have e5:(!((decide (S.p≠[]))==decide (0<(H'.length:Int))))=true:=e5
    rw[u2]at e5
    simp at e5
   ·refine⟨undoS S,⟨rfl,rfl,rfl,rfl,rfl,rfl,rfl,rfl,rfl,rfl,rfl,rfl,rfl,rfl,rfl,rfl,rfl,rfl,rfl⟩,?_⟩
    rw[ew]
    cases H' with
    |nil=>exact .inl rfl
    |cons s' r=>
     refine .inr ⟨pre++[S],r,?_,?_⟩
     ·rw[List.length_cons];omega
     ·rw[hC.1.2.1,hq,List.append_assoc];rfl
   ·show(i64.wrap ((H'.length:Int)-1)+1).toNat<((H'.length:Int)+1).toNat
    rw[ew]
    omega
 exact⟨fun e=>(by cases e),fun _=>⟨h.sm,j1 _ fun e=>by simpa using e⟩⟩
end Go.Proofs.YtlfcebhnjkcmnaaGreat
end
