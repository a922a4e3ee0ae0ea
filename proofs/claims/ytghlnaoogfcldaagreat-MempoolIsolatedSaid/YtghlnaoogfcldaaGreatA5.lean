/- Parts of the proofs, merged by a program. -/
import Derived.Test.YtghlnaoogfcldaaGreatA4
set_option maxRecDepth 100000
set_option linter.all false
noncomputable section
namespace Go.Proofs.YtghlnaoogfcldaaGreat
open Go Go.Bv Go.Cv Go.Md Go.RowKit
open Go.IntKind (i64 u64)
noncomputable def kbl:Ct:= .g (gk 14 [.one (.ptr 0 0)] yE (.one (.one (zqi)))) yM yL [] fun(Aa:Int) (w1:List wA)=>(EL w1,(wL (tL w1):Int),Aa,w1,())
theorem k25:kbl.O:=prv Bs Tryz.func14 (.r 1 (.nd [] (.r 0 (.lp [] ⟨[],[],[3,11],[.one (zqi),.one (zqi)],[]⟩ .no)) [] .no)) c0 (Q:=∀(Aa:Int) (w1:List wA),(EL w1)->∀r0:Int,(wL (tL w1))=r0->∀Ac:Int,Aa=Ac->∀e1:List wA,w1=e1-> 
∃(I1:Int->Int->Prop) (M1:Int->Int->Nat),I1 0 0/\∀b1 f1,(I1 b1 f1->
(decide (f1<(w1.length:Int))=true->
(0<=f1/\f1<(w1.length:Int))/\(0<=f1/\f1<(w1.length:Int))/\let v1:Int:=i64.wrap (b1+((ix w1 f1).weight))
I1 v1 (i64.wrap (f1+1))/\M1 v1 (i64.wrap (f1+1))<M1 b1 f1)/\
(decide (f1<(w1.length:Int))=false->
lz w1/\b1=r0/\Aa=Ac/\w1=e1)))<|by
 rintro Aa w1 h _ rfl _ rfl _ rfl;obtain⟨L,rfl,hL,hn⟩:=h.at
 rw[tL_eL];refine⟨(fun b i=>∃k:Nat,i=(k:Int)/\k<=L.length/\b=wL (L.take k)),fun _ i=>(L.length-i).toNat,⟨0,rfl,by omega,rfl⟩,?_⟩;rintro _ _ ⟨k,rfl,g1,rfl⟩;rw[eL_len];refine⟨fun e=> ?_,fun e=> ?_⟩
 ·have e:k<L.length:=by have:=qb e;omega
  have hb:=wL_tb hL hn (k+1);rw[wL_take e]at hb;rw[eL_ix e,inc_i64 _ qqo];refine⟨by omega,by omega,⟨k+1,rfl,by omega,?_⟩,by(dsimp only;omega)⟩;rw[wL_take e];have ew:(eOf L[k]).weight=weightS L[k]:=rfl;rw[ew,wi _ qqo qqo]
 ·have e:k=L.length:=by have:=qc e;omega
  rw[qi qqo];exact⟨rfl,rfl,rfl,rfl⟩
noncomputable def k9z:Ct:= .gp 86 [.sl yqu,yqu] [yqi] [] fun(p0:Li) (p1:Int)=>(p0.length<=9223372036854775807,(idxI p0 p1:Int),())
theorem kby:k9z.O:=qrv Bs Tryz.func86 (.r 0 (.nd [] (.r 0 (.lp [] ⟨[],[],[8],[.one (zqi)],[]⟩ .no)) [] .no)) c0 (Q:=∀(p0:Li) (p1:Int),(p0.length<=9223372036854775807)->∀r0:Int,idxI p0 p1=r0-> 
∃(I1:Int->Prop) (M1:Int->Nat),I1 0/\∀b1,(I1 b1->
(decide (b1<(p0.length:Int))=true->
(0<=b1)/\b1<(p0.length:Int)/\((p1==(ix p0 b1))=true->
b1=r0)/\
((p1==(ix p0 b1))=false->
I1 (i64.wrap (b1+1))/\M1 (i64.wrap (b1+1))<M1 b1))/\
(decide (b1<(p0.length:Int))=false->
(-1)=r0)))<|by
 rintro p0 p1 h _ rfl;refine(⟨(fun i=>0<=i/\i<=p0.length/\p1∉p0.take i.toNat),(fun i=>(p0.length-i).toNat),⟨by omega,by omega,by simp⟩,?_⟩);rintro i ⟨g0,g1,g2⟩;refine⟨fun h=> ?_,fun h=> ?_⟩
 ·have h:=qb h;refine⟨g0,h,fun e=> ?_,fun e=> ?_⟩
  ·have e:p1=ix p0 i:=by simpa using e
   unfold idxI;rw[ql (by rw[e];exact ix_mem p0 i g0 h)]
   have:p0.idxOf p1=i.toNat:=by
    conv=>lhs;rw[<-qcl i.toNat p0]
    rw[List.idxOf_append,qm g2,drop_ix p0 i g0 h,<-e,List.idxOf_cons_self,qn];omega
   rw[this];omega
  ·have e:¬p1=ix p0 i:=by simpa using e
   rw[inc i p0.length g0 h qqo];refine⟨⟨by omega,by omega,?_⟩,by(dsimp only;omega)⟩;rw[ke p0 i g0 h];simp only[qaz,qbn];exact fun hh=>hh.elim g2 e
 ·have h:=qc h;rw[qi qqo]at g2;unfold idxI;rw[qm g2]
noncomputable def k7z:Ct:= .gp 67 [.sl yqu,yqu] [.bool] [] fun(p0:Li) (p1:Int)=>(p0.length<=9223372036854775807,(decide (p1∈p0):Bool),())
theorem k3p:k7z.O:=qrv Bs Tryz.func67 .no (kby.c c0) (Q:=∀(p0:Li) (p1:Int),(p0.length<=9223372036854775807)->∀r0:Bool,(decide (p1∈p0))=r0-> 
(p0.length<=9223372036854775807)/\decide (0<=(idxI p0 p1))=r0)<|by
 rintro p0 p1 h _ rfl;refine⟨h,?_⟩;unfold idxI;by_cases hm:p1∈p0
 ·simp[hm]
 ·simp[hm]
noncomputable def k6e:Ct:= .gp 46 [.st 3,.st 3] [.bool] [] fun(p0 p1:wA)=>(p0.wQ.length<=4294967295/\p1.wQ.length<=4294967295,((if p0.id=p1.id then false else p0.wQ.any (fun m=>decide (m∈p1.wQ))||(decide (0<p0.wS)&&decide (0<p1.wS)&&decide (p0.wT=p1.wT)&&decide (p0.wX=p1.wX))):Bool),())
theorem k36:k6e.O:=qrv Bs Tryz.func46 (.r 1 (.nd [] (.r 0 (.lp [] ⟨[],[],[16],[.one (zqi)],[]⟩ .no)) [] .no)) (k3p.c c0) (Q:=∀(p0 p1:wA),(p0.wQ.length<=4294967295/\p1.wQ.length<=4294967295)->∀r0:Bool,((if p0.id=p1.id then false else p0.wQ.any (fun m=>decide (m∈p1.wQ))||(decide (0<p0.wS)&&decide (0<p1.wS)&&decide (p0.wT=p1.wT)&&decide (p0.wX=p1.wX))):Bool)=r0-> 
((p0.id==p1.id)=true->
false=r0)/\
((p0.id==p1.id)=false->
∃(I1:Int->Prop) (M1:Int->Nat),I1 0/\∀b1,(I1 b1->
(decide (b1<(p0.wQ.length:Int))=true->
(0<=b1)/\b1<(p0.wQ.length:Int)/\(p1.wQ.length<=9223372036854775807)/\let r1:Bool:=(decide ((ix p0.wQ b1)∈p1.wQ))
(r1=true->
true=r0)/\
(r1=false->
I1 (i64.wrap (b1+1))/\M1 (i64.wrap (b1+1))<M1 b1))/\
(decide (b1<(p0.wQ.length:Int))=false->
(decide (0<p0.wS)=true->
(decide (0<p1.wS)=true->
((p0.wT==p1.wT)=true->
(p0.wX==p1.wX)=r0)/\
((p0.wT==p1.wT)=false->
false=r0))/\
(decide (0<p1.wS)=false->
false=r0))/\
(decide (0<p0.wS)=false->
false=r0)))))<|by
 rintro p0 p1 h _ rfl;obtain⟨h1,h2⟩:=h;refine⟨fun e=> ?_,fun e=> ?_⟩
 ·have e:p0.id=p1.id:=by simpa using e
  rw[ql e]
 ·have e:¬p0.id=p1.id:=by simpa using e
  rw[qm e];refine⟨(fun i=>∃k:Nat,i=(k:Int)/\k<=p0.wQ.length/\(p0.wQ.take k).any (fun m=>decide (m∈p1.wQ))=false),fun i=>(p0.wQ.length-i).toNat,⟨0,rfl,by omega,by simp⟩,?_⟩;rintro _ ⟨k,rfl,g1,g2⟩;refine⟨fun c=> ?_,fun c=> ?_⟩
  ·have c:k<p0.wQ.length:=by have:=qb c;omega
   rw[ix_get _ _ c,inc_i64 _ qqo];refine⟨by omega,by omega,by omega,fun q=> ?_,fun q=>⟨⟨k+1,rfl,by omega,?_⟩,by(dsimp only;omega)⟩⟩
   ·rw[List.any_eq_true.2 ⟨_,qab c,q⟩];rfl
   ·rw[qu c,List.any_append,g2,List.any_cons,q];rfl
  ·have c:k=p0.wQ.length:=by have:=qc c;omega
   rw[qi qqo]at g2;rw[g2];by_cases q1:0<p0.wS<;>by_cases q2:0<p1.wS<;>by_cases q3:p0.wT=p1.wT<;>by_cases q4:p0.wX=p1.wX<;>simp[q1,q2,q3,q4]
noncomputable def k8b:Ct:= .g (gk 29 [.one (.ptr 0 0),.agg yA] yE (.one (.one (zql)))) [.st 3,yqi,.sl (.st 3)] [.sl yqu,yqi,.sl (.st 3)] [] fun(p1:wA) (Aa:Int) (w1:List wA)=>((∃t,p1=eOf t/\VR t)/\EL w1,(cfl (tL w1) (tOf p1):Li),Aa,w1,())
theorem k98:k8b.O:=prv Bs Tryz.func29 (.r 1 (.nd [] (.r 0 (.lp [.tok 5 yqu] ⟨[3],[.tip yqu],[5,13],[.one (.own 0),.one (zqi)],[]⟩ .no)) [] .no)) (k36.c c0) (Q:=∀(p1:wA) (Aa:Int) (w1:List wA),((∃t,p1=eOf t/\VR t)/\EL w1)->∀r0:Li,(cfl (tL w1) (tOf p1))=r0->∀Ac:Int,Aa=Ac->∀e1:List wA,w1=e1-> 
(([]:Li)=([]:Li))/\∃(I1:Int->(Li)->Prop) (M1:Int->(Li)->Nat),I1 0 ([]:Li)/\∀b1 f1,(I1 b1 f1->
(decide (b1<(w1.length:Int))=true->
(0<=b1/\b1<(w1.length:Int))/\(0<=b1/\b1<(w1.length:Int))/\(p1.wQ.length<=4294967295/\(ix w1 b1).wQ.length<=4294967295)/\let r1:Bool:=(if p1.id=(ix w1 b1).id then false else p1.wQ.any (fun m=>decide (m∈(ix w1 b1).wQ))||(decide (0<p1.wS)&&decide (0<(ix w1 b1).wS)&&decide (p1.wT=(ix w1 b1).wT)&&decide (p1.wX=(ix w1 b1).wX)))
(r1=true->
lz f1/\(f1.length+[(ix w1 b1).id].length)*8<=140737488355328/\f1.length+[(ix w1 b1).id].length<=maxLen/\(f1++[(ix w1 b1).id]=f1++[(ix w1 b1).id])/\I1 (i64.wrap (b1+1)) (f1++[(ix w1 b1).id])/\M1 (i64.wrap (b1+1)) (f1++[(ix w1 b1).id])<M1 b1 f1)/\
(r1=false->
(f1=f1)/\I1 (i64.wrap (b1+1)) f1/\M1 (i64.wrap (b1+1)) f1<M1 b1 f1))/\
(decide (b1<(w1.length:Int))=false->
lz w1/\f1=r0/\Aa=Ac/\w1=e1)))<|by
 rintro p1 Aa w1 h _ rfl _ rfl _ rfl;obtain⟨⟨t,rfl,ht⟩,hE⟩:=h;obtain⟨L,rfl,hL,hn⟩:=hE.at
 rw[tL_eL,tOf_eOf];refine⟨rfl,?_⟩;refine⟨(fun i f=>∃k:Nat,i=(k:Int)/\k<=L.length/\f=cfl (L.take k) t),fun i _=>(L.length-i).toNat,⟨0,rfl,by omega,rfl⟩,?_⟩;rintro _ _ ⟨k,rfl,g1,rfl⟩;have hcl:=cfl_len (L.take k) t;rw[qn]at hcl;refine⟨fun e=> ?_,fun e=> ?_⟩
 ·have e:k<L.length:=by have:=qb e;rw[eL_len]at this;omega
  have hu:=(hL _ (qab e)).tl.m;have hct:=kab (t:=t) e;rw[eL_ix e,inc_i64 _ qqo];rw[eL_len];refine⟨by omega,by omega,⟨ht.tl.m,hu⟩,fun q=> ?_,fun q=> ?_⟩
  ·have q:confT t L[k]=true:=q;rw[ql q]at hct;refine⟨rfl,?_,?_,rfl,⟨k+1,rfl,by omega,hct.symm⟩,by(dsimp only;omega)⟩<;>simp only[qah]<;>(try unfold maxLen)<;>omega
  ·rw[qm (by rw[show confT t L[k]=false from q];decide)]at hct;exact⟨rfl,⟨k+1,rfl,by omega,hct.symm⟩,by(dsimp only;omega)⟩
 ·have e:k=L.length:=by have:=qc e;rw[eL_len]at this;omega
  rw[qi qqo];exact⟨rfl,rfl,rfl,rfl⟩
noncomputable def kam:Ct:= .gp 47 [.sl yqu] [.sl yqu] [] fun(p0:Li)=>(p0.length<=4294967295,p0,())
theorem kbw:kam.O:=qrv Bs Tryz.func47 .no c0 (Q:=∀(p0:Li),(p0.length<=4294967295)->∀r0:Li,p0=r0-> 
∀z4:Bool,(z4=true->p0=[])->(z4=true->
([]:Li)=r0)/\
(z4=false->
(([]:Li).length+p0.length)*8<=140737488355328/\([]:Li).length+p0.length<=maxLen/\([]:Li)++p0=r0))<|by rintro p0 h _ rfl;refine fun z hz=>⟨fun h=>(hz h).symm,fun h=>⟨by simp;omega,by simp;unfold maxLen;omega,rfl⟩⟩
noncomputable def k7c:Ct:= .g ⟨48,[.one (.d (.sl (.st 0)))],[],(.one (.one (.row 0))),[.vec (.st 0)],false⟩ [.sl (.st 0)] [.sl (.st 0)] [] fun(p0:List wR)=>(p0.length<=4294967295,p0,())
theorem k7t:k7c.O:=prx Bs [5,7] Tryz.func48 (.r 0 (.nd [] (.r 0 (.nd [] (.r 0 (.rt [.rnil 2 (.st 0)])) [] .no)) [] .no)) x0 c0 (Q:=∀(p0:List wR),(p0.length<=4294967295)->∀e0:List wR,p0=e0-> 
∀z4:Bool,(z4=true->p0=[])->(z4=true->
(0=([]:List wR).length)/\([]:List wR)=e0)/\
(z4=false->
lz ([]:List wR)/\(([]:List wR).length+p0.length)*48<=140737488355328/\([]:List wR).length+p0.length<=maxLen/\lz (([]:List wR)++p0)/\([]:List wR)++p0=e0))<|by
 rintro p0 h _ rfl;intro z hz;refine⟨fun e=> ?_,fun e=> ?_⟩
 ·rw[hz e];exact⟨rfl,rfl⟩
 ·refine⟨rfl,?_,?_,rfl,rfl⟩<;>simp only[qbh]<;>(try unfold maxLen)<;>omega
noncomputable def k65:Ct:= .gp 49 [.sl yqb] [.sl yqb] [] fun(p0:Li)=>(p0.length<=4294967295,p0,())
theorem k70:k65.O:=qrv Bs Tryz.func49 .no c0 (Q:=∀(p0:Li),(p0.length<=4294967295)->∀r0:Li,p0=r0-> 
∀z4:Bool,(z4=true->p0=[])->(z4=true->
([]:Li)=r0)/\
(z4=false->
(([]:Li).length+p0.length)*1<=140737488355328/\([]:Li).length+p0.length<=maxLen/\([]:Li)++p0=r0))<|by rintro p0 h _ rfl;intro z hz;refine⟨fun e=>(hz e).symm,fun e=> ?_⟩;refine⟨?_,?_,rfl⟩<;>simp only[qbh]<;>(try unfold maxLen)<;>omega
noncomputable def k94:Ct:= .gp 30 [.st 2] [.st 2] [] fun(p0:wC)=>(TL p0,p0,())
theorem k4u:k94.O:=qrv Bs Tryz.func30 (.r 2 (.nd [] (.r 0 (.lp [] ⟨[2],[.vec (.st 0)],[15],[.one (zqi)],[]⟩ .no)) [] (.r 1 (.rt [.frzc 2 1 2])))) (kbw.c (k7t.c (k70.c c0))) (Q:=∀(p0:wC),(TL p0)->∀r0:wC,p0=r0-> 
(p0.wD.length<=4294967295)/\(p0.wB.length<=4294967295)/\∃(I1:Int->(List wR)->Prop) (M1:Int->(List wR)->Nat),I1 0 p0.wB/\∀b1 f1,(I1 b1 f1->
(decide (b1<(p0.wB.length:Int))=true->
(0<=b1/\b1<(p0.wB.length:Int))/\(0<=b1/\b1<(f1.length:Int))/\(((ix f1 b1).wF).length<=4294967295)/\(0<=b1/\b1<(p0.wB.length:Int))/\(0<=b1/\b1<(f1.length:Int))/\I1 (i64.wrap (b1+1)) (f1.set b1.toNat (wR.mk ((ix f1 b1).wW) ((ix f1 b1).wP) ((ix f1 b1).wO) ((ix f1 b1).wF)))/\M1 (i64.wrap (b1+1)) (f1.set b1.toNat (wR.mk ((ix f1 b1).wW) ((ix f1 b1).wP) ((ix f1 b1).wO) ((ix f1 b1).wF)))<M1 b1 f1)/\
(decide (b1<(p0.wB.length:Int))=false->
(p0.wK.length<=4294967295)/\(p0.wB.length=f1.length)/\p0.wN=r0.wN/\p0.wD=r0.wD/\f1=r0.wB/\p0.wH=r0.wH/\p0.wG=r0.wG/\p0.Fee=r0.Fee/\p0.wI=r0.wI/\p0.wM=r0.wM/\p0.wJ=r0.wJ/\p0.wK=r0.wK)))<|by
 rintro p0 h _ rfl;refine⟨h.m,h.o,?_⟩;refine⟨(fun i f=>f=p0.wB/\∃k:Nat,i=(k:Int)/\k<=p0.wB.length),fun i _=>(p0.wB.length-i).toNat,⟨rfl,0,rfl,by omega⟩,?_⟩;rintro _ _ ⟨rfl,k,rfl,g1⟩;have ho:=h.o;refine⟨fun e=> ?_,fun e=> ?_⟩
 ·have e:k<p0.wB.length:=by have:=qb e;omega
  rw[ix_get _ _ e,inc_i64 _ qqo];have hs:p0.wB.set k (wR.mk p0.wB[k].wW p0.wB[k].wP p0.wB[k].wO p0.wB[k].wF)=p0.wB:=List.set_getElem_self ..;have hc:=h.c _ (qab e);refine⟨by omega,by omega,hc,by omega,by omega,⟨?_,k+1,rfl,by omega⟩,by(dsimp only;omega)⟩;exact hs
 ·exact⟨h.p,rfl,rfl,rfl,rfl,rfl,rfl,rfl,rfl,rfl,rfl,rfl⟩
noncomputable def kay:Ct:= .gp 100 [.st 5] [.bool] [] fun(p0:wY)=>(p0.P=18446744069414584321,true,())
theorem k13:kay.O:=qrv Bs Tryz.func100 .no c0 (Q:=∀(p0:wY),(p0.P=18446744069414584321)->∀r0:Bool,(true:Bool)=r0-> 
((p0.P==18446744069414584321)=true->
((p0.P==18446744069414584321)=true->
true=r0)/\
((p0.P==18446744069414584321)=false->
false=r0))/\
((p0.P==18446744069414584321)=false->
((p0.P==17)=true->
((p0.P==17)=true->
true=r0)/\
((p0.P==17)=false->
false=r0))/\
((p0.P==17)=false->
((p0.P==97)=true->
((p0.P==97)=true->
true=r0)/\
((p0.P==97)=false->
false=r0))/\
((p0.P==97)=false->
((p0.P==193)=true->
((p0.P==193)=true->
true=r0)/\
((p0.P==193)=false->
false=r0))/\
((p0.P==193)=false->
((p0.P==257)=true->
((p0.P==257)=true->
true=r0)/\
((p0.P==257)=false->
false=r0))/\
((p0.P==257)=false->
((p0.P==12289)=true->
((p0.P==12289)=true->
true=r0)/\
((p0.P==12289)=false->
false=r0))/\
((p0.P==12289)=false->
((p0.P==65537)=true->
true=r0)/\
((p0.P==65537)=false->
false=r0))))))))<|by rintro p0 h _ rfl;refine ?_;simp[h]
noncomputable def kez:Ct:= .gp 117 [.st 5,yqu,yqu] [yqu] [] fun(p0:wY) (p1 p2:Int)=>(p0.P=18446744069414584321/\(0<=p1/\p1<18446744069414584321)/\(0<=p2/\p2<18446744069414584321),((p1+p2)%18446744069414584321:Int),())
theorem khy:kez.O:=qrx Bs [] Tryz.func117 (.r 1 (.nd [] (.jn ⟨[],[],[22],[.one (.d (.bool))],[]⟩ [] .no [] .no) [] .no)) (x1 x124_ok x0) c0 (Q:=∀(p0:wY) (p1 p2:Int),(p0.P=18446744069414584321/\(0<=p1/\p1<18446744069414584321)/\(0<=p2/\p2<18446744069414584321))->∀r0:Int,((p1+p2)%18446744069414584321)=r0-> 
(0<=p1/\0<=p2/\0<=(0:Int)/\(0:Int)<=1)/\let r1:Int:=(p1+p2+(0:Int))%18446744073709551616
let r2:Int:=(p1+p2+(0:Int))/18446744073709551616
∀J1:Bool->Prop,(∀(b1:Bool),
((b1=true->
u64.wrap (r1-p0.P)=r0)/\
(b1=false->
r1=r0))->J1 b1)->
((r2 !=0)=true->
J1 true)/\
((r2 !=0)=false->
J1 (decide (p0.P<=r1))))<|by
 rintro p0 p1 p2 h _ rfl;obtain⟨hP,h1,h2⟩:=h;refine⟨by omega,fun J1 j=>⟨fun h=>j _ ⟨fun _=> ?_,fun h=>by simp at h⟩,fun h=>j _ ⟨fun g=> ?_,fun g=> ?_⟩⟩⟩
 ·have h:(p1+p2+0)/18446744073709551616≠0:=by simpa using h
  rw[hP,u64w];omega
 ·have h:(p1+p2+0)/18446744073709551616=0:=by simpa using h
  have g:=qb g;rw[hP]at g ⊢;rw[u64w];omega
 ·have h:(p1+p2+0)/18446744073709551616=0:=by simpa using h
  have g:=qc g;rw[hP]at g;omega
noncomputable def k8z:Ct:= .gp 118 [.st 5,yqu] [yqu] [] fun(p0:wY) (p1:Int)=>(0<p0.P/\0<=p1,(p1%p0.P:Int),())
theorem k1g:k8z.O:=qrv Bs Tryz.func118 .no c0 (Q:=∀(p0:wY) (p1:Int),(0<p0.P/\0<=p1)->∀r0:Int,(p1%p0.P)=r0-> 
(decide (p0.P<=p1)=true->
(p0.P≠0)/\Int.tmod p1 p0.P=r0)/\
(decide (p0.P<=p1)=false->
p1=r0))<|by rintro p0 p1 h _ rfl;refine⟨fun h1=>⟨by omega,tmod_nn _ _ h.2⟩,fun h1=> ?_⟩;simp at h1;rw[qdd qqo qqo]
noncomputable def ken:Ct:= .gp 112 [.st 5,yqu,yqu] [yqu] [] fun(p0:wY) (p1 p2:Int)=>(p0.P=18446744069414584321/\U64 p1/\U64 p2,((p1+p2)%18446744069414584321:Int),())
theorem k4v:ken.O:=qrv Bs Tryz.func112 .no (k13.c (k1g.c (khy.c c0))) (Q:=∀(p0:wY) (p1 p2:Int),(p0.P=18446744069414584321/\U64 p1/\U64 p2)->∀r0:Int,((p1+p2)%18446744069414584321)=r0-> 
(p0.P=18446744069414584321)/\((!true)=true->
0=r0)/\
((!true)=false->
(0<p0.P/\0<=p1)/\(0<p0.P/\0<=p2)/\(p0.P=18446744069414584321/\(0<=(p1%p0.P)/\(p1%p0.P)<18446744069414584321)/\(0<=(p2%p0.P)/\(p2%p0.P)<18446744069414584321))/\let r1:Int:=(((p1%p0.P)+(p2%p0.P))%18446744069414584321)
r1=r0))<|by rintro p0 p1 p2 h _ rfl;obtain⟨hP,h1,h2⟩:=h;refine⟨hP,?_⟩;simp only[hP];refine⟨fun h=>by simp at h,fun _=>⟨by omega,by omega,⟨by trivial,by omega,by omega⟩,?_⟩⟩;omega
noncomputable def kcl:Ct:= .gp 77 [yqu] [yqi] [] fun(p0:Int)=>(U64 p0,(len64 p0:Int),())
theorem k7q:kcl.O:=qrv Bs Tryz.func77 (.r 0 (.jn ⟨[],[],[0,2],[.one (zqu),.one (zqi)],[]⟩ [] .no [] (.jn ⟨[],[],[0,2],[.one (zqu),.one (zqi)],[]⟩ [] .no [] (.jn ⟨[],[],[0,2],[.one (zqu),.one (zqi)],[]⟩ [] .no [] .no)))) c0 (Q:=∀(p0:Int),(U64 p0)->∀r0:Int,len64 p0=r0-> 
∀J1:Int->Int->Prop,(∀(b1 f1:Int),
(∀J2:Int->Int->Prop,(∀(i1 k1:Int),
(∀J3:Int->Int->Prop,(∀(l1 m1:Int),
((0<=IntKind.u8.wrap l1/\IntKind.u8.wrap l1<((⟨#[0,1,2,2,3,3,3,3,4,4,4,4,4,4,4,4,5,5,5,5,5,5,5,5,5,5,5,5,5,5,5,5,6,6,6,6,6,6,6,6,6,6,6,6,6,6,6,6,6,6,6,6,6,6,6,6,6,6,6,6,6,6,6,6,7,7,7,7,7,7,7,7,7,7,7,7,7,7,7,7,7,7,7,7,7,7,7,7,7,7,7,7,7,7,7,7,7,7,7,7,7,7,7,7,7,7,7,7,7,7,7,7,7,7,7,7,7,7,7,7,7,7,7,7,7,7,7,7,8,8,8,8,8,8,8,8,8,8,8,8,8,8,8,8,8,8,8,8,8,8,8,8,8,8,8,8,8,8,8,8,8,8,8,8,8,8,8,8,8,8,8,8,8,8,8,8,8,8,8,8,8,8,8,8,8,8,8,8,8,8,8,8,8,8,8,8,8,8,8,8,8,8,8,8,8,8,8,8,8,8,8,8,8,8,8,8,8,8,8,8,8,8,8,8,8,8,8,8,8,8,8,8,8,8,8,8,8,8,8,8,8,8,8,8,8,8,8,8,8,8,8,8,8,8,8,8]⟩:ByteArray).size:Int))/\let v1:Int:=byteAt (⟨#[0,1,2,2,3,3,3,3,4,4,4,4,4,4,4,4,5,5,5,5,5,5,5,5,5,5,5,5,5,5,5,5,6,6,6,6,6,6,6,6,6,6,6,6,6,6,6,6,6,6,6,6,6,6,6,6,6,6,6,6,6,6,6,6,7,7,7,7,7,7,7,7,7,7,7,7,7,7,7,7,7,7,7,7,7,7,7,7,7,7,7,7,7,7,7,7,7,7,7,7,7,7,7,7,7,7,7,7,7,7,7,7,7,7,7,7,7,7,7,7,7,7,7,7,7,7,7,7,8,8,8,8,8,8,8,8,8,8,8,8,8,8,8,8,8,8,8,8,8,8,8,8,8,8,8,8,8,8,8,8,8,8,8,8,8,8,8,8,8,8,8,8,8,8,8,8,8,8,8,8,8,8,8,8,8,8,8,8,8,8,8,8,8,8,8,8,8,8,8,8,8,8,8,8,8,8,8,8,8,8,8,8,8,8,8,8,8,8,8,8,8,8,8,8,8,8,8,8,8,8,8,8,8,8,8,8,8,8,8,8,8,8,8,8,8,8,8,8,8,8,8,8,8,8,8,8]⟩:ByteArray) (IntKind.u8.wrap l1)
let v2:Int:=i64.wrap (m1+(i64.wrap v1))
v2=r0)->J3 l1 m1)->
(decide (256<=i1)=true->
J3 (ishr .u64 i1 8) (i64.wrap (k1+8)))/\
(decide (256<=i1)=false->
J3 i1 k1))->J2 i1 k1)->
(decide (65536<=b1)=true->
J2 (ishr .u64 b1 16) (i64.wrap (f1+16)))/\
(decide (65536<=b1)=false->
J2 b1 f1))->J1 b1 f1)->
(decide (4294967296<=p0)=true->
J1 (ishr .u64 p0 32) 32)/\
(decide (4294967296<=p0)=false->
J1 p0 0))<|by
 rintro p0 h _ rfl;intro J1 j1
 have j1:∀s0 s2:Int,0<=s0->s0<4294967296->0<=s2->s2<=32->len64 p0=s2+len64 s0->J1 s0 s2:=fun s0 s2 h0 h1 h2 h3 h4=>by
  refine j1 _ _ fun J2 j2=> ?_
  have j2:∀s0 s2:Int,0<=s0->s0<65536->0<=s2->s2<=48->len64 p0=s2+len64 s0->J2 s0 s2:=fun s0 s2 h0 h1 h2 h3 h4=>by
   refine j2 _ _ fun J3 j3=> ?_
   have j3:∀s0 s2:Int,0<=s0->s0<256->0<=s2->s2<=56->len64 p0=s2+len64 s0->J3 s0 s2:=fun s0 s2 h0 h1 h2 h3 h4=>by
    refine j3 _ _ ?_;have e:IntKind.u8.wrap s0=s0:=by rw[u8w];omega
    have l:=kia s0 ⟨h0,h1⟩;show(0<=IntKind.u8.wrap s0/\IntKind.u8.wrap s0<(tab8.size:Int))/\i64.wrap (s2+i64.wrap (byteAt tab8 (IntKind.u8.wrap s0)))=_;rw[e,klf,khg s0 ⟨h0,h1⟩,wi (len64 s0) qqo qqo,wi (s2+len64 s0) qqo qqo,h4];exact⟨⟨h0,h1⟩,rfl⟩
   refine⟨fun h=> ?_,fun h=>j3 s0 s2 h0 qqh h2 qqo h4⟩;have h:=qb h;rw[<-k5k s0 8 qqh,<-Int.add_assoc,Int.add_right_comm]at h4;rw[ishr8,wi _ qqo qqo];exact j3 _ _ qqo qqo qqo qqo qqo
  refine⟨fun h=> ?_,fun h=>j2 s0 s2 h0 qqh h2 qqo h4⟩;have h:=qb h;rw[<-k5k s0 16 qqh,<-Int.add_assoc,Int.add_right_comm]at h4;rw[ishr16,wi _ qqo qqo];exact j2 _ _ qqo qqo qqo qqo qqo
 refine⟨fun h1=> ?_,fun h1=> ?_⟩
 ·have h1:=qb h1;rw[ishr32];exact j1 _ _ qqo qqo qqo qqo (by rw[<-k5k p0 32 (by simpa using h1),Int.add_comm];rfl)
 ·exact j1 p0 0 h.1 (by simpa using h1) qqo qqo qqo
noncomputable def k51:Ct:= .gp 115 [yqu] [yqi] [] fun(p0:Int)=>(0<p0/\p0<18446744073709551616,(64-len64 p0:Int),())
theorem k5x:k51.O:=qrv Bs Tryz.func115 .no (k7q.c c0) (Q:=∀(p0:Int),(0<p0/\p0<18446744073709551616)->∀r0:Int,(64-len64 p0)=r0-> 
(U64 p0)/\i64.wrap (64-(len64 p0))=r0)<|by rintro p0 h _ rfl;obtain⟨s,e,h1,_⟩:=kbi p0 h;refine⟨⟨by omega,h.2⟩,?_⟩;exact wi _ qqo qqo
noncomputable def kc3:Ct:= .gp 104 [yqu,yqu,yqu] [yqu,yqu] [] fun(p0 p1 p2:Int)=>(U64 p0/\U64 p1/\U64 p2/\p0<p2,((p0*18446744073709551616+p1)/p2:Int),((p0*18446744073709551616+p1)%p2:Int),())
theorem k7m:kc3.O:=qrv Bs Tryz.func104 (.r 13 (.jn ⟨[],[],[15,16],[.one (zqu),.one (.any)],[]⟩ [] (.lp [] ⟨[],[],[15,16],[.one (zqu),.one (zqu)],[]⟩ (.jn ⟨[],[],[],[],[]⟩ [] .no [] .no)) [] (.r 2 (.jn ⟨[],[],[16,18],[.one (.any),.one (zqu)],[]⟩ [] (.lp [] ⟨[],[],[16,18],[.one (zqu),.one (zqu)],[]⟩ (.jn ⟨[],[],[],[],[]⟩ [] .no [] .no)) [] .no)))) (k5x.c c0) (Q:=∀(p0 p1 p2:Int),(U64 p0/\U64 p1/\U64 p2/\p0<p2)->∀r0:Int,((p0*18446744073709551616+p1)/p2)=r0->∀r1:Int,((p0*18446744073709551616+p1)%p2)=r1-> 
((p2==0)=true->
False)/\
((p2==0)=false->
(decide (p2<=p0)=true->
False)/\
(decide (p2<=p0)=false->
((p0==0)=true->
(p2≠0)/\(p2≠0)/\u64.wrap (Int.tdiv p1 p2)=r0/\Int.tmod p1 p2=r1)/\
((p0==0)=false->
(0<p2/\p2<18446744073709551616)/\(0<=u64.wrap (64-len64 p2))/\let v2:Int:=ishl .u64 p2 (u64.wrap (64-len64 p2))
(0<=u64.wrap (64-len64 p2))/\let v3:Int:=ishl .u64 p0 (u64.wrap (64-len64 p2))
let v4:Int:=u64.wrap (64-(u64.wrap (64-len64 p2)))
(0<=v4)/\(0<=u64.wrap (64-len64 p2))/\let v5:Int:=ishl .u64 p1 (u64.wrap (64-len64 p2))
(ishr .u64 v2 32≠0)/\let v6:Int:=u64.wrap (Int.tdiv (ior .u64 v3 (ishr .u64 p1 v4)) (ishr .u64 v2 32))
let v7:Int:=u64.wrap (v6*(ishr .u64 v2 32))
let v8:Int:=u64.wrap ((ior .u64 v3 (ishr .u64 p1 v4))-v7)
∀J1:Int->Prop,(∀(b1:Int),
(let v12:Int:=u64.wrap ((ior .u64 v3 (ishr .u64 p1 v4))*4294967296)
let v13:Int:=u64.wrap (v12+(ishr .u64 v5 32))
let v14:Int:=u64.wrap (v13-(u64.wrap (b1*v2)))
(ishr .u64 v2 32≠0)/\let v15:Int:=u64.wrap (Int.tdiv v14 (ishr .u64 v2 32))
let v16:Int:=u64.wrap (v15*(ishr .u64 v2 32))
∀J3:Int->Prop,(∀(k1:Int),
(let v20:Int:=u64.wrap ((u64.wrap (b1*4294967296))+k1)
let v21:Int:=u64.wrap ((u64.wrap (v14*4294967296))+(iand .u64 v5 4294967295))
let v22:Int:=u64.wrap (v21-(u64.wrap (k1*v2)))
(0<=u64.wrap (64-len64 p2))/\let v23:Int:=ishr .u64 v22 (u64.wrap (64-len64 p2))
v20=r0/\v23=r1)->J3 k1)->
∃(I2:Int->Int->Prop) (M2:Int->Int->Nat),I2 (u64.wrap (v14-v16)) v15/\∀l1 m1,(I2 l1 m1->
∀J4:Prop,((let v19:Int:=u64.wrap (l1+(ishr .u64 v2 32))
(decide (4294967296<=v19)=true->
J3 (u64.wrap (m1-1)))/\
(decide (4294967296<=v19)=false->
I2 v19 (u64.wrap (m1-1))/\M2 v19 (u64.wrap (m1-1))<M2 l1 m1))->J4)->
(decide (4294967296<=m1)=true->
J4)/\
(decide (4294967296<=m1)=false->
let v17:Int:=u64.wrap (m1*(iand .u64 v2 4294967295))
let v18:Int:=u64.wrap ((u64.wrap (4294967296*l1))+(iand .u64 v5 4294967295))
(decide (v18<v17)=true->
J4)/\
(decide (v18<v17)=false->
J3 m1))))->J1 b1)->
∃(I1:Int->Int->Prop) (M1:Int->Int->Nat),I1 v6 v8/\∀f1 i1,(I1 f1 i1->
∀J2:Prop,((let v11:Int:=u64.wrap (i1+(ishr .u64 v2 32))
(decide (4294967296<=v11)=true->
J1 (u64.wrap (f1-1)))/\
(decide (4294967296<=v11)=false->
I1 (u64.wrap (f1-1)) v11/\M1 (u64.wrap (f1-1)) v11<M1 f1 i1))->J2)->
(decide (4294967296<=f1)=true->
J2)/\
(decide (4294967296<=f1)=false->
let v9:Int:=u64.wrap (f1*(iand .u64 v2 4294967295))
let v10:Int:=u64.wrap ((u64.wrap (4294967296*i1))+(ishr .u64 v5 32))
(decide (v10<v9)=true->
J2)/\
(decide (v10<v9)=false->
J1 f1)))))))<|by
 rintro p0 p1 p2 h _ rfl _ rfl;obtain⟨h0,h1,h2,hlt⟩:=h;refine⟨fun e=> ?_,fun _=>⟨fun e=> ?_,fun _=>⟨fun e=> ?_,fun _=> ?_⟩⟩⟩
 ·simp at e;omega
 ·simp at e;omega
 ·have e:p0=0:=by simpa using e
  subst e;rw[tdiv_nn _ _ h1.1,tmod_nn _ _ h1.1,Int.zero_mul,Int.zero_add];have:=Int.ediv_le_self p2 h1.1;have:=qeg h1.1 h2.1;exact⟨by omega,by omega,wu _ qqo (by have:=Int.ediv_le_self p2 h1.1;omega),rfl⟩
 obtain⟨s,e,hs,n1,n2⟩:=kbi p2 ⟨by omega,h2.2⟩;have ew:u64.wrap (64-len64 p2)=(s:Int):=by rw[e,wu _ qqo qqo]
 have ew3:u64.wrap (64-(s:Int))=((64-s:Nat):Int):=by rw[wu _ qqo qqo];omega
 have hp:0<2^s:=qeh s;have hp' :0<2^(64-s):=qeh _;have hpp:2^s*2^(64-s)=18446744073709551616:=by rw[<-Nat.pow_add,show s+(64-s)=64 by omega]
 have hP:((2^s:Nat):Int)*((2^(64-s):Nat):Int)=18446744073709551616:=by rw[<-qdb,hpp];rfl
 have il:∀a:Int,ishl .u64 a (s:Int)=a*((2^s:Nat):Int)%18446744073709551616:=fun a=>by rw[kft,qac,qca qqo]
 have ir:∀a:Int,ishr .u64 a (s:Int)=a/((2^s:Nat):Int):=fun a=>by rw[k3d,qac,show min s u64.bits=s from qca (by show s<=64;omega)]
 have ir' :∀a:Int,ishr .u64 a ((64-s:Nat):Int)=a/((2^(64-s):Nat):Int):=fun a=>by rw[k3d,qac,show min (64-s) u64.bits=64-s from qca (by show 64-s<=64;omega)]
 have hor:∀c:Int,0<=c->c<((2^s:Nat):Int)->p0*((2^s:Nat):Int)+c<18446744073709551616->ior .u64 (p0*((2^s:Nat):Int)) c=p0*((2^s:Nat):Int)+c:=by intro c hc0 hc1 hc2;obtain⟨a,rfl⟩:=qag h0.1;obtain⟨c,rfl⟩:=qag hc0;have key:=ior_add' c a s qqo;rw[qeb,<-qdb]at hc2 ⊢;rw[key qqo];omega
 simp only[ew,ew3,il,ir',ishr32];have hP'0:(0:Int)<((2^(64-s):Nat):Int):=by omega
 generalize hPd:((2^s:Nat):Int)=P at *
 generalize hPd' :((2^(64-s):Nat):Int)=P' at *
 have hP0:0<P:=by omega
 have hlo:p1/P' <P:=Int.ediv_lt_of_lt_mul hP'0 qqo;have hlo0:0<=p1/P' :=qeg h1.1 qqo;have hUv:p0*P+P<=p2*P:=by have:(p0+1)*P<=p2*P:=Int.mul_le_mul_of_nonneg_right qqo qqo;grind
 have hUp:0<=p0*P:=qbj h0.1 qqo;rw[qdd (a:=p2*P) qqo n2,qdd (a:=p0*P) hUp qqo,hor _ hlo0 hlo qqo]
 have hN:(p0*18446744073709551616+p1)*P=(p0*P+p1/P')*18446744073709551616+(p1*P%18446744073709551616/4294967296)*4294967296+p1*P%18446744073709551616%4294967296:=by
  have h5:p1*P/18446744073709551616=p1/P' :=by rw[<-hP,qeb p1 P,Int.mul_ediv_mul_of_pos _ _ hP0]
  have h6:=qdn (p1*P) 18446744073709551616;rw[h5]at h6;have:(p0*18446744073709551616+p1)*P=p0*P*18446744073709551616+p1*P:=by grind
  rw[this];generalize p1*P=w at *
  generalize p0*P=w' at *
  omega
 have hlb:0<=p1*P%18446744073709551616/\p1*P%18446744073709551616<18446744073709551616:=⟨qbm _ qqo,qbf _ qqo⟩;generalize hUd:p0*P+p1/P' =U at *
 generalize hLd:p1*P%18446744073709551616=L at *
 have hVd:p2*P/4294967296*4294967296+p2*P%4294967296=p2*P:=by omega
 have hw:∀{Q R V' :Int},R-Q=V'->0<=V'->V' <18446744073709551616->∀A,R=A*4294967296+(R-A*4294967296)->u64.wrap (u64.wrap (u64.wrap (A*4294967296)+(R-A*4294967296))-u64.wrap Q)=V' :=by intro Q R V' hv h0 h1 A hA;simp only[u64w];omega
 rw[k2e (p2*P) qqo,k2e L qqo];generalize ha:p2*P/4294967296=a at *
 generalize hb:p2*P%4294967296=b at *
 have hQ1:Half U (L/4294967296) a b ((U*4294967296+L/4294967296)/(a*4294967296+b)):=⟨by omega,by omega,by omega,by omega,by omega,rfl⟩;have hr1:=hQ1.rest;have hq1:=hQ1.q;generalize (U*4294967296+L/4294967296)/(a*4294967296+b)=Q1 at *
 generalize (U*4294967296+L/4294967296)%(a*4294967296+b)=R1 at *
 have hQ0:Half R1 (L%4294967296) a b ((R1*4294967296+L%4294967296)/(a*4294967296+b)):=⟨by omega,by omega,by omega,by omega,by omega,rfl⟩;have hr0:=hQ0.rest;have hq0:=hQ0.q;generalize (R1*4294967296+L%4294967296)/(a*4294967296+b)=Q0 at *
 generalize (R1*4294967296+L%4294967296)%(a*4294967296+b)=R0 at *
 rw[hVd]at hr1 hr0 hq1 hq0;have fin:=kjh hP0 (by omega:0<p2) hN hr1.1 hr0.1 ⟨hr0.2.1,hr0.2.2⟩
 have aux:∀{U x Q q r:Int},Half U x a b Q->U<18446744073709551616->q*a+r=U->Q<=q->0<=r->q<=8589934592:=by
  intro U x Q q r hh hU e hQ hr;have h1:=hh.ha;refine Int.le_of_lt_add_one (qcw (a:=a) ?_ qqo);generalize q*a=w at *
  omega
 have init:∀{U x Q:Int},Half U x a b Q->Q<=U/a:=by
  intro U x Q hh;have h1:=hh.ha;have h2:=hh.q;have h3:=hh.hb;have h4:=hh.hx;refine(Int.le_ediv_iff_mul_le qqo).2 ?_;have h5:Q*(a*4294967296+b)=Q*a*4294967296+Q*b:=by grind
  have h6:0<=Q*b:=qbj h2.1 h3.1;generalize Q*a=w at *
  omega
 have hd:=qdn U a;have hd1:=qbm U (by omega:a≠0);have hd2:=qbf U (by omega:0<a);have hd3:0<=U/a:=qeg qqo qqo;rw[qeb]at hd;have hd5:0<=U/a*a:=qbj hd3 qqo;have hd4:=aux hQ1 qqo (q:=U/a) (r:=U%a) qqo (init hQ1) hd1;rw[tdiv_nn _ _ qqo,wu (U/a) qqo qqo,wu (U/a*a) qqo qqo,show U-U/a*a=U%a by omega,wu (U%a) qqo qqo];refine⟨⟨by omega,h2.2⟩,by omega,by omega,by omega,by omega,by omega,fun J1 k1=> ?_⟩
 have j2:J1 Q1:=by
  have e1:=hw (Q:=Q1*(p2*P)) (R:=U*4294967296+L/4294967296) hr1.1 hr1.2.1 qqo U qqo;rw[show U*4294967296+L/4294967296-U*4294967296=L/4294967296 by omega]at e1;refine k1 _ ?_;simp only[e1];have hd:=qdn R1 a;have hd1:=qbm R1 (by omega:a≠0);have hd2:=qbf R1 (by omega:0<a);have hd3:0<=R1/a:=qeg hr1.2.1 qqo;rw[qeb]at hd;have hd5:0<=R1/a*a:=qbj hd3 qqo;have hd4:=aux hQ0 qqo (q:=R1/a) (r:=R1%a) qqo (init hQ0) hd1;rw[tdiv_nn _ _ hr1.2.1,wu (R1/a) qqo qqo,wu (R1/a*a) qqo qqo,show R1-R1/a*a=R1%a by omega,wu (R1%a) qqo qqo];refine⟨by omega,fun J3 k3=> ?_⟩
  have j4:J3 Q0:=by
   refine k3 _ ⟨by omega,?_,?_⟩
   ·rw[wu (Q1*4294967296) qqo qqo,wu _ qqo qqo];exact fin.1
   ·have:=hw (Q:=Q0*(p2*P)) (R:=R1*4294967296+L%4294967296) hr0.1 hr0.2.1 qqo R1 qqo;rw[show R1*4294967296+L%4294967296-R1*4294967296=L%4294967296 by omega]at this;rw[this,ir];exact fin.2
  refine⟨fun r q=>q*a+r=R1/\Q0<=q/\0<=r/\r<4294967296,fun r q=>q.toNat,⟨by omega,init hQ0,hd1,by omega⟩,?_⟩;rintro r q ⟨g1,g2,g3,g4⟩ J4 k4;have g5:=aux hQ0 qqo g1 g2 g3;have nxt:Q0<=q-1->r+a<4294967296->((q-1)*a+(r+a)=R1/\Q0<=q-1/\0<=r+a/\r+a<4294967296)/\(q-1).toNat<q.toNat:=fun h1 h2=>⟨⟨by grind,h1,by omega,h2⟩,by(first|omega|(dsimp only;omega))⟩;have j3:Q0<=q-1->J4:=by intro hq;refine k4 ?_;rw[wu (q-1) qqo qqo,wu (r+a) qqo qqo];refine⟨fun hd=> ?_,fun hd=>nxt hq (by simpa using hd)⟩;have hd:4294967296<=r+a:=qb hd;rw[hQ0.done (q:=q-1) (r:=r+a) (by grind) hq hd];exact j4
  refine⟨fun hd=>j3 (hQ0.down g1 (.inl (qb hd))),fun hd=> ?_⟩;have hd:q<4294967296:=by simpa using hd
  have hqb:0<=q*b/\q*b<18446744073709551616:=by have:=hQ0.hb;have h1:q*b<=4294967295*4294967295:=qbw qqo qqo qqo qqo;exact⟨qbj qqo qqo,by(first|omega|(dsimp only;omega))⟩
  have:=hQ0.hx;rw[wu (q*b) qqo qqo,wu (4294967296*r) qqo qqo,wu (4294967296*r+L%4294967296) qqo qqo];refine⟨fun ht=> ?_,fun ht=> ?_⟩
  ·have ht:4294967296*r+L%4294967296<q*b:=qb ht;exact j3 (hQ0.down g1 (.inr qqo))
  ·have ht:¬(4294967296*r+L%4294967296<q*b):=qc ht;rw[hQ0.exit g1 g2 qqo];exact j4
 refine⟨fun q r=>q*a+r=U/\Q1<=q/\0<=r/\r<4294967296,fun q r=>q.toNat,⟨by omega,init hQ1,hd1,by omega⟩,?_⟩;rintro q r ⟨g1,g2,g3,g4⟩ J2 k2;have g5:=aux hQ1 qqo g1 g2 g3;have nxt:Q1<=q-1->r+a<4294967296->((q-1)*a+(r+a)=U/\Q1<=q-1/\0<=r+a/\r+a<4294967296)/\(q-1).toNat<q.toNat:=fun h1 h2=>⟨⟨by grind,h1,by omega,h2⟩,by(first|omega|(dsimp only;omega))⟩;have j1:Q1<=q-1->J2:=by intro hq;refine k2 ?_;rw[wu (q-1) qqo qqo,wu (r+a) qqo qqo];refine⟨fun hd=> ?_,fun hd=>nxt hq (by simpa using hd)⟩;have hd:4294967296<=r+a:=qb hd;rw[hQ1.done (q:=q-1) (r:=r+a) (by grind) hq hd];exact j2
 refine⟨fun hd=>j1 (hQ1.down g1 (.inl (qb hd))),fun hd=> ?_⟩;have hd:q<4294967296:=by simpa using hd
 have hqb:0<=q*b/\q*b<18446744073709551616:=by have:=hQ1.hb;have h1:q*b<=4294967295*4294967295:=qbw qqo qqo qqo qqo;exact⟨qbj qqo qqo,by(first|omega|(dsimp only;omega))⟩
 have:=hQ1.hx;rw[wu (q*b) qqo qqo,wu (4294967296*r) qqo qqo,wu (4294967296*r+L/4294967296) qqo qqo];refine⟨fun ht=> ?_,fun ht=> ?_⟩
 ·have ht:4294967296*r+L/4294967296<q*b:=qb ht;exact j1 (hQ1.down g1 (.inr qqo))
 ·have ht:¬(4294967296*r+L/4294967296<q*b):=qc ht;rw[hQ1.exit g1 g2 qqo];exact j2
noncomputable def kca:Ct:= .gp 103 [yqu,yqu] [yqu,yqu] [] fun(p0 p1:Int)=>(U64 p0/\U64 p1,(p0*p1/18446744073709551616:Int),(p0*p1%18446744073709551616:Int),())
theorem k7r:kca.O:=qrv Bs Tryz.func103 .no c0 (Q:=∀(p0 p1:Int),(U64 p0/\U64 p1)->∀r0:Int,(p0*p1/18446744073709551616)=r0->∀r1:Int,(p0*p1%18446744073709551616)=r1-> 
let v2:Int:=u64.wrap ((iand .u64 p0 4294967295)*(iand .u64 p1 4294967295))
let v3:Int:=u64.wrap ((ishr .u64 p0 32)*(iand .u64 p1 4294967295))
let v4:Int:=u64.wrap (v3+(ishr .u64 v2 32))
let v5:Int:=u64.wrap ((iand .u64 p0 4294967295)*(ishr .u64 p1 32))
let v6:Int:=u64.wrap ((iand .u64 v4 4294967295)+v5)
let v7:Int:=u64.wrap ((ishr .u64 p0 32)*(ishr .u64 p1 32))
let v8:Int:=u64.wrap (v7+(ishr .u64 v4 32))
let v9:Int:=u64.wrap (v8+(ishr .u64 v6 32))
v9=r0/\u64.wrap (p0*p1)=r1)<|by
 rintro p0 p1 h _ rfl _ rfl;obtain⟨h0,h1⟩:=h;have k:=km7 p0 p1 h0 h1;refine ?_;simp only[k2e p0 h0,k2e p1 h1,ishr32];obtain⟨e,k1,k2,k3,k4,k5,k6,k7,k8⟩:=k;rw[<-e];rw[wu (p0%4294967296*(p1%4294967296)) qqo qqo,wu (p0/4294967296*(p1%4294967296)) qqo qqo,wu (p0%4294967296*(p1/4294967296)) qqo qqo,wu (p0/4294967296*(p1/4294967296)) qqo qqo];generalize p0%4294967296*(p1%4294967296)=a at *
 generalize p0/4294967296*(p1%4294967296)=b at *
 generalize p0%4294967296*(p1/4294967296)=c at *
 generalize p0/4294967296*(p1/4294967296)=d at *
 rw[wu (b+a/4294967296) qqo qqo,k2e _ qqo];simp only[u64w];refine⟨?_,trivial⟩;omega
noncomputable def kf1:Ct:= .gp 119 [.st 5,yqu,yqu] [yqu] [] fun(p0:wY) (p1 p2:Int)=>(p0.P=18446744069414584321/\(0<=p1/\p1<18446744069414584321)/\(0<=p2/\p2<18446744069414584321),(p1*p2%18446744069414584321:Int),())
theorem k88:kf1.O:=qrv Bs Tryz.func119 .no (k7r.c (k7m.c c0)) (Q:=∀(p0:wY) (p1 p2:Int),(p0.P=18446744069414584321/\(0<=p1/\p1<18446744069414584321)/\(0<=p2/\p2<18446744069414584321))->∀r0:Int,(p1*p2%18446744069414584321)=r0-> 
(U64 p1/\U64 p2)/\(U64 (p1*p2/18446744073709551616)/\U64 (p1*p2%18446744073709551616)/\U64 p0.P/\(p1*p2/18446744073709551616)<p0.P)/\let r1:Int:=(((p1*p2/18446744073709551616)*18446744073709551616+(p1*p2%18446744073709551616))/p0.P)
let r2:Int:=(((p1*p2/18446744073709551616)*18446744073709551616+(p1*p2%18446744073709551616))%p0.P)
r2=r0)<|by
 rintro p0 p1 p2 h _ rfl;obtain⟨hP,h1,h2⟩:=h;have h3:0<=p1*p2:=qbj h1.1 h2.1;have h4:p1*p2<=18446744069414584320*18446744069414584320:=qbw qqo qqo h2.1 qqo;refine⟨⟨by omega,by omega⟩,?_⟩;simp only[hP];generalize p1*p2=m at *
 refine⟨⟨⟨by omega,by omega⟩,⟨by omega,by omega⟩,by omega,by omega⟩,?_⟩;rw[show m/18446744073709551616*18446744073709551616+m%18446744073709551616=m by omega]
noncomputable def kes:Ct:= .gp 113 [.st 5,yqu,yqu] [yqu] [] fun(p0:wY) (p1 p2:Int)=>(p0.P=18446744069414584321/\U64 p1/\U64 p2,(p1*p2%18446744069414584321:Int),())
theorem kgf:kes.O:=qrv Bs Tryz.func113 .no (k13.c (k1g.c (k88.c c0))) (Q:=∀(p0:wY) (p1 p2:Int),(p0.P=18446744069414584321/\U64 p1/\U64 p2)->∀r0:Int,(p1*p2%18446744069414584321)=r0-> 
(p0.P=18446744069414584321)/\((!true)=true->
0=r0)/\
((!true)=false->
(0<p0.P/\0<=p1)/\(0<p0.P/\0<=p2)/\(p0.P=18446744069414584321/\(0<=(p1%p0.P)/\(p1%p0.P)<18446744069414584321)/\(0<=(p2%p0.P)/\(p2%p0.P)<18446744069414584321))/\let r1:Int:=((p1%p0.P)*(p2%p0.P)%18446744069414584321)
r1=r0))<|by rintro p0 p1 p2 h _ rfl;obtain⟨hP,h1,h2⟩:=h;refine⟨hP,?_⟩;simp only[hP];refine⟨fun h=>by simp at h,fun _=>⟨by omega,by omega,⟨by trivial,by omega,by omega⟩,?_⟩⟩;exact(qco _ _ _).symm
noncomputable def k96:Ct:= .gp 125 [.st 5] [yqu,yqi,yqu] [] fun(p0:wY)=>(p0.P=18446744069414584321,(7:Int),(32:Int),(7:Int),())
theorem kai:k96.O:=qrv Bs Tryz.func125 .no c0 (Q:=∀(p0:wY),(p0.P=18446744069414584321)->∀r0:Int,(7:Int)=r0->∀r1:Int,(32:Int)=r1->∀r2:Int,(7:Int)=r2-> 
((p0.P==17)=true->
3=r0/\4=r1/\3=r2)/\
((p0.P==17)=false->
((p0.P==97)=true->
5=r0/\5=r1/\5=r2)/\
((p0.P==97)=false->
((p0.P==193)=true->
5=r0/\6=r1/\5=r2)/\
((p0.P==193)=false->
((p0.P==257)=true->
3=r0/\8=r1/\3=r2)/\
((p0.P==257)=false->
((p0.P==12289)=true->
11=r0/\12=r1/\5=r2)/\
((p0.P==12289)=false->
((p0.P==65537)=true->
3=r0/\16=r1/\3=r2)/\
((p0.P==65537)=false->
((p0.P==18446744069414584321)=true->
7=r0/\32=r1/\7=r2)/\
((p0.P==18446744069414584321)=false->
0=r0/\0=r1/\0=r2))))))))<|by rintro p0 h _ rfl _ rfl _ rfl;refine ?_;simp[h]
noncomputable def k8n:Ct:= .gp 120 [.st 5] [yqu] [] fun(p0:wY)=>(p0.P=18446744069414584321,(7:Int),())
theorem k93:k8n.O:=qrv Bs Tryz.func120 .no (kai.c c0) (Q:=∀(p0:wY),(p0.P=18446744069414584321)->∀r0:Int,(7:Int)=r0-> 
(p0.P=18446744069414584321)/\7=r0)<|by rintro p0 h _ rfl;exact⟨h,rfl⟩
noncomputable def keh:Ct:= .gp 126 [.st 5,yqu,yqu] [yqu] [] fun(p0:wY) (p1 p2:Int)=>(p0.P=18446744069414584321/\(0<=p1/\p1<18446744069414584321)/\U64 p2,(pw p1 p2:Int),())
theorem kfo:keh.O:=qrv Bs Tryz.func126 (.r 1 (.nd [] (.lp [] ⟨[],[],[1,2,7],[.one (zqu),.one (zqu),.one (zqu)],[]⟩ (.r 0 (.jn ⟨[],[],[7],[.one (zqu)],[]⟩ [] .no [] .no))) [] .no)) (k88.c c0) (Q:=∀(p0:wY) (p1 p2:Int),(p0.P=18446744069414584321/\(0<=p1/\p1<18446744069414584321)/\U64 p2)->∀r0:Int,pw p1 p2=r0-> 
∃(I1:Int->Int->Int->Prop) (M1:Int->Int->Int->Nat),I1 p1 p2 1/\∀b1 f1 i1,(I1 b1 f1 i1->
(decide (0<f1)=true->
∀J1:Int->Prop,(∀(k1:Int),
((decide (0<(ishr .u64 f1 1))=true->
(p0.P=18446744069414584321/\(0<=b1/\b1<18446744069414584321)/\(0<=b1/\b1<18446744069414584321))/\I1 (b1*b1%18446744069414584321) (ishr .u64 f1 1) k1/\M1 (b1*b1%18446744069414584321) (ishr .u64 f1 1) k1<M1 b1 f1 i1)/\
(decide (0<(ishr .u64 f1 1))=false->
I1 b1 (ishr .u64 f1 1) k1/\M1 b1 (ishr .u64 f1 1) k1<M1 b1 f1 i1))->J1 k1)->
(((iand .u64 f1 1)==1)=true->
(p0.P=18446744069414584321/\(0<=i1/\i1<18446744069414584321)/\(0<=b1/\b1<18446744069414584321))/\J1 (i1*b1%18446744069414584321))/\
(((iand .u64 f1 1)==1)=false->
J1 i1))/\
(decide (0<f1)=false->
i1=r0)))<|by
 rintro p0 p1 p2 h _ rfl;obtain⟨hP,h1,h2⟩:=h;rw[hP];refine⟨fun a e r=>(0<=a/\a<18446744069414584321)/\U64 e/\(0<=r/\r<18446744069414584321)/\(r*a^e.toNat)%18446744069414584321=pw p1 p2,fun a e r=>e.toNat,⟨h1,h2,by omega,by rw[Int.one_mul];rfl⟩,?_⟩;rintro a e r ⟨ha,he,hr,hv⟩;refine⟨fun h J1 j=> ?_,fun h=> ?_⟩
 ·have h:=qb h
  have jj:∀r',(0<=r'/\r' <18446744069414584321)->(r' *(a*a)^(e/2).toNat)%18446744069414584321=pw p1 p2->J1 r' :=by
   intro r' hr' hv';have hn:∀a',(0<=a'/\a' <18446744069414584321)->r' *a' ^(e/2).toNat%18446744069414584321=pw p1 p2->((0<=a'/\a' <18446744069414584321)/\U64 (e/2)/\(0<=r'/\r' <18446744069414584321)/\r' *a' ^(e/2).toNat%18446744069414584321=pw p1 p2)/\(e/2).toNat<e.toNat:=fun a' h1 h3=>⟨⟨h1,⟨by omega,by omega⟩,hr',h3⟩,by(first|omega|(dsimp only;omega))⟩;refine j _ ?_;rw[ishr1];refine⟨fun h=>⟨⟨rfl,ha,ha⟩,?_⟩,fun h=> ?_⟩
   ·refine hn _ ⟨qbm _ qqo,qbf _ qqo⟩ ?_;rw[<-hv',qco,qco r' ((a*a)^_),k6v]
   ·have h:¬0<e/2:=qc h;refine hn _ ha ?_;rw[show(e/2).toNat=0 by omega]at hv' ⊢;simpa using hv'
  rw[kmk e he];have hpow:∀k:Nat,a^(2*k)=(a*a)^k:=fun k=>by rw[Int.pow_mul];congr 1;rw[qcn,qcn,Int.pow_zero,Int.one_mul]
  refine⟨fun h1=>⟨⟨rfl,hr,ha⟩,?_⟩,fun h1=> ?_⟩
  ·have h1:e%2=1:=by simpa using h1
   refine jj _ ⟨qbm _ qqo,qbf _ qqo⟩ ?_;rw[<-hv,show e.toNat=2*(e/2).toNat+1 by omega,qcn,hpow,qco,qdc _ (qej _),<-qco];congr 1;grind
  ·have h1:¬e%2=1:=by simpa using h1
   refine jj _ hr ?_;rw[<-hv,<-hpow,show e.toNat=2*(e/2).toNat by omega]
 ·have h:¬0<e:=qc h;rw[show e.toNat=0 by omega,Int.pow_zero,Int.mul_one,qdd hr.1 hr.2]at hv;exact hv
noncomputable def kei:Ct:= .gp 121 [.st 5,yqu,yqu] [yqu] [] fun(p0:wY) (p1 p2:Int)=>(p0.P=18446744069414584321/\U64 p1/\U64 p2,(pw (p1%18446744069414584321) p2:Int),())
theorem kgd:kei.O:=qrv Bs Tryz.func121 .no (k13.c (k1g.c (kfo.c c0))) (Q:=∀(p0:wY) (p1 p2:Int),(p0.P=18446744069414584321/\U64 p1/\U64 p2)->∀r0:Int,(pw (p1%18446744069414584321) p2)=r0-> 
(p0.P=18446744069414584321)/\((!true)=true->
0=r0)/\
((!true)=false->
(0<p0.P/\0<=p1)/\(p0.P=18446744069414584321/\(0<=(p1%p0.P)/\(p1%p0.P)<18446744069414584321)/\U64 p2)/\(pw (p1%p0.P) p2)=r0))<|by rintro p0 p1 p2 h _ rfl;obtain⟨hP,h1,h2⟩:=h;refine⟨hP,fun h=>by simp at h,fun _=>⟨by omega,?_⟩⟩;simp only[hP];exact⟨⟨by trivial,by omega,h2⟩,trivial⟩
noncomputable def k9x:Ct:= .gp 127 [.st 5,yqu] [yqu] [] fun(p0:wY) (p1:Int)=>(p0.P=18446744069414584321/\U64 p1,(p1%18446744069414584321:Int),())
theorem kbj:k9x.O:=qrv Bs Tryz.func127 .no (k13.c (k1g.c c0)) (Q:=∀(p0:wY) (p1:Int),(p0.P=18446744069414584321/\U64 p1)->∀r0:Int,(p1%18446744069414584321)=r0-> 
(p0.P=18446744069414584321)/\((!true)=true->
0=r0)/\
((!true)=false->
(0<p0.P/\0<=p1)/\(p1%p0.P)=r0))<|by rintro p0 p1 h _ rfl;obtain⟨hP,h1⟩:=h;refine⟨hP,fun h=>by simp at h,fun _=>⟨by omega,?_⟩⟩;simp only[hP]
noncomputable def k4l:Ct:= .gp 122 [yqu,yqi,yqi] [yqu] [] fun(p0 p1 p2:Int)=>(p0=18446744069414584321/\(0<=p1/\p1<8)/\0<=p2/\p2<3,(rc p1 p2:Int),())
theorem k50:k4l.O:=qrv Bs Tryz.func122 .no (kbj.c c0) (Q:=∀(p0 p1 p2:Int),(p0=18446744069414584321/\(0<=p1/\p1<8)/\0<=p2/\p2<3)->∀r0:Int,rc p1 p2=r0-> 
(decide (p1<0)=true->
0=r0)/\
(decide (p1<0)=false->
(decide (8<=p1)=true->
0=r0)/\
(decide (8<=p1)=false->
(decide (p2<0)=true->
0=r0)/\
(decide (p2<0)=false->
(decide (2<p2)=true->
0=r0)/\
(decide (2<p2)=false->
let v1:Int:=i64.wrap ((i64.wrap (3*p1))+p2)
let v2:Int:=u64.wrap (i64.wrap (v1+1))
let v3:Int:=u64.wrap (v2*11400714819323198485)
((wY.mk p0).P=18446744069414584321/\U64 v3)/\(v3%18446744069414584321)=r0)))))<|by
 rintro p0 p1 p2 h _ rfl;obtain⟨hP,h1,h2⟩:=h;refine⟨fun h=> ?_,fun _=>⟨fun h=> ?_,fun _=>⟨fun h=> ?_,fun _=>⟨fun h=> ?_,fun _=> ?_⟩⟩⟩⟩
 ·simp at h;omega
 ·simp at h;omega
 ·simp at h;omega
 ·simp at h;omega
 ·simp only[];rw[wi (3*p1) qqo qqo,wi (3*p1+p2) qqo qqo,wi (3*p1+p2+1) qqo qqo,wu (3*p1+p2+1) qqo qqo,u64w];exact⟨⟨hP,by omega,by omega⟩,rfl⟩
noncomputable def k7y:Ct:= .gp 123 [yqu,.st 6] [.st 6] [] fun(p0:Int) (p1:wZ)=>(p0=18446744069414584321/\S3 p1,(mixS p1:wZ),())
theorem k8e:k7y.O:=qrv Bs Tryz.func123 .no (k4v.c c0) (Q:=∀(p0:Int) (p1:wZ),(p0=18446744069414584321/\S3 p1)->∀r0:wZ,mixS p1=r0-> 
((wY.mk p0).P=18446744069414584321/\U64 p1.a0/\U64 p1.a1)/\((wY.mk p0).P=18446744069414584321/\U64 ((p1.a0+p1.a1)%18446744069414584321)/\U64 p1.a2)/\let r1:Int:=((((p1.a0+p1.a1)%18446744069414584321)+p1.a2)%18446744069414584321)
((wY.mk p0).P=18446744069414584321/\U64 p1.a0/\U64 r1)/\((wY.mk p0).P=18446744069414584321/\U64 p1.a1/\U64 r1)/\((wY.mk p0).P=18446744069414584321/\U64 p1.a2/\U64 r1)/\((p1.a0+r1)%18446744069414584321)=r0.a0/\((p1.a1+r1)%18446744069414584321)=r0.a1/\((p1.a2+r1)%18446744069414584321)=r0.a2)<|by rintro p0 p1 h _ rfl;obtain⟨hP,h0,h1,h2⟩:=h;refine ?_;simp only[hP];exact⟨⟨by trivial,h0,h1⟩,⟨by trivial,by omega,h2⟩,⟨by trivial,h0,by omega⟩,⟨by trivial,h1,by omega⟩,⟨by trivial,h2,by omega⟩,rfl,rfl,rfl⟩
noncomputable def k4y:Ct:= .gp 114 [yqu,.st 6] [.st 6] [] fun(p0:Int) (p1:wZ)=>(p0=18446744069414584321/\S3 p1,(permS p1:wZ),())
theorem k5w:k4y.O:=qrv Bs Tryz.func114 (.r 3 (.nd [] (.r 0 (.lp [] ⟨[0],yI,[17],[.one (zqi)],[]⟩ (.r 1 (.nd [] (.r 0 (.nd [] (.r 0 (.lp [] ⟨[0],yI,[20],[.one (zqi)],[]⟩ .no)) [] .no)) [] .no)))) [] .no)) (k13.c (k93.c (k50.c (k4v.c (kgd.c (k8e.c c0)))))) (Q:=∀(p0:Int) (p1:wZ),(p0=18446744069414584321/\S3 p1)->∀r0:wZ,permS p1=r0-> 
((wY.mk p0).P=18446744069414584321)/\((!true)=true->
0=r0.a0/\0=r0.a1/\0=r0.a2)/\
((!true)=false->
((wY.mk p0).P=18446744069414584321)/\∃(I1:Int->Int->Int->Int->Prop) (M1:Int->Int->Int->Int->Nat),I1 0 p1.a0 p1.a1 p1.a2/\∀b1 f1 i1 k1,(I1 b1 f1 i1 k1->
(decide (b1<8)=true->
∃(I2:Int->Int->Int->Int->Prop) (M2:Int->Int->Int->Int->Nat),I2 0 f1 i1 k1/\∀l1 m1 n1 o1,(I2 l1 m1 n1 o1->
(decide (l1<3)=true->
(0<=l1/\l1<(3:Int))/\(0<=l1/\l1<(3:Int))/\(p0=18446744069414584321/\(0<=b1/\b1<8)/\0<=l1/\l1<3)/\((wY.mk p0).P=18446744069414584321/\U64 (ix [m1,n1,o1] l1)/\U64 (rc b1 l1))/\let r1:Int:=(((ix [m1,n1,o1] l1)+(rc b1 l1))%18446744069414584321)
((wY.mk p0).P=18446744069414584321/\U64 r1/\U64 (7:Int))/\let r2:Int:=(pw (r1%18446744069414584321) (7:Int))
(0<=l1/\l1<(3:Int))/\(0<=l1/\l1<(3:Int))/\I2 (i64.wrap (l1+1)) (bif decide (l1=(0:Int))then r2 else m1) (bif decide (l1=(1:Int))then r2 else n1) (bif decide (l1=(2:Int))then r2 else o1)/\M2 (i64.wrap (l1+1)) (bif decide (l1=(0:Int))then r2 else m1) (bif decide (l1=(1:Int))then r2 else n1) (bif decide (l1=(2:Int))then r2 else o1)<M2 l1 m1 n1 o1)/\
(decide (l1<3)=false->
(p0=18446744069414584321/\S3 (wZ.mk m1 n1 o1))/\I1 (i64.wrap (b1+1)) ((mixS (wZ.mk m1 n1 o1)).a0) ((mixS (wZ.mk m1 n1 o1)).a1) ((mixS (wZ.mk m1 n1 o1)).a2)/\M1 (i64.wrap (b1+1)) ((mixS (wZ.mk m1 n1 o1)).a0) ((mixS (wZ.mk m1 n1 o1)).a1) ((mixS (wZ.mk m1 n1 o1)).a2)<M1 b1 f1 i1 k1)))/\
(decide (b1<8)=false->
f1=r0.a0/\i1=r0.a1/\k1=r0.a2))))<|by
 rintro p0 p1 h _ rfl;obtain⟨hP,hs⟩:=h;subst hP;refine⟨rfl,fun h=>by simp at h,fun _=>⟨rfl,?_⟩⟩;refine⟨(fun n a b c=>0<=n/\n<=8/\(⟨a,b,c⟩:wZ)=rnds n.toNat p1/\S3 ⟨a,b,c⟩),(fun n _ _ _=>(8-n).toNat),⟨by omega,by omega,rfl,hs⟩,?_⟩;rintro n a b c ⟨g0,g1,g2,g3⟩;refine⟨fun h=> ?_,fun h=> ?_⟩
 ·have h:=qb h;refine⟨(fun i x y z=>(i=0/\x=a/\y=b/\z=c)∨(i=1/\x=pw ((a+rc n 0)%18446744069414584321) 7/\y=b/\z=c)∨(i=2/\x=pw ((a+rc n 0)%18446744069414584321) 7/\y=pw ((b+rc n 1)%18446744069414584321) 7/\z=c)∨(i=3/\x=pw ((a+rc n 0)%18446744069414584321) 7/\y=pw ((b+rc n 1)%18446744069414584321) 7/\z=pw ((c+rc n 2)%18446744069414584321) 7)),(fun i _ _ _=>(3-i).toNat),(.inl ⟨rfl,rfl,rfl,rfl⟩),?_⟩;intro i x y z hi;have hrc:∀k,U64 (rc n k):=fun k=>by unfold rc;omega
  have hpw:∀k e,0<=pw k e/\pw k e<18446744069414584321:=fun k e=>⟨qbm _ qqo,qbf _ qqo⟩;obtain⟨h3a,h3b,h3c⟩:=g3;refine⟨fun hh=> ?_,fun hh=> ?_⟩
  ·have hh:=qb hh;rcases hi with⟨rfl,rfl,rfl,rfl⟩|⟨rfl,rfl,rfl,rfl⟩|⟨rfl,rfl,rfl,rfl⟩|⟨rfl,_⟩
   ·refine⟨by omega,by omega,⟨rfl,by omega,by omega⟩,⟨rfl,h3a,hrc _⟩,⟨rfl,?_,by omega⟩,by omega,by omega,.inr (.inl ⟨rfl,?_,rfl,rfl⟩),by(dsimp only;decide)⟩
    ·exact⟨qbm _ qqo,Int.lt_trans (qbf _ qqo) qqo⟩
    ·show pw ((x+rc n 0)%18446744069414584321%18446744069414584321) 7=_;rw[qdc _ (qej _)]
   ·refine⟨by omega,by omega,⟨rfl,by omega,by omega⟩,⟨rfl,h3b,hrc _⟩,⟨rfl,?_,by omega⟩,by omega,by omega,.inr (.inr (.inl ⟨rfl,rfl,?_,rfl⟩)),by(dsimp only;decide)⟩
    ·exact⟨qbm _ qqo,Int.lt_trans (qbf _ qqo) qqo⟩
    ·show pw ((y+rc n 1)%18446744069414584321%18446744069414584321) 7=_;rw[qdc _ (qej _)]
   ·refine⟨by omega,by omega,⟨rfl,by omega,by omega⟩,⟨rfl,h3c,hrc _⟩,⟨rfl,?_,by omega⟩,by omega,by omega,.inr (.inr (.inr ⟨rfl,rfl,rfl,?_⟩)),by(dsimp only;decide)⟩
    ·exact⟨qbm _ qqo,Int.lt_trans (qbf _ qqo) qqo⟩
    ·show pw ((z+rc n 2)%18446744069414584321%18446744069414584321) 7=_;rw[qdc _ (qej _)]
   ·omega
  ·have hh:=qc hh;rcases hi with⟨rfl,_⟩|⟨rfl,_⟩|⟨rfl,_⟩|⟨rfl,rfl,rfl,rfl⟩
   ·omega
   ·omega
   ·omega
   ·have e:rnds (n+1).toNat p1=rnd ⟨a,b,c⟩ n:=by rw[show(n+1).toNat=n.toNat+1 by omega];show rnd (rnds n.toNat p1) (n.toNat:Int)=_;rw[<-g2,show(n.toNat:Int)=n by omega]
    have hS:S3 (rnds (n+1).toNat p1):=by rw[e];unfold rnd mixS S3;dsimp only;omega
    have hinc:i64.wrap (n+1)=n+1:=wi _ qqo qqo;rw[hinc];refine⟨⟨rfl,by unfold S3;have:=hpw ((a+rc n 0)%18446744069414584321) 7;have:=hpw ((b+rc n 1)%18446744069414584321) 7;have:=hpw ((c+rc n 2)%18446744069414584321) 7;dsimp only;omega⟩,(?_:0<=n+1/\n+1<=8/\_/\_),(?_:(8-(n+1)).toNat<(8-n).toNat)⟩
    ·refine⟨by omega,by omega,e.symm,?_⟩;rw[e]at hS;exact hS
    ·omega
 ·have h:=qc h;rw[show n=8 by omega]at g2;have g2:(⟨a,b,c⟩:wZ)=permS p1:=g2;rw[<-g2];exact⟨rfl,rfl,rfl⟩
noncomputable def k99:Ct:= .gp 101 yN [.st 6] [] fun(p0 p1:Int) (p2:Li)=>(p0=18446744069414584321/\U64 p1/\Us p2/\p2.length<=1099511627776,(absS p1 p2:wZ),())
theorem k9u:k99.O:=qrv Bs Tryz.func101 (.r 3 (.nd [] (.r 0 (.lp [] ⟨[146],yI,[9],[.one (zqi)],[]⟩ (.r 0 (.nd [] (.r 0 (.jn ⟨[146],yI,[],[],[]⟩ [] .no [] .no)) [] .no)))) [] .no)) (kgf.c (k4v.c (k5w.c c0))) (Q:=∀(p0 p1:Int) (p2:Li),(p0=18446744069414584321/\U64 p1/\Us p2/\p2.length<=1099511627776)->∀r0:wZ,absS p1 p2=r0-> 
((wY.mk p0).P=18446744069414584321/\U64 p1/\U64 (65536:Int))/\let r1:Int:=(p1*(65536:Int)%18446744069414584321)
((wY.mk p0).P=18446744069414584321/\U64 r1/\U64 (u64.wrap (p2.length:Int)))/\let r2:Int:=((r1+(u64.wrap (p2.length:Int)))%18446744069414584321)
(((p2.length:Int)==0)=true->
(p0=18446744069414584321/\S3 (wZ.mk 0 0 r2))/\(permS (wZ.mk 0 0 r2)).a0=r0.a0/\(permS (wZ.mk 0 0 r2)).a1=r0.a1/\(permS (wZ.mk 0 0 r2)).a2=r0.a2)/\
(((p2.length:Int)==0)=false->
∃(I1:Int->Int->Int->Int->Prop) (M1:Int->Int->Int->Int->Nat),I1 0 0 0 r2/\∀b1 f1 i1 k1,(I1 b1 f1 i1 k1->
(decide (b1<(p2.length:Int))=true->
(0<=b1)/\b1<(p2.length:Int)/\((wY.mk p0).P=18446744069414584321/\U64 f1/\U64 (ix p2 b1))/\let r3:Int:=((f1+(ix p2 b1))%18446744069414584321)
∀J1:Int->Int->Int->Prop,(∀(l1 m1 n1:Int),
((p0=18446744069414584321/\S3 (wZ.mk l1 m1 n1))/\I1 (i64.wrap (b1+2)) ((permS (wZ.mk l1 m1 n1)).a0) ((permS (wZ.mk l1 m1 n1)).a1) ((permS (wZ.mk l1 m1 n1)).a2)/\M1 (i64.wrap (b1+2)) ((permS (wZ.mk l1 m1 n1)).a0) ((permS (wZ.mk l1 m1 n1)).a1) ((permS (wZ.mk l1 m1 n1)).a2)<M1 b1 f1 i1 k1)->J1 l1 m1 n1)->
let v4:Bool:=decide ((i64.wrap (b1+1))<(p2.length:Int))
(v4=true->
(0<=i64.wrap (b1+1))/\i64.wrap (b1+1)<(p2.length:Int)/\((wY.mk p0).P=18446744069414584321/\U64 i1/\U64 (ix p2 (i64.wrap (b1+1))))/\let r5:Int:=((i1+(ix p2 (i64.wrap (b1+1))))%18446744069414584321)
J1 r3 r5 k1)/\
(v4=false->
J1 r3 i1 k1))/\
(decide (b1<(p2.length:Int))=false->
f1=r0.a0/\i1=r0.a1/\k1=r0.a2))))<|by
 rintro p0 p1 p2 h _ rfl;obtain⟨hP,h1,h2,h3⟩:=h;subst hP;have hp:∀s:wZ,S3 (permS s):=fun s=>by show S3 (rnd _ _);unfold rnd mixS S3;dsimp only;omega
 have hi:S3 (absI p1 p2):=by unfold absI S3;dsimp only;omega
 have e:u64.wrap (p2.length:Int)=p2.length:=wu _ qqo qqo;have em:(p1*65536%18446744069414584321+(p2.length:Int))%18446744069414584321=(absI p1 p2).a2:=rfl;rw[e];refine⟨⟨rfl,h1,by omega⟩,⟨rfl,by omega,by omega⟩,fun h=> ?_,fun h=> ?_⟩
 ·have h:p2=[]:=by simpa using h
  refine⟨⟨rfl,?_⟩,?_⟩
  ·exact hi
  ·have:permS ⟨0,0,(p1*65536%18446744069414584321+(p2.length:Int))%18446744069414584321⟩=absS p1 p2:=by unfold absS;rw[ql h];rfl
   rw[this];exact⟨rfl,rfl,rfl⟩
 ·have h:p2≠[]:=by simpa using h
  have hv:absL p2 (absI p1 p2)=absS p1 p2:=by unfold absS;rw[qm h]
  rw[em];refine⟨fun i a b c=>0<=i/\i<=p2.length+1/\absL (p2.drop i.toNat) ⟨a,b,c⟩=absS p1 p2/\S3 ⟨a,b,c⟩,fun i _ _ _=>(p2.length+2-i).toNat,⟨by omega,by omega,hv,hi⟩,?_⟩;rintro i a b c ⟨g0,g1,g2,g3⟩;obtain⟨h3a,h3b,h3c⟩:=g3;refine⟨fun hh=> ?_,fun hh=> ?_⟩
  ·have hh:=qb hh;have hx:=h2 _ (ix_mem p2 i g0 hh);refine⟨g0,hh,⟨rfl,h3a,hx⟩,fun J1 j=> ?_⟩;rw[wi (i+1) qqo qqo];have fin:∀x y z,S3 ⟨x,y,z⟩->absL (p2.drop (i+2).toNat) (permS ⟨x,y,z⟩)=absS p1 p2->J1 x y z:=by intro x y z hS hv';refine j _ _ _ ?_;rw[wi (i+2) qqo qqo];exact⟨⟨rfl,hS⟩,⟨by omega,by omega,hv',hp _⟩,by(dsimp only;omega)⟩
   have hdrop:=drop_ix p2 i g0 hh;rw[hdrop]at g2;refine⟨fun h5=> ?_,fun h5=> ?_⟩
   ·have h5:=qb h5;have hy:=h2 _ (ix_mem p2 (i+1) qqo h5);rw[drop_ix p2 (i+1) qqo h5,show i+1+1=i+2 by omega]at g2;exact⟨by omega,h5,⟨rfl,h3b,hy⟩,fin _ _ _ (S3m qqo qqo h3c) g2⟩
   ·have h5:=qc h5;have ed:p2.drop (i+1).toNat=[]:=qbg qqo;have ed2:p2.drop (i+2).toNat=[]:=qbg qqo;rw[ed]at g2;exact fin _ _ _ (S3m qqo h3b h3c) (by rw[ed2];exact g2)
  ·have hh:=qc hh;rw[qbg qqo]at g2;have g2:(⟨a,b,c⟩:wZ)=absS p1 p2:=g2;rw[<-g2];exact⟨rfl,rfl,rfl⟩
noncomputable def kbq:Ct:= .gp 84 yN [yqu] [] fun(p0 p1:Int) (p2:Li)=>(p0=18446744069414584321/\U64 p1/\Us p2/\p2.length<=1099511627776,(hashS p1 p2:Int),())
theorem kc2:kbq.O:=qrv Bs Tryz.func84 .no (k13.c (k9u.c c0)) (Q:=∀(p0 p1:Int) (p2:Li),(p0=18446744069414584321/\U64 p1/\Us p2/\p2.length<=1099511627776)->∀r0:Int,hashS p1 p2=r0-> 
((wY.mk p0).P=18446744069414584321)/\((!true)=true->
0=r0)/\
((!true)=false->
(p0=18446744069414584321/\U64 p1/\Us p2/\p2.length<=1099511627776)/\(absS p1 p2).a0=r0))<|by rintro p0 p1 p2 h _ rfl;obtain⟨hP,h1,h2,h3⟩:=h;subst hP;exact⟨rfl,fun h=>by simp at h,fun _=>⟨⟨rfl,h1,h2,h3⟩,rfl⟩⟩
noncomputable def kb3:Ct:= .gp 85 [.sl yqb] [.sl yqu] [] fun(p0:Li)=>(By p0/\p0.length<=1099511627776,(packS p0:Li),())
theorem kc8:kb3.O:=qrv Bs Tryz.func85 (.r 2 (.nd [] (.r 0 (.lp [.frz 0 [3]] ⟨[1],[.tip yqu],[3,4],[.one (.own 0),.one (zqi)],[]⟩ (.r 0 (.nd [] (.r 1 (.nd [] (.r 0 (.lp [] ⟨[],[],[6,37],[.one (zqu),.one (zqi)],[]⟩ .no)) [] .no)) [] .no)))) [] .no)) c0 (Q:=∀(p0:Li),(By p0/\p0.length<=1099511627776)->∀r0:Li,packS p0=r0-> 
let v1:Int:=i64.wrap ((i64.wrap ((p0.length:Int)+7))-1)
let v2:Int:=i64.wrap (1+(i64.wrap (Int.tdiv v1 7)))
0<=(1:Int)/\(1:Int)<=v2/\(v2.toNat*8<=140737488355328)/\(v2.toNat<=maxLen)/\(0<=(0:Int)/\0<(1:Int))/\(0<=(0:Int)/\0<((List.replicate 1 (0:Int)).length:Int))/\(1=((List.replicate 1 (0:Int)).set (0:Int).toNat (u64.wrap (p0.length:Int))).length)/\((List.replicate 1 (0:Int)).set (0:Int).toNat (u64.wrap (p0.length:Int))=(List.replicate 1 (0:Int)).set (0:Int).toNat (u64.wrap (p0.length:Int)))/\∃(I1:Int->(Li)->Prop) (M1:Int->(Li)->Nat),I1 0 ((List.replicate 1 (0:Int)).set (0:Int).toNat (u64.wrap (p0.length:Int)))/\∀b1 f1,(I1 b1 f1->
(decide (b1<(p0.length:Int))=true->
let v3:Int:=(if(p0.length:Int)<i64.wrap (b1+7)then(p0.length:Int)else i64.wrap (b1+7))
(0<=b1)/\b1<=v3/\v3<=(p0.length:Int)/\let v4:Int:=(((p0.take v3.toNat).drop b1.toNat).length:Int)
∃(I2:Int->Int->Prop) (M2:Int->Int->Nat),I2 0 0/\∀i1 k1,(I2 i1 k1->
(decide (k1<v4)=true->
(0<=k1)/\k1<(((p0.take v3.toNat).drop b1.toNat).length:Int)/\let v5:Int:=u64.wrap (ix ((p0.take v3.toNat).drop b1.toNat) k1)
(0<=i64.wrap (8*k1))/\let v6:Int:=ior .u64 i1 (ishl .u64 v5 (i64.wrap (8*k1)))
I2 v6 (i64.wrap (k1+1))/\M2 v6 (i64.wrap (k1+1))<M2 i1 k1)/\
(decide (k1<v4)=false->
lz f1/\(f1.length+[i1].length)*8<=140737488355328/\f1.length+[i1].length<=maxLen/\(f1++[i1]=f1++[i1])/\I1 (i64.wrap (b1+7)) (f1++[i1])/\M1 (i64.wrap (b1+7)) (f1++[i1])<M1 b1 f1)))/\
(decide (b1<(p0.length:Int))=false->
f1=r0)))<|by
 rintro p0 h _ rfl;obtain⟨hb,hl⟩:=h;refine ?_;rw[wi ((p0.length:Int)+7) qqo qqo,wi ((p0.length:Int)+7-1) qqo qqo]
 try simp only[]
 rw[tdiv_nn _ _ qqo,wi (((p0.length:Int)+7-1)/7) qqo qqo,wi (1+((p0.length:Int)+7-1)/7) qqo qqo,wu (p0.length:Int) qqo qqo];refine⟨by omega,by omega,by omega,by unfold maxLen;omega,by omega,⟨by omega,by decide⟩,by trivial,by trivial,?_⟩;refine⟨(fun i g=>0<=i/\i<=p0.length+7/\g++packN p0.length (p0.drop i.toNat)=packS p0/\(g.length:Int)<=1+i),(fun i _=>(p0.length+7-i).toNat),⟨by omega,by omega,rfl,by show(1:Int)<=_;omega⟩,?_⟩;rintro i g ⟨g0,g1,g2,g3⟩;refine⟨fun h=> ?_,fun h=> ?_⟩
 ·have h:=qb h;have h7:i64.wrap (i+7)=i+7:=wi (i+7) qqo qqo;rw[h7]
  have ev:((p0.take (if(p0.length:Int)<i+7 then(p0.length:Int)else i+7).toNat).drop i.toNat)=(p0.drop i.toNat).take 7:=by
   split
   ·rw[qac,qbu,qi qqm]
   ·rw[List.drop_take,show(i+7).toNat-i.toNat=7 by omega]
  simp only[ev];refine⟨g0,by split<;>omega,by split<;>omega,?_⟩;have hpb:By ((p0.drop i.toNat).take 7):=(hb.drop _).take _;have hpl:((p0.drop i.toNat).take 7).length<=7:=by simp;omega
  have hnext:g++[val ((p0.drop i.toNat).take 7)]++packN p0.length (p0.drop (i+7).toNat)=packS p0:=by
   rw[<-g2,qas];congr 1;have h5:(p0.drop i.toNat).length<=p0.length:=by simp
   have h6:=k4a p0.length (p0.drop i.toNat) h5 (by intro h7;have:=congrArg List.length h7;simp at this;omega);rw[h6,qdu,show i.toNat+7=(i+7).toNat by omega];rfl
  generalize (p0.drop i.toNat).take 7=part at *
  refine⟨(fun n k=>0<=k/\k<=part.length/\n=val (part.take k.toNat)),(fun _ k=>(part.length-k).toNat),⟨by omega,by omega,rfl⟩,?_⟩;rintro n k ⟨k0,k1,rfl⟩;refine⟨fun hk=> ?_,fun hk=> ?_⟩
  ·have hk:=qb hk;have hx:=hpb _ (ix_mem part k k0 hk);have hlen:((part.take k.toNat).length:Int)=k:=by rw[qn];omega
   rw[wi (8*k) qqo qqo,wu (ix part k) qqo qqo,wi (k+1) qqo qqo];have:=ior_val (part.take k.toNat) (ix part k) (hpb.take _) qqo hx;rw[hlen]at this;simp only[this];refine⟨k0,hk,by omega,⟨by omega,by omega,?_⟩,by(first|omega|(dsimp only;omega))⟩;rw[ke part k k0 hk]
  ·have hk:=qc hk;have e1:part.take k.toNat=part:=qi qqo;rw[e1];refine⟨by trivial,by simp only[qay,qbh];omega,by simp only[qay,qbh];unfold maxLen;omega,by trivial,(?_:0<=i+7/\i+7<=p0.length+7/\_/\_),(?_:(p0.length+7-(i+7)).toNat<(p0.length+7-i).toNat)⟩
   ·exact⟨by omega,by omega,hnext,by simp only[qj,qay,qbh];omega⟩
   ·omega
 ·have h:=qc h;rw[qbg qqo]at g2;have:packN p0.length ([]:Li)=[]:=by cases p0.length<;>rfl
  rw[this,qck]at g2;exact g2
noncomputable def k71:Ct:= .gp 66 [yqu,.sl yqb] [yqu] [] fun(p0:Int) (p1:Li)=>(U64 p0/\By p1/\p1.length<=1099511627775,(hashB p0 p1:Int),())
theorem k7v:k71.O:=qrv Bs Tryz.func66 .no (kc8.c (kc2.c c0)) (Q:=∀(p0:Int) (p1:Li),(U64 p0/\By p1/\p1.length<=1099511627775)->∀r0:Int,hashB p0 p1=r0-> 
(By p1/\p1.length<=1099511627776)/\((18446744069414584321:Int)=18446744069414584321/\U64 p0/\Us (packS p1)/\(packS p1).length<=1099511627776)/\(hashS p0 (packS p1))=r0)<|by
 rintro p0 p1 h _ rfl;obtain⟨h1,h2,h3⟩:=h;refine⟨⟨h2,by omega⟩,⟨rfl,h1,?_,?_⟩,rfl⟩
 ·intro x hx;rcases qal.1 hx with rfl|hx
  ·omega
  ·exact ka3 _ _ h2 x hx
 ·have:=k31 p1.length p1;simp only[packS,qay];omega
noncomputable def k7s:Ct:= .tp 64 [.st 2] [.bool] [] fun(p0:wC)=>((vAmounts p0:Bool),())
theorem k8l:k7s.O:=qtv Bs Tryz.func64 .no c0 (Q:=∀(p0:wC),∀r0:Bool,vAmounts p0=r0-> 
(decide (4294967295<p0.wH)=true->
false=r0)/\
(decide (4294967295<p0.wH)=false->
(decide (4294967295<p0.wG)=true->
false=r0)/\
(decide (4294967295<p0.wG)=false->
(decide (4294967295<p0.Fee)=true->
false=r0)/\
(decide (4294967295<p0.Fee)=false->
let v1:Bool:=decide (18446744069414584321<=p0.wI)
(v1=true->
false=r0)/\
(v1=false->
(decide (18446744069414584321<=p0.wM)=true->
false=r0)/\
(decide (18446744069414584321<=p0.wM)=false->
(decide (0<p0.wH)=true->
(p0.wG==0)=r0)/\
(decide (0<p0.wH)=false->
(((p0.wD.length:Int)==0)=true->
false=r0)/\
(((p0.wD.length:Int)==0)=false->
((p0.wM !=0)=true->
false=r0)/\
((p0.wM !=0)=false->
(decide (0<p0.wG)=true->
true=r0)/\
(decide (0<p0.wG)=false->
(p0.wI==0)=r0))))))))))<|by
 rintro p0 _ rfl;refine ?_;unfold vAmounts
 try simp only[]
 repeat' (apply qep<;>intro h)
 all_goals simp only[qaw,decide_eq_false_iff_not,beq_iff_eq,bne_iff_ne,Bool.not_eq_true,beq_eq_false_iff_ne,bne_eq_false_iff_eq,List.isEmpty_iff,Int.natCast_eq_zero,qdw]at *
 all_goals simp[*]
 all_goals grind
noncomputable def k97:Ct:= .tp 62 [.sl yqu] [.bool] [] fun(p0:Li)=>((vMarks p0:Bool),())
theorem ka4:k97.O:=qtv Bs Tryz.func62 (.r 1 (.nd [] (.r 0 (.lp [] ⟨[],[],[10],[.one (zqi)],[]⟩ .no)) [] .no)) (k3p.c c0) (Q:=∀(p0:Li),∀r0:Bool,vMarks p0=r0-> 
(decide (4<(p0.length:Int))=true->
false=r0)/\
(decide (4<(p0.length:Int))=false->
∃(I1:Int->Prop) (M1:Int->Nat),I1 0/\∀b1,(I1 b1->
(decide (b1<(p0.length:Int))=true->
(0<=b1)/\b1<(p0.length:Int)/\let v1:Bool:=decide (18446744069414584321<=(ix p0 b1))
(v1=true->
false=r0)/\
(v1=false->
(0<=b1)/\b1<=(p0.length:Int)/\((p0.take b1.toNat).length<=9223372036854775807)/\let r2:Bool:=(decide ((ix p0 b1)∈(p0.take b1.toNat)))
(r2=true->
false=r0)/\
(r2=false->
I1 (i64.wrap (b1+1))/\M1 (i64.wrap (b1+1))<M1 b1)))/\
(decide (b1<(p0.length:Int))=false->
true=r0))))<|by
 rintro p0 _ rfl;refine⟨fun h=> ?_,fun h=> ?_⟩
 ·have h:=qb h;unfold vMarks;rw[qaf qqo];rfl
 ·have h:=qc h;refine⟨(fun i=>0<=i/\i<=p0.length/\(∀x∈p0.take i.toNat,x<18446744069414584321)/\(p0.take i.toNat).Nodup),(fun i=>(p0.length-i).toNat),⟨by omega,by omega,by simp,by simp⟩,?_⟩;rintro i ⟨g0,g1,g2,g3⟩;refine⟨fun hh=> ?_,fun hh=> ?_⟩
  ·have hh:=qb hh;have hm:=ix_mem p0 i g0 hh;refine⟨g0,hh,fun e=> ?_,fun e=>⟨g0,by omega,by simp;omega,fun e2=> ?_,fun e2=> ?_⟩⟩
   ·have e:=qb e;unfold vMarks;have:p0.all (fun x=>decide (x<18446744069414584321))=false:=qci.2 ⟨_,hm,by simp;omega⟩;rw[this];simp
   ·have e2:=qb e2;unfold vMarks;have:¬p0.Nodup:=by intro hn;rw[<-qcl i.toNat p0,drop_ix p0 i g0 hh]at hn;have:=(qdq.1 hn).2.2 _ e2 _ (List.mem_cons_self ..);exact this rfl
    rw[qaf this];simp
   ·have e:=qc e;have e2:=qc e2;rw[inc i p0.length g0 hh qqo];refine⟨⟨by omega,by omega,?_,?_⟩,by(dsimp only;omega)⟩
    ·rw[ke p0 i g0 hh];intro x hx;rcases qaz.1 hx with hx|hx
     ·exact g2 x hx
     ·have:x=ix p0 i:=by simpa using hx
      omega
    ·rw[ke p0 i g0 hh];refine qdq.2 ⟨g3,by simp,fun a ha b hb=> ?_⟩;have:b=ix p0 i:=by simpa using hb
     rintro rfl;exact e2 (this▸ha)
  ·have hh:=qc hh;rw[qi qqo]at g2 g3;unfold vMarks;have:p0.all (fun x=>decide (x<18446744069414584321))=true:=by simpa using g2
   rw[this,qae g3,qae qqo];rfl
noncomputable def kbo:Ct:= .tp 82 [.st 4] [.bool] [] fun(p0:wAD)=>((vPoint p0.a0 p0.a1:Bool),())
theorem kcb:kbo.O:=qtv Bs Tryz.func82 .no c0 (Q:=∀(p0:wAD),∀r0:Bool,vPoint p0.a0 p0.a1=r0-> 
(decide (p0.a0<18446744069414584321)=true->
(decide (p0.a1<18446744069414584321)=true->
((p0.a0 !=0)=true->
true=r0)/\
((p0.a0 !=0)=false->
(p0.a1 !=0)=r0))/\
(decide (p0.a1<18446744069414584321)=false->
false=r0))/\
(decide (p0.a0<18446744069414584321)=false->
false=r0))<|by rintro p0 _ rfl;refine ?_;unfold vPoint;refine⟨fun h=>⟨fun h1=>⟨fun h2=> ?_,fun h2=> ?_⟩,fun h1=> ?_⟩,fun h=> ?_⟩<;>simp_all<;>omega
noncomputable def kao:Ct:= .tp 63 [.sl (.st 0)] [.bool] [] fun(p0:List wR)=>((vOuts p0:Bool),())
theorem kb5:kao.O:=qtv Bs Tryz.func63 (.r 1 (.nd [] (.r 0 (.lp [] ⟨[],[],[12],[.one (zqi)],[]⟩ (.r 1 (.nd [] (.r 2 (.lp [] ⟨[],[],[34],[.one (zqi)],[]⟩ .no)) [] .no)))) [] .no)) (kcb.c c0) (Q:=∀(p0:List wR),∀r0:Bool,vOuts p0=r0-> 
(decide (4<(p0.length:Int))=true->
false=r0)/\
(decide (4<(p0.length:Int))=false->
∃(I1:Int->Prop) (M1:Int->Nat),I1 0/\∀b1,(I1 b1->
(decide (b1<(p0.length:Int))=true->
(0<=b1)/\b1<(p0.length:Int)/\let v1:Bool:=decide (18446744069414584321<=((ix p0 b1).wW))
(v1=true->
false=r0)/\
(v1=false->
let r2:Bool:=(vPoint (wAD.mk ((ix p0 b1).wP) ((ix p0 b1).wO)).a0 (wAD.mk ((ix p0 b1).wP) ((ix p0 b1).wO)).a1)
((!r2)=true->
false=r0)/\
((!r2)=false->
let v3:Bool:=((((ix p0 b1).wF).length:Int) !=3)
(v3=true->
false=r0)/\
(v3=false->
∃(I2:Int->Prop) (M2:Int->Nat),I2 0/\∀f1,(I2 f1->
let v4:Bool:=decide (f1<(((ix p0 b1).wF).length:Int))
(v4=true->
(0<=f1)/\f1<(((ix p0 b1).wF).length:Int)/\let v5:Bool:=decide (18446744069414584321<=(ix ((ix p0 b1).wF) f1))
(v5=true->
false=r0)/\
(v5=false->
I2 (i64.wrap (f1+1))/\M2 (i64.wrap (f1+1))<M2 f1))/\
(v4=false->
I1 (i64.wrap (b1+1))/\M1 (i64.wrap (b1+1))<M1 b1))))))/\
(decide (b1<(p0.length:Int))=false->
true=r0))))<|by
 rintro p0 _ rfl;refine⟨fun h=> ?_,fun h=> ?_⟩
 ·have h:=qb h;unfold vOuts;rw[qaf qqo];rfl
 ·have h:=qc h;have bad:∀i,0<=i->i<(p0.length:Int)->vOut (ix p0 i)=false->false=vOuts p0:=by intro i h0 h1 hb;unfold vOuts;have:p0.all vOut=false:=qci.2 ⟨_,ix_mem p0 i h0 h1,by simp[hb]⟩;rw[this];simp
  refine⟨(fun i=>0<=i/\i<=p0.length/\∀x∈p0.take i.toNat,vOut x=true),(fun i=>(p0.length-i).toNat),⟨by omega,by omega,by simp⟩,?_⟩;rintro i ⟨g0,g1,g2⟩;refine⟨fun hh=> ?_,fun hh=> ?_⟩
  ·have hh:=qb hh;have bd:=bad i g0 hh;unfold vOut at bd;refine⟨g0,hh,fun e=>bd ?_,fun e=>⟨fun e2=>bd ?_,fun e2=>⟨fun e3=>bd ?_,fun e3=> ?_⟩⟩⟩
   ·have e:=qb e;rw[qaf qqo];rfl
   ·have e2:vPoint (ix p0 i).wP (ix p0 i).wO=false:=by simpa using e2
    simp[e2]
   ·have e3:¬(ix p0 i).wF.length=3:=by
     have:¬((ix p0 i).wF.length:Int)=3:=by simpa using e3
     omega
    simp[e3]
   ·have e:=qc e;have e2:vPoint (ix p0 i).wP (ix p0 i).wO=true:=by simpa using e2
    have e3:(ix p0 i).wF.length=3:=by
     have:((ix p0 i).wF.length:Int)=3:=by simpa using e3
     omega
    refine⟨(fun k=>0<=k/\k<=3/\∀x∈(ix p0 i).wF.take k.toNat,x<18446744069414584321),(fun k=>(3-k).toNat),⟨by omega,by omega,by simp⟩,?_⟩;rintro k ⟨k0,k1,k2⟩;refine⟨fun hk=> ?_,fun hk=> ?_⟩
    ·have hk:=qb hk;refine⟨k0,hk,fun e4=>bd ?_,fun e4=> ?_⟩
     ·have e4:=qb e4;have:(ix p0 i).wF.all (fun n=>decide (n<18446744069414584321))=false:=qci.2 ⟨_,ix_mem _ k k0 hk,by simp;omega⟩;rw[this];simp
     ·have e4:=qc e4;rw[inc k 3 k0 qqo qqo];refine⟨⟨by omega,by omega,?_⟩,by(dsimp only;omega)⟩;rw[ke _ k k0 hk];intro x hx;rcases qaz.1 hx with hx|hx
      ·exact k2 x hx
      ·have:x=ix (ix p0 i).wF k:=by simpa using hx
       omega
    ·have hk:=qc hk;rw[qi qqo]at k2;have hv:vOut (ix p0 i)=true:=(k78 _).2 ⟨by omega,e2,e3,k2⟩;have hi:=inc i p0.length g0 hh qqo;rw[hi]
     have nxt:(0<=i+1/\i+1<=p0.length/\∀x∈p0.take (i+1).toNat,vOut x=true)/\(p0.length-(i+1)).toNat<(p0.length-i).toNat:=by
      refine⟨⟨by omega,by omega,?_⟩,by(first|omega|(dsimp only;omega))⟩;rw[ke p0 i g0 hh];intro x hx;rcases qaz.1 hx with hx|hx
      ·exact g2 x hx
      ·have:x=ix p0 i:=by simpa using hx
       rw[this];exact hv
     exact nxt
  ·have hh:=qc hh;rw[qi qqo]at g2;unfold vOuts;have:p0.all vOut=true:=by simpa using g2
   rw[this,qae qqo];rfl
noncomputable def kgg:Ct:= .tp 43 [.st 2] [yqi] [] fun(p0:wC)=>((validE p0:Int),())
theorem k5y:kgg.O:=qtv Bs Tryz.func43 .no (ka4.c (kb5.c (k8l.c c0))) (Q:=∀(p0:wC),∀r0:Int,validE p0=r0-> 
((!(vMarks p0.wD))=true->
1=r0)/\
((!(vMarks p0.wD))=false->
((!(vOuts p0.wB))=true->
1=r0)/\
((!(vOuts p0.wB))=false->
((!(vAmounts p0))=true->
1=r0)/\
((!(vAmounts p0))=false->
let v1:Bool:=decide (18446744069414584321<=p0.wN)
(v1=true->
1=r0)/\
(v1=false->
(decide (p0.wJ<0)=true->
1=r0)/\
(decide (p0.wJ<0)=false->
(decide (1048576<p0.wJ)=true->
1=r0)/\
(decide (1048576<p0.wJ)=false->
let v2:Bool:=decide (1048576<(p0.wK.length:Int))
(v2=true->
3=r0)/\
(v2=false->
0=r0))))))))<|by rintro p0 _ rfl;refine ?_;unfold validE vRest;grind
noncomputable def k64:Ct:= .g (gk 109 [.one (.own 0),.one (zqu),.one (zqi)] [.tip yqb] (.one (.one (.own 0)))) [yqu,yqi,.sl yqb] [.sl yqb] [] fun(p1 p2:Int) (w0:Li)=>(U64 p1/\(0<=p2/\p2<=8)/\w0.length<=137438953472,(w0++dig p2.toNat p1:Li),())
theorem k1m:k64.O:=prv Bs Tryz.func109 (.r 0 (.nd [] (.r 0 (.lp [] ⟨[0],[.tip yqb],[0,1,8],[.one (.own 0),.one (zqu),.one (zqi)],[]⟩ .no)) [] .no)) c0 (Q:=∀(p1 p2:Int) (w0:Li),(U64 p1/\(0<=p2/\p2<=8)/\w0.length<=137438953472)->∀e0:Li,(w0++dig p2.toNat p1)=e0-> 
(w0=w0)/\∃(I1:Int->Int->(Li)->Prop) (M1:Int->Int->(Li)->Nat),I1 p1 0 w0/\∀b1 f1 i1,(I1 b1 f1 i1->
(decide (f1<p2)=true->
lz i1/\(i1.length+[IntKind.u8.wrap b1].length)*1<=140737488355328/\i1.length+[IntKind.u8.wrap b1].length<=maxLen/\(i1++[IntKind.u8.wrap b1]=i1++[IntKind.u8.wrap b1])/\I1 (ishr .u64 b1 8) (i64.wrap (f1+1)) (i1++[IntKind.u8.wrap b1])/\M1 (ishr .u64 b1 8) (i64.wrap (f1+1)) (i1++[IntKind.u8.wrap b1])<M1 b1 f1 i1)/\
(decide (f1<p2)=false->
(i1=i1)/\i1=e0)))<|by
 rintro p1 p2 w0 h _ rfl;obtain⟨h1,h2,h3⟩:=h;refine⟨rfl,⟨(fun n i g=>0<=i/\i<=p2/\U64 n/\n=p1/256^i.toNat/\g=w0++dig i.toNat p1),(fun _ i _=>(p2-i).toNat),⟨by omega,by omega,h1,by simp,by simp[dig]⟩,?_⟩⟩;rintro n i g ⟨g0,g1,g2,g3,rfl⟩;refine⟨fun h=> ?_,fun h=> ?_⟩
 ·have h:=qb h;rw[inc i p2 g0 h qqo,ishr8,u8w];refine⟨rfl,?_,?_,rfl,⟨by omega,by omega,⟨by omega,by omega⟩,?_,?_⟩,by(dsimp only;omega)⟩
  ·simp;omega
  ·simp;unfold maxLen;omega
  ·rw[g3,show(i+1).toNat=i.toNat+1 by omega,qdv (qdj (k26 _)),qcn]
  ·rw[show(i+1).toNat=i.toNat+1 by omega,k6l,qas,g3]
 ·have h:=qc h;exact⟨rfl,by rw[show i=p2 by omega]⟩
noncomputable def k63:Ct:= .g (gk 111 [.one (.own 0),.one (zqi)] [.tip yqb] (.one (.one (.own 0)))) [yqi,.sl yqb] [.sl yqb] [] fun(p1:Int) (w0:Li)=>((-9223372036854775808<=p1/\p1<=9223372036854775807)/\w0.length<=137438953472,(w0++dig 4 (len4 p1):Li),())
theorem k1h:k63.O:=prv Bs Tryz.func111 (.r 0 (.jn ⟨[],[],[1],[.one (zqi)],[]⟩ [] .no [] .no)) (k1m.c c0) (Q:=∀(p1:Int) (w0:Li),((-9223372036854775808<=p1/\p1<=9223372036854775807)/\w0.length<=137438953472)->∀e0:Li,(w0++dig 4 (len4 p1))=e0-> 
∀J1:Int->Prop,(∀(b1:Int),
((w0=w0)/\(U64 (u64.wrap b1)/\(0<=(4:Int)/\(4:Int)<=8)/\w0.length<=137438953472)/\let r1:Li:=(w0++dig (4:Int).toNat (u64.wrap b1))
(r1=r1)/\r1=e0)->J1 b1)->
(decide (p1<0)=true->
J1 0)/\
(decide (p1<0)=false->
(decide (4294967295<p1)=true->
J1 0)/\
(decide (4294967295<p1)=false->
J1 p1)))<|by
 rintro p1 w0 h _ rfl;obtain⟨h1,h2⟩:=h;intro J1 j1;have j:∀n,0<=n->n<=4294967295->len4 p1=n->J1 n:=by intro n h0 h1 e;refine j1 _ ?_;rw[wu n qqo qqo,e];exact⟨rfl,⟨⟨h0,by omega⟩,by omega,h2⟩,by trivial,rfl⟩
 refine⟨fun h=>j 0 qqo qqo ?_,fun h=>⟨fun h' =>j 0 qqo qqo ?_,fun h' =>j p1 ?_ ?_ ?_⟩⟩
 ·have h:=qb h;exact ql (.inl h)
 ·have h' :=qb h';exact ql (.inr h')
 ·have h:=qc h;omega
 ·have h' :=qc h';omega
 ·have h:=qc h;have h' :=qc h';exact len4_in ⟨by omega,by(first|omega|(dsimp only;omega))⟩
noncomputable def kbg:Ct:= .g ⟨110,[.one (.d (.sl yqb)),.one (zqi)],[],(.one (.one (.own 0))),[.tip yqb],false⟩ [.sl yqb,yqi] [.sl yqb] [] fun(p0:Li) (p1:Int)=>(0<=p1/\p0.length+p1<=140737488355328,p0,())
theorem k28:kbg.O:=prv Bs Tryz.func110 (.r 3 (.rt [.frz 0 [4]])) c0 (Q:=∀(p0:Li) (p1:Int),(0<=p1/\p0.length+p1<=140737488355328)->∀e0:Li,p0=e0-> 
let v1:Int:=i64.wrap ((p0.length:Int)+p1)
0<=(p0.length:Int)/\(p0.length:Int)<=v1/\(v1.toNat*1<=140737488355328)/\(v1.toNat<=maxLen)/\(p0.length:Int).toNat=(List.replicate ((p0.length:Int).toNat) (0:Int)).length/\let v2:Int:=((min p0.length (List.replicate ((p0.length:Int).toNat) (0:Int)).length:Nat):Int)
((p0.length:Int).toNat=(rowOver (List.replicate ((p0.length:Int).toNat) (0:Int)) p0 (List.replicate ((p0.length:Int).toNat) (0:Int)).length).length)/\(rowOver (List.replicate ((p0.length:Int).toNat) (0:Int)) p0 (List.replicate ((p0.length:Int).toNat) (0:Int)).length=rowOver (List.replicate ((p0.length:Int).toNat) (0:Int)) p0 (List.replicate ((p0.length:Int).toNat) (0:Int)).length)/\rowOver (List.replicate ((p0.length:Int).toNat) (0:Int)) p0 (List.replicate ((p0.length:Int).toNat) (0:Int)).length=e0)<|by rintro p0 p1 h _ rfl;obtain⟨h1,h2⟩:=h;refine ?_;rw[wi _ qqo qqo];have e:rowOver (List.replicate ((p0.length:Int).toNat) (0:Int)) p0 (List.replicate ((p0.length:Int).toNat) (0:Int)).length=p0:=kil _ _ qqs;simp only[e];exact⟨by omega,by omega,by omega,by unfold maxLen;omega,by simp,by omega,by trivial,by trivial⟩
noncomputable def kc5:Ct:= .gp 99 [.sl yqb,.sl yqb] [.sl yqb] [] fun(p0 p1:Li)=>(p0.length<=68719476736/\p1.length<=4294967295,(p0++encB p1:Li),())
theorem ke2:kc5.O:=qrv Bs Tryz.func99 .no (k28.c (k1h.c c0)) (Q:=∀(p0 p1:Li),(p0.length<=68719476736/\p1.length<=4294967295)->∀r0:Li,(p0++encB p1)=r0-> 
(0<=(i64.wrap (4+(p1.length:Int)))/\p0.length+(i64.wrap (4+(p1.length:Int)))<=140737488355328)/\(p0=p0)/\((-9223372036854775808<=(p1.length:Int)/\(p1.length:Int)<=9223372036854775807)/\p0.length<=137438953472)/\lz (p0++dig 4 (len4 (p1.length:Int)))/\((p0++dig 4 (len4 (p1.length:Int))).length+p1.length)*1<=140737488355328/\(p0++dig 4 (len4 (p1.length:Int))).length+p1.length<=maxLen/\let v1:Li:=(p0++dig 4 (len4 (p1.length:Int)))++p1
v1=r0)<|by
 rintro p0 p1 h _ rfl;obtain⟨h1,h2⟩:=h;refine ?_;rw[wi (4+(p1.length:Int)) qqo qqo];refine⟨⟨by omega,by omega⟩,by trivial,⟨by omega,by omega⟩,by trivial,?_,?_,?_⟩
 ·simp;omega
 ·simp;unfold maxLen;omega
 ·rw[qas];rfl
noncomputable def kh9:Ct:= .gp 98 [.sl yqb,yqi] [.sl yqb] [] fun(p0:Li) (p1:Int)=>((-9223372036854775808<=p1/\p1<=9223372036854775807)/\p0.length<=137438953472,(p0++dig 4 (len4 p1):Li),())
theorem kit:kh9.O:=qrv Bs Tryz.func98 .no (k28.c (k1h.c c0)) (Q:=∀(p0:Li) (p1:Int),((-9223372036854775808<=p1/\p1<=9223372036854775807)/\p0.length<=137438953472)->∀r0:Li,(p0++dig 4 (len4 p1))=r0-> 
(0<=(4:Int)/\p0.length+(4:Int)<=140737488355328)/\(p0=p0)/\((-9223372036854775808<=p1/\p1<=9223372036854775807)/\p0.length<=137438953472)/\(p0++dig 4 (len4 p1))=r0)<|by rintro p0 p1 h _ rfl;obtain⟨h1,h2⟩:=h;exact⟨⟨by omega,by omega⟩,by trivial,⟨h1,h2⟩,rfl⟩
noncomputable def ker:Ct:= .gp 97 [.sl yqb,.sl yqu] [.sl yqb] [] fun(p0 p1:Li)=>(Us p1/\p0.length<=68719476736/\p1.length<=4294967295,(p0++encL p1:Li),())
theorem kgr:ker.O:=qrv Bs Tryz.func97 (.r 1 (.nd [] (.r 0 (.lp [] ⟨[0],[.tip yqb],[5,19],[.one (.own 0),.one (zqi)],[]⟩ .no)) [] .no)) (k28.c (k1h.c (k1m.c c0))) (Q:=∀(p0 p1:Li),(Us p1/\p0.length<=68719476736/\p1.length<=4294967295)->∀r0:Li,(p0++encL p1)=r0-> 
let v1:Int:=i64.wrap (4+(i64.wrap (8*(p1.length:Int))))
(0<=v1/\p0.length+v1<=140737488355328)/\(p0=p0)/\((-9223372036854775808<=(p1.length:Int)/\(p1.length:Int)<=9223372036854775807)/\p0.length<=137438953472)/\((p0++dig 4 (len4 (p1.length:Int)))=(p0++dig 4 (len4 (p1.length:Int))))/\∃(I1:Int->(Li)->Prop) (M1:Int->(Li)->Nat),I1 0 (p0++dig 4 (len4 (p1.length:Int)))/\∀b1 f1,(I1 b1 f1->
(decide (b1<(p1.length:Int))=true->
(0<=b1)/\b1<(p1.length:Int)/\(f1=f1)/\(U64 (ix p1 b1)/\(0<=(8:Int)/\(8:Int)<=8)/\f1.length<=137438953472)/\((f1++dig (8:Int).toNat (ix p1 b1))=(f1++dig (8:Int).toNat (ix p1 b1)))/\I1 (i64.wrap (b1+1)) (f1++dig (8:Int).toNat (ix p1 b1))/\M1 (i64.wrap (b1+1)) (f1++dig (8:Int).toNat (ix p1 b1))<M1 b1 f1)/\
(decide (b1<(p1.length:Int))=false->
f1=r0)))<|by
 rintro p0 p1 h _ rfl;obtain⟨h1,h2,h3⟩:=h;refine ?_;rw[wi (8*(p1.length:Int)) qqo qqo,wi (4+8*(p1.length:Int)) qqo qqo];refine⟨⟨by omega,by omega⟩,by trivial,⟨by omega,by omega⟩,by trivial,?_⟩;refine⟨(fun i g=>0<=i/\i<=p1.length/\g=p0++dig 4 (len4 p1.length)++(p1.take i.toNat).flatMap (dig 8)),(fun i _=>(p1.length-i).toNat),⟨by omega,by omega,by simp⟩,?_⟩;rintro i g ⟨g0,g1,rfl⟩;refine⟨fun h=> ?_,fun h=> ?_⟩
 ·have h:=qb h;have hx:=h1 _ (ix_mem p1 i g0 h);rw[inc i p1.length g0 h qqo];refine⟨g0,h,by trivial,⟨hx,by omega,?_⟩,by trivial,⟨by omega,by omega,?_⟩,by(dsimp only;omega)⟩
  ·simp only[qj,kf,k1y,qn];omega
  ·rw[ke p1 i g0 h,qbp,qas];simp
 ·have h:=qc h;rw[qi qqo,qas];rfl
noncomputable def kef:Ct:= .gp 96 [.sl yqb,yqu] [.sl yqb] [] fun(p0:Li) (p1:Int)=>(U64 p1/\p0.length<=137438953472,(p0++dig 8 p1:Li),())
theorem khe:kef.O:=qrv Bs Tryz.func96 .no (k28.c (k1m.c c0)) (Q:=∀(p0:Li) (p1:Int),(U64 p1/\p0.length<=137438953472)->∀r0:Li,(p0++dig 8 p1)=r0-> 
(0<=(8:Int)/\p0.length+(8:Int)<=140737488355328)/\(p0=p0)/\(U64 p1/\(0<=(8:Int)/\(8:Int)<=8)/\p0.length<=137438953472)/\(p0++dig (8:Int).toNat p1)=r0)<|by rintro p0 p1 h _ rfl;obtain⟨h1,h2⟩:=h;refine⟨⟨by omega,by omega⟩,by trivial,⟨h1,by omega,h2⟩,rfl⟩
noncomputable def kev:Ct:= .gp 83 [.st 2,.sl yqb] [.sl yqb] [] fun(p0:wC) (p1:Li)=>(TR p0/\TL p0/\p0.wB.length<=1048576/\(∀x∈p0.wB,x.wF.length<=1024)/\p1.length<=4294967295,(encT p0 p1:Li),())
theorem ki2:kev.O:=qrv Bs Tryz.func83 (.r 3 (.nd [] (.r 0 (.lp [] ⟨[],[],[5,23],[.one (.d (.sl yqb)),.one (zqi)],[]⟩ .no)) [] .no)) (khe.c (kgr.c (kit.c (ke2.c c0)))) (Q:=∀(p0:wC) (p1:Li),(TR p0/\TL p0/\p0.wB.length<=1048576/\(∀x∈p0.wB,x.wF.length<=1024)/\p1.length<=4294967295)->∀r0:Li,encT p0 p1=r0-> 
(U64 p0.wN/\([]:Li).length<=137438953472)/\(Us p0.wD/\(([]:Li)++dig 8 p0.wN).length<=68719476736/\p0.wD.length<=4294967295)/\let r1:Li:=((([]:Li)++dig 8 p0.wN)++encL p0.wD)
((-9223372036854775808<=(p0.wB.length:Int)/\(p0.wB.length:Int)<=9223372036854775807)/\r1.length<=137438953472)/\let r2:Li:=(r1++dig 4 (len4 (p0.wB.length:Int)))
∃(I1:(Li)->Int->Prop) (M1:(Li)->Int->Nat),I1 r2 0/\∀b1 f1,(I1 b1 f1->
(decide (f1<(p0.wB.length:Int))=true->
(0<=f1)/\f1<(p0.wB.length:Int)/\(U64 ((ix p0.wB f1).wW)/\b1.length<=137438953472)/\(U64 ((ix p0.wB f1).wP)/\(b1++dig 8 ((ix p0.wB f1).wW)).length<=137438953472)/\let r3:Li:=((b1++dig 8 ((ix p0.wB f1).wW))++dig 8 ((ix p0.wB f1).wP))
(U64 ((ix p0.wB f1).wO)/\r3.length<=137438953472)/\(Us ((ix p0.wB f1).wF)/\(r3++dig 8 ((ix p0.wB f1).wO)).length<=68719476736/\((ix p0.wB f1).wF).length<=4294967295)/\let r4:Li:=((r3++dig 8 ((ix p0.wB f1).wO))++encL ((ix p0.wB f1).wF))
I1 r4 (i64.wrap (f1+1))/\M1 r4 (i64.wrap (f1+1))<M1 b1 f1)/\
(decide (f1<(p0.wB.length:Int))=false->
(U64 p0.wH/\b1.length<=137438953472)/\(U64 p0.wG/\(b1++dig 8 p0.wH).length<=137438953472)/\let r5:Li:=((b1++dig 8 p0.wH)++dig 8 p0.wG)
(U64 p0.Fee/\r5.length<=137438953472)/\(U64 p0.wI/\(r5++dig 8 p0.Fee).length<=137438953472)/\let r6:Li:=((r5++dig 8 p0.Fee)++dig 8 p0.wI)
(U64 p0.wM/\r6.length<=137438953472)/\((-9223372036854775808<=p0.wJ/\p0.wJ<=9223372036854775807)/\(r6++dig 8 p0.wM).length<=137438953472)/\let r7:Li:=((r6++dig 8 p0.wM)++dig 4 (len4 p0.wJ))
(r7.length<=68719476736/\p1.length<=4294967295)/\(r7++encB p1)=r0)))<|by
 rintro p0 p1 h _ rfl;obtain⟨hr,hl,ho,hc,hp⟩:=h;have hm:=hl.m;have hol:=k1d;refine⟨⟨hr.a,by simp⟩,⟨hr.m,by simp,hm⟩,⟨by omega,by simp;omega⟩,?_⟩;refine⟨(fun b i=>0<=i/\i<=p0.wB.length/\b=dig 8 p0.wN++encL p0.wD++dig 4 (len4 p0.wB.length)++(p0.wB.take i.toNat).flatMap encO),(fun _ i=>(p0.wB.length-i).toNat),⟨by omega,by omega,by simp⟩,?_⟩;rintro b i ⟨g0,g1,rfl⟩;have hb:=k1d (p0.wB.take i.toNat) 1024 (fun x hx=>hc x (qbz hx));rw[qn]at hb
 have hb:((p0.wB.take i.toNat).flatMap encO).length<=8700000000:=by
  refine qbl hb ?_;have:min i.toNat p0.wB.length<=1048576:=by omega
  have:=Nat.mul_le_mul_left (28+8*1024) this;omega
 refine⟨fun h=> ?_,fun h=> ?_⟩
 ·have h:=qb h;have hx:=hr.o _ (ix_mem p0.wB i g0 h);have hxc:=hc _ (ix_mem p0.wB i g0 h);rw[inc i p0.wB.length g0 h qqo];refine⟨g0,h,⟨hx.c,?_⟩,⟨hx.p0,?_⟩,⟨hx.p1,?_⟩,⟨hx.ci,?_,by omega⟩,⟨by omega,by omega,?_⟩,by(dsimp only;omega)⟩
  ·simp only[qj,kf,kq];omega
  ·simp only[qj,kf,kq];omega
  ·simp only[qj,kf,kq];omega
  ·simp only[qj,kf,kq];omega
  ·rw[ke p0.wB i g0 h,qbp];simp[encO,qas]
 ·have h:=qc h;rw[qi qqo]at hb ⊢;refine⟨⟨hr.d,?_⟩,⟨hr.w,?_⟩,⟨hr.f,?_⟩,⟨hr.ac,?_⟩,⟨hr.n,?_⟩,⟨hr.e,?_⟩,⟨?_,hp⟩,rfl⟩<;>simp only[qj,kf,kq]<;>omega
noncomputable def kep:Ct:= .gp 65 [.st 2] [.sl yqb,yqi] [] fun(p0:wC)=>(TR p0,((if validE p0=0 then encT p0 p0.wK else []):Li),(validE p0:Int),())
theorem k8s:kep.O:=qrv Bs Tryz.func65 .no (k5y.c (ki2.c c0)) (Q:=∀(p0:wC),(TR p0)->∀r0:Li,((if validE p0=0 then encT p0 p0.wK else []):Li)=r0->∀r1:Int,validE p0=r1-> 
(((validE p0) !=0)=true->
([]:Li)=r0/\(validE p0)=r1)/\
(((validE p0) !=0)=false->
(TR p0/\TL p0/\p0.wB.length<=1048576/\(∀x∈p0.wB,x.wF.length<=1024)/\p0.wK.length<=4294967295)/\(encT p0 p0.wK)=r0/\0=r1))<|by
 rintro p0 h _ rfl _ rfl;refine⟨fun e=> ?_,fun e=> ?_⟩
 ·have e:validE p0≠0:=by simpa using e
  rw[qm e];exact⟨rfl,rfl⟩
 ·have e:validE p0=0:=by simpa using e
  have v:=(k3j p0).1 e;rw[ql e,e];exact⟨⟨h,v.tl,by have:=v.ol;omega,fun x hx=>by have:=(v.o x hx).l;omega,v.tl.p⟩,rfl,rfl⟩
noncomputable def kle:Ct:= .gp 44 [.st 2] [yqu] [] fun(p0:wC)=>(TR p0,(idS p0:Int),())
theorem kfk:kle.O:=qrv Bs Tryz.func44 .no (k8s.c (k7v.c c0)) (Q:=∀(p0:wC),(TR p0)->∀r0:Int,idS p0=r0-> 
(TR p0)/\let r1:Li:=(if validE p0=0 then encT p0 p0.wK else [])
(((validE p0) !=0)=true->
0=r0)/\
(((validE p0) !=0)=false->
(U64 (14:Int)/\By r1/\r1.length<=1099511627775)/\(hashB (14:Int) r1)=r0))<|by
 rintro p0 h _ rfl;refine⟨h,?_⟩;unfold idS;refine⟨fun e=> ?_,fun e=> ?_⟩
 ·have e:validE p0≠0:=by simpa using e
  rw[qm e]
 ·have e:validE p0=0:=by simpa using e
  have v:=(k3j p0).1 e;rw[ql e,ql e];exact⟨⟨by omega,encT_by h.p,by have:=v.enc_len p0.wK;have:=v.pl;omega⟩,rfl⟩
noncomputable def keu:Ct:= .gp 45 [.st 2] [yqi] [] fun(p0:wC)=>(TR p0,(weightS p0:Int),())
theorem k80:keu.O:=qrv Bs Tryz.func45 .no (k8s.c c0) (Q:=∀(p0:wC),(TR p0)->∀r0:Int,weightS p0=r0-> 
(TR p0)/\let r1:Li:=(if validE p0=0 then encT p0 p0.wK else [])
(((validE p0) !=0)=true->
0=r0)/\
(((validE p0) !=0)=false->
(r1.length:Int)=r0))<|by
 rintro p0 h _ rfl;refine⟨h,?_⟩;unfold weightS;refine⟨fun e=> ?_,fun e=> ?_⟩
 ·have e:validE p0≠0:=by simpa using e
  rw[qm e]
 ·have e:validE p0=0:=by simpa using e
  rw[ql e,ql e]
noncomputable def k7u:Ct:= .gp 27 [.st 2] [.st 3,yqi] [] fun(p0:wC)=>(TR p0,((if validE p0=0 then eOf p0 else default):wA),(validE p0:Int),())
theorem k3v:k7u.O:=qrv Bs Tryz.func27 .no (k5y.c (kfk.c (k80.c c0))) (Q:=∀(p0:wC),(TR p0)->∀r0:wA,((if validE p0=0 then eOf p0 else default):wA)=r0->∀r1:Int,validE p0=r1-> 
(((validE p0) !=0)=true->
0=r0.wm/\([]:Li)=r0.wQ/\([]:List wR)=r0.wy/\0=r0.wS/\0=r0.wd/\0=r0.wU/\0=r0.wT/\0=r0.wX/\0=r0.wn/\([]:Li)=r0.wq/\0=r0.id/\0=r0.weight/\(validE p0)=r1)/\
(((validE p0) !=0)=false->
(TR p0)/\(TR p0)/\p0.wN=r0.wm/\p0.wD=r0.wQ/\p0.wB=r0.wy/\p0.wH=r0.wS/\p0.wG=r0.wd/\p0.Fee=r0.wU/\p0.wI=r0.wT/\p0.wM=r0.wX/\p0.wJ=r0.wn/\p0.wK=r0.wq/\(idS p0)=r0.id/\(weightS p0)=r0.weight/\0=r1))<|by
 rintro p0 h _ rfl _ rfl;refine⟨fun e=> ?_,fun e=> ?_⟩
 ·have e:¬validE p0=0:=by simpa using e
  rw[qm e];exact(by repeat' first|apply qep|exact rfl)
 ·have e:validE p0=0:=by simpa using e
  rw[ql e];exact⟨h,h,rfl,rfl,rfl,rfl,rfl,rfl,rfl,rfl,rfl,rfl,rfl,rfl,e.symm⟩
noncomputable def k5m:Ct:= .g ⟨31,[.one (.row 0)],[.vec (.st 3)],(.one (.one (.row 1))),[.vec (.st 3),.vec (.st 3)],false⟩ [.sl (.st 3)] [.sl (.st 3),.sl (.st 3)] [] fun(w0:List wA)=>(w0.length<=4294967295,w0,w0,())
theorem k2s:k5m.O:=prx Bs [5,7] Tryz.func31 (.r 0 (.nd [] (.r 0 (.nd [] (.r 0 (.rt [.rnil 2 (.st 3)])) [] .no)) [] .no)) x0 c0 (Q:=∀(w0:List wA),(w0.length<=4294967295)->∀e0:List wA,w0=e0->∀e1:List wA,w0=e1-> 
∀z4:Bool,(z4=true->w0.length=0)->(z4=true->
(0=([]:List wA).length)/\w0=e0/\([]:List wA)=e1)/\
(z4=false->
lz ([]:List wA)/\lz w0/\(([]:List wA).length+w0.length)*144<=140737488355328/\([]:List wA).length+w0.length<=maxLen/\lz (([]:List wA)++w0)/\w0=e0/\([]:List wA)++w0=e1))<|by
 rintro w0 h _ rfl _ rfl;intro z hz;refine⟨fun e=> ?_,fun e=> ?_⟩
 ·have:=qdw.1 (hz e);subst this;exact⟨rfl,rfl,rfl⟩
 ·refine⟨rfl,rfl,?_,?_,rfl,rfl,rfl⟩<;>simp only[qbh]<;>(try unfold maxLen)<;>omega
noncomputable def k4t:Ct:= .g ⟨31,[.one (.view 0)],[.vec (.st 3)],(.one (.one (.row 1))),[.vec (.st 3),.vec (.st 3)],false⟩ yL [.sl (.st 3),.sl (.st 3)] [] fun(p0o p0n:Int) (w0:List wA)=>(p0o.toNat=0/\p0n.toNat<=w0.length/\w0.length<=4294967295,w0,(w0.take p0n.toNat:List wA),())
theorem k2c:k4t.O:=prx Bs [5,7] Tryz.func31 (.r 0 (.nd [] (.r 0 (.nd [] (.r 0 (.rt [.rnil 2 (.st 3)])) [] .no)) [] .no)) x0 c0 (Q:=∀(p0o p0n:Int) (w0:List wA),(p0o.toNat=0/\p0n.toNat<=w0.length/\w0.length<=4294967295)->∀e0:List wA,w0=e0->∀e1:List wA,w0.take p0n.toNat=e1-> 
∀z4:Bool,(z4=true->p0n.toNat=0)->(z4=true->
(0=([]:List wA).length)/\w0=e0/\([]:List wA)=e1)/\
(z4=false->
lz ([]:List wA)/\p0o.toNat+p0n.toNat<=w0.length/\(([]:List wA).length+((w0.drop p0o.toNat).take p0n.toNat).length)*144<=140737488355328/\([]:List wA).length+((w0.drop p0o.toNat).take p0n.toNat).length<=maxLen/\let v5:List wA:=([]:List wA)++((w0.drop p0o.toNat).take p0n.toNat)
lz v5/\w0=e0/\v5=e1))<|by
 rintro p0o p0n w0 h _ rfl _ rfl;obtain⟨h1,h2,h3⟩:=h;intro z hz;rw[h1];refine⟨fun e=> ?_,fun e=> ?_⟩
 ·rw[hz e];exact⟨rfl,rfl,rfl⟩
 ·refine⟨rfl,by omega,?_,?_,rfl,rfl,rfl⟩<;>simp only[qbh,List.drop_zero,qn]<;>(try unfold maxLen)<;>omega
noncomputable def kgw:Ct:= .gp 51 [yqu] [yqi] [] fun(p0:Int)=>(U64 p0,(len64 p0:Int),())
theorem k9i:kgw.O:=qrv Bs Tryz.func51 .no (k7q.c c0) (Q:=∀(p0:Int),(U64 p0)->∀r0:Int,len64 p0=r0-> 
(U64 p0)/\(len64 p0)=r0)<|by rintro p0 h _ rfl;exact⟨h,rfl⟩
noncomputable def ke7:Ct:= .tp 78 [yqu] [.bool] [] fun(p0:Int)=>(false,())
theorem kfz:ke7.O:=qtv Bs Tryz.func78 .no c0 (Q:=∀(p0:Int),∀r0:Bool,(false:Bool)=r0-> 
(p0 !=p0)=r0)<|by rintro p0 _ rfl;simp
noncomputable def kbe:Ct:= .tp 52 [yqu,yqu] [yqi] [] fun(p0 p1:Int)=>((cmp3 p0 p1:Int),())
theorem k69:kbe.O:=qtv Bs Tryz.func52 .no (kfz.c c0) (Q:=∀(p0 p1:Int),∀r0:Int,cmp3 p0 p1=r0-> 
(false=true->
(false=true->
0=r0)/\
(false=false->
(-1)=r0))/\
(false=false->
(false=true->
1=r0)/\
(false=false->
(decide (p0<p1)=true->
(-1)=r0)/\
(decide (p0<p1)=false->
(decide (p1<p0)=true->
1=r0)/\
(decide (p1<p0)=false->
0=r0)))))<|by rintro p0 p1 _ rfl;refine⟨fun e=>(by cases e),fun _=>⟨fun e=>(by cases e),fun _=> ?_⟩⟩;simp only[qaw,decide_eq_false_iff_not];unfold cmp3;exact⟨fun h=>by simp[h],fun h=>⟨fun h2=>by simp[h,h2],fun h2=>by simp[h,h2]⟩⟩
noncomputable def ka8:Ct:= .g (gk 33 [.one (.any),.agg yA,.agg yA] [] (.one (.one (zqi)))) [.st 3,.st 3] [yqi] [] fun(p1 p2:wA)=>(GE p1/\GE p2,(cmpG p1 p2:Int),())
theorem ku:ka8.O:=prv Bs Tryz.func33 .no (k69.c c0) (Q:=∀(p1 p2:wA),(GE p1/\GE p2)->∀r0:Int,cmpG p1 p2=r0-> 
let v1:Int:=u64.wrap (p2.wU*(u64.wrap p1.weight))
let v2:Int:=u64.wrap (p1.wU*(u64.wrap p2.weight))
(((cmp3 v1 v2) !=0)=true->
(cmp3 v1 v2)=r0)/\
(((cmp3 v1 v2) !=0)=false->
(cmp3 p1.id p2.id)=r0))<|by
 rintro p1 p2 h _ rfl;obtain⟨h1,h2⟩:=h;have a:=h1.f0;have b:=h1.f1;have c:=h1.w0;have d:=h1.w1;have a' :=h2.f0;have b' :=h2.f1;have c' :=h2.w0;have d' :=h2.w1;have m1:0<=p2.wU*p1.weight/\p2.wU*p1.weight<=4294967295*4294967295:=⟨qbj qqo qqo,qbw b' d qqo qqo⟩;have m2:0<=p1.wU*p2.weight/\p1.wU*p2.weight<=4294967295*4294967295:=⟨qbj qqo qqo,qbw b d' qqo qqo⟩;dsimp only;rw[wu p1.weight qqo qqo,wu p2.weight qqo qqo,wu _ m1.1 qqo,wu _ m2.1 qqo,k5e h1 h2];unfold cmpE;refine⟨fun e=> ?_,fun e=> ?_⟩
 ·have e:cmp3 (p2.wU*p1.weight) (p1.wU*p2.weight)≠0:=by simpa using e
  rw[qm (mt cmp3_eq.2 e)]
 ·have e:cmp3 (p2.wU*p1.weight) (p1.wU*p2.weight)=0:=by simpa using e
  rw[ql (cmp3_eq.1 e)]
noncomputable def k4d:Ct:= .gp 88 [yqi] [yqu] [] fun(p0:Int)=>(0<=p0/\p0<4611686018427387904,(((1<<<Sort.bitsLen p0.toNat:Nat):Int):Int),())
theorem k4h:k4d.O:=qrv Bs Tryz.func88 .no (k9i.c c0) (Q:=∀(p0:Int),(0<=p0/\p0<4611686018427387904)->∀r0:Int,((1<<<Sort.bitsLen p0.toNat:Nat):Int)=r0-> 
(U64 (u64.wrap p0))/\(0<=(len64 (u64.wrap p0)))/\let v1:Int:=ishl .u64 1 (len64 (u64.wrap p0))
v1=r0)<|by rintro p0 h _ rfl;obtain⟨h0,h1⟩:=h;have e:=npo p0.toNat qqo;rw[show((p0.toNat:Nat):Int)=p0 by omega]at e;have e2:=kbv p0.toNat;rw[show((p0.toNat:Nat):Int)=p0 by omega]at e2;refine ?_;rw[wu p0 h0 qqo,e];exact⟨⟨h0,by omega⟩,by rw[e2];omega,rfl⟩
noncomputable def k8x:Ct:= .t (gk 89 [.one (.ptr 0 0)] [.cells [zqu]] (.one (.one (zqu)))) [yqu] [yqu,yqu] [] fun(Aa:Int)=>((xnI Aa:Int),(xnI Aa:Int),())
theorem k9t:k8x.O:=ptv Bs Tryz.func89 .no c0 (Q:=∀(Aa:Int),∀r0:Int,xnI Aa=r0->∀Ac:Int,xnI Aa=Ac-> 
let v1:Int:=ishr .u64 (ixor .u64 Aa (ishl .u64 Aa 13)) 7
let v2:Int:=ixor .u64 (ixor .u64 Aa (ishl .u64 Aa 13)) v1
ixor .u64 v2 (ishl .u64 v2 17)=r0/\ixor .u64 v2 (ishl .u64 v2 17)=Ac)<|by rintro Aa _ rfl _ rfl;exact⟨rfl,rfl⟩
noncomputable def k1s:Ct:= .g (gk 70 [.one (.row 0),.one (zqi),.one (zqi),.one (.clo 33 [none] [])] [.vec (.st 3)] (.tup [])) yL [.sl (.st 3)] [] fun(p1 p2:Int) (w0:List wA)=>((0<=p1/\p1<=p2/\p2<=w0.length)/\w0.length<=1099511627776,(brkS w0 p1 p2:List wA),())
set_option maxHeartbeats 1000000 in
theorem k23:k1s.O:=prv Bs Tryz.func70 (.r 1 (.nd [] (.r 2 (.lp [] ⟨[1,0],[.cells [zqu],.vec (.st 3)],[11],[.one (zqi)],[]⟩ (.r 0 (.nd [] (.r 0 (.jn ⟨[],[],[12],[.one (zqi)],[]⟩ [] .no [] .no)) [] .no)))) [] .no)) (k4h.c (k9t.c c0)) (Q:=∀(p1 p2:Int) (w0:List wA),((0<=p1/\p1<=p2/\p2<=w0.length)/\w0.length<=1099511627776)->∀e0:List wA,brkS w0 p1 p2=e0-> 
let v1:Bool:=decide (8<=(i64.wrap (p2-p1)))
(v1=true->
let v2:Int:=u64.wrap (i64.wrap (p2-p1))
(0<=(i64.wrap (p2-p1))/\(i64.wrap (p2-p1))<4611686018427387904)/\let r3:Int:=((1<<<Sort.bitsLen (i64.wrap (p2-p1)).toNat:Nat):Int)
let v4:Int:=i64.wrap (Int.tdiv (i64.wrap (p2-p1)) 4)
let v5:Int:=i64.wrap (p1+(i64.wrap (v4*2)))
∃(I1:Int->Int->(List wA)->Prop) (M1:Int->Int->(List wA)->Nat),I1 (i64.wrap (v5-1)) v2 w0/\∀b1 f1 i1,(I1 b1 f1 i1->
let v6:Int:=i64.wrap (Int.tdiv (i64.wrap (p2-p1)) 4)
let v7:Int:=i64.wrap (p1+(i64.wrap (v6*2)))
let v8:Bool:=decide (b1<=(i64.wrap (v7+1)))
(v8=true->
let v9:Int:=iand .u64 (xnI f1) (u64.wrap (r3-1))
∀J1:Int->Prop,(∀(k1:Int),
((0<=i64.wrap (p1+k1)/\i64.wrap (p1+k1)<(w0.length:Int))/\(0<=i64.wrap (p1+k1)/\i64.wrap (p1+k1)<(i1.length:Int))/\(0<=b1/\b1<(w0.length:Int))/\(0<=b1/\b1<(i1.length:Int))/\(0<=b1/\b1<(w0.length:Int))/\(0<=b1/\b1<(i1.length:Int))/\(0<=i64.wrap (p1+k1)/\i64.wrap (p1+k1)<(w0.length:Int))/\(0<=i64.wrap (p1+k1)/\i64.wrap (p1+k1)<((i1.set b1.toNat (ix i1 (i64.wrap (p1+k1)))).length:Int))/\I1 (i64.wrap (b1+1)) (xnI f1) ((i1.set b1.toNat (ix i1 (i64.wrap (p1+k1)))).set (i64.wrap (p1+k1)).toNat (ix i1 b1))/\M1 (i64.wrap (b1+1)) (xnI f1) ((i1.set b1.toNat (ix i1 (i64.wrap (p1+k1)))).set (i64.wrap (p1+k1)).toNat (ix i1 b1))<M1 b1 f1 i1)->J1 k1)->
let v10:Bool:=decide ((i64.wrap (p2-p1))<=(i64.wrap v9))
(v10=true->
let v11:Int:=i64.wrap ((i64.wrap v9)-(i64.wrap (p2-p1)))
J1 v11)/\
(v10=false->
J1 (i64.wrap v9)))/\
(v8=false->
i1=e0)))/\
(v1=false->
w0=e0))<|by
 rintro p1 p2 w0 h _ rfl;obtain⟨⟨h1,h2,h3⟩,h4⟩:=h;have e1:=wi (p2-p1) qqo qqo;have e5:=wu (p2-p1) qqo qqo;have e3:Int.tdiv (p2-p1) 4=(p2-p1)/4:=Int.tdiv_eq_ediv_of_nonneg qqo;have e4:=wi ((p2-p1)/4) qqo qqo;have e6:=wi ((p2-p1)/4*2) qqo qqo;have e7:=wi (p1+(p2-p1)/4*2) qqo qqo;have e8:=wi (p1+(p2-p1)/4*2-1) qqo qqo;have e9:=wi (p1+(p2-p1)/4*2+1) qqo qqo;dsimp only;rw[e1,e5,e3,e4,e6,e7,e8];refine⟨fun hh=> ?_,fun hh=> ?_⟩
 ·have hh:=qb hh;have hm:=npo_le (p2-p1).toNat qqo;have hb:=brk_eq w0.toArray p1.toNat p2.toNat qqo;rw[show p2.toNat-p1.toNat=(p2-p1).toNat by omega]at hb;have hR:(brkS w0 p1 p2)=(brkL p1.toNat (p2-p1).toNat (1<<<Sort.bitsLen (p2-p1).toNat) 3 (UInt64.ofNat (p2-p1).toNat,w0.toArray) (p1.toNat+(p2-p1).toNat/4*2-1)).toList:=by unfold brkS;rw[hb]
  refine⟨⟨by omega,by omega⟩,?_⟩;generalize 1<<<Sort.bitsLen (p2-p1).toNat=md at *
  generalize brkS w0 p1 p2=R at *
  clear hb;have e0:(UInt64.ofNat (p2-p1).toNat).toNat=(p2-p1).toNat:=by rw[UInt64.toNat_ofNat',Nat.mod_eq_of_lt qqo]
  refine⟨fun idx rnd g=>∃(k:Nat) (u:UInt64),(k<=3/\idx+k=p1+(p2-p1)/4*2+2)/\rnd=(u.toNat:Int)/\g.length=w0.length/\R=(brkL p1.toNat (p2-p1).toNat md k (u,g.toArray) idx.toNat).toList,fun idx _ _=>(p1+(p2-p1)/4*2+2-idx).toNat,⟨3,UInt64.ofNat (p2-p1).toNat,⟨by omega,by omega⟩,by omega,rfl,by rw[hR,show(p1+(p2-p1)/4*2-1).toNat=p1.toNat+(p2-p1).toNat/4*2-1 by omega]⟩,?_⟩;clear hR e0;have hq:0<=(p2-p1)/4/\4*((p2-p1)/4)<=p2-p1/\p2-p1<4*((p2-p1)/4)+4:=by omega
  generalize (p2-p1)/4=dq at *
  generalize hn:(p2-p1).toNat=n at *
  have hn2:(n:Int)=p2-p1:=by omega
  rintro idx rnd g ⟨k,u,⟨k0,k1⟩,rfl,g2,g3⟩;rw[e9];refine⟨fun q=> ?_,fun q=> ?_⟩
  ·have q:=qb q;intro J1 k1;obtain⟨k,rfl⟩:∃m,k=m+1:=⟨k-1,by omega⟩;rw[brkL_go]at g3;have hx:=xnI_eq u;have hlt:=(Sort.xorNext u).toNat_lt;generalize xnI (u.toNat:Int)=xu at *
   generalize Sort.xorNext u=u' at *
   subst hx;have hmd:(u'.toNat&&&(md-1))<=md-1:=Nat.and_le_right;have e10:iand .u64 (u'.toNat:Int) (u64.wrap ((md:Int)-1))=((u'.toNat&&&(md-1):Nat):Int):=by rw[wu _ qqo qqo,show(md:Int)-1=((md-1:Nat):Int)by omega,k9s _ _ qqo qqo]
   rw[e10];generalize u'.toNat&&&(md-1)=z at *
   rw[wi (z:Int) qqo qqo];generalize ho:(if z≥n then z-n else z)=o at *
   have ho2:o<n:=by rw[<-ho];split<;>omega
   have w1:=wi (p1+(o:Int)) qqo qqo;have w2:=wi (idx+1) qqo qqo;have hs:=swp_arr (g:=g) (i:=idx) (j:=p1+(o:Int)) qqo qqo qqo qqo;rw[show p1.toNat+o=(p1+(o:Int)).toNat by omega,hs,show idx.toNat+1=(idx+1).toNat by omega]at g3;have fin:(∃(k:Nat) (u:UInt64),(k<=3/\i64.wrap (idx+1)+k=p1+dq*2+2)/\(u'.toNat:Int)=(u.toNat:Int)/\(swpL g idx (i64.wrap (p1+(o:Int)))).length=w0.length/\R=(brkL p1.toNat n md k (u,(swpL g idx (i64.wrap (p1+(o:Int)))).toArray) (i64.wrap (idx+1)).toNat).toList)/\(p1+dq*2+2-i64.wrap (idx+1)).toNat<(p1+dq*2+2-idx).toNat:=by rw[w1,w2];exact⟨⟨k,u',⟨by omega,by omega⟩,rfl,by rw[k7b];exact g2,g3⟩,by omega⟩
   have rng:(0<=i64.wrap (p1+(o:Int))/\i64.wrap (p1+(o:Int))<(g.length:Int))/\(0<=idx/\idx<(g.length:Int)):=by rw[w1];exact⟨⟨by omega,by omega⟩,⟨by omega,by omega⟩⟩
   have rng2:0<=i64.wrap (p1+(o:Int))/\i64.wrap (p1+(o:Int))<((g.set idx.toNat (ix g (i64.wrap (p1+(o:Int))))).length:Int):=by rw[qw];exact rng.1
   have rw1:0<=i64.wrap (p1+(o:Int))/\i64.wrap (p1+(o:Int))<(w0.length:Int):=by rw[<-g2];exact rng.1
   have rw2:0<=idx/\idx<(w0.length:Int):=by rw[<-g2];exact rng.2
   refine⟨fun e=> ?_,fun e=> ?_⟩
   ·have e:=qb e;rw[ql qqo]at ho;rw[show(z:Int)-(p2-p1)=(o:Int)by omega,wi (o:Int) qqo qqo];exact k1 _ ⟨rw1,rng.1,rw2,rng.2,rw2,rng.2,rw1,rng2,fin.1,fin.2⟩
   ·have e:=qc e;rw[qm qqo]at ho;subst ho;exact k1 _ ⟨rw1,rng.1,rw2,rng.2,rw2,rng.2,rw1,rng2,fin.1,fin.2⟩
  ·have q:=qc q;have:k=0:=by omega
   subst this;rw[g3];rfl
 ·have hh:=qc hh;unfold brkS;rw[brk_no _ _ _ qqo]
noncomputable def k32:Ct:= .g (gk 102 [.one (.row 0),.one (zqi),.one (zqi),.one (.ptr 1 0),.one (.clo 33 [none] [])] yF (.tup [.one (zqi),.one (zqi)])) yG yG [] fun(p1 p2 Ab:Int) (w0:List wA)=>(GL w0/\(0<=p1/\p1<w0.length)/\(0<=p2/\p2<w0.length)/\0<=Ab/\Ab<=1000,(((Sort.order2 ltA w0.toArray p1.toNat p2.toNat Ab.toNat).1:Int):Int),(((Sort.order2 ltA w0.toArray p1.toNat p2.toNat Ab.toNat).2.1:Int):Int),(((Sort.order2 ltA w0.toArray p1.toNat p2.toNat Ab.toNat).2.2:Int):Int),w0,())
theorem k35:k32.O:=prv Bs Tryz.func102 .no (ku.c c0) (Q:=∀(p1 p2 Ab:Int) (w0:List wA),(GL w0/\(0<=p1/\p1<w0.length)/\(0<=p2/\p2<w0.length)/\0<=Ab/\Ab<=1000)->∀r0:Int,((Sort.order2 ltA w0.toArray p1.toNat p2.toNat Ab.toNat).1:Int)=r0->∀r1:Int,((Sort.order2 ltA w0.toArray p1.toNat p2.toNat Ab.toNat).2.1:Int)=r1->∀d1_0:Int,((Sort.order2 ltA w0.toArray p1.toNat p2.toNat Ab.toNat).2.2:Int)=d1_0->∀e0:List wA,w0=e0-> 
(0<=p2/\p2<(w0.length:Int))/\(0<=p2/\p2<(w0.length:Int))/\(0<=p1/\p1<(w0.length:Int))/\(0<=p1/\p1<(w0.length:Int))/\(GE (ix w0 p2)/\GE (ix w0 p1))/\let v2:Bool:=decide ((cmpG (ix w0 p2) (ix w0 p1))<0)
(v2=true->
p2=r0/\p1=r1/\i64.wrap (Ab+1)=d1_0/\w0=e0)/\
(v2=false->
p1=r0/\p2=r1/\Ab=d1_0/\w0=e0))<|by
 rintro p1 p2 Ab w0 h _ rfl _ rfl _ rfl _ rfl;obtain⟨gG,⟨h1,h2⟩,⟨h3,h4⟩,h5,h6⟩:=h;have x1:=arr_ix (g:=w0) h1 h2;have x2:=arr_ix (g:=w0) h3 h4;refine⟨⟨h3,h4⟩,⟨h3,h4⟩,⟨h1,h2⟩,⟨h1,h2⟩,⟨gG.ix h3 h4,gG.ix h1 h2⟩,fun e=> ?_,fun e=> ?_⟩
 ·unfold Sort.order2;have e:decide (ix w0 p2<ix w0 p1)=true:=e;rw[x1,x2,ltI_iff,e,ql rfl,wi (Ab+1) qqo qqo];exact⟨(Int.toNat_of_nonneg h3).symm,(Int.toNat_of_nonneg h1).symm,(by show Ab+1=((Ab.toNat+1:Nat):Int);omega),rfl⟩
 ·unfold Sort.order2;have e:decide (ix w0 p2<ix w0 p1)=false:=e;rw[x1,x2,ltI_iff,e,qm qqd];exact⟨(Int.toNat_of_nonneg h1).symm,(Int.toNat_of_nonneg h3).symm,(Int.toNat_of_nonneg h5).symm,rfl⟩
noncomputable def k2z:Ct:= .g (gk 91 [.one (.row 0),.one (zqi),.one (zqi),.one (zqi),.one (.ptr 1 0),.one (.clo 33 [none] [])] yF (.one (.one (zqi)))) [yqi,yqi,yqi,yqi,.sl (.st 3)] yL [] fun(p1 p2 p3 Ab:Int) (w0:List wA)=>(GL w0/\(0<=p1/\p1<w0.length)/\(0<=p2/\p2<w0.length)/\(0<=p3/\p3<w0.length)/\0<=Ab/\Ab<=100,(((Sort.median ltA w0.toArray p1.toNat p2.toNat p3.toNat Ab.toNat).1:Int):Int),(((Sort.median ltA w0.toArray p1.toNat p2.toNat p3.toNat Ab.toNat).2:Int):Int),w0,())
theorem k1b:k2z.O:=prv Bs Tryz.func91 .no (k35.c c0) (Q:=∀(p1 p2 p3 Ab:Int) (w0:List wA),(GL w0/\(0<=p1/\p1<w0.length)/\(0<=p2/\p2<w0.length)/\(0<=p3/\p3<w0.length)/\0<=Ab/\Ab<=100)->∀r0:Int,((Sort.median ltA w0.toArray p1.toNat p2.toNat p3.toNat Ab.toNat).1:Int)=r0->∀d1_0:Int,((Sort.median ltA w0.toArray p1.toNat p2.toNat p3.toNat Ab.toNat).2:Int)=d1_0->∀e0:List wA,w0=e0-> 
lz w0/\(GL w0/\(0<=p1/\p1<w0.length)/\(0<=p2/\p2<w0.length)/\0<=Ab/\Ab<=1000)/\let r1:Int:=((Sort.order2 ltA w0.toArray p1.toNat p2.toNat Ab.toNat).1:Int)
let r2:Int:=((Sort.order2 ltA w0.toArray p1.toNat p2.toNat Ab.toNat).2.1:Int)
let r3:Int:=((Sort.order2 ltA w0.toArray p1.toNat p2.toNat Ab.toNat).2.2:Int)
lz w0/\(GL w0/\(0<=r2/\r2<w0.length)/\(0<=p3/\p3<w0.length)/\0<=r3/\r3<=1000)/\let r4:Int:=((Sort.order2 ltA w0.toArray r2.toNat p3.toNat r3.toNat).1:Int)
let r5:Int:=((Sort.order2 ltA w0.toArray r2.toNat p3.toNat r3.toNat).2.1:Int)
let r6:Int:=((Sort.order2 ltA w0.toArray r2.toNat p3.toNat r3.toNat).2.2:Int)
lz w0/\(GL w0/\(0<=r1/\r1<w0.length)/\(0<=r4/\r4<w0.length)/\0<=r6/\r6<=1000)/\let r7:Int:=((Sort.order2 ltA w0.toArray r1.toNat r4.toNat r6.toNat).1:Int)
let r8:Int:=((Sort.order2 ltA w0.toArray r1.toNat r4.toNat r6.toNat).2.1:Int)
let r9:Int:=((Sort.order2 ltA w0.toArray r1.toNat r4.toNat r6.toNat).2.2:Int)
r8=r0/\r9=d1_0/\w0=e0)<|by
 rintro p1 p2 p3 Ab w0 h _ rfl _ rfl _ rfl;obtain⟨hG,⟨h1,h2⟩,⟨h3,h4⟩,⟨h5,h6⟩,h7,h8⟩:=h;refine ?_;unfold Sort.median;dsimp only;simp only[qac];have q1:=k2b (d:=w0.toArray) (a:=p1.toNat) (b:=p2.toNat) (c:=Ab.toNat) (n:=w0.length) qqo qqo;generalize Sort.order2 ltA w0.toArray p1.toNat p2.toNat Ab.toNat=r1 at *
 have q2:=k2b (d:=w0.toArray) (a:=r1.2.1) (b:=p3.toNat) (c:=r1.2.2) (n:=w0.length) q1.2.1 qqo;generalize Sort.order2 ltA w0.toArray r1.2.1 p3.toNat r1.2.2=r2 at *
 have q3:=k2b (d:=w0.toArray) (a:=r1.1) (b:=r2.1) (c:=r2.2.2) (n:=w0.length) q1.1 q2.1;exact⟨by trivial,⟨hG,⟨h1,h2⟩,⟨h3,h4⟩,h7,by omega⟩,by trivial,⟨hG,⟨by omega,by omega⟩,⟨h5,h6⟩,by omega,by omega⟩,by trivial,⟨hG,⟨by omega,by omega⟩,⟨by omega,by omega⟩,by omega,by omega⟩,by trivial,by trivial,by trivial⟩
noncomputable def k1n:Ct:= .g (gk 90 [.one (.row 0),.one (zqi),.one (.ptr 1 0),.one (.clo 33 [none] [])] yF (.one (.one (zqi)))) yL yL [] fun(p1 Ab:Int) (w0:List wA)=>(GL w0/\(1<=p1/\p1+1<w0.length)/\w0.length<=1099511627776/\0<=Ab/\Ab<=100,(((Sort.medianAdjacent ltA w0.toArray p1.toNat Ab.toNat).1:Int):Int),(((Sort.medianAdjacent ltA w0.toArray p1.toNat Ab.toNat).2:Int):Int),w0,())
theorem k1q:k1n.O:=prv Bs Tryz.func90 .no (k1b.c c0) (Q:=∀(p1 Ab:Int) (w0:List wA),(GL w0/\(1<=p1/\p1+1<w0.length)/\w0.length<=1099511627776/\0<=Ab/\Ab<=100)->∀r0:Int,((Sort.medianAdjacent ltA w0.toArray p1.toNat Ab.toNat).1:Int)=r0->∀d1_0:Int,((Sort.medianAdjacent ltA w0.toArray p1.toNat Ab.toNat).2:Int)=d1_0->∀e0:List wA,w0=e0-> 
lz w0/\(GL w0/\(0<=(i64.wrap (p1-1))/\(i64.wrap (p1-1))<w0.length)/\(0<=p1/\p1<w0.length)/\(0<=(i64.wrap (p1+1))/\(i64.wrap (p1+1))<w0.length)/\0<=Ab/\Ab<=100)/\let r1:Int:=((Sort.median ltA w0.toArray (i64.wrap (p1-1)).toNat p1.toNat (i64.wrap (p1+1)).toNat Ab.toNat).1:Int)
let r2:Int:=((Sort.median ltA w0.toArray (i64.wrap (p1-1)).toNat p1.toNat (i64.wrap (p1+1)).toNat Ab.toNat).2:Int)
r1=r0/\r2=d1_0/\w0=e0)<|by rintro p1 Ab w0 h _ rfl _ rfl _ rfl;obtain⟨hG,⟨h1,h2⟩,h3,h4,h5⟩:=h;refine ?_;rw[wi (p1-1) qqo qqo,wi (p1+1) qqo qqo];unfold Sort.medianAdjacent;rw[show(p1-1).toNat=p1.toNat-1 by omega,show(p1+1).toNat=p1.toNat+1 by omega];exact⟨rfl,⟨hG,⟨by omega,by omega⟩,⟨by omega,by omega⟩,⟨by omega,by omega⟩,h4,h5⟩,rfl,rfl,rfl⟩
noncomputable def k27:Ct:= .g (gk 71 [.one (.row 0),.one (zqi),.one (zqi),.one (.clo 33 [none] [])] [.vec (.st 3)] (.tup [.one (zqi),.one (zqi)])) yL yL [] fun(p1 p2:Int) (w0:List wA)=>(GL w0/\(0<=p1/\p1<p2/\p2<=w0.length)/\w0.length<=1099511627776,(((cpS w0 p1 p2).1:Int):Int),(hintN (cpS w0 p1 p2).2:Int),w0,())
set_option maxHeartbeats 1000000 in
theorem k2d:k27.O:=prv Bs Tryz.func71 (.r 5 (.jn ⟨[1,0],[.cells [zqi],.vec (.st 3)],[12,13,14],[.one (.any),.one (zqi),.one (.any)],[]⟩ [] (.r 0 (.nd [] (.jn ⟨[1,0],[.cells [zqi],.vec (.st 3)],[12,13,14],[.one (zqi),.one (zqi),.one (zqi)],[]⟩ [] .no [] .no) [] .no)) [] .no)) (k1q.c (k1b.c c0)) (Q:=∀(p1 p2:Int) (w0:List wA),(GL w0/\(0<=p1/\p1<p2/\p2<=w0.length)/\w0.length<=1099511627776)->∀r0:Int,((cpS w0 p1 p2).1:Int)=r0->∀r1:Int,(hintN (cpS w0 p1 p2).2)=r1->∀e0:List wA,w0=e0-> 
let v2:Int:=i64.wrap (Int.tdiv (i64.wrap (p2-p1)) 4)
let v3:Int:=i64.wrap (p1+(i64.wrap (v2*1)))
let v4:Int:=i64.wrap (Int.tdiv (i64.wrap (p2-p1)) 4)
let v5:Int:=i64.wrap (p1+(i64.wrap (v4*2)))
let v6:Int:=i64.wrap (Int.tdiv (i64.wrap (p2-p1)) 4)
let v7:Int:=i64.wrap (p1+(i64.wrap (v6*3)))
∀J1:Int->Int->(List wA)->Prop,(∀(b1 f1:Int) (i1:List wA),
(((f1==0)=true->
b1=r0/\1=r1/\i1=e0)/\
((f1==0)=false->
((f1==12)=true->
b1=r0/\2=r1/\i1=e0)/\
((f1==12)=false->
b1=r0/\0=r1/\i1=e0)))->J1 b1 f1 i1)->
let v8:Bool:=decide (8<=(i64.wrap (p2-p1)))
(v8=true->
∀J2:Int->Int->Int->Int->(List wA)->Prop,(∀(k1 l1 m1 n1:Int) (o1:List wA),
((w0.length=o1.length)/\(GL o1/\(0<=k1/\k1<o1.length)/\(0<=l1/\l1<o1.length)/\(0<=m1/\m1<o1.length)/\0<=n1/\n1<=100)/\let r16:Int:=((Sort.median ltA o1.toArray k1.toNat l1.toNat m1.toNat n1.toNat).1:Int)
let r17:Int:=((Sort.median ltA o1.toArray k1.toNat l1.toNat m1.toNat n1.toNat).2:Int)
J1 r16 r17 o1)->J2 k1 l1 m1 n1 o1)->
let v9:Bool:=decide (50<=(i64.wrap (p2-p1)))
(v9=true->
lz w0/\(GL w0/\(1<=v3/\v3+1<w0.length)/\w0.length<=1099511627776/\0<=(0:Int)/\(0:Int)<=100)/\let r10:Int:=((Sort.medianAdjacent ltA w0.toArray v3.toNat (0:Int).toNat).1:Int)
let r11:Int:=((Sort.medianAdjacent ltA w0.toArray v3.toNat (0:Int).toNat).2:Int)
lz w0/\(GL w0/\(1<=v5/\v5+1<w0.length)/\w0.length<=1099511627776/\0<=r11/\r11<=100)/\let r12:Int:=((Sort.medianAdjacent ltA w0.toArray v5.toNat r11.toNat).1:Int)
let r13:Int:=((Sort.medianAdjacent ltA w0.toArray v5.toNat r11.toNat).2:Int)
lz w0/\(GL w0/\(1<=v7/\v7+1<w0.length)/\w0.length<=1099511627776/\0<=r13/\r13<=100)/\let r14:Int:=((Sort.medianAdjacent ltA w0.toArray v7.toNat r13.toNat).1:Int)
let r15:Int:=((Sort.medianAdjacent ltA w0.toArray v7.toNat r13.toNat).2:Int)
J2 r10 r12 r14 r15 w0)/\
(v9=false->
J2 v3 v5 v7 0 w0))/\
(v8=false->
J1 v5 0 w0))<|by
 rintro p1 p2 w0 h _ rfl _ rfl _ rfl;obtain⟨hG,⟨h1,h2,h3⟩,h4⟩:=h;have e1:=wi (p2-p1) qqo qqo;have e3:Int.tdiv (p2-p1) 4=(p2-p1)/4:=Int.tdiv_eq_ediv_of_nonneg qqo;have e4:=wi ((p2-p1)/4) qqo qqo;have e5:=wi ((p2-p1)/4*1) qqo qqo;have e6:=wi ((p2-p1)/4*2) qqo qqo;have e7:=wi ((p2-p1)/4*3) qqo qqo;have f5:=wi (p1+(p2-p1)/4*1) qqo qqo;have f6:=wi (p1+(p2-p1)/4*2) qqo qqo;have f7:=wi (p1+(p2-p1)/4*3) qqo qqo;have hcp:cpS w0 p1 p2=Sort.choosePivot ltA w0.toArray p1.toNat p2.toNat:=rfl;dsimp only;rw[e1,e3,e4,e5,e6,e7,f5,f6,f7];have dq:(p2-p1)/4=(((p2.toNat-p1.toNat)/4:Nat):Int):=by omega
 intro J1 k1
 have j2:∀(r:Nat×Nat),cpS w0 p1 p2=(r.1,if r.2=0 then Sort.Hint.increasing else if r.2=12 then .decreasing else .unknown)->J1 (r.1:Int) (r.2:Int) w0:=by
  intro r hr;refine k1 _ _ _ ?_;rw[hr];refine⟨fun e=> ?_,fun e=>⟨fun e2=> ?_,fun e2=> ?_⟩⟩
  ·have e:(r.2:Int)=0:=by simpa using e
   rw[ql qqo];exact⟨rfl,rfl,rfl⟩
  ·have e:¬(r.2:Int)=0:=by simpa using e
   have e2:(r.2:Int)=12:=by simpa using e2
   rw[qm qqo,ql qqo];exact⟨rfl,rfl,rfl⟩
  ·have e:¬(r.2:Int)=0:=by simpa using e
   have e2:¬(r.2:Int)=12:=by simpa using e2
   rw[qm qqo,qm qqo];exact⟨rfl,rfl,rfl⟩
 refine⟨fun a J2 k2=> ?_,fun a=> ?_⟩
 ·have j1:∀(i j k s:Nat),(i<w0.length/\j<w0.length/\k<w0.length/\s<=100)->cpS w0 p1 p2=((Sort.median ltA w0.toArray i j k s).1,if(Sort.median ltA w0.toArray i j k s).2=0 then Sort.Hint.increasing else if(Sort.median ltA w0.toArray i j k s).2=12 then .decreasing else .unknown)->J2 (i:Int) (j:Int) (k:Int) (s:Int) w0:=by intro i j k s ⟨i1,i2,i3,i4⟩ hr;refine k2 _ _ _ _ _ ⟨rfl,⟨hG,⟨by omega,by omega⟩,⟨by omega,by omega⟩,⟨by omega,by omega⟩,by omega,by omega⟩,?_⟩;simp only[qac];exact j2 _ hr
  refine⟨fun b=> ?_,fun b=> ?_⟩
  ·have a:=qb a;have b:=qb b;have ei:(p1+(p2-p1)/4*1).toNat=p1.toNat+(p2.toNat-p1.toNat)/4*1:=by omega
   have ej:(p1+(p2-p1)/4*2).toNat=p1.toNat+(p2.toNat-p1.toNat)/4*2:=by omega
   have ek:(p1+(p2-p1)/4*3).toNat=p1.toNat+(p2.toNat-p1.toNat)/4*3:=by omega
   have key:=hcp;unfold Sort.choosePivot at key;simp only[ql (show p2.toNat-p1.toNat≥8 by omega),ql (show p2.toNat-p1.toNat≥50 by omega)]at key;rw[<-ei,<-ej,<-ek]at key;have r1:=k74 (d:=w0.toArray) (a:=(p1+(p2-p1)/4*1).toNat-1) (b:=(p1+(p2-p1)/4*1).toNat) (c:=(p1+(p2-p1)/4*1).toNat+1) (s:=0) (n:=w0.length) qqo qqo qqo;have m1:Sort.medianAdjacent ltA w0.toArray (p1+(p2-p1)/4*1).toNat 0=Sort.median ltA w0.toArray ((p1+(p2-p1)/4*1).toNat-1) (p1+(p2-p1)/4*1).toNat ((p1+(p2-p1)/4*1).toNat+1) 0:=rfl;rw[<-m1]at r1;rw[show(0:Int).toNat=0 from rfl];generalize Sort.medianAdjacent ltA w0.toArray (p1+(p2-p1)/4*1).toNat 0=A at *
   have r2:=k74 (d:=w0.toArray) (a:=(p1+(p2-p1)/4*2).toNat-1) (b:=(p1+(p2-p1)/4*2).toNat) (c:=(p1+(p2-p1)/4*2).toNat+1) (s:=A.2) (n:=w0.length) qqo qqo qqo;have m2:Sort.medianAdjacent ltA w0.toArray (p1+(p2-p1)/4*2).toNat A.2=Sort.median ltA w0.toArray ((p1+(p2-p1)/4*2).toNat-1) (p1+(p2-p1)/4*2).toNat ((p1+(p2-p1)/4*2).toNat+1) A.2:=rfl;rw[<-m2]at r2;simp only[qac];generalize Sort.medianAdjacent ltA w0.toArray (p1+(p2-p1)/4*2).toNat A.2=B at *
   have r3:=k74 (d:=w0.toArray) (a:=(p1+(p2-p1)/4*3).toNat-1) (b:=(p1+(p2-p1)/4*3).toNat) (c:=(p1+(p2-p1)/4*3).toNat+1) (s:=B.2) (n:=w0.length) qqo qqo qqo;have m3:Sort.medianAdjacent ltA w0.toArray (p1+(p2-p1)/4*3).toNat B.2=Sort.median ltA w0.toArray ((p1+(p2-p1)/4*3).toNat-1) (p1+(p2-p1)/4*3).toNat ((p1+(p2-p1)/4*3).toNat+1) B.2:=rfl;rw[<-m3]at r3;generalize Sort.medianAdjacent ltA w0.toArray (p1+(p2-p1)/4*3).toNat B.2=C at *
   exact⟨by trivial,⟨hG,⟨by omega,by omega⟩,h4,by omega,by omega⟩,by trivial,⟨hG,⟨by omega,by omega⟩,h4,by omega,by omega⟩,by trivial,⟨hG,⟨by omega,by omega⟩,h4,by omega,by omega⟩,j1 _ _ _ _ ⟨r1.1,r2.1,r3.1,by omega⟩ key⟩
  ·have a:=qb a;have b:=qc b;have key:=hcp;unfold Sort.choosePivot at key;simp only[ql (show p2.toNat-p1.toNat≥8 by omega),qm (show¬p2.toNat-p1.toNat≥50 by omega)]at key;have ei:p1+(p2-p1)/4*1=((p1.toNat+(p2.toNat-p1.toNat)/4*1:Nat):Int):=by omega
   have ej:p1+(p2-p1)/4*2=((p1.toNat+(p2.toNat-p1.toNat)/4*2:Nat):Int):=by omega
   have ek:p1+(p2-p1)/4*3=((p1.toNat+(p2.toNat-p1.toNat)/4*3:Nat):Int):=by omega
   rw[ei,ej,ek];exact j1 _ _ _ 0 ⟨by omega,by omega,by omega,by omega⟩ key
 ·have a:=qc a;have key:=hcp;unfold Sort.choosePivot at key;simp only[qm (show¬p2.toNat-p1.toNat≥8 by omega)]at key;have ej:p1+(p2-p1)/4*2=((p1.toNat+(p2.toNat-p1.toNat)/4*2:Nat):Int):=by omega
  rw[ej];exact j2 (_,0) key
noncomputable def k2j:Ct:= .g (gk 87 [.one (.row 0),.one (zqi),.one (zqi),.one (zqi),.one (.clo 33 [none] [])] [.vec (.st 3)] (.tup [])) yG [.sl (.st 3)] [] fun(p1 p2 p3:Int) (w0:List wA)=>(GL w0/\(0<=p1/\p1<=1099511627776)/\(0<=p2/\0<=p3/\p3+p2<=w0.length)/\w0.length<=1099511627776,(sdS w0 p1 p2 p3:List wA),())
theorem k2v:k2j.O:=prv Bs Tryz.func87 (.r 0 (.lp [] ⟨[0],[.vec (.st 3)],[10],[.one (zqi)],[]⟩ (.r 1 (.jn ⟨[],[],[11],[.one (zqi)],[]⟩ [] (.jn ⟨[],[],[40],[.one (.d (.bool))],[]⟩ [] .no [] .no) [] .no)))) (ku.c c0) (Q:=∀(p1 p2 p3:Int) (w0:List wA),(GL w0/\(0<=p1/\p1<=1099511627776)/\(0<=p2/\0<=p3/\p3+p2<=w0.length)/\w0.length<=1099511627776)->∀e0:List wA,sdS w0 p1 p2 p3=e0-> 
∃(I1:Int->(List wA)->Prop) (M1:Int->(List wA)->Nat),I1 p1 w0/\∀b1 f1,(I1 b1 f1->
let v1:Int:=i64.wrap ((i64.wrap (2*b1))+1)
(decide (p2<=v1)=true->
f1=e0)/\
(decide (p2<=v1)=false->
∀J1:Int->Prop,(∀(i1:Int),
((0<=i64.wrap (p3+b1)/\i64.wrap (p3+b1)<(w0.length:Int))/\(0<=i64.wrap (p3+b1)/\i64.wrap (p3+b1)<(f1.length:Int))/\(0<=i64.wrap (p3+i1)/\i64.wrap (p3+i1)<(w0.length:Int))/\(0<=i64.wrap (p3+i1)/\i64.wrap (p3+i1)<(f1.length:Int))/\(GE (ix f1 (i64.wrap (p3+b1)))/\GE (ix f1 (i64.wrap (p3+i1))))/\let r5:Int:=(cmpG (ix f1 (i64.wrap (p3+b1))) (ix f1 (i64.wrap (p3+i1))))
((!decide (r5<0))=true->
f1=e0)/\
((!decide (r5<0))=false->
(0<=i64.wrap (p3+i1)/\i64.wrap (p3+i1)<(w0.length:Int))/\(0<=i64.wrap (p3+i1)/\i64.wrap (p3+i1)<(f1.length:Int))/\(0<=i64.wrap (p3+b1)/\i64.wrap (p3+b1)<(w0.length:Int))/\(0<=i64.wrap (p3+b1)/\i64.wrap (p3+b1)<(f1.length:Int))/\(0<=i64.wrap (p3+b1)/\i64.wrap (p3+b1)<(w0.length:Int))/\(0<=i64.wrap (p3+b1)/\i64.wrap (p3+b1)<(f1.length:Int))/\(0<=i64.wrap (p3+i1)/\i64.wrap (p3+i1)<(w0.length:Int))/\(0<=i64.wrap (p3+i1)/\i64.wrap (p3+i1)<((f1.set (i64.wrap (p3+b1)).toNat (ix f1 (i64.wrap (p3+i1)))).length:Int))/\I1 i1 ((f1.set (i64.wrap (p3+b1)).toNat (ix f1 (i64.wrap (p3+i1)))).set (i64.wrap (p3+i1)).toNat (ix f1 (i64.wrap (p3+b1))))/\M1 i1 ((f1.set (i64.wrap (p3+b1)).toNat (ix f1 (i64.wrap (p3+i1)))).set (i64.wrap (p3+i1)).toNat (ix f1 (i64.wrap (p3+b1))))<M1 b1 f1))->J1 i1)->
∀J2:Bool->Prop,(∀(k1:Bool),
((k1=true->
J1 (i64.wrap (v1+1)))/\
(k1=false->
J1 v1))->J2 k1)->
let v2:Bool:=decide ((i64.wrap (v1+1))<p2)
(v2=true->
(0<=i64.wrap (p3+v1)/\i64.wrap (p3+v1)<(w0.length:Int))/\(0<=i64.wrap (p3+v1)/\i64.wrap (p3+v1)<(f1.length:Int))/\let v3:Int:=i64.wrap ((i64.wrap (p3+v1))+1)
(0<=v3/\v3<(w0.length:Int))/\(0<=v3/\v3<(f1.length:Int))/\(GE (ix f1 (i64.wrap (p3+v1)))/\GE (ix f1 v3))/\let r4:Int:=(cmpG (ix f1 (i64.wrap (p3+v1))) (ix f1 v3))
J2 (decide (r4<0)))/\
(v2=false->
J2 false))))<|by
 rintro p1 p2 p3 w0 h _ rfl;obtain⟨hG,⟨h0,h1⟩,⟨h2,h3,h4⟩,h5⟩:=h;refine⟨fun root g=>(0<=root/\root<=1099511627776)/\(g.length=w0.length/\GL g)/\Sort.siftDown ltA p2.toNat p3.toNat root.toNat g.toArray=Sort.siftDown ltA p2.toNat p3.toNat p1.toNat w0.toArray,fun root _=>(p2-root).toNat,⟨⟨h0,h1⟩,⟨rfl,hG⟩,rfl⟩,?_⟩;rintro root g ⟨⟨g0,g1⟩,⟨g2,gG⟩,g3⟩;rw[wi (2*root) qqo qqo,wi (2*root+1) qqo qqo];dsimp only;rw[wi (2*root+1+1) qqo qqo];refine⟨fun hh=> ?_,fun hh=> ?_⟩
 ·have hh:=qb hh;rw[kgh g0 hh]at g3;unfold sdS;rw[<-g3]
 have hh:=qc hh;have hc:=chS_rng (g:=g) (hi:=p2) (first:=p3) (root:=root) qqo;rw[kiv g0 h3 qqo qqo]at g3;intro J1 k1
 have key:∀c:Int,c=chS g p2 p3 root->J1 c:=by
  rintro c rfl;rw[<-wi (p3+root) qqo qqo]at g3;rw[<-wi (p3+chS g p2 p3 root) qqo qqo]at g3;have w1:=wi (p3+root) qqo qqo;have w2:=wi (p3+chS g p2 p3 root) qqo qqo;generalize hcc:chS g p2 p3 root=c at *
  refine k1 _ ?_;generalize i64.wrap (p3+root)=u at *
  generalize i64.wrap (p3+c)=v at *
  refine⟨⟨by omega,by omega⟩,⟨by omega,by omega⟩,⟨by omega,by omega⟩,⟨by omega,by omega⟩,⟨gG.ix qqo qqo,gG.ix qqo qqo⟩,fun e=> ?_,fun e=> ?_⟩
  ·have e:¬ix g u<ix g v:=nlt_of e;rw[qm e]at g3;unfold sdS;rw[<-g3]
  ·have e:ix g u<ix g v:=lt_of e;rw[ql e]at g3;exact⟨⟨by omega,by omega⟩,⟨by omega,by omega⟩,⟨by omega,by omega⟩,⟨by omega,by omega⟩,⟨by omega,by omega⟩,⟨by omega,by omega⟩,⟨by omega,by omega⟩,⟨by omega,by rw[qw];omega⟩,⟨⟨by omega,by omega⟩,⟨by rw[qw,qw];exact g2,gG.swp qqo qqo qqo qqo⟩,g3⟩,by omega⟩
 intro J2 k2;have j1:∀s:Bool,(s=true↔(2*root+2<p2/\ix g (p3+(2*root+1))<ix g (p3+(2*root+1)+1)))->J2 s:=by intro s hs;refine k2 _ ⟨fun e=>key _ ?_,fun e=>key _ (Eq.symm (qm fun q=>by rw[hs.2 q]at e;cases e))⟩;unfold Go.Md.chS;rw[ql (hs.1 e)];omega
 refine⟨fun e=> ?_,fun e=> ?_⟩
 ·have e:=qb e;have w1:=wi (p3+(2*root+1)) qqo qqo;rw[w1,wi (p3+(2*root+1)+1) qqo qqo];refine⟨⟨by omega,by omega⟩,⟨by omega,by omega⟩,⟨by omega,by omega⟩,⟨by omega,by omega⟩,⟨gG.ix qqo qqo,gG.ix qqo qqo⟩,?_⟩;exact j1 _ ⟨fun q=>⟨by omega,qb q⟩,fun q=>qae q.2⟩
 ·have e:=qc e;exact j1 _ ⟨fun q=>(by cases q),fun q=>absurd q.1 qqo⟩
noncomputable def k2o:Ct:= .g (gk 69 [.one (.row 0),.one (zqi),.one (zqi),.one (.clo 33 [none] [])] [.vec (.st 3)] (.tup [])) yL [.sl (.st 3)] [] fun(p1 p2:Int) (w0:List wA)=>(GL w0/\(0<=p1/\p1<p2/\p2<=w0.length)/\w0.length<=1099511627776,(heapS w0 p1 p2:List wA),())
theorem k2x:k2o.O:=prv Bs Tryz.func69 (.r 2 (.nd [] (.r 0 (.lp [] ⟨[0],[.vec (.st 3)],[11],[.one (zqi)],[]⟩ .no)) [] (.r 0 (.lp [] ⟨[0],[.vec (.st 3)],[12],[.one (zqi)],[]⟩ .no)))) (k2v.c c0) (Q:=∀(p1 p2:Int) (w0:List wA),(GL w0/\(0<=p1/\p1<p2/\p2<=w0.length)/\w0.length<=1099511627776)->∀e0:List wA,heapS w0 p1 p2=e0-> 
let v1:Int:=i64.wrap ((i64.wrap (p2-p1))-1)
∃(I1:Int->(List wA)->Prop) (M1:Int->(List wA)->Nat),I1 (i64.wrap (Int.tdiv v1 2)) w0/\∀b1 f1,(I1 b1 f1->
(decide (0<=b1)=true->
(w0.length=f1.length)/\(GL f1/\(0<=b1/\b1<=1099511627776)/\(0<=(i64.wrap (p2-p1))/\0<=p1/\p1+(i64.wrap (p2-p1))<=f1.length)/\f1.length<=1099511627776)/\let r2:List wA:=(sdS f1 b1 (i64.wrap (p2-p1)) p1)
I1 (i64.wrap (b1-1)) r2/\M1 (i64.wrap (b1-1)) r2<M1 b1 f1)/\
(decide (0<=b1)=false->
let v3:Int:=i64.wrap ((i64.wrap (p2-p1))-1)
∃(I2:Int->(List wA)->Prop) (M2:Int->(List wA)->Nat),I2 v3 f1/\∀i1 k1,(I2 i1 k1->
(decide (0<=i1)=true->
(0<=i64.wrap (p1+i1)/\i64.wrap (p1+i1)<(w0.length:Int))/\(0<=i64.wrap (p1+i1)/\i64.wrap (p1+i1)<(k1.length:Int))/\(0<=p1/\p1<(w0.length:Int))/\(0<=p1/\p1<(k1.length:Int))/\(0<=p1/\p1<(w0.length:Int))/\(0<=p1/\p1<(k1.length:Int))/\(0<=i64.wrap (p1+i1)/\i64.wrap (p1+i1)<(w0.length:Int))/\(0<=i64.wrap (p1+i1)/\i64.wrap (p1+i1)<((k1.set p1.toNat (ix k1 (i64.wrap (p1+i1)))).length:Int))/\(w0.length=((k1.set p1.toNat (ix k1 (i64.wrap (p1+i1)))).set (i64.wrap (p1+i1)).toNat (ix k1 p1)).length)/\(GL ((k1.set p1.toNat (ix k1 (i64.wrap (p1+i1)))).set (i64.wrap (p1+i1)).toNat (ix k1 p1))/\(0<=(0:Int)/\(0:Int)<=1099511627776)/\(0<=i1/\0<=p1/\p1+i1<=((k1.set p1.toNat (ix k1 (i64.wrap (p1+i1)))).set (i64.wrap (p1+i1)).toNat (ix k1 p1)).length)/\((k1.set p1.toNat (ix k1 (i64.wrap (p1+i1)))).set (i64.wrap (p1+i1)).toNat (ix k1 p1)).length<=1099511627776)/\let r4:List wA:=(sdS ((k1.set p1.toNat (ix k1 (i64.wrap (p1+i1)))).set (i64.wrap (p1+i1)).toNat (ix k1 p1)) (0:Int) i1 p1)
I2 (i64.wrap (i1-1)) r4/\M2 (i64.wrap (i1-1)) r4<M2 i1 k1)/\
(decide (0<=i1)=false->
k1=e0)))))<|by
 rintro p1 p2 w0 h _ rfl;obtain⟨hG,⟨h1,h2,h3⟩,h4⟩:=h;have e1:=wi (p2-p1) qqo qqo;have e2:=wi (p2-p1-1) qqo qqo;have e3:Int.tdiv (p2-p1-1) 2=(p2-p1-1)/2:=Int.tdiv_eq_ediv_of_nonneg qqo;have e4:=wi ((p2-p1-1)/2) qqo qqo;dsimp only;rw[e1,e2,e3,e4];refine⟨(fun i g=>(-1<=i/\i<=1099511627776)/\(g.length=w0.length/\GL g)/\Sort.heapPop ltA p1.toNat (p2-p1).toNat (Sort.heapBuild ltA (p2-p1).toNat p1.toNat (i+1).toNat g.toArray)=Sort.heapSort ltA w0.toArray p1.toNat p2.toNat),(fun i _=>(i+1).toNat),⟨⟨by omega,by omega⟩,⟨rfl,hG⟩,?_⟩,?_⟩
 ·unfold Sort.heapSort;rw[show(p2-p1).toNat=p2.toNat-p1.toNat by omega,show((p2-p1-1)/2+1).toNat=(p2.toNat-p1.toNat-1)/2+1 by omega]
 rintro i g ⟨⟨g0,g1⟩,⟨g2,gG⟩,g3⟩;refine⟨fun hh=> ?_,fun hh=> ?_⟩
 ·have hh:=qb hh;rw[kfm hh]at g3;have hl:(sdS g i (p2-p1) p1).length=g.length:=sdS_len;refine⟨g2.symm,⟨gG,⟨by omega,by omega⟩,⟨by omega,by omega,by omega⟩,by omega⟩,?_⟩;dsimp only;rw[wi (i-1) qqo qqo];refine⟨⟨⟨by omega,by omega⟩,⟨hl.trans g2,gG.sd qqo qqo qqo⟩,?_⟩,by omega⟩;rw[show(i-1+1).toNat=i.toNat by omega];exact g3
 ·have hh:=qc hh;rw[show(i+1).toNat=0 by omega,Sort.heapBuild]at g3;refine⟨(fun i g=>(-1<=i/\i<p2-p1)/\(g.length=w0.length/\GL g)/\Sort.heapPop ltA p1.toNat (i+1).toNat g.toArray=Sort.heapSort ltA w0.toArray p1.toNat p2.toNat),(fun i _=>(i+1).toNat),⟨⟨by omega,by omega⟩,⟨g2,gG⟩,by rw[show(p2-p1-1+1).toNat=(p2-p1).toNat by omega];exact g3⟩,?_⟩;rintro i g ⟨⟨g0,g1⟩,⟨g2,gG⟩,g3⟩;refine⟨fun hh=> ?_,fun hh=> ?_⟩
  ·have hh:=qb hh;rw[kjn hh]at g3;have w1:=wi (p1+i) qqo qqo;rw[w1];have hs:=swp_arr (g:=g) (i:=p1) (j:=p1+i) qqo qqo qqo qqo;rw[show p1.toNat+i.toNat=(p1+i).toNat by omega,hs]at g3;have gW:GL (swpL g p1 (p1+i)):=gG.swp qqo qqo qqo qqo;have hl0:(swpL g p1 (p1+i)).length=g.length:=k7b;have hl:(sdS (swpL g p1 (p1+i)) 0 i p1).length=(swpL g p1 (p1+i)).length:=sdS_len;refine⟨⟨by omega,by omega⟩,⟨by omega,by omega⟩,⟨by omega,by omega⟩,⟨by omega,by omega⟩,⟨by omega,by omega⟩,⟨by omega,by omega⟩,⟨by omega,by omega⟩,⟨by omega,by rw[qw];omega⟩,by rw[qw,qw,g2],⟨gW,⟨by omega,by omega⟩,⟨by omega,by omega,?_⟩,?_⟩,?_⟩
   ·rw[qw,qw];omega
   ·rw[qw,qw];omega
   dsimp only;rw[wi (i-1) qqo qqo];refine⟨⟨⟨by omega,by omega⟩,⟨(hl.trans hl0).trans g2,gW.sd qqo qqo qqo⟩,?_⟩,by omega⟩;rw[show(i-1+1).toNat=i.toNat by omega];exact g3
  ·have hh:=qc hh;rw[show(i+1).toNat=0 by omega,Sort.heapPop]at g3;unfold heapS;rw[<-g3]
noncomputable def k1r:Ct:= .g (gk 68 [.one (.row 0),.one (zqi),.one (zqi),.one (.clo 33 [none] [])] [.vec (.st 3)] (.tup [])) yL [.sl (.st 3)] [] fun(p1 p2:Int) (w0:List wA)=>(GL w0/\(0<=p1/\p1<=p2/\p2<=w0.length)/\w0.length<=1099511627776,(insS w0 p1 p2:List wA),())
theorem k1w:k1r.O:=prv Bs Tryz.func68 (.r 0 (.lp [] ⟨[0],[.vec (.st 3)],[8],[.one (zqi)],[]⟩ (.r 0 (.nd [] (.r 0 (.lp [] ⟨[0],[.vec (.st 3)],[9],[.one (zqi)],[]⟩ .no)) [] .no)))) (ku.c c0) (Q:=∀(p1 p2:Int) (w0:List wA),(GL w0/\(0<=p1/\p1<=p2/\p2<=w0.length)/\w0.length<=1099511627776)->∀e0:List wA,insS w0 p1 p2=e0-> 
∃(I1:Int->(List wA)->Prop) (M1:Int->(List wA)->Nat),I1 (i64.wrap (p1+1)) w0/\∀b1 f1,(I1 b1 f1->
(decide (b1<p2)=true->
∃(I2:Int->(List wA)->Prop) (M2:Int->(List wA)->Nat),I2 b1 f1/\∀i1 k1,(I2 i1 k1->
(decide (p1<i1)=true->
(0<=i1/\i1<(w0.length:Int))/\(0<=i1/\i1<(k1.length:Int))/\(0<=i64.wrap (i1-1)/\i64.wrap (i1-1)<(w0.length:Int))/\(0<=i64.wrap (i1-1)/\i64.wrap (i1-1)<(k1.length:Int))/\(GE (ix k1 i1)/\GE (ix k1 (i64.wrap (i1-1))))/\let r1:Int:=(cmpG (ix k1 i1) (ix k1 (i64.wrap (i1-1))))
(decide (r1<0)=true->
(0<=i64.wrap (i1-1)/\i64.wrap (i1-1)<(w0.length:Int))/\(0<=i64.wrap (i1-1)/\i64.wrap (i1-1)<(k1.length:Int))/\(0<=i1/\i1<(w0.length:Int))/\(0<=i1/\i1<(k1.length:Int))/\(0<=i1/\i1<(w0.length:Int))/\(0<=i1/\i1<(k1.length:Int))/\(0<=i64.wrap (i1-1)/\i64.wrap (i1-1)<(w0.length:Int))/\(0<=i64.wrap (i1-1)/\i64.wrap (i1-1)<((k1.set i1.toNat (ix k1 (i64.wrap (i1-1)))).length:Int))/\I2 (i64.wrap (i1-1)) ((k1.set i1.toNat (ix k1 (i64.wrap (i1-1)))).set (i64.wrap (i1-1)).toNat (ix k1 i1))/\M2 (i64.wrap (i1-1)) ((k1.set i1.toNat (ix k1 (i64.wrap (i1-1)))).set (i64.wrap (i1-1)).toNat (ix k1 i1))<M2 i1 k1)/\
(decide (r1<0)=false->
I1 (i64.wrap (b1+1)) k1/\M1 (i64.wrap (b1+1)) k1<M1 b1 f1))/\
(decide (p1<i1)=false->
I1 (i64.wrap (b1+1)) k1/\M1 (i64.wrap (b1+1)) k1<M1 b1 f1)))/\
(decide (b1<p2)=false->
f1=e0)))<|by
 rintro p1 p2 w0 h _ rfl;obtain⟨hG,⟨h1,h2,h3⟩,h4⟩:=h;rw[wi (p1+1) qqo qqo];refine⟨(fun i g=>(p1+1<=i/\i<=1099511627777)/\(g.length=w0.length/\GL g)/\Sort.insOuter ltA p1.toNat p2.toNat i.toNat g.toArray=Sort.insertionSort ltA w0.toArray p1.toNat p2.toNat),(fun i _=>(1099511627778-i).toNat),⟨⟨by omega,by omega⟩,⟨rfl,hG⟩,by unfold Sort.insertionSort;rw[show(p1+1).toNat=p1.toNat+1 by omega]⟩,?_⟩;rintro i g ⟨⟨g0,g1⟩,⟨g2,gH⟩,g3⟩;refine⟨fun hh=> ?_,fun hh=> ?_⟩
 ·have hh:=qb hh;rw[kih qqo hh]at g3;refine⟨(fun j g' =>(p1<=j/\j<=i)/\(g'.length=w0.length/\GL g')/\Sort.insInner ltA p1.toNat j.toNat g'.toArray=Sort.insInner ltA p1.toNat i.toNat g.toArray),(fun j _=>j.toNat),⟨⟨by omega,by omega⟩,⟨g2,gH⟩,rfl⟩,?_⟩;rintro j g' ⟨⟨k0,k1⟩,⟨k2,gG⟩,k3⟩;have nxt:g'.toArray=Sort.insInner ltA p1.toNat i.toNat g.toArray->((p1+1<=i64.wrap (i+1)/\i64.wrap (i+1)<=1099511627777)/\(g'.length=w0.length/\GL g')/\Sort.insOuter ltA p1.toNat p2.toNat (i64.wrap (i+1)).toNat g'.toArray=Sort.insertionSort ltA w0.toArray p1.toNat p2.toNat)/\(1099511627778-i64.wrap (i+1)).toNat<(1099511627778-i).toNat:=by intro e;rw[wi (i+1) qqo qqo,e];exact⟨⟨⟨by omega,by omega⟩,⟨k2,gG⟩,g3⟩,by omega⟩
  refine⟨fun h2=> ?_,fun h2=> ?_⟩
  ·have h2:=qb h2;rw[wi (j-1) qqo qqo];rw[kie h1 h2 qqo]at k3;refine⟨⟨by omega,by omega⟩,⟨by omega,by omega⟩,⟨by omega,by omega⟩,⟨by omega,by omega⟩,⟨gG.ix qqo qqo,gG.ix qqo qqo⟩,fun h5=> ?_,fun h5=> ?_⟩
   ·have h5:ix g' j<ix g' (j-1):=qb h5;rw[ql h5]at k3;exact⟨⟨by omega,by omega⟩,⟨by omega,by omega⟩,⟨by omega,by omega⟩,⟨by omega,by omega⟩,⟨by omega,by omega⟩,⟨by omega,by omega⟩,⟨by omega,by omega⟩,⟨by omega,by rw[qw];omega⟩,⟨⟨by omega,by omega⟩,⟨by rw[qw,qw];exact k2,gG.swp qqo qqo qqo qqo⟩,k3⟩,by(dsimp only;omega)⟩
   ·have h5:¬ix g' j<ix g' (j-1):=qc h5;rw[qm h5]at k3;exact nxt k3
  ·have h2:=qc h2;rw[kf6 h2]at k3;exact nxt k3
 ·have hh:=qc hh;rw[kfe qqo hh]at g3;unfold insS;rw[<-g3]
noncomputable def k18:Ct:= .b (gk 73 [.one (.row 0),.one (zqi),.one (zqi),.one (.clo 33 [none] [])] [.vec (.st 3)] (.one (.one (.d (.bool))))) yL [.bool,.sl (.st 3)] fun(p1 p2:Int) (w0:List wA)=>(GL w0/\(0<=p1/\p1<p2/\p2<=w0.length)/\w0.length<=1099511627776,pisS w0 p1 p2,fun R=>(R.2,R.1.toList,()))
set_option maxHeartbeats 1000000 in
theorem k1c:k18.O:=pbv Bs Tryz.func73 (.r 1 (.nd [] (.r 0 (.lp [] ⟨[0],[.vec (.st 3)],[9,10],[.one (zqi),.one (zqi)],[]⟩ (.r 0 (.nd [] (.jn ⟨[],[],[9],[.one (zqi)],[]⟩ [] (.lp [] ⟨[],[],[9],[.one (zqi)],[]⟩ .no) [] (.r 2 (.jn ⟨[0],[.vec (.st 3)],[],[],[]⟩ [] (.r 0 (.nd [] (.r 0 (.lp [] ⟨[0],[.vec (.st 3)],[11],[.one (zqi)],[]⟩ .no)) [] .no)) [] (.r 0 (.nd [] (.r 0 (.lp [] ⟨[0],[.vec (.st 3)],[12],[.one (zqi)],[]⟩ .no)) [] .no))))) [] .no)))) [] .no)) (ku.c c0) (Q:=∀(p1 p2:Int) (w0:List wA),(GL w0/\(0<=p1/\p1<p2/\p2<=w0.length)/\w0.length<=1099511627776)->∀R,pisS w0 p1 p2=R-> 
∃(I1:Int->Int->(List wA)->Prop) (M1:Int->Int->(List wA)->Nat),I1 (i64.wrap (p1+1)) 0 w0/\∀b1 f1 i1,(I1 b1 f1 i1->
(decide (f1<5)=true->
∀J1:Int->Prop,(∀(k1:Int),
(((k1==p2)=true->
true=R.2/\i1=R.1.toList)/\
((k1==p2)=false->
let v2:Bool:=decide ((i64.wrap (p2-p1))<50)
(v2=true->
false=R.2/\i1=R.1.toList)/\
(v2=false->
(0<=i64.wrap (k1-1)/\i64.wrap (k1-1)<(w0.length:Int))/\(0<=i64.wrap (k1-1)/\i64.wrap (k1-1)<(i1.length:Int))/\(0<=k1/\k1<(w0.length:Int))/\(0<=k1/\k1<(i1.length:Int))/\(0<=k1/\k1<(w0.length:Int))/\(0<=k1/\k1<(i1.length:Int))/\(0<=i64.wrap (k1-1)/\i64.wrap (k1-1)<(w0.length:Int))/\(0<=i64.wrap (k1-1)/\i64.wrap (k1-1)<((i1.set k1.toNat (ix i1 (i64.wrap (k1-1)))).length:Int))/\∀J2:(List wA)->Prop,(∀(m1:List wA),
(let v5:Bool:=decide (2<=(i64.wrap (p2-k1)))
(v5=true->
∃(I4:Int->(List wA)->Prop) (M4:Int->(List wA)->Nat),I4 (i64.wrap (k1+1)) m1/\∀q1 s1,(I4 q1 s1->
(decide (q1<p2)=true->
(0<=q1/\q1<(w0.length:Int))/\(0<=q1/\q1<(s1.length:Int))/\(0<=i64.wrap (q1-1)/\i64.wrap (q1-1)<(w0.length:Int))/\(0<=i64.wrap (q1-1)/\i64.wrap (q1-1)<(s1.length:Int))/\(GE (ix s1 q1)/\GE (ix s1 (i64.wrap (q1-1))))/\let r6:Int:=(cmpG (ix s1 q1) (ix s1 (i64.wrap (q1-1))))
((!decide (r6<0))=true->
I1 k1 (i64.wrap (f1+1)) s1/\M1 k1 (i64.wrap (f1+1)) s1<M1 b1 f1 i1)/\
((!decide (r6<0))=false->
(0<=i64.wrap (q1-1)/\i64.wrap (q1-1)<(w0.length:Int))/\(0<=i64.wrap (q1-1)/\i64.wrap (q1-1)<(s1.length:Int))/\(0<=q1/\q1<(w0.length:Int))/\(0<=q1/\q1<(s1.length:Int))/\(0<=q1/\q1<(w0.length:Int))/\(0<=q1/\q1<(s1.length:Int))/\(0<=i64.wrap (q1-1)/\i64.wrap (q1-1)<(w0.length:Int))/\(0<=i64.wrap (q1-1)/\i64.wrap (q1-1)<((s1.set q1.toNat (ix s1 (i64.wrap (q1-1)))).length:Int))/\I4 (i64.wrap (q1+1)) ((s1.set q1.toNat (ix s1 (i64.wrap (q1-1)))).set (i64.wrap (q1-1)).toNat (ix s1 q1))/\M4 (i64.wrap (q1+1)) ((s1.set q1.toNat (ix s1 (i64.wrap (q1-1)))).set (i64.wrap (q1-1)).toNat (ix s1 q1))<M4 q1 s1))/\
(decide (q1<p2)=false->
I1 k1 (i64.wrap (f1+1)) s1/\M1 k1 (i64.wrap (f1+1)) s1<M1 b1 f1 i1)))/\
(v5=false->
I1 k1 (i64.wrap (f1+1)) m1/\M1 k1 (i64.wrap (f1+1)) m1<M1 b1 f1 i1))->J2 m1)->
let v3:Bool:=decide (2<=(i64.wrap (k1-p1)))
(v3=true->
∃(I3:Int->(List wA)->Prop) (M3:Int->(List wA)->Nat),I3 (i64.wrap (k1-1)) ((i1.set k1.toNat (ix i1 (i64.wrap (k1-1)))).set (i64.wrap (k1-1)).toNat (ix i1 k1))/\∀n1 o1,(I3 n1 o1->
(decide (1<=n1)=true->
(0<=n1/\n1<(w0.length:Int))/\(0<=n1/\n1<(o1.length:Int))/\(0<=i64.wrap (n1-1)/\i64.wrap (n1-1)<(w0.length:Int))/\(0<=i64.wrap (n1-1)/\i64.wrap (n1-1)<(o1.length:Int))/\(GE (ix o1 n1)/\GE (ix o1 (i64.wrap (n1-1))))/\let r4:Int:=(cmpG (ix o1 n1) (ix o1 (i64.wrap (n1-1))))
((!decide (r4<0))=true->
J2 o1)/\
((!decide (r4<0))=false->
(0<=i64.wrap (n1-1)/\i64.wrap (n1-1)<(w0.length:Int))/\(0<=i64.wrap (n1-1)/\i64.wrap (n1-1)<(o1.length:Int))/\(0<=n1/\n1<(w0.length:Int))/\(0<=n1/\n1<(o1.length:Int))/\(0<=n1/\n1<(w0.length:Int))/\(0<=n1/\n1<(o1.length:Int))/\(0<=i64.wrap (n1-1)/\i64.wrap (n1-1)<(w0.length:Int))/\(0<=i64.wrap (n1-1)/\i64.wrap (n1-1)<((o1.set n1.toNat (ix o1 (i64.wrap (n1-1)))).length:Int))/\I3 (i64.wrap (n1-1)) ((o1.set n1.toNat (ix o1 (i64.wrap (n1-1)))).set (i64.wrap (n1-1)).toNat (ix o1 n1))/\M3 (i64.wrap (n1-1)) ((o1.set n1.toNat (ix o1 (i64.wrap (n1-1)))).set (i64.wrap (n1-1)).toNat (ix o1 n1))<M3 n1 o1))/\
(decide (1<=n1)=false->
J2 o1)))/\
(v3=false->
J2 ((i1.set k1.toNat (ix i1 (i64.wrap (k1-1)))).set (i64.wrap (k1-1)).toNat (ix i1 k1))))))->J1 k1)->
∃(I2:Int->Prop) (M2:Int->Nat),I2 b1/\∀l1,(I2 l1->
(decide (l1<p2)=true->
(0<=l1/\l1<(w0.length:Int))/\(0<=l1/\l1<(i1.length:Int))/\(0<=i64.wrap (l1-1)/\i64.wrap (l1-1)<(w0.length:Int))/\(0<=i64.wrap (l1-1)/\i64.wrap (l1-1)<(i1.length:Int))/\(GE (ix i1 l1)/\GE (ix i1 (i64.wrap (l1-1))))/\let r1:Int:=(cmpG (ix i1 l1) (ix i1 (i64.wrap (l1-1))))
((!decide (r1<0))=true->
I2 (i64.wrap (l1+1))/\M2 (i64.wrap (l1+1))<M2 l1)/\
((!decide (r1<0))=false->
J1 l1))/\
(decide (l1<p2)=false->
J1 l1)))/\
(decide (f1<5)=false->
false=R.2/\i1=R.1.toList)))<|by
 rintro p1 p2 w0 h R hR;obtain⟨hG,⟨h1,h2,h3⟩,h4⟩:=h;rw[wi (p1+1) qqo qqo];have hst:R=Sort.partialIns ltA p1.toNat p2.toNat 5 (p1.toNat+1) w0.toArray:=hR.symm;clear hR;refine⟨fun i jj g=>(p1<i/\i<=p2)/\(0<=jj/\jj<=5)/\(g.length=w0.length/\GL g)/\R=Sort.partialIns ltA p1.toNat p2.toNat (5-jj).toNat i.toNat g.toArray,fun _ jj _=>(5-jj).toNat,⟨⟨by omega,by omega⟩,⟨by omega,by omega⟩,⟨rfl,hG⟩,by rw[hst,show(p1+1).toNat=p1.toNat+1 by omega];rfl⟩,?_⟩;clear hst;rintro i jj g ⟨⟨i0,i1⟩,⟨j0,j1⟩,⟨g2,gG⟩,g3⟩;refine⟨fun hh J1 kJ1=> ?_,fun hh=> ?_⟩
 ·have hh:=qb hh;rw[show(5-jj).toNat=(5-(jj+1)).toNat+1 by omega,Sort.partialIns_succ]at g3;have wj:=wi (jj+1) qqo qqo;have last:∀(i' :Int) (g' :List wA),(p1<i'/\i'<=p2)->(g'.length=w0.length/\GL g')->R=Sort.partialIns ltA p1.toNat p2.toNat (5-(jj+1)).toNat i'.toNat g'.toArray->(((p1<i'/\i'<=p2)/\(0<=i64.wrap (jj+1)/\i64.wrap (jj+1)<=5)/\(g'.length=w0.length/\GL g')/\R=Sort.partialIns ltA p1.toNat p2.toNat (5-i64.wrap (jj+1)).toNat i'.toNat g'.toArray)/\(5-i64.wrap (jj+1)).toNat<(5-jj).toNat):=by intro i' g' q1 q2 q3;rw[wj];exact⟨⟨q1,⟨by omega,by omega⟩,q2,q3⟩,by omega⟩
  have jj1:∀i' :Int,(p1<i'/\i'<=p2)->Sort.scanSorted ltA g.toArray p2.toNat i.toNat=i'.toNat->J1 i' :=by
   intro i' ⟨q0,q1⟩ q2;rw[q2]at g3;refine kJ1 _ ?_;rw[wi (p2-p1) qqo qqo,wi (i' -1) qqo qqo,wi (i' -p1) qqo qqo];refine⟨fun e=> ?_,fun e=>⟨fun e2=> ?_,fun e2=> ?_⟩⟩
   ·have e:i' =p2:=by simpa using e
    rw[ql qqo]at g3;rw[g3];exact⟨rfl,rfl⟩
   ·have e:¬i' =p2:=by simpa using e
    have e2:=qb e2;rw[qm qqo,ql qqo]at g3;rw[g3];exact⟨rfl,rfl⟩
   ·have e:¬i' =p2:=by simpa using e
    have e2:=qc e2;rw[qm qqo,qm qqo]at g3;have hs:=swp_arr (g:=g) (i:=i') (j:=i' -1) qqo qqo qqo qqo;rw[show i'.toNat-1=(i' -1).toNat by omega,hs]at g3;have sl:(swpL g i' (i' -1)).length=w0.length/\GL (swpL g i' (i' -1)):=⟨by rw[k7b];exact g2,gG.swp qqo qqo qqo qqo⟩;refine⟨⟨by omega,by omega⟩,⟨by omega,by omega⟩,⟨by omega,by omega⟩,⟨by omega,by omega⟩,⟨by omega,by omega⟩,⟨by omega,by omega⟩,⟨by omega,by omega⟩,⟨by omega,by rw[qw];omega⟩,fun J2 kJ2=> ?_⟩
    have j2:∀g' :List wA,(g'.length=w0.length/\GL g')->R=Sort.partialIns ltA p1.toNat p2.toNat (5-(jj+1)).toNat i'.toNat (Sort.fixUp ltA p2.toNat i'.toNat g'.toArray)->J2 g' :=by
     intro g' q2 q3;refine kJ2 _ ?_;rw[wi (p2-i') qqo qqo,wi (i' +1) qqo qqo];refine⟨fun e=> ?_,fun e=>last _ _ ⟨q0,by omega⟩ q2 ?_⟩
     ·have e:=qb e;unfold Sort.fixUp at q3;rw[ql qqo,show i'.toNat+1=(i' +1).toNat by omega]at q3;refine⟨fun k g2=>(i' +1<=k/\k<=p2)/\(g2.length=w0.length/\GL g2)/\Sort.shiftUp ltA p2.toNat k.toNat g2.toArray=Sort.shiftUp ltA p2.toNat (i' +1).toNat g'.toArray,fun k _=>(p2-k).toNat,⟨⟨by omega,by omega⟩,q2,rfl⟩,?_⟩;rintro k g2 ⟨⟨k0,k1⟩,⟨k2,gG⟩,k3⟩;refine⟨fun c=> ?_,fun c=> ?_⟩
      ·have c:=qb c;rw[wi (k-1) qqo qqo,wi (k+1) qqo qqo];rw[kk1 qqo c qqo]at k3;refine⟨⟨by omega,by omega⟩,⟨by omega,by omega⟩,⟨by omega,by omega⟩,⟨by omega,by omega⟩,⟨gG.ix qqo qqo,gG.ix qqo qqo⟩,fun d=> ?_,fun d=> ?_⟩
       ·have d:¬ix g2 k<ix g2 (k-1):=nlt_of d;rw[qm d]at k3;exact last _ _ ⟨q0,by omega⟩ ⟨k2,gG⟩ (by rw[q3,<-k3])
       ·have d:ix g2 k<ix g2 (k-1):=lt_of d;rw[ql d]at k3;exact⟨⟨by omega,by omega⟩,⟨by omega,by omega⟩,⟨by omega,by omega⟩,⟨by omega,by omega⟩,⟨by omega,by omega⟩,⟨by omega,by omega⟩,⟨by omega,by omega⟩,⟨by omega,by rw[qw];omega⟩,⟨⟨by omega,by omega⟩,⟨by rw[qw,qw];exact k2,gG.swp qqo qqo qqo qqo⟩,k3⟩,by(dsimp only;omega)⟩
      ·have c:=qc c;rw[kj6 qqo c]at k3;exact last _ _ ⟨q0,by omega⟩ ⟨k2,gG⟩ (by rw[q3,<-k3])
     ·have e:=qc e;unfold Sort.fixUp at q3;rw[qm qqo]at q3;exact q3
    refine⟨fun e3=> ?_,fun e3=> ?_⟩
    ·have e3:=qb e3;unfold Sort.fixDown at g3;rw[ql qqo,show i'.toNat-1=(i' -1).toNat by omega]at g3;refine⟨fun k g2=>(0<=k/\k<p2)/\(g2.length=w0.length/\GL g2)/\Sort.shiftDown ltA k.toNat g2.toArray=Sort.shiftDown ltA (i' -1).toNat (swpL g i' (i' -1)).toArray,fun k _=>k.toNat,⟨⟨by omega,by omega⟩,sl,rfl⟩,?_⟩;rintro k g2 ⟨⟨k0,k1⟩,⟨k2,gG⟩,k3⟩;refine⟨fun c=> ?_,fun c=> ?_⟩
     ·have c:=qb c;rw[wi (k-1) qqo qqo];rw[kgp c qqo]at k3;refine⟨⟨by omega,by omega⟩,⟨by omega,by omega⟩,⟨by omega,by omega⟩,⟨by omega,by omega⟩,⟨gG.ix qqo qqo,gG.ix qqo qqo⟩,fun d=> ?_,fun d=> ?_⟩
      ·have d:¬ix g2 k<ix g2 (k-1):=nlt_of d;rw[qm d]at k3;exact j2 _ ⟨k2,gG⟩ (by rw[g3,k3])
      ·have d:ix g2 k<ix g2 (k-1):=lt_of d;rw[ql d]at k3;exact⟨⟨by omega,by omega⟩,⟨by omega,by omega⟩,⟨by omega,by omega⟩,⟨by omega,by omega⟩,⟨by omega,by omega⟩,⟨by omega,by omega⟩,⟨by omega,by omega⟩,⟨by omega,by rw[qw];omega⟩,⟨⟨by omega,by omega⟩,⟨by rw[qw,qw];exact k2,gG.swp qqo qqo qqo qqo⟩,k3⟩,by(dsimp only;omega)⟩
     ·have c:=qc c;rw[kem c]at k3;exact j2 _ ⟨k2,gG⟩ (by rw[g3,k3])
    ·have e3:=qc e3;unfold Sort.fixDown at g3;rw[qm qqo]at g3;exact j2 _ sl g3
  refine⟨fun i' =>(p1<i'/\i'<=p2)/\Sort.scanSorted ltA g.toArray p2.toNat i'.toNat=Sort.scanSorted ltA g.toArray p2.toNat i.toNat,fun i' =>(p2-i').toNat,⟨⟨i0,i1⟩,rfl⟩,?_⟩;rintro i' ⟨⟨q0,q1⟩,q2⟩;refine⟨fun c=> ?_,fun c=> ?_⟩
  ·have c:=qb c;rw[ke3 qqo c qqo]at q2;rw[wi (i' -1) qqo qqo,wi (i' +1) qqo qqo];refine⟨⟨by omega,by omega⟩,⟨by omega,by omega⟩,⟨by omega,by omega⟩,⟨by omega,by omega⟩,⟨gG.ix qqo qqo,gG.ix qqo qqo⟩,fun d=>⟨⟨⟨by omega,by omega⟩,?_⟩,by(dsimp only;omega)⟩,fun d=>jj1 _ ⟨q0,q1⟩ ?_⟩
   ·have d:¬ix g i' <ix g (i' -1):=nlt_of d;rw[qm d]at q2;exact q2
   ·have d:ix g i' <ix g (i' -1):=lt_of d;rw[ql d]at q2;exact q2.symm
  ·have c:=qc c;rw[kcd qqo c]at q2;exact jj1 _ ⟨q0,q1⟩ q2.symm
 ·have hh:=qc hh;rw[show(5-jj).toNat=0 by omega]at g3;rw[g3];exact⟨rfl,rfl⟩
noncomputable def k2g:Ct:= .b (gk 75 [.one (.row 0),.one (zqi),.one (zqi),.one (zqi),.one (.clo 33 [none] [])] [.vec (.st 3)] (.tup [.one (zqi),.one (.d (.bool))])) yG [yqi,.bool,.sl (.st 3)] fun(p1 p2 p3:Int) (w0:List wA)=>(GL w0/\(0<=p1/\p1<=p3/\p3<p2/\p2<=w0.length)/\w0.length<=1099511627776,partS w0 p1 p2 p3,fun R=>((((partS w0 p1 p2 p3).1:Int):Int),R.2.1,R.2.2.toList,()))
set_option maxHeartbeats 1000000 in
theorem k2n:k2g.O:=pbv Bs Tryz.func75 (.r 2 (.jn ⟨[],[],[12],[.one (zqi)],[]⟩ [] (.lp [] ⟨[],[],[12],[.one (zqi)],[]⟩ .no) [] (.jn ⟨[],[],[13],[.one (zqi)],[]⟩ [] (.lp [] ⟨[],[],[13],[.one (zqi)],[]⟩ .no) [] (.r 3 (.nd [] (.lp [] ⟨[0],[.vec (.st 3)],[12,13],[.one (zqi),.one (zqi)],[]⟩ (.jn ⟨[],[],[12],[.one (zqi)],[]⟩ [] (.lp [] ⟨[],[],[12],[.one (zqi)],[]⟩ .no) [] (.jn ⟨[],[],[13],[.one (zqi)],[]⟩ [] (.lp [] ⟨[],[],[13],[.one (zqi)],[]⟩ .no) [] .no))) [] .no))))) (ku.c c0) (Q:=∀(p1 p2 p3:Int) (w0:List wA),(GL w0/\(0<=p1/\p1<=p3/\p3<p2/\p2<=w0.length)/\w0.length<=1099511627776)->∀R,partS w0 p1 p2 p3=R-> 
(0<=p3/\p3<(w0.length:Int))/\(0<=p3/\p3<(w0.length:Int))/\(0<=p1/\p1<(w0.length:Int))/\(0<=p1/\p1<(w0.length:Int))/\(0<=p1/\p1<(w0.length:Int))/\(0<=p1/\p1<(w0.length:Int))/\(0<=p3/\p3<(w0.length:Int))/\(0<=p3/\p3<((w0.set p1.toNat (ix w0 p3)).length:Int))/\∀J1:Int->Prop,(∀(b1:Int),
(∀J2:Int->Prop,(∀(i1:Int),
((decide (i1<b1)=true->
(0<=p1/\p1<(w0.length:Int))/\(0<=p1/\p1<(((w0.set p1.toNat (ix w0 p3)).set p3.toNat (ix w0 p1)).length:Int))/\(0<=i1/\i1<(w0.length:Int))/\(0<=i1/\i1<(((w0.set p1.toNat (ix w0 p3)).set p3.toNat (ix w0 p1)).length:Int))/\(0<=i1/\i1<(w0.length:Int))/\(0<=i1/\i1<(((w0.set p1.toNat (ix w0 p3)).set p3.toNat (ix w0 p1)).length:Int))/\(0<=p1/\p1<(w0.length:Int))/\(0<=p1/\p1<((((w0.set p1.toNat (ix w0 p3)).set p3.toNat (ix w0 p1)).set i1.toNat (ix ((w0.set p1.toNat (ix w0 p3)).set p3.toNat (ix w0 p1)) p1)).length:Int))/\i1=((partS w0 p1 p2 p3).1:Int)/\true=R.2.1/\(((w0.set p1.toNat (ix w0 p3)).set p3.toNat (ix w0 p1)).set i1.toNat (ix ((w0.set p1.toNat (ix w0 p3)).set p3.toNat (ix w0 p1)) p1)).set p1.toNat (ix ((w0.set p1.toNat (ix w0 p3)).set p3.toNat (ix w0 p1)) i1)=R.2.2.toList)/\
(decide (i1<b1)=false->
(0<=i1/\i1<(w0.length:Int))/\(0<=i1/\i1<(((w0.set p1.toNat (ix w0 p3)).set p3.toNat (ix w0 p1)).length:Int))/\(0<=b1/\b1<(w0.length:Int))/\(0<=b1/\b1<(((w0.set p1.toNat (ix w0 p3)).set p3.toNat (ix w0 p1)).length:Int))/\(0<=b1/\b1<(w0.length:Int))/\(0<=b1/\b1<(((w0.set p1.toNat (ix w0 p3)).set p3.toNat (ix w0 p1)).length:Int))/\(0<=i1/\i1<(w0.length:Int))/\(0<=i1/\i1<((((w0.set p1.toNat (ix w0 p3)).set p3.toNat (ix w0 p1)).set b1.toNat (ix ((w0.set p1.toNat (ix w0 p3)).set p3.toNat (ix w0 p1)) i1)).length:Int))/\∃(I3:Int->Int->(List wA)->Prop) (M3:Int->Int->(List wA)->Nat),I3 (i64.wrap (b1+1)) (i64.wrap (i1-1)) ((((w0.set p1.toNat (ix w0 p3)).set p3.toNat (ix w0 p1)).set b1.toNat (ix ((w0.set p1.toNat (ix w0 p3)).set p3.toNat (ix w0 p1)) i1)).set i1.toNat (ix ((w0.set p1.toNat (ix w0 p3)).set p3.toNat (ix w0 p1)) b1))/\∀l1 m1 n1,(I3 l1 m1 n1->
∀J3:Int->Prop,(∀(o1:Int),
(∀J4:Int->Prop,(∀(s1:Int),
((decide (s1<o1)=true->
(0<=p1/\p1<(w0.length:Int))/\(0<=p1/\p1<(n1.length:Int))/\(0<=s1/\s1<(w0.length:Int))/\(0<=s1/\s1<(n1.length:Int))/\(0<=s1/\s1<(w0.length:Int))/\(0<=s1/\s1<(n1.length:Int))/\(0<=p1/\p1<(w0.length:Int))/\(0<=p1/\p1<((n1.set s1.toNat (ix n1 p1)).length:Int))/\s1=((partS w0 p1 p2 p3).1:Int)/\false=R.2.1/\(n1.set s1.toNat (ix n1 p1)).set p1.toNat (ix n1 s1)=R.2.2.toList)/\
(decide (s1<o1)=false->
(0<=s1/\s1<(w0.length:Int))/\(0<=s1/\s1<(n1.length:Int))/\(0<=o1/\o1<(w0.length:Int))/\(0<=o1/\o1<(n1.length:Int))/\(0<=o1/\o1<(w0.length:Int))/\(0<=o1/\o1<(n1.length:Int))/\(0<=s1/\s1<(w0.length:Int))/\(0<=s1/\s1<((n1.set o1.toNat (ix n1 s1)).length:Int))/\I3 (i64.wrap (o1+1)) (i64.wrap (s1-1)) ((n1.set o1.toNat (ix n1 s1)).set s1.toNat (ix n1 o1))/\M3 (i64.wrap (o1+1)) (i64.wrap (s1-1)) ((n1.set o1.toNat (ix n1 s1)).set s1.toNat (ix n1 o1))<M3 l1 m1 n1))->J4 s1)->
∃(I5:Int->Prop) (M5:Int->Nat),I5 m1/\∀t1,(I5 t1->
(decide (o1<=t1)=true->
(0<=t1/\t1<(w0.length:Int))/\(0<=t1/\t1<(n1.length:Int))/\(0<=p1/\p1<(w0.length:Int))/\(0<=p1/\p1<(n1.length:Int))/\(GE (ix n1 t1)/\GE (ix n1 p1))/\let v6:Bool:=decide ((cmpG (ix n1 t1) (ix n1 p1))<0)
((!v6)=true->
I5 (i64.wrap (t1-1))/\M5 (i64.wrap (t1-1))<M5 t1)/\
((!v6)=false->
J4 t1))/\
(decide (o1<=t1)=false->
J4 t1)))->J3 o1)->
∃(I4:Int->Prop) (M4:Int->Nat),I4 l1/\∀q1,(I4 q1->
(decide (q1<=m1)=true->
(0<=q1/\q1<(w0.length:Int))/\(0<=q1/\q1<(n1.length:Int))/\(0<=p1/\p1<(w0.length:Int))/\(0<=p1/\p1<(n1.length:Int))/\(GE (ix n1 q1)/\GE (ix n1 p1))/\let v5:Bool:=decide ((cmpG (ix n1 q1) (ix n1 p1))<0)
(v5=true->
I4 (i64.wrap (q1+1))/\M4 (i64.wrap (q1+1))<M4 q1)/\
(v5=false->
J3 q1))/\
(decide (q1<=m1)=false->
J3 q1)))))->J2 i1)->
∃(I2:Int->Prop) (M2:Int->Nat),I2 (i64.wrap (p2-1))/\∀k1,(I2 k1->
(decide (b1<=k1)=true->
(0<=k1/\k1<(w0.length:Int))/\(0<=k1/\k1<(((w0.set p1.toNat (ix w0 p3)).set p3.toNat (ix w0 p1)).length:Int))/\(0<=p1/\p1<(w0.length:Int))/\(0<=p1/\p1<(((w0.set p1.toNat (ix w0 p3)).set p3.toNat (ix w0 p1)).length:Int))/\(GE (ix ((w0.set p1.toNat (ix w0 p3)).set p3.toNat (ix w0 p1)) k1)/\GE (ix ((w0.set p1.toNat (ix w0 p3)).set p3.toNat (ix w0 p1)) p1))/\let r4:Int:=(cmpG (ix ((w0.set p1.toNat (ix w0 p3)).set p3.toNat (ix w0 p1)) k1) (ix ((w0.set p1.toNat (ix w0 p3)).set p3.toNat (ix w0 p1)) p1))
((!decide (r4<0))=true->
I2 (i64.wrap (k1-1))/\M2 (i64.wrap (k1-1))<M2 k1)/\
((!decide (r4<0))=false->
J2 k1))/\
(decide (b1<=k1)=false->
J2 k1)))->J1 b1)->
∃(I1:Int->Prop) (M1:Int->Nat),I1 (i64.wrap (p1+1))/\∀f1,(I1 f1->
let v2:Bool:=decide (f1<=(i64.wrap (p2-1)))
(v2=true->
(0<=f1/\f1<(w0.length:Int))/\(0<=f1/\f1<(((w0.set p1.toNat (ix w0 p3)).set p3.toNat (ix w0 p1)).length:Int))/\(0<=p1/\p1<(w0.length:Int))/\(0<=p1/\p1<(((w0.set p1.toNat (ix w0 p3)).set p3.toNat (ix w0 p1)).length:Int))/\(GE (ix ((w0.set p1.toNat (ix w0 p3)).set p3.toNat (ix w0 p1)) f1)/\GE (ix ((w0.set p1.toNat (ix w0 p3)).set p3.toNat (ix w0 p1)) p1))/\let r3:Int:=(cmpG (ix ((w0.set p1.toNat (ix w0 p3)).set p3.toNat (ix w0 p1)) f1) (ix ((w0.set p1.toNat (ix w0 p3)).set p3.toNat (ix w0 p1)) p1))
(decide (r3<0)=true->
I1 (i64.wrap (f1+1))/\M1 (i64.wrap (f1+1))<M1 f1)/\
(decide (r3<0)=false->
J1 f1))/\
(v2=false->
J1 f1)))<|by
 rintro p1 p2 p3 w0 h R hR;subst hR;obtain⟨hG,⟨h1,h2,h3,h4⟩,h5⟩:=h;have hs0:=swp_arr (g:=w0) (i:=p1) (j:=p3) qqo qqo qqo qqo;have hst:partS w0 p1 p2 p3=Sort.partition ltA w0.toArray p1.toNat p2.toNat p3.toNat:=rfl;unfold Sort.partition at hst;dsimp only at hst;rw[hs0]at hst;have gG:GL (swpL w0 p1 p3):=hG.swp qqo qqo qqo qqo;have hl0:(swpL w0 p1 p3).length=w0.length:=k7b;refine⟨⟨by omega,by omega⟩,⟨by omega,by omega⟩,⟨by omega,by omega⟩,⟨by omega,by omega⟩,⟨by omega,by omega⟩,⟨by omega,by omega⟩,⟨by omega,by omega⟩,⟨by omega,by rw[qw];omega⟩,?_⟩;rw[wi (p1+1) qqo qqo,wi (p2-1) qqo qqo,show(w0.set p1.toNat (ix w0 p3)).set p3.toNat (ix w0 p1)=swpL w0 p1 p3 from rfl];generalize partS w0 p1 p2 p3=R at *
 generalize swpL w0 p1 p3=gs at *
 rw[show p2.toNat-1=(p2-1).toNat by omega,show p1.toNat+1=(p1+1).toNat by omega,arr_ix (g:=gs) (i:=p1) qqo qqo]at hst;clear hs0;intro J1 kJ1
 have jj1:∀i' :Int,(p1+1<=i'/\i'<=p2)->Sort.scanUp (fun x=>ltA x (ix gs p1)) gs.toArray (p2-1).toNat (p1+1).toNat=i'.toNat->(i'<=p2-1->¬ix gs i' <ix gs p1)->J1 i' :=by
  intro i' ⟨q0,q1⟩ e1 e2;refine kJ1 _ fun J2 kJ2=> ?_
  have jj2:∀j' :Int,(i' -1<=j'/\j'<=p2-1)->Sort.scanDown (fun x=> !ltA x (ix gs p1)) gs.toArray i'.toNat (p2-1).toNat=j'.toNat->(i'<=j'->i' <j')->J2 j' :=by
   intro j' ⟨q2,q3⟩ e4 e3;rw[e1,e4]at hst;refine kJ2 _ ⟨fun c=> ?_,fun c=> ?_⟩
   ·have c:=qb c;rw[ql qqo]at hst;have hs:=swp_arr (g:=gs) (i:=j') (j:=p1) qqo qqo qqo qqo;rw[hs]at hst;rw[hst];exact⟨⟨by omega,by omega⟩,⟨by omega,by omega⟩,⟨by omega,by omega⟩,⟨by omega,by omega⟩,⟨by omega,by omega⟩,⟨by omega,by omega⟩,⟨by omega,by omega⟩,⟨by omega,by rw[qw];omega⟩,(Int.toNat_of_nonneg qqo).symm,rfl,rfl⟩
   ·have c:=qc c;have hs:=swp_arr (g:=gs) (i:=i') (j:=j') qqo qqo qqo qqo;rw[qm qqo,hs,show i'.toNat+1=(i' +1).toNat by omega,show j'.toNat-1=(j' -1).toNat by omega]at hst;have e5:=e3 qqo;rw[wi (i' +1) qqo qqo,wi (j' -1) qqo qqo];refine⟨⟨by omega,by omega⟩,⟨by omega,by omega⟩,⟨by omega,by omega⟩,⟨by omega,by omega⟩,⟨by omega,by omega⟩,⟨by omega,by omega⟩,⟨by omega,by omega⟩,⟨by omega,by rw[qw];omega⟩,fun i j g=>(p1<i/\i<=j+1/\j<p2)/\(g.length=w0.length/\GL g)/\R=((Sort.partLoop ltA p1.toNat i.toNat j.toNat g.toArray).1,false,Sort.swp (Sort.partLoop ltA p1.toNat i.toNat j.toNat g.toArray).2 (Sort.partLoop ltA p1.toNat i.toNat j.toNat g.toArray).1 p1.toNat),fun i j _=>(j+1-i).toNat,⟨⟨by omega,by omega,by omega⟩,⟨by rw[qw,qw];exact hl0,gG.swp qqo qqo qqo qqo⟩,hst⟩,?_⟩;clear hst hs e1 e4;rintro i j g ⟨⟨i0,i1,i2⟩,⟨g2,gG⟩,g3⟩ J3 kJ3;rw[Sort.partLoop_eq]at g3;have xa:=arr_ix (g:=g) (i:=p1) qqo qqo;rw[xa]at g3
    have jj3:∀i' :Int,(i<=i'/\i'<=j+1)->Sort.scanUp (fun x=>ltA x (ix g p1)) g.toArray j.toNat i.toNat=i'.toNat->(i'<=j->¬ix g i' <ix g p1)->J3 i' :=by
     intro i' ⟨q0,q1⟩ e1 e2;refine kJ3 _ fun J4 kJ4=> ?_
     have jj4:∀j' :Int,(i' -1<=j'/\j'<=j)->Sort.scanDown (fun x=> !ltA x (ix g p1)) g.toArray i'.toNat j.toNat=j'.toNat->(i'<=j'->i' <j')->J4 j' :=by
      intro j' ⟨q2,q3⟩ e4 e3;rw[e1,e4]at g3;refine kJ4 _ ⟨fun c=> ?_,fun c=> ?_⟩
      ·have c:=qb c;rw[ql qqo]at g3;have hs:=swp_arr (g:=g) (i:=j') (j:=p1) qqo qqo qqo qqo;dsimp only at g3;rw[hs]at g3;rw[g3];exact⟨⟨by omega,by omega⟩,⟨by omega,by omega⟩,⟨by omega,by omega⟩,⟨by omega,by omega⟩,⟨by omega,by omega⟩,⟨by omega,by omega⟩,⟨by omega,by omega⟩,⟨by omega,by rw[qw];omega⟩,(Int.toNat_of_nonneg qqo).symm,rfl,rfl⟩
      ·have c:=qc c;have hs:=swp_arr (g:=g) (i:=i') (j:=j') qqo qqo qqo qqo;rw[qm qqo,hs,show i'.toNat+1=(i' +1).toNat by omega,show j'.toNat-1=(j' -1).toNat by omega]at g3;have w1:=wi (i' +1) qqo qqo;have w2:=wi (j' -1) qqo qqo;have e4:=e3 qqo;rw[w1,w2];exact⟨⟨by omega,by omega⟩,⟨by omega,by omega⟩,⟨by omega,by omega⟩,⟨by omega,by omega⟩,⟨by omega,by omega⟩,⟨by omega,by omega⟩,⟨by omega,by omega⟩,⟨by omega,by rw[qw];omega⟩,⟨⟨by omega,by omega,by omega⟩,⟨by rw[qw,qw];exact g2,gG.swp qqo qqo qqo qqo⟩,g3⟩,by(dsimp only;omega)⟩
     refine⟨fun j' =>(i' -1<=j'/\j'<=j)/\Sort.scanDown (fun x=> !ltA x (ix g p1)) g.toArray i'.toNat j'.toNat=Sort.scanDown (fun x=> !ltA x (ix g p1)) g.toArray i'.toNat j.toNat,fun j' =>(j' +1).toNat,⟨⟨by omega,by omega⟩,rfl⟩,?_⟩;rintro j' ⟨⟨k0,k1⟩,k2⟩;refine⟨fun c=> ?_,fun c=> ?_⟩
     ·have c:=qb c;have xj:=arr_ix (g:=g) (i:=j') qqo qqo;rw[k5l qqo c,xj,ltI_iff]at k2;rw[wi (j' -1) qqo qqo];refine⟨⟨by omega,by omega⟩,⟨by omega,by omega⟩,⟨by omega,by omega⟩,⟨by omega,by omega⟩,⟨gG.ix qqo qqo,gG.ix qqo qqo⟩,fun d=>⟨⟨⟨by omega,by omega⟩,?_⟩,by(dsimp only;omega)⟩,fun d=> ?_⟩
      ·have d:(!decide (ix g j' <ix g p1))=true:=d;rw[ql d]at k2;exact k2
      ·have d:(!decide (ix g j' <ix g p1))=false:=d;rw[qm (by rw[d];decide)]at k2;refine jj4 j' ⟨k0,k1⟩ k2.symm fun e=> ?_;have:=e2 qqo;have d:ix g j' <ix g p1:=by simpa using d
       by_cases hij:i' =j'
       ·subst hij;exact absurd d this
       ·omega
     ·have c:=qc c;rw[k4s qqo c]at k2;exact jj4 j' ⟨k0,k1⟩ k2.symm fun e=>absurd e c
    refine⟨fun i' =>(i<=i'/\i'<=j+1)/\Sort.scanUp (fun x=>ltA x (ix g p1)) g.toArray j.toNat i'.toNat=Sort.scanUp (fun x=>ltA x (ix g p1)) g.toArray j.toNat i.toNat,fun i' =>(j+2-i').toNat,⟨⟨by omega,by omega⟩,rfl⟩,?_⟩;rintro i' ⟨⟨k0,k1⟩,k2⟩;refine⟨fun c=> ?_,fun c=> ?_⟩
    ·have c:=qb c;have xj:=arr_ix (g:=g) (i:=i') qqo qqo;rw[k82 qqo c,xj,ltI_iff]at k2;rw[wi (i' +1) qqo qqo];refine⟨⟨by omega,by omega⟩,⟨by omega,by omega⟩,⟨by omega,by omega⟩,⟨by omega,by omega⟩,⟨gG.ix qqo qqo,gG.ix qqo qqo⟩,fun d=>⟨⟨⟨by omega,by omega⟩,?_⟩,by(dsimp only;omega)⟩,fun d=> ?_⟩
     ·have d:(decide (ix g i' <ix g p1))=true:=d;rw[ql d]at k2;exact k2
     ·have d:(decide (ix g i' <ix g p1))=false:=d;rw[qm (by rw[d];decide)]at k2;exact jj3 i' ⟨k0,k1⟩ k2.symm fun _=>qc d
    ·have c:=qc c;rw[k73 qqo c]at k2;exact jj3 i' ⟨k0,k1⟩ k2.symm fun e=>absurd e c
  refine⟨fun j' =>(i' -1<=j'/\j'<=p2-1)/\Sort.scanDown (fun x=> !ltA x (ix gs p1)) gs.toArray i'.toNat j'.toNat=Sort.scanDown (fun x=> !ltA x (ix gs p1)) gs.toArray i'.toNat (p2-1).toNat,fun j' =>(j' +1).toNat,⟨⟨by omega,by omega⟩,rfl⟩,?_⟩;rintro j' ⟨⟨k0,k1⟩,k2⟩;refine⟨fun c=> ?_,fun c=> ?_⟩
  ·have c:=qb c;have xj:=arr_ix (g:=gs) (i:=j') qqo qqo;rw[k5l qqo c,xj,ltI_iff]at k2;rw[wi (j' -1) qqo qqo];refine⟨⟨by omega,by omega⟩,⟨by omega,by omega⟩,⟨by omega,by omega⟩,⟨by omega,by omega⟩,⟨gG.ix qqo qqo,gG.ix qqo qqo⟩,fun d=>⟨⟨⟨by omega,by omega⟩,?_⟩,by(dsimp only;omega)⟩,fun d=> ?_⟩
   ·have d:(!decide (ix gs j' <ix gs p1))=true:=d;rw[ql d]at k2;exact k2
   ·have d:(!decide (ix gs j' <ix gs p1))=false:=d;rw[qm (by rw[d];decide)]at k2;refine jj2 j' ⟨k0,k1⟩ k2.symm fun e=> ?_;have:=e2 qqo;have d:ix gs j' <ix gs p1:=by simpa using d
    by_cases hij:i' =j'
    ·subst hij;exact absurd d this
    ·omega
  ·have c:=qc c;rw[k4s qqo c]at k2;exact jj2 j' ⟨k0,k1⟩ k2.symm fun e=>absurd e c
 refine⟨fun i' =>(p1+1<=i'/\i'<=p2)/\Sort.scanUp (fun x=>ltA x (ix gs p1)) gs.toArray (p2-1).toNat i'.toNat=Sort.scanUp (fun x=>ltA x (ix gs p1)) gs.toArray (p2-1).toNat (p1+1).toNat,fun i' =>(p2+2-i').toNat,⟨⟨by omega,by omega⟩,rfl⟩,?_⟩;rintro i' ⟨⟨k0,k1⟩,k2⟩;refine⟨fun c=> ?_,fun c=> ?_⟩
 ·have c:=qb c;have xj:=arr_ix (g:=gs) (i:=i') qqo qqo;rw[k82 qqo c,xj,ltI_iff]at k2;rw[wi (i' +1) qqo qqo];refine⟨⟨by omega,by omega⟩,⟨by omega,by omega⟩,⟨by omega,by omega⟩,⟨by omega,by omega⟩,⟨gG.ix qqo qqo,gG.ix qqo qqo⟩,fun d=>⟨⟨⟨by omega,by omega⟩,?_⟩,by(dsimp only;omega)⟩,fun d=> ?_⟩
  ·have d:(decide (ix gs i' <ix gs p1))=true:=d;rw[ql d]at k2;exact k2
  ·have d:(decide (ix gs i' <ix gs p1))=false:=d;rw[qm (by rw[d];decide)]at k2;exact jj1 i' ⟨k0,k1⟩ k2.symm fun _=>qc d
 ·have c:=qc c;rw[k73 qqo c]at k2;exact jj1 i' ⟨k0,k1⟩ k2.symm fun e=>absurd e c
noncomputable def k1o:Ct:= .g (gk 74 [.one (.row 0),.one (zqi),.one (zqi),.one (zqi),.one (.clo 33 [none] [])] [.vec (.st 3)] (.one (.one (zqi)))) yG yM [] fun(p1 p2 p3:Int) (w0:List wA)=>(GL w0/\(0<=p1/\p1<=p3/\p3<p2/\p2<=w0.length)/\w0.length<=1099511627776,(((peqS w0 p1 p2 p3).1:Int):Int),((peqS w0 p1 p2 p3).2.toList:List wA),())
set_option maxHeartbeats 1000000 in
theorem k1p:k1o.O:=prv Bs Tryz.func74 (.r 2 (.nd [] (.lp [] ⟨[0],[.vec (.st 3)],[11,12],[.one (zqi),.one (zqi)],[]⟩ (.jn ⟨[],[],[11],[.one (zqi)],[]⟩ [] (.lp [] ⟨[],[],[11],[.one (zqi)],[]⟩ .no) [] (.jn ⟨[],[],[12],[.one (zqi)],[]⟩ [] (.lp [] ⟨[],[],[12],[.one (zqi)],[]⟩ .no) [] .no))) [] .no)) (ku.c c0) (Q:=∀(p1 p2 p3:Int) (w0:List wA),(GL w0/\(0<=p1/\p1<=p3/\p3<p2/\p2<=w0.length)/\w0.length<=1099511627776)->∀r0:Int,((peqS w0 p1 p2 p3).1:Int)=r0->∀e0:List wA,((peqS w0 p1 p2 p3).2.toList)=e0-> 
(0<=p3/\p3<(w0.length:Int))/\(0<=p3/\p3<(w0.length:Int))/\(0<=p1/\p1<(w0.length:Int))/\(0<=p1/\p1<(w0.length:Int))/\(0<=p1/\p1<(w0.length:Int))/\(0<=p1/\p1<(w0.length:Int))/\(0<=p3/\p3<(w0.length:Int))/\(0<=p3/\p3<((w0.set p1.toNat (ix w0 p3)).length:Int))/\∃(I1:Int->Int->(List wA)->Prop) (M1:Int->Int->(List wA)->Nat),I1 (i64.wrap (p1+1)) (i64.wrap (p2-1)) ((w0.set p1.toNat (ix w0 p3)).set p3.toNat (ix w0 p1))/\∀b1 f1 i1,(I1 b1 f1 i1->
∀J1:Int->Prop,(∀(k1:Int),
(∀J2:Int->Prop,(∀(m1:Int),
((decide (m1<k1)=true->
k1=r0/\i1=e0)/\
(decide (m1<k1)=false->
(0<=m1/\m1<(w0.length:Int))/\(0<=m1/\m1<(i1.length:Int))/\(0<=k1/\k1<(w0.length:Int))/\(0<=k1/\k1<(i1.length:Int))/\(0<=k1/\k1<(w0.length:Int))/\(0<=k1/\k1<(i1.length:Int))/\(0<=m1/\m1<(w0.length:Int))/\(0<=m1/\m1<((i1.set k1.toNat (ix i1 m1)).length:Int))/\I1 (i64.wrap (k1+1)) (i64.wrap (m1-1)) ((i1.set k1.toNat (ix i1 m1)).set m1.toNat (ix i1 k1))/\M1 (i64.wrap (k1+1)) (i64.wrap (m1-1)) ((i1.set k1.toNat (ix i1 m1)).set m1.toNat (ix i1 k1))<M1 b1 f1 i1))->J2 m1)->
∃(I3:Int->Prop) (M3:Int->Nat),I3 f1/\∀n1,(I3 n1->
(decide (k1<=n1)=true->
(0<=p1/\p1<(w0.length:Int))/\(0<=p1/\p1<(i1.length:Int))/\(0<=n1/\n1<(w0.length:Int))/\(0<=n1/\n1<(i1.length:Int))/\(GE (ix i1 p1)/\GE (ix i1 n1))/\let v2:Bool:=decide ((cmpG (ix i1 p1) (ix i1 n1))<0)
(v2=true->
I3 (i64.wrap (n1-1))/\M3 (i64.wrap (n1-1))<M3 n1)/\
(v2=false->
J2 n1))/\
(decide (k1<=n1)=false->
J2 n1)))->J1 k1)->
∃(I2:Int->Prop) (M2:Int->Nat),I2 b1/\∀l1,(I2 l1->
(decide (l1<=f1)=true->
(0<=p1/\p1<(w0.length:Int))/\(0<=p1/\p1<(i1.length:Int))/\(0<=l1/\l1<(w0.length:Int))/\(0<=l1/\l1<(i1.length:Int))/\(GE (ix i1 p1)/\GE (ix i1 l1))/\let v1:Bool:=decide ((cmpG (ix i1 p1) (ix i1 l1))<0)
((!v1)=true->
I2 (i64.wrap (l1+1))/\M2 (i64.wrap (l1+1))<M2 l1)/\
((!v1)=false->
J1 l1))/\
(decide (l1<=f1)=false->
J1 l1))))<|by
 rintro p1 p2 p3 w0 h _ rfl _ rfl;obtain⟨hG,⟨h1,h2,h3,h4⟩,h5⟩:=h;have hs0:=swp_arr (g:=w0) (i:=p1) (j:=p3) qqo qqo qqo qqo;have hst:peqS w0 p1 p2 p3=Sort.partEqLoop ltA p1.toNat (p1.toNat+1) (p2.toNat-1) (Sort.swp w0.toArray p1.toNat p3.toNat):=rfl;rw[hs0]at hst;refine⟨⟨by omega,by omega⟩,⟨by omega,by omega⟩,⟨by omega,by omega⟩,⟨by omega,by omega⟩,⟨by omega,by omega⟩,⟨by omega,by omega⟩,⟨by omega,by omega⟩,⟨by omega,by rw[qw];omega⟩,?_⟩;rw[wi (p1+1) qqo qqo,wi (p2-1) qqo qqo];generalize peqS w0 p1 p2 p3=R at *
 refine⟨fun i j g=>(p1<i/\i<=j+1/\j<p2)/\(g.length=w0.length/\GL g)/\R=Sort.partEqLoop ltA p1.toNat i.toNat j.toNat g.toArray,fun i j _=>(j+1-i).toNat,⟨⟨by omega,by omega,by omega⟩,⟨by rw[qw,qw],hG.swp qqo qqo qqo qqo⟩,by rw[hst,show(p1+1).toNat=p1.toNat+1 by omega,show(p2-1).toNat=p2.toNat-1 by omega]⟩,?_⟩;clear hst hs0;rintro i j g ⟨⟨i0,i1,i2⟩,⟨g2,gG⟩,g3⟩ J1 kJ1;rw[Sort.partEqLoop_eq]at g3;have xa:=arr_ix (g:=g) (i:=p1) qqo qqo;rw[xa]at g3
 have jj1:∀i' :Int,(i<=i'/\i'<=j+1)->Sort.scanUp (fun x=> !ltA (ix g p1) x) g.toArray j.toNat i.toNat=i'.toNat->(i'<=j->ix g p1<ix g i')->J1 i' :=by
  intro i' ⟨q0,q1⟩ e1 e2;refine kJ1 _ fun J2 kJ2=> ?_
  have jj2:∀j' :Int,(i' -1<=j'/\j'<=j)->Sort.scanDown (fun x=>ltA (ix g p1) x) g.toArray i'.toNat j.toNat=j'.toNat->(i'<=j'->i' <j')->J2 j' :=by
   intro j' ⟨q2,q3⟩ e4 e3;rw[e1,e4]at g3;refine kJ2 _ ⟨fun c=> ?_,fun c=> ?_⟩
   ·have c:=qb c;rw[ql qqo]at g3;rw[g3];exact⟨(Int.toNat_of_nonneg qqo).symm,rfl⟩
   ·have c:=qc c;have hs:=swp_arr (g:=g) (i:=i') (j:=j') qqo qqo qqo qqo;rw[qm qqo,hs,show i'.toNat+1=(i' +1).toNat by omega,show j'.toNat-1=(j' -1).toNat by omega]at g3;have w1:=wi (i' +1) qqo qqo;have w2:=wi (j' -1) qqo qqo;have e4:=e3 qqo;rw[w1,w2];exact⟨⟨by omega,by omega⟩,⟨by omega,by omega⟩,⟨by omega,by omega⟩,⟨by omega,by omega⟩,⟨by omega,by omega⟩,⟨by omega,by omega⟩,⟨by omega,by omega⟩,⟨by omega,by rw[qw];omega⟩,⟨⟨by omega,by omega,by omega⟩,⟨by rw[qw,qw];exact g2,gG.swp qqo qqo qqo qqo⟩,g3⟩,by(dsimp only;omega)⟩
  refine⟨fun j' =>(i' -1<=j'/\j'<=j)/\Sort.scanDown (fun x=>ltA (ix g p1) x) g.toArray i'.toNat j'.toNat=Sort.scanDown (fun x=>ltA (ix g p1) x) g.toArray i'.toNat j.toNat,fun j' =>(j' +1).toNat,⟨⟨by omega,by omega⟩,rfl⟩,?_⟩;rintro j' ⟨⟨k0,k1⟩,k2⟩;refine⟨fun c=> ?_,fun c=> ?_⟩
  ·have c:=qb c;have xj:=arr_ix (g:=g) (i:=j') qqo qqo;rw[k5l qqo c,xj,ltI_iff]at k2;rw[wi (j' -1) qqo qqo];refine⟨⟨by omega,by omega⟩,⟨by omega,by omega⟩,⟨by omega,by omega⟩,⟨by omega,by omega⟩,⟨gG.ix qqo qqo,gG.ix qqo qqo⟩,fun d=>⟨⟨⟨by omega,by omega⟩,?_⟩,by(dsimp only;omega)⟩,fun d=> ?_⟩
   ·have d:(decide (ix g p1<ix g j'))=true:=d;rw[ql d]at k2;exact k2
   ·have d:(decide (ix g p1<ix g j'))=false:=d;rw[qm (by rw[d];decide)]at k2;refine jj2 j' ⟨k0,k1⟩ k2.symm fun e=> ?_;have:=e2 qqo;have d:=qc d;by_cases hij:i' =j'
    ·subst hij;exact absurd this d
    ·omega
  ·have c:=qc c;rw[k4s qqo c]at k2;exact jj2 j' ⟨k0,k1⟩ k2.symm fun e=>absurd e c
 refine⟨fun i' =>(i<=i'/\i'<=j+1)/\Sort.scanUp (fun x=> !ltA (ix g p1) x) g.toArray j.toNat i'.toNat=Sort.scanUp (fun x=> !ltA (ix g p1) x) g.toArray j.toNat i.toNat,fun i' =>(j+2-i').toNat,⟨⟨by omega,by omega⟩,rfl⟩,?_⟩;rintro i' ⟨⟨k0,k1⟩,k2⟩;refine⟨fun c=> ?_,fun c=> ?_⟩
 ·have c:=qb c;have xj:=arr_ix (g:=g) (i:=i') qqo qqo;rw[k82 qqo c,xj,ltI_iff]at k2;rw[wi (i' +1) qqo qqo];refine⟨⟨by omega,by omega⟩,⟨by omega,by omega⟩,⟨by omega,by omega⟩,⟨by omega,by omega⟩,⟨gG.ix qqo qqo,gG.ix qqo qqo⟩,fun d=>⟨⟨⟨by omega,by omega⟩,?_⟩,by(dsimp only;omega)⟩,fun d=> ?_⟩
  ·have d:(!decide (ix g p1<ix g i'))=true:=d;rw[ql d]at k2;exact k2
  ·have d:(!decide (ix g p1<ix g i'))=false:=d;rw[qm (by rw[d];decide)]at k2;exact jj1 i' ⟨k0,k1⟩ k2.symm fun _=>by simpa using d
 ·have c:=qc c;rw[k73 qqo c]at k2;exact jj1 i' ⟨k0,k1⟩ k2.symm fun e=>absurd e c
noncomputable def k1t:Ct:= .g (gk 72 [.one (.row 0),.one (zqi),.one (zqi),.one (.clo 33 [none] [])] [.vec (.st 3)] (.tup [])) yL [.sl (.st 3)] [] fun(p1 p2:Int) (w0:List wA)=>((0<=p1/\p1<=p2/\p2<=w0.length)/\w0.length<=1099511627776,(revS w0 p1 p2:List wA),())
theorem k2a:k1t.O:=prv Bs Tryz.func72 (.r 1 (.lp [] ⟨[0],[.vec (.st 3)],[8,9],[.one (zqi),.one (zqi)],[]⟩ .no)) c0 (Q:=∀(p1 p2:Int) (w0:List wA),((0<=p1/\p1<=p2/\p2<=w0.length)/\w0.length<=1099511627776)->∀e0:List wA,revS w0 p1 p2=e0-> 
∃(I1:Int->Int->(List wA)->Prop) (M1:Int->Int->(List wA)->Nat),I1 p1 (i64.wrap (p2-1)) w0/\∀b1 f1 i1,(I1 b1 f1 i1->
(decide (b1<f1)=true->
(0<=f1/\f1<(w0.length:Int))/\(0<=f1/\f1<(i1.length:Int))/\(0<=b1/\b1<(w0.length:Int))/\(0<=b1/\b1<(i1.length:Int))/\(0<=b1/\b1<(w0.length:Int))/\(0<=b1/\b1<(i1.length:Int))/\(0<=f1/\f1<(w0.length:Int))/\(0<=f1/\f1<((i1.set b1.toNat (ix i1 f1)).length:Int))/\I1 (i64.wrap (b1+1)) (i64.wrap (f1-1)) ((i1.set b1.toNat (ix i1 f1)).set f1.toNat (ix i1 b1))/\M1 (i64.wrap (b1+1)) (i64.wrap (f1-1)) ((i1.set b1.toNat (ix i1 f1)).set f1.toNat (ix i1 b1))<M1 b1 f1 i1)/\
(decide (b1<f1)=false->
i1=e0)))<|by
 rintro p1 p2 w0 h _ rfl;obtain⟨⟨h1,h2,h3⟩,h4⟩:=h;rw[wi (p2-1) qqo qqo];refine⟨(fun i j g=>(0<=i/\-1<=j/\i<=2199023255552/\j<w0.length)/\g.length=w0.length/\revS w0 p1 p2=(Sort.reverseLoop i.toNat j.toNat g.toArray).toList),(fun i j _=>(j-i).toNat),⟨⟨by omega,by omega,by omega,by omega⟩,rfl,by unfold revS Sort.reverseRange;rw[show(p2-1).toNat=p2.toNat-1 by omega]⟩,?_⟩;rintro i j g ⟨⟨g0,g1,g2,g3⟩,g4,g5⟩;refine⟨fun hh=> ?_,fun hh=> ?_⟩
 ·have hh:=qb hh;rw[kc7 g0 hh qqo]at g5;rw[wi (i+1) qqo qqo,wi (j-1) qqo qqo];exact⟨⟨by omega,by omega⟩,⟨by omega,by omega⟩,⟨by omega,by omega⟩,⟨by omega,by omega⟩,⟨by omega,by omega⟩,⟨by omega,by omega⟩,⟨by omega,by omega⟩,⟨by omega,by rw[qw];omega⟩,⟨⟨by omega,by omega,by omega,by omega⟩,by rw[qw,qw];exact g4,g5⟩,by(dsimp only;omega)⟩
 ·have hh:=qc hh;rw[kaz g0 hh]at g5;rw[g5]
noncomputable def k2w:Ct:= .g (gk 50 [.one (.row 0),.one (zqi),.one (zqi),.one (zqi),.one (.clo 33 [none] [])] [.vec (.st 3)] (.tup [])) yG [.sl (.st 3)] [] fun(p1 p2 p3:Int) (w0:List wA)=>(GL w0/\(0<=p1/\p1<=p2/\p2<=w0.length)/\w0.length<=1099511627776/\Sort.Below ltA p1.toNat p2.toNat w0.toArray,(insS w0 p1 p2:List wA),())
abbrev Fz0 (r:Type):=Int->Int->Int->Bool->Bool->(List wA)->r
set_option maxHeartbeats 1000000 in
theorem k2y:k2w.O:=rec_ok (μ:=fun(p1 p2 p3:Int) (w0:List wA)=>(p2-p1).toNat) (cal Tryz.func50 qqk) fun rn hr=>prv Bs Tryz.func50 (.r 1 (.lp [] ⟨[0],[.vec (.st 3)],[1,2,3,10,11],[.one (zqi),.one (zqi),.one (zqi),.one (.d (.bool)),.one (.d (.bool))],[]⟩ (.r 2 (.jn ⟨[0],[.vec (.st 3)],[3],[.one (zqi)],[]⟩ [] .no [] (.r 0 (.jn ⟨[0],[.vec (.st 3)],[13,14],[.one (zqi),.one (zqi)],[]⟩ [] .no [] (.jn ⟨[0],[.vec (.st 3)],[],[],[]⟩ [] (.jn ⟨[],[],[75],[.one (.d (.bool))],[]⟩ [] .no [] .no) [] (.nd [] (.jn ⟨[],[],[97],[.one (.d (.bool))],[]⟩ [] .no [] .no) [] .no)))))))) (k1w.c (k2x.c (k23.c (k2d.c (k2a.c (k1c.c (ku.c (k1p.c (k2n.c (hr.c c0)))))))))) (Q:=∀(p1 p2 p3:Int) (w0:List wA),((GL w0/\(0<=p1/\p1<=p2/\p2<=w0.length)/\w0.length<=1099511627776/\Sort.Below ltA p1.toNat p2.toNat w0.toArray)/\((p2-p1).toNat)<rn+1)->∀e0:List wA,insS w0 p1 p2=e0-> 
∃(I1:Fz0 Prop) (M1:Fz0 Nat),I1 p1 p2 p3 true true w0/\∀b1 f1 i1 k1 l1 m1,(I1 b1 f1 i1 k1 l1 m1->
let v1:Bool:=decide ((i64.wrap (f1-b1))<=12)
(v1=true->
(w0.length=m1.length)/\(GL m1/\(0<=b1/\b1<=f1/\f1<=m1.length)/\m1.length<=1099511627776)/\(insS m1 b1 f1)=e0)/\
(v1=false->
((i1==0)=true->
(w0.length=m1.length)/\(GL m1/\(0<=b1/\b1<f1/\f1<=m1.length)/\m1.length<=1099511627776)/\(heapS m1 b1 f1)=e0)/\
((i1==0)=false->
∀J1:Int->(List wA)->Prop,(∀(n1:Int) (o1:List wA),
((w0.length=o1.length)/\(GL o1/\(0<=b1/\b1<f1/\f1<=o1.length)/\o1.length<=1099511627776)/\∀J2:Int->Int->(List wA)->Prop,(∀(q1 s1:Int) (t1:List wA),
(∀J3:(List wA)->Prop,(∀(u1:List wA),
(∀J5:Bool->Prop,(∀(y1:Bool),
((y1=true->
(w0.length=u1.length)/\(GL u1/\(0<=b1/\b1<=q1/\q1<f1/\f1<=u1.length)/\u1.length<=1099511627776)/\I1 ((peqS u1 b1 f1 q1).1:Int) f1 n1 k1 l1 ((peqS u1 b1 f1 q1).2.toList)/\M1 ((peqS u1 b1 f1 q1).1:Int) f1 n1 k1 l1 ((peqS u1 b1 f1 q1).2.toList)<M1 b1 f1 i1 k1 l1 m1)/\
(y1=false->
(w0.length=u1.length)/\(GL u1/\(0<=b1/\b1<=q1/\q1<f1/\f1<=u1.length)/\u1.length<=1099511627776)/\let v5:Int:=i64.wrap (((partS u1 b1 f1 q1).1:Int)-b1)
let v6:Int:=i64.wrap (f1-((partS u1 b1 f1 q1).1:Int))
let v7:Int:=i64.wrap (Int.tdiv (i64.wrap (f1-b1)) 8)
(decide (v5<v6)=true->
(w0.length=((partS u1 b1 f1 q1).2.2.toList).length)/\((GL ((partS u1 b1 f1 q1).2.2.toList)/\(0<=b1/\b1<=((partS u1 b1 f1 q1).1:Int)/\((partS u1 b1 f1 q1).1:Int)<=((partS u1 b1 f1 q1).2.2.toList).length)/\((partS u1 b1 f1 q1).2.2.toList).length<=1099511627776/\Sort.Below ltA b1.toNat ((partS u1 b1 f1 q1).1:Int).toNat ((partS u1 b1 f1 q1).2.2.toList).toArray)/\(((partS u1 b1 f1 q1).1:Int)-b1).toNat<rn)/\let r8:List wA:=(insS ((partS u1 b1 f1 q1).2.2.toList) b1 ((partS u1 b1 f1 q1).1:Int))
let v9:Int:=i64.wrap (((partS u1 b1 f1 q1).1:Int)+1)
I1 v9 f1 n1 (decide (v7<=v5)) ((partS u1 b1 f1 q1).2.1) r8/\M1 v9 f1 n1 (decide (v7<=v5)) ((partS u1 b1 f1 q1).2.1) r8<M1 b1 f1 i1 k1 l1 m1)/\
(decide (v5<v6)=false->
let v10:Int:=i64.wrap (((partS u1 b1 f1 q1).1:Int)+1)
(w0.length=((partS u1 b1 f1 q1).2.2.toList).length)/\((GL ((partS u1 b1 f1 q1).2.2.toList)/\(0<=v10/\v10<=f1/\f1<=((partS u1 b1 f1 q1).2.2.toList).length)/\((partS u1 b1 f1 q1).2.2.toList).length<=1099511627776/\Sort.Below ltA v10.toNat f1.toNat ((partS u1 b1 f1 q1).2.2.toList).toArray)/\(f1-v10).toNat<rn)/\let r11:List wA:=(insS ((partS u1 b1 f1 q1).2.2.toList) v10 f1)
I1 b1 ((partS u1 b1 f1 q1).1:Int) n1 (decide (v7<=v6)) ((partS u1 b1 f1 q1).2.1) r11/\M1 b1 ((partS u1 b1 f1 q1).1:Int) n1 (decide (v7<=v6)) ((partS u1 b1 f1 q1).2.1) r11<M1 b1 f1 i1 k1 l1 m1)))->J5 y1)->
(decide (0<b1)=true->
(0<=i64.wrap (b1-1)/\i64.wrap (b1-1)<(w0.length:Int))/\(0<=i64.wrap (b1-1)/\i64.wrap (b1-1)<(u1.length:Int))/\(0<=q1/\q1<(w0.length:Int))/\(0<=q1/\q1<(u1.length:Int))/\(GE (ix u1 (i64.wrap (b1-1)))/\GE (ix u1 q1))/\let r4:Int:=(cmpG (ix u1 (i64.wrap (b1-1))) (ix u1 q1))
J5 (!decide (r4<0)))/\
(decide (0<b1)=false->
J5 false))->J3 u1)->
∀J4:Bool->Prop,(∀(x1:Bool),
((x1=true->
(w0.length=t1.length)/\(GL t1/\(0<=b1/\b1<f1/\f1<=t1.length)/\t1.length<=1099511627776)/\(((pisS t1 b1 f1).2)=true->
((pisS t1 b1 f1).1.toList)=e0)/\
(((pisS t1 b1 f1).2)=false->
J3 ((pisS t1 b1 f1).1.toList)))/\
(x1=false->
J3 t1))->J4 x1)->
(k1=true->
(l1=true->
J4 (s1==1))/\
(l1=false->
J4 false))/\
(k1=false->
J4 false))->J2 q1 s1 t1)->
(((hintN (cpS o1 b1 f1).2)==2)=true->
(w0.length=o1.length)/\((0<=b1/\b1<=f1/\f1<=o1.length)/\o1.length<=1099511627776)/\let v2:Int:=i64.wrap (((cpS o1 b1 f1).1:Int)-b1)
let v3:Int:=i64.wrap ((i64.wrap (f1-1))-v2)
J2 v3 1 (revS o1 b1 f1))/\
(((hintN (cpS o1 b1 f1).2)==2)=false->
J2 ((cpS o1 b1 f1).1:Int) (hintN (cpS o1 b1 f1).2) o1))->J1 n1 o1)->
((!k1)=true->
(w0.length=m1.length)/\((0<=b1/\b1<=f1/\f1<=m1.length)/\m1.length<=1099511627776)/\J1 (i64.wrap (i1-1)) (brkS m1 b1 f1))/\
((!k1)=false->
J1 i1 m1)))))<|by
 rintro p1 p2 p3 w0 ⟨h,hm⟩ _ rfl;replace hm:=Nat.lt_succ_iff.1 hm;obtain⟨hG,⟨h1,h2,h3⟩,h4,hB⟩:=h;have h0:=PdqI.start hG h1 h2 h3 hB;have hR:insS w0 p1 p2=(insS w0 p1 p2).toArray.toList:=rfl;rw[hR];generalize (insS w0 p1 p2).toArray=R at *
 refine⟨fun a b _ _ _ g=>PdqI R w0.length a b g/\(b-a).toNat<=rn,fun a b _ _ _ _=>(b-a).toNat,⟨h0,hm⟩,?_⟩;clear h0 hm h1 h2 h3 hB hR;rintro a b l wb wp g ⟨hP,hb⟩;have a0:=hP.a0;have ab:=hP.ab;have bl:=hP.bl;have gl:=hP.n;dsimp only;have w1:=wi (b-a) qqo qqo;refine⟨fun e=>⟨by omega,⟨hP.gl,⟨a0,ab,bl⟩,by omega⟩,hP.ins⟩,fun e=> ?_⟩;have e:¬b-a<=12:=by rw[w1]at e;exact qc e
 refine⟨fun e2=>⟨by omega,⟨hP.gl,⟨a0,by omega,bl⟩,by omega⟩,hP.heap⟩,fun e2 J1 k1=> ?_⟩
 have j1:∀(l:Int) (g:List wA),PdqI R w0.length a b g->J1 l g:=by
  intro l g hP;have bl:=hP.bl;have gl:=hP.n;have hc:=cpS_rng (g:=g) (a:=a) (b:=b) a0 qqo;have hr:=hP.rev;have rl:=hr.n;refine k1 _ _ ⟨by omega,⟨hP.gl,⟨a0,by omega,bl⟩,by omega⟩,fun J2 k2=> ?_⟩
  have j2:∀(p h:Int) (g:List wA),PdqI R w0.length a b g->(a<=p/\p<b)->J2 p h g:=by
   intro p h g hP hp;have bl:=hP.bl;have gl:=hP.n;refine k2 _ _ _ fun J3 k3=> ?_
   have j3:∀g:List wA,PdqI R w0.length a b g->J3 g:=by
    intro g hP;have bl:=hP.bl;have gl:=hP.n;refine k3 _ fun J5 k5=> ?_
    have j5:∀s:Bool,(s=true->0<a/\¬ix g (a-1)<ix g p)->J5 s:=by
     intro s hs;refine k5 _ ⟨fun e=> ?_,fun e=> ?_⟩
     ·obtain⟨s1,s2⟩:=hs e;obtain⟨m1,m2,m3⟩:=hP.peq s1 hp.1 hp.2 s2;have ml:=m3.n;exact⟨by omega,⟨hP.gl,⟨a0,hp.1,hp.2,bl⟩,by omega⟩,⟨m3,by omega⟩,by omega⟩
     ·obtain⟨m1,m2,m3,m4,m5,m6,m7⟩:=hP.part hp.1 hp.2;have l6:=m6.n;have l7:=m7.n;generalize partS g a b p=P at *
      have gd:GL P.2.2.toList:=m6.gl.unins a0 qqo qqm;have dl:P.2.2.toList.length=w0.length:=by simpa using m3
      refine⟨by omega,⟨hP.gl,⟨a0,hp.1,hp.2,bl⟩,by omega⟩,?_⟩;have w1:=wi ((P.1:Int)-a) qqo qqo;have w2:=wi (b-(P.1:Int)) qqo qqo;have w3:=wi ((P.1:Int)+1) qqo qqo;rw[w1,w2,w3];refine⟨fun c=>⟨by omega,⟨⟨gd,⟨a0,m1,by omega⟩,by omega,by simpa using m4⟩,by omega⟩,⟨m6,by omega⟩,by omega⟩,fun c=>⟨by omega,⟨⟨gd,⟨by omega,by omega,by omega⟩,by omega,?_⟩,by omega⟩,⟨m7,by omega⟩,by omega⟩⟩;rw[show((P.1:Int)+1).toNat=P.1+1 by omega];simpa using m5
    refine⟨fun e=> ?_,fun e=>j5 _ (fun h=>by cases h)⟩;have e:=qb e;rw[wi (a-1) qqo qqo];refine⟨⟨by omega,by omega⟩,⟨by omega,by omega⟩,⟨by omega,by omega⟩,⟨by omega,by omega⟩,⟨hP.gl.ix qqo qqo,hP.gl.ix qqo qqo⟩,j5 _ fun h=>⟨e,?_⟩⟩;exact nlt_of h
   intro J4 k4;have j4:∀x,J4 x:=by intro x;refine k4 x ⟨fun e=> ?_,fun e=>j3 _ hP⟩;obtain⟨m1,m2⟩:=hP.pis qqo;have ml:=m1.n;exact⟨by omega,⟨hP.gl,⟨a0,by omega,bl⟩,by omega⟩,fun e2=>m2 e2,fun e2=>j3 _ m1⟩
   exact⟨fun e=>⟨fun e2=>j4 _,fun e2=>j4 _⟩,fun e=>j4 _⟩
  refine⟨fun e=>⟨by omega,⟨⟨a0,by omega,bl⟩,by omega⟩,?_⟩,fun e=>j2 _ _ _ hP ⟨hc.1,hc.2⟩⟩;rw[wi (((cpS g a b).1:Int)-a) qqo qqo,wi (b-1) qqo qqo,wi (b-1-(((cpS g a b).1:Int)-a)) qqo qqo];exact j2 _ _ _ hr ⟨by omega,by omega⟩
 refine⟨fun e3=> ?_,fun e3=>j1 _ _ hP⟩;have hk:=hP.brk;have kl:=hk.n;exact⟨by omega,⟨⟨a0,ab,bl⟩,by omega⟩,j1 _ _ hk⟩
noncomputable def k49:Ct:= .g (gk 32 [.one (.row 0),.one (.clo 33 [none] [])] [.vec (.st 3)] (.tup [])) [.sl (.st 3)] [.sl (.st 3)] [] fun(w0:List wA)=>(GL w0/\w0.length<=1099511627776,(insS w0 0 w0.length:List wA),())
theorem k24:k49.O:=prv Bs Tryz.func32 .no (k9i.c (k2y.c c0)) (Q:=∀(w0:List wA),(GL w0/\w0.length<=1099511627776)->∀e0:List wA,insS w0 0 w0.length=e0-> 
(U64 (u64.wrap (w0.length:Int)))/\let r1:Int:=(len64 (u64.wrap (w0.length:Int)))
lz w0/\(GL w0/\(0<=(0:Int)/\(0:Int)<=(w0.length:Int)/\(w0.length:Int)<=w0.length)/\w0.length<=1099511627776/\Sort.Below ltA (0:Int).toNat (w0.length:Int).toNat w0.toArray)/\(insS w0 (0:Int) (w0.length:Int))=e0)<|by rintro w0 h _ rfl;obtain⟨hG,h⟩:=h;refine⟨by rw[wu _ qqo qqo];omega,?_⟩;exact⟨rfl,⟨hG,⟨by omega,by omega,by omega⟩,h,Or.inl rfl⟩,rfl⟩
noncomputable def khw:Ct:= .b ⟨9,[.one (.ptr 0 0),.agg yC],yE,(.tup [.one (zql),.one (zqi)]),yD,false⟩ [.st 2,yqi,.sl (.st 3)] [.sl yqu,yqi,yqi,.sl (.st 3)] fun(p1:wC) (Aa:Int) (w1:List wA)=>(PW w1/\0<=Aa/\TR p1,addL Aa (tL w1) p1,fun R=>(R.g,R.e,Aa,((eL (addL Aa (tL w1) p1).l):List wA),()))
theorem k9l:khw.O:=pbx Bs [45,46] Tryz.func9 (.r 1 (.nd [] (.r 0 (.nd [] (.r 0 (.rt [.trimc 0 1])) [] .no)) [] (.nd [] (.r 0 (.nd [] (.r 0 (.rt [.trimc 0 1])) [] .no)) [] (.nd [] (.r 0 (.nd [] (.r 0 (.rt [.trimc 0 1])) [] .no)) [] (.nd [] (.r 0 (.nd [] (.r 0 (.rt [.trimc 0 1])) [] .no)) [] (.r 4 (.nd [] (.lp [.tok 10 yqu] ⟨[228,356],[.vec (.st 3),.tip yqu],[8,9,10],[.one (.view 0),.one (zqi),.one (.own 1)],[]⟩ (.r 1 (.nd [] (.r 0 (.nd [] (.r 0 (.rt [.trimc 0 1])) [] .no)) [] .no))) [] .no))))))) x0 (k3v.c (k9k.c (k98.c (k4u.c (k2s.c (k24.c (k25.c (k2c.c c0)))))))) (Q:=∀(p1:wC) (Aa:Int) (w1:List wA),(PW w1/\0<=Aa/\TR p1)->∀R,addL Aa (tL w1) p1=R-> 
(TR p1)/\let r2:=if validE p1=0 then eOf p1 else default
(((validE p1) !=0)=true->
lz w1/\lz w1/\([]:Li)=R.g/\(validE p1)=R.e/\Aa=Aa/\w1=(eL (addL Aa (tL w1) p1).l))/\
(((validE p1) !=0)=false->
lz w1/\(w1.length<=1000000)/\let r3:Bool:=(decide (0<=idxI (w1.map (·.id)) r2.id))
(r3=true->
lz w1/\lz w1/\([]:Li)=R.g/\5=R.e/\Aa=Aa/\w1=(eL (addL Aa (tL w1) p1).l))/\
(r3=false->
lz w1/\((∃t,r2=eOf t/\VR t)/\EL w1)/\let v4:Bool:=decide (0<((cfl (tL w1) (tOf r2)).length:Int))
(v4=true->
lz w1/\lz w1/\([]:Li)=R.g/\12=R.e/\Aa=Aa/\w1=(eL (addL Aa (tL w1) p1).l))/\
(v4=false->
(decide (Aa<r2.weight)=true->
lz w1/\lz w1/\([]:Li)=R.g/\3=R.e/\Aa=Aa/\w1=(eL (addL Aa (tL w1) p1).l))/\
(decide (Aa<r2.weight)=false->
(TL p1)/\lz w1/\(w1.length<=4294967295)/\let v5:List wA:=[wA.mk p1.wN p1.wD p1.wB p1.wH p1.wG p1.Fee p1.wI p1.wM p1.wJ p1.wK r2.id r2.weight]
lz w1/\lz v5/\(w1.length+v5.length)*144<=140737488355328/\w1.length+v5.length<=maxLen/\lz (w1++v5)/\(GL (w1++v5)/\(w1++v5).length<=1099511627776)/\lz w1/\(EL w1)/\let v6:Int:=i64.wrap ((wL (tL w1))+r2.weight)
(([]:Li)=([]:Li))/\∃(I1:Int->Int->Int->(List wA)->(Li)->Prop) (M1:Int->Int->Int->(List wA)->(Li)->Nat),I1 (0:Int) ((w1++v5).length:Int) v6 (insS (w1++v5) 0 (w1++v5).length) ([]:Li)/\∀b1 f1 i1 k1 l1,(I1 b1 f1 i1 k1 l1->
(decide (Aa<i1)=true->
(0<=i64.wrap ((f1.toNat:Int)-1)/\i64.wrap ((f1.toNat:Int)-1)<(f1.toNat:Int))/\(0<=((b1.toNat:Int)+i64.wrap ((f1.toNat:Int)-1))/\((b1.toNat:Int)+i64.wrap ((f1.toNat:Int)-1))<(k1.length:Int))/\let v7:Int:=(ix k1 ((b1.toNat:Int)+i64.wrap ((f1.toNat:Int)-1))).id
((v7==r2.id)=true->
lz w1/\lz w1/\([]:Li)=R.g/\16=R.e/\Aa=Aa/\w1=(eL (addL Aa (tL w1) p1).l))/\
((v7==r2.id)=false->
let v8:Int:=(ix k1 ((b1.toNat:Int)+i64.wrap ((f1.toNat:Int)-1))).id
lz l1/\(l1.length+[v8].length)*8<=140737488355328/\l1.length+[v8].length<=maxLen/\let v9:Int:=(ix k1 ((b1.toNat:Int)+i64.wrap ((f1.toNat:Int)-1))).weight
(0<=i64.wrap ((f1.toNat:Int)-1))/\i64.wrap ((f1.toNat:Int)-1)<=(f1.toNat:Int)/\(l1++[v8]=l1++[v8])/\I1 (b1.toNat:Int) (((i64.wrap ((f1.toNat:Int)-1)).toNat:Nat):Int) (i64.wrap (i1-v9)) k1 (l1++[v8])/\M1 (b1.toNat:Int) (((i64.wrap ((f1.toNat:Int)-1)).toNat:Nat):Int) (i64.wrap (i1-v9)) k1 (l1++[v8])<M1 b1 f1 i1 k1 l1))/\
(decide (Aa<i1)=false->
((b1.toNat:Int).toNat=0/\(f1.toNat:Int).toNat<=k1.length/\k1.length<=4294967295)/\lz (k1.take (f1.toNat:Int).toNat)/\l1=R.g/\0=R.e/\Aa=Aa/\(k1.take (f1.toNat:Int).toNat)=(eL (addL Aa (tL w1) p1).l))))))))<|by
 rintro p1 Aa w1 h R hR;obtain⟨hW,hc,hr⟩:=h;obtain⟨L,rfl,hP,hn⟩:=hW.at
 rw[tL_eL];have hfi:idxI ((eL L).map (·.id)) (idS p1)=fndL L (idS p1):=by rw[eL_id];rfl
 rw[tL_eL]at hR;have hA:=hR;rw[hR];clear hR;unfold addL at hA;refine⟨hr,fun e=> ?_,fun e=> ?_⟩
 ·have e:¬validE p1=0:=by simpa using e
  rw[ql e]at hA;subst hA;exact⟨rfl,rfl,rfl,rfl,rfl,rfl⟩
 have e:validE p1=0:=by simpa using e
 have hv:VR p1:=⟨e,hr⟩;have hcl:=cfl_len L p1;rw[qm (by simp[e])]at hA;rw[ql e];have hid:(eOf p1).id=idS p1:=rfl;have hwt:(eOf p1).weight=weightS p1:=rfl;rw[hid,hwt,hfi];refine⟨rfl,by rw[eL_len];omega,fun e2=> ?_,fun e2=> ?_⟩
 ·rw[ql (qb e2)]at hA;subst hA;exact⟨rfl,rfl,rfl,rfl,rfl,rfl⟩
 have e2:=qc e2;rw[qm e2]at hA;refine⟨rfl,⟨⟨p1,rfl,hv⟩,hW.el⟩,fun e3=> ?_,fun e3=> ?_⟩
 ·have e3:=qb e3;have e3:cfl L p1≠[]:=by intro q;rw[show tOf (eOf p1)=p1 from rfl,q]at e3;simp at e3
  rw[ql e3]at hA;subst hA;exact⟨rfl,rfl,rfl,rfl,rfl,rfl⟩
 have e3:=qc e3;have e3:¬cfl L p1≠[]:=by intro q;have:=qcj.2 q;rw[show tOf (eOf p1)=p1 from rfl]at e3;omega
 rw[qm e3]at hA;refine⟨fun e4=> ?_,fun e4=> ?_⟩
 ·rw[ql (qb e4)]at hA;subst hA;exact⟨rfl,rfl,rfl,rfl,rfl,rfl⟩
 rw[qm (qc e4)]at hA;have hni:idS p1∉L.map idS:=fun q=>e2 ((fnd_has _ _).2 q);have hpp:=hP.put hv hni (Decidable.not_not.1 e3);have hpl:=put_len L p1;obtain⟨i1,i2⟩:=ins_put hP.v hP.s hP.i hv hni;have hw1:=wL_tb hP.v qqo L.length;rw[qbu]at hw1;have hwp:wL (putL L p1)=wL L+weightS p1:=by rw[wL_perm (k3h L p1)];unfold wL;rw[qx,qel];omega
 have hwb:=k2i hv;have el1:(eL L++[eOf p1]).length=L.length+1:=by simp
 refine⟨hv.tl,rfl,by rw[eL_len];omega,?_⟩;dsimp only;rw[show wA.mk p1.wN p1.wD p1.wB p1.wH p1.wG p1.Fee p1.wI p1.wM p1.wJ p1.wK (idS p1) (weightS p1)=eOf p1 from rfl,i2,eL_len,qah,wi (wL L+weightS p1) qqo qqo,<-hwp,el1];generalize putL L p1=M at *
 have hMw:=wL_tb hpp.v qqo;refine⟨rfl,rfl,by omega,by unfold maxLen;omega,rfl,⟨i1,by omega⟩,rfl,hW.el,rfl,?_⟩;refine⟨(fun b f i k l=>b=0/\k=eL M/\∃j:Nat,f=(j:Int)/\j<=M.length/\i=wL (M.take j)/\l.length<=M.length-j/\evL Aa (idS p1) M M.length []=evL Aa (idS p1) M j l),fun _ f _ _ _=>f.toNat,⟨rfl,rfl,M.length,by omega,qr _,by rw[qbu],by simp,rfl⟩,?_⟩;rintro _ _ _ _ f ⟨rfl,rfl,j,rfl,g1,rfl,g2,g3⟩;have hMj:=hMw j;refine⟨fun q=> ?_,fun q=> ?_⟩
 ·have q:=qb q
  have hj0:0<j:=by
   cases j with
   |zero=>simp[wL]at q;omega
   |succ j=>omega
  obtain⟨k,rfl⟩:∃k,j=k+1:=⟨j-1,by omega⟩;have hk:k<M.length:=by omega
  have ew:wL (M.take (k+1))=wL (M.take k)+weightS M[k]:=wL_take hk;have hMk:=hMw k;have hx2:ix M ((k:Nat):Int)=M[k]:=ix_get _ _ hk;rw[evL,ql q,hx2]at g3;rw[show(0:Int).toNat=0 from rfl,qac,wi (((k+1:Nat):Int)-1) qqo qqo,show(((0:Nat):Int)+(((k+1:Nat):Int)-1))=(k:Int)by omega,show(((k+1:Nat):Int)-1)=(k:Int)by omega,eL_ix hk,eL_len];have hi2:(eOf M[k]).id=idS M[k]:=rfl;have hw2:(eOf M[k]).weight=weightS M[k]:=rfl;dsimp only;rw[hi2,hw2,ew,show wL (M.take k)+weightS M[k]-weightS M[k]=wL (M.take k)by omega,wi (wL (M.take k)) qqo qqo];refine⟨⟨by omega,by omega⟩,⟨by omega,by omega⟩,fun r=> ?_,fun r=>⟨rfl,?_,?_,by omega,by omega,rfl,⟨rfl,rfl,k,rfl,by omega,rfl,?_,?_⟩,?_⟩⟩
  ·have r:idS M[k]=idS p1:=by simpa using r
   rw[ql r]at g3;rw[g3]at hA;subst hA;exact⟨rfl,rfl,rfl,rfl,rfl,rfl⟩
  ·rw[qah];omega
  ·rw[qah];unfold maxLen;omega
  ·rw[qj,qah];omega
  ·have r:¬idS M[k]=idS p1:=by simpa using r
   rw[g3,qm r]
  ·omega
 ·have q:=qc q
  have hE:evL Aa (idS p1) M j f=⟨true,f,j⟩:=by
   cases j with
   |zero=>rfl
   |succ k=>rw[evL,qm q]
  rw[g3,hE,ql rfl]at hA;subst hA;refine⟨⟨rfl,by rw[eL_len];omega,by rw[eL_len];omega⟩,rfl,rfl,rfl,rfl,?_⟩;rw[qac,qac];simp[eL]
noncomputable def kc4:Ct:= .tp 13 [yqu,yqu] [.st 2] [] fun(p0 p1:Int)=>((wC.mk 0 [] [] 5 0 p1 p0 0 0 []:wC),())
theorem ked:kc4.O:=qtv Bs Tryz.func13 .no c0 (Q:=∀(p0 p1:Int),∀r0:wC,(wC.mk 0 [] [] 5 0 p1 p0 0 0 [])=r0-> 
0=r0.wN/\([]:Li)=r0.wD/\([]:List wR)=r0.wB/\5=r0.wH/\0=r0.wG/\p1=r0.Fee/\p0=r0.wI/\0=r0.wM/\0=r0.wJ/\([]:Li)=r0.wK)<|by rintro p0 p1 _ rfl;exact(by repeat' first|apply qep|exact rfl)
noncomputable def k8p:Ct:= .g (gk 33 [.one (.ptr 0 0),.agg yA,.agg yA] [.cells [zqi,.d (.sl (.st 3))]] (.one (.one (zqi)))) [.st 3,.st 3,yqi,.sl (.st 3)] yL [] fun(p1 p2:wA) (Aa:Int) (c0_1:List wA)=>(GE p1/\GE p2,(cmpG p1 p2:Int),Aa,c0_1,())
theorem k90:k8p.O:=prv Bs Tryz.func33 .no (k69.c c0) (Q:=∀(p1 p2:wA) (Aa:Int) (c0_1:List wA),(GE p1/\GE p2)->∀r0:Int,cmpG p1 p2=r0->∀Ac:Int,Aa=Ac->∀d0_1:List wA,c0_1=d0_1-> 
let v1:Int:=u64.wrap (p2.wU*(u64.wrap p1.weight))
let v2:Int:=u64.wrap (p1.wU*(u64.wrap p2.weight))
(((cmp3 v1 v2) !=0)=true->
(cmp3 v1 v2)=r0/\Aa=Ac/\c0_1=d0_1)/\
(((cmp3 v1 v2) !=0)=false->
(cmp3 p1.id p2.id)=r0/\Aa=Ac/\c0_1=d0_1))<|by
 rintro p1 p2 Aa c0_1 h _ rfl _ rfl _ rfl;obtain⟨h1,h2⟩:=h;have a:=h1.f0;have b:=h1.f1;have c:=h1.w0;have d:=h1.w1;have a' :=h2.f0;have b' :=h2.f1;have c' :=h2.w0;have d' :=h2.w1;have m1:0<=p2.wU*p1.weight/\p2.wU*p1.weight<=4294967295*4294967295:=⟨qbj qqo qqo,qbw b' d qqo qqo⟩;have m2:0<=p1.wU*p2.weight/\p1.wU*p2.weight<=4294967295*4294967295:=⟨qbj qqo qqo,qbw b d' qqo qqo⟩;dsimp only;rw[wu p1.weight qqo qqo,wu p2.weight qqo qqo,wu _ m1.1 qqo,wu _ m2.1 qqo,k5e h1 h2];unfold cmpE;refine⟨fun e=> ?_,fun e=> ?_⟩
 ·have e:cmp3 (p2.wU*p1.weight) (p1.wU*p2.weight)≠0:=by simpa using e
  rw[qm (mt cmp3_eq.2 e)];exact⟨rfl,rfl,rfl⟩
 ·have e:cmp3 (p2.wU*p1.weight) (p1.wU*p2.weight)=0:=by simpa using e
  rw[ql (cmp3_eq.1 e)];exact⟨rfl,rfl,rfl⟩
noncomputable def k8a:Ct:= .gp 15 [.st 2,.st 2] [.bool] [] fun(p0 p1:wC)=>(TR p0/\TR p1,(betB p0 p1:Bool),())
theorem k8w:k8a.O:=qrv Bs Tryz.func15 .no (k3v.c (k90.c c0)) (Q:=∀(p0 p1:wC),(TR p0/\TR p1)->∀r0:Bool,betB p0 p1=r0-> 
(TR p0)/\let r1:=if validE p0=0 then eOf p0 else default
(((validE p0) !=0)=true->
false=r0)/\
(((validE p0) !=0)=false->
(TR p1)/\let r2:=if validE p1=0 then eOf p1 else default
(((validE p1) !=0)=true->
false=r0)/\
(((validE p1) !=0)=false->
(GE r1/\GE r2)/\decide ((cmpG r1 r2)<0)=r0)))<|by
 rintro p0 p1 h _ rfl;obtain⟨h0,h1⟩:=h;unfold betB;refine⟨h0,fun e=> ?_,fun e=>⟨h1,fun e2=> ?_,fun e2=> ?_⟩⟩
 ·have e:¬validE p0=0:=by simpa using e
  rw[qaf e];rfl
 ·have e2:¬validE p1=0:=by simpa using e2
  rw[qaf e2];simp
 ·have e:validE p0=0:=by simpa using e
  have e2:validE p1=0:=by simpa using e2
  have g0:=ge_of ⟨e,h0⟩;have g1:=ge_of ⟨e2,h1⟩;rw[ql e,ql e2];refine⟨⟨g0,g1⟩,?_⟩;rw[qae e,qae e2,Bool.true_and,Bool.true_and,k5e g0 g1];exact decide_eq_decide.2 cmpE_lt
noncomputable def kaw:Ct:= .t ⟨12,[.one (zqi)],[],(.one (.one (.ptr 0 0))),yE,false⟩ [yqi] yM [] fun(p0:Int)=>(((if 0<p0 then p0 else 0):Int),(([]:List wA):List wA),())
theorem k60:kaw.O:=ptv Bs Tryz.func12 (.r 1 (.rt [.rnilc 0 1 (.st 3)])) c0 (Q:=∀(p0:Int),∀Ac:Int,((if 0<p0 then p0 else 0):Int)=Ac->∀e1:List wA,(([]:List wA):List wA)=e1-> 
(0=([]:List wA).length)/\(if 0<p0 then p0 else 0)=Ac/\([]:List wA)=e1)<|by rintro p0 _ rfl _ rfl;exact⟨rfl,rfl,rfl⟩
noncomputable def k7p:Ct:= .tp 4 [] [.bool] [] (true,())
theorem khh:k7p.O:=qtv Bs Tryz.func4 .no (k60.c (ked.c (k9l.c (k25.c (k8w.c c0))))) (Q:=∀r0:Bool,(true:Bool)=r0-> 
let r1:Int:=(if 0<(64:Int)then(64:Int)else 0)
lz ([]:List wA)/\(PW ([]:List wA)/\0<=(if 0<(0:Int)then(0:Int)else 0)/\TR (wC.mk 0 [] [] 5 0 (9:Int) (1:Int) 0 0 []))/\let r2:=addL (if 0<(0:Int)then(0:Int)else 0) (tL ([]:List wA)) (wC.mk 0 [] [] 5 0 (9:Int) (1:Int) 0 0 [])
let r3:List wA:=(eL (addL (if 0<(0:Int)then(0:Int)else 0) (tL ([]:List wA)) (wC.mk 0 [] [] 5 0 (9:Int) (1:Int) 0 0 [])).l)
lz ([]:List wA)/\(PW ([]:List wA)/\0<=r1/\TR (wC.mk 0 [] [] 5 0 (3:Int) (1:Int) 0 0 []))/\let r4:=addL r1 (tL ([]:List wA)) (wC.mk 0 [] [] 5 0 (3:Int) (1:Int) 0 0 [])
let r5:List wA:=(eL (addL r1 (tL ([]:List wA)) (wC.mk 0 [] [] 5 0 (3:Int) (1:Int) 0 0 [])).l)
lz r5/\(PW r5/\0<=r1/\TR (wC.mk 0 [] [] 5 0 (4:Int) (2:Int) 0 0 []))/\let r6:=addL r1 (tL r5) (wC.mk 0 [] [] 5 0 (4:Int) (2:Int) 0 0 [])
let r7:List wA:=(eL (addL r1 (tL r5) (wC.mk 0 [] [] 5 0 (4:Int) (2:Int) 0 0 [])).l)
lz r7/\(PW r7/\0<=r1/\TR (wC.mk 0 [] [] 5 0 (2:Int) (3:Int) 0 0 []))/\let r8:=addL r1 (tL r7) (wC.mk 0 [] [] 5 0 (2:Int) (3:Int) 0 0 [])
let r9:List wA:=(eL (addL r1 (tL r7) (wC.mk 0 [] [] 5 0 (2:Int) (3:Int) 0 0 [])).l)
((r2.e==3)=true->
((r4.e==0)=true->
((r6.e==0)=true->
(((r6.g.length:Int)==1)=true->
((r8.e==16)=true->
lz r9/\(EL r9)/\(((wL (tL r9))==64)=true->
(TR (wC.mk 0 [] [] 5 0 (4:Int) (2:Int) 0 0 [])/\TR (wC.mk 0 [] [] 5 0 (3:Int) (1:Int) 0 0 []))/\let r10:Bool:=(betB (wC.mk 0 [] [] 5 0 (4:Int) (2:Int) 0 0 []) (wC.mk 0 [] [] 5 0 (3:Int) (1:Int) 0 0 []))
r10=r0)/\
(((wL (tL r9))==64)=false->
false=r0))/\
((r8.e==16)=false->
false=r0))/\
(((r6.g.length:Int)==1)=false->
false=r0))/\
((r6.e==0)=false->
false=r0))/\
((r4.e==0)=false->
false=r0))/\
((r2.e==3)=false->
false=r0))<|by rintro _ rfl;have e1:=ex1;have e2:=ex2;have e3:=ex3;have e4:=ex4;unfold pay at e1 e2 e3 e4;have t0:tL []=[]:=rfl;have r1:=pay_r 1 9 qqo qqo;have r2:=pay_r 1 3 qqo qqo;have r3:=pay_r 2 4 qqo qqo;have r4:=pay_r 3 2 qqo qqo;have p0:PW ([]:List wA):=PW.of (L:=[]) PL.nil qqd;have p1:=PW.of ex7.1 qqd;have p2:=PW.of ex7.2 qqd;dsimp only;simp only[show(if 0<(0:Int)then(0:Int)else 0)=0 from rfl,show(if 0<(64:Int)then(64:Int)else 0)=64 from rfl,t0,e1,e2,tL_eL,e3,e4];refine⟨trivial,⟨p0,by decide,r1⟩,trivial,⟨p0,by decide,r2⟩,trivial,⟨p1,by decide,r3⟩,trivial,⟨p2,by decide,r4⟩,?_⟩;have w:=ex5;have b:=ex6;unfold pay at w b;simp only[w,b];exact⟨fun _=>⟨fun _=>⟨fun _=>⟨fun _=>⟨fun _=>⟨trivial,p2.el,fun _=>⟨⟨r3,r2⟩,trivial⟩,fun e=>(by cases e)⟩,fun e=>(by cases e)⟩,fun e=>(by cases e)⟩,fun e=>(by cases e)⟩,fun e=>(by cases e)⟩,fun e=>(by cases e)⟩
noncomputable def kel:Ct:= .gp 16 [.st 2,yqi] [.bool] [] fun(p0:wC) (p1:Int)=>(p0.wB.length<=9223372036854775807,(smallB p0 p1:Bool),())
theorem kh6:kel.O:=qrv Bs Tryz.func16 (.r 0 (.nd [] (.r 0 (.lp [] ⟨[],[],[5],[.one (zqi)],[]⟩ .no)) [] .no)) c0 (Q:=∀(p0:wC) (p1:Int),(p0.wB.length<=9223372036854775807)->∀r0:Bool,smallB p0 p1=r0-> 
∃(I1:Int->Prop) (M1:Int->Nat),I1 0/\∀b1,(I1 b1->
(decide (b1<(p0.wB.length:Int))=true->
(0<=b1)/\b1<(p0.wB.length:Int)/\let v1:Bool:=decide (10<(((ix p0.wB b1).wF).length:Int))
(v1=true->
false=r0)/\
(v1=false->
I1 (i64.wrap (b1+1))/\M1 (i64.wrap (b1+1))<M1 b1))/\
(decide (b1<(p0.wB.length:Int))=false->
(decide ((p0.wD.length:Int)<=10)=true->
(decide ((p0.wB.length:Int)<=10)=true->
decide ((p0.wK.length:Int)<=p1)=r0)/\
(decide ((p0.wB.length:Int)<=10)=false->
false=r0))/\
(decide ((p0.wD.length:Int)<=10)=false->
false=r0))))<|by
 rintro p0 p1 h _ rfl;refine(⟨(fun i=>0<=i/\i<=p0.wB.length/\∀x∈p0.wB.take i.toNat,x.wF.length<=10),(fun i=>(p0.wB.length-i).toNat),⟨by omega,by omega,by simp⟩,?_⟩);rintro i ⟨g0,g1,g2⟩;refine⟨fun hh=> ?_,fun hh=> ?_⟩
 ·have hh:=qb hh;refine⟨g0,hh,fun e=> ?_,fun e=> ?_⟩
  ·have e:=qb e;unfold smallB;have:p0.wB.all (fun x=>decide (x.wF.length<=10))=false:=qci.2 ⟨_,ix_mem p0.wB i g0 hh,by simp;omega⟩;rw[this];simp
  ·have e:=qc e;rw[inc i p0.wB.length g0 hh qqo];refine⟨⟨by omega,by omega,?_⟩,by(dsimp only;omega)⟩;rw[ke p0.wB i g0 hh];intro x hx;rcases qaz.1 hx with hx|hx
   ·exact g2 x hx
   ·have:x=ix p0.wB i:=by simpa using hx
    rw[this];omega
 ·have hh:=qc hh;rw[qi qqo]at g2;unfold smallB;have:p0.wB.all (fun x=>decide (x.wF.length<=10))=true:=by simpa using g2
  rw[this];refine⟨fun h1=>⟨fun h2=> ?_,fun h2=> ?_⟩,fun h1=> ?_⟩
  ·have h1:=qb h1;have h2:=qb h2;rw[qae (p:=p0.wD.length<=10) qqo,qae (p:=p0.wB.length<=10) qqo];simp
  ·have h2:=qc h2;rw[qaf (p:=p0.wB.length<=10) qqo];simp
  ·have h1:=qc h1;rw[qaf (p:=p0.wD.length<=10) qqo];simp
noncomputable def k9f:Ct:= .gp 5 [.sl (.st 1),.sl (.st 2)] [.bool] [] fun(p0:List wAA) (p1:List wC)=>(OA p0 p1,(fewB p0 p1:Bool),())
theorem kjf:k9f.O:=qrv Bs Tryz.func5 (.r 0 (.nd [] (.r 0 (.lp [] ⟨[],[],[11],[.one (zqi)],[]⟩ .no)) [] (.nd [] (.r 0 (.lp [] ⟨[],[],[22],[.one (zqi)],[]⟩ .no)) [] .no))) (kh6.c c0) (Q:=∀(p0:List wAA) (p1:List wC),(OA p0 p1)->∀r0:Bool,fewB p0 p1=r0-> 
∃(I1:Int->Prop) (M1:Int->Nat),I1 0/\∀b1,(I1 b1->
(decide (b1<(p0.length:Int))=true->
(0<=b1)/\b1<(p0.length:Int)/\((wC.mk ((ix p0 b1).wo) ((ix p0 b1).wv) ((ix p0 b1).wz) ((ix p0 b1).wg) ((ix p0 b1).we) ((ix p0 b1).wAB) ((ix p0 b1).wh) ((ix p0 b1).wt) ((ix p0 b1).wl) ((ix p0 b1).ww)).wB.length<=9223372036854775807)/\let r1:Bool:=(smallB (wC.mk ((ix p0 b1).wo) ((ix p0 b1).wv) ((ix p0 b1).wz) ((ix p0 b1).wg) ((ix p0 b1).we) ((ix p0 b1).wAB) ((ix p0 b1).wh) ((ix p0 b1).wt) ((ix p0 b1).wl) ((ix p0 b1).ww)) (400:Int))
((!r1)=true->
false=r0)/\
((!r1)=false->
I1 (i64.wrap (b1+1))/\M1 (i64.wrap (b1+1))<M1 b1))/\
(decide (b1<(p0.length:Int))=false->
∃(I2:Int->Prop) (M2:Int->Nat),I2 0/\∀f1,(I2 f1->
(decide (f1<(p1.length:Int))=true->
(0<=f1)/\f1<(p1.length:Int)/\((ix p1 f1).wB.length<=9223372036854775807)/\((!(smallB (ix p1 f1) (400:Int)))=true->
false=r0)/\
((!(smallB (ix p1 f1) (400:Int)))=false->
I2 (i64.wrap (f1+1))/\M2 (i64.wrap (f1+1))<M2 f1))/\
(decide (f1<(p1.length:Int))=false->
(decide ((p0.length:Int)<=16)=true->
decide ((p1.length:Int)<=12)=r0)/\
(decide ((p0.length:Int)<=16)=false->
false=r0))))))<|by
 rintro p0 p1 h _ rfl;have ha:=h.a;have hb:=h.b;unfold fewB;refine⟨(fun i=>∃k:Nat,i=(k:Int)/\k<=p0.length/\(p0.take k).all (fun o=>smallB (opT o) 400)=true),fun i=>(p0.length-i).toNat,⟨0,rfl,by omega,rfl⟩,?_⟩;rintro _ ⟨k,rfl,g1,g2⟩;refine⟨fun e=> ?_,fun e=> ?_⟩
 ·have e:k<p0.length:=by have:=qb e;omega
  have ho:=(h.r _ (qab e)).2;rw[ix_get _ _ e,inc k p0.length qqo qqo qqo];refine⟨by omega,by omega,ho,fun q=> ?_,fun q=>⟨⟨k+1,rfl,by omega,?_⟩,by(dsimp only;omega)⟩⟩
  ·have q:smallB (opT p0[k]) 400=false:=by simpa using q
   have:p0.all (fun o=>smallB (opT o) 400)=false:=by rw[qci];exact⟨_,qab e,by rw[q];decide⟩
   rw[this];rfl
  ·have q:smallB (opT p0[k]) 400=true:=by simpa using q
   rw[qu e,List.all_append,g2,qcq,q];rfl
 ·have e:k=p0.length:=by have:=qc e;omega
  rw[qi qqo]at g2;rw[g2,Bool.true_and];refine⟨(fun i=>∃k:Nat,i=(k:Int)/\k<=p1.length/\(p1.take k).all (fun t=>smallB t 400)=true),fun i=>(p1.length-i).toNat,⟨0,rfl,by omega,rfl⟩,?_⟩;rintro _ ⟨j,rfl,j1,j2⟩;refine⟨fun e=> ?_,fun e=> ?_⟩
  ·have e:j<p1.length:=by have:=qb e;omega
   have ho:=(h.s _ (qab e)).2;rw[ix_get _ _ e,inc j p1.length qqo qqo qqo];refine⟨by omega,by omega,ho,fun q=> ?_,fun q=>⟨⟨j+1,rfl,by omega,?_⟩,by(dsimp only;omega)⟩⟩
   ·have q:smallB p1[j] 400=false:=by simpa using q
    have:p1.all (fun t=>smallB t 400)=false:=by rw[qci];exact⟨_,qab e,by rw[q];decide⟩
    rw[this];rfl
   ·have q:smallB p1[j] 400=true:=by simpa using q
    rw[qu e,List.all_append,j2,qcq,q];rfl
  ·have e:j=p1.length:=by have:=qc e;omega
   rw[qi qqo]at j2;rw[j2,Bool.true_and];refine⟨fun q=> ?_,fun q=> ?_⟩
   ·have q:=qb q;rw[qae (show p0.length<=16 by omega),Bool.true_and];exact decide_eq_decide.2 qqo
   ·have q:=qc q;rw[qaf (show¬p0.length<=16 by omega)];rfl
noncomputable def k4z:Ct:= .g (gk 38 [.one (.row 0),.one (zqi),.one (zqi)] [.vec (.st 3)] (.one (.one (.view 0)))) yL yL [] fun(p1 p2:Int) (w0:List wA)=>((0<=p1/\p1<w0.length)/\p2=p1+1,(0:Int),(((w0.length-1:Nat):Int):Int),(w0.take p1.toNat++w0.drop (p1.toNat+1)++[default]:List wA),())
theorem k5t:k4z.O:=by refine⟨cal Tryz.func38 qqk,fun x K hx=> ?_⟩;obtain⟨(p1:Int),(p2:Int),(w0:List wA),_⟩:=x;obtain⟨h,hK⟩:=hx;have h:(0<=p1/\p1<w0.length)/\p2=p1+1:=h;refine⟨_,hK,?_⟩;obtain⟨⟨h1,h2⟩,rfl⟩:=h;obtain⟨i,rfl⟩:=qag h1;have:=kfi w0 i qqo;rw[show i+(w0.length-(i+1))=w0.length-1 by omega]at this;exact this
noncomputable def kbb:Ct:= .g ⟨19,[.one (.ptr 0 0),.one (zqu)],yE,(.one (.one (.d (.bool)))),yD,false⟩ yK yH [] fun(p1 Aa:Int) (w1:List wA)=>(PW w1,((remL (tL w1) p1).b:Bool),Aa,(eL (remL (tL w1) p1).l:List wA),())
theorem kce:kbb.O:=prv Bs Tryz.func19 (.r 1 (.nd [] (.r 0 (.nd [] (.r 0 (.rt [.trimc 0 1])) [] .no)) [] (.r 1 (.rt [.trimc 0 1])))) (k86.c (k5t.c c0)) (Q:=∀(p1 Aa:Int) (w1:List wA),(PW w1)->∀r0:Bool,((remL (tL w1) p1).b)=r0->∀Ac:Int,Aa=Ac->∀e2:List wA,(eL (remL (tL w1) p1).l)=e2-> 
lz w1/\(w1.length<=1000000)/\(decide ((idxI (w1.map (·.id)) p1)<0)=true->
lz w1/\lz w1/\false=r0/\Aa=Ac/\w1=e2)/\
(decide ((idxI (w1.map (·.id)) p1)<0)=false->
let v1:Int:=i64.wrap ((idxI (w1.map (·.id)) p1)+1)
lz w1/\((0<=(idxI (w1.map (·.id)) p1)/\(idxI (w1.map (·.id)) p1)<w1.length)/\v1=(idxI (w1.map (·.id)) p1)+1)/\let r2:List wA:=(w1.take (idxI (w1.map (·.id)) p1).toNat++w1.drop ((idxI (w1.map (·.id)) p1).toNat+1)++[default])
(0:Int).toNat=0/\((w1.length-1:Nat):Int).toNat<=r2.length/\lz (r2.take (((w1.length-1:Nat):Int).toNat))/\true=r0/\Aa=Ac/\r2.take (((w1.length-1:Nat):Int).toNat)=e2))<|by
 rintro p1 Aa w1 h _ rfl _ rfl _ rfl;obtain⟨L,rfl,hP,hn⟩:=h.at
 rw[tL_eL];have hb:=fnd_b L p1;have hf:idxI ((eL L).map (·.id)) p1=fndL L p1:=by rw[eL_id];rfl
 unfold remL;rw[hf];refine⟨rfl,by rw[eL_len];omega,fun e=> ?_,fun e=> ?_⟩
 ·rw[ql (qb e)];exact⟨rfl,rfl,rfl,rfl,rfl⟩
 ·have e:=qc e;rw[qm e];generalize fndL L p1=i at *
  rw[wi (i+1) qqo qqo,eL_len];refine⟨rfl,⟨⟨by omega,by omega⟩,rfl⟩,?_⟩;have l0:((eL L).take i.toNat++(eL L).drop (i.toNat+1)).length=L.length-1:=by rw[qj,qn,qaj,eL_len];omega
  have e1:((eL L).take i.toNat++(eL L).drop (i.toNat+1)++[default]).take (L.length-1)=eL (L.take i.toNat++L.drop (i.toNat+1)):=by rw[qes l0];simp[eL]
  refine⟨rfl,?_,?_,rfl,rfl,?_⟩
  ·rw[qac,qj,l0];simp
  ·rfl
  ·rw[qac];exact e1
noncomputable def keb:Ct:= .gp 7 [.st 2] [.st 2] [] fun(p0:wC)=>(TL p0,p0,())
theorem kgt:keb.O:=qrv Bs Tryz.func7 (.r 3 (.nd [] (.r 0 (.lp [.tok 3 (.st 0)] ⟨[6],[.tip (.st 0)],[3,19],[.one (.own 0),.one (zqi)],[]⟩ .no)) [] .no)) c0 (Q:=∀(p0:wC),(TL p0)->∀r0:wC,p0=r0-> 
(([]:Li).length+p0.wD.length)*8<=140737488355328/\([]:Li).length+p0.wD.length<=maxLen/\(([]:Li).length+p0.wK.length)*1<=140737488355328/\([]:Li).length+p0.wK.length<=maxLen/\(([]:List wR)=([]:List wR))/\∃(I1:Int->(List wR)->Prop) (M1:Int->(List wR)->Nat),I1 0 ([]:List wR)/\∀b1 f1,(I1 b1 f1->
(decide (b1<(p0.wB.length:Int))=true->
(0<=b1)/\b1<(p0.wB.length:Int)/\(([]:Li).length+((ix p0.wB b1).wF).length)*8<=140737488355328/\([]:Li).length+((ix p0.wB b1).wF).length<=maxLen/\let v1:Li:=([]:Li)++((ix p0.wB b1).wF)
let v2:List wR:=[wR.mk ((ix p0.wB b1).wW) ((ix p0.wB b1).wP) ((ix p0.wB b1).wO) v1]
lz f1/\(f1.length+v2.length)*48<=140737488355328/\f1.length+v2.length<=maxLen/\(f1++v2=f1++v2)/\I1 (i64.wrap (b1+1)) (f1++v2)/\M1 (i64.wrap (b1+1)) (f1++v2)<M1 b1 f1)/\
(decide (b1<(p0.wB.length:Int))=false->
p0.wN=r0.wN/\([]:Li)++p0.wD=r0.wD/\f1=r0.wB/\p0.wH=r0.wH/\p0.wG=r0.wG/\p0.Fee=r0.Fee/\p0.wI=r0.wI/\p0.wM=r0.wM/\p0.wJ=r0.wJ/\([]:Li)++p0.wK=r0.wK)))<|by
 rintro p0 h _ rfl;have l1:=h.m;have l2:=h.o;have l3:=h.p;simp only[qbh,qcf];refine⟨by omega,by unfold maxLen;omega,by omega,by unfold maxLen;omega,trivial,?_⟩;refine⟨(fun i f=>∃k:Nat,i=(k:Int)/\k<=p0.wB.length/\f=p0.wB.take k),fun i _=>(p0.wB.length-i).toNat,⟨0,rfl,by omega,rfl⟩,?_⟩;rintro _ _ ⟨k,rfl,g1,rfl⟩;refine⟨fun e=> ?_,fun e=> ?_⟩
 ·have e:k<p0.wB.length:=by have:=qb e;omega
  have hc:=h.c _ (qab e);rw[ix_get _ _ e,inc_i64 _ qqo];dsimp only;simp only[qn,qah];refine⟨by omega,by omega,by omega,by unfold maxLen;omega,trivial,by omega,by unfold maxLen;omega,trivial,⟨k+1,rfl,by omega,?_⟩,by omega⟩;rw[qu e]
 ·have e:k=p0.wB.length:=by have:=qc e;omega
  rw[qi qqo];exact(by repeat' first|apply qep|exact rfl|exact qfd)
noncomputable def kh7:Ct:= .gp 20 [.sl yqu,.sl yqu] [.bool] [] fun(p0 p1:Li)=>(p0.length<=100000,(decide (p0=p1):Bool),())
theorem kik:kh7.O:=qrv Bs Tryz.func20 (.r 1 (.nd [] (.r 0 (.lp [] ⟨[],[],[5],[.one (zqi)],[]⟩ .no)) [] .no)) c0 (Q:=∀(p0 p1:Li),(p0.length<=100000)->∀r0:Bool,(decide (p0=p1))=r0-> 
(((p0.length:Int) !=(p1.length:Int))=true->
false=r0)/\
(((p0.length:Int) !=(p1.length:Int))=false->
∃(I1:Int->Prop) (M1:Int->Nat),I1 0/\∀b1,(I1 b1->
(decide (b1<(p0.length:Int))=true->
(0<=b1)/\b1<(p0.length:Int)/\(0<=b1)/\b1<(p1.length:Int)/\(((ix p0 b1) !=(ix p1 b1))=true->
false=r0)/\
(((ix p0 b1) !=(ix p1 b1))=false->
I1 (i64.wrap (b1+1))/\M1 (i64.wrap (b1+1))<M1 b1))/\
(decide (b1<(p0.length:Int))=false->
true=r0))))<|by
 rintro p0 p1 h _ rfl;refine⟨fun e=> ?_,fun e=> ?_⟩
 ·have e:¬(p0.length:Int)=p1.length:=by simpa using e
  rw[qaf (by rintro rfl;exact e rfl)]
 ·have e:(p0.length:Int)=p1.length:=by simpa using e
  refine⟨(fun i=>0<=i/\i<=p0.length/\p0.take i.toNat=p1.take i.toNat),(fun i=>(p0.length-i).toNat),⟨by omega,by omega,by simp⟩,?_⟩;rintro i ⟨g0,g1,g2⟩;refine⟨fun hh=> ?_,fun hh=> ?_⟩
  ·have hh:=qb hh;refine⟨g0,hh,g0,by omega,fun e2=> ?_,fun e2=> ?_⟩
   ·have e2:¬ix p0 i=ix p1 i:=by simpa using e2
    rw[qaf (by rintro rfl;exact e2 rfl)]
   ·have e2:ix p0 i=ix p1 i:=by simpa using e2
    rw[inc i p0.length g0 hh qqo];refine⟨⟨by omega,by omega,?_⟩,by(dsimp only;omega)⟩;rw[ke p0 i g0 hh,ke p1 i g0 qqo,g2,e2]
  ·have hh:=qc hh;rw[qi qqo,qi qqo]at g2;rw[qae g2]
noncomputable def ki4:Ct:= .gp 92 [yqu] [.st 6] [] fun(p0:Int)=>(p0=18446744069414584321,(wZ.mk 7 32 7:wZ),())
theorem kbm:ki4.O:=qrv Bs Tryz.func92 .no c0 (Q:=∀(p0:Int),(p0=18446744069414584321)->∀r0:wZ,wZ.mk 7 32 7=r0-> 
((p0==17)=true->
3=r0.a0/\4=r0.a1/\3=r0.a2)/\
((p0==17)=false->
((p0==97)=true->
5=r0.a0/\5=r0.a1/\5=r0.a2)/\
((p0==97)=false->
((p0==193)=true->
5=r0.a0/\6=r0.a1/\5=r0.a2)/\
((p0==193)=false->
((p0==257)=true->
3=r0.a0/\8=r0.a1/\3=r0.a2)/\
((p0==257)=false->
((p0==12289)=true->
11=r0.a0/\12=r0.a1/\5=r0.a2)/\
((p0==12289)=false->
((p0==65537)=true->
3=r0.a0/\16=r0.a1/\3=r0.a2)/\
((p0==65537)=false->
((p0==18446744069414584321)=true->
7=r0.a0/\32=r0.a1/\7=r0.a2)/\
((p0==18446744069414584321)=false->
0=r0.a0/\0=r0.a1/\0=r0.a2))))))))<|by rintro p0 h _ rfl;simp[h]
noncomputable def ket:Ct:= .gp 80 [yqu] [.bool] [] fun(p0:Int)=>(p0=18446744069414584321,true,())
theorem k1e:ket.O:=qrv Bs Tryz.func80 .no (kbm.c c0) (Q:=∀(p0:Int),(p0=18446744069414584321)->∀r0:Bool,(true:Bool)=r0-> 
(p0=18446744069414584321)/\decide (0<(7:Int))=r0)<|by rintro p0 h _ rfl;exact⟨h,rfl⟩
noncomputable def ki5:Ct:= .gp 93 [yqu,yqu,yqu] [yqu] [] fun(p0 p1 p2:Int)=>(p0=18446744069414584321/\U64 p1/\U64 p2,((p1+p2)%18446744069414584321:Int),())
theorem k4c:ki5.O:=qrv Bs Tryz.func93 .no (k1e.c c0) (Q:=∀(p0 p1 p2:Int),(p0=18446744069414584321/\U64 p1/\U64 p2)->∀r0:Int,((p1+p2)%18446744069414584321)=r0-> 
(p0=18446744069414584321)/\((!true)=true->
0=r0)/\
((!true)=false->
(p0≠0)/\(p0≠0)/\let v1:Bool:=decide ((u64.wrap (p0-(Int.tmod p2 p0)))<=(Int.tmod p1 p0))
(v1=true->
let v2:Int:=u64.wrap ((Int.tmod p1 p0)-(u64.wrap (p0-(Int.tmod p2 p0))))
v2=r0)/\
(v1=false->
let v3:Int:=u64.wrap ((Int.tmod p1 p0)+(Int.tmod p2 p0))
v3=r0)))<|by
 rintro p0 p1 p2 h _ rfl;obtain⟨rfl,h1,h2⟩:=h;refine⟨rfl,fun h=>by simp at h,fun _=> ?_⟩;rw[tmod_nn _ _ h1.1,tmod_nn _ _ h2.1];simp only[u64w];refine⟨by omega,by omega,fun h=> ?_,fun h=> ?_⟩
 ·have h:=qb h;omega
 ·have h:=qc h;omega
noncomputable def kiz:Ct:= .gp 94 [yqu,yqu,yqu] [yqu] [] fun(p0 p1 p2:Int)=>(p0=18446744069414584321/\U64 p1/\U64 p2,(p1*p2%18446744069414584321:Int),())
theorem kau:kiz.O:=qrv Bs Tryz.func94 .no (k1e.c (k7r.c (k7m.c c0))) (Q:=∀(p0 p1 p2:Int),(p0=18446744069414584321/\U64 p1/\U64 p2)->∀r0:Int,(p1*p2%18446744069414584321)=r0-> 
(p0=18446744069414584321)/\((!true)=true->
0=r0)/\
((!true)=false->
(p0≠0)/\(p0≠0)/\(U64 (Int.tmod p1 p0)/\U64 (Int.tmod p2 p0))/\let r1:Int:=((Int.tmod p1 p0)*(Int.tmod p2 p0)/18446744073709551616)
let r2:Int:=((Int.tmod p1 p0)*(Int.tmod p2 p0)%18446744073709551616)
(U64 r1/\U64 r2/\U64 p0/\r1<p0)/\((r1*18446744073709551616+r2)%p0)=r0))<|by
 rintro p0 p1 p2 h _ rfl;obtain⟨rfl,h1,h2⟩:=h;refine⟨rfl,fun h=>by simp at h,fun _=> ?_⟩;rw[tmod_nn _ _ h1.1,tmod_nn _ _ h2.1,qco p1 p2];have a1:0<=p1%18446744069414584321/\p1%18446744069414584321<18446744069414584321:=by omega
 have a2:0<=p2%18446744069414584321/\p2%18446744069414584321<18446744069414584321:=by omega
 generalize p1%18446744069414584321=a at *
 generalize p2%18446744069414584321=b at *
 have h3:0<=a*b:=qbj a1.1 a2.1;have h4:a*b<=18446744069414584320*18446744069414584320:=qbw qqo qqo a2.1 qqo;generalize a*b=m at *
 refine⟨by omega,by omega,⟨⟨by omega,by omega⟩,⟨by omega,by omega⟩⟩,⟨⟨by omega,by omega⟩,⟨by omega,by omega⟩,⟨by omega,by omega⟩,by omega⟩,?_⟩;rw[show m/18446744073709551616*18446744073709551616+m%18446744073709551616=m by omega]
noncomputable def kah:Ct:= .gp 107 [yqu] [yqu] [] fun(p0:Int)=>(p0=18446744069414584321,(7:Int),())
theorem kbf:kah.O:=qrv Bs Tryz.func107 .no (kbm.c c0) (Q:=∀(p0:Int),(p0=18446744069414584321)->∀r0:Int,(7:Int)=r0-> 
(p0=18446744069414584321)/\7=r0)<|by rintro p0 h _ rfl;exact⟨h,rfl⟩
noncomputable def kiy:Ct:= .gp 105 [yqu,yqu,yqu] [yqu] [] fun(p0 p1 p2:Int)=>(p0=18446744069414584321/\U64 p1/\U64 p2,(pw p1 p2:Int),())
theorem kjq:kiy.O:=qrv Bs Tryz.func105 (.r 3 (.nd [] (.lp [] ⟨[],[],[1,2,7],[.one (zqu),.one (zqu),.one (zqu)],[]⟩ (.r 0 (.jn ⟨[],[],[7],[.one (zqu)],[]⟩ [] .no [] .no))) [] .no)) (k1e.c (kau.c c0)) (Q:=∀(p0 p1 p2:Int),(p0=18446744069414584321/\U64 p1/\U64 p2)->∀r0:Int,pw p1 p2=r0-> 
(p0=18446744069414584321)/\((!true)=true->
0=r0)/\
((!true)=false->
(p0≠0)/\∃(I1:Int->Int->Int->Prop) (M1:Int->Int->Int->Nat),I1 (Int.tmod p1 p0) p2 1/\∀b1 f1 i1,(I1 b1 f1 i1->
(decide (0<f1)=true->
∀J1:Int->Prop,(∀(k1:Int),
((p0=18446744069414584321/\U64 b1/\U64 b1)/\I1 (b1*b1%18446744069414584321) (u64.wrap (Int.tdiv f1 2)) k1/\M1 (b1*b1%18446744069414584321) (u64.wrap (Int.tdiv f1 2)) k1<M1 b1 f1 i1)->J1 k1)->
(((Int.tmod f1 2)==1)=true->
(p0=18446744069414584321/\U64 i1/\U64 b1)/\J1 (i1*b1%18446744069414584321))/\
(((Int.tmod f1 2)==1)=false->
J1 i1))/\
(decide (0<f1)=false->
i1=r0))))<|by
 rintro p0 p1 p2 h _ rfl;obtain⟨rfl,h1,h2⟩:=h;refine⟨rfl,fun h=>by simp at h,fun _=>⟨by omega,?_⟩⟩;rw[tmod_nn _ _ h1.1];refine⟨fun a e r=>(0<=a/\a<18446744069414584321)/\U64 e/\(0<=r/\r<18446744069414584321)/\(r*a^e.toNat)%18446744069414584321=pw p1 p2,fun a e r=>e.toNat,⟨by omega,h2,by omega,by rw[Int.one_mul,k6v];rfl⟩,?_⟩;rintro a e r ⟨ha,he,hr,hv⟩;have hpow:∀k:Nat,a^(2*k)=(a*a)^k:=fun k=>by rw[Int.pow_mul];congr 1;rw[qcn,qcn,Int.pow_zero,Int.one_mul]
 refine⟨fun h J1 j=> ?_,fun h=> ?_⟩
 ·have h:=qb h;have jj:∀r',(0<=r'/\r' <18446744069414584321)->(r' *(a*a)^(e/2).toNat)%18446744069414584321=pw p1 p2->J1 r' :=by intro r' hr' hv';have hm:0<=a*a%18446744069414584321/\a*a%18446744069414584321<18446744069414584321:=⟨qbm _ qqo,qbf _ qqo⟩;refine j _ ⟨⟨rfl,by omega,by omega⟩,?_⟩;rw[tdiv_nn _ _ he.1,wu (e/2) qqo qqo];refine⟨⟨hm,⟨by omega,by omega⟩,hr',?_⟩,by(dsimp only;omega)⟩;rw[<-hv',qco,qco r' ((a*a)^_),k6v]
  rw[tmod_nn _ _ he.1];refine⟨fun h1=>⟨⟨rfl,by omega,by omega⟩,?_⟩,fun h1=> ?_⟩
  ·have h1:e%2=1:=by simpa using h1
   refine jj _ ⟨qbm _ qqo,qbf _ qqo⟩ ?_;rw[<-hv,show e.toNat=2*(e/2).toNat+1 by omega,qcn,hpow,qco,qdc _ (qej _),<-qco];congr 1;grind
  ·have h1:¬e%2=1:=by simpa using h1
   refine jj _ hr ?_;rw[<-hv,<-hpow,show e.toNat=2*(e/2).toNat by omega]
 ·have h:¬0<e:=qc h;rw[show e.toNat=0 by omega,Int.pow_zero,Int.mul_one,qdd hr.1 hr.2]at hv;exact hv
noncomputable def k9r:Ct:= .gp 106 [yqu,yqi,yqi] [yqu] [] fun(p0 p1 p2:Int)=>(p0=18446744069414584321/\(0<=p1/\p1<8)/\0<=p2/\p2<3,(rc p1 p2:Int),())
theorem kb9:k9r.O:=qrv Bs Tryz.func106 .no (k1e.c c0) (Q:=∀(p0 p1 p2:Int),(p0=18446744069414584321/\(0<=p1/\p1<8)/\0<=p2/\p2<3)->∀r0:Int,rc p1 p2=r0-> 
(p0=18446744069414584321)/\((!true)=true->
0=r0)/\
((!true)=false->
(decide (p1<0)=true->
0=r0)/\
(decide (p1<0)=false->
(decide (7<p1)=true->
0=r0)/\
(decide (7<p1)=false->
(decide (p2<0)=true->
0=r0)/\
(decide (p2<0)=false->
(decide (2<p2)=true->
0=r0)/\
(decide (2<p2)=false->
let v1:Int:=i64.wrap ((i64.wrap (3*p1))+p2)
let v2:Int:=u64.wrap (i64.wrap (v1+1))
let v3:Int:=u64.wrap (v2*11400714819323198485)
(p0≠0)/\Int.tmod v3 p0=r0))))))<|by
 rintro p0 p1 p2 h _ rfl;obtain⟨rfl,h1,h2⟩:=h;refine⟨rfl,fun h=>by simp at h,fun _=>⟨fun h=> ?_,fun _=>⟨fun h=> ?_,fun _=>⟨fun h=> ?_,fun _=>⟨fun h=> ?_,fun _=> ?_⟩⟩⟩⟩⟩
 ·simp at h;omega
 ·simp at h;omega
 ·simp at h;omega
 ·simp at h;omega
 ·simp only[];rw[wi (3*p1) qqo qqo,wi (3*p1+p2) qqo qqo,wi (3*p1+p2+1) qqo qqo,wu (3*p1+p2+1) qqo qqo,u64w];exact⟨by omega,by rw[tmod_nn _ _ qqo];rfl⟩
noncomputable def kin:Ct:= .gp 116 [yqu,.sl yqu] [yqu] [] fun(p0:Int) (p1:Li)=>(p0=18446744069414584321/\Us p1/\p1.length<=9223372036854775807,(p1.foldl (fun s x=>(s+x)%18446744069414584321) 0:Int),())
theorem kjg:kin.O:=qrv Bs Tryz.func116 (.r 1 (.nd [] (.r 0 (.lp [] ⟨[],[],[5,6],[.one (zqu),.one (zqi)],[]⟩ .no)) [] .no)) (k4c.c c0) (Q:=∀(p0:Int) (p1:Li),(p0=18446744069414584321/\Us p1/\p1.length<=9223372036854775807)->∀r0:Int,(p1.foldl (fun s x=>(s+x)%18446744069414584321) 0)=r0-> 
∃(I1:Int->Int->Prop) (M1:Int->Int->Nat),I1 0 0/\∀b1 f1,(I1 b1 f1->
(decide (f1<(p1.length:Int))=true->
(0<=f1)/\f1<(p1.length:Int)/\(p0=18446744069414584321/\U64 b1/\U64 (ix p1 f1))/\let r1:Int:=((b1+(ix p1 f1))%18446744069414584321)
I1 r1 (i64.wrap (f1+1))/\M1 r1 (i64.wrap (f1+1))<M1 b1 f1)/\
(decide (f1<(p1.length:Int))=false->
b1=r0)))<|by rintro p0 p1 h _ rfl;obtain⟨rfl,h1,h2⟩:=h;refine(⟨(fun s i=>FoldI (fun s x=>(s+x)%18446744069414584321) 0 p1 i s/\U64 s),(fun s i=>(p1.length-i).toNat),⟨FoldI.start,by omega⟩,?_⟩);rintro s i ⟨hi,hs⟩;refine⟨fun hh=> ?_,fun hh=>hi.done (qc hh)⟩;have hh:=qb hh;have hx:=h1 _ (ix_mem p1 i hi.1 hh);have nx:=hi.next hh qqo rfl;exact⟨hi.1,hh,⟨rfl,hs,hx⟩,⟨nx.1,by omega⟩,nx.2⟩
noncomputable def kj7:Ct:= .gp 108 [yqu,.st 6] [.st 6] [] fun(p0:Int) (p1:wZ)=>(p0=18446744069414584321/\S3 p1,(mixS p1:wZ),())
theorem kje:kj7.O:=qrv Bs Tryz.func108 (.r 2 (.nd [] (.r 0 (.lp [] ⟨[3],yI,[7],[.one (zqi)],[]⟩ .no)) [] .no)) (kjg.c (k4c.c c0)) (Q:=∀(p0:Int) (p1:wZ),(p0=18446744069414584321/\S3 p1)->∀r0:wZ,mixS p1=r0-> 
(p0=18446744069414584321/\Us [p1.a0,p1.a1,p1.a2]/\[p1.a0,p1.a1,p1.a2].length<=9223372036854775807)/\let r1:Int:=([p1.a0,p1.a1,p1.a2].foldl (fun s x=>(s+x)%18446744069414584321) 0)
∃(I1:Int->Int->Int->Int->Prop) (M1:Int->Int->Int->Int->Nat),I1 0 0 0 0/\∀b1 f1 i1 k1,(I1 b1 f1 i1 k1->
(decide (b1<3)=true->
(0<=b1/\b1<(3:Int))/\(0<=b1/\b1<(3:Int))/\(p0=18446744069414584321/\U64 (ix [p1.a0,p1.a1,p1.a2] b1)/\U64 r1)/\let r2:Int:=(((ix [p1.a0,p1.a1,p1.a2] b1)+r1)%18446744069414584321)
(0<=b1/\b1<(3:Int))/\(0<=b1/\b1<(3:Int))/\I1 (i64.wrap (b1+1)) (bif decide (b1=(0:Int))then r2 else f1) (bif decide (b1=(1:Int))then r2 else i1) (bif decide (b1=(2:Int))then r2 else k1)/\M1 (i64.wrap (b1+1)) (bif decide (b1=(0:Int))then r2 else f1) (bif decide (b1=(1:Int))then r2 else i1) (bif decide (b1=(2:Int))then r2 else k1)<M1 b1 f1 i1 k1)/\
(decide (b1<3)=false->
f1=r0.a0/\i1=r0.a1/\k1=r0.a2)))<|by
 rintro p0 p1 h _ rfl;obtain⟨rfl,h0,h1,h2⟩:=h;have e:[p1.a0,p1.a1,p1.a2].foldl (fun s x=>(s+x)%18446744069414584321) 0=((p1.a0+p1.a1)%18446744069414584321+p1.a2)%18446744069414584321:=by show(((0+p1.a0)%18446744069414584321+p1.a1)%18446744069414584321+p1.a2)%18446744069414584321=_;omega
 refine⟨⟨rfl,?_,by simp⟩,?_⟩
 ·intro x hx;simp only[qal,qfb,or_false]at hx;rcases hx with rfl|rfl|rfl
  ·exact h0
  ·exact h1
  ·exact h2
 rw[e];have hu:U64 (((p1.a0+p1.a1)%18446744069414584321+p1.a2)%18446744069414584321):=⟨by omega,by(first|omega|(dsimp only;omega))⟩;generalize hg:((p1.a0+p1.a1)%18446744069414584321+p1.a2)%18446744069414584321=t at *
 refine⟨(fun i x y z=>(i=0)∨(i=1/\x=(p1.a0+t)%18446744069414584321)∨(i=2/\x=(p1.a0+t)%18446744069414584321/\y=(p1.a1+t)%18446744069414584321)∨(i=3/\x=(p1.a0+t)%18446744069414584321/\y=(p1.a1+t)%18446744069414584321/\z=(p1.a2+t)%18446744069414584321)),(fun i _ _ _=>(3-i).toNat),(.inl rfl),?_⟩;intro i x y z hi;refine⟨fun hh=> ?_,fun hh=> ?_⟩
 ·have hh:=qb hh;rcases hi with rfl|⟨rfl,rfl⟩|⟨rfl,rfl,rfl⟩|⟨rfl,_⟩
  ·exact⟨by omega,by omega,⟨rfl,h0,hu⟩,by omega,by omega,.inr (.inl ⟨rfl,rfl⟩),by(dsimp only;decide)⟩
  ·exact⟨by omega,by omega,⟨rfl,h1,hu⟩,by omega,by omega,.inr (.inr (.inl ⟨rfl,rfl,rfl⟩)),by(dsimp only;decide)⟩
  ·exact⟨by omega,by omega,⟨rfl,h2,hu⟩,by omega,by omega,.inr (.inr (.inr ⟨rfl,rfl,rfl,rfl⟩)),by(dsimp only;decide)⟩
  ·omega
 ·have hh:=qc hh;rcases hi with rfl|⟨rfl,rfl⟩|⟨rfl,rfl,rfl⟩|⟨rfl,rfl,rfl,rfl⟩
  ·omega
  ·omega
  ·omega
  ·unfold mixS;rw[hg];exact⟨rfl,rfl,rfl⟩
end Go.Proofs.YtghlnaoogfcldaaGreat
end
