/- Parts of the proofs, merged by a program. -/
import Derived.Test.YtljmmhaiaipckaaGreatA7
set_option maxRecDepth 100000
set_option linter.all false
noncomputable section
namespace Go.Proofs.YtljmmhaiaipckaaGreat
open Go Go.Bv Go.Cv Go.Md Go.RowKit
open Go.IntKind (i64 u64)
noncomputable def kin:Ct:= .gp 15 [.st 2,yqi] [.bool] [] fun(p0:wy) (p1:Int)=>(p0.wA.length<=9223372036854775807,(smallB p0 p1:Bool),())
theorem km2:kin.O:=qrv Bs Tryz.func15 (.r 0 (.nd [] (.r 0 (.lp [] ⟨[],[],[5],[.one (zqi)],[]⟩ .no)) [] .no)) c0 (Q:=∀(p0:wy) (p1:Int),(p0.wA.length<=9223372036854775807)->∀r0:Bool,smallB p0 p1=r0-> 
∃(I1:Int->Prop) (M1:Int->Nat),I1 0/\∀b1,(I1 b1->
(decide (b1<(p0.wA.length:Int))=true->
(0<=b1)/\b1<(p0.wA.length:Int)/\let v1:Bool:=decide (10<(((ix p0.wA b1).wAF).length:Int))
(v1=true->
false=r0)/\
(v1=false->
I1 (i64.wrap (b1+1))/\M1 (i64.wrap (b1+1))<M1 b1))/\
(decide (b1<(p0.wA.length:Int))=false->
(decide ((p0.wE.length:Int)<=10)=true->
(decide ((p0.wA.length:Int)<=10)=true->
decide ((p0.wh.length:Int)<=p1)=r0)/\
(decide ((p0.wA.length:Int)<=10)=false->
false=r0))/\
(decide ((p0.wE.length:Int)<=10)=false->
false=r0))))<|by
 rintro p0 p1 h _ rfl;refine(⟨(fun i=>0<=i/\i<=p0.wA.length/\∀x∈p0.wA.take i.toNat,x.wAF.length<=10),(fun i=>(p0.wA.length-i).toNat),⟨by omega,by omega,by simp⟩,?_⟩);rintro i ⟨g0,g1,g2⟩;refine⟨fun hh=> ?_,fun hh=> ?_⟩
 ·have hh:=qb hh;refine⟨g0,hh,fun e=> ?_,fun e=> ?_⟩
  ·have e:=qb e;unfold smallB;have:p0.wA.all (fun x=>decide (x.wAF.length<=10))=false:=qcm.2 ⟨_,ix_mem p0.wA i g0 hh,by simp;omega⟩;rw[this];simp
  ·have e:=qc e;rw[inc i p0.wA.length g0 hh qqo];refine⟨⟨by omega,by omega,?_⟩,by(dsimp only;omega)⟩;rw[ke p0.wA i g0 hh];intro x hx;rcases qak.1 hx with hx|hx
   ·exact g2 x hx
   ·have:x=ix p0.wA i:=by simpa using hx
    rw[this];omega
 ·have hh:=qc hh;rw[qv qqo]at g2;unfold smallB;have:p0.wA.all (fun x=>decide (x.wAF.length<=10))=true:=by simpa using g2
  rw[this];refine⟨fun h1=>⟨fun h2=> ?_,fun h2=> ?_⟩,fun h1=> ?_⟩
  ·have h1:=qb h1;have h2:=qb h2;rw[qas (p:=p0.wE.length<=10) qqo,qas (p:=p0.wA.length<=10) qqo];simp
  ·have h2:=qc h2;rw[qay (p:=p0.wA.length<=10) qqo];simp
  ·have h1:=qc h1;rw[qay (p:=p0.wE.length<=10) qqo];simp
noncomputable def kj1:Ct:= .gp 5 [.st 0,.sl (.st 3)] [.bool] [] fun(p0:wP) (p1:List wU)=>(p1.length<=9223372036854775807/\∀b∈p1,b.Txs.length<=9223372036854775807/\∀t∈b.Txs,t.wA.length<=9223372036854775807,(smA p0 p1:Bool),())
theorem kk1:kj1.O:=qrv Bs Tryz.func5 (.r 1 (.nd [] (.r 0 (.lp [] ⟨[],[],[5],[.one (zqi)],[]⟩ (.r 0 (.nd [] (.r 1 (.lp [] ⟨[],[],[6],[.one (zqi)],[]⟩ .no)) [] .no)))) [] .no)) (km2.c c0) (Q:=∀(p0:wP) (p1:List wU),(p1.length<=9223372036854775807/\∀b∈p1,b.Txs.length<=9223372036854775807/\∀t∈b.Txs,t.wA.length<=9223372036854775807)->∀r0:Bool,smA p0 p1=r0-> 
(decide (p0.wD<1)=true->
false=r0)/\
(decide (p0.wD<1)=false->
(decide (6<p0.wD)=true->
false=r0)/\
(decide (6<p0.wD)=false->
(decide (8<(p1.length:Int))=true->
false=r0)/\
(decide (8<(p1.length:Int))=false->
∃(I1:Int->Prop) (M1:Int->Nat),I1 0/\∀b1,(I1 b1->
(decide (b1<(p1.length:Int))=true->
(0<=b1)/\b1<(p1.length:Int)/\let v1:Bool:=decide (4<(((ix p1 b1).Txs).length:Int))
(v1=true->
false=r0)/\
(v1=false->
∃(I2:Int->Prop) (M2:Int->Nat),I2 0/\∀f1,(I2 f1->
(0<=b1)/\b1<(p1.length:Int)/\let v2:Bool:=decide (f1<(((ix p1 b1).Txs).length:Int))
(v2=true->
(0<=b1)/\b1<(p1.length:Int)/\(0<=f1)/\f1<(((ix p1 b1).Txs).length:Int)/\((ix ((ix p1 b1).Txs) f1).wA.length<=9223372036854775807)/\let r3:Bool:=(smallB (ix ((ix p1 b1).Txs) f1) (1200:Int))
((!r3)=true->
false=r0)/\
((!r3)=false->
I2 (i64.wrap (f1+1))/\M2 (i64.wrap (f1+1))<M2 f1))/\
(v2=false->
I1 (i64.wrap (b1+1))/\M1 (i64.wrap (b1+1))<M1 b1))))/\
(decide (b1<(p1.length:Int))=false->
true=r0))))))<|by
 rintro p0 p1 h _ rfl;obtain⟨hl,hb⟩:=h;refine⟨fun e1=> ?_,fun e1=>⟨fun e2=> ?_,fun e2=>⟨fun e3=> ?_,fun e3=> ?_⟩⟩⟩
 ·have e1:=qb e1;unfold smA;rw[qay (p:=1<=p0.wD) qqo];rfl
 ·have e2:=qb e2;unfold smA;rw[qay (p:=p0.wD<=6) qqo];simp
 ·have e3:=qb e3;unfold smA;rw[qay (p:=(p1.length:Int)<=8) qqo];simp
 have e1:=qc e1;have e2:=qc e2;have e3:=qc e3;have es:smA p0 p1=p1.all (fun b=>decide ((b.Txs.length:Int)<=4)&&b.Txs.all (fun t=>smallB t 1200)):=by unfold smA;rw[qas (p:=1<=p0.wD) qqo,qas (p:=p0.wD<=6) qqo,qas (p:=(p1.length:Int)<=8) qqo];rfl
 rw[es];refine⟨(fun i=>0<=i/\i<=p1.length/\∀x∈p1.take i.toNat,(decide ((x.Txs.length:Int)<=4)&&x.Txs.all (fun t=>smallB t 1200))=true),(fun i=>(p1.length-i).toNat),⟨by omega,by omega,by simp⟩,?_⟩;rintro i ⟨g0,g1,g2⟩;refine⟨fun hh=> ?_,fun hh=> ?_⟩
 ·have hh:=qb hh;have hm:=ix_mem p1 i g0 hh;obtain⟨b1,b2⟩:=hb _ hm;refine⟨g0,hh,fun e=> ?_,fun e=> ?_⟩
  ·have e:=qb e;exact(qcm.2 ⟨_,hm,by rw[qay (p:=((ix p1 i).Txs.length:Int)<=4) qqo];simp⟩).symm
  ·have e:=qc e;refine⟨(fun k=>0<=k/\k<=(ix p1 i).Txs.length/\∀x∈(ix p1 i).Txs.take k.toNat,smallB x 1200=true),(fun k=>((ix p1 i).Txs.length-k).toNat),⟨by omega,by omega,by simp⟩,?_⟩;rintro k ⟨k0,k1,k2⟩;refine⟨g0,hh,fun hk=> ?_,fun hk=> ?_⟩
   ·have hk:=qb hk;have hn:=ix_mem (ix p1 i).Txs k k0 hk;refine⟨g0,hh,k0,hk,b2 _ hn,fun e4=> ?_,fun e4=> ?_⟩
    ·have e4:smallB (ix (ix p1 i).Txs k) 1200=false:=by simpa using e4
     refine(qcm.2 ⟨_,hm,?_⟩).symm;have:(ix p1 i).Txs.all (fun t=>smallB t 1200)=false:=qcm.2 ⟨_,hn,by simp[e4]⟩;rw[this];simp
    ·rw[inc k (ix p1 i).Txs.length k0 hk qqo];refine⟨⟨by omega,by omega,?_⟩,by(first|omega|(dsimp only;omega))⟩;rw[ke (ix p1 i).Txs k k0 hk];intro t ht;rcases qak.1 ht with ht|ht
     ·exact k2 t ht
     ·rw[qal.1 ht];simpa using e4
   ·have hk:=qc hk;rw[qv qqo]at k2;rw[inc i p1.length g0 hh qqo];refine⟨⟨by omega,by omega,?_⟩,by(first|omega|(dsimp only;omega))⟩;rw[ke p1 i g0 hh];intro t ht;rcases qak.1 ht with ht|ht
    ·exact g2 t ht
    ·rw[qal.1 ht,qas (p:=((ix p1 i).Txs.length:Int)<=4) qqo,qbj.2 k2];rfl
 ·have hh:=qc hh;rw[qv qqo]at g2;exact(qbj.2 g2).symm
noncomputable def k17:Ct:= .gp 3 [.st 0,yqu,.sl (.st 3)] [.bool] [] fun(p0:wP) (p1:Int) (p2:List wU)=>(0<=p0.wd/\U64 p1/\(∀b∈p2,U64 b.wBP/\∀t∈b.Txs,TR t)/\p2.length<=9223372036854775807/\∀b∈p2,b.Txs.length<=9223372036854775807/\∀t∈b.Txs,t.wA.length<=9223372036854775807,true,())
theorem kbg:k17.O:=qrv Bs Tryz.func3 (.r 0 (.nd [] (.jn ⟨[],[],[18],[.one (.d (.bool))],[]⟩ [] .no [] .no) [] (.r 1 (.jn ⟨[],[],[10],[.one (zqi)],[]⟩ [] .no [] .no)))) (klg.c (kk1.c (k61.c (kj3.c (kkx.c (kn5.c (ko4.c c0))))))) (Q:=∀(p0:wP) (p1:Int) (p2:List wU),(0<=p0.wd/\U64 p1/\(∀b∈p2,U64 b.wBP/\∀t∈b.Txs,TR t)/\p2.length<=9223372036854775807/\∀b∈p2,b.Txs.length<=9223372036854775807/\∀t∈b.Txs,t.wA.length<=9223372036854775807)->∀r0:Bool,(true:Bool)=r0-> 
∀J1:Bool->Prop,(∀(b1:Bool),
((b1=true->
true=r0)/\
(b1=false->
((BLk p2/\p0.wD<=6/\0<=p0.wd)/\U64 p1/\false=false/\[]=([]:Lb)/\[]=([]:Li))/\(BLk p2/\0<=p0.wd/\p0.wD<=6)/\∀J2:Int->Prop,(∀(f1:Int),
(((f1 !=0)=true->
(((((aPd p0 p1 p2).1).length:Int)==0)=true->
(((aPd p0 p1 p2).2)==f1)=r0)/\
(((((aPd p0 p1 p2).1).length:Int)==0)=false->
false=r0))/\
((f1 !=0)=false->
((((aPd p0 p1 p2).2)==0)=true->
(U64 p1/\BLk p2/\(∀(i:Nat) (hi:i<p2.length),p2[i].wO=(i:Int)+1))/\(((aPd p0 p1 p2).1)=(paidS p1 p2)/\((aPd p0 p1 p2).1).length<=1000000)/\true=r0)/\
((((aPd p0 p1 p2).2)==0)=false->
false=r0)))->J2 f1)->
((((raudS p0 p2).e)==0)=true->
(((((raudS p0 p2).o).wT)==1)=true->
J2 10)/\
(((((raudS p0 p2).o).wT)==1)=false->
J2 ((raudS p0 p2).e)))/\
((((raudS p0 p2).e)==0)=false->
J2 ((raudS p0 p2).e))))->J1 b1)->
((!true)=true->
J1 true)/\
((!true)=false->
(p2.length<=9223372036854775807/\∀b∈p2,b.Txs.length<=9223372036854775807/\∀t∈b.Txs,t.wA.length<=9223372036854775807)/\J1 (!(smA p0 p2))))<|by
 rintro p0 p1 p2 h _ rfl;obtain⟨hw,hs,hr,hz⟩:=h;intro J1 k1;refine⟨fun h=>by simp at h,fun _=>⟨hz,?_⟩⟩;cases hsm:smA p0 p2 with
 |false=>exact k1 _ ⟨fun _=>rfl,fun h=>(by simp at h)⟩
 |true=>
  refine k1 _ ⟨fun h=>(by simp at h),fun _=> ?_⟩;obtain⟨h6,hB⟩:=smA_B hsm hr;obtain⟨a1,a2⟩:=kt5 hw hB;obtain⟨c1,c2,c3⟩:=kqp p0 p1 p2;refine⟨⟨⟨hB,h6,hw⟩,hs,rfl,rfl,rfl⟩,⟨hB,hw,h6⟩,?_⟩;intro J2 k2
  have j2:∀f:Int,f=(aPd p0 p1 p2).2->J2 f:=by
   rintro _ rfl;refine k2 _ ⟨fun e=>⟨fun e2=>by simp,fun e2=> ?_⟩,fun e=>⟨fun e2=> ?_,fun e2=> ?_⟩⟩
   ·have e:(aPd p0 p1 p2).2≠0:=by simpa using e
    rw[c1 e]at e2;cases e2
   ·have e:(aPd p0 p1 p2).2=0:=by simpa using e
    obtain⟨d1,d2⟩:=c2 e;exact⟨⟨hs,hB,aud_h d1⟩,⟨d2,by rw[d2];exact kqf hB⟩,rfl⟩
   ·have e:(aPd p0 p1 p2).2=0:=by simpa using e
    rw[e]at e2;cases e2
  refine⟨fun e=>⟨fun e2=>j2 _ ?_,fun e2=>j2 _ ?_⟩,fun e=>j2 _ ?_⟩
  ·have e:(raudS p0 p2).e=0:=by simpa using e
   have e2:(raudS p0 p2).o.wT=1:=by simpa using e2
   rw[c3,<-a1,qe (fun hh=>hh e),<-a2 e,qf e2]
  ·have e:(raudS p0 p2).e=0:=by simpa using e
   have e2:¬(raudS p0 p2).o.wT=1:=by simpa using e2
   rw[c3,<-a1,qe (fun hh=>hh e),<-a2 e,qe e2,e]
  ·have e:(raudS p0 p2).e≠0:=by simpa using e
   rw[c3,<-a1,qf e]
end Go.Proofs.YtljmmhaiaipckaaGreat
end
