/-
  Parts of the proofs, merged by a program. No conditions but those in each theorem.
-/
import Derived.Test.YtcghahkoioeddaaGreatDoorA7
set_option maxRecDepth 100000
set_option linter.all false
noncomputable section
namespace Go.Proofs.YtcghahkoioeddaaGreatDoor
open Go Go.Bv Go.Cv Go.Md Go.RowKit
open Go.IntKind (i64 u64)
noncomputable def kib:Con TB.den:= .gp 76 [.st 0,.sl (.st 3)] [.bool] [] fun(p0:wE) (p1:List wI)=>(p1.length<=9223372036854775807/\∀b∈p1,b.Txs.length<=9223372036854775807/\∀t∈b.Txs,t.wD.length<=9223372036854775807,(smA p0 p1:Bool),())
theorem kiz:kib.Ok Tryz.prog TB:=qrv Bs Tryz.func76 (.r 1 (.nd [] (.r 0 (.lp [] ⟨[],[],[5],[.one (zqi)],[]⟩ (.r 0 (.nd [] (.r 1 (.lp [] ⟨[],[],[6],[.one (zqi)],[]⟩ .no)) [] .no)))) [] .no)) (kkq.c c0) (Q:=∀(p0:wE) (p1:List wI),(p1.length<=9223372036854775807/\∀b∈p1,b.Txs.length<=9223372036854775807/\∀t∈b.Txs,t.wD.length<=9223372036854775807)->∀r0:Bool,smA p0 p1=r0-> 
(decide (p0.wC<1)=true->
false=r0)/\
(decide (p0.wC<1)=false->
(decide (6<p0.wC)=true->
false=r0)/\
(decide (6<p0.wC)=false->
(decide (8<(p1.length:Int))=true->
false=r0)/\
(decide (8<(p1.length:Int))=false->
∃(I1:Int->Prop) (M1:Int->Nat),I1 0/\∀b1,(I1 b1->
(decide (b1<(p1.length:Int))=true->
(0<=b1)/\b1<(p1.length:Int)/\let v1:Bool:=decide (4<(((ix p1 b1).Txs).length:Int))
(v1=true->
false=r0)/\
(v1=false->
∃(I2:Int->Prop) (M2:Int->Nat),I2 0/\∀f1,(I2 f1->
(0<=b1)/\b1<(p1.length:Int)/\let v2:Bool:=decide (f1<(((ix p1 b1).Txs).length:Int))
(v2=true->
(0<=b1)/\b1<(p1.length:Int)/\(0<=f1)/\f1<(((ix p1 b1).Txs).length:Int)/\((ix ((ix p1 b1).Txs) f1).wD.length<=9223372036854775807)/\let r3:Bool:=(smallB (ix ((ix p1 b1).Txs) f1) (1200:Int))
((!r3)=true->
false=r0)/\
((!r3)=false->
I2 (i64.wrap (f1+1))/\M2 (i64.wrap (f1+1))<M2 f1))/\
(v2=false->
I1 (i64.wrap (b1+1))/\M1 (i64.wrap (b1+1))<M1 b1))))/\
(decide (b1<(p1.length:Int))=false->
true=r0))))))<|by
 rintro p0 p1 h _ rfl;obtain⟨hl,hb⟩:=h;refine⟨fun e1=> ?_,fun e1=>⟨fun e2=> ?_,fun e2=>⟨fun e3=> ?_,fun e3=> ?_⟩⟩⟩
 ·have e1:=qb e1;unfold smA;rw[qby (p:=1<=p0.wC) qqo];rfl
 ·have e2:=qb e2;unfold smA;rw[qby (p:=p0.wC<=6) qqo];simp
 ·have e3:=qb e3;unfold smA;rw[qby (p:=(p1.length:Int)<=8) qqo];simp
 have e1:=qc e1;have e2:=qc e2;have e3:=qc e3;have es:smA p0 p1=p1.all (fun b=>decide ((b.Txs.length:Int)<=4)&&b.Txs.all (fun t=>smallB t 1200)):=by unfold smA;rw[qbr (p:=1<=p0.wC) qqo,qbr (p:=p0.wC<=6) qqo,qbr (p:=(p1.length:Int)<=8) qqo];rfl
 rw[es];refine⟨(fun i=>0<=i/\i<=p1.length/\∀x∈p1.take i.toNat,(decide ((x.Txs.length:Int)<=4)&&x.Txs.all (fun t=>smallB t 1200))=true),(fun i=>(p1.length-i).toNat),⟨by omega,by omega,by simp⟩,?_⟩;rintro i ⟨g0,g1,g2⟩;refine⟨fun hh=> ?_,fun hh=> ?_⟩
 ·have hh:=qb hh;have hm:=ix_mem p1 i g0 hh;obtain⟨b1,b2⟩:=hb _ hm;refine⟨g0,hh,fun e=> ?_,fun e=> ?_⟩
  ·have e:=qb e;exact(qcl.2 ⟨_,hm,by rw[qby (p:=((ix p1 i).Txs.length:Int)<=4) qqo];simp⟩).symm
  ·have e:=qc e;refine⟨(fun k=>0<=k/\k<=(ix p1 i).Txs.length/\∀x∈(ix p1 i).Txs.take k.toNat,smallB x 1200=true),(fun k=>((ix p1 i).Txs.length-k).toNat),⟨by omega,by omega,by simp⟩,?_⟩;rintro k ⟨k0,k1,k2⟩;refine⟨g0,hh,fun hk=> ?_,fun hk=> ?_⟩
   ·have hk:=qb hk;have hn:=ix_mem (ix p1 i).Txs k k0 hk;refine⟨g0,hh,k0,hk,b2 _ hn,fun e4=> ?_,fun e4=> ?_⟩
    ·have e4:smallB (ix (ix p1 i).Txs k) 1200=false:=by simpa using e4
     refine(qcl.2 ⟨_,hm,?_⟩).symm;have:(ix p1 i).Txs.all (fun t=>smallB t 1200)=false:=qcl.2 ⟨_,hn,by simp[e4]⟩;rw[this];simp
    ·rw[inc k (ix p1 i).Txs.length k0 hk qqo];refine⟨⟨by omega,by omega,?_⟩,by(first|omega|(dsimp only;omega))⟩;rw[ke (ix p1 i).Txs k k0 hk];intro t ht;rcases qac.1 ht with ht|ht
     ·exact k2 t ht
     ·rw[qaf.1 ht];simpa using e4
   ·have hk:=qc hk;rw[qx qqo]at k2;rw[inc i p1.length g0 hh qqo];refine⟨⟨by omega,by omega,?_⟩,by(first|omega|(dsimp only;omega))⟩;rw[ke p1 i g0 hh];intro t ht;rcases qac.1 ht with ht|ht
    ·exact g2 t ht
    ·rw[qaf.1 ht,qbr (p:=((ix p1 i).Txs.length:Int)<=4) qqo,qbh.2 k2];rfl
 ·have hh:=qc hh;rw[qx qqo]at g2;exact(qbh.2 g2).symm
noncomputable def kf6:Con TB.den:= .gp 28 [.st 18] [.bool] [] fun(p0:wAr)=>((p0.L.length<=9223372036854775807)/\∀b∈p0.L,b.Txs.length<=9223372036854775807/\∀t∈b.Txs,t.wD.length<=9223372036854775807,(rtB p0:Bool),())
theorem kfo:kf6.Ok Tryz.prog TB:=qrv Bs Tryz.func28 (.r 0 (.nd [] (.r 0 (.lp [] ⟨[],[],[8],[.one (zqi)],[]⟩ .no)) [] .no)) (kiz.c (kk7.c c0)) (Q:=∀(p0:wAr),((p0.L.length<=9223372036854775807)/\∀b∈p0.L,b.Txs.length<=9223372036854775807/\∀t∈b.Txs,t.wD.length<=9223372036854775807)->∀r0:Bool,rtB p0=r0-> 
∃(I1:Int->Prop) (M1:Int->Nat),I1 0/\∀b1,(I1 b1->
(decide (b1<(p0.L.length:Int))=true->
(0<=b1)/\b1<(p0.L.length:Int)/\let v1:Bool:=decide (4<(((ix p0.L b1).Txs).length:Int))
(v1=true->
false=r0)/\
(v1=false->
([(ix p0.L b1)].length<=9223372036854775807/\∀b∈[(ix p0.L b1)],b.Txs.length<=9223372036854775807/\∀t∈b.Txs,t.wD.length<=9223372036854775807)/\let r2:Bool:=(smA (wE.mk p0.wAo p0.wAk p0.wy p0.ww p0.wn p0.wAP p0.wAZ p0.wAM p0.wAv) [(ix p0.L b1)])
((!r2)=true->
false=r0)/\
((!r2)=false->
I1 (i64.wrap (b1+1))/\M1 (i64.wrap (b1+1))<M1 b1)))/\
(decide (b1<(p0.L.length:Int))=false->
((p0.wAo==2)=true->
let r3:Int:=(rulesE (wE.mk p0.wAo p0.wAk p0.wy p0.ww p0.wn p0.wAP p0.wAZ p0.wAM p0.wAv))
((r3==0)=true->
decide ((p0.L.length:Int)<=12)=r0)/\
((r3==0)=false->
false=r0))/\
((p0.wAo==2)=false->
false=r0))))<|by
 rintro p0 h _ rfl;obtain⟨hl,hb⟩:=h;refine⟨(fun i=>∃k:Nat,i=(k:Int)/\k<=p0.L.length/\∀x∈p0.L.take k,(decide ((x.Txs.length:Int)<=4)&&smA (qC p0) [x])=true),(fun i=>(p0.L.length-i).toNat),⟨0,rfl,qav _,by simp⟩,?_⟩;rintro _ ⟨k,rfl,hk,hA⟩;refine⟨fun e=> ?_,fun e=> ?_⟩
 ·have e:(k:Int)<p0.L.length:=qb e;have hkl:k<p0.L.length:=by omega
  have hmem:p0.L[k]∈p0.L:=qal hkl;rw[ix_get _ _ hkl,inc (k:Int) p0.L.length qqo e qqo];refine⟨by omega,e,fun e2=> ?_,fun e2=>⟨⟨by simp,fun y hy=>by rw[qaf.1 hy];exact hb _ hmem⟩,fun e3=> ?_,fun e3=>⟨⟨k+1,rfl,by omega,?_⟩,by(first|omega|(dsimp only;omega))⟩⟩⟩
  ·have e2:=qb e2;exact rtB_no hmem (by rw[qby qqo];rfl)
  ·have e3:smA (qC p0) [p0.L[k]]=false:=(qbk _).mp e3;exact rtB_no hmem (by rw[e3,Bool.and_false])
  ·have e2:=qc e2;have e3:smA (qC p0) [p0.L[k]]=true:=(Bool.not_eq_false' _).mp e3;rw[qan hkl];intro x hx;rcases qac.1 hx with hx|hx
   ·exact hA x hx
   ·rw[qaf.1 hx,e3,qbr qqo];rfl
 ·have e:¬(k:Int)<p0.L.length:=qc e;rw[qx qqo]at hA;have hall:=qbh.2 hA;unfold rtB;rw[hall];refine⟨fun e2=>⟨fun e3=> ?_,fun e3=> ?_⟩,fun e2=> ?_⟩
  ·have e3:(rulesE (qC p0)==0)=true:=e3;rw[e2,e3];rfl
  ·have e3:(rulesE (qC p0)==0)=false:=e3;rw[e2,e3];rfl
  ·rw[e2];rfl
noncomputable def k14:Con TB.den:= .gp 6 [.st 18] [.bool] [] fun(p0:wAr)=>(0<=p0.wAP/\(∀b∈p0.L,BR b)/\(p0.L.length<=9223372036854775807)/\∀b∈p0.L,b.Txs.length<=9223372036854775807/\∀t∈b.Txs,t.wD.length<=9223372036854775807,true,())
abbrev Fz12 (r:Type):=Int->Int->Int->Int->Int->Int->Int->Int->Int->Int->(Li)->Int->Int->Bool->Int->Int->(List wB)->Int->Int->Int->Int->Int->Int->Int->Int->Int->Int->Int->(Li)->(List wA)->Int->(Li)->(List wL)->(Lb)->(Li)->(Lb)->(List (Li))->(Lb)->(Lo)->(Li)->(Lo)->(Li)->(Li)->(List wK)->r
theorem k92:k14.Ok Tryz.prog TB:=qrv Bs Tryz.func6 (.r 0 (.nd [] (.jn ⟨[],[],[22],[.one (.d (.bool))],[]⟩ [] .no [] .no) [] (.r 2 (.nd [] (.r 0 (.lp [] ⟨[5,1,6,7,2,3,4,9,12],[.cells yD1,.cells yG1,.map yqu (.st 11),.cells [zqi,zqi,zqi,zqi,zqi,zqu,zqi,zqi,zqu,zqi,zqi,zql,.row 9,.ptr 7 0,.d (.sl (.st 9)),zqu,.row 10,.row 11],.map (.str) yqi,.map (.str) (.sl yqu),.map (.str) (.bool),.cells [.mp 8],.map yqu (.bool),.vec yqu,.vec yqu,.vec (.st 10)],[41],[.one (zqi)],[8,10,11]⟩ .no)) [] .no)))) (kfy.c (kfo.c (k62.c (k9y.c (k5b.c (k57.c (k85.c (k61.c (kg2.c (kg6.c (k51.c (k52.c (ker.c c0))))))))))))) (Q:=∀(p0:wAr),(0<=p0.wAP/\(∀b∈p0.L,BR b)/\(p0.L.length<=9223372036854775807)/\∀b∈p0.L,b.Txs.length<=9223372036854775807/\∀t∈b.Txs,t.wD.length<=9223372036854775807)->∀r0:Bool,(true:Bool)=r0-> 
∀J1:Bool->Prop,(∀(b1:Bool),
((b1=true->
true=r0)/\
(b1=false->
((rulesE (wE.mk p0.wAo p0.wAk p0.wy p0.ww p0.wn p0.wAP p0.wAZ p0.wAM p0.wAv)=0/\(wE.mk p0.wAo p0.wAk p0.wy p0.ww p0.wn p0.wAP p0.wAZ p0.wAM p0.wAv).wb=2/\false=false)/\let r1:=wE.mk p0.wAo p0.wAk p0.wy p0.ww p0.wn p0.wAP p0.wAZ p0.wAM p0.wAv
let r2:=newS (wE.mk p0.wAo p0.wAk p0.wy p0.ww p0.wn p0.wAP p0.wAZ p0.wAM p0.wAv)
(((0:Int) !=0)=true->
false=r0)/\
(((0:Int) !=0)=false->
lz r2.p/\lz r2.r/\lz r2.l/\∃(I1:Fz12 Prop) (M1:Fz12 Nat),I1 0 r1.wb r1.wC r1.wR r1.wO r1.wN r1.wV r1.wc r1.wU r1.wW ([]:Li) (0:Int) (0:Int) false (0:Int) (0:Int) [] r2.R.wb r2.R.wC r2.R.wR r2.R.wO r2.R.wN r2.R.wV r2.R.wc r2.R.wU r2.R.wW r2.F.wC r2.F.we r2.F.wh r2.b r2.n ([]:Li) ([]:List wL) [] [] [] [] [] [] r2.k r2.v r2.l r2.r r2.p/\∀f1 i1 k1 l1 m1 n1 o1 q1 s1 t1 u1 x1 y1 b2 f2 i2 k2 l2 m2 n2 o2 q2 s2 t2 u2 x2 y2 b3 f3 i3 k3 l3 m3 n3 o3 q3 s3 t3 u3 x3 y3 b4 f4 i4,(I1 f1 i1 k1 l1 m1 n1 o1 q1 s1 t1 u1 x1 y1 b2 f2 i2 k2 l2 m2 n2 o2 q2 s2 t2 u2 x2 y2 b3 f3 i3 k3 l3 m3 n3 o3 q3 s3 t3 u3 x3 y3 b4 f4 i4->
(decide (f1<(p0.L.length:Int))=true->
(0<=f1)/\f1<(p0.L.length:Int)/\lz i4/\lz f4/\lz b4/\(SCh (CS.mk (wE.mk i1 k1 l1 m1 n1 o1 q1 s1 t1) l3 m3 u1 (PS.mk (wE.mk l2 m2 n2 o2 q2 s2 t2 u2 x2) (wG.mk y2 b3 f3) i3 k3 b4 f4 i4 x3 y3) x1 y1) (ix p0.L f1)/\b2=false/\n3=([]:Lb)/\o3=([]:Li))/\let r3:=subS (CS.mk (wE.mk i1 k1 l1 m1 n1 o1 q1 s1 t1) l3 m3 u1 (PS.mk (wE.mk l2 m2 n2 o2 q2 s2 t2 u2 x2) (wG.mk y2 b3 f3) i3 k3 b4 f4 i4 x3 y3) x1 y1) (ix p0.L f1)
lz r3.c.S.p/\lz r3.c.S.r/\lz r3.c.S.l/\((r3.c.k.length=r3.c.v.length/\r3.c.be.length<=1000)/\∀id∈r3.c.be,id∈r3.c.k/\(gB r3.c.k r3.c.v id).Txs.length<=4/\∀x∈(gB r3.c.k r3.c.v id).Txs,TL x)/\((BLk (r3.c.be.map (gB r3.c.k r3.c.v))/\((r3.c.be.map (gB r3.c.k r3.c.v))≠[]->(wE.mk p0.wAo p0.wAk p0.wy p0.ww p0.wn p0.wAP p0.wAZ p0.wAM p0.wAv).wC<=6)/\0<=(wE.mk p0.wAo p0.wAk p0.wy p0.ww p0.wn p0.wAP p0.wAZ p0.wAM p0.wAv).wV)/\b2=false/\n3=([]:Lb)/\o3=([]:Li))/\let r4:=(audS false (wE.mk p0.wAo p0.wAk p0.wy p0.ww p0.wn p0.wAP p0.wAZ p0.wAM p0.wAv) (r3.c.be.map (gB r3.c.k r3.c.v))).1
let r5:Int:=((audS false (wE.mk p0.wAo p0.wAk p0.wy p0.ww p0.wn p0.wAP p0.wAZ p0.wAM p0.wAv) (r3.c.be.map (gB r3.c.k r3.c.v))).2)
lz r3.c.S.p/\lz r3.c.S.r/\lz r3.c.S.l/\((!true)=true->
false=r0)/\
((!true)=false->
((r5 !=0)=true->
false=r0)/\
((r5 !=0)=false->
((r4.wAR !=0)=true->
((wBP.mk false 0 0 ([]:List wB) ([]:List wBO) ([]:List wBO)).wBN=false/\UF (wAs.mk r4.wAR r4.wAb r4.wAx r4.wAU r4.wAX r4.wAS r4.wAV r4.wAW r4.wAT))/\let r6:Bool:=(genB (wAs.mk r4.wAR r4.wAb r4.wAx r4.wAU r4.wAX r4.wAS r4.wAV r4.wAW r4.wAT))
r6=r0)/\
((r4.wAR !=0)=false->
lz r3.c.S.p/\lz r3.c.S.r/\lz r3.c.S.l/\(r3.c.S.b.length<=100000)/\(OkA (wt.mk r3.c.S.b).wF)/\let r7:=totA 0 (wt.mk r3.c.S.b).wF
((r7.2 !=0)=true->
false=r0)/\
((r7.2 !=0)=false->
((r4.wBK !=r7.1)=true->
false=r0)/\
((r4.wBK !=r7.1)=false->
lz r3.c.S.p/\lz r3.c.S.r/\lz r3.c.S.l/\((r4.wBC !=r3.c.S.n)=true->
false=r0)/\
((r4.wBC !=r3.c.S.n)=false->
let v8:Int:=((r3.c.be.map (gB r3.c.k r3.c.v)).length:Int)
let v9:Int:=u64.wrap ((u64.wrap v8)*p0.wAP)
((r4.wBG !=v9)=true->
false=r0)/\
((r4.wBG !=v9)=false->
let v10:Bool:=(r4.wBG !=(u64.wrap (r4.wBK+r4.wBC)))
(v10=true->
false=r0)/\
(v10=false->
lz r3.c.S.p/\lz r3.c.S.r/\lz r3.c.S.l/\I1 (i64.wrap (f1+1)) i1 k1 l1 m1 n1 o1 q1 s1 t1 r3.c.be r3.c.fi r3.c.he b2 f2 i2 k2 r3.c.S.R.wb r3.c.S.R.wC r3.c.S.R.wR r3.c.S.R.wO r3.c.S.R.wN r3.c.S.R.wV r3.c.S.R.wc r3.c.S.R.wU r3.c.S.R.wW r3.c.S.F.wC r3.c.S.F.we r3.c.S.F.wh r3.c.S.b r3.c.S.n r3.c.k r3.c.v n3 o3 q3 s3 t3 u3 r3.c.S.k r3.c.S.v r3.c.S.l r3.c.S.r r3.c.S.p/\M1 (i64.wrap (f1+1)) i1 k1 l1 m1 n1 o1 q1 s1 t1 r3.c.be r3.c.fi r3.c.he b2 f2 i2 k2 r3.c.S.R.wb r3.c.S.R.wC r3.c.S.R.wR r3.c.S.R.wO r3.c.S.R.wN r3.c.S.R.wV r3.c.S.R.wc r3.c.S.R.wU r3.c.S.R.wW r3.c.S.F.wC r3.c.S.F.we r3.c.S.F.wh r3.c.S.b r3.c.S.n r3.c.k r3.c.v n3 o3 q3 s3 t3 u3 r3.c.S.k r3.c.S.v r3.c.S.l r3.c.S.r r3.c.S.p<M1 f1 i1 k1 l1 m1 n1 o1 q1 s1 t1 u1 x1 y1 b2 f2 i2 k2 l2 m2 n2 o2 q2 s2 t2 u2 x2 y2 b3 f3 i3 k3 l3 m3 n3 o3 q3 s3 t3 u3 x3 y3 b4 f4 i4)))))))))/\
(decide (f1<(p0.L.length:Int))=false->
true=r0))))∨((rulesE (wE.mk p0.wAo p0.wAk p0.wy p0.ww p0.wn p0.wAP p0.wAZ p0.wAM p0.wAv)≠0)/\let r11:Int:=(rulesE (wE.mk p0.wAo p0.wAk p0.wy p0.ww p0.wn p0.wAP p0.wAZ p0.wAM p0.wAv))
false=r0)))->J1 b1)->
((!true)=true->
J1 true)/\
((!true)=false->
((p0.L.length<=9223372036854775807)/\∀b∈p0.L,b.Txs.length<=9223372036854775807/\∀t∈b.Txs,t.wD.length<=9223372036854775807)/\J1 (!(rtB p0))))<|by
 rintro p0 h _ rfl;obtain⟨hw,hr,hs⟩:=h;intro J1 k1;have jt:J1 true:=k1 true ⟨fun _=>rfl,fun h=>(by cases h)⟩;refine⟨fun h=>(by cases h),fun _=>⟨hs,?_⟩⟩;cases hrt:rtB p0 with
 |false=>exact jt
 |true=>
  obtain⟨hE,hm,hl,hsm,h6⟩:=rtB_iff hrt;refine k1 false ⟨fun h=>(by cases h),fun _=> .inl ⟨⟨hE,hm,rfl⟩,fun h=>(by cases h),fun _=> ?_⟩⟩;refine⟨rfl,rfl,rfl,(fun f1 i1 k1 l1 m1 n1 o1 q1 s1 t1 u1 x1 y1 b2 f2 i2 k2 l2 m2 n2 o2 q2 s2 t2 u2 x2 y2 b3 f3 i3 k3 l3 m3 n3 o3 q3 s3 t3 u3 x3 y3 b4 f4 i4=>∃j:Nat,f1=(j:Int)/\j<=p0.L.length/\(p0.wAo=i1/\p0.wAk=k1/\p0.wy=l1/\p0.ww=m1/\p0.wn=n1/\p0.wAP=o1/\p0.wAZ=q1/\p0.wAM=s1/\p0.wAv=t1/\false=b2/\[]=n3/\[]=o3)/\CI (CS.mk (wE.mk i1 k1 l1 m1 n1 o1 q1 s1 t1) l3 m3 u1 (PS.mk (wE.mk l2 m2 n2 o2 q2 s2 t2 u2 x2) (wG.mk y2 b3 f3) i3 k3 b4 f4 i4 x3 y3) x1 y1) j),(fun f1 _ _ _ _ _ _ _ _ _ _ _ _ _ _ _ _ _ _ _ _ _ _ _ _ _ _ _ _ _ _ _ _ _ _ _ _ _ _ _ _ _ _ _=>(p0.L.length-f1).toNat),⟨0,rfl,qav _,⟨rfl,rfl,rfl,rfl,rfl,rfl,rfl,rfl,rfl,rfl,rfl,rfl⟩,newC_CI hE hw⟩,?_⟩;rintro _ _ _ _ _ _ _ _ _ _ u1 x1 y1 _ f2 i2 k2 l2 m2 n2 o2 q2 s2 t2 u2 x2 y2 b3 f3 i3 k3 l3 m3 _ _ q3 s3 t3 u3 x3 y3 b4 f4 i4 ⟨j,rfl,hj,⟨rfl,rfl,rfl,rfl,rfl,rfl,rfl,rfl,rfl,rfl,rfl,rfl⟩,hC⟩;refine⟨fun e=> ?_,fun _=>rfl⟩;have e:(j:Int)<p0.L.length:=qb e;have hjl:j<p0.L.length:=by omega
  have hmem:p0.L[j]∈p0.L:=qal hjl;have hG:GB p0.L[j]:=smA_GB (hr _ hmem) (hsm _ hmem).1 (hsm _ hmem).2;have h6:=h6 (List.ne_nil_of_mem hmem);have hD:=subS_CI hC qqo hG;have hDR:=subS_R (CS.mk (wE.mk p0.wAo p0.wAk p0.wy p0.ww p0.wn p0.wAP p0.wAZ p0.wAM p0.wAv) l3 m3 u1 (PS.mk (wE.mk l2 m2 n2 o2 q2 s2 t2 u2 x2) (wG.mk y2 b3 f3) i3 k3 b4 f4 i4 x3 y3) x1 y1) p0.L[j];rw[ix_get _ _ hjl,inc (j:Int) p0.L.length qqo e qqo];refine⟨by omega,e,rfl,rfl,rfl,⟨⟨⟨j,by omega,hC⟩,hG,hm⟩,rfl,rfl,rfl⟩,?_⟩;dsimp only;generalize subS (CS.mk (wE.mk p0.wAo p0.wAk p0.wy p0.ww p0.wn p0.wAP p0.wAZ p0.wAM p0.wAv) l3 m3 u1 (PS.mk (wE.mk l2 m2 n2 o2 q2 s2 t2 u2 x2) (wG.mk y2 b3 f3) i3 k3 b4 f4 i4 x3 y3) x1 y1) p0.L[j]=D at hD hDR ⊢;have hDR:D.c.R=qC p0:=hDR;have hA:=hD.acc qqo (by rw[hDR];exact hm) (by rw[hDR];exact h6);have hPD:=hD.pi qqo;have hb5:D.c.S.b.length<=100000:=by have h1:D.c.S.b.length<=_:=hPD.1.b.2.2;have:=hD.bek.2.1;omega
  have hDe:=CS.eta_R hDR;have a1:=hA.e;have a7:=hA.m;rw[hDR]at hA a1 a7;refine⟨rfl,rfl,rfl,hD.best qqo,⟨⟨hD.blk qqo,fun _=>h6,hw⟩,rfl,rfl,rfl⟩,rfl,rfl,rfl,fun e=>(by cases e),fun _=>⟨fun e2=>(bne_iff_ne.1 e2 a1).elim,fun _=>⟨fun e3=>⟨⟨rfl,hA.u⟩,(hA.g (bne_iff_ne.1 e3)).b'⟩,fun e3=> ?_⟩⟩⟩;obtain⟨o1,o2,o3,o4⟩:=hA.o (bne_eq_false_iff_eq.1 e3);refine⟨rfl,rfl,rfl,hb5,hPD.1.b.1,fun e4=>(bne_iff_ne.1 e4 o1).elim,fun _=>⟨fun e5=>(bne_iff_ne.1 e5 o2).elim,fun _=>⟨rfl,rfl,rfl,fun e6=>(bne_iff_ne.1 e6 o3).elim,fun _=>⟨fun e7=>(bne_iff_ne.1 e7 (by rw[ql];exact a7)).elim,fun _=>⟨fun e8=>(bne_iff_ne.1 e8 o4).elim,fun _=>⟨rfl,rfl,rfl,⟨j+1,rfl,by omega,⟨rfl,rfl,rfl,rfl,rfl,rfl,rfl,rfl,rfl,rfl,rfl,rfl⟩,?_⟩,by(first|omega|(dsimp only;omega))⟩⟩⟩⟩⟩⟩;rw[hDe]at hD;exact hD
end Go.Proofs.YtcghahkoioeddaaGreatDoor
end
