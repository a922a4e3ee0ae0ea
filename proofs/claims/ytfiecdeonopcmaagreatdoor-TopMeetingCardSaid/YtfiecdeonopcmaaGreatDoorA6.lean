/- Parts of the proofs, merged by a program. -/
import Derived.Test.YtfiecdeonopcmaaGreatDoorA5
set_option maxRecDepth 100000
set_option linter.all false
noncomputable section
namespace Go.Proofs.YtfiecdeonopcmaaGreatDoor
open Go Go.Bv Go.Cv Go.Md Go.RowKit
open Go.IntKind(i64 u64)
def kfc:Ct:=.g ⟨49,[ou,oa],[],.one og,[.tip yqb],false⟩ [yqu,yqi] [oA] [] λ(F B:Int)=>(U64 F/\0<=B/\B<=8,dig B.toNat F,())
theorem k3p:kfc.O:=prv Bs Tryz.func49 (rA 1 (.r 0 (.lp [.tok 5 yqb] ⟨[0],[.tip yqb],[0,5,6],[ou,og,oa],[]⟩ .no))) c0 (Q:=∀F B,U64 F/\0<=B/\B<=8->∀e0,dig B.toNat F=e0->[]=([]:Li)/\∃J Y,J F 0 []/\∀b1 f1 i1,J b1 f1 i1->iD (f1<B) (iL i1 [IntKind.u8.wrap (Int.tmod b1 256)] 1 (let M:=i1++[IntKind.u8.wrap (Int.tmod b1 256)]
M=M/\ss3 J Y b1 (u64.wrap (Int.tdiv b1 256)) f1 (i64.wrap (f1+1)) i1 M)) (i1=i1/\i1=e0))<|by
 rintro F B h _ rfl;obtain⟨h1,h2,h3⟩:=h;refine⟨rfl,⟨λn i g=>0<=i/\i<=B/\U64 n/\n=F/256^i.toNat/\g=dig i.toNat F,λ_ i _=>(B-i).toNat,⟨by omega,by omega,h1,by simp,by simp[dig]⟩,?_⟩⟩;rintro n i g⟨Z,g1,U,X,rfl⟩;refine⟨λh=>?_,λh=>?_⟩
 .have h:=qc h;rw[inc i B Z h qqo,tmod_nn _ _ U.1,tdiv_nn _ _ U.1,u8w,wu (n/256) qqo qqo];refine⟨rfl,?_,?_,rfl,⟨by omega,by omega,by omega,?_,?_⟩,by(dsimp only;omega)⟩;.simp;omega
  .simp;unfold maxLen;omega
  .rw[X,show(i+1).toNat=i.toNat+1 by omega,qcs (qcq (k1l _)),qcp]
  .rw[show(i+1).toNat=i.toNat+1 by omega,k5j,X];congr 2;omega
 .have h:=qd h;exact⟨rfl,by rw[show i=B by omega]⟩
def km0:Ct:=.t ⟨47,[oa],[],.one og,[.tip yqb],false⟩ [yqi] [oA] [] λ(B:Int)=>(dig 4 (len4 B),())
theorem k6e:km0.O:=ptv Bs Tryz.func47 (.r 0 (.jn (oB [0] [oa]) [] .no [] .no)) (k3p.c c0) (Q:=∀B,∀e0,dig 4 (len4 B)=e0->∀F:oD,(∀J,((U64 (u64.wrap J)/\0<=(4:Int)/\(4:Int)<=8)/\let M:=dig (4:Int).toNat (u64.wrap J)
M=M/\M=e0)->F J)->iD (B<0) (F 0) (iD (4294967296<=B) (F 0) (F B)))<|by
 rintro B _ rfl;intro F U;have j:∀n,0<=n->n<=4294967295->len4 B=n->F n:=by intro n X h1 e;refine U _ ?_;rw[wu n qqo qqo,e];exact⟨by omega,by trivial,rfl⟩
 refine⟨λh=>j 0 qqo qqo ?_,λh=>⟨λh'=>j 0 qqo qqo ?_,λh'=>j B ?_ ?_ ?_⟩⟩;.have h:=qc h;exact qg (.inl h)
 .have h':=qc h';exact qg (.inr qqo)
 .have h:=qd h;omega
 .have h':=qd h';omega
 .have h:=qd h;have h':=qd h';exact len4_in (by omega)
def kp1:Ct:=.gp 48 [oq] [oA] [] λ(B:Li)=>(Us B/\B.length<=4294967295,encL B,())
theorem kdv:kp1.O:=qrv Bs Tryz.func48 (rA 1 (lA ⟨[0],[.tip yqb],[3,4],[og,oa],[]⟩ .no)) (k6e.c (k31.c c0)) (Q:=∀B,Us B/\B.length<=4294967295->∀r0,encL B=r0->dig 4 (len4 B.length)=dig 4 (len4 B.length)/\∃J U,J 0 (dig 4 (len4 B.length))/\∀b1 f1,J b1 f1->iF b1 B.length ((U64 (ix B b1)/\0<=(8:Int)/\(8:Int)<=8)/\iL f1 (dig (8:Int).toNat (ix B b1)) 1 (f1++dig (8:Int).toNat (ix B b1)=f1++dig (8:Int).toNat (ix B b1)/\ss2 J U b1 (i64.wrap (b1+1)) f1 (f1++dig (8:Int).toNat (ix B b1)))) (f1=r0))<|by
 rintro B h _ rfl;obtain⟨h1,Y⟩:=h;refine⟨rfl,⟨λi g=>0<=i/\i<=B.length/\g=dig 4 (len4 B.length)++(B.take i.toNat).flatMap (dig 8),λi _=>(B.length-i).toNat,⟨by omega,by omega,by simp⟩,?_⟩⟩;rintro i g⟨F,Z,rfl⟩;refine⟨λh=>?_,λh=>?_⟩
 .have h:=qc h;have X:=h1 _ (ix_mem B i F h);rw[inc i B.length F h qqo];have M:(dig 4 (len4 B.length)++(B.take i.toNat).flatMap (dig 8)).length<=4+8*B.length:=by simp only[qi,ke,ku,qu];omega
  refine⟨F,h,by omega,rfl,?_,?_,rfl,⟨by omega,by omega,?_⟩,by(dsimp only;omega)⟩;.rw[ke];omega
  .rw[ke];unfold maxLen;omega
  .rw[kg B i F h,qbp,qn];simp
 .have h:=qd h;rw[ql qqo];rfl
def kho:Ct:=.gp 50 [.st 22] [oq] [] λ(B:wAZ)=>((1<=B.wV/\B.wV<=100)/\B.wAL.length<=1000000,ancL B.wAL B.wV,())
theorem k7v:kho.O:=qrv Bs Tryz.func50 .no c0 (Q:=∀(B:wAZ),(1<=B.wV/\B.wV<=100)/\B.wAL.length<=1000000->∀r0:Li,ancL B.wAL B.wV=r0->let J:Bool:=decide ((B.wAL.length:Int)<=B.wV)
iT J (B.wAL=r0) (let F:Int:=i64.wrap ((B.wAL.length:Int)-B.wV)
0<=F/\F<=(B.wAL.length:Int)/\B.wAL.drop F.toNat=r0))<|by
 rintro B h _ rfl;obtain⟨⟨h1,M⟩,U⟩:=h;refine⟨λe=>?_,λe=>?_⟩;.have e:=qc e;unfold ancL;rw[show B.wAL.length-B.wV.toNat=0 by omega];rfl
 .have e:=qd e;rw[ko _ qqo qqo];refine⟨by omega,by omega,?_⟩;unfold ancL;rw[show((B.wAL.length:Int)-B.wV).toNat=B.wAL.length-B.wV.toNat by omega]
def kia:Ct:=.gp 14 [.st 22] [oA] [] λ(B:wAZ)=>(EOk B,encM B,())
theorem kmv:kia.O:=qrv Bs Tryz.func14 (rA 4 (lA ⟨[1],[.tip yqb],[3,4],[og,oa],[]⟩ .no)) (k6e.c (kdv.c (k31.c (k7v.c c0)))) (Q:=∀B,EOk B->∀r0,encM B=r0->(Us B.wAO/\B.wAO.length<=4294967295)/\iL (dig 4 (len4 B.wG)) (encL B.wAO) 1 (let U:=dig 4 (len4 B.wG)++encL B.wAO
(Us B.wC/\B.wC.length<=4294967295)/\iL U (encL B.wC) 1 (let Y:=dig 4 (len4 B.wE.length)
iL (U++encL B.wC) Y 1 (U++encL B.wC++Y=U++encL B.wC++Y/\∃(I1:oH)(M1:oJ),I1 0 (U++encL B.wC++Y)/\∀b1 f1,I1 b1 f1->iF b1 B.wE.length ((U64 (ix B.wE b1).ID/\0<=(8:Int)/\(8:Int)<=8)/\let M:Li:=dig (8:Int).toNat (ix B.wE b1).ID
iL f1 M 1 ((U64 (ix B.wE b1).wn/\0<=(8:Int)/\(8:Int)<=8)/\let X:Li:=dig (8:Int).toNat (ix B.wE b1).wn
iL (f1++M) X 1 ((U64 (ix B.wE b1).wK/\0<=(8:Int)/\(8:Int)<=8)/\let Z:Li:=dig (8:Int).toNat (ix B.wE b1).wK
iL (f1++M++X) Z 1 (f1++M++X++Z=f1++M++X++Z/\ss2 I1 M1 b1 (i64.wrap (b1+1)) f1 (f1++M++X++Z))))) ((U64 B.wAU/\0<=(8:Int)/\(8:Int)<=8)/\iL f1 (dig (8:Int).toNat B.wAU) 1 (((1<=B.wV/\B.wV<=100)/\B.wAL.length<=1000000)/\(Us (ancL B.wAL B.wV)/\(ancL B.wAL B.wV).length<=4294967295)/\lz (f1++dig (8:Int).toNat B.wAU)/\((f1++dig (8:Int).toNat B.wAU).length+(encL (ancL B.wAL B.wV)).length)*1<=140737488355328/\(f1++dig (8:Int).toNat B.wAU).length+(encL (ancL B.wAL B.wV)).length<=maxLen/\let v6:Li:=f1++dig (8:Int).toNat B.wAU++encL (ancL B.wAL B.wV)
v6=r0))))))<|by
 rintro B h _ rfl;have J:=h.r;have ac:B.wE.length<=999:=J.al;have ad:=J.ll;have ae:=J.ml;have aa:=J.rl;have ab:=anc_len B.wAL B.wV;have hX:(dig 4 (len4 B.wG)++encL B.wAO++encL B.wC).length=4+(4+8*B.wAO.length)+(4+8*B.wC.length):=by simp only[qi,ke,km]
 refine⟨⟨BG.us h.l,by omega⟩,rfl,?_,?_,⟨BG.us h.k,by omega⟩,rfl,?_,?_,rfl,?_,?_,rfl,?_⟩;.simp only[ke,km];omega
 .simp only[ke,km];unfold maxLen;omega
 .simp only[qi,ke,km];omega
 .simp only[qi,ke,km];unfold maxLen;omega
 .rw[hX,ke];omega
 .rw[hX,ke];unfold maxLen;omega
 refine⟨λa g=>∃i:Nat,a=(i:Int)/\i<=B.wE.length/\g=dig 4 (len4 B.wG)++encL B.wAO++encL B.wC++dig 4 (len4 (B.wE.length:Int))++(B.wE.take i).flatMap encA,λa _=>(B.wE.length-a).toNat,⟨0,rfl,by omega,by simp⟩,?_⟩;rintro _ _⟨i,rfl,hi,rfl⟩;have F:(dig 4 (len4 B.wG)++encL B.wAO++encL B.wC++dig 4 (len4 (B.wE.length:Int))++(B.wE.take i).flatMap encA).length<=10000000:=by simp only[qi,ke,km,k7e,qu];omega
 refine⟨λe=>?_,λe=>?_⟩
 .have e:i<B.wE.length:=by have:=qc e;omega
  obtain⟨u1,u2,u3⟩:=acc_u J.a (qz e);rw[ix_get _ _ e,inc_i64 _ qqo];refine⟨by omega,by omega,⟨u1,by omega,by omega⟩,rfl,?_,?_,⟨u2,by omega,by omega⟩,rfl,?_,?_,⟨u3,by omega,by omega⟩,rfl,?_,?_,rfl,⟨i+1,rfl,by omega,kq1 e _⟩,by(dsimp only;omega)⟩;all_goals(try unfold maxLen)
  all_goals(simp only[qi,ke]at F⊢;omega)
 .have e:i=B.wE.length:=by have:=qd e;omega
  subst e;rw[qcb]at F⊢;refine⟨⟨J.n,by omega,by omega⟩,rfl,?_,?_,⟨⟨J.w1,J.w2⟩,aa⟩,⟨anc_us h.o,by omega⟩,rfl,?_,?_,rfl⟩;all_goals(try unfold maxLen)
  all_goals(simp only[qi,ke,km]at F⊢;omega)
def kld:Ct:=.gp 21 [.st 7] [.bool] [] λ(B:wD)=>(B.Txs.length<=9223372036854775807/\∀t∈B.Txs,t.wB.length<=9223372036854775807,smS B,())
theorem kpl:kld.O:=qrv Bs Tryz.func21 (rA 0 (lA (oB [3] [oa]) (rA 0 (.r 2 (.lp [] (oB [5] [oa]) .no))))) c0 (Q:=∀B,(B.Txs.length<=9223372036854775807/\∀t∈B.Txs,t.wB.length<=9223372036854775807)->∀r0,smS B=r0->∃I1 M1,I1 0/\∀b1,I1 b1->iF b1 B.Txs.length (let v1:=decide (6<(((ix B.Txs b1).wC).length:Int))
iT v1 (false=r0) (let v2:=decide (6<(((ix B.Txs b1).wB).length:Int))
iT v2 (false=r0) (let v3:=decide (2000<(((ix B.Txs b1).wAH).length:Int))
iT v3 (false=r0) (∃(I2:oD)(M2:oG),I2 0/\∀f1,I2 f1->let v4:Bool:=decide (f1<(((ix B.Txs b1).wB).length:Int))
iT v4 (iR f1 ((ix B.Txs b1).wB).length (let v5:Int:=(((ix (ix B.Txs b1).wB f1).wm).length:Int)
iD (10<v5) (false=r0) (ss1 I2 M2 f1 (i64.wrap (f1+1))))) (ss1 I1 M1 b1 (i64.wrap (b1+1))))))) (decide ((B.Txs.length:Int)<=4)=r0))<|by
 rintro B h _ rfl;obtain⟨hl,ho⟩:=h;refine⟨λi=>∃k:Nat,i=(k:Int)/\k<=B.Txs.length/\(B.Txs.take k).all smT=true,λi=>(B.Txs.length-i).toNat,⟨0,rfl,qbf _,rfl⟩,?_⟩;rintro _⟨k,rfl,hk,hg⟩;refine⟨λe=>?_,λe=>?_⟩
 .have e:(k:Int)<B.Txs.length:=qc e;have J:k<B.Txs.length:=by omega
  have hx:ix B.Txs (k:Int)=B.Txs[k]:=ix_get _ _ J;have F:B.Txs[k]∈B.Txs:=qz J;have no:smT B.Txs[k]=false->false=smS B:=λhf=>by unfold smS;rw[show B.Txs.all smT=false from qcy.2 ⟨_,F,by simp[hf]⟩];rfl
  rw[hx];generalize hX:B.Txs[k]=X at*;have aa:=ho X F;refine⟨by omega,e,λe1=>no ?_,λe1=>⟨λe2=>no ?_,λe2=>⟨λe3=>no ?_,λe3=>?_⟩⟩⟩;.have:=qc e1;unfold smT;rw[qat (p:=X.wC.length<=6) qqo];rfl
  .have:=qc e2;unfold smT;rw[qat (p:=X.wB.length<=6) qqo];simp
  .have:=qc e3;unfold smT;rw[qat (p:=X.wAH.length<=2000) qqo];simp
  .have e1:=qd e1;have e2:=qd e2;have e3:=qd e3;refine⟨λi=>∃j:Nat,i=(j:Int)/\j<=X.wB.length/\(X.wB.take j).all (λo=>decide (o.wm.length<=10))=true,λi=>(X.wB.length-i).toNat,⟨0,rfl,qbf _,rfl⟩,?_⟩;rintro _⟨j,rfl,hj,M⟩;refine⟨λU=>?_,λU=>?_⟩
   .have U:(j:Int)<X.wB.length:=qc U;have Y:j<X.wB.length:=by omega
    rw[ix_get _ _ Y];refine⟨by omega,U,λZ=>no ?_,λZ=>?_⟩;.have Z:=qc Z;unfold smT;rw[show X.wB.all (λo=>decide (o.wm.length<=10))=false from qcy.2 ⟨_,qz Y,by simp;omega⟩];simp
    .have Z:=qd Z;rw[inc (j:Int) X.wB.length qqo U qqo];refine⟨⟨j+1,rfl,by omega,?_⟩,by(first|omega|(dsimp only;omega))⟩;rw[qt Y,List.all_append,M];simp;omega
   .have U:¬(j:Int)<X.wB.length:=qd U;rw[ql qqo]at M;rw[inc (k:Int) B.Txs.length qqo e qqo];refine⟨⟨k+1,rfl,by omega,?_⟩,by(first|omega|(dsimp only;omega))⟩;rw[qt J,List.all_append,hg,hX];have:smT X=true:=by unfold smT;rw[M,qao (p:=X.wC.length<=6) qqo,qao (p:=X.wB.length<=6) qqo,qao (p:=X.wAH.length<=2000) qqo];rfl
    simp[this]
 .have e:¬(k:Int)<B.Txs.length:=qd e;rw[ql qqo]at hg;unfold smS;rw[hg,Bool.true_and];exact decide_eq_decide.2 qqo
def kr4:Ct:=.gp 5 [.st 6,.sl (.st 7),yqi] [.bool] [] λ(F:wF)(B:List wD)(J:Int)=>(B.length<=9223372036854775807/\∀b∈B,b.Txs.length<=9223372036854775807/\∀t∈b.Txs,t.wB.length<=9223372036854775807,(fewS F B J:Bool),())
theorem ksy:kr4.O:=qrv Bs Tryz.func5 (rA 0 (lA (oB [7] [oa]) .no)) (kpl.c c0) (Q:=∀U B X,(B.length<=9223372036854775807/\∀b∈B,b.Txs.length<=9223372036854775807/\∀t∈b.Txs,t.wB.length<=9223372036854775807)->∀r0,fewS U B X=r0->∃Y M1,Y 0/\∀b1,Y b1->iF b1 B.length (((ix B b1).Txs.length<=9223372036854775807/\∀t∈(ix B b1).Txs,t.wB.length<=9223372036854775807)/\iT (! smS (ix B b1)) (false=r0) (ss1 Y M1 b1 (i64.wrap (b1+1)))) (iT (U.wd==2) (iD (U.wH<=5) (decide (B.length<=X)=r0) (false=r0)) (false=r0)))<|by
 rintro U B X h _ rfl;obtain⟨hl,ho⟩:=h;refine⟨λi=>∃k:Nat,i=k/\k<=B.length/\(B.take k).all smS=true,λi=>(B.length-i).toNat,⟨0,rfl,qbf _,rfl⟩,?_⟩;rintro _⟨k,rfl,hk,Z⟩;refine⟨λe=>?_,λe=>?_⟩
 .have e:=qc e;have M:k<B.length:=by omega
  have J:=qz M;rw[ix_get _ _ M];refine⟨by omega,e,ho _ J,λF=>?_,λF=>?_⟩
  .have F:smS B[k]=false:=by simpa using F
   unfold fewS;rw[show B.all smS=false from qcy.2 ⟨_,J,by simp[F]⟩];rfl
  .have F:smS B[k]=true:=by simpa using F
   rw[inc k B.length qqo e qqo];refine⟨⟨k+1,rfl,by omega,?_⟩,by((dsimp only;omega))⟩;rw[qt M,List.all_append,Z];simp[F]
 .have e:=qd e;rw[ql qqo]at Z;unfold fewS;rw[Z,Bool.true_and];refine⟨λF=>⟨λe2=>?_,λe2=>?_⟩,λF=>?_⟩
  .have F:U.wd=2:=by simpa using F
   rw[F,e2];simp
  .rw[e2];simp
  .have F:¬U.wd=2:=by simpa using F
   rw[qat F];rfl
def kqn:Ct:=.gp 11 [.st 21,.st 6] [.st 5,yqi] [] λ(F:wAx)(B:wF)=>(rulesE B=0/\B.wd=2/\F.wAr=false,ww.mk F.wAr F.wBW F.wBY F.wBV F.wBX F.wBR B.wd B.wH B.wS B.wO B.wM B.wZ B.wt B.wW B.wU [] (-1) (-1),(0:Int),())
theorem krv:kqn.O:=qrv Bs Tryz.func11 (rA 0 (oC 16)) (k5t.c c0) (Q:=∀(F:wAx)(B:wF),rulesE B=0/\B.wd=2/\F.wAr=false->∀r0:ww,ww.mk F.wAr F.wBW F.wBY F.wBV F.wBX F.wBR B.wd B.wH B.wS B.wO B.wM B.wZ B.wt B.wW B.wU [] (-1) (-1)=r0->∀r1:Int,(0:Int)=r1->∀J:oE,(∀(U:Bool),iT U (false=r0.wAu/\0=r0.wAk/\0=r0.wAj/\([]:List wN)=r0.wAm/\([]:List wAi)=r0.wAl/\([]:List wAi)=r0.wAf/\0=r0.wAs/\0=r0.wAn/\0=r0.wAI/\0=r0.wAE/\0=r0.wAA/\0=r0.wAT/\0=r0.wAe/\0=r0.wz/\0=r0.wAo/\([]:List we)=r0.L/\0=r0.Tip/\0=r0.wAv/\1=r1) (F.wAr=r0.wAu/\F.wBW=r0.wAk/\F.wBY=r0.wAj/\F.wBV=r0.wAm/\F.wBX=r0.wAl/\F.wBR=r0.wAf/\B.wd=r0.wAs/\B.wH=r0.wAn/\B.wS=r0.wAI/\B.wO=r0.wAE/\B.wM=r0.wAA/\B.wZ=r0.wAT/\B.wt=r0.wAe/\B.wW=r0.wz/\B.wU=r0.wAo/\([]:List we)=r0.L/\-1=r0.Tip/\-1=r0.wAv/\0=r1)->J U)->iT (rulesE B !=0) (J true) (J ! F.wAr==(B.wd==3)))<|by
 rintro F B h _ rfl _ rfl;obtain⟨Y,X,hi⟩:=h;intro J M;refine⟨λe=>?_,λe=>?_⟩;.rw[Y]at e;cases e
 .rw[hi,X];refine M _ ⟨λe=>(by cases e),λ_=>?_⟩;exact by repeat' first|apply qaa|exact rfl|exact hi.symm|exact X.symm
def kqh:Ct:=.gp 195 [yqu] [.st 11] [] λ(B:Int)=>(B=18446744069414584321,wAW.mk 7 32 7,())
theorem khy:kqh.O:=qrv Bs Tryz.func195 .no c0 (Q:=∀(B:Int),B=18446744069414584321->∀r0,wAW.mk 7 32 7=r0->((B==17)=true->3=r0.a0/\4=r0.a1/\3=r0.a2)/\((B==17)=false->((B==97)=true->5=r0.a0/\5=r0.a1/\5=r0.a2)/\((B==97)=false->((B==193)=true->5=r0.a0/\6=r0.a1/\5=r0.a2)/\((B==193)=false->((B==257)=true->3=r0.a0/\8=r0.a1/\3=r0.a2)/\((B==257)=false->((B==12289)=true->11=r0.a0/\12=r0.a1/\5=r0.a2)/\((B==12289)=false->((B==65537)=true->3=r0.a0/\16=r0.a1/\3=r0.a2)/\((B==65537)=false->((B==18446744069414584321)=true->7=r0.a0/\32=r0.a1/\7=r0.a2)/\((B==18446744069414584321)=false->0=r0.a0/\0=r0.a1/\0=r0.a2))))))))<|by rintro B h _ rfl;simp[h]
def kml:Ct:=.gp 137 [yqu] [.bool] [] λ(B:Int)=>(B=18446744069414584321,true,())
theorem k23:kml.O:=qrv Bs Tryz.func137 .no (khy.c c0) (Q:=∀(B:Int),B=18446744069414584321->∀r0,true=r0->B=18446744069414584321/\decide (0<7)=r0)<|by rintro B h _ rfl;exact⟨h,rfl⟩
def kqi:Ct:=.gp 196 [yqu,yqu,yqu] [yqu] [] λ(J B F:Int)=>(J=18446744069414584321/\U64 B/\U64 F,((B+F)%18446744069414584321:Int),())
theorem k5f:kqi.O:=qrv Bs Tryz.func196 .no (k23.c c0) (Q:=∀B F J,B=18446744069414584321/\U64 F/\U64 J->∀r0,(F+J)%18446744069414584321=r0->B=18446744069414584321/\iT (!true) (0=r0) (B≠0/\B≠0/\let M:=decide (u64.wrap (B-Int.tmod J B)<=Int.tmod F B)
iT M (let U:=u64.wrap (Int.tmod F B-u64.wrap (B-Int.tmod J B))
U=r0) (let X:=u64.wrap (Int.tmod F B+Int.tmod J B)
X=r0)))<|by
 rintro B F J h _ rfl;obtain⟨rfl,h1,Y⟩:=h;refine⟨rfl,λh=>by simp at h,λ_=>?_⟩;rw[tmod_nn _ _ h1.1,tmod_nn _ _ Y.1];simp only[u64w];refine⟨by omega,by omega,λh=>?_,λh=>?_⟩;.have h:=qc h;omega
 .have h:=qd h;omega
def krd:Ct:=.gp 197 [yqu,yqu,yqu] [yqu] [] λ(J B F:Int)=>(J=18446744069414584321/\U64 B/\U64 F,(B*F%18446744069414584321:Int),())
theorem kg1:krd.O:=qrv Bs Tryz.func197 .no (k23.c (k9y.c (k9s.c c0))) (Q:=∀B F J,B=18446744069414584321/\U64 F/\U64 J->∀r0,F*J%18446744069414584321=r0->B=18446744069414584321/\iT (!true) (0=r0) (B≠0/\B≠0/\(U64 (Int.tmod F B)/\U64 (Int.tmod J B))/\let M:=Int.tmod F B*Int.tmod J B/18446744073709551616
let U:=Int.tmod F B*Int.tmod J B%18446744073709551616
(U64 M/\U64 U/\U64 B/\M<B)/\(M*18446744073709551616+U)%B=r0))<|by
 rintro B F J h _ rfl;obtain⟨rfl,h1,X⟩:=h;refine⟨rfl,λh=>by simp at h,λ_=>?_⟩;rw[tmod_nn _ _ h1.1,tmod_nn _ _ X.1,qdb F J];have Y:0<=F%18446744069414584321/\F%18446744069414584321<18446744069414584321:=by omega
 have a2:0<=J%18446744069414584321/\J%18446744069414584321<18446744069414584321:=by omega
 generalize F%18446744069414584321=a at*;generalize J%18446744069414584321=b at*;have Z:=qcx Y.1 a2.1;have h4:a*b<=18446744069414584320*18446744069414584320:=qdx qqo qqo a2.1 qqo;generalize a*b=m at*;refine⟨by omega,by omega,by omega,by omega,?_⟩;rw[show m/18446744073709551616*18446744073709551616+m%18446744073709551616=m by omega]
def kf6:Ct:=.gp 276 [yqu] [yqu] [] λ(B:Int)=>(B=18446744069414584321,(7:Int),())
theorem kh5:kf6.O:=qrv Bs Tryz.func276 .no (khy.c c0) (Q:=∀(B:Int),B=18446744069414584321->∀r0,(7:Int)=r0->B=18446744069414584321/\7=r0)<|by rintro B h _ rfl;exact⟨h,rfl⟩
def kqf:Ct:=.gp 274 [yqu,yqu,yqu] [yqu] [] λ(J B F:Int)=>(J=18446744069414584321/\U64 B/\U64 F,pw B F,())
theorem kse:kqf.O:=qrv Bs Tryz.func274 (rA 3 (.lp [] (oB [1,2,7] [ou,ou,ou]) (.r 0 (.jn (oB [7] [ou]) [] .no [] .no)))) (k23.c (kg1.c c0)) (Q:=∀F J M,F=18446744069414584321/\U64 J/\U64 M->∀r0,pw J M=r0->F=18446744069414584321/\iT (!true) (0=r0) (F≠0/\∃(Y:oL)(M1:oP),Y (Int.tmod J F) M 1/\∀b1 f1 i1,Y b1 f1 i1->iD (0<f1) (∀U:oD,(∀k1,(F=18446744069414584321/\U64 b1/\U64 b1)/\ss3 Y M1 b1 (b1*b1%18446744069414584321) f1 (u64.wrap (Int.tdiv f1 2)) i1 k1->U k1)->iT (Int.tmod f1 2==1) ((F=18446744069414584321/\U64 i1/\U64 b1)/\U (i1*b1%18446744069414584321)) (U i1)) (i1=r0)))<|by
 rintro F J M h _ rfl;obtain⟨rfl,h1,h2⟩:=h;refine⟨rfl,λh=>by simp at h,λ_=>⟨by omega,?_⟩⟩;rw[tmod_nn _ _ h1.1];refine⟨λa e r=>(0<=a/\a<18446744069414584321)/\U64 e/\(0<=r/\r<18446744069414584321)/\r*a^e.toNat%18446744069414584321=pw J M,λa e r=>e.toNat,⟨by omega,h2,by omega,by rw[Int.one_mul,k8r];rfl⟩,?_⟩;rintro a e r⟨ha,he,Z,X⟩;have B:∀k:Nat,a^(2*k)=(a*a)^k:=λk=>by rw[Int.pow_mul];congr 1;rw[qcp,qcp,Int.pow_zero,Int.one_mul]
 refine⟨λh U j=>?_,λh=>?_⟩
 .have h:=qc h;have jj:∀r',0<=r'/\r'<18446744069414584321->r'*(a*a)^(e/2).toNat%18446744069414584321=pw J M->U r':=by intro r' aa ab;have hm:0<=a*a%18446744069414584321/\a*a%18446744069414584321<18446744069414584321:=⟨qce _ qqo,qbu _ qqo⟩;refine j _ ⟨⟨rfl,by omega,by omega⟩,?_⟩;rw[tdiv_nn _ _ he.1,wu (e/2) qqo qqo];refine⟨⟨hm,⟨by omega,by omega⟩,aa,?_⟩,by(dsimp only;omega)⟩;rw[<-ab,qdb,qdb r' ((a*a)^_),k8r]
  rw[tmod_nn _ _ he.1];refine⟨λh1=>⟨⟨rfl,by omega,by omega⟩,?_⟩,λh1=>?_⟩
  .have h1:e%2=1:=by simpa using h1
   refine jj _ ⟨qce _ qqo,qbu _ qqo⟩ ?_;rw[<-X,show e.toNat=2*(e/2).toNat+1 by omega,qcp,B,qdb,qdo _ (qew _),<-qdb];congr 1;grind
  .have h1:¬e%2=1:=by simpa using h1
   refine jj _ Z ?_;rw[<-X,<-B,show e.toNat=2*(e/2).toNat by omega]
 .have h:=qd h;rw[show e.toNat=0 by omega,Int.pow_zero,Int.mul_one,qdq Z.1 Z.2]at X;exact X
def kdy:Ct:=.gp 275 [yqu,yqi,yqi] [yqu] [] λ(J B F:Int)=>(J=18446744069414584321/\(0<=B/\B<8)/\0<=F/\F<3,rc B F,())
theorem kgo:kdy.O:=qrv Bs Tryz.func275 .no (k23.c c0) (Q:=∀J B F,J=18446744069414584321/\(0<=B/\B<8)/\0<=F/\F<3->∀r0,rc B F=r0->J=18446744069414584321/\iT (!true) (0=r0) (iD (B<0) (0=r0) (iD (7<B) (0=r0) (iD (F<0) (0=r0) (iD (2<F) (0=r0) (let M:=i64.wrap (i64.wrap (3*B)+F)
let U:=u64.wrap (i64.wrap (M+1))
let X:=u64.wrap (U*11400714819323198485)
J≠0/\Int.tmod X J=r0))))))<|by
 rintro J B F h _ rfl;obtain⟨rfl,h1,Y⟩:=h;refine⟨rfl,λh=>by simp at h,λ_=>⟨λh=>?_,λ_=>⟨λh=>?_,λ_=>⟨λh=>?_,λ_=>⟨λh=>?_,λ_=>?_⟩⟩⟩⟩⟩;.simp at h;omega
 .simp at h;omega
 .simp at h;omega
 .simp at h;omega
 .simp only[];rw[wi (3*B) qqo qqo,wi (3*B+F) qqo qqo,wi (3*B+F+1) qqo qqo,wu (3*B+F+1) qqo qqo,u64w];exact⟨by omega,by rw[tmod_nn _ _ qqo];rfl⟩
def kr7:Ct:=.gp 349 [yqu,oq] [yqu] [] λ(F:Int)(B:Li)=>(F=18446744069414584321/\Us B/\B.length<=9223372036854775807,(B.foldl (λs x=>(s+x)%18446744069414584321) 0:Int),())
theorem krt:kr7.O:=qrv Bs Tryz.func349 (rA 1 (lA (oB [5,6] [ou,oa]) .no)) (k5f.c c0) (Q:=∀(J:Int)B,J=18446744069414584321/\Us B/\B.length<=9223372036854775807->∀r0,B.foldl (λs x=>(s+x)%18446744069414584321) 0=r0->∃M U,M 0 0/\∀b1 f1,M b1 f1->iF f1 B.length ((J=18446744069414584321/\U64 b1/\U64 (ix B f1))/\let X:=(b1+ix B f1)%18446744069414584321
ss2 M U b1 X f1 (i64.wrap (f1+1))) (b1=r0))<|by rintro J B h _ rfl;obtain⟨rfl,h1,Z⟩:=h;refine⟨λs i=>FoldI (λs x=>(s+x)%18446744069414584321) 0 B i s/\U64 s,λs i=>(B.length-i).toNat,⟨FoldI.start,by omega⟩,?_⟩;rintro s i⟨hi,hs⟩;refine⟨λF=>?_,λF=>hi.done (qd F)⟩;have F:=qc F;have Y:=h1 _ (ix_mem B i hi.1 F);have nx:=hi.next F qqo rfl;exact⟨hi.1,F,⟨rfl,hs,Y⟩,⟨nx.1,by omega⟩,nx.2⟩
def krl:Ct:=.gp 277 [yqu,.st 11] [.st 11] [] λ(F:Int)(B:wAW)=>(F=18446744069414584321/\S3 B,mixS B,())
theorem krs:krl.O:=qrv Bs Tryz.func277 (rA 2 (lA ⟨[3],yL1,[7],[oa],[]⟩ .no)) (krt.c (k5f.c c0)) (Q:=∀(J:Int)B,J=18446744069414584321/\S3 B->∀r0,mixS B=r0->(J=18446744069414584321/\Us [B.a0,B.a1,B.a2]/\[B.a0,B.a1,B.a2].length<=9223372036854775807)/\let Y:=[B.a0,B.a1,B.a2].foldl (λs x=>(s+x)%18446744069414584321) 0
∃M M1,M 0 0 0 0/\∀b1 f1 i1 k1,M b1 f1 i1 k1->iD (b1<3) ((0<=b1/\b1<3)/\(0<=b1/\b1<3)/\(J=18446744069414584321/\U64 (ix [B.a0,B.a1,B.a2] b1)/\U64 Y)/\let U:=(ix [B.a0,B.a1,B.a2] b1+Y)%18446744069414584321
(0<=b1/\b1<3)/\(0<=b1/\b1<3)/\ss4 M M1 b1 (i64.wrap (b1+1)) f1 (bif decide (b1=0)then U else f1) i1 (bif decide (b1=1)then U else i1) k1 (bif decide (b1=2)then U else k1)) (f1=r0.a0/\i1=r0.a1/\k1=r0.a2))<|by
 rintro J B h _ rfl;obtain⟨rfl,Z,h1,h2⟩:=h;have e:[B.a0,B.a1,B.a2].foldl (λs x=>(s+x)%18446744069414584321) 0=((B.a0+B.a1)%18446744069414584321+B.a2)%18446744069414584321:=by show(((0+B.a0)%18446744069414584321+B.a1)%18446744069414584321+B.a2)%18446744069414584321=_;omega
 refine⟨⟨rfl,?_,by simp⟩,?_⟩
 .intro x hx;simp at hx;rcases hx with rfl|rfl|rfl;.exact Z
  .exact h1
  .exact h2
 rw[e];have X:U64 (((B.a0+B.a1)%18446744069414584321+B.a2)%18446744069414584321):=(by omega);generalize hg:((B.a0+B.a1)%18446744069414584321+B.a2)%18446744069414584321=t at*;refine⟨λi x y z=>i=0∨i=1/\x=(B.a0+t)%18446744069414584321∨i=2/\x=(B.a0+t)%18446744069414584321/\y=(B.a1+t)%18446744069414584321∨i=3/\x=(B.a0+t)%18446744069414584321/\y=(B.a1+t)%18446744069414584321/\z=(B.a2+t)%18446744069414584321,λi _ _ _=>(3-i).toNat,.inl rfl,?_⟩;intro i x y z hi;refine⟨λF=>?_,λF=>?_⟩
 .have F:=qc F;rcases hi with rfl|⟨rfl,rfl⟩|⟨rfl,rfl,rfl⟩|⟨rfl,_⟩;.exact⟨by omega,by omega,⟨rfl,Z,X⟩,by omega,by omega,.inr (.inl ⟨rfl,rfl⟩),by(dsimp only;decide)⟩
  .exact⟨by omega,by omega,⟨rfl,h1,X⟩,by omega,by omega,.inr (.inr (.inl ⟨rfl,rfl,rfl⟩)),by(dsimp only;decide)⟩
  .exact⟨by omega,by omega,⟨rfl,h2,X⟩,by omega,by omega,.inr (.inr (.inr ⟨rfl,rfl,rfl,rfl⟩)),by(dsimp only;decide)⟩
  .omega
 .have F:=qd F;rcases hi with rfl|⟨rfl,rfl⟩|⟨rfl,rfl,rfl⟩|⟨rfl,rfl,rfl,rfl⟩;.omega
  .omega
  .omega
  .unfold mixS;rw[hg];exact⟨rfl,rfl,rfl⟩
def kgd:Ct:=.gp 198 [yqu,.st 11] [.st 11] [] λ(F:Int)(B:wAW)=>(F=18446744069414584321/\S3 B,permS B,())
theorem kjh:kgd.O:=qrv Bs Tryz.func198 (rA 1 (lA ⟨[0],yL1,[5],[oa],[]⟩ (rA 0 (nA (lA ⟨[0],yL1,[6],[oa],[]⟩ .no))))) (k23.c (kgo.c (k5f.c (kh5.c (kse.c (krs.c c0)))))) (Q:=∀(F:Int)B,F=18446744069414584321/\S3 B->∀r0,permS B=r0->F=18446744069414584321/\iT (!true) (0=r0.a0/\0=r0.a1/\0=r0.a2) (∃(I1:oM)(M1:oN),I1 0 B.a0 B.a1 B.a2/\∀b1 f1 i1 k1,I1 b1 f1 i1 k1->iD (b1<8) (∃(I2:oM)(M2:oN),I2 0 f1 i1 k1/\∀l1 m1 n1 o1,I2 l1 m1 n1 o1->iD (l1<3) ((0<=l1/\l1<3)/\(0<=l1/\l1<3)/\(F=18446744069414584321/\(0<=b1/\b1<8)/\0<=l1/\l1<3)/\(F=18446744069414584321/\U64 (ix [m1,n1,o1] l1)/\U64 (rc b1 l1))/\let Z:=(ix [m1,n1,o1] l1+rc b1 l1)%18446744069414584321
F=18446744069414584321/\(F=18446744069414584321/\U64 Z/\U64 7)/\(0<=l1/\l1<3)/\(0<=l1/\l1<3)/\ss4 I2 M2 l1 (i64.wrap (l1+1)) m1 (bif decide (l1=0)then pw Z (7)else m1) n1 (bif decide (l1=1)then pw Z (7)else n1) o1 (bif decide (l1=2)then pw Z (7)else o1)) ((F=18446744069414584321/\S3 (wAW.mk m1 n1 o1))/\ss4 I1 M1 b1 (i64.wrap (b1+1)) f1 (mixS (wAW.mk m1 n1 o1)).a0 i1 (mixS (wAW.mk m1 n1 o1)).a1 k1 (mixS (wAW.mk m1 n1 o1)).a2)) (f1=r0.a0/\i1=r0.a1/\k1=r0.a2)))<|by
 rintro F B h _ rfl;obtain⟨hP,hs⟩:=h;subst hP;refine⟨rfl,λh=>by simp at h,λ_=>?_⟩;refine⟨λn a b c=>0<=n/\n<=8/\(⟨a,b,c⟩:wAW)=rnds n.toNat B/\S3 ⟨a,b,c⟩,λn _ _ _=>(8-n).toNat,⟨by omega,by omega,rfl,hs⟩,?_⟩;rintro n a b c⟨g0,g1,U,g3⟩;refine⟨λh=>?_,λh=>?_⟩
 .have h:=qc h;refine⟨λi x y z=>i=0/\x=a/\y=b/\z=c∨i=1/\x=pw ((a+rc n 0)%18446744069414584321) 7/\y=b/\z=c∨i=2/\x=pw ((a+rc n 0)%18446744069414584321) 7/\y=pw ((b+rc n 1)%18446744069414584321) 7/\z=c∨i=3/\x=pw ((a+rc n 0)%18446744069414584321) 7/\y=pw ((b+rc n 1)%18446744069414584321) 7/\z=pw ((c+rc n 2)%18446744069414584321) 7,λi _ _ _=>(3-i).toNat,.inl ⟨rfl,rfl,rfl,rfl⟩,?_⟩;intro i x y z hi;have J:∀k,U64 (rc n k):=λk=>by unfold rc;omega
  have M:∀k e,0<=pw k e/\pw k e<18446744069414584321:=λk e=>⟨qce _ qqo,qbu _ qqo⟩;obtain⟨aa,ab,ac⟩:=g3;have u7:U64 7:=by decide
  have hm:∀q:Int,U64 (q%18446744069414584321):=λq=>⟨qce _ qqo,Int.lt_trans (qbu _ qqo) qqo⟩;refine⟨λX=>?_,λX=>?_⟩
  .have X:=qc X;rcases hi with⟨rfl,rfl,rfl,rfl⟩|⟨rfl,rfl,rfl,rfl⟩|⟨rfl,rfl,rfl,rfl⟩|⟨rfl,_⟩;.exact⟨by omega,by omega,⟨rfl,by omega,by omega⟩,⟨rfl,aa,J _⟩,rfl,⟨rfl,hm _,u7⟩,by omega,by omega,.inr (.inl ⟨rfl,rfl,rfl,rfl⟩),by(dsimp only;decide)⟩
   .exact⟨by omega,by omega,⟨rfl,by omega,by omega⟩,⟨rfl,ab,J _⟩,rfl,⟨rfl,hm _,u7⟩,by omega,by omega,.inr (.inr (.inl ⟨rfl,rfl,rfl,rfl⟩)),by(dsimp only;decide)⟩
   .exact⟨by omega,by omega,⟨rfl,by omega,by omega⟩,⟨rfl,ac,J _⟩,rfl,⟨rfl,hm _,u7⟩,by omega,by omega,.inr (.inr (.inr ⟨rfl,rfl,rfl,rfl⟩)),by(dsimp only;decide)⟩
   .omega
  .have X:=qd X;rcases hi with⟨rfl,_⟩|⟨rfl,_⟩|⟨rfl,_⟩|⟨rfl,rfl,rfl,rfl⟩;.omega
   .omega
   .omega
   .have e:rnds (n+1).toNat B=rnd ⟨a,b,c⟩ n:=by rw[show(n+1).toNat=n.toNat+1 by omega];show rnd (rnds n.toNat B) (n.toNat:Int)=_;rw[<-U,show(n.toNat:Int)=n by omega]
    have hS:S3 (rnds (n+1).toNat B):=by rw[e];unfold rnd mixS S3;dsimp only;omega
    have Y:i64.wrap (n+1)=n+1:=wi _ qqo qqo;rw[Y];refine⟨⟨rfl,by unfold S3;have:=M ((a+rc n 0)%18446744069414584321) 7;have:=M ((b+rc n 1)%18446744069414584321) 7;have:=M ((c+rc n 2)%18446744069414584321) 7;dsimp only;omega⟩,(?_:0<=n+1/\n+1<=8/\_/\_),(?_:(8-(n+1)).toNat<(8-n).toNat)⟩;.refine⟨by omega,by omega,e.symm,?_⟩;rw[e]at hS;exact hS
    .omega
 .have h:=qd h;rw[show n=8 by omega]at U;have U:(⟨a,b,c⟩:wAW)=permS B:=U;rw[<-U];exact⟨rfl,rfl,rfl⟩
def ki9:Ct:=.gp 138 yQ1 [.st 11] [] λ(J F:Int)(B:Li)=>(J=18446744069414584321/\U64 F/\Us B/\B.length<=1099511627776,absS F B,())
theorem klh:ki9.O:=qrv Bs Tryz.func138 (rA 1 (lA ⟨[1],yL1,[8],[oa],[]⟩ (.jn (oB [] []) [] .no [] (nA (.jn ⟨[1],yL1,[],[],[]⟩ [] .no [] (.jn ⟨[1],yL1,[],[],[]⟩ [] .no [] .no)))))) (kg1.c (k5f.c (kjh.c c0))) (Q:=∀(p0 J:Int)B,p0=18446744069414584321/\U64 J/\Us B/\B.length<=1099511627776->∀r0:wAW,absS J B=r0->(p0=18446744069414584321/\U64 J/\U64 (65536:Int))/\let r1:Int:=J*(65536:Int)%18446744069414584321
(p0=18446744069414584321/\U64 r1/\U64 (u64.wrap (B.length:Int)))/\let r2:Int:=(r1+u64.wrap (B.length:Int))%18446744069414584321
∃(I1:oM)(M1:oN),I1 0 0 0 r2/\∀b1 f1 i1 k1,I1 b1 f1 i1 k1->∀J1:Prop,((∀J2:oL,(∀(l1 m1 n1:Int),(∀J3:oL,(∀(o1 q1 s1:Int),(p0=18446744069414584321/\S3 (wAW.mk o1 q1 s1))/\ss4 I1 M1 b1 (i64.wrap (b1+2)) f1 (permS (wAW.mk o1 q1 s1)).a0 i1 (permS (wAW.mk o1 q1 s1)).a1 k1 (permS (wAW.mk o1 q1 s1)).a2->J3 o1 q1 s1)->let v4:Bool:=decide (i64.wrap (b1+1)<(B.length:Int))
iT v4 (0<=i64.wrap (b1+1)/\i64.wrap (b1+1)<(B.length:Int)/\(p0=18446744069414584321/\U64 m1/\U64 (ix B (i64.wrap (b1+1))))/\let r5:Int:=(m1+ix B (i64.wrap (b1+1)))%18446744069414584321
J3 l1 r5 n1) (J3 l1 m1 n1))->J2 l1 m1 n1)->iF b1 B.length ((p0=18446744069414584321/\U64 f1/\U64 (ix B b1))/\let r3:Int:=(f1+ix B b1)%18446744069414584321
J2 r3 i1 k1) (J2 f1 i1 k1))->J1)->iT (b1==0) J1 (iD (b1<(B.length:Int)) J1 (f1=r0.a0/\i1=r0.a1/\k1=r0.a2)))<|by
 rintro p0 J B h _ rfl;obtain⟨hP,h1,h2,h3⟩:=h;subst hP;have hp:=k2f;have hi:S3 (absI J B):=by unfold absI S3;dsimp only;omega
 have e:u64.wrap (B.length:Int)=B.length:=wu _ qqo qqo;have em:(J*65536%18446744069414584321+(B.length:Int))%18446744069414584321=(absI J B).a2:=rfl;rw[e];refine⟨⟨rfl,h1,by omega⟩,⟨rfl,by omega,by omega⟩,?_⟩;rw[em];refine⟨λi a b c=>i=0/\a=0/\b=0/\c=(absI J B).a2∨0<i/\i<=B.length+2/\absL (B.drop i.toNat) ⟨a,b,c⟩=absS J B/\S3 ⟨a,b,c⟩,λi _ _ _=>(B.length+4-i).toNat,.inl ⟨rfl,rfl,rfl,rfl⟩,?_⟩;intro i a b c hg J1 j1;have Y:0<=i->i<=B.length->(i<B.length->absL (B.drop i.toNat) ⟨a,b,c⟩=absS J B)->(¬i<B.length->permS ⟨a,b,c⟩=absS J B)->S3 ⟨a,b,c⟩->J1:=by
  intro g0 g1 aa U Z;obtain⟨ab,ac,ad⟩:=Z;refine j1 λJ2 j2=>?_;have ae:∀x y z,S3 ⟨x,y,z⟩->(i+1<B.length->absL (B.drop (i+2).toNat) (permS ⟨x,(y+ix B (i+1))%18446744069414584321,z⟩)=absS J B)->(¬i+1<B.length->permS ⟨x,y,z⟩=absS J B)->J2 x y z:=by
   intro x y z Z k1 k2;refine j2 _ _ _ λJ3 j3=>?_;have ag:∀x y z:Int,S3 ⟨x,y,z⟩->absL (B.drop (i+2).toNat) (permS ⟨x,y,z⟩)=absS J B->J3 x y z:=by intro x y z Z k;refine j3 _ _ _ ?_;rw[wi (i+2) qqo qqo];exact⟨⟨rfl,Z⟩,.inr ⟨(by omega:0<i+2),(by omega:i+2<=B.length+2),k,hp _⟩,by(dsimp only;omega)⟩
   rw[wi (i+1) qqo qqo];refine⟨λM=>?_,λM=>?_⟩;.have M:=qc M;have hy:=h2 _ (ix_mem B (i+1) qqo M);exact⟨by omega,M,⟨rfl,Z.2.1,hy⟩,ag _ _ _ (S3m (by have:=Z.1;omega) qqo Z.2.2) (k1 M)⟩
   .have ah:B.drop (i+2).toNat=[]:=qas (by have:=qd M;omega);exact ag _ _ _ Z (by rw[ah];exact k2 (qd M))
  refine⟨λF=>?_,λF=>?_⟩
  .have F:=qc F;have hx:=h2 _ (ix_mem B i g0 F);have X:=aa F;rw[drop_ix B i g0 F]at X;refine⟨g0,F,⟨rfl,ab,hx⟩,ae _ _ _ (S3m qqo ac ad) (λM=>?_) λM=>?_⟩;.rw[drop_ix B (i+1) qqo M,show i+1+1=i+2 by omega]at X;exact X
   .rw[show B.drop (i+1).toNat=[]from qas qqo]at X;exact X
  .have F:=qd F;exact ae _ _ _ ⟨ab,ac,ad⟩ λM=>by omega λ_=>U F
 refine⟨λh0=>?_,λh0=>⟨λF=>?_,λF=>?_⟩⟩
 .have h0:i=0:=by simpa using h0
  rcases hg with⟨_,rfl,rfl,rfl⟩|⟨ai,_⟩
  .subst h0;refine Y qqo qqo (λhl=>?_) (λhl=>?_) hi
   .have aa:B≠[]:=by rintro rfl;simp at hl
    unfold absS;rw[qe aa];rfl
   .have U:B=[]:=qax qqo;unfold absS;rw[qg U];rfl
  .omega
 .have h0:¬i=0:=by simpa using h0
  have F:=qc F;rcases hg with⟨h1,_⟩|⟨g0,g1,X,g3⟩;.omega
  .exact Y qqo qqo (λ_=>X) (λhl=>absurd F hl) g3
 .have h0:¬i=0:=by simpa using h0
  have F:=qd F;rcases hg with⟨h1,_⟩|⟨g0,g1,X,g3⟩;.omega
  .rw[qas qqo]at X;have hv:(⟨a,b,c⟩:wAW)=absS J B:=X;rw[<-hv];exact⟨rfl,rfl,rfl⟩
def kpu:Ct:=.gp 89 yQ1 [yqu] [] λ(J F:Int)(B:Li)=>(J=18446744069414584321/\U64 F/\Us B/\B.length<=1099511627776,hashS F B,())
theorem k1m:kpu.O:=qrv Bs Tryz.func89 .no (k23.c (klh.c c0)) (Q:=∀(J F:Int)B,J=18446744069414584321/\U64 F/\Us B/\B.length<=1099511627776->∀r0,hashS F B=r0->J=18446744069414584321/\iT (!true) (0=r0) ((J=18446744069414584321/\U64 F/\Us B/\B.length<=1099511627776)/\(absS F B).a0=r0))<|by rintro J F B h _ rfl;obtain⟨M,h1,U,X⟩:=h;subst M;exact⟨rfl,λh=>by simp at h,λ_=>⟨⟨rfl,h1,U,X⟩,rfl⟩⟩
def kna:Ct:=.gp 192 [yqu,yqu] [yqu] [] λ(B F:Int)=>(U64 B/\U64 F,nd B F,())
theorem k7g:kna.O:=qrv Bs Tryz.func192 .no (k1m.c c0) (Q:=∀B F,U64 B/\U64 F->∀r0,nd B F=r0->((18446744069414584321:Int)=18446744069414584321/\U64 6/\Us [B,F]/\[B,F].length<=1099511627776)/\hashS 6 [B,F]=r0)<|by rintro B F h _ rfl;exact⟨⟨rfl,by decide,by intro x J;rcases qak.1 J with rfl|J;exact h.1;rw[qah.1 J];exact h.2,by simp⟩,rfl⟩
def km3:Ct:=.gp 135 [oq] [oq] [] λ(B:Li)=>((∀x∈B,0<=x/\x<18446744069414584321)/\B.length<=100000,pairs B,())
theorem ko3:km3.O:=qrx Bs [23,24] Tryz.func135 (.r 1 (.nd [] (.r 0 (.lp [.rnil 3 yqu] ⟨[],[.vec yqu],[3,4],[oh,oa],[0]⟩ .no)) [] (.r 0 (.rt [.frz 1 [2]])))) x0 (k7g.c c0) (Q:=∀B,(∀x∈B,0<=x/\x<18446744069414584321)/\B.length<=100000->∀r0,pairs B=r0->0=([]:Li).length/\∃J Y,J 0 []/\∀b1 f1,J b1 f1->let Z:=decide (i64.wrap (b1+1)<B.length)
iT Z (iR b1 B.length (0<=i64.wrap (b1+1)/\i64.wrap (b1+1)<B.length/\(U64 (ix B b1)/\U64 (ix B (i64.wrap (b1+1))))/\let F:=nd (ix B b1) (ix B (i64.wrap (b1+1)))
lz f1/\lz [F]/\(f1.length+[F].length)*8<=140737488355328/\f1.length+[F].length<=maxLen/\lz (f1++[F])/\ss2 J Y b1 (i64.wrap (b1+2)) f1 (f1++[F]))) (lz f1/\f1=r0))<|by
 rintro B h _ rfl;obtain⟨M,hl⟩:=h;refine⟨rfl,⟨λa g=>∃j:Nat,a=j/\j<=B.length/\g.length<=j/\g++pairs (B.drop j)=pairs B,λa _=>(B.length-a).toNat,⟨0,rfl,by omega,by simp,by simp⟩,?_⟩⟩;rintro _ g⟨j,rfl,hj,hg,he⟩;have U:=inc_i64 j qqo;refine⟨λe=>?_,λe=>?_⟩
 .have e:=qc e;rw[U]at e⊢;have e:j+1<B.length:=by omega
  have X:j<B.length:=by omega
  have u1:=M _ (qz X);have u2:=M _ (qz e);rw[ix_get _ _ X,ix_get _ _ e];rw[ks1 e]at he;rw[show i64.wrap (j+2)=(j+2:Nat)by rw[ko _ qqo qqo];omega];refine⟨by omega,by omega,by omega,by omega,by omega,rfl,rfl,?_,?_,rfl,⟨j+2,rfl,by omega,?_,?_⟩,by(dsimp only;omega)⟩;.simp only[qx,qan];omega
  .simp only[qx,qan];unfold maxLen;omega
  .simp only[qi,qx,qan];omega
  .rw[qn];exact he
 .have e:=qd e;rw[U]at e;rw[kra (by rw[qal];omega),qcm]at he;exact⟨rfl,he⟩
def km8:Ct:=.gp 191 [yqi] [yqu] [] λ(B:Int)=>(0<=B/\B<=12,emp B.toNat,())
theorem ko1:km8.O:=qrv Bs Tryz.func191 (rA 2 (lA (oB [3,4] [ou,oa]) .no)) (k1m.c (k7g.c c0)) (Q:=∀B,0<=B/\B<=12->∀r0,emp B.toNat=r0->iD (B<0) (0=r0) (iD (12<B) (0=r0) (((18446744069414584321:Int)=18446744069414584321/\U64 6/\Us []/\([]:Li).length<=1099511627776)/\∃(F:oF)(J:oI),F (hashS 6 []) 0/\∀b1 f1,F b1 f1->iD (f1<B) ((U64 b1/\U64 b1)/\ss2 F J b1 (nd b1 b1) f1 (i64.wrap (f1+1))) (b1=r0))))<|by
 rintro B h _ rfl;refine⟨λe=>by have:=qc e;omega,λ_=>⟨λe=>by have:=qc e;omega,λ_=>⟨⟨rfl,by decide,(by intro x M;cases M),by decide⟩,?_⟩⟩⟩;refine⟨λx a=>∃i:Nat,a=i/\i<=B/\x=emp i,λ_ a=>(B-a).toNat,⟨0,rfl,by omega,rfl⟩,?_⟩;rintro _ _⟨i,rfl,hi,rfl⟩;refine⟨λe=>?_,λe=>?_⟩;.have e:=qc e;rw[inc_i64 _ qqo];exact⟨⟨emp_u i,emp_u i⟩,⟨i+1,rfl,by omega,rfl⟩,by(dsimp only;omega)⟩
 .have e:=qd e;have:B.toNat=i:=by omega
  rw[this]
def kj4:Ct:=.gp 134 [yqi,oq] [oq] [] λ(B:Int)(F:Li)=>((0<=B/\B<=12)/\F.length<=2^B.toNat,F++List.replicate (2^B.toNat-F.length) (emp 0),())
theorem kl6:kj4.O:=qrv Bs Tryz.func134 (rA 1 (.lp [] ⟨[1],[.tip yqu],[5],[og],[]⟩ .no)) (ko1.c c0) (Q:=∀F B,(0<=F/\F<=12)/\B.length<=2^F.toNat->∀r0,B++List.replicate (2^F.toNat-B.length) (emp 0)=r0->(([]:Li).length+B.length)*8<=140737488355328/\([]:Li).length+B.length<=maxLen/\[]++B=[]++B/\∃M X,M ([]++B)/\∀b1,M b1->0<=F/\let Y:=decide (b1.length<ishl .i64 1 F)
iT Y ((0<=(0:Int)/\(0:Int)<=12)/\iL b1 [emp (0:Int).toNat] 8 (b1++[emp (0:Int).toNat]=b1++[emp (0:Int).toNat]/\ss1 M X b1 (b1++[emp (0:Int).toNat]))) (b1=r0))<|by
 rintro F B h _ rfl;obtain⟨⟨U,h1⟩,Z⟩:=h;obtain⟨d,rfl⟩:=qm U;rw[qv]at Z⊢;have hp:=pow12 d qqo;refine⟨by simp;omega,by simp;unfold maxLen;omega,rfl,?_⟩;refine⟨λg=>∃m:Nat,g=B++List.replicate m (emp 0)/\B.length+m<=2^d,λg=>2^d-g.length,⟨0,by simp,by omega⟩,?_⟩;rintro _⟨m,rfl,hm⟩;have J:(B++List.replicate m (emp 0)).length=B.length+m:=by simp
 refine⟨U,?_⟩;rw[shl1 d qqo];refine⟨λe=>?_,λe=>?_⟩
 .have e:=qc e;rw[J]at e;refine⟨by decide,rfl,?_,?_,rfl,⟨m+1,?_,by omega⟩,?_⟩;.rw[J];simp only[qx,qan];omega
  .rw[J];simp only[qx,qan];unfold maxLen;omega
  .rw[qn,List.replicate_succ'];rfl
  .dsimp only;rw[qi,J];simp only[qx,qan];omega
 .have e:=qd e;rw[J]at e;have:2^d-B.length=m:=by omega
  rw[this]
def km1:Ct:=.gp 84 [yqi,oq] [yqu] [] λ(B:Int)(F:Li)=>((0<=B/\B<=12)/\F.length<=2^B.toNat/\∀x∈F,0<=x/\x<18446744069414584321,TT (lf F) B.toNat 0,())
theorem kau:km1.O:=qrv Bs Tryz.func84 (rA 1 (.lp [] (oB [5] [oe]) .no)) (kl6.c (ko3.c c0)) (Q:=∀(F:Int)B,(0<=F/\F<=12)/\B.length<=2^F.toNat/\(∀x∈B,0<=x/\x<18446744069414584321)->∀r0,TT (lf B) F.toNat 0=r0->((0<=F/\F<=12)/\B.length<=2^F.toNat)/\let Z:=B++List.replicate (2^F.toNat-B.length) (emp 0)
∃(U:oR)(M1:Li->Nat),U Z/\∀b1,U b1->iD (1<(b1.length:Int)) (((∀x∈b1,0<=x/\x<18446744069414584321)/\b1.length<=100000)/\ss1 U M1 b1 (pairs b1)) (0<(b1.length:Int)/\ix b1 0=r0))<|by
 rintro F B h _ rfl;obtain⟨⟨Y,h1⟩,X,h3⟩:=h;refine⟨⟨⟨Y,h1⟩,X⟩,?_⟩;obtain⟨d,rfl⟩:=qm Y;rw[qv]at X⊢;have hp:=pow12 d qqo;rw[kve X];refine⟨λg=>∃i:Nat,i<=d/\g=lvl B d i,λg=>g.length,⟨0,by omega,rfl⟩,?_⟩;rintro _⟨i,hi,rfl⟩;have M:=lvl_len B d i;refine⟨λe=>?_,λe=>?_⟩
 .have e:=qc e;have J:i<d:=by
   rcases qaw i d with h1|h1;.exact h1
   .have:i=d:=by omega
    subst this;rw[M,Nat.sub_self]at e;exact absurd e qqd
  have:2^(d-i)=2*2^(d-(i+1)):=by rw[show d-i=d-(i+1)+1 by omega,Nat.pow_succ];omega
  have hq:=qcg (d-(i+1));have aa:=pow12 (d-i) qqo;refine⟨⟨lvl_u h3 d i,by omega⟩,?_⟩;rw[kvu J];refine⟨⟨i+1,by omega,rfl⟩,?_⟩;dsimp only;rw[lvl_len,lvl_len];omega
 .have e:=qd e;rw[M]at e;have J:i=d:=by
   rcases qaw i d with h1|h1
   .have:2^(d-i)=2*2^(d-(i+1)):=by rw[show d-i=d-(i+1)+1 by omega,Nat.pow_succ];omega
    have hq:=qcg (d-(i+1));omega
   .omega
  subst J;have e1:lvl B i i=[TT (lf B) i 0]:=by simp[lvl,List.range_succ]
  rw[e1];exact⟨by show(0:Int)<((1:Nat):Int);decide,rfl⟩
def krk:Ct:=.gp 132 [.sl (.st 12),yqu] [.st 12] [] λ(B:List wA)(F:Int)=>(B.length<=1001,getA B F,())
theorem kgz:krk.O:=qrv Bs Tryz.func132 (rA 0 (lA (oB [5] [oa]) .no)) c0 (Q:=∀B F,B.length<=1001->∀r0,getA B F=r0->∃M Z,M 0/\∀b1,M b1->iF b1 B.length (iT ((ix B b1).ID==F) (iR b1 B.length ((ix B b1).ID=r0.ID/\(ix B b1).wn=r0.wn/\(ix B b1).wK=r0.wK)) (ss1 M Z b1 (i64.wrap (b1+1)))) (F=r0.ID/\0=r0.wn/\0=r0.wK))<|by
 rintro B F h _ rfl;refine⟨λa=>∃i:Nat,a=i/\i<=B.length/\∀k h,k<i->B[k].ID≠F,λa=>(B.length-a).toNat,⟨0,rfl,by omega,λk _ h=>by omega⟩,?_⟩;rintro _⟨i,rfl,hi,U⟩;refine⟨λh=>?_,λh=>?_⟩
 .have h:=qc h;have J:i<B.length:=by omega
  rw[ix_get _ _ J];refine⟨by omega,h,λhe=>?_,λhe=>?_⟩;.rw[getA_at J (by simpa using he) U];exact by omega
  .rw[inc_i64 _ qqo];refine⟨⟨i+1,rfl,by omega,λk h1 h2=>?_⟩,by(dsimp only;omega)⟩;rcases qaw k i with Y|Y;.exact U k h1 Y
   .have:k=i:=by omega
    subst this;simpa using he
 .have h:=qd h;rw[ku1 λk X=>U k X qqo];exact⟨rfl,rfl,rfl⟩
def kqy:Ct:=.gp 133 [.sl (.st 12),.st 12] [.sl (.st 12)] [] λ(B:List wA)(F:wA)=>(Srt B/\B.length<=1000/\0<=F.wn/\0<=F.wK,putA B F,())
theorem khc:kqy.O:=qrv Bs Tryz.func133 (.r 1 (.jn ⟨[],[.tip (.st 12)],[5],[og],[]⟩ [] (.r 0 (.lp [.tok 5 (.st 12)] ⟨[1],[.tip (.st 12)],[5,6],[og,oa],[]⟩ .no)) [] (.jn ⟨[1],[.tip (.st 12)],[5],[og],[]⟩ [] (oC 38) [] (nA (lA ⟨[1],[.tip (.st 12)],[5,7],[og,oa],[]⟩ .no))))) c0 (Q:=∀B F,Srt B/\B.length<=1000/\0<=F.wn/\0<=F.wK->∀r0,putA B F=r0->∀Y:List wA->Prop,(∀U,(∀J2:List wA->Prop,(∀(k1:List wA),(k1=k1/\∃(I2:Int->List wA->Prop)(M2:Int->List wA->Nat),I2 0 k1/\∀m1 n1,I2 m1 n1->iF m1 B.length (iD (F.ID<(ix B m1).ID) (iR m1 B.length (iL n1 [ix B m1] 24 (n1++[ix B m1]=n1++[ix B m1]/\ss2 I2 M2 m1 (i64.wrap (m1+1)) n1 (n1++[ix B m1])))) (n1=n1/\ss2 I2 M2 m1 (i64.wrap (m1+1)) n1 n1)) (n1=r0))->J2 k1)->∀J3:oE,(∀(l1:Bool),iT l1 (iL U [F] 24 (U++[F]=U++[F]/\J2 (U++[F]))) (U=U/\J2 U)->J3 l1)->iD (0<F.wn) (J3 true) (J3 (decide (0<F.wK))))->Y U)->([]:List wA)=([]:List wA)/\∃(I1:Int->List wA->Prop)(M1:Int->List wA->Nat),I1 0 ([]:List wA)/\∀f1 i1,I1 f1 i1->iF f1 B.length (iD ((ix B f1).ID<F.ID) (iR f1 B.length (iL i1 [ix B f1] 24 (i1++[ix B f1]=i1++[ix B f1]/\ss2 I1 M1 f1 (i64.wrap (f1+1)) i1 (i1++[ix B f1])))) (i1=i1/\Y i1)) (i1=i1/\Y i1))<|by
  rintro B F h _ rfl;obtain⟨hs,hl,hb,hn⟩:=h;have ad:=lb_le B F.ID;intro Y j1;have Z:Y (B.take (lb B F.ID)):=by
   refine j1 _ λJ2 j2=>?_;have aa:∀m:List wA,m=B.take (lb B F.ID)++(if F.wn≠0∨F.wK≠0 then[F]else[])->J2 m:=by
    intro m hm;have ae:m.length<=1001:=by rw[hm];simp only[qi,qu];split<;>simp<;>omega
    refine j2 _ ⟨rfl,λa g=>∃i:Nat,a=(i:Int)/\g=m++(B.take i).filter (λx=>decide (F.ID<x.ID))/\i<=B.length,λa _=>(B.length-a).toNat,⟨0,rfl,by simp,by omega⟩,?_⟩;rintro _ _⟨i,rfl,rfl,hi⟩;refine⟨λh=>?_,λh=>?_⟩
    . have h:=qc h;have M:i<B.length:=by omega
      have ag:((B.take i).filter λx=>decide (F.ID<x.ID)).length<=i:=by have:=List.length_filter_le (λx=>decide (F.ID<x.ID)) (B.take i);simp at this⊢;omega
      have ac:(m++(B.take i).filter λx=>decide (F.ID<x.ID)).length<=3000:=by rw[qi];omega
      have e1:(B.take (i+1)).filter (λx=>decide (F.ID<x.ID))=(B.take i).filter (λx=>decide (F.ID<x.ID))++if F.ID<B[i].ID then[B[i]]else[]:=by rw[qt M,List.filter_append];congr 1;simp only[List.filter_cons,List.filter_nil,qy]
      rw[ix_get _ _ M];refine⟨by omega,h,λJ=>⟨by omega,h,rfl,?_,?_,rfl,?_⟩,λJ=>⟨rfl,?_⟩⟩;. simp only[qx,qan];omega
      . simp only[qx,qan];unfold maxLen;omega
      . have J:=qc J;rw[inc_i64 _ qqo];refine⟨⟨i+1,rfl,?_,by omega⟩,by(dsimp only;omega)⟩;rw[e1,qg J,qn]
      . have J:=qd J;rw[inc_i64 _ qqo];refine⟨⟨i+1,rfl,?_,by omega⟩,by(dsimp only;omega)⟩;rw[e1,qe J,qcm]
    . have h:=qd h;have:i=B.length:=by omega
      subst this;simp only[qcb];rw[tail_eq hs,hm];unfold putA;first|rfl|(rw[qn];rfl)
   intro J3 j3;have ab:∀b:Bool,(b=true↔F.wn≠0∨F.wK≠0)->J3 b:=by
    intro b hb;have X:(B.take (lb B F.ID)).length<=1000:=by rw[qu];omega
    refine j3 _ ⟨λe=>⟨rfl,(len24 _ _ (qbd X qqd)).1,(len24 _ _ (qbd X qqd)).2,rfl,aa _ ?_⟩,λe=>⟨rfl,aa _ ?_⟩⟩;. rw[qg (hb.1 e)]
    . rw[qe λhh=>by rw[hb.2 hh]at e;cases e];exact(qcm _).symm
   refine⟨λe=>ab _ ?_,λe=>ab _ ?_⟩
   . have:=qc e;simp;omega
   . have:=qd e;simp;omega
  refine⟨rfl,λa g=>∃i:Nat,a=(i:Int)/\g=B.take i/\i<=B.length/\∀k(h:k<B.length),k<i->B[k].ID<F.ID,λa _=>(B.length-a).toNat,⟨0,rfl,rfl,by omega,λk _ h=>by omega⟩,?_⟩;rintro _ _⟨i,rfl,rfl,hi,hk⟩;refine⟨λh=>?_,λh=>?_⟩
  . have h:=qc h;have M:i<B.length:=by omega
    have X:(B.take i).length<=1000:=by rw[qu];omega
    rw[ix_get _ _ M];refine⟨by omega,h,λJ=>⟨by omega,h,rfl,?_,?_,rfl,?_⟩,λJ=>⟨rfl,?_⟩⟩;. simp only[qx,qan];omega
    . simp only[qx,qan];unfold maxLen;omega
    . have J:=qc J;rw[inc_i64 _ qqo,<-qt];refine⟨⟨i+1,rfl,rfl,by omega,λk h1 h2=>?_⟩,by(dsimp only;omega)⟩;rcases qaw k i with h5|h5;. exact hk k h1 h5
      . have:k=i:=by omega
        subst this;exact J
    . have J:=qd J;have:lb B F.ID=i:=lb_eq B F.ID i hi hk λ_=>by omega
      rw[<-this];exact Z
  . have h:=qd h;have:lb B F.ID=i:=lb_eq B F.ID i hi hk λhh=>by omega
    rw[<-this];exact⟨rfl,Z⟩
def kj2:Ct:=.bp 83 [.sl (.st 12),yqu,yqu] [.sl (.st 12),yqi] λ(B:List wA)(J F:Int)=>(OkA B/\U64 F,creditA B J F,λR=>(R.1,R.2,()))
theorem k9w:kj2.O:=qbv Bs Tryz.func83 .no (kgz.c (khc.c c0)) (Q:=∀B F J,OkA B/\U64 J->∀R,creditA B F J=R->B.length<=1001/\let X:=u64.wrap (9223372036854775807-(getA B F).wn)
iD (X<J) ([]=R.1/\1=R.2) (let M:=u64.wrap ((getA B F).wn+J)
(Srt B/\B.length<=1000/\0<=(wA.mk (getA B F).ID M (getA B F).wK).wn/\0<=(wA.mk (getA B F).ID M (getA B F).wK).wK)/\let Y:=putA B (wA.mk (getA B F).ID M (getA B F).wK)
Y=R.1/\0=R.2))<|by
 rintro B F J h R Z;subst Z;obtain⟨h,ha,aa⟩:=h;obtain⟨g1,g2⟩:=getA_ok h F;refine⟨by have:=h.2.1;omega,?_⟩;rw[wrap_u64 (9223372036854775807-(getA B F).wn) qqo qqo,getA_id];refine⟨λU=>?_,λU=>?_⟩;.have:=qc U;simp[creditA,this]
 .have:=qd U;simp only[creditA,qe this];rw[wrap_u64 _ qqo qqo];exact⟨⟨h.1,h.2.1,by omega,by omega⟩,rfl,by exact qo⟩
def kmi:Ct:=.bp 131 [.sl (.st 12),yqu,yqu,yqu] [.sl (.st 12),yqi] λ(B:List wA)(M F J:Int)=>(OkA B/\U64 F/\U64 J,debitA B M F J,λR=>(R.1,R.2,()))
theorem kb8:kmi.O:=qbv Bs Tryz.func131 (rA 1 (.r 1 (oC 17))) (kgz.c (khc.c c0)) (Q:=∀B F U J,OkA B/\U64 U/\U64 J->∀R,debitA B F U J=R->B.length<=1001/\iT (U==0) ([]=R.1/\1=R.2) (∀X:oE,(∀b1,iT b1 ([]=R.1/\20=R.2) (iD ((getA B F).wn<U) ([]=R.1/\15=R.2) (let Y:=u64.wrap ((getA B F).wn-U)
let Z:=u64.wrap ((getA B F).wK+1)
(Srt B/\B.length<=1000/\0<=(wA.mk (getA B F).ID Y Z).wn/\0<=(wA.mk (getA B F).ID Y Z).wK)/\let r4:=putA B (wA.mk (getA B F).ID Y Z)
r4=R.1/\0=R.2))->X b1)->iT (J !=(getA B F).wK) (X true) (X (J==18446744073709551615))))<|by
 rintro B F U J h R hR;subst hR;obtain⟨h,⟨ha,aa⟩,hn,ab⟩:=h;obtain⟨g1,g2⟩:=getA_ok h F;refine⟨by have:=h.2.1;omega,λM=>?_,λM X j=>?_⟩
 .have:U=0:=by simpa using M
  simp[debitA,this]
 have h0:U≠0:=by simpa using M
 have key:∀b,(b=true↔J≠(getA B F).wK∨J=18446744073709551615)->X b:=by
  intro b hb;refine j _ ⟨λe=>?_,λe=>?_⟩;.simp only[debitA,qe h0,qg (hb.1 e)];exact⟨by exact qo,by exact qo⟩
  .have h1:¬(J≠(getA B F).wK∨J=18446744073709551615):=λM=>by rw[hb.2 M]at e;cases e
   simp only[debitA,qe h0,qe h1];refine⟨λM=>?_,λM=>?_⟩;.have:=qc M;simp[this]
   .have h2:=qd M;simp only[qe h2];have h4:=qad λe=>h1 (.inl e);rw[wrap_u64 _ qqo qqo,wrap_u64 ((getA B F).wK+1) qqo qqo,getA_id,h4];exact⟨⟨h.1,h.2.1,by omega,by omega⟩,rfl,by exact qo⟩
 refine⟨λe=>key _ ?_,λe=>key _ ?_⟩
 .have:J≠(getA B F).wK:=by simpa using e
  simp[this]
 .have:J=(getA B F).wK:=by simpa using e
  rw[this];simp
def km2:Ct:=.gp 95 [.st 15] [.bool] [] λ(B:wBU)=>(0<=B.a0/\0<=B.a1,vPoint B.a0 B.a1,())
theorem koy:km2.O:=qrv Bs Tryz.func95 .no c0 (Q:=∀(B:wBU),0<=B.a0/\0<=B.a1->∀r0:Bool,vPoint B.a0 B.a1=r0->iD (B.a0<18446744069414584321) (iD (B.a1<18446744069414584321) (iD (0<B.a0) (true=r0) (decide (0<B.a1)=r0)) (false=r0)) (false=r0))<|by
 rintro B h _ rfl;refine ?_;unfold vPoint;repeat'(apply qaa<;>intro h)
 all_goals grind
def kh0:Ct:=.gp 94 [oq] [.bool] [] λ(B:Li)=>(B.length<=9223372036854775807,B.all λx=>decide (x<18446744069414584321),())
theorem kjg:kh0.O:=qrv Bs Tryz.func94 (rA 0 (lA (oB [3] [oa]) .no)) c0 (Q:=∀(B:Li),B.length<=9223372036854775807->∀r0,B.all (λx=>decide (x<18446744069414584321))=r0->∃U Y,U 0/\∀b1,U b1->iF b1 B.length (let Z:=decide (18446744069414584321<=ix B b1)
iT Z (false=r0) (ss1 U Y b1 (i64.wrap (b1+1)))) (true=r0))<|by
 rintro B h _ rfl;refine⟨λi=>0<=i/\i<=B.length/\∀x∈B.take i.toNat,x<18446744069414584321,λi=>(B.length-i).toNat,⟨by omega,by omega,by simp⟩,?_⟩;rintro i⟨M,g1,X⟩;refine⟨λF=>?_,λF=>?_⟩
 .have F:=qc F;refine⟨M,F,λe=>?_,λe=>?_⟩;.have e:=qc e;exact(qcy.2 ⟨_,ix_mem B i M F,by simp;omega⟩).symm
  .have e:=qd e;rw[inc i B.length M F qqo];refine⟨⟨by omega,by omega,?_⟩,by(dsimp only;omega)⟩;rw[kg B i M F];intro x J;rcases qae.1 J with J|J;.exact X x J
   .have:x=ix B i:=by simpa using J
    omega
 .have F:=qd F;rw[ql qqo]at X;simpa using X
def kmf:Ct:=.gp 61 [.st 3] [yqi] [] λ(B:wh)=>(TR B/\TL B,validE B,())
theorem k1s:kmf.O:=qrv Bs Tryz.func61 (.r 1 (.nd [] (lA (oB [3] [oa]) (rA 0 (lA (oB [4] [oa]) .no))) [] (.nd [] (lA (oB [5] [oa]) .no) [] (.jn (oB [] []) [] .no [] (.jn (oB [] []) [] .no [] .no))))) (kjg.c (koy.c c0)) (Q:=∀B,TR B/\TL B->∀r0,validE B=r0->iD (4<(B.wC.length:Int)) (1=r0) (iD (4<(B.wB.length:Int)) (1=r0) (B.wC.length<=9223372036854775807/\let r1:Bool:=B.wC.all λx=>decide (x<18446744069414584321)
iT (!r1) (1=r0) ([B.wX,B.wQ,B.wK].length<=9223372036854775807/\let r2:Bool:=[B.wX,B.wQ,B.wK].all λx=>decide (x<18446744069414584321)
iT (!r2) (1=r0) (∃(I1:oD)(M1:oG),I1 0/\∀b1,I1 b1->iD (b1<(B.wC.length:Int)) (∃(I2:oD)(M2:oG),I2 0/\∀f1,I2 f1->iD (f1<b1) (iR b1 B.wC.length (iR f1 B.wC.length (iT (ix B.wC b1==ix B.wC f1) (1=r0) (ss1 I2 M2 f1 (i64.wrap (f1+1)))))) (ss1 I1 M1 b1 (i64.wrap (b1+1)))) (∃(I3:oD)(M3:oG),I3 0/\∀i1,I3 i1->iF i1 B.wB.length (let v3:Bool:=decide (18446744069414584321<=(ix B.wB i1).wl)
iT v3 (1=r0) ((0<=(wBU.mk (ix B.wB i1).wAY (ix B.wB i1).wAV).a0/\0<=(wBU.mk (ix B.wB i1).wAY (ix B.wB i1).wAV).a1)/\let r4:Bool:=vPoint (wBU.mk (ix B.wB i1).wAY (ix B.wB i1).wAV).a0 (wBU.mk (ix B.wB i1).wAY (ix B.wB i1).wAV).a1
iT (!r4) (1=r0) (let v5:Bool:=(((ix B.wB i1).wm).length:Int)!=3
iT v5 (1=r0) (((ix B.wB i1).wm).length<=9223372036854775807/\let r6:Bool:=((ix B.wB i1).wm).all λx=>decide (x<18446744069414584321)
iT (!r6) (1=r0) (ss1 I3 M3 i1 (i64.wrap (i1+1))))))) (∀J1:Prop,((∀J2:Prop,(iD (B.wAG<0) (1=r0) (iD (1048576<B.wAG) (1=r0) (let v7:Bool:=decide (1048576<(B.wAH.length:Int))
iT v7 (3=r0) (0=r0)))->J2)->iT (B.wJ==0) (iT (B.wK !=0) (1=r0) (iT ((B.wC.length:Int)==0) (1=r0) (iT (B.wL==0) (iT (B.wQ !=0) (1=r0) J2) J2))) J2)->J1)->iD (4294967295<B.wJ) (1=r0) (iD (4294967295<B.wL) (1=r0) (iD (4294967295<B.Fee) (1=r0) (iD (0<B.wJ) (iD (0<B.wL) (1=r0) J1) J1))))))))))<|by
 rintro B h _ rfl;obtain⟨hr,hl⟩:=h;have M:[B.wX,B.wQ,B.wK].all (λx=>decide (x<18446744069414584321))=(decide (B.wX<18446744069414584321)&&(decide (B.wQ<18446744069414584321)&&decide (B.wK<18446744069414584321))):=by simp
 have bad:(vMarks B.wC&&vOuts B.wB&&vAmounts B&&vRest B)=false->1=validE B:=by intro h;unfold validE;rw[h];rfl
 have Y:vMarks B.wC=false->1=validE B:=λh=>bad (by rw[h];rfl);have ab:vOuts B.wB=false->1=validE B:=λh=>bad (by rw[h];simp);have Z:vAmounts B=false->1=validE B:=λh=>bad (by rw[h];simp);have aa:vRest B=false->1=validE B:=λh=>bad (by rw[h];simp);refine⟨λh=>Y ?_,λh=>⟨λh2=>ab ?_,λh2=>⟨by have:=hl.m;omega,λh3=>Y ?_,λh3=>⟨by simp,λh4=>?_,λh4=>?_⟩⟩⟩⟩;.have h:=qc h;unfold vMarks;rw[qat qqo];rfl
 .have h2:=qc h2;unfold vOuts;rw[qat qqo];rfl
 .have h3:B.wC.all (λx=>decide (x<18446744069414584321))=false:=by simpa using h3
  unfold vMarks;rw[h3];simp
 .rw[M]at h4;have:vAmounts B=false∨vRest B=false:=by unfold vAmounts vRest;grind
  exact this.elim Z aa
 have h:=qd h;have h2:=qd h2;have h3:B.wC.all (λx=>decide (x<18446744069414584321))=true:=by simpa using h3
 have h4:[B.wX,B.wQ,B.wK].all (λx=>decide (x<18446744069414584321))=true:=by
  cases hq:[B.wX,B.wQ,B.wK].all λx=>decide (x<18446744069414584321);.rw[hq]at h4;simp at h4
  .rfl
 rw[M]at h4;simp only[qh,qy]at h4;obtain⟨a1,a2,a3⟩:=h4;refine⟨λi=>0<=i/\i<=B.wC.length/\(B.wC.take i.toNat).Nodup,λi=>(B.wC.length-i).toNat,⟨by omega,by omega,by simp⟩,?_⟩;rintro i⟨g0,g1,g2⟩;refine⟨λF=>?_,λF=>?_⟩
 .have F:=qc F;refine⟨λk=>0<=k/\k<=i/\∀x∈B.wC.take k.toNat,x≠ix B.wC i,λk=>(i-k).toNat,⟨by omega,by omega,by simp⟩,?_⟩;rintro k⟨k0,k1,k2⟩;refine⟨λhk=>?_,λhk=>?_⟩
  .have hk:=qc hk;refine⟨g0,F,k0,by omega,λe=>Y ?_,λe=>?_⟩
   .have e:ix B.wC i=ix B.wC k:=by simpa using e
    have:¬B.wC.Nodup:=by intro hn;rw[ix_nat _ i g0 F,ix_nat _ k k0 qqo]at e;have:=(List.getElem_inj hn).1 e;omega
    unfold vMarks;rw[qat this];simp
   .have e:¬ix B.wC i=ix B.wC k:=by simpa using e
    rw[inc k i k0 hk qqo];refine⟨⟨by omega,by omega,?_⟩,by(dsimp only;omega)⟩;rw[kg B.wC k k0 qqo];intro x U;rcases qae.1 U with U|U;.exact k2 x U
    .have:x=ix B.wC k:=by simpa using U
     rw[this];exactλe'=>e e'.symm
  .have hk:=qd hk;have ac:k=i:=by omega
   subst ac;have ad:(0<=k+1/\k+1<=B.wC.length/\(B.wC.take (k+1).toNat).Nodup)/\(B.wC.length-(k+1)).toNat<(B.wC.length-k).toNat:=by
    refine⟨⟨by omega,by omega,?_⟩,by(first|omega|(dsimp only;omega))⟩;rw[kg B.wC k g0 F];refine qci.2 ⟨g2,by simp,λa ha b hb=>?_⟩;have:b=ix B.wC k:=by simpa using hb
    rw[this];exact k2 a ha
   have hi:=inc k B.wC.length g0 F qqo;rw[hi];exact ad
 .have F:=qd F;rw[ql qqo]at g2;have vm:vMarks B.wC=true:=by unfold vMarks;rw[h3,qao g2,qao qqo];rfl
  refine⟨λi=>0<=i/\i<=B.wB.length/\∀x∈B.wB.take i.toNat,vOut x=true,λi=>(B.wB.length-i).toNat,⟨by omega,by omega,by simp⟩,?_⟩;rintro i⟨g0,g1,g2⟩;refine⟨λF=>?_,λF J1 k1=>?_⟩
  .have F:=qc F;have U:=hr.o _ (ix_mem B.wB i g0 F);have ae:=hl.c _ (ix_mem B.wB i g0 F);have bd:vOut (ix B.wB i)=false->1=validE B:=by intro hb;refine ab ?_;unfold vOuts;have:B.wB.all vOut=false:=qcy.2 ⟨_,ix_mem B.wB i g0 F,by simp[hb]⟩;rw[this];simp
   unfold vOut at bd;refine⟨g0,F,λe=>bd ?_,λe=>⟨⟨U.p0.1,U.p1.1⟩,λJ=>bd ?_,λJ=>⟨λM=>bd ?_,λM=>⟨by omega,λX=>bd ?_,λX=>?_⟩⟩⟩⟩;.have e:=qc e;rw[qat qqo];rfl
   .have J:vPoint (ix B.wB i).wAY (ix B.wB i).wAV=false:=by simpa using J
    simp[J]
   .have M:¬((ix B.wB i).wm.length:Int)=3:=by simpa using M
    have M:¬(ix B.wB i).wm.length=3:=by omega
    simp[M]
   .have X:(ix B.wB i).wm.all (λx=>decide (x<18446744069414584321))=false:=by
     cases hq:(ix B.wB i).wm.all λx=>decide (x<18446744069414584321);.rfl
     .rw[hq]at X;simp at X
    rw[X];simp
   .have e:=qd e;have J:vPoint (ix B.wB i).wAY (ix B.wB i).wAV=true:=by simpa using J
    have M:((ix B.wB i).wm.length:Int)=3:=by simpa using M
    have X:(ix B.wB i).wm.all (λx=>decide (x<18446744069414584321))=true:=by
     cases hq:(ix B.wB i).wm.all λx=>decide (x<18446744069414584321);.rw[hq]at X;simp at X
     .rfl
    have hv:vOut (ix B.wB i)=true:=(k98 _).2 ⟨by omega,J,by omega,by simpa using X⟩;rw[inc i B.wB.length g0 F qqo];refine⟨⟨by omega,by omega,?_⟩,by(dsimp only;omega)⟩;rw[kg B.wB i g0 F];intro x U;rcases qae.1 U with U|U;.exact g2 x U
    .have:x=ix B.wB i:=by simpa using U
     rw[this];exact hv
  .have F:=qd F;rw[ql qqo]at g2;have vo:vOuts B.wB=true:=by
    unfold vOuts;have:B.wB.all vOut=true:=by simpa using g2
    rw[this,qao qqo];rfl
   have j1:vOuts B.wB=true->B.wJ<=4294967295->B.wL<=4294967295->B.Fee<=4294967295->(0<B.wJ->B.wL=0)->J1:=by
    intro vo d1 d2 d3 d4;have hd:=hr.d;have hw:=hr.w;have fA:¬(B.wJ<=4294967295/\B.wL<=4294967295/\B.Fee<=4294967295/\B.wQ<18446744069414584321/\B.wK<18446744069414584321/\(0<B.wJ->B.wL=0)/\(¬0<B.wJ->B.wC≠[]/\B.wK=0/\(0<B.wL∨B.wQ=0)))->1=validE B:=λh=>Z (Bool.eq_false_iff.2 λh'=>h ((k24 B).1 h'));refine k1 λJ2 k2=>?_;have j2:vOuts B.wB=true->vAmounts B=true->J2:=by
     intro vo va;refine k2 ⟨λe=>aa ?_,λe=>⟨λJ=>aa ?_,λJ=>?_⟩⟩;.have e:=qc e;unfold vRest;rw[qat (p:=0<=B.wAG) qqo];simp
     .have J:=qc J;unfold vRest;rw[qat (p:=B.wAG<=1048576) qqo];simp
     .have e:=qd e;have J:=qd J;have vr:vRest B=true:=by unfold vRest;rw[qao a1,qao (p:=0<=B.wAG) qqo,qao (p:=B.wAG<=1048576) qqo];rfl
      unfold validE;rw[vm,vo,va,vr];refine⟨λe=>?_,λe=>?_⟩;.have e:=qc e;simp;omega
      .have e:=qd e;simp;omega
    refine⟨λe=>⟨λJ=>fA ?_,λJ=>⟨λM=>fA ?_,λM=>⟨λX=>⟨λe5=>fA ?_,λe5=>j2 vo ((k24 B).2 ?_)⟩,λX=>j2 vo ((k24 B).2 ?_)⟩⟩⟩,λe=>j2 vo ((k24 B).2 ?_)⟩;all_goals simp only[beq_iff_eq,bne_iff_ne,beq_eq_false_iff_ne,bne_eq_false_iff_eq,Int.natCast_eq_zero,qch]at*
    .exactλh=>by have:=h.2.2.2.2.2.2 qqo;omega
    .exactλh=>(h.2.2.2.2.2.2 qqo).1 M
    .exactλh=>by have:=(h.2.2.2.2.2.2 qqo).2.2;omega
    .exact⟨d1,d2,d3,a2,a3,d4,λ_=>⟨λhq=>M (by rw[hq];rfl),J,.inr e5⟩⟩
    .exact⟨d1,d2,d3,a2,a3,d4,λ_=>⟨λhq=>M (by rw[hq];rfl),J,.inl qqo⟩⟩
    .exact⟨d1,d2,d3,a2,a3,d4,λh=>by omega⟩
   have hd:=hr.d;have hw:=hr.w;have fA:¬(B.wJ<=4294967295/\B.wL<=4294967295/\B.Fee<=4294967295/\(0<B.wJ->B.wL=0))->1=validE B:=λh=>Z (Bool.eq_false_iff.2 λh'=>h (by have:=(k24 B).1 h';exact⟨this.1,this.2.1,this.2.2.1,this.2.2.2.2.2.1⟩));refine⟨λe=>fA ?_,λe=>⟨λJ=>fA ?_,λJ=>⟨λM=>fA ?_,λM=>⟨λX=>⟨λe5=>fA ?_,λe5=>j1 vo ?_ ?_ ?_ ?_⟩,λX=>j1 vo ?_ ?_ ?_ ?_⟩⟩⟩⟩;all_goals simp only[qy,decide_eq_false_iff_not]at*
   all_goals omega
def kqt:Ct:=.gp 190 [oq,yqu] [.bool] [] λ(B:Li)(F:Int)=>(B.length<=1000000,decide (F∈B),())
theorem ksb:kqt.O:=qrv Bs Tryz.func190 (rA 0 (lA (oB [5] [oa]) .no)) c0 (Q:=∀B(J:Int),B.length<=1000000->∀r0,decide (J∈B)=r0->∃M X,M 0/\∀b1,M b1->iF b1 B.length (iT (ix B b1==J) (true=r0) (ss1 M X b1 (i64.wrap (b1+1)))) (false=r0))<|by
 rintro B J h _ rfl;refine⟨λa=>∃i:Nat,a=i/\i<=B.length/\J∉B.take i,λa=>(B.length-a).toNat,⟨0,rfl,by omega,by simp⟩,?_⟩;rintro _⟨i,rfl,hi,U⟩;refine⟨λe=>?_,λe=>?_⟩
 .have e:i<B.length:=by have:=qc e;omega
  rw[ix_get _ _ e,inc_i64 _ qqo];refine⟨by omega,by omega,λF=>?_,λF=>⟨⟨i+1,rfl,by omega,?_⟩,by(dsimp only;omega)⟩⟩
  .have F:B[i]=J:=by simpa using F
   rw[<-F,qao (qz e)]
  .have F:¬B[i]=J:=by simpa using F
   rw[qt e];simp only[qae,qah];exactλY=>Y.elim U λh=>F h.symm
 .have e:i=B.length:=by have:=qd e;omega
  subst e;rw[qcb]at U;rw[qat U]
def klc:Ct:=.gp 129 [.st 22,.st 3] [yqi] [] λ(F:wAZ)(B:wh)=>(ROk F/\TR B/\TL B,rchk F B,())
theorem kpx:klc.O:=qrv Bs Tryz.func129 (.r 3 (.nd [] (lA (oB [6] [oa]) .no) [] (.jn (oB [] []) [] .no [] .no))) (k1s.c (k7v.c (ksb.c (kb8.c c0)))) (Q:=∀F B,ROk F/\TR B/\TL B->∀r0,rchk F B=r0->(TR B/\TL B)/\iT (validE B !=0) (validE B=r0) (let v1:=decide (B.wAG<i64.wrap (F.wG+1))
iT v1 (14=r0) (((1<=F.wV/\F.wV<=100)/\F.wAL.length<=1000000)/\(ancL F.wAL F.wV).length<=1000000/\let r2:=decide (B.wX∈ancL F.wAL F.wV)
iT (!r2) (11=r0) (∃I1 M1,I1 0/\∀b1,I1 b1->iF b1 B.wC.length (F.wC.length<=1000000/\iT (decide (ix B.wC b1∈F.wC)) (12=r0) (ss1 I1 M1 b1 (i64.wrap (b1+1)))) (∀J1,((let v4:=u64.wrap (F.wAU+B.wJ)
let v5:=decide (v4<u64.wrap (B.wL+B.Fee))
iT v5 (13=r0) (let v6:=i64.wrap (F.wAO.length+B.wB.length)
0<=u64.wrap F.wv/\let v7:=ishl .i64 1 (u64.wrap F.wv)
iD (v7<v6) (16=r0) (0=r0)))->J1)->iD (0<B.wJ) ((OkA F.wE/\U64 B.wJ/\U64 B.wK)/\let r3:=debitA F.wE B.wQ B.wJ B.wK
iT (r3.2 !=0) (r3.2=r0) J1) J1)))))<|by
 rintro F B h _ rfl;obtain⟨X,ht,hl⟩:=h;have ag:=X.d1;have ah:=X.d2;have hh:=X.h;have ae:=X.ml;have ai:=X.ll;have ac:=X.rl;have aa:=pow12 F.wv.toNat qqo;generalize ab:rchk F B=R;have J:chk F.wG (ancL F.wAL F.wV) F.wC F.wE F.wAU F.wAO.length F.wv B=R:=ab;clear ab;unfold chk at J;refine⟨⟨ht,hl⟩,λe=>?_,λe=>?_⟩
 .have e:validE B≠0:=by simpa using e
  rw[qg e]at J;exact J
 have e:validE B=0:=by simpa using e
 have vt:=(kj B).1 e;have aj:=vt.ol;have ak:=vt.ml;rw[qe (by rw[e];decide)]at J;have ei:i64.wrap (F.wG+1)=F.wG+1:=ko _ qqo qqo;rw[ei];refine⟨λe2=>?_,λe2=>⟨⟨⟨X.w1,X.w2⟩,ac⟩,?_,λY=>?_,λY=>?_⟩⟩;.rw[qg (qc e2)]at J;exact J
 .unfold ancL;rw[qal];omega
 .have Y:B.wX∉ancL F.wAL F.wV:=by simpa using Y
  rw[qe (qd e2),qg Y]at J;exact J
 have Y:¬B.wX∉ancL F.wAL F.wV:=by simpa using Y
 rw[qe (qd e2),qe Y]at J;refine⟨λa=>∃i:Nat,a=i/\i<=B.wC.length/\((B.wC.take i).any λm=>decide (m∈F.wC))=false,λa=>(B.wC.length-a).toNat,⟨0,rfl,by omega,rfl⟩,?_⟩;rintro _⟨i,rfl,hi,hm⟩;refine⟨λU=>?_,λU J1 j=>?_⟩
 .have U:i<B.wC.length:=by have:=qc U;omega
  rw[ix_get _ _ U,inc_i64 _ qqo];refine⟨by omega,by omega,by omega,λM=>?_,λM=>⟨⟨i+1,rfl,by omega,?_⟩,by(dsimp only;omega)⟩⟩;.rw[qg (List.any_eq_true.2 ⟨_,qz U,M⟩)]at J;exact J
  .rw[qt U,List.any_append,hm,List.any_cons,M];rfl
 .have U:i=B.wC.length:=by have:=qd U;omega
  subst U;rw[qcb]at hm;have j1:(B.wC.any λm=>decide (m∈F.wC))=false->¬(0<B.wJ/\(debitA F.wE B.wQ B.wJ B.wK).2≠0)->J1:=by
   intro g1 g2;rw[qe (by rw[g1];decide),qe g2]at J;obtain⟨d,hd⟩:=qm (show 0<=F.wv by omega);have ad:F.wv.toNat=d:=by omega
   rw[ad]at J aa;have ew:u64.wrap F.wv=d:=by rw[wrap_u64 _ qqo qqo];exact hd
   refine j ⟨λU=>?_,λU=>?_⟩;.rw[qg (qc U)]at J;exact J
   .rw[qe (qd U)]at J;rw[ew,ko _ qqo qqo,shl1 d qqo];refine⟨by omega,λM=>?_,λM=>?_⟩;.rw[qg (by have:=qc M;omega)]at J;exact J
    .rw[qe (by have:=qd M;omega)]at J;exact J
  refine⟨λM=>⟨⟨X.a,ht.d,ht.n⟩,λZ=>?_,λZ=>j1 hm ?_⟩,λM=>j1 hm ?_⟩
  .have M:=qc M;have Z:(debitA F.wE B.wQ B.wJ B.wK).2≠0:=by simpa using Z
   rw[qe (by rw[hm];decide),qg ⟨M,Z⟩]at J;exact J
  .have Z:(debitA F.wE B.wQ B.wJ B.wK).2=0:=by simpa using Z
   exactλhh=>hh.2 Z
  .have M:=qd M;exactλhh=>M hh.1
def kji:Ct:=.gp 130 [oq,yqu] [oq] [] λ(B:Li)(F:Int)=>(B.length<=1000000,insI F B,())
theorem klq:kji.O:=qrv Bs Tryz.func130 (.r 1 (.jn (oB [5] [oa]) [] (.lp [] (oB [5] [oa]) .no) [] .no)) c0 (Q:=∀B F,B.length<=1000000->∀r0,insI F B=r0->∀X:oD,(∀M,0<=M/\M<=(B.length:Int)/\(([]:Li).length+(B.take M.toNat).length)*8<=140737488355328/\([]:Li).length+(B.take M.toNat).length<=maxLen/\iL ([]++B.take M.toNat) [F] 8 (let v1:=[]++B.take M.toNat++[F]
0<=M/\M<=B.length/\iL v1 (B.drop M.toNat) 8 (v1++B.drop M.toNat=r0))->X M)->∃I1 M1,I1 0/\∀f1,I1 f1->iF f1 B.length (iD (ix B f1<F) (ss1 I1 M1 f1 (i64.wrap (f1+1))) (X f1)) (X f1))<|by
 rintro B F h _ rfl;have ins:∀(l r:Li),(∀x∈l,x<F)->(∀x∈r.head?,F<=x)->insI F (l++r)=l++[F]++r:=by intro l;induction l with
  |nil=>intro r _ Y;cases r with
   |nil=>rfl|cons y r=>show insI F (y::r)=_;unfold insI;rw[qg (Y y qqs)];rfl
  |cons y l ih=>intro r h1 Y;have:=h1 y qqs;show insI F (y::(l++r))=_;unfold insI;rw[qe qqo,ih r (λx J=>h1 x (by simp[J])) Y];rfl
 intro X Z;have Z:∀i:Nat,i<=B.length->insI F B=B.take i++[F]++B.drop i->X (i:Int):=by
  intro i hi he;have h1:(B.take i).length=i:=by rw[qu];omega
  have Y:(B.drop i).length=B.length-i:=qal;refine Z _ ?_;rw[he];simp only[qv,qcd];refine⟨by omega,by omega,?_,?_,by first|exact rfl|exact qo,?_,?_,by omega,by omega,by first|exact rfl|exact qo,?_,?_,by first|exact rfl|exact qo⟩;all_goals simp only[qi,qx,qan]
  all_goals first|omega|(unfold maxLen;omega)
 refine⟨λa=>∃i:Nat,a=(i:Int)/\i<=B.length/\∀x∈B.take i,x<F,λa=>(B.length-a).toNat,⟨0,rfl,by omega,by simp⟩,?_⟩;rintro _⟨i,rfl,hi,hm⟩;refine⟨λe=>?_,λe=>Z i hi ?_⟩
 .have e:i<B.length:=by have:=qc e;omega
  rw[ix_get _ _ e,inc_i64 _ qqo];refine⟨by omega,by omega,λU=>⟨⟨i+1,rfl,by omega,?_⟩,by(dsimp only;omega)⟩,λU=>Z i hi ?_⟩
  .have U:=qc U;rw[qt e];intro x J;rcases qae.1 J with J|J;.exact hm x J
   .rw[qah.1 J];exact U
  .have U:=qd U;have:=ins (B.take i) (B.drop i) hm (by rw[qbb e];intro x J;rw[List.head?_cons]at J;have J:B[i]=x:=Option.some.inj J;omega);rw[qbi]at this;exact this
 .have e:i=B.length:=by have:=qd e;omega
  have:=ins (B.take i) (B.drop i) hm (by rw[qas qqo];intro x J;cases J);rw[qbi]at this;exact this
def kgn:Ct:=.gp 82 [.st 22,.st 3] [.st 22,yqi] [] λ(F:wAZ)(B:wh)=>(ROk F/\TR B/\TL B,(rperf F B).m,(rperf F B).e,())
abbrev Fz7(r:Type):=Int->Int->Int->Int->Int->Int->Int->Int->Int->Int->Int->Li->Li->List wA->Int->Li->r
abbrev Fz8(r:Type):=Int->Int->Int->Int->Int->Int->Int->Int->Int->Int->Int->Li->List wA->Int->Li->Li->r
theorem kj0:kgn.O:=qrv Bs Tryz.func82 (.r 1 (.nd [] (lA ⟨[0],yA1,[7],[oa],[]⟩ .no) [] (.r 0 (.nd [] (lA ⟨[0,4],yW,[8],[oa],[]⟩ .no) [] (.r 0 (.jn ⟨[0,4],yW,[9],[oa],[]⟩ [] .no [] (.jn ⟨[0,4],yW,[9],[oa],[]⟩ [] .no [] .no))))))) (kpx.c (klq.c (kb8.c (k9w.c c0)))) (Q:=∀(B:wAZ)(F:wh),ROk B/\TR F/\TL F->∀r0:wAZ,(rperf B F).m=r0->∀r1:Int,(rperf B F).e=r1->(ROk B/\TR F/\TL F)/\iT (rchk B F !=0) (B.wAP=r0.wAP/\B.wv=r0.wv/\B.wg=r0.wg/\B.wc=r0.wc/\B.wY=r0.wY/\B.wx=r0.wx/\B.wV=r0.wV/\B.wAB=r0.wAB/\B.wAN=r0.wAN/\B.wG=r0.wG/\B.wAO=r0.wAO/\B.wC=r0.wC/\B.wE=r0.wE/\B.wAU=r0.wAU/\B.wAL=r0.wAL/\rchk B F=r1) (∃(I1:Fz7 Prop)(M1:Fz7 Nat),I1 0 B.wAP B.wv B.wg B.wc B.wY B.wx B.wV B.wAB B.wAN B.wG B.wAO B.wC B.wE B.wAU B.wAL/\∀b1 f1 i1 k1 l1 m1 n1 o1 q1 s1 t1 u1 x1 U b2 f2,I1 b1 f1 i1 k1 l1 m1 n1 o1 q1 s1 t1 u1 x1 U b2 f2->iF b1 F.wC.length (x1.length<=1000000/\I1 (i64.wrap (b1+1)) f1 i1 k1 l1 m1 n1 o1 q1 s1 t1 u1 (insI (ix F.wC b1) x1) U b2 f2/\M1 (i64.wrap (b1+1)) f1 i1 k1 l1 m1 n1 o1 q1 s1 t1 u1 (insI (ix F.wC b1) x1) U b2 f2<M1 b1 f1 i1 k1 l1 m1 n1 o1 q1 s1 t1 u1 x1 U b2 f2) ((([]:Li).length+u1.length)*8<=140737488355328/\([]:Li).length+u1.length<=maxLen/\([]:Li)++u1=([]:Li)++u1/\∃(I2:Fz8 Prop)(M2:Fz8 Nat),I2 0 f1 i1 k1 l1 m1 n1 o1 q1 s1 t1 x1 U b2 f2 (([]:Li)++u1)/\∀i2 k2 l2 m2 n2 o2 q2 s2 t2 u2 x2 M b3 f3 i3 k3,I2 i2 k2 l2 m2 n2 o2 q2 s2 t2 u2 x2 M b3 f3 i3 k3->iF i2 F.wB.length (iL k3 [(ix F.wB i2).wl] 8 (k3++[(ix F.wB i2).wl]=k3++[(ix F.wB i2).wl]/\I2 (i64.wrap (i2+1)) k2 l2 m2 n2 o2 q2 s2 t2 u2 x2 M b3 f3 i3 (k3++[(ix F.wB i2).wl])/\M2 (i64.wrap (i2+1)) k2 l2 m2 n2 o2 q2 s2 t2 u2 x2 M b3 f3 i3 (k3++[(ix F.wB i2).wl])<M2 i2 k2 l2 m2 n2 o2 q2 s2 t2 u2 x2 M b3 f3 i3 k3)) (∀J1:Int->Int->Int->Int->Int->Int->Int->Int->Int->Int->Int->Li->List wA->Int->Li->Li->Prop,(∀(l3 m3 n3 o3 q3 s3 t3 u3 x3 Y b4:Int)(f4:Li)(i4:List wA)(k4:Int)(l4 Z:Li),(∀J2:Int->Int->Int->Int->Int->Int->Int->Int->Int->Int->Int->Li->List wA->Int->Li->Li->Prop,(∀(n4 o4 q4 s4 t4 u4 x4 y4 b5 f5 i5:Int)(k5:Li)(l5:List wA)(m5:Int)(n5 o5:Li),(let v3:Int:=u64.wrap (u64.wrap (m5+F.wJ)-F.wL)
o4=r0.wAP/\q4=r0.wv/\s4=r0.wg/\t4=r0.wc/\u4=r0.wY/\x4=r0.wx/\y4=r0.wV/\b5=r0.wAB/\f5=r0.wAN/\i5=r0.wG/\o5=r0.wAO/\k5=r0.wC/\l5=r0.wE/\u64.wrap (v3-F.Fee)=r0.wAU/\n5=r0.wAL/\n4=r1)->J2 n4 o4 q4 s4 t4 u4 x4 y4 b5 f5 i5 k5 l5 m5 n5 o5)->iD (0<F.wL) ((OkA i4/\U64 F.wL)/\Z=Z/\J2 (creditA i4 F.wQ F.wL).2 m3 n3 o3 q3 s3 t3 u3 x3 Y b4 f4 (creditA i4 F.wQ F.wL).1 k4 l4 Z) (Z=Z/\J2 l3 m3 n3 o3 q3 s3 t3 u3 x3 Y b4 f4 i4 k4 l4 Z))->J1 l3 m3 n3 o3 q3 s3 t3 u3 x3 Y b4 f4 i4 k4 l4 Z)->iD (0<F.wJ) ((OkA b3/\U64 F.wJ/\U64 F.wK)/\let r2:=debitA b3 F.wQ F.wJ F.wK
k3=k3/\J1 r2.2 k2 l2 m2 n2 o2 q2 s2 t2 u2 x2 M r2.1 f3 i3 k3) (k3=k3/\J1 0 k2 l2 m2 n2 o2 q2 s2 t2 u2 x2 M b3 f3 i3 k3)))))<|by
 rintro B F h _ rfl _ rfl;obtain⟨hr,ht,hl⟩:=h;generalize hR:rperf B F=R;unfold rperf at hR;refine⟨⟨hr,ht,hl⟩,λe=>?_,λe=>?_⟩
 .have e:rchk B F≠0:=by simpa using e
  rw[qg e]at hR;subst hR;exact by repeat' first|apply qaa|exact rfl|exact qo
 have e:rchk B F=0:=by simpa using e
 rw[qe λhh=>hh e]at hR;have vt:VT F/\(0<F.wJ->(debitA B.wE F.wQ F.wJ F.wK).2=0):=by
  have J:=e;unfold rchk chk at J;split at J;.rename_i h1;exact(h1 J).elim
  .rename_i h1;refine⟨(kj F).1 (qad h1),λhd=>?_⟩;split at J;.cases J
   .split at J;.cases J
    .split at J;.cases J
     .split at J;.rename_i h5;exact(h5.2 J).elim
      .rename_i h5;exact qad λhn=>h5 ⟨hd,hn⟩
 obtain⟨vt,aa⟩:=vt;have ag:=vt.ml;have ah:=vt.ol;have ae:=hr.ml;have ai:=hr.ll;have ab:=hr.al;obtain⟨a1,a2,a3,a4,a5⟩:=vt.am';have ad:OkA (depA B.wE F):=by
  unfold depA;split;.exact kvd hr.a ab ⟨ht.ac.1,a4⟩ ht.d.1 ht.n
  .exact hr.a
 have il:∀x(l:Li),(insI x l).length=l.length+1:=λx l=>(k4m x l).length_eq;refine⟨λa y0 U M Y y4 y5 y6 y7 y8 hh lv g ac hd rt=>(B.wAP=y0/\B.wv=U/\B.wg=M/\B.wc=Y/\B.wY=y4/\B.wx=y5/\B.wV=y6/\B.wAB=y7/\B.wAN=y8/\B.wG=hh/\B.wAO=lv/\B.wE=ac/\B.wAU=hd/\B.wAL=rt)/\∃i:Nat,a=(i:Int)/\i<=F.wC.length/\g=(F.wC.take i).foldl (λa x=>insI x a) B.wC/\g.length=B.wC.length+i,λa _ _ _ _ _ _ _ _ _ _ _ _ _ _ _=>(F.wC.length-a).toNat,⟨⟨rfl,rfl,rfl,rfl,rfl,rfl,rfl,rfl,rfl,rfl,rfl,rfl,rfl,rfl⟩,0,rfl,by omega,rfl,by omega⟩,?_⟩;rintro _ _ _ _ _ _ _ _ _ _ _ _ _ _ _ _⟨⟨rfl,rfl,rfl,rfl,rfl,rfl,rfl,rfl,rfl,rfl,rfl,rfl,rfl,rfl⟩,i,rfl,hi,rfl,X⟩;refine⟨λe=>?_,λe=>?_⟩
 .have e:i<F.wC.length:=by have:=qc e;omega
  rw[ix_get _ _ e,inc_i64 _ qqo];refine⟨by omega,by omega,by omega,⟨⟨rfl,rfl,rfl,rfl,rfl,rfl,rfl,rfl,rfl,rfl,rfl,rfl,rfl,rfl⟩,i+1,rfl,by omega,?_,?_⟩,by(dsimp only;omega)⟩;.rw[qt e,List.foldl_append];rfl
  .rw[il,X];omega
 have e:i=F.wC.length:=by have:=qd e;omega
 subst e;rw[qcb];refine⟨by simp;omega,by simp;unfold maxLen;omega,rfl,?_⟩;refine⟨λa y0 U M Y y4 y5 y6 y7 y8 hh mk ac hd rt g=>(B.wAP=y0/\B.wv=U/\B.wg=M/\B.wc=Y/\B.wY=y4/\B.wx=y5/\B.wV=y6/\B.wAB=y7/\B.wAN=y8/\B.wG=hh/\F.wC.foldl (λa x=>insI x a) B.wC=mk/\B.wE=ac/\B.wAU=hd/\B.wAL=rt)/\∃i:Nat,a=(i:Int)/\i<=F.wB.length/\g=B.wAO++(F.wB.take i).map (·.wl),λa _ _ _ _ _ _ _ _ _ _ _ _ _ _ _=>(F.wB.length-a).toNat,⟨⟨rfl,rfl,rfl,rfl,rfl,rfl,rfl,rfl,rfl,rfl,rfl,rfl,rfl,rfl⟩,0,rfl,by omega,by simp⟩,?_⟩;rintro _ _ _ _ _ _ _ _ _ _ _ _ _ _ _ _⟨⟨rfl,rfl,rfl,rfl,rfl,rfl,rfl,rfl,rfl,rfl,rfl,rfl,rfl,rfl⟩,i,rfl,hi,rfl⟩;refine⟨λe=>?_,λe=>?_⟩
 .have e:i<F.wB.length:=by have:=qc e;omega
  have X:(B.wAO++(F.wB.take i).map (·.wl)).length=B.wAO.length+i:=by simp only[qi,qp,qu];omega
  rw[ix_get _ _ e,inc_i64 _ qqo];refine⟨by omega,by omega,rfl,?_,?_,rfl,⟨⟨rfl,rfl,rfl,rfl,rfl,rfl,rfl,rfl,rfl,rfl,rfl,rfl,rfl,rfl⟩,i+1,rfl,by omega,?_⟩,by(dsimp only;omega)⟩;.rw[X];simp only[qx,qan];omega
  .rw[X];simp only[qx,qan];unfold maxLen;omega
  .rw[qt e,qbj,qn];rfl
 have e:i=F.wB.length:=by have:=qd e;omega
 subst e;rw[qcb];intro J1 j;have j1:∀b',b'=depA B.wE F->J1 0 B.wAP B.wv B.wg B.wc B.wY B.wx B.wV B.wAB B.wAN B.wG (F.wC.foldl (λa x=>insI x a) B.wC) b' B.wAU B.wAL (B.wAO++F.wB.map (·.wl)):=by
  intro b' h1;subst h1;refine j _ _ _ _ _ _ _ _ _ _ _ _ _ _ _ _ λJ2 k=>?_;have j2:∀(e:Int)b',e=(wdA B.wE F).2->b'=(wdA B.wE F).1->J2 e B.wAP B.wv B.wg B.wc B.wY B.wx B.wV B.wAB B.wAN B.wG (F.wC.foldl (λa x=>insI x a) B.wC) b' B.wAU B.wAL (B.wAO++F.wB.map (·.wl)):=by intro e b' h1 h2;subst hR;subst h1;subst h2;exact k _ _ _ _ _ _ _ _ _ _ _ _ _ _ _ _ (by repeat' first|apply qaa|exact rfl|exact qo)
  refine⟨λe=>⟨⟨ad,ht.w⟩,rfl,j2 _ _ ?_ ?_⟩,λe=>⟨rfl,j2 _ _ ?_ ?_⟩⟩;.unfold wdA;rw[qg (qc e)]
  .unfold wdA;rw[qg (qc e)]
  .unfold wdA;rw[qe (qd e)]
  .unfold wdA;rw[qe (qd e)]
 refine⟨λJ=>⟨⟨hr.a,ht.d,ht.n⟩,rfl,?_⟩,λJ=>⟨rfl,j1 _ ?_⟩⟩;.rw[aa (qc J)];refine j1 _ ?_;unfold depA;rw[qg (qc J)]
 .unfold depA;rw[qe (qd J)]
def kmb:Ct:=.gp 45 [.st 22,.st 7] [.st 22,yqi] [] λ(F:wAZ)(B:wD)=>((∃(s:PS)(c:Nat),F=mOf s/\c+B.Txs.length<=790/\PI s c 0)/\BR' B,(rapply F B).m,(rapply F B).e,())
abbrev Fz9(r:Type):=Int->Int->Int->Int->Int->Int->Int->Int->Int->Int->Int->Int->Li->Li->List wA->Int->Li->r
theorem kbs:kmb.O:=qrx Bs [73,76,83,84] Tryz.func45 (.r 5 (.nd [] (lA ⟨[3],yA1,[7,8,9],[ou,.one .any,oa],[]⟩ .no) [] (.r 4 (.rt [.frzc 180 2 14])))) x0 (kj0.c (k9w.c (kau.c c0))) (Q:=∀B F,(∃s c,B=mOf s/\c+F.Txs.length<=790/\PI s c 0)/\BR' F->∀r0,(rapply B F).m=r0->∀r1,(rapply B F).e=r1->let v2:=F.wG !=i64.wrap (B.wG+1)
iT v2 (B.wAP=r0.wAP/\B.wv=r0.wv/\B.wg=r0.wg/\B.wc=r0.wc/\B.wY=r0.wY/\B.wx=r0.wx/\B.wV=r0.wV/\B.wAB=r0.wAB/\B.wAN=r0.wAN/\B.wG=r0.wG/\B.wAO=r0.wAO/\B.wC=r0.wC/\B.wE=r0.wE/\B.wAU=r0.wAU/\B.wAL=r0.wAL/\18=r1) (iD (18446744069414584321<=F.wAM) (B.wAP=r0.wAP/\B.wv=r0.wv/\B.wg=r0.wg/\B.wc=r0.wc/\B.wY=r0.wY/\B.wx=r0.wx/\B.wV=r0.wV/\B.wAB=r0.wAB/\B.wAN=r0.wAN/\B.wG=r0.wG/\B.wAO=r0.wAO/\B.wC=r0.wC/\B.wE=r0.wE/\B.wAU=r0.wAU/\B.wAL=r0.wAL/\1=r1) (∃(I1:Fz9 Prop)(M1:Fz9 Nat),I1 0 0 B.wAP B.wv B.wg B.wc B.wY B.wx B.wV B.wAB B.wAN B.wG B.wAO B.wC B.wE B.wAU B.wAL/\∀b1 f1 i1 k1 l1 m1 n1 o1 q1 s1 t1 u1 x1 y1 b2 f2 i2,I1 b1 f1 i1 k1 l1 m1 n1 o1 q1 s1 t1 u1 x1 y1 b2 f2 i2->iF f1 F.Txs.length ((ROk (wAZ.mk i1 k1 l1 m1 n1 o1 q1 s1 t1 u1 x1 y1 b2 f2 i2)/\TR (ix F.Txs f1)/\TL (ix F.Txs f1))/\let J:=(rperf (wAZ.mk i1 k1 l1 m1 n1 o1 q1 s1 t1 u1 x1 y1 b2 f2 i2) (ix F.Txs f1)).m
let r4:Int:=(rperf (wAZ.mk i1 k1 l1 m1 n1 o1 q1 s1 t1 u1 x1 y1 b2 f2 i2) (ix F.Txs f1)).e
iT (r4 !=0) (B.wAP=r0.wAP/\B.wv=r0.wv/\B.wg=r0.wg/\B.wc=r0.wc/\B.wY=r0.wY/\B.wx=r0.wx/\B.wV=r0.wV/\B.wAB=r0.wAB/\B.wAN=r0.wAN/\B.wG=r0.wG/\B.wAO=r0.wAO/\B.wC=r0.wC/\B.wE=r0.wE/\B.wAU=r0.wAU/\B.wAL=r0.wAL/\r4=r1) (iR f1 F.Txs.length (let v5:Int:=u64.wrap (b1+(ix F.Txs f1).Fee)
I1 v5 (i64.wrap (f1+1)) J.wAP J.wv J.wg J.wc J.wY J.wx J.wV J.wAB J.wAN J.wG J.wAO J.wC J.wE J.wAU J.wAL/\M1 v5 (i64.wrap (f1+1)) J.wAP J.wv J.wg J.wc J.wY J.wx J.wV J.wAB J.wAN J.wG J.wAO J.wC J.wE J.wAU J.wAL<M1 b1 f1 i1 k1 l1 m1 n1 o1 q1 s1 t1 u1 x1 y1 b2 f2 i2))) ((OkA b2/\U64 (u64.wrap (B.wx+b1)))/\let r6:=creditA b2 F.wAM (u64.wrap (B.wx+b1))
iT (r6.2 !=0) (B.wAP=r0.wAP/\B.wv=r0.wv/\B.wg=r0.wg/\B.wc=r0.wc/\B.wY=r0.wY/\B.wx=r0.wx/\B.wV=r0.wV/\B.wAB=r0.wAB/\B.wAN=r0.wAN/\B.wG=r0.wG/\B.wAO=r0.wAO/\B.wC=r0.wC/\B.wE=r0.wE/\B.wAU=r0.wAU/\B.wAL=r0.wAL/\r6.2=r1) (iL ([]:Li) i2 8 (((0<=k1/\k1<=12)/\x1.length<=2^k1.toNat/\∀x∈x1,0<=x/\x<18446744069414584321)/\lz (([]:Li)++i2)/\lz [TT (lf x1) k1.toNat 0]/\((([]:Li)++i2).length+[TT (lf x1) k1.toNat 0].length)*8<=140737488355328/\(([]:Li)++i2).length+[TT (lf x1) k1.toNat 0].length<=maxLen/\let v7:Li:=([]:Li)++i2++[TT (lf x1) k1.toNat 0]
lz v7/\i1=r0.wAP/\k1=r0.wv/\l1=r0.wg/\m1=r0.wc/\n1=r0.wY/\o1=r0.wx/\q1=r0.wV/\s1=r0.wAB/\t1=r0.wAN/\i64.wrap (u1+1)=r0.wG/\x1=r0.wAO/\y1=r0.wC/\r6.1=r0.wE/\f2=r0.wAU/\v7=r0.wAL/\0=r1))))))<|by
 rintro B F h _ rfl _ rfl;obtain⟨⟨s,c,rfl,hc,hp⟩,hb⟩:=h;have ao:=hp.p;generalize U:rapply (mOf s) F=R;unfold rapply at U;generalize hG:rGo F.Txs (mOf s) 0=G at U;have hH:(mOf s).wG=(s.p.length:Int):=rfl;have ei:i64.wrap ((mOf s).wG+1)=(mOf s).wG+1:=by rw[hH];exact ko _ qqo qqo
 refine ?_;rw[ei];refine⟨λe=>?_,λe=>⟨λe2=>?_,λe2=>?_⟩⟩
 .have e:F.wG≠(mOf s).wG+1:=by simpa using e
  rw[qg e]at U;subst U;exact by repeat' first|apply qaa|exact rfl|exact qo
 .have e:¬F.wG≠(mOf s).wG+1:=by simpa using e
  rw[qe e,qg (qc e2)]at U;subst U;exact by repeat' first|apply qaa|exact rfl|exact qo
 have e:¬F.wG≠(mOf s).wG+1:=by simpa using e
 rw[qe e,qe (qd e2)]at U;refine⟨λfe a y0 y1 y2 y3 y4 y5 y6 y7 y8 y9 ae ag ah ai aj=>∃i:Nat,a=(i:Int)/\i<=F.Txs.length/\∃(s':PS)(c':Nat),(y0=(mOf s').wAP/\y1=(mOf s').wv/\y2=(mOf s').wg/\y3=(mOf s').wc/\y4=(mOf s').wY/\y5=(mOf s').wx/\y6=(mOf s').wV/\y7=(mOf s').wAB/\y8=(mOf s').wAN/\y9=(mOf s').wG/\ae=(mOf s').wAO/\ag=(mOf s').wC/\ah=(mOf s').wE/\ai=(mOf s').wAU/\aj=(mOf s').wAL)/\c'+(F.Txs.length-i)<=790/\PI s' c' fe/\s'.R=s.R/\rGo (F.Txs.drop i) (mOf s') fe=G,λ_ a _ _ _ _ _ _ _ _ _ _ _ _ _ _ _=>(F.Txs.length-a).toNat,⟨0,rfl,by omega,s,c,⟨rfl,rfl,rfl,rfl,rfl,rfl,rfl,rfl,rfl,rfl,rfl,rfl,rfl,rfl,rfl⟩,by omega,hp,rfl,hG⟩,?_⟩;rintro fe _ _ _ _ _ _ _ _ _ _ _ _ _ _ _ _⟨i,rfl,hi,s',c',⟨rfl,rfl,rfl,rfl,rfl,rfl,rfl,rfl,rfl,rfl,rfl,rfl,rfl,rfl,rfl⟩,aq,Z,ab,X⟩;have em:wAZ.mk (mOf s').wAP (mOf s').wv (mOf s').wg (mOf s').wc (mOf s').wY (mOf s').wx (mOf s').wV (mOf s').wAB (mOf s').wAN (mOf s').wG (mOf s').wAO (mOf s').wC (mOf s').wE (mOf s').wAU (mOf s').wAL=mOf s':=rfl;have aa:=Z.rok qqo;refine⟨λY=>?_,λY=>?_⟩
 .have Y:i<F.Txs.length:=by have:=qc Y;omega
  have ht:=hb.t _ (qz Y);have hl:=hb.l _ (qz Y);rw[qbb Y]at X;unfold rGo at X;rw[ix_get _ _ Y,inc_i64 _ qqo,em];refine⟨by omega,by omega,⟨aa,ht,hl⟩,λM=>?_,λM=>?_⟩
  .have M:(rperf (mOf s') F.Txs[i]).e≠0:=by simpa using M
   rw[qg M]at X;subst X;simp only at U;rw[qg M]at U;subst U;exact by repeat' first|apply qaa|exact rfl|exact qo
  .have M:(rperf (mOf s') F.Txs[i]).e=0:=by simpa using M
   rw[qe λhh=>hh M]at X;have ac:chkS s' F.Txs[i]=0:=by rw[<-rchk_eq];refine qad λhn=>?_;unfold rperf at M;rw[qg hn]at M;exact hn M
   have k:=k9l ac;obtain⟨g1,g2⟩:=kow ac;rw[g1]at M;have g2:=g2 M;have h9:=(Z.perf qqo ht k).2.2 M;rw[kdz Z qqo ht k]at X⊢;rw[g2]at X⊢;exact⟨by omega,by omega,⟨i+1,rfl,by omega,(perfS s' F.Txs[i]).s,c'+1,⟨rfl,rfl,rfl,rfl,rfl,rfl,rfl,rfl,rfl,rfl,rfl,rfl,rfl,rfl,rfl⟩,by omega,h9,(kky s' F.Txs[i]).1.trans ab,X⟩,by(dsimp only;omega)⟩
 .have Y:i=F.Txs.length:=by have:=qd Y;omega
  subst Y;rw[qfr]at X;unfold rGo at X;subst X;have hw:=kei (x:=⟨0,s',[],fe⟩) Z qqo;simp only at hw;have ad:(mOf s).wx=s'.R.wZ:=by rw[ab];rfl
  rw[ad]at U⊢;unfold rcr at U;simp only at U;rw[qe λhh=>hh rfl]at U;have au:=Z.p;have aw:=Z.rl;have ak:=Z.b.1;have am:(mOf s').wAL.length<=1000000:=aa.rl;refine⟨⟨ak,?_⟩,λM=>?_,λM=>?_⟩;.rw[hw.1];exact hw.2
  .have M:(creditA (mOf s').wE F.wAM (u64.wrap (s'.R.wZ+fe))).2≠0:=by simpa using M
   rw[qg M]at U;subst U;rw[<-ad];exact by repeat' first|apply qaa|exact rfl|exact qo
  .have M:(creditA (mOf s').wE F.wAM (u64.wrap (s'.R.wZ+fe))).2=0:=by simpa using M
   rw[qe λhh=>hh M]at U;have eh:i64.wrap ((mOf s').wG+1)=(mOf s').wG+1:=by show i64.wrap ((s'.p.length:Int)+1)=(s'.p.length:Int)+1;exact ko _ qqo qqo
   have ax:=aa.d1;have al:=aa.d2;rw[eh];simp only[qcd];subst U;refine⟨by first|exact rfl|exact qo,?_,?_,⟨⟨by omega,al⟩,Z.ll,Z.l⟩,by first|exact rfl|exact qo,by first|exact rfl|exact qo,?_,?_,by repeat' first|apply qaa|exact rfl|exact qo⟩;all_goals simp only[qx,qan]
   all_goals first|omega|(unfold maxLen;omega)
def krp:Ct:=.gp 51 [.st 6] [.st 22] [] λ(B:wF)=>(rulesE B=0,mOf (newS B),())
theorem ksp:krp.O:=qrv Bs Tryz.func51 .no (kau.c c0) (Q:=∀B,rulesE B=0->∀r0,mOf (newS B)=r0->((0<=B.wH/\B.wH<=12)/\([]:Li).length<=2^B.wH.toNat/\∀x∈([]:Li),0<=x/\x<18446744069414584321)/\let J:=TT (lf []) B.wH.toNat 0
B.wd=r0.wAP/\B.wH=r0.wv/\B.wS=r0.wg/\B.wO=r0.wc/\B.wM=r0.wY/\B.wZ=r0.wx/\B.wt=r0.wV/\B.wW=r0.wAB/\B.wU=r0.wAN/\0=r0.wG/\[]=r0.wAO/\[]=r0.wC/\[]=r0.wE/\0=r0.wAU/\[J]=r0.wAL)<|by
 rintro B h _ rfl;have F:rulesB B=true:=by cases F:rulesB B with
  |true=>rfl|false=>unfold rulesE at h;rw[F]at h;cases h
 have M:1<=B.wH/\B.wH<=12:=by simp only[rulesB,qh,qy]at F;omega
 have U:=k6p (d:=B.wH) (l:=[]) qqo (qbf _);refine⟨⟨by omega,qbf _,λx X=>by cases X⟩,?_⟩;rw[<-U];exact by repeat' first|apply qaa|exact rfl|exact qo
def kr1:Ct:=.g ⟨43,[.agg [.d .bool,zqu,zqi,.d (.sl (.st 0)),.d (.sl (.st 1)),.d (.sl (.st 1)),zqi,zqi,zqi,zqi,zqi,zqu,zqi,zqi,zqu,.d (.sl (.st 4)),zqi,zqi],oa],[],.one oh,[.vec yqi],false⟩ [.st 5,yqi] [.sl yqi] [] λ(B:ww)(F:Int)=>(WO B.L/\F<B.L.length/\B.L.length<=1000,wyM B.L F,())
theorem kt2:kr1.O:=rec_ok (μ:=λ(F:ww)(B:Int)=>(B+1).toNat) (cal Tryz.func43 qqk) λM X=>prx Bs [16,17] Tryz.func43 (rA 0 (rA 0 (.r 0 (.rt [.rnil 4 yqi])))) x0 (X.c c0) (Q:=∀(F:ww)(B:Int),(WO F.L/\B<(F.L.length:Int)/\F.L.length<=1000)/\(B+1).toNat<M+1->∀e0:Li,wyM F.L B=e0->iD (B<0) (0=([]:Li).length/\([]:Li)=e0) (iR B F.L.length (((WO F.L/\(ix F.L B).wP<(F.L.length:Int)/\F.L.length<=1000)/\((ix F.L B).wP+1).toNat<M)/\lz (wyM F.L (ix F.L B).wP)/\lz [B]/\((wyM F.L (ix F.L B).wP).length+[B].length)*8<=140737488355328/\(wyM F.L (ix F.L B).wP).length+[B].length<=maxLen/\lz (wyM F.L (ix F.L B).wP++[B])/\wyM F.L (ix F.L B).wP++[B]=e0)))<|by
 rintro F B⟨h,U⟩_ rfl;replace U:=Nat.lt_succ_iff.1 U;obtain⟨J,hi,Y⟩:=h;refine⟨λe=>?_,λe=>?_⟩;.have e:=qc e;exact⟨rfl,(wyM_neg e).symm⟩
 .have e:=qd e;have Z:=J B.toNat qqo;rw[show((B.toNat:Nat):Int)=B by omega]at Z;have hl:=(wyM_len J F.L.length (ix F.L B).wP qqo qqo).1;have h1:[B].length=1:=rfl;exact⟨by omega,by omega,⟨⟨J,by omega,Y⟩,by omega⟩,rfl,rfl,by omega,by unfold maxLen;omega,rfl,(wyM_pos J qqo hi).symm⟩
def klg:Ct:=.gp 43 [.st 5,yqi] [.sl yqi] [] λ(B:ww)(F:Int)=>(WO B.L/\F<B.L.length/\B.L.length<=1000,wyM B.L F,())
theorem kc0:klg.O:=qrx Bs [16,17] Tryz.func43 (.r 2 (.rt [.frz 161 [4]])) x0 (kt2.c c0) (Q:=∀(B:ww)(F:Int),WO B.L/\F<(B.L.length:Int)/\B.L.length<=1000->∀r0:Li,wyM B.L F=r0->iD (F<0) (([]:Li)=r0) (iR F B.L.length ((WO B.L/\(ix B.L F).wP<(B.L.length:Int)/\B.L.length<=1000)/\lz (wyM B.L (ix B.L F).wP)/\lz [F]/\((wyM B.L (ix B.L F).wP).length+[F].length)*8<=140737488355328/\(wyM B.L (ix B.L F).wP).length+[F].length<=maxLen/\lz (wyM B.L (ix B.L F).wP++[F])/\wyM B.L (ix B.L F).wP++[F]=r0)))<|by
 rintro B F h _ rfl;obtain⟨J,hi,M⟩:=h;refine⟨λe=>?_,λe=>?_⟩;.have e:=qc e;exact(wyM_neg e).symm
 .have e:=qd e;have U:=J F.toNat qqo;rw[show((F.toNat:Nat):Int)=F by omega]at U;have X:=(wyM_len J B.L.length (ix B.L F).wP qqo qqo).1;have h1:[F].length=1:=rfl;exact⟨by omega,by omega,⟨J,by omega,M⟩,rfl,rfl,by omega,by unfold maxLen;omega,rfl,(wyM_pos J qqo hi).symm⟩
def klk:Ct:=.gp 15 [.st 5,yqi] [.st 22] [] λ(B:ww)(F:Int)=>((rulesE (rM B)=0/\0<=B.wAT)/\WO B.L/\F<B.L.length/\B.L.length<=100/\(∀b∈bksM B.L (wyM B.L F),BR' b/\b.Txs.length<=4)/\(auGo (bksM B.L (wyM B.L F)) (newS (rM B))).e=0,mOf (auGo (bksM B.L (wyM B.L F)) (newS (rM B))).s,())
theorem kb7:klk.O:=qrv Bs Tryz.func15 (rA 2 (lA ⟨[2],yA1,[7],[oa],[]⟩ .no)) (ksp.c (kc0.c (kbs.c c0))) (Q:=∀B F,(rulesE (rM B)=0/\0<=B.wAT)/\WO B.L/\F<(B.L.length:Int)/\B.L.length<=100/\(∀b∈bksM B.L (wyM B.L F),BR' b/\b.Txs.length<=4)/\(auGo (bksM B.L (wyM B.L F)) (newS (rM B))).e=0->∀r0,mOf (auGo (bksM B.L (wyM B.L F)) (newS (rM B))).s=r0->rulesE (wF.mk B.wAs B.wAn B.wAI B.wAE B.wAA B.wAT B.wAe B.wz B.wAo)=0/\let M:=mOf (newS (wF.mk B.wAs B.wAn B.wAI B.wAE B.wAA B.wAT B.wAe B.wz B.wAo))
(WO B.L/\F<B.L.length/\B.L.length<=1000)/\∃(Z:Fz7 Prop)(M1:Fz7 Nat),Z 0 M.wAP M.wv M.wg M.wc M.wY M.wx M.wV M.wAB M.wAN M.wG M.wAO M.wC M.wE M.wAU M.wAL/\∀b1 f1 i1 k1 l1 m1 n1 o1 q1 s1 t1 u1 x1 y1 U X,Z b1 f1 i1 k1 l1 m1 n1 o1 q1 s1 t1 u1 x1 y1 U X->let v2:Bool:=decide (b1<((wyM B.L F).length:Int))
iT v2 (iR b1 (wyM B.L F).length (0<=ix (wyM B.L F) b1/\ix (wyM B.L F) b1<(B.L.length:Int)/\((∃(s:PS)(c:Nat),wAZ.mk f1 i1 k1 l1 m1 n1 o1 q1 s1 t1 u1 x1 y1 U X=mOf s/\c+(wD.mk (ix B.L (ix (wyM B.L F) b1)).wBQ (ix B.L (ix (wyM B.L F) b1)).wBE (ix B.L (ix (wyM B.L F) b1)).wBT (ix B.L (ix (wyM B.L F) b1)).wBZ (ix B.L (ix (wyM B.L F) b1)).wBS (ix B.L (ix (wyM B.L F) b1)).wBa).Txs.length<=790/\PI s c 0)/\BR' (wD.mk (ix B.L (ix (wyM B.L F) b1)).wBQ (ix B.L (ix (wyM B.L F) b1)).wBE (ix B.L (ix (wyM B.L F) b1)).wBT (ix B.L (ix (wyM B.L F) b1)).wBZ (ix B.L (ix (wyM B.L F) b1)).wBS (ix B.L (ix (wyM B.L F) b1)).wBa))/\let J:=(rapply (wAZ.mk f1 i1 k1 l1 m1 n1 o1 q1 s1 t1 u1 x1 y1 U X) (wD.mk (ix B.L (ix (wyM B.L F) b1)).wBQ (ix B.L (ix (wyM B.L F) b1)).wBE (ix B.L (ix (wyM B.L F) b1)).wBT (ix B.L (ix (wyM B.L F) b1)).wBZ (ix B.L (ix (wyM B.L F) b1)).wBS (ix B.L (ix (wyM B.L F) b1)).wBa)).m
let r4:Int:=(rapply (wAZ.mk f1 i1 k1 l1 m1 n1 o1 q1 s1 t1 u1 x1 y1 U X) (wD.mk (ix B.L (ix (wyM B.L F) b1)).wBQ (ix B.L (ix (wyM B.L F) b1)).wBE (ix B.L (ix (wyM B.L F) b1)).wBT (ix B.L (ix (wyM B.L F) b1)).wBZ (ix B.L (ix (wyM B.L F) b1)).wBS (ix B.L (ix (wyM B.L F) b1)).wBa)).e
Z (i64.wrap (b1+1)) J.wAP J.wv J.wg J.wc J.wY J.wx J.wV J.wAB J.wAN J.wG J.wAO J.wC J.wE J.wAU J.wAL/\M1 (i64.wrap (b1+1)) J.wAP J.wv J.wg J.wc J.wY J.wx J.wV J.wAB J.wAN J.wG J.wAO J.wC J.wE J.wAU J.wAL<M1 b1 f1 i1 k1 l1 m1 n1 o1 q1 s1 t1 u1 x1 y1 U X)) (f1=r0.wAP/\i1=r0.wv/\k1=r0.wg/\l1=r0.wc/\m1=r0.wY/\n1=r0.wx/\o1=r0.wV/\q1=r0.wAB/\s1=r0.wAN/\t1=r0.wG/\u1=r0.wAO/\x1=r0.wC/\y1=r0.wE/\U=r0.wAU/\X=r0.wAL))<|by
 rintro B F h _ rfl;obtain⟨⟨hr,hw⟩,hL,hi,hn,hB,he⟩:=h;obtain⟨ab,aa⟩:=wyM_len hL B.L.length F hi qqo;generalize wyM B.L F=W at*;have hP:=new_PI hr hw;have ac:(bksM B.L W).length=W.length:=qp ..;refine⟨hr,⟨hL,hi,by omega⟩,?_⟩;refine⟨λb f i k l m n o q s t u x y U X=>∃j:Nat,b=(j:Int)/\j<=W.length/\wAZ.mk f i k l m n o q s t u x y U X=mOf (auGo ((bksM B.L W).take j) (newS (rM B))).s,λb _ _ _ _ _ _ _ _ _ _ _ _ _ _ _=>(W.length-b).toNat,⟨0,rfl,qbf _,rfl⟩,?_⟩;rintro _ f i k l m n o q s t u x y U X⟨j,rfl,g1,g2⟩;have hk:=k6u (bksM B.L W) (newS (rM B)) j he;have ad:((bksM B.L W).take j).length=j:=by rw[qu];omega
 have key:=auGo_PI ((bksM B.L W).take j) (newS (rM B)) 0 hP (λb hb=>(hB b (qba hb)).1) (λb hb=>(hB b (qba hb)).2) qqo hk;refine⟨λe=>?_,λe=>?_⟩
 .have e:j<W.length:=by have:=qc e;omega
  have hx:=aa _ (qz e);have Y:(bksM B.L W)[j]' qqo=bkM (ix B.L W[j]):=List.getElem_map ..;have hm:=hB _ (qz (l:=bksM B.L W) (n:=j) qqo);rw[Y]at hm;have hA:=kkg key.1 (b:=bkM (ix B.L W[j])) qqo hm.1;have hs:=(k73 he (n:=j) qqo).2;rw[Y]at hs;rw[ix_get _ _ e,inc_i64 _ qqo,g2];refine⟨by omega,by omega,hx.1,hx.2,⟨⟨_,_,rfl,by show _+(bkM (ix B.L W[j])).Txs.length<=_;omega,key.1⟩,hm.1⟩,?_⟩;refine⟨⟨j+1,rfl,by omega,?_⟩,by(dsimp only;omega)⟩;rw[hs];exact congrArg RE.m hA
 .have e:j=W.length:=by have:=qd e;omega
  subst e;rw[ql qqo]at g2;rw[<-g2];exact by repeat' first|apply qaa|exact rfl
def kn2:Ct:=.gp 90 [oA] [oq] [] λ(B:Li)=>(By B/\B.length<=1099511627776,packS B,())
theorem kqk:kn2.O:=qrx Bs [10,21,22] Tryz.func90 (.r 1 (.nd [] (lA ⟨[],[.vec yqu],[3,4],[oh,oa],[0]⟩ (rA 0 (.jn ⟨[],[.vec yqu],[3],[oh],[0,1]⟩ [] .no [] (rA 0 (lA (oB [5,6] [ou,oa]) .no))))) [] (.r 0 (.rt [.frz 1 [2]])))) x0 c0 (Q:=∀B,By B/\B.length<=1099511627776->∀r0,packS B=r0->lz [u64.wrap B.length]/\∃I1 M1,I1 0 [u64.wrap B.length]/\∀b1 f1,I1 b1 f1->iD (b1<(B.length:Int)) (∀X:oR,(∀F,iR b1 B.length (∃I2 M2,I2 (u64.wrap (ix B b1)) 0/\∀k1 l1,I2 k1 l1->iD (l1<Int.tmod b1 7) (ss2 I2 M2 k1 (u64.wrap (k1*256)) l1 (i64.wrap (l1+1))) ((0<=i64.wrap (F.length-1)/\i64.wrap (F.length-1)<(F.length:Int))/\(0<=i64.wrap ((F.length:Int)-1)/\i64.wrap ((F.length:Int)-1)<(F.length:Int))/\let v1:Int:=ix F (i64.wrap ((F.length:Int)-1))
(0<=i64.wrap ((F.length:Int)-1)/\i64.wrap ((F.length:Int)-1)<(F.length:Int))/\(0<=i64.wrap ((F.length:Int)-1)/\i64.wrap ((F.length:Int)-1)<(F.length:Int))/\F.length=(F.set (i64.wrap ((F.length:Int)-1)).toNat (u64.wrap (v1+k1))).length/\ss2 I1 M1 b1 (i64.wrap (b1+1)) f1 (F.set (i64.wrap ((F.length:Int)-1)).toNat (u64.wrap (v1+k1)))))->X F)->iT (Int.tmod b1 7==0) (lz f1/\lz [0]/\(f1.length+[0].length)*8<=140737488355328/\f1.length+[0].length<=maxLen/\lz (f1++[0])/\X (f1++[0])) (lz f1/\X f1)) (lz f1/\f1=r0))<|by
 rintro B h _ rfl;obtain⟨hb,hl⟩:=h;have e0:u64.wrap (B.length:Int)=B.length:=wu _ qqo qqo;rw[e0];refine⟨rfl,?_⟩;refine⟨λi g=>0<=i/\i<=B.length/\g=(B.length:Int)::pkI B i.toNat,λi _=>(B.length-i).toNat,⟨by omega,by omega,by rw[show(0:Int).toNat=0 from rfl,kuv]⟩,?_⟩;rintro i g⟨Z,g1,rfl⟩;have ae:=krq B i.toNat;have em:Int.tmod i 7=i%7:=tmod_nn _ _ Z;refine⟨λJ X aa=>?_,λJ=>?_⟩
 .have J:=qc J;have rest:X ((B.length:Int)::(pkF B i.toNat++[if i.toNat%7=0 then 0 else pkV B i.toNat])):=by
   have ag:=hb _ (ix_mem B i Z J);have hF:=khw B i.toNat;refine aa _ ⟨Z,J,?_⟩;rw[wu (ix B i) qqo qqo];have Y:∀k:Nat,k<=6->(256:Int)^k<=281474976710656:=λk hk=>k2k (m:=6) hk;refine⟨λn k=>0<=k/\k<=i%7/\n=256^k.toNat*ix B i,λ_ k=>(i%7-k).toNat,⟨by omega,by omega,by rw[show(0:Int).toNat=0 from rfl,Int.pow_zero,Int.one_mul]⟩,?_⟩;rintro n k⟨k0,k1,rfl⟩;have ab:=Y k.toNat qqo;have ah:=k1l k.toNat;have ai:256^k.toNat*ix B i<=281474976710656*255:=qdx ab qqo qqo qqo;have aj:0<=256^k.toNat*ix B i:=qcx qqo qqo;refine⟨λM=>?_,λM=>?_⟩;.have M:=qc M;rw[em]at M;rw[wi (k+1) qqo qqo,wu _ qqo qqo];refine⟨⟨by omega,by omega,?_⟩,by(dsimp only;omega)⟩;rw[show(k+1).toNat=k.toNat+1 by omega,k2g,qei,Int.mul_assoc]
   .have M:=qd M;rw[em]at M;have hk:k.toNat=i.toNat%7:=by omega
    have ac:(((B.length:Int)::(pkF B i.toNat++[if i.toNat%7=0 then 0 else pkV B i.toNat])).length:Int)=(pkF B i.toNat).length+2:=by simp;omega
    have ad:ix ((B.length:Int)::(pkF B i.toNat++[if i.toNat%7=0 then 0 else pkV B i.toNat])) ((pkF B i.toNat).length+1)=if i.toNat%7=0 then 0 else pkV B i.toNat:=by
     rw[ix_nat _ _ qqo qqo];have:((pkF B i.toNat).length+1:Int).toNat=(pkF B i.toNat).length+1:=by omega
     simp[this]
    have hv:=kts hb i.toNat;have ak:(256:Int)^(i.toNat%7)<=281474976710656:=Y _ qqo;rw[ac,show((pkF B i.toNat).length:Int)+2-1=(pkF B i.toNat).length+1 by omega,wi ((pkF B i.toNat).length+1) qqo qqo];dsimp only;have e5:((pkF B i.toNat).length+1:Int).toNat=(pkF B i.toNat).length+1:=by omega
    have e6:(i+1).toNat=i.toNat+1:=by omega
    refine⟨⟨by omega,by omega⟩,⟨by omega,by omega⟩,⟨by omega,by omega⟩,⟨by omega,by omega⟩,by rw[qab],?_⟩;rw[ad,wi (i+1) qqo qqo,wu _ (by split<;>omega) (by split<;>omega)];refine⟨⟨by omega,by omega,?_⟩,by(first|omega|(dsimp only;omega))⟩;rw[e6,kuy qqo,e5,List.set_cons_succ,kv3,hk,ix_nat B i Z J]
  refine⟨λU=>?_,λU=>?_⟩
  .have U:i%7=0:=by rw[em]at U;simpa using U
   have e1:pkI B i.toNat=pkF B i.toNat:=qg qqo;have e2:(if i.toNat%7=0 then(0:Int)else pkV B i.toNat)=0:=qg qqo;rw[e2]at rest;refine⟨rfl,rfl,by simp;omega,by simp;unfold maxLen;omega,rfl,?_⟩;rw[List.cons_append,e1];exact rest
  .have U:¬i%7=0:=by rw[em]at U;simpa using U
   have e1:pkI B i.toNat=pkF B i.toNat++[pkV B i.toNat]:=qe qqo;have e2:(if i.toNat%7=0 then(0:Int)else pkV B i.toNat)=pkV B i.toNat:=qe qqo;rw[e2]at rest;refine⟨rfl,?_⟩;rw[e1];exact rest
 .have J:=qd J;refine⟨rfl,?_⟩;rw[show i.toNat=B.length by omega,kww];rfl
def kcy:Ct:=.gp 58 [yqu,oA] [yqu] [] λ(F:Int)(B:Li)=>(U64 F/\By B/\B.length<=1099511627775,hashB F B,())
theorem k32:kcy.O:=qrv Bs Tryz.func58 .no (kqk.c (k1m.c c0)) (Q:=∀F B,U64 F/\By B/\B.length<=1099511627775->∀r0,hashB F B=r0->(By B/\B.length<=1099511627776)/\((18446744069414584321:Int)=18446744069414584321/\U64 F/\Us (packS B)/\(packS B).length<=1099511627776)/\hashS F (packS B)=r0)<|by
 rintro F B h _ rfl;obtain⟨h1,M,U⟩:=h;refine⟨⟨M,by omega⟩,⟨rfl,h1,?_,?_⟩,rfl⟩
 .intro x J;rcases qak.1 J with rfl|J;.omega
  .exact kek _ _ M x J
 .have:=k3u B.length B;simp only[packS,qx];omega
def kmu:Ct:=.gp 96 [oA] [oA] [] λ(B:Li)=>(B.length<=4294967295,encB B,())
theorem ko2:kmu.O:=qrv Bs Tryz.func96 .no (k6e.c c0) (Q:=∀B,B.length<=4294967295->∀r0,encB B=r0->lz (dig 4 (len4 B.length))/\((dig 4 (len4 B.length)).length+B.length)*1<=140737488355328/\(dig 4 (len4 B.length)).length+B.length<=maxLen/\dig 4 (len4 B.length)++B=r0)<|by
 rintro B h _ rfl;refine⟨by trivial,?_,?_,rfl⟩;.simp;omega
 .simp;unfold maxLen;omega
def krc:Ct:=.tp 47 [yqi] [oA] [] λ(B:Int)=>(dig 4 (len4 B),())
theorem khj:krc.O:=qtv Bs Tryz.func47 (.r 0 (.jn (oB [0] [oa]) [] .no [] .no)) (k31.c c0) (Q:=∀B,∀r0,dig 4 (len4 B)=r0->∀F:oD,(∀J,((U64 (u64.wrap J)/\0<=(4:Int)/\(4:Int)<=8)/\let M:=dig (4:Int).toNat (u64.wrap J)
M=r0)->F J)->iD (B<0) (F 0) (iD (4294967296<=B) (F 0) (F B)))<|by
 rintro B _ rfl;intro F U;have j:∀n,0<=n->n<=4294967295->len4 B=n->F n:=by intro n X h1 e;refine U _ ?_;rw[wu n qqo qqo,e];exact⟨by omega,rfl⟩
 refine⟨λh=>j 0 qqo qqo ?_,λh=>⟨λh'=>j 0 qqo qqo ?_,λh'=>j B ?_ ?_ ?_⟩⟩;.have h:=qc h;exact qg (.inl h)
 .have h':=qc h';exact qg (.inr qqo)
 .have h:=qd h;omega
 .have h':=qd h';omega
 .have h:=qd h;have h':=qd h';exact len4_in (by omega)
def kl8:Ct:=.gp 62 [.st 3] [oA] [] λ(B:wh)=>(TR B/\TL B/\B.wB.length<=1048576/\∀x∈B.wB,x.wm.length<=1024,encT B B.wAH,())
theorem k3j:kl8.O:=qrv Bs Tryz.func62 (.r 3 (.nd [] (lA ⟨[1],[.tip yqb],[3,4],[og,oa],[]⟩ (rA 0 (rA 1 (lA ⟨[1],[.tip yqb],[3,7],[og,oa],[]⟩ .no)))) [] (rA 0 (lA ⟨[1],[.tip yqb],[3,9],[og,oa],[]⟩ .no)))) (k3p.c (kdv.c (khj.c (ko2.c c0)))) (Q:=∀F,TR F/\TL F/\F.wB.length<=1048576/\(∀x∈F.wB,x.wm.length<=1024)->∀r0,encT F F.wAH=r0->(U64 F.wX/\0<=(8:Int)/\(8:Int)<=8)/\(Us F.wC/\F.wC.length<=4294967295)/\iL (dig (8:Int).toNat F.wX) (encL F.wC) 1 (let v1:Li:=dig (8:Int).toNat F.wX++encL F.wC
lz v1/\(v1.length+(dig 4 (len4 (F.wB.length:Int))).length)*1<=140737488355328/\v1.length+(dig 4 (len4 (F.wB.length:Int))).length<=maxLen/\let v2:Li:=v1++dig 4 (len4 (F.wB.length:Int))
v2=v2/\∃(I1:oH)(M1:oJ),I1 0 v2/\∀b1 f1,I1 b1 f1->iF b1 F.wB.length (let v3:Li:=[(ix F.wB b1).wl,(ix F.wB b1).wAY,(ix F.wB b1).wAV]
f1=f1/\∃(I2:oH)(M2:oJ),I2 0 f1/\∀i1 k1,I2 i1 k1->iF i1 v3.length ((U64 (ix v3 i1)/\0<=(8:Int)/\(8:Int)<=8)/\iL k1 (dig (8:Int).toNat (ix v3 i1)) 1 (k1++dig (8:Int).toNat (ix v3 i1)=k1++dig (8:Int).toNat (ix v3 i1)/\ss2 I2 M2 i1 (i64.wrap (i1+1)) k1 (k1++dig (8:Int).toNat (ix v3 i1)))) ((Us (ix F.wB b1).wm/\((ix F.wB b1).wm).length<=4294967295)/\lz k1/\(k1.length+(encL (ix F.wB b1).wm).length)*1<=140737488355328/\k1.length+(encL (ix F.wB b1).wm).length<=maxLen/\k1++encL (ix F.wB b1).wm=k1++encL (ix F.wB b1).wm/\ss2 I1 M1 b1 (i64.wrap (b1+1)) f1 (k1++encL (ix F.wB b1).wm))) (f1=f1/\∃(I3:oH)(M3:oJ),I3 0 f1/\∀l1 m1,I3 l1 m1->let v4:Int:=([F.wJ,F.wL,F.Fee,F.wQ,F.wK].length:Int)
iD (l1<v4) (0<=l1/\l1<([F.wJ,F.wL,F.Fee,F.wQ,F.wK].length:Int)/\let v5:Int:=ix [F.wJ,F.wL,F.Fee,F.wQ,F.wK] l1
(U64 v5/\0<=(8:Int)/\(8:Int)<=8)/\iL m1 (dig (8:Int).toNat v5) 1 (m1++dig (8:Int).toNat v5=m1++dig (8:Int).toNat v5/\ss2 I3 M3 l1 (i64.wrap (l1+1)) m1 (m1++dig (8:Int).toNat v5))) (iL m1 (dig 4 (len4 F.wAG)) 1 (F.wAH.length<=4294967295/\lz (m1++dig 4 (len4 F.wAG))/\((m1++dig 4 (len4 F.wAG)).length+(encB F.wAH).length)*1<=140737488355328/\(m1++dig 4 (len4 F.wAG)).length+(encB F.wAH).length<=maxLen/\let v6:Li:=m1++dig 4 (len4 F.wAG)++encB F.wAH
v6=r0)))))<|by
 rintro F h _ rfl;obtain⟨U,hl,ho,hc⟩:=h;have hm:=hl.m;have ac:=hl.p;refine⟨⟨U.a,by omega⟩,⟨U.m,hm⟩,rfl,?_,?_,rfl,?_,?_,rfl,?_⟩;.simp;omega
 .simp;unfold maxLen;omega
 .simp;omega
 .simp;unfold maxLen;omega
 have hb:=λi:Int=>k22 (F.wB.take i.toNat) 1024 λx hx=>hc x (qba hx);have hb:∀i:Int,((F.wB.take i.toNat).flatMap encO).length<=8700000000:=by
  intro i;have:=hb i;rw[qu]at this;refine qbd this ?_;have:min i.toNat F.wB.length<=1048576:=by omega
  have:=Nat.mul_le_mul_left (28+8*1024) this;omega
 have ae:(dig 8 F.wX++encL F.wC++dig 4 (len4 F.wB.length)).length<=40000000000:=by simp;omega
 generalize hP:dig 8 F.wX++encL F.wC++dig 4 (len4 F.wB.length)=P at*;refine⟨λi g=>0<=i/\i<=F.wB.length/\g=P++(F.wB.take i.toNat).flatMap encO,λi _=>(F.wB.length-i).toNat,⟨by omega,by omega,by rw[<-hP];simp⟩,?_⟩;rintro i g⟨g0,g1,rfl⟩;have ag:=hb i;generalize hB:P++(F.wB.take i.toNat).flatMap encO=B at*;have ah:B.length<=50000000000:=by rw[<-hB,qi];omega
 refine⟨λh=>?_,λh=>?_⟩
 .have h:=qc h;have hx:=U.o _ (ix_mem F.wB i g0 h);have ai:=hc _ (ix_mem F.wB i g0 h);refine⟨g0,h,rfl,?_⟩;refine⟨λk g=>0<=k/\k<=3/\g=B++([(ix F.wB i).wl,(ix F.wB i).wAY,(ix F.wB i).wAV].take k.toNat).flatMap (dig 8),λk _=>(3-k).toNat,⟨by omega,by omega,by simp⟩,?_⟩;rintro k g⟨k0,k1,rfl⟩;have Y:Us [(ix F.wB i).wl,(ix F.wB i).wAY,(ix F.wB i).wAV]:=by
   intro x M;simp only[qak,qcv,or_false]at M;rcases M with rfl|rfl|rfl;.exact hx.c
   .exact hx.p0
   .exact hx.p1
  have ad:([(ix F.wB i).wl,(ix F.wB i).wAY,(ix F.wB i).wAV].length:Int)=3:=rfl;generalize Z:[(ix F.wB i).wl,(ix F.wB i).wAY,(ix F.wB i).wAV]=X at*;have aa:(B++(X.take k.toNat).flatMap (dig 8)).length<=50000000024:=by simp only[qi,ku,qu];omega
  refine⟨λJ=>?_,λJ=>?_⟩
  .have J:=qc J;rw[inc k 3 k0 qqo qqo];refine⟨k0,J,⟨Y _ (ix_mem X k k0 J),by omega⟩,rfl,?_,?_,rfl,⟨by omega,by omega,?_⟩,by(dsimp only;omega)⟩;.rw[ke];omega
   .rw[ke];unfold maxLen;omega
   .rw[kg X k k0 J,qbp,qn];simp
  .have J:=qd J;rw[ql qqo]at aa⊢;have hi:=inc i F.wB.length g0 h qqo;rw[hi];have ab:(0<=i+1/\i+1<=F.wB.length/\B++X.flatMap (dig 8)++encL (ix F.wB i).wm=P++(F.wB.take (i+1).toNat).flatMap encO)/\(F.wB.length-(i+1)).toNat<(F.wB.length-i).toNat:=by refine⟨⟨by omega,by omega,?_⟩,by(first|omega|(dsimp only;omega))⟩;rw[kg F.wB i g0 h,qbp,<-qn,hB,<-Z];simp[encO,qn]
   refine⟨⟨hx.ci,by omega⟩,rfl,?_,?_,rfl,ab.1,ab.2⟩;.rw[km];omega
   .rw[km];unfold maxLen;omega
 .have h:=qd h;refine⟨rfl,?_⟩;have Y:Us [F.wJ,F.wL,F.Fee,F.wQ,F.wK]:=by
   intro x M;simp only[qak,qcv,or_false]at M;rcases M with rfl|rfl|rfl|rfl|rfl;.exact U.d
   .exact U.w
   .exact U.f
   .exact U.ac
   .exact U.n
  have ad:([F.wJ,F.wL,F.Fee,F.wQ,F.wK].length:Int)=5:=rfl;refine⟨λk g=>0<=k/\k<=5/\g=B++([F.wJ,F.wL,F.Fee,F.wQ,F.wK].take k.toNat).flatMap (dig 8),λk _=>(5-k).toNat,⟨by omega,by omega,by simp⟩,?_⟩;rintro k g⟨k0,k1,rfl⟩;generalize Z:[F.wJ,F.wL,F.Fee,F.wQ,F.wK]=X at*;have aa:(B++(X.take k.toNat).flatMap (dig 8)).length<=50000000040:=by simp only[qi,ku,qu];omega
  refine⟨λJ=>?_,λJ=>?_⟩
  .have J:=qc J;rw[inc k 5 k0 qqo qqo];refine⟨k0,J,⟨Y _ (ix_mem X k k0 J),by omega⟩,rfl,?_,?_,rfl,⟨by omega,by omega,?_⟩,by(dsimp only;omega)⟩;.rw[ke];omega
   .rw[ke];unfold maxLen;omega
   .rw[kg X k k0 J,qbp,qn];simp
  .have J:=qd J;rw[ql qqo]at aa⊢;refine⟨rfl,?_,?_,ac,by trivial,?_,?_,?_⟩;.rw[ke];omega
   .rw[ke];unfold maxLen;omega
   .rw[qi,ke,k77];omega
   .rw[qi,ke,k77];unfold maxLen;omega
   .rw[<-hB,<-Z,<-hP,ql qqo];simp[encT,qn]
def ko5:Ct:=.gp 127 [.st 3] [yqu] [] λ(B:wh)=>(TR B/\TL B,bindS B,())
theorem kre:ko5.O:=qrv Bs Tryz.func127 .no (k1s.c (k3j.c (k32.c c0))) (Q:=∀B,TR B/\TL B->∀r0,bindS B=r0->(TR B/\TL B)/\iT (validE B !=0) (0=r0) ((TR (wh.mk B.wX B.wC B.wB B.wJ B.wL B.Fee B.wQ B.wK B.wAG [])/\TL (wh.mk B.wX B.wC B.wB B.wJ B.wL B.Fee B.wQ B.wK B.wAG [])/\(wh.mk B.wX B.wC B.wB B.wJ B.wL B.Fee B.wQ B.wK B.wAG []).wB.length<=1048576/\∀x∈(wh.mk B.wX B.wC B.wB B.wJ B.wL B.Fee B.wQ B.wK B.wAG []).wB,x.wm.length<=1024)/\let M:=encT (wh.mk B.wX B.wC B.wB B.wJ B.wL B.Fee B.wQ B.wK B.wAG []) (wh.mk B.wX B.wC B.wB B.wJ B.wL B.Fee B.wQ B.wK B.wAG []).wAH
(U64 13/\By M/\M.length<=1099511627775)/\hashB 13 M=r0))<|by
 rintro B h _ rfl;refine⟨h,?_⟩;unfold bindS;refine⟨λe=>?_,λe=>?_⟩
 .have e:validE B≠0:=by simpa using e
  rw[qe e]
 .have e:validE B=0:=by simpa using e
  have v:=(kj B).1 e;have F:=h.1;rw[qg e];refine⟨⟨⟨F.a,F.m,F.o,F.d,F.w,F.f,F.ac,F.n,F.e,λx J=>by cases J⟩,⟨v.tl.m,v.tl.o,v.tl.c,qbf _⟩,by show B.wB.length<=_;have:=v.ol;omega,λx J=>by have:=(v.o x J).l;omega⟩,⟨qqd,encT_by (λx J=>by cases J),?_⟩,rfl⟩;have:=v.enc_len [];show(encT B []).length<=_;simp at this;omega
def kiy:Ct:=.gp 128 [.st 3] [yqu] [] λ(B:wh)=>(TR B/\TL B,originS B,())
theorem kli:kiy.O:=qrv Bs Tryz.func128 .no (k1s.c (k1m.c c0)) (Q:=∀B,TR B/\TL B->∀r0,originS B=r0->(TR B/\TL B)/\iT (validE B !=0) (0=r0) (iD (0<(B.wC.length:Int)) (0<(B.wC.length:Int)/\ix B.wC 0=r0) (((18446744069414584321:Int)=18446744069414584321/\U64 5/\Us [B.wQ,B.wK]/\[B.wQ,B.wK].length<=1099511627776)/\hashS 5 [B.wQ,B.wK]=r0)))<|by
 rintro B h _ rfl;refine⟨h,?_⟩;unfold originS;refine⟨λe=>?_,λe=>?_⟩
 .have e:validE B≠0:=by simpa using e
  rw[qe e]
 .have e:validE B=0:=by simpa using e
  rw[qg e];refine⟨λF=>?_,λF=>?_⟩;.have F:=qc F;rw[qe λJ=>by rw[J]at F;simp at F];exact⟨F,rfl⟩
  .have F:B.wC=[]:=qch.1 (by have:=qd F;omega);rw[qg F];exact⟨⟨rfl,by decide,us2 h.1.ac h.1.n,by simp⟩,rfl⟩
def kcs:Ct:=.gp 81 [.st 3,yqi] [.st 16] [] λ(B:wh)(F:Int)=>(TR B/\TL B/\-9223372036854775808<=F/\F<=9223372036854775807,stmtS B F,())
abbrev Fz10(r:Type):=Int->Int->Int->Li->Int->Int->Int->Int->Int->Li->Li->r
theorem ke5:kcs.O:=qrv Bs Tryz.func81 (rA 2 (.r 0 (.lp [.tokc 258 3 yqu,.tokc 258 4 yqu] ⟨[258,290,291],[.cells [zqi,zqu,zql,.own 1,.own 2,zqu,zqu,zqu,zqu,zqu],.tip yqu,.tip yqu],[6],[oa],[]⟩ .no))) (k1s.c (kre.c (kli.c (k1m.c c0)))) (Q:=∀B F,TR B/\TL B/\-9223372036854775808<=F/\F<=9223372036854775807->∀r0,stmtS B F=r0->(TR B/\TL B)/\iT (validE B !=0) (0=r0.wH/\0=r0.wX/\[]=r0.wC/\[]=r0.wy/\[]=r0.wAc/\0=r0.wJ/\0=r0.wL/\0=r0.Fee/\0=r0.wQ/\0=r0.wBN) ((TR B/\TL B)/\([]:Li)=([]:Li)/\([]:Li)=([]:Li)/\∃(Y:Fz10 Prop)(M1:Fz10 Nat),Y 0 F B.wX B.wC B.wJ B.wL B.Fee B.wQ (bindS B) ([]:Li) ([]:Li)/\∀b1 f1 i1 k1 l1 m1 n1 o1 q1 s1 t1,Y b1 f1 i1 k1 l1 m1 n1 o1 q1 s1 t1->iF b1 B.wB.length (iL s1 [(ix B.wB b1).wl] 8 ((TR B/\TL B)/\((18446744069414584321:Int)=18446744069414584321/\U64 (4:Int)/\Us [originS B,u64.wrap b1]/\[originS B,u64.wrap b1].length<=1099511627776)/\let M:Int:=hashS (4:Int) [originS B,u64.wrap b1]
iL t1 [M] 8 (t1++[M]=t1++[M]/\s1++[(ix B.wB b1).wl]=s1++[(ix B.wB b1).wl]/\Y (i64.wrap (b1+1)) f1 i1 k1 l1 m1 n1 o1 q1 (s1++[(ix B.wB b1).wl]) (t1++[M])/\M1 (i64.wrap (b1+1)) f1 i1 k1 l1 m1 n1 o1 q1 (s1++[(ix B.wB b1).wl]) (t1++[M])<M1 b1 f1 i1 k1 l1 m1 n1 o1 q1 s1 t1))) (f1=r0.wH/\i1=r0.wX/\k1=r0.wC/\s1=r0.wy/\t1=r0.wAc/\l1=r0.wJ/\m1=r0.wL/\n1=r0.Fee/\o1=r0.wQ/\q1=r0.wBN)))<|by
 rintro B F h _ rfl;obtain⟨X,Z,hd⟩:=h;refine⟨⟨X,Z⟩,λe=>?_,λe=>?_⟩
 .have e:validE B≠0:=by simpa using e
  unfold stmtS;rw[qe e];exact⟨rfl,rfl,rfl,rfl,rfl,rfl,rfl,rfl,rfl,rfl⟩
 .have e:validE B=0:=by simpa using e
  have v:=(kj _).1 e;have vo:=v.ol;have aa:=kdl X;have ab:originS B<18446744069414584321:=by
   unfold originS;rw[qg e];split;.exact k49 _ _
   .rename_i ac;exact v.m _ (ix_mem _ 0 qqo (by have:=qdh.2 ac;omega))
  have es:stmtS B F=⟨F,B.wX,B.wC,B.wB.map (·.wl),(List.range B.wB.length).map λi:Nat=>rhoS (originS B) (i:Int),B.wJ,B.wL,B.Fee,B.wQ,bindS B⟩:=by unfold stmtS;rw[qg e]
  refine⟨⟨X,Z⟩,by trivial,by trivial,?_⟩;refine⟨(λi z1 z2 z8 z3 z4 z5 z6 z7 g g'=>(F=z1/\B.wX=z2/\B.wJ=z3/\B.wL=z4/\B.Fee=z5/\B.wQ=z6/\bindS B=z7/\B.wC=z8)/\0<=i/\i<=B.wB.length/\g=(B.wB.take i.toNat).map (·.wl)/\g'=(List.range i.toNat).map λi:Nat=>rhoS (originS B) (i:Int)),λi _ _ _ _ _ _ _ _ _ _=>(B.wB.length-i).toNat,⟨⟨rfl,rfl,rfl,rfl,rfl,rfl,rfl,rfl⟩,by omega,by omega,by simp,by simp⟩,?_⟩;rintro i _ _ _ _ _ _ _ _ g g'⟨⟨rfl,rfl,rfl,rfl,rfl,rfl,rfl,rfl⟩,U,g1,rfl,rfl⟩;refine⟨λJ=>?_,λJ=>?_⟩
  .have J:=qc J;rw[inc i B.wB.length U J qqo,wu i U qqo];refine⟨U,J,rfl,by simp;omega,by simp;unfold maxLen;omega,⟨X,Z⟩,⟨rfl,by decide,us2 aa ⟨U,by omega⟩,by simp⟩,rfl,by simp;omega,by simp;unfold maxLen;omega,by trivial,by trivial,⟨⟨rfl,rfl,rfl,rfl,rfl,rfl,rfl,rfl⟩,by omega,by omega,?_,?_⟩,by(dsimp only;omega)⟩;.rw[kg B.wB i U J];simp
   .rw[show(i+1).toNat=i.toNat+1 by omega,List.range_succ,qbj];simp only[qaj,qda];rw[show((i.toNat:Nat):Int)=i by omega,show rhoS (originS B) i=hashS 4 [originS B,i]by unfold rhoS;rw[qg ab]]
  .have J:=qd J;rw[ql qqo,show i.toNat=B.wB.length by omega];rw[es];exact⟨rfl,rfl,rfl,rfl,rfl,rfl,rfl,rfl,rfl,rfl⟩
def kq5:Ct:=.gp 260 [yqu,oq] [yqu] [] λ(F:Int)(B:Li)=>(U64 F/\Us B/\B.length<=1073741824,hashS F B,())
theorem kde:kq5.O:=qrv Bs Tryz.func260 (rA 1 (.r 0 (.lp [.tok 5 yqu] ⟨[1],[.tip yqu],[5,6],[og,oa],[]⟩ .no))) (k1m.c c0) (Q:=∀M B,U64 M/\Us B/\B.length<=1073741824->∀r0,hashS M B=r0->[]=([]:Li)/\∃U Z,U 0 []/\∀b1 f1,U b1 f1->iF b1 B.length (iL f1 [Int.tmod (ix B b1) 18446744069414584321] 8 (let X:=f1++[Int.tmod (ix B b1) 18446744069414584321]
X=X/\ss2 U Z b1 (i64.wrap (b1+1)) f1 X)) (((18446744069414584321:Int)=18446744069414584321/\U64 M/\Us f1/\f1.length<=1099511627776)/\hashS M f1=r0))<|by
 rintro M B h _ rfl;obtain⟨h0,h1,h3⟩:=h;refine⟨by trivial,⟨λi g=>MapI (λx=>x%18446744069414584321) B i g,λi _=>(B.length-i).toNat,MapI.start,?_⟩⟩;intro i g J;have hl:=J.len;refine⟨λF=>?_,λF=>?_⟩;.have F:=qc F;have Y:=h1 _ (ix_mem B i J.1 F);have e:Int.tmod (ix B i) 18446744069414584321=ix B i%18446744069414584321:=tmod_nn _ _ Y.1;rw[e];exact⟨J.1,F,rfl,by simp;omega,by simp;unfold maxLen;omega,by trivial,J.next F qqo rfl⟩
 .have e:=J.done (qd F);subst e;rw[ku2];refine⟨⟨rfl,h0,?_,by rw[qp];omega⟩,rfl⟩;intro x Y;obtain⟨y,_,rfl⟩:=qap.1 Y;exact by omega
def kfy:Ct:=.gp 184 [yqu] [yqu] [] λ(B:Int)=>(U64 B,acctS B,())
theorem kja:kfy.O:=qrv Bs Tryz.func184 .no (kde.c c0) (Q:=∀B,U64 B->∀r0,acctS B=r0->(U64 7/\Us [B]/\[B].length<=1073741824)/\hashS 7 [B]=r0)<|by rintro B h _ rfl;exact⟨⟨by decide,by intro x F;rw[qah]at F;subst F;exact h,by simp⟩,rfl⟩
def kpq:Ct:=.tp 259 [.st 18] [oq] [] λ(B:wo)=>(noteL B,())
theorem kdu:kpq.O:=qtv Bs Tryz.func259 .no c0 (Q:=∀B,∀r0,noteL B=r0->[B.Value,B.wAz,B.Rho,B.wBA]=r0)<|by rintro B _ rfl;exact rfl
def ki0:Ct:=.tp 249 [yqu] [.bool] [] λ(B:Int)=>(decide (B<18446744069414584321),())
theorem k2s:ki0.O:=qtv Bs Tryz.func249 .no c0 (Q:=∀(B:Int),∀r0,decide (B<18446744069414584321)=r0->decide (B<18446744069414584321)=r0)<|by rintro B _ rfl;exact rfl
def kev:Ct:=.gp 252 [oq] [.bool] [] λ(B:Li)=>(B.length<=9223372036854775807,B.all λx=>decide (x<18446744069414584321),())
theorem k3o:kev.O:=qrv Bs Tryz.func252 (rA 0 (lA (oB [3] [oa]) .no)) (k2s.c c0) (Q:=∀(B:Li),B.length<=9223372036854775807->∀r0,B.all (λx=>decide (x<18446744069414584321))=r0->∃J M,J 0/\∀b1,J b1->iF b1 B.length (let U:=decide (ix B b1<18446744069414584321)
iT (!U) (false=r0) (ss1 J M b1 (i64.wrap (b1+1)))) (true=r0))<|by rintro B h _ rfl;refine⟨AllI (λx=>decide (x<18446744069414584321)) B,λi=>(B.length-i).toNat,AllI.start,?_⟩;intro i hi;refine⟨λF=>?_,λF=>(hi.done (qd F)).symm⟩;have F:=qc F;exact⟨hi.1,F,λe=>(hi.bad F (by simpa using e)).symm,λe=>hi.next F qqo (by simpa using e)⟩
def km6:Ct:=.tp 256 [.st 18] [.bool] [] λ(B:wo)=>(noteV B,())
theorem k3k:km6.O:=qtv Bs Tryz.func256 .no (k3o.c c0) (Q:=∀B,∀r0,noteV B=r0->iD (B.Value<=4294967295) ([B.wAz,B.Rho,B.wBA].length<=9223372036854775807/\let F:=[B.wAz,B.Rho,B.wBA].all λx=>decide (x<18446744069414584321)
F=r0) (false=r0))<|by
 rintro B _ rfl;refine⟨λh=>⟨by simp,?_⟩,λh=>?_⟩;.unfold noteV;rw[h];simp[Bool.and_assoc]
 .unfold noteV;rw[h];rfl
def kj1:Ct:=.gp 257 [.st 18] [yqu] [] λ(B:wo)=>(NR B,(if noteV B=true then hashS 2 (noteL B)else 0:Int),())
theorem kme:kj1.O:=qrv Bs Tryz.func257 .no (k3k.c (kdu.c (k1m.c c0))) (Q:=∀B,NR B->∀r0,(if noteV B=true then hashS 2 (noteL B)else 0)=r0->iT (! noteV B) (0=r0) (((18446744069414584321:Int)=18446744069414584321/\U64 2/\Us (noteL B)/\(noteL B).length<=1099511627776)/\hashS 2 (noteL B)=r0))<|by
 rintro B h _ rfl;have J:Us (noteL B):=by
  intro x F;simp only[noteL,qak,qcv,or_false]at F;rcases F with rfl|rfl|rfl|rfl;.exact h.v
  .exact h.o
  .exact h.r
  .exact h.b
 refine⟨λe=>?_,λe=>⟨⟨by trivial,by decide,J,by simp[noteL]⟩,?_⟩⟩;.rw[qe (by simpa using e)]
 .rw[qg (by simpa using e)]
def kbv:Ct:=.gp 183 [.st 21,.st 18] [yqu,.bool] [] λ(F:wAx)(B:wo)=>(F.wAr=false/\NR B,comV B,noteV B,())
theorem k52:kbv.O:=qrv Bs Tryz.func183 .no (k3k.c (kme.c (kdu.c c0))) (Q:=∀(F:wAx)B,F.wAr=false/\NR B->∀r0,comV B=r0->∀r1,noteV B=r1->iT (! noteV B) (0=r0/\false=r1) (iT (!F.wAr) (NR B/\let M:=if noteV B=true then hashS 2 (noteL B)else 0
M=r0/\true=r1) False))<|by
 rintro F B h _ rfl _ rfl;obtain⟨h1,U⟩:=h;rw[comV_eq]at*;refine⟨λe=>?_,λe=>⟨λJ=>⟨U,?_⟩,λJ=>by rw[h1]at J;cases J⟩⟩
 .have e:noteV B=false:=by simpa using e
  simp[e]
 .have e:noteV B=true:=by simpa using e
  simp[e]
def kim:Ct:=.gp 185 [.st 19] [yqu] [] λ(B:wAD)=>(B.Ins.length<=9223372036854775807,inS B.Ins,())
theorem kl9:kim.O:=qrv Bs Tryz.func185 (rA 1 (lA (oB [3,4] [ou,oa]) .no)) c0 (Q:=∀(B:wAD),B.Ins.length<=9223372036854775807->∀r0:Int,inS B.Ins=r0->∃(J:oF)(M:oI),J 0 0/\∀b1 f1,J b1 f1->iF f1 B.Ins.length (let U:Int:=u64.wrap (b1+(ix B.Ins f1).wAS)
ss2 J M b1 U f1 (i64.wrap (f1+1))) (b1=r0))<|by rintro B h _ rfl;refine⟨λs i=>FoldI (λs x=>(s+x.wAS)%18446744073709551616) 0 B.Ins i s,λs i=>(B.Ins.length-i).toNat,FoldI.start,?_⟩;intro s i hi;refine⟨λF=>?_,λF=>hi.done (qd F)⟩;have F:=qc F;exact⟨hi.1,F,hi.next F qqo (by rw[u64w])⟩
def kgg:Ct:=.gp 186 [.st 19] [yqu] [] λ(B:wAD)=>(B.wB.length<=9223372036854775807,outS B.wB,())
theorem kiz:kgg.O:=qrv Bs Tryz.func186 (rA 1 (lA (oB [3,4] [ou,oa]) .no)) c0 (Q:=∀(B:wAD),B.wB.length<=9223372036854775807->∀r0:Int,outS B.wB=r0->∃(J:oF)(M:oI),J 0 0/\∀b1 f1,J b1 f1->iF f1 B.wB.length (let U:Int:=u64.wrap (b1+(ix B.wB f1).Value)
ss2 J M b1 U f1 (i64.wrap (f1+1))) (b1=r0))<|by rintro B h _ rfl;refine⟨λs i=>FoldI (λs x=>(s+x.Value)%18446744073709551616) 0 B.wB i s,λs i=>(B.wB.length-i).toNat,FoldI.start,?_⟩;intro s i hi;refine⟨λF=>?_,λF=>hi.done (qd F)⟩;have F:=qc F;exact⟨hi.1,F,hi.next F qqo (by rw[u64w])⟩
def kn0:Ct:=.gp 250 [.st 17,yqi] [.bool] [] λ(B:wAC)(F:Int)=>(B.wAa.length<=9223372036854775807,inpV B F,())
theorem kan:kn0.O:=qrv Bs Tryz.func250 .no (k3k.c (k2s.c (k3o.c c0))) (Q:=∀(B:wAC)(F:Int),B.wAa.length<=9223372036854775807->∀r0:Bool,inpV B F=r0->let r1:Bool:=noteV (wo.mk B.wAS B.wAh B.wAb B.wAp)
iT r1 (iT (decide (B.Key<18446744069414584321)) (iD (0<=B.wAg) (iD (B.wAg<4) (iT ((B.wAa.length:Int)==F) (B.wAa.length<=9223372036854775807/\let r2:Bool:=B.wAa.all λx=>decide (x<18446744069414584321)
iT r2 (iD (0<=B.wAK) (0<=F/\decide (B.wAK<ishl .i64 1 F)=r0) (false=r0)) (false=r0)) (false=r0)) (false=r0)) (false=r0)) (false=r0)) (false=r0))<|by
 rintro B F h _ rfl;refine ?_;unfold inpV noteOf allB;have e2:((B.wAa.length:Int)==F)=true↔(B.wAa.length:Int)=F:=by simp
 have e3:decide ((B.wAa.length:Int)=F)=((B.wAa.length:Int)==F):=by rw[Bool.eq_iff_iff];simp
 rw[e3];refine⟨λh1=>?_,λh1=>by rw[h1];rfl⟩;rw[h1];refine⟨λM=>?_,λM=>by rw[M];rfl⟩;rw[M];refine⟨λU=>?_,λU=>by rw[U];rfl⟩;rw[U];refine⟨λX=>?_,λX=>by rw[X];rfl⟩;rw[X];refine⟨λJ=>?_,λJ=>by rw[J];rfl⟩;rw[J];have J:=e2.1 J;refine⟨h,λY=>?_,λY=>by rw[Y];rfl⟩;rw[Y];refine⟨λZ=>?_,λZ=>by rw[Z];rfl⟩;rw[Z];exact⟨by omega,rfl⟩
def klw:Ct:=.gp 251 [.sl (.st 18)] [.bool] [] λ(B:List wo)=>(B.length<=9223372036854775807,B.all noteV,())
theorem kb6:klw.O:=qrv Bs Tryz.func251 (rA 0 (lA (oB [3] [oa]) .no)) (k3k.c c0) (Q:=∀B,B.length<=9223372036854775807->∀r0,B.all noteV=r0->∃J M,J 0/\∀b1,J b1->iF b1 B.length (iT (! noteV (ix B b1)) (false=r0) (ss1 J M b1 (i64.wrap (b1+1)))) (true=r0))<|by rintro B h _ rfl;refine⟨AllI noteV B,λi=>(B.length-i).toNat,AllI.start,?_⟩;intro i hi;refine⟨λF=>?_,λF=>(hi.done (qd F)).symm⟩;have F:=qc F;exact⟨hi.1,F,λe=>(hi.bad F (by simpa using e)).symm,λe=>hi.next F qqo (by simpa using e)⟩
def kln:Ct:=.gp 181 [.st 16,.st 19] [.bool] [] λ(B:wAQ)(F:wAD)=>(SR B/\WR F,relV B F,())
theorem kp7:kln.O:=qrv Bs Tryz.func181 (rA 4 (lA (oB [5] [oa]) .no)) (k3o.c (kan.c (kb6.c c0))) (Q:=∀B F,SR B/\WR F->∀r0,relV B F=r0->iD (B.wH<1) (false=r0) (iD (12<B.wH) (false=r0) ([B.wX,B.wQ,B.wBN,F.wAd].length<=9223372036854775807/\let r1:=[B.wX,B.wQ,B.wBN,F.wAd].all λx=>decide (x<18446744069414584321)
iT (!r1) (false=r0) (B.wC.length<=9223372036854775807/\let r2:=B.wC.all λx=>decide (x<18446744069414584321)
iT (!r2) (false=r0) (B.wy.length<=9223372036854775807/\let r3:=B.wy.all λx=>decide (x<18446744069414584321)
iT (!r3) (false=r0) (B.wAc.length<=9223372036854775807/\let r4:=B.wAc.all λx=>decide (x<18446744069414584321)
iT (!r4) (false=r0) (iD (4294967295<B.wJ) (false=r0) (iD (4294967295<B.wL) (false=r0) (iD (4294967295<B.Fee) (false=r0) (let v5:=(F.Ins.length:Int)!=(B.wC.length:Int)
iT v5 (false=r0) (iD (4<(F.Ins.length:Int)) (false=r0) (let v6:Bool:=(F.wB.length:Int)!=(B.wy.length:Int)
iT v6 (false=r0) (let v7:Bool:=(F.wB.length:Int)!=(B.wAc.length:Int)
iT v7 (false=r0) (iD (4<(F.wB.length:Int)) (false=r0) (∃(I1:oD)(M1:oG),I1 0/\∀b1,I1 b1->iF b1 F.Ins.length ((ix F.Ins b1).wAa.length<=9223372036854775807/\iT (! inpV (ix F.Ins b1) B.wH) (false=r0) (ss1 I1 M1 b1 (i64.wrap (b1+1)))) (F.wB.length<=9223372036854775807/\F.wB.all noteV=r0))))))))))))))))<|by
 rintro B F h _ rfl;obtain⟨hs,hw⟩:=h;have l1:=hs.ml;have l2:=hs.cl;have l3:=hs.rl;have l4:=hw.il;have l5:=hw.ol;have hf:relV B F=true↔_:=kn9;have no:relV B F≠true->false=relV B F:=λh=>by cases hr:relV B F with
  |false=>rfl|true=>exact(h hr).elim
 have no:(_->False)->false=relV B F:=λh=>no λa=>h (hf.1 a);have ea:∀l:Li,l.all (λx=>decide (x<18446744069414584321))=allB l:=λ_=>rfl;simp only[ea];refine⟨λh=>no λa=>?_,λh1=>⟨λh=>no λa=>?_,λh2=>⟨by simp,λh=>no λa=>?_,λh3=>⟨by omega,λh=>no λa=>?_,λh4=>⟨by omega,λh=>no λa=>?_,λh5=>⟨by omega,λh=>no λa=>?_,λh6=>⟨λh=>no λa=>?_,λh7=>⟨λh=>no λa=>?_,λh8=>⟨λh=>no λa=>?_,λh9=>⟨λh=>no λa=>?_,λM=>⟨λh=>no λa=>?_,λU=>⟨λh=>no λa=>?_,λX=>⟨λh=>no λa=>?_,λY=>⟨λh=>no λa=>?_,λZ=>?_⟩⟩⟩⟩⟩⟩⟩⟩⟩⟩⟩⟩⟩⟩;.have h:=qc h;omega
 .have h:=qc h;omega
 .rw[a.2.2.1]at h;cases h
 .rw[a.2.2.2.2.2.2.1]at h;cases h
 .rw[a.2.2.2.2.2.2.2.1]at h;cases h
 .rw[a.2.2.2.2.2.2.2.2.1]at h;cases h
 .have h:=qc h;omega
 .have h:=qc h;omega
 .have h:=qc h;omega
 .have h:¬(F.Ins.length:Int)=B.wC.length:=by simpa using h
  omega
 .have h:=qc h;omega
 .have h:¬(F.wB.length:Int)=B.wy.length:=by simpa using h
  omega
 .have h:¬(F.wB.length:Int)=B.wAc.length:=by simpa using h
  omega
 .have h:=qc h;omega
 have h1:=qd h1;have h2:=qd h2;have h3:allB [B.wX,B.wQ,B.wBN,F.wAd]=true:=by simpa using h3
 have h4:allB B.wC=true:=by simpa using h4
 have h5:allB B.wy=true:=by simpa using h5
 have h6:allB B.wAc=true:=by simpa using h6
 have h7:=qd h7;have h8:=qd h8;have h9:=qd h9;have M:(F.Ins.length:Int)=B.wC.length:=by simpa using M
 have U:=qd U;have X:(F.wB.length:Int)=B.wy.length:=by simpa using X
 have Y:(F.wB.length:Int)=B.wAc.length:=by simpa using Y
 have Z:=qd Z;have hd:1<=B.wH/\B.wH<=12:=⟨by omega,by(first|omega|(dsimp only;omega))⟩;refine⟨AllI (inV B.wH) F.Ins,λi=>(F.Ins.length-i).toNat,AllI.start,?_⟩;intro i hi;refine⟨λJ=>?_,λJ=>?_⟩
 .have J:=qc J;have hx:=hw.i _ (ix_mem F.Ins i hi.1 J);have aa:=hx.pl;rw[krx hd.1 hd.2];refine⟨hi.1,J,by omega,λe=>no λa=>?_,λe=>hi.next J qqo (by simpa using e)⟩;have e:inV B.wH (ix F.Ins i)=false:=by simpa using e
  rw[hi.bad J e]at a;exact absurd a.2.2.2.2.2.2.2.2.2.2.2.2.2.2.1 qqs
 .have J:=qd J;have ha:=hi.done J;refine⟨by omega,?_⟩;cases hb:F.wB.all noteV with
  |false=>exact no λa=>by rw[hb]at a;exact absurd a.2.2.2.2.2.2.2.2.2.2.2.2.2.2.2 qqs|true=>exact(hf.2 ⟨hd.1,hd.2,h3,by omega,by omega,by omega,h4,h5,h6,by omega,by omega,by omega,by omega,by omega,ha,hb⟩).symm
def kjd:Ct:=.tp 338 [yqi] [.bool] [] λ(B:Int)=>(decide (0<=B)&&decide (B<4),())
theorem kmt:kjd.O:=qtv Bs Tryz.func338 .no c0 (Q:=∀(B:Int),∀r0,(decide (0<=B)&&decide (B<4))=r0->iD (0<=B) (decide (B<4)=r0) (false=r0))<|by
 rintro B _ rfl;refine⟨λe=>?_,λe=>?_⟩;.rw[e];rfl
 .rw[e];rfl
def klf:Ct:=.gp 253 [yqu,yqi] [yqu] [] λ(F B:Int)=>(U64 F/\-9223372036854775808<=B/\B<=9223372036854775807,ownerS F B,())
theorem ko9:klf.O:=qrv Bs Tryz.func253 .no (kmt.c (kde.c c0)) (Q:=∀F B,U64 F/\-9223372036854775808<=B/\B<=9223372036854775807->∀r0,ownerS F B=r0->iT (!(decide (0<=B)&&decide (B<4))) (0=r0) ((U64 1/\Us [F,u64.wrap B]/\[F,u64.wrap B].length<=1073741824)/\let J:=hashS 1 [F,u64.wrap B]
J=r0))<|by
 rintro F B h _ rfl;obtain⟨M,h1,U⟩:=h;unfold ownerS;refine⟨λe=>?_,λe=>?_⟩;.rw[qe λa=>by simp at e;omega]
 .have e:0<=B/\B<4:=by simpa using e
  rw[qg e,wu B qqo qqo];refine⟨⟨by decide,us2 M (by omega),by simp⟩,rfl⟩
def kqg:Ct:=.gp 340 [yqi,yqi] [yqi] [] λ(F B:Int)=>(0<=F/\0<=B/\B<=62,(F/2^B.toNat%2:Int),())
theorem ksc:kqg.O:=qrv Bs Tryz.func340 .no c0 (Q:=∀F B,0<=F/\0<=B/\B<=62->∀r0,F/2^B.toNat%2=r0->0<=B/\Int.tmod (ishr .i64 F B) 2=r0)<|by
 rintro F B h _ rfl;obtain⟨J,h1,M⟩:=h;refine⟨h1,?_⟩;have hs:ishr .i64 F B=F/2^B.toNat:=by rw[k2c,show min B.toNat i64.bits=B.toNat from qcf (by show B.toNat<=64;omega)];simp
 rw[hs,tmod_nn _ _ (qec J (qcq (Int.pow_pos qqo)))]
def km5:Ct:=.gp 255 [yqu,yqi,oq] [yqu] [] λ(F J:Int)(B:Li)=>(U64 F/\Us B/\B.length<=1073741824/\J<=9223372036854775807,climbS F J B,())
theorem koa:km5.O:=qrv Bs Tryz.func255 (.r 1 (.nd [] (lA (oB [7] [oa]) .no) [] (rA 0 (lA (oB [8,9] [ou,oa]) .no)))) (ksc.c (k7g.c c0)) (Q:=∀U F B,U64 U/\Us B/\B.length<=1073741824/\F<=9223372036854775807->∀r0,climbS U F B=r0->iD (12<(B.length:Int)) (0=r0) (iD (F<0) (0=r0) (0<=(B.length:Int)/\let v1:=decide (ishl .i64 1 B.length<=F)
iT v1 (0=r0) (iD (18446744069414584321<=U) (0=r0) (∃I1 M1,I1 0/\∀b1,I1 b1->iF b1 B.length (let v2:Bool:=decide (18446744069414584321<=ix B b1)
iT v2 (0=r0) (ss1 I1 M1 b1 (i64.wrap (b1+1)))) (∃(I2:oF)(M2:oI),I2 U 0/\∀f1 i1,I2 f1 i1->iD (i1<(B.length:Int)) ((0<=F/\0<=i1/\i1<=62)/\iT (F/2^i1.toNat%2==1) (iR i1 B.length ((U64 (ix B i1)/\U64 f1)/\ss2 I2 M2 f1 (nd (ix B i1) f1) i1 (i64.wrap (i1+1)))) (iR i1 B.length ((U64 f1/\U64 (ix B i1))/\ss2 I2 M2 f1 (nd f1 (ix B i1)) i1 (i64.wrap (i1+1))))) (f1=r0)))))))<|by
 rintro U F B h _ rfl;obtain⟨h0,h2,h3,h4⟩:=h;have sh:∀d:Nat,d<=12->ishl .i64 1 (d:Int)=2^d:=by decide+kernel
 refine⟨λe=>?_,λe=>⟨λe2=>?_,λe2=>⟨by omega,λX=>?_,λX=>⟨λe4=>?_,λe4=>?_⟩⟩⟩⟩;.have e:=qc e;unfold climbS;rw[qe qqo]
 .have e2:=qc e2;unfold climbS;rw[qe qqo]
 .have e:=qd e;have X:=qc X;rw[sh _ qqo]at X;unfold climbS;rw[qe λa=>by have:=a.2.2.1;omega]
 .have e4:=qc e4;unfold climbS;rw[qe qqo]
 have e:=qd e;have e2:=qd e2;have X:=qd X;have e4:=qd e4;rw[sh _ qqo]at X;refine⟨AllI (λx=>decide (x<18446744069414584321)) B,λi=>(B.length-i).toNat,AllI.start,?_⟩;intro i hi;refine⟨λJ=>?_,λJ=>?_⟩;.have J:=qc J;refine⟨hi.1,J,?_⟩;refine⟨λe5=>?_,λe5=>hi.next J qqo (by simpa using e5)⟩;have Y:allB B=false:=hi.bad J (by simpa using e5);unfold climbS;rw[qe λa=>by rw[Y]at a;exact absurd a.2.2.2.2 qqs]
 .have ha:allB B=true:=hi.done (qd J);have hc:climbS U F B=climbL U F B:=by unfold climbS;rw[qg ⟨by omega,by omega,by omega,by omega,ha⟩]
  rw[hc];refine⟨λd i=>0<=i/\i<=B.length/\U64 d/\climbL d (F/2^i.toNat) (B.drop i.toNat)=climbL U F B,λd i=>(B.length-i).toNat,⟨by omega,by omega,h0,by simp⟩,?_⟩;rintro d i⟨Z,g1,g2,M⟩;refine⟨λJ=>?_,λJ=>?_⟩
  .have J:=qc J;have hx:=h2 _ (ix_mem B i Z J);rw[drop_ix B i Z J]at M;have nx:=inc i B.length Z J qqo;have hq:F/2^i.toNat/2=F/2^(i+1).toNat:=by rw[show(i+1).toNat=i.toNat+1 by omega,qcp,qcs (qcq (Int.pow_pos qqo))]
   have M:climbL (if F/2^i.toNat%2=0 then hashS 6 [d,ix B i]else hashS 6 [ix B i,d]) (F/2^i.toNat/2) (B.drop (i+1).toNat)=climbL U F B:=M;rw[hq]at M;refine⟨⟨by omega,Z,by omega⟩,λY=>?_,λY=>?_⟩
   .have Y:F/2^i.toNat%2=1:=by simpa using Y
    rw[qe qqo]at M;rw[nx];exact⟨Z,J,⟨hx,g2⟩,⟨by omega,by omega,kx _ _,M⟩,by(first|omega|(dsimp only;omega))⟩
   .have Y:¬F/2^i.toNat%2=1:=by simpa using Y
    rw[qg qqo]at M;rw[nx];exact⟨Z,J,⟨g2,hx⟩,⟨by omega,by omega,kx _ _,M⟩,by(first|omega|(dsimp only;omega))⟩
  .have J:=qd J;rw[qas qqo]at M;exact M
def kqd:Ct:=.gp 339 [yqu,yqu] [yqu] [] λ(B F:Int)=>(U64 B/\U64 F,markV B F,())
theorem kqv:kqd.O:=qrv Bs Tryz.func339 .no (k2s.c (k1m.c c0)) (Q:=∀B F,U64 B/\U64 F->∀r0,markV B F=r0->iT (! decide (B<18446744069414584321)) (0=r0) (iT (! decide (F<18446744069414584321)) (0=r0) (((18446744069414584321:Int)=18446744069414584321/\U64 3/\Us [B,F]/\[B,F].length<=1099511627776)/\hashS 3 [B,F]=r0)))<|by
 rintro B F h _ rfl;rw[kwu]at*;refine⟨λe=>?_,λe=>⟨λJ=>?_,λJ=>⟨⟨by trivial,by decide,us2 h.1 h.2,by simp⟩,?_⟩⟩⟩;.rw[qe λa=>by simp[a.1]at e]
 .rw[qe λa=>by simp[a.2]at J]
 .rw[qg ⟨by simpa using e,by simpa using J⟩]
def kid:Ct:=.gp 254 [.st 21,yqu,yqu] [yqu,.bool] [] λ(J:wAx)(B F:Int)=>(J.wAr=false/\U64 B/\U64 F,markV B F,true,())
theorem kmx:kid.O:=qrv Bs Tryz.func254 .no (kqv.c c0) (Q:=∀(J:wAx)B F,J.wAr=false/\U64 B/\U64 F->∀r0,markV B F=r0->∀r1,true=r1->iT (!J.wAr) ((U64 B/\U64 F)/\markV B F=r0/\true=r1) False)<|by rintro J B F h _ rfl _ rfl;obtain⟨h1,M,U⟩:=h;exact⟨λ_=>⟨⟨M,U⟩,rfl,rfl⟩,λe=>by rw[h1]at e;cases e⟩
def kl4:Ct:=.gp 182 [.st 21,yqu,yqu,.st 17] [yqi] [] λ(F:wAx)(J M:Int)(B:wAC)=>(F.wAr=false/\PR B/\spendV B=true,inE pkR J M B,())
theorem kn3:kl4.O:=qrv Bs Tryz.func182 .no (ko9.c (kmx.c (k52.c (koa.c c0)))) (Q:=∀(U:wAx)X Y B,U.wAr=false/\PR B/\spendV B=true->∀r0,inE pkR X Y B=r0->(U64 B.Key/\-9223372036854775808<=B.wAg/\B.wAg<=9223372036854775807)/\let v1:=B.wAh !=ownerS B.Key B.wAg
iT v1 (21=r0) ((U.wAr=false/\U64 B.Key/\U64 B.wAb)/\iT (!true) (12=r0) (iT (markV B.Key B.wAb !=Y) (12=r0) (iT B.wBO (iT (B.wAS !=0) (13=r0) (0=r0)) ((U.wAr=false/\NR (wo.mk B.wAS B.wAh B.wAb B.wAp))/\let r2:=comV (wo.mk B.wAS B.wAh B.wAb B.wAp)
let r3:=noteV (wo.mk B.wAS B.wAh B.wAb B.wAp)
iT (!r3) (11=r0) ((U64 r2/\Us B.wAa/\B.wAa.length<=1073741824/\B.wAK<=9223372036854775807)/\iT (climbS r2 B.wAK B.wAa !=X) (11=r0) (0=r0)))))))<|by
 rintro U X Y B h _ rfl;obtain⟨h1,F,hs⟩:=h;have hs:=k1t.1 hs;have J:=hs.1;have M:B.wAb<18446744069414584321:=by unfold noteV at J;simp at J;exact J.1.2
 have Z:=comV_u (noteOf B);have em:=kgy hs.2.1 M;have ec:=kgu J;have en:noteOf B=⟨B.wAS,B.wAh,B.wAb,B.wAp⟩:=rfl;have aa:(markP pkR B.Key B.wAb).getD 0=markV B.Key B.wAb:=rfl;have ab:(commP pkR (noteOf B)).getD 0=comV (noteOf B):=rfl;unfold inE at*;refine⟨⟨F.k,F.nu.1,F.nu.2⟩,λe=>?_,λe=>⟨⟨h1,F.k,F.n.r⟩,λe3=>(by cases e3),λ_=>⟨λe2=>?_,λe2=>⟨λe4=>⟨λe5=>?_,λe5=>?_⟩,λe4=>⟨⟨h1,F.n⟩,λe6=>?_,λe6=>⟨⟨Z,F.pa,F.pl,F.po.2⟩,λe7=>?_,λe7=>?_⟩⟩⟩⟩⟩⟩;all_goals simp_all
def km4:Ct:=.gp 122 [.st 21,.st 16,.st 19] [yqi] [] λ(J:wAx)(B:wAQ)(F:wAD)=>(J.wAr=false/\SR B/\WR F,checkS pkR B F,())
theorem knw:km4.O:=qrv Bs Tryz.func122 (.r 1 (.nd [] (lA (oB [7] [oa]) .no) [] (.nd [] (lA (oB [9] [oa]) .no) [] (.jn (oB [] []) [] .no [] .no)))) (kp7.c (kn3.c (k52.c (kja.c (kl9.c (kiz.c c0)))))) (Q:=∀(p0:wAx)(B:wAQ)(J:wAD),p0.wAr=false/\SR B/\WR J->∀r0:Int,checkS pkR B J=r0->(SR B/\WR J)/\iT (! relV B J) (1=r0) (∃(I1:oD)(M1:oG),I1 0/\∀b1,I1 b1->iD (b1<(J.Ins.length:Int)) (iR b1 B.wC.length (iR b1 J.Ins.length ((p0.wAr=false/\PR (ix J.Ins b1)/\spendV (ix J.Ins b1)=true)/\let r1:Int:=inE pkR B.wX (ix B.wC b1) (ix J.Ins b1)
iT (r1 !=0) (r1=r0) (ss1 I1 M1 b1 (i64.wrap (b1+1)))))) (∃(I2:oD)(M2:oG),I2 0/\∀f1,I2 f1->iF f1 J.wB.length ((p0.wAr=false/\NR (ix J.wB f1))/\iT (! noteV (ix J.wB f1)) (1=r0) (iR f1 B.wy.length (let v2:Bool:=comV (ix J.wB f1)!=ix B.wy f1
iT v2 (1=r0) (iR f1 J.wB.length (iR f1 B.wAc.length (let v3:Bool:=(ix J.wB f1).Rho !=ix B.wAc f1
iT v3 (1=r0) (ss1 I2 M2 f1 (i64.wrap (f1+1))))))))) (∀J1:Prop,((J.Ins.length<=9223372036854775807/\let v4:Int:=u64.wrap (inS J.Ins+B.wJ)
J.wB.length<=9223372036854775807/\let v5:Int:=u64.wrap (outS J.wB+B.wL)
iT (v4 !=u64.wrap (v5+B.Fee)) (13=r0) (0=r0))->J1)->iD (0<B.wJ) (U64 J.wAd/\iT (B.wQ !=acctS J.wAd) (21=r0) J1) J1))))<|by
 rintro p0 B J h _ rfl;obtain⟨h1,hs,hw⟩:=h;refine⟨⟨hs,hw⟩,λe=>?_,λe=>?_⟩
 .have e:relV B J=false:=by simpa using e
  unfold checkS;rw[qg e]
 have e:relV B J=true:=by simpa using e
 have hv:=kn9.1 e;have v1:=hv.2.2.2.2.2.2.2.2.2.1;have v2:=hv.2.2.2.2.2.2.2.2.2.2.2.1;have v3:=hv.2.2.2.2.2.2.2.2.2.2.2.2.1;have vi:=hv.2.2.2.2.2.2.2.2.2.2.2.2.2.2.1;have va:=k9g.1 hv.2.2.1 J.wAd qqs;clear hv;have ad:=hw.il;have ae:=hw.ol;have cs:∀y,noteV y=(commP pkR y).isSome:=λy=>by
  unfold commP;split;.rename_i hy;rw[show pkR 2 (noteL y)=some (hashS 2 (noteL y))by unfold pkR;rw[qg (kkc hy)],hy];rfl
  .rename_i hy;simpa using hy
 have cg:∀y,comV y=(commP pkR y).getD 0:=λ_=>rfl;generalize hF:pkR=F at*;refine⟨λi=>0<=i/\i<=J.Ins.length/\insE F B.wX (J.Ins.drop i.toNat) (B.wC.drop i.toNat)=insE F B.wX J.Ins B.wC,λi=>(J.Ins.length-i).toNat,⟨by omega,by omega,rfl⟩,?_⟩;rintro i⟨g0,g1,U⟩;refine⟨λX=>?_,λX=>?_⟩
 .have X:=qc X;have hm:=ix_mem J.Ins i g0 X;have hp:=hw.i _ hm;have aa:spendV (ix J.Ins i)=true:=by have:=qbq.1 vi _ hm;unfold inV at this;simp only[qh]at this;exact this.1.1
  have hd:=drop_ix J.Ins i g0 X;have ab:=drop_ix B.wC i g0 qqo;rw[hd,ab]at U;have U:(if inE F B.wX (ix B.wC i) (ix J.Ins i)≠0 then inE F B.wX (ix B.wC i) (ix J.Ins i)else insE F B.wX (J.Ins.drop (i+1).toNat) (B.wC.drop (i+1).toNat))=insE F B.wX J.Ins B.wC:=U;have nx:=inc i J.Ins.length g0 X qqo;refine⟨g0,by omega,g0,X,⟨h1,hp,aa⟩,?_⟩;simp only[ks9,hF];refine⟨λY=>?_,λY=>?_⟩
  .have Y:inE F B.wX (ix B.wC i) (ix J.Ins i)≠0:=by simpa using Y
   rw[qg Y]at U;unfold checkS;rw[qe (by simp[e]),qg (by rw[<-U];exact Y),<-U]
  .have Y:inE F B.wX (ix B.wC i) (ix J.Ins i)=0:=by simpa using Y
   rw[qe (by simp[Y])]at U;rw[nx];exact⟨⟨by omega,by omega,U⟩,by(first|omega|(dsimp only;omega))⟩
 .have X:=qd X;rw[qas qqo]at U;have U:0=insE F B.wX J.Ins B.wC:=U;have ac:checkS F B J=if outsB F J.wB B.wy B.wAc=false then 1 else if 0<B.wJ/\B.wQ≠acctS J.wAd then 21 else if(inS J.Ins+B.wJ)%18446744073709551616≠((outS J.wB+B.wL)%18446744073709551616+B.Fee)%18446744073709551616 then 13 else 0:=by
   conv=>lhs;unfold checkS
   rw[qe (by simp[e]),qe (by rw[<-U];simp)]
  rw[ac];refine⟨λi=>0<=i/\i<=J.wB.length/\outsB F (J.wB.drop i.toNat) (B.wy.drop i.toNat) (B.wAc.drop i.toNat)=outsB F J.wB B.wy B.wAc,λi=>(J.wB.length-i).toNat,⟨by omega,by omega,rfl⟩,?_⟩;rintro k⟨k0,k1,k2⟩;refine⟨λM=>?_,λM=>?_⟩
  .have M:=qc M;have hp:=hw.o _ (ix_mem J.wB k k0 M);rw[drop_ix J.wB k k0 M,drop_ix B.wy k k0 qqo,drop_ix B.wAc k k0 qqo]at k2;have k2:(outB F (ix J.wB k) (ix B.wy k) (ix B.wAc k)&&outsB F (J.wB.drop (k+1).toNat) (B.wy.drop (k+1).toNat) (B.wAc.drop (k+1).toNat))=outsB F J.wB B.wy B.wAc:=k2;have nx:=inc k J.wB.length k0 M qqo;have bad:outB F (ix J.wB k) (ix B.wy k) (ix B.wAc k)=false->outsB F J.wB B.wy B.wAc=false:=λZ=>by rw[Z]at k2;exact k2.symm
   refine⟨k0,M,⟨h1,hp⟩,?_⟩;simp only[k6t,hF,cs,cg];refine⟨λe3=>?_,λe3=>⟨k0,by omega,λe4=>?_,λe4=>⟨k0,M,k0,by omega,λe5=>?_,λe5=>?_⟩⟩⟩;.rw[qg (bad (by unfold outB;rw[show(commP F (ix J.wB k)).isSome=false by simpa using e3];rfl))]
   .rw[qg (bad (by
     have e4:¬(commP F (ix J.wB k)).getD 0=ix B.wy k:=by simpa using e4
     simp[outB,e4]))]
   .rw[qg (bad (by
     have e5:¬(ix J.wB k).Rho=ix B.wAc k:=by simpa using e5
     simp[outB,e5]))]
   .have e3:(commP F (ix J.wB k)).isSome=true:=by simpa using e3
    have e4:(commP F (ix J.wB k)).getD 0=ix B.wy k:=by simpa using e4
    have e5:(ix J.wB k).Rho=ix B.wAc k:=by simpa using e5
    have Z:outB F (ix J.wB k) (ix B.wy k) (ix B.wAc k)=true:=by simp[outB,e3,e4,e5]
    rw[Z,Bool.true_and]at k2;rw[nx];exact⟨⟨by omega,by omega,k2⟩,by(first|omega|(dsimp only;omega))⟩
  .have M:=qd M;rw[qas qqo]at k2;have k2:true=outsB F J.wB B.wy B.wAc:=k2;rw[<-k2];rw[qe qqs];intro J1 kJ;have j1:((if 0<B.wJ/\B.wQ≠acctS J.wAd then 21 else if(inS J.Ins+B.wJ)%18446744073709551616≠((outS J.wB+B.wL)%18446744073709551616+B.Fee)%18446744073709551616 then 13 else 0:Int)=if(inS J.Ins+B.wJ)%18446744073709551616≠((outS J.wB+B.wL)%18446744073709551616+B.Fee)%18446744073709551616 then 13 else 0)->J1:=by
    intro hr;refine kJ ⟨by show J.Ins.length<=_;omega,by show J.wB.length<=_;omega,?_⟩;simp only[u64w];refine⟨λZ=>?_,λZ=>?_⟩;.rw[hr,qg (by simpa using Z)]
    .rw[hr,qe (by simpa using Z)]
   refine⟨λhd=>⟨hw.s,λha=>?_,λha=>j1 ?_⟩,λhd=>j1 ?_⟩
   .have ha:¬B.wQ=acctS J.wAd:=by simpa using ha
    rw[qg ⟨qc hd,ha⟩]
   .have ha:B.wQ=acctS J.wAd:=by simpa using ha
    rw[qe λh=>h.2 ha]
   .rw[qe λh=>qd hd h.1]
def kab:Ct:=.g (gk 248 [oo,oa] yH1 (.one (.one (.d oA)))) yO1 [oA,oA,.bool] [true,true,true] λ(B:Int)(F:Li)(J:Bool)=>(0<=B,(tkB F J B).l,(tkB F J B).b,(tkB F J B).f,())
theorem k2m:kab.O:=prv Bs Tryz.func248 (rA 0 (oC 18)) c0 (Q:=∀B F J,0<=B->∀r0,(tkB F J B).l=r0->∀Bg,(tkB F J B).b=Bg->∀Bf,(tkB F J B).f=Bf->∀M:oE,(∀U,iT U ([]=r0/\F=Bg/\true=Bf) (0<=B/\B<=F.length/\0<=B/\B<=F.length/\F.take B.toNat=r0/\F.drop B.toNat=Bg/\J=Bf)->M U)->iT J (M true) (M (decide (F.length<B))))<|by
 rintro B F J h _ rfl _ rfl _ rfl;intro M k1;have j:∀s,s=decide (J=true∨F.length<B)->M s:=by
  intro s hs;refine k1 _ ⟨λe=>?_,λe=>?_⟩;.have e:=qc (hs.symm.trans e);unfold tkB;rw[qg e];exact⟨rfl,rfl,rfl⟩
  .have e:=qd (hs.symm.trans e);have X:J=false:=by
    cases J;.rfl
    .exact absurd (.inl rfl) e
   unfold tkB;rw[qe e];exact⟨h,by omega,h,by omega,rfl,rfl,X⟩
 exact⟨λe=>j _ (by simp[e]),λe=>j _ (by simp[e])⟩
def km7:Ct:=.gp 189 [oA] [yqu] [true] λ(B:Li)=>(By B/\B.length<=8,val B,())
theorem k65:km7.O:=qrv Bs Tryz.func189 (rA 1 (lA (oB [3,4] [ou,oa]) .no)) c0 (Q:=∀B,By B/\B.length<=8->∀r0,val B=r0->∃J Z,J 0 (i64.wrap (B.length-1))/\∀b1 f1,J b1 f1->iD (0<=f1) (iR f1 B.length (let v1:=u64.wrap (u64.wrap (b1*256)+u64.wrap (ix B f1))
ss2 J Z b1 v1 f1 (i64.wrap (f1-1)))) (b1=r0))<|by
 rintro B h _ rfl;obtain⟨X,hl⟩:=h;rw[wi (B.length-1) qqo qqo];refine⟨λn i=>-1<=i/\i<B.length/\n=val (B.drop (i+1).toNat),λ_ i=>(i+1).toNat,⟨by omega,by omega,?_⟩,?_⟩;.rw[qas qqo];rfl
 rintro n i⟨g0,Y,rfl⟩;refine⟨λF=>?_,λF=>?_⟩
 .have F:=qc F;have hx:=X _ (ix_mem B i F Y);have M:By (B.drop (i+1).toNat):=X.drop _;have hv:=k26 _ M;have U:(B.drop (i+1).toNat).length<=7:=by rw[qal];omega
  have h7:=k2k U;rw[wu (ix B i) qqo qqo,wu (val (B.drop (i+1).toNat)*256) qqo qqo,wu _ qqo qqo,wi (i-1) qqo qqo];refine⟨F,by omega,⟨by omega,by omega,?_⟩,by((dsimp only;omega))⟩;rw[show i-1+1=i by omega,drop_ix _ i F Y];simp only[val];omega
 .have F:=qd F;rw[show(i+1).toNat=0 by omega];rfl
def kax:Ct:=.g (gk 176 [oo,oa] yH1 (.one oa)) yO1 yO1 [true,true,true] λ(F:Int)(B:Li)(J:Bool)=>(By B,(nB 4 B J F).n,(nB 4 B J F).b,(nB 4 B J F).f,())
theorem k50:kax.O:=prv Bs Tryz.func176 (rA 1 (oC 18)) (k2m.c (k65.c c0)) (Q:=∀J B F,By B->∀r0,(nB 4 B F J).n=r0->∀Bg,(nB 4 B F J).b=Bg->∀Bf,(nB 4 B F J).f=Bf->0<=(4:Int)/\∀U X Y,U=(tkB B F 4).l/\X=(tkB B F 4).b/\Y=(tkB B F 4).f->(By U/\U.length<=8)/\∀Z,Z=val U->∀M:oE,(∀b1,iT b1 (0=r0/\X=Bg/\true=Bf) (i64.wrap Z=r0/\X=Bg/\Y=Bf)->M b1)->iT Y (M true) (M (decide (J<i64.wrap Z))))<|by
 rintro J B F h _ rfl _ rfl _ rfl;refine⟨by omega,?_⟩;rintro _ _ _⟨rfl,rfl,rfl⟩;have hl:=tkB_len (b:=B) (f:=F) (k:=4);refine⟨⟨tkB_l h,by omega⟩,?_⟩;rintro _ rfl;have hv:=k26 _ (tkB_l (b:=B) (f:=F) (k:=4) h);have h4:(256:Int)^(tkB B F 4).l.length<=256^4:=k2k qqo;rw[wi (val (tkB B F 4).l) qqo qqo];intro M k1;have j:∀s,s=decide ((tkB B F 4).f=true∨J<val (tkB B F 4).l)->M s:=by
  intro s hs;refine k1 _ ⟨λe=>?_,λe=>?_⟩;.have e:=qc (hs.symm.trans e);unfold nB;rw[qg e];exact⟨rfl,rfl,rfl⟩
  .have e:=qd (hs.symm.trans e);have hf:(tkB B F 4).f=false:=by
    cases hc:(tkB B F 4).f;.rfl
    .exact absurd (.inl hc) e
   unfold nB;rw[qe e];exact⟨rfl,rfl,hf⟩
 exact⟨λe=>j _ (by simp[e]),λe=>j _ (by simp[e])⟩
def kaa:Ct:=.g (gk 179 [oo,oa,ou] yH1 (.one oe)) [yqi,yqu,oA,.bool] [oq,oA,.bool] [true,true,true] λ(F J:Int)(B:Li)(M:Bool)=>(By B/\B.length<=137438953472,(lB B M F J).l,(lB B M F J).b,(lB B M F J).f,())
theorem kbg:kaa.O:=prv Bs Tryz.func179 (.r 1 (.nd [] (oC 27) [] (rA 0 (.r 0 (.lp [.tok 8 yqu] ⟨[1,0],[.tip yqu,.cells [.d oA,.d .bool]],[8,9],[og,oa],[]⟩ .no))))) (k50.c (k2m.c (k65.c c0))) (Q:=∀F U B J,By B/\B.length<=137438953472->∀r0,(lB B J F U).l=r0->∀Bg,(lB B J F U).b=Bg->∀Bf,(lB B J F U).f=Bf->By B/\∀r4 r5 r6,r4=(nB 4 B J F).n/\r5=(nB 4 B J F).b/\r6=(nB 4 B J F).f->∀J1:oE,(∀b1,iT b1 ([]=r0/\r5=Bg/\true=Bf) ([]=([]:Li)/\∃I1 M1,I1 0 r5 r6 ([]:Li)/\∀f1 i1 k1 l1,I1 f1 i1 k1 l1->iD (f1<r4) (0<=(8:Int)/\∀(X Y:Li)(aa:Bool),X=(tkB i1 k1 (8:Int)).l/\Y=(tkB i1 k1 (8:Int)).b/\aa=(tkB i1 k1 (8:Int)).f->(By X/\X.length<=8)/\∀(M:Int),M=val X->iD (U<=M) (([]:Li)=r0/\Y=Bg/\true=Bf) (iL l1 [M] 8 (l1++[M]=l1++[M]/\ss4 I1 M1 f1 (i64.wrap (f1+1)) i1 Y k1 aa l1 (l1++[M])))) (l1=r0/\i1=Bg/\k1=Bf))->J1 b1)->iT r6 (J1 true) (let v7:Int:=i64.wrap (Int.tdiv (r5.length:Int) 8)
J1 (decide (v7<r4))))<|by
 rintro F U B J h _ rfl _ rfl _ rfl;obtain⟨hb,hl⟩:=h;have p4:(256:Int)^(4:Int).toNat=4294967296:=by decide
 refine⟨hb,?_⟩;rintro _ _ _⟨rfl,rfl,rfl⟩;have hN:=nB_b (k:=4) (f:=J) (m:=F) hb;have nN:=nB_n (k:=4) (f:=J) (m:=F) hb qqo;rw[p4]at nN;have e0:lB B J F U=if(nB 4 B J F).f=true∨((nB 4 B J F).b.length:Int)/8<(nB 4 B J F).n then⟨[],(nB 4 B J F).b,true⟩else lBs U (nB 4 B J F).n.toNat (nB 4 B J F).b []:=rfl;generalize nB 4 B J F=N at*;generalize lB B J F U=R at*;intro J1 k1;have j:∀s,s=decide (N.f=true∨(N.b.length:Int)/8<N.n)->J1 s:=by
  intro s hs;refine k1 _ ⟨λe=>?_,λe=>⟨rfl,?_⟩⟩;.rw[e0,qg (qc (hs.symm.trans e))];exact⟨rfl,rfl,rfl⟩
  have e:=qd (hs.symm.trans e);rw[qe e]at e0;have hf:N.f=false:=by
   cases hc:N.f;.rfl
   .exact absurd (.inl hc) e
  have ab:¬(N.b.length:Int)/8<N.n:=λh=>e (.inr h);refine⟨λi b f g=>f=false/\0<=i/\i<=N.n/\By b/\(b.length:Int)≥8*(N.n-i)/\(g.length:Int)=i/\R=lBs U (N.n-i).toNat b g,λi _ _ _=>(N.n-i).toNat,⟨hf,by omega,nN.1,hN.1,by omega,rfl,by rw[e0];congr 1;omega⟩,?_⟩;rintro i b f g⟨rfl,g0,g1,g2,g3,g4,Z⟩;refine⟨λhh=>?_,λhh=>?_⟩
  .have hh:=qc hh;have et:tkB b false 8=⟨b.take 8,b.drop 8,false⟩:=by
    unfold tkB;rw[qe];.rfl
    .rintro(h|h);.cases h
     .omega
   refine⟨by omega,?_⟩;rintro _ _ _⟨rfl,rfl,rfl⟩;rw[et];refine⟨⟨g2.take _,by simp;omega⟩,?_⟩;rintro _ rfl;rw[show(N.n-i).toNat=(N.n-(i+1)).toNat+1 by omega]at Z;unfold lBs at Z;refine⟨λe=>?_,λe=>?_⟩;.rw[Z,qg (qc e)];exact⟨rfl,rfl,rfl⟩
   .have e:=qd e;rw[qe e]at Z;rw[inc i N.n g0 hh qqo];refine⟨rfl,by simp;omega,by simp;unfold maxLen;omega,rfl,⟨rfl,by omega,by omega,g2.drop _,by rw[qal];omega,by simp;omega,Z⟩,by(first|omega|(dsimp only;omega))⟩
  .have hh:=qd hh;rw[show(N.n-i).toNat=0 by omega]at Z;rw[Z];exact⟨rfl,rfl,rfl⟩
 refine⟨λe=>j _ (by simp[e]),λe=>?_⟩;have e8:i64.wrap (Int.tdiv (N.b.length:Int) 8)=(N.b.length:Int)/8:=by rw[Int.tdiv_eq_ediv_of_nonneg qqo];exact wi _ qqo qqo
 rw[e8];exact j _ (by simp[e])
def kah:Ct:=.g (gk 178 [oo,ou] yH1 (.one ou)) [yqu,oA,.bool] [yqu,oA,.bool] [true,true,true] λ(F:Int)(B:Li)(J:Bool)=>(By B,(nB 8 B J F).n,(nB 8 B J F).b,(nB 8 B J F).f,())
theorem k4l:kah.O:=prv Bs Tryz.func178 (rA 1 (oC 17)) (k2m.c (k65.c c0)) (Q:=∀J B F,By B->∀r0,(nB 8 B F J).n=r0->∀Bg,(nB 8 B F J).b=Bg->∀Bf,(nB 8 B F J).f=Bf->0<=(8:Int)/\∀U X Y,U=(tkB B F 8).l/\X=(tkB B F 8).b/\Y=(tkB B F 8).f->(By U/\U.length<=8)/\∀Z,Z=val U->∀M:oE,(∀b1,iT b1 (0=r0/\X=Bg/\true=Bf) (Z=r0/\X=Bg/\Y=Bf)->M b1)->iT Y (M true) (M (decide (J<Z))))<|by
 rintro J B F h _ rfl _ rfl _ rfl;refine⟨by omega,?_⟩;rintro _ _ _⟨rfl,rfl,rfl⟩;have hl:=tkB_len (b:=B) (f:=F) (k:=8);refine⟨⟨tkB_l h,by omega⟩,?_⟩;rintro _ rfl;intro M k1;have j:∀s,s=decide ((tkB B F 8).f=true∨J<val (tkB B F 8).l)->M s:=by
  intro s hs;refine k1 _ ⟨λe=>?_,λe=>?_⟩;.have e:=qc (hs.symm.trans e);unfold nB;rw[qg e];exact⟨rfl,rfl,rfl⟩
  .have e:=qd (hs.symm.trans e);have hf:(tkB B F 8).f=false:=by
    cases hc:(tkB B F 8).f;.rfl
    .exact absurd (.inl hc) e
   unfold nB;rw[qe e];exact⟨rfl,rfl,hf⟩
 exact⟨λe=>j _ (by simp[e]),λe=>j _ (by simp[e])⟩
def kla:Ct:=.gp 180 [.st 19] [.bool] [] λ(B:wAD)=>(B.Ins.length<=9223372036854775807/\B.wB.length<=9223372036854775807/\∀x∈B.Ins,x.wAa.length<=9223372036854775807,rightV B,())
theorem kpw:kla.O:=qrv Bs Tryz.func180 (rA 1 (lA (oB [3] [oa]) .no)) (k2s.c (kan.c (kb6.c c0))) (Q:=∀B,B.Ins.length<=9223372036854775807/\B.wB.length<=9223372036854775807/\(∀x∈B.Ins,x.wAa.length<=9223372036854775807)->∀r0,rightV B=r0->iD (4<(B.Ins.length:Int)) (false=r0) (iD (4<(B.wB.length:Int)) (false=r0) (let r1:=decide (B.wAd<18446744069414584321)
iT (!r1) (false=r0) (∃(M:oD)(M1:oG),M 0/\∀b1,M b1->iF b1 B.Ins.length (let v2:=decide (12<(((ix B.Ins b1).wAa).length:Int))
iT v2 (false=r0) (iD ((ix B.Ins b1).wAK<0) (false=r0) (let v3:=decide (4096<=(ix B.Ins b1).wAK)
iT v3 (false=r0) ((wAC.mk (ix B.Ins b1).wAS (ix B.Ins b1).wAh (ix B.Ins b1).wAb (ix B.Ins b1).wAp (ix B.Ins b1).Key (ix B.Ins b1).wAg 0 (ix B.Ins b1).wAa (ix B.Ins b1).wBO).wAa.length<=9223372036854775807/\let r4:=inpV (wAC.mk (ix B.Ins b1).wAS (ix B.Ins b1).wAh (ix B.Ins b1).wAb (ix B.Ins b1).wAp (ix B.Ins b1).Key (ix B.Ins b1).wAg 0 (ix B.Ins b1).wAa (ix B.Ins b1).wBO) ((ix B.Ins b1).wAa).length
iT (!r4) (false=r0) (ss1 M M1 b1 (i64.wrap (b1+1))))))) (B.wB.length<=9223372036854775807/\B.wB.all noteV=r0)))))<|by
 rintro B h _ rfl;obtain⟨h1,h2,h3⟩:=h;have no:¬(B.Ins.length<=4/\B.wB.length<=4/\B.wAd<18446744069414584321/\(∀x∈B.Ins,spendV x=true)/\∀x∈B.wB,noteV x=true)->false=rightV B:=by intro h;cases hr:rightV B with
  |false=>rfl|true=>exact(h (k3t.1 hr)).elim
 refine⟨λh=>no λa=>?_,λZ=>⟨λh=>no λa=>?_,λe2=>⟨λh=>no λa=>?_,λU=>?_⟩⟩⟩;.have h:=qc h;omega
 .have h:=qc h;omega
 .rw[qao a.2.2.1]at h;cases h
 have Z:=qd Z;have e2:=qd e2;have U:B.wAd<18446744069414584321:=by simpa using U
 refine⟨AllI spendV B.Ins,λi=>(B.Ins.length-i).toNat,AllI.start,?_⟩;intro i hi;refine⟨λJ=>?_,λJ=>?_⟩
 .have J:=qc J;have hm:=ix_mem B.Ins i hi.1 J;have bad:spendV (ix B.Ins i)=false->false=rightV B:=λe=>no λa=>by rw[a.2.2.2.1 _ hm]at e;cases e
  have F:¬(0<=(ix B.Ins i).wAK/\(ix B.Ins i).wAK<=4095/\(ix B.Ins i).wAa.length<=12)->false=rightV B:=λe=>bad (by cases X:spendV (ix B.Ins i)with
   |false=>rfl|true=>exact(e ⟨(k1t.1 X).2.2.2.2.1,(k1t.1 X).2.2.2.2.2.1,(k1t.1 X).2.2.2.2.2.2.1⟩).elim);refine⟨hi.1,J,λe=>F ?_,λq1=>⟨λe=>F ?_,λq2=>⟨λe=>F ?_,λq3=>?_⟩⟩⟩;.have e:=qc e;omega
  .have e:=qc e;omega
  .have e:=qc e;omega
  have q1:=qd q1;have q2:=qd q2;have q3:=qd q3;rw[ktf (x:=ix B.Ins i) qqo qqo qqo];refine⟨h3 (ix B.Ins i) hm,λe=>bad (by simpa using e),λe=>hi.next J qqo (by simpa using e)⟩
 .have ha:=hi.done (qd J);refine⟨h2,?_⟩;cases Y:B.wB.all noteV with
  |false=>exact no λa=>by rw[qbq.2 a.2.2.2.2]at Y;cases Y|true=>exact(k3t.2 ⟨by omega,by omega,U,qbq.1 ha,qbq.1 Y⟩).symm
def knu:Ct:=.g (gk 177 [oo] yH1 (.one (.agg [zqu,zqu,zqu,zqu]))) [oA,.bool] [.st 18,oA,.bool] [true,true,true] λ(B:Li)(F:Bool)=>(By B,(nNt B F).n,(nNt B F).b,(nNt B F).f,())
theorem kr0:knu.O:=prv Bs Tryz.func177 .no (k4l.c c0) (Q:=∀J M,By J->∀r0,(nNt J M).n=r0->∀Bg,(nNt J M).b=Bg->∀Bf,(nNt J M).f=Bf->By J/\∀r4 Y r6,r4=(nB 8 J M 18446744073709551615).n/\Y=(nB 8 J M 18446744073709551615).b/\r6=(nB 8 J M 18446744073709551615).f->By Y/\∀Z B U,Z=(nB 8 Y r6 18446744073709551615).n/\B=(nB 8 Y r6 18446744073709551615).b/\U=(nB 8 Y r6 18446744073709551615).f->By B/\∀aa F X,aa=(nB 8 B U 18446744073709551615).n/\F=(nB 8 B U 18446744073709551615).b/\X=(nB 8 B U 18446744073709551615).f->By F/\∀ab ac ad,ab=(nB 8 F X 18446744073709551615).n/\ac=(nB 8 F X 18446744073709551615).b/\ad=(nB 8 F X 18446744073709551615).f->r4=r0.Value/\Z=r0.wAz/\aa=r0.Rho/\ab=r0.wBA/\ac=Bg/\ad=Bf)<|by rintro J M h _ rfl _ rfl _ rfl;have h1:=(nB_b (k:=8) (f:=M) (m:=18446744073709551615) h).1;refine⟨h,?_⟩;rintro _ _ _⟨rfl,rfl,rfl⟩;refine⟨h1,?_⟩;have h2:=(nB_b (k:=8) (f:=(nB 8 J M 18446744073709551615).f) (m:=18446744073709551615) h1).1;rintro _ _ _⟨rfl,rfl,rfl⟩;refine⟨h2,?_⟩;rintro _ _ _⟨rfl,rfl,rfl⟩;refine⟨(nB_b h2).1,?_⟩;rintro _ _ _⟨rfl,rfl,rfl⟩;exact⟨rfl,rfl,rfl,rfl,rfl,rfl⟩
def kjc:Ct:=.gp 121 [oA] [.st 19,.bool] [true,true] λ(B:Li)=>(By B/\B.length<=137438953472,(decW B).1,decide ((decW B).2=0),())
abbrev Fz11(r:Type):=Int->Int->Li->Bool->List wAC->List wo->r
abbrev Fz12(r:Type):=Int->List wo->Int->Li->Bool->List wAC->r
theorem kl5:kjc.O:=qrv Bs Tryz.func121 (.r 3 (.jn ⟨[2,1],yB1,[],[],[]⟩ [] (.r 0 (.lp [.tokc 2 0 (.st 17)] ⟨[2,1,3],yB1,[7],[oa],[]⟩ .no)) [] (.r 0 (.jn ⟨[2,1,3],yZ,[],[],[]⟩ [] (.r 0 (.lp [.tokc 2 1 (.st 18)] ⟨[2,1,3,4],yZ,[9],[oa],[]⟩ .no)) [] (rA 0 (oC 92)))))) (k50.c (kr0.c (k4l.c (kbg.c (kpw.c c0))))) (Q:=∀J,By J/\J.length<=137438953472->∀r0,(decW J).1=r0->∀r1,decide ((decW J).2=0)=r1->By J/\∀r5 r6 r7,r5=(nB 4 J false 4).n/\r6=(nB 4 J false (4:Int)).b/\r7=(nB 4 J false (4:Int)).f->∀J1:List wo->Int->Li->Bool->List wAC->Prop,(∀(b1:List wo)(f1:Int)(i1:Li)(k1:Bool)(l1:List wAC),(By i1/\∀(ax:Int)(ay:Li)(az:Bool),ax=(nB 4 i1 k1 (4:Int)).n/\ay=(nB 4 i1 k1 (4:Int)).b/\az=(nB 4 i1 k1 (4:Int)).f->∀J2:Int->Li->Bool->List wAC->List wo->Prop,(∀(u1:Int)(x1:Li)(y1:Bool)(U:List wAC)(f2:List wo),(By x1/\∀(Y:Int)(ba:Li)(bb:Bool),Y=(nB 8 x1 y1 (18446744073709551615:Int)).n/\ba=(nB 8 x1 y1 (18446744073709551615:Int)).b/\bb=(nB 8 x1 y1 (18446744073709551615:Int)).f->∀J3:oE,(∀(q2:Bool),iT q2 (([]:List wAC)=r0.Ins/\([]:List wo)=r0.wB/\0=r0.wAd/\false=r1) (U=r0.Ins/\f2=r0.wB/\Y=r0.wAd/\true=r1)->J3 q2)->iT bb (J3 true) (iD (0<(ba.length:Int)) (J3 true) (((wAD.mk U f2 Y).Ins.length<=9223372036854775807/\(wAD.mk U f2 Y).wB.length<=9223372036854775807/\∀x∈(wAD.mk U f2 Y).Ins,x.wAa.length<=9223372036854775807)/\J3 ! rightV (wAD.mk U f2 Y))))->J2 u1 x1 y1 U f2)->b1=b1/\l1=l1/\∃(I2:Fz11 Prop)(M2:Fz11 Nat),I2 0 f1 ay az l1 b1/\∀i2 k2 l2 m2 n2 F,I2 i2 k2 l2 m2 n2 F->iD (i2<ax) (iT (!m2) (By l2/\∀(M:wo)(ao:Li)(aq:Bool),M=(nNt l2 m2).n/\ao=(nNt l2 m2).b/\aq=(nNt l2 m2).f->lz F/\(F.length+[M].length)*32<=140737488355328/\F.length+[M].length<=maxLen/\F++[M]=F++[M]/\n2=n2/\I2 (i64.wrap (i2+1)) k2 ao aq n2 (F++[M])/\M2 (i64.wrap (i2+1)) k2 ao aq n2 (F++[M])<M2 i2 k2 l2 m2 n2 F) (F=F/\n2=n2/\J2 k2 l2 m2 n2 F)) (F=F/\n2=n2/\J2 k2 l2 m2 n2 F))->J1 b1 f1 i1 k1 l1)->([]:List wAC)=([]:List wAC)/\∃(I1:Fz12 Prop)(M1:Fz12 Nat),I1 0 ([]:List wo) 0 r6 r7 ([]:List wAC)/\∀m1 n1 o1 B s1 t1,I1 m1 n1 o1 B s1 t1->iD (m1<r5) (iT (!s1) (By B/\∀(aa:wo)(ab:Li)(ah:Bool),aa=(nNt B s1).n/\ab=(nNt B s1).b/\ah=(nNt B s1).f->By ab/\∀(bc:Int)(ac:Li)(ai:Bool),bc=(nB 8 ab ah (18446744073709551615:Int)).n/\ac=(nB 8 ab ah (18446744073709551615:Int)).b/\ai=(nB 8 ab ah (18446744073709551615:Int)).f->By ac/\∀(bd:Int)(ad:Li)(aj:Bool),bd=(nB 4 ac ai (4294967296:Int)).n/\ad=(nB 4 ac ai (4294967296:Int)).b/\aj=(nB 4 ac ai (4294967296:Int)).f->By ad/\∀(bf:Int)(Z:Li)(ak:Bool),bf=(nB 4 ad aj (4294967296:Int)).n/\Z=(nB 4 ad aj (4294967296:Int)).b/\ak=(nB 4 ad aj (4294967296:Int)).f->(By Z/\Z.length<=137438953472)/\∀(bg ae:Li)(al:Bool),bg=(lB Z ak (12:Int) (18446744069414584321:Int)).l/\ae=(lB Z ak (12:Int) (18446744069414584321:Int)).b/\al=(lB Z ak (12:Int) (18446744069414584321:Int)).f->By ae/\∀(bh:Int)(au:Li)(aw:Bool),bh=(nB 4 ae al (1:Int)).n/\au=(nB 4 ae al (1:Int)).b/\aw=(nB 4 ae al (1:Int)).f->let ag:List wAC:=[wAC.mk aa.Value aa.wAz aa.Rho aa.wBA bc bd bf bg (bh==1)]
iL t1 ag 88 (t1++ag=t1++ag/\I1 (i64.wrap (m1+1)) n1 o1 au aw (t1++ag)/\M1 (i64.wrap (m1+1)) n1 o1 au aw (t1++ag)<M1 m1 n1 o1 B s1 t1)) (t1=t1/\J1 n1 o1 B s1 t1)) (t1=t1/\J1 n1 o1 B s1 t1))<|by
 rintro J h _ rfl _ rfl;obtain⟨hb,hl⟩:=h;refine⟨hb,?_⟩;rintro _ _ _⟨rfl,rfl,rfl⟩;have hC:=nB_b (k:=4) (f:=false) (m:=4) hb;have nC:=nB_n (k:=4) (f:=false) (m:=4) hb qqo;have mC:=nB_m (k:=4) (b:=J) (f:=false) (m:=4) qqo;have zC:=nB4_pz (f:=false) (m:=4) hb;generalize nB 4 J false 4=C at*;intro J1 k1;have j1:∀(b:Li)(f:Bool)(g:List wAC),By b->b.length<=137438953472->g.length<=4->Pz (encC encSp) (Gc (GS limR) 4) J false g b f->J1 [] 0 b f g:=by
  intro b f g am bk lg zI;refine k1 _ _ _ _ _ ⟨am,?_⟩;rintro _ _ _⟨rfl,rfl,rfl⟩;have hD:=nB_b (k:=4) (f:=f) (m:=4) am;have nD:=nB_n (k:=4) (f:=f) (m:=4) am qqo;have mD:=nB_m (k:=4) (b:=b) (f:=f) (m:=4) qqo;have zD:=nB4_pz (f:=f) (m:=4) am;generalize nB 4 b f 4=D at*;intro J2 k2;have j2:∀(v:Int)(U:Li)(f2:Bool)(g':List wo),By U->U.length<=137438953472->g'.length<=4->Pz (encC encN) (Gc (GN limR) 4) b f g' U f2->J2 v U f2 g g':=by
   intro v U f2 g' bi bm l2 zO;refine k2 _ _ _ _ _ ⟨bi,?_⟩;rintro _ _ _⟨rfl,rfl,rfl⟩;have zS:=nB8_pz (f:=f2) (m:=18446744073709551615) bi qqo;generalize nB 8 U f2 18446744073709551615=X at*;obtain⟨bj,cpl⟩:=pz_wit (L:=limR) zI zO zS;intro J3 k3;have j3:∀s:Bool,(s=true->∀u,¬EW u J)->(s=false->decW J=(⟨g,g',X.n⟩,0))->J3 s:=by
    intro s h1 h2;refine k3 _ ⟨λe=>?_,λe=>?_⟩;.rw[decW_no (h1 e)];exact⟨rfl,rfl,rfl,rfl⟩
    .rw[h2 e];exact⟨rfl,rfl,rfl,rfl⟩
   refine⟨λe=>j3 _ (λ_ u hu=>?_) (λh=>by cases h),λe=>⟨λe2=>j3 _ (λ_ u hu=>?_) (λh=>by cases h),λe2=>?_⟩⟩;.rw[(cpl u hu).1]at e;cases e
   .rw[(cpl u hu).2.1]at e2;cases e2
   .have e2:=qd e2;obtain⟨s1,s2⟩:=bj e (qch.1 qqo);have hw:=s2.wq;refine⟨⟨by show g.length<=_;omega,by show g'.length<=_;omega,λx hx=>(hw.i x hx).pl⟩,j3 _ (λh u hu=>?_) λh=>?_⟩;.rw[(cpl u hu).2.2,hu.v]at h;cases h
    .have hE:EW ⟨g,g',X.n⟩ J:=⟨hw,by simpa using h,s1⟩;exact kqb hE λu hu=>(cpl u hu).2.2
  refine⟨by trivial,by trivial,λi _ b' f' gg g'=>g=gg/\0<=i/\i<=D.n/\By b'/\b'.length<=137438953472/\(g'.length:Int)=i/\Pz (λl:List wo=>l.flatMap encN) (Gl (GN limR) i.toNat) D.b D.f g' b' f',λi _ _ _ _ _=>(D.n-i).toNat,⟨rfl,by omega,nD.1,hD.1,by omega,rfl,Pz.nil⟩,?_⟩;rintro i v b' f' _ g'⟨rfl,g0,g1,B,q2,q3,gz⟩;refine⟨λhh=>?_,λhh=>?_⟩
  .have hh:=qc hh;refine⟨λe=>⟨B,?_⟩,λe=>⟨by trivial,by trivial,?_⟩⟩
   .rintro _ _ _⟨rfl,rfl,rfl⟩;have o1:=nNt_b (f:=f') B;have z1:=nNt_pz (f:=f') B;generalize nNt b' f'=A1 at*;rw[inc i D.n g0 hh qqo];refine⟨rfl,by simp;omega,by simp;unfold maxLen;omega,by trivial,by trivial,⟨rfl,by omega,by omega,o1.1,by omega,by simp;omega,?_⟩,by(dsimp only;omega)⟩;rw[show(i+1).toNat=i.toNat+1 by omega];exact gz.snoc z1
   .have e:f'=true:=by simpa using e
    subst e;exact j2 _ _ _ _ B q2 qqo (Pz.list zD (gz.short qqo))
  .have hh:=qd hh;have hi:i=D.n:=by omega
   subst hi;exact⟨by trivial,by trivial,j2 _ _ _ _ B q2 qqo (Pz.list zD gz)⟩
 refine⟨by trivial,?_⟩;refine⟨λi y1 y2 b f g=>(([]:List wo)=y1/\(0:Int)=y2)/\0<=i/\i<=C.n/\By b/\b.length<=137438953472/\(g.length:Int)=i/\Pz (λl:List wAC=>l.flatMap encSp) (Gl (GS limR) i.toNat) C.b C.f g b f,λi _ _ _ _ _=>(C.n-i).toNat,⟨⟨rfl,rfl⟩,by omega,nC.1,hC.1,by omega,rfl,Pz.nil⟩,?_⟩;rintro i _ _ b f g⟨⟨rfl,rfl⟩,g0,g1,B,q2,q3,gz⟩;refine⟨λhh=>?_,λhh=>?_⟩
 .have hh:=qc hh;refine⟨λe=>⟨B,?_⟩,λe=>⟨by trivial,?_⟩⟩
  .rintro _ _ _⟨rfl,rfl,rfl⟩;have o1:=nNt_b (f:=f) B;have z1:=nNt_pz (f:=f) B;generalize nNt b f=A1 at*;refine⟨o1.1,?_⟩;rintro _ _ _⟨rfl,rfl,rfl⟩;have F:=nB_b (k:=8) (f:=A1.f) (m:=18446744073709551615) o1.1;have z2:=nB8_pz (f:=A1.f) (m:=18446744073709551615) o1.1 qqo;generalize nB 8 A1.b A1.f 18446744073709551615=A2 at*;refine⟨F.1,?_⟩;rintro _ _ _⟨rfl,rfl,rfl⟩;have o3:=nB_b (k:=4) (f:=A2.f) (m:=4294967296) F.1;have z3:=nB4_pz (f:=A2.f) (m:=4294967296) F.1;generalize nB 4 A2.b A2.f 4294967296=A3 at*;refine⟨o3.1,?_⟩;rintro _ _ _⟨rfl,rfl,rfl⟩;have o4:=nB_b (k:=4) (f:=A3.f) (m:=4294967296) o3.1;have z4:=nB4_pz (f:=A3.f) (m:=4294967296) o3.1;generalize nB 4 A3.b A3.f 4294967296=A4 at*;refine⟨⟨o4.1,by omega⟩,?_⟩;rintro _ _ _⟨rfl,rfl,rfl⟩;have o5:=lB_b (m:=12) (p:=18446744069414584321) (f:=A4.f) o4.1;have z5:=lB_pz (m:=12) (p:=18446744069414584321) (f:=A4.f) o4.1 qqo;generalize lB A4.b A4.f 12 18446744069414584321=A5 at*;refine⟨o5.1,?_⟩;rintro _ _ _⟨rfl,rfl,rfl⟩;have o6:=nB_b (k:=4) (f:=A5.f) (m:=1) o5.1;have z6:=nB4_pz (f:=A5.f) (m:=1) o5.1;generalize nB 4 A5.b A5.f 1=A6 at*;have zz:=ko4 (L:=limR) z1 z2 z3 z4 z5 z6;rw[inc i C.n g0 hh qqo];refine⟨rfl,by simp;omega,by simp;unfold maxLen;omega,by trivial,⟨⟨rfl,rfl⟩,by omega,by omega,o6.1,by omega,by simp;omega,?_⟩,by(dsimp only;omega)⟩;rw[show(i+1).toNat=i.toNat+1 by omega];exact gz.snoc zz
  .have e:f=true:=by simpa using e
   subst e;exact j1 _ _ _ B q2 qqo (Pz.list zC (gz.short qqo))
 .have hh:=qd hh;have hi:i=C.n:=by omega
  subst hi;exact⟨by trivial,j1 _ _ _ B q2 qqo (Pz.list zC gz)⟩
def ket:Ct:=.gp 80 [.st 21,.st 6,.st 16,oA] [.bool] [] λ(J:wAx)(M:wF)(F:wAQ)(B:Li)=>(M.wd=2/\J.wAr=false/\By B/\B.length<=137438953472/\SR F,(decW B).2==0&&checkS pkR F (decW B).1==0,())
theorem ki7:ket.O:=qrv Bs Tryz.func80 .no (kl5.c (knw.c c0)) (Q:=∀(J:wAx)(M:wF)F B,M.wd=2/\J.wAr=false/\By B/\B.length<=137438953472/\SR F->∀r0,((decW B).2==0&&checkS pkR F (decW B).1==0)=r0->iT (M.wd==2) ((By B/\B.length<=137438953472)/\∀U X,U=(decW B).1/\X=decide ((decW B).2=0)->iT X ((J.wAr=false/\SR F/\WR U)/\(checkS pkR F U==0)=r0) (false=r0)) False)<|by
 rintro J M F B h _ rfl;obtain⟨Y,hi,Z,hl,hs⟩:=h;refine⟨λe=>⟨⟨Z,hl⟩,?_⟩,λe=>?_⟩
 .rintro _ _⟨rfl,rfl⟩;refine⟨λe=>⟨⟨hi,hs,kq4 (by simpa using e)⟩,?_⟩,λe=>?_⟩
  .have e:(decW B).2=0:=by simpa using e
   rw[e];rfl
  .have e:¬(decW B).2=0:=by simpa using e
   rw[beq_false_of_ne e];rfl
 .rw[Y]at e;cases e
def kms:Ct:=.gp 44 [.st 21,.st 6,.st 3] [yqi] [] λ(J:wAx)(F:wF)(B:wh)=>(J.wAr=false/\F.wd=2/\TR B/\TL B,txE F B,())
theorem kpg:kms.O:=qrv Bs Tryz.func44 .no (k5t.c (k1s.c (ke5.c (ki7.c c0)))) (Q:=∀(U:wAx)F B,U.wAr=false/\F.wd=2/\TR B/\TL B->∀r0,txE F B=r0->iT (rulesE F !=0) (1=r0) (iT (! U.wAr==(F.wd==3)) (1=r0) ((TR B/\TL B)/\iT (validE B !=0) (validE B=r0) ((TR B/\TL B/\-9223372036854775808<=F.wH/\F.wH<=9223372036854775807)/\(F.wd=2/\U.wAr=false/\By B.wAH/\B.wAH.length<=137438953472/\SR (stmtS B F.wH))/\let r1:=(decW B.wAH).2==0&&checkS pkR (stmtS B F.wH) (decW B.wAH).1==0
iT (!r1) (10=r0) (0=r0)))))<|by
 rintro U F B h _ rfl;obtain⟨hi,hm,X,Y⟩:=h;unfold txE;refine⟨λe=>?_,λe=>?_⟩
 .have e:rulesE F≠0:=by simpa using e
  rw[qg e];have:rulesE F=1:=by
   unfold rulesE at e⊢;repeat' split<;>simp_all
  exact this.symm
 .have e:rulesE F=0:=by simpa using e
  have hb:=k5m e;simp only[rulesB,qh,qy]at hb;rw[qe λZ=>Z e];refine⟨λe2=>?_,λ_=>⟨⟨X,Y⟩,λM=>?_,λM=>?_⟩⟩;.rw[hi,hm]at e2;cases e2
  .rw[qg (by simpa using M)]
  .have M:validE B=0:=by simpa using M
   have aa:=Y.p;rw[qe λZ=>Z M];refine⟨⟨X,Y,by omega,by omega⟩,⟨hm,hi,X.p,by omega,kpm X qqo⟩,λJ=>?_,λJ=>?_⟩;.have J:(!accT F B)=true:=J;rw[qg (by simpa using J)]
   .have J:(!accT F B)=false:=J;have J:accT F B=true:=by simpa using J
    rw[qe (by rw[J];simp)]
def ksi:Ct:=.gp 92 [.st 3] [yqu] [] λ(B:wh)=>(TR B/\TL B,idS B,())
theorem ktl:ksi.O:=qrv Bs Tryz.func92 .no (k1s.c (k3j.c (k32.c c0))) (Q:=∀B,TR B/\TL B->∀r0,idS B=r0->(TR B/\TL B)/\iT (validE B !=0) (0=r0) ((TR B/\TL B/\B.wB.length<=1048576/\∀x∈B.wB,x.wm.length<=1024)/\(U64 14/\By (encT B B.wAH)/\(encT B B.wAH).length<=1099511627775)/\hashB 14 (encT B B.wAH)=r0))<|by
 rintro B h _ rfl;obtain⟨F,J⟩:=h;refine⟨⟨F,J⟩,λe=>?_,λe=>?_⟩
 .have e:¬validE B=0:=by simpa using e
  unfold idS;rw[qe e]
 .have e:validE B=0:=by simpa using e
  have v:=(kj B).1 e;unfold idS;rw[qg e];exact⟨v.bl F,⟨by decide,encT_by F.p,encT_le v⟩,rfl⟩
def kfk:Ct:=.g ⟨91,[.agg yE1],[],.one og,[.tip yqb],false⟩ [.st 7] [oA] [] λ(B:wD)=>(BR B/\B.Txs.length<=64,hdrS B,())
theorem khi:kfk.O:=prv Bs Tryz.func91 .no (k3p.c (khj.c c0)) (Q:=∀B,BR B/\B.Txs.length<=64->∀e0,hdrS B=e0->(U64 B.wP/\0<=(8:Int)/\(8:Int)<=8)/\lz (dig (8:Int).toNat B.wP)/\((dig (8:Int).toNat B.wP).length+(dig 4 (len4 B.wG)).length)*1<=140737488355328/\(dig (8:Int).toNat B.wP).length+(dig 4 (len4 B.wG)).length<=maxLen/\let F:=dig (8:Int).toNat B.wP++dig 4 (len4 B.wG)
(U64 B.wAM/\0<=(8:Int)/\(8:Int)<=8)/\lz F/\(F.length+(dig (8:Int).toNat B.wAM).length)*1<=140737488355328/\F.length+(dig (8:Int).toNat B.wAM).length<=maxLen/\(U64 B.wU/\0<=(8:Int)/\(8:Int)<=8)/\lz (F++dig (8:Int).toNat B.wAM)/\((F++dig (8:Int).toNat B.wAM).length+(dig (8:Int).toNat B.wU).length)*1<=140737488355328/\(F++dig (8:Int).toNat B.wAM).length+(dig (8:Int).toNat B.wU).length<=maxLen/\let J:Li:=F++dig (8:Int).toNat B.wAM++dig (8:Int).toNat B.wU
(U64 B.wK/\0<=(8:Int)/\(8:Int)<=8)/\lz J/\(J.length+(dig (8:Int).toNat B.wK).length)*1<=140737488355328/\J.length+(dig (8:Int).toNat B.wK).length<=maxLen/\lz (J++dig (8:Int).toNat B.wK)/\((J++dig (8:Int).toNat B.wK).length+(dig 4 (len4 (B.Txs.length:Int))).length)*1<=140737488355328/\(J++dig (8:Int).toNat B.wK).length+(dig 4 (len4 (B.Txs.length:Int))).length<=maxLen/\let U:Li:=J++dig (8:Int).toNat B.wK++dig 4 (len4 (B.Txs.length:Int))
U=U/\U=e0)<|by rintro B h _ rfl;obtain⟨M,Y⟩:=h;refine ?_;have X:(8:Int).toNat=8:=rfl;simp[maxLen,hdrS,X];exact⟨M.p,M.m,M.w,M.n⟩
def kmh:Ct:=.gp 59 [.st 7] [oA] [] λ(B:wD)=>(BR B/\VB B,namS B,())
theorem kq0:kmh.O:=qrv Bs Tryz.func59 (rA 1 (lA ⟨[1],[.tip yqb],[3,4],[og,oa],[]⟩ .no)) (khi.c (ktl.c (k31.c c0))) (Q:=∀B,BR B/\VB B->∀r0,namS B=r0->(BR B/\B.Txs.length<=64)/\hdrS B=hdrS B/\∃M M1,M 0 (hdrS B)/\∀b1 f1,M b1 f1->iF b1 B.Txs.length ((TR (ix B.Txs b1)/\TL (ix B.Txs b1))/\(U64 (idS (ix B.Txs b1))/\0<=(8:Int)/\(8:Int)<=8)/\let J:=dig (8:Int).toNat (idS (ix B.Txs b1))
iL f1 J 1 (f1++J=f1++J/\ss2 M M1 b1 (i64.wrap (b1+1)) f1 (f1++J))) (f1=r0))<|by
 rintro B h _ rfl;obtain⟨X,v⟩:=h;have hl:=v.h.l;refine⟨⟨X,hl⟩,rfl,?_⟩;refine⟨FlatI (λt=>dig 8 (idS t)) (hdrS B) B.Txs,λi _=>(B.Txs.length-i).toNat,FlatI.start,?_⟩;rintro i g hi;have Y:=hi.1;have U:=hi.len 8 (λ_ _=>by simp);rw[k7m]at U;refine⟨λF=>?_,λF=>?_⟩
 .have F:=qc F;have Z:=ix_mem B.Txs i Y F;have hn:=hi.next F qqo rfl;refine⟨Y,F,⟨X.t _ Z,(v.vt Z).tl⟩,⟨idS_u64 _,by omega,by omega⟩,rfl,?_,?_,rfl,hn⟩;.rw[ke];omega
  .rw[ke];unfold maxLen;omega
 .have F:=qd F;rw[hi.done F];unfold namS;rw[List.flatMap_map]
def klr:Ct:=.gp 25 [.st 7] [yqi] [] λ(B:wD)=>(∀x∈B.Txs,TR x/\TL x,validB B,())
theorem k5q:klr.O:=qrv Bs Tryz.func25 (rA 2 (lA (oB [3,4] [oa,oa]) .no)) (k1s.c (k3j.c c0)) (Q:=∀B,(∀x∈B.Txs,TR x/\TL x)->∀r0,validB B=r0->iD (B.wG<1) (1=r0) (iD (1048576<B.wG) (1=r0) (iD (B.wU<1) (1=r0) (iD (65536<B.wU) (1=r0) (let v1:=decide (18446744069414584321<=B.wP)
iT v1 (1=r0) (iD (18446744069414584321<=B.wAM) (1=r0) (iD (64<(B.Txs.length:Int)) (1=r0) (∃Y M1,Y 0 0/\∀b1 f1,Y b1 f1->iF f1 B.Txs.length ((TR (ix B.Txs f1)/\TL (ix B.Txs f1))/\iT (validE (ix B.Txs f1)!=0) (1=r0) (iR f1 B.Txs.length ((TR (ix B.Txs f1)/\TL (ix B.Txs f1)/\(ix B.Txs f1).wB.length<=1048576/\∀x∈(ix B.Txs f1).wB,x.wm.length<=1024)/\let r2:=encT (ix B.Txs f1) (ix B.Txs f1).wAH
let v3:=i64.wrap (b1+r2.length)
ss2 Y M1 b1 v3 f1 (i64.wrap (f1+1))))) (iD (2097152<b1) (3=r0) (0=r0))))))))))<|by
 rintro B h _ rfl;have J:¬VB0 B->1=validB B:=λh=>(kdp h).symm;refine⟨λe=>J λv=>?_,λe1=>⟨λe=>J λv=>?_,λe2=>⟨λe=>J λv=>?_,λe3=>⟨λe=>J λv=>?_,λe4=>⟨λe=>J λv=>?_,λe5=>⟨λe=>J λv=>?_,λe6=>⟨λe=>J λv=>?_,λe7=>?_⟩⟩⟩⟩⟩⟩⟩;.have:=qc e;have:=v.h0;omega
 .have:=qc e;have:=v.h1;omega
 .have:=qc e;have:=v.w0;omega
 .have:=qc e;have:=v.w1;omega
 .have:=qc e;have:=v.p;omega
 .have:=qc e;have:=v.m;omega
 .have:=qc e;have:=v.l;omega
 have e1:=qd e1;have e2:=qd e2;have e3:=qd e3;have e4:=qd e4;have e5:=qd e5;have e6:=qd e6;have e7:=qd e7;have hc:VB0 B:=⟨by omega,by omega,by omega,by omega,by omega,by omega,by omega⟩;refine⟨λw i=>0<=i/\i<=B.Txs.length/\w=sumW (B.Txs.take i.toNat)/\∀t∈B.Txs.take i.toNat,validE t=0,λ_ i=>(B.Txs.length-i).toNat,⟨by omega,by omega,by simp[sumW],by simp⟩,?_⟩;rintro w i⟨M,g1,rfl,X⟩;have hb:=sumW_bd _ X;rw[qu]at hb;refine⟨λF=>?_,λF=>?_⟩
 .have F:=qc F;have Z:=ix_mem B.Txs i M F;refine⟨M,F,h _ Z,λe=>?_,λe=>?_⟩
  .have e:validE (ix B.Txs i)≠0:=by simpa using e
   exact(kkm Z e).symm
  .have e:validE (ix B.Txs i)=0:=by simpa using e
   have hw:=k8s e;have ew:weightS (ix B.Txs i)=((encT (ix B.Txs i) (ix B.Txs i).wAH).length:Int):=qg e;refine⟨M,F,((kj _).1 e).bl (h _ Z).1,?_⟩;dsimp only;rw[<-ew];rw[inc i B.Txs.length M F qqo,wi (sumW (B.Txs.take i.toNat)+weightS (ix B.Txs i)) qqo qqo];refine⟨⟨by omega,by omega,?_,?_⟩,by(first|omega|(dsimp only;omega))⟩;.rw[kg B.Txs i M F,kpd]
   .rw[kg B.Txs i M F];intro t U;rcases qae.1 U with U|U;.exact X t U
    .rw[qah.1 U];exact e
 .have F:=qd F;rw[ql qqo]at X hb⊢;rw[kk6 hc X];refine⟨λe=>?_,λe=>?_⟩;.have e:=qc e;rw[qe qqo]
  .have e:=qd e;rw[qg qqo]
def ksz:Ct:=.gp 23 [.st 7] [yqu] [] λ(B:wD)=>(BR B/\∀x∈B.Txs,TL x,idB B,())
theorem kbe:ksz.O:=qrv Bs Tryz.func23 .no (k5q.c (kq0.c (k32.c c0))) (Q:=∀B,(BR B/\∀x∈B.Txs,TL x)->∀r0,idB B=r0->(∀x∈B.Txs,TR x/\TL x)/\iT (validB B !=0) (0=r0) ((BR B/\VB B)/\(U64 15/\By (namS B)/\(namS B).length<=1099511627775)/\hashB 15 (namS B)=r0))<|by
 rintro B h _ rfl;obtain⟨F,J⟩:=h;refine⟨λx M=>⟨F.t x M,J x M⟩,λe=>?_,λe=>?_⟩
 .have e:¬validB B=0:=by simpa using e
  unfold idB;rw[qe e]
 .have e:validB B=0:=by simpa using e
  have v:=(k20 B).1 e;have J:=v.h.l;unfold idB;rw[qg e];exact⟨⟨F,v⟩,⟨by decide,namS_by B,by rw[kql];omega⟩,rfl⟩
def kma:Ct:=.gp 40 [.st 6,.st 7] [yqi] [] λ(F:wF)(B:wD)=>(BR B/\∀x∈B.Txs,TL x,checkB F.wU B,())
theorem kph:kma.O:=qrv Bs Tryz.func40 .no (k5q.c (kbe.c c0)) (Q:=∀(U:wF)B,(BR B/\∀x∈B.Txs,TL x)->∀r0,checkB U.wU B=r0->(∀x∈B.Txs,TR x/\TL x)/\iT (validB B !=0) (validB B=r0) (iT (B.wU !=U.wU) (17=r0) ((BR B/\∀x∈B.Txs,TL x)/\B.wU≠0/\iT (Int.tmod (idB B) B.wU !=0) (17=r0) (0=r0))))<|by
 rintro U B h _ rfl;unfold checkB;refine⟨λx X=>⟨h.1.t x X,h.2 x X⟩,λe=>?_,λe=>?_⟩
 .have e:validB B≠0:=by simpa using e
  rw[qg e]
 .have e:validB B=0:=by simpa using e
  have v:=(k20 B).1 e;have Y:=v.h.w0;have F:idB B=hashB 15 (namS B):=qg e;rw[qe (by simp[e])];refine⟨λM=>?_,λM=>⟨h,by omega,λJ=>?_,λJ=>?_⟩⟩;.rw[qg (by simpa using M)]
  .rw[F]at J;rw[qe (by simpa using M),qg (by simpa using J)]
  .rw[F]at J;rw[qe (by simpa using M),qe (by simpa using J)]
def kq2:Ct:=.gp 41 [.st 5,yqu] [yqi] [] λ(B:ww)(F:Int)=>(B.L.length<=1000,fndM B.L F,())
theorem kr2:kq2.O:=qrv Bs Tryz.func41 (rA 0 (lA (oB [5] [oa]) .no)) c0 (Q:=∀(B:ww)F,B.L.length<=1000->∀r0,fndM B.L F=r0->∃U M1,U 0/\∀b1,U b1->iF b1 B.L.length (iT ((ix B.L b1).ID==F) (b1=r0) (ss1 U M1 b1 (i64.wrap (b1+1)))) (-1=r0))<|by
 rintro B F h _ rfl;refine⟨λi=>∃k:Nat,i=k/\k<=B.L.length/\∀a,a<k->((ix B.L a).ID==F)=false,λi=>(B.L.length-i).toNat,⟨0,rfl,by omega,λa J=>by omega⟩,?_⟩;rintro _⟨k,rfl,g1,Y⟩;have Z:=λa J=>by have:=Y a J;rw[ix_get _ _ qqo]at this;exact this
 refine⟨λe=>?_,λe=>?_⟩
 .have e:k<B.L.length:=by have:=qc e;omega
  rw[inc_i64 _ qqo];refine⟨by omega,by omega,λM=>?_,λM=>⟨⟨k+1,rfl,by omega,λa J=>?_⟩,by(dsimp only;omega)⟩⟩;.rw[ix_get _ _ e]at M;have X:B.L.findIdx λx=>x.ID==F=k:=(List.findIdx_eq e).2 ⟨M,λj hj=>Z j hj⟩;unfold fndM;rw[X,qg e]
  .rcases qaw a k with h|h;.exact Y a h
   .rw[show a=k by omega];exact M
 .have e:k=B.L.length:=by have:=qd e;omega
  have X:B.L.findIdx λx=>x.ID==F=B.L.length:=List.findIdx_eq_length.2 λx hx=>by obtain⟨j,hj,rfl⟩:=qby hx;exact Z j qqo
  unfold fndM;rw[X,qe (Nat.lt_irrefl _)]
def ks5:Ct:=.gp 42 [.sl yqi,yqi] [.bool] [] λ(B:Li)(F:Int)=>(B.length<=1000,decide (F∈B),())
theorem kkf:ks5.O:=qrv Bs Tryz.func42 (rA 0 (lA (oB [5] [oa]) .no)) c0 (Q:=∀B(J:Int),B.length<=1000->∀r0,decide (J∈B)=r0->∃U Y,U 0/\∀b1,U b1->iF b1 B.length (iT (ix B b1==J) (true=r0) (ss1 U Y b1 (i64.wrap (b1+1)))) (false=r0))<|by
 rintro B J h _ rfl;refine⟨λi=>∃k:Nat,i=k/\k<=B.length/\J∉B.take k,λi=>(B.length-i).toNat,⟨0,rfl,by omega,by simp⟩,?_⟩;rintro _⟨k,rfl,Z,X⟩;refine⟨λe=>?_,λe=>?_⟩
 .have e:k<B.length:=by have:=qc e;omega
  rw[inc_i64 _ qqo,ix_get _ _ e];refine⟨by omega,by omega,λF=>?_,λF=>⟨⟨k+1,rfl,by omega,?_⟩,by(dsimp only;omega)⟩⟩
  .have F:B[k]=J:=by simpa using F
   exact(qao (F▸qz e)).symm
  .have F:¬B[k]=J:=by simpa using F
   rw[qt e];intro M;rcases qae.1 M with M|M;.exact X M
   .exact F (qah.1 M).symm
 .have e:k=B.length:=by have:=qd e;omega
  rw[ql qqo]at X;exact(qat X).symm
def kj8:Ct:=.gp 46 [.sl yqi,.sl yqi] [yqi] [] λ(B F:Li)=>(B.length<=1000/\F.length<=1000,beyS B F,())
theorem klx:kj8.O:=qrv Bs Tryz.func46 (rA 1 (lA (oB [5,6] [oa,oa]) .no)) (kkf.c c0) (Q:=∀B F,B.length<=1000/\F.length<=1000->∀r0,beyS B F=r0->∃J U,J 0 0/\∀b1 f1,J b1 f1->iF f1 B.length (F.length<=1000/\iT (! decide (ix B f1∈F)) (ss2 J U b1 (i64.wrap (b1+1)) f1 (i64.wrap (f1+1))) (ss2 J U b1 b1 f1 (i64.wrap (f1+1)))) (b1=r0))<|by
 rintro B F h _ rfl;obtain⟨Z,h1⟩:=h;refine⟨λb f=>∃k:Nat,f=k/\k<=B.length/\b=beyS (B.take k) F,λ_ f=>(B.length-f).toNat,⟨0,rfl,by omega,rfl⟩,?_⟩;rintro _ _⟨k,rfl,g1,rfl⟩;have Y:beyS (B.take k) F<=k/\0<=beyS (B.take k) F:=by have:=List.length_filter_le (λx=>!decide (x∈F)) (B.take k);rw[qu]at this;unfold beyS;omega
 refine⟨λe=>?_,λe=>?_⟩
 .have e:k<B.length:=by have:=qc e;omega
  have X:=qt e;rw[ix_get _ _ e,inc_i64 _ qqo,wi (beyS (B.take k) F+1) qqo qqo];refine⟨by omega,by omega,h1,λM=>⟨⟨k+1,rfl,by omega,?_⟩,by(dsimp only;omega)⟩,λM=>⟨⟨k+1,rfl,by omega,?_⟩,by(dsimp only;omega)⟩⟩;.unfold beyS;rw[X,List.filter_append,qi,List.filter_cons,qg M];simp
  .unfold beyS;rw[X,List.filter_append,qi,List.filter_cons,qe (by rw[M];simp)];simp
 .have e:k=B.length:=by have:=qd e;omega
  rw[ql qqo]
def kj3:Ct:=.bp 12 [.st 5,.st 7] [.st 5,yqi,yqi,yqi] λ(B:ww)(F:wD)=>(MOk B/\GB F/\(fndM B.L (idB F)<0->B.L.length+1<=B.wz)/\B.wz<=1000000000000,rsubmitM B F,λR=>(R.c,R.u,R.a,R.e,()))
abbrev k1b(R:RSub)(o0:Bool)(o1 o2:Int)(o3:List wN)(o4 o5:List wAi)(o6 o7 o8 o9 B F J M U:Int)(X:List we)(Y Z aa ab ac:Int):Prop:=o0=R.c.wAu/\o1=R.c.wAk/\o2=R.c.wAj/\o3=R.c.wAm/\o4=R.c.wAl/\o5=R.c.wAf/\o6=R.c.wAs/\o7=R.c.wAn/\o8=R.c.wAI/\o9=R.c.wAE/\B=R.c.wAA/\F=R.c.wAT/\J=R.c.wAe/\M=R.c.wz/\U=R.c.wAo/\X=R.c.L/\Y=R.c.Tip/\Z=R.c.wAv/\aa=R.u/\ab=R.a/\ac=R.e
theorem kle:kj3.O:=qbx Bs [141,144,146,147] Tryz.func12 (.r 4 (.jn (oB [10] [oa]) [] .no [] (.nd [] (oC 71) [] (.nd [] (oC 84) [] (.nd [] (lA (oB [11] [oa]) .no) [] (.r 1 (.jn ⟨[179],[.cells [zqu,zqi,zqu,zqu,zqu,.d (.sl (.st 3)),zqu,zqi,zqu]],[],[],[]⟩ [] .no [] (.r 2 (.nd [] (.jn (oB [190] [oc]) [] .no [] (nA (.r 0 (.rt [.frzc 276 2 15])))) [] (.r 0 (.nd [.frzc 276 0 15] .no [] (.jn ⟨[0,324],[.cells [.d .bool,zqu,zqi,.d (.sl (.st 0)),.d (.sl (.st 1)),.d (.sl (.st 1)),zqi,zqi,zqi,zqi,zqi,zqu,zqi,zqi,zqu,.own 1,zqi,zqi],.tip (.st 4)],[],[],[]⟩ [] (.r 0 (oC 223)) [] .no)))))))))))) x0 (kph.c (kbe.c (kr2.c (kc0.c (kkf.c (kpg.c (kb7.c (kbs.c (klx.c c0))))))))) (Q:=∀(B:ww)(F:wD),MOk B/\GB F/\(fndM B.L (idB F)<0->(B.L.length:Int)+1<=B.wz)/\B.wz<=1000000000000->∀R,rsubmitM B F=R->(BR F/\∀x∈F.Txs,TL x)/\let r4:Int:=checkB (wF.mk B.wAs B.wAn B.wAI B.wAE B.wAA B.wAT B.wAe B.wz B.wAo).wU F
((r4 !=0)=true->k1b R B.wAu B.wAk B.wAj B.wAm B.wAl B.wAf B.wAs B.wAn B.wAI B.wAE B.wAA B.wAT B.wAe B.wz B.wAo B.L B.Tip B.wAv 0 0 r4)/\((r4 !=0)=false->(BR F/\∀x∈F.Txs,TL x)/\B.L.length<=1000/\(decide (0<=fndM B.L (idB F))=true->k1b R B.wAu B.wAk B.wAj B.wAm B.wAl B.wAf B.wAs B.wAn B.wAI B.wAE B.wAA B.wAT B.wAe B.wz B.wAo B.L B.Tip B.wAv 0 0 5)/\(decide (0<=fndM B.L (idB F))=false->∀J1:oD,(∀(U:Int),(∀J2:oE,(∀(f1:Bool),(f1=true->k1b R B.wAu B.wAk B.wAj B.wAm B.wAl B.wAf B.wAs B.wAn B.wAI B.wAE B.wAA B.wAT B.wAe B.wz B.wAo B.L B.Tip B.wAv 0 0 18)/\(f1=false->∀J3:oE,(∀(i1:Bool),(i1=true->k1b R B.wAu B.wAk B.wAj B.wAm B.wAl B.wAf B.wAs B.wAn B.wAI B.wAE B.wAA B.wAT B.wAe B.wz B.wAo B.L B.Tip B.wAv 0 0 19)/\(i1=false->∃(I1:oD)(M1:oG),I1 0/\∀k1,I1 k1->(decide (k1<(F.Txs.length:Int))=true->0<=k1/\k1<(F.Txs.length:Int)/\((wAx.mk B.wAu B.wAk B.wAj B.wAm B.wAl B.wAf).wAr=false/\(wF.mk B.wAs B.wAn B.wAI B.wAE B.wAA B.wAT B.wAe B.wz B.wAo).wd=2/\TR (ix F.Txs k1)/\TL (ix F.Txs k1))/\let r7:Int:=txE (wF.mk B.wAs B.wAn B.wAI B.wAE B.wAA B.wAT B.wAe B.wz B.wAo) (ix F.Txs k1)
((r7 !=0)=true->k1b R B.wAu B.wAk B.wAj B.wAm B.wAl B.wAf B.wAs B.wAn B.wAI B.wAE B.wAA B.wAT B.wAe B.wz B.wAo B.L B.Tip B.wAv 0 0 r7)/\((r7 !=0)=false->ss1 I1 M1 k1 (i64.wrap (k1+1))))/\(decide (k1<(F.Txs.length:Int))=false->((rulesE (rM B)=0/\0<=B.wAT)/\WO B.L/\U<(B.L.length:Int)/\B.L.length<=100/\(∀b∈bksM B.L (wyM B.L U),BR' b/\b.Txs.length<=4)/\(auGo (bksM B.L (wyM B.L U)) (newS (rM B))).e=0)/\let r8:=mOf (auGo (bksM B.L (wyM B.L U)) (newS (rM B))).s
((∃(s:PS)(c:Nat),r8=mOf s/\c+F.Txs.length<=790/\PI s c 0)/\BR' F)/\(((rapply r8 F).e !=0)=true->k1b R B.wAu B.wAk B.wAj B.wAm B.wAl B.wAf B.wAs B.wAn B.wAI B.wAE B.wAA B.wAT B.wAe B.wz B.wAo B.L B.Tip B.wAv 0 0 (rapply r8 F).e)/\(((rapply r8 F).e !=0)=false->∀J4:Int->Int->Int->Int->Int->List wh->Int->Int->Int->Prop,(∀(l1 m1 n1 o1 q1:Int)(s1:List wh)(t1 u1 x1:Int),((WO B.L/\B.Tip<(B.L.length:Int)/\B.L.length<=1000)/\lz ([]:List we)/\(([]:List we).length+B.L.length)*88<=140737488355328/\([]:List we).length+B.L.length<=maxLen/\lz (([]:List we)++B.L)/\lz [we.mk l1 m1 n1 o1 q1 s1 t1 u1 x1]/\((([]:List we)++B.L).length+[we.mk l1 m1 n1 o1 q1 s1 t1 u1 x1].length)*88<=140737488355328/\(([]:List we)++B.L).length+[we.mk l1 m1 n1 o1 q1 s1 t1 u1 x1].length<=maxLen/\let J:List we:=([]:List we)++B.L++[we.mk l1 m1 n1 o1 q1 s1 t1 u1 x1]
let Y:Int:=i64.wrap ((J.length:Int)-1)
∀J5:oE,(∀(y1:Bool),(y1=true->lz J/\k1b R B.wAu B.wAk B.wAj B.wAm B.wAl B.wAf B.wAs B.wAn B.wAI B.wAE B.wAA B.wAT B.wAe B.wz B.wAo J B.Tip B.wAv 0 0 0)/\(y1=false->lz J/\(WO (ww.mk B.wAu B.wAk B.wAj B.wAm B.wAl B.wAf B.wAs B.wAn B.wAI B.wAE B.wAA B.wAT B.wAe B.wz B.wAo J Y B.wAv).L/\Y<((ww.mk B.wAu B.wAk B.wAj B.wAm B.wAl B.wAf B.wAs B.wAn B.wAI B.wAE B.wAA B.wAT B.wAe B.wz B.wAo J Y B.wAv).L.length:Int)/\(ww.mk B.wAu B.wAk B.wAj B.wAm B.wAl B.wAf B.wAs B.wAn B.wAI B.wAE B.wAA B.wAT B.wAe B.wz B.wAo J Y B.wAv).L.length<=1000)/\let aa:Li:=wyM (ww.mk B.wAu B.wAk B.wAj B.wAm B.wAl B.wAf B.wAs B.wAn B.wAI B.wAE B.wAA B.wAT B.wAe B.wz B.wAo J Y B.wAv).L Y
∀J6:Bool->Int->Int->List wN->List wAi->List wAi->Int->Int->Int->Int->Int->Int->Int->Int->Int->Int->Int->List we->Prop,(∀(b2:Bool)(f2 i2:Int)(k2:List wN)(l2 m2:List wAi)(n2 o2 q2 s2 t2 u2 x2 y2 b3 f3 i3:Int)(k3:List we),((wyM B.L B.Tip).length<=1000/\aa.length<=1000)/\(aa.length<=1000/\(wyM B.L B.Tip).length<=1000)/\k1b R b2 f2 i2 k2 l2 m2 n2 o2 q2 s2 t2 u2 x2 y2 b3 k3 f3 i3 (beyS (wyM B.L B.Tip) aa) (beyS aa (wyM B.L B.Tip)) 0->J6 b2 f2 i2 k2 l2 m2 n2 o2 q2 s2 t2 u2 x2 y2 b3 f3 i3 k3)->let ab:Int:=i64.wrap ((aa.length:Int)-1)
∀J7:oE,(∀(l3:Bool),(l3=true->0<=i64.wrap (ab-B.wz)/\i64.wrap (ab-B.wz)<(aa.length:Int)/\let ax:Int:=ix aa (i64.wrap (ab-B.wz))
J=J/\J6 B.wAu B.wAk B.wAj B.wAm B.wAl B.wAf B.wAs B.wAn B.wAI B.wAE B.wAA B.wAT B.wAe B.wz B.wAo Y ax J)/\(l3=false->J=J/\J6 B.wAu B.wAk B.wAj B.wAm B.wAl B.wAf B.wAs B.wAn B.wAI B.wAE B.wAA B.wAT B.wAe B.wz B.wAo Y B.wAv J)->J7 l3)->let ai:Bool:=decide (0<=i64.wrap (ab-B.wz))
(ai=true->(decide (B.wAv<0)=true->J7 true)/\(decide (B.wAv<0)=false->0<=B.wAv/\B.wAv<(J.length:Int)/\let ay:Int:=i64.wrap (i64.wrap (ab-B.wz)+1)
let az:Bool:=decide ((ix J B.wAv).wBE<ay)
J7 az))/\(ai=false->J7 false))->J5 y1)->(decide (0<=B.Tip)=true->(0<=B.Tip/\B.Tip<(J.length:Int))/\(0<=B.Tip/\B.Tip<(J.length:Int))/\(decide (x1<(ix J B.Tip).wBP)=true->J5 true)/\(decide (x1<(ix J B.Tip).wBP)=false->(0<=B.Tip/\B.Tip<(J.length:Int))/\(0<=B.Tip/\B.Tip<(J.length:Int))/\(((ix J B.Tip).wBP==x1)=true->(0<=B.Tip/\B.Tip<(J.length:Int))/\(0<=B.Tip/\B.Tip<(J.length:Int))/\J5 (decide ((ix J B.Tip).ID<idB F)))/\(((ix J B.Tip).wBP==x1)=false->J5 false)))/\(decide (0<=B.Tip)=false->J5 false))->J4 l1 m1 n1 o1 q1 s1 t1 u1 x1)->(decide (0<=U)=true->0<=U/\U<(B.L.length:Int)/\let v9:Int:=u64.wrap (F.wU+(ix B.L U).wBP)
J4 F.wP F.wG F.wAM F.wU F.wK F.Txs (idB F) U v9)/\(decide (0<=U)=false->J4 F.wP F.wG F.wAM F.wU F.wK F.Txs (idB F) U F.wU))))->J3 i1)->(decide (0<=B.wAv)=true->(WO B.L/\U<(B.L.length:Int)/\B.L.length<=1000)/\(wyM B.L U).length<=1000/\J3 ! decide (B.wAv∈wyM B.L U))/\(decide (0<=B.wAv)=false->J3 false))->J2 f1)->((F.wG==1)=true->((F.wP !=0)=true->J2 true)/\((F.wP !=0)=false->(decide (1<F.wG)=true->(decide (U<0)=true->J2 true)/\(decide (U<0)=false->0<=U/\U<(B.L.length:Int)/\let v5:Bool:=(ix B.L U).wBE !=i64.wrap (F.wG-1)
J2 v5))/\(decide (1<F.wG)=false->J2 false)))/\((F.wG==1)=false->(decide (1<F.wG)=true->(decide (U<0)=true->J2 true)/\(decide (U<0)=false->0<=U/\U<(B.L.length:Int)/\let v6:Bool:=(ix B.L U).wBE !=i64.wrap (F.wG-1)
J2 v6))/\(decide (1<F.wG)=false->J2 false)))->J1 U)->(decide (1<F.wG)=true->B.L.length<=1000/\J1 (fndM B.L F.wP))/\(decide (1<F.wG)=false->J1 (-1)))))<|by
 rintro B F h R X;obtain⟨Z,hG,aj,bh⟩:=h;have bg:=Z.n;have T:∀{P:Prop},P->P:=λh=>h;unfold rsubmitM at X;have ak:BR F/\∀x∈F.Txs,TL x:=⟨hG.r,hG.l⟩;refine⟨ak,λe=>?_,λe=>⟨ak,by omega,λe2=>?_,λe2=>?_⟩⟩;.rw[qg (by simpa using e)]at X;subst X;exact by repeat' first|apply qaa|exact rfl
 .rw[qe (by simpa using e),qg (qc e2)]at X;subst X;exact by repeat' first|apply qaa|exact rfl
 have aj:=aj (by have:=qd e2;omega);rw[qe (by simpa using e),qe (qd e2)]at X;obtain⟨bi,ac⟩:=parM_lt B.L F;intro J1 al;suffices M:J1 (parM B.L F)by
  refine⟨λe3=>⟨by omega,?_⟩,λe3=>?_⟩;.have:parM B.L F=fndM B.L F.wP:=qg (qc e3);rw[<-this];exact M
  .have:parM B.L F=-1:=qe (qd e3);rw[<-this];exact M
 apply al;clear al;intro J2 am;suffices M:J2 (parX B.L F)by
  unfold parX at M;generalize parM B.L F=q at*;have sub:(F.wG==1&&F.wP !=0)=false->(decide (1<F.wG)=true->(decide (q<0)=true->J2 true)/\(decide (q<0)=false->0<=q/\q<(B.L.length:Int)/\J2 ((ix B.L q).wBE !=i64.wrap (F.wG-1))))/\(decide (1<F.wG)=false->J2 false):=λhx=>by
   rw[hx,qfa]at M;refine⟨λe1=>⟨λe2=>?_,λe2=>⟨by have:=qd e2;omega,ac,?_⟩⟩,λe1=>?_⟩;.rw[e1,e2]at M;exact M
   .rw[e1,e2]at M;exact M
   .rw[e1]at M;exact M
  exact⟨λa=>⟨λb=>by rw[a,b]at M;exact M,λb=>sub (by rw[a,b];rfl)⟩,λa=>sub (by rw[a];rfl)⟩
 apply am;clear am;refine⟨λe3=>?_,λe3=>?_⟩;.rw[qg e3]at X;subst X;exact by repeat' first|apply qaa|exact rfl
 rw[qe (by rw[e3];simp)]at X;intro J3 ao;refine⟨λe4=>?_,λe4=>ao _ ?_⟩;.have:=qc e4;have:=Z.f;omega
 clear ao J3;refine⟨λe5=>(by cases e5),λ_=>?_⟩;have aq:wF.mk B.wAs B.wAn B.wAI B.wAE B.wAA B.wAT B.wAe B.wz B.wAo=rM B:=rfl;simp only[aq];have bj:=hG.t;refine⟨λi=>∃k:Nat,i=(k:Int)/\k<=F.Txs.length/\txsE (rM B) (F.Txs.drop k)=txsE (rM B) F.Txs,λi=>(F.Txs.length-i).toNat,⟨0,rfl,by omega,rfl⟩,?_⟩;rintro _⟨k,rfl,g1,g2⟩;refine⟨λe5=>?_,λe5=>?_⟩
 .have e5:k<F.Txs.length:=by have:=qc e5;omega
  have hm:=qz e5;rw[kkb e5]at g2;rw[ix_get _ _ e5,inc_i64 _ qqo];refine⟨by omega,by omega,⟨Z.o,Z.md,hG.r.t _ hm,hG.l _ hm⟩,λe6=>?_,λe6=>⟨⟨k+1,rfl,by omega,?_⟩,by(dsimp only;omega)⟩⟩
  .have e6:txE (rM B) F.Txs[k]≠0:=by simpa using e6
   rw[qg e6]at g2;rw[<-g2,qg e6]at X;subst X;exact by repeat' first|apply qaa|exact rfl
  .have e6:txE (rM B) F.Txs[k]=0:=by simpa using e6
   rw[qe (by simp[e6])]at g2;exact g2
 replace e5:k=F.Txs.length:=by have:=qd e5;omega
 rw[qas qqo]at g2;have g2:txsE (rM B) F.Txs=0:=g2.symm;rw[qe (by rw[g2];simp)]at X;clear g1 g2 e5 k;obtain⟨ad,ae⟩:=Z.b (parM B.L F) ac;have hP:=new_PI Z.r Z.w;obtain⟨ba,_⟩:=wyM_len Z.L B.L.length (parM B.L F) ac qqo;have bb:(bksM B.L (wyM B.L (parM B.L F))).length=(wyM B.L (parM B.L F)).length:=qp ..;have key:=auGo_PI (bksM B.L (wyM B.L (parM B.L F))) (newS (rM B)) 0 hP (λb hb=>(ad b hb).1) (λb hb=>(ad b hb).2) qqo ae;have hA:=kkg key.1 (b:=F) qqo hG.r';refine⟨⟨⟨Z.r,Z.w⟩,Z.L,ac,by omega,ad,ae⟩,?_⟩;rw[hA];refine⟨⟨⟨_,_,rfl,qqo,key.1⟩,hG.r'⟩,λe6=>?_,λe6=>?_⟩;.rw[qg (by simpa[staM]using e6)]at X;subst X;exact by repeat' first|apply qaa|exact rfl
 rw[qe (by simpa[staM]using e6)]at X;clear hA key bb ba hP ad ae e6 aq;intro J4 au;suffices M:J4 F.wP F.wG F.wAM F.wU F.wK F.Txs (idB F) (parM B.L F) (totM B.L F)by
  unfold totM at M;refine⟨λe7=>⟨qc e7,ac,?_⟩,λe7=>?_⟩;.rw[qg (qc e7)]at M;exact M
  .rw[qe (qd e7)]at M;exact M
 apply au;clear au J4;have hN:([]:List we)++B.L++[we.mk F.wP F.wG F.wAM F.wU F.wK F.Txs (idB F) (parM B.L F) (totM B.L F)]=newM B.L F:=rfl;have bc:=kn4 B.L F;obtain⟨bk,ag⟩:=Z.t;rw[hN];refine⟨⟨Z.L,ag,by omega⟩,trivial,by simp;omega,by simp;unfold maxLen;omega,trivial,trivial,by simp;omega,by simp;unfold maxLen;omega,?_⟩;rw[bc,wi (((B.L.length+1:Nat):Int)-1) qqo qqo,show((B.L.length+1:Nat):Int)-1=(B.L.length:Int)by omega];intro J5 aw;have hT:∀h:0<=B.Tip,ix (newM B.L F) B.Tip=ix B.L B.Tip:=λh=>ix_old _ _ h ag;suffices M:J5 (lesM B F)by
  unfold lesM at M;refine⟨λe7=>?_,λe7=>?_⟩
  .have e8:=qc e7;rw[hT e8];rw[e7,Bool.true_and]at M;refine⟨⟨e8,by omega⟩,⟨e8,by omega⟩,λe9=>?_,λe9=>⟨⟨e8,by omega⟩,⟨e8,by omega⟩,λah=>⟨⟨e8,by omega⟩,⟨e8,by omega⟩,?_⟩,λah=>?_⟩⟩;.rw[e9]at M;exact M
   .rw[e9,ah]at M;exact M
   .rw[e9,ah]at M;exact M
  .rw[e7]at M;exact M
 apply aw;clear aw J5;refine⟨λe7=>⟨trivial,?_⟩,λe7=>⟨trivial,⟨WO_new Z.L F,by omega,by omega⟩,?_⟩⟩;.rw[qg e7]at X;subst X;exact by repeat' first|apply qaa|exact rfl
 rw[qe (by rw[e7];simp)]at X;obtain⟨w1,_⟩:=wyM_len (WO_new Z.L F) (B.L.length+1) (B.L.length:Int) qqo qqo;obtain⟨w2,_⟩:=wyM_len Z.L (B.L.length+1) B.Tip ag qqo;intro J6 bd;rw[wi (((wyM (newM B.L F) (B.L.length:Int)).length:Int)-1) qqo qqo,wi (((wyM (newM B.L F) (B.L.length:Int)).length:Int)-1-B.wz) qqo qqo];intro J7 bf;refine⟨λe8=>?_,λ_=>bf _ ⟨λe9=>(by cases e9),λ_=>⟨trivial,bd _ _ _ _ _ _ _ _ _ _ _ _ _ _ _ _ _ _ ⟨⟨by omega,by omega⟩,⟨by omega,by omega⟩,?_⟩⟩⟩⟩;.have:=qc e8;omega
 .subst X;exact by repeat' first|apply qaa|exact rfl
def kmc:Ct:=.b (gk 18 [oo] yC (.tup [ou,oa])) (.int .i64::.int .i64::.int .i64::.int .i64::.int .i64::.int .u64::.int .i64::.int .i64::.int .u64::.sl yqu::.int .u64::.int .i64::.bool::yG) (.int .u64::.int .i64::.int .i64::.int .i64::.int .i64::.int .i64::.int .i64::.int .u64::.int .i64::.int .i64::.int .u64::.sl yqu::.int .u64::.int .i64::.bool::yG) λ(Ab Ad Ac Aj Ak Ag Al Ah Ai:Int)(B:Li)(Aq Af:Int)(Ap:Bool)(As At:Int)(Au:List wN)(Az A0 A7 A8 A9 Ba Bb Bc Bd Be Av:Int)(Aw:Li)(Ax:List wA)(Ay:Int)(M:Li)(U:List wR)(X:Lb)(Y:Li)(Z:Lb)(aa:List Li)(ab:Lb)(ac:Lo)(w7 w9:Li)(ad:List wT)(F:Li)(J:Lo)=>(B.length<=1000,(),λ_=>((if B=[]then 0 else ix B ((B.length:Int)-1):Int),(B.length:Int),Ab,Ad,Ac,Aj,Ak,Ag,Al,Ah,Ai,B,Aq,Af,Ap,As,At,Au,Az,A0,A7,A8,A9,Ba,Bb,Bc,Bd,Be,Av,Aw,Ax,Ay,M,U,X,Y,Z,aa,ab,ac,w7,w9,ad,F,J,()))
theorem kqc:kmc.O:=pbv Bs Tryz.func18 .no c0 (Q:=∀(Ab Ad Ac Aj Ak Ag Al Ah Ai:Int)B(Aq Af:Int)(Ap:Bool)(As At:Int)(Au:List wN)(Az A0 A7 A8 A9 Ba Bb Bc Bd Be Av:Int)(Aw:Li)(Ax:List wA)(Ay:Int)(U:Li)(X:List wR)(Y:Lb)(Z:Li)(aa:Lb)(ab:List Li)(ac:Lb)(ad:Lo)(w7 w9:Li)(M:List wT)(F:Li)(J:Lo),B.length<=1000->∀R:Unit,()=R->iT ((B.length:Int)==0) (lz M/\lz w9/\lz w7/\0=(if B=[]then 0 else ix B ((B.length:Int)-1):Int)/\0=(B.length:Int)/\Ab=Ab/\Ad=Ad/\Ac=Ac/\Aj=Aj/\Ak=Ak/\Ag=Ag/\Al=Al/\Ah=Ah/\Ai=Ai/\B=B/\Aq=Aq/\Af=Af/\Ap=Ap/\As=As/\At=At/\Au=Au/\Az=Az/\A0=A0/\A7=A7/\A8=A8/\A9=A9/\Ba=Ba/\Bb=Bb/\Bc=Bc/\Bd=Bd/\Be=Be/\Av=Av/\Aw=Aw/\Ax=Ax/\Ay=Ay/\U=U/\X=X/\Y=Y/\Z=Z/\aa=aa/\ab=ab/\ac=ac/\ad=ad/\w7=w7/\w9=w9/\M=M/\F=F/\J=J) (let v2:Int:=i64.wrap ((B.length:Int)-1)
iR v2 B.length (lz M/\lz w9/\lz w7/\ix B v2=(if B=[]then 0 else ix B ((B.length:Int)-1):Int)/\(B.length:Int)=(B.length:Int)/\Ab=Ab/\Ad=Ad/\Ac=Ac/\Aj=Aj/\Ak=Ak/\Ag=Ag/\Al=Al/\Ah=Ah/\Ai=Ai/\B=B/\Aq=Aq/\Af=Af/\Ap=Ap/\As=As/\At=At/\Au=Au/\Az=Az/\A0=A0/\A7=A7/\A8=A8/\A9=A9/\Ba=Ba/\Bb=Bb/\Bc=Bc/\Bd=Bd/\Be=Be/\Av=Av/\Aw=Aw/\Ax=Ax/\Ay=Ay/\U=U/\X=X/\Y=Y/\Z=Z/\aa=aa/\ab=ab/\ac=ac/\ad=ad/\w7=w7/\w9=w9/\M=M/\F=F/\J=J)))<|by
 rintro Ab Ad Ac Aj Ak Ag Al Ah Ai B Aq Af Ap As At Au Az A0 A7 A8 A9 Ba Bb Bc Bd Be Av Aw Ax Ay U X Y Z aa ab ac ad w7 w9 M F J h R hR;refine⟨λe=>?_,λe=>?_⟩
 .have e:(B.length:Int)=0:=by simpa using e
  have e2:B=[]:=qch.1 qqo;subst e2;exact by repeat' first|apply qaa|exact rfl|exact qo
 .have e:¬(B.length:Int)=0:=by simpa using e
  rw[qe λhh=>e (by rw[hh];rfl),wi ((B.length:Int)-1) qqo qqo];exact⟨by omega,by omega,by repeat' first|apply qaa|exact rfl|exact qo⟩
def kfp:Ct:=.t (gk 19 [oo] yJ (.one oa)) yQ yN [] λ(M U X Y Z Ak Ag Al Ah Ai Am:Int)(Ae:Li)(Af:List wA)(Ao:Int)(w1 w3:Li)(J:List wT)(B:Li)(F:Lo)=>((J.length:Int),M,U,X,Y,Z,Ak,Ag,Al,Ah,Ai,Am,Ae,Af,Ao,w1,w3,J,B,F,())
theorem khs:kfp.O:=ptv Bs Tryz.func19 .no c0 (Q:=∀X Y Z Ac Aj Ak Ag Al Ah Ai Am Ae Af Ao M U J B F,∀r0,J.length=r0->∀Bg:Int,X=Bg->∀Bf:Int,Y=Bf->∀Bh:Int,Z=Bh->∀Bk:Int,Ac=Bk->∀d0_4:Int,Aj=d0_4->∀d0_5:Int,Ak=d0_5->∀d0_6:Int,Ag=d0_6->∀d0_7:Int,Al=d0_7->∀d0_8:Int,Ah=d0_8->∀d0_9:Int,Ai=d0_9->∀d0_10:Int,Am=d0_10->∀d0_11:Li,Ae=d0_11->∀d0_14:List wA,Af=d0_14->∀d0_15:Int,Ao=d0_15->∀e1:Li,M=e1->∀e3:Li,U=e3->∀e4:List wT,J=e4->∀e5k:Li,B=e5k->∀e5v:Lo,F=e5v->lz J/\lz U/\lz M/\(J.length:Int)=r0/\X=Bg/\Y=Bf/\Z=Bh/\Ac=Bk/\Aj=d0_4/\Ak=d0_5/\Ag=d0_6/\Al=d0_7/\Ah=d0_8/\Ai=d0_9/\Am=d0_10/\Ae=d0_11/\Af=d0_14/\Ao=d0_15/\M=e1/\U=e3/\J=e4/\B=e5k/\F=e5v)<|by
 rintro X Y Z Ac Aj Ak Ag Al Ah Ai Am Ae Af Ao M U J B F;repeat rintro _ rfl
 exact by repeat' first|apply qaa|exact rfl|exact qo
def k62:Ct:=.gp 57 [.sl (.st 12)] [.sl (.st 12)] [] λ(B:List wA)=>(B.length<=100000,B,())
theorem k6j:k62.O:=qrv Bs Tryz.func57 .no c0 (Q:=∀B,B.length<=100000->∀r0,B=r0->∀z4,(z4=true->B=[])->iT z4 ([]=r0) ((([]:List wA).length+B.length)*24<=140737488355328/\([]:List wA).length+B.length<=maxLen/\([]:List wA)++B=r0))<|by rintro B h _ rfl;exactλz F=>⟨λh=>(F h).symm,λ_=>⟨by simp;omega,by simp;unfold maxLen;omega,rfl⟩⟩
def kef:Ct:=.b (gk 20 [oo] yJ (.one (.agg [.d (.sl (.st 12))]))) yQ [.st 20,yqi,yqi,yqi,yqi,yqi,yqu,yqi,yqi,yqu,yqi,yqi,oq,.sl (.st 12),yqu,oq,oq,.sl (.st 13),oq,ow] λ(M U X Y Z Ak Ag Al Ah Ai Am:Int)(Ae:Li)(B:List wA)(Ao:Int)(w1 w3:Li)(w4:List wT)(F:Li)(J:Lo)=>(B.length<=100000,(),λ_=>(wAR.mk B,M,U,X,Y,Z,Ak,Ag,Al,Ah,Ai,Am,Ae,B,Ao,w1,w3,w4,F,J,()))
theorem kg5:kef.O:=pbv Bs Tryz.func20 .no (k6j.c c0) (Q:=∀(Y Z Ad Ac Aj Ak Ag Al Ah Ai Am:Int)(Ae:Li)B(Ao:Int)(M U:Li)(X:List wT)(F:Li)(J:Lo),B.length<=100000->∀R,()=R->B.length<=100000/\lz X/\lz U/\lz M/\B=(wAR.mk B).wE/\Y=Y/\Z=Z/\Ad=Ad/\Ac=Ac/\Aj=Aj/\Ak=Ak/\Ag=Ag/\Al=Al/\Ah=Ah/\Ai=Ai/\Am=Am/\Ae=Ae/\B=B/\Ao=Ao/\M=M/\U=U/\X=X/\F=F/\J=J)<|by rintro Y Z Ad Ac Aj Ak Ag Al Ah Ai Am Ae B Ao M U X F J h R hR;exact⟨h,by repeat' first|apply qaa|exact rfl|exact qo⟩
def kcv:Ct:=.tp 17 [] [.st 6] [] (wF.mk 2 2 0 0 0 10 3 9 1,())
theorem kf9:kcv.O:=qtv Bs Tryz.func17 .no c0 (Q:=∀r0,wF.mk 2 2 0 0 0 10 3 9 1=r0->2=r0.wd/\2=r0.wH/\0=r0.wS/\0=r0.wO/\0=r0.wM/\10=r0.wZ/\3=r0.wt/\9=r0.wW/\1=r0.wU)<|by rintro _ rfl;exact by repeat' first|apply qaa|exact rfl|exact qo
def kh4:Ct:=.tp 4 [] [.bool] [] (true,())
theorem kjk:kh4.O:=qtv Bs Tryz.func4 .no (k7q.c (kf9.c (kca.c (k6x.c (k6v.c (kqc.c (k80.c (khs.c (kg5.c c0))))))))) (Q:=∀r0,true=r0->((rulesE (wF.mk 2 2 0 0 0 10 3 9 1)=0/\(wF.mk 2 2 0 0 0 10 3 9 1).wd=2/\false=false)/\let J:=wF.mk 2 2 0 0 0 10 3 9 1
let U:=newS (wF.mk 2 2 0 0 0 10 3 9 1)
iT (0 !=0) (false=r0) (lz U.p/\lz U.r/\lz U.l/\(SCh (CS.mk (wF.mk (wF.mk 2 2 0 0 0 10 3 9 1).wd (wF.mk 2 2 0 0 0 10 3 9 1).wH J.wS J.wO J.wM (wF.mk 2 2 0 0 0 10 3 9 1).wZ (wF.mk 2 2 0 0 0 10 3 9 1).wt J.wW (wF.mk 2 2 0 0 0 10 3 9 1).wU) [] [] [] U 0 0) (wD.mk 0 1 5 1 0 [])/\false=false/\[]=([]:Lb)/\[]=([]:Li))/\let B:=subS (CS.mk (wF.mk (wF.mk 2 2 0 0 0 10 3 9 1).wd (wF.mk 2 2 0 0 0 10 3 9 1).wH J.wS J.wO J.wM (wF.mk 2 2 0 0 0 10 3 9 1).wZ (wF.mk 2 2 0 0 0 10 3 9 1).wt J.wW (wF.mk 2 2 0 0 0 10 3 9 1).wU) ([]:Li) ([]:List wR) ([]:Li) U (0:Int) (0:Int)) (wD.mk 0 1 5 1 0 ([]:List wh))
lz B.c.S.p/\lz B.c.S.r/\lz B.c.S.l/\B.c.be.length<=1000/\let r4:Int:=if B.c.be=[]then 0 else ix B.c.be ((B.c.be.length:Int)-1)
lz B.c.S.p/\lz B.c.S.r/\lz B.c.S.l/\(SCh (CS.mk (wF.mk (wF.mk 2 2 0 0 0 10 3 9 1).wd (wF.mk 2 2 0 0 0 10 3 9 1).wH J.wS J.wO J.wM (wF.mk 2 2 0 0 0 10 3 9 1).wZ (wF.mk 2 2 0 0 0 10 3 9 1).wt J.wW (wF.mk 2 2 0 0 0 10 3 9 1).wU) B.c.k B.c.v B.c.be B.c.S B.c.fi B.c.he) (wD.mk r4 2 5 1 0 ([]:List wh))/\false=false/\[]=([]:Lb)/\[]=([]:Li))/\let F:=subS (CS.mk (wF.mk (wF.mk 2 2 0 0 0 10 3 9 1).wd (wF.mk 2 2 0 0 0 10 3 9 1).wH J.wS J.wO J.wM (wF.mk 2 2 0 0 0 10 3 9 1).wZ (wF.mk 2 2 0 0 0 10 3 9 1).wt J.wW (wF.mk 2 2 0 0 0 10 3 9 1).wU) B.c.k B.c.v B.c.be B.c.S B.c.fi B.c.he) (wD.mk r4 2 5 1 0 ([]:List wh))
lz F.c.S.p/\lz F.c.S.r/\lz F.c.S.l/\lz F.c.S.p/\lz F.c.S.r/\lz F.c.S.l/\iT ((F.c.S.p.length:Int)==2) (lz F.c.S.p/\lz F.c.S.r/\lz F.c.S.l/\F.c.S.b.length<=100000/\iT ((F.c.S.b.length:Int)==1) (lz F.c.S.p/\lz F.c.S.r/\lz F.c.S.l/\F.c.S.b.length<=100000/\0<(F.c.S.b.length:Int)/\((ix F.c.S.b 0).wn==20)=r0) (false=r0)) (false=r0)))∨rulesE (wF.mk 2 2 0 0 0 10 3 9 1)≠0/\let v6:Bool:=rulesE (wF.mk 2 2 0 0 0 10 3 9 1)!=0
iT v6 (false=r0) (false=r0))<|by
 rintro _ rfl;have hE:rulesE R48=0:=by kernel_rfl
 obtain⟨w1,X,w3,w4⟩:=aw48;have g1:GB (wD.mk 0 1 5 1 0 []):=GB.emp qqd ⟨by decide,by decide⟩ qqd qqd;have g2:GB (wD.mk t481 2 5 1 0 []):=GB.emp w3 ⟨by decide,by decide⟩ qqd qqd;have Y:=newC_CI hE qqd;have M:=(subS_CI Y qqo g1).eta;have aa:=(subS_CI M qqo g2).bek.2.1;have Z:=M.bek.2.1;refine .inl ⟨⟨hE,rfl,rfl⟩,λe=>(by cases e),λ_=>⟨rfl,rfl,rfl,⟨⟨⟨0,by omega,Y⟩,g1,rfl⟩,rfl,rfl,rfl⟩,rfl,rfl,rfl,qbd Z qqd,rfl,rfl,rfl,⟨⟨⟨1,by omega,M⟩,g2,rfl⟩,rfl,rfl,rfl⟩,rfl,rfl,rfl,rfl,rfl,rfl,λ_=>⟨rfl,rfl,rfl,?_,λ_=>⟨rfl,rfl,rfl,?_,?_,?_⟩,λe=>?_⟩,λe=>?_⟩⟩;.show X482.c.S.b.length<=100000;rw[X];decide
 .show X482.c.S.b.length<=100000;rw[X];decide
 .show(0:Int)<(X482.c.S.b.length:Int);rw[X];decide
 .show((ix X482.c.S.b 0).wn==20)=true;rw[X];rfl
 .have e:((X482.c.S.b.length:Int)==1)=false:=e;rw[X]at e;cases e
 .have e:((X482.c.S.p.length:Int)==2)=false:=e;rw[w1]at e;cases e
def kd4:Ct:=.gp 93 [oA,oA] [.bool] [] λ(B F:Li)=>(B.length<=9223372036854775807,decide (B=F),())
theorem kfw:kd4.O:=qrv Bs Tryz.func93 (rA 1 (lA (oB [5] [oa]) .no)) c0 (Q:=∀(B F:Li),B.length<=9223372036854775807->∀r0,decide (B=F)=r0->iT (B.length !=(F.length:Int)) (false=r0) (∃X Z,X 0/\∀b1,X b1->iF b1 B.length (iR b1 F.length (iT (ix B b1 !=ix F b1) (false=r0) (ss1 X Z b1 (i64.wrap (b1+1))))) (true=r0)))<|by
 rintro B F h _ rfl;refine⟨λe=>?_,λe=>?_⟩
 .have e:¬(B.length:Int)=F.length:=by simpa using e
  rw[qat (by rintro rfl;exact e rfl)]
 .have e:(B.length:Int)=F.length:=by simpa using e
  refine⟨λi=>0<=i/\i<=B.length/\B.take i.toNat=F.take i.toNat,λi=>(B.length-i).toNat,⟨by omega,by omega,by simp⟩,?_⟩;rintro i⟨U,g1,Y⟩;refine⟨λJ=>?_,λJ=>?_⟩
  .have J:=qc J;refine⟨U,J,U,by omega,λM=>?_,λM=>?_⟩
   .have M:¬ix B i=ix F i:=by simpa using M
    rw[qat (by rintro rfl;exact M rfl)]
   .have M:ix B i=ix F i:=by simpa using M
    rw[inc i B.length U J qqo];refine⟨⟨by omega,by omega,?_⟩,by(dsimp only;omega)⟩;rw[kg B i U J,kg F i U qqo,Y,M]
  .have J:=qd J;rw[ql qqo,ql qqo]at Y;rw[qao Y]
def ko6:Ct:=.gp 60 [.st 3,.st 3] [.bool] [] λ(B F:wh)=>(TD B/\TD F,sameT B F,())
theorem kr9:ko6.O:=qrv Bs Tryz.func60 (rA 1 (lA (oB [5] [oa]) .no)) (k3j.c (kfw.c c0)) (Q:=∀B F,TD B/\TD F->∀r0,sameT B F=r0->let v1:=B.wB.length !=(F.wB.length:Int)
iT v1 (false=r0) (iT (B.wAG !=F.wAG) (false=r0) (∃Y M1,Y 0/\∀b1,Y b1->iF b1 B.wB.length (iR b1 F.wB.length (let v2:=(((ix B.wB b1).wm).length:Int)!=(((ix F.wB b1).wm).length:Int)
iT v2 (false=r0) (ss1 Y M1 b1 (i64.wrap (b1+1))))) ((TR B/\TL B/\B.wB.length<=1048576/\∀x∈B.wB,x.wm.length<=1024)/\(TR F/\TL F/\F.wB.length<=1048576/\∀x∈F.wB,x.wm.length<=1024)/\(encT B B.wAH).length<=9223372036854775807/\let r3:Bool:=decide (encT B B.wAH=encT F F.wAH)
r3=r0))))<|by
 rintro B F h _ rfl;obtain⟨⟨hr,Z,ho,hc⟩,aa,ab,ac,ad⟩:=h;refine⟨λe=>?_,λe=>⟨λM=>?_,λM=>?_⟩⟩
 .have e:¬(B.wB.length:Int)=F.wB.length:=by simpa using e
  unfold sameT;rw[qat qqo];rfl
 .have M:¬B.wAG=F.wAG:=by simpa using M
  unfold sameT;simp[M]
 have e:(B.wB.length:Int)=F.wB.length:=by simpa using e
 have M:B.wAG=F.wAG:=by simpa using M
 refine⟨(λi=>0<=i/\i<=B.wB.length/\(B.wB.take i.toNat).map (·.wm.length)=(F.wB.take i.toNat).map (·.wm.length)),λi=>(B.wB.length-i).toNat,⟨by omega,by omega,by simp⟩,?_⟩;rintro i⟨U,g1,g2⟩;refine⟨λJ=>?_,λJ=>?_⟩
 .have J:=qc J;refine⟨U,J,U,by omega,λX=>?_,λX=>?_⟩
  .have X:¬((ix B.wB i).wm.length:Int)=(ix F.wB i).wm.length:=by simpa using X
   unfold sameT;rw[qat (p:=B.wB.map _=F.wB.map _)];.simp
   .intro h;have h2:=congrArg (λl=>l[i.toNat]?) h;simp only[qr]at h2;rw[qf qqo,qf qqo]at h2;rw[ix_nat _ i U J,ix_nat _ i U qqo]at X;simp at h2;omega
  .have X:((ix B.wB i).wm.length:Int)=(ix F.wB i).wm.length:=by simpa using X
   rw[inc i B.wB.length U J qqo];refine⟨⟨by omega,by omega,?_⟩,by(dsimp only;omega)⟩;rw[kg _ i U J,kg _ i U qqo,qbj,qbj,g2];simp;omega
 .have J:=qd J;rw[ql qqo,ql qqo]at g2;simp only[TTx_eta];have ae:=k22 B.wB 1024 hc;refine⟨⟨hr,Z,ho,hc⟩,⟨aa,ab,ac,ad⟩,?_,?_⟩;.rw[kdt];have:=Z.m;have:=Z.p;have:(28+8*1024)*B.wB.length<=(28+8*1024)*1048576:=Nat.mul_le_mul_left _ ho;omega
  .unfold sameT;rw[qao (p:=B.wB.length=F.wB.length) qqo,qao g2,beq_iff_eq.2 M];simp
def kos:Ct:=.gp 24 [.st 7,.st 7] [.bool] [] λ(B F:wD)=>(B.Txs.length<=9223372036854775807/\(∀x∈B.Txs,TD x)/\∀x∈F.Txs,TD x,sameB B F,())
theorem kro:kos.O:=qrv Bs Tryz.func24 (rA 1 (lA (oB [5] [oa]) .no)) (kr9.c c0) (Q:=∀B F,B.Txs.length<=9223372036854775807/\(∀x∈B.Txs,TD x)/\(∀x∈F.Txs,TD x)->∀r0,sameB B F=r0->iT (B.wP !=F.wP) (false=r0) (iT (B.wG !=F.wG) (false=r0) (iT (B.wAM !=F.wAM) (false=r0) (iT (B.wU !=F.wU) (false=r0) (iT (B.wK !=F.wK) (false=r0) (let v1:=B.Txs.length !=(F.Txs.length:Int)
iT v1 (false=r0) (∃U M1,U 0/\∀b1,U b1->iF b1 B.Txs.length (iR b1 F.Txs.length ((TD (ix B.Txs b1)/\TD (ix F.Txs b1))/\iT (! sameT (ix B.Txs b1) (ix F.Txs b1)) (false=r0) (ss1 U M1 b1 (i64.wrap (b1+1))))) (true=r0))))))))<|by
 rintro B F h _ rfl;obtain⟨hl,ha,hb⟩:=h;have no:∀{P:Prop},¬P->P->False:=λh=>h;have nf:¬(B.wP=F.wP/\B.wG=F.wG/\B.wAM=F.wAM/\B.wU=F.wU/\B.wK=F.wK/\B.Txs.length=F.Txs.length/\∀i:Nat,i<B.Txs.length->sameT (ix B.Txs (i:Int)) (ix F.Txs (i:Int))=true)->false=sameB B F:=λh=>(qat h).symm;refine⟨λe=>nf λq=>?_,λZ=>⟨λe=>nf λq=>?_,λe2=>⟨λe=>nf λq=>?_,λe3=>⟨λe=>nf λq=>?_,λe4=>⟨λe=>nf λq=>?_,λe5=>⟨λe=>nf λq=>?_,λX=>?_⟩⟩⟩⟩⟩⟩;.simp[q.1]at e
 .simp[q.2.1]at e
 .simp[q.2.2.1]at e
 .simp[q.2.2.2.1]at e
 .simp[q.2.2.2.2.1]at e
 .simp[q.2.2.2.2.2.1]at e
 simp only[bne_eq_false_iff_eq]at Z e2 e3 e4 e5 X;have X:B.Txs.length=F.Txs.length:=by omega
 refine⟨λi=>0<=i/\i<=B.Txs.length/\∀j:Nat,j<i->sameT (ix B.Txs j) (ix F.Txs j)=true,λi=>(B.Txs.length-i).toNat,⟨by omega,by omega,λj Y=>by omega⟩,?_⟩;rintro i⟨M,g1,g2⟩;refine⟨λJ=>?_,λJ=>?_⟩
 .have J:=qc J;rw[inc i B.Txs.length M J qqo];refine⟨M,J,M,by omega,⟨ha _ (ix_mem _ i M J),hb _ (ix_mem _ i M qqo)⟩,λe=>nf λq=>?_,λe=>⟨⟨by omega,by omega,λj Y=>?_⟩,by(first|omega|(dsimp only;omega))⟩⟩;.have:=q.2.2.2.2.2.2 i.toNat qqo;rw[show i.toNat=i by omega]at this;rw[this]at e;cases e
  .rcases Int.lt_or_eq_of_le (Int.le_of_lt_add_one Y)with h|h;.exact g2 j h
   .rw[h];simpa using e
 .have J:=qd J;exact(qao ⟨Z,e2,e3,e4,e5,X,λj Y=>g2 j qqo⟩).symm
def kco:Ct:=.gp 7 [.sl (.st 7)] [.bool] [] λ(B:List wD)=>((∀b∈B,BR b/\∀x∈b.Txs,TD x)/\(∀b∈B,b.Txs.length<=4)/\B.length<=1000,clashB B,())
theorem kfg:kco.O:=qrv Bs Tryz.func7 (rA 0 (lA (oB [7] [oa]) (rA 1 (.r 1 (.lp [] (oB [11] [oa]) .no))))) (kbe.c (kro.c (k5q.c c0))) (Q:=∀F,(∀b∈F,BR b/\∀x∈b.Txs,TD x)/\(∀b∈F,b.Txs.length<=4)/\F.length<=1000->∀r0:Bool,clashB F=r0->∃(I1:oD)(M1:oG),I1 0/\∀b1,I1 b1->iD (b1<(F.length:Int)) (∃(U:oD)(M2:oG),U 0/\∀f1,U f1->iD (f1<b1) (iR b1 F.length ((BR (ix F b1)/\∀x∈(ix F b1).Txs,TL x)/\iR f1 F.length ((BR (ix F f1)/\∀x∈(ix F f1).Txs,TL x)/\iT (idB (ix F b1)==idB (ix F f1)) (iR b1 F.length (iR f1 F.length (((ix F b1).Txs.length<=9223372036854775807/\(∀x∈(ix F b1).Txs,TD x)/\∀x∈(ix F f1).Txs,TD x)/\iT (! sameB (ix F b1) (ix F f1)) (iR b1 F.length ((∀x∈(ix F b1).Txs,TR x/\TL x)/\iT (validB (ix F b1)==0) (iR f1 F.length ((∀x∈(ix F f1).Txs,TR x/\TL x)/\iT (validB (ix F f1)==0) (true=r0) (ss1 U M2 f1 (i64.wrap (f1+1))))) (ss1 U M2 f1 (i64.wrap (f1+1))))) (ss1 U M2 f1 (i64.wrap (f1+1)))))) (ss1 U M2 f1 (i64.wrap (f1+1)))))) (ss1 I1 M1 b1 (i64.wrap (b1+1)))) (false=r0))<|by
 rintro F h _ rfl;obtain⟨J,ht,hn⟩:=h;refine⟨λi=>∃k:Nat,i=(k:Int)/\k<=F.length/\∀a:Nat,a<k->¬clsJ F a a,λi=>(F.length-i).toNat,⟨0,rfl,by omega,λa ha=>by omega⟩,?_⟩;rintro _⟨k,rfl,g1,g2⟩;refine⟨λe=>?_,λe=>?_⟩
 .have e:k<F.length:=by have:=qc e;omega
  have X:ix F (k:Int)∈F:=by rw[ix_get _ _ e];exact qz e
  refine⟨λi=>∃j:Nat,i=(j:Int)/\j<=k/\∀c:Nat,c<j->clsP (ix F (k:Int)) (ix F (c:Int))=false,λi=>(k-i).toNat,⟨0,rfl,by omega,λa ha=>by omega⟩,?_⟩;rintro _⟨j,rfl,g3,g4⟩;refine⟨λY=>?_,λY=>?_⟩
  .have Y:j<k:=by have:=qc Y;omega
   have e1:ix F (j:Int)∈F:=by rw[ix_get _ _ qqo];exact qz qqo
   rw[inc_i64 _ qqo];have nx:clsP (ix F (k:Int)) (ix F (j:Int))=false->(∃j':Nat,(j:Int)+1=(j':Int)/\j'<=k/\∀c:Nat,c<j'->clsP (ix F (k:Int)) (ix F (c:Int))=false)/\((k:Int)-((j:Int)+1)).toNat<((k:Int)-(j:Int)).toNat:=λhf=>⟨⟨j+1,rfl,by omega,λc hc=>by
     rcases qaw c j with h|h;.exact g4 c h
     .rw[show c=j by omega];exact hf⟩,by omega⟩;generalize hA:ix F (k:Int)=A at*;generalize hB:ix F (j:Int)=B at*;have ab:=ht A X;refine⟨by omega,by omega,⟨(J A X).1,λx M=>((J A X).2 x M).l⟩,by omega,by omega,⟨(J B e1).1,λx M=>((J B e1).2 x M).l⟩,λZ=>?_,λZ=>nx (by unfold clsP;rw[Z];rfl)⟩;refine⟨by omega,by omega,by omega,by omega,⟨by omega,(J A X).2,(J B e1).2⟩,λe4=>?_,λe4=>nx (by unfold clsP;rw[Z,e4];rfl)⟩;refine⟨by omega,by omega,λx M=>⟨(J A X).1.t x M,((J A X).2 x M).l⟩,λe5=>?_,λe5=>nx (by unfold clsP;rw[Z,e4,e5];rfl)⟩;refine⟨by omega,by omega,λx M=>⟨(J B e1).1.t x M,((J B e1).2 x M).l⟩,λe6=>?_,λe6=>nx (by unfold clsP;rw[Z,e4,e5,e6];rfl)⟩;refine(kwe ?_).symm;exact⟨k,e,j,Y,by rw[hA,hB];unfold clsP;rw[Z,e4,e5,e6];rfl⟩
  .have Y:j=k:=by have:=qd Y;omega
   rw[inc_i64 _ qqo];refine⟨⟨k+1,rfl,by omega,λa ha=>?_⟩,by(dsimp only;omega)⟩;rcases qaw a k with h|h;.exact g2 a h
   .obtain rfl:a=k:=by omega
    rintro⟨c,hc,aa⟩;rw[g4 c qqo]at aa;cases aa
 .have e:k=F.length:=by have:=qd e;omega
  refine(kue ?_).symm;rintro⟨i,hi,hj⟩;exact g2 i qqo hj
def k1g:Ct:=.gp 3 [.st 6,.sl (.st 7),oA] [.bool] [] λ(J:wF)(B:List wD)(F:Li)=>(0<=J.wZ/\(∀b∈B,BR b)/\(B.length<=9223372036854775807/\∀b∈B,b.Txs.length<=9223372036854775807/\∀t∈b.Txs,t.wB.length<=9223372036854775807)/\F.length<=9223372036854775807/\∀x∈F,0<=x/\x<256,true,())
abbrev Fz13(r:Type):=Int->Int->Int->Int->Int->Int->Int->Int->Int->Int->Li->Int->Int->Int->Int->Int->Int->Int->Int->Int->Int->Int->Li->Int->Int->Bool->Int->Int->List wN->Int->Int->Int->Int->Int->Int->Int->Int->Int->Int->Int->Li->List wA->Int->Bool->Int->Int->List wN->Int->Int->Int->Int->Int->Int->Int->Int->Int->Int->Int->Li->List wA->Int->Li->List wR->Li->List wR->Lb->Li->Lb->List Li->Lb->Lo->Lb->Li->Lb->List Li->Lb->Lo->Li->Lo->Li->Lo->Li->Li->List wT->Li->Li->List wT->r
abbrev Fz14(r:Type):=Int->Bool->Int->Int->List wN->List wAi->List wAi->Int->Int->Int->Int->Int->Int->Int->Int->Int->List we->Int->Int->r
theorem kcw:k1g.O:=qrx Bs [72,74] Tryz.func3 (.r 0 (.nd [] (oC 44) [] (.r 3 (.nd [] (lA ⟨[258],[.vec (.st 7)],[77],[oa],[]⟩ .no) [] (.nd [] (lA ⟨[161,33,129,162,163,1,34,35,130,131,132,165,2,3,4,37,168,40],yA,[108],[oa],[36,38,39,164,166,167]⟩ (rA 1 (lA ⟨[161,33,129,162,163,1,34,35,130,131,132,165,2,3,4,37,168,40],yA,[112],[oa],[36,38,39,164,166,167,259,260,261,262,263,264]⟩ .no))) [] (rA 0 (lA ⟨[265],yM,[137],[oa],[]⟩ (rA 1 (lA ⟨[265],yM,[141],[oa],[]⟩ .no))))))))) x0 (kjk.c (ksy.c (k5t.c (kfg.c (k7q.c (kca.c (k6x.c (k6v.c (krv.c (kle.c (k80.c (kb7.c (kmv.c (kg9.c c0)))))))))))))) (Q:=∀(B:wF) (F:List wD) (p2:Li),(0<=B.wZ/\(∀b∈F,BR b)/\(F.length<=9223372036854775807/\∀b∈F,b.Txs.length<=9223372036854775807/\∀t∈b.Txs,t.wB.length<=9223372036854775807)/\p2.length<=9223372036854775807/\∀x∈p2,0<=x/\x<256)->∀r0:Bool,(true:Bool)=r0-> 
∀J1:oE,(∀(b1:Bool),
(iT b1 (true=r0) ((((rulesE B=0/\B.wd=2/\false=false)/\(((rulesE B=0/\B.wd=2/\false=false)/\iT ((0:Int) !=0) (false=r0) (iT ((0:Int) !=0) (false=r0) (iL ([]:List wD) F 64 (∃(I1:Int->(List wD)->Prop) (M1:Int->(List wD)->Nat),I1 0 (([]:List wD)++F)/\∀f1 Z,(I1 f1 Z->
iF f1 p2.length (let v1:Int:=((([]:List wD)++F).length:Int)
iD (f1<v1) (let v2:Int:=((([]:List wD)++F).length:Int)
(v2≠0)/\let v3:Int:=Int.tmod (i64.wrap (ix p2 f1)) v2
iS v3 (([]:List wD)++F).length (iS v3 Z.length (iS f1 (([]:List wD)++F).length (iS f1 Z.length (iS f1 (([]:List wD)++F).length (iS f1 Z.length (iS v3 (([]:List wD)++F).length (iS v3 (Z.set f1.toNat (ix Z v3)).length (I1 (i64.wrap (f1+1)) ((Z.set f1.toNat (ix Z v3)).set v3.toNat (ix Z f1))/\M1 (i64.wrap (f1+1)) ((Z.set f1.toNat (ix Z v3)).set v3.toNat (ix Z f1))<M1 f1 Z))))))))) (I1 (i64.wrap (f1+1)) Z/\M1 (i64.wrap (f1+1)) Z<M1 f1 Z)) (lz ((newS B).p)/\lz ((newS B).r)/\lz ((newS B).l)/\lz ((newS B).p)/\lz ((newS B).r)/\lz ((newS B).l)/\∃(I2:Fz13 Prop) (M2:Fz13 Nat),I2 0 B.wd B.wH B.wS B.wO B.wM B.wZ B.wt B.wW B.wU ([]:Li) (0:Int) (0:Int) B.wd B.wH B.wS B.wO B.wM B.wZ B.wt B.wW B.wU ([]:Li) (0:Int) (0:Int) false (0:Int) (0:Int) [] ((newS B).R.wd) ((newS B).R.wH) ((newS B).R.wS) ((newS B).R.wO) ((newS B).R.wM) ((newS B).R.wZ) ((newS B).R.wt) ((newS B).R.wW) ((newS B).R.wU) ((newS B).F.wH) ((newS B).F.wAF) ((newS B).F.wAJ) ((newS B).b) ((newS B).n) false (0:Int) (0:Int) [] ((newS B).R.wd) ((newS B).R.wH) ((newS B).R.wS) ((newS B).R.wO) ((newS B).R.wM) ((newS B).R.wZ) ((newS B).R.wt) ((newS B).R.wW) ((newS B).R.wU) ((newS B).F.wH) ((newS B).F.wAF) ((newS B).F.wAJ) ((newS B).b) ((newS B).n) ([]:Li) ([]:List wR) ([]:Li) ([]:List wR) [] [] [] [] [] [] [] [] [] [] [] [] ((newS B).k) ((newS B).v) ((newS B).k) ((newS B).v) ((newS B).l) ((newS B).r) ((newS B).p) ((newS B).l) ((newS B).r) ((newS B).p)/\∀k1 l1 m1 n1 o1 q1 s1 t1 u1 x1 y1 b2 f2 i2 k2 l2 m2 n2 o2 q2 s2 t2 u2 x2 y2 b3 f3 i3 k3 l3 m3 n3 o3 q3 s3 t3 u3 x3 y3 b4 f4 i4 k4 l4 m4 n4 o4 q4 s4 t4 u4 x4 y4 b5 f5 i5 k5 l5 m5 n5 o5 q5 s5 t5 u5 x5 y5 b6 f6 i6 k6 l6 m6 n6 o6 q6 s6 t6 u6 x6 y6 b7 f7 i7 k7 l7 m7,(I2 k1 l1 m1 n1 o1 q1 s1 t1 u1 x1 y1 b2 f2 i2 k2 l2 m2 n2 o2 q2 s2 t2 u2 x2 y2 b3 f3 i3 k3 l3 m3 n3 o3 q3 s3 t3 u3 x3 y3 b4 f4 i4 k4 l4 m4 n4 o4 q4 s4 t4 u4 x4 y4 b5 f5 i5 k5 l5 m5 n5 o5 q5 s5 t5 u5 x5 y5 b6 f6 i6 k6 l6 m6 n6 o6 q6 s6 t6 u6 x6 y6 b7 f7 i7 k7 l7 m7->
iD (k1<(F.length:Int)) (lz m7/\lz l7/\lz k7/\lz i7/\lz f7/\lz b7/\∃(I3:Fz13 Prop) (M3:Fz13 Nat),I3 0 l1 m1 n1 o1 q1 s1 t1 u1 x1 y1 b2 f2 i2 k2 l2 m2 n2 o2 q2 s2 t2 u2 x2 y2 b3 f3 i3 k3 l3 m3 n3 o3 q3 s3 t3 u3 x3 y3 b4 f4 i4 k4 l4 m4 n4 o4 q4 s4 t4 u4 x4 y4 b5 f5 i5 k5 l5 m5 n5 o5 q5 s5 t5 u5 x5 y5 b6 f6 i6 k6 l6 m6 n6 o6 q6 s6 t6 u6 x6 y6 b7 f7 i7 k7 l7 m7/\∀n7 o7 q7 s7 t7 u7 x7 y7 b8 f8 i8 k8 l8 m8 n8 o8 q8 s8 t8 u8 x8 y8 b9 f9 i9 k9 l9 m9 n9 o9 q9 s9 t9 u9 x9 y9 b10 f10 i10 k10 l10 m10 n10 o10 q10 s10 t10 u10 x10 y10 b11 f11 i11 k11 l11 m11 n11 o11 q11 s11 t11 u11 x11 y11 b12 f12 i12 k12 l12 m12 n12 o12 q12 s12 t12 u12 x12 y12 b13 f13 i13 k13 l13 m13 n13 o13 q13,(I3 n7 o7 q7 s7 t7 u7 x7 y7 b8 f8 i8 k8 l8 m8 n8 o8 q8 s8 t8 u8 x8 y8 b9 f9 i9 k9 l9 m9 n9 o9 q9 s9 t9 u9 x9 y9 b10 f10 i10 k10 l10 m10 n10 o10 q10 s10 t10 u10 x10 y10 b11 f11 i11 k11 l11 m11 n11 o11 q11 s11 t11 u11 x11 y11 b12 f12 i12 k12 l12 m12 n12 o12 q12 s12 t12 u12 x12 y12 b13 f13 i13 k13 l13 m13 n13 o13 q13->
iF n7 F.length (lz q13/\lz o13/\lz n13/\(SCh (CS.mk (wF.mk m8 n8 o8 q8 s8 t8 u8 x8 y8) y11 b12 b9 (PS.mk (wF.mk u10 x10 y10 b11 f11 i11 k11 l11 m11) (wI.mk n11 o11 q11) s11 t11 n13 o13 q13 f13 i13) f9 i9) (ix F n7)/\o10=false/\o12=([]:Lb)/\q12=([]:Li))/\let J:=subS (CS.mk (wF.mk m8 n8 o8 q8 s8 t8 u8 x8 y8) y11 b12 b9 (PS.mk (wF.mk u10 x10 y10 b11 f11 i11 k11 l11 m11) (wI.mk n11 o11 q11) s11 t11 n13 o13 q13 f13 i13) f9 i9) (ix F n7)
iS n7 (([]:List wD)++F).length (iS n7 Z.length (lz m13/\lz l13/\lz k13/\(SCh (CS.mk (wF.mk o7 q7 s7 t7 u7 x7 y7 b8 f8) u11 x11 i8 (PS.mk (wF.mk o9 q9 s9 t9 u9 x9 y9 b10 f10) (wI.mk i10 k10 l10) m10 n10 k13 l13 m13 y12 b13) k8 l8) (ix Z n7)/\k9=false/\f12=([]:Lb)/\i12=([]:Li))/\let M:=subS (CS.mk (wF.mk o7 q7 s7 t7 u7 x7 y7 b8 f8) u11 x11 i8 (PS.mk (wF.mk o9 q9 s9 t9 u9 x9 y9 b10 f10) (wI.mk i10 k10 l10) m10 n10 k13 l13 m13 y12 b13) k8 l8) (ix Z n7)
lz J.c.S.p/\lz J.c.S.r/\lz J.c.S.l/\lz M.c.S.p/\lz M.c.S.r/\lz M.c.S.l/\I3 (i64.wrap (n7+1)) o7 q7 s7 t7 u7 x7 y7 b8 f8 M.c.be M.c.fi M.c.he m8 n8 o8 q8 s8 t8 u8 x8 y8 J.c.be J.c.fi J.c.he k9 l9 m9 n9 M.c.S.R.wd M.c.S.R.wH M.c.S.R.wS M.c.S.R.wO M.c.S.R.wM M.c.S.R.wZ M.c.S.R.wt M.c.S.R.wW M.c.S.R.wU M.c.S.F.wH M.c.S.F.wAF M.c.S.F.wAJ M.c.S.b M.c.S.n o10 q10 s10 t10 J.c.S.R.wd J.c.S.R.wH J.c.S.R.wS J.c.S.R.wO J.c.S.R.wM J.c.S.R.wZ J.c.S.R.wt J.c.S.R.wW J.c.S.R.wU J.c.S.F.wH J.c.S.F.wAF J.c.S.F.wAJ J.c.S.b J.c.S.n M.c.k M.c.v J.c.k J.c.v f12 i12 k12 l12 m12 n12 o12 q12 s12 t12 u12 x12 M.c.S.k M.c.S.v J.c.S.k J.c.S.v M.c.S.l M.c.S.r M.c.S.p J.c.S.l J.c.S.r J.c.S.p/\M3 (i64.wrap (n7+1)) o7 q7 s7 t7 u7 x7 y7 b8 f8 M.c.be M.c.fi M.c.he m8 n8 o8 q8 s8 t8 u8 x8 y8 J.c.be J.c.fi J.c.he k9 l9 m9 n9 M.c.S.R.wd M.c.S.R.wH M.c.S.R.wS M.c.S.R.wO M.c.S.R.wM M.c.S.R.wZ M.c.S.R.wt M.c.S.R.wW M.c.S.R.wU M.c.S.F.wH M.c.S.F.wAF M.c.S.F.wAJ M.c.S.b M.c.S.n o10 q10 s10 t10 J.c.S.R.wd J.c.S.R.wH J.c.S.R.wS J.c.S.R.wO J.c.S.R.wM J.c.S.R.wZ J.c.S.R.wt J.c.S.R.wW J.c.S.R.wU J.c.S.F.wH J.c.S.F.wAF J.c.S.F.wAJ J.c.S.b J.c.S.n M.c.k M.c.v J.c.k J.c.v f12 i12 k12 l12 m12 n12 o12 q12 s12 t12 u12 x12 M.c.S.k M.c.S.v J.c.S.k J.c.S.v M.c.S.l M.c.S.r M.c.S.p J.c.S.l J.c.S.r J.c.S.p<M3 n7 o7 q7 s7 t7 u7 x7 y7 b8 f8 i8 k8 l8 m8 n8 o8 q8 s8 t8 u8 x8 y8 b9 f9 i9 k9 l9 m9 n9 o9 q9 s9 t9 u9 x9 y9 b10 f10 i10 k10 l10 m10 n10 o10 q10 s10 t10 u10 x10 y10 b11 f11 i11 k11 l11 m11 n11 o11 q11 s11 t11 u11 x11 y11 b12 f12 i12 k12 l12 m12 n12 o12 q12 s12 t12 u12 x12 y12 b13 f13 i13 k13 l13 m13 n13 o13 q13))) (lz q13/\lz o13/\lz n13/\lz m13/\lz l13/\lz k13/\I2 (i64.wrap (k1+1)) o7 q7 s7 t7 u7 x7 y7 b8 f8 i8 k8 l8 m8 n8 o8 q8 s8 t8 u8 x8 y8 b9 f9 i9 k9 l9 m9 n9 o9 q9 s9 t9 u9 x9 y9 b10 f10 i10 k10 l10 m10 n10 o10 q10 s10 t10 u10 x10 y10 b11 f11 i11 k11 l11 m11 n11 o11 q11 s11 t11 u11 x11 y11 b12 f12 i12 k12 l12 m12 n12 o12 q12 s12 t12 u12 x12 y12 b13 f13 i13 k13 l13 m13 n13 o13 q13/\M2 (i64.wrap (k1+1)) o7 q7 s7 t7 u7 x7 y7 b8 f8 i8 k8 l8 m8 n8 o8 q8 s8 t8 u8 x8 y8 b9 f9 i9 k9 l9 m9 n9 o9 q9 s9 t9 u9 x9 y9 b10 f10 i10 k10 l10 m10 n10 o10 q10 s10 t10 u10 x10 y10 b11 f11 i11 k11 l11 m11 n11 o11 q11 s11 t11 u11 x11 y11 b12 f12 i12 k12 l12 m12 n12 o12 q12 s12 t12 u12 x12 y12 b13 f13 i13 k13 l13 m13 n13 o13 q13<M2 k1 l1 m1 n1 o1 q1 s1 t1 u1 x1 y1 b2 f2 i2 k2 l2 m2 n2 o2 q2 s2 t2 u2 x2 y2 b3 f3 i3 k3 l3 m3 n3 o3 q3 s3 t3 u3 x3 y3 b4 f4 i4 k4 l4 m4 n4 o4 q4 s4 t4 u4 x4 y4 b5 f5 i5 k5 l5 m5 n5 o5 q5 s5 t5 u5 x5 y5 b6 f6 i6 k6 l6 m6 n6 o6 q6 s6 t6 u6 x6 y6 b7 f7 i7 k7 l7 m7))) ((rulesE B=0/\B.wd=2/\(wAx.mk false 0 0 ([]:List wN) ([]:List wAi) ([]:List wAi)).wAr=false)/\let r6:=wAx.mk false 0 0 ([]:List wN) ([]:List wAi) ([]:List wAi)
∃(I4:Fz14 Prop) (M4:Fz14 Nat),I4 0 r6.wAr r6.wBW r6.wBY r6.wBV r6.wBX r6.wBR B.wd B.wH B.wS B.wO B.wM B.wZ B.wt B.wW B.wU [] (-1) (-1)/\∀s13 t13 u13 x13 y13 b14 f14 i14 k14 l14 m14 n14 o14 q14 s14 t14 u14 x14 y14,(I4 s13 t13 u13 x13 y13 b14 f14 i14 k14 l14 m14 n14 o14 q14 s14 t14 u14 x14 y14->
iD (s13<(F.length:Int)) (let v7:Int:=((([]:List wD)++F).length:Int)
∃(I5:Fz14 Prop) (M5:Fz14 Nat),I5 0 t13 u13 x13 y13 b14 f14 i14 k14 l14 m14 n14 o14 q14 s14 t14 u14 x14 y14/\∀b15 f15 i15 k15 l15 m15 n15 o15 q15 s15 t15 u15 x15 y15 b16 f16 i16 k16 l16,(I5 b15 f15 i15 k15 l15 m15 n15 o15 q15 s15 t15 u15 x15 y15 b16 f16 i16 k16 l16->
iD (b15<v7) (iS b15 (([]:List wD)++F).length (iS b15 Z.length ((MOk (ww.mk f15 i15 k15 l15 m15 n15 o15 q15 s15 t15 u15 x15 y15 b16 f16 i16 k16 l16)/\GB (ix Z b15)/\(fndM (ww.mk f15 i15 k15 l15 m15 n15 o15 q15 s15 t15 u15 x15 y15 b16 f16 i16 k16 l16).L (idB (ix Z b15))<0->((ww.mk f15 i15 k15 l15 m15 n15 o15 q15 s15 t15 u15 x15 y15 b16 f16 i16 k16 l16).L.length:Int)+1<=(ww.mk f15 i15 k15 l15 m15 n15 o15 q15 s15 t15 u15 x15 y15 b16 f16 i16 k16 l16).wz)/\(ww.mk f15 i15 k15 l15 m15 n15 o15 q15 s15 t15 u15 x15 y15 b16 f16 i16 k16 l16).wz<=1000000000000)/\let U:=(rsubmitM (ww.mk f15 i15 k15 l15 m15 n15 o15 q15 s15 t15 u15 x15 y15 b16 f16 i16 k16 l16) (ix Z b15)).c
let r9:=rsubmitM (ww.mk f15 i15 k15 l15 m15 n15 o15 q15 s15 t15 u15 x15 y15 b16 f16 i16 k16 l16) (ix Z b15)
I5 (i64.wrap (b15+1)) U.wAu U.wAk U.wAj U.wAm U.wAl U.wAf U.wAs U.wAn U.wAI U.wAE U.wAA U.wAT U.wAe U.wz U.wAo U.L U.Tip U.wAv/\M5 (i64.wrap (b15+1)) U.wAu U.wAk U.wAj U.wAm U.wAl U.wAf U.wAs U.wAn U.wAI U.wAE U.wAA U.wAT U.wAe U.wz U.wAo U.L U.Tip U.wAv<M5 b15 f15 i15 k15 l15 m15 n15 o15 q15 s15 t15 u15 x15 y15 b16 f16 i16 k16 l16))) (I4 (i64.wrap (s13+1)) f15 i15 k15 l15 m15 n15 o15 q15 s15 t15 u15 x15 y15 b16 f16 i16 k16 l16/\M4 (i64.wrap (s13+1)) f15 i15 k15 l15 m15 n15 o15 q15 s15 t15 u15 x15 y15 b16 f16 i16 k16 l16<M4 s13 t13 u13 x13 y13 b14 f14 i14 k14 l14 m14 n14 o14 q14 s14 t14 u14 x14 y14))) (lz m7/\lz l7/\lz k7/\lz i7/\lz f7/\lz b7/\((rulesE (rM (ww.mk t13 u13 x13 y13 b14 f14 i14 k14 l14 m14 n14 o14 q14 s14 t14 u14 x14 y14))=0/\0<=(ww.mk t13 u13 x13 y13 b14 f14 i14 k14 l14 m14 n14 o14 q14 s14 t14 u14 x14 y14).wAT)/\WO (ww.mk t13 u13 x13 y13 b14 f14 i14 k14 l14 m14 n14 o14 q14 s14 t14 u14 x14 y14).L/\x14<((ww.mk t13 u13 x13 y13 b14 f14 i14 k14 l14 m14 n14 o14 q14 s14 t14 u14 x14 y14).L.length:Int)/\(ww.mk t13 u13 x13 y13 b14 f14 i14 k14 l14 m14 n14 o14 q14 s14 t14 u14 x14 y14).L.length<=100/\(∀b∈bksM (ww.mk t13 u13 x13 y13 b14 f14 i14 k14 l14 m14 n14 o14 q14 s14 t14 u14 x14 y14).L (wyM (ww.mk t13 u13 x13 y13 b14 f14 i14 k14 l14 m14 n14 o14 q14 s14 t14 u14 x14 y14).L x14),BR' b/\b.Txs.length<=4)/\(auGo (bksM (ww.mk t13 u13 x13 y13 b14 f14 i14 k14 l14 m14 n14 o14 q14 s14 t14 u14 x14 y14).L (wyM (ww.mk t13 u13 x13 y13 b14 f14 i14 k14 l14 m14 n14 o14 q14 s14 t14 u14 x14 y14).L x14)) (newS (rM (ww.mk t13 u13 x13 y13 b14 f14 i14 k14 l14 m14 n14 o14 q14 s14 t14 u14 x14 y14)))).e=0)/\let dn:=mOf (auGo (bksM (ww.mk t13 u13 x13 y13 b14 f14 i14 k14 l14 m14 n14 o14 q14 s14 t14 u14 x14 y14).L (wyM (ww.mk t13 u13 x13 y13 b14 f14 i14 k14 l14 m14 n14 o14 q14 s14 t14 u14 x14 y14).L x14)) (newS (rM (ww.mk t13 u13 x13 y13 b14 f14 i14 k14 l14 m14 n14 o14 q14 s14 t14 u14 x14 y14)))).s
(EOk dn)/\lz m7/\lz l7/\lz k7/\lz m7/\lz l7/\lz k7/\(∃(c:Nat) (f:Int),c<=800/\PI (PS.mk (wF.mk q4 s4 t4 u4 x4 y4 b5 f5 i5) (wI.mk k5 l5 m5) n5 o5 k7 l7 m7 x6 y6) c f)/\let jq:Li:=(encM (mOf (PS.mk (wF.mk q4 s4 t4 u4 x4 y4 b5 f5 i5) (wI.mk k5 l5 m5) n5 o5 k7 l7 m7 x6 y6)))
let jr:Bool:=((strOfNums jq).toList==(strOfNums (encM dn)).toList)
iT jr (lz i7/\lz f7/\lz b7/\lz i7/\lz f7/\lz b7/\(∃(c:Nat) (f:Int),c<=800/\PI (PS.mk (wF.mk l3 m3 n3 o3 q3 s3 t3 u3 x3) (wI.mk y3 b4 f4) i4 k4 b7 f7 i7 t6 u6) c f)/\let js:Li:=(encM (mOf (PS.mk (wF.mk l3 m3 n3 o3 q3 s3 t3 u3 x3) (wI.mk y3 b4 f4) i4 k4 b7 f7 i7 t6 u6)))
let ju:Bool:=((strOfNums js).toList==(strOfNums (encM dn)).toList)
ju=r0) (false=r0)))))))))))∨((rulesE B≠0)/\iT ((0:Int) !=0) (false=r0) (iT ((rulesE B) !=0) (false=r0) (false=r0)))))∨((rulesE B≠0)/\(((rulesE B=0/\B.wd=2/\false=false)/\iT ((rulesE B) !=0) (false=r0) (iT ((0:Int) !=0) (false=r0) (false=r0)))∨((rulesE B≠0)/\iT ((rulesE B) !=0) (false=r0) (iT ((rulesE B) !=0) (false=r0) (false=r0))))))))->J1 b1)->
iT (!true) (J1 true) ((F.length<=9223372036854775807/\∀b∈F,b.Txs.length<=9223372036854775807/\∀t∈b.Txs,t.wB.length<=9223372036854775807)/\iT (!(fewS B F (8:Int))) (J1 true) (iT ((rulesE B) !=0) (J1 true) (iD (B.wW<(F.length:Int)) (J1 true) (((∀b∈F,BR b/\∀x∈b.Txs,TD x)/\(∀b∈F,b.Txs.length<=4)/\F.length<=1000)/\J1 (clashB F))))))<|by
 rintro B F p2 h _ rfl;obtain⟨hw,hr,hs,lp,ho⟩:=h;intro J1 k1;have jt:J1 true:=k1 true ⟨fun _=>rfl,fun h=>by cases h⟩;refine⟨fun h=>(by cases h),fun _=>⟨hs,fun _=>jt,fun hf=>⟨fun _=>jt,fun hE=>⟨fun _=>jt,fun hF=> ?_⟩⟩⟩⟩;have hf:fewS B F 8=true:=by simpa using hf
 obtain⟨hm,hl,ey⟩:=kvn hf;have hG:∀b∈F,GB b:=fun b X=>smS_GB (hr b X) (ey b X);have hE:rulesE B=0:=by simpa using hE
 have hF:=qd hF;refine⟨⟨fun b X=>⟨hr b X,smS_td (hr b X) (ey b X)⟩,fun b X=>(hG b X).t,by omega⟩,?_⟩;cases jv:clashB F with
 |true=>exact jt
 |false=>
 have aa:LG F B:=kws hG qqo qqo jv;have jw:B.wW<=1048576:=by have X:=k5m hE;simp only[rulesB,qh,qy]at X;omega
 refine k1 false ⟨fun h=>(by cases h),fun _=> .inl ⟨⟨hE,hm,rfl⟩,.inl ⟨⟨hE,hm,rfl⟩,fun h=>(by cases h),fun _=>⟨fun h=>(by cases h),fun _=>⟨rfl,by simp;omega,by simp;unfold maxLen;omega,?_⟩⟩⟩⟩⟩;refine⟨(fun f q=>∃j:Nat,f=(j:Int)/\j<=p2.length/\q.length=F.length/\∀b,b∈q↔b∈F),fun f _=>(p2.length-f).toNat,⟨0,rfl,by omega,rfl,fun b=>Iff.rfl⟩,?_⟩;rintro _ q ⟨j,rfl,g1,g2,g3⟩;have e0:(([]:List wD)++F).length=F.length:=rfl;refine⟨fun e=> ?_,fun e=> ?_⟩
 ·have e:j<p2.length:=by have:=qc e;omega
  obtain⟨o1,o2⟩:=ho _ (qz e);rw[e0,ix_get _ _ e,inc (j:Int) p2.length qqo qqo qqo,wi p2[j] qqo qqo];dsimp only;refine⟨by omega,by omega,fun e2=> ?_,fun e2=>⟨⟨j+1,by omega,by omega,g2,g3⟩,by omega⟩⟩;have e2:=qc e2;have t1:=qce p2[j] (show(F.length:Int)≠0 by omega);have t2:=qbu p2[j] (show 0<(F.length:Int)by omega);rw[<-Int.tmod_eq_emod_of_nonneg o1]at t1 t2;generalize Int.tmod p2[j] (F.length:Int)=z at *
  refine⟨by omega,⟨t1,t2⟩,⟨t1,by omega⟩,⟨by omega,e2⟩,⟨by omega,by omega⟩,⟨by omega,e2⟩,⟨by omega,by omega⟩,⟨t1,t2⟩,⟨t1,by rw[qab];omega⟩,⟨j+1,by omega,by omega,by rw[qab,qab];exact g2,fun b=> ?_⟩,by omega⟩;rw[show z=((z.toNat:Nat):Int)by omega];exact(kw6 (i:=j) (j:=z.toNat) qqo qqo b).trans (g3 b)
 clear g1 e j;have hq:∀b∈q,b∈F:=fun b X=>(g3 b).1 X;generalize ac:(CS.mk B [] [] [] (newS B) 0 0)=Y;have dp:CJ F Y:=by rw[<-ac];exact newC_CJ hE hw
 have ae:Y.R=B:=by rw[<-ac]
 have ck:∀n,CJ F (pasS q Y n):=dp.pas (by rw[ae];exact aa) hq;have jx:∀n,CJ F (pasS F Y n):=dp.pas (by rw[ae];exact aa) fun b X=>X;have ad:∀n,(pasS q Y n).R=B:=fun n=>(pasS_R q Y n).trans ae;have fc:∀n,(pasS F Y n).R=B:=fun n=>(pasS_R F Y n).trans ae;refine⟨rfl,rfl,rfl,rfl,rfl,rfl,(fun ct fd fe ff fg fh fj fk fp fq ba fa ha fr fs ft fu fv fw fx fy fz bb fb X gc jy jz kd gd ge gf gg gh gi gj gl gm go gq gr na ma gt kk kl kn gu gv gw gx gy gz hc hd hg hh hj hk nb mb ka va kb vb hn hp ks kt kv lc ht hu ld lg lh li xa ya xb yb la qa wa lb qb wb=>∃j:Nat,ct=(j:Int)/\j<=F.length/\(CS.mk (wF.mk fd fe ff fg fh fj fk fp fq) ka va ba (PS.mk (wF.mk gd ge gf gg gh gi gj gl gm) (wI.mk go gq gr) na ma la qa wa xa ya) fa ha)=pasS q Y j/\(CS.mk (wF.mk fr fs ft fu fv fw fx fy fz) kb vb bb (PS.mk (wF.mk gu gv gw gx gy gz hc hd hg) (wI.mk hh hj hk) nb mb lb qb wb xb yb) fb X)=pasS F Y j/\(gc=false/\hn=[]/\hp=[]/\gt=false/\ht=[]/\hu=[])),(fun ct _ _ _ _ _ _ _ _ _ _ _ _ _ _ _ _ _ _ _ _ _ _ _ _ _ _ _ _ _ _ _ _ _ _ _ _ _ _ _ _ _ _ _ _ _ _ _ _ _ _ _ _ _ _ _ _ _ _ _ _ _ _ _ _ _ _ _ _ _ _ _ _ _ _ _ _ _ _ _ _ _ _ _ _ _ _=>(F.length-ct).toNat),⟨0,rfl,qbf _,ac,ac,rfl,rfl,rfl,rfl,rfl,rfl⟩,?_⟩;rintro ct fd fe ff fg fh fj fk fp fq ba fa ha fr fs ft fu fv fw fx fy fz bb fb X gc jy jz kd gd ge gf gg gh gi gj gl gm go gq gr na ma gt kk kl kn gu gv gw gx gy gz hc hd hg hh hj hk nb mb ka va kb vb hn hp ks kt kv lc ht hu ld lg lh li xa ya xb yb la qa wa lb qb wb ⟨j,rfl,Z,i2,i3,hO⟩;refine⟨fun e=> ?_,fun e=> ?_⟩
 ·have e:j<F.length:=by have:=qc e;omega
  refine⟨rfl,rfl,rfl,rfl,rfl,rfl,(fun cl ag ah ai aj ak al am ao aq dq dr ds au aw ax ay az bc bd bf bg dt du dv cp hv hx hy bh bi bj bk bm bn bo bq bs bt bu bv dw dx cq hz ia ib bw bx bz ca cb cc cd ce cf cg ch ci dy dz ea eb ec ed cr cu ic ie ig ih cv cw ii ij ik il ee ef eg eh ei ej ek em eo ep=>∃t:Nat,cl=(t:Int)/\t<=F.length/\(CS.mk (wF.mk ag ah ai aj ak al am ao aq) ea eb dq (PS.mk (wF.mk bh bi bj bk bm bn bo bq bs) (wI.mk bt bu bv) dw dx ei ej ek ee ef) dr ds)=subL (pasS q Y j) (q.take t)/\(CS.mk (wF.mk au aw ax ay az bc bd bf bg) ec ed dt (PS.mk (wF.mk bw bx bz ca cb cc cd ce cf) (wI.mk cg ch ci) dy dz em eo ep eg eh) du dv)=subL (pasS F Y j) (F.take t)/\(cp=false/\cr=[]/\cu=[]/\cq=false/\cv=[]/\cw=[])),(fun cl _ _ _ _ _ _ _ _ _ _ _ _ _ _ _ _ _ _ _ _ _ _ _ _ _ _ _ _ _ _ _ _ _ _ _ _ _ _ _ _ _ _ _ _ _ _ _ _ _ _ _ _ _ _ _ _ _ _ _ _ _ _ _ _ _ _ _ _ _ _ _ _ _ _ _ _ _ _ _ _ _ _ _ _ _ _=>(F.length-cl).toNat),⟨0,rfl,qbf _,i2,i3,hO⟩,?_⟩;rintro cl ag ah ai aj ak al am ao aq dq dr ds au aw ax ay az bc bd bf bg dt du dv cp hv hx hy bh bi bj bk bm bn bo bq bs bt bu bv dw dx cq hz ia ib bw bx bz ca cb cc cd ce cf cg ch ci dy dz ea eb ec ed cr cu ic ie ig ih cv cw ii ij ik il ee ef eg eh ei ej ek em eo ep ⟨t,rfl,m1,m2,m3,hP⟩;have cm:∀b∈q.take t,b∈F:=fun b X=>hq b (qba X);have lj:∀b∈F.take t,b∈F:=fun b X=>qba X;refine⟨fun e2=> ?_,fun e2=> ?_⟩
  ·have e2:t<F.length:=by have:=qc e2;omega
   have et:=(CJ.list (q.take t) (ck j) (by rw[ad];exact aa) cm).1;have eu:=(CJ.list (F.take t) (jx j) (by rw[fc];exact aa) lj).1;have im:=(subL_R (q.take t) (pasS q Y j)).trans (ad j);have io:=(subL_R (F.take t) (pasS F Y j)).trans (fc j);have ll:=et.len;have lm:=eu.len;have ta:subL (pasS q Y j) (q.take (t+1))=(subS (subL (pasS q Y j) (q.take t)) (q[t]' qqo)).c:=by rw[qt qqo,kjp]
   have tb:subL (pasS F Y j) (F.take (t+1))=(subS (subL (pasS F Y j) (F.take t)) F[t]).c:=by rw[qt e2,kjp]
   rw[<-m2]at et im ta;rw[<-m3]at eu io tb;have ln:=qz e2;have ew:=hq _ (qz (l:=q) (n:=t) qqo);obtain⟨o1,o2,o3,o4,o5,o6⟩:=hP;rw[e0,ix_get F t e2,ix_get q t qqo,inc (t:Int) F.length qqo qqo qqo];refine⟨by omega,by omega,rfl,rfl,rfl,⟨⟨⟨_,(by rw[<-m3]at lm;omega),eu.C⟩,hG _ ln,(by rw[io];exact hm)⟩,o4,o5,o6⟩,⟨by omega,by omega⟩,⟨by omega,by omega⟩,rfl,rfl,rfl,⟨⟨⟨_,(by rw[<-m2]at ll;omega),et.C⟩,hG _ ew,(by rw[im];exact hm)⟩,o1,o2,o3⟩,rfl,rfl,rfl,rfl,rfl,rfl,⟨t+1,by omega,by omega,?_,?_,o1,o2,o3,o4,o5,o6⟩,by(dsimp only;omega)⟩
   ·rw[ta];exact(sub_eta (CS.mk (wF.mk ag ah ai aj ak al am ao aq) ea eb dq (PS.mk (wF.mk bh bi bj bk bm bn bo bq bs) (wI.mk bt bu bv) dw dx ei ej ek ee ef) dr ds) (q[t]' qqo)).symm
   ·rw[tb];exact(sub_eta (CS.mk (wF.mk au aw ax ay az bc bd bf bg) ec ed dt (PS.mk (wF.mk bw bx bz ca cb cc cd ce cf) (wI.mk cg ch ci) dy dz em eo ep eg eh) du dv) F[t]).symm
  ·have e2:t=F.length:=by have:=qd e2;omega
   rw[ql qqo]at m2 m3;rw[inc (j:Int) F.length qqo qqo qqo];exact⟨rfl,rfl,rfl,rfl,rfl,rfl,⟨j+1,by omega,by omega,m2,m3,hP⟩,by(dsimp only;omega)⟩
 ·have e:j=F.length:=by have:=qd e;omega
  subst e;refine⟨⟨hE,hm,rfl⟩,?_⟩;generalize ip:ww.mk false 0 0 [] [] [] B.wd B.wH B.wS B.wO B.wM B.wZ B.wt B.wW B.wU [] (-1) (-1)=m0;have lo:RC m0 Y:=by rw[<-ac,<-ip];exact RC.new rfl rfl rfl rfl rfl
  have iq:∀n,RC (rsP m0 q n) (pasS q Y n):=lo.pas dp (by rw[ae];exact aa) hq;refine⟨(fun cn ir it iu iv iw iy iz ja jb jc cx cy cz da db dc dd de=>∃j:Nat,cn=(j:Int)/\j<=F.length/\(ww.mk ir it iu iv iw iy iz ja jb jc cx cy cz da db dc dd de)=rsP m0 q j),(fun cn _ _ _ _ _ _ _ _ _ _ _ _ _ _ _ _ _ _=>(F.length-cn).toNat),⟨0,rfl,qbf _,ip⟩,?_⟩;rintro cn ir it iu iv iw iy iz ja jb jc cx cy cz da db dc dd de ⟨j,rfl,n1,n2⟩;refine⟨fun e=> ?_,fun e=> ?_⟩
  ·have e:j<F.length:=by have:=qc e;omega
   refine⟨(fun co jd je jf jg jh ji jj jk jl jm df dg dh di dj dk dl dm=>∃t:Nat,co=(t:Int)/\t<=F.length/\(ww.mk jd je jf jg jh ji jj jk jl jm df dg dh di dj dk dl dm)=rsL (rsP m0 q j) (q.take t)),(fun co _ _ _ _ _ _ _ _ _ _ _ _ _ _ _ _ _ _=>(F.length-co).toNat),⟨0,rfl,qbf _,n2⟩,?_⟩;rintro co jd je jf jg jh ji jj jk jl jm df dg dh di dj dk dl dm ⟨t,rfl,n3,n4⟩;have cm:∀b∈q.take t,b∈F:=fun b X=>hq b (qba X);rw[e0];refine⟨fun e2=> ?_,fun e2=> ?_⟩
   ·have e2:t<F.length:=by have:=qc e2;omega
    have hC:=(CJ.list (q.take t) (ck j) (by rw[ad];exact aa) cm).1;have cj:=(iq j).list (q.take t) (ck j) (by rw[ad];exact aa) cm;have hR:=(subL_R (q.take t) (pasS q Y j)).trans (ad j);have ew:=hq _ (qz (l:=q) (n:=t) qqo);have ta:rsL (rsP m0 q j) (q.take (t+1))=(rsubmitM (rsL (rsP m0 q j) (q.take t)) (q[t]' qqo)).c:=by rw[qt qqo,kny]
    rw[<-n4]at cj ta;rw[ix_get q t qqo,inc (t:Int) F.length qqo qqo qqo];refine⟨⟨by omega,by omega⟩,⟨by omega,by omega⟩,cj.pre hC (by rw[hR];exact aa) (by rw[hR];exact hm) (by rw[hR];exact jw) ew,⟨t+1,by omega,by omega,?_⟩,by(dsimp only;omega)⟩;rw[ta]
   ·have e2:t=F.length:=by have:=qd e2;omega
    rw[ql qqo]at n4;rw[inc (j:Int) F.length qqo qqo qqo];exact⟨⟨j+1,by omega,by omega,n4⟩,by(dsimp only;omega)⟩
  ·have e:j=F.length:=by have:=qd e;omega
   subst e;have cj:=iq F.length;have hC:=ck F.length;have hR:=ad F.length;have ab:=cj.ok hC (by rw[hR];exact aa) (by rw[hR];exact hm);have hT:(staM (rsP m0 q F.length) (rsP m0 q F.length).Tip).s=(pasS q Y F.length).S:=by rw[cj.tip hC];exact hC.C.st.symm
   have X:=ab.b _ ab.t.2;rw[<-n2]at ab hT X;have jn:=congrArg CS.S i2;have jo:=congrArg CS.S i3;dsimp only at jn jo;have jp:=meet hE hw aa g3;rw[ac]at jp;have ex:PI (pasS q Y F.length).S (5*(pasS q Y F.length).be.length) 0/\(pasS q Y F.length).be.length<=8:=by obtain⟨b1,b2,b3⟩:=hC.C.bek;have:=hC.len;refine⟨?_,by omega⟩;rw[hC.C.st];exact(hC.C.K.pi b1 qqo b3).1
   have lq:=ab.n;refine⟨rfl,rfl,rfl,rfl,rfl,rfl,⟨⟨ab.r,ab.w⟩,ab.L,ab.t.2,by omega,X.1,X.2⟩,?_⟩;unfold staM at hT;rw[hT,jo,jn,<-jp];refine⟨ex.1.eok qqo,rfl,rfl,rfl,rfl,rfl,rfl,⟨_,0,by omega,ex.1⟩,fun _=>⟨rfl,rfl,rfl,rfl,rfl,rfl,⟨_,0,by omega,ex.1⟩,beq_self_eq_true _⟩,fun e=> ?_⟩;rw[beq_self_eq_true]at e;cases e
end Go.Proofs.YtfiecdeonopcmaaGreatDoor
end
