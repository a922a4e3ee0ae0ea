/- Parts of the proofs, merged by a program. -/
import Derived.Test.YtghlnaoogfcldaaGreatA5
set_option maxRecDepth 100000
set_option linter.all false
noncomputable section
namespace Go.Proofs.YtghlnaoogfcldaaGreat
open Go Go.Bv Go.Cv Go.Md Go.RowKit
open Go.IntKind (i64 u64)
noncomputable def kb1:Ct:= .gp 95 [yqu,.st 6] [.st 6] [] fun(p0:Int) (p1:wZ)=>(p0=18446744069414584321/\S3 p1,(permS p1:wZ),())
theorem kcj:kb1.O:=qrv Bs Tryz.func95 (.r 1 (.nd [] (.r 0 (.lp [] ⟨[0],yI,[5],[.one (zqi)],[]⟩ (.r 0 (.nd [] (.nd [] (.r 0 (.lp [] ⟨[0],yI,[6],[.one (zqi)],[]⟩ .no)) [] .no) [] .no)))) [] .no)) (k1e.c (kb9.c (k4c.c (kbf.c (kjq.c (kje.c c0)))))) (Q:=∀(p0:Int) (p1:wZ),(p0=18446744069414584321/\S3 p1)->∀r0:wZ,permS p1=r0-> 
(p0=18446744069414584321)/\((!true)=true->
0=r0.a0/\0=r0.a1/\0=r0.a2)/\
((!true)=false->
∃(I1:Int->Int->Int->Int->Prop) (M1:Int->Int->Int->Int->Nat),I1 0 p1.a0 p1.a1 p1.a2/\∀b1 f1 i1 k1,(I1 b1 f1 i1 k1->
(decide (b1<8)=true->
∃(I2:Int->Int->Int->Int->Prop) (M2:Int->Int->Int->Int->Nat),I2 0 f1 i1 k1/\∀l1 m1 n1 o1,(I2 l1 m1 n1 o1->
(decide (l1<3)=true->
(0<=l1/\l1<(3:Int))/\(0<=l1/\l1<(3:Int))/\(p0=18446744069414584321/\(0<=b1/\b1<8)/\0<=l1/\l1<3)/\(p0=18446744069414584321/\U64 (ix [m1,n1,o1] l1)/\U64 (rc b1 l1))/\let r1:Int:=(((ix [m1,n1,o1] l1)+(rc b1 l1))%18446744069414584321)
(p0=18446744069414584321)/\(p0=18446744069414584321/\U64 r1/\U64 (7:Int))/\(0<=l1/\l1<(3:Int))/\(0<=l1/\l1<(3:Int))/\I2 (i64.wrap (l1+1)) (bif decide (l1=(0:Int))then(pw r1 (7:Int))else m1) (bif decide (l1=(1:Int))then(pw r1 (7:Int))else n1) (bif decide (l1=(2:Int))then(pw r1 (7:Int))else o1)/\M2 (i64.wrap (l1+1)) (bif decide (l1=(0:Int))then(pw r1 (7:Int))else m1) (bif decide (l1=(1:Int))then(pw r1 (7:Int))else n1) (bif decide (l1=(2:Int))then(pw r1 (7:Int))else o1)<M2 l1 m1 n1 o1)/\
(decide (l1<3)=false->
(p0=18446744069414584321/\S3 (wZ.mk m1 n1 o1))/\I1 (i64.wrap (b1+1)) ((mixS (wZ.mk m1 n1 o1)).a0) ((mixS (wZ.mk m1 n1 o1)).a1) ((mixS (wZ.mk m1 n1 o1)).a2)/\M1 (i64.wrap (b1+1)) ((mixS (wZ.mk m1 n1 o1)).a0) ((mixS (wZ.mk m1 n1 o1)).a1) ((mixS (wZ.mk m1 n1 o1)).a2)<M1 b1 f1 i1 k1)))/\
(decide (b1<8)=false->
f1=r0.a0/\i1=r0.a1/\k1=r0.a2))))<|by
 rintro p0 p1 h _ rfl;obtain⟨hP,hs⟩:=h;subst hP;refine⟨rfl,fun h=>by simp at h,fun _=> ?_⟩;refine⟨(fun n a b c=>0<=n/\n<=8/\(⟨a,b,c⟩:wZ)=rnds n.toNat p1/\S3 ⟨a,b,c⟩),(fun n _ _ _=>(8-n).toNat),⟨by omega,by omega,rfl,hs⟩,?_⟩;rintro n a b c ⟨g0,g1,g2,g3⟩;refine⟨fun h=> ?_,fun h=> ?_⟩
 ·have h:=qb h;refine⟨(fun i x y z=>(i=0/\x=a/\y=b/\z=c)∨(i=1/\x=pw ((a+rc n 0)%18446744069414584321) 7/\y=b/\z=c)∨(i=2/\x=pw ((a+rc n 0)%18446744069414584321) 7/\y=pw ((b+rc n 1)%18446744069414584321) 7/\z=c)∨(i=3/\x=pw ((a+rc n 0)%18446744069414584321) 7/\y=pw ((b+rc n 1)%18446744069414584321) 7/\z=pw ((c+rc n 2)%18446744069414584321) 7)),(fun i _ _ _=>(3-i).toNat),(.inl ⟨rfl,rfl,rfl,rfl⟩),?_⟩;intro i x y z hi;have hrc:∀k,U64 (rc n k):=fun k=>by unfold rc;omega
  have hpw:∀k e,0<=pw k e/\pw k e<18446744069414584321:=fun k e=>⟨qbm _ qqo,qbf _ qqo⟩;obtain⟨h3a,h3b,h3c⟩:=g3;have u7:U64 7:=by decide
  have hm:∀q:Int,U64 (q%18446744069414584321):=fun q=>⟨qbm _ qqo,Int.lt_trans (qbf _ qqo) qqo⟩;refine⟨fun hh=> ?_,fun hh=> ?_⟩
  ·have hh:=qb hh;rcases hi with⟨rfl,rfl,rfl,rfl⟩|⟨rfl,rfl,rfl,rfl⟩|⟨rfl,rfl,rfl,rfl⟩|⟨rfl,_⟩
   ·exact⟨by omega,by omega,⟨rfl,by omega,by omega⟩,⟨rfl,h3a,hrc _⟩,rfl,⟨rfl,hm _,u7⟩,by omega,by omega,.inr (.inl ⟨rfl,rfl,rfl,rfl⟩),by(dsimp only;decide)⟩
   ·exact⟨by omega,by omega,⟨rfl,by omega,by omega⟩,⟨rfl,h3b,hrc _⟩,rfl,⟨rfl,hm _,u7⟩,by omega,by omega,.inr (.inr (.inl ⟨rfl,rfl,rfl,rfl⟩)),by(dsimp only;decide)⟩
   ·exact⟨by omega,by omega,⟨rfl,by omega,by omega⟩,⟨rfl,h3c,hrc _⟩,rfl,⟨rfl,hm _,u7⟩,by omega,by omega,.inr (.inr (.inr ⟨rfl,rfl,rfl,rfl⟩)),by(dsimp only;decide)⟩
   ·omega
  ·have hh:=qc hh;rcases hi with⟨rfl,_⟩|⟨rfl,_⟩|⟨rfl,_⟩|⟨rfl,rfl,rfl,rfl⟩
   ·omega
   ·omega
   ·omega
   ·have e:rnds (n+1).toNat p1=rnd ⟨a,b,c⟩ n:=by rw[show(n+1).toNat=n.toNat+1 by omega];show rnd (rnds n.toNat p1) (n.toNat:Int)=_;rw[<-g2,show(n.toNat:Int)=n by omega]
    have hS:S3 (rnds (n+1).toNat p1):=by rw[e];unfold rnd mixS S3;dsimp only;omega
    have hinc:i64.wrap (n+1)=n+1:=wi _ qqo qqo;rw[hinc];refine⟨⟨rfl,by unfold S3;have:=hpw ((a+rc n 0)%18446744069414584321) 7;have:=hpw ((b+rc n 1)%18446744069414584321) 7;have:=hpw ((c+rc n 2)%18446744069414584321) 7;dsimp only;omega⟩,(?_:0<=n+1/\n+1<=8/\_/\_),(?_:(8-(n+1)).toNat<(8-n).toNat)⟩
    ·refine⟨by omega,by omega,e.symm,?_⟩;rw[e]at hS;exact hS
    ·omega
 ·have h:=qc h;rw[show n=8 by omega]at g2;have g2:(⟨a,b,c⟩:wZ)=permS p1:=g2;rw[<-g2];exact⟨rfl,rfl,rfl⟩
noncomputable def kbz:Ct:= .gp 81 yN [.st 6] [] fun(p0 p1:Int) (p2:Li)=>(p0=18446744069414584321/\U64 p1/\Us p2/\p2.length<=1099511627776,(absS p1 p2:wZ),())
theorem ke5:kbz.O:=qrv Bs Tryz.func81 (.r 1 (.nd [] (.r 0 (.lp [] ⟨[1],yI,[8],[.one (zqi)],[]⟩ (.jn ⟨[],[],[],[],[]⟩ [] .no [] (.nd [] (.jn ⟨[1],yI,[],[],[]⟩ [] .no [] (.jn ⟨[1],yI,[],[],[]⟩ [] .no [] .no)) [] .no)))) [] .no)) (kau.c (k4c.c (kcj.c c0))) (Q:=∀(p0 p1:Int) (p2:Li),(p0=18446744069414584321/\U64 p1/\Us p2/\p2.length<=1099511627776)->∀r0:wZ,absS p1 p2=r0-> 
(p0=18446744069414584321/\U64 p1/\U64 (65536:Int))/\let r1:Int:=(p1*(65536:Int)%18446744069414584321)
(p0=18446744069414584321/\U64 r1/\U64 (u64.wrap (p2.length:Int)))/\let r2:Int:=((r1+(u64.wrap (p2.length:Int)))%18446744069414584321)
∃(I1:Int->Int->Int->Int->Prop) (M1:Int->Int->Int->Int->Nat),I1 0 0 0 r2/\∀b1 f1 i1 k1,(I1 b1 f1 i1 k1->
∀J1:Prop,((∀J2:Int->Int->Int->Prop,(∀(l1 m1 n1:Int),
(∀J3:Int->Int->Int->Prop,(∀(o1 q1 s1:Int),
((p0=18446744069414584321/\S3 (wZ.mk o1 q1 s1))/\I1 (i64.wrap (b1+2)) ((permS (wZ.mk o1 q1 s1)).a0) ((permS (wZ.mk o1 q1 s1)).a1) ((permS (wZ.mk o1 q1 s1)).a2)/\M1 (i64.wrap (b1+2)) ((permS (wZ.mk o1 q1 s1)).a0) ((permS (wZ.mk o1 q1 s1)).a1) ((permS (wZ.mk o1 q1 s1)).a2)<M1 b1 f1 i1 k1)->J3 o1 q1 s1)->
let v4:Bool:=decide ((i64.wrap (b1+1))<(p2.length:Int))
(v4=true->
(0<=i64.wrap (b1+1))/\i64.wrap (b1+1)<(p2.length:Int)/\(p0=18446744069414584321/\U64 m1/\U64 (ix p2 (i64.wrap (b1+1))))/\let r5:Int:=((m1+(ix p2 (i64.wrap (b1+1))))%18446744069414584321)
J3 l1 r5 n1)/\
(v4=false->
J3 l1 m1 n1))->J2 l1 m1 n1)->
(decide (b1<(p2.length:Int))=true->
(0<=b1)/\b1<(p2.length:Int)/\(p0=18446744069414584321/\U64 f1/\U64 (ix p2 b1))/\let r3:Int:=((f1+(ix p2 b1))%18446744069414584321)
J2 r3 i1 k1)/\
(decide (b1<(p2.length:Int))=false->
J2 f1 i1 k1))->J1)->
((b1==0)=true->
J1)/\
((b1==0)=false->
(decide (b1<(p2.length:Int))=true->
J1)/\
(decide (b1<(p2.length:Int))=false->
f1=r0.a0/\i1=r0.a1/\k1=r0.a2))))<|by
 rintro p0 p1 p2 h _ rfl;obtain⟨hP,h1,h2,h3⟩:=h;subst hP;have hp:=kic;have hi:S3 (absI p1 p2):=by unfold absI S3;dsimp only;omega
 have e:u64.wrap (p2.length:Int)=p2.length:=wu _ qqo qqo;have em:(p1*65536%18446744069414584321+(p2.length:Int))%18446744069414584321=(absI p1 p2).a2:=rfl;rw[e];refine⟨⟨rfl,h1,by omega⟩,⟨rfl,by omega,by omega⟩,?_⟩;rw[em];refine⟨fun i a b c=>(i=0/\a=0/\b=0/\c=(absI p1 p2).a2)∨(0<i/\i<=p2.length+2/\absL (p2.drop i.toNat) ⟨a,b,c⟩=absS p1 p2/\S3 ⟨a,b,c⟩),fun i _ _ _=>(p2.length+4-i).toNat,.inl ⟨rfl,rfl,rfl,rfl⟩,?_⟩;intro i a b c hg J1 j1
 have body:0<=i->i<=p2.length->(i<p2.length->absL (p2.drop i.toNat) ⟨a,b,c⟩=absS p1 p2)->(¬i<p2.length->permS ⟨a,b,c⟩=absS p1 p2)->S3 ⟨a,b,c⟩->J1:=by
  intro g0 g1 hne hnil hS;obtain⟨h3a,h3b,h3c⟩:=hS;refine j1 fun J2 j2=> ?_
  have hJ2:∀x y z,S3 ⟨x,y,z⟩->(i+1<p2.length->absL (p2.drop (i+2).toNat) (permS ⟨x,(y+ix p2 (i+1))%18446744069414584321,z⟩)=absS p1 p2)->(¬i+1<p2.length->permS ⟨x,y,z⟩=absS p1 p2)->J2 x y z:=by
   intro x y z hS k1 k2;refine j2 _ _ _ fun J3 j3=> ?_;have hJ3:∀x y z:Int,S3 ⟨x,y,z⟩->absL (p2.drop (i+2).toNat) (permS ⟨x,y,z⟩)=absS p1 p2->J3 x y z:=by intro x y z hS k;refine j3 _ _ _ ?_;rw[wi (i+2) qqo qqo];exact⟨⟨rfl,hS⟩,.inr ⟨(by omega:0<i+2),(by omega:i+2<=p2.length+2),k,hp _⟩,by(dsimp only;omega)⟩
   rw[wi (i+1) qqo qqo];refine⟨fun h5=> ?_,fun h5=> ?_⟩
   ·have h5:=qb h5;have hy:=h2 _ (ix_mem p2 (i+1) qqo h5);exact⟨by omega,h5,⟨rfl,hS.2.1,hy⟩,hJ3 _ _ _ (S3m (by have:=hS.1;omega) qqo hS.2.2) (k1 h5)⟩
   ·have ed2:p2.drop (i+2).toNat=[]:=qbg (by have:=qc h5;omega);exact hJ3 _ _ _ hS (by rw[ed2];exact k2 (qc h5))
  refine⟨fun hh=> ?_,fun hh=> ?_⟩
  ·have hh:=qb hh;have hx:=h2 _ (ix_mem p2 i g0 hh);have g2:=hne hh;rw[drop_ix p2 i g0 hh]at g2;refine⟨g0,hh,⟨rfl,h3a,hx⟩,hJ2 _ _ _ (S3m qqo h3b h3c) (fun h5=> ?_) (fun h5=> ?_)⟩
   ·rw[drop_ix p2 (i+1) qqo h5,show i+1+1=i+2 by omega]at g2;exact g2
   ·rw[show p2.drop (i+1).toNat=[]from qbg qqo]at g2;exact g2
  ·have hh:=qc hh;exact hJ2 _ _ _ ⟨h3a,h3b,h3c⟩ (fun h5=>by omega) (fun _=>hnil hh)
 refine⟨fun h0=> ?_,fun h0=>⟨fun hh=> ?_,fun hh=> ?_⟩⟩
 ·have h0:i=0:=by simpa using h0
  rcases hg with⟨_,rfl,rfl,rfl⟩|⟨hp0,_⟩
  ·subst h0;refine body qqo qqo (fun hl=> ?_) (fun hl=> ?_) hi
   ·have hne:p2≠[]:=by rintro rfl;simp at hl
    unfold absS;rw[qm hne];rfl
   ·have hnil:p2=[]:=qap qqo;unfold absS;rw[ql hnil];rfl
  ·omega
 ·have h0:¬i=0:=by simpa using h0
  have hh:=qb hh;rcases hg with⟨h1,_⟩|⟨g0,g1,g2,g3⟩
  ·omega
  ·exact body qqo qqo (fun _=>g2) (fun hl=>absurd hh hl) g3
 ·have h0:¬i=0:=by simpa using h0
  have hh:=qc hh;rcases hg with⟨h1,_⟩|⟨g0,g1,g2,g3⟩
  ·omega
  ·rw[qbg qqo]at g2;have hv:(⟨a,b,c⟩:wZ)=absS p1 p2:=g2;rw[<-hv];exact⟨rfl,rfl,rfl⟩
noncomputable def khq:Ct:= .gp 54 yN [yqu] [] fun(p0 p1:Int) (p2:Li)=>(p0=18446744069414584321/\U64 p1/\Us p2/\p2.length<=1099511627776,(hashS p1 p2:Int),())
theorem kiq:khq.O:=qrv Bs Tryz.func54 .no (k1e.c (ke5.c c0)) (Q:=∀(p0 p1:Int) (p2:Li),(p0=18446744069414584321/\U64 p1/\Us p2/\p2.length<=1099511627776)->∀r0:Int,hashS p1 p2=r0-> 
(p0=18446744069414584321)/\((!true)=true->
0=r0)/\
((!true)=false->
(p0=18446744069414584321/\U64 p1/\Us p2/\p2.length<=1099511627776)/\(absS p1 p2).a0=r0))<|by rintro p0 p1 p2 h _ rfl;obtain⟨hP,h1,h2,h3⟩:=h;subst hP;exact⟨rfl,fun h=>by simp at h,fun _=>⟨⟨rfl,h1,h2,h3⟩,rfl⟩⟩
noncomputable def kf4:Ct:= .gp 55 [.sl yqb] [.sl yqu] [] fun(p0:Li)=>(By p0/\p0.length<=1099511627776,(packS p0:Li),())
theorem ki7:kf4.O:=qrx Bs [10,21,22] Tryz.func55 (.r 1 (.nd [] (.r 0 (.lp [] ⟨[],[.vec yqu],[3,4],[.one (.row 0),.one (zqi)],[0]⟩ (.r 0 (.nd [] (.jn ⟨[],[.vec yqu],[3],[.one (.row 0)],[0,1]⟩ [] .no [] (.r 0 (.nd [] (.r 0 (.lp [] ⟨[],[],[5,6],[.one (zqu),.one (zqi)],[]⟩ .no)) [] .no))) [] .no)))) [] (.r 0 (.rt [.frz 1 [2]])))) x0 c0 (Q:=∀(p0:Li),(By p0/\p0.length<=1099511627776)->∀r0:Li,packS p0=r0-> 
lz [u64.wrap (p0.length:Int)]/\∃(I1:Int->(Li)->Prop) (M1:Int->(Li)->Nat),I1 0 [u64.wrap (p0.length:Int)]/\∀b1 f1,(I1 b1 f1->
(decide (b1<(p0.length:Int))=true->
∀J1:(Li)->Prop,(∀(i1:Li),
((0<=b1)/\b1<(p0.length:Int)/\∃(I2:Int->Int->Prop) (M2:Int->Int->Nat),I2 (u64.wrap (ix p0 b1)) 0/\∀k1 l1,(I2 k1 l1->
(decide (l1<(Int.tmod b1 7))=true->
I2 (u64.wrap (k1*256)) (i64.wrap (l1+1))/\M2 (u64.wrap (k1*256)) (i64.wrap (l1+1))<M2 k1 l1)/\
(decide (l1<(Int.tmod b1 7))=false->
(0<=i64.wrap ((i1.length:Int)-1)/\i64.wrap ((i1.length:Int)-1)<(i1.length:Int))/\(0<=i64.wrap ((i1.length:Int)-1)/\i64.wrap ((i1.length:Int)-1)<(i1.length:Int))/\let v1:Int:=ix i1 (i64.wrap ((i1.length:Int)-1))
(0<=i64.wrap ((i1.length:Int)-1)/\i64.wrap ((i1.length:Int)-1)<(i1.length:Int))/\(0<=i64.wrap ((i1.length:Int)-1)/\i64.wrap ((i1.length:Int)-1)<(i1.length:Int))/\(i1.length=(i1.set (i64.wrap ((i1.length:Int)-1)).toNat (u64.wrap (v1+k1))).length)/\I1 (i64.wrap (b1+1)) (i1.set (i64.wrap ((i1.length:Int)-1)).toNat (u64.wrap (v1+k1)))/\M1 (i64.wrap (b1+1)) (i1.set (i64.wrap ((i1.length:Int)-1)).toNat (u64.wrap (v1+k1)))<M1 b1 f1)))->J1 i1)->
(((Int.tmod b1 7)==0)=true->
lz f1/\lz [0]/\(f1.length+[0].length)*8<=140737488355328/\f1.length+[0].length<=maxLen/\lz (f1++[0])/\J1 (f1++[0]))/\
(((Int.tmod b1 7)==0)=false->
lz f1/\J1 f1))/\
(decide (b1<(p0.length:Int))=false->
lz f1/\f1=r0)))<|by
 rintro p0 h _ rfl;obtain⟨hb,hl⟩:=h;have e0:u64.wrap (p0.length:Int)=p0.length:=wu _ qqo qqo;rw[e0];refine⟨rfl,?_⟩;refine⟨(fun i g=>0<=i/\i<=p0.length/\g=(p0.length:Int)::pkI p0 i.toNat),(fun i _=>(p0.length-i).toNat),⟨by omega,by omega,by rw[show(0:Int).toNat=0 from rfl,klx]⟩,?_⟩;rintro i g ⟨g0,g1,rfl⟩;have hlen:=kjc p0 i.toNat;have em:Int.tmod i 7=i%7:=tmod_nn _ _ g0;refine⟨fun hh J1 kJ1=> ?_,fun hh=> ?_⟩
 ·have hh:=qb hh
  have rest:J1 ((p0.length:Int)::(pkF p0 i.toNat++[if i.toNat%7=0 then 0 else pkV p0 i.toNat])):=by
   have hb1:=hb _ (ix_mem p0 i g0 hh);have hF:=kbt p0 i.toNat;refine kJ1 _ ⟨g0,hh,?_⟩;rw[wu (ix p0 i) qqo qqo];have hp6:∀k:Nat,k<=6->(256:Int)^k<=281474976710656:=fun k hk=>k53 (m:=6) hk;refine⟨(fun n k=>0<=k/\k<=i%7/\n=256^k.toNat*ix p0 i),(fun _ k=>(i%7-k).toNat),⟨by omega,by omega,by rw[show(0:Int).toNat=0 from rfl,Int.pow_zero,Int.one_mul]⟩,?_⟩;rintro n k ⟨k0,k1,rfl⟩;have hpk:=hp6 k.toNat qqo;have hpp:=k26 k.toNat;have hb2:256^k.toNat*ix p0 i<=281474976710656*255:=qbw hpk qqo qqo qqo;have hb3:0<=256^k.toNat*ix p0 i:=qbj qqo qqo;refine⟨fun h2=> ?_,fun h2=> ?_⟩
   ·have h2:=qb h2;rw[em]at h2;rw[wi (k+1) qqo qqo,wu _ qqo qqo];refine⟨⟨by omega,by omega,?_⟩,by(dsimp only;omega)⟩;rw[show(k+1).toNat=k.toNat+1 by omega,k2f,qeb,Int.mul_assoc]
   ·have h2:=qc h2;rw[em]at h2;have hk:k.toNat=i.toNat%7:=by omega
    have hl1:(((p0.length:Int)::(pkF p0 i.toNat++[if i.toNat%7=0 then 0 else pkV p0 i.toNat])).length:Int)=(pkF p0 i.toNat).length+2:=by simp;omega
    have hix:ix ((p0.length:Int)::(pkF p0 i.toNat++[if i.toNat%7=0 then 0 else pkV p0 i.toNat])) ((pkF p0 i.toNat).length+1)=if i.toNat%7=0 then 0 else pkV p0 i.toNat:=by
     rw[ix_nat _ _ qqo qqo];have:((pkF p0 i.toNat).length+1:Int).toNat=(pkF p0 i.toNat).length+1:=by omega
     simp[this]
    have hv:=kkv hb i.toNat;have hv2:(256:Int)^(i.toNat%7)<=281474976710656:=hp6 _ qqo;rw[hl1,show((pkF p0 i.toNat).length:Int)+2-1=(pkF p0 i.toNat).length+1 by omega,wi ((pkF p0 i.toNat).length+1) qqo qqo];dsimp only;have e5:((pkF p0 i.toNat).length+1:Int).toNat=(pkF p0 i.toNat).length+1:=by omega
    have e6:(i+1).toNat=i.toNat+1:=by omega
    refine⟨⟨by omega,by omega⟩,⟨by omega,by omega⟩,⟨by omega,by omega⟩,⟨by omega,by omega⟩,by rw[qw],?_⟩;rw[hix,wi (i+1) qqo qqo,wu _ (by split<;>omega) (by split<;>omega)];refine⟨⟨by omega,by omega,?_⟩,by(first|omega|(dsimp only;omega))⟩;rw[e6,klz qqo,e5,List.set_cons_succ,km2,hk,ix_nat p0 i g0 hh]
  refine⟨fun h7=> ?_,fun h7=> ?_⟩
  ·have h7:i%7=0:=by rw[em]at h7;simpa using h7
   have e1:pkI p0 i.toNat=pkF p0 i.toNat:=ql qqo;have e2:(if i.toNat%7=0 then(0:Int)else pkV p0 i.toNat)=0:=ql qqo;rw[e2]at rest;refine⟨rfl,rfl,by simp;omega,by simp;unfold maxLen;omega,rfl,?_⟩;rw[List.cons_append,e1];exact rest
  ·have h7:¬i%7=0:=by rw[em]at h7;simpa using h7
   have e1:pkI p0 i.toNat=pkF p0 i.toNat++[pkV p0 i.toNat]:=qm qqo;have e2:(if i.toNat%7=0 then(0:Int)else pkV p0 i.toNat)=pkV p0 i.toNat:=qm qqo;rw[e2]at rest;refine⟨rfl,?_⟩;rw[e1];exact rest
 ·have hh:=qc hh;refine⟨rfl,?_⟩;rw[show i.toNat=p0.length by omega,kn5];rfl
noncomputable def k91:Ct:= .gp 35 [yqu,.sl yqb] [yqu] [] fun(p0:Int) (p1:Li)=>(U64 p0/\By p1/\p1.length<=1099511627775,(hashB p0 p1:Int),())
theorem k9y:k91.O:=qrv Bs Tryz.func35 .no (ki7.c (kiq.c c0)) (Q:=∀(p0:Int) (p1:Li),(U64 p0/\By p1/\p1.length<=1099511627775)->∀r0:Int,hashB p0 p1=r0-> 
(By p1/\p1.length<=1099511627776)/\((18446744069414584321:Int)=18446744069414584321/\U64 p0/\Us (packS p1)/\(packS p1).length<=1099511627776)/\(hashS p0 (packS p1))=r0)<|by
 rintro p0 p1 h _ rfl;obtain⟨h1,h2,h3⟩:=h;refine⟨⟨h2,by omega⟩,⟨rfl,h1,?_,?_⟩,rfl⟩
 ·intro x hx;rcases qal.1 hx with rfl|hx
  ·omega
  ·exact ka3 _ _ h2 x hx
 ·have:=k31 p1.length p1;simp only[packS,qay];omega
noncomputable def kal:Ct:= .g ⟨56,[.one (zqu),.one (zqi)],[],(.one (.one (.own 0))),[.tip yqb],false⟩ [yqu,yqi] [.sl yqb] [] fun(p0 p1:Int)=>(U64 p0/\0<=p1/\p1<=8,(dig p1.toNat p0:Li),())
theorem k5c:kal.O:=prv Bs Tryz.func56 (.r 1 (.nd [] (.r 0 (.lp [.tok 5 yqb] ⟨[0],[.tip yqb],[0,5,6],[.one (zqu),.one (.own 0),.one (zqi)],[]⟩ .no)) [] .no)) c0 (Q:=∀(p0 p1:Int),(U64 p0/\0<=p1/\p1<=8)->∀e0:Li,dig p1.toNat p0=e0-> 
(([]:Li)=([]:Li))/\∃(I1:Int->Int->(Li)->Prop) (M1:Int->Int->(Li)->Nat),I1 p0 0 ([]:Li)/\∀b1 f1 i1,(I1 b1 f1 i1->
(decide (f1<p1)=true->
lz i1/\(i1.length+[IntKind.u8.wrap (Int.tmod b1 256)].length)*1<=140737488355328/\i1.length+[IntKind.u8.wrap (Int.tmod b1 256)].length<=maxLen/\let v1:Li:=i1++[IntKind.u8.wrap (Int.tmod b1 256)]
(v1=v1)/\I1 (u64.wrap (Int.tdiv b1 256)) (i64.wrap (f1+1)) v1/\M1 (u64.wrap (Int.tdiv b1 256)) (i64.wrap (f1+1)) v1<M1 b1 f1 i1)/\
(decide (f1<p1)=false->
(i1=i1)/\i1=e0)))<|by
 rintro p0 p1 h _ rfl;obtain⟨h1,h2,h3⟩:=h;refine⟨rfl,⟨(fun n i g=>0<=i/\i<=p1/\U64 n/\n=p0/256^i.toNat/\g=dig i.toNat p0),(fun _ i _=>(p1-i).toNat),⟨by omega,by omega,h1,by simp,by simp[dig]⟩,?_⟩⟩;rintro n i g ⟨g0,g1,g2,g3,rfl⟩;refine⟨fun h=> ?_,fun h=> ?_⟩
 ·have h:=qb h;rw[inc i p1 g0 h qqo,tmod_nn _ _ g2.1,tdiv_nn _ _ g2.1,u8w,wu (n/256) qqo qqo];refine⟨rfl,?_,?_,rfl,⟨by omega,by omega,⟨by omega,by omega⟩,?_,?_⟩,by(dsimp only;omega)⟩
  ·simp;omega
  ·simp;unfold maxLen;omega
  ·rw[g3,show(i+1).toNat=i.toNat+1 by omega,qdv (qdj (k26 _)),qcn]
  ·rw[show(i+1).toNat=i.toNat+1 by omega,k6l,g3];congr 2;omega
 ·have h:=qc h;exact⟨rfl,by rw[show i=p1 by omega]⟩
noncomputable def kej:Ct:= .t ⟨58,[.one (zqi)],[],(.one (.one (.own 0))),[.tip yqb],false⟩ [yqi] [.sl yqb] [] fun(p0:Int)=>((dig 4 (len4 p0):Li),())
theorem k8u:kej.O:=ptv Bs Tryz.func58 (.r 0 (.jn ⟨[],[],[0],[.one (zqi)],[]⟩ [] .no [] .no)) (k5c.c c0) (Q:=∀(p0:Int),∀e0:Li,(dig 4 (len4 p0))=e0-> 
∀J1:Int->Prop,(∀(b1:Int),
((U64 (u64.wrap b1)/\0<=(4:Int)/\(4:Int)<=8)/\let r1:Li:=(dig (4:Int).toNat (u64.wrap b1))
(r1=r1)/\r1=e0)->J1 b1)->
(decide (p0<0)=true->
J1 0)/\
(decide (p0<0)=false->
(decide (4294967296<=p0)=true->
J1 0)/\
(decide (4294967296<=p0)=false->
J1 p0)))<|by
 rintro p0 _ rfl;intro J1 j1;have j:∀n,0<=n->n<=4294967295->len4 p0=n->J1 n:=by intro n h0 h1 e;refine j1 _ ?_;rw[wu n qqo qqo,e];exact⟨⟨⟨h0,by omega⟩,by omega⟩,by trivial,rfl⟩
 refine⟨fun h=>j 0 qqo qqo ?_,fun h=>⟨fun h' =>j 0 qqo qqo ?_,fun h' =>j p0 ?_ ?_ ?_⟩⟩
 ·have h:=qb h;exact ql (.inl h)
 ·have h' :=qb h';exact ql (.inr qqo)
 ·have h:=qc h;omega
 ·have h' :=qc h';omega
 ·have h:=qc h;have h' :=qc h';exact len4_in ⟨by omega,by(first|omega|(dsimp only;omega))⟩
noncomputable def kf0:Ct:= .gp 59 [.sl yqb] [.sl yqb] [] fun(p0:Li)=>(p0.length<=4294967295,(encB p0:Li),())
theorem kfx:kf0.O:=qrv Bs Tryz.func59 .no (k8u.c c0) (Q:=∀(p0:Li),(p0.length<=4294967295)->∀r0:Li,encB p0=r0-> 
lz (dig 4 (len4 (p0.length:Int)))/\((dig 4 (len4 (p0.length:Int))).length+p0.length)*1<=140737488355328/\(dig 4 (len4 (p0.length:Int))).length+p0.length<=maxLen/\(dig 4 (len4 (p0.length:Int)))++p0=r0)<|by
 rintro p0 h _ rfl;refine⟨by trivial,?_,?_,rfl⟩
 ·simp;omega
 ·simp;unfold maxLen;omega
noncomputable def kc0:Ct:= .gp 56 [yqu,yqi] [.sl yqb] [] fun(p0 p1:Int)=>(U64 p0/\0<=p1/\p1<=8,(dig p1.toNat p0:Li),())
theorem k7l:kc0.O:=qrv Bs Tryz.func56 (.r 1 (.nd [] (.r 0 (.lp [.tok 5 yqb] ⟨[0],[.tip yqb],[0,5,6],[.one (zqu),.one (.own 0),.one (zqi)],[]⟩ .no)) [] .no)) c0 (Q:=∀(p0 p1:Int),(U64 p0/\0<=p1/\p1<=8)->∀r0:Li,dig p1.toNat p0=r0-> 
(([]:Li)=([]:Li))/\∃(I1:Int->Int->(Li)->Prop) (M1:Int->Int->(Li)->Nat),I1 p0 0 ([]:Li)/\∀b1 f1 i1,(I1 b1 f1 i1->
(decide (f1<p1)=true->
lz i1/\(i1.length+[IntKind.u8.wrap (Int.tmod b1 256)].length)*1<=140737488355328/\i1.length+[IntKind.u8.wrap (Int.tmod b1 256)].length<=maxLen/\let v1:Li:=i1++[IntKind.u8.wrap (Int.tmod b1 256)]
(v1=v1)/\I1 (u64.wrap (Int.tdiv b1 256)) (i64.wrap (f1+1)) v1/\M1 (u64.wrap (Int.tdiv b1 256)) (i64.wrap (f1+1)) v1<M1 b1 f1 i1)/\
(decide (f1<p1)=false->
i1=r0)))<|by
 rintro p0 p1 h _ rfl;obtain⟨h1,h2,h3⟩:=h;refine⟨rfl,⟨(fun n i g=>0<=i/\i<=p1/\U64 n/\n=p0/256^i.toNat/\g=dig i.toNat p0),(fun _ i _=>(p1-i).toNat),⟨by omega,by omega,h1,by simp,by simp[dig]⟩,?_⟩⟩;rintro n i g ⟨g0,g1,g2,g3,rfl⟩;refine⟨fun h=> ?_,fun h=> ?_⟩
 ·have h:=qb h;rw[inc i p1 g0 h qqo,tmod_nn _ _ g2.1,tdiv_nn _ _ g2.1,u8w,wu (n/256) qqo qqo];refine⟨rfl,?_,?_,rfl,⟨by omega,by omega,⟨by omega,by omega⟩,?_,?_⟩,by(dsimp only;omega)⟩
  ·simp;omega
  ·simp;unfold maxLen;omega
  ·rw[g3,show(i+1).toNat=i.toNat+1 by omega,qdv (qdj (k26 _)),qcn]
  ·rw[show(i+1).toNat=i.toNat+1 by omega,k6l,g3];congr 2;omega
 ·have h:=qc h;rw[show i=p1 by omega]
noncomputable def kiw:Ct:= .tp 58 [yqi] [.sl yqb] [] fun(p0:Int)=>((dig 4 (len4 p0):Li),())
theorem kk0:kiw.O:=qtv Bs Tryz.func58 (.r 0 (.jn ⟨[],[],[0],[.one (zqi)],[]⟩ [] .no [] .no)) (k7l.c c0) (Q:=∀(p0:Int),∀r0:Li,(dig 4 (len4 p0))=r0-> 
∀J1:Int->Prop,(∀(b1:Int),
((U64 (u64.wrap b1)/\0<=(4:Int)/\(4:Int)<=8)/\let r1:Li:=(dig (4:Int).toNat (u64.wrap b1))
r1=r0)->J1 b1)->
(decide (p0<0)=true->
J1 0)/\
(decide (p0<0)=false->
(decide (4294967296<=p0)=true->
J1 0)/\
(decide (4294967296<=p0)=false->
J1 p0)))<|by
 rintro p0 _ rfl;intro J1 j1;have j:∀n,0<=n->n<=4294967295->len4 p0=n->J1 n:=by intro n h0 h1 e;refine j1 _ ?_;rw[wu n qqo qqo,e];exact⟨⟨⟨h0,by omega⟩,by omega⟩,rfl⟩
 refine⟨fun h=>j 0 qqo qqo ?_,fun h=>⟨fun h' =>j 0 qqo qqo ?_,fun h' =>j p0 ?_ ?_ ?_⟩⟩
 ·have h:=qb h;exact ql (.inl h)
 ·have h' :=qb h';exact ql (.inr qqo)
 ·have h:=qc h;omega
 ·have h' :=qc h';omega
 ·have h:=qc h;have h' :=qc h';exact len4_in ⟨by omega,by(first|omega|(dsimp only;omega))⟩
noncomputable def kgv:Ct:= .gp 57 [.sl yqu] [.sl yqb] [] fun(p0:Li)=>(Us p0/\p0.length<=4294967295,(encL p0:Li),())
theorem kj5:kgv.O:=qrv Bs Tryz.func57 (.r 1 (.nd [] (.r 0 (.lp [] ⟨[0],[.tip yqb],[3,4],[.one (.own 0),.one (zqi)],[]⟩ .no)) [] .no)) (k8u.c (k7l.c c0)) (Q:=∀(p0:Li),(Us p0/\p0.length<=4294967295)->∀r0:Li,encL p0=r0-> 
((dig 4 (len4 (p0.length:Int)))=(dig 4 (len4 (p0.length:Int))))/\∃(I1:Int->(Li)->Prop) (M1:Int->(Li)->Nat),I1 0 (dig 4 (len4 (p0.length:Int)))/\∀b1 f1,(I1 b1 f1->
(decide (b1<(p0.length:Int))=true->
(0<=b1)/\b1<(p0.length:Int)/\(U64 (ix p0 b1)/\0<=(8:Int)/\(8:Int)<=8)/\lz f1/\(f1.length+(dig (8:Int).toNat (ix p0 b1)).length)*1<=140737488355328/\f1.length+(dig (8:Int).toNat (ix p0 b1)).length<=maxLen/\(f1++(dig (8:Int).toNat (ix p0 b1))=f1++(dig (8:Int).toNat (ix p0 b1)))/\I1 (i64.wrap (b1+1)) (f1++(dig (8:Int).toNat (ix p0 b1)))/\M1 (i64.wrap (b1+1)) (f1++(dig (8:Int).toNat (ix p0 b1)))<M1 b1 f1)/\
(decide (b1<(p0.length:Int))=false->
f1=r0)))<|by
 rintro p0 h _ rfl;obtain⟨h1,h2⟩:=h;refine⟨rfl,⟨(fun i g=>0<=i/\i<=p0.length/\g=dig 4 (len4 p0.length)++(p0.take i.toNat).flatMap (dig 8)),(fun i _=>(p0.length-i).toNat),⟨by omega,by omega,by simp⟩,?_⟩⟩;rintro i g ⟨g0,g1,rfl⟩;refine⟨fun h=> ?_,fun h=> ?_⟩
 ·have h:=qb h;have hx:=h1 _ (ix_mem p0 i g0 h);rw[inc i p0.length g0 h qqo];have hlen:(dig 4 (len4 p0.length)++(p0.take i.toNat).flatMap (dig 8)).length<=4+8*p0.length:=by simp only[qj,kf,k1y,qn];omega
  refine⟨g0,h,⟨hx,by omega⟩,rfl,?_,?_,rfl,⟨by omega,by omega,?_⟩,by(dsimp only;omega)⟩
  ·rw[kf];omega
  ·rw[kf];unfold maxLen;omega
  ·rw[ke p0 i g0 h,qbp,qas];simp
 ·have h:=qc h;rw[qi qqo];rfl
noncomputable def ke4:Ct:= .gp 36 [.st 2] [.sl yqb] [] fun(p0:wC)=>(TR p0/\TL p0/\p0.wB.length<=1048576/\(∀x∈p0.wB,x.wF.length<=1024),(encT p0 p0.wK:Li),())
theorem k4e:ke4.O:=qrv Bs Tryz.func36 (.r 3 (.nd [] (.r 0 (.lp [] ⟨[1],[.tip yqb],[3,4],[.one (.own 0),.one (zqi)],[]⟩ (.r 0 (.nd [] (.r 1 (.nd [] (.r 0 (.lp [] ⟨[1],[.tip yqb],[3,7],[.one (.own 0),.one (zqi)],[]⟩ .no)) [] .no)) [] .no)))) [] (.r 0 (.nd [] (.r 0 (.lp [] ⟨[1],[.tip yqb],[3,9],[.one (.own 0),.one (zqi)],[]⟩ .no)) [] .no)))) (k5c.c (kj5.c (kk0.c (kfx.c c0)))) (Q:=∀(p0:wC),(TR p0/\TL p0/\p0.wB.length<=1048576/\(∀x∈p0.wB,x.wF.length<=1024))->∀r0:Li,encT p0 p0.wK=r0-> 
(U64 p0.wN/\0<=(8:Int)/\(8:Int)<=8)/\(Us p0.wD/\p0.wD.length<=4294967295)/\lz (dig (8:Int).toNat p0.wN)/\((dig (8:Int).toNat p0.wN).length+(encL p0.wD).length)*1<=140737488355328/\(dig (8:Int).toNat p0.wN).length+(encL p0.wD).length<=maxLen/\let v1:Li:=(dig (8:Int).toNat p0.wN)++(encL p0.wD)
lz v1/\(v1.length+(dig 4 (len4 (p0.wB.length:Int))).length)*1<=140737488355328/\v1.length+(dig 4 (len4 (p0.wB.length:Int))).length<=maxLen/\let v2:Li:=v1++(dig 4 (len4 (p0.wB.length:Int)))
(v2=v2)/\∃(I1:Int->(Li)->Prop) (M1:Int->(Li)->Nat),I1 0 v2/\∀b1 f1,(I1 b1 f1->
(decide (b1<(p0.wB.length:Int))=true->
(0<=b1)/\b1<(p0.wB.length:Int)/\let v3:Li:=[(ix p0.wB b1).wW,(ix p0.wB b1).wP,(ix p0.wB b1).wO]
(f1=f1)/\∃(I2:Int->(Li)->Prop) (M2:Int->(Li)->Nat),I2 0 f1/\∀i1 k1,(I2 i1 k1->
(decide (i1<(v3.length:Int))=true->
(0<=i1)/\i1<(v3.length:Int)/\(U64 (ix v3 i1)/\0<=(8:Int)/\(8:Int)<=8)/\lz k1/\(k1.length+(dig (8:Int).toNat (ix v3 i1)).length)*1<=140737488355328/\k1.length+(dig (8:Int).toNat (ix v3 i1)).length<=maxLen/\(k1++(dig (8:Int).toNat (ix v3 i1))=k1++(dig (8:Int).toNat (ix v3 i1)))/\I2 (i64.wrap (i1+1)) (k1++(dig (8:Int).toNat (ix v3 i1)))/\M2 (i64.wrap (i1+1)) (k1++(dig (8:Int).toNat (ix v3 i1)))<M2 i1 k1)/\
(decide (i1<(v3.length:Int))=false->
(Us ((ix p0.wB b1).wF)/\((ix p0.wB b1).wF).length<=4294967295)/\lz k1/\(k1.length+(encL ((ix p0.wB b1).wF)).length)*1<=140737488355328/\k1.length+(encL ((ix p0.wB b1).wF)).length<=maxLen/\(k1++(encL ((ix p0.wB b1).wF))=k1++(encL ((ix p0.wB b1).wF)))/\I1 (i64.wrap (b1+1)) (k1++(encL ((ix p0.wB b1).wF)))/\M1 (i64.wrap (b1+1)) (k1++(encL ((ix p0.wB b1).wF)))<M1 b1 f1)))/\
(decide (b1<(p0.wB.length:Int))=false->
(f1=f1)/\∃(I3:Int->(Li)->Prop) (M3:Int->(Li)->Nat),I3 0 f1/\∀l1 m1,(I3 l1 m1->
let v4:Int:=([p0.wH,p0.wG,p0.Fee,p0.wI,p0.wM].length:Int)
(decide (l1<v4)=true->
(0<=l1)/\l1<([p0.wH,p0.wG,p0.Fee,p0.wI,p0.wM].length:Int)/\let v5:Int:=ix [p0.wH,p0.wG,p0.Fee,p0.wI,p0.wM] l1
(U64 v5/\0<=(8:Int)/\(8:Int)<=8)/\lz m1/\(m1.length+(dig (8:Int).toNat v5).length)*1<=140737488355328/\m1.length+(dig (8:Int).toNat v5).length<=maxLen/\(m1++(dig (8:Int).toNat v5)=m1++(dig (8:Int).toNat v5))/\I3 (i64.wrap (l1+1)) (m1++(dig (8:Int).toNat v5))/\M3 (i64.wrap (l1+1)) (m1++(dig (8:Int).toNat v5))<M3 l1 m1)/\
(decide (l1<v4)=false->
lz m1/\(m1.length+(dig 4 (len4 p0.wJ)).length)*1<=140737488355328/\m1.length+(dig 4 (len4 p0.wJ)).length<=maxLen/\(p0.wK.length<=4294967295)/\lz (m1++(dig 4 (len4 p0.wJ)))/\((m1++(dig 4 (len4 p0.wJ))).length+(encB p0.wK).length)*1<=140737488355328/\(m1++(dig 4 (len4 p0.wJ))).length+(encB p0.wK).length<=maxLen/\let v6:Li:=(m1++(dig 4 (len4 p0.wJ)))++(encB p0.wK)
v6=r0)))))<|by
 rintro p0 h _ rfl;obtain⟨hr,hl,ho,hc⟩:=h;have hm:=hl.m;have hpl:=hl.p;refine⟨⟨hr.a,by omega⟩,⟨hr.m,hm⟩,rfl,?_,?_,rfl,?_,?_,rfl,?_⟩
 ·simp;omega
 ·simp;unfold maxLen;omega
 ·simp;omega
 ·simp;unfold maxLen;omega
 have hb:=fun i:Int=>k1d (p0.wB.take i.toNat) 1024 (fun x hx=>hc x (qbz hx))
 have hb:∀i:Int,((p0.wB.take i.toNat).flatMap encO).length<=8700000000:=by
  intro i;have:=hb i;rw[qn]at this;refine qbl this ?_;have:min i.toNat p0.wB.length<=1048576:=by omega
  have:=Nat.mul_le_mul_left (28+8*1024) this;omega
 have hpre:(dig 8 p0.wN++encL p0.wD++dig 4 (len4 p0.wB.length)).length<=40000000000:=by simp;omega
 generalize hP:dig 8 p0.wN++encL p0.wD++dig 4 (len4 p0.wB.length)=P at *
 refine⟨(fun i g=>0<=i/\i<=p0.wB.length/\g=P++(p0.wB.take i.toNat).flatMap encO),(fun i _=>(p0.wB.length-i).toNat),⟨by omega,by omega,by rw[<-hP];simp⟩,?_⟩;rintro i g ⟨g0,g1,rfl⟩;have hbi:=hb i;generalize hB:P++(p0.wB.take i.toNat).flatMap encO=B at *
 have hBl:B.length<=50000000000:=by rw[<-hB,qj];omega
 refine⟨fun h=> ?_,fun h=> ?_⟩
 ·have h:=qb h;have hx:=hr.o _ (ix_mem p0.wB i g0 h);have hxc:=hc _ (ix_mem p0.wB i g0 h);refine⟨g0,h,rfl,?_⟩;refine⟨(fun k g=>0<=k/\k<=3/\g=B++([(ix p0.wB i).wW,(ix p0.wB i).wP,(ix p0.wB i).wO].take k.toNat).flatMap (dig 8)),(fun k _=>(3-k).toNat),⟨by omega,by omega,by simp⟩,?_⟩;rintro k g ⟨k0,k1,rfl⟩
  have hul:Us [(ix p0.wB i).wW,(ix p0.wB i).wP,(ix p0.wB i).wO]:=by
   intro x hx';simp only[qal,qfb,or_false]at hx';rcases hx' with rfl|rfl|rfl
   ·exact hx.c
   ·exact hx.p0
   ·exact hx.p1
  have hll:([(ix p0.wB i).wW,(ix p0.wB i).wP,(ix p0.wB i).wO].length:Int)=3:=rfl;generalize hLd:[(ix p0.wB i).wW,(ix p0.wB i).wP,(ix p0.wB i).wO]=Lc at *
  have hgl:(B++(Lc.take k.toNat).flatMap (dig 8)).length<=50000000024:=by simp only[qj,k1y,qn];omega
  refine⟨fun hk=> ?_,fun hk=> ?_⟩
  ·have hk:=qb hk;rw[inc k 3 k0 qqo qqo];refine⟨k0,hk,⟨hul _ (ix_mem Lc k k0 hk),by omega⟩,rfl,?_,?_,rfl,⟨by omega,by omega,?_⟩,by(dsimp only;omega)⟩
   ·rw[kf];omega
   ·rw[kf];unfold maxLen;omega
   ·rw[ke Lc k k0 hk,qbp,qas];simp
  ·have hk:=qc hk;rw[qi qqo]at hgl ⊢;have hi:=inc i p0.wB.length g0 h qqo;rw[hi];have nxt:(0<=i+1/\i+1<=p0.wB.length/\B++Lc.flatMap (dig 8)++encL (ix p0.wB i).wF=P++(p0.wB.take (i+1).toNat).flatMap encO)/\(p0.wB.length-(i+1)).toNat<(p0.wB.length-i).toNat:=by refine⟨⟨by omega,by omega,?_⟩,by(first|omega|(dsimp only;omega))⟩;rw[ke p0.wB i g0 h,qbp,<-qas,hB,<-hLd];simp[encO,qas]
   refine⟨⟨hx.ci,by omega⟩,rfl,?_,?_,rfl,nxt.1,nxt.2⟩
   ·rw[kq];omega
   ·rw[kq];unfold maxLen;omega
 ·have h:=qc h;refine⟨rfl,?_⟩
  have hul:Us [p0.wH,p0.wG,p0.Fee,p0.wI,p0.wM]:=by
   intro x hx';simp only[qal,qfb,or_false]at hx';rcases hx' with rfl|rfl|rfl|rfl|rfl
   ·exact hr.d
   ·exact hr.w
   ·exact hr.f
   ·exact hr.ac
   ·exact hr.n
  have hll:([p0.wH,p0.wG,p0.Fee,p0.wI,p0.wM].length:Int)=5:=rfl;refine⟨(fun k g=>0<=k/\k<=5/\g=B++([p0.wH,p0.wG,p0.Fee,p0.wI,p0.wM].take k.toNat).flatMap (dig 8)),(fun k _=>(5-k).toNat),⟨by omega,by omega,by simp⟩,?_⟩;rintro k g ⟨k0,k1,rfl⟩;generalize hLd:[p0.wH,p0.wG,p0.Fee,p0.wI,p0.wM]=Lc at *
  have hgl:(B++(Lc.take k.toNat).flatMap (dig 8)).length<=50000000040:=by simp only[qj,k1y,qn];omega
  refine⟨fun hk=> ?_,fun hk=> ?_⟩
  ·have hk:=qb hk;rw[inc k 5 k0 qqo qqo];refine⟨k0,hk,⟨hul _ (ix_mem Lc k k0 hk),by omega⟩,rfl,?_,?_,rfl,⟨by omega,by omega,?_⟩,by(dsimp only;omega)⟩
   ·rw[kf];omega
   ·rw[kf];unfold maxLen;omega
   ·rw[ke Lc k k0 hk,qbp,qas];simp
  ·have hk:=qc hk;rw[qi qqo]at hgl ⊢;refine⟨rfl,?_,?_,hpl,by trivial,?_,?_,?_⟩
   ·rw[kf];omega
   ·rw[kf];unfold maxLen;omega
   ·rw[qj,kf,k3m];omega
   ·rw[qj,kf,k3m];unfold maxLen;omega
   ·rw[<-hB,<-hLd,<-hP,qi qqo];simp[encT,qas]
noncomputable def kek:Ct:= .gp 40 [.st 4] [.bool] [] fun(p0:wAD)=>(0<=p0.a0/\0<=p0.a1,(vPoint p0.a0 p0.a1:Bool),())
theorem kgs:kek.O:=qrv Bs Tryz.func40 .no c0 (Q:=∀(p0:wAD),(0<=p0.a0/\0<=p0.a1)->∀r0:Bool,vPoint p0.a0 p0.a1=r0-> 
(decide (p0.a0<18446744069414584321)=true->
(decide (p0.a1<18446744069414584321)=true->
(decide (0<p0.a0)=true->
true=r0)/\
(decide (0<p0.a0)=false->
decide (0<p0.a1)=r0))/\
(decide (p0.a1<18446744069414584321)=false->
false=r0))/\
(decide (p0.a0<18446744069414584321)=false->
false=r0))<|by
 rintro p0 h _ rfl;refine ?_;unfold vPoint
 repeat' (apply qep<;>intro h)
 all_goals grind
noncomputable def kbd:Ct:= .gp 39 [.sl yqu] [.bool] [] fun(p0:Li)=>(p0.length<=9223372036854775807,(p0.all (fun x=>decide (x<18446744069414584321)):Bool),())
theorem kci:kbd.O:=qrv Bs Tryz.func39 (.r 0 (.nd [] (.r 0 (.lp [] ⟨[],[],[3],[.one (zqi)],[]⟩ .no)) [] .no)) c0 (Q:=∀(p0:Li),(p0.length<=9223372036854775807)->∀r0:Bool,(p0.all (fun x=>decide (x<18446744069414584321)))=r0-> 
∃(I1:Int->Prop) (M1:Int->Nat),I1 0/\∀b1,(I1 b1->
(decide (b1<(p0.length:Int))=true->
(0<=b1)/\b1<(p0.length:Int)/\let v1:Bool:=decide (18446744069414584321<=(ix p0 b1))
(v1=true->
false=r0)/\
(v1=false->
I1 (i64.wrap (b1+1))/\M1 (i64.wrap (b1+1))<M1 b1))/\
(decide (b1<(p0.length:Int))=false->
true=r0)))<|by
 rintro p0 h _ rfl;refine(⟨(fun i=>0<=i/\i<=p0.length/\∀x∈p0.take i.toNat,x<18446744069414584321),(fun i=>(p0.length-i).toNat),⟨by omega,by omega,by simp⟩,?_⟩);rintro i ⟨g0,g1,g2⟩;refine⟨fun hh=> ?_,fun hh=> ?_⟩
 ·have hh:=qb hh;refine⟨g0,hh,fun e=> ?_,fun e=> ?_⟩
  ·have e:=qb e;exact(qci.2 ⟨_,ix_mem p0 i g0 hh,by simp;omega⟩).symm
  ·have e:=qc e;rw[inc i p0.length g0 hh qqo];refine⟨⟨by omega,by omega,?_⟩,by(dsimp only;omega)⟩;rw[ke p0 i g0 hh];intro x hx;rcases qaz.1 hx with hx|hx
   ·exact g2 x hx
   ·have:x=ix p0 i:=by simpa using hx
    omega
 ·have hh:=qc hh;rw[qi qqo]at g2;symm;simpa using g2
noncomputable def keo:Ct:= .gp 21 [.st 2] [yqi] [] fun(p0:wC)=>(TR p0/\TL p0,(validE p0:Int),())
theorem k33:keo.O:=qrv Bs Tryz.func21 (.r 1 (.nd [] (.r 0 (.lp [] ⟨[],[],[3],[.one (zqi)],[]⟩ (.r 0 (.nd [] (.r 0 (.lp [] ⟨[],[],[4],[.one (zqi)],[]⟩ .no)) [] .no)))) [] (.nd [] (.r 0 (.lp [] ⟨[],[],[5],[.one (zqi)],[]⟩ .no)) [] (.jn ⟨[],[],[],[],[]⟩ [] .no [] (.jn ⟨[],[],[],[],[]⟩ [] .no [] .no))))) (kci.c (kgs.c c0)) (Q:=∀(p0:wC),(TR p0/\TL p0)->∀r0:Int,validE p0=r0-> 
(decide (4<(p0.wD.length:Int))=true->
1=r0)/\
(decide (4<(p0.wD.length:Int))=false->
(decide (4<(p0.wB.length:Int))=true->
1=r0)/\
(decide (4<(p0.wB.length:Int))=false->
(p0.wD.length<=9223372036854775807)/\let r1:Bool:=(p0.wD.all (fun x=>decide (x<18446744069414584321)))
((!r1)=true->
1=r0)/\
((!r1)=false->
([p0.wN,p0.wI,p0.wM].length<=9223372036854775807)/\let r2:Bool:=([p0.wN,p0.wI,p0.wM].all (fun x=>decide (x<18446744069414584321)))
((!r2)=true->
1=r0)/\
((!r2)=false->
∃(I1:Int->Prop) (M1:Int->Nat),I1 0/\∀b1,(I1 b1->
(decide (b1<(p0.wD.length:Int))=true->
∃(I2:Int->Prop) (M2:Int->Nat),I2 0/\∀f1,(I2 f1->
(decide (f1<b1)=true->
(0<=b1)/\b1<(p0.wD.length:Int)/\(0<=f1)/\f1<(p0.wD.length:Int)/\(((ix p0.wD b1)==(ix p0.wD f1))=true->
1=r0)/\
(((ix p0.wD b1)==(ix p0.wD f1))=false->
I2 (i64.wrap (f1+1))/\M2 (i64.wrap (f1+1))<M2 f1))/\
(decide (f1<b1)=false->
I1 (i64.wrap (b1+1))/\M1 (i64.wrap (b1+1))<M1 b1)))/\
(decide (b1<(p0.wD.length:Int))=false->
∃(I3:Int->Prop) (M3:Int->Nat),I3 0/\∀i1,(I3 i1->
(decide (i1<(p0.wB.length:Int))=true->
(0<=i1)/\i1<(p0.wB.length:Int)/\let v3:Bool:=decide (18446744069414584321<=((ix p0.wB i1).wW))
(v3=true->
1=r0)/\
(v3=false->
(0<=(wAD.mk ((ix p0.wB i1).wP) ((ix p0.wB i1).wO)).a0/\0<=(wAD.mk ((ix p0.wB i1).wP) ((ix p0.wB i1).wO)).a1)/\let r4:Bool:=(vPoint (wAD.mk ((ix p0.wB i1).wP) ((ix p0.wB i1).wO)).a0 (wAD.mk ((ix p0.wB i1).wP) ((ix p0.wB i1).wO)).a1)
((!r4)=true->
1=r0)/\
((!r4)=false->
let v5:Bool:=((((ix p0.wB i1).wF).length:Int) !=3)
(v5=true->
1=r0)/\
(v5=false->
(((ix p0.wB i1).wF).length<=9223372036854775807)/\let r6:Bool:=(((ix p0.wB i1).wF).all (fun x=>decide (x<18446744069414584321)))
((!r6)=true->
1=r0)/\
((!r6)=false->
I3 (i64.wrap (i1+1))/\M3 (i64.wrap (i1+1))<M3 i1)))))/\
(decide (i1<(p0.wB.length:Int))=false->
∀J1:Prop,((∀J2:Prop,(((decide (p0.wJ<0)=true->
1=r0)/\
(decide (p0.wJ<0)=false->
(decide (1048576<p0.wJ)=true->
1=r0)/\
(decide (1048576<p0.wJ)=false->
let v7:Bool:=decide (1048576<(p0.wK.length:Int))
(v7=true->
3=r0)/\
(v7=false->
0=r0))))->J2)->
((p0.wH==0)=true->
((p0.wM !=0)=true->
1=r0)/\
((p0.wM !=0)=false->
(((p0.wD.length:Int)==0)=true->
1=r0)/\
(((p0.wD.length:Int)==0)=false->
((p0.wG==0)=true->
((p0.wI !=0)=true->
1=r0)/\
((p0.wI !=0)=false->
J2))/\
((p0.wG==0)=false->
J2))))/\
((p0.wH==0)=false->
J2))->J1)->
(decide (4294967295<p0.wH)=true->
1=r0)/\
(decide (4294967295<p0.wH)=false->
(decide (4294967295<p0.wG)=true->
1=r0)/\
(decide (4294967295<p0.wG)=false->
(decide (4294967295<p0.Fee)=true->
1=r0)/\
(decide (4294967295<p0.Fee)=false->
(decide (0<p0.wH)=true->
(decide (0<p0.wG)=true->
1=r0)/\
(decide (0<p0.wG)=false->
J1))/\
(decide (0<p0.wH)=false->
J1)))))))))))))<|by
 rintro p0 h _ rfl;obtain⟨hr,hl⟩:=h;have e3:[p0.wN,p0.wI,p0.wM].all (fun x=>decide (x<18446744069414584321))=(decide (p0.wN<18446744069414584321)&&(decide (p0.wI<18446744069414584321)&&decide (p0.wM<18446744069414584321))):=by simp
 have bad:(vMarks p0.wD&&vOuts p0.wB&&vAmounts p0&&vRest p0)=false->1=validE p0:=by intro h;unfold validE;rw[h];rfl
 have badM:vMarks p0.wD=false->1=validE p0:=fun h=>bad (by rw[h];rfl);have badO:vOuts p0.wB=false->1=validE p0:=fun h=>bad (by rw[h];simp);have badA:vAmounts p0=false->1=validE p0:=fun h=>bad (by rw[h];simp);have badR:vRest p0=false->1=validE p0:=fun h=>bad (by rw[h];simp);refine⟨fun h=>badM ?_,fun h=>⟨fun h2=>badO ?_,fun h2=>⟨by have:=hl.m;omega,fun h3=>badM ?_,fun h3=>⟨by simp,fun h4=> ?_,fun h4=> ?_⟩⟩⟩⟩
 ·have h:=qb h;unfold vMarks;rw[qaf qqo];rfl
 ·have h2:=qb h2;unfold vOuts;rw[qaf qqo];rfl
 ·have h3:p0.wD.all (fun x=>decide (x<18446744069414584321))=false:=by simpa using h3
  unfold vMarks;rw[h3];simp
 ·rw[e3]at h4;have:vAmounts p0=false∨vRest p0=false:=by unfold vAmounts vRest;grind
  exact this.elim badA badR
 have h:=qc h;have h2:=qc h2;have h3:p0.wD.all (fun x=>decide (x<18446744069414584321))=true:=by simpa using h3
 have h4:[p0.wN,p0.wI,p0.wM].all (fun x=>decide (x<18446744069414584321))=true:=by
  cases hq:[p0.wN,p0.wI,p0.wM].all (fun x=>decide (x<18446744069414584321))
  ·rw[hq]at h4;simp at h4
  ·rfl
 rw[e3]at h4;simp only[qe,qaw]at h4;obtain⟨a1,a2,a3⟩:=h4;refine⟨fun i=>0<=i/\i<=p0.wD.length/\(p0.wD.take i.toNat).Nodup,fun i=>(p0.wD.length-i).toNat,⟨by omega,by omega,by simp⟩,?_⟩;rintro i ⟨g0,g1,g2⟩;refine⟨fun hh=> ?_,fun hh=> ?_⟩
 ·have hh:=qb hh;refine⟨fun k=>0<=k/\k<=i/\∀x∈p0.wD.take k.toNat,x≠ix p0.wD i,fun k=>(i-k).toNat,⟨by omega,by omega,by simp⟩,?_⟩;rintro k ⟨k0,k1,k2⟩;refine⟨fun hk=> ?_,fun hk=> ?_⟩
  ·have hk:=qb hk;refine⟨g0,hh,k0,by omega,fun e=>badM ?_,fun e=> ?_⟩
   ·have e:ix p0.wD i=ix p0.wD k:=by simpa using e
    have:¬p0.wD.Nodup:=by intro hn;rw[ix_nat _ i g0 hh,ix_nat _ k k0 qqo]at e;have:=(List.getElem_inj hn).1 e;omega
    unfold vMarks;rw[qaf this];simp
   ·have e:¬ix p0.wD i=ix p0.wD k:=by simpa using e
    rw[inc k i k0 hk qqo];refine⟨⟨by omega,by omega,?_⟩,by(dsimp only;omega)⟩;rw[ke p0.wD k k0 qqo];intro x hx;rcases qaz.1 hx with hx|hx
    ·exact k2 x hx
    ·have:x=ix p0.wD k:=by simpa using hx
     rw[this];exact fun e' =>e e'.symm
  ·have hk:=qc hk;have hki:k=i:=by omega
   subst hki
   have nxt:(0<=k+1/\k+1<=p0.wD.length/\(p0.wD.take (k+1).toNat).Nodup)/\(p0.wD.length-(k+1)).toNat<(p0.wD.length-k).toNat:=by
    refine⟨⟨by omega,by omega,?_⟩,by(first|omega|(dsimp only;omega))⟩;rw[ke p0.wD k g0 hh];refine qdq.2 ⟨g2,by simp,fun a ha b hb=> ?_⟩;have:b=ix p0.wD k:=by simpa using hb
    rw[this];exact k2 a ha
   have hi:=inc k p0.wD.length g0 hh qqo;rw[hi];exact nxt
 ·have hh:=qc hh;rw[qi qqo]at g2;have vm:vMarks p0.wD=true:=by unfold vMarks;rw[h3,qae g2,qae qqo];rfl
  refine⟨fun i=>0<=i/\i<=p0.wB.length/\∀x∈p0.wB.take i.toNat,vOut x=true,fun i=>(p0.wB.length-i).toNat,⟨by omega,by omega,by simp⟩,?_⟩;rintro i ⟨g0,g1,g2⟩;refine⟨fun hh=> ?_,fun hh J1 k1=> ?_⟩
  ·have hh:=qb hh;have hx:=hr.o _ (ix_mem p0.wB i g0 hh);have hlc:=hl.c _ (ix_mem p0.wB i g0 hh);have bd:vOut (ix p0.wB i)=false->1=validE p0:=by intro hb;refine badO ?_;unfold vOuts;have:p0.wB.all vOut=false:=qci.2 ⟨_,ix_mem p0.wB i g0 hh,by simp[hb]⟩;rw[this];simp
   unfold vOut at bd;refine⟨g0,hh,fun e=>bd ?_,fun e=>⟨⟨hx.p0.1,hx.p1.1⟩,fun e2=>bd ?_,fun e2=>⟨fun e3=>bd ?_,fun e3=>⟨by omega,fun e4=>bd ?_,fun e4=> ?_⟩⟩⟩⟩
   ·have e:=qb e;rw[qaf qqo];rfl
   ·have e2:vPoint (ix p0.wB i).wP (ix p0.wB i).wO=false:=by simpa using e2
    simp[e2]
   ·have e3:¬((ix p0.wB i).wF.length:Int)=3:=by simpa using e3
    have e3:¬(ix p0.wB i).wF.length=3:=by omega
    simp[e3]
   ·have e4:(ix p0.wB i).wF.all (fun x=>decide (x<18446744069414584321))=false:=by
     cases hq:(ix p0.wB i).wF.all (fun x=>decide (x<18446744069414584321))
     ·rfl
     ·rw[hq]at e4;simp at e4
    rw[e4];simp
   ·have e:=qc e;have e2:vPoint (ix p0.wB i).wP (ix p0.wB i).wO=true:=by simpa using e2
    have e3:((ix p0.wB i).wF.length:Int)=3:=by simpa using e3
    have e4:(ix p0.wB i).wF.all (fun x=>decide (x<18446744069414584321))=true:=by
     cases hq:(ix p0.wB i).wF.all (fun x=>decide (x<18446744069414584321))
     ·rw[hq]at e4;simp at e4
     ·rfl
    have hv:vOut (ix p0.wB i)=true:=(k78 _).2 ⟨by omega,e2,by omega,by simpa using e4⟩;rw[inc i p0.wB.length g0 hh qqo];refine⟨⟨by omega,by omega,?_⟩,by(dsimp only;omega)⟩;rw[ke p0.wB i g0 hh];intro x hx;rcases qaz.1 hx with hx|hx
    ·exact g2 x hx
    ·have:x=ix p0.wB i:=by simpa using hx
     rw[this];exact hv
  ·have hh:=qc hh;rw[qi qqo]at g2
   have vo:vOuts p0.wB=true:=by
    unfold vOuts;have:p0.wB.all vOut=true:=by simpa using g2
    rw[this,qae qqo];rfl
   have j1:vOuts p0.wB=true->p0.wH<=4294967295->p0.wG<=4294967295->p0.Fee<=4294967295->(0<p0.wH->p0.wG=0)->J1:=by
    intro vo d1 d2 d3 d4;have hd:=hr.d;have hw:=hr.w;have fA:¬(p0.wH<=4294967295/\p0.wG<=4294967295/\p0.Fee<=4294967295/\p0.wI<18446744069414584321/\p0.wM<18446744069414584321/\(0<p0.wH->p0.wG=0)/\(¬0<p0.wH->p0.wD≠[]/\p0.wM=0/\(0<p0.wG∨p0.wI=0)))->1=validE p0:=fun h=>badA (Bool.eq_false_iff.2 fun h' =>h ((k15 p0).1 h'));refine k1 fun J2 k2=> ?_
    have j2:vOuts p0.wB=true->vAmounts p0=true->J2:=by
     intro vo va;refine k2 ⟨fun e=>badR ?_,fun e=>⟨fun e2=>badR ?_,fun e2=> ?_⟩⟩
     ·have e:=qb e;unfold vRest;rw[qaf (p:=0<=p0.wJ) qqo];simp
     ·have e2:=qb e2;unfold vRest;rw[qaf (p:=p0.wJ<=1048576) qqo];simp
     ·have e:=qc e;have e2:=qc e2;have vr:vRest p0=true:=by unfold vRest;rw[qae a1,qae (p:=0<=p0.wJ) qqo,qae (p:=p0.wJ<=1048576) qqo];rfl
      unfold validE;rw[vm,vo,va,vr];refine⟨fun e=> ?_,fun e=> ?_⟩
      ·have e:=qb e;simp;omega
      ·have e:=qc e;simp;omega
    refine⟨fun e=>⟨fun e2=>fA ?_,fun e2=>⟨fun e3=>fA ?_,fun e3=>⟨fun e4=>⟨fun e5=>fA ?_,fun e5=>j2 vo ((k15 p0).2 ?_)⟩,fun e4=>j2 vo ((k15 p0).2 ?_)⟩⟩⟩,fun e=>j2 vo ((k15 p0).2 ?_)⟩
    all_goals simp only[beq_iff_eq,bne_iff_ne,beq_eq_false_iff_ne,bne_eq_false_iff_eq,Int.natCast_eq_zero,qdw]at *
    ·exact fun h=>by have:=h.2.2.2.2.2.2 qqo;omega
    ·exact fun h=>(h.2.2.2.2.2.2 qqo).1 e3
    ·exact fun h=>by have:=(h.2.2.2.2.2.2 qqo).2.2;omega
    ·exact⟨d1,d2,d3,a2,a3,d4,fun _=>⟨fun hq=>e3 (by rw[hq];rfl),e2,.inr e5⟩⟩
    ·exact⟨d1,d2,d3,a2,a3,d4,fun _=>⟨fun hq=>e3 (by rw[hq];rfl),e2,.inl qqo⟩⟩
    ·exact⟨d1,d2,d3,a2,a3,d4,fun h=>by omega⟩
   have hd:=hr.d;have hw:=hr.w;have fA:¬(p0.wH<=4294967295/\p0.wG<=4294967295/\p0.Fee<=4294967295/\(0<p0.wH->p0.wG=0))->1=validE p0:=fun h=>badA (Bool.eq_false_iff.2 fun h' =>h (by have:=(k15 p0).1 h';exact⟨this.1,this.2.1,this.2.2.1,this.2.2.2.2.2.1⟩));refine⟨fun e=>fA ?_,fun e=>⟨fun e2=>fA ?_,fun e2=>⟨fun e3=>fA ?_,fun e3=>⟨fun e4=>⟨fun e5=>fA ?_,fun e5=>j1 vo ?_ ?_ ?_ ?_⟩,fun e4=>j1 vo ?_ ?_ ?_ ?_⟩⟩⟩⟩
   all_goals simp only[qaw,decide_eq_false_iff_not]at *
   all_goals omega
noncomputable def kju:Ct:= .gp 17 [.st 2] [yqu] [] fun(p0:wC)=>(TR p0/\TL p0,(idS p0:Int),())
theorem k2r:kju.O:=qrv Bs Tryz.func17 .no (k33.c (k4e.c (k9y.c c0))) (Q:=∀(p0:wC),(TR p0/\TL p0)->∀r0:Int,idS p0=r0-> 
(TR p0/\TL p0)/\(((validE p0) !=0)=true->
0=r0)/\
(((validE p0) !=0)=false->
(TR p0/\TL p0/\p0.wB.length<=1048576/\(∀x∈p0.wB,x.wF.length<=1024))/\(U64 (14:Int)/\By (encT p0 p0.wK)/\(encT p0 p0.wK).length<=1099511627775)/\(hashB (14:Int) (encT p0 p0.wK))=r0))<|by
 rintro p0 h _ rfl;obtain⟨hr,hl⟩:=h;refine⟨⟨hr,hl⟩,fun e=> ?_,fun e=> ?_⟩
 ·have e:¬validE p0=0:=by simpa using e
  unfold idS;rw[qm e]
 ·have e:validE p0=0:=by simpa using e
  have v:=(k3j p0).1 e;unfold idS;rw[ql e];have hv:VR p0:=⟨e,hr⟩;have hw:=k2i hv;unfold weightS at hw;rw[ql e]at hw;exact⟨⟨hr,hl,hv.dcap.1,hv.dcap.2⟩,⟨by decide,encT_by hr.p,by omega⟩,rfl⟩
noncomputable def k9v:Ct:= .gp 41 [.st 2,.st 2] [.bool] [] fun(p0 p1:wC)=>((TR p0/\TL p0)/\TR p1/\TL p1,(confT p0 p1:Bool),())
theorem kb8:k9v.O:=qrv Bs Tryz.func41 (.r 1 (.nd [] (.r 0 (.lp [] ⟨[],[],[5],[.one (zqi)],[]⟩ (.r 0 (.nd [] (.r 0 (.lp [] ⟨[],[],[6],[.one (zqi)],[]⟩ .no)) [] .no)))) [] .no)) (k2r.c c0) (Q:=∀(p0 p1:wC),((TR p0/\TL p0)/\TR p1/\TL p1)->∀r0:Bool,confT p0 p1=r0-> 
(TR p0/\TL p0)/\(TR p1/\TL p1)/\(((idS p0)==(idS p1))=true->
false=r0)/\
(((idS p0)==(idS p1))=false->
∃(I1:Int->Prop) (M1:Int->Nat),I1 0/\∀b1,(I1 b1->
(decide (b1<(p0.wD.length:Int))=true->
∃(I2:Int->Prop) (M2:Int->Nat),I2 0/\∀f1,(I2 f1->
(decide (f1<(p1.wD.length:Int))=true->
(0<=b1)/\b1<(p0.wD.length:Int)/\(0<=f1)/\f1<(p1.wD.length:Int)/\(((ix p0.wD b1)==(ix p1.wD f1))=true->
true=r0)/\
(((ix p0.wD b1)==(ix p1.wD f1))=false->
I2 (i64.wrap (f1+1))/\M2 (i64.wrap (f1+1))<M2 f1))/\
(decide (f1<(p1.wD.length:Int))=false->
I1 (i64.wrap (b1+1))/\M1 (i64.wrap (b1+1))<M1 b1)))/\
(decide (b1<(p0.wD.length:Int))=false->
(decide (0<p0.wH)=true->
(decide (0<p1.wH)=true->
((p0.wI==p1.wI)=true->
(p0.wM==p1.wM)=r0)/\
((p0.wI==p1.wI)=false->
false=r0))/\
(decide (0<p1.wH)=false->
false=r0))/\
(decide (0<p0.wH)=false->
false=r0)))))<|by
 rintro p0 p1 h _ rfl;obtain⟨h0,h1⟩:=h;have l0:=h0.2.m;have l1:=h1.2.m;unfold confT;refine⟨h0,h1,fun e=> ?_,fun e=> ?_⟩
 ·have e:idS p0=idS p1:=by simpa using e
  rw[ql e]
 ·have e:¬idS p0=idS p1:=by simpa using e
  rw[qm e];refine⟨(fun i=>∃k:Nat,i=(k:Int)/\k<=p0.wD.length/\(p0.wD.take k).any (fun m=>decide (m∈p1.wD))=false),fun i=>(p0.wD.length-i).toNat,⟨0,rfl,by omega,by simp⟩,?_⟩;rintro _ ⟨k,rfl,g1,g2⟩;refine⟨fun c=> ?_,fun c=> ?_⟩
  ·have c:k<p0.wD.length:=by have:=qb c;omega
   rw[ix_get _ _ c,inc_i64 _ qqo];refine⟨(fun i=>∃j:Nat,i=(j:Int)/\j<=p1.wD.length/\p0.wD[k]∉p1.wD.take j),fun i=>(p1.wD.length-i).toNat,⟨0,rfl,by omega,by simp⟩,?_⟩;rintro _ ⟨j,rfl,j1,j2⟩;refine⟨fun d=> ?_,fun d=> ?_⟩
   ·have d:j<p1.wD.length:=by have:=qb d;omega
    rw[ix_get _ _ d,inc_i64 _ qqo];refine⟨by omega,by omega,by omega,by omega,fun q=> ?_,fun q=>⟨⟨j+1,rfl,by omega,?_⟩,by(dsimp only;omega)⟩⟩
    ·have q:p0.wD[k]=p1.wD[j]:=by simpa using q
     rw[List.any_eq_true.2 ⟨p0.wD[k],qab c,by rw[q];exact qae (qab d)⟩];rfl
    ·have q:¬p0.wD[k]=p1.wD[j]:=by simpa using q
     rw[qu d];simp only[qaz,qbn];exact fun hh=>hh.elim j2 q
   ·have d:j=p1.wD.length:=by have:=qc d;omega
    rw[qi qqo]at j2;refine⟨⟨k+1,rfl,by omega,?_⟩,by(dsimp only;omega)⟩;rw[qu c,List.any_append,g2,List.any_cons,qaf j2];rfl
  ·have c:k=p0.wD.length:=by have:=qc c;omega
   rw[qi qqo]at g2;rw[g2];by_cases q1:0<p0.wH<;>by_cases q2:0<p1.wH<;>by_cases q3:p0.wI=p1.wI<;>by_cases q4:p0.wM=p1.wM<;>simp[q1,q2,q3,q4]
noncomputable def k8y:Ct:= .gp 23 [.st 7,.st 2] [.sl yqu] [] fun(p0:wV) (p1:wC)=>((VL p0.L/\p0.L.length<=100000)/\TR p1/\TL p1,((if validE p1=0 then cfl p0.L p1 else []):Li),())
theorem k9w:k8y.O:=qrv Bs Tryz.func23 (.r 1 (.nd [] (.r 0 (.lp [.tok 5 yqu] ⟨[2],[.tip yqu],[5,6],[.one (.own 0),.one (zqi)],[]⟩ .no)) [] .no)) (k33.c (kb8.c (k2r.c c0))) (Q:=∀(p0:wV) (p1:wC),((VL p0.L/\p0.L.length<=100000)/\TR p1/\TL p1)->∀r0:Li,((if validE p1=0 then cfl p0.L p1 else []):Li)=r0-> 
(([]:Li)=([]:Li))/\∃(I1:Int->(Li)->Prop) (M1:Int->(Li)->Nat),I1 0 ([]:Li)/\∀b1 f1,(I1 b1 f1->
(decide (b1<(p0.L.length:Int))=true->
(TR p1/\TL p1)/\(((validE p1)==0)=true->
(0<=b1)/\b1<(p0.L.length:Int)/\((TR p1/\TL p1)/\TR (ix p0.L b1)/\TL (ix p0.L b1))/\((confT p1 (ix p0.L b1))=true->
(0<=b1)/\b1<(p0.L.length:Int)/\(TR (ix p0.L b1)/\TL (ix p0.L b1))/\lz f1/\(f1.length+[(idS (ix p0.L b1))].length)*8<=140737488355328/\f1.length+[(idS (ix p0.L b1))].length<=maxLen/\(f1++[(idS (ix p0.L b1))]=f1++[(idS (ix p0.L b1))])/\I1 (i64.wrap (b1+1)) (f1++[(idS (ix p0.L b1))])/\M1 (i64.wrap (b1+1)) (f1++[(idS (ix p0.L b1))])<M1 b1 f1)/\
((confT p1 (ix p0.L b1))=false->
(f1=f1)/\I1 (i64.wrap (b1+1)) f1/\M1 (i64.wrap (b1+1)) f1<M1 b1 f1))/\
(((validE p1)==0)=false->
f1=r0))/\
(decide (b1<(p0.L.length:Int))=false->
f1=r0)))<|by
 rintro p0 p1 h _ rfl;obtain⟨⟨hL,hn⟩,ht⟩:=h;refine⟨rfl,?_⟩;refine⟨(fun i f=>∃k:Nat,i=(k:Int)/\k<=p0.L.length/\(0<k->validE p1=0)/\f=cfl (p0.L.take k) p1),fun i _=>(p0.L.length-i).toNat,⟨0,rfl,by omega,by omega,rfl⟩,?_⟩;rintro _ _ ⟨k,rfl,g1,g2,rfl⟩;have hcl:=cfl_len (p0.L.take k) p1;rw[qn]at hcl;refine⟨fun e=>⟨ht,fun q=> ?_,fun q=> ?_⟩,fun e=> ?_⟩
 ·have e:k<p0.L.length:=by have:=qb e;omega
  have q:validE p1=0:=by simpa using q
  have hv:=hL _ (qab e);have hct:=kab (t:=p1) e;rw[ix_get _ _ e,inc_i64 _ qqo];refine⟨by omega,by omega,⟨ht,hv.r,hv.tl⟩,fun c=> ?_,fun c=> ?_⟩
  ·rw[ql c]at hct;refine⟨by omega,by omega,⟨hv.r,hv.tl⟩,rfl,?_,?_,rfl,⟨k+1,rfl,by omega,fun _=>q,hct.symm⟩,by(dsimp only;omega)⟩<;>simp only[qah]<;>(try unfold maxLen)<;>omega
  ·rw[qm (by rw[c];decide)]at hct;exact⟨rfl,⟨k+1,rfl,by omega,fun _=>q,hct.symm⟩,by(dsimp only;omega)⟩
 ·have q:¬validE p1=0:=by simpa using q
  rw[qm q,show k=0 by have:=fun z=>q (g2 z);omega];rfl
 ·have e:k=p0.L.length:=by have:=qc e;omega
  rw[qi qqo];by_cases q:validE p1=0
  ·rw[ql q]
  ·rw[qm q,show p0.L=[]by have:=fun z=>q (g2 z);exact qdw.1 qqo];rfl
noncomputable def kh2:Ct:= .gp 22 [.sl (.st 2),yqu] [yqi] [] fun(p0:List wC) (p1:Int)=>(VL p0/\p0.length<=100000,(fndL p0 p1:Int),())
theorem k9g:kh2.O:=qrv Bs Tryz.func22 (.r 0 (.nd [] (.r 0 (.lp [] ⟨[],[],[5],[.one (zqi)],[]⟩ .no)) [] .no)) (k2r.c c0) (Q:=∀(p0:List wC) (p1:Int),(VL p0/\p0.length<=100000)->∀r0:Int,fndL p0 p1=r0-> 
∃(I1:Int->Prop) (M1:Int->Nat),I1 0/\∀b1,(I1 b1->
(decide (b1<(p0.length:Int))=true->
(0<=b1)/\b1<(p0.length:Int)/\(TR (ix p0 b1)/\TL (ix p0 b1))/\(((idS (ix p0 b1))==p1)=true->
b1=r0)/\
(((idS (ix p0 b1))==p1)=false->
I1 (i64.wrap (b1+1))/\M1 (i64.wrap (b1+1))<M1 b1))/\
(decide (b1<(p0.length:Int))=false->
(-1)=r0)))<|by
 rintro p0 p1 h _ rfl;obtain⟨hL,hn⟩:=h;refine⟨(fun i=>∃k:Nat,i=(k:Int)/\k<=p0.length/\p1∉(p0.map idS).take k),fun i=>(p0.length-i).toNat,⟨0,rfl,by omega,by simp⟩,?_⟩;rintro _ ⟨k,rfl,h1,h2⟩;have hl:(p0.map idS).length=p0.length:=qf ..;refine⟨fun e=> ?_,fun e=> ?_⟩
 ·have e:k<p0.length:=by have:=qb e;omega
  have hv:=hL _ (qab e);rw[ix_get _ _ e,inc_i64 _ qqo];refine⟨by omega,by omega,⟨hv.r,hv.tl⟩,fun e2=> ?_,fun e2=>⟨⟨k+1,rfl,by omega,?_⟩,by(dsimp only;omega)⟩⟩
  ·have e2:idS p0[k]=p1:=by simpa using e2
   exact(idx_at qqo h2 (by simpa using e2)).symm
  ·have e2:¬idS p0[k]=p1:=by simpa using e2
   rw[qu qqo];simp only[qaz,qbn,List.getElem_map];exact fun hh=>hh.elim h2 fun q=>e2 q.symm
 ·have e:k=p0.length:=by have:=qc e;omega
  rw[qi qqo]at h2;exact(idx_no h2).symm
noncomputable def kcc:Ct:= .gp 24 [.st 2] [yqi] [] fun(p0:wC)=>(VR p0,(weightS p0:Int),())
theorem k3y:kcc.O:=qrv Bs Tryz.func24 .no (k4e.c c0) (Q:=∀(p0:wC),(VR p0)->∀r0:Int,weightS p0=r0-> 
(TR p0/\TL p0/\p0.wB.length<=1048576/\(∀x∈p0.wB,x.wF.length<=1024))/\((encT p0 p0.wK).length:Int)=r0)<|by rintro p0 h _ rfl;unfold weightS;rw[ql h.v];exact⟨⟨h.r,h.tl,h.dcap.1,h.dcap.2⟩,rfl⟩
noncomputable def kc6:Ct:= .gp 26 [.sl (.st 2)] [yqi] [] fun(p0:List wC)=>(VL p0/\p0.length<=100000,(wL p0:Int),())
theorem k7n:kc6.O:=qrv Bs Tryz.func26 (.r 1 (.nd [] (.r 0 (.lp [] ⟨[],[],[3,4],[.one (zqi),.one (zqi)],[]⟩ .no)) [] .no)) (k3y.c c0) (Q:=∀(p0:List wC),(VL p0/\p0.length<=100000)->∀r0:Int,wL p0=r0-> 
∃(I1:Int->Int->Prop) (M1:Int->Int->Nat),I1 0 0/\∀b1 f1,(I1 b1 f1->
(decide (f1<(p0.length:Int))=true->
(0<=f1)/\f1<(p0.length:Int)/\(VR (ix p0 f1))/\let v1:Int:=i64.wrap (b1+(weightS (ix p0 f1)))
I1 v1 (i64.wrap (f1+1))/\M1 v1 (i64.wrap (f1+1))<M1 b1 f1)/\
(decide (f1<(p0.length:Int))=false->
b1=r0)))<|by
 rintro p0 h _ rfl;obtain⟨hL,hn⟩:=h;refine⟨(fun b i=>∃k:Nat,i=(k:Int)/\k<=p0.length/\b=wL (p0.take k)),fun _ i=>(p0.length-i).toNat,⟨0,rfl,by omega,rfl⟩,?_⟩;rintro _ _ ⟨k,rfl,g1,rfl⟩;refine⟨fun e=> ?_,fun e=> ?_⟩
 ·have e:k<p0.length:=by have:=qb e;omega
  have hb:=wL_tb hL hn (k+1);rw[wL_take e]at hb;rw[ix_get _ _ e,inc_i64 _ qqo];refine⟨by omega,by omega,hL _ (qab e),⟨k+1,rfl,by omega,?_⟩,by(dsimp only;omega)⟩;rw[wL_take e,wi _ qqo qqo]
 ·have e:k=p0.length:=by have:=qc e;omega
  rw[qi qqo]
noncomputable def kc1:Ct:= .gp 42 [.st 2,.st 2] [.bool] [] fun(p0 p1:wC)=>((TR p0/\TL p0)/\TR p1/\TL p1,(betB p0 p1:Bool),())
theorem ke9:kc1.O:=qrv Bs Tryz.func42 .no (k33.c (k3y.c (k2r.c c0))) (Q:=∀(p0 p1:wC),((TR p0/\TL p0)/\TR p1/\TL p1)->∀r0:Bool,betB p0 p1=r0-> 
(TR p0/\TL p0)/\(((validE p0) !=0)=true->
false=r0)/\
(((validE p0) !=0)=false->
(TR p1/\TL p1)/\(((validE p1) !=0)=true->
false=r0)/\
(((validE p1) !=0)=false->
(VR p1)/\let v1:Int:=u64.wrap (p0.Fee*(u64.wrap (weightS p1)))
(VR p0)/\let v2:Int:=u64.wrap (p1.Fee*(u64.wrap (weightS p0)))
(decide (v2<v1)=true->
true=r0)/\
(decide (v2<v1)=false->
((v1==v2)=true->
(TR p0/\TL p0)/\(TR p1/\TL p1)/\decide ((idS p0)<(idS p1))=r0)/\
((v1==v2)=false->
false=r0)))))<|by
 rintro p0 p1 h _ rfl;obtain⟨h0,h1⟩:=h;unfold betB;refine⟨h0,fun e=> ?_,fun e=>⟨h1,fun e2=> ?_,fun e2=> ?_⟩⟩
 ·have e:¬validE p0=0:=by simpa using e
  rw[qaf e];rfl
 ·have e2:¬validE p1=0:=by simpa using e2
  rw[qaf e2];simp
 ·have e:validE p0=0:=by simpa using e
  have e2:validE p1=0:=by simpa using e2
  have v0:VR p0:=⟨e,h0.1⟩;have v1:VR p1:=⟨e2,h1.1⟩;have w0:=k2i v0;have w1:=k2i v1;have g0:=ge_of v0;have g1:=ge_of v1;have f0:0<=p0.Fee:=g0.f0;have f1:p0.Fee<=4294967295:=g0.f1;have f2:0<=p1.Fee:=g1.f0;have f3:p1.Fee<=4294967295:=g1.f1;have m1:0<=p0.Fee*weightS p1/\p0.Fee*weightS p1<=4294967295*4294967295:=⟨qbj qqo qqo,qbw f1 w1.2 qqo qqo⟩;have m2:0<=p1.Fee*weightS p0/\p1.Fee*weightS p0<=4294967295*4294967295:=⟨qbj qqo qqo,qbw f3 w0.2 qqo qqo⟩;rw[qae e,qae e2,Bool.true_and,Bool.true_and];refine⟨v1,v0,?_⟩;dsimp only;rw[wu (weightS p1) qqo qqo,wu (weightS p0) qqo qqo,wu _ m1.1 qqo,wu _ m2.1 qqo];have hb:betT p0 p1=decide (p1.Fee*weightS p0<p0.Fee*weightS p1∨(p1.Fee*weightS p0=p0.Fee*weightS p1/\idS p0<idS p1)):=rfl;rw[hb];refine⟨fun q=> ?_,fun q=>⟨fun q2=>⟨h0,h1,?_⟩,fun q2=> ?_⟩⟩
  ·rw[qae (.inl (qb q))]
  ·have q2:p0.Fee*weightS p1=p1.Fee*weightS p0:=by simpa using q2
   refine decide_eq_decide.2 ⟨fun r=> .inr ⟨q2.symm,r⟩,fun r=> ?_⟩;have:=qc q;omega
  ·have q2:¬p0.Fee*weightS p1=p1.Fee*weightS p0:=by simpa using q2
   have:=qc q;rw[qaf];omega
noncomputable def kj3:Ct:= .gp 25 [.sl (.st 2),.st 2] [.sl (.st 2)] [] fun(p0:List wC) (p1:wC)=>((VL p0/\p0.length<=100000)/\VR p1,(putL p0 p1:List wC),())
theorem kjo:kj3.O:=qrx Bs [20,24,26,27,31] Tryz.func25 (.r 1 (.jn ⟨[],[],[5],[.one (zqi)],[]⟩ [] (.lp [] ⟨[],[],[5],[.one (zqi)],[]⟩ .no) [] (.r 0 (.rt [.frz 177 [4]])))) x0 (ke9.c c0) (Q:=∀(p0:List wC) (p1:wC),((VL p0/\p0.length<=100000)/\VR p1)->∀r0:List wC,putL p0 p1=r0-> 
∀J1:Int->Prop,(∀(b1:Int),
((0<=b1)/\b1<=(p0.length:Int)/\lz ([]:List wC)/\(([]:List wC).length+(p0.take b1.toNat).length)*128<=140737488355328/\([]:List wC).length+(p0.take b1.toNat).length<=maxLen/\lz (([]:List wC)++(p0.take b1.toNat))/\lz [p1]/\((([]:List wC)++(p0.take b1.toNat)).length+[p1].length)*128<=140737488355328/\(([]:List wC)++(p0.take b1.toNat)).length+[p1].length<=maxLen/\let v1:List wC:=(([]:List wC)++(p0.take b1.toNat))++[p1]
(0<=b1)/\b1<=(p0.length:Int)/\lz v1/\(v1.length+(p0.drop b1.toNat).length)*128<=140737488355328/\v1.length+(p0.drop b1.toNat).length<=maxLen/\lz (v1++(p0.drop b1.toNat))/\v1++(p0.drop b1.toNat)=r0)->J1 b1)->
∃(I1:Int->Prop) (M1:Int->Nat),I1 0/\∀f1,(I1 f1->
(decide (f1<(p0.length:Int))=true->
(0<=f1)/\f1<(p0.length:Int)/\((TR (ix p0 f1)/\TL (ix p0 f1))/\TR p1/\TL p1)/\((betB (ix p0 f1) p1)=true->
I1 (i64.wrap (f1+1))/\M1 (i64.wrap (f1+1))<M1 f1)/\
((betB (ix p0 f1) p1)=false->
J1 f1))/\
(decide (f1<(p0.length:Int))=false->
J1 f1)))<|by
 rintro p0 p1 h _ rfl;obtain⟨⟨hL,hn⟩,ht⟩:=h;intro J1 kJ1;have bb:∀{x:wC},x∈p0->betB x p1=betT x p1:=fun hx=>by unfold betB;rw[qae (hL _ hx).v,qae ht.v];simp
 have fin:∀k:Nat,k<=p0.length->p0.take k=p0.takeWhile (betT · p1)->p0.drop k=p0.dropWhile (betT · p1)->J1 (k:Int):=by
  intro k hk e1 e2;refine kJ1 _ ?_;simp only[qac,qcf];have l1:(p0.take k).length=k:=by rw[qn];omega
  have l2:(p0.drop k).length=p0.length-k:=qaj ..;refine⟨by omega,by omega,trivial,?_,?_,trivial,trivial,?_,?_,by omega,by omega,trivial,?_,?_,trivial,?_⟩<;>try simp only[qj,qbh,qah,l1,l2]
  ·omega
  ·unfold maxLen;omega
  ·omega
  ·unfold maxLen;omega
  ·omega
  ·unfold maxLen;omega
  ·rw[e1,e2,qas];rfl
 refine⟨(fun i=>∃k:Nat,i=(k:Int)/\k<=p0.length/\p0.takeWhile (betT · p1)=p0.take k++(p0.drop k).takeWhile (betT · p1)/\p0.dropWhile (betT · p1)=(p0.drop k).dropWhile (betT · p1)),fun i=>(p0.length-i).toNat,⟨0,rfl,by omega,rfl,rfl⟩,?_⟩;rintro _ ⟨k,rfl,g1,g2,g3⟩;refine⟨fun e=> ?_,fun e=> ?_⟩
 ·have e:k<p0.length:=by have:=qb e;omega
  have hv:=hL _ (qab e);rw[ix_get _ _ e,inc_i64 _ qqo,bb (qab e)];have hd:p0.drop k=p0[k]::p0.drop (k+1):=qbr e;refine⟨by omega,by omega,⟨⟨hv.r,hv.tl⟩,ht.r,ht.tl⟩,fun q=>⟨⟨k+1,rfl,by omega,?_,?_⟩,by(dsimp only;omega)⟩,fun q=>fin k g1 ?_ ?_⟩
  ·rw[g2,hd,qev,ql q,qu e,qas];rfl
  ·rw[g3,hd,List.dropWhile_cons,ql q]
  ·rw[g2,hd,qev,qm (by rw[q];decide),qck]
  ·rw[g3,hd,List.dropWhile_cons,qm (by rw[q];decide)]
 ·have e:k=p0.length:=by have:=qc e;omega
  subst e;refine fin _ (qr _) ?_ ?_
  ·rw[g2,qfa];simp
  ·rw[g3,qfa];rfl
noncomputable def k9p:Ct:= .bp 8 [.st 7,.st 2] [.st 7,.sl yqu,yqi] fun(p0:wV) (p1:wC)=>((PL p0.L/\p0.L.length<=1000/\0<=p0.wE)/\TR p1/\TL p1,addL p0.wE p0.L p1,fun R=>(((wV.mk p0.wE (addL p0.wE p0.L p1).l):wV),R.g,R.e,()))
theorem kb4:k9p.O:=qbv Bs Tryz.func8 (.r 7 (.nd [] (.lp [.tok 10 yqu] ⟨[83],[.tip yqu],[9,10],[.one (.d (.sl (.st 2))),.one (.own 0)],[]⟩ .no) [] .no)) (k33.c (k2r.c (k9g.c (k9w.c (k3y.c (kjo.c (k7n.c c0))))))) (Q:=∀(p0:wV) (p1:wC),((PL p0.L/\p0.L.length<=1000/\0<=p0.wE)/\TR p1/\TL p1)->∀R,addL p0.wE p0.L p1=R-> 
(TR p1/\TL p1)/\(((validE p1) !=0)=true->
p0.wE=p0.wE/\p0.L=(addL p0.wE p0.L p1).l/\([]:Li)=R.g/\(validE p1)=R.e)/\
(((validE p1) !=0)=false->
(TR p1/\TL p1)/\(VL p0.L/\p0.L.length<=100000)/\(decide (0<=(fndL p0.L (idS p1)))=true->
p0.wE=p0.wE/\p0.L=(addL p0.wE p0.L p1).l/\([]:Li)=R.g/\5=R.e)/\
(decide (0<=(fndL p0.L (idS p1)))=false->
((VL p0.L/\p0.L.length<=100000)/\TR p1/\TL p1)/\let r3:Li:=(if validE p1=0 then cfl p0.L p1 else [])
(decide (0<(r3.length:Int))=true->
p0.wE=p0.wE/\p0.L=(addL p0.wE p0.L p1).l/\([]:Li)=R.g/\12=R.e)/\
(decide (0<(r3.length:Int))=false->
(VR p1)/\(decide (p0.wE<(weightS p1))=true->
p0.wE=p0.wE/\p0.L=(addL p0.wE p0.L p1).l/\([]:Li)=R.g/\3=R.e)/\
(decide (p0.wE<(weightS p1))=false->
((VL p0.L/\p0.L.length<=100000)/\VR p1)/\(([]:Li)=([]:Li))/\∃(I1:(List wC)->(Li)->Prop) (M1:(List wC)->(Li)->Nat),I1 (putL p0.L p1) ([]:Li)/\∀b1 f1,(I1 b1 f1->
(VL b1/\b1.length<=100000)/\(decide (p0.wE<(wL b1))=true->
(0<=i64.wrap ((b1.length:Int)-1))/\i64.wrap ((b1.length:Int)-1)<(b1.length:Int)/\(TR (ix b1 (i64.wrap ((b1.length:Int)-1)))/\TL (ix b1 (i64.wrap ((b1.length:Int)-1))))/\let r4:Int:=(idS (ix b1 (i64.wrap ((b1.length:Int)-1))))
((r4==(idS p1))=true->
p0.wE=p0.wE/\p0.L=(addL p0.wE p0.L p1).l/\([]:Li)=R.g/\16=R.e)/\
((r4==(idS p1))=false->
lz f1/\(f1.length+[r4].length)*8<=140737488355328/\f1.length+[r4].length<=maxLen/\(0<=i64.wrap ((b1.length:Int)-1))/\i64.wrap ((b1.length:Int)-1)<=(b1.length:Int)/\let v5:List wC:=b1.take (i64.wrap ((b1.length:Int)-1)).toNat
(f1++[r4]=f1++[r4])/\I1 v5 (f1++[r4])/\M1 v5 (f1++[r4])<M1 b1 f1))/\
(decide (p0.wE<(wL b1))=false->
p0.wE=p0.wE/\b1=(addL p0.wE p0.L p1).l/\f1=R.g/\0=R.e)))))))<|by
 rintro p0 p1 h R hR;obtain⟨⟨hP,hn,hc⟩,ht⟩:=h;have hA:=hR;rw[hR];clear hR;unfold addL at hA;refine⟨ht,fun e=> ?_,fun e=>⟨ht,⟨hP.v,by omega⟩,fun e2=> ?_,fun e2=>⟨⟨⟨hP.v,by omega⟩,ht⟩,?_⟩⟩⟩
 ·have e:¬validE p1=0:=by simpa using e
  rw[ql e]at hA;subst hA;exact⟨rfl,rfl,rfl,rfl⟩
 ·have e:validE p1=0:=by simpa using e
  have e2:=qb e2;rw[qm (by simp[e]),ql e2]at hA;subst hA;exact⟨rfl,rfl,rfl,rfl⟩
 ·have e:validE p1=0:=by simpa using e
  have e2:=qc e2;have hv:VR p1:=⟨e,ht.1⟩;rw[qm (by simp[e]),qm e2]at hA;rw[ql e];refine⟨fun e3=> ?_,fun e3=>⟨hv,fun e4=> ?_,fun e4=>⟨⟨⟨hP.v,by omega⟩,hv⟩,?_⟩⟩⟩
  ·have e3:cfl p0.L p1≠[]:=by have:=qb e3;intro q;rw[q]at this;simp at this
   rw[ql e3]at hA;subst hA;exact⟨rfl,rfl,rfl,rfl⟩
  ·have e3:¬cfl p0.L p1≠[]:=by have:=qc e3;intro q;have:=qcj.2 q;omega
   rw[qm e3,ql (qb e4)]at hA;subst hA;exact⟨rfl,rfl,rfl,rfl⟩
  ·have e3:¬cfl p0.L p1≠[]:=by have:=qc e3;intro q;have:=qcj.2 q;omega
   rw[qm e3,qm (qc e4)]at hA;have hpp:=hP.put hv (fun q=>e2 ((fnd_has _ _).2 q)) (Decidable.not_not.1 e3);have hpl:=put_len p0.L p1;generalize putL p0.L p1=M at *
   refine⟨rfl,?_⟩;refine⟨(fun b f=>∃k:Nat,k<=M.length/\b=M.take k/\f.length<=M.length-k/\evL p0.wE (idS p1) M M.length []=evL p0.wE (idS p1) M k f),fun b _=>b.length,⟨M.length,qr _,(qbu).symm,by simp,rfl⟩,?_⟩;rintro _ f ⟨k,g1,rfl,g2,g3⟩;have hl:(M.take k).length=k:=by rw[qn];omega
   rw[hl];refine⟨⟨hpp.v.take k,by omega⟩,fun q=> ?_,fun q=> ?_⟩
   ·have q:=qb q
    have hk:0<k:=by
     cases k with
     |zero=>simp[wL]at q;omega
     |succ k=>omega
    obtain⟨j,rfl⟩:∃j,k=j+1:=⟨k-1,by omega⟩;have hj:j<M.length:=by omega
    have hx:ix (M.take (j+1)) ((j:Nat):Int)=M[j]:=by rw[ix_get _ _ qqo];simp
    have hx2:ix M ((j:Nat):Int)=M[j]:=ix_get _ _ hj;have hvj:=hpp.v _ (qab hj);rw[evL,ql q,hx2]at g3;rw[show(((j+1:Nat):Int)-1)=(j:Int)by omega,wi (j:Int) qqo qqo,hx];refine⟨by omega,by omega,⟨hvj.r,hvj.tl⟩,fun r=> ?_,fun r=>⟨rfl,?_,?_,by omega,by omega,rfl,⟨j,by omega,?_,?_,?_⟩,?_⟩⟩
    ·have r:idS M[j]=idS p1:=by simpa using r
     rw[ql r]at g3;rw[g3]at hA;subst hA;exact⟨rfl,rfl,rfl,rfl⟩
    ·simp only[qah];omega
    ·simp only[qah];unfold maxLen;omega
    ·rw[qac,List.take_take,qca qqo]
    ·rw[qj,qah];omega
    ·have r:¬idS M[j]=idS p1:=by simpa using r
     rw[g3,qm r]
    ·show(List.take _ (List.take (j+1) M)).length<(M.take (j+1)).length;rw[qac,qn,hl];omega
   ·have q:=qc q
    have hE:evL p0.wE (idS p1) M k f=⟨true,f,k⟩:=by
     cases k with
     |zero=>rfl
     |succ k=>rw[evL,qm q]
    rw[g3,hE,ql rfl]at hA;subst hA;exact⟨rfl,rfl,rfl,rfl⟩
noncomputable def kcf:Ct:= .gp 18 [.st 7,yqu] [.st 7,.bool] [] fun(p0:wV) (p1:Int)=>(PL p0.L/\p0.L.length<=1000,(wV.mk p0.wE (remL p0.L p1).l:wV),((remL p0.L p1).b:Bool),())
theorem kew:kcf.O:=qrx Bs [16,21,27] Tryz.func18 (.r 3 (.rt [.frzc 210 1 1])) x0 (k9g.c c0) (Q:=∀(p0:wV) (p1:Int),(PL p0.L/\p0.L.length<=1000)->∀r0:wV,(wV.mk p0.wE (remL p0.L p1).l)=r0->∀r1:Bool,((remL p0.L p1).b)=r1-> 
(VL p0.L/\p0.L.length<=100000)/\(decide ((fndL p0.L p1)<0)=true->
p0.wE=r0.wE/\p0.L=r0.L/\false=r1)/\
(decide ((fndL p0.L p1)<0)=false->
(0<=(fndL p0.L p1))/\(fndL p0.L p1)<=(p0.L.length:Int)/\lz ([]:List wC)/\(([]:List wC).length+(p0.L.take (fndL p0.L p1).toNat).length)*128<=140737488355328/\([]:List wC).length+(p0.L.take (fndL p0.L p1).toNat).length<=maxLen/\let v2:List wC:=([]:List wC)++(p0.L.take (fndL p0.L p1).toNat)
(0<=i64.wrap ((fndL p0.L p1)+1))/\i64.wrap ((fndL p0.L p1)+1)<=(p0.L.length:Int)/\let v3:List wC:=p0.L.drop (i64.wrap ((fndL p0.L p1)+1)).toNat
lz v2/\(v2.length+v3.length)*128<=140737488355328/\v2.length+v3.length<=maxLen/\lz (v2++v3)/\p0.wE=r0.wE/\v2++v3=r0.L/\true=r1))<|by
 rintro p0 p1 h _ rfl _ rfl;obtain⟨hP,hn⟩:=h;have hb:=fnd_b p0.L p1;unfold remL;refine⟨⟨hP.v,by omega⟩,fun e=> ?_,fun e=> ?_⟩
 ·rw[ql (qb e)];exact⟨rfl,rfl,rfl⟩
 ·have e:=qc e;rw[qm e];generalize fndL p0.L p1=i at *
  rw[wi (i+1) qqo qqo,show(i+1).toNat=i.toNat+1 by omega];have l1:(p0.L.take i.toNat).length=i.toNat:=by rw[qn];omega
  have l2:(p0.L.drop (i.toNat+1)).length=p0.L.length-(i.toNat+1):=qaj ..;simp only[qcf];refine⟨by omega,by omega,trivial,?_,?_,by omega,by omega,trivial,?_,?_,trivial,(by first|exact rfl|exact qfd),(by first|exact rfl|exact qfd),(by first|exact rfl|exact qfd)⟩<;>simp only[qbh,l1,l2]
  ·omega
  ·unfold maxLen;omega
  ·omega
  ·unfold maxLen;omega
noncomputable def k9e:Ct:= .g ⟨6,[.one (zqi),.one (.d (.sl (.st 1)))],[],(.tup [.one (.ptr 0 0),.agg yJ,.one (.d (.bool))]),yE,false⟩ [yqi,.sl (.st 1)] [.st 7,.bool,yqi,.sl (.st 3)] [] fun(p0:Int) (p1:List wAA)=>(FA p1 [],(wV.mk (capS p0) (runL (capS p0) p1):wV),true,(capS p0:Int),(eL (runL (capS p0) p1):List wA),())
abbrev Fz1 (r:Type):=Bool->Int->Int->(List wC)->Int->(List wA)->r
theorem kjd:k9e.O:=prv Bs Tryz.func6 (.r 2 (.jn ⟨[3,1],yB,[9],[.one (.d (.bool))],[2]⟩ [] (.r 0 (.lp [] ⟨[3,1],yB,[9,28],[.one (.d (.bool)),.one (zqi)],[2]⟩ .no)) [] .no)) (k60.c (k2r.c (kew.c (kce.c (kb4.c (kgt.c (k9l.c (kik.c c0)))))))) (Q:=∀(p0:Int) (p1:List wAA),(FA p1 [])->∀r1:wV,(wV.mk (capS p0) (runL (capS p0) p1))=r1->∀r2:Bool,(true:Bool)=r2->∀Ac:Int,capS p0=Ac->∀e1:List wA,(eL (runL (capS p0) p1))=e1-> 
∀J1:Bool->Int->(List wC)->Int->(List wA)->Prop,(∀(b1:Bool) (f1:Int) (i1:List wC) (k1:Int) (l1:List wA),
(lz l1/\f1=r1.wE/\i1=r1.L/\b1=r2/\k1=Ac/\l1=e1)->J1 b1 f1 i1 k1 l1)->
lz ([]:List wA)/\∃(I1:Fz1 Prop) (M1:Fz1 Nat),I1 true 0 (if 0<p0 then p0 else 0) ([]:List wC) (if 0<p0 then p0 else 0) ([]:List wA)/\∀m1 n1 o1 q1 s1 t1,(I1 m1 n1 o1 q1 s1 t1->
(decide (n1<(p1.length:Int))=true->
(0<=n1)/\n1<(p1.length:Int)/\((!m1)=true->
lz t1/\J1 m1 o1 q1 s1 t1)/\
((!m1)=false->
((ix p1 n1).wAF=true->
(TR (wC.mk ((ix p1 n1).wo) ((ix p1 n1).wv) ((ix p1 n1).wz) ((ix p1 n1).wg) ((ix p1 n1).we) ((ix p1 n1).wAB) ((ix p1 n1).wh) ((ix p1 n1).wt) ((ix p1 n1).wl) ((ix p1 n1).ww))/\TL (wC.mk ((ix p1 n1).wo) ((ix p1 n1).wv) ((ix p1 n1).wz) ((ix p1 n1).wg) ((ix p1 n1).we) ((ix p1 n1).wAB) ((ix p1 n1).wh) ((ix p1 n1).wt) ((ix p1 n1).wl) ((ix p1 n1).ww)))/\let r3:Int:=(idS (wC.mk ((ix p1 n1).wo) ((ix p1 n1).wv) ((ix p1 n1).wz) ((ix p1 n1).wg) ((ix p1 n1).we) ((ix p1 n1).wAB) ((ix p1 n1).wh) ((ix p1 n1).wt) ((ix p1 n1).wl) ((ix p1 n1).ww)))
(PL (wV.mk o1 q1).L/\(wV.mk o1 q1).L.length<=1000)/\lz t1/\(PW t1)/\let v4:Bool:=(((remL (tL t1) r3).b)==((remL (wV.mk o1 q1).L r3).b))
lz (eL (remL (tL t1) r3).l)/\I1 v4 (i64.wrap (n1+1)) ((wV.mk o1 q1).wE) ((remL (wV.mk o1 q1).L r3).l) s1 (eL (remL (tL t1) r3).l)/\M1 v4 (i64.wrap (n1+1)) ((wV.mk o1 q1).wE) ((remL (wV.mk o1 q1).L r3).l) s1 (eL (remL (tL t1) r3).l)<M1 m1 n1 o1 q1 s1 t1)/\
((ix p1 n1).wAF=false->
((PL (wV.mk o1 q1).L/\(wV.mk o1 q1).L.length<=1000/\0<=(wV.mk o1 q1).wE)/\TR (wC.mk ((ix p1 n1).wo) ((ix p1 n1).wv) ((ix p1 n1).wz) ((ix p1 n1).wg) ((ix p1 n1).we) ((ix p1 n1).wAB) ((ix p1 n1).wh) ((ix p1 n1).wt) ((ix p1 n1).wl) ((ix p1 n1).ww))/\TL (wC.mk ((ix p1 n1).wo) ((ix p1 n1).wv) ((ix p1 n1).wz) ((ix p1 n1).wg) ((ix p1 n1).we) ((ix p1 n1).wAB) ((ix p1 n1).wh) ((ix p1 n1).wt) ((ix p1 n1).wl) ((ix p1 n1).ww)))/\let r5:=addL (wV.mk o1 q1).wE (wV.mk o1 q1).L (wC.mk ((ix p1 n1).wo) ((ix p1 n1).wv) ((ix p1 n1).wz) ((ix p1 n1).wg) ((ix p1 n1).we) ((ix p1 n1).wAB) ((ix p1 n1).wh) ((ix p1 n1).wt) ((ix p1 n1).wl) ((ix p1 n1).ww))
(TL (wC.mk ((ix p1 n1).wo) ((ix p1 n1).wv) ((ix p1 n1).wz) ((ix p1 n1).wg) ((ix p1 n1).we) ((ix p1 n1).wAB) ((ix p1 n1).wh) ((ix p1 n1).wt) ((ix p1 n1).wl) ((ix p1 n1).ww)))/\lz t1/\(PW t1/\0<=s1/\TR (wC.mk ((ix p1 n1).wo) ((ix p1 n1).wv) ((ix p1 n1).wz) ((ix p1 n1).wg) ((ix p1 n1).we) ((ix p1 n1).wAB) ((ix p1 n1).wh) ((ix p1 n1).wt) ((ix p1 n1).wl) ((ix p1 n1).ww)))/\let r6:=addL s1 (tL t1) (wC.mk ((ix p1 n1).wo) ((ix p1 n1).wv) ((ix p1 n1).wz) ((ix p1 n1).wg) ((ix p1 n1).we) ((ix p1 n1).wAB) ((ix p1 n1).wh) ((ix p1 n1).wt) ((ix p1 n1).wl) ((ix p1 n1).ww))
let r7:List wA:=(eL (addL s1 (tL t1) (wC.mk ((ix p1 n1).wo) ((ix p1 n1).wv) ((ix p1 n1).wz) ((ix p1 n1).wg) ((ix p1 n1).we) ((ix p1 n1).wAB) ((ix p1 n1).wh) ((ix p1 n1).wt) ((ix p1 n1).wl) ((ix p1 n1).ww))).l)
((r5.e==r6.e)=true->
(r6.g.length<=100000)/\lz r7/\I1 (decide (r6.g=r5.g)) (i64.wrap (n1+1)) ((wV.mk o1 q1).wE) r5.l s1 r7/\M1 (decide (r6.g=r5.g)) (i64.wrap (n1+1)) ((wV.mk o1 q1).wE) r5.l s1 r7<M1 m1 n1 o1 q1 s1 t1)/\
((r5.e==r6.e)=false->
lz r7/\I1 false (i64.wrap (n1+1)) ((wV.mk o1 q1).wE) r5.l s1 r7/\M1 false (i64.wrap (n1+1)) ((wV.mk o1 q1).wE) r5.l s1 r7<M1 m1 n1 o1 q1 s1 t1))))/\
(decide (n1<(p1.length:Int))=false->
lz t1/\J1 m1 o1 q1 s1 t1)))<|by
 rintro p0 p1 h _ rfl _ rfl _ rfl _ rfl;have ha:=h.a;have hc:=capS_nn p0;intro J1 kJ1;rw[show(if 0<p0 then p0 else 0)=capS p0 from rfl];generalize capS p0=c at *
 refine⟨rfl,?_⟩;refine⟨(fun m n o q s t=>m=true/\o=c/\s=c/\∃k:Nat,n=(k:Int)/\k<=p1.length/\q=runL c (p1.take k)/\t=eL q),fun _ n _ _ _ _=>(p1.length-n).toNat,⟨rfl,rfl,rfl,0,rfl,by omega,rfl,rfl⟩,?_⟩;rintro _ _ o _ s _ ⟨rfl,ho,hs,k,rfl,g1,rfl,rfl⟩;subst o;subst s;obtain⟨q1,q2⟩:=run_ok (c:=c) (fun o ho=>(h.r o ho).1) k g1;refine⟨fun e=> ?_,fun e=> ?_⟩
 ·have e:k<p1.length:=by have:=qb e;omega
  have hr:=h.r _ (qab e);have q3:(wV.mk c (runL c (p1.take k))).L.length<=1000:=by show(runL c (p1.take k)).length<=_;omega
  have hst:=kdm (c:=c) e;obtain⟨s1,s2⟩:=run_ok (c:=c) (fun o ho=>(h.r o ho).1) (k+1) e;rw[hst]at s1 s2;rw[ix_get _ _ e,inc_i64 _ qqo];refine⟨by omega,by omega,fun z=>(by cases z),fun _=>⟨fun z=> ?_,fun z=> ?_⟩⟩
  ·refine⟨hr,⟨q1,q3⟩,rfl,PW.of q1 qqo,rfl,?_⟩;rw[tL_eL];refine⟨⟨beq_self_eq_true _,rfl,rfl,k+1,rfl,by omega,?_,rfl⟩,by(dsimp only;omega)⟩;rw[hst];unfold stepL;rw[ql z]
  ·have hadd:stepL c (runL c (p1.take k)) p1[k]=(addL c (runL c (p1.take k)) (opT p1[k])).l:=by unfold stepL;rw[qm (by rw[z];decide)]
   have hg:=kln (L:=runL c (p1.take k)) (t:=opT p1[k]) hc;refine⟨⟨⟨q1,q3,hc⟩,hr⟩,hr.2,rfl,⟨PW.of q1 qqo,hc,hr.1⟩,?_⟩;dsimp only;rw[tL_eL];refine⟨fun y=>⟨by show(addL c (runL c (p1.take k)) (opT p1[k])).g.length<=_;omega,rfl,⟨qae rfl,rfl,rfl,k+1,rfl,by omega,?_,rfl⟩,by omega⟩,fun y=> ?_⟩
   ·rw[hst,hadd]
   ·rw[beq_self_eq_true]at y;cases y
 ·have e:k=p1.length:=by have:=qc e;omega
  rw[qi qqo];exact⟨rfl,kJ1 _ _ _ _ _ ⟨rfl,rfl,rfl,rfl,rfl,rfl⟩⟩
end Go.Proofs.YtghlnaoogfcldaaGreat
namespace Go.Cv
open Go Go.Bv Go.RowKit Go.Md
def itA:Nat->Code->List Code
 |n+1,.seq a b=>a::itA n b
 |_,_=>[]
def itR:Nat->Code->Code
 |0,c=>c
 |n+1,.seq _ b=>itR n b
 |_,c=>c
def wpL (P:Program) (K:Act->World->Prop) (Q:Exit->Act->World->Prop):List Code->Act->World->Prop
 |[],a,w=>K a w
 |c::r,a,w=>c.wp P (Exit.then (wpL P K Q r) Q) a w
theorem kfy {P:Program} {Q:Exit->Act->World->Prop}:∀(n:Nat) (c:Code) {a:Act} {w:World},wpL P ((itR n c).wp P Q) Q (itA n c) a w->c.wp P Q a w
 |0,_,_,_,h=>h
 |n+1,c,a,w,h=>by
  cases c with
  |seq x y=>
   refine wp_seq (wp_mono (show x.wp P (Exit.then (wpL P ((itR n y).wp P Q) Q (itA n y)) Q) a w from h) fun e a w hq=> ?_);cases e with
   |normal=>exact kfy n y hq
   |_=>exact hq
  |_=>exact h
section
variable (T:Tab)
def WQL (C:Cx T) (N:Nat):List Code->Nt->TSt T.den->(Exit->TSt T.den->Prop)->Prop
 |[],_,s,Q=>Q .normal s
 |c::r,an,s,Q=>WQ T C N c an.a s (thenT T (fun s' =>WQL C N r an.b s' Q) Q)
def retB (t:Nat) (s:TSt T.den):Prop:=match getT s.sl t with
 | .lit b=>b=true
 | .d .bool b=>b=true
 |_=>False
def pieceQ (t:Nat) (d:Dl) (s0:TSt T.den) (J:Ar T.den d.hs Prop):Exit->TSt T.den->Prop
 | .normal,s=>d.mat T s0 s (apA d.hs J)
 | .ret,s=>retB T t s
 |_,_=>False
end
section
variable {T:Tab} {P:Program} {C:Cx T} {N:Nat}
theorem kd7 (hT:T.Ok) (hC:C.Ok P T) (hm:P.follows .mixedOrders=true) {Tk:Tk} {G0:Gh} {w0:World} (hP:pkB T C=true->PkH Tk G0 w0) {K:Act->World->Prop} {Q:Exit->Act->World->Prop} {s0:TSt T.den} {Q' :Exit->TSt T.den->Prop}
  (hK:∀e t s G a w,Q' e t->Xt s0 t->R Tk G0 w0 N s a G w->Wk s (erS T t)->(Exit.then K Q) e a w):∀(cs:List Code) (an:Nt) (s:TSt T.den) (a:Act) (G:Gh) (w:World),Xt s0 s->Tk.nx<=s.nx->WQL T C N cs an s Q'->R Tk G0 w0 N (erS T s) a G w->wpL P K Q cs a w
 |[],_,s,a,G,w,hx,_,h,hR=>hK .normal s _ G a w h hx hR (Wk.refl _)
 |c::r,an,s,a,G,w,hx,hn,h,hR=>by
  refine wp_mono (khf hT hC hm hP c an.a s _ hn h G a w hR) fun e a' w' hh=> ?_;obtain⟨s',G',⟨t,⟨q1,q2⟩,q3⟩,hR'⟩:=hh;cases e with
  |normal=>obtain⟨G2,hR2⟩:∃G2,R Tk G0 w0 N (erS T t) a' G2 w' :=⟨_,q3 _ _ _ _ _ _ _ hR'⟩;exact kd7 hT hC hm hP hK r an.b t a' G2 w' (hx.trans q2) (qbl hn q2.2.2) q1 hR2
  |_=>exact hK _ t s' G' a' w' q1 (hx.trans q2) hR' q3
theorem piece {I:BT (TI T.den)} (B:Base P T I) {cns:List (Con T.den)} {xs:List (XCon T.den)} {rw:Ln} {S:Nat} (hcs:AllC P T cns) (hxs:AllX P T xs) {Tk:Tk} {G0:Gh} {w0:World} (hP:Nat.beq S 17=true->PkH Tk G0 w0)
  {cs:List Code} {an:Nt} {s0:TSt T.den} {t:Nat} {d:Dl} {J:Ar T.den d.hs Prop} (q:WQL T ⟨I,cns,xs,S,rw⟩ N cs an s0 (pieceQ T t d s0 J)) (hn:Tk.nx<=s0.nx) {a:Act} {G:Gh} {w:World} (hR:R Tk G0 w0 N (erS T s0) a G w)
  {K:Act->World->Prop} {Q:Exit->Act->World->Prop} (hK:∀x a' G' w',apA d.hs J x->R Tk G0 w0 N (erS T (d.fill T s0 x)) a' G' w'->K a' w')
  (hQ:∀s1 a' G' w',R Tk G0 w0 N s1 a' G' w'->a'.tmps.getD t undef= .bool true->Q .ret a' w'):wpL P K Q cs a w:=by
 have hC:Cx.Ok P T (⟨I,cns,xs,S,rw⟩:Cx T):=⟨B.ti,hcs,hxs⟩;have hg:=gd_of hR;refine kd7 B.tb hC B.mix (C:=⟨I,cns,xs,S,rw⟩) hP (fun e u s G a w h1 h2 h3 h4=> ?_) cs an s0 a G w (Xt.refl _) hn q hR;have h5:=h4 _ _ _ _ _ _ _ h3;cases e with
 |normal=>obtain⟨i,k1,k2⟩:=k7f B.tb h2 hg hn h1;obtain⟨G2,h6⟩:=k2 _ _ _ _ _ _ h5;exact hK i a G2 w k1 h6
 |ret=>
  have h1:retB T t u:=h1;refine hQ _ a _ w h5 ?_;have hs:=h5.sl t;rw[show getS (erS T u).sl t=er T (getT u.sl t)from getS_er u.sl t]at hs;unfold retB at h1;split at h1
  ·rename_i b hb;rw[hb,h1]at hs;exact hs.bool_inv
  ·rename_i b hb;rw[hb,h1]at hs;exact hs.bool_inv
  ·exact h1.elim
 |_=>exact h1.elim
end
end Go.Cv
namespace Go.Proofs.YtghlnaoogfcldaaGreat
open Go Go.Bv Go.Cv Go.Md Go.RowKit
open Go.IntKind (i64 u64)
def pcA_st (p0:Int) (p1:List wAA) (p2:wC):TSt TB.den:=⟨[(0,tvd yqi (p0:Int)),(1,tvd (.sl (.st 1)) (p1:List wAA)),(2,.agg [tvd yqu (p2.wN:Int),tvd (.sl yqu) (p2.wD:Li),tvd (.sl (.st 0)) (p2.wB:List wR),tvd yqu (p2.wH:Int),tvd yqu (p2.wG:Int),tvd yqu (p2.Fee:Int),tvd yqu (p2.wI:Int),tvd yqu (p2.wM:Int),tvd yqi (p2.wJ:Int),tvd (.sl yqb) (p2.wK:Li)])],[],0⟩
def pcA_dl:Dl:=⟨[],[.cells yC,.cells [zqi,.row 3],.cells yJ,.vec (.st 3)],[5,7,8],[.one (.ptr 0 0),.one (.ptr 1 0),.one (.ptr 2 0)],[]⟩
def pcA_nt:Nt:= .no
def pcA_cn:List (Ct):=[k9e,k9f,k7p]
theorem pcA_cs:AllC Tryz.prog TB pcA_cn:=kjd.c (kjf.c (khh.c c0))
theorem pcA_e:(∀(p0:Int) (p1:List wAA) (p2:wC) (J:Ar TB.den pcA_dl.hs Prop),(OA p1 [p2])->(∀(h0:Int) (h1:Li) (h2:List wR) (h3 h4 h5 h6 h7 h8:Int) (h9:Li) (h10 h11:Int) (h12:List wC) (h13:List wA),(FA p1 [p2]/\wC.mk h0 h1 h2 h3 h4 h5 h6 h7 h8 h9=p2/\h10=capS p0/\h11=capS p0/\h12=runL (capS p0) p1/\h13=eL (runL (capS p0) p1))->J h0 h1 h2 h3 h4 h5 h6 h7 h8 h9 h10 h11 h12 h13)->WQL TB ⟨inf,pcA_cn,[],16,[]⟩ 136 (itA 5 (itR 0 body)) pcA_nt (pcA_st p0 p1 p2) (pieceQ TB 6 pcA_dl (pcA_st p0 p1 p2) J))=(∀(p0:Int) (p1:List wAA) (p2:wC) (J:Int->(Li)->(List wR)->Int->Int->Int->Int->Int->Int->(Li)->Int->Int->(List wC)->(List wA)->Prop),(OA p1 [p2])->(∀(h0:Int) (h1:Li) (h2:List wR) (h3 h4 h5 h6 h7 h8:Int) (h9:Li) (h10 h11:Int) (h12:List wC) (h13:List wA),(FA p1 [p2]/\wC.mk h0 h1 h2 h3 h4 h5 h6 h7 h8 h9=p2/\h10=capS p0/\h11=capS p0/\h12=runL (capS p0) p1/\h13=eL (runL (capS p0) p1))->J h0 h1 h2 h3 h4 h5 h6 h7 h8 h9 h10 h11 h12 h13)->
((!true)=true->
false=true)/\
((!true)=false->
(OA p1 [p2])/\((!(fewB p1 [p2]))=true->
true=true)/\
((!(fewB p1 [p2]))=false->
(FA p1 [])/\((!true)=true->
false=true)/\
((!true)=false->
lz (eL (runL (capS p0) p1))/\J p2.wN p2.wD p2.wB p2.wH p2.wG p2.Fee p2.wI p2.wM p2.wJ p2.wK (capS p0) (capS p0) (runL (capS p0) p1) (eL (runL (capS p0) p1)))))):=by kernel_rfl
theorem pcA_q:∀(p0:Int) (p1:List wAA) (p2:wC) (J:Int->(Li)->(List wR)->Int->Int->Int->Int->Int->Int->(Li)->Int->Int->(List wC)->(List wA)->Prop),(OA p1 [p2])->(∀(h0:Int) (h1:Li) (h2:List wR) (h3 h4 h5 h6 h7 h8:Int) (h9:Li) (h10 h11:Int) (h12:List wC) (h13:List wA),(FA p1 [p2]/\wC.mk h0 h1 h2 h3 h4 h5 h6 h7 h8 h9=p2/\h10=capS p0/\h11=capS p0/\h12=runL (capS p0) p1/\h13=eL (runL (capS p0) p1))->J h0 h1 h2 h3 h4 h5 h6 h7 h8 h9 h10 h11 h12 h13)->
((!true)=true->
false=true)/\
((!true)=false->
(OA p1 [p2])/\((!(fewB p1 [p2]))=true->
true=true)/\
((!(fewB p1 [p2]))=false->
(FA p1 [])/\((!true)=true->
false=true)/\
((!true)=false->
lz (eL (runL (capS p0) p1))/\J p2.wN p2.wD p2.wB p2.wH p2.wG p2.Fee p2.wI p2.wM p2.wJ p2.wK (capS p0) (capS p0) (runL (capS p0) p1) (eL (runL (capS p0) p1))))):=by
 rintro p0 p1 p2 J h kJ;refine⟨fun e=>(by cases e),fun _=>⟨h,fun e=>rfl,fun e=> ?_⟩⟩;have e:fewB p1 [p2]=true:=by simpa using e
 have hf:=few_fa h e;exact⟨⟨hf.a,hf.r,by simp,fun t ht=>by cases ht⟩,fun z=>(by cases z),fun _=>⟨rfl,kJ _ _ _ _ _ _ _ _ _ _ _ _ _ _ ⟨hf,rfl,rfl,rfl,rfl,rfl⟩⟩⟩
theorem pcA_w:∀(p0:Int) (p1:List wAA) (p2:wC) (J:Ar TB.den pcA_dl.hs Prop),(OA p1 [p2])->(∀(h0:Int) (h1:Li) (h2:List wR) (h3 h4 h5 h6 h7 h8:Int) (h9:Li) (h10 h11:Int) (h12:List wC) (h13:List wA),(FA p1 [p2]/\wC.mk h0 h1 h2 h3 h4 h5 h6 h7 h8 h9=p2/\h10=capS p0/\h11=capS p0/\h12=runL (capS p0) p1/\h13=eL (runL (capS p0) p1))->J h0 h1 h2 h3 h4 h5 h6 h7 h8 h9 h10 h11 h12 h13)->WQL TB ⟨inf,pcA_cn,[],16,[]⟩ 136 (itA 5 (itR 0 body)) pcA_nt (pcA_st p0 p1 p2) (pieceQ TB 6 pcA_dl (pcA_st p0 p1 p2) J):=pcA_e.mpr pcA_q
noncomputable def k54:Ct:= .gp 7 [.st 9] [.st 2] [] fun(p0:wx)=>(TL (unT p0),(unT p0:wC),())
theorem kcg:k54.O:=qrv Bs_0 Tryz.func7 (.r 3 (.nd [] (.r 0 (.lp [.tok 3 (.st 8)] ⟨[6],[.tip (.st 8)],[3,19],[.one (.own 0),.one (zqi)],[]⟩ .no)) [] (.r 1 (.rt [.rtyc 1 2 (.st 0)])))) c0 (Q:=∀(p0:wx),(TL (unT p0))->∀r0:wC,unT p0=r0-> 
(([]:Li).length+p0.wD.2.length)*8<=140737488355328/\([]:Li).length+p0.wD.2.length<=maxLen/\(([]:Li).length+p0.wK.2.length)*1<=140737488355328/\([]:Li).length+p0.wK.2.length<=maxLen/\(([]:List wa)=([]:List wa))/\∃(I1:Int->(List wa)->Prop) (M1:Int->(List wa)->Nat),I1 0 ([]:List wa)/\∀b1 f1,(I1 b1 f1->
(decide (b1<(p0.wB.2.length:Int))=true->
(0<=b1)/\b1<(p0.wB.2.length:Int)/\(([]:Li).length+(((ix p0.wB.2 b1).wF).2).length)*8<=140737488355328/\([]:Li).length+(((ix p0.wB.2 b1).wF).2).length<=maxLen/\let v1:Li:=([]:Li)++(((ix p0.wB.2 b1).wF).2)
let v2:List wa:=[wa.mk ((ix p0.wB.2 b1).wW) ((ix p0.wB.2 b1).wP) ((ix p0.wB.2 b1).wO) (false,v1)]
lz f1/\(f1.length+v2.length)*48<=140737488355328/\f1.length+v2.length<=maxLen/\(f1++v2=f1++v2)/\I1 (i64.wrap (b1+1)) (f1++v2)/\M1 (i64.wrap (b1+1)) (f1++v2)<M1 b1 f1)/\
(decide (b1<(p0.wB.2.length:Int))=false->
RtyOk TB (.st 8) (.st 0) f1 (f1.map (fun x=>wR.mk x.wW x.wP x.wO x.wF.2))/\let v3:List wR:=f1.map (fun x=>wR.mk x.wW x.wP x.wO x.wF.2)
p0.wN=r0.wN/\([]:Li)++p0.wD.2=r0.wD/\v3=r0.wB/\p0.wH=r0.wH/\p0.wG=r0.wG/\p0.Fee=r0.Fee/\p0.wI=r0.wI/\p0.wM=r0.wM/\p0.wJ=r0.wJ/\([]:Li)++p0.wK.2=r0.wK)))<|by
 rintro p0 h _ rfl;have l1:=h.m;have l3:=h.p;have hO:p0.wB.2.length<=4294967295:=by have:=h.o;rw[show(unT p0).wB=p0.wB.2.map unO from rfl,qf]at this;exact this
 have hC:∀x∈p0.wB.2,x.wF.2.length<=4294967295:=fun x hx=>h.c (unO x) (List.mem_map_of_mem hx);have l1:p0.wD.2.length<=4294967295:=l1;have l3:p0.wK.2.length<=4294967295:=l3;simp only[qbh,qcf];refine⟨by omega,by unfold maxLen;omega,by omega,by unfold maxLen;omega,trivial,?_⟩;refine⟨(fun i f=>∃k:Nat,i=(k:Int)/\k<=p0.wB.2.length/\f=(p0.wB.2.take k).map plO),fun i _=>(p0.wB.2.length-i).toNat,⟨0,rfl,by omega,rfl⟩,?_⟩;rintro _ _ ⟨k,rfl,g1,rfl⟩;refine⟨fun e=> ?_,fun e=> ?_⟩
 ·have e:k<p0.wB.2.length:=by have:=qb e;omega
  have hc:=hC _ (qab e);rw[ix_get _ _ e,inc_i64 _ qqo];dsimp only;simp only[qf,qn,qah];refine⟨by omega,by omega,by omega,by unfold maxLen;omega,trivial,by omega,by unfold maxLen;omega,trivial,⟨k+1,rfl,by omega,?_⟩,by omega⟩;rw[qu e,qbd];rfl
 ·have e:k=p0.wB.2.length:=by have:=qc e;omega
  subst e;rw[qbu];refine⟨rty_O _,?_⟩;rw[un_plO];exact⟨rfl,rfl,rfl,rfl,rfl,rfl,rfl,rfl,rfl,rfl⟩
def pcB_st (t:wx) (v7 v8:Value):TSt TB.den:=⟨[(5,.ro [⟨.int .u64,(t.wN:Int)⟩,⟨.ms yqu,(t.wD:Bool×Li)⟩,⟨.ms (.st 8),(t.wB:Bool×List wa)⟩,⟨.int .u64,(t.wH:Int)⟩,⟨.int .u64,(t.wG:Int)⟩,⟨.int .u64,(t.Fee:Int)⟩,⟨.int .u64,(t.wI:Int)⟩,⟨.int .u64,(t.wM:Int)⟩,⟨.int .i64,(t.wJ:Int)⟩,⟨.ms yqb,(t.wK:Bool×Li)⟩]),(7,.k v7),(8,.k v8)],[],0⟩
def pcB_dl:Dl:=⟨[],[.cells yC],[10],[.one (.ptr 0 0)],[]⟩
def pcB_nt:Nt:= .no
def pcB_cn:List (Ct):=[k54]
theorem pcB_cs:AllC Tryz.prog TB pcB_cn:=kcg.c c0
theorem pcB_e:(∀(t:wx) (v7 v8:Value) (J:Ar TB.den pcB_dl.hs Prop),(TL (unT t))->(∀(h0:Int) (h1:Li) (h2:List wR) (h3 h4 h5 h6 h7 h8:Int) (h9:Li),(wC.mk h0 h1 h2 h3 h4 h5 h6 h7 h8 h9=unT t)->J h0 h1 h2 h3 h4 h5 h6 h7 h8 h9)->WQL TB ⟨inf,pcB_cn,[],16,[]⟩ 136 (itA 1 (itR 5 body)) pcB_nt (pcB_st t v7 v8) (pieceQ TB 6 pcB_dl (pcB_st t v7 v8) J))=(∀(t:wx) (v7 v8:Value) (J:Int->(Li)->(List wR)->Int->Int->Int->Int->Int->Int->(Li)->Prop),(TL (unT t))->(∀(h0:Int) (h1:Li) (h2:List wR) (h3 h4 h5 h6 h7 h8:Int) (h9:Li),(wC.mk h0 h1 h2 h3 h4 h5 h6 h7 h8 h9=unT t)->J h0 h1 h2 h3 h4 h5 h6 h7 h8 h9)->
(TL (unT t))/\J ((unT t).wN) ((unT t).wD) ((unT t).wB) ((unT t).wH) ((unT t).wG) ((unT t).Fee) ((unT t).wI) ((unT t).wM) ((unT t).wJ) ((unT t).wK)):=by kernel_rfl
theorem pcB_q:∀(t:wx) (v7 v8:Value) (J:Int->(Li)->(List wR)->Int->Int->Int->Int->Int->Int->(Li)->Prop),(TL (unT t))->(∀(h0:Int) (h1:Li) (h2:List wR) (h3 h4 h5 h6 h7 h8:Int) (h9:Li),(wC.mk h0 h1 h2 h3 h4 h5 h6 h7 h8 h9=unT t)->J h0 h1 h2 h3 h4 h5 h6 h7 h8 h9)->
(TL (unT t))/\J ((unT t).wN) ((unT t).wD) ((unT t).wB) ((unT t).wH) ((unT t).wG) ((unT t).Fee) ((unT t).wI) ((unT t).wM) ((unT t).wJ) ((unT t).wK):=by rintro t v7 v8 J h kJ;exact⟨h,kJ _ _ _ _ _ _ _ _ _ _ rfl⟩
theorem pcB_w:∀(t:wx) (v7 v8:Value) (J:Ar TB.den pcB_dl.hs Prop),(TL (unT t))->(∀(h0:Int) (h1:Li) (h2:List wR) (h3 h4 h5 h6 h7 h8:Int) (h9:Li),(wC.mk h0 h1 h2 h3 h4 h5 h6 h7 h8 h9=unT t)->J h0 h1 h2 h3 h4 h5 h6 h7 h8 h9)->WQL TB ⟨inf,pcB_cn,[],16,[]⟩ 136 (itA 1 (itR 5 body)) pcB_nt (pcB_st t v7 v8) (pieceQ TB 6 pcB_dl (pcB_st t v7 v8) J):=pcB_e.mpr pcB_q
noncomputable def k5u:Ct:= .gp 46 [.st 10,.st 3] [.bool] [] fun(p0:wc) (p1:wA)=>(p0.wQ.2.length<=4294967295/\p1.wQ.length<=4294967295,((if p0.id=p1.id then false else p0.wQ.2.any (fun m=>decide (m∈p1.wQ))||(decide (0<p0.wS)&&decide (0<p1.wS)&&decide (p0.wT=p1.wT)&&decide (p0.wX=p1.wX))):Bool),())
theorem k6a:k5u.O:=by refine⟨cal Tryz.func46 qqk,fun x K hx=> ?_⟩;obtain⟨(a0:Int),(a1:Bool×Li),(a2:Bool×List wa),(a3:Int),(a4:Int),(a5:Int),(a6:Int),(a7:Int),(a8:Int),(a9:Bool×Li),(a10:Int),(a11:Int),(b0:Int),(b1:Li),(b2:List wR),(b3:Int),(b4:Int),(b5:Int),(b6:Int),(b7:Int),(b8:Int),(b9:Li),(b10:Int),(b11:Int),_⟩:=x;obtain⟨hx,hK⟩:=hx;refine⟨_,hK,?_⟩;have h:=k36.at (a0,a1.2,a2.2.map unO,a3,a4,a5,a6,a7,a8,a9.2,a10,a11,b0,b1,b2,b3,b4,b5,b6,b7,b8,b9,b10,b11,()) (_,()) ⟨hx,rfl⟩;refine borrow (ds:=[encTentrym ⟨a0,a1,a2,a3,a4,a5,a6,a7,a8,a9,a10,a11⟩,encTentry ⟨b0,b1,b2,b3,b4,b5,b6,b7,b8,b9,b10,b11⟩]) (r:= .bool _) ?_ (re_bool _);show SoundH _ _ [V.ofD (plD (encTentrym _)),V.ofD (plD (encTentry _))] [] _ [];rw[pl_Em,pl_E];exact h
noncomputable def k7h:Ct:= .g (gk 29 [.one (.ptr 0 0),.agg [zqu,.d (.ms yqu),.d (.ms (.st 8)),zqu,zqu,zqu,zqu,zqu,zqi,.d (.ms yqb),zqu,zqi]] yE (.one (.one (zql)))) [.st 10,yqi,.sl (.st 3)] [.sl yqu,yqi,.sl (.st 3)] [] fun(p1:wc) (Aa:Int) (w1:List wA)=>((∃t,unE p1=eOf t/\VR t)/\EL w1,(cfl (tL w1) (tOf (unE p1)):Li),Aa,w1,())
theorem k7x:k7h.O:=prv Bs_0 Tryz.func29 (.r 1 (.nd [] (.r 0 (.lp [.tok 5 yqu] ⟨[3],[.tip yqu],[5,13],[.one (.own 0),.one (zqi)],[]⟩ .no)) [] .no)) (k6a.c c0) (Q:=∀(p1:wc) (Aa:Int) (w1:List wA),((∃t,unE p1=eOf t/\VR t)/\EL w1)->∀r0:Li,(cfl (tL w1) (tOf (unE p1)))=r0->∀Ac:Int,Aa=Ac->∀e1:List wA,w1=e1-> 
(([]:Li)=([]:Li))/\∃(I1:Int->(Li)->Prop) (M1:Int->(Li)->Nat),I1 0 ([]:Li)/\∀b1 f1,(I1 b1 f1->
(decide (b1<(w1.length:Int))=true->
(0<=b1/\b1<(w1.length:Int))/\(0<=b1/\b1<(w1.length:Int))/\(p1.wQ.2.length<=4294967295/\(ix w1 b1).wQ.length<=4294967295)/\let r1:Bool:=(if p1.id=(ix w1 b1).id then false else p1.wQ.2.any (fun m=>decide (m∈(ix w1 b1).wQ))||(decide (0<p1.wS)&&decide (0<(ix w1 b1).wS)&&decide (p1.wT=(ix w1 b1).wT)&&decide (p1.wX=(ix w1 b1).wX)))
(r1=true->
lz f1/\(f1.length+[(ix w1 b1).id].length)*8<=140737488355328/\f1.length+[(ix w1 b1).id].length<=maxLen/\(f1++[(ix w1 b1).id]=f1++[(ix w1 b1).id])/\I1 (i64.wrap (b1+1)) (f1++[(ix w1 b1).id])/\M1 (i64.wrap (b1+1)) (f1++[(ix w1 b1).id])<M1 b1 f1)/\
(r1=false->
(f1=f1)/\I1 (i64.wrap (b1+1)) f1/\M1 (i64.wrap (b1+1)) f1<M1 b1 f1))/\
(decide (b1<(w1.length:Int))=false->
lz w1/\f1=r0/\Aa=Ac/\w1=e1)))<|by
 rintro p1 Aa w1 h _ rfl _ rfl _ rfl;obtain⟨⟨t,hp,ht⟩,hE⟩:=h;obtain⟨L,rfl,hL,hn⟩:=hE.at
 have hid:p1.id=(eOf t).id:=by rw[<-hp];rfl
 have hmk:p1.wQ.2=(eOf t).wQ:=by rw[<-hp];rfl
 have hdp:p1.wS=(eOf t).wS:=by rw[<-hp];rfl
 have hac:p1.wT=(eOf t).wT:=by rw[<-hp];rfl
 have hno:p1.wX=(eOf t).wX:=by rw[<-hp];rfl
 rw[tL_eL,hp,tOf_eOf];refine⟨rfl,?_⟩;refine⟨(fun i f=>∃k:Nat,i=(k:Int)/\k<=L.length/\f=cfl (L.take k) t),fun i _=>(L.length-i).toNat,⟨0,rfl,by omega,rfl⟩,?_⟩;rintro _ _ ⟨k,rfl,g1,rfl⟩;have hcl:=cfl_len (L.take k) t;rw[qn]at hcl;refine⟨fun e=> ?_,fun e=> ?_⟩
 ·have e:k<L.length:=by have:=qb e;rw[eL_len]at this;omega
  have hu:=(hL _ (qab e)).tl.m;have hct:=kab (t:=t) e;rw[eL_ix e,inc_i64 _ qqo];rw[eL_len];dsimp only;rw[hid,hmk,hdp,hac,hno];refine⟨by omega,by omega,⟨ht.tl.m,hu⟩,fun q=> ?_,fun q=> ?_⟩
  ·have q:confT t L[k]=true:=q;rw[ql q]at hct;refine⟨rfl,?_,?_,rfl,⟨k+1,rfl,by omega,hct.symm⟩,by omega⟩<;>simp only[qah]<;>(try unfold maxLen)<;>omega
  ·rw[qm (by rw[show confT t L[k]=false from q];decide)]at hct;exact⟨rfl,⟨k+1,rfl,by omega,hct.symm⟩,by omega⟩
 ·have e:k=L.length:=by have:=qc e;rw[eL_len]at this;omega
  rw[qi qqo];exact⟨rfl,rfl,rfl,rfl⟩
noncomputable def k5n:Ct:= .g ⟨48,[.one (.d (.ms (.st 8)))],[],(.one (.one (.row 0))),[.vec (.st 8)],false⟩ [.ms (.st 8)] [.sl (.st 8)] [] fun(p0:Bool×List wa)=>(p0.2.length<=4294967295,p0.2,())
theorem k67:k5n.O:=prx Bs_0 [5,7] Tryz.func48 (.r 0 (.nd [] (.r 0 (.nd [] (.r 0 (.rt [.rnil 2 (.st 8)])) [] .no)) [] .no)) x0 c0 (Q:=∀(p0:Bool×List wa),(p0.2.length<=4294967295)->∀e0:List wa,p0.2=e0-> 
∀z4:Bool,(z4=true->p0.2=[])->(z4=true->
(0=([]:List wa).length)/\([]:List wa)=e0)/\
(z4=false->
lz ([]:List wa)/\(([]:List wa).length+p0.2.length)*48<=140737488355328/\([]:List wa).length+p0.2.length<=maxLen/\lz (([]:List wa)++p0.2)/\([]:List wa)++p0.2=e0))<|by
 rintro p0 h _ rfl;intro z hz;refine⟨fun e=> ?_,fun e=> ?_⟩
 ·rw[hz e];exact⟨rfl,rfl⟩
 ·refine⟨rfl,?_,?_,rfl,rfl⟩<;>simp only[qbh]<;>(try unfold maxLen)<;>omega
noncomputable def k4w:Ct:= .gp 49 [.ms yqb] [.sl yqb] [] fun(p0:Bool×Li)=>(p0.2.length<=4294967295,p0.2,())
theorem k5j:k4w.O:=qrv Bs Tryz.func49 .no c0 (Q:=∀(p0:Bool×Li),(p0.2.length<=4294967295)->∀r0:Li,p0.2=r0-> 
∀z4:Bool,(z4=true->p0.2=[])->(z4=true->
([]:Li)=r0)/\
(z4=false->
(([]:Li).length+p0.2.length)*1<=140737488355328/\([]:Li).length+p0.2.length<=maxLen/\([]:Li)++p0.2=r0))<|by rintro p0 h _ rfl;intro z hz;refine⟨fun e=>(hz e).symm,fun e=> ?_⟩;refine⟨?_,?_,rfl⟩<;>simp only[qbh]<;>(try unfold maxLen)<;>omega
noncomputable def k8d:Ct:= .gp 47 [.ms yqu] [.sl yqu] [] fun(p0:Bool×Li)=>(p0.2.length<=4294967295,p0.2,())
theorem k8v:k8d.O:=qrv Bs Tryz.func47 .no c0 (Q:=∀(p0:Bool×Li),(p0.2.length<=4294967295)->∀r0:Li,p0.2=r0-> 
∀z4:Bool,(z4=true->p0.2=[])->(z4=true->
([]:Li)=r0)/\
(z4=false->
(([]:Li).length+p0.2.length)*8<=140737488355328/\([]:Li).length+p0.2.length<=maxLen/\([]:Li)++p0.2=r0))<|by rintro p0 h _ rfl;intro z hz;refine⟨fun e=>(hz e).symm,fun e=> ?_⟩;refine⟨?_,?_,rfl⟩<;>simp only[qbh]<;>(try unfold maxLen)<;>omega
noncomputable def k7w:Ct:= .gp 30 [.st 9] [.st 2] [] fun(p0:wx)=>(TL (unT p0),(unT p0:wC),())
theorem k3t:k7w.O:=qrv Bs_0 Tryz.func30 (.r 2 (.nd [] (.r 0 (.lp [] ⟨[2],[.vec (.st 8)],[15],[.one (zqi)],[]⟩ .no)) [] (.r 1 (.rt [.frzc 2 1 2,.rtyc 1 2 (.st 0)])))) (k8v.c (k67.c (k5j.c c0))) (Q:=∀(p0:wx),(TL (unT p0))->∀r0:wC,unT p0=r0-> 
(p0.wD.2.length<=4294967295)/\(p0.wB.2.length<=4294967295)/\∃(I1:Int->(List wa)->Prop) (M1:Int->(List wa)->Nat),I1 0 p0.wB.2/\∀b1 f1,(I1 b1 f1->
(decide (b1<(p0.wB.2.length:Int))=true->
(0<=b1/\b1<(p0.wB.2.length:Int))/\(0<=b1/\b1<(f1.length:Int))/\(((ix f1 b1).wF).2.length<=4294967295)/\(0<=b1/\b1<(p0.wB.2.length:Int))/\(0<=b1/\b1<(f1.length:Int))/\I1 (i64.wrap (b1+1)) (f1.set b1.toNat (wa.mk ((ix f1 b1).wW) ((ix f1 b1).wP) ((ix f1 b1).wO) (false,(((ix f1 b1).wF).2))))/\M1 (i64.wrap (b1+1)) (f1.set b1.toNat (wa.mk ((ix f1 b1).wW) ((ix f1 b1).wP) ((ix f1 b1).wO) (false,(((ix f1 b1).wF).2))))<M1 b1 f1)/\
(decide (b1<(p0.wB.2.length:Int))=false->
(p0.wK.2.length<=4294967295)/\(p0.wB.2.length=f1.length)/\RtyOk TB (.st 8) (.st 0) f1 (f1.map (fun x=>wR.mk x.wW x.wP x.wO x.wF.2))/\let v1:List wR:=f1.map (fun x=>wR.mk x.wW x.wP x.wO x.wF.2)
p0.wN=r0.wN/\p0.wD.2=r0.wD/\v1=r0.wB/\p0.wH=r0.wH/\p0.wG=r0.wG/\p0.Fee=r0.Fee/\p0.wI=r0.wI/\p0.wM=r0.wM/\p0.wJ=r0.wJ/\p0.wK.2=r0.wK)))<|by
 rintro p0 h _ rfl;have hO:p0.wB.2.length<=4294967295:=by have:=h.o;rw[show(unT p0).wB=p0.wB.2.map unO from rfl,qf]at this;exact this
 have hC:∀x∈p0.wB.2,x.wF.2.length<=4294967295:=fun x hx=>h.c (unO x) (List.mem_map_of_mem hx);refine⟨h.m,hO,?_⟩;refine⟨(fun i f=>∃k:Nat,i=(k:Int)/\k<=p0.wB.2.length/\f=(p0.wB.2.take k).map plO++p0.wB.2.drop k),fun i _=>(p0.wB.2.length-i).toNat,⟨0,rfl,by omega,rfl⟩,?_⟩;rintro _ _ ⟨k,rfl,g1,rfl⟩;refine⟨fun e=> ?_,fun e=> ?_⟩
 ·have e:k<p0.wB.2.length:=by have:=qb e;omega
  have hl:((p0.wB.2.take k).map plO++p0.wB.2.drop k).length=p0.wB.2.length:=by rw[qj,qf,qn,qaj];omega
  have hx:ix ((p0.wB.2.take k).map plO++p0.wB.2.drop k) (k:Int)=p0.wB.2[k]:=by rw[ix_get _ _ qqo,List.getElem_append_right (by rw[qf,qn];omega),List.getElem_drop];congr 1;rw[qf,qn];omega
  rw[hx,inc_i64 _ qqo,hl];have hc:=hC _ (qab e);refine⟨by omega,by omega,hc,by omega,by omega,⟨k+1,rfl,by omega,?_⟩,by(dsimp only;omega)⟩;have h1:((p0.wB.2.take k).map plO).length=k:=by rw[qf,qn];omega
  show List.set _ k (plO p0.wB.2[k])=_;rw[List.set_append_right _ _ qqo,h1,Nat.sub_self,qbr e,List.set_cons_zero,qu e,qbd,qas];rfl
 ·have e:k=p0.wB.2.length:=by have:=qc e;omega
  subst e;rw[qbu,qfa,qck];refine⟨h.p,(qf ..).symm,rty_O _,?_⟩;dsimp only;rw[un_plO];exact⟨rfl,rfl,rfl,rfl,rfl,rfl,rfl,rfl,rfl,rfl⟩
noncomputable def ki8:Ct:= .gp 44 [.st 9] [yqu] [] fun(p0:wx)=>(TR (unT p0),(idS (unT p0):Int),())
theorem kk3:ki8.O:=by refine⟨cal Tryz.func44 qqk,fun x K hx=> ?_⟩;obtain⟨(a0:Int),(a1:Bool×Li),(a2:Bool×List wa),(a3:Int),(a4:Int),(a5:Int),(a6:Int),(a7:Int),(a8:Int),(a9:Bool×Li),_⟩:=x;obtain⟨hx,hK⟩:=hx;refine⟨_,hK,?_⟩;have h:=kfk.at (a0,a1.2,a2.2.map unO,a3,a4,a5,a6,a7,a8,a9.2,()) (idS (unT ⟨a0,a1,a2,a3,a4,a5,a6,a7,a8,a9⟩),()) ⟨hx,rfl⟩;refine borrow (ds:=[encTTxm ⟨a0,a1,a2,a3,a4,a5,a6,a7,a8,a9⟩]) (r:= .int .u64 _) ?_ (re_int _ _);rw[qx,pl_Tm];exact h
noncomputable def kc9:Ct:= .tp 43 [.st 9] [yqi] [] fun(p0:wx)=>((validE (unT p0):Int),())
theorem ke8:kc9.O:=by refine⟨cal Tryz.func43 qqk,fun x K hx=> ?_⟩;obtain⟨(a0:Int),(a1:Bool×Li),(a2:Bool×List wa),(a3:Int),(a4:Int),(a5:Int),(a6:Int),(a7:Int),(a8:Int),(a9:Bool×Li),_⟩:=x;refine⟨_,hx,?_⟩;have h:=k5y.at (a0,a1.2,a2.2.map unO,a3,a4,a5,a6,a7,a8,a9.2,()) (validE (unT ⟨a0,a1,a2,a3,a4,a5,a6,a7,a8,a9⟩),()) rfl;refine borrow (ds:=[encTTxm ⟨a0,a1,a2,a3,a4,a5,a6,a7,a8,a9⟩]) (r:= .int .i64 _) ?_ (re_int _ _);rw[qx,pl_Tm];exact h
noncomputable def kbc:Ct:= .gp 45 [.st 9] [yqi] [] fun(p0:wx)=>(TR (unT p0),(weightS (unT p0):Int),())
theorem kck:kbc.O:=by refine⟨cal Tryz.func45 qqk,fun x K hx=> ?_⟩;obtain⟨(a0:Int),(a1:Bool×Li),(a2:Bool×List wa),(a3:Int),(a4:Int),(a5:Int),(a6:Int),(a7:Int),(a8:Int),(a9:Bool×Li),_⟩:=x;obtain⟨hx,hK⟩:=hx;refine⟨_,hK,?_⟩;have h:=k80.at (a0,a1.2,a2.2.map unO,a3,a4,a5,a6,a7,a8,a9.2,()) (weightS (unT ⟨a0,a1,a2,a3,a4,a5,a6,a7,a8,a9⟩),()) ⟨hx,rfl⟩;refine borrow (ds:=[encTTxm ⟨a0,a1,a2,a3,a4,a5,a6,a7,a8,a9⟩]) (r:= .int .i64 _) ?_ (re_int _ _);rw[qx,pl_Tm];exact h
noncomputable def k62:Ct:= .gp 27 [.st 9] [.st 10,yqi] [] fun(p0:wx)=>(TR (unT p0),((if validE (unT p0)=0 then eOm p0 else default):wc),(validE (unT p0):Int),())
theorem k6n:k62.O:=qrv Bs_0 Tryz.func27 .no (ke8.c (kk3.c (kck.c c0))) (Q:=∀(p0:wx),(TR (unT p0))->∀r0:wc,((if validE (unT p0)=0 then eOm p0 else default):wc)=r0->∀r1:Int,(validE (unT p0))=r1-> 
(((validE (unT p0)) !=0)=true->
0=r0.wm/\(false,([]:Li))=r0.wQ/\(false,([]:List wa))=r0.wy/\0=r0.wS/\0=r0.wd/\0=r0.wU/\0=r0.wT/\0=r0.wX/\0=r0.wn/\(false,([]:Li))=r0.wq/\0=r0.id/\0=r0.weight/\(validE (unT p0))=r1)/\
(((validE (unT p0)) !=0)=false->
(TR (unT p0))/\(TR (unT p0))/\p0.wN=r0.wm/\p0.wD=r0.wQ/\p0.wB=r0.wy/\p0.wH=r0.wS/\p0.wG=r0.wd/\p0.Fee=r0.wU/\p0.wI=r0.wT/\p0.wM=r0.wX/\p0.wJ=r0.wn/\p0.wK=r0.wq/\(idS (unT p0))=r0.id/\(weightS (unT p0))=r0.weight/\0=r1))<|by
 rintro p0 h _ rfl _ rfl;refine⟨fun e=> ?_,fun e=> ?_⟩
 ·have e:¬validE (unT p0)=0:=by simpa using e
  rw[qm e];exact(by repeat' first|apply qep|exact rfl)
 ·have e:validE (unT p0)=0:=by simpa using e
  rw[ql e];exact⟨h,h,rfl,rfl,rfl,rfl,rfl,rfl,rfl,rfl,rfl,rfl,rfl,rfl,e.symm⟩
noncomputable def k66:Ct:= .b ⟨9,[.one (.ptr 0 0),.agg [zqu,.d (.ms yqu),.d (.ms (.st 8)),zqu,zqu,zqu,zqu,zqu,zqi,.d (.ms yqb)]],yE,(.tup [.one (zql),.one (zqi)]),yD,false⟩ [.st 9,yqi,.sl (.st 3)] [.sl yqu,yqi,yqi,.sl (.st 3)] fun(p1:wx) (Aa:Int) (w1:List wA)=>(PW w1/\0<=Aa/\TR (unT p1),addL Aa (tL w1) (unT p1),fun R=>(R.g,R.e,Aa,((eL (addL Aa (tL w1) (unT p1)).l):List wA),()))
theorem kee:k66.O:=pbx Bs_0 [45,46] Tryz.func9 (.r 1 (.nd [] (.r 0 (.nd [] (.r 0 (.rt [.trimc 0 1])) [] .no)) [] (.nd [] (.r 0 (.nd [] (.r 0 (.rt [.trimc 0 1])) [] .no)) [] (.nd [] (.r 0 (.nd [] (.r 0 (.rt [.trimc 0 1])) [] .no)) [] (.nd [] (.r 0 (.nd [] (.r 0 (.rt [.trimc 0 1])) [] .no)) [] (.r 4 (.nd [] (.lp [.tok 10 yqu] ⟨[228,356],[.vec (.st 3),.tip yqu],[8,9,10],[.one (.view 0),.one (zqi),.one (.own 1)],[]⟩ (.r 1 (.nd [] (.r 0 (.nd [] (.r 0 (.rt [.trimc 0 1])) [] .no)) [] .no))) [] .no))))))) x0 (k6n.c (k9k.c (k7x.c (k3t.c (k2s.c (k24.c (k25.c (k2c.c c0)))))))) (Q:=∀(p1:wx) (Aa:Int) (w1:List wA),(PW w1/\0<=Aa/\TR (unT p1))->∀R,addL Aa (tL w1) (unT p1)=R-> 
(TR (unT p1))/\let r2:=if validE (unT p1)=0 then eOm p1 else default
(((validE (unT p1)) !=0)=true->
lz w1/\lz w1/\([]:Li)=R.g/\(validE (unT p1))=R.e/\Aa=Aa/\w1=(eL (addL Aa (tL w1) (unT p1)).l))/\
(((validE (unT p1)) !=0)=false->
lz w1/\(w1.length<=1000000)/\let r3:Bool:=(decide (0<=idxI (w1.map (·.id)) r2.id))
(r3=true->
lz w1/\lz w1/\([]:Li)=R.g/\5=R.e/\Aa=Aa/\w1=(eL (addL Aa (tL w1) (unT p1)).l))/\
(r3=false->
lz w1/\((∃t,unE r2=eOf t/\VR t)/\EL w1)/\let v4:Int:=((cfl (tL w1) (tOf (unE r2))).length:Int)
(decide (0<v4)=true->
lz w1/\lz w1/\([]:Li)=R.g/\12=R.e/\Aa=Aa/\w1=(eL (addL Aa (tL w1) (unT p1)).l))/\
(decide (0<v4)=false->
(decide (Aa<r2.weight)=true->
lz w1/\lz w1/\([]:Li)=R.g/\3=R.e/\Aa=Aa/\w1=(eL (addL Aa (tL w1) (unT p1)).l))/\
(decide (Aa<r2.weight)=false->
(TL (unT p1))/\lz w1/\(w1.length<=4294967295)/\let v5:List wA:=[wA.mk ((unT p1).wN) ((unT p1).wD) ((unT p1).wB) ((unT p1).wH) ((unT p1).wG) ((unT p1).Fee) ((unT p1).wI) ((unT p1).wM) ((unT p1).wJ) ((unT p1).wK) r2.id r2.weight]
lz w1/\lz v5/\(w1.length+v5.length)*144<=140737488355328/\w1.length+v5.length<=maxLen/\lz (w1++v5)/\(GL (w1++v5)/\(w1++v5).length<=1099511627776)/\lz w1/\(EL w1)/\let v6:Int:=i64.wrap ((wL (tL w1))+r2.weight)
(([]:Li)=([]:Li))/\∃(I1:Int->Int->Int->(List wA)->(Li)->Prop) (M1:Int->Int->Int->(List wA)->(Li)->Nat),I1 (0:Int) ((w1++v5).length:Int) v6 (insS (w1++v5) 0 (w1++v5).length) ([]:Li)/\∀b1 f1 i1 k1 l1,(I1 b1 f1 i1 k1 l1->
(decide (Aa<i1)=true->
(0<=i64.wrap ((f1.toNat:Int)-1)/\i64.wrap ((f1.toNat:Int)-1)<(f1.toNat:Int))/\(0<=((b1.toNat:Int)+i64.wrap ((f1.toNat:Int)-1))/\((b1.toNat:Int)+i64.wrap ((f1.toNat:Int)-1))<(k1.length:Int))/\let v7:Int:=(ix k1 ((b1.toNat:Int)+i64.wrap ((f1.toNat:Int)-1))).id
((v7==r2.id)=true->
lz w1/\lz w1/\([]:Li)=R.g/\16=R.e/\Aa=Aa/\w1=(eL (addL Aa (tL w1) (unT p1)).l))/\
((v7==r2.id)=false->
let v8:Int:=(ix k1 ((b1.toNat:Int)+i64.wrap ((f1.toNat:Int)-1))).id
lz l1/\(l1.length+[v8].length)*8<=140737488355328/\l1.length+[v8].length<=maxLen/\let v9:Int:=(ix k1 ((b1.toNat:Int)+i64.wrap ((f1.toNat:Int)-1))).weight
(0<=i64.wrap ((f1.toNat:Int)-1))/\i64.wrap ((f1.toNat:Int)-1)<=(f1.toNat:Int)/\(l1++[v8]=l1++[v8])/\I1 (b1.toNat:Int) (((i64.wrap ((f1.toNat:Int)-1)).toNat:Nat):Int) (i64.wrap (i1-v9)) k1 (l1++[v8])/\M1 (b1.toNat:Int) (((i64.wrap ((f1.toNat:Int)-1)).toNat:Nat):Int) (i64.wrap (i1-v9)) k1 (l1++[v8])<M1 b1 f1 i1 k1 l1))/\
(decide (Aa<i1)=false->
((b1.toNat:Int).toNat=0/\(f1.toNat:Int).toNat<=k1.length/\k1.length<=4294967295)/\lz (k1.take (f1.toNat:Int).toNat)/\l1=R.g/\0=R.e/\Aa=Aa/\(k1.take (f1.toNat:Int).toNat)=(eL (addL Aa (tL w1) (unT p1)).l))))))))<|by
 rintro p1 Aa w1 h R hR;obtain⟨hW,hc,hr⟩:=h;obtain⟨L,rfl,hP,hn⟩:=hW.at
 rw[tL_eL];have hfi:idxI ((eL L).map (·.id)) (idS (unT p1))=fndL L (idS (unT p1)):=by rw[eL_id];rfl
 rw[tL_eL]at hR;have hA:=hR;rw[hR];clear hR;unfold addL at hA;refine⟨hr,fun e=> ?_,fun e=> ?_⟩
 ·have e:¬validE (unT p1)=0:=by simpa using e
  rw[ql e]at hA;subst hA;exact⟨rfl,rfl,rfl,rfl,rfl,rfl⟩
 have e:validE (unT p1)=0:=by simpa using e
 have hv:VR (unT p1):=⟨e,hr⟩;have hcl:=cfl_len L (unT p1);rw[qm (by simp[e])]at hA;rw[ql e];have hid:(eOm p1).id=idS (unT p1):=rfl;have hwt:(eOm p1).weight=weightS (unT p1):=rfl;rw[hid,hwt,hfi];refine⟨rfl,by rw[eL_len];omega,fun e2=> ?_,fun e2=> ?_⟩
 ·rw[ql (qb e2)]at hA;subst hA;exact⟨rfl,rfl,rfl,rfl,rfl,rfl⟩
 have e2:=qc e2;rw[qm e2]at hA;refine⟨rfl,⟨⟨(unT p1),rfl,hv⟩,hW.el⟩,fun e3=> ?_,fun e3=> ?_⟩
 ·have e3:=qb e3;have e3:cfl L (unT p1)≠[]:=by intro q;rw[show tOf (unE (eOm p1))=unT p1 from rfl,q]at e3;simp at e3
  rw[ql e3]at hA;subst hA;exact⟨rfl,rfl,rfl,rfl,rfl,rfl⟩
 have e3:=qc e3;have e3:¬cfl L (unT p1)≠[]:=by intro q;have:=qcj.2 q;rw[show tOf (unE (eOm p1))=unT p1 from rfl]at e3;omega
 rw[qm e3]at hA;refine⟨fun e4=> ?_,fun e4=> ?_⟩
 ·rw[ql (qb e4)]at hA;subst hA;exact⟨rfl,rfl,rfl,rfl,rfl,rfl⟩
 rw[qm (qc e4)]at hA;have hni:idS (unT p1)∉L.map idS:=fun q=>e2 ((fnd_has _ _).2 q);have hpp:=hP.put hv hni (Decidable.not_not.1 e3);have hpl:=put_len L (unT p1);obtain⟨i1,i2⟩:=ins_put hP.v hP.s hP.i hv hni;have hw1:=wL_tb hP.v qqo L.length;rw[qbu]at hw1;have hwp:wL (putL L (unT p1))=wL L+weightS (unT p1):=by rw[wL_perm (k3h L (unT p1))];unfold wL;rw[qx,qel];omega
 have hwb:=k2i hv;have el1:(eL L++[eOf (unT p1)]).length=L.length+1:=by simp
 refine⟨hv.tl,rfl,by rw[eL_len];omega,?_⟩;dsimp only;rw[show wA.mk (unT p1).wN (unT p1).wD (unT p1).wB (unT p1).wH (unT p1).wG (unT p1).Fee (unT p1).wI (unT p1).wM (unT p1).wJ (unT p1).wK (idS (unT p1)) (weightS (unT p1))=eOf (unT p1)from rfl,i2,eL_len,qah,wi (wL L+weightS (unT p1)) qqo qqo,<-hwp,el1];generalize putL L (unT p1)=M at *
 have hMw:=wL_tb hpp.v qqo;refine⟨rfl,rfl,by omega,by unfold maxLen;omega,rfl,⟨i1,by omega⟩,rfl,hW.el,rfl,?_⟩;refine⟨(fun b f i k l=>b=0/\k=eL M/\∃j:Nat,f=(j:Int)/\j<=M.length/\i=wL (M.take j)/\l.length<=M.length-j/\evL Aa (idS (unT p1)) M M.length []=evL Aa (idS (unT p1)) M j l),fun _ f _ _ _=>f.toNat,⟨rfl,rfl,M.length,by omega,qr _,by rw[qbu],by simp,rfl⟩,?_⟩;rintro _ _ _ _ f ⟨rfl,rfl,j,rfl,g1,rfl,g2,g3⟩;have hMj:=hMw j;refine⟨fun q=> ?_,fun q=> ?_⟩
 ·have q:=qb q
  have hj0:0<j:=by
   cases j with
   |zero=>simp[wL]at q;omega
   |succ j=>omega
  obtain⟨k,rfl⟩:∃k,j=k+1:=⟨j-1,by omega⟩;have hk:k<M.length:=by omega
  have ew:wL (M.take (k+1))=wL (M.take k)+weightS M[k]:=wL_take hk;have hMk:=hMw k;have hx2:ix M ((k:Nat):Int)=M[k]:=ix_get _ _ hk;rw[evL,ql q,hx2]at g3;rw[show(0:Int).toNat=0 from rfl,qac,wi (((k+1:Nat):Int)-1) qqo qqo,show(((0:Nat):Int)+(((k+1:Nat):Int)-1))=(k:Int)by omega,show(((k+1:Nat):Int)-1)=(k:Int)by omega,eL_ix hk,eL_len];have hi2:(eOf M[k]).id=idS M[k]:=rfl;have hw2:(eOf M[k]).weight=weightS M[k]:=rfl;dsimp only;rw[hi2,hw2,ew,show wL (M.take k)+weightS M[k]-weightS M[k]=wL (M.take k)by omega,wi (wL (M.take k)) qqo qqo];refine⟨⟨by omega,by omega⟩,⟨by omega,by omega⟩,fun r=> ?_,fun r=>⟨rfl,?_,?_,by omega,by omega,rfl,⟨rfl,rfl,k,rfl,by omega,rfl,?_,?_⟩,?_⟩⟩
  ·have r:idS M[k]=idS (unT p1):=by simpa using r
   rw[ql r]at g3;rw[g3]at hA;subst hA;exact⟨rfl,rfl,rfl,rfl,rfl,rfl⟩
  ·rw[qah];omega
  ·rw[qah];unfold maxLen;omega
  ·rw[qj,qah];omega
  ·have r:¬idS M[k]=idS (unT p1):=by simpa using r
   rw[g3,qm r]
  ·omega
 ·have q:=qc q
  have hE:evL Aa (idS (unT p1)) M j f=⟨true,f,j⟩:=by
   cases j with
   |zero=>rfl
   |succ k=>rw[evL,qm q]
  rw[g3,hE,ql rfl]at hA;subst hA;refine⟨⟨rfl,by rw[eL_len];omega,by rw[eL_len];omega⟩,rfl,rfl,rfl,rfl,?_⟩;rw[qac,qac];simp[eL]
def pcC_st (t:wC) (m:wV) (g:wx) (c:Int) (L:List wA):TSt TB.den:=⟨[(5,.ro [⟨.int .u64,(t.wN:Int)⟩,⟨.sl yqu,(t.wD:Li)⟩,⟨.sl (.st 0),(t.wB:List wR)⟩,⟨.int .u64,(t.wH:Int)⟩,⟨.int .u64,(t.wG:Int)⟩,⟨.int .u64,(t.Fee:Int)⟩,⟨.int .u64,(t.wI:Int)⟩,⟨.int .u64,(t.wM:Int)⟩,⟨.int .i64,(t.wJ:Int)⟩,⟨.sl yqb,(t.wK:Li)⟩]),(7,.ptr 0 0),(8,.ro [⟨.int .i64,(m.wE:Int)⟩,⟨.sl (.st 2),(m.L:List wC)⟩]),(10,.ro [⟨.int .u64,(g.wN:Int)⟩,⟨.ms yqu,(g.wD:Bool×Li)⟩,⟨.ms (.st 8),(g.wB:Bool×List wa)⟩,⟨.int .u64,(g.wH:Int)⟩,⟨.int .u64,(g.wG:Int)⟩,⟨.int .u64,(g.Fee:Int)⟩,⟨.int .u64,(g.wI:Int)⟩,⟨.int .u64,(g.wM:Int)⟩,⟨.int .i64,(g.wJ:Int)⟩,⟨.ms yqb,(g.wK:Bool×Li)⟩])],[(0,.cells [tvd yqi (c:Int),.row 1 (.st 3) (L.length)]),(1,.vec (.st 3) (L:List wA))],2⟩
def pcC_dl:Dl:=⟨[0],[.cells [zqi,.row 2],.cells yJ,.vec (.st 3)],[11],[.one (.ptr 1 0)],[1]⟩
def pcC_nt:Nt:= .no
def pcC_cn:List (Ct):=[k66,k9p]
theorem pcC_cs:AllC Tryz.prog TB pcC_cn:=kee.c (kb4.c c0)
theorem pcC_e:(∀(t:wC) (m:wV) (g:wx) (c:Int) (L:List wA) (J:Ar TB.den pcC_dl.hs Prop),((PL m.L/\m.L.length<=1000/\0<=m.wE)/\TR t/\TL t/\L=eL m.L/\c=m.wE/\unT g=t)->(∀(h0 h1:Int) (h2:List wC) (h3:List wA),(h0=m.wE/\h2=(addL m.wE m.L t).l/\h3=eL (addL m.wE m.L t).l)->J h0 h1 h2 h3)->WQL TB ⟨inf,pcC_cn,[],16,[]⟩ 136 (itA 2 (itR 6 body)) pcC_nt (pcC_st t m g c L) (pieceQ TB 6 pcC_dl (pcC_st t m g c L) J))=(∀(t:wC) (m:wV) (g:wx) (c:Int) (L:List wA) (J:Int->Int->(List wC)->(List wA)->Prop),((PL m.L/\m.L.length<=1000/\0<=m.wE)/\TR t/\TL t/\L=eL m.L/\c=m.wE/\unT g=t)->(∀(h0 h1:Int) (h2:List wC) (h3:List wA),(h0=m.wE/\h2=(addL m.wE m.L t).l/\h3=eL (addL m.wE m.L t).l)->J h0 h1 h2 h3)->
((PL m.L/\m.L.length<=1000/\0<=m.wE)/\TR t/\TL t)/\lz L/\(PW L/\0<=c/\TR (unT g))/\let v51:Bool:=(((addL m.wE m.L t).e) !=((addL c (tL L) (unT g)).e))
(v51=true->
false=true)/\
(v51=false->
lz (eL (addL c (tL L) (unT g)).l)/\J c m.wE ((addL m.wE m.L t).l) (eL (addL c (tL L) (unT g)).l))):=by kernel_rfl
theorem pcC_q:∀(t:wC) (m:wV) (g:wx) (c:Int) (L:List wA) (J:Int->Int->(List wC)->(List wA)->Prop),((PL m.L/\m.L.length<=1000/\0<=m.wE)/\TR t/\TL t/\L=eL m.L/\c=m.wE/\unT g=t)->(∀(h0 h1:Int) (h2:List wC) (h3:List wA),(h0=m.wE/\h2=(addL m.wE m.L t).l/\h3=eL (addL m.wE m.L t).l)->J h0 h1 h2 h3)->
((PL m.L/\m.L.length<=1000/\0<=m.wE)/\TR t/\TL t)/\lz L/\(PW L/\0<=c/\TR (unT g))/\let v51:Bool:=(((addL m.wE m.L t).e) !=((addL c (tL L) (unT g)).e))
(v51=true->
false=true)/\
(v51=false->
lz (eL (addL c (tL L) (unT g)).l)/\J c m.wE ((addL m.wE m.L t).l) (eL (addL c (tL L) (unT g)).l)):=by rintro t m g c L J h kJ;obtain⟨hm,h1,h2,rfl,rfl,h3⟩:=h;rw[h3,tL_eL];refine⟨⟨hm,h1,h2⟩,rfl,⟨PW.of hm.1 hm.2.1,hm.2.2,h1⟩,fun e=> ?_,fun _=>⟨rfl,kJ _ _ _ _ ⟨rfl,rfl,rfl⟩⟩⟩;rw[bne_self_eq_false]at e;exact e
theorem pcC_w:∀(t:wC) (m:wV) (g:wx) (c:Int) (L:List wA) (J:Ar TB.den pcC_dl.hs Prop),((PL m.L/\m.L.length<=1000/\0<=m.wE)/\TR t/\TL t/\L=eL m.L/\c=m.wE/\unT g=t)->(∀(h0 h1:Int) (h2:List wC) (h3:List wA),(h0=m.wE/\h2=(addL m.wE m.L t).l/\h3=eL (addL m.wE m.L t).l)->J h0 h1 h2 h3)->WQL TB ⟨inf,pcC_cn,[],16,[]⟩ 136 (itA 2 (itR 6 body)) pcC_nt (pcC_st t m g c L) (pieceQ TB 6 pcC_dl (pcC_st t m g c L) J):=pcC_e.mpr pcC_q
noncomputable def k55:Ct:= .g ⟨10,[.one (.ptr 0 0)],[.cells [zqi,.row 1],.vec (.st 10)],(.one (.one (.row 2))),[.cells [zqi,.row 1],.vec (.st 10),.vec (.st 2)],false⟩ [yqi,.sl (.st 10)] [yqi,.sl (.st 10),.sl (.st 2)] [] fun(Aa:Int) (w1:List wc)=>(EL (w1.map unE),Aa,w1,(tL (w1.map unE):List wC),())
theorem kch:k55.O:=prx Bs_0_3 [25,26] Tryz.func10 (.r 1 (.nd [] (.r 0 (.lp [] ⟨[],[.vec (.st 2)],[3,17],[.one (.row 0),.one (zqi)],[2]⟩ .no)) [] .no)) x0 (k3t.c c0) (Q:=∀(Aa:Int) (w1:List wc),(EL (w1.map unE))->∀Ac:Int,Aa=Ac->∀e1:List wc,w1=e1->∀e2:List wC,(tL (w1.map unE))=e2-> 
0<=(0:Int)/\(0:Int)<=(w1.length:Int)/\((w1.length:Int).toNat*128<=140737488355328)/\((w1.length:Int).toNat<=maxLen)/\(0=(List.replicate 0 (default:wC)).length)/\∃(I1:Int->(List wC)->Prop) (M1:Int->(List wC)->Nat),I1 0 (List.replicate 0 (default:wC))/\∀b1 f1,(I1 b1 f1->
(decide (b1<(w1.length:Int))=true->
(0<=b1/\b1<(w1.length:Int))/\(0<=b1/\b1<(w1.length:Int))/\(TL (unT (wx.mk ((ix w1 b1).wm) ((ix w1 b1).wQ) ((ix w1 b1).wy) ((ix w1 b1).wS) ((ix w1 b1).wd) ((ix w1 b1).wU) ((ix w1 b1).wT) ((ix w1 b1).wX) ((ix w1 b1).wn) ((ix w1 b1).wq))))/\let r1:=unT (wx.mk ((ix w1 b1).wm) ((ix w1 b1).wQ) ((ix w1 b1).wy) ((ix w1 b1).wS) ((ix w1 b1).wd) ((ix w1 b1).wU) ((ix w1 b1).wT) ((ix w1 b1).wX) ((ix w1 b1).wn) ((ix w1 b1).wq))
lz f1/\lz [r1]/\(f1.length+[r1].length)*128<=140737488355328/\f1.length+[r1].length<=maxLen/\lz (f1++[r1])/\I1 (i64.wrap (b1+1)) (f1++[r1])/\M1 (i64.wrap (b1+1)) (f1++[r1])<M1 b1 f1)/\
(decide (b1<(w1.length:Int))=false->
lz w1/\lz f1/\Aa=Ac/\w1=e1/\f1=e2)))<|by
 rintro Aa w1 h _ rfl _ rfl _ rfl;obtain⟨L,hw,hL,hn⟩:=h.at
 have hlen:w1.length=L.length:=by rw[<-eL_len L,<-hw,qf]
 rw[hw,tL_eL,hlen];have e0:List.replicate 0 (default:wC)=[]:=rfl;rw[e0];refine⟨by omega,by omega,by omega,by unfold maxLen;omega,rfl,?_⟩;refine⟨(fun i f=>∃k:Nat,i=(k:Int)/\k<=L.length/\f=L.take k),fun i _=>(L.length-i).toNat,⟨0,rfl,by omega,rfl⟩,?_⟩;rintro _ _ ⟨k,rfl,g1,rfl⟩;refine⟨fun e=> ?_,fun e=> ?_⟩
 ·have e:k<L.length:=by have:=qb e;omega
  have hv:=hL _ (qab e);have hu:unE (ix w1 (k:Int))=eOf L[k]:=by have h1:=eL_ix (L:=L) e;rw[<-hw,ix_get _ _ (by rw[qf];omega),List.getElem_map]at h1;rw[ix_get _ _ qqo];exact h1
  generalize ix w1 (k:Int)=x at hu ⊢;have hT:unT (wx.mk x.wm x.wQ x.wy x.wS x.wd x.wU x.wT x.wX x.wn x.wq)=L[k]:=by rw[<-tOf_eOf L[k],<-hu];rfl
  rw[hT,inc_i64 _ qqo];have hl:(L.take k).length=k:=by rw[qn];omega
  refine⟨by omega,by omega,hv.tl,rfl,rfl,?_,?_,rfl,⟨k+1,rfl,by omega,?_⟩,by(dsimp only;omega)⟩
  ·rw[hl,qah];omega
  ·rw[hl,qah];unfold maxLen;omega
  ·rw[qu e]
 ·have e:k=L.length:=by have:=qc e;omega
  rw[qi qqo];exact⟨rfl,rfl,rfl,rfl,rfl⟩
def pcD_st (g:wC) (c:Int) (L:List wc) (v11:Value):TSt TB.den:=⟨[(7,.ptr 0 0),(10,.ro [⟨.int .u64,(g.wN:Int)⟩,⟨.sl yqu,(g.wD:Li)⟩,⟨.sl (.st 0),(g.wB:List wR)⟩,⟨.int .u64,(g.wH:Int)⟩,⟨.int .u64,(g.wG:Int)⟩,⟨.int .u64,(g.Fee:Int)⟩,⟨.int .u64,(g.wI:Int)⟩,⟨.int .u64,(g.wM:Int)⟩,⟨.int .i64,(g.wJ:Int)⟩,⟨.sl yqb,(g.wK:Li)⟩]),(11,.k v11)],[(0,.cells [tvd yqi (c:Int),.row 1 (.st 10) (L.length)]),(1,.vec (.st 10) (L:List wc))],2⟩
def pcD_dl:Dl:=⟨[1,0],[.vec (.st 10),.cells [zqi,.row 0],.vec (.st 2)],[60,61,62],[.one (.row 2),.one (zqi),.one (zqi)],[]⟩
def pcD_nt:Nt:= .no
def pcD_cn:List (Ct):=[k55]
theorem pcD_cs:AllC Tryz.prog TB pcD_cn:=kch.c c0
theorem pcD_e:(∀(g:wC) (c:Int) (L:List wc) (v11:Value) (J:Ar TB.den pcD_dl.hs Prop),(EL (L.map unE))->(∀(h0 h1 h2:Int) (h3:List wc) (h4:List wC),(h0=(h4.length:Int)/\h1=0/\h2=c/\h3=L/\h4=tL (L.map unE)++[g])->J h0 h1 h2 h3 h4)->WQL TB ⟨inf,pcD_cn,[],16,[]⟩ 136 [sqA (itR 8 body)] pcD_nt (pcD_st g c L v11) (pieceQ TB 6 pcD_dl (pcD_st g c L v11) J))=(∀(g:wC) (c:Int) (L:List wc) (v11:Value) (J:Int->Int->Int->(List wc)->(List wC)->Prop),(EL (L.map unE))->(∀(h0 h1 h2:Int) (h3:List wc) (h4:List wC),(h0=(h4.length:Int)/\h1=0/\h2=c/\h3=L/\h4=tL (L.map unE)++[g])->J h0 h1 h2 h3 h4)->
lz L/\(EL (L.map unE))/\lz (tL (L.map unE))/\((tL (L.map unE)).length+[g].length)*128<=140737488355328/\(tL (L.map unE)).length+[g].length<=maxLen/\lz L/\lz ((tL (L.map unE))++[g])/\J (((tL (L.map unE))++[g]).length:Int) 0 c L ((tL (L.map unE))++[g])):=by kernel_rfl
theorem pcD_q:∀(g:wC) (c:Int) (L:List wc) (v11:Value) (J:Int->Int->Int->(List wc)->(List wC)->Prop),(EL (L.map unE))->(∀(h0 h1 h2:Int) (h3:List wc) (h4:List wC),(h0=(h4.length:Int)/\h1=0/\h2=c/\h3=L/\h4=tL (L.map unE)++[g])->J h0 h1 h2 h3 h4)->
lz L/\(EL (L.map unE))/\lz (tL (L.map unE))/\((tL (L.map unE)).length+[g].length)*128<=140737488355328/\(tL (L.map unE)).length+[g].length<=maxLen/\lz L/\lz ((tL (L.map unE))++[g])/\J (((tL (L.map unE))++[g]).length:Int) 0 c L ((tL (L.map unE))++[g]):=by
 rintro g c L v11 J h kJ;have hn:=h.n;rw[qf]at hn;have hl:(tL (L.map unE)).length=L.length:=by simp[tL]
 have h1:[g].length=1:=rfl;refine⟨rfl,h,rfl,by omega,by unfold maxLen;omega,rfl,rfl,kJ _ _ _ _ _ ⟨rfl,rfl,rfl,rfl,rfl⟩⟩
theorem pcD_w:∀(g:wC) (c:Int) (L:List wc) (v11:Value) (J:Ar TB.den pcD_dl.hs Prop),(EL (L.map unE))->(∀(h0 h1 h2:Int) (h3:List wc) (h4:List wC),(h0=(h4.length:Int)/\h1=0/\h2=c/\h3=L/\h4=tL (L.map unE)++[g])->J h0 h1 h2 h3 h4)->WQL TB ⟨inf,pcD_cn,[],16,[]⟩ 136 [sqA (itR 8 body)] pcD_nt (pcD_st g c L v11) (pieceQ TB 6 pcD_dl (pcD_st g c L v11) J):=pcD_e.mpr pcD_q
def pcE_st (l:List wAC) (n i:Int) (v7 v11:Value):TSt TB.den:=⟨[(7,.k v7),(11,.k v11),(60,tvd (.sl (.st 12)) (l:List wAC)),(61,tvd yqi (n:Int)),(62,tvd yqi (i:Int))],[],0⟩
def pcE_dl:Dl:=⟨[],[],[62],[.one (.any)],[]⟩
def pcE_nt:Nt:=(.nd [] (.lp [] ⟨[],[],[62],[.one (zqi)],[]⟩ (.r 1 (.nd [] (.r 0 (.nd [] (.r 0 (.lp [] ⟨[],[],[69],[.one (zqi)],[]⟩ .no)) [] (.nd [] (.r 0 (.lp [] ⟨[],[],[83],[.one (zqi)],[]⟩ .no)) [] (.r 0 (.lp [] ⟨[],[],[97],[.one (zqi)],[]⟩ (.r 1 (.nd [] (.r 2 (.lp [] ⟨[],[],[116],[.one (zqi)],[]⟩ .no)) [] .no))))))) [] .no))) [] .no)
def pcE_cn:List (Ct):=[]
theorem pcE_cs:AllC Tryz.prog TB pcE_cn:=c0
theorem pcE_e:(∀(l:List wAC) (n i:Int) (v7 v11:Value) (J:Ar TB.den pcE_dl.hs Prop),(n=(l.length:Int)/\i=0/\l.length<=200000/\∀x∈l,JL x)->(True->J)->WQL TB ⟨k6u,pcE_cn,[],17,[]⟩ 136 [sqB (itR 8 body)] pcE_nt (pcE_st l n i v7 v11) (pieceQ TB 6 pcE_dl (pcE_st l n i v7 v11) J))=(∀(l:List wAC) (n i:Int) (v7 v11:Value) (J:Prop),(n=(l.length:Int)/\i=0/\l.length<=200000/\∀x∈l,JL x)->(True->J)->
∃(I1:Int->Prop) (M1:Int->Nat),I1 i/\∀b1,(I1 b1->
(decide (b1<n)=true->
(0<=b1)/\b1<(l.length:Int)/\∃(I2:Int->Prop) (M2:Int->Nat),I2 0/\∀f1,(I2 f1->
let v51:Bool:=decide (f1<(((ix l b1).wD).length:Int))
(v51=true->
(0<=f1)/\f1<(((ix l b1).wD).length:Int)/\(0<=f1)/\f1<(((ix l b1).wD).length:Int)/\I2 (i64.wrap (f1+1))/\M2 (i64.wrap (f1+1))<M2 f1)/\
(v51=false->
∃(I3:Int->Prop) (M3:Int->Nat),I3 0/\∀i1,(I3 i1->
let v52:Bool:=decide (i1<(((ix l b1).wK).length:Int))
(v52=true->
(0<=i1)/\i1<(((ix l b1).wK).length:Int)/\(0<=i1)/\i1<(((ix l b1).wK).length:Int)/\I3 (i64.wrap (i1+1))/\M3 (i64.wrap (i1+1))<M3 i1)/\
(v52=false->
∃(I4:Int->Prop) (M4:Int->Nat),I4 0/\∀k1,(I4 k1->
let v53:Bool:=decide (k1<(((ix l b1).wB).length:Int))
(v53=true->
(0<=k1)/\k1<(((ix l b1).wB).length:Int)/\(0<=k1)/\k1<(((ix l b1).wB).length:Int)/\(0<=k1)/\k1<(((ix l b1).wB).length:Int)/\let v54:Int:=(((ix ((ix l b1).wB) k1).wF).length:Int)
∃(I5:Int->Prop) (M5:Int->Nat),I5 0/\∀l1,(I5 l1->
(decide (l1<v54)=true->
(0<=k1)/\k1<(((ix l b1).wB).length:Int)/\(0<=l1)/\l1<(((ix ((ix l b1).wB) k1).wF).length:Int)/\(0<=l1)/\l1<(((ix ((ix l b1).wB) k1).wF).length:Int)/\I5 (i64.wrap (l1+1))/\M5 (i64.wrap (l1+1))<M5 l1)/\
(decide (l1<v54)=false->
I4 (i64.wrap (k1+1))/\M4 (i64.wrap (k1+1))<M4 k1)))/\
(v53=false->
I1 (i64.wrap (b1+1))/\M1 (i64.wrap (b1+1))<M1 b1)))))))/\
(decide (b1<n)=false->
J))):=by kernel_rfl
theorem pcE_q:∀(l:List wAC) (n i:Int) (v7 v11:Value) (J:Prop),(n=(l.length:Int)/\i=0/\l.length<=200000/\∀x∈l,JL x)->(True->J)->
∃(I1:Int->Prop) (M1:Int->Nat),I1 i/\∀b1,(I1 b1->
(decide (b1<n)=true->
(0<=b1)/\b1<(l.length:Int)/\∃(I2:Int->Prop) (M2:Int->Nat),I2 0/\∀f1,(I2 f1->
let v51:Bool:=decide (f1<(((ix l b1).wD).length:Int))
(v51=true->
(0<=f1)/\f1<(((ix l b1).wD).length:Int)/\(0<=f1)/\f1<(((ix l b1).wD).length:Int)/\I2 (i64.wrap (f1+1))/\M2 (i64.wrap (f1+1))<M2 f1)/\
(v51=false->
∃(I3:Int->Prop) (M3:Int->Nat),I3 0/\∀i1,(I3 i1->
let v52:Bool:=decide (i1<(((ix l b1).wK).length:Int))
(v52=true->
(0<=i1)/\i1<(((ix l b1).wK).length:Int)/\(0<=i1)/\i1<(((ix l b1).wK).length:Int)/\I3 (i64.wrap (i1+1))/\M3 (i64.wrap (i1+1))<M3 i1)/\
(v52=false->
∃(I4:Int->Prop) (M4:Int->Nat),I4 0/\∀k1,(I4 k1->
let v53:Bool:=decide (k1<(((ix l b1).wB).length:Int))
(v53=true->
(0<=k1)/\k1<(((ix l b1).wB).length:Int)/\(0<=k1)/\k1<(((ix l b1).wB).length:Int)/\(0<=k1)/\k1<(((ix l b1).wB).length:Int)/\let v54:Int:=(((ix ((ix l b1).wB) k1).wF).length:Int)
∃(I5:Int->Prop) (M5:Int->Nat),I5 0/\∀l1,(I5 l1->
(decide (l1<v54)=true->
(0<=k1)/\k1<(((ix l b1).wB).length:Int)/\(0<=l1)/\l1<(((ix ((ix l b1).wB) k1).wF).length:Int)/\(0<=l1)/\l1<(((ix ((ix l b1).wB) k1).wF).length:Int)/\I5 (i64.wrap (l1+1))/\M5 (i64.wrap (l1+1))<M5 l1)/\
(decide (l1<v54)=false->
I4 (i64.wrap (k1+1))/\M4 (i64.wrap (k1+1))<M4 k1)))/\
(v53=false->
I1 (i64.wrap (b1+1))/\M1 (i64.wrap (b1+1))<M1 b1)))))))/\
(decide (b1<n)=false->
J)):=by
 rintro l n i v7 v11 J h kJ;obtain⟨rfl,rfl,hn,hl⟩:=h;refine⟨(fun i=>∃k:Nat,i=(k:Int)/\k<=l.length),fun i=>(l.length-i).toNat,⟨0,rfl,by omega⟩,?_⟩;rintro _ ⟨k,rfl,g1⟩;refine⟨fun e=> ?_,fun _=>kJ trivial⟩;have e:k<l.length:=by have:=qb e;omega
 rw[ix_get _ _ e,inc_i64 _ qqo];obtain⟨a1,a2,a3,a4⟩:=hl _ (qab e);generalize l[k]=x at *
 refine⟨by omega,by omega,(fun i=>∃k:Nat,i=(k:Int)/\k<=x.wD.length),fun i=>(x.wD.length-i).toNat,⟨0,rfl,by omega⟩,?_⟩;rintro _ ⟨j,rfl,g2⟩;refine⟨fun e2=> ?_,fun _=> ?_⟩
 ·have e2:j<x.wD.length:=by have:=qb e2;omega
  rw[inc_i64 _ qqo];exact⟨by omega,by omega,by omega,by omega,⟨j+1,rfl,by omega⟩,by(dsimp only;omega)⟩
 refine⟨(fun i=>∃k:Nat,i=(k:Int)/\k<=x.wK.length),fun i=>(x.wK.length-i).toNat,⟨0,rfl,by omega⟩,?_⟩;rintro _ ⟨j,rfl,g2⟩;refine⟨fun e2=> ?_,fun _=> ?_⟩
 ·have e2:j<x.wK.length:=by have:=qb e2;omega
  rw[inc_i64 _ qqo];exact⟨by omega,by omega,by omega,by omega,⟨j+1,rfl,by omega⟩,by(dsimp only;omega)⟩
 refine⟨(fun i=>∃k:Nat,i=(k:Int)/\k<=x.wB.length),fun i=>(x.wB.length-i).toNat,⟨0,rfl,by omega⟩,?_⟩;rintro _ ⟨j,rfl,g2⟩;refine⟨fun e2=> ?_,fun _=> ?_⟩
 ·have e2:j<x.wB.length:=by have:=qb e2;omega
  have hc:=a4 _ (qab e2);rw[ix_get _ _ e2,inc_i64 _ qqo];generalize x.wB[j]=y at *
  refine⟨by omega,by omega,by omega,by omega,by omega,by omega,(fun i=>∃k:Nat,i=(k:Int)/\k<=y.wF.length),fun i=>(y.wF.length-i).toNat,⟨0,rfl,by omega⟩,?_⟩;rintro _ ⟨u,rfl,g3⟩;refine⟨fun e3=> ?_,fun _=>⟨⟨j+1,rfl,by omega⟩,by(dsimp only;omega)⟩⟩;have e3:u<y.wF.length:=by have:=qb e3;omega
  rw[inc_i64 _ qqo];exact⟨by omega,by omega,by omega,by omega,by omega,by omega,⟨u+1,rfl,by omega⟩,by(dsimp only;omega)⟩
 ·exact⟨⟨k+1,rfl,by omega⟩,by(dsimp only;omega)⟩
theorem pcE_w:∀(l:List wAC) (n i:Int) (v7 v11:Value) (J:Ar TB.den pcE_dl.hs Prop),(n=(l.length:Int)/\i=0/\l.length<=200000/\∀x∈l,JL x)->(True->J)->WQL TB ⟨k6u,pcE_cn,[],17,[]⟩ 136 [sqB (itR 8 body)] pcE_nt (pcE_st l n i v7 v11) (pieceQ TB 6 pcE_dl (pcE_st l n i v7 v11) J):=pcE_e.mpr pcE_q
noncomputable def keg:Ct:= .g (gk 10 [.one (.ptr 0 0)] yE (.one (.one (.d (.sl (.st 2)))))) yM [.sl (.st 2),yqi,.sl (.st 3)] [] fun(Aa:Int) (w1:List wA)=>(EL w1,(tL w1:List wC),Aa,w1,())
theorem kg4:keg.O:=prv Bs Tryz.func10 (.r 1 (.nd [] (.r 0 (.lp [.frz 2 [3]] ⟨[3],[.tip (.st 2)],[3,17],[.one (.own 0),.one (zqi)],[]⟩ .no)) [] .no)) (k4u.c c0) (Q:=∀(Aa:Int) (w1:List wA),(EL w1)->∀r0:List wC,tL w1=r0->∀Ac:Int,Aa=Ac->∀e1:List wA,w1=e1-> 
0<=(0:Int)/\(0:Int)<=(w1.length:Int)/\((w1.length:Int).toNat*128<=140737488355328)/\((w1.length:Int).toNat<=maxLen)/\(0=(List.replicate 0 (default:wC)).length)/\(List.replicate 0 (default:wC)=List.replicate 0 (default:wC))/\∃(I1:Int->(List wC)->Prop) (M1:Int->(List wC)->Nat),I1 0 (List.replicate 0 (default:wC))/\∀b1 f1,(I1 b1 f1->
(decide (b1<(w1.length:Int))=true->
(0<=b1/\b1<(w1.length:Int))/\(0<=b1/\b1<(w1.length:Int))/\(TL (wC.mk ((ix w1 b1).wm) ((ix w1 b1).wQ) ((ix w1 b1).wy) ((ix w1 b1).wS) ((ix w1 b1).wd) ((ix w1 b1).wU) ((ix w1 b1).wT) ((ix w1 b1).wX) ((ix w1 b1).wn) ((ix w1 b1).wq)))/\let v1:List wC:=[wC.mk ((ix w1 b1).wm) ((ix w1 b1).wQ) ((ix w1 b1).wy) ((ix w1 b1).wS) ((ix w1 b1).wd) ((ix w1 b1).wU) ((ix w1 b1).wT) ((ix w1 b1).wX) ((ix w1 b1).wn) ((ix w1 b1).wq)]
lz f1/\(f1.length+v1.length)*128<=140737488355328/\f1.length+v1.length<=maxLen/\(f1++v1=f1++v1)/\I1 (i64.wrap (b1+1)) (f1++v1)/\M1 (i64.wrap (b1+1)) (f1++v1)<M1 b1 f1)/\
(decide (b1<(w1.length:Int))=false->
lz w1/\f1=r0/\Aa=Ac/\w1=e1)))<|by
 rintro Aa w1 h _ rfl _ rfl _ rfl;obtain⟨L,rfl,hL,hn⟩:=h.at
 rw[tL_eL,eL_len];have e0:List.replicate 0 (default:wC)=[]:=rfl;rw[e0];refine⟨by omega,by omega,by omega,by unfold maxLen;omega,rfl,rfl,?_⟩;refine⟨(fun i f=>∃k:Nat,i=(k:Int)/\k<=L.length/\f=L.take k),fun i _=>(L.length-i).toNat,⟨0,rfl,by omega,rfl⟩,?_⟩;rintro _ _ ⟨k,rfl,g1,rfl⟩;refine⟨fun e=> ?_,fun e=> ?_⟩
 ·have e:k<L.length:=by have:=qb e;omega
  have hv:=hL _ (qab e);rw[eL_ix e,inc_i64 _ qqo];have hl:(L.take k).length=k:=by rw[qn];omega
  refine⟨by omega,by omega,hv.tl,rfl,?_,?_,rfl,⟨k+1,rfl,by omega,?_⟩,by(dsimp only;omega)⟩
  ·rw[hl,qah];omega
  ·rw[hl,qah];unfold maxLen;omega
  ·rw[qu e];rfl
 ·have e:k=L.length:=by have:=qc e;omega
  rw[qi qqo];exact⟨rfl,rfl,rfl,rfl⟩
noncomputable def k95:Ct:= .gp 79 [.sl yqb,.sl yqb] [.bool] [] fun(p0 p1:Li)=>(p0.length<=9223372036854775807,(decide (p0=p1):Bool),())
theorem kas:k95.O:=qrv Bs Tryz.func79 (.r 1 (.nd [] (.r 0 (.lp [] ⟨[],[],[5],[.one (zqi)],[]⟩ .no)) [] .no)) c0 (Q:=∀(p0 p1:Li),(p0.length<=9223372036854775807)->∀r0:Bool,(decide (p0=p1))=r0-> 
(((p0.length:Int) !=(p1.length:Int))=true->
false=r0)/\
(((p0.length:Int) !=(p1.length:Int))=false->
∃(I1:Int->Prop) (M1:Int->Nat),I1 0/\∀b1,(I1 b1->
(decide (b1<(p0.length:Int))=true->
(0<=b1)/\b1<(p0.length:Int)/\(0<=b1)/\b1<(p1.length:Int)/\(((ix p0 b1) !=(ix p1 b1))=true->
false=r0)/\
(((ix p0 b1) !=(ix p1 b1))=false->
I1 (i64.wrap (b1+1))/\M1 (i64.wrap (b1+1))<M1 b1))/\
(decide (b1<(p0.length:Int))=false->
true=r0))))<|by
 rintro p0 p1 h _ rfl;refine⟨fun e=> ?_,fun e=> ?_⟩
 ·have e:¬(p0.length:Int)=p1.length:=by simpa using e
  rw[qaf (by rintro rfl;exact e rfl)]
 ·have e:(p0.length:Int)=p1.length:=by simpa using e
  refine⟨(fun i=>0<=i/\i<=p0.length/\p0.take i.toNat=p1.take i.toNat),(fun i=>(p0.length-i).toNat),⟨by omega,by omega,by simp⟩,?_⟩;rintro i ⟨g0,g1,g2⟩;refine⟨fun hh=> ?_,fun hh=> ?_⟩
  ·have hh:=qb hh;refine⟨g0,hh,g0,by omega,fun e2=> ?_,fun e2=> ?_⟩
   ·have e2:¬ix p0 i=ix p1 i:=by simpa using e2
    rw[qaf (by rintro rfl;exact e2 rfl)]
   ·have e2:ix p0 i=ix p1 i:=by simpa using e2
    rw[inc i p0.length g0 hh qqo];refine⟨⟨by omega,by omega,?_⟩,by(dsimp only;omega)⟩;rw[ke p0 i g0 hh,ke p1 i g0 qqo,g2,e2]
  ·have hh:=qc hh;rw[qi qqo,qi qqo]at g2;rw[qae g2]
noncomputable def kg0:Ct:= .gp 53 [.st 2,.st 2] [.bool] [] fun(p0 p1:wC)=>(TD p0/\TD p1,(sameT p0 p1:Bool),())
theorem kiu:kg0.O:=qrv Bs Tryz.func53 (.r 1 (.nd [] (.r 0 (.lp [] ⟨[],[],[5],[.one (zqi)],[]⟩ .no)) [] .no)) (k4e.c (kas.c c0)) (Q:=∀(p0 p1:wC),(TD p0/\TD p1)->∀r0:Bool,sameT p0 p1=r0-> 
let v1:Bool:=((p0.wB.length:Int) !=(p1.wB.length:Int))
(v1=true->
false=r0)/\
(v1=false->
((p0.wJ !=p1.wJ)=true->
false=r0)/\
((p0.wJ !=p1.wJ)=false->
∃(I1:Int->Prop) (M1:Int->Nat),I1 0/\∀b1,(I1 b1->
(decide (b1<(p0.wB.length:Int))=true->
(0<=b1)/\b1<(p0.wB.length:Int)/\(0<=b1)/\b1<(p1.wB.length:Int)/\let v2:Bool:=((((ix p0.wB b1).wF).length:Int) !=(((ix p1.wB b1).wF).length:Int))
(v2=true->
false=r0)/\
(v2=false->
I1 (i64.wrap (b1+1))/\M1 (i64.wrap (b1+1))<M1 b1))/\
(decide (b1<(p0.wB.length:Int))=false->
(TR p0/\TL p0/\p0.wB.length<=1048576/\(∀x∈p0.wB,x.wF.length<=1024))/\(TR p1/\TL p1/\p1.wB.length<=1048576/\(∀x∈p1.wB,x.wF.length<=1024))/\((encT p0 p0.wK).length<=9223372036854775807)/\let r3:Bool:=(decide ((encT p0 p0.wK)=(encT p1 p1.wK)))
r3=r0)))))<|by
 rintro p0 p1 h _ rfl;obtain⟨⟨hr,hl,ho,hc⟩,hr',hl',ho',hc'⟩:=h;refine⟨fun e=> ?_,fun e=>⟨fun e2=> ?_,fun e2=> ?_⟩⟩
 ·have e:¬((p0.wB.length:Int)=p1.wB.length):=by simpa using e
  unfold sameT;rw[qaf qqo];rfl
 ·have e2:¬p0.wJ=p1.wJ:=by simpa using e2
  unfold sameT;simp[e2]
 have e:(p0.wB.length:Int)=p1.wB.length:=by simpa using e
 have e2:p0.wJ=p1.wJ:=by simpa using e2
 refine⟨(fun i=>0<=i/\i<=p0.wB.length/\(p0.wB.take i.toNat).map (·.wF.length)=(p1.wB.take i.toNat).map (·.wF.length)),(fun i=>(p0.wB.length-i).toNat),⟨by omega,by omega,by simp⟩,?_⟩;rintro i ⟨g0,g1,g2⟩;refine⟨fun hh=> ?_,fun hh=> ?_⟩
 ·have hh:=qb hh;refine⟨g0,hh,g0,by omega,fun e3=> ?_,fun e3=> ?_⟩
  ·have e3:¬(((ix p0.wB i).wF.length:Int)=(ix p1.wB i).wF.length):=by simpa using e3
   unfold sameT;rw[qaf (p:=p0.wB.map _=p1.wB.map _)]
   ·simp
   ·intro h;have h2:=congrArg (fun l=>l[i.toNat]?) h;simp only[qh]at h2;rw[qd qqo,qd qqo]at h2;rw[ix_nat _ i g0 hh,ix_nat _ i g0 qqo]at e3;simp at h2;omega
  ·have e3:(((ix p0.wB i).wF.length:Int)=(ix p1.wB i).wF.length):=by simpa using e3
   rw[inc i p0.wB.length g0 hh qqo];refine⟨⟨by omega,by omega,?_⟩,by(dsimp only;omega)⟩;rw[ke _ i g0 hh,ke _ i g0 qqo,qbd,qbd,g2];simp;omega
 ·have hh:=qc hh;rw[qi qqo,qi qqo]at g2;simp only[TTx_eta];have hlen:=k1d p0.wB 1024 hc;refine⟨⟨hr,hl,ho,hc⟩,⟨hr',hl',ho',hc'⟩,?_,?_⟩
  ·rw[k9o];have:=hl.m;have:=hl.p;have:(28+8*1024)*p0.wB.length<=(28+8*1024)*1048576:=Nat.mul_le_mul_left _ ho;omega
  ·unfold sameT;rw[qae (p:=p0.wB.length=p1.wB.length) qqo,qae g2,beq_iff_eq.2 e2];simp
noncomputable def khb:Ct:= .gp 34 [.sl (.st 2),.sl (.st 2)] [.bool] [] fun(p0 p1:List wC)=>((∀t∈p0,TD t)/\(∀t∈p1,TD t)/\p0.length<=100000,(sameL p0 p1:Bool),())
theorem ki9:khb.O:=qrv Bs Tryz.func34 (.r 1 (.nd [] (.r 0 (.lp [] ⟨[],[],[5],[.one (zqi)],[]⟩ .no)) [] .no)) (kiu.c c0) (Q:=∀(p0 p1:List wC),((∀t∈p0,TD t)/\(∀t∈p1,TD t)/\p0.length<=100000)->∀r0:Bool,sameL p0 p1=r0-> 
(((p0.length:Int) !=(p1.length:Int))=true->
false=r0)/\
(((p0.length:Int) !=(p1.length:Int))=false->
∃(I1:Int->Prop) (M1:Int->Nat),I1 0/\∀b1,(I1 b1->
(decide (b1<(p0.length:Int))=true->
(0<=b1)/\b1<(p0.length:Int)/\(0<=b1)/\b1<(p1.length:Int)/\(TD (ix p0 b1)/\TD (ix p1 b1))/\((!(sameT (ix p0 b1) (ix p1 b1)))=true->
false=r0)/\
((!(sameT (ix p0 b1) (ix p1 b1)))=false->
I1 (i64.wrap (b1+1))/\M1 (i64.wrap (b1+1))<M1 b1))/\
(decide (b1<(p0.length:Int))=false->
true=r0))))<|by
  rintro p0 p1 h _ rfl;obtain⟨h0,h1,hn⟩:=h;refine⟨fun e=> ?_,fun e=> ?_⟩
  · have e : ¬ p0.length = p1.length := by have:¬(p0.length:Int)=p1.length:=by simpa using e; 
                                           omega
    unfold sameL;rw[qaf e];rfl
  · have e : p0.length = p1.length := by have:(p0.length:Int)=p1.length:=by simpa using e; 
                                         omega
    refine⟨(fun i=>∃k:Nat,i=(k:Int)/\k<=p0.length/\∀j (hj:j<k) (a:j<p0.length) (b:j<p1.length),sameT p0[j] p1[j]=true),fun i=>(p0.length-i).toNat,⟨0,rfl,by omega,fun j hj=>by omega⟩,?_⟩;rintro _ ⟨k,rfl,g1,g2⟩;refine⟨fun c=> ?_,fun c=> ?_⟩
    · have c:k<p0.length:=by have:=qb c;omega
      rw[ix_get _ _ c,ix_get _ _ (show k<p1.length by omega),inc_i64 _ qqo];refine⟨by omega,by omega,by omega,by omega,⟨h0 _ (qab c),h1 _ (qab _)⟩,fun q=> ?_,fun q=>⟨⟨k+1,rfl,by omega,fun j hj a b=> ?_⟩,by(dsimp only;omega)⟩⟩
      · refine(kmc c qqo ?_).symm
        cases hs:sameT p0[k] p1[k]with
        |false=>rfl
        |true=>rw[hs]at q;cases q
      · by_cases ej:j=k
        · subst ej
          cases hs:sameT p0[j] p1[j]with
          |true=>rfl
          |false=>rw[hs]at q;cases q
        · exact g2 j qqo a b
    · have c:k=p0.length:=by have:=qc c;omega
      exact(kcz e fun j a b=>g2 j qqo a b).symm
noncomputable def k8r:Ct:= .g (gk 11 [.one (.ptr 0 0),.agg yJ] yE (.one (.one (.d (.bool))))) [.st 7,yqi,.sl (.st 3)] yH [] fun(p1:wV) (Aa:Int) (w1:List wA)=>(EL w1/\VL p1.L/\p1.L.length<=100000,(sameL (tL w1) p1.L&&(wL (tL w1)==wL p1.L):Bool),Aa,w1,())
theorem kja:k8r.O:=prv Bs Tryz.func11 .no (kg4.c (ki9.c (k25.c (k7n.c c0)))) (Q:=∀(p1:wV) (Aa:Int) (w1:List wA),(EL w1/\VL p1.L/\p1.L.length<=100000)->∀r0:Bool,(sameL (tL w1) p1.L&&(wL (tL w1)==wL p1.L))=r0->∀Ac:Int,Aa=Ac->∀e1:List wA,w1=e1-> 
lz w1/\(EL w1)/\((∀t∈(tL w1),TD t)/\(∀t∈p1.L,TD t)/\(tL w1).length<=100000)/\((sameL (tL w1) p1.L)=true->
lz w1/\(EL w1)/\(VL p1.L/\p1.L.length<=100000)/\lz w1/\((wL (tL w1))==(wL p1.L))=r0/\Aa=Ac/\w1=e1)/\
((sameL (tL w1) p1.L)=false->
lz w1/\false=r0/\Aa=Ac/\w1=e1))<|by
 rintro p1 Aa w1 h _ rfl _ rfl _ rfl;obtain⟨hE,hV,hn⟩:=h;have hn1:=hE.n;have hl:(tL w1).length=w1.length:=by simp[tL]
 refine⟨rfl,hE,⟨fun t ht=>(hE.v t ht).td,fun t ht=>(hV t ht).td,by omega⟩,fun e=> ?_,fun e=> ?_⟩
 ·rw[e,Bool.true_and];exact⟨rfl,hE,⟨hV,hn⟩,rfl,rfl,rfl,rfl⟩
 ·rw[e,Bool.false_and];exact⟨rfl,rfl,rfl,rfl⟩
def pcF_st (m:wV) (c:Int) (L:List wA):TSt TB.den:=⟨[(7,.ptr 0 0),(11,.ro [⟨.int .i64,(m.wE:Int)⟩,⟨.sl (.st 2),(m.L:List wC)⟩])],[(0,.cells [tvd yqi (c:Int),.row 1 (.st 3) (L.length)]),(1,.vec (.st 3) (L:List wA))],2⟩
def pcF_dl:Dl:=⟨[],[],[],[],[]⟩
def pcF_nt:Nt:= .no
def pcF_cn:List (Ct):=[k8r]
theorem pcF_cs:AllC Tryz.prog TB pcF_cn:=kja.c c0
theorem pcF_e:(∀(m:wV) (c:Int) (L:List wA) (J:Ar TB.den pcF_dl.hs Prop),(L=eL m.L/\VL m.L/\m.L.length<=100000)->(False->J)->WQL TB ⟨inf,pcF_cn,[],16,[]⟩ 136 [itR 9 body] pcF_nt (pcF_st m c L) (pieceQ TB 6 pcF_dl (pcF_st m c L) J))=(∀(m:wV) (c:Int) (L:List wA) (J:Prop),(L=eL m.L/\VL m.L/\m.L.length<=100000)->(False->J)->
lz L/\(EL L/\VL m.L/\m.L.length<=100000)/\let r51:Bool:=(sameL (tL L) m.L&&(wL (tL L)==wL m.L))
r51=true):=by kernel_rfl
theorem pcF_q:∀(m:wV) (c:Int) (L:List wA) (J:Prop),(L=eL m.L/\VL m.L/\m.L.length<=100000)->(False->J)->
lz L/\(EL L/\VL m.L/\m.L.length<=100000)/\let r51:Bool:=(sameL (tL L) m.L&&(wL (tL L)==wL m.L))
r51=true:=by rintro m c L J h kJ;obtain⟨rfl,hV,hn⟩:=h;rw[tL_eL,kjk,beq_self_eq_true];exact⟨rfl,⟨EL.of hV hn,hV,hn⟩,rfl⟩
theorem pcF_w:∀(m:wV) (c:Int) (L:List wA) (J:Ar TB.den pcF_dl.hs Prop),(L=eL m.L/\VL m.L/\m.L.length<=100000)->(False->J)->WQL TB ⟨inf,pcF_cn,[],16,[]⟩ 136 [itR 9 body] pcF_nt (pcF_st m c L) (pieceQ TB 6 pcF_dl (pcF_st m c L) J):=pcF_e.mpr pcF_q
end Go.Proofs.YtghlnaoogfcldaaGreat
namespace Go.Cv
open Go Go.Bv Go.RowKit Go.Md
mutual
def cvD (f j:Bool):D->D
 | .sl _ sz l=> .sl f sz (cvL f j l)
 | .agg l=> .agg (cvL f j l)
 | .int k n=>bif j then .ji k else .int k n
 | .bool b=> .bool b
 | .str s=> .str s
 | .ji k=> .ji k
def cvL (f j:Bool):List D->List D
 |[]=>[]
 |d::r=>cvD f j d::cvL f j r
end
section
variable {f f' j:Bool}
theorem cvL_eq:∀l:List D,cvL f j l=l.map (cvD f j)
 |[]=>rfl
 |d::r=>by rw[cvL,cvL_eq r];rfl
theorem k81 (d:D):(cvD f j d).cells=d.cells.map (cvD f j):=by
 cases d with
 |agg l=>show cvL f j l=_;exact cvL_eq l
 |int k n=>cases j<;>rfl
 |_=>rfl
theorem cvD_one (d:D):(cvD f j d).one=d.one:=by
 cases d with
 |int k n=>cases j<;>rfl
 |_=>rfl
theorem k1v (l:List D):(l.map (cvD f j)).flatMap D.cells=(l.flatMap D.cells).map (cvD f j):=by rw[List.flatMap_map,List.map_flatMap];simp only[k81]
def Cw (f f' :Bool) (X:Nat->Prop) (m:Nat->Nat) (w:World) (X' :Nat->Prop) (m' :Nat->Nat) (w' :World):Prop:=∀(b o:Nat) (u:Value),(X b↔f=true)->o<m b->w.cell? ⟨b,o,none⟩=some u->(X' b↔f' =true)/\o<m' b/\w'.cell? ⟨b,o,none⟩=some u
theorem RepD.cv {X:Nat->Prop} {m:Nat->Nat} {w:World} {X' :Nat->Prop} {m' :Nat->Nat} {w' :World} (hc:Cw f f' X m w X' m' w') {v:Value} {d0:D} (h:RepD X m w v d0):∀d,d0=cvD f false d->RepD X' m' w' v (cvD f' j d):=by
 induction h with
 |int k n=>
  intro d e;cases d with
  |int k' n' =>
   have e:D.int k n=D.int k' n' :=e;injection e with e1 e2;subst e1;subst e2;cases j
   ·exact .int _ _
   ·exact .ji _ _
  |_=>simp[cvD]at e
 |bool b=>
  intro d e;cases d with
  |bool b' =>have e:D.bool b=D.bool b' :=e;injection e with e1;subst e1;exact .bool _
  |_=>simp[cvD]at e
 |str b=>
  intro d e;cases d with
  |str b' =>have e:D.str b=D.str b' :=e;injection e with e1;subst e1;exact .str _
  |_=>simp[cvD]at e
 |ji k n=>
  intro d e;cases d with
  |ji b' =>have e:D.ji k=D.ji b' :=e;injection e with e1;subst e1;exact .ji _ _
  |_=>simp[cvD]at e
 |nil A sz=>
  intro d e;cases d with
  |sl x sz' l=>have e:D.sl _ sz []= .sl f sz' (cvL f false l):=e;rw[cvL_eq]at e;injection e with e1 e2 e3;subst e2;obtain rfl:l=[]:=List.map_eq_nil_iff.1 e3.symm;exact .nil _ _
  |_=>simp[cvD]at e
 |slice b off cap sz l vs hcap hmax hsz hlen hX hcl hr ih=>
  intro d e;cases d with
  |sl x sz' l' =>
   have e:D.sl _ sz l= .sl f sz' (cvL f false l'):=e;rw[cvL_eq]at e;injection e with e1 e2 e3;subst e2;subst e3;have hl:(l'.map (cvD f' j)).length=(l'.map (cvD f false)).length:=by simp
   have hne:∀{i:Nat} {u:Value},vs[i]? =some u->(X b↔f=true):=fun hu=>by rw[<-e1];exact hX fun h=>by subst h;simp at hu
   have key:RepD X' m' w' (.slice (some ⟨b,off,none⟩) (l'.map (cvD f' j)).length cap) (.sl f' sz (l'.map (cvD f' j))):=by
    refine .slice b off cap sz (l'.map (cvD f' j)) vs (by rw[hl];exact hcap) hmax (fun d hd=> ?_) ?_ (fun h0=> ?_) (fun i u hu=> ?_) (fun i u c hu hcc=> ?_)
    ·obtain⟨d0,h0,rfl⟩:=qad.1 hd;obtain⟨q1,q2⟩:=hsz _ (List.mem_map_of_mem h0);rw[k81]at q1 q2 ⊢;rw[qf]at q1 ⊢;refine⟨q1,fun c hcm=> ?_⟩;obtain⟨c0,h1,rfl⟩:=qad.1 hcm;have:=q2 _ (List.mem_map_of_mem h1);rw[cvD_one]at this ⊢;exact this
    ·rw[k1v,qf]at hlen ⊢;exact hlen
    ·obtain⟨u,r,hvs⟩:∃u r,vs=u::r:=by cases vs with
      |nil=>exact absurd rfl h0
      |cons u r=>exact⟨u,r,rfl⟩
     have hu:vs[0]? =some u:=by rw[hvs];rfl
     have q:=hcl 0 u hu;exact(hc b _ u (hne hu) q.1 q.2).1
    ·have q:=hcl i u hu;exact(hc b _ u (hne hu) q.1 q.2).2
    ·rw[k1v,qh,qo]at hcc;obtain⟨c0,h1,rfl⟩:=hcc;exact ih i u (cvD f false c0) hu (by rw[k1v,qh,h1];rfl) c0 rfl
   show RepD X' m' w' _ (.sl f' sz (cvL f' j l'));rw[cvL_eq];rw[qf]at key ⊢;exact key
  |_=>simp[cvD]at e
def bl (w:World) (b:Nat):Nat:=match w.heap[b]? with
 |some (.cells c _ _)=>c.size
 |_=>0
theorem bl_cell {w:World} {b o:Nat} {u:Value} (h:w.cell? ⟨b,o,none⟩=some u):o<bl w b:=by
 unfold World.cell? at h;unfold bl;split at h
 ·rename_i c e p hh;have hh:w.heap[b]? =some (.cells c e p):=hh;rw[hh];have h:c[o]? =some u:=by simpa using h
  exact(qdo.1 h).1
 ·cases h
open Classical in
def lm (S:Nat->Prop) (w:World) (b:Nat):Nat:=if S b then bl w b else 0
variable {S P:Nat->Prop} {w w' :World} {v:Value} {d:D}
theorem lm_pos {b:Nat} (h:0<lm S w b):S b:=by
 unfold lm at h;split at h
 ·assumption
 ·exact absurd h (Nat.lt_irrefl 0)
theorem lm_in {b o:Nat} {u:Value} (hS:S b) (h:w.cell? ⟨b,o,none⟩=some u):o<lm S w b:=by unfold lm;rw[ql hS];exact bl_cell h
theorem lm_out {b:Nat} (hS:¬S b):lm S w b=0:=by unfold lm;rw[qm hS]
theorem lm_size (h:∀b,S b->b<w.heap.size):∀b,w.heap.size<=b->lm S w b=0:=fun b hb=>lm_out fun hS=>by have:=h b hS;omega
def RD (S:Nat->Prop) (w:World) (v:Value) (d:D):Prop:=RepD (fun _=>False) (lm S w) w v (cvD false false d)
theorem RD.of {X:Nat->Prop} {m:Nat->Nat} (h:RepD X m w v (cvD f false d)) (hS:∀b,(X b↔f=true)->0<m b->S b):RD S w v d:=RepD.cv (f' :=false) (j:=false) (fun b o u h1 h2 h3=>⟨⟨False.elim,fun h=>by cases h⟩,lm_in (hS b h1 qqo) h3,h3⟩) h d rfl
theorem RD.to {X' :Nat->Prop} (h:RD S w v d) (hS:∀b,S b->(X' b↔f' =true)/\P b/\w'.heap[b]? =w.heap[b]?):RepD X' (lm P w') w' v (cvD f' j d):=
 RepD.cv (f:=false) (fun b o u _ h2 h3=>by
  obtain⟨q1,q2,q3⟩:=hS b (lm_pos (by omega:0<lm S w b));have h4:w'.cell? ⟨b,o,none⟩=some u:=by rw[World.cell?_of_block (w:=w) (a:=⟨b,o,none⟩) q3];exact h3
  exact⟨q1,lm_in q2 h4,h4⟩) h d rfl
structure Ro (B S:Nat->Prop) (w:World) (v:Value) (ds:List D):Prop where
 h:∃b off vs,v= .pointer (some ⟨b,off,none⟩)/\B b/\List.length vs=ds.length/\(∀c∈ds,c.one=true)/\(∀(i:Nat) (u:Value),vs[i]? =some u->w.cell? ⟨b,off+i,none⟩=some u)/\∀(i:Nat) (u:Value) (d:D),vs[i]? =some u->ds[i]? =some d->RD S w u d
variable {B:Nat->Prop} {ds:List D} {G:Gh} {h:Hp} {nx:Nat} {T:Tk} {base:Nat}
theorem Ro.to (hr:Ro B S w v ds) (hG:G.lim=lm P w') (hS:∀b,S b->(G.X b↔f' =true)/\P b/\w'.heap[b]? =w.heap[b]?) (hB:∀b,B b->P b/\w'.heap[b]? =w.heap[b]?):RepV G w' h nx v (.ro (ds.map (cvD f' false))):=by
 obtain⟨b,off,vs,rfl,h1,h2,h3,h4,h5⟩:=hr.h;obtain⟨q1,q2⟩:=hB b h1;refine .ro b off _ vs (by rw[qf];exact h2) (fun c hc=> ?_) (fun i u hu=> ?_) (fun i u c hu hc=> ?_)
 ·obtain⟨c0,h0,rfl⟩:=qad.1 hc;rw[cvD_one];exact h3 _ h0
 ·have h6:w'.cell? ⟨b,off+i,none⟩=some u:=by rw[World.cell?_of_block (w:=w) (a:=⟨b,off+i,none⟩) q2];exact h4 i u hu
  rw[hG];exact⟨lm_in q1 h6,h6⟩
 ·rw[qh,qo]at hc;obtain⟨c0,h0,rfl⟩:=hc;rw[hG];exact(h5 i u c0 hu h0).to hS
theorem Ro.of_ro (hv:RepV G w h nx v (.ro (ds.map (cvD f false)))) (hne:ds≠[]) (hS:∀b,(G.X b↔f=true)->0<G.lim b->S b):Ro (fun b=>0<G.lim b) S w v ds:=by
 generalize hl:ds.map (cvD f false)=l at hv;cases hv with
 |ro b off _ vs hlen hone hc hr=>
  subst hl;rw[qf]at hlen;refine⟨b,off,vs,rfl,?_,hlen,fun c hcm=> ?_,fun i u hu=>(hc i u hu).2,fun i u d hu hd=> ?_⟩
  ·obtain⟨u,hu⟩:∃u,vs[0]? =some u:=⟨vs[0]'(by rw[hlen];exact qcj.2 hne),qd _⟩;have:=(hc 0 u hu).1;show 0<G.lim b;omega
  ·have:=hone _ (List.mem_map_of_mem hcm);rw[cvD_one]at this;exact this
  ·exact RD.of (hr i u _ hu (by rw[qh,hd];rfl)) hS
theorem Ro.of_ptr (hw:WR T base G w h nx) {id:Nat} (hv:RepV G w h nx v (.ptr id 0)) (ho:h.get id=some (.cells ((ds.map (cvD f false)).map V.d))) (hne:ds≠[]) (hS:∀b,(G.X b↔f=true)->0<G.lim b->S b):∃b,G.loc id=some b/\G.lim b=0/\Ro (fun x=>x=b) S w v ds:=by
 rcases hw.obj id _ ho with⟨z,_⟩|⟨b,e,cs,h1,h2,h3,h4,h5,h6⟩
 ·exact absurd (List.map_eq_nil_iff.1 (List.map_eq_nil_iff.1 z)) hne
 refine⟨b,h1,h3,?_⟩;cases hv with
 |ptr _ _ b' hid hl=>
  obtain rfl:b' =b:=by rw[hl]at h1;injection h1
  rw[qf,qf]at h4;refine⟨b',0,cs.take ds.length,rfl,rfl,by rw[qn];omega,fun c hc=> ?_,fun i u hu=> ?_,fun i u d hu hd=> ?_⟩
  ·have:=h5 _ (List.mem_map_of_mem (List.mem_map_of_mem hc));rw[<-cvD_one (f:=f) (j:=false)];exact this
  ·rw[qak]at hu;split at hu
   ·rw[cell_of_row w b' _ _ e _ h2,qan];simpa using hu
   ·cases hu
  ·rw[qak]at hu;split at hu
   ·exact RD.of (RepV.d_inv (h6 i u _ hu (by rw[qh,qh,hd];rfl))) hS
   ·cases hu
theorem Ro.mono {B' S' :Nat->Prop} (hr:Ro B S w v ds) (hS:∀b,S b->S' b/\w'.heap[b]? =w.heap[b]?) (hB:∀b,B b->B' b/\w'.heap[b]? =w.heap[b]?):Ro B' S' w' v ds:=by
 obtain⟨b,off,vs,rfl,h1,h2,h3,h4,h5⟩:=hr.h;obtain⟨q1,q2⟩:=hB b h1;refine⟨b,off,vs,rfl,q1,h2,h3,fun i u hu=> ?_,fun i u d hu hd=> ?_⟩
 ·rw[World.cell?_of_block (w:=w) (a:=⟨b,off+i,none⟩) q2];exact h4 i u hu
 ·exact(h5 i u d hu hd).to (f' :=false) (j:=false) fun x hx=>⟨⟨False.elim,fun h=>by cases h⟩,hS x hx⟩
def RowC (S:Nat->Prop) (w:World) (br:On) (fl:List D):Prop:=(fl=[]/\br=none)∨∃b e cs,br=some b/\w.heap[b]? =some (.cells (List.toArray cs) e (0,0))/\fl.length<=cs.length/\(∀x∈fl,x.one=true)/\∀(i:Nat) (u:Value) (d:D),cs[i]? =some u->fl[i]? =some d->RD S w u d
def RowV (w:World) (v:Value) (br:On) (n sz:Nat):Prop:=(∃b o cap k,v= .slice (some ⟨b,o,none⟩) n cap/\br=some b/\(cap≠0->o=0)/\n<=cap/\cap<=maxLen/\csz w b=some k/\0+cap*sz<=k)∨∃A,v= .slice A 0 0/\n=0
theorem RowC.of (hw:WR T base G w h nx) {id:Nat} {fl:List D} (ho:h.get id=some (.cells ((fl.map (cvD f false)).map V.d))) (hS:∀b,(G.X b↔f=true)->0<G.lim b->S b):RowC S w (G.loc id) fl/\∀b,G.loc id=some b->G.lim b=0:=by
 rcases hw.obj id _ ho with⟨z,z2⟩|⟨b,e,cs,h1,h2,h3,h4,h5,h6⟩
 ·exact⟨.inl ⟨List.map_eq_nil_iff.1 (List.map_eq_nil_iff.1 z),z2⟩,fun b hb=>by rw[z2]at hb;cases hb⟩
 refine⟨.inr ⟨b,e,cs,h1,h2,by simpa using h4,fun x hx=> ?_,fun i u d hu hd=> ?_⟩,fun b' hb=> ?_⟩
 ·have:=h5 _ (List.mem_map_of_mem (List.mem_map_of_mem hx));rw[<-cvD_one (f:=f) (j:=false)];exact this
 ·exact RD.of (RepV.d_inv (h6 i u _ hu (by rw[qh,qh,hd];rfl))) hS
 ·rw[h1]at hb;injection hb with hb;subst hb;exact h3
theorem RowV.of {id n sz:Nat} (hv:RepV G w h nx v (.row id 0 n sz)):RowV w v (G.loc id) n sz:=by
 cases hv with
 |row _ _ _ _ b o cap m hid hl ho hc hm hn hs=>exact .inl ⟨b,o,cap,m,rfl,hl,ho,hc,hm,hn,hs⟩
 |rown A _ _ _ hid=>exact .inr ⟨A,rfl,rfl⟩
theorem klv {X' :Nat->Prop} {br:On} {sz:Nat} (hv:RowV w v br ds.length sz) (hc:RowC S w br (ds.flatMap D.cells)) (hsz:∀d∈ds,d.cells.length=sz/\∀c∈d.cells,c.one=true)
  (hS:∀b,S b->(X' b↔f' =true)/\P b) (hB:∀b,br=some b->(X' b↔f' =true)/\P b):RepD X' (lm P w) w v (.sl f' sz (ds.map (cvD f' j))):=by
 rcases hv with⟨b,o,cap,k,rfl,rfl,ho,h1,h2,h3,h4⟩|⟨A,rfl,h0⟩
 ·rcases Nat.eq_zero_or_pos cap with hz|hz
  ·subst hz;have e0:ds.length=0:=by omega
   obtain rfl:ds=[]:=qap e0;exact .nil _ _
  obtain rfl:=ho qqo;have hfl:=kg hsz;rcases hc with⟨_,z⟩|⟨b',e,cs,q1,q2,q3,q4,q5⟩
  ·cases z
  obtain rfl:b' =b:=by injection q1 with q1;exact q1.symm
  obtain⟨p1,p2⟩:=hB b' rfl
  have key:RepD X' (lm P w) w (.slice (some ⟨b',0,none⟩) (ds.map (cvD f' j)).length cap) (.sl f' sz (ds.map (cvD f' j))):=by
   refine .slice b' 0 cap sz (ds.map (cvD f' j)) (cs.take (ds.flatMap D.cells).length) (by rw[qf];exact h1) h2 (fun d hd=> ?_) ?_ (fun _=>p1) (fun i u hu=> ?_) (fun i u c hu hcc=> ?_)
   ·obtain⟨d0,h0,rfl⟩:=qad.1 hd;obtain⟨r1,r2⟩:=hsz _ h0;rw[k81,qf];refine⟨r1,fun c hcm=> ?_⟩;obtain⟨c0,r3,rfl⟩:=qad.1 hcm;rw[cvD_one];exact r2 _ r3
   ·rw[k1v,qf,qn];omega
   ·rw[qak]at hu;split at hu
    ·have h6:w.cell? ⟨b',0+i,none⟩=some u:=by rw[cell_of_row w b' _ _ e _ q2,qan];simpa using hu
     exact⟨lm_in p2 h6,h6⟩
    ·cases hu
   ·rw[qak]at hu;split at hu
    ·rw[k1v,qh,qo]at hcc;obtain⟨c0,r1,rfl⟩:=hcc;exact(q5 i u c0 hu r1).to fun x hx=>⟨(hS x hx).1,(hS x hx).2,rfl⟩
    ·cases hu
  rw[qf]at key;exact key
 ·obtain rfl:ds=[]:=qap h0;exact .nil _ _
structure Po (S:Nat->Prop) (w:World) (v:Value) (bp:Nat) (br:On) (c:Int) (sz:Nat) (ds:List D):Prop where
 v:v= .pointer (some ⟨bp,0,none⟩)
 ne:br≠some bp
 p:∃e cs sv,w.heap[bp]? =some (.cells (List.toArray cs) e (0,0))/\2<=cs.length/\cs[0]? =some (.int .i64 c)/\cs[1]? =some sv/\RowV w sv br ds.length sz
 r:RowC S w br (ds.flatMap D.cells)
theorem Po.of (hw:WR T base G w h nx) {ip ir sz:Nat} {c:Int} (hne:ip≠ir) (hv:RepV G w h nx v (.ptr ip 0)) (hp:h.get ip=some (.cells [.d (.int .i64 c),.row ir 0 ds.length sz]))
  (hr:h.get ir=some (.cells (((ds.map (cvD f false)).flatMap D.cells).map V.d))) (hS:∀b,(G.X b↔f=true)->0<G.lim b->S b):
  ∃bp,G.loc ip=some bp/\Po S w v bp (G.loc ir) c sz ds/\G.lim bp=0/\∀b,G.loc ir=some b->G.lim b=0:=by
 rcases hw.obj ip _ hp with⟨z,_⟩|⟨b,e,cs,h1,h2,h3,h4,h5,h6⟩
 ·cases z
 have h4:2<=cs.length:=h4;rw[k1v]at hr;obtain⟨r1,r2⟩:=RowC.of hw hr hS;refine⟨b,h1,⟨?_,fun hb=>hne ?_,⟨e,cs,cs[1]' qqo,h2,h4,?_,qd _,?_⟩,r1⟩,h3,r2⟩
 ·cases hv with
  |ptr _ _ b' hid hl=>rw[hl]at h1;injection h1 with h1;rw[h1]
 ·exact hw.inj ip ir b (hw.hid _ _ hp) (hw.hid _ _ hr) (.inl h1) (.inl hb) (kc hp) (kc hr)
 ·have h0:cs[0]? =some (cs[0]' qqo):=qd _;rw[h0,k1z (h6 0 _ _ h0 rfl)]
 ·exact RowV.of (h6 1 _ _ (qd qqo) rfl)
theorem Po.mono {S' J:Nat->Prop} {bp sz:Nat} {br:On} {c:Int} (h:Po S w v bp br c sz ds) (hs:∀b,b<w.heap.size->¬J b->w'.heap[b]? =w.heap[b]?) (hS:∀b,S b->b<w.heap.size/\¬J b/\S' b) (hp:¬J bp) (hr:∀b,br=some b->¬J b):Po S' w' v bp br c sz ds:=by
 obtain⟨h1,h2,⟨e,cs,sv,p1,p2,p3,p4,p5⟩,h4⟩:=h;have hlt:∀(b:Nat) (o:Obj),w.heap[b]? =some o->b<w.heap.size:=fun b o ho=>(qdo.1 ho).1
 have hbr:∀b,br=some b->w'.heap[b]? =w.heap[b]? :=fun b hb=>by
  rcases h4 with⟨_,z⟩|⟨b',e,cs,q1,q2,_⟩
  ·rw[z]at hb;cases hb
  ·obtain rfl:b' =b:=by rw[q1]at hb;injection hb
   exact hs b' (hlt _ _ q2) (hr b' q1)
 refine⟨h1,h2,⟨e,cs,sv,by rw[hs bp (hlt _ _ p1) hp];exact p1,p2,p3,p4,?_⟩,?_⟩
 ·rcases p5 with⟨b,o,cap,k,s0,s1,s2,s3,s4,s5,s6⟩|q
  ·exact .inl ⟨b,o,cap,k,s0,s1,s2,s3,s4,by rw[k1l (hbr b s1)];exact s5,s6⟩
  ·exact .inr q
 ·rcases h4 with q|⟨b,e,cs,q1,q2,q3,q4,q5⟩
  ·exact .inl q
  ·exact .inr ⟨b,e,cs,q1,by rw[hbr b q1];exact q2,q3,q4,fun i u d hu hd=>(q5 i u d hu hd).to (f' :=false) (j:=false) fun x hx=>⟨⟨False.elim,fun h=>by cases h⟩,(hS x hx).2.2,hs x (hS x hx).1 (hS x hx).2.1⟩⟩
theorem Po.to {bp sz:Nat} {br:On} {c:Int} (h:Po S w v bp br c sz ds) {G:Gh} {T:Tk} (hl0:G.loc 0=some bp) (hl1:G.loc 1=br) (ht:∀i,G.tloc i=none) (hlim:G.lim=lm P w') (hS:∀b,S b->(G.X b↔f' =true)/\P b/\w'.heap[b]? =w.heap[b]?)
  (hbp:¬P bp/\T bp/\w'.heap[bp]? =w.heap[bp]?) (hbr:∀b,br=some b->¬P b/\T b/\w'.heap[b]? =w.heap[b]?) (hP:∀b,P b->b<w'.heap.size):
  WR T w'.heap.size G w' [(0,.cells [.d (.int .i64 c),.row 1 0 ds.length sz]),(1,.cells (((ds.map (cvD f' false)).flatMap D.cells).map V.d))] 2/\RepV G w' [(0,.cells [.d (.int .i64 c),.row 1 0 ds.length sz]),(1,.cells (((ds.map (cvD f' false)).flatMap D.cells).map V.d))] 2 v (.ptr 0 0):=by
 obtain⟨rfl,hne,⟨e,cs,sv,p1,p2,p3,p4,p5⟩,hr⟩:=h;generalize hh:([(0,.cells [.d (.int .i64 c),.row 1 0 ds.length sz]),(1,.cells (((ds.map (cvD f' false)).flatMap D.cells).map V.d))]:Hp)=h;have g0:Hp.get h 0=some (.cells [.d (.int .i64 c),.row 1 0 ds.length sz]):=by rw[<-hh];rfl
 have g1:Hp.get h 1=some (.cells (((ds.map (cvD f' false)).flatMap D.cells).map V.d)):=by rw[<-hh];rfl
 have gi:∀(id:Nat) (o:Ob),Hp.get h id=some o->id=0∨id=1:=by
  intro id o ho;rw[<-hh]at ho;simp only[Hp.get]at ho;split at ho
  ·exact .inl ‹_›
  split at ho
  ·exact .inr ‹_›
  ·cases ho
 have hlt:∀b,∀o:Obj,w'.heap[b]? =some o->b<w'.heap.size:=fun b o ho=>(qdo.1 ho).1;refine⟨⟨fun id l hl=> ?_,fun id x hx=> ?_,fun id b hid hb=> ?_,fun i j' b hi hj hbi hbj _ _=> ?_,fun id o ho=> ?_,fun b hb=> ?_⟩,.ptr 0 0 bp qqo hl0⟩
 ·rcases gi id _ hl with rfl|rfl
  ·rw[g0]at hl;injection hl with hl;injection hl with hl;subst hl;refine .inr ⟨bp,e,cs,hl0,by rw[hbp.2.2];exact p1,by rw[hlim];exact lm_out hbp.1,p2,fun x hx=> ?_,fun i u x hu hx=> ?_⟩
   ·rcases qal.1 hx with rfl|hx
    ·rfl
    ·rw[qbn.1 hx];rfl
   ·match i,hx with
    |0,hx=>
     obtain rfl:V.d (.int .i64 c)=x:=by injection hx
     rw[p3]at hu;injection hu with hu;subst hu;exact .d _ _ (.int _ _)
    |1,hx=>
     obtain rfl:V.row 1 0 ds.length sz=x:=by injection hx
     rw[p4]at hu;injection hu with hu;subst hu;rcases p5 with⟨b,o,cap,k,rfl,rfl,s1,s2,s3,s4,s5⟩|⟨A,rfl,s1⟩
     ·exact .row 1 0 _ sz b o cap k qqo hl1 s1 s2 s3 (by rw[k1l (hbr b rfl).2.2];exact s4) s5
     ·rw[s1];exact .rown A 1 0 sz qqo
    |i+2,hx=>cases hx
  ·rw[g1]at hl;injection hl with hl;injection hl with hl;subst hl;rw[k1v];rcases hr with⟨z1,z2⟩|⟨b,e,cs,q1,q2,q3,q4,q5⟩
   ·exact .inl ⟨by rw[z1];rfl,by rw[hl1];exact z2⟩
   refine .inr ⟨b,e,cs,by rw[hl1];exact q1,by rw[(hbr b q1).2.2];exact q2,by rw[hlim];exact lm_out (hbr b q1).1,by simpa using q3,fun x hx=> ?_,fun i u x hu hx=> ?_⟩
   ·obtain⟨d1,hd1,rfl⟩:=qad.1 hx;obtain⟨d0,hd0,rfl⟩:=qad.1 hd1;show(cvD f' false d0).one=true;rw[cvD_one];exact q4 _ hd0
   ·rw[qh,qo]at hx;obtain⟨d1,hd1,rfl⟩:=hx;rw[qh,qo]at hd1;obtain⟨d0,hd0,rfl⟩:=hd1;refine .d _ _ ?_;rw[hlim];exact(q5 i u d0 hu hd0).to hS
 ·rcases gi id _ hx with rfl|rfl
  ·rw[g0]at hx;cases hx
  ·rw[g1]at hx;cases hx
 ·rw[ht id]at hb;have hb:G.loc id=some b:=hb.resolve_right fun h=>by cases h
  have:id=0∨id=1:=by omega
  rcases this with rfl|rfl
  ·rw[hl0]at hb;injection hb with hb;subst hb;exact⟨hlt _ _ (by rw[hbp.2.2];exact p1),.inr hbp.2.1⟩
  ·rw[hl1]at hb;refine⟨?_,.inr (hbr b hb).2.1⟩;rcases hr with⟨z1,z2⟩|⟨b',e,cs,q1,q2,_⟩
   ·rw[z2]at hb;cases hb
   ·obtain rfl:b' =b:=by rw[q1]at hb;injection hb
    exact hlt _ _ (by rw[(hbr b' q1).2.2];exact q2)
 ·rw[ht i]at hbi;rw[ht j']at hbj;have hbi:G.loc i=some b:=hbi.resolve_right fun h=>by cases h
  have hbj:G.loc j' =some b:=hbj.resolve_right fun h=>by cases h
  have a1:i=0∨i=1:=by omega
  have a2:j' =0∨j' =1:=by omega
  rcases a1 with rfl|rfl<;>rcases a2 with rfl|rfl
  ·rfl
  ·rw[hl0]at hbi;rw[hl1,<-hbi]at hbj;exact absurd hbj hne
  ·rw[hl0]at hbj;rw[hl1,<-hbj]at hbi;exact absurd hbi hne
  ·rfl
 ·rcases gi id _ ho with rfl|rfl<;>omega
 ·rw[hlim];exact lm_size hP b hb
end
section
variable {P:Program} {T:Tk} {G0 G:Gh} {w0 w:World} {N:Nat} {s:St} {a:Act} {h:Hp} {nx:Nat}
theorem sl0:∀t,RepV G w h nx (a.tmps.getD t undef) (getS [] t):=fun _=> .any _
theorem sl1 {k:Nat} {x:V} {r:List (Nat×V)} (hx:RepV G w h nx (a.tmps.getD k undef) x) (hr:∀t,RepV G w h nx (a.tmps.getD t undef) (getS r t)):∀t,RepV G w h nx (a.tmps.getD t undef) (getS ((k,x)::r) t):=by
 intro t;unfold getS;split
 ·rename_i e;rw[e];exact hx
 ·exact hr t
theorem R.new (hn:T.nx=0) (hw:WR T w.heap.size G w s.h s.nx) (hX:XE T G0 w) (hXX:G.X=G0.X) (hl:∀b,b<w.heap.size->¬T b->G.lim b=G0.lim b) (hm:Mono G0.lim w G.lim w) (hd:a.defers=[]) (hz:a.tmps.size=N)
  (hs:∀t,RepV G w s.h s.nx (a.tmps.getD t undef) (getS s.sl t)):R T G0 w N s a G w:=
 ⟨⟨rfl,rfl,rfl,qr _,fun b h1 h2=>⟨rfl,hl b h1 h2⟩,hm,⟨hXX,hX⟩,fun _ h=>h⟩,hw,hd,hz,hs,⟨by rw[hn];exact qbq _,fun id b hid _=>by rw[hn]at hid;omega,fun tok t' ht _=>by rw[hn]at ht;omega,fun _ _ h=>h⟩⟩
theorem wr0 (hl:∀b,w.heap.size<=b->G.lim b=0) {base:Nat}:WR T base G w [] 0:=⟨fun id l hl=>by simp[Hp.get]at hl,fun id x hx=>by simp[Hp.get]at hx,fun id b hid=>absurd hid (Nat.not_lt_zero _),fun i j b hi=>absurd hi (Nat.not_lt_zero _),fun id ob hg=>by simp[Hp.get]at hg,hl⟩
structure Ch (n:Nat) (w w' :World):Prop where
 os:w'.os=w.os
 tape:w'.tape=w.tape
 output:w'.output=w.output
 size:w.heap.size<=w'.heap.size
 same:∀b,b<n->w'.heap[b]? =w.heap[b]?
 fz:∀b,unf w b->unf w' b
theorem Ch.refl (n:Nat) (w:World):Ch n w w:=⟨rfl,rfl,rfl,qr _,fun _ _=>rfl,fun _ h=>h⟩
theorem Ch.trans {n:Nat} {w w1 w2:World} (h:Ch n w w1) (h' :Ch n w1 w2):Ch n w w2:=⟨h'.os.trans h.os,h'.tape.trans h.tape,h'.output.trans h.output,qbl h.size h'.size,fun b hb=>(h'.same b hb).trans (h.same b hb),fun b hb=>h'.fz b (h.fz b hb)⟩
theorem Ch.of {n:Nat} (hF:Fr T G0 w0 G w) (hn:n<=w0.heap.size) (hT:∀b,T b->n<=b):Ch n w0 w:=⟨hF.os,hF.tape,hF.output,hF.size,fun b hb=>(hF.same b qqo fun h=>by have:=hT b h;omega).1,hF.fz⟩
theorem itR_add:∀(n m:Nat) (c:Code),itR m (itR n c)=itR (n+m) c
 |0,m,c=>by rw[qan];rfl
 |n+1,m,c=>by
  have stuck:∀k,(∀x y,c≠ .seq x y)->itR k c=c:=fun k hc=>by
   cases k with
   |zero=>rfl
   |succ k=>cases c with
    |seq x y=>exact absurd rfl (hc x y)
    |_=>rfl
  cases c with
  |seq x y=>show itR m (itR n y)=_;rw[itR_add n m y,show n+1+m=(n+m)+1 by omega];rfl
  |_=>rw[stuck _ (by intro x y h;cases h),stuck _ (by intro x y h;cases h),stuck _ (by intro x y h;cases h)]
theorem wp_nx {P:Program} {Q:Exit->Act->World->Prop} {c:Code} {m n:Nat} {a:Act} {w:World} (h:wpL P ((itR (m+n) c).wp P Q) Q (itA n (itR m c)) a w):(itR m c).wp P Q a w:=by rw[<-itR_add]at h;exact kfy n _ h
theorem wp_two {P:Program} {K:Act->World->Prop} {Q:Exit->Act->World->Prop} {x y:Code} {a:Act} {w:World} (h:wpL P (wpL P K Q [y]) Q [x] a w):wpL P K Q [.seq x y] a w:=by
 refine wp_seq (wp_mono (show x.wp P (Exit.then (wpL P (wpL P K Q [y]) Q []) Q) a w from h) fun e a w hq=> ?_);cases e with
 |normal=>exact hq
 |_=>exact hq
theorem kko {f:FuncId} {fn:Func} {c:Code} {xs:List V} {t:Nat} (hf:P.funcs[f]? =some fn) (hb:fn.body=some c) (hN:fn.ntmps=N) (hxs:xs.length<=N) (hr:fn.results= #[.tmp t])
  (H:∀(G:Gh) (w:World) (a:Act),R (tkOf G []) G w N ⟨initSl 0 xs,[],0⟩ a G w->c.wp P (fun e a' w' =>e= .ret/\a'.defers=[]/\a'.tmps.getD t undef= .bool true/\Ch w.heap.size w w') a w):SoundH P f xs [] (.d (.bool true)) []:=by
 intro G w vs hlen hrep hW hXE;refine calls_of_wp hf hb ?_
 have hR:R (tkOf G []) G w N ⟨initSl 0 xs,[],0⟩ ⟨vs.toArray++Array.replicate (fn.ntmps-vs.toArray.size) undef,[]⟩ G w:=by
  refine R.new rfl hW hXE rfl (fun _ _ _=>rfl) (Mono.refl _ _) rfl qqm fun t=> ?_;rw[k77,ql (qbq _),Nat.sub_zero];rcases qbb t xs.length with ht|ht
  ·rw[qd ht,qbc];have hv:vs[t]? =some (vs[t]' qqo):=qd qqo;have e:(vs.toArray++Array.replicate (fn.ntmps-vs.toArray.size) undef).getD t undef=vs[t]' qqo:=by rw[qed,Array.getElem?_append_left qqm];simp[hv]
   rw[e];exact hrep t _ _ hv (qd ht)
  ·rw[qeo ht];exact .any _
 refine wp_mono (H G w _ hR) ?_;rintro e a' w' ⟨rfl,h1,h2,h3⟩;refine⟨h1,a'.tmps.getD t undef,?_,a'.tmps.getD t undef,⟨G.loc,G.tloc,fun b=>if b<w.heap.size then G.lim b else 0,G.X⟩,rfl,?_,?_,?_,?_⟩
 ·rw[kbn,hr];simp[resSem]
 ·rw[h2];exact .d _ _ (.bool true)
 ·refine wr0 fun b hb=>qm ?_;have:=h3.size;omega
 ·refine⟨h3.os,h3.tape,h3.output,h3.size,fun b hb _=>⟨h3.same b hb,ql hb⟩,fun b o v h4 h5=> ?_,⟨rfl,hXE⟩,h3.fz⟩
  have hb:b<w.heap.size:=by
   rcases qbb b w.heap.size with h|h
   ·exact h
   ·rw[hW.lim b h]at h4;omega
  refine⟨?_,by rw[World.cell?_of_block (w:=w) (a:=⟨b,o,none⟩) (h3.same b hb)];exact h5⟩;show o<if b<w.heap.size then G.lim b else 0;rw[ql hb];exact h4
 ·refine⟨qr _,fun id b hid=>absurd hid (Nat.not_lt_zero _),fun tok t' ht=>absurd ht (Nat.not_lt_zero _),fun b n hb=> ?_⟩
  have hlt:b<w.heap.size:=by
   rcases qbb b w.heap.size with h|h
   ·exact h
   ·unfold csz at hb;rw[Array.getElem?_eq_none h]at hb;cases hb
  rw[k1l (h3.same b hlt)];exact hb
end
end Go.Cv
namespace Go.Proofs.YtghlnaoogfcldaaGreat
open Go Go.Bv Go.Cv Go.Md Go.RowKit
open Go.IntKind (i64 u64)
theorem cv_nums {f:Bool} (k:IntKind) (l:Li):cvL f false (l.map (D.int k))=l.map (D.int k):=by rw[cvL_eq,qaa];rfl
theorem kak (k:IntKind) (l:Li):cvL false true (l.map (D.int k))=(l.map fun _=>()).map fun _=>D.ji k:=by rw[cvL_eq,qaa,qaa];rfl
theorem cvO_f (x:wR):cvD false false (encTOut x)=encTOut x:=by show D.agg [_,_,_,.sl false 1 (cvL false false (x.wF.map (D.int .u64)))]=_;rw[cv_nums];rfl
theorem cvO_t (x:wR):cvD true false (encTOut x)=encTOutm (mkO x):=by show D.agg [_,_,_,.sl true 1 (cvL true false (x.wF.map (D.int .u64)))]=_;rw[cv_nums];rfl
theorem cvO_j (x:wR):cvD false true (encTOut x)=encTOutj (jkO x):=by show D.agg [_,_,_,.sl false 1 (cvL false true (x.wF.map (D.int .u64)))]=_;rw[kak];rfl
theorem cvOs_f (l:List wR):cvL false false (l.map encTOut)=l.map encTOut:=by rw[cvL_eq,qaa];exact qy fun x _=>cvO_f x
theorem cvOs_t (l:List wR):cvL true false (l.map encTOut)=(l.map mkO).map encTOutm:=by rw[cvL_eq,qaa,qaa];exact qy fun x _=>cvO_t x
theorem cvOs_j (l:List wR):cvL false true (l.map encTOut)=(l.map jkO).map encTOutj:=by rw[cvL_eq,qaa,qaa];exact qy fun x _=>cvO_j x
def cT (x:wC):List D:=(encTTx x).cells
def cP (x:wV):List D:=(encTPool x).cells
theorem cT_f (x:wC):(cT x).map (cvD false false)=cT x:=by show [D.int .u64 x.wN,.sl false 1 (cvL false false (x.wD.map (D.int .u64))),.sl false 4 (cvL false false (x.wB.map encTOut)),.int .u64 x.wH,.int .u64 x.wG,.int .u64 x.Fee,.int .u64 x.wI,.int .u64 x.wM,.int .i64 x.wJ,.sl false 1 (cvL false false (x.wK.map (D.int .u8)))]=_;rw[cv_nums,cvOs_f,cv_nums];rfl
theorem cT_t (x:wC):(cT x).map (cvD true false)=(encTTxm (mkT x)).cells:=by show [D.int .u64 x.wN,.sl true 1 (cvL true false (x.wD.map (D.int .u64))),.sl true 4 (cvL true false (x.wB.map encTOut)),.int .u64 x.wH,.int .u64 x.wG,.int .u64 x.Fee,.int .u64 x.wI,.int .u64 x.wM,.int .i64 x.wJ,.sl true 1 (cvL true false (x.wK.map (D.int .u8)))]=_;rw[cv_nums,cvOs_t,cv_nums];rfl
theorem cvT_f (x:wC):cvD false false (encTTx x)=encTTx x:=by show D.agg (cvL false false (cT x))=D.agg (cT x);rw[cvL_eq,cT_f]
theorem cvT_j (x:wC):cvD false true (encTTx x)=encTTxj (jkT x):=by show D.agg [D.ji .u64,.sl false 1 (cvL false true (x.wD.map (D.int .u64))),.sl false 4 (cvL false true (x.wB.map encTOut)),.ji .u64,.ji .u64,.ji .u64,.ji .u64,.ji .u64,.ji .i64,.sl false 1 (cvL false true (x.wK.map (D.int .u8)))]=_;rw[kak,cvOs_j,kak];rfl
theorem cvTs_f (l:List wC):(l.map encTTx).map (cvD false false)=l.map encTTx:=by rw[qaa];exact qy fun x _=>cvT_f x
theorem cvTs_j (l:List wC):(l.map encTTx).map (cvD false true)=(l.map jkT).map encTTxj:=by rw[qaa,qaa];exact qy fun x _=>cvT_j x
theorem cvE_f (x:wA):cvD false false (encTentry x)=encTentry x:=by show D.agg [D.int .u64 x.wm,.sl false 1 (cvL false false (x.wQ.map (D.int .u64))),.sl false 4 (cvL false false (x.wy.map encTOut)),.int .u64 x.wS,.int .u64 x.wd,.int .u64 x.wU,.int .u64 x.wT,.int .u64 x.wX,.int .i64 x.wn,.sl false 1 (cvL false false (x.wq.map (D.int .u8))),.int .u64 x.id,.int .i64 x.weight]=_;rw[cv_nums,cvOs_f,cv_nums];rfl
theorem cvE_t (x:wA):cvD true false (encTentry x)=encTentrym (mkN x):=by show D.agg [D.int .u64 x.wm,.sl true 1 (cvL true false (x.wQ.map (D.int .u64))),.sl true 4 (cvL true false (x.wy.map encTOut)),.int .u64 x.wS,.int .u64 x.wd,.int .u64 x.wU,.int .u64 x.wT,.int .u64 x.wX,.int .i64 x.wn,.sl true 1 (cvL true false (x.wq.map (D.int .u8))),.int .u64 x.id,.int .i64 x.weight]=_;rw[cv_nums,cvOs_t,cv_nums];rfl
theorem cvEs_f (l:List wA):(l.map encTentry).map (cvD false false)=l.map encTentry:=by rw[qaa];exact qy fun x _=>cvE_f x
theorem cvEs_t (l:List wA):(l.map encTentry).map (cvD true false)=(l.map mkN).map encTentrym:=by rw[qaa,qaa];exact qy fun x _=>cvE_t x
theorem cP_f (x:wV):(cP x).map (cvD false false)=cP x:=by show [D.int .i64 x.wE,.sl false 10 (cvL false false (x.L.map encTTx))]=_;rw[cvL_eq,cvTs_f];rfl
theorem cT_ne (x:wC):cT x≠[]:=fun h=>by cases h
theorem cP_ne (x:wV):cP x≠[]:=fun h=>by cases h
theorem T_sz (l:List wC):∀d∈l.map encTTx,d.cells.length=10/\∀c∈d.cells,c.one=true:=by intro d hd;obtain⟨x,_,rfl⟩:=qad.1 hd;refine⟨rfl,fun c hc=> ?_⟩;have:((encTTx x).cells.all fun c=>c.one)=true:=rfl;exact qbi.1 this c hc
set_option maxRecDepth 100000
theorem erB (t:wC) (v7 v8:Value):erS TB (pcB_st (mkT t) v7 v8)=⟨[(5,.ro ((cT t).map (cvD true false))),(7,.k v7),(8,.k v8)],[],0⟩:=by rw[cT_t];rfl
theorem erC (t g:wC) (m:wV) (c:Int) (L:List wA):erS TB (pcC_st t m (mkT g) c L)=⟨[(5,.ro ((cT t).map (cvD false false))),(7,.ptr 0 0),(8,.ro ((cP m).map (cvD false false))),(10,.ro ((cT g).map (cvD true false)))],[(0,.cells [.d (.int .i64 c),.row 1 0 (L.map encTentry).length 12]),(1,.cells ((((L.map encTentry).map (cvD false false)).flatMap D.cells).map V.d))],2⟩:=by rw[cT_t,cT_f,cP_f,cvEs_f,qf];rfl
theorem erD (g:wC) (c:Int) (L:List wA) (v11:Value):erS TB (pcD_st g c (L.map mkN) v11)=⟨[(7,.ptr 0 0),(10,.ro ((cT g).map (cvD false false))),(11,.k v11)],[(0,.cells [.d (.int .i64 c),.row 1 0 (L.map encTentry).length 12]),(1,.cells ((((L.map encTentry).map (cvD true false)).flatMap D.cells).map V.d))],2⟩:=by rw[cT_f,cvEs_t,qf,<-qf (f:=mkN)];rfl
theorem erE (l:List wC) (n i:Int) (v7 v11:Value):erS TB (pcE_st (l.map jkT) n i v7 v11)=⟨[(7,.k v7),(11,.k v11),(60,.d (.sl false 10 ((l.map encTTx).map (cvD false true)))),(61,.d (.int .i64 n)),(62,.d (.int .i64 i))],[],0⟩:=by rw[cvTs_j];rfl
theorem erF (m:wV) (c:Int) (L:List wA):erS TB (pcF_st m c L)=⟨[(7,.ptr 0 0),(11,.ro ((cP m).map (cvD false false)))],[(0,.cells [.d (.int .i64 c),.row 1 0 (L.map encTentry).length 12]),(1,.cells ((((L.map encTentry).map (cvD false false)).flatMap D.cells).map V.d))],2⟩:=by rw[cP_f,cvEs_f,qf];rfl
def QE (n:Nat) (w0:World):Exit->Act->World->Prop:=fun e a w=>e= .ret/\a.defers=[]/\a.tmps.getD 6 undef= .bool true/\Ch n w0 w
theorem QE.of {n:Nat} {w0 w w' :World} {T:Go.Bv.Tk} {G G' :Gh} {s:St} {a:Act} (hc:Ch n w0 w) (hn:n<=w.heap.size) (hT:∀b,T b->n<=b) (hR:Go.Bv.R T G w 136 s a G' w') (h6:a.tmps.getD 6 undef= .bool true):QE n w0 .ret a w' :=⟨rfl,hR.df,h6,hc.trans (Ch.of hR.fr hn hT)⟩
theorem R.eq {T:Go.Bv.Tk} {G0 G:Gh} {w0 w:World} {N:Nat} {a:Act} {s s' :St} (e:s=s') (h:Go.Bv.R T G0 w0 N s a G w):Go.Bv.R T G0 w0 N s' a G w:=e▸h
def no:Nat->Prop:=fun _=>False
theorem no_f (b:Nat):no b↔false=true:=⟨False.elim,fun h=>by cases h⟩
def lo2 (bp:Nat) (br:On):Nat->On
 |0=>some bp
 |1=>br
 |_=>none
theorem stF {n:Nat} {w0 w:World} {a:Act} {bp:Nat} {br:On} {S:Nat->Prop} {m:wV} {c:Int} {L:List wA} (hch:Ch n w0 w) (hn:n<=w.heap.size) (hd:a.defers=[]) (hz:a.tmps.size=136)
  (hok:L=eL m.L/\VL m.L/\m.L.length<=100000) (hp:Po S w (a.tmps.getD 7 undef) bp br c 12 (L.map encTentry)) (hm:Ro S S w (a.tmps.getD 11 undef) (cP m))
  (hS:∀b,S b->b<w.heap.size/\b≠bp/\br≠some b) (hbp:n<=bp) (hbr:∀b,br=some b->n<=b):(itR 9 body).wp Tryz.prog (QE n w0) a w:=by
 have hR:Go.Bv.R ⟨fun b=>b=bp∨br=some b,[],0⟩ ⟨lo2 bp br,fun _=>none,lm S w,no⟩ w 136 (erS TB (pcF_st m c L)) a ⟨lo2 bp br,fun _=>none,lm S w,no⟩ w:=by rw[erF];obtain⟨hW,hv⟩:=hp.to (G:=⟨lo2 bp br,fun _=>none,lm S w,no⟩) (T:=⟨fun b=>b=bp∨br=some b,[],0⟩) (f' :=false) (P:=S) (w' :=w) rfl rfl (fun _=>rfl) rfl (fun b hb=>⟨no_f b,hb,rfl⟩) ⟨fun h=>(hS _ h).2.1 rfl,.inl rfl,rfl⟩ (fun b hb=>⟨fun h=>(hS b h).2.2 hb,.inr hb,rfl⟩) (fun b hb=>(hS b hb).1);exact R.new rfl hW (fun b hb=>hb.elim) rfl (fun _ _ _=>rfl) (Mono.refl _ _) hd hz (sl1 hv (sl1 (hm.to rfl (fun b hb=>⟨no_f b,hb,rfl⟩) fun b hb=>⟨hb,rfl⟩) sl0))
 have hT:∀b,(b=bp∨br=some b)->n<=b:=by
  rintro b (h|h)
  ·rw[h];exact hbp
  ·exact hbr b h
 have:=piece Bs pcF_cs x0 (fun h=>by cases h) (pcF_w m c L False hok id) (qbq _) hR (K:=fun _ _=>False) (Q:=QE n w0) (fun x a' G' w' hJ _=>hJ) (fun s1 a' G' w' hR' h6=>QE.of hch hn hT hR' h6);refine wp_mono (show(itR 9 body).wp Tryz.prog (Exit.then (wpL Tryz.prog (fun _ _=>False) (QE n w0) []) (QE n w0)) a w from this) fun e a' w' h=> ?_;cases e with
 |normal=>exact(show False from h).elim
 |_=>exact h
theorem nt {p:Prop} (h:¬p):p↔false=true:=⟨fun q=>absurd q h,fun q=>by cases q⟩
theorem yt {p:Prop} (h:p):p↔true=true:=⟨fun _=>rfl,fun _=>h⟩
theorem stE {n:Nat} {w0 w:World} {a:Act} {J:Nat->Prop} {l:List wC} (hch:Ch n w0 w) (hn:n<=w.heap.size) (hd:a.defers=[]) (hz:a.tmps.size=136)
  (hl:l.length<=200000/\∀x∈l,TL x) (h60:RepD no (lm J w) w (a.tmps.getD 60 undef) (.sl false 10 ((l.map encTTx).map (cvD false true)))) (h61:a.tmps.getD 61 undef= .int .i64 (l.length:Int)) (h62:a.tmps.getD 62 undef= .int .i64 0)
  (hJ:∀b,J b->b<w.heap.size/\n<=b/\unf w b) {K:Act->World->Prop}
  (hK:∀a' w',a'.defers=[]->a'.tmps.size=136->a'.tmps.getD 7 undef=a.tmps.getD 7 undef->a'.tmps.getD 11 undef=a.tmps.getD 11 undef->Ch n w0 w'->w.heap.size<=w'.heap.size->(∀b,b<w.heap.size->¬J b->w'.heap[b]? =w.heap[b]?)->K a' w'):
  wpL Tryz.prog K (QE n w0) [sqB (itR 8 body)] a w:=by
 have hR:Go.Bv.R ⟨J,[],0⟩ ⟨fun _=>none,fun _=>none,fun _=>0,no⟩ w 136 (erS TB (pcE_st (l.map jkT) (l.length:Int) 0 (a.tmps.getD 7 undef) (a.tmps.getD 11 undef))) a ⟨fun _=>none,fun _=>none,lm J w,no⟩ w:=by rw[erE];refine R.new rfl (wr0 (lm_size fun b hb=>(hJ b hb).1)) (fun b hb=>hb.elim) rfl (fun b _ hb=>lm_out hb) (fun b o v ho=>absurd ho (Nat.not_lt_zero _)) hd hz ?_;exact sl1 (.k _) (sl1 (.k _) (sl1 (.d _ _ h60) (sl1 (by rw[h61];exact .d _ _ (.int _ _)) (sl1 (by rw[h62];exact .d _ _ (.int _ _)) sl0))))
 have hT:∀b,J b->n<=b:=fun b hb=>(hJ b hb).2.1;have hl2:(l.map jkT).length=l.length:=qf ..;refine piece Bs_9999 pcE_cs x0 (fun _=>⟨rfl,fun _=>rfl,fun b hb=>(hJ b hb).2.2⟩) (pcE_w (l.map jkT) (l.length:Int) 0 (a.tmps.getD 7 undef) (a.tmps.getD 11 undef) True ⟨by rw[hl2],rfl,by rw[hl2];exact hl.1,fun x hx=> ?_⟩ id) (qbq _) hR (fun x a' G' w' _ hR' => ?_) (fun s1 a' G' w' hR' h6=>QE.of hch hn hT hR' h6)
 ·obtain⟨y,hy,rfl⟩:=qad.1 hx;exact jk_jl (hl.2 y hy)
 ·have e7:RepV G' w' _ _ (a'.tmps.getD 7 undef) (.k (a.tmps.getD 7 undef)):=hR'.sl 7;have e11:RepV G' w' _ _ (a'.tmps.getD 11 undef) (.k (a.tmps.getD 11 undef)):=hR'.sl 11;exact hK a' w' hR'.df hR'.sz e7.k_inv e11.k_inv (hch.trans (Ch.of hR'.fr hn hT)) hR'.fr.size fun b hb hJb=>(hR'.fr.same b hb hJb).1
theorem filD (g:wC) (c:Int) (L:List wA) (v11:Value) (h0 h1 h2:Int) (h3:List wc) (h4:List wC):erS TB (pcD_dl.fill TB (pcD_st g c (L.map mkN) v11) (h0,h1,h2,h3,h4,()))=
  ⟨[(60,.row 2 0 h4.length 10),(61,.d (.int .i64 h0)),(62,.d (.int .i64 h1))]++(erS TB (pcD_st g c (L.map mkN) v11)).sl,[(1,.cells (((h3.map encTentrym).flatMap D.cells).map V.d)),(0,.cells [.d (.int .i64 h2),.row 1 0 h3.length 12]),(2,.cells (((h4.map encTTx).flatMap D.cells).map V.d))]++(erS TB (pcD_st g c (L.map mkN) v11)).h,3⟩:=by kernel_rfl
def poD (g:wC) (c:Int) (L:List wA):Int->Int->Int->List wc->List wC->Prop:=fun h0 h1 h2 h3 h4=>h0=(h4.length:Int)/\h1=0/\h2=c/\h3=L.map mkN/\h4=tL L++[g]
theorem stD {n:Nat} {w0 w:World} {a:Act} {bp:Nat} {br:On} {S U B X P:Nat->Prop} {g:wC} {c:Int} {L:List wA} (hch:Ch n w0 w) (hn:n<=w.heap.size) (hd:a.defers=[]) (hz:a.tmps.size=136)
  (hE:EL L) (hp:Po S w (a.tmps.getD 7 undef) bp br c 12 (L.map encTentry)) (hg:Ro B U w (a.tmps.getD 10 undef) (cT g))
  (hSX:∀b,S b->X b/\P b) (hUX:∀b,U b->¬X b/\P b) (hB:∀b,B b->P b) (hX:∀b,X b->b<w.heap.size/\b≠bp/\br≠some b) (hP:∀b,P b->b<w.heap.size/\b≠bp/\br≠some b/\(X b∨n<=b))
  (hbp:n<=bp) (hbr:∀b,br=some b->n<=b) {K:Act->World->Prop}
  (hK:∀(a' :Act) (w' :World) (bp' :Nat) (br' :On) (J:Nat->Prop),a'.defers=[]->a'.tmps.size=136->a'.tmps.getD 11 undef=a.tmps.getD 11 undef->Ch n w0 w'->w.heap.size<=w'.heap.size->
   Po X w' (a'.tmps.getD 7 undef) bp' br' c 12 (L.map encTentry)->n<=bp'->(∀b,br' =some b->n<=b)->¬X bp'->(∀b,br' =some b->¬X b)->¬J bp'->(∀b,br' =some b->¬J b)->
   RepD no (lm J w') w' (a'.tmps.getD 60 undef) (.sl false 10 (((tL L++[g]).map encTTx).map (cvD false true)))->a'.tmps.getD 61 undef= .int .i64 ((tL L++[g]).length:Int)->a'.tmps.getD 62 undef= .int .i64 0->
   (∀b,J b->b<w'.heap.size/\n<=b/\¬X b)->(∀b,X b->w'.heap[b]? =w.heap[b]?)->K a' w'):
  wpL Tryz.prog K (QE n w0) [sqA (itR 8 body)] a w:=by
 have hR:Go.Bv.R ⟨fun b=>b=bp∨br=some b,[],0⟩ ⟨lo2 bp br,fun _=>none,lm P w,X⟩ w 136 (erS TB (pcD_st g c (L.map mkN) (a.tmps.getD 11 undef))) a ⟨lo2 bp br,fun _=>none,lm P w,X⟩ w:=by
  rw[erD];obtain⟨hW,hv⟩:=hp.to (G:=⟨lo2 bp br,fun _=>none,lm P w,X⟩) (T:=⟨fun b=>b=bp∨br=some b,[],0⟩) (f' :=true) (P:=P) (w' :=w) rfl rfl (fun _=>rfl) rfl (fun b hb=>⟨⟨fun _=>rfl,fun _=>(hSX b hb).1⟩,(hSX b hb).2,rfl⟩) ⟨fun h=>(hP _ h).2.1 rfl,.inl rfl,rfl⟩ (fun b hb=>⟨fun h=>(hP b h).2.2.1 hb,.inr hb,rfl⟩) (fun b hb=>(hP b hb).1);refine R.new rfl hW (fun b hb=>⟨(hX b hb).1,fun h=> ?_⟩) rfl (fun _ _ _=>rfl) (Mono.refl _ _) hd hz (sl1 hv (sl1 (hg.to rfl (fun b hb=>⟨nt (hUX b hb).1,(hUX b hb).2,rfl⟩) fun b hb=>⟨hB b hb,rfl⟩) (sl1 (.k _) sl0)));rcases h with h|h
  ·exact(hX b hb).2.1 h
  ·exact(hX b hb).2.2 h
 have hT:∀b,(b=bp∨br=some b)->n<=b:=by
  rintro b (h|h)
  ·rw[h];exact hbp
  ·exact hbr b h
 refine piece Bs pcD_cs x0 (fun h=>by cases h) (pcD_w g c (L.map mkN) (a.tmps.getD 11 undef) (poD g c L) (by rw[un_mkNs];exact hE) (fun _ _ _ _ _ h=>by rw[un_mkNs]at h;exact h)) (qbq _) hR (fun x a' G' w' hx hR' => ?_) (fun s1 a' G' w' hR' h6=>QE.of hch hn hT hR' h6);obtain⟨h0,h1,h2,h3,h4,_⟩:=x;obtain⟨e0,e1,e2,e3,e4⟩:poD g c L h0 h1 h2 h3 h4:=hx;replace hR' :=R.eq (filD g c L (a.tmps.getD 11 undef) h0 h1 h2 h3 h4) hR';subst e4;subst e0;subst e1;subst e2;subst e3;have hw:=hR'.wr;have hF:=hR'.fr;have hXe:G'.X=X:=hF.X.1;have hl:(L.map mkN).length=(L.map encTentry).length:=by simp
 have hl2:(tL L++[g]).length=((tL L++[g]).map encTTx).length:=by simp
 rw[<-cvEs_t,hl]at hw hR';have hSd:∀b,(G'.X b↔true=true)->0<G'.lim b->X b:=fun b h _=>by rw[hXe]at h;exact h.2 rfl
 obtain⟨bp',hlp,hpo,hlim,hlimr⟩:=Po.of (f:=true) hw (ip:=0) (ir:=1) qqo (hR'.sl 7) rfl rfl hSd
 have hTX:∀b,X b->¬(b=bp∨br=some b):=fun b hb h=>by
  rcases h with h|h
  ·exact(hX b hb).2.1 h
  ·exact(hX b hb).2.2 h
 have hnew:∀i b,i<3->G'.loc i=some b->b<w'.heap.size/\n<=b/\¬X b:=fun i b hi hb=>by
  obtain⟨q1,q2⟩:=hw.here i b hi (.inl hb);refine⟨q1,?_,fun hXb=> ?_⟩
  ·rcases q2 with q2|q2
   ·omega
   ·exact hT b q2
  ·rcases q2 with q2|q2
   ·have:=(hX b hXb).1;omega
   ·exact hTX b hXb q2
 have hfl:(((tL L++[g]).map encTTx).flatMap D.cells).map (cvD false false)=((tL L++[g]).map encTTx).flatMap D.cells:=by rw[<-k1v,cvTs_f]
 obtain⟨hrc,hrl⟩:=RowC.of (f:=false) (S:=fun b=>0<G'.lim b/\¬X b) hw (id:=2) (fl:=((tL L++[g]).map encTTx).flatMap D.cells) (by rw[hfl];rfl) fun b h1 h2=>⟨h2,fun h=>by rw[hXe]at h1;exact Bool.noConfusion (h1.1 h)⟩;have hrv:RowV w' (a'.tmps.getD 60 undef) (G'.loc 2) (tL L++[g]).length 10:=RowV.of (hR'.sl 60);rw[hl2]at hrv
 have hJ:∀b,((0<G'.lim b/\¬X b)∨G'.loc 2=some b)->b<w'.heap.size/\n<=b/\¬X b:=by
  rintro b (⟨h1,h2⟩|h)
  ·refine⟨?_,?_,h2⟩
   ·rcases qbb b w'.heap.size with h|h
    ·exact h
    ·rw[hw.lim b h]at h1;omega
   ·rcases qbb b w.heap.size with h|h
    ·by_cases hTb:b=bp∨br=some b
     ·exact hT b hTb
     ·have e:=(hF.same b h hTb).2;have e:G'.lim b=lm P w b:=e;rw[e]at h1;exact(hP b (lm_pos h1)).2.2.2.resolve_left h2
    ·omega
  ·exact hnew 2 b qqo h
 refine hK a' w' bp' (G'.loc 1) (fun b=>(0<G'.lim b/\¬X b)∨G'.loc 2=some b) hR'.df hR'.sz (hR'.sl 11).k_inv (hch.trans (Ch.of hF hn hT)) hF.size hpo (hnew 0 bp' qqo hlp).2.1 (fun b hb=>(hnew 1 b qqo hb).2.1) (hnew 0 bp' qqo hlp).2.2 (fun b hb=>(hnew 1 b qqo hb).2.2)
  (fun h=> ?_) (fun b hb h=> ?_) (klv hrv hrc (T_sz _) (fun b hb=>⟨no_f b,.inl hb⟩) fun b hb=>⟨no_f b,.inr hb⟩) (k1z (hR'.sl 61)) (k1z (hR'.sl 62)) hJ (fun b hb=>(hF.same b (hX b hb).1 (hTX b hb)).1)
 ·rcases h with h|h
  ·rw[hlim]at h;omega
  ·have:=hw.inj 0 2 bp' (show 0<3 by omega) (show 2<3 by omega) (.inl hlp) (.inl h) (kc rfl) (kc rfl);omega
 ·rcases h with h|h
  ·rw[hlimr b hb]at h;omega
  ·have:=hw.inj 1 2 b (show 1<3 by omega) (show 2<3 by omega) (.inl hb) (.inl h) (kc rfl) (kc rfl);omega
theorem filC (t g:wC) (m:wV) (c:Int) (L:List wA) (h0 h1:Int) (h2:List wC) (h3:List wA):erS TB (pcC_dl.fill TB (pcC_st t m (mkT g) c L) (h0,h1,h2,h3,()))=
  ⟨[(11,.ptr 2 0)]++(erS TB (pcC_st t m (mkT g) c L)).sl,[(0,.cells [.d (.int .i64 h0),.row 3 0 h3.length 12]),(2,.cells ((cP ⟨h1,h2⟩).map V.d)),(3,.cells (((h3.map encTentry).flatMap D.cells).map V.d)),(1,.dead)]++(erS TB (pcC_st t m (mkT g) c L)).h,4⟩:=by kernel_rfl
theorem filB (t:wC) (v7 v8:Value) (x:wC):erS TB (pcB_dl.fill TB (pcB_st (mkT t) v7 v8) (x.wN,x.wD,x.wB,x.wH,x.wG,x.Fee,x.wI,x.wM,x.wJ,x.wK,()))=
  ⟨[(10,.ptr 0 0)]++(erS TB (pcB_st (mkT t) v7 v8)).sl,[(0,.cells ((cT x).map V.d))],1⟩:=by kernel_rfl
theorem filA (p0:Int) (p1:List wAA) (p2 x:wC) (c:Int) (m:wV) (L:List wA):erS TB (pcA_dl.fill TB (pcA_st p0 p1 p2) (x.wN,x.wD,x.wB,x.wH,x.wG,x.Fee,x.wI,x.wM,x.wJ,x.wK,c,m.wE,m.L,L,()))=
  ⟨[(5,.ptr 0 0),(7,.ptr 1 0),(8,.ptr 2 0)]++(erS TB (pcA_st p0 p1 p2)).sl,[(0,.cells ((cT x).map V.d)),(1,.cells [.d (.int .i64 c),.row 3 0 L.length 12]),(2,.cells ((cP m).map V.d)),(3,.cells (((L.map encTentry).flatMap D.cells).map V.d))],4⟩:=by kernel_rfl
def poC (m:wV) (t:wC):Int->Int->List wC->List wA->Prop:=fun h0 _ h2 h3=>h0=m.wE/\h2=(addL m.wE m.L t).l/\h3=eL (addL m.wE m.L t).l
theorem stC {n:Nat} {w0 w:World} {a:Act} {bp:Nat} {br:On} {U1 U X P:Nat->Prop} {t:wC} {m:wV} (hch:Ch n w0 w) (hn:n<=w.heap.size) (hd:a.defers=[]) (hz:a.tmps.size=136)
  (hm:PL m.L/\m.L.length<=1000/\0<=m.wE) (ht1:TR t) (ht2:TL t) (h5:Ro P U1 w (a.tmps.getD 5 undef) (cT t)) (hp:Po U1 w (a.tmps.getD 7 undef) bp br m.wE 12 ((eL m.L).map encTentry)) (h8:Ro P U1 w (a.tmps.getD 8 undef) (cP m)) (h10:Ro P U w (a.tmps.getD 10 undef) (cT t))
  (hU1:∀b,U1 b->¬X b/\P b) (hU:∀b,U b->X b/\P b) (hX:∀b,X b->b<w.heap.size/\b≠bp/\br≠some b/\n<=b) (hP:∀b,P b->b<w.heap.size/\b≠bp/\br≠some b)
  (hbp:n<=bp) (hbr:∀b,br=some b->n<=b) {K:Act->World->Prop}
  (hK:∀(a' :Act) (w' :World) (bp' :Nat) (br' :On) (b11:Nat) (S' U' P' :Nat->Prop) (c' :Int),a'.defers=[]->a'.tmps.size=136->Ch n w0 w'->w.heap.size<=w'.heap.size->
   Po S' w' (a'.tmps.getD 7 undef) bp' br' m.wE 12 ((eL (addL m.wE m.L t).l).map encTentry)->Ro (fun x=>x=b11) S' w' (a'.tmps.getD 11 undef) (cP ⟨c',(addL m.wE m.L t).l⟩)->Ro P' U' w' (a'.tmps.getD 10 undef) (cT t)->
   (∀b,S' b->P' b)->(∀b,U' b->¬S' b/\P' b)->(∀b,P' b->b<w'.heap.size/\b≠bp'/\br'≠some b/\b≠b11/\(S' b∨n<=b))->b11<w'.heap.size->b11≠bp'->br'≠some b11->n<=bp'->(∀b,br' =some b->n<=b)->K a' w'):
  wpL Tryz.prog K (QE n w0) (itA 2 (itR 6 body)) a w:=by
 have hTX:∀b,X b->¬(b=bp∨br=some b):=fun b hb h=>by
  rcases h with h|h
  ·exact(hX b hb).2.1 h
  ·exact(hX b hb).2.2.1 h
 have hR:Go.Bv.R ⟨fun b=>b=bp∨br=some b,[],0⟩ ⟨lo2 bp br,fun _=>none,lm P w,X⟩ w 136 (erS TB (pcC_st t m (mkT t) m.wE (eL m.L))) a ⟨lo2 bp br,fun _=>none,lm P w,X⟩ w:=by rw[erC];obtain⟨hW,hv⟩:=hp.to (G:=⟨lo2 bp br,fun _=>none,lm P w,X⟩) (T:=⟨fun b=>b=bp∨br=some b,[],0⟩) (f' :=false) (P:=P) (w' :=w) rfl rfl (fun _=>rfl) rfl (fun b hb=>⟨nt (hU1 b hb).1,(hU1 b hb).2,rfl⟩) ⟨fun h=>(hP _ h).2.1 rfl,.inl rfl,rfl⟩ (fun b hb=>⟨fun h=>(hP b h).2.2 hb,.inr hb,rfl⟩) (fun b hb=>(hP b hb).1);exact R.new rfl hW (fun b hb=>⟨(hX b hb).1,hTX b hb⟩) rfl (fun _ _ _=>rfl) (Mono.refl _ _) hd hz (sl1 (h5.to rfl (fun b hb=>⟨nt (hU1 b hb).1,(hU1 b hb).2,rfl⟩) fun b hb=>⟨hb,rfl⟩) (sl1 hv (sl1 (h8.to rfl (fun b hb=>⟨nt (hU1 b hb).1,(hU1 b hb).2,rfl⟩) fun b hb=>⟨hb,rfl⟩) (sl1 (h10.to rfl (fun b hb=>⟨yt (hU b hb).1,(hU b hb).2,rfl⟩) fun b hb=>⟨hb,rfl⟩) sl0))))
 have hT:∀b,(b=bp∨br=some b)->n<=b:=by
  rintro b (h|h)
  ·rw[h];exact hbp
  ·exact hbr b h
 refine piece Bs pcC_cs x0 (fun h=>by cases h) (pcC_w t m (mkT t) m.wE (eL m.L) (poC m t) ⟨hm,ht1,ht2,rfl,rfl,un_mkT t⟩ (fun _ _ _ _ h=>h)) (qbq _) hR (fun x a' G' w' hx hR' => ?_) (fun s1 a' G' w' hR' h6=>QE.of hch hn hT hR' h6);obtain⟨h0,h1,h2,h3,_⟩:=x;obtain⟨e0,e2,e3⟩:poC m t h0 h1 h2 h3:=hx;replace hR' :=R.eq (filC t t m m.wE (eL m.L) h0 h1 h2 h3) hR';rw[erC]at hR';subst e0;subst e2;subst e3;have hw:=hR'.wr;have hF:=hR'.fr;have hXe:G'.X=X:=hF.X.1;generalize hM:(addL m.wE m.L t).l=M at *
 have hSd:∀b,(G'.X b↔false=true)->0<G'.lim b->(0<G'.lim b/\¬X b):=fun b h1 h2=>⟨h2,fun h=>by rw[hXe]at h1;exact Bool.noConfusion (h1.1 h)⟩;have hl:((eL M).map encTentry).length=(eL M).length:=by simp
 obtain⟨bp',hlp,hpo,hlim,hlimr⟩:=Po.of (f:=false) (ds:=(eL M).map encTentry) hw (ip:=0) (ir:=3) qqo (hR'.sl 7) (by rw[hl];rfl) (by rw[cvEs_f (eL M)];rfl) hSd;obtain⟨b11,hl11,hlim11,hro⟩:=Ro.of_ptr (f:=false) (ds:=cP ⟨h1,M⟩) hw (hR'.sl 11) (by rw[cP_f ⟨h1,M⟩];rfl) (cP_ne _) hSd;have hr10:=Ro.of_ro (f:=true) (ds:=cT t) (S:=fun b=>X b/\0<G'.lim b) (hR'.sl 10) (cT_ne t) (fun b h1 h2=>⟨by rw[hXe]at h1;exact h1.2 rfl,h2⟩)
 have hnew:∀i b,i<4->G'.loc i=some b->b<w'.heap.size/\n<=b:=fun i b hi hb=>by
  obtain⟨q1,q2⟩:=hw.here i b hi (.inl hb);refine⟨q1,?_⟩;rcases q2 with q2|q2
  ·omega
  ·exact hT b q2
 refine hK a' w' bp' (G'.loc 3) b11 (fun b=>0<G'.lim b/\¬X b) (fun b=>X b/\0<G'.lim b) (fun b=>0<G'.lim b) h1 hR'.df hR'.sz (hch.trans (Ch.of hF hn hT)) hF.size hpo hro hr10 (fun b hb=>hb.1) (fun b hb=>⟨fun h=>h.2 hb.1,hb.2⟩) (fun b hb=>⟨?_,fun h=> ?_,fun h=> ?_,fun h=> ?_,?_⟩) (hnew 2 b11 qqo hl11).1 (fun h=> ?_) (fun h=> ?_) (hnew 0 bp' qqo hlp).2 (fun b hb=>(hnew 3 b qqo hb).2)
 ·rcases qbb b w'.heap.size with h|h
  ·exact h
  ·rw[hw.lim b h]at hb;omega
 ·rw[h,hlim]at hb;omega
 ·rw[hlimr b h]at hb;omega
 ·rw[h,hlim11]at hb;omega
 ·by_cases h:X b
  ·exact .inr (hX b h).2.2.2
  ·exact .inl ⟨hb,h⟩
 ·rw[h]at hl11;have:=hw.inj 0 2 bp' (show 0<4 by omega) (show 2<4 by omega) (.inl hlp) (.inl hl11) (kc rfl) (kc rfl);omega
 ·have:=hw.inj 3 2 b11 (show 3<4 by omega) (show 2<4 by omega) (.inl h) (.inl hl11) (kc rfl) (kc rfl);omega
def poB (t:wC):Int->Li->List wR->Int->Int->Int->Int->Int->Int->Li->Prop:=fun h0 h1 h2 h3 h4 h5 h6 h7 h8 h9=>wC.mk h0 h1 h2 h3 h4 h5 h6 h7 h8 h9=t
theorem stB {n:Nat} {w0 w:World} {a:Act} {U1:Nat->Prop} {t:wC} (hch:Ch n w0 w) (hn:n<=w.heap.size) (hd:a.defers=[]) (hz:a.tmps.size=136)
  (ht:TL t) (h5:Ro U1 U1 w (a.tmps.getD 5 undef) (cT t)) (hU1:∀b,U1 b->b<w.heap.size) {K:Act->World->Prop}
  (hK:∀(a' :Act) (w' :World) (b10:Nat) (U2 P' :Nat->Prop),a'.defers=[]->a'.tmps.size=136->Ch n w0 w'->w.heap.size<=w'.heap.size->a'.tmps.getD 7 undef=a.tmps.getD 7 undef->a'.tmps.getD 8 undef=a.tmps.getD 8 undef->
   (∀b,b<w.heap.size->w'.heap[b]? =w.heap[b]?)->Ro P' U1 w' (a'.tmps.getD 5 undef) (cT t)->Ro (fun x=>x=b10) U2 w' (a'.tmps.getD 10 undef) (cT t)->(∀b,U2 b->P' b/\w.heap.size<=b)->(∀b,P' b->b<w'.heap.size/\(U1 b∨w.heap.size<=b))->
   b10<w'.heap.size->w.heap.size<=b10->K a' w'):
  wpL Tryz.prog K (QE n w0) (itA 1 (itR 5 body)) a w:=by
 have hR:Go.Bv.R ⟨no,[],0⟩ ⟨fun _=>none,fun _=>none,lm U1 w,U1⟩ w 136 (erS TB (pcB_st (mkT t) (a.tmps.getD 7 undef) (a.tmps.getD 8 undef))) a ⟨fun _=>none,fun _=>none,lm U1 w,U1⟩ w:=by rw[erB];exact R.new rfl (wr0 (lm_size hU1)) (fun b hb=>⟨hU1 b hb,fun h=>h⟩) rfl (fun _ _ _=>rfl) (Mono.refl _ _) hd hz (sl1 (h5.to rfl (fun b hb=>⟨yt hb,hb,rfl⟩) fun b hb=>⟨hb,rfl⟩) (sl1 (.k _) (sl1 (.k _) sl0)))
 have hT:∀b,no b->n<=b:=fun b h=>h.elim;refine piece Bs pcB_cs x0 (fun h=>by cases h) (pcB_w (mkT t) (a.tmps.getD 7 undef) (a.tmps.getD 8 undef) (poB t) (by rw[un_mkT];exact ht) (fun _ _ _ _ _ _ _ _ _ _ h=>by rw[un_mkT]at h;exact h)) (qbq _) hR (fun x a' G' w' hx hR' => ?_) (fun s1 a' G' w' hR' h6=>QE.of hch hn hT hR' h6);obtain⟨h0,h1,h2,h3,h4,h5,h6,h7,h8,h9,_⟩:=x;replace hx:wC.mk h0 h1 h2 h3 h4 h5 h6 h7 h8 h9=t:=hx;replace hR' :=R.eq (filB t (a.tmps.getD 7 undef) (a.tmps.getD 8 undef) ⟨h0,h1,h2,h3,h4,h5,h6,h7,h8,h9⟩) hR';rw[erB,hx]at hR';have hw:=hR'.wr;have hF:=hR'.fr;have hXe:G'.X=U1:=hF.X.1
 have hlm:∀b,0<G'.lim b->b<w'.heap.size/\(U1 b∨w.heap.size<=b):=fun b hb=>by
  refine⟨?_,?_⟩
  ·rcases qbb b w'.heap.size with h|h
   ·exact h
   ·rw[hw.lim b h]at hb;omega
  ·rcases qbb b w.heap.size with h|h
   ·have e:G'.lim b=lm U1 w b:=(hF.same b h fun h=>h).2;rw[e]at hb;exact .inl (lm_pos hb)
   ·exact .inr h
 obtain⟨b10,hl10,hlim10,hro⟩:=Ro.of_ptr (f:=false) (ds:=cT t) (S:=fun b=>0<G'.lim b/\¬U1 b) hw (hR'.sl 10) (by rw[cT_f];rfl) (cT_ne _) (fun b h1 h2=>⟨h2,fun h=>by rw[hXe]at h1;exact Bool.noConfusion (h1.1 h)⟩);have hr5:=Ro.of_ro (f:=true) (ds:=cT t) (S:=U1) (hR'.sl 5) (cT_ne t) (fun b h1 h2=>by rw[hXe]at h1;exact h1.2 rfl);have h10:=hw.here 0 b10 (show 0<1 by omega) (.inl hl10);exact hK a' w' b10 (fun b=>0<G'.lim b/\¬U1 b) (fun b=>0<G'.lim b) hR'.df hR'.sz (hch.trans (Ch.of hF hn hT)) hF.size (hR'.sl 7).k_inv (hR'.sl 8).k_inv (fun b hb=>(hF.same b hb fun h=>h).1) hr5 hro (fun b hb=>⟨hb.1,(hlm b hb.1).2.resolve_left hb.2⟩) hlm h10.1 (h10.2.resolve_right fun h=>h)
def poA (p0:Int) (p1:List wAA) (p2:wC):Int->Li->List wR->Int->Int->Int->Int->Int->Int->Li->Int->Int->List wC->List wA->Prop:=fun h0 h1 h2 h3 h4 h5 h6 h7 h8 h9 h10 h11 h12 h13=>FA p1 [p2]/\wC.mk h0 h1 h2 h3 h4 h5 h6 h7 h8 h9=p2/\h10=capS p0/\h11=capS p0/\h12=runL (capS p0) p1/\h13=eL (runL (capS p0) p1)
theorem stA {n:Nat} {w:World} {a:Act} {G:Gh} {p0:Int} {p1:List wAA} {p2:wC} (hn:n=w.heap.size) (hok:OA p1 [p2]) (hR:Go.Bv.R (tkOf G []) G w 136 (erS TB (pcA_st p0 p1 p2)) a G w) {K:Act->World->Prop}
  (hK:∀(a' :Act) (w' :World) (bp:Nat) (br:On) (U1:Nat->Prop),a'.defers=[]->a'.tmps.size=136->Ch n w w'->n<=w'.heap.size->FA p1 [p2]->Ro U1 U1 w' (a'.tmps.getD 5 undef) (cT p2)->Po U1 w' (a'.tmps.getD 7 undef) bp br (capS p0) 12 ((eL (runL (capS p0) p1)).map encTentry)->
   Ro U1 U1 w' (a'.tmps.getD 8 undef) (cP ⟨capS p0,runL (capS p0) p1⟩)->(∀b,U1 b->b<w'.heap.size/\b≠bp/\br≠some b)->n<=bp->(∀b,br=some b->n<=b)->bp<w'.heap.size->(∀b,br=some b->b<w'.heap.size)->K a' w'):
  wpL Tryz.prog K (QE n w) (itA 5 (itR 0 body)) a w:=by
 have hT:∀b,(tkOf G []) b->n<=b:=fun b h=>by obtain⟨i,hi,_⟩:=h;exact absurd hi (Nat.not_lt_zero i)
 refine piece Bs pcA_cs x0 (fun h=>by cases h) (pcA_w p0 p1 p2 (poA p0 p1 p2) hok (fun _ _ _ _ _ _ _ _ _ _ _ _ _ _ h=>h)) (qr _) hR (fun x a' G' w' hx hR' => ?_) (fun s1 a' G' w' hR' h6=>QE.of (Ch.refl n w) (qdz hn) hT hR' h6);obtain⟨h0,h1,h2,h3,h4,h5,h6,h7,h8,h9,h10,h11,h12,h13,_⟩:=x;obtain⟨hfa,hx,e10,e11,e12,e13⟩:poA p0 p1 p2 h0 h1 h2 h3 h4 h5 h6 h7 h8 h9 h10 h11 h12 h13:=hx;replace hR' :=R.eq (filA p0 p1 p2 ⟨h0,h1,h2,h3,h4,h5,h6,h7,h8,h9⟩ h10 ⟨h11,h12⟩ h13) hR';rw[hx]at hR';subst e10;subst e11;subst e12;subst e13;have hw:=hR'.wr;have hF:=hR'.fr;generalize runL (capS p0) p1=M at *
 have hl:((eL M).map encTentry).length=(eL M).length:=by simp
 have hSd:∀b,(G'.X b↔false=true)->0<G'.lim b->0<G'.lim b:=fun b _ h=>h;obtain⟨bp,hlp,hpo,hlim,hlimr⟩:=Po.of (f:=false) (ds:=(eL M).map encTentry) hw (ip:=1) (ir:=3) qqo (hR'.sl 7) (by rw[hl];rfl) (by rw[cvEs_f (eL M)];rfl) hSd;obtain⟨b5,hl5,hlim5,hr5⟩:=Ro.of_ptr (f:=false) (ds:=cT p2) hw (hR'.sl 5) (by rw[cT_f];rfl) (cT_ne _) hSd;obtain⟨b8,hl8,hlim8,hr8⟩:=Ro.of_ptr (f:=false) (ds:=cP ⟨capS p0,M⟩) hw (hR'.sl 8) (by rw[cP_f ⟨capS p0,M⟩];rfl) (cP_ne _) hSd
 have hnew:∀i b,i<4->G'.loc i=some b->b<w'.heap.size/\n<=b:=fun i b hi hb=>by
  obtain⟨q1,q2⟩:=hw.here i b hi (.inl hb);refine⟨q1,?_⟩;rcases q2 with q2|q2
  ·omega
  ·exact hT b q2
 refine hK a' w' bp (G'.loc 3) (fun b=>0<G'.lim b∨b=b5∨b=b8) hR'.df hR'.sz (Ch.of hF (qdz hn) hT) (by rw[hn];exact hF.size) hfa (hr5.mono (fun b hb=>⟨.inl hb,rfl⟩) fun b hb=>⟨.inr (.inl hb),rfl⟩) ?_ (hr8.mono (fun b hb=>⟨.inl hb,rfl⟩) fun b hb=>⟨.inr (.inr hb),rfl⟩) (fun b hb=> ?_) (hnew 1 bp qqo hlp).2 (fun b hb=>(hnew 3 b qqo hb).2) (hnew 1 bp qqo hlp).1 (fun b hb=>(hnew 3 b qqo hb).1)
 ·obtain⟨q1,q2,q3,q4⟩:=hpo;refine⟨q1,q2,q3,?_⟩;rcases q4 with q4|⟨b,e,cs,r1,r2,r3,r4,r5⟩
  ·exact .inl q4
  ·exact .inr ⟨b,e,cs,r1,r2,r3,r4,fun i u d hu hd=>(r5 i u d hu hd).to (f' :=false) (j:=false) fun x hx=>⟨⟨False.elim,fun h=>by cases h⟩,.inl hx,rfl⟩⟩
 ·rcases hb with hb|rfl|rfl
  ·refine⟨?_,fun h=> ?_,fun h=> ?_⟩
   ·rcases qbb b w'.heap.size with h|h
    ·exact h
    ·rw[hw.lim b h]at hb;omega
   ·rw[h,hlim]at hb;omega
   ·rw[hlimr b h]at hb;omega
  ·refine⟨(hnew 0 b qqo hl5).1,fun h=> ?_,fun h=> ?_⟩
   ·rw[<-h]at hlp;have:=hw.inj 0 1 b (show 0<4 by omega) (show 1<4 by omega) (.inl hl5) (.inl hlp) (kc rfl) (kc rfl);omega
   ·have:=hw.inj 0 3 b (show 0<4 by omega) (show 3<4 by omega) (.inl hl5) (.inl h) (kc rfl) (kc rfl);omega
  ·refine⟨(hnew 2 b qqo hl8).1,fun h=> ?_,fun h=> ?_⟩
   ·rw[<-h]at hlp;have:=hw.inj 2 1 b (show 2<4 by omega) (show 1<4 by omega) (.inl hl8) (.inl hlp) (kc rfl) (kc rfl);omega
   ·have:=hw.inj 2 3 b (show 2<4 by omega) (show 3<4 by omega) (.inl hl8) (.inl h) (kc rfl) (kc rfl);omega
theorem de:itA 1 (itR 8 body)=[.seq (sqA (itR 8 body)) (sqB (itR 8 body))]:=by kernel_rfl
theorem iso_law (p0:Int) (p1:List wAA) (p2:wC) (hok:OA p1 [p2]):SoundH Tryz.prog 3 [.d (.int .i64 p0),er TB (tvd (.sl (.st 1)) p1),.agg ((cT p2).map V.d)] [] (.d (.bool true)) []:=by
 refine kko (t:=6) (N:=136) (c:=body) Tryz.func3 qqk qqk (qcy rfl) qqk fun G w a hR=> ?_;generalize hn:w.heap.size=n;show(itR 0 body).wp Tryz.prog (QE n w) a w;refine wp_nx (m:=0) (n:=5) (stA hn.symm hok hR fun a1 w1 bp br U1 hd1 hz1 hch1 hn1 hfa h5 h7 h8 hU1 hbp hbr hbps hbrs=> ?_);obtain⟨q1,q2⟩:=run_all (c:=capS p0) hfa;have ht:=hfa.s p2 qqs;have hc:=capS_nn p0;have ha:=hfa.a;generalize hM:runL (capS p0) p1=M at *
 refine wp_nx (m:=5) (n:=1) (stB hch1 hn1 hd1 hz1 ht.2 h5 (fun b hb=>(hU1 b hb).1) fun a2 w2 b10 U2 P2 hd2 hz2 hch2 hsz2 e7 e8 hsame r5 r10 hU2 hP2 hb10 hb10' => ?_)
 refine wp_nx (m:=6) (n:=2) (stC (U1:=U1) (U:=U2) (X:=fun b=>U2 b∨b=b10) (P:=fun b=>U1 b∨P2 b∨b=b10) (bp:=bp) (br:=br) (t:=p2) (m:=⟨capS p0,M⟩) hch2 qqo hd2 hz2 ⟨q1,by show M.length<=_;omega,hc⟩ ht.1 ht.2
  (r5.mono (fun b hb=>⟨hb,rfl⟩) fun b hb=>⟨.inr (.inl hb),rfl⟩)
  (by rw[e7];exact h7.mono (J:=no) (fun b hb _=>hsame b hb) (fun b hb=>⟨(hU1 b hb).1,fun h=>h,hb⟩) (fun h=>h) fun b _ h=>h)
  (by rw[e8];exact h8.mono (fun b hb=>⟨hb,hsame b (hU1 b hb).1⟩) fun b hb=>⟨.inl hb,hsame b (hU1 b hb).1⟩)
  (r10.mono (fun b hb=>⟨hb,rfl⟩) fun b hb=>⟨.inr (.inr hb),rfl⟩)
  (fun b hb=>⟨fun h=> ?_,.inl hb⟩) (fun b hb=>⟨.inl hb,.inr (.inl (hU2 b hb).1)⟩) (fun b hb=> ?_) (fun b hb=> ?_) hbp hbr fun a3 w3 bp' br' b11 S' U' P' c' hd3 hz3 hch3 hsz3 s7 s11 s10 hS' hU' hP' k1 k2 k3 k4 k5=> ?_)
 ·have:=(hU1 b hb).1;rcases h with h|h
  ·have:=(hU2 b h).2;omega
  ·omega
 ·have h1:b<w2.heap.size/\w1.heap.size<=b:=by
   rcases hb with h|h
   ·exact⟨(hP2 b (hU2 b h).1).1,(hU2 b h).2⟩
   ·exact⟨by omega,by omega⟩
  exact⟨h1.1,by omega,fun h=>by have:=hbrs b h;omega,by omega⟩
 ·rcases hb with h|h|h
  ·obtain⟨z1,z2,z3⟩:=hU1 b h;exact⟨by omega,z2,z3⟩
  ·obtain⟨z1,z2⟩:=hP2 b h;refine⟨z1,?_⟩;rcases z2 with z2|z2
   ·exact(hU1 b z2).2
   ·exact⟨by omega,fun h=>by have:=hbrs b h;omega⟩
  ·exact⟨by omega,by omega,fun h=>by have:=hbrs b h;omega⟩
 obtain⟨g1,g2⟩:=addL_ok (c:=capS p0) (t:=p2) q1 ht.1;replace s7:Po S' w3 (a3.tmps.getD 7 undef) bp' br' (capS p0) 12 ((eL (addL (capS p0) M p2).l).map encTentry):=s7;replace s11:Ro (fun x=>x=b11) S' w3 (a3.tmps.getD 11 undef) (cP ⟨c',(addL (capS p0) M p2).l⟩):=s11;generalize (addL (capS p0) M p2).l=M' at *
 have hE:EL (eL M'):=EL.of g1.v qqo;refine wp_nx (m:=8) (n:=1) ?_;rw[de]
 refine wp_two (stD (S:=S') (U:=U') (B:=P') (X:=fun b=>S' b∨b=b11) (P:=P') (g:=p2) (L:=eL M') hch3 qqo hd3 hz3 hE s7 s10 (fun b hb=>⟨.inl hb,hS' b hb⟩) (fun b hb=>⟨fun h=> ?_,(hU' b hb).2⟩) (fun b hb=>hb) (fun b hb=> ?_) (fun b hb=> ?_) k4 k5
  fun a4 w4 bp4 br4 J hd4 hz4 e11 hch4 hsz4 p7 y1 y2 y3 y4 y5 y6 h60 h61 h62 hJ hXs=> ?_)
 ·rcases h with h|h
  ·exact(hU' b hb).1 h
  ·exact(hP' b (hU' b hb).2).2.2.2.1 h
 ·rcases hb with h|h
  ·obtain⟨z1,z2,z3,_⟩:=hP' b (hS' b h);exact⟨z1,z2,z3⟩
  ·rw[h];exact⟨k1,k2,k3⟩
 ·obtain⟨z1,z2,z3,_,z5⟩:=hP' b hb;exact⟨z1,z2,z3,z5.imp .inl id⟩
 have hXn:∀b,(S' b∨b=b11)->b<w3.heap.size:=fun b hb=>by
  rcases hb with h|h
  ·exact(hP' b (hS' b h)).1
  ·rw[h];exact k1
 rw[tL_eL]at h60 h61;refine stE (l:=M' ++[p2]) hch4 qqo hd4 hz4 ⟨by simp;omega,fun x hx=> ?_⟩ h60 h61 h62 (fun b hb=>⟨(hJ b hb).1,(hJ b hb).2.1,hch4.fz b fun c e f hcc=> ?_⟩) fun a5 w5 hd5 hz5 f7 f11 hch5 hsz5 hoff=> ?_
 ·rcases qaz.1 hx with h|h
  ·exact(g1.v x h).tl
  ·rw[qbn.1 h];exact ht.2
 ·rw[Array.getElem?_eq_none (by rw[hn];exact(hJ b hb).2.1)]at hcc;cases hcc
 show(itR 9 body).wp Tryz.prog (QE n w) a5 w5;have hX5:∀b,(S' b∨b=b11)->w5.heap[b]? =w3.heap[b]? :=fun b hb=>by have:=hXn b hb;rw[hoff b qqo fun h=>(hJ b h).2.2 hb,hXs b hb]
 refine stF (m:=⟨c',M'⟩) (L:=eL M') (S:=fun b=>S' b∨b=b11) (bp:=bp4) (br:=br4) hch5 qqo hd5 hz5 ⟨rfl,g1.v,by show M'.length<=_;omega⟩ (by rw[f7];exact p7.mono hoff (fun b hb=>⟨by have:=hXn b hb;omega,fun h=>(hJ b h).2.2 hb,hb⟩) y5 y6) ?_ (fun b hb=>⟨?_,fun h=> ?_,fun h=> ?_⟩) y1 y2
 ·rw[f11,e11];exact s11.mono (fun b hb=>⟨.inl hb,hX5 b (.inl hb)⟩) fun b hb=>⟨.inr hb,hX5 b (.inr hb)⟩
 ·have:=hXn b hb;omega
 ·rw[h]at hb;exact y3 hb
 ·exact y4 b h hb
noncomputable def kk:Ct:= .gp 3 [yqi,.sl (.st 1),.st 2] [.bool] [] fun(p0:Int) (p1:List wAA) (p2:wC)=>(OA p1 [p2],true,())
theorem k5p:kk.O:=by refine⟨cal Tryz.func3 qqk,fun x K hx=> ?_⟩;obtain⟨(p0:Int),(p1:List wAA),(a0:Int),(a1:Li),(a2:List wR),(a3:Int),(a4:Int),(a5:Int),(a6:Int),(a7:Int),(a8:Int),(a9:Li),_⟩:=x;obtain⟨hx,hK⟩:=hx;exact⟨_,hK,iso_law p0 p1 ⟨a0,a1,a2,a3,a4,a5,a6,a7,a8,a9⟩ hx⟩
end Go.Proofs.YtghlnaoogfcldaaGreat
end
