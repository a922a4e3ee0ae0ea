/-
  Parts of the proofs that the laws of this seat hold of every input, merged by a program: a machine over pure data that is sound for the model, what each function of the translation does in it, and plain lemmas. No conditions but those in each theorem.
-/
import Derived.Test.YtcghahkoioeddaaGreatDoorA5
set_option linter.all false
set_option maxRecDepth 100000
noncomputable section
namespace Go.Proofs.YtcghahkoioeddaaGreatDoor
open Go Go.Bv Go.Cv Go.Md Go.RowKit
open Go.IntKind (i64 u64)
noncomputable def k4t:Con TB.den:= .gp 382 [yqu,yqi,yqi] [yqu] [] fun(p0 p1 p2:Int)=>(p0=18446744069414584321/\(0<=p1/\p1<8)/\0<=p2/\p2<3,(rc p1 p2:Int),())
theorem k5e:k4t.Ok Tryz.prog TB:=qrv Bs Tryz.func382 .no (kds.c c0) (Q:=∀(p0 p1 p2:Int),(p0=18446744069414584321/\(0<=p1/\p1<8)/\0<=p2/\p2<3)->∀r0:Int,rc p1 p2=r0-> 
(decide (p1<0)=true->
 0=r0)/\
(decide (p1<0)=false->
(decide (8<=p1)=true->
 0=r0)/\
(decide (8<=p1)=false->
(decide (p2<0)=true->
 0=r0)/\
(decide (p2<0)=false->
(decide (2<p2)=true->
 0=r0)/\
(decide (2<p2)=false->
 let v1:Int:=i64.wrap ((i64.wrap (3*p1))+p2)
 let v2:Int:=u64.wrap (i64.wrap (v1+1))
 let v3:Int:=u64.wrap (v2*11400714819323198485)
((wo.mk p0).P=18446744069414584321/\U64 v3)/\(v3%18446744069414584321)=r0)))))<|by
 rintro p0 p1 p2 h _ rfl;obtain⟨hP,h1,h2⟩:=h;refine⟨fun h=> ?_,fun _=>⟨fun h=> ?_,fun _=>⟨fun h=> ?_,fun _=>⟨fun h=> ?_,fun _=> ?_⟩⟩⟩⟩
 ·simp at h;omega
 ·simp at h;omega
 ·simp at h;omega
 ·simp at h;omega
 ·simp only[];rw[wi (3*p1) qqo qqo,wi (3*p1+p2) qqo qqo,wi (3*p1+p2+1) qqo qqo,wu (3*p1+p2+1) qqo qqo,u64w];exact⟨⟨hP,by omega,by omega⟩,rfl⟩
noncomputable def k8n:Con TB.den:= .gp 383 [yqu,.st 8] [.st 8] [] fun(p0:Int) (p1:wAD)=>(p0=18446744069414584321/\S3 p1,(mixS p1:wAD),())
theorem kab:k8n.Ok Tryz.prog TB:=qrv Bs Tryz.func383 .no (k59.c c0) (Q:=∀(p0:Int) (p1:wAD),(p0=18446744069414584321/\S3 p1)->∀r0:wAD,mixS p1=r0-> 
((wo.mk p0).P=18446744069414584321/\U64 p1.a0/\U64 p1.a1)/\((wo.mk p0).P=18446744069414584321/\U64 ((p1.a0+p1.a1)%18446744069414584321)/\U64 p1.a2)/\let r1:Int:=((((p1.a0+p1.a1)%18446744069414584321)+p1.a2)%18446744069414584321)
((wo.mk p0).P=18446744069414584321/\U64 p1.a0/\U64 r1)/\((wo.mk p0).P=18446744069414584321/\U64 p1.a1/\U64 r1)/\((wo.mk p0).P=18446744069414584321/\U64 p1.a2/\U64 r1)/\((p1.a0+r1)%18446744069414584321)=r0.a0/\((p1.a1+r1)%18446744069414584321)=r0.a1/\((p1.a2+r1)%18446744069414584321)=r0.a2)<|by rintro p0 p1 h _ rfl;obtain⟨hP,h0,h1,h2⟩:=h;refine ?_;simp only[hP];exact⟨⟨by trivial,h0,h1⟩,⟨by trivial,by omega,h2⟩,⟨by trivial,h0,by omega⟩,⟨by trivial,h1,by omega⟩,⟨by trivial,h2,by omega⟩,rfl,rfl,rfl⟩
noncomputable def k5h:Con TB.den:= .gp 299 [yqu,.st 8] [.st 8] [] fun(p0:Int) (p1:wAD)=>(p0=18446744069414584321/\S3 p1,(permS p1:wAD),())
theorem k66:k5h.Ok Tryz.prog TB:=qrv Bs Tryz.func299 (.r 3 (.nd [] (.r 0 (.lp [] ⟨[0],yG1,[17],[.one (zqi)],[]⟩ (.r 1 (.nd [] (.r 0 (.nd [] (.r 0 (.lp [] ⟨[0],yG1,[20],[.one (zqi)],[]⟩ .no)) [] .no)) [] .no)))) [] .no)) (k1e.c (kag.c (k5e.c (k59.c (kjr.c (kab.c c0)))))) (Q:=∀(p0:Int) (p1:wAD),(p0=18446744069414584321/\S3 p1)->∀r0:wAD,permS p1=r0-> 
((wo.mk p0).P=18446744069414584321)/\((!true)=true->
 0=r0.a0/\0=r0.a1/\0=r0.a2)/\
((!true)=false->
((wo.mk p0).P=18446744069414584321)/\∃(I1:Int->Int->Int->Int->Prop) (M1:Int->Int->Int->Int->Nat),I1 0 p1.a0 p1.a1 p1.a2/\∀b1 f1 i1 k1,(I1 b1 f1 i1 k1->
(decide (b1<8)=true->
 ∃(I2:Int->Int->Int->Int->Prop) (M2:Int->Int->Int->Int->Nat),I2 0 f1 i1 k1/\∀l1 m1 n1 o1,(I2 l1 m1 n1 o1->
(decide (l1<3)=true->
(0<=l1/\l1<(3:Int))/\(0<=l1/\l1<(3:Int))/\(p0=18446744069414584321/\(0<=b1/\b1<8)/\0<=l1/\l1<3)/\((wo.mk p0).P=18446744069414584321/\U64 (ix [m1,n1,o1] l1)/\U64 (rc b1 l1))/\let r1:Int:=(((ix [m1,n1,o1] l1)+(rc b1 l1))%18446744069414584321)
((wo.mk p0).P=18446744069414584321/\U64 r1/\U64 (7:Int))/\let r2:Int:=(pw (r1%18446744069414584321) (7:Int))
(0<=l1/\l1<(3:Int))/\(0<=l1/\l1<(3:Int))/\I2 (i64.wrap (l1+1)) (bif decide (l1=(0:Int))then r2 else m1) (bif decide (l1=(1:Int))then r2 else n1) (bif decide (l1=(2:Int))then r2 else o1)/\M2 (i64.wrap (l1+1)) (bif decide (l1=(0:Int))then r2 else m1) (bif decide (l1=(1:Int))then r2 else n1) (bif decide (l1=(2:Int))then r2 else o1)<M2 l1 m1 n1 o1)/\
(decide (l1<3)=false->
(p0=18446744069414584321/\S3 (wAD.mk m1 n1 o1))/\I1 (i64.wrap (b1+1)) ((mixS (wAD.mk m1 n1 o1)).a0) ((mixS (wAD.mk m1 n1 o1)).a1) ((mixS (wAD.mk m1 n1 o1)).a2)/\M1 (i64.wrap (b1+1)) ((mixS (wAD.mk m1 n1 o1)).a0) ((mixS (wAD.mk m1 n1 o1)).a1) ((mixS (wAD.mk m1 n1 o1)).a2)<M1 b1 f1 i1 k1)))/\
(decide (b1<8)=false->
 f1=r0.a0/\i1=r0.a1/\k1=r0.a2))))<|by
 rintro p0 p1 h _ rfl;obtain⟨hP,hs⟩:=h;subst hP;refine⟨rfl,fun h=>by simp at h,fun _=>⟨rfl,?_⟩⟩;refine⟨(fun n a b c=>0<=n/\n<=8/\(⟨a,b,c⟩:wAD)=rnds n.toNat p1/\S3 ⟨a,b,c⟩),(fun n _ _ _=>(8-n).toNat),⟨by omega,by omega,rfl,hs⟩,?_⟩;rintro n a b c ⟨g0,g1,g2,g3⟩;refine⟨fun h=> ?_,fun h=> ?_⟩
 ·have h:=qb h;refine⟨(fun i x y z=>(i=0/\x=a/\y=b/\z=c)∨(i=1/\x=pw ((a+rc n 0)%18446744069414584321) 7/\y=b/\z=c)∨(i=2/\x=pw ((a+rc n 0)%18446744069414584321) 7/\y=pw ((b+rc n 1)%18446744069414584321) 7/\z=c)∨(i=3/\x=pw ((a+rc n 0)%18446744069414584321) 7/\y=pw ((b+rc n 1)%18446744069414584321) 7/\z=pw ((c+rc n 2)%18446744069414584321) 7)),(fun i _ _ _=>(3-i).toNat),(.inl ⟨rfl,rfl,rfl,rfl⟩),?_⟩;intro i x y z hi;have hrc:∀k,U64 (rc n k):=fun k=>by unfold rc;omega
  have hpw:∀k e,0<=pw k e/\pw k e<18446744069414584321:=fun k e=>⟨qcm _ qqo,qca _ qqo⟩;obtain⟨h3a,h3b,h3c⟩:=g3;refine⟨fun hh=> ?_,fun hh=> ?_⟩
  ·have hh:=qb hh;rcases hi with⟨rfl,rfl,rfl,rfl⟩|⟨rfl,rfl,rfl,rfl⟩|⟨rfl,rfl,rfl,rfl⟩|⟨rfl,_⟩
   ·refine⟨by omega,by omega,⟨rfl,by omega,by omega⟩,⟨rfl,h3a,hrc _⟩,⟨rfl,?_,by omega⟩,by omega,by omega,.inr (.inl ⟨rfl,?_,rfl,rfl⟩),by(dsimp only;decide)⟩
    ·exact⟨qcm _ qqo,Int.lt_trans (qca _ qqo) qqo⟩
    ·show pw ((x+rc n 0)%18446744069414584321%18446744069414584321) 7=_;rw[qea _ (qfo _)]
   ·refine⟨by omega,by omega,⟨rfl,by omega,by omega⟩,⟨rfl,h3b,hrc _⟩,⟨rfl,?_,by omega⟩,by omega,by omega,.inr (.inr (.inl ⟨rfl,rfl,?_,rfl⟩)),by(dsimp only;decide)⟩
    ·exact⟨qcm _ qqo,Int.lt_trans (qca _ qqo) qqo⟩
    ·show pw ((y+rc n 1)%18446744069414584321%18446744069414584321) 7=_;rw[qea _ (qfo _)]
   ·refine⟨by omega,by omega,⟨rfl,by omega,by omega⟩,⟨rfl,h3c,hrc _⟩,⟨rfl,?_,by omega⟩,by omega,by omega,.inr (.inr (.inr ⟨rfl,rfl,rfl,?_⟩)),by(dsimp only;decide)⟩
    ·exact⟨qcm _ qqo,Int.lt_trans (qca _ qqo) qqo⟩
    ·show pw ((z+rc n 2)%18446744069414584321%18446744069414584321) 7=_;rw[qea _ (qfo _)]
   ·omega
  ·have hh:=qc hh;rcases hi with⟨rfl,_⟩|⟨rfl,_⟩|⟨rfl,_⟩|⟨rfl,rfl,rfl,rfl⟩
   ·omega
   ·omega
   ·omega
   ·have e:rnds (n+1).toNat p1=rnd ⟨a,b,c⟩ n:=by rw[show(n+1).toNat=n.toNat+1 by omega];show rnd (rnds n.toNat p1) (n.toNat:Int)=_;rw[<-g2,show(n.toNat:Int)=n by omega]
    have hS:S3 (rnds (n+1).toNat p1):=by rw[e];unfold rnd mixS S3;dsimp only;omega
    have hinc:i64.wrap (n+1)=n+1:=wi _ qqo qqo;rw[hinc];refine⟨⟨rfl,by unfold S3;have:=hpw ((a+rc n 0)%18446744069414584321) 7;have:=hpw ((b+rc n 1)%18446744069414584321) 7;have:=hpw ((c+rc n 2)%18446744069414584321) 7;dsimp only;omega⟩,(?_:0<=n+1/\n+1<=8/\_/\_),(?_:(8-(n+1)).toNat<(8-n).toNat)⟩
    ·refine⟨by omega,by omega,e.symm,?_⟩;rw[e]at hS;exact hS
    ·omega
 ·have h:=qc h;rw[show n=8 by omega]at g2;have g2:(⟨a,b,c⟩:wAD)=permS p1:=g2;rw[<-g2];exact⟨rfl,rfl,rfl⟩
noncomputable def kbb:Con TB.den:= .gp 222 [yqu,yqu,.sl yqu] [.st 8] [] fun(p0 p1:Int) (p2:List Int)=>(p0=18446744069414584321/\U64 p1/\Us p2/\p2.length<=1099511627776,(absS p1 p2:wAD),())
theorem kce:kbb.Ok Tryz.prog TB:=qrv Bs Tryz.func222 (.r 3 (.nd [] (.r 0 (.lp [] ⟨[146],yG1,[9],[.one (zqi)],[]⟩ (.r 0 (.nd [] (.r 0 (.jn ⟨[146],yG1,[],[],[]⟩ [] .no [] .no)) [] .no)))) [] .no)) (kj0.c (k59.c (k66.c c0))) (Q:=∀(p0 p1:Int) (p2:List Int),(p0=18446744069414584321/\U64 p1/\Us p2/\p2.length<=1099511627776)->∀r0:wAD,absS p1 p2=r0-> 
((wo.mk p0).P=18446744069414584321/\U64 p1/\U64 (65536:Int))/\let r1:Int:=(p1*(65536:Int)%18446744069414584321)
((wo.mk p0).P=18446744069414584321/\U64 r1/\U64 (u64.wrap (p2.length:Int)))/\let r2:Int:=((r1+(u64.wrap (p2.length:Int)))%18446744069414584321)
(((p2.length:Int)==0)=true->
(p0=18446744069414584321/\S3 (wAD.mk 0 0 r2))/\(permS (wAD.mk 0 0 r2)).a0=r0.a0/\(permS (wAD.mk 0 0 r2)).a1=r0.a1/\(permS (wAD.mk 0 0 r2)).a2=r0.a2)/\
(((p2.length:Int)==0)=false->
 ∃(I1:Int->Int->Int->Int->Prop) (M1:Int->Int->Int->Int->Nat),I1 0 0 0 r2/\∀b1 f1 i1 k1,(I1 b1 f1 i1 k1->
(decide (b1<(p2.length:Int))=true->
(0<=b1)/\b1<(p2.length:Int)/\((wo.mk p0).P=18446744069414584321/\U64 f1/\U64 (ix p2 b1))/\let r3:Int:=((f1+(ix p2 b1))%18446744069414584321)
 ∀J1:Int->Int->Int->Prop,(∀(l1 m1 n1:Int),
((p0=18446744069414584321/\S3 (wAD.mk l1 m1 n1))/\I1 (i64.wrap (b1+2)) ((permS (wAD.mk l1 m1 n1)).a0) ((permS (wAD.mk l1 m1 n1)).a1) ((permS (wAD.mk l1 m1 n1)).a2)/\M1 (i64.wrap (b1+2)) ((permS (wAD.mk l1 m1 n1)).a0) ((permS (wAD.mk l1 m1 n1)).a1) ((permS (wAD.mk l1 m1 n1)).a2)<M1 b1 f1 i1 k1)->J1 l1 m1 n1)->
 let v4:Bool:=decide ((i64.wrap (b1+1))<(p2.length:Int))
(v4=true->
(0<=i64.wrap (b1+1))/\i64.wrap (b1+1)<(p2.length:Int)/\((wo.mk p0).P=18446744069414584321/\U64 i1/\U64 (ix p2 (i64.wrap (b1+1))))/\let r5:Int:=((i1+(ix p2 (i64.wrap (b1+1))))%18446744069414584321)
 J1 r3 r5 k1)/\
(v4=false->
 J1 r3 i1 k1))/\
(decide (b1<(p2.length:Int))=false->
 f1=r0.a0/\i1=r0.a1/\k1=r0.a2))))<|by
 rintro p0 p1 p2 h _ rfl;obtain⟨hP,h1,h2,h3⟩:=h;subst hP;have hp:∀s:wAD,S3 (permS s):=fun s=>by show S3 (rnd _ _);unfold rnd mixS S3;dsimp only;omega
 have hi:S3 (absI p1 p2):=by unfold absI S3;dsimp only;omega
 have e:u64.wrap (p2.length:Int)=p2.length:=wu _ qqo qqo;have em:(p1*65536%18446744069414584321+(p2.length:Int))%18446744069414584321=(absI p1 p2).a2:=rfl;rw[e];refine⟨⟨rfl,h1,by omega⟩,⟨rfl,by omega,by omega⟩,fun h=> ?_,fun h=> ?_⟩
 ·have h:p2=[]:=by simpa using h
  refine⟨⟨rfl,?_⟩,?_⟩
  ·exact hi
  ·have:permS ⟨0,0,(p1*65536%18446744069414584321+(p2.length:Int))%18446744069414584321⟩=absS p1 p2:=by unfold absS;rw[qh h];rfl
   rw[this];exact⟨rfl,rfl,rfl⟩
 ·have h:p2≠[]:=by simpa using h
  have hv:absL p2 (absI p1 p2)=absS p1 p2:=by unfold absS;rw[qe h]
  rw[em];refine⟨fun i a b c=>0<=i/\i<=p2.length+1/\absL (p2.drop i.toNat) ⟨a,b,c⟩=absS p1 p2/\S3 ⟨a,b,c⟩,fun i _ _ _=>(p2.length+2-i).toNat,⟨by omega,by omega,hv,hi⟩,?_⟩;rintro i a b c ⟨g0,g1,g2,g3⟩;obtain⟨h3a,h3b,h3c⟩:=g3;refine⟨fun hh=> ?_,fun hh=> ?_⟩
  ·have hh:=qb hh;have hx:=h2 _ (ix_mem p2 i g0 hh);refine⟨g0,hh,⟨rfl,h3a,hx⟩,fun J1 j=> ?_⟩;rw[wi (i+1) qqo qqo];have fin:∀x y z,S3 ⟨x,y,z⟩->absL (p2.drop (i+2).toNat) (permS ⟨x,y,z⟩)=absS p1 p2->J1 x y z:=by intro x y z hS hv';refine j _ _ _ ?_;rw[wi (i+2) qqo qqo];exact⟨⟨rfl,hS⟩,⟨by omega,by omega,hv',hp _⟩,by(dsimp only;omega)⟩
   have hdrop:=drop_ix p2 i g0 hh;rw[hdrop]at g2;refine⟨fun h5=> ?_,fun h5=> ?_⟩
   ·have h5:=qb h5;have hy:=h2 _ (ix_mem p2 (i+1) qqo h5);rw[drop_ix p2 (i+1) qqo h5,show i+1+1=i+2 by omega]at g2;exact⟨by omega,h5,⟨rfl,h3b,hy⟩,fin _ _ _ (S3m qqo qqo h3c) g2⟩
   ·have h5:=qc h5;have ed:p2.drop (i+1).toNat=[]:=qbp qqo;have ed2:p2.drop (i+2).toNat=[]:=qbp qqo;rw[ed]at g2;exact fin _ _ _ (S3m qqo h3b h3c) (by rw[ed2];exact g2)
  ·have hh:=qc hh;rw[qbp qqo]at g2;have g2:(⟨a,b,c⟩:wAD)=absS p1 p2:=g2;rw[<-g2];exact⟨rfl,rfl,rfl⟩
noncomputable def kdw:Con TB.den:= .gp 161 [yqu,yqu,.sl yqu] [yqu] [] fun(p0 p1:Int) (p2:List Int)=>(p0=18446744069414584321/\U64 p1/\Us p2/\p2.length<=1099511627776,(hashS p1 p2:Int),())
theorem k14:kdw.Ok Tryz.prog TB:=qrv Bs Tryz.func161 .no (k1e.c (kce.c c0)) (Q:=∀(p0 p1:Int) (p2:List Int),(p0=18446744069414584321/\U64 p1/\Us p2/\p2.length<=1099511627776)->∀r0:Int,hashS p1 p2=r0-> 
((wo.mk p0).P=18446744069414584321)/\((!true)=true->
 0=r0)/\
((!true)=false->
(p0=18446744069414584321/\U64 p1/\Us p2/\p2.length<=1099511627776)/\(absS p1 p2).a0=r0))<|by rintro p0 p1 p2 h _ rfl;obtain⟨hP,h1,h2,h3⟩:=h;subst hP;exact⟨rfl,fun h=>by simp at h,fun _=>⟨⟨rfl,h1,h2,h3⟩,rfl⟩⟩
noncomputable def kal:Con TB.den:= .gp 109 [yqu,yqu] [yqu] [] fun(p0 p1:Int)=>(U64 p0/\U64 p1,(hashS 6 [p0,p1]:Int),())
theorem k1w:kal.Ok Tryz.prog TB:=qrv Bs Tryz.func109 .no (k14.c c0) (Q:=∀(p0 p1:Int),(U64 p0/\U64 p1)->∀r0:Int,(hashS 6 [p0,p1])=r0-> 
((18446744069414584321:Int)=18446744069414584321/\U64 (6:Int)/\Us [p0,p1]/\[p0,p1].length<=1099511627776)/\(hashS (6:Int) [p0,p1])=r0)<|by
 rintro p0 p1 h _ rfl;refine⟨⟨rfl,by decide,?_,by simp⟩,rfl⟩;intro x hx;simp only[qam,qet,or_false]at hx;rcases hx with rfl|rfl
 ·exact h.1
 ·exact h.2
noncomputable def k8v:Con TB.den:= .gp 166 [.st 6,yqu] [.st 6,yqi] [] fun(p0:wD) (p1:Int)=>(FV p0/\p0.wZ<((2^p0.wC.toNat:Nat):Int)/\0<=p1/\p1<18446744069414584321,(apF p0 p1:wD),(0:Int),())
theorem k9w:k8v.Ok Tryz.prog TB:=qrv Bs Tryz.func166 (.r 0 (.nd [] (.jn ⟨[],[],[15],[.one (.d (.bool))],[]⟩ [] .no [] .no) [] (.r 2 (.nd [] (.lp [] ⟨[98],[.vec yqu],[7,8],[.one (zqi),.one (zqu)],[]⟩ .no) [] (.r 1 (.rt [.frzc 98 1 2])))))) (k48.c (k37.c (k1w.c c0))) (Q:=∀(p0:wD) (p1:Int),(FV p0/\p0.wZ<((2^p0.wC.toNat:Nat):Int)/\0<=p1/\p1<18446744069414584321)->∀r0:wD,apF p0 p1=r0->∀r1:Int,(0:Int)=r1-> 
 ∀J1:Bool->Prop,(∀(b1:Bool),
((b1=true->
 0=r0.wC/\0=r0.wZ/\([]:List Int)=r0.wc/\1=r1)/\
(b1=false->
(0<=p0.wC)/\((p0.wZ==(ishl .i64 1 p0.wC))=true->
 0=r0.wC/\0=r0.wZ/\([]:List Int)=r0.wc/\16=r1)/\
((p0.wZ==(ishl .i64 1 p0.wC))=false->
(p0.wc.length<=4294967295)/\∃(I1:Int->Int->(List Int)->Prop) (M1:Int->Int->(List Int)->Nat),I1 0 p1 p0.wc/\∀f1 i1 k1,(I1 f1 i1 k1->
(0<=f1)/\let v2:Bool:=((iand .i64 (ishr .i64 p0.wZ f1) 1)==1)
(v2=true->
(0<=f1/\f1<(p0.wc.length:Int))/\(0<=f1/\f1<(k1.length:Int))/\(U64 (ix k1 f1)/\U64 i1)/\(0<=f1/\f1<(p0.wc.length:Int))/\(0<=f1/\f1<(k1.length:Int))/\I1 (i64.wrap (f1+1)) (hashS 6 [(ix k1 f1),i1]) (k1.set f1.toNat 0)/\M1 (i64.wrap (f1+1)) (hashS 6 [(ix k1 f1),i1]) (k1.set f1.toNat 0)<M1 f1 i1 k1)/\
(v2=false->
(0<=f1/\f1<(p0.wc.length:Int))/\(0<=f1/\f1<(k1.length:Int))/\(p0.wc.length=(k1.set f1.toNat i1).length)/\p0.wC=r0.wC/\i64.wrap (p0.wZ+1)=r0.wZ/\k1.set f1.toNat i1=r0.wc/\0=r1)))))->J1 b1)->
(FV p0)/\((!true)=true->
 J1 true)/\
((!true)=false->
 J1 (decide (18446744069414584321<=p1))))<|by
 rintro p0 p1 h _ rfl _ rfl;obtain⟨hv,hc,hx0,hx1⟩:=h;obtain⟨d1,d2,c0,c1,ll,u,z⟩:=id hv;obtain⟨d,hd⟩:=qn (show 0<=p0.wC by omega);obtain⟨n,hn⟩:=qn c0;have hdn:p0.wC.toNat=d:=by omega
 have hp:=pow12 d qqo;rw[hdn]at c1 ll hc;have hnd:n<2^d:=by omega
 have hbd:=klr hnd;refine fun J1 j=>⟨hv,fun e=>(by cases e),fun _=> ?_⟩;refine j _ ⟨fun e=>(by have:=qb e;omega),fun _=>⟨by omega,?_⟩⟩;rw[hd,shl1 d qqo,hn];have hne:¬(n:Int)=((2^d:Nat):Int):=by omega
 refine⟨fun e=>(hne (by simpa using e)).elim,fun _=>⟨by omega,?_⟩⟩;refine⟨fun a x g=>∃i:Nat,a=(i:Int)/\i<=d/\g.length=d+1/\(∀y∈g,0<=y/\y<18446744069414584321)/\(0<=x/\x<18446744069414584321)/\carry (d+1-i) i g x n=carry (d+1) 0 p0.wc p1 n,fun a _ _=>(d-a).toNat,⟨0,rfl,by omega,ll,u,⟨hx0,hx1⟩,rfl⟩,?_⟩;rintro _ x g ⟨i,rfl,hi,hgl,hgu,hx,hcy⟩;have hs:i<g.length:=by omega
 have hgx:=hgu _ (qak hs);generalize hR:carry (d+1) 0 p0.wc p1 n=R at hcy;rw[show d+1-i=d-i+1 by omega]at hcy;unfold carry at hcy;have hbit:=bit1 n i qqo qqo;refine⟨by omega,fun e=> ?_,fun e=> ?_⟩
 ·have e2:((n/2^i%2:Nat):Int)=1:=by rw[hbit]at e;simpa using e
  have hb:bitN n i=true:=by unfold bitN;generalize n/2^i%2=q at *;simp;omega
  have hid:i<d:=by
   rcases qaz i d with h1|h1
   ·exact h1
   ·have:i=d:=by omega
    subst this;rw[hbd]at hb;cases hb
  rw[qh hb]at hcy;rw[inc_i64 _ qqo,qr];refine⟨⟨by omega,by omega⟩,⟨by omega,by omega⟩,?_,⟨by omega,by omega⟩,⟨by omega,by omega⟩,⟨i+1,rfl,by omega,by simp[hgl],?_,⟨(kz _ _).1,k4m _ _⟩,?_⟩,by(dsimp only;omega)⟩
  ·rw[ix_get _ _ hs];exact⟨⟨hgx.1,by omega⟩,hx.1,by omega⟩
  ·intro y hy;rcases qex hy with hy|rfl
   ·exact hgu y hy
   ·decide
  ·rw[show d+1-(i+1)=d-i by omega];exact hcy
 ·have e2:¬((n/2^i%2:Nat):Int)=1:=by rw[hbit]at e;simpa using e
  have hb:¬bitN n i=true:=by unfold bitN;generalize n/2^i%2=q at *;simp;omega
  rw[qe hb]at hcy;rw[qr];refine⟨⟨by omega,by omega⟩,⟨by omega,by omega⟩,by simp;omega,hd.symm,?_,?_,by first|exact rfl|exact qq⟩
  ·rw[inc_i64 _ qqo];show _=p0.wZ+1;omega
  ·show _=carry (p0.wC.toNat+1) 0 p0.wc p1 p0.wZ.toNat;rw[hdn,hn,qr,hR];exact hcy
noncomputable def k9k:Con TB.den:= .gp 168 [yqu,yqu] [.bool] [] fun(p0 p1:Int)=>(0<=p0/\p0<=9223372036854775807,(decide (9223372036854775807-p0<p1):Bool),())
theorem kba:k9k.Ok Tryz.prog TB:=qrv Bs Tryz.func168 .no c0 (Q:=∀(p0 p1:Int),(0<=p0/\p0<=9223372036854775807)->∀r0:Bool,(decide (9223372036854775807-p0<p1))=r0-> 
(decide (9223372036854775807<p0)=true->
 true=r0)/\
(decide (9223372036854775807<p0)=false->
 let v1:Int:=u64.wrap (9223372036854775807-p0)
 decide (v1<p1)=r0))<|by
 rintro p0 p1 h _ rfl;refine⟨fun e=> ?_,fun e=> ?_⟩
 ·have:=qb e;omega
 ·rw[wrap_u64 _ qqo qqo]
noncomputable def kaw:Con TB.den:= .gp 112 [.st 17,yqu,yqu] [.st 17,yqi] [] fun(p0:wl) (p1 p2:Int)=>(OkA p0.wF/\U64 p2,(wl.mk (creditA p0.wF p1 p2).1:wl),((creditA p0.wF p1 p2).2:Int),())
theorem k4y:kaw.Ok Tryz.prog TB:=qrv Bs Tryz.func112 .no (k8j.c (kba.c (k8l.c c0))) (Q:=∀(p0:wl) (p1 p2:Int),(OkA p0.wF/\U64 p2)->∀r0:wl,(wl.mk (creditA p0.wF p1 p2).1)=r0->∀r1:Int,((creditA p0.wF p1 p2).2)=r1-> 
(Srt p0.wF/\p0.wF.length<4611686018427387904)/\(0<=((getA p0.wF p1).wY)/\((getA p0.wF p1).wY)<=9223372036854775807)/\let r2:Bool:=(decide (9223372036854775807-((getA p0.wF p1).wY)<p2))
(r2=true->
([]:List wA)=r0.wF/\1=r1)/\
(r2=false->
 let v3:Int:=u64.wrap (((getA p0.wF p1).wY)+p2)
(Srt p0.wF/\p0.wF.length<=1000)/\let r4:List wA:=(putA p0.wF (wA.mk p1 v3 ((getA p0.wF p1).wU)))
 r4=r0.wF/\0=r1))<|by
 rintro p0 p1 p2 h _ rfl _ rfl;obtain⟨h,ha,ha'⟩:=h;obtain⟨g1,g2⟩:=getA_ok h p1;refine⟨⟨h.1,by have:=h.2.1;omega⟩,g1,fun hh=> ?_,fun hh=> ?_⟩
 ·have:=qb hh;simp[creditA,this]
 ·have:=qc hh;simp only[creditA,qe this];rw[wrap_u64 _ qqo qqo];exact⟨⟨h.1,h.2.1⟩,rfl,by first|exact rfl|exact qq⟩
noncomputable def k8q:Con TB.den:= .b ⟨111,[.one (.ptr 0 0),.agg yX,.one (.ptr 1 0)],yD,(.one (.one (zqi))),yC,false⟩ [.st 2,yqi,yqi,yqi,yqi,yqi,yqu,yqi,yqi,yqu,yqi,yqi,.sl yqu,.sl (.st 9),yqu,yqi,yqi,.sl yqu,yqi,.sl (.st 9),yqu,.sl yqu,.sl yqu,.sl (.st 10),.sl yqu,.sl yqu,.sl (.bool)] yK fun(p1:wa) (Aa Ab Ad Af Aj Ak Ag Al Ah Ai Am:Int) (Ac:List Int) (Ae:List wA) (Ao Ap Aw:Int) (Ax:List Int) (Ay:Int) (Cf:List wA) (Cg:Int) (w2 w4:List Int) (w5:List wG) (w6 w7k:List Int) (w7v:List Bool)=>((∃(c:Nat) (f:Int),c<=800/\PI (PS.mk (wB.mk Aa Ab Ad Af Aj Ak Ag Al Ah) (wD.mk Ai Am Ac) Ae Ao w2 w4 w5 w7k w7v) c f)/\TR p1/\CK (PS.mk (wB.mk Aa Ab Ad Af Aj Ak Ag Al Ah) (wD.mk Ai Am Ac) Ae Ao w2 w4 w5 w7k w7v) p1/\w6.length<=1000000,perfS (PS.mk (wB.mk Aa Ab Ad Af Aj Ak Ag Al Ah) (wD.mk Ai Am Ac) Ae Ao w2 w4 w5 w7k w7v) p1,fun R=>(R.e,R.s.R.wX,R.s.R.wC,R.s.R.wN,R.s.R.wM,R.s.R.wJ,R.s.R.wS,R.s.R.wV,R.s.R.wO,R.s.R.wR,R.s.F.wC,R.s.F.wZ,R.s.F.wc,R.s.b,R.s.n,Ap,Aw,Ax,Ay,Cf,Cg,R.s.r,R.s.p,((w6++p1.wL):List Int),R.s.k,R.s.v,R.s.l,()))
abbrev k17 (R:PE) (p1:wa) (Ap Aw:Int) (Ax:List Int) (Ay:Int) (Cf:List wA) (Cg:Int) (w6:List Int) (o0 o1 o2 o3 o4 o5 o6 o7 o8 o9 o10 o11:Int) (o12:List Int) (o13:List wA) (o14 o15 o16:Int) (o17:List Int) (o18:Int) (o19:List wA) (o20:Int) (o21:List Int) (o22:List wG) (o23 o24:List Int) (o25:List Bool) (o26:List Int):Prop:=o0=R.e/\o1=R.s.R.wX/\o2=R.s.R.wC/\o3=R.s.R.wN/\o4=R.s.R.wM/\o5=R.s.R.wJ/\o6=R.s.R.wS/\o7=R.s.R.wV/\o8=R.s.R.wO/\o9=R.s.R.wR/\o10=R.s.F.wC/\o11=R.s.F.wZ/\o12=R.s.F.wc/\o13=R.s.b/\o14=R.s.n/\o15=Ap/\o16=Aw/\o17=Ax/\o18=Ay/\o19=Cf/\o20=Cg/\o21=R.s.r/\o22=R.s.p/\o23=(w6++p1.wL)/\o24=R.s.k/\o25=R.s.v/\o26=R.s.l
abbrev Fz1 (r:Type):=Int->Int->Int->Int->Int->Int->Int->Int->Int->Int->Int->Int->(List Int)->(List wA)->Int->(List Int)->(List Bool)->(List wG)->(List Int)->(List Int)->r
theorem k91:k8q.Ok Tryz.prog TB:=pbx Bs [33,67,68] Tryz.func111 (.nd [.trimc 0 12] .no [] (.r 1 (.nd [] (.r 0 (.lp [] ⟨[7,5,4,3,0],[.map yqu (.bool),.vec (.st 10),.vec yqu,.cells [.mp 0],.cells [zqi,zqi,zqi,zqi,zqi,zqu,zqi,zqi,zqu,zqi,zqi,zql,.row 5,.ptr 3 0,.d (.sl (.st 9)),zqu,.row 2,.row 1],.vec yqu],[39],[.one (zqi)],[8]⟩ .no)) [] (.jn ⟨[0,314,3,4,5,7],yI,[],[],[]⟩ [] .no [] (.jn ⟨[0,314,3,4,5,7],yI,[],[],[]⟩ [] .no [] .no))))) x0 (kmc.c (k9w.c (k5p.c (k4y.c c0)))) (Q:=∀(p1:wa) (Aa Ab Ad Af Aj Ak Ag Al Ah Ai Am:Int) (Ac:List Int) (Ae:List wA) (Ao Ap Aw:Int) (Ax:List Int) (Ay:Int) (Cf:List wA) (Cg:Int) (w2 w4:List Int) (w5:List wG) (w6 w7k:List Int) (w7v:List Bool),((∃(c:Nat) (f:Int),c<=800/\PI (PS.mk (wB.mk Aa Ab Ad Af Aj Ak Ag Al Ah) (wD.mk Ai Am Ac) Ae Ao w2 w4 w5 w7k w7v) c f)/\TR p1/\CK (PS.mk (wB.mk Aa Ab Ad Af Aj Ak Ag Al Ah) (wD.mk Ai Am Ac) Ae Ao w2 w4 w5 w7k w7v) p1/\w6.length<=1000000)->∀R,perfS (PS.mk (wB.mk Aa Ab Ad Af Aj Ak Ag Al Ah) (wD.mk Ai Am Ac) Ae Ao w2 w4 w5 w7k w7v) p1=R-> 
 lz w2/\(w7v=trs w7k/\p1.wL.length<=1000000)/\((((addS p1.wL w7k).1) !=0)=true->
(w6=w6)/\lz w5/\lz w4/\lz w2/\k17 R p1 Ap Aw Ax Ay Cf Cg w6 ((addS p1.wL w7k).1) Aa Ab Ad Af Aj Ak Ag Al Ah Ai Am Ac Ae Ao Ap Aw Ax Ay Cf Cg w4 w5 w6 ((addS p1.wL w7k).2) (trs (addS p1.wL w7k).2) w2)/\
((((addS p1.wL w7k).1) !=0)=false->
 lz w6/\(w6.length+p1.wL.length)*8<=140737488355328/\w6.length+p1.wL.length<=maxLen/\lz w5/\lz w4/\lz w2/\∃(I1:Fz1 Prop) (M1:Fz1 Nat),I1 0 Aa Ab Ad Af Aj Ak Ag Al Ah Ai Am Ac Ae Ao ((addS p1.wL w7k).2) (trs (addS p1.wL w7k).2) w5 w4 w2/\∀b1 f1 i1 k1 l1 m1 n1 o1 q1 s1 t1 u1 x1 y1 b2 f2 i2 k2 l2 m2,(I1 b1 f1 i1 k1 l1 m1 n1 o1 q1 s1 t1 u1 x1 y1 b2 f2 i2 k2 l2 m2->
(decide (b1<(p1.wE.length:Int))=true->
(0<=b1)/\b1<(p1.wE.length:Int)/\(FV (wD.mk t1 u1 x1)/\(wD.mk t1 u1 x1).wZ<((2^(wD.mk t1 u1 x1).wC.toNat:Nat):Int)/\0<=((ix p1.wE b1).we)/\((ix p1.wE b1).we)<18446744069414584321)/\let r1:=apF (wD.mk t1 u1 x1) ((ix p1.wE b1).we)
(((0:Int) !=0)=true->
(w6++p1.wL=w6++p1.wL)/\lz k2/\lz l2/\lz m2/\k17 R p1 Ap Aw Ax Ay Cf Cg w6 0 f1 i1 k1 l1 m1 n1 o1 q1 s1 t1 u1 x1 y1 b2 Ap Aw Ax Ay Cf Cg l2 k2 (w6++p1.wL) f2 i2 m2)/\
(((0:Int) !=0)=false->
 lz m2/\lz [(ix p1.wE b1).we]/\(m2.length+[(ix p1.wE b1).we].length)*8<=140737488355328/\m2.length+[(ix p1.wE b1).we].length<=maxLen/\lz k2/\lz l2/\lz (m2++[(ix p1.wE b1).we])/\I1 (i64.wrap (b1+1)) f1 i1 k1 l1 m1 n1 o1 q1 s1 r1.wC r1.wZ r1.wc y1 b2 f2 i2 k2 l2 (m2++[(ix p1.wE b1).we])/\M1 (i64.wrap (b1+1)) f1 i1 k1 l1 m1 n1 o1 q1 s1 r1.wC r1.wZ r1.wc y1 b2 f2 i2 k2 l2 (m2++[(ix p1.wE b1).we])<M1 b1 f1 i1 k1 l1 m1 n1 o1 q1 s1 t1 u1 x1 y1 b2 f2 i2 k2 l2 m2))/\
(decide (b1<(p1.wE.length:Int))=false->
 ∀J1:Int->Int->Int->Int->Int->Int->Int->Int->Int->Int->Int->(List Int)->(List wA)->Int->(List Int)->(List Int)->(List wG)->(List Int)->(List Bool)->Prop,(∀(n2 o2 q2 s2 t2 u2 x2 y2 b3 f3 i3:Int) (k3:List Int) (l3:List wA) (m3:Int) (n3 o3:List Int) (q3:List wG) (s3:List Int) (t3:List Bool),
(∀J2:Int->Int->Int->Int->Int->Int->Int->Int->Int->Int->Int->(List Int)->(List wA)->Int->(List Int)->(List Int)->(List wG)->(List Int)->(List Bool)->Prop,(∀(u3 x3 y3 b4 f4 i4 k4 l4 m4 n4 o4:Int) (q4:List Int) (s4:List wA) (t4:Int) (u4 x4:List Int) (y4:List wG) (b5:List Int) (f5:List Bool),
(let v4:Int:=u64.wrap ((u64.wrap (t4+p1.wP))-p1.wT)
(w6++p1.wL=w6++p1.wL)/\lz y4/\lz x4/\lz u4/\k17 R p1 Ap Aw Ax Ay Cf Cg w6 0 u3 x3 y3 b4 f4 i4 k4 l4 m4 n4 o4 q4 s4 (u64.wrap (v4-p1.Fee)) Ap Aw Ax Ay Cf Cg x4 y4 (w6++p1.wL) b5 f5 u4)->J2 u3 x3 y3 b4 f4 i4 k4 l4 m4 n4 o4 q4 s4 t4 u4 x4 y4 b5 f5)->
(decide (0<p1.wT)=true->
(OkA (wl.mk l3).wF/\U64 p1.wT)/\let r3:=creditA (wl.mk l3).wF p1.wW p1.wT
((r3.2 !=0)=true->
(w6++p1.wL=w6++p1.wL)/\lz q3/\lz o3/\lz n3/\k17 R p1 Ap Aw Ax Ay Cf Cg w6 r3.2 n2 o2 q2 s2 t2 u2 x2 y2 b3 f3 i3 k3 l3 m3 Ap Aw Ax Ay Cf Cg o3 q3 (w6++p1.wL) s3 t3 n3)/\
((r3.2 !=0)=false->
 lz q3/\lz o3/\lz n3/\J2 n2 o2 q2 s2 t2 u2 x2 y2 b3 f3 i3 k3 r3.1 m3 n3 o3 q3 s3 t3))/\
(decide (0<p1.wT)=false->
 lz q3/\lz o3/\lz n3/\J2 n2 o2 q2 s2 t2 u2 x2 y2 b3 f3 i3 k3 l3 m3 n3 o3 q3 s3 t3))->J1 n2 o2 q2 s2 t2 u2 x2 y2 b3 f3 i3 k3 l3 m3 n3 o3 q3 s3 t3)->
(decide (0<p1.wP)=true->
(OkA (wl.mk y1).wF/\U64 p1.wP/\U64 p1.wU)/\let r2:=debitA (wl.mk y1).wF p1.wW p1.wP p1.wU
((r2.2 !=0)=true->
(w6++p1.wL=w6++p1.wL)/\lz k2/\lz l2/\lz m2/\k17 R p1 Ap Aw Ax Ay Cf Cg w6 r2.2 f1 i1 k1 l1 m1 n1 o1 q1 s1 t1 u1 x1 y1 b2 Ap Aw Ax Ay Cf Cg l2 k2 (w6++p1.wL) f2 i2 m2)/\
((r2.2 !=0)=false->
 lz k2/\lz l2/\lz m2/\J1 f1 i1 k1 l1 m1 n1 o1 q1 s1 t1 u1 x1 r2.1 b2 m2 l2 k2 f2 i2))/\
(decide (0<p1.wP)=false->
 lz k2/\lz l2/\lz m2/\J1 f1 i1 k1 l1 m1 n1 o1 q1 s1 t1 u1 x1 y1 b2 m2 l2 k2 f2 i2)))))<|by
 rintro p1 Aa Ab Ad Af Aj Ak Ag Al Ah Ai Am Ac Ae Ao Ap Aw Ax Ay Cf Cg w2 w4 w5 w6 w7k w7v h R hR;obtain⟨⟨c,f,hc,hp⟩,ht,hk,hw6⟩:=h;have hv:w7v=trs w7k:=hp.v
 have hA:addS p1.wL w7k=(0,w7k++p1.wL):=by
  unfold addS;have e1:(p1.wL.any fun m=>decide (m∈w7k))=false:=by rw[List.any_eq_false];intro m hm;simpa using hk.m m hm
  rw[e1,qbn hk.v.mn];rfl
 have hml:=hk.v.ml;have hol:=hk.v.ol;have hll:w2.length+p1.wE.length<=2^Ab.toNat:=hk.l;have hd1:1<=Ab:=hp.d1;have hd2:Ab<=12:=hp.d2;have hF0:wD.mk Ai Am Ac=frF Ab w2:=hp.F;have hlb:BG w2:=hp.l;have hp12:=pow12 Ab.toNat qqo;obtain⟨a1,a2,a3,a4,a5⟩:=hk.v.am';have hgb:GoodA c Ae:=hp.b
 have hdA:OkA (depA Ae p1):=by
  unfold depA;split
  ·exact(kea hgb qqo ⟨ht.ac.1,a4⟩ ht.d.1 ht.n).1
  ·exact hgb.1
 have hdd:0<p1.wP->(debitA Ae p1.wW p1.wP p1.wU).2=0:=hk.d;unfold perfS at hR;refine⟨rfl,⟨hv,by omega⟩,?_⟩;rw[hA];refine⟨fun e=>(by cases e),fun _=>⟨rfl,by omega,by unfold maxLen;omega,rfl,rfl,rfl,?_⟩⟩;refine⟨fun a y0 y1 y2 y3 y4 y5 y6 y7 y8 x y z bb nn kk vv pp rr g=>(Aa=y0/\Ab=y1/\Ad=y2/\Af=y3/\Aj=y4/\Ak=y5/\Ag=y6/\Al=y7/\Ah=y8/\Ae=bb/\Ao=nn/\w7k++p1.wL=kk/\trs (w7k++p1.wL)=vv/\w5=pp/\w4=rr)/\∃i:Nat,a=(i:Int)/\i<=p1.wE.length/\wD.mk x y z=outsF (wD.mk Ai Am Ac) (p1.wE.take i)/\g=w2++(p1.wE.take i).map (·.we),fun a _ _ _ _ _ _ _ _ _ _ _ _ _ _ _ _ _ _ _=>(p1.wE.length-a).toNat,⟨⟨rfl,rfl,rfl,rfl,rfl,rfl,rfl,rfl,rfl,rfl,rfl,rfl,rfl,rfl,rfl⟩,0,rfl,by omega,rfl,by simp⟩,?_⟩;rintro _ _ _ _ _ _ _ _ _ _ x y z _ _ _ _ _ _ _ ⟨⟨rfl,rfl,rfl,rfl,rfl,rfl,rfl,rfl,rfl,rfl,rfl,rfl,rfl,rfl,rfl⟩,i,rfl,hi,hF,rfl⟩;have hx:x=(outsF (wD.mk Ai Am Ac) (p1.wE.take i)).wC:=congrArg wD.wC hF;have hy:y=(outsF (wD.mk Ai Am Ac) (p1.wE.take i)).wZ:=congrArg wD.wZ hF;have hz:z=(outsF (wD.mk Ai Am Ac) (p1.wE.take i)).wc:=congrArg wD.wc hF;clear hF;subst hx;subst hy;subst hz;refine⟨fun e=> ?_,fun e=> ?_⟩
 ·have e:i<p1.wE.length:=by have:=qb e;omega
  have ho:=qak e;have hil:(p1.wE.take i).length=i:=by rw[qo];omega
  have hFi:outsF (wD.mk Ai Am Ac) (p1.wE.take i)=frF Ab (w2++(p1.wE.take i).map (·.we)):=by rw[hF0];exact kc4 qqo
  have hgl:(w2++(p1.wE.take i).map (·.we)).length=w2.length+i:=by simp only[qj,qm];omega
  have hbg:BG (w2++(p1.wE.take i).map (·.we)):=by
   intro q hq;rcases qal.1 hq with hq|hq
   ·exact hlb q hq
   ·obtain⟨o,h1,rfl⟩:=qag.1 hq;exact⟨(ht.o o (qat h1)).c.1,(hk.v.o o (qat h1)).c⟩
  rw[ix_get _ _ e,inc_i64 _ qqo];have hfv:FV (outsF (wD.mk Ai Am Ac) (p1.wE.take i)):=by rw[hFi];exact frF_FV hd1 hd2 qqo hbg
  have hct:(outsF (wD.mk Ai Am Ac) (p1.wE.take i)).wZ<((2^(outsF (wD.mk Ai Am Ac) (p1.wE.take i)).wC.toNat:Nat):Int):=by rw[hFi];show((w2++(p1.wE.take i).map (·.we)).length:Int)<((2^Ab.toNat:Nat):Int);omega
  refine⟨by omega,by omega,⟨hfv,hct,(ht.o _ ho).c.1,(hk.v.o _ ho).c⟩,fun e2=>(by cases e2),fun _=>⟨rfl,rfl,?_,?_,rfl,rfl,rfl,⟨⟨rfl,rfl,rfl,rfl,rfl,rfl,rfl,rfl,rfl,rfl,rfl,rfl,rfl,rfl,rfl⟩,i+1,rfl,by omega,?_,?_⟩,by(dsimp only;omega)⟩⟩
  ·rw[hgl];simp only[qad,qbf];omega
  ·rw[hgl];simp only[qad,qbf];unfold maxLen;omega
  ·rw[qai e];unfold outsF;rw[List.foldl_append];rfl
  ·rw[qai e,qbm,qx];rfl
 ·have e:i=p1.wE.length:=by have:=qc e;omega
  subst e;rw[qcn];intro J1 j
  have j1:∀b',b' =depA Ae p1->J1 Aa Ab Ad Af Aj Ak Ag Al Ah (outsF (wD.mk Ai Am Ac) p1.wE).wC (outsF (wD.mk Ai Am Ac) p1.wE).wZ (outsF (wD.mk Ai Am Ac) p1.wE).wc b' Ao (w2++p1.wE.map (·.we)) w4 w5 (w7k++p1.wL) (trs (w7k++p1.wL)):=by
   intro b' h1;subst h1;refine j _ _ _ _ _ _ _ _ _ _ _ _ _ _ _ _ _ _ _ fun J2 k=> ?_;have j2:∀b',(wdA Ae p1).2=0->b' =(wdA Ae p1).1->J2 Aa Ab Ad Af Aj Ak Ag Al Ah (outsF (wD.mk Ai Am Ac) p1.wE).wC (outsF (wD.mk Ai Am Ac) p1.wE).wZ (outsF (wD.mk Ai Am Ac) p1.wE).wc b' Ao (w2++p1.wE.map (·.we)) w4 w5 (w7k++p1.wL) (trs (w7k++p1.wL)):=by intro b' h0 h1;rw[qe (fun hh=>hh h0)]at hR;subst hR;subst h1;exact k _ _ _ _ _ _ _ _ _ _ _ _ _ _ _ _ _ _ _ (by repeat' first|apply qaa|exact rfl|exact qq)
   refine⟨fun e=>⟨⟨hdA,ht.w⟩,fun e2=> ?_,fun e2=>⟨rfl,rfl,rfl,j2 _ ?_ ?_⟩⟩,fun e=>⟨rfl,rfl,rfl,j2 _ ?_ ?_⟩⟩
   ·have e2:(creditA (depA Ae p1) p1.wW p1.wT).2≠0:=by simpa using e2
    have ew:wdA Ae p1=creditA (depA Ae p1) p1.wW p1.wT:=by unfold wdA;rw[qh (qb e)]
    rw[ew,qh e2]at hR;subst hR;exact(by repeat' first|apply qaa|exact rfl|exact qq)
   ·have e2:(creditA (depA Ae p1) p1.wW p1.wT).2=0:=by simpa using e2
    unfold wdA;rw[qh (qb e)];exact e2
   ·unfold wdA;rw[qh (qb e)]
   ·unfold wdA;rw[qe (qc e)]
   ·unfold wdA;rw[qe (qc e)]
  refine⟨fun e2=>⟨⟨hgb.1,ht.d,ht.n⟩,fun e3=> ?_,fun e3=>⟨rfl,rfl,rfl,j1 _ ?_⟩⟩,fun e2=>⟨rfl,rfl,rfl,j1 _ ?_⟩⟩
  ·have e3:(debitA Ae p1.wW p1.wP p1.wU).2≠0:=by simpa using e3
   exact(e3 (hdd (qb e2))).elim
  ·unfold depA;rw[qh (qb e2)]
  ·unfold depA;rw[qe (qc e2)]
noncomputable def kan:Con TB.den:= .b ⟨73,[.one (.ptr 0 0),.agg yA1,.one (.ptr 1 0)],yD,(.one (.one (zqi))),yC,false⟩ [.st 3,yqi,yqi,yqi,yqi,yqi,yqu,yqi,yqi,yqu,yqi,yqi,.sl yqu,.sl (.st 9),yqu,yqi,yqi,.sl yqu,yqi,.sl (.st 9),yqu,.sl yqu,.sl yqu,.sl (.st 10),.sl yqu,.sl yqu,.sl (.bool)] yK fun(p1:wI) (Aa Ab Ad Af Aj Ak Ag Al Ah Ai Am:Int) (Ac:List Int) (Ae:List wA) (Ao Ap Aw:Int) (Ax:List Int) (Ay:Int) (Cf:List wA) (Cg:Int) (w2 w4:List Int) (w5:List wG) (w6 w7k:List Int) (w7v:List Bool)=>((∃c:Nat,c+p1.Txs.length<=790/\PI (PS.mk (wB.mk Aa Ab Ad Af Aj Ak Ag Al Ah) (wD.mk Ai Am Ac) Ae Ao w2 w4 w5 w7k w7v) c 0)/\BR' p1/\w6=[],blkS (PS.mk (wB.mk Aa Ab Ad Af Aj Ak Ag Al Ah) (wD.mk Ai Am Ac) Ae Ao w2 w4 w5 w7k w7v) w6 p1,fun R=>(R.e,R.s.R.wX,R.s.R.wC,R.s.R.wN,R.s.R.wM,R.s.R.wJ,R.s.R.wS,R.s.R.wV,R.s.R.wO,R.s.R.wR,R.s.F.wC,R.s.F.wZ,R.s.F.wc,R.s.b,R.s.n,Ap,Aw,Ax,Ay,Cf,Cg,R.s.r,R.s.p,R.m,R.s.k,R.s.v,R.s.l,()))
abbrev k1v (R:PB) (Ap Aw:Int) (Ax:List Int) (Ay:Int) (Cf:List wA) (Cg o0 o1 o2 o3 o4 o5 o6 o7 o8 o9 o10 o11:Int) (o12:List Int) (o13:List wA) (o14 o15 o16:Int) (o17:List Int) (o18:Int) (o19:List wA) (o20:Int) (o21:List Int) (o22:List wG) (o23 o24:List Int) (o25:List Bool) (o26:List Int):Prop:=o0=R.e/\o1=R.s.R.wX/\o2=R.s.R.wC/\o3=R.s.R.wN/\o4=R.s.R.wM/\o5=R.s.R.wJ/\o6=R.s.R.wS/\o7=R.s.R.wV/\o8=R.s.R.wO/\o9=R.s.R.wR/\o10=R.s.F.wC/\o11=R.s.F.wZ/\o12=R.s.F.wc/\o13=R.s.b/\o14=R.s.n/\o15=Ap/\o16=Aw/\o17=Ax/\o18=Ay/\o19=Cf/\o20=Cg/\o21=R.s.r/\o22=R.s.p/\o23=R.m/\o24=R.s.k/\o25=R.s.v/\o26=R.s.l
abbrev Fz2 (r:Type):=Int->Int->Int->Int->(List Int)->Int->(List wA)->Int->Int->Int->Int->Int->Int->Int->Int->Int->Int->Int->Int->(List Int)->(List wA)->Int->(List Int)->(List Bool)->(List Int)->(List wG)->(List Int)->(List Int)->r
theorem kbv:kan.Ok Tryz.prog TB:=pbv Bs Tryz.func73 (.nd [.trimc 0 12] .no [] (.r 0 (.nd [] (.r 0 (.lp [] ⟨[7,6,5,4,3,1,0],[.map yqu (.bool),.tip yqu,.vec (.st 10),.vec yqu,.cells [.mp 0],.cells [zqi,zqi,zql,zqi,.own 1,.d (.sl (.st 9)),zqu],.cells [zqi,zqi,zqi,zqi,zqi,zqu,zqi,zqi,zqu,zqi,zqi,zql,.row 7,.ptr 4 0,.d (.sl (.st 9)),zqu,.row 3,.row 2],.vec yqu],[7,17],[.one (zqu),.one (zqi)],[8]⟩ .no)) [] .no))) (kfw.c (k91.c (k4y.c c0))) (Q:=∀(p1:wI) (Aa Ab Ad Af Aj Ak Ag Al Ah Ai Am:Int) (Ac:List Int) (Ae:List wA) (Ao Ap Aw:Int) (Ax:List Int) (Ay:Int) (Cf:List wA) (Cg:Int) (w2 w4:List Int) (w5:List wG) (w6 w7k:List Int) (w7v:List Bool),((∃c:Nat,c+p1.Txs.length<=790/\PI (PS.mk (wB.mk Aa Ab Ad Af Aj Ak Ag Al Ah) (wD.mk Ai Am Ac) Ae Ao w2 w4 w5 w7k w7v) c 0)/\BR' p1/\w6=[])->∀R,blkS (PS.mk (wB.mk Aa Ab Ad Af Aj Ak Ag Al Ah) (wD.mk Ai Am Ac) Ae Ao w2 w4 w5 w7k w7v) w6 p1=R-> 
 lz w2/\lz w5/\lz w4/\lz w2/\(w6=w6)/\∃(I1:Fz2 Prop) (M1:Fz2 Nat),I1 0 0 Ap Aw Ax Ay Cf Cg Aa Ab Ad Af Aj Ak Ag Al Ah Ai Am Ac Ae Ao w7k w7v w6 w5 w4 w2/\∀b1 f1 i1 k1 l1 m1 n1 o1 q1 s1 t1 u1 x1 y1 b2 f2 i2 k2 l2 m2 n2 o2 q2 s2 t2 u2 x2 y2,(I1 b1 f1 i1 k1 l1 m1 n1 o1 q1 s1 t1 u1 x1 y1 b2 f2 i2 k2 l2 m2 n2 o2 q2 s2 t2 u2 x2 y2->
(decide (f1<(p1.Txs.length:Int))=true->
(0<=f1)/\f1<(p1.Txs.length:Int)/\lz u2/\lz x2/\lz y2/\((∃(c:Nat) (f:Int),c<=800/\PI (PS.mk (wB.mk q1 s1 t1 u1 x1 y1 b2 f2 i2) (wD.mk k2 l2 m2) n2 o2 y2 x2 u2 q2 s2) c f)/\TR (ix p1.Txs f1))/\let r1:Int:=(chkS (PS.mk (wB.mk q1 s1 t1 u1 x1 y1 b2 f2 i2) (wD.mk k2 l2 m2) n2 o2 y2 x2 u2 q2 s2) (ix p1.Txs f1))
((r1 !=0)=true->
(t2=t2)/\lz u2/\lz x2/\lz y2/\k1v R Ap Aw Ax Ay Cf Cg r1 q1 s1 t1 u1 x1 y1 b2 f2 i2 k2 l2 m2 n2 o2 i1 k1 l1 m1 n1 o1 x2 u2 t2 q2 s2 y2)/\
((r1 !=0)=false->
(t2=t2)/\lz u2/\lz x2/\lz y2/\((∃(c:Nat) (f:Int),c<=800/\PI (PS.mk (wB.mk q1 s1 t1 u1 x1 y1 b2 f2 i2) (wD.mk k2 l2 m2) n2 o2 y2 x2 u2 q2 s2) c f)/\TR (ix p1.Txs f1)/\CK (PS.mk (wB.mk q1 s1 t1 u1 x1 y1 b2 f2 i2) (wD.mk k2 l2 m2) n2 o2 y2 x2 u2 q2 s2) (ix p1.Txs f1)/\t2.length<=1000000)/\let r2:Int:=((perfS (PS.mk (wB.mk q1 s1 t1 u1 x1 y1 b2 f2 i2) (wD.mk k2 l2 m2) n2 o2 y2 x2 u2 q2 s2) (ix p1.Txs f1)).e)
 let r3:=(perfS (PS.mk (wB.mk q1 s1 t1 u1 x1 y1 b2 f2 i2) (wD.mk k2 l2 m2) n2 o2 y2 x2 u2 q2 s2) (ix p1.Txs f1)).s
((r2 !=0)=true->
((t2++(ix p1.Txs f1).wL)=(t2++(ix p1.Txs f1).wL))/\lz r3.p/\lz r3.r/\lz r3.l/\k1v R Ap Aw Ax Ay Cf Cg r2 r3.R.wX r3.R.wC r3.R.wN r3.R.wM r3.R.wJ r3.R.wS r3.R.wV r3.R.wO r3.R.wR r3.F.wC r3.F.wZ r3.F.wc r3.b r3.n i1 k1 l1 m1 n1 o1 r3.r r3.p (t2++(ix p1.Txs f1).wL) r3.k r3.v r3.l)/\
((r2 !=0)=false->
 let v4:Int:=u64.wrap (b1+((ix p1.Txs f1).Fee))
 lz r3.p/\lz r3.r/\lz r3.l/\((t2++(ix p1.Txs f1).wL)=(t2++(ix p1.Txs f1).wL))/\I1 v4 (i64.wrap (f1+1)) i1 k1 l1 m1 n1 o1 r3.R.wX r3.R.wC r3.R.wN r3.R.wM r3.R.wJ r3.R.wS r3.R.wV r3.R.wO r3.R.wR r3.F.wC r3.F.wZ r3.F.wc r3.b r3.n r3.k r3.v (t2++(ix p1.Txs f1).wL) r3.p r3.r r3.l/\M1 v4 (i64.wrap (f1+1)) i1 k1 l1 m1 n1 o1 r3.R.wX r3.R.wC r3.R.wN r3.R.wM r3.R.wJ r3.R.wS r3.R.wV r3.R.wO r3.R.wR r3.F.wC r3.F.wZ r3.F.wc r3.b r3.n r3.k r3.v (t2++(ix p1.Txs f1).wL) r3.p r3.r r3.l<M1 b1 f1 i1 k1 l1 m1 n1 o1 q1 s1 t1 u1 x1 y1 b2 f2 i2 k2 l2 m2 n2 o2 q2 s2 t2 u2 x2 y2)))/\
(decide (f1<(p1.Txs.length:Int))=false->
(OkA (wl.mk n2).wF/\U64 (u64.wrap (y1+b1)))/\let r5:=creditA (wl.mk n2).wF p1.wAF (u64.wrap (y1+b1))
((r5.2 !=0)=true->
(t2=t2)/\lz u2/\lz x2/\lz y2/\k1v R Ap Aw Ax Ay Cf Cg r5.2 q1 s1 t1 u1 x1 y1 b2 f2 i2 k2 l2 m2 n2 o2 i1 k1 l1 m1 n1 o1 x2 u2 t2 q2 s2 y2)/\
((r5.2 !=0)=false->
(t2=t2)/\lz u2/\lz x2/\lz y2/\k1v R Ap Aw Ax Ay Cf Cg 0 q1 s1 t1 u1 x1 y1 b2 f2 i2 k2 l2 m2 r5.1 o2 i1 k1 l1 m1 n1 o1 x2 u2 t2 q2 s2 y2))))<|by
 rintro p1 Aa Ab Ad Af Aj Ak Ag Al Ah Ai Am Ac Ae Ao Ap Aw Ax Ay Cf Cg w2 w4 w5 w6 w7k w7v h R hR;obtain⟨⟨c,hc,hp⟩,hb,hw⟩:=h;subst hw;unfold blkS at hR;generalize hG:blkGo p1.Txs (PS.mk (wB.mk Aa Ab Ad Af Aj Ak Ag Al Ah) (wD.mk Ai Am Ac) Ae Ao w2 w4 w5 w7k w7v) [] 0=G at hR;refine⟨rfl,rfl,rfl,rfl,rfl,⟨(fun fe a y0 y1 y2 y3 y4 y5 x0 x1 x2 x3 x4 x5 x6 x7 x8 x9 x10 x11 bb nn kk vv mm pp rr ll=>(y0=Ap/\y1=Aw/\y2=Ax/\y3=Ay/\y4=Cf/\y5=Cg)/\∃i:Nat,a=(i:Int)/\i<=p1.Txs.length/\(∃c' :Nat,c' +(p1.Txs.length-i)<=790/\PI (PS.mk (wB.mk x0 x1 x2 x3 x4 x5 x6 x7 x8) (wD.mk x9 x10 x11) bb nn ll rr pp kk vv) c' fe)/\mm.length<=4*i/\blkGo (p1.Txs.drop i) (PS.mk (wB.mk x0 x1 x2 x3 x4 x5 x6 x7 x8) (wD.mk x9 x10 x11) bb nn ll rr pp kk vv) mm fe=G),(fun _ a _ _ _ _ _ _ _ _ _ _ _ _ _ _ _ _ _ _ _ _ _ _ _ _ _ _=>(p1.Txs.length-a).toNat),⟨⟨rfl,rfl,rfl,rfl,rfl,rfl⟩,0,rfl,by omega,⟨c,by omega,hp⟩,by simp,hG⟩,?_⟩⟩;rintro fe _ y0 y1 y2 y3 y4 y5 x0 x1 x2 x3 x4 x5 x6 x7 x8 x9 x10 x11 bb nn kk vv mm pp rr ll ⟨⟨rfl,rfl,rfl,rfl,rfl,rfl⟩,i,rfl,hi,⟨c',hc',hq⟩,hm,hg⟩;refine⟨fun e=> ?_,fun e=> ?_⟩
 ·have e:i<p1.Txs.length:=by have:=qb e;omega
  have ht:=hb.t _ (qak e);rw[qch e]at hg;unfold blkGo at hg;rw[ix_get _ _ e,inc_i64 _ qqo];refine⟨by omega,by omega,rfl,rfl,rfl,⟨⟨c',fe,by omega,hq⟩,ht⟩,fun e2=> ?_,fun e2=> ?_⟩
  ·have e2:chkS (PS.mk (wB.mk x0 x1 x2 x3 x4 x5 x6 x7 x8) (wD.mk x9 x10 x11) bb nn ll rr pp kk vv) p1.Txs[i]≠0:=by simpa using e2
   rw[qh e2]at hg;subst hg;simp only at hR;rw[qh e2]at hR;subst hR;exact(by repeat' first|apply qaa|exact rfl|exact qq)
  ·have e2:chkS (PS.mk (wB.mk x0 x1 x2 x3 x4 x5 x6 x7 x8) (wD.mk x9 x10 x11) bb nn ll rr pp kk vv) p1.Txs[i]=0:=by simpa using e2
   have k:=kd0 e2;rw[qe (fun hh=>hh e2)]at hg;refine⟨rfl,rfl,rfl,rfl,⟨⟨c',fe,by omega,hq⟩,ht,k,by omega⟩,fun e3=> ?_,fun e3=>⟨rfl,rfl,rfl,rfl,⟨⟨rfl,rfl,rfl,rfl,rfl,rfl⟩,i+1,rfl,by omega,⟨c' +1,by omega,?_⟩,?_,?_⟩,by(dsimp only;omega)⟩⟩
   ·have e3:(perfS (PS.mk (wB.mk x0 x1 x2 x3 x4 x5 x6 x7 x8) (wD.mk x9 x10 x11) bb nn ll rr pp kk vv) p1.Txs[i]).e≠0:=by simpa using e3
    rw[qh e3]at hg;subst hg;simp only at hR;rw[qh e3]at hR;subst hR;exact(by repeat' first|apply qaa|exact rfl|exact qq)
   ·have e3:(perfS (PS.mk (wB.mk x0 x1 x2 x3 x4 x5 x6 x7 x8) (wD.mk x9 x10 x11) bb nn ll rr pp kk vv) p1.Txs[i]).e=0:=by simpa using e3
    have h9:=(hq.perf qqo ht k).2.2 e3;rw[kkq hq qqo ht k];exact h9
   ·have:=k.v.ml;rw[qj];omega
   ·have e3:(perfS (PS.mk (wB.mk x0 x1 x2 x3 x4 x5 x6 x7 x8) (wD.mk x9 x10 x11) bb nn ll rr pp kk vv) p1.Txs[i]).e=0:=by simpa using e3
    rw[qe (fun hh=>hh e3)]at hg;exact hg
 ·have e:i=p1.Txs.length:=by have:=qc e;omega
  subst e;rw[List.drop_length]at hg;unfold blkGo at hg;subst hg;have hw:=kjl (x:=⟨0,(PS.mk (wB.mk x0 x1 x2 x3 x4 x5 x6 x7 x8) (wD.mk x9 x10 x11) bb nn ll rr pp kk vv),mm,fe⟩) hq qqo;simp only at hw;unfold crB at hR;simp only at hR;rw[qe (fun hh=>hh rfl)]at hR;refine⟨⟨hq.b.1,?_⟩,fun e2=> ?_,fun e2=> ?_⟩
  ·rw[hw.1];exact hw.2
  ·have e2:(creditA bb p1.wAF (u64.wrap (x5+fe))).2≠0:=by simpa using e2
   rw[qh e2]at hR;subst hR;exact(by repeat' first|apply qaa|exact rfl|exact qq)
  ·have e2:(creditA bb p1.wAF (u64.wrap (x5+fe))).2=0:=by simpa using e2
   rw[qe (fun hh=>hh e2)]at hR;subst hR;exact(by repeat' first|apply qaa|exact rfl|exact qq)
noncomputable def kfa:Con TB.den:= .g (gk 113 [.one (.ptr 0 0),.one (zql)] yD1 (.one (.one (zqi)))) [.sl yqu,.sl yqu,.sl (.bool)] [yqi,.sl yqu,.sl (.bool)] [] fun(p1 w1k:List Int) (w1v:List Bool)=>(w1v=trs w1k/\p1.length<=1000000,((remS p1 w1k).1:Int),((remS p1 w1k).2:List Int),(trs (remS p1 w1k).2:List Bool),())
theorem ki6:kfa.Ok Tryz.prog TB:=prv Bs Tryz.func113 (.r 1 (.nd [] (.r 0 (.lp [] ⟨[1],yJ1,[16],[.one (zqi)],[]⟩ .no)) [] .no)) (kbk.c (k3b.c c0)) (Q:=∀(p1 w1k:List Int) (w1v:List Bool),(w1v=trs w1k/\p1.length<=1000000)->∀r0:Int,((remS p1 w1k).1)=r0->∀e1k:List Int,((remS p1 w1k).2)=e1k->∀e1v:List Bool,(trs (remS p1 w1k).2)=e1v-> 
(w1v=trs w1k/\p1.length<=1000000)/\let r1:Bool:=(p1.any (fun m=>decide (m∈w1k)==false))
(r1=true->
 4=r0/\w1k=e1k/\w1v=e1v)/\
(r1=false->
(p1.length<=1000000)/\((!decide p1.Nodup)=true->
 4=r0/\w1k=e1k/\w1v=e1v)/\
((!decide p1.Nodup)=false->
 ∃(I1:Int->(List Int)->(List Bool)->Prop) (M1:Int->(List Int)->(List Bool)->Nat),I1 0 w1k w1v/\∀b1 f1 i1,(I1 b1 f1 i1->
(decide (b1<(p1.length:Int))=true->
(0<=b1)/\b1<(p1.length:Int)/\f1.length=i1.length/\let v2:List Int:=mDelK (BEq.beq (ix p1 b1)) f1
 let v3:List Bool:=mDelV (BEq.beq (ix p1 b1)) f1 i1
 I1 (i64.wrap (b1+1)) v2 v3/\M1 (i64.wrap (b1+1)) v2 v3<M1 b1 f1 i1)/\
(decide (b1<(p1.length:Int))=false->
 0=r0/\f1=e1k/\i1=e1v)))))<|by
 rintro p1 w1k w1v h _ rfl _ rfl _ rfl;obtain⟨h,hl⟩:=h;subst h;have ea:(p1.any fun m=>decide (m∈w1k)==false)=p1.any fun m=> !decide (m∈w1k):=by congr 1;funext m;cases decide (m∈w1k)<;>rfl
 refine⟨⟨rfl,hl⟩,?_⟩;rw[ea];refine⟨fun e=> ?_,fun e=>⟨hl,fun e2=> ?_,fun e2=> ?_⟩⟩
 ·have:remS p1 w1k=(4,w1k):=by unfold remS;rw[e];rfl
  rw[this];exact⟨rfl,rfl,rfl⟩
 ·have:remS p1 w1k=(4,w1k):=by unfold remS;rw[e,e2];rfl
  rw[this];exact⟨rfl,rfl,rfl⟩
 ·have hA:remS p1 w1k=(0,p1.foldl List.erase w1k):=by unfold remS;rw[e,e2];rfl
  rw[hA];refine⟨(fun a k v=>∃i:Nat,a=(i:Int)/\i<=p1.length/\k=(p1.take i).foldl List.erase w1k/\v=trs k),(fun a _ _=>(p1.length-a).toNat),⟨0,rfl,by omega,rfl,rfl⟩,?_⟩;rintro _ _ _ ⟨i,rfl,hi,rfl,rfl⟩;refine⟨fun e3=> ?_,fun e3=> ?_⟩
  ·have e3:i<p1.length:=by have:=qb e3;omega
   rw[ix_get _ _ e3,inc_i64 _ qqo];obtain⟨q1,q2⟩:=sDel ((p1.take i).foldl List.erase w1k) p1[i];rw[q1,q2];refine⟨by omega,by omega,by simp[trs],⟨i+1,rfl,by omega,?_,rfl⟩,by(dsimp only;omega)⟩;rw[qai e3,List.foldl_append];rfl
  ·have e3:i=p1.length:=by have:=qc e3;omega
   subst e3;rw[qcn];exact⟨rfl,rfl,rfl⟩
noncomputable def kap:Con TB.den:= .g ⟨74,[.one (.ptr 0 0),.agg [zqi,zqi,zql,zqi,zql,.d (.sl (.st 9)),zqu]],yI,(.tup []),[.cells [zqi,zqi,zqi,zqi,zqi,zqu,zqi,zqi,zqu,zqi,zqi,zql,.view 1,.ptr 2 0,.d (.sl (.st 9)),zqu,.row 3,.row 4],.vec yqu,.cells [.mp 5],.vec yqu,.vec (.st 10),.map yqu (.bool)],false⟩ [.st 10,yqi,yqi,yqi,yqi,yqi,yqu,yqi,yqi,yqu,yqi,yqi,.sl yqu,.sl (.st 9),yqu,.sl yqu,.sl yqu,.sl (.st 10),.sl yqu,.sl (.bool)] [yqi,yqi,yqi,yqi,yqi,yqu,yqi,yqi,yqu,yqi,yqi,.sl yqu,yqi,yqi,.sl (.st 9),yqu,.sl yqu,.sl yqu,.sl (.st 10),.sl yqu,.sl (.bool)] [] fun(p1:wG) (Aa Ab Ad Af Aj Ak Ag Al Ah Ai Am:Int) (Ac:List Int) (Ae:List wA) (Ao:Int) (w1 w3:List Int) (w4:List wG) (w5k:List Int) (w5v:List Bool)=>(w5v=trs w5k/\p1.marks.length<=1000000/\0<=p1.leaves/\p1.leaves<=(w1.length:Int),Aa,Ab,Ad,Af,Aj,Ak,Ag,Al,Ah,p1.wAY,p1.wAZ,p1.wAe,(0:Int),(p1.leaves.toNat:Int),p1.wAS,p1.hidden,w1,w3,w4,((remS p1.marks w5k).2:List Int),(trs (remS p1.marks w5k).2:List Bool),())
theorem k4v:kap.Ok Tryz.prog TB:=prv Bs Tryz.func74 .no (ki6.c c0) (Q:=∀(p1:wG) (Aa Ab Ad Af Aj Ak Ag Al Ah Ai Am:Int) (Ac:List Int) (Ae:List wA) (Ao:Int) (w1 w3:List Int) (w4:List wG) (w5k:List Int) (w5v:List Bool),(w5v=trs w5k/\p1.marks.length<=1000000/\0<=p1.leaves/\p1.leaves<=(w1.length:Int))->∀At:Int,Aa=At->∀Aq:Int,Ab=Aq->∀As:Int,Ad=As->∀Au:Int,Af=Au->∀Bl:Int,Aj=Bl->∀Bm:Int,Ak=Bm->∀Bn:Int,Ag=Bn->∀Bo:Int,Al=Bo->∀Bp:Int,Ah=Bp->∀Bq:Int,p1.wAY=Bq->∀Br:Int,p1.wAZ=Br->∀A9:List Int,p1.wAe=A9->∀d0_12o:Int,(0:Int)=d0_12o->∀d0_12n:Int,(p1.leaves.toNat:Int)=d0_12n->∀Ba:List wA,p1.wAS=Ba->∀Bt:Int,p1.hidden=Bt->∀e1:List Int,w1=e1->∀e3:List Int,w3=e3->∀e4:List wG,w4=e4->∀e5k:List Int,((remS p1.marks w5k).2)=e5k->∀e5v:List Bool,(trs (remS p1.marks w5k).2)=e5v-> 
(w5v=trs w5k/\p1.marks.length<=1000000)/\(0<=p1.leaves)/\p1.leaves<=(w1.length:Int)/\lz w4/\lz w3/\Aa=At/\Ab=Aq/\Ad=As/\Af=Au/\Aj=Bl/\Ak=Bm/\Ag=Bn/\Al=Bo/\Ah=Bp/\p1.wAY=Bq/\p1.wAZ=Br/\p1.wAe=A9/\(0:Int)=d0_12o/\(p1.leaves.toNat:Int)=d0_12n/\p1.wAS=Ba/\p1.hidden=Bt/\w1=e1/\w3=e3/\w4=e4/\((remS p1.marks w5k).2)=e5k/\(trs (remS p1.marks w5k).2)=e5v)<|by rintro p1 Aa Ab Ad Af Aj Ak Ag Al Ah Ai Am Ac Ae Ao w1 w3 w4 w5k w5v h _ rfl _ rfl _ rfl _ rfl _ rfl _ rfl _ rfl _ rfl _ rfl _ rfl _ rfl _ rfl _ rfl _ rfl _ rfl _ rfl _ rfl _ rfl _ rfl _ rfl _ rfl;exact⟨⟨h.1,h.2.1⟩,h.2.2.1,h.2.2.2,rfl,rfl,rfl,rfl,rfl,rfl,rfl,rfl,rfl,rfl,rfl,rfl,rfl,rfl,rfl,rfl,rfl,rfl,rfl,rfl,rfl,rfl,rfl⟩
noncomputable def k96:Con TB.den:= .gp 108 [yqi] [yqu] [] fun(p0:Int)=>(0<=p0/\p0<=12,(emp p0.toNat:Int),())
theorem kau:k96.Ok Tryz.prog TB:=qrv Bs Tryz.func108 (.r 2 (.nd [] (.r 0 (.lp [] ⟨[],[],[3,12],[.one (zqu),.one (zqi)],[]⟩ .no)) [] .no)) (k14.c (k1w.c c0)) (Q:=∀(p0:Int),(0<=p0/\p0<=12)->∀r0:Int,emp p0.toNat=r0-> 
(decide (p0<0)=true->
 0=r0)/\
(decide (p0<0)=false->
(decide (12<p0)=true->
 0=r0)/\
(decide (12<p0)=false->
((18446744069414584321:Int)=18446744069414584321/\U64 (6:Int)/\Us ([]:List Int)/\([]:List Int).length<=1099511627776)/\∃(I1:Int->Int->Prop) (M1:Int->Int->Nat),I1 (hashS (6:Int) ([]:List Int)) 0/\∀b1 f1,(I1 b1 f1->
(decide (f1<p0)=true->
(U64 b1/\U64 b1)/\I1 (hashS 6 [b1,b1]) (i64.wrap (f1+1))/\M1 (hashS 6 [b1,b1]) (i64.wrap (f1+1))<M1 b1 f1)/\
(decide (f1<p0)=false->
 b1=r0)))))<|by
 rintro p0 h _ rfl;refine⟨fun e=>(by have:=qb e;omega),fun _=>⟨fun e=>(by have:=qb e;omega),fun _=>⟨⟨rfl,by decide,(by intro x hx;cases hx),by decide⟩,?_⟩⟩⟩;refine⟨(fun x a=>∃i:Nat,a=(i:Int)/\(i:Int)<=p0/\x=emp i),(fun _ a=>(p0-a).toNat),⟨0,rfl,by omega,rfl⟩,?_⟩;rintro _ _ ⟨i,rfl,hi,rfl⟩;refine⟨fun e=> ?_,fun e=> ?_⟩
 ·have e:=qb e;rw[inc_i64 _ qqo];exact⟨⟨emp_u i,emp_u i⟩,⟨i+1,rfl,by omega,rfl⟩,by(dsimp only;omega)⟩
 ·have e:=qc e;have:p0.toNat=i:=by omega
  rw[this]
noncomputable def kat:Con TB.den:= .gp 71 [.st 6] [yqu] [] fun(p0:wD)=>(FV p0,(rootF p0:Int),())
theorem k2f:kat.Ok Tryz.prog TB:=qrv Bs Tryz.func71 (.r 4 (.nd [] (.r 0 (.lp [] ⟨[],[],[3,4,25],[.one (zqu),.one (zqu),.one (zqi)],[]⟩ (.r 1 (.nd [] (.r 0 (.jn ⟨[],[],[4],[.one (zqu)],[]⟩ [] .no [] .no)) [] .no)))) [] .no)) (k48.c (kau.c (k1w.c c0))) (Q:=∀(p0:wD),(FV p0)->∀r0:Int,rootF p0=r0-> 
(FV p0)/\((!true)=true->
 0=r0)/\
((!true)=false->
(0<=p0.wC)/\((p0.wZ==(ishl .i64 1 p0.wC))=true->
(0<=p0.wC)/\p0.wC<(p0.wc.length:Int)/\ix p0.wc p0.wC=r0)/\
((p0.wZ==(ishl .i64 1 p0.wC))=false->
(0<=(0:Int)/\(0:Int)<=12)/\∃(I1:Int->Int->Int->Prop) (M1:Int->Int->Int->Nat),I1 (emp (0:Int).toNat) (emp (0:Int).toNat) 0/\∀b1 f1 i1,(I1 b1 f1 i1->
(decide (i1<p0.wC)=true->
 ∀J1:Int->Prop,(∀(k1:Int),
((U64 b1/\U64 b1)/\I1 (hashS 6 [b1,b1]) k1 (i64.wrap (i1+1))/\M1 (hashS 6 [b1,b1]) k1 (i64.wrap (i1+1))<M1 b1 f1 i1)->J1 k1)->
(0<=i1)/\let v1:Bool:=((iand .i64 (ishr .i64 p0.wZ i1) 1)==1)
(v1=true->
(0<=i1)/\i1<(p0.wc.length:Int)/\(U64 (ix p0.wc i1)/\U64 f1)/\J1 (hashS 6 [(ix p0.wc i1),f1]))/\
(v1=false->
(U64 f1/\U64 b1)/\J1 (hashS 6 [f1,b1])))/\
(decide (i1<p0.wC)=false->
 f1=r0)))))<|by
 rintro p0 h _ rfl;have hv:=h;obtain⟨d1,d2,c0,c1,ll,u,z⟩:=h;obtain⟨d,hd⟩:=qn (show 0<=p0.wC by omega);obtain⟨n,hn⟩:=qn c0;have hdn:p0.wC.toNat=d:=by omega
 have hp:=pow12 d qqo;rw[hdn]at c1 ll;refine⟨hv,fun e=>(by cases e),fun _=>⟨by omega,?_⟩⟩;rw[hd,shl1 d qqo,hn];refine⟨fun e=>⟨by omega,by omega,?_⟩,fun e=>⟨by decide,?_⟩⟩
 ·have e:(n:Int)=((2^d:Nat):Int):=by simpa using e
  unfold rootF;rw[hdn,hn,qh e,hd]
 have e:¬(n:Int)=((2^d:Nat):Int):=by simpa using e
 have hr:rootF p0=rootGo p0 d 0 (emp 0) (emp 0):=by unfold rootF;rw[hdn,hn,qe e]
 rw[hr];refine⟨fun a x b=>∃i:Nat,b=(i:Int)/\i<=d/\a=emp i/\(0<=x/\x<18446744069414584321)/\rootGo p0 (d-i) i (emp i) x=rootGo p0 d 0 (emp 0) (emp 0),fun _ _ b=>(d-b).toNat,⟨0,rfl,by omega,rfl,⟨(emp_u 0).1,emp_lt 0⟩,rfl⟩,?_⟩;rintro _ x _ ⟨i,rfl,hi,rfl,hx,hg⟩;refine⟨fun e J1 j=> ?_,fun e=> ?_⟩
 ·have e:i<d:=by have:=qb e;omega
  have hs:i<p0.wc.length:=by omega
  have hxl:=u _ (qak hs);generalize hR:rootGo p0 d 0 (emp 0) (emp 0)=R at hg ⊢;rw[show d-i=d-(i+1)+1 by omega]at hg;unfold rootGo at hg;rw[hn,qr]at hg;rw[bit1 n i qqo qqo];refine⟨by omega,fun e2=>⟨by omega,by omega,?_,?_⟩,fun e2=>⟨⟨⟨hx.1,by omega⟩,emp_u i⟩,?_⟩⟩
  ·rw[ix_get _ _ hs];exact⟨⟨hxl.1,by omega⟩,hx.1,by omega⟩
  ·have e2:((n/2^i%2:Nat):Int)=1:=by simpa using e2
   have hb:bitN n i=true:=by unfold bitN;generalize n/2^i%2=q at *;simp;omega
   rw[qh hb]at hg;refine j _ ⟨⟨emp_u i,emp_u i⟩,?_⟩;rw[inc_i64 _ qqo];exact⟨⟨i+1,rfl,by omega,rfl,⟨(kz _ _).1,k4m _ _⟩,hg.trans hR.symm⟩,by show((d:Int)-((i+1:Nat):Int)).toNat<((d:Int)-(i:Int)).toNat;omega⟩
  ·have e2:¬((n/2^i%2:Nat):Int)=1:=by simpa using e2
   have hb:¬bitN n i=true:=by unfold bitN;generalize n/2^i%2=q at *;simp;omega
   rw[qe hb]at hg;refine j _ ⟨⟨emp_u i,emp_u i⟩,?_⟩;rw[inc_i64 _ qqo];exact⟨⟨i+1,rfl,by omega,rfl,⟨(kz _ _).1,k4m _ _⟩,hg.trans hR.symm⟩,by show((d:Int)-((i+1:Nat):Int)).toNat<((d:Int)-(i:Int)).toNat;omega⟩
 ·have e:d=i:=by have:=qc e;omega
  subst e;rw[Nat.sub_self]at hg;exact hg
noncomputable def kde:Con TB.den:= .b ⟨23,[.one (.ptr 0 0),.agg yA1],yI,(.one (.one (zqi))),yH,false⟩ [.st 3,yqi,yqi,yqi,yqi,yqi,yqu,yqi,yqi,yqu,yqi,yqi,.sl yqu,.sl (.st 9),yqu,.sl yqu,.sl yqu,.sl (.st 10),.sl yqu,.sl (.bool)] [yqi,yqi,yqi,yqi,yqi,yqi,yqu,yqi,yqi,yqu,yqi,yqi,.sl yqu,.sl (.st 9),yqu,.sl yqu,.sl (.bool),.sl yqu,.sl yqu,.sl (.st 10)] fun(p1:wI) (Aa Ab Ad Af Aj Ak Ag Al Ah Ai Am:Int) (Ac:List Int) (Ae:List wA) (Ao:Int) (w1 w3:List Int) (w4:List wG) (w5k:List Int) (w5v:List Bool)=>((∃c:Nat,c+p1.Txs.length<=790/\PI (PS.mk (wB.mk Aa Ab Ad Af Aj Ak Ag Al Ah) (wD.mk Ai Am Ac) Ae Ao w1 w3 w4 w5k w5v) c 0)/\BR' p1,applyS (PS.mk (wB.mk Aa Ab Ad Af Aj Ak Ag Al Ah) (wD.mk Ai Am Ac) Ae Ao w1 w3 w4 w5k w5v) p1,fun R=>(R.e,R.s.R.wX,R.s.R.wC,R.s.R.wN,R.s.R.wM,R.s.R.wJ,R.s.R.wS,R.s.R.wV,R.s.R.wO,R.s.R.wR,R.s.F.wC,R.s.F.wZ,R.s.F.wc,R.s.b,R.s.n,R.s.k,R.s.v,R.s.l,R.s.r,R.s.p,()))
abbrev k26 (R:PE) (o0 o1 o2 o3 o4 o5 o6 o7 o8 o9 o10 o11:Int) (o12:List Int) (o13:List wA) (o14:Int) (o15:List Int) (o16:List Bool) (o17 o18:List Int) (o19:List wG):Prop:=o0=R.e/\o1=R.s.R.wX/\o2=R.s.R.wC/\o3=R.s.R.wN/\o4=R.s.R.wM/\o5=R.s.R.wJ/\o6=R.s.R.wS/\o7=R.s.R.wV/\o8=R.s.R.wO/\o9=R.s.R.wR/\o10=R.s.F.wC/\o11=R.s.F.wZ/\o12=R.s.F.wc/\o13=R.s.b/\o14=R.s.n/\o15=R.s.k/\o16=R.s.v/\o17=R.s.l/\o18=R.s.r/\o19=R.s.p
theorem k3l:kde.Ok Tryz.prog TB:=pbx Bs [61,62,75,76] Tryz.func23 (.r 0 (.nd [] (.r 0 (.nd [] (.r 0 (.rt [.trimc 0 12,.trimc 0 16,.trimc 0 17])) [] .no)) [] (.nd [] (.r 0 (.nd [] (.r 0 (.rt [.trimc 0 12,.trimc 0 16,.trimc 0 17])) [] .no)) [] (.r 1 (.nd [] (.nd [.tokc 439 4 yqu] .no [] (.r 0 (.nd [] (.r 1 (.rt [.trimc 0 12,.trimc 0 16,.trimc 0 17])) [] .no))) [] .no))))) x0 (kbv.c (k4v.c (k2f.c c0))) (Q:=∀(p1:wI) (Aa Ab Ad Af Aj Ak Ag Al Ah Ai Am:Int) (Ac:List Int) (Ae:List wA) (Ao:Int) (w1 w3:List Int) (w4:List wG) (w5k:List Int) (w5v:List Bool),((∃c:Nat,c+p1.Txs.length<=790/\PI (PS.mk (wB.mk Aa Ab Ad Af Aj Ak Ag Al Ah) (wD.mk Ai Am Ac) Ae Ao w1 w3 w4 w5k w5v) c 0)/\BR' p1)->∀R,applyS (PS.mk (wB.mk Aa Ab Ad Af Aj Ak Ag Al Ah) (wD.mk Ai Am Ac) Ae Ao w1 w3 w4 w5k w5v) p1=R-> 
 let v1:Bool:=(p1.wQ !=(i64.wrap ((w4.length:Int)+1)))
(v1=true->
 lz w1/\lz w3/\lz w4/\lz w4/\lz w3/\lz w1/\k26 R 18 Aa Ab Ad Af Aj Ak Ag Al Ah Ai Am Ac Ae Ao w5k w5v w1 w3 w4)/\
(v1=false->
(decide (18446744069414584321<=p1.wAF)=true->
 lz w1/\lz w3/\lz w4/\lz w4/\lz w3/\lz w1/\k26 R 1 Aa Ab Ad Af Aj Ak Ag Al Ah Ai Am Ac Ae Ao w5k w5v w1 w3 w4)/\
(decide (18446744069414584321<=p1.wAF)=false->
(([]:List Int)=([]:List Int))/\lz w4/\lz w3/\lz w1/\((∃c:Nat,c+p1.Txs.length<=790/\PI (PS.mk (wB.mk Aa Ab Ad Af Aj Ak Ag Al Ah) (wD.mk Ai Am Ac) Ae Ao w1 w3 w4 w5k w5v) c 0)/\BR' p1/\([]:List Int)=[])/\let r2:=blkS (PS.mk (wB.mk Aa Ab Ad Af Aj Ak Ag Al Ah) (wD.mk Ai Am Ac) Ae Ao w1 w3 w4 w5k w5v) ([]:List Int) p1
 let r3:=(blkS (PS.mk (wB.mk Aa Ab Ad Af Aj Ak Ag Al Ah) (wD.mk Ai Am Ac) Ae Ao w1 w3 w4 w5k w5v) ([]:List Int) p1).s
((r2.e !=0)=true->
 lz r3.p/\lz r3.r/\lz r3.l/\(r3.v=trs r3.k/\(wG.mk Ai Am Ac (w1.length:Int) r2.m Ae Ao).marks.length<=1000000/\0<=(wG.mk Ai Am Ac (w1.length:Int) r2.m Ae Ao).leaves/\(wG.mk Ai Am Ac (w1.length:Int) r2.m Ae Ao).leaves<=(r3.l.length:Int))/\let r4:=wG.mk Ai Am Ac (w1.length:Int) r2.m Ae Ao
 let r5:Int:=((wG.mk Ai Am Ac (w1.length:Int) r2.m Ae Ao).leaves.toNat:Int)
 let r6:List Int:=((remS (wG.mk Ai Am Ac (w1.length:Int) r2.m Ae Ao).marks r3.k).2)
 let r7:List Bool:=(trs (remS (wG.mk Ai Am Ac (w1.length:Int) r2.m Ae Ao).marks r3.k).2)
(0:Int).toNat=0/\r5.toNat<=r3.l.length/\lz r3.r/\lz r3.p/\lz r3.p/\lz r3.r/\lz (r3.l.take r5.toNat)/\k26 R r2.e r3.R.wX r3.R.wC r3.R.wN r3.R.wM r3.R.wJ r3.R.wS r3.R.wV r3.R.wO r3.R.wR r4.wAY r4.wAZ r4.wAe r4.wAS r4.hidden r6 r7 (r3.l.take r5.toNat) r3.r r3.p)/\
((r2.e !=0)=false->
 let v8:List wG:=[wG.mk Ai Am Ac (w1.length:Int) r2.m Ae Ao]
 lz r3.p/\lz v8/\(r3.p.length+v8.length)*104<=140737488355328/\r3.p.length+v8.length<=maxLen/\(FV r3.F)/\lz r3.r/\lz [(rootF r3.F)]/\(r3.r.length+[(rootF r3.F)].length)*8<=140737488355328/\r3.r.length+[(rootF r3.F)].length<=maxLen/\lz (r3.p++v8)/\lz (r3.r++[(rootF r3.F)])/\lz r3.l/\k26 R 0 r3.R.wX r3.R.wC r3.R.wN r3.R.wM r3.R.wJ r3.R.wS r3.R.wV r3.R.wO r3.R.wR r3.F.wC r3.F.wZ r3.F.wc r3.b r3.n r3.k r3.v r3.l (r3.r++[(rootF r3.F)]) (r3.p++v8)))))<|by
 rintro p1 Aa Ab Ad Af Aj Ak Ag Al Ah Ai Am Ac Ae Ao w1 w3 w4 w5k w5v h R hR;obtain⟨⟨c,hc,hp⟩,hb⟩:=h;have hB:=blkS_BI hp qqo hb;have hml:=blkS_ml (PS.mk (wB.mk Aa Ab Ad Af Aj Ak Ag Al Ah) (wD.mk Ai Am Ac) Ae Ao w1 w3 w4 w5k w5v) p1;have hQ:=kjw hB hp.v;have hpl:w4.length<=c:=hp.p;have hrl:w3.length=w4.length+1:=hp.rl;unfold applyS at hR;generalize hx:blkS (PS.mk (wB.mk Aa Ab Ad Af Aj Ak Ag Al Ah) (wD.mk Ai Am Ac) Ae Ao w1 w3 w4 w5k w5v) [] p1=x at hB hml hQ hR;simp only at hR;have ei:i64.wrap ((w4.length:Int)+1)=(w4.length:Int)+1:=kp _ qqo qqo;rw[ei];refine⟨fun e=> ?_,fun e=>⟨fun e2=> ?_,fun e2=>⟨(by first|exact rfl|exact qq),rfl,rfl,rfl,⟨⟨c,hc,hp⟩,hb,rfl⟩,fun e3=> ?_,fun e3=> ?_⟩⟩⟩
 ·have e:p1.wQ≠(w4.length:Int)+1:=by simpa using e
  rw[qh e]at hR;subst hR;exact(by repeat' first|apply qaa|exact rfl|exact qq)
 ·have e:¬p1.wQ≠(w4.length:Int)+1:=by simpa using e
  rw[qe e,qh (qb e2)]at hR;subst hR;exact(by repeat' first|apply qaa|exact rfl|exact qq)
 ·have e:¬p1.wQ≠(w4.length:Int)+1:=by simpa using e
  have e3:x.e≠0:=by simpa using e3
  rw[qe e,qe (qc e2),qh e3]at hR;subst hR;obtain⟨y,hy⟩:=hB.l;have hy:x.s.l=w1++y:=hy;have hR2:x.s.R=wB.mk Aa Ab Ad Af Aj Ak Ag Al Ah:=hB.R;have hk2:(remS x.m x.s.k).2=w5k:=congrArg PS.k hQ;have hv2:trs (remS x.m x.s.k).2=w5v:=congrArg PS.v hQ;have hl2:x.s.l.take w1.length=w1:=by rw[hy];exact List.take_left
  have hr2:x.s.r=w3:=hB.r;have hp2:x.s.p=w4:=hB.p;refine⟨rfl,rfl,rfl,⟨hB.v,?_,?_,?_⟩,?_⟩
  ·show x.m.length<=1000000;omega
  ·show(0:Int)<=(w1.length:Int);omega
  ·show(w1.length:Int)<=(x.s.l.length:Int);rw[hy,qj];omega
  ·simp only[qr];rw[hR2,hk2,hl2,hr2,hp2];rw[hk2]at hv2;refine⟨(by first|exact rfl|exact qq),?_,?_⟩
   ·rw[hy,qj];omega
   ·rw[hv2];exact(by repeat' first|apply qaa|exact rfl|exact qq)
 ·have e:¬p1.wQ≠(w4.length:Int)+1:=by simpa using e
  have e3:x.e=0:=by simpa using e3
  rw[qe e,qe (qc e2),qe (fun hh=>hh e3)]at hR;subst hR;have hr2:x.s.r=w3:=hB.r;have hp2:x.s.p=w4:=hB.p;have hR2:x.s.R=wB.mk Aa Ab Ad Af Aj Ak Ag Al Ah:=hB.R;have hfv:FV x.s.F:=by rw[hB.F];exact frF_FV (by rw[hR2];exact hp.d1) (by rw[hR2];exact hp.d2) hB.ll hB.lb
  rw[hr2,hp2];refine⟨rfl,rfl,?_,?_,hfv,rfl,rfl,?_,?_,(by repeat' first|apply qaa|exact rfl|exact qq)⟩
  ·simp only[qad,qbf];omega
  ·simp only[qad,qbf];unfold maxLen;omega
  ·simp only[qad,qbf];omega
  ·simp only[qad,qbf];unfold maxLen;omega
noncomputable def kfy:Con TB.den:= .b ⟨94,[.one (.ptr 0 0)],yI,(.one (.one (.d (.bool)))),yH,false⟩ yO [.bool,yqi,yqi,yqi,yqi,yqi,yqu,yqi,yqi,yqu,yqi,yqi,.sl yqu,.sl (.st 9),yqu,.sl yqu,.sl (.bool),.sl yqu,.sl yqu,.sl (.st 10)] fun(Aa Ab Ad Af Aj Ak Ag Al Ah Ai Am:Int) (Ac:List Int) (Ae:List wA) (Ao:Int) (w1 w3:List Int) (w4:List wG) (w5k:List Int) (w5v:List Bool)=>(UOk (PS.mk (wB.mk Aa Ab Ad Af Aj Ak Ag Al Ah) (wD.mk Ai Am Ac) Ae Ao w1 w3 w4 w5k w5v),undoS (PS.mk (wB.mk Aa Ab Ad Af Aj Ak Ag Al Ah) (wD.mk Ai Am Ac) Ae Ao w1 w3 w4 w5k w5v),fun R=>(((decide (w4≠[])):Bool),R.R.wX,R.R.wC,R.R.wN,R.R.wM,R.R.wJ,R.R.wS,R.R.wV,R.R.wO,R.R.wR,R.F.wC,R.F.wZ,R.F.wc,R.b,R.n,R.k,R.v,R.l,R.r,R.p,()))
theorem khd:kfy.Ok Tryz.prog TB:=pbv Bs Tryz.func94 (.r 1 (.nd [] (.r 0 (.nd [] (.r 0 (.rt [.trimc 0 12,.trimc 0 16,.trimc 0 17])) [] .no)) [] (.r 4 (.rt [.trimc 0 12,.trimc 0 16,.trimc 0 17])))) (k4v.c c0) (Q:=∀(Aa Ab Ad Af Aj Ak Ag Al Ah Ai Am:Int) (Ac:List Int) (Ae:List wA) (Ao:Int) (w1 w3:List Int) (w4:List wG) (w5k:List Int) (w5v:List Bool),(UOk (PS.mk (wB.mk Aa Ab Ad Af Aj Ak Ag Al Ah) (wD.mk Ai Am Ac) Ae Ao w1 w3 w4 w5k w5v))->∀R,undoS (PS.mk (wB.mk Aa Ab Ad Af Aj Ak Ag Al Ah) (wD.mk Ai Am Ac) Ae Ao w1 w3 w4 w5k w5v)=R-> 
(((w4.length:Int)==0)=true->
 lz w1/\lz w3/\lz w4/\lz w4/\lz w3/\lz w1/\false=(decide (w4≠[]))/\Aa=R.R.wX/\Ab=R.R.wC/\Ad=R.R.wN/\Af=R.R.wM/\Aj=R.R.wJ/\Ak=R.R.wS/\Ag=R.R.wV/\Al=R.R.wO/\Ah=R.R.wR/\Ai=R.F.wC/\Am=R.F.wZ/\Ac=R.F.wc/\Ae=R.b/\Ao=R.n/\w5k=R.k/\w5v=R.v/\w1=R.l/\w3=R.r/\w4=R.p)/\
(((w4.length:Int)==0)=false->
(0<=i64.wrap ((w4.length:Int)-1)/\i64.wrap ((w4.length:Int)-1)<(w4.length:Int))/\(0<=i64.wrap ((w4.length:Int)-1)/\i64.wrap ((w4.length:Int)-1)<(w4.length:Int))/\lz w4/\lz w3/\lz w1/\(w5v=trs w5k/\(ix w4 (i64.wrap ((w4.length:Int)-1))).marks.length<=1000000/\0<=(ix w4 (i64.wrap ((w4.length:Int)-1))).leaves/\(ix w4 (i64.wrap ((w4.length:Int)-1))).leaves<=(w1.length:Int))/\let r1:=ix w4 (i64.wrap ((w4.length:Int)-1))
 let r2:Int:=((ix w4 (i64.wrap ((w4.length:Int)-1))).leaves.toNat:Int)
 let r3:List Int:=((remS (ix w4 (i64.wrap ((w4.length:Int)-1))).marks w5k).2)
 let r4:List Bool:=(trs (remS (ix w4 (i64.wrap ((w4.length:Int)-1))).marks w5k).2)
(0<=i64.wrap ((w4.length:Int)-1)/\i64.wrap ((w4.length:Int)-1)<(w4.length:Int))/\(0<=i64.wrap ((w4.length:Int)-1)/\i64.wrap ((w4.length:Int)-1)<(w4.length:Int))/\(0<=i64.wrap ((w4.length:Int)-1))/\i64.wrap ((w4.length:Int)-1)<=(w4.length:Int)/\(0<=i64.wrap ((w3.length:Int)-1))/\i64.wrap ((w3.length:Int)-1)<=(w3.length:Int)/\(0:Int).toNat=0/\r2.toNat<=w1.length/\0=0/\(i64.wrap ((w3.length:Int)-1)).toNat<=w3.length/\0=0/\(i64.wrap ((w4.length:Int)-1)).toNat<=(w4.set (i64.wrap ((w4.length:Int)-1)).toNat (wG.mk 0 0 ([]:List Int) 0 ([]:List Int) ([]:List wA) 0)).length/\lz ((w4.set (i64.wrap ((w4.length:Int)-1)).toNat (wG.mk 0 0 ([]:List Int) 0 ([]:List Int) ([]:List wA) 0)).take ((i64.wrap ((w4.length:Int)-1)).toNat))/\lz (w3.take ((i64.wrap ((w3.length:Int)-1)).toNat))/\lz (w1.take r2.toNat)/\true=(decide (w4≠[]))/\Aa=R.R.wX/\Ab=R.R.wC/\Ad=R.R.wN/\Af=R.R.wM/\Aj=R.R.wJ/\Ak=R.R.wS/\Ag=R.R.wV/\Al=R.R.wO/\Ah=R.R.wR/\r1.wAY=R.F.wC/\r1.wAZ=R.F.wZ/\r1.wAe=R.F.wc/\r1.wAS=R.b/\r1.hidden=R.n/\r3=R.k/\r4=R.v/\w1.take r2.toNat=R.l/\w3.take ((i64.wrap ((w3.length:Int)-1)).toNat)=R.r/\(w4.set (i64.wrap ((w4.length:Int)-1)).toNat (wG.mk 0 0 ([]:List Int) 0 ([]:List Int) ([]:List wA) 0)).take ((i64.wrap ((w4.length:Int)-1)).toNat)=R.p))<|by
 rintro Aa Ab Ad Af Aj Ak Ag Al Ah Ai Am Ac Ae Ao w1 w3 w4 w5k w5v h R hR;have hv:w5v=trs w5k:=h.v;have hr1:1<=w3.length:=h.r;have hr2:w3.length<=1000000:=h.rl;have hpl:w4.length<=1000000:=h.pl;have hq:w4≠[]->(ix w4 ((w4.length:Int)-1)).marks.length<=1000000/\0<=(ix w4 ((w4.length:Int)-1)).leaves/\(ix w4 ((w4.length:Int)-1)).leaves<=(w1.length:Int):=h.q;unfold undoS at hR;simp only at hR;refine⟨fun e=> ?_,fun e=> ?_⟩
 ·have e:w4=[]:=by simpa using e
  rw[qh e]at hR;subst hR;rw[qbr (fun hh=>hh e)];exact(by repeat' first|apply qaa|exact rfl|exact qq)
 ·have e:¬w4=[]:=by simpa using e
  have hne:1<=w4.length:=qda.2 e;rw[qe e]at hR;obtain⟨q1,q2,q3⟩:=hq e;have e1:i64.wrap ((w4.length:Int)-1)=((w4.length-1:Nat):Int):=by rw[kp _ qqo qqo];omega
  have e2:i64.wrap ((w3.length:Int)-1)=((w3.length-1:Nat):Int):=by rw[kp _ qqo qqo];omega
  have e3:((w4.length:Int)-1)=((w4.length-1:Nat):Int):=by omega
  rw[e3]at q1 q2 q3 hR;unfold resS at hR;subst hR;rw[e1,e2,qbn e];simp only[qr];rw[take_set'];refine⟨⟨by omega,by omega⟩,⟨by omega,by omega⟩,(by first|exact rfl|exact qq),(by first|exact rfl|exact qq),(by first|exact rfl|exact qq),⟨hv,q1,q2,q3⟩,⟨by omega,by omega⟩,⟨by omega,by omega⟩,by omega,by omega,by omega,by omega,(by first|exact rfl|exact qq),by omega,(by first|exact rfl|exact qq),by omega,(by first|exact rfl|exact qq),?_,(by repeat' first|apply qaa|exact rfl|exact qq)⟩;rw[qy];omega
noncomputable def kfo:Con TB.den:= .b ⟨48,[.one (.ptr 0 0),.one (zql),.one (zql)],yB,(.tup []),yA,false⟩ (.sl yqu:: .sl yqu:: .int .i64:: .int .i64:: .int .i64:: .int .i64:: .int .i64:: .int .u64:: .int .i64:: .int .i64:: .int .u64:: .sl yqu:: .int .u64:: .int .i64:: .bool::yF) (.int .i64:: .int .i64:: .int .i64:: .int .i64:: .int .i64:: .int .u64:: .int .i64:: .int .i64:: .int .u64:: .sl yqu:: .int .u64:: .int .i64:: .bool::yG) fun(p1 p2:List Int) (Ab Ad Af Aj Ak Ag Al Ah Ai:Int) (Ac:List Int) (Av Ae:Int) (Ap:Bool) (Aw Ax:Int) (Ay:List wH) (Bb Bc Bd Be Bf Bg Bh Bi Bj Bk Az:Int) (A0:List Int) (A7:List wA) (A8:Int) (w2k:List Int) (w2v:List wK) (w4k:List ByteArray) (w4v:List Int) (w5k:List ByteArray) (w5v:List (List Int)) (w6k:List ByteArray) (w6v:List Bool) (w7 w9:List Int) (w10:List wG) (w11k:List Int) (w11v:List Bool)=>(w2k.length=w2v.length/\MvOk w2k w2v (PS.mk (wB.mk Bb Bc Bd Be Bf Bg Bh Bi Bj) (wD.mk Bk Az A0) A7 A8 w7 w9 w10 w11k w11v) p1.length p2,mvS w2k w2v (PS.mk (wB.mk Bb Bc Bd Be Bf Bg Bh Bi Bj) (wD.mk Bk Az A0) A7 A8 w7 w9 w10 w11k w11v) p1.length p2,fun R=>(Ab,Ad,Af,Aj,Ak,Ag,Al,Ah,Ai,Ac,Av,Ae,Ap,Aw,Ax,Ay,R.R.wX,R.R.wC,R.R.wN,R.R.wM,R.R.wJ,R.R.wS,R.R.wV,R.R.wO,R.R.wR,R.F.wC,R.F.wZ,R.F.wc,R.b,R.n,w2k,w2v,w4k,w4v,w5k,w5v,w6k,w6v,R.k,R.v,R.l,R.r,R.p,()))
abbrev Fz3 (r:Type):=Int->Int->Int->Int->Int->Int->Int->Int->Int->Int->Int->Int->(List Int)->(List wA)->Int->(List Int)->(List Bool)->(List Int)->(List Int)->(List wG)->r
theorem khw:kfo.Ok Tryz.prog TB:=pbv Bs Tryz.func48 (.nd [] (.nd [.trimc 3 17,.trimc 3 16,.trimc 3 12] .no [] (.lp [] ⟨[11,8,3],yJ,[10],[.one (zqi)],[12,13,14]⟩ .no)) [] (.r 0 (.lp [] ⟨[11,8,3],yJ,[20],[.one (zqi)],[15,16,17]⟩ .no))) (khd.c (k3l.c c0)) (Q:=∀(p1 p2:List Int) (Ab Ad Af Aj Ak Ag Al Ah Ai:Int) (Ac:List Int) (Av Ae:Int) (Ap:Bool) (Aw Ax:Int) (Ay:List wH) (Bb Bc Bd Be Bf Bg Bh Bi Bj Bk Az:Int) (A0:List Int) (A7:List wA) (A8:Int) (w2k:List Int) (w2v:List wK) (w4k:List ByteArray) (w4v:List Int) (w5k:List ByteArray) (w5v:List (List Int)) (w6k:List ByteArray) (w6v:List Bool) (w7 w9:List Int) (w10:List wG) (w11k:List Int) (w11v:List Bool),(w2k.length=w2v.length/\MvOk w2k w2v (PS.mk (wB.mk Bb Bc Bd Be Bf Bg Bh Bi Bj) (wD.mk Bk Az A0) A7 A8 w7 w9 w10 w11k w11v) p1.length p2)->∀R,mvS w2k w2v (PS.mk (wB.mk Bb Bc Bd Be Bf Bg Bh Bi Bj) (wD.mk Bk Az A0) A7 A8 w7 w9 w10 w11k w11v) p1.length p2=R-> 
 lz w10/\lz w9/\lz w7/\lz w10/\lz w9/\lz w7/\∃(I1:Fz3 Prop) (M1:Fz3 Nat),I1 0 Bb Bc Bd Be Bf Bg Bh Bi Bj Bk Az A0 A7 A8 w11k w11v w7 w9 w10/\∀b1 f1 i1 k1 l1 m1 n1 o1 q1 s1 t1 u1 x1 y1 b2 f2 i2 k2 l2 m2,(I1 b1 f1 i1 k1 l1 m1 n1 o1 q1 s1 t1 u1 x1 y1 b2 f2 i2 k2 l2 m2->
(decide (b1<(p1.length:Int))=true->
 lz m2/\lz l2/\lz k2/\(UOk (PS.mk (wB.mk f1 i1 k1 l1 m1 n1 o1 q1 s1) (wD.mk t1 u1 x1) y1 b2 k2 l2 m2 f2 i2))/\let r1:=undoS (PS.mk (wB.mk f1 i1 k1 l1 m1 n1 o1 q1 s1) (wD.mk t1 u1 x1) y1 b2 k2 l2 m2 f2 i2)
 lz r1.p/\lz r1.r/\lz r1.l/\I1 (i64.wrap (b1+1)) r1.R.wX r1.R.wC r1.R.wN r1.R.wM r1.R.wJ r1.R.wS r1.R.wV r1.R.wO r1.R.wR r1.F.wC r1.F.wZ r1.F.wc r1.b r1.n r1.k r1.v r1.l r1.r r1.p/\M1 (i64.wrap (b1+1)) r1.R.wX r1.R.wC r1.R.wN r1.R.wM r1.R.wJ r1.R.wS r1.R.wV r1.R.wO r1.R.wR r1.F.wC r1.F.wZ r1.F.wc r1.b r1.n r1.k r1.v r1.l r1.r r1.p<M1 b1 f1 i1 k1 l1 m1 n1 o1 q1 s1 t1 u1 x1 y1 b2 f2 i2 k2 l2 m2)/\
(decide (b1<(p1.length:Int))=false->
 lz m2/\lz l2/\lz k2/\∃(I2:Fz3 Prop) (M2:Fz3 Nat),I2 0 f1 i1 k1 l1 m1 n1 o1 q1 s1 t1 u1 x1 y1 b2 f2 i2 k2 l2 m2/\∀n2 o2 q2 s2 t2 u2 x2 y2 b3 f3 i3 k3 l3 m3 n3 o3 q3 s3 t3 u3,(I2 n2 o2 q2 s2 t2 u2 x2 y2 b3 f3 i3 k3 l3 m3 n3 o3 q3 s3 t3 u3->
(decide (n2<(p2.length:Int))=true->
(0<=n2)/\n2<(p2.length:Int)/\w2k.length=w2v.length/\let v2:wK:=mVal (BEq.beq (ix p2 n2)) w2k w2v (default:wK)
 lz u3/\lz t3/\lz s3/\((∃c:Nat,c+(wI.mk v2.wAH v2.wAC v2.wAM v2.wAP v2.wAN v2.wAT).Txs.length<=790/\PI (PS.mk (wB.mk o2 q2 s2 t2 u2 x2 y2 b3 f3) (wD.mk i3 k3 l3) m3 n3 s3 t3 u3 o3 q3) c 0)/\BR' (wI.mk v2.wAH v2.wAC v2.wAM v2.wAP v2.wAN v2.wAT))/\let r3:Int:=((applyS (PS.mk (wB.mk o2 q2 s2 t2 u2 x2 y2 b3 f3) (wD.mk i3 k3 l3) m3 n3 s3 t3 u3 o3 q3) (wI.mk v2.wAH v2.wAC v2.wAM v2.wAP v2.wAN v2.wAT)).e)
 let r4:=(applyS (PS.mk (wB.mk o2 q2 s2 t2 u2 x2 y2 b3 f3) (wD.mk i3 k3 l3) m3 n3 s3 t3 u3 o3 q3) (wI.mk v2.wAH v2.wAC v2.wAM v2.wAP v2.wAN v2.wAT)).s
 lz r4.p/\lz r4.r/\lz r4.l/\I2 (i64.wrap (n2+1)) r4.R.wX r4.R.wC r4.R.wN r4.R.wM r4.R.wJ r4.R.wS r4.R.wV r4.R.wO r4.R.wR r4.F.wC r4.F.wZ r4.F.wc r4.b r4.n r4.k r4.v r4.l r4.r r4.p/\M2 (i64.wrap (n2+1)) r4.R.wX r4.R.wC r4.R.wN r4.R.wM r4.R.wJ r4.R.wS r4.R.wV r4.R.wO r4.R.wR r4.F.wC r4.F.wZ r4.F.wc r4.b r4.n r4.k r4.v r4.l r4.r r4.p<M2 n2 o2 q2 s2 t2 u2 x2 y2 b3 f3 i3 k3 l3 m3 n3 o3 q3 s3 t3 u3)/\
(decide (n2<(p2.length:Int))=false->
 lz u3/\lz t3/\lz s3/\Ab=Ab/\Ad=Ad/\Af=Af/\Aj=Aj/\Ak=Ak/\Ag=Ag/\Al=Al/\Ah=Ah/\Ai=Ai/\Ac=Ac/\Av=Av/\Ae=Ae/\Ap=Ap/\Aw=Aw/\Ax=Ax/\Ay=Ay/\o2=R.R.wX/\q2=R.R.wC/\s2=R.R.wN/\t2=R.R.wM/\u2=R.R.wJ/\x2=R.R.wS/\y2=R.R.wV/\b3=R.R.wO/\f3=R.R.wR/\i3=R.F.wC/\k3=R.F.wZ/\l3=R.F.wc/\m3=R.b/\n3=R.n/\w2k=w2k/\w2v=w2v/\w4k=w4k/\w4v=w4v/\w5k=w5k/\w5v=w5v/\w6k=w6k/\w6v=w6v/\o3=R.k/\q3=R.v/\s3=R.l/\t3=R.r/\u3=R.p)))))<|by
 rintro p1 p2 Ab Ad Af Aj Ak Ag Al Ah Ai Ac Av Ae Ap Aw Ax Ay Bb Bc Bd Be Bf Bg Bh Bi Bj Bk Az A0 A7 A8 w2k w2v w4k w4v w5k w5v w6k w6v w7 w9 w10 w11k w11v h R hR;obtain⟨hkv,s0,c,lf,hA⟩:=h;have hR' :(auGo (p2.map (gB w2k w2v)) s0).s=R:=by rw[<-hR];unfold mvS;rw[hA.base]
 have hc:=hA.hc;have hn:=hA.hn;refine⟨rfl,rfl,rfl,rfl,rfl,rfl,(fun b f1 f2 f3 f4 f5 f6 f7 f8 f9 t1 t2 t3 y n k v l r p=>∃i:Nat,b=(i:Int)/\i<=p1.length/\PS.mk (wB.mk f1 f2 f3 f4 f5 f6 f7 f8 f9) (wD.mk t1 t2 t3) y n l r p k v=undoN i (PS.mk (wB.mk Bb Bc Bd Be Bf Bg Bh Bi Bj) (wD.mk Bk Az A0) A7 A8 w7 w9 w10 w11k w11v)),(fun b _ _ _ _ _ _ _ _ _ _ _ _ _ _ _ _ _ _ _=>(p1.length-b).toNat),⟨0,rfl,qbg _,rfl⟩,?_⟩;rintro _ f1 f2 f3 f4 f5 f6 f7 f8 f9 t1 t2 t3 y n k v l r p ⟨i,rfl,hi,hS⟩;refine⟨fun e=> ?_,fun e=> ?_⟩
 ·have e:(i:Int)<p1.length:=qb e;refine⟨rfl,rfl,rfl,by rw[hS];exact hA.uok qqo,?_⟩;rw[inc (i:Int) p1.length qqo e qqo];refine⟨rfl,rfl,rfl,⟨i+1,rfl,by omega,?_⟩,by(first|omega|(dsimp only;omega))⟩;rw[k8a,<-hS]
 ·have e:¬(i:Int)<p1.length:=qc e;have hi:i=p1.length:=by omega
  rw[hi,hA.base]at hS;refine⟨rfl,rfl,rfl,(fun b f1 f2 f3 f4 f5 f6 f7 f8 f9 t1 t2 t3 y n k v l r p=>∃j:Nat,b=(j:Int)/\j<=p2.length/\PS.mk (wB.mk f1 f2 f3 f4 f5 f6 f7 f8 f9) (wD.mk t1 t2 t3) y n l r p k v=(auGo ((p2.take j).map (gB w2k w2v)) s0).s),(fun b _ _ _ _ _ _ _ _ _ _ _ _ _ _ _ _ _ _ _=>(p2.length-b).toNat),⟨0,rfl,qbg _,hS⟩,?_⟩;rintro _ f1 f2 f3 f4 f5 f6 f7 f8 f9 t1 t2 t3 y n k v l r p ⟨j,rfl,hj,hT⟩;refine⟨fun e=> ?_,fun e=> ?_⟩
  ·have e:(j:Int)<p2.length:=qb e;have hjl:j<p2.length:=by omega
   obtain⟨g1,g2,g3,g4⟩:=hA.fwd hjl;have hx:ix p2 (j:Int)=p2[j]:=ix_get _ _ hjl;rw[hx,inc (j:Int) p2.length qqo e qqo];refine⟨by omega,e,hkv,rfl,rfl,rfl,⟨⟨c+5*j,?_,?_⟩,g2⟩,?_⟩
   ·show c+5*j+(gB w2k w2v p2[j]).Txs.length<=790;omega
   ·rw[hT];exact g1
   ·refine⟨rfl,rfl,rfl,⟨j+1,rfl,by omega,?_⟩,by(first|omega|(dsimp only;omega))⟩;rw[g4,<-hT];rfl
  ·have e:¬(j:Int)<p2.length:=qc e;rw[qu qqo,hR']at hT;subst hT;exact(by repeat' first|apply qaa|exact rfl|exact qq)
noncomputable def kby:Con TB.den:= .g (gk 45 [.one (.ptr 0 0),.agg yA1] yB (.one (.one (zqi)))) (.st 3:: .int .i64:: .int .i64:: .int .i64:: .int .i64:: .int .i64:: .int .u64:: .int .i64:: .int .i64:: .int .u64:: .sl yqu:: .int .u64:: .int .i64:: .bool::yF) (.int .i64:: .int .i64:: .int .i64:: .int .i64:: .int .i64:: .int .i64:: .int .u64:: .int .i64:: .int .i64:: .int .u64:: .sl yqu:: .int .u64:: .int .i64:: .bool::yF) [] fun(p1:wI) (Ab Ad Af Aj Ak Ag Al Ah Ai:Int) (Ac:List Int) (Av Ae:Int) (Ap:Bool) (Aw Ax:Int) (Ay:List wH) (Bb Bc Bd Be Bf Bg Bh Bi Bj Bk Az:Int) (A0:List Int) (A7:List wA) (A8:Int) (w2k:List Int) (w2v:List wK) (w4k:List ByteArray) (w4v:List Int) (w5k:List ByteArray) (w5v:List (List Int)) (w6k:List ByteArray) (w6v:List Bool) (w7 w9:List Int) (w10:List wG) (w11k:List Int) (w11v:List Bool)=>(w2k.length=w2v.length,(parS w2k w2v p1:Int),Ab,Ad,Af,Aj,Ak,Ag,Al,Ah,Ai,Ac,Av,Ae,Ap,Aw,Ax,Ay,Bb,Bc,Bd,Be,Bf,Bg,Bh,Bi,Bj,Bk,Az,A0,A7,A8,w2k,w2v,w4k,w4v,w5k,w5v,w6k,w6v,w7,w9,w10,w11k,w11v,())
theorem ke8:kby.Ok Tryz.prog TB:=prv Bs Tryz.func45 .no c0 (Q:=∀(p1:wI) (Ab Ad Af Aj Ak Ag Al Ah Ai:Int) (Ac:List Int) (Av Ae:Int) (Ap:Bool) (Aw Ax:Int) (Ay:List wH) (Bb Bc Bd Be Bf Bg Bh Bi Bj Bk Az:Int) (A0:List Int) (A7:List wA) (A8:Int) (w2k:List Int) (w2v:List wK) (w4k:List ByteArray) (w4v:List Int) (w5k:List ByteArray) (w5v:List (List Int)) (w6k:List ByteArray) (w6v:List Bool) (w7 w9:List Int) (w10:List wG) (w11k:List Int) (w11v:List Bool),(w2k.length=w2v.length)->∀r0:Int,parS w2k w2v p1=r0->∀Aq:Int,Ab=Aq->∀As:Int,Ad=As->∀Au:Int,Af=Au->∀Bl:Int,Aj=Bl->∀Bm:Int,Ak=Bm->∀Bn:Int,Ag=Bn->∀Bo:Int,Al=Bo->∀Bp:Int,Ah=Bp->∀Bq:Int,Ai=Bq->∀A9:List Int,Ac=A9->∀Bu:Int,Av=Bu->∀Ba:Int,Ae=Ba->∀B1:Bool,Ap=B1->∀B2:Int,Aw=B2->∀B3:Int,Ax=B3->∀B4:List wH,Ay=B4->∀B5:Int,Bb=B5->∀B6:Int,Bc=B6->∀B7:Int,Bd=B7->∀B8:Int,Be=B8->∀B9:Int,Bf=B9->∀Ca:Int,Bg=Ca->∀Cb:Int,Bh=Cb->∀Cc:Int,Bi=Cc->∀Cd:Int,Bj=Cd->∀Ce:Int,Bk=Ce->∀Bw:Int,Az=Bw->∀Bx:List Int,A0=Bx->∀Bz:List wA,A7=Bz->∀B0:Int,A8=B0->∀e2k:List Int,w2k=e2k->∀e2v:List wK,w2v=e2v->∀e4k:List ByteArray,w4k=e4k->∀e4v:List Int,w4v=e4v->∀e5k:List ByteArray,w5k=e5k->∀e5v:List (List Int),w5v=e5v->∀e6k:List ByteArray,w6k=e6k->∀e6v:List Bool,w6v=e6v->∀e7:List Int,w7=e7->∀e9:List Int,w9=e9->∀e10:List wG,w10=e10->∀e11k:List Int,w11k=e11k->∀e11v:List Bool,w11v=e11v-> 
((p1.wQ==1)=true->
((p1.wd !=0)=true->
 lz w10/\lz w9/\lz w7/\18=r0/\Ab=Aq/\Ad=As/\Af=Au/\Aj=Bl/\Ak=Bm/\Ag=Bn/\Al=Bo/\Ah=Bp/\Ai=Bq/\Ac=A9/\Av=Bu/\Ae=Ba/\Ap=B1/\Aw=B2/\Ax=B3/\Ay=B4/\Bb=B5/\Bc=B6/\Bd=B7/\Be=B8/\Bf=B9/\Bg=Ca/\Bh=Cb/\Bi=Cc/\Bj=Cd/\Bk=Ce/\Az=Bw/\A0=Bx/\A7=Bz/\A8=B0/\w2k=e2k/\w2v=e2v/\w4k=e4k/\w4v=e4v/\w5k=e5k/\w5v=e5v/\w6k=e6k/\w6v=e6v/\w7=e7/\w9=e9/\w10=e10/\w11k=e11k/\w11v=e11v)/\
((p1.wd !=0)=false->
 lz w10/\lz w9/\lz w7/\0=r0/\Ab=Aq/\Ad=As/\Af=Au/\Aj=Bl/\Ak=Bm/\Ag=Bn/\Al=Bo/\Ah=Bp/\Ai=Bq/\Ac=A9/\Av=Bu/\Ae=Ba/\Ap=B1/\Aw=B2/\Ax=B3/\Ay=B4/\Bb=B5/\Bc=B6/\Bd=B7/\Be=B8/\Bf=B9/\Bg=Ca/\Bh=Cb/\Bi=Cc/\Bj=Cd/\Bk=Ce/\Az=Bw/\A0=Bx/\A7=Bz/\A8=B0/\w2k=e2k/\w2v=e2v/\w4k=e4k/\w4v=e4v/\w5k=e5k/\w5v=e5v/\w6k=e6k/\w6v=e6v/\w7=e7/\w9=e9/\w10=e10/\w11k=e11k/\w11v=e11v))/\
((p1.wQ==1)=false->
 w2k.length=w2v.length/\let v1:wK:=mVal (BEq.beq p1.wd) w2k w2v (default:wK)
((!mHas (BEq.beq p1.wd) w2k)=true->
 lz w10/\lz w9/\lz w7/\18=r0/\Ab=Aq/\Ad=As/\Af=Au/\Aj=Bl/\Ak=Bm/\Ag=Bn/\Al=Bo/\Ah=Bp/\Ai=Bq/\Ac=A9/\Av=Bu/\Ae=Ba/\Ap=B1/\Aw=B2/\Ax=B3/\Ay=B4/\Bb=B5/\Bc=B6/\Bd=B7/\Be=B8/\Bf=B9/\Bg=Ca/\Bh=Cb/\Bi=Cc/\Bj=Cd/\Bk=Ce/\Az=Bw/\A0=Bx/\A7=Bz/\A8=B0/\w2k=e2k/\w2v=e2v/\w4k=e4k/\w4v=e4v/\w5k=e5k/\w5v=e5v/\w6k=e6k/\w6v=e6v/\w7=e7/\w9=e9/\w10=e10/\w11k=e11k/\w11v=e11v)/\
((!mHas (BEq.beq p1.wd) w2k)=false->
 let v2:Bool:=(v1.wAC !=(i64.wrap (p1.wQ-1)))
(v2=true->
 lz w10/\lz w9/\lz w7/\18=r0/\Ab=Aq/\Ad=As/\Af=Au/\Aj=Bl/\Ak=Bm/\Ag=Bn/\Al=Bo/\Ah=Bp/\Ai=Bq/\Ac=A9/\Av=Bu/\Ae=Ba/\Ap=B1/\Aw=B2/\Ax=B3/\Ay=B4/\Bb=B5/\Bc=B6/\Bd=B7/\Be=B8/\Bf=B9/\Bg=Ca/\Bh=Cb/\Bi=Cc/\Bj=Cd/\Bk=Ce/\Az=Bw/\A0=Bx/\A7=Bz/\A8=B0/\w2k=e2k/\w2v=e2v/\w4k=e4k/\w4v=e4v/\w5k=e5k/\w5v=e5v/\w6k=e6k/\w6v=e6v/\w7=e7/\w9=e9/\w10=e10/\w11k=e11k/\w11v=e11v)/\
(v2=false->
 lz w10/\lz w9/\lz w7/\0=r0/\Ab=Aq/\Ad=As/\Af=Au/\Aj=Bl/\Ak=Bm/\Ag=Bn/\Al=Bo/\Ah=Bp/\Ai=Bq/\Ac=A9/\Av=Bu/\Ae=Ba/\Ap=B1/\Aw=B2/\Ax=B3/\Ay=B4/\Bb=B5/\Bc=B6/\Bd=B7/\Be=B8/\Bf=B9/\Bg=Ca/\Bh=Cb/\Bi=Cc/\Bj=Cd/\Bk=Ce/\Az=Bw/\A0=Bx/\A7=Bz/\A8=B0/\w2k=e2k/\w2v=e2v/\w4k=e4k/\w4v=e4v/\w5k=e5k/\w5v=e5v/\w6k=e6k/\w6v=e6v/\w7=e7/\w9=e9/\w10=e10/\w11k=e11k/\w11v=e11v))))<|by
 rintro p1 Ab Ad Af Aj Ak Ag Al Ah Ai Ac Av Ae Ap Aw Ax Ay Bb Bc Bd Be Bf Bg Bh Bi Bj Bk Az A0 A7 A8 w2k w2v w4k w4v w5k w5v w6k w6v w7 w9 w10 w11k w11v h _ rfl _ rfl _ rfl _ rfl _ rfl _ rfl _ rfl _ rfl _ rfl _ rfl _ rfl _ rfl _ rfl _ rfl _ rfl _ rfl _ rfl _ rfl _ rfl _ rfl _ rfl _ rfl _ rfl _ rfl _ rfl _ rfl _ rfl _ rfl _ rfl _ rfl _ rfl _ rfl _ rfl _ rfl _ rfl _ rfl _ rfl _ rfl _ rfl _ rfl _ rfl _ rfl _ rfl _ rfl;unfold parS;refine⟨fun e=> ?_,fun e=> ?_⟩
 ·rw[qh (by simpa using e)];refine⟨fun e2=> ?_,fun e2=> ?_⟩
  ·rw[qh (by simpa using e2)];exact(by repeat' first|apply qaa|exact rfl|exact qq)
  ·rw[qe (by simpa using e2)];exact(by repeat' first|apply qaa|exact rfl|exact qq)
 ·rw[qe (by simpa using e)];refine⟨h,?_⟩;refine⟨fun e2=> ?_,fun e2=>⟨fun e3=> ?_,fun e3=> ?_⟩⟩
  ·rw[qh (.inl (by simpa using e2))];exact(by repeat' first|apply qaa|exact rfl|exact qq)
  ·rw[qh (.inr (bne_iff_ne.1 e3))];exact(by repeat' first|apply qaa|exact rfl|exact qq)
  ·have e2:mHas (BEq.beq p1.wd) w2k=true:=by simpa using e2
   rw[qe (fun hh=>hh.elim (fun h2=>by rw[e2]at h2;cases h2) (fun h2=>h2 (bne_eq_false_iff_eq.1 e3)))];exact(by repeat' first|apply qaa|exact rfl|exact qq)
noncomputable def k6j:Con TB.den:= .g (gk 105 [.one (.own 0),.one (zqu),.one (zqi)] [.tip yqb] (.one (.one (.own 0)))) [yqu,yqi,.sl yqb] [.sl yqb] [] fun(p1 p2:Int) (w0:List Int)=>(U64 p1/\(0<=p2/\p2<=8)/\w0.length<=137438953472,(w0++dig p2.toNat p1:List Int),())
theorem kx:k6j.Ok Tryz.prog TB:=prv Bs Tryz.func105 (.r 0 (.nd [] (.r 0 (.lp [] ⟨[0],[.tip yqb],[0,1,8],[.one (.own 0),.one (zqu),.one (zqi)],[]⟩ .no)) [] .no)) c0 (Q:=∀(p1 p2:Int) (w0:List Int),(U64 p1/\(0<=p2/\p2<=8)/\w0.length<=137438953472)->∀e0:List Int,(w0++dig p2.toNat p1)=e0-> 
(w0=w0)/\∃(I1:Int->Int->(List Int)->Prop) (M1:Int->Int->(List Int)->Nat),I1 p1 0 w0/\∀b1 f1 i1,(I1 b1 f1 i1->
(decide (f1<p2)=true->
 lz i1/\(i1.length+[IntKind.u8.wrap b1].length)*1<=140737488355328/\i1.length+[IntKind.u8.wrap b1].length<=maxLen/\(i1++[IntKind.u8.wrap b1]=i1++[IntKind.u8.wrap b1])/\I1 (ishr .u64 b1 8) (i64.wrap (f1+1)) (i1++[IntKind.u8.wrap b1])/\M1 (ishr .u64 b1 8) (i64.wrap (f1+1)) (i1++[IntKind.u8.wrap b1])<M1 b1 f1 i1)/\
(decide (f1<p2)=false->
(i1=i1)/\i1=e0)))<|by
 rintro p1 p2 w0 h _ rfl;obtain⟨h1,h2,h3⟩:=h;refine⟨rfl,⟨(fun n i g=>0<=i/\i<=p2/\U64 n/\n=p1/256^i.toNat/\g=w0++dig i.toNat p1),(fun _ i _=>(p2-i).toNat),⟨by omega,by omega,h1,by simp,by simp[dig]⟩,?_⟩⟩;rintro n i g ⟨g0,g1,g2,g3,rfl⟩;refine⟨fun h=> ?_,fun h=> ?_⟩
 ·have h:=qb h;rw[inc i p2 g0 h qqo,ishr8,u8w];refine⟨rfl,?_,?_,rfl,⟨by omega,by omega,⟨by omega,by omega⟩,?_,?_⟩,by(dsimp only;omega)⟩
  ·simp;omega
  ·simp;unfold maxLen;omega
  ·rw[g3,show(i+1).toNat=i.toNat+1 by omega,qeg (qdk (k2w _)),qds]
  ·rw[show(i+1).toNat=i.toNat+1 by omega,kd5,qx,g3]
 ·have h:=qc h;exact⟨rfl,by rw[show i=p2 by omega]⟩
noncomputable def k6s:Con TB.den:= .g (gk 103 [.one (.own 0),.one (zqi)] [.tip yqb] (.one (.one (.own 0)))) [yqi,.sl yqb] [.sl yqb] [] fun(p1:Int) (w0:List Int)=>((-9223372036854775808<=p1/\p1<=9223372036854775807)/\w0.length<=137438953472,(w0++dig 4 (len4 p1):List Int),())
theorem kw:k6s.Ok Tryz.prog TB:=prv Bs Tryz.func103 (.r 0 (.jn ⟨[],[],[1],[.one (zqi)],[]⟩ [] .no [] .no)) (kx.c c0) (Q:=∀(p1:Int) (w0:List Int),((-9223372036854775808<=p1/\p1<=9223372036854775807)/\w0.length<=137438953472)->∀e0:List Int,(w0++dig 4 (len4 p1))=e0-> 
 ∀J1:Int->Prop,(∀(b1:Int),
((w0=w0)/\(U64 (u64.wrap b1)/\(0<=(4:Int)/\(4:Int)<=8)/\w0.length<=137438953472)/\let r1:List Int:=(w0++dig (4:Int).toNat (u64.wrap b1))
(r1=r1)/\r1=e0)->J1 b1)->
(decide (p1<0)=true->
 J1 0)/\
(decide (p1<0)=false->
(decide (4294967295<p1)=true->
 J1 0)/\
(decide (4294967295<p1)=false->
 J1 p1)))<|by
 rintro p1 w0 h _ rfl;obtain⟨h1,h2⟩:=h;intro J1 j1;have j:∀n,0<=n->n<=4294967295->len4 p1=n->J1 n:=by intro n h0 h1 e;refine j1 _ ?_;rw[wu n qqo qqo,e];exact⟨rfl,⟨⟨h0,by omega⟩,by omega,h2⟩,by trivial,rfl⟩
 refine⟨fun h=>j 0 qqo qqo ?_,fun h=>⟨fun h' =>j 0 qqo qqo ?_,fun h' =>j p1 ?_ ?_ ?_⟩⟩
 ·have h:=qb h;exact qh (.inl h)
 ·have h' :=qb h';exact qh (.inr h')
 ·have h:=qc h;omega
 ·have h' :=qc h';omega
 ·have h:=qc h;have h' :=qc h';exact len4_in ⟨by omega,by(first|omega|(dsimp only;omega))⟩
noncomputable def kev:Con TB.den:= .g ⟨104,[.one (.d (.sl yqb)),.one (zqi)],[],(.one (.one (.own 0))),[.tip yqb],false⟩ [.sl yqb,yqi] [.sl yqb] [] fun(p0:List Int) (p1:Int)=>(0<=p1/\p0.length+p1<=140737488355328,p0,())
theorem k1d:kev.Ok Tryz.prog TB:=prv Bs Tryz.func104 (.r 3 (.rt [.frz 0 [4]])) c0 (Q:=∀(p0:List Int) (p1:Int),(0<=p1/\p0.length+p1<=140737488355328)->∀e0:List Int,p0=e0-> 
 let v1:Int:=i64.wrap ((p0.length:Int)+p1)
 0<=(p0.length:Int)/\(p0.length:Int)<=v1/\(v1.toNat*1<=140737488355328)/\(v1.toNat<=maxLen)/\(p0.length:Int).toNat=(List.replicate ((p0.length:Int).toNat) (0:Int)).length/\let v2:Int:=((min p0.length (List.replicate ((p0.length:Int).toNat) (0:Int)).length:Nat):Int)
((p0.length:Int).toNat=(rowOver (List.replicate ((p0.length:Int).toNat) (0:Int)) p0 (List.replicate ((p0.length:Int).toNat) (0:Int)).length).length)/\(rowOver (List.replicate ((p0.length:Int).toNat) (0:Int)) p0 (List.replicate ((p0.length:Int).toNat) (0:Int)).length=rowOver (List.replicate ((p0.length:Int).toNat) (0:Int)) p0 (List.replicate ((p0.length:Int).toNat) (0:Int)).length)/\rowOver (List.replicate ((p0.length:Int).toNat) (0:Int)) p0 (List.replicate ((p0.length:Int).toNat) (0:Int)).length=e0)<|by rintro p0 p1 h _ rfl;obtain⟨h1,h2⟩:=h;refine ?_;rw[wi _ qqo qqo];have e:rowOver (List.replicate ((p0.length:Int).toNat) (0:Int)) p0 (List.replicate ((p0.length:Int).toNat) (0:Int)).length=p0:=kbc _ _ qqs;simp only[e];exact⟨by omega,by omega,by omega,by unfold maxLen;omega,by simp,by omega,by trivial,by trivial⟩
noncomputable def kfl:Con TB.den:= .gp 275 [.sl yqb,.sl yqb] [.sl yqb] [] fun(p0 p1:List Int)=>(p0.length<=68719476736/\p1.length<=4294967295,(p0++encB p1:List Int),())
theorem khz:kfl.Ok Tryz.prog TB:=qrv Bs Tryz.func275 .no (k1d.c (kw.c c0)) (Q:=∀(p0 p1:List Int),(p0.length<=68719476736/\p1.length<=4294967295)->∀r0:List Int,(p0++encB p1)=r0-> 
(0<=(i64.wrap (4+(p1.length:Int)))/\p0.length+(i64.wrap (4+(p1.length:Int)))<=140737488355328)/\(p0=p0)/\((-9223372036854775808<=(p1.length:Int)/\(p1.length:Int)<=9223372036854775807)/\p0.length<=137438953472)/\lz (p0++dig 4 (len4 (p1.length:Int)))/\((p0++dig 4 (len4 (p1.length:Int))).length+p1.length)*1<=140737488355328/\(p0++dig 4 (len4 (p1.length:Int))).length+p1.length<=maxLen/\let v1:List Int:=(p0++dig 4 (len4 (p1.length:Int)))++p1
 v1=r0)<|by
 rintro p0 p1 h _ rfl;obtain⟨h1,h2⟩:=h;refine ?_;rw[wi (4+(p1.length:Int)) qqo qqo];refine⟨⟨by omega,by omega⟩,by trivial,⟨by omega,by omega⟩,by trivial,?_,?_,?_⟩
 ·simp;omega
 ·simp;unfold maxLen;omega
 ·rw[qx];rfl
noncomputable def kib:Con TB.den:= .gp 64 [.sl yqb,yqi] [.sl yqb] [] fun(p0:List Int) (p1:Int)=>((-9223372036854775808<=p1/\p1<=9223372036854775807)/\p0.length<=137438953472,(p0++dig 4 (len4 p1):List Int),())
theorem k69:kib.Ok Tryz.prog TB:=qrv Bs Tryz.func64 .no (k1d.c (kw.c c0)) (Q:=∀(p0:List Int) (p1:Int),((-9223372036854775808<=p1/\p1<=9223372036854775807)/\p0.length<=137438953472)->∀r0:List Int,(p0++dig 4 (len4 p1))=r0-> 
(0<=(4:Int)/\p0.length+(4:Int)<=140737488355328)/\(p0=p0)/\((-9223372036854775808<=p1/\p1<=9223372036854775807)/\p0.length<=137438953472)/\(p0++dig 4 (len4 p1))=r0)<|by rintro p0 p1 h _ rfl;obtain⟨h1,h2⟩:=h;exact⟨⟨by omega,by omega⟩,by trivial,⟨h1,h2⟩,rfl⟩
noncomputable def khc:Con TB.den:= .gp 65 yK1 [.sl yqb] [] fun(p0 p1:List Int)=>(Us p1/\p0.length<=68719476736/\p1.length<=4294967295,(p0++encL p1:List Int),())
theorem k9u:khc.Ok Tryz.prog TB:=qrv Bs Tryz.func65 (.r 1 (.nd [] (.r 0 (.lp [] ⟨[0],[.tip yqb],[5,19],[.one (.own 0),.one (zqi)],[]⟩ .no)) [] .no)) (k1d.c (kw.c (kx.c c0))) (Q:=∀(p0 p1:List Int),(Us p1/\p0.length<=68719476736/\p1.length<=4294967295)->∀r0:List Int,(p0++encL p1)=r0-> 
 let v1:Int:=i64.wrap (4+(i64.wrap (8*(p1.length:Int))))
(0<=v1/\p0.length+v1<=140737488355328)/\(p0=p0)/\((-9223372036854775808<=(p1.length:Int)/\(p1.length:Int)<=9223372036854775807)/\p0.length<=137438953472)/\((p0++dig 4 (len4 (p1.length:Int)))=(p0++dig 4 (len4 (p1.length:Int))))/\∃(I1:Int->(List Int)->Prop) (M1:Int->(List Int)->Nat),I1 0 (p0++dig 4 (len4 (p1.length:Int)))/\∀b1 f1,(I1 b1 f1->
(decide (b1<(p1.length:Int))=true->
(0<=b1)/\b1<(p1.length:Int)/\(f1=f1)/\(U64 (ix p1 b1)/\(0<=(8:Int)/\(8:Int)<=8)/\f1.length<=137438953472)/\((f1++dig (8:Int).toNat (ix p1 b1))=(f1++dig (8:Int).toNat (ix p1 b1)))/\I1 (i64.wrap (b1+1)) (f1++dig (8:Int).toNat (ix p1 b1))/\M1 (i64.wrap (b1+1)) (f1++dig (8:Int).toNat (ix p1 b1))<M1 b1 f1)/\
(decide (b1<(p1.length:Int))=false->
 f1=r0)))<|by
 rintro p0 p1 h _ rfl;obtain⟨h1,h2,h3⟩:=h;refine ?_;rw[wi (8*(p1.length:Int)) qqo qqo,wi (4+8*(p1.length:Int)) qqo qqo];refine⟨⟨by omega,by omega⟩,by trivial,⟨by omega,by omega⟩,by trivial,?_⟩;refine⟨(fun i g=>0<=i/\i<=p1.length/\g=p0++dig 4 (len4 p1.length)++(p1.take i.toNat).flatMap (dig 8)),(fun i _=>(p1.length-i).toNat),⟨by omega,by omega,by simp⟩,?_⟩;rintro i g ⟨g0,g1,rfl⟩;refine⟨fun h=> ?_,fun h=> ?_⟩
 ·have h:=qb h;have hx:=h1 _ (ix_mem p1 i g0 h);rw[inc i p1.length g0 h qqo];refine⟨g0,h,by trivial,⟨hx,by omega,?_⟩,by trivial,⟨by omega,by omega,?_⟩,by(dsimp only;omega)⟩
  ·simp only[qj,ke,k1p,qo];omega
  ·rw[kg p1 i g0 h,qbh,qx];simp
 ·have h:=qc h;rw[qu qqo,qx];rfl
noncomputable def kht:Con TB.den:= .gp 67 [.sl yqb,yqu] [.sl yqb] [] fun(p0:List Int) (p1:Int)=>(U64 p1/\p0.length<=137438953472,(p0++dig 8 p1:List Int),())
theorem k35:kht.Ok Tryz.prog TB:=qrv Bs Tryz.func67 .no (k1d.c (kx.c c0)) (Q:=∀(p0:List Int) (p1:Int),(U64 p1/\p0.length<=137438953472)->∀r0:List Int,(p0++dig 8 p1)=r0-> 
(0<=(8:Int)/\p0.length+(8:Int)<=140737488355328)/\(p0=p0)/\(U64 p1/\(0<=(8:Int)/\(8:Int)<=8)/\p0.length<=137438953472)/\(p0++dig (8:Int).toNat p1)=r0)<|by rintro p0 p1 h _ rfl;obtain⟨h1,h2⟩:=h;refine⟨⟨by omega,by omega⟩,by trivial,⟨h1,by omega,h2⟩,rfl⟩
noncomputable def khy:Con TB.den:= .gp 201 [.st 2,.sl yqb] [.sl yqb] [] fun(p0:wa) (p1:List Int)=>(TR p0/\TL p0/\p0.wE.length<=1048576/\(∀x∈p0.wE,x.wm.length<=1024)/\p1.length<=4294967295,(encT p0 p1:List Int),())
theorem ka6:khy.Ok Tryz.prog TB:=qrv Bs Tryz.func201 (.r 3 (.nd [] (.r 0 (.lp [] ⟨[],[],[5,23],[.one (.d (.sl yqb)),.one (zqi)],[]⟩ .no)) [] .no)) (k35.c (k9u.c (k69.c (khz.c c0)))) (Q:=∀(p0:wa) (p1:List Int),(TR p0/\TL p0/\p0.wE.length<=1048576/\(∀x∈p0.wE,x.wm.length<=1024)/\p1.length<=4294967295)->∀r0:List Int,encT p0 p1=r0-> 
(U64 p0.wg/\([]:List Int).length<=137438953472)/\(Us p0.wL/\(([]:List Int)++dig 8 p0.wg).length<=68719476736/\p0.wL.length<=4294967295)/\let r1:List Int:=((([]:List Int)++dig 8 p0.wg)++encL p0.wL)
((-9223372036854775808<=(p0.wE.length:Int)/\(p0.wE.length:Int)<=9223372036854775807)/\r1.length<=137438953472)/\let r2:List Int:=(r1++dig 4 (len4 (p0.wE.length:Int)))
 ∃(I1:(List Int)->Int->Prop) (M1:(List Int)->Int->Nat),I1 r2 0/\∀b1 f1,(I1 b1 f1->
(decide (f1<(p0.wE.length:Int))=true->
(0<=f1)/\f1<(p0.wE.length:Int)/\(U64 ((ix p0.wE f1).we)/\b1.length<=137438953472)/\(U64 ((ix p0.wE f1).wAG)/\(b1++dig 8 ((ix p0.wE f1).we)).length<=137438953472)/\let r3:List Int:=((b1++dig 8 ((ix p0.wE f1).we))++dig 8 ((ix p0.wE f1).wAG))
(U64 ((ix p0.wE f1).wAB)/\r3.length<=137438953472)/\(Us ((ix p0.wE f1).wm)/\(r3++dig 8 ((ix p0.wE f1).wAB)).length<=68719476736/\((ix p0.wE f1).wm).length<=4294967295)/\let r4:List Int:=((r3++dig 8 ((ix p0.wE f1).wAB))++encL ((ix p0.wE f1).wm))
 I1 r4 (i64.wrap (f1+1))/\M1 r4 (i64.wrap (f1+1))<M1 b1 f1)/\
(decide (f1<(p0.wE.length:Int))=false->
(U64 p0.wP/\b1.length<=137438953472)/\(U64 p0.wT/\(b1++dig 8 p0.wP).length<=137438953472)/\let r5:List Int:=((b1++dig 8 p0.wP)++dig 8 p0.wT)
(U64 p0.Fee/\r5.length<=137438953472)/\(U64 p0.wW/\(r5++dig 8 p0.Fee).length<=137438953472)/\let r6:List Int:=((r5++dig 8 p0.Fee)++dig 8 p0.wW)
(U64 p0.wU/\r6.length<=137438953472)/\((-9223372036854775808<=p0.wAE/\p0.wAE<=9223372036854775807)/\(r6++dig 8 p0.wU).length<=137438953472)/\let r7:List Int:=((r6++dig 8 p0.wU)++dig 4 (len4 p0.wAE))
(r7.length<=68719476736/\p1.length<=4294967295)/\(r7++encB p1)=r0)))<|by
 rintro p0 p1 h _ rfl;obtain⟨hr,hl,ho,hc,hp⟩:=h;have hm:=hl.m;have hol:=k30;refine⟨⟨hr.a,by simp⟩,⟨hr.m,by simp,hm⟩,⟨by omega,by simp;omega⟩,?_⟩;refine⟨(fun b i=>0<=i/\i<=p0.wE.length/\b=dig 8 p0.wg++encL p0.wL++dig 4 (len4 p0.wE.length)++(p0.wE.take i.toNat).flatMap encO),(fun _ i=>(p0.wE.length-i).toNat),⟨by omega,by omega,by simp⟩,?_⟩;rintro b i ⟨g0,g1,rfl⟩;have hb:=k30 (p0.wE.take i.toNat) 1024 (fun x hx=>hc x (qat hx));rw[qo]at hb
 have hb:((p0.wE.take i.toNat).flatMap encO).length<=8700000000:=by
  refine qbk hb ?_;have:min i.toNat p0.wE.length<=1048576:=by omega
  have:=Nat.mul_le_mul_left (28+8*1024) this;omega
 refine⟨fun h=> ?_,fun h=> ?_⟩
 ·have h:=qb h;have hx:=hr.o _ (ix_mem p0.wE i g0 h);have hxc:=hc _ (ix_mem p0.wE i g0 h);rw[inc i p0.wE.length g0 h qqo];refine⟨g0,h,⟨hx.c,?_⟩,⟨hx.p0,?_⟩,⟨hx.p1,?_⟩,⟨hx.ci,?_,by omega⟩,⟨by omega,by omega,?_⟩,by(dsimp only;omega)⟩
  ·simp only[qj,ke,k16];omega
  ·simp only[qj,ke,k16];omega
  ·simp only[qj,ke,k16];omega
  ·simp only[qj,ke,k16];omega
  ·rw[kg p0.wE i g0 h,qbh];simp[encO,qx]
 ·have h:=qc h;rw[qu qqo]at hb ⊢;refine⟨⟨hr.d,?_⟩,⟨hr.w,?_⟩,⟨hr.f,?_⟩,⟨hr.ac,?_⟩,⟨hr.n,?_⟩,⟨hr.e,?_⟩,⟨?_,hp⟩,rfl⟩<;>simp only[qj,ke,k16]<;>omega
noncomputable def ki2:Con TB.den:= .gp 183 [.st 2] [.sl yqb,yqi] [] fun(p0:wa)=>(TR p0,((if validE p0=0 then encT p0 p0.ww else []):List Int),(validE p0:Int),())
theorem k9z:ki2.Ok Tryz.prog TB:=qrv Bs Tryz.func183 .no (k1k.c (ka6.c c0)) (Q:=∀(p0:wa),(TR p0)->∀r0:List Int,((if validE p0=0 then encT p0 p0.ww else []):List Int)=r0->∀r1:Int,validE p0=r1-> 
(((validE p0) !=0)=true->
([]:List Int)=r0/\(validE p0)=r1)/\
(((validE p0) !=0)=false->
(TR p0/\TL p0/\p0.wE.length<=1048576/\(∀x∈p0.wE,x.wm.length<=1024)/\p0.ww.length<=4294967295)/\(encT p0 p0.ww)=r0/\0=r1))<|by
 rintro p0 h _ rfl _ rfl;refine⟨fun e=> ?_,fun e=> ?_⟩
 ·have e:validE p0≠0:=by simpa using e
  rw[qe e];exact⟨rfl,rfl⟩
 ·have e:validE p0=0:=by simpa using e
  have v:=(k15 p0).1 e;rw[qh e,e];exact⟨⟨h,v.tl,by have:=v.ol;omega,fun x hx=>by have:=(v.o x hx).l;omega,v.tl.p⟩,rfl,rfl⟩
noncomputable def kho:Con TB.den:= .gp 129 [.st 2] [yqi] [] fun(p0:wa)=>(TR p0,(weightS p0:Int),())
theorem kjb:kho.Ok Tryz.prog TB:=qrv Bs Tryz.func129 .no (k9z.c c0) (Q:=∀(p0:wa),(TR p0)->∀r0:Int,weightS p0=r0-> 
(TR p0)/\let r1:List Int:=(if validE p0=0 then encT p0 p0.ww else [])
(((validE p0) !=0)=true->
 0=r0)/\
(((validE p0) !=0)=false->
(r1.length:Int)=r0))<|by
 rintro p0 h _ rfl;refine⟨h,?_⟩;unfold weightS;refine⟨fun e=> ?_,fun e=> ?_⟩
 ·have e:validE p0≠0:=by simpa using e
  rw[qe e]
 ·have e:validE p0=0:=by simpa using e
  rw[qh e,qh e]
noncomputable def kf4:Con TB.den:= .gp 88 [.st 3] [yqi] [] fun(p0:wI)=>(∀x∈p0.Txs,TR x,(validB p0:Int),())
theorem k6m:kf4.Ok Tryz.prog TB:=qrv Bs Tryz.func88 (.r 0 (.jn ⟨[],[],[],[],[]⟩ [] (.nd [] (.jn ⟨[],[],[6],[.one (.d (.bool))],[]⟩ [] .no [] (.r 0 (.jn ⟨[],[],[6],[.one (.d (.bool))],[]⟩ [] .no [] (.r 0 (.jn ⟨[],[],[6],[.one (.d (.bool))],[]⟩ [] .no [] .no))))) [] .no) [] (.r 0 (.nd [] (.r 0 (.lp [] ⟨[],[],[3,38],[.one (zqi),.one (zqi)],[]⟩ .no)) [] .no)))) (k1k.c (kjb.c c0)) (Q:=∀(p0:wI),(∀x∈p0.Txs,TR x)->∀r0:Int,validB p0=r0-> 
 ∀J1:Prop,((∃(I1:Int->Int->Prop) (M1:Int->Int->Nat),I1 0 0/\∀k1 l1,(I1 k1 l1->
(decide (l1<(p0.Txs.length:Int))=true->
(0<=l1)/\l1<(p0.Txs.length:Int)/\(((validE (ix p0.Txs l1)) !=0)=true->
 1=r0)/\
(((validE (ix p0.Txs l1)) !=0)=false->
(TR (ix p0.Txs l1))/\let v2:Int:=i64.wrap (k1+(weightS (ix p0.Txs l1)))
 I1 v2 (i64.wrap (l1+1))/\M1 v2 (i64.wrap (l1+1))<M1 k1 l1))/\
(decide (l1<(p0.Txs.length:Int))=false->
(decide (2097152<k1)=true->
 3=r0)/\
(decide (2097152<k1)=false->
 0=r0))))->J1)->
 ∀J2:Bool->Prop,(∀(b1:Bool),
((b1=true->
(b1=true->
 1=r0)/\
(b1=false->
 J1))/\
(b1=false->
 ∀J3:Bool->Prop,(∀(f1:Bool),
((f1=true->
(f1=true->
 1=r0)/\
(f1=false->
 J1))/\
(f1=false->
 ∀J4:Bool->Prop,(∀(i1:Bool),
((i1=true->
(i1=true->
 1=r0)/\
(i1=false->
 J1))/\
(i1=false->
(decide (64<(p0.Txs.length:Int))=true->
 1=r0)/\
(decide (64<(p0.Txs.length:Int))=false->
 J1)))->J4 i1)->
 let v1:Bool:=decide (18446744069414584321<=p0.wd)
(v1=true->
 J4 true)/\
(v1=false->
 J4 (decide (18446744069414584321<=p0.wAF)))))->J3 f1)->
(decide (p0.wR<1)=true->
 J3 true)/\
(decide (p0.wR<1)=false->
 J3 (decide (65536<p0.wR)))))->J2 b1)->
(decide (p0.wQ<1)=true->
 J2 true)/\
(decide (p0.wQ<1)=false->
 J2 (decide (1048576<p0.wQ))))<|by
 rintro p0 h _ rfl;have nv:¬VB0 p0->(1:Int)=validB p0:=fun hn=>(klg hn).symm;intro J1 k1
 have j1:VB0 p0->J1:=fun hc=>k1 (by
  have hl:=hc.l;refine⟨(fun w i=>0<=i/\i<=p0.Txs.length/\w=sumW (p0.Txs.take i.toNat)/\∀t∈p0.Txs.take i.toNat,validE t=0),(fun _ i=>(p0.Txs.length-i).toNat),⟨by omega,by omega,by simp[sumW],by simp⟩,?_⟩;rintro w i ⟨g0,g1,rfl,g3⟩;have hb:=sumW_bd _ g3;rw[qo]at hb;refine⟨fun hh=> ?_,fun hh=> ?_⟩
  ·have hh:=qb hh;have hm:=ix_mem p0.Txs i g0 hh;refine⟨g0,hh,fun e=> ?_,fun e=>⟨h _ hm,?_⟩⟩
   ·have e:validE (ix p0.Txs i)≠0:=by simpa using e
    exact(kng hm e).symm
   ·have e:validE (ix p0.Txs i)=0:=by simpa using e
    have hw:=kem e
    try simp only[]
    rw[inc i p0.Txs.length g0 hh qqo,wi (sumW (p0.Txs.take i.toNat)+weightS (ix p0.Txs i)) qqo qqo];refine⟨⟨by omega,by omega,?_,?_⟩,by(first|omega|(dsimp only;omega))⟩
    ·rw[kg p0.Txs i g0 hh,kps]
    ·rw[kg p0.Txs i g0 hh];intro t ht;rcases qal.1 ht with ht|ht
     ·exact g3 t ht
     ·rw[qav.1 ht];exact e
  ·have hh:=qc hh;rw[qu qqo]at g3 hb ⊢;rw[kmp hc g3];refine⟨fun e=> ?_,fun e=> ?_⟩
   ·have e:=qb e;rw[qe qqo]
   ·have e:=qc e;rw[qh qqo])
 intro J2 k2
 have j2:∀b:Bool,(b=true->¬VB0 p0)->(b=false->1<=p0.wQ/\p0.wQ<=1048576)->J2 b:=fun b h1 h2=>k2 b ⟨fun e=>⟨fun _=>nv (h1 e),fun e2=>by rw[e]at e2;cases e2⟩,fun e=>by
  intro J3 k3
  have j3:∀b:Bool,(b=true->¬VB0 p0)->(b=false->1<=p0.wR/\p0.wR<=65536)->J3 b:=fun b h3 h4=>k3 b ⟨fun e=>⟨fun _=>nv (h3 e),fun e2=>by rw[e]at e2;cases e2⟩,fun e3=>by
   intro J4 k4;have j4:∀b:Bool,(b=true->¬VB0 p0)->(b=false->p0.wd<18446744069414584321/\p0.wAF<18446744069414584321)->J4 b:=fun b h5 h6=>k4 b ⟨fun e=>⟨fun _=>nv (h5 e),fun e2=>by rw[e]at e2;cases e2⟩,fun e5=>⟨fun e6=>nv fun v=>by have:=qb e6;have:=v.l;omega,fun e6=>j1 ⟨(h2 e).1,(h2 e).2,(h4 e3).1,(h4 e3).2,(h6 e5).1,(h6 e5).2,by have:=qc e6;omega⟩⟩⟩;exact⟨fun e6=>j4 true (fun _ v=>by have:=qb e6;have:=v.p;omega) (fun h=>by cases h),fun e6=>j4 _ (fun e7 v=>by have:=qb e7;have:=v.m;omega) (fun e7=>⟨by have:=qc e6;omega,by have:=qc e7;omega⟩)⟩⟩
  exact⟨fun e6=>j3 true (fun _ v=>by have:=qb e6;have:=v.w0;omega) (fun h=>by cases h),fun e6=>j3 _ (fun e7 v=>by have:=qb e7;have:=v.w1;omega) (fun e7=>⟨by have:=qc e6;omega,by have:=qc e7;omega⟩)⟩⟩
 exact⟨fun e6=>j2 true (fun _ v=>by have:=qb e6;have:=v.h0;omega) (fun h=>by cases h),fun e6=>j2 _ (fun e7 v=>by have:=qb e7;have:=v.h1;omega) (fun e7=>⟨by have:=qc e6;omega,by have:=qc e7;omega⟩)⟩
noncomputable def kbs:Con TB.den:= .gp 130 [.st 3] [.sl yqb] [] fun(p0:wI)=>(BR p0/\p0.Txs.length<=64,(hdrS p0:List Int),())
theorem kdz:kbs.Ok Tryz.prog TB:=qrv Bs Tryz.func130 .no (k35.c (k69.c c0)) (Q:=∀(p0:wI),(BR p0/\p0.Txs.length<=64)->∀r0:List Int,hdrS p0=r0-> 
(U64 p0.wd/\([]:List Int).length<=137438953472)/\((-9223372036854775808<=p0.wQ/\p0.wQ<=9223372036854775807)/\(([]:List Int)++dig 8 p0.wd).length<=137438953472)/\let r1:List Int:=((([]:List Int)++dig 8 p0.wd)++dig 4 (len4 p0.wQ))
(U64 p0.wAF/\r1.length<=137438953472)/\(U64 p0.wR/\(r1++dig 8 p0.wAF).length<=137438953472)/\let r2:List Int:=((r1++dig 8 p0.wAF)++dig 8 p0.wR)
(U64 p0.wU/\r2.length<=137438953472)/\((-9223372036854775808<=(p0.Txs.length:Int)/\(p0.Txs.length:Int)<=9223372036854775807)/\(r2++dig 8 p0.wU).length<=137438953472)/\let r3:List Int:=((r2++dig 8 p0.wU)++dig 4 (len4 (p0.Txs.length:Int)))
 r3=r0)<|by rintro p0 h _ rfl;obtain⟨hr,hl⟩:=h;refine⟨⟨hr.p,by simp⟩,⟨hr.h,by simp⟩,⟨hr.m,by simp⟩,⟨hr.w,by simp⟩,⟨hr.n,by simp⟩,⟨⟨by omega,by omega⟩,by simp⟩,?_⟩;simp[hdrS]
noncomputable def kdr:Con TB.den:= .gp 184 [.sl yqb] [.sl yqu] [] fun(p0:List Int)=>(By p0/\p0.length<=1099511627776,(packS p0:List Int),())
theorem kfi:kdr.Ok Tryz.prog TB:=qrv Bs Tryz.func184 (.r 2 (.nd [] (.r 0 (.lp [.frz 0 [3]] ⟨[1],[.tip yqu],[3,4],[.one (.own 0),.one (zqi)],[]⟩ (.r 0 (.nd [] (.r 1 (.nd [] (.r 0 (.lp [] ⟨[],[],[6,37],[.one (zqu),.one (zqi)],[]⟩ .no)) [] .no)) [] .no)))) [] .no)) c0 (Q:=∀(p0:List Int),(By p0/\p0.length<=1099511627776)->∀r0:List Int,packS p0=r0-> 
 let v1:Int:=i64.wrap ((i64.wrap ((p0.length:Int)+7))-1)
 let v2:Int:=i64.wrap (1+(i64.wrap (Int.tdiv v1 7)))
 0<=(1:Int)/\(1:Int)<=v2/\(v2.toNat*8<=140737488355328)/\(v2.toNat<=maxLen)/\(0<=(0:Int)/\0<(1:Int))/\(0<=(0:Int)/\0<((List.replicate 1 (0:Int)).length:Int))/\(1=((List.replicate 1 (0:Int)).set (0:Int).toNat (u64.wrap (p0.length:Int))).length)/\((List.replicate 1 (0:Int)).set (0:Int).toNat (u64.wrap (p0.length:Int))=(List.replicate 1 (0:Int)).set (0:Int).toNat (u64.wrap (p0.length:Int)))/\∃(I1:Int->(List Int)->Prop) (M1:Int->(List Int)->Nat),I1 0 ((List.replicate 1 (0:Int)).set (0:Int).toNat (u64.wrap (p0.length:Int)))/\∀b1 f1,(I1 b1 f1->
(decide (b1<(p0.length:Int))=true->
 let v3:Int:=(if(p0.length:Int)<i64.wrap (b1+7)then(p0.length:Int)else i64.wrap (b1+7))
(0<=b1)/\b1<=v3/\v3<=(p0.length:Int)/\let v4:Int:=(((p0.take v3.toNat).drop b1.toNat).length:Int)
 ∃(I2:Int->Int->Prop) (M2:Int->Int->Nat),I2 0 0/\∀i1 k1,(I2 i1 k1->
(decide (k1<v4)=true->
(0<=k1)/\k1<(((p0.take v3.toNat).drop b1.toNat).length:Int)/\let v5:Int:=u64.wrap (ix ((p0.take v3.toNat).drop b1.toNat) k1)
(0<=i64.wrap (8*k1))/\let v6:Int:=ior .u64 i1 (ishl .u64 v5 (i64.wrap (8*k1)))
 I2 v6 (i64.wrap (k1+1))/\M2 v6 (i64.wrap (k1+1))<M2 i1 k1)/\
(decide (k1<v4)=false->
 lz f1/\(f1.length+[i1].length)*8<=140737488355328/\f1.length+[i1].length<=maxLen/\(f1++[i1]=f1++[i1])/\I1 (i64.wrap (b1+7)) (f1++[i1])/\M1 (i64.wrap (b1+7)) (f1++[i1])<M1 b1 f1)))/\
(decide (b1<(p0.length:Int))=false->
 f1=r0)))<|by
 rintro p0 h _ rfl;obtain⟨hb,hl⟩:=h;refine ?_;rw[wi ((p0.length:Int)+7) qqo qqo,wi ((p0.length:Int)+7-1) qqo qqo]
 try simp only[]
 rw[tdiv_nn _ _ qqo,wi (((p0.length:Int)+7-1)/7) qqo qqo,wi (1+((p0.length:Int)+7-1)/7) qqo qqo,wu (p0.length:Int) qqo qqo];refine⟨by omega,by omega,by omega,by unfold maxLen;omega,by omega,⟨by omega,by decide⟩,by trivial,by trivial,?_⟩;refine⟨(fun i g=>0<=i/\i<=p0.length+7/\g++packN p0.length (p0.drop i.toNat)=packS p0/\(g.length:Int)<=1+i),(fun i _=>(p0.length+7-i).toNat),⟨by omega,by omega,rfl,by show(1:Int)<=_;omega⟩,?_⟩;rintro i g ⟨g0,g1,g2,g3⟩;refine⟨fun h=> ?_,fun h=> ?_⟩
 ·have h:=qb h;have h7:i64.wrap (i+7)=i+7:=wi (i+7) qqo qqo;rw[h7]
  have ev:((p0.take (if(p0.length:Int)<i+7 then(p0.length:Int)else i+7).toNat).drop i.toNat)=(p0.drop i.toNat).take 7:=by
   split
   ·rw[qr,qcn,qu qqm]
   ·rw[List.drop_take,show(i+7).toNat-i.toNat=7 by omega]
  simp only[ev];refine⟨g0,by split<;>omega,by split<;>omega,?_⟩;have hpb:By ((p0.drop i.toNat).take 7):=(hb.drop _).take _;have hpl:((p0.drop i.toNat).take 7).length<=7:=by simp;omega
  have hnext:g++[val ((p0.drop i.toNat).take 7)]++packN p0.length (p0.drop (i+7).toNat)=packS p0:=by
   rw[<-g2,qx];congr 1;have h5:(p0.drop i.toNat).length<=p0.length:=by simp
   have h6:=kmb p0.length (p0.drop i.toNat) h5 (by intro h7;have:=congrArg List.length h7;simp at this;omega);rw[h6,qfc,show i.toNat+7=(i+7).toNat by omega];rfl
  generalize (p0.drop i.toNat).take 7=part at *
  refine⟨(fun n k=>0<=k/\k<=part.length/\n=val (part.take k.toNat)),(fun _ k=>(part.length-k).toNat),⟨by omega,by omega,rfl⟩,?_⟩;rintro n k ⟨k0,k1,rfl⟩;refine⟨fun hk=> ?_,fun hk=> ?_⟩
  ·have hk:=qb hk;have hx:=hpb _ (ix_mem part k k0 hk);have hlen:((part.take k.toNat).length:Int)=k:=by rw[qo];omega
   rw[wi (8*k) qqo qqo,wu (ix part k) qqo qqo,wi (k+1) qqo qqo];have:=ior_val (part.take k.toNat) (ix part k) (hpb.take _) qqo hx;rw[hlen]at this;simp only[this];refine⟨k0,hk,by omega,⟨by omega,by omega,?_⟩,by(first|omega|(dsimp only;omega))⟩;rw[kg part k k0 hk]
  ·have hk:=qc hk;have e1:part.take k.toNat=part:=qu qqo;rw[e1];refine⟨by trivial,by simp only[qad,qbf];omega,by simp only[qad,qbf];unfold maxLen;omega,by trivial,(?_:0<=i+7/\i+7<=p0.length+7/\_/\_),(?_:(p0.length+7-(i+7)).toNat<(p0.length+7-i).toNat)⟩
   ·exact⟨by omega,by omega,hnext,by simp only[qj,qad,qbf];omega⟩
   ·omega
 ·have h:=qc h;rw[qbp qqo]at g2;have:packN p0.length ([]:List Int)=[]:=by cases p0.length<;>rfl
  rw[this,qcu]at g2;exact g2
noncomputable def k8c:Con TB.den:= .gp 131 [yqu,.sl yqb] [yqu] [] fun(p0:Int) (p1:List Int)=>(U64 p0/\By p1/\p1.length<=1099511627775,(hashB p0 p1:Int),())
theorem k1y:k8c.Ok Tryz.prog TB:=qrv Bs Tryz.func131 .no (kfi.c (k14.c c0)) (Q:=∀(p0:Int) (p1:List Int),(U64 p0/\By p1/\p1.length<=1099511627775)->∀r0:Int,hashB p0 p1=r0-> 
(By p1/\p1.length<=1099511627776)/\((18446744069414584321:Int)=18446744069414584321/\U64 p0/\Us (packS p1)/\(packS p1).length<=1099511627776)/\(hashS p0 (packS p1))=r0)<|by
 rintro p0 p1 h _ rfl;obtain⟨h1,h2,h3⟩:=h;refine⟨⟨h2,by omega⟩,⟨rfl,h1,?_,?_⟩,rfl⟩
 ·intro x hx;rcases qam.1 hx with rfl|hx
  ·omega
  ·exact kjy _ _ h2 x hx
 ·have:=k92 p1.length p1;simp only[packS,qad];omega
noncomputable def k72:Con TB.den:= .gp 89 [.st 3,.sl yqu] [yqu] [] fun(p0:wI) (p1:List Int)=>(BR p0/\p0.Txs.length<=64/\Us p1/\p1.length<=64,(hashB 15 (hdrS p0++p1.flatMap (dig 8)):Int),())
theorem k3a:k72.Ok Tryz.prog TB:=qrv Bs Tryz.func89 (.r 1 (.nd [] (.r 0 (.lp [] ⟨[],[],[5,12],[.one (.d (.sl yqb)),.one (zqi)],[]⟩ .no)) [] .no)) (kdz.c (k35.c (k1y.c c0))) (Q:=∀(p0:wI) (p1:List Int),(BR p0/\p0.Txs.length<=64/\Us p1/\p1.length<=64)->∀r0:Int,(hashB 15 (hdrS p0++p1.flatMap (dig 8)))=r0-> 
(BR p0/\p0.Txs.length<=64)/\∃(I1:(List Int)->Int->Prop) (M1:(List Int)->Int->Nat),I1 (hdrS p0) 0/\∀b1 f1,(I1 b1 f1->
(decide (f1<(p1.length:Int))=true->
(0<=f1)/\f1<(p1.length:Int)/\(U64 (ix p1 f1)/\b1.length<=137438953472)/\I1 (b1++dig 8 (ix p1 f1)) (i64.wrap (f1+1))/\M1 (b1++dig 8 (ix p1 f1)) (i64.wrap (f1+1))<M1 b1 f1)/\
(decide (f1<(p1.length:Int))=false->
(U64 (15:Int)/\By b1/\b1.length<=1099511627775)/\(hashB (15:Int) b1)=r0)))<|by
 rintro p0 p1 h _ rfl;obtain⟨hr,hl,hu,hul⟩:=h;refine⟨⟨hr,hl⟩,⟨(fun l i=>0<=i/\i<=p1.length/\l=hdrS p0++(p1.take i.toNat).flatMap (dig 8)),(fun _ i=>(p1.length-i).toNat),⟨by omega,by omega,by simp⟩,?_⟩⟩;rintro l i ⟨g0,g1,rfl⟩;have hle:(hdrS p0++(p1.take i.toNat).flatMap (dig 8)).length<=1000:=by rw[qj,kll,k1p,qo];omega
 refine⟨fun hh=> ?_,fun hh=> ?_⟩
 ·have hh:=qb hh;have hm:=ix_mem p1 i g0 hh;rw[inc i p1.length g0 hh qqo];refine⟨g0,hh,⟨hu _ hm,by omega⟩,⟨by omega,by omega,?_⟩,by(first|omega|(dsimp only;omega))⟩;rw[kg p1 i g0 hh,qbh,qx];simp
 ·have hh:=qc hh;rw[qu qqo]at hle ⊢;exact⟨⟨by omega,(hdrS_by p0).append (kkp p1),by omega⟩,rfl⟩
noncomputable def kn6:Con TB.den:= .gp 132 [.st 2] [yqu] [] fun(p0:wa)=>(TR p0,(idS p0:Int),())
theorem kq8:kn6.Ok Tryz.prog TB:=qrv Bs Tryz.func132 .no (k9z.c (k1y.c c0)) (Q:=∀(p0:wa),(TR p0)->∀r0:Int,idS p0=r0-> 
(TR p0)/\let r1:List Int:=(if validE p0=0 then encT p0 p0.ww else [])
(((validE p0) !=0)=true->
 0=r0)/\
(((validE p0) !=0)=false->
(U64 (14:Int)/\By r1/\r1.length<=1099511627775)/\(hashB (14:Int) r1)=r0))<|by
 rintro p0 h _ rfl;refine⟨h,?_⟩;unfold idS;refine⟨fun e=> ?_,fun e=> ?_⟩
 ·have e:validE p0≠0:=by simpa using e
  rw[qe e]
 ·have e:validE p0=0:=by simpa using e
  have v:=(k15 p0).1 e;rw[qh e,qh e];exact⟨⟨by omega,encT_by h.p,by have:=v.enc_len p0.ww;have:=v.pl;omega⟩,rfl⟩
noncomputable def k6v:Con TB.den:= .gp 90 [.st 3] [.sl yqu] [] fun(p0:wI)=>((∀x∈p0.Txs,TR x)/\p0.Txs.length<=64,(p0.Txs.map idS:List Int),())
theorem k32:k6v.Ok Tryz.prog TB:=qrv Bs Tryz.func90 (.r 1 (.nd [] (.r 0 (.lp [.frz 1 [3]] ⟨[2],[.tip yqu],[3,13],[.one (.own 0),.one (zqi)],[]⟩ .no)) [] .no)) (kq8.c c0) (Q:=∀(p0:wI),((∀x∈p0.Txs,TR x)/\p0.Txs.length<=64)->∀r0:List Int,p0.Txs.map idS=r0-> 
 0<=(0:Int)/\(0:Int)<=(p0.Txs.length:Int)/\((p0.Txs.length:Int).toNat*8<=140737488355328)/\((p0.Txs.length:Int).toNat<=maxLen)/\(0=(List.replicate 0 (0:Int)).length)/\(List.replicate 0 (0:Int)=List.replicate 0 (0:Int))/\∃(I1:Int->(List Int)->Prop) (M1:Int->(List Int)->Nat),I1 0 (List.replicate 0 (0:Int))/\∀b1 f1,(I1 b1 f1->
(decide (b1<(p0.Txs.length:Int))=true->
(0<=b1)/\b1<(p0.Txs.length:Int)/\(TR (ix p0.Txs b1))/\lz f1/\(f1.length+[(idS (ix p0.Txs b1))].length)*8<=140737488355328/\f1.length+[(idS (ix p0.Txs b1))].length<=maxLen/\(f1++[(idS (ix p0.Txs b1))]=f1++[(idS (ix p0.Txs b1))])/\I1 (i64.wrap (b1+1)) (f1++[(idS (ix p0.Txs b1))])/\M1 (i64.wrap (b1+1)) (f1++[(idS (ix p0.Txs b1))])<M1 b1 f1)/\
(decide (b1<(p0.Txs.length:Int))=false->
 f1=r0)))<|by
 rintro p0 h _ rfl;obtain⟨hr,hl⟩:=h;refine⟨by omega,by omega,by omega,by unfold maxLen;omega,by simp,rfl,?_⟩;refine⟨(fun i g=>0<=i/\i<=p0.Txs.length/\g=(p0.Txs.take i.toNat).map idS),(fun i _=>(p0.Txs.length-i).toNat),⟨by omega,by omega,by simp⟩,?_⟩;rintro i g ⟨g0,g1,rfl⟩;refine⟨fun hh=> ?_,fun hh=> ?_⟩
 ·have hh:=qb hh;have hm:=ix_mem p0.Txs i g0 hh;rw[inc i p0.Txs.length g0 hh qqo];refine⟨g0,hh,hr _ hm,rfl,by simp;omega,by simp;unfold maxLen;omega,rfl,⟨by omega,by omega,?_⟩,by(first|omega|(dsimp only;omega))⟩;rw[kg p0.Txs i g0 hh];simp
 ·have hh:=qc hh;rw[qu qqo]
noncomputable def kec:Con TB.den:= .gp 43 [.st 0,.st 3] [yqi] [] fun(p0:wB) (p1:wI)=>(BR p1,(checkB p0.wR p1:Int),())
theorem kfc:kec.Ok Tryz.prog TB:=qrv Bs Tryz.func43 .no (k6m.c (k32.c (k3a.c c0))) (Q:=∀(p0:wB) (p1:wI),(BR p1)->∀r0:Int,checkB p0.wR p1=r0-> 
(∀x∈p1.Txs,TR x)/\(((validB p1) !=0)=true->
(validB p1)=r0)/\
(((validB p1) !=0)=false->
((p1.wR !=p0.wR)=true->
 17=r0)/\
((p1.wR !=p0.wR)=false->
((∀x∈p1.Txs,TR x)/\p1.Txs.length<=64)/\(BR p1/\p1.Txs.length<=64/\Us (p1.Txs.map idS)/\(p1.Txs.map idS).length<=64)/\let r1:Int:=(hashB 15 (hdrS p1++(p1.Txs.map idS).flatMap (dig 8)))
(p1.wR≠0)/\(((Int.tmod r1 p1.wR) !=0)=true->
 17=r0)/\
(((Int.tmod r1 p1.wR) !=0)=false->
 0=r0))))<|by
 rintro p0 p1 h _ rfl;unfold checkB;refine⟨h.t,fun e=> ?_,fun e=> ?_⟩
 ·have e:validB p1≠0:=by simpa using e
  rw[qh e]
 ·have e:validB p1=0:=by simpa using e
  have v:=(k63 p1).1 e;have hl:=v.h.l;have hw:=v.h.w0;rw[qe (by simp[e])];refine⟨fun e2=> ?_,fun e2=> ?_⟩
  ·have e2:p1.wR≠p0.wR:=by simpa using e2
   rw[qh e2]
  ·have e2:p1.wR=p0.wR:=by simpa using e2
   rw[qe (by simp[e2])];have hu:Us (p1.Txs.map idS):=idS_us _;refine⟨⟨h.t,hl⟩,⟨h,hl,hu,by simp;omega⟩,by omega,fun e3=> ?_,fun e3=> ?_⟩
   ·rw[qh (by simpa[namS]using e3)]
   ·rw[qe (by simpa[namS]using e3)]
noncomputable def kk6:Con TB.den:= .gp 44 [.st 3] [yqu] [] fun(p0:wI)=>(BR p0,(idB p0:Int),())
theorem klh:kk6.Ok Tryz.prog TB:=qrv Bs Tryz.func44 .no (k6m.c (k32.c (k3a.c c0))) (Q:=∀(p0:wI),(BR p0)->∀r0:Int,idB p0=r0-> 
(∀x∈p0.Txs,TR x)/\(((validB p0) !=0)=true->
 0=r0)/\
(((validB p0) !=0)=false->
((∀x∈p0.Txs,TR x)/\p0.Txs.length<=64)/\(BR p0/\p0.Txs.length<=64/\Us (p0.Txs.map idS)/\(p0.Txs.map idS).length<=64)/\let r1:Int:=(hashB 15 (hdrS p0++(p0.Txs.map idS).flatMap (dig 8)))
 r1=r0))<|by
 rintro p0 h _ rfl;refine⟨h.t,fun e=> ?_,fun e=> ?_⟩
 ·have e:¬validB p0=0:=by simpa using e
  unfold idB;rw[qe e]
 ·have e:validB p0=0:=by simpa using e
  have v:=(k63 p0).1 e;have hl:=v.h.l;have hu:Us (p0.Txs.map idS):=fun x hx=>by obtain⟨y,_,rfl⟩:=qag.1 hx;exact idS_u64 y
  refine⟨⟨h.t,by omega⟩,⟨h,by omega,hu,by simp;omega⟩,?_⟩;unfold idB;rw[qh e];unfold namS;rw[List.flatMap_map]
noncomputable def k9c:Con TB.den:= .t (gk 41 [.one (.ptr 0 0)] yM (.one (.one (.d (.bool))))) yU yR [] fun(Aa:Bool) (Ab Ad:Int) (Af:List wH) (w1k:List ByteArray) (w1v:List Int) (w2k:List ByteArray) (w2v:List (List Int)) (w3k:List ByteArray) (w3v:List Bool)=>(Aa,Aa,Ab,Ad,Af,w1k,w1v,w2k,w2v,w3k,w3v,())
theorem k2a:k9c.Ok Tryz.prog TB:=ptv Bs Tryz.func41 .no c0 (Q:=∀(Aa:Bool) (Ab Ad:Int) (Af:List wH) (w1k:List ByteArray) (w1v:List Int) (w2k:List ByteArray) (w2v:List (List Int)) (w3k:List ByteArray) (w3v:List Bool),∀r0:Bool,Aa=r0->∀At:Bool,Aa=At->∀Aq:Int,Ab=Aq->∀As:Int,Ad=As->∀Au:List wH,Af=Au->∀e1k:List ByteArray,w1k=e1k->∀e1v:List Int,w1v=e1v->∀e2k:List ByteArray,w2k=e2k->∀e2v:List (List Int),w2v=e2v->∀e3k:List ByteArray,w3k=e3k->∀e3v:List Bool,w3v=e3v-> 
 Aa=r0/\Aa=At/\Ab=Aq/\Ad=As/\Af=Au/\w1k=e1k/\w1v=e1v/\w2k=e2k/\w2v=e2v/\w3k=e3k/\w3v=e3v)<|by rintro Aa Ab Ad Af w1k w1v w2k w2v w3k w3v _ rfl _ rfl _ rfl _ rfl _ rfl _ rfl _ rfl _ rfl _ rfl _ rfl _ rfl;exact(by repeat' first|apply qaa|exact rfl|exact qq)
noncomputable def kkl:Con TB.den:= .gp 144 [yqu,yqi] [yqu] [] fun(p0 p1:Int)=>(U64 p0/\0<=p1/\p1<=9223372036854775807,(rhoS p0 p1:Int),())
theorem klp:kkl.Ok Tryz.prog TB:=qrv Bs Tryz.func144 .no (k14.c c0) (Q:=∀(p0 p1:Int),(U64 p0/\0<=p1/\p1<=9223372036854775807)->∀r0:Int,rhoS p0 p1=r0-> 
(decide (18446744069414584321<=p0)=true->
 0=r0)/\
(decide (18446744069414584321<=p0)=false->
(decide (p1<0)=true->
 0=r0)/\
(decide (p1<0)=false->
((18446744069414584321:Int)=18446744069414584321/\U64 (4:Int)/\Us [p0,u64.wrap p1]/\[p0,u64.wrap p1].length<=1099511627776)/\let r1:Int:=(hashS (4:Int) [p0,u64.wrap p1])
 r1=r0)))<|by
 rintro p0 p1 h _ rfl;obtain⟨h1,h2,h3⟩:=h;refine ?_;unfold rhoS;rw[wu p1 h2 qqo];refine⟨fun e=> ?_,fun e=>⟨fun e2=> ?_,fun e2=> ?_⟩⟩
 ·have e:=qb e;rw[qe qqo]
 ·have e2:=qb e2;omega
 ·have e:=qc e;rw[qh qqo];refine⟨⟨rfl,by omega,?_,by simp⟩,rfl⟩;intro x hx;simp only[qam,qet,or_false]at hx;rcases hx with rfl|rfl
  ·exact h1
  ·omega
noncomputable def klb:Con TB.den:= .gp 142 [.st 2] [yqu] [] fun(p0:wa)=>(TR p0,(bindS p0:Int),())
theorem km0:klb.Ok Tryz.prog TB:=qrv Bs Tryz.func142 .no (k1k.c (ka6.c (k1y.c c0))) (Q:=∀(p0:wa),(TR p0)->∀r0:Int,bindS p0=r0-> 
(((validE p0) !=0)=true->
 0=r0)/\
(((validE p0) !=0)=false->
(TR p0/\TL p0/\p0.wE.length<=1048576/\(∀x∈p0.wE,x.wm.length<=1024)/\([]:List Int).length<=4294967295)/\(U64 (13:Int)/\By (encT p0 ([]:List Int))/\(encT p0 ([]:List Int)).length<=1099511627775)/\let r1:Int:=(hashB (13:Int) (encT p0 ([]:List Int)))
 r1=r0))<|by
 rintro p0 h _ rfl;refine ?_;unfold bindS;refine⟨fun e=> ?_,fun e=> ?_⟩
 ·have e:validE p0≠0:=by simpa using e
  rw[qe e]
 ·have e:validE p0=0:=by simpa using e
  have v:=(k15 p0).1 e;rw[qh e];refine⟨⟨h,v.tl,by have:=v.ol;omega,fun x hx=>by have:=(v.o x hx).l;omega,by simp⟩,⟨by omega,encT_by (by intro x hx;cases hx),?_⟩,rfl⟩;have:=v.enc_len [];simp at this ⊢;omega
noncomputable def kdh:Con TB.den:= .gp 202 [.sl yqu,yqu,yqu] [yqu] [] fun(p0:List Int) (p1 p2:Int)=>(Us p0/\U64 p1/\U64 p2,((if p0=[]then(if p1<18446744069414584321/\p2<18446744069414584321 then hashS 5 [p1,p2]else 0)else if ix p0 0<18446744069414584321 then ix p0 0 else 0):Int),())
theorem kfb:kdh.Ok Tryz.prog TB:=qrv Bs Tryz.func202 .no (k14.c c0) (Q:=∀(p0:List Int) (p1 p2:Int),(Us p0/\U64 p1/\U64 p2)->∀r0:Int,((if p0=[]then(if p1<18446744069414584321/\p2<18446744069414584321 then hashS 5 [p1,p2]else 0)else if ix p0 0<18446744069414584321 then ix p0 0 else 0):Int)=r0-> 
(decide (0<(p0.length:Int))=true->
 0<(p0.length:Int)/\let v1:Bool:=decide (18446744069414584321<=(ix p0 0))
(v1=true->
 0=r0)/\
(v1=false->
 0<(p0.length:Int)/\ix p0 0=r0))/\
(decide (0<(p0.length:Int))=false->
(decide (18446744069414584321<=p1)=true->
 0=r0)/\
(decide (18446744069414584321<=p1)=false->
(decide (18446744069414584321<=p2)=true->
 0=r0)/\
(decide (18446744069414584321<=p2)=false->
((18446744069414584321:Int)=18446744069414584321/\U64 (5:Int)/\Us [p1,p2]/\[p1,p2].length<=1099511627776)/\(hashS (5:Int) [p1,p2])=r0))))<|by
 rintro p0 p1 p2 h _ rfl;obtain⟨h1,h2,h3⟩:=h;refine⟨fun h=> ?_,fun h=> ?_⟩
 ·have h:=qb h;rw[qe (by rintro rfl;simp at h)];exact⟨h,fun e=>(by rw[qe (by have:=qb e;omega)]),fun e=>⟨h,(by rw[qh (by have:=qc e;omega)])⟩⟩
 ·have h:=qc h;have h:p0=[]:=qcx.1 qqo;rw[qh h];refine⟨fun e=>(by rw[qe (by have:=qb e;omega)]),fun e=>⟨fun e2=>(by rw[qe (by have:=qb e2;omega)]),fun e2=> ?_⟩⟩;rw[qh (by have:=qc e;have:=qc e2;omega)];refine⟨⟨rfl,by omega,?_,by simp⟩,rfl⟩;intro x hx;rcases qam.1 hx with rfl|hx
  ·exact h2
  ·have:x=p2:=by simpa using hx
   rw[this];exact h3
noncomputable def ki7:Con TB.den:= .gp 143 [.st 2] [yqu] [] fun(p0:wa)=>(TR p0,(originS p0:Int),())
theorem kie:ki7.Ok Tryz.prog TB:=qrv Bs Tryz.func143 .no (k1k.c (kfb.c c0)) (Q:=∀(p0:wa),(TR p0)->∀r0:Int,originS p0=r0-> 
(((validE p0) !=0)=true->
 0=r0)/\
(((validE p0) !=0)=false->
(Us p0.wL/\U64 p0.wW/\U64 p0.wU)/\let r1:Int:=(if p0.wL=[]then(if p0.wW<18446744069414584321/\p0.wU<18446744069414584321 then hashS 5 [p0.wW,p0.wU]else 0)else if ix p0.wL 0<18446744069414584321 then ix p0.wL 0 else 0)
 r1=r0))<|by
 rintro p0 h _ rfl;refine ?_;unfold originS;refine⟨fun e=> ?_,fun e=> ?_⟩
 ·have e:validE p0≠0:=by simpa using e
  rw[qe e]
 ·have e:validE p0=0:=by simpa using e
  have v:=(k15 p0).1 e;rw[qh e];refine⟨⟨h.m,h.ac,h.n⟩,?_⟩;have va:=v.am;unfold vAmounts at va;simp only[qg,qaf]at va;split
  ·rw[qh ⟨va.1.1.2,va.1.2⟩]
  ·rename_i hne;rw[qh];exact v.m _ (ix_mem _ 0 qqo (by have:=qda.2 hne;omega))
noncomputable def kd1:Con TB.den:= .gp 93 [.st 2,yqi] [.st 13] [] fun(p0:wa) (p1:Int)=>(TR p0/\-9223372036854775808<=p1/\p1<=9223372036854775807,(stmtS p0 p1:wx),())
abbrev Fz4 (r:Type):=Int->Int->Int->Int->Int->Int->Int->Int->(List Int)->(List Int)->(List Int)->r
theorem keo:kd1.Ok Tryz.prog TB:=qrv Bs Tryz.func93 (.r 3 (.nd [] (.r 0 (.lp [.tokc 274 4 yqu,.tokc 274 3 yqu] ⟨[274,82,307,306],[.cells [zqi,zqu,.row 1,.own 2,.own 3,zqu,zqu,zqu,zqu,zqu],.vec yqu,.tip yqu,.tip yqu],[35],[.one (zqi)],[]⟩ .no)) [] (.r 0 (.rt [.frzc 82 1 2])))) (k1k.c (k37.c (km0.c (kie.c (klp.c c0))))) (Q:=∀(p0:wa) (p1:Int),(TR p0/\-9223372036854775808<=p1/\p1<=9223372036854775807)->∀r0:wx,stmtS p0 p1=r0-> 
(((validE p0) !=0)=true->
 0=r0.wC/\0=r0.wg/\([]:List Int)=r0.wL/\([]:List Int)=r0.wn/\([]:List Int)=r0.wAK/\0=r0.wP/\0=r0.wT/\0=r0.Fee/\0=r0.wW/\0=r0.wAj)/\
(((validE p0) !=0)=false->
(p0.wL.length<=4294967295)/\(TR p0)/\(TR p0)/\(([]:List Int)=([]:List Int))/\(([]:List Int)=([]:List Int))/\lz p0.wL/\∃(I1:Fz4 Prop) (M1:Fz4 Nat),I1 0 p1 p0.wg p0.wP p0.wT p0.Fee p0.wW (bindS p0) p0.wL ([]:List Int) ([]:List Int)/\∀b1 f1 i1 k1 l1 m1 n1 o1 q1 s1 t1,(I1 b1 f1 i1 k1 l1 m1 n1 o1 q1 s1 t1->
(decide (b1<(p0.wE.length:Int))=true->
(0<=b1)/\b1<(p0.wE.length:Int)/\lz s1/\(s1.length+[(ix p0.wE b1).we].length)*8<=140737488355328/\s1.length+[(ix p0.wE b1).we].length<=maxLen/\(U64 (originS p0)/\0<=b1/\b1<=9223372036854775807)/\lz t1/\(t1.length+[(rhoS (originS p0) b1)].length)*8<=140737488355328/\t1.length+[(rhoS (originS p0) b1)].length<=maxLen/\(t1++[(rhoS (originS p0) b1)]=t1++[(rhoS (originS p0) b1)])/\(s1++[(ix p0.wE b1).we]=s1++[(ix p0.wE b1).we])/\lz q1/\I1 (i64.wrap (b1+1)) f1 i1 k1 l1 m1 n1 o1 q1 (s1++[(ix p0.wE b1).we]) (t1++[(rhoS (originS p0) b1)])/\M1 (i64.wrap (b1+1)) f1 i1 k1 l1 m1 n1 o1 q1 (s1++[(ix p0.wE b1).we]) (t1++[(rhoS (originS p0) b1)])<M1 b1 f1 i1 k1 l1 m1 n1 o1 q1 s1 t1)/\
(decide (b1<(p0.wE.length:Int))=false->
 lz q1/\f1=r0.wC/\i1=r0.wg/\q1=r0.wL/\s1=r0.wn/\t1=r0.wAK/\k1=r0.wP/\l1=r0.wT/\m1=r0.Fee/\n1=r0.wW/\o1=r0.wAj))))<|by
 rintro p0 p1 h _ rfl;obtain⟨hr,hd⟩:=h;refine ?_;refine⟨fun e=> ?_,fun e=> ?_⟩
 ·have e:validE p0≠0:=by simpa using e
  unfold stmtS;rw[qe e];exact⟨rfl,rfl,rfl,rfl,rfl,rfl,rfl,rfl,rfl,rfl⟩
 ·have e:validE p0=0:=by simpa using e
  have v:=(k15 _).1 e;have vo:=v.ol;have hor:=kky hr;have es:stmtS p0 p1=⟨p1,p0.wg,p0.wL,p0.wE.map (·.we),(List.range p0.wE.length).map (fun i:Nat=>rhoS (originS p0) (i:Int)),p0.wP,p0.wT,p0.Fee,p0.wW,bindS p0⟩:=by unfold stmtS;rw[qh e]
  refine⟨by have:=v.ml;omega,hr,hr,rfl,rfl,rfl,?_⟩;refine⟨(fun i z1 z2 z3 z4 z5 z6 z7 z8 g g' =>(p1=z1/\p0.wg=z2/\p0.wP=z3/\p0.wT=z4/\p0.Fee=z5/\p0.wW=z6/\bindS p0=z7/\p0.wL=z8)/\0<=i/\i<=p0.wE.length/\g=(p0.wE.take i.toNat).map (·.we)/\g' =(List.range i.toNat).map (fun i:Nat=>rhoS (originS p0) (i:Int))),(fun i _ _ _ _ _ _ _ _ _ _=>(p0.wE.length-i).toNat),⟨⟨rfl,rfl,rfl,rfl,rfl,rfl,rfl,rfl⟩,by omega,by omega,by simp,by simp⟩,?_⟩;rintro i _ _ _ _ _ _ _ _ g g' ⟨⟨rfl,rfl,rfl,rfl,rfl,rfl,rfl,rfl⟩,g0,g1,rfl,rfl⟩;refine⟨fun hh=> ?_,fun hh=> ?_⟩
  ·have hh:=qb hh;rw[inc i p0.wE.length g0 hh qqo];refine⟨g0,hh,rfl,by simp;omega,by simp;unfold maxLen;omega,⟨hor,by omega,by omega⟩,rfl,by simp;omega,by simp;unfold maxLen;omega,rfl,rfl,rfl,⟨⟨rfl,rfl,rfl,rfl,rfl,rfl,rfl,rfl⟩,by omega,by omega,?_,?_⟩,by(first|omega|(dsimp only;omega))⟩
   ·rw[kg p0.wE i g0 hh];simp
   ·rw[show(i+1).toNat=i.toNat+1 by omega,List.range_succ];simp[show max i 0=i by omega]
  ·have hh:=qc hh;rw[qu qqo,show i.toNat=p0.wE.length by omega];rw[es];exact⟨rfl,rfl,rfl,rfl,rfl,rfl,rfl,rfl,rfl,rfl,rfl⟩
noncomputable def k94:Con TB.den:= .tp 87 [.st 5] [.bool] [] fun(p0:wz)=>((prS p0:Bool),())
theorem kb6:k94.Ok Tryz.prog TB:=qtv Bs Tryz.func87 (.r 0 (.jn ⟨[],[],[3],[.one (.d (.bool))],[]⟩ [] .no [] (.jn ⟨[],[],[4],[.one (.d (.bool))],[]⟩ [] .no [] .no))) c0 (Q:=∀(p0:wz),∀r0:Bool,prS p0=r0-> 
 ∀J1:Bool->Prop,(∀(b1:Bool),
(∀J2:Bool->Prop,(∀(f1:Bool),
((b1=true->
(f1=true->
(decide (1<=p0.wAU)=true->
 decide (p0.wAU<=64)=r0)/\
(decide (1<=p0.wAU)=false->
 false=r0))/\
(f1=false->
 false=r0))/\
(b1=false->
 false=r0))->J2 f1)->
((p0.wAI==1)=true->
 J2 true)/\
((p0.wAI==1)=false->
((p0.wAI==2)=true->
 J2 true)/\
((p0.wAI==2)=false->
((p0.wAI==4)=true->
 J2 true)/\
((p0.wAI==4)=false->
 J2 (p0.wAI==8)))))->J1 b1)->
(decide (2<=p0.wAV)=true->
(decide (p0.wAV<=256)=true->
 let v1:Int:=iand .i64 p0.wAV (i64.wrap (p0.wAV-1))
 J1 (v1==0))/\
(decide (p0.wAV<=256)=false->
 J1 false))/\
(decide (2<=p0.wAV)=false->
 J1 false))<|by
 rintro p0 _ rfl;have hb4:pws 4 1 p0.wAI=((p0.wAI==1)||(p0.wAI==2)||(p0.wAI==4)||(p0.wAI==8)):=by simp[pws,List.range_succ,Bool.or_assoc]
 intro J1 j1
 have j1:∀a,a=pws 8 2 p0.wAV->J1 a:=by
  intro a ha;refine j1 _ fun J2 j2=> ?_
  have j2:∀b,b=pws 4 1 p0.wAI->J2 b:=by
   intro b hb;refine j2 _ ?_;unfold prS;rw[<-ha,<-hb];refine⟨fun e=>⟨fun e2=>⟨fun e3=> ?_,fun e3=> ?_⟩,fun e2=> ?_⟩,fun e=> ?_⟩
   ·rw[e,e2,e3];simp
   ·rw[e,e2,e3];simp
   ·rw[e,e2];simp
   ·rw[e];simp
  refine⟨fun e=>j2 _ ?_,fun e=>⟨fun e2=>j2 _ ?_,fun e2=>⟨fun e3=>j2 _ ?_,fun e3=>j2 _ ?_⟩⟩⟩
  ·rw[hb4,e];rfl
  ·rw[hb4,e,e2];rfl
  ·rw[hb4,e,e2,e3];rfl
  ·rw[hb4,e,e2,e3];rfl
 refine⟨fun e=>⟨fun e2=> ?_,fun e2=>j1 _ ?_⟩,fun e=>j1 _ ?_⟩
 ·have e:=qb e;have e2:=qb e2;obtain⟨b,hb⟩:=qn (show 0<=p0.wAV by omega);refine j1 _ ?_;rw[hb,kp _ qqo qqo];exact pws_and b qqo
 ·have e2:=qc e2;cases hq:pws 8 2 p0.wAV with
  |false=>rfl
  |true=>have:=kh8 hq qqd;simp at this;omega
 ·have e:=qc e;cases hq:pws 8 2 p0.wAV with
  |false=>rfl
  |true=>have:=kh8 hq qqd;simp at this;omega
noncomputable def kar:Con TB.den:= .tp 40 [.st 0] [yqi] [] fun(p0:wB)=>((rulesE p0:Int),())
theorem k1h:kar.Ok Tryz.prog TB:=qtv Bs Tryz.func40 (.r 0 (.jn ⟨[],[],[3],[.one (.d (.bool))],[]⟩ [] .no [] .no)) (kb6.c c0) (Q:=∀(p0:wB),∀r0:Int,rulesE p0=r0-> 
 ∀J1:Bool->Prop,(∀(b1:Bool),
(((!b1)=true->
 1=r0)/\
((!b1)=false->
((p0.wX==1)=true->
 let r1:Bool:=(prS (wz.mk p0.wN p0.wM p0.wJ))
((!r1)=true->
 1=r0)/\
((!r1)=false->
 0=r0))/\
((p0.wX==1)=false->
 0=r0)))->J1 b1)->
(decide (1<=p0.wX)=true->
(decide (p0.wX<=3)=true->
(decide (1<=p0.wC)=true->
(decide (p0.wC<=12)=true->
(decide (1<=p0.wV)=true->
(decide (p0.wV<=100)=true->
(decide (1<=p0.wO)=true->
(decide (p0.wO<=1048576)=true->
(decide (p0.wS<=4294967296)=true->
(decide (1<=p0.wR)=true->
 J1 (decide (p0.wR<=65536)))/\
(decide (1<=p0.wR)=false->
 J1 false))/\
(decide (p0.wS<=4294967296)=false->
 J1 false))/\
(decide (p0.wO<=1048576)=false->
 J1 false))/\
(decide (1<=p0.wO)=false->
 J1 false))/\
(decide (p0.wV<=100)=false->
 J1 false))/\
(decide (1<=p0.wV)=false->
 J1 false))/\
(decide (p0.wC<=12)=false->
 J1 false))/\
(decide (1<=p0.wC)=false->
 J1 false))/\
(decide (p0.wX<=3)=false->
 J1 false))/\
(decide (1<=p0.wX)=false->
 J1 false))<|by
 rintro p0 _ rfl;intro J1 j1
 have j1:∀b,b=rulesB p0->J1 b:=by
  intro b hb;refine j1 _ ?_;unfold rulesE;rw[<-hb];refine⟨fun e=> ?_,fun e=> ?_⟩
  ·have e:b=false:=by simpa using e
   rw[e];rfl
  ·have e:b=true:=by simpa using e
   rw[e,qh rfl];refine⟨fun e2=>⟨fun e3=> ?_,fun e3=> ?_⟩,fun e2=> ?_⟩
   ·have e2:p0.wX=1:=by simpa using e2
    have e3:¬prS ⟨p0.wN,p0.wM,p0.wJ⟩=true:=by simpa using e3
    rw[qh e2,qe e3]
   ·have e2:p0.wX=1:=by simpa using e2
    have e3:prS ⟨p0.wN,p0.wM,p0.wJ⟩=true:=by simpa using e3
    rw[qh e2,qh e3]
   ·have e2:¬p0.wX=1:=by simpa using e2
    rw[qe e2]
 have no:∀b:Bool,(b=false->rulesB p0=false)->b=false->false=rulesB p0:=fun b h e=>(h e).symm;refine⟨fun e1=>⟨fun e2=>⟨fun e3=>⟨fun e4=>⟨fun e5=>⟨fun e6=>⟨fun e7=>⟨fun e8=>⟨fun e9=>⟨fun e10=>j1 _ ?_,fun e=>j1 _ ?_⟩,fun e=>j1 _ ?_⟩,fun e=>j1 _ ?_⟩,fun e=>j1 _ ?_⟩,fun e=>j1 _ ?_⟩,fun e=>j1 _ ?_⟩,fun e=>j1 _ ?_⟩,fun e=>j1 _ ?_⟩,fun e=>j1 _ ?_⟩,fun e=>j1 _ ?_⟩
 ·unfold rulesB;rw[e1,e2,e3,e4,e5,e6,e7,e8,e9,e10];simp
 all_goals unfold rulesB;rw[e];simp
noncomputable def khr:Con TB.den:= .gp 273 [yqu,.sl yqu] [yqu] [] fun(p0:Int) (p1:List Int)=>(U64 p0/\Us p1/\p1.length<=1099511627776,(hashS p0 p1:Int),())
theorem k9a:khr.Ok Tryz.prog TB:=qrv Bs Tryz.func273 .no (k14.c c0) (Q:=∀(p0:Int) (p1:List Int),(U64 p0/\Us p1/\p1.length<=1099511627776)->∀r0:Int,hashS p0 p1=r0-> 
((18446744069414584321:Int)=18446744069414584321/\U64 p0/\Us p1/\p1.length<=1099511627776)/\(hashS p0 p1)=r0)<|by rintro p0 p1 h _ rfl;exact⟨⟨rfl,h.1,h.2.1,h.2.2⟩,rfl⟩
noncomputable def kc5:Con TB.den:= .gp 195 [yqu] [yqu] [] fun(p0:Int)=>(U64 p0,(acctS p0:Int),())
theorem ke6:kc5.Ok Tryz.prog TB:=qrv Bs Tryz.func195 .no (k9a.c c0) (Q:=∀(p0:Int),(U64 p0)->∀r0:Int,acctS p0=r0-> 
(U64 (7:Int)/\Us [p0]/\[p0].length<=1099511627776)/\(hashS (7:Int) [p0])=r0)<|by rintro p0 h _ rfl;exact⟨⟨by decide,(by intro x hx;rw[qav]at hx;subst hx;exact h),by simp⟩,rfl⟩
noncomputable def k90:Con TB.den:= .gp 366 [.sl yqu] [.bool] [] fun(p0:List Int)=>(p0.length<=9223372036854775807,(allB p0:Bool),())
theorem k9s:k90.Ok Tryz.prog TB:=qrv Bs Tryz.func366 (.r 0 (.nd [] (.r 0 (.lp [] ⟨[],[],[7],[.one (zqi)],[]⟩ .no)) [] .no)) c0 (Q:=∀(p0:List Int),(p0.length<=9223372036854775807)->∀r0:Bool,allB p0=r0-> 
 ∃(I1:Int->Prop) (M1:Int->Nat),I1 0/\∀b1,(I1 b1->
(decide (b1<(p0.length:Int))=true->
(0<=b1)/\b1<(p0.length:Int)/\let v1:Bool:=decide (18446744069414584321<=(ix p0 b1))
(v1=true->
 false=r0)/\
(v1=false->
 I1 (i64.wrap (b1+1))/\M1 (i64.wrap (b1+1))<M1 b1))/\
(decide (b1<(p0.length:Int))=false->
 true=r0)))<|by rintro p0 h _ rfl;refine(⟨(AllI (fun x=>decide (x<18446744069414584321)) p0),(fun i=>(p0.length-i).toNat),AllI.start,?_⟩);intro i hi;refine⟨fun hh=> ?_,fun hh=>(hi.done (qc hh)).symm⟩;have hh:=qb hh;exact⟨hi.1,hh,fun e=>(hi.bad hh (by simpa using e)).symm,fun e=>hi.next hh qqo (by simpa using e)⟩
noncomputable def k5f:Con TB.den:= .g (gk 367 [.one (.own 0),.one (zqu)] [.tip yqb] (.one (.one (.own 0)))) [yqu,.sl yqb] [.sl yqb] [] fun(p1:Int) (w0:List Int)=>(U64 p1/\w0.length<=137438953472,(w0++dig 8 p1:List Int),())
theorem k5z:k5f.Ok Tryz.prog TB:=prv Bs Tryz.func367 (.r 0 (.nd [] (.r 0 (.lp [] ⟨[0],[.tip yqb],[0,1,5],[.one (.own 0),.one (zqu),.one (zqi)],[]⟩ .no)) [] .no)) c0 (Q:=∀(p1:Int) (w0:List Int),(U64 p1/\w0.length<=137438953472)->∀e0:List Int,(w0++dig 8 p1)=e0-> 
(w0=w0)/\∃(I1:Int->Int->(List Int)->Prop) (M1:Int->Int->(List Int)->Nat),I1 p1 0 w0/\∀b1 f1 i1,(I1 b1 f1 i1->
(decide (f1<8)=true->
 lz i1/\(i1.length+[IntKind.u8.wrap b1].length)*1<=140737488355328/\i1.length+[IntKind.u8.wrap b1].length<=maxLen/\(i1++[IntKind.u8.wrap b1]=i1++[IntKind.u8.wrap b1])/\I1 (ishr .u64 b1 8) (i64.wrap (f1+1)) (i1++[IntKind.u8.wrap b1])/\M1 (ishr .u64 b1 8) (i64.wrap (f1+1)) (i1++[IntKind.u8.wrap b1])<M1 b1 f1 i1)/\
(decide (f1<8)=false->
(i1=i1)/\i1=e0)))<|by
 rintro p1 w0 h _ rfl;obtain⟨h1,h2⟩:=h;refine⟨rfl,⟨(fun n i g=>0<=i/\i<=8/\U64 n/\n=p1/256^i.toNat/\g=w0++dig i.toNat p1),(fun _ i _=>(8-i).toNat),⟨by omega,by omega,h1,by simp,by simp[dig]⟩,?_⟩⟩;rintro n i g ⟨g0,g1,g2,g3,rfl⟩;refine⟨fun h=> ?_,fun h=> ?_⟩
 ·have h:=qb h;rw[inc i 8 g0 h qqo,ishr8,u8w];refine⟨rfl,?_,?_,rfl,⟨by omega,by omega,⟨by omega,by omega⟩,?_,?_⟩,by(first|omega|(dsimp only;omega))⟩
  ·simp;omega
  ·simp;unfold maxLen;omega
  ·rw[g3,show(i+1).toNat=i.toNat+1 by omega,qeg (qdk (k2w _)),qds]
  ·rw[show(i+1).toNat=i.toNat+1 by omega,kd5,qx,g3]
 ·have h:=qc h;exact⟨rfl,by rw[show i=8 by omega];rfl⟩
noncomputable def kg1:Con TB.den:= .gp 274 [.sl yqu,.sl yqu] [.str] [] fun(p0 p1:List Int)=>(Us p0/\Us p1/\p0.length<=1073741824/\p1.length<=1073741824,(keyB p1 p0:ByteArray),())
theorem khu:kg1.Ok Tryz.prog TB:=qrv Bs Tryz.func274 (.r 1 (.nd [] (.r 0 (.lp [.frz 0 [5]] ⟨[1],[.tip yqb],[5,19],[.one (.own 0),.one (zqi)],[]⟩ .no)) [] (.nd [] (.r 0 (.lp [] ⟨[1],[.tip yqb],[5,29],[.one (.own 0),.one (zqi)],[]⟩ .no)) [] .no))) (k5z.c c0) (Q:=∀(p0 p1:List Int),(Us p0/\Us p1/\p0.length<=1073741824/\p1.length<=1073741824)->∀r0:ByteArray,keyB p1 p0=r0-> 
 let v1:Int:=i64.wrap ((p1.length:Int)+(p0.length:Int))
 0<=(0:Int)/\(0:Int)<=i64.wrap (8*v1)/\((i64.wrap (8*v1)).toNat*1<=140737488355328)/\((i64.wrap (8*v1)).toNat<=maxLen)/\(0=(List.replicate 0 (0:Int)).length)/\(List.replicate 0 (0:Int)=List.replicate 0 (0:Int))/\∃(I1:Int->(List Int)->Prop) (M1:Int->(List Int)->Nat),I1 0 (List.replicate 0 (0:Int))/\∀b1 f1,(I1 b1 f1->
(decide (b1<(p1.length:Int))=true->
(0<=b1)/\b1<(p1.length:Int)/\(f1=f1)/\(U64 (ix p1 b1)/\f1.length<=137438953472)/\((f1++dig 8 (ix p1 b1))=(f1++dig 8 (ix p1 b1)))/\I1 (i64.wrap (b1+1)) (f1++dig 8 (ix p1 b1))/\M1 (i64.wrap (b1+1)) (f1++dig 8 (ix p1 b1))<M1 b1 f1)/\
(decide (b1<(p1.length:Int))=false->
(f1=f1)/\∃(I2:Int->(List Int)->Prop) (M2:Int->(List Int)->Nat),I2 0 f1/\∀i1 k1,(I2 i1 k1->
(decide (i1<(p0.length:Int))=true->
(0<=i1)/\i1<(p0.length:Int)/\(k1=k1)/\(U64 (ix p0 i1)/\k1.length<=137438953472)/\((k1++dig 8 (ix p0 i1))=(k1++dig 8 (ix p0 i1)))/\I2 (i64.wrap (i1+1)) (k1++dig 8 (ix p0 i1))/\M2 (i64.wrap (i1+1)) (k1++dig 8 (ix p0 i1))<M2 i1 k1)/\
(decide (i1<(p0.length:Int))=false->
 strOfNums k1=r0)))))<|by
 rintro p0 p1 h _ rfl;obtain⟨h0,h1,h2,h3⟩:=h;refine ?_;rw[wi ((p1.length:Int)+p0.length) qqo qqo];dsimp only;rw[wi (8*((p1.length:Int)+p0.length)) qqo qqo];refine⟨by omega,by omega,by omega,by unfold maxLen;omega,rfl,rfl,?_⟩;refine⟨(fun i g=>FlatI (dig 8) [] p1 i g),(fun i _=>(p1.length-i).toNat),FlatI.start,?_⟩;intro i g hg;have hl:=hg.len 8 (fun x _=>by simp);refine⟨fun hh=> ?_,fun hh=> ?_⟩
 ·have hh:=qb hh;exact⟨hg.1,hh,rfl,⟨h1 _ (ix_mem p1 i hg.1 hh),by simp at hl;omega⟩,rfl,hg.next hh qqo rfl⟩
 ·have hh:=qc hh;have e:=hg.done hh;refine⟨rfl,⟨(fun j g=>FlatI (dig 8) (p1.flatMap (dig 8)) p0 j g),(fun j _=>(p0.length-j).toNat),(by rw[e];exact FlatI.start),?_⟩⟩;intro j g2 hg2;have hl2:=hg2.len 8 (fun x _=>by simp);have hl3:=k1p p1;refine⟨fun hh2=> ?_,fun hh2=> ?_⟩
  ·have hh2:=qb hh2;exact⟨hg2.1,hh2,rfl,⟨h0 _ (ix_mem p0 j hg2.1 hh2),by omega⟩,rfl,hg2.next hh2 qqo rfl⟩
  ·rw[hg2.done (qc hh2)];rfl
noncomputable def ked:Con TB.den:= .g (gk 271 [.one (.ptr 0 0),.one (zqu),.one (zql)] yM (.tup [.one (zqu),.one (.d (.bool))])) [yqu,.sl yqu,.bool,yqu,yqi,.sl (.st 4),.sl (.str),.sl yqi,.sl (.str),.sl (.sl yqu),.sl (.str),.sl (.bool)] yP [] fun(p1:Int) (p2:List Int) (Aa:Bool) (Ab Ad:Int) (Af:List wH) (w1k:List ByteArray) (w1v:List Int) (w2k:List ByteArray) (w2v:List (List Int)) (w3k:List ByteArray) (w3v:List Bool)=>(U64 p1/\Us p2/\p2.length<=1073741824/\OrOk w1k w1v Af,((pk Aa Af w1k w1v p1 p2).getD 0:Int),((pk Aa Af w1k w1v p1 p2).isSome:Bool),Aa,Ab,Ad,Af,w1k,w1v,w2k,w2v,w3k,w3v,())
theorem k6n:ked.Ok Tryz.prog TB:=prv Bs Tryz.func271 .no (k9s.c (khu.c (k14.c c0))) (Q:=∀(p1:Int) (p2:List Int) (Aa:Bool) (Ab Ad:Int) (Af:List wH) (w1k:List ByteArray) (w1v:List Int) (w2k:List ByteArray) (w2v:List (List Int)) (w3k:List ByteArray) (w3v:List Bool),(U64 p1/\Us p2/\p2.length<=1073741824/\OrOk w1k w1v Af)->∀r0:Int,((pk Aa Af w1k w1v p1 p2).getD 0)=r0->∀r1:Bool,((pk Aa Af w1k w1v p1 p2).isSome)=r1->∀At:Bool,Aa=At->∀Aq:Int,Ab=Aq->∀As:Int,Ad=As->∀Au:List wH,Af=Au->∀e1k:List ByteArray,w1k=e1k->∀e1v:List Int,w1v=e1v->∀e2k:List ByteArray,w2k=e2k->∀e2v:List (List Int),w2v=e2v->∀e3k:List ByteArray,w3k=e3k->∀e3v:List Bool,w3v=e3v-> 
(p2.length<=9223372036854775807)/\((!(allB p2))=true->
 0=r0/\false=r1/\Aa=At/\Ab=Aq/\Ad=As/\Af=Au/\w1k=e1k/\w1v=e1v/\w2k=e2k/\w2v=e2v/\w3k=e3k/\w3v=e3v)/\
((!(allB p2))=false->
(Us p2/\Us [p1]/\p2.length<=1073741824/\[p1].length<=1073741824)/\w1k.length=w1v.length/\let v2:Int:=mVal (BEq.beq (keyB [p1] p2)) w1k w1v (0:Int)
(mHas (BEq.beq (keyB [p1] p2)) w1k=true->
(0<=v2)/\v2<(Af.length:Int)/\(ix Af v2).wBE=r0/\true=r1/\Aa=At/\Ab=Aq/\Ad=As/\Af=Au/\w1k=e1k/\w1v=e1v/\w2k=e2k/\w2v=e2v/\w3k=e3k/\w3v=e3v)/\
(mHas (BEq.beq (keyB [p1] p2)) w1k=false->
(Aa=true->
 0=r0/\false=r1/\Aa=At/\Ab=Aq/\Ad=As/\Af=Au/\w1k=e1k/\w1v=e1v/\w2k=e2k/\w2v=e2v/\w3k=e3k/\w3v=e3v)/\
(Aa=false->
((18446744069414584321:Int)=18446744069414584321/\U64 p1/\Us p2/\p2.length<=1099511627776)/\(hashS p1 p2)=r0/\true=r1/\Aa=At/\Ab=Aq/\Ad=As/\Af=Au/\w1k=e1k/\w1v=e1v/\w2k=e2k/\w2v=e2v/\w3k=e3k/\w3v=e3v))))<|by
 rintro p1 p2 Aa Ab Ad Af w1k w1v w2k w2v w3k w3v h _ rfl _ rfl _ rfl _ rfl _ rfl _ rfl _ rfl _ rfl _ rfl _ rfl _ rfl _ rfl;obtain⟨h1,h2,h3,ho⟩:=h;have hu:Us [p1]:=by intro x hx;rw[qav]at hx;subst hx;exact h1
 refine⟨by omega,fun e=> ?_,fun e=>⟨⟨h2,hu,h3,by simp⟩,ho.len,fun hm=> ?_,fun hm=>⟨fun hi=> ?_,fun hi=>⟨⟨rfl,h1,h2,by omega⟩,?_⟩⟩⟩⟩
 ·have e:allB p2=false:=by simpa using e
  simp[pk,e]
 ·have e:allB p2=true:=by simpa using e
  have hv:=ho.rng _ (kpa (z:=(0:Int)) hm ho.len);refine⟨hv.1,hv.2,?_⟩;simp[pk,e,hm]
 ·have e:allB p2=true:=by simpa using e
  simp[pk,e,hm,hi]
 ·have e:allB p2=true:=by simpa using e
  simp[pk,e,hm,hi]
noncomputable def kf9:Con TB.den:= .tp 270 [.st 15] [.bool] [] fun(p0:wh)=>((noteV p0:Bool),())
theorem k47:kf9.Ok Tryz.prog TB:=qtv Bs Tryz.func270 .no c0 (Q:=∀(p0:wh),∀r0:Bool,noteV p0=r0-> 
(decide (p0.Value<=4294967295)=true->
(decide (p0.wAX<18446744069414584321)=true->
(decide (p0.Rho<18446744069414584321)=true->
 decide (p0.wAc<18446744069414584321)=r0)/\
(decide (p0.Rho<18446744069414584321)=false->
 false=r0))/\
(decide (p0.wAX<18446744069414584321)=false->
 false=r0))/\
(decide (p0.Value<=4294967295)=false->
 false=r0))<|by rintro p0 _ rfl;refine ?_;unfold noteV;grind
noncomputable def kai:Con TB.den:= .tp 272 [.st 15] [.sl yqu] [] fun(p0:wh)=>((noteL p0:List Int),())
theorem kcc:kai.Ok Tryz.prog TB:=qtv Bs Tryz.func272 .no c0 (Q:=∀(p0:wh),∀r0:List Int,noteL p0=r0-> 
[p0.Value,p0.wAX,p0.Rho,p0.wAc]=r0)<|by rintro p0 _ rfl;exact rfl
noncomputable def k8m:Con TB.den:= .g (gk 194 [.one (.ptr 0 0),.agg [zqu,zqu,zqu,zqu]] yM (.tup [.one (zqu),.one (.d (.bool))])) [.st 15,.bool,yqu,yqi,.sl (.st 4),.sl (.str),.sl yqi,.sl (.str),.sl (.sl yqu),.sl (.str),.sl (.bool)] yP [] fun(p1:wh) (Aa:Bool) (Ab Ad:Int) (Af:List wH) (w1k:List ByteArray) (w1v:List Int) (w2k:List ByteArray) (w2v:List (List Int)) (w3k:List ByteArray) (w3v:List Bool)=>(NR p1/\OrOk w1k w1v Af,((commP (pk Aa Af w1k w1v) p1).getD 0:Int),((commP (pk Aa Af w1k w1v) p1).isSome:Bool),Aa,Ab,Ad,Af,w1k,w1v,w2k,w2v,w3k,w3v,())
theorem k3x:k8m.Ok Tryz.prog TB:=prv Bs Tryz.func194 .no (k47.c (kcc.c (k6n.c c0))) (Q:=∀(p1:wh) (Aa:Bool) (Ab Ad:Int) (Af:List wH) (w1k:List ByteArray) (w1v:List Int) (w2k:List ByteArray) (w2v:List (List Int)) (w3k:List ByteArray) (w3v:List Bool),(NR p1/\OrOk w1k w1v Af)->∀r0:Int,((commP (pk Aa Af w1k w1v) p1).getD 0)=r0->∀r1:Bool,((commP (pk Aa Af w1k w1v) p1).isSome)=r1->∀At:Bool,Aa=At->∀Aq:Int,Ab=Aq->∀As:Int,Ad=As->∀Au:List wH,Af=Au->∀e1k:List ByteArray,w1k=e1k->∀e1v:List Int,w1v=e1v->∀e2k:List ByteArray,w2k=e2k->∀e2v:List (List Int),w2v=e2v->∀e3k:List ByteArray,w3k=e3k->∀e3v:List Bool,w3v=e3v-> 
((!(noteV p1))=true->
 0=r0/\false=r1/\Aa=At/\Ab=Aq/\Ad=As/\Af=Au/\w1k=e1k/\w1v=e1v/\w2k=e2k/\w2v=e2v/\w3k=e3k/\w3v=e3v)/\
((!(noteV p1))=false->
(U64 (2:Int)/\Us (noteL p1)/\(noteL p1).length<=1073741824/\OrOk w1k w1v Af)/\let r2:Int:=((pk Aa Af w1k w1v (2:Int) (noteL p1)).getD 0)
 let r3:Bool:=((pk Aa Af w1k w1v (2:Int) (noteL p1)).isSome)
 r2=r0/\r3=r1/\Aa=At/\Ab=Aq/\Ad=As/\Af=Au/\w1k=e1k/\w1v=e1v/\w2k=e2k/\w2v=e2v/\w3k=e3k/\w3v=e3v))<|by
 rintro p1 Aa Ab Ad Af w1k w1v w2k w2v w3k w3v h _ rfl _ rfl _ rfl _ rfl _ rfl _ rfl _ rfl _ rfl _ rfl _ rfl _ rfl _ rfl;obtain⟨h1,ho⟩:=h
 have hu:Us (noteL p1):=by
  intro x hx;simp only[noteL,qam,qet,or_false]at hx;rcases hx with rfl|rfl|rfl|rfl
  ·exact h1.v
  ·exact h1.o
  ·exact h1.r
  ·exact h1.b
 refine ?_;simp only[kn0];unfold commP;refine⟨fun e=> ?_,fun e=>⟨⟨by decide,hu,by simp[noteL],ho⟩,?_⟩⟩
 ·have e:noteV p1=false:=by simpa using e
  simp[e]
 ·have e:noteV p1=true:=by simpa using e
  simp[e]
noncomputable def k8z:Con TB.den:= .gp 196 [.st 16] [yqu] [] fun(p0:wt)=>(p0.Ins.length<=9223372036854775807,(inS p0.Ins:Int),())
theorem k9l:k8z.Ok Tryz.prog TB:=qrv Bs Tryz.func196 (.r 1 (.nd [] (.r 0 (.lp [] ⟨[],[],[3,9],[.one (zqu),.one (zqi)],[]⟩ .no)) [] .no)) c0 (Q:=∀(p0:wt),(p0.Ins.length<=9223372036854775807)->∀r0:Int,inS p0.Ins=r0-> 
 ∃(I1:Int->Int->Prop) (M1:Int->Int->Nat),I1 0 0/\∀b1 f1,(I1 b1 f1->
(decide (f1<(p0.Ins.length:Int))=true->
(0<=f1)/\f1<(p0.Ins.length:Int)/\let v1:Int:=u64.wrap (b1+((ix p0.Ins f1).wAJ))
 I1 v1 (i64.wrap (f1+1))/\M1 v1 (i64.wrap (f1+1))<M1 b1 f1)/\
(decide (f1<(p0.Ins.length:Int))=false->
 b1=r0)))<|by rintro p0 h _ rfl;refine(⟨(fun s i=>FoldI (fun s x=>(s+x.wAJ)%18446744073709551616) 0 p0.Ins i s),(fun s i=>(p0.Ins.length-i).toNat),FoldI.start,?_⟩);intro s i hi;refine⟨fun hh=> ?_,fun hh=>hi.done (qc hh)⟩;have hh:=qb hh;exact⟨hi.1,hh,hi.next hh qqo (by rw[u64w])⟩
noncomputable def k7h:Con TB.den:= .gp 197 [.st 16] [yqu] [] fun(p0:wt)=>(p0.wE.length<=9223372036854775807,(outS p0.wE:Int),())
theorem k8p:k7h.Ok Tryz.prog TB:=qrv Bs Tryz.func197 (.r 1 (.nd [] (.r 0 (.lp [] ⟨[],[],[3,9],[.one (zqu),.one (zqi)],[]⟩ .no)) [] .no)) c0 (Q:=∀(p0:wt),(p0.wE.length<=9223372036854775807)->∀r0:Int,outS p0.wE=r0-> 
 ∃(I1:Int->Int->Prop) (M1:Int->Int->Nat),I1 0 0/\∀b1 f1,(I1 b1 f1->
(decide (f1<(p0.wE.length:Int))=true->
(0<=f1)/\f1<(p0.wE.length:Int)/\let v1:Int:=u64.wrap (b1+((ix p0.wE f1).Value))
 I1 v1 (i64.wrap (f1+1))/\M1 v1 (i64.wrap (f1+1))<M1 b1 f1)/\
(decide (f1<(p0.wE.length:Int))=false->
 b1=r0)))<|by rintro p0 h _ rfl;refine(⟨(fun s i=>FoldI (fun s x=>(s+x.Value)%18446744073709551616) 0 p0.wE i s),(fun s i=>(p0.wE.length-i).toNat),FoldI.start,?_⟩);intro s i hi;refine⟨fun hh=> ?_,fun hh=>hi.done (qc hh)⟩;have hh:=qb hh;exact⟨hi.1,hh,hi.next hh qqo (by rw[u64w])⟩
noncomputable def k6p:Con TB.den:= .gp 264 [.sl yqu] [.bool] [] fun(p0:List Int)=>(p0.length<=9223372036854775807,(allB p0:Bool),())
theorem k2x:k6p.Ok Tryz.prog TB:=qrv Bs Tryz.func264 (.r 0 (.nd [] (.r 0 (.lp [] ⟨[],[],[7],[.one (zqi)],[]⟩ .no)) [] .no)) c0 (Q:=∀(p0:List Int),(p0.length<=9223372036854775807)->∀r0:Bool,allB p0=r0-> 
 ∃(I1:Int->Prop) (M1:Int->Nat),I1 0/\∀b1,(I1 b1->
(decide (b1<(p0.length:Int))=true->
(0<=b1)/\b1<(p0.length:Int)/\let v1:Bool:=decide (18446744069414584321<=(ix p0 b1))
(v1=true->
 false=r0)/\
(v1=false->
 I1 (i64.wrap (b1+1))/\M1 (i64.wrap (b1+1))<M1 b1))/\
(decide (b1<(p0.length:Int))=false->
 true=r0)))<|by rintro p0 h _ rfl;refine(⟨(AllI (fun x=>decide (x<18446744069414584321)) p0),(fun i=>(p0.length-i).toNat),AllI.start,?_⟩);intro i hi;refine⟨fun hh=> ?_,fun hh=>(hi.done (qc hh)).symm⟩;have hh:=qb hh;exact⟨hi.1,hh,fun e=>(hi.bad hh (by simpa using e)).symm,fun e=>hi.next hh qqo (by simpa using e)⟩
noncomputable def k9g:Con TB.den:= .gp 266 [.sl (.st 15)] [.bool] [] fun(p0:List wh)=>(p0.length<=9223372036854775807,(p0.all noteV:Bool),())
theorem kav:k9g.Ok Tryz.prog TB:=qrv Bs Tryz.func266 (.r 0 (.nd [] (.r 0 (.lp [] ⟨[],[],[7],[.one (zqi)],[]⟩ .no)) [] .no)) (k47.c c0) (Q:=∀(p0:List wh),(p0.length<=9223372036854775807)->∀r0:Bool,p0.all noteV=r0-> 
 ∃(I1:Int->Prop) (M1:Int->Nat),I1 0/\∀b1,(I1 b1->
(decide (b1<(p0.length:Int))=true->
(0<=b1)/\b1<(p0.length:Int)/\((!(noteV (ix p0 b1)))=true->
 false=r0)/\
((!(noteV (ix p0 b1)))=false->
 I1 (i64.wrap (b1+1))/\M1 (i64.wrap (b1+1))<M1 b1))/\
(decide (b1<(p0.length:Int))=false->
 true=r0)))<|by rintro p0 h _ rfl;refine(⟨(AllI noteV p0),(fun i=>(p0.length-i).toNat),AllI.start,?_⟩);intro i hi;refine⟨fun hh=> ?_,fun hh=>(hi.done (qc hh)).symm⟩;have hh:=qb hh;exact⟨hi.1,hh,fun e=>(hi.bad hh (by simpa using e)).symm,fun e=>hi.next hh qqo (by simpa using e)⟩
noncomputable def k61:Con TB.den:= .gp 265 [.st 14] [.bool] [] fun(p0:wv)=>(p0.wAR.length<=9223372036854775807,(spendV p0:Bool),())
theorem k6u:k61.Ok Tryz.prog TB:=qrv Bs Tryz.func265 .no (k47.c (k2x.c c0)) (Q:=∀(p0:wv),(p0.wAR.length<=9223372036854775807)->∀r0:Bool,spendV p0=r0-> 
 let r1:Bool:=(noteV (wh.mk p0.wAJ p0.wAW p0.wAQ p0.wAa))
(r1=true->
([p0.Key].length<=9223372036854775807)/\((allB [p0.Key])=true->
(decide (0<=p0.wAO)=true->
(decide (p0.wAO<4)=true->
(decide (0<=p0.wy)=true->
(decide (p0.wy<=4095)=true->
(decide ((p0.wAR.length:Int)<=12)=true->
(p0.wAR.length<=9223372036854775807)/\(allB p0.wAR)=r0)/\
(decide ((p0.wAR.length:Int)<=12)=false->
 false=r0))/\
(decide (p0.wy<=4095)=false->
 false=r0))/\
(decide (0<=p0.wy)=false->
 false=r0))/\
(decide (p0.wAO<4)=false->
 false=r0))/\
(decide (0<=p0.wAO)=false->
 false=r0))/\
((allB [p0.Key])=false->
 false=r0))/\
(r1=false->
 false=r0))<|by
 rintro p0 h _ rfl;have e1:allB [p0.Key]=decide (p0.Key<18446744069414584321):=by simp[allB]
 have e2:(decide ((p0.wAR.length:Int)<=12))=decide (p0.wAR.length<=12):=by congr 1;apply propext;omega
 refine ?_;simp only[e1,e2];unfold spendV noteOf;have:[p0.Key].length<=9223372036854775807:=by simp
 grind
noncomputable def k9m:Con TB.den:= .gp 192 [.st 13,.st 16] [.bool] [] fun(p0:wx) (p1:wt)=>(SR p0/\WR p1,(relV p0 p1:Bool),())
theorem kak:k9m.Ok Tryz.prog TB:=qrv Bs Tryz.func192 (.r 5 (.nd [] (.r 0 (.lp [] ⟨[],[],[95],[.one (zqi)],[]⟩ .no)) [] .no)) (k2x.c (k6u.c (kav.c c0))) (Q:=∀(p0:wx) (p1:wt),(SR p0/\WR p1)->∀r0:Bool,relV p0 p1=r0-> 
(decide (p0.wC<1)=true->
 false=r0)/\
(decide (p0.wC<1)=false->
(decide (12<p0.wC)=true->
 false=r0)/\
(decide (12<p0.wC)=false->
([p0.wg,p0.wW,p0.wAj,p1.wAL].length<=9223372036854775807)/\let r1:Bool:=(allB [p0.wg,p0.wW,p0.wAj,p1.wAL])
((!r1)=true->
 false=r0)/\
((!r1)=false->
(decide (4294967295<p0.wP)=true->
 false=r0)/\
(decide (4294967295<p0.wP)=false->
(decide (4294967295<p0.wT)=true->
 false=r0)/\
(decide (4294967295<p0.wT)=false->
(decide (4294967295<p0.Fee)=true->
 false=r0)/\
(decide (4294967295<p0.Fee)=false->
(p0.wL.length<=9223372036854775807)/\((!(allB p0.wL))=true->
 false=r0)/\
((!(allB p0.wL))=false->
(p0.wn.length<=9223372036854775807)/\((!(allB p0.wn))=true->
 false=r0)/\
((!(allB p0.wn))=false->
(p0.wAK.length<=9223372036854775807)/\((!(allB p0.wAK))=true->
 false=r0)/\
((!(allB p0.wAK))=false->
 let v2:Bool:=((p1.Ins.length:Int) !=(p0.wL.length:Int))
(v2=true->
 false=r0)/\
(v2=false->
(decide (4<(p1.Ins.length:Int))=true->
 false=r0)/\
(decide (4<(p1.Ins.length:Int))=false->
 let v3:Bool:=((p1.wE.length:Int) !=(p0.wn.length:Int))
(v3=true->
 false=r0)/\
(v3=false->
 let v4:Bool:=((p1.wE.length:Int) !=(p0.wAK.length:Int))
(v4=true->
 false=r0)/\
(v4=false->
(decide (4<(p1.wE.length:Int))=true->
 false=r0)/\
(decide (4<(p1.wE.length:Int))=false->
 ∃(I1:Int->Prop) (M1:Int->Nat),I1 0/\∀b1,(I1 b1->
(decide (b1<(p1.Ins.length:Int))=true->
(0<=b1)/\b1<(p1.Ins.length:Int)/\((ix p1.Ins b1).wAR.length<=9223372036854775807)/\((!(spendV (ix p1.Ins b1)))=true->
 false=r0)/\
((!(spendV (ix p1.Ins b1)))=false->
 let v5:Bool:=((((ix p1.Ins b1).wAR).length:Int) !=p0.wC)
(v5=true->
 false=r0)/\
(v5=false->
(0<=p0.wC)/\let v6:Bool:=decide ((ishl .i64 1 p0.wC)<=((ix p1.Ins b1).wy))
(v6=true->
 false=r0)/\
(v6=false->
 I1 (i64.wrap (b1+1))/\M1 (i64.wrap (b1+1))<M1 b1))))/\
(decide (b1<(p1.Ins.length:Int))=false->
(p1.wE.length<=9223372036854775807)/\(p1.wE.all noteV)=r0)))))))))))))))))<|by
 rintro p0 p1 h _ rfl;obtain⟨hs,hw⟩:=h;have l1:=hs.ml;have l2:=hs.cl;have l3:=hs.rl;have l4:=hw.il;have l5:=hw.ol
 have bad:∀b:Bool,(relV p0 p1=true->b=true)->b=false->false=relV p0 p1:=by
  intro b h hb;cases hr:relV p0 p1 with
  |false=>rfl
  |true=>have:=h hr;rw[this]at hb;cases hb
 have hf:relV p0 p1=true↔(1<=p0.wC/\p0.wC<=12/\allB [p0.wg,p0.wW,p0.wAj,p1.wAL]=true/\p0.wP<=4294967295/\p0.wT<=4294967295/\p0.Fee<=4294967295/\allB p0.wL=true/\allB p0.wn=true/\allB p0.wAK=true/\p1.Ins.length=p0.wL.length/\p1.Ins.length<=4/\p1.wE.length=p0.wn.length/\p1.wE.length=p0.wAK.length/\p1.wE.length<=4/\p1.Ins.all (inV p0.wC)=true/\p1.wE.all noteV=true):=by unfold relV;simp only[qg,qaf,and_assoc]
 have no:¬(1<=p0.wC/\p0.wC<=12/\allB [p0.wg,p0.wW,p0.wAj,p1.wAL]=true/\p0.wP<=4294967295/\p0.wT<=4294967295/\p0.Fee<=4294967295/\allB p0.wL=true/\allB p0.wn=true/\allB p0.wAK=true/\p1.Ins.length=p0.wL.length/\p1.Ins.length<=4/\p1.wE.length=p0.wn.length/\p1.wE.length=p0.wAK.length/\p1.wE.length<=4/\p1.Ins.all (inV p0.wC)=true/\p1.wE.all noteV=true)->false=relV p0 p1:=by
  intro h;cases hr:relV p0 p1 with
  |false=>rfl
  |true=>exact(h (hf.1 hr)).elim
 clear bad;refine⟨fun h=>no fun a=> ?_,fun h1=>⟨fun h=>no fun a=> ?_,fun h2=>⟨by simp,fun h=>no fun a=> ?_,fun h3=>⟨fun h=>no fun a=> ?_,fun h4=>⟨fun h=>no fun a=> ?_,fun h5=>⟨fun h=>no fun a=> ?_,fun h6=>⟨by omega,fun h=>no fun a=> ?_,fun h7=>⟨by omega,fun h=>no fun a=> ?_,fun h8=>⟨by omega,fun h=>no fun a=> ?_,fun h9=>⟨fun h=>no fun a=> ?_,fun h10=>⟨fun h=>no fun a=> ?_,fun h11=>⟨fun h=>no fun a=> ?_,fun h12=>⟨fun h=>no fun a=> ?_,fun h13=>⟨fun h=>no fun a=> ?_,fun h14=> ?_⟩⟩⟩⟩⟩⟩⟩⟩⟩⟩⟩⟩⟩⟩
 ·have h:=qb h;omega
 ·have h:=qb h;omega
 ·rw[a.2.2.1]at h;cases h
 ·have h:=qb h;omega
 ·have h:=qb h;omega
 ·have h:=qb h;omega
 ·rw[a.2.2.2.2.2.2.1]at h;cases h
 ·rw[a.2.2.2.2.2.2.2.1]at h;cases h
 ·rw[a.2.2.2.2.2.2.2.2.1]at h;cases h
 ·have h:¬(p1.Ins.length:Int)=p0.wL.length:=by simpa using h
  omega
 ·have h:=qb h;omega
 ·have h:¬(p1.wE.length:Int)=p0.wn.length:=by simpa using h
  omega
 ·have h:¬(p1.wE.length:Int)=p0.wAK.length:=by simpa using h
  omega
 ·have h:=qb h;omega
 have h1:=qc h1;have h2:=qc h2;have h3:allB [p0.wg,p0.wW,p0.wAj,p1.wAL]=true:=by simpa using h3
 have h4:=qc h4;have h5:=qc h5;have h6:=qc h6;have h7:allB p0.wL=true:=by simpa using h7
 have h8:allB p0.wn=true:=by simpa using h8
 have h9:allB p0.wAK=true:=by simpa using h9
 have h10:(p1.Ins.length:Int)=p0.wL.length:=by simpa using h10
 have h11:=qc h11;have h12:(p1.wE.length:Int)=p0.wn.length:=by simpa using h12
 have h13:(p1.wE.length:Int)=p0.wAK.length:=by simpa using h13
 have h14:=qc h14
 have hd:ishl .i64 1 p0.wC=2^p0.wC.toNat:=by
  have h0:0<=p0.wC/\p0.wC<=12:=by omega
  obtain⟨d,hd⟩:=qn h0.1;rw[hd]at h0 ⊢;have h0:d<=12:=by omega
  have key:∀d:Nat,d<=12->ishl .i64 1 (d:Int)=2^d:=by decide +kernel
  exact key d h0
 refine⟨(AllI (inV p0.wC) p1.Ins),(fun i=>(p1.Ins.length-i).toNat),AllI.start,?_⟩;intro i hi;refine⟨fun hh=> ?_,fun hh=> ?_⟩
 ·have hh:=qb hh;have hx:=hw.i _ (ix_mem p1.Ins i hi.1 hh);have nb:inV p0.wC (ix p1.Ins i)=false->false=relV p0 p1:=fun hb=>no fun a=>by rw[hi.bad hh hb]at a;exact absurd a.2.2.2.2.2.2.2.2.2.2.2.2.2.2.1 qqs
  refine⟨hi.1,hh,by have:=hx.pl;show(ix p1.Ins i).wAR.length<=_;omega,fun e=>nb ?_,fun e=>⟨fun e2=>nb ?_,fun e2=>⟨by omega,fun e3=>nb ?_,fun e3=>hi.next hh qqo ?_⟩⟩⟩
  ·have e:spendV (ix p1.Ins i)=false:=by simpa using e
   simp[inV,e]
  ·have e2:¬((ix p1.Ins i).wAR.length:Int)=p0.wC:=by simpa using e2
   simp[inV,e2]
  ·have e3:=qb e3;rw[hd]at e3;simp only[inV,Bool.and_eq_false_iff,decide_eq_false_iff_not];right;omega
  ·have e:spendV (ix p1.Ins i)=true:=by simpa using e
   have e2:((ix p1.Ins i).wAR.length:Int)=p0.wC:=by simpa using e2
   have e3:=qc e3;rw[hd]at e3;simp only[inV,e,Bool.true_and,qg,qaf];exact⟨e2,by(first|omega|(dsimp only;omega))⟩
 ·have ha:=hi.done (qc hh);refine⟨by omega,?_⟩;cases hn:p1.wE.all noteV with
  |false=>exact no fun a=>by rw[hn]at a;exact absurd a.2.2.2.2.2.2.2.2.2.2.2.2.2.2.2 qqs
  |true=>exact(hf.2 ⟨by omega,by omega,h3,by omega,by omega,by omega,h7,h8,h9,by omega,by omega,by omega,by omega,by omega,ha,hn⟩).symm
noncomputable def kad:Con TB.den:= .gp 269 [yqu,yqi,.sl yqu] [yqu] [] fun(p0 p1:Int) (p2:List Int)=>(U64 p0/\Us p2/\p2.length<=1073741824/\p1<=9223372036854775807,(climbS p0 p1 p2:Int),())
theorem kb3:kad.Ok Tryz.prog TB:=qrv Bs Tryz.func269 (.r 1 (.nd [] (.r 0 (.lp [] ⟨[],[],[32],[.one (zqi)],[]⟩ .no)) [] (.r 0 (.nd [] (.r 0 (.lp [] ⟨[],[],[9,42],[.one (zqu),.one (zqi)],[]⟩ .no)) [] .no)))) (k1w.c c0) (Q:=∀(p0 p1:Int) (p2:List Int),(U64 p0/\Us p2/\p2.length<=1073741824/\p1<=9223372036854775807)->∀r0:Int,climbS p0 p1 p2=r0-> 
(decide (12<(p2.length:Int))=true->
 0=r0)/\
(decide (12<(p2.length:Int))=false->
(decide (p1<0)=true->
 0=r0)/\
(decide (p1<0)=false->
(0<=(p2.length:Int))/\let v1:Bool:=decide ((ishl .i64 1 (p2.length:Int))<=p1)
(v1=true->
 0=r0)/\
(v1=false->
(decide (18446744069414584321<=p0)=true->
 0=r0)/\
(decide (18446744069414584321<=p0)=false->
 ∃(I1:Int->Prop) (M1:Int->Nat),I1 0/\∀b1,(I1 b1->
(decide (b1<(p2.length:Int))=true->
(0<=b1)/\b1<(p2.length:Int)/\let v2:Bool:=decide (18446744069414584321<=(ix p2 b1))
(v2=true->
 0=r0)/\
(v2=false->
 I1 (i64.wrap (b1+1))/\M1 (i64.wrap (b1+1))<M1 b1))/\
(decide (b1<(p2.length:Int))=false->
 ∃(I2:Int->Int->Prop) (M2:Int->Int->Nat),I2 p0 0/\∀f1 i1,(I2 f1 i1->
(decide (i1<(p2.length:Int))=true->
(0<=i1)/\i1<(p2.length:Int)/\(0<=i1)/\(((iand .i64 (ishr .i64 p1 i1) 1)==0)=true->
(U64 f1/\U64 (ix p2 i1))/\I2 (hashS 6 [f1,(ix p2 i1)]) (i64.wrap (i1+1))/\M2 (hashS 6 [f1,(ix p2 i1)]) (i64.wrap (i1+1))<M2 f1 i1)/\
(((iand .i64 (ishr .i64 p1 i1) 1)==0)=false->
(U64 (ix p2 i1)/\U64 f1)/\I2 (hashS 6 [(ix p2 i1),f1]) (i64.wrap (i1+1))/\M2 (hashS 6 [(ix p2 i1),f1]) (i64.wrap (i1+1))<M2 f1 i1))/\
(decide (i1<(p2.length:Int))=false->
 f1=r0)))))))))<|by
 rintro p0 p1 p2 h _ rfl;obtain⟨h0,h2,h3,h4⟩:=h;have sh:∀d:Nat,d<=12->ishl .i64 1 (d:Int)=2^d:=by decide +kernel
 refine⟨fun e=> ?_,fun e=>⟨fun e2=> ?_,fun e2=>⟨by omega,fun e3=> ?_,fun e3=>⟨fun e4=> ?_,fun e4=> ?_⟩⟩⟩⟩
 ·have e:=qb e;unfold climbS;rw[qe qqo]
 ·have e2:=qb e2;unfold climbS;rw[qe qqo]
 ·have e:=qc e;have e3:=qb e3;rw[sh _ qqo]at e3;unfold climbS;rw[qe (fun a=>by have:=a.2.2.1;omega)]
 ·have e4:=qb e4;unfold climbS;rw[qe qqo]
 have e:=qc e;have e2:=qc e2;have e3:=qc e3;have e4:=qc e4;rw[sh _ qqo]at e3;refine⟨(AllI (fun x=>decide (x<18446744069414584321)) p2),(fun i=>(p2.length-i).toNat),AllI.start,?_⟩;intro i hi;refine⟨fun hh=> ?_,fun hh=> ?_⟩
 ·have hh:=qb hh;refine⟨hi.1,hh,fun e5=> ?_,fun e5=>hi.next hh qqo (by simpa using e5)⟩;have hb:allB p2=false:=hi.bad hh (by simpa using e5);unfold climbS;rw[qe (fun a=>by rw[hb]at a;exact absurd a.2.2.2.2 qqs)]
 ·have ha:allB p2=true:=hi.done (qc hh);have hc:climbS p0 p1 p2=climbL p0 p1 p2:=by unfold climbS;rw[qh ⟨by omega,by omega,by omega,by omega,ha⟩]
  rw[hc]
  have hpos:p1<4096:=by
   have h1:(2:Int)^p2.length<=2^12:=by exact_mod_cast qcp qqo qqo
   omega
  refine⟨(fun d i=>0<=i/\i<=p2.length/\U64 d/\climbL d (p1/2^i.toNat) (p2.drop i.toNat)=climbL p0 p1 p2),(fun d i=>(p2.length-i).toNat),⟨by omega,by omega,h0,by simp⟩,?_⟩;rintro d i ⟨g0,g1,g2,g3⟩;refine⟨fun hh=> ?_,fun hh=> ?_⟩
  ·have hh:=qb hh;have hx:=h2 _ (ix_mem p2 i g0 hh);rw[drop_ix p2 i g0 hh]at g3;have nx:=inc i p2.length g0 hh qqo;have hq:p1/2^i.toNat/2=p1/2^(i+1).toNat:=by rw[show(i+1).toNat=i.toNat+1 by omega,qds,qeg (qdk (Int.pow_pos qqo))]
   have hbit:iand .i64 (ishr .i64 p1 i) 1=p1/2^i.toNat%2:=by
    have hs:ishr .i64 p1 i=p1/2^i.toNat:=by rw[k20,show min i.toNat i64.bits=i.toNat from qcb (by show i.toNat<=64;omega)];simp
    rw[hs];have hb0:0<=p1/2^i.toNat:=qei qqo (qdk (Int.pow_pos qqo));have hb1:p1/2^i.toNat<=p1:=Int.ediv_le_self _ qqo;exact k9r _ ⟨hb0,by(first|omega|(dsimp only;omega))⟩
   rw[hbit];have g3:climbL (if p1/2^i.toNat%2=0 then hashS 6 [d,ix p2 i]else hashS 6 [ix p2 i,d]) (p1/2^i.toNat/2) (p2.drop (i+1).toNat)=climbL p0 p1 p2:=g3;rw[hq]at g3;refine⟨g0,hh,g0,fun hb=> ?_,fun hb=> ?_⟩
   ·have hb:p1/2^i.toNat%2=0:=by simpa using hb
    rw[qh hb]at g3;rw[nx];exact⟨⟨g2,hx⟩,⟨by omega,by omega,kz _ _,g3⟩,by(first|omega|(dsimp only;omega))⟩
   ·have hb:¬p1/2^i.toNat%2=0:=by simpa using hb
    rw[qe hb]at g3;rw[nx];exact⟨⟨hx,g2⟩,⟨by omega,by omega,kz _ _,g3⟩,by(first|omega|(dsimp only;omega))⟩
  ·have hh:=qc hh;rw[qbp qqo]at g3;exact g3
noncomputable def kay:Con TB.den:= .tp 365 [yqi] [.bool] [] fun(p0:Int)=>((decide (0<=p0)&&decide (p0<4):Bool),())
theorem kbp:kay.Ok Tryz.prog TB:=qtv Bs Tryz.func365 .no c0 (Q:=∀(p0:Int),∀r0:Bool,(decide (0<=p0)&&decide (p0<4))=r0-> 
(decide (0<=p0)=true->
 decide (p0<4)=r0)/\
(decide (0<=p0)=false->
 false=r0))<|by rintro p0 _ rfl;refine ?_;grind
noncomputable def kfg:Con TB.den:= .gp 267 [yqu,yqi] [yqu] [] fun(p0 p1:Int)=>(U64 p0/\-9223372036854775808<=p1/\p1<=9223372036854775807,(ownerS p0 p1:Int),())
theorem khi:kfg.Ok Tryz.prog TB:=qrv Bs Tryz.func267 .no (kbp.c (k9a.c c0)) (Q:=∀(p0 p1:Int),(U64 p0/\-9223372036854775808<=p1/\p1<=9223372036854775807)->∀r0:Int,ownerS p0 p1=r0-> 
((!(decide (0<=p1)&&decide (p1<4)))=true->
 0=r0)/\
((!(decide (0<=p1)&&decide (p1<4)))=false->
(U64 (1:Int)/\Us [p0,u64.wrap p1]/\[p0,u64.wrap p1].length<=1099511627776)/\let r1:Int:=(hashS (1:Int) [p0,u64.wrap p1])
 r1=r0))<|by
 rintro p0 p1 h _ rfl;obtain⟨h0,h1,h2⟩:=h;refine⟨fun e=> ?_,fun e=> ?_⟩
 ·unfold ownerS;rw[qe (by simp at e;omega)]
 ·have e:0<=p1/\p1<4:=by simpa using e
  rw[wu p1 qqo qqo];refine⟨⟨by decide,?_,by simp⟩,?_⟩
  ·intro x hx;simp only[qam,qet,or_false]at hx;rcases hx with rfl|rfl
   ·exact h0
   ·omega
  ·unfold ownerS;rw[qh e]
noncomputable def kf5:Con TB.den:= .g (gk 268 [.one (.ptr 0 0),.one (zqu),.one (zqu)] yM (.tup [.one (zqu),.one (.d (.bool))])) [yqu,yqu,.bool,yqu,yqi,.sl (.st 4),.sl (.str),.sl yqi,.sl (.str),.sl (.sl yqu),.sl (.str),.sl (.bool)] yP [] fun(p1 p2:Int) (Aa:Bool) (Ab Ad:Int) (Af:List wH) (w1k:List ByteArray) (w1v:List Int) (w2k:List ByteArray) (w2v:List (List Int)) (w3k:List ByteArray) (w3v:List Bool)=>(U64 p1/\U64 p2/\OrOk w1k w1v Af,((markP (pk Aa Af w1k w1v) p1 p2).getD 0:Int),((markP (pk Aa Af w1k w1v) p1 p2).isSome:Bool),Aa,Ab,Ad,Af,w1k,w1v,w2k,w2v,w3k,w3v,())
theorem kfn:kf5.Ok Tryz.prog TB:=prv Bs Tryz.func268 (.r 0 (.nd [] (.jn ⟨[],[],[13],[.one (.d (.bool))],[]⟩ [] .no [] .no) [] .no)) (k6n.c c0) (Q:=∀(p1 p2:Int) (Aa:Bool) (Ab Ad:Int) (Af:List wH) (w1k:List ByteArray) (w1v:List Int) (w2k:List ByteArray) (w2v:List (List Int)) (w3k:List ByteArray) (w3v:List Bool),(U64 p1/\U64 p2/\OrOk w1k w1v Af)->∀r0:Int,((markP (pk Aa Af w1k w1v) p1 p2).getD 0)=r0->∀r1:Bool,((markP (pk Aa Af w1k w1v) p1 p2).isSome)=r1->∀At:Bool,Aa=At->∀Aq:Int,Ab=Aq->∀As:Int,Ad=As->∀Au:List wH,Af=Au->∀e1k:List ByteArray,w1k=e1k->∀e1v:List Int,w1v=e1v->∀e2k:List ByteArray,w2k=e2k->∀e2v:List (List Int),w2v=e2v->∀e3k:List ByteArray,w3k=e3k->∀e3v:List Bool,w3v=e3v-> 
 ∀J1:Bool->Prop,(∀(b1:Bool),
((b1=true->
 0=r0/\false=r1/\Aa=At/\Ab=Aq/\Ad=As/\Af=Au/\w1k=e1k/\w1v=e1v/\w2k=e2k/\w2v=e2v/\w3k=e3k/\w3v=e3v)/\
(b1=false->
(U64 (3:Int)/\Us [p1,p2]/\[p1,p2].length<=1073741824/\OrOk w1k w1v Af)/\let r2:Int:=((pk Aa Af w1k w1v (3:Int) [p1,p2]).getD 0)
 let r3:Bool:=((pk Aa Af w1k w1v (3:Int) [p1,p2]).isSome)
 r2=r0/\r3=r1/\Aa=At/\Ab=Aq/\Ad=As/\Af=Au/\w1k=e1k/\w1v=e1v/\w2k=e2k/\w2v=e2v/\w3k=e3k/\w3v=e3v))->J1 b1)->
(decide (18446744069414584321<=p1)=true->
 J1 true)/\
(decide (18446744069414584321<=p1)=false->
 J1 (decide (18446744069414584321<=p2))))<|by
 rintro p1 p2 Aa Ab Ad Af w1k w1v w2k w2v w3k w3v h _ rfl _ rfl _ rfl _ rfl _ rfl _ rfl _ rfl _ rfl _ rfl _ rfl _ rfl _ rfl;obtain⟨h1,h2,ho⟩:=h;intro J1 k1
 have j1:∀s:Bool,s=decide (¬(p1<18446744069414584321/\p2<18446744069414584321))->J1 s:=by
  intro s hs;refine k1 _ ⟨fun e=> ?_,fun e=> ?_⟩
  ·rw[e]at hs;have hs:=qb hs.symm;unfold markP;rw[qe hs];exact(by repeat' first|apply qaa|exact rfl|exact qq)
  ·rw[e]at hs;have hs:p1<18446744069414584321/\p2<18446744069414584321:=by simpa using hs.symm
   unfold markP;rw[qh hs];refine⟨⟨by decide,?_,by simp,ho⟩,(by repeat' first|apply qaa|exact rfl|exact qq)⟩;intro x hx;simp only[qam,qet,or_false]at hx;rcases hx with rfl|rfl
   ·exact h1
   ·exact h2
 refine⟨fun e=>j1 _ ?_,fun e=>j1 _ ?_⟩
 ·have e:=qb e;symm;apply qbn;omega
 ·have e:=qc e;congr 1;apply propext;omega
noncomputable def k87:Con TB.den:= .g (gk 193 [.one (.ptr 0 0),.agg yZ,.agg [zqu,zqu,zqu,zqu,zqu,zqi,zqi,zql,.d (.bool)],.one (zqu)] yM (.one (.one (zqi)))) [.st 13,.st 14,yqu,.bool,yqu,yqi,.sl (.st 4),.sl (.str),.sl yqi,.sl (.str),.sl (.sl yqu),.sl (.str),.sl (.bool)] yT [] fun(p1:wx) (p2:wv) (p3:Int) (Aa:Bool) (Ab Ad:Int) (Af:List wH) (w1k:List ByteArray) (w1v:List Int) (w2k:List ByteArray) (w2v:List (List Int)) (w3k:List ByteArray) (w3v:List Bool)=>(PR p2/\OrOk w1k w1v Af/\(∀l a,(pk Aa Af w1k w1v) l a=none∨∃n,(pk Aa Af w1k w1v) l a=some n/\U64 n),(inE (pk Aa Af w1k w1v) p1.wg p3 p2:Int),Aa,Ab,Ad,Af,w1k,w1v,w2k,w2v,w3k,w3v,())
theorem k8t:k87.Ok Tryz.prog TB:=prv Bs Tryz.func193 .no (khi.c (kfn.c (k3x.c (kb3.c c0)))) (Q:=∀(p1:wx) (p2:wv) (p3:Int) (Aa:Bool) (Ab Ad:Int) (Af:List wH) (w1k:List ByteArray) (w1v:List Int) (w2k:List ByteArray) (w2v:List (List Int)) (w3k:List ByteArray) (w3v:List Bool),(PR p2/\OrOk w1k w1v Af/\(∀l a,(pk Aa Af w1k w1v) l a=none∨∃n,(pk Aa Af w1k w1v) l a=some n/\U64 n))->∀r0:Int,(inE (pk Aa Af w1k w1v) p1.wg p3 p2)=r0->∀At:Bool,Aa=At->∀Aq:Int,Ab=Aq->∀As:Int,Ad=As->∀Au:List wH,Af=Au->∀e1k:List ByteArray,w1k=e1k->∀e1v:List Int,w1v=e1v->∀e2k:List ByteArray,w2k=e2k->∀e2v:List (List Int),w2v=e2v->∀e3k:List ByteArray,w3k=e3k->∀e3v:List Bool,w3v=e3v-> 
(U64 p2.Key/\-9223372036854775808<=p2.wAO/\p2.wAO<=9223372036854775807)/\let v1:Bool:=(p2.wAW !=(ownerS p2.Key p2.wAO))
(v1=true->
 21=r0/\Aa=At/\Ab=Aq/\Ad=As/\Af=Au/\w1k=e1k/\w1v=e1v/\w2k=e2k/\w2v=e2v/\w3k=e3k/\w3v=e3v)/\
(v1=false->
(U64 p2.Key/\U64 p2.wAQ/\OrOk w1k w1v Af)/\let r2:Int:=((markP (pk Aa Af w1k w1v) p2.Key p2.wAQ).getD 0)
 let r3:Bool:=((markP (pk Aa Af w1k w1v) p2.Key p2.wAQ).isSome)
((!r3)=true->
 12=r0/\Aa=At/\Ab=Aq/\Ad=As/\Af=Au/\w1k=e1k/\w1v=e1v/\w2k=e2k/\w2v=e2v/\w3k=e3k/\w3v=e3v)/\
((!r3)=false->
((r2 !=p3)=true->
 12=r0/\Aa=At/\Ab=Aq/\Ad=As/\Af=Au/\w1k=e1k/\w1v=e1v/\w2k=e2k/\w2v=e2v/\w3k=e3k/\w3v=e3v)/\
((r2 !=p3)=false->
(p2.wAq=true->
((p2.wAJ !=0)=true->
 13=r0/\Aa=At/\Ab=Aq/\Ad=As/\Af=Au/\w1k=e1k/\w1v=e1v/\w2k=e2k/\w2v=e2v/\w3k=e3k/\w3v=e3v)/\
((p2.wAJ !=0)=false->
 0=r0/\Aa=At/\Ab=Aq/\Ad=As/\Af=Au/\w1k=e1k/\w1v=e1v/\w2k=e2k/\w2v=e2v/\w3k=e3k/\w3v=e3v))/\
(p2.wAq=false->
(NR (wh.mk p2.wAJ p2.wAW p2.wAQ p2.wAa)/\OrOk w1k w1v Af)/\let r4:Int:=((commP (pk Aa Af w1k w1v) (wh.mk p2.wAJ p2.wAW p2.wAQ p2.wAa)).getD 0)
 let r5:Bool:=((commP (pk Aa Af w1k w1v) (wh.mk p2.wAJ p2.wAW p2.wAQ p2.wAa)).isSome)
((!r5)=true->
 11=r0/\Aa=At/\Ab=Aq/\Ad=As/\Af=Au/\w1k=e1k/\w1v=e1v/\w2k=e2k/\w2v=e2v/\w3k=e3k/\w3v=e3v)/\
((!r5)=false->
(U64 r4/\Us p2.wAR/\p2.wAR.length<=1073741824/\p2.wy<=9223372036854775807)/\let v6:Bool:=((climbS r4 p2.wy p2.wAR) !=p1.wg)
(v6=true->
 11=r0/\Aa=At/\Ab=Aq/\Ad=As/\Af=Au/\w1k=e1k/\w1v=e1v/\w2k=e2k/\w2v=e2v/\w3k=e3k/\w3v=e3v)/\
(v6=false->
 0=r0/\Aa=At/\Ab=Aq/\Ad=As/\Af=Au/\w1k=e1k/\w1v=e1v/\w2k=e2k/\w2v=e2v/\w3k=e3k/\w3v=e3v)))))))<|by
 rintro p1 p2 p3 Aa Ab Ad Af w1k w1v w2k w2v w3k w3v h _ rfl _ rfl _ rfl _ rfl _ rfl _ rfl _ rfl _ rfl _ rfl _ rfl _ rfl;obtain⟨hp,ho,hu⟩:=h;have hm:markP (pk Aa Af w1k w1v) p2.Key p2.wAQ=none∨∃n,markP (pk Aa Af w1k w1v) p2.Key p2.wAQ=some n/\U64 n:=by unfold markP;split;exact hu _ _;exact .inl rfl
 have hc:commP (pk Aa Af w1k w1v) (noteOf p2)=none∨∃n,commP (pk Aa Af w1k w1v) (noteOf p2)=some n/\U64 n:=by unfold commP;split;exact hu _ _;exact .inl rfl
 have hcu:U64 ((commP (pk Aa Af w1k w1v) (noteOf p2)).getD 0):=by
  rcases hc with h|⟨n,h,hn⟩
  ·rw[h];decide
  ·rw[h];exact hn
 have en:noteOf p2=⟨p2.wAJ,p2.wAW,p2.wAQ,p2.wAa⟩:=rfl;refine⟨⟨hp.k,hp.nu.1,hp.nu.2⟩,?_⟩;simp only[<-en];unfold inE;refine⟨fun e=> ?_,fun e=>⟨⟨hp.k,hp.n.r,ho⟩,fun e2=> ?_,fun e2=>⟨fun e3=> ?_,fun e3=>⟨fun e4=>⟨fun e5=> ?_,fun e5=> ?_⟩,fun e4=>⟨⟨hp.n,ho⟩,fun e6=> ?_,fun e6=>⟨⟨hcu,hp.pa,hp.pl,hp.po.2⟩,fun e7=> ?_,fun e7=> ?_⟩⟩⟩⟩⟩⟩
 all_goals simp_all
noncomputable def ka0:Con TB.den:= .g (gk 140 [.one (.ptr 0 0),.agg yZ,.agg [.d (.sl (.st 14)),.d (.sl (.st 15)),zqu]] yM (.one (.one (zqi)))) [.st 13,.st 16,.bool,yqu,yqi,.sl (.st 4),.sl (.str),.sl yqi,.sl (.str),.sl (.sl yqu),.sl (.str),.sl (.bool)] yT [] fun(p1:wx) (p2:wt) (Aa:Bool) (Ab Ad:Int) (Af:List wH) (w1k:List ByteArray) (w1v:List Int) (w2k:List ByteArray) (w2v:List (List Int)) (w3k:List ByteArray) (w3v:List Bool)=>(SR p1/\WR p2/\OrOk w1k w1v Af/\(∀l a,(pk Aa Af w1k w1v) l a=none∨∃n,(pk Aa Af w1k w1v) l a=some n/\U64 n),(checkS (pk Aa Af w1k w1v) p1 p2:Int),Aa,Ab,Ad,Af,w1k,w1v,w2k,w2v,w3k,w3v,())
abbrev Fz5 (r:Type):=Int->Bool->Int->Int->(List wH)->(List ByteArray)->(List Bool)->(List ByteArray)->(List (List Int))->(List ByteArray)->(List Int)->r
theorem kb2:ka0.Ok Tryz.prog TB:=prv Bs Tryz.func140 (.r 1 (.nd [] (.r 0 (.lp [] ⟨[3,2,1,0],yN,[21],[.one (zqi)],[]⟩ .no)) [] (.nd [] (.r 0 (.lp [] ⟨[3,2,1,0],yN,[42],[.one (zqi)],[]⟩ .no)) [] (.jn ⟨[],[],[],[],[]⟩ [] .no [] .no)))) (kak.c (k8t.c (k3x.c (ke6.c (k9l.c (k8p.c c0)))))) (Q:=∀(p1:wx) (p2:wt) (Aa:Bool) (Ab Ad:Int) (Af:List wH) (w1k:List ByteArray) (w1v:List Int) (w2k:List ByteArray) (w2v:List (List Int)) (w3k:List ByteArray) (w3v:List Bool),(SR p1/\WR p2/\OrOk w1k w1v Af/\(∀l a,(pk Aa Af w1k w1v) l a=none∨∃n,(pk Aa Af w1k w1v) l a=some n/\U64 n))->∀r0:Int,(checkS (pk Aa Af w1k w1v) p1 p2)=r0->∀At:Bool,Aa=At->∀Aq:Int,Ab=Aq->∀As:Int,Ad=As->∀Au:List wH,Af=Au->∀e1k:List ByteArray,w1k=e1k->∀e1v:List Int,w1v=e1v->∀e2k:List ByteArray,w2k=e2k->∀e2v:List (List Int),w2v=e2v->∀e3k:List ByteArray,w3k=e3k->∀e3v:List Bool,w3v=e3v-> 
(SR p1/\WR p2)/\((!(relV p1 p2))=true->
 1=r0/\Aa=At/\Ab=Aq/\Ad=As/\Af=Au/\w1k=e1k/\w1v=e1v/\w2k=e2k/\w2v=e2v/\w3k=e3k/\w3v=e3v)/\
((!(relV p1 p2))=false->
 ∃(I1:Fz5 Prop) (M1:Fz5 Nat),I1 0 Aa Ab Ad Af w3k w3v w2k w2v w1k w1v/\∀b1 f1 i1 k1 l1 m1 n1 o1 q1 s1 t1,(I1 b1 f1 i1 k1 l1 m1 n1 o1 q1 s1 t1->
(decide (b1<(p2.Ins.length:Int))=true->
(0<=b1)/\b1<(p2.Ins.length:Int)/\(0<=b1)/\b1<(p1.wL.length:Int)/\(PR (ix p2.Ins b1)/\OrOk s1 t1 l1/\(∀l a,(pk f1 l1 s1 t1) l a=none∨∃n,(pk f1 l1 s1 t1) l a=some n/\U64 n))/\let r1:Int:=(inE (pk f1 l1 s1 t1) p1.wg (ix p1.wL b1) (ix p2.Ins b1))
((r1 !=0)=true->
 r1=r0/\f1=At/\i1=Aq/\k1=As/\l1=Au/\s1=e1k/\t1=e1v/\o1=e2k/\q1=e2v/\m1=e3k/\n1=e3v)/\
((r1 !=0)=false->
 I1 (i64.wrap (b1+1)) f1 i1 k1 l1 m1 n1 o1 q1 s1 t1/\M1 (i64.wrap (b1+1)) f1 i1 k1 l1 m1 n1 o1 q1 s1 t1<M1 b1 f1 i1 k1 l1 m1 n1 o1 q1 s1 t1))/\
(decide (b1<(p2.Ins.length:Int))=false->
 ∃(I2:Fz5 Prop) (M2:Fz5 Nat),I2 0 f1 i1 k1 l1 m1 n1 o1 q1 s1 t1/\∀u1 x1 y1 b2 f2 i2 k2 l2 m2 n2 o2,(I2 u1 x1 y1 b2 f2 i2 k2 l2 m2 n2 o2->
(decide (u1<(p2.wE.length:Int))=true->
(0<=u1)/\u1<(p2.wE.length:Int)/\(NR (ix p2.wE u1)/\OrOk n2 o2 f2)/\let r2:Int:=((commP (pk x1 f2 n2 o2) (ix p2.wE u1)).getD 0)
 let r3:Bool:=((commP (pk x1 f2 n2 o2) (ix p2.wE u1)).isSome)
((!r3)=true->
 1=r0/\x1=At/\y1=Aq/\b2=As/\f2=Au/\n2=e1k/\o2=e1v/\l2=e2k/\m2=e2v/\i2=e3k/\k2=e3v)/\
((!r3)=false->
(0<=u1)/\u1<(p1.wn.length:Int)/\((r2 !=(ix p1.wn u1))=true->
 1=r0/\x1=At/\y1=Aq/\b2=As/\f2=Au/\n2=e1k/\o2=e1v/\l2=e2k/\m2=e2v/\i2=e3k/\k2=e3v)/\
((r2 !=(ix p1.wn u1))=false->
(0<=u1)/\u1<(p1.wAK.length:Int)/\let v4:Bool:=(((ix p2.wE u1).Rho) !=(ix p1.wAK u1))
(v4=true->
 1=r0/\x1=At/\y1=Aq/\b2=As/\f2=Au/\n2=e1k/\o2=e1v/\l2=e2k/\m2=e2v/\i2=e3k/\k2=e3v)/\
(v4=false->
 I2 (i64.wrap (u1+1)) x1 y1 b2 f2 i2 k2 l2 m2 n2 o2/\M2 (i64.wrap (u1+1)) x1 y1 b2 f2 i2 k2 l2 m2 n2 o2<M2 u1 x1 y1 b2 f2 i2 k2 l2 m2 n2 o2))))/\
(decide (u1<(p2.wE.length:Int))=false->
 ∀J1:Prop,(((p2.Ins.length<=9223372036854775807)/\let v5:Int:=u64.wrap ((inS p2.Ins)+p1.wP)
(p2.wE.length<=9223372036854775807)/\let v6:Int:=u64.wrap ((outS p2.wE)+p1.wT)
((v5 !=(u64.wrap (v6+p1.Fee)))=true->
 13=r0/\x1=At/\y1=Aq/\b2=As/\f2=Au/\n2=e1k/\o2=e1v/\l2=e2k/\m2=e2v/\i2=e3k/\k2=e3v)/\
((v5 !=(u64.wrap (v6+p1.Fee)))=false->
 0=r0/\x1=At/\y1=Aq/\b2=As/\f2=Au/\n2=e1k/\o2=e1v/\l2=e2k/\m2=e2v/\i2=e3k/\k2=e3v))->J1)->
(decide (0<p1.wP)=true->
(U64 p2.wAL)/\((p1.wW !=(acctS p2.wAL))=true->
 21=r0/\x1=At/\y1=Aq/\b2=As/\f2=Au/\n2=e1k/\o2=e1v/\l2=e2k/\m2=e2v/\i2=e3k/\k2=e3v)/\
((p1.wW !=(acctS p2.wAL))=false->
 J1))/\
(decide (0<p1.wP)=false->
 J1)))))))<|by
 rintro p1 p2 Aa Ab Ad Af w1k w1v w2k w2v w3k w3v h _ rfl _ rfl _ rfl _ rfl _ rfl _ rfl _ rfl _ rfl _ rfl _ rfl _ rfl;obtain⟨hs,hw,ho,hu⟩:=h;refine⟨⟨hs,hw⟩,fun e=> ?_,fun e=> ?_⟩
 ·have e:relV p1 p2=false:=by simpa using e
  unfold checkS;rw[qh e]
  (repeat' apply qaa)<;>first|rfl|exact qq
 have e:relV p1 p2=true:=by simpa using e
 have hv:p2.Ins.length=p1.wL.length/\p2.wE.length=p1.wn.length/\p2.wE.length=p1.wAK.length:=by unfold relV at e;simp only[qg,qaf]at e;exact⟨e.1.1.1.1.1.1.2,e.1.1.1.1.2,e.1.1.1.2⟩
 obtain⟨v1,v2,v3⟩:=hv;have hil:=hw.il;have hol:=hw.ol;refine⟨(fun i z0 z1 z2 z3 z4 z5 z6 z7 z8 z9=>(Aa=z0/\Ab=z1/\Ad=z2/\Af=z3/\w3k=z4/\w3v=z5/\w2k=z6/\w2v=z7/\w1k=z8/\w1v=z9)/\(0<=i/\i<=p2.Ins.length/\insE (pk Aa Af w1k w1v) p1.wg (p2.Ins.drop i.toNat) (p1.wL.drop i.toNat)=insE (pk Aa Af w1k w1v) p1.wg p2.Ins p1.wL)),(fun i _ _ _ _ _ _ _ _ _ _=>(p2.Ins.length-i).toNat),⟨⟨rfl,rfl,rfl,rfl,rfl,rfl,rfl,rfl,rfl,rfl⟩,by omega,by omega,rfl⟩,?_⟩;rintro i _ _ _ _ _ _ _ _ _ _ ⟨⟨rfl,rfl,rfl,rfl,rfl,rfl,rfl,rfl,rfl,rfl⟩,g0,g1,g2⟩;refine⟨fun hh=> ?_,fun hh=> ?_⟩
 ·have hh:=qb hh;have hp:=hw.i _ (ix_mem p2.Ins i g0 hh);have hd:=drop_ix p2.Ins i g0 hh;have hd2:=drop_ix p1.wL i g0 qqo;rw[hd,hd2]at g2;have g2:(if inE (pk Aa Af w1k w1v) p1.wg (ix p1.wL i) (ix p2.Ins i)≠0 then inE (pk Aa Af w1k w1v) p1.wg (ix p1.wL i) (ix p2.Ins i)else insE (pk Aa Af w1k w1v) p1.wg (p2.Ins.drop (i+1).toNat) (p1.wL.drop (i+1).toNat))=insE (pk Aa Af w1k w1v) p1.wg p2.Ins p1.wL:=g2;have nx:=inc i p2.Ins.length g0 hh qqo;refine⟨g0,hh,g0,by omega,⟨hp,ho,hu⟩,?_⟩;refine⟨fun e2=> ?_,fun e2=> ?_⟩
  ·have e2:inE (pk Aa Af w1k w1v) p1.wg (ix p1.wL i) (ix p2.Ins i)≠0:=by simpa using e2
   rw[qh e2]at g2;refine⟨?_,by(repeat' apply qaa)<;>first|rfl|exact qq⟩;have g2:_=insE (pk Aa Af w1k w1v) p1.wg p2.Ins p1.wL:=g2;unfold checkS;rw[qe (by simp[e]),qh (by rw[<-g2];exact e2),<-g2]
  ·have e2:inE (pk Aa Af w1k w1v) p1.wg (ix p1.wL i) (ix p2.Ins i)=0:=by simpa using e2
   rw[qe (by simp[e2])]at g2;rw[nx];exact⟨⟨⟨rfl,rfl,rfl,rfl,rfl,rfl,rfl,rfl,rfl,rfl⟩,by omega,by omega,g2⟩,by(dsimp only;omega)⟩
 ·have hh:=qc hh;rw[qbp qqo]at g2;have g2:0=insE (pk Aa Af w1k w1v) p1.wg p2.Ins p1.wL:=g2
  have hck:checkS (pk Aa Af w1k w1v) p1 p2=if outsB (pk Aa Af w1k w1v) p2.wE p1.wn p1.wAK=false then 1 else if 0<p1.wP/\p1.wW≠acctS p2.wAL then 21 else
    if(inS p2.Ins+p1.wP)%18446744073709551616≠((outS p2.wE+p1.wT)%18446744073709551616+p1.Fee)%18446744073709551616 then 13 else 0:=by
   conv=>lhs;unfold checkS
   rw[qe (by simp[e]),qe (by rw[<-g2];simp)]
  refine⟨(fun i z0 z1 z2 z3 z4 z5 z6 z7 z8 z9=>(Aa=z0/\Ab=z1/\Ad=z2/\Af=z3/\w3k=z4/\w3v=z5/\w2k=z6/\w2v=z7/\w1k=z8/\w1v=z9)/\(0<=i/\i<=p2.wE.length/\outsB (pk Aa Af w1k w1v) (p2.wE.drop i.toNat) (p1.wn.drop i.toNat) (p1.wAK.drop i.toNat)=outsB (pk Aa Af w1k w1v) p2.wE p1.wn p1.wAK)),(fun i _ _ _ _ _ _ _ _ _ _=>(p2.wE.length-i).toNat),⟨⟨rfl,rfl,rfl,rfl,rfl,rfl,rfl,rfl,rfl,rfl⟩,by omega,by omega,rfl⟩,?_⟩;rintro k _ _ _ _ _ _ _ _ _ _ ⟨⟨rfl,rfl,rfl,rfl,rfl,rfl,rfl,rfl,rfl,rfl⟩,k0,k1,k2⟩;refine⟨fun hk=> ?_,fun hk=> ?_⟩
  ·have hk:=qb hk;have hp:=hw.o _ (ix_mem p2.wE k k0 hk);rw[drop_ix p2.wE k k0 hk,drop_ix p1.wn k k0 qqo,drop_ix p1.wAK k k0 qqo]at k2;have k2:(outB (pk Aa Af w1k w1v) (ix p2.wE k) (ix p1.wn k) (ix p1.wAK k)&&outsB (pk Aa Af w1k w1v) (p2.wE.drop (k+1).toNat) (p1.wn.drop (k+1).toNat) (p1.wAK.drop (k+1).toNat))=outsB (pk Aa Af w1k w1v) p2.wE p1.wn p1.wAK:=k2;have nx:=inc k p2.wE.length k0 hk qqo;have bad:outB (pk Aa Af w1k w1v) (ix p2.wE k) (ix p1.wn k) (ix p1.wAK k)=false->outsB (pk Aa Af w1k w1v) p2.wE p1.wn p1.wAK=false:=fun hb=>by rw[hb]at k2;exact k2.symm
   refine⟨k0,hk,⟨hp,ho⟩,?_⟩;refine⟨fun e3=> ?_,fun e3=>⟨k0,by omega,fun e4=> ?_,fun e4=>⟨k0,by omega,fun e5=> ?_,fun e5=> ?_⟩⟩⟩
   ·rw[hck,qh (bad (by unfold outB;rw[show(commP (pk Aa Af w1k w1v) (ix p2.wE k)).isSome=false by simpa using e3];rfl))]
    (repeat' apply qaa)<;>first|rfl|exact qq
   ·rw[hck,qh (bad (by
     have e4:¬(commP (pk Aa Af w1k w1v) (ix p2.wE k)).getD 0=ix p1.wn k:=by simpa using e4
     simp[outB,e4]))]
    (repeat' apply qaa)<;>first|rfl|exact qq
   ·rw[hck,qh (bad (by
     have e5:¬(ix p2.wE k).Rho=ix p1.wAK k:=by simpa using e5
     simp[outB,e5]))]
    (repeat' apply qaa)<;>first|rfl|exact qq
   ·have e3:(commP (pk Aa Af w1k w1v) (ix p2.wE k)).isSome=true:=by simpa using e3
    have e4:(commP (pk Aa Af w1k w1v) (ix p2.wE k)).getD 0=ix p1.wn k:=by simpa using e4
    have e5:(ix p2.wE k).Rho=ix p1.wAK k:=by simpa using e5
    have hb:outB (pk Aa Af w1k w1v) (ix p2.wE k) (ix p1.wn k) (ix p1.wAK k)=true:=by simp[outB,e3,e4,e5]
    rw[hb,Bool.true_and]at k2;rw[nx];exact⟨⟨⟨rfl,rfl,rfl,rfl,rfl,rfl,rfl,rfl,rfl,rfl⟩,by omega,by omega,k2⟩,by(dsimp only;omega)⟩
  ·have hk:=qc hk;rw[qbp qqo]at k2;have k2:true=outsB (pk Aa Af w1k w1v) p2.wE p1.wn p1.wAK:=k2;intro J1 kJ
   have j1:(checkS (pk Aa Af w1k w1v) p1 p2=if(inS p2.Ins+p1.wP)%18446744073709551616≠((outS p2.wE+p1.wT)%18446744073709551616+p1.Fee)%18446744073709551616 then 13 else 0)->J1:=by
    intro hr;refine kJ ⟨by show p2.Ins.length<=_;omega,by show p2.wE.length<=_;omega,?_⟩;simp only[u64w];refine⟨fun hb=> ?_,fun hb=> ?_⟩
    ·rw[hr,qh (by simpa using hb)]
     (repeat' apply qaa)<;>first|rfl|exact qq
    ·rw[hr,qe (by simpa using hb)]
     (repeat' apply qaa)<;>first|rfl|exact qq
   rw[<-k2,qe qqs]at hck;refine⟨fun hd=>⟨hw.s,fun ha=> ?_,fun ha=>j1 ?_⟩,fun hd=>j1 ?_⟩
   ·have ha:¬p1.wW=acctS p2.wAL:=by simpa using ha
    rw[hck,qh ⟨qb hd,ha⟩]
    (repeat' apply qaa)<;>first|rfl|exact qq
   ·have ha:p1.wW=acctS p2.wAL:=by simpa using ha
    rw[hck,qe (fun h=>h.2 ha)]
   ·rw[hck,qe (fun h=>qc hd h.1)]
noncomputable def kdg:Con TB.den:= .t (gk 178 [.one (.ptr 0 0)] yB1 (.one (.one (.d (.bool))))) yI1 [.bool,.sl yqb,yqi,.bool] [] fun(Aa:List Int) (Ab:Int) (Ad:Bool)=>(((!Ad&&Ab==(Aa.length:Int)):Bool),Aa,Ab,Ad,())
theorem kg2:kdg.Ok Tryz.prog TB:=ptv Bs Tryz.func178 .no c0 (Q:=∀(Aa:List Int) (Ab:Int) (Ad:Bool),∀r0:Bool,(!Ad&&Ab==(Aa.length:Int))=r0->∀At:List Int,Aa=At->∀Aq:Int,Ab=Aq->∀As:Bool,Ad=As-> 
((!Ad)=true->
(Ab==(Aa.length:Int))=r0/\Aa=At/\Ab=Aq/\Ad=As)/\
((!Ad)=false->
 false=r0/\Aa=At/\Ab=Aq/\Ad=As))<|by rintro Aa Ab Ad _ rfl _ rfl _ rfl _ rfl;refine⟨fun e=>⟨by rw[e];rfl,rfl,rfl,rfl⟩,fun e=>⟨by rw[e];rfl,rfl,rfl,rfl⟩⟩
noncomputable def kel:Con TB.den:= .g (gk 228 [.one (.ptr 0 0)] yB1 (.one (.one (zqi)))) yI1 yE1 [] fun(Aa:List Int) (Ab:Int) (Ad:Bool)=>((0<=Ab/\Ab<=Aa.length)/\Aa.length<=137438953472,((Aa.length:Int)-Ab:Int),Aa,Ab,Ad,())
theorem k6i:kel.Ok Tryz.prog TB:=prv Bs Tryz.func228 .no c0 (Q:=∀(Aa:List Int) (Ab:Int) (Ad:Bool),((0<=Ab/\Ab<=Aa.length)/\Aa.length<=137438953472)->∀r0:Int,((Aa.length:Int)-Ab)=r0->∀At:List Int,Aa=At->∀Aq:Int,Ab=Aq->∀As:Bool,Ad=As-> 
 let v1:Int:=i64.wrap ((Aa.length:Int)-Ab)
 v1=r0/\Aa=At/\Ab=Aq/\Ad=As)<|by rintro Aa Ab Ad h _ rfl _ rfl _ rfl _ rfl;exact⟨wi _ qqo qqo,rfl,rfl,rfl⟩
noncomputable def kah:Con TB.den:= .g (gk 227 [.one (.ptr 0 0),.one (zqi)] yB1 (.tup [.one (zqu),.one (.d (.bool))])) yE1 [yqu,.bool,.sl yqb,yqi,.bool] [true,true,false,true,true] fun(p1:Int) (Aa:List Int) (Ab:Int) (Ad:Bool)=>(RdOk Aa Ab/\1<=p1/\p1<=8,((rdD Aa Ab Ad p1).n:Int),((rdD Aa Ab Ad p1).ok:Bool),Aa,((rdD Aa Ab Ad p1).pos:Int),((rdD Aa Ab Ad p1).fail:Bool),())
theorem k2h:kah.Ok Tryz.prog TB:=prv Bs Tryz.func227 (.r 0 (.nd [] (.jn ⟨[0],yB1,[17],[.one (.d (.bool))],[]⟩ [] .no [] .no) [] (.r 0 (.nd [] (.r 0 (.lp [] ⟨[],[],[6,22],[.one (zqu),.one (zqi)],[]⟩ .no)) [] .no)))) (k6i.c c0) (Q:=∀(p1:Int) (Aa:List Int) (Ab:Int) (Ad:Bool),(RdOk Aa Ab/\1<=p1/\p1<=8)->∀r0:Int,((rdD Aa Ab Ad p1).n)=r0->∀r1:Bool,((rdD Aa Ab Ad p1).ok)=r1->∀At:List Int,Aa=At->∀Aq:Int,((rdD Aa Ab Ad p1).pos)=Aq->∀As:Bool,((rdD Aa Ab Ad p1).fail)=As-> 
 ∀J1:Bool->(List Int)->Int->Bool->Prop,(∀(b1:Bool) (f1:List Int) (i1:Int) (k1:Bool),
((b1=true->
 0=r0/\false=r1/\f1=At/\i1=Aq/\true=As)/\
(b1=false->
 ∃(I1:Int->Int->Prop) (M1:Int->Int->Nat),I1 0 0/\∀l1 m1,(I1 l1 m1->
(decide (m1<p1)=true->
(0<=i64.wrap (i1+m1))/\i64.wrap (i1+m1)<(f1.length:Int)/\let v3:Int:=u64.wrap (ix f1 (i64.wrap (i1+m1)))
(0<=i64.wrap (8*m1))/\let v4:Int:=ior .u64 l1 (ishl .u64 v3 (i64.wrap (8*m1)))
 I1 v4 (i64.wrap (m1+1))/\M1 v4 (i64.wrap (m1+1))<M1 l1 m1)/\
(decide (m1<p1)=false->
 l1=r0/\true=r1/\f1=At/\i64.wrap (i1+p1)=Aq/\k1=As))))->J1 b1 f1 i1 k1)->
(Ad=true->
 J1 true Aa Ab Ad)/\
(Ad=false->
((0<=Ab/\Ab<=Aa.length)/\Aa.length<=137438953472)/\let v2:Bool:=decide (((Aa.length:Int)-Ab)<p1)
 J1 v2 Aa Ab Ad))<|by
 rintro p1 Aa Ab Ad h _ rfl _ rfl _ rfl _ rfl _ rfl;obtain⟨⟨hb,hl,h0,h1⟩,h2,h3⟩:=h;intro J1 k1;have jf:(Ad=true∨(Aa.length:Int)-Ab<p1)->J1 true Aa Ab Ad:=by intro h;refine k1 _ _ _ _ ⟨fun _=> ?_,fun h=>by simp at h⟩;unfold rdD;rw[qh h];exact⟨rfl,rfl,rfl,rfl,rfl⟩
 have jt:¬(Ad=true∨(Aa.length:Int)-Ab<p1)->J1 false Aa Ab Ad:=by
  intro h;refine k1 _ _ _ _ ⟨fun h=>by simp at h,fun _=> ?_⟩;have hD:rdD Aa Ab Ad p1=⟨val ((Aa.drop Ab.toNat).take p1.toNat),true,Ab+p1,false⟩:=by unfold rdD;rw[qe h]
  rw[hD];refine⟨(fun n i=>0<=i/\i<=p1/\n=val ((Aa.drop Ab.toNat).take i.toNat)),(fun _ i=>(p1-i).toNat),⟨by omega,by omega,rfl⟩,?_⟩;rintro n i ⟨g0,g1,rfl⟩;refine⟨fun hh=> ?_,fun hh=> ?_⟩
  ·have hh:=qb hh;have hlen:(((Aa.drop Ab.toNat).take i.toNat).length:Int)=i:=by rw[qo,qan];omega
   have hix:ix Aa (Ab+i)=ix (Aa.drop Ab.toNat) i:=by rw[ix_nat _ _ qqo qqo,ix_nat _ _ g0 (by rw[qan];omega),List.getElem_drop];congr 1;omega
   have hx:=hb _ (ix_mem Aa (Ab+i) qqo qqo);have hv:=ior_val ((Aa.drop Ab.toNat).take i.toNat) (ix (Aa.drop Ab.toNat) i) ((hb.drop _).take _) qqo (by rw[<-hix];exact hx);rw[hlen]at hv;rw[inc i p1 g0 hh qqo,wi (Ab+i) qqo qqo,wi (8*i) qqo qqo,wu (ix Aa (Ab+i)) qqo qqo,hix];simp only[hv];refine⟨by omega,by omega,by omega,⟨by omega,by omega,?_⟩,by(first|omega|(dsimp only;omega))⟩;rw[kg _ i g0 (by rw[qan];omega)]
  ·have hh:=qc hh
   have h4:Ad=false:=by
    cases hc:Ad
    ·rfl
    ·exact absurd (.inl hc) h
   exact⟨by rw[show i=p1 by omega],rfl,rfl,wi _ qqo qqo,h4⟩
 refine⟨fun h=>by have:=jf (.inl h);rw[h]at this;exact h▸this,fun h=>⟨⟨⟨h0,h1⟩,hl⟩,?_⟩⟩;by_cases hq:(Aa.length:Int)-Ab<p1
 ·rw[qbn hq];exact jf (.inr hq)
 ·rw[qbr hq];exact jt (by rw[h];simpa using hq)
noncomputable def kfm:Con TB.den:= .g (gk 174 [.one (.ptr 0 0),.one (zqi)] yB1 (.one (.one (zqi)))) yE1 yE1 [true,false,true,true] fun(p1:Int) (Aa:List Int) (Ab:Int) (Ad:Bool)=>(RdOk Aa Ab,((rdI Aa Ab Ad p1).n:Int),Aa,((rdI Aa Ab Ad p1).pos:Int),((rdI Aa Ab Ad p1).fail:Bool),())
theorem k8f:kfm.Ok Tryz.prog TB:=prv Bs Tryz.func174 (.r 1 (.nd [] (.jn ⟨[],[],[19],[.one (.d (.bool))],[]⟩ [] .no [] .no) [] .no)) (k2h.c c0) (Q:=∀(p1:Int) (Aa:List Int) (Ab:Int) (Ad:Bool),(RdOk Aa Ab)->∀r0:Int,((rdI Aa Ab Ad p1).n)=r0->∀At:List Int,Aa=At->∀Aq:Int,((rdI Aa Ab Ad p1).pos)=Aq->∀As:Bool,((rdI Aa Ab Ad p1).fail)=As-> 
(RdOk Aa Ab/\1<=(4:Int)/\(4:Int)<=8)/\∀(r5:Int) (r6:Bool) (r7:Int) (r8:Bool),(r5=((rdD Aa Ab Ad (4:Int)).n)/\r6=((rdD Aa Ab Ad (4:Int)).ok)/\r7=((rdD Aa Ab Ad (4:Int)).pos)/\r8=((rdD Aa Ab Ad (4:Int)).fail))->∀J1:Bool->Prop,(∀(b1:Bool),
((b1=true->
 0=r0/\Aa=At/\r7=Aq/\true=As)/\
(b1=false->
 i64.wrap r5=r0/\Aa=At/\r7=Aq/\r8=As))->J1 b1)->
((!r6)=true->
 J1 true)/\
((!r6)=false->
 J1 (decide (p1<(i64.wrap r5)))))<|by
 rintro p1 Aa Ab Ad h _ rfl _ rfl _ rfl _ rfl;have hn:0<=(rdD Aa Ab Ad 4).n/\(rdD Aa Ab Ad 4).n<4294967296:=ka2 h (p:=4) (f:=Ad) qqo qqo;refine⟨⟨h,by omega,by omega⟩,?_⟩;rintro _ _ _ _ ⟨rfl,rfl,rfl,rfl⟩;intro J1 k1;unfold rdI at k1;rw[wi (rdD Aa Ab Ad 4).n qqo (by have:=hn.2;omega)];refine⟨fun e=>k1 _ ⟨fun _=> ?_,fun h=>by simp at h⟩,fun e=>k1 _ ⟨fun e2=> ?_,fun e2=> ?_⟩⟩
 ·have e:(rdD Aa Ab Ad 4).ok=false:=by simpa using e
  rw[e];exact⟨rfl,rfl,rfl,rfl⟩
 ·have e:(rdD Aa Ab Ad 4).ok=true:=by simpa using e
  have e2:=qb e2;rw[qh (.inr e2)];exact⟨rfl,rfl,rfl,rfl⟩
 ·have e:(rdD Aa Ab Ad 4).ok=true:=by simpa using e
  have e2:=qc e2;rw[qe (by rw[e];simpa using e2)];exact⟨wi _ qqo (by have:=hn.2;omega),rfl,rfl,rfl⟩
noncomputable def kef:Con TB.den:= .g (gk 177 [.one (.ptr 0 0),.one (zqi),.one (zqu)] yB1 (.one (.one (zql)))) [yqi,yqu,.sl yqb,yqi,.bool] [.sl yqu,.sl yqb,yqi,.bool] [true,false,true,true] fun(p1 p2:Int) (Aa:List Int) (Ab:Int) (Ad:Bool)=>(RdOk Aa Ab/\(0<=p1/\p1<=4096),((rdL Aa Ab Ad p1 p2).l:List Int),Aa,((rdL Aa Ab Ad p1 p2).pos:Int),((rdL Aa Ab Ad p1 p2).fail:Bool),())
abbrev Fz6 (r:Type):=Int->(List Int)->Int->Bool->(List Int)->r
theorem kfr:kef.Ok Tryz.prog TB:=prv Bs Tryz.func177 (.r 1 (.nd [] (.jn ⟨[0],yB1,[23],[.one (.d (.bool))],[]⟩ [] .no [] .no) [] (.r 0 (.nd [] (.r 0 (.lp [] ⟨[1,0],[.vec yqu,.cells [.d (.sl yqb),zqi,.d (.bool)]],[31],[.one (zqi)],[]⟩ .no)) [] (.r 0 (.rt [.frz 1 [6]])))))) (k8f.c (k6i.c (k2h.c c0))) (Q:=∀(p1 p2:Int) (Aa:List Int) (Ab:Int) (Ad:Bool),(RdOk Aa Ab/\(0<=p1/\p1<=4096))->∀r0:List Int,((rdL Aa Ab Ad p1 p2).l)=r0->∀At:List Int,Aa=At->∀Aq:Int,((rdL Aa Ab Ad p1 p2).pos)=Aq->∀As:Bool,((rdL Aa Ab Ad p1 p2).fail)=As-> 
(RdOk Aa Ab)/\∀(r4 r5:Int) (r6:Bool),(r4=((rdI Aa Ab Ad p1).n)/\r5=((rdI Aa Ab Ad p1).pos)/\r6=((rdI Aa Ab Ad p1).fail))->∀J1:Bool->(List Int)->Int->Bool->Prop,(∀(b1:Bool) (f1:List Int) (i1:Int) (k1:Bool),
((b1=true->
([]:List Int)=r0/\f1=At/\i1=Aq/\true=As)/\
(b1=false->
 0<=r4/\r4<=r4/\(r4.toNat*8<=140737488355328)/\(r4.toNat<=maxLen)/\∃(I1:Fz6 Prop) (M1:Fz6 Nat),I1 0 f1 i1 k1 (List.replicate r4.toNat (0:Int))/\∀l1 m1 n1 o1 q1,(I1 l1 m1 n1 o1 q1->
(decide (l1<(r4.toNat:Int))=true->
(RdOk m1 n1/\1<=(8:Int)/\(8:Int)<=8)/\∀(r40:Int) (r41:Bool) (r42:Int) (r43:Bool),(r40=((rdD m1 n1 o1 (8:Int)).n)/\r41=((rdD m1 n1 o1 (8:Int)).ok)/\r42=((rdD m1 n1 o1 (8:Int)).pos)/\r43=((rdD m1 n1 o1 (8:Int)).fail))->(0<=l1/\l1<(r4.toNat:Int))/\(0<=l1/\l1<(q1.length:Int))/\(0<=l1/\l1<(r4.toNat:Int))/\(0<=l1/\l1<((q1.set l1.toNat r40).length:Int))/\let v44:Bool:=decide (p2<=(ix (q1.set l1.toNat r40) l1))
(v44=true->
([]:List Int)=r0/\m1=At/\r42=Aq/\true=As)/\
(v44=false->
 I1 (i64.wrap (l1+1)) m1 r42 r43 (q1.set l1.toNat r40)/\M1 (i64.wrap (l1+1)) m1 r42 r43 (q1.set l1.toNat r40)<M1 l1 m1 n1 o1 q1))/\
(decide (l1<(r4.toNat:Int))=false->
(r4.toNat=q1.length)/\q1=r0/\m1=At/\n1=Aq/\o1=As))))->J1 b1 f1 i1 k1)->
(r6=true->
 J1 true Aa r5 r6)/\
(r6=false->
((0<=r5/\r5<=Aa.length)/\Aa.length<=137438953472)/\let v7:Int:=i64.wrap (Int.tdiv ((Aa.length:Int)-r5) 8)
 J1 (decide (v7<r4)) Aa r5 r6))<|by
 rintro p1 p2 Aa Ab Ad h _ rfl _ rfl _ rfl _ rfl;obtain⟨h,hp0,hp1⟩:=h;have hI:=rdI_ok h (f:=Ad) (m:=p1);have hIn:=rdI_n h (f:=Ad) (m:=p1) hp0;have hb:=h.by_;have hl:=h.len;generalize hX:rdI Aa Ab Ad p1=X at *
 refine⟨h,?_⟩;rintro _ _ _ ⟨rfl,rfl,rfl⟩;intro J1 k1;have jf:(X.fail=true∨((Aa.length:Int)-X.pos)/8<X.n)->J1 true Aa X.pos X.fail:=by intro hf;refine k1 _ _ _ _ ⟨fun _=> ?_,fun h=>by simp at h⟩;unfold rdL;rw[hX,qh hf];exact⟨rfl,rfl,rfl,rfl⟩
 have jt:¬(X.fail=true∨((Aa.length:Int)-X.pos)/8<X.n)->J1 false Aa X.pos X.fail:=by
  intro hf
  have hff:X.fail=false:=by
   cases hc:X.fail
   ·rfl
   ·exact absurd (.inl hc) hf
  have hle:X.n*8<=(Aa.length:Int)-X.pos:=by have:¬((Aa.length:Int)-X.pos)/8<X.n:=fun h=>hf (.inr h);omega
  refine k1 _ _ _ _ ⟨fun h=>by simp at h,fun _=>⟨hIn.1,by omega,by have:=hIn.2;omega,by have:=hIn.2;unfold maxLen;omega,?_⟩⟩;have hL:rdL Aa Ab Ad p1 p2=rdLs Aa p2 X.n.toNat X.pos []:=by unfold rdL;rw[hX,qe hf]
  rw[hff];have hnn:((X.n.toNat:Int))=X.n:=by have:=hIn.1;omega
  rw[hnn,hL];refine⟨(fun i c pos f g=>Aa=c/\0<=i/\i<=X.n/\f=false/\0<=pos/\pos+(X.n-i)*8<=Aa.length/\(g.length:Int)=X.n/\rdLs Aa p2 (X.n-i).toNat pos (g.take i.toNat)=rdLs Aa p2 X.n.toNat X.pos []),(fun i _ _ _ _=>(X.n-i).toNat),⟨rfl,by omega,hIn.1,rfl,hI.pos0,by omega,by simp;have:=hIn.1;omega,by simp⟩,?_⟩;rintro i _ pos f g ⟨rfl,g0,g1,rfl,g2,g3,g4,g5⟩;have hok:RdOk Aa pos:=⟨hb,hl,g2,by(first|omega|(dsimp only;omega))⟩;refine⟨fun hh=> ?_,fun hh=> ?_⟩
  ·have hh:=qb hh;have hD:rdD Aa pos false 8=⟨val ((Aa.drop pos.toNat).take 8),true,pos+8,false⟩:=by unfold rdD;rw[qe qqm];rfl
   have hset:ix (g.set i.toNat (val ((Aa.drop pos.toNat).take 8))) i=val ((Aa.drop pos.toNat).take 8):=by rw[ix_nat _ i g0 (by rw[qy];omega)];simp
   have hstep:rdLs Aa p2 (X.n-i).toNat pos (g.take i.toNat)=if p2<=val ((Aa.drop pos.toNat).take 8)then⟨[],pos+8,true⟩else rdLs Aa p2 (X.n-(i+1)).toNat (pos+8) (g.take i.toNat++[val ((Aa.drop pos.toNat).take 8)]):=by rw[show(X.n-i).toNat=(X.n-(i+1)).toNat+1 by omega];rfl
   refine⟨⟨hok,by omega,by omega⟩,fun n1 n2 n3 n4 e=> ?_⟩;rw[hD]at e;obtain⟨rfl,rfl,rfl,rfl⟩:=e;refine⟨⟨by omega,by omega⟩,⟨by omega,by omega⟩,⟨by omega,by omega⟩,⟨by omega,by rw[qy];omega⟩,fun e=> ?_,fun e=> ?_⟩
   ·have e:=qb e;rw[hset]at e;rw[<-g5,hstep,qh e];exact⟨rfl,rfl,rfl,rfl⟩
   ·have e:=qc e;rw[hset]at e;rw[inc i X.n g0 hh (by have:=hIn.2;omega)];refine⟨⟨rfl,by omega,by omega,rfl,by show 0<=pos+8;omega,by show pos+8+(X.n-(i+1))*8<=_;omega,by rw[qy];exact g4,?_⟩,by(dsimp only;omega)⟩;rw[<-g5,hstep,qe e];congr 1;rw[kg _ i g0 (by rw[qy];omega),hset];congr 1;rw[List.take_set_of_le qqo]
  ·have hh:=qc hh;have hi:i=X.n:=by omega
   subst hi;rw[Int.sub_self,qu qqo]at g5;rw[<-g5];exact⟨by omega,rfl,rfl,rfl,rfl⟩
 refine⟨fun e=>by have:=jf (.inl e);rw[e]at this;exact e▸this,fun e=>⟨⟨⟨hI.pos0,hI.pos1⟩,hl⟩,?_⟩⟩;have:=hI.pos0;have:=hI.pos1
 try simp only[]
 rw[tdiv_nn _ _ qqo,wi _ qqo qqo];by_cases hq:((Aa.length:Int)-X.pos)/8<X.n
 ·rw[qbn hq];exact jf (.inr hq)
 ·rw[qbr hq];exact jt (by rw[e];simpa using hq)
noncomputable def ke0:Con TB.den:= .g (gk 176 [.one (.ptr 0 0),.one (zqu)] yB1 (.one (.one (zqu)))) [yqu,.sl yqb,yqi,.bool] [yqu,.sl yqb,yqi,.bool] [true,false,true,true] fun(p1:Int) (Aa:List Int) (Ab:Int) (Ad:Bool)=>(RdOk Aa Ab,((rdU Aa Ab Ad p1).n:Int),Aa,((rdU Aa Ab Ad p1).pos:Int),((rdU Aa Ab Ad p1).fail:Bool),())
theorem k6w:ke0.Ok Tryz.prog TB:=prv Bs Tryz.func176 (.r 1 (.nd [] (.jn ⟨[],[],[18],[.one (.d (.bool))],[]⟩ [] .no [] .no) [] .no)) (k2h.c c0) (Q:=∀(p1:Int) (Aa:List Int) (Ab:Int) (Ad:Bool),(RdOk Aa Ab)->∀r0:Int,((rdU Aa Ab Ad p1).n)=r0->∀At:List Int,Aa=At->∀Aq:Int,((rdU Aa Ab Ad p1).pos)=Aq->∀As:Bool,((rdU Aa Ab Ad p1).fail)=As-> 
(RdOk Aa Ab/\1<=(8:Int)/\(8:Int)<=8)/\∀(r5:Int) (r6:Bool) (r7:Int) (r8:Bool),(r5=((rdD Aa Ab Ad (8:Int)).n)/\r6=((rdD Aa Ab Ad (8:Int)).ok)/\r7=((rdD Aa Ab Ad (8:Int)).pos)/\r8=((rdD Aa Ab Ad (8:Int)).fail))->∀J1:Bool->Prop,(∀(b1:Bool),
((b1=true->
 0=r0/\Aa=At/\r7=Aq/\true=As)/\
(b1=false->
 r5=r0/\Aa=At/\r7=Aq/\r8=As))->J1 b1)->
((!r6)=true->
 J1 true)/\
((!r6)=false->
 J1 (decide (p1<r5))))<|by
 rintro p1 Aa Ab Ad h _ rfl _ rfl _ rfl _ rfl;refine⟨⟨h,by omega,by omega⟩,?_⟩;rintro _ _ _ _ ⟨rfl,rfl,rfl,rfl⟩;intro J1 k1;unfold rdU at k1;refine⟨fun e=>k1 _ ⟨fun _=> ?_,fun h=>by simp at h⟩,fun e=>k1 _ ⟨fun e2=> ?_,fun e2=> ?_⟩⟩
 ·have e:(rdD Aa Ab Ad 8).ok=false:=by simpa using e
  rw[e];exact⟨rfl,rfl,rfl,rfl⟩
 ·have e:(rdD Aa Ab Ad 8).ok=true:=by simpa using e
  have e2:=qb e2;rw[qh (.inr e2)];exact⟨rfl,rfl,rfl,rfl⟩
 ·have e:(rdD Aa Ab Ad 8).ok=true:=by simpa using e
  have e2:=qc e2;rw[qe (by rw[e];simpa using e2)];exact⟨rfl,rfl,rfl,rfl⟩
noncomputable def k6x:Con TB.den:= .g (gk 175 [.one (.ptr 0 0)] yB1 (.one (.agg [zqu,zqu,zqu,zqu]))) yI1 [.st 15,.sl yqb,yqi,.bool] [true,false,true,true] fun(Aa:List Int) (Ab:Int) (Ad:Bool)=>(RdOk Aa Ab,((rdNt Aa Ab Ad).n:wh),Aa,((rdNt Aa Ab Ad).pos:Int),((rdNt Aa Ab Ad).f:Bool),())
theorem k7s:k6x.Ok Tryz.prog TB:=prv Bs Tryz.func175 .no (k6w.c c0) (Q:=∀(Aa:List Int) (Ab:Int) (Ad:Bool),(RdOk Aa Ab)->∀r0:wh,((rdNt Aa Ab Ad).n)=r0->∀At:List Int,Aa=At->∀Aq:Int,((rdNt Aa Ab Ad).pos)=Aq->∀As:Bool,((rdNt Aa Ab Ad).f)=As-> 
(RdOk Aa Ab)/\∀(r4 r5:Int) (r6:Bool),(r4=((rdU Aa Ab Ad (4294967295:Int)).n)/\r5=((rdU Aa Ab Ad (4294967295:Int)).pos)/\r6=((rdU Aa Ab Ad (4294967295:Int)).fail))->(RdOk Aa r5)/\∀(r10 r11:Int) (r12:Bool),(r10=((rdU Aa r5 r6 (18446744069414584320:Int)).n)/\r11=((rdU Aa r5 r6 (18446744069414584320:Int)).pos)/\r12=((rdU Aa r5 r6 (18446744069414584320:Int)).fail))->(RdOk Aa r11)/\∀(r16 r17:Int) (r18:Bool),(r16=((rdU Aa r11 r12 (18446744069414584320:Int)).n)/\r17=((rdU Aa r11 r12 (18446744069414584320:Int)).pos)/\r18=((rdU Aa r11 r12 (18446744069414584320:Int)).fail))->(RdOk Aa r17)/\∀(r22 r23:Int) (r24:Bool),(r22=((rdU Aa r17 r18 (18446744069414584320:Int)).n)/\r23=((rdU Aa r17 r18 (18446744069414584320:Int)).pos)/\r24=((rdU Aa r17 r18 (18446744069414584320:Int)).fail))->r4=r0.Value/\r10=r0.wAX/\r16=r0.Rho/\r22=r0.wAc/\Aa=At/\r23=Aq/\r24=As)<|by rintro Aa Ab Ad h _ rfl _ rfl _ rfl _ rfl;refine⟨h,?_⟩;rintro _ _ _ ⟨rfl,rfl,rfl⟩;refine⟨rdU_ok h,?_⟩;rintro _ _ _ ⟨rfl,rfl,rfl⟩;refine⟨rdU_ok (rdU_ok h),?_⟩;rintro _ _ _ ⟨rfl,rfl,rfl⟩;refine⟨rdU_ok (rdU_ok (rdU_ok h)),?_⟩;rintro _ _ _ ⟨rfl,rfl,rfl⟩;exact⟨rfl,rfl,rfl,rfl,rfl,rfl,rfl⟩
noncomputable def ki1:Con TB.den:= .gp 104 [.sl yqb,yqi] [.sl yqb] [] fun(p0:List Int) (p1:Int)=>(0<=p1/\p0.length+p1<=140737488355328,p0,())
theorem kiv:ki1.Ok Tryz.prog TB:=qrv Bs Tryz.func104 (.r 3 (.rt [.frz 0 [4]])) c0 (Q:=∀(p0:List Int) (p1:Int),(0<=p1/\p0.length+p1<=140737488355328)->∀r0:List Int,p0=r0-> 
 let v1:Int:=i64.wrap ((p0.length:Int)+p1)
 0<=(p0.length:Int)/\(p0.length:Int)<=v1/\(v1.toNat*1<=140737488355328)/\(v1.toNat<=maxLen)/\(p0.length:Int).toNat=(List.replicate ((p0.length:Int).toNat) (0:Int)).length/\let v2:Int:=((min p0.length (List.replicate ((p0.length:Int).toNat) (0:Int)).length:Nat):Int)
((p0.length:Int).toNat=(rowOver (List.replicate ((p0.length:Int).toNat) (0:Int)) p0 (List.replicate ((p0.length:Int).toNat) (0:Int)).length).length)/\rowOver (List.replicate ((p0.length:Int).toNat) (0:Int)) p0 (List.replicate ((p0.length:Int).toNat) (0:Int)).length=r0)<|by rintro p0 p1 h _ rfl;obtain⟨h1,h2⟩:=h;refine ?_;rw[wi _ qqo qqo];have e:rowOver (List.replicate ((p0.length:Int).toNat) (0:Int)) p0 (List.replicate ((p0.length:Int).toNat) (0:Int)).length=p0:=kbc _ _ qqs;simp only[e];exact⟨by omega,by omega,by omega,by unfold maxLen;omega,by simp,by omega,by trivial⟩
noncomputable def k99:Con TB.den:= .g ⟨173,[.one (.d (.sl yqb))],[],(.one (.one (.ptr 0 0))),yB1,false⟩ [.sl yqb] yI1 [] fun(p0:List Int)=>(p0.length<=137438953472,p0,(0:Int),false,())
theorem kas:k99.Ok Tryz.prog TB:=prv Bs Tryz.func173 .no (kiv.c c0) (Q:=∀(p0:List Int),(p0.length<=137438953472)->∀At:List Int,p0=At->∀Aq:Int,(0:Int)=Aq->∀As:Bool,(false:Bool)=As-> 
(0<=(0:Int)/\p0.length+(0:Int)<=140737488355328)/\p0=At/\0=Aq/\false=As)<|by rintro p0 h _ rfl _ rfl _ rfl;exact⟨⟨by omega,by omega⟩,rfl,rfl,rfl⟩
noncomputable def k8s:Con TB.den:= .gp 118 [.sl yqb] [.st 16,yqi] [true,true] fun(p0:List Int)=>(By p0/\p0.length<=137438953472,((decW p0).1:wt),((decW p0).2:Int),())
abbrev Fz7 (r:Type):=Int->Int->(List Int)->Int->Bool->(List wv)->(List wh)->r
theorem k9q:k8s.Ok Tryz.prog TB:=qrv Bs Tryz.func118 (.r 2 (.nd [] (.r 0 (.lp [.tokc 2 0 (.st 14),.tokc 2 1 (.st 15)] ⟨[2,1,3,4],yV,[10],[.one (zqi)],[]⟩ .no)) [] (.nd [] (.r 0 (.lp [] ⟨[2,1,3,4],yV,[34],[.one (zqi)],[]⟩ .no)) [] .no))) (kas.c (k8f.c (k7s.c (k6w.c (kfr.c (kg2.c c0)))))) (Q:=∀(p0:List Int),(By p0/\p0.length<=137438953472)->∀r0:wt,((decW p0).1)=r0->∀r1:Int,((decW p0).2)=r1-> 
(p0.length<=137438953472)/\(RdOk p0 (0:Int))/\∀(r49 r50:Int) (r51:Bool),(r49=((rdI p0 (0:Int) false (4:Int)).n)/\r50=((rdI p0 (0:Int) false (4:Int)).pos)/\r51=((rdI p0 (0:Int) false (4:Int)).fail))->(([]:List wh)=([]:List wh))/\(([]:List wv)=([]:List wv))/\∃(I1:Fz7 Prop) (M1:Fz7 Nat),I1 0 0 p0 r50 r51 ([]:List wv) ([]:List wh)/\∀b1 f1 i1 k1 l1 m1 n1,(I1 b1 f1 i1 k1 l1 m1 n1->
(decide (b1<r49)=true->
(RdOk i1 k1)/\∀(r70:wh) (r71:Int) (r72:Bool),(r70=((rdNt i1 k1 l1).n)/\r71=((rdNt i1 k1 l1).pos)/\r72=((rdNt i1 k1 l1).f))->(RdOk i1 r71)/\∀(r73 r74:Int) (r75:Bool),(r73=((rdU i1 r71 r72 (18446744069414584320:Int)).n)/\r74=((rdU i1 r71 r72 (18446744069414584320:Int)).pos)/\r75=((rdU i1 r71 r72 (18446744069414584320:Int)).fail))->(RdOk i1 r74)/\∀(r76 r77:Int) (r78:Bool),(r76=((rdI i1 r74 r75 (3:Int)).n)/\r77=((rdI i1 r74 r75 (3:Int)).pos)/\r78=((rdI i1 r74 r75 (3:Int)).fail))->(RdOk i1 r77)/\∀(r79 r80:Int) (r81:Bool),(r79=((rdI i1 r77 r78 (4095:Int)).n)/\r80=((rdI i1 r77 r78 (4095:Int)).pos)/\r81=((rdI i1 r77 r78 (4095:Int)).fail))->(RdOk i1 r80/\(0<=(12:Int)/\(12:Int)<=4096))/\∀(r82:List Int) (r83:Int) (r84:Bool),(r82=((rdL i1 r80 r81 (12:Int) (18446744069414584321:Int)).l)/\r83=((rdL i1 r80 r81 (12:Int) (18446744069414584321:Int)).pos)/\r84=((rdL i1 r80 r81 (12:Int) (18446744069414584321:Int)).fail))->(RdOk i1 r83)/\∀(r85 r86:Int) (r87:Bool),(r85=((rdI i1 r83 r84 (1:Int)).n)/\r86=((rdI i1 r83 r84 (1:Int)).pos)/\r87=((rdI i1 r83 r84 (1:Int)).fail))->let v88:List wv:=[wv.mk r70.Value r70.wAX r70.Rho r70.wAc r73 r76 r79 r82 (r85==1)]
 lz m1/\(m1.length+v88.length)*88<=140737488355328/\m1.length+v88.length<=maxLen/\(n1=n1)/\(m1++v88=m1++v88)/\I1 (i64.wrap (b1+1)) f1 i1 r86 r87 (m1++v88) n1/\M1 (i64.wrap (b1+1)) f1 i1 r86 r87 (m1++v88) n1<M1 b1 f1 i1 k1 l1 m1 n1)/\
(decide (b1<r49)=false->
(RdOk i1 k1)/\∀(r106 r107:Int) (r108:Bool),(r106=((rdI i1 k1 l1 (4:Int)).n)/\r107=((rdI i1 k1 l1 (4:Int)).pos)/\r108=((rdI i1 k1 l1 (4:Int)).fail))->(n1=n1)/\(m1=m1)/\∃(I2:Fz7 Prop) (M2:Fz7 Nat),I2 0 f1 i1 r107 r108 m1 n1/\∀o1 q1 s1 t1 u1 x1 y1,(I2 o1 q1 s1 t1 u1 x1 y1->
(decide (o1<r106)=true->
(RdOk s1 t1)/\∀(r112:wh) (r113:Int) (r114:Bool),(r112=((rdNt s1 t1 u1).n)/\r113=((rdNt s1 t1 u1).pos)/\r114=((rdNt s1 t1 u1).f))->lz y1/\(y1.length+[r112].length)*32<=140737488355328/\y1.length+[r112].length<=maxLen/\(y1++[r112]=y1++[r112])/\(x1=x1)/\I2 (i64.wrap (o1+1)) q1 s1 r113 r114 x1 (y1++[r112])/\M2 (i64.wrap (o1+1)) q1 s1 r113 r114 x1 (y1++[r112])<M2 o1 q1 s1 t1 u1 x1 y1)/\
(decide (o1<r106)=false->
(RdOk s1 t1)/\∀(r118 r119:Int) (r120:Bool),(r118=((rdU s1 t1 u1 (18446744069414584320:Int)).n)/\r119=((rdU s1 t1 u1 (18446744069414584320:Int)).pos)/\r120=((rdU s1 t1 u1 (18446744069414584320:Int)).fail))->((!(!r120&&r119==(s1.length:Int)))=true->
([]:List wv)=r0.Ins/\([]:List wh)=r0.wE/\0=r0.wAL/\2=r1)/\
((!(!r120&&r119==(s1.length:Int)))=false->
 x1=r0.Ins/\y1=r0.wE/\r118=r0.wAL/\0=r1))))))<|by
 rintro p0 h _ rfl _ rfl;obtain⟨hb,hl⟩:=h;have h0:RdOk p0 0:=⟨hb,hl,by omega,by(first|omega|(dsimp only;omega))⟩;refine⟨hl,h0,?_⟩;rintro _ _ _ ⟨rfl,rfl,rfl⟩;have hC:=rdI_ok (m:=4) (f:=false) h0;have nC:=rdI_n (m:=4) (f:=false) h0 qqo;have zC:=rdI_pz (m:=4) (f:=false) h0 qqo;generalize rdI p0 0 false 4=C at *
 refine⟨rfl,rfl,?_⟩;refine⟨(fun i sec l pos f g o=>(p0=l/\sec=0/\([]:List wh)=o)/\0<=i/\i<=C.n/\RdOk p0 pos/\(g.length:Int)=i/\Pz (fun l:List wv=>l.flatMap encSp) (Gl (GS limW) i.toNat) (p0.drop C.pos.toNat) C.fail g (p0.drop pos.toNat) f),(fun i _ _ _ _ _ _=>(C.n-i).toNat),⟨⟨rfl,rfl,rfl⟩,by omega,nC.1,hC,rfl,Pz.nil⟩,?_⟩;rintro i _ _ pos f g _ ⟨⟨rfl,rfl,rfl⟩,g0,g1,hp,g2,gz⟩;refine⟨fun hh=> ?_,fun hh=> ?_⟩
 ·have hh:=qb hh;refine⟨hp,?_⟩;rintro _ _ _ ⟨rfl,rfl,rfl⟩;have o1:=rdNt_ok (f:=f) hp;have z1:=rdNt_pz (f:=f) hp;generalize rdNt p0 pos f=A1 at *
  refine⟨o1,?_⟩;rintro _ _ _ ⟨rfl,rfl,rfl⟩;have o2:=rdU_ok (m:=18446744069414584320) (f:=A1.f) o1;have z2:=rdU_pz (m:=18446744069414584320) (f:=A1.f) o1;generalize rdU p0 A1.pos A1.f 18446744069414584320=A2 at *
  refine⟨o2,?_⟩;rintro _ _ _ ⟨rfl,rfl,rfl⟩;have o3:=rdI_ok (m:=3) (f:=A2.fail) o2;have z3:=rdI_pz (m:=3) (f:=A2.fail) o2 qqo;generalize rdI p0 A2.pos A2.fail 3=A3 at *
  refine⟨o3,?_⟩;rintro _ _ _ ⟨rfl,rfl,rfl⟩;have o4:=rdI_ok (m:=4095) (f:=A3.fail) o3;have z4:=rdI_pz (m:=4095) (f:=A3.fail) o3 qqo;generalize rdI p0 A3.pos A3.fail 4095=A4 at *
  refine⟨⟨o4,by omega,by omega⟩,?_⟩;rintro _ _ _ ⟨rfl,rfl,rfl⟩;have o5:=rdL_ok (m:=12) (p:=18446744069414584321) (f:=A4.fail) o4 qqo;have z5:=rdL_pz (m:=12) (p:=18446744069414584321) (f:=A4.fail) o4 qqo;generalize rdL p0 A4.pos A4.fail 12 18446744069414584321=A5 at *
  refine⟨o5,?_⟩;rintro _ _ _ ⟨rfl,rfl,rfl⟩;have o6:=rdI_ok (m:=1) (f:=A5.fail) o5;have z6:=rdI_pz (m:=1) (f:=A5.fail) o5 qqo;generalize rdI p0 A5.pos A5.fail 1=A6 at *
  have zz:=koj (L:=limW) z1 z2 z3 z4 z5 z6;rw[inc i C.n g0 hh qqo];refine⟨rfl,by simp;omega,by simp;unfold maxLen;omega,rfl,rfl,⟨⟨rfl,rfl,rfl⟩,by omega,by omega,o6,by simp;omega,?_⟩,by(dsimp only;omega)⟩;rw[show(i+1).toNat=i.toNat+1 by omega];exact gz.snoc zz
 ·have hh:=qc hh;have hi:i=C.n:=by omega
  subst hi;have zI:=Pz.list zC gz;refine⟨hp,?_⟩;rintro _ _ _ ⟨rfl,rfl,rfl⟩;have hD:=rdI_ok (m:=4) (f:=f) hp;have nD:=rdI_n (m:=4) (f:=f) hp qqo;have zD:=rdI_pz (m:=4) (f:=f) hp qqo;generalize rdI p0 pos f 4=D at *
  refine⟨rfl,rfl,?_⟩;refine⟨(fun i sec l pos' f' gg g' =>(p0=l/\sec=0/\g=gg)/\0<=i/\i<=D.n/\RdOk p0 pos'/\(g'.length:Int)=i/\Pz (fun l:List wh=>l.flatMap encN) (Gl (GN limW) i.toNat) (p0.drop D.pos.toNat) D.fail g' (p0.drop pos'.toNat) f'),(fun i _ _ _ _ _ _=>(D.n-i).toNat),⟨⟨rfl,rfl,rfl⟩,by omega,nD.1,hD,rfl,Pz.nil⟩,?_⟩;rintro i _ _ pos' f' _ g' ⟨⟨rfl,rfl,rfl⟩,g0',g1',hp',g2',gz'⟩;refine⟨fun hh=> ?_,fun hh=> ?_⟩
  ·have hh:=qb hh;refine⟨hp',?_⟩;rintro _ _ _ ⟨rfl,rfl,rfl⟩;have o1:=rdNt_ok (f:=f') hp';have z1:=rdNt_pz (f:=f') hp';generalize rdNt p0 pos' f' =A1 at *
   rw[inc i D.n g0' hh qqo];refine⟨rfl,by simp;omega,by simp;unfold maxLen;omega,rfl,rfl,⟨⟨rfl,rfl,rfl⟩,by omega,by omega,o1,by simp;omega,?_⟩,by(dsimp only;omega)⟩;rw[show(i+1).toNat=i.toNat+1 by omega];exact gz'.snoc z1
  ·have hh:=qc hh;have hi:i=D.n:=by omega
   subst hi;have zO:=Pz.list zD gz';refine⟨hp',?_⟩;rintro _ _ _ ⟨rfl,rfl,rfl⟩;have hS:=rdU_ok (m:=18446744069414584320) (f:=f') hp';have zS:=rdU_pz (m:=18446744069414584320) (f:=f') hp';generalize rdU p0 pos' f' 18446744069414584320=X at *
   obtain⟨snd,cpl⟩:=pz_wit (L:=limW) zI zO zS;refine⟨fun e=> ?_,fun e=> ?_⟩
   ·rw[decW_no]
    ·exact⟨rfl,rfl,rfl,rfl⟩
    intro u hu;obtain⟨c1,c2,c3⟩:=cpl u hu;obtain⟨_,_,q3,q4⟩:=hS;have:=List.drop_eq_nil_iff.1 c2;have e4:X.pos=(p0.length:Int):=by omega
    rw[c1,e4]at e;simp at e
   ·have e:X.fail=false/\X.pos=(p0.length:Int):=by simpa using e
    obtain⟨s1,s2⟩:=snd e.1 (qbp qqo)
    have hE:EW ⟨g,g',X.n⟩ p0:=by
     refine⟨s2.wq,k83.2 ⟨?_,?_,?_,fun x hx=>(s2.1.2 x hx).spendV,fun x hx=>(s2.2.1.2 x hx).noteV⟩,s1⟩
     ·have:=s2.1.1.2.2;show g.length<=4;omega
     ·have:=s2.2.1.1.2.2;show g'.length<=4;omega
     ·have:X.n<=18446744069414584320:=s2.2.2.2;show X.n<_;omega
    rw[koi hE fun u hu=>(cpl u hu).2.2];exact⟨rfl,rfl,rfl,rfl⟩
noncomputable def k70:Con TB.den:= .g (gk 92 [.one (.ptr 0 0),.agg yC1,.agg yZ,.one (.d (.sl yqb))] yM (.one (.one (.d (.bool))))) [.st 0,.st 13,.sl yqb,.bool,yqu,yqi,.sl (.st 4),.sl (.str),.sl yqi,.sl (.str),.sl (.sl yqu),.sl (.str),.sl (.bool)] yR [] fun(p1:wB) (p2:wx) (p3:List Int) (Aa:Bool) (Ab Ad:Int) (Af:List wH) (w1k:List ByteArray) (w1v:List Int) (w2k:List ByteArray) (w2v:List (List Int)) (w3k:List ByteArray) (w3v:List Bool)=>(p1.wX=2/\By p3/\p3.length<=137438953472/\SR p2/\Aa=false/\w1k=([]:List ByteArray)/\w1v=([]:List Int),(((decW p3).2==0&&checkS pkR p2 (decW p3).1==0):Bool),Aa,Ab,Ad,Af,w1k,w1v,w2k,w2v,w3k,w3v,())
theorem k8r:k70.Ok Tryz.prog TB:=prv Bs Tryz.func92 .no (k9q.c (kb2.c c0)) (Q:=∀(p1:wB) (p2:wx) (p3:List Int) (Aa:Bool) (Ab Ad:Int) (Af:List wH) (w1k:List ByteArray) (w1v:List Int) (w2k:List ByteArray) (w2v:List (List Int)) (w3k:List ByteArray) (w3v:List Bool),(p1.wX=2/\By p3/\p3.length<=137438953472/\SR p2/\Aa=false/\w1k=([]:List ByteArray)/\w1v=([]:List Int))->∀r0:Bool,((decW p3).2==0&&checkS pkR p2 (decW p3).1==0)=r0->∀At:Bool,Aa=At->∀Aq:Int,Ab=Aq->∀As:Int,Ad=As->∀Au:List wH,Af=Au->∀e1k:List ByteArray,w1k=e1k->∀e1v:List Int,w1v=e1v->∀e2k:List ByteArray,w2k=e2k->∀e2v:List (List Int),w2v=e2v->∀e3k:List ByteArray,w3k=e3k->∀e3v:List Bool,w3v=e3v-> 
((p1.wX==1)=true->
 False)/\
((p1.wX==1)=false->
((p1.wX==2)=true->
(By p3/\p3.length<=137438953472)/\∀(r7:wt) (r8:Int),(r7=((decW p3).1)/\r8=((decW p3).2))->((r8==0)=true->
(SR p2/\WR r7/\OrOk w1k w1v Af/\(∀l a,(pk Aa Af w1k w1v) l a=none∨∃n,(pk Aa Af w1k w1v) l a=some n/\U64 n))/\let v9:Bool:=((checkS (pk Aa Af w1k w1v) p2 r7)==0)
 v9=r0/\Aa=At/\Ab=Aq/\Ad=As/\Af=Au/\w1k=e1k/\w1v=e1v/\w2k=e2k/\w2v=e2v/\w3k=e3k/\w3v=e3v)/\
((r8==0)=false->
 false=r0/\Aa=At/\Ab=Aq/\Ad=As/\Af=Au/\w1k=e1k/\w1v=e1v/\w2k=e2k/\w2v=e2v/\w3k=e3k/\w3v=e3v))/\
((p1.wX==2)=false->
 False)))<|by
 rintro p1 p2 p3 Aa Ab Ad Af w1k w1v w2k w2v w3k w3v h _ rfl _ rfl _ rfl _ rfl _ rfl _ rfl _ rfl _ rfl _ rfl _ rfl _ rfl;obtain⟨hm,hb,hl,hs,rfl,rfl,rfl⟩:=h;have hp:pk false Af [] []=pkR:=by funext l a;exact pk_real _ _ _
 refine⟨fun e=> ?_,fun _=>⟨fun _=>⟨⟨hb,hl⟩,?_⟩,fun e=> ?_⟩⟩
 ·rw[hm]at e;cases e
 ·rintro _ _ ⟨rfl,rfl⟩;refine⟨fun e=>⟨⟨hs,kq2 e,orOk_q _,fun l a=>by rw[hp];exact pkR_u⟩,?_⟩,fun e=> ?_⟩
  ·rw[e,hp];exact(by repeat' first|apply qaa|exact rfl|exact qq)
  ·rw[e];exact(by repeat' first|apply qaa|exact rfl|exact qq)
 ·rw[hm]at e;cases e
noncomputable def kaq:Con TB.den:= .g (gk 47 [.one (.ptr 0 0),.agg yC1,.agg yX] yM (.one (.one (zqi)))) [.st 0,.st 2,.bool,yqu,yqi,.sl (.st 4),.sl (.str),.sl yqi,.sl (.str),.sl (.sl yqu),.sl (.str),.sl (.bool)] yT [] fun(p1:wB) (p2:wa) (Aa:Bool) (Ab Ad:Int) (Af:List wH) (w1k:List ByteArray) (w1v:List Int) (w2k:List ByteArray) (w2v:List (List Int)) (w3k:List ByteArray) (w3v:List Bool)=>((p1.wX=2/\TR p2/\p2.ww.length<=137438953472)/\Aa=false/\w1k=([]:List ByteArray)/\w1v=([]:List Int),(txE p1 p2:Int),Aa,Ab,Ad,Af,w1k,w1v,w2k,w2v,w3k,w3v,())
theorem kbw:kaq.Ok Tryz.prog TB:=prv Bs Tryz.func47 .no (k1h.c (k2a.c (k1k.c (keo.c (k8r.c c0))))) (Q:=∀(p1:wB) (p2:wa) (Aa:Bool) (Ab Ad:Int) (Af:List wH) (w1k:List ByteArray) (w1v:List Int) (w2k:List ByteArray) (w2v:List (List Int)) (w3k:List ByteArray) (w3v:List Bool),((p1.wX=2/\TR p2/\p2.ww.length<=137438953472)/\Aa=false/\w1k=([]:List ByteArray)/\w1v=([]:List Int))->∀r0:Int,txE p1 p2=r0->∀At:Bool,Aa=At->∀Aq:Int,Ab=Aq->∀As:Int,Ad=As->∀Au:List wH,Af=Au->∀e1k:List ByteArray,w1k=e1k->∀e1v:List Int,w1v=e1v->∀e2k:List ByteArray,w2k=e2k->∀e2v:List (List Int),w2v=e2v->∀e3k:List ByteArray,w3k=e3k->∀e3v:List Bool,w3v=e3v-> 
(((rulesE p1) !=0)=true->
(rulesE p1)=r0/\Aa=At/\Ab=Aq/\Ad=As/\Af=Au/\w1k=e1k/\w1v=e1v/\w2k=e2k/\w2v=e2v/\w3k=e3k/\w3v=e3v)/\
(((rulesE p1) !=0)=false->
((!(Aa==(p1.wX==3)))=true->
 1=r0/\Aa=At/\Ab=Aq/\Ad=As/\Af=Au/\w1k=e1k/\w1v=e1v/\w2k=e2k/\w2v=e2v/\w3k=e3k/\w3v=e3v)/\
((!(Aa==(p1.wX==3)))=false->
(((validE p2) !=0)=true->
(validE p2)=r0/\Aa=At/\Ab=Aq/\Ad=As/\Af=Au/\w1k=e1k/\w1v=e1v/\w2k=e2k/\w2v=e2v/\w3k=e3k/\w3v=e3v)/\
(((validE p2) !=0)=false->
(TR p2/\-9223372036854775808<=p1.wC/\p1.wC<=9223372036854775807)/\(p1.wX=2/\By p2.ww/\p2.ww.length<=137438953472/\SR (stmtS p2 p1.wC)/\Aa=false/\w1k=([]:List ByteArray)/\w1v=([]:List Int))/\let r1:Bool:=((decW p2.ww).2==0&&checkS pkR (stmtS p2 p1.wC) (decW p2.ww).1==0)
((!r1)=true->
 10=r0/\Aa=At/\Ab=Aq/\Ad=As/\Af=Au/\w1k=e1k/\w1v=e1v/\w2k=e2k/\w2v=e2v/\w3k=e3k/\w3v=e3v)/\
((!r1)=false->
 0=r0/\Aa=At/\Ab=Aq/\Ad=As/\Af=Au/\w1k=e1k/\w1v=e1v/\w2k=e2k/\w2v=e2v/\w3k=e3k/\w3v=e3v)))))<|by
 rintro p1 p2 Aa Ab Ad Af w1k w1v w2k w2v w3k w3v h _ rfl _ rfl _ rfl _ rfl _ rfl _ rfl _ rfl _ rfl _ rfl _ rfl _ rfl;obtain⟨⟨hm,ht,hpl⟩,rfl,rfl,rfl⟩:=h;unfold txE;refine⟨fun e=> ?_,fun e=> ?_⟩
 ·rw[qh (by simpa using e)];exact(by repeat' first|apply qaa|exact rfl|exact qq)
 ·have e:rulesE p1=0:=by simpa using e
  have hb:=kbu e;simp only[rulesB,qg,qaf]at hb;rw[qe (fun hh=>hh e)];refine⟨fun e2=> ?_,fun _=>⟨fun e3=> ?_,fun e3=> ?_⟩⟩
  ·rw[hm]at e2;cases e2
  ·rw[qh (by simpa using e3)];exact(by repeat' first|apply qaa|exact rfl|exact qq)
  ·have e3:validE p2=0:=by simpa using e3
   rw[qe (fun hh=>hh e3)];refine⟨⟨ht,by omega,by omega⟩,⟨hm,ht.p,hpl,kq9 ht qqo,rfl,rfl,rfl⟩,fun e4=> ?_,fun e4=> ?_⟩
   ·have e4:(!accT p1 p2)=true:=e4;have e4:accT p1 p2=false:=by simpa using e4
    rw[qh e4];exact(by repeat' first|apply qaa|exact rfl|exact qq)
   ·have e4:(!accT p1 p2)=false:=e4;have e4:accT p1 p2=true:=by simpa using e4
    rw[qe (by rw[e4];simp)];exact(by repeat' first|apply qaa|exact rfl|exact qq)
end Go.Proofs.YtcghahkoioeddaaGreatDoor
end
