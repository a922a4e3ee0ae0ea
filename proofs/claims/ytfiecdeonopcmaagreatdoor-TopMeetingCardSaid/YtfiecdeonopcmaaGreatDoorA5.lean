/- Parts of the proofs, merged by a program. -/
import Derived.Test.YtfiecdeonopcmaaGreatDoorA4
set_option maxRecDepth 100000
set_option linter.all false
noncomputable section
namespace Go.Proofs.YtfiecdeonopcmaaGreatDoor
open Go Go.Bv Go.Cv Go.Md Go.RowKit
open Go.IntKind(i64 u64)
def kdc:Ct:=.gp 99 [yqu,yqu] [yqu] [] λ(B F:Int)=>(U64 B/\U64 F,hashS 6 [B,F],())
theorem k2a:kdc.O:=qrv Bs Tryz.func99 .no (k1c.c c0) (Q:=∀B F,U64 B/\U64 F->∀r0,hashS 6 [B,F]=r0->((18446744069414584321:Int)=18446744069414584321/\U64 6/\Us [B,F]/\[B,F].length<=1099511627776)/\hashS 6 [B,F]=r0)<|by
 rintro B F h _ rfl;refine⟨⟨rfl,by decide,?_,by simp⟩,rfl⟩;intro x J;simp at J;rcases J with rfl|rfl;.exact h.1
 .exact h.2
def kfd:Ct:=.g ⟨77,[oe],[],.one oh,[.vec yqu],false⟩ [oq] [oq] [] λ(B:Li)=>(B.length<=4294967295,B,())
theorem k71:kfd.O:=prx Bs [5,7] Tryz.func77 (rA 0 (rA 0 (.r 0 (.rt [.rnil 2 yqu])))) x0 c0 (Q:=∀B,B.length<=4294967295->∀e0,B=e0->∀z4,(z4=true->B=[])->iT z4 (0=([]:Li).length/\[]=e0) (iL [] B 8 (lz ([]++B)/\([]:Li)++B=e0)))<|by rintro B h _ rfl;exactλz F=>⟨λh=>⟨rfl,(F h).symm⟩,λh=>⟨rfl,by simp;omega,by simp;unfold maxLen;omega,rfl,rfl⟩⟩
def kae:Ct:=.gp 170 [.st 9,yqu] [.st 9,yqi] [] λ(B:wI)(F:Int)=>(FV B/\B.wAF<(2^B.wH.toNat:Nat)/\0<=F/\F<18446744069414584321,apF B F,(0:Int),())
theorem kaj:kae.O:=qrv Bs Tryz.func170 (.r 0 (.nd [] (oC 15) [] (.r 2 (.nd [] (.lp [] ⟨[98],[.vec yqu],[7,8],[oa,ou],[]⟩ .no) [] (.r 1 (.rt [.frzc 98 1 2])))))) (k51.c (k71.c (k2a.c c0))) (Q:=∀B J,FV B/\B.wAF<((2^B.wH.toNat:Nat):Int)/\0<=J/\J<18446744069414584321->∀r0:wI,apF B J=r0->∀r1:Int,(0:Int)=r1->∀Z:oE,(∀(b1:Bool),iT b1 (0=r0.wH/\0=r0.wAF/\([]:Li)=r0.wAJ/\1=r1) (0<=B.wH/\iT (B.wAF==ishl .i64 1 B.wH) (0=r0.wH/\0=r0.wAF/\([]:Li)=r0.wAJ/\16=r1) (B.wAJ.length<=4294967295/\∃(I1:oK)(M1:oO),I1 0 J B.wAJ/\∀f1 i1 k1,I1 f1 i1 k1->0<=f1/\let v2:Bool:=iand .i64 (ishr .i64 B.wAF f1) 1==1
iT v2 (iS f1 B.wAJ.length (iS f1 k1.length ((U64 (ix k1 f1)/\U64 i1)/\iS f1 B.wAJ.length (iS f1 k1.length (ss3 I1 M1 f1 (i64.wrap (f1+1)) i1 (hashS 6 [ix k1 f1,i1]) k1 (k1.set f1.toNat 0)))))) (iS f1 B.wAJ.length (iS f1 k1.length (B.wAJ.length=(k1.set f1.toNat i1).length/\B.wH=r0.wH/\i64.wrap (B.wAF+1)=r0.wAF/\k1.set f1.toNat i1=r0.wAJ/\0=r1)))))->Z b1)->FV B/\iT (!true) (Z true) (Z (decide (18446744069414584321<=J))))<|by
 rintro B J h _ rfl _ rfl;obtain⟨hv,hc,aa,ab⟩:=h;obtain⟨d1,d2,c0,c1,ll,u,z⟩:=id hv;obtain⟨d,hd⟩:=qm (show 0<=B.wH by omega);obtain⟨n,hn⟩:=qm c0;have U:B.wH.toNat=d:=by omega
 have hp:=pow12 d qqo;rw[U]at c1 ll hc;have ac:n<2^d:=by omega
 have ad:=ksl ac;refineλZ j=>⟨hv,λe=>(by cases e),λ_=>?_⟩;refine j _ ⟨λe=>by have:=qc e;omega,λ_=>⟨by omega,?_⟩⟩;rw[hd,shl1 d qqo,hn];have ae:¬(n:Int)=((2^d:Nat):Int):=by omega
 refine⟨λe=>(ae (by simpa using e)).elim,λ_=>⟨by omega,?_⟩⟩;refine⟨λa x g=>∃i:Nat,a=(i:Int)/\i<=d/\g.length=d+1/\(∀y∈g,0<=y/\y<18446744069414584321)/\(0<=x/\x<18446744069414584321)/\carry (d+1-i) i g x n=carry (d+1) 0 B.wAJ J n,λa _ _=>(d-a).toNat,⟨0,rfl,by omega,ll,u,⟨aa,ab⟩,rfl⟩,?_⟩;rintro _ x g⟨i,rfl,hi,ag,X,hx,F⟩;have hs:i<g.length:=by omega
 have ah:=X _ (qz hs);generalize hR:carry (d+1) 0 B.wAJ J n=R at F;rw[show d+1-i=d-i+1 by omega]at F;unfold carry at F;have M:=bit1 n i qqo qqo;refine⟨by omega,λe=>?_,λe=>?_⟩
 .have e2:((n/2^i%2:Nat):Int)=1:=by rw[M]at e;simpa using e
  have Y:bitN n i=true:=by unfold bitN;generalize n/2^i%2=q at*;simp;omega
  have ai:i<d:=by
   rcases qaw i d with h1|h1;.exact h1
   .have:i=d:=by omega
    subst this;rw[ad]at Y;cases Y
  rw[qg Y]at F;rw[inc_i64 _ qqo,qv];refine⟨⟨by omega,by omega⟩,⟨by omega,by omega⟩,?_,⟨by omega,by omega⟩,⟨by omega,by omega⟩,⟨i+1,rfl,by omega,by simp[ag],?_,⟨(kx _ _).1,k49 _ _⟩,?_⟩,by(dsimp only;omega)⟩;.rw[ix_get _ _ hs];exact⟨⟨ah.1,by omega⟩,hx.1,by omega⟩
  .intro y hy;rcases List.mem_or_eq_of_mem_set hy with hy|rfl;.exact X y hy
   .decide
  .rw[show d+1-(i+1)=d-i by omega];exact F
 .have e2:¬((n/2^i%2:Nat):Int)=1:=by rw[M]at e;simpa using e
  have Y:¬bitN n i=true:=by unfold bitN;generalize n/2^i%2=q at*;simp;omega
  rw[qe Y]at F;rw[qv];refine⟨⟨by omega,by omega⟩,⟨by omega,by omega⟩,by simp;omega,hd.symm,?_,?_,by first|exact rfl|exact qo⟩;.rw[inc_i64 _ qqo];show _=B.wAF+1;omega
  .show _=carry (B.wH.toNat+1) 0 B.wAJ J B.wAF.toNat;rw[U,hn,qv,hR];exact F
def kbb:Ct:=.gp 172 [yqu,yqu] [.bool] [] λ(B F:Int)=>(0<=B/\B<=9223372036854775807,decide (9223372036854775807-B<F),())
theorem kd1:kbb.O:=qrv Bs Tryz.func172 .no c0 (Q:=∀B F,0<=B/\B<=9223372036854775807->∀r0,decide (9223372036854775807-B<F)=r0->iD (9223372036854775807<B) (true=r0) (let J:=u64.wrap (9223372036854775807-B)
decide (J<F)=r0))<|by
 rintro B F h _ rfl;refine⟨λe=>?_,λe=>?_⟩;.have:=qc e;omega
 .rw[wrap_u64 _ qqo qqo]
def kd3:Ct:=.gp 119 [.st 20,yqu,yqu] [.st 20,yqi] [] λ(B:wAR)(J F:Int)=>(OkA B.wE/\U64 F,wAR.mk (creditA B.wE J F).1,(creditA B.wE J F).2,())
theorem k5i:kd3.O:=qrv Bs Tryz.func119 .no (k9z.c (kd1.c (k9t.c c0))) (Q:=∀(B:wAR)(F J:Int),OkA B.wE/\U64 J->∀r0:wAR,wAR.mk (creditA B.wE F J).1=r0->∀r1:Int,(creditA B.wE F J).2=r1->(Srt B.wE/\B.wE.length<4611686018427387904)/\(0<=(getA B.wE F).wn/\(getA B.wE F).wn<=9223372036854775807)/\let U:Bool:=decide (9223372036854775807-(getA B.wE F).wn<J)
iT U (([]:List wA)=r0.wE/\1=r1) (let X:Int:=u64.wrap ((getA B.wE F).wn+J)
(Srt B.wE/\B.wE.length<=1000)/\let Y:List wA:=putA B.wE (wA.mk F X (getA B.wE F).wK)
Y=r0.wE/\0=r1))<|by
 rintro B F J h _ rfl _ rfl;obtain⟨h,ha,Z⟩:=h;obtain⟨g1,g2⟩:=getA_ok h F;refine⟨⟨h.1,by have:=h.2.1;omega⟩,g1,λM=>?_,λM=>?_⟩;.have:=qc M;simp[creditA,this]
 .have:=qd M;simp only[creditA,qe this];rw[wrap_u64 _ qqo qqo];exact⟨⟨h.1,h.2.1⟩,rfl,by first|exact rfl|exact qo⟩
def ka9:Ct:=.b ⟨118,[oo,.agg yC1,.one (.ptr 1 0)],yE,.one oa,yD,false⟩ [.st 3,yqi,yqi,yqi,yqi,yqi,yqu,yqi,yqi,yqu,yqi,yqi,oq,.sl (.st 12),yqu,yqi,yqi,oq,yqi,.sl (.st 12),yqu,oq,oq,.sl (.st 13),oq,oq,ow] yL λ(J:wh)(M U X Y Z Ak Ag Al Ah Ai Am:Int)(Ae:Li)(Af:List wA)(Ao Ap As:Int)(At:Li)(Au:Int)(Bi:List wA)(Bj:Int)(w2 w4:Li)(w5:List wT)(w6 B:Li)(F:Lo)=>((∃(c:Nat)(f:Int),c<=800/\PI (PS.mk (wF.mk M U X Y Z Ak Ag Al Ah) (wI.mk Ai Am Ae) Af Ao w2 w4 w5 B F) c f)/\TR J/\CK (PS.mk (wF.mk M U X Y Z Ak Ag Al Ah) (wI.mk Ai Am Ae) Af Ao w2 w4 w5 B F) J/\w6.length<=1000000,perfS (PS.mk (wF.mk M U X Y Z Ak Ag Al Ah) (wI.mk Ai Am Ae) Af Ao w2 w4 w5 B F) J,λR=>(R.e,R.s.R.wd,R.s.R.wH,R.s.R.wS,R.s.R.wO,R.s.R.wM,R.s.R.wZ,R.s.R.wt,R.s.R.wW,R.s.R.wU,R.s.F.wH,R.s.F.wAF,R.s.F.wAJ,R.s.b,R.s.n,Ap,As,At,Au,Bi,Bj,R.s.r,R.s.p,w6++J.wC,R.s.k,R.s.v,R.s.l,()))
abbrev k1f(R:PE)(p1:wh)(Ap As:Int)(At:Li)(Au:Int)(Bi:List wA)(Bj:Int)(w6:Li)(o0 o1 o2 o3 o4 o5 o6 o7 o8 o9 B F:Int)(J:Li)(M:List wA)(U X Y:Int)(Z:Li)(aa:Int)(ab:List wA)(ac:Int)(ad:Li)(ae:List wT)(ag ah:Li)(ai:Lo)(aj:Li):Prop:=o0=R.e/\o1=R.s.R.wd/\o2=R.s.R.wH/\o3=R.s.R.wS/\o4=R.s.R.wO/\o5=R.s.R.wM/\o6=R.s.R.wZ/\o7=R.s.R.wt/\o8=R.s.R.wW/\o9=R.s.R.wU/\B=R.s.F.wH/\F=R.s.F.wAF/\J=R.s.F.wAJ/\M=R.s.b/\U=R.s.n/\X=Ap/\Y=As/\Z=At/\aa=Au/\ab=Bi/\ac=Bj/\ad=R.s.r/\ae=R.s.p/\ag=w6++p1.wC/\ah=R.s.k/\ai=R.s.v/\aj=R.s.l
abbrev Fz1(r:Type):=Int->Int->Int->Int->Int->Int->Int->Int->Int->Int->Int->Int->Li->List wA->Int->Li->Lo->List wT->Li->Li->r
theorem kbi:ka9.O:=pbx Bs [33,67,68] Tryz.func118 (.nd [.trimc 0 12] .no [] (.r 1 (.nd [] (lA ⟨[7,5,4,3,0],[.map yqu .bool,.vec (.st 13),.vec yqu,.cells [.mp 0],.cells [zqi,zqi,zqi,zqi,zqi,zqu,zqi,zqi,zqu,zqi,zqi,zql,.row 5,.ptr 3 0,.d (.sl (.st 12)),zqu,.row 2,.row 1],.vec yqu],[39],[oa],[8]⟩ .no) [] (.jn ⟨[0,314,3,4,5,7],yJ,[],[],[]⟩ [] .no [] (.jn ⟨[0,314,3,4,5,7],yJ,[],[],[]⟩ [] .no [] .no))))) x0 (ksx.c (kaj.c (k6y.c (k5i.c c0)))) (Q:=∀B Aa Ab Ad Ac Aj Ak Ag Al Ah M U X Z Ao Ap As At Au Bi Bj(Y w4:Li)(w5:List wT)(J F:Li)(aa:Lo),(∃(c:Nat)(f:Int),c<=800/\PI (PS.mk (wF.mk Aa Ab Ad Ac Aj Ak Ag Al Ah) (wI.mk M U X) Z Ao Y w4 w5 F aa) c f)/\TR B/\CK (PS.mk (wF.mk Aa Ab Ad Ac Aj Ak Ag Al Ah) (wI.mk M U X) Z Ao Y w4 w5 F aa) B/\J.length<=1000000->∀R,perfS (PS.mk (wF.mk Aa Ab Ad Ac Aj Ak Ag Al Ah) (wI.mk M U X) Z Ao Y w4 w5 F aa) B=R->lz Y/\(aa=trs F/\B.wC.length<=1000000)/\iT ((addS B.wC F).1 !=0) (J=J/\lz w5/\lz w4/\lz Y/\k1f R B Ap As At Au Bi Bj J (addS B.wC F).1 Aa Ab Ad Ac Aj Ak Ag Al Ah M U X Z Ao Ap As At Au Bi Bj w4 w5 J (addS B.wC F).2 (trs (addS B.wC F).2) Y) (iL J B.wC 8 (lz w5/\lz w4/\lz Y/\∃(I1:Fz1 Prop)(M1:Fz1 Nat),I1 0 Aa Ab Ad Ac Aj Ak Ag Al Ah M U X Z Ao (addS B.wC F).2 (trs (addS B.wC F).2) w5 w4 Y/\∀b1 f1 i1 k1 l1 m1 n1 o1 q1 s1 t1 u1 x1 y1 b2 f2 i2 k2 l2 m2,I1 b1 f1 i1 k1 l1 m1 n1 o1 q1 s1 t1 u1 x1 y1 b2 f2 i2 k2 l2 m2->iF b1 B.wB.length ((FV (wI.mk t1 u1 x1)/\(wI.mk t1 u1 x1).wAF<((2^(wI.mk t1 u1 x1).wH.toNat:Nat):Int)/\0<=(ix B.wB b1).wl/\(ix B.wB b1).wl<18446744069414584321)/\let r1:=apF (wI.mk t1 u1 x1) (ix B.wB b1).wl
iT ((0:Int)!=0) (J++B.wC=J++B.wC/\lz k2/\lz l2/\lz m2/\k1f R B Ap As At Au Bi Bj J 0 f1 i1 k1 l1 m1 n1 o1 q1 s1 t1 u1 x1 y1 b2 Ap As At Au Bi Bj l2 k2 (J++B.wC) f2 i2 m2) (lz m2/\lz [(ix B.wB b1).wl]/\(m2.length+[(ix B.wB b1).wl].length)*8<=140737488355328/\m2.length+[(ix B.wB b1).wl].length<=maxLen/\lz k2/\lz l2/\lz (m2++[(ix B.wB b1).wl])/\I1 (i64.wrap (b1+1)) f1 i1 k1 l1 m1 n1 o1 q1 s1 r1.wH r1.wAF r1.wAJ y1 b2 f2 i2 k2 l2 (m2++[(ix B.wB b1).wl])/\M1 (i64.wrap (b1+1)) f1 i1 k1 l1 m1 n1 o1 q1 s1 r1.wH r1.wAF r1.wAJ y1 b2 f2 i2 k2 l2 (m2++[(ix B.wB b1).wl])<M1 b1 f1 i1 k1 l1 m1 n1 o1 q1 s1 t1 u1 x1 y1 b2 f2 i2 k2 l2 m2)) (∀J1:Int->Int->Int->Int->Int->Int->Int->Int->Int->Int->Int->Li->List wA->Int->Li->Li->List wT->Li->Lo->Prop,(∀(n2 o2 q2 s2 t2 u2 x2 y2 b3 f3 i3:Int)(k3:Li)(l3:List wA)(m3:Int)(n3 o3:Li)(q3:List wT)(s3:Li)(t3:Lo),(∀J2:Int->Int->Int->Int->Int->Int->Int->Int->Int->Int->Int->Li->List wA->Int->Li->Li->List wT->Li->Lo->Prop,(∀(u3 x3 y3 b4 f4 i4 k4 l4 m4 n4 o4:Int)(q4:Li)(s4:List wA)(t4:Int)(u4 x4:Li)(y4:List wT)(b5:Li)(f5:Lo),(let v4:Int:=u64.wrap (u64.wrap (t4+B.wJ)-B.wL)
J++B.wC=J++B.wC/\lz y4/\lz x4/\lz u4/\k1f R B Ap As At Au Bi Bj J 0 u3 x3 y3 b4 f4 i4 k4 l4 m4 n4 o4 q4 s4 (u64.wrap (v4-B.Fee)) Ap As At Au Bi Bj x4 y4 (J++B.wC) b5 f5 u4)->J2 u3 x3 y3 b4 f4 i4 k4 l4 m4 n4 o4 q4 s4 t4 u4 x4 y4 b5 f5)->iD (0<B.wL) ((OkA (wAR.mk l3).wE/\U64 B.wL)/\let r3:=creditA (wAR.mk l3).wE B.wQ B.wL
iT (r3.2 !=0) (J++B.wC=J++B.wC/\lz q3/\lz o3/\lz n3/\k1f R B Ap As At Au Bi Bj J r3.2 n2 o2 q2 s2 t2 u2 x2 y2 b3 f3 i3 k3 l3 m3 Ap As At Au Bi Bj o3 q3 (J++B.wC) s3 t3 n3) (lz q3/\lz o3/\lz n3/\J2 n2 o2 q2 s2 t2 u2 x2 y2 b3 f3 i3 k3 r3.1 m3 n3 o3 q3 s3 t3)) (lz q3/\lz o3/\lz n3/\J2 n2 o2 q2 s2 t2 u2 x2 y2 b3 f3 i3 k3 l3 m3 n3 o3 q3 s3 t3))->J1 n2 o2 q2 s2 t2 u2 x2 y2 b3 f3 i3 k3 l3 m3 n3 o3 q3 s3 t3)->iD (0<B.wJ) ((OkA (wAR.mk y1).wE/\U64 B.wJ/\U64 B.wK)/\let r2:=debitA (wAR.mk y1).wE B.wQ B.wJ B.wK
iT (r2.2 !=0) (J++B.wC=J++B.wC/\lz k2/\lz l2/\lz m2/\k1f R B Ap As At Au Bi Bj J r2.2 f1 i1 k1 l1 m1 n1 o1 q1 s1 t1 u1 x1 y1 b2 Ap As At Au Bi Bj l2 k2 (J++B.wC) f2 i2 m2) (lz k2/\lz l2/\lz m2/\J1 f1 i1 k1 l1 m1 n1 o1 q1 s1 t1 u1 x1 r2.1 b2 m2 l2 k2 f2 i2)) (lz k2/\lz l2/\lz m2/\J1 f1 i1 k1 l1 m1 n1 o1 q1 s1 t1 u1 x1 y1 b2 m2 l2 k2 f2 i2)))))<|by
 rintro B Aa Ab Ad Ac Aj Ak Ag Al Ah M U X Z Ao Ap As At Au Bi Bj Y w4 w5 J F aa h R hR;obtain⟨⟨c,f,hc,hp⟩,ht,hk,au⟩:=h;have hv:aa=trs F:=hp.v;have hA:addS B.wC F=(0,F++B.wC):=by
  unfold addS;have e1:(B.wC.any λm=>decide (m∈F))=false:=by rw[List.any_eq_false];intro m hm;simpa using hk.m m hm
  rw[e1,qao hk.v.mn];rfl
 have aw:=hk.v.ml;have ax:=hk.v.ol;have ay:Y.length+B.wB.length<=2^Ab.toNat:=hk.l;have ae:1<=Ab:=hp.d1;have ag:Ab<=12:=hp.d2;have ah:wI.mk M U X=frF Ab Y:=hp.F;have ai:BG Y:=hp.l;have aq:=pow12 Ab.toNat qqo;obtain⟨a1,a2,a3,a4,a5⟩:=hk.v.am';have ab:GoodA c Z:=hp.b;have aj:OkA (depA Z B):=by
  unfold depA;split;.exact(ki1 ab qqo ⟨ht.ac.1,a4⟩ ht.d.1 ht.n).1
  .exact ab.1
 have ak:0<B.wJ->(debitA Z B.wQ B.wJ B.wK).2=0:=hk.d;unfold perfS at hR;refine⟨rfl,⟨hv,by omega⟩,?_⟩;rw[hA];refine⟨λe=>(by cases e),λ_=>⟨rfl,by omega,by unfold maxLen;omega,rfl,rfl,rfl,?_⟩⟩;refine⟨λa y0 y1 y2 y3 y4 y5 y6 y7 y8 x y z bb nn kk vv pp rr g=>(Aa=y0/\Ab=y1/\Ad=y2/\Ac=y3/\Aj=y4/\Ak=y5/\Ag=y6/\Al=y7/\Ah=y8/\Z=bb/\Ao=nn/\F++B.wC=kk/\trs (F++B.wC)=vv/\w5=pp/\w4=rr)/\∃i:Nat,a=(i:Int)/\i<=B.wB.length/\wI.mk x y z=outsF (wI.mk M U X) (B.wB.take i)/\g=Y++(B.wB.take i).map (·.wl),λa _ _ _ _ _ _ _ _ _ _ _ _ _ _ _ _ _ _ _=>(B.wB.length-a).toNat,⟨⟨rfl,rfl,rfl,rfl,rfl,rfl,rfl,rfl,rfl,rfl,rfl,rfl,rfl,rfl,rfl⟩,0,rfl,by omega,rfl,by simp⟩,?_⟩;rintro _ _ _ _ _ _ _ _ _ _ x y z _ _ _ _ _ _ _⟨⟨rfl,rfl,rfl,rfl,rfl,rfl,rfl,rfl,rfl,rfl,rfl,rfl,rfl,rfl,rfl⟩,i,rfl,hi,hF,rfl⟩;have hx:x=(outsF (wI.mk M U X) (B.wB.take i)).wH:=congrArg wI.wH hF;have hy:y=(outsF (wI.mk M U X) (B.wB.take i)).wAF:=congrArg wI.wAF hF;have hz:z=(outsF (wI.mk M U X) (B.wB.take i)).wAJ:=congrArg wI.wAJ hF;clear hF;subst hx;subst hy;subst hz;refine⟨λe=>?_,λe=>?_⟩
 .have e:i<B.wB.length:=by have:=qc e;omega
  have ho:=qz e;have az:(B.wB.take i).length=i:=by rw[qu];omega
  have ac:outsF (wI.mk M U X) (B.wB.take i)=frF Ab (Y++(B.wB.take i).map (·.wl)):=by rw[ah];exact ked qqo
  have ad:(Y++(B.wB.take i).map (·.wl)).length=Y.length+i:=by simp only[qi,qp];omega
  have al:BG (Y++(B.wB.take i).map (·.wl)):=by
   intro q hq;rcases qae.1 hq with hq|hq;.exact ai q hq
   .obtain⟨o,h1,rfl⟩:=qap.1 hq;exact⟨(ht.o o (qba h1)).c.1,(hk.v.o o (qba h1)).c⟩
  rw[ix_get _ _ e,inc_i64 _ qqo];have am:FV (outsF (wI.mk M U X) (B.wB.take i)):=by rw[ac];exact frF_FV ae ag qqo al
  have ao:(outsF (wI.mk M U X) (B.wB.take i)).wAF<((2^(outsF (wI.mk M U X) (B.wB.take i)).wH.toNat:Nat):Int):=by rw[ac];show((Y++(B.wB.take i).map (·.wl)).length:Int)<((2^Ab.toNat:Nat):Int);omega
  refine⟨by omega,by omega,⟨am,ao,(ht.o _ ho).c.1,(hk.v.o _ ho).c⟩,λe2=>(by cases e2),λ_=>⟨rfl,rfl,?_,?_,rfl,rfl,rfl,⟨⟨rfl,rfl,rfl,rfl,rfl,rfl,rfl,rfl,rfl,rfl,rfl,rfl,rfl,rfl,rfl⟩,i+1,rfl,by omega,?_,?_⟩,by(dsimp only;omega)⟩⟩;.rw[ad];simp only[qx,qan];omega
  .rw[ad];simp only[qx,qan];unfold maxLen;omega
  .rw[qt e];unfold outsF;rw[List.foldl_append];rfl
  .rw[qt e,qbj,qn];rfl
 .have e:i=B.wB.length:=by have:=qd e;omega
  subst e;rw[qcb];intro J1 j;have j1:∀b',b'=depA Z B->J1 Aa Ab Ad Ac Aj Ak Ag Al Ah (outsF (wI.mk M U X) B.wB).wH (outsF (wI.mk M U X) B.wB).wAF (outsF (wI.mk M U X) B.wB).wAJ b' Ao (Y++B.wB.map (·.wl)) w4 w5 (F++B.wC) (trs (F++B.wC)):=by
   intro b' h1;subst h1;refine j _ _ _ _ _ _ _ _ _ _ _ _ _ _ _ _ _ _ _ λJ2 k=>?_;have j2:∀b',(wdA Z B).2=0->b'=(wdA Z B).1->J2 Aa Ab Ad Ac Aj Ak Ag Al Ah (outsF (wI.mk M U X) B.wB).wH (outsF (wI.mk M U X) B.wB).wAF (outsF (wI.mk M U X) B.wB).wAJ b' Ao (Y++B.wB.map (·.wl)) w4 w5 (F++B.wC) (trs (F++B.wC)):=by intro b' h0 h1;rw[qe λhh=>hh h0]at hR;subst hR;subst h1;exact k _ _ _ _ _ _ _ _ _ _ _ _ _ _ _ _ _ _ _ (by repeat' first|apply qaa|exact rfl|exact qo)
   refine⟨λe=>⟨⟨aj,ht.w⟩,λe2=>?_,λe2=>⟨rfl,rfl,rfl,j2 _ ?_ ?_⟩⟩,λe=>⟨rfl,rfl,rfl,j2 _ ?_ ?_⟩⟩
   .have e2:(creditA (depA Z B) B.wQ B.wL).2≠0:=by simpa using e2
    have ew:wdA Z B=creditA (depA Z B) B.wQ B.wL:=by unfold wdA;rw[qg (qc e)]
    rw[ew,qg e2]at hR;subst hR;exact by repeat' first|apply qaa|exact rfl|exact qo
   .have e2:(creditA (depA Z B) B.wQ B.wL).2=0:=by simpa using e2
    unfold wdA;rw[qg (qc e)];exact e2
   .unfold wdA;rw[qg (qc e)]
   .unfold wdA;rw[qe (qd e)]
   .unfold wdA;rw[qe (qd e)]
  refine⟨λe2=>⟨⟨ab.1,ht.d,ht.n⟩,λe3=>?_,λe3=>⟨rfl,rfl,rfl,j1 _ ?_⟩⟩,λe2=>⟨rfl,rfl,rfl,j1 _ ?_⟩⟩
  .have e3:(debitA Z B.wQ B.wJ B.wK).2≠0:=by simpa using e3
   exact(e3 (ak (qc e2))).elim
  .unfold depA;rw[qg (qc e2)]
  .unfold depA;rw[qe (qd e2)]
def kdb:Ct:=.b ⟨74,[oo,.agg yE1,.one (.ptr 1 0)],yE,.one oa,yD,false⟩ [.st 7,yqi,yqi,yqi,yqi,yqi,yqu,yqi,yqi,yqu,yqi,yqi,oq,.sl (.st 12),yqu,yqi,yqi,oq,yqi,.sl (.st 12),yqu,oq,oq,.sl (.st 13),oq,oq,ow] yL λ(J:wD)(M U X Y Z Ak Ag Al Ah Ai Am:Int)(Ae:Li)(Af:List wA)(Ao Ap As:Int)(At:Li)(Au:Int)(Bi:List wA)(Bj:Int)(w2 w4:Li)(w5:List wT)(w6 B:Li)(F:Lo)=>((∃c,c+J.Txs.length<=790/\PI (PS.mk (wF.mk M U X Y Z Ak Ag Al Ah) (wI.mk Ai Am Ae) Af Ao w2 w4 w5 B F) c 0)/\BR' J/\w6=[],blkS (PS.mk (wF.mk M U X Y Z Ak Ag Al Ah) (wI.mk Ai Am Ae) Af Ao w2 w4 w5 B F) w6 J,λR=>(R.e,R.s.R.wd,R.s.R.wH,R.s.R.wS,R.s.R.wO,R.s.R.wM,R.s.R.wZ,R.s.R.wt,R.s.R.wW,R.s.R.wU,R.s.F.wH,R.s.F.wAF,R.s.F.wAJ,R.s.b,R.s.n,Ap,As,At,Au,Bi,Bj,R.s.r,R.s.p,R.m,R.s.k,R.s.v,R.s.l,()))
abbrev k2b(R:PB)(Ap As:Int)(At:Li)(Au:Int)(Bi:List wA)(Bj o0 o1 o2 o3 o4 o5 o6 o7 o8 o9 B F:Int)(J:Li)(M:List wA)(U X Y:Int)(Z:Li)(aa:Int)(ab:List wA)(ac:Int)(ad:Li)(ae:List wT)(ag ah:Li)(ai:Lo)(aj:Li):Prop:=o0=R.e/\o1=R.s.R.wd/\o2=R.s.R.wH/\o3=R.s.R.wS/\o4=R.s.R.wO/\o5=R.s.R.wM/\o6=R.s.R.wZ/\o7=R.s.R.wt/\o8=R.s.R.wW/\o9=R.s.R.wU/\B=R.s.F.wH/\F=R.s.F.wAF/\J=R.s.F.wAJ/\M=R.s.b/\U=R.s.n/\X=Ap/\Y=As/\Z=At/\aa=Au/\ab=Bi/\ac=Bj/\ad=R.s.r/\ae=R.s.p/\ag=R.m/\ah=R.s.k/\ai=R.s.v/\aj=R.s.l
abbrev Fz2(r:Type):=Int->Int->Int->Int->Li->Int->List wA->Int->Int->Int->Int->Int->Int->Int->Int->Int->Int->Int->Int->Li->List wA->Int->Li->Lo->Li->List wT->Li->Li->r
theorem ke6:kdb.O:=pbv Bs Tryz.func74 (.nd [.trimc 0 12] .no [] (rA 0 (lA ⟨[7,6,5,4,3,1,0],[.map yqu .bool,.tip yqu,.vec (.st 13),.vec yqu,.cells [.mp 0],.cells [zqi,zqi,zql,zqi,.own 1,.d (.sl (.st 12)),zqu],.cells [zqi,zqi,zqi,zqi,zqi,zqu,zqi,zqi,zqu,zqi,zqi,zql,.row 7,.ptr 4 0,.d (.sl (.st 12)),zqu,.row 3,.row 2],.vec yqu],[7,17],[ou,oa],[8]⟩ .no))) (kif.c (kbi.c (k5i.c c0))) (Q:=∀F Aa Ab Ad Ac Aj Ak Ag Al Ah Ai Am Ae Af Ao Ap As At Au Bi Bj w2 w4 w5 w6 aa ab,(∃c,c+F.Txs.length<=790/\PI (PS.mk (wF.mk Aa Ab Ad Ac Aj Ak Ag Al Ah) (wI.mk Ai Am Ae) Af Ao w2 w4 w5 aa ab) c 0)/\BR' F/\w6=[]->∀R,blkS (PS.mk (wF.mk Aa Ab Ad Ac Aj Ak Ag Al Ah) (wI.mk Ai Am Ae) Af Ao w2 w4 w5 aa ab) w6 F=R->lz w2/\lz w5/\lz w4/\lz w2/\w6=w6/\∃(I1:Fz2 Prop)(M1:Fz2 Nat),I1 0 0 Ap As At Au Bi Bj Aa Ab Ad Ac Aj Ak Ag Al Ah Ai Am Ae Af Ao aa ab w6 w5 w4 w2/\∀b1 f1 i1 k1 l1 m1 n1 o1 q1 s1 t1 u1 x1 Z b2 f2 i2 k2 l2 m2 n2 o2 q2 s2 t2 u2 J M,I1 b1 f1 i1 k1 l1 m1 n1 o1 q1 s1 t1 u1 x1 Z b2 f2 i2 k2 l2 m2 n2 o2 q2 s2 t2 u2 J M->iF f1 F.Txs.length (lz u2/\lz J/\lz M/\((∃(c:Nat)(f:Int),c<=800/\PI (PS.mk (wF.mk q1 s1 t1 u1 x1 Z b2 f2 i2) (wI.mk k2 l2 m2) n2 o2 M J u2 q2 s2) c f)/\TR (ix F.Txs f1))/\let r1:=chkS (PS.mk (wF.mk q1 s1 t1 u1 x1 Z b2 f2 i2) (wI.mk k2 l2 m2) n2 o2 M J u2 q2 s2) (ix F.Txs f1)
iT (r1 !=0) (t2=t2/\lz u2/\lz J/\lz M/\k2b R Ap As At Au Bi Bj r1 q1 s1 t1 u1 x1 Z b2 f2 i2 k2 l2 m2 n2 o2 i1 k1 l1 m1 n1 o1 J u2 t2 q2 s2 M) (t2=t2/\lz u2/\lz J/\lz M/\((∃(c:Nat)(f:Int),c<=800/\PI (PS.mk (wF.mk q1 s1 t1 u1 x1 Z b2 f2 i2) (wI.mk k2 l2 m2) n2 o2 M J u2 q2 s2) c f)/\TR (ix F.Txs f1)/\CK (PS.mk (wF.mk q1 s1 t1 u1 x1 Z b2 f2 i2) (wI.mk k2 l2 m2) n2 o2 M J u2 q2 s2) (ix F.Txs f1)/\t2.length<=1000000)/\let r2:Int:=(perfS (PS.mk (wF.mk q1 s1 t1 u1 x1 Z b2 f2 i2) (wI.mk k2 l2 m2) n2 o2 M J u2 q2 s2) (ix F.Txs f1)).e
let B:=(perfS (PS.mk (wF.mk q1 s1 t1 u1 x1 Z b2 f2 i2) (wI.mk k2 l2 m2) n2 o2 M J u2 q2 s2) (ix F.Txs f1)).s
iT (r2 !=0) (t2++(ix F.Txs f1).wC=t2++(ix F.Txs f1).wC/\lz B.p/\lz B.r/\lz B.l/\k2b R Ap As At Au Bi Bj r2 B.R.wd B.R.wH B.R.wS B.R.wO B.R.wM B.R.wZ B.R.wt B.R.wW B.R.wU B.F.wH B.F.wAF B.F.wAJ B.b B.n i1 k1 l1 m1 n1 o1 B.r B.p (t2++(ix F.Txs f1).wC) B.k B.v B.l) (let v4:Int:=u64.wrap (b1+(ix F.Txs f1).Fee)
lz B.p/\lz B.r/\lz B.l/\t2++(ix F.Txs f1).wC=t2++(ix F.Txs f1).wC/\I1 v4 (i64.wrap (f1+1)) i1 k1 l1 m1 n1 o1 B.R.wd B.R.wH B.R.wS B.R.wO B.R.wM B.R.wZ B.R.wt B.R.wW B.R.wU B.F.wH B.F.wAF B.F.wAJ B.b B.n B.k B.v (t2++(ix F.Txs f1).wC) B.p B.r B.l/\M1 v4 (i64.wrap (f1+1)) i1 k1 l1 m1 n1 o1 B.R.wd B.R.wH B.R.wS B.R.wO B.R.wM B.R.wZ B.R.wt B.R.wW B.R.wU B.F.wH B.F.wAF B.F.wAJ B.b B.n B.k B.v (t2++(ix F.Txs f1).wC) B.p B.r B.l<M1 b1 f1 i1 k1 l1 m1 n1 o1 q1 s1 t1 u1 x1 Z b2 f2 i2 k2 l2 m2 n2 o2 q2 s2 t2 u2 J M))) ((OkA (wAR.mk n2).wE/\U64 (u64.wrap (Z+b1)))/\let r5:=creditA (wAR.mk n2).wE F.wAM (u64.wrap (Z+b1))
iT (r5.2 !=0) (t2=t2/\lz u2/\lz J/\lz M/\k2b R Ap As At Au Bi Bj r5.2 q1 s1 t1 u1 x1 Z b2 f2 i2 k2 l2 m2 n2 o2 i1 k1 l1 m1 n1 o1 J u2 t2 q2 s2 M) (t2=t2/\lz u2/\lz J/\lz M/\k2b R Ap As At Au Bi Bj 0 q1 s1 t1 u1 x1 Z b2 f2 i2 k2 l2 m2 r5.1 o2 i1 k1 l1 m1 n1 o1 J u2 t2 q2 s2 M)))<|by
 rintro F Aa Ab Ad Ac Aj Ak Ag Al Ah Ai Am Ae Af Ao Ap As At Au Bi Bj w2 w4 w5 w6 aa ab h R hR;obtain⟨⟨c,hc,hp⟩,hb,hw⟩:=h;subst hw;unfold blkS at hR;generalize hG:blkGo F.Txs (PS.mk (wF.mk Aa Ab Ad Ac Aj Ak Ag Al Ah) (wI.mk Ai Am Ae) Af Ao w2 w4 w5 aa ab) [] 0=G at hR;refine⟨rfl,rfl,rfl,rfl,rfl,⟨λfe a y0 Z M y3 y4 y5 x0 x1 J x3 x4 x5 x6 x7 x8 x9 U X bb nn kk vv mm pp rr ll=>(y0=Ap/\Z=As/\M=At/\y3=Au/\y4=Bi/\y5=Bj)/\∃i:Nat,a=(i:Int)/\i<=F.Txs.length/\(∃c':Nat,c'+(F.Txs.length-i)<=790/\PI (PS.mk (wF.mk x0 x1 J x3 x4 x5 x6 x7 x8) (wI.mk x9 U X) bb nn ll rr pp kk vv) c' fe)/\mm.length<=4*i/\blkGo (F.Txs.drop i) (PS.mk (wF.mk x0 x1 J x3 x4 x5 x6 x7 x8) (wI.mk x9 U X) bb nn ll rr pp kk vv) mm fe=G,λ_ a _ _ _ _ _ _ _ _ _ _ _ _ _ _ _ _ _ _ _ _ _ _ _ _ _ _=>(F.Txs.length-a).toNat,⟨⟨rfl,rfl,rfl,rfl,rfl,rfl⟩,0,rfl,by omega,⟨c,by omega,hp⟩,by simp,hG⟩,?_⟩⟩;rintro fe _ y0 Z M y3 y4 y5 x0 x1 J x3 x4 x5 x6 x7 x8 x9 U X bb nn kk vv mm pp rr ll⟨⟨rfl,rfl,rfl,rfl,rfl,rfl⟩,i,rfl,hi,⟨c',ac,hq⟩,hm,hg⟩;refine⟨λe=>?_,λe=>?_⟩
 .have e:i<F.Txs.length:=by have:=qc e;omega
  have ht:=hb.t _ (qz e);rw[qbb e]at hg;unfold blkGo at hg;rw[ix_get _ _ e,inc_i64 _ qqo];refine⟨by omega,by omega,rfl,rfl,rfl,⟨⟨c',fe,by omega,hq⟩,ht⟩,λY=>?_,λY=>?_⟩
  .have Y:chkS (PS.mk (wF.mk x0 x1 J x3 x4 x5 x6 x7 x8) (wI.mk x9 U X) bb nn ll rr pp kk vv) F.Txs[i]≠0:=by simpa using Y
   rw[qg Y]at hg;subst hg;simp only at hR;rw[qg Y]at hR;subst hR;exact by repeat' first|apply qaa|exact rfl|exact qo
  .have Y:chkS (PS.mk (wF.mk x0 x1 J x3 x4 x5 x6 x7 x8) (wI.mk x9 U X) bb nn ll rr pp kk vv) F.Txs[i]=0:=by simpa using Y
   have k:=k9l Y;rw[qe λhh=>hh Y]at hg;refine⟨rfl,rfl,rfl,rfl,⟨⟨c',fe,by omega,hq⟩,ht,k,by omega⟩,λe3=>?_,λe3=>⟨rfl,rfl,rfl,rfl,⟨⟨rfl,rfl,rfl,rfl,rfl,rfl⟩,i+1,rfl,by omega,⟨c'+1,by omega,?_⟩,?_,?_⟩,by(dsimp only;omega)⟩⟩
   .have e3:(perfS (PS.mk (wF.mk x0 x1 J x3 x4 x5 x6 x7 x8) (wI.mk x9 U X) bb nn ll rr pp kk vv) F.Txs[i]).e≠0:=by simpa using e3
    rw[qg e3]at hg;subst hg;simp only at hR;rw[qg e3]at hR;subst hR;exact by repeat' first|apply qaa|exact rfl|exact qo
   .have e3:(perfS (PS.mk (wF.mk x0 x1 J x3 x4 x5 x6 x7 x8) (wI.mk x9 U X) bb nn ll rr pp kk vv) F.Txs[i]).e=0:=by simpa using e3
    have h9:=(hq.perf qqo ht k).2.2 e3;rw[kdz hq qqo ht k];exact h9
   .have:=k.v.ml;rw[qi];omega
   .have e3:(perfS (PS.mk (wF.mk x0 x1 J x3 x4 x5 x6 x7 x8) (wI.mk x9 U X) bb nn ll rr pp kk vv) F.Txs[i]).e=0:=by simpa using e3
    rw[qe λhh=>hh e3]at hg;exact hg
 .have e:i=F.Txs.length:=by have:=qd e;omega
  subst e;rw[qfr]at hg;unfold blkGo at hg;subst hg;have hw:=kei (x:=⟨0,PS.mk (wF.mk x0 x1 J x3 x4 x5 x6 x7 x8) (wI.mk x9 U X) bb nn ll rr pp kk vv,mm,fe⟩) hq qqo;simp only at hw;unfold crB at hR;simp only at hR;rw[qe λhh=>hh rfl]at hR;refine⟨⟨hq.b.1,?_⟩,λY=>?_,λY=>?_⟩;.rw[hw.1];exact hw.2
  .have Y:(creditA bb F.wAM (u64.wrap (x5+fe))).2≠0:=by simpa using Y
   rw[qg Y]at hR;subst hR;exact by repeat' first|apply qaa|exact rfl|exact qo
  .have Y:(creditA bb F.wAM (u64.wrap (x5+fe))).2=0:=by simpa using Y
   rw[qe λhh=>hh Y]at hR;subst hR;exact by repeat' first|apply qaa|exact rfl|exact qo
def kib:Ct:=.g (gk 120 [oo,oe] yI1 (.one oa)) [oq,oq,ow] [yqi,oq,ow] [] λ(F B:Li)(J:Lo)=>(J=trs B/\F.length<=1000000,(remS F B).1,(remS F B).2,trs (remS F B).2,())
theorem klp:kib.O:=prv Bs Tryz.func120 (rA 1 (lA ⟨[1],yP1,[16],[oa],[]⟩ .no)) (kdq.c (k41.c c0)) (Q:=∀F B J,J=trs B/\F.length<=1000000->∀r0,(remS F B).1=r0->∀e1k,(remS F B).2=e1k->∀e1v,trs (remS F B).2=e1v->(J=trs B/\F.length<=1000000)/\let Z:=F.any λm=>decide (m∈B)==false
iT Z (4=r0/\B=e1k/\J=e1v) (F.length<=1000000/\iT (!decide F.Nodup) (4=r0/\B=e1k/\J=e1v) (∃U M1,U 0 B J/\∀b1 f1 i1,U b1 f1 i1->iF b1 F.length (f1.length=i1.length/\let v2:=mDelK (BEq.beq (ix F b1)) f1
let v3:=mDelV (BEq.beq (ix F b1)) f1 i1
ss3 U M1 b1 (i64.wrap (b1+1)) f1 v2 i1 v3) (0=r0/\f1=e1k/\i1=e1v))))<|by
 rintro F B J h _ rfl _ rfl _ rfl;obtain⟨h,Y⟩:=h;subst h;have ea:F.any λm=>decide (m∈B)==false=F.any λm=>!decide (m∈B):=by congr 1;funext m;cases decide (m∈B)<;>rfl
 refine⟨⟨rfl,Y⟩,?_⟩;rw[ea];refine⟨λe=>?_,λe=>⟨Y,λX=>?_,λX=>?_⟩⟩
 .have:remS F B=(4,B):=by unfold remS;rw[e];rfl
  rw[this];exact⟨rfl,rfl,rfl⟩
 .have:remS F B=(4,B):=by unfold remS;rw[e,X];rfl
  rw[this];exact⟨rfl,rfl,rfl⟩
 .have hA:remS F B=(0,F.foldl List.erase B):=by unfold remS;rw[e,X];rfl
  rw[hA];refine⟨λa k v=>∃i:Nat,a=i/\i<=F.length/\k=(F.take i).foldl List.erase B/\v=trs k,λa _ _=>(F.length-a).toNat,⟨0,rfl,by omega,rfl,rfl⟩,?_⟩;rintro _ _ _⟨i,rfl,hi,rfl,rfl⟩;refine⟨λM=>?_,λM=>?_⟩
  .have M:i<F.length:=by have:=qc M;omega
   rw[ix_get _ _ M,inc_i64 _ qqo];obtain⟨q1,q2⟩:=sDel ((F.take i).foldl List.erase B) F[i];rw[q1,q2];refine⟨by omega,by omega,by simp[trs],⟨i+1,rfl,by omega,?_,rfl⟩,by(dsimp only;omega)⟩;rw[qt M,List.foldl_append];rfl
  .have M:i=F.length:=by have:=qd M;omega
   subst M;rw[qcb];exact⟨rfl,rfl,rfl⟩
def kcn:Ct:=.b ⟨75,[oo,.agg [zqi,zqi,zql,zqi,zql,.d (.sl (.st 12)),zqu]],yJ,.tup [],[.cells [zqi,zqi,zqi,zqi,zqi,zqu,zqi,zqi,zqu,zqi,zqi,zql,.view 1,.ptr 2 0,.d (.sl (.st 12)),zqu,.row 3,.row 4],.vec yqu,.cells [.mp 5],.vec yqu,.vec (.st 13),.map yqu .bool],false⟩ [.st 13,yqi,yqi,yqi,yqi,yqi,yqu,yqi,yqi,yqu,yqi,yqi,oq,.sl (.st 12),yqu,oq,oq,.sl (.st 13),oq,ow] [yqi,yqi,yqi,yqi,yqi,yqu,yqi,yqi,yqu,yqi,yqi,oq,yqi,yqi,.sl (.st 12),yqu,oq,oq,.sl (.st 13),oq,ow] λ(B:wT)(U X Y Z Aj Ak Ag Al Ah Ai Am:Int)(Ae:Li)(Af:List wA)(Ao:Int)(M w3:Li)(w4:List wT)(F:Li)(J:Lo)=>(J=trs F/\B.marks.length<=1000000/\0<=B.leaves/\B.leaves<=M.length,(),λ_=>(U,X,Y,Z,Aj,Ak,Ag,Al,Ah,B.wBK,B.wBL,B.wBM,(0:Int),(B.leaves.toNat:Int),B.wBC,B.hidden,M,w3,w4,(remS B.marks F).2,trs (remS B.marks F).2,()))
theorem k68:kcn.O:=pbv Bs Tryz.func75 .no (klp.c c0) (Q:=∀(B:wT)(Y Z Ad Ac Aj Ak Ag Al Ah Ai Am:Int)(Ae:Li)(Af:List wA)(Ao:Int)(M U:Li)(X:List wT)(F:Li)(J:Lo),J=trs F/\B.marks.length<=1000000/\0<=B.leaves/\B.leaves<=(M.length:Int)->∀R:Unit,()=R->(J=trs F/\B.marks.length<=1000000)/\0<=B.leaves/\B.leaves<=(M.length:Int)/\lz X/\lz U/\Y=Y/\Z=Z/\Ad=Ad/\Ac=Ac/\Aj=Aj/\Ak=Ak/\Ag=Ag/\Al=Al/\Ah=Ah/\B.wBK=B.wBK/\B.wBL=B.wBL/\B.wBM=B.wBM/\(0:Int)=(0:Int)/\(B.leaves.toNat:Int)=(B.leaves.toNat:Int)/\B.wBC=B.wBC/\B.hidden=B.hidden/\M=M/\U=U/\X=X/\(remS B.marks F).2=((remS B.marks F).2:Li)/\trs (remS B.marks F).2=(trs (remS B.marks F).2:Lo))<|by rintro B Y Z Ad Ac Aj Ak Ag Al Ah Ai Am Ae Af Ao M U X F J h R hR;exact⟨⟨h.1,h.2.1⟩,h.2.2.1,h.2.2.2,rfl,rfl,rfl,rfl,rfl,rfl,rfl,rfl,rfl,rfl,rfl,rfl,rfl,rfl,rfl,rfl,rfl,rfl,rfl,rfl,rfl,rfl,rfl⟩
def kba:Ct:=.gp 98 [yqi] [yqu] [] λ(B:Int)=>(0<=B/\B<=12,emp B.toNat,())
theorem kcr:kba.O:=qrv Bs Tryz.func98 (rA 2 (lA (oB [3,12] [ou,oa]) .no)) (k1c.c (k2a.c c0)) (Q:=∀B,0<=B/\B<=12->∀r0,emp B.toNat=r0->iD (B<0) (0=r0) (iD (12<B) (0=r0) (((18446744069414584321:Int)=18446744069414584321/\U64 6/\Us []/\([]:Li).length<=1099511627776)/\∃(F:oF)(J:oI),F (hashS 6 []) 0/\∀b1 f1,F b1 f1->iD (f1<B) ((U64 b1/\U64 b1)/\ss2 F J b1 (hashS 6 [b1,b1]) f1 (i64.wrap (f1+1))) (b1=r0))))<|by
 rintro B h _ rfl;refine⟨λe=>by have:=qc e;omega,λ_=>⟨λe=>by have:=qc e;omega,λ_=>⟨⟨rfl,by decide,(by intro x M;cases M),by decide⟩,?_⟩⟩⟩;refine⟨λx a=>∃i:Nat,a=i/\i<=B/\x=emp i,λ_ a=>(B-a).toNat,⟨0,rfl,by omega,rfl⟩,?_⟩;rintro _ _⟨i,rfl,hi,rfl⟩;refine⟨λe=>?_,λe=>?_⟩;.have e:=qc e;rw[inc_i64 _ qqo];exact⟨⟨emp_u i,emp_u i⟩,⟨i+1,rfl,by omega,rfl⟩,by(dsimp only;omega)⟩
 .have e:=qd e;have:B.toNat=i:=by omega
  rw[this]
def kd8:Ct:=.gp 66 [.st 9] [yqu] [] λ(B:wI)=>(FV B,rootF B,())
theorem k36:kd8.O:=qrv Bs Tryz.func66 (rA 4 (lA (oB [3,4,25] [ou,ou,oa]) (rA 1 (.r 0 (.jn (oB [4] [ou]) [] .no [] .no))))) (k51.c (kcr.c (k2a.c c0))) (Q:=∀B,FV B->∀r0,rootF B=r0->FV B/\iT (!true) (0=r0) (0<=B.wH/\iT (B.wAF==ishl .i64 1 B.wH) (iR B.wH B.wAJ.length (ix B.wAJ B.wH=r0)) ((0<=(0:Int)/\(0:Int)<=12)/\∃(Y:oL)(M1:oP),Y (emp (0:Int).toNat) (emp (0:Int).toNat) 0/\∀b1 f1 i1,Y b1 f1 i1->iD (i1<B.wH) (∀X:oD,(∀k1,(U64 b1/\U64 b1)/\ss3 Y M1 b1 (hashS 6 [b1,b1]) f1 k1 i1 (i64.wrap (i1+1))->X k1)->0<=i1/\let v1:=iand .i64 (ishr .i64 B.wAF i1) 1==1
iT v1 (iR i1 B.wAJ.length ((U64 (ix B.wAJ i1)/\U64 f1)/\X (hashS 6 [ix B.wAJ i1,f1]))) ((U64 f1/\U64 b1)/\X (hashS 6 [f1,b1]))) (f1=r0))))<|by
 rintro B h _ rfl;have hv:=h;obtain⟨d1,d2,c0,c1,ll,u,z⟩:=h;obtain⟨d,hd⟩:=qm (show 0<=B.wH by omega);obtain⟨n,U⟩:=qm c0;have J:B.wH.toNat=d:=by omega
 have hp:=pow12 d qqo;rw[J]at c1 ll;refine⟨hv,λe=>(by cases e),λ_=>⟨by omega,?_⟩⟩;rw[hd,shl1 d qqo,U];refine⟨λe=>⟨by omega,by omega,?_⟩,λe=>⟨by decide,?_⟩⟩
 .have e:(n:Int)=((2^d:Nat):Int):=by simpa using e
  unfold rootF;rw[J,U,qg e,hd]
 have e:¬(n:Int)=((2^d:Nat):Int):=by simpa using e
 have hr:rootF B=rootGo B d 0 (emp 0) (emp 0):=by unfold rootF;rw[J,U,qe e]
 rw[hr];refine⟨λa x b=>∃i:Nat,b=(i:Int)/\i<=d/\a=emp i/\(0<=x/\x<18446744069414584321)/\rootGo B (d-i) i (emp i) x=rootGo B d 0 (emp 0) (emp 0),λ_ _ b=>(d-b).toNat,⟨0,rfl,by omega,rfl,⟨(emp_u 0).1,emp_lt 0⟩,rfl⟩,?_⟩;rintro _ x _⟨i,rfl,hi,rfl,hx,F⟩;refine⟨λe X j=>?_,λe=>?_⟩
 .have e:i<d:=by have:=qc e;omega
  have hs:i<B.wAJ.length:=by omega
  have Z:=u _ (qz hs);generalize hR:rootGo B d 0 (emp 0) (emp 0)=R at F⊢;rw[show d-i=d-(i+1)+1 by omega]at F;unfold rootGo at F;rw[U,qv]at F;rw[bit1 n i qqo qqo];refine⟨by omega,λM=>⟨by omega,by omega,?_,?_⟩,λM=>⟨⟨⟨hx.1,by omega⟩,emp_u i⟩,?_⟩⟩;.rw[ix_get _ _ hs];exact⟨⟨Z.1,by omega⟩,hx.1,by omega⟩
  .have M:((n/2^i%2:Nat):Int)=1:=by simpa using M
   have hb:bitN n i=true:=by unfold bitN;generalize n/2^i%2=q at*;simp;omega
   rw[qg hb]at F;refine j _ ⟨⟨emp_u i,emp_u i⟩,?_⟩;rw[inc_i64 _ qqo];exact⟨⟨i+1,rfl,by omega,rfl,⟨(kx _ _).1,k49 _ _⟩,F.trans hR.symm⟩,by show((d:Int)-((i+1:Nat):Int)).toNat<((d:Int)-(i:Int)).toNat;omega⟩
  .have M:¬((n/2^i%2:Nat):Int)=1:=by simpa using M
   have hb:¬bitN n i=true:=by unfold bitN;generalize n/2^i%2=q at*;simp;omega
   rw[qe hb]at F;refine j _ ⟨⟨emp_u i,emp_u i⟩,?_⟩;rw[inc_i64 _ qqo];exact⟨⟨i+1,rfl,by omega,rfl,⟨(kx _ _).1,k49 _ _⟩,F.trans hR.symm⟩,by show((d:Int)-((i+1:Nat):Int)).toNat<((d:Int)-(i:Int)).toNat;omega⟩
 .have e:d=i:=by have:=qd e;omega
  subst e;rw[Nat.sub_self]at F;exact F
def kgw:Ct:=.b ⟨36,[oo,.agg yE1],yJ,.one oa,yI,false⟩ [.st 7,yqi,yqi,yqi,yqi,yqi,yqu,yqi,yqi,yqu,yqi,yqi,oq,.sl (.st 12),yqu,oq,oq,.sl (.st 13),oq,ow] [yqi,yqi,yqi,yqi,yqi,yqi,yqu,yqi,yqi,yqu,yqi,yqi,oq,.sl (.st 12),yqu,oq,ow,oq,oq,.sl (.st 13)] λ(J:wD)(M U X Y Z Ak Ag Al Ah Ai Am:Int)(Ae:Li)(Af:List wA)(Ao:Int)(w1 w3:Li)(w4:List wT)(B:Li)(F:Lo)=>((∃c,c+J.Txs.length<=790/\PI (PS.mk (wF.mk M U X Y Z Ak Ag Al Ah) (wI.mk Ai Am Ae) Af Ao w1 w3 w4 B F) c 0)/\BR' J,applyS (PS.mk (wF.mk M U X Y Z Ak Ag Al Ah) (wI.mk Ai Am Ae) Af Ao w1 w3 w4 B F) J,λR=>(R.e,R.s.R.wd,R.s.R.wH,R.s.R.wS,R.s.R.wO,R.s.R.wM,R.s.R.wZ,R.s.R.wt,R.s.R.wW,R.s.R.wU,R.s.F.wH,R.s.F.wAF,R.s.F.wAJ,R.s.b,R.s.n,R.s.k,R.s.v,R.s.l,R.s.r,R.s.p,()))
abbrev k2r(R:PE)(o0 o1 o2 o3 o4 o5 o6 o7 o8 o9 B F:Int)(J:Li)(M:List wA)(U:Int)(X:Li)(Y:Lo)(Z aa:Li)(ab:List wT):Prop:=o0=R.e/\o1=R.s.R.wd/\o2=R.s.R.wH/\o3=R.s.R.wS/\o4=R.s.R.wO/\o5=R.s.R.wM/\o6=R.s.R.wZ/\o7=R.s.R.wt/\o8=R.s.R.wW/\o9=R.s.R.wU/\B=R.s.F.wH/\F=R.s.F.wAF/\J=R.s.F.wAJ/\M=R.s.b/\U=R.s.n/\X=R.s.k/\Y=R.s.v/\Z=R.s.l/\aa=R.s.r/\ab=R.s.p
theorem k87:kgw.O:=pbx Bs [61,62,75,76] Tryz.func36 (.r 0 (.nd [] (rA 0 (.r 0 (.rt [.trimc 0 12,.trimc 0 16,.trimc 0 17]))) [] (.nd [] (rA 0 (.r 0 (.rt [.trimc 0 12,.trimc 0 16,.trimc 0 17]))) [] (rA 1 (.nd [.tokc 439 4 yqu] .no [] (rA 0 (.r 1 (.rt [.trimc 0 12,.trimc 0 16,.trimc 0 17])))))))) x0 (ke6.c (k68.c (k36.c c0))) (Q:=∀p1 Aa Ab Ad Ac Aj Ak Ag Al Ah X Y Z Af Ao F w3 J M U,(∃c,c+p1.Txs.length<=790/\PI (PS.mk (wF.mk Aa Ab Ad Ac Aj Ak Ag Al Ah) (wI.mk X Y Z) Af Ao F w3 J M U) c 0)/\BR' p1->∀R,applyS (PS.mk (wF.mk Aa Ab Ad Ac Aj Ak Ag Al Ah) (wI.mk X Y Z) Af Ao F w3 J M U) p1=R->let v1:=p1.wG !=i64.wrap (J.length+1)
iT v1 (lz F/\lz w3/\lz J/\lz J/\lz w3/\lz F/\k2r R 18 Aa Ab Ad Ac Aj Ak Ag Al Ah X Y Z Af Ao M U F w3 J) (iD (18446744069414584321<=p1.wAM) (lz F/\lz w3/\lz J/\lz J/\lz w3/\lz F/\k2r R 1 Aa Ab Ad Ac Aj Ak Ag Al Ah X Y Z Af Ao M U F w3 J) (([]:Li)=([]:Li)/\lz J/\lz w3/\lz F/\((∃c:Nat,c+p1.Txs.length<=790/\PI (PS.mk (wF.mk Aa Ab Ad Ac Aj Ak Ag Al Ah) (wI.mk X Y Z) Af Ao F w3 J M U) c 0)/\BR' p1/\([]:Li)=[])/\let r2:=blkS (PS.mk (wF.mk Aa Ab Ad Ac Aj Ak Ag Al Ah) (wI.mk X Y Z) Af Ao F w3 J M U) ([]:Li) p1
let B:=(blkS (PS.mk (wF.mk Aa Ab Ad Ac Aj Ak Ag Al Ah) (wI.mk X Y Z) Af Ao F w3 J M U) ([]:Li) p1).s
iT (r2.e !=0) (lz B.p/\lz B.r/\lz B.l/\(B.v=trs B.k/\(wT.mk X Y Z (F.length:Int) r2.m Af Ao).marks.length<=1000000/\0<=(wT.mk X Y Z (F.length:Int) r2.m Af Ao).leaves/\(wT.mk X Y Z (F.length:Int) r2.m Af Ao).leaves<=(B.l.length:Int))/\let r4:=wT.mk X Y Z (F.length:Int) r2.m Af Ao
let r5:Int:=((wT.mk X Y Z (F.length:Int) r2.m Af Ao).leaves.toNat:Int)
let r6:Li:=(remS (wT.mk X Y Z (F.length:Int) r2.m Af Ao).marks B.k).2
let r7:Lo:=trs (remS (wT.mk X Y Z (F.length:Int) r2.m Af Ao).marks B.k).2
(0:Int).toNat=0/\r5.toNat<=B.l.length/\lz B.r/\lz B.p/\lz B.p/\lz B.r/\lz (B.l.take r5.toNat)/\k2r R r2.e B.R.wd B.R.wH B.R.wS B.R.wO B.R.wM B.R.wZ B.R.wt B.R.wW B.R.wU r4.wBK r4.wBL r4.wBM r4.wBC r4.hidden r6 r7 (B.l.take r5.toNat) B.r B.p) (let v8:List wT:=[wT.mk X Y Z (F.length:Int) r2.m Af Ao]
lz B.p/\lz v8/\(B.p.length+v8.length)*104<=140737488355328/\B.p.length+v8.length<=maxLen/\FV B.F/\lz B.r/\lz [rootF B.F]/\(B.r.length+[rootF B.F].length)*8<=140737488355328/\B.r.length+[rootF B.F].length<=maxLen/\lz (B.p++v8)/\lz (B.r++[rootF B.F])/\lz B.l/\k2r R 0 B.R.wd B.R.wH B.R.wS B.R.wO B.R.wM B.R.wZ B.R.wt B.R.wW B.R.wU B.F.wH B.F.wAF B.F.wAJ B.b B.n B.k B.v B.l (B.r++[rootF B.F]) (B.p++v8)))))<|by
 rintro p1 Aa Ab Ad Ac Aj Ak Ag Al Ah X Y Z Af Ao F w3 J M U h R hR;obtain⟨⟨c,hc,hp⟩,hb⟩:=h;have hB:=blkS_BI hp qqo hb;have ag:=blkS_ml (PS.mk (wF.mk Aa Ab Ad Ac Aj Ak Ag Al Ah) (wI.mk X Y Z) Af Ao F w3 J M U) p1;have hQ:=koq hB hp.v;have aj:J.length<=c:=hp.p;have ak:w3.length=J.length+1:=hp.rl;unfold applyS at hR;generalize hx:blkS (PS.mk (wF.mk Aa Ab Ad Ac Aj Ak Ag Al Ah) (wI.mk X Y Z) Af Ao F w3 J M U) [] p1=x at hB ag hQ hR;simp only at hR;have ei:i64.wrap ((J.length:Int)+1)=(J.length:Int)+1:=ko _ qqo qqo;rw[ei];refine⟨λe=>?_,λe=>⟨λe2=>?_,λe2=>⟨by first|exact rfl|exact qo,rfl,rfl,rfl,⟨⟨c,hc,hp⟩,hb,rfl⟩,λe3=>?_,λe3=>?_⟩⟩⟩
 .have e:p1.wG≠(J.length:Int)+1:=by simpa using e
  rw[qg e]at hR;subst hR;exact by repeat' first|apply qaa|exact rfl|exact qo
 .have e:¬p1.wG≠(J.length:Int)+1:=by simpa using e
  rw[qe e,qg (qc e2)]at hR;subst hR;exact by repeat' first|apply qaa|exact rfl|exact qo
 .have e:¬p1.wG≠(J.length:Int)+1:=by simpa using e
  have e3:x.e≠0:=by simpa using e3
  rw[qe e,qe (qd e2),qg e3]at hR;subst hR;obtain⟨y,hy⟩:=hB.l;have hy:x.s.l=F++y:=hy;have aa:x.s.R=wF.mk Aa Ab Ad Ac Aj Ak Ag Al Ah:=hB.R;have ad:(remS x.m x.s.k).2=M:=congrArg PS.k hQ;have ae:trs (remS x.m x.s.k).2=U:=congrArg PS.v hQ;have ah:x.s.l.take F.length=F:=by rw[hy];exact List.take_left
  have ab:x.s.r=w3:=hB.r;have ac:x.s.p=J:=hB.p;refine⟨rfl,rfl,rfl,⟨hB.v,?_,?_,?_⟩,?_⟩;.show x.m.length<=1000000;omega
  .show(0:Int)<=(F.length:Int);omega
  .show(F.length:Int)<=(x.s.l.length:Int);rw[hy,qi];omega
  .simp only[qv];rw[aa,ad,ah,ab,ac];rw[ad]at ae;refine⟨by first|exact rfl|exact qo,?_,?_⟩;.rw[hy,qi];omega
   .rw[ae];exact by repeat' first|apply qaa|exact rfl|exact qo
 .have e:¬p1.wG≠(J.length:Int)+1:=by simpa using e
  have e3:x.e=0:=by simpa using e3
  rw[qe e,qe (qd e2),qe λhh=>hh e3]at hR;subst hR;have ab:x.s.r=w3:=hB.r;have ac:x.s.p=J:=hB.p;have aa:x.s.R=wF.mk Aa Ab Ad Ac Aj Ak Ag Al Ah:=hB.R;have ai:FV x.s.F:=by rw[hB.F];exact frF_FV (by rw[aa];exact hp.d1) (by rw[aa];exact hp.d2) hB.ll hB.lb
  rw[ab,ac];refine⟨rfl,rfl,?_,?_,ai,rfl,rfl,?_,?_,by repeat' first|apply qaa|exact rfl|exact qo⟩;.simp only[qx,qan];omega
  .simp only[qx,qan];unfold maxLen;omega
  .simp only[qx,qan];omega
  .simp only[qx,qan];unfold maxLen;omega
def kis:Ct:=.b ⟨73,[oo],yJ,.one oc,yI,false⟩ yQ [.bool,yqi,yqi,yqi,yqi,yqi,yqu,yqi,yqi,yqu,yqi,yqi,oq,.sl (.st 12),yqu,oq,ow,oq,oq,.sl (.st 13)] λ(M U X Y Z Ak Ag Al Ah Ai Am:Int)(Ae:Li)(Af:List wA)(Ao:Int)(w1 w3:Li)(J:List wT)(B:Li)(F:Lo)=>(UOk (PS.mk (wF.mk M U X Y Z Ak Ag Al Ah) (wI.mk Ai Am Ae) Af Ao w1 w3 J B F),undoS (PS.mk (wF.mk M U X Y Z Ak Ag Al Ah) (wI.mk Ai Am Ae) Af Ao w1 w3 J B F),λR=>(decide (J≠[]),R.R.wd,R.R.wH,R.R.wS,R.R.wO,R.R.wM,R.R.wZ,R.R.wt,R.R.wW,R.R.wU,R.F.wH,R.F.wAF,R.F.wAJ,R.b,R.n,R.k,R.v,R.l,R.r,R.p,()))
theorem kll:kis.O:=pbv Bs Tryz.func73 (.r 1 (.nd [] (rA 0 (.r 0 (.rt [.trimc 0 12,.trimc 0 16,.trimc 0 17]))) [] (.r 4 (.rt [.trimc 0 12,.trimc 0 16,.trimc 0 17])))) (k68.c c0) (Q:=∀Y Z Ad Ac Aj Ak Ag Al Ah Ai Am Ae Af Ao U F B J M,UOk (PS.mk (wF.mk Y Z Ad Ac Aj Ak Ag Al Ah) (wI.mk Ai Am Ae) Af Ao U F B J M)->∀R,undoS (PS.mk (wF.mk Y Z Ad Ac Aj Ak Ag Al Ah) (wI.mk Ai Am Ae) Af Ao U F B J M)=R->iT ((B.length:Int)==0) (lz U/\lz F/\lz B/\lz B/\lz F/\lz U/\false=decide (B≠[])/\Y=R.R.wd/\Z=R.R.wH/\Ad=R.R.wS/\Ac=R.R.wO/\Aj=R.R.wM/\Ak=R.R.wZ/\Ag=R.R.wt/\Al=R.R.wW/\Ah=R.R.wU/\Ai=R.F.wH/\Am=R.F.wAF/\Ae=R.F.wAJ/\Af=R.b/\Ao=R.n/\J=R.k/\M=R.v/\U=R.l/\F=R.r/\B=R.p) ((0<=i64.wrap ((B.length:Int)-1)/\i64.wrap ((B.length:Int)-1)<(B.length:Int))/\(0<=i64.wrap ((B.length:Int)-1)/\i64.wrap ((B.length:Int)-1)<(B.length:Int))/\lz B/\lz F/\lz U/\(M=trs J/\(ix B (i64.wrap ((B.length:Int)-1))).marks.length<=1000000/\0<=(ix B (i64.wrap ((B.length:Int)-1))).leaves/\(ix B (i64.wrap ((B.length:Int)-1))).leaves<=(U.length:Int))/\let r1:=ix B (i64.wrap ((B.length:Int)-1))
let r2:Int:=((ix B (i64.wrap ((B.length:Int)-1))).leaves.toNat:Int)
let r3:Li:=(remS (ix B (i64.wrap ((B.length:Int)-1))).marks J).2
let r4:Lo:=trs (remS (ix B (i64.wrap ((B.length:Int)-1))).marks J).2
(0<=i64.wrap ((B.length:Int)-1)/\i64.wrap ((B.length:Int)-1)<(B.length:Int))/\(0<=i64.wrap ((B.length:Int)-1)/\i64.wrap ((B.length:Int)-1)<(B.length:Int))/\0<=i64.wrap ((B.length:Int)-1)/\i64.wrap ((B.length:Int)-1)<=(B.length:Int)/\0<=i64.wrap ((F.length:Int)-1)/\i64.wrap ((F.length:Int)-1)<=(F.length:Int)/\(0:Int).toNat=0/\r2.toNat<=U.length/\0=0/\(i64.wrap ((F.length:Int)-1)).toNat<=F.length/\0=0/\(i64.wrap ((B.length:Int)-1)).toNat<=(B.set (i64.wrap ((B.length:Int)-1)).toNat (wT.mk 0 0 ([]:Li) 0 ([]:Li) ([]:List wA) 0)).length/\lz ((B.set (i64.wrap ((B.length:Int)-1)).toNat (wT.mk 0 0 ([]:Li) 0 ([]:Li) ([]:List wA) 0)).take (i64.wrap ((B.length:Int)-1)).toNat)/\lz (F.take (i64.wrap ((F.length:Int)-1)).toNat)/\lz (U.take r2.toNat)/\true=decide (B≠[])/\Y=R.R.wd/\Z=R.R.wH/\Ad=R.R.wS/\Ac=R.R.wO/\Aj=R.R.wM/\Ak=R.R.wZ/\Ag=R.R.wt/\Al=R.R.wW/\Ah=R.R.wU/\r1.wBK=R.F.wH/\r1.wBL=R.F.wAF/\r1.wBM=R.F.wAJ/\r1.wBC=R.b/\r1.hidden=R.n/\r3=R.k/\r4=R.v/\U.take r2.toNat=R.l/\F.take (i64.wrap ((F.length:Int)-1)).toNat=R.r/\(B.set (i64.wrap ((B.length:Int)-1)).toNat (wT.mk 0 0 ([]:Li) 0 ([]:Li) ([]:List wA) 0)).take (i64.wrap ((B.length:Int)-1)).toNat=R.p))<|by
 rintro Y Z Ad Ac Aj Ak Ag Al Ah Ai Am Ae Af Ao U F B J M h R X;have hv:M=trs J:=h.v;have aa:1<=F.length:=h.r;have ab:F.length<=1000000:=h.rl;have ac:B.length<=1000000:=h.pl;have hq:B≠[]->(ix B ((B.length:Int)-1)).marks.length<=1000000/\0<=(ix B ((B.length:Int)-1)).leaves/\(ix B ((B.length:Int)-1)).leaves<=(U.length:Int):=h.q;unfold undoS at X;simp only at X;refine⟨λe=>?_,λe=>?_⟩
 .have e:B=[]:=by simpa using e
  rw[qg e]at X;subst X;rw[qat λhh=>hh e];exact by repeat' first|apply qaa|exact rfl|exact qo
 .have e:¬B=[]:=by simpa using e
  have ad:1<=B.length:=qdh.2 e;rw[qe e]at X;obtain⟨q1,q2,q3⟩:=hq e;have e1:i64.wrap ((B.length:Int)-1)=((B.length-1:Nat):Int):=by rw[ko _ qqo qqo];omega
  have e2:i64.wrap ((F.length:Int)-1)=((F.length-1:Nat):Int):=by rw[ko _ qqo qqo];omega
  have e3:(B.length:Int)-1=((B.length-1:Nat):Int):=by omega
  rw[e3]at q1 q2 q3 X;unfold resS at X;subst X;rw[e1,e2,qao e];simp only[qv];rw[take_set'];refine⟨⟨by omega,by omega⟩,⟨by omega,by omega⟩,by first|exact rfl|exact qo,by first|exact rfl|exact qo,by first|exact rfl|exact qo,⟨hv,q1,q2,q3⟩,⟨by omega,by omega⟩,⟨by omega,by omega⟩,by omega,by omega,by omega,by omega,by first|exact rfl|exact qo,by omega,by first|exact rfl|exact qo,by omega,by first|exact rfl|exact qo,?_,by repeat' first|apply qaa|exact rfl|exact qo⟩;rw[qab];omega
def kix:Ct:=.b ⟨35,[oo,oe,oe],yC,.tup [],yB,false⟩ (.sl yqu::.sl yqu::.int .i64::.int .i64::.int .i64::.int .i64::.int .i64::.int .u64::.int .i64::.int .i64::.int .u64::.sl yqu::.int .u64::.int .i64::.bool::yG) (.int .i64::.int .i64::.int .i64::.int .i64::.int .i64::.int .u64::.int .i64::.int .i64::.int .u64::.sl yqu::.int .u64::.int .i64::.bool::yH) λ(p1 p2:Li)(Ab Ad Ac Aj Ak Ag Al Ah Ai:Int)(Ae:Li)(Aq Af:Int)(Ap:Bool)(As At:Int)(Au:List wN)(Az A0 A7 A8 A9 Ba Bb Bc Bd Be Av:Int)(Aw:Li)(Ax:List wA)(Ay:Int)(B:Li)(F:List wR)(X:Lb)(Y:Li)(Z:Lb)(aa:List Li)(ab:Lb)(ac:Lo)(w7 w9:Li)(U:List wT)(J:Li)(M:Lo)=>(B.length=F.length/\MvOk B F (PS.mk (wF.mk Az A0 A7 A8 A9 Ba Bb Bc Bd) (wI.mk Be Av Aw) Ax Ay w7 w9 U J M) p1.length p2,mvS B F (PS.mk (wF.mk Az A0 A7 A8 A9 Ba Bb Bc Bd) (wI.mk Be Av Aw) Ax Ay w7 w9 U J M) p1.length p2,λR=>(Ab,Ad,Ac,Aj,Ak,Ag,Al,Ah,Ai,Ae,Aq,Af,Ap,As,At,Au,R.R.wd,R.R.wH,R.R.wS,R.R.wO,R.R.wM,R.R.wZ,R.R.wt,R.R.wW,R.R.wU,R.F.wH,R.F.wAF,R.F.wAJ,R.b,R.n,B,F,X,Y,Z,aa,ab,ac,R.k,R.v,R.l,R.r,R.p,()))
abbrev Fz3(r:Type):=Int->Int->Int->Int->Int->Int->Int->Int->Int->Int->Int->Int->Li->List wA->Int->Li->Lo->Li->Li->List wT->r
theorem kly:kix.O:=pbv Bs Tryz.func35 (.nd [] (.nd [.trimc 3 17,.trimc 3 16,.trimc 3 12] .no [] (.lp [] ⟨[11,8,3],yK,[10],[oa],[12,13,14]⟩ .no)) [] (lA ⟨[11,8,3],yK,[20],[oa],[15,16,17]⟩ .no)) (kll.c (k87.c c0)) (Q:=∀(p1 Z:Li)(Ab Ad Ac Aj Ak Ag Al Ah Ai:Int)(Ae:Li)(Aq Af:Int)(Ap:Bool)(As At:Int)(Au:List wN)(Az A0 A7 A8 A9 Ba Bb Bc Bd Be Av:Int)(Aw:Li)(Ax:List wA)(Ay:Int)(M:Li)(U:List wR)(ab:Lb)(ac:Li)(ad:Lb)(ae:List Li)(ag:Lb)(ah:Lo)(w7 w9:Li)(aa:List wT)(X:Li)(Y:Lo),M.length=U.length/\MvOk M U (PS.mk (wF.mk Az A0 A7 A8 A9 Ba Bb Bc Bd) (wI.mk Be Av Aw) Ax Ay w7 w9 aa X Y) p1.length Z->∀R,mvS M U (PS.mk (wF.mk Az A0 A7 A8 A9 Ba Bb Bc Bd) (wI.mk Be Av Aw) Ax Ay w7 w9 aa X Y) p1.length Z=R->lz aa/\lz w9/\lz w7/\lz aa/\lz w9/\lz w7/\∃(I1:Fz3 Prop)(M1:Fz3 Nat),I1 0 Az A0 A7 A8 A9 Ba Bb Bc Bd Be Av Aw Ax Ay X Y w7 w9 aa/\∀b1 f1 i1 k1 l1 m1 n1 o1 q1 s1 t1 u1 x1 y1 b2 f2 i2 k2 l2 m2,I1 b1 f1 i1 k1 l1 m1 n1 o1 q1 s1 t1 u1 x1 y1 b2 f2 i2 k2 l2 m2->iD (b1<(p1.length:Int)) (lz m2/\lz l2/\lz k2/\UOk (PS.mk (wF.mk f1 i1 k1 l1 m1 n1 o1 q1 s1) (wI.mk t1 u1 x1) y1 b2 k2 l2 m2 f2 i2)/\let B:=undoS (PS.mk (wF.mk f1 i1 k1 l1 m1 n1 o1 q1 s1) (wI.mk t1 u1 x1) y1 b2 k2 l2 m2 f2 i2)
lz B.p/\lz B.r/\lz B.l/\I1 (i64.wrap (b1+1)) B.R.wd B.R.wH B.R.wS B.R.wO B.R.wM B.R.wZ B.R.wt B.R.wW B.R.wU B.F.wH B.F.wAF B.F.wAJ B.b B.n B.k B.v B.l B.r B.p/\M1 (i64.wrap (b1+1)) B.R.wd B.R.wH B.R.wS B.R.wO B.R.wM B.R.wZ B.R.wt B.R.wW B.R.wU B.F.wH B.F.wAF B.F.wAJ B.b B.n B.k B.v B.l B.r B.p<M1 b1 f1 i1 k1 l1 m1 n1 o1 q1 s1 t1 u1 x1 y1 b2 f2 i2 k2 l2 m2) (lz m2/\lz l2/\lz k2/\∃(I2:Fz3 Prop)(M2:Fz3 Nat),I2 0 f1 i1 k1 l1 m1 n1 o1 q1 s1 t1 u1 x1 y1 b2 f2 i2 k2 l2 m2/\∀n2 o2 q2 s2 t2 u2 x2 y2 b3 f3 i3 k3 l3 m3 n3 o3 q3 s3 t3 u3,I2 n2 o2 q2 s2 t2 u2 x2 y2 b3 f3 i3 k3 l3 m3 n3 o3 q3 s3 t3 u3->iF n2 Z.length (M.length=U.length/\let J:wR:=mVal (BEq.beq (ix Z n2)) M U (default:wR)
lz u3/\lz t3/\lz s3/\((∃c:Nat,c+(wD.mk J.wBB J.wAy J.wBF J.wBI J.wBG J.wBJ).Txs.length<=790/\PI (PS.mk (wF.mk o2 q2 s2 t2 u2 x2 y2 b3 f3) (wI.mk i3 k3 l3) m3 n3 s3 t3 u3 o3 q3) c 0)/\BR' (wD.mk J.wBB J.wAy J.wBF J.wBI J.wBG J.wBJ))/\let r3:Int:=(applyS (PS.mk (wF.mk o2 q2 s2 t2 u2 x2 y2 b3 f3) (wI.mk i3 k3 l3) m3 n3 s3 t3 u3 o3 q3) (wD.mk J.wBB J.wAy J.wBF J.wBI J.wBG J.wBJ)).e
let F:=(applyS (PS.mk (wF.mk o2 q2 s2 t2 u2 x2 y2 b3 f3) (wI.mk i3 k3 l3) m3 n3 s3 t3 u3 o3 q3) (wD.mk J.wBB J.wAy J.wBF J.wBI J.wBG J.wBJ)).s
lz F.p/\lz F.r/\lz F.l/\I2 (i64.wrap (n2+1)) F.R.wd F.R.wH F.R.wS F.R.wO F.R.wM F.R.wZ F.R.wt F.R.wW F.R.wU F.F.wH F.F.wAF F.F.wAJ F.b F.n F.k F.v F.l F.r F.p/\M2 (i64.wrap (n2+1)) F.R.wd F.R.wH F.R.wS F.R.wO F.R.wM F.R.wZ F.R.wt F.R.wW F.R.wU F.F.wH F.F.wAF F.F.wAJ F.b F.n F.k F.v F.l F.r F.p<M2 n2 o2 q2 s2 t2 u2 x2 y2 b3 f3 i3 k3 l3 m3 n3 o3 q3 s3 t3 u3) (lz u3/\lz t3/\lz s3/\Ab=Ab/\Ad=Ad/\Ac=Ac/\Aj=Aj/\Ak=Ak/\Ag=Ag/\Al=Al/\Ah=Ah/\Ai=Ai/\Ae=Ae/\Aq=Aq/\Af=Af/\Ap=Ap/\As=As/\At=At/\Au=Au/\o2=R.R.wd/\q2=R.R.wH/\s2=R.R.wS/\t2=R.R.wO/\u2=R.R.wM/\x2=R.R.wZ/\y2=R.R.wt/\b3=R.R.wW/\f3=R.R.wU/\i3=R.F.wH/\k3=R.F.wAF/\l3=R.F.wAJ/\m3=R.b/\n3=R.n/\M=M/\U=U/\ab=ab/\ac=ac/\ad=ad/\ae=ae/\ag=ag/\ah=ah/\o3=R.k/\q3=R.v/\s3=R.l/\t3=R.r/\u3=R.p)))<|by
 rintro p1 Z Ab Ad Ac Aj Ak Ag Al Ah Ai Ae Aq Af Ap As At Au Az A0 A7 A8 A9 Ba Bb Bc Bd Be Av Aw Ax Ay M U ab ac ad ae ag ah w7 w9 aa X Y h R hR;obtain⟨aj,s0,c,lf,hA⟩:=h;have ak:(auGo (Z.map (gB M U)) s0).s=R:=by rw[<-hR];unfold mvS;rw[hA.base]
 have hc:=hA.hc;have hn:=hA.hn;refine⟨rfl,rfl,rfl,rfl,rfl,rfl,λb f1 f2 f3 f4 f5 f6 f7 f8 f9 t1 t2 t3 y n k v l r p=>∃i:Nat,b=(i:Int)/\i<=p1.length/\PS.mk (wF.mk f1 f2 f3 f4 f5 f6 f7 f8 f9) (wI.mk t1 t2 t3) y n l r p k v=undoN i (PS.mk (wF.mk Az A0 A7 A8 A9 Ba Bb Bc Bd) (wI.mk Be Av Aw) Ax Ay w7 w9 aa X Y),λb _ _ _ _ _ _ _ _ _ _ _ _ _ _ _ _ _ _ _=>(p1.length-b).toNat,⟨0,rfl,qbf _,rfl⟩,?_⟩;rintro _ f1 f2 f3 f4 f5 f6 f7 f8 f9 t1 t2 t3 y n k v l r p⟨i,rfl,hi,hS⟩;refine⟨λe=>?_,λe=>?_⟩;.have e:(i:Int)<p1.length:=qc e;refine⟨rfl,rfl,rfl,by rw[hS];exact hA.uok qqo,?_⟩;rw[inc (i:Int) p1.length qqo e qqo];refine⟨rfl,rfl,rfl,⟨i+1,rfl,by omega,?_⟩,by(first|omega|(dsimp only;omega))⟩;rw[k8c,<-hS]
 .have e:¬(i:Int)<p1.length:=qd e;have hi:i=p1.length:=by omega
  rw[hi,hA.base]at hS;refine⟨rfl,rfl,rfl,λb f1 f2 f3 f4 f5 f6 f7 f8 f9 t1 t2 t3 y n k v l r p=>∃j:Nat,b=(j:Int)/\j<=Z.length/\PS.mk (wF.mk f1 f2 f3 f4 f5 f6 f7 f8 f9) (wI.mk t1 t2 t3) y n l r p k v=(auGo ((Z.take j).map (gB M U)) s0).s,λb _ _ _ _ _ _ _ _ _ _ _ _ _ _ _ _ _ _ _=>(Z.length-b).toNat,⟨0,rfl,qbf _,hS⟩,?_⟩;rintro _ f1 f2 f3 f4 f5 f6 f7 f8 f9 t1 t2 t3 y n k v l r p⟨j,rfl,hj,hT⟩;refine⟨λe=>?_,λe=>?_⟩
  .have e:(j:Int)<Z.length:=qc e;have ai:j<Z.length:=by omega
   obtain⟨g1,g2,g3,g4⟩:=hA.fwd ai;have hx:ix Z (j:Int)=Z[j]:=ix_get _ _ ai;rw[hx,inc (j:Int) Z.length qqo e qqo];refine⟨by omega,e,aj,rfl,rfl,rfl,⟨⟨c+5*j,?_,?_⟩,g2⟩,?_⟩;.show c+5*j+(gB M U Z[j]).Txs.length<=790;omega
   .rw[hT];exact g1
   .refine⟨rfl,rfl,rfl,⟨j+1,rfl,by omega,?_⟩,by(first|omega|(dsimp only;omega))⟩;rw[g4,<-hT];rfl
  .have e:¬(j:Int)<Z.length:=qd e;rw[ql qqo,ak]at hT;subst hT;exact by repeat' first|apply qaa|exact rfl|exact qo
def kf3:Ct:=.b (gk 32 [oo,.agg yE1] yC (.one oa)) (.st 7::.int .i64::.int .i64::.int .i64::.int .i64::.int .i64::.int .u64::.int .i64::.int .i64::.int .u64::.sl yqu::.int .u64::.int .i64::.bool::yG) (.int .i64::.int .i64::.int .i64::.int .i64::.int .i64::.int .i64::.int .u64::.int .i64::.int .i64::.int .u64::.sl yqu::.int .u64::.int .i64::.bool::yG) λ(p1:wD)(Ab Ad Ac Aj Ak Ag Al Ah Ai:Int)(Ae:Li)(Aq Af:Int)(Ap:Bool)(As At:Int)(Au:List wN)(Az A0 A7 A8 A9 Ba Bb Bc Bd Be Av:Int)(Aw:Li)(Ax:List wA)(Ay:Int)(B:Li)(F:List wR)(U:Lb)(X:Li)(Y:Lb)(Z:List Li)(aa:Lb)(ab:Lo)(w7 w9:Li)(ac:List wT)(J:Li)(M:Lo)=>(B.length=F.length,(),λ_=>((parS B F p1:Int),Ab,Ad,Ac,Aj,Ak,Ag,Al,Ah,Ai,Ae,Aq,Af,Ap,As,At,Au,Az,A0,A7,A8,A9,Ba,Bb,Bc,Bd,Be,Av,Aw,Ax,Ay,B,F,U,X,Y,Z,aa,ab,w7,w9,ac,J,M,()))
theorem khl:kf3.O:=pbv Bs Tryz.func32 .no c0 (Q:=∀p1(Ab Ad Ac Aj Ak Ag Al Ah Ai:Int)(Ae:Li)(Aq Af:Int)(Ap:Bool)(As At:Int)(Au:List wN)(Az A0 A7 A8 A9 Ba Bb Bc Bd Be Av:Int)(Aw:Li)(Ax:List wA)(Ay:Int)(B:Li)(F:List wR)(X:Lb)(Y:Li)(Z:Lb)(aa:List Li)(ab:Lb)(ac:Lo)(w7 w9:Li)(U:List wT)(J:Li)(M:Lo),B.length=F.length->∀R:Unit,()=R->iT (p1.wG==1) (iT (p1.wP !=0) (lz U/\lz w9/\lz w7/\18=(parS B F p1:Int)/\Ab=Ab/\Ad=Ad/\Ac=Ac/\Aj=Aj/\Ak=Ak/\Ag=Ag/\Al=Al/\Ah=Ah/\Ai=Ai/\Ae=Ae/\Aq=Aq/\Af=Af/\Ap=Ap/\As=As/\At=At/\Au=Au/\Az=Az/\A0=A0/\A7=A7/\A8=A8/\A9=A9/\Ba=Ba/\Bb=Bb/\Bc=Bc/\Bd=Bd/\Be=Be/\Av=Av/\Aw=Aw/\Ax=Ax/\Ay=Ay/\B=B/\F=F/\X=X/\Y=Y/\Z=Z/\aa=aa/\ab=ab/\ac=ac/\w7=w7/\w9=w9/\U=U/\J=J/\M=M) (lz U/\lz w9/\lz w7/\0=(parS B F p1:Int)/\Ab=Ab/\Ad=Ad/\Ac=Ac/\Aj=Aj/\Ak=Ak/\Ag=Ag/\Al=Al/\Ah=Ah/\Ai=Ai/\Ae=Ae/\Aq=Aq/\Af=Af/\Ap=Ap/\As=As/\At=At/\Au=Au/\Az=Az/\A0=A0/\A7=A7/\A8=A8/\A9=A9/\Ba=Ba/\Bb=Bb/\Bc=Bc/\Bd=Bd/\Be=Be/\Av=Av/\Aw=Aw/\Ax=Ax/\Ay=Ay/\B=B/\F=F/\X=X/\Y=Y/\Z=Z/\aa=aa/\ab=ab/\ac=ac/\w7=w7/\w9=w9/\U=U/\J=J/\M=M)) (B.length=F.length/\let v1:wR:=mVal (BEq.beq p1.wP) B F (default:wR)
iT (!mHas (BEq.beq p1.wP) B) (lz U/\lz w9/\lz w7/\18=(parS B F p1:Int)/\Ab=Ab/\Ad=Ad/\Ac=Ac/\Aj=Aj/\Ak=Ak/\Ag=Ag/\Al=Al/\Ah=Ah/\Ai=Ai/\Ae=Ae/\Aq=Aq/\Af=Af/\Ap=Ap/\As=As/\At=At/\Au=Au/\Az=Az/\A0=A0/\A7=A7/\A8=A8/\A9=A9/\Ba=Ba/\Bb=Bb/\Bc=Bc/\Bd=Bd/\Be=Be/\Av=Av/\Aw=Aw/\Ax=Ax/\Ay=Ay/\B=B/\F=F/\X=X/\Y=Y/\Z=Z/\aa=aa/\ab=ab/\ac=ac/\w7=w7/\w9=w9/\U=U/\J=J/\M=M) (let v2:Bool:=v1.wAy !=i64.wrap (p1.wG-1)
iT v2 (lz U/\lz w9/\lz w7/\18=(parS B F p1:Int)/\Ab=Ab/\Ad=Ad/\Ac=Ac/\Aj=Aj/\Ak=Ak/\Ag=Ag/\Al=Al/\Ah=Ah/\Ai=Ai/\Ae=Ae/\Aq=Aq/\Af=Af/\Ap=Ap/\As=As/\At=At/\Au=Au/\Az=Az/\A0=A0/\A7=A7/\A8=A8/\A9=A9/\Ba=Ba/\Bb=Bb/\Bc=Bc/\Bd=Bd/\Be=Be/\Av=Av/\Aw=Aw/\Ax=Ax/\Ay=Ay/\B=B/\F=F/\X=X/\Y=Y/\Z=Z/\aa=aa/\ab=ab/\ac=ac/\w7=w7/\w9=w9/\U=U/\J=J/\M=M) (lz U/\lz w9/\lz w7/\0=(parS B F p1:Int)/\Ab=Ab/\Ad=Ad/\Ac=Ac/\Aj=Aj/\Ak=Ak/\Ag=Ag/\Al=Al/\Ah=Ah/\Ai=Ai/\Ae=Ae/\Aq=Aq/\Af=Af/\Ap=Ap/\As=As/\At=At/\Au=Au/\Az=Az/\A0=A0/\A7=A7/\A8=A8/\A9=A9/\Ba=Ba/\Bb=Bb/\Bc=Bc/\Bd=Bd/\Be=Be/\Av=Av/\Aw=Aw/\Ax=Ax/\Ay=Ay/\B=B/\F=F/\X=X/\Y=Y/\Z=Z/\aa=aa/\ab=ab/\ac=ac/\w7=w7/\w9=w9/\U=U/\J=J/\M=M))))<|by
 rintro p1 Ab Ad Ac Aj Ak Ag Al Ah Ai Ae Aq Af Ap As At Au Az A0 A7 A8 A9 Ba Bb Bc Bd Be Av Aw Ax Ay B F X Y Z aa ab ac w7 w9 U J M h R hR;unfold parS;refine⟨λe=>?_,λe=>?_⟩
 .rw[qg (by simpa using e)];refine⟨λe2=>?_,λe2=>?_⟩;.rw[qg (by simpa using e2)];exact by repeat' first|apply qaa|exact rfl|exact qo
  .rw[qe (by simpa using e2)];exact by repeat' first|apply qaa|exact rfl|exact qo
 .rw[qe (by simpa using e)];refine⟨h,?_⟩;refine⟨λe2=>?_,λe2=>⟨λe3=>?_,λe3=>?_⟩⟩;.rw[qg (.inl (by simpa using e2))];exact by repeat' first|apply qaa|exact rfl|exact qo
  .rw[qg (.inr (bne_iff_ne.1 e3))];exact by repeat' first|apply qaa|exact rfl|exact qo
  .have e2:mHas (BEq.beq p1.wP) B=true:=by simpa using e2
   rw[qe λhh=>hh.elim (λh2=>by rw[e2]at h2;cases h2) λh2=>h2 (bne_eq_false_iff_eq.1 e3)];exact by repeat' first|apply qaa|exact rfl|exact qo
def k7w:Ct:=.g (gk 87 [og,ou,oa] [.tip yqb] (.one og)) [yqu,yqi,oA] [oA] [] λ(F B:Int)(w0:Li)=>(U64 F/\(0<=B/\B<=8)/\w0.length<=137438953472,w0++dig B.toNat F,())
theorem k1a:k7w.O:=prv Bs Tryz.func87 (rA 0 (lA ⟨[0],[.tip yqb],[0,1,8],[og,ou,oa],[]⟩ .no)) c0 (Q:=∀F B w0,U64 F/\(0<=B/\B<=8)/\w0.length<=137438953472->∀e0,w0++dig B.toNat F=e0->w0=w0/\∃J U,J F 0 w0/\∀b1 f1 i1,J b1 f1 i1->iD (f1<B) (iL i1 [IntKind.u8.wrap b1] 1 (i1++[IntKind.u8.wrap b1]=i1++[IntKind.u8.wrap b1]/\ss3 J U b1 (ishr .u64 b1 8) f1 (i64.wrap (f1+1)) i1 (i1++[IntKind.u8.wrap b1]))) (i1=i1/\i1=e0))<|by
 rintro F B w0 h _ rfl;obtain⟨h1,Y,Z⟩:=h;refine⟨rfl,⟨λn i g=>0<=i/\i<=B/\U64 n/\n=F/256^i.toNat/\g=w0++dig i.toNat F,λ_ i _=>(B-i).toNat,⟨by omega,by omega,h1,by simp,by simp[dig]⟩,?_⟩⟩;rintro n i g⟨X,g1,g2,M,rfl⟩;refine⟨λh=>?_,λh=>?_⟩
 .have h:=qc h;rw[inc i B X h qqo,ishr8,u8w];refine⟨rfl,?_,?_,rfl,⟨by omega,by omega,by omega,?_,?_⟩,by(dsimp only;omega)⟩;.simp;omega
  .simp;unfold maxLen;omega
  .rw[M,show(i+1).toNat=i.toNat+1 by omega,qcs (qcq (k1l _)),qcp]
  .rw[show(i+1).toNat=i.toNat+1 by omega,k5j,qn,M]
 .have h:=qd h;exact⟨rfl,by rw[show i=B by omega]⟩
def k7r:Ct:=.g (gk 85 [og,oa] [.tip yqb] (.one og)) [yqi,oA] [oA] [] λ(B:Int)(w0:Li)=>((-9223372036854775808<=B/\B<=9223372036854775807)/\w0.length<=137438953472,w0++dig 4 (len4 B),())
theorem k19:k7r.O:=prv Bs Tryz.func85 (.r 0 (.jn (oB [1] [oa]) [] .no [] .no)) (k1a.c c0) (Q:=∀B w0,(-9223372036854775808<=B/\B<=9223372036854775807)/\w0.length<=137438953472->∀e0,w0++dig 4 (len4 B)=e0->∀F:oD,(∀J,(w0=w0/\(U64 (u64.wrap J)/\(0<=(4:Int)/\(4:Int)<=8)/\w0.length<=137438953472)/\let M:=w0++dig (4:Int).toNat (u64.wrap J)
M=M/\M=e0)->F J)->iD (B<0) (F 0) (iD (4294967295<B) (F 0) (F B)))<|by
 rintro B w0 h _ rfl;intro F X;have j:∀n,0<=n->n<=4294967295->len4 B=n->F n:=by intro n Y h1 e;refine X _ ?_;rw[wu n qqo qqo,e];exact⟨rfl,by omega,by trivial,rfl⟩
 refine⟨λh=>j 0 qqo qqo ?_,λh=>⟨λh'=>j 0 qqo qqo ?_,λh'=>j B ?_ ?_ ?_⟩⟩;.have h:=qc h;exact qg (.inl h)
 .have h':=qc h';exact qg (.inr h')
 .have h:=qd h;omega
 .have h':=qd h';omega
 .have h:=qd h;have h':=qd h';exact len4_in (by omega)
def kh8:Ct:=.g ⟨86,[.one (.d oA),oa],[],.one og,[.tip yqb],false⟩ [oA,yqi] [oA] [] λ(B:Li)(F:Int)=>(0<=F/\B.length+F<=140737488355328,B,())
theorem k1o:kh8.O:=prv Bs Tryz.func86 (.r 3 (.rt [.frz 0 [4]])) c0 (Q:=∀B(F:Int),0<=F/\B.length+F<=140737488355328->∀e0,B=e0->let J:=i64.wrap (B.length+F)
0<=(B.length:Int)/\B.length<=J/\J.toNat*1<=140737488355328/\J.toNat<=maxLen/\(B.length:Int).toNat=(List.replicate (B.length:Int).toNat (0:Int)).length/\let M:=min B.length (List.replicate (B.length:Int).toNat 0).length
(B.length:Int).toNat=(rowOver (List.replicate (B.length:Int).toNat 0) B (List.replicate (B.length:Int).toNat (0:Int)).length).length/\rowOver (List.replicate (B.length:Int).toNat 0) B (List.replicate (B.length:Int).toNat (0:Int)).length=rowOver (List.replicate (B.length:Int).toNat (0:Int)) B (List.replicate (B.length:Int).toNat (0:Int)).length/\rowOver (List.replicate (B.length:Int).toNat (0:Int)) B (List.replicate (B.length:Int).toNat (0:Int)).length=e0)<|by rintro B F h _ rfl;obtain⟨h1,U⟩:=h;refine ?_;rw[wi _ qqo qqo];have e:rowOver (List.replicate (B.length:Int).toNat (0:Int)) B (List.replicate (B.length:Int).toNat (0:Int)).length=B:=kdk _ _ qqs;simp only[e];exact⟨by omega,by omega,by omega,by unfold maxLen;omega,by simp,by omega,by trivial,by trivial⟩
def kio:Ct:=.gp 246 [oA,oA] [oA] [] λ(B F:Li)=>(B.length<=68719476736/\F.length<=4294967295,B++encB F,())
theorem kl3:kio.O:=qrv Bs Tryz.func246 .no (k1o.c (k19.c c0)) (Q:=∀F B,F.length<=68719476736/\B.length<=4294967295->∀r0,F++encB B=r0->(0<=i64.wrap (4+B.length)/\F.length+i64.wrap (4+B.length)<=140737488355328)/\F=F/\((-9223372036854775808<=(B.length:Int)/\(B.length:Int)<=9223372036854775807)/\F.length<=137438953472)/\lz (F++dig 4 (len4 B.length))/\((F++dig 4 (len4 B.length)).length+B.length)*1<=140737488355328/\(F++dig 4 (len4 B.length)).length+B.length<=maxLen/\let J:=F++dig 4 (len4 B.length)++B
J=r0)<|by
 rintro F B h _ rfl;rw[wi (4+B.length) qqo qqo];refine⟨by omega,by trivial,by omega,by trivial,?_,?_,?_⟩;.simp;omega
 .simp;unfold maxLen;omega
 .rw[qn];rfl
def kpf:Ct:=.gp 52 [oA,yqi] [oA] [] λ(F:Li)(B:Int)=>((-9223372036854775808<=B/\B<=9223372036854775807)/\F.length<=137438953472,F++dig 4 (len4 B),())
theorem k7d:kpf.O:=qrv Bs Tryz.func52 .no (k1o.c (k19.c c0)) (Q:=∀B F,(-9223372036854775808<=F/\F<=9223372036854775807)/\B.length<=137438953472->∀r0,B++dig 4 (len4 F)=r0->(0<=(4:Int)/\B.length+(4:Int)<=140737488355328)/\B=B/\((-9223372036854775808<=F/\F<=9223372036854775807)/\B.length<=137438953472)/\B++dig 4 (len4 F)=r0)<|by rintro B F h _ rfl;obtain⟨h1,J⟩:=h;exact⟨by omega,by trivial,⟨h1,J⟩,rfl⟩
def kmj:Ct:=.gp 53 yR1 [oA] [] λ(F B:Li)=>(Us B/\F.length<=68719476736/\B.length<=4294967295,F++encL B,())
theorem kbk:kmj.O:=qrv Bs Tryz.func53 (rA 1 (lA ⟨[0],[.tip yqb],[5,19],[og,oa],[]⟩ .no)) (k1o.c (k19.c (k1a.c c0))) (Q:=∀F B,Us B/\F.length<=68719476736/\B.length<=4294967295->∀r0,F++encL B=r0->let U:=i64.wrap (4+i64.wrap (8*B.length))
(0<=U/\F.length+U<=140737488355328)/\F=F/\((-9223372036854775808<=(B.length:Int)/\(B.length:Int)<=9223372036854775807)/\F.length<=137438953472)/\F++dig 4 (len4 B.length)=F++dig 4 (len4 B.length)/\∃M X,M 0 (F++dig 4 (len4 B.length))/\∀b1 f1,M b1 f1->iF b1 B.length (f1=f1/\(U64 (ix B b1)/\(0<=(8:Int)/\(8:Int)<=8)/\f1.length<=137438953472)/\f1++dig (8:Int).toNat (ix B b1)=f1++dig (8:Int).toNat (ix B b1)/\ss2 M X b1 (i64.wrap (b1+1)) f1 (f1++dig (8:Int).toNat (ix B b1))) (f1=r0))<|by
 rintro F B h _ rfl;obtain⟨h1,Z,h3⟩:=h;refine ?_;rw[wi (8*(B.length:Int)) qqo qqo,wi (4+8*(B.length:Int)) qqo qqo];refine⟨⟨by omega,by omega⟩,by trivial,⟨by omega,by omega⟩,by trivial,?_⟩;refine⟨λi g=>0<=i/\i<=B.length/\g=F++dig 4 (len4 B.length)++(B.take i.toNat).flatMap (dig 8),λi _=>(B.length-i).toNat,⟨by omega,by omega,by simp⟩,?_⟩;rintro i g⟨J,g1,rfl⟩;refine⟨λh=>?_,λh=>?_⟩
 .have h:=qc h;have Y:=h1 _ (ix_mem B i J h);rw[inc i B.length J h qqo];refine⟨J,h,by trivial,⟨Y,by omega,?_⟩,by trivial,⟨by omega,by omega,?_⟩,by(dsimp only;omega)⟩;.simp only[qi,ke,ku,qu];omega
  .rw[kg B i J h,qbp,qn];simp
 .have h:=qd h;rw[ql qqo,qn];rfl
def klt:Ct:=.gp 55 [oA,yqu] [oA] [] λ(B:Li)(F:Int)=>(U64 F/\B.length<=137438953472,B++dig 8 F,())
theorem k3v:klt.O:=qrv Bs Tryz.func55 .no (k1o.c (k1a.c c0)) (Q:=∀B F,U64 F/\B.length<=137438953472->∀r0,B++dig 8 F=r0->(0<=(8:Int)/\B.length+(8:Int)<=140737488355328)/\B=B/\(U64 F/\(0<=(8:Int)/\(8:Int)<=8)/\B.length<=137438953472)/\B++dig (8:Int).toNat F=r0)<|by rintro B F h _ rfl;refine⟨by omega,by trivial,by omega,rfl⟩
def kmn:Ct:=.gp 165 [.st 3,oA] [oA] [] λ(B:wh)(F:Li)=>(TR B/\TL B/\B.wB.length<=1048576/\(∀x∈B.wB,x.wm.length<=1024)/\F.length<=4294967295,encT B F,())
theorem kcb:kmn.O:=qrv Bs Tryz.func165 (rA 3 (lA (oB [5,23] [.one (.d oA),oa]) .no)) (k3v.c (kbk.c (k7d.c (kl3.c c0)))) (Q:=∀B M,TR B/\TL B/\B.wB.length<=1048576/\(∀x∈B.wB,x.wm.length<=1024)/\M.length<=4294967295->∀r0,encT B M=r0->(U64 B.wX/\([]:Li).length<=137438953472)/\(Us B.wC/\([]++dig 8 B.wX).length<=68719476736/\B.wC.length<=4294967295)/\let r1:=([]:Li)++dig 8 B.wX++encL B.wC
((-9223372036854775808<=(B.wB.length:Int)/\(B.wB.length:Int)<=9223372036854775807)/\r1.length<=137438953472)/\let r2:Li:=r1++dig 4 (len4 (B.wB.length:Int))
∃(Y:Li->Int->Prop)(M1:Li->Int->Nat),Y r2 0/\∀b1 f1,Y b1 f1->iF f1 B.wB.length ((U64 (ix B.wB f1).wl/\b1.length<=137438953472)/\(U64 (ix B.wB f1).wAY/\(b1++dig 8 (ix B.wB f1).wl).length<=137438953472)/\let Z:Li:=b1++dig 8 (ix B.wB f1).wl++dig 8 (ix B.wB f1).wAY
(U64 (ix B.wB f1).wAV/\Z.length<=137438953472)/\(Us (ix B.wB f1).wm/\(Z++dig 8 (ix B.wB f1).wAV).length<=68719476736/\((ix B.wB f1).wm).length<=4294967295)/\let r4:Li:=Z++dig 8 (ix B.wB f1).wAV++encL (ix B.wB f1).wm
ss2 Y M1 b1 r4 f1 (i64.wrap (f1+1))) ((U64 B.wJ/\b1.length<=137438953472)/\(U64 B.wL/\(b1++dig 8 B.wJ).length<=137438953472)/\let r5:Li:=b1++dig 8 B.wJ++dig 8 B.wL
(U64 B.Fee/\r5.length<=137438953472)/\(U64 B.wQ/\(r5++dig 8 B.Fee).length<=137438953472)/\let r6:Li:=r5++dig 8 B.Fee++dig 8 B.wQ
(U64 B.wK/\r6.length<=137438953472)/\((-9223372036854775808<=B.wAG/\B.wAG<=9223372036854775807)/\(r6++dig 8 B.wK).length<=137438953472)/\let r7:Li:=r6++dig 8 B.wK++dig 4 (len4 B.wAG)
(r7.length<=68719476736/\M.length<=4294967295)/\r7++encB M=r0))<|by
 rintro B M h _ rfl;obtain⟨F,hl,ho,hc,hp⟩:=h;have hm:=hl.m;have aa:=k22;refine⟨⟨F.a,by simp⟩,⟨F.m,by simp,hm⟩,⟨by omega,by simp;omega⟩,?_⟩;refine⟨λb i=>0<=i/\i<=B.wB.length/\b=dig 8 B.wX++encL B.wC++dig 4 (len4 B.wB.length)++(B.wB.take i.toNat).flatMap encO,λ_ i=>(B.wB.length-i).toNat,⟨by omega,by omega,by simp⟩,?_⟩;rintro b i⟨U,g1,rfl⟩;have X:=k22 (B.wB.take i.toNat) 1024 λx J=>hc x (qba J);rw[qu]at X;have X:((B.wB.take i.toNat).flatMap encO).length<=8700000000:=by
  refine qbd X ?_;have:min i.toNat B.wB.length<=1048576:=by omega
  have:=Nat.mul_le_mul_left (28+8*1024) this;omega
 refine⟨λh=>?_,λh=>?_⟩
 .have h:=qc h;have J:=F.o _ (ix_mem B.wB i U h);have ab:=hc _ (ix_mem B.wB i U h);rw[inc i B.wB.length U h qqo];refine⟨U,h,⟨J.c,?_⟩,⟨J.p0,?_⟩,⟨J.p1,?_⟩,⟨J.ci,?_,by omega⟩,⟨by omega,by omega,?_⟩,by(dsimp only;omega)⟩;.simp only[qi,ke,km];omega
  .simp only[qi,ke,km];omega
  .simp only[qi,ke,km];omega
  .simp only[qi,ke,km];omega
  .rw[kg B.wB i U h,qbp];simp[encO,qn]
 .have h:=qd h;rw[ql qqo]at X⊢;refine⟨⟨F.d,?_⟩,⟨F.w,?_⟩,⟨F.f,?_⟩,⟨F.ac,?_⟩,⟨F.n,?_⟩,⟨F.e,?_⟩,⟨?_,hp⟩,rfl⟩<;>simp only[qi,ke,km]<;>omega
def kmg:Ct:=.gp 140 [.st 3] [oA,yqi] [] λ(B:wh)=>(TR B,(if validE B=0 then encT B B.wAH else[]:Li),validE B,())
theorem kc7:kmg.O:=qrv Bs Tryz.func140 .no (k21.c (kcb.c c0)) (Q:=∀B,TR B->∀r0,(if validE B=0 then encT B B.wAH else[])=r0->∀r1,validE B=r1->iT (validE B !=0) ([]=r0/\validE B=r1) ((TR B/\TL B/\B.wB.length<=1048576/\(∀x∈B.wB,x.wm.length<=1024)/\B.wAH.length<=4294967295)/\encT B B.wAH=r0/\0=r1))<|by
 rintro B h _ rfl _ rfl;refine⟨λe=>?_,λe=>?_⟩
 .have e:validE B≠0:=by simpa using e
  rw[qe e];exact⟨rfl,rfl⟩
 .have e:validE B=0:=by simpa using e
  have v:=(kj B).1 e;rw[qg e,e];exact⟨⟨h,v.tl,by have:=v.ol;omega,λx F=>by have:=(v.o x F).l;omega,v.tl.p⟩,rfl,rfl⟩
def kmm:Ct:=.gp 100 [.st 3] [yqi] [] λ(B:wh)=>(TR B,weightS B,())
theorem kn6:kmm.O:=qrv Bs Tryz.func100 .no (kc7.c c0) (Q:=∀B,TR B->∀r0,weightS B=r0->TR B/\let F:=if validE B=0 then encT B B.wAH else[]
iT (validE B !=0) (0=r0) (F.length=r0))<|by
 rintro B h _ rfl;refine⟨h,?_⟩;unfold weightS;refine⟨λe=>?_,λe=>?_⟩
 .have e:validE B≠0:=by simpa using e
  rw[qe e]
 .have e:validE B=0:=by simpa using e
  rw[qg e,qg e]
def kh3:Ct:=.gp 67 [.st 7] [yqi] [] λ(B:wD)=>(∀x∈B.Txs,TR x,validB B,())
theorem k81:kh3.O:=qrv Bs Tryz.func67 (.r 0 (.jn (oB [] []) [] (nA (.jn (oB [6] [oc]) [] .no [] (.r 0 (.jn (oB [6] [oc]) [] .no [] (.r 0 (oC 6)))))) [] (rA 0 (lA (oB [3,38] [oa,oa]) .no)))) (k21.c (kn6.c c0)) (Q:=∀B,(∀x∈B.Txs,TR x)->∀r0,validB B=r0->∀X,((∃I1 M1,I1 0 0/\∀k1 l1,I1 k1 l1->iF l1 B.Txs.length (iT (validE (ix B.Txs l1)!=0) (1=r0) (TR (ix B.Txs l1)/\let v2:=i64.wrap (k1+weightS (ix B.Txs l1))
ss2 I1 M1 k1 v2 l1 (i64.wrap (l1+1)))) (iD (2097152<k1) (3=r0) (0=r0)))->X)->∀J2:oE,(∀b1,iT b1 (iT b1 (1=r0) X) (∀J3:oE,(∀(f1:Bool),iT f1 (iT f1 (1=r0) X) (∀J4:oE,(∀(i1:Bool),iT i1 (iT i1 (1=r0) X) (iD (64<(B.Txs.length:Int)) (1=r0) X)->J4 i1)->let v1:Bool:=decide (18446744069414584321<=B.wP)
iT v1 (J4 true) (J4 (decide (18446744069414584321<=B.wAM))))->J3 f1)->iD (B.wU<1) (J3 true) (J3 (decide (65536<B.wU))))->J2 b1)->iD (B.wG<1) (J2 true) (J2 (decide (1048576<B.wG))))<|by
 rintro B h _ rfl;have nv:¬VB0 B->(1:Int)=validB B:=λhn=>(kdp hn).symm;intro X k1;have j1:VB0 B->X:=λhc=>k1 (by
  have hl:=hc.l;refine⟨λw i=>0<=i/\i<=B.Txs.length/\w=sumW (B.Txs.take i.toNat)/\∀t∈B.Txs.take i.toNat,validE t=0,λ_ i=>(B.Txs.length-i).toNat,⟨by omega,by omega,by simp[sumW],by simp⟩,?_⟩;rintro w i⟨Y,g1,rfl,g3⟩;have hb:=sumW_bd _ g3;rw[qu]at hb;refine⟨λM=>?_,λM=>?_⟩
  .have M:=qc M;have hm:=ix_mem B.Txs i Y M;refine⟨Y,M,λe=>?_,λe=>⟨h _ hm,?_⟩⟩
   .have e:validE (ix B.Txs i)≠0:=by simpa using e
    exact(kkm hm e).symm
   .have e:validE (ix B.Txs i)=0:=by simpa using e
    have hw:=k8s e;try simp only[]
    rw[inc i B.Txs.length Y M qqo,wi (sumW (B.Txs.take i.toNat)+weightS (ix B.Txs i)) qqo qqo];refine⟨⟨by omega,by omega,?_,?_⟩,by(first|omega|(dsimp only;omega))⟩;.rw[kg B.Txs i Y M,kpd]
    .rw[kg B.Txs i Y M];intro t Z;rcases qae.1 Z with Z|Z;.exact g3 t Z
     .rw[qah.1 Z];exact e
  .have M:=qd M;rw[ql qqo]at g3 hb⊢;rw[kk6 hc g3];refine⟨λe=>?_,λe=>?_⟩;.have e:=qc e;rw[qe qqo]
   .have e:=qd e;rw[qg qqo]);intro J2 k2;have j2:∀b:Bool,(b=true->¬VB0 B)->(b=false->1<=B.wG/\B.wG<=1048576)->J2 b:=λb h1 h2=>k2 b ⟨λe=>⟨λ_=>nv (h1 e),λU=>by rw[e]at U;cases U⟩,λe=>by
  intro J3 k3;have j3:∀b:Bool,(b=true->¬VB0 B)->(b=false->1<=B.wU/\B.wU<=65536)->J3 b:=λb h3 h4=>k3 b ⟨λe=>⟨λ_=>nv (h3 e),λU=>by rw[e]at U;cases U⟩,λe3=>by intro J4 k4;have j4:∀b:Bool,(b=true->¬VB0 B)->(b=false->B.wP<18446744069414584321/\B.wAM<18446744069414584321)->J4 b:=λb h5 h6=>k4 b ⟨λe=>⟨λ_=>nv (h5 e),λU=>by rw[e]at U;cases U⟩,λe5=>⟨λF=>nv λv=>by have:=qc F;have:=v.l;omega,λF=>j1 ⟨(h2 e).1,(h2 e).2,(h4 e3).1,(h4 e3).2,(h6 e5).1,(h6 e5).2,by have:=qd F;omega⟩⟩⟩;exact⟨λF=>j4 true λ_ v=>by have:=qc F;have:=v.p;omega (λh=>by cases h),λF=>j4 _ λJ v=>by have:=qc J;have:=v.m;omega λJ=>⟨by have:=qd F;omega,by have:=qd J;omega⟩⟩⟩;exact⟨λF=>j3 true λ_ v=>by have:=qc F;have:=v.w0;omega (λh=>by cases h),λF=>j3 _ λJ v=>by have:=qc J;have:=v.w1;omega λJ=>⟨by have:=qd F;omega,by have:=qd J;omega⟩⟩⟩;exact⟨λF=>j2 true λ_ v=>by have:=qc F;have:=v.h0;omega (λh=>by cases h),λF=>j2 _ λJ v=>by have:=qc J;have:=v.h1;omega λJ=>⟨by have:=qd F;omega,by have:=qd J;omega⟩⟩
def kel:Ct:=.gp 101 [.st 7] [oA] [] λ(B:wD)=>(BR B/\B.Txs.length<=64,hdrS B,())
theorem kgr:kel.O:=qrv Bs Tryz.func101 .no (k3v.c (k7d.c c0)) (Q:=∀B,BR B/\B.Txs.length<=64->∀r0,hdrS B=r0->(U64 B.wP/\([]:Li).length<=137438953472)/\((-9223372036854775808<=B.wG/\B.wG<=9223372036854775807)/\([]++dig 8 B.wP).length<=137438953472)/\let J:=[]++dig 8 B.wP++dig 4 (len4 B.wG)
(U64 B.wAM/\J.length<=137438953472)/\(U64 B.wU/\(J++dig 8 B.wAM).length<=137438953472)/\let M:=J++dig 8 B.wAM++dig 8 B.wU
(U64 B.wK/\M.length<=137438953472)/\((-9223372036854775808<=(B.Txs.length:Int)/\(B.Txs.length:Int)<=9223372036854775807)/\(M++dig 8 B.wK).length<=137438953472)/\let U:=M++dig 8 B.wK++dig 4 (len4 B.Txs.length)
U=r0)<|by rintro B h _ rfl;obtain⟨F,X⟩:=h;refine⟨⟨F.p,by simp⟩,⟨F.h,by simp⟩,⟨F.m,by simp⟩,⟨F.w,by simp⟩,⟨F.n,by simp⟩,⟨by omega,by simp⟩,?_⟩;simp[hdrS]
def kgf:Ct:=.gp 141 [oA] [oq] [] λ(B:Li)=>(By B/\B.length<=1099511627776,packS B,())
theorem kir:kgf.O:=qrv Bs Tryz.func141 (rA 2 (.r 0 (.lp [.frz 0 [3]] ⟨[1],[.tip yqu],[3,4],[og,oa],[]⟩ (rA 0 (rA 1 (lA (oB [6,37] [ou,oa]) .no)))))) c0 (Q:=∀B,By B/\B.length<=1099511627776->∀r0,packS B=r0->let v1:=i64.wrap (i64.wrap (B.length+7)-1)
let Z:=i64.wrap (1+i64.wrap (Int.tdiv v1 7))
0<=(1:Int)/\(1:Int)<=Z/\Z.toNat*8<=140737488355328/\Z.toNat<=maxLen/\(0<=(0:Int)/\0<(1:Int))/\(0<=(0:Int)/\0<((List.replicate 1 (0:Int)).length:Int))/\1=((List.replicate 1 (0:Int)).set (0:Int).toNat (u64.wrap (B.length:Int))).length/\(List.replicate 1 (0:Int)).set (0:Int).toNat (u64.wrap (B.length:Int))=(List.replicate 1 (0:Int)).set (0:Int).toNat (u64.wrap (B.length:Int))/\∃(I1:oH)(M1:oJ),I1 0 ((List.replicate 1 (0:Int)).set (0:Int).toNat (u64.wrap (B.length:Int)))/\∀b1 f1,I1 b1 f1->iD (b1<(B.length:Int)) (let M:Int:=if(B.length:Int)<i64.wrap (b1+7)then(B.length:Int)else i64.wrap (b1+7)
0<=b1/\b1<=M/\M<=(B.length:Int)/\let v4:Int:=(((B.take M.toNat).drop b1.toNat).length:Int)
∃(I2:oF)(M2:oI),I2 0 0/\∀i1 k1,I2 i1 k1->iD (k1<v4) (iR k1 ((B.take M.toNat).drop b1.toNat).length (let v5:Int:=u64.wrap (ix ((B.take M.toNat).drop b1.toNat) k1)
0<=i64.wrap (8*k1)/\let v6:Int:=ior .u64 i1 (ishl .u64 v5 (i64.wrap (8*k1)))
ss2 I2 M2 i1 v6 k1 (i64.wrap (k1+1)))) (iL f1 [i1] 8 (f1++[i1]=f1++[i1]/\ss2 I1 M1 b1 (i64.wrap (b1+7)) f1 (f1++[i1])))) (f1=r0))<|by
 rintro B h _ rfl;obtain⟨hb,hl⟩:=h;refine ?_;rw[wi ((B.length:Int)+7) qqo qqo,wi ((B.length:Int)+7-1) qqo qqo];try simp only[]
 rw[tdiv_nn _ _ qqo,wi (((B.length:Int)+7-1)/7) qqo qqo,wi (1+((B.length:Int)+7-1)/7) qqo qqo,wu (B.length:Int) qqo qqo];refine⟨by omega,by omega,by omega,by unfold maxLen;omega,by omega,⟨by omega,by decide⟩,by trivial,by trivial,?_⟩;refine⟨λi g=>0<=i/\i<=B.length+7/\g++packN B.length (B.drop i.toNat)=packS B/\(g.length:Int)<=1+i,λi _=>(B.length+7-i).toNat,⟨by omega,by omega,rfl,by show(1:Int)<=_;omega⟩,?_⟩;rintro i g⟨g0,g1,Y,g3⟩;refine⟨λh=>?_,λh=>?_⟩
 .have h:=qc h;have h7:i64.wrap (i+7)=i+7:=wi (i+7) qqo qqo;rw[h7];have ev:(B.take (if(B.length:Int)<i+7 then(B.length:Int)else i+7).toNat).drop i.toNat=(B.drop i.toNat).take 7:=by
   split;.rw[qv,qcb,ql qqm]
   .rw[List.drop_take,show(i+7).toNat-i.toNat=7 by omega]
  simp only[ev];refine⟨g0,by split<;>omega,by split<;>omega,?_⟩;have U:By ((B.drop i.toNat).take 7):=(hb.drop _).take _;have aa:((B.drop i.toNat).take 7).length<=7:=by simp;omega
  have J:g++[val ((B.drop i.toNat).take 7)]++packN B.length (B.drop (i+7).toNat)=packS B:=by
   rw[<-Y,qn];congr 1;have h5:(B.drop i.toNat).length<=B.length:=by simp
   have h6:=k5e B.length (B.drop i.toNat) h5 (by intro h7;have:=congrArg List.length h7;simp at this;omega);rw[h6,qdf,show i.toNat+7=(i+7).toNat by omega];rfl
  generalize(B.drop i.toNat).take 7=part at*;refine⟨λn k=>0<=k/\k<=part.length/\n=val (part.take k.toNat),λ_ k=>(part.length-k).toNat,⟨by omega,by omega,rfl⟩,?_⟩;rintro n k⟨k0,k1,rfl⟩;refine⟨λF=>?_,λF=>?_⟩
  .have F:=qc F;have hx:=U _ (ix_mem part k k0 F);have X:((part.take k.toNat).length:Int)=k:=by rw[qu];omega
   rw[wi (8*k) qqo qqo,wu (ix part k) qqo qqo,wi (k+1) qqo qqo];have:=ior_val (part.take k.toNat) (ix part k) (U.take _) qqo hx;rw[X]at this;simp only[this];refine⟨k0,F,by omega,⟨by omega,by omega,?_⟩,by(first|omega|(dsimp only;omega))⟩;rw[kg part k k0 F]
  .have F:=qd F;have e1:part.take k.toNat=part:=ql qqo;rw[e1];refine⟨by trivial,by simp only[qx,qan];omega,by simp only[qx,qan];unfold maxLen;omega,by trivial,(?_:0<=i+7/\i+7<=B.length+7/\_/\_),(?_:(B.length+7-(i+7)).toNat<(B.length+7-i).toNat)⟩;.exact⟨by omega,by omega,J,by simp only[qi,qx,qan];omega⟩
   .omega
 .have h:=qd h;rw[qas qqo]at Y;have:packN B.length ([]:Li)=[]:=by cases B.length<;>rfl
  rw[this,qcm]at Y;exact Y
def k90:Ct:=.gp 102 [yqu,oA] [yqu] [] λ(F:Int)(B:Li)=>(U64 F/\By B/\B.length<=1099511627775,hashB F B,())
theorem k2h:k90.O:=qrv Bs Tryz.func102 .no (kir.c (k1c.c c0)) (Q:=∀F B,U64 F/\By B/\B.length<=1099511627775->∀r0,hashB F B=r0->(By B/\B.length<=1099511627776)/\((18446744069414584321:Int)=18446744069414584321/\U64 F/\Us (packS B)/\(packS B).length<=1099511627776)/\hashS F (packS B)=r0)<|by
 rintro F B h _ rfl;obtain⟨h1,M,U⟩:=h;refine⟨⟨M,by omega⟩,⟨rfl,h1,?_,?_⟩,rfl⟩
 .intro x J;rcases qak.1 J with rfl|J;.omega
  .exact kek _ _ M x J
 .have:=k3u B.length B;simp only[packS,qx];omega
def k9j:Ct:=.gp 68 [.st 7,oq] [yqu] [] λ(B:wD)(F:Li)=>(BR B/\B.Txs.length<=64/\Us F/\F.length<=64,hashB 15 (hdrS B++F.flatMap (dig 8)),())
theorem k40:k9j.O:=qrv Bs Tryz.func68 (rA 1 (lA (oB [5,12] [.one (.d oA),oa]) .no)) (kgr.c (k3v.c (k2h.c c0))) (Q:=∀F B,BR F/\F.Txs.length<=64/\Us B/\B.length<=64->∀r0,hashB 15 (hdrS F++B.flatMap (dig 8))=r0->(BR F/\F.Txs.length<=64)/\∃U Y,U (hdrS F) 0/\∀b1 f1,U b1 f1->iF f1 B.length ((U64 (ix B f1)/\b1.length<=137438953472)/\ss2 U Y b1 (b1++dig 8 (ix B f1)) f1 (i64.wrap (f1+1))) ((U64 15/\By b1/\b1.length<=1099511627775)/\hashB 15 b1=r0))<|by
 rintro F B h _ rfl;obtain⟨Z,hl,hu,aa⟩:=h;refine⟨⟨Z,hl⟩,⟨λl i=>0<=i/\i<=B.length/\l=hdrS F++(B.take i.toNat).flatMap (dig 8),λ_ i=>(B.length-i).toNat,⟨by omega,by omega,by simp⟩,?_⟩⟩;rintro l i⟨M,g1,rfl⟩;have X:(hdrS F++(B.take i.toNat).flatMap (dig 8)).length<=1000:=by rw[qi,k7m,ku,qu];omega
 refine⟨λJ=>?_,λJ=>?_⟩;.have J:=qc J;have hm:=ix_mem B i M J;rw[inc i B.length M J qqo];refine⟨M,J,⟨hu _ hm,by omega⟩,⟨by omega,by omega,?_⟩,by((dsimp only;omega))⟩;rw[kg B i M J,qbp,qn];simp
 .have J:=qd J;rw[ql qqo]at X⊢;exact⟨⟨by omega,(hdrS_by F).append (kee B),by omega⟩,rfl⟩
def ku8:Ct:=.gp 103 [.st 3] [yqu] [] λ(B:wh)=>(TR B,idS B,())
theorem kus:ku8.O:=qrv Bs Tryz.func103 .no (kc7.c (k2h.c c0)) (Q:=∀B,TR B->∀r0,idS B=r0->TR B/\let F:=if validE B=0 then encT B B.wAH else[]
iT (validE B !=0) (0=r0) ((U64 14/\By F/\F.length<=1099511627775)/\hashB 14 F=r0))<|by
 rintro B h _ rfl;refine⟨h,?_⟩;unfold idS;refine⟨λe=>?_,λe=>?_⟩
 .have e:validE B≠0:=by simpa using e
  rw[qe e]
 .have e:validE B=0:=by simpa using e
  have v:=(kj B).1 e;rw[qg e,qg e];exact⟨⟨by omega,encT_by h.p,by have:=v.enc_len B.wAH;have:=v.pl;omega⟩,rfl⟩
def k7s:Ct:=.gp 69 [.st 7] [oq] [] λ(B:wD)=>((∀x∈B.Txs,TR x)/\B.Txs.length<=64,(B.Txs.map idS:Li),())
theorem k3q:k7s.O:=qrv Bs Tryz.func69 (rA 1 (.r 0 (.lp [.frz 1 [3]] ⟨[2],[.tip yqu],[3,13],[og,oa],[]⟩ .no))) (kus.c c0) (Q:=∀(B:wD),(∀x∈B.Txs,TR x)/\B.Txs.length<=64->∀r0:Li,B.Txs.map idS=r0->0<=(0:Int)/\(0:Int)<=(B.Txs.length:Int)/\(B.Txs.length:Int).toNat*8<=140737488355328/\(B.Txs.length:Int).toNat<=maxLen/\0=(List.replicate 0 (0:Int)).length/\List.replicate 0 (0:Int)=List.replicate 0 (0:Int)/\∃(M:oH)(U:oJ),M 0 (List.replicate 0 (0:Int))/\∀b1 f1,M b1 f1->iF b1 B.Txs.length (TR (ix B.Txs b1)/\iL f1 [idS (ix B.Txs b1)] 8 (f1++[idS (ix B.Txs b1)]=f1++[idS (ix B.Txs b1)]/\ss2 M U b1 (i64.wrap (b1+1)) f1 (f1++[idS (ix B.Txs b1)]))) (f1=r0))<|by
 rintro B h _ rfl;obtain⟨X,Z⟩:=h;refine⟨by omega,by omega,by omega,by unfold maxLen;omega,by simp,rfl,?_⟩;refine⟨λi g=>0<=i/\i<=B.Txs.length/\g=(B.Txs.take i.toNat).map idS,λi _=>(B.Txs.length-i).toNat,⟨by omega,by omega,by simp⟩,?_⟩;rintro i g⟨J,g1,rfl⟩;refine⟨λF=>?_,λF=>?_⟩;.have F:=qc F;have Y:=ix_mem B.Txs i J F;rw[inc i B.Txs.length J F qqo];refine⟨J,F,X _ Y,rfl,by simp;omega,by simp;unfold maxLen;omega,rfl,⟨by omega,by omega,?_⟩,by(first|omega|(dsimp only;omega))⟩;rw[kg B.Txs i J F];simp
 .have F:=qd F;rw[ql qqo]
def kgj:Ct:=.gp 30 [.st 6,.st 7] [yqi] [] λ(F:wF)(B:wD)=>(BR B,checkB F.wU B,())
theorem ki8:kgj.O:=qrv Bs Tryz.func30 .no (k81.c (k3q.c (k40.c c0))) (Q:=∀(J:wF)B,BR B->∀r0,checkB J.wU B=r0->(∀x∈B.Txs,TR x)/\iT (validB B !=0) (validB B=r0) (iT (B.wU !=J.wU) (17=r0) (((∀x∈B.Txs,TR x)/\B.Txs.length<=64)/\(BR B/\B.Txs.length<=64/\Us (B.Txs.map idS)/\(B.Txs.map idS).length<=64)/\let X:=hashB 15 (hdrS B++(B.Txs.map idS).flatMap (dig 8))
B.wU≠0/\iT (Int.tmod X B.wU !=0) (17=r0) (0=r0))))<|by
 rintro J B h _ rfl;unfold checkB;refine⟨h.t,λe=>?_,λe=>?_⟩
 .have e:validB B≠0:=by simpa using e
  rw[qg e]
 .have e:validB B=0:=by simpa using e
  have v:=(k20 B).1 e;have U:=v.h.l;have Z:=v.h.w0;rw[qe (by simp[e])];refine⟨λF=>?_,λF=>?_⟩
  .have F:B.wU≠J.wU:=by simpa using F
   rw[qg F]
  .have F:B.wU=J.wU:=by simpa using F
   rw[qe (by simp[F])];have Y:Us (B.Txs.map idS):=idS_us _;refine⟨⟨h.t,U⟩,⟨h,U,Y,by simp;omega⟩,by omega,λM=>?_,λM=>?_⟩;.rw[qg (by simpa[namS]using M)]
   .rw[qe (by simpa[namS]using M)]
def kob:Ct:=.gp 31 [.st 7] [yqu] [] λ(B:wD)=>(BR B,idB B,())
theorem kri:kob.O:=qrv Bs Tryz.func31 .no (k81.c (k3q.c (k40.c c0))) (Q:=∀B,BR B->∀r0,idB B=r0->(∀x∈B.Txs,TR x)/\iT (validB B !=0) (0=r0) (((∀x∈B.Txs,TR x)/\B.Txs.length<=64)/\(BR B/\B.Txs.length<=64/\Us (B.Txs.map idS)/\(B.Txs.map idS).length<=64)/\let F:=hashB 15 (hdrS B++(B.Txs.map idS).flatMap (dig 8))
F=r0))<|by
 rintro B h _ rfl;refine⟨h.t,λe=>?_,λe=>?_⟩
 .have e:¬validB B=0:=by simpa using e
  unfold idB;rw[qe e]
 .have e:validB B=0:=by simpa using e
  have v:=(k20 B).1 e;have U:=v.h.l;have J:Us (B.Txs.map idS):=λx M=>by obtain⟨y,_,rfl⟩:=qap.1 M;exact idS_u64 y
  refine⟨⟨h.t,by omega⟩,⟨h,by omega,J,by simp;omega⟩,?_⟩;unfold idB;rw[qg e];unfold namS;rw[List.flatMap_map]
def k9f:Ct:=.g ⟨78,[.one (.d (.sl (.st 2)))],[],.one oh,[.vec (.st 2)],false⟩ [.sl (.st 2)] [.sl (.st 2)] [] λ(B:List wAt)=>(B.length<=4294967295,B,())
theorem ka2:k9f.O:=prx Bs [5,7] Tryz.func78 (rA 0 (rA 0 (.r 0 (.rt [.rnil 2 (.st 2)])))) x0 c0 (Q:=∀B,B.length<=4294967295->∀e0,B=e0->∀z4,(z4=true->B=[])->iT z4 (0=([]:List wAt).length/\[]=e0) (iL [] B 48 (lz ([]++B)/\([]:List wAt)++B=e0)))<|by
 rintro B h _ rfl;intro z F;refine⟨λe=>?_,λe=>?_⟩;.rw[F e];exact⟨rfl,rfl⟩
 .refine⟨rfl,?_,?_,rfl,rfl⟩<;>simp<;>(try unfold maxLen)<;>omega
def kad:Ct:=.g ⟨76,[.one (.d (.sl (.st 3)))],[],.one oh,[.vec (.st 3)],false⟩ [.sl (.st 3)] [.sl (.st 3)] [] λ(B:List wh)=>(B.length<=4294967295,B,())
theorem kby:kad.O:=prx Bs [5,7] Tryz.func76 (rA 0 (rA 0 (.r 0 (.rt [.rnil 2 (.st 3)])))) x0 c0 (Q:=∀B,B.length<=4294967295->∀e0,B=e0->∀z4,(z4=true->B=[])->iT z4 (0=([]:List wh).length/\[]=e0) (iL [] B 128 (lz ([]++B)/\([]:List wh)++B=e0)))<|by
 rintro B h _ rfl;intro z F;refine⟨λe=>?_,λe=>?_⟩;.rw[F e];exact⟨rfl,rfl⟩
 .refine⟨rfl,?_,?_,rfl,rfl⟩<;>simp<;>(try unfold maxLen)<;>omega
def k7y:Ct:=.gp 79 [oA] [oA] [] λ(B:Li)=>(B.length<=4294967295,B,())
theorem k8z:k7y.O:=qrv Bs Tryz.func79 .no c0 (Q:=∀B,B.length<=4294967295->∀r0,B=r0->∀z4,(z4=true->B=[])->iT z4 ([]=r0) ((([]:Li).length+B.length)*1<=140737488355328/\([]:Li).length+B.length<=maxLen/\([]:Li)++B=r0))<|by rintro B h _ rfl;intro z F;refine⟨λe=>(F e).symm,λe=>?_⟩;refine⟨?_,?_,rfl⟩<;>simp<;>(try unfold maxLen)<;>omega
def kat:Ct:=.gp 77 [oq] [oq] [] λ(B:Li)=>(B.length<=4294967295,B,())
theorem kcm:kat.O:=qrx Bs [5,7] Tryz.func77 (.r 2 (.rt [.frz 1 [2]])) x0 c0 (Q:=∀B,B.length<=4294967295->∀r0,B=r0->∀z4,(z4=true->B=[])->iT z4 ([]=r0) (iL [] B 8 (lz ([]++B)/\([]:Li)++B=r0)))<|by rintro B h _ rfl;intro z F;refine⟨λe=>(F e).symm,λe=>?_⟩;refine⟨rfl,?_,?_,rfl,rfl⟩<;>simp<;>(try unfold maxLen)<;>omega
def khg:Ct:=.gp 38 [.st 7] [.st 7] [] λ(B:wD)=>(B.Txs.length<=4294967295/\∀x∈B.Txs,TL x,B,())
theorem kii:khg.O:=qrv Bs Tryz.func38 (.r 1 (.nd [] (lA ⟨[2],[.vec (.st 3)],[13],[oa],[]⟩ (rA 1 (.r 3 (.nd [] (lA ⟨[3],[.vec (.st 2)],[41],[oa],[]⟩ .no) [.frzf 3 2] .no)))) [] (.r 0 (.rt [.frzc 2 1 5])))) (kby.c (kcm.c (ka2.c (k8z.c c0)))) (Q:=∀(B:wD),(B.Txs.length<=4294967295/\∀x∈B.Txs,TL x)->∀r0:wD,B=r0->B.Txs.length<=4294967295/\∃(I1:Int->List wh->Prop)(M1:Int->List wh->Nat),I1 0 B.Txs/\∀b1 f1,I1 b1 f1->iD (b1<(B.Txs.length:Int)) (iS b1 B.Txs.length (iS b1 f1.length (((ix f1 b1).wC).length<=4294967295/\iS b1 f1.length (let F:List wh:=f1.set b1.toNat (wh.mk (ix f1 b1).wX (ix f1 b1).wC (ix f1 b1).wB (ix f1 b1).wJ (ix f1 b1).wL (ix f1 b1).Fee (ix f1 b1).wQ (ix f1 b1).wK (ix f1 b1).wAG (ix f1 b1).wAH)
iS b1 F.length (((ix F b1).wB).length<=4294967295/\iS b1 F.length (iS b1 F.length (b1=b1/\∃(I2:Int->List wAt->Prop)(M2:Int->List wAt->Nat),I2 0 (ix F b1).wB/\∀i1 k1,I2 i1 k1->let v2:Bool:=decide (i1<(((ix F b1).wB).length:Int))
iT v2 (iS b1 F.length (b1=b1/\iS b1 F.length (b1=b1/\iS i1 ((ix F b1).wB).length (iS i1 k1.length (((ix k1 i1).wm).length<=4294967295/\iS i1 ((ix F b1).wB).length (iS i1 k1.length (ss2 I2 M2 i1 (i64.wrap (i1+1)) k1 (k1.set i1.toNat (wAt.mk (ix k1 i1).wl (ix k1 i1).wAY (ix k1 i1).wAV (ix k1 i1).wm))))))))) ((((ix F b1).wB).length=k1.length/\0<=b1/\b1<(F.length:Int))/\let J:List wh:=F.set b1.toNat (wh.mk (ix F b1).wX (ix F b1).wC k1 (ix F b1).wJ (ix F b1).wL (ix F b1).Fee (ix F b1).wQ (ix F b1).wK (ix F b1).wAG (ix F b1).wAH)
iS b1 J.length (((ix J b1).wAH).length<=4294967295/\iS b1 J.length (let v4:List wh:=J.set b1.toNat (wh.mk (ix J b1).wX (ix J b1).wC (ix J b1).wB (ix J b1).wJ (ix J b1).wL (ix J b1).Fee (ix J b1).wQ (ix J b1).wK (ix J b1).wAG (ix J b1).wAH)
ss2 I1 M1 b1 (i64.wrap (b1+1)) f1 v4)))))))))) (B.Txs.length=f1.length/\B.wP=r0.wP/\B.wG=r0.wG/\B.wAM=r0.wAM/\B.wU=r0.wU/\B.wK=r0.wK/\f1=r0.Txs))<|by
 rintro B h _ rfl;obtain⟨hl,ht⟩:=h;refine⟨hl,?_⟩;refine⟨λi f=>f=B.Txs/\∃k:Nat,i=(k:Int)/\k<=B.Txs.length,λi _=>(B.Txs.length-i).toNat,⟨rfl,0,rfl,by omega⟩,?_⟩;rintro _ _⟨rfl,k,rfl,g1⟩;refine⟨λe=>?_,λe=>?_⟩
 .have e:k<B.Txs.length:=by have:=qc e;omega
  have X:=ht _ (qz e);have e1:B.Txs.set (k:Int).toNat (wh.mk (ix B.Txs (k:Int)).wX (ix B.Txs (k:Int)).wC (ix B.Txs (k:Int)).wB (ix B.Txs (k:Int)).wJ (ix B.Txs (k:Int)).wL (ix B.Txs (k:Int)).Fee (ix B.Txs (k:Int)).wQ (ix B.Txs (k:Int)).wK (ix B.Txs (k:Int)).wAG (ix B.Txs (k:Int)).wAH)=B.Txs:=by rw[ix_get _ _ e];exact List.set_getElem_self ..
  have M:(0:Int)<=(k:Int)/\(k:Int)<(B.Txs.length:Int):=⟨by omega,by omega⟩;have Y:ix B.Txs (k:Int)=B.Txs[k]:=ix_get _ _ e;refine⟨M,M,by rw[Y];exact X.m,M,?_⟩;dsimp only;rw[e1];have ho:(ix B.Txs (k:Int)).wB.length<=4294967295:=by rw[Y];exact X.o
  have hc:∀x∈(ix B.Txs (k:Int)).wB,x.wm.length<=4294967295:=by rw[Y];exact X.c
  refine⟨M,ho,M,M,rfl,?_⟩;refine⟨λi f=>f=(ix B.Txs (k:Int)).wB/\∃j:Nat,i=(j:Int)/\j<=(ix B.Txs (k:Int)).wB.length,λi _=>((ix B.Txs (k:Int)).wB.length-i).toNat,⟨rfl,0,rfl,by omega⟩,?_⟩;rintro _ _⟨rfl,j,rfl,g2⟩;refine⟨λU=>?_,λU=>?_⟩
  .have U:j<(ix B.Txs (k:Int)).wB.length:=by have:=qc U;omega
   have Z:(0:Int)<=(j:Int)/\(j:Int)<((ix B.Txs (k:Int)).wB.length:Int):=⟨by omega,by omega⟩;have hy:ix (ix B.Txs (k:Int)).wB (j:Int)=(ix B.Txs (k:Int)).wB[j]:=ix_get _ _ U;rw[inc (j:Int) (ix B.Txs (k:Int)).wB.length qqo qqo qqo];have e3:(ix B.Txs (k:Int)).wB.set (j:Int).toNat (wAt.mk (ix (ix B.Txs (k:Int)).wB (j:Int)).wl (ix (ix B.Txs (k:Int)).wB (j:Int)).wAY (ix (ix B.Txs (k:Int)).wB (j:Int)).wAV (ix (ix B.Txs (k:Int)).wB (j:Int)).wm)=(ix B.Txs (k:Int)).wB:=by rw[hy];exact List.set_getElem_self ..
   rw[e3];refine⟨M,rfl,M,rfl,Z,Z,?_,Z,Z,⟨rfl,j+1,rfl,by omega⟩,by(first|omega|(dsimp only;omega))⟩;rw[hy];exact hc _ (qz U)
  .rw[e1];refine⟨⟨rfl,M⟩,M,by rw[Y];exact X.p,M,?_⟩;rw[inc (k:Int) B.Txs.length qqo qqo qqo];exact⟨⟨e1,k+1,rfl,by omega⟩,by(first|omega|(dsimp only;omega))⟩
 .exact⟨rfl,rfl,rfl,rfl,rfl,rfl,rfl⟩
def kbf:Ct:=.t (gk 27 [oo] yO (.one oc)) yX yT [] λ(Y:Bool)(Z Ad:Int)(Ac:List wN)(B:Lb)(F:Li)(J:Lb)(M:List Li)(U:Lb)(X:Lo)=>(Y,Y,Z,Ad,Ac,B,F,J,M,U,X,())
theorem k2x:kbf.O:=ptv Bs Tryz.func27 .no c0 (Q:=∀Y Z Ad Ac B F J M U X,∀r0,Y=r0->∀Bg:Bool,Y=Bg->∀Bf:Int,Z=Bf->∀Bh:Int,Ad=Bh->∀Bk:List wN,Ac=Bk->∀e1k:Lb,B=e1k->∀e1v:Li,F=e1v->∀e2k:Lb,J=e2k->∀e2v:List Li,M=e2v->∀e3k:Lb,U=e3k->∀e3v:Lo,X=e3v->Y=r0/\Y=Bg/\Z=Bf/\Ad=Bh/\Ac=Bk/\B=e1k/\F=e1v/\J=e2k/\M=e2v/\U=e3k/\X=e3v)<|by
 rintro Y Z Ad Ac B F J M U X;repeat rintro _ rfl
 exact by repeat' first|apply qaa|exact rfl|exact qo
def kpj:Ct:=.gp 116 [yqu,yqi] [yqu] [] λ(F B:Int)=>(U64 F/\0<=B/\B<=9223372036854775807,rhoS F B,())
theorem kqu:kpj.O:=qrv Bs Tryz.func116 .no (k1c.c c0) (Q:=∀F B,U64 F/\0<=B/\B<=9223372036854775807->∀r0,rhoS F B=r0->iD (18446744069414584321<=F) (0=r0) (iD (B<0) (0=r0) (((18446744069414584321:Int)=18446744069414584321/\U64 4/\Us [F,u64.wrap B]/\[F,u64.wrap B].length<=1099511627776)/\let U:=hashS 4 [F,u64.wrap B]
U=r0)))<|by
 rintro F B h _ rfl;obtain⟨h1,X,Y⟩:=h;unfold rhoS;rw[wu B X qqo];refine⟨λe=>?_,λe=>⟨λJ=>?_,λJ=>?_⟩⟩;.have e:=qc e;rw[qe qqo]
 .have J:=qc J;omega
 .have e:=qd e;rw[qg qqo];refine⟨⟨rfl,by omega,?_,by simp⟩,rfl⟩;intro x M;simp at M;rcases M with rfl|rfl;.exact h1
  .omega
def kr5:Ct:=.gp 114 [.st 3] [yqu] [] λ(B:wh)=>(TR B,bindS B,())
theorem ksm:kr5.O:=qrv Bs Tryz.func114 .no (k21.c (kcb.c (k2h.c c0))) (Q:=∀B,TR B->∀r0,bindS B=r0->iT (validE B !=0) (0=r0) ((TR B/\TL B/\B.wB.length<=1048576/\(∀x∈B.wB,x.wm.length<=1024)/\([]:Li).length<=4294967295)/\(U64 13/\By (encT B [])/\(encT B []).length<=1099511627775)/\let J:=hashB 13 (encT B [])
J=r0))<|by
 rintro B h _ rfl;unfold bindS;refine⟨λe=>?_,λe=>?_⟩
 .have e:validE B≠0:=by simpa using e
  rw[qe e]
 .have e:validE B=0:=by simpa using e
  have v:=(kj B).1 e;rw[qg e];refine⟨⟨h,v.tl,by have:=v.ol;omega,λx F=>by have:=(v.o x F).l;omega,by simp⟩,⟨by omega,encT_by (by intro x F;cases F),?_⟩,rfl⟩;have:=v.enc_len [];simp at this⊢;omega
def kh6:Ct:=.gp 166 [oq,yqu,yqu] [yqu] [] λ(B:Li)(F J:Int)=>(Us B/\U64 F/\U64 J,(if B=[]then if F<18446744069414584321/\J<18446744069414584321 then hashS 5 [F,J]else 0 else if ix B 0<18446744069414584321 then ix B 0 else 0:Int),())
theorem kij:kh6.O:=qrv Bs Tryz.func166 .no (k1c.c c0) (Q:=∀B J F,Us B/\U64 J/\U64 F->∀r0,(if B=[]then if J<18446744069414584321/\F<18446744069414584321 then hashS 5 [J,F]else 0 else if ix B 0<18446744069414584321 then ix B 0 else 0)=r0->iD (0<(B.length:Int)) (0<(B.length:Int)/\let X:=decide (18446744069414584321<=ix B 0)
iT X (0=r0) (0<(B.length:Int)/\ix B 0=r0)) (iD (18446744069414584321<=J) (0=r0) (iD (18446744069414584321<=F) (0=r0) (((18446744069414584321:Int)=18446744069414584321/\U64 5/\Us [J,F]/\[J,F].length<=1099511627776)/\hashS 5 [J,F]=r0))))<|by
 rintro B J F h _ rfl;obtain⟨h1,Y,Z⟩:=h;refine⟨λh=>?_,λh=>?_⟩;.have h:=qc h;rw[qe (by rintro rfl;simp at h)];exact⟨h,λe=>by rw[qe (by have:=qc e;omega)],λe=>⟨h,by rw[qg (by have:=qd e;omega)]⟩⟩
 .have h:=qd h;have h:B=[]:=qch.1 qqo;rw[qg h];refine⟨λe=>by rw[qe (by have:=qc e;omega)],λe=>⟨λM=>by rw[qe (by have:=qc M;omega)],λM=>?_⟩⟩;rw[qg (by have:=qd e;have:=qd M;omega)];refine⟨⟨rfl,by omega,?_,by simp⟩,rfl⟩;intro x U;rcases qak.1 U with rfl|U;.exact Y
  .have:x=F:=by simpa using U
   rw[this];exact Z
def klb:Ct:=.gp 115 [.st 3] [yqu] [] λ(B:wh)=>(TR B,originS B,())
theorem kno:klb.O:=qrv Bs Tryz.func115 .no (k21.c (kij.c c0)) (Q:=∀B,TR B->∀r0,originS B=r0->iT (validE B !=0) (0=r0) ((Us B.wC/\U64 B.wQ/\U64 B.wK)/\let M:=if B.wC=[]then if B.wQ<18446744069414584321/\B.wK<18446744069414584321 then hashS 5 [B.wQ,B.wK]else 0 else if ix B.wC 0<18446744069414584321 then ix B.wC 0 else 0
M=r0))<|by
 rintro B h _ rfl;unfold originS;refine⟨λe=>?_,λe=>?_⟩
 .have e:validE B≠0:=by simpa using e
  rw[qe e]
 .have e:validE B=0:=by simpa using e
  have v:=(kj B).1 e;refine⟨⟨h.m,h.ac,h.n⟩,?_⟩;have F:=v.am;unfold vAmounts at F;simp at F;split;.rw[qg ⟨F.1.1.2,F.1.2⟩]
  .rename_i J;rw[qg];exact v.m _ (ix_mem _ 0 qqo (by have:=qdh.2 J;omega))
def kfu:Ct:=.gp 72 [.st 3,yqi] [.st 16] [] λ(F:wh)(B:Int)=>(TR F/\-9223372036854775808<=B/\B<=9223372036854775807,stmtS F B,())
abbrev Fz4(r:Type):=Int->Int->Int->Int->Int->Int->Int->Int->Li->Li->Li->r
theorem ki5:kfu.O:=qrv Bs Tryz.func72 (.r 3 (.nd [] (.r 0 (.lp [.tokc 274 4 yqu,.tokc 274 3 yqu] ⟨[274,82,307,306],[.cells [zqi,zqu,.row 1,.own 2,.own 3,zqu,zqu,zqu,zqu,zqu],.vec yqu,.tip yqu,.tip yqu],[35],[oa],[]⟩ .no)) [] (.r 0 (.rt [.frzc 82 1 2])))) (k21.c (k71.c (ksm.c (kno.c (kqu.c c0))))) (Q:=∀B F,TR B/\-9223372036854775808<=F/\F<=9223372036854775807->∀r0,stmtS B F=r0->iT (validE B !=0) (0=r0.wH/\0=r0.wX/\[]=r0.wC/\[]=r0.wy/\[]=r0.wAc/\0=r0.wJ/\0=r0.wL/\0=r0.Fee/\0=r0.wQ/\0=r0.wBN) (B.wC.length<=4294967295/\TR B/\TR B/\[]=([]:Li)/\[]=([]:Li)/\lz B.wC/\∃(M:Fz4 Prop)(Z:Fz4 Nat),M 0 F B.wX B.wJ B.wL B.Fee B.wQ (bindS B) B.wC [] []/\∀b1 f1 i1 k1 l1 m1 n1 o1 q1 s1 t1,M b1 f1 i1 k1 l1 m1 n1 o1 q1 s1 t1->iF b1 B.wB.length (iL s1 [(ix B.wB b1).wl] 8 ((U64 (originS B)/\0<=b1/\b1<=9223372036854775807)/\iL t1 [rhoS (originS B) b1] 8 (t1++[rhoS (originS B) b1]=t1++[rhoS (originS B) b1]/\s1++[(ix B.wB b1).wl]=s1++[(ix B.wB b1).wl]/\lz q1/\M (i64.wrap (b1+1)) f1 i1 k1 l1 m1 n1 o1 q1 (s1++[(ix B.wB b1).wl]) (t1++[rhoS (originS B) b1])/\Z (i64.wrap (b1+1)) f1 i1 k1 l1 m1 n1 o1 q1 (s1++[(ix B.wB b1).wl]) (t1++[rhoS (originS B) b1])<Z b1 f1 i1 k1 l1 m1 n1 o1 q1 s1 t1))) (lz q1/\f1=r0.wH/\i1=r0.wX/\q1=r0.wC/\s1=r0.wy/\t1=r0.wAc/\k1=r0.wJ/\l1=r0.wL/\m1=r0.Fee/\n1=r0.wQ/\o1=r0.wBN)))<|by
 rintro B F h _ rfl;obtain⟨U,hd⟩:=h;refine ?_;refine⟨λe=>?_,λe=>?_⟩
 .have e:validE B≠0:=by simpa using e
  unfold stmtS;rw[qe e];exact⟨rfl,rfl,rfl,rfl,rfl,rfl,rfl,rfl,rfl,rfl⟩
 .have e:validE B=0:=by simpa using e
  have v:=(kj _).1 e;have vo:=v.ol;have X:=kdl U;have es:stmtS B F=⟨F,B.wX,B.wC,B.wB.map (·.wl),(List.range B.wB.length).map λi:Nat=>rhoS (originS B) (i:Int),B.wJ,B.wL,B.Fee,B.wQ,bindS B⟩:=by unfold stmtS;rw[qg e]
  refine⟨by have:=v.ml;omega,U,U,rfl,rfl,rfl,?_⟩;refine⟨(λi z1 z2 z3 z4 z5 z6 z7 z8 g g'=>(F=z1/\B.wX=z2/\B.wJ=z3/\B.wL=z4/\B.Fee=z5/\B.wQ=z6/\bindS B=z7/\B.wC=z8)/\0<=i/\i<=B.wB.length/\g=(B.wB.take i.toNat).map (·.wl)/\g'=(List.range i.toNat).map λi:Nat=>rhoS (originS B) (i:Int)),λi _ _ _ _ _ _ _ _ _ _=>(B.wB.length-i).toNat,⟨⟨rfl,rfl,rfl,rfl,rfl,rfl,rfl,rfl⟩,by omega,by omega,by simp,by simp⟩,?_⟩;rintro i _ _ _ _ _ _ _ _ g g'⟨⟨rfl,rfl,rfl,rfl,rfl,rfl,rfl,rfl⟩,Y,g1,rfl,rfl⟩;refine⟨λJ=>?_,λJ=>?_⟩
  .have J:=qc J;rw[inc i B.wB.length Y J qqo];refine⟨Y,J,rfl,by simp;omega,by simp;unfold maxLen;omega,⟨X,by omega,by omega⟩,rfl,by simp;omega,by simp;unfold maxLen;omega,rfl,rfl,rfl,⟨⟨rfl,rfl,rfl,rfl,rfl,rfl,rfl,rfl⟩,by omega,by omega,?_,?_⟩,by(first|omega|(dsimp only;omega))⟩;.rw[kg B.wB i Y J];simp
   .rw[show(i+1).toNat=i.toNat+1 by omega,List.range_succ];simp[show max i 0=i by omega]
  .have J:=qd J;rw[ql qqo,show i.toNat=B.wB.length by omega];rw[es];exact⟨rfl,rfl,rfl,rfl,rfl,rfl,rfl,rfl,rfl,rfl,rfl⟩
def kbx:Ct:=.tp 63 [.st 8] [.bool] [] λ(B:wAq)=>(prS B,())
theorem kd9:kbx.O:=qtv Bs Tryz.func63 (.r 0 (.jn (oB [3] [oc]) [] .no [] (oC 4))) c0 (Q:=∀B,∀r0,prS B=r0->∀X:oE,(∀b1,(∀M:oE,(∀f1,iT b1 (iT f1 (iD (1<=B.wBD) (decide (B.wBD<=64)=r0) (false=r0)) (false=r0)) (false=r0)->M f1)->iT (B.wAw==1) (M true) (iT (B.wAw==2) (M true) (iT (B.wAw==4) (M true) (M (B.wAw==8)))))->X b1)->iD (2<=B.wBH) (iD (B.wBH<=256) (let v1:=iand .i64 B.wBH (i64.wrap (B.wBH-1))
X (v1==0)) (X false)) (X false))<|by
 rintro B _ rfl;have J:pws 4 1 B.wAw=(B.wAw==1||B.wAw==2||B.wAw==4||B.wAw==8):=by simp[pws,List.range_succ,Bool.or_assoc]
 intro X Z;have Z:∀a,a=pws 8 2 B.wBH->X a:=by
  intro a ha;refine Z _ λM Y=>?_;have Y:∀b,b=pws 4 1 B.wAw->M b:=by
   intro b hb;refine Y _ ?_;unfold prS;rw[<-ha,<-hb];refine⟨λe=>⟨λF=>⟨λU=>?_,λU=>?_⟩,λF=>?_⟩,λe=>?_⟩;.rw[e,F,U];simp
   .rw[e,F,U];simp
   .rw[e,F];simp
   .rw[e];simp
  refine⟨λe=>Y _ ?_,λe=>⟨λF=>Y _ ?_,λF=>⟨λU=>Y _ ?_,λU=>Y _ ?_⟩⟩⟩;.rw[J,e];rfl
  .rw[J,e,F];rfl
  .rw[J,e,F,U];rfl
  .rw[J,e,F,U];rfl
 refine⟨λe=>⟨λF=>?_,λF=>Z _ ?_⟩,λe=>Z _ ?_⟩;.have e:=qc e;have F:=qc F;obtain⟨b,hb⟩:=qm (show 0<=B.wBH by omega);refine Z _ ?_;rw[hb,ko _ qqo qqo];exact pws_and b qqo
 .have F:=qd F;cases hq:pws 8 2 B.wBH with
  |false=>rfl|true=>have:=kjt hq qqd;omega
 .have e:=qd e;cases hq:pws 8 2 B.wBH with
  |false=>rfl|true=>have:=kjt hq qqd;omega
def kck:Ct:=.tp 26 [.st 6] [yqi] [] λ(B:wF)=>(rulesE B,())
theorem k1q:kck.O:=qtv Bs Tryz.func26 (.r 0 (oC 3)) (kd9.c c0) (Q:=∀B,∀r0,rulesE B=r0->∀F:oE,(∀Y,iT (!Y) (1=r0) (iT (B.wd==1) (let Z:=prS (wAq.mk B.wS B.wO B.wM)
iT (!Z) (1=r0) (0=r0)) (0=r0))->F Y)->iD (1<=B.wd) (iD (B.wd<=3) (iD (1<=B.wH) (iD (B.wH<=12) (iD (1<=B.wt) (iD (B.wt<=100) (iD (1<=B.wW) (iD (B.wW<=1048576) (iD (B.wZ<=4294967296) (iD (1<=B.wU) (F (decide (B.wU<=65536))) (F false)) (F false)) (F false)) (F false)) (F false)) (F false)) (F false)) (F false)) (F false)) (F false))<|by
 rintro B _ rfl;intro F J;have J:∀b,b=rulesB B->F b:=by
  intro b hb;refine J _ ?_;unfold rulesE;rw[<-hb];refine⟨λe=>?_,λe=>?_⟩
  .have e:b=false:=by simpa using e
   rw[e];rfl
  .have e:b=true:=by simpa using e
   rw[e,qg rfl];refine⟨λM=>⟨λU=>?_,λU=>?_⟩,λM=>?_⟩
   .have M:B.wd=1:=by simpa using M
    have U:¬prS ⟨B.wS,B.wO,B.wM⟩=true:=by simpa using U
    rw[qg M,qe U]
   .have M:B.wd=1:=by simpa using M
    have U:prS ⟨B.wS,B.wO,B.wM⟩=true:=by simpa using U
    rw[qg M,qg U]
   .have M:¬B.wd=1:=by simpa using M
    rw[qe M]
 refine⟨λe1=>⟨λM=>⟨λU=>⟨λe4=>⟨λe5=>⟨λe6=>⟨λe7=>⟨λe8=>⟨λe9=>⟨λX=>J _ ?_,λe=>J _ ?_⟩,λe=>J _ ?_⟩,λe=>J _ ?_⟩,λe=>J _ ?_⟩,λe=>J _ ?_⟩,λe=>J _ ?_⟩,λe=>J _ ?_⟩,λe=>J _ ?_⟩,λe=>J _ ?_⟩,λe=>J _ ?_⟩;.unfold rulesB;rw[e1,M,U,e4,e5,e6,e7,e8,e9,X];simp
 all_goals unfold rulesB;rw[e];simp
def klv:Ct:=.gp 244 [yqu,oq] [yqu] [] λ(F:Int)(B:Li)=>(U64 F/\Us B/\B.length<=1099511627776,hashS F B,())
theorem kb9:klv.O:=qrv Bs Tryz.func244 .no (k1c.c c0) (Q:=∀F B,U64 F/\Us B/\B.length<=1099511627776->∀r0,hashS F B=r0->((18446744069414584321:Int)=18446744069414584321/\U64 F/\Us B/\B.length<=1099511627776)/\hashS F B=r0)<|by rintro F B h _ rfl;exact⟨⟨rfl,h.1,h.2.1,h.2.2⟩,rfl⟩
def ke2:Ct:=.gp 159 [yqu] [yqu] [] λ(B:Int)=>(U64 B,acctS B,())
theorem kfz:ke2.O:=qrv Bs Tryz.func159 .no (kb9.c c0) (Q:=∀B,U64 B->∀r0,acctS B=r0->(U64 7/\Us [B]/\[B].length<=1099511627776)/\hashS 7 [B]=r0)<|by rintro B h _ rfl;exact⟨⟨by decide,by intro x F;rw[qah]at F;subst F;exact h,by simp⟩,rfl⟩
def ka6:Ct:=.gp 333 [oq] [.bool] [] λ(B:Li)=>(B.length<=9223372036854775807,allB B,())
theorem kas:ka6.O:=qrv Bs Tryz.func333 (rA 0 (lA (oB [7] [oa]) .no)) c0 (Q:=∀B,B.length<=9223372036854775807->∀r0,allB B=r0->∃J M,J 0/\∀b1,J b1->iF b1 B.length (let U:=decide (18446744069414584321<=ix B b1)
iT U (false=r0) (ss1 J M b1 (i64.wrap (b1+1)))) (true=r0))<|by rintro B h _ rfl;refine⟨AllI (λx=>decide (x<18446744069414584321)) B,λi=>(B.length-i).toNat,AllI.start,?_⟩;intro i hi;refine⟨λF=>?_,λF=>(hi.done (qd F)).symm⟩;have F:=qc F;exact⟨hi.1,F,λe=>(hi.bad F (by simpa using e)).symm,λe=>hi.next F qqo (by simpa using e)⟩
def k6h:Ct:=.g (gk 334 [og,ou] [.tip yqb] (.one og)) [yqu,oA] [oA] [] λ(B:Int)(w0:Li)=>(U64 B/\w0.length<=137438953472,w0++dig 8 B,())
theorem k75:k6h.O:=prv Bs Tryz.func334 (rA 0 (lA ⟨[0],[.tip yqb],[0,1,5],[og,ou,oa],[]⟩ .no)) c0 (Q:=∀B w0,U64 B/\w0.length<=137438953472->∀e0,w0++dig 8 B=e0->w0=w0/\∃F M,F B 0 w0/\∀b1 f1 i1,F b1 f1 i1->iD (f1<8) (iL i1 [IntKind.u8.wrap b1] 1 (i1++[IntKind.u8.wrap b1]=i1++[IntKind.u8.wrap b1]/\ss3 F M b1 (ishr .u64 b1 8) f1 (i64.wrap (f1+1)) i1 (i1++[IntKind.u8.wrap b1]))) (i1=i1/\i1=e0))<|by
 rintro B w0 h _ rfl;obtain⟨h1,X⟩:=h;refine⟨rfl,⟨λn i g=>0<=i/\i<=8/\U64 n/\n=B/256^i.toNat/\g=w0++dig i.toNat B,λ_ i _=>(8-i).toNat,⟨by omega,by omega,h1,by simp,by simp[dig]⟩,?_⟩⟩;rintro n i g⟨U,Y,Z,J,rfl⟩;refine⟨λh=>?_,λh=>?_⟩
 .have h:=qc h;rw[inc i 8 U h qqo,ishr8,u8w];refine⟨rfl,?_,?_,rfl,⟨by omega,by omega,by omega,?_,?_⟩,by((dsimp only;omega))⟩;.simp;omega
  .simp;unfold maxLen;omega
  .rw[J,show(i+1).toNat=i.toNat+1 by omega,qcs (qcq (k1l _)),qcp]
  .rw[show(i+1).toNat=i.toNat+1 by omega,k5j,qn,J]
 .have h:=qd h;exact⟨rfl,by rw[show i=8 by omega];rfl⟩
def kil:Ct:=.gp 245 [oq,oq] [.str] [] λ(B F:Li)=>(Us B/\Us F/\B.length<=1073741824/\F.length<=1073741824,keyB F B,())
theorem kmq:kil.O:=qrv Bs Tryz.func245 (.r 1 (.nd [] (.r 0 (.lp [.frz 0 [5]] ⟨[1],[.tip yqb],[5,19],[og,oa],[]⟩ .no)) [] (nA (lA ⟨[1],[.tip yqb],[5,29],[og,oa],[]⟩ .no)))) (k75.c c0) (Q:=∀F B,Us F/\Us B/\F.length<=1073741824/\B.length<=1073741824->∀r0,keyB B F=r0->let Y:=i64.wrap (B.length+F.length)
0<=(0:Int)/\0<=i64.wrap (8*Y)/\(i64.wrap (8*Y)).toNat*1<=140737488355328/\(i64.wrap (8*Y)).toNat<=maxLen/\0=(List.replicate 0 0).length/\List.replicate 0 0=List.replicate 0 (0:Int)/\∃(Z:oH)(M1:oJ),Z 0 (List.replicate 0 0)/\∀b1 f1,Z b1 f1->iF b1 B.length (f1=f1/\(U64 (ix B b1)/\f1.length<=137438953472)/\f1++dig 8 (ix B b1)=f1++dig 8 (ix B b1)/\ss2 Z M1 b1 (i64.wrap (b1+1)) f1 (f1++dig 8 (ix B b1))) (f1=f1/\∃I2 M2,I2 0 f1/\∀i1 k1,I2 i1 k1->iF i1 F.length (k1=k1/\(U64 (ix F i1)/\k1.length<=137438953472)/\k1++dig 8 (ix F i1)=k1++dig 8 (ix F i1)/\ss2 I2 M2 i1 (i64.wrap (i1+1)) k1 (k1++dig 8 (ix F i1))) (strOfNums k1=r0)))<|by
 rintro F B h _ rfl;obtain⟨h0,h1,h2,h3⟩:=h;refine ?_;rw[wi (B.length+F.length) qqo qqo];dsimp only;rw[wi (8*(B.length+F.length)) qqo qqo];refine⟨by omega,by omega,by omega,by unfold maxLen;omega,rfl,rfl,?_⟩;refine⟨λi g=>FlatI (dig 8) [] B i g,λi _=>(B.length-i).toNat,FlatI.start,?_⟩;intro i g X;have hl:=X.len 8 (λx _=>by simp);refine⟨λU=>?_,λU=>?_⟩;.have U:=qc U;exact⟨X.1,U,rfl,⟨h1 _ (ix_mem B i X.1 U),by simp at hl;omega⟩,rfl,X.next U qqo rfl⟩
 .have U:=qd U;have e:=X.done U;refine⟨rfl,⟨λj g=>FlatI (dig 8) (B.flatMap (dig 8)) F j g,λj _=>(F.length-j).toNat,by rw[e];exact FlatI.start,?_⟩⟩;intro j g2 M;have aa:=M.len 8 (λx _=>by simp);have ab:=ku B;refine⟨λJ=>?_,λJ=>?_⟩;.have J:=qc J;exact⟨M.1,J,rfl,⟨h0 _ (ix_mem F j M.1 J),by omega⟩,rfl,M.next J qqo rfl⟩
  .rw[M.done (qd J)];rfl
def kgh:Ct:=.b (gk 242 [oo,ou,oe] yO (.tup [ou,oc])) [yqu,oq,.bool,yqu,yqi,.sl (.st 0),oz,.sl yqi,oz,.sl oq,oz,ow] yR λ(U:Int)(J:Li)(X:Bool)(Ab Ad:Int)(M:List wN)(B:Lb)(F:Li)(Y:Lb)(Z:List Li)(aa:Lb)(ab:Lo)=>(U64 U/\Us J/\J.length<=1073741824/\OrOk B F M,(),λ_=>((pk X M B F U J).getD 0,(pk X M B F U J).isSome,X,Ab,Ad,M,B,F,Y,Z,aa,ab,()))
theorem k84:kgh.O:=pbv Bs Tryz.func242 .no (kas.c (kmq.c (k1c.c c0))) (Q:=∀p1 J Aa(Ab Ad:Int)M B F(U:Lb)(X:List Li)(Y:Lb)(Z:Lo),U64 p1/\Us J/\J.length<=1073741824/\OrOk B F M->∀R,()=R->J.length<=9223372036854775807/\iT (! allB J) (0=(pk Aa M B F p1 J).getD 0/\false=(pk Aa M B F p1 J).isSome/\Aa=Aa/\Ab=Ab/\Ad=Ad/\M=M/\B=B/\F=F/\U=U/\X=X/\Y=Y/\Z=Z) ((Us J/\Us [p1]/\J.length<=1073741824/\[p1].length<=1073741824)/\B.length=F.length/\let v2:=mVal (BEq.beq (keyB [p1] J)) B F 0
iT (mHas (BEq.beq (keyB [p1] J)) B) (iR v2 M.length ((ix M v2).wBb=(pk Aa M B F p1 J).getD 0/\true=(pk Aa M B F p1 J).isSome/\Aa=Aa/\Ab=Ab/\Ad=Ad/\M=M/\B=B/\F=F/\U=U/\X=X/\Y=Y/\Z=Z)) (iT Aa (0=(pk Aa M B F p1 J).getD 0/\false=((pk Aa M B F p1 J).isSome:Bool)/\Aa=Aa/\Ab=Ab/\Ad=Ad/\M=M/\B=B/\F=F/\U=U/\X=X/\Y=Y/\Z=Z) (((18446744069414584321:Int)=18446744069414584321/\U64 p1/\Us J/\J.length<=1099511627776)/\hashS p1 J=((pk Aa M B F p1 J).getD 0:Int)/\true=((pk Aa M B F p1 J).isSome:Bool)/\Aa=Aa/\Ab=Ab/\Ad=Ad/\M=M/\B=B/\F=F/\U=U/\X=X/\Y=Y/\Z=Z))))<|by
 rintro p1 J Aa Ab Ad M B F U X Y Z h R hR;obtain⟨h1,h2,h3,ho⟩:=h;have hu:Us [p1]:=by intro x hx;rw[qah]at hx;subst hx;exact h1
 refine⟨by omega,λe=>?_,λe=>⟨⟨h2,hu,h3,by simp⟩,ho.len,λhm=>?_,λhm=>⟨λhi=>?_,λhi=>⟨⟨rfl,h1,h2,by omega⟩,?_⟩⟩⟩⟩
 .have e:allB J=false:=by simpa using e
  simp[pk,e]
 .have e:allB J=true:=by simpa using e
  have hv:=ho.rng _ (kvk (z:=(0:Int)) hm ho.len);refine⟨hv.1,hv.2,?_⟩;simp[pk,e,hm]
 .have e:allB J=true:=by simpa using e
  simp[pk,e,hm,hi]
 .have e:allB J=true:=by simpa using e
  simp[pk,e,hm,hi]
def kih:Ct:=.tp 241 [.st 18] [.bool] [] λ(B:wo)=>(noteV B,())
theorem k4v:kih.O:=qtv Bs Tryz.func241 .no c0 (Q:=∀B,∀r0,noteV B=r0->iD (B.Value<=4294967295) (iD (B.wAz<18446744069414584321) (iD (B.Rho<18446744069414584321) (decide (B.wBA<18446744069414584321)=r0) (false=r0)) (false=r0)) (false=r0))<|by unfold noteV;grind
def kcq:Ct:=.tp 243 [.st 18] [oq] [] λ(B:wo)=>(noteL B,())
theorem kfn:kcq.O:=qtv Bs Tryz.func243 .no c0 (Q:=∀B,∀r0,noteL B=r0->[B.Value,B.wAz,B.Rho,B.wBA]=r0)<|by rintro B _ rfl;exact rfl
def ka8:Ct:=.b (gk 158 [oo,.agg [zqu,zqu,zqu,zqu]] yO (.tup [ou,oc])) [.st 18,.bool,yqu,yqi,.sl (.st 0),oz,.sl yqi,oz,.sl oq,oz,ow] yR λ(M:wo)(U:Bool)(Ab Ad:Int)(J:List wN)(B:Lb)(F:Li)(X:Lb)(Y:List Li)(Z:Lb)(aa:Lo)=>(NR M/\OrOk B F J,(),λ_=>((commP (pk U J B F) M).getD 0,(commP (pk U J B F) M).isSome,U,Ab,Ad,J,B,F,X,Y,Z,aa,()))
theorem k4n:ka8.O:=pbv Bs Tryz.func158 .no (k4v.c (kfn.c (k84.c c0))) (Q:=∀J U(Ab Ad:Int)M B F(X:Lb)(Y:List Li)(Z:Lb)(aa:Lo),NR J/\OrOk B F M->∀R,()=R->iT (! noteV J) (0=(commP (pk U M B F) J).getD 0/\false=(commP (pk U M B F) J).isSome/\U=U/\Ab=Ab/\Ad=Ad/\M=M/\B=B/\F=F/\X=X/\Y=Y/\Z=Z/\aa=aa) ((U64 2/\Us (noteL J)/\(noteL J).length<=1073741824/\OrOk B F M)/\let r2:=(pk U M B F 2 (noteL J)).getD 0
let r3:=(pk U M B F 2 (noteL J)).isSome
r2=(commP (pk U M B F) J).getD 0/\r3=(commP (pk U M B F) J).isSome/\U=U/\Ab=Ab/\Ad=Ad/\M=M/\B=B/\F=F/\X=X/\Y=Y/\Z=Z/\aa=aa))<|by
 rintro J U Ab Ad M B F X Y Z aa h R hR;obtain⟨h1,ho⟩:=h;have hu:Us (noteL J):=by
  intro x hx;simp only[noteL,qak,qcv,or_false]at hx;rcases hx with rfl|rfl|rfl|rfl;.exact h1.v
  .exact h1.o
  .exact h1.r
  .exact h1.b
 unfold commP;refine⟨λe=>?_,λe=>⟨⟨by decide,hu,by simp[noteL],ho⟩,?_⟩⟩
 .have e:noteV J=false:=by simpa using e
  simp[e]
 .have e:noteV J=true:=by simpa using e
  simp[e]
def kaf:Ct:=.gp 160 [.st 19] [yqu] [] λ(B:wAD)=>(B.Ins.length<=9223372036854775807,inS B.Ins,())
theorem kb2:kaf.O:=qrv Bs Tryz.func160 (rA 1 (lA (oB [3,9] [ou,oa]) .no)) c0 (Q:=∀(B:wAD),B.Ins.length<=9223372036854775807->∀r0:Int,inS B.Ins=r0->∃(J:oF)(M:oI),J 0 0/\∀b1 f1,J b1 f1->iF f1 B.Ins.length (let U:Int:=u64.wrap (b1+(ix B.Ins f1).wAS)
ss2 J M b1 U f1 (i64.wrap (f1+1))) (b1=r0))<|by rintro B h _ rfl;refine⟨λs i=>FoldI (λs x=>(s+x.wAS)%18446744073709551616) 0 B.Ins i s,λs i=>(B.Ins.length-i).toNat,FoldI.start,?_⟩;intro s i hi;refine⟨λF=>?_,λF=>hi.done (qd F)⟩;have F:=qc F;exact⟨hi.1,F,hi.next F qqo (by rw[u64w])⟩
def k9i:Ct:=.gp 161 [.st 19] [yqu] [] λ(B:wAD)=>(B.wB.length<=9223372036854775807,outS B.wB,())
theorem ka4:k9i.O:=qrv Bs Tryz.func161 (rA 1 (lA (oB [3,9] [ou,oa]) .no)) c0 (Q:=∀(B:wAD),B.wB.length<=9223372036854775807->∀r0:Int,outS B.wB=r0->∃(J:oF)(M:oI),J 0 0/\∀b1 f1,J b1 f1->iF f1 B.wB.length (let U:Int:=u64.wrap (b1+(ix B.wB f1).Value)
ss2 J M b1 U f1 (i64.wrap (f1+1))) (b1=r0))<|by rintro B h _ rfl;refine⟨λs i=>FoldI (λs x=>(s+x.Value)%18446744073709551616) 0 B.wB i s,λs i=>(B.wB.length-i).toNat,FoldI.start,?_⟩;intro s i hi;refine⟨λF=>?_,λF=>hi.done (qd F)⟩;have F:=qc F;exact⟨hi.1,F,hi.next F qqo (by rw[u64w])⟩
def k7z:Ct:=.gp 235 [oq] [.bool] [] λ(B:Li)=>(B.length<=9223372036854775807,allB B,())
theorem k3n:k7z.O:=qrv Bs Tryz.func235 (rA 0 (lA (oB [7] [oa]) .no)) c0 (Q:=∀B,B.length<=9223372036854775807->∀r0,allB B=r0->∃J M,J 0/\∀b1,J b1->iF b1 B.length (let U:=decide (18446744069414584321<=ix B b1)
iT U (false=r0) (ss1 J M b1 (i64.wrap (b1+1)))) (true=r0))<|by rintro B h _ rfl;refine⟨AllI (λx=>decide (x<18446744069414584321)) B,λi=>(B.length-i).toNat,AllI.start,?_⟩;intro i hi;refine⟨λF=>?_,λF=>(hi.done (qd F)).symm⟩;have F:=qc F;exact⟨hi.1,F,λe=>(hi.bad F (by simpa using e)).symm,λe=>hi.next F qqo (by simpa using e)⟩
def kbp:Ct:=.gp 237 [.sl (.st 18)] [.bool] [] λ(B:List wo)=>(B.length<=9223372036854775807,B.all noteV,())
theorem kch:kbp.O:=qrv Bs Tryz.func237 (rA 0 (lA (oB [7] [oa]) .no)) (k4v.c c0) (Q:=∀B,B.length<=9223372036854775807->∀r0,B.all noteV=r0->∃J M,J 0/\∀b1,J b1->iF b1 B.length (iT (! noteV (ix B b1)) (false=r0) (ss1 J M b1 (i64.wrap (b1+1)))) (true=r0))<|by rintro B h _ rfl;refine⟨AllI noteV B,λi=>(B.length-i).toNat,AllI.start,?_⟩;intro i hi;refine⟨λF=>?_,λF=>(hi.done (qd F)).symm⟩;have F:=qc F;exact⟨hi.1,F,λe=>(hi.bad F (by simpa using e)).symm,λe=>hi.next F qqo (by simpa using e)⟩
def k7l:Ct:=.gp 236 [.st 17] [.bool] [] λ(B:wAC)=>(B.wAa.length<=9223372036854775807,spendV B,())
theorem k86:k7l.O:=qrv Bs Tryz.func236 .no (k4v.c (k3n.c c0)) (Q:=∀B,B.wAa.length<=9223372036854775807->∀r0,spendV B=r0->let F:=noteV (wo.mk B.wAS B.wAh B.wAb B.wAp)
iT F ([B.Key].length<=9223372036854775807/\iT (allB [B.Key]) (iD (0<=B.wAg) (iD (B.wAg<4) (iD (0<=B.wAK) (iD (B.wAK<=4095) (iD ((B.wAa.length:Int)<=12) (B.wAa.length<=9223372036854775807/\allB B.wAa=r0) (false=r0)) (false=r0)) (false=r0)) (false=r0)) (false=r0)) (false=r0)) (false=r0))<|by
 rintro B h _ rfl;have J:allB [B.Key]=decide (B.Key<18446744069414584321):=by simp[allB]
 unfold spendV noteOf;grind
def kbr:Ct:=.gp 156 [.st 16,.st 19] [.bool] [] λ(B:wAQ)(F:wAD)=>(SR B/\WR F,relV B F,())
theorem kcd:kbr.O:=qrv Bs Tryz.func156 (rA 5 (lA (oB [95] [oa]) .no)) (k3n.c (k86.c (kch.c c0))) (Q:=∀B F,SR B/\WR F->∀r0,relV B F=r0->iD (B.wH<1) (false=r0) (iD (12<B.wH) (false=r0) ([B.wX,B.wQ,B.wBN,F.wAd].length<=9223372036854775807/\let r1:=allB [B.wX,B.wQ,B.wBN,F.wAd]
iT (!r1) (false=r0) (iD (4294967295<B.wJ) (false=r0) (iD (4294967295<B.wL) (false=r0) (iD (4294967295<B.Fee) (false=r0) (B.wC.length<=9223372036854775807/\iT (! allB B.wC) (false=r0) (B.wy.length<=9223372036854775807/\iT (! allB B.wy) (false=r0) (B.wAc.length<=9223372036854775807/\iT (! allB B.wAc) (false=r0) (let v2:=F.Ins.length !=(B.wC.length:Int)
iT v2 (false=r0) (iD (4<(F.Ins.length:Int)) (false=r0) (let v3:Bool:=(F.wB.length:Int)!=(B.wy.length:Int)
iT v3 (false=r0) (let v4:Bool:=(F.wB.length:Int)!=(B.wAc.length:Int)
iT v4 (false=r0) (iD (4<(F.wB.length:Int)) (false=r0) (∃(I1:oD)(M1:oG),I1 0/\∀b1,I1 b1->iF b1 F.Ins.length ((ix F.Ins b1).wAa.length<=9223372036854775807/\iT (! spendV (ix F.Ins b1)) (false=r0) (let v5:Bool:=(((ix F.Ins b1).wAa).length:Int)!=B.wH
iT v5 (false=r0) (0<=B.wH/\let v6:Bool:=decide (ishl .i64 1 B.wH<=(ix F.Ins b1).wAK)
iT v6 (false=r0) (ss1 I1 M1 b1 (i64.wrap (b1+1)))))) (F.wB.length<=9223372036854775807/\F.wB.all noteV=r0))))))))))))))))<|by
 rintro B F h _ rfl;obtain⟨hs,hw⟩:=h;have l1:=hs.ml;have l2:=hs.cl;have l3:=hs.rl;have l4:=hw.il;have l5:=hw.ol;have bad:∀b:Bool,(relV B F=true->b=true)->b=false->false=relV B F:=by intro b h hb;cases hr:relV B F with
  |false=>rfl|true=>have:=h hr;rw[this]at hb;cases hb
 have hf:relV B F=true↔1<=B.wH/\B.wH<=12/\allB [B.wX,B.wQ,B.wBN,F.wAd]=true/\B.wJ<=4294967295/\B.wL<=4294967295/\B.Fee<=4294967295/\allB B.wC=true/\allB B.wy=true/\allB B.wAc=true/\F.Ins.length=B.wC.length/\F.Ins.length<=4/\F.wB.length=B.wy.length/\F.wB.length=B.wAc.length/\F.wB.length<=4/\F.Ins.all (inV B.wH)=true/\F.wB.all noteV=true:=by unfold relV;simp only[qh,qy,and_assoc]
 have no:¬(1<=B.wH/\B.wH<=12/\allB [B.wX,B.wQ,B.wBN,F.wAd]=true/\B.wJ<=4294967295/\B.wL<=4294967295/\B.Fee<=4294967295/\allB B.wC=true/\allB B.wy=true/\allB B.wAc=true/\F.Ins.length=B.wC.length/\F.Ins.length<=4/\F.wB.length=B.wy.length/\F.wB.length=B.wAc.length/\F.wB.length<=4/\F.Ins.all (inV B.wH)=true/\F.wB.all noteV=true)->false=relV B F:=by intro h;cases hr:relV B F with
  |false=>rfl|true=>exact(h (hf.1 hr)).elim
 clear bad;refine⟨λh=>no λa=>?_,λh1=>⟨λh=>no λa=>?_,λh2=>⟨by simp,λh=>no λa=>?_,λh3=>⟨λh=>no λa=>?_,λh4=>⟨λh=>no λa=>?_,λh5=>⟨λh=>no λa=>?_,λh6=>⟨by omega,λh=>no λa=>?_,λh7=>⟨by omega,λh=>no λa=>?_,λh8=>⟨by omega,λh=>no λa=>?_,λh9=>⟨λh=>no λa=>?_,λX=>⟨λh=>no λa=>?_,λY=>⟨λh=>no λa=>?_,λZ=>⟨λh=>no λa=>?_,λaa=>⟨λh=>no λa=>?_,λab=>?_⟩⟩⟩⟩⟩⟩⟩⟩⟩⟩⟩⟩⟩⟩;.have h:=qc h;omega
 .have h:=qc h;omega
 .rw[a.2.2.1]at h;cases h
 .have h:=qc h;omega
 .have h:=qc h;omega
 .have h:=qc h;omega
 .rw[a.2.2.2.2.2.2.1]at h;cases h
 .rw[a.2.2.2.2.2.2.2.1]at h;cases h
 .rw[a.2.2.2.2.2.2.2.2.1]at h;cases h
 .have h:¬(F.Ins.length:Int)=B.wC.length:=by simpa using h
  omega
 .have h:=qc h;omega
 .have h:¬(F.wB.length:Int)=B.wy.length:=by simpa using h
  omega
 .have h:¬(F.wB.length:Int)=B.wAc.length:=by simpa using h
  omega
 .have h:=qc h;omega
 have h1:=qd h1;have h2:=qd h2;have h3:allB [B.wX,B.wQ,B.wBN,F.wAd]=true:=by simpa using h3
 have h4:=qd h4;have h5:=qd h5;have h6:=qd h6;have h7:allB B.wC=true:=by simpa using h7
 have h8:allB B.wy=true:=by simpa using h8
 have h9:allB B.wAc=true:=by simpa using h9
 have X:(F.Ins.length:Int)=B.wC.length:=by simpa using X
 have Y:=qd Y;have Z:(F.wB.length:Int)=B.wy.length:=by simpa using Z
 have aa:(F.wB.length:Int)=B.wAc.length:=by simpa using aa
 have ab:=qd ab;have hd:ishl .i64 1 B.wH=2^B.wH.toNat:=by
  have h0:0<=B.wH/\B.wH<=12:=by omega
  obtain⟨d,hd⟩:=qm h0.1;rw[hd]at h0⊢;have h0:d<=12:=by omega
  have key:∀d:Nat,d<=12->ishl .i64 1 (d:Int)=2^d:=by decide+kernel
  exact key d h0
 refine⟨AllI (inV B.wH) F.Ins,λi=>(F.Ins.length-i).toNat,AllI.start,?_⟩;intro i hi;refine⟨λJ=>?_,λJ=>?_⟩
 .have J:=qc J;have hx:=hw.i _ (ix_mem F.Ins i hi.1 J);have nb:inV B.wH (ix F.Ins i)=false->false=relV B F:=λhb=>no λa=>by rw[hi.bad J hb]at a;exact absurd a.2.2.2.2.2.2.2.2.2.2.2.2.2.2.1 qqs
  refine⟨hi.1,J,by have:=hx.pl;show(ix F.Ins i).wAa.length<=_;omega,λe=>nb ?_,λe=>⟨λM=>nb ?_,λM=>⟨by omega,λU=>nb ?_,λU=>hi.next J qqo ?_⟩⟩⟩
  .have e:spendV (ix F.Ins i)=false:=by simpa using e
   simp[inV,e]
  .have M:¬((ix F.Ins i).wAa.length:Int)=B.wH:=by simpa using M
   simp[inV,M]
  .have U:=qc U;rw[hd]at U;simp only[inV,qfi,decide_eq_false_iff_not];right;omega
  .have e:spendV (ix F.Ins i)=true:=by simpa using e
   have M:((ix F.Ins i).wAa.length:Int)=B.wH:=by simpa using M
   have U:=qd U;rw[hd]at U;simp only[inV,e,Bool.true_and,qh,qy];exact⟨M,by(first|omega|(dsimp only;omega))⟩
 .have ha:=hi.done (qd J);refine⟨by omega,?_⟩;cases hn:F.wB.all noteV with
  |false=>exact no λa=>by rw[hn]at a;exact absurd a.2.2.2.2.2.2.2.2.2.2.2.2.2.2.2 qqs|true=>exact(hf.2 ⟨by omega,by omega,h3,by omega,by omega,by omega,h7,h8,h9,by omega,by omega,by omega,by omega,by omega,ha,hn⟩).symm
def kc8:Ct:=.gp 240 [yqu,yqi,oq] [yqu] [] λ(F J:Int)(B:Li)=>(U64 F/\Us B/\B.length<=1073741824/\J<=9223372036854775807,climbS F J B,())
theorem kci:kc8.O:=qrv Bs Tryz.func240 (.r 1 (.nd [] (lA (oB [32] [oa]) .no) [] (rA 0 (lA (oB [9,42] [ou,oa]) .no)))) (k2a.c c0) (Q:=∀U F B,U64 U/\Us B/\B.length<=1073741824/\F<=9223372036854775807->∀r0,climbS U F B=r0->iD (12<(B.length:Int)) (0=r0) (iD (F<0) (0=r0) (0<=(B.length:Int)/\let v1:=decide (ishl .i64 1 B.length<=F)
iT v1 (0=r0) (iD (18446744069414584321<=U) (0=r0) (∃I1 M1,I1 0/\∀b1,I1 b1->iF b1 B.length (let v2:=decide (18446744069414584321<=ix B b1)
iT v2 (0=r0) (ss1 I1 M1 b1 (i64.wrap (b1+1)))) (∃I2 M2,I2 U 0/\∀f1 i1,I2 f1 i1->iF i1 B.length (0<=i1/\iT (iand .i64 (ishr .i64 F i1) 1==0) ((U64 f1/\U64 (ix B i1))/\ss2 I2 M2 f1 (hashS 6 [f1,ix B i1]) i1 (i64.wrap (i1+1))) ((U64 (ix B i1)/\U64 f1)/\ss2 I2 M2 f1 (hashS 6 [ix B i1,f1]) i1 (i64.wrap (i1+1)))) (f1=r0)))))))<|by
 rintro U F B h _ rfl;obtain⟨h0,h2,h3,h4⟩:=h;have sh:∀d:Nat,d<=12->ishl .i64 1 (d:Int)=2^d:=by decide+kernel
 refine⟨λe=>?_,λe=>⟨λZ=>?_,λZ=>⟨by omega,λY=>?_,λY=>⟨λe4=>?_,λe4=>?_⟩⟩⟩⟩;.have e:=qc e;unfold climbS;rw[qe qqo]
 .have Z:=qc Z;unfold climbS;rw[qe qqo]
 .have e:=qd e;have Y:=qc Y;rw[sh _ qqo]at Y;unfold climbS;rw[qe λa=>by have:=a.2.2.1;omega]
 .have e4:=qc e4;unfold climbS;rw[qe qqo]
 have e:=qd e;have Z:=qd Z;have Y:=qd Y;have e4:=qd e4;rw[sh _ qqo]at Y;refine⟨AllI (λx=>decide (x<18446744069414584321)) B,λi=>(B.length-i).toNat,AllI.start,?_⟩;intro i hi;refine⟨λJ=>?_,λJ=>?_⟩;.have J:=qc J;refine⟨hi.1,J,λe5=>?_,λe5=>hi.next J qqo (by simpa using e5)⟩;have X:allB B=false:=hi.bad J (by simpa using e5);unfold climbS;rw[qe λa=>by rw[X]at a;exact absurd a.2.2.2.2 qqs]
 .have ha:allB B=true:=hi.done (qd J);have hc:climbS U F B=climbL U F B:=by unfold climbS;rw[qg ⟨by omega,by omega,by omega,by omega,ha⟩]
  rw[hc];have ac:F<4096:=by
   have h1:(2:Int)^B.length<=2^12:=by exact_mod_cast qcu qqo qqo
   omega
  refine⟨λd i=>0<=i/\i<=B.length/\U64 d/\climbL d (F/2^i.toNat) (B.drop i.toNat)=climbL U F B,λd i=>(B.length-i).toNat,⟨by omega,by omega,h0,by simp⟩,?_⟩;rintro d i⟨g0,g1,g2,M⟩;refine⟨λJ=>?_,λJ=>?_⟩
  .have J:=qc J;have hx:=h2 _ (ix_mem B i g0 J);rw[drop_ix B i g0 J]at M;have nx:=inc i B.length g0 J qqo;have hq:F/2^i.toNat/2=F/2^(i+1).toNat:=by rw[show(i+1).toNat=i.toNat+1 by omega,qcp,qcs (qcq (Int.pow_pos qqo))]
   have aa:iand .i64 (ishr .i64 F i) 1=F/2^i.toNat%2:=by
    have hs:ishr .i64 F i=F/2^i.toNat:=by rw[k2c,show min i.toNat i64.bits=i.toNat from qcf (by show i.toNat<=64;omega)];simp
    rw[hs];have ab:0<=F/2^i.toNat:=qec qqo (qcq (Int.pow_pos qqo));have ad:F/2^i.toNat<=F:=Int.ediv_le_self _ qqo;exact kbm _ ⟨ab,by(first|omega|(dsimp only;omega))⟩
   rw[aa];have M:climbL (if F/2^i.toNat%2=0 then hashS 6 [d,ix B i]else hashS 6 [ix B i,d]) (F/2^i.toNat/2) (B.drop (i+1).toNat)=climbL U F B:=M;rw[hq]at M;refine⟨g0,J,g0,λX=>?_,λX=>?_⟩
   .have X:F/2^i.toNat%2=0:=by simpa using X
    rw[qg X]at M;rw[nx];exact⟨⟨g2,hx⟩,⟨by omega,by omega,kx _ _,M⟩,by(first|omega|(dsimp only;omega))⟩
   .have X:¬F/2^i.toNat%2=0:=by simpa using X
    rw[qe X]at M;rw[nx];exact⟨⟨hx,g2⟩,⟨by omega,by omega,kx _ _,M⟩,by(first|omega|(dsimp only;omega))⟩
  .have J:=qd J;rw[qas qqo]at M;exact M
def kd6:Ct:=.tp 332 [yqi] [.bool] [] λ(B:Int)=>(decide (0<=B)&&decide (B<4),())
theorem keg:kd6.O:=qtv Bs Tryz.func332 .no c0 (Q:=∀(B:Int),∀r0,(decide (0<=B)&&decide (B<4))=r0->iD (0<=B) (decide (B<4)=r0) (false=r0))<|by grind
def kj9:Ct:=.gp 238 [yqu,yqi] [yqu] [] λ(F B:Int)=>(U64 F/\-9223372036854775808<=B/\B<=9223372036854775807,ownerS F B,())
theorem kmz:kj9.O:=qrv Bs Tryz.func238 .no (keg.c (kb9.c c0)) (Q:=∀F B,U64 F/\-9223372036854775808<=B/\B<=9223372036854775807->∀r0,ownerS F B=r0->iT (!(decide (0<=B)&&decide (B<4))) (0=r0) ((U64 1/\Us [F,u64.wrap B]/\[F,u64.wrap B].length<=1099511627776)/\let M:=hashS 1 [F,u64.wrap B]
M=r0))<|by
 rintro F B h _ rfl;obtain⟨U,h1,X⟩:=h;refine⟨λe=>?_,λe=>?_⟩;.unfold ownerS;rw[qe (by simp at e;omega)]
 .have e:0<=B/\B<4:=by simpa using e
  rw[wu B qqo qqo];refine⟨⟨by decide,?_,by simp⟩,?_⟩
  .intro x J;simp at J;rcases J with rfl|rfl;.exact U
   .omega
  .unfold ownerS;rw[qg e]
def kgc:Ct:=.b (gk 239 [oo,ou,ou] yO (.tup [ou,oc])) [yqu,yqu,.bool,yqu,yqi,.sl (.st 0),oz,.sl yqi,oz,.sl oq,oz,ow] yR λ(M U:Int)(X:Bool)(Ab Ad:Int)(J:List wN)(B:Lb)(F:Li)(Y:Lb)(Z:List Li)(aa:Lb)(ab:Lo)=>(U64 M/\U64 U/\OrOk B F J,(),λ_=>((markP (pk X J B F) M U).getD 0,(markP (pk X J B F) M U).isSome,X,Ab,Ad,J,B,F,Y,Z,aa,ab,()))
theorem kj6:kgc.O:=pbv Bs Tryz.func239 (rA 0 (oC 13)) (k84.c c0) (Q:=∀J M X(Ab Ad:Int)U B F(Y:Lb)(Z:List Li)(aa:Lb)(ab:Lo),U64 J/\U64 M/\OrOk B F U->∀R,()=R->∀J1:oE,(∀b1,iT b1 (0=(markP (pk X U B F) J M).getD 0/\false=(markP (pk X U B F) J M).isSome/\X=X/\Ab=Ab/\Ad=Ad/\U=U/\B=B/\F=F/\Y=Y/\Z=Z/\aa=aa/\ab=ab) ((U64 3/\Us [J,M]/\[J,M].length<=1073741824/\OrOk B F U)/\let r2:=(pk X U B F 3 [J,M]).getD 0
let r3:=(pk X U B F 3 [J,M]).isSome
r2=(markP (pk X U B F) J M).getD 0/\r3=(markP (pk X U B F) J M).isSome/\X=X/\Ab=Ab/\Ad=Ad/\U=U/\B=B/\F=F/\Y=Y/\Z=Z/\aa=aa/\ab=ab)->J1 b1)->iD (18446744069414584321<=J) (J1 true) (J1 (decide (18446744069414584321<=M))))<|by
 rintro J M X Ab Ad U B F Y Z aa ab h R hR;obtain⟨h1,h2,ho⟩:=h;intro J1 k1;have j1:∀s,s=decide ¬(J<18446744069414584321/\M<18446744069414584321)->J1 s:=by
  intro s hs;refine k1 _ ⟨λe=>?_,λe=>?_⟩;.rw[e]at hs;have hs:=qc hs.symm;unfold markP;rw[qe hs];exact by repeat' first|apply qaa|exact rfl|exact qo
  .rw[e]at hs;have hs:J<18446744069414584321/\M<18446744069414584321:=by simpa using hs.symm
   unfold markP;rw[qg hs];refine⟨⟨by decide,?_,by simp,ho⟩,by repeat' first|apply qaa|exact rfl|exact qo⟩;intro x hx;simp at hx;rcases hx with rfl|rfl;.exact h1
   .exact h2
 refine⟨λe=>j1 _ ?_,λe=>j1 _ ?_⟩;.have e:=qc e;symm;apply qao;omega
 .have e:=qd e;congr 1;apply propext;omega
def k9m:Ct:=.b (gk 157 [oo,.agg yD1,.agg [zqu,zqu,zqu,zqu,zqu,zqi,zqi,zql,.d .bool],ou] yO (.one oa)) [.st 16,.st 17,yqu,.bool,yqu,yqi,.sl (.st 0),oz,.sl yqi,oz,.sl oq,oz,ow] yV λ(p1:wAQ)(p2:wAC)(p3:Int)(M:Bool)(Ab Ad:Int)(J:List wN)(B:Lb)(F:Li)(U:Lb)(X:List Li)(Y:Lb)(Z:Lo)=>(PR p2/\OrOk B F J/\∀l a,(pk M J B F) l a=none∨∃n,(pk M J B F) l a=some n/\U64 n,(),λ_=>(inE (pk M J B F) p1.wX p3 p2,M,Ab,Ad,J,B,F,U,X,Y,Z,()))
theorem ka0:k9m.O:=pbv Bs Tryz.func157 .no (kmz.c (kj6.c (k4n.c (kci.c c0)))) (Q:=∀(p1:wAQ)(J:wAC)(p3:Int)(U:Bool)(Ab Ad:Int)(M:List wN)(B:Lb)(F:Li)(X:Lb)(Y:List Li)(Z:Lb)(aa:Lo),PR J/\OrOk B F M/\(∀l a,(pk U M B F) l a=none∨∃n,(pk U M B F) l a=some n/\U64 n)->∀R:Unit,()=R->(U64 J.Key/\-9223372036854775808<=J.wAg/\J.wAg<=9223372036854775807)/\let v1:Bool:=J.wAh !=ownerS J.Key J.wAg
iT v1 (21=(inE (pk U M B F) p1.wX p3 J:Int)/\U=U/\Ab=Ab/\Ad=Ad/\M=M/\B=B/\F=F/\X=X/\Y=Y/\Z=Z/\aa=aa) ((U64 J.Key/\U64 J.wAb/\OrOk B F M)/\let r2:Int:=(markP (pk U M B F) J.Key J.wAb).getD 0
let r3:Bool:=(markP (pk U M B F) J.Key J.wAb).isSome
iT (!r3) (12=(inE (pk U M B F) p1.wX p3 J:Int)/\U=U/\Ab=Ab/\Ad=Ad/\M=M/\B=B/\F=F/\X=X/\Y=Y/\Z=Z/\aa=aa) (iT (r2 !=p3) (12=(inE (pk U M B F) p1.wX p3 J:Int)/\U=U/\Ab=Ab/\Ad=Ad/\M=M/\B=B/\F=F/\X=X/\Y=Y/\Z=Z/\aa=aa) (iT J.wBO (iT (J.wAS !=0) (13=(inE (pk U M B F) p1.wX p3 J:Int)/\U=U/\Ab=Ab/\Ad=Ad/\M=M/\B=B/\F=F/\X=X/\Y=Y/\Z=Z/\aa=aa) (0=(inE (pk U M B F) p1.wX p3 J:Int)/\U=U/\Ab=Ab/\Ad=Ad/\M=M/\B=B/\F=F/\X=X/\Y=Y/\Z=Z/\aa=aa)) ((NR (wo.mk J.wAS J.wAh J.wAb J.wAp)/\OrOk B F M)/\let r4:Int:=(commP (pk U M B F) (wo.mk J.wAS J.wAh J.wAb J.wAp)).getD 0
let r5:Bool:=(commP (pk U M B F) (wo.mk J.wAS J.wAh J.wAb J.wAp)).isSome
iT (!r5) (11=(inE (pk U M B F) p1.wX p3 J:Int)/\U=U/\Ab=Ab/\Ad=Ad/\M=M/\B=B/\F=F/\X=X/\Y=Y/\Z=Z/\aa=aa) ((U64 r4/\Us J.wAa/\J.wAa.length<=1073741824/\J.wAK<=9223372036854775807)/\let v6:Bool:=climbS r4 J.wAK J.wAa !=p1.wX
iT v6 (11=(inE (pk U M B F) p1.wX p3 J:Int)/\U=U/\Ab=Ab/\Ad=Ad/\M=M/\B=B/\F=F/\X=X/\Y=Y/\Z=Z/\aa=aa) (0=(inE (pk U M B F) p1.wX p3 J:Int)/\U=U/\Ab=Ab/\Ad=Ad/\M=M/\B=B/\F=F/\X=X/\Y=Y/\Z=Z/\aa=aa)))))))<|by
 rintro p1 J p3 U Ab Ad M B F X Y Z aa h R hR;obtain⟨hp,ho,hu⟩:=h;have hm:markP (pk U M B F) J.Key J.wAb=none∨∃n,markP (pk U M B F) J.Key J.wAb=some n/\U64 n:=by unfold markP;split;exact hu _ _;exact .inl rfl
 have hc:commP (pk U M B F) (noteOf J)=none∨∃n,commP (pk U M B F) (noteOf J)=some n/\U64 n:=by unfold commP;split;exact hu _ _;exact .inl rfl
 have ab:U64 ((commP (pk U M B F) (noteOf J)).getD 0):=by
  rcases hc with h|⟨n,h,hn⟩;.rw[h];decide
  .rw[h];exact hn
 have en:noteOf J=⟨J.wAS,J.wAh,J.wAb,J.wAp⟩:=rfl;refine⟨⟨hp.k,hp.nu.1,hp.nu.2⟩,?_⟩;simp only[<-en];unfold inE;refine⟨λe=>?_,λe=>⟨⟨hp.k,hp.n.r,ho⟩,λe2=>?_,λe2=>⟨λe3=>?_,λe3=>⟨λe4=>⟨λe5=>?_,λe5=>?_⟩,λe4=>⟨⟨hp.n,ho⟩,λe6=>?_,λe6=>⟨⟨ab,hp.pa,hp.pl,hp.po.2⟩,λe7=>?_,λe7=>?_⟩⟩⟩⟩⟩⟩;all_goals simp_all
def kay:Ct:=.b (gk 112 [oo,.agg yD1,.agg [.d (.sl (.st 17)),.d (.sl (.st 18)),zqu]] yO (.one oa)) [.st 16,.st 19,.bool,yqu,yqi,.sl (.st 0),oz,.sl yqi,oz,.sl oq,oz,ow] yV λ(p1:wAQ)(p2:wAD)(M:Bool)(Ab Ad:Int)(J:List wN)(B:Lb)(F:Li)(U:Lb)(X:List Li)(Y:Lb)(Z:Lo)=>(SR p1/\WR p2/\OrOk B F J/\∀l a,(pk M J B F) l a=none∨∃n,(pk M J B F) l a=some n/\U64 n,(),λ_=>(checkS (pk M J B F) p1 p2,M,Ab,Ad,J,B,F,U,X,Y,Z,()))
abbrev Fz5(r:Type):=Int->Bool->Int->Int->List wN->Lb->Lo->Lb->List Li->Lb->Li->r
theorem kce:kay.O:=pbv Bs Tryz.func112 (.r 1 (.nd [] (lA ⟨[3,2,1,0],yP,[21],[oa],[]⟩ .no) [] (.nd [] (lA ⟨[3,2,1,0],yP,[42],[oa],[]⟩ .no) [] (.jn (oB [] []) [] .no [] .no)))) (kcd.c (ka0.c (k4n.c (kfz.c (kb2.c (ka4.c c0)))))) (Q:=∀J M X Ab Ad U B F Y Z aa ab,SR J/\WR M/\OrOk B F U/\(∀l a,(pk X U B F) l a=none∨∃n,(pk X U B F) l a=some n/\U64 n)->∀R:Unit,()=R->(SR J/\WR M)/\iT (! relV J M) (1=(checkS (pk X U B F) J M:Int)/\X=X/\Ab=Ab/\Ad=Ad/\U=U/\B=B/\F=F/\Y=Y/\Z=Z/\aa=aa/\ab=ab) (∃(I1:Fz5 Prop)(M1:Fz5 Nat),I1 0 X Ab Ad U aa ab Y Z B F/\∀b1 f1 i1 k1 l1 m1 n1 o1 q1 s1 t1,I1 b1 f1 i1 k1 l1 m1 n1 o1 q1 s1 t1->iF b1 M.Ins.length (iR b1 J.wC.length ((PR (ix M.Ins b1)/\OrOk s1 t1 l1/\∀l a,(pk f1 l1 s1 t1) l a=none∨∃n,(pk f1 l1 s1 t1) l a=some n/\U64 n)/\let r1:Int:=inE (pk f1 l1 s1 t1) J.wX (ix J.wC b1) (ix M.Ins b1)
iT (r1 !=0) (r1=(checkS (pk X U B F) J M:Int)/\f1=X/\i1=Ab/\k1=Ad/\l1=U/\s1=B/\t1=F/\o1=Y/\q1=Z/\m1=aa/\n1=ab) (I1 (i64.wrap (b1+1)) f1 i1 k1 l1 m1 n1 o1 q1 s1 t1/\M1 (i64.wrap (b1+1)) f1 i1 k1 l1 m1 n1 o1 q1 s1 t1<M1 b1 f1 i1 k1 l1 m1 n1 o1 q1 s1 t1))) (∃(I2:Fz5 Prop)(M2:Fz5 Nat),I2 0 f1 i1 k1 l1 m1 n1 o1 q1 s1 t1/\∀u1 x1 y1 b2 f2 i2 k2 l2 m2 n2 o2,I2 u1 x1 y1 b2 f2 i2 k2 l2 m2 n2 o2->iF u1 M.wB.length ((NR (ix M.wB u1)/\OrOk n2 o2 f2)/\let r2:Int:=(commP (pk x1 f2 n2 o2) (ix M.wB u1)).getD 0
let r3:Bool:=(commP (pk x1 f2 n2 o2) (ix M.wB u1)).isSome
iT (!r3) (1=(checkS (pk X U B F) J M:Int)/\x1=X/\y1=Ab/\b2=Ad/\f2=U/\n2=B/\o2=F/\l2=Y/\m2=Z/\i2=aa/\k2=ab) (iR u1 J.wy.length (iT (r2 !=ix J.wy u1) (1=(checkS (pk X U B F) J M:Int)/\x1=X/\y1=Ab/\b2=Ad/\f2=U/\n2=B/\o2=F/\l2=Y/\m2=Z/\i2=aa/\k2=ab) (iR u1 J.wAc.length (let v4:Bool:=(ix M.wB u1).Rho !=ix J.wAc u1
iT v4 (1=(checkS (pk X U B F) J M:Int)/\x1=X/\y1=Ab/\b2=Ad/\f2=U/\n2=B/\o2=F/\l2=Y/\m2=Z/\i2=aa/\k2=ab) (I2 (i64.wrap (u1+1)) x1 y1 b2 f2 i2 k2 l2 m2 n2 o2/\M2 (i64.wrap (u1+1)) x1 y1 b2 f2 i2 k2 l2 m2 n2 o2<M2 u1 x1 y1 b2 f2 i2 k2 l2 m2 n2 o2)))))) (∀J1:Prop,((M.Ins.length<=9223372036854775807/\let v5:Int:=u64.wrap (inS M.Ins+J.wJ)
M.wB.length<=9223372036854775807/\let v6:Int:=u64.wrap (outS M.wB+J.wL)
iT (v5 !=u64.wrap (v6+J.Fee)) (13=(checkS (pk X U B F) J M:Int)/\x1=X/\y1=Ab/\b2=Ad/\f2=U/\n2=B/\o2=F/\l2=Y/\m2=Z/\i2=aa/\k2=ab) (0=(checkS (pk X U B F) J M:Int)/\x1=X/\y1=Ab/\b2=Ad/\f2=U/\n2=B/\o2=F/\l2=Y/\m2=Z/\i2=aa/\k2=ab))->J1)->iD (0<J.wJ) (U64 M.wAd/\iT (J.wQ !=acctS M.wAd) (21=(checkS (pk X U B F) J M:Int)/\x1=X/\y1=Ab/\b2=Ad/\f2=U/\n2=B/\o2=F/\l2=Y/\m2=Z/\i2=aa/\k2=ab) J1) J1))))<|by
 rintro J M X Ab Ad U B F Y Z aa ab h R hR;obtain⟨hs,hw,ho,hu⟩:=h;refine⟨⟨hs,hw⟩,λe=>?_,λe=>?_⟩
 .have e:relV J M=false:=by simpa using e
  unfold checkS;rw[qg e];(repeat' apply qaa)<;>first|rfl|exact qo
 have e:relV J M=true:=by simpa using e
 have hv:M.Ins.length=J.wC.length/\M.wB.length=J.wy.length/\M.wB.length=J.wAc.length:=by unfold relV at e;simp only[qh,qy]at e;exact⟨e.1.1.1.1.1.1.2,e.1.1.1.1.2,e.1.1.1.2⟩
 obtain⟨v1,v2,v3⟩:=hv;have ae:=hw.il;have ag:=hw.ol;refine⟨λi z0 z1 z2 z3 z4 z5 z6 z7 z8 z9=>(X=z0/\Ab=z1/\Ad=z2/\U=z3/\aa=z4/\ab=z5/\Y=z6/\Z=z7/\B=z8/\F=z9)/\0<=i/\i<=M.Ins.length/\insE (pk X U B F) J.wX (M.Ins.drop i.toNat) (J.wC.drop i.toNat)=insE (pk X U B F) J.wX M.Ins J.wC,λi _ _ _ _ _ _ _ _ _ _=>(M.Ins.length-i).toNat,⟨⟨rfl,rfl,rfl,rfl,rfl,rfl,rfl,rfl,rfl,rfl⟩,by omega,by omega,rfl⟩,?_⟩;rintro i _ _ _ _ _ _ _ _ _ _⟨⟨rfl,rfl,rfl,rfl,rfl,rfl,rfl,rfl,rfl,rfl⟩,g0,g1,g2⟩;refine⟨λhh=>?_,λhh=>?_⟩
 .have hh:=qc hh;have hp:=hw.i _ (ix_mem M.Ins i g0 hh);have hd:=drop_ix M.Ins i g0 hh;have ad:=drop_ix J.wC i g0 qqo;rw[hd,ad]at g2;have g2:(if inE (pk X U B F) J.wX (ix J.wC i) (ix M.Ins i)≠0 then inE (pk X U B F) J.wX (ix J.wC i) (ix M.Ins i)else insE (pk X U B F) J.wX (M.Ins.drop (i+1).toNat) (J.wC.drop (i+1).toNat))=insE (pk X U B F) J.wX M.Ins J.wC:=g2;have nx:=inc i M.Ins.length g0 hh qqo;refine⟨g0,hh,g0,by omega,⟨hp,ho,hu⟩,?_⟩;refine⟨λe2=>?_,λe2=>?_⟩
  .have e2:inE (pk X U B F) J.wX (ix J.wC i) (ix M.Ins i)≠0:=by simpa using e2
   rw[qg e2]at g2;refine⟨?_,by(repeat' apply qaa)<;>first|rfl|exact qo⟩;have g2:_=insE (pk X U B F) J.wX M.Ins J.wC:=g2;unfold checkS;rw[qe (by simp[e]),qg (by rw[<-g2];exact e2),<-g2]
  .have e2:inE (pk X U B F) J.wX (ix J.wC i) (ix M.Ins i)=0:=by simpa using e2
   rw[qe (by simp[e2])]at g2;rw[nx];exact⟨⟨⟨rfl,rfl,rfl,rfl,rfl,rfl,rfl,rfl,rfl,rfl⟩,by omega,by omega,g2⟩,by(dsimp only;omega)⟩
 .have hh:=qd hh;rw[qas qqo]at g2;have g2:0=insE (pk X U B F) J.wX M.Ins J.wC:=g2;have ac:checkS (pk X U B F) J M=if outsB (pk X U B F) M.wB J.wy J.wAc=false then 1 else if 0<J.wJ/\J.wQ≠acctS M.wAd then 21 else if(inS M.Ins+J.wJ)%18446744073709551616≠((outS M.wB+J.wL)%18446744073709551616+J.Fee)%18446744073709551616 then 13 else 0:=by
   conv=>lhs;unfold checkS
   rw[qe (by simp[e]),qe (by rw[<-g2];simp)]
  refine⟨λi z0 z1 z2 z3 z4 z5 z6 z7 z8 z9=>(X=z0/\Ab=z1/\Ad=z2/\U=z3/\aa=z4/\ab=z5/\Y=z6/\Z=z7/\B=z8/\F=z9)/\0<=i/\i<=M.wB.length/\outsB (pk X U B F) (M.wB.drop i.toNat) (J.wy.drop i.toNat) (J.wAc.drop i.toNat)=outsB (pk X U B F) M.wB J.wy J.wAc,λi _ _ _ _ _ _ _ _ _ _=>(M.wB.length-i).toNat,⟨⟨rfl,rfl,rfl,rfl,rfl,rfl,rfl,rfl,rfl,rfl⟩,by omega,by omega,rfl⟩,?_⟩;rintro k _ _ _ _ _ _ _ _ _ _⟨⟨rfl,rfl,rfl,rfl,rfl,rfl,rfl,rfl,rfl,rfl⟩,k0,k1,k2⟩;refine⟨λhk=>?_,λhk=>?_⟩
  .have hk:=qc hk;have hp:=hw.o _ (ix_mem M.wB k k0 hk);rw[drop_ix M.wB k k0 hk,drop_ix J.wy k k0 qqo,drop_ix J.wAc k k0 qqo]at k2;have k2:(outB (pk X U B F) (ix M.wB k) (ix J.wy k) (ix J.wAc k)&&outsB (pk X U B F) (M.wB.drop (k+1).toNat) (J.wy.drop (k+1).toNat) (J.wAc.drop (k+1).toNat))=outsB (pk X U B F) M.wB J.wy J.wAc:=k2;have nx:=inc k M.wB.length k0 hk qqo;have bad:outB (pk X U B F) (ix M.wB k) (ix J.wy k) (ix J.wAc k)=false->outsB (pk X U B F) M.wB J.wy J.wAc=false:=λhb=>by rw[hb]at k2;exact k2.symm
   refine⟨k0,hk,⟨hp,ho⟩,?_⟩;refine⟨λe3=>?_,λe3=>⟨k0,by omega,λe4=>?_,λe4=>⟨k0,by omega,λe5=>?_,λe5=>?_⟩⟩⟩
   .rw[ac,qg (bad (by unfold outB;rw[show(commP (pk X U B F) (ix M.wB k)).isSome=false by simpa using e3];rfl))];(repeat' apply qaa)<;>first|rfl|exact qo
   .rw[ac,qg (bad (by
     have e4:¬(commP (pk X U B F) (ix M.wB k)).getD 0=ix J.wy k:=by simpa using e4
     simp[outB,e4]))];(repeat' apply qaa)<;>first|rfl|exact qo
   .rw[ac,qg (bad (by
     have e5:¬(ix M.wB k).Rho=ix J.wAc k:=by simpa using e5
     simp[outB,e5]))];(repeat' apply qaa)<;>first|rfl|exact qo
   .have e3:(commP (pk X U B F) (ix M.wB k)).isSome=true:=by simpa using e3
    have e4:(commP (pk X U B F) (ix M.wB k)).getD 0=ix J.wy k:=by simpa using e4
    have e5:(ix M.wB k).Rho=ix J.wAc k:=by simpa using e5
    have hb:outB (pk X U B F) (ix M.wB k) (ix J.wy k) (ix J.wAc k)=true:=by simp[outB,e3,e4,e5]
    rw[hb,Bool.true_and]at k2;rw[nx];exact⟨⟨⟨rfl,rfl,rfl,rfl,rfl,rfl,rfl,rfl,rfl,rfl⟩,by omega,by omega,k2⟩,by(dsimp only;omega)⟩
  .have hk:=qd hk;rw[qas qqo]at k2;have k2:true=outsB (pk X U B F) M.wB J.wy J.wAc:=k2;intro J1 kJ;have j1:(checkS (pk X U B F) J M=if(inS M.Ins+J.wJ)%18446744073709551616≠((outS M.wB+J.wL)%18446744073709551616+J.Fee)%18446744073709551616 then 13 else 0)->J1:=by
    intro hr;refine kJ ⟨by show M.Ins.length<=_;omega,by show M.wB.length<=_;omega,?_⟩;simp only[u64w];refine⟨λhb=>?_,λhb=>?_⟩
    .rw[hr,qg (by simpa using hb)];(repeat' apply qaa)<;>first|rfl|exact qo
    .rw[hr,qe (by simpa using hb)];(repeat' apply qaa)<;>first|rfl|exact qo
   rw[<-k2,qe qqs]at ac;refine⟨λhd=>⟨hw.s,λha=>?_,λha=>j1 ?_⟩,λhd=>j1 ?_⟩
   .have ha:¬J.wQ=acctS M.wAd:=by simpa using ha
    rw[ac,qg ⟨qc hd,ha⟩];(repeat' apply qaa)<;>first|rfl|exact qo
   .have ha:J.wQ=acctS M.wAd:=by simpa using ha
    rw[ac,qe λh=>h.2 ha]
   .rw[ac,qe λh=>qd hd h.1]
def kgm:Ct:=.t (gk 155 [oo] yF1 (.one oc)) yN1 [.bool,oA,yqi,.bool] [] λ(B:Li)(F:Int)(J:Bool)=>(!J&&F==B.length,B,F,J,())
theorem kjl:kgm.O:=ptv Bs Tryz.func155 .no c0 (Q:=∀B F J,∀r0,(!J&&F==B.length)=r0->∀Bg:Li,B=Bg->∀Bf,F=Bf->∀Bh,J=Bh->iT (!J) ((F==(B.length:Int))=r0/\B=Bg/\F=Bf/\J=Bh) (false=r0/\B=Bg/\F=Bf/\J=Bh))<|by rintro B F J _ rfl _ rfl _ rfl _ rfl;refine⟨λe=>⟨by rw[e];rfl,rfl,rfl,rfl⟩,λe=>⟨by rw[e];rfl,rfl,rfl,rfl⟩⟩
def kgp:Ct:=.g (gk 234 [oo] yF1 (.one oa)) yN1 yJ1 [] λ(B:Li)(F:Int)(J:Bool)=>((0<=F/\F<=B.length)/\B.length<=137438953472,(B.length-F:Int),B,F,J,())
theorem k83:kgp.O:=prv Bs Tryz.func234 .no c0 (Q:=∀B F J,(0<=F/\F<=B.length)/\B.length<=137438953472->∀r0,(B.length:Int)-F=r0->∀Bg:Li,B=Bg->∀Bf,F=Bf->∀Bh:Bool,J=Bh->let M:=i64.wrap (B.length-F)
M=r0/\B=Bg/\F=Bf/\J=Bh)<|by rintro B F J h _ rfl _ rfl _ rfl _ rfl;exact⟨wi _ qqo qqo,rfl,rfl,rfl⟩
def kcg:Ct:=.g (gk 233 [oo,oa] yF1 (.tup [ou,oc])) yJ1 [yqu,.bool,oA,yqi,.bool] [true,true,false,true,true] λ(B:Int)(F:Li)(J:Int)(M:Bool)=>(RdOk F J/\1<=B/\B<=8,(rdD F J M B).n,(rdD F J M B).ok,F,(rdD F J M B).pos,(rdD F J M B).fail,())
theorem k38:kcg.O:=prv Bs Tryz.func233 (.r 0 (.nd [] (.jn ⟨[0],yF1,[17],[oc],[]⟩ [] .no [] .no) [] (rA 0 (lA (oB [6,22] [ou,oa]) .no)))) (k83.c c0) (Q:=∀J F B M,RdOk F B/\1<=J/\J<=8->∀r0,(rdD F B M J).n=r0->∀r1,(rdD F B M J).ok=r1->∀Bg,F=Bg->∀Bf,(rdD F B M J).pos=Bf->∀Bh,(rdD F B M J).fail=Bh->∀X:oQ,(∀(b1:Bool)(Z:Li)(U:Int)(k1:Bool),iT b1 (0=r0/\false=r1/\Z=Bg/\U=Bf/\true=Bh) (∃(I1:oF)(M1:oI),I1 0 0/\∀l1 m1,I1 l1 m1->iD (m1<J) (0<=i64.wrap (U+m1)/\i64.wrap (U+m1)<(Z.length:Int)/\let v3:Int:=u64.wrap (ix Z (i64.wrap (U+m1)))
0<=i64.wrap (8*m1)/\let v4:Int:=ior .u64 l1 (ishl .u64 v3 (i64.wrap (8*m1)))
ss2 I1 M1 l1 v4 m1 (i64.wrap (m1+1))) (l1=r0/\true=r1/\Z=Bg/\i64.wrap (U+J)=Bf/\k1=Bh))->X b1 Z U k1)->iT M (X true F B M) (((0<=B/\B<=F.length)/\F.length<=137438953472)/\let v2:Bool:=decide ((F.length:Int)-B<J)
X v2 F B M))<|by
 rintro J F B M h;repeat rintro _ rfl
 obtain⟨⟨hb,hl,h0,h1⟩,h2,h3⟩:=h;intro X k1;have jf:M=true∨(F.length:Int)-B<J->X true F B M:=by intro h;refine k1 _ _ _ _ ⟨λ_=>?_,λh=>by simp at h⟩;unfold rdD;rw[qg h];exact⟨rfl,rfl,rfl,rfl,rfl⟩
 have jt:¬(M=true∨(F.length:Int)-B<J)->X false F B M:=by
  intro h;refine k1 _ _ _ _ ⟨λh=>by simp at h,λ_=>?_⟩;have hD:rdD F B M J=⟨val ((F.drop B.toNat).take J.toNat),true,B+J,false⟩:=by unfold rdD;rw[qe h]
  rw[hD];refine⟨λn i=>0<=i/\i<=J/\n=val ((F.drop B.toNat).take i.toNat),λ_ i=>(J-i).toNat,⟨by omega,by omega,rfl⟩,?_⟩;rintro n i⟨g0,g1,rfl⟩;refine⟨λY=>?_,λY=>?_⟩
  .have Y:=qc Y;have aa:(((F.drop B.toNat).take i.toNat).length:Int)=i:=by rw[qu,qal];omega
   have ab:ix F (B+i)=ix (F.drop B.toNat) i:=by rw[ix_nat _ _ qqo qqo,ix_nat _ _ g0 (by rw[qal];omega),List.getElem_drop];congr 1;omega
   have hx:=hb _ (ix_mem F (B+i) qqo qqo);have hv:=ior_val ((F.drop B.toNat).take i.toNat) (ix (F.drop B.toNat) i) ((hb.drop _).take _) qqo (by rw[<-ab];exact hx);rw[aa]at hv;rw[inc i J g0 Y qqo,wi (B+i) qqo qqo,wi (8*i) qqo qqo,wu (ix F (B+i)) qqo qqo,ab];simp only[hv];refine⟨by omega,by omega,by omega,⟨by omega,by omega,?_⟩,by(first|omega|(dsimp only;omega))⟩;rw[kg _ i g0 (by rw[qal];omega)]
  .have Y:=qd Y;have h4:M=false:=by
    cases hc:M;.rfl
    .exact absurd (.inl hc) h
   exact⟨by rw[show i=J by omega],rfl,rfl,wi _ qqo qqo,h4⟩
 refine⟨λh=>by have:=jf (.inl h);rw[h]at this;exact h▸this,λh=>⟨⟨⟨h0,h1⟩,hl⟩,?_⟩⟩;by_cases hq:(F.length:Int)-B<J;.rw[qao hq];exact jf (.inr hq)
 .rw[qat hq];exact jt (by rw[h];simpa using hq)
def kje:Ct:=.g (gk 151 [oo,oa] yF1 (.one oa)) yJ1 yJ1 [true,false,true,true] λ(J:Int)(B:Li)(F:Int)(M:Bool)=>(RdOk B F,(rdI B F M J).n,B,(rdI B F M J).pos,(rdI B F M J).fail,())
theorem k9u:kje.O:=prv Bs Tryz.func151 (rA 1 (oC 19)) (k38.c c0) (Q:=∀U B F J,RdOk B F->∀r0,(rdI B F J U).n=r0->∀Bg,B=Bg->∀Bf,(rdI B F J U).pos=Bf->∀Bh,(rdI B F J U).fail=Bh->(RdOk B F/\1<=(4:Int)/\(4:Int)<=8)/\∀Y r6 Z r8,Y=(rdD B F J 4).n/\r6=(rdD B F J 4).ok/\Z=(rdD B F J 4).pos/\r8=(rdD B F J 4).fail->∀X:oE,(∀b1,iT b1 (0=r0/\B=Bg/\Z=Bf/\true=Bh) (i64.wrap Y=r0/\B=Bg/\Z=Bf/\r8=Bh)->X b1)->iT (!r6) (X true) (X (decide (U<i64.wrap Y))))<|by
 rintro U B F J h _ rfl _ rfl _ rfl _ rfl;have hn:0<=(rdD B F J 4).n/\(rdD B F J 4).n<4294967296:=kc6 h (p:=4) (f:=J) qqo qqo;refine⟨⟨h,by omega,by omega⟩,?_⟩;rintro _ _ _ _⟨rfl,rfl,rfl,rfl⟩;intro X k1;unfold rdI at k1;rw[wi (rdD B F J 4).n qqo (by omega)];refine⟨λe=>k1 _ ⟨λ_=>?_,λh=>by simp at h⟩,λe=>k1 _ ⟨λM=>?_,λM=>?_⟩⟩
 .have e:(rdD B F J 4).ok=false:=by simpa using e
  rw[e];exact⟨rfl,rfl,rfl,rfl⟩
 .have M:=qc M;rw[qg (.inr M)];exact⟨rfl,rfl,rfl,rfl⟩
 .have e:(rdD B F J 4).ok=true:=by simpa using e
  rw[qe (by rw[e];simpa using M)];exact⟨wi _ qqo (by omega),rfl,rfl,rfl⟩
def kg7:Ct:=.g (gk 154 [oo,oa,ou] yF1 (.one oe)) [yqi,yqu,oA,yqi,.bool] [oq,oA,yqi,.bool] [true,false,true,true] λ(B M:Int)(F:Li)(J:Int)(U:Bool)=>(RdOk F J/\0<=B/\B<=4096,(rdL F J U B M).l,F,(rdL F J U B M).pos,(rdL F J U B M).fail,())
theorem kie:kg7.O:=prv Bs Tryz.func154 (.r 1 (.nd [] (.jn ⟨[0],yF1,[23],[oc],[]⟩ [] .no [] .no) [] (.r 0 (.nd [] (lA ⟨[1,0],[.vec yqu,.cells [.d oA,zqi,.d .bool]],[31],[oa],[]⟩ .no) [] (.r 0 (.rt [.frz 1 [6]])))))) (k9u.c (k83.c (k38.c c0))) (Q:=∀J M B Y Z,RdOk B Y/\0<=J/\J<=4096->∀r0,(rdL B Y Z J M).l=r0->∀Bg,B=Bg->∀Bf,(rdL B Y Z J M).pos=Bf->∀Bh,(rdL B Y Z J M).fail=Bh->RdOk B Y/\∀U r5 r6,U=(rdI B Y Z J).n/\r5=(rdI B Y Z J).pos/\r6=(rdI B Y Z J).fail->∀J1:oQ,(∀b1 f1 i1 k1,iT b1 (([]:Li)=r0/\f1=Bg/\i1=Bf/\true=Bh) (0<=U/\U<=U/\U.toNat*8<=140737488355328/\U.toNat<=maxLen/\∃(I1:Int->Li->Int->Bool->Li->Prop)(M1:Int->Li->Int->Bool->Li->Nat),I1 0 f1 i1 k1 (List.replicate U.toNat (0:Int))/\∀l1 m1 n1 o1 q1,I1 l1 m1 n1 o1 q1->iD (l1<(U.toNat:Int)) ((RdOk m1 n1/\1<=(8:Int)/\(8:Int)<=8)/\∀(aa:Int)(ag:Bool)(ad:Int)(ae:Bool),aa=(rdD m1 n1 o1 (8:Int)).n/\ag=(rdD m1 n1 o1 (8:Int)).ok/\ad=(rdD m1 n1 o1 (8:Int)).pos/\ae=(rdD m1 n1 o1 (8:Int)).fail->(0<=l1/\l1<(U.toNat:Int))/\iS l1 q1.length ((0<=l1/\l1<(U.toNat:Int))/\iS l1 (q1.set l1.toNat aa).length (let ah:Bool:=decide (M<=ix (q1.set l1.toNat aa) l1)
iT ah (([]:Li)=r0/\m1=Bg/\ad=Bf/\true=Bh) (I1 (i64.wrap (l1+1)) m1 ad ae (q1.set l1.toNat aa)/\M1 (i64.wrap (l1+1)) m1 ad ae (q1.set l1.toNat aa)<M1 l1 m1 n1 o1 q1)))) (U.toNat=q1.length/\q1=r0/\m1=Bg/\n1=Bf/\o1=Bh))->J1 b1 f1 i1 k1)->iT r6 (J1 true B r5 r6) (((0<=r5/\r5<=B.length)/\B.length<=137438953472)/\let v7:Int:=i64.wrap (Int.tdiv ((B.length:Int)-r5) 8)
J1 (decide (v7<U)) B r5 r6))<|by
 rintro J M B Y Z h _ rfl _ rfl _ rfl _ rfl;obtain⟨h,ai,am⟩:=h;have hI:=rdI_ok h (f:=Z) (m:=J);have F:=rdI_n h (f:=Z) (m:=J) ai;have hb:=h.by_;have hl:=h.len;generalize hX:rdI B Y Z J=X at*;refine⟨h,?_⟩;rintro _ _ _⟨rfl,rfl,rfl⟩;intro J1 k1;have jf:X.fail=true∨((B.length:Int)-X.pos)/8<X.n->J1 true B X.pos X.fail:=by intro hf;refine k1 _ _ _ _ ⟨λ_=>?_,λh=>by simp at h⟩;unfold rdL;rw[hX,qg hf];exact⟨rfl,rfl,rfl,rfl⟩
 have jt:¬(X.fail=true∨((B.length:Int)-X.pos)/8<X.n)->J1 false B X.pos X.fail:=by
  intro hf;have aj:X.fail=false:=by
   cases hc:X.fail;.rfl
   .exact absurd (.inl hc) hf
  have ao:X.n*8<=(B.length:Int)-X.pos:=by have:¬((B.length:Int)-X.pos)/8<X.n:=λh=>hf (.inr h);omega
  refine k1 _ _ _ _ ⟨λh=>by simp at h,λ_=>⟨F.1,by omega,by have:=F.2;omega,by have:=F.2;unfold maxLen;omega,?_⟩⟩;have hL:rdL B Y Z J M=rdLs B M X.n.toNat X.pos []:=by unfold rdL;rw[hX,qe hf]
  rw[aj];have ak:(X.n.toNat:Int)=X.n:=by have:=F.1;omega
  rw[ak,hL];refine⟨λi c pos f g=>B=c/\0<=i/\i<=X.n/\f=false/\0<=pos/\pos+(X.n-i)*8<=B.length/\(g.length:Int)=X.n/\rdLs B M (X.n-i).toNat pos (g.take i.toNat)=rdLs B M X.n.toNat X.pos [],λi _ _ _ _=>(X.n-i).toNat,⟨rfl,by omega,F.1,rfl,hI.pos0,by omega,by simp;have:=F.1;omega,by simp⟩,?_⟩;rintro i _ pos f g⟨rfl,g0,g1,rfl,g2,g3,g4,g5⟩;have al:RdOk B pos:=⟨hb,hl,g2,by(first|omega|(dsimp only;omega))⟩;refine⟨λhh=>?_,λhh=>?_⟩
  .have hh:=qc hh;have hD:rdD B pos false 8=⟨val ((B.drop pos.toNat).take 8),true,pos+8,false⟩:=by unfold rdD;rw[qe qqm];rfl
   have ab:ix (g.set i.toNat (val ((B.drop pos.toNat).take 8))) i=val ((B.drop pos.toNat).take 8):=by rw[ix_nat _ i g0 (by rw[qab];omega)];simp
   have ac:rdLs B M (X.n-i).toNat pos (g.take i.toNat)=if M<=val ((B.drop pos.toNat).take 8)then⟨[],pos+8,true⟩else rdLs B M (X.n-(i+1)).toNat (pos+8) (g.take i.toNat++[val ((B.drop pos.toNat).take 8)]):=by rw[show(X.n-i).toNat=(X.n-(i+1)).toNat+1 by omega];rfl
   refine⟨⟨al,by omega,by omega⟩,λn1 n2 n3 n4 e=>?_⟩;rw[hD]at e;obtain⟨rfl,rfl,rfl,rfl⟩:=e;refine⟨⟨by omega,by omega⟩,⟨by omega,by omega⟩,⟨by omega,by omega⟩,⟨by omega,by rw[qab];omega⟩,λe=>?_,λe=>?_⟩;.have e:=qc e;rw[ab]at e;rw[<-g5,ac,qg e];exact⟨rfl,rfl,rfl,rfl⟩
   .have e:=qd e;rw[ab]at e;rw[inc i X.n g0 hh (by have:=F.2;omega)];refine⟨⟨rfl,by omega,by omega,rfl,by show 0<=pos+8;omega,by show pos+8+(X.n-(i+1))*8<=_;omega,by rw[qab];exact g4,?_⟩,by(dsimp only;omega)⟩;rw[<-g5,ac,qe e];congr 1;rw[kg _ i g0 (by rw[qab];omega),ab];congr 1;rw[List.take_set_of_le qqo]
  .have hh:=qd hh;have hi:i=X.n:=by omega
   subst hi;rw[Int.sub_self,ql qqo]at g5;rw[<-g5];exact⟨by omega,rfl,rfl,rfl,rfl⟩
 refine⟨λe=>by have:=jf (.inl e);rw[e]at this;exact e▸this,λe=>⟨⟨⟨hI.pos0,hI.pos1⟩,hl⟩,?_⟩⟩;have:=hI.pos0;have:=hI.pos1;try simp only[]
 rw[tdiv_nn _ _ qqo,wi _ qqo qqo];by_cases hq:((B.length:Int)-X.pos)/8<X.n;.rw[qao hq];exact jf (.inr hq)
 .rw[qat hq];exact jt (by rw[e];simpa using hq)
def khz:Ct:=.g (gk 153 [oo,ou] yF1 (.one ou)) [yqu,oA,yqi,.bool] [yqu,oA,yqi,.bool] [true,false,true,true] λ(J:Int)(B:Li)(F:Int)(M:Bool)=>(RdOk B F,(rdU B F M J).n,B,(rdU B F M J).pos,(rdU B F M J).fail,())
theorem k7u:khz.O:=prv Bs Tryz.func153 (rA 1 (oC 18)) (k38.c c0) (Q:=∀U B F J,RdOk B F->∀r0,(rdU B F J U).n=r0->∀Bg,B=Bg->∀Bf,(rdU B F J U).pos=Bf->∀Bh,(rdU B F J U).fail=Bh->(RdOk B F/\1<=(8:Int)/\(8:Int)<=8)/\∀Y r6 Z r8,Y=(rdD B F J 8).n/\r6=(rdD B F J 8).ok/\Z=(rdD B F J 8).pos/\r8=(rdD B F J 8).fail->∀X:oE,(∀b1,iT b1 (0=r0/\B=Bg/\Z=Bf/\true=Bh) (Y=r0/\B=Bg/\Z=Bf/\r8=Bh)->X b1)->iT (!r6) (X true) (X (decide (U<Y))))<|by
 rintro U B F J h _ rfl _ rfl _ rfl _ rfl;refine⟨⟨h,by omega,by omega⟩,?_⟩;rintro _ _ _ _⟨rfl,rfl,rfl,rfl⟩;intro X k1;unfold rdU at k1;refine⟨λe=>k1 _ ⟨λ_=>?_,λh=>by simp at h⟩,λe=>k1 _ ⟨λM=>?_,λM=>?_⟩⟩
 .have e:(rdD B F J 8).ok=false:=by simpa using e
  rw[e];exact⟨rfl,rfl,rfl,rfl⟩
 .have M:=qc M;rw[qg (.inr M)];exact⟨rfl,rfl,rfl,rfl⟩
 .have e:(rdD B F J 8).ok=true:=by simpa using e
  rw[qe (by rw[e];simpa using M)];exact⟨rfl,rfl,rfl,rfl⟩
def k7t:Ct:=.g (gk 152 [oo] yF1 (.one (.agg [zqu,zqu,zqu,zqu]))) yN1 [.st 18,oA,yqi,.bool] [true,false,true,true] λ(B:Li)(F:Int)(J:Bool)=>(RdOk B F,(rdNt B F J).n,B,(rdNt B F J).pos,(rdNt B F J).f,())
theorem k8i:k7t.O:=prv Bs Tryz.func152 .no (k7u.c c0) (Q:=∀B M Y,RdOk B M->∀r0,(rdNt B M Y).n=r0->∀Bg,B=Bg->∀Bf,(rdNt B M Y).pos=Bf->∀Bh,(rdNt B M Y).f=Bh->RdOk B M/\∀r4 Z r6,r4=(rdU B M Y 4294967295).n/\Z=(rdU B M Y 4294967295).pos/\r6=(rdU B M Y 4294967295).fail->RdOk B Z/\∀aa F U,aa=(rdU B Z r6 18446744069414584320).n/\F=(rdU B Z r6 18446744069414584320).pos/\U=(rdU B Z r6 18446744069414584320).fail->RdOk B F/\∀ab J X,ab=(rdU B F U 18446744069414584320).n/\J=(rdU B F U 18446744069414584320).pos/\X=(rdU B F U 18446744069414584320).fail->RdOk B J/\∀ac ad ae,ac=(rdU B J X 18446744069414584320).n/\ad=(rdU B J X 18446744069414584320).pos/\ae=(rdU B J X 18446744069414584320).fail->r4=r0.Value/\aa=r0.wAz/\ab=r0.Rho/\ac=r0.wBA/\B=Bg/\ad=Bf/\ae=Bh)<|by rintro B M Y h _ rfl _ rfl _ rfl _ rfl;refine⟨h,?_⟩;rintro _ _ _⟨rfl,rfl,rfl⟩;refine⟨rdU_ok h,?_⟩;rintro _ _ _⟨rfl,rfl,rfl⟩;refine⟨rdU_ok (rdU_ok h),?_⟩;rintro _ _ _⟨rfl,rfl,rfl⟩;refine⟨rdU_ok (rdU_ok (rdU_ok h)),?_⟩;rintro _ _ _⟨rfl,rfl,rfl⟩;exact⟨rfl,rfl,rfl,rfl,rfl,rfl,rfl⟩
def kmr:Ct:=.gp 86 [oA,yqi] [oA] [] λ(B:Li)(F:Int)=>(0<=F/\B.length+F<=140737488355328,B,())
theorem koe:kmr.O:=qrv Bs Tryz.func86 (.r 3 (.rt [.frz 0 [4]])) c0 (Q:=∀B(F:Int),0<=F/\B.length+F<=140737488355328->∀r0,B=r0->let J:=i64.wrap (B.length+F)
0<=(B.length:Int)/\B.length<=J/\J.toNat*1<=140737488355328/\J.toNat<=maxLen/\(B.length:Int).toNat=(List.replicate (B.length:Int).toNat (0:Int)).length/\let M:=min B.length (List.replicate (B.length:Int).toNat 0).length
(B.length:Int).toNat=(rowOver (List.replicate (B.length:Int).toNat 0) B (List.replicate (B.length:Int).toNat (0:Int)).length).length/\rowOver (List.replicate (B.length:Int).toNat (0:Int)) B (List.replicate (B.length:Int).toNat (0:Int)).length=r0)<|by rintro B F h _ rfl;obtain⟨h1,U⟩:=h;refine ?_;rw[wi _ qqo qqo];have e:rowOver (List.replicate (B.length:Int).toNat (0:Int)) B (List.replicate (B.length:Int).toNat (0:Int)).length=B:=kdk _ _ qqs;simp only[e];exact⟨by omega,by omega,by omega,by unfold maxLen;omega,by simp,by omega,by trivial⟩
def kaw:Ct:=.g ⟨150,[.one (.d oA)],[],.one oo,yF1,false⟩ [oA] yN1 [] λ(B:Li)=>(B.length<=137438953472,B,(0:Int),false,())
theorem kcj:kaw.O:=prv Bs Tryz.func150 .no (koe.c c0) (Q:=∀B,B.length<=137438953472->∀Bg:Li,B=Bg->∀Bf:Int,(0:Int)=Bf->∀Bh:Bool,(false:Bool)=Bh->(0<=(0:Int)/\B.length+(0:Int)<=140737488355328)/\B=Bg/\0=Bf/\false=Bh)<|by rintro B h _ rfl _ rfl _ rfl;exact⟨⟨by omega,by omega⟩,rfl,rfl,rfl⟩
def ka3:Ct:=.gp 111 [oA] [.st 19,yqi] [true,true] λ(B:Li)=>(By B/\B.length<=137438953472,(decW B).1,(decW B).2,())
abbrev Fz6(r:Type):=Int->Int->Li->Int->Bool->List wAC->List wo->r
theorem kbd:ka3.O:=qrv Bs Tryz.func111 (.r 2 (.nd [] (.r 0 (.lp [.tokc 2 0 (.st 17),.tokc 2 1 (.st 18)] ⟨[2,1,3,4],yY,[10],[oa],[]⟩ .no)) [] (nA (lA ⟨[2,1,3,4],yY,[34],[oa],[]⟩ .no)))) (kcj.c (k9u.c (k8i.c (k7u.c (kie.c (kjl.c c0)))))) (Q:=∀B,By B/\B.length<=137438953472->∀r0,(decW B).1=r0->∀r1,(decW B).2=r1->B.length<=137438953472/\RdOk B 0/\∀bd bf bg,bd=(rdI B 0 false 4).n/\bf=(rdI B 0 false 4).pos/\bg=(rdI B 0 false 4).fail->[]=([]:List wo)/\([]:List wAC)=([]:List wAC)/\∃(I1:Fz6 Prop)(M1:Fz6 Nat),I1 0 0 B bf bg ([]:List wAC) ([]:List wo)/\∀b1 f1 i1 k1 l1 m1 n1,I1 b1 f1 i1 k1 l1 m1 n1->iD (b1<bd) (RdOk i1 k1/\∀(Z:wo)(aa:Int)(aj:Bool),Z=(rdNt i1 k1 l1).n/\aa=(rdNt i1 k1 l1).pos/\aj=(rdNt i1 k1 l1).f->RdOk i1 aa/\∀(bh ab:Int)(ak:Bool),bh=(rdU i1 aa aj (18446744069414584320:Int)).n/\ab=(rdU i1 aa aj (18446744069414584320:Int)).pos/\ak=(rdU i1 aa aj (18446744069414584320:Int)).fail->RdOk i1 ab/\∀(bi ac:Int)(al:Bool),bi=(rdI i1 ab ak (3:Int)).n/\ac=(rdI i1 ab ak (3:Int)).pos/\al=(rdI i1 ab ak (3:Int)).fail->RdOk i1 ac/\∀(bj ad:Int)(am:Bool),bj=(rdI i1 ac al (4095:Int)).n/\ad=(rdI i1 ac al (4095:Int)).pos/\am=(rdI i1 ac al (4095:Int)).fail->(RdOk i1 ad/\0<=(12:Int)/\(12:Int)<=4096)/\∀(bk:Li)(ae:Int)(ao:Bool),bk=(rdL i1 ad am (12:Int) (18446744069414584321:Int)).l/\ae=(rdL i1 ad am (12:Int) (18446744069414584321:Int)).pos/\ao=(rdL i1 ad am (12:Int) (18446744069414584321:Int)).fail->RdOk i1 ae/\∀(bm ba:Int)(bb:Bool),bm=(rdI i1 ae ao (1:Int)).n/\ba=(rdI i1 ae ao (1:Int)).pos/\bb=(rdI i1 ae ao (1:Int)).fail->let ag:List wAC:=[wAC.mk Z.Value Z.wAz Z.Rho Z.wBA bh bi bj bk (bm==1)]
iL m1 ag 88 (n1=n1/\m1++ag=m1++ag/\I1 (i64.wrap (b1+1)) f1 i1 ba bb (m1++ag) n1/\M1 (i64.wrap (b1+1)) f1 i1 ba bb (m1++ag) n1<M1 b1 f1 i1 k1 l1 m1 n1)) (RdOk i1 k1/\∀(aq au:Int)(aw:Bool),aq=(rdI i1 k1 l1 (4:Int)).n/\au=(rdI i1 k1 l1 (4:Int)).pos/\aw=(rdI i1 k1 l1 (4:Int)).fail->n1=n1/\m1=m1/\∃(I2:Fz6 Prop)(M2:Fz6 Nat),I2 0 f1 i1 au aw m1 n1/\∀o1 q1 M t1 u1 x1 y1,I2 o1 q1 M t1 u1 x1 y1->iD (o1<aq) (RdOk M t1/\∀(F:wo)(ah:Int)(ai:Bool),F=(rdNt M t1 u1).n/\ah=(rdNt M t1 u1).pos/\ai=(rdNt M t1 u1).f->lz y1/\(y1.length+[F].length)*32<=140737488355328/\y1.length+[F].length<=maxLen/\y1++[F]=y1++[F]/\x1=x1/\I2 (i64.wrap (o1+1)) q1 M ah ai x1 (y1++[F])/\M2 (i64.wrap (o1+1)) q1 M ah ai x1 (y1++[F])<M2 o1 q1 M t1 u1 x1 y1) (RdOk M t1/\∀(ax ay:Int)(az:Bool),ax=(rdU M t1 u1 (18446744069414584320:Int)).n/\ay=(rdU M t1 u1 (18446744069414584320:Int)).pos/\az=(rdU M t1 u1 (18446744069414584320:Int)).fail->iT (!(!az&&ay==(M.length:Int))) (([]:List wAC)=r0.Ins/\([]:List wo)=r0.wB/\0=r0.wAd/\2=r1) (x1=r0.Ins/\y1=r0.wB/\ax=r0.wAd/\0=r1))))<|by
 rintro B h _ rfl _ rfl;obtain⟨hb,hl⟩:=h;have h0:RdOk B 0:=⟨hb,hl,by omega,by(first|omega|(dsimp only;omega))⟩;refine⟨hl,h0,?_⟩;rintro _ _ _⟨rfl,rfl,rfl⟩;have hC:=rdI_ok (m:=4) (f:=false) h0;have nC:=rdI_n (m:=4) (f:=false) h0 qqo;have zC:=rdI_pz (m:=4) (f:=false) h0 qqo;generalize rdI B 0 false 4=C at*;refine⟨rfl,rfl,?_⟩;refine⟨λi bc l pos f g o=>(B=l/\bc=0/\([]:List wo)=o)/\0<=i/\i<=C.n/\RdOk B pos/\(g.length:Int)=i/\Pz (λl:List wAC=>l.flatMap encSp) (Gl (GS limW) i.toNat) (B.drop C.pos.toNat) C.fail g (B.drop pos.toNat) f,λi _ _ _ _ _ _=>(C.n-i).toNat,⟨⟨rfl,rfl,rfl⟩,by omega,nC.1,hC,rfl,Pz.nil⟩,?_⟩;rintro i _ _ pos f g _⟨⟨rfl,rfl,rfl⟩,g0,g1,hp,g2,gz⟩;refine⟨λU=>?_,λU=>?_⟩
 .have U:=qc U;refine⟨hp,?_⟩;rintro _ _ _⟨rfl,rfl,rfl⟩;have o1:=rdNt_ok (f:=f) hp;have z1:=rdNt_pz (f:=f) hp;generalize rdNt B pos f=A1 at*;refine⟨o1,?_⟩;rintro _ _ _⟨rfl,rfl,rfl⟩;have o2:=rdU_ok (m:=18446744069414584320) (f:=A1.f) o1;have z2:=rdU_pz (m:=18446744069414584320) (f:=A1.f) o1;generalize rdU B A1.pos A1.f 18446744069414584320=A2 at*;refine⟨o2,?_⟩;rintro _ _ _⟨rfl,rfl,rfl⟩;have o3:=rdI_ok (m:=3) (f:=A2.fail) o2;have z3:=rdI_pz (m:=3) (f:=A2.fail) o2 qqo;generalize rdI B A2.pos A2.fail 3=A3 at*;refine⟨o3,?_⟩;rintro _ _ _⟨rfl,rfl,rfl⟩;have o4:=rdI_ok (m:=4095) (f:=A3.fail) o3;have z4:=rdI_pz (m:=4095) (f:=A3.fail) o3 qqo;generalize rdI B A3.pos A3.fail 4095=A4 at*;refine⟨⟨o4,by omega,by omega⟩,?_⟩;rintro _ _ _⟨rfl,rfl,rfl⟩;have o5:=rdL_ok (m:=12) (p:=18446744069414584321) (f:=A4.fail) o4 qqo;have z5:=rdL_pz (m:=12) (p:=18446744069414584321) (f:=A4.fail) o4 qqo;generalize rdL B A4.pos A4.fail 12 18446744069414584321=A5 at*;refine⟨o5,?_⟩;rintro _ _ _⟨rfl,rfl,rfl⟩;have o6:=rdI_ok (m:=1) (f:=A5.fail) o5;have z6:=rdI_pz (m:=1) (f:=A5.fail) o5 qqo;generalize rdI B A5.pos A5.fail 1=A6 at*;have zz:=ko4 (L:=limW) z1 z2 z3 z4 z5 z6;rw[inc i C.n g0 U qqo];refine⟨rfl,by simp;omega,by simp;unfold maxLen;omega,rfl,rfl,⟨⟨rfl,rfl,rfl⟩,by omega,by omega,o6,by simp;omega,?_⟩,by(dsimp only;omega)⟩;rw[show(i+1).toNat=i.toNat+1 by omega];exact gz.snoc zz
 .have U:=qd U;have hi:i=C.n:=by omega
  subst hi;have zI:=Pz.list zC gz;refine⟨hp,?_⟩;rintro _ _ _⟨rfl,rfl,rfl⟩;have hD:=rdI_ok (m:=4) (f:=f) hp;have nD:=rdI_n (m:=4) (f:=f) hp qqo;have zD:=rdI_pz (m:=4) (f:=f) hp qqo;generalize rdI B pos f 4=D at*;refine⟨rfl,rfl,?_⟩;refine⟨λi bc l J f' gg g'=>(B=l/\bc=0/\g=gg)/\0<=i/\i<=D.n/\RdOk B J/\(g'.length:Int)=i/\Pz (λl:List wo=>l.flatMap encN) (Gl (GN limW) i.toNat) (B.drop D.pos.toNat) D.fail g' (B.drop J.toNat) f',λi _ _ _ _ _ _=>(D.n-i).toNat,⟨⟨rfl,rfl,rfl⟩,by omega,nD.1,hD,rfl,Pz.nil⟩,?_⟩;rintro i _ _ J f' _ g'⟨⟨rfl,rfl,rfl⟩,bo,bs,Y,bt,bn⟩;refine⟨λU=>?_,λU=>?_⟩
  .have U:=qc U;refine⟨Y,?_⟩;rintro _ _ _⟨rfl,rfl,rfl⟩;have o1:=rdNt_ok (f:=f') Y;have z1:=rdNt_pz (f:=f') Y;generalize rdNt B J f'=A1 at*;rw[inc i D.n bo U qqo];refine⟨rfl,by simp;omega,by simp;unfold maxLen;omega,rfl,rfl,⟨⟨rfl,rfl,rfl⟩,by omega,by omega,o1,by simp;omega,?_⟩,by(dsimp only;omega)⟩;rw[show(i+1).toNat=i.toNat+1 by omega];exact bn.snoc z1
  .have U:=qd U;have hi:i=D.n:=by omega
   subst hi;have zO:=Pz.list zD bn;refine⟨Y,?_⟩;rintro _ _ _⟨rfl,rfl,rfl⟩;have hS:=rdU_ok (m:=18446744069414584320) (f:=f') Y;have zS:=rdU_pz (m:=18446744069414584320) (f:=f') Y;generalize rdU B J f' 18446744069414584320=X at*;obtain⟨bq,cpl⟩:=pz_wit (L:=limW) zI zO zS;refine⟨λe=>?_,λe=>?_⟩
   .rw[decW_no];.exact⟨rfl,rfl,rfl,rfl⟩
    intro u hu;obtain⟨c1,c2,c3⟩:=cpl u hu;obtain⟨_,_,q3,q4⟩:=hS;have:=List.drop_eq_nil_iff.1 c2;have e4:X.pos=(B.length:Int):=by omega
    rw[c1,e4]at e;simp at e
   .have e:X.fail=false/\X.pos=(B.length:Int):=by simpa using e
    obtain⟨M,s2⟩:=bq e.1 (qas qqo);have hE:EW ⟨g,g',X.n⟩ B:=by
     refine⟨s2.wq,k3t.2 ⟨?_,?_,?_,λx hx=>(s2.1.2 x hx).spendV,λx hx=>(s2.2.1.2 x hx).noteV⟩,M⟩;.have:=s2.1.1.2.2;show g.length<=4;omega
     .have:=s2.2.1.1.2.2;show g'.length<=4;omega
     .have:X.n<=18446744069414584320:=s2.2.2.2;show X.n<_;omega
    rw[kqb hE λu hu=>(cpl u hu).2.2];exact⟨rfl,rfl,rfl,rfl⟩
def k93:Ct:=.b (gk 71 [oo,.agg yG1,.agg yD1,.one (.d oA)] yO (.one oc)) [.st 6,.st 16,oA,.bool,yqu,yqi,.sl (.st 0),oz,.sl yqi,oz,.sl oq,oz,ow] yT λ(p1:wF)(Z:wAQ)(J:Li)(Aa:Bool)(Ab Ad:Int)(Ac:List wN)(B:Lb)(F:Li)(M:Lb)(U:List Li)(X:Lb)(Y:Lo)=>(p1.wd=2/\By J/\J.length<=137438953472/\SR Z/\Aa=false/\B=[]/\F=[],(),λ_=>((decW J).2==0&&checkS pkR Z (decW J).1==0,Aa,Ab,Ad,Ac,B,F,M,U,X,Y,()))
theorem ka7:k93.O:=pbv Bs Tryz.func71 .no (kbd.c (kce.c c0)) (Q:=∀(p1:wF)p2 J Aa(Ab Ad:Int)Z B F(M:Lb)(U:List Li)(X:Lb)(Y:Lo),p1.wd=2/\By J/\J.length<=137438953472/\SR p2/\Aa=false/\B=[]/\F=[]->∀R,()=R->iT (p1.wd==1) False (iT (p1.wd==2) ((By J/\J.length<=137438953472)/\∀(r7:wAD)(r8:Int),r7=(decW J).1/\r8=(decW J).2->iT (r8==0) ((SR p2/\WR r7/\OrOk B F Z/\∀l a,(pk Aa Z B F) l a=none∨∃n,(pk Aa Z B F) l a=some n/\U64 n)/\let v9:Bool:=checkS (pk Aa Z B F) p2 r7==0
v9=((decW J).2==0&&checkS pkR p2 (decW J).1==0:Bool)/\Aa=Aa/\Ab=Ab/\Ad=Ad/\Z=Z/\B=B/\F=F/\M=M/\U=U/\X=X/\Y=Y) (false=((decW J).2==0&&checkS pkR p2 (decW J).1==0:Bool)/\Aa=Aa/\Ab=Ab/\Ad=Ad/\Z=Z/\B=B/\F=F/\M=M/\U=U/\X=X/\Y=Y)) False))<|by
 rintro p1 p2 J Aa Ab Ad Z B F M U X Y h R hR;obtain⟨hm,hb,hl,hs,rfl,rfl,rfl⟩:=h;have hp:pk false Z [] []=pkR:=by funext l a;exact pk_real _ _ _
 refine⟨λe=>?_,λ_=>⟨λ_=>⟨⟨hb,hl⟩,?_⟩,λe=>?_⟩⟩;.rw[hm]at e;cases e
 .rintro _ _⟨rfl,rfl⟩;refine⟨λe=>⟨⟨hs,kq4 e,orOk_q _,λl a=>by rw[hp];exact pkR_u⟩,?_⟩,λe=>?_⟩;.rw[e,hp];exact by repeat' first|apply qaa|exact rfl|exact qo
  .rw[e];exact by repeat' first|apply qaa|exact rfl|exact qo
 .rw[hm]at e;cases e
def kcf:Ct:=.b (gk 34 [oo,.agg yG1,.agg yC1] yO (.one oa)) [.st 6,.st 3,.bool,yqu,yqi,.sl (.st 0),oz,.sl yqi,oz,.sl oq,oz,ow] yV λ(Z:wF)(J:wh)(Aa:Bool)(Ab Ad:Int)(Ac:List wN)(B:Lb)(F:Li)(M:Lb)(U:List Li)(X:Lb)(Y:Lo)=>((Z.wd=2/\TR J/\J.wAH.length<=137438953472)/\Aa=false/\B=[]/\F=[],(),λ_=>(txE Z J,Aa,Ab,Ad,Ac,B,F,M,U,X,Y,()))
theorem kfj:kcf.O:=pbv Bs Tryz.func34 .no (k1q.c (k2x.c (k21.c (ki5.c (ka7.c c0))))) (Q:=∀Z Y Aa(Ab Ad:Int)(Ac:List wN)B F(J:Lb)(M:List Li)(U:Lb)(X:Lo),(Z.wd=2/\TR Y/\Y.wAH.length<=137438953472)/\Aa=false/\B=[]/\F=[]->∀R,()=R->iT (rulesE Z !=0) (rulesE Z=txE Z Y/\Aa=Aa/\Ab=Ab/\Ad=Ad/\Ac=Ac/\B=B/\F=F/\J=J/\M=M/\U=U/\X=X) (iT (! Aa==(Z.wd==3)) (1=txE Z Y/\Aa=Aa/\Ab=Ab/\Ad=Ad/\Ac=Ac/\B=B/\F=F/\J=J/\M=M/\U=U/\X=X) (iT (validE Y !=0) (validE Y=txE Z Y/\Aa=Aa/\Ab=Ab/\Ad=Ad/\Ac=Ac/\B=B/\F=F/\J=J/\M=M/\U=U/\X=X) ((TR Y/\-9223372036854775808<=Z.wH/\Z.wH<=9223372036854775807)/\(Z.wd=2/\By Y.wAH/\Y.wAH.length<=137438953472/\SR (stmtS Y Z.wH)/\Aa=false/\B=([]:Lb)/\F=([]:Li))/\let r1:Bool:=(decW Y.wAH).2==0&&checkS pkR (stmtS Y Z.wH) (decW Y.wAH).1==0
iT (!r1) (10=(txE Z Y:Int)/\Aa=Aa/\Ab=Ab/\Ad=Ad/\Ac=Ac/\B=B/\F=F/\J=J/\M=M/\U=U/\X=X) (0=(txE Z Y:Int)/\Aa=Aa/\Ab=Ab/\Ad=Ad/\Ac=Ac/\B=B/\F=F/\J=J/\M=M/\U=U/\X=X)))))<|by
 rintro Z Y Aa Ab Ad Ac B F J M U X h R hR;obtain⟨⟨hm,ht,aa⟩,rfl,rfl,rfl⟩:=h;unfold txE;refine⟨λe=>?_,λe=>?_⟩;.rw[qg (by simpa using e)];exact by repeat' first|apply qaa|exact rfl|exact qo
 .have e:rulesE Z=0:=by simpa using e
  have hb:=k5m e;simp only[rulesB,qh,qy]at hb;rw[qe λhh=>hh e];refine⟨λe2=>?_,λ_=>⟨λe3=>?_,λe3=>?_⟩⟩;.rw[hm]at e2;cases e2
  .rw[qg (by simpa using e3)];exact by repeat' first|apply qaa|exact rfl|exact qo
  .have e3:validE Y=0:=by simpa using e3
   rw[qe λhh=>hh e3];refine⟨⟨ht,by omega,by omega⟩,⟨hm,ht.p,aa,kpm ht qqo,rfl,rfl,rfl⟩,λe4=>?_,λe4=>?_⟩
   .have e4:(!accT Z Y)=true:=e4;have e4:accT Z Y=false:=by simpa using e4
    rw[qg e4];exact by repeat' first|apply qaa|exact rfl|exact qo
   .have e4:(!accT Z Y)=false:=e4;have e4:accT Z Y=true:=by simpa using e4
    rw[qe (by rw[e4];simp)];exact by repeat' first|apply qaa|exact rfl|exact qo
def kem:Ct:=.b ⟨10,[oo,.agg yE1],yC,.tup [oa,oa,oa],yB,false⟩ (.st 7::.int .i64::.int .i64::.int .i64::.int .i64::.int .i64::.int .u64::.int .i64::.int .i64::.int .u64::.sl yqu::.int .u64::.int .i64::.bool::yG) (.int .i64::.int .i64::.int .i64::.int .i64::.int .i64::.int .i64::.int .i64::.int .i64::.int .u64::.int .i64::.int .i64::.int .u64::.sl yqu::.int .u64::.int .i64::.bool::yH) λ(p1:wD)(Z Ad Ac Aj Ak Ag Al Ah Ai:Int)(Ae:Li)(Aq Af:Int)(Ap:Bool)(As At:Int)(Au:List wN)(Az A0 A7 A8 A9 Ba Bb Bc Bd Be Av:Int)(Aw:Li)(Ax:List wA)(Ay:Int)(J:Li)(M:List wR)(U:Lb)(X:Li)(aa:Lb)(ab:List Li)(ac:Lb)(ad:Lo)(w7 w9:Li)(Y:List wT)(B:Li)(F:Lo)=>(SCh (CS.mk (wF.mk Z Ad Ac Aj Ak Ag Al Ah Ai) J M Ae (PS.mk (wF.mk Az A0 A7 A8 A9 Ba Bb Bc Bd) (wI.mk Be Av Aw) Ax Ay w7 w9 Y B F) Aq Af) p1/\Ap=false/\U=([]:Lb)/\X=([]:Li),subS (CS.mk (wF.mk Z Ad Ac Aj Ak Ag Al Ah Ai) J M Ae (PS.mk (wF.mk Az A0 A7 A8 A9 Ba Bb Bc Bd) (wI.mk Be Av Aw) Ax Ay w7 w9 Y B F) Aq Af) p1,λR=>(R.u,R.a,R.e,Z,Ad,Ac,Aj,Ak,Ag,Al,Ah,Ai,R.c.be,R.c.fi,R.c.he,Ap,As,At,Au,R.c.S.R.wd,R.c.S.R.wH,R.c.S.R.wS,R.c.S.R.wO,R.c.S.R.wM,R.c.S.R.wZ,R.c.S.R.wt,R.c.S.R.wW,R.c.S.R.wU,R.c.S.F.wH,R.c.S.F.wAF,R.c.S.F.wAJ,R.c.S.b,R.c.S.n,R.c.k,R.c.v,U,X,aa,ab,ac,ad,R.c.S.k,R.c.S.v,R.c.S.l,R.c.S.r,R.c.S.p,()))
abbrev kz(R:SubR)(Ab Ad Ac Aj Ak Ag Al Ah Ai:Int)(Ap:Bool)(As At:Int)(Au:List wN)(B:Lb)(F:Li)(J:Lb)(M:List Li)(U:Lb)(X:Lo)(o0 o1 o2 o3 o4 o5 o6 o7 o8 o9 Y Z:Int)(aa:Li)(ab ac:Int)(ad:Bool)(ae ag:Int)(ah:List wN)(ai aj ak al am ao aq au aw ax ay:Int)(az:Li)(ba:List wA)(bb:Int)(bc:Li)(bd:List wR)(bf:Lb)(bg:Li)(bh:Lb)(bi:List Li)(bj:Lb)(bk:Lo)(bm:Li)(bn:Lo)(bo bq:Li)(bs:List wT):Prop:=o0=R.u/\o1=R.a/\o2=R.e/\o3=Ab/\o4=Ad/\o5=Ac/\o6=Aj/\o7=Ak/\o8=Ag/\o9=Al/\Y=Ah/\Z=Ai/\aa=R.c.be/\ab=R.c.fi/\ac=R.c.he/\ad=Ap/\ae=As/\ag=At/\ah=Au/\ai=R.c.S.R.wd/\aj=R.c.S.R.wH/\ak=R.c.S.R.wS/\al=R.c.S.R.wO/\am=R.c.S.R.wM/\ao=R.c.S.R.wZ/\aq=R.c.S.R.wt/\au=R.c.S.R.wW/\aw=R.c.S.R.wU/\ax=R.c.S.F.wH/\ay=R.c.S.F.wAF/\az=R.c.S.F.wAJ/\ba=R.c.S.b/\bb=R.c.S.n/\bc=R.c.k/\bd=R.c.v/\bf=B/\bg=F/\bh=J/\bi=M/\bj=U/\bk=X/\bm=R.c.S.k/\bn=R.c.S.v/\bo=R.c.S.l/\bq=R.c.S.r/\bs=R.c.S.p
theorem k6v:kem.O:=pbv Bs Tryz.func10 (.r 0 (.nd [] (rA 1 (.r 0 (.rt [.trimc 3 12,.trimc 3 16,.trimc 3 17]))) [] (.r 0 (.nd [] (rA 1 (.r 0 (.rt [.trimc 3 12,.trimc 3 16,.trimc 3 17]))) [] (.nd [] (rA 1 (.r 0 (.rt [.trimc 3 12,.trimc 3 16,.trimc 3 17]))) [] (.r 0 (.nd [] (.jn (oB [78] [oc]) [] .no [] (nA (.r 0 (.rt [.trimc 3 12,.trimc 3 16,.trimc 3 17])))) [] (.nd [] (lA ⟨[6,5,4,1],yP,[82],[oa],[]⟩ (rA 1 (rA 2 (.r 0 (.rt [.trimc 3 12,.trimc 3 16,.trimc 3 17]))))) [] (.r 0 (.jn (oB [16] [oa]) [] (.lp [] (oB [16] [oa]) .no) [] (.r 2 (.jn (oB [18] [ou]) [] .no [] .no)))))))))))) (ki8.c (kri.c (khl.c (kcp.c (kfj.c (kly.c (k87.c (khr.c (kii.c (kd5.c c0)))))))))) (Q:=∀(F:wD)(Ab Ad Ac Aj Ak Ag Al Ah Ai:Int)(Z:Li)(Aq Af:Int)(Ap:Bool)(As At:Int)(Au:List wN)(Az A0 A7 A8 A9 Ba Bb Bc Bd Be Av:Int)(Aw:Li)(Ax:List wA)(Ay:Int)(B:Li)(J:List wR)(ac:Lb)(ad:Li)(ae:Lb)(ag:List Li)(ah:Lb)(ai:Lo)(w7 w9:Li)(U:List wT)(aa:Li)(ab:Lo),SCh (CS.mk (wF.mk Ab Ad Ac Aj Ak Ag Al Ah Ai) B J Z (PS.mk (wF.mk Az A0 A7 A8 A9 Ba Bb Bc Bd) (wI.mk Be Av Aw) Ax Ay w7 w9 U aa ab) Aq Af) F/\Ap=false/\ac=([]:Lb)/\ad=([]:Li)->∀R,subS (CS.mk (wF.mk Ab Ad Ac Aj Ak Ag Al Ah Ai) B J Z (PS.mk (wF.mk Az A0 A7 A8 A9 Ba Bb Bc Bd) (wI.mk Be Av Aw) Ax Ay w7 w9 U aa ab) Aq Af) F=R->BR F/\let r3:Int:=checkB (wF.mk Ab Ad Ac Aj Ak Ag Al Ah Ai).wU F
iT (r3 !=0) (lz w7/\lz w9/\lz U/\lz U/\lz w9/\lz w7/\kz R Ab Ad Ac Aj Ak Ag Al Ah Ai Ap As At Au ac ad ae ag ah ai 0 0 r3 Ab Ad Ac Aj Ak Ag Al Ah Ai Z Aq Af Ap As At Au Az A0 A7 A8 A9 Ba Bb Bc Bd Be Av Aw Ax Ay B J ac ad ae ag ah ai aa ab w7 w9 U) (BR F/\B.length=J.length/\let v4:wR:=mVal (BEq.beq (idB F)) B J (default:wR)
iT (mHas (BEq.beq (idB F)) B) (lz w7/\lz w9/\lz U/\lz U/\lz w9/\lz w7/\kz R Ab Ad Ac Aj Ak Ag Al Ah Ai Ap As At Au ac ad ae ag ah ai 0 0 5 Ab Ad Ac Aj Ak Ag Al Ah Ai Z Aq Af Ap As At Au Az A0 A7 A8 A9 Ba Bb Bc Bd Be Av Aw Ax Ay B J ac ad ae ag ah ai aa ab w7 w9 U) (lz U/\lz w9/\lz w7/\B.length=J.length/\iT (parS B J F !=0) (lz w7/\lz w9/\lz U/\lz U/\lz w9/\lz w7/\kz R Ab Ad Ac Aj Ak Ag Al Ah Ai Ap As At Au ac ad ae ag ah ai 0 0 (parS B J F) Ab Ad Ac Aj Ak Ag Al Ah Ai Z Aq Af Ap As At Au Az A0 A7 A8 A9 Ba Bb Bc Bd Be Av Aw Ax Ay B J ac ad ae ag ah ai aa ab w7 w9 U) (lz U/\lz w9/\lz w7/\((∃(R:wF)(n:Nat),KI R B J n/\n<=20)/\PaOk B J F/\1<=F.wG)/\∀J1:oE,(∀(b1:Bool),iT b1 (lz w7/\lz w9/\lz U/\lz U/\lz w9/\lz w7/\kz R Ab Ad Ac Aj Ak Ag Al Ah Ai Ap As At Au ac ad ae ag ah ai 0 0 19 Ab Ad Ac Aj Ak Ag Al Ah Ai Z Aq Af Ap As At Au Az A0 A7 A8 A9 Ba Bb Bc Bd Be Av Aw Ax Ay B J ac ad ae ag ah ai aa ab w7 w9 U) (∃(I1:Fz5 Prop)(M1:Fz5 Nat),I1 0 Ap As At Au ah ai ae ag ac ad/\∀f1 i1 k1 l1 m1 n1 o1 q1 s1 t1 u1,I1 f1 i1 k1 l1 m1 n1 o1 q1 s1 t1 u1->iF f1 F.Txs.length ((((wF.mk Ab Ad Ac Aj Ak Ag Al Ah Ai).wd=2/\TR (ix F.Txs f1)/\(ix F.Txs f1).wAH.length<=137438953472)/\i1=false/\t1=([]:Lb)/\u1=([]:Li))/\let r7:Int:=txE (wF.mk Ab Ad Ac Aj Ak Ag Al Ah Ai) (ix F.Txs f1)
iT (r7 !=0) (lz w7/\lz w9/\lz U/\lz U/\lz w9/\lz w7/\kz R Ab Ad Ac Aj Ak Ag Al Ah Ai Ap As At Au ac ad ae ag ah ai 0 0 r7 Ab Ad Ac Aj Ak Ag Al Ah Ai Z Aq Af i1 k1 l1 m1 Az A0 A7 A8 A9 Ba Bb Bc Bd Be Av Aw Ax Ay B J t1 u1 q1 s1 n1 o1 aa ab w7 w9 U) (I1 (i64.wrap (f1+1)) i1 k1 l1 m1 n1 o1 q1 s1 t1 u1/\M1 (i64.wrap (f1+1)) i1 k1 l1 m1 n1 o1 q1 s1 t1 u1<M1 f1 i1 k1 l1 m1 n1 o1 q1 s1 t1 u1)) (∀J2:oD,(∀(x1:Int),(0<=x1/\x1<=(Z.length:Int)/\0<=x1/\x1<=((brB B J F).length:Int)/\lz U/\lz w9/\lz w7/\(B.length=J.length/\MvOk B J (PS.mk (wF.mk Az A0 A7 A8 A9 Ba Bb Bc Bd) (wI.mk Be Av Aw) Ax Ay w7 w9 U aa ab) (Z.drop x1.toNat).length ((brB B J F).drop x1.toNat))/\let M:=mvS B J (PS.mk (wF.mk Az A0 A7 A8 A9 Ba Bb Bc Bd) (wI.mk Be Av Aw) Ax Ay w7 w9 U aa ab) (Z.drop x1.toNat).length ((brB B J F).drop x1.toNat)
lz M.p/\lz M.r/\lz M.l/\((∃c:Nat,c+F.Txs.length<=790/\PI M c 0)/\BR' F)/\iT ((applyS M F).e !=0) (0<=x1/\x1<=((brB B J F).length:Int)/\0<=x1/\x1<=(Z.length:Int)/\lz ((applyS M F).s).p/\lz ((applyS M F).s).r/\lz ((applyS M F).s).l/\(B.length=J.length/\MvOk B J (applyS M F).s ((brB B J F).drop x1.toNat).length (Z.drop x1.toNat))/\let X:=mvS B J (applyS M F).s ((brB B J F).drop x1.toNat).length (Z.drop x1.toNat)
lz X.p/\lz X.r/\lz X.l/\kz R Ab Ad Ac Aj Ak Ag Al Ah Ai Ap As At Au ac ad ae ag ah ai 0 0 (applyS M F).e Ab Ad Ac Aj Ak Ag Al Ah Ai Z Aq Af i1 k1 l1 m1 X.R.wd X.R.wH X.R.wS X.R.wO X.R.wM X.R.wZ X.R.wt X.R.wW X.R.wU X.F.wH X.F.wAF X.F.wAJ X.b X.n B J t1 u1 q1 s1 n1 o1 X.k X.v X.l X.r X.p) (∀J3:oD,(∀(b2:Int),(lz ((applyS M F).s).p/\lz ((applyS M F).s).r/\lz ((applyS M F).s).l/\(B.length=J.length/\Z.length<=1000)/\(F.Txs.length<=4294967295/\∀x∈F.Txs,TL x)/\B.length=J.length/\let ak:Li:=mPutK (BEq.beq (idB F)) B (idB F)
let al:List wR:=mPutV (BEq.beq (idB F)) B J (wR.mk F.wP F.wG F.wAM F.wU F.wK F.Txs b2)
iL (brB B J F) [idB F] 8 (iT (! betS B J Z (idB F) b2) (0<=x1/\x1<=((brB B J F++[idB F]).length:Int)/\let ay:Li:=(brB B J F++[idB F]).drop x1.toNat
0<=x1/\x1<=(Z.length:Int)/\lz ((applyS M F).s).p/\lz ((applyS M F).s).r/\lz ((applyS M F).s).l/\(ak.length=al.length/\MvOk ak al (applyS M F).s ay.length (Z.drop x1.toNat))/\let Y:=mvS ak al (applyS M F).s ay.length (Z.drop x1.toNat)
lz Y.p/\lz Y.r/\lz Y.l/\kz R Ab Ad Ac Aj Ak Ag Al Ah Ai Ap As At Au ac ad ae ag ah ai 0 0 0 Ab Ad Ac Aj Ak Ag Al Ah Ai Z Aq Af i1 k1 l1 m1 Y.R.wd Y.R.wH Y.R.wS Y.R.wO Y.R.wM Y.R.wZ Y.R.wt Y.R.wW Y.R.wU Y.F.wH Y.F.wAF Y.F.wAJ Y.b Y.n ak al t1 u1 q1 s1 n1 o1 Y.k Y.v Y.l Y.r Y.p) (let bc:Int:=i64.wrap ((Z.length:Int)-x1)
let bd:Int:=((brB B J F++[idB F]).length:Int)
lz ((applyS M F).s).p/\lz ((applyS M F).s).r/\lz ((applyS M F).s).l/\brB B J F++[idB F]=brB B J F++[idB F]/\((1<=Ah/\Ah<=1048576)/\(brB B J F++[idB F]).length<=1000)/\let az:=finS Ah (brB B J F++[idB F]) Aq Af
lz ((applyS M F).s).p/\lz ((applyS M F).s).r/\lz ((applyS M F).s).l/\kz R Ab Ad Ac Aj Ak Ag Al Ah Ai Ap As At Au ac ad ae ag ah ai bc (i64.wrap (bd-x1)) 0 Ab Ad Ac Aj Ak Ag Al Ah Ai (brB B J F++[idB F]) az.f az.h i1 k1 l1 m1 ((applyS M F).s).R.wd ((applyS M F).s).R.wH ((applyS M F).s).R.wS ((applyS M F).s).R.wO ((applyS M F).s).R.wM ((applyS M F).s).R.wZ ((applyS M F).s).R.wt ((applyS M F).s).R.wW ((applyS M F).s).R.wU ((applyS M F).s).F.wH ((applyS M F).s).F.wAF ((applyS M F).s).F.wAJ ((applyS M F).s).b ((applyS M F).s).n ak al t1 u1 q1 s1 n1 o1 ((applyS M F).s).k ((applyS M F).s).v ((applyS M F).s).l ((applyS M F).s).r ((applyS M F).s).p)))->J3 b2)->let bf:Bool:=decide (0<((brB B J F).length:Int))
iT bf (B.length=J.length/\let bg:wR:=mVal (BEq.beq F.wP) B J (default:wR)
J3 (u64.wrap (F.wU+bg.work))) (J3 F.wU)))->J2 x1)->∃(I2:oD)(M2:oG),I2 0/\∀y1,I2 y1->let v8:Bool:=decide (y1<((brB B J F).length:Int))
iT v8 (iD (y1<(Z.length:Int)) (iR y1 (brB B J F).length (iR y1 Z.length (let v9:Bool:=ix (brB B J F) y1==ix Z y1
iT v9 (ss1 I2 M2 y1 (i64.wrap (y1+1))) (J2 y1)))) (J2 y1)) (J2 y1)))->J1 b1)->iD (0<Af) (let v5:Bool:=decide (((brB B J F).length:Int)<Af)
iT v5 (J1 true) (0<=i64.wrap (Af-1)/\i64.wrap (Af-1)<((brB B J F).length:Int)/\let v6:Int:=ix (brB B J F) (i64.wrap (Af-1))
J1 (v6 !=Aq))) (J1 false)))))<|by
 rintro F Ab Ad Ac Aj Ak Ag Al Ah Ai Z Aq Af Ap As At Au Az A0 A7 A8 A9 Ba Bb Bc Bd Be Av Aw Ax Ay B J ac ad ae ag ah ai w7 w9 U aa ab h R hR;obtain⟨hS,rfl,rfl,rfl⟩:=h;obtain⟨n,hn,hK,b1,b2,b3,au,bi,hb,hm⟩:=hS.facts;have aj:=hK.kv;have hF:=kkv hK.ru;have bj:=hb.t;refine⟨hb.r,λe1=>?_,λe1=>?_⟩;.have hq:=hR.symm.trans (sub_e1 (bne_iff_ne.1 e1));subst hq;exact by repeat' first|apply qaa|exact rfl|exact qo
 .have h1:=bne_eq_false_iff_eq.1 e1;refine⟨hb.r,aj,λe2=>?_,λe2=>?_⟩;.have hq:=hR.symm.trans (sub_e2 h1 (k2e.1 e2));subst hq;exact by repeat' first|apply qaa|exact rfl|exact qo
  .have h2:idB F∉B:=λh=>by rw[k2e.2 h]at e2;cases e2
   refine⟨rfl,rfl,rfl,aj,λe3=>?_,λe3=>?_⟩;.have hq:=hR.symm.trans (sub_e3 h1 h2 (bne_iff_ne.1 e3));subst hq;exact by repeat' first|apply qaa|exact rfl|exact qo
   .have h3:=bne_eq_false_iff_eq.1 e3;have hv:=k43 h1;have hp:=parS_ok h3 hv;obtain⟨q1,q2,q3,q4,q5⟩:=hK.br hp hv.h.h0;refine⟨rfl,rfl,rfl,⟨⟨_,n,hK,by omega⟩,hp,hv.h.h0⟩,?_⟩;intro J1 k1;have j1:∀b:Bool,(b=true↔0<Af/\(((brB B J F).length:Int)<Af∨ix (brB B J F) (Af-1)≠Aq))->J1 b:=by
     intro b ba;refine k1 b ⟨λe4=>?_,λe4=>?_⟩;.have hq:=hR.symm.trans (sub_e4 h1 h2 h3 (ba.1 e4));subst hq;exact by repeat' first|apply qaa|exact rfl|exact qo
     .have h4:¬(0<Af/\(((brB B J F).length:Int)<Af∨ix (brB B J F) (Af-1)≠Aq)):=λh=>by rw[ba.2 h]at e4;cases e4
      refine⟨λf i k l m n o q s t u=>∃j:Nat,f=(j:Int)/\j<=F.Txs.length/\(false=i/\As=k/\At=l/\Au=m/\ah=n/\ai=o/\ae=q/\ag=s/\[]=t/\[]=u)/\txsE (wF.mk Ab Ad Ac Aj Ak Ag Al Ah Ai) (F.Txs.drop j)=txsE (wF.mk Ab Ad Ac Aj Ak Ag Al Ah Ai) F.Txs,λf _ _ _ _ _ _ _ _ _ _=>(F.Txs.length-f).toNat,⟨0,rfl,qbf _,⟨rfl,rfl,rfl,rfl,rfl,rfl,rfl,rfl,rfl,rfl⟩,rfl⟩,?_⟩;rintro _ _ _ _ _ _ _ _ _ _ _⟨j,rfl,hj,⟨rfl,rfl,rfl,rfl,rfl,rfl,rfl,rfl,rfl,rfl⟩,ht⟩;refine⟨λe5=>?_,λe5=>?_⟩
      .have e5:(j:Int)<F.Txs.length:=qc e5;have aw:j<F.Txs.length:=by omega
       have aq:F.Txs[j]∈F.Txs:=qz aw;rw[ix_get _ _ aw,inc (j:Int) F.Txs.length qqo e5 qqo];rw[kkb aw]at ht;refine⟨by omega,e5,⟨⟨hm,hb.r.t _ aq,by have:=(hb.l _ aq).p;omega⟩,rfl,rfl,rfl⟩,λe6=>?_,λe6=>?_⟩;.have e6:=bne_iff_ne.1 e6;rw[qg e6]at ht;have hq:=hR.symm.trans (sub_e5 h1 h2 h3 h4 (by rw[<-ht];exact e6));rw[<-ht]at hq;subst hq;exact by repeat' first|apply qaa|exact rfl|exact qo
       .have e6:=bne_eq_false_iff_eq.1 e6;rw[qe λhh=>hh e6]at ht;exact⟨⟨j+1,rfl,by omega,⟨rfl,rfl,rfl,rfl,rfl,rfl,rfl,rfl,rfl,rfl⟩,ht⟩,by(first|omega|(dsimp only;omega))⟩
      .have e5:¬(j:Int)<F.Txs.length:=qd e5;rw[qas qqo]at ht;have h5:txsE (wF.mk Ab Ad Ac Aj Ak Ag Al Ah Ai) F.Txs=0:=ht.symm;intro J2 k2;obtain⟨c1,c2,am⟩:=cpl_le (brB B J F) Z;have j2:∀i:Nat,i=cpl (brB B J F) Z->J2 (i:Int):=by
        intro i hi;rw[<-hi]at c1 c2 am;refine k2 _ ?_;rw[qv];obtain⟨m1,m2⟩:=hK.mv qqo b1 q2 qqo qqo b3 q3 c2 c1 am.symm au;have hP:=(hK.pi q2 qqo q3).1;refine⟨by omega,by omega,by omega,by omega,rfl,rfl,rfl,⟨aj,m1⟩,?_⟩;dsimp only;rw[m2];refine⟨rfl,rfl,rfl,⟨⟨_,by have:=hb.t;omega,hP⟩,hb.r'⟩,λe6=>?_,λe6=>?_⟩;.have e6:=bne_iff_ne.1 e6;obtain⟨m3,m4⟩:=hK.mv qqo q2 b1 qqo qqo q3 b3 c1 c2 am (ks0 e6);refine⟨by omega,by omega,by omega,by omega,rfl,rfl,rfl,⟨aj,m3⟩,?_⟩;rw[m4,<-au];have hq:=hR.symm.trans (sub_e6 h1 h2 h3 h4 h5 e6);subst hq;exact by repeat' first|apply qaa|exact rfl|exact qo
        .have e6:=bne_eq_false_iff_eq.1 e6;have hN:NB (wF.mk Ab Ad Ac Aj Ak Ag Al Ah Ai) B J (idB F) F:=⟨h2,hp,hv.h.h0,hb.r',hb.t,e6,h5⟩;intro J3 k3;have j3:∀w:Int,w=wk8 B J F->J3 w:=by
          intro w hw;refine k3 w ?_;obtain⟨g1,g2⟩:=ktd h2 J (stoS F w);have g2:mPutV (BEq.beq (idB F)) B J (wR.mk F.wP F.wG F.wAM F.wU F.wK F.Txs w)=J++[stoS F w]:=g2;refine⟨rfl,rfl,rfl,⟨aj,by omega⟩,⟨by have:=hb.t;omega,hb.l⟩,aj,?_⟩;rw[g1,g2];obtain⟨s1,s2,s3⟩:=hK.step (y:=stoS F w) hN;rw[blk_sto]at s3;have bh:(brB B J F++[idB F]).length=(brB B J F).length+1:=by simp
          refine⟨rfl,by simp only[qbs];omega,by simp only[qbs];unfold maxLen;omega,λe7=>?_,λe7=>?_⟩
          .have ax:betS B J Z (idB F) w=false:=by simpa using e7
           have bb:=stL_old (R:=wF.mk Ab Ad Ac Aj Ak Ag Al Ah Ai) (id:=idB F) (y:=stoS F w) aj b1;obtain⟨m5,m6⟩:=s1.mv qqo (l:=brB B J F++[idB F]) (m:=Z) (i:=i) λx hx=>by
            rcases qae.1 hx with hx|hx;.simp[q2 x hx]
            .simp[qah.1 hx] λx hx=>by simp[b1 x hx] qqo qqo (by rw[s3]) (by rw[bb];exact b3) qqo qqo (by rw[List.take_append_of_le_length c1];exact am) (show(applyS (stL (wF.mk Ab Ad Ac Aj Ak Ag Al Ah Ai) B J (brB B J F)).s F).s=_ by rw[s3]);refine⟨by omega,by omega,by omega,by omega,rfl,rfl,rfl,⟨by simp[aj],m5⟩,?_⟩;rw[m6,bb,<-au];have hq:=hR.symm.trans (sub_no h1 h2 h3 h4 h5 e6 hw ax);subst hq;exact by repeat' first|apply qaa|exact rfl|exact qo
          .have ax:betS B J Z (idB F) w=true:=by simpa using e7
           have w1:i64.wrap ((Z.length:Int)-(i:Int))=(Z.length:Int)-(i:Int):=wi _ qqo qqo;have w2:i64.wrap (((brB B J F++[idB F]).length:Int)-(i:Int))=((brB B J F).length:Int)+1-(i:Int):=by rw[bh,wi _ qqo qqo];omega
           refine⟨rfl,rfl,rfl,rfl,⟨hF,by omega⟩,rfl,rfl,rfl,?_⟩;have hq:=hR.symm.trans (sub_yes h1 h2 h3 h4 h5 e6 hw ax hi);subst hq;exact by repeat' first|apply qaa|exact w1|exact w2|exact rfl|exact qo
         refine⟨λe7=>⟨aj,j3 _ ?_⟩,λe7=>j3 _ ?_⟩;.unfold wk8;rw[qe λhh=>by have:=qc e7;rw[hh]at this;simp at this];rfl
         .unfold wk8;rw[qg (qch.1 (by have:=qd e7;omega))]
       refine⟨λy=>∃i:Nat,y=(i:Int)/\i<=cpl (brB B J F) Z,λy=>((brB B J F).length-y).toNat,⟨0,rfl,qbf _⟩,?_⟩;rintro _⟨i,rfl,hi⟩;have ao:=cpl_ix hi;refine⟨λe6=>⟨λe7=>?_,λe7=>?_⟩,λe6=>?_⟩
       .have e6:(i:Int)<(brB B J F).length:=qc e6;have e7:(i:Int)<Z.length:=qc e7;refine⟨by omega,e6,by omega,e7,λe8=>?_,λe8=>?_⟩;.have e8:=eq_of_beq e8;rw[inc (i:Int) (brB B J F).length qqo e6 qqo];refine⟨⟨i+1,rfl,?_⟩,by(first|omega|(dsimp only;omega))⟩;have:i≠cpl (brB B J F) Z:=λhh=>ao.1 hh ⟨by omega,by omega,e8⟩;omega
        .exact j2 i (ao.2 λhh=>by rw[hh.2.2]at e8;simp at e8)
       .have e7:¬(i:Int)<Z.length:=qd e7;exact j2 i (ao.2 λhh=>by omega)
       .have e6:¬(i:Int)<(brB B J F).length:=qd e6;exact j2 i (ao.2 λhh=>by omega)
    refine⟨λe4=>⟨λe5=>?_,λe5=>?_⟩,λe4=>?_⟩;.exact j1 true ⟨λ_=>⟨qc e4,.inl (qc e5)⟩,λ_=>rfl⟩
    .have e4:=qc e4;have e5:¬((brB B J F).length:Int)<Af:=qd e5;rw[wi (Af-1) qqo qqo];exact⟨by omega,by omega,j1 _ ⟨λe6=>⟨e4,.inr (bne_iff_ne.1 e6)⟩,λhh=>hh.2.elim (λh=>(e5 h).elim) λh=>bne_iff_ne.2 h⟩⟩
    .exact j1 false ⟨λh=>(by cases h),λhh=>(qd e4 hh.1).elim⟩
def kp2:Ct:=.gp 194 [yqu] [yqi] [] λ(B:Int)=>(U64 B,len64 B,())
theorem kdm:kp2.O:=qrv Bs Tryz.func194 .no (k9x.c c0) (Q:=∀B,U64 B->∀r0,len64 B=r0->U64 B/\len64 B=r0)<|by rintro B h _ rfl;exact⟨h,rfl⟩
def kq8:Ct:=.tp 267 [yqu,yqu] [.bool] [] λ(B F:Int)=>(decide (B<F),())
theorem k1w:kq8.O:=qtv Bs Tryz.func267 .no (kb0.c c0) (Q:=∀(B F:Int),∀r0,decide (B<F)=r0->iT false (iT (!false) (true=r0) (decide (B<F)=r0)) (decide (B<F)=r0))<|by rintro B F _ rfl;exact⟨λh=>by simp at h,λ_=>rfl⟩
def k5g:Ct:=.gp 343 [yqi] [yqu] [] λ(B:Int)=>(0<=B/\B<4611686018427387904,(1<<<Sort.bitsLen B.toNat:Int),())
theorem k5p:k5g.O:=qrv Bs Tryz.func343 .no (kdm.c c0) (Q:=∀B,0<=B/\B<4611686018427387904->∀r0,(1<<<Sort.bitsLen B.toNat:Int)=r0->U64 (u64.wrap B)/\0<=len64 (u64.wrap B)/\let M:=ishl .u64 1 (len64 (u64.wrap B))
M=r0)<|by rintro B h _ rfl;obtain⟨F,h1⟩:=h;have e:=npo B.toNat qqo;rw[show B.toNat=B by omega]at e;have J:=ki3 B.toNat;rw[show B.toNat=B by omega]at J;rw[wu B F qqo,e];exact by omega
def kcl:Ct:=.t (gk 344 [oo] [.cells [zqu]] (.one ou)) [yqu] [yqu,yqu] [] λ(B:Int)=>(xnI B,xnI B,())
theorem ke1:kcl.O:=ptv Bs Tryz.func344 .no c0 (Q:=∀B,∀r0,xnI B=r0->∀Bg,xnI B=Bg->let J:=ishr .u64 (ixor .u64 B (ishl .u64 B 13)) 7
let F:=ixor .u64 (ixor .u64 B (ishl .u64 B 13)) J
ixor .u64 F (ishl .u64 F 17)=r0/\ixor .u64 F (ishl .u64 F 17)=Bg)<|by rintro B _ rfl _ rfl;exact⟨rfl,rfl⟩
def k3f:Ct:=.g (gk 263 [oh,oa,oa] [.vec yqu] (.tup [])) yS1 [oq] [] λ(B F:Int)(w0:Li)=>((0<=B/\B<=F/\F<=w0.length)/\w0.length<=1099511627776,brkS w0 B F,())
set_option maxHeartbeats 1000000 in
theorem k3s:k3f.O:=prv Bs Tryz.func263 (rA 1 (.r 2 (.lp [] ⟨[1,0],[.cells [zqu],.vec yqu],[9],[oa],[]⟩ (rA 0 (.r 0 (.jn (oB [10] [oa]) [] .no [] .no)))))) (k5p.c (ke1.c c0)) (Q:=∀(B F:Int)(w0:Li),(0<=B/\B<=F/\F<=w0.length)/\w0.length<=1099511627776->∀e0:Li,brkS w0 B F=e0->let v1:Bool:=decide (8<=i64.wrap (F-B))
iT v1 (let v2:Int:=u64.wrap (i64.wrap (F-B))
(0<=i64.wrap (F-B)/\i64.wrap (F-B)<4611686018427387904)/\let r3:Int:=((1<<<Sort.bitsLen (i64.wrap (F-B)).toNat:Nat):Int)
let v4:Int:=i64.wrap (Int.tdiv (i64.wrap (F-B)) 4)
let v5:Int:=i64.wrap (B+i64.wrap (v4*2))
∃(I1:oK)(M1:oO),I1 (i64.wrap (v5-1)) v2 w0/\∀b1 f1 i1,I1 b1 f1 i1->let v6:Int:=i64.wrap (Int.tdiv (i64.wrap (F-B)) 4)
let v7:Int:=i64.wrap (B+i64.wrap (v6*2))
let v8:Bool:=decide (b1<=i64.wrap (v7+1))
iT v8 (let v9:Int:=iand .u64 (xnI f1) (u64.wrap (r3-1))
∀J1:oD,(∀(k1:Int),(0<=i64.wrap (B+k1)/\i64.wrap (B+k1)<(w0.length:Int))/\(0<=i64.wrap (B+k1)/\i64.wrap (B+k1)<(i1.length:Int))/\iS b1 w0.length (iS b1 i1.length (iS b1 w0.length (iS b1 i1.length ((0<=i64.wrap (B+k1)/\i64.wrap (B+k1)<(w0.length:Int))/\(0<=i64.wrap (B+k1)/\i64.wrap (B+k1)<((i1.set b1.toNat (ix i1 (i64.wrap (B+k1)))).length:Int))/\ss3 I1 M1 b1 (i64.wrap (b1+1)) f1 (xnI f1) i1 ((i1.set b1.toNat (ix i1 (i64.wrap (B+k1)))).set (i64.wrap (B+k1)).toNat (ix i1 b1))))))->J1 k1)->let ab:Bool:=decide (i64.wrap (F-B)<=i64.wrap v9)
iT ab (let ac:Int:=i64.wrap (i64.wrap v9-i64.wrap (F-B))
J1 ac) (J1 (i64.wrap v9))) (i1=e0)) (w0=e0))<|by
 rintro B F w0 h _ rfl;obtain⟨⟨h1,h2,h3⟩,h4⟩:=h;have e1:=wi (F-B) qqo qqo;have e5:=wu (F-B) qqo qqo;have e3:Int.tdiv (F-B) 4=(F-B)/4:=Int.tdiv_eq_ediv_of_nonneg qqo;have e4:=wi ((F-B)/4) qqo qqo;have e6:=wi ((F-B)/4*2) qqo qqo;have e7:=wi (B+(F-B)/4*2) qqo qqo;have e8:=wi (B+(F-B)/4*2-1) qqo qqo;have e9:=wi (B+(F-B)/4*2+1) qqo qqo;dsimp only;rw[e1,e5,e3,e4,e6,e7,e8];refine⟨λhh=>?_,λhh=>?_⟩
 .have hh:=qc hh;have hm:=npo_le (F-B).toNat qqo;have hb:=brk_eq w0.toArray B.toNat F.toNat qqo;rw[show F.toNat-B.toNat=(F-B).toNat by omega]at hb;have hR:brkS w0 B F=(brkL B.toNat (F-B).toNat (1<<<Sort.bitsLen (F-B).toNat) 3 (UInt64.ofNat (F-B).toNat,w0.toArray) (B.toNat+(F-B).toNat/4*2-1)).toList:=by unfold brkS;rw[hb]
  refine⟨⟨by omega,by omega⟩,?_⟩;generalize 1<<<Sort.bitsLen (F-B).toNat=U at*;generalize brkS w0 B F=R at*;clear hb;have e0:(UInt64.ofNat (F-B).toNat).toNat=(F-B).toNat:=by rw[UInt64.toNat_ofNat',Nat.mod_eq_of_lt qqo]
  refine⟨λJ rnd g=>∃(k:Nat)(u:UInt64),(k<=3/\J+k=B+(F-B)/4*2+2)/\rnd=(u.toNat:Int)/\g.length=w0.length/\R=(brkL B.toNat (F-B).toNat U k (u,g.toArray) J.toNat).toList,λJ _ _=>(B+(F-B)/4*2+2-J).toNat,⟨3,UInt64.ofNat (F-B).toNat,⟨by omega,by omega⟩,by omega,rfl,by rw[hR,show(B+(F-B)/4*2-1).toNat=B.toNat+(F-B).toNat/4*2-1 by omega]⟩,?_⟩;clear hR e0;have hq:0<=(F-B)/4/\4*((F-B)/4)<=F-B/\F-B<4*((F-B)/4)+4:=by omega
  generalize(F-B)/4=dq at*;generalize hn:(F-B).toNat=n at*;have ae:(n:Int)=F-B:=by omega
  rintro J rnd g⟨k,u,⟨k0,k1⟩,rfl,g2,g3⟩;rw[e9];refine⟨λq=>?_,λq=>?_⟩
  .have q:=qc q;intro J1 k1;obtain⟨k,rfl⟩:∃m,k=m+1:=⟨k-1,by omega⟩;rw[brkL_go]at g3;have hx:=xnI_eq u;have ag:=(Sort.xorNext u).toNat_lt;generalize xnI (u.toNat:Int)=xu at*;generalize Sort.xorNext u=u' at*;subst hx;have ah:u'.toNat&&&U-1<=U-1:=Nat.and_le_right;have ad:iand .u64 (u'.toNat:Int) (u64.wrap ((U:Int)-1))=((u'.toNat&&&U-1:Nat):Int):=by rw[wu _ qqo qqo,show(U:Int)-1=((U-1:Nat):Int)by omega,ke0 _ _ qqo qqo]
   rw[ad];generalize u'.toNat&&&U-1=z at*;rw[wi (z:Int) qqo qqo];generalize ho:(if z≥n then z-n else z)=o at*;have ai:o<n:=by rw[<-ho];split<;>omega
   have w1:=wi (B+(o:Int)) qqo qqo;have w2:=wi (J+1) qqo qqo;have hs:=swp_arr (g:=g) (i:=J) (j:=B+(o:Int)) qqo qqo qqo qqo;rw[show B.toNat+o=(B+(o:Int)).toNat by omega,hs,show J.toNat+1=(J+1).toNat by omega]at g3;have X:(∃(k:Nat)(u:UInt64),(k<=3/\i64.wrap (J+1)+k=B+dq*2+2)/\(u'.toNat:Int)=(u.toNat:Int)/\(swpL g J (i64.wrap (B+(o:Int)))).length=w0.length/\R=(brkL B.toNat n U k (u,(swpL g J (i64.wrap (B+(o:Int)))).toArray) (i64.wrap (J+1)).toNat).toList)/\(B+dq*2+2-i64.wrap (J+1)).toNat<(B+dq*2+2-J).toNat:=by rw[w1,w2];exact⟨⟨k,u',⟨by omega,by omega⟩,rfl,by rw[k9d];exact g2,g3⟩,by omega⟩
   have M:(0<=i64.wrap (B+(o:Int))/\i64.wrap (B+(o:Int))<(g.length:Int))/\0<=J/\J<(g.length:Int):=by rw[w1];exact⟨⟨by omega,by omega⟩,⟨by omega,by omega⟩⟩
   have aa:0<=i64.wrap (B+(o:Int))/\i64.wrap (B+(o:Int))<((g.set J.toNat (ix g (i64.wrap (B+(o:Int))))).length:Int):=by rw[qab];exact M.1
   have Y:0<=i64.wrap (B+(o:Int))/\i64.wrap (B+(o:Int))<(w0.length:Int):=by rw[<-g2];exact M.1
   have Z:0<=J/\J<(w0.length:Int):=by rw[<-g2];exact M.2
   refine⟨λe=>?_,λe=>?_⟩;.have e:=qc e;rw[qg qqo]at ho;rw[show(z:Int)-(F-B)=(o:Int)by omega,wi (o:Int) qqo qqo];exact k1 _ ⟨Y,M.1,Z,M.2,Z,M.2,Y,aa,X.1,X.2⟩
   .have e:=qd e;rw[qe qqo]at ho;subst ho;exact k1 _ ⟨Y,M.1,Z,M.2,Z,M.2,Y,aa,X.1,X.2⟩
  .have q:=qd q;have:k=0:=by omega
   subst this;rw[g3];rfl
 .have hh:=qd hh;unfold brkS;rw[brk_no _ _ _ qqo]
def k61:Ct:=.g (gk 418 [oh,oa,oa,.one (.ptr 1 0)] yK1 (.tup [oa,oa])) yM1 yM1 [] λ(B F J:Int)(w0:Li)=>((0<=B/\B<w0.length)/\(0<=F/\F<w0.length)/\0<=J/\J<=1000,((Sort.order2 Sort.ltInt w0.toArray B.toNat F.toNat J.toNat).1:Int),((Sort.order2 Sort.ltInt w0.toArray B.toNat F.toNat J.toNat).2.1:Int),((Sort.order2 Sort.ltInt w0.toArray B.toNat F.toNat J.toNat).2.2:Int),w0,())
theorem k6i:k61.O:=prv Bs Tryz.func418 .no (k1w.c c0) (Q:=∀B F J w0,(0<=B/\B<w0.length)/\(0<=F/\F<w0.length)/\0<=J/\J<=1000->∀r0,((Sort.order2 Sort.ltInt w0.toArray B.toNat F.toNat J.toNat).1:Int)=r0->∀r1,((Sort.order2 Sort.ltInt w0.toArray B.toNat F.toNat J.toNat).2.1:Int)=r1->∀d1_0,((Sort.order2 Sort.ltInt w0.toArray B.toNat F.toNat J.toNat).2.2:Int)=d1_0->∀e0,w0=e0->iS F w0.length (iS F w0.length (iS B w0.length (iS B w0.length (iT (decide (ix w0 F<ix w0 B)) (F=r0/\B=r1/\i64.wrap (J+1)=d1_0/\w0=e0) (B=r0/\F=r1/\J=d1_0/\w0=e0))))))<|by
 rintro B F J w0 h _ rfl _ rfl _ rfl _ rfl;obtain⟨⟨h1,U⟩,⟨M,X⟩,Z,h6⟩:=h;have x1:=arr_ix (g:=w0) h1 U;have Y:=arr_ix (g:=w0) M X;refine⟨⟨M,X⟩,⟨M,X⟩,⟨h1,U⟩,⟨h1,U⟩,λe=>?_,λe=>?_⟩;.unfold Sort.order2;rw[x1,Y,ltI_iff,e,qg rfl,wi (J+1) qqo qqo];exact⟨(Int.toNat_of_nonneg M).symm,(Int.toNat_of_nonneg h1).symm,by show J+1=J.toNat+1;omega,rfl⟩
 .unfold Sort.order2;rw[x1,Y,ltI_iff,e,qe qqd];exact⟨(Int.toNat_of_nonneg h1).symm,(Int.toNat_of_nonneg M).symm,(Int.toNat_of_nonneg Z).symm,rfl⟩
def k63:Ct:=.g (gk 346 [oh,oa,oa,oa,.one (.ptr 1 0)] yK1 (.one oa)) [yqi,yqi,yqi,yqi,oq] yS1 [] λ(B F J M:Int)(w0:Li)=>((0<=B/\B<w0.length)/\(0<=F/\F<w0.length)/\(0<=J/\J<w0.length)/\0<=M/\M<=100,((Sort.median Sort.ltInt w0.toArray B.toNat F.toNat J.toNat M.toNat).1:Int),((Sort.median Sort.ltInt w0.toArray B.toNat F.toNat J.toNat M.toNat).2:Int),w0,())
theorem k2w:k63.O:=prv Bs Tryz.func346 .no (k6i.c c0) (Q:=∀(B F J M:Int)w0,(0<=B/\B<w0.length)/\(0<=F/\F<w0.length)/\(0<=J/\J<w0.length)/\0<=M/\M<=100->∀r0,((Sort.median Sort.ltInt w0.toArray B.toNat F.toNat J.toNat M.toNat).1:Int)=r0->∀d1_0,((Sort.median Sort.ltInt w0.toArray B.toNat F.toNat J.toNat M.toNat).2:Int)=d1_0->∀e0:Li,w0=e0->lz w0/\((0<=B/\B<w0.length)/\(0<=F/\F<w0.length)/\0<=M/\M<=1000)/\let U:Int:=((Sort.order2 Sort.ltInt w0.toArray B.toNat F.toNat M.toNat).1:Int)
let X:Int:=((Sort.order2 Sort.ltInt w0.toArray B.toNat F.toNat M.toNat).2.1:Int)
let Y:Int:=((Sort.order2 Sort.ltInt w0.toArray B.toNat F.toNat M.toNat).2.2:Int)
lz w0/\((0<=X/\X<w0.length)/\(0<=J/\J<w0.length)/\0<=Y/\Y<=1000)/\let Z:Int:=((Sort.order2 Sort.ltInt w0.toArray X.toNat J.toNat Y.toNat).1:Int)
let r5:Int:=((Sort.order2 Sort.ltInt w0.toArray X.toNat J.toNat Y.toNat).2.1:Int)
let r6:Int:=((Sort.order2 Sort.ltInt w0.toArray X.toNat J.toNat Y.toNat).2.2:Int)
lz w0/\((0<=U/\U<w0.length)/\(0<=Z/\Z<w0.length)/\0<=r6/\r6<=1000)/\let r7:Int:=((Sort.order2 Sort.ltInt w0.toArray U.toNat Z.toNat r6.toNat).1:Int)
let r8:Int:=((Sort.order2 Sort.ltInt w0.toArray U.toNat Z.toNat r6.toNat).2.1:Int)
let r9:Int:=((Sort.order2 Sort.ltInt w0.toArray U.toNat Z.toNat r6.toNat).2.2:Int)
r8=r0/\r9=d1_0/\w0=e0)<|by
 rintro B F J M w0 h _ rfl _ rfl _ rfl;obtain⟨⟨h1,h2⟩,⟨h3,h4⟩,⟨h5,h6⟩,h7,h8⟩:=h;refine ?_;unfold Sort.median;dsimp only;simp only[qv];have q1:=k2v (d:=w0.toArray) (a:=B.toNat) (b:=F.toNat) (c:=M.toNat) (n:=w0.length) qqo qqo;generalize Sort.order2 Sort.ltInt w0.toArray B.toNat F.toNat M.toNat=U at*;have q2:=k2v (d:=w0.toArray) (a:=U.2.1) (b:=J.toNat) (c:=U.2.2) (n:=w0.length) q1.2.1 qqo;generalize Sort.order2 Sort.ltInt w0.toArray U.2.1 J.toNat U.2.2=X at*;have q3:=k2v (d:=w0.toArray) (a:=U.1) (b:=X.1) (c:=X.2.2) (n:=w0.length) q1.1 q2.1;exact⟨by trivial,⟨⟨h1,h2⟩,⟨h3,h4⟩,h7,by omega⟩,by trivial,⟨⟨by omega,by omega⟩,⟨h5,h6⟩,by omega,by omega⟩,by trivial,⟨⟨by omega,by omega⟩,⟨by omega,by omega⟩,by omega,by omega⟩,by trivial,by trivial,by trivial⟩
def k39:Ct:=.g (gk 345 [oh,oa,.one (.ptr 1 0)] yK1 (.one oa)) yS1 yS1 [] λ(B F:Int)(w0:Li)=>((1<=B/\B+1<w0.length)/\w0.length<=1099511627776/\0<=F/\F<=100,((Sort.medianAdjacent Sort.ltInt w0.toArray B.toNat F.toNat).1:Int),((Sort.medianAdjacent Sort.ltInt w0.toArray B.toNat F.toNat).2:Int),w0,())
theorem k3g:k39.O:=prv Bs Tryz.func345 .no (k2w.c c0) (Q:=∀(B F:Int)w0,(1<=B/\B+1<w0.length)/\w0.length<=1099511627776/\0<=F/\F<=100->∀r0,((Sort.medianAdjacent Sort.ltInt w0.toArray B.toNat F.toNat).1:Int)=r0->∀d1_0,((Sort.medianAdjacent Sort.ltInt w0.toArray B.toNat F.toNat).2:Int)=d1_0->∀e0,w0=e0->lz w0/\((0<=i64.wrap (B-1)/\i64.wrap (B-1)<w0.length)/\(0<=B/\B<w0.length)/\(0<=i64.wrap (B+1)/\i64.wrap (B+1)<w0.length)/\0<=F/\F<=100)/\let J:=(Sort.median Sort.ltInt w0.toArray (i64.wrap (B-1)).toNat B.toNat (i64.wrap (B+1)).toNat F.toNat).1
let M:=(Sort.median Sort.ltInt w0.toArray (i64.wrap (B-1)).toNat B.toNat (i64.wrap (B+1)).toNat F.toNat).2
J=r0/\M=d1_0/\w0=e0)<|by rintro B F w0 h _ rfl _ rfl _ rfl;rw[wi (B-1) qqo qqo,wi (B+1) qqo qqo];rw[show(B-1).toNat=B.toNat-1 by omega,show(B+1).toNat=B.toNat+1 by omega];exact⟨rfl,by omega,rfl,rfl,rfl⟩
def k3z:Ct:=.g (gk 264 [oh,oa,oa] [.vec yqu] (.tup [oa,oa])) yS1 yS1 [] λ(B F:Int)(w0:Li)=>((0<=B/\B<F/\F<=w0.length)/\w0.length<=1099511627776,((cpS w0 B F).1:Int),hintN (cpS w0 B F).2,w0,())
set_option maxHeartbeats 1000000 in
theorem k47:k3z.O:=prv Bs Tryz.func264 (.r 5 (.jn ⟨[1,0],[.cells [zqi],.vec yqu],[10,11,12],[.one .any,oa,.one .any],[]⟩ [] (rA 0 (.jn ⟨[1,0],[.cells [zqi],.vec yqu],[10,11,12],[oa,oa,oa],[]⟩ [] .no [] .no)) [] .no)) (k3g.c (k2w.c c0)) (Q:=∀(F J:Int)(w0:Li),(0<=F/\F<J/\J<=w0.length)/\w0.length<=1099511627776->∀r0:Int,((cpS w0 F J).1:Int)=r0->∀r1:Int,hintN (cpS w0 F J).2=r1->∀e0:Li,w0=e0->let v2:Int:=i64.wrap (Int.tdiv (i64.wrap (J-F)) 4)
let v3:Int:=i64.wrap (F+i64.wrap (v2*1))
let v4:Int:=i64.wrap (Int.tdiv (i64.wrap (J-F)) 4)
let v5:Int:=i64.wrap (F+i64.wrap (v4*2))
let v6:Int:=i64.wrap (Int.tdiv (i64.wrap (J-F)) 4)
let v7:Int:=i64.wrap (F+i64.wrap (v6*3))
∀J1:oK,(∀(b1 f1:Int)(i1:Li),iT (f1==0) (b1=r0/\1=r1/\i1=e0) (iT (f1==12) (b1=r0/\2=r1/\i1=e0) (b1=r0/\0=r1/\i1=e0))->J1 b1 f1 i1)->let v8:Bool:=decide (8<=i64.wrap (J-F))
iT v8 (∀J2:Int->Int->Int->Int->Li->Prop,(∀(k1 l1 Y n1:Int)(X:Li),(w0.length=X.length/\((0<=k1/\k1<X.length)/\(0<=l1/\l1<X.length)/\(0<=Y/\Y<X.length)/\0<=n1/\n1<=100)/\let aa:Int:=((Sort.median Sort.ltInt X.toArray k1.toNat l1.toNat Y.toNat n1.toNat).1:Int)
let ab:Int:=((Sort.median Sort.ltInt X.toArray k1.toNat l1.toNat Y.toNat n1.toNat).2:Int)
J1 aa ab X)->J2 k1 l1 Y n1 X)->let v9:Bool:=decide (50<=i64.wrap (J-F))
iT v9 (lz w0/\((1<=v3/\v3+1<w0.length)/\w0.length<=1099511627776/\0<=(0:Int)/\(0:Int)<=100)/\let ac:Int:=((Sort.medianAdjacent Sort.ltInt w0.toArray v3.toNat (0:Int).toNat).1:Int)
let M:Int:=((Sort.medianAdjacent Sort.ltInt w0.toArray v3.toNat (0:Int).toNat).2:Int)
lz w0/\((1<=v5/\v5+1<w0.length)/\w0.length<=1099511627776/\0<=M/\M<=100)/\let ad:Int:=((Sort.medianAdjacent Sort.ltInt w0.toArray v5.toNat M.toNat).1:Int)
let U:Int:=((Sort.medianAdjacent Sort.ltInt w0.toArray v5.toNat M.toNat).2:Int)
lz w0/\((1<=v7/\v7+1<w0.length)/\w0.length<=1099511627776/\0<=U/\U<=100)/\let ae:Int:=((Sort.medianAdjacent Sort.ltInt w0.toArray v7.toNat U.toNat).1:Int)
let ag:Int:=((Sort.medianAdjacent Sort.ltInt w0.toArray v7.toNat U.toNat).2:Int)
J2 ac ad ae ag w0) (J2 v3 v5 v7 0 w0)) (J1 v5 0 w0))<|by
 rintro F J w0 h _ rfl _ rfl _ rfl;obtain⟨⟨h1,h2,h3⟩,h4⟩:=h;have e1:=wi (J-F) qqo qqo;have e3:Int.tdiv (J-F) 4=(J-F)/4:=Int.tdiv_eq_ediv_of_nonneg qqo;have e4:=wi ((J-F)/4) qqo qqo;have e5:=wi ((J-F)/4*1) qqo qqo;have e6:=wi ((J-F)/4*2) qqo qqo;have e7:=wi ((J-F)/4*3) qqo qqo;have f5:=wi (F+(J-F)/4*1) qqo qqo;have f6:=wi (F+(J-F)/4*2) qqo qqo;have f7:=wi (F+(J-F)/4*3) qqo qqo;have Z:cpS w0 F J=Sort.choosePivot Sort.ltInt w0.toArray F.toNat J.toNat:=rfl;dsimp only;rw[e1,e3,e4,e5,e6,e7,f5,f6,f7];have dq:(J-F)/4=(((J.toNat-F.toNat)/4:Nat):Int):=by omega
 intro J1 k1;have j2:∀(r:Nat×Nat),cpS w0 F J=(r.1,if r.2=0 then Sort.Hint.increasing else if r.2=12 then .decreasing else .unknown)->J1 (r.1:Int) (r.2:Int) w0:=by
  intro r hr;refine k1 _ _ _ ?_;rw[hr];refine⟨λe=>?_,λe=>⟨λe2=>?_,λe2=>?_⟩⟩
  .have e:(r.2:Int)=0:=by simpa using e
   rw[qg qqo];exact⟨rfl,rfl,rfl⟩
  .have e:¬(r.2:Int)=0:=by simpa using e
   have e2:(r.2:Int)=12:=by simpa using e2
   rw[qe qqo,qg qqo];exact⟨rfl,rfl,rfl⟩
  .have e:¬(r.2:Int)=0:=by simpa using e
   have e2:¬(r.2:Int)=12:=by simpa using e2
   rw[qe qqo,qe qqo];exact⟨rfl,rfl,rfl⟩
 refine⟨λa J2 k2=>?_,λa=>?_⟩
 .have j1:∀(i j k s:Nat),i<w0.length/\j<w0.length/\k<w0.length/\s<=100->cpS w0 F J=((Sort.median Sort.ltInt w0.toArray i j k s).1,if(Sort.median Sort.ltInt w0.toArray i j k s).2=0 then Sort.Hint.increasing else if(Sort.median Sort.ltInt w0.toArray i j k s).2=12 then .decreasing else .unknown)->J2 (i:Int) (j:Int) (k:Int) (s:Int) w0:=by intro i j k s⟨i1,i2,i3,i4⟩hr;refine k2 _ _ _ _ _ ⟨rfl,⟨⟨by omega,by omega⟩,⟨by omega,by omega⟩,⟨by omega,by omega⟩,by omega,by omega⟩,?_⟩;simp only[qv];exact j2 _ hr
  refine⟨λb=>?_,λb=>?_⟩
  .have a:=qc a;have b:=qc b;have ei:(F+(J-F)/4*1).toNat=F.toNat+(J.toNat-F.toNat)/4*1:=by omega
   have ej:(F+(J-F)/4*2).toNat=F.toNat+(J.toNat-F.toNat)/4*2:=by omega
   have ek:(F+(J-F)/4*3).toNat=F.toNat+(J.toNat-F.toNat)/4*3:=by omega
   have key:=Z;unfold Sort.choosePivot at key;simp only[qg (show J.toNat-F.toNat≥8 by omega),qg (show J.toNat-F.toNat≥50 by omega)]at key;rw[<-ei,<-ej,<-ek]at key;have r1:=k95 (d:=w0.toArray) (a:=(F+(J-F)/4*1).toNat-1) (b:=(F+(J-F)/4*1).toNat) (c:=(F+(J-F)/4*1).toNat+1) (s:=0) (n:=w0.length) qqo qqo qqo;have Y:Sort.medianAdjacent Sort.ltInt w0.toArray (F+(J-F)/4*1).toNat 0=Sort.median Sort.ltInt w0.toArray ((F+(J-F)/4*1).toNat-1) (F+(J-F)/4*1).toNat ((F+(J-F)/4*1).toNat+1) 0:=rfl;rw[<-Y]at r1;rw[show(0:Int).toNat=0 from rfl];generalize Sort.medianAdjacent Sort.ltInt w0.toArray (F+(J-F)/4*1).toNat 0=A at*;have r2:=k95 (d:=w0.toArray) (a:=(F+(J-F)/4*2).toNat-1) (b:=(F+(J-F)/4*2).toNat) (c:=(F+(J-F)/4*2).toNat+1) (s:=A.2) (n:=w0.length) qqo qqo qqo;have m2:Sort.medianAdjacent Sort.ltInt w0.toArray (F+(J-F)/4*2).toNat A.2=Sort.median Sort.ltInt w0.toArray ((F+(J-F)/4*2).toNat-1) (F+(J-F)/4*2).toNat ((F+(J-F)/4*2).toNat+1) A.2:=rfl;rw[<-m2]at r2;simp only[qv];generalize Sort.medianAdjacent Sort.ltInt w0.toArray (F+(J-F)/4*2).toNat A.2=B at*;have r3:=k95 (d:=w0.toArray) (a:=(F+(J-F)/4*3).toNat-1) (b:=(F+(J-F)/4*3).toNat) (c:=(F+(J-F)/4*3).toNat+1) (s:=B.2) (n:=w0.length) qqo qqo qqo;have m3:Sort.medianAdjacent Sort.ltInt w0.toArray (F+(J-F)/4*3).toNat B.2=Sort.median Sort.ltInt w0.toArray ((F+(J-F)/4*3).toNat-1) (F+(J-F)/4*3).toNat ((F+(J-F)/4*3).toNat+1) B.2:=rfl;rw[<-m3]at r3;generalize Sort.medianAdjacent Sort.ltInt w0.toArray (F+(J-F)/4*3).toNat B.2=C at*;exact⟨by trivial,⟨⟨by omega,by omega⟩,h4,by omega,by omega⟩,by trivial,⟨⟨by omega,by omega⟩,h4,by omega,by omega⟩,by trivial,⟨⟨by omega,by omega⟩,h4,by omega,by omega⟩,j1 _ _ _ _ ⟨r1.1,r2.1,r3.1,by omega⟩ key⟩
  .have a:=qc a;have b:=qd b;have key:=Z;unfold Sort.choosePivot at key;simp only[qg (show J.toNat-F.toNat≥8 by omega),qe (show¬J.toNat-F.toNat≥50 by omega)]at key;have ei:F+(J-F)/4*1=((F.toNat+(J.toNat-F.toNat)/4*1:Nat):Int):=by omega
   have ej:F+(J-F)/4*2=((F.toNat+(J.toNat-F.toNat)/4*2:Nat):Int):=by omega
   have ek:F+(J-F)/4*3=((F.toNat+(J.toNat-F.toNat)/4*3:Nat):Int):=by omega
   rw[ei,ej,ek];exact j1 _ _ _ 0 ⟨by omega,by omega,by omega,by omega⟩ key
 .have a:=qd a;have key:=Z;unfold Sort.choosePivot at key;simp only[qe (show¬J.toNat-F.toNat≥8 by omega)]at key;have ej:F+(J-F)/4*2=((F.toNat+(J.toNat-F.toNat)/4*2:Nat):Int):=by omega
  rw[ej];exact j2 (_,0) key
def k4u:Ct:=.g (gk 342 [oh,oa,oa,oa] [.vec yqu] (.tup [])) yM1 [oq] [] λ(B F J:Int)(w0:Li)=>((0<=B/\B<=1099511627776)/\(0<=F/\0<=J/\J+F<=w0.length)/\w0.length<=1099511627776,sdS w0 B F J,())
theorem k5b:k4u.O:=prv Bs Tryz.func342 (lA ⟨[0],[.vec yqu],[8],[oa],[]⟩ (.r 1 (.jn (oB [9] [oa]) [] (oC 36) [] .no))) (k1w.c c0) (Q:=∀(X J B:Int)w0,(0<=X/\X<=1099511627776)/\(0<=J/\0<=B/\B+J<=w0.length)/\w0.length<=1099511627776->∀e0,sdS w0 X J B=e0->∃(I1:oH)(M1:oJ),I1 X w0/\∀b1 f1,I1 b1 f1->let M:Int:=i64.wrap (i64.wrap (2*b1)+1)
iD (J<=M) (f1=e0) (∀Z:oD,(∀(F:Int),((0<=i64.wrap (B+b1)/\i64.wrap (B+b1)<(w0.length:Int))/\(0<=i64.wrap (B+b1)/\i64.wrap (B+b1)<(f1.length:Int))/\(0<=i64.wrap (B+F)/\i64.wrap (B+F)<(w0.length:Int))/\(0<=i64.wrap (B+F)/\i64.wrap (B+F)<(f1.length:Int))/\let r5:Bool:=decide (ix f1 (i64.wrap (B+b1))<ix f1 (i64.wrap (B+F)))
iT (!r5) (f1=e0) ((0<=i64.wrap (B+F)/\i64.wrap (B+F)<(w0.length:Int))/\(0<=i64.wrap (B+F)/\i64.wrap (B+F)<(f1.length:Int))/\(0<=i64.wrap (B+b1)/\i64.wrap (B+b1)<(w0.length:Int))/\(0<=i64.wrap (B+b1)/\i64.wrap (B+b1)<(f1.length:Int))/\(0<=i64.wrap (B+b1)/\i64.wrap (B+b1)<(w0.length:Int))/\(0<=i64.wrap (B+b1)/\i64.wrap (B+b1)<(f1.length:Int))/\(0<=i64.wrap (B+F)/\i64.wrap (B+F)<(w0.length:Int))/\(0<=i64.wrap (B+F)/\i64.wrap (B+F)<((f1.set (i64.wrap (B+b1)).toNat (ix f1 (i64.wrap (B+F)))).length:Int))/\I1 F ((f1.set (i64.wrap (B+b1)).toNat (ix f1 (i64.wrap (B+F)))).set (i64.wrap (B+F)).toNat (ix f1 (i64.wrap (B+b1))))/\M1 F ((f1.set (i64.wrap (B+b1)).toNat (ix f1 (i64.wrap (B+F)))).set (i64.wrap (B+F)).toNat (ix f1 (i64.wrap (B+b1))))<M1 b1 f1))->Z F)->∀J2:oE,(∀(k1:Bool),iT k1 (Z (i64.wrap (M+1))) (Z M)->J2 k1)->let v2:Bool:=decide (i64.wrap (M+1)<J)
iT v2 ((0<=i64.wrap (B+M)/\i64.wrap (B+M)<(w0.length:Int))/\(0<=i64.wrap (B+M)/\i64.wrap (B+M)<(f1.length:Int))/\let v3:Int:=i64.wrap (i64.wrap (B+M)+1)
iS v3 w0.length (iS v3 f1.length (let r4:Bool:=decide (ix f1 (i64.wrap (B+M))<ix f1 v3)
J2 r4))) (J2 false)))<|by
 rintro X J B w0 h _ rfl;obtain⟨⟨h0,h1⟩,⟨h2,h3,h4⟩,h5⟩:=h;refine⟨λroot g=>(0<=root/\root<=1099511627776)/\g.length=w0.length/\Sort.siftDown Sort.ltInt J.toNat B.toNat root.toNat g.toArray=Sort.siftDown Sort.ltInt J.toNat B.toNat X.toNat w0.toArray,λroot _=>(J-root).toNat,⟨⟨h0,h1⟩,rfl,rfl⟩,?_⟩;rintro root g⟨⟨g0,g1⟩,g2,U⟩;rw[wi (2*root) qqo qqo,wi (2*root+1) qqo qqo];dsimp only;rw[wi (2*root+1+1) qqo qqo];refine⟨λY=>?_,λY=>?_⟩;.have Y:=qc Y;rw[kom g0 Y]at U;unfold sdS;rw[<-U]
 have Y:=qd Y;have hc:=chS_rng (g:=g) (hi:=J) (first:=B) (root:=root) qqo;rw[krb g0 h3 qqo qqo]at U;intro Z k1;have key:∀c:Int,c=chS g J B root->Z c:=by
  rintro c rfl;rw[<-wi (B+root) qqo qqo]at U;rw[<-wi (B+chS g J B root) qqo qqo]at U;have w1:=wi (B+root) qqo qqo;have w2:=wi (B+chS g J B root) qqo qqo;generalize aa:chS g J B root=c at*;refine k1 _ ?_;generalize i64.wrap (B+root)=u at*;generalize i64.wrap (B+c)=v at*;refine⟨⟨by omega,by omega⟩,⟨by omega,by omega⟩,⟨by omega,by omega⟩,⟨by omega,by omega⟩,λe=>?_,λe=>?_⟩
  .have e:¬ix g u<ix g v:=by simpa using e
   rw[qe e]at U;unfold sdS;rw[<-U]
  .have e:ix g u<ix g v:=by simpa using e
   rw[qg e]at U;exact⟨⟨by omega,by omega⟩,⟨by omega,by omega⟩,⟨by omega,by omega⟩,⟨by omega,by omega⟩,⟨by omega,by omega⟩,⟨by omega,by omega⟩,⟨by omega,by omega⟩,⟨by omega,by rw[qab];omega⟩,⟨⟨by omega,by omega⟩,by rw[qab,qab];exact g2,U⟩,by omega⟩
 intro J2 k2;have j1:∀s:Bool,(s=true↔2*root+2<J/\ix g (B+(2*root+1))<ix g (B+(2*root+1)+1))->J2 s:=by intro s hs;refine k2 _ ⟨λe=>key _ ?_,λe=>key _ (Eq.symm (qe λq=>by rw[hs.2 q]at e;cases e))⟩;unfold Go.Md.chS;rw[qg (hs.1 e)];omega
 refine⟨λe=>?_,λe=>?_⟩;.have e:=qc e;have w1:=wi (B+(2*root+1)) qqo qqo;rw[w1,wi (B+(2*root+1)+1) qqo qqo];refine⟨⟨by omega,by omega⟩,⟨by omega,by omega⟩,⟨by omega,by omega⟩,⟨by omega,by omega⟩,?_⟩;exact j1 _ ⟨λq=>⟨by omega,qc q⟩,λq=>qao q.2⟩
 .have e:=qd e;exact j1 _ ⟨λq=>(by cases q),λq=>absurd q.1 qqo⟩
def k4w:Ct:=.g (gk 262 [oh,oa,oa] [.vec yqu] (.tup [])) yS1 [oq] [] λ(B F:Int)(w0:Li)=>((0<=B/\B<F/\F<=w0.length)/\w0.length<=1099511627776,heapS w0 B F,())
theorem k5c:k4w.O:=prv Bs Tryz.func262 (.r 2 (.nd [] (lA ⟨[0],[.vec yqu],[9],[oa],[]⟩ .no) [] (lA ⟨[0],[.vec yqu],[10],[oa],[]⟩ .no))) (k5b.c c0) (Q:=∀B F w0,(0<=B/\B<F/\F<=w0.length)/\w0.length<=1099511627776->∀e0,heapS w0 B F=e0->let v1:=i64.wrap (i64.wrap (F-B)-1)
∃(X:oH)(M1:oJ),X (i64.wrap (Int.tdiv v1 2)) w0/\∀b1 f1,X b1 f1->iD (0<=b1) (w0.length=f1.length/\((0<=b1/\b1<=1099511627776)/\(0<=i64.wrap (F-B)/\0<=B/\B+i64.wrap (F-B)<=f1.length)/\f1.length<=1099511627776)/\let r2:Li:=sdS f1 b1 (i64.wrap (F-B)) B
X (i64.wrap (b1-1)) r2/\M1 (i64.wrap (b1-1)) r2<M1 b1 f1) (let v3:Int:=i64.wrap (i64.wrap (F-B)-1)
∃(Y:oH)(M2:oJ),Y v3 f1/\∀i1 k1,Y i1 k1->iD (0<=i1) ((0<=i64.wrap (B+i1)/\i64.wrap (B+i1)<(w0.length:Int))/\(0<=i64.wrap (B+i1)/\i64.wrap (B+i1)<(k1.length:Int))/\iS B w0.length (iS B k1.length (iS B w0.length (iS B k1.length ((0<=i64.wrap (B+i1)/\i64.wrap (B+i1)<(w0.length:Int))/\(0<=i64.wrap (B+i1)/\i64.wrap (B+i1)<((k1.set B.toNat (ix k1 (i64.wrap (B+i1)))).length:Int))/\w0.length=((k1.set B.toNat (ix k1 (i64.wrap (B+i1)))).set (i64.wrap (B+i1)).toNat (ix k1 B)).length/\((0<=(0:Int)/\(0:Int)<=1099511627776)/\(0<=i1/\0<=B/\B+i1<=((k1.set B.toNat (ix k1 (i64.wrap (B+i1)))).set (i64.wrap (B+i1)).toNat (ix k1 B)).length)/\((k1.set B.toNat (ix k1 (i64.wrap (B+i1)))).set (i64.wrap (B+i1)).toNat (ix k1 B)).length<=1099511627776)/\let r4:Li:=sdS ((k1.set B.toNat (ix k1 (i64.wrap (B+i1)))).set (i64.wrap (B+i1)).toNat (ix k1 B)) (0:Int) i1 B
Y (i64.wrap (i1-1)) r4/\M2 (i64.wrap (i1-1)) r4<M2 i1 k1))))) (k1=e0)))<|by
 rintro B F w0 h _ rfl;obtain⟨⟨h1,h2,h3⟩,h4⟩:=h;have e1:=wi (F-B) qqo qqo;have e2:=wi (F-B-1) qqo qqo;have e3:Int.tdiv (F-B-1) 2=(F-B-1)/2:=Int.tdiv_eq_ediv_of_nonneg qqo;have e4:=wi ((F-B-1)/2) qqo qqo;dsimp only;rw[e1,e2,e3,e4];refine⟨λi g=>(-1<=i/\i<=1099511627776)/\g.length=w0.length/\Sort.heapPop Sort.ltInt B.toNat (F-B).toNat (Sort.heapBuild Sort.ltInt (F-B).toNat B.toNat (i+1).toNat g.toArray)=Sort.heapSort Sort.ltInt w0.toArray B.toNat F.toNat,λi _=>(i+1).toNat,⟨⟨by omega,by omega⟩,rfl,?_⟩,?_⟩;.unfold Sort.heapSort;rw[show(F-B).toNat=F.toNat-B.toNat by omega,show((F-B-1)/2+1).toNat=(F.toNat-B.toNat-1)/2+1 by omega]
 rintro i g⟨⟨g0,g1⟩,U,M⟩;refine⟨λJ=>?_,λJ=>?_⟩;.have J:=qc J;rw[knl J]at M;have Z:(sdS g i (F-B) B).length=g.length:=sdS_len;refine⟨U.symm,⟨⟨by omega,by omega⟩,⟨by omega,by omega,by omega⟩,by omega⟩,?_⟩;dsimp only;rw[wi (i-1) qqo qqo];refine⟨⟨⟨by omega,by omega⟩,Z.trans U,?_⟩,by omega⟩;rw[show(i-1+1).toNat=i.toNat by omega];exact M
 .have J:=qd J;rw[show(i+1).toNat=0 by omega,Sort.heapBuild]at M;refine⟨λi g=>(-1<=i/\i<F-B)/\g.length=w0.length/\Sort.heapPop Sort.ltInt B.toNat (i+1).toNat g.toArray=Sort.heapSort Sort.ltInt w0.toArray B.toNat F.toNat,λi _=>(i+1).toNat,⟨⟨by omega,by omega⟩,U,by rw[show(F-B-1+1).toNat=(F-B).toNat by omega];exact M⟩,?_⟩;rintro i g⟨⟨g0,g1⟩,U,M⟩;refine⟨λJ=>?_,λJ=>?_⟩
  .have J:=qc J;rw[ks7 J]at M;have w1:=wi (B+i) qqo qqo;rw[w1];have hs:=swp_arr (g:=g) (i:=B) (j:=B+i) qqo qqo qqo qqo;rw[show B.toNat+i.toNat=(B+i).toNat by omega,hs]at M;have aa:(swpL g B (B+i)).length=g.length:=k9d;have Z:(sdS (swpL g B (B+i)) 0 i B).length=(swpL g B (B+i)).length:=sdS_len;refine⟨⟨by omega,by omega⟩,⟨by omega,by omega⟩,⟨by omega,by omega⟩,⟨by omega,by omega⟩,⟨by omega,by omega⟩,⟨by omega,by omega⟩,⟨by omega,by omega⟩,⟨by omega,by rw[qab];omega⟩,by rw[qab,qab,U],⟨⟨by omega,by omega⟩,⟨by omega,by omega,?_⟩,?_⟩,?_⟩;.rw[qab,qab];omega
   .rw[qab,qab];omega
   dsimp only;rw[wi (i-1) qqo qqo];refine⟨⟨⟨by omega,by omega⟩,(Z.trans aa).trans U,?_⟩,by omega⟩;rw[show(i-1+1).toNat=i.toNat by omega];exact M
  .have J:=qd J;rw[show(i+1).toNat=0 by omega,Sort.heapPop]at M;unfold heapS;rw[<-M]
def k3i:Ct:=.g (gk 261 [oh,oa,oa] [.vec yqu] (.tup [])) yS1 [oq] [] λ(B F:Int)(w0:Li)=>((0<=B/\B<=F/\F<=w0.length)/\w0.length<=1099511627776,insS w0 B F,())
theorem k3w:k3i.O:=prv Bs Tryz.func261 (lA ⟨[0],[.vec yqu],[6],[oa],[]⟩ (rA 0 (lA ⟨[0],[.vec yqu],[7],[oa],[]⟩ .no))) (k1w.c c0) (Q:=∀B F w0,(0<=B/\B<=F/\F<=w0.length)/\w0.length<=1099511627776->∀e0,insS w0 B F=e0->∃Z M1,Z (i64.wrap (B+1)) w0/\∀b1 f1,Z b1 f1->iD (b1<F) (∃I2 M2,I2 b1 f1/\∀i1 k1,I2 i1 k1->iD (B<i1) (iS i1 w0.length (iS i1 k1.length ((0<=i64.wrap (i1-1)/\i64.wrap (i1-1)<w0.length)/\(0<=i64.wrap (i1-1)/\i64.wrap (i1-1)<k1.length)/\let r1:=decide (ix k1 i1<ix k1 (i64.wrap (i1-1)))
iT r1 ((0<=i64.wrap (i1-1)/\i64.wrap (i1-1)<w0.length)/\(0<=i64.wrap (i1-1)/\i64.wrap (i1-1)<k1.length)/\iS i1 w0.length (iS i1 k1.length (iS i1 w0.length (iS i1 k1.length ((0<=i64.wrap (i1-1)/\i64.wrap (i1-1)<w0.length)/\(0<=i64.wrap (i1-1)/\i64.wrap (i1-1)<(k1.set i1.toNat (ix k1 (i64.wrap (i1-1)))).length)/\ss2 I2 M2 i1 (i64.wrap (i1-1)) k1 ((k1.set i1.toNat (ix k1 (i64.wrap (i1-1)))).set (i64.wrap (i1-1)).toNat (ix k1 i1))))))) (ss2 Z M1 b1 (i64.wrap (b1+1)) f1 k1)))) (ss2 Z M1 b1 (i64.wrap (b1+1)) f1 k1)) (f1=e0))<|by
 rintro B F w0 h _ rfl;obtain⟨⟨h1,J,h3⟩,h4⟩:=h;rw[wi (B+1) qqo qqo];refine⟨λi g=>(B+1<=i/\i<=1099511627777)/\g.length=w0.length/\Sort.insOuter Sort.ltInt B.toNat F.toNat i.toNat g.toArray=Sort.insertionSort Sort.ltInt w0.toArray B.toNat F.toNat,λi _=>(1099511627778-i).toNat,⟨⟨by omega,by omega⟩,rfl,by unfold Sort.insertionSort;rw[show(B+1).toNat=B.toNat+1 by omega]⟩,?_⟩;rintro i g⟨⟨g0,g1⟩,g2,g3⟩;refine⟨λM=>?_,λM=>?_⟩
 .have M:=qc M;rw[kqw qqo M]at g3;refine⟨λj X=>(B<=j/\j<=i)/\X.length=w0.length/\Sort.insInner Sort.ltInt B.toNat j.toNat X.toArray=Sort.insInner Sort.ltInt B.toNat i.toNat g.toArray,λj _=>j.toNat,⟨⟨by omega,by omega⟩,g2,rfl⟩,?_⟩;rintro j X⟨⟨k0,k1⟩,k2,k3⟩;have Y:X.toArray=Sort.insInner Sort.ltInt B.toNat i.toNat g.toArray->((B+1<=i64.wrap (i+1)/\i64.wrap (i+1)<=1099511627777)/\X.length=w0.length/\Sort.insOuter Sort.ltInt B.toNat F.toNat (i64.wrap (i+1)).toNat X.toArray=Sort.insertionSort Sort.ltInt w0.toArray B.toNat F.toNat)/\(1099511627778-i64.wrap (i+1)).toNat<(1099511627778-i).toNat:=by intro e;rw[wi (i+1) qqo qqo,e];exact⟨⟨⟨by omega,by omega⟩,k2,g3⟩,by omega⟩
  refine⟨λJ=>?_,λJ=>?_⟩
  .have J:=qc J;rw[wi (j-1) qqo qqo];rw[kqr h1 J qqo]at k3;refine⟨⟨by omega,by omega⟩,⟨by omega,by omega⟩,⟨by omega,by omega⟩,⟨by omega,by omega⟩,λU=>?_,λU=>?_⟩;.have U:=qc U;rw[qg U]at k3;exact⟨⟨by omega,by omega⟩,⟨by omega,by omega⟩,⟨by omega,by omega⟩,⟨by omega,by omega⟩,⟨by omega,by omega⟩,⟨by omega,by omega⟩,⟨by omega,by omega⟩,⟨by omega,by rw[qab];omega⟩,⟨⟨by omega,by omega⟩,by rw[qab,qab];exact k2,k3⟩,by(dsimp only;omega)⟩
   .have U:=qd U;rw[qe U]at k3;exact Y k3
  .have J:=qd J;rw[kn5 J]at k3;exact Y k3
 .have M:=qd M;rw[kne qqo M]at g3;unfold insS;rw[<-g3]
def k2i:Ct:=.b (gk 266 [oh,oa,oa] [.vec yqu] (.one oc)) yS1 [.bool,oq] λ(B F:Int)(w0:Li)=>((0<=B/\B<F/\F<=w0.length)/\w0.length<=1099511627776,pisS w0 B F,λR=>(R.2,R.1.toList,()))
set_option maxHeartbeats 1000000 in
theorem k2j:k2i.O:=pbv Bs Tryz.func266 (rA 1 (lA ⟨[0],[.vec yqu],[7,8],[oa,oa],[]⟩ (rA 0 (.jn (oB [7] [oa]) [] (.lp [] (oB [7] [oa]) .no) [] (.r 2 (.jn ⟨[0],[.vec yqu],[],[],[]⟩ [] (rA 0 (lA ⟨[0],[.vec yqu],[9],[oa],[]⟩ .no)) [] (rA 0 (lA ⟨[0],[.vec yqu],[10],[oa],[]⟩ .no)))))))) (k1w.c c0) (Q:=∀(U J:Int)(w0:Li),(0<=U/\U<J/\J<=w0.length)/\w0.length<=1099511627776->∀R,pisS w0 U J=R->∃(I1:oK)(M1:oO),I1 (i64.wrap (U+1)) 0 w0/\∀b1 f1 M,I1 b1 f1 M->iD (f1<5) (∀J1:oD,(∀(k1:Int),iT (k1==J) (true=R.2/\M=R.1.toList) (let v2:Bool:=decide (i64.wrap (J-U)<50)
iT v2 (false=R.2/\M=R.1.toList) ((0<=i64.wrap (k1-1)/\i64.wrap (k1-1)<(w0.length:Int))/\(0<=i64.wrap (k1-1)/\i64.wrap (k1-1)<(M.length:Int))/\iS k1 w0.length (iS k1 M.length (iS k1 w0.length (iS k1 M.length ((0<=i64.wrap (k1-1)/\i64.wrap (k1-1)<(w0.length:Int))/\(0<=i64.wrap (k1-1)/\i64.wrap (k1-1)<((M.set k1.toNat (ix M (i64.wrap (k1-1)))).length:Int))/\∀J2:oR,(∀(m1:Li),(let v5:Bool:=decide (2<=i64.wrap (J-k1))
iT v5 (∃(I4:oH)(M4:oJ),I4 (i64.wrap (k1+1)) m1/\∀F s1,I4 F s1->iD (F<J) (iS F w0.length (iS F s1.length ((0<=i64.wrap (F-1)/\i64.wrap (F-1)<(w0.length:Int))/\(0<=i64.wrap (F-1)/\i64.wrap (F-1)<(s1.length:Int))/\let r6:Bool:=decide (ix s1 F<ix s1 (i64.wrap (F-1)))
iT (!r6) (ss3 I1 M1 b1 k1 f1 (i64.wrap (f1+1)) M s1) ((0<=i64.wrap (F-1)/\i64.wrap (F-1)<(w0.length:Int))/\(0<=i64.wrap (F-1)/\i64.wrap (F-1)<(s1.length:Int))/\iS F w0.length (iS F s1.length (iS F w0.length (iS F s1.length ((0<=i64.wrap (F-1)/\i64.wrap (F-1)<(w0.length:Int))/\(0<=i64.wrap (F-1)/\i64.wrap (F-1)<((s1.set F.toNat (ix s1 (i64.wrap (F-1)))).length:Int))/\ss2 I4 M4 F (i64.wrap (F+1)) s1 ((s1.set F.toNat (ix s1 (i64.wrap (F-1)))).set (i64.wrap (F-1)).toNat (ix s1 F)))))))))) (ss3 I1 M1 b1 k1 f1 (i64.wrap (f1+1)) M s1)) (ss3 I1 M1 b1 k1 f1 (i64.wrap (f1+1)) M m1))->J2 m1)->let v3:Bool:=decide (2<=i64.wrap (k1-U))
iT v3 (∃(I3:oH)(M3:oJ),I3 (i64.wrap (k1-1)) ((M.set k1.toNat (ix M (i64.wrap (k1-1)))).set (i64.wrap (k1-1)).toNat (ix M k1))/\∀n1 o1,I3 n1 o1->iD (1<=n1) (iS n1 w0.length (iS n1 o1.length ((0<=i64.wrap (n1-1)/\i64.wrap (n1-1)<(w0.length:Int))/\(0<=i64.wrap (n1-1)/\i64.wrap (n1-1)<(o1.length:Int))/\let r4:Bool:=decide (ix o1 n1<ix o1 (i64.wrap (n1-1)))
iT (!r4) (J2 o1) ((0<=i64.wrap (n1-1)/\i64.wrap (n1-1)<(w0.length:Int))/\(0<=i64.wrap (n1-1)/\i64.wrap (n1-1)<(o1.length:Int))/\iS n1 w0.length (iS n1 o1.length (iS n1 w0.length (iS n1 o1.length ((0<=i64.wrap (n1-1)/\i64.wrap (n1-1)<(w0.length:Int))/\(0<=i64.wrap (n1-1)/\i64.wrap (n1-1)<((o1.set n1.toNat (ix o1 (i64.wrap (n1-1)))).length:Int))/\ss2 I3 M3 n1 (i64.wrap (n1-1)) o1 ((o1.set n1.toNat (ix o1 (i64.wrap (n1-1)))).set (i64.wrap (n1-1)).toNat (ix o1 n1)))))))))) (J2 o1)) (J2 ((M.set k1.toNat (ix M (i64.wrap (k1-1)))).set (i64.wrap (k1-1)).toNat (ix M k1)))))))))->J1 k1)->∃(I2:oD)(M2:oG),I2 b1/\∀l1,I2 l1->iD (l1<J) (iS l1 w0.length (iS l1 M.length ((0<=i64.wrap (l1-1)/\i64.wrap (l1-1)<(w0.length:Int))/\(0<=i64.wrap (l1-1)/\i64.wrap (l1-1)<(M.length:Int))/\let r1:Bool:=decide (ix M l1<ix M (i64.wrap (l1-1)))
iT (!r1) (ss1 I2 M2 l1 (i64.wrap (l1+1))) (J1 l1)))) (J1 l1)) (false=R.2/\M=R.1.toList))<|by
 rintro U J w0 h R hR;obtain⟨⟨h1,h2,h3⟩,h4⟩:=h;rw[wi (U+1) qqo qqo];have ab:R=Sort.partialIns Sort.ltInt U.toNat J.toNat 5 (U.toNat+1) w0.toArray:=hR.symm;clear hR;refine⟨λi X g=>(U<i/\i<=J)/\(0<=X/\X<=5)/\g.length=w0.length/\R=Sort.partialIns Sort.ltInt U.toNat J.toNat (5-X).toNat i.toNat g.toArray,λ_ X _=>(5-X).toNat,⟨⟨by omega,by omega⟩,⟨by omega,by omega⟩,rfl,by rw[ab,show(U+1).toNat=U.toNat+1 by omega];rfl⟩,?_⟩;clear ab;rintro i X g⟨⟨i0,M⟩,⟨j0,j1⟩,Y,Z⟩;refine⟨λhh J1 ad=>?_,λhh=>?_⟩
 .have hh:=qc hh;rw[show(5-X).toNat=(5-(X+1)).toNat+1 by omega,Sort.partialIns_succ]at Z;have wj:=wi (X+1) qqo qqo;have aa:∀(B:Int)(g':Li),U<B/\B<=J->g'.length=w0.length->R=Sort.partialIns Sort.ltInt U.toNat J.toNat (5-(X+1)).toNat B.toNat g'.toArray->((U<B/\B<=J)/\(0<=i64.wrap (X+1)/\i64.wrap (X+1)<=5)/\g'.length=w0.length/\R=Sort.partialIns Sort.ltInt U.toNat J.toNat (5-i64.wrap (X+1)).toNat B.toNat g'.toArray)/\(5-i64.wrap (X+1)).toNat<(5-X).toNat:=by intro B g' F q2 q3;rw[wj];exact⟨⟨F,⟨by omega,by omega⟩,q2,q3⟩,by omega⟩
  have ac:∀B:Int,U<B/\B<=J->Sort.scanSorted Sort.ltInt g.toArray J.toNat i.toNat=B.toNat->J1 B:=by
   intro B⟨q0,F⟩q2;rw[q2]at Z;refine ad _ ?_;rw[wi (J-U) qqo qqo,wi (B-1) qqo qqo,wi (B-U) qqo qqo];refine⟨λe=>?_,λe=>⟨λe2=>?_,λe2=>?_⟩⟩
   .have e:B=J:=by simpa using e
    rw[qg qqo]at Z;rw[Z];exact⟨rfl,rfl⟩
   .have e:¬B=J:=by simpa using e
    have e2:=qc e2;rw[qe qqo,qg qqo]at Z;rw[Z];exact⟨rfl,rfl⟩
   .have e:¬B=J:=by simpa using e
    have e2:=qd e2;rw[qe qqo,qe qqo]at Z;have hs:=swp_arr (g:=g) (i:=B) (j:=B-1) qqo qqo qqo qqo;rw[show B.toNat-1=(B-1).toNat by omega,hs]at Z;have sl:(swpL g B (B-1)).length=w0.length:=by rw[k9d];exact Y
    refine⟨⟨by omega,by omega⟩,⟨by omega,by omega⟩,⟨by omega,by omega⟩,⟨by omega,by omega⟩,⟨by omega,by omega⟩,⟨by omega,by omega⟩,⟨by omega,by omega⟩,⟨by omega,by rw[qab];omega⟩,λJ2 ae=>?_⟩;have j2:∀g':Li,g'.length=w0.length->R=Sort.partialIns Sort.ltInt U.toNat J.toNat (5-(X+1)).toNat B.toNat (Sort.fixUp Sort.ltInt J.toNat B.toNat g'.toArray)->J2 g':=by
     intro g' q2 q3;refine ae _ ?_;rw[wi (J-B) qqo qqo,wi (B+1) qqo qqo];refine⟨λe=>?_,λe=>aa _ _ ⟨q0,by omega⟩ q2 ?_⟩
     .have e:=qc e;unfold Sort.fixUp at q3;rw[qg qqo,show B.toNat+1=(B+1).toNat by omega]at q3;refine⟨λk Y=>(B+1<=k/\k<=J)/\Y.length=w0.length/\Sort.shiftUp Sort.ltInt J.toNat k.toNat Y.toArray=Sort.shiftUp Sort.ltInt J.toNat (B+1).toNat g'.toArray,λk _=>(J-k).toNat,⟨⟨by omega,by omega⟩,q2,rfl⟩,?_⟩;rintro k Y⟨⟨k0,k1⟩,k2,k3⟩;refine⟨λc=>?_,λc=>?_⟩
      .have c:=qc c;rw[wi (k-1) qqo qqo,wi (k+1) qqo qqo];rw[kso qqo c qqo]at k3;refine⟨⟨by omega,by omega⟩,⟨by omega,by omega⟩,⟨by omega,by omega⟩,⟨by omega,by omega⟩,λd=>?_,λd=>?_⟩
       .have d:¬ix Y k<ix Y (k-1):=by simpa using d
        rw[qe d]at k3;exact aa _ _ ⟨q0,by omega⟩ k2 (by rw[q3,<-k3])
       .have d:ix Y k<ix Y (k-1):=by simpa using d
        rw[qg d]at k3;exact⟨⟨by omega,by omega⟩,⟨by omega,by omega⟩,⟨by omega,by omega⟩,⟨by omega,by omega⟩,⟨by omega,by omega⟩,⟨by omega,by omega⟩,⟨by omega,by omega⟩,⟨by omega,by rw[qab];omega⟩,⟨⟨by omega,by omega⟩,by rw[qab,qab];exact k2,k3⟩,by(dsimp only;omega)⟩
      .have c:=qd c;rw[krj qqo c]at k3;exact aa _ _ ⟨q0,by omega⟩ k2 (by rw[q3,<-k3])
     .have e:=qd e;unfold Sort.fixUp at q3;rw[qe qqo]at q3;exact q3
    refine⟨λe3=>?_,λe3=>?_⟩
    .have e3:=qc e3;unfold Sort.fixDown at Z;rw[qg qqo,show B.toNat-1=(B-1).toNat by omega]at Z;refine⟨λk Y=>(0<=k/\k<J)/\Y.length=w0.length/\Sort.shiftDown Sort.ltInt k.toNat Y.toArray=Sort.shiftDown Sort.ltInt (B-1).toNat (swpL g B (B-1)).toArray,λk _=>k.toNat,⟨⟨by omega,by omega⟩,sl,rfl⟩,?_⟩;rintro k Y⟨⟨k0,k1⟩,k2,k3⟩;refine⟨λc=>?_,λc=>?_⟩
     .have c:=qc c;rw[wi (k-1) qqo qqo];rw[kov c qqo]at k3;refine⟨⟨by omega,by omega⟩,⟨by omega,by omega⟩,⟨by omega,by omega⟩,⟨by omega,by omega⟩,λd=>?_,λd=>?_⟩
      .have d:¬ix Y k<ix Y (k-1):=by simpa using d
       rw[qe d]at k3;exact j2 _ k2 (by rw[Z,k3])
      .have d:ix Y k<ix Y (k-1):=by simpa using d
       rw[qg d]at k3;exact⟨⟨by omega,by omega⟩,⟨by omega,by omega⟩,⟨by omega,by omega⟩,⟨by omega,by omega⟩,⟨by omega,by omega⟩,⟨by omega,by omega⟩,⟨by omega,by omega⟩,⟨by omega,by rw[qab];omega⟩,⟨⟨by omega,by omega⟩,by rw[qab,qab];exact k2,k3⟩,by(dsimp only;omega)⟩
     .have c:=qd c;rw[km9 c]at k3;exact j2 _ k2 (by rw[Z,k3])
    .have e3:=qd e3;unfold Sort.fixDown at Z;rw[qe qqo]at Z;exact j2 _ sl Z
  refine⟨λB=>(U<B/\B<=J)/\Sort.scanSorted Sort.ltInt g.toArray J.toNat B.toNat=Sort.scanSorted Sort.ltInt g.toArray J.toNat i.toNat,λB=>(J-B).toNat,⟨⟨i0,M⟩,rfl⟩,?_⟩;rintro B⟨⟨q0,F⟩,q2⟩;refine⟨λc=>?_,λc=>?_⟩
  .have c:=qc c;rw[kl7 qqo c qqo]at q2;rw[wi (B-1) qqo qqo,wi (B+1) qqo qqo];refine⟨⟨by omega,by omega⟩,⟨by omega,by omega⟩,⟨by omega,by omega⟩,⟨by omega,by omega⟩,λd=>⟨⟨⟨by omega,by omega⟩,?_⟩,by(dsimp only;omega)⟩,λd=>ac _ ⟨q0,F⟩ ?_⟩
   .have d:¬ix g B<ix g (B-1):=by simpa using d
    rw[qe d]at q2;exact q2
   .have d:ix g B<ix g (B-1):=by simpa using d
    rw[qg d]at q2;exact q2.symm
  .have c:=qd c;rw[kj5 qqo c]at q2;exact ac _ ⟨q0,F⟩ q2.symm
 .have hh:=qd hh;rw[show(5-X).toNat=0 by omega]at Z;rw[Z];exact⟨rfl,rfl⟩
def k35:Ct:=.g (gk 268 [oh,oa,oa,oa] [.vec yqu] (.one oa)) yM1 [yqi,oq] [] λ(B F J:Int)(w0:Li)=>((0<=B/\B<=J/\J<F/\F<=w0.length)/\w0.length<=1099511627776,((peqS w0 B F J).1:Int),(peqS w0 B F J).2.toList,())
set_option maxHeartbeats 1000000 in
theorem k3h:k35.O:=prv Bs Tryz.func268 (rA 2 (.lp [] ⟨[0],[.vec yqu],[9,10],[oa,oa],[]⟩ (.jn (oB [9] [oa]) [] (.lp [] (oB [9] [oa]) .no) [] (.jn (oB [10] [oa]) [] (.lp [] (oB [10] [oa]) .no) [] .no)))) (k1w.c c0) (Q:=∀(B X U:Int)(w0:Li),(0<=B/\B<=U/\U<X/\X<=w0.length)/\w0.length<=1099511627776->∀r0:Int,((peqS w0 B X U).1:Int)=r0->∀e0:Li,(peqS w0 B X U).2.toList=e0->iS U w0.length (iS U w0.length (iS B w0.length (iS B w0.length (iS B w0.length (iS B w0.length (iS U w0.length (iS U (w0.set B.toNat (ix w0 U)).length (∃(I1:oK)(M1:oO),I1 (i64.wrap (B+1)) (i64.wrap (X-1)) ((w0.set B.toNat (ix w0 U)).set U.toNat (ix w0 B))/\∀b1 f1 M,I1 b1 f1 M->∀J1:oD,(∀(k1:Int),(∀J2:oD,(∀(Y:Int),iD (Y<k1) (k1=r0/\M=e0) (iS Y w0.length (iS Y M.length (iS k1 w0.length (iS k1 M.length (iS k1 w0.length (iS k1 M.length (iS Y w0.length (iS Y (M.set k1.toNat (ix M Y)).length (ss3 I1 M1 b1 (i64.wrap (k1+1)) f1 (i64.wrap (Y-1)) M ((M.set k1.toNat (ix M Y)).set Y.toNat (ix M k1)))))))))))->J2 Y)->∃(I3:oD)(M3:oG),I3 f1/\∀n1,I3 n1->iD (k1<=n1) (iS B w0.length (iS B M.length (iS n1 w0.length (iS n1 M.length (iT (decide (ix M B<ix M n1)) (ss1 I3 M3 n1 (i64.wrap (n1-1))) (J2 n1)))))) (J2 n1))->J1 k1)->∃(I2:oD)(M2:oG),I2 b1/\∀l1,I2 l1->iD (l1<=f1) (iS B w0.length (iS B M.length (iS l1 w0.length (iS l1 M.length (iT (! decide (ix M B<ix M l1)) (ss1 I2 M2 l1 (i64.wrap (l1+1))) (J1 l1)))))) (J1 l1))))))))))<|by
 rintro B X U w0 h _ rfl _ rfl;obtain⟨⟨h1,h2,h3,h4⟩,h5⟩:=h;have hs0:=swp_arr (g:=w0) (i:=B) (j:=U) qqo qqo qqo qqo;have Z:peqS w0 B X U=Sort.partEqLoop Sort.ltInt B.toNat (B.toNat+1) (X.toNat-1) (Sort.swp w0.toArray B.toNat U.toNat):=rfl;rw[hs0]at Z;refine⟨⟨by omega,by omega⟩,⟨by omega,by omega⟩,⟨by omega,by omega⟩,⟨by omega,by omega⟩,⟨by omega,by omega⟩,⟨by omega,by omega⟩,⟨by omega,by omega⟩,⟨by omega,by rw[qab];omega⟩,?_⟩;rw[wi (B+1) qqo qqo,wi (X-1) qqo qqo];generalize peqS w0 B X U=R at*;refine⟨λi j g=>(B<i/\i<=j+1/\j<X)/\g.length=w0.length/\R=Sort.partEqLoop Sort.ltInt B.toNat i.toNat j.toNat g.toArray,λi j _=>(j+1-i).toNat,⟨⟨by omega,by omega,by omega⟩,by rw[qab,qab],by rw[Z,show(B+1).toNat=B.toNat+1 by omega,show(X-1).toNat=X.toNat-1 by omega]⟩,?_⟩;clear Z hs0;rintro i j g⟨⟨i0,M,i2⟩,g2,g3⟩J1 ac;rw[Sort.partEqLoop_eq]at g3;have xa:=arr_ix (g:=g) (i:=B) qqo qqo;rw[xa]at g3;have aa:∀F:Int,i<=F/\F<=j+1->Sort.scanUp (λx=>!Sort.ltInt (ix g B) x) g.toArray j.toNat i.toNat=F.toNat->(F<=j->ix g B<ix g F)->J1 F:=by
  intro F⟨q0,q1⟩e1 e2;refine ac _ λJ2 ad=>?_;have ab:∀J:Int,F-1<=J/\J<=j->Sort.scanDown (λx=>Sort.ltInt (ix g B) x) g.toArray F.toNat j.toNat=J.toNat->(F<=J->F<J)->J2 J:=by
   intro J⟨q2,q3⟩e4 e3;rw[e1,e4]at g3;refine ad _ ⟨λc=>?_,λc=>?_⟩;.have c:=qc c;rw[qg qqo]at g3;rw[g3];exact⟨(Int.toNat_of_nonneg qqo).symm,rfl⟩
   .have c:=qd c;have hs:=swp_arr (g:=g) (i:=F) (j:=J) qqo qqo qqo qqo;rw[qe qqo,hs,show F.toNat+1=(F+1).toNat by omega,show J.toNat-1=(J-1).toNat by omega]at g3;have w1:=wi (F+1) qqo qqo;have w2:=wi (J-1) qqo qqo;have e4:=e3 qqo;rw[w1,w2];exact⟨⟨by omega,by omega⟩,⟨by omega,by omega⟩,⟨by omega,by omega⟩,⟨by omega,by omega⟩,⟨by omega,by omega⟩,⟨by omega,by omega⟩,⟨by omega,by omega⟩,⟨by omega,by rw[qab];omega⟩,⟨⟨by omega,by omega,by omega⟩,by rw[qab,qab];exact g2,g3⟩,by(dsimp only;omega)⟩
  refine⟨λJ=>(F-1<=J/\J<=j)/\Sort.scanDown (λx=>Sort.ltInt (ix g B) x) g.toArray F.toNat J.toNat=Sort.scanDown (λx=>Sort.ltInt (ix g B) x) g.toArray F.toNat j.toNat,λJ=>(J+1).toNat,⟨⟨by omega,by omega⟩,rfl⟩,?_⟩;rintro J⟨⟨k0,k1⟩,k2⟩;refine⟨λc=>?_,λc=>?_⟩
  .have c:=qc c;have xj:=arr_ix (g:=g) (i:=J) qqo qqo;rw[k76 qqo c,xj,ltI_iff]at k2;rw[wi (J-1) qqo qqo];refine⟨⟨by omega,by omega⟩,⟨by omega,by omega⟩,⟨by omega,by omega⟩,⟨by omega,by omega⟩,λd=>⟨⟨⟨by omega,by omega⟩,?_⟩,by(dsimp only;omega)⟩,λd=>?_⟩;.rw[qg d]at k2;exact k2
   .rw[qe (by rw[d];decide)]at k2;refine ab J ⟨k0,k1⟩ k2.symm λe=>?_;have:=e2 qqo;have d:=qd d;by_cases ae:F=J;.subst ae;exact absurd this d
    .omega
  .have c:=qd c;rw[k6d qqo c]at k2;exact ab J ⟨k0,k1⟩ k2.symm λe=>absurd e c
 refine⟨λF=>(i<=F/\F<=j+1)/\Sort.scanUp (λx=>!Sort.ltInt (ix g B) x) g.toArray j.toNat F.toNat=Sort.scanUp (λx=>!Sort.ltInt (ix g B) x) g.toArray j.toNat i.toNat,λF=>(j+2-F).toNat,⟨⟨by omega,by omega⟩,rfl⟩,?_⟩;rintro F⟨⟨k0,k1⟩,k2⟩;refine⟨λc=>?_,λc=>?_⟩
 .have c:=qc c;have xj:=arr_ix (g:=g) (i:=F) qqo qqo;rw[kao qqo c,xj,ltI_iff]at k2;rw[wi (F+1) qqo qqo];refine⟨⟨by omega,by omega⟩,⟨by omega,by omega⟩,⟨by omega,by omega⟩,⟨by omega,by omega⟩,λd=>⟨⟨⟨by omega,by omega⟩,?_⟩,by(dsimp only;omega)⟩,λd=>?_⟩;.rw[qg d]at k2;exact k2
  .rw[qe (by rw[d];decide)]at k2;exact aa F ⟨k0,k1⟩ k2.symm λ_=>by simpa using d
 .have c:=qd c;rw[k92 qqo c]at k2;exact aa F ⟨k0,k1⟩ k2.symm λe=>absurd e c
def k4o:Ct:=.b (gk 269 [oh,oa,oa,oa] [.vec yqu] (.tup [oa,oc])) yM1 [yqi,.bool,oq] λ(B F J:Int)(w0:Li)=>((0<=B/\B<=J/\J<F/\F<=w0.length)/\w0.length<=1099511627776,partS w0 B F J,λR=>(((partS w0 B F J).1:Int),R.2.1,R.2.2.toList,()))
set_option maxHeartbeats 1000000 in
theorem k4s:k4o.O:=pbv Bs Tryz.func269 (.r 2 (.jn (oB [10] [oa]) [] (.lp [] (oB [10] [oa]) .no) [] (.jn (oB [11] [oa]) [] (.lp [] (oB [11] [oa]) .no) [] (rA 3 (.lp [] ⟨[0],[.vec yqu],[10,11],[oa,oa],[]⟩ (.jn (oB [10] [oa]) [] (.lp [] (oB [10] [oa]) .no) [] (.jn (oB [11] [oa]) [] (.lp [] (oB [11] [oa]) .no) [] .no))))))) (k1w.c c0) (Q:=∀(B U F:Int)(w0:Li),(0<=B/\B<=F/\F<U/\U<=w0.length)/\w0.length<=1099511627776->∀R,partS w0 B U F=R->iS F w0.length (iS F w0.length (iS B w0.length (iS B w0.length (iS B w0.length (iS B w0.length (iS F w0.length (iS F (w0.set B.toNat (ix w0 F)).length (∀J1:oD,(∀(b1:Int),(∀J2:oD,(∀(Y:Int),iD (Y<b1) (iS B w0.length ((0<=B/\B<(((w0.set B.toNat (ix w0 F)).set F.toNat (ix w0 B)).length:Int))/\let v7:Int:=ix ((w0.set B.toNat (ix w0 F)).set F.toNat (ix w0 B)) B
iS Y w0.length ((0<=Y/\Y<(((w0.set B.toNat (ix w0 F)).set F.toNat (ix w0 B)).length:Int))/\let v8:Int:=ix ((w0.set B.toNat (ix w0 F)).set F.toNat (ix w0 B)) Y
iS Y w0.length ((0<=Y/\Y<(((w0.set B.toNat (ix w0 F)).set F.toNat (ix w0 B)).length:Int))/\iS B w0.length ((0<=B/\B<((((w0.set B.toNat (ix w0 F)).set F.toNat (ix w0 B)).set Y.toNat v7).length:Int))/\Y=((partS w0 B U F).1:Int)/\true=R.2.1/\(((w0.set B.toNat (ix w0 F)).set F.toNat (ix w0 B)).set Y.toNat v7).set B.toNat v8=R.2.2.toList))))) (iS Y w0.length ((0<=Y/\Y<(((w0.set B.toNat (ix w0 F)).set F.toNat (ix w0 B)).length:Int))/\let v9:Int:=ix ((w0.set B.toNat (ix w0 F)).set F.toNat (ix w0 B)) Y
iS b1 w0.length ((0<=b1/\b1<(((w0.set B.toNat (ix w0 F)).set F.toNat (ix w0 B)).length:Int))/\let ag:Int:=ix ((w0.set B.toNat (ix w0 F)).set F.toNat (ix w0 B)) b1
iS b1 w0.length ((0<=b1/\b1<(((w0.set B.toNat (ix w0 F)).set F.toNat (ix w0 B)).length:Int))/\iS Y w0.length ((0<=Y/\Y<((((w0.set B.toNat (ix w0 F)).set F.toNat (ix w0 B)).set b1.toNat v9).length:Int))/\∃(I3:oK)(M3:oO),I3 (i64.wrap (b1+1)) (i64.wrap (Y-1)) ((((w0.set B.toNat (ix w0 F)).set F.toNat (ix w0 B)).set b1.toNat v9).set Y.toNat ag)/\∀l1 m1 n1,I3 l1 m1 n1->∀J3:oD,(∀(o1:Int),(∀J4:oD,(∀(Z:Int),iD (Z<o1) (iS B w0.length (iS B n1.length (iS Z w0.length (iS Z n1.length (iS Z w0.length (iS Z n1.length (iS B w0.length (iS B (n1.set Z.toNat (ix n1 B)).length (Z=((partS w0 B U F).1:Int)/\false=R.2.1/\(n1.set Z.toNat (ix n1 B)).set B.toNat (ix n1 Z)=R.2.2.toList))))))))) (iS Z w0.length (iS Z n1.length (iS o1 w0.length (iS o1 n1.length (iS o1 w0.length (iS o1 n1.length (iS Z w0.length (iS Z (n1.set o1.toNat (ix n1 Z)).length (ss3 I3 M3 l1 (i64.wrap (o1+1)) m1 (i64.wrap (Z-1)) n1 ((n1.set o1.toNat (ix n1 Z)).set Z.toNat (ix n1 o1)))))))))))->J4 Z)->∃(I5:oD)(M5:oG),I5 m1/\∀t1,I5 t1->iD (o1<=t1) (iS t1 w0.length (iS t1 n1.length (iS B w0.length (iS B n1.length (iT (! decide (ix n1 t1<ix n1 B)) (ss1 I5 M5 t1 (i64.wrap (t1-1))) (J4 t1)))))) (J4 t1))->J3 o1)->∃(I4:oD)(M4:oG),I4 l1/\∀q1,I4 q1->iD (q1<=m1) (iS q1 w0.length (iS q1 n1.length (iS B w0.length (iS B n1.length (iT (decide (ix n1 q1<ix n1 B)) (ss1 I4 M4 q1 (i64.wrap (q1+1))) (J3 q1)))))) (J3 q1))))))->J2 Y)->∃(I2:oD)(M2:oG),I2 (i64.wrap (U-1))/\∀k1,I2 k1->iD (b1<=k1) (iS k1 w0.length ((0<=k1/\k1<(((w0.set B.toNat (ix w0 F)).set F.toNat (ix w0 B)).length:Int))/\let v5:Int:=ix ((w0.set B.toNat (ix w0 F)).set F.toNat (ix w0 B)) k1
iS B w0.length ((0<=B/\B<(((w0.set B.toNat (ix w0 F)).set F.toNat (ix w0 B)).length:Int))/\let v6:Int:=ix ((w0.set B.toNat (ix w0 F)).set F.toNat (ix w0 B)) B
iT (! decide (v5<v6)) (ss1 I2 M2 k1 (i64.wrap (k1-1))) (J2 k1)))) (J2 k1))->J1 b1)->∃(I1:oD)(M1:oG),I1 (i64.wrap (B+1))/\∀f1,I1 f1->let v2:Bool:=decide (f1<=i64.wrap (U-1))
iT v2 (iS f1 w0.length ((0<=f1/\f1<(((w0.set B.toNat (ix w0 F)).set F.toNat (ix w0 B)).length:Int))/\let v3:Int:=ix ((w0.set B.toNat (ix w0 F)).set F.toNat (ix w0 B)) f1
iS B w0.length ((0<=B/\B<(((w0.set B.toNat (ix w0 F)).set F.toNat (ix w0 B)).length:Int))/\let v4:Int:=ix ((w0.set B.toNat (ix w0 F)).set F.toNat (ix w0 B)) B
iT (decide (v3<v4)) (ss1 I1 M1 f1 (i64.wrap (f1+1))) (J1 f1)))) (J1 f1))))))))))<|by
 rintro B U F w0 h R hR;subst hR;obtain⟨⟨h1,h2,h3,h4⟩,h5⟩:=h;have hs0:=swp_arr (g:=w0) (i:=B) (j:=F) qqo qqo qqo qqo;have X:partS w0 B U F=Sort.partition Sort.ltInt w0.toArray B.toNat U.toNat F.toNat:=rfl;unfold Sort.partition at X;dsimp only at X;rw[hs0]at X;have ah:(swpL w0 B F).length=w0.length:=k9d;refine⟨⟨by omega,by omega⟩,⟨by omega,by omega⟩,⟨by omega,by omega⟩,⟨by omega,by omega⟩,⟨by omega,by omega⟩,⟨by omega,by omega⟩,⟨by omega,by omega⟩,⟨by omega,by rw[qab];omega⟩,?_⟩;rw[wi (B+1) qqo qqo,wi (U-1) qqo qqo,show(w0.set B.toNat (ix w0 F)).set F.toNat (ix w0 B)=swpL w0 B F from rfl];generalize partS w0 B U F=R at*;generalize swpL w0 B F=gs at*;rw[show U.toNat-1=(U-1).toNat by omega,show B.toNat+1=(B+1).toNat by omega,arr_ix (g:=gs) (i:=B) qqo qqo]at X;clear hs0;intro J1 ai;have ab:∀J:Int,B+1<=J/\J<=U->Sort.scanUp (λx=>Sort.ltInt x (ix gs B)) gs.toArray (U-1).toNat (B+1).toNat=J.toNat->(J<=U-1->¬ix gs J<ix gs B)->J1 J:=by
  intro J⟨q0,q1⟩e1 e2;refine ai _ λJ2 aj=>?_;have ac:∀M:Int,J-1<=M/\M<=U-1->Sort.scanDown (λx=>!Sort.ltInt x (ix gs B)) gs.toArray J.toNat (U-1).toNat=M.toNat->(J<=M->J<M)->J2 M:=by
   intro M⟨q2,q3⟩e4 e3;rw[e1,e4]at X;refine aj _ ⟨λc=>?_,λc=>?_⟩;.have c:=qc c;rw[qg qqo]at X;have hs:=swp_arr (g:=gs) (i:=M) (j:=B) qqo qqo qqo qqo;rw[hs]at X;rw[X];exact⟨⟨by omega,by omega⟩,⟨by omega,by omega⟩,⟨by omega,by omega⟩,⟨by omega,by omega⟩,⟨by omega,by omega⟩,⟨by omega,by omega⟩,⟨by omega,by omega⟩,⟨by omega,by rw[qab];omega⟩,(Int.toNat_of_nonneg qqo).symm,rfl,rfl⟩
   .have c:=qd c;have hs:=swp_arr (g:=gs) (i:=J) (j:=M) qqo qqo qqo qqo;rw[qe qqo,hs,show J.toNat+1=(J+1).toNat by omega,show M.toNat-1=(M-1).toNat by omega]at X;have e5:=e3 qqo;rw[wi (J+1) qqo qqo,wi (M-1) qqo qqo];refine⟨⟨by omega,by omega⟩,⟨by omega,by omega⟩,⟨by omega,by omega⟩,⟨by omega,by omega⟩,⟨by omega,by omega⟩,⟨by omega,by omega⟩,⟨by omega,by omega⟩,⟨by omega,by rw[qab];omega⟩,λi j g=>(B<i/\i<=j+1/\j<U)/\g.length=w0.length/\R=((Sort.partLoop Sort.ltInt B.toNat i.toNat j.toNat g.toArray).1,false,Sort.swp (Sort.partLoop Sort.ltInt B.toNat i.toNat j.toNat g.toArray).2 (Sort.partLoop Sort.ltInt B.toNat i.toNat j.toNat g.toArray).1 B.toNat),λi j _=>(j+1-i).toNat,⟨⟨by omega,by omega,by omega⟩,by rw[qab,qab];exact ah,X⟩,?_⟩;clear X hs e1 e4;rintro i j g⟨⟨i0,Y,i2⟩,g2,g3⟩J3 ak;rw[Sort.partLoop_eq]at g3;have xa:=arr_ix (g:=g) (i:=B) qqo qqo;rw[xa]at g3;have ad:∀J:Int,i<=J/\J<=j+1->Sort.scanUp (λx=>Sort.ltInt x (ix g B)) g.toArray j.toNat i.toNat=J.toNat->(J<=j->¬ix g J<ix g B)->J3 J:=by
     intro J⟨q0,q1⟩e1 e2;refine ak _ λJ4 al=>?_;have ae:∀M:Int,J-1<=M/\M<=j->Sort.scanDown (λx=>!Sort.ltInt x (ix g B)) g.toArray J.toNat j.toNat=M.toNat->(J<=M->J<M)->J4 M:=by
      intro M⟨q2,q3⟩e4 e3;rw[e1,e4]at g3;refine al _ ⟨λc=>?_,λc=>?_⟩;.have c:=qc c;rw[qg qqo]at g3;have hs:=swp_arr (g:=g) (i:=M) (j:=B) qqo qqo qqo qqo;dsimp only at g3;rw[hs]at g3;rw[g3];exact⟨⟨by omega,by omega⟩,⟨by omega,by omega⟩,⟨by omega,by omega⟩,⟨by omega,by omega⟩,⟨by omega,by omega⟩,⟨by omega,by omega⟩,⟨by omega,by omega⟩,⟨by omega,by rw[qab];omega⟩,(Int.toNat_of_nonneg qqo).symm,rfl,rfl⟩
      .have c:=qd c;have hs:=swp_arr (g:=g) (i:=J) (j:=M) qqo qqo qqo qqo;rw[qe qqo,hs,show J.toNat+1=(J+1).toNat by omega,show M.toNat-1=(M-1).toNat by omega]at g3;have w1:=wi (J+1) qqo qqo;have w2:=wi (M-1) qqo qqo;have e4:=e3 qqo;rw[w1,w2];exact⟨⟨by omega,by omega⟩,⟨by omega,by omega⟩,⟨by omega,by omega⟩,⟨by omega,by omega⟩,⟨by omega,by omega⟩,⟨by omega,by omega⟩,⟨by omega,by omega⟩,⟨by omega,by rw[qab];omega⟩,⟨⟨by omega,by omega,by omega⟩,by rw[qab,qab];exact g2,g3⟩,by(dsimp only;omega)⟩
     refine⟨λM=>(J-1<=M/\M<=j)/\Sort.scanDown (λx=>!Sort.ltInt x (ix g B)) g.toArray J.toNat M.toNat=Sort.scanDown (λx=>!Sort.ltInt x (ix g B)) g.toArray J.toNat j.toNat,λM=>(M+1).toNat,⟨⟨by omega,by omega⟩,rfl⟩,?_⟩;rintro M⟨⟨k0,k1⟩,k2⟩;refine⟨λc=>?_,λc=>?_⟩
     .have c:=qc c;have xj:=arr_ix (g:=g) (i:=M) qqo qqo;rw[k76 qqo c,xj,ltI_iff]at k2;rw[wi (M-1) qqo qqo];refine⟨⟨by omega,by omega⟩,⟨by omega,by omega⟩,⟨by omega,by omega⟩,⟨by omega,by omega⟩,λd=>⟨⟨⟨by omega,by omega⟩,?_⟩,by(dsimp only;omega)⟩,λd=>?_⟩;.rw[qg d]at k2;exact k2
      .rw[qe (by rw[d];decide)]at k2;refine ae M ⟨k0,k1⟩ k2.symm λe=>?_;have:=e2 qqo;have d:ix g M<ix g B:=by simpa using d
       by_cases aa:J=M;.subst aa;exact absurd d this
       .omega
     .have c:=qd c;rw[k6d qqo c]at k2;exact ae M ⟨k0,k1⟩ k2.symm λe=>absurd e c
    refine⟨λJ=>(i<=J/\J<=j+1)/\Sort.scanUp (λx=>Sort.ltInt x (ix g B)) g.toArray j.toNat J.toNat=Sort.scanUp (λx=>Sort.ltInt x (ix g B)) g.toArray j.toNat i.toNat,λJ=>(j+2-J).toNat,⟨⟨by omega,by omega⟩,rfl⟩,?_⟩;rintro J⟨⟨k0,k1⟩,k2⟩;refine⟨λc=>?_,λc=>?_⟩
    .have c:=qc c;have xj:=arr_ix (g:=g) (i:=J) qqo qqo;rw[kao qqo c,xj,ltI_iff]at k2;rw[wi (J+1) qqo qqo];refine⟨⟨by omega,by omega⟩,⟨by omega,by omega⟩,⟨by omega,by omega⟩,⟨by omega,by omega⟩,λd=>⟨⟨⟨by omega,by omega⟩,?_⟩,by(dsimp only;omega)⟩,λd=>?_⟩;.rw[qg d]at k2;exact k2
     .rw[qe (by rw[d];decide)]at k2;exact ad J ⟨k0,k1⟩ k2.symm λ_=>qd d
    .have c:=qd c;rw[k92 qqo c]at k2;exact ad J ⟨k0,k1⟩ k2.symm λe=>absurd e c
  refine⟨λM=>(J-1<=M/\M<=U-1)/\Sort.scanDown (λx=>!Sort.ltInt x (ix gs B)) gs.toArray J.toNat M.toNat=Sort.scanDown (λx=>!Sort.ltInt x (ix gs B)) gs.toArray J.toNat (U-1).toNat,λM=>(M+1).toNat,⟨⟨by omega,by omega⟩,rfl⟩,?_⟩;rintro M⟨⟨k0,k1⟩,k2⟩;refine⟨λc=>?_,λc=>?_⟩
  .have c:=qc c;have xj:=arr_ix (g:=gs) (i:=M) qqo qqo;rw[k76 qqo c,xj,ltI_iff]at k2;rw[wi (M-1) qqo qqo];refine⟨⟨by omega,by omega⟩,⟨by omega,by omega⟩,⟨by omega,by omega⟩,⟨by omega,by omega⟩,λd=>⟨⟨⟨by omega,by omega⟩,?_⟩,by(dsimp only;omega)⟩,λd=>?_⟩;.rw[qg d]at k2;exact k2
   .rw[qe (by rw[d];decide)]at k2;refine ac M ⟨k0,k1⟩ k2.symm λe=>?_;have:=e2 qqo;have d:ix gs M<ix gs B:=by simpa using d
    by_cases aa:J=M;.subst aa;exact absurd d this
    .omega
  .have c:=qd c;rw[k6d qqo c]at k2;exact ac M ⟨k0,k1⟩ k2.symm λe=>absurd e c
 refine⟨λJ=>(B+1<=J/\J<=U)/\Sort.scanUp (λx=>Sort.ltInt x (ix gs B)) gs.toArray (U-1).toNat J.toNat=Sort.scanUp (λx=>Sort.ltInt x (ix gs B)) gs.toArray (U-1).toNat (B+1).toNat,λJ=>(U+2-J).toNat,⟨⟨by omega,by omega⟩,rfl⟩,?_⟩;rintro J⟨⟨k0,k1⟩,k2⟩;refine⟨λc=>?_,λc=>?_⟩
 .have c:=qc c;have xj:=arr_ix (g:=gs) (i:=J) qqo qqo;rw[kao qqo c,xj,ltI_iff]at k2;rw[wi (J+1) qqo qqo];refine⟨⟨by omega,by omega⟩,⟨by omega,by omega⟩,⟨by omega,by omega⟩,⟨by omega,by omega⟩,λd=>⟨⟨⟨by omega,by omega⟩,?_⟩,by(dsimp only;omega)⟩,λd=>?_⟩;.rw[qg d]at k2;exact k2
  .rw[qe (by rw[d];decide)]at k2;exact ab J ⟨k0,k1⟩ k2.symm λ_=>qd d
 .have c:=qd c;rw[k92 qqo c]at k2;exact ab J ⟨k0,k1⟩ k2.symm λe=>absurd e c
def k3l:Ct:=.g (gk 265 [oh,oa,oa] [.vec yqu] (.tup [])) yS1 [oq] [] λ(B F:Int)(w0:Li)=>((0<=B/\B<=F/\F<=w0.length)/\w0.length<=1099511627776,revS w0 B F,())
theorem k3y:k3l.O:=prv Bs Tryz.func265 (.r 1 (.lp [] ⟨[0],[.vec yqu],[6,7],[oa,oa],[]⟩ .no)) c0 (Q:=∀J B w0,(0<=J/\J<=B/\B<=w0.length)/\w0.length<=1099511627776->∀e0,revS w0 J B=e0->∃U Y,U J (i64.wrap (B-1)) w0/\∀b1 f1 i1,U b1 f1 i1->iD (b1<f1) (iS f1 w0.length (iS f1 i1.length (iS b1 w0.length (iS b1 i1.length (iS b1 w0.length (iS b1 i1.length (iS f1 w0.length (iS f1 (i1.set b1.toNat (ix i1 f1)).length (ss3 U Y b1 (i64.wrap (b1+1)) f1 (i64.wrap (f1-1)) i1 ((i1.set b1.toNat (ix i1 f1)).set f1.toNat (ix i1 b1))))))))))) (i1=e0))<|by
 rintro J B w0 h _ rfl;rw[wi (B-1) qqo qqo];refine⟨λi j g=>(0<=i/\-1<=j/\i<=2199023255552/\j<w0.length)/\g.length=w0.length/\revS w0 J B=(Sort.reverseLoop i.toNat j.toNat g.toArray).toList,λi j _=>(j-i).toNat,⟨by omega,rfl,by unfold revS Sort.reverseRange;rw[show(B-1).toNat=B.toNat-1 by omega]⟩,?_⟩;rintro i j g⟨⟨X,g1,g2,g3⟩,Z,M⟩;refine⟨λF=>?_,λF=>?_⟩;.have F:=qc F;rw[kiq X F qqo]at M;rw[wi (i+1) qqo qqo,wi (j-1) qqo qqo];exact⟨by omega,by omega,by omega,by omega,by omega,by omega,by omega,⟨by omega,by rw[qab];omega⟩,⟨by omega,by rw[qab,qab];exact Z,M⟩,by(dsimp only;omega)⟩
 .have F:=qd F;rw[kga X F]at M;rw[M]
def k5h:Ct:=.g (gk 193 [oh,oa,oa,oa] [.vec yqu] (.tup [])) yM1 [oq] [] λ(B F J:Int)(w0:Li)=>((0<=B/\B<=F/\F<=w0.length)/\w0.length<=1099511627776/\Sort.Below Sort.ltInt B.toNat F.toNat w0.toArray,insS w0 B F,())
set_option maxHeartbeats 1000000 in
theorem k6c:k5h.O:=rec_ok (μ:=λ(X Y p3:Int)(w0:Li)=>(Y-X).toNat) (cal Tryz.func193 qqk) λrn hr=>prv Bs Tryz.func193 (.r 1 (.lp [] ⟨[0],[.vec yqu],[1,2,3,8,9],[oa,oa,oa,oc,oc],[]⟩ (.r 2 (.jn ⟨[0],[.vec yqu],[3],[oa],[]⟩ [] .no [] (.r 0 (.jn ⟨[0],[.vec yqu],[11,12],[oa,oa],[]⟩ [] .no [] (.jn ⟨[0],[.vec yqu],[],[],[]⟩ [] (oC 68) [] (nA (oC 87))))))))) (k3w.c (k5c.c (k3s.c (k47.c (k3y.c (k2j.c (k1w.c (k3h.c (k4s.c (hr.c c0)))))))))) (Q:=∀(X Y p3:Int)(w0:Li),((0<=X/\X<=Y/\Y<=w0.length)/\w0.length<=1099511627776/\Sort.Below Sort.ltInt X.toNat Y.toNat w0.toArray)/\(Y-X).toNat<rn+1->∀e0:Li,insS w0 X Y=e0->∃(I1:Int->Int->Int->Bool->Bool->Li->Prop)(M1:Int->Int->Int->Bool->Bool->Li->Nat),I1 X Y p3 true true w0/\∀b1 f1 i1 k1 l1 M,I1 b1 f1 i1 k1 l1 M->let v1:Bool:=decide (i64.wrap (f1-b1)<=12)
iT v1 (w0.length=M.length/\((0<=b1/\b1<=f1/\f1<=M.length)/\M.length<=1099511627776)/\insS M b1 f1=e0) (iT (i1==0) (w0.length=M.length/\((0<=b1/\b1<f1/\f1<=M.length)/\M.length<=1099511627776)/\heapS M b1 f1=e0) (∀J1:oH,(∀(n1:Int)(U:Li),(w0.length=U.length/\((0<=b1/\b1<f1/\f1<=U.length)/\U.length<=1099511627776)/\∀J2:oK,(∀(F s1:Int)(t1:Li),(∀J3:oR,(∀(B:Li),(∀J5:oE,(∀(y1:Bool),iT y1 (w0.length=B.length/\((0<=b1/\b1<=F/\F<f1/\f1<=B.length)/\B.length<=1099511627776)/\I1 ((peqS B b1 f1 F).1:Int) f1 n1 k1 l1 (peqS B b1 f1 F).2.toList/\M1 ((peqS B b1 f1 F).1:Int) f1 n1 k1 l1 (peqS B b1 f1 F).2.toList<M1 b1 f1 i1 k1 l1 M) (w0.length=B.length/\((0<=b1/\b1<=F/\F<f1/\f1<=B.length)/\B.length<=1099511627776)/\let v5:Int:=i64.wrap (((partS B b1 f1 F).1:Int)-b1)
let v6:Int:=i64.wrap (f1-((partS B b1 f1 F).1:Int))
let v7:Int:=i64.wrap (Int.tdiv (i64.wrap (f1-b1)) 8)
iD (v5<v6) (w0.length=((partS B b1 f1 F).2.2.toList).length/\(((0<=b1/\b1<=((partS B b1 f1 F).1:Int)/\((partS B b1 f1 F).1:Int)<=((partS B b1 f1 F).2.2.toList).length)/\((partS B b1 f1 F).2.2.toList).length<=1099511627776/\Sort.Below Sort.ltInt b1.toNat ((partS B b1 f1 F).1:Int).toNat ((partS B b1 f1 F).2.2.toList).toArray)/\(((partS B b1 f1 F).1:Int)-b1).toNat<rn)/\let r8:Li:=insS (partS B b1 f1 F).2.2.toList b1 ((partS B b1 f1 F).1:Int)
let v9:Int:=i64.wrap (((partS B b1 f1 F).1:Int)+1)
I1 v9 f1 n1 (decide (v7<=v5)) (partS B b1 f1 F).2.1 r8/\M1 v9 f1 n1 (decide (v7<=v5)) (partS B b1 f1 F).2.1 r8<M1 b1 f1 i1 k1 l1 M) (let Z:Int:=i64.wrap (((partS B b1 f1 F).1:Int)+1)
w0.length=((partS B b1 f1 F).2.2.toList).length/\(((0<=Z/\Z<=f1/\f1<=((partS B b1 f1 F).2.2.toList).length)/\((partS B b1 f1 F).2.2.toList).length<=1099511627776/\Sort.Below Sort.ltInt Z.toNat f1.toNat ((partS B b1 f1 F).2.2.toList).toArray)/\(f1-Z).toNat<rn)/\let aa:Li:=insS (partS B b1 f1 F).2.2.toList Z f1
I1 b1 ((partS B b1 f1 F).1:Int) n1 (decide (v7<=v6)) (partS B b1 f1 F).2.1 aa/\M1 b1 ((partS B b1 f1 F).1:Int) n1 (decide (v7<=v6)) (partS B b1 f1 F).2.1 aa<M1 b1 f1 i1 k1 l1 M))->J5 y1)->iD (0<b1) ((0<=i64.wrap (b1-1)/\i64.wrap (b1-1)<(w0.length:Int))/\(0<=i64.wrap (b1-1)/\i64.wrap (b1-1)<(B.length:Int))/\iS F w0.length (iS F B.length (let r4:Bool:=decide (ix B (i64.wrap (b1-1))<ix B F)
J5 !r4))) (J5 false))->J3 B)->∀J4:oE,(∀(x1:Bool),iT x1 (w0.length=t1.length/\((0<=b1/\b1<f1/\f1<=t1.length)/\t1.length<=1099511627776)/\iT (pisS t1 b1 f1).2 ((pisS t1 b1 f1).1.toList=e0) (J3 (pisS t1 b1 f1).1.toList)) (J3 t1)->J4 x1)->iT k1 (iT l1 (J4 (s1==1)) (J4 false)) (J4 false))->J2 F s1 t1)->iT (hintN (cpS U b1 f1).2==2) (w0.length=U.length/\((0<=b1/\b1<=f1/\f1<=U.length)/\U.length<=1099511627776)/\let v2:Int:=i64.wrap (((cpS U b1 f1).1:Int)-b1)
let v3:Int:=i64.wrap (i64.wrap (f1-1)-v2)
J2 v3 1 (revS U b1 f1)) (J2 ((cpS U b1 f1).1:Int) (hintN (cpS U b1 f1).2) U))->J1 n1 U)->iT (!k1) (w0.length=M.length/\((0<=b1/\b1<=f1/\f1<=M.length)/\M.length<=1099511627776)/\J1 (i64.wrap (i1-1)) (brkS M b1 f1)) (J1 i1 M))))<|by
 rintro X Y p3 w0⟨h,hm⟩_ rfl;replace hm:=Nat.lt_succ_iff.1 hm;obtain⟨⟨h1,h2,h3⟩,h4,hB⟩:=h;have h0:=PdqI.start h1 h2 h3 hB;have hR:insS w0 X Y=(insS w0 X Y).toArray.toList:=rfl;rw[hR];generalize(insS w0 X Y).toArray=R at*;refine⟨λa b _ _ _ g=>PdqI R w0.length a b g/\(b-a).toNat<=rn,λa b _ _ _ _=>(b-a).toNat,⟨h0,hm⟩,?_⟩;clear h0 hm h1 h2 h3 hB hR;rintro a b l wb wp g⟨J,hb⟩;have a0:=J.a0;have ab:=J.ab;have bl:=J.bl;have gl:=J.n;dsimp only;have w1:=wi (b-a) qqo qqo;refine⟨λe=>⟨by omega,⟨⟨a0,ab,bl⟩,by omega⟩,J.ins⟩,λe=>?_⟩;have e:¬b-a<=12:=by rw[w1]at e;exact qd e
 refine⟨λe2=>⟨by omega,⟨⟨a0,by omega,bl⟩,by omega⟩,J.heap⟩,λe2 J1 k1=>?_⟩;have j1:∀(l:Int)(g:Li),PdqI R w0.length a b g->J1 l g:=by
  intro l g J;have bl:=J.bl;have gl:=J.n;have hc:=cpS_rng (g:=g) (a:=a) (b:=b) a0 qqo;have hr:=J.rev;have rl:=hr.n;refine k1 _ _ ⟨by omega,⟨⟨a0,by omega,bl⟩,by omega⟩,λJ2 k2=>?_⟩;have j2:∀(p h:Int)(g:Li),PdqI R w0.length a b g->a<=p/\p<b->J2 p h g:=by
   intro p h g J hp;have bl:=J.bl;have gl:=J.n;refine k2 _ _ _ λJ3 k3=>?_;have j3:∀g:Li,PdqI R w0.length a b g->J3 g:=by
    intro g J;have bl:=J.bl;have gl:=J.n;refine k3 _ λJ5 k5=>?_;have j5:∀s:Bool,(s=true->0<a/\¬ix g (a-1)<ix g p)->J5 s:=by
     intro s hs;refine k5 _ ⟨λe=>?_,λe=>?_⟩;.obtain⟨s1,s2⟩:=hs e;obtain⟨M,m2,m3⟩:=J.peq s1 hp.1 hp.2 s2;have ml:=m3.n;exact⟨by omega,⟨⟨a0,hp.1,hp.2,bl⟩,by omega⟩,⟨m3,by omega⟩,by omega⟩
     .obtain⟨M,m2,m3,m4,m5,m6,m7⟩:=J.part hp.1 hp.2;have l6:=m6.n;have l7:=m7.n;generalize partS g a b p=P at*;have dl:P.2.2.toList.length=w0.length:=by simpa using m3
      refine⟨by omega,⟨⟨a0,hp.1,hp.2,bl⟩,by omega⟩,?_⟩;have w1:=wi ((P.1:Int)-a) qqo qqo;have w2:=wi (b-(P.1:Int)) qqo qqo;have w3:=wi ((P.1:Int)+1) qqo qqo;rw[w1,w2,w3];refine⟨λc=>⟨by omega,⟨⟨⟨a0,M,by omega⟩,by omega,by simpa using m4⟩,by omega⟩,⟨m6,by omega⟩,by omega⟩,λc=>⟨by omega,⟨⟨⟨by omega,by omega,by omega⟩,by omega,?_⟩,by omega⟩,⟨m7,by omega⟩,by omega⟩⟩;rw[show((P.1:Int)+1).toNat=P.1+1 by omega];simpa using m5
    refine⟨λe=>?_,λe=>j5 _ λh=>by cases h⟩;have e:=qc e;rw[wi (a-1) qqo qqo];refine⟨⟨by omega,by omega⟩,⟨by omega,by omega⟩,⟨by omega,by omega⟩,⟨by omega,by omega⟩,j5 _ λh=>⟨e,?_⟩⟩;simpa using h
   intro J4 k4;have j4:∀x,J4 x:=by intro x;refine k4 x ⟨λe=>?_,λe=>j3 _ J⟩;obtain⟨M,m2⟩:=J.pis qqo;have ml:=M.n;exact⟨by omega,⟨⟨a0,by omega,bl⟩,by omega⟩,λe2=>m2 e2,λe2=>j3 _ M⟩
   exact⟨λe=>⟨λe2=>j4 _,λe2=>j4 _⟩,λe=>j4 _⟩
  refine⟨λe=>⟨by omega,⟨⟨a0,by omega,bl⟩,by omega⟩,?_⟩,λe=>j2 _ _ _ J ⟨hc.1,hc.2⟩⟩;rw[wi (((cpS g a b).1:Int)-a) qqo qqo,wi (b-1) qqo qqo,wi (b-1-(((cpS g a b).1:Int)-a)) qqo qqo];exact j2 _ _ _ hr ⟨by omega,by omega⟩
 refine⟨λe3=>?_,λe3=>j1 _ _ J⟩;have hk:=J.brk;have kl:=hk.n;exact⟨by omega,⟨⟨a0,ab,bl⟩,by omega⟩,j1 _ _ hk⟩
def kgs:Ct:=.g (gk 136 [oh] [.vec yqu] (.tup [])) [oq] [oq] [] λ(w0:Li)=>(w0.length<=1099511627776,srt w0,())
theorem kjf:kgs.O:=prv Bs Tryz.func136 .no (kdm.c (k6c.c c0)) (Q:=∀w0,w0.length<=1099511627776->∀e0,srt w0=e0->U64 (u64.wrap w0.length)/\let B:=len64 (u64.wrap w0.length)
lz w0/\((0<=(0:Int)/\0<=(w0.length:Int)/\(w0.length:Int)<=w0.length)/\w0.length<=1099511627776/\Sort.Below Sort.ltInt (0:Int).toNat (w0.length:Int).toNat w0.toArray)/\insS w0 0 w0.length=e0)<|by rintro w0 h _ rfl;refine⟨by rw[wu _ qqo qqo];omega,?_⟩;refine⟨rfl,⟨by omega,h,Or.inl rfl⟩,?_⟩;exact kv7 w0
def koz:Ct:=.g ⟨88,[oo],yI1,.one (.one (.row 2)),[.cells [.mp 1],.map yqu .bool,.vec yqu],false⟩ [oq,ow] [oq,ow,oq] [] λ(B:Li)(F:Lo)=>(F=trs B/\B.length<=1000000,B,F,srt B,())
theorem kqm:koz.O:=prx Bs [22,23] Tryz.func88 (rA 1 (lA ⟨[3,1],[.it 1 yqu .bool,.map yqu .bool,.vec yqu],[3],[.one (.row 2)],[2]⟩ .no)) x0 (kjf.c c0) (Q:=∀B F,F=trs B/\B.length<=1000000->∀e1k,B=e1k->∀e1v,F=e1v->∀e2,srt B=e2->B.length=F.length/\0<=(0:Int)/\0<=(B.length:Int)/\(B.length:Int).toNat*8<=140737488355328/\(B.length:Int).toNat<=maxLen/\0=(List.replicate 0 0).length/\∃(X:Li->Lo->Li->Lo->Li->Prop)(M1:Li->Lo->Li->Lo->Li->Nat),X B F B F (List.replicate 0 0)/\∀b1 f1 i1 k1 l1,X b1 f1 i1 k1 l1->b1.length=f1.length/\(b1=[]->lz l1/\l1.length<=1099511627776/\l1.length=(srt l1).length/\i1=e1k/\k1=e1v/\srt l1=e2)/\∀j4,j4<b1.length->lz l1/\lz [ix b1 j4]/\(l1.length+[ix b1 j4].length)*8<=140737488355328/\l1.length+[ix b1 j4].length<=maxLen/\lz (l1++[ix b1 j4])/\X (b1.eraseIdx j4) (f1.eraseIdx j4) i1 k1 (l1++[ix b1 j4])/\M1 (b1.eraseIdx j4) (f1.eraseIdx j4) i1 k1 (l1++[ix b1 j4])<M1 b1 f1 i1 k1 l1)<|by
 rintro B F h _ rfl _ rfl _ rfl;obtain⟨h,hl⟩:=h;subst h;have M:B.length=(trs B).length:=by simp[trs]
 refine⟨M,by omega,by omega,by omega,by unfold maxLen;omega,rfl,?_⟩;refine⟨λa b x y g=>(B=x/\trs B=y)/\a.length=b.length/\(g++a).Perm B,λa _ _ _ _=>a.length,⟨⟨rfl,rfl⟩,M,by simp⟩,?_⟩;rintro a b _ _ g⟨⟨rfl,rfl⟩,Y,U⟩;have J:=U.length_eq;rw[qi]at J;refine⟨Y,λe=>?_,λj Z=>?_⟩
 .subst e;rw[qcm]at U;have J:g.length=B.length:=by simpa using J
  exact⟨rfl,by omega,(k8o g).symm,rfl,rfl,ktp U⟩
 .rw[ix_get _ _ Z];have he:=List.length_eraseIdx (l:=a) (i:=j);rw[qg Z]at he;have aa:=List.length_eraseIdx (l:=b) (i:=j);rw[qg qqo]at aa;refine⟨rfl,rfl,?_,?_,rfl,⟨⟨rfl,rfl⟩,by omega,?_⟩,by(dsimp only;omega)⟩;.simp only[qx,qan];omega
  .simp only[qx,qan];unfold maxLen;omega
  .refine List.Perm.trans ?_ U;rw[qn];refine List.Perm.append_left g ?_;exact kg4 Z
def khh:Ct:=.b (gk 54 [oo] yJ (.one oe)) yQ [oq,yqi,yqi,yqi,yqi,yqi,yqu,yqi,yqi,yqu,yqi,yqi,oq,.sl (.st 12),yqu,oq,oq,.sl (.st 13),oq,ow] λ(J M U X Y Z Ag Al Ah Ai Am:Int)(Ae:Li)(Af:List wA)(Ao:Int)(w1 w3:Li)(w4:List wT)(B:Li)(F:Lo)=>(F=trs B/\B.length<=1000000,(),λ_=>(srt B,J,M,U,X,Y,Z,Ag,Al,Ah,Ai,Am,Ae,Af,Ao,w1,w3,w4,B,F,()))
theorem kig:khh.O:=pbv Bs Tryz.func54 (.r 2 (.rt [.frz 6 [2]])) (kqm.c c0) (Q:=∀(X Y Z Ac Aj Ak Ag Al Ah Ai Am:Int)(Ae:Li)(Af:List wA)(Ao:Int)(J M:Li)(U:List wT)B F,F=trs B/\B.length<=1000000->∀R,()=R->(F=trs B/\B.length<=1000000)/\lz (srt B)/\lz U/\lz M/\lz J/\srt B=srt B/\X=X/\Y=Y/\Z=Z/\Ac=Ac/\Aj=Aj/\Ak=Ak/\Ag=Ag/\Al=Al/\Ah=Ah/\Ai=Ai/\Am=Am/\Ae=Ae/\Af=Af/\Ao=Ao/\J=J/\M=M/\U=U/\B=B/\F=F)<|by rintro X Y Z Ac Aj Ak Ag Al Ah Ai Am Ae Af Ao J M U B F h R hR;exact⟨h,by repeat' first|apply qaa|exact rfl|exact qo⟩
def kgi:Ct:=.g (gk 53 [.one (.d oA),oh] [.vec yqu] (.one (.one (.d oA)))) yR1 yR1 [] λ(B w0:Li)=>(Us w0/\B.length<=68719476736/\w0.length<=4294967295,B++encL w0,w0,())
theorem kj7:kgi.O:=prv Bs Tryz.func53 (rA 1 (lA ⟨[1],[.tip yqb],[5,19],[og,oa],[]⟩ .no)) (k1o.c (k19.c (k1a.c c0))) (Q:=∀B w0,Us w0/\B.length<=68719476736/\w0.length<=4294967295->∀r0,B++encL w0=r0->∀e0,w0=e0->let M:=i64.wrap (4+i64.wrap (8*w0.length))
(0<=M/\B.length+M<=140737488355328)/\B=B/\((-9223372036854775808<=(w0.length:Int)/\(w0.length:Int)<=9223372036854775807)/\B.length<=137438953472)/\B++dig 4 (len4 w0.length)=B++dig 4 (len4 w0.length)/\∃J U,J 0 (B++dig 4 (len4 w0.length))/\∀b1 f1,J b1 f1->iD (b1<(w0.length:Int)) (iS b1 w0.length (iS b1 w0.length (f1=f1/\(U64 (ix w0 b1)/\(0<=(8:Int)/\(8:Int)<=8)/\f1.length<=137438953472)/\f1++dig (8:Int).toNat (ix w0 b1)=f1++dig (8:Int).toNat (ix w0 b1)/\ss2 J U b1 (i64.wrap (b1+1)) f1 (f1++dig (8:Int).toNat (ix w0 b1))))) (f1=r0/\w0=e0))<|by
 rintro B w0 h _ rfl _ rfl;obtain⟨h1,Y,Z⟩:=h;refine ?_;rw[wi (8*(w0.length:Int)) qqo qqo,wi (4+8*(w0.length:Int)) qqo qqo];refine⟨⟨by omega,by omega⟩,rfl,⟨by omega,by omega⟩,rfl,?_⟩;refine⟨λi g=>0<=i/\i<=w0.length/\g=B++dig 4 (len4 w0.length)++(w0.take i.toNat).flatMap (dig 8),λi _=>(w0.length-i).toNat,⟨by omega,by omega,by simp⟩,?_⟩;rintro i g⟨F,g1,rfl⟩;refine⟨λh=>?_,λh=>?_⟩
 .have h:=qc h;have X:=h1 _ (ix_mem w0 i F h);rw[inc i w0.length F h qqo];refine⟨⟨F,h⟩,⟨F,h⟩,rfl,⟨X,by omega,?_⟩,rfl,⟨by omega,by omega,?_⟩,by(dsimp only;omega)⟩;.simp only[qi,ke,ku,qu];omega
  .rw[kg w0 i F h,qbp,qn];simp
 .have h:=qd h;rw[ql qqo,qn];exact⟨rfl,rfl⟩
def kd2:Ct:=.g (gk 53 [.one (.d oA),om] [.vec yqu] (.one (.one (.d oA)))) [oA,yqi,yqi,oq] yR1 [] λ(J:Li)(B F:Int)(w0:Li)=>(Us ((w0.drop B.toNat).take F.toNat)/\J.length<=68719476736/\w0.length<=4294967295/\B.toNat+F.toNat<=w0.length,J++encL ((w0.drop B.toNat).take F.toNat),w0,())
theorem kfb:kd2.O:=prv Bs Tryz.func53 (rA 1 (lA ⟨[1],[.tip yqb],[5,19],[og,oa],[]⟩ .no)) (k1o.c (k19.c (k1a.c c0))) (Q:=∀(J:Li)(F B:Int)(w0:Li),Us ((w0.drop F.toNat).take B.toNat)/\J.length<=68719476736/\w0.length<=4294967295/\F.toNat+B.toNat<=w0.length->∀r0:Li,J++encL ((w0.drop F.toNat).take B.toNat)=r0->∀e0:Li,w0=e0->let Y:Int:=i64.wrap (4+i64.wrap (8*(B.toNat:Int)))
(0<=Y/\J.length+Y<=140737488355328)/\J=J/\((-9223372036854775808<=(B.toNat:Int)/\(B.toNat:Int)<=9223372036854775807)/\J.length<=137438953472)/\J++dig 4 (len4 (B.toNat:Int))=J++dig 4 (len4 (B.toNat:Int))/\∃(M:oH)(Z:oJ),M 0 (J++dig 4 (len4 (B.toNat:Int)))/\∀b1 f1,M b1 f1->iD (b1<(B.toNat:Int)) ((0<=b1/\b1<(B.toNat:Int))/\iS ((F.toNat:Int)+b1) w0.length (f1=f1/\(U64 (ix w0 ((F.toNat:Int)+b1))/\(0<=(8:Int)/\(8:Int)<=8)/\f1.length<=137438953472)/\let U:Li:=f1++dig (8:Int).toNat (ix w0 ((F.toNat:Int)+b1))
U=U/\ss2 M Z b1 (i64.wrap (b1+1)) f1 U)) (f1=r0/\w0=e0))<|by
 rintro J F B w0 h _ rfl _ rfl;obtain⟨h1,h2,h3,h4⟩:=h;have hl:((w0.drop F.toNat).take B.toNat).length=B.toNat:=by rw[qu,qal];omega
 have X:∀i:Nat,i<B.toNat->ix w0 ((F.toNat:Int)+i)=ix ((w0.drop F.toNat).take B.toNat) (i:Int):=by intro i hi;rw[show(F.toNat:Int)+i=((F.toNat+i:Nat):Int)by omega,ix_get _ _ qqo,ix_get _ _ qqo,List.getElem_take,List.getElem_drop]
 generalize(w0.drop F.toNat).take B.toNat=w at*;refine ?_;rw[wi (8*(B.toNat:Int)) qqo qqo,wi (4+8*(B.toNat:Int)) qqo qqo];refine⟨⟨by omega,by omega⟩,rfl,⟨by omega,by omega⟩,rfl,?_⟩;refine⟨λi g=>∃k:Nat,i=(k:Int)/\k<=w.length/\g=J++dig 4 (len4 w.length)++(w.take k).flatMap (dig 8),λi _=>(w.length-i).toNat,⟨0,rfl,by omega,by rw[hl];simp⟩,?_⟩;rintro _ _⟨k,rfl,g1,rfl⟩;refine⟨λh=>?_,λh=>?_⟩
 .have h:k<w.length:=by have:=qc h;omega
  have hx:=h1 _ (ix_mem w (k:Int) qqo qqo);rw[inc_i64 _ qqo,X k qqo];refine⟨⟨by omega,by omega⟩,⟨by omega,by omega⟩,rfl,⟨hx,by omega,?_⟩,rfl,⟨k+1,rfl,by omega,?_⟩,by(dsimp only;omega)⟩;.simp only[qi,ke,ku,qu];omega
  .rw[qt h,qbp,qn,ix_get _ _ h];simp
 .have h:k=w.length:=by have:=qd h;omega
  rw[ql qqo,qn];exact⟨rfl,rfl⟩
def keb:Ct:=.b (gk 16 [oo] yJ (.one (.one (.d oA)))) yQ [oA,yqi,yqi,yqi,yqi,yqi,yqu,yqi,yqi,yqu,yqi,yqi,oq,.sl (.st 12),yqu,oq,oq,.sl (.st 13),oq,ow] λ(J M U X Y Z Ag Al Ah Ai Am:Int)(Ae:Li)(Af:List wA)(Ao:Int)(w1 w3:Li)(w4:List wT)(B:Li)(F:Lo)=>(∃c f,c<=800/\PI (PS.mk (wF.mk J M U X Y Z Ag Al Ah) (wI.mk Ai Am Ae) Af Ao w1 w3 w4 B F) c f,(),λ_=>(encM (mOf (PS.mk (wF.mk J M U X Y Z Ag Al Ah) (wI.mk Ai Am Ae) Af Ao w1 w3 w4 B F)),J,M,U,X,Y,Z,Ag,Al,Ah,Ai,Am,Ae,Af,Ao,w1,w3,w4,B,F,()))
theorem kg9:keb.O:=pbv Bs Tryz.func16 (rA 4 (lA (oB [3,36] [.one (.d oA),oa]) .no)) (k7d.c (kj7.c (kig.c (kbk.c (k3v.c (k5u.c (kfb.c c0))))))) (Q:=∀Aa Ab Ad Ac Aj Ak M Al Ah Ai Am Ae F Z U J X B Y,(∃c f,c<=800/\PI (PS.mk (wF.mk Aa Ab Ad Ac Aj Ak M Al Ah) (wI.mk Ai Am Ae) F Z U J X B Y) c f)->∀R,()=R->((-9223372036854775808<=(X.length:Int)/\(X.length:Int)<=9223372036854775807)/\([]:Li).length<=137438953472)/\let r1:Li:=([]:Li)++dig 4 (len4 (X.length:Int))
lz U/\(Us U/\r1.length<=68719476736/\U.length<=4294967295)/\lz X/\lz J/\lz U/\(Y=trs B/\B.length<=1000000)/\(Us (srt B)/\(r1++encL U).length<=68719476736/\(srt B).length<=4294967295)/\((-9223372036854775808<=(F.length:Int)/\(F.length:Int)<=9223372036854775807)/\(r1++encL U++encL (srt B)).length<=137438953472)/\let r2:Li:=r1++encL U++encL (srt B)++dig 4 (len4 (F.length:Int))
∃(I1:Li->Int->Prop)(M1:Li->Int->Nat),I1 r2 0/\∀b1 f1,I1 b1 f1->iF f1 F.length ((U64 (ix F f1).ID/\b1.length<=137438953472)/\(U64 (ix F f1).wn/\(b1++dig 8 (ix F f1).ID).length<=137438953472)/\let r3:Li:=b1++dig 8 (ix F f1).ID++dig 8 (ix F f1).wn
(U64 (ix F f1).wK/\r3.length<=137438953472)/\ss2 I1 M1 b1 (r3++dig 8 (ix F f1).wK) f1 (i64.wrap (f1+1))) ((U64 Z/\b1.length<=137438953472)/\lz X/\lz J/\lz U/\((1<=M/\M<=100)/\J.length<=1000000)/\let r4:Int:=((J.length-(J.length-M.toNat):Nat):Int)
(Us ((J.drop ((((J.length-M.toNat:Nat):Int).toNat:Nat):Int).toNat).take (r4.toNat:Int).toNat)/\(b1++dig 8 Z).length<=68719476736/\J.length<=4294967295/\((((J.length-M.toNat:Nat):Int).toNat:Nat):Int).toNat+(r4.toNat:Int).toNat<=J.length)/\let r5:Li:=b1++dig 8 Z++encL ((J.drop ((((J.length-M.toNat:Nat):Int).toNat:Nat):Int).toNat).take (r4.toNat:Int).toNat)
lz X/\lz J/\lz U/\r5=(encM (mOf (PS.mk (wF.mk Aa Ab Ad Ac Aj Ak M Al Ah) (wI.mk Ai Am Ae) F Z U J X B Y)):Li)/\Aa=Aa/\Ab=Ab/\Ad=Ad/\Ac=Ac/\Aj=Aj/\Ak=Ak/\M=M/\Al=Al/\Ah=Ah/\Ai=Ai/\Am=Am/\Ae=Ae/\F=F/\Z=Z/\U=U/\J=J/\X=X/\B=B/\Y=Y))<|by
 rintro Aa Ab Ad Ac Aj Ak M Al Ah Ai Am Ae F Z U J X B Y h R hR;obtain⟨c,f,hc,hp⟩:=h;have he:=hp.eok hc;have aj:J.length=X.length+1:=hp.rl;have ak:X.length<=c:=hp.p;have al:U.length<=4096:=he.r.ll;have am:B.length<=4*c:=hp.kl;have hv:Y=trs B:=hp.v;have ab:1<=M:=hp.w1;have ac:M<=100:=hp.w2;have ao:F.length<=999:=he.r.al;have ad:OkA F:=he.r.a;have hn:U64 Z:=he.r.n;have ae:Us U:=BG.us hp.l;have ag:Us (srt B):=BG.us he.k;have ah:Us (ancL J M):=anc_us hp.r;have aq:=k8o B;have ai:=anc_len J M;have eA:(J.drop (J.length-M.toNat)).take (J.length-(J.length-M.toNat))=ancL J M:=by unfold ancL;exact ql (by rw[qal];omega)
 refine⟨⟨⟨by omega,by omega⟩,qbf _⟩,rfl,⟨ae,by simp only[qcd,ke];omega,by omega⟩,rfl,rfl,rfl,⟨hv,by omega⟩,⟨ag,?_,by omega⟩,⟨⟨by omega,by omega⟩,?_⟩,?_⟩;.simp only[qcd,qi,ke,km];omega
 .simp only[qcd,qi,ke,km];omega
 rw[qcd];refine⟨λg a=>∃i:Nat,a=(i:Int)/\i<=F.length/\g=dig 4 (len4 (X.length:Int))++encL U++encL (srt B)++dig 4 (len4 (F.length:Int))++(F.take i).flatMap encA,λ_ a=>(F.length-a).toNat,⟨0,rfl,by omega,by simp⟩,?_⟩;rintro _ _⟨i,rfl,hi,rfl⟩;have aa:(dig 4 (len4 (X.length:Int))++encL U++encL (srt B)++dig 4 (len4 (F.length:Int))++(F.take i).flatMap encA).length<=1000000:=by simp only[qi,ke,km,k7e,qu];omega
 refine⟨λe=>?_,λe=>?_⟩
 .have e:i<F.length:=by have:=qc e;omega
  obtain⟨u1,u2,u3⟩:=acc_u ad (qz e);rw[ix_get _ _ e,inc_i64 _ qqo];refine⟨by omega,by omega,⟨u1,by omega⟩,⟨u2,?_⟩,⟨u3,?_⟩,⟨i+1,rfl,by omega,kq1 e _⟩,by(dsimp only;omega)⟩;.rw[qi,ke];omega
  .rw[qi,qi,ke,ke];omega
 .have e:i=F.length:=by have:=qd e;omega
  subst e;rw[qcb]at aa⊢;simp only[qv,eA];refine⟨⟨hn,by omega⟩,by trivial,by trivial,by trivial,⟨⟨ab,ac⟩,by omega⟩,⟨ah,?_,by omega,by omega⟩,by trivial,by trivial,by trivial,rfl,by repeat' first|apply qaa|exact rfl|exact qo⟩;rw[qi,ke];omega
def kff:Ct:=.gp 64 [yqi] [.st 9] [] λ(B:Int)=>(1<=B/\B<=12,frF B [],())
theorem k6z:kff.O:=qrv Bs Tryz.func64 (.r 0 (.nd [] (oC 8) [] (.r 0 (.rt [.frzc 1 0 2])))) c0 (Q:=∀B,1<=B/\B<=12->∀r0,frF B []=r0->∀F:oE,(∀J,iT J (0=r0.wH/\0=r0.wAF/\[]=r0.wAJ) (0<=i64.wrap (B+1)/\i64.wrap (B+1)<=i64.wrap (B+1)/\(i64.wrap (B+1)).toNat*8<=140737488355328/\(i64.wrap (B+1)).toNat<=maxLen/\(i64.wrap (B+1)).toNat=(List.replicate (i64.wrap (B+1)).toNat (0:Int)).length/\B=r0.wH/\0=r0.wAF/\List.replicate (i64.wrap (B+1)).toNat 0=r0.wAJ)->F J)->iD (B<1) (F true) (F (decide (12<B))))<|by
 rintro B h _ rfl;refineλF j=>⟨λe=>by have:=qc e;omega,λe=>?_⟩;refine j _ ⟨λe=>by have:=qc e;omega,λ_=>?_⟩;obtain⟨d,rfl⟩:=qm (show 0<=B by omega);rw[ko _ qqo qqo];refine⟨by omega,by omega,by omega,by unfold maxLen;omega,by simp,rfl,rfl,?_⟩;refine(List.eq_replicate_iff.2 ⟨k25 _ _,λx U=>?_⟩).symm;obtain⟨i,hi,rfl⟩:=qap.1 U;have:bitN ([]:Li).length i=false:=by simp[bitN]
 rw[qe (by rw[this];decide)]
def kh7:Ct:=.t ⟨65,[],[],.one oo,yI1,false⟩ [] [oq,ow] [] (([]:Li),([]:Lo),())
theorem k7x:kh7.O:=ptv Bs Tryz.func65 .no c0 (Q:=∀e1k,[]=e1k->∀e1v,[]=e1v->([]:Li)=e1k/\([]:Lo)=e1v)<|by rintro _ rfl _ rfl;exact⟨rfl,rfl⟩
def kpn:Ct:=.b ⟨28,[.agg yG1],[],.tup [oo,oa],yJ,true⟩ [.st 6] yN λ(B:wF)=>(rulesE B=0,(),λ_=>((0:Int),(newS B).R.wd,(newS B).R.wH,(newS B).R.wS,(newS B).R.wO,(newS B).R.wM,(newS B).R.wZ,(newS B).R.wt,(newS B).R.wW,(newS B).R.wU,(newS B).F.wH,(newS B).F.wAF,(newS B).F.wAJ,(newS B).b,(newS B).n,(newS B).l,(newS B).r,(newS B).p,(newS B).k,(newS B).v,()))
theorem kdo:kpn.O:=pbx Bs [19] Tryz.func28 (.r 3 (.rt [.rnilc 114 12 yqu,.rnilc 114 17 (.st 13)])) x0 (k1q.c (k6z.c (k7x.c (k36.c c0)))) (Q:=∀B,rulesE B=0->∀R,()=R->iT (rulesE B !=0) False ((1<=B.wH/\B.wH<=12)/\FV (frF B.wH [])/\0=([]:List wT).length/\lz [rootF (frF B.wH [])]/\0=([]:Li).length/\0=(0:Int)/\B.wd=(newS B).R.wd/\B.wH=(newS B).R.wH/\B.wS=(newS B).R.wS/\B.wO=(newS B).R.wO/\B.wM=(newS B).R.wM/\B.wZ=(newS B).R.wZ/\B.wt=(newS B).R.wt/\B.wW=(newS B).R.wW/\B.wU=(newS B).R.wU/\(frF B.wH []).wH=(newS B).F.wH/\(frF B.wH []).wAF=(newS B).F.wAF/\(frF B.wH []).wAJ=(newS B).F.wAJ/\[]=(newS B).b/\0=(newS B).n/\[]=(newS B).l/\[rootF (frF B.wH [])]=(newS B).r/\[]=(newS B).p/\[]=(newS B).k/\[]=(newS B).v))<|by
 rintro B h R U;have F:rulesB B=true:=by cases F:rulesB B with
  |true=>rfl|false=>unfold rulesE at h;rw[F]at h;cases h
 have J:1<=B.wH/\B.wH<=12:=by simp only[rulesB,qh,qy]at F;omega
 exact⟨λe=>(by rw[h]at e;cases e),λ_=>⟨J,frF_FV J.1 J.2 (qbf _) (λx M=>by cases M),rfl,rfl,rfl,rfl,rfl,rfl,rfl,rfl,rfl,rfl,rfl,rfl,rfl,rfl,rfl,rfl,rfl,rfl,rfl,rfl,rfl,rfl,rfl⟩⟩
def kg2:Ct:=.g (gk 28 [.agg yG1] [] (.tup [.one (.k .nilPtr),oa])) [.st 6] [yqi] [] λ(B:wF)=>(rulesE B≠0,rulesE B,())
theorem k7n:kg2.O:=prx Bs [19] Tryz.func28 (.r 3 (.rt [.rnilc 114 12 yqu,.rnilc 114 17 (.st 13)])) x0 (k1q.c (k6z.c (k7x.c (k36.c c0)))) (Q:=∀B,rulesE B≠0->∀r1,rulesE B=r1->iT (rulesE B !=0) (rulesE B=r1) ((1<=B.wH/\B.wH<=12)/\FV (frF B.wH [])/\False))<|by rintro B h _ rfl;exact⟨λ_=>rfl,λe=>(h (by simpa using e)).elim⟩
def kl2:Ct:=.b ⟨8,[oo,.agg yG1],yO,.tup [.one (.ptr 4 0),oa],[.cells [.d .bool,zqu,zqi,.d (.sl (.st 0)),.mp 1,.mp 2,.mp 3],.map .str yqi,.map .str oq,.map .str .bool,.cells [.ptr 0 0,zqi,zqi,zqi,zqi,zqi,zqu,zqi,zqi,zqu,.mp 5,zql,.ptr 6 0,zqu,zqi],.map yqu (.st 14),.cells yS,.vec yqu,.cells [.mp 11],.vec yqu,.vec (.st 13),.map yqu .bool],true⟩ yU (.int .i64::.bool::.int .u64::.int .i64::.sl (.st 0)::.int .i64::.int .i64::.int .i64::.int .i64::.int .i64::.int .u64::.int .i64::.int .i64::.int .u64::[oq,yqu,yqi,yqi,yqi,yqi,yqi,yqi,yqu,yqi,yqi,yqu,yqi,yqi,oq,.sl (.st 12),yqu,oz,.sl yqi,oz,.sl oq,oz,ow,oq,.sl (.st 14),oq,oq,.sl (.st 13),oq,ow]) λ(B:wF)(Z:Bool)(Ab Ad:Int)(Ac:List wN)(F:Lb)(J:Li)(M:Lb)(U:List Li)(X:Lb)(Y:Lo)=>(rulesE B=0/\B.wd=2/\Z=false,(),λ_=>((0:Int),Z,Ab,Ad,Ac,B.wd,B.wH,B.wS,B.wO,B.wM,B.wZ,B.wt,B.wW,B.wU,([]:Li),(0:Int),(0:Int),(newS B).R.wd,(newS B).R.wH,(newS B).R.wS,(newS B).R.wO,((newS B).R.wM:Int),((newS B).R.wZ:Int),((newS B).R.wt:Int),((newS B).R.wW:Int),((newS B).R.wU:Int),((newS B).F.wH:Int),((newS B).F.wAF:Int),((newS B).F.wAJ:Li),((newS B).b:List wA),((newS B).n:Int),F,J,M,U,X,Y,(([]:Li):Li),(([]:List wR):List wR),((newS B).l:Li),((newS B).r:Li),((newS B).p:List wT),((newS B).k:Li),((newS B).v:Lo),()))
theorem kca:kl2.O:=pbv Bs Tryz.func8 .no (k1q.c (k2x.c (kdo.c (k7n.c c0)))) (Q:=∀B Z(Ab Ad:Int)(Ac:List wN)(F:Lb)(J:Li)(M:Lb)(U:List Li)(X:Lb)(Y:Lo),rulesE B=0/\B.wd=2/\Z=false->∀R,()=R->iT (rulesE B !=0) False (iT (! Z==(B.wd==3)) False (rulesE B=0/\iT (0 !=0) False (lz (newS B).p/\lz (newS B).r/\lz (newS B).l/\0=(0:Int)/\Z=Z/\Ab=Ab/\Ad=Ad/\Ac=Ac/\B.wd=B.wd/\B.wH=B.wH/\B.wS=B.wS/\B.wO=B.wO/\B.wM=B.wM/\B.wZ=B.wZ/\B.wt=B.wt/\B.wW=B.wW/\B.wU=B.wU/\[]=([]:Li)/\0=(0:Int)/\0=(0:Int)/\(newS B).R.wd=(newS B).R.wd/\(newS B).R.wH=(newS B).R.wH/\(newS B).R.wS=(newS B).R.wS/\(newS B).R.wO=((newS B).R.wO:Int)/\(newS B).R.wM=((newS B).R.wM:Int)/\(newS B).R.wZ=((newS B).R.wZ:Int)/\(newS B).R.wt=((newS B).R.wt:Int)/\(newS B).R.wW=((newS B).R.wW:Int)/\(newS B).R.wU=((newS B).R.wU:Int)/\(newS B).F.wH=((newS B).F.wH:Int)/\(newS B).F.wAF=((newS B).F.wAF:Int)/\(newS B).F.wAJ=((newS B).F.wAJ:Li)/\(newS B).b=((newS B).b:List wA)/\(newS B).n=((newS B).n:Int)/\F=F/\J=J/\M=M/\U=U/\X=X/\Y=Y/\([]:Li)=(([]:Li):Li)/\([]:List wR)=(([]:List wR):List wR)/\(newS B).l=((newS B).l:Li)/\(newS B).r=((newS B).r:Li)/\(newS B).p=((newS B).p:List wT)/\(newS B).k=((newS B).k:Li)/\(newS B).v=((newS B).v:Lo))∨rulesE B≠0/\iT (rulesE B !=0) False False)))<|by rintro B Z Ab Ad Ac F J M U X Y h R hR;obtain⟨h1,h2,rfl⟩:=h;refine⟨λe=>by simp[h1]at e,λ_=>⟨λe=>by simp[h2]at e,λ_=>.inl ⟨h1,λe=>(by cases e),λ_=>?_⟩⟩⟩;exact by repeat' first|apply qaa|exact rfl|exact qo
def kfr:Ct:=.b (gk 8 [oo,.agg yG1] yO (.tup [.one (.k .nilPtr),oa])) yU yV λ(Y:wF)(Z:Bool)(Ab Ad:Int)(Ac:List wN)(B:Lb)(F:Li)(J:Lb)(M:List Li)(U:Lb)(X:Lo)=>(rulesE Y≠0,(),λ_=>(rulesE Y,Z,Ab,Ad,Ac,B,F,J,M,U,X,()))
theorem k6x:kfr.O:=pbv Bs Tryz.func8 .no (k1q.c (k2x.c (kdo.c (k7n.c c0)))) (Q:=∀Y Z(Ab Ad:Int)(Ac:List wN)(B:Lb)(F:Li)(J:Lb)(M:List Li)(U:Lb)(X:Lo),rulesE Y≠0->∀R,()=R->iT (rulesE Y !=0) (rulesE Y=rulesE Y/\Z=Z/\Ab=Ab/\Ad=Ad/\Ac=Ac/\B=B/\F=F/\J=J/\M=M/\U=U/\X=X) (iT (! Z==(Y.wd==3)) (1=rulesE Y/\Z=Z/\Ab=Ab/\Ad=Ad/\Ac=Ac/\B=B/\F=F/\J=J/\M=M/\U=U/\X=X) (rulesE Y=0/\iT (0 !=0) (0=rulesE Y/\Z=Z/\Ab=Ab/\Ad=Ad/\Ac=Ac/\B=B/\F=F/\J=J/\M=M/\U=U/\X=X) False∨rulesE Y≠0/\iT (rulesE Y !=0) (rulesE Y=rulesE Y/\Z=Z/\Ab=Ab/\Ad=Ad/\Ac=Ac/\B=B/\F=F/\J=J/\M=M/\U=U/\X=X) False)))<|by rintro Y Z Ab Ad Ac B F J M U X h R hR;exact⟨λ_=>by repeat' first|apply qaa|exact rfl|exact qo,λe=>(h (by simpa using e)).elim⟩
def k8m:Ct:=.t ⟨29,[],[],.one oo,yO,false⟩ [] yX [] (false,(0:Int),(0:Int),([]:List wN),([]:Lb),([]:Li),([]:Lb),([]:List Li),([]:Lb),([]:Lo),())
theorem ka5:k8m.O:=ptv Bs Tryz.func29 .no c0 (Q:=∀Bg,false=Bg->∀Bf,(0:Int)=Bf->∀Bh,(0:Int)=Bh->∀Bk,[]=Bk->∀e1k,[]=e1k->∀e1v,[]=e1v->∀e2k,[]=e2k->∀e2v,[]=e2v->∀e3k,[]=e3k->∀e3v,[]=e3v->false=Bg/\0=Bf/\0=Bh/\([]:List wN)=Bk/\([]:Lb)=e1k/\([]:Li)=e1v/\([]:Lb)=e2k/\([]:List Li)=e2v/\([]:Lb)=e3k/\([]:Lo)=e3v)<|by
 repeat rintro _ rfl
 exact⟨rfl,rfl,rfl,rfl,rfl,rfl,rfl,rfl,rfl,rfl⟩
def ki2:Ct:=.t ⟨9,[],[],.one oo,yO,false⟩ [] yX [] (false,(0:Int),(0:Int),([]:List wN),([]:Lb),([]:Li),([]:Lb),([]:List Li),([]:Lb),([]:Lo),())
theorem k7q:ki2.O:=ptv Bs Tryz.func9 .no (ka5.c c0) (Q:=∀Bg,false=Bg->∀Bf,(0:Int)=Bf->∀Bh,(0:Int)=Bh->∀Bk,([]:List wN)=Bk->∀e1k,([]:Lb)=e1k->∀e1v,([]:Li)=e1v->∀e2k,([]:Lb)=e2k->∀e2v,([]:List Li)=e2v->∀e3k,([]:Lb)=e3k->∀e3v,([]:Lo)=e3v->false=Bg/\0=Bf/\0=Bh/\[]=Bk/\[]=e1k/\[]=e1v/\[]=e2k/\[]=e2v/\[]=e3k/\[]=e3v)<|by
 repeat rintro _ rfl
 exact⟨rfl,rfl,rfl,rfl,rfl,rfl,rfl,rfl,rfl,rfl⟩
def kip:Ct:=.tp 22 [.st 8] [.bool] [] λ(B:wAq)=>(prS B,())
theorem kls:kip.O:=qtv Bs Tryz.func22 (.r 1 (.nd [] (lA (oB [3,5] [oc,oa]) .no) [] (nA (lA (oB [4,6] [oc,oa]) .no)))) c0 (Q:=∀F,∀r0,prS F=r0->∃U M1,U false 2/\∀b1 f1,U b1 f1->iD (f1<=256) (iT b1 (ss2 U M1 b1 true f1 (i64.wrap (2*f1))) (ss2 U M1 b1 (F.wBH==f1) f1 (i64.wrap (2*f1)))) (∃X M2,X false 1/\∀i1 k1,X i1 k1->iD (k1<=8) (iT i1 (ss2 X M2 i1 true k1 (i64.wrap (2*k1))) (ss2 X M2 i1 (F.wAw==k1) k1 (i64.wrap (2*k1)))) (iT b1 (iT i1 (iD (1<=F.wBD) (decide (F.wBD<=64)=r0) (false=r0)) (false=r0)) (false=r0))))<|by
 rintro F _ rfl;have hw:∀n k:Nat,k<=8->i64.wrap (2*(n*(2^k:Nat)))=n*(2^(k+1):Nat)∨2<n:=by
  intro n k Y;rcases qaw 2 n with h|h;.exact .inr h
  .have h1:2^k<=2^8:=qcu qqd Y;have J:2^(k+1)=2*2^k:=by rw[Nat.pow_succ];omega
   rw[J];generalize 2^k=q at*;refine .inl ?_;have:n=0∨n=1∨n=2:=by omega
   rcases this with rfl|rfl|rfl;.rw[ko _ qqo qqo];omega
   .rw[ko _ qqo qqo];omega
   .rw[ko _ qqo qqo];omega
 refine⟨λs a=>∃k,k<=8/\a=2*((2^k:Nat):Int)/\s=pws k 2 F.wBH,λ_ a=>(1000-a).toNat,⟨0,by omega,rfl,rfl⟩,?_⟩;rintro _ _⟨k,Y,rfl,rfl⟩;have h1:=qcg k;have J:2^(k+1)=2*2^k:=by rw[Nat.pow_succ];omega
 refine⟨λe=>?_,λe=>?_⟩
 .have e:=qc e;have Z:k<=7:=by
   rcases qaw k 8 with h|h;.omega
   .have:k=8:=by omega
    subst this;exact absurd e qqd
  have M:i64.wrap (2*(2*((2^k:Nat):Int)))=2*((2^(k+1):Nat):Int):=(hw 2 k Y).resolve_right qqd;rw[M];refine⟨λB=>⟨⟨k+1,by omega,rfl,?_⟩,?_⟩,λB=>⟨⟨k+1,by omega,rfl,?_⟩,?_⟩⟩;.rw[k9k,B];rfl
  .rw[J];generalize 2^k=q at*;(dsimp only;omega)
  .rw[k9k,B];rfl
  .rw[J];generalize 2^k=q at*;(dsimp only;omega)
 have e:=qd e;have aa:k=8:=by
  rcases qaw k 8 with h|h;.have:2^k<=2^7:=qcu qqd qqo;omega
  .omega
 subst aa;refine⟨λs a=>∃k:Nat,k<=4/\a=1*((2^k:Nat):Int)/\s=pws k 1 F.wAw,λ_ a=>(1000-a).toNat,⟨0,by omega,rfl,rfl⟩,?_⟩;rintro _ _⟨k,Y,rfl,rfl⟩;have h1:=qcg k;have J:2^(k+1)=2*2^k:=by rw[Nat.pow_succ];omega
 refine⟨λe=>?_,λe=>?_⟩
 .have e:=qc e;have Z:k<=3:=by
   rcases qaw k 4 with h|h;.omega
   .have:k=4:=by omega
    subst this;exact absurd e qqd
  have M:i64.wrap (2*(1*((2^k:Nat):Int)))=1*((2^(k+1):Nat):Int):=(hw 1 k qqo).resolve_right qqd;rw[M];refine⟨λB=>⟨⟨k+1,by omega,rfl,?_⟩,?_⟩,λB=>⟨⟨k+1,by omega,rfl,?_⟩,?_⟩⟩;.rw[k9k,B];rfl
  .rw[J];generalize 2^k=q at*;(dsimp only;omega)
  .rw[k9k,B];rfl
  .rw[J];generalize 2^k=q at*;(dsimp only;omega)
 have e:=qd e;have ab:k=4:=by
  rcases qaw k 4 with h|h;.have:2^k<=2^3:=qcu qqd qqo;omega
  .omega
 subst ab;unfold prS;refine⟨λe=>⟨λB=>⟨λe3=>?_,λe3=>?_⟩,λB=>?_⟩,λe=>?_⟩;.rw[e,B,e3];simp
 .rw[e,B,e3];simp
 .rw[e,B];simp
 .rw[e];simp
def kmw:Ct:=.tp 6 [.st 6] [yqi] [] λ(B:wF)=>(rulesE B,())
theorem k5t:kmw.O:=qtv Bs Tryz.func6 .no (kls.c c0) (Q:=∀B,∀r0,rulesE B=r0->iD (B.wd<1) (1=r0) (iD (3<B.wd) (1=r0) (iD (B.wH<1) (1=r0) (iD (12<B.wH) (1=r0) (iD (B.wt<1) (1=r0) (iD (100<B.wt) (1=r0) (iD (B.wW<1) (1=r0) (iD (1048576<B.wW) (1=r0) (iD (4294967296<B.wZ) (1=r0) (iD (B.wU<1) (1=r0) (iD (65536<B.wU) (1=r0) (iT (B.wd==1) (let r1:=prS (wAq.mk B.wS B.wO B.wM)
iT (!r1) (1=r0) (0=r0)) (0=r0)))))))))))))<|by
 rintro B _ rfl;have no:¬rulesB B=true->1=rulesE B:=λh=>by unfold rulesE;rw[qe h]
 have nb:∀c:Prop,(rulesB B=true->¬c)->c->1=rulesE B:=λc h hc=>no λF=>h F hc;have J:rulesB B=true->(1<=B.wd/\B.wd<=3)/\(1<=B.wH/\B.wH<=12)/\(1<=B.wt/\B.wt<=100)/\(1<=B.wW/\B.wW<=1048576)/\B.wZ<=4294967296/\1<=B.wU/\B.wU<=65536:=by intro F;simp only[rulesB,qh,qy]at F;omega
 refine⟨λe=>nb _ λF h=>by have:=J F;omega (qc e),λY=>⟨λe=>nb _ λF h=>by have:=J F;omega (qc e),λZ=>⟨λe=>nb _ λF h=>by have:=J F;omega (qc e),λM=>⟨λe=>nb _ λF h=>by have:=J F;omega (qc e),λe4=>⟨λe=>nb _ λF h=>by have:=J F;omega (qc e),λe5=>⟨λe=>nb _ λF h=>by have:=J F;omega (qc e),λe6=>⟨λe=>nb _ λF h=>by have:=J F;omega (qc e),λe7=>⟨λe=>nb _ λF h=>by have:=J F;omega (qc e),λe8=>⟨λe=>nb _ λF h=>by have:=J F;omega (qc e),λe9=>⟨λe=>nb _ λF h=>by have:=J F;omega (qc e),λU=>⟨λe=>nb _ λF h=>by have:=J F;omega (qc e),λX=>?_⟩⟩⟩⟩⟩⟩⟩⟩⟩⟩⟩;have Y:=qd Y;have Z:=qd Z;have M:=qd M;have e4:=qd e4;have e5:=qd e5;have e6:=qd e6;have e7:=qd e7;have e8:=qd e8;have e9:=qd e9;have U:=qd U;have X:=qd X;have F:rulesB B=true:=by simp only[rulesB,qh,qy];omega
 unfold rulesE;rw[qg F];refine⟨λe=>⟨λM=>?_,λM=>?_⟩,λe=>?_⟩
 .have e:B.wd=1:=by simpa using e
  have M:¬prS ⟨B.wS,B.wO,B.wM⟩=true:=by simpa using M
  rw[qg e,qe M]
 .have e:B.wd=1:=by simpa using e
  have M:prS ⟨B.wS,B.wO,B.wM⟩=true:=by simpa using M
  rw[qg e,qg M]
 .have e:¬B.wd=1:=by simpa using e
  rw[qe e]
def kic:Ct:=.gp 49 [yqu,yqi] [oA] [] λ(F B:Int)=>(U64 F/\0<=B/\B<=8,dig B.toNat F,())
theorem k31:kic.O:=qrv Bs Tryz.func49 (rA 1 (.r 0 (.lp [.tok 5 yqb] ⟨[0],[.tip yqb],[0,5,6],[ou,og,oa],[]⟩ .no))) c0 (Q:=∀F B,U64 F/\0<=B/\B<=8->∀r0,dig B.toNat F=r0->[]=([]:Li)/\∃J Y,J F 0 []/\∀b1 f1 i1,J b1 f1 i1->iD (f1<B) (iL i1 [IntKind.u8.wrap (Int.tmod b1 256)] 1 (let M:=i1++[IntKind.u8.wrap (Int.tmod b1 256)]
M=M/\ss3 J Y b1 (u64.wrap (Int.tdiv b1 256)) f1 (i64.wrap (f1+1)) i1 M)) (i1=r0))<|by
 rintro F B h _ rfl;obtain⟨h1,h2,h3⟩:=h;refine⟨rfl,⟨λn i g=>0<=i/\i<=B/\U64 n/\n=F/256^i.toNat/\g=dig i.toNat F,λ_ i _=>(B-i).toNat,⟨by omega,by omega,h1,by simp,by simp[dig]⟩,?_⟩⟩;rintro n i g⟨Z,g1,U,X,rfl⟩;refine⟨λh=>?_,λh=>?_⟩
 .have h:=qc h;rw[inc i B Z h qqo,tmod_nn _ _ U.1,tdiv_nn _ _ U.1,u8w,wu (n/256) qqo qqo];refine⟨rfl,?_,?_,rfl,⟨by omega,by omega,by omega,?_,?_⟩,by(dsimp only;omega)⟩;.simp;omega
  .simp;unfold maxLen;omega
  .rw[X,show(i+1).toNat=i.toNat+1 by omega,qcs (qcq (k1l _)),qcp]
  .rw[show(i+1).toNat=i.toNat+1 by omega,k5j,X];congr 2;omega
 .have h:=qd h;rw[show i=B by omega]
end Go.Proofs.YtfiecdeonopcmaaGreatDoor
end
