/-
  Parts of the proofs that the laws of this seat hold of every input, merged by a program: a machine over pure data that is sound for the model, what each function of the translation does in it, and plain lemmas. No conditions but those in each theorem.
-/
import Derived.Test.YtchoejpclejjhaaA4
set_option maxRecDepth 100000
noncomputable section
namespace Go.Proofs.Ytchoejpclejjhaa
open Go Go.Bv Go.Cv Go.Md Go.RowKit
open Go.IntKind (i64 u64)
noncomputable def k99:Con TB.den:= .gp 78 [yqu,yqu] [yqu,yqu] [] fun(p0 p1:Int)=>(U64 p0/\U64 p1,(p0*p1/18446744073709551616:Int),(p0*p1%18446744073709551616:Int),())
theorem k5d:k99.Ok Try.prog TB:=qrv Bs Try.func78 .no c0 (Q:=∀(p0 p1:Int),(U64 p0/\U64 p1)->∀r0:Int,(p0*p1/18446744073709551616)=r0->∀r1:Int,(p0*p1%18446744073709551616)=r1-> 
let v2:Int:=u64.wrap ((iand .u64 p0 4294967295)*(iand .u64 p1 4294967295))
let v3:Int:=u64.wrap ((ishr .u64 p0 32)*(iand .u64 p1 4294967295))
let v4:Int:=u64.wrap (v3+(ishr .u64 v2 32))
let v5:Int:=u64.wrap ((iand .u64 p0 4294967295)*(ishr .u64 p1 32))
let v6:Int:=u64.wrap ((iand .u64 v4 4294967295)+v5)
let v7:Int:=u64.wrap ((ishr .u64 p0 32)*(ishr .u64 p1 32))
let v8:Int:=u64.wrap (v7+(ishr .u64 v4 32))
let v9:Int:=u64.wrap (v8+(ishr .u64 v6 32))
v9=r0/\u64.wrap (p0*p1)=r1) (by kernel_rfl)<|by
 rintro p0 p1 h _ rfl _ rfl
 obtain⟨h0,h1⟩:=h
 have k:=kgq p0 p1 h0 h1
 refine ?_
 simp only[k1y p0 h0,k1y p1 h1,ishr32]
 obtain⟨e,k1,k2,k3,k4,k5,k6,k7,k8⟩:=k
 rw[<-e]
 rw[wu (p0%4294967296*(p1%4294967296)) (by omega) (by omega),wu (p0/4294967296*(p1%4294967296)) (by omega) (by omega),wu (p0%4294967296*(p1/4294967296)) (by omega) (by omega),wu (p0/4294967296*(p1/4294967296)) (by omega) (by omega)]
 generalize p0%4294967296*(p1%4294967296)=a at *
 generalize p0/4294967296*(p1%4294967296)=b at *
 generalize p0%4294967296*(p1/4294967296)=c at *
 generalize p0/4294967296*(p1/4294967296)=d at *
 rw[wu (b+a/4294967296) (by omega) (by omega),k1y _ (by omega)]
 simp only[u64w]
 refine⟨?_,trivial⟩
 omega
noncomputable def kaq:Con TB.den:= .gp 73 [.st 4,yqu,yqu] [yqu] [] fun(p0:wQ) (p1 p2:Int)=>(p0.P=18446744069414584321/\(0<=p1/\p1<18446744069414584321)/\(0<=p2/\p2<18446744069414584321),(p1*p2%18446744069414584321:Int),())
theorem k60:kaq.Ok Try.prog TB:=qrv Bs Try.func73 .no (k5d.c (k5g.c c0)) (Q:=∀(p0:wQ) (p1 p2:Int),(p0.P=18446744069414584321/\(0<=p1/\p1<18446744069414584321)/\(0<=p2/\p2<18446744069414584321))->∀r0:Int,(p1*p2%18446744069414584321)=r0-> 
(U64 p1/\U64 p2)/\(U64 (p1*p2/18446744073709551616)/\U64 (p1*p2%18446744073709551616)/\U64 p0.P/\(p1*p2/18446744073709551616)<p0.P)/\let r1:Int:=(((p1*p2/18446744073709551616)*18446744073709551616+(p1*p2%18446744073709551616))/p0.P)
let r2:Int:=(((p1*p2/18446744073709551616)*18446744073709551616+(p1*p2%18446744073709551616))%p0.P)
r2=r0) (by kernel_rfl)<|by
 rintro p0 p1 p2 h _ rfl
 obtain⟨hP,h1,h2⟩:=h
 have h3:0<=p1*p2:=Int.mul_nonneg h1.1 h2.1
 have h4:p1*p2<=18446744069414584320*18446744069414584320:=Int.mul_le_mul (by omega) (by omega) h2.1 (by omega)
 refine⟨⟨by omega,by omega⟩,?_⟩
 simp only[hP]
 generalize p1*p2=m at *
 refine⟨⟨⟨by omega,by omega⟩,⟨by omega,by omega⟩,by omega,by omega⟩,?_⟩
 rw[show m/18446744073709551616*18446744073709551616+m%18446744073709551616=m by omega]
noncomputable def kat:Con TB.den:= .gp 65 [.st 4,yqu,yqu] [yqu] [] fun(p0:wQ) (p1 p2:Int)=>(p0.P=18446744069414584321/\U64 p1/\U64 p2,(p1*p2%18446744069414584321:Int),())
theorem kbi:kat.Ok Try.prog TB:=qrv Bs Try.func65 .no (k13.c (k1j.c (k60.c c0))) (Q:=∀(p0:wQ) (p1 p2:Int),(p0.P=18446744069414584321/\U64 p1/\U64 p2)->∀r0:Int,(p1*p2%18446744069414584321)=r0-> 
(p0.P=18446744069414584321)/\((!true)=true->
0=r0)/\
((!true)=false->
(0<p0.P/\0<=p1)/\(0<p0.P/\0<=p2)/\(p0.P=18446744069414584321/\(0<=(p1%p0.P)/\(p1%p0.P)<18446744069414584321)/\(0<=(p2%p0.P)/\(p2%p0.P)<18446744069414584321))/\let r1:Int:=((p1%p0.P)*(p2%p0.P)%18446744069414584321)
r1=r0)) (by kernel_rfl)<|by
 rintro p0 p1 p2 h _ rfl
 obtain⟨hP,h1,h2⟩:=h
 refine⟨hP,?_⟩
 simp only[hP]
 refine⟨fun h=>by simp at h,fun _=>⟨by omega,by omega,⟨by trivial,by omega,by omega⟩,?_⟩⟩
 exact(Int.mul_emod _ _ _).symm
noncomputable def k6j:Con TB.den:= .gp 85 [.st 4] [yqu,yqi,yqu] [] fun(p0:wQ)=>(p0.P=18446744069414584321,(7:Int),(32:Int),(7:Int),())
theorem k71:k6j.Ok Try.prog TB:=qrv Bs Try.func85 .no c0 (Q:=∀(p0:wQ),(p0.P=18446744069414584321)->∀r0:Int,(7:Int)=r0->∀r1:Int,(32:Int)=r1->∀r2:Int,(7:Int)=r2-> 
((p0.P==17)=true->
3=r0/\4=r1/\3=r2)/\
((p0.P==17)=false->
((p0.P==97)=true->
5=r0/\5=r1/\5=r2)/\
((p0.P==97)=false->
((p0.P==193)=true->
5=r0/\6=r1/\5=r2)/\
((p0.P==193)=false->
((p0.P==257)=true->
3=r0/\8=r1/\3=r2)/\
((p0.P==257)=false->
((p0.P==12289)=true->
11=r0/\12=r1/\5=r2)/\
((p0.P==12289)=false->
((p0.P==65537)=true->
3=r0/\16=r1/\3=r2)/\
((p0.P==65537)=false->
((p0.P==18446744069414584321)=true->
7=r0/\32=r1/\7=r2)/\
((p0.P==18446744069414584321)=false->
0=r0/\0=r1/\0=r2)))))))) (by kernel_rfl)<|by
 rintro p0 h _ rfl _ rfl _ rfl
 refine ?_
 simp[h]
noncomputable def k5x:Con TB.den:= .gp 74 [.st 4] [yqu] [] fun(p0:wQ)=>(p0.P=18446744069414584321,(7:Int),())
theorem k6h:k5x.Ok Try.prog TB:=qrv Bs Try.func74 .no (k71.c c0) (Q:=∀(p0:wQ),(p0.P=18446744069414584321)->∀r0:Int,(7:Int)=r0-> 
(p0.P=18446744069414584321)/\7=r0) (by kernel_rfl)<|by
 rintro p0 h _ rfl
 exact⟨h,rfl⟩
noncomputable def kbb:Con TB.den:= .gp 86 [.st 4,yqu,yqu] [yqu] [] fun(p0:wQ) (p1 p2:Int)=>(p0.P=18446744069414584321/\(0<=p1/\p1<18446744069414584321)/\U64 p2,(pw p1 p2:Int),())
theorem kbj:kbb.Ok Try.prog TB:=qrv Bs Try.func86 (.r 1 (.nd [] (.lp [] ⟨[],[],[1,2,7],[.one (zqu),.one (zqu),.one (zqu)],[]⟩ (.r 0 (.jn ⟨[],[],[7],[.one (zqu)],[]⟩ [] .no [] .no))) [] .no)) (k60.c c0) (Q:=∀(p0:wQ) (p1 p2:Int),(p0.P=18446744069414584321/\(0<=p1/\p1<18446744069414584321)/\U64 p2)->∀r0:Int,pw p1 p2=r0-> 
∃(I1:Int->Int->Int->Prop) (M1:Int->Int->Int->Nat),I1 p1 p2 1/\∀(b1 f1 i1:Int),(I1 b1 f1 i1->
(decide (0<f1)=true->
∀J1:Int->Prop,(∀(k1:Int),
((decide (0<(ishr .u64 f1 1))=true->
(p0.P=18446744069414584321/\(0<=b1/\b1<18446744069414584321)/\(0<=b1/\b1<18446744069414584321))/\I1 (b1*b1%18446744069414584321) (ishr .u64 f1 1) k1/\M1 (b1*b1%18446744069414584321) (ishr .u64 f1 1) k1<M1 b1 f1 i1)/\
(decide (0<(ishr .u64 f1 1))=false->
I1 b1 (ishr .u64 f1 1) k1/\M1 b1 (ishr .u64 f1 1) k1<M1 b1 f1 i1))->J1 k1)->
(((iand .u64 f1 1)==1)=true->
(p0.P=18446744069414584321/\(0<=i1/\i1<18446744069414584321)/\(0<=b1/\b1<18446744069414584321))/\J1 (i1*b1%18446744069414584321))/\
(((iand .u64 f1 1)==1)=false->
J1 i1))/\
(decide (0<f1)=false->
i1=r0))) (by kernel_rfl)<|by
 rintro p0 p1 p2 h _ rfl
 obtain⟨hP,h1,h2⟩:=h
 rw[hP]
 refine⟨fun a e r=>(0<=a/\a<18446744069414584321)/\U64 e/\(0<=r/\r<18446744069414584321)/\(r*a^e.toNat)%18446744069414584321=pw p1 p2,fun a e r=>e.toNat,⟨h1,h2,by omega,by rw[Int.one_mul];rfl⟩,?_⟩
 rintro a e r ⟨ha,he,hr,hv⟩
 refine⟨fun h J1 j=> ?_,fun h=> ?_⟩
 ·have h:=of_decide_eq_true h
  have jj:∀r',(0<=r'/\r' <18446744069414584321)->(r' *(a*a)^(e/2).toNat)%18446744069414584321=pw p1 p2->J1 r' :=by
   intro r' hr' hv'
   have hn:∀a',(0<=a'/\a' <18446744069414584321)->r' *a' ^(e/2).toNat%18446744069414584321=pw p1 p2->((0<=a'/\a' <18446744069414584321)/\U64 (e/2)/\(0<=r'/\r' <18446744069414584321)/\r' *a' ^(e/2).toNat%18446744069414584321=pw p1 p2)/\(e/2).toNat<e.toNat:=fun a' h1 h3=>⟨⟨h1,⟨by omega,by omega⟩,hr',h3⟩,by omega⟩
   refine j _ ?_
   rw[ishr1]
   refine⟨fun h=>⟨⟨rfl,ha,ha⟩,?_⟩,fun h=> ?_⟩
   ·refine hn _ ⟨Int.emod_nonneg _ (by omega),Int.emod_lt_of_pos _ (by omega)⟩ ?_
    rw[<-hv',Int.mul_emod,Int.mul_emod r' ((a*a)^_),k4u]
   ·have h:¬0<e/2:=of_decide_eq_false h
    refine hn _ ha ?_
    rw[show(e/2).toNat=0 by omega]at hv' ⊢
    simpa using hv'
  rw[kgf e he]
  have hpow:∀k:Nat,a^(2*k)=(a*a)^k:=fun k=>by rw[Int.pow_mul];congr 1;rw[Int.pow_succ,Int.pow_succ,Int.pow_zero,Int.one_mul]
  refine⟨fun h1=>⟨⟨rfl,hr,ha⟩,?_⟩,fun h1=> ?_⟩
  ·have h1:e%2=1:=by simpa using h1
   refine jj _ ⟨Int.emod_nonneg _ (by omega),Int.emod_lt_of_pos _ (by omega)⟩ ?_
   rw[<-hv,show e.toNat=2*(e/2).toNat+1 by omega,Int.pow_succ,hpow,Int.mul_emod,Int.emod_emod_of_dvd _ (Int.dvd_refl _),<-Int.mul_emod]
   congr 1
   grind
  ·have h1:¬e%2=1:=by simpa using h1
   refine jj _ hr ?_
   rw[<-hv,<-hpow,show e.toNat=2*(e/2).toNat by omega]
 ·have h:¬0<e:=of_decide_eq_false h
  rw[show e.toNat=0 by omega,Int.pow_zero,Int.mul_one,Int.emod_eq_of_lt hr.1 hr.2]at hv
  exact hv
noncomputable def kav:Con TB.den:= .gp 75 [.st 4,yqu,yqu] [yqu] [] fun(p0:wQ) (p1 p2:Int)=>(p0.P=18446744069414584321/\U64 p1/\U64 p2,(pw (p1%18446744069414584321) p2:Int),())
theorem kd8:kav.Ok Try.prog TB:=qrv Bs Try.func75 .no (k13.c (k1j.c (kbj.c c0))) (Q:=∀(p0:wQ) (p1 p2:Int),(p0.P=18446744069414584321/\U64 p1/\U64 p2)->∀r0:Int,(pw (p1%18446744069414584321) p2)=r0-> 
(p0.P=18446744069414584321)/\((!true)=true->
0=r0)/\
((!true)=false->
(0<p0.P/\0<=p1)/\(p0.P=18446744069414584321/\(0<=(p1%p0.P)/\(p1%p0.P)<18446744069414584321)/\U64 p2)/\(pw (p1%p0.P) p2)=r0)) (by kernel_rfl)<|by
 rintro p0 p1 p2 h _ rfl
 obtain⟨hP,h1,h2⟩:=h
 refine⟨hP,fun h=>by simp at h,fun _=>⟨by omega,?_⟩⟩
 simp only[hP]
 exact⟨⟨by trivial,by omega,h2⟩,trivial⟩
noncomputable def k70:Con TB.den:= .gp 87 [.st 4,yqu] [yqu] [] fun(p0:wQ) (p1:Int)=>(p0.P=18446744069414584321/\U64 p1,(p1%18446744069414584321:Int),())
theorem k87:k70.Ok Try.prog TB:=qrv Bs Try.func87 .no (k13.c (k1j.c c0)) (Q:=∀(p0:wQ) (p1:Int),(p0.P=18446744069414584321/\U64 p1)->∀r0:Int,(p1%18446744069414584321)=r0-> 
(p0.P=18446744069414584321)/\((!true)=true->
0=r0)/\
((!true)=false->
(0<p0.P/\0<=p1)/\(p1%p0.P)=r0)) (by kernel_rfl)<|by
 rintro p0 p1 h _ rfl
 obtain⟨hP,h1⟩:=h
 refine⟨hP,fun h=>by simp at h,fun _=>⟨by omega,?_⟩⟩
 simp only[hP]
noncomputable def k35:Con TB.den:= .gp 76 [yqu,yqi,yqi] [yqu] [] fun(p0 p1 p2:Int)=>(p0=18446744069414584321/\(0<=p1/\p1<8)/\0<=p2/\p2<3,(rc p1 p2:Int),())
theorem k3j:k35.Ok Try.prog TB:=qrv Bs Try.func76 .no (k87.c c0) (Q:=∀(p0 p1 p2:Int),(p0=18446744069414584321/\(0<=p1/\p1<8)/\0<=p2/\p2<3)->∀r0:Int,rc p1 p2=r0-> 
(decide (p1<0)=true->
0=r0)/\
(decide (p1<0)=false->
(decide (8<=p1)=true->
0=r0)/\
(decide (8<=p1)=false->
(decide (p2<0)=true->
0=r0)/\
(decide (p2<0)=false->
(decide (2<p2)=true->
0=r0)/\
(decide (2<p2)=false->
let v1:Int:=i64.wrap ((i64.wrap (3*p1))+p2)
let v2:Int:=u64.wrap (i64.wrap (v1+1))
let v3:Int:=u64.wrap (v2*11400714819323198485)
((wQ.mk p0).P=18446744069414584321/\U64 v3)/\(v3%18446744069414584321)=r0))))) (by kernel_rfl)<|by
 rintro p0 p1 p2 h _ rfl
 obtain⟨hP,h1,h2⟩:=h
 refine⟨fun h=> ?_,fun _=>⟨fun h=> ?_,fun _=>⟨fun h=> ?_,fun _=>⟨fun h=> ?_,fun _=> ?_⟩⟩⟩⟩
 ·simp at h;omega
 ·simp at h;omega
 ·simp at h;omega
 ·simp at h;omega
 ·simp only[]
  rw[wi (3*p1) (by omega) (by omega),wi (3*p1+p2) (by omega) (by omega),wi (3*p1+p2+1) (by omega) (by omega),wu (3*p1+p2+1) (by omega) (by omega),u64w]
  exact⟨⟨hP,by omega,by omega⟩,rfl⟩
noncomputable def k5n:Con TB.den:= .gp 77 [yqu,.st 5] [.st 5] [] fun(p0:Int) (p1:wS)=>(p0=18446744069414584321/\S3 p1,(mixS p1:wS),())
theorem k69:k5n.Ok Try.prog TB:=qrv Bs Try.func77 .no (k3a.c c0) (Q:=∀(p0:Int) (p1:wS),(p0=18446744069414584321/\S3 p1)->∀r0:wS,mixS p1=r0-> 
((wQ.mk p0).P=18446744069414584321/\U64 p1.a0/\U64 p1.a1)/\((wQ.mk p0).P=18446744069414584321/\U64 ((p1.a0+p1.a1)%18446744069414584321)/\U64 p1.a2)/\let r1:Int:=((((p1.a0+p1.a1)%18446744069414584321)+p1.a2)%18446744069414584321)
((wQ.mk p0).P=18446744069414584321/\U64 p1.a0/\U64 r1)/\((wQ.mk p0).P=18446744069414584321/\U64 p1.a1/\U64 r1)/\((wQ.mk p0).P=18446744069414584321/\U64 p1.a2/\U64 r1)/\((p1.a0+r1)%18446744069414584321)=r0.a0/\((p1.a1+r1)%18446744069414584321)=r0.a1/\((p1.a2+r1)%18446744069414584321)=r0.a2) (by kernel_rfl)<|by
 rintro p0 p1 h _ rfl
 obtain⟨hP,h0,h1,h2⟩:=h
 refine ?_
 simp only[hP]
 exact⟨⟨by trivial,h0,h1⟩,⟨by trivial,by omega,h2⟩,⟨by trivial,h0,by omega⟩,⟨by trivial,h1,by omega⟩,⟨by trivial,h2,by omega⟩,rfl,rfl,rfl⟩
noncomputable def k3i:Con TB.den:= .gp 66 [yqu,.st 5] [.st 5] [] fun(p0:Int) (p1:wS)=>(p0=18446744069414584321/\S3 p1,(permS p1:wS),())
theorem k3y:k3i.Ok Try.prog TB:=qrv Bs Try.func66 (.r 3 (.nd [] (.r 0 (.lp [] ⟨[0],[.cells [zqu,zqu,zqu]],[17],[.one (zqi)],[]⟩ (.r 1 (.nd [] (.r 0 (.nd [] (.r 0 (.lp [] ⟨[0],[.cells [zqu,zqu,zqu]],[20],[.one (zqi)],[]⟩ .no)) [] .no)) [] .no)))) [] .no)) (k13.c (k6h.c (k3j.c (k3a.c (kd8.c (k69.c c0)))))) (Q:=∀(p0:Int) (p1:wS),(p0=18446744069414584321/\S3 p1)->∀r0:wS,permS p1=r0-> 
((wQ.mk p0).P=18446744069414584321)/\((!true)=true->
0=r0.a0/\0=r0.a1/\0=r0.a2)/\
((!true)=false->
((wQ.mk p0).P=18446744069414584321)/\∃(I1:Int->Int->Int->Int->Prop) (M1:Int->Int->Int->Int->Nat),I1 0 p1.a0 p1.a1 p1.a2/\∀(b1 f1 i1 k1:Int),(I1 b1 f1 i1 k1->
(decide (b1<8)=true->
∃(I2:Int->Int->Int->Int->Prop) (M2:Int->Int->Int->Int->Nat),I2 0 f1 i1 k1/\∀(l1 m1 n1 o1:Int),(I2 l1 m1 n1 o1->
(decide (l1<3)=true->
(0<=l1/\l1<(3:Int))/\(0<=l1/\l1<(3:Int))/\(p0=18446744069414584321/\(0<=b1/\b1<8)/\0<=l1/\l1<3)/\((wQ.mk p0).P=18446744069414584321/\U64 (ix [m1,n1,o1] l1)/\U64 (rc b1 l1))/\let r1:Int:=(((ix [m1,n1,o1] l1)+(rc b1 l1))%18446744069414584321)
((wQ.mk p0).P=18446744069414584321/\U64 r1/\U64 (7:Int))/\let r2:Int:=(pw (r1%18446744069414584321) (7:Int))
(0<=l1/\l1<(3:Int))/\(0<=l1/\l1<(3:Int))/\I2 (i64.wrap (l1+1)) (bif decide (l1=(0:Int))then r2 else m1) (bif decide (l1=(1:Int))then r2 else n1) (bif decide (l1=(2:Int))then r2 else o1)/\M2 (i64.wrap (l1+1)) (bif decide (l1=(0:Int))then r2 else m1) (bif decide (l1=(1:Int))then r2 else n1) (bif decide (l1=(2:Int))then r2 else o1)<M2 l1 m1 n1 o1)/\
(decide (l1<3)=false->
(p0=18446744069414584321/\S3 (wS.mk m1 n1 o1))/\I1 (i64.wrap (b1+1)) ((mixS (wS.mk m1 n1 o1)).a0) ((mixS (wS.mk m1 n1 o1)).a1) ((mixS (wS.mk m1 n1 o1)).a2)/\M1 (i64.wrap (b1+1)) ((mixS (wS.mk m1 n1 o1)).a0) ((mixS (wS.mk m1 n1 o1)).a1) ((mixS (wS.mk m1 n1 o1)).a2)<M1 b1 f1 i1 k1)))/\
(decide (b1<8)=false->
f1=r0.a0/\i1=r0.a1/\k1=r0.a2)))) (by kernel_rfl)<|by
 rintro p0 p1 h _ rfl
 obtain⟨hP,hs⟩:=h
 subst hP
 refine⟨rfl,fun h=>by simp at h,fun _=>⟨rfl,?_⟩⟩
 refine⟨(fun n a b c=>0<=n/\n<=8/\(⟨a,b,c⟩:wS)=rnds n.toNat p1/\S3 ⟨a,b,c⟩),(fun n _ _ _=>(8-n).toNat),⟨by omega,by omega,rfl,hs⟩,?_⟩
 rintro n a b c ⟨g0,g1,g2,g3⟩
 refine⟨fun h=> ?_,fun h=> ?_⟩
 ·have h:=of_decide_eq_true h
  refine⟨(fun i x y z=>(i=0/\x=a/\y=b/\z=c)∨(i=1/\x=pw ((a+rc n 0)%18446744069414584321) 7/\y=b/\z=c)∨(i=2/\x=pw ((a+rc n 0)%18446744069414584321) 7/\y=pw ((b+rc n 1)%18446744069414584321) 7/\z=c)∨(i=3/\x=pw ((a+rc n 0)%18446744069414584321) 7/\y=pw ((b+rc n 1)%18446744069414584321) 7/\z=pw ((c+rc n 2)%18446744069414584321) 7)),(fun i _ _ _=>(3-i).toNat),(.inl ⟨rfl,rfl,rfl,rfl⟩),?_⟩
  intro i x y z hi
  have hrc:∀k,U64 (rc n k):=fun k=>by unfold rc;omega
  have hpw:∀k e,0<=pw k e/\pw k e<18446744069414584321:=fun k e=>⟨Int.emod_nonneg _ (by omega),Int.emod_lt_of_pos _ (by omega)⟩
  obtain⟨h3a,h3b,h3c⟩:=g3
  refine⟨fun hh=> ?_,fun hh=> ?_⟩
  ·have hh:=of_decide_eq_true hh
   rcases hi with⟨rfl,rfl,rfl,rfl⟩|⟨rfl,rfl,rfl,rfl⟩|⟨rfl,rfl,rfl,rfl⟩|⟨rfl,_⟩
   ·refine⟨by omega,by omega,⟨rfl,by omega,by omega⟩,⟨rfl,h3a,hrc _⟩,⟨rfl,?_,by omega⟩,by omega,by omega,.inr (.inl ⟨rfl,?_,rfl,rfl⟩),by(dsimp only;decide)⟩
    ·exact⟨Int.emod_nonneg _ (by omega),Int.lt_trans (Int.emod_lt_of_pos _ (by omega)) (by omega)⟩
    ·show pw ((x+rc n 0)%18446744069414584321%18446744069414584321) 7=_
     rw[Int.emod_emod_of_dvd _ (Int.dvd_refl _)]
   ·refine⟨by omega,by omega,⟨rfl,by omega,by omega⟩,⟨rfl,h3b,hrc _⟩,⟨rfl,?_,by omega⟩,by omega,by omega,.inr (.inr (.inl ⟨rfl,rfl,?_,rfl⟩)),by(dsimp only;decide)⟩
    ·exact⟨Int.emod_nonneg _ (by omega),Int.lt_trans (Int.emod_lt_of_pos _ (by omega)) (by omega)⟩
    ·show pw ((y+rc n 1)%18446744069414584321%18446744069414584321) 7=_
     rw[Int.emod_emod_of_dvd _ (Int.dvd_refl _)]
   ·refine⟨by omega,by omega,⟨rfl,by omega,by omega⟩,⟨rfl,h3c,hrc _⟩,⟨rfl,?_,by omega⟩,by omega,by omega,.inr (.inr (.inr ⟨rfl,rfl,rfl,?_⟩)),by(dsimp only;decide)⟩
    ·exact⟨Int.emod_nonneg _ (by omega),Int.lt_trans (Int.emod_lt_of_pos _ (by omega)) (by omega)⟩
    ·show pw ((z+rc n 2)%18446744069414584321%18446744069414584321) 7=_
     rw[Int.emod_emod_of_dvd _ (Int.dvd_refl _)]
   ·omega
  ·have hh:=of_decide_eq_false hh
   rcases hi with⟨rfl,_⟩|⟨rfl,_⟩|⟨rfl,_⟩|⟨rfl,rfl,rfl,rfl⟩
   ·omega
   ·omega
   ·omega
   ·have e:rnds (n+1).toNat p1=rnd ⟨a,b,c⟩ n:=by
     rw[show(n+1).toNat=n.toNat+1 by omega]
     show rnd (rnds n.toNat p1) (n.toNat:Int)=_
     rw[<-g2,show(n.toNat:Int)=n by omega]
    have hS:S3 (rnds (n+1).toNat p1):=by
     rw[e]
     unfold rnd mixS S3
     dsimp only
     omega
    have hinc:i64.wrap (n+1)=n+1:=wi _ (by omega) (by omega)
    rw[hinc]
    refine⟨⟨rfl,by unfold S3;have:=hpw ((a+rc n 0)%18446744069414584321) 7;have:=hpw ((b+rc n 1)%18446744069414584321) 7;have:=hpw ((c+rc n 2)%18446744069414584321) 7;dsimp only;omega⟩,(?_:0<=n+1/\n+1<=8/\_/\_),(?_:(8-(n+1)).toNat<(8-n).toNat)⟩
    ·refine⟨by omega,by omega,e.symm,?_⟩
     rw[e]at hS
     exact hS
    ·omega
 ·have h:=of_decide_eq_false h
  rw[show n=8 by omega]at g2
  have g2:(⟨a,b,c⟩:wS)=permS p1:=g2
  rw[<-g2]
  exact⟨rfl,rfl,rfl⟩
noncomputable def k6f:Con TB.den:= .gp 60 [yqu,yqu,.sl yqu] [.st 5] [] fun(p0 p1:Int) (p2:List Int)=>(p0=18446744069414584321/\U64 p1/\Us p2/\p2.length<=1099511627776,(absS p1 p2:wS),())
theorem k7y:k6f.Ok Try.prog TB:=qrv Bs Try.func60 (.r 3 (.nd [] (.r 0 (.lp [] ⟨[38],[.cells [zqu,zqu,zqu]],[9],[.one (zqi)],[]⟩ (.r 0 (.nd [] (.r 0 (.jn ⟨[38],[.cells [zqu,zqu,zqu]],[],[],[]⟩ [] .no [] .no)) [] .no)))) [] .no)) (kbi.c (k3a.c (k3y.c c0))) (Q:=∀(p0 p1:Int) (p2:List Int),(p0=18446744069414584321/\U64 p1/\Us p2/\p2.length<=1099511627776)->∀r0:wS,absS p1 p2=r0-> 
((wQ.mk p0).P=18446744069414584321/\U64 p1/\U64 (65536:Int))/\let r1:Int:=(p1*(65536:Int)%18446744069414584321)
((wQ.mk p0).P=18446744069414584321/\U64 r1/\U64 (u64.wrap (p2.length:Int)))/\let r2:Int:=((r1+(u64.wrap (p2.length:Int)))%18446744069414584321)
(((p2.length:Int)==0)=true->
(p0=18446744069414584321/\S3 (wS.mk 0 0 r2))/\(permS (wS.mk 0 0 r2)).a0=r0.a0/\(permS (wS.mk 0 0 r2)).a1=r0.a1/\(permS (wS.mk 0 0 r2)).a2=r0.a2)/\
(((p2.length:Int)==0)=false->
∃(I1:Int->Int->Int->Int->Prop) (M1:Int->Int->Int->Int->Nat),I1 0 0 0 r2/\∀(b1 f1 i1 k1:Int),(I1 b1 f1 i1 k1->
(decide (b1<(p2.length:Int))=true->
(0<=b1)/\b1<(p2.length:Int)/\((wQ.mk p0).P=18446744069414584321/\U64 f1/\U64 (ix p2 b1))/\let r3:Int:=((f1+(ix p2 b1))%18446744069414584321)
∀J1:Int->Int->Int->Prop,(∀(l1 m1 n1:Int),
((p0=18446744069414584321/\S3 (wS.mk l1 m1 n1))/\I1 (i64.wrap (b1+2)) ((permS (wS.mk l1 m1 n1)).a0) ((permS (wS.mk l1 m1 n1)).a1) ((permS (wS.mk l1 m1 n1)).a2)/\M1 (i64.wrap (b1+2)) ((permS (wS.mk l1 m1 n1)).a0) ((permS (wS.mk l1 m1 n1)).a1) ((permS (wS.mk l1 m1 n1)).a2)<M1 b1 f1 i1 k1)->J1 l1 m1 n1)->
let v4:Bool:=decide ((i64.wrap (b1+1))<(p2.length:Int))
(v4=true->
(0<=i64.wrap (b1+1))/\i64.wrap (b1+1)<(p2.length:Int)/\((wQ.mk p0).P=18446744069414584321/\U64 i1/\U64 (ix p2 (i64.wrap (b1+1))))/\let r5:Int:=((i1+(ix p2 (i64.wrap (b1+1))))%18446744069414584321)
J1 r3 r5 k1)/\
(v4=false->
J1 r3 i1 k1))/\
(decide (b1<(p2.length:Int))=false->
f1=r0.a0/\i1=r0.a1/\k1=r0.a2)))) (by kernel_rfl)<|by
 rintro p0 p1 p2 h _ rfl
 obtain⟨hP,h1,h2,h3⟩:=h
 subst hP
 have hp:∀s:wS,S3 (permS s):=fun s=>by
  show S3 (rnd _ _)
  unfold rnd mixS S3
  dsimp only
  omega
 have hi:S3 (absI p1 p2):=by unfold absI S3;dsimp only;omega
 have e:u64.wrap (p2.length:Int)=p2.length:=wu _ (by omega) (by omega)
 have em:(p1*65536%18446744069414584321+(p2.length:Int))%18446744069414584321=(absI p1 p2).a2:=rfl
 rw[e]
 refine⟨⟨rfl,h1,by omega⟩,⟨rfl,by omega,by omega⟩,fun h=> ?_,fun h=> ?_⟩
 ·have h:p2=[]:=by simpa using h
  refine⟨⟨rfl,?_⟩,?_⟩
  ·exact hi
  ·have:permS ⟨0,0,(p1*65536%18446744069414584321+(p2.length:Int))%18446744069414584321⟩=absS p1 p2:=by unfold absS;rw[if_pos h];rfl
   rw[this]
   exact⟨rfl,rfl,rfl⟩
 ·have h:p2≠[]:=by simpa using h
  have hv:absL p2 (absI p1 p2)=absS p1 p2:=by unfold absS;rw[if_neg h]
  rw[em]
  refine⟨fun i a b c=>0<=i/\i<=p2.length+1/\absL (p2.drop i.toNat) ⟨a,b,c⟩=absS p1 p2/\S3 ⟨a,b,c⟩,fun i _ _ _=>(p2.length+2-i).toNat,⟨by omega,by omega,hv,hi⟩,?_⟩
  rintro i a b c ⟨g0,g1,g2,g3⟩
  obtain⟨h3a,h3b,h3c⟩:=g3
  refine⟨fun hh=> ?_,fun hh=> ?_⟩
  ·have hh:=of_decide_eq_true hh
   have hx:=h2 _ (ix_mem p2 i g0 hh)
   refine⟨g0,hh,⟨rfl,h3a,hx⟩,fun J1 j=> ?_⟩
   rw[wi (i+1) (by omega) (by omega)]
   have fin:∀x y z,S3 ⟨x,y,z⟩->absL (p2.drop (i+2).toNat) (permS ⟨x,y,z⟩)=absS p1 p2->J1 x y z:=by
    intro x y z hS hv'
    refine j _ _ _ ?_
    rw[wi (i+2) (by omega) (by omega)]
    exact⟨⟨rfl,hS⟩,⟨by omega,by omega,hv',hp _⟩,by(dsimp only;omega)⟩
   have hdrop:=drop_ix p2 i g0 hh
   rw[hdrop]at g2
   refine⟨fun h5=> ?_,fun h5=> ?_⟩
   ·have h5:=of_decide_eq_true h5
    have hy:=h2 _ (ix_mem p2 (i+1) (by omega) h5)
    rw[drop_ix p2 (i+1) (by omega) h5,show i+1+1=i+2 by omega]at g2
    exact⟨by omega,h5,⟨rfl,h3b,hy⟩,fin _ _ _ (S3m (by omega) (by omega) h3c) g2⟩
   ·have h5:=of_decide_eq_false h5
    have ed:p2.drop (i+1).toNat=[]:=List.drop_eq_nil_of_le (by omega)
    have ed2:p2.drop (i+2).toNat=[]:=List.drop_eq_nil_of_le (by omega)
    rw[ed]at g2
    exact fin _ _ _ (S3m (by omega) h3b h3c) (by rw[ed2];exact g2)
  ·have hh:=of_decide_eq_false hh
   rw[List.drop_eq_nil_of_le (by omega)]at g2
   have g2:(⟨a,b,c⟩:wS)=absS p1 p2:=g2
   rw[<-g2]
   exact⟨rfl,rfl,rfl⟩
noncomputable def k81:Con TB.den:= .gp 44 [yqu,yqu,.sl yqu] [yqu] [] fun(p0 p1:Int) (p2:List Int)=>(p0=18446744069414584321/\U64 p1/\Us p2/\p2.length<=1099511627776,(hashS p1 p2:Int),())
theorem k98:k81.Ok Try.prog TB:=qrv Bs Try.func44 .no (k13.c (k7y.c c0)) (Q:=∀(p0 p1:Int) (p2:List Int),(p0=18446744069414584321/\U64 p1/\Us p2/\p2.length<=1099511627776)->∀r0:Int,hashS p1 p2=r0-> 
((wQ.mk p0).P=18446744069414584321)/\((!true)=true->
0=r0)/\
((!true)=false->
(p0=18446744069414584321/\U64 p1/\Us p2/\p2.length<=1099511627776)/\(absS p1 p2).a0=r0)) (by kernel_rfl)<|by
 rintro p0 p1 p2 h _ rfl
 obtain⟨hP,h1,h2,h3⟩:=h
 subst hP
 exact⟨rfl,fun h=>by simp at h,fun _=>⟨⟨rfl,h1,h2,h3⟩,rfl⟩⟩
noncomputable def k7z:Con TB.den:= .gp 45 [.sl yqb] [.sl yqu] [] fun(p0:List Int)=>(By p0/\p0.length<=1099511627776,(packS p0:List Int),())
theorem k9c:k7z.Ok Try.prog TB:=qrv Bs Try.func45 (.r 2 (.nd [] (.r 0 (.lp [.frz 0 [3]] ⟨[1],[.tip yqu],[3,4],[.one (.own 0),.one (zqi)],[]⟩ (.r 0 (.nd [] (.r 1 (.nd [] (.r 0 (.lp [] ⟨[],[],[6,37],[.one (zqu),.one (zqi)],[]⟩ .no)) [] .no)) [] .no)))) [] .no)) c0 (Q:=∀(p0:List Int),(By p0/\p0.length<=1099511627776)->∀r0:List Int,packS p0=r0-> 
let v1:Int:=i64.wrap ((i64.wrap ((p0.length:Int)+7))-1)
let v2:Int:=i64.wrap (1+(i64.wrap (Int.tdiv v1 7)))
0<=(1:Int)/\(1:Int)<=v2/\(v2.toNat*8<=140737488355328)/\(v2.toNat<=maxLen)/\(0<=(0:Int)/\0<(1:Int))/\(0<=(0:Int)/\0<((List.replicate 1 (0:Int)).length:Int))/\(1=((List.replicate 1 (0:Int)).set (0:Int).toNat (u64.wrap (p0.length:Int))).length)/\((List.replicate 1 (0:Int)).set (0:Int).toNat (u64.wrap (p0.length:Int))=(List.replicate 1 (0:Int)).set (0:Int).toNat (u64.wrap (p0.length:Int)))/\∃(I1:Int->(List Int)->Prop) (M1:Int->(List Int)->Nat),I1 0 ((List.replicate 1 (0:Int)).set (0:Int).toNat (u64.wrap (p0.length:Int)))/\∀(b1:Int) (f1:List Int),(I1 b1 f1->
(decide (b1<(p0.length:Int))=true->
let v3:Int:=(if(p0.length:Int)<i64.wrap (b1+7)then(p0.length:Int)else i64.wrap (b1+7))
(0<=b1)/\b1<=v3/\v3<=(p0.length:Int)/\let v4:Int:=(((p0.take v3.toNat).drop b1.toNat).length:Int)
∃(I2:Int->Int->Prop) (M2:Int->Int->Nat),I2 0 0/\∀(i1 k1:Int),(I2 i1 k1->
(decide (k1<v4)=true->
(0<=k1)/\k1<(((p0.take v3.toNat).drop b1.toNat).length:Int)/\let v5:Int:=u64.wrap (ix ((p0.take v3.toNat).drop b1.toNat) k1)
(0<=i64.wrap (8*k1))/\let v6:Int:=ior .u64 i1 (ishl .u64 v5 (i64.wrap (8*k1)))
I2 v6 (i64.wrap (k1+1))/\M2 v6 (i64.wrap (k1+1))<M2 i1 k1)/\
(decide (k1<v4)=false->
f1.length=f1.length/\(f1.length+[i1].length)*8<=140737488355328/\f1.length+[i1].length<=maxLen/\(f1++[i1]=f1++[i1])/\I1 (i64.wrap (b1+7)) (f1++[i1])/\M1 (i64.wrap (b1+7)) (f1++[i1])<M1 b1 f1)))/\
(decide (b1<(p0.length:Int))=false->
f1=r0))) (by kernel_rfl)<|by
 rintro p0 h _ rfl
 obtain⟨hb,hl⟩:=h
 refine ?_
 rw[wi ((p0.length:Int)+7) (by omega) (by omega),wi ((p0.length:Int)+7-1) (by omega) (by omega)]
 try simp only[]
 rw[tdiv_nn _ _ (by omega),wi (((p0.length:Int)+7-1)/7) (by omega) (by omega),wi (1+((p0.length:Int)+7-1)/7) (by omega) (by omega),wu (p0.length:Int) (by omega) (by omega)]
 refine⟨by omega,by omega,by omega,by unfold maxLen;omega,by omega,⟨by omega,by decide⟩,by trivial,by trivial,?_⟩
 refine⟨(fun i g=>0<=i/\i<=p0.length+7/\g++packN p0.length (p0.drop i.toNat)=packS p0/\(g.length:Int)<=1+i),(fun i _=>(p0.length+7-i).toNat),⟨by omega,by omega,rfl,by show(1:Int)<=_;omega⟩,?_⟩
 rintro i g ⟨g0,g1,g2,g3⟩
 refine⟨fun h=> ?_,fun h=> ?_⟩
 ·have h:=of_decide_eq_true h
  have h7:i64.wrap (i+7)=i+7:=wi (i+7) (by omega) (by omega)
  rw[h7]
  have ev:((p0.take (if(p0.length:Int)<i+7 then(p0.length:Int)else i+7).toNat).drop i.toNat)=(p0.drop i.toNat).take 7:=by
   split
   ·rw[Int.toNat_natCast,List.take_length,List.take_of_length_le (by simp;omega)]
   ·rw[List.drop_take,show(i+7).toNat-i.toNat=7 by omega]
  simp only[ev]
  refine⟨g0,by split<;>omega,by split<;>omega,?_⟩
  have hpb:By ((p0.drop i.toNat).take 7):=(hb.drop _).take _
  have hpl:((p0.drop i.toNat).take 7).length<=7:=by simp;omega
  have hnext:g++[val ((p0.drop i.toNat).take 7)]++packN p0.length (p0.drop (i+7).toNat)=packS p0:=by
   rw[<-g2,List.append_assoc]
   congr 1
   have h5:(p0.drop i.toNat).length<=p0.length:=by simp
   have h6:=k2z p0.length (p0.drop i.toNat) h5 (by intro h7;have:=congrArg List.length h7;simp at this;omega)
   rw[h6,List.drop_drop,show i.toNat+7=(i+7).toNat by omega]
   rfl
  generalize (p0.drop i.toNat).take 7=part at *
  refine⟨(fun n k=>0<=k/\k<=part.length/\n=val (part.take k.toNat)),(fun _ k=>(part.length-k).toNat),⟨by omega,by omega,rfl⟩,?_⟩
  rintro n k ⟨k0,k1,rfl⟩
  refine⟨fun hk=> ?_,fun hk=> ?_⟩
  ·have hk:=of_decide_eq_true hk
   have hx:=hpb _ (ix_mem part k k0 hk)
   have hlen:((part.take k.toNat).length:Int)=k:=by rw[List.length_take];omega
   rw[wi (8*k) (by omega) (by omega),wu (ix part k) (by omega) (by omega),wi (k+1) (by omega) (by omega)]
   have:=ior_val (part.take k.toNat) (ix part k) (hpb.take _) (by omega) hx
   rw[hlen]at this
   simp only[this]
   refine⟨k0,hk,by omega,⟨by omega,by omega,?_⟩,by omega⟩
   rw[ka part k k0 hk]
  ·have hk:=of_decide_eq_false hk
   have e1:part.take k.toNat=part:=List.take_of_length_le (by omega)
   rw[e1]
   refine⟨by trivial,by simp only[List.length_cons,List.length_nil];omega,by simp only[List.length_cons,List.length_nil];unfold maxLen;omega,by trivial,(?_:0<=i+7/\i+7<=p0.length+7/\_/\_),(?_:(p0.length+7-(i+7)).toNat<(p0.length+7-i).toNat)⟩
   ·exact⟨by omega,by omega,hnext,by simp only[List.length_append,List.length_cons,List.length_nil];omega⟩
   ·omega
 ·have h:=of_decide_eq_false h
  rw[List.drop_eq_nil_of_le (by omega)]at g2
  have:packN p0.length ([]:List Int)=[]:=by cases p0.length<;>rfl
  rw[this,List.append_nil]at g2
  exact g2
noncomputable def k4k:Con TB.den:= .gp 26 [yqu,.sl yqb] [yqu] [] fun(p0:Int) (p1:List Int)=>(U64 p0/\By p1/\p1.length<=1099511627775,(hashB p0 p1:Int),())
theorem k29:k4k.Ok Try.prog TB:=qrv Bs Try.func26 .no (k9c.c (k98.c c0)) (Q:=∀(p0:Int) (p1:List Int),(U64 p0/\By p1/\p1.length<=1099511627775)->∀r0:Int,hashB p0 p1=r0-> 
(By p1/\p1.length<=1099511627776)/\((18446744069414584321:Int)=18446744069414584321/\U64 p0/\Us (packS p1)/\(packS p1).length<=1099511627776)/\(hashS p0 (packS p1))=r0) (by kernel_rfl)<|by
 rintro p0 p1 h _ rfl
 obtain⟨h1,h2,h3⟩:=h
 refine⟨⟨h2,by omega⟩,⟨rfl,h1,?_,?_⟩,rfl⟩
 ·intro x hx
  rcases List.mem_cons.1 hx with rfl|hx
  ·omega
  ·exact k7b _ _ h2 x hx
 ·have:=k27 p1.length p1
  simp only[packS,List.length_cons]
  omega
noncomputable def k4z:Con TB.den:= .gp 14 [.st 2,.sl yqu] [yqu] [] fun(p0:wB) (p1:List Int)=>(BR p0/\p0.Txs.length<=64/\Us p1/\p1.length<=64,(hashB 15 (hdrS p0++p1.flatMap (dig 8)):Int),())
theorem k28:k4z.Ok Try.prog TB:=qrv Bs Try.func14 (.r 1 (.nd [] (.r 0 (.lp [] ⟨[],[],[5,12],[.one (.d (.sl yqb)),.one (zqi)],[]⟩ .no)) [] .no)) (k3l.c (k3g.c (k29.c c0))) (Q:=∀(p0:wB) (p1:List Int),(BR p0/\p0.Txs.length<=64/\Us p1/\p1.length<=64)->∀r0:Int,(hashB 15 (hdrS p0++p1.flatMap (dig 8)))=r0-> 
(BR p0/\p0.Txs.length<=64)/\∃(I1:(List Int)->Int->Prop) (M1:(List Int)->Int->Nat),I1 (hdrS p0) 0/\∀(b1:List Int) (f1:Int),(I1 b1 f1->
(decide (f1<(p1.length:Int))=true->
(0<=f1)/\f1<(p1.length:Int)/\(U64 (ix p1 f1)/\b1.length<=137438953472)/\I1 (b1++dig 8 (ix p1 f1)) (i64.wrap (f1+1))/\M1 (b1++dig 8 (ix p1 f1)) (i64.wrap (f1+1))<M1 b1 f1)/\
(decide (f1<(p1.length:Int))=false->
(U64 (15:Int)/\By b1/\b1.length<=1099511627775)/\(hashB (15:Int) b1)=r0))) (by kernel_rfl)<|by
 rintro p0 p1 h _ rfl
 obtain⟨hr,hl,hu,hul⟩:=h
 refine⟨⟨hr,hl⟩,⟨(fun l i=>0<=i/\i<=p1.length/\l=hdrS p0++(p1.take i.toNat).flatMap (dig 8)),(fun _ i=>(p1.length-i).toNat),⟨by omega,by omega,by simp⟩,?_⟩⟩
 rintro l i ⟨g0,g1,rfl⟩
 have hle:(hdrS p0++(p1.take i.toNat).flatMap (dig 8)).length<=1000:=by
  rw[List.length_append,k2o,k15,List.length_take]
  omega
 refine⟨fun hh=> ?_,fun hh=> ?_⟩
 ·have hh:=of_decide_eq_true hh
  have hm:=ix_mem p1 i g0 hh
  rw[inc i p1.length g0 hh (by omega)]
  refine⟨g0,hh,⟨hu _ hm,by omega⟩,⟨by omega,by omega,?_⟩,by(first|omega|(dsimp only;omega))⟩
  rw[ka p1 i g0 hh,List.flatMap_append,List.append_assoc]
  simp
 ·have hh:=of_decide_eq_false hh
  rw[List.take_of_length_le (by omega)]at hle ⊢
  exact⟨⟨by omega,(hdrS_by p0).append (k77 p1),by omega⟩,rfl⟩
noncomputable def kg2:Con TB.den:= .gp 24 [.st 1] [yqu] [] fun(p0:wJ)=>(TR p0,(idS p0:Int),())
theorem kga:kg2.Ok Try.prog TB:=qrv Bs Try.func24 .no (k3e.c (k29.c c0)) (Q:=∀(p0:wJ),(TR p0)->∀r0:Int,idS p0=r0-> 
(TR p0)/\let r1:List Int:=(if validE p0=0 then encT p0 p0.wO else [])
(((validE p0) !=0)=true->
0=r0)/\
(((validE p0) !=0)=false->
(U64 (14:Int)/\By r1/\r1.length<=1099511627775)/\(hashB (14:Int) r1)=r0)) (by kernel_rfl)<|by
 rintro p0 h _ rfl
 refine⟨h,?_⟩
 unfold idS
 refine⟨fun e=> ?_,fun e=> ?_⟩
 ·have e:validE p0≠0:=by simpa using e
  rw[if_neg e]
 ·have e:validE p0=0:=by simpa using e
  have v:=(kr p0).1 e
  rw[if_pos e,if_pos e]
  exact⟨⟨by omega,encT_by h.p,by have:=v.enc_len p0.wO;have:=v.pl;omega⟩,rfl⟩
noncomputable def k4b:Con TB.den:= .gp 13 [.st 2] [.sl yqu] [] fun(p0:wB)=>((∀x∈p0.Txs,TR x)/\p0.Txs.length<=64,(p0.Txs.map idS:List Int),())
theorem k25:k4b.Ok Try.prog TB:=qrv Bs Try.func13 (.r 1 (.nd [] (.r 0 (.lp [.frz 1 [3]] ⟨[2],[.tip yqu],[3,13],[.one (.own 0),.one (zqi)],[]⟩ .no)) [] .no)) (kga.c c0) (Q:=∀(p0:wB),((∀x∈p0.Txs,TR x)/\p0.Txs.length<=64)->∀r0:List Int,p0.Txs.map idS=r0-> 
0<=(0:Int)/\(0:Int)<=(p0.Txs.length:Int)/\((p0.Txs.length:Int).toNat*8<=140737488355328)/\((p0.Txs.length:Int).toNat<=maxLen)/\(0=(List.replicate 0 (0:Int)).length)/\(List.replicate 0 (0:Int)=List.replicate 0 (0:Int))/\∃(I1:Int->(List Int)->Prop) (M1:Int->(List Int)->Nat),I1 0 (List.replicate 0 (0:Int))/\∀(b1:Int) (f1:List Int),(I1 b1 f1->
(decide (b1<(p0.Txs.length:Int))=true->
(0<=b1)/\b1<(p0.Txs.length:Int)/\(TR (ix p0.Txs b1))/\f1.length=f1.length/\(f1.length+[(idS (ix p0.Txs b1))].length)*8<=140737488355328/\f1.length+[(idS (ix p0.Txs b1))].length<=maxLen/\(f1++[(idS (ix p0.Txs b1))]=f1++[(idS (ix p0.Txs b1))])/\I1 (i64.wrap (b1+1)) (f1++[(idS (ix p0.Txs b1))])/\M1 (i64.wrap (b1+1)) (f1++[(idS (ix p0.Txs b1))])<M1 b1 f1)/\
(decide (b1<(p0.Txs.length:Int))=false->
f1=r0))) (by kernel_rfl)<|by
 rintro p0 h _ rfl
 obtain⟨hr,hl⟩:=h
 refine⟨by omega,by omega,by omega,by unfold maxLen;omega,by simp,rfl,?_⟩
 refine⟨(fun i g=>0<=i/\i<=p0.Txs.length/\g=(p0.Txs.take i.toNat).map idS),(fun i _=>(p0.Txs.length-i).toNat),⟨by omega,by omega,by simp⟩,?_⟩
 rintro i g ⟨g0,g1,rfl⟩
 refine⟨fun hh=> ?_,fun hh=> ?_⟩
 ·have hh:=of_decide_eq_true hh
  have hm:=ix_mem p0.Txs i g0 hh
  rw[inc i p0.Txs.length g0 hh (by omega)]
  refine⟨g0,hh,hr _ hm,rfl,by simp;omega,by simp;unfold maxLen;omega,rfl,⟨by omega,by omega,?_⟩,by(first|omega|(dsimp only;omega))⟩
  rw[ka p0.Txs i g0 hh]
  simp
 ·have hh:=of_decide_eq_false hh
  rw[List.take_of_length_le (by omega)]
noncomputable def k8l:Con TB.den:= .gp 9 [.st 6,.st 2] [yqi] [] fun(p0:wW) (p1:wB)=>(BR p1,(checkB p0.wG p1:Int),())
theorem k9b:k8l.Ok Try.prog TB:=qrv Bs Try.func9 .no (k2e.c (k25.c (k28.c c0))) (Q:=∀(p0:wW) (p1:wB),(BR p1)->∀r0:Int,checkB p0.wG p1=r0-> 
(∀x∈p1.Txs,TR x)/\(((validB p1) !=0)=true->
(validB p1)=r0)/\
(((validB p1) !=0)=false->
((p1.wG !=p0.wG)=true->
17=r0)/\
((p1.wG !=p0.wG)=false->
((∀x∈p1.Txs,TR x)/\p1.Txs.length<=64)/\(BR p1/\p1.Txs.length<=64/\Us (p1.Txs.map idS)/\(p1.Txs.map idS).length<=64)/\let r1:Int:=(hashB 15 (hdrS p1++(p1.Txs.map idS).flatMap (dig 8)))
(p1.wG≠0)/\(((Int.tmod r1 p1.wG) !=0)=true->
17=r0)/\
(((Int.tmod r1 p1.wG) !=0)=false->
0=r0)))) (by kernel_rfl)<|by
 rintro p0 p1 h _ rfl
 unfold checkB
 refine⟨h.t,fun e=> ?_,fun e=> ?_⟩
 ·have e:validB p1≠0:=by simpa using e
  rw[if_pos e]
 ·have e:validB p1=0:=by simpa using e
  have v:=(k1l p1).1 e
  have hl:=v.h.l
  have hw:=v.h.w0
  rw[if_neg (by simp[e])]
  refine⟨fun e2=> ?_,fun e2=> ?_⟩
  ·have e2:p1.wG≠p0.wG:=by simpa using e2
   rw[if_pos e2]
  ·have e2:p1.wG=p0.wG:=by simpa using e2
   rw[if_neg (by simp[e2])]
   have hu:Us (p1.Txs.map idS):=idS_us _
   refine⟨⟨h.t,hl⟩,⟨h,hl,hu,by simp;omega⟩,by omega,fun e3=> ?_,fun e3=> ?_⟩
   ·rw[if_pos (by simpa[namS]using e3)]
   ·rw[if_neg (by simpa[namS]using e3)]
noncomputable def k7e:Con TB.den:= .gp 28 [.sl yqu] [.sl yqu] [] fun(p0:List Int)=>(p0.length<=4294967295,p0,())
theorem k8z:k7e.Ok Try.prog TB:=qrv Bs Try.func28 .no c0 (Q:=∀(p0:List Int),(p0.length<=4294967295)->∀r0:List Int,p0=r0-> 
∀z4:Bool,(z4=true->p0=[])->(z4=true->
([]:List Int)=r0)/\
(z4=false->
(([]:List Int).length+p0.length)*8<=140737488355328/\([]:List Int).length+p0.length<=maxLen/\([]:List Int)++p0=r0)) (by kernel_rfl)<|by
 rintro p0 h _ rfl
 refine fun z hz=>⟨fun h=>(hz h).symm,fun h=>⟨by simp;omega,by simp;unfold maxLen;omega,rfl⟩⟩
noncomputable def k4v:Con TB.den:= .g ⟨29,[.one (.d (.sl (.st 0)))],[],(.one (.one (.row 0))),[.vec (.st 0)],false⟩ [.sl (.st 0)] [.sl (.st 0)] [] fun(p0:List wU)=>(p0.length<=4294967295,p0,())
theorem k5l:k4v.Ok Try.prog TB:=prx Bs [5,7] Try.func29 (.r 0 (.nd [] (.r 0 (.nd [] (.r 0 (.rt [.rnil 2 (.st 0)])) [] .no)) [] .no)) x0 c0 (Q:=∀(p0:List wU),(p0.length<=4294967295)->∀e0:List wU,p0=e0-> 
∀z4:Bool,(z4=true->p0=[])->(z4=true->
(0=([]:List wU).length)/\([]:List wU)=e0)/\
(z4=false->
([]:List wU).length=([]:List wU).length/\(([]:List wU).length+p0.length)*48<=140737488355328/\([]:List wU).length+p0.length<=maxLen/\((([]:List wU)++p0).length=(([]:List wU)++p0).length)/\([]:List wU)++p0=e0)) (by kernel_rfl)<|by
 rintro p0 h _ rfl
 intro z hz
 refine⟨fun e=> ?_,fun e=> ?_⟩
 ·rw[hz e];exact⟨rfl,rfl⟩
 ·refine⟨rfl,?_,?_,rfl,rfl⟩<;>simp only[List.length_nil]<;>(try unfold maxLen)<;>omega
noncomputable def k5j:Con TB.den:= .g ⟨27,[.one (.d (.sl (.st 1)))],[],(.one (.one (.row 0))),[.vec (.st 1)],false⟩ [.sl (.st 1)] [.sl (.st 1)] [] fun(p0:List wJ)=>(p0.length<=4294967295,p0,())
theorem k5y:k5j.Ok Try.prog TB:=prx Bs [5,7] Try.func27 (.r 0 (.nd [] (.r 0 (.nd [] (.r 0 (.rt [.rnil 2 (.st 1)])) [] .no)) [] .no)) x0 c0 (Q:=∀(p0:List wJ),(p0.length<=4294967295)->∀e0:List wJ,p0=e0-> 
∀z4:Bool,(z4=true->p0=[])->(z4=true->
(0=([]:List wJ).length)/\([]:List wJ)=e0)/\
(z4=false->
([]:List wJ).length=([]:List wJ).length/\(([]:List wJ).length+p0.length)*128<=140737488355328/\([]:List wJ).length+p0.length<=maxLen/\((([]:List wJ)++p0).length=(([]:List wJ)++p0).length)/\([]:List wJ)++p0=e0)) (by kernel_rfl)<|by
 rintro p0 h _ rfl
 intro z hz
 refine⟨fun e=> ?_,fun e=> ?_⟩
 ·rw[hz e];exact⟨rfl,rfl⟩
 ·refine⟨rfl,?_,?_,rfl,rfl⟩<;>simp only[List.length_nil]<;>(try unfold maxLen)<;>omega
noncomputable def k46:Con TB.den:= .gp 30 [.sl yqb] [.sl yqb] [] fun(p0:List Int)=>(p0.length<=4294967295,p0,())
theorem k4q:k46.Ok Try.prog TB:=qrv Bs Try.func30 .no c0 (Q:=∀(p0:List Int),(p0.length<=4294967295)->∀r0:List Int,p0=r0-> 
∀z4:Bool,(z4=true->p0=[])->(z4=true->
([]:List Int)=r0)/\
(z4=false->
(([]:List Int).length+p0.length)*1<=140737488355328/\([]:List Int).length+p0.length<=maxLen/\([]:List Int)++p0=r0)) (by kernel_rfl)<|by
 rintro p0 h _ rfl
 intro z hz
 refine⟨fun e=>(hz e).symm,fun e=> ?_⟩
 refine⟨?_,?_,rfl⟩<;>simp only[List.length_nil]<;>(try unfold maxLen)<;>omega
noncomputable def k91:Con TB.den:= .gp 15 [.st 2] [.st 2] [] fun(p0:wB)=>(p0.Txs.length<=4294967295/\∀x∈p0.Txs,TL x,p0,())
theorem k92:k91.Ok Try.prog TB:=qrv Bs Try.func15 (.r 1 (.nd [] (.r 0 (.lp [] ⟨[2],[.vec (.st 1)],[13],[.one (zqi)],[]⟩ (.r 1 (.nd [] (.r 3 (.nd [] (.r 0 (.lp [] ⟨[3],[.vec (.st 0)],[41],[.one (zqi)],[]⟩ .no)) [.frzf 3 2] .no)) [] .no)))) [] (.r 0 (.rt [.frzc 2 1 5])))) (k5y.c (k8z.c (k5l.c (k4q.c c0)))) (Q:=∀(p0:wB),(p0.Txs.length<=4294967295/\∀x∈p0.Txs,TL x)->∀r0:wB,p0=r0-> 
(p0.Txs.length<=4294967295)/\∃(I1:Int->(List wJ)->Prop) (M1:Int->(List wJ)->Nat),I1 0 p0.Txs/\∀(b1:Int) (f1:List wJ),(I1 b1 f1->
(decide (b1<(p0.Txs.length:Int))=true->
(0<=b1/\b1<(p0.Txs.length:Int))/\(0<=b1/\b1<(f1.length:Int))/\(((ix f1 b1).wF).length<=4294967295)/\(0<=b1/\b1<(f1.length:Int))/\let v1:List wJ:=f1.set b1.toNat (wJ.mk ((ix f1 b1).wT) ((ix f1 b1).wF) ((ix f1 b1).wA) ((ix f1 b1).wL) ((ix f1 b1).wI) ((ix f1 b1).Fee) ((ix f1 b1).wN) ((ix f1 b1).wD) ((ix f1 b1).wM) ((ix f1 b1).wO))
(0<=b1/\b1<(v1.length:Int))/\(((ix v1 b1).wA).length<=4294967295)/\(0<=b1/\b1<(v1.length:Int))/\(0<=b1/\b1<(v1.length:Int))/\b1=b1/\∃(I2:Int->(List wU)->Prop) (M2:Int->(List wU)->Nat),I2 0 ((ix v1 b1).wA)/\∀(i1:Int) (k1:List wU),(I2 i1 k1->
let v2:Bool:=decide (i1<(((ix v1 b1).wA).length:Int))
(v2=true->
(0<=b1/\b1<(v1.length:Int))/\b1=b1/\(0<=b1/\b1<(v1.length:Int))/\b1=b1/\(0<=i1/\i1<(((ix v1 b1).wA).length:Int))/\(0<=i1/\i1<(k1.length:Int))/\(((ix k1 i1).wC).length<=4294967295)/\(0<=i1/\i1<(((ix v1 b1).wA).length:Int))/\(0<=i1/\i1<(k1.length:Int))/\I2 (i64.wrap (i1+1)) (k1.set i1.toNat (wU.mk ((ix k1 i1).wV) ((ix k1 i1).wR) ((ix k1 i1).wP) ((ix k1 i1).wC)))/\M2 (i64.wrap (i1+1)) (k1.set i1.toNat (wU.mk ((ix k1 i1).wV) ((ix k1 i1).wR) ((ix k1 i1).wP) ((ix k1 i1).wC)))<M2 i1 k1)/\
(v2=false->
(((ix v1 b1).wA).length=k1.length/\0<=b1/\b1<(v1.length:Int))/\let v3:List wJ:=v1.set b1.toNat (wJ.mk ((ix v1 b1).wT) ((ix v1 b1).wF) k1 ((ix v1 b1).wL) ((ix v1 b1).wI) ((ix v1 b1).Fee) ((ix v1 b1).wN) ((ix v1 b1).wD) ((ix v1 b1).wM) ((ix v1 b1).wO))
(0<=b1/\b1<(v3.length:Int))/\(((ix v3 b1).wO).length<=4294967295)/\(0<=b1/\b1<(v3.length:Int))/\let v4:List wJ:=v3.set b1.toNat (wJ.mk ((ix v3 b1).wT) ((ix v3 b1).wF) ((ix v3 b1).wA) ((ix v3 b1).wL) ((ix v3 b1).wI) ((ix v3 b1).Fee) ((ix v3 b1).wN) ((ix v3 b1).wD) ((ix v3 b1).wM) ((ix v3 b1).wO))
I1 (i64.wrap (b1+1)) v4/\M1 (i64.wrap (b1+1)) v4<M1 b1 f1)))/\
(decide (b1<(p0.Txs.length:Int))=false->
(p0.Txs.length=f1.length)/\p0.wH=r0.wH/\p0.wE=r0.wE/\p0.wK=r0.wK/\p0.wG=r0.wG/\p0.wD=r0.wD/\f1=r0.Txs))) (by kernel_rfl)<|by
 rintro p0 h _ rfl
 obtain⟨hl,ht⟩:=h
 refine⟨hl,?_⟩
 refine⟨(fun i f=>f=p0.Txs/\∃k:Nat,i=(k:Int)/\k<=p0.Txs.length),fun i _=>(p0.Txs.length-i).toNat,⟨rfl,0,rfl,by omega⟩,?_⟩
 rintro _ _ ⟨rfl,k,rfl,g1⟩
 refine⟨fun e=> ?_,fun e=> ?_⟩
 ·have e:k<p0.Txs.length:=by have:=of_decide_eq_true e;omega
  have et:=ht _ (List.getElem_mem e)
  have e1:p0.Txs.set (k:Int).toNat (wJ.mk (ix p0.Txs (k:Int)).wT (ix p0.Txs (k:Int)).wF (ix p0.Txs (k:Int)).wA (ix p0.Txs (k:Int)).wL (ix p0.Txs (k:Int)).wI (ix p0.Txs (k:Int)).Fee (ix p0.Txs (k:Int)).wN (ix p0.Txs (k:Int)).wD (ix p0.Txs (k:Int)).wM (ix p0.Txs (k:Int)).wO)=p0.Txs:=by
   rw[ix_get _ _ e]
   exact List.set_getElem_self ..
  have hb:(0:Int)<=(k:Int)/\(k:Int)<(p0.Txs.length:Int):=⟨by omega,by omega⟩
  have hx:ix p0.Txs (k:Int)=p0.Txs[k]:=ix_get _ _ e
  refine⟨hb,hb,by rw[hx];exact et.m,hb,?_⟩
  dsimp only
  rw[e1]
  have ho:(ix p0.Txs (k:Int)).wA.length<=4294967295:=by rw[hx];exact et.o
  have hc:∀x∈(ix p0.Txs (k:Int)).wA,x.wC.length<=4294967295:=by rw[hx];exact et.c
  refine⟨hb,ho,hb,hb,rfl,?_⟩
  refine⟨(fun i f=>f=(ix p0.Txs (k:Int)).wA/\∃j:Nat,i=(j:Int)/\j<=(ix p0.Txs (k:Int)).wA.length),fun i _=>((ix p0.Txs (k:Int)).wA.length-i).toNat,⟨rfl,0,rfl,by omega⟩,?_⟩
  rintro _ _ ⟨rfl,j,rfl,g2⟩
  refine⟨fun e2=> ?_,fun e2=> ?_⟩
  ·have e2:j<(ix p0.Txs (k:Int)).wA.length:=by have:=of_decide_eq_true e2;omega
   have hj:(0:Int)<=(j:Int)/\(j:Int)<((ix p0.Txs (k:Int)).wA.length:Int):=⟨by omega,by omega⟩
   have hy:ix (ix p0.Txs (k:Int)).wA (j:Int)=(ix p0.Txs (k:Int)).wA[j]:=ix_get _ _ e2
   rw[inc (j:Int) (ix p0.Txs (k:Int)).wA.length (by omega) (by omega) (by omega)]
   have e3:(ix p0.Txs (k:Int)).wA.set (j:Int).toNat (wU.mk (ix (ix p0.Txs (k:Int)).wA (j:Int)).wV (ix (ix p0.Txs (k:Int)).wA (j:Int)).wR (ix (ix p0.Txs (k:Int)).wA (j:Int)).wP (ix (ix p0.Txs (k:Int)).wA (j:Int)).wC)=(ix p0.Txs (k:Int)).wA:=by
    rw[hy]
    exact List.set_getElem_self ..
   rw[e3]
   refine⟨hb,rfl,hb,rfl,hj,hj,?_,hj,hj,⟨rfl,j+1,rfl,by omega⟩,by(first|omega|(dsimp only;omega))⟩
   rw[hy]
   exact hc _ (List.getElem_mem e2)
  ·rw[e1]
   refine⟨⟨rfl,hb⟩,hb,by rw[hx];exact et.p,hb,?_⟩
   rw[inc (k:Int) p0.Txs.length (by omega) (by omega) (by omega)]
   exact⟨⟨e1,k+1,rfl,by omega⟩,by(first|omega|(dsimp only;omega))⟩
 ·exact⟨rfl,rfl,rfl,rfl,rfl,rfl,rfl⟩
noncomputable def k9f:Con TB.den:= .gp 6 [.st 2,yqi] [.st 2,.bool] [] fun(p0:wB) (p1:Int)=>(BR p0/\p1<=9223372036854775807,((mineS p0 p1).b:wB),((mineS p0 p1).ok:Bool),())
theorem k5i:k9f.Ok Try.prog TB:=qrv Bs Try.func6 (.r 0 (.nd [] (.jn ⟨[],[],[13],[.one (.d (.bool))],[]⟩ [] .no [] .no) [] (.r 0 (.nd [] (.lp [] ⟨[0],[.cells [zqu,zqi,zqu,zqu,zqu,.d (.sl (.st 1))]],[1],[.one (zqi)],[]⟩ .no) [] .no)))) (k2e.c (k25.c (k28.c (k92.c c0)))) (Q:=∀(p0:wB) (p1:Int),(BR p0/\p1<=9223372036854775807)->∀r0:wB,((mineS p0 p1).b)=r0->∀r1:Bool,((mineS p0 p1).ok)=r1-> 
∀J1:Bool->Prop,(∀(b1:Bool),
((b1=true->
0=r0.wH/\0=r0.wE/\0=r0.wK/\0=r0.wG/\0=r0.wD/\([]:List wJ)=r0.Txs/\false=r1)/\
(b1=false->
((∀x∈p0.Txs,TR x)/\p0.Txs.length<=64)/\∃(I1:Int->Int->Int->Int->Int->Int->(List wJ)->Prop) (M1:Int->Int->Int->Int->Int->Int->(List wJ)->Nat),I1 p1 p0.wH p0.wE p0.wK p0.wG p0.wD p0.Txs/\∀(f1 i1 k1 l1 m1 n1:Int) (o1:List wJ),(I1 f1 i1 k1 l1 m1 n1 o1->
(decide (0<f1)=true->
(BR (wB.mk i1 k1 l1 m1 n1 o1)/\(wB.mk i1 k1 l1 m1 n1 o1).Txs.length<=64/\Us (p0.Txs.map idS)/\(p0.Txs.map idS).length<=64)/\let r2:Int:=(hashB 15 (hdrS (wB.mk i1 k1 l1 m1 n1 o1)++(p0.Txs.map idS).flatMap (dig 8)))
(m1≠0)/\(((Int.tmod r2 m1)==0)=true->
((wB.mk i1 k1 l1 m1 n1 o1).Txs.length<=4294967295/\∀x∈(wB.mk i1 k1 l1 m1 n1 o1).Txs,TL x)/\i1=r0.wH/\k1=r0.wE/\l1=r0.wK/\m1=r0.wG/\n1=r0.wD/\o1=r0.Txs/\true=r1)/\
(((Int.tmod r2 m1)==0)=false->
((n1==18446744073709551615)=true->
0=r0.wH/\0=r0.wE/\0=r0.wK/\0=r0.wG/\0=r0.wD/\([]:List wJ)=r0.Txs/\false=r1)/\
((n1==18446744073709551615)=false->
I1 (i64.wrap (f1-1)) i1 k1 l1 m1 (u64.wrap (n1+1)) o1/\M1 (i64.wrap (f1-1)) i1 k1 l1 m1 (u64.wrap (n1+1)) o1<M1 f1 i1 k1 l1 m1 n1 o1)))/\
(decide (0<f1)=false->
0=r0.wH/\0=r0.wE/\0=r0.wK/\0=r0.wG/\0=r0.wD/\([]:List wJ)=r0.Txs/\false=r1))))->J1 b1)->
(decide (p1<=0)=true->
J1 true)/\
(decide (p1<=0)=false->
(∀x∈p0.Txs,TR x)/\J1 ((validB p0) !=0))) (by kernel_rfl)<|by
 rintro p0 p1 h _ rfl _ rfl
 obtain⟨hr,hp⟩:=h
 intro J1 k1
 have j1:∀s,(s=true->mineS p0 p1=⟨zeroB,false⟩)->(s=false->0<p1/\validB p0=0)->J1 s:=fun s h1 h2=>k1 s ⟨fun e=>by
   rw[h1 e]
   exact⟨rfl,rfl,rfl,rfl,rfl,rfl,rfl⟩,fun e=>by
   obtain⟨q1,q2⟩:=h2 e
   have v:=(k1l p0).1 q2
   have hl:=v.h.l
   have hw:=v.h.w0
   refine⟨⟨hr.t,hl⟩,?_⟩
   have es:mineS p0 p1=mineN p1.toNat p0:=if_neg (by omega)
   refine⟨(fun k a b c d n t=>0<=k/\k<=p1/\U64 n/\a=p0.wH/\b=p0.wE/\c=p0.wK/\d=p0.wG/\t=p0.Txs/\mineS p0 p1=mineN k.toNat ⟨p0.wH,p0.wE,p0.wK,p0.wG,n,p0.Txs⟩),(fun k _ _ _ _ _ _=>k.toNat),⟨by omega,by omega,hr.n,rfl,rfl,rfl,rfl,rfl,es⟩,?_⟩
   rintro k _ _ _ _ n _ ⟨g0,g1,g2,rfl,rfl,rfl,rfl,rfl,g3⟩
   refine⟨fun hh=> ?_,fun hh=> ?_⟩
   ·have hh:=of_decide_eq_true hh
    have hb:BR ⟨p0.wH,p0.wE,p0.wK,p0.wG,n,p0.Txs⟩:=⟨hr.p,hr.m,hr.w,g2,hr.h,hr.t⟩
    have hu:Us (p0.Txs.map idS):=fun x hx=>by obtain⟨t,_,rfl⟩:=List.mem_map.1 hx;exact idS_u64 t
    have e1:k.toNat=(k-1).toNat+1:=by omega
    rw[e1]at g3
    refine⟨⟨hb,hl,hu,by simp;omega⟩,by omega,fun e2=> ?_,fun e2=> ?_⟩
    ·have e2:Int.tmod (hashB 15 (namS ⟨p0.wH,p0.wE,p0.wK,p0.wG,n,p0.Txs⟩)) p0.wG=0:=by simpa[namS]using e2
     have g3:mineS p0 p1=⟨⟨p0.wH,p0.wE,p0.wK,p0.wG,n,p0.Txs⟩,true⟩:=by rw[g3];exact if_pos e2
     rw[g3]
     exact⟨⟨by show p0.Txs.length<=_;omega,fun x hx=>(v.vt hx).tl⟩,rfl,rfl,rfl,rfl,rfl,rfl,rfl⟩
    ·have e2:¬Int.tmod (hashB 15 (namS ⟨p0.wH,p0.wE,p0.wK,p0.wG,n,p0.Txs⟩)) p0.wG=0:=by simpa[namS]using e2
     refine⟨fun e3=> ?_,fun e3=> ?_⟩
     ·have e3:n=18446744073709551615:=by simpa using e3
      have g3:mineS p0 p1=⟨zeroB,false⟩:=by rw[g3];exact(if_neg e2).trans (if_pos e3)
      rw[g3]
      exact⟨rfl,rfl,rfl,rfl,rfl,rfl,rfl⟩
     ·have e3:¬n=18446744073709551615:=by simpa using e3
      have g3:mineS p0 p1=mineN (k-1).toNat ⟨p0.wH,p0.wE,p0.wK,p0.wG,n+1,p0.Txs⟩:=by rw[g3];exact(if_neg e2).trans (if_neg e3)
      rw[wi (k-1) (by omega) (by omega),wu (n+1) (by omega) (by omega)]
      exact⟨⟨by omega,by omega,by omega,rfl,rfl,rfl,rfl,rfl,g3⟩,by(first|omega|(dsimp only;omega))⟩
   ·have hh:=of_decide_eq_false hh
    have g3:mineS p0 p1=⟨zeroB,false⟩:=by rw[g3,show k.toNat=0 by omega];rfl
    rw[g3]
    exact⟨rfl,rfl,rfl,rfl,rfl,rfl,rfl⟩⟩
 refine⟨fun e=> ?_,fun e=> ?_⟩
 ·have e:=of_decide_eq_true e
  exact j1 _ (fun _=>if_pos (.inl e)) (fun h=>by cases h)
 ·have e:=of_decide_eq_false e
  exact⟨hr.t,j1 _ (fun h=>if_pos (.inr (by simpa using h))) (fun h=>⟨by omega,by simpa using h⟩)⟩
noncomputable def k7i:Con TB.den:= .gp 10 [.st 2] [.sl yqb,yqi] [] fun(p0:wB)=>(BR p0,(if validB p0=0 then encBk p0 else []:List Int),(validB p0:Int),())
theorem k90:k7i.Ok Try.prog TB:=qrv Bs Try.func10 (.r 2 (.nd [] (.r 0 (.lp [] ⟨[],[],[5,20],[.one (.d (.sl yqb)),.one (zqi)],[]⟩ .no)) [] .no)) (k2e.c (k3l.c (k3e.c (k5h.c c0)))) (Q:=∀(p0:wB),(BR p0)->∀r0:List Int,(if validB p0=0 then encBk p0 else []:List Int)=r0->∀r1:Int,validB p0=r1-> 
(∀x∈p0.Txs,TR x)/\(((validB p0) !=0)=true->
([]:List Int)=r0/\(validB p0)=r1)/\
(((validB p0) !=0)=false->
(BR p0/\p0.Txs.length<=64)/\∃(I1:(List Int)->Int->Prop) (M1:(List Int)->Int->Nat),I1 (hdrS p0) 0/\∀(b1:List Int) (f1:Int),(I1 b1 f1->
(decide (f1<(p0.Txs.length:Int))=true->
(0<=f1)/\f1<(p0.Txs.length:Int)/\(TR (ix p0.Txs f1))/\let r2:List Int:=(if validE (ix p0.Txs f1)=0 then encT (ix p0.Txs f1) (ix p0.Txs f1).wO else [])
(((validE (ix p0.Txs f1)) !=0)=true->
([]:List Int)=r0/\(validE (ix p0.Txs f1))=r1)/\
(((validE (ix p0.Txs f1)) !=0)=false->
(b1.length<=68719476736/\r2.length<=4294967295)/\I1 (b1++encB r2) (i64.wrap (f1+1))/\M1 (b1++encB r2) (i64.wrap (f1+1))<M1 b1 f1))/\
(decide (f1<(p0.Txs.length:Int))=false->
b1=r0/\0=r1)))) (by kernel_rfl)<|by
 rintro p0 h _ rfl _ rfl
 refine⟨h.t,fun e=> ?_,fun e=> ?_⟩
 ·have e:validB p0≠0:=by simpa using e
  rw[if_neg e]
  exact⟨rfl,rfl⟩
 ·have e:validB p0=0:=by simpa using e
  have v:=(k1l p0).1 e
  have hl:=v.h.l
  rw[if_pos e]
  refine⟨⟨h,hl⟩,⟨(fun l i=>0<=i/\i<=p0.Txs.length/\l=hdrS p0++(p0.Txs.take i.toNat).flatMap encTx),(fun _ i=>(p0.Txs.length-i).toNat),⟨by omega,by omega,by simp⟩,?_⟩⟩
  rintro l i ⟨g0,g1,rfl⟩
  refine⟨fun hh=> ?_,fun hh=> ?_⟩
  ·have hh:=of_decide_eq_true hh
   have hm:=ix_mem p0.Txs i g0 hh
   have hv:=v.t _ hm
   have vt:=(kr _).1 hv
   have hle:=k5b (p0.Txs.take i.toNat) (fun x hx=>v.t x (List.mem_of_mem_take hx))
   rw[List.length_take]at hle
   have h3:=vt.enc_len (ix p0.Txs i).wO
   have h4:=vt.pl
   refine⟨g0,hh,h.t _ hm,?_⟩
   rw[if_pos hv]
   refine⟨fun e2=> ?_,fun _=> ?_⟩
   ·rw[hv]at e2;cases e2
   ·rw[inc i p0.Txs.length g0 hh (by omega)]
    refine⟨⟨by rw[List.length_append,k2o];omega,by omega⟩,⟨by omega,by omega,?_⟩,by(first|omega|(dsimp only;omega))⟩
    rw[ka p0.Txs i g0 hh,List.flatMap_append,List.append_assoc]
    simp[encTx]
  ·have hh:=of_decide_eq_false hh
   rw[List.take_of_length_le (by omega),e]
   exact⟨rfl,rfl⟩
noncomputable def k7g:Con TB.den:= .g ⟨48,[.one (zqu),.one (zqi)],[],(.one (.one (.own 0))),[.tip yqb],false⟩ [yqu,yqi] [.sl yqb] [] fun(p0 p1:Int)=>(U64 p0/\0<=p1/\p1<=8,(dig p1.toNat p0:List Int),())
theorem k26:k7g.Ok Try.prog TB:=prv Bs Try.func48 (.r 1 (.nd [] (.r 0 (.lp [.tok 5 yqb] ⟨[0],[.tip yqb],[0,5,6],[.one (zqu),.one (.own 0),.one (zqi)],[]⟩ .no)) [] .no)) c0 (Q:=∀(p0 p1:Int),(U64 p0/\0<=p1/\p1<=8)->∀e0:List Int,dig p1.toNat p0=e0-> 
(([]:List Int)=([]:List Int))/\∃(I1:Int->Int->(List Int)->Prop) (M1:Int->Int->(List Int)->Nat),I1 p0 0 ([]:List Int)/\∀(b1 f1:Int) (i1:List Int),(I1 b1 f1 i1->
(decide (f1<p1)=true->
i1.length=i1.length/\(i1.length+[IntKind.u8.wrap (Int.tmod b1 256)].length)*1<=140737488355328/\i1.length+[IntKind.u8.wrap (Int.tmod b1 256)].length<=maxLen/\let v1:List Int:=i1++[IntKind.u8.wrap (Int.tmod b1 256)]
(v1=v1)/\I1 (u64.wrap (Int.tdiv b1 256)) (i64.wrap (f1+1)) v1/\M1 (u64.wrap (Int.tdiv b1 256)) (i64.wrap (f1+1)) v1<M1 b1 f1 i1)/\
(decide (f1<p1)=false->
(i1=i1)/\i1=e0))) (by kernel_rfl)<|by
 rintro p0 p1 h _ rfl
 obtain⟨h1,h2,h3⟩:=h
 refine⟨rfl,⟨(fun n i g=>0<=i/\i<=p1/\U64 n/\n=p0/256^i.toNat/\g=dig i.toNat p0),(fun _ i _=>(p1-i).toNat),⟨by omega,by omega,h1,by simp,by simp[dig]⟩,?_⟩⟩
 rintro n i g ⟨g0,g1,g2,g3,rfl⟩
 refine⟨fun h=> ?_,fun h=> ?_⟩
 ·have h:=of_decide_eq_true h
  rw[inc i p1 g0 h (by omega),tmod_nn _ _ g2.1,tdiv_nn _ _ g2.1,u8w,wu (n/256) (by omega) (by omega)]
  refine⟨rfl,?_,?_,rfl,⟨by omega,by omega,⟨by omega,by omega⟩,?_,?_⟩,by(dsimp only;omega)⟩
  ·simp;omega
  ·simp;unfold maxLen;omega
  ·rw[g3,show(i+1).toNat=i.toNat+1 by omega,Int.ediv_ediv_of_nonneg (Int.le_of_lt (k1u _)),Int.pow_succ]
  ·rw[show(i+1).toNat=i.toNat+1 by omega,k58,g3]
   congr 2
   omega
 ·have h:=of_decide_eq_false h
  exact⟨rfl,by rw[show i=p1 by omega]⟩
noncomputable def kb6:Con TB.den:= .t ⟨50,[.one (zqi)],[],(.one (.one (.own 0))),[.tip yqb],false⟩ [yqi] [.sl yqb] [] fun(p0:Int)=>((dig 4 (len4 p0):List Int),())
theorem k5u:kb6.Ok Try.prog TB:=ptv Bs Try.func50 (.r 0 (.jn ⟨[],[],[0],[.one (zqi)],[]⟩ [] .no [] .no)) (k26.c c0) (Q:=∀(p0:Int),∀e0:List Int,(dig 4 (len4 p0))=e0-> 
∀J1:Int->Prop,(∀(b1:Int),
((U64 (u64.wrap b1)/\0<=(4:Int)/\(4:Int)<=8)/\let r1:List Int:=(dig (4:Int).toNat (u64.wrap b1))
(r1=r1)/\r1=e0)->J1 b1)->
(decide (p0<0)=true->
J1 0)/\
(decide (p0<0)=false->
(decide (4294967296<=p0)=true->
J1 0)/\
(decide (4294967296<=p0)=false->
J1 p0))) (by kernel_rfl)<|by
 rintro p0 _ rfl
 intro J1 j1
 have j:∀n,0<=n->n<=4294967295->len4 p0=n->J1 n:=by
  intro n h0 h1 e
  refine j1 _ ?_
  rw[wu n (by omega) (by omega),e]
  exact⟨⟨⟨h0,by omega⟩,by omega⟩,by trivial,rfl⟩
 refine⟨fun h=>j 0 (by omega) (by omega) ?_,fun h=>⟨fun h' =>j 0 (by omega) (by omega) ?_,fun h' =>j p0 ?_ ?_ ?_⟩⟩
 ·have h:=of_decide_eq_true h;exact if_pos (.inl h)
 ·have h' :=of_decide_eq_true h';exact if_pos (.inr (by omega))
 ·have h:=of_decide_eq_false h;omega
 ·have h' :=of_decide_eq_false h';omega
 ·have h:=of_decide_eq_false h;have h' :=of_decide_eq_false h';exact len4_in ⟨by omega,by omega⟩
noncomputable def kap:Con TB.den:= .gp 51 [.sl yqb] [.sl yqb] [] fun(p0:List Int)=>(p0.length<=4294967295,(encB p0:List Int),())
theorem kbg:kap.Ok Try.prog TB:=qrv Bs Try.func51 .no (k5u.c c0) (Q:=∀(p0:List Int),(p0.length<=4294967295)->∀r0:List Int,encB p0=r0-> 
(dig 4 (len4 (p0.length:Int))).length=(dig 4 (len4 (p0.length:Int))).length/\((dig 4 (len4 (p0.length:Int))).length+p0.length)*1<=140737488355328/\(dig 4 (len4 (p0.length:Int))).length+p0.length<=maxLen/\(dig 4 (len4 (p0.length:Int)))++p0=r0) (by kernel_rfl)<|by
 rintro p0 h _ rfl
 refine⟨by trivial,?_,?_,rfl⟩
 ·simp;omega
 ·simp;unfold maxLen;omega
noncomputable def k9a:Con TB.den:= .gp 48 [yqu,yqi] [.sl yqb] [] fun(p0 p1:Int)=>(U64 p0/\0<=p1/\p1<=8,(dig p1.toNat p0:List Int),())
theorem k2u:k9a.Ok Try.prog TB:=qrv Bs Try.func48 (.r 1 (.nd [] (.r 0 (.lp [.tok 5 yqb] ⟨[0],[.tip yqb],[0,5,6],[.one (zqu),.one (.own 0),.one (zqi)],[]⟩ .no)) [] .no)) c0 (Q:=∀(p0 p1:Int),(U64 p0/\0<=p1/\p1<=8)->∀r0:List Int,dig p1.toNat p0=r0-> 
(([]:List Int)=([]:List Int))/\∃(I1:Int->Int->(List Int)->Prop) (M1:Int->Int->(List Int)->Nat),I1 p0 0 ([]:List Int)/\∀(b1 f1:Int) (i1:List Int),(I1 b1 f1 i1->
(decide (f1<p1)=true->
i1.length=i1.length/\(i1.length+[IntKind.u8.wrap (Int.tmod b1 256)].length)*1<=140737488355328/\i1.length+[IntKind.u8.wrap (Int.tmod b1 256)].length<=maxLen/\let v1:List Int:=i1++[IntKind.u8.wrap (Int.tmod b1 256)]
(v1=v1)/\I1 (u64.wrap (Int.tdiv b1 256)) (i64.wrap (f1+1)) v1/\M1 (u64.wrap (Int.tdiv b1 256)) (i64.wrap (f1+1)) v1<M1 b1 f1 i1)/\
(decide (f1<p1)=false->
i1=r0))) (by kernel_rfl)<|by
 rintro p0 p1 h _ rfl
 obtain⟨h1,h2,h3⟩:=h
 refine⟨rfl,⟨(fun n i g=>0<=i/\i<=p1/\U64 n/\n=p0/256^i.toNat/\g=dig i.toNat p0),(fun _ i _=>(p1-i).toNat),⟨by omega,by omega,h1,by simp,by simp[dig]⟩,?_⟩⟩
 rintro n i g ⟨g0,g1,g2,g3,rfl⟩
 refine⟨fun h=> ?_,fun h=> ?_⟩
 ·have h:=of_decide_eq_true h
  rw[inc i p1 g0 h (by omega),tmod_nn _ _ g2.1,tdiv_nn _ _ g2.1,u8w,wu (n/256) (by omega) (by omega)]
  refine⟨rfl,?_,?_,rfl,⟨by omega,by omega,⟨by omega,by omega⟩,?_,?_⟩,by(dsimp only;omega)⟩
  ·simp;omega
  ·simp;unfold maxLen;omega
  ·rw[g3,show(i+1).toNat=i.toNat+1 by omega,Int.ediv_ediv_of_nonneg (Int.le_of_lt (k1u _)),Int.pow_succ]
  ·rw[show(i+1).toNat=i.toNat+1 by omega,k58,g3]
   congr 2
   omega
 ·have h:=of_decide_eq_false h
  rw[show i=p1 by omega]
noncomputable def ke4:Con TB.den:= .tp 50 [yqi] [.sl yqb] [] fun(p0:Int)=>((dig 4 (len4 p0):List Int),())
theorem k82:ke4.Ok Try.prog TB:=qtv Bs Try.func50 (.r 0 (.jn ⟨[],[],[0],[.one (zqi)],[]⟩ [] .no [] .no)) (k2u.c c0) (Q:=∀(p0:Int),∀r0:List Int,(dig 4 (len4 p0))=r0-> 
∀J1:Int->Prop,(∀(b1:Int),
((U64 (u64.wrap b1)/\0<=(4:Int)/\(4:Int)<=8)/\let r1:List Int:=(dig (4:Int).toNat (u64.wrap b1))
r1=r0)->J1 b1)->
(decide (p0<0)=true->
J1 0)/\
(decide (p0<0)=false->
(decide (4294967296<=p0)=true->
J1 0)/\
(decide (4294967296<=p0)=false->
J1 p0))) (by kernel_rfl)<|by
 rintro p0 _ rfl
 intro J1 j1
 have j:∀n,0<=n->n<=4294967295->len4 p0=n->J1 n:=by
  intro n h0 h1 e
  refine j1 _ ?_
  rw[wu n (by omega) (by omega),e]
  exact⟨⟨⟨h0,by omega⟩,by omega⟩,rfl⟩
 refine⟨fun h=>j 0 (by omega) (by omega) ?_,fun h=>⟨fun h' =>j 0 (by omega) (by omega) ?_,fun h' =>j p0 ?_ ?_ ?_⟩⟩
 ·have h:=of_decide_eq_true h;exact if_pos (.inl h)
 ·have h' :=of_decide_eq_true h';exact if_pos (.inr (by omega))
 ·have h:=of_decide_eq_false h;omega
 ·have h' :=of_decide_eq_false h';omega
 ·have h:=of_decide_eq_false h;have h' :=of_decide_eq_false h';exact len4_in ⟨by omega,by omega⟩
noncomputable def kd5:Con TB.den:= .gp 49 [.sl yqu] [.sl yqb] [] fun(p0:List Int)=>(Us p0/\p0.length<=4294967295,(encL p0:List Int),())
theorem kdy:kd5.Ok Try.prog TB:=qrv Bs Try.func49 (.r 1 (.nd [] (.r 0 (.lp [] ⟨[0],[.tip yqb],[3,4],[.one (.own 0),.one (zqi)],[]⟩ .no)) [] .no)) (k5u.c (k2u.c c0)) (Q:=∀(p0:List Int),(Us p0/\p0.length<=4294967295)->∀r0:List Int,encL p0=r0-> 
((dig 4 (len4 (p0.length:Int)))=(dig 4 (len4 (p0.length:Int))))/\∃(I1:Int->(List Int)->Prop) (M1:Int->(List Int)->Nat),I1 0 (dig 4 (len4 (p0.length:Int)))/\∀(b1:Int) (f1:List Int),(I1 b1 f1->
(decide (b1<(p0.length:Int))=true->
(0<=b1)/\b1<(p0.length:Int)/\(U64 (ix p0 b1)/\0<=(8:Int)/\(8:Int)<=8)/\f1.length=f1.length/\(f1.length+(dig (8:Int).toNat (ix p0 b1)).length)*1<=140737488355328/\f1.length+(dig (8:Int).toNat (ix p0 b1)).length<=maxLen/\(f1++(dig (8:Int).toNat (ix p0 b1))=f1++(dig (8:Int).toNat (ix p0 b1)))/\I1 (i64.wrap (b1+1)) (f1++(dig (8:Int).toNat (ix p0 b1)))/\M1 (i64.wrap (b1+1)) (f1++(dig (8:Int).toNat (ix p0 b1)))<M1 b1 f1)/\
(decide (b1<(p0.length:Int))=false->
f1=r0))) (by kernel_rfl)<|by
 rintro p0 h _ rfl
 obtain⟨h1,h2⟩:=h
 refine⟨rfl,⟨(fun i g=>0<=i/\i<=p0.length/\g=dig 4 (len4 p0.length)++(p0.take i.toNat).flatMap (dig 8)),(fun i _=>(p0.length-i).toNat),⟨by omega,by omega,by simp⟩,?_⟩⟩
 rintro i g ⟨g0,g1,rfl⟩
 refine⟨fun h=> ?_,fun h=> ?_⟩
 ·have h:=of_decide_eq_true h
  have hx:=h1 _ (ix_mem p0 i g0 h)
  rw[inc i p0.length g0 h (by omega)]
  have hlen:(dig 4 (len4 p0.length)++(p0.take i.toNat).flatMap (dig 8)).length<=4+8*p0.length:=by simp only[List.length_append,kb,k15,List.length_take];omega
  refine⟨g0,h,⟨hx,by omega⟩,rfl,?_,?_,rfl,⟨by omega,by omega,?_⟩,by(dsimp only;omega)⟩
  ·rw[kb];omega
  ·rw[kb];unfold maxLen;omega
  ·rw[ka p0 i g0 h,List.flatMap_append,List.append_assoc]
   simp
 ·have h:=of_decide_eq_false h
  rw[List.take_of_length_le (by omega)]
  rfl
noncomputable def kaz:Con TB.den:= .gp 32 [.st 1] [.sl yqb] [] fun(p0:wJ)=>(TR p0/\TL p0/\p0.wA.length<=1048576/\(∀x∈p0.wA,x.wC.length<=1024),(encT p0 p0.wO:List Int),())
theorem k34:kaz.Ok Try.prog TB:=qrv Bs Try.func32 (.r 3 (.nd [] (.r 0 (.lp [] ⟨[1],[.tip yqb],[3,4],[.one (.own 0),.one (zqi)],[]⟩ (.r 0 (.nd [] (.r 1 (.nd [] (.r 0 (.lp [] ⟨[1],[.tip yqb],[3,7],[.one (.own 0),.one (zqi)],[]⟩ .no)) [] .no)) [] .no)))) [] (.r 0 (.nd [] (.r 0 (.lp [] ⟨[1],[.tip yqb],[3,9],[.one (.own 0),.one (zqi)],[]⟩ .no)) [] .no)))) (k26.c (kdy.c (k82.c (kbg.c c0)))) (Q:=∀(p0:wJ),(TR p0/\TL p0/\p0.wA.length<=1048576/\(∀x∈p0.wA,x.wC.length<=1024))->∀r0:List Int,encT p0 p0.wO=r0-> 
(U64 p0.wT/\0<=(8:Int)/\(8:Int)<=8)/\(Us p0.wF/\p0.wF.length<=4294967295)/\(dig (8:Int).toNat p0.wT).length=(dig (8:Int).toNat p0.wT).length/\((dig (8:Int).toNat p0.wT).length+(encL p0.wF).length)*1<=140737488355328/\(dig (8:Int).toNat p0.wT).length+(encL p0.wF).length<=maxLen/\let v1:List Int:=(dig (8:Int).toNat p0.wT)++(encL p0.wF)
v1.length=v1.length/\(v1.length+(dig 4 (len4 (p0.wA.length:Int))).length)*1<=140737488355328/\v1.length+(dig 4 (len4 (p0.wA.length:Int))).length<=maxLen/\let v2:List Int:=v1++(dig 4 (len4 (p0.wA.length:Int)))
(v2=v2)/\∃(I1:Int->(List Int)->Prop) (M1:Int->(List Int)->Nat),I1 0 v2/\∀(b1:Int) (f1:List Int),(I1 b1 f1->
(decide (b1<(p0.wA.length:Int))=true->
(0<=b1)/\b1<(p0.wA.length:Int)/\let v3:List Int:=[(ix p0.wA b1).wV,(ix p0.wA b1).wR,(ix p0.wA b1).wP]
(f1=f1)/\∃(I2:Int->(List Int)->Prop) (M2:Int->(List Int)->Nat),I2 0 f1/\∀(i1:Int) (k1:List Int),(I2 i1 k1->
(decide (i1<(v3.length:Int))=true->
(0<=i1)/\i1<(v3.length:Int)/\(U64 (ix v3 i1)/\0<=(8:Int)/\(8:Int)<=8)/\k1.length=k1.length/\(k1.length+(dig (8:Int).toNat (ix v3 i1)).length)*1<=140737488355328/\k1.length+(dig (8:Int).toNat (ix v3 i1)).length<=maxLen/\(k1++(dig (8:Int).toNat (ix v3 i1))=k1++(dig (8:Int).toNat (ix v3 i1)))/\I2 (i64.wrap (i1+1)) (k1++(dig (8:Int).toNat (ix v3 i1)))/\M2 (i64.wrap (i1+1)) (k1++(dig (8:Int).toNat (ix v3 i1)))<M2 i1 k1)/\
(decide (i1<(v3.length:Int))=false->
(Us ((ix p0.wA b1).wC)/\((ix p0.wA b1).wC).length<=4294967295)/\k1.length=k1.length/\(k1.length+(encL ((ix p0.wA b1).wC)).length)*1<=140737488355328/\k1.length+(encL ((ix p0.wA b1).wC)).length<=maxLen/\(k1++(encL ((ix p0.wA b1).wC))=k1++(encL ((ix p0.wA b1).wC)))/\I1 (i64.wrap (b1+1)) (k1++(encL ((ix p0.wA b1).wC)))/\M1 (i64.wrap (b1+1)) (k1++(encL ((ix p0.wA b1).wC)))<M1 b1 f1)))/\
(decide (b1<(p0.wA.length:Int))=false->
(f1=f1)/\∃(I3:Int->(List Int)->Prop) (M3:Int->(List Int)->Nat),I3 0 f1/\∀(l1:Int) (m1:List Int),(I3 l1 m1->
let v4:Int:=([p0.wL,p0.wI,p0.Fee,p0.wN,p0.wD].length:Int)
(decide (l1<v4)=true->
(0<=l1)/\l1<([p0.wL,p0.wI,p0.Fee,p0.wN,p0.wD].length:Int)/\let v5:Int:=ix [p0.wL,p0.wI,p0.Fee,p0.wN,p0.wD] l1
(U64 v5/\0<=(8:Int)/\(8:Int)<=8)/\m1.length=m1.length/\(m1.length+(dig (8:Int).toNat v5).length)*1<=140737488355328/\m1.length+(dig (8:Int).toNat v5).length<=maxLen/\(m1++(dig (8:Int).toNat v5)=m1++(dig (8:Int).toNat v5))/\I3 (i64.wrap (l1+1)) (m1++(dig (8:Int).toNat v5))/\M3 (i64.wrap (l1+1)) (m1++(dig (8:Int).toNat v5))<M3 l1 m1)/\
(decide (l1<v4)=false->
m1.length=m1.length/\(m1.length+(dig 4 (len4 p0.wM)).length)*1<=140737488355328/\m1.length+(dig 4 (len4 p0.wM)).length<=maxLen/\(p0.wO.length<=4294967295)/\(m1++(dig 4 (len4 p0.wM))).length=(m1++(dig 4 (len4 p0.wM))).length/\((m1++(dig 4 (len4 p0.wM))).length+(encB p0.wO).length)*1<=140737488355328/\(m1++(dig 4 (len4 p0.wM))).length+(encB p0.wO).length<=maxLen/\let v6:List Int:=(m1++(dig 4 (len4 p0.wM)))++(encB p0.wO)
v6=r0))))) (by kernel_rfl)<|by
 rintro p0 h _ rfl
 obtain⟨hr,hl,ho,hc⟩:=h
 have hm:=hl.m
 have hpl:=hl.p
 refine⟨⟨hr.a,by omega⟩,⟨hr.m,hm⟩,rfl,?_,?_,rfl,?_,?_,rfl,?_⟩
 ·simp;omega
 ·simp;unfold maxLen;omega
 ·simp;omega
 ·simp;unfold maxLen;omega
 have hb:=fun i:Int=>k1d (p0.wA.take i.toNat) 1024 (fun x hx=>hc x (List.mem_of_mem_take hx))
 have hb:∀i:Int,((p0.wA.take i.toNat).flatMap encO).length<=8700000000:=by
  intro i
  have:=hb i
  rw[List.length_take]at this
  refine Nat.le_trans this ?_
  have:min i.toNat p0.wA.length<=1048576:=by omega
  have:=Nat.mul_le_mul_left (28+8*1024) this
  omega
 have hpre:(dig 8 p0.wT++encL p0.wF++dig 4 (len4 p0.wA.length)).length<=40000000000:=by simp;omega
 generalize hP:dig 8 p0.wT++encL p0.wF++dig 4 (len4 p0.wA.length)=P at *
 refine⟨(fun i g=>0<=i/\i<=p0.wA.length/\g=P++(p0.wA.take i.toNat).flatMap encO),(fun i _=>(p0.wA.length-i).toNat),⟨by omega,by omega,by rw[<-hP];simp⟩,?_⟩
 rintro i g ⟨g0,g1,rfl⟩
 have hbi:=hb i
 generalize hB:P++(p0.wA.take i.toNat).flatMap encO=B at *
 have hBl:B.length<=50000000000:=by rw[<-hB,List.length_append];omega
 refine⟨fun h=> ?_,fun h=> ?_⟩
 ·have h:=of_decide_eq_true h
  have hx:=hr.o _ (ix_mem p0.wA i g0 h)
  have hxc:=hc _ (ix_mem p0.wA i g0 h)
  refine⟨g0,h,rfl,?_⟩
  refine⟨(fun k g=>0<=k/\k<=3/\g=B++([(ix p0.wA i).wV,(ix p0.wA i).wR,(ix p0.wA i).wP].take k.toNat).flatMap (dig 8)),(fun k _=>(3-k).toNat),⟨by omega,by omega,by simp⟩,?_⟩
  rintro k g ⟨k0,k1,rfl⟩
  have hul:Us [(ix p0.wA i).wV,(ix p0.wA i).wR,(ix p0.wA i).wP]:=by
   intro x hx'
   simp only[List.mem_cons,List.not_mem_nil,or_false]at hx'
   rcases hx' with rfl|rfl|rfl
   ·exact hx.c
   ·exact hx.p0
   ·exact hx.p1
  have hll:([(ix p0.wA i).wV,(ix p0.wA i).wR,(ix p0.wA i).wP].length:Int)=3:=rfl
  generalize hLd:[(ix p0.wA i).wV,(ix p0.wA i).wR,(ix p0.wA i).wP]=Lc at *
  have hgl:(B++(Lc.take k.toNat).flatMap (dig 8)).length<=50000000024:=by simp only[List.length_append,k15,List.length_take];omega
  refine⟨fun hk=> ?_,fun hk=> ?_⟩
  ·have hk:=of_decide_eq_true hk
   rw[inc k 3 k0 (by omega) (by omega)]
   refine⟨k0,hk,⟨hul _ (ix_mem Lc k k0 hk),by omega⟩,rfl,?_,?_,rfl,⟨by omega,by omega,?_⟩,by(dsimp only;omega)⟩
   ·rw[kb];omega
   ·rw[kb];unfold maxLen;omega
   ·rw[ka Lc k k0 hk,List.flatMap_append,List.append_assoc]
    simp
  ·have hk:=of_decide_eq_false hk
   rw[List.take_of_length_le (by omega)]at hgl ⊢
   have hi:=inc i p0.wA.length g0 h (by omega)
   rw[hi]
   have nxt:(0<=i+1/\i+1<=p0.wA.length/\B++Lc.flatMap (dig 8)++encL (ix p0.wA i).wC=P++(p0.wA.take (i+1).toNat).flatMap encO)/\(p0.wA.length-(i+1)).toNat<(p0.wA.length-i).toNat:=by
    refine⟨⟨by omega,by omega,?_⟩,by omega⟩
    rw[ka p0.wA i g0 h,List.flatMap_append,<-List.append_assoc,hB,<-hLd]
    simp[encO,List.append_assoc]
   refine⟨⟨hx.ci,by omega⟩,rfl,?_,?_,rfl,nxt.1,nxt.2⟩
   ·rw[k12];omega
   ·rw[k12];unfold maxLen;omega
 ·have h:=of_decide_eq_false h
  refine⟨rfl,?_⟩
  have hul:Us [p0.wL,p0.wI,p0.Fee,p0.wN,p0.wD]:=by
   intro x hx'
   simp only[List.mem_cons,List.not_mem_nil,or_false]at hx'
   rcases hx' with rfl|rfl|rfl|rfl|rfl
   ·exact hr.d
   ·exact hr.w
   ·exact hr.f
   ·exact hr.ac
   ·exact hr.n
  have hll:([p0.wL,p0.wI,p0.Fee,p0.wN,p0.wD].length:Int)=5:=rfl
  refine⟨(fun k g=>0<=k/\k<=5/\g=B++([p0.wL,p0.wI,p0.Fee,p0.wN,p0.wD].take k.toNat).flatMap (dig 8)),(fun k _=>(5-k).toNat),⟨by omega,by omega,by simp⟩,?_⟩
  rintro k g ⟨k0,k1,rfl⟩
  generalize hLd:[p0.wL,p0.wI,p0.Fee,p0.wN,p0.wD]=Lc at *
  have hgl:(B++(Lc.take k.toNat).flatMap (dig 8)).length<=50000000040:=by simp only[List.length_append,k15,List.length_take];omega
  refine⟨fun hk=> ?_,fun hk=> ?_⟩
  ·have hk:=of_decide_eq_true hk
   rw[inc k 5 k0 (by omega) (by omega)]
   refine⟨k0,hk,⟨hul _ (ix_mem Lc k k0 hk),by omega⟩,rfl,?_,?_,rfl,⟨by omega,by omega,?_⟩,by(dsimp only;omega)⟩
   ·rw[kb];omega
   ·rw[kb];unfold maxLen;omega
   ·rw[ka Lc k k0 hk,List.flatMap_append,List.append_assoc]
    simp
  ·have hk:=of_decide_eq_false hk
   rw[List.take_of_length_le (by omega)]at hgl ⊢
   refine⟨rfl,?_,?_,hpl,by trivial,?_,?_,?_⟩
   ·rw[kb];omega
   ·rw[kb];unfold maxLen;omega
   ·rw[List.length_append,kb,k2q];omega
   ·rw[List.length_append,kb,k2q];unfold maxLen;omega
   ·rw[<-hB,<-hLd,<-hP,List.take_of_length_le (by omega)]
    simp[encT,List.append_assoc]
noncomputable def k6e:Con TB.den:= .gp 35 [.sl yqb,.sl yqb] [.bool] [] fun(p0 p1:List Int)=>(p0.length<=9223372036854775807,(decide (p0=p1):Bool),())
theorem k7q:k6e.Ok Try.prog TB:=qrv Bs Try.func35 (.r 1 (.nd [] (.r 0 (.lp [] ⟨[],[],[5],[.one (zqi)],[]⟩ .no)) [] .no)) c0 (Q:=∀(p0 p1:List Int),(p0.length<=9223372036854775807)->∀r0:Bool,(decide (p0=p1))=r0-> 
(((p0.length:Int) !=(p1.length:Int))=true->
false=r0)/\
(((p0.length:Int) !=(p1.length:Int))=false->
∃(I1:Int->Prop) (M1:Int->Nat),I1 0/\∀(b1:Int),(I1 b1->
(decide (b1<(p0.length:Int))=true->
(0<=b1)/\b1<(p0.length:Int)/\(0<=b1)/\b1<(p1.length:Int)/\(((ix p0 b1) !=(ix p1 b1))=true->
false=r0)/\
(((ix p0 b1) !=(ix p1 b1))=false->
I1 (i64.wrap (b1+1))/\M1 (i64.wrap (b1+1))<M1 b1))/\
(decide (b1<(p0.length:Int))=false->
true=r0)))) (by kernel_rfl)<|by
 rintro p0 p1 h _ rfl
 refine⟨fun e=> ?_,fun e=> ?_⟩
 ·have e:¬(p0.length:Int)=p1.length:=by simpa using e
  rw[decide_eq_false (by rintro rfl;exact e rfl)]
 ·have e:(p0.length:Int)=p1.length:=by simpa using e
  refine⟨(fun i=>0<=i/\i<=p0.length/\p0.take i.toNat=p1.take i.toNat),(fun i=>(p0.length-i).toNat),⟨by omega,by omega,by simp⟩,?_⟩
  rintro i ⟨g0,g1,g2⟩
  refine⟨fun hh=> ?_,fun hh=> ?_⟩
  ·have hh:=of_decide_eq_true hh
   refine⟨g0,hh,g0,by omega,fun e2=> ?_,fun e2=> ?_⟩
   ·have e2:¬ix p0 i=ix p1 i:=by simpa using e2
    rw[decide_eq_false (by rintro rfl;exact e2 rfl)]
   ·have e2:ix p0 i=ix p1 i:=by simpa using e2
    rw[inc i p0.length g0 hh (by omega)]
    refine⟨⟨by omega,by omega,?_⟩,by(dsimp only;omega)⟩
    rw[ka p0 i g0 hh,ka p1 i g0 (by omega),g2,e2]
  ·have hh:=of_decide_eq_false hh
   rw[List.take_of_length_le (by omega),List.take_of_length_le (by omega)]at g2
   rw[decide_eq_true g2]
noncomputable def kd1:Con TB.den:= .gp 18 [.st 1,.st 1] [.bool] [] fun(p0 p1:wJ)=>(TD p0/\TD p1,(sameT p0 p1:Bool),())
theorem kdv:kd1.Ok Try.prog TB:=qrv Bs Try.func18 (.r 1 (.nd [] (.r 0 (.lp [] ⟨[],[],[5],[.one (zqi)],[]⟩ .no)) [] .no)) (k34.c (k7q.c c0)) (Q:=∀(p0 p1:wJ),(TD p0/\TD p1)->∀r0:Bool,sameT p0 p1=r0-> 
let v1:Bool:=((p0.wA.length:Int) !=(p1.wA.length:Int))
(v1=true->
false=r0)/\
(v1=false->
((p0.wM !=p1.wM)=true->
false=r0)/\
((p0.wM !=p1.wM)=false->
∃(I1:Int->Prop) (M1:Int->Nat),I1 0/\∀(b1:Int),(I1 b1->
(decide (b1<(p0.wA.length:Int))=true->
(0<=b1)/\b1<(p0.wA.length:Int)/\(0<=b1)/\b1<(p1.wA.length:Int)/\let v2:Bool:=((((ix p0.wA b1).wC).length:Int) !=(((ix p1.wA b1).wC).length:Int))
(v2=true->
false=r0)/\
(v2=false->
I1 (i64.wrap (b1+1))/\M1 (i64.wrap (b1+1))<M1 b1))/\
(decide (b1<(p0.wA.length:Int))=false->
(TR p0/\TL p0/\p0.wA.length<=1048576/\(∀x∈p0.wA,x.wC.length<=1024))/\(TR p1/\TL p1/\p1.wA.length<=1048576/\(∀x∈p1.wA,x.wC.length<=1024))/\((encT p0 p0.wO).length<=9223372036854775807)/\let r3:Bool:=(decide ((encT p0 p0.wO)=(encT p1 p1.wO)))
r3=r0))))) (by kernel_rfl)<|by
 rintro p0 p1 h _ rfl
 obtain⟨⟨hr,hl,ho,hc⟩,hr',hl',ho',hc'⟩:=h
 refine⟨fun e=> ?_,fun e=>⟨fun e2=> ?_,fun e2=> ?_⟩⟩
 ·have e:¬((p0.wA.length:Int)=p1.wA.length):=by simpa using e
  unfold sameT
  rw[decide_eq_false (by omega)]
  rfl
 ·have e2:¬p0.wM=p1.wM:=by simpa using e2
  unfold sameT
  simp[e2]
 have e:(p0.wA.length:Int)=p1.wA.length:=by simpa using e
 have e2:p0.wM=p1.wM:=by simpa using e2
 refine⟨(fun i=>0<=i/\i<=p0.wA.length/\(p0.wA.take i.toNat).map (·.wC.length)=(p1.wA.take i.toNat).map (·.wC.length)),(fun i=>(p0.wA.length-i).toNat),⟨by omega,by omega,by simp⟩,?_⟩
 rintro i ⟨g0,g1,g2⟩
 refine⟨fun hh=> ?_,fun hh=> ?_⟩
 ·have hh:=of_decide_eq_true hh
  refine⟨g0,hh,g0,by omega,fun e3=> ?_,fun e3=> ?_⟩
  ·have e3:¬(((ix p0.wA i).wC.length:Int)=(ix p1.wA i).wC.length):=by simpa using e3
   unfold sameT
   rw[decide_eq_false (p:=p0.wA.map _=p1.wA.map _)]
   ·simp
   ·intro h
    have h2:=congrArg (fun l=>l[i.toNat]?) h
    simp only[List.getElem?_map]at h2
    rw[List.getElem?_eq_getElem (by omega),List.getElem?_eq_getElem (by omega)]at h2
    rw[ix_nat _ i g0 hh,ix_nat _ i g0 (by omega)]at e3
    simp at h2
    omega
  ·have e3:(((ix p0.wA i).wC.length:Int)=(ix p1.wA i).wC.length):=by simpa using e3
   rw[inc i p0.wA.length g0 hh (by omega)]
   refine⟨⟨by omega,by omega,?_⟩,by(dsimp only;omega)⟩
   rw[ka _ i g0 hh,ka _ i g0 (by omega),List.map_append,List.map_append,g2]
   simp
   omega
 ·have hh:=of_decide_eq_false hh
  rw[List.take_of_length_le (by omega),List.take_of_length_le (by omega)]at g2
  simp only[TTx_eta]
  have hlen:=k1d p0.wA 1024 hc
  refine⟨⟨hr,hl,ho,hc⟩,⟨hr',hl',ho',hc'⟩,?_,?_⟩
  ·rw[k6s]
   have:=hl.m
   have:=hl.p
   have:(28+8*1024)*p0.wA.length<=(28+8*1024)*1048576:=Nat.mul_le_mul_left _ ho
   omega
  ·unfold sameT
   rw[decide_eq_true (p:=p0.wA.length=p1.wA.length) (by omega),decide_eq_true g2,beq_iff_eq.2 e2]
   simp
noncomputable def kc9:Con TB.den:= .gp 8 [.st 2,.st 2] [.bool] [] fun(p0 p1:wB)=>(p0.Txs.length<=9223372036854775807/\(∀x∈p0.Txs,TD x)/\(∀x∈p1.Txs,TD x),(sameB p0 p1:Bool),())
theorem k6t:kc9.Ok Try.prog TB:=qrv Bs Try.func8 (.r 1 (.nd [] (.r 0 (.lp [] ⟨[],[],[5],[.one (zqi)],[]⟩ .no)) [] .no)) (kdv.c c0) (Q:=∀(p0 p1:wB),(p0.Txs.length<=9223372036854775807/\(∀x∈p0.Txs,TD x)/\(∀x∈p1.Txs,TD x))->∀r0:Bool,sameB p0 p1=r0-> 
((p0.wH !=p1.wH)=true->
false=r0)/\
((p0.wH !=p1.wH)=false->
((p0.wE !=p1.wE)=true->
false=r0)/\
((p0.wE !=p1.wE)=false->
((p0.wK !=p1.wK)=true->
false=r0)/\
((p0.wK !=p1.wK)=false->
((p0.wG !=p1.wG)=true->
false=r0)/\
((p0.wG !=p1.wG)=false->
((p0.wD !=p1.wD)=true->
false=r0)/\
((p0.wD !=p1.wD)=false->
let v1:Bool:=((p0.Txs.length:Int) !=(p1.Txs.length:Int))
(v1=true->
false=r0)/\
(v1=false->
∃(I1:Int->Prop) (M1:Int->Nat),I1 0/\∀(b1:Int),(I1 b1->
(decide (b1<(p0.Txs.length:Int))=true->
(0<=b1)/\b1<(p0.Txs.length:Int)/\(0<=b1)/\b1<(p1.Txs.length:Int)/\(TD (ix p0.Txs b1)/\TD (ix p1.Txs b1))/\((!(sameT (ix p0.Txs b1) (ix p1.Txs b1)))=true->
false=r0)/\
((!(sameT (ix p0.Txs b1) (ix p1.Txs b1)))=false->
I1 (i64.wrap (b1+1))/\M1 (i64.wrap (b1+1))<M1 b1))/\
(decide (b1<(p0.Txs.length:Int))=false->
true=r0))))))))) (by kernel_rfl)<|by
 rintro p0 p1 h _ rfl
 obtain⟨hl,ha,hb⟩:=h
 have no:∀{P:Prop},¬P->(P->False):=fun h=>h
 have nf:(¬(p0.wH=p1.wH/\p0.wE=p1.wE/\p0.wK=p1.wK/\p0.wG=p1.wG/\p0.wD=p1.wD/\p0.Txs.length=p1.Txs.length/\∀i:Nat,i<p0.Txs.length->sameT (ix p0.Txs (i:Int)) (ix p1.Txs (i:Int))=true))->false=sameB p0 p1:=fun h=>(decide_eq_false h).symm
 refine⟨fun e=>nf fun q=> ?_,fun e1=>⟨fun e=>nf fun q=> ?_,fun e2=>⟨fun e=>nf fun q=> ?_,fun e3=>⟨fun e=>nf fun q=> ?_,fun e4=>⟨fun e=>nf fun q=> ?_,fun e5=>⟨fun e=>nf fun q=> ?_,fun e6=> ?_⟩⟩⟩⟩⟩⟩
 ·simp[q.1]at e
 ·simp[q.2.1]at e
 ·simp[q.2.2.1]at e
 ·simp[q.2.2.2.1]at e
 ·simp[q.2.2.2.2.1]at e
 ·simp[q.2.2.2.2.2.1]at e
 simp only[bne_eq_false_iff_eq]at e1 e2 e3 e4 e5 e6
 have e6:p0.Txs.length=p1.Txs.length:=by omega
 refine⟨(fun i=>0<=i/\i<=p0.Txs.length/\∀j:Nat,(j:Int)<i->sameT (ix p0.Txs (j:Int)) (ix p1.Txs (j:Int))=true),(fun i=>(p0.Txs.length-i).toNat),⟨by omega,by omega,fun j hj=>by omega⟩,?_⟩
 rintro i ⟨g0,g1,g2⟩
 refine⟨fun hh=> ?_,fun hh=> ?_⟩
 ·have hh:=of_decide_eq_true hh
  rw[inc i p0.Txs.length g0 hh (by omega)]
  refine⟨g0,hh,g0,by omega,⟨ha _ (ix_mem _ i g0 hh),hb _ (ix_mem _ i g0 (by omega))⟩,fun e=>nf fun q=> ?_,fun e=>⟨⟨by omega,by omega,fun j hj=> ?_⟩,by(first|omega|(dsimp only;omega))⟩⟩
  ·have:=q.2.2.2.2.2.2 i.toNat (by omega)
   rw[show((i.toNat:Nat):Int)=i by omega]at this
   rw[this]at e
   cases e
  ·rcases Int.lt_or_eq_of_le (Int.le_of_lt_add_one hj)with h|h
   ·exact g2 j h
   ·rw[h];simpa using e
 ·have hh:=of_decide_eq_false hh
  exact(decide_eq_true ⟨e1,e2,e3,e4,e5,e6,fun j hj=>g2 j (by omega)⟩).symm
noncomputable def kb5:Con TB.den:= .tp 4 [] [.bool] [] (true,())
theorem kbt:kb5.Ok Try.prog TB:=qtv Bs Try.func4 .no (k90.c (k5i.c (k6t.c c0))) (Q:=∀r0:Bool,(true:Bool)=r0-> 
(BR (wB.mk 0 1 0 1 0 ([]:List wJ)))/\let r1:List Int:=(if validB (wB.mk 0 1 0 1 0 ([]:List wJ))=0 then encBk (wB.mk 0 1 0 1 0 ([]:List wJ))else [])
let r2:Int:=(validB (wB.mk 0 1 0 1 0 ([]:List wJ)))
(BR (wB.mk 0 1 0 1 0 ([]:List wJ))/\(1:Int)<=9223372036854775807)/\let r3:=(mineS (wB.mk 0 1 0 1 0 ([]:List wJ)) (1:Int)).b
let r4:Bool:=((mineS (wB.mk 0 1 0 1 0 ([]:List wJ)) (1:Int)).ok)
(((r1.length:Int)==40)=true->
((r2==0)=true->
(r4=true->
((wB.mk 0 1 0 1 0 ([]:List wJ)).Txs.length<=9223372036854775807/\(∀x∈(wB.mk 0 1 0 1 0 ([]:List wJ)).Txs,TD x)/\(∀x∈r3.Txs,TD x))/\let r5:Bool:=(sameB (wB.mk 0 1 0 1 0 ([]:List wJ)) r3)
r5=r0)/\
(r4=false->
false=r0))/\
((r2==0)=false->
false=r0))/\
(((r1.length:Int)==40)=false->
false=r0)) (by kernel_rfl)<|by
 rintro _ rfl
 have r1:BR ⟨0,1,0,1,0,[]⟩:=⟨by decide,by decide,by decide,by decide,by decide,(by intro x hx;cases hx)⟩
 have v1:validB ⟨0,1,0,1,0,[]⟩=0:=by decide +kernel
 have m1:mineS ⟨0,1,0,1,0,[]⟩ 1=⟨⟨0,1,0,1,0,[]⟩,true⟩:=by
  unfold mineS
  rw[if_neg (by rw[v1];decide)]
  exact if_pos (Int.tmod_one _)
 have l1:(encBk ⟨0,1,0,1,0,[]⟩).length=40:=by simp[encBk]
 have s1:sameB ⟨0,1,0,1,0,[]⟩ ⟨0,1,0,1,0,[]⟩=true:=decide_eq_true ⟨rfl,rfl,rfl,rfl,rfl,rfl,fun i hi=>absurd hi (Nat.not_lt_zero i)⟩
 refine ?_
 simp[r1,v1,m1,l1,s1]
noncomputable def ke3:Con TB.den:= .gp 67 [yqu] [.st 5] [] fun(p0:Int)=>(p0=18446744069414584321,(wS.mk 7 32 7:wS),())
theorem k8m:ke3.Ok Try.prog TB:=qrv Bs Try.func67 .no c0 (Q:=∀(p0:Int),(p0=18446744069414584321)->∀r0:wS,wS.mk 7 32 7=r0-> 
((p0==17)=true->
3=r0.a0/\4=r0.a1/\3=r0.a2)/\
((p0==17)=false->
((p0==97)=true->
5=r0.a0/\5=r0.a1/\5=r0.a2)/\
((p0==97)=false->
((p0==193)=true->
5=r0.a0/\6=r0.a1/\5=r0.a2)/\
((p0==193)=false->
((p0==257)=true->
3=r0.a0/\8=r0.a1/\3=r0.a2)/\
((p0==257)=false->
((p0==12289)=true->
11=r0.a0/\12=r0.a1/\5=r0.a2)/\
((p0==12289)=false->
((p0==65537)=true->
3=r0.a0/\16=r0.a1/\3=r0.a2)/\
((p0==65537)=false->
((p0==18446744069414584321)=true->
7=r0.a0/\32=r0.a1/\7=r0.a2)/\
((p0==18446744069414584321)=false->
0=r0.a0/\0=r0.a1/\0=r0.a2)))))))) (by kernel_rfl)<|by
 rintro p0 h _ rfl
 simp[h]
noncomputable def kb9:Con TB.den:= .gp 61 [yqu] [.bool] [] fun(p0:Int)=>(p0=18446744069414584321,true,())
theorem k1e:kb9.Ok Try.prog TB:=qrv Bs Try.func61 .no (k8m.c c0) (Q:=∀(p0:Int),(p0=18446744069414584321)->∀r0:Bool,(true:Bool)=r0-> 
(p0=18446744069414584321)/\decide (0<(7:Int))=r0) (by kernel_rfl)<|by
 rintro p0 h _ rfl
 exact⟨h,rfl⟩
noncomputable def kdh:Con TB.den:= .gp 68 [yqu,yqu,yqu] [yqu] [] fun(p0 p1 p2:Int)=>(p0=18446744069414584321/\U64 p1/\U64 p2,((p1+p2)%18446744069414584321:Int),())
theorem k32:kdh.Ok Try.prog TB:=qrv Bs Try.func68 .no (k1e.c c0) (Q:=∀(p0 p1 p2:Int),(p0=18446744069414584321/\U64 p1/\U64 p2)->∀r0:Int,((p1+p2)%18446744069414584321)=r0-> 
(p0=18446744069414584321)/\((!true)=true->
0=r0)/\
((!true)=false->
(p0≠0)/\(p0≠0)/\let v1:Bool:=decide ((u64.wrap (p0-(Int.tmod p2 p0)))<=(Int.tmod p1 p0))
(v1=true->
let v2:Int:=u64.wrap ((Int.tmod p1 p0)-(u64.wrap (p0-(Int.tmod p2 p0))))
v2=r0)/\
(v1=false->
let v3:Int:=u64.wrap ((Int.tmod p1 p0)+(Int.tmod p2 p0))
v3=r0))) (by kernel_rfl)<|by
 rintro p0 p1 p2 h _ rfl
 obtain⟨rfl,h1,h2⟩:=h
 refine⟨rfl,fun h=>by simp at h,fun _=> ?_⟩
 rw[tmod_nn _ _ h1.1,tmod_nn _ _ h2.1]
 simp only[u64w]
 refine⟨by omega,by omega,fun h=> ?_,fun h=> ?_⟩
 ·have h:=of_decide_eq_true h
  omega
 ·have h:=of_decide_eq_false h
  omega
noncomputable def kdt:Con TB.den:= .gp 69 [yqu,yqu,yqu] [yqu] [] fun(p0 p1 p2:Int)=>(p0=18446744069414584321/\U64 p1/\U64 p2,(p1*p2%18446744069414584321:Int),())
theorem k8j:kdt.Ok Try.prog TB:=qrv Bs Try.func69 .no (k1e.c (k5d.c (k5g.c c0))) (Q:=∀(p0 p1 p2:Int),(p0=18446744069414584321/\U64 p1/\U64 p2)->∀r0:Int,(p1*p2%18446744069414584321)=r0-> 
(p0=18446744069414584321)/\((!true)=true->
0=r0)/\
((!true)=false->
(p0≠0)/\(p0≠0)/\(U64 (Int.tmod p1 p0)/\U64 (Int.tmod p2 p0))/\let r1:Int:=((Int.tmod p1 p0)*(Int.tmod p2 p0)/18446744073709551616)
let r2:Int:=((Int.tmod p1 p0)*(Int.tmod p2 p0)%18446744073709551616)
(U64 r1/\U64 r2/\U64 p0/\r1<p0)/\((r1*18446744073709551616+r2)%p0)=r0)) (by kernel_rfl)<|by
 rintro p0 p1 p2 h _ rfl
 obtain⟨rfl,h1,h2⟩:=h
 refine⟨rfl,fun h=>by simp at h,fun _=> ?_⟩
 rw[tmod_nn _ _ h1.1,tmod_nn _ _ h2.1,Int.mul_emod p1 p2]
 have a1:0<=p1%18446744069414584321/\p1%18446744069414584321<18446744069414584321:=by omega
 have a2:0<=p2%18446744069414584321/\p2%18446744069414584321<18446744069414584321:=by omega
 generalize p1%18446744069414584321=a at *
 generalize p2%18446744069414584321=b at *
 have h3:0<=a*b:=Int.mul_nonneg a1.1 a2.1
 have h4:a*b<=18446744069414584320*18446744069414584320:=Int.mul_le_mul (by omega) (by omega) a2.1 (by omega)
 generalize a*b=m at *
 refine⟨by omega,by omega,⟨⟨by omega,by omega⟩,⟨by omega,by omega⟩⟩,⟨⟨by omega,by omega⟩,⟨by omega,by omega⟩,⟨by omega,by omega⟩,by omega⟩,?_⟩
 rw[show m/18446744073709551616*18446744073709551616+m%18446744073709551616=m by omega]
noncomputable def k75:Con TB.den:= .gp 82 [yqu] [yqu] [] fun(p0:Int)=>(p0=18446744069414584321,(7:Int),())
theorem k8g:k75.Ok Try.prog TB:=qrv Bs Try.func82 .no (k8m.c c0) (Q:=∀(p0:Int),(p0=18446744069414584321)->∀r0:Int,(7:Int)=r0-> 
(p0=18446744069414584321)/\7=r0) (by kernel_rfl)<|by
 rintro p0 h _ rfl
 exact⟨h,rfl⟩
noncomputable def kdm:Con TB.den:= .gp 80 [yqu,yqu,yqu] [yqu] [] fun(p0 p1 p2:Int)=>(p0=18446744069414584321/\U64 p1/\U64 p2,(pw p1 p2:Int),())
theorem ked:kdm.Ok Try.prog TB:=qrv Bs Try.func80 (.r 3 (.nd [] (.lp [] ⟨[],[],[1,2,7],[.one (zqu),.one (zqu),.one (zqu)],[]⟩ (.r 0 (.jn ⟨[],[],[7],[.one (zqu)],[]⟩ [] .no [] .no))) [] .no)) (k1e.c (k8j.c c0)) (Q:=∀(p0 p1 p2:Int),(p0=18446744069414584321/\U64 p1/\U64 p2)->∀r0:Int,pw p1 p2=r0-> 
(p0=18446744069414584321)/\((!true)=true->
0=r0)/\
((!true)=false->
(p0≠0)/\∃(I1:Int->Int->Int->Prop) (M1:Int->Int->Int->Nat),I1 (Int.tmod p1 p0) p2 1/\∀(b1 f1 i1:Int),(I1 b1 f1 i1->
(decide (0<f1)=true->
∀J1:Int->Prop,(∀(k1:Int),
((p0=18446744069414584321/\U64 b1/\U64 b1)/\I1 (b1*b1%18446744069414584321) (u64.wrap (Int.tdiv f1 2)) k1/\M1 (b1*b1%18446744069414584321) (u64.wrap (Int.tdiv f1 2)) k1<M1 b1 f1 i1)->J1 k1)->
(((Int.tmod f1 2)==1)=true->
(p0=18446744069414584321/\U64 i1/\U64 b1)/\J1 (i1*b1%18446744069414584321))/\
(((Int.tmod f1 2)==1)=false->
J1 i1))/\
(decide (0<f1)=false->
i1=r0)))) (by kernel_rfl)<|by
 rintro p0 p1 p2 h _ rfl
 obtain⟨rfl,h1,h2⟩:=h
 refine⟨rfl,fun h=>by simp at h,fun _=>⟨by omega,?_⟩⟩
 rw[tmod_nn _ _ h1.1]
 refine⟨fun a e r=>(0<=a/\a<18446744069414584321)/\U64 e/\(0<=r/\r<18446744069414584321)/\(r*a^e.toNat)%18446744069414584321=pw p1 p2,fun a e r=>e.toNat,⟨by omega,h2,by omega,by rw[Int.one_mul,k4u];rfl⟩,?_⟩
 rintro a e r ⟨ha,he,hr,hv⟩
 have hpow:∀k:Nat,a^(2*k)=(a*a)^k:=fun k=>by rw[Int.pow_mul];congr 1;rw[Int.pow_succ,Int.pow_succ,Int.pow_zero,Int.one_mul]
 refine⟨fun h J1 j=> ?_,fun h=> ?_⟩
 ·have h:=of_decide_eq_true h
  have jj:∀r',(0<=r'/\r' <18446744069414584321)->(r' *(a*a)^(e/2).toNat)%18446744069414584321=pw p1 p2->J1 r' :=by
   intro r' hr' hv'
   have hm:0<=a*a%18446744069414584321/\a*a%18446744069414584321<18446744069414584321:=⟨Int.emod_nonneg _ (by omega),Int.emod_lt_of_pos _ (by omega)⟩
   refine j _ ⟨⟨rfl,by omega,by omega⟩,?_⟩
   rw[tdiv_nn _ _ he.1,wu (e/2) (by omega) (by omega)]
   refine⟨⟨hm,⟨by omega,by omega⟩,hr',?_⟩,by(dsimp only;omega)⟩
   rw[<-hv',Int.mul_emod,Int.mul_emod r' ((a*a)^_),k4u]
  rw[tmod_nn _ _ he.1]
  refine⟨fun h1=>⟨⟨rfl,by omega,by omega⟩,?_⟩,fun h1=> ?_⟩
  ·have h1:e%2=1:=by simpa using h1
   refine jj _ ⟨Int.emod_nonneg _ (by omega),Int.emod_lt_of_pos _ (by omega)⟩ ?_
   rw[<-hv,show e.toNat=2*(e/2).toNat+1 by omega,Int.pow_succ,hpow,Int.mul_emod,Int.emod_emod_of_dvd _ (Int.dvd_refl _),<-Int.mul_emod]
   congr 1
   grind
  ·have h1:¬e%2=1:=by simpa using h1
   refine jj _ hr ?_
   rw[<-hv,<-hpow,show e.toNat=2*(e/2).toNat by omega]
 ·have h:¬0<e:=of_decide_eq_false h
  rw[show e.toNat=0 by omega,Int.pow_zero,Int.mul_one,Int.emod_eq_of_lt hr.1 hr.2]at hv
  exact hv
noncomputable def k7n:Con TB.den:= .gp 81 [yqu,yqi,yqi] [yqu] [] fun(p0 p1 p2:Int)=>(p0=18446744069414584321/\(0<=p1/\p1<8)/\0<=p2/\p2<3,(rc p1 p2:Int),())
theorem k8f:k7n.Ok Try.prog TB:=qrv Bs Try.func81 .no (k1e.c c0) (Q:=∀(p0 p1 p2:Int),(p0=18446744069414584321/\(0<=p1/\p1<8)/\0<=p2/\p2<3)->∀r0:Int,rc p1 p2=r0-> 
(p0=18446744069414584321)/\((!true)=true->
0=r0)/\
((!true)=false->
(decide (p1<0)=true->
0=r0)/\
(decide (p1<0)=false->
(decide (7<p1)=true->
0=r0)/\
(decide (7<p1)=false->
(decide (p2<0)=true->
0=r0)/\
(decide (p2<0)=false->
(decide (2<p2)=true->
0=r0)/\
(decide (2<p2)=false->
let v1:Int:=i64.wrap ((i64.wrap (3*p1))+p2)
let v2:Int:=u64.wrap (i64.wrap (v1+1))
let v3:Int:=u64.wrap (v2*11400714819323198485)
(p0≠0)/\Int.tmod v3 p0=r0)))))) (by kernel_rfl)<|by
 rintro p0 p1 p2 h _ rfl
 obtain⟨rfl,h1,h2⟩:=h
 refine⟨rfl,fun h=>by simp at h,fun _=>⟨fun h=> ?_,fun _=>⟨fun h=> ?_,fun _=>⟨fun h=> ?_,fun _=>⟨fun h=> ?_,fun _=> ?_⟩⟩⟩⟩⟩
 ·simp at h;omega
 ·simp at h;omega
 ·simp at h;omega
 ·simp at h;omega
 ·simp only[]
  rw[wi (3*p1) (by omega) (by omega),wi (3*p1+p2) (by omega) (by omega),wi (3*p1+p2+1) (by omega) (by omega),wu (3*p1+p2+1) (by omega) (by omega),u64w]
  exact⟨by omega,by rw[tmod_nn _ _ (by omega)];rfl⟩
noncomputable def kdk:Con TB.den:= .gp 89 [yqu,.sl yqu] [yqu] [] fun(p0:Int) (p1:List Int)=>(p0=18446744069414584321/\Us p1/\p1.length<=9223372036854775807,(p1.foldl (fun s x=>(s+x)%18446744069414584321) 0:Int),())
theorem keh:kdk.Ok Try.prog TB:=qrv Bs Try.func89 (.r 1 (.nd [] (.r 0 (.lp [] ⟨[],[],[5,6],[.one (zqu),.one (zqi)],[]⟩ .no)) [] .no)) (k32.c c0) (Q:=∀(p0:Int) (p1:List Int),(p0=18446744069414584321/\Us p1/\p1.length<=9223372036854775807)->∀r0:Int,(p1.foldl (fun s x=>(s+x)%18446744069414584321) 0)=r0-> 
∃(I1:Int->Int->Prop) (M1:Int->Int->Nat),I1 0 0/\∀(b1 f1:Int),(I1 b1 f1->
(decide (f1<(p1.length:Int))=true->
(0<=f1)/\f1<(p1.length:Int)/\(p0=18446744069414584321/\U64 b1/\U64 (ix p1 f1))/\let r1:Int:=((b1+(ix p1 f1))%18446744069414584321)
I1 r1 (i64.wrap (f1+1))/\M1 r1 (i64.wrap (f1+1))<M1 b1 f1)/\
(decide (f1<(p1.length:Int))=false->
b1=r0))) (by kernel_rfl)<|by
 rintro p0 p1 h _ rfl
 obtain⟨rfl,h1,h2⟩:=h
 refine(⟨(fun s i=>FoldI (fun s x=>(s+x)%18446744069414584321) 0 p1 i s/\U64 s),(fun s i=>(p1.length-i).toNat),⟨FoldI.start,by omega⟩,?_⟩)
 rintro s i ⟨hi,hs⟩
 refine⟨fun hh=> ?_,fun hh=>hi.done (of_decide_eq_false hh)⟩
 have hh:=of_decide_eq_true hh
 have hx:=h1 _ (ix_mem p1 i hi.1 hh)
 have nx:=hi.next hh (by omega) rfl
 exact⟨hi.1,hh,⟨rfl,hs,hx⟩,⟨nx.1,by omega⟩,nx.2⟩
noncomputable def kdg:Con TB.den:= .gp 83 [yqu,.st 5] [.st 5] [] fun(p0:Int) (p1:wS)=>(p0=18446744069414584321/\S3 p1,(mixS p1:wS),())
theorem kej:kdg.Ok Try.prog TB:=qrv Bs Try.func83 (.r 2 (.nd [] (.r 0 (.lp [] ⟨[3],[.cells [zqu,zqu,zqu]],[7],[.one (zqi)],[]⟩ .no)) [] .no)) (keh.c (k32.c c0)) (Q:=∀(p0:Int) (p1:wS),(p0=18446744069414584321/\S3 p1)->∀r0:wS,mixS p1=r0-> 
(p0=18446744069414584321/\Us [p1.a0,p1.a1,p1.a2]/\[p1.a0,p1.a1,p1.a2].length<=9223372036854775807)/\let r1:Int:=([p1.a0,p1.a1,p1.a2].foldl (fun s x=>(s+x)%18446744069414584321) 0)
∃(I1:Int->Int->Int->Int->Prop) (M1:Int->Int->Int->Int->Nat),I1 0 0 0 0/\∀(b1 f1 i1 k1:Int),(I1 b1 f1 i1 k1->
(decide (b1<3)=true->
(0<=b1/\b1<(3:Int))/\(0<=b1/\b1<(3:Int))/\(p0=18446744069414584321/\U64 (ix [p1.a0,p1.a1,p1.a2] b1)/\U64 r1)/\let r2:Int:=(((ix [p1.a0,p1.a1,p1.a2] b1)+r1)%18446744069414584321)
(0<=b1/\b1<(3:Int))/\(0<=b1/\b1<(3:Int))/\I1 (i64.wrap (b1+1)) (bif decide (b1=(0:Int))then r2 else f1) (bif decide (b1=(1:Int))then r2 else i1) (bif decide (b1=(2:Int))then r2 else k1)/\M1 (i64.wrap (b1+1)) (bif decide (b1=(0:Int))then r2 else f1) (bif decide (b1=(1:Int))then r2 else i1) (bif decide (b1=(2:Int))then r2 else k1)<M1 b1 f1 i1 k1)/\
(decide (b1<3)=false->
f1=r0.a0/\i1=r0.a1/\k1=r0.a2))) (by kernel_rfl)<|by
 rintro p0 p1 h _ rfl
 obtain⟨rfl,h0,h1,h2⟩:=h
 have e:[p1.a0,p1.a1,p1.a2].foldl (fun s x=>(s+x)%18446744069414584321) 0=((p1.a0+p1.a1)%18446744069414584321+p1.a2)%18446744069414584321:=by
  show(((0+p1.a0)%18446744069414584321+p1.a1)%18446744069414584321+p1.a2)%18446744069414584321=_
  omega
 refine⟨⟨rfl,?_,by simp⟩,?_⟩
 ·intro x hx
  simp only[List.mem_cons,List.not_mem_nil,or_false]at hx
  rcases hx with rfl|rfl|rfl
  ·exact h0
  ·exact h1
  ·exact h2
 rw[e]
 have hu:U64 (((p1.a0+p1.a1)%18446744069414584321+p1.a2)%18446744069414584321):=⟨by omega,by omega⟩
 generalize hg:((p1.a0+p1.a1)%18446744069414584321+p1.a2)%18446744069414584321=t at *
 refine⟨(fun i x y z=>(i=0)∨(i=1/\x=(p1.a0+t)%18446744069414584321)∨(i=2/\x=(p1.a0+t)%18446744069414584321/\y=(p1.a1+t)%18446744069414584321)∨(i=3/\x=(p1.a0+t)%18446744069414584321/\y=(p1.a1+t)%18446744069414584321/\z=(p1.a2+t)%18446744069414584321)),(fun i _ _ _=>(3-i).toNat),(.inl rfl),?_⟩
 intro i x y z hi
 refine⟨fun hh=> ?_,fun hh=> ?_⟩
 ·have hh:=of_decide_eq_true hh
  rcases hi with rfl|⟨rfl,rfl⟩|⟨rfl,rfl,rfl⟩|⟨rfl,_⟩
  ·exact⟨by omega,by omega,⟨rfl,h0,hu⟩,by omega,by omega,.inr (.inl ⟨rfl,rfl⟩),by(dsimp only;decide)⟩
  ·exact⟨by omega,by omega,⟨rfl,h1,hu⟩,by omega,by omega,.inr (.inr (.inl ⟨rfl,rfl,rfl⟩)),by(dsimp only;decide)⟩
  ·exact⟨by omega,by omega,⟨rfl,h2,hu⟩,by omega,by omega,.inr (.inr (.inr ⟨rfl,rfl,rfl,rfl⟩)),by(dsimp only;decide)⟩
  ·omega
 ·have hh:=of_decide_eq_false hh
  rcases hi with rfl|⟨rfl,rfl⟩|⟨rfl,rfl,rfl⟩|⟨rfl,rfl,rfl,rfl⟩
  ·omega
  ·omega
  ·omega
  ·unfold mixS
   rw[hg]
   exact⟨rfl,rfl,rfl⟩
noncomputable def k8t:Con TB.den:= .gp 70 [yqu,.st 5] [.st 5] [] fun(p0:Int) (p1:wS)=>(p0=18446744069414584321/\S3 p1,(permS p1:wS),())
theorem k96:k8t.Ok Try.prog TB:=qrv Bs Try.func70 (.r 1 (.nd [] (.r 0 (.lp [] ⟨[0],[.cells [zqu,zqu,zqu]],[5],[.one (zqi)],[]⟩ (.r 0 (.nd [] (.nd [] (.r 0 (.lp [] ⟨[0],[.cells [zqu,zqu,zqu]],[6],[.one (zqi)],[]⟩ .no)) [] .no) [] .no)))) [] .no)) (k1e.c (k8f.c (k32.c (k8g.c (ked.c (kej.c c0)))))) (Q:=∀(p0:Int) (p1:wS),(p0=18446744069414584321/\S3 p1)->∀r0:wS,permS p1=r0-> 
(p0=18446744069414584321)/\((!true)=true->
0=r0.a0/\0=r0.a1/\0=r0.a2)/\
((!true)=false->
∃(I1:Int->Int->Int->Int->Prop) (M1:Int->Int->Int->Int->Nat),I1 0 p1.a0 p1.a1 p1.a2/\∀(b1 f1 i1 k1:Int),(I1 b1 f1 i1 k1->
(decide (b1<8)=true->
∃(I2:Int->Int->Int->Int->Prop) (M2:Int->Int->Int->Int->Nat),I2 0 f1 i1 k1/\∀(l1 m1 n1 o1:Int),(I2 l1 m1 n1 o1->
(decide (l1<3)=true->
(0<=l1/\l1<(3:Int))/\(0<=l1/\l1<(3:Int))/\(p0=18446744069414584321/\(0<=b1/\b1<8)/\0<=l1/\l1<3)/\(p0=18446744069414584321/\U64 (ix [m1,n1,o1] l1)/\U64 (rc b1 l1))/\let r1:Int:=(((ix [m1,n1,o1] l1)+(rc b1 l1))%18446744069414584321)
(p0=18446744069414584321)/\(p0=18446744069414584321/\U64 r1/\U64 (7:Int))/\(0<=l1/\l1<(3:Int))/\(0<=l1/\l1<(3:Int))/\I2 (i64.wrap (l1+1)) (bif decide (l1=(0:Int))then(pw r1 (7:Int))else m1) (bif decide (l1=(1:Int))then(pw r1 (7:Int))else n1) (bif decide (l1=(2:Int))then(pw r1 (7:Int))else o1)/\M2 (i64.wrap (l1+1)) (bif decide (l1=(0:Int))then(pw r1 (7:Int))else m1) (bif decide (l1=(1:Int))then(pw r1 (7:Int))else n1) (bif decide (l1=(2:Int))then(pw r1 (7:Int))else o1)<M2 l1 m1 n1 o1)/\
(decide (l1<3)=false->
(p0=18446744069414584321/\S3 (wS.mk m1 n1 o1))/\I1 (i64.wrap (b1+1)) ((mixS (wS.mk m1 n1 o1)).a0) ((mixS (wS.mk m1 n1 o1)).a1) ((mixS (wS.mk m1 n1 o1)).a2)/\M1 (i64.wrap (b1+1)) ((mixS (wS.mk m1 n1 o1)).a0) ((mixS (wS.mk m1 n1 o1)).a1) ((mixS (wS.mk m1 n1 o1)).a2)<M1 b1 f1 i1 k1)))/\
(decide (b1<8)=false->
f1=r0.a0/\i1=r0.a1/\k1=r0.a2)))) (by kernel_rfl)<|by
 rintro p0 p1 h _ rfl
 obtain⟨hP,hs⟩:=h
 subst hP
 refine⟨rfl,fun h=>by simp at h,fun _=> ?_⟩
 refine⟨(fun n a b c=>0<=n/\n<=8/\(⟨a,b,c⟩:wS)=rnds n.toNat p1/\S3 ⟨a,b,c⟩),(fun n _ _ _=>(8-n).toNat),⟨by omega,by omega,rfl,hs⟩,?_⟩
 rintro n a b c ⟨g0,g1,g2,g3⟩
 refine⟨fun h=> ?_,fun h=> ?_⟩
 ·have h:=of_decide_eq_true h
  refine⟨(fun i x y z=>(i=0/\x=a/\y=b/\z=c)∨(i=1/\x=pw ((a+rc n 0)%18446744069414584321) 7/\y=b/\z=c)∨(i=2/\x=pw ((a+rc n 0)%18446744069414584321) 7/\y=pw ((b+rc n 1)%18446744069414584321) 7/\z=c)∨(i=3/\x=pw ((a+rc n 0)%18446744069414584321) 7/\y=pw ((b+rc n 1)%18446744069414584321) 7/\z=pw ((c+rc n 2)%18446744069414584321) 7)),(fun i _ _ _=>(3-i).toNat),(.inl ⟨rfl,rfl,rfl,rfl⟩),?_⟩
  intro i x y z hi
  have hrc:∀k,U64 (rc n k):=fun k=>by unfold rc;omega
  have hpw:∀k e,0<=pw k e/\pw k e<18446744069414584321:=fun k e=>⟨Int.emod_nonneg _ (by omega),Int.emod_lt_of_pos _ (by omega)⟩
  obtain⟨h3a,h3b,h3c⟩:=g3
  have u7:U64 7:=by decide
  have hm:∀q:Int,U64 (q%18446744069414584321):=fun q=>⟨Int.emod_nonneg _ (by omega),Int.lt_trans (Int.emod_lt_of_pos _ (by omega)) (by omega)⟩
  refine⟨fun hh=> ?_,fun hh=> ?_⟩
  ·have hh:=of_decide_eq_true hh
   rcases hi with⟨rfl,rfl,rfl,rfl⟩|⟨rfl,rfl,rfl,rfl⟩|⟨rfl,rfl,rfl,rfl⟩|⟨rfl,_⟩
   ·exact⟨by omega,by omega,⟨rfl,by omega,by omega⟩,⟨rfl,h3a,hrc _⟩,rfl,⟨rfl,hm _,u7⟩,by omega,by omega,.inr (.inl ⟨rfl,rfl,rfl,rfl⟩),by(dsimp only;decide)⟩
   ·exact⟨by omega,by omega,⟨rfl,by omega,by omega⟩,⟨rfl,h3b,hrc _⟩,rfl,⟨rfl,hm _,u7⟩,by omega,by omega,.inr (.inr (.inl ⟨rfl,rfl,rfl,rfl⟩)),by(dsimp only;decide)⟩
   ·exact⟨by omega,by omega,⟨rfl,by omega,by omega⟩,⟨rfl,h3c,hrc _⟩,rfl,⟨rfl,hm _,u7⟩,by omega,by omega,.inr (.inr (.inr ⟨rfl,rfl,rfl,rfl⟩)),by(dsimp only;decide)⟩
   ·omega
  ·have hh:=of_decide_eq_false hh
   rcases hi with⟨rfl,_⟩|⟨rfl,_⟩|⟨rfl,_⟩|⟨rfl,rfl,rfl,rfl⟩
   ·omega
   ·omega
   ·omega
   ·have e:rnds (n+1).toNat p1=rnd ⟨a,b,c⟩ n:=by
     rw[show(n+1).toNat=n.toNat+1 by omega]
     show rnd (rnds n.toNat p1) (n.toNat:Int)=_
     rw[<-g2,show(n.toNat:Int)=n by omega]
    have hS:S3 (rnds (n+1).toNat p1):=by
     rw[e]
     unfold rnd mixS S3
     dsimp only
     omega
    have hinc:i64.wrap (n+1)=n+1:=wi _ (by omega) (by omega)
    rw[hinc]
    refine⟨⟨rfl,by unfold S3;have:=hpw ((a+rc n 0)%18446744069414584321) 7;have:=hpw ((b+rc n 1)%18446744069414584321) 7;have:=hpw ((c+rc n 2)%18446744069414584321) 7;dsimp only;omega⟩,(?_:0<=n+1/\n+1<=8/\_/\_),(?_:(8-(n+1)).toNat<(8-n).toNat)⟩
    ·refine⟨by omega,by omega,e.symm,?_⟩
     rw[e]at hS
     exact hS
    ·omega
 ·have h:=of_decide_eq_false h
  rw[show n=8 by omega]at g2
  have g2:(⟨a,b,c⟩:wS)=permS p1:=g2
  rw[<-g2]
  exact⟨rfl,rfl,rfl⟩
noncomputable def k9d:Con TB.den:= .gp 62 [yqu,yqu,.sl yqu] [.st 5] [] fun(p0 p1:Int) (p2:List Int)=>(p0=18446744069414584321/\U64 p1/\Us p2/\p2.length<=1099511627776,(absS p1 p2:wS),())
theorem kas:k9d.Ok Try.prog TB:=qrv Bs Try.func62 (.r 1 (.nd [] (.r 0 (.lp [] ⟨[1],[.cells [zqu,zqu,zqu]],[8],[.one (zqi)],[]⟩ (.jn ⟨[],[],[],[],[]⟩ [] .no [] (.nd [] (.jn ⟨[1],[.cells [zqu,zqu,zqu]],[],[],[]⟩ [] .no [] (.jn ⟨[1],[.cells [zqu,zqu,zqu]],[],[],[]⟩ [] .no [] .no)) [] .no)))) [] .no)) (k8j.c (k32.c (k96.c c0))) (Q:=∀(p0 p1:Int) (p2:List Int),(p0=18446744069414584321/\U64 p1/\Us p2/\p2.length<=1099511627776)->∀r0:wS,absS p1 p2=r0-> 
(p0=18446744069414584321/\U64 p1/\U64 (65536:Int))/\let r1:Int:=(p1*(65536:Int)%18446744069414584321)
(p0=18446744069414584321/\U64 r1/\U64 (u64.wrap (p2.length:Int)))/\let r2:Int:=((r1+(u64.wrap (p2.length:Int)))%18446744069414584321)
∃(I1:Int->Int->Int->Int->Prop) (M1:Int->Int->Int->Int->Nat),I1 0 0 0 r2/\∀(b1 f1 i1 k1:Int),(I1 b1 f1 i1 k1->
∀J1:Prop,((∀J2:Int->Int->Int->Prop,(∀(l1 m1 n1:Int),
(∀J3:Int->Int->Int->Prop,(∀(o1 q1 s1:Int),
((p0=18446744069414584321/\S3 (wS.mk o1 q1 s1))/\I1 (i64.wrap (b1+2)) ((permS (wS.mk o1 q1 s1)).a0) ((permS (wS.mk o1 q1 s1)).a1) ((permS (wS.mk o1 q1 s1)).a2)/\M1 (i64.wrap (b1+2)) ((permS (wS.mk o1 q1 s1)).a0) ((permS (wS.mk o1 q1 s1)).a1) ((permS (wS.mk o1 q1 s1)).a2)<M1 b1 f1 i1 k1)->J3 o1 q1 s1)->
let v4:Bool:=decide ((i64.wrap (b1+1))<(p2.length:Int))
(v4=true->
(0<=i64.wrap (b1+1))/\i64.wrap (b1+1)<(p2.length:Int)/\(p0=18446744069414584321/\U64 m1/\U64 (ix p2 (i64.wrap (b1+1))))/\let r5:Int:=((m1+(ix p2 (i64.wrap (b1+1))))%18446744069414584321)
J3 l1 r5 n1)/\
(v4=false->
J3 l1 m1 n1))->J2 l1 m1 n1)->
(decide (b1<(p2.length:Int))=true->
(0<=b1)/\b1<(p2.length:Int)/\(p0=18446744069414584321/\U64 f1/\U64 (ix p2 b1))/\let r3:Int:=((f1+(ix p2 b1))%18446744069414584321)
J2 r3 i1 k1)/\
(decide (b1<(p2.length:Int))=false->
J2 f1 i1 k1))->J1)->
((b1==0)=true->
J1)/\
((b1==0)=false->
(decide (b1<(p2.length:Int))=true->
J1)/\
(decide (b1<(p2.length:Int))=false->
f1=r0.a0/\i1=r0.a1/\k1=r0.a2)))) (by kernel_rfl)<|by
 rintro p0 p1 p2 h _ rfl
 obtain⟨hP,h1,h2,h3⟩:=h
 subst hP
 have hp:=k1m
 have hi:S3 (absI p1 p2):=by unfold absI S3;dsimp only;omega
 have e:u64.wrap (p2.length:Int)=p2.length:=wu _ (by omega) (by omega)
 have em:(p1*65536%18446744069414584321+(p2.length:Int))%18446744069414584321=(absI p1 p2).a2:=rfl
 rw[e]
 refine⟨⟨rfl,h1,by omega⟩,⟨rfl,by omega,by omega⟩,?_⟩
 rw[em]
 refine⟨fun i a b c=>(i=0/\a=0/\b=0/\c=(absI p1 p2).a2)∨(0<i/\i<=p2.length+2/\absL (p2.drop i.toNat) ⟨a,b,c⟩=absS p1 p2/\S3 ⟨a,b,c⟩),fun i _ _ _=>(p2.length+4-i).toNat,.inl ⟨rfl,rfl,rfl,rfl⟩,?_⟩
 intro i a b c hg J1 j1
 have body:0<=i->i<=p2.length->(i<p2.length->absL (p2.drop i.toNat) ⟨a,b,c⟩=absS p1 p2)->(¬i<p2.length->permS ⟨a,b,c⟩=absS p1 p2)->S3 ⟨a,b,c⟩->J1:=by
  intro g0 g1 hne hnil hS
  obtain⟨h3a,h3b,h3c⟩:=hS
  refine j1 fun J2 j2=> ?_
  have hJ2:∀x y z,S3 ⟨x,y,z⟩->(i+1<p2.length->absL (p2.drop (i+2).toNat) (permS ⟨x,(y+ix p2 (i+1))%18446744069414584321,z⟩)=absS p1 p2)->(¬i+1<p2.length->permS ⟨x,y,z⟩=absS p1 p2)->J2 x y z:=by
   intro x y z hS k1 k2
   refine j2 _ _ _ fun J3 j3=> ?_
   have hJ3:∀x y z:Int,S3 ⟨x,y,z⟩->absL (p2.drop (i+2).toNat) (permS ⟨x,y,z⟩)=absS p1 p2->J3 x y z:=by
    intro x y z hS k
    refine j3 _ _ _ ?_
    rw[wi (i+2) (by omega) (by omega)]
    exact⟨⟨rfl,hS⟩,.inr ⟨(by omega:0<i+2),(by omega:i+2<=p2.length+2),k,hp _⟩,by(dsimp only;omega)⟩
   rw[wi (i+1) (by omega) (by omega)]
   refine⟨fun h5=> ?_,fun h5=> ?_⟩
   ·have h5:=of_decide_eq_true h5
    have hy:=h2 _ (ix_mem p2 (i+1) (by omega) h5)
    exact⟨by omega,h5,⟨rfl,hS.2.1,hy⟩,hJ3 _ _ _ (S3m (by have:=hS.1;omega) (by omega) hS.2.2) (k1 h5)⟩
   ·have ed2:p2.drop (i+2).toNat=[]:=List.drop_eq_nil_of_le (by have:=of_decide_eq_false h5;omega)
    exact hJ3 _ _ _ hS (by rw[ed2];exact k2 (of_decide_eq_false h5))
  refine⟨fun hh=> ?_,fun hh=> ?_⟩
  ·have hh:=of_decide_eq_true hh
   have hx:=h2 _ (ix_mem p2 i g0 hh)
   have g2:=hne hh
   rw[drop_ix p2 i g0 hh]at g2
   refine⟨g0,hh,⟨rfl,h3a,hx⟩,hJ2 _ _ _ (S3m (by omega) h3b h3c) (fun h5=> ?_) (fun h5=> ?_)⟩
   ·rw[drop_ix p2 (i+1) (by omega) h5,show i+1+1=i+2 by omega]at g2
    exact g2
   ·rw[show p2.drop (i+1).toNat=[]from List.drop_eq_nil_of_le (by omega)]at g2
    exact g2
  ·have hh:=of_decide_eq_false hh
   exact hJ2 _ _ _ ⟨h3a,h3b,h3c⟩ (fun h5=>by omega) (fun _=>hnil hh)
 refine⟨fun h0=> ?_,fun h0=>⟨fun hh=> ?_,fun hh=> ?_⟩⟩
 ·have h0:i=0:=by simpa using h0
  rcases hg with⟨_,rfl,rfl,rfl⟩|⟨hp0,_⟩
  ·subst h0
   refine body (by omega) (by omega) (fun hl=> ?_) (fun hl=> ?_) hi
   ·have hne:p2≠[]:=by rintro rfl;simp at hl
    unfold absS
    rw[if_neg hne]
    rfl
   ·have hnil:p2=[]:=List.eq_nil_of_length_eq_zero (by omega)
    unfold absS
    rw[if_pos hnil]
    rfl
  ·omega
 ·have h0:¬i=0:=by simpa using h0
  have hh:=of_decide_eq_true hh
  rcases hg with⟨h1,_⟩|⟨g0,g1,g2,g3⟩
  ·omega
  ·exact body (by omega) (by omega) (fun _=>g2) (fun hl=>absurd hh hl) g3
 ·have h0:¬i=0:=by simpa using h0
  have hh:=of_decide_eq_false hh
  rcases hg with⟨h1,_⟩|⟨g0,g1,g2,g3⟩
  ·omega
  ·rw[List.drop_eq_nil_of_le (by omega)]at g2
   have hv:(⟨a,b,c⟩:wS)=absS p1 p2:=g2
   rw[<-hv]
   exact⟨rfl,rfl,rfl⟩
noncomputable def kdc:Con TB.den:= .gp 52 [yqu,yqu,.sl yqu] [yqu] [] fun(p0 p1:Int) (p2:List Int)=>(p0=18446744069414584321/\U64 p1/\Us p2/\p2.length<=1099511627776,(hashS p1 p2:Int),())
theorem ke2:kdc.Ok Try.prog TB:=qrv Bs Try.func52 .no (k1e.c (kas.c c0)) (Q:=∀(p0 p1:Int) (p2:List Int),(p0=18446744069414584321/\U64 p1/\Us p2/\p2.length<=1099511627776)->∀r0:Int,hashS p1 p2=r0-> 
(p0=18446744069414584321)/\((!true)=true->
0=r0)/\
((!true)=false->
(p0=18446744069414584321/\U64 p1/\Us p2/\p2.length<=1099511627776)/\(absS p1 p2).a0=r0)) (by kernel_rfl)<|by
 rintro p0 p1 p2 h _ rfl
 obtain⟨hP,h1,h2,h3⟩:=h
 subst hP
 exact⟨rfl,fun h=>by simp at h,fun _=>⟨⟨rfl,h1,h2,h3⟩,rfl⟩⟩
noncomputable def kc8:Con TB.den:= .gp 53 [.sl yqb] [.sl yqu] [] fun(p0:List Int)=>(By p0/\p0.length<=1099511627776,(packS p0:List Int),())
theorem ke5:kc8.Ok Try.prog TB:=qrx Bs [10,21,22] Try.func53 (.r 1 (.nd [] (.r 0 (.lp [] ⟨[],[.vec yqu],[3,4],[.one (.row 0),.one (zqi)],[0]⟩ (.r 0 (.nd [] (.jn ⟨[],[.vec yqu],[3],[.one (.row 0)],[0,1]⟩ [] .no [] (.r 0 (.nd [] (.r 0 (.lp [] ⟨[],[],[5,6],[.one (zqu),.one (zqi)],[]⟩ .no)) [] .no))) [] .no)))) [] (.r 0 (.rt [.frz 1 [2]])))) x0 c0 (Q:=∀(p0:List Int),(By p0/\p0.length<=1099511627776)->∀r0:List Int,packS p0=r0-> 
([u64.wrap (p0.length:Int)].length=[u64.wrap (p0.length:Int)].length)/\∃(I1:Int->(List Int)->Prop) (M1:Int->(List Int)->Nat),I1 0 [u64.wrap (p0.length:Int)]/\∀(b1:Int) (f1:List Int),(I1 b1 f1->
(decide (b1<(p0.length:Int))=true->
∀J1:(List Int)->Prop,(∀(i1:List Int),
((0<=b1)/\b1<(p0.length:Int)/\∃(I2:Int->Int->Prop) (M2:Int->Int->Nat),I2 (u64.wrap (ix p0 b1)) 0/\∀(k1 l1:Int),(I2 k1 l1->
(decide (l1<(Int.tmod b1 7))=true->
I2 (u64.wrap (k1*256)) (i64.wrap (l1+1))/\M2 (u64.wrap (k1*256)) (i64.wrap (l1+1))<M2 k1 l1)/\
(decide (l1<(Int.tmod b1 7))=false->
(0<=i64.wrap ((i1.length:Int)-1)/\i64.wrap ((i1.length:Int)-1)<(i1.length:Int))/\(0<=i64.wrap ((i1.length:Int)-1)/\i64.wrap ((i1.length:Int)-1)<(i1.length:Int))/\let v1:Int:=ix i1 (i64.wrap ((i1.length:Int)-1))
(0<=i64.wrap ((i1.length:Int)-1)/\i64.wrap ((i1.length:Int)-1)<(i1.length:Int))/\(0<=i64.wrap ((i1.length:Int)-1)/\i64.wrap ((i1.length:Int)-1)<(i1.length:Int))/\(i1.length=(i1.set (i64.wrap ((i1.length:Int)-1)).toNat (u64.wrap (v1+k1))).length)/\I1 (i64.wrap (b1+1)) (i1.set (i64.wrap ((i1.length:Int)-1)).toNat (u64.wrap (v1+k1)))/\M1 (i64.wrap (b1+1)) (i1.set (i64.wrap ((i1.length:Int)-1)).toNat (u64.wrap (v1+k1)))<M1 b1 f1)))->J1 i1)->
(((Int.tmod b1 7)==0)=true->
f1.length=f1.length/\[0].length=[0].length/\(f1.length+[0].length)*8<=140737488355328/\f1.length+[0].length<=maxLen/\((f1++[0]).length=(f1++[0]).length)/\J1 (f1++[0]))/\
(((Int.tmod b1 7)==0)=false->
(f1.length=f1.length)/\J1 f1))/\
(decide (b1<(p0.length:Int))=false->
(f1.length=f1.length)/\f1=r0))) (by kernel_rfl)<|by
 rintro p0 h _ rfl
 obtain⟨hb,hl⟩:=h
 have e0:u64.wrap (p0.length:Int)=p0.length:=wu _ (by omega) (by omega)
 rw[e0]
 refine⟨rfl,?_⟩
 refine⟨(fun i g=>0<=i/\i<=p0.length/\g=(p0.length:Int)::pkI p0 i.toNat),(fun i _=>(p0.length-i).toNat),⟨by omega,by omega,by rw[show(0:Int).toNat=0 from rfl,kgl]⟩,?_⟩
 rintro i g ⟨g0,g1,rfl⟩
 have hlen:=kea p0 i.toNat
 have em:Int.tmod i 7=i%7:=tmod_nn _ _ g0
 refine⟨fun hh J1 kJ1=> ?_,fun hh=> ?_⟩
 ·have hh:=of_decide_eq_true hh
  have rest:J1 ((p0.length:Int)::(pkF p0 i.toNat++[if i.toNat%7=0 then 0 else pkV p0 i.toNat])):=by
   have hb1:=hb _ (ix_mem p0 i g0 hh)
   have hF:=k84 p0 i.toNat
   refine kJ1 _ ⟨g0,hh,?_⟩
   rw[wu (ix p0 i) (by omega) (by omega)]
   have hp6:∀k:Nat,k<=6->(256:Int)^k<=281474976710656:=fun k hk=>k3u (m:=6) hk
   refine⟨(fun n k=>0<=k/\k<=i%7/\n=256^k.toNat*ix p0 i),(fun _ k=>(i%7-k).toNat),⟨by omega,by omega,by rw[show(0:Int).toNat=0 from rfl,Int.pow_zero,Int.one_mul]⟩,?_⟩
   rintro n k ⟨k0,k1,rfl⟩
   have hpk:=hp6 k.toNat (by omega)
   have hpp:=k1u k.toNat
   have hb2:256^k.toNat*ix p0 i<=281474976710656*255:=Int.mul_le_mul hpk (by omega) (by omega) (by omega)
   have hb3:0<=256^k.toNat*ix p0 i:=Int.mul_nonneg (by omega) (by omega)
   refine⟨fun h2=> ?_,fun h2=> ?_⟩
   ·have h2:=of_decide_eq_true h2
    rw[em]at h2
    rw[wi (k+1) (by omega) (by omega),wu _ (by omega) (by omega)]
    refine⟨⟨by omega,by omega,?_⟩,by(dsimp only;omega)⟩
    rw[show(k+1).toNat=k.toNat+1 by omega,k1x,Int.mul_comm,Int.mul_assoc]
   ·have h2:=of_decide_eq_false h2
    rw[em]at h2
    have hk:k.toNat=i.toNat%7:=by omega
    have hl1:(((p0.length:Int)::(pkF p0 i.toNat++[if i.toNat%7=0 then 0 else pkV p0 i.toNat])).length:Int)=(pkF p0 i.toNat).length+2:=by simp;omega
    have hix:ix ((p0.length:Int)::(pkF p0 i.toNat++[if i.toNat%7=0 then 0 else pkV p0 i.toNat])) ((pkF p0 i.toNat).length+1)=if i.toNat%7=0 then 0 else pkV p0 i.toNat:=by
     rw[ix_nat _ _ (by omega) (by omega)]
     have:((pkF p0 i.toNat).length+1:Int).toNat=(pkF p0 i.toNat).length+1:=by omega
     simp[this]
    have hv:=kf6 hb i.toNat
    have hv2:(256:Int)^(i.toNat%7)<=281474976710656:=hp6 _ (by omega)
    rw[hl1,show((pkF p0 i.toNat).length:Int)+2-1=(pkF p0 i.toNat).length+1 by omega,wi ((pkF p0 i.toNat).length+1) (by omega) (by omega)]
    dsimp only
    have e5:((pkF p0 i.toNat).length+1:Int).toNat=(pkF p0 i.toNat).length+1:=by omega
    have e6:(i+1).toNat=i.toNat+1:=by omega
    refine⟨⟨by omega,by omega⟩,⟨by omega,by omega⟩,⟨by omega,by omega⟩,⟨by omega,by omega⟩,by rw[List.length_set],?_⟩
    rw[hix,wi (i+1) (by omega) (by omega),wu _ (by split<;>omega) (by split<;>omega)]
    refine⟨⟨by omega,by omega,?_⟩,by omega⟩
    rw[e6,kh4 (by omega),e5,List.set_cons_succ,kgn,hk,ix_nat p0 i g0 hh]
  refine⟨fun h7=> ?_,fun h7=> ?_⟩
  ·have h7:i%7=0:=by rw[em]at h7;simpa using h7
   have e1:pkI p0 i.toNat=pkF p0 i.toNat:=if_pos (by omega)
   have e2:(if i.toNat%7=0 then(0:Int)else pkV p0 i.toNat)=0:=if_pos (by omega)
   rw[e2]at rest
   refine⟨rfl,rfl,by simp;omega,by simp;unfold maxLen;omega,rfl,?_⟩
   rw[List.cons_append,e1]
   exact rest
  ·have h7:¬i%7=0:=by rw[em]at h7;simpa using h7
   have e1:pkI p0 i.toNat=pkF p0 i.toNat++[pkV p0 i.toNat]:=if_neg (by omega)
   have e2:(if i.toNat%7=0 then(0:Int)else pkV p0 i.toNat)=pkV p0 i.toNat:=if_neg (by omega)
   rw[e2]at rest
   refine⟨rfl,?_⟩
   rw[e1]
   exact rest
 ·have hh:=of_decide_eq_false hh
  refine⟨rfl,?_⟩
  rw[show i.toNat=p0.length by omega,kgy]
  rfl
noncomputable def k6k:Con TB.den:= .gp 33 [yqu,.sl yqb] [yqu] [] fun(p0:Int) (p1:List Int)=>(U64 p0/\By p1/\p1.length<=1099511627775,(hashB p0 p1:Int),())
theorem k3b:k6k.Ok Try.prog TB:=qrv Bs Try.func33 .no (ke5.c (ke2.c c0)) (Q:=∀(p0:Int) (p1:List Int),(U64 p0/\By p1/\p1.length<=1099511627775)->∀r0:Int,hashB p0 p1=r0-> 
(By p1/\p1.length<=1099511627776)/\((18446744069414584321:Int)=18446744069414584321/\U64 p0/\Us (packS p1)/\(packS p1).length<=1099511627776)/\(hashS p0 (packS p1))=r0) (by kernel_rfl)<|by
 rintro p0 p1 h _ rfl
 obtain⟨h1,h2,h3⟩:=h
 refine⟨⟨h2,by omega⟩,⟨rfl,h1,?_,?_⟩,rfl⟩
 ·intro x hx
  rcases List.mem_cons.1 hx with rfl|hx
  ·omega
  ·exact k7b _ _ h2 x hx
 ·have:=k27 p1.length p1
  simp only[packS,List.length_cons]
  omega
noncomputable def kan:Con TB.den:= .gp 47 [.st 3] [.bool] [] fun(p0:wX)=>(0<=p0.a0/\0<=p0.a1,(vPoint p0.a0 p0.a1:Bool),())
theorem kbp:kan.Ok Try.prog TB:=qrv Bs Try.func47 .no c0 (Q:=∀(p0:wX),(0<=p0.a0/\0<=p0.a1)->∀r0:Bool,vPoint p0.a0 p0.a1=r0-> 
(decide (p0.a0<18446744069414584321)=true->
(decide (p0.a1<18446744069414584321)=true->
(decide (0<p0.a0)=true->
true=r0)/\
(decide (0<p0.a0)=false->
decide (0<p0.a1)=r0))/\
(decide (p0.a1<18446744069414584321)=false->
false=r0))/\
(decide (p0.a0<18446744069414584321)=false->
false=r0)) (by kernel_rfl)<|by
 rintro p0 h _ rfl
 refine ?_
 unfold vPoint
 repeat' (apply And.intro<;>intro h)
 all_goals grind
noncomputable def k8u:Con TB.den:= .gp 46 [.sl yqu] [.bool] [] fun(p0:List Int)=>(p0.length<=9223372036854775807,(p0.all (fun x=>decide (x<18446744069414584321)):Bool),())
theorem k97:k8u.Ok Try.prog TB:=qrv Bs Try.func46 (.r 0 (.nd [] (.r 0 (.lp [] ⟨[],[],[3],[.one (zqi)],[]⟩ .no)) [] .no)) c0 (Q:=∀(p0:List Int),(p0.length<=9223372036854775807)->∀r0:Bool,(p0.all (fun x=>decide (x<18446744069414584321)))=r0-> 
∃(I1:Int->Prop) (M1:Int->Nat),I1 0/\∀(b1:Int),(I1 b1->
(decide (b1<(p0.length:Int))=true->
(0<=b1)/\b1<(p0.length:Int)/\let v1:Bool:=decide (18446744069414584321<=(ix p0 b1))
(v1=true->
false=r0)/\
(v1=false->
I1 (i64.wrap (b1+1))/\M1 (i64.wrap (b1+1))<M1 b1))/\
(decide (b1<(p0.length:Int))=false->
true=r0))) (by kernel_rfl)<|by
 rintro p0 h _ rfl
 refine(⟨(fun i=>0<=i/\i<=p0.length/\∀x∈p0.take i.toNat,x<18446744069414584321),(fun i=>(p0.length-i).toNat),⟨by omega,by omega,by simp⟩,?_⟩)
 rintro i ⟨g0,g1,g2⟩
 refine⟨fun hh=> ?_,fun hh=> ?_⟩
 ·have hh:=of_decide_eq_true hh
  refine⟨g0,hh,fun e=> ?_,fun e=> ?_⟩
  ·have e:=of_decide_eq_true e
   exact(List.all_eq_false.2 ⟨_,ix_mem p0 i g0 hh,by simp;omega⟩).symm
  ·have e:=of_decide_eq_false e
   rw[inc i p0.length g0 hh (by omega)]
   refine⟨⟨by omega,by omega,?_⟩,by(dsimp only;omega)⟩
   rw[ka p0 i g0 hh]
   intro x hx
   rcases List.mem_append.1 hx with hx|hx
   ·exact g2 x hx
   ·have:x=ix p0 i:=by simpa using hx
    omega
 ·have hh:=of_decide_eq_false hh
  rw[List.take_of_length_le (by omega)]at g2
  symm
  simpa using g2
noncomputable def kb0:Con TB.den:= .gp 31 [.st 1] [yqi] [] fun(p0:wJ)=>(TR p0/\TL p0,(validE p0:Int),())
theorem k63:kb0.Ok Try.prog TB:=qrv Bs Try.func31 (.r 1 (.nd [] (.r 0 (.lp [] ⟨[],[],[3],[.one (zqi)],[]⟩ (.r 0 (.nd [] (.r 0 (.lp [] ⟨[],[],[4],[.one (zqi)],[]⟩ .no)) [] .no)))) [] (.nd [] (.r 0 (.lp [] ⟨[],[],[5],[.one (zqi)],[]⟩ .no)) [] (.jn ⟨[],[],[],[],[]⟩ [] .no [] (.jn ⟨[],[],[],[],[]⟩ [] .no [] .no))))) (k97.c (kbp.c c0)) (Q:=∀(p0:wJ),(TR p0/\TL p0)->∀r0:Int,validE p0=r0-> 
(decide (4<(p0.wF.length:Int))=true->
1=r0)/\
(decide (4<(p0.wF.length:Int))=false->
(decide (4<(p0.wA.length:Int))=true->
1=r0)/\
(decide (4<(p0.wA.length:Int))=false->
(p0.wF.length<=9223372036854775807)/\let r1:Bool:=(p0.wF.all (fun x=>decide (x<18446744069414584321)))
((!r1)=true->
1=r0)/\
((!r1)=false->
([p0.wT,p0.wN,p0.wD].length<=9223372036854775807)/\let r2:Bool:=([p0.wT,p0.wN,p0.wD].all (fun x=>decide (x<18446744069414584321)))
((!r2)=true->
1=r0)/\
((!r2)=false->
∃(I1:Int->Prop) (M1:Int->Nat),I1 0/\∀(b1:Int),(I1 b1->
(decide (b1<(p0.wF.length:Int))=true->
∃(I2:Int->Prop) (M2:Int->Nat),I2 0/\∀(f1:Int),(I2 f1->
(decide (f1<b1)=true->
(0<=b1)/\b1<(p0.wF.length:Int)/\(0<=f1)/\f1<(p0.wF.length:Int)/\(((ix p0.wF b1)==(ix p0.wF f1))=true->
1=r0)/\
(((ix p0.wF b1)==(ix p0.wF f1))=false->
I2 (i64.wrap (f1+1))/\M2 (i64.wrap (f1+1))<M2 f1))/\
(decide (f1<b1)=false->
I1 (i64.wrap (b1+1))/\M1 (i64.wrap (b1+1))<M1 b1)))/\
(decide (b1<(p0.wF.length:Int))=false->
∃(I3:Int->Prop) (M3:Int->Nat),I3 0/\∀(i1:Int),(I3 i1->
(decide (i1<(p0.wA.length:Int))=true->
(0<=i1)/\i1<(p0.wA.length:Int)/\let v3:Bool:=decide (18446744069414584321<=((ix p0.wA i1).wV))
(v3=true->
1=r0)/\
(v3=false->
(0<=(wX.mk ((ix p0.wA i1).wR) ((ix p0.wA i1).wP)).a0/\0<=(wX.mk ((ix p0.wA i1).wR) ((ix p0.wA i1).wP)).a1)/\let r4:Bool:=(vPoint (wX.mk ((ix p0.wA i1).wR) ((ix p0.wA i1).wP)).a0 (wX.mk ((ix p0.wA i1).wR) ((ix p0.wA i1).wP)).a1)
((!r4)=true->
1=r0)/\
((!r4)=false->
let v5:Bool:=((((ix p0.wA i1).wC).length:Int) !=3)
(v5=true->
1=r0)/\
(v5=false->
(((ix p0.wA i1).wC).length<=9223372036854775807)/\let r6:Bool:=(((ix p0.wA i1).wC).all (fun x=>decide (x<18446744069414584321)))
((!r6)=true->
1=r0)/\
((!r6)=false->
I3 (i64.wrap (i1+1))/\M3 (i64.wrap (i1+1))<M3 i1)))))/\
(decide (i1<(p0.wA.length:Int))=false->
∀J1:Prop,((∀J2:Prop,(((decide (p0.wM<0)=true->
1=r0)/\
(decide (p0.wM<0)=false->
(decide (1048576<p0.wM)=true->
1=r0)/\
(decide (1048576<p0.wM)=false->
let v7:Bool:=decide (1048576<(p0.wO.length:Int))
(v7=true->
3=r0)/\
(v7=false->
0=r0))))->J2)->
((p0.wL==0)=true->
((p0.wD !=0)=true->
1=r0)/\
((p0.wD !=0)=false->
(((p0.wF.length:Int)==0)=true->
1=r0)/\
(((p0.wF.length:Int)==0)=false->
((p0.wI==0)=true->
((p0.wN !=0)=true->
1=r0)/\
((p0.wN !=0)=false->
J2))/\
((p0.wI==0)=false->
J2))))/\
((p0.wL==0)=false->
J2))->J1)->
(decide (4294967295<p0.wL)=true->
1=r0)/\
(decide (4294967295<p0.wL)=false->
(decide (4294967295<p0.wI)=true->
1=r0)/\
(decide (4294967295<p0.wI)=false->
(decide (4294967295<p0.Fee)=true->
1=r0)/\
(decide (4294967295<p0.Fee)=false->
(decide (0<p0.wL)=true->
(decide (0<p0.wI)=true->
1=r0)/\
(decide (0<p0.wI)=false->
J1))/\
(decide (0<p0.wL)=false->
J1))))))))))))) (by kernel_rfl)<|by
 rintro p0 h _ rfl
 obtain⟨hr,hl⟩:=h
 have e3:[p0.wT,p0.wN,p0.wD].all (fun x=>decide (x<18446744069414584321))=(decide (p0.wT<18446744069414584321)&&(decide (p0.wN<18446744069414584321)&&decide (p0.wD<18446744069414584321))):=by simp
 have bad:(vMarks p0.wF&&vOuts p0.wA&&vAmounts p0&&vRest p0)=false->1=validE p0:=by intro h;unfold validE;rw[h];rfl
 have badM:vMarks p0.wF=false->1=validE p0:=fun h=>bad (by rw[h];rfl)
 have badO:vOuts p0.wA=false->1=validE p0:=fun h=>bad (by rw[h];simp)
 have badA:vAmounts p0=false->1=validE p0:=fun h=>bad (by rw[h];simp)
 have badR:vRest p0=false->1=validE p0:=fun h=>bad (by rw[h];simp)
 refine⟨fun h=>badM ?_,fun h=>⟨fun h2=>badO ?_,fun h2=>⟨by have:=hl.m;omega,fun h3=>badM ?_,fun h3=>⟨by simp,fun h4=> ?_,fun h4=> ?_⟩⟩⟩⟩
 ·have h:=of_decide_eq_true h
  unfold vMarks
  rw[decide_eq_false (by omega)]
  rfl
 ·have h2:=of_decide_eq_true h2
  unfold vOuts
  rw[decide_eq_false (by omega)]
  rfl
 ·have h3:p0.wF.all (fun x=>decide (x<18446744069414584321))=false:=by simpa using h3
  unfold vMarks
  rw[h3]
  simp
 ·rw[e3]at h4
  have:vAmounts p0=false∨vRest p0=false:=by
   unfold vAmounts vRest
   grind
  exact this.elim badA badR
 have h:=of_decide_eq_false h
 have h2:=of_decide_eq_false h2
 have h3:p0.wF.all (fun x=>decide (x<18446744069414584321))=true:=by simpa using h3
 have h4:[p0.wT,p0.wN,p0.wD].all (fun x=>decide (x<18446744069414584321))=true:=by
  cases hq:[p0.wT,p0.wN,p0.wD].all (fun x=>decide (x<18446744069414584321))
  ·rw[hq]at h4;simp at h4
  ·rfl
 rw[e3]at h4
 simp only[Bool.and_eq_true,decide_eq_true_eq]at h4
 obtain⟨a1,a2,a3⟩:=h4
 refine⟨fun i=>0<=i/\i<=p0.wF.length/\(p0.wF.take i.toNat).Nodup,fun i=>(p0.wF.length-i).toNat,⟨by omega,by omega,by simp⟩,?_⟩
 rintro i ⟨g0,g1,g2⟩
 refine⟨fun hh=> ?_,fun hh=> ?_⟩
 ·have hh:=of_decide_eq_true hh
  refine⟨fun k=>0<=k/\k<=i/\∀x∈p0.wF.take k.toNat,x≠ix p0.wF i,fun k=>(i-k).toNat,⟨by omega,by omega,by simp⟩,?_⟩
  rintro k ⟨k0,k1,k2⟩
  refine⟨fun hk=> ?_,fun hk=> ?_⟩
  ·have hk:=of_decide_eq_true hk
   refine⟨g0,hh,k0,by omega,fun e=>badM ?_,fun e=> ?_⟩
   ·have e:ix p0.wF i=ix p0.wF k:=by simpa using e
    have:¬p0.wF.Nodup:=by
     intro hn
     rw[ix_nat _ i g0 hh,ix_nat _ k k0 (by omega)]at e
     have:=(List.getElem_inj hn).1 e
     omega
    unfold vMarks
    rw[decide_eq_false this]
    simp
   ·have e:¬ix p0.wF i=ix p0.wF k:=by simpa using e
    rw[inc k i k0 hk (by omega)]
    refine⟨⟨by omega,by omega,?_⟩,by(dsimp only;omega)⟩
    rw[ka p0.wF k k0 (by omega)]
    intro x hx
    rcases List.mem_append.1 hx with hx|hx
    ·exact k2 x hx
    ·have:x=ix p0.wF k:=by simpa using hx
     rw[this];exact fun e' =>e e'.symm
  ·have hk:=of_decide_eq_false hk
   have hki:k=i:=by omega
   subst hki
   have nxt:(0<=k+1/\k+1<=p0.wF.length/\(p0.wF.take (k+1).toNat).Nodup)/\(p0.wF.length-(k+1)).toNat<(p0.wF.length-k).toNat:=by
    refine⟨⟨by omega,by omega,?_⟩,by omega⟩
    rw[ka p0.wF k g0 hh]
    refine List.nodup_append.2 ⟨g2,by simp,fun a ha b hb=> ?_⟩
    have:b=ix p0.wF k:=by simpa using hb
    rw[this];exact k2 a ha
   have hi:=inc k p0.wF.length g0 hh (by omega)
   rw[hi]
   exact nxt
 ·have hh:=of_decide_eq_false hh
  rw[List.take_of_length_le (by omega)]at g2
  have vm:vMarks p0.wF=true:=by
   unfold vMarks
   rw[h3,decide_eq_true g2,decide_eq_true (by omega)]
   rfl
  refine⟨fun i=>0<=i/\i<=p0.wA.length/\∀x∈p0.wA.take i.toNat,vOut x=true,fun i=>(p0.wA.length-i).toNat,⟨by omega,by omega,by simp⟩,?_⟩
  rintro i ⟨g0,g1,g2⟩
  refine⟨fun hh=> ?_,fun hh J1 k1=> ?_⟩
  ·have hh:=of_decide_eq_true hh
   have hx:=hr.o _ (ix_mem p0.wA i g0 hh)
   have hlc:=hl.c _ (ix_mem p0.wA i g0 hh)
   have bd:vOut (ix p0.wA i)=false->1=validE p0:=by
    intro hb
    refine badO ?_
    unfold vOuts
    have:p0.wA.all vOut=false:=List.all_eq_false.2 ⟨_,ix_mem p0.wA i g0 hh,by simp[hb]⟩
    rw[this]
    simp
   unfold vOut at bd
   refine⟨g0,hh,fun e=>bd ?_,fun e=>⟨⟨hx.p0.1,hx.p1.1⟩,fun e2=>bd ?_,fun e2=>⟨fun e3=>bd ?_,fun e3=>⟨by omega,fun e4=>bd ?_,fun e4=> ?_⟩⟩⟩⟩
   ·have e:=of_decide_eq_true e
    rw[decide_eq_false (by omega)]
    rfl
   ·have e2:vPoint (ix p0.wA i).wR (ix p0.wA i).wP=false:=by simpa using e2
    simp[e2]
   ·have e3:¬((ix p0.wA i).wC.length:Int)=3:=by simpa using e3
    have e3:¬(ix p0.wA i).wC.length=3:=by omega
    simp[e3]
   ·have e4:(ix p0.wA i).wC.all (fun x=>decide (x<18446744069414584321))=false:=by
     cases hq:(ix p0.wA i).wC.all (fun x=>decide (x<18446744069414584321))
     ·rfl
     ·rw[hq]at e4;simp at e4
    rw[e4]
    simp
   ·have e:=of_decide_eq_false e
    have e2:vPoint (ix p0.wA i).wR (ix p0.wA i).wP=true:=by simpa using e2
    have e3:((ix p0.wA i).wC.length:Int)=3:=by simpa using e3
    have e4:(ix p0.wA i).wC.all (fun x=>decide (x<18446744069414584321))=true:=by
     cases hq:(ix p0.wA i).wC.all (fun x=>decide (x<18446744069414584321))
     ·rw[hq]at e4;simp at e4
     ·rfl
    have hv:vOut (ix p0.wA i)=true:=(k4r _).2 ⟨by omega,e2,by omega,by simpa using e4⟩
    rw[inc i p0.wA.length g0 hh (by omega)]
    refine⟨⟨by omega,by omega,?_⟩,by(dsimp only;omega)⟩
    rw[ka p0.wA i g0 hh]
    intro x hx
    rcases List.mem_append.1 hx with hx|hx
    ·exact g2 x hx
    ·have:x=ix p0.wA i:=by simpa using hx
     rw[this];exact hv
  ·have hh:=of_decide_eq_false hh
   rw[List.take_of_length_le (by omega)]at g2
   have vo:vOuts p0.wA=true:=by
    unfold vOuts
    have:p0.wA.all vOut=true:=by simpa using g2
    rw[this,decide_eq_true (by omega)]
    rfl
   have j1:vOuts p0.wA=true->p0.wL<=4294967295->p0.wI<=4294967295->p0.Fee<=4294967295->(0<p0.wL->p0.wI=0)->J1:=by
    intro vo d1 d2 d3 d4
    have hd:=hr.d
    have hw:=hr.w
    have fA:¬(p0.wL<=4294967295/\p0.wI<=4294967295/\p0.Fee<=4294967295/\p0.wN<18446744069414584321/\p0.wD<18446744069414584321/\(0<p0.wL->p0.wI=0)/\(¬0<p0.wL->p0.wF≠[]/\p0.wD=0/\(0<p0.wI∨p0.wN=0)))->1=validE p0:=fun h=>badA (Bool.eq_false_iff.2 fun h' =>h ((k1c p0).1 h'))
    refine k1 fun J2 k2=> ?_
    have j2:vOuts p0.wA=true->vAmounts p0=true->J2:=by
     intro vo va
     refine k2 ⟨fun e=>badR ?_,fun e=>⟨fun e2=>badR ?_,fun e2=> ?_⟩⟩
     ·have e:=of_decide_eq_true e
      unfold vRest
      rw[decide_eq_false (p:=0<=p0.wM) (by omega)]
      simp
     ·have e2:=of_decide_eq_true e2
      unfold vRest
      rw[decide_eq_false (p:=p0.wM<=1048576) (by omega)]
      simp
     ·have e:=of_decide_eq_false e
      have e2:=of_decide_eq_false e2
      have vr:vRest p0=true:=by
       unfold vRest
       rw[decide_eq_true a1,decide_eq_true (p:=0<=p0.wM) (by omega),decide_eq_true (p:=p0.wM<=1048576) (by omega)]
       rfl
      unfold validE
      rw[vm,vo,va,vr]
      refine⟨fun e=> ?_,fun e=> ?_⟩
      ·have e:=of_decide_eq_true e
       simp;omega
      ·have e:=of_decide_eq_false e
       simp;omega
    refine⟨fun e=>⟨fun e2=>fA ?_,fun e2=>⟨fun e3=>fA ?_,fun e3=>⟨fun e4=>⟨fun e5=>fA ?_,fun e5=>j2 vo ((k1c p0).2 ?_)⟩,fun e4=>j2 vo ((k1c p0).2 ?_)⟩⟩⟩,fun e=>j2 vo ((k1c p0).2 ?_)⟩
    all_goals simp only[beq_iff_eq,bne_iff_ne,beq_eq_false_iff_ne,bne_eq_false_iff_eq,Int.natCast_eq_zero,List.length_eq_zero_iff]at *
    ·exact fun h=>by have:=h.2.2.2.2.2.2 (by omega);omega
    ·exact fun h=>(h.2.2.2.2.2.2 (by omega)).1 e3
    ·exact fun h=>by have:=(h.2.2.2.2.2.2 (by omega)).2.2;omega
    ·exact⟨d1,d2,d3,a2,a3,d4,fun _=>⟨fun hq=>e3 (by rw[hq];rfl),e2,.inr e5⟩⟩
    ·exact⟨d1,d2,d3,a2,a3,d4,fun _=>⟨fun hq=>e3 (by rw[hq];rfl),e2,.inl (by omega)⟩⟩
    ·exact⟨d1,d2,d3,a2,a3,d4,fun h=>by omega⟩
   have hd:=hr.d
   have hw:=hr.w
   have fA:¬(p0.wL<=4294967295/\p0.wI<=4294967295/\p0.Fee<=4294967295/\(0<p0.wL->p0.wI=0))->1=validE p0:=fun h=>badA (Bool.eq_false_iff.2 fun h' =>h (by have:=(k1c p0).1 h';exact⟨this.1,this.2.1,this.2.2.1,this.2.2.2.2.2.1⟩))
   refine⟨fun e=>fA ?_,fun e=>⟨fun e2=>fA ?_,fun e2=>⟨fun e3=>fA ?_,fun e3=>⟨fun e4=>⟨fun e5=>fA ?_,fun e5=>j1 vo ?_ ?_ ?_ ?_⟩,fun e4=>j1 vo ?_ ?_ ?_ ?_⟩⟩⟩⟩
   all_goals simp only[decide_eq_true_eq,decide_eq_false_iff_not]at *
   all_goals omega
noncomputable def kel:Con TB.den:= .gp 55 [.st 1] [yqu] [] fun(p0:wJ)=>(TR p0/\TL p0,(idS p0:Int),())
theorem kfz:kel.Ok Try.prog TB:=qrv Bs Try.func55 .no (k63.c (k34.c (k3b.c c0))) (Q:=∀(p0:wJ),(TR p0/\TL p0)->∀r0:Int,idS p0=r0-> 
(TR p0/\TL p0)/\(((validE p0) !=0)=true->
0=r0)/\
(((validE p0) !=0)=false->
(TR p0/\TL p0/\p0.wA.length<=1048576/\(∀x∈p0.wA,x.wC.length<=1024))/\(U64 (14:Int)/\By (encT p0 p0.wO)/\(encT p0 p0.wO).length<=1099511627775)/\(hashB (14:Int) (encT p0 p0.wO))=r0)) (by kernel_rfl)<|by
 rintro p0 h _ rfl
 obtain⟨hr,hl⟩:=h
 refine⟨⟨hr,hl⟩,fun e=> ?_,fun e=> ?_⟩
 ·have e:¬validE p0=0:=by simpa using e
  unfold idS
  rw[if_neg e]
 ·have e:validE p0=0:=by simpa using e
  have v:=(kr p0).1 e
  unfold idS
  rw[if_pos e]
  exact⟨v.bl hr,⟨by decide,encT_by hr.p,encT_le v⟩,rfl⟩
noncomputable def k76:Con TB.den:= .g ⟨54,[.agg [zqu,zqi,zqu,zqu,zqu,.d (.sl (.st 1))]],[],(.one (.one (.own 0))),[.tip yqb],false⟩ [.st 2] [.sl yqb] [] fun(p0:wB)=>(BR p0/\p0.Txs.length<=64,(hdrS p0:List Int),())
theorem k80:k76.Ok Try.prog TB:=prv Bs Try.func54 .no (k26.c (k82.c c0)) (Q:=∀(p0:wB),(BR p0/\p0.Txs.length<=64)->∀e0:List Int,hdrS p0=e0-> 
(U64 p0.wH/\0<=(8:Int)/\(8:Int)<=8)/\(dig (8:Int).toNat p0.wH).length=(dig (8:Int).toNat p0.wH).length/\((dig (8:Int).toNat p0.wH).length+(dig 4 (len4 p0.wE)).length)*1<=140737488355328/\(dig (8:Int).toNat p0.wH).length+(dig 4 (len4 p0.wE)).length<=maxLen/\let v1:List Int:=(dig (8:Int).toNat p0.wH)++(dig 4 (len4 p0.wE))
(U64 p0.wK/\0<=(8:Int)/\(8:Int)<=8)/\v1.length=v1.length/\(v1.length+(dig (8:Int).toNat p0.wK).length)*1<=140737488355328/\v1.length+(dig (8:Int).toNat p0.wK).length<=maxLen/\(U64 p0.wG/\0<=(8:Int)/\(8:Int)<=8)/\(v1++(dig (8:Int).toNat p0.wK)).length=(v1++(dig (8:Int).toNat p0.wK)).length/\((v1++(dig (8:Int).toNat p0.wK)).length+(dig (8:Int).toNat p0.wG).length)*1<=140737488355328/\(v1++(dig (8:Int).toNat p0.wK)).length+(dig (8:Int).toNat p0.wG).length<=maxLen/\let v2:List Int:=(v1++(dig (8:Int).toNat p0.wK))++(dig (8:Int).toNat p0.wG)
(U64 p0.wD/\0<=(8:Int)/\(8:Int)<=8)/\v2.length=v2.length/\(v2.length+(dig (8:Int).toNat p0.wD).length)*1<=140737488355328/\v2.length+(dig (8:Int).toNat p0.wD).length<=maxLen/\(v2++(dig (8:Int).toNat p0.wD)).length=(v2++(dig (8:Int).toNat p0.wD)).length/\((v2++(dig (8:Int).toNat p0.wD)).length+(dig 4 (len4 (p0.Txs.length:Int))).length)*1<=140737488355328/\(v2++(dig (8:Int).toNat p0.wD)).length+(dig 4 (len4 (p0.Txs.length:Int))).length<=maxLen/\let v3:List Int:=(v2++(dig (8:Int).toNat p0.wD))++(dig 4 (len4 (p0.Txs.length:Int)))
(v3=v3)/\v3=e0) (by kernel_rfl)<|by
 rintro p0 h _ rfl
 obtain⟨hr,hl⟩:=h
 refine ?_
 have e8:(8:Int).toNat=8:=rfl
 simp[maxLen,hdrS,e8]
 exact⟨hr.p,hr.m,hr.w,hr.n⟩
noncomputable def kax:Con TB.den:= .gp 34 [.st 2] [.sl yqb] [] fun(p0:wB)=>(BR p0/\VB p0,(namS p0:List Int),())
theorem kcr:kax.Ok Try.prog TB:=qrv Bs Try.func34 (.r 1 (.nd [] (.r 0 (.lp [] ⟨[1],[.tip yqb],[3,4],[.one (.own 0),.one (zqi)],[]⟩ .no)) [] .no)) (k80.c (kfz.c (k2u.c c0))) (Q:=∀(p0:wB),(BR p0/\VB p0)->∀r0:List Int,namS p0=r0-> 
(BR p0/\p0.Txs.length<=64)/\((hdrS p0)=(hdrS p0))/\∃(I1:Int->(List Int)->Prop) (M1:Int->(List Int)->Nat),I1 0 (hdrS p0)/\∀(b1:Int) (f1:List Int),(I1 b1 f1->
(decide (b1<(p0.Txs.length:Int))=true->
(0<=b1)/\b1<(p0.Txs.length:Int)/\(TR (ix p0.Txs b1)/\TL (ix p0.Txs b1))/\(U64 (idS (ix p0.Txs b1))/\0<=(8:Int)/\(8:Int)<=8)/\let r1:List Int:=(dig (8:Int).toNat (idS (ix p0.Txs b1)))
f1.length=f1.length/\(f1.length+r1.length)*1<=140737488355328/\f1.length+r1.length<=maxLen/\(f1++r1=f1++r1)/\I1 (i64.wrap (b1+1)) (f1++r1)/\M1 (i64.wrap (b1+1)) (f1++r1)<M1 b1 f1)/\
(decide (b1<(p0.Txs.length:Int))=false->
f1=r0))) (by kernel_rfl)<|by
 rintro p0 h _ rfl
 obtain⟨hr,v⟩:=h
 have hl:=v.h.l
 refine⟨⟨hr,hl⟩,rfl,?_⟩
 refine⟨(FlatI (fun t=>dig 8 (idS t)) (hdrS p0) p0.Txs),(fun i _=>(p0.Txs.length-i).toNat),FlatI.start,?_⟩
 rintro i g hi
 have g0:=hi.1
 have hgl:=hi.len 8 (fun _ _=>by simp)
 rw[k2o]at hgl
 refine⟨fun hh=> ?_,fun hh=> ?_⟩
 ·have hh:=of_decide_eq_true hh
  have hm:=ix_mem p0.Txs i g0 hh
  have hn:=hi.next hh (by omega) rfl
  refine⟨g0,hh,⟨hr.t _ hm,(v.vt hm).tl⟩,⟨idS_u64 _,by omega,by omega⟩,rfl,?_,?_,rfl,hn⟩
  ·rw[kb];show(g.length+8)*1<=_;omega
  ·rw[kb];show g.length+8<=maxLen;unfold maxLen;omega
 ·have hh:=of_decide_eq_false hh
  rw[hi.done hh]
  unfold namS
  rw[List.flatMap_map]
noncomputable def kaw:Con TB.den:= .gp 16 [.st 2] [yqi] [] fun(p0:wB)=>(∀x∈p0.Txs,TR x/\TL x,(validB p0:Int),())
theorem k5v:kaw.Ok Try.prog TB:=qrv Bs Try.func16 (.r 2 (.nd [] (.r 0 (.lp [] ⟨[],[],[3,4],[.one (zqi),.one (zqi)],[]⟩ .no)) [] .no)) (k63.c (k34.c c0)) (Q:=∀(p0:wB),(∀x∈p0.Txs,TR x/\TL x)->∀r0:Int,validB p0=r0-> 
(decide (p0.wE<1)=true->
1=r0)/\
(decide (p0.wE<1)=false->
(decide (1048576<p0.wE)=true->
1=r0)/\
(decide (1048576<p0.wE)=false->
(decide (p0.wG<1)=true->
1=r0)/\
(decide (p0.wG<1)=false->
(decide (65536<p0.wG)=true->
1=r0)/\
(decide (65536<p0.wG)=false->
let v1:Bool:=decide (18446744069414584321<=p0.wH)
(v1=true->
1=r0)/\
(v1=false->
(decide (18446744069414584321<=p0.wK)=true->
1=r0)/\
(decide (18446744069414584321<=p0.wK)=false->
(decide (64<(p0.Txs.length:Int))=true->
1=r0)/\
(decide (64<(p0.Txs.length:Int))=false->
∃(I1:Int->Int->Prop) (M1:Int->Int->Nat),I1 0 0/\∀(b1 f1:Int),(I1 b1 f1->
(decide (f1<(p0.Txs.length:Int))=true->
(0<=f1)/\f1<(p0.Txs.length:Int)/\(TR (ix p0.Txs f1)/\TL (ix p0.Txs f1))/\(((validE (ix p0.Txs f1)) !=0)=true->
1=r0)/\
(((validE (ix p0.Txs f1)) !=0)=false->
(0<=f1)/\f1<(p0.Txs.length:Int)/\(TR (ix p0.Txs f1)/\TL (ix p0.Txs f1)/\(ix p0.Txs f1).wA.length<=1048576/\(∀x∈(ix p0.Txs f1).wA,x.wC.length<=1024))/\let r2:List Int:=(encT (ix p0.Txs f1) (ix p0.Txs f1).wO)
let v3:Int:=i64.wrap (b1+(r2.length:Int))
I1 v3 (i64.wrap (f1+1))/\M1 v3 (i64.wrap (f1+1))<M1 b1 f1))/\
(decide (f1<(p0.Txs.length:Int))=false->
(decide (2097152<b1)=true->
3=r0)/\
(decide (2097152<b1)=false->
0=r0))))))))))) (by kernel_rfl)<|by
 rintro p0 h _ rfl
 have nv:¬VB0 p0->1=validB p0:=fun h=>(k6m h).symm
 refine⟨fun e=>nv fun v=> ?_,fun e1=>⟨fun e=>nv fun v=> ?_,fun e2=>⟨fun e=>nv fun v=> ?_,fun e3=>⟨fun e=>nv fun v=> ?_,fun e4=>⟨fun e=>nv fun v=> ?_,fun e5=>⟨fun e=>nv fun v=> ?_,fun e6=>⟨fun e=>nv fun v=> ?_,fun e7=> ?_⟩⟩⟩⟩⟩⟩⟩
 ·have:=of_decide_eq_true e;have:=v.h0;omega
 ·have:=of_decide_eq_true e;have:=v.h1;omega
 ·have:=of_decide_eq_true e;have:=v.w0;omega
 ·have:=of_decide_eq_true e;have:=v.w1;omega
 ·have:=of_decide_eq_true e;have:=v.p;omega
 ·have:=of_decide_eq_true e;have:=v.m;omega
 ·have:=of_decide_eq_true e;have:=v.l;omega
 have e1:=of_decide_eq_false e1
 have e2:=of_decide_eq_false e2
 have e3:=of_decide_eq_false e3
 have e4:=of_decide_eq_false e4
 have e5:=of_decide_eq_false e5
 have e6:=of_decide_eq_false e6
 have e7:=of_decide_eq_false e7
 have hc:VB0 p0:=⟨by omega,by omega,by omega,by omega,by omega,by omega,by omega⟩
 refine⟨(fun w i=>0<=i/\i<=p0.Txs.length/\w=sumW (p0.Txs.take i.toNat)/\∀t∈p0.Txs.take i.toNat,validE t=0),(fun _ i=>(p0.Txs.length-i).toNat),⟨by omega,by omega,by simp[sumW],by simp⟩,?_⟩
 rintro w i ⟨g0,g1,rfl,g3⟩
 have hb:=sumW_bd _ g3
 rw[List.length_take]at hb
 refine⟨fun hh=> ?_,fun hh=> ?_⟩
 ·have hh:=of_decide_eq_true hh
  have hm:=ix_mem p0.Txs i g0 hh
  refine⟨g0,hh,h _ hm,fun e=> ?_,fun e=> ?_⟩
  ·have e:validE (ix p0.Txs i)≠0:=by simpa using e
   exact(kal hm e).symm
  ·have e:validE (ix p0.Txs i)=0:=by simpa using e
   have hw:=k59 e
   have ew:weightS (ix p0.Txs i)=((encT (ix p0.Txs i) (ix p0.Txs i).wO).length:Int):=if_pos e
   refine⟨g0,hh,((kr _).1 e).bl (h _ hm).1,?_⟩
   dsimp only
   rw[<-ew]
   rw[inc i p0.Txs.length g0 hh (by omega),wi (sumW (p0.Txs.take i.toNat)+weightS (ix p0.Txs i)) (by omega) (by omega)]
   refine⟨⟨by omega,by omega,?_,?_⟩,by(first|omega|(dsimp only;omega))⟩
   ·rw[ka p0.Txs i g0 hh,kbd]
   ·rw[ka p0.Txs i g0 hh]
    intro t ht
    rcases List.mem_append.1 ht with ht|ht
    ·exact g3 t ht
    ·rw[List.mem_singleton.1 ht];exact e
 ·have hh:=of_decide_eq_false hh
  rw[List.take_of_length_le (by omega)]at g3 hb ⊢
  rw[k9z hc g3]
  refine⟨fun e=> ?_,fun e=> ?_⟩
  ·have e:=of_decide_eq_true e
   rw[if_neg (by omega)]
  ·have e:=of_decide_eq_false e
   rw[if_pos (by omega)]
noncomputable def ke9:Con TB.den:= .gp 17 [.st 2] [yqu] [] fun(p0:wB)=>(BR p0/\∀x∈p0.Txs,TL x,(idB p0:Int),())
theorem kfy:ke9.Ok Try.prog TB:=qrv Bs Try.func17 .no (k5v.c (kcr.c (k3b.c c0))) (Q:=∀(p0:wB),(BR p0/\∀x∈p0.Txs,TL x)->∀r0:Int,idB p0=r0-> 
(∀x∈p0.Txs,TR x/\TL x)/\(((validB p0) !=0)=true->
0=r0)/\
(((validB p0) !=0)=false->
(BR p0/\VB p0)/\(U64 (15:Int)/\By (namS p0)/\(namS p0).length<=1099511627775)/\(hashB (15:Int) (namS p0))=r0)) (by kernel_rfl)<|by
 rintro p0 h _ rfl
 obtain⟨hr,hl⟩:=h
 refine⟨fun x hx=>⟨hr.t x hx,hl x hx⟩,fun e=> ?_,fun e=> ?_⟩
 ·have e:¬validB p0=0:=by simpa using e
  unfold idB
  rw[if_neg e]
 ·have e:validB p0=0:=by simpa using e
  have v:=(k1l p0).1 e
  have hl:=v.h.l
  unfold idB
  rw[if_pos e]
  exact⟨⟨hr,v⟩,⟨by decide,namS_by p0,by rw[kdo];omega⟩,rfl⟩
noncomputable def kbr:Con TB.den:= .gp 7 [.st 2,yqi] [.st 2,.bool] [] fun(p0:wB) (p1:Int)=>(BR p0/\(∀x∈p0.Txs,TL x)/\p1<=9223372036854775807,((mineS p0 p1).b:wB),((mineS p0 p1).ok:Bool),())
theorem kdi:kbr.Ok Try.prog TB:=qrv Bs Try.func7 (.r 1 (.nd [] (.r 0 (.lp [] ⟨[0],[.cells [zqu,zqi,zqu,zqu,zqu,.d (.sl (.st 1))]],[6],[.one (zqi)],[]⟩ .no)) [] .no)) (k5v.c (kfy.c c0)) (Q:=∀(p0:wB) (p1:Int),(BR p0/\(∀x∈p0.Txs,TL x)/\p1<=9223372036854775807)->∀r0:wB,((mineS p0 p1).b)=r0->∀r1:Bool,((mineS p0 p1).ok)=r1-> 
(∀x∈p0.Txs,TR x/\TL x)/\(((validB p0) !=0)=true->
0=r0.wH/\0=r0.wE/\0=r0.wK/\0=r0.wG/\0=r0.wD/\([]:List wJ)=r0.Txs/\false=r1)/\
(((validB p0) !=0)=false->
∃(I1:Int->Int->Int->Int->Int->Int->(List wJ)->Prop) (M1:Int->Int->Int->Int->Int->Int->(List wJ)->Nat),I1 0 p0.wH p0.wE p0.wK p0.wG p0.wD p0.Txs/\∀(b1 f1 i1 k1 l1 m1:Int) (n1:List wJ),(I1 b1 f1 i1 k1 l1 m1 n1->
(decide (b1<p1)=true->
(BR (wB.mk f1 i1 k1 l1 m1 n1)/\∀x∈(wB.mk f1 i1 k1 l1 m1 n1).Txs,TL x)/\(l1≠0)/\let v2:Int:=Int.tmod (idB (wB.mk f1 i1 k1 l1 m1 n1)) l1
((v2==0)=true->
f1=r0.wH/\i1=r0.wE/\k1=r0.wK/\l1=r0.wG/\m1=r0.wD/\n1=r0.Txs/\true=r1)/\
((v2==0)=false->
((m1==18446744073709551615)=true->
0=r0.wH/\0=r0.wE/\0=r0.wK/\0=r0.wG/\0=r0.wD/\([]:List wJ)=r0.Txs/\false=r1)/\
((m1==18446744073709551615)=false->
I1 (i64.wrap (b1+1)) f1 i1 k1 l1 (u64.wrap (m1+1)) n1/\M1 (i64.wrap (b1+1)) f1 i1 k1 l1 (u64.wrap (m1+1)) n1<M1 b1 f1 i1 k1 l1 m1 n1)))/\
(decide (b1<p1)=false->
0=r0.wH/\0=r0.wE/\0=r0.wK/\0=r0.wG/\0=r0.wD/\([]:List wJ)=r0.Txs/\false=r1)))) (by kernel_rfl)<|by
 rintro p0 p1 h _ rfl _ rfl
 obtain⟨hr,ht,hp⟩:=h
 refine⟨fun x hx=>⟨hr.t x hx,ht x hx⟩,fun e=> ?_,fun e=> ?_⟩
 ·have e:validB p0≠0:=by simpa using e
  have es:mineS p0 p1=⟨zeroB,false⟩:=if_pos (.inr e)
  rw[es]
  exact⟨rfl,rfl,rfl,rfl,rfl,rfl,rfl⟩
 ·have e:validB p0=0:=by simpa using e
  have v:=(k1l p0).1 e
  have hw:=v.h.w0
  have es:mineS p0 p1=mineN p1.toNat p0:=by
   by_cases h0:p1<=0
   ·rw[show p1.toNat=0 by omega]
    exact if_pos (.inl h0)
   ·exact if_neg (by omega)
  refine⟨(fun i a b c d n t=>0<=i/\(i<=p1∨i=0)/\U64 n/\a=p0.wH/\b=p0.wE/\c=p0.wK/\d=p0.wG/\t=p0.Txs/\mineS p0 p1=mineN (p1-i).toNat ⟨p0.wH,p0.wE,p0.wK,p0.wG,n,p0.Txs⟩),(fun i _ _ _ _ _ _=>(p1-i).toNat),⟨by omega,by omega,hr.n,rfl,rfl,rfl,rfl,rfl,by rw[es,Int.sub_zero]⟩,?_⟩
  rintro i _ _ _ _ n _ ⟨g0,g1,g2,rfl,rfl,rfl,rfl,rfl,g3⟩
  refine⟨fun hh=> ?_,fun hh=> ?_⟩
  ·have hh:=of_decide_eq_true hh
   have hb:BR ⟨p0.wH,p0.wE,p0.wK,p0.wG,n,p0.Txs⟩:=⟨hr.p,hr.m,hr.w,g2,hr.h,hr.t⟩
   have hv:validB ⟨p0.wH,p0.wE,p0.wK,p0.wG,n,p0.Txs⟩=0:=e
   have hi:idB ⟨p0.wH,p0.wE,p0.wK,p0.wG,n,p0.Txs⟩=hashB 15 (namS ⟨p0.wH,p0.wE,p0.wK,p0.wG,n,p0.Txs⟩):=if_pos hv
   have e1:(p1-i).toNat=(p1-(i+1)).toNat+1:=by omega
   rw[e1]at g3
   refine⟨⟨hb,ht⟩,by omega,fun e2=> ?_,fun e2=> ?_⟩
   ·have e2:Int.tmod (hashB 15 (namS ⟨p0.wH,p0.wE,p0.wK,p0.wG,n,p0.Txs⟩)) p0.wG=0:=by rw[hi]at e2;simpa using e2
    have g3:mineS p0 p1=⟨⟨p0.wH,p0.wE,p0.wK,p0.wG,n,p0.Txs⟩,true⟩:=by rw[g3];exact if_pos e2
    rw[g3]
    exact⟨rfl,rfl,rfl,rfl,rfl,rfl,rfl⟩
   ·have e2:¬Int.tmod (hashB 15 (namS ⟨p0.wH,p0.wE,p0.wK,p0.wG,n,p0.Txs⟩)) p0.wG=0:=by rw[hi]at e2;simpa using e2
    refine⟨fun e3=> ?_,fun e3=> ?_⟩
    ·have e3:n=18446744073709551615:=by simpa using e3
     have g3:mineS p0 p1=⟨zeroB,false⟩:=by rw[g3];exact(if_neg e2).trans (if_pos e3)
     rw[g3]
     exact⟨rfl,rfl,rfl,rfl,rfl,rfl,rfl⟩
    ·have e3:¬n=18446744073709551615:=by simpa using e3
     have g3:mineS p0 p1=mineN (p1-(i+1)).toNat ⟨p0.wH,p0.wE,p0.wK,p0.wG,n+1,p0.Txs⟩:=by rw[g3];exact(if_neg e2).trans (if_neg e3)
     rw[wi (i+1) (by omega) (by omega),wu (n+1) (by omega) (by omega)]
     exact⟨⟨by omega,by omega,by omega,rfl,rfl,rfl,rfl,rfl,g3⟩,by(first|omega|(dsimp only;omega))⟩
  ·have hh:=of_decide_eq_false hh
   have g3:mineS p0 p1=⟨zeroB,false⟩:=by rw[g3,show(p1-i).toNat=0 by omega];rfl
   rw[g3]
   exact⟨rfl,rfl,rfl,rfl,rfl,rfl,rfl⟩
noncomputable def kay:Con TB.den:= .gp 11 [.st 1,yqi] [.bool] [] fun(p0:wJ) (p1:Int)=>(p0.wA.length<=9223372036854775807,(smallB p0 p1:Bool),())
theorem kd2:kay.Ok Try.prog TB:=qrv Bs Try.func11 (.r 0 (.nd [] (.r 0 (.lp [] ⟨[],[],[5],[.one (zqi)],[]⟩ .no)) [] .no)) c0 (Q:=∀(p0:wJ) (p1:Int),(p0.wA.length<=9223372036854775807)->∀r0:Bool,smallB p0 p1=r0-> 
∃(I1:Int->Prop) (M1:Int->Nat),I1 0/\∀(b1:Int),(I1 b1->
(decide (b1<(p0.wA.length:Int))=true->
(0<=b1)/\b1<(p0.wA.length:Int)/\let v1:Bool:=decide (10<(((ix p0.wA b1).wC).length:Int))
(v1=true->
false=r0)/\
(v1=false->
I1 (i64.wrap (b1+1))/\M1 (i64.wrap (b1+1))<M1 b1))/\
(decide (b1<(p0.wA.length:Int))=false->
(decide ((p0.wF.length:Int)<=10)=true->
(decide ((p0.wA.length:Int)<=10)=true->
decide ((p0.wO.length:Int)<=p1)=r0)/\
(decide ((p0.wA.length:Int)<=10)=false->
false=r0))/\
(decide ((p0.wF.length:Int)<=10)=false->
false=r0)))) (by kernel_rfl)<|by
 rintro p0 p1 h _ rfl
 refine(⟨(fun i=>0<=i/\i<=p0.wA.length/\∀x∈p0.wA.take i.toNat,x.wC.length<=10),(fun i=>(p0.wA.length-i).toNat),⟨by omega,by omega,by simp⟩,?_⟩)
 rintro i ⟨g0,g1,g2⟩
 refine⟨fun hh=> ?_,fun hh=> ?_⟩
 ·have hh:=of_decide_eq_true hh
  refine⟨g0,hh,fun e=> ?_,fun e=> ?_⟩
  ·have e:=of_decide_eq_true e
   unfold smallB
   have:p0.wA.all (fun x=>decide (x.wC.length<=10))=false:=List.all_eq_false.2 ⟨_,ix_mem p0.wA i g0 hh,by simp;omega⟩
   rw[this]
   simp
  ·have e:=of_decide_eq_false e
   rw[inc i p0.wA.length g0 hh (by omega)]
   refine⟨⟨by omega,by omega,?_⟩,by(dsimp only;omega)⟩
   rw[ka p0.wA i g0 hh]
   intro x hx
   rcases List.mem_append.1 hx with hx|hx
   ·exact g2 x hx
   ·have:x=ix p0.wA i:=by simpa using hx
    rw[this];omega
 ·have hh:=of_decide_eq_false hh
  rw[List.take_of_length_le (by omega)]at g2
  unfold smallB
  have:p0.wA.all (fun x=>decide (x.wC.length<=10))=true:=by simpa using g2
  rw[this]
  refine⟨fun h1=>⟨fun h2=> ?_,fun h2=> ?_⟩,fun h1=> ?_⟩
  ·have h1:=of_decide_eq_true h1
   have h2:=of_decide_eq_true h2
   rw[decide_eq_true (p:=p0.wF.length<=10) (by omega),decide_eq_true (p:=p0.wA.length<=10) (by omega)]
   simp
  ·have h2:=of_decide_eq_false h2
   rw[decide_eq_false (p:=p0.wA.length<=10) (by omega)]
   simp
  ·have h1:=of_decide_eq_false h1
   rw[decide_eq_false (p:=p0.wF.length<=10) (by omega)]
   simp
noncomputable def kao:Con TB.den:= .gp 5 [.st 2] [.bool] [] fun(p0:wB)=>(∀x∈p0.Txs,x.wA.length<=9223372036854775807,(smallBk p0:Bool),())
theorem kby:kao.Ok Try.prog TB:=qrv Bs Try.func5 (.r 1 (.nd [] (.r 0 (.lp [] ⟨[],[],[3],[.one (zqi)],[]⟩ .no)) [] .no)) (kd2.c c0) (Q:=∀(p0:wB),(∀x∈p0.Txs,x.wA.length<=9223372036854775807)->∀r0:Bool,smallBk p0=r0-> 
(decide (6<(p0.Txs.length:Int))=true->
false=r0)/\
(decide (6<(p0.Txs.length:Int))=false->
∃(I1:Int->Prop) (M1:Int->Nat),I1 0/\∀(b1:Int),(I1 b1->
(decide (b1<(p0.Txs.length:Int))=true->
(0<=b1)/\b1<(p0.Txs.length:Int)/\((ix p0.Txs b1).wA.length<=9223372036854775807)/\((!(smallB (ix p0.Txs b1) (100:Int)))=true->
false=r0)/\
((!(smallB (ix p0.Txs b1) (100:Int)))=false->
I1 (i64.wrap (b1+1))/\M1 (i64.wrap (b1+1))<M1 b1))/\
(decide (b1<(p0.Txs.length:Int))=false->
true=r0)))) (by kernel_rfl)<|by
 rintro p0 h _ rfl
 refine⟨fun e=> ?_,fun e=> ?_⟩
 ·have e:=of_decide_eq_true e
  unfold smallBk
  rw[decide_eq_false (p:=p0.Txs.length<=6) (by omega)]
  rfl
 ·have e:=of_decide_eq_false e
  refine⟨(fun i=>0<=i/\i<=p0.Txs.length/\∀x∈p0.Txs.take i.toNat,smallB x 100=true),(fun i=>(p0.Txs.length-i).toNat),⟨by omega,by omega,by simp⟩,?_⟩
  rintro i ⟨g0,g1,g2⟩
  refine⟨fun hh=> ?_,fun hh=> ?_⟩
  ·have hh:=of_decide_eq_true hh
   have hm:=ix_mem p0.Txs i g0 hh
   rw[inc i p0.Txs.length g0 hh (by omega)]
   refine⟨g0,hh,h _ hm,fun e2=> ?_,fun e2=>⟨⟨by omega,by omega,?_⟩,by(first|omega|(dsimp only;omega))⟩⟩
   ·have e2:smallB (ix p0.Txs i) 100=false:=by simpa using e2
    unfold smallBk
    have:p0.Txs.all (fun t=>smallB t 100)=false:=List.all_eq_false.2 ⟨_,hm,by simp[e2]⟩
    rw[this]
    simp
   ·rw[ka p0.Txs i g0 hh]
    intro t ht
    rcases List.mem_append.1 ht with ht|ht
    ·exact g2 t ht
    ·rw[List.mem_singleton.1 ht];simpa using e2
  ·have hh:=of_decide_eq_false hh
   rw[List.take_of_length_le (by omega)]at g2
   unfold smallBk
   rw[decide_eq_true (p:=p0.Txs.length<=6) (by omega),List.all_eq_true.2 g2]
   rfl
noncomputable def ky:Con TB.den:= .gp 3 [.st 2,yqi] [.bool] [] fun(p0:wB) (p1:Int)=>((BR p0/\∀x∈p0.Txs,x.wA.length<=9223372036854775807)/\p1<=9223372036854775807,true,())
theorem k7u:ky.Ok Try.prog TB:=qrv Bs Try.func3 (.r 0 (.nd [] (.jn ⟨[],[],[19],[.one (.d (.bool))],[]⟩ [] .no [] .no) [] .no)) (kbt.c (kby.c (k5i.c (kdi.c (k6t.c (k9b.c c0)))))) (Q:=∀(p0:wB) (p1:Int),((BR p0/\∀x∈p0.Txs,x.wA.length<=9223372036854775807)/\p1<=9223372036854775807)->∀r0:Bool,(true:Bool)=r0-> 
∀J1:Bool->Prop,(∀(b1:Bool),
((b1=true->
true=r0)/\
(b1=false->
(BR p0/\p1<=9223372036854775807)/\(BR p0/\(∀x∈p0.Txs,TL x)/\p1<=9223372036854775807)/\let v1:Bool:=(!(((mineS p0 p1).ok)==((mineS p0 p1).ok)))
(v1=true->
false=r0)/\
(v1=false->
(((mineS p0 p1).b).Txs.length<=9223372036854775807/\(∀x∈((mineS p0 p1).b).Txs,TD x)/\(∀x∈((mineS p0 p1).b).Txs,TD x))/\let r2:Bool:=(sameB ((mineS p0 p1).b) ((mineS p0 p1).b))
((!r2)=true->
false=r0)/\
((!r2)=false->
((!((mineS p0 p1).ok))=true->
true=r0)/\
((!((mineS p0 p1).ok))=false->
(BR ((mineS p0 p1).b))/\let r3:Int:=(checkB (wW.mk 0 0 0 0 0 0 0 0 p0.wG).wG ((mineS p0 p1).b))
(r3==0)=r0)))))->J1 b1)->
((!true)=true->
J1 true)/\
((!true)=false->
(∀x∈p0.Txs,x.wA.length<=9223372036854775807)/\((!(smallBk p0))=true->
J1 true)/\
((!(smallBk p0))=false->
J1 (decide (40<p1))))) (by kernel_rfl)<|by
 rintro p0 p1 h _ rfl
 obtain⟨⟨hr,ho⟩,hp⟩:=h
 intro J1 k1
 have j1:∀s,(s=false->smallBk p0=true)->J1 s:=fun s hs=>k1 s ⟨fun _=>rfl,fun e=>by
  obtain⟨h1,h2⟩:=kec (hs e)
  have htl:∀x∈p0.Txs,TL x:=fun x hx=>kgw (h2 x hx)
  obtain⟨d1,d2⟩:=kgm (k:=p1) hr
  refine⟨⟨hr,hp⟩,⟨hr,htl,hp⟩,fun e=>by simp at e,fun _=>⟨⟨d1,d2,d2⟩,?_⟩⟩
  dsimp only
  rw[kf2]
  refine⟨fun e=>by simp at e,fun _=>⟨fun _=>rfl,fun e=> ?_⟩⟩
  obtain⟨c1,c2⟩:=kes (k:=p1) hr (by simpa using e)
  refine⟨c1,?_⟩
  rw[c2]
  rfl⟩
 refine⟨fun h=>by simp at h,fun _=>⟨ho,fun e=>j1 _ (fun h=>by cases h),fun e=>j1 _ (fun _=>by simpa using e)⟩⟩
end Go.Proofs.Ytchoejpclejjhaa
end
