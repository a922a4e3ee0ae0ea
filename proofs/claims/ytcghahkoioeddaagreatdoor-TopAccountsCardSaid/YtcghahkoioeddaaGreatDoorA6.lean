/-
  Parts of the proofs that the laws of this seat hold of every input, merged by a program: a machine over pure data that is sound for the model, what each function of the translation does in it, and plain lemmas. No conditions but those in each theorem.
-/
import Derived.Test.YtcghahkoioeddaaGreatDoorA5
set_option maxRecDepth 100000
set_option linter.all false
noncomputable section
namespace Go.Proofs.YtcghahkoioeddaaGreatDoor
open Go Go.Bv Go.Cv Go.Md Go.RowKit
open Go.IntKind (i64 u64)
noncomputable def kgc:Con TB.den:= .gp 296 [yqu] [yqi] [] fun(p0:Int)=>(U64 p0,(len64 p0:Int),())
theorem kil:kgc.Ok Tryz.prog TB:=qrv Bs Tryz.func296 (.r 0 (.jn ⟨[],[],[0,2],[.one (zqu),.one (zqi)],[]⟩ [] .no [] (.jn ⟨[],[],[0,2],[.one (zqu),.one (zqi)],[]⟩ [] .no [] (.jn ⟨[],[],[0,2],[.one (zqu),.one (zqi)],[]⟩ [] .no [] .no)))) c0 (Q:=∀(p0:Int),(U64 p0)->∀r0:Int,len64 p0=r0-> 
∀J1:Int->Int->Prop,(∀(b1 f1:Int),
(∀J2:Int->Int->Prop,(∀(i1 k1:Int),
(∀J3:Int->Int->Prop,(∀(l1 m1:Int),
((0<=IntKind.u8.wrap l1/\IntKind.u8.wrap l1<((⟨#[0,1,2,2,3,3,3,3,4,4,4,4,4,4,4,4,5,5,5,5,5,5,5,5,5,5,5,5,5,5,5,5,6,6,6,6,6,6,6,6,6,6,6,6,6,6,6,6,6,6,6,6,6,6,6,6,6,6,6,6,6,6,6,6,7,7,7,7,7,7,7,7,7,7,7,7,7,7,7,7,7,7,7,7,7,7,7,7,7,7,7,7,7,7,7,7,7,7,7,7,7,7,7,7,7,7,7,7,7,7,7,7,7,7,7,7,7,7,7,7,7,7,7,7,7,7,7,7,8,8,8,8,8,8,8,8,8,8,8,8,8,8,8,8,8,8,8,8,8,8,8,8,8,8,8,8,8,8,8,8,8,8,8,8,8,8,8,8,8,8,8,8,8,8,8,8,8,8,8,8,8,8,8,8,8,8,8,8,8,8,8,8,8,8,8,8,8,8,8,8,8,8,8,8,8,8,8,8,8,8,8,8,8,8,8,8,8,8,8,8,8,8,8,8,8,8,8,8,8,8,8,8,8,8,8,8,8,8,8,8,8,8,8,8,8,8,8,8,8,8,8,8,8,8,8,8]⟩:ByteArray).size:Int))/\let v1:Int:=byteAt (⟨#[0,1,2,2,3,3,3,3,4,4,4,4,4,4,4,4,5,5,5,5,5,5,5,5,5,5,5,5,5,5,5,5,6,6,6,6,6,6,6,6,6,6,6,6,6,6,6,6,6,6,6,6,6,6,6,6,6,6,6,6,6,6,6,6,7,7,7,7,7,7,7,7,7,7,7,7,7,7,7,7,7,7,7,7,7,7,7,7,7,7,7,7,7,7,7,7,7,7,7,7,7,7,7,7,7,7,7,7,7,7,7,7,7,7,7,7,7,7,7,7,7,7,7,7,7,7,7,7,8,8,8,8,8,8,8,8,8,8,8,8,8,8,8,8,8,8,8,8,8,8,8,8,8,8,8,8,8,8,8,8,8,8,8,8,8,8,8,8,8,8,8,8,8,8,8,8,8,8,8,8,8,8,8,8,8,8,8,8,8,8,8,8,8,8,8,8,8,8,8,8,8,8,8,8,8,8,8,8,8,8,8,8,8,8,8,8,8,8,8,8,8,8,8,8,8,8,8,8,8,8,8,8,8,8,8,8,8,8,8,8,8,8,8,8,8,8,8,8,8,8,8,8,8,8,8,8]⟩:ByteArray) (IntKind.u8.wrap l1)
let v2:Int:=i64.wrap (m1+(i64.wrap v1))
v2=r0)->J3 l1 m1)->
(decide (256<=i1)=true->
J3 (ishr .u64 i1 8) (i64.wrap (k1+8)))/\
(decide (256<=i1)=false->
J3 i1 k1))->J2 i1 k1)->
(decide (65536<=b1)=true->
J2 (ishr .u64 b1 16) (i64.wrap (f1+16)))/\
(decide (65536<=b1)=false->
J2 b1 f1))->J1 b1 f1)->
(decide (4294967296<=p0)=true->
J1 (ishr .u64 p0 32) 32)/\
(decide (4294967296<=p0)=false->
J1 p0 0))<|by
 rintro p0 h _ rfl;intro J1 j1
 have j1:∀s0 s2:Int,0<=s0->s0<4294967296->0<=s2->s2<=32->len64 p0=s2+len64 s0->J1 s0 s2:=fun s0 s2 h0 h1 h2 h3 h4=>by
  refine j1 _ _ fun J2 j2=> ?_
  have j2:∀s0 s2:Int,0<=s0->s0<65536->0<=s2->s2<=48->len64 p0=s2+len64 s0->J2 s0 s2:=fun s0 s2 h0 h1 h2 h3 h4=>by
   refine j2 _ _ fun J3 j3=> ?_
   have j3:∀s0 s2:Int,0<=s0->s0<256->0<=s2->s2<=56->len64 p0=s2+len64 s0->J3 s0 s2:=fun s0 s2 h0 h1 h2 h3 h4=>by
    refine j3 _ _ ?_;have e:IntKind.u8.wrap s0=s0:=by rw[u8w];omega
    have l:=klk s0 ⟨h0,h1⟩;show(0<=IntKind.u8.wrap s0/\IntKind.u8.wrap s0<(tab8.size:Int))/\i64.wrap (s2+i64.wrap (byteAt tab8 (IntKind.u8.wrap s0)))=_;rw[e,koi,kkv s0 ⟨h0,h1⟩,wi (len64 s0) qqo qqo,wi (s2+len64 s0) qqo qqo,h4];exact⟨⟨h0,h1⟩,rfl⟩
   refine⟨fun h=> ?_,fun h=>j3 s0 s2 h0 qqh h2 qqo h4⟩;have h:=qb h;rw[<-k5k s0 8 qqh,<-Int.add_assoc,Int.add_right_comm]at h4;rw[ishr8,wi _ qqo qqo];exact j3 _ _ qqo qqo qqo qqo qqo
  refine⟨fun h=> ?_,fun h=>j2 s0 s2 h0 qqh h2 qqo h4⟩;have h:=qb h;rw[<-k5k s0 16 qqh,<-Int.add_assoc,Int.add_right_comm]at h4;rw[ishr16,wi _ qqo qqo];exact j2 _ _ qqo qqo qqo qqo qqo
 refine⟨fun h1=> ?_,fun h1=> ?_⟩
 ·have h1:=qb h1;rw[ishr32];exact j1 _ _ qqo qqo qqo qqo (by rw[<-k5k p0 32 (by simpa using h1),Int.add_comm];rfl)
 ·exact j1 p0 0 h.1 (by simpa using h1) qqo qqo qqo
noncomputable def k4x:Con TB.den:= .gp 386 [yqu] [yqi] [] fun(p0:Int)=>(0<p0/\p0<18446744073709551616,(64-len64 p0:Int),())
theorem k5w:k4x.Ok Tryz.prog TB:=qrv Bs Tryz.func386 .no (kil.c c0) (Q:=∀(p0:Int),(0<p0/\p0<18446744073709551616)->∀r0:Int,(64-len64 p0)=r0-> 
(U64 p0)/\i64.wrap (64-(len64 p0))=r0)<|by rintro p0 h _ rfl;obtain⟨s,e,h1,_⟩:=kef p0 h;refine⟨⟨by omega,h.2⟩,?_⟩;exact wi _ qqo qqo
noncomputable def kfn:Con TB.den:= .gp 309 [yqu,yqu,yqu] [yqu,yqu] [] fun(p0 p1 p2:Int)=>(U64 p0/\U64 p1/\U64 p2/\p0<p2,((p0*18446744073709551616+p1)/p2:Int),((p0*18446744073709551616+p1)%p2:Int),())
theorem k7z:kfn.Ok Tryz.prog TB:=qrv Bs Tryz.func309 (.r 13 (.jn ⟨[],[],[15,16],[.one (zqu),.one (.any)],[]⟩ [] (.lp [] ⟨[],[],[15,16],[.one (zqu),.one (zqu)],[]⟩ (.jn ⟨[],[],[],[],[]⟩ [] .no [] .no)) [] (.r 2 (.jn ⟨[],[],[16,18],[.one (.any),.one (zqu)],[]⟩ [] (.lp [] ⟨[],[],[16,18],[.one (zqu),.one (zqu)],[]⟩ (.jn ⟨[],[],[],[],[]⟩ [] .no [] .no)) [] .no)))) (k5w.c c0) (Q:=∀(p0 p1 p2:Int),(U64 p0/\U64 p1/\U64 p2/\p0<p2)->∀r0:Int,((p0*18446744073709551616+p1)/p2)=r0->∀r1:Int,((p0*18446744073709551616+p1)%p2)=r1-> 
((p2==0)=true->
False)/\
((p2==0)=false->
(decide (p2<=p0)=true->
False)/\
(decide (p2<=p0)=false->
((p0==0)=true->
(p2≠0)/\(p2≠0)/\u64.wrap (Int.tdiv p1 p2)=r0/\Int.tmod p1 p2=r1)/\
((p0==0)=false->
(0<p2/\p2<18446744073709551616)/\(0<=u64.wrap (64-len64 p2))/\let v2:Int:=ishl .u64 p2 (u64.wrap (64-len64 p2))
(0<=u64.wrap (64-len64 p2))/\let v3:Int:=ishl .u64 p0 (u64.wrap (64-len64 p2))
let v4:Int:=u64.wrap (64-(u64.wrap (64-len64 p2)))
(0<=v4)/\(0<=u64.wrap (64-len64 p2))/\let v5:Int:=ishl .u64 p1 (u64.wrap (64-len64 p2))
(ishr .u64 v2 32≠0)/\let v6:Int:=u64.wrap (Int.tdiv (ior .u64 v3 (ishr .u64 p1 v4)) (ishr .u64 v2 32))
let v7:Int:=u64.wrap (v6*(ishr .u64 v2 32))
let v8:Int:=u64.wrap ((ior .u64 v3 (ishr .u64 p1 v4))-v7)
∀J1:Int->Prop,(∀(b1:Int),
(let v12:Int:=u64.wrap ((ior .u64 v3 (ishr .u64 p1 v4))*4294967296)
let v13:Int:=u64.wrap (v12+(ishr .u64 v5 32))
let v14:Int:=u64.wrap (v13-(u64.wrap (b1*v2)))
(ishr .u64 v2 32≠0)/\let v15:Int:=u64.wrap (Int.tdiv v14 (ishr .u64 v2 32))
let v16:Int:=u64.wrap (v15*(ishr .u64 v2 32))
∀J3:Int->Prop,(∀(k1:Int),
(let v20:Int:=u64.wrap ((u64.wrap (b1*4294967296))+k1)
let v21:Int:=u64.wrap ((u64.wrap (v14*4294967296))+(iand .u64 v5 4294967295))
let v22:Int:=u64.wrap (v21-(u64.wrap (k1*v2)))
(0<=u64.wrap (64-len64 p2))/\let v23:Int:=ishr .u64 v22 (u64.wrap (64-len64 p2))
v20=r0/\v23=r1)->J3 k1)->
∃(I2:Int->Int->Prop) (M2:Int->Int->Nat),I2 (u64.wrap (v14-v16)) v15/\∀l1 m1,(I2 l1 m1->
∀J4:Prop,((let v19:Int:=u64.wrap (l1+(ishr .u64 v2 32))
(decide (4294967296<=v19)=true->
J3 (u64.wrap (m1-1)))/\
(decide (4294967296<=v19)=false->
I2 v19 (u64.wrap (m1-1))/\M2 v19 (u64.wrap (m1-1))<M2 l1 m1))->J4)->
(decide (4294967296<=m1)=true->
J4)/\
(decide (4294967296<=m1)=false->
let v17:Int:=u64.wrap (m1*(iand .u64 v2 4294967295))
let v18:Int:=u64.wrap ((u64.wrap (4294967296*l1))+(iand .u64 v5 4294967295))
(decide (v18<v17)=true->
J4)/\
(decide (v18<v17)=false->
J3 m1))))->J1 b1)->
∃(I1:Int->Int->Prop) (M1:Int->Int->Nat),I1 v6 v8/\∀f1 i1,(I1 f1 i1->
∀J2:Prop,((let v11:Int:=u64.wrap (i1+(ishr .u64 v2 32))
(decide (4294967296<=v11)=true->
J1 (u64.wrap (f1-1)))/\
(decide (4294967296<=v11)=false->
I1 (u64.wrap (f1-1)) v11/\M1 (u64.wrap (f1-1)) v11<M1 f1 i1))->J2)->
(decide (4294967296<=f1)=true->
J2)/\
(decide (4294967296<=f1)=false->
let v9:Int:=u64.wrap (f1*(iand .u64 v2 4294967295))
let v10:Int:=u64.wrap ((u64.wrap (4294967296*i1))+(ishr .u64 v5 32))
(decide (v10<v9)=true->
J2)/\
(decide (v10<v9)=false->
J1 f1)))))))<|by
 rintro p0 p1 p2 h _ rfl _ rfl;obtain⟨h0,h1,h2,hlt⟩:=h;refine⟨fun e=> ?_,fun _=>⟨fun e=> ?_,fun _=>⟨fun e=> ?_,fun _=> ?_⟩⟩⟩
 ·simp at e;omega
 ·simp at e;omega
 ·have e:p0=0:=by simpa using e
  subst e;rw[tdiv_nn _ _ h1.1,tmod_nn _ _ h1.1,Int.zero_mul,Int.zero_add];have:=Int.ediv_le_self p2 h1.1;have:=qek h1.1 h2.1;exact⟨by omega,by omega,wu _ qqo (by have:=Int.ediv_le_self p2 h1.1;omega),rfl⟩
 obtain⟨s,e,hs,n1,n2⟩:=kef p2 ⟨by omega,h2.2⟩;have ew:u64.wrap (64-len64 p2)=(s:Int):=by rw[e,wu _ qqo qqo]
 have ew3:u64.wrap (64-(s:Int))=((64-s:Nat):Int):=by rw[wu _ qqo qqo];omega
 have hp:0<2^s:=qcg s;have hp' :0<2^(64-s):=qcg _;have hpp:2^s*2^(64-s)=18446744073709551616:=by rw[<-Nat.pow_add,show s+(64-s)=64 by omega]
 have hP:((2^s:Nat):Int)*((2^(64-s):Nat):Int)=18446744073709551616:=by rw[<-qdt,hpp];rfl
 have il:∀a:Int,ishl .u64 a (s:Int)=a*((2^s:Nat):Int)%18446744073709551616:=fun a=>by rw[kjh,qu,qcc qqo]
 have ir:∀a:Int,ishr .u64 a (s:Int)=a/((2^s:Nat):Int):=fun a=>by rw[k1y,qu,show min s u64.bits=s from qcc (by show s<=64;omega)]
 have ir' :∀a:Int,ishr .u64 a ((64-s:Nat):Int)=a/((2^(64-s):Nat):Int):=fun a=>by rw[k1y,qu,show min (64-s) u64.bits=64-s from qcc (by show 64-s<=64;omega)]
 have hor:∀c:Int,0<=c->c<((2^s:Nat):Int)->p0*((2^s:Nat):Int)+c<18446744073709551616->ior .u64 (p0*((2^s:Nat):Int)) c=p0*((2^s:Nat):Int)+c:=by intro c hc0 hc1 hc2;obtain⟨a,rfl⟩:=qo h0.1;obtain⟨c,rfl⟩:=qo hc0;have key:=ior_add' c a s qqo;rw[qeq,<-qdt]at hc2 ⊢;rw[key qqo];omega
 simp only[ew,ew3,il,ir',ishr32];have hP'0:(0:Int)<((2^(64-s):Nat):Int):=by omega
 generalize hPd:((2^s:Nat):Int)=P at *
 generalize hPd' :((2^(64-s):Nat):Int)=P' at *
 have hP0:0<P:=by omega
 have hlo:p1/P' <P:=qfn hP'0 qqo;have hlo0:0<=p1/P' :=qek h1.1 qqo;have hUv:p0*P+P<=p2*P:=by have:(p0+1)*P<=p2*P:=Int.mul_le_mul_of_nonneg_right qqo qqo;grind
 have hUp:0<=p0*P:=qcr h0.1 qqo;rw[qdh (a:=p2*P) qqo n2,qdh (a:=p0*P) hUp qqo,hor _ hlo0 hlo qqo]
 have hN:(p0*18446744073709551616+p1)*P=(p0*P+p1/P')*18446744073709551616+(p1*P%18446744073709551616/4294967296)*4294967296+p1*P%18446744073709551616%4294967296:=by
  have h5:p1*P/18446744073709551616=p1/P' :=by rw[<-hP,qeq p1 P,Int.mul_ediv_mul_of_pos _ _ hP0]
  have h6:=qdw (p1*P) 18446744073709551616;rw[h5]at h6;have:(p0*18446744073709551616+p1)*P=p0*P*18446744073709551616+p1*P:=by grind
  rw[this];generalize p1*P=w at *
  generalize p0*P=w' at *
  omega
 have hlb:0<=p1*P%18446744073709551616/\p1*P%18446744073709551616<18446744073709551616:=⟨qbw _ qqo,qbp _ qqo⟩;generalize hUd:p0*P+p1/P' =U at *
 generalize hLd:p1*P%18446744073709551616=L at *
 have hVd:p2*P/4294967296*4294967296+p2*P%4294967296=p2*P:=by omega
 have hw:∀{Q R V' :Int},R-Q=V'->0<=V'->V' <18446744073709551616->∀A,R=A*4294967296+(R-A*4294967296)->u64.wrap (u64.wrap (u64.wrap (A*4294967296)+(R-A*4294967296))-u64.wrap Q)=V' :=by intro Q R V' hv h0 h1 A hA;simp only[u64w];omega
 rw[k2j (p2*P) qqo,k2j L qqo];generalize ha:p2*P/4294967296=a at *
 generalize hb:p2*P%4294967296=b at *
 have hQ1:Half U (L/4294967296) a b ((U*4294967296+L/4294967296)/(a*4294967296+b)):=⟨by omega,by omega,by omega,by omega,by omega,rfl⟩;have hr1:=hQ1.rest;have hq1:=hQ1.q;generalize (U*4294967296+L/4294967296)/(a*4294967296+b)=Q1 at *
 generalize (U*4294967296+L/4294967296)%(a*4294967296+b)=R1 at *
 have hQ0:Half R1 (L%4294967296) a b ((R1*4294967296+L%4294967296)/(a*4294967296+b)):=⟨by omega,by omega,by omega,by omega,by omega,rfl⟩;have hr0:=hQ0.rest;have hq0:=hQ0.q;generalize (R1*4294967296+L%4294967296)/(a*4294967296+b)=Q0 at *
 generalize (R1*4294967296+L%4294967296)%(a*4294967296+b)=R0 at *
 rw[hVd]at hr1 hr0 hq1 hq0;have fin:=kme hP0 (by omega:0<p2) hN hr1.1 hr0.1 ⟨hr0.2.1,hr0.2.2⟩
 have aux:∀{U x Q q r:Int},Half U x a b Q->U<18446744073709551616->q*a+r=U->Q<=q->0<=r->q<=8589934592:=by
  intro U x Q q r hh hU e hQ hr;have h1:=hh.ha;refine Int.le_of_lt_add_one (qdd (a:=a) ?_ qqo);generalize q*a=w at *
  omega
 have init:∀{U x Q:Int},Half U x a b Q->Q<=U/a:=by
  intro U x Q hh;have h1:=hh.ha;have h2:=hh.q;have h3:=hh.hb;have h4:=hh.hx;refine(Int.le_ediv_iff_mul_le qqo).2 ?_;have h5:Q*(a*4294967296+b)=Q*a*4294967296+Q*b:=by grind
  have h6:0<=Q*b:=qcr h2.1 h3.1;generalize Q*a=w at *
  omega
 have hd:=qdw U a;have hd1:=qbw U (by omega:a≠0);have hd2:=qbp U (by omega:0<a);have hd3:0<=U/a:=qek qqo qqo;rw[qeq]at hd;have hd5:0<=U/a*a:=qcr hd3 qqo;have hd4:=aux hQ1 qqo (q:=U/a) (r:=U%a) qqo (init hQ1) hd1;rw[tdiv_nn _ _ qqo,wu (U/a) qqo qqo,wu (U/a*a) qqo qqo,show U-U/a*a=U%a by omega,wu (U%a) qqo qqo];refine⟨⟨by omega,h2.2⟩,by omega,by omega,by omega,by omega,by omega,fun J1 k1=> ?_⟩
 have j2:J1 Q1:=by
  have e1:=hw (Q:=Q1*(p2*P)) (R:=U*4294967296+L/4294967296) hr1.1 hr1.2.1 qqo U qqo;rw[show U*4294967296+L/4294967296-U*4294967296=L/4294967296 by omega]at e1;refine k1 _ ?_;simp only[e1];have hd:=qdw R1 a;have hd1:=qbw R1 (by omega:a≠0);have hd2:=qbp R1 (by omega:0<a);have hd3:0<=R1/a:=qek hr1.2.1 qqo;rw[qeq]at hd;have hd5:0<=R1/a*a:=qcr hd3 qqo;have hd4:=aux hQ0 qqo (q:=R1/a) (r:=R1%a) qqo (init hQ0) hd1;rw[tdiv_nn _ _ hr1.2.1,wu (R1/a) qqo qqo,wu (R1/a*a) qqo qqo,show R1-R1/a*a=R1%a by omega,wu (R1%a) qqo qqo];refine⟨by omega,fun J3 k3=> ?_⟩
  have j4:J3 Q0:=by
   refine k3 _ ⟨by omega,?_,?_⟩
   ·rw[wu (Q1*4294967296) qqo qqo,wu _ qqo qqo];exact fin.1
   ·have:=hw (Q:=Q0*(p2*P)) (R:=R1*4294967296+L%4294967296) hr0.1 hr0.2.1 qqo R1 qqo;rw[show R1*4294967296+L%4294967296-R1*4294967296=L%4294967296 by omega]at this;rw[this,ir];exact fin.2
  refine⟨fun r q=>q*a+r=R1/\Q0<=q/\0<=r/\r<4294967296,fun r q=>q.toNat,⟨by omega,init hQ0,hd1,by omega⟩,?_⟩;rintro r q ⟨g1,g2,g3,g4⟩ J4 k4;have g5:=aux hQ0 qqo g1 g2 g3;have nxt:Q0<=q-1->r+a<4294967296->((q-1)*a+(r+a)=R1/\Q0<=q-1/\0<=r+a/\r+a<4294967296)/\(q-1).toNat<q.toNat:=fun h1 h2=>⟨⟨by grind,h1,by omega,h2⟩,by(first|omega|(dsimp only;omega))⟩;have j3:Q0<=q-1->J4:=by intro hq;refine k4 ?_;rw[wu (q-1) qqo qqo,wu (r+a) qqo qqo];refine⟨fun hd=> ?_,fun hd=>nxt hq (by simpa using hd)⟩;have hd:4294967296<=r+a:=qb hd;rw[hQ0.done (q:=q-1) (r:=r+a) (by grind) hq hd];exact j4
  refine⟨fun hd=>j3 (hQ0.down g1 (.inl (qb hd))),fun hd=> ?_⟩;have hd:q<4294967296:=by simpa using hd
  have hqb:0<=q*b/\q*b<18446744073709551616:=by have:=hQ0.hb;have h1:q*b<=4294967295*4294967295:=qec qqo qqo qqo qqo;exact⟨qcr qqo qqo,by(first|omega|(dsimp only;omega))⟩
  have:=hQ0.hx;rw[wu (q*b) qqo qqo,wu (4294967296*r) qqo qqo,wu (4294967296*r+L%4294967296) qqo qqo];refine⟨fun ht=> ?_,fun ht=> ?_⟩
  ·have ht:4294967296*r+L%4294967296<q*b:=qb ht;exact j3 (hQ0.down g1 (.inr qqo))
  ·have ht:¬(4294967296*r+L%4294967296<q*b):=qc ht;rw[hQ0.exit g1 g2 qqo];exact j4
 refine⟨fun q r=>q*a+r=U/\Q1<=q/\0<=r/\r<4294967296,fun q r=>q.toNat,⟨by omega,init hQ1,hd1,by omega⟩,?_⟩;rintro q r ⟨g1,g2,g3,g4⟩ J2 k2;have g5:=aux hQ1 qqo g1 g2 g3;have nxt:Q1<=q-1->r+a<4294967296->((q-1)*a+(r+a)=U/\Q1<=q-1/\0<=r+a/\r+a<4294967296)/\(q-1).toNat<q.toNat:=fun h1 h2=>⟨⟨by grind,h1,by omega,h2⟩,by(first|omega|(dsimp only;omega))⟩;have j1:Q1<=q-1->J2:=by intro hq;refine k2 ?_;rw[wu (q-1) qqo qqo,wu (r+a) qqo qqo];refine⟨fun hd=> ?_,fun hd=>nxt hq (by simpa using hd)⟩;have hd:4294967296<=r+a:=qb hd;rw[hQ1.done (q:=q-1) (r:=r+a) (by grind) hq hd];exact j2
 refine⟨fun hd=>j1 (hQ1.down g1 (.inl (qb hd))),fun hd=> ?_⟩;have hd:q<4294967296:=by simpa using hd
 have hqb:0<=q*b/\q*b<18446744073709551616:=by have:=hQ1.hb;have h1:q*b<=4294967295*4294967295:=qec qqo qqo qqo qqo;exact⟨qcr qqo qqo,by(first|omega|(dsimp only;omega))⟩
 have:=hQ1.hx;rw[wu (q*b) qqo qqo,wu (4294967296*r) qqo qqo,wu (4294967296*r+L/4294967296) qqo qqo];refine⟨fun ht=> ?_,fun ht=> ?_⟩
 ·have ht:4294967296*r+L/4294967296<q*b:=qb ht;exact j1 (hQ1.down g1 (.inr qqo))
 ·have ht:¬(4294967296*r+L/4294967296<q*b):=qc ht;rw[hQ1.exit g1 g2 qqo];exact j2
noncomputable def kfw:Con TB.den:= .gp 308 [yqu,yqu] [yqu,yqu] [] fun(p0 p1:Int)=>(U64 p0/\U64 p1,(p0*p1/18446744073709551616:Int),(p0*p1%18446744073709551616:Int),())
theorem k83:kfw.Ok Tryz.prog TB:=qrv Bs Tryz.func308 .no c0 (Q:=∀(p0 p1:Int),(U64 p0/\U64 p1)->∀r0:Int,(p0*p1/18446744073709551616)=r0->∀r1:Int,(p0*p1%18446744073709551616)=r1-> 
let v2:Int:=u64.wrap ((iand .u64 p0 4294967295)*(iand .u64 p1 4294967295))
let v3:Int:=u64.wrap ((ishr .u64 p0 32)*(iand .u64 p1 4294967295))
let v4:Int:=u64.wrap (v3+(ishr .u64 v2 32))
let v5:Int:=u64.wrap ((iand .u64 p0 4294967295)*(ishr .u64 p1 32))
let v6:Int:=u64.wrap ((iand .u64 v4 4294967295)+v5)
let v7:Int:=u64.wrap ((ishr .u64 p0 32)*(ishr .u64 p1 32))
let v8:Int:=u64.wrap (v7+(ishr .u64 v4 32))
let v9:Int:=u64.wrap (v8+(ishr .u64 v6 32))
v9=r0/\u64.wrap (p0*p1)=r1)<|by
 rintro p0 p1 h _ rfl _ rfl;obtain⟨h0,h1⟩:=h;have k:=kpl p0 p1 h0 h1;refine ?_;simp only[k2j p0 h0,k2j p1 h1,ishr32];obtain⟨e,k1,k2,k3,k4,k5,k6,k7,k8⟩:=k;rw[<-e];rw[wu (p0%4294967296*(p1%4294967296)) qqo qqo,wu (p0/4294967296*(p1%4294967296)) qqo qqo,wu (p0%4294967296*(p1/4294967296)) qqo qqo,wu (p0/4294967296*(p1/4294967296)) qqo qqo];generalize p0%4294967296*(p1%4294967296)=a at *
 generalize p0/4294967296*(p1%4294967296)=b at *
 generalize p0%4294967296*(p1/4294967296)=c at *
 generalize p0/4294967296*(p1/4294967296)=d at *
 rw[wu (b+a/4294967296) qqo qqo,k2j _ qqo];simp only[u64w];refine⟨?_,trivial⟩;omega
noncomputable def kio:Con TB.den:= .gp 379 [.st 7,yqu,yqu] [yqu] [] fun(p0:wAH) (p1 p2:Int)=>(p0.P=18446744069414584321/\(0<=p1/\p1<18446744069414584321)/\(0<=p2/\p2<18446744069414584321),(p1*p2%18446744069414584321:Int),())
theorem k8z:kio.Ok Tryz.prog TB:=qrv Bs Tryz.func379 .no (k83.c (k7z.c c0)) (Q:=∀(p0:wAH) (p1 p2:Int),(p0.P=18446744069414584321/\(0<=p1/\p1<18446744069414584321)/\(0<=p2/\p2<18446744069414584321))->∀r0:Int,(p1*p2%18446744069414584321)=r0-> 
(U64 p1/\U64 p2)/\(U64 (p1*p2/18446744073709551616)/\U64 (p1*p2%18446744073709551616)/\U64 p0.P/\(p1*p2/18446744073709551616)<p0.P)/\let r1:Int:=(((p1*p2/18446744073709551616)*18446744073709551616+(p1*p2%18446744073709551616))/p0.P)
let r2:Int:=(((p1*p2/18446744073709551616)*18446744073709551616+(p1*p2%18446744073709551616))%p0.P)
r2=r0)<|by
 rintro p0 p1 p2 h _ rfl;obtain⟨hP,h1,h2⟩:=h;have h3:0<=p1*p2:=qcr h1.1 h2.1;have h4:p1*p2<=18446744069414584320*18446744069414584320:=qec qqo qqo h2.1 qqo;refine⟨⟨by omega,by omega⟩,?_⟩;simp only[hP];generalize p1*p2=m at *
 refine⟨⟨⟨by omega,by omega⟩,⟨by omega,by omega⟩,by omega,by omega⟩,?_⟩;rw[show m/18446744073709551616*18446744073709551616+m%18446744073709551616=m by omega]
noncomputable def kid:Con TB.den:= .gp 298 [.st 7,yqu,yqu] [yqu] [] fun(p0:wAH) (p1 p2:Int)=>(p0.P=18446744069414584321/\U64 p1/\U64 p2,(p1*p2%18446744069414584321:Int),())
theorem kk3:kid.Ok Tryz.prog TB:=qrv Bs Tryz.func298 .no (k1f.c (k1u.c (k8z.c c0))) (Q:=∀(p0:wAH) (p1 p2:Int),(p0.P=18446744069414584321/\U64 p1/\U64 p2)->∀r0:Int,(p1*p2%18446744069414584321)=r0-> 
(p0.P=18446744069414584321)/\((!true)=true->
0=r0)/\
((!true)=false->
(0<p0.P/\0<=p1)/\(0<p0.P/\0<=p2)/\(p0.P=18446744069414584321/\(0<=(p1%p0.P)/\(p1%p0.P)<18446744069414584321)/\(0<=(p2%p0.P)/\(p2%p0.P)<18446744069414584321))/\let r1:Int:=((p1%p0.P)*(p2%p0.P)%18446744069414584321)
r1=r0))<|by rintro p0 p1 p2 h _ rfl;obtain⟨hP,h1,h2⟩:=h;refine⟨hP,?_⟩;simp only[hP];refine⟨fun h=>by simp at h,fun _=>⟨by omega,by omega,⟨by trivial,by omega,by omega⟩,?_⟩⟩;exact(qcq _ _ _).symm
noncomputable def kar:Con TB.den:= .gp 450 [.st 7] [yqu,yqi,yqu] [] fun(p0:wAH)=>(p0.P=18446744069414584321,(7:Int),(32:Int),(7:Int),())
theorem kci:kar.Ok Tryz.prog TB:=qrv Bs Tryz.func450 .no c0 (Q:=∀(p0:wAH),(p0.P=18446744069414584321)->∀r0:Int,(7:Int)=r0->∀r1:Int,(32:Int)=r1->∀r2:Int,(7:Int)=r2-> 
((p0.P==17)=true->
3=r0/\4=r1/\3=r2)/\
((p0.P==17)=false->
((p0.P==97)=true->
5=r0/\5=r1/\5=r2)/\
((p0.P==97)=false->
((p0.P==193)=true->
5=r0/\6=r1/\5=r2)/\
((p0.P==193)=false->
((p0.P==257)=true->
3=r0/\8=r1/\3=r2)/\
((p0.P==257)=false->
((p0.P==12289)=true->
11=r0/\12=r1/\5=r2)/\
((p0.P==12289)=false->
((p0.P==65537)=true->
3=r0/\16=r1/\3=r2)/\
((p0.P==65537)=false->
((p0.P==18446744069414584321)=true->
7=r0/\32=r1/\7=r2)/\
((p0.P==18446744069414584321)=false->
0=r0/\0=r1/\0=r2))))))))<|by rintro p0 h _ rfl _ rfl _ rfl;refine ?_;simp[h]
noncomputable def k9r:Con TB.den:= .gp 380 [.st 7] [yqu] [] fun(p0:wAH)=>(p0.P=18446744069414584321,(7:Int),())
theorem kal:k9r.Ok Tryz.prog TB:=qrv Bs Tryz.func380 .no (kci.c c0) (Q:=∀(p0:wAH),(p0.P=18446744069414584321)->∀r0:Int,(7:Int)=r0-> 
(p0.P=18446744069414584321)/\7=r0)<|by rintro p0 h _ rfl;exact⟨h,rfl⟩
noncomputable def ki4:Con TB.den:= .gp 451 [.st 7,yqu,yqu] [yqu] [] fun(p0:wAH) (p1 p2:Int)=>(p0.P=18446744069414584321/\(0<=p1/\p1<18446744069414584321)/\U64 p2,(pw p1 p2:Int),())
theorem kjc:ki4.Ok Tryz.prog TB:=qrv Bs Tryz.func451 (.r 1 (.nd [] (.lp [] ⟨[],[],[1,2,7],[.one (zqu),.one (zqu),.one (zqu)],[]⟩ (.r 0 (.jn ⟨[],[],[7],[.one (zqu)],[]⟩ [] .no [] .no))) [] .no)) (k8z.c c0) (Q:=∀(p0:wAH) (p1 p2:Int),(p0.P=18446744069414584321/\(0<=p1/\p1<18446744069414584321)/\U64 p2)->∀r0:Int,pw p1 p2=r0-> 
∃(I1:Int->Int->Int->Prop) (M1:Int->Int->Int->Nat),I1 p1 p2 1/\∀b1 f1 i1,(I1 b1 f1 i1->
(decide (0<f1)=true->
∀J1:Int->Prop,(∀(k1:Int),
((decide (0<(ishr .u64 f1 1))=true->
(p0.P=18446744069414584321/\(0<=b1/\b1<18446744069414584321)/\(0<=b1/\b1<18446744069414584321))/\I1 (b1*b1%18446744069414584321) (ishr .u64 f1 1) k1/\M1 (b1*b1%18446744069414584321) (ishr .u64 f1 1) k1<M1 b1 f1 i1)/\
(decide (0<(ishr .u64 f1 1))=false->
I1 b1 (ishr .u64 f1 1) k1/\M1 b1 (ishr .u64 f1 1) k1<M1 b1 f1 i1))->J1 k1)->
(((iand .u64 f1 1)==1)=true->
(p0.P=18446744069414584321/\(0<=i1/\i1<18446744069414584321)/\(0<=b1/\b1<18446744069414584321))/\J1 (i1*b1%18446744069414584321))/\
(((iand .u64 f1 1)==1)=false->
J1 i1))/\
(decide (0<f1)=false->
i1=r0)))<|by
 rintro p0 p1 p2 h _ rfl;obtain⟨hP,h1,h2⟩:=h;rw[hP];refine⟨fun a e r=>(0<=a/\a<18446744069414584321)/\U64 e/\(0<=r/\r<18446744069414584321)/\(r*a^e.toNat)%18446744069414584321=pw p1 p2,fun a e r=>e.toNat,⟨h1,h2,by omega,by rw[Int.one_mul];rfl⟩,?_⟩;rintro a e r ⟨ha,he,hr,hv⟩;refine⟨fun h J1 j=> ?_,fun h=> ?_⟩
 ·have h:=qb h
  have jj:∀r',(0<=r'/\r' <18446744069414584321)->(r' *(a*a)^(e/2).toNat)%18446744069414584321=pw p1 p2->J1 r' :=by
   intro r' hr' hv';have hn:∀a',(0<=a'/\a' <18446744069414584321)->r' *a' ^(e/2).toNat%18446744069414584321=pw p1 p2->((0<=a'/\a' <18446744069414584321)/\U64 (e/2)/\(0<=r'/\r' <18446744069414584321)/\r' *a' ^(e/2).toNat%18446744069414584321=pw p1 p2)/\(e/2).toNat<e.toNat:=fun a' h1 h3=>⟨⟨h1,⟨by omega,by omega⟩,hr',h3⟩,by(first|omega|(dsimp only;omega))⟩;refine j _ ?_;rw[ishr1];refine⟨fun h=>⟨⟨rfl,ha,ha⟩,?_⟩,fun h=> ?_⟩
   ·refine hn _ ⟨qbw _ qqo,qbp _ qqo⟩ ?_;rw[<-hv',qcq,qcq r' ((a*a)^_),k73]
   ·have h:¬0<e/2:=qc h;refine hn _ ha ?_;rw[show(e/2).toNat=0 by omega]at hv' ⊢;simpa using hv'
  rw[kq8 e he];have hpow:∀k:Nat,a^(2*k)=(a*a)^k:=fun k=>by rw[Int.pow_mul];congr 1;rw[qcp,qcp,Int.pow_zero,Int.one_mul]
  refine⟨fun h1=>⟨⟨rfl,hr,ha⟩,?_⟩,fun h1=> ?_⟩
  ·have h1:e%2=1:=by simpa using h1
   refine jj _ ⟨qbw _ qqo,qbp _ qqo⟩ ?_;rw[<-hv,show e.toNat=2*(e/2).toNat+1 by omega,qcp,hpow,qcq,qdf _ (qfd _),<-qcq];congr 1;grind
  ·have h1:¬e%2=1:=by simpa using h1
   refine jj _ hr ?_;rw[<-hv,<-hpow,show e.toNat=2*(e/2).toNat by omega]
 ·have h:¬0<e:=qc h;rw[show e.toNat=0 by omega,Int.pow_zero,Int.mul_one,qdh hr.1 hr.2]at hv;exact hv
noncomputable def ki7:Con TB.den:= .gp 381 [.st 7,yqu,yqu] [yqu] [] fun(p0:wAH) (p1 p2:Int)=>(p0.P=18446744069414584321/\U64 p1/\U64 p2,(pw (p1%18446744069414584321) p2:Int),())
theorem kk2:ki7.Ok Tryz.prog TB:=qrv Bs Tryz.func381 .no (k1f.c (k1u.c (kjc.c c0))) (Q:=∀(p0:wAH) (p1 p2:Int),(p0.P=18446744069414584321/\U64 p1/\U64 p2)->∀r0:Int,(pw (p1%18446744069414584321) p2)=r0-> 
(p0.P=18446744069414584321)/\((!true)=true->
0=r0)/\
((!true)=false->
(0<p0.P/\0<=p1)/\(p0.P=18446744069414584321/\(0<=(p1%p0.P)/\(p1%p0.P)<18446744069414584321)/\U64 p2)/\(pw (p1%p0.P) p2)=r0))<|by rintro p0 p1 p2 h _ rfl;obtain⟨hP,h1,h2⟩:=h;refine⟨hP,fun h=>by simp at h,fun _=>⟨by omega,?_⟩⟩;simp only[hP];exact⟨⟨by trivial,by omega,h2⟩,trivial⟩
noncomputable def kbi:Con TB.den:= .gp 452 [.st 7,yqu] [yqu] [] fun(p0:wAH) (p1:Int)=>(p0.P=18446744069414584321/\U64 p1,(p1%18446744069414584321:Int),())
theorem keh:kbi.Ok Tryz.prog TB:=qrv Bs Tryz.func452 .no (k1f.c (k1u.c c0)) (Q:=∀(p0:wAH) (p1:Int),(p0.P=18446744069414584321/\U64 p1)->∀r0:Int,(p1%18446744069414584321)=r0-> 
(p0.P=18446744069414584321)/\((!true)=true->
0=r0)/\
((!true)=false->
(0<p0.P/\0<=p1)/\(p1%p0.P)=r0))<|by rintro p0 p1 h _ rfl;obtain⟨hP,h1⟩:=h;refine⟨hP,fun h=>by simp at h,fun _=>⟨by omega,?_⟩⟩;simp only[hP]
noncomputable def k4f:Con TB.den:= .gp 382 [yqu,yqi,yqi] [yqu] [] fun(p0 p1 p2:Int)=>(p0=18446744069414584321/\(0<=p1/\p1<8)/\0<=p2/\p2<3,(rc p1 p2:Int),())
theorem k4w:k4f.Ok Tryz.prog TB:=qrv Bs Tryz.func382 .no (keh.c c0) (Q:=∀(p0 p1 p2:Int),(p0=18446744069414584321/\(0<=p1/\p1<8)/\0<=p2/\p2<3)->∀r0:Int,rc p1 p2=r0-> 
(decide (p1<0)=true->
0=r0)/\
(decide (p1<0)=false->
(decide (8<=p1)=true->
0=r0)/\
(decide (8<=p1)=false->
(decide (p2<0)=true->
0=r0)/\
(decide (p2<0)=false->
(decide (2<p2)=true->
0=r0)/\
(decide (2<p2)=false->
let v1:Int:=i64.wrap ((i64.wrap (3*p1))+p2)
let v2:Int:=u64.wrap (i64.wrap (v1+1))
let v3:Int:=u64.wrap (v2*11400714819323198485)
((wAH.mk p0).P=18446744069414584321/\U64 v3)/\(v3%18446744069414584321)=r0)))))<|by
 rintro p0 p1 p2 h _ rfl;obtain⟨hP,h1,h2⟩:=h;refine⟨fun h=> ?_,fun _=>⟨fun h=> ?_,fun _=>⟨fun h=> ?_,fun _=>⟨fun h=> ?_,fun _=> ?_⟩⟩⟩⟩
 ·simp at h;omega
 ·simp at h;omega
 ·simp at h;omega
 ·simp at h;omega
 ·simp only[];rw[wi (3*p1) qqo qqo,wi (3*p1+p2) qqo qqo,wi (3*p1+p2+1) qqo qqo,wu (3*p1+p2+1) qqo qqo,u64w];exact⟨⟨hP,by omega,by omega⟩,rfl⟩
noncomputable def k8h:Con TB.den:= .gp 383 [yqu,.st 8] [.st 8] [] fun(p0:Int) (p1:wAG)=>(p0=18446744069414584321/\S3 p1,(mixS p1:wAG),())
theorem k98:k8h.Ok Tryz.prog TB:=qrv Bs Tryz.func383 .no (k4s.c c0) (Q:=∀(p0:Int) (p1:wAG),(p0=18446744069414584321/\S3 p1)->∀r0:wAG,mixS p1=r0-> 
((wAH.mk p0).P=18446744069414584321/\U64 p1.a0/\U64 p1.a1)/\((wAH.mk p0).P=18446744069414584321/\U64 ((p1.a0+p1.a1)%18446744069414584321)/\U64 p1.a2)/\let r1:Int:=((((p1.a0+p1.a1)%18446744069414584321)+p1.a2)%18446744069414584321)
((wAH.mk p0).P=18446744069414584321/\U64 p1.a0/\U64 r1)/\((wAH.mk p0).P=18446744069414584321/\U64 p1.a1/\U64 r1)/\((wAH.mk p0).P=18446744069414584321/\U64 p1.a2/\U64 r1)/\((p1.a0+r1)%18446744069414584321)=r0.a0/\((p1.a1+r1)%18446744069414584321)=r0.a1/\((p1.a2+r1)%18446744069414584321)=r0.a2)<|by rintro p0 p1 h _ rfl;obtain⟨hP,h0,h1,h2⟩:=h;refine ?_;simp only[hP];exact⟨⟨by trivial,h0,h1⟩,⟨by trivial,by omega,h2⟩,⟨by trivial,h0,by omega⟩,⟨by trivial,h1,by omega⟩,⟨by trivial,h2,by omega⟩,rfl,rfl,rfl⟩
noncomputable def k4t:Con TB.den:= .gp 299 [yqu,.st 8] [.st 8] [] fun(p0:Int) (p1:wAG)=>(p0=18446744069414584321/\S3 p1,(permS p1:wAG),())
theorem k5u:k4t.Ok Tryz.prog TB:=qrv Bs Tryz.func299 (.r 3 (.nd [] (.r 0 (.lp [] ⟨[0],yQ1,[17],[.one (zqi)],[]⟩ (.r 1 (.nd [] (.r 0 (.nd [] (.r 0 (.lp [] ⟨[0],yQ1,[20],[.one (zqi)],[]⟩ .no)) [] .no)) [] .no)))) [] .no)) (k1f.c (kal.c (k4w.c (k4s.c (kk2.c (k98.c c0)))))) (Q:=∀(p0:Int) (p1:wAG),(p0=18446744069414584321/\S3 p1)->∀r0:wAG,permS p1=r0-> 
((wAH.mk p0).P=18446744069414584321)/\((!true)=true->
0=r0.a0/\0=r0.a1/\0=r0.a2)/\
((!true)=false->
((wAH.mk p0).P=18446744069414584321)/\∃(I1:Int->Int->Int->Int->Prop) (M1:Int->Int->Int->Int->Nat),I1 0 p1.a0 p1.a1 p1.a2/\∀b1 f1 i1 k1,(I1 b1 f1 i1 k1->
(decide (b1<8)=true->
∃(I2:Int->Int->Int->Int->Prop) (M2:Int->Int->Int->Int->Nat),I2 0 f1 i1 k1/\∀l1 m1 n1 o1,(I2 l1 m1 n1 o1->
(decide (l1<3)=true->
(0<=l1/\l1<(3:Int))/\(0<=l1/\l1<(3:Int))/\(p0=18446744069414584321/\(0<=b1/\b1<8)/\0<=l1/\l1<3)/\((wAH.mk p0).P=18446744069414584321/\U64 (ix [m1,n1,o1] l1)/\U64 (rc b1 l1))/\let r1:Int:=(((ix [m1,n1,o1] l1)+(rc b1 l1))%18446744069414584321)
((wAH.mk p0).P=18446744069414584321/\U64 r1/\U64 (7:Int))/\let r2:Int:=(pw (r1%18446744069414584321) (7:Int))
(0<=l1/\l1<(3:Int))/\(0<=l1/\l1<(3:Int))/\I2 (i64.wrap (l1+1)) (bif decide (l1=(0:Int))then r2 else m1) (bif decide (l1=(1:Int))then r2 else n1) (bif decide (l1=(2:Int))then r2 else o1)/\M2 (i64.wrap (l1+1)) (bif decide (l1=(0:Int))then r2 else m1) (bif decide (l1=(1:Int))then r2 else n1) (bif decide (l1=(2:Int))then r2 else o1)<M2 l1 m1 n1 o1)/\
(decide (l1<3)=false->
(p0=18446744069414584321/\S3 (wAG.mk m1 n1 o1))/\I1 (i64.wrap (b1+1)) ((mixS (wAG.mk m1 n1 o1)).a0) ((mixS (wAG.mk m1 n1 o1)).a1) ((mixS (wAG.mk m1 n1 o1)).a2)/\M1 (i64.wrap (b1+1)) ((mixS (wAG.mk m1 n1 o1)).a0) ((mixS (wAG.mk m1 n1 o1)).a1) ((mixS (wAG.mk m1 n1 o1)).a2)<M1 b1 f1 i1 k1)))/\
(decide (b1<8)=false->
f1=r0.a0/\i1=r0.a1/\k1=r0.a2))))<|by
 rintro p0 p1 h _ rfl;obtain⟨hP,hs⟩:=h;subst hP;refine⟨rfl,fun h=>by simp at h,fun _=>⟨rfl,?_⟩⟩;refine⟨(fun n a b c=>0<=n/\n<=8/\(⟨a,b,c⟩:wAG)=rnds n.toNat p1/\S3 ⟨a,b,c⟩),(fun n _ _ _=>(8-n).toNat),⟨by omega,by omega,rfl,hs⟩,?_⟩;rintro n a b c ⟨g0,g1,g2,g3⟩;refine⟨fun h=> ?_,fun h=> ?_⟩
 ·have h:=qb h;refine⟨(fun i x y z=>(i=0/\x=a/\y=b/\z=c)∨(i=1/\x=pw ((a+rc n 0)%18446744069414584321) 7/\y=b/\z=c)∨(i=2/\x=pw ((a+rc n 0)%18446744069414584321) 7/\y=pw ((b+rc n 1)%18446744069414584321) 7/\z=c)∨(i=3/\x=pw ((a+rc n 0)%18446744069414584321) 7/\y=pw ((b+rc n 1)%18446744069414584321) 7/\z=pw ((c+rc n 2)%18446744069414584321) 7)),(fun i _ _ _=>(3-i).toNat),(.inl ⟨rfl,rfl,rfl,rfl⟩),?_⟩;intro i x y z hi;have hrc:∀k,U64 (rc n k):=fun k=>by unfold rc;omega
  have hpw:∀k e,0<=pw k e/\pw k e<18446744069414584321:=fun k e=>⟨qbw _ qqo,qbp _ qqo⟩;obtain⟨h3a,h3b,h3c⟩:=g3;refine⟨fun hh=> ?_,fun hh=> ?_⟩
  ·have hh:=qb hh;rcases hi with⟨rfl,rfl,rfl,rfl⟩|⟨rfl,rfl,rfl,rfl⟩|⟨rfl,rfl,rfl,rfl⟩|⟨rfl,_⟩
   ·refine⟨by omega,by omega,⟨rfl,by omega,by omega⟩,⟨rfl,h3a,hrc _⟩,⟨rfl,?_,by omega⟩,by omega,by omega,.inr (.inl ⟨rfl,?_,rfl,rfl⟩),by(dsimp only;decide)⟩
    ·exact⟨qbw _ qqo,Int.lt_trans (qbp _ qqo) qqo⟩
    ·show pw ((x+rc n 0)%18446744069414584321%18446744069414584321) 7=_;rw[qdf _ (qfd _)]
   ·refine⟨by omega,by omega,⟨rfl,by omega,by omega⟩,⟨rfl,h3b,hrc _⟩,⟨rfl,?_,by omega⟩,by omega,by omega,.inr (.inr (.inl ⟨rfl,rfl,?_,rfl⟩)),by(dsimp only;decide)⟩
    ·exact⟨qbw _ qqo,Int.lt_trans (qbp _ qqo) qqo⟩
    ·show pw ((y+rc n 1)%18446744069414584321%18446744069414584321) 7=_;rw[qdf _ (qfd _)]
   ·refine⟨by omega,by omega,⟨rfl,by omega,by omega⟩,⟨rfl,h3c,hrc _⟩,⟨rfl,?_,by omega⟩,by omega,by omega,.inr (.inr (.inr ⟨rfl,rfl,rfl,?_⟩)),by(dsimp only;decide)⟩
    ·exact⟨qbw _ qqo,Int.lt_trans (qbp _ qqo) qqo⟩
    ·show pw ((z+rc n 2)%18446744069414584321%18446744069414584321) 7=_;rw[qdf _ (qfd _)]
   ·omega
  ·have hh:=qc hh;rcases hi with⟨rfl,_⟩|⟨rfl,_⟩|⟨rfl,_⟩|⟨rfl,rfl,rfl,rfl⟩
   ·omega
   ·omega
   ·omega
   ·have e:rnds (n+1).toNat p1=rnd ⟨a,b,c⟩ n:=by rw[show(n+1).toNat=n.toNat+1 by omega];show rnd (rnds n.toNat p1) (n.toNat:Int)=_;rw[<-g2,show(n.toNat:Int)=n by omega]
    have hS:S3 (rnds (n+1).toNat p1):=by rw[e];unfold rnd mixS S3;dsimp only;omega
    have hinc:i64.wrap (n+1)=n+1:=wi _ qqo qqo;rw[hinc];refine⟨⟨rfl,by unfold S3;have:=hpw ((a+rc n 0)%18446744069414584321) 7;have:=hpw ((b+rc n 1)%18446744069414584321) 7;have:=hpw ((c+rc n 2)%18446744069414584321) 7;dsimp only;omega⟩,(?_:0<=n+1/\n+1<=8/\_/\_),(?_:(8-(n+1)).toNat<(8-n).toNat)⟩
    ·refine⟨by omega,by omega,e.symm,?_⟩;rw[e]at hS;exact hS
    ·omega
 ·have h:=qc h;rw[show n=8 by omega]at g2;have g2:(⟨a,b,c⟩:wAG)=permS p1:=g2;rw[<-g2];exact⟨rfl,rfl,rfl⟩
noncomputable def kax:Con TB.den:= .gp 222 yT1 [.st 8] [] fun(p0 p1:Int) (p2:Li)=>(p0=18446744069414584321/\U64 p1/\Us p2/\p2.length<=1099511627776,(absS p1 p2:wAG),())
theorem kbh:kax.Ok Tryz.prog TB:=qrv Bs Tryz.func222 (.r 3 (.nd [] (.r 0 (.lp [] ⟨[146],yQ1,[9],[.one (zqi)],[]⟩ (.r 0 (.nd [] (.r 0 (.jn ⟨[146],yQ1,[],[],[]⟩ [] .no [] .no)) [] .no)))) [] .no)) (kk3.c (k4s.c (k5u.c c0))) (Q:=∀(p0 p1:Int) (p2:Li),(p0=18446744069414584321/\U64 p1/\Us p2/\p2.length<=1099511627776)->∀r0:wAG,absS p1 p2=r0-> 
((wAH.mk p0).P=18446744069414584321/\U64 p1/\U64 (65536:Int))/\let r1:Int:=(p1*(65536:Int)%18446744069414584321)
((wAH.mk p0).P=18446744069414584321/\U64 r1/\U64 (u64.wrap (p2.length:Int)))/\let r2:Int:=((r1+(u64.wrap (p2.length:Int)))%18446744069414584321)
(((p2.length:Int)==0)=true->
(p0=18446744069414584321/\S3 (wAG.mk 0 0 r2))/\(permS (wAG.mk 0 0 r2)).a0=r0.a0/\(permS (wAG.mk 0 0 r2)).a1=r0.a1/\(permS (wAG.mk 0 0 r2)).a2=r0.a2)/\
(((p2.length:Int)==0)=false->
∃(I1:Int->Int->Int->Int->Prop) (M1:Int->Int->Int->Int->Nat),I1 0 0 0 r2/\∀b1 f1 i1 k1,(I1 b1 f1 i1 k1->
(decide (b1<(p2.length:Int))=true->
(0<=b1)/\b1<(p2.length:Int)/\((wAH.mk p0).P=18446744069414584321/\U64 f1/\U64 (ix p2 b1))/\let r3:Int:=((f1+(ix p2 b1))%18446744069414584321)
∀J1:Int->Int->Int->Prop,(∀(l1 m1 n1:Int),
((p0=18446744069414584321/\S3 (wAG.mk l1 m1 n1))/\I1 (i64.wrap (b1+2)) ((permS (wAG.mk l1 m1 n1)).a0) ((permS (wAG.mk l1 m1 n1)).a1) ((permS (wAG.mk l1 m1 n1)).a2)/\M1 (i64.wrap (b1+2)) ((permS (wAG.mk l1 m1 n1)).a0) ((permS (wAG.mk l1 m1 n1)).a1) ((permS (wAG.mk l1 m1 n1)).a2)<M1 b1 f1 i1 k1)->J1 l1 m1 n1)->
let v4:Bool:=decide ((i64.wrap (b1+1))<(p2.length:Int))
(v4=true->
(0<=i64.wrap (b1+1))/\i64.wrap (b1+1)<(p2.length:Int)/\((wAH.mk p0).P=18446744069414584321/\U64 i1/\U64 (ix p2 (i64.wrap (b1+1))))/\let r5:Int:=((i1+(ix p2 (i64.wrap (b1+1))))%18446744069414584321)
J1 r3 r5 k1)/\
(v4=false->
J1 r3 i1 k1))/\
(decide (b1<(p2.length:Int))=false->
f1=r0.a0/\i1=r0.a1/\k1=r0.a2))))<|by
 rintro p0 p1 p2 h _ rfl;obtain⟨hP,h1,h2,h3⟩:=h;subst hP;have hp:∀s:wAG,S3 (permS s):=fun s=>by show S3 (rnd _ _);unfold rnd mixS S3;dsimp only;omega
 have hi:S3 (absI p1 p2):=by unfold absI S3;dsimp only;omega
 have e:u64.wrap (p2.length:Int)=p2.length:=wu _ qqo qqo;have em:(p1*65536%18446744069414584321+(p2.length:Int))%18446744069414584321=(absI p1 p2).a2:=rfl;rw[e];refine⟨⟨rfl,h1,by omega⟩,⟨rfl,by omega,by omega⟩,fun h=> ?_,fun h=> ?_⟩
 ·have h:p2=[]:=by simpa using h
  refine⟨⟨rfl,?_⟩,?_⟩
  ·exact hi
  ·have:permS ⟨0,0,(p1*65536%18446744069414584321+(p2.length:Int))%18446744069414584321⟩=absS p1 p2:=by unfold absS;rw[qh h];rfl
   rw[this];exact⟨rfl,rfl,rfl⟩
 ·have h:p2≠[]:=by simpa using h
  have hv:absL p2 (absI p1 p2)=absS p1 p2:=by unfold absS;rw[qf h]
  rw[em];refine⟨fun i a b c=>0<=i/\i<=p2.length+1/\absL (p2.drop i.toNat) ⟨a,b,c⟩=absS p1 p2/\S3 ⟨a,b,c⟩,fun i _ _ _=>(p2.length+2-i).toNat,⟨by omega,by omega,hv,hi⟩,?_⟩;rintro i a b c ⟨g0,g1,g2,g3⟩;obtain⟨h3a,h3b,h3c⟩:=g3;refine⟨fun hh=> ?_,fun hh=> ?_⟩
  ·have hh:=qb hh;have hx:=h2 _ (ix_mem p2 i g0 hh);refine⟨g0,hh,⟨rfl,h3a,hx⟩,fun J1 j=> ?_⟩;rw[wi (i+1) qqo qqo];have fin:∀x y z,S3 ⟨x,y,z⟩->absL (p2.drop (i+2).toNat) (permS ⟨x,y,z⟩)=absS p1 p2->J1 x y z:=by intro x y z hS hv';refine j _ _ _ ?_;rw[wi (i+2) qqo qqo];exact⟨⟨rfl,hS⟩,⟨by omega,by omega,hv',hp _⟩,by(dsimp only;omega)⟩
   have hdrop:=drop_ix p2 i g0 hh;rw[hdrop]at g2;refine⟨fun h5=> ?_,fun h5=> ?_⟩
   ·have h5:=qb h5;have hy:=h2 _ (ix_mem p2 (i+1) qqo h5);rw[drop_ix p2 (i+1) qqo h5,show i+1+1=i+2 by omega]at g2;exact⟨by omega,h5,⟨rfl,h3b,hy⟩,fin _ _ _ (S3m qqo qqo h3c) g2⟩
   ·have h5:=qc h5;have ed:p2.drop (i+1).toNat=[]:=qam qqo;have ed2:p2.drop (i+2).toNat=[]:=qam qqo;rw[ed]at g2;exact fin _ _ _ (S3m qqo h3b h3c) (by rw[ed2];exact g2)
  ·have hh:=qc hh;rw[qam qqo]at g2;have g2:(⟨a,b,c⟩:wAG)=absS p1 p2:=g2;rw[<-g2];exact⟨rfl,rfl,rfl⟩
noncomputable def kf1:Con TB.den:= .gp 161 yT1 [yqu] [] fun(p0 p1:Int) (p2:Li)=>(p0=18446744069414584321/\U64 p1/\Us p2/\p2.length<=1099511627776,(hashS p1 p2:Int),())
theorem ky:kf1.Ok Tryz.prog TB:=qrv Bs Tryz.func161 .no (k1f.c (kbh.c c0)) (Q:=∀(p0 p1:Int) (p2:Li),(p0=18446744069414584321/\U64 p1/\Us p2/\p2.length<=1099511627776)->∀r0:Int,hashS p1 p2=r0-> 
((wAH.mk p0).P=18446744069414584321)/\((!true)=true->
0=r0)/\
((!true)=false->
(p0=18446744069414584321/\U64 p1/\Us p2/\p2.length<=1099511627776)/\(absS p1 p2).a0=r0))<|by rintro p0 p1 p2 h _ rfl;obtain⟨hP,h1,h2,h3⟩:=h;subst hP;exact⟨rfl,fun h=>by simp at h,fun _=>⟨⟨rfl,h1,h2,h3⟩,rfl⟩⟩
noncomputable def kaw:Con TB.den:= .gp 109 [yqu,yqu] [yqu] [] fun(p0 p1:Int)=>(U64 p0/\U64 p1,(hashS 6 [p0,p1]:Int),())
theorem k1w:kaw.Ok Tryz.prog TB:=qrv Bs Tryz.func109 .no (ky.c c0) (Q:=∀(p0 p1:Int),(U64 p0/\U64 p1)->∀r0:Int,(hashS 6 [p0,p1])=r0-> 
((18446744069414584321:Int)=18446744069414584321/\U64 (6:Int)/\Us [p0,p1]/\[p0,p1].length<=1099511627776)/\(hashS (6:Int) [p0,p1])=r0)<|by
 rintro p0 p1 h _ rfl;refine⟨⟨rfl,by decide,?_,by simp⟩,rfl⟩;intro x hx;simp only[qag,qeg,or_false]at hx;rcases hx with rfl|rfl
 ·exact h.1
 ·exact h.2
noncomputable def kck:Con TB.den:= .g ⟨72,[.one (zql)],[],(.one (.one (.row 0))),[.vec yqu],false⟩ [.sl yqu] [.sl yqu] [] fun(p0:Li)=>(p0.length<=4294967295,p0,())
theorem k31:kck.Ok Tryz.prog TB:=prx Bs [5,7] Tryz.func72 (.r 0 (.nd [] (.r 0 (.nd [] (.r 0 (.rt [.rnil 2 yqu])) [] .no)) [] .no)) x0 c0 (Q:=∀(p0:Li),(p0.length<=4294967295)->∀e0:Li,p0=e0-> 
∀z4:Bool,(z4=true->p0=[])->(z4=true->
(0=([]:Li).length)/\([]:Li)=e0)/\
(z4=false->
lz ([]:Li)/\(([]:Li).length+p0.length)*8<=140737488355328/\([]:Li).length+p0.length<=maxLen/\lz (([]:Li)++p0)/\([]:Li)++p0=e0))<|by rintro p0 h _ rfl;exact fun z hz=>⟨fun h=>⟨rfl,(hz h).symm⟩,fun h=>⟨rfl,by simp;omega,by simp;unfold maxLen;omega,rfl,rfl⟩⟩
noncomputable def k8j:Con TB.den:= .gp 166 [.st 6,yqu] [.st 6,yqi] [] fun(p0:wG) (p1:Int)=>(FV p0/\p0.we<((2^p0.wC.toNat:Nat):Int)/\0<=p1/\p1<18446744069414584321,(apF p0 p1:wG),(0:Int),())
theorem k8n:k8j.Ok Tryz.prog TB:=qrv Bs Tryz.func166 (.r 0 (.nd [] (.jn ⟨[],[],[15],[.one (.d (.bool))],[]⟩ [] .no [] .no) [] (.r 2 (.nd [] (.lp [] ⟨[98],[.vec yqu],[7,8],[.one (zqi),.one (zqu)],[]⟩ .no) [] (.r 1 (.rt [.frzc 98 1 2])))))) (k3z.c (k31.c (k1w.c c0))) (Q:=∀(p0:wG) (p1:Int),(FV p0/\p0.we<((2^p0.wC.toNat:Nat):Int)/\0<=p1/\p1<18446744069414584321)->∀r0:wG,apF p0 p1=r0->∀r1:Int,(0:Int)=r1-> 
∀J1:Bool->Prop,(∀(b1:Bool),
((b1=true->
0=r0.wC/\0=r0.we/\([]:Li)=r0.wh/\1=r1)/\
(b1=false->
(0<=p0.wC)/\((p0.we==(ishl .i64 1 p0.wC))=true->
0=r0.wC/\0=r0.we/\([]:Li)=r0.wh/\16=r1)/\
((p0.we==(ishl .i64 1 p0.wC))=false->
(p0.wh.length<=4294967295)/\∃(I1:Int->Int->(Li)->Prop) (M1:Int->Int->(Li)->Nat),I1 0 p1 p0.wh/\∀f1 i1 k1,(I1 f1 i1 k1->
(0<=f1)/\let v2:Bool:=((iand .i64 (ishr .i64 p0.we f1) 1)==1)
(v2=true->
(0<=f1/\f1<(p0.wh.length:Int))/\(0<=f1/\f1<(k1.length:Int))/\(U64 (ix k1 f1)/\U64 i1)/\(0<=f1/\f1<(p0.wh.length:Int))/\(0<=f1/\f1<(k1.length:Int))/\I1 (i64.wrap (f1+1)) (hashS 6 [(ix k1 f1),i1]) (k1.set f1.toNat 0)/\M1 (i64.wrap (f1+1)) (hashS 6 [(ix k1 f1),i1]) (k1.set f1.toNat 0)<M1 f1 i1 k1)/\
(v2=false->
(0<=f1/\f1<(p0.wh.length:Int))/\(0<=f1/\f1<(k1.length:Int))/\(p0.wh.length=(k1.set f1.toNat i1).length)/\p0.wC=r0.wC/\i64.wrap (p0.we+1)=r0.we/\k1.set f1.toNat i1=r0.wh/\0=r1)))))->J1 b1)->
(FV p0)/\((!true)=true->
J1 true)/\
((!true)=false->
J1 (decide (18446744069414584321<=p1))))<|by
 rintro p0 p1 h _ rfl _ rfl;obtain⟨hv,hc,hx0,hx1⟩:=h;obtain⟨d1,d2,c0,c1,ll,u,z⟩:=id hv;obtain⟨d,hd⟩:=qo (show 0<=p0.wC by omega);obtain⟨n,hn⟩:=qo c0;have hdn:p0.wC.toNat=d:=by omega
 have hp:=pow12 d qqo;rw[hdn]at c1 ll hc;have hnd:n<2^d:=by omega
 have hbd:=kmz hnd;refine fun J1 j=>⟨hv,fun e=>(by cases e),fun _=> ?_⟩;refine j _ ⟨fun e=>(by have:=qb e;omega),fun _=>⟨by omega,?_⟩⟩;rw[hd,shl1 d qqo,hn];have hne:¬(n:Int)=((2^d:Nat):Int):=by omega
 refine⟨fun e=>(hne (by simpa using e)).elim,fun _=>⟨by omega,?_⟩⟩;refine⟨fun a x g=>∃i:Nat,a=(i:Int)/\i<=d/\g.length=d+1/\(∀y∈g,0<=y/\y<18446744069414584321)/\(0<=x/\x<18446744069414584321)/\carry (d+1-i) i g x n=carry (d+1) 0 p0.wh p1 n,fun a _ _=>(d-a).toNat,⟨0,rfl,by omega,ll,u,⟨hx0,hx1⟩,rfl⟩,?_⟩;rintro _ x g ⟨i,rfl,hi,hgl,hgu,hx,hcy⟩;have hs:i<g.length:=by omega
 have hgx:=hgu _ (qal hs);generalize hR:carry (d+1) 0 p0.wh p1 n=R at hcy;rw[show d+1-i=d-i+1 by omega]at hcy;unfold carry at hcy;have hbit:=bit1 n i qqo qqo;refine⟨by omega,fun e=> ?_,fun e=> ?_⟩
 ·have e2:((n/2^i%2:Nat):Int)=1:=by rw[hbit]at e;simpa using e
  have hb:bitN n i=true:=by unfold bitN;generalize n/2^i%2=q at *;simp;omega
  have hid:i<d:=by
   rcases qay i d with h1|h1
   ·exact h1
   ·have:i=d:=by omega
    subst this;rw[hbd]at hb;cases hb
  rw[qh hb]at hcy;rw[inc_i64 _ qqo,qu];refine⟨⟨by omega,by omega⟩,⟨by omega,by omega⟩,?_,⟨by omega,by omega⟩,⟨by omega,by omega⟩,⟨i+1,rfl,by omega,by simp[hgl],?_,⟨(kj _ _).1,k2a _ _⟩,?_⟩,by(dsimp only;omega)⟩
  ·rw[ix_get _ _ hs];exact⟨⟨hgx.1,by omega⟩,hx.1,by omega⟩
  ·intro y hy;rcases qft hy with hy|rfl
   ·exact hgu y hy
   ·decide
  ·rw[show d+1-(i+1)=d-i by omega];exact hcy
 ·have e2:¬((n/2^i%2:Nat):Int)=1:=by rw[hbit]at e;simpa using e
  have hb:¬bitN n i=true:=by unfold bitN;generalize n/2^i%2=q at *;simp;omega
  rw[qf hb]at hcy;rw[qu];refine⟨⟨by omega,by omega⟩,⟨by omega,by omega⟩,by simp;omega,hd.symm,?_,?_,by first|exact rfl|exact qm⟩
  ·rw[inc_i64 _ qqo];show _=p0.we+1;omega
  ·show _=carry (p0.wC.toNat+1) 0 p0.wh p1 p0.we.toNat;rw[hdn,hn,qu,hR];exact hcy
noncomputable def k95:Con TB.den:= .gp 168 [yqu,yqu] [.bool] [] fun(p0 p1:Int)=>(0<=p0/\p0<=9223372036854775807,(decide (9223372036854775807-p0<p1):Bool),())
theorem kam:k95.Ok Tryz.prog TB:=qrv Bs Tryz.func168 .no c0 (Q:=∀(p0 p1:Int),(0<=p0/\p0<=9223372036854775807)->∀r0:Bool,(decide (9223372036854775807-p0<p1))=r0-> 
(decide (9223372036854775807<p0)=true->
true=r0)/\
(decide (9223372036854775807<p0)=false->
let v1:Int:=u64.wrap (9223372036854775807-p0)
decide (v1<p1)=r0))<|by
 rintro p0 p1 h _ rfl;refine⟨fun e=> ?_,fun e=> ?_⟩
 ·have:=qb e;omega
 ·rw[wrap_u64 _ qqo qqo]
noncomputable def kao:Con TB.den:= .gp 112 [.st 17,yqu,yqu] [.st 17,yqi] [] fun(p0:wt) (p1 p2:Int)=>(OkA p0.wF/\U64 p2,(wt.mk (creditA p0.wF p1 p2).1:wt),((creditA p0.wF p1 p2).2:Int),())
theorem k4a:kao.Ok Tryz.prog TB:=qrv Bs Tryz.func112 .no (k84.c (kam.c (k80.c c0))) (Q:=∀(p0:wt) (p1 p2:Int),(OkA p0.wF/\U64 p2)->∀r0:wt,(wt.mk (creditA p0.wF p1 p2).1)=r0->∀r1:Int,((creditA p0.wF p1 p2).2)=r1-> 
(Srt p0.wF/\p0.wF.length<4611686018427387904)/\(0<=((getA p0.wF p1).wd)/\((getA p0.wF p1).wd)<=9223372036854775807)/\let r2:Bool:=(decide (9223372036854775807-((getA p0.wF p1).wd)<p2))
(r2=true->
([]:List wA)=r0.wF/\1=r1)/\
(r2=false->
let v3:Int:=u64.wrap (((getA p0.wF p1).wd)+p2)
(Srt p0.wF/\p0.wF.length<=1000)/\let r4:List wA:=(putA p0.wF (wA.mk p1 v3 ((getA p0.wF p1).wY)))
r4=r0.wF/\0=r1))<|by
 rintro p0 p1 p2 h _ rfl _ rfl;obtain⟨h,ha,ha'⟩:=h;obtain⟨g1,g2⟩:=getA_ok h p1;refine⟨⟨h.1,by have:=h.2.1;omega⟩,g1,fun hh=> ?_,fun hh=> ?_⟩
 ·have:=qb hh;simp[creditA,this]
 ·have:=qc hh;simp only[creditA,qf this];rw[wrap_u64 _ qqo qqo];exact⟨⟨h.1,h.2.1⟩,rfl,by first|exact rfl|exact qm⟩
noncomputable def k8f:Con TB.den:= .b ⟨111,[.one (.ptr 0 0),.agg yE1,.one (.ptr 1 0)],yF,(.one (.one (zqi))),yE,false⟩ [.st 2,yqi,yqi,yqi,yqi,yqi,yqu,yqi,yqi,yqu,yqi,yqi,.sl yqu,.sl (.st 9),yqu,yqi,yqi,.sl yqu,yqi,.sl (.st 9),yqu,.sl yqu,.sl yqu,.sl (.st 10),.sl yqu,.sl yqu,.sl (.bool)] yO fun(p1:wZ) (Ad Aa Ae Ab Am Ao Ag Aj Ah Ai Ak:Int) (Ac:Li) (Af:List wA) (Al At Au:Int) (Av:Li) (As:Int) (Ck:List wA) (Cl:Int) (w2 w4:Li) (w5:List wK) (w6 w7k:Li) (w7v:Lo)=>((∃(c:Nat) (f:Int),c<=800/\PI (PS.mk (wE.mk Ad Aa Ae Ab Am Ao Ag Aj Ah) (wG.mk Ai Ak Ac) Af Al w2 w4 w5 w7k w7v) c f)/\TR p1/\CK (PS.mk (wE.mk Ad Aa Ae Ab Am Ao Ag Aj Ah) (wG.mk Ai Ak Ac) Af Al w2 w4 w5 w7k w7v) p1/\w6.length<=1000000,perfS (PS.mk (wE.mk Ad Aa Ae Ab Am Ao Ag Aj Ah) (wG.mk Ai Ak Ac) Af Al w2 w4 w5 w7k w7v) p1,fun R=>(R.e,R.s.R.wb,R.s.R.wC,R.s.R.wR,R.s.R.wO,R.s.R.wN,R.s.R.wV,R.s.R.wc,R.s.R.wU,R.s.R.wW,R.s.F.wC,R.s.F.we,R.s.F.wh,R.s.b,R.s.n,At,Au,Av,As,Ck,Cl,R.s.r,R.s.p,((w6++p1.wJ):Li),R.s.k,R.s.v,R.s.l,()))
abbrev k1a (R:PE) (p1:wZ) (At Au:Int) (Av:Li) (As:Int) (Ck:List wA) (Cl:Int) (w6:Li) (o0 o1 o2 o3 o4 o5 o6 o7 o8 o9 o10 o11:Int) (o12:Li) (o13:List wA) (o14 o15 o16:Int) (o17:Li) (o18:Int) (o19:List wA) (o20:Int) (o21:Li) (o22:List wK) (o23 o24:Li) (o25:Lo) (o26:Li):Prop:=o0=R.e/\o1=R.s.R.wb/\o2=R.s.R.wC/\o3=R.s.R.wR/\o4=R.s.R.wO/\o5=R.s.R.wN/\o6=R.s.R.wV/\o7=R.s.R.wc/\o8=R.s.R.wU/\o9=R.s.R.wW/\o10=R.s.F.wC/\o11=R.s.F.we/\o12=R.s.F.wh/\o13=R.s.b/\o14=R.s.n/\o15=At/\o16=Au/\o17=Av/\o18=As/\o19=Ck/\o20=Cl/\o21=R.s.r/\o22=R.s.p/\o23=(w6++p1.wJ)/\o24=R.s.k/\o25=R.s.v/\o26=R.s.l
abbrev Fz1 (r:Type):=Int->Int->Int->Int->Int->Int->Int->Int->Int->Int->Int->Int->(Li)->(List wA)->Int->(Li)->(Lo)->(List wK)->(Li)->(Li)->r
theorem k9a:k8f.Ok Tryz.prog TB:=pbx Bs [33,67,68] Tryz.func111 (.nd [.trimc 0 12] .no [] (.r 1 (.nd [] (.r 0 (.lp [] ⟨[7,5,4,3,0],[.map yqu (.bool),.vec (.st 10),.vec yqu,.cells [.mp 0],.cells [zqi,zqi,zqi,zqi,zqi,zqu,zqi,zqi,zqu,zqi,zqi,zql,.row 5,.ptr 3 0,.d (.sl (.st 9)),zqu,.row 2,.row 1],.vec yqu],[39],[.one (zqi)],[8]⟩ .no)) [] (.jn ⟨[0,314,3,4,5,7],yM,[],[],[]⟩ [] .no [] (.jn ⟨[0,314,3,4,5,7],yM,[],[],[]⟩ [] .no [] .no))))) x0 (kn8.c (k8n.c (k5c.c (k4a.c c0)))) (Q:=∀(p1:wZ) (Ad Aa Ae Ab Am Ao Ag Aj Ah Ai Ak:Int) (Ac:Li) (Af:List wA) (Al At Au:Int) (Av:Li) (As:Int) (Ck:List wA) (Cl:Int) (w2 w4:Li) (w5:List wK) (w6 w7k:Li) (w7v:Lo),((∃(c:Nat) (f:Int),c<=800/\PI (PS.mk (wE.mk Ad Aa Ae Ab Am Ao Ag Aj Ah) (wG.mk Ai Ak Ac) Af Al w2 w4 w5 w7k w7v) c f)/\TR p1/\CK (PS.mk (wE.mk Ad Aa Ae Ab Am Ao Ag Aj Ah) (wG.mk Ai Ak Ac) Af Al w2 w4 w5 w7k w7v) p1/\w6.length<=1000000)->∀R,perfS (PS.mk (wE.mk Ad Aa Ae Ab Am Ao Ag Aj Ah) (wG.mk Ai Ak Ac) Af Al w2 w4 w5 w7k w7v) p1=R-> 
lz w2/\(w7v=trs w7k/\p1.wJ.length<=1000000)/\((((addS p1.wJ w7k).1) !=0)=true->
(w6=w6)/\lz w5/\lz w4/\lz w2/\k1a R p1 At Au Av As Ck Cl w6 ((addS p1.wJ w7k).1) Ad Aa Ae Ab Am Ao Ag Aj Ah Ai Ak Ac Af Al At Au Av As Ck Cl w4 w5 w6 ((addS p1.wJ w7k).2) (trs (addS p1.wJ w7k).2) w2)/\
((((addS p1.wJ w7k).1) !=0)=false->
lz w6/\(w6.length+p1.wJ.length)*8<=140737488355328/\w6.length+p1.wJ.length<=maxLen/\lz w5/\lz w4/\lz w2/\∃(I1:Fz1 Prop) (M1:Fz1 Nat),I1 0 Ad Aa Ae Ab Am Ao Ag Aj Ah Ai Ak Ac Af Al ((addS p1.wJ w7k).2) (trs (addS p1.wJ w7k).2) w5 w4 w2/\∀b1 f1 i1 k1 l1 m1 n1 o1 q1 s1 t1 u1 x1 y1 b2 f2 i2 k2 l2 m2,(I1 b1 f1 i1 k1 l1 m1 n1 o1 q1 s1 t1 u1 x1 y1 b2 f2 i2 k2 l2 m2->
(decide (b1<(p1.wD.length:Int))=true->
(0<=b1)/\b1<(p1.wD.length:Int)/\(FV (wG.mk t1 u1 x1)/\(wG.mk t1 u1 x1).we<((2^(wG.mk t1 u1 x1).wC.toNat:Nat):Int)/\0<=((ix p1.wD b1).wg)/\((ix p1.wD b1).wg)<18446744069414584321)/\let r1:=apF (wG.mk t1 u1 x1) ((ix p1.wD b1).wg)
(((0:Int) !=0)=true->
(w6++p1.wJ=w6++p1.wJ)/\lz k2/\lz l2/\lz m2/\k1a R p1 At Au Av As Ck Cl w6 0 f1 i1 k1 l1 m1 n1 o1 q1 s1 t1 u1 x1 y1 b2 At Au Av As Ck Cl l2 k2 (w6++p1.wJ) f2 i2 m2)/\
(((0:Int) !=0)=false->
lz m2/\lz [(ix p1.wD b1).wg]/\(m2.length+[(ix p1.wD b1).wg].length)*8<=140737488355328/\m2.length+[(ix p1.wD b1).wg].length<=maxLen/\lz k2/\lz l2/\lz (m2++[(ix p1.wD b1).wg])/\I1 (i64.wrap (b1+1)) f1 i1 k1 l1 m1 n1 o1 q1 s1 r1.wC r1.we r1.wh y1 b2 f2 i2 k2 l2 (m2++[(ix p1.wD b1).wg])/\M1 (i64.wrap (b1+1)) f1 i1 k1 l1 m1 n1 o1 q1 s1 r1.wC r1.we r1.wh y1 b2 f2 i2 k2 l2 (m2++[(ix p1.wD b1).wg])<M1 b1 f1 i1 k1 l1 m1 n1 o1 q1 s1 t1 u1 x1 y1 b2 f2 i2 k2 l2 m2))/\
(decide (b1<(p1.wD.length:Int))=false->
∀J1:Int->Int->Int->Int->Int->Int->Int->Int->Int->Int->Int->(Li)->(List wA)->Int->(Li)->(Li)->(List wK)->(Li)->(Lo)->Prop,(∀(n2 o2 q2 s2 t2 u2 x2 y2 b3 f3 i3:Int) (k3:Li) (l3:List wA) (m3:Int) (n3 o3:Li) (q3:List wK) (s3:Li) (t3:Lo),
(∀J2:Int->Int->Int->Int->Int->Int->Int->Int->Int->Int->Int->(Li)->(List wA)->Int->(Li)->(Li)->(List wK)->(Li)->(Lo)->Prop,(∀(u3 x3 y3 b4 f4 i4 k4 l4 m4 n4 o4:Int) (q4:Li) (s4:List wA) (t4:Int) (u4 x4:Li) (y4:List wK) (b5:Li) (f5:Lo),
(let v4:Int:=u64.wrap ((u64.wrap (t4+p1.wQ))-p1.wT)
(w6++p1.wJ=w6++p1.wJ)/\lz y4/\lz x4/\lz u4/\k1a R p1 At Au Av As Ck Cl w6 0 u3 x3 y3 b4 f4 i4 k4 l4 m4 n4 o4 q4 s4 (u64.wrap (v4-p1.Fee)) At Au Av As Ck Cl x4 y4 (w6++p1.wJ) b5 f5 u4)->J2 u3 x3 y3 b4 f4 i4 k4 l4 m4 n4 o4 q4 s4 t4 u4 x4 y4 b5 f5)->
(decide (0<p1.wT)=true->
(OkA (wt.mk l3).wF/\U64 p1.wT)/\let r3:=creditA (wt.mk l3).wF p1.wX p1.wT
((r3.2 !=0)=true->
(w6++p1.wJ=w6++p1.wJ)/\lz q3/\lz o3/\lz n3/\k1a R p1 At Au Av As Ck Cl w6 r3.2 n2 o2 q2 s2 t2 u2 x2 y2 b3 f3 i3 k3 l3 m3 At Au Av As Ck Cl o3 q3 (w6++p1.wJ) s3 t3 n3)/\
((r3.2 !=0)=false->
lz q3/\lz o3/\lz n3/\J2 n2 o2 q2 s2 t2 u2 x2 y2 b3 f3 i3 k3 r3.1 m3 n3 o3 q3 s3 t3))/\
(decide (0<p1.wT)=false->
lz q3/\lz o3/\lz n3/\J2 n2 o2 q2 s2 t2 u2 x2 y2 b3 f3 i3 k3 l3 m3 n3 o3 q3 s3 t3))->J1 n2 o2 q2 s2 t2 u2 x2 y2 b3 f3 i3 k3 l3 m3 n3 o3 q3 s3 t3)->
(decide (0<p1.wQ)=true->
(OkA (wt.mk y1).wF/\U64 p1.wQ/\U64 p1.wY)/\let r2:=debitA (wt.mk y1).wF p1.wX p1.wQ p1.wY
((r2.2 !=0)=true->
(w6++p1.wJ=w6++p1.wJ)/\lz k2/\lz l2/\lz m2/\k1a R p1 At Au Av As Ck Cl w6 r2.2 f1 i1 k1 l1 m1 n1 o1 q1 s1 t1 u1 x1 y1 b2 At Au Av As Ck Cl l2 k2 (w6++p1.wJ) f2 i2 m2)/\
((r2.2 !=0)=false->
lz k2/\lz l2/\lz m2/\J1 f1 i1 k1 l1 m1 n1 o1 q1 s1 t1 u1 x1 r2.1 b2 m2 l2 k2 f2 i2))/\
(decide (0<p1.wQ)=false->
lz k2/\lz l2/\lz m2/\J1 f1 i1 k1 l1 m1 n1 o1 q1 s1 t1 u1 x1 y1 b2 m2 l2 k2 f2 i2)))))<|by
 rintro p1 Ad Aa Ae Ab Am Ao Ag Aj Ah Ai Ak Ac Af Al At Au Av As Ck Cl w2 w4 w5 w6 w7k w7v h R hR;obtain⟨⟨c,f,hc,hp⟩,ht,hk,hw6⟩:=h;have hv:w7v=trs w7k:=hp.v
 have hA:addS p1.wJ w7k=(0,w7k++p1.wJ):=by
  unfold addS;have e1:(p1.wJ.any fun m=>decide (m∈w7k))=false:=by rw[List.any_eq_false];intro m hm;simpa using hk.m m hm
  rw[e1,qbr hk.v.mn];rfl
 have hml:=hk.v.ml;have hol:=hk.v.ol;have hll:w2.length+p1.wD.length<=2^Aa.toNat:=hk.l;have hd1:1<=Aa:=hp.d1;have hd2:Aa<=12:=hp.d2;have hF0:wG.mk Ai Ak Ac=frF Aa w2:=hp.F;have hlb:BG w2:=hp.l;have hp12:=pow12 Aa.toNat qqo;obtain⟨a1,a2,a3,a4,a5⟩:=hk.v.am';have hgb:GoodA c Af:=hp.b
 have hdA:OkA (depA Af p1):=by
  unfold depA;split
  ·exact(kf8 hgb qqo ⟨ht.ac.1,a4⟩ ht.d.1 ht.n).1
  ·exact hgb.1
 have hdd:0<p1.wQ->(debitA Af p1.wX p1.wQ p1.wY).2=0:=hk.d;unfold perfS at hR;refine⟨rfl,⟨hv,by omega⟩,?_⟩;rw[hA];refine⟨fun e=>(by cases e),fun _=>⟨rfl,by omega,by unfold maxLen;omega,rfl,rfl,rfl,?_⟩⟩;refine⟨fun a y0 y1 y2 y3 y4 y5 y6 y7 y8 x y z bb nn kk vv pp rr g=>(Ad=y0/\Aa=y1/\Ae=y2/\Ab=y3/\Am=y4/\Ao=y5/\Ag=y6/\Aj=y7/\Ah=y8/\Af=bb/\Al=nn/\w7k++p1.wJ=kk/\trs (w7k++p1.wJ)=vv/\w5=pp/\w4=rr)/\∃i:Nat,a=(i:Int)/\i<=p1.wD.length/\wG.mk x y z=outsF (wG.mk Ai Ak Ac) (p1.wD.take i)/\g=w2++(p1.wD.take i).map (·.wg),fun a _ _ _ _ _ _ _ _ _ _ _ _ _ _ _ _ _ _ _=>(p1.wD.length-a).toNat,⟨⟨rfl,rfl,rfl,rfl,rfl,rfl,rfl,rfl,rfl,rfl,rfl,rfl,rfl,rfl,rfl⟩,0,rfl,by omega,rfl,by simp⟩,?_⟩;rintro _ _ _ _ _ _ _ _ _ _ x y z _ _ _ _ _ _ _ ⟨⟨rfl,rfl,rfl,rfl,rfl,rfl,rfl,rfl,rfl,rfl,rfl,rfl,rfl,rfl,rfl⟩,i,rfl,hi,hF,rfl⟩;have hx:x=(outsF (wG.mk Ai Ak Ac) (p1.wD.take i)).wC:=congrArg wG.wC hF;have hy:y=(outsF (wG.mk Ai Ak Ac) (p1.wD.take i)).we:=congrArg wG.we hF;have hz:z=(outsF (wG.mk Ai Ak Ac) (p1.wD.take i)).wh:=congrArg wG.wh hF;clear hF;subst hx;subst hy;subst hz;refine⟨fun e=> ?_,fun e=> ?_⟩
 ·have e:i<p1.wD.length:=by have:=qb e;omega
  have ho:=qal e;have hil:(p1.wD.take i).length=i:=by rw[qaa];omega
  have hFi:outsF (wG.mk Ai Ak Ac) (p1.wD.take i)=frF Aa (w2++(p1.wD.take i).map (·.wg)):=by rw[hF0];exact kbq qqo
  have hgl:(w2++(p1.wD.take i).map (·.wg)).length=w2.length+i:=by simp only[qi,ql];omega
  have hbg:BG (w2++(p1.wD.take i).map (·.wg)):=by
   intro q hq;rcases qac.1 hq with hq|hq
   ·exact hlb q hq
   ·obtain⟨o,h1,rfl⟩:=qaj.1 hq;exact⟨(ht.o o (qbf h1)).c.1,(hk.v.o o (qbf h1)).c⟩
  rw[ix_get _ _ e,inc_i64 _ qqo];have hfv:FV (outsF (wG.mk Ai Ak Ac) (p1.wD.take i)):=by rw[hFi];exact frF_FV hd1 hd2 qqo hbg
  have hct:(outsF (wG.mk Ai Ak Ac) (p1.wD.take i)).we<((2^(outsF (wG.mk Ai Ak Ac) (p1.wD.take i)).wC.toNat:Nat):Int):=by rw[hFi];show((w2++(p1.wD.take i).map (·.wg)).length:Int)<((2^Aa.toNat:Nat):Int);omega
  refine⟨by omega,by omega,⟨hfv,hct,(ht.o _ ho).c.1,(hk.v.o _ ho).c⟩,fun e2=>(by cases e2),fun _=>⟨rfl,rfl,?_,?_,rfl,rfl,rfl,⟨⟨rfl,rfl,rfl,rfl,rfl,rfl,rfl,rfl,rfl,rfl,rfl,rfl,rfl,rfl,rfl⟩,i+1,rfl,by omega,?_,?_⟩,by(dsimp only;omega)⟩⟩
  ·rw[hgl];simp only[qr,qaq];omega
  ·rw[hgl];simp only[qr,qaq];unfold maxLen;omega
  ·rw[qan e];unfold outsF;rw[List.foldl_append];rfl
  ·rw[qan e,qbc,qw];rfl
 ·have e:i=p1.wD.length:=by have:=qc e;omega
  subst e;rw[qco];intro J1 j
  have j1:∀b',b' =depA Af p1->J1 Ad Aa Ae Ab Am Ao Ag Aj Ah (outsF (wG.mk Ai Ak Ac) p1.wD).wC (outsF (wG.mk Ai Ak Ac) p1.wD).we (outsF (wG.mk Ai Ak Ac) p1.wD).wh b' Al (w2++p1.wD.map (·.wg)) w4 w5 (w7k++p1.wJ) (trs (w7k++p1.wJ)):=by
   intro b' h1;subst h1;refine j _ _ _ _ _ _ _ _ _ _ _ _ _ _ _ _ _ _ _ fun J2 k=> ?_;have j2:∀b',(wdA Af p1).2=0->b' =(wdA Af p1).1->J2 Ad Aa Ae Ab Am Ao Ag Aj Ah (outsF (wG.mk Ai Ak Ac) p1.wD).wC (outsF (wG.mk Ai Ak Ac) p1.wD).we (outsF (wG.mk Ai Ak Ac) p1.wD).wh b' Al (w2++p1.wD.map (·.wg)) w4 w5 (w7k++p1.wJ) (trs (w7k++p1.wJ)):=by intro b' h0 h1;rw[qf (fun hh=>hh h0)]at hR;subst hR;subst h1;exact k _ _ _ _ _ _ _ _ _ _ _ _ _ _ _ _ _ _ _ (by repeat' first|apply qt|exact rfl|exact qm)
   refine⟨fun e=>⟨⟨hdA,ht.w⟩,fun e2=> ?_,fun e2=>⟨rfl,rfl,rfl,j2 _ ?_ ?_⟩⟩,fun e=>⟨rfl,rfl,rfl,j2 _ ?_ ?_⟩⟩
   ·have e2:(creditA (depA Af p1) p1.wX p1.wT).2≠0:=by simpa using e2
    have ew:wdA Af p1=creditA (depA Af p1) p1.wX p1.wT:=by unfold wdA;rw[qh (qb e)]
    rw[ew,qh e2]at hR;subst hR;exact(by repeat' first|apply qt|exact rfl|exact qm)
   ·have e2:(creditA (depA Af p1) p1.wX p1.wT).2=0:=by simpa using e2
    unfold wdA;rw[qh (qb e)];exact e2
   ·unfold wdA;rw[qh (qb e)]
   ·unfold wdA;rw[qf (qc e)]
   ·unfold wdA;rw[qf (qc e)]
  refine⟨fun e2=>⟨⟨hgb.1,ht.d,ht.n⟩,fun e3=> ?_,fun e3=>⟨rfl,rfl,rfl,j1 _ ?_⟩⟩,fun e2=>⟨rfl,rfl,rfl,j1 _ ?_⟩⟩
  ·have e3:(debitA Af p1.wX p1.wQ p1.wY).2≠0:=by simpa using e3
   exact(e3 (hdd (qb e2))).elim
  ·unfold depA;rw[qh (qb e2)]
  ·unfold depA;rw[qf (qc e2)]
noncomputable def kav:Con TB.den:= .b ⟨73,[.one (.ptr 0 0),.agg yK1,.one (.ptr 1 0)],yF,(.one (.one (zqi))),yE,false⟩ [.st 3,yqi,yqi,yqi,yqi,yqi,yqu,yqi,yqi,yqu,yqi,yqi,.sl yqu,.sl (.st 9),yqu,yqi,yqi,.sl yqu,yqi,.sl (.st 9),yqu,.sl yqu,.sl yqu,.sl (.st 10),.sl yqu,.sl yqu,.sl (.bool)] yO fun(p1:wI) (Ad Aa Ae Ab Am Ao Ag Aj Ah Ai Ak:Int) (Ac:Li) (Af:List wA) (Al At Au:Int) (Av:Li) (As:Int) (Ck:List wA) (Cl:Int) (w2 w4:Li) (w5:List wK) (w6 w7k:Li) (w7v:Lo)=>((∃c:Nat,c+p1.Txs.length<=790/\PI (PS.mk (wE.mk Ad Aa Ae Ab Am Ao Ag Aj Ah) (wG.mk Ai Ak Ac) Af Al w2 w4 w5 w7k w7v) c 0)/\BR' p1/\w6=[],blkS (PS.mk (wE.mk Ad Aa Ae Ab Am Ao Ag Aj Ah) (wG.mk Ai Ak Ac) Af Al w2 w4 w5 w7k w7v) w6 p1,fun R=>(R.e,R.s.R.wb,R.s.R.wC,R.s.R.wR,R.s.R.wO,R.s.R.wN,R.s.R.wV,R.s.R.wc,R.s.R.wU,R.s.R.wW,R.s.F.wC,R.s.F.we,R.s.F.wh,R.s.b,R.s.n,At,Au,Av,As,Ck,Cl,R.s.r,R.s.p,R.m,R.s.k,R.s.v,R.s.l,()))
abbrev k1x (R:PB) (At Au:Int) (Av:Li) (As:Int) (Ck:List wA) (Cl o0 o1 o2 o3 o4 o5 o6 o7 o8 o9 o10 o11:Int) (o12:Li) (o13:List wA) (o14 o15 o16:Int) (o17:Li) (o18:Int) (o19:List wA) (o20:Int) (o21:Li) (o22:List wK) (o23 o24:Li) (o25:Lo) (o26:Li):Prop:=o0=R.e/\o1=R.s.R.wb/\o2=R.s.R.wC/\o3=R.s.R.wR/\o4=R.s.R.wO/\o5=R.s.R.wN/\o6=R.s.R.wV/\o7=R.s.R.wc/\o8=R.s.R.wU/\o9=R.s.R.wW/\o10=R.s.F.wC/\o11=R.s.F.we/\o12=R.s.F.wh/\o13=R.s.b/\o14=R.s.n/\o15=At/\o16=Au/\o17=Av/\o18=As/\o19=Ck/\o20=Cl/\o21=R.s.r/\o22=R.s.p/\o23=R.m/\o24=R.s.k/\o25=R.s.v/\o26=R.s.l
abbrev Fz2 (r:Type):=Int->Int->Int->Int->(Li)->Int->(List wA)->Int->Int->Int->Int->Int->Int->Int->Int->Int->Int->Int->Int->(Li)->(List wA)->Int->(Li)->(Lo)->(Li)->(List wK)->(Li)->(Li)->r
theorem kbg:kav.Ok Tryz.prog TB:=pbv Bs Tryz.func73 (.nd [.trimc 0 12] .no [] (.r 0 (.nd [] (.r 0 (.lp [] ⟨[7,6,5,4,3,1,0],[.map yqu (.bool),.tip yqu,.vec (.st 10),.vec yqu,.cells [.mp 0],.cells [zqi,zqi,zql,zqi,.own 1,.d (.sl (.st 9)),zqu],.cells [zqi,zqi,zqi,zqi,zqi,zqu,zqi,zqi,zqu,zqi,zqi,zql,.row 7,.ptr 4 0,.d (.sl (.st 9)),zqu,.row 3,.row 2],.vec yqu],[7,17],[.one (zqu),.one (zqi)],[8]⟩ .no)) [] .no))) (kfk.c (k9a.c (k4a.c c0))) (Q:=∀(p1:wI) (Ad Aa Ae Ab Am Ao Ag Aj Ah Ai Ak:Int) (Ac:Li) (Af:List wA) (Al At Au:Int) (Av:Li) (As:Int) (Ck:List wA) (Cl:Int) (w2 w4:Li) (w5:List wK) (w6 w7k:Li) (w7v:Lo),((∃c:Nat,c+p1.Txs.length<=790/\PI (PS.mk (wE.mk Ad Aa Ae Ab Am Ao Ag Aj Ah) (wG.mk Ai Ak Ac) Af Al w2 w4 w5 w7k w7v) c 0)/\BR' p1/\w6=[])->∀R,blkS (PS.mk (wE.mk Ad Aa Ae Ab Am Ao Ag Aj Ah) (wG.mk Ai Ak Ac) Af Al w2 w4 w5 w7k w7v) w6 p1=R-> 
lz w2/\lz w5/\lz w4/\lz w2/\(w6=w6)/\∃(I1:Fz2 Prop) (M1:Fz2 Nat),I1 0 0 At Au Av As Ck Cl Ad Aa Ae Ab Am Ao Ag Aj Ah Ai Ak Ac Af Al w7k w7v w6 w5 w4 w2/\∀b1 f1 i1 k1 l1 m1 n1 o1 q1 s1 t1 u1 x1 y1 b2 f2 i2 k2 l2 m2 n2 o2 q2 s2 t2 u2 x2 y2,(I1 b1 f1 i1 k1 l1 m1 n1 o1 q1 s1 t1 u1 x1 y1 b2 f2 i2 k2 l2 m2 n2 o2 q2 s2 t2 u2 x2 y2->
(decide (f1<(p1.Txs.length:Int))=true->
(0<=f1)/\f1<(p1.Txs.length:Int)/\lz u2/\lz x2/\lz y2/\((∃(c:Nat) (f:Int),c<=800/\PI (PS.mk (wE.mk q1 s1 t1 u1 x1 y1 b2 f2 i2) (wG.mk k2 l2 m2) n2 o2 y2 x2 u2 q2 s2) c f)/\TR (ix p1.Txs f1))/\let r1:Int:=(chkS (PS.mk (wE.mk q1 s1 t1 u1 x1 y1 b2 f2 i2) (wG.mk k2 l2 m2) n2 o2 y2 x2 u2 q2 s2) (ix p1.Txs f1))
((r1 !=0)=true->
(t2=t2)/\lz u2/\lz x2/\lz y2/\k1x R At Au Av As Ck Cl r1 q1 s1 t1 u1 x1 y1 b2 f2 i2 k2 l2 m2 n2 o2 i1 k1 l1 m1 n1 o1 x2 u2 t2 q2 s2 y2)/\
((r1 !=0)=false->
(t2=t2)/\lz u2/\lz x2/\lz y2/\((∃(c:Nat) (f:Int),c<=800/\PI (PS.mk (wE.mk q1 s1 t1 u1 x1 y1 b2 f2 i2) (wG.mk k2 l2 m2) n2 o2 y2 x2 u2 q2 s2) c f)/\TR (ix p1.Txs f1)/\CK (PS.mk (wE.mk q1 s1 t1 u1 x1 y1 b2 f2 i2) (wG.mk k2 l2 m2) n2 o2 y2 x2 u2 q2 s2) (ix p1.Txs f1)/\t2.length<=1000000)/\let r2:Int:=((perfS (PS.mk (wE.mk q1 s1 t1 u1 x1 y1 b2 f2 i2) (wG.mk k2 l2 m2) n2 o2 y2 x2 u2 q2 s2) (ix p1.Txs f1)).e)
let r3:=(perfS (PS.mk (wE.mk q1 s1 t1 u1 x1 y1 b2 f2 i2) (wG.mk k2 l2 m2) n2 o2 y2 x2 u2 q2 s2) (ix p1.Txs f1)).s
((r2 !=0)=true->
((t2++(ix p1.Txs f1).wJ)=(t2++(ix p1.Txs f1).wJ))/\lz r3.p/\lz r3.r/\lz r3.l/\k1x R At Au Av As Ck Cl r2 r3.R.wb r3.R.wC r3.R.wR r3.R.wO r3.R.wN r3.R.wV r3.R.wc r3.R.wU r3.R.wW r3.F.wC r3.F.we r3.F.wh r3.b r3.n i1 k1 l1 m1 n1 o1 r3.r r3.p (t2++(ix p1.Txs f1).wJ) r3.k r3.v r3.l)/\
((r2 !=0)=false->
let v4:Int:=u64.wrap (b1+((ix p1.Txs f1).Fee))
lz r3.p/\lz r3.r/\lz r3.l/\((t2++(ix p1.Txs f1).wJ)=(t2++(ix p1.Txs f1).wJ))/\I1 v4 (i64.wrap (f1+1)) i1 k1 l1 m1 n1 o1 r3.R.wb r3.R.wC r3.R.wR r3.R.wO r3.R.wN r3.R.wV r3.R.wc r3.R.wU r3.R.wW r3.F.wC r3.F.we r3.F.wh r3.b r3.n r3.k r3.v (t2++(ix p1.Txs f1).wJ) r3.p r3.r r3.l/\M1 v4 (i64.wrap (f1+1)) i1 k1 l1 m1 n1 o1 r3.R.wb r3.R.wC r3.R.wR r3.R.wO r3.R.wN r3.R.wV r3.R.wc r3.R.wU r3.R.wW r3.F.wC r3.F.we r3.F.wh r3.b r3.n r3.k r3.v (t2++(ix p1.Txs f1).wJ) r3.p r3.r r3.l<M1 b1 f1 i1 k1 l1 m1 n1 o1 q1 s1 t1 u1 x1 y1 b2 f2 i2 k2 l2 m2 n2 o2 q2 s2 t2 u2 x2 y2)))/\
(decide (f1<(p1.Txs.length:Int))=false->
(OkA (wt.mk n2).wF/\U64 (u64.wrap (y1+b1)))/\let r5:=creditA (wt.mk n2).wF p1.wAl (u64.wrap (y1+b1))
((r5.2 !=0)=true->
(t2=t2)/\lz u2/\lz x2/\lz y2/\k1x R At Au Av As Ck Cl r5.2 q1 s1 t1 u1 x1 y1 b2 f2 i2 k2 l2 m2 n2 o2 i1 k1 l1 m1 n1 o1 x2 u2 t2 q2 s2 y2)/\
((r5.2 !=0)=false->
(t2=t2)/\lz u2/\lz x2/\lz y2/\k1x R At Au Av As Ck Cl 0 q1 s1 t1 u1 x1 y1 b2 f2 i2 k2 l2 m2 r5.1 o2 i1 k1 l1 m1 n1 o1 x2 u2 t2 q2 s2 y2))))<|by
 rintro p1 Ad Aa Ae Ab Am Ao Ag Aj Ah Ai Ak Ac Af Al At Au Av As Ck Cl w2 w4 w5 w6 w7k w7v h R hR;obtain⟨⟨c,hc,hp⟩,hb,hw⟩:=h;subst hw;unfold blkS at hR;generalize hG:blkGo p1.Txs (PS.mk (wE.mk Ad Aa Ae Ab Am Ao Ag Aj Ah) (wG.mk Ai Ak Ac) Af Al w2 w4 w5 w7k w7v) [] 0=G at hR;refine⟨rfl,rfl,rfl,rfl,rfl,⟨(fun fe a y0 y1 y2 y3 y4 y5 x0 x1 x2 x3 x4 x5 x6 x7 x8 x9 x10 x11 bb nn kk vv mm pp rr ll=>(y0=At/\y1=Au/\y2=Av/\y3=As/\y4=Ck/\y5=Cl)/\∃i:Nat,a=(i:Int)/\i<=p1.Txs.length/\(∃c' :Nat,c' +(p1.Txs.length-i)<=790/\PI (PS.mk (wE.mk x0 x1 x2 x3 x4 x5 x6 x7 x8) (wG.mk x9 x10 x11) bb nn ll rr pp kk vv) c' fe)/\mm.length<=4*i/\blkGo (p1.Txs.drop i) (PS.mk (wE.mk x0 x1 x2 x3 x4 x5 x6 x7 x8) (wG.mk x9 x10 x11) bb nn ll rr pp kk vv) mm fe=G),(fun _ a _ _ _ _ _ _ _ _ _ _ _ _ _ _ _ _ _ _ _ _ _ _ _ _ _ _=>(p1.Txs.length-a).toNat),⟨⟨rfl,rfl,rfl,rfl,rfl,rfl⟩,0,rfl,by omega,⟨c,by omega,hp⟩,by simp,hG⟩,?_⟩⟩;rintro fe _ y0 y1 y2 y3 y4 y5 x0 x1 x2 x3 x4 x5 x6 x7 x8 x9 x10 x11 bb nn kk vv mm pp rr ll ⟨⟨rfl,rfl,rfl,rfl,rfl,rfl⟩,i,rfl,hi,⟨c',hc',hq⟩,hm,hg⟩;refine⟨fun e=> ?_,fun e=> ?_⟩
 ·have e:i<p1.Txs.length:=by have:=qb e;omega
  have ht:=hb.t _ (qal e);rw[qat e]at hg;unfold blkGo at hg;rw[ix_get _ _ e,inc_i64 _ qqo];refine⟨by omega,by omega,rfl,rfl,rfl,⟨⟨c',fe,by omega,hq⟩,ht⟩,fun e2=> ?_,fun e2=> ?_⟩
  ·have e2:chkS (PS.mk (wE.mk x0 x1 x2 x3 x4 x5 x6 x7 x8) (wG.mk x9 x10 x11) bb nn ll rr pp kk vv) p1.Txs[i]≠0:=by simpa using e2
   rw[qh e2]at hg;subst hg;simp only at hR;rw[qh e2]at hR;subst hR;exact(by repeat' first|apply qt|exact rfl|exact qm)
  ·have e2:chkS (PS.mk (wE.mk x0 x1 x2 x3 x4 x5 x6 x7 x8) (wG.mk x9 x10 x11) bb nn ll rr pp kk vv) p1.Txs[i]=0:=by simpa using e2
   have k:=kcx e2;rw[qf (fun hh=>hh e2)]at hg;refine⟨rfl,rfl,rfl,rfl,⟨⟨c',fe,by omega,hq⟩,ht,k,by omega⟩,fun e3=> ?_,fun e3=>⟨rfl,rfl,rfl,rfl,⟨⟨rfl,rfl,rfl,rfl,rfl,rfl⟩,i+1,rfl,by omega,⟨c' +1,by omega,?_⟩,?_,?_⟩,by(dsimp only;omega)⟩⟩
   ·have e3:(perfS (PS.mk (wE.mk x0 x1 x2 x3 x4 x5 x6 x7 x8) (wG.mk x9 x10 x11) bb nn ll rr pp kk vv) p1.Txs[i]).e≠0:=by simpa using e3
    rw[qh e3]at hg;subst hg;simp only at hR;rw[qh e3]at hR;subst hR;exact(by repeat' first|apply qt|exact rfl|exact qm)
   ·have e3:(perfS (PS.mk (wE.mk x0 x1 x2 x3 x4 x5 x6 x7 x8) (wG.mk x9 x10 x11) bb nn ll rr pp kk vv) p1.Txs[i]).e=0:=by simpa using e3
    have h9:=(hq.perf qqo ht k).2.2 e3;rw[kir hq qqo ht k];exact h9
   ·have:=k.v.ml;rw[qi];omega
   ·have e3:(perfS (PS.mk (wE.mk x0 x1 x2 x3 x4 x5 x6 x7 x8) (wG.mk x9 x10 x11) bb nn ll rr pp kk vv) p1.Txs[i]).e=0:=by simpa using e3
    rw[qf (fun hh=>hh e3)]at hg;exact hg
 ·have e:i=p1.Txs.length:=by have:=qc e;omega
  subst e;rw[qev]at hg;unfold blkGo at hg;subst hg;have hw:=kjr (x:=⟨0,(PS.mk (wE.mk x0 x1 x2 x3 x4 x5 x6 x7 x8) (wG.mk x9 x10 x11) bb nn ll rr pp kk vv),mm,fe⟩) hq qqo;simp only at hw;unfold crB at hR;simp only at hR;rw[qf (fun hh=>hh rfl)]at hR;refine⟨⟨hq.b.1,?_⟩,fun e2=> ?_,fun e2=> ?_⟩
  ·rw[hw.1];exact hw.2
  ·have e2:(creditA bb p1.wAl (u64.wrap (x5+fe))).2≠0:=by simpa using e2
   rw[qh e2]at hR;subst hR;exact(by repeat' first|apply qt|exact rfl|exact qm)
  ·have e2:(creditA bb p1.wAl (u64.wrap (x5+fe))).2=0:=by simpa using e2
   rw[qf (fun hh=>hh e2)]at hR;subst hR;exact(by repeat' first|apply qt|exact rfl|exact qm)
noncomputable def kfe:Con TB.den:= .g (gk 113 [.one (.ptr 0 0),.one (zql)] yO1 (.one (.one (zqi)))) [.sl yqu,.sl yqu,.sl (.bool)] [yqi,.sl yqu,.sl (.bool)] [] fun(p1 w1k:Li) (w1v:Lo)=>(w1v=trs w1k/\p1.length<=1000000,((remS p1 w1k).1:Int),((remS p1 w1k).2:Li),(trs (remS p1 w1k).2:Lo),())
theorem ki1:kfe.Ok Tryz.prog TB:=prv Bs Tryz.func113 (.r 1 (.nd [] (.r 0 (.lp [] ⟨[1],yS1,[16],[.one (zqi)],[]⟩ .no)) [] .no)) (kb4.c (k34.c c0)) (Q:=∀(p1 w1k:Li) (w1v:Lo),(w1v=trs w1k/\p1.length<=1000000)->∀r0:Int,((remS p1 w1k).1)=r0->∀e1k:Li,((remS p1 w1k).2)=e1k->∀e1v:Lo,(trs (remS p1 w1k).2)=e1v-> 
(w1v=trs w1k/\p1.length<=1000000)/\let r1:Bool:=(p1.any (fun m=>decide (m∈w1k)==false))
(r1=true->
4=r0/\w1k=e1k/\w1v=e1v)/\
(r1=false->
(p1.length<=1000000)/\((!decide p1.Nodup)=true->
4=r0/\w1k=e1k/\w1v=e1v)/\
((!decide p1.Nodup)=false->
∃(I1:Int->(Li)->(Lo)->Prop) (M1:Int->(Li)->(Lo)->Nat),I1 0 w1k w1v/\∀b1 f1 i1,(I1 b1 f1 i1->
(decide (b1<(p1.length:Int))=true->
(0<=b1)/\b1<(p1.length:Int)/\f1.length=i1.length/\let v2:Li:=mDelK (BEq.beq (ix p1 b1)) f1
let v3:Lo:=mDelV (BEq.beq (ix p1 b1)) f1 i1
I1 (i64.wrap (b1+1)) v2 v3/\M1 (i64.wrap (b1+1)) v2 v3<M1 b1 f1 i1)/\
(decide (b1<(p1.length:Int))=false->
0=r0/\f1=e1k/\i1=e1v)))))<|by
 rintro p1 w1k w1v h _ rfl _ rfl _ rfl;obtain⟨h,hl⟩:=h;subst h;have ea:(p1.any fun m=>decide (m∈w1k)==false)=p1.any fun m=> !decide (m∈w1k):=by congr 1;funext m;cases decide (m∈w1k)<;>rfl
 refine⟨⟨rfl,hl⟩,?_⟩;rw[ea];refine⟨fun e=> ?_,fun e=>⟨hl,fun e2=> ?_,fun e2=> ?_⟩⟩
 ·have:remS p1 w1k=(4,w1k):=by unfold remS;rw[e];rfl
  rw[this];exact⟨rfl,rfl,rfl⟩
 ·have:remS p1 w1k=(4,w1k):=by unfold remS;rw[e,e2];rfl
  rw[this];exact⟨rfl,rfl,rfl⟩
 ·have hA:remS p1 w1k=(0,p1.foldl List.erase w1k):=by unfold remS;rw[e,e2];rfl
  rw[hA];refine⟨(fun a k v=>∃i:Nat,a=(i:Int)/\i<=p1.length/\k=(p1.take i).foldl List.erase w1k/\v=trs k),(fun a _ _=>(p1.length-a).toNat),⟨0,rfl,by omega,rfl,rfl⟩,?_⟩;rintro _ _ _ ⟨i,rfl,hi,rfl,rfl⟩;refine⟨fun e3=> ?_,fun e3=> ?_⟩
  ·have e3:i<p1.length:=by have:=qb e3;omega
   rw[ix_get _ _ e3,inc_i64 _ qqo];obtain⟨q1,q2⟩:=sDel ((p1.take i).foldl List.erase w1k) p1[i];rw[q1,q2];refine⟨by omega,by omega,by simp[trs],⟨i+1,rfl,by omega,?_,rfl⟩,by(dsimp only;omega)⟩;rw[qan e3,List.foldl_append];rfl
  ·have e3:i=p1.length:=by have:=qc e3;omega
   subst e3;rw[qco];exact⟨rfl,rfl,rfl⟩
noncomputable def kac:Con TB.den:= .g ⟨74,[.one (.ptr 0 0),.agg [zqi,zqi,zql,zqi,zql,.d (.sl (.st 9)),zqu]],yM,(.tup []),[.cells [zqi,zqi,zqi,zqi,zqi,zqu,zqi,zqi,zqu,zqi,zqi,zql,.view 1,.ptr 2 0,.d (.sl (.st 9)),zqu,.row 3,.row 4],.vec yqu,.cells [.mp 5],.vec yqu,.vec (.st 10),.map yqu (.bool)],false⟩ [.st 10,yqi,yqi,yqi,yqi,yqi,yqu,yqi,yqi,yqu,yqi,yqi,.sl yqu,.sl (.st 9),yqu,.sl yqu,.sl yqu,.sl (.st 10),.sl yqu,.sl (.bool)] [yqi,yqi,yqi,yqi,yqi,yqu,yqi,yqi,yqu,yqi,yqi,.sl yqu,yqi,yqi,.sl (.st 9),yqu,.sl yqu,.sl yqu,.sl (.st 10),.sl yqu,.sl (.bool)] [] fun(p1:wK) (Ad Aa Ae Ab Am Ao Ag Aj Ah Ai Ak:Int) (Ac:Li) (Af:List wA) (Al:Int) (w1 w3:Li) (w4:List wK) (w5k:Li) (w5v:Lo)=>(w5v=trs w5k/\p1.marks.length<=1000000/\0<=p1.leaves/\p1.leaves<=(w1.length:Int),Ad,Aa,Ae,Ab,Am,Ao,Ag,Aj,Ah,p1.wBI,p1.wBJ,p1.wBL,(0:Int),(p1.leaves.toNat:Int),p1.wBA,p1.hidden,w1,w3,w4,((remS p1.marks w5k).2:Li),(trs (remS p1.marks w5k).2:Lo),())
theorem k4p:kac.Ok Tryz.prog TB:=prv Bs Tryz.func74 .no (ki1.c c0) (Q:=∀(p1:wK) (Ad Aa Ae Ab Am Ao Ag Aj Ah Ai Ak:Int) (Ac:Li) (Af:List wA) (Al:Int) (w1 w3:Li) (w4:List wK) (w5k:Li) (w5v:Lo),(w5v=trs w5k/\p1.marks.length<=1000000/\0<=p1.leaves/\p1.leaves<=(w1.length:Int))->∀Ay:Int,Ad=Ay->∀Aq:Int,Aa=Aq->∀Aw:Int,Ae=Aw->∀Ax:Int,Ab=Ax->∀B0:Int,Am=B0->∀B1:Int,Ao=B1->∀Bl:Int,Ag=Bl->∀Bm:Int,Aj=Bm->∀Bn:Int,Ah=Bn->∀Bo:Int,p1.wBI=Bo->∀Bp:Int,p1.wBJ=Bp->∀A9:Li,p1.wBL=A9->∀d0_12o:Int,(0:Int)=d0_12o->∀d0_12n:Int,(p1.leaves.toNat:Int)=d0_12n->∀Ba:List wA,p1.wBA=Ba->∀Bq:Int,p1.hidden=Bq->∀e1:Li,w1=e1->∀e3:Li,w3=e3->∀e4:List wK,w4=e4->∀e5k:Li,((remS p1.marks w5k).2)=e5k->∀e5v:Lo,(trs (remS p1.marks w5k).2)=e5v-> 
(w5v=trs w5k/\p1.marks.length<=1000000)/\(0<=p1.leaves)/\p1.leaves<=(w1.length:Int)/\lz w4/\lz w3/\Ad=Ay/\Aa=Aq/\Ae=Aw/\Ab=Ax/\Am=B0/\Ao=B1/\Ag=Bl/\Aj=Bm/\Ah=Bn/\p1.wBI=Bo/\p1.wBJ=Bp/\p1.wBL=A9/\(0:Int)=d0_12o/\(p1.leaves.toNat:Int)=d0_12n/\p1.wBA=Ba/\p1.hidden=Bq/\w1=e1/\w3=e3/\w4=e4/\((remS p1.marks w5k).2)=e5k/\(trs (remS p1.marks w5k).2)=e5v)<|by
 rintro p1 Ad Aa Ae Ab Am Ao Ag Aj Ah Ai Ak Ac Af Al w1 w3 w4 w5k w5v h;repeat rintro _ rfl
 exact⟨⟨h.1,h.2.1⟩,h.2.2.1,h.2.2.2,rfl,rfl,rfl,rfl,rfl,rfl,rfl,rfl,rfl,rfl,rfl,rfl,rfl,rfl,rfl,rfl,rfl,rfl,rfl,rfl,rfl,rfl,rfl⟩
noncomputable def k94:Con TB.den:= .gp 108 [yqi] [yqu] [] fun(p0:Int)=>(0<=p0/\p0<=12,(emp p0.toNat:Int),())
theorem k3y:k94.Ok Tryz.prog TB:=qrv Bs Tryz.func108 (.r 2 (.nd [] (.r 0 (.lp [] ⟨[],[],[3,12],[.one (zqu),.one (zqi)],[]⟩ .no)) [] .no)) (ky.c (k1w.c c0)) (Q:=∀(p0:Int),(0<=p0/\p0<=12)->∀r0:Int,emp p0.toNat=r0-> 
(decide (p0<0)=true->
0=r0)/\
(decide (p0<0)=false->
(decide (12<p0)=true->
0=r0)/\
(decide (12<p0)=false->
((18446744069414584321:Int)=18446744069414584321/\U64 (6:Int)/\Us ([]:Li)/\([]:Li).length<=1099511627776)/\∃(I1:Int->Int->Prop) (M1:Int->Int->Nat),I1 (hashS (6:Int) ([]:Li)) 0/\∀b1 f1,(I1 b1 f1->
(decide (f1<p0)=true->
(U64 b1/\U64 b1)/\I1 (hashS 6 [b1,b1]) (i64.wrap (f1+1))/\M1 (hashS 6 [b1,b1]) (i64.wrap (f1+1))<M1 b1 f1)/\
(decide (f1<p0)=false->
b1=r0)))))<|by
 rintro p0 h _ rfl;refine⟨fun e=>(by have:=qb e;omega),fun _=>⟨fun e=>(by have:=qb e;omega),fun _=>⟨⟨rfl,by decide,(by intro x hx;cases hx),by decide⟩,?_⟩⟩⟩;refine⟨(fun x a=>∃i:Nat,a=(i:Int)/\(i:Int)<=p0/\x=emp i),(fun _ a=>(p0-a).toNat),⟨0,rfl,by omega,rfl⟩,?_⟩;rintro _ _ ⟨i,rfl,hi,rfl⟩;refine⟨fun e=> ?_,fun e=> ?_⟩
 ·have e:=qb e;rw[inc_i64 _ qqo];exact⟨⟨emp_u i,emp_u i⟩,⟨i+1,rfl,by omega,rfl⟩,by(dsimp only;omega)⟩
 ·have e:=qc e;have:p0.toNat=i:=by omega
  rw[this]
noncomputable def kas:Con TB.den:= .gp 71 [.st 6] [yqu] [] fun(p0:wG)=>(FV p0,(rootF p0:Int),())
theorem k2o:kas.Ok Tryz.prog TB:=qrv Bs Tryz.func71 (.r 4 (.nd [] (.r 0 (.lp [] ⟨[],[],[3,4,25],[.one (zqu),.one (zqu),.one (zqi)],[]⟩ (.r 1 (.nd [] (.r 0 (.jn ⟨[],[],[4],[.one (zqu)],[]⟩ [] .no [] .no)) [] .no)))) [] .no)) (k3z.c (k3y.c (k1w.c c0))) (Q:=∀(p0:wG),(FV p0)->∀r0:Int,rootF p0=r0-> 
(FV p0)/\((!true)=true->
0=r0)/\
((!true)=false->
(0<=p0.wC)/\((p0.we==(ishl .i64 1 p0.wC))=true->
(0<=p0.wC)/\p0.wC<(p0.wh.length:Int)/\ix p0.wh p0.wC=r0)/\
((p0.we==(ishl .i64 1 p0.wC))=false->
(0<=(0:Int)/\(0:Int)<=12)/\∃(I1:Int->Int->Int->Prop) (M1:Int->Int->Int->Nat),I1 (emp (0:Int).toNat) (emp (0:Int).toNat) 0/\∀b1 f1 i1,(I1 b1 f1 i1->
(decide (i1<p0.wC)=true->
∀J1:Int->Prop,(∀(k1:Int),
((U64 b1/\U64 b1)/\I1 (hashS 6 [b1,b1]) k1 (i64.wrap (i1+1))/\M1 (hashS 6 [b1,b1]) k1 (i64.wrap (i1+1))<M1 b1 f1 i1)->J1 k1)->
(0<=i1)/\let v1:Bool:=((iand .i64 (ishr .i64 p0.we i1) 1)==1)
(v1=true->
(0<=i1)/\i1<(p0.wh.length:Int)/\(U64 (ix p0.wh i1)/\U64 f1)/\J1 (hashS 6 [(ix p0.wh i1),f1]))/\
(v1=false->
(U64 f1/\U64 b1)/\J1 (hashS 6 [f1,b1])))/\
(decide (i1<p0.wC)=false->
f1=r0)))))<|by
 rintro p0 h _ rfl;have hv:=h;obtain⟨d1,d2,c0,c1,ll,u,z⟩:=h;obtain⟨d,hd⟩:=qo (show 0<=p0.wC by omega);obtain⟨n,hn⟩:=qo c0;have hdn:p0.wC.toNat=d:=by omega
 have hp:=pow12 d qqo;rw[hdn]at c1 ll;refine⟨hv,fun e=>(by cases e),fun _=>⟨by omega,?_⟩⟩;rw[hd,shl1 d qqo,hn];refine⟨fun e=>⟨by omega,by omega,?_⟩,fun e=>⟨by decide,?_⟩⟩
 ·have e:(n:Int)=((2^d:Nat):Int):=by simpa using e
  unfold rootF;rw[hdn,hn,qh e,hd]
 have e:¬(n:Int)=((2^d:Nat):Int):=by simpa using e
 have hr:rootF p0=rootGo p0 d 0 (emp 0) (emp 0):=by unfold rootF;rw[hdn,hn,qf e]
 rw[hr];refine⟨fun a x b=>∃i:Nat,b=(i:Int)/\i<=d/\a=emp i/\(0<=x/\x<18446744069414584321)/\rootGo p0 (d-i) i (emp i) x=rootGo p0 d 0 (emp 0) (emp 0),fun _ _ b=>(d-b).toNat,⟨0,rfl,by omega,rfl,⟨(emp_u 0).1,emp_lt 0⟩,rfl⟩,?_⟩;rintro _ x _ ⟨i,rfl,hi,rfl,hx,hg⟩;refine⟨fun e J1 j=> ?_,fun e=> ?_⟩
 ·have e:i<d:=by have:=qb e;omega
  have hs:i<p0.wh.length:=by omega
  have hxl:=u _ (qal hs);generalize hR:rootGo p0 d 0 (emp 0) (emp 0)=R at hg ⊢;rw[show d-i=d-(i+1)+1 by omega]at hg;unfold rootGo at hg;rw[hn,qu]at hg;rw[bit1 n i qqo qqo];refine⟨by omega,fun e2=>⟨by omega,by omega,?_,?_⟩,fun e2=>⟨⟨⟨hx.1,by omega⟩,emp_u i⟩,?_⟩⟩
  ·rw[ix_get _ _ hs];exact⟨⟨hxl.1,by omega⟩,hx.1,by omega⟩
  ·have e2:((n/2^i%2:Nat):Int)=1:=by simpa using e2
   have hb:bitN n i=true:=by unfold bitN;generalize n/2^i%2=q at *;simp;omega
   rw[qh hb]at hg;refine j _ ⟨⟨emp_u i,emp_u i⟩,?_⟩;rw[inc_i64 _ qqo];exact⟨⟨i+1,rfl,by omega,rfl,⟨(kj _ _).1,k2a _ _⟩,hg.trans hR.symm⟩,by show((d:Int)-((i+1:Nat):Int)).toNat<((d:Int)-(i:Int)).toNat;omega⟩
  ·have e2:¬((n/2^i%2:Nat):Int)=1:=by simpa using e2
   have hb:¬bitN n i=true:=by unfold bitN;generalize n/2^i%2=q at *;simp;omega
   rw[qf hb]at hg;refine j _ ⟨⟨emp_u i,emp_u i⟩,?_⟩;rw[inc_i64 _ qqo];exact⟨⟨i+1,rfl,by omega,rfl,⟨(kj _ _).1,k2a _ _⟩,hg.trans hR.symm⟩,by show((d:Int)-((i+1:Nat):Int)).toNat<((d:Int)-(i:Int)).toNat;omega⟩
 ·have e:d=i:=by have:=qc e;omega
  subst e;rw[Nat.sub_self]at hg;exact hg
noncomputable def ke3:Con TB.den:= .b ⟨23,[.one (.ptr 0 0),.agg yK1],yM,(.one (.one (zqi))),yL,false⟩ [.st 3,yqi,yqi,yqi,yqi,yqi,yqu,yqi,yqi,yqu,yqi,yqi,.sl yqu,.sl (.st 9),yqu,.sl yqu,.sl yqu,.sl (.st 10),.sl yqu,.sl (.bool)] [yqi,yqi,yqi,yqi,yqi,yqi,yqu,yqi,yqi,yqu,yqi,yqi,.sl yqu,.sl (.st 9),yqu,.sl yqu,.sl (.bool),.sl yqu,.sl yqu,.sl (.st 10)] fun(p1:wI) (Ad Aa Ae Ab Am Ao Ag Aj Ah Ai Ak:Int) (Ac:Li) (Af:List wA) (Al:Int) (w1 w3:Li) (w4:List wK) (w5k:Li) (w5v:Lo)=>((∃c:Nat,c+p1.Txs.length<=790/\PI (PS.mk (wE.mk Ad Aa Ae Ab Am Ao Ag Aj Ah) (wG.mk Ai Ak Ac) Af Al w1 w3 w4 w5k w5v) c 0)/\BR' p1,applyS (PS.mk (wE.mk Ad Aa Ae Ab Am Ao Ag Aj Ah) (wG.mk Ai Ak Ac) Af Al w1 w3 w4 w5k w5v) p1,fun R=>(R.e,R.s.R.wb,R.s.R.wC,R.s.R.wR,R.s.R.wO,R.s.R.wN,R.s.R.wV,R.s.R.wc,R.s.R.wU,R.s.R.wW,R.s.F.wC,R.s.F.we,R.s.F.wh,R.s.b,R.s.n,R.s.k,R.s.v,R.s.l,R.s.r,R.s.p,()))
abbrev k2f (R:PE) (o0 o1 o2 o3 o4 o5 o6 o7 o8 o9 o10 o11:Int) (o12:Li) (o13:List wA) (o14:Int) (o15:Li) (o16:Lo) (o17 o18:Li) (o19:List wK):Prop:=o0=R.e/\o1=R.s.R.wb/\o2=R.s.R.wC/\o3=R.s.R.wR/\o4=R.s.R.wO/\o5=R.s.R.wN/\o6=R.s.R.wV/\o7=R.s.R.wc/\o8=R.s.R.wU/\o9=R.s.R.wW/\o10=R.s.F.wC/\o11=R.s.F.we/\o12=R.s.F.wh/\o13=R.s.b/\o14=R.s.n/\o15=R.s.k/\o16=R.s.v/\o17=R.s.l/\o18=R.s.r/\o19=R.s.p
theorem k3h:ke3.Ok Tryz.prog TB:=pbx Bs [61,62,75,76] Tryz.func23 (.r 0 (.nd [] (.r 0 (.nd [] (.r 0 (.rt [.trimc 0 12,.trimc 0 16,.trimc 0 17])) [] .no)) [] (.nd [] (.r 0 (.nd [] (.r 0 (.rt [.trimc 0 12,.trimc 0 16,.trimc 0 17])) [] .no)) [] (.r 1 (.nd [] (.nd [.tokc 439 4 yqu] .no [] (.r 0 (.nd [] (.r 1 (.rt [.trimc 0 12,.trimc 0 16,.trimc 0 17])) [] .no))) [] .no))))) x0 (kbg.c (k4p.c (k2o.c c0))) (Q:=∀(p1:wI) (Ad Aa Ae Ab Am Ao Ag Aj Ah Ai Ak:Int) (Ac:Li) (Af:List wA) (Al:Int) (w1 w3:Li) (w4:List wK) (w5k:Li) (w5v:Lo),((∃c:Nat,c+p1.Txs.length<=790/\PI (PS.mk (wE.mk Ad Aa Ae Ab Am Ao Ag Aj Ah) (wG.mk Ai Ak Ac) Af Al w1 w3 w4 w5k w5v) c 0)/\BR' p1)->∀R,applyS (PS.mk (wE.mk Ad Aa Ae Ab Am Ao Ag Aj Ah) (wG.mk Ai Ak Ac) Af Al w1 w3 w4 w5k w5v) p1=R-> 
let v1:Bool:=(p1.wM !=(i64.wrap ((w4.length:Int)+1)))
(v1=true->
lz w1/\lz w3/\lz w4/\lz w4/\lz w3/\lz w1/\k2f R 18 Ad Aa Ae Ab Am Ao Ag Aj Ah Ai Ak Ac Af Al w5k w5v w1 w3 w4)/\
(v1=false->
(decide (18446744069414584321<=p1.wAl)=true->
lz w1/\lz w3/\lz w4/\lz w4/\lz w3/\lz w1/\k2f R 1 Ad Aa Ae Ab Am Ao Ag Aj Ah Ai Ak Ac Af Al w5k w5v w1 w3 w4)/\
(decide (18446744069414584321<=p1.wAl)=false->
(([]:Li)=([]:Li))/\lz w4/\lz w3/\lz w1/\((∃c:Nat,c+p1.Txs.length<=790/\PI (PS.mk (wE.mk Ad Aa Ae Ab Am Ao Ag Aj Ah) (wG.mk Ai Ak Ac) Af Al w1 w3 w4 w5k w5v) c 0)/\BR' p1/\([]:Li)=[])/\let r2:=blkS (PS.mk (wE.mk Ad Aa Ae Ab Am Ao Ag Aj Ah) (wG.mk Ai Ak Ac) Af Al w1 w3 w4 w5k w5v) ([]:Li) p1
let r3:=(blkS (PS.mk (wE.mk Ad Aa Ae Ab Am Ao Ag Aj Ah) (wG.mk Ai Ak Ac) Af Al w1 w3 w4 w5k w5v) ([]:Li) p1).s
((r2.e !=0)=true->
lz r3.p/\lz r3.r/\lz r3.l/\(r3.v=trs r3.k/\(wK.mk Ai Ak Ac (w1.length:Int) r2.m Af Al).marks.length<=1000000/\0<=(wK.mk Ai Ak Ac (w1.length:Int) r2.m Af Al).leaves/\(wK.mk Ai Ak Ac (w1.length:Int) r2.m Af Al).leaves<=(r3.l.length:Int))/\let r4:=wK.mk Ai Ak Ac (w1.length:Int) r2.m Af Al
let r5:Int:=((wK.mk Ai Ak Ac (w1.length:Int) r2.m Af Al).leaves.toNat:Int)
let r6:Li:=((remS (wK.mk Ai Ak Ac (w1.length:Int) r2.m Af Al).marks r3.k).2)
let r7:Lo:=(trs (remS (wK.mk Ai Ak Ac (w1.length:Int) r2.m Af Al).marks r3.k).2)
(0:Int).toNat=0/\r5.toNat<=r3.l.length/\lz r3.r/\lz r3.p/\lz r3.p/\lz r3.r/\lz (r3.l.take r5.toNat)/\k2f R r2.e r3.R.wb r3.R.wC r3.R.wR r3.R.wO r3.R.wN r3.R.wV r3.R.wc r3.R.wU r3.R.wW r4.wBI r4.wBJ r4.wBL r4.wBA r4.hidden r6 r7 (r3.l.take r5.toNat) r3.r r3.p)/\
((r2.e !=0)=false->
let v8:List wK:=[wK.mk Ai Ak Ac (w1.length:Int) r2.m Af Al]
lz r3.p/\lz v8/\(r3.p.length+v8.length)*104<=140737488355328/\r3.p.length+v8.length<=maxLen/\(FV r3.F)/\lz r3.r/\lz [(rootF r3.F)]/\(r3.r.length+[(rootF r3.F)].length)*8<=140737488355328/\r3.r.length+[(rootF r3.F)].length<=maxLen/\lz (r3.p++v8)/\lz (r3.r++[(rootF r3.F)])/\lz r3.l/\k2f R 0 r3.R.wb r3.R.wC r3.R.wR r3.R.wO r3.R.wN r3.R.wV r3.R.wc r3.R.wU r3.R.wW r3.F.wC r3.F.we r3.F.wh r3.b r3.n r3.k r3.v r3.l (r3.r++[(rootF r3.F)]) (r3.p++v8)))))<|by
 rintro p1 Ad Aa Ae Ab Am Ao Ag Aj Ah Ai Ak Ac Af Al w1 w3 w4 w5k w5v h R hR;obtain⟨⟨c,hc,hp⟩,hb⟩:=h;have hB:=blkS_BI hp qqo hb;have hml:=blkS_ml (PS.mk (wE.mk Ad Aa Ae Ab Am Ao Ag Aj Ah) (wG.mk Ai Ak Ac) Af Al w1 w3 w4 w5k w5v) p1;have hQ:=kka hB hp.v;have hpl:w4.length<=c:=hp.p;have hrl:w3.length=w4.length+1:=hp.rl;unfold applyS at hR;generalize hx:blkS (PS.mk (wE.mk Ad Aa Ae Ab Am Ao Ag Aj Ah) (wG.mk Ai Ak Ac) Af Al w1 w3 w4 w5k w5v) [] p1=x at hB hml hQ hR;simp only at hR;have ei:i64.wrap ((w4.length:Int)+1)=(w4.length:Int)+1:=ko _ qqo qqo;rw[ei];refine⟨fun e=> ?_,fun e=>⟨fun e2=> ?_,fun e2=>⟨(by first|exact rfl|exact qm),rfl,rfl,rfl,⟨⟨c,hc,hp⟩,hb,rfl⟩,fun e3=> ?_,fun e3=> ?_⟩⟩⟩
 ·have e:p1.wM≠(w4.length:Int)+1:=by simpa using e
  rw[qh e]at hR;subst hR;exact(by repeat' first|apply qt|exact rfl|exact qm)
 ·have e:¬p1.wM≠(w4.length:Int)+1:=by simpa using e
  rw[qf e,qh (qb e2)]at hR;subst hR;exact(by repeat' first|apply qt|exact rfl|exact qm)
 ·have e:¬p1.wM≠(w4.length:Int)+1:=by simpa using e
  have e3:x.e≠0:=by simpa using e3
  rw[qf e,qf (qc e2),qh e3]at hR;subst hR;obtain⟨y,hy⟩:=hB.l;have hy:x.s.l=w1++y:=hy;have hR2:x.s.R=wE.mk Ad Aa Ae Ab Am Ao Ag Aj Ah:=hB.R;have hk2:(remS x.m x.s.k).2=w5k:=congrArg PS.k hQ;have hv2:trs (remS x.m x.s.k).2=w5v:=congrArg PS.v hQ;have hl2:x.s.l.take w1.length=w1:=by rw[hy];exact List.take_left
  have hr2:x.s.r=w3:=hB.r;have hp2:x.s.p=w4:=hB.p;refine⟨rfl,rfl,rfl,⟨hB.v,?_,?_,?_⟩,?_⟩
  ·show x.m.length<=1000000;omega
  ·show(0:Int)<=(w1.length:Int);omega
  ·show(w1.length:Int)<=(x.s.l.length:Int);rw[hy,qi];omega
  ·simp only[qu];rw[hR2,hk2,hl2,hr2,hp2];rw[hk2]at hv2;refine⟨(by first|exact rfl|exact qm),?_,?_⟩
   ·rw[hy,qi];omega
   ·rw[hv2];exact(by repeat' first|apply qt|exact rfl|exact qm)
 ·have e:¬p1.wM≠(w4.length:Int)+1:=by simpa using e
  have e3:x.e=0:=by simpa using e3
  rw[qf e,qf (qc e2),qf (fun hh=>hh e3)]at hR;subst hR;have hr2:x.s.r=w3:=hB.r;have hp2:x.s.p=w4:=hB.p;have hR2:x.s.R=wE.mk Ad Aa Ae Ab Am Ao Ag Aj Ah:=hB.R;have hfv:FV x.s.F:=by rw[hB.F];exact frF_FV (by rw[hR2];exact hp.d1) (by rw[hR2];exact hp.d2) hB.ll hB.lb
  rw[hr2,hp2];refine⟨rfl,rfl,?_,?_,hfv,rfl,rfl,?_,?_,(by repeat' first|apply qt|exact rfl|exact qm)⟩
  ·simp only[qr,qaq];omega
  ·simp only[qr,qaq];unfold maxLen;omega
  ·simp only[qr,qaq];omega
  ·simp only[qr,qaq];unfold maxLen;omega
noncomputable def kfv:Con TB.den:= .b ⟨94,[.one (.ptr 0 0)],yM,(.one (.one (.d (.bool)))),yL,false⟩ yT [.bool,yqi,yqi,yqi,yqi,yqi,yqu,yqi,yqi,yqu,yqi,yqi,.sl yqu,.sl (.st 9),yqu,.sl yqu,.sl (.bool),.sl yqu,.sl yqu,.sl (.st 10)] fun(Ad Aa Ae Ab Am Ao Ag Aj Ah Ai Ak:Int) (Ac:Li) (Af:List wA) (Al:Int) (w1 w3:Li) (w4:List wK) (w5k:Li) (w5v:Lo)=>(UOk (PS.mk (wE.mk Ad Aa Ae Ab Am Ao Ag Aj Ah) (wG.mk Ai Ak Ac) Af Al w1 w3 w4 w5k w5v),undoS (PS.mk (wE.mk Ad Aa Ae Ab Am Ao Ag Aj Ah) (wG.mk Ai Ak Ac) Af Al w1 w3 w4 w5k w5v),fun R=>(((decide (w4≠[])):Bool),R.R.wb,R.R.wC,R.R.wR,R.R.wO,R.R.wN,R.R.wV,R.R.wc,R.R.wU,R.R.wW,R.F.wC,R.F.we,R.F.wh,R.b,R.n,R.k,R.v,R.l,R.r,R.p,()))
theorem khy:kfv.Ok Tryz.prog TB:=pbv Bs Tryz.func94 (.r 1 (.nd [] (.r 0 (.nd [] (.r 0 (.rt [.trimc 0 12,.trimc 0 16,.trimc 0 17])) [] .no)) [] (.r 4 (.rt [.trimc 0 12,.trimc 0 16,.trimc 0 17])))) (k4p.c c0) (Q:=∀(Ad Aa Ae Ab Am Ao Ag Aj Ah Ai Ak:Int) (Ac:Li) (Af:List wA) (Al:Int) (w1 w3:Li) (w4:List wK) (w5k:Li) (w5v:Lo),(UOk (PS.mk (wE.mk Ad Aa Ae Ab Am Ao Ag Aj Ah) (wG.mk Ai Ak Ac) Af Al w1 w3 w4 w5k w5v))->∀R,undoS (PS.mk (wE.mk Ad Aa Ae Ab Am Ao Ag Aj Ah) (wG.mk Ai Ak Ac) Af Al w1 w3 w4 w5k w5v)=R-> 
(((w4.length:Int)==0)=true->
lz w1/\lz w3/\lz w4/\lz w4/\lz w3/\lz w1/\false=(decide (w4≠[]))/\Ad=R.R.wb/\Aa=R.R.wC/\Ae=R.R.wR/\Ab=R.R.wO/\Am=R.R.wN/\Ao=R.R.wV/\Ag=R.R.wc/\Aj=R.R.wU/\Ah=R.R.wW/\Ai=R.F.wC/\Ak=R.F.we/\Ac=R.F.wh/\Af=R.b/\Al=R.n/\w5k=R.k/\w5v=R.v/\w1=R.l/\w3=R.r/\w4=R.p)/\
(((w4.length:Int)==0)=false->
(0<=i64.wrap ((w4.length:Int)-1)/\i64.wrap ((w4.length:Int)-1)<(w4.length:Int))/\(0<=i64.wrap ((w4.length:Int)-1)/\i64.wrap ((w4.length:Int)-1)<(w4.length:Int))/\lz w4/\lz w3/\lz w1/\(w5v=trs w5k/\(ix w4 (i64.wrap ((w4.length:Int)-1))).marks.length<=1000000/\0<=(ix w4 (i64.wrap ((w4.length:Int)-1))).leaves/\(ix w4 (i64.wrap ((w4.length:Int)-1))).leaves<=(w1.length:Int))/\let r1:=ix w4 (i64.wrap ((w4.length:Int)-1))
let r2:Int:=((ix w4 (i64.wrap ((w4.length:Int)-1))).leaves.toNat:Int)
let r3:Li:=((remS (ix w4 (i64.wrap ((w4.length:Int)-1))).marks w5k).2)
let r4:Lo:=(trs (remS (ix w4 (i64.wrap ((w4.length:Int)-1))).marks w5k).2)
(0<=i64.wrap ((w4.length:Int)-1)/\i64.wrap ((w4.length:Int)-1)<(w4.length:Int))/\(0<=i64.wrap ((w4.length:Int)-1)/\i64.wrap ((w4.length:Int)-1)<(w4.length:Int))/\(0<=i64.wrap ((w4.length:Int)-1))/\i64.wrap ((w4.length:Int)-1)<=(w4.length:Int)/\(0<=i64.wrap ((w3.length:Int)-1))/\i64.wrap ((w3.length:Int)-1)<=(w3.length:Int)/\(0:Int).toNat=0/\r2.toNat<=w1.length/\0=0/\(i64.wrap ((w3.length:Int)-1)).toNat<=w3.length/\0=0/\(i64.wrap ((w4.length:Int)-1)).toNat<=(w4.set (i64.wrap ((w4.length:Int)-1)).toNat (wK.mk 0 0 ([]:Li) 0 ([]:Li) ([]:List wA) 0)).length/\lz ((w4.set (i64.wrap ((w4.length:Int)-1)).toNat (wK.mk 0 0 ([]:Li) 0 ([]:Li) ([]:List wA) 0)).take ((i64.wrap ((w4.length:Int)-1)).toNat))/\lz (w3.take ((i64.wrap ((w3.length:Int)-1)).toNat))/\lz (w1.take r2.toNat)/\true=(decide (w4≠[]))/\Ad=R.R.wb/\Aa=R.R.wC/\Ae=R.R.wR/\Ab=R.R.wO/\Am=R.R.wN/\Ao=R.R.wV/\Ag=R.R.wc/\Aj=R.R.wU/\Ah=R.R.wW/\r1.wBI=R.F.wC/\r1.wBJ=R.F.we/\r1.wBL=R.F.wh/\r1.wBA=R.b/\r1.hidden=R.n/\r3=R.k/\r4=R.v/\w1.take r2.toNat=R.l/\w3.take ((i64.wrap ((w3.length:Int)-1)).toNat)=R.r/\(w4.set (i64.wrap ((w4.length:Int)-1)).toNat (wK.mk 0 0 ([]:Li) 0 ([]:Li) ([]:List wA) 0)).take ((i64.wrap ((w4.length:Int)-1)).toNat)=R.p))<|by
 rintro Ad Aa Ae Ab Am Ao Ag Aj Ah Ai Ak Ac Af Al w1 w3 w4 w5k w5v h R hR;have hv:w5v=trs w5k:=h.v;have hr1:1<=w3.length:=h.r;have hr2:w3.length<=1000000:=h.rl;have hpl:w4.length<=1000000:=h.pl;have hq:w4≠[]->(ix w4 ((w4.length:Int)-1)).marks.length<=1000000/\0<=(ix w4 ((w4.length:Int)-1)).leaves/\(ix w4 ((w4.length:Int)-1)).leaves<=(w1.length:Int):=h.q;unfold undoS at hR;simp only at hR;refine⟨fun e=> ?_,fun e=> ?_⟩
 ·have e:w4=[]:=by simpa using e
  rw[qh e]at hR;subst hR;rw[qby (fun hh=>hh e)];exact(by repeat' first|apply qt|exact rfl|exact qm)
 ·have e:¬w4=[]:=by simpa using e
  have hne:1<=w4.length:=qcz.2 e;rw[qf e]at hR;obtain⟨q1,q2,q3⟩:=hq e;have e1:i64.wrap ((w4.length:Int)-1)=((w4.length-1:Nat):Int):=by rw[ko _ qqo qqo];omega
  have e2:i64.wrap ((w3.length:Int)-1)=((w3.length-1:Nat):Int):=by rw[ko _ qqo qqo];omega
  have e3:((w4.length:Int)-1)=((w4.length-1:Nat):Int):=by omega
  rw[e3]at q1 q2 q3 hR;unfold resS at hR;subst hR;rw[e1,e2,qbr e];simp only[qu];rw[take_set'];refine⟨⟨by omega,by omega⟩,⟨by omega,by omega⟩,(by first|exact rfl|exact qm),(by first|exact rfl|exact qm),(by first|exact rfl|exact qm),⟨hv,q1,q2,q3⟩,⟨by omega,by omega⟩,⟨by omega,by omega⟩,by omega,by omega,by omega,by omega,(by first|exact rfl|exact qm),by omega,(by first|exact rfl|exact qm),by omega,(by first|exact rfl|exact qm),?_,(by repeat' first|apply qt|exact rfl|exact qm)⟩;rw[qde];omega
noncomputable def kg1:Con TB.den:= .b ⟨48,[.one (.ptr 0 0),.one (zql),.one (zql)],yB,(.tup []),yA,false⟩ (.sl yqu:: .sl yqu:: .int .i64:: .int .i64:: .int .i64:: .int .i64:: .int .i64:: .int .u64:: .int .i64:: .int .i64:: .int .u64:: .sl yqu:: .int .u64:: .int .i64:: .bool::yH) (.int .i64:: .int .i64:: .int .i64:: .int .i64:: .int .i64:: .int .u64:: .int .i64:: .int .i64:: .int .u64:: .sl yqu:: .int .u64:: .int .i64:: .bool::yI) fun(p1 p2:Li) (Aa Ae Ab Am Ao Ag Aj Ah Ai:Int) (Ac:Li) (Ap Af:Int) (At:Bool) (Au Av:Int) (As:List wB) (Bb Bc Bd Be Bf Bg Bh Bi Bj Bk Az:Int) (A0:Li) (A7:List wA) (A8:Int) (w2k:Li) (w2v:List wL) (w4k:Lb) (w4v:Li) (w5k:Lb) (w5v:List (Li)) (w6k:Lb) (w6v:Lo) (w7 w9:Li) (w10:List wK) (w11k:Li) (w11v:Lo)=>(w2k.length=w2v.length/\MvOk w2k w2v (PS.mk (wE.mk Bb Bc Bd Be Bf Bg Bh Bi Bj) (wG.mk Bk Az A0) A7 A8 w7 w9 w10 w11k w11v) p1.length p2,mvS w2k w2v (PS.mk (wE.mk Bb Bc Bd Be Bf Bg Bh Bi Bj) (wG.mk Bk Az A0) A7 A8 w7 w9 w10 w11k w11v) p1.length p2,fun R=>(Aa,Ae,Ab,Am,Ao,Ag,Aj,Ah,Ai,Ac,Ap,Af,At,Au,Av,As,R.R.wb,R.R.wC,R.R.wR,R.R.wO,R.R.wN,R.R.wV,R.R.wc,R.R.wU,R.R.wW,R.F.wC,R.F.we,R.F.wh,R.b,R.n,w2k,w2v,w4k,w4v,w5k,w5v,w6k,w6v,R.k,R.v,R.l,R.r,R.p,()))
abbrev Fz3 (r:Type):=Int->Int->Int->Int->Int->Int->Int->Int->Int->Int->Int->Int->(Li)->(List wA)->Int->(Li)->(Lo)->(Li)->(Li)->(List wK)->r
theorem ki6:kg1.Ok Tryz.prog TB:=pbv Bs Tryz.func48 (.nd [] (.nd [.trimc 3 17,.trimc 3 16,.trimc 3 12] .no [] (.lp [] ⟨[11,8,3],yN,[10],[.one (zqi)],[12,13,14]⟩ .no)) [] (.r 0 (.lp [] ⟨[11,8,3],yN,[20],[.one (zqi)],[15,16,17]⟩ .no))) (khy.c (k3h.c c0)) (Q:=∀(p1 p2:Li) (Aa Ae Ab Am Ao Ag Aj Ah Ai:Int) (Ac:Li) (Ap Af:Int) (At:Bool) (Au Av:Int) (As:List wB) (Bb Bc Bd Be Bf Bg Bh Bi Bj Bk Az:Int) (A0:Li) (A7:List wA) (A8:Int) (w2k:Li) (w2v:List wL) (w4k:Lb) (w4v:Li) (w5k:Lb) (w5v:List (Li)) (w6k:Lb) (w6v:Lo) (w7 w9:Li) (w10:List wK) (w11k:Li) (w11v:Lo),(w2k.length=w2v.length/\MvOk w2k w2v (PS.mk (wE.mk Bb Bc Bd Be Bf Bg Bh Bi Bj) (wG.mk Bk Az A0) A7 A8 w7 w9 w10 w11k w11v) p1.length p2)->∀R,mvS w2k w2v (PS.mk (wE.mk Bb Bc Bd Be Bf Bg Bh Bi Bj) (wG.mk Bk Az A0) A7 A8 w7 w9 w10 w11k w11v) p1.length p2=R-> 
lz w10/\lz w9/\lz w7/\lz w10/\lz w9/\lz w7/\∃(I1:Fz3 Prop) (M1:Fz3 Nat),I1 0 Bb Bc Bd Be Bf Bg Bh Bi Bj Bk Az A0 A7 A8 w11k w11v w7 w9 w10/\∀b1 f1 i1 k1 l1 m1 n1 o1 q1 s1 t1 u1 x1 y1 b2 f2 i2 k2 l2 m2,(I1 b1 f1 i1 k1 l1 m1 n1 o1 q1 s1 t1 u1 x1 y1 b2 f2 i2 k2 l2 m2->
(decide (b1<(p1.length:Int))=true->
lz m2/\lz l2/\lz k2/\(UOk (PS.mk (wE.mk f1 i1 k1 l1 m1 n1 o1 q1 s1) (wG.mk t1 u1 x1) y1 b2 k2 l2 m2 f2 i2))/\let r1:=undoS (PS.mk (wE.mk f1 i1 k1 l1 m1 n1 o1 q1 s1) (wG.mk t1 u1 x1) y1 b2 k2 l2 m2 f2 i2)
lz r1.p/\lz r1.r/\lz r1.l/\I1 (i64.wrap (b1+1)) r1.R.wb r1.R.wC r1.R.wR r1.R.wO r1.R.wN r1.R.wV r1.R.wc r1.R.wU r1.R.wW r1.F.wC r1.F.we r1.F.wh r1.b r1.n r1.k r1.v r1.l r1.r r1.p/\M1 (i64.wrap (b1+1)) r1.R.wb r1.R.wC r1.R.wR r1.R.wO r1.R.wN r1.R.wV r1.R.wc r1.R.wU r1.R.wW r1.F.wC r1.F.we r1.F.wh r1.b r1.n r1.k r1.v r1.l r1.r r1.p<M1 b1 f1 i1 k1 l1 m1 n1 o1 q1 s1 t1 u1 x1 y1 b2 f2 i2 k2 l2 m2)/\
(decide (b1<(p1.length:Int))=false->
lz m2/\lz l2/\lz k2/\∃(I2:Fz3 Prop) (M2:Fz3 Nat),I2 0 f1 i1 k1 l1 m1 n1 o1 q1 s1 t1 u1 x1 y1 b2 f2 i2 k2 l2 m2/\∀n2 o2 q2 s2 t2 u2 x2 y2 b3 f3 i3 k3 l3 m3 n3 o3 q3 s3 t3 u3,(I2 n2 o2 q2 s2 t2 u2 x2 y2 b3 f3 i3 k3 l3 m3 n3 o3 q3 s3 t3 u3->
(decide (n2<(p2.length:Int))=true->
(0<=n2)/\n2<(p2.length:Int)/\w2k.length=w2v.length/\let v2:wL:=mVal (BEq.beq (ix p2 n2)) w2k w2v (default:wL)
lz u3/\lz t3/\lz s3/\((∃c:Nat,c+(wI.mk v2.wAp v2.wAh v2.wAt v2.wAw v2.wAu v2.wAz).Txs.length<=790/\PI (PS.mk (wE.mk o2 q2 s2 t2 u2 x2 y2 b3 f3) (wG.mk i3 k3 l3) m3 n3 s3 t3 u3 o3 q3) c 0)/\BR' (wI.mk v2.wAp v2.wAh v2.wAt v2.wAw v2.wAu v2.wAz))/\let r3:Int:=((applyS (PS.mk (wE.mk o2 q2 s2 t2 u2 x2 y2 b3 f3) (wG.mk i3 k3 l3) m3 n3 s3 t3 u3 o3 q3) (wI.mk v2.wAp v2.wAh v2.wAt v2.wAw v2.wAu v2.wAz)).e)
let r4:=(applyS (PS.mk (wE.mk o2 q2 s2 t2 u2 x2 y2 b3 f3) (wG.mk i3 k3 l3) m3 n3 s3 t3 u3 o3 q3) (wI.mk v2.wAp v2.wAh v2.wAt v2.wAw v2.wAu v2.wAz)).s
lz r4.p/\lz r4.r/\lz r4.l/\I2 (i64.wrap (n2+1)) r4.R.wb r4.R.wC r4.R.wR r4.R.wO r4.R.wN r4.R.wV r4.R.wc r4.R.wU r4.R.wW r4.F.wC r4.F.we r4.F.wh r4.b r4.n r4.k r4.v r4.l r4.r r4.p/\M2 (i64.wrap (n2+1)) r4.R.wb r4.R.wC r4.R.wR r4.R.wO r4.R.wN r4.R.wV r4.R.wc r4.R.wU r4.R.wW r4.F.wC r4.F.we r4.F.wh r4.b r4.n r4.k r4.v r4.l r4.r r4.p<M2 n2 o2 q2 s2 t2 u2 x2 y2 b3 f3 i3 k3 l3 m3 n3 o3 q3 s3 t3 u3)/\
(decide (n2<(p2.length:Int))=false->
lz u3/\lz t3/\lz s3/\Aa=Aa/\Ae=Ae/\Ab=Ab/\Am=Am/\Ao=Ao/\Ag=Ag/\Aj=Aj/\Ah=Ah/\Ai=Ai/\Ac=Ac/\Ap=Ap/\Af=Af/\At=At/\Au=Au/\Av=Av/\As=As/\o2=R.R.wb/\q2=R.R.wC/\s2=R.R.wR/\t2=R.R.wO/\u2=R.R.wN/\x2=R.R.wV/\y2=R.R.wc/\b3=R.R.wU/\f3=R.R.wW/\i3=R.F.wC/\k3=R.F.we/\l3=R.F.wh/\m3=R.b/\n3=R.n/\w2k=w2k/\w2v=w2v/\w4k=w4k/\w4v=w4v/\w5k=w5k/\w5v=w5v/\w6k=w6k/\w6v=w6v/\o3=R.k/\q3=R.v/\s3=R.l/\t3=R.r/\u3=R.p)))))<|by
 rintro p1 p2 Aa Ae Ab Am Ao Ag Aj Ah Ai Ac Ap Af At Au Av As Bb Bc Bd Be Bf Bg Bh Bi Bj Bk Az A0 A7 A8 w2k w2v w4k w4v w5k w5v w6k w6v w7 w9 w10 w11k w11v h R hR;obtain⟨hkv,s0,c,lf,hA⟩:=h;have hR' :(auGo (p2.map (gB w2k w2v)) s0).s=R:=by rw[<-hR];unfold mvS;rw[hA.base]
 have hc:=hA.hc;have hn:=hA.hn;refine⟨rfl,rfl,rfl,rfl,rfl,rfl,(fun b f1 f2 f3 f4 f5 f6 f7 f8 f9 t1 t2 t3 y n k v l r p=>∃i:Nat,b=(i:Int)/\i<=p1.length/\PS.mk (wE.mk f1 f2 f3 f4 f5 f6 f7 f8 f9) (wG.mk t1 t2 t3) y n l r p k v=undoN i (PS.mk (wE.mk Bb Bc Bd Be Bf Bg Bh Bi Bj) (wG.mk Bk Az A0) A7 A8 w7 w9 w10 w11k w11v)),(fun b _ _ _ _ _ _ _ _ _ _ _ _ _ _ _ _ _ _ _=>(p1.length-b).toNat),⟨0,rfl,qav _,rfl⟩,?_⟩;rintro _ f1 f2 f3 f4 f5 f6 f7 f8 f9 t1 t2 t3 y n k v l r p ⟨i,rfl,hi,hS⟩;refine⟨fun e=> ?_,fun e=> ?_⟩
 ·have e:(i:Int)<p1.length:=qb e;refine⟨rfl,rfl,rfl,by rw[hS];exact hA.uok qqo,?_⟩;rw[inc (i:Int) p1.length qqo e qqo];refine⟨rfl,rfl,rfl,⟨i+1,rfl,by omega,?_⟩,by(first|omega|(dsimp only;omega))⟩;rw[k6o,<-hS]
 ·have e:¬(i:Int)<p1.length:=qc e;have hi:i=p1.length:=by omega
  rw[hi,hA.base]at hS;refine⟨rfl,rfl,rfl,(fun b f1 f2 f3 f4 f5 f6 f7 f8 f9 t1 t2 t3 y n k v l r p=>∃j:Nat,b=(j:Int)/\j<=p2.length/\PS.mk (wE.mk f1 f2 f3 f4 f5 f6 f7 f8 f9) (wG.mk t1 t2 t3) y n l r p k v=(auGo ((p2.take j).map (gB w2k w2v)) s0).s),(fun b _ _ _ _ _ _ _ _ _ _ _ _ _ _ _ _ _ _ _=>(p2.length-b).toNat),⟨0,rfl,qav _,hS⟩,?_⟩;rintro _ f1 f2 f3 f4 f5 f6 f7 f8 f9 t1 t2 t3 y n k v l r p ⟨j,rfl,hj,hT⟩;refine⟨fun e=> ?_,fun e=> ?_⟩
  ·have e:(j:Int)<p2.length:=qb e;have hjl:j<p2.length:=by omega
   obtain⟨g1,g2,g3,g4⟩:=hA.fwd hjl;have hx:ix p2 (j:Int)=p2[j]:=ix_get _ _ hjl;rw[hx,inc (j:Int) p2.length qqo e qqo];refine⟨by omega,e,hkv,rfl,rfl,rfl,⟨⟨c+5*j,?_,?_⟩,g2⟩,?_⟩
   ·show c+5*j+(gB w2k w2v p2[j]).Txs.length<=790;omega
   ·rw[hT];exact g1
   ·refine⟨rfl,rfl,rfl,⟨j+1,rfl,by omega,?_⟩,by(first|omega|(dsimp only;omega))⟩;rw[g4,<-hT];rfl
  ·have e:¬(j:Int)<p2.length:=qc e;rw[qx qqo,hR']at hT;subst hT;exact(by repeat' first|apply qt|exact rfl|exact qm)
noncomputable def kcc:Con TB.den:= .g (gk 45 [.one (.ptr 0 0),.agg yK1] yB (.one (.one (zqi)))) (.st 3:: .int .i64:: .int .i64:: .int .i64:: .int .i64:: .int .i64:: .int .u64:: .int .i64:: .int .i64:: .int .u64:: .sl yqu:: .int .u64:: .int .i64:: .bool::yH) (.int .i64:: .int .i64:: .int .i64:: .int .i64:: .int .i64:: .int .i64:: .int .u64:: .int .i64:: .int .i64:: .int .u64:: .sl yqu:: .int .u64:: .int .i64:: .bool::yH) [] fun(p1:wI) (Aa Ae Ab Am Ao Ag Aj Ah Ai:Int) (Ac:Li) (Ap Af:Int) (At:Bool) (Au Av:Int) (As:List wB) (Bb Bc Bd Be Bf Bg Bh Bi Bj Bk Az:Int) (A0:Li) (A7:List wA) (A8:Int) (w2k:Li) (w2v:List wL) (w4k:Lb) (w4v:Li) (w5k:Lb) (w5v:List (Li)) (w6k:Lb) (w6v:Lo) (w7 w9:Li) (w10:List wK) (w11k:Li) (w11v:Lo)=>(w2k.length=w2v.length,(parS w2k w2v p1:Int),Aa,Ae,Ab,Am,Ao,Ag,Aj,Ah,Ai,Ac,Ap,Af,At,Au,Av,As,Bb,Bc,Bd,Be,Bf,Bg,Bh,Bi,Bj,Bk,Az,A0,A7,A8,w2k,w2v,w4k,w4v,w5k,w5v,w6k,w6v,w7,w9,w10,w11k,w11v,())
theorem ket:kcc.Ok Tryz.prog TB:=prv Bs Tryz.func45 .no c0 (Q:=∀(p1:wI) (Aa Ae Ab Am Ao Ag Aj Ah Ai:Int) (Ac:Li) (Ap Af:Int) (At:Bool) (Au Av:Int) (As:List wB) (Bb Bc Bd Be Bf Bg Bh Bi Bj Bk Az:Int) (A0:Li) (A7:List wA) (A8:Int) (w2k:Li) (w2v:List wL) (w4k:Lb) (w4v:Li) (w5k:Lb) (w5v:List (Li)) (w6k:Lb) (w6v:Lo) (w7 w9:Li) (w10:List wK) (w11k:Li) (w11v:Lo),(w2k.length=w2v.length)->∀r0:Int,parS w2k w2v p1=r0->∀Aq:Int,Aa=Aq->∀Aw:Int,Ae=Aw->∀Ax:Int,Ab=Ax->∀B0:Int,Am=B0->∀B1:Int,Ao=B1->∀Bl:Int,Ag=Bl->∀Bm:Int,Aj=Bm->∀Bn:Int,Ah=Bn->∀Bo:Int,Ai=Bo->∀A9:Li,Ac=A9->∀Bz:Int,Ap=Bz->∀Ba:Int,Af=Ba->∀B6:Bool,At=B6->∀B7:Int,Au=B7->∀B8:Int,Av=B8->∀B9:List wB,As=B9->∀Ca:Int,Bb=Ca->∀Cb:Int,Bc=Cb->∀Cc:Int,Bd=Cc->∀Cd:Int,Be=Cd->∀Ce:Int,Bf=Ce->∀Cf:Int,Bg=Cf->∀Cg:Int,Bh=Cg->∀Ch:Int,Bi=Ch->∀Ci:Int,Bj=Ci->∀Cj:Int,Bk=Cj->∀B2:Int,Az=B2->∀B3:Li,A0=B3->∀B4:List wA,A7=B4->∀B5:Int,A8=B5->∀e2k:Li,w2k=e2k->∀e2v:List wL,w2v=e2v->∀e4k:Lb,w4k=e4k->∀e4v:Li,w4v=e4v->∀e5k:Lb,w5k=e5k->∀e5v:List (Li),w5v=e5v->∀e6k:Lb,w6k=e6k->∀e6v:Lo,w6v=e6v->∀e7:Li,w7=e7->∀e9:Li,w9=e9->∀e10:List wK,w10=e10->∀e11k:Li,w11k=e11k->∀e11v:Lo,w11v=e11v-> 
((p1.wM==1)=true->
((p1.wm !=0)=true->
lz w10/\lz w9/\lz w7/\18=r0/\Aa=Aq/\Ae=Aw/\Ab=Ax/\Am=B0/\Ao=B1/\Ag=Bl/\Aj=Bm/\Ah=Bn/\Ai=Bo/\Ac=A9/\Ap=Bz/\Af=Ba/\At=B6/\Au=B7/\Av=B8/\As=B9/\Bb=Ca/\Bc=Cb/\Bd=Cc/\Be=Cd/\Bf=Ce/\Bg=Cf/\Bh=Cg/\Bi=Ch/\Bj=Ci/\Bk=Cj/\Az=B2/\A0=B3/\A7=B4/\A8=B5/\w2k=e2k/\w2v=e2v/\w4k=e4k/\w4v=e4v/\w5k=e5k/\w5v=e5v/\w6k=e6k/\w6v=e6v/\w7=e7/\w9=e9/\w10=e10/\w11k=e11k/\w11v=e11v)/\
((p1.wm !=0)=false->
lz w10/\lz w9/\lz w7/\0=r0/\Aa=Aq/\Ae=Aw/\Ab=Ax/\Am=B0/\Ao=B1/\Ag=Bl/\Aj=Bm/\Ah=Bn/\Ai=Bo/\Ac=A9/\Ap=Bz/\Af=Ba/\At=B6/\Au=B7/\Av=B8/\As=B9/\Bb=Ca/\Bc=Cb/\Bd=Cc/\Be=Cd/\Bf=Ce/\Bg=Cf/\Bh=Cg/\Bi=Ch/\Bj=Ci/\Bk=Cj/\Az=B2/\A0=B3/\A7=B4/\A8=B5/\w2k=e2k/\w2v=e2v/\w4k=e4k/\w4v=e4v/\w5k=e5k/\w5v=e5v/\w6k=e6k/\w6v=e6v/\w7=e7/\w9=e9/\w10=e10/\w11k=e11k/\w11v=e11v))/\
((p1.wM==1)=false->
w2k.length=w2v.length/\let v1:wL:=mVal (BEq.beq p1.wm) w2k w2v (default:wL)
((!mHas (BEq.beq p1.wm) w2k)=true->
lz w10/\lz w9/\lz w7/\18=r0/\Aa=Aq/\Ae=Aw/\Ab=Ax/\Am=B0/\Ao=B1/\Ag=Bl/\Aj=Bm/\Ah=Bn/\Ai=Bo/\Ac=A9/\Ap=Bz/\Af=Ba/\At=B6/\Au=B7/\Av=B8/\As=B9/\Bb=Ca/\Bc=Cb/\Bd=Cc/\Be=Cd/\Bf=Ce/\Bg=Cf/\Bh=Cg/\Bi=Ch/\Bj=Ci/\Bk=Cj/\Az=B2/\A0=B3/\A7=B4/\A8=B5/\w2k=e2k/\w2v=e2v/\w4k=e4k/\w4v=e4v/\w5k=e5k/\w5v=e5v/\w6k=e6k/\w6v=e6v/\w7=e7/\w9=e9/\w10=e10/\w11k=e11k/\w11v=e11v)/\
((!mHas (BEq.beq p1.wm) w2k)=false->
let v2:Bool:=(v1.wAh !=(i64.wrap (p1.wM-1)))
(v2=true->
lz w10/\lz w9/\lz w7/\18=r0/\Aa=Aq/\Ae=Aw/\Ab=Ax/\Am=B0/\Ao=B1/\Ag=Bl/\Aj=Bm/\Ah=Bn/\Ai=Bo/\Ac=A9/\Ap=Bz/\Af=Ba/\At=B6/\Au=B7/\Av=B8/\As=B9/\Bb=Ca/\Bc=Cb/\Bd=Cc/\Be=Cd/\Bf=Ce/\Bg=Cf/\Bh=Cg/\Bi=Ch/\Bj=Ci/\Bk=Cj/\Az=B2/\A0=B3/\A7=B4/\A8=B5/\w2k=e2k/\w2v=e2v/\w4k=e4k/\w4v=e4v/\w5k=e5k/\w5v=e5v/\w6k=e6k/\w6v=e6v/\w7=e7/\w9=e9/\w10=e10/\w11k=e11k/\w11v=e11v)/\
(v2=false->
lz w10/\lz w9/\lz w7/\0=r0/\Aa=Aq/\Ae=Aw/\Ab=Ax/\Am=B0/\Ao=B1/\Ag=Bl/\Aj=Bm/\Ah=Bn/\Ai=Bo/\Ac=A9/\Ap=Bz/\Af=Ba/\At=B6/\Au=B7/\Av=B8/\As=B9/\Bb=Ca/\Bc=Cb/\Bd=Cc/\Be=Cd/\Bf=Ce/\Bg=Cf/\Bh=Cg/\Bi=Ch/\Bj=Ci/\Bk=Cj/\Az=B2/\A0=B3/\A7=B4/\A8=B5/\w2k=e2k/\w2v=e2v/\w4k=e4k/\w4v=e4v/\w5k=e5k/\w5v=e5v/\w6k=e6k/\w6v=e6v/\w7=e7/\w9=e9/\w10=e10/\w11k=e11k/\w11v=e11v))))<|by
 rintro p1 Aa Ae Ab Am Ao Ag Aj Ah Ai Ac Ap Af At Au Av As Bb Bc Bd Be Bf Bg Bh Bi Bj Bk Az A0 A7 A8 w2k w2v w4k w4v w5k w5v w6k w6v w7 w9 w10 w11k w11v h;repeat rintro _ rfl
 unfold parS;refine⟨fun e=> ?_,fun e=> ?_⟩
 ·rw[qh (by simpa using e)];refine⟨fun e2=> ?_,fun e2=> ?_⟩
  ·rw[qh (by simpa using e2)];exact(by repeat' first|apply qt|exact rfl|exact qm)
  ·rw[qf (by simpa using e2)];exact(by repeat' first|apply qt|exact rfl|exact qm)
 ·rw[qf (by simpa using e)];refine⟨h,?_⟩;refine⟨fun e2=> ?_,fun e2=>⟨fun e3=> ?_,fun e3=> ?_⟩⟩
  ·rw[qh (.inl (by simpa using e2))];exact(by repeat' first|apply qt|exact rfl|exact qm)
  ·rw[qh (.inr (bne_iff_ne.1 e3))];exact(by repeat' first|apply qt|exact rfl|exact qm)
  ·have e2:mHas (BEq.beq p1.wm) w2k=true:=by simpa using e2
   rw[qf (fun hh=>hh.elim (fun h2=>by rw[e2]at h2;cases h2) (fun h2=>h2 (bne_eq_false_iff_eq.1 e3)))];exact(by repeat' first|apply qt|exact rfl|exact qm)
noncomputable def k68:Con TB.den:= .g (gk 105 [.one (.own 0),.one (zqu),.one (zqi)] [.tip yqb] (.one (.one (.own 0)))) [yqu,yqi,.sl yqb] [.sl yqb] [] fun(p1 p2:Int) (w0:Li)=>(U64 p1/\(0<=p2/\p2<=8)/\w0.length<=137438953472,(w0++dig p2.toNat p1:Li),())
theorem k21:k68.Ok Tryz.prog TB:=prv Bs Tryz.func105 (.r 0 (.nd [] (.r 0 (.lp [] ⟨[0],[.tip yqb],[0,1,8],[.one (.own 0),.one (zqu),.one (zqi)],[]⟩ .no)) [] .no)) c0 (Q:=∀(p1 p2:Int) (w0:Li),(U64 p1/\(0<=p2/\p2<=8)/\w0.length<=137438953472)->∀e0:Li,(w0++dig p2.toNat p1)=e0-> 
(w0=w0)/\∃(I1:Int->Int->(Li)->Prop) (M1:Int->Int->(Li)->Nat),I1 p1 0 w0/\∀b1 f1 i1,(I1 b1 f1 i1->
(decide (f1<p2)=true->
lz i1/\(i1.length+[IntKind.u8.wrap b1].length)*1<=140737488355328/\i1.length+[IntKind.u8.wrap b1].length<=maxLen/\(i1++[IntKind.u8.wrap b1]=i1++[IntKind.u8.wrap b1])/\I1 (ishr .u64 b1 8) (i64.wrap (f1+1)) (i1++[IntKind.u8.wrap b1])/\M1 (ishr .u64 b1 8) (i64.wrap (f1+1)) (i1++[IntKind.u8.wrap b1])<M1 b1 f1 i1)/\
(decide (f1<p2)=false->
(i1=i1)/\i1=e0)))<|by
 rintro p1 p2 w0 h _ rfl;obtain⟨h1,h2,h3⟩:=h;refine⟨rfl,⟨(fun n i g=>0<=i/\i<=p2/\U64 n/\n=p1/256^i.toNat/\g=w0++dig i.toNat p1),(fun _ i _=>(p2-i).toNat),⟨by omega,by omega,h1,by simp,by simp[dig]⟩,?_⟩⟩;rintro n i g ⟨g0,g1,g2,g3,rfl⟩;refine⟨fun h=> ?_,fun h=> ?_⟩
 ·have h:=qb h;rw[inc i p2 g0 h qqo,ishr8,u8w];refine⟨rfl,?_,?_,rfl,⟨by omega,by omega,⟨by omega,by omega⟩,?_,?_⟩,by(dsimp only;omega)⟩
  ·simp;omega
  ·simp;unfold maxLen;omega
  ·rw[g3,show(i+1).toNat=i.toNat+1 by omega,qei (qef (k2v _)),qcp]
  ·rw[show(i+1).toNat=i.toNat+1 by omega,kbj,qw,g3]
 ·have h:=qc h;exact⟨rfl,by rw[show i=p2 by omega]⟩
noncomputable def k63:Con TB.den:= .g (gk 103 [.one (.own 0),.one (zqi)] [.tip yqb] (.one (.one (.own 0)))) [yqi,.sl yqb] [.sl yqb] [] fun(p1:Int) (w0:Li)=>((-9223372036854775808<=p1/\p1<=9223372036854775807)/\w0.length<=137438953472,(w0++dig 4 (len4 p1):Li),())
theorem k1v:k63.Ok Tryz.prog TB:=prv Bs Tryz.func103 (.r 0 (.jn ⟨[],[],[1],[.one (zqi)],[]⟩ [] .no [] .no)) (k21.c c0) (Q:=∀(p1:Int) (w0:Li),((-9223372036854775808<=p1/\p1<=9223372036854775807)/\w0.length<=137438953472)->∀e0:Li,(w0++dig 4 (len4 p1))=e0-> 
∀J1:Int->Prop,(∀(b1:Int),
((w0=w0)/\(U64 (u64.wrap b1)/\(0<=(4:Int)/\(4:Int)<=8)/\w0.length<=137438953472)/\let r1:Li:=(w0++dig (4:Int).toNat (u64.wrap b1))
(r1=r1)/\r1=e0)->J1 b1)->
(decide (p1<0)=true->
J1 0)/\
(decide (p1<0)=false->
(decide (4294967295<p1)=true->
J1 0)/\
(decide (4294967295<p1)=false->
J1 p1)))<|by
 rintro p1 w0 h _ rfl;obtain⟨h1,h2⟩:=h;intro J1 j1;have j:∀n,0<=n->n<=4294967295->len4 p1=n->J1 n:=by intro n h0 h1 e;refine j1 _ ?_;rw[wu n qqo qqo,e];exact⟨rfl,⟨⟨h0,by omega⟩,by omega,h2⟩,by trivial,rfl⟩
 refine⟨fun h=>j 0 qqo qqo ?_,fun h=>⟨fun h' =>j 0 qqo qqo ?_,fun h' =>j p1 ?_ ?_ ?_⟩⟩
 ·have h:=qb h;exact qh (.inl h)
 ·have h' :=qb h';exact qh (.inr h')
 ·have h:=qc h;omega
 ·have h' :=qc h';omega
 ·have h:=qc h;have h' :=qc h';exact len4_in ⟨by omega,by(first|omega|(dsimp only;omega))⟩
noncomputable def keb:Con TB.den:= .g ⟨104,[.one (.d (.sl yqb)),.one (zqi)],[],(.one (.one (.own 0))),[.tip yqb],false⟩ [.sl yqb,yqi] [.sl yqb] [] fun(p0:Li) (p1:Int)=>(0<=p1/\p0.length+p1<=140737488355328,p0,())
theorem k2g:keb.Ok Tryz.prog TB:=prv Bs Tryz.func104 (.r 3 (.rt [.frz 0 [4]])) c0 (Q:=∀(p0:Li) (p1:Int),(0<=p1/\p0.length+p1<=140737488355328)->∀e0:Li,p0=e0-> 
let v1:Int:=i64.wrap ((p0.length:Int)+p1)
0<=(p0.length:Int)/\(p0.length:Int)<=v1/\(v1.toNat*1<=140737488355328)/\(v1.toNat<=maxLen)/\(p0.length:Int).toNat=(List.replicate ((p0.length:Int).toNat) (0:Int)).length/\let v2:Int:=((min p0.length (List.replicate ((p0.length:Int).toNat) (0:Int)).length:Nat):Int)
((p0.length:Int).toNat=(rowOver (List.replicate ((p0.length:Int).toNat) (0:Int)) p0 (List.replicate ((p0.length:Int).toNat) (0:Int)).length).length)/\(rowOver (List.replicate ((p0.length:Int).toNat) (0:Int)) p0 (List.replicate ((p0.length:Int).toNat) (0:Int)).length=rowOver (List.replicate ((p0.length:Int).toNat) (0:Int)) p0 (List.replicate ((p0.length:Int).toNat) (0:Int)).length)/\rowOver (List.replicate ((p0.length:Int).toNat) (0:Int)) p0 (List.replicate ((p0.length:Int).toNat) (0:Int)).length=e0)<|by rintro p0 p1 h _ rfl;obtain⟨h1,h2⟩:=h;refine ?_;rw[wi _ qqo qqo];have e:rowOver (List.replicate ((p0.length:Int).toNat) (0:Int)) p0 (List.replicate ((p0.length:Int).toNat) (0:Int)).length=p0:=kb2 _ _ qqs;simp only[e];exact⟨by omega,by omega,by omega,by unfold maxLen;omega,by simp,by omega,by trivial,by trivial⟩
noncomputable def kfr:Con TB.den:= .gp 275 [.sl yqb,.sl yqb] [.sl yqb] [] fun(p0 p1:Li)=>(p0.length<=68719476736/\p1.length<=4294967295,(p0++encB p1:Li),())
theorem khu:kfr.Ok Tryz.prog TB:=qrv Bs Tryz.func275 .no (k2g.c (k1v.c c0)) (Q:=∀(p0 p1:Li),(p0.length<=68719476736/\p1.length<=4294967295)->∀r0:Li,(p0++encB p1)=r0-> 
(0<=(i64.wrap (4+(p1.length:Int)))/\p0.length+(i64.wrap (4+(p1.length:Int)))<=140737488355328)/\(p0=p0)/\((-9223372036854775808<=(p1.length:Int)/\(p1.length:Int)<=9223372036854775807)/\p0.length<=137438953472)/\lz (p0++dig 4 (len4 (p1.length:Int)))/\((p0++dig 4 (len4 (p1.length:Int))).length+p1.length)*1<=140737488355328/\(p0++dig 4 (len4 (p1.length:Int))).length+p1.length<=maxLen/\let v1:Li:=(p0++dig 4 (len4 (p1.length:Int)))++p1
v1=r0)<|by
 rintro p0 p1 h _ rfl;obtain⟨h1,h2⟩:=h;refine ?_;rw[wi (4+(p1.length:Int)) qqo qqo];refine⟨⟨by omega,by omega⟩,by trivial,⟨by omega,by omega⟩,by trivial,?_,?_,?_⟩
 ·simp;omega
 ·simp;unfold maxLen;omega
 ·rw[qw];rfl
noncomputable def kks:Con TB.den:= .gp 64 [.sl yqb,yqi] [.sl yqb] [] fun(p0:Li) (p1:Int)=>((-9223372036854775808<=p1/\p1<=9223372036854775807)/\p0.length<=137438953472,(p0++dig 4 (len4 p1):Li),())
theorem kb3:kks.Ok Tryz.prog TB:=qrv Bs Tryz.func64 .no (k2g.c (k1v.c c0)) (Q:=∀(p0:Li) (p1:Int),((-9223372036854775808<=p1/\p1<=9223372036854775807)/\p0.length<=137438953472)->∀r0:Li,(p0++dig 4 (len4 p1))=r0-> 
(0<=(4:Int)/\p0.length+(4:Int)<=140737488355328)/\(p0=p0)/\((-9223372036854775808<=p1/\p1<=9223372036854775807)/\p0.length<=137438953472)/\(p0++dig 4 (len4 p1))=r0)<|by rintro p0 p1 h _ rfl;obtain⟨h1,h2⟩:=h;exact⟨⟨by omega,by omega⟩,by trivial,⟨h1,h2⟩,rfl⟩
noncomputable def kic:Con TB.den:= .gp 65 [.sl yqb,.sl yqu] [.sl yqb] [] fun(p0 p1:Li)=>(Us p1/\p0.length<=68719476736/\p1.length<=4294967295,(p0++encL p1:Li),())
theorem kke:kic.Ok Tryz.prog TB:=qrv Bs Tryz.func65 (.r 1 (.nd [] (.r 0 (.lp [] ⟨[0],[.tip yqb],[5,19],[.one (.own 0),.one (zqi)],[]⟩ .no)) [] .no)) (k2g.c (k1v.c (k21.c c0))) (Q:=∀(p0 p1:Li),(Us p1/\p0.length<=68719476736/\p1.length<=4294967295)->∀r0:Li,(p0++encL p1)=r0-> 
let v1:Int:=i64.wrap (4+(i64.wrap (8*(p1.length:Int))))
(0<=v1/\p0.length+v1<=140737488355328)/\(p0=p0)/\((-9223372036854775808<=(p1.length:Int)/\(p1.length:Int)<=9223372036854775807)/\p0.length<=137438953472)/\((p0++dig 4 (len4 (p1.length:Int)))=(p0++dig 4 (len4 (p1.length:Int))))/\∃(I1:Int->(Li)->Prop) (M1:Int->(Li)->Nat),I1 0 (p0++dig 4 (len4 (p1.length:Int)))/\∀b1 f1,(I1 b1 f1->
(decide (b1<(p1.length:Int))=true->
(0<=b1)/\b1<(p1.length:Int)/\(f1=f1)/\(U64 (ix p1 b1)/\(0<=(8:Int)/\(8:Int)<=8)/\f1.length<=137438953472)/\((f1++dig (8:Int).toNat (ix p1 b1))=(f1++dig (8:Int).toNat (ix p1 b1)))/\I1 (i64.wrap (b1+1)) (f1++dig (8:Int).toNat (ix p1 b1))/\M1 (i64.wrap (b1+1)) (f1++dig (8:Int).toNat (ix p1 b1))<M1 b1 f1)/\
(decide (b1<(p1.length:Int))=false->
f1=r0)))<|by
 rintro p0 p1 h _ rfl;obtain⟨h1,h2,h3⟩:=h;refine ?_;rw[wi (8*(p1.length:Int)) qqo qqo,wi (4+8*(p1.length:Int)) qqo qqo];refine⟨⟨by omega,by omega⟩,by trivial,⟨by omega,by omega⟩,by trivial,?_⟩;refine⟨(fun i g=>0<=i/\i<=p1.length/\g=p0++dig 4 (len4 p1.length)++(p1.take i.toNat).flatMap (dig 8)),(fun i _=>(p1.length-i).toNat),⟨by omega,by omega,by simp⟩,?_⟩;rintro i g ⟨g0,g1,rfl⟩;refine⟨fun h=> ?_,fun h=> ?_⟩
 ·have h:=qb h;have hx:=h1 _ (ix_mem p1 i g0 h);rw[inc i p1.length g0 h qqo];refine⟨g0,h,by trivial,⟨hx,by omega,?_⟩,by trivial,⟨by omega,by omega,?_⟩,by(dsimp only;omega)⟩
  ·simp only[qi,kr,k2x,qaa];omega
  ·rw[ke p1 i g0 h,qca,qw];simp
 ·have h:=qc h;rw[qx qqo,qw];rfl
noncomputable def ki3:Con TB.den:= .gp 67 [.sl yqb,yqu] [.sl yqb] [] fun(p0:Li) (p1:Int)=>(U64 p1/\p0.length<=137438953472,(p0++dig 8 p1:Li),())
theorem k4m:ki3.Ok Tryz.prog TB:=qrv Bs Tryz.func67 .no (k2g.c (k21.c c0)) (Q:=∀(p0:Li) (p1:Int),(U64 p1/\p0.length<=137438953472)->∀r0:Li,(p0++dig 8 p1)=r0-> 
(0<=(8:Int)/\p0.length+(8:Int)<=140737488355328)/\(p0=p0)/\(U64 p1/\(0<=(8:Int)/\(8:Int)<=8)/\p0.length<=137438953472)/\(p0++dig (8:Int).toNat p1)=r0)<|by rintro p0 p1 h _ rfl;obtain⟨h1,h2⟩:=h;refine⟨⟨by omega,by omega⟩,by trivial,⟨h1,by omega,h2⟩,rfl⟩
noncomputable def kig:Con TB.den:= .gp 201 [.st 2,.sl yqb] [.sl yqb] [] fun(p0:wZ) (p1:Li)=>(TR p0/\TL p0/\p0.wD.length<=1048576/\(∀x∈p0.wD,x.wAB.length<=1024)/\p1.length<=4294967295,(encT p0 p1:Li),())
theorem k9z:kig.Ok Tryz.prog TB:=qrv Bs Tryz.func201 (.r 3 (.nd [] (.r 0 (.lp [] ⟨[],[],[5,23],[.one (.d (.sl yqb)),.one (zqi)],[]⟩ .no)) [] .no)) (k4m.c (kke.c (kb3.c (khu.c c0)))) (Q:=∀(p0:wZ) (p1:Li),(TR p0/\TL p0/\p0.wD.length<=1048576/\(∀x∈p0.wD,x.wAB.length<=1024)/\p1.length<=4294967295)->∀r0:Li,encT p0 p1=r0-> 
(U64 p0.wa/\([]:Li).length<=137438953472)/\(Us p0.wJ/\(([]:Li)++dig 8 p0.wa).length<=68719476736/\p0.wJ.length<=4294967295)/\let r1:Li:=((([]:Li)++dig 8 p0.wa)++encL p0.wJ)
((-9223372036854775808<=(p0.wD.length:Int)/\(p0.wD.length:Int)<=9223372036854775807)/\r1.length<=137438953472)/\let r2:Li:=(r1++dig 4 (len4 (p0.wD.length:Int)))
∃(I1:(Li)->Int->Prop) (M1:(Li)->Int->Nat),I1 r2 0/\∀b1 f1,(I1 b1 f1->
(decide (f1<(p0.wD.length:Int))=true->
(0<=f1)/\f1<(p0.wD.length:Int)/\(U64 ((ix p0.wD f1).wg)/\b1.length<=137438953472)/\(U64 ((ix p0.wD f1).wAi)/\(b1++dig 8 ((ix p0.wD f1).wg)).length<=137438953472)/\let r3:Li:=((b1++dig 8 ((ix p0.wD f1).wg))++dig 8 ((ix p0.wD f1).wAi))
(U64 ((ix p0.wD f1).wAd)/\r3.length<=137438953472)/\(Us ((ix p0.wD f1).wAB)/\(r3++dig 8 ((ix p0.wD f1).wAd)).length<=68719476736/\((ix p0.wD f1).wAB).length<=4294967295)/\let r4:Li:=((r3++dig 8 ((ix p0.wD f1).wAd))++encL ((ix p0.wD f1).wAB))
I1 r4 (i64.wrap (f1+1))/\M1 r4 (i64.wrap (f1+1))<M1 b1 f1)/\
(decide (f1<(p0.wD.length:Int))=false->
(U64 p0.wQ/\b1.length<=137438953472)/\(U64 p0.wT/\(b1++dig 8 p0.wQ).length<=137438953472)/\let r5:Li:=((b1++dig 8 p0.wQ)++dig 8 p0.wT)
(U64 p0.Fee/\r5.length<=137438953472)/\(U64 p0.wX/\(r5++dig 8 p0.Fee).length<=137438953472)/\let r6:Li:=((r5++dig 8 p0.Fee)++dig 8 p0.wX)
(U64 p0.wY/\r6.length<=137438953472)/\((-9223372036854775808<=p0.wAf/\p0.wAf<=9223372036854775807)/\(r6++dig 8 p0.wY).length<=137438953472)/\let r7:Li:=((r6++dig 8 p0.wY)++dig 4 (len4 p0.wAf))
(r7.length<=68719476736/\p1.length<=4294967295)/\(r7++encB p1)=r0)))<|by
 rintro p0 p1 h _ rfl;obtain⟨hr,hl,ho,hc,hp⟩:=h;have hm:=hl.m;have hol:=k30;refine⟨⟨hr.a,by simp⟩,⟨hr.m,by simp,hm⟩,⟨by omega,by simp;omega⟩,?_⟩;refine⟨(fun b i=>0<=i/\i<=p0.wD.length/\b=dig 8 p0.wa++encL p0.wJ++dig 4 (len4 p0.wD.length)++(p0.wD.take i.toNat).flatMap encO),(fun _ i=>(p0.wD.length-i).toNat),⟨by omega,by omega,by simp⟩,?_⟩;rintro b i ⟨g0,g1,rfl⟩;have hb:=k30 (p0.wD.take i.toNat) 1024 (fun x hx=>hc x (qbf hx));rw[qaa]at hb
 have hb:((p0.wD.take i.toNat).flatMap encO).length<=8700000000:=by
  refine qbi hb ?_;have:min i.toNat p0.wD.length<=1048576:=by omega
  have:=Nat.mul_le_mul_left (28+8*1024) this;omega
 refine⟨fun h=> ?_,fun h=> ?_⟩
 ·have h:=qb h;have hx:=hr.o _ (ix_mem p0.wD i g0 h);have hxc:=hc _ (ix_mem p0.wD i g0 h);rw[inc i p0.wD.length g0 h qqo];refine⟨g0,h,⟨hx.c,?_⟩,⟨hx.p0,?_⟩,⟨hx.p1,?_⟩,⟨hx.ci,?_,by omega⟩,⟨by omega,by omega,?_⟩,by(dsimp only;omega)⟩
  ·simp only[qi,kr,k24];omega
  ·simp only[qi,kr,k24];omega
  ·simp only[qi,kr,k24];omega
  ·simp only[qi,kr,k24];omega
  ·rw[ke p0.wD i g0 h,qca];simp[encO,qw]
 ·have h:=qc h;rw[qx qqo]at hb ⊢;refine⟨⟨hr.d,?_⟩,⟨hr.w,?_⟩,⟨hr.f,?_⟩,⟨hr.ac,?_⟩,⟨hr.n,?_⟩,⟨hr.e,?_⟩,⟨?_,hp⟩,rfl⟩<;>simp only[qi,kr,k24]<;>omega
noncomputable def kia:Con TB.den:= .gp 183 [.st 2] [.sl yqb,yqi] [] fun(p0:wZ)=>(TR p0,((if validE p0=0 then encT p0 p0.wv else []):Li),(validE p0:Int),())
theorem k9v:kia.Ok Tryz.prog TB:=qrv Bs Tryz.func183 .no (k1n.c (k9z.c c0)) (Q:=∀(p0:wZ),(TR p0)->∀r0:Li,((if validE p0=0 then encT p0 p0.wv else []):Li)=r0->∀r1:Int,validE p0=r1-> 
(((validE p0) !=0)=true->
([]:Li)=r0/\(validE p0)=r1)/\
(((validE p0) !=0)=false->
(TR p0/\TL p0/\p0.wD.length<=1048576/\(∀x∈p0.wD,x.wAB.length<=1024)/\p0.wv.length<=4294967295)/\(encT p0 p0.wv)=r0/\0=r1))<|by
 rintro p0 h _ rfl _ rfl;refine⟨fun e=> ?_,fun e=> ?_⟩
 ·have e:validE p0≠0:=by simpa using e
  rw[qf e];exact⟨rfl,rfl⟩
 ·have e:validE p0=0:=by simpa using e
  have v:=(k12 p0).1 e;rw[qh e,e];exact⟨⟨h,v.tl,by have:=v.ol;omega,fun x hx=>by have:=(v.o x hx).l;omega,v.tl.p⟩,rfl,rfl⟩
noncomputable def kif:Con TB.den:= .gp 129 [.st 2] [yqi] [] fun(p0:wZ)=>(TR p0,(weightS p0:Int),())
theorem kiu:kif.Ok Tryz.prog TB:=qrv Bs Tryz.func129 .no (k9v.c c0) (Q:=∀(p0:wZ),(TR p0)->∀r0:Int,weightS p0=r0-> 
(TR p0)/\let r1:Li:=(if validE p0=0 then encT p0 p0.wv else [])
(((validE p0) !=0)=true->
0=r0)/\
(((validE p0) !=0)=false->
(r1.length:Int)=r0))<|by
 rintro p0 h _ rfl;refine⟨h,?_⟩;unfold weightS;refine⟨fun e=> ?_,fun e=> ?_⟩
 ·have e:validE p0≠0:=by simpa using e
  rw[qf e]
 ·have e:validE p0=0:=by simpa using e
  rw[qh e,qh e]
noncomputable def ke7:Con TB.den:= .gp 88 [.st 3] [yqi] [] fun(p0:wI)=>(∀x∈p0.Txs,TR x,(validB p0:Int),())
theorem k6c:ke7.Ok Tryz.prog TB:=qrv Bs Tryz.func88 (.r 0 (.jn ⟨[],[],[],[],[]⟩ [] (.nd [] (.jn ⟨[],[],[6],[.one (.d (.bool))],[]⟩ [] .no [] (.r 0 (.jn ⟨[],[],[6],[.one (.d (.bool))],[]⟩ [] .no [] (.r 0 (.jn ⟨[],[],[6],[.one (.d (.bool))],[]⟩ [] .no [] .no))))) [] .no) [] (.r 0 (.nd [] (.r 0 (.lp [] ⟨[],[],[3,38],[.one (zqi),.one (zqi)],[]⟩ .no)) [] .no)))) (k1n.c (kiu.c c0)) (Q:=∀(p0:wI),(∀x∈p0.Txs,TR x)->∀r0:Int,validB p0=r0-> 
∀J1:Prop,((∃(I1:Int->Int->Prop) (M1:Int->Int->Nat),I1 0 0/\∀k1 l1,(I1 k1 l1->
(decide (l1<(p0.Txs.length:Int))=true->
(0<=l1)/\l1<(p0.Txs.length:Int)/\(((validE (ix p0.Txs l1)) !=0)=true->
1=r0)/\
(((validE (ix p0.Txs l1)) !=0)=false->
(TR (ix p0.Txs l1))/\let v2:Int:=i64.wrap (k1+(weightS (ix p0.Txs l1)))
I1 v2 (i64.wrap (l1+1))/\M1 v2 (i64.wrap (l1+1))<M1 k1 l1))/\
(decide (l1<(p0.Txs.length:Int))=false->
(decide (2097152<k1)=true->
3=r0)/\
(decide (2097152<k1)=false->
0=r0))))->J1)->
∀J2:Bool->Prop,(∀(b1:Bool),
((b1=true->
(b1=true->
1=r0)/\
(b1=false->
J1))/\
(b1=false->
∀J3:Bool->Prop,(∀(f1:Bool),
((f1=true->
(f1=true->
1=r0)/\
(f1=false->
J1))/\
(f1=false->
∀J4:Bool->Prop,(∀(i1:Bool),
((i1=true->
(i1=true->
1=r0)/\
(i1=false->
J1))/\
(i1=false->
(decide (64<(p0.Txs.length:Int))=true->
1=r0)/\
(decide (64<(p0.Txs.length:Int))=false->
J1)))->J4 i1)->
let v1:Bool:=decide (18446744069414584321<=p0.wm)
(v1=true->
J4 true)/\
(v1=false->
J4 (decide (18446744069414584321<=p0.wAl)))))->J3 f1)->
(decide (p0.wW<1)=true->
J3 true)/\
(decide (p0.wW<1)=false->
J3 (decide (65536<p0.wW)))))->J2 b1)->
(decide (p0.wM<1)=true->
J2 true)/\
(decide (p0.wM<1)=false->
J2 (decide (1048576<p0.wM))))<|by
 rintro p0 h _ rfl;have nv:¬VB0 p0->(1:Int)=validB p0:=fun hn=>(km1 hn).symm;intro J1 k1
 have j1:VB0 p0->J1:=fun hc=>k1 (by
  have hl:=hc.l;refine⟨(fun w i=>0<=i/\i<=p0.Txs.length/\w=sumW (p0.Txs.take i.toNat)/\∀t∈p0.Txs.take i.toNat,validE t=0),(fun _ i=>(p0.Txs.length-i).toNat),⟨by omega,by omega,by simp[sumW],by simp⟩,?_⟩;rintro w i ⟨g0,g1,rfl,g3⟩;have hb:=sumW_bd _ g3;rw[qaa]at hb;refine⟨fun hh=> ?_,fun hh=> ?_⟩
  ·have hh:=qb hh;have hm:=ix_mem p0.Txs i g0 hh;refine⟨g0,hh,fun e=> ?_,fun e=>⟨h _ hm,?_⟩⟩
   ·have e:validE (ix p0.Txs i)≠0:=by simpa using e
    exact(koc hm e).symm
   ·have e:validE (ix p0.Txs i)=0:=by simpa using e
    have hw:=kdv e
    try simp only[]
    rw[inc i p0.Txs.length g0 hh qqo,wi (sumW (p0.Txs.take i.toNat)+weightS (ix p0.Txs i)) qqo qqo];refine⟨⟨by omega,by omega,?_,?_⟩,by(first|omega|(dsimp only;omega))⟩
    ·rw[ke p0.Txs i g0 hh,kqp]
    ·rw[ke p0.Txs i g0 hh];intro t ht;rcases qac.1 ht with ht|ht
     ·exact g3 t ht
     ·rw[qaf.1 ht];exact e
  ·have hh:=qc hh;rw[qx qqo]at g3 hb ⊢;rw[kny hc g3];refine⟨fun e=> ?_,fun e=> ?_⟩
   ·have e:=qb e;rw[qf qqo]
   ·have e:=qc e;rw[qh qqo])
 intro J2 k2
 have j2:∀b:Bool,(b=true->¬VB0 p0)->(b=false->1<=p0.wM/\p0.wM<=1048576)->J2 b:=fun b h1 h2=>k2 b ⟨fun e=>⟨fun _=>nv (h1 e),fun e2=>by rw[e]at e2;cases e2⟩,fun e=>by
  intro J3 k3
  have j3:∀b:Bool,(b=true->¬VB0 p0)->(b=false->1<=p0.wW/\p0.wW<=65536)->J3 b:=fun b h3 h4=>k3 b ⟨fun e=>⟨fun _=>nv (h3 e),fun e2=>by rw[e]at e2;cases e2⟩,fun e3=>by
   intro J4 k4;have j4:∀b:Bool,(b=true->¬VB0 p0)->(b=false->p0.wm<18446744069414584321/\p0.wAl<18446744069414584321)->J4 b:=fun b h5 h6=>k4 b ⟨fun e=>⟨fun _=>nv (h5 e),fun e2=>by rw[e]at e2;cases e2⟩,fun e5=>⟨fun e6=>nv fun v=>by have:=qb e6;have:=v.l;omega,fun e6=>j1 ⟨(h2 e).1,(h2 e).2,(h4 e3).1,(h4 e3).2,(h6 e5).1,(h6 e5).2,by have:=qc e6;omega⟩⟩⟩;exact⟨fun e6=>j4 true (fun _ v=>by have:=qb e6;have:=v.p;omega) (fun h=>by cases h),fun e6=>j4 _ (fun e7 v=>by have:=qb e7;have:=v.m;omega) (fun e7=>⟨by have:=qc e6;omega,by have:=qc e7;omega⟩)⟩⟩
  exact⟨fun e6=>j3 true (fun _ v=>by have:=qb e6;have:=v.w0;omega) (fun h=>by cases h),fun e6=>j3 _ (fun e7 v=>by have:=qb e7;have:=v.w1;omega) (fun e7=>⟨by have:=qc e6;omega,by have:=qc e7;omega⟩)⟩⟩
 exact⟨fun e6=>j2 true (fun _ v=>by have:=qb e6;have:=v.h0;omega) (fun h=>by cases h),fun e6=>j2 _ (fun e7 v=>by have:=qb e7;have:=v.h1;omega) (fun e7=>⟨by have:=qc e6;omega,by have:=qc e7;omega⟩)⟩
noncomputable def kbv:Con TB.den:= .gp 130 [.st 3] [.sl yqb] [] fun(p0:wI)=>(BR p0/\p0.Txs.length<=64,(hdrS p0:Li),())
theorem kdx:kbv.Ok Tryz.prog TB:=qrv Bs Tryz.func130 .no (k4m.c (kb3.c c0)) (Q:=∀(p0:wI),(BR p0/\p0.Txs.length<=64)->∀r0:Li,hdrS p0=r0-> 
(U64 p0.wm/\([]:Li).length<=137438953472)/\((-9223372036854775808<=p0.wM/\p0.wM<=9223372036854775807)/\(([]:Li)++dig 8 p0.wm).length<=137438953472)/\let r1:Li:=((([]:Li)++dig 8 p0.wm)++dig 4 (len4 p0.wM))
(U64 p0.wAl/\r1.length<=137438953472)/\(U64 p0.wW/\(r1++dig 8 p0.wAl).length<=137438953472)/\let r2:Li:=((r1++dig 8 p0.wAl)++dig 8 p0.wW)
(U64 p0.wY/\r2.length<=137438953472)/\((-9223372036854775808<=(p0.Txs.length:Int)/\(p0.Txs.length:Int)<=9223372036854775807)/\(r2++dig 8 p0.wY).length<=137438953472)/\let r3:Li:=((r2++dig 8 p0.wY)++dig 4 (len4 (p0.Txs.length:Int)))
r3=r0)<|by rintro p0 h _ rfl;obtain⟨hr,hl⟩:=h;refine⟨⟨hr.p,by simp⟩,⟨hr.h,by simp⟩,⟨hr.m,by simp⟩,⟨hr.w,by simp⟩,⟨hr.n,by simp⟩,⟨⟨by omega,by omega⟩,by simp⟩,?_⟩;simp[hdrS]
noncomputable def kdj:Con TB.den:= .gp 184 [.sl yqb] [.sl yqu] [] fun(p0:Li)=>(By p0/\p0.length<=1099511627776,(packS p0:Li),())
theorem kft:kdj.Ok Tryz.prog TB:=qrv Bs Tryz.func184 (.r 2 (.nd [] (.r 0 (.lp [.frz 0 [3]] ⟨[1],[.tip yqu],[3,4],[.one (.own 0),.one (zqi)],[]⟩ (.r 0 (.nd [] (.r 1 (.nd [] (.r 0 (.lp [] ⟨[],[],[6,37],[.one (zqu),.one (zqi)],[]⟩ .no)) [] .no)) [] .no)))) [] .no)) c0 (Q:=∀(p0:Li),(By p0/\p0.length<=1099511627776)->∀r0:Li,packS p0=r0-> 
let v1:Int:=i64.wrap ((i64.wrap ((p0.length:Int)+7))-1)
let v2:Int:=i64.wrap (1+(i64.wrap (Int.tdiv v1 7)))
0<=(1:Int)/\(1:Int)<=v2/\(v2.toNat*8<=140737488355328)/\(v2.toNat<=maxLen)/\(0<=(0:Int)/\0<(1:Int))/\(0<=(0:Int)/\0<((List.replicate 1 (0:Int)).length:Int))/\(1=((List.replicate 1 (0:Int)).set (0:Int).toNat (u64.wrap (p0.length:Int))).length)/\((List.replicate 1 (0:Int)).set (0:Int).toNat (u64.wrap (p0.length:Int))=(List.replicate 1 (0:Int)).set (0:Int).toNat (u64.wrap (p0.length:Int)))/\∃(I1:Int->(Li)->Prop) (M1:Int->(Li)->Nat),I1 0 ((List.replicate 1 (0:Int)).set (0:Int).toNat (u64.wrap (p0.length:Int)))/\∀b1 f1,(I1 b1 f1->
(decide (b1<(p0.length:Int))=true->
let v3:Int:=(if(p0.length:Int)<i64.wrap (b1+7)then(p0.length:Int)else i64.wrap (b1+7))
(0<=b1)/\b1<=v3/\v3<=(p0.length:Int)/\let v4:Int:=(((p0.take v3.toNat).drop b1.toNat).length:Int)
∃(I2:Int->Int->Prop) (M2:Int->Int->Nat),I2 0 0/\∀i1 k1,(I2 i1 k1->
(decide (k1<v4)=true->
(0<=k1)/\k1<(((p0.take v3.toNat).drop b1.toNat).length:Int)/\let v5:Int:=u64.wrap (ix ((p0.take v3.toNat).drop b1.toNat) k1)
(0<=i64.wrap (8*k1))/\let v6:Int:=ior .u64 i1 (ishl .u64 v5 (i64.wrap (8*k1)))
I2 v6 (i64.wrap (k1+1))/\M2 v6 (i64.wrap (k1+1))<M2 i1 k1)/\
(decide (k1<v4)=false->
lz f1/\(f1.length+[i1].length)*8<=140737488355328/\f1.length+[i1].length<=maxLen/\(f1++[i1]=f1++[i1])/\I1 (i64.wrap (b1+7)) (f1++[i1])/\M1 (i64.wrap (b1+7)) (f1++[i1])<M1 b1 f1)))/\
(decide (b1<(p0.length:Int))=false->
f1=r0)))<|by
 rintro p0 h _ rfl;obtain⟨hb,hl⟩:=h;refine ?_;rw[wi ((p0.length:Int)+7) qqo qqo,wi ((p0.length:Int)+7-1) qqo qqo]
 try simp only[]
 rw[tdiv_nn _ _ qqo,wi (((p0.length:Int)+7-1)/7) qqo qqo,wi (1+((p0.length:Int)+7-1)/7) qqo qqo,wu (p0.length:Int) qqo qqo];refine⟨by omega,by omega,by omega,by unfold maxLen;omega,by omega,⟨by omega,by decide⟩,by trivial,by trivial,?_⟩;refine⟨(fun i g=>0<=i/\i<=p0.length+7/\g++packN p0.length (p0.drop i.toNat)=packS p0/\(g.length:Int)<=1+i),(fun i _=>(p0.length+7-i).toNat),⟨by omega,by omega,rfl,by show(1:Int)<=_;omega⟩,?_⟩;rintro i g ⟨g0,g1,g2,g3⟩;refine⟨fun h=> ?_,fun h=> ?_⟩
 ·have h:=qb h;have h7:i64.wrap (i+7)=i+7:=wi (i+7) qqo qqo;rw[h7]
  have ev:((p0.take (if(p0.length:Int)<i+7 then(p0.length:Int)else i+7).toNat).drop i.toNat)=(p0.drop i.toNat).take 7:=by
   split
   ·rw[qu,qco,qx qqm]
   ·rw[List.drop_take,show(i+7).toNat-i.toNat=7 by omega]
  simp only[ev];refine⟨g0,by split<;>omega,by split<;>omega,?_⟩;have hpb:By ((p0.drop i.toNat).take 7):=(hb.drop _).take _;have hpl:((p0.drop i.toNat).take 7).length<=7:=by simp;omega
  have hnext:g++[val ((p0.drop i.toNat).take 7)]++packN p0.length (p0.drop (i+7).toNat)=packS p0:=by
   rw[<-g2,qw];congr 1;have h5:(p0.drop i.toNat).length<=p0.length:=by simp
   have h6:=kn3 p0.length (p0.drop i.toNat) h5 (by intro h7;have:=congrArg List.length h7;simp at this;omega);rw[h6,qfe,show i.toNat+7=(i+7).toNat by omega];rfl
  generalize (p0.drop i.toNat).take 7=part at *
  refine⟨(fun n k=>0<=k/\k<=part.length/\n=val (part.take k.toNat)),(fun _ k=>(part.length-k).toNat),⟨by omega,by omega,rfl⟩,?_⟩;rintro n k ⟨k0,k1,rfl⟩;refine⟨fun hk=> ?_,fun hk=> ?_⟩
  ·have hk:=qb hk;have hx:=hpb _ (ix_mem part k k0 hk);have hlen:((part.take k.toNat).length:Int)=k:=by rw[qaa];omega
   rw[wi (8*k) qqo qqo,wu (ix part k) qqo qqo,wi (k+1) qqo qqo];have:=ior_val (part.take k.toNat) (ix part k) (hpb.take _) qqo hx;rw[hlen]at this;simp only[this];refine⟨k0,hk,by omega,⟨by omega,by omega,?_⟩,by(first|omega|(dsimp only;omega))⟩;rw[ke part k k0 hk]
  ·have hk:=qc hk;have e1:part.take k.toNat=part:=qx qqo;rw[e1];refine⟨by trivial,by simp only[qr,qaq];omega,by simp only[qr,qaq];unfold maxLen;omega,by trivial,(?_:0<=i+7/\i+7<=p0.length+7/\_/\_),(?_:(p0.length+7-(i+7)).toNat<(p0.length+7-i).toNat)⟩
   ·exact⟨by omega,by omega,hnext,by simp only[qi,qr,qaq];omega⟩
   ·omega
 ·have h:=qc h;rw[qam qqo]at g2;have:packN p0.length ([]:Li)=[]:=by cases p0.length<;>rfl
  rw[this,qcd]at g2;exact g2
noncomputable def k7e:Con TB.den:= .gp 131 [yqu,.sl yqb] [yqu] [] fun(p0:Int) (p1:Li)=>(U64 p0/\By p1/\p1.length<=1099511627775,(hashB p0 p1:Int),())
theorem k25:k7e.Ok Tryz.prog TB:=qrv Bs Tryz.func131 .no (kft.c (ky.c c0)) (Q:=∀(p0:Int) (p1:Li),(U64 p0/\By p1/\p1.length<=1099511627775)->∀r0:Int,hashB p0 p1=r0-> 
(By p1/\p1.length<=1099511627776)/\((18446744069414584321:Int)=18446744069414584321/\U64 p0/\Us (packS p1)/\(packS p1).length<=1099511627776)/\(hashS p0 (packS p1))=r0)<|by
 rintro p0 p1 h _ rfl;obtain⟨h1,h2,h3⟩:=h;refine⟨⟨h2,by omega⟩,⟨rfl,h1,?_,?_⟩,rfl⟩
 ·intro x hx;rcases qag.1 hx with rfl|hx
  ·omega
  ·exact kjs _ _ h2 x hx
 ·have:=k9j p1.length p1;simp only[packS,qr];omega
noncomputable def k7q:Con TB.den:= .gp 89 [.st 3,.sl yqu] [yqu] [] fun(p0:wI) (p1:Li)=>(BR p0/\p0.Txs.length<=64/\Us p1/\p1.length<=64,(hashB 15 (hdrS p0++p1.flatMap (dig 8)):Int),())
theorem k33:k7q.Ok Tryz.prog TB:=qrv Bs Tryz.func89 (.r 1 (.nd [] (.r 0 (.lp [] ⟨[],[],[5,12],[.one (.d (.sl yqb)),.one (zqi)],[]⟩ .no)) [] .no)) (kdx.c (k4m.c (k25.c c0))) (Q:=∀(p0:wI) (p1:Li),(BR p0/\p0.Txs.length<=64/\Us p1/\p1.length<=64)->∀r0:Int,(hashB 15 (hdrS p0++p1.flatMap (dig 8)))=r0-> 
(BR p0/\p0.Txs.length<=64)/\∃(I1:(Li)->Int->Prop) (M1:(Li)->Int->Nat),I1 (hdrS p0) 0/\∀b1 f1,(I1 b1 f1->
(decide (f1<(p1.length:Int))=true->
(0<=f1)/\f1<(p1.length:Int)/\(U64 (ix p1 f1)/\b1.length<=137438953472)/\I1 (b1++dig 8 (ix p1 f1)) (i64.wrap (f1+1))/\M1 (b1++dig 8 (ix p1 f1)) (i64.wrap (f1+1))<M1 b1 f1)/\
(decide (f1<(p1.length:Int))=false->
(U64 (15:Int)/\By b1/\b1.length<=1099511627775)/\(hashB (15:Int) b1)=r0)))<|by
 rintro p0 p1 h _ rfl;obtain⟨hr,hl,hu,hul⟩:=h;refine⟨⟨hr,hl⟩,⟨(fun l i=>0<=i/\i<=p1.length/\l=hdrS p0++(p1.take i.toNat).flatMap (dig 8)),(fun _ i=>(p1.length-i).toNat),⟨by omega,by omega,by simp⟩,?_⟩⟩;rintro l i ⟨g0,g1,rfl⟩;have hle:(hdrS p0++(p1.take i.toNat).flatMap (dig 8)).length<=1000:=by rw[qi,kma,k2x,qaa];omega
 refine⟨fun hh=> ?_,fun hh=> ?_⟩
 ·have hh:=qb hh;have hm:=ix_mem p1 i g0 hh;rw[inc i p1.length g0 hh qqo];refine⟨g0,hh,⟨hu _ hm,by omega⟩,⟨by omega,by omega,?_⟩,by(first|omega|(dsimp only;omega))⟩;rw[ke p1 i g0 hh,qca,qw];simp
 ·have hh:=qc hh;rw[qx qqo]at hle ⊢;exact⟨⟨by omega,(hdrS_by p0).append (kjm p1),by omega⟩,rfl⟩
noncomputable def koh:Con TB.den:= .gp 132 [.st 2] [yqu] [] fun(p0:wZ)=>(TR p0,(idS p0:Int),())
theorem kp6:koh.Ok Tryz.prog TB:=qrv Bs Tryz.func132 .no (k9v.c (k25.c c0)) (Q:=∀(p0:wZ),(TR p0)->∀r0:Int,idS p0=r0-> 
(TR p0)/\let r1:Li:=(if validE p0=0 then encT p0 p0.wv else [])
(((validE p0) !=0)=true->
0=r0)/\
(((validE p0) !=0)=false->
(U64 (14:Int)/\By r1/\r1.length<=1099511627775)/\(hashB (14:Int) r1)=r0))<|by
 rintro p0 h _ rfl;refine⟨h,?_⟩;unfold idS;refine⟨fun e=> ?_,fun e=> ?_⟩
 ·have e:validE p0≠0:=by simpa using e
  rw[qf e]
 ·have e:validE p0=0:=by simpa using e
  have v:=(k12 p0).1 e;rw[qh e,qh e];exact⟨⟨by omega,encT_by h.p,by have:=v.enc_len p0.wv;have:=v.pl;omega⟩,rfl⟩
noncomputable def k64:Con TB.den:= .gp 90 [.st 3] [.sl yqu] [] fun(p0:wI)=>((∀x∈p0.Txs,TR x)/\p0.Txs.length<=64,(p0.Txs.map idS:Li),())
theorem k2y:k64.Ok Tryz.prog TB:=qrv Bs Tryz.func90 (.r 1 (.nd [] (.r 0 (.lp [.frz 1 [3]] ⟨[2],[.tip yqu],[3,13],[.one (.own 0),.one (zqi)],[]⟩ .no)) [] .no)) (kp6.c c0) (Q:=∀(p0:wI),((∀x∈p0.Txs,TR x)/\p0.Txs.length<=64)->∀r0:Li,p0.Txs.map idS=r0-> 
0<=(0:Int)/\(0:Int)<=(p0.Txs.length:Int)/\((p0.Txs.length:Int).toNat*8<=140737488355328)/\((p0.Txs.length:Int).toNat<=maxLen)/\(0=(List.replicate 0 (0:Int)).length)/\(List.replicate 0 (0:Int)=List.replicate 0 (0:Int))/\∃(I1:Int->(Li)->Prop) (M1:Int->(Li)->Nat),I1 0 (List.replicate 0 (0:Int))/\∀b1 f1,(I1 b1 f1->
(decide (b1<(p0.Txs.length:Int))=true->
(0<=b1)/\b1<(p0.Txs.length:Int)/\(TR (ix p0.Txs b1))/\lz f1/\(f1.length+[(idS (ix p0.Txs b1))].length)*8<=140737488355328/\f1.length+[(idS (ix p0.Txs b1))].length<=maxLen/\(f1++[(idS (ix p0.Txs b1))]=f1++[(idS (ix p0.Txs b1))])/\I1 (i64.wrap (b1+1)) (f1++[(idS (ix p0.Txs b1))])/\M1 (i64.wrap (b1+1)) (f1++[(idS (ix p0.Txs b1))])<M1 b1 f1)/\
(decide (b1<(p0.Txs.length:Int))=false->
f1=r0)))<|by
 rintro p0 h _ rfl;obtain⟨hr,hl⟩:=h;refine⟨by omega,by omega,by omega,by unfold maxLen;omega,by simp,rfl,?_⟩;refine⟨(fun i g=>0<=i/\i<=p0.Txs.length/\g=(p0.Txs.take i.toNat).map idS),(fun i _=>(p0.Txs.length-i).toNat),⟨by omega,by omega,by simp⟩,?_⟩;rintro i g ⟨g0,g1,rfl⟩;refine⟨fun hh=> ?_,fun hh=> ?_⟩
 ·have hh:=qb hh;have hm:=ix_mem p0.Txs i g0 hh;rw[inc i p0.Txs.length g0 hh qqo];refine⟨g0,hh,hr _ hm,rfl,by simp;omega,by simp;unfold maxLen;omega,rfl,⟨by omega,by omega,?_⟩,by(first|omega|(dsimp only;omega))⟩;rw[ke p0.Txs i g0 hh];simp
 ·have hh:=qc hh;rw[qx qqo]
noncomputable def kdl:Con TB.den:= .gp 43 [.st 0,.st 3] [yqi] [] fun(p0:wE) (p1:wI)=>(BR p1,(checkB p0.wW p1:Int),())
theorem kfc:kdl.Ok Tryz.prog TB:=qrv Bs Tryz.func43 .no (k6c.c (k2y.c (k33.c c0))) (Q:=∀(p0:wE) (p1:wI),(BR p1)->∀r0:Int,checkB p0.wW p1=r0-> 
(∀x∈p1.Txs,TR x)/\(((validB p1) !=0)=true->
(validB p1)=r0)/\
(((validB p1) !=0)=false->
((p1.wW !=p0.wW)=true->
17=r0)/\
((p1.wW !=p0.wW)=false->
((∀x∈p1.Txs,TR x)/\p1.Txs.length<=64)/\(BR p1/\p1.Txs.length<=64/\Us (p1.Txs.map idS)/\(p1.Txs.map idS).length<=64)/\let r1:Int:=(hashB 15 (hdrS p1++(p1.Txs.map idS).flatMap (dig 8)))
(p1.wW≠0)/\(((Int.tmod r1 p1.wW) !=0)=true->
17=r0)/\
(((Int.tmod r1 p1.wW) !=0)=false->
0=r0))))<|by
 rintro p0 p1 h _ rfl;unfold checkB;refine⟨h.t,fun e=> ?_,fun e=> ?_⟩
 ·have e:validB p1≠0:=by simpa using e
  rw[qh e]
 ·have e:validB p1=0:=by simpa using e
  have v:=(k5y p1).1 e;have hl:=v.h.l;have hw:=v.h.w0;rw[qf (by simp[e])];refine⟨fun e2=> ?_,fun e2=> ?_⟩
  ·have e2:p1.wW≠p0.wW:=by simpa using e2
   rw[qh e2]
  ·have e2:p1.wW=p0.wW:=by simpa using e2
   rw[qf (by simp[e2])];have hu:Us (p1.Txs.map idS):=idS_us _;refine⟨⟨h.t,hl⟩,⟨h,hl,hu,by simp;omega⟩,by omega,fun e3=> ?_,fun e3=> ?_⟩
   ·rw[qh (by simpa[namS]using e3)]
   ·rw[qf (by simpa[namS]using e3)]
noncomputable def kjv:Con TB.den:= .gp 44 [.st 3] [yqu] [] fun(p0:wI)=>(BR p0,(idB p0:Int),())
theorem km6:kjv.Ok Tryz.prog TB:=qrv Bs Tryz.func44 .no (k6c.c (k2y.c (k33.c c0))) (Q:=∀(p0:wI),(BR p0)->∀r0:Int,idB p0=r0-> 
(∀x∈p0.Txs,TR x)/\(((validB p0) !=0)=true->
0=r0)/\
(((validB p0) !=0)=false->
((∀x∈p0.Txs,TR x)/\p0.Txs.length<=64)/\(BR p0/\p0.Txs.length<=64/\Us (p0.Txs.map idS)/\(p0.Txs.map idS).length<=64)/\let r1:Int:=(hashB 15 (hdrS p0++(p0.Txs.map idS).flatMap (dig 8)))
r1=r0))<|by
 rintro p0 h _ rfl;refine⟨h.t,fun e=> ?_,fun e=> ?_⟩
 ·have e:¬validB p0=0:=by simpa using e
  unfold idB;rw[qf e]
 ·have e:validB p0=0:=by simpa using e
  have v:=(k5y p0).1 e;have hl:=v.h.l;have hu:Us (p0.Txs.map idS):=fun x hx=>by obtain⟨y,_,rfl⟩:=qaj.1 hx;exact idS_u64 y
  refine⟨⟨h.t,by omega⟩,⟨h,by omega,hu,by simp;omega⟩,?_⟩;unfold idB;rw[qh e];unfold namS;rw[List.flatMap_map]
noncomputable def k7n:Con TB.den:= .g ⟨96,[.one (.d (.sl (.st 1)))],[],(.one (.one (.row 0))),[.vec (.st 1)],false⟩ [.sl (.st 1)] [.sl (.st 1)] [] fun(p0:List wAc)=>(p0.length<=4294967295,p0,())
theorem k88:k7n.Ok Tryz.prog TB:=prx Bs [5,7] Tryz.func96 (.r 0 (.nd [] (.r 0 (.nd [] (.r 0 (.rt [.rnil 2 (.st 1)])) [] .no)) [] .no)) x0 c0 (Q:=∀(p0:List wAc),(p0.length<=4294967295)->∀e0:List wAc,p0=e0-> 
∀z4:Bool,(z4=true->p0=[])->(z4=true->
(0=([]:List wAc).length)/\([]:List wAc)=e0)/\
(z4=false->
lz ([]:List wAc)/\(([]:List wAc).length+p0.length)*48<=140737488355328/\([]:List wAc).length+p0.length<=maxLen/\lz (([]:List wAc)++p0)/\([]:List wAc)++p0=e0))<|by
 rintro p0 h _ rfl;intro z hz;refine⟨fun e=> ?_,fun e=> ?_⟩
 ·rw[hz e];exact⟨rfl,rfl⟩
 ·refine⟨rfl,?_,?_,rfl,rfl⟩<;>simp only[qaq]<;>(try unfold maxLen)<;>omega
noncomputable def k8i:Con TB.den:= .g ⟨95,[.one (.d (.sl (.st 2)))],[],(.one (.one (.row 0))),[.vec (.st 2)],false⟩ [.sl (.st 2)] [.sl (.st 2)] [] fun(p0:List wZ)=>(p0.length<=4294967295,p0,())
theorem k9o:k8i.Ok Tryz.prog TB:=prx Bs [5,7] Tryz.func95 (.r 0 (.nd [] (.r 0 (.nd [] (.r 0 (.rt [.rnil 2 (.st 2)])) [] .no)) [] .no)) x0 c0 (Q:=∀(p0:List wZ),(p0.length<=4294967295)->∀e0:List wZ,p0=e0-> 
∀z4:Bool,(z4=true->p0=[])->(z4=true->
(0=([]:List wZ).length)/\([]:List wZ)=e0)/\
(z4=false->
lz ([]:List wZ)/\(([]:List wZ).length+p0.length)*128<=140737488355328/\([]:List wZ).length+p0.length<=maxLen/\lz (([]:List wZ)++p0)/\([]:List wZ)++p0=e0))<|by
 rintro p0 h _ rfl;intro z hz;refine⟨fun e=> ?_,fun e=> ?_⟩
 ·rw[hz e];exact⟨rfl,rfl⟩
 ·refine⟨rfl,?_,?_,rfl,rfl⟩<;>simp only[qaq]<;>(try unfold maxLen)<;>omega
noncomputable def k6a:Con TB.den:= .gp 97 [.sl yqb] [.sl yqb] [] fun(p0:Li)=>(p0.length<=4294967295,p0,())
theorem k7d:k6a.Ok Tryz.prog TB:=qrv Bs Tryz.func97 .no c0 (Q:=∀(p0:Li),(p0.length<=4294967295)->∀r0:Li,p0=r0-> 
∀z4:Bool,(z4=true->p0=[])->(z4=true->
([]:Li)=r0)/\
(z4=false->
(([]:Li).length+p0.length)*1<=140737488355328/\([]:Li).length+p0.length<=maxLen/\([]:Li)++p0=r0))<|by rintro p0 h _ rfl;intro z hz;refine⟨fun e=>(hz e).symm,fun e=> ?_⟩;refine⟨?_,?_,rfl⟩<;>simp only[qaq]<;>(try unfold maxLen)<;>omega
noncomputable def k8s:Con TB.den:= .gp 72 [.sl yqu] [.sl yqu] [] fun(p0:Li)=>(p0.length<=4294967295,p0,())
theorem kab:k8s.Ok Tryz.prog TB:=qrx Bs [5,7] Tryz.func72 (.r 2 (.rt [.frz 1 [2]])) x0 c0 (Q:=∀(p0:Li),(p0.length<=4294967295)->∀r0:Li,p0=r0-> 
∀z4:Bool,(z4=true->p0=[])->(z4=true->
([]:Li)=r0)/\
(z4=false->
lz ([]:Li)/\(([]:Li).length+p0.length)*8<=140737488355328/\([]:Li).length+p0.length<=maxLen/\lz (([]:Li)++p0)/\([]:Li)++p0=r0))<|by rintro p0 h _ rfl;intro z hz;refine⟨fun e=>(hz e).symm,fun e=> ?_⟩;refine⟨rfl,?_,?_,rfl,rfl⟩<;>simp only[qaq]<;>(try unfold maxLen)<;>omega
noncomputable def kel:Con TB.den:= .gp 50 [.st 3] [.st 3] [] fun(p0:wI)=>(p0.Txs.length<=4294967295/\∀x∈p0.Txs,TL x,p0,())
theorem k66:kel.Ok Tryz.prog TB:=qrv Bs Tryz.func50 (.r 1 (.nd [] (.r 0 (.lp [] ⟨[2],[.vec (.st 2)],[13],[.one (zqi)],[]⟩ (.r 1 (.nd [] (.r 3 (.nd [] (.r 0 (.lp [] ⟨[3],[.vec (.st 1)],[41],[.one (zqi)],[]⟩ .no)) [.frzf 3 2] .no)) [] .no)))) [] (.r 0 (.rt [.frzc 2 1 5])))) (k9o.c (kab.c (k88.c (k7d.c c0)))) (Q:=∀(p0:wI),(p0.Txs.length<=4294967295/\∀x∈p0.Txs,TL x)->∀r0:wI,p0=r0-> 
(p0.Txs.length<=4294967295)/\∃(I1:Int->(List wZ)->Prop) (M1:Int->(List wZ)->Nat),I1 0 p0.Txs/\∀b1 f1,(I1 b1 f1->
(decide (b1<(p0.Txs.length:Int))=true->
(0<=b1/\b1<(p0.Txs.length:Int))/\(0<=b1/\b1<(f1.length:Int))/\(((ix f1 b1).wJ).length<=4294967295)/\(0<=b1/\b1<(f1.length:Int))/\let v1:List wZ:=f1.set b1.toNat (wZ.mk ((ix f1 b1).wa) ((ix f1 b1).wJ) ((ix f1 b1).wD) ((ix f1 b1).wQ) ((ix f1 b1).wT) ((ix f1 b1).Fee) ((ix f1 b1).wX) ((ix f1 b1).wY) ((ix f1 b1).wAf) ((ix f1 b1).wv))
(0<=b1/\b1<(v1.length:Int))/\(((ix v1 b1).wD).length<=4294967295)/\(0<=b1/\b1<(v1.length:Int))/\(0<=b1/\b1<(v1.length:Int))/\b1=b1/\∃(I2:Int->(List wAc)->Prop) (M2:Int->(List wAc)->Nat),I2 0 ((ix v1 b1).wD)/\∀i1 k1,(I2 i1 k1->
let v2:Bool:=decide (i1<(((ix v1 b1).wD).length:Int))
(v2=true->
(0<=b1/\b1<(v1.length:Int))/\b1=b1/\(0<=b1/\b1<(v1.length:Int))/\b1=b1/\(0<=i1/\i1<(((ix v1 b1).wD).length:Int))/\(0<=i1/\i1<(k1.length:Int))/\(((ix k1 i1).wAB).length<=4294967295)/\(0<=i1/\i1<(((ix v1 b1).wD).length:Int))/\(0<=i1/\i1<(k1.length:Int))/\I2 (i64.wrap (i1+1)) (k1.set i1.toNat (wAc.mk ((ix k1 i1).wg) ((ix k1 i1).wAi) ((ix k1 i1).wAd) ((ix k1 i1).wAB)))/\M2 (i64.wrap (i1+1)) (k1.set i1.toNat (wAc.mk ((ix k1 i1).wg) ((ix k1 i1).wAi) ((ix k1 i1).wAd) ((ix k1 i1).wAB)))<M2 i1 k1)/\
(v2=false->
(((ix v1 b1).wD).length=k1.length/\0<=b1/\b1<(v1.length:Int))/\let v3:List wZ:=v1.set b1.toNat (wZ.mk ((ix v1 b1).wa) ((ix v1 b1).wJ) k1 ((ix v1 b1).wQ) ((ix v1 b1).wT) ((ix v1 b1).Fee) ((ix v1 b1).wX) ((ix v1 b1).wY) ((ix v1 b1).wAf) ((ix v1 b1).wv))
(0<=b1/\b1<(v3.length:Int))/\(((ix v3 b1).wv).length<=4294967295)/\(0<=b1/\b1<(v3.length:Int))/\let v4:List wZ:=v3.set b1.toNat (wZ.mk ((ix v3 b1).wa) ((ix v3 b1).wJ) ((ix v3 b1).wD) ((ix v3 b1).wQ) ((ix v3 b1).wT) ((ix v3 b1).Fee) ((ix v3 b1).wX) ((ix v3 b1).wY) ((ix v3 b1).wAf) ((ix v3 b1).wv))
I1 (i64.wrap (b1+1)) v4/\M1 (i64.wrap (b1+1)) v4<M1 b1 f1)))/\
(decide (b1<(p0.Txs.length:Int))=false->
(p0.Txs.length=f1.length)/\p0.wm=r0.wm/\p0.wM=r0.wM/\p0.wAl=r0.wAl/\p0.wW=r0.wW/\p0.wY=r0.wY/\f1=r0.Txs)))<|by
 rintro p0 h _ rfl;obtain⟨hl,ht⟩:=h;refine⟨hl,?_⟩;refine⟨(fun i f=>f=p0.Txs/\∃k:Nat,i=(k:Int)/\k<=p0.Txs.length),fun i _=>(p0.Txs.length-i).toNat,⟨rfl,0,rfl,by omega⟩,?_⟩;rintro _ _ ⟨rfl,k,rfl,g1⟩;refine⟨fun e=> ?_,fun e=> ?_⟩
 ·have e:k<p0.Txs.length:=by have:=qb e;omega
  have et:=ht _ (qal e);have e1:p0.Txs.set (k:Int).toNat (wZ.mk (ix p0.Txs (k:Int)).wa (ix p0.Txs (k:Int)).wJ (ix p0.Txs (k:Int)).wD (ix p0.Txs (k:Int)).wQ (ix p0.Txs (k:Int)).wT (ix p0.Txs (k:Int)).Fee (ix p0.Txs (k:Int)).wX (ix p0.Txs (k:Int)).wY (ix p0.Txs (k:Int)).wAf (ix p0.Txs (k:Int)).wv)=p0.Txs:=by rw[ix_get _ _ e];exact List.set_getElem_self ..
  have hb:(0:Int)<=(k:Int)/\(k:Int)<(p0.Txs.length:Int):=⟨by omega,by omega⟩;have hx:ix p0.Txs (k:Int)=p0.Txs[k]:=ix_get _ _ e;refine⟨hb,hb,by rw[hx];exact et.m,hb,?_⟩;dsimp only;rw[e1];have ho:(ix p0.Txs (k:Int)).wD.length<=4294967295:=by rw[hx];exact et.o
  have hc:∀x∈(ix p0.Txs (k:Int)).wD,x.wAB.length<=4294967295:=by rw[hx];exact et.c
  refine⟨hb,ho,hb,hb,rfl,?_⟩;refine⟨(fun i f=>f=(ix p0.Txs (k:Int)).wD/\∃j:Nat,i=(j:Int)/\j<=(ix p0.Txs (k:Int)).wD.length),fun i _=>((ix p0.Txs (k:Int)).wD.length-i).toNat,⟨rfl,0,rfl,by omega⟩,?_⟩;rintro _ _ ⟨rfl,j,rfl,g2⟩;refine⟨fun e2=> ?_,fun e2=> ?_⟩
  ·have e2:j<(ix p0.Txs (k:Int)).wD.length:=by have:=qb e2;omega
   have hj:(0:Int)<=(j:Int)/\(j:Int)<((ix p0.Txs (k:Int)).wD.length:Int):=⟨by omega,by omega⟩;have hy:ix (ix p0.Txs (k:Int)).wD (j:Int)=(ix p0.Txs (k:Int)).wD[j]:=ix_get _ _ e2;rw[inc (j:Int) (ix p0.Txs (k:Int)).wD.length qqo qqo qqo];have e3:(ix p0.Txs (k:Int)).wD.set (j:Int).toNat (wAc.mk (ix (ix p0.Txs (k:Int)).wD (j:Int)).wg (ix (ix p0.Txs (k:Int)).wD (j:Int)).wAi (ix (ix p0.Txs (k:Int)).wD (j:Int)).wAd (ix (ix p0.Txs (k:Int)).wD (j:Int)).wAB)=(ix p0.Txs (k:Int)).wD:=by rw[hy];exact List.set_getElem_self ..
   rw[e3];refine⟨hb,rfl,hb,rfl,hj,hj,?_,hj,hj,⟨rfl,j+1,rfl,by omega⟩,by(first|omega|(dsimp only;omega))⟩;rw[hy];exact hc _ (qal e2)
  ·rw[e1];refine⟨⟨rfl,hb⟩,hb,by rw[hx];exact et.p,hb,?_⟩;rw[inc (k:Int) p0.Txs.length qqo qqo qqo];exact⟨⟨e1,k+1,rfl,by omega⟩,by(first|omega|(dsimp only;omega))⟩
 ·exact⟨rfl,rfl,rfl,rfl,rfl,rfl,rfl⟩
noncomputable def k97:Con TB.den:= .t (gk 41 [.one (.ptr 0 0)] yQ (.one (.one (.d (.bool))))) yB1 yY [] fun(Ad:Bool) (Aa Ae:Int) (Ab:List wB) (w1k:Lb) (w1v:Li) (w2k:Lb) (w2v:List (Li)) (w3k:Lb) (w3v:Lo)=>(Ad,Ad,Aa,Ae,Ab,w1k,w1v,w2k,w2v,w3k,w3v,())
theorem k1o:k97.Ok Tryz.prog TB:=ptv Bs Tryz.func41 .no c0 (Q:=∀(Ad:Bool) (Aa Ae:Int) (Ab:List wB) (w1k:Lb) (w1v:Li) (w2k:Lb) (w2v:List (Li)) (w3k:Lb) (w3v:Lo),∀r0:Bool,Ad=r0->∀Ay:Bool,Ad=Ay->∀Aq:Int,Aa=Aq->∀Aw:Int,Ae=Aw->∀Ax:List wB,Ab=Ax->∀e1k:Lb,w1k=e1k->∀e1v:Li,w1v=e1v->∀e2k:Lb,w2k=e2k->∀e2v:List (Li),w2v=e2v->∀e3k:Lb,w3k=e3k->∀e3v:Lo,w3v=e3v-> 
Ad=r0/\Ad=Ay/\Aa=Aq/\Ae=Aw/\Ab=Ax/\w1k=e1k/\w1v=e1v/\w2k=e2k/\w2v=e2v/\w3k=e3k/\w3v=e3v)<|by
 rintro Ad Aa Ae Ab w1k w1v w2k w2v w3k w3v;repeat rintro _ rfl
 exact(by repeat' first|apply qt|exact rfl|exact qm)
noncomputable def kku:Con TB.den:= .gp 144 [yqu,yqi] [yqu] [] fun(p0 p1:Int)=>(U64 p0/\0<=p1/\p1<=9223372036854775807,(rhoS p0 p1:Int),())
theorem klp:kku.Ok Tryz.prog TB:=qrv Bs Tryz.func144 .no (ky.c c0) (Q:=∀(p0 p1:Int),(U64 p0/\0<=p1/\p1<=9223372036854775807)->∀r0:Int,rhoS p0 p1=r0-> 
(decide (18446744069414584321<=p0)=true->
0=r0)/\
(decide (18446744069414584321<=p0)=false->
(decide (p1<0)=true->
0=r0)/\
(decide (p1<0)=false->
((18446744069414584321:Int)=18446744069414584321/\U64 (4:Int)/\Us [p0,u64.wrap p1]/\[p0,u64.wrap p1].length<=1099511627776)/\let r1:Int:=(hashS (4:Int) [p0,u64.wrap p1])
r1=r0)))<|by
 rintro p0 p1 h _ rfl;obtain⟨h1,h2,h3⟩:=h;refine ?_;unfold rhoS;rw[wu p1 h2 qqo];refine⟨fun e=> ?_,fun e=>⟨fun e2=> ?_,fun e2=> ?_⟩⟩
 ·have e:=qb e;rw[qf qqo]
 ·have e2:=qb e2;omega
 ·have e:=qc e;rw[qh qqo];refine⟨⟨rfl,by omega,?_,by simp⟩,rfl⟩;intro x hx;simp only[qag,qeg,or_false]at hx;rcases hx with rfl|rfl
  ·exact h1
  ·omega
noncomputable def klt:Con TB.den:= .gp 142 [.st 2] [yqu] [] fun(p0:wZ)=>(TR p0,(bindS p0:Int),())
theorem kmy:klt.Ok Tryz.prog TB:=qrv Bs Tryz.func142 .no (k1n.c (k9z.c (k25.c c0))) (Q:=∀(p0:wZ),(TR p0)->∀r0:Int,bindS p0=r0-> 
(((validE p0) !=0)=true->
0=r0)/\
(((validE p0) !=0)=false->
(TR p0/\TL p0/\p0.wD.length<=1048576/\(∀x∈p0.wD,x.wAB.length<=1024)/\([]:Li).length<=4294967295)/\(U64 (13:Int)/\By (encT p0 ([]:Li))/\(encT p0 ([]:Li)).length<=1099511627775)/\let r1:Int:=(hashB (13:Int) (encT p0 ([]:Li)))
r1=r0))<|by
 rintro p0 h _ rfl;refine ?_;unfold bindS;refine⟨fun e=> ?_,fun e=> ?_⟩
 ·have e:validE p0≠0:=by simpa using e
  rw[qf e]
 ·have e:validE p0=0:=by simpa using e
  have v:=(k12 p0).1 e;rw[qh e];refine⟨⟨h,v.tl,by have:=v.ol;omega,fun x hx=>by have:=(v.o x hx).l;omega,by simp⟩,⟨by omega,encT_by (by intro x hx;cases hx),?_⟩,rfl⟩;have:=v.enc_len [];simp at this ⊢;omega
noncomputable def ke9:Con TB.den:= .gp 202 [.sl yqu,yqu,yqu] [yqu] [] fun(p0:Li) (p1 p2:Int)=>(Us p0/\U64 p1/\U64 p2,((if p0=[]then(if p1<18446744069414584321/\p2<18446744069414584321 then hashS 5 [p1,p2]else 0)else if ix p0 0<18446744069414584321 then ix p0 0 else 0):Int),())
theorem kfm:ke9.Ok Tryz.prog TB:=qrv Bs Tryz.func202 .no (ky.c c0) (Q:=∀(p0:Li) (p1 p2:Int),(Us p0/\U64 p1/\U64 p2)->∀r0:Int,((if p0=[]then(if p1<18446744069414584321/\p2<18446744069414584321 then hashS 5 [p1,p2]else 0)else if ix p0 0<18446744069414584321 then ix p0 0 else 0):Int)=r0-> 
(decide (0<(p0.length:Int))=true->
0<(p0.length:Int)/\let v1:Bool:=decide (18446744069414584321<=(ix p0 0))
(v1=true->
0=r0)/\
(v1=false->
0<(p0.length:Int)/\ix p0 0=r0))/\
(decide (0<(p0.length:Int))=false->
(decide (18446744069414584321<=p1)=true->
0=r0)/\
(decide (18446744069414584321<=p1)=false->
(decide (18446744069414584321<=p2)=true->
0=r0)/\
(decide (18446744069414584321<=p2)=false->
((18446744069414584321:Int)=18446744069414584321/\U64 (5:Int)/\Us [p1,p2]/\[p1,p2].length<=1099511627776)/\(hashS (5:Int) [p1,p2])=r0))))<|by
 rintro p0 p1 p2 h _ rfl;obtain⟨h1,h2,h3⟩:=h;refine⟨fun h=> ?_,fun h=> ?_⟩
 ·have h:=qb h;rw[qf (by rintro rfl;simp at h)];exact⟨h,fun e=>(by rw[qf (by have:=qb e;omega)]),fun e=>⟨h,(by rw[qh (by have:=qc e;omega)])⟩⟩
 ·have h:=qc h;have h:p0=[]:=qdl.1 qqo;rw[qh h];refine⟨fun e=>(by rw[qf (by have:=qb e;omega)]),fun e=>⟨fun e2=>(by rw[qf (by have:=qb e2;omega)]),fun e2=> ?_⟩⟩;rw[qh (by have:=qc e;have:=qc e2;omega)];refine⟨⟨rfl,by omega,?_,by simp⟩,rfl⟩;intro x hx;rcases qag.1 hx with rfl|hx
  ·exact h2
  ·have:x=p2:=by simpa using hx
   rw[this];exact h3
noncomputable def khv:Con TB.den:= .gp 143 [.st 2] [yqu] [] fun(p0:wZ)=>(TR p0,(originS p0:Int),())
theorem kjb:khv.Ok Tryz.prog TB:=qrv Bs Tryz.func143 .no (k1n.c (kfm.c c0)) (Q:=∀(p0:wZ),(TR p0)->∀r0:Int,originS p0=r0-> 
(((validE p0) !=0)=true->
0=r0)/\
(((validE p0) !=0)=false->
(Us p0.wJ/\U64 p0.wX/\U64 p0.wY)/\let r1:Int:=(if p0.wJ=[]then(if p0.wX<18446744069414584321/\p0.wY<18446744069414584321 then hashS 5 [p0.wX,p0.wY]else 0)else if ix p0.wJ 0<18446744069414584321 then ix p0.wJ 0 else 0)
r1=r0))<|by
 rintro p0 h _ rfl;refine ?_;unfold originS;refine⟨fun e=> ?_,fun e=> ?_⟩
 ·have e:validE p0≠0:=by simpa using e
  rw[qf e]
 ·have e:validE p0=0:=by simpa using e
  have v:=(k12 p0).1 e;rw[qh e];refine⟨⟨h.m,h.ac,h.n⟩,?_⟩;have va:=v.am;unfold vAmounts at va;simp only[qe,qae]at va;split
  ·rw[qh ⟨va.1.1.2,va.1.2⟩]
  ·rename_i hne;rw[qh];exact v.m _ (ix_mem _ 0 qqo (by have:=qcz.2 hne;omega))
noncomputable def kd2:Con TB.den:= .gp 93 [.st 2,yqi] [.st 13] [] fun(p0:wZ) (p1:Int)=>(TR p0/\-9223372036854775808<=p1/\p1<=9223372036854775807,(stmtS p0 p1:wAN),())
abbrev Fz4 (r:Type):=Int->Int->Int->Int->Int->Int->Int->Int->(Li)->(Li)->(Li)->r
theorem k5j:kd2.Ok Tryz.prog TB:=qrv Bs Tryz.func93 (.r 3 (.nd [] (.r 0 (.lp [.tokc 274 4 yqu,.tokc 274 3 yqu] ⟨[274,82,307,306],[.cells [zqi,zqu,.row 1,.own 2,.own 3,zqu,zqu,zqu,zqu,zqu],.vec yqu,.tip yqu,.tip yqu],[35],[.one (zqi)],[]⟩ .no)) [] (.r 0 (.rt [.frzc 82 1 2])))) (k1n.c (k31.c (kmy.c (kjb.c (klp.c c0))))) (Q:=∀(p0:wZ) (p1:Int),(TR p0/\-9223372036854775808<=p1/\p1<=9223372036854775807)->∀r0:wAN,stmtS p0 p1=r0-> 
(((validE p0) !=0)=true->
0=r0.wC/\0=r0.wa/\([]:Li)=r0.wJ/\([]:Li)=r0.wAA/\([]:Li)=r0.wAn/\0=r0.wQ/\0=r0.wT/\0=r0.Fee/\0=r0.wX/\0=r0.wBR)/\
(((validE p0) !=0)=false->
(p0.wJ.length<=4294967295)/\(TR p0)/\(TR p0)/\(([]:Li)=([]:Li))/\(([]:Li)=([]:Li))/\lz p0.wJ/\∃(I1:Fz4 Prop) (M1:Fz4 Nat),I1 0 p1 p0.wa p0.wQ p0.wT p0.Fee p0.wX (bindS p0) p0.wJ ([]:Li) ([]:Li)/\∀b1 f1 i1 k1 l1 m1 n1 o1 q1 s1 t1,(I1 b1 f1 i1 k1 l1 m1 n1 o1 q1 s1 t1->
(decide (b1<(p0.wD.length:Int))=true->
(0<=b1)/\b1<(p0.wD.length:Int)/\lz s1/\(s1.length+[(ix p0.wD b1).wg].length)*8<=140737488355328/\s1.length+[(ix p0.wD b1).wg].length<=maxLen/\(U64 (originS p0)/\0<=b1/\b1<=9223372036854775807)/\lz t1/\(t1.length+[(rhoS (originS p0) b1)].length)*8<=140737488355328/\t1.length+[(rhoS (originS p0) b1)].length<=maxLen/\(t1++[(rhoS (originS p0) b1)]=t1++[(rhoS (originS p0) b1)])/\(s1++[(ix p0.wD b1).wg]=s1++[(ix p0.wD b1).wg])/\lz q1/\I1 (i64.wrap (b1+1)) f1 i1 k1 l1 m1 n1 o1 q1 (s1++[(ix p0.wD b1).wg]) (t1++[(rhoS (originS p0) b1)])/\M1 (i64.wrap (b1+1)) f1 i1 k1 l1 m1 n1 o1 q1 (s1++[(ix p0.wD b1).wg]) (t1++[(rhoS (originS p0) b1)])<M1 b1 f1 i1 k1 l1 m1 n1 o1 q1 s1 t1)/\
(decide (b1<(p0.wD.length:Int))=false->
lz q1/\f1=r0.wC/\i1=r0.wa/\q1=r0.wJ/\s1=r0.wAA/\t1=r0.wAn/\k1=r0.wQ/\l1=r0.wT/\m1=r0.Fee/\n1=r0.wX/\o1=r0.wBR))))<|by
 rintro p0 p1 h _ rfl;obtain⟨hr,hd⟩:=h;refine ?_;refine⟨fun e=> ?_,fun e=> ?_⟩
 ·have e:validE p0≠0:=by simpa using e
  unfold stmtS;rw[qf e];exact⟨rfl,rfl,rfl,rfl,rfl,rfl,rfl,rfl,rfl,rfl⟩
 ·have e:validE p0=0:=by simpa using e
  have v:=(k12 _).1 e;have vo:=v.ol;have hor:=klu hr;have es:stmtS p0 p1=⟨p1,p0.wa,p0.wJ,p0.wD.map (·.wg),(List.range p0.wD.length).map (fun i:Nat=>rhoS (originS p0) (i:Int)),p0.wQ,p0.wT,p0.Fee,p0.wX,bindS p0⟩:=by unfold stmtS;rw[qh e]
  refine⟨by have:=v.ml;omega,hr,hr,rfl,rfl,rfl,?_⟩;refine⟨(fun i z1 z2 z3 z4 z5 z6 z7 z8 g g' =>(p1=z1/\p0.wa=z2/\p0.wQ=z3/\p0.wT=z4/\p0.Fee=z5/\p0.wX=z6/\bindS p0=z7/\p0.wJ=z8)/\0<=i/\i<=p0.wD.length/\g=(p0.wD.take i.toNat).map (·.wg)/\g' =(List.range i.toNat).map (fun i:Nat=>rhoS (originS p0) (i:Int))),(fun i _ _ _ _ _ _ _ _ _ _=>(p0.wD.length-i).toNat),⟨⟨rfl,rfl,rfl,rfl,rfl,rfl,rfl,rfl⟩,by omega,by omega,by simp,by simp⟩,?_⟩;rintro i _ _ _ _ _ _ _ _ g g' ⟨⟨rfl,rfl,rfl,rfl,rfl,rfl,rfl,rfl⟩,g0,g1,rfl,rfl⟩;refine⟨fun hh=> ?_,fun hh=> ?_⟩
  ·have hh:=qb hh;rw[inc i p0.wD.length g0 hh qqo];refine⟨g0,hh,rfl,by simp;omega,by simp;unfold maxLen;omega,⟨hor,by omega,by omega⟩,rfl,by simp;omega,by simp;unfold maxLen;omega,rfl,rfl,rfl,⟨⟨rfl,rfl,rfl,rfl,rfl,rfl,rfl,rfl⟩,by omega,by omega,?_,?_⟩,by(first|omega|(dsimp only;omega))⟩
   ·rw[ke p0.wD i g0 hh];simp
   ·rw[show(i+1).toNat=i.toNat+1 by omega,List.range_succ];simp[show max i 0=i by omega]
  ·have hh:=qc hh;rw[qx qqo,show i.toNat=p0.wD.length by omega];rw[es];exact⟨rfl,rfl,rfl,rfl,rfl,rfl,rfl,rfl,rfl,rfl,rfl⟩
noncomputable def k9n:Con TB.den:= .tp 87 [.st 5] [.bool] [] fun(p0:wAa)=>((prS p0:Bool),())
theorem kat:k9n.Ok Tryz.prog TB:=qtv Bs Tryz.func87 (.r 0 (.jn ⟨[],[],[3],[.one (.d (.bool))],[]⟩ [] .no [] (.jn ⟨[],[],[4],[.one (.d (.bool))],[]⟩ [] .no [] .no))) c0 (Q:=∀(p0:wAa),∀r0:Bool,prS p0=r0-> 
∀J1:Bool->Prop,(∀(b1:Bool),
(∀J2:Bool->Prop,(∀(f1:Bool),
((b1=true->
(f1=true->
(decide (1<=p0.wBD)=true->
decide (p0.wBD<=64)=r0)/\
(decide (1<=p0.wBD)=false->
false=r0))/\
(f1=false->
false=r0))/\
(b1=false->
false=r0))->J2 f1)->
((p0.wAq==1)=true->
J2 true)/\
((p0.wAq==1)=false->
((p0.wAq==2)=true->
J2 true)/\
((p0.wAq==2)=false->
((p0.wAq==4)=true->
J2 true)/\
((p0.wAq==4)=false->
J2 (p0.wAq==8)))))->J1 b1)->
(decide (2<=p0.wBE)=true->
(decide (p0.wBE<=256)=true->
let v1:Int:=iand .i64 p0.wBE (i64.wrap (p0.wBE-1))
J1 (v1==0))/\
(decide (p0.wBE<=256)=false->
J1 false))/\
(decide (2<=p0.wBE)=false->
J1 false))<|by
 rintro p0 _ rfl;have hb4:pws 4 1 p0.wAq=((p0.wAq==1)||(p0.wAq==2)||(p0.wAq==4)||(p0.wAq==8)):=by simp[pws,List.range_succ,Bool.or_assoc]
 intro J1 j1
 have j1:∀a,a=pws 8 2 p0.wBE->J1 a:=by
  intro a ha;refine j1 _ fun J2 j2=> ?_
  have j2:∀b,b=pws 4 1 p0.wAq->J2 b:=by
   intro b hb;refine j2 _ ?_;unfold prS;rw[<-ha,<-hb];refine⟨fun e=>⟨fun e2=>⟨fun e3=> ?_,fun e3=> ?_⟩,fun e2=> ?_⟩,fun e=> ?_⟩
   ·rw[e,e2,e3];simp
   ·rw[e,e2,e3];simp
   ·rw[e,e2];simp
   ·rw[e];simp
  refine⟨fun e=>j2 _ ?_,fun e=>⟨fun e2=>j2 _ ?_,fun e2=>⟨fun e3=>j2 _ ?_,fun e3=>j2 _ ?_⟩⟩⟩
  ·rw[hb4,e];rfl
  ·rw[hb4,e,e2];rfl
  ·rw[hb4,e,e2,e3];rfl
  ·rw[hb4,e,e2,e3];rfl
 refine⟨fun e=>⟨fun e2=> ?_,fun e2=>j1 _ ?_⟩,fun e=>j1 _ ?_⟩
 ·have e:=qb e;have e2:=qb e2;obtain⟨b,hb⟩:=qo (show 0<=p0.wBE by omega);refine j1 _ ?_;rw[hb,ko _ qqo qqo];exact pws_and b qqo
 ·have e2:=qc e2;cases hq:pws 8 2 p0.wBE with
  |false=>rfl
  |true=>have:=kgl hq qqd;simp at this;omega
 ·have e:=qc e;cases hq:pws 8 2 p0.wBE with
  |false=>rfl
  |true=>have:=kgl hq qqd;simp at this;omega
noncomputable def ka9:Con TB.den:= .tp 40 [.st 0] [yqi] [] fun(p0:wE)=>((rulesE p0:Int),())
theorem k15:ka9.Ok Tryz.prog TB:=qtv Bs Tryz.func40 (.r 0 (.jn ⟨[],[],[3],[.one (.d (.bool))],[]⟩ [] .no [] .no)) (kat.c c0) (Q:=∀(p0:wE),∀r0:Int,rulesE p0=r0-> 
∀J1:Bool->Prop,(∀(b1:Bool),
(((!b1)=true->
1=r0)/\
((!b1)=false->
((p0.wb==1)=true->
let r1:Bool:=(prS (wAa.mk p0.wR p0.wO p0.wN))
((!r1)=true->
1=r0)/\
((!r1)=false->
0=r0))/\
((p0.wb==1)=false->
0=r0)))->J1 b1)->
(decide (1<=p0.wb)=true->
(decide (p0.wb<=3)=true->
(decide (1<=p0.wC)=true->
(decide (p0.wC<=12)=true->
(decide (1<=p0.wc)=true->
(decide (p0.wc<=100)=true->
(decide (1<=p0.wU)=true->
(decide (p0.wU<=1048576)=true->
(decide (p0.wV<=4294967296)=true->
(decide (1<=p0.wW)=true->
J1 (decide (p0.wW<=65536)))/\
(decide (1<=p0.wW)=false->
J1 false))/\
(decide (p0.wV<=4294967296)=false->
J1 false))/\
(decide (p0.wU<=1048576)=false->
J1 false))/\
(decide (1<=p0.wU)=false->
J1 false))/\
(decide (p0.wc<=100)=false->
J1 false))/\
(decide (1<=p0.wc)=false->
J1 false))/\
(decide (p0.wC<=12)=false->
J1 false))/\
(decide (1<=p0.wC)=false->
J1 false))/\
(decide (p0.wb<=3)=false->
J1 false))/\
(decide (1<=p0.wb)=false->
J1 false))<|by
 rintro p0 _ rfl;intro J1 j1
 have j1:∀b,b=rulesB p0->J1 b:=by
  intro b hb;refine j1 _ ?_;unfold rulesE;rw[<-hb];refine⟨fun e=> ?_,fun e=> ?_⟩
  ·have e:b=false:=by simpa using e
   rw[e];rfl
  ·have e:b=true:=by simpa using e
   rw[e,qh rfl];refine⟨fun e2=>⟨fun e3=> ?_,fun e3=> ?_⟩,fun e2=> ?_⟩
   ·have e2:p0.wb=1:=by simpa using e2
    have e3:¬prS ⟨p0.wR,p0.wO,p0.wN⟩=true:=by simpa using e3
    rw[qh e2,qf e3]
   ·have e2:p0.wb=1:=by simpa using e2
    have e3:prS ⟨p0.wR,p0.wO,p0.wN⟩=true:=by simpa using e3
    rw[qh e2,qh e3]
   ·have e2:¬p0.wb=1:=by simpa using e2
    rw[qf e2]
 have no:∀b:Bool,(b=false->rulesB p0=false)->b=false->false=rulesB p0:=fun b h e=>(h e).symm;refine⟨fun e1=>⟨fun e2=>⟨fun e3=>⟨fun e4=>⟨fun e5=>⟨fun e6=>⟨fun e7=>⟨fun e8=>⟨fun e9=>⟨fun e10=>j1 _ ?_,fun e=>j1 _ ?_⟩,fun e=>j1 _ ?_⟩,fun e=>j1 _ ?_⟩,fun e=>j1 _ ?_⟩,fun e=>j1 _ ?_⟩,fun e=>j1 _ ?_⟩,fun e=>j1 _ ?_⟩,fun e=>j1 _ ?_⟩,fun e=>j1 _ ?_⟩,fun e=>j1 _ ?_⟩
 ·unfold rulesB;rw[e1,e2,e3,e4,e5,e6,e7,e8,e9,e10];simp
 all_goals unfold rulesB;rw[e];simp
noncomputable def ki5:Con TB.den:= .gp 273 [yqu,.sl yqu] [yqu] [] fun(p0:Int) (p1:Li)=>(U64 p0/\Us p1/\p1.length<=1099511627776,(hashS p0 p1:Int),())
theorem k93:ki5.Ok Tryz.prog TB:=qrv Bs Tryz.func273 .no (ky.c c0) (Q:=∀(p0:Int) (p1:Li),(U64 p0/\Us p1/\p1.length<=1099511627776)->∀r0:Int,hashS p0 p1=r0-> 
((18446744069414584321:Int)=18446744069414584321/\U64 p0/\Us p1/\p1.length<=1099511627776)/\(hashS p0 p1)=r0)<|by rintro p0 p1 h _ rfl;exact⟨⟨rfl,h.1,h.2.1,h.2.2⟩,rfl⟩
noncomputable def kbc:Con TB.den:= .gp 195 [yqu] [yqu] [] fun(p0:Int)=>(U64 p0,(acctS p0:Int),())
theorem kd6:kbc.Ok Tryz.prog TB:=qrv Bs Tryz.func195 .no (k93.c c0) (Q:=∀(p0:Int),(U64 p0)->∀r0:Int,acctS p0=r0-> 
(U64 (7:Int)/\Us [p0]/\[p0].length<=1099511627776)/\(hashS (7:Int) [p0])=r0)<|by rintro p0 h _ rfl;exact⟨⟨by decide,(by intro x hx;rw[qaf]at hx;subst hx;exact h),by simp⟩,rfl⟩
noncomputable def k8b:Con TB.den:= .gp 366 [.sl yqu] [.bool] [] fun(p0:Li)=>(p0.length<=9223372036854775807,(allB p0:Bool),())
theorem k8r:k8b.Ok Tryz.prog TB:=qrv Bs Tryz.func366 (.r 0 (.nd [] (.r 0 (.lp [] ⟨[],[],[7],[.one (zqi)],[]⟩ .no)) [] .no)) c0 (Q:=∀(p0:Li),(p0.length<=9223372036854775807)->∀r0:Bool,allB p0=r0-> 
∃(I1:Int->Prop) (M1:Int->Nat),I1 0/\∀b1,(I1 b1->
(decide (b1<(p0.length:Int))=true->
(0<=b1)/\b1<(p0.length:Int)/\let v1:Bool:=decide (18446744069414584321<=(ix p0 b1))
(v1=true->
false=r0)/\
(v1=false->
I1 (i64.wrap (b1+1))/\M1 (i64.wrap (b1+1))<M1 b1))/\
(decide (b1<(p0.length:Int))=false->
true=r0)))<|by rintro p0 h _ rfl;refine(⟨(AllI (fun x=>decide (x<18446744069414584321)) p0),(fun i=>(p0.length-i).toNat),AllI.start,?_⟩);intro i hi;refine⟨fun hh=> ?_,fun hh=>(hi.done (qc hh)).symm⟩;have hh:=qb hh;exact⟨hi.1,hh,fun e=>(hi.bad hh (by simpa using e)).symm,fun e=>hi.next hh qqo (by simpa using e)⟩
noncomputable def k4u:Con TB.den:= .g (gk 367 [.one (.own 0),.one (zqu)] [.tip yqb] (.one (.one (.own 0)))) [yqu,.sl yqb] [.sl yqb] [] fun(p1:Int) (w0:Li)=>(U64 p1/\w0.length<=137438953472,(w0++dig 8 p1:Li),())
theorem k5l:k4u.Ok Tryz.prog TB:=prv Bs Tryz.func367 (.r 0 (.nd [] (.r 0 (.lp [] ⟨[0],[.tip yqb],[0,1,5],[.one (.own 0),.one (zqu),.one (zqi)],[]⟩ .no)) [] .no)) c0 (Q:=∀(p1:Int) (w0:Li),(U64 p1/\w0.length<=137438953472)->∀e0:Li,(w0++dig 8 p1)=e0-> 
(w0=w0)/\∃(I1:Int->Int->(Li)->Prop) (M1:Int->Int->(Li)->Nat),I1 p1 0 w0/\∀b1 f1 i1,(I1 b1 f1 i1->
(decide (f1<8)=true->
lz i1/\(i1.length+[IntKind.u8.wrap b1].length)*1<=140737488355328/\i1.length+[IntKind.u8.wrap b1].length<=maxLen/\(i1++[IntKind.u8.wrap b1]=i1++[IntKind.u8.wrap b1])/\I1 (ishr .u64 b1 8) (i64.wrap (f1+1)) (i1++[IntKind.u8.wrap b1])/\M1 (ishr .u64 b1 8) (i64.wrap (f1+1)) (i1++[IntKind.u8.wrap b1])<M1 b1 f1 i1)/\
(decide (f1<8)=false->
(i1=i1)/\i1=e0)))<|by
 rintro p1 w0 h _ rfl;obtain⟨h1,h2⟩:=h;refine⟨rfl,⟨(fun n i g=>0<=i/\i<=8/\U64 n/\n=p1/256^i.toNat/\g=w0++dig i.toNat p1),(fun _ i _=>(8-i).toNat),⟨by omega,by omega,h1,by simp,by simp[dig]⟩,?_⟩⟩;rintro n i g ⟨g0,g1,g2,g3,rfl⟩;refine⟨fun h=> ?_,fun h=> ?_⟩
 ·have h:=qb h;rw[inc i 8 g0 h qqo,ishr8,u8w];refine⟨rfl,?_,?_,rfl,⟨by omega,by omega,⟨by omega,by omega⟩,?_,?_⟩,by(first|omega|(dsimp only;omega))⟩
  ·simp;omega
  ·simp;unfold maxLen;omega
  ·rw[g3,show(i+1).toNat=i.toNat+1 by omega,qei (qef (k2v _)),qcp]
  ·rw[show(i+1).toNat=i.toNat+1 by omega,kbj,qw,g3]
 ·have h:=qc h;exact⟨rfl,by rw[show i=8 by omega];rfl⟩
noncomputable def kfp:Con TB.den:= .gp 274 [.sl yqu,.sl yqu] [.str] [] fun(p0 p1:Li)=>(Us p0/\Us p1/\p0.length<=1073741824/\p1.length<=1073741824,(keyB p1 p0:ByteArray),())
theorem kij:kfp.Ok Tryz.prog TB:=qrv Bs Tryz.func274 (.r 1 (.nd [] (.r 0 (.lp [.frz 0 [5]] ⟨[1],[.tip yqb],[5,19],[.one (.own 0),.one (zqi)],[]⟩ .no)) [] (.nd [] (.r 0 (.lp [] ⟨[1],[.tip yqb],[5,29],[.one (.own 0),.one (zqi)],[]⟩ .no)) [] .no))) (k5l.c c0) (Q:=∀(p0 p1:Li),(Us p0/\Us p1/\p0.length<=1073741824/\p1.length<=1073741824)->∀r0:ByteArray,keyB p1 p0=r0-> 
let v1:Int:=i64.wrap ((p1.length:Int)+(p0.length:Int))
0<=(0:Int)/\(0:Int)<=i64.wrap (8*v1)/\((i64.wrap (8*v1)).toNat*1<=140737488355328)/\((i64.wrap (8*v1)).toNat<=maxLen)/\(0=(List.replicate 0 (0:Int)).length)/\(List.replicate 0 (0:Int)=List.replicate 0 (0:Int))/\∃(I1:Int->(Li)->Prop) (M1:Int->(Li)->Nat),I1 0 (List.replicate 0 (0:Int))/\∀b1 f1,(I1 b1 f1->
(decide (b1<(p1.length:Int))=true->
(0<=b1)/\b1<(p1.length:Int)/\(f1=f1)/\(U64 (ix p1 b1)/\f1.length<=137438953472)/\((f1++dig 8 (ix p1 b1))=(f1++dig 8 (ix p1 b1)))/\I1 (i64.wrap (b1+1)) (f1++dig 8 (ix p1 b1))/\M1 (i64.wrap (b1+1)) (f1++dig 8 (ix p1 b1))<M1 b1 f1)/\
(decide (b1<(p1.length:Int))=false->
(f1=f1)/\∃(I2:Int->(Li)->Prop) (M2:Int->(Li)->Nat),I2 0 f1/\∀i1 k1,(I2 i1 k1->
(decide (i1<(p0.length:Int))=true->
(0<=i1)/\i1<(p0.length:Int)/\(k1=k1)/\(U64 (ix p0 i1)/\k1.length<=137438953472)/\((k1++dig 8 (ix p0 i1))=(k1++dig 8 (ix p0 i1)))/\I2 (i64.wrap (i1+1)) (k1++dig 8 (ix p0 i1))/\M2 (i64.wrap (i1+1)) (k1++dig 8 (ix p0 i1))<M2 i1 k1)/\
(decide (i1<(p0.length:Int))=false->
strOfNums k1=r0)))))<|by
 rintro p0 p1 h _ rfl;obtain⟨h0,h1,h2,h3⟩:=h;refine ?_;rw[wi ((p1.length:Int)+p0.length) qqo qqo];dsimp only;rw[wi (8*((p1.length:Int)+p0.length)) qqo qqo];refine⟨by omega,by omega,by omega,by unfold maxLen;omega,rfl,rfl,?_⟩;refine⟨(fun i g=>FlatI (dig 8) [] p1 i g),(fun i _=>(p1.length-i).toNat),FlatI.start,?_⟩;intro i g hg;have hl:=hg.len 8 (fun x _=>by simp);refine⟨fun hh=> ?_,fun hh=> ?_⟩
 ·have hh:=qb hh;exact⟨hg.1,hh,rfl,⟨h1 _ (ix_mem p1 i hg.1 hh),by simp at hl;omega⟩,rfl,hg.next hh qqo rfl⟩
 ·have hh:=qc hh;have e:=hg.done hh;refine⟨rfl,⟨(fun j g=>FlatI (dig 8) (p1.flatMap (dig 8)) p0 j g),(fun j _=>(p0.length-j).toNat),(by rw[e];exact FlatI.start),?_⟩⟩;intro j g2 hg2;have hl2:=hg2.len 8 (fun x _=>by simp);have hl3:=k2x p1;refine⟨fun hh2=> ?_,fun hh2=> ?_⟩
  ·have hh2:=qb hh2;exact⟨hg2.1,hh2,rfl,⟨h0 _ (ix_mem p0 j hg2.1 hh2),by omega⟩,rfl,hg2.next hh2 qqo rfl⟩
  ·rw[hg2.done (qc hh2)];rfl
noncomputable def kdk:Con TB.den:= .g (gk 271 [.one (.ptr 0 0),.one (zqu),.one (zql)] yQ (.tup [.one (zqu),.one (.d (.bool))])) [yqu,.sl yqu,.bool,yqu,yqi,.sl (.st 4),.sl (.str),.sl yqi,.sl (.str),.sl (.sl yqu),.sl (.str),.sl (.bool)] yW [] fun(p1:Int) (p2:Li) (Ad:Bool) (Aa Ae:Int) (Ab:List wB) (w1k:Lb) (w1v:Li) (w2k:Lb) (w2v:List (Li)) (w3k:Lb) (w3v:Lo)=>(U64 p1/\Us p2/\p2.length<=1073741824/\OrOk w1k w1v Ab,((pk Ad Ab w1k w1v p1 p2).getD 0:Int),((pk Ad Ab w1k w1v p1 p2).isSome:Bool),Ad,Aa,Ae,Ab,w1k,w1v,w2k,w2v,w3k,w3v,())
theorem k6f:kdk.Ok Tryz.prog TB:=prv Bs Tryz.func271 .no (k8r.c (kij.c (ky.c c0))) (Q:=∀(p1:Int) (p2:Li) (Ad:Bool) (Aa Ae:Int) (Ab:List wB) (w1k:Lb) (w1v:Li) (w2k:Lb) (w2v:List (Li)) (w3k:Lb) (w3v:Lo),(U64 p1/\Us p2/\p2.length<=1073741824/\OrOk w1k w1v Ab)->∀r0:Int,((pk Ad Ab w1k w1v p1 p2).getD 0)=r0->∀r1:Bool,((pk Ad Ab w1k w1v p1 p2).isSome)=r1->∀Ay:Bool,Ad=Ay->∀Aq:Int,Aa=Aq->∀Aw:Int,Ae=Aw->∀Ax:List wB,Ab=Ax->∀e1k:Lb,w1k=e1k->∀e1v:Li,w1v=e1v->∀e2k:Lb,w2k=e2k->∀e2v:List (Li),w2v=e2v->∀e3k:Lb,w3k=e3k->∀e3v:Lo,w3v=e3v-> 
(p2.length<=9223372036854775807)/\((!(allB p2))=true->
0=r0/\false=r1/\Ad=Ay/\Aa=Aq/\Ae=Aw/\Ab=Ax/\w1k=e1k/\w1v=e1v/\w2k=e2k/\w2v=e2v/\w3k=e3k/\w3v=e3v)/\
((!(allB p2))=false->
(Us p2/\Us [p1]/\p2.length<=1073741824/\[p1].length<=1073741824)/\w1k.length=w1v.length/\let v2:Int:=mVal (BEq.beq (keyB [p1] p2)) w1k w1v (0:Int)
(mHas (BEq.beq (keyB [p1] p2)) w1k=true->
(0<=v2)/\v2<(Ab.length:Int)/\(ix Ab v2).wAj=r0/\true=r1/\Ad=Ay/\Aa=Aq/\Ae=Aw/\Ab=Ax/\w1k=e1k/\w1v=e1v/\w2k=e2k/\w2v=e2v/\w3k=e3k/\w3v=e3v)/\
(mHas (BEq.beq (keyB [p1] p2)) w1k=false->
(Ad=true->
0=r0/\false=r1/\Ad=Ay/\Aa=Aq/\Ae=Aw/\Ab=Ax/\w1k=e1k/\w1v=e1v/\w2k=e2k/\w2v=e2v/\w3k=e3k/\w3v=e3v)/\
(Ad=false->
((18446744069414584321:Int)=18446744069414584321/\U64 p1/\Us p2/\p2.length<=1099511627776)/\(hashS p1 p2)=r0/\true=r1/\Ad=Ay/\Aa=Aq/\Ae=Aw/\Ab=Ax/\w1k=e1k/\w1v=e1v/\w2k=e2k/\w2v=e2v/\w3k=e3k/\w3v=e3v))))<|by
 rintro p1 p2 Ad Aa Ae Ab w1k w1v w2k w2v w3k w3v h;repeat rintro _ rfl
 obtain⟨h1,h2,h3,ho⟩:=h;have hu:Us [p1]:=by intro x hx;rw[qaf]at hx;subst hx;exact h1
 refine⟨by omega,fun e=> ?_,fun e=>⟨⟨h2,hu,h3,by simp⟩,ho.len,fun hm=> ?_,fun hm=>⟨fun hi=> ?_,fun hi=>⟨⟨rfl,h1,h2,by omega⟩,?_⟩⟩⟩⟩
 ·have e:allB p2=false:=by simpa using e
  simp[pk,e]
 ·have e:allB p2=true:=by simpa using e
  have hv:=ho.rng _ (kpu (z:=(0:Int)) hm ho.len);refine⟨hv.1,hv.2,?_⟩;simp[pk,e,hm]
 ·have e:allB p2=true:=by simpa using e
  simp[pk,e,hm,hi]
 ·have e:allB p2=true:=by simpa using e
  simp[pk,e,hm,hi]
noncomputable def kfl:Con TB.den:= .tp 270 [.st 15] [.bool] [] fun(p0:wS)=>((noteV p0:Bool),())
theorem k3t:kfl.Ok Tryz.prog TB:=qtv Bs Tryz.func270 .no c0 (Q:=∀(p0:wS),∀r0:Bool,noteV p0=r0-> 
(decide (p0.Value<=4294967295)=true->
(decide (p0.wBB<18446744069414584321)=true->
(decide (p0.Rho<18446744069414584321)=true->
decide (p0.wBF<18446744069414584321)=r0)/\
(decide (p0.Rho<18446744069414584321)=false->
false=r0))/\
(decide (p0.wBB<18446744069414584321)=false->
false=r0))/\
(decide (p0.Value<=4294967295)=false->
false=r0))<|by rintro p0 _ rfl;refine ?_;unfold noteV;grind
noncomputable def kae:Con TB.den:= .tp 272 [.st 15] [.sl yqu] [] fun(p0:wS)=>((noteL p0:Li),())
theorem kcv:kae.Ok Tryz.prog TB:=qtv Bs Tryz.func272 .no c0 (Q:=∀(p0:wS),∀r0:Li,noteL p0=r0-> 
[p0.Value,p0.wBB,p0.Rho,p0.wBF]=r0)<|by rintro p0 _ rfl;exact rfl
noncomputable def k8e:Con TB.den:= .g (gk 194 [.one (.ptr 0 0),.agg [zqu,zqu,zqu,zqu]] yQ (.tup [.one (zqu),.one (.d (.bool))])) [.st 15,.bool,yqu,yqi,.sl (.st 4),.sl (.str),.sl yqi,.sl (.str),.sl (.sl yqu),.sl (.str),.sl (.bool)] yW [] fun(p1:wS) (Ad:Bool) (Aa Ae:Int) (Ab:List wB) (w1k:Lb) (w1v:Li) (w2k:Lb) (w2v:List (Li)) (w3k:Lb) (w3v:Lo)=>(NR p1/\OrOk w1k w1v Ab,((commP (pk Ad Ab w1k w1v) p1).getD 0:Int),((commP (pk Ad Ab w1k w1v) p1).isSome:Bool),Ad,Aa,Ae,Ab,w1k,w1v,w2k,w2v,w3k,w3v,())
theorem k2c:k8e.Ok Tryz.prog TB:=prv Bs Tryz.func194 .no (k3t.c (kcv.c (k6f.c c0))) (Q:=∀(p1:wS) (Ad:Bool) (Aa Ae:Int) (Ab:List wB) (w1k:Lb) (w1v:Li) (w2k:Lb) (w2v:List (Li)) (w3k:Lb) (w3v:Lo),(NR p1/\OrOk w1k w1v Ab)->∀r0:Int,((commP (pk Ad Ab w1k w1v) p1).getD 0)=r0->∀r1:Bool,((commP (pk Ad Ab w1k w1v) p1).isSome)=r1->∀Ay:Bool,Ad=Ay->∀Aq:Int,Aa=Aq->∀Aw:Int,Ae=Aw->∀Ax:List wB,Ab=Ax->∀e1k:Lb,w1k=e1k->∀e1v:Li,w1v=e1v->∀e2k:Lb,w2k=e2k->∀e2v:List (Li),w2v=e2v->∀e3k:Lb,w3k=e3k->∀e3v:Lo,w3v=e3v-> 
((!(noteV p1))=true->
0=r0/\false=r1/\Ad=Ay/\Aa=Aq/\Ae=Aw/\Ab=Ax/\w1k=e1k/\w1v=e1v/\w2k=e2k/\w2v=e2v/\w3k=e3k/\w3v=e3v)/\
((!(noteV p1))=false->
(U64 (2:Int)/\Us (noteL p1)/\(noteL p1).length<=1073741824/\OrOk w1k w1v Ab)/\let r2:Int:=((pk Ad Ab w1k w1v (2:Int) (noteL p1)).getD 0)
let r3:Bool:=((pk Ad Ab w1k w1v (2:Int) (noteL p1)).isSome)
r2=r0/\r3=r1/\Ad=Ay/\Aa=Aq/\Ae=Aw/\Ab=Ax/\w1k=e1k/\w1v=e1v/\w2k=e2k/\w2v=e2v/\w3k=e3k/\w3v=e3v))<|by
 rintro p1 Ad Aa Ae Ab w1k w1v w2k w2v w3k w3v h;repeat rintro _ rfl
 obtain⟨h1,ho⟩:=h
 have hu:Us (noteL p1):=by
  intro x hx;simp only[noteL,qag,qeg,or_false]at hx;rcases hx with rfl|rfl|rfl|rfl
  ·exact h1.v
  ·exact h1.o
  ·exact h1.r
  ·exact h1.b
 refine ?_;simp only[knr];unfold commP;refine⟨fun e=> ?_,fun e=>⟨⟨by decide,hu,by simp[noteL],ho⟩,?_⟩⟩
 ·have e:noteV p1=false:=by simpa using e
  simp[e]
 ·have e:noteV p1=true:=by simpa using e
  simp[e]
noncomputable def k8k:Con TB.den:= .gp 196 [.st 16] [yqu] [] fun(p0:wj)=>(p0.Ins.length<=9223372036854775807,(inS p0.Ins:Int),())
theorem k8y:k8k.Ok Tryz.prog TB:=qrv Bs Tryz.func196 (.r 1 (.nd [] (.r 0 (.lp [] ⟨[],[],[3,9],[.one (zqu),.one (zqi)],[]⟩ .no)) [] .no)) c0 (Q:=∀(p0:wj),(p0.Ins.length<=9223372036854775807)->∀r0:Int,inS p0.Ins=r0-> 
∃(I1:Int->Int->Prop) (M1:Int->Int->Nat),I1 0 0/\∀b1 f1,(I1 b1 f1->
(decide (f1<(p0.Ins.length:Int))=true->
(0<=f1)/\f1<(p0.Ins.length:Int)/\let v1:Int:=u64.wrap (b1+((ix p0.Ins f1).wl))
I1 v1 (i64.wrap (f1+1))/\M1 v1 (i64.wrap (f1+1))<M1 b1 f1)/\
(decide (f1<(p0.Ins.length:Int))=false->
b1=r0)))<|by rintro p0 h _ rfl;refine(⟨(fun s i=>FoldI (fun s x=>(s+x.wl)%18446744073709551616) 0 p0.Ins i s),(fun s i=>(p0.Ins.length-i).toNat),FoldI.start,?_⟩);intro s i hi;refine⟨fun hh=> ?_,fun hh=>hi.done (qc hh)⟩;have hh:=qb hh;exact⟨hi.1,hh,hi.next hh qqo (by rw[u64w])⟩
noncomputable def k7p:Con TB.den:= .gp 197 [.st 16] [yqu] [] fun(p0:wj)=>(p0.wD.length<=9223372036854775807,(outS p0.wD:Int),())
theorem k32:k7p.Ok Tryz.prog TB:=qrv Bs Tryz.func197 (.r 1 (.nd [] (.r 0 (.lp [] ⟨[],[],[3,9],[.one (zqu),.one (zqi)],[]⟩ .no)) [] .no)) c0 (Q:=∀(p0:wj),(p0.wD.length<=9223372036854775807)->∀r0:Int,outS p0.wD=r0-> 
∃(I1:Int->Int->Prop) (M1:Int->Int->Nat),I1 0 0/\∀b1 f1,(I1 b1 f1->
(decide (f1<(p0.wD.length:Int))=true->
(0<=f1)/\f1<(p0.wD.length:Int)/\let v1:Int:=u64.wrap (b1+((ix p0.wD f1).Value))
I1 v1 (i64.wrap (f1+1))/\M1 v1 (i64.wrap (f1+1))<M1 b1 f1)/\
(decide (f1<(p0.wD.length:Int))=false->
b1=r0)))<|by rintro p0 h _ rfl;refine(⟨(fun s i=>FoldI (fun s x=>(s+x.Value)%18446744073709551616) 0 p0.wD i s),(fun s i=>(p0.wD.length-i).toNat),FoldI.start,?_⟩);intro s i hi;refine⟨fun hh=> ?_,fun hh=>hi.done (qc hh)⟩;have hh:=qb hh;exact⟨hi.1,hh,hi.next hh qqo (by rw[u64w])⟩
noncomputable def k6b:Con TB.den:= .gp 264 [.sl yqu] [.bool] [] fun(p0:Li)=>(p0.length<=9223372036854775807,(allB p0:Bool),())
theorem k2w:k6b.Ok Tryz.prog TB:=qrv Bs Tryz.func264 (.r 0 (.nd [] (.r 0 (.lp [] ⟨[],[],[7],[.one (zqi)],[]⟩ .no)) [] .no)) c0 (Q:=∀(p0:Li),(p0.length<=9223372036854775807)->∀r0:Bool,allB p0=r0-> 
∃(I1:Int->Prop) (M1:Int->Nat),I1 0/\∀b1,(I1 b1->
(decide (b1<(p0.length:Int))=true->
(0<=b1)/\b1<(p0.length:Int)/\let v1:Bool:=decide (18446744069414584321<=(ix p0 b1))
(v1=true->
false=r0)/\
(v1=false->
I1 (i64.wrap (b1+1))/\M1 (i64.wrap (b1+1))<M1 b1))/\
(decide (b1<(p0.length:Int))=false->
true=r0)))<|by rintro p0 h _ rfl;refine(⟨(AllI (fun x=>decide (x<18446744069414584321)) p0),(fun i=>(p0.length-i).toNat),AllI.start,?_⟩);intro i hi;refine⟨fun hh=> ?_,fun hh=>(hi.done (qc hh)).symm⟩;have hh:=qb hh;exact⟨hi.1,hh,fun e=>(hi.bad hh (by simpa using e)).symm,fun e=>hi.next hh qqo (by simpa using e)⟩
noncomputable def k9h:Con TB.den:= .gp 266 [.sl (.st 15)] [.bool] [] fun(p0:List wS)=>(p0.length<=9223372036854775807,(p0.all noteV:Bool),())
theorem ka6:k9h.Ok Tryz.prog TB:=qrv Bs Tryz.func266 (.r 0 (.nd [] (.r 0 (.lp [] ⟨[],[],[7],[.one (zqi)],[]⟩ .no)) [] .no)) (k3t.c c0) (Q:=∀(p0:List wS),(p0.length<=9223372036854775807)->∀r0:Bool,p0.all noteV=r0-> 
∃(I1:Int->Prop) (M1:Int->Nat),I1 0/\∀b1,(I1 b1->
(decide (b1<(p0.length:Int))=true->
(0<=b1)/\b1<(p0.length:Int)/\((!(noteV (ix p0 b1)))=true->
false=r0)/\
((!(noteV (ix p0 b1)))=false->
I1 (i64.wrap (b1+1))/\M1 (i64.wrap (b1+1))<M1 b1))/\
(decide (b1<(p0.length:Int))=false->
true=r0)))<|by rintro p0 h _ rfl;refine(⟨(AllI noteV p0),(fun i=>(p0.length-i).toNat),AllI.start,?_⟩);intro i hi;refine⟨fun hh=> ?_,fun hh=>(hi.done (qc hh)).symm⟩;have hh:=qb hh;exact⟨hi.1,hh,fun e=>(hi.bad hh (by simpa using e)).symm,fun e=>hi.next hh qqo (by simpa using e)⟩
noncomputable def k5x:Con TB.den:= .gp 265 [.st 14] [.bool] [] fun(p0:wP)=>(p0.wo.length<=9223372036854775807,(spendV p0:Bool),())
theorem k6j:k5x.Ok Tryz.prog TB:=qrv Bs Tryz.func265 .no (k3t.c (k2w.c c0)) (Q:=∀(p0:wP),(p0.wo.length<=9223372036854775807)->∀r0:Bool,spendV p0=r0-> 
let r1:Bool:=(noteV (wS.mk p0.wl p0.wAE p0.wAK p0.wAm))
(r1=true->
([p0.Key].length<=9223372036854775807)/\((allB [p0.Key])=true->
(decide (0<=p0.wAQ)=true->
(decide (p0.wAQ<4)=true->
(decide (0<=p0.wH)=true->
(decide (p0.wH<=4095)=true->
(decide ((p0.wo.length:Int)<=12)=true->
(p0.wo.length<=9223372036854775807)/\(allB p0.wo)=r0)/\
(decide ((p0.wo.length:Int)<=12)=false->
false=r0))/\
(decide (p0.wH<=4095)=false->
false=r0))/\
(decide (0<=p0.wH)=false->
false=r0))/\
(decide (p0.wAQ<4)=false->
false=r0))/\
(decide (0<=p0.wAQ)=false->
false=r0))/\
((allB [p0.Key])=false->
false=r0))/\
(r1=false->
false=r0))<|by
 rintro p0 h _ rfl;have e1:allB [p0.Key]=decide (p0.Key<18446744069414584321):=by simp[allB]
 have e2:(decide ((p0.wo.length:Int)<=12))=decide (p0.wo.length<=12):=by congr 1;apply propext;omega
 refine ?_;simp only[e1,e2];unfold spendV noteOf;have:[p0.Key].length<=9223372036854775807:=by simp
 grind
noncomputable def k9i:Con TB.den:= .gp 192 [.st 13,.st 16] [.bool] [] fun(p0:wAN) (p1:wj)=>(SR p0/\WR p1,(relV p0 p1:Bool),())
theorem ka2:k9i.Ok Tryz.prog TB:=qrv Bs Tryz.func192 (.r 5 (.nd [] (.r 0 (.lp [] ⟨[],[],[95],[.one (zqi)],[]⟩ .no)) [] .no)) (k2w.c (k6j.c (ka6.c c0))) (Q:=∀(p0:wAN) (p1:wj),(SR p0/\WR p1)->∀r0:Bool,relV p0 p1=r0-> 
(decide (p0.wC<1)=true->
false=r0)/\
(decide (p0.wC<1)=false->
(decide (12<p0.wC)=true->
false=r0)/\
(decide (12<p0.wC)=false->
([p0.wa,p0.wX,p0.wBR,p1.wAg].length<=9223372036854775807)/\let r1:Bool:=(allB [p0.wa,p0.wX,p0.wBR,p1.wAg])
((!r1)=true->
false=r0)/\
((!r1)=false->
(decide (4294967295<p0.wQ)=true->
false=r0)/\
(decide (4294967295<p0.wQ)=false->
(decide (4294967295<p0.wT)=true->
false=r0)/\
(decide (4294967295<p0.wT)=false->
(decide (4294967295<p0.Fee)=true->
false=r0)/\
(decide (4294967295<p0.Fee)=false->
(p0.wJ.length<=9223372036854775807)/\((!(allB p0.wJ))=true->
false=r0)/\
((!(allB p0.wJ))=false->
(p0.wAA.length<=9223372036854775807)/\((!(allB p0.wAA))=true->
false=r0)/\
((!(allB p0.wAA))=false->
(p0.wAn.length<=9223372036854775807)/\((!(allB p0.wAn))=true->
false=r0)/\
((!(allB p0.wAn))=false->
let v2:Bool:=((p1.Ins.length:Int) !=(p0.wJ.length:Int))
(v2=true->
false=r0)/\
(v2=false->
(decide (4<(p1.Ins.length:Int))=true->
false=r0)/\
(decide (4<(p1.Ins.length:Int))=false->
let v3:Bool:=((p1.wD.length:Int) !=(p0.wAA.length:Int))
(v3=true->
false=r0)/\
(v3=false->
let v4:Bool:=((p1.wD.length:Int) !=(p0.wAn.length:Int))
(v4=true->
false=r0)/\
(v4=false->
(decide (4<(p1.wD.length:Int))=true->
false=r0)/\
(decide (4<(p1.wD.length:Int))=false->
∃(I1:Int->Prop) (M1:Int->Nat),I1 0/\∀b1,(I1 b1->
(decide (b1<(p1.Ins.length:Int))=true->
(0<=b1)/\b1<(p1.Ins.length:Int)/\((ix p1.Ins b1).wo.length<=9223372036854775807)/\((!(spendV (ix p1.Ins b1)))=true->
false=r0)/\
((!(spendV (ix p1.Ins b1)))=false->
let v5:Bool:=((((ix p1.Ins b1).wo).length:Int) !=p0.wC)
(v5=true->
false=r0)/\
(v5=false->
(0<=p0.wC)/\let v6:Bool:=decide ((ishl .i64 1 p0.wC)<=((ix p1.Ins b1).wH))
(v6=true->
false=r0)/\
(v6=false->
I1 (i64.wrap (b1+1))/\M1 (i64.wrap (b1+1))<M1 b1))))/\
(decide (b1<(p1.Ins.length:Int))=false->
(p1.wD.length<=9223372036854775807)/\(p1.wD.all noteV)=r0)))))))))))))))))<|by
 rintro p0 p1 h _ rfl;obtain⟨hs,hw⟩:=h;have l1:=hs.ml;have l2:=hs.cl;have l3:=hs.rl;have l4:=hw.il;have l5:=hw.ol
 have bad:∀b:Bool,(relV p0 p1=true->b=true)->b=false->false=relV p0 p1:=by
  intro b h hb;cases hr:relV p0 p1 with
  |false=>rfl
  |true=>have:=h hr;rw[this]at hb;cases hb
 have hf:relV p0 p1=true↔(1<=p0.wC/\p0.wC<=12/\allB [p0.wa,p0.wX,p0.wBR,p1.wAg]=true/\p0.wQ<=4294967295/\p0.wT<=4294967295/\p0.Fee<=4294967295/\allB p0.wJ=true/\allB p0.wAA=true/\allB p0.wAn=true/\p1.Ins.length=p0.wJ.length/\p1.Ins.length<=4/\p1.wD.length=p0.wAA.length/\p1.wD.length=p0.wAn.length/\p1.wD.length<=4/\p1.Ins.all (inV p0.wC)=true/\p1.wD.all noteV=true):=by unfold relV;simp only[qe,qae,and_assoc]
 have no:¬(1<=p0.wC/\p0.wC<=12/\allB [p0.wa,p0.wX,p0.wBR,p1.wAg]=true/\p0.wQ<=4294967295/\p0.wT<=4294967295/\p0.Fee<=4294967295/\allB p0.wJ=true/\allB p0.wAA=true/\allB p0.wAn=true/\p1.Ins.length=p0.wJ.length/\p1.Ins.length<=4/\p1.wD.length=p0.wAA.length/\p1.wD.length=p0.wAn.length/\p1.wD.length<=4/\p1.Ins.all (inV p0.wC)=true/\p1.wD.all noteV=true)->false=relV p0 p1:=by
  intro h;cases hr:relV p0 p1 with
  |false=>rfl
  |true=>exact(h (hf.1 hr)).elim
 clear bad;refine⟨fun h=>no fun a=> ?_,fun h1=>⟨fun h=>no fun a=> ?_,fun h2=>⟨by simp,fun h=>no fun a=> ?_,fun h3=>⟨fun h=>no fun a=> ?_,fun h4=>⟨fun h=>no fun a=> ?_,fun h5=>⟨fun h=>no fun a=> ?_,fun h6=>⟨by omega,fun h=>no fun a=> ?_,fun h7=>⟨by omega,fun h=>no fun a=> ?_,fun h8=>⟨by omega,fun h=>no fun a=> ?_,fun h9=>⟨fun h=>no fun a=> ?_,fun h10=>⟨fun h=>no fun a=> ?_,fun h11=>⟨fun h=>no fun a=> ?_,fun h12=>⟨fun h=>no fun a=> ?_,fun h13=>⟨fun h=>no fun a=> ?_,fun h14=> ?_⟩⟩⟩⟩⟩⟩⟩⟩⟩⟩⟩⟩⟩⟩
 ·have h:=qb h;omega
 ·have h:=qb h;omega
 ·rw[a.2.2.1]at h;cases h
 ·have h:=qb h;omega
 ·have h:=qb h;omega
 ·have h:=qb h;omega
 ·rw[a.2.2.2.2.2.2.1]at h;cases h
 ·rw[a.2.2.2.2.2.2.2.1]at h;cases h
 ·rw[a.2.2.2.2.2.2.2.2.1]at h;cases h
 ·have h:¬(p1.Ins.length:Int)=p0.wJ.length:=by simpa using h
  omega
 ·have h:=qb h;omega
 ·have h:¬(p1.wD.length:Int)=p0.wAA.length:=by simpa using h
  omega
 ·have h:¬(p1.wD.length:Int)=p0.wAn.length:=by simpa using h
  omega
 ·have h:=qb h;omega
 have h1:=qc h1;have h2:=qc h2;have h3:allB [p0.wa,p0.wX,p0.wBR,p1.wAg]=true:=by simpa using h3
 have h4:=qc h4;have h5:=qc h5;have h6:=qc h6;have h7:allB p0.wJ=true:=by simpa using h7
 have h8:allB p0.wAA=true:=by simpa using h8
 have h9:allB p0.wAn=true:=by simpa using h9
 have h10:(p1.Ins.length:Int)=p0.wJ.length:=by simpa using h10
 have h11:=qc h11;have h12:(p1.wD.length:Int)=p0.wAA.length:=by simpa using h12
 have h13:(p1.wD.length:Int)=p0.wAn.length:=by simpa using h13
 have h14:=qc h14
 have hd:ishl .i64 1 p0.wC=2^p0.wC.toNat:=by
  have h0:0<=p0.wC/\p0.wC<=12:=by omega
  obtain⟨d,hd⟩:=qo h0.1;rw[hd]at h0 ⊢;have h0:d<=12:=by omega
  have key:∀d:Nat,d<=12->ishl .i64 1 (d:Int)=2^d:=by decide +kernel
  exact key d h0
 refine⟨(AllI (inV p0.wC) p1.Ins),(fun i=>(p1.Ins.length-i).toNat),AllI.start,?_⟩;intro i hi;refine⟨fun hh=> ?_,fun hh=> ?_⟩
 ·have hh:=qb hh;have hx:=hw.i _ (ix_mem p1.Ins i hi.1 hh);have nb:inV p0.wC (ix p1.Ins i)=false->false=relV p0 p1:=fun hb=>no fun a=>by rw[hi.bad hh hb]at a;exact absurd a.2.2.2.2.2.2.2.2.2.2.2.2.2.2.1 qqs
  refine⟨hi.1,hh,by have:=hx.pl;show(ix p1.Ins i).wo.length<=_;omega,fun e=>nb ?_,fun e=>⟨fun e2=>nb ?_,fun e2=>⟨by omega,fun e3=>nb ?_,fun e3=>hi.next hh qqo ?_⟩⟩⟩
  ·have e:spendV (ix p1.Ins i)=false:=by simpa using e
   simp[inV,e]
  ·have e2:¬((ix p1.Ins i).wo.length:Int)=p0.wC:=by simpa using e2
   simp[inV,e2]
  ·have e3:=qb e3;rw[hd]at e3;simp only[inV,qfo,decide_eq_false_iff_not];right;omega
  ·have e:spendV (ix p1.Ins i)=true:=by simpa using e
   have e2:((ix p1.Ins i).wo.length:Int)=p0.wC:=by simpa using e2
   have e3:=qc e3;rw[hd]at e3;simp only[inV,e,Bool.true_and,qe,qae];exact⟨e2,by(first|omega|(dsimp only;omega))⟩
 ·have ha:=hi.done (qc hh);refine⟨by omega,?_⟩;cases hn:p1.wD.all noteV with
  |false=>exact no fun a=>by rw[hn]at a;exact absurd a.2.2.2.2.2.2.2.2.2.2.2.2.2.2.2 qqs
  |true=>exact(hf.2 ⟨by omega,by omega,h3,by omega,by omega,by omega,h7,h8,h9,by omega,by omega,by omega,by omega,by omega,ha,hn⟩).symm
noncomputable def k9w:Con TB.den:= .gp 269 [yqu,yqi,.sl yqu] [yqu] [] fun(p0 p1:Int) (p2:Li)=>(U64 p0/\Us p2/\p2.length<=1073741824/\p1<=9223372036854775807,(climbS p0 p1 p2:Int),())
theorem ka7:k9w.Ok Tryz.prog TB:=qrv Bs Tryz.func269 (.r 1 (.nd [] (.r 0 (.lp [] ⟨[],[],[32],[.one (zqi)],[]⟩ .no)) [] (.r 0 (.nd [] (.r 0 (.lp [] ⟨[],[],[9,42],[.one (zqu),.one (zqi)],[]⟩ .no)) [] .no)))) (k1w.c c0) (Q:=∀(p0 p1:Int) (p2:Li),(U64 p0/\Us p2/\p2.length<=1073741824/\p1<=9223372036854775807)->∀r0:Int,climbS p0 p1 p2=r0-> 
(decide (12<(p2.length:Int))=true->
0=r0)/\
(decide (12<(p2.length:Int))=false->
(decide (p1<0)=true->
0=r0)/\
(decide (p1<0)=false->
(0<=(p2.length:Int))/\let v1:Bool:=decide ((ishl .i64 1 (p2.length:Int))<=p1)
(v1=true->
0=r0)/\
(v1=false->
(decide (18446744069414584321<=p0)=true->
0=r0)/\
(decide (18446744069414584321<=p0)=false->
∃(I1:Int->Prop) (M1:Int->Nat),I1 0/\∀b1,(I1 b1->
(decide (b1<(p2.length:Int))=true->
(0<=b1)/\b1<(p2.length:Int)/\let v2:Bool:=decide (18446744069414584321<=(ix p2 b1))
(v2=true->
0=r0)/\
(v2=false->
I1 (i64.wrap (b1+1))/\M1 (i64.wrap (b1+1))<M1 b1))/\
(decide (b1<(p2.length:Int))=false->
∃(I2:Int->Int->Prop) (M2:Int->Int->Nat),I2 p0 0/\∀f1 i1,(I2 f1 i1->
(decide (i1<(p2.length:Int))=true->
(0<=i1)/\i1<(p2.length:Int)/\(0<=i1)/\(((iand .i64 (ishr .i64 p1 i1) 1)==0)=true->
(U64 f1/\U64 (ix p2 i1))/\I2 (hashS 6 [f1,(ix p2 i1)]) (i64.wrap (i1+1))/\M2 (hashS 6 [f1,(ix p2 i1)]) (i64.wrap (i1+1))<M2 f1 i1)/\
(((iand .i64 (ishr .i64 p1 i1) 1)==0)=false->
(U64 (ix p2 i1)/\U64 f1)/\I2 (hashS 6 [(ix p2 i1),f1]) (i64.wrap (i1+1))/\M2 (hashS 6 [(ix p2 i1),f1]) (i64.wrap (i1+1))<M2 f1 i1))/\
(decide (i1<(p2.length:Int))=false->
f1=r0)))))))))<|by
 rintro p0 p1 p2 h _ rfl;obtain⟨h0,h2,h3,h4⟩:=h;have sh:∀d:Nat,d<=12->ishl .i64 1 (d:Int)=2^d:=by decide +kernel
 refine⟨fun e=> ?_,fun e=>⟨fun e2=> ?_,fun e2=>⟨by omega,fun e3=> ?_,fun e3=>⟨fun e4=> ?_,fun e4=> ?_⟩⟩⟩⟩
 ·have e:=qb e;unfold climbS;rw[qf qqo]
 ·have e2:=qb e2;unfold climbS;rw[qf qqo]
 ·have e:=qc e;have e3:=qb e3;rw[sh _ qqo]at e3;unfold climbS;rw[qf (fun a=>by have:=a.2.2.1;omega)]
 ·have e4:=qb e4;unfold climbS;rw[qf qqo]
 have e:=qc e;have e2:=qc e2;have e3:=qc e3;have e4:=qc e4;rw[sh _ qqo]at e3;refine⟨(AllI (fun x=>decide (x<18446744069414584321)) p2),(fun i=>(p2.length-i).toNat),AllI.start,?_⟩;intro i hi;refine⟨fun hh=> ?_,fun hh=> ?_⟩
 ·have hh:=qb hh;refine⟨hi.1,hh,fun e5=> ?_,fun e5=>hi.next hh qqo (by simpa using e5)⟩;have hb:allB p2=false:=hi.bad hh (by simpa using e5);unfold climbS;rw[qf (fun a=>by rw[hb]at a;exact absurd a.2.2.2.2 qqs)]
 ·have ha:allB p2=true:=hi.done (qc hh);have hc:climbS p0 p1 p2=climbL p0 p1 p2:=by unfold climbS;rw[qh ⟨by omega,by omega,by omega,by omega,ha⟩]
  rw[hc]
  have hpos:p1<4096:=by
   have h1:(2:Int)^p2.length<=2^12:=by exact_mod_cast qcs qqo qqo
   omega
  refine⟨(fun d i=>0<=i/\i<=p2.length/\U64 d/\climbL d (p1/2^i.toNat) (p2.drop i.toNat)=climbL p0 p1 p2),(fun d i=>(p2.length-i).toNat),⟨by omega,by omega,h0,by simp⟩,?_⟩;rintro d i ⟨g0,g1,g2,g3⟩;refine⟨fun hh=> ?_,fun hh=> ?_⟩
  ·have hh:=qb hh;have hx:=h2 _ (ix_mem p2 i g0 hh);rw[drop_ix p2 i g0 hh]at g3;have nx:=inc i p2.length g0 hh qqo;have hq:p1/2^i.toNat/2=p1/2^(i+1).toNat:=by rw[show(i+1).toNat=i.toNat+1 by omega,qcp,qei (qef (Int.pow_pos qqo))]
   have hbit:iand .i64 (ishr .i64 p1 i) 1=p1/2^i.toNat%2:=by
    have hs:ishr .i64 p1 i=p1/2^i.toNat:=by rw[k1y,show min i.toNat i64.bits=i.toNat from qcc (by show i.toNat<=64;omega)];simp
    rw[hs];have hb0:0<=p1/2^i.toNat:=qek qqo (qef (Int.pow_pos qqo));have hb1:p1/2^i.toNat<=p1:=Int.ediv_le_self _ qqo;exact k4h _ ⟨hb0,by(first|omega|(dsimp only;omega))⟩
   rw[hbit];have g3:climbL (if p1/2^i.toNat%2=0 then hashS 6 [d,ix p2 i]else hashS 6 [ix p2 i,d]) (p1/2^i.toNat/2) (p2.drop (i+1).toNat)=climbL p0 p1 p2:=g3;rw[hq]at g3;refine⟨g0,hh,g0,fun hb=> ?_,fun hb=> ?_⟩
   ·have hb:p1/2^i.toNat%2=0:=by simpa using hb
    rw[qh hb]at g3;rw[nx];exact⟨⟨g2,hx⟩,⟨by omega,by omega,kj _ _,g3⟩,by(first|omega|(dsimp only;omega))⟩
   ·have hb:¬p1/2^i.toNat%2=0:=by simpa using hb
    rw[qf hb]at g3;rw[nx];exact⟨⟨hx,g2⟩,⟨by omega,by omega,kj _ _,g3⟩,by(first|omega|(dsimp only;omega))⟩
  ·have hh:=qc hh;rw[qam qqo]at g3;exact g3
noncomputable def kaq:Con TB.den:= .tp 365 [yqi] [.bool] [] fun(p0:Int)=>((decide (0<=p0)&&decide (p0<4):Bool),())
theorem kbs:kaq.Ok Tryz.prog TB:=qtv Bs Tryz.func365 .no c0 (Q:=∀(p0:Int),∀r0:Bool,(decide (0<=p0)&&decide (p0<4))=r0-> 
(decide (0<=p0)=true->
decide (p0<4)=r0)/\
(decide (0<=p0)=false->
false=r0))<|by rintro p0 _ rfl;refine ?_;grind
noncomputable def kg8:Con TB.den:= .gp 267 [yqu,yqi] [yqu] [] fun(p0 p1:Int)=>(U64 p0/\-9223372036854775808<=p1/\p1<=9223372036854775807,(ownerS p0 p1:Int),())
theorem kip:kg8.Ok Tryz.prog TB:=qrv Bs Tryz.func267 .no (kbs.c (k93.c c0)) (Q:=∀(p0 p1:Int),(U64 p0/\-9223372036854775808<=p1/\p1<=9223372036854775807)->∀r0:Int,ownerS p0 p1=r0-> 
((!(decide (0<=p1)&&decide (p1<4)))=true->
0=r0)/\
((!(decide (0<=p1)&&decide (p1<4)))=false->
(U64 (1:Int)/\Us [p0,u64.wrap p1]/\[p0,u64.wrap p1].length<=1099511627776)/\let r1:Int:=(hashS (1:Int) [p0,u64.wrap p1])
r1=r0))<|by
 rintro p0 p1 h _ rfl;obtain⟨h0,h1,h2⟩:=h;refine⟨fun e=> ?_,fun e=> ?_⟩
 ·unfold ownerS;rw[qf (by simp at e;omega)]
 ·have e:0<=p1/\p1<4:=by simpa using e
  rw[wu p1 qqo qqo];refine⟨⟨by decide,?_,by simp⟩,?_⟩
  ·intro x hx;simp only[qag,qeg,or_false]at hx;rcases hx with rfl|rfl
   ·exact h0
   ·omega
  ·unfold ownerS;rw[qh e]
noncomputable def kdg:Con TB.den:= .g (gk 268 [.one (.ptr 0 0),.one (zqu),.one (zqu)] yQ (.tup [.one (zqu),.one (.d (.bool))])) [yqu,yqu,.bool,yqu,yqi,.sl (.st 4),.sl (.str),.sl yqi,.sl (.str),.sl (.sl yqu),.sl (.str),.sl (.bool)] yW [] fun(p1 p2:Int) (Ad:Bool) (Aa Ae:Int) (Ab:List wB) (w1k:Lb) (w1v:Li) (w2k:Lb) (w2v:List (Li)) (w3k:Lb) (w3v:Lo)=>(U64 p1/\U64 p2/\OrOk w1k w1v Ab,((markP (pk Ad Ab w1k w1v) p1 p2).getD 0:Int),((markP (pk Ad Ab w1k w1v) p1 p2).isSome:Bool),Ad,Aa,Ae,Ab,w1k,w1v,w2k,w2v,w3k,w3v,())
theorem kg5:kdg.Ok Tryz.prog TB:=prv Bs Tryz.func268 (.r 0 (.nd [] (.jn ⟨[],[],[13],[.one (.d (.bool))],[]⟩ [] .no [] .no) [] .no)) (k6f.c c0) (Q:=∀(p1 p2:Int) (Ad:Bool) (Aa Ae:Int) (Ab:List wB) (w1k:Lb) (w1v:Li) (w2k:Lb) (w2v:List (Li)) (w3k:Lb) (w3v:Lo),(U64 p1/\U64 p2/\OrOk w1k w1v Ab)->∀r0:Int,((markP (pk Ad Ab w1k w1v) p1 p2).getD 0)=r0->∀r1:Bool,((markP (pk Ad Ab w1k w1v) p1 p2).isSome)=r1->∀Ay:Bool,Ad=Ay->∀Aq:Int,Aa=Aq->∀Aw:Int,Ae=Aw->∀Ax:List wB,Ab=Ax->∀e1k:Lb,w1k=e1k->∀e1v:Li,w1v=e1v->∀e2k:Lb,w2k=e2k->∀e2v:List (Li),w2v=e2v->∀e3k:Lb,w3k=e3k->∀e3v:Lo,w3v=e3v-> 
∀J1:Bool->Prop,(∀(b1:Bool),
((b1=true->
0=r0/\false=r1/\Ad=Ay/\Aa=Aq/\Ae=Aw/\Ab=Ax/\w1k=e1k/\w1v=e1v/\w2k=e2k/\w2v=e2v/\w3k=e3k/\w3v=e3v)/\
(b1=false->
(U64 (3:Int)/\Us [p1,p2]/\[p1,p2].length<=1073741824/\OrOk w1k w1v Ab)/\let r2:Int:=((pk Ad Ab w1k w1v (3:Int) [p1,p2]).getD 0)
let r3:Bool:=((pk Ad Ab w1k w1v (3:Int) [p1,p2]).isSome)
r2=r0/\r3=r1/\Ad=Ay/\Aa=Aq/\Ae=Aw/\Ab=Ax/\w1k=e1k/\w1v=e1v/\w2k=e2k/\w2v=e2v/\w3k=e3k/\w3v=e3v))->J1 b1)->
(decide (18446744069414584321<=p1)=true->
J1 true)/\
(decide (18446744069414584321<=p1)=false->
J1 (decide (18446744069414584321<=p2))))<|by
 rintro p1 p2 Ad Aa Ae Ab w1k w1v w2k w2v w3k w3v h;repeat rintro _ rfl
 obtain⟨h1,h2,ho⟩:=h;intro J1 k1
 have j1:∀s:Bool,s=decide (¬(p1<18446744069414584321/\p2<18446744069414584321))->J1 s:=by
  intro s hs;refine k1 _ ⟨fun e=> ?_,fun e=> ?_⟩
  ·rw[e]at hs;have hs:=qb hs.symm;unfold markP;rw[qf hs];exact(by repeat' first|apply qt|exact rfl|exact qm)
  ·rw[e]at hs;have hs:p1<18446744069414584321/\p2<18446744069414584321:=by simpa using hs.symm
   unfold markP;rw[qh hs];refine⟨⟨by decide,?_,by simp,ho⟩,(by repeat' first|apply qt|exact rfl|exact qm)⟩;intro x hx;simp only[qag,qeg,or_false]at hx;rcases hx with rfl|rfl
   ·exact h1
   ·exact h2
 refine⟨fun e=>j1 _ ?_,fun e=>j1 _ ?_⟩
 ·have e:=qb e;symm;apply qbr;omega
 ·have e:=qc e;congr 1;apply propext;omega
noncomputable def k7u:Con TB.den:= .g (gk 193 [.one (.ptr 0 0),.agg yI1,.agg yH1,.one (zqu)] yQ (.one (.one (zqi)))) [.st 13,.st 14,yqu,.bool,yqu,yqi,.sl (.st 4),.sl (.str),.sl yqi,.sl (.str),.sl (.sl yqu),.sl (.str),.sl (.bool)] yA1 [] fun(p1:wAN) (p2:wP) (p3:Int) (Ad:Bool) (Aa Ae:Int) (Ab:List wB) (w1k:Lb) (w1v:Li) (w2k:Lb) (w2v:List (Li)) (w3k:Lb) (w3v:Lo)=>(PR p2/\OrOk w1k w1v Ab/\(∀l a,(pk Ad Ab w1k w1v) l a=none∨∃n,(pk Ad Ab w1k w1v) l a=some n/\U64 n),(inE (pk Ad Ab w1k w1v) p1.wa p3 p2:Int),Ad,Aa,Ae,Ab,w1k,w1v,w2k,w2v,w3k,w3v,())
theorem k86:k7u.Ok Tryz.prog TB:=prv Bs Tryz.func193 .no (kip.c (kg5.c (k2c.c (ka7.c c0)))) (Q:=∀(p1:wAN) (p2:wP) (p3:Int) (Ad:Bool) (Aa Ae:Int) (Ab:List wB) (w1k:Lb) (w1v:Li) (w2k:Lb) (w2v:List (Li)) (w3k:Lb) (w3v:Lo),(PR p2/\OrOk w1k w1v Ab/\(∀l a,(pk Ad Ab w1k w1v) l a=none∨∃n,(pk Ad Ab w1k w1v) l a=some n/\U64 n))->∀r0:Int,(inE (pk Ad Ab w1k w1v) p1.wa p3 p2)=r0->∀Ay:Bool,Ad=Ay->∀Aq:Int,Aa=Aq->∀Aw:Int,Ae=Aw->∀Ax:List wB,Ab=Ax->∀e1k:Lb,w1k=e1k->∀e1v:Li,w1v=e1v->∀e2k:Lb,w2k=e2k->∀e2v:List (Li),w2v=e2v->∀e3k:Lb,w3k=e3k->∀e3v:Lo,w3v=e3v-> 
(U64 p2.Key/\-9223372036854775808<=p2.wAQ/\p2.wAQ<=9223372036854775807)/\let v1:Bool:=(p2.wAE !=(ownerS p2.Key p2.wAQ))
(v1=true->
21=r0/\Ad=Ay/\Aa=Aq/\Ae=Aw/\Ab=Ax/\w1k=e1k/\w1v=e1v/\w2k=e2k/\w2v=e2v/\w3k=e3k/\w3v=e3v)/\
(v1=false->
(U64 p2.Key/\U64 p2.wAK/\OrOk w1k w1v Ab)/\let r2:Int:=((markP (pk Ad Ab w1k w1v) p2.Key p2.wAK).getD 0)
let r3:Bool:=((markP (pk Ad Ab w1k w1v) p2.Key p2.wAK).isSome)
((!r3)=true->
12=r0/\Ad=Ay/\Aa=Aq/\Ae=Aw/\Ab=Ax/\w1k=e1k/\w1v=e1v/\w2k=e2k/\w2v=e2v/\w3k=e3k/\w3v=e3v)/\
((!r3)=false->
((r2 !=p3)=true->
12=r0/\Ad=Ay/\Aa=Aq/\Ae=Aw/\Ab=Ax/\w1k=e1k/\w1v=e1v/\w2k=e2k/\w2v=e2v/\w3k=e3k/\w3v=e3v)/\
((r2 !=p3)=false->
(p2.wBM=true->
((p2.wl !=0)=true->
13=r0/\Ad=Ay/\Aa=Aq/\Ae=Aw/\Ab=Ax/\w1k=e1k/\w1v=e1v/\w2k=e2k/\w2v=e2v/\w3k=e3k/\w3v=e3v)/\
((p2.wl !=0)=false->
0=r0/\Ad=Ay/\Aa=Aq/\Ae=Aw/\Ab=Ax/\w1k=e1k/\w1v=e1v/\w2k=e2k/\w2v=e2v/\w3k=e3k/\w3v=e3v))/\
(p2.wBM=false->
(NR (wS.mk p2.wl p2.wAE p2.wAK p2.wAm)/\OrOk w1k w1v Ab)/\let r4:Int:=((commP (pk Ad Ab w1k w1v) (wS.mk p2.wl p2.wAE p2.wAK p2.wAm)).getD 0)
let r5:Bool:=((commP (pk Ad Ab w1k w1v) (wS.mk p2.wl p2.wAE p2.wAK p2.wAm)).isSome)
((!r5)=true->
11=r0/\Ad=Ay/\Aa=Aq/\Ae=Aw/\Ab=Ax/\w1k=e1k/\w1v=e1v/\w2k=e2k/\w2v=e2v/\w3k=e3k/\w3v=e3v)/\
((!r5)=false->
(U64 r4/\Us p2.wo/\p2.wo.length<=1073741824/\p2.wH<=9223372036854775807)/\let v6:Bool:=((climbS r4 p2.wH p2.wo) !=p1.wa)
(v6=true->
11=r0/\Ad=Ay/\Aa=Aq/\Ae=Aw/\Ab=Ax/\w1k=e1k/\w1v=e1v/\w2k=e2k/\w2v=e2v/\w3k=e3k/\w3v=e3v)/\
(v6=false->
0=r0/\Ad=Ay/\Aa=Aq/\Ae=Aw/\Ab=Ax/\w1k=e1k/\w1v=e1v/\w2k=e2k/\w2v=e2v/\w3k=e3k/\w3v=e3v)))))))<|by
 rintro p1 p2 p3 Ad Aa Ae Ab w1k w1v w2k w2v w3k w3v h;repeat rintro _ rfl
 obtain⟨hp,ho,hu⟩:=h;have hm:markP (pk Ad Ab w1k w1v) p2.Key p2.wAK=none∨∃n,markP (pk Ad Ab w1k w1v) p2.Key p2.wAK=some n/\U64 n:=by unfold markP;split;exact hu _ _;exact .inl rfl
 have hc:commP (pk Ad Ab w1k w1v) (noteOf p2)=none∨∃n,commP (pk Ad Ab w1k w1v) (noteOf p2)=some n/\U64 n:=by unfold commP;split;exact hu _ _;exact .inl rfl
 have hcu:U64 ((commP (pk Ad Ab w1k w1v) (noteOf p2)).getD 0):=by
  rcases hc with h|⟨n,h,hn⟩
  ·rw[h];decide
  ·rw[h];exact hn
 have en:noteOf p2=⟨p2.wl,p2.wAE,p2.wAK,p2.wAm⟩:=rfl;refine⟨⟨hp.k,hp.nu.1,hp.nu.2⟩,?_⟩;simp only[<-en];unfold inE;refine⟨fun e=> ?_,fun e=>⟨⟨hp.k,hp.n.r,ho⟩,fun e2=> ?_,fun e2=>⟨fun e3=> ?_,fun e3=>⟨fun e4=>⟨fun e5=> ?_,fun e5=> ?_⟩,fun e4=>⟨⟨hp.n,ho⟩,fun e6=> ?_,fun e6=>⟨⟨hcu,hp.pa,hp.pl,hp.po.2⟩,fun e7=> ?_,fun e7=> ?_⟩⟩⟩⟩⟩⟩
 all_goals simp_all
noncomputable def k8w:Con TB.den:= .g (gk 140 [.one (.ptr 0 0),.agg yI1,.agg yJ1] yQ (.one (.one (zqi)))) [.st 13,.st 16,.bool,yqu,yqi,.sl (.st 4),.sl (.str),.sl yqi,.sl (.str),.sl (.sl yqu),.sl (.str),.sl (.bool)] yA1 [] fun(p1:wAN) (p2:wj) (Ad:Bool) (Aa Ae:Int) (Ab:List wB) (w1k:Lb) (w1v:Li) (w2k:Lb) (w2v:List (Li)) (w3k:Lb) (w3v:Lo)=>(SR p1/\WR p2/\OrOk w1k w1v Ab/\(∀l a,(pk Ad Ab w1k w1v) l a=none∨∃n,(pk Ad Ab w1k w1v) l a=some n/\U64 n),(checkS (pk Ad Ab w1k w1v) p1 p2:Int),Ad,Aa,Ae,Ab,w1k,w1v,w2k,w2v,w3k,w3v,())
abbrev Fz5 (r:Type):=Int->Bool->Int->Int->(List wB)->(Lb)->(Lo)->(Lb)->(List (Li))->(Lb)->(Li)->r
theorem k3x:k8w.Ok Tryz.prog TB:=prv Bs Tryz.func140 (.r 1 (.nd [] (.r 0 (.lp [] ⟨[3,2,1,0],yR,[21],[.one (zqi)],[]⟩ .no)) [] (.nd [] (.r 0 (.lp [] ⟨[3,2,1,0],yR,[42],[.one (zqi)],[]⟩ .no)) [] (.jn ⟨[],[],[],[],[]⟩ [] .no [] .no)))) (ka2.c (k86.c (k2c.c (kd6.c (k8y.c (k32.c c0)))))) (Q:=∀(p1:wAN) (p2:wj) (Ad:Bool) (Aa Ae:Int) (Ab:List wB) (w1k:Lb) (w1v:Li) (w2k:Lb) (w2v:List (Li)) (w3k:Lb) (w3v:Lo),(SR p1/\WR p2/\OrOk w1k w1v Ab/\(∀l a,(pk Ad Ab w1k w1v) l a=none∨∃n,(pk Ad Ab w1k w1v) l a=some n/\U64 n))->∀r0:Int,(checkS (pk Ad Ab w1k w1v) p1 p2)=r0->∀Ay:Bool,Ad=Ay->∀Aq:Int,Aa=Aq->∀Aw:Int,Ae=Aw->∀Ax:List wB,Ab=Ax->∀e1k:Lb,w1k=e1k->∀e1v:Li,w1v=e1v->∀e2k:Lb,w2k=e2k->∀e2v:List (Li),w2v=e2v->∀e3k:Lb,w3k=e3k->∀e3v:Lo,w3v=e3v-> 
(SR p1/\WR p2)/\((!(relV p1 p2))=true->
1=r0/\Ad=Ay/\Aa=Aq/\Ae=Aw/\Ab=Ax/\w1k=e1k/\w1v=e1v/\w2k=e2k/\w2v=e2v/\w3k=e3k/\w3v=e3v)/\
((!(relV p1 p2))=false->
∃(I1:Fz5 Prop) (M1:Fz5 Nat),I1 0 Ad Aa Ae Ab w3k w3v w2k w2v w1k w1v/\∀b1 f1 i1 k1 l1 m1 n1 o1 q1 s1 t1,(I1 b1 f1 i1 k1 l1 m1 n1 o1 q1 s1 t1->
(decide (b1<(p2.Ins.length:Int))=true->
(0<=b1)/\b1<(p2.Ins.length:Int)/\(0<=b1)/\b1<(p1.wJ.length:Int)/\(PR (ix p2.Ins b1)/\OrOk s1 t1 l1/\(∀l a,(pk f1 l1 s1 t1) l a=none∨∃n,(pk f1 l1 s1 t1) l a=some n/\U64 n))/\let r1:Int:=(inE (pk f1 l1 s1 t1) p1.wa (ix p1.wJ b1) (ix p2.Ins b1))
((r1 !=0)=true->
r1=r0/\f1=Ay/\i1=Aq/\k1=Aw/\l1=Ax/\s1=e1k/\t1=e1v/\o1=e2k/\q1=e2v/\m1=e3k/\n1=e3v)/\
((r1 !=0)=false->
I1 (i64.wrap (b1+1)) f1 i1 k1 l1 m1 n1 o1 q1 s1 t1/\M1 (i64.wrap (b1+1)) f1 i1 k1 l1 m1 n1 o1 q1 s1 t1<M1 b1 f1 i1 k1 l1 m1 n1 o1 q1 s1 t1))/\
(decide (b1<(p2.Ins.length:Int))=false->
∃(I2:Fz5 Prop) (M2:Fz5 Nat),I2 0 f1 i1 k1 l1 m1 n1 o1 q1 s1 t1/\∀u1 x1 y1 b2 f2 i2 k2 l2 m2 n2 o2,(I2 u1 x1 y1 b2 f2 i2 k2 l2 m2 n2 o2->
(decide (u1<(p2.wD.length:Int))=true->
(0<=u1)/\u1<(p2.wD.length:Int)/\(NR (ix p2.wD u1)/\OrOk n2 o2 f2)/\let r2:Int:=((commP (pk x1 f2 n2 o2) (ix p2.wD u1)).getD 0)
let r3:Bool:=((commP (pk x1 f2 n2 o2) (ix p2.wD u1)).isSome)
((!r3)=true->
1=r0/\x1=Ay/\y1=Aq/\b2=Aw/\f2=Ax/\n2=e1k/\o2=e1v/\l2=e2k/\m2=e2v/\i2=e3k/\k2=e3v)/\
((!r3)=false->
(0<=u1)/\u1<(p1.wAA.length:Int)/\((r2 !=(ix p1.wAA u1))=true->
1=r0/\x1=Ay/\y1=Aq/\b2=Aw/\f2=Ax/\n2=e1k/\o2=e1v/\l2=e2k/\m2=e2v/\i2=e3k/\k2=e3v)/\
((r2 !=(ix p1.wAA u1))=false->
(0<=u1)/\u1<(p1.wAn.length:Int)/\let v4:Bool:=(((ix p2.wD u1).Rho) !=(ix p1.wAn u1))
(v4=true->
1=r0/\x1=Ay/\y1=Aq/\b2=Aw/\f2=Ax/\n2=e1k/\o2=e1v/\l2=e2k/\m2=e2v/\i2=e3k/\k2=e3v)/\
(v4=false->
I2 (i64.wrap (u1+1)) x1 y1 b2 f2 i2 k2 l2 m2 n2 o2/\M2 (i64.wrap (u1+1)) x1 y1 b2 f2 i2 k2 l2 m2 n2 o2<M2 u1 x1 y1 b2 f2 i2 k2 l2 m2 n2 o2))))/\
(decide (u1<(p2.wD.length:Int))=false->
∀J1:Prop,(((p2.Ins.length<=9223372036854775807)/\let v5:Int:=u64.wrap ((inS p2.Ins)+p1.wQ)
(p2.wD.length<=9223372036854775807)/\let v6:Int:=u64.wrap ((outS p2.wD)+p1.wT)
((v5 !=(u64.wrap (v6+p1.Fee)))=true->
13=r0/\x1=Ay/\y1=Aq/\b2=Aw/\f2=Ax/\n2=e1k/\o2=e1v/\l2=e2k/\m2=e2v/\i2=e3k/\k2=e3v)/\
((v5 !=(u64.wrap (v6+p1.Fee)))=false->
0=r0/\x1=Ay/\y1=Aq/\b2=Aw/\f2=Ax/\n2=e1k/\o2=e1v/\l2=e2k/\m2=e2v/\i2=e3k/\k2=e3v))->J1)->
(decide (0<p1.wQ)=true->
(U64 p2.wAg)/\((p1.wX !=(acctS p2.wAg))=true->
21=r0/\x1=Ay/\y1=Aq/\b2=Aw/\f2=Ax/\n2=e1k/\o2=e1v/\l2=e2k/\m2=e2v/\i2=e3k/\k2=e3v)/\
((p1.wX !=(acctS p2.wAg))=false->
J1))/\
(decide (0<p1.wQ)=false->
J1)))))))<|by
 rintro p1 p2 Ad Aa Ae Ab w1k w1v w2k w2v w3k w3v h;repeat rintro _ rfl
 obtain⟨hs,hw,ho,hu⟩:=h;refine⟨⟨hs,hw⟩,fun e=> ?_,fun e=> ?_⟩
 ·have e:relV p1 p2=false:=by simpa using e
  unfold checkS;rw[qh e]
  (repeat' apply qt)<;>first|rfl|exact qm
 have e:relV p1 p2=true:=by simpa using e
 have hv:p2.Ins.length=p1.wJ.length/\p2.wD.length=p1.wAA.length/\p2.wD.length=p1.wAn.length:=by unfold relV at e;simp only[qe,qae]at e;exact⟨e.1.1.1.1.1.1.2,e.1.1.1.1.2,e.1.1.1.2⟩
 obtain⟨v1,v2,v3⟩:=hv;have hil:=hw.il;have hol:=hw.ol;refine⟨(fun i z0 z1 z2 z3 z4 z5 z6 z7 z8 z9=>(Ad=z0/\Aa=z1/\Ae=z2/\Ab=z3/\w3k=z4/\w3v=z5/\w2k=z6/\w2v=z7/\w1k=z8/\w1v=z9)/\(0<=i/\i<=p2.Ins.length/\insE (pk Ad Ab w1k w1v) p1.wa (p2.Ins.drop i.toNat) (p1.wJ.drop i.toNat)=insE (pk Ad Ab w1k w1v) p1.wa p2.Ins p1.wJ)),(fun i _ _ _ _ _ _ _ _ _ _=>(p2.Ins.length-i).toNat),⟨⟨rfl,rfl,rfl,rfl,rfl,rfl,rfl,rfl,rfl,rfl⟩,by omega,by omega,rfl⟩,?_⟩;rintro i _ _ _ _ _ _ _ _ _ _ ⟨⟨rfl,rfl,rfl,rfl,rfl,rfl,rfl,rfl,rfl,rfl⟩,g0,g1,g2⟩;refine⟨fun hh=> ?_,fun hh=> ?_⟩
 ·have hh:=qb hh;have hp:=hw.i _ (ix_mem p2.Ins i g0 hh);have hd:=drop_ix p2.Ins i g0 hh;have hd2:=drop_ix p1.wJ i g0 qqo;rw[hd,hd2]at g2;have g2:(if inE (pk Ad Ab w1k w1v) p1.wa (ix p1.wJ i) (ix p2.Ins i)≠0 then inE (pk Ad Ab w1k w1v) p1.wa (ix p1.wJ i) (ix p2.Ins i)else insE (pk Ad Ab w1k w1v) p1.wa (p2.Ins.drop (i+1).toNat) (p1.wJ.drop (i+1).toNat))=insE (pk Ad Ab w1k w1v) p1.wa p2.Ins p1.wJ:=g2;have nx:=inc i p2.Ins.length g0 hh qqo;refine⟨g0,hh,g0,by omega,⟨hp,ho,hu⟩,?_⟩;refine⟨fun e2=> ?_,fun e2=> ?_⟩
  ·have e2:inE (pk Ad Ab w1k w1v) p1.wa (ix p1.wJ i) (ix p2.Ins i)≠0:=by simpa using e2
   rw[qh e2]at g2;refine⟨?_,by(repeat' apply qt)<;>first|rfl|exact qm⟩;have g2:_=insE (pk Ad Ab w1k w1v) p1.wa p2.Ins p1.wJ:=g2;unfold checkS;rw[qf (by simp[e]),qh (by rw[<-g2];exact e2),<-g2]
  ·have e2:inE (pk Ad Ab w1k w1v) p1.wa (ix p1.wJ i) (ix p2.Ins i)=0:=by simpa using e2
   rw[qf (by simp[e2])]at g2;rw[nx];exact⟨⟨⟨rfl,rfl,rfl,rfl,rfl,rfl,rfl,rfl,rfl,rfl⟩,by omega,by omega,g2⟩,by(dsimp only;omega)⟩
 ·have hh:=qc hh;rw[qam qqo]at g2;have g2:0=insE (pk Ad Ab w1k w1v) p1.wa p2.Ins p1.wJ:=g2
  have hck:checkS (pk Ad Ab w1k w1v) p1 p2=if outsB (pk Ad Ab w1k w1v) p2.wD p1.wAA p1.wAn=false then 1 else if 0<p1.wQ/\p1.wX≠acctS p2.wAg then 21 else
    if(inS p2.Ins+p1.wQ)%18446744073709551616≠((outS p2.wD+p1.wT)%18446744073709551616+p1.Fee)%18446744073709551616 then 13 else 0:=by
   conv=>lhs;unfold checkS
   rw[qf (by simp[e]),qf (by rw[<-g2];simp)]
  refine⟨(fun i z0 z1 z2 z3 z4 z5 z6 z7 z8 z9=>(Ad=z0/\Aa=z1/\Ae=z2/\Ab=z3/\w3k=z4/\w3v=z5/\w2k=z6/\w2v=z7/\w1k=z8/\w1v=z9)/\(0<=i/\i<=p2.wD.length/\outsB (pk Ad Ab w1k w1v) (p2.wD.drop i.toNat) (p1.wAA.drop i.toNat) (p1.wAn.drop i.toNat)=outsB (pk Ad Ab w1k w1v) p2.wD p1.wAA p1.wAn)),(fun i _ _ _ _ _ _ _ _ _ _=>(p2.wD.length-i).toNat),⟨⟨rfl,rfl,rfl,rfl,rfl,rfl,rfl,rfl,rfl,rfl⟩,by omega,by omega,rfl⟩,?_⟩;rintro k _ _ _ _ _ _ _ _ _ _ ⟨⟨rfl,rfl,rfl,rfl,rfl,rfl,rfl,rfl,rfl,rfl⟩,k0,k1,k2⟩;refine⟨fun hk=> ?_,fun hk=> ?_⟩
  ·have hk:=qb hk;have hp:=hw.o _ (ix_mem p2.wD k k0 hk);rw[drop_ix p2.wD k k0 hk,drop_ix p1.wAA k k0 qqo,drop_ix p1.wAn k k0 qqo]at k2;have k2:(outB (pk Ad Ab w1k w1v) (ix p2.wD k) (ix p1.wAA k) (ix p1.wAn k)&&outsB (pk Ad Ab w1k w1v) (p2.wD.drop (k+1).toNat) (p1.wAA.drop (k+1).toNat) (p1.wAn.drop (k+1).toNat))=outsB (pk Ad Ab w1k w1v) p2.wD p1.wAA p1.wAn:=k2;have nx:=inc k p2.wD.length k0 hk qqo;have bad:outB (pk Ad Ab w1k w1v) (ix p2.wD k) (ix p1.wAA k) (ix p1.wAn k)=false->outsB (pk Ad Ab w1k w1v) p2.wD p1.wAA p1.wAn=false:=fun hb=>by rw[hb]at k2;exact k2.symm
   refine⟨k0,hk,⟨hp,ho⟩,?_⟩;refine⟨fun e3=> ?_,fun e3=>⟨k0,by omega,fun e4=> ?_,fun e4=>⟨k0,by omega,fun e5=> ?_,fun e5=> ?_⟩⟩⟩
   ·rw[hck,qh (bad (by unfold outB;rw[show(commP (pk Ad Ab w1k w1v) (ix p2.wD k)).isSome=false by simpa using e3];rfl))]
    (repeat' apply qt)<;>first|rfl|exact qm
   ·rw[hck,qh (bad (by
     have e4:¬(commP (pk Ad Ab w1k w1v) (ix p2.wD k)).getD 0=ix p1.wAA k:=by simpa using e4
     simp[outB,e4]))]
    (repeat' apply qt)<;>first|rfl|exact qm
   ·rw[hck,qh (bad (by
     have e5:¬(ix p2.wD k).Rho=ix p1.wAn k:=by simpa using e5
     simp[outB,e5]))]
    (repeat' apply qt)<;>first|rfl|exact qm
   ·have e3:(commP (pk Ad Ab w1k w1v) (ix p2.wD k)).isSome=true:=by simpa using e3
    have e4:(commP (pk Ad Ab w1k w1v) (ix p2.wD k)).getD 0=ix p1.wAA k:=by simpa using e4
    have e5:(ix p2.wD k).Rho=ix p1.wAn k:=by simpa using e5
    have hb:outB (pk Ad Ab w1k w1v) (ix p2.wD k) (ix p1.wAA k) (ix p1.wAn k)=true:=by simp[outB,e3,e4,e5]
    rw[hb,Bool.true_and]at k2;rw[nx];exact⟨⟨⟨rfl,rfl,rfl,rfl,rfl,rfl,rfl,rfl,rfl,rfl⟩,by omega,by omega,k2⟩,by(dsimp only;omega)⟩
  ·have hk:=qc hk;rw[qam qqo]at k2;have k2:true=outsB (pk Ad Ab w1k w1v) p2.wD p1.wAA p1.wAn:=k2;intro J1 kJ
   have j1:(checkS (pk Ad Ab w1k w1v) p1 p2=if(inS p2.Ins+p1.wQ)%18446744073709551616≠((outS p2.wD+p1.wT)%18446744073709551616+p1.Fee)%18446744073709551616 then 13 else 0)->J1:=by
    intro hr;refine kJ ⟨by show p2.Ins.length<=_;omega,by show p2.wD.length<=_;omega,?_⟩;simp only[u64w];refine⟨fun hb=> ?_,fun hb=> ?_⟩
    ·rw[hr,qh (by simpa using hb)]
     (repeat' apply qt)<;>first|rfl|exact qm
    ·rw[hr,qf (by simpa using hb)]
     (repeat' apply qt)<;>first|rfl|exact qm
   rw[<-k2,qf qqs]at hck;refine⟨fun hd=>⟨hw.s,fun ha=> ?_,fun ha=>j1 ?_⟩,fun hd=>j1 ?_⟩
   ·have ha:¬p1.wX=acctS p2.wAg:=by simpa using ha
    rw[hck,qh ⟨qb hd,ha⟩]
    (repeat' apply qt)<;>first|rfl|exact qm
   ·have ha:p1.wX=acctS p2.wAg:=by simpa using ha
    rw[hck,qf (fun h=>h.2 ha)]
   ·rw[hck,qf (fun h=>qc hd h.1)]
noncomputable def kdo:Con TB.den:= .t (gk 178 [.one (.ptr 0 0)] yL1 (.one (.one (.d (.bool))))) yR1 [.bool,.sl yqb,yqi,.bool] [] fun(Ad:Li) (Aa:Int) (Ae:Bool)=>(((!Ae&&Aa==(Ad.length:Int)):Bool),Ad,Aa,Ae,())
theorem kgd:kdo.Ok Tryz.prog TB:=ptv Bs Tryz.func178 .no c0 (Q:=∀(Ad:Li) (Aa:Int) (Ae:Bool),∀r0:Bool,(!Ae&&Aa==(Ad.length:Int))=r0->∀Ay:Li,Ad=Ay->∀Aq:Int,Aa=Aq->∀Aw:Bool,Ae=Aw-> 
((!Ae)=true->
(Aa==(Ad.length:Int))=r0/\Ad=Ay/\Aa=Aq/\Ae=Aw)/\
((!Ae)=false->
false=r0/\Ad=Ay/\Aa=Aq/\Ae=Aw))<|by rintro Ad Aa Ae _ rfl _ rfl _ rfl _ rfl;refine⟨fun e=>⟨by rw[e];rfl,rfl,rfl,rfl⟩,fun e=>⟨by rw[e];rfl,rfl,rfl,rfl⟩⟩
noncomputable def kdu:Con TB.den:= .g (gk 228 [.one (.ptr 0 0)] yL1 (.one (.one (zqi)))) yR1 yP1 [] fun(Ad:Li) (Aa:Int) (Ae:Bool)=>((0<=Aa/\Aa<=Ad.length)/\Ad.length<=137438953472,((Ad.length:Int)-Aa:Int),Ad,Aa,Ae,())
theorem k6e:kdu.Ok Tryz.prog TB:=prv Bs Tryz.func228 .no c0 (Q:=∀(Ad:Li) (Aa:Int) (Ae:Bool),((0<=Aa/\Aa<=Ad.length)/\Ad.length<=137438953472)->∀r0:Int,((Ad.length:Int)-Aa)=r0->∀Ay:Li,Ad=Ay->∀Aq:Int,Aa=Aq->∀Aw:Bool,Ae=Aw-> 
let v1:Int:=i64.wrap ((Ad.length:Int)-Aa)
v1=r0/\Ad=Ay/\Aa=Aq/\Ae=Aw)<|by rintro Ad Aa Ae h _ rfl _ rfl _ rfl _ rfl;exact⟨wi _ qqo qqo,rfl,rfl,rfl⟩
end Go.Proofs.YtcghahkoioeddaaGreatDoor
end
