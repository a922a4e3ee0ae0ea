/-
  Parts of the proofs that the laws of this seat hold of every input, merged by a program: a machine over pure data that is sound for the model, what each function of the translation does in it, and plain lemmas. No conditions but those in each theorem.
-/
import Derived.Test.YtcghahkoioeddaaGreatDoorA6
set_option maxRecDepth 100000
set_option linter.all false
noncomputable section
namespace Go.Proofs.YtcghahkoioeddaaGreatDoor
open Go Go.Bv Go.Cv Go.Md Go.RowKit
open Go.IntKind (i64 u64)
noncomputable def ka4:Con TB.den:= .g (gk 227 [.one (.ptr 0 0),.one (zqi)] yL1 (.tup [.one (zqu),.one (.d (.bool))])) yP1 [yqu,.bool,.sl yqb,yqi,.bool] [true,true,false,true,true] fun(p1:Int) (Ad:Li) (Aa:Int) (Ae:Bool)=>(RdOk Ad Aa/\1<=p1/\p1<=8,((rdD Ad Aa Ae p1).n:Int),((rdD Ad Aa Ae p1).ok:Bool),Ad,((rdD Ad Aa Ae p1).pos:Int),((rdD Ad Aa Ae p1).fail:Bool),())
theorem k2p:ka4.Ok Tryz.prog TB:=prv Bs Tryz.func227 (.r 0 (.nd [] (.jn ⟨[0],yL1,[17],[.one (.d (.bool))],[]⟩ [] .no [] .no) [] (.r 0 (.nd [] (.r 0 (.lp [] ⟨[],[],[6,22],[.one (zqu),.one (zqi)],[]⟩ .no)) [] .no)))) (k6e.c c0) (Q:=∀(p1:Int) (Ad:Li) (Aa:Int) (Ae:Bool),(RdOk Ad Aa/\1<=p1/\p1<=8)->∀r0:Int,((rdD Ad Aa Ae p1).n)=r0->∀r1:Bool,((rdD Ad Aa Ae p1).ok)=r1->∀Ay:Li,Ad=Ay->∀Aq:Int,((rdD Ad Aa Ae p1).pos)=Aq->∀Aw:Bool,((rdD Ad Aa Ae p1).fail)=Aw-> 
∀J1:Bool->(Li)->Int->Bool->Prop,(∀(b1:Bool) (f1:Li) (i1:Int) (k1:Bool),
((b1=true->
0=r0/\false=r1/\f1=Ay/\i1=Aq/\true=Aw)/\
(b1=false->
∃(I1:Int->Int->Prop) (M1:Int->Int->Nat),I1 0 0/\∀l1 m1,(I1 l1 m1->
(decide (m1<p1)=true->
(0<=i64.wrap (i1+m1))/\i64.wrap (i1+m1)<(f1.length:Int)/\let v3:Int:=u64.wrap (ix f1 (i64.wrap (i1+m1)))
(0<=i64.wrap (8*m1))/\let v4:Int:=ior .u64 l1 (ishl .u64 v3 (i64.wrap (8*m1)))
I1 v4 (i64.wrap (m1+1))/\M1 v4 (i64.wrap (m1+1))<M1 l1 m1)/\
(decide (m1<p1)=false->
l1=r0/\true=r1/\f1=Ay/\i64.wrap (i1+p1)=Aq/\k1=Aw))))->J1 b1 f1 i1 k1)->
(Ae=true->
J1 true Ad Aa Ae)/\
(Ae=false->
((0<=Aa/\Aa<=Ad.length)/\Ad.length<=137438953472)/\let v2:Bool:=decide (((Ad.length:Int)-Aa)<p1)
J1 v2 Ad Aa Ae))<|by
 rintro p1 Ad Aa Ae h;repeat rintro _ rfl
 obtain⟨⟨hb,hl,h0,h1⟩,h2,h3⟩:=h;intro J1 k1;have jf:(Ae=true∨(Ad.length:Int)-Aa<p1)->J1 true Ad Aa Ae:=by intro h;refine k1 _ _ _ _ ⟨fun _=> ?_,fun h=>by simp at h⟩;unfold rdD;rw[qh h];exact⟨rfl,rfl,rfl,rfl,rfl⟩
 have jt:¬(Ae=true∨(Ad.length:Int)-Aa<p1)->J1 false Ad Aa Ae:=by
  intro h;refine k1 _ _ _ _ ⟨fun h=>by simp at h,fun _=> ?_⟩;have hD:rdD Ad Aa Ae p1=⟨val ((Ad.drop Aa.toNat).take p1.toNat),true,Aa+p1,false⟩:=by unfold rdD;rw[qf h]
  rw[hD];refine⟨(fun n i=>0<=i/\i<=p1/\n=val ((Ad.drop Aa.toNat).take i.toNat)),(fun _ i=>(p1-i).toNat),⟨by omega,by omega,rfl⟩,?_⟩;rintro n i ⟨g0,g1,rfl⟩;refine⟨fun hh=> ?_,fun hh=> ?_⟩
  ·have hh:=qb hh;have hlen:(((Ad.drop Aa.toNat).take i.toNat).length:Int)=i:=by rw[qaa,qbd];omega
   have hix:ix Ad (Aa+i)=ix (Ad.drop Aa.toNat) i:=by rw[ix_nat _ _ qqo qqo,ix_nat _ _ g0 (by rw[qbd];omega),List.getElem_drop];congr 1;omega
   have hx:=hb _ (ix_mem Ad (Aa+i) qqo qqo);have hv:=ior_val ((Ad.drop Aa.toNat).take i.toNat) (ix (Ad.drop Aa.toNat) i) ((hb.drop _).take _) qqo (by rw[<-hix];exact hx);rw[hlen]at hv;rw[inc i p1 g0 hh qqo,wi (Aa+i) qqo qqo,wi (8*i) qqo qqo,wu (ix Ad (Aa+i)) qqo qqo,hix];simp only[hv];refine⟨by omega,by omega,by omega,⟨by omega,by omega,?_⟩,by(first|omega|(dsimp only;omega))⟩;rw[ke _ i g0 (by rw[qbd];omega)]
  ·have hh:=qc hh
   have h4:Ae=false:=by
    cases hc:Ae
    ·rfl
    ·exact absurd (.inl hc) h
   exact⟨by rw[show i=p1 by omega],rfl,rfl,wi _ qqo qqo,h4⟩
 refine⟨fun h=>by have:=jf (.inl h);rw[h]at this;exact h▸this,fun h=>⟨⟨⟨h0,h1⟩,hl⟩,?_⟩⟩;by_cases hq:(Ad.length:Int)-Aa<p1
 ·rw[qbr hq];exact jf (.inr hq)
 ·rw[qby hq];exact jt (by rw[h];simpa using hq)
noncomputable def kga:Con TB.den:= .g (gk 174 [.one (.ptr 0 0),.one (zqi)] yL1 (.one (.one (zqi)))) yP1 yP1 [true,false,true,true] fun(p1:Int) (Ad:Li) (Aa:Int) (Ae:Bool)=>(RdOk Ad Aa,((rdI Ad Aa Ae p1).n:Int),Ad,((rdI Ad Aa Ae p1).pos:Int),((rdI Ad Aa Ae p1).fail:Bool),())
theorem k81:kga.Ok Tryz.prog TB:=prv Bs Tryz.func174 (.r 1 (.nd [] (.jn ⟨[],[],[19],[.one (.d (.bool))],[]⟩ [] .no [] .no) [] .no)) (k2p.c c0) (Q:=∀(p1:Int) (Ad:Li) (Aa:Int) (Ae:Bool),(RdOk Ad Aa)->∀r0:Int,((rdI Ad Aa Ae p1).n)=r0->∀Ay:Li,Ad=Ay->∀Aq:Int,((rdI Ad Aa Ae p1).pos)=Aq->∀Aw:Bool,((rdI Ad Aa Ae p1).fail)=Aw-> 
(RdOk Ad Aa/\1<=(4:Int)/\(4:Int)<=8)/\∀(r5:Int) (r6:Bool) (r7:Int) (r8:Bool),(r5=((rdD Ad Aa Ae (4:Int)).n)/\r6=((rdD Ad Aa Ae (4:Int)).ok)/\r7=((rdD Ad Aa Ae (4:Int)).pos)/\r8=((rdD Ad Aa Ae (4:Int)).fail))->∀J1:Bool->Prop,(∀(b1:Bool),
((b1=true->
0=r0/\Ad=Ay/\r7=Aq/\true=Aw)/\
(b1=false->
i64.wrap r5=r0/\Ad=Ay/\r7=Aq/\r8=Aw))->J1 b1)->
((!r6)=true->
J1 true)/\
((!r6)=false->
J1 (decide (p1<(i64.wrap r5)))))<|by
 rintro p1 Ad Aa Ae h _ rfl _ rfl _ rfl _ rfl;have hn:0<=(rdD Ad Aa Ae 4).n/\(rdD Ad Aa Ae 4).n<4294967296:=k9u h (p:=4) (f:=Ae) qqo qqo;refine⟨⟨h,by omega,by omega⟩,?_⟩;rintro _ _ _ _ ⟨rfl,rfl,rfl,rfl⟩;intro J1 k1;unfold rdI at k1;rw[wi (rdD Ad Aa Ae 4).n qqo (by have:=hn.2;omega)];refine⟨fun e=>k1 _ ⟨fun _=> ?_,fun h=>by simp at h⟩,fun e=>k1 _ ⟨fun e2=> ?_,fun e2=> ?_⟩⟩
 ·have e:(rdD Ad Aa Ae 4).ok=false:=by simpa using e
  rw[e];exact⟨rfl,rfl,rfl,rfl⟩
 ·have e:(rdD Ad Aa Ae 4).ok=true:=by simpa using e
  have e2:=qb e2;rw[qh (.inr e2)];exact⟨rfl,rfl,rfl,rfl⟩
 ·have e:(rdD Ad Aa Ae 4).ok=true:=by simpa using e
  have e2:=qc e2;rw[qf (by rw[e];simpa using e2)];exact⟨wi _ qqo (by have:=hn.2;omega),rfl,rfl,rfl⟩
noncomputable def kdc:Con TB.den:= .g (gk 177 [.one (.ptr 0 0),.one (zqi),.one (zqu)] yL1 (.one (.one (zql)))) [yqi,yqu,.sl yqb,yqi,.bool] [.sl yqu,.sl yqb,yqi,.bool] [true,false,true,true] fun(p1 p2:Int) (Ad:Li) (Aa:Int) (Ae:Bool)=>(RdOk Ad Aa/\(0<=p1/\p1<=4096),((rdL Ad Aa Ae p1 p2).l:Li),Ad,((rdL Ad Aa Ae p1 p2).pos:Int),((rdL Ad Aa Ae p1 p2).fail:Bool),())
theorem kfh:kdc.Ok Tryz.prog TB:=prv Bs Tryz.func177 (.r 1 (.nd [] (.jn ⟨[0],yL1,[23],[.one (.d (.bool))],[]⟩ [] .no [] .no) [] (.r 0 (.nd [] (.r 0 (.lp [] ⟨[1,0],[.vec yqu,.cells [.d (.sl yqb),zqi,.d (.bool)]],[31],[.one (zqi)],[]⟩ .no)) [] (.r 0 (.rt [.frz 1 [6]])))))) (k81.c (k6e.c (k2p.c c0))) (Q:=∀(p1 p2:Int) (Ad:Li) (Aa:Int) (Ae:Bool),(RdOk Ad Aa/\(0<=p1/\p1<=4096))->∀r0:Li,((rdL Ad Aa Ae p1 p2).l)=r0->∀Ay:Li,Ad=Ay->∀Aq:Int,((rdL Ad Aa Ae p1 p2).pos)=Aq->∀Aw:Bool,((rdL Ad Aa Ae p1 p2).fail)=Aw-> 
(RdOk Ad Aa)/\∀(r4 r5:Int) (r6:Bool),(r4=((rdI Ad Aa Ae p1).n)/\r5=((rdI Ad Aa Ae p1).pos)/\r6=((rdI Ad Aa Ae p1).fail))->∀J1:Bool->(Li)->Int->Bool->Prop,(∀(b1:Bool) (f1:Li) (i1:Int) (k1:Bool),
((b1=true->
([]:Li)=r0/\f1=Ay/\i1=Aq/\true=Aw)/\
(b1=false->
0<=r4/\r4<=r4/\(r4.toNat*8<=140737488355328)/\(r4.toNat<=maxLen)/\∃(I1:Int->(Li)->Int->Bool->(Li)->Prop) (M1:Int->(Li)->Int->Bool->(Li)->Nat),I1 0 f1 i1 k1 (List.replicate r4.toNat (0:Int))/\∀l1 m1 n1 o1 q1,(I1 l1 m1 n1 o1 q1->
(decide (l1<(r4.toNat:Int))=true->
(RdOk m1 n1/\1<=(8:Int)/\(8:Int)<=8)/\∀(r40:Int) (r41:Bool) (r42:Int) (r43:Bool),(r40=((rdD m1 n1 o1 (8:Int)).n)/\r41=((rdD m1 n1 o1 (8:Int)).ok)/\r42=((rdD m1 n1 o1 (8:Int)).pos)/\r43=((rdD m1 n1 o1 (8:Int)).fail))->(0<=l1/\l1<(r4.toNat:Int))/\(0<=l1/\l1<(q1.length:Int))/\(0<=l1/\l1<(r4.toNat:Int))/\(0<=l1/\l1<((q1.set l1.toNat r40).length:Int))/\let v44:Bool:=decide (p2<=(ix (q1.set l1.toNat r40) l1))
(v44=true->
([]:Li)=r0/\m1=Ay/\r42=Aq/\true=Aw)/\
(v44=false->
I1 (i64.wrap (l1+1)) m1 r42 r43 (q1.set l1.toNat r40)/\M1 (i64.wrap (l1+1)) m1 r42 r43 (q1.set l1.toNat r40)<M1 l1 m1 n1 o1 q1))/\
(decide (l1<(r4.toNat:Int))=false->
(r4.toNat=q1.length)/\q1=r0/\m1=Ay/\n1=Aq/\o1=Aw))))->J1 b1 f1 i1 k1)->
(r6=true->
J1 true Ad r5 r6)/\
(r6=false->
((0<=r5/\r5<=Ad.length)/\Ad.length<=137438953472)/\let v7:Int:=i64.wrap (Int.tdiv ((Ad.length:Int)-r5) 8)
J1 (decide (v7<r4)) Ad r5 r6))<|by
 rintro p1 p2 Ad Aa Ae h _ rfl _ rfl _ rfl _ rfl;obtain⟨h,hp0,hp1⟩:=h;have hI:=rdI_ok h (f:=Ae) (m:=p1);have hIn:=rdI_n h (f:=Ae) (m:=p1) hp0;have hb:=h.by_;have hl:=h.len;generalize hX:rdI Ad Aa Ae p1=X at *
 refine⟨h,?_⟩;rintro _ _ _ ⟨rfl,rfl,rfl⟩;intro J1 k1;have jf:(X.fail=true∨((Ad.length:Int)-X.pos)/8<X.n)->J1 true Ad X.pos X.fail:=by intro hf;refine k1 _ _ _ _ ⟨fun _=> ?_,fun h=>by simp at h⟩;unfold rdL;rw[hX,qh hf];exact⟨rfl,rfl,rfl,rfl⟩
 have jt:¬(X.fail=true∨((Ad.length:Int)-X.pos)/8<X.n)->J1 false Ad X.pos X.fail:=by
  intro hf
  have hff:X.fail=false:=by
   cases hc:X.fail
   ·rfl
   ·exact absurd (.inl hc) hf
  have hle:X.n*8<=(Ad.length:Int)-X.pos:=by have:¬((Ad.length:Int)-X.pos)/8<X.n:=fun h=>hf (.inr h);omega
  refine k1 _ _ _ _ ⟨fun h=>by simp at h,fun _=>⟨hIn.1,by omega,by have:=hIn.2;omega,by have:=hIn.2;unfold maxLen;omega,?_⟩⟩;have hL:rdL Ad Aa Ae p1 p2=rdLs Ad p2 X.n.toNat X.pos []:=by unfold rdL;rw[hX,qf hf]
  rw[hff];have hnn:((X.n.toNat:Int))=X.n:=by have:=hIn.1;omega
  rw[hnn,hL];refine⟨(fun i c pos f g=>Ad=c/\0<=i/\i<=X.n/\f=false/\0<=pos/\pos+(X.n-i)*8<=Ad.length/\(g.length:Int)=X.n/\rdLs Ad p2 (X.n-i).toNat pos (g.take i.toNat)=rdLs Ad p2 X.n.toNat X.pos []),(fun i _ _ _ _=>(X.n-i).toNat),⟨rfl,by omega,hIn.1,rfl,hI.pos0,by omega,by simp;have:=hIn.1;omega,by simp⟩,?_⟩;rintro i _ pos f g ⟨rfl,g0,g1,rfl,g2,g3,g4,g5⟩;have hok:RdOk Ad pos:=⟨hb,hl,g2,by(first|omega|(dsimp only;omega))⟩;refine⟨fun hh=> ?_,fun hh=> ?_⟩
  ·have hh:=qb hh;have hD:rdD Ad pos false 8=⟨val ((Ad.drop pos.toNat).take 8),true,pos+8,false⟩:=by unfold rdD;rw[qf qqm];rfl
   have hset:ix (g.set i.toNat (val ((Ad.drop pos.toNat).take 8))) i=val ((Ad.drop pos.toNat).take 8):=by rw[ix_nat _ i g0 (by rw[qde];omega)];simp
   have hstep:rdLs Ad p2 (X.n-i).toNat pos (g.take i.toNat)=if p2<=val ((Ad.drop pos.toNat).take 8)then⟨[],pos+8,true⟩else rdLs Ad p2 (X.n-(i+1)).toNat (pos+8) (g.take i.toNat++[val ((Ad.drop pos.toNat).take 8)]):=by rw[show(X.n-i).toNat=(X.n-(i+1)).toNat+1 by omega];rfl
   refine⟨⟨hok,by omega,by omega⟩,fun n1 n2 n3 n4 e=> ?_⟩;rw[hD]at e;obtain⟨rfl,rfl,rfl,rfl⟩:=e;refine⟨⟨by omega,by omega⟩,⟨by omega,by omega⟩,⟨by omega,by omega⟩,⟨by omega,by rw[qde];omega⟩,fun e=> ?_,fun e=> ?_⟩
   ·have e:=qb e;rw[hset]at e;rw[<-g5,hstep,qh e];exact⟨rfl,rfl,rfl,rfl⟩
   ·have e:=qc e;rw[hset]at e;rw[inc i X.n g0 hh (by have:=hIn.2;omega)];refine⟨⟨rfl,by omega,by omega,rfl,by show 0<=pos+8;omega,by show pos+8+(X.n-(i+1))*8<=_;omega,by rw[qde];exact g4,?_⟩,by(dsimp only;omega)⟩;rw[<-g5,hstep,qf e];congr 1;rw[ke _ i g0 (by rw[qde];omega),hset];congr 1;rw[List.take_set_of_le qqo]
  ·have hh:=qc hh;have hi:i=X.n:=by omega
   subst hi;rw[Int.sub_self,qx qqo]at g5;rw[<-g5];exact⟨by omega,rfl,rfl,rfl,rfl⟩
 refine⟨fun e=>by have:=jf (.inl e);rw[e]at this;exact e▸this,fun e=>⟨⟨⟨hI.pos0,hI.pos1⟩,hl⟩,?_⟩⟩;have:=hI.pos0;have:=hI.pos1
 try simp only[]
 rw[tdiv_nn _ _ qqo,wi _ qqo qqo];by_cases hq:((Ad.length:Int)-X.pos)/8<X.n
 ·rw[qbr hq];exact jf (.inr hq)
 ·rw[qby hq];exact jt (by rw[e];simpa using hq)
noncomputable def kf5:Con TB.den:= .g (gk 176 [.one (.ptr 0 0),.one (zqu)] yL1 (.one (.one (zqu)))) [yqu,.sl yqb,yqi,.bool] [yqu,.sl yqb,yqi,.bool] [true,false,true,true] fun(p1:Int) (Ad:Li) (Aa:Int) (Ae:Bool)=>(RdOk Ad Aa,((rdU Ad Aa Ae p1).n:Int),Ad,((rdU Ad Aa Ae p1).pos:Int),((rdU Ad Aa Ae p1).fail:Bool),())
theorem k67:kf5.Ok Tryz.prog TB:=prv Bs Tryz.func176 (.r 1 (.nd [] (.jn ⟨[],[],[18],[.one (.d (.bool))],[]⟩ [] .no [] .no) [] .no)) (k2p.c c0) (Q:=∀(p1:Int) (Ad:Li) (Aa:Int) (Ae:Bool),(RdOk Ad Aa)->∀r0:Int,((rdU Ad Aa Ae p1).n)=r0->∀Ay:Li,Ad=Ay->∀Aq:Int,((rdU Ad Aa Ae p1).pos)=Aq->∀Aw:Bool,((rdU Ad Aa Ae p1).fail)=Aw-> 
(RdOk Ad Aa/\1<=(8:Int)/\(8:Int)<=8)/\∀(r5:Int) (r6:Bool) (r7:Int) (r8:Bool),(r5=((rdD Ad Aa Ae (8:Int)).n)/\r6=((rdD Ad Aa Ae (8:Int)).ok)/\r7=((rdD Ad Aa Ae (8:Int)).pos)/\r8=((rdD Ad Aa Ae (8:Int)).fail))->∀J1:Bool->Prop,(∀(b1:Bool),
((b1=true->
0=r0/\Ad=Ay/\r7=Aq/\true=Aw)/\
(b1=false->
r5=r0/\Ad=Ay/\r7=Aq/\r8=Aw))->J1 b1)->
((!r6)=true->
J1 true)/\
((!r6)=false->
J1 (decide (p1<r5))))<|by
 rintro p1 Ad Aa Ae h _ rfl _ rfl _ rfl _ rfl;refine⟨⟨h,by omega,by omega⟩,?_⟩;rintro _ _ _ _ ⟨rfl,rfl,rfl,rfl⟩;intro J1 k1;unfold rdU at k1;refine⟨fun e=>k1 _ ⟨fun _=> ?_,fun h=>by simp at h⟩,fun e=>k1 _ ⟨fun e2=> ?_,fun e2=> ?_⟩⟩
 ·have e:(rdD Ad Aa Ae 8).ok=false:=by simpa using e
  rw[e];exact⟨rfl,rfl,rfl,rfl⟩
 ·have e:(rdD Ad Aa Ae 8).ok=true:=by simpa using e
  have e2:=qb e2;rw[qh (.inr e2)];exact⟨rfl,rfl,rfl,rfl⟩
 ·have e:(rdD Ad Aa Ae 8).ok=true:=by simpa using e
  have e2:=qc e2;rw[qf (by rw[e];simpa using e2)];exact⟨rfl,rfl,rfl,rfl⟩
noncomputable def k65:Con TB.den:= .g (gk 175 [.one (.ptr 0 0)] yL1 (.one (.agg [zqu,zqu,zqu,zqu]))) yR1 [.st 15,.sl yqb,yqi,.bool] [true,false,true,true] fun(Ad:Li) (Aa:Int) (Ae:Bool)=>(RdOk Ad Aa,((rdNt Ad Aa Ae).n:wS),Ad,((rdNt Ad Aa Ae).pos:Int),((rdNt Ad Aa Ae).f:Bool),())
theorem k6v:k65.Ok Tryz.prog TB:=prv Bs Tryz.func175 .no (k67.c c0) (Q:=∀(Ad:Li) (Aa:Int) (Ae:Bool),(RdOk Ad Aa)->∀r0:wS,((rdNt Ad Aa Ae).n)=r0->∀Ay:Li,Ad=Ay->∀Aq:Int,((rdNt Ad Aa Ae).pos)=Aq->∀Aw:Bool,((rdNt Ad Aa Ae).f)=Aw-> 
(RdOk Ad Aa)/\∀(r4 r5:Int) (r6:Bool),(r4=((rdU Ad Aa Ae (4294967295:Int)).n)/\r5=((rdU Ad Aa Ae (4294967295:Int)).pos)/\r6=((rdU Ad Aa Ae (4294967295:Int)).fail))->(RdOk Ad r5)/\∀(r10 r11:Int) (r12:Bool),(r10=((rdU Ad r5 r6 (18446744069414584320:Int)).n)/\r11=((rdU Ad r5 r6 (18446744069414584320:Int)).pos)/\r12=((rdU Ad r5 r6 (18446744069414584320:Int)).fail))->(RdOk Ad r11)/\∀(r16 r17:Int) (r18:Bool),(r16=((rdU Ad r11 r12 (18446744069414584320:Int)).n)/\r17=((rdU Ad r11 r12 (18446744069414584320:Int)).pos)/\r18=((rdU Ad r11 r12 (18446744069414584320:Int)).fail))->(RdOk Ad r17)/\∀(r22 r23:Int) (r24:Bool),(r22=((rdU Ad r17 r18 (18446744069414584320:Int)).n)/\r23=((rdU Ad r17 r18 (18446744069414584320:Int)).pos)/\r24=((rdU Ad r17 r18 (18446744069414584320:Int)).fail))->r4=r0.Value/\r10=r0.wBB/\r16=r0.Rho/\r22=r0.wBF/\Ad=Ay/\r23=Aq/\r24=Aw)<|by rintro Ad Aa Ae h _ rfl _ rfl _ rfl _ rfl;refine⟨h,?_⟩;rintro _ _ _ ⟨rfl,rfl,rfl⟩;refine⟨rdU_ok h,?_⟩;rintro _ _ _ ⟨rfl,rfl,rfl⟩;refine⟨rdU_ok (rdU_ok h),?_⟩;rintro _ _ _ ⟨rfl,rfl,rfl⟩;refine⟨rdU_ok (rdU_ok (rdU_ok h)),?_⟩;rintro _ _ _ ⟨rfl,rfl,rfl⟩;exact⟨rfl,rfl,rfl,rfl,rfl,rfl,rfl⟩
noncomputable def kik:Con TB.den:= .gp 104 [.sl yqb,yqi] [.sl yqb] [] fun(p0:Li) (p1:Int)=>(0<=p1/\p0.length+p1<=140737488355328,p0,())
theorem kjy:kik.Ok Tryz.prog TB:=qrv Bs Tryz.func104 (.r 3 (.rt [.frz 0 [4]])) c0 (Q:=∀(p0:Li) (p1:Int),(0<=p1/\p0.length+p1<=140737488355328)->∀r0:Li,p0=r0-> 
let v1:Int:=i64.wrap ((p0.length:Int)+p1)
0<=(p0.length:Int)/\(p0.length:Int)<=v1/\(v1.toNat*1<=140737488355328)/\(v1.toNat<=maxLen)/\(p0.length:Int).toNat=(List.replicate ((p0.length:Int).toNat) (0:Int)).length/\let v2:Int:=((min p0.length (List.replicate ((p0.length:Int).toNat) (0:Int)).length:Nat):Int)
((p0.length:Int).toNat=(rowOver (List.replicate ((p0.length:Int).toNat) (0:Int)) p0 (List.replicate ((p0.length:Int).toNat) (0:Int)).length).length)/\rowOver (List.replicate ((p0.length:Int).toNat) (0:Int)) p0 (List.replicate ((p0.length:Int).toNat) (0:Int)).length=r0)<|by rintro p0 p1 h _ rfl;obtain⟨h1,h2⟩:=h;refine ?_;rw[wi _ qqo qqo];have e:rowOver (List.replicate ((p0.length:Int).toNat) (0:Int)) p0 (List.replicate ((p0.length:Int).toNat) (0:Int)).length=p0:=kb2 _ _ qqs;simp only[e];exact⟨by omega,by omega,by omega,by unfold maxLen;omega,by simp,by omega,by trivial⟩
noncomputable def k8u:Con TB.den:= .g ⟨173,[.one (.d (.sl yqb))],[],(.one (.one (.ptr 0 0))),yL1,false⟩ [.sl yqb] yR1 [] fun(p0:Li)=>(p0.length<=137438953472,p0,(0:Int),false,())
theorem ka8:k8u.Ok Tryz.prog TB:=prv Bs Tryz.func173 .no (kjy.c c0) (Q:=∀(p0:Li),(p0.length<=137438953472)->∀Ay:Li,p0=Ay->∀Aq:Int,(0:Int)=Aq->∀Aw:Bool,(false:Bool)=Aw-> 
(0<=(0:Int)/\p0.length+(0:Int)<=140737488355328)/\p0=Ay/\0=Aq/\false=Aw)<|by rintro p0 h _ rfl _ rfl _ rfl;exact⟨⟨by omega,by omega⟩,rfl,rfl,rfl⟩
noncomputable def k89:Con TB.den:= .gp 118 [.sl yqb] [.st 16,yqi] [true,true] fun(p0:Li)=>(By p0/\p0.length<=137438953472,((decW p0).1:wj),((decW p0).2:Int),())
abbrev Fz6 (r:Type):=Int->Int->(Li)->Int->Bool->(List wP)->(List wS)->r
theorem k3o:k89.Ok Tryz.prog TB:=qrv Bs Tryz.func118 (.r 2 (.nd [] (.r 0 (.lp [.tokc 2 0 (.st 14),.tokc 2 1 (.st 15)] ⟨[2,1,3,4],yC1,[10],[.one (zqi)],[]⟩ .no)) [] (.nd [] (.r 0 (.lp [] ⟨[2,1,3,4],yC1,[34],[.one (zqi)],[]⟩ .no)) [] .no))) (ka8.c (k81.c (k6v.c (k67.c (kfh.c (kgd.c c0)))))) (Q:=∀(p0:Li),(By p0/\p0.length<=137438953472)->∀r0:wj,((decW p0).1)=r0->∀r1:Int,((decW p0).2)=r1-> 
(p0.length<=137438953472)/\(RdOk p0 (0:Int))/\∀(r49 r50:Int) (r51:Bool),(r49=((rdI p0 (0:Int) false (4:Int)).n)/\r50=((rdI p0 (0:Int) false (4:Int)).pos)/\r51=((rdI p0 (0:Int) false (4:Int)).fail))->(([]:List wS)=([]:List wS))/\(([]:List wP)=([]:List wP))/\∃(I1:Fz6 Prop) (M1:Fz6 Nat),I1 0 0 p0 r50 r51 ([]:List wP) ([]:List wS)/\∀b1 f1 i1 k1 l1 m1 n1,(I1 b1 f1 i1 k1 l1 m1 n1->
(decide (b1<r49)=true->
(RdOk i1 k1)/\∀(r70:wS) (r71:Int) (r72:Bool),(r70=((rdNt i1 k1 l1).n)/\r71=((rdNt i1 k1 l1).pos)/\r72=((rdNt i1 k1 l1).f))->(RdOk i1 r71)/\∀(r73 r74:Int) (r75:Bool),(r73=((rdU i1 r71 r72 (18446744069414584320:Int)).n)/\r74=((rdU i1 r71 r72 (18446744069414584320:Int)).pos)/\r75=((rdU i1 r71 r72 (18446744069414584320:Int)).fail))->(RdOk i1 r74)/\∀(r76 r77:Int) (r78:Bool),(r76=((rdI i1 r74 r75 (3:Int)).n)/\r77=((rdI i1 r74 r75 (3:Int)).pos)/\r78=((rdI i1 r74 r75 (3:Int)).fail))->(RdOk i1 r77)/\∀(r79 r80:Int) (r81:Bool),(r79=((rdI i1 r77 r78 (4095:Int)).n)/\r80=((rdI i1 r77 r78 (4095:Int)).pos)/\r81=((rdI i1 r77 r78 (4095:Int)).fail))->(RdOk i1 r80/\(0<=(12:Int)/\(12:Int)<=4096))/\∀(r82:Li) (r83:Int) (r84:Bool),(r82=((rdL i1 r80 r81 (12:Int) (18446744069414584321:Int)).l)/\r83=((rdL i1 r80 r81 (12:Int) (18446744069414584321:Int)).pos)/\r84=((rdL i1 r80 r81 (12:Int) (18446744069414584321:Int)).fail))->(RdOk i1 r83)/\∀(r85 r86:Int) (r87:Bool),(r85=((rdI i1 r83 r84 (1:Int)).n)/\r86=((rdI i1 r83 r84 (1:Int)).pos)/\r87=((rdI i1 r83 r84 (1:Int)).fail))->let v88:List wP:=[wP.mk r70.Value r70.wBB r70.Rho r70.wBF r73 r76 r79 r82 (r85==1)]
lz m1/\(m1.length+v88.length)*88<=140737488355328/\m1.length+v88.length<=maxLen/\(n1=n1)/\(m1++v88=m1++v88)/\I1 (i64.wrap (b1+1)) f1 i1 r86 r87 (m1++v88) n1/\M1 (i64.wrap (b1+1)) f1 i1 r86 r87 (m1++v88) n1<M1 b1 f1 i1 k1 l1 m1 n1)/\
(decide (b1<r49)=false->
(RdOk i1 k1)/\∀(r106 r107:Int) (r108:Bool),(r106=((rdI i1 k1 l1 (4:Int)).n)/\r107=((rdI i1 k1 l1 (4:Int)).pos)/\r108=((rdI i1 k1 l1 (4:Int)).fail))->(n1=n1)/\(m1=m1)/\∃(I2:Fz6 Prop) (M2:Fz6 Nat),I2 0 f1 i1 r107 r108 m1 n1/\∀o1 q1 s1 t1 u1 x1 y1,(I2 o1 q1 s1 t1 u1 x1 y1->
(decide (o1<r106)=true->
(RdOk s1 t1)/\∀(r112:wS) (r113:Int) (r114:Bool),(r112=((rdNt s1 t1 u1).n)/\r113=((rdNt s1 t1 u1).pos)/\r114=((rdNt s1 t1 u1).f))->lz y1/\(y1.length+[r112].length)*32<=140737488355328/\y1.length+[r112].length<=maxLen/\(y1++[r112]=y1++[r112])/\(x1=x1)/\I2 (i64.wrap (o1+1)) q1 s1 r113 r114 x1 (y1++[r112])/\M2 (i64.wrap (o1+1)) q1 s1 r113 r114 x1 (y1++[r112])<M2 o1 q1 s1 t1 u1 x1 y1)/\
(decide (o1<r106)=false->
(RdOk s1 t1)/\∀(r118 r119:Int) (r120:Bool),(r118=((rdU s1 t1 u1 (18446744069414584320:Int)).n)/\r119=((rdU s1 t1 u1 (18446744069414584320:Int)).pos)/\r120=((rdU s1 t1 u1 (18446744069414584320:Int)).fail))->((!(!r120&&r119==(s1.length:Int)))=true->
([]:List wP)=r0.Ins/\([]:List wS)=r0.wD/\0=r0.wAg/\2=r1)/\
((!(!r120&&r119==(s1.length:Int)))=false->
x1=r0.Ins/\y1=r0.wD/\r118=r0.wAg/\0=r1))))))<|by
 rintro p0 h _ rfl _ rfl;obtain⟨hb,hl⟩:=h;have h0:RdOk p0 0:=⟨hb,hl,by omega,by(first|omega|(dsimp only;omega))⟩;refine⟨hl,h0,?_⟩;rintro _ _ _ ⟨rfl,rfl,rfl⟩;have hC:=rdI_ok (m:=4) (f:=false) h0;have nC:=rdI_n (m:=4) (f:=false) h0 qqo;have zC:=rdI_pz (m:=4) (f:=false) h0 qqo;generalize rdI p0 0 false 4=C at *
 refine⟨rfl,rfl,?_⟩;refine⟨(fun i sec l pos f g o=>(p0=l/\sec=0/\([]:List wS)=o)/\0<=i/\i<=C.n/\RdOk p0 pos/\(g.length:Int)=i/\Pz (fun l:List wP=>l.flatMap encSp) (Gl (GS limW) i.toNat) (p0.drop C.pos.toNat) C.fail g (p0.drop pos.toNat) f),(fun i _ _ _ _ _ _=>(C.n-i).toNat),⟨⟨rfl,rfl,rfl⟩,by omega,nC.1,hC,rfl,Pz.nil⟩,?_⟩;rintro i _ _ pos f g _ ⟨⟨rfl,rfl,rfl⟩,g0,g1,hp,g2,gz⟩;refine⟨fun hh=> ?_,fun hh=> ?_⟩
 ·have hh:=qb hh;refine⟨hp,?_⟩;rintro _ _ _ ⟨rfl,rfl,rfl⟩;have o1:=rdNt_ok (f:=f) hp;have z1:=rdNt_pz (f:=f) hp;generalize rdNt p0 pos f=A1 at *
  refine⟨o1,?_⟩;rintro _ _ _ ⟨rfl,rfl,rfl⟩;have o2:=rdU_ok (m:=18446744069414584320) (f:=A1.f) o1;have z2:=rdU_pz (m:=18446744069414584320) (f:=A1.f) o1;generalize rdU p0 A1.pos A1.f 18446744069414584320=A2 at *
  refine⟨o2,?_⟩;rintro _ _ _ ⟨rfl,rfl,rfl⟩;have o3:=rdI_ok (m:=3) (f:=A2.fail) o2;have z3:=rdI_pz (m:=3) (f:=A2.fail) o2 qqo;generalize rdI p0 A2.pos A2.fail 3=A3 at *
  refine⟨o3,?_⟩;rintro _ _ _ ⟨rfl,rfl,rfl⟩;have o4:=rdI_ok (m:=4095) (f:=A3.fail) o3;have z4:=rdI_pz (m:=4095) (f:=A3.fail) o3 qqo;generalize rdI p0 A3.pos A3.fail 4095=A4 at *
  refine⟨⟨o4,by omega,by omega⟩,?_⟩;rintro _ _ _ ⟨rfl,rfl,rfl⟩;have o5:=rdL_ok (m:=12) (p:=18446744069414584321) (f:=A4.fail) o4 qqo;have z5:=rdL_pz (m:=12) (p:=18446744069414584321) (f:=A4.fail) o4 qqo;generalize rdL p0 A4.pos A4.fail 12 18446744069414584321=A5 at *
  refine⟨o5,?_⟩;rintro _ _ _ ⟨rfl,rfl,rfl⟩;have o6:=rdI_ok (m:=1) (f:=A5.fail) o5;have z6:=rdI_pz (m:=1) (f:=A5.fail) o5 qqo;generalize rdI p0 A5.pos A5.fail 1=A6 at *
  have zz:=kpk (L:=limW) z1 z2 z3 z4 z5 z6;rw[inc i C.n g0 hh qqo];refine⟨rfl,by simp;omega,by simp;unfold maxLen;omega,rfl,rfl,⟨⟨rfl,rfl,rfl⟩,by omega,by omega,o6,by simp;omega,?_⟩,by(dsimp only;omega)⟩;rw[show(i+1).toNat=i.toNat+1 by omega];exact gz.snoc zz
 ·have hh:=qc hh;have hi:i=C.n:=by omega
  subst hi;have zI:=Pz.list zC gz;refine⟨hp,?_⟩;rintro _ _ _ ⟨rfl,rfl,rfl⟩;have hD:=rdI_ok (m:=4) (f:=f) hp;have nD:=rdI_n (m:=4) (f:=f) hp qqo;have zD:=rdI_pz (m:=4) (f:=f) hp qqo;generalize rdI p0 pos f 4=D at *
  refine⟨rfl,rfl,?_⟩;refine⟨(fun i sec l pos' f' gg g' =>(p0=l/\sec=0/\g=gg)/\0<=i/\i<=D.n/\RdOk p0 pos'/\(g'.length:Int)=i/\Pz (fun l:List wS=>l.flatMap encN) (Gl (GN limW) i.toNat) (p0.drop D.pos.toNat) D.fail g' (p0.drop pos'.toNat) f'),(fun i _ _ _ _ _ _=>(D.n-i).toNat),⟨⟨rfl,rfl,rfl⟩,by omega,nD.1,hD,rfl,Pz.nil⟩,?_⟩;rintro i _ _ pos' f' _ g' ⟨⟨rfl,rfl,rfl⟩,g0',g1',hp',g2',gz'⟩;refine⟨fun hh=> ?_,fun hh=> ?_⟩
  ·have hh:=qb hh;refine⟨hp',?_⟩;rintro _ _ _ ⟨rfl,rfl,rfl⟩;have o1:=rdNt_ok (f:=f') hp';have z1:=rdNt_pz (f:=f') hp';generalize rdNt p0 pos' f' =A1 at *
   rw[inc i D.n g0' hh qqo];refine⟨rfl,by simp;omega,by simp;unfold maxLen;omega,rfl,rfl,⟨⟨rfl,rfl,rfl⟩,by omega,by omega,o1,by simp;omega,?_⟩,by(dsimp only;omega)⟩;rw[show(i+1).toNat=i.toNat+1 by omega];exact gz'.snoc z1
  ·have hh:=qc hh;have hi:i=D.n:=by omega
   subst hi;have zO:=Pz.list zD gz';refine⟨hp',?_⟩;rintro _ _ _ ⟨rfl,rfl,rfl⟩;have hS:=rdU_ok (m:=18446744069414584320) (f:=f') hp';have zS:=rdU_pz (m:=18446744069414584320) (f:=f') hp';generalize rdU p0 pos' f' 18446744069414584320=X at *
   obtain⟨snd,cpl⟩:=pz_wit (L:=limW) zI zO zS;refine⟨fun e=> ?_,fun e=> ?_⟩
   ·rw[decW_no]
    ·exact⟨rfl,rfl,rfl,rfl⟩
    intro u hu;obtain⟨c1,c2,c3⟩:=cpl u hu;obtain⟨_,_,q3,q4⟩:=hS;have:=List.drop_eq_nil_iff.1 c2;have e4:X.pos=(p0.length:Int):=by omega
    rw[c1,e4]at e;simp at e
   ·have e:X.fail=false/\X.pos=(p0.length:Int):=by simpa using e
    obtain⟨s1,s2⟩:=snd e.1 (qam qqo)
    have hE:EW ⟨g,g',X.n⟩ p0:=by
     refine⟨s2.wq,k46.2 ⟨?_,?_,?_,fun x hx=>(s2.1.2 x hx).spendV,fun x hx=>(s2.2.1.2 x hx).noteV⟩,s1⟩
     ·have:=s2.1.1.2.2;show g.length<=4;omega
     ·have:=s2.2.1.1.2.2;show g'.length<=4;omega
     ·have:X.n<=18446744069414584320:=s2.2.2.2;show X.n<_;omega
    rw[kr9 hE fun u hu=>(cpl u hu).2.2];exact⟨rfl,rfl,rfl,rfl⟩
noncomputable def k7f:Con TB.den:= .g (gk 92 [.one (.ptr 0 0),.agg yM1,.agg yI1,.one (.d (.sl yqb))] yQ (.one (.one (.d (.bool))))) [.st 0,.st 13,.sl yqb,.bool,yqu,yqi,.sl (.st 4),.sl (.str),.sl yqi,.sl (.str),.sl (.sl yqu),.sl (.str),.sl (.bool)] yY [] fun(p1:wE) (p2:wAN) (p3:Li) (Ad:Bool) (Aa Ae:Int) (Ab:List wB) (w1k:Lb) (w1v:Li) (w2k:Lb) (w2v:List (Li)) (w3k:Lb) (w3v:Lo)=>(p1.wb=2/\By p3/\p3.length<=137438953472/\SR p2/\Ad=false/\w1k=([]:Lb)/\w1v=([]:Li),(((decW p3).2==0&&checkS pkR p2 (decW p3).1==0):Bool),Ad,Aa,Ae,Ab,w1k,w1v,w2k,w2v,w3k,w3v,())
theorem k8d:k7f.Ok Tryz.prog TB:=prv Bs Tryz.func92 .no (k3o.c (k3x.c c0)) (Q:=∀(p1:wE) (p2:wAN) (p3:Li) (Ad:Bool) (Aa Ae:Int) (Ab:List wB) (w1k:Lb) (w1v:Li) (w2k:Lb) (w2v:List (Li)) (w3k:Lb) (w3v:Lo),(p1.wb=2/\By p3/\p3.length<=137438953472/\SR p2/\Ad=false/\w1k=([]:Lb)/\w1v=([]:Li))->∀r0:Bool,((decW p3).2==0&&checkS pkR p2 (decW p3).1==0)=r0->∀Ay:Bool,Ad=Ay->∀Aq:Int,Aa=Aq->∀Aw:Int,Ae=Aw->∀Ax:List wB,Ab=Ax->∀e1k:Lb,w1k=e1k->∀e1v:Li,w1v=e1v->∀e2k:Lb,w2k=e2k->∀e2v:List (Li),w2v=e2v->∀e3k:Lb,w3k=e3k->∀e3v:Lo,w3v=e3v-> 
((p1.wb==1)=true->
False)/\
((p1.wb==1)=false->
((p1.wb==2)=true->
(By p3/\p3.length<=137438953472)/\∀(r7:wj) (r8:Int),(r7=((decW p3).1)/\r8=((decW p3).2))->((r8==0)=true->
(SR p2/\WR r7/\OrOk w1k w1v Ab/\(∀l a,(pk Ad Ab w1k w1v) l a=none∨∃n,(pk Ad Ab w1k w1v) l a=some n/\U64 n))/\let v9:Bool:=((checkS (pk Ad Ab w1k w1v) p2 r7)==0)
v9=r0/\Ad=Ay/\Aa=Aq/\Ae=Aw/\Ab=Ax/\w1k=e1k/\w1v=e1v/\w2k=e2k/\w2v=e2v/\w3k=e3k/\w3v=e3v)/\
((r8==0)=false->
false=r0/\Ad=Ay/\Aa=Aq/\Ae=Aw/\Ab=Ax/\w1k=e1k/\w1v=e1v/\w2k=e2k/\w2v=e2v/\w3k=e3k/\w3v=e3v))/\
((p1.wb==2)=false->
False)))<|by
 rintro p1 p2 p3 Ad Aa Ae Ab w1k w1v w2k w2v w3k w3v h;repeat rintro _ rfl
 obtain⟨hm,hb,hl,hs,rfl,rfl,rfl⟩:=h;have hp:pk false Ab [] []=pkR:=by funext l a;exact pk_real _ _ _
 refine⟨fun e=> ?_,fun _=>⟨fun _=>⟨⟨hb,hl⟩,?_⟩,fun e=> ?_⟩⟩
 ·rw[hm]at e;cases e
 ·rintro _ _ ⟨rfl,rfl⟩;refine⟨fun e=>⟨⟨hs,kla e,orOk_q _,fun l a=>by rw[hp];exact pkR_u⟩,?_⟩,fun e=> ?_⟩
  ·rw[e,hp];exact(by repeat' first|apply qt|exact rfl|exact qm)
  ·rw[e];exact(by repeat' first|apply qt|exact rfl|exact qm)
 ·rw[hm]at e;cases e
noncomputable def ka3:Con TB.den:= .g (gk 47 [.one (.ptr 0 0),.agg yM1,.agg yE1] yQ (.one (.one (zqi)))) [.st 0,.st 2,.bool,yqu,yqi,.sl (.st 4),.sl (.str),.sl yqi,.sl (.str),.sl (.sl yqu),.sl (.str),.sl (.bool)] yA1 [] fun(p1:wE) (p2:wZ) (Ad:Bool) (Aa Ae:Int) (Ab:List wB) (w1k:Lb) (w1v:Li) (w2k:Lb) (w2v:List (Li)) (w3k:Lb) (w3v:Lo)=>((p1.wb=2/\TR p2/\p2.wv.length<=137438953472)/\Ad=false/\w1k=([]:Lb)/\w1v=([]:Li),(txE p1 p2:Int),Ad,Aa,Ae,Ab,w1k,w1v,w2k,w2v,w3k,w3v,())
theorem kcq:ka3.Ok Tryz.prog TB:=prv Bs Tryz.func47 .no (k15.c (k1o.c (k1n.c (k5j.c (k8d.c c0))))) (Q:=∀(p1:wE) (p2:wZ) (Ad:Bool) (Aa Ae:Int) (Ab:List wB) (w1k:Lb) (w1v:Li) (w2k:Lb) (w2v:List (Li)) (w3k:Lb) (w3v:Lo),((p1.wb=2/\TR p2/\p2.wv.length<=137438953472)/\Ad=false/\w1k=([]:Lb)/\w1v=([]:Li))->∀r0:Int,txE p1 p2=r0->∀Ay:Bool,Ad=Ay->∀Aq:Int,Aa=Aq->∀Aw:Int,Ae=Aw->∀Ax:List wB,Ab=Ax->∀e1k:Lb,w1k=e1k->∀e1v:Li,w1v=e1v->∀e2k:Lb,w2k=e2k->∀e2v:List (Li),w2v=e2v->∀e3k:Lb,w3k=e3k->∀e3v:Lo,w3v=e3v-> 
(((rulesE p1) !=0)=true->
(rulesE p1)=r0/\Ad=Ay/\Aa=Aq/\Ae=Aw/\Ab=Ax/\w1k=e1k/\w1v=e1v/\w2k=e2k/\w2v=e2v/\w3k=e3k/\w3v=e3v)/\
(((rulesE p1) !=0)=false->
((!(Ad==(p1.wb==3)))=true->
1=r0/\Ad=Ay/\Aa=Aq/\Ae=Aw/\Ab=Ax/\w1k=e1k/\w1v=e1v/\w2k=e2k/\w2v=e2v/\w3k=e3k/\w3v=e3v)/\
((!(Ad==(p1.wb==3)))=false->
(((validE p2) !=0)=true->
(validE p2)=r0/\Ad=Ay/\Aa=Aq/\Ae=Aw/\Ab=Ax/\w1k=e1k/\w1v=e1v/\w2k=e2k/\w2v=e2v/\w3k=e3k/\w3v=e3v)/\
(((validE p2) !=0)=false->
(TR p2/\-9223372036854775808<=p1.wC/\p1.wC<=9223372036854775807)/\(p1.wb=2/\By p2.wv/\p2.wv.length<=137438953472/\SR (stmtS p2 p1.wC)/\Ad=false/\w1k=([]:Lb)/\w1v=([]:Li))/\let r1:Bool:=((decW p2.wv).2==0&&checkS pkR (stmtS p2 p1.wC) (decW p2.wv).1==0)
((!r1)=true->
10=r0/\Ad=Ay/\Aa=Aq/\Ae=Aw/\Ab=Ax/\w1k=e1k/\w1v=e1v/\w2k=e2k/\w2v=e2v/\w3k=e3k/\w3v=e3v)/\
((!r1)=false->
0=r0/\Ad=Ay/\Aa=Aq/\Ae=Aw/\Ab=Ax/\w1k=e1k/\w1v=e1v/\w2k=e2k/\w2v=e2v/\w3k=e3k/\w3v=e3v)))))<|by
 rintro p1 p2 Ad Aa Ae Ab w1k w1v w2k w2v w3k w3v h;repeat rintro _ rfl
 obtain⟨⟨hm,ht,hpl⟩,rfl,rfl,rfl⟩:=h;unfold txE;refine⟨fun e=> ?_,fun e=> ?_⟩
 ·rw[qh (by simpa using e)];exact(by repeat' first|apply qt|exact rfl|exact qm)
 ·have e:rulesE p1=0:=by simpa using e
  have hb:=kbt e;simp only[rulesB,qe,qae]at hb;rw[qf (fun hh=>hh e)];refine⟨fun e2=> ?_,fun _=>⟨fun e3=> ?_,fun e3=> ?_⟩⟩
  ·rw[hm]at e2;cases e2
  ·rw[qh (by simpa using e3)];exact(by repeat' first|apply qt|exact rfl|exact qm)
  ·have e3:validE p2=0:=by simpa using e3
   rw[qf (fun hh=>hh e3)];refine⟨⟨ht,by omega,by omega⟩,⟨hm,ht.p,hpl,kqw ht qqo,rfl,rfl,rfl⟩,fun e4=> ?_,fun e4=> ?_⟩
   ·have e4:(!accT p1 p2)=true:=e4;have e4:accT p1 p2=false:=by simpa using e4
    rw[qh e4];exact(by repeat' first|apply qt|exact rfl|exact qm)
   ·have e4:(!accT p1 p2)=false:=e4;have e4:accT p1 p2=true:=by simpa using e4
    rw[qf (by rw[e4];simp)];exact(by repeat' first|apply qt|exact rfl|exact qm)
noncomputable def kbw:Con TB.den:= .b ⟨13,[.one (.ptr 0 0),.agg yK1],yB,(.tup [.one (zqi),.one (zqi),.one (zqi)]),yA,false⟩ (.st 3:: .int .i64:: .int .i64:: .int .i64:: .int .i64:: .int .i64:: .int .u64:: .int .i64:: .int .i64:: .int .u64:: .sl yqu:: .int .u64:: .int .i64:: .bool::yH) (.int .i64:: .int .i64:: .int .i64:: .int .i64:: .int .i64:: .int .i64:: .int .i64:: .int .i64:: .int .u64:: .int .i64:: .int .i64:: .int .u64:: .sl yqu:: .int .u64:: .int .i64:: .bool::yI) fun(p1:wI) (Aa Ae Ab Am Ao Ag Aj Ah Ai:Int) (Ac:Li) (Ap Af:Int) (At:Bool) (Au Av:Int) (As:List wB) (Bb Bc Bd Be Bf Bg Bh Bi Bj Bk Az:Int) (A0:Li) (A7:List wA) (A8:Int) (w2k:Li) (w2v:List wL) (w4k:Lb) (w4v:Li) (w5k:Lb) (w5v:List (Li)) (w6k:Lb) (w6v:Lo) (w7 w9:Li) (w10:List wK) (w11k:Li) (w11v:Lo)=>(SCh (CS.mk (wE.mk Aa Ae Ab Am Ao Ag Aj Ah Ai) w2k w2v Ac (PS.mk (wE.mk Bb Bc Bd Be Bf Bg Bh Bi Bj) (wG.mk Bk Az A0) A7 A8 w7 w9 w10 w11k w11v) Ap Af) p1/\At=false/\w4k=([]:Lb)/\w4v=([]:Li),subS (CS.mk (wE.mk Aa Ae Ab Am Ao Ag Aj Ah Ai) w2k w2v Ac (PS.mk (wE.mk Bb Bc Bd Be Bf Bg Bh Bi Bj) (wG.mk Bk Az A0) A7 A8 w7 w9 w10 w11k w11v) Ap Af) p1,fun R=>(R.u,R.a,R.e,Aa,Ae,Ab,Am,Ao,Ag,Aj,Ah,Ai,R.c.be,R.c.fi,R.c.he,At,Au,Av,As,R.c.S.R.wb,R.c.S.R.wC,R.c.S.R.wR,R.c.S.R.wO,R.c.S.R.wN,R.c.S.R.wV,R.c.S.R.wc,R.c.S.R.wU,R.c.S.R.wW,R.c.S.F.wC,R.c.S.F.we,R.c.S.F.wh,R.c.S.b,R.c.S.n,R.c.k,R.c.v,w4k,w4v,w5k,w5v,w6k,w6v,R.c.S.k,R.c.S.v,R.c.S.l,R.c.S.r,R.c.S.p,()))
abbrev ku (R:SubR) (Aa Ae Ab Am Ao Ag Aj Ah Ai:Int) (At:Bool) (Au Av:Int) (As:List wB) (w4k:Lb) (w4v:Li) (w5k:Lb) (w5v:List (Li)) (w6k:Lb) (w6v:Lo) (o0 o1 o2 o3 o4 o5 o6 o7 o8 o9 o10 o11:Int) (o12:Li) (o13 o14:Int) (o15:Bool) (o16 o17:Int) (o18:List wB) (o19 o20 o21 o22 o23 o24 o25 o26 o27 o28 o29:Int) (o30:Li) (o31:List wA) (o32:Int) (o33:Li) (o34:List wL) (o35:Lb) (o36:Li) (o37:Lb) (o38:List (Li)) (o39:Lb) (o40:Lo) (o41:Li) (o42:Lo) (o43 o44:Li) (o45:List wK):Prop:=o0=R.u/\o1=R.a/\o2=R.e/\o3=Aa/\o4=Ae/\o5=Ab/\o6=Am/\o7=Ao/\o8=Ag/\o9=Aj/\o10=Ah/\o11=Ai/\o12=R.c.be/\o13=R.c.fi/\o14=R.c.he/\o15=At/\o16=Au/\o17=Av/\o18=As/\o19=R.c.S.R.wb/\o20=R.c.S.R.wC/\o21=R.c.S.R.wR/\o22=R.c.S.R.wO/\o23=R.c.S.R.wN/\o24=R.c.S.R.wV/\o25=R.c.S.R.wc/\o26=R.c.S.R.wU/\o27=R.c.S.R.wW/\o28=R.c.S.F.wC/\o29=R.c.S.F.we/\o30=R.c.S.F.wh/\o31=R.c.S.b/\o32=R.c.S.n/\o33=R.c.k/\o34=R.c.v/\o35=w4k/\o36=w4v/\o37=w5k/\o38=w5v/\o39=w6k/\o40=w6v/\o41=R.c.S.k/\o42=R.c.S.v/\o43=R.c.S.l/\o44=R.c.S.r/\o45=R.c.S.p
theorem k57:kbw.Ok Tryz.prog TB:=pbv Bs Tryz.func13 (.r 0 (.nd [] (.r 1 (.nd [] (.r 0 (.rt [.trimc 3 12,.trimc 3 16,.trimc 3 17])) [] .no)) [] (.r 0 (.nd [] (.r 1 (.nd [] (.r 0 (.rt [.trimc 3 12,.trimc 3 16,.trimc 3 17])) [] .no)) [] (.nd [] (.r 1 (.nd [] (.r 0 (.rt [.trimc 3 12,.trimc 3 16,.trimc 3 17])) [] .no)) [] (.r 0 (.nd [] (.jn ⟨[],[],[78],[.one (.d (.bool))],[]⟩ [] .no [] (.nd [] (.r 0 (.rt [.trimc 3 12,.trimc 3 16,.trimc 3 17])) [] .no)) [] (.nd [] (.r 0 (.lp [] ⟨[6,5,4,1],yR,[82],[.one (zqi)],[]⟩ (.r 1 (.nd [] (.r 2 (.nd [] (.r 0 (.rt [.trimc 3 12,.trimc 3 16,.trimc 3 17])) [] .no)) [] .no)))) [] (.r 0 (.jn ⟨[],[],[16],[.one (zqi)],[]⟩ [] (.lp [] ⟨[],[],[16],[.one (zqi)],[]⟩ .no) [] (.r 2 (.jn ⟨[],[],[18],[.one (zqu)],[]⟩ [] .no [] .no)))))))))))) (kfc.c (km6.c (ket.c (kad.c (kcq.c (ki6.c (k3h.c (kex.c (k66.c (kap.c c0)))))))))) (Q:=∀(p1:wI) (Aa Ae Ab Am Ao Ag Aj Ah Ai:Int) (Ac:Li) (Ap Af:Int) (At:Bool) (Au Av:Int) (As:List wB) (Bb Bc Bd Be Bf Bg Bh Bi Bj Bk Az:Int) (A0:Li) (A7:List wA) (A8:Int) (w2k:Li) (w2v:List wL) (w4k:Lb) (w4v:Li) (w5k:Lb) (w5v:List (Li)) (w6k:Lb) (w6v:Lo) (w7 w9:Li) (w10:List wK) (w11k:Li) (w11v:Lo),(SCh (CS.mk (wE.mk Aa Ae Ab Am Ao Ag Aj Ah Ai) w2k w2v Ac (PS.mk (wE.mk Bb Bc Bd Be Bf Bg Bh Bi Bj) (wG.mk Bk Az A0) A7 A8 w7 w9 w10 w11k w11v) Ap Af) p1/\At=false/\w4k=([]:Lb)/\w4v=([]:Li))->∀R,subS (CS.mk (wE.mk Aa Ae Ab Am Ao Ag Aj Ah Ai) w2k w2v Ac (PS.mk (wE.mk Bb Bc Bd Be Bf Bg Bh Bi Bj) (wG.mk Bk Az A0) A7 A8 w7 w9 w10 w11k w11v) Ap Af) p1=R-> 
(BR p1)/\let r3:Int:=(checkB (wE.mk Aa Ae Ab Am Ao Ag Aj Ah Ai).wW p1)
((r3 !=0)=true->
lz w7/\lz w9/\lz w10/\lz w10/\lz w9/\lz w7/\ku R Aa Ae Ab Am Ao Ag Aj Ah Ai At Au Av As w4k w4v w5k w5v w6k w6v 0 0 r3 Aa Ae Ab Am Ao Ag Aj Ah Ai Ac Ap Af At Au Av As Bb Bc Bd Be Bf Bg Bh Bi Bj Bk Az A0 A7 A8 w2k w2v w4k w4v w5k w5v w6k w6v w11k w11v w7 w9 w10)/\
((r3 !=0)=false->
(BR p1)/\w2k.length=w2v.length/\let v4:wL:=mVal (BEq.beq (idB p1)) w2k w2v (default:wL)
(mHas (BEq.beq (idB p1)) w2k=true->
lz w7/\lz w9/\lz w10/\lz w10/\lz w9/\lz w7/\ku R Aa Ae Ab Am Ao Ag Aj Ah Ai At Au Av As w4k w4v w5k w5v w6k w6v 0 0 5 Aa Ae Ab Am Ao Ag Aj Ah Ai Ac Ap Af At Au Av As Bb Bc Bd Be Bf Bg Bh Bi Bj Bk Az A0 A7 A8 w2k w2v w4k w4v w5k w5v w6k w6v w11k w11v w7 w9 w10)/\
(mHas (BEq.beq (idB p1)) w2k=false->
lz w10/\lz w9/\lz w7/\(w2k.length=w2v.length)/\(((parS w2k w2v p1) !=0)=true->
lz w7/\lz w9/\lz w10/\lz w10/\lz w9/\lz w7/\ku R Aa Ae Ab Am Ao Ag Aj Ah Ai At Au Av As w4k w4v w5k w5v w6k w6v 0 0 (parS w2k w2v p1) Aa Ae Ab Am Ao Ag Aj Ah Ai Ac Ap Af At Au Av As Bb Bc Bd Be Bf Bg Bh Bi Bj Bk Az A0 A7 A8 w2k w2v w4k w4v w5k w5v w6k w6v w11k w11v w7 w9 w10)/\
(((parS w2k w2v p1) !=0)=false->
lz w10/\lz w9/\lz w7/\((∃(R:wE) (n:Nat),KI R w2k w2v n/\n<=20)/\PaOk w2k w2v p1/\1<=p1.wM)/\∀J1:Bool->Prop,(∀(b1:Bool),
((b1=true->
lz w7/\lz w9/\lz w10/\lz w10/\lz w9/\lz w7/\ku R Aa Ae Ab Am Ao Ag Aj Ah Ai At Au Av As w4k w4v w5k w5v w6k w6v 0 0 19 Aa Ae Ab Am Ao Ag Aj Ah Ai Ac Ap Af At Au Av As Bb Bc Bd Be Bf Bg Bh Bi Bj Bk Az A0 A7 A8 w2k w2v w4k w4v w5k w5v w6k w6v w11k w11v w7 w9 w10)/\
(b1=false->
∃(I1:Fz5 Prop) (M1:Fz5 Nat),I1 0 At Au Av As w6k w6v w5k w5v w4k w4v/\∀f1 i1 k1 l1 m1 n1 o1 q1 s1 t1 u1,(I1 f1 i1 k1 l1 m1 n1 o1 q1 s1 t1 u1->
(decide (f1<(p1.Txs.length:Int))=true->
(0<=f1)/\f1<(p1.Txs.length:Int)/\(((wE.mk Aa Ae Ab Am Ao Ag Aj Ah Ai).wb=2/\TR (ix p1.Txs f1)/\(ix p1.Txs f1).wv.length<=137438953472)/\i1=false/\t1=([]:Lb)/\u1=([]:Li))/\let r7:Int:=(txE (wE.mk Aa Ae Ab Am Ao Ag Aj Ah Ai) (ix p1.Txs f1))
((r7 !=0)=true->
lz w7/\lz w9/\lz w10/\lz w10/\lz w9/\lz w7/\ku R Aa Ae Ab Am Ao Ag Aj Ah Ai At Au Av As w4k w4v w5k w5v w6k w6v 0 0 r7 Aa Ae Ab Am Ao Ag Aj Ah Ai Ac Ap Af i1 k1 l1 m1 Bb Bc Bd Be Bf Bg Bh Bi Bj Bk Az A0 A7 A8 w2k w2v t1 u1 q1 s1 n1 o1 w11k w11v w7 w9 w10)/\
((r7 !=0)=false->
I1 (i64.wrap (f1+1)) i1 k1 l1 m1 n1 o1 q1 s1 t1 u1/\M1 (i64.wrap (f1+1)) i1 k1 l1 m1 n1 o1 q1 s1 t1 u1<M1 f1 i1 k1 l1 m1 n1 o1 q1 s1 t1 u1))/\
(decide (f1<(p1.Txs.length:Int))=false->
∀J2:Int->Prop,(∀(x1:Int),
((0<=x1)/\x1<=(Ac.length:Int)/\(0<=x1)/\x1<=((brB w2k w2v p1).length:Int)/\lz w10/\lz w9/\lz w7/\(w2k.length=w2v.length/\MvOk w2k w2v (PS.mk (wE.mk Bb Bc Bd Be Bf Bg Bh Bi Bj) (wG.mk Bk Az A0) A7 A8 w7 w9 w10 w11k w11v) (Ac.drop x1.toNat).length ((brB w2k w2v p1).drop x1.toNat))/\let r10:=mvS w2k w2v (PS.mk (wE.mk Bb Bc Bd Be Bf Bg Bh Bi Bj) (wG.mk Bk Az A0) A7 A8 w7 w9 w10 w11k w11v) (Ac.drop x1.toNat).length ((brB w2k w2v p1).drop x1.toNat)
lz r10.p/\lz r10.r/\lz r10.l/\((∃c:Nat,c+p1.Txs.length<=790/\PI (r10) c 0)/\BR' p1)/\((((applyS (r10) p1).e) !=0)=true->
(0<=x1)/\x1<=((brB w2k w2v p1).length:Int)/\(0<=x1)/\x1<=(Ac.length:Int)/\lz (((applyS (r10) p1).s).p)/\lz (((applyS (r10) p1).s).r)/\lz (((applyS (r10) p1).s).l)/\(w2k.length=w2v.length/\MvOk w2k w2v (((applyS (r10) p1).s)) ((brB w2k w2v p1).drop x1.toNat).length (Ac.drop x1.toNat))/\let r11:=mvS w2k w2v (((applyS (r10) p1).s)) ((brB w2k w2v p1).drop x1.toNat).length (Ac.drop x1.toNat)
lz r11.p/\lz r11.r/\lz r11.l/\ku R Aa Ae Ab Am Ao Ag Aj Ah Ai At Au Av As w4k w4v w5k w5v w6k w6v 0 0 ((applyS (r10) p1).e) Aa Ae Ab Am Ao Ag Aj Ah Ai Ac Ap Af i1 k1 l1 m1 r11.R.wb r11.R.wC r11.R.wR r11.R.wO r11.R.wN r11.R.wV r11.R.wc r11.R.wU r11.R.wW r11.F.wC r11.F.we r11.F.wh r11.b r11.n w2k w2v t1 u1 q1 s1 n1 o1 r11.k r11.v r11.l r11.r r11.p)/\
((((applyS (r10) p1).e) !=0)=false->
∀J3:Int->Prop,(∀(b2:Int),
(lz (((applyS (r10) p1).s).p)/\lz (((applyS (r10) p1).s).r)/\lz (((applyS (r10) p1).s).l)/\(w2k.length=w2v.length/\Ac.length<=1000)/\(p1.Txs.length<=4294967295/\∀x∈p1.Txs,TL x)/\w2k.length=w2v.length/\let v14:Li:=mPutK (BEq.beq (idB p1)) w2k (idB p1)
let v15:List wL:=mPutV (BEq.beq (idB p1)) w2k w2v (wL.mk p1.wm p1.wM p1.wAl p1.wW p1.wY p1.Txs b2)
lz (brB w2k w2v p1)/\((brB w2k w2v p1).length+[(idB p1)].length)*8<=140737488355328/\(brB w2k w2v p1).length+[(idB p1)].length<=maxLen/\((!(betS w2k w2v Ac (idB p1) b2))=true->
(0<=x1)/\x1<=(((brB w2k w2v p1)++[(idB p1)]).length:Int)/\let v16:Li:=((brB w2k w2v p1)++[(idB p1)]).drop x1.toNat
(0<=x1)/\x1<=(Ac.length:Int)/\lz (((applyS (r10) p1).s).p)/\lz (((applyS (r10) p1).s).r)/\lz (((applyS (r10) p1).s).l)/\(v14.length=v15.length/\MvOk v14 v15 (((applyS (r10) p1).s)) v16.length (Ac.drop x1.toNat))/\let r17:=mvS v14 v15 (((applyS (r10) p1).s)) v16.length (Ac.drop x1.toNat)
lz r17.p/\lz r17.r/\lz r17.l/\ku R Aa Ae Ab Am Ao Ag Aj Ah Ai At Au Av As w4k w4v w5k w5v w6k w6v 0 0 0 Aa Ae Ab Am Ao Ag Aj Ah Ai Ac Ap Af i1 k1 l1 m1 r17.R.wb r17.R.wC r17.R.wR r17.R.wO r17.R.wN r17.R.wV r17.R.wc r17.R.wU r17.R.wW r17.F.wC r17.F.we r17.F.wh r17.b r17.n v14 v15 t1 u1 q1 s1 n1 o1 r17.k r17.v r17.l r17.r r17.p)/\
((!(betS w2k w2v Ac (idB p1) b2))=false->
let v18:Int:=i64.wrap ((Ac.length:Int)-x1)
let v19:Int:=(((brB w2k w2v p1)++[(idB p1)]).length:Int)
lz (((applyS (r10) p1).s).p)/\lz (((applyS (r10) p1).s).r)/\lz (((applyS (r10) p1).s).l)/\((brB w2k w2v p1)++[(idB p1)]=(brB w2k w2v p1)++[(idB p1)])/\((1<=Ah/\Ah<=1048576)/\((brB w2k w2v p1)++[(idB p1)]).length<=1000)/\let r20:=finS Ah ((brB w2k w2v p1)++[(idB p1)]) Ap Af
lz (((applyS (r10) p1).s).p)/\lz (((applyS (r10) p1).s).r)/\lz (((applyS (r10) p1).s).l)/\ku R Aa Ae Ab Am Ao Ag Aj Ah Ai At Au Av As w4k w4v w5k w5v w6k w6v v18 (i64.wrap (v19-x1)) 0 Aa Ae Ab Am Ao Ag Aj Ah Ai ((brB w2k w2v p1)++[(idB p1)]) r20.f r20.h i1 k1 l1 m1 (((applyS (r10) p1).s).R.wb) (((applyS (r10) p1).s).R.wC) (((applyS (r10) p1).s).R.wR) (((applyS (r10) p1).s).R.wO) (((applyS (r10) p1).s).R.wN) (((applyS (r10) p1).s).R.wV) (((applyS (r10) p1).s).R.wc) (((applyS (r10) p1).s).R.wU) (((applyS (r10) p1).s).R.wW) (((applyS (r10) p1).s).F.wC) (((applyS (r10) p1).s).F.we) (((applyS (r10) p1).s).F.wh) (((applyS (r10) p1).s).b) (((applyS (r10) p1).s).n) v14 v15 t1 u1 q1 s1 n1 o1 (((applyS (r10) p1).s).k) (((applyS (r10) p1).s).v) (((applyS (r10) p1).s).l) (((applyS (r10) p1).s).r) (((applyS (r10) p1).s).p)))->J3 b2)->
let v12:Bool:=decide (0<((brB w2k w2v p1).length:Int))
(v12=true->
w2k.length=w2v.length/\let v13:wL:=mVal (BEq.beq p1.wm) w2k w2v (default:wL)
J3 (u64.wrap (p1.wW+v13.work)))/\
(v12=false->
J3 p1.wW)))->J2 x1)->
∃(I2:Int->Prop) (M2:Int->Nat),I2 0/\∀y1,(I2 y1->
let v8:Bool:=decide (y1<((brB w2k w2v p1).length:Int))
(v8=true->
(decide (y1<(Ac.length:Int))=true->
(0<=y1)/\y1<((brB w2k w2v p1).length:Int)/\(0<=y1)/\y1<(Ac.length:Int)/\let v9:Bool:=((ix (brB w2k w2v p1) y1)==(ix Ac y1))
(v9=true->
I2 (i64.wrap (y1+1))/\M2 (i64.wrap (y1+1))<M2 y1)/\
(v9=false->
J2 y1))/\
(decide (y1<(Ac.length:Int))=false->
J2 y1))/\
(v8=false->
J2 y1))))))->J1 b1)->
(decide (0<Af)=true->
let v5:Bool:=decide (((brB w2k w2v p1).length:Int)<Af)
(v5=true->
J1 true)/\
(v5=false->
(0<=i64.wrap (Af-1))/\i64.wrap (Af-1)<((brB w2k w2v p1).length:Int)/\let v6:Int:=ix (brB w2k w2v p1) (i64.wrap (Af-1))
J1 (v6 !=Ap)))/\
(decide (0<Af)=false->
J1 false)))))<|by
 rintro p1 Aa Ae Ab Am Ao Ag Aj Ah Ai Ac Ap Af At Au Av As Bb Bc Bd Be Bf Bg Bh Bi Bj Bk Az A0 A7 A8 w2k w2v w4k w4v w5k w5v w6k w6v w7 w9 w10 w11k w11v h R hR;obtain⟨hS,rfl,rfl,rfl⟩:=h;obtain⟨n,hn,hK,b1,b2,b3,hst,he0,hb,hm⟩:=hS.facts;have hkv:=hK.kv;have hF:=khn hK.ru;have h64:=hb.t;refine⟨hb.r,fun e1=> ?_,fun e1=> ?_⟩
 ·have hq:=hR.symm.trans (sub_e1 (bne_iff_ne.1 e1));subst hq;exact(by repeat' first|apply qt|exact rfl|exact qm)
 ·have h1:=bne_eq_false_iff_eq.1 e1;refine⟨hb.r,hkv,fun e2=> ?_,fun e2=> ?_⟩
  ·have hq:=hR.symm.trans (sub_e2 h1 (k20.1 e2));subst hq;exact(by repeat' first|apply qt|exact rfl|exact qm)
  ·have h2:idB p1∉w2k:=fun h=>by rw[k20.2 h]at e2;cases e2
   refine⟨rfl,rfl,rfl,hkv,fun e3=> ?_,fun e3=> ?_⟩
   ·have hq:=hR.symm.trans (sub_e3 h1 h2 (bne_iff_ne.1 e3));subst hq;exact(by repeat' first|apply qt|exact rfl|exact qm)
   ·have h3:=bne_eq_false_iff_eq.1 e3;have hv:=kis h1;have hp:=parS_ok h3 hv;obtain⟨q1,q2,q3,q4,q5⟩:=hK.br hp hv.h.h0;refine⟨rfl,rfl,rfl,⟨⟨_,n,hK,by omega⟩,hp,hv.h.h0⟩,?_⟩;intro J1 k1
    have j1:∀b:Bool,(b=true↔(0<Af/\(((brB w2k w2v p1).length:Int)<Af∨ix (brB w2k w2v p1) (Af-1)≠Ap)))->J1 b:=by
     intro b hbb;refine k1 b ⟨fun e4=> ?_,fun e4=> ?_⟩
     ·have hq:=hR.symm.trans (sub_e4 h1 h2 h3 (hbb.1 e4));subst hq;exact(by repeat' first|apply qt|exact rfl|exact qm)
     ·have h4:¬(0<Af/\(((brB w2k w2v p1).length:Int)<Af∨ix (brB w2k w2v p1) (Af-1)≠Ap)):=fun h=>by rw[hbb.2 h]at e4;cases e4
      refine⟨(fun f i k l m n o q s t u=>∃j:Nat,f=(j:Int)/\j<=p1.Txs.length/\(false=i/\Au=k/\Av=l/\As=m/\w6k=n/\w6v=o/\w5k=q/\w5v=s/\[]=t/\[]=u)/\txsE (wE.mk Aa Ae Ab Am Ao Ag Aj Ah Ai) (p1.Txs.drop j)=txsE (wE.mk Aa Ae Ab Am Ao Ag Aj Ah Ai) p1.Txs),(fun f _ _ _ _ _ _ _ _ _ _=>(p1.Txs.length-f).toNat),⟨0,rfl,qav _,⟨rfl,rfl,rfl,rfl,rfl,rfl,rfl,rfl,rfl,rfl⟩,rfl⟩,?_⟩;rintro _ _ _ _ _ _ _ _ _ _ _ ⟨j,rfl,hj,⟨rfl,rfl,rfl,rfl,rfl,rfl,rfl,rfl,rfl,rfl⟩,ht⟩;refine⟨fun e5=> ?_,fun e5=> ?_⟩
      ·have e5:(j:Int)<p1.Txs.length:=qb e5;have hjl:j<p1.Txs.length:=by omega
       have hmem:p1.Txs[j]∈p1.Txs:=qal hjl;rw[ix_get _ _ hjl,inc (j:Int) p1.Txs.length qqo e5 qqo];rw[ko4 hjl]at ht;refine⟨by omega,e5,⟨⟨hm,hb.r.t _ hmem,by have:=(hb.l _ hmem).p;omega⟩,rfl,rfl,rfl⟩,fun e6=> ?_,fun e6=> ?_⟩
       ·have e6:=bne_iff_ne.1 e6;rw[qh e6]at ht;have hq:=hR.symm.trans (sub_e5 h1 h2 h3 h4 (by rw[<-ht];exact e6));rw[<-ht]at hq;subst hq;exact(by repeat' first|apply qt|exact rfl|exact qm)
       ·have e6:=bne_eq_false_iff_eq.1 e6;rw[qf (fun hh=>hh e6)]at ht;exact⟨⟨j+1,rfl,by omega,⟨rfl,rfl,rfl,rfl,rfl,rfl,rfl,rfl,rfl,rfl⟩,ht⟩,by(first|omega|(dsimp only;omega))⟩
      ·have e5:¬(j:Int)<p1.Txs.length:=qc e5;rw[qam qqo]at ht;have h5:txsE (wE.mk Aa Ae Ab Am Ao Ag Aj Ah Ai) p1.Txs=0:=ht.symm;intro J2 k2;obtain⟨c1,c2,hct⟩:=cpl_le (brB w2k w2v p1) Ac
       have j2:∀i:Nat,i=cpl (brB w2k w2v p1) Ac->J2 (i:Int):=by
        intro i hi;rw[<-hi]at c1 c2 hct;refine k2 _ ?_;rw[qu];obtain⟨m1,m2⟩:=hK.mv qqo b1 q2 qqo qqo b3 q3 c2 c1 hct.symm hst;have hP:=(hK.pi q2 qqo q3).1;refine⟨by omega,by omega,by omega,by omega,rfl,rfl,rfl,⟨hkv,m1⟩,?_⟩;dsimp only;rw[m2];refine⟨rfl,rfl,rfl,⟨⟨_,by have:=hb.t;omega,hP⟩,hb.r'⟩,fun e6=> ?_,fun e6=> ?_⟩
        ·have e6:=bne_iff_ne.1 e6;obtain⟨m3,m4⟩:=hK.mv qqo q2 b1 qqo qqo q3 b3 c1 c2 hct (kmj e6);refine⟨by omega,by omega,by omega,by omega,rfl,rfl,rfl,⟨hkv,m3⟩,?_⟩;rw[m4,<-hst];have hq:=hR.symm.trans (sub_e6 h1 h2 h3 h4 h5 e6);subst hq;exact(by repeat' first|apply qt|exact rfl|exact qm)
        ·have e6:=bne_eq_false_iff_eq.1 e6;have hN:NB (wE.mk Aa Ae Ab Am Ao Ag Aj Ah Ai) w2k w2v (idB p1) p1:=⟨h2,hp,hv.h.h0,hb.r',hb.t,e6,h5⟩;intro J3 k3
         have j3:∀w:Int,w=wk8 w2k w2v p1->J3 w:=by
          intro w hw;refine k3 w ?_;obtain⟨g1,g2⟩:=knn h2 w2v (stoS p1 w);have g2:mPutV (BEq.beq (idB p1)) w2k w2v (wL.mk p1.wm p1.wM p1.wAl p1.wW p1.wY p1.Txs w)=w2v++[stoS p1 w]:=g2;refine⟨rfl,rfl,rfl,⟨hkv,by omega⟩,⟨by have:=hb.t;omega,hb.l⟩,hkv,?_⟩;rw[g1,g2];obtain⟨s1,s2,s3⟩:=hK.step (y:=stoS p1 w) hN;rw[blk_sto]at s3;have hl1:(brB w2k w2v p1++[idB p1]).length=(brB w2k w2v p1).length+1:=by simp
          refine⟨rfl,by simp only[qbm];omega,by simp only[qbm];unfold maxLen;omega,fun e7=> ?_,fun e7=> ?_⟩
          ·have hbt:betS w2k w2v Ac (idB p1) w=false:=by simpa using e7
           have hbo:=stL_old (R:=(wE.mk Aa Ae Ab Am Ao Ag Aj Ah Ai)) (id:=idB p1) (y:=stoS p1 w) hkv b1
           obtain⟨m5,m6⟩:=s1.mv qqo (l:=brB w2k w2v p1++[idB p1]) (m:=Ac) (i:=i) (fun x hx=>by
            rcases qac.1 hx with hx|hx
            ·simp[q2 x hx]
            ·simp[qaf.1 hx]) (fun x hx=>by simp[b1 x hx]) qqo qqo (by rw[s3]) (by rw[hbo];exact b3) qqo qqo (by rw[List.take_append_of_le_length c1];exact hct) (show(applyS (stL (wE.mk Aa Ae Ab Am Ao Ag Aj Ah Ai) w2k w2v (brB w2k w2v p1)).s p1).s=_ by rw[s3])
           refine⟨by omega,by omega,by omega,by omega,rfl,rfl,rfl,⟨by simp[hkv],m5⟩,?_⟩;rw[m6,hbo,<-hst];have hq:=hR.symm.trans (sub_no h1 h2 h3 h4 h5 e6 hw hbt);subst hq;exact(by repeat' first|apply qt|exact rfl|exact qm)
          ·have hbt:betS w2k w2v Ac (idB p1) w=true:=by simpa using e7
           have w1:i64.wrap ((Ac.length:Int)-(i:Int))=(Ac.length:Int)-(i:Int):=wi _ qqo qqo;have w2:i64.wrap (((brB w2k w2v p1++[idB p1]).length:Int)-(i:Int))=((brB w2k w2v p1).length:Int)+1-(i:Int):=by rw[hl1,wi _ qqo qqo];omega
           refine⟨rfl,rfl,rfl,rfl,⟨hF,by omega⟩,rfl,rfl,rfl,?_⟩;have hq:=hR.symm.trans (sub_yes h1 h2 h3 h4 h5 e6 hw hbt hi);subst hq;exact(by repeat' first|apply qt|exact w1|exact w2|exact rfl|exact qm)
         refine⟨fun e7=>⟨hkv,j3 _ ?_⟩,fun e7=>j3 _ ?_⟩
         ·unfold wk8;rw[qf (fun hh=>by have:=qb e7;rw[hh]at this;simp at this)];rfl
         ·unfold wk8;rw[qh (qdl.1 (by have:=qc e7;omega))]
       refine⟨(fun y=>∃i:Nat,y=(i:Int)/\i<=cpl (brB w2k w2v p1) Ac),(fun y=>((brB w2k w2v p1).length-y).toNat),⟨0,rfl,qav _⟩,?_⟩;rintro _ ⟨i,rfl,hi⟩;have hci:=cpl_ix hi;refine⟨fun e6=>⟨fun e7=> ?_,fun e7=> ?_⟩,fun e6=> ?_⟩
       ·have e6:(i:Int)<(brB w2k w2v p1).length:=qb e6;have e7:(i:Int)<Ac.length:=qb e7;refine⟨by omega,e6,by omega,e7,fun e8=> ?_,fun e8=> ?_⟩
        ·have e8:=eq_of_beq e8;rw[inc (i:Int) (brB w2k w2v p1).length qqo e6 qqo];refine⟨⟨i+1,rfl,?_⟩,by(first|omega|(dsimp only;omega))⟩;have:i≠cpl (brB w2k w2v p1) Ac:=fun hh=>hci.1 hh ⟨by omega,by omega,e8⟩;omega
        ·exact j2 i (hci.2 fun hh=>by rw[hh.2.2]at e8;simp at e8)
       ·have e7:¬(i:Int)<Ac.length:=qc e7;exact j2 i (hci.2 fun hh=>by omega)
       ·have e6:¬(i:Int)<(brB w2k w2v p1).length:=qc e6;exact j2 i (hci.2 fun hh=>by omega)
    refine⟨fun e4=>⟨fun e5=> ?_,fun e5=> ?_⟩,fun e4=> ?_⟩
    ·exact j1 true ⟨fun _=>⟨qb e4,.inl (qb e5)⟩,fun _=>rfl⟩
    ·have e4:=qb e4;have e5:¬((brB w2k w2v p1).length:Int)<Af:=qc e5;rw[wi (Af-1) qqo qqo];exact⟨by omega,by omega,j1 _ ⟨fun e6=>⟨e4,.inr (bne_iff_ne.1 e6)⟩,fun hh=>hh.2.elim (fun h=>(e5 h).elim) (fun h=>bne_iff_ne.2 h)⟩⟩
    ·exact j1 false ⟨fun h=>(by cases h),fun hh=>(qc e4 hh.1).elim⟩
noncomputable def kc4:Con TB.den:= .t (gk 25 [.one (.ptr 0 0)] yM (.one (.one (zqu)))) yT yS [] fun(Ad Aa Ae Ab Am Ao Ag Aj Ah Ai Ak:Int) (Ac:Li) (Af:List wA) (Al:Int) (w1 w3:Li) (w4:List wK) (w5k:Li) (w5v:Lo)=>(Al,Ad,Aa,Ae,Ab,Am,Ao,Ag,Aj,Ah,Ai,Ak,Ac,Af,Al,w1,w3,w4,w5k,w5v,())
theorem ker:kc4.Ok Tryz.prog TB:=ptv Bs Tryz.func25 .no c0 (Q:=∀(Ad Aa Ae Ab Am Ao Ag Aj Ah Ai Ak:Int) (Ac:Li) (Af:List wA) (Al:Int) (w1 w3:Li) (w4:List wK) (w5k:Li) (w5v:Lo),∀r0:Int,Al=r0->∀Ay:Int,Ad=Ay->∀Aq:Int,Aa=Aq->∀Aw:Int,Ae=Aw->∀Ax:Int,Ab=Ax->∀B0:Int,Am=B0->∀B1:Int,Ao=B1->∀Bl:Int,Ag=Bl->∀Bm:Int,Aj=Bm->∀Bn:Int,Ah=Bn->∀Bo:Int,Ai=Bo->∀Bp:Int,Ak=Bp->∀A9:Li,Ac=A9->∀Ba:List wA,Af=Ba->∀Bq:Int,Al=Bq->∀e1:Li,w1=e1->∀e3:Li,w3=e3->∀e4:List wK,w4=e4->∀e5k:Li,w5k=e5k->∀e5v:Lo,w5v=e5v-> 
lz w4/\lz w3/\lz w1/\Al=r0/\Ad=Ay/\Aa=Aq/\Ae=Aw/\Ab=Ax/\Am=B0/\Ao=B1/\Ag=Bl/\Aj=Bm/\Ah=Bn/\Ai=Bo/\Ak=Bp/\Ac=A9/\Af=Ba/\Al=Bq/\w1=e1/\w3=e3/\w4=e4/\w5k=e5k/\w5v=e5v)<|by
 rintro Ad Aa Ae Ab Am Ao Ag Aj Ah Ai Ak Ac Af Al w1 w3 w4 w5k w5v;repeat rintro _ rfl
 exact(by repeat' first|apply qt|exact rfl|exact qm)
noncomputable def k4l:Con TB.den:= .gp 75 [.sl (.st 9)] [.sl (.st 9)] [] fun(p0:List wA)=>(p0.length<=100000,p0,())
theorem k4v:k4l.Ok Tryz.prog TB:=qrv Bs Tryz.func75 .no c0 (Q:=∀(p0:List wA),(p0.length<=100000)->∀r0:List wA,p0=r0-> 
∀z4:Bool,(z4=true->p0=[])->(z4=true->
([]:List wA)=r0)/\
(z4=false->
(([]:List wA).length+p0.length)*24<=140737488355328/\([]:List wA).length+p0.length<=maxLen/\([]:List wA)++p0=r0))<|by rintro p0 h _ rfl;exact fun z hz=>⟨fun h=>(hz h).symm,fun _=>⟨by simp;omega,by simp;unfold maxLen;omega,rfl⟩⟩
noncomputable def kbr:Con TB.den:= .g (gk 24 [.one (.ptr 0 0)] yM (.one (.agg [.d (.sl (.st 9))]))) yT [.st 17,yqi,yqi,yqi,yqi,yqi,yqu,yqi,yqi,yqu,yqi,yqi,.sl yqu,.sl (.st 9),yqu,.sl yqu,.sl yqu,.sl (.st 10),.sl yqu,.sl (.bool)] [] fun(Ad Aa Ae Ab Am Ao Ag Aj Ah Ai Ak:Int) (Ac:Li) (Af:List wA) (Al:Int) (w1 w3:Li) (w4:List wK) (w5k:Li) (w5v:Lo)=>(Af.length<=100000,(wt.mk Af:wt),Ad,Aa,Ae,Ab,Am,Ao,Ag,Aj,Ah,Ai,Ak,Ac,Af,Al,w1,w3,w4,w5k,w5v,())
theorem k51:kbr.Ok Tryz.prog TB:=prv Bs Tryz.func24 .no (k4v.c c0) (Q:=∀(Ad Aa Ae Ab Am Ao Ag Aj Ah Ai Ak:Int) (Ac:Li) (Af:List wA) (Al:Int) (w1 w3:Li) (w4:List wK) (w5k:Li) (w5v:Lo),(Af.length<=100000)->∀r0:wt,wt.mk Af=r0->∀Ay:Int,Ad=Ay->∀Aq:Int,Aa=Aq->∀Aw:Int,Ae=Aw->∀Ax:Int,Ab=Ax->∀B0:Int,Am=B0->∀B1:Int,Ao=B1->∀Bl:Int,Ag=Bl->∀Bm:Int,Aj=Bm->∀Bn:Int,Ah=Bn->∀Bo:Int,Ai=Bo->∀Bp:Int,Ak=Bp->∀A9:Li,Ac=A9->∀Ba:List wA,Af=Ba->∀Bq:Int,Al=Bq->∀e1:Li,w1=e1->∀e3:Li,w3=e3->∀e4:List wK,w4=e4->∀e5k:Li,w5k=e5k->∀e5v:Lo,w5v=e5v-> 
(Af.length<=100000)/\lz w4/\lz w3/\lz w1/\Af=r0.wF/\Ad=Ay/\Aa=Aq/\Ae=Aw/\Ab=Ax/\Am=B0/\Ao=B1/\Ag=Bl/\Aj=Bm/\Ah=Bn/\Ai=Bo/\Ak=Bp/\Ac=A9/\Af=Ba/\Al=Bq/\w1=e1/\w3=e3/\w4=e4/\w5k=e5k/\w5v=e5v)<|by
 rintro Ad Aa Ae Ab Am Ao Ag Aj Ah Ai Ak Ac Af Al w1 w3 w4 w5k w5v h;repeat rintro _ rfl
 exact⟨h,(by repeat' first|apply qt|exact rfl|exact qm)⟩
noncomputable def k9k:Con TB.den:= .g ⟨72,[.one (.row 0)],[.vec yqu],(.one (.one (.row 1))),[.vec yqu,.vec yqu],false⟩ [.sl yqu] [.sl yqu,.sl yqu] [] fun(w0:Li)=>(w0.length<=1000000,w0,w0,())
theorem kag:k9k.Ok Tryz.prog TB:=prx Bs [5,7] Tryz.func72 (.r 0 (.nd [] (.r 0 (.nd [] (.r 0 (.rt [.rnil 2 yqu])) [] .no)) [] .no)) x0 c0 (Q:=∀(w0:Li),(w0.length<=1000000)->∀e0:Li,w0=e0->∀e1:Li,w0=e1-> 
∀z4:Bool,(z4=true->w0.length=0)->(z4=true->
(0=([]:Li).length)/\w0=e0/\([]:Li)=e1)/\
(z4=false->
lz ([]:Li)/\lz w0/\(([]:Li).length+w0.length)*8<=140737488355328/\([]:Li).length+w0.length<=maxLen/\lz (([]:Li)++w0)/\w0=e0/\([]:Li)++w0=e1))<|by rintro w0 h _ rfl _ rfl;exact fun z hz=>⟨fun e=>⟨rfl,rfl,(qah (hz e)).symm⟩,fun e=>⟨rfl,rfl,by simp;omega,by simp;unfold maxLen;omega,rfl,rfl,rfl⟩⟩
noncomputable def kbx:Con TB.den:= .g (gk 116 [.one (.ptr 0 0)] yM (.one (.one (zql)))) yT [.sl yqu,yqi,yqi,yqi,yqi,yqi,yqu,yqi,yqi,yqu,yqi,yqi,.sl yqu,.sl (.st 9),yqu,.sl yqu,.sl yqu,.sl (.st 10),.sl yqu,.sl (.bool)] [] fun(Ad Aa Ae Ab Am Ao Ag Aj Ah Ai Ak:Int) (Ac:Li) (Af:List wA) (Al:Int) (w1 w3:Li) (w4:List wK) (w5k:Li) (w5v:Lo)=>(w1.length<=1000000,w1,Ad,Aa,Ae,Ab,Am,Ao,Ag,Aj,Ah,Ai,Ak,Ac,Af,Al,w1,w3,w4,w5k,w5v,())
theorem keg:kbx.Ok Tryz.prog TB:=prv Bs Tryz.func116 (.r 1 (.rt [.frz 6 [2]])) (kag.c c0) (Q:=∀(Ad Aa Ae Ab Am Ao Ag Aj Ah Ai Ak:Int) (Ac:Li) (Af:List wA) (Al:Int) (w1 w3:Li) (w4:List wK) (w5k:Li) (w5v:Lo),(w1.length<=1000000)->∀r0:Li,w1=r0->∀Ay:Int,Ad=Ay->∀Aq:Int,Aa=Aq->∀Aw:Int,Ae=Aw->∀Ax:Int,Ab=Ax->∀B0:Int,Am=B0->∀B1:Int,Ao=B1->∀Bl:Int,Ag=Bl->∀Bm:Int,Aj=Bm->∀Bn:Int,Ah=Bn->∀Bo:Int,Ai=Bo->∀Bp:Int,Ak=Bp->∀A9:Li,Ac=A9->∀Ba:List wA,Af=Ba->∀Bq:Int,Al=Bq->∀e1:Li,w1=e1->∀e3:Li,w3=e3->∀e4:List wK,w4=e4->∀e5k:Li,w5k=e5k->∀e5v:Lo,w5v=e5v-> 
lz w1/\(w1.length<=1000000)/\lz w1/\lz w4/\lz w3/\lz w1/\w1=r0/\Ad=Ay/\Aa=Aq/\Ae=Aw/\Ab=Ax/\Am=B0/\Ao=B1/\Ag=Bl/\Aj=Bm/\Ah=Bn/\Ai=Bo/\Ak=Bp/\Ac=A9/\Af=Ba/\Al=Bq/\w1=e1/\w3=e3/\w4=e4/\w5k=e5k/\w5v=e5v)<|by
 rintro Ad Aa Ae Ab Am Ao Ag Aj Ah Ai Ak Ac Af Al w1 w3 w4 w5k w5v h;repeat rintro _ rfl
 exact⟨rfl,h,(by repeat' first|apply qt|exact rfl|exact qm)⟩
noncomputable def kfu:Con TB.den:= .g (gk 115 [.one (.ptr 0 0)] yM (.one (.one (zqu)))) yT yS [] fun(Ad Aa Ae Ab Am Ao Ag Aj Ah Ai Ak:Int) (Ac:Li) (Af:List wA) (Al:Int) (w1 w3:Li) (w4:List wK) (w5k:Li) (w5v:Lo)=>(w3.length<=1000000,((if w3=[]then 0 else ix w3 ((w3.length:Int)-1)):Int),Ad,Aa,Ae,Ab,Am,Ao,Ag,Aj,Ah,Ai,Ak,Ac,Af,Al,w1,w3,w4,w5k,w5v,())
theorem kim:kfu.Ok Tryz.prog TB:=prv Bs Tryz.func115 .no c0 (Q:=∀(Ad Aa Ae Ab Am Ao Ag Aj Ah Ai Ak:Int) (Ac:Li) (Af:List wA) (Al:Int) (w1 w3:Li) (w4:List wK) (w5k:Li) (w5v:Lo),(w3.length<=1000000)->∀r0:Int,((if w3=[]then 0 else ix w3 ((w3.length:Int)-1)):Int)=r0->∀Ay:Int,Ad=Ay->∀Aq:Int,Aa=Aq->∀Aw:Int,Ae=Aw->∀Ax:Int,Ab=Ax->∀B0:Int,Am=B0->∀B1:Int,Ao=B1->∀Bl:Int,Ag=Bl->∀Bm:Int,Aj=Bm->∀Bn:Int,Ah=Bn->∀Bo:Int,Ai=Bo->∀Bp:Int,Ak=Bp->∀A9:Li,Ac=A9->∀Ba:List wA,Af=Ba->∀Bq:Int,Al=Bq->∀e1:Li,w1=e1->∀e3:Li,w3=e3->∀e4:List wK,w4=e4->∀e5k:Li,w5k=e5k->∀e5v:Lo,w5v=e5v-> 
(((w3.length:Int)==0)=true->
lz w4/\lz w3/\lz w1/\0=r0/\Ad=Ay/\Aa=Aq/\Ae=Aw/\Ab=Ax/\Am=B0/\Ao=B1/\Ag=Bl/\Aj=Bm/\Ah=Bn/\Ai=Bo/\Ak=Bp/\Ac=A9/\Af=Ba/\Al=Bq/\w1=e1/\w3=e3/\w4=e4/\w5k=e5k/\w5v=e5v)/\
(((w3.length:Int)==0)=false->
(0<=i64.wrap ((w3.length:Int)-1)/\i64.wrap ((w3.length:Int)-1)<(w3.length:Int))/\(0<=i64.wrap ((w3.length:Int)-1)/\i64.wrap ((w3.length:Int)-1)<(w3.length:Int))/\let v1:Int:=ix w3 (i64.wrap ((w3.length:Int)-1))
lz w4/\lz w3/\lz w1/\v1=r0/\Ad=Ay/\Aa=Aq/\Ae=Aw/\Ab=Ax/\Am=B0/\Ao=B1/\Ag=Bl/\Aj=Bm/\Ah=Bn/\Ai=Bo/\Ak=Bp/\Ac=A9/\Af=Ba/\Al=Bq/\w1=e1/\w3=e3/\w4=e4/\w5k=e5k/\w5v=e5v))<|by
 rintro Ad Aa Ae Ab Am Ao Ag Aj Ah Ai Ak Ac Af Al w1 w3 w4 w5k w5v h;repeat rintro _ rfl
 refine⟨fun e=> ?_,fun e=> ?_⟩
 ·have e:w3=[]:=by simpa using e
  rw[qh e];exact(by repeat' first|apply qt|exact rfl|exact qm)
 ·have e:¬w3=[]:=by simpa using e
  have hne:1<=w3.length:=qcz.2 e;rw[qf e,ko _ qqo qqo];exact⟨⟨by omega,by omega⟩,⟨by omega,by omega⟩,(by repeat' first|apply qt|exact rfl|exact qm)⟩
noncomputable def kai:Con TB.den:= .gp 78 [yqi,.st 2] [.st 16,.bool] [] fun(p0:Int) (p1:wZ)=>(By p1.wv/\p1.wv.length<=137438953472,((decW p1.wv).1:wj),((decW p1.wv).2==0:Bool),())
theorem kbm:kai.Ok Tryz.prog TB:=qrv Bs Tryz.func78 .no (k3o.c c0) (Q:=∀(p0:Int) (p1:wZ),(By p1.wv/\p1.wv.length<=137438953472)->∀r0:wj,((decW p1.wv).1)=r0->∀r1:Bool,((decW p1.wv).2==0)=r1-> 
(By p1.wv/\p1.wv.length<=137438953472)/\∀(r4:wj) (r5:Int),(r4=((decW p1.wv).1)/\r5=((decW p1.wv).2))->r4.Ins=r0.Ins/\r4.wD=r0.wD/\r4.wAg=r0.wAg/\(r5==0)=r1)<|by rintro p0 p1 h _ rfl _ rfl;exact⟨h,fun r4 r5 hr=>by obtain⟨rfl,rfl⟩:=hr;exact⟨rfl,rfl,rfl,rfl⟩⟩
noncomputable def kda:Con TB.den:= .tp 226 [.st 14] [.st 4] [] fun(p0:wP)=>((ownQ p0:wB),())
theorem kfg:kda.Ok Tryz.prog TB:=qtv Bs Tryz.func226 .no c0 (Q:=∀(p0:wP),∀r0:wB,ownQ p0=r0-> 
1=r0.wAe/\[p0.Key,u64.wrap p0.wAQ]=r0.wAY/\p0.wAE=r0.wAj)<|by rintro p0 _ rfl;exact(by repeat' first|apply qt|exact rfl|exact qm)
noncomputable def kd5:Con TB.den:= .tp 305 [.st 12,yqu] [.st 4] [] fun(p0:wAO) (p1:Int)=>((brQ p0 p1:wB),())
theorem ke0:kd5.Ok Tryz.prog TB:=qtv Bs Tryz.func305 .no c0 (Q:=∀(p0:wAO) (p1:Int),∀r0:wB,brQ p0 p1=r0-> 
6=r0.wAe/\[p0.a0,p0.a1]=r0.wAY/\p1=r0.wAj)<|by rintro p0 p1 _ rfl;exact(by repeat' first|apply qt|exact rfl|exact qm)
noncomputable def k6r:Con TB.den:= .tp 307 [.st 15,yqu] [.st 4] [] fun(p0:wS) (p1:Int)=>((comQ p0 p1:wB),())
theorem k8g:k6r.Ok Tryz.prog TB:=qtv Bs Tryz.func307 .no c0 (Q:=∀(p0:wS) (p1:Int),∀r0:wB,comQ p0 p1=r0-> 
2=r0.wAe/\[p0.Value,p0.wBB,p0.Rho,p0.wBF]=r0.wAY/\p1=r0.wAj)<|by rintro p0 p1 _ rfl;exact(by repeat' first|apply qt|exact rfl|exact qm)
noncomputable def kg7:Con TB.den:= .gp 306 [.st 12] [yqu] [] fun(p0:wAO)=>(U64 p0.a0/\U64 p0.a1,(ndA p0:Int),())
theorem k3v:kg7.Ok Tryz.prog TB:=by refine⟨cal Tryz.func306 qqk,fun x K hx=> ?_⟩;obtain⟨(a:Int),(b:Int),_⟩:=x;obtain⟨h,hK⟩:=hx;have h:U64 a/\U64 b:=h;have hs:=ky.at ((18446744069414584321:Int),(6:Int),([a,b]:Li),()) ((nd a b:Int),()) ⟨⟨rfl,(by decide:U64 6),us2 h.1 h.2,(by decide:(2:Nat)<=_)⟩,rfl⟩;exact⟨_,hK,kmn hs⟩
noncomputable def k6i:Con TB.den:= .g (gk 303 [.one (.ptr 0 0),.one (zqu),.one (zqi)] yC (.one (.one (zql)))) (.int .u64:: .int .i64::yK) [.sl yqu,yqi,.sl yqu,yqu,yqu,yqu,yqi,yqi,yqi,yqi,yqi,yqu,.sl yqu,yqu,yqu,.sl yqu,yqu,.bool,yqu,yqi,.sl (.st 4),.sl (.st 19),.sl (.st 15),.sl yqi,.sl (.st 14),.sl (.str),.sl yqi,.sl (.str),.sl (.sl yqu),.sl (.str),.sl (.bool)] [] fun(p1 p2 Aa:Int) (Ab:Li) (Ag Aj Ah Ai Ak Ac Br Ap Af:Int) (Al:Li) (Bt Bu:Int) (Bw:Li) (Bx:Int) (At:Bool) (Au Av:Int) (As:List wB) (w2:List wx) (w3:List wS) (w4k:Li) (w4v:List wP) (w5k:Lb) (w5v:Li) (w6k:Lb) (w6v:List (Li)) (w7k:Lb) (w7v:Lo)=>((0<=p2/\p2<=w2.length/\p2<=9223372036854775807)/\ECk ⟨w2,Ab⟩,(ancS w2 Ab p1 p2.toNat:Li),Aa,Ab,Ag,Aj,Ah,Ai,Ak,Ac,Br,Ap,Af,Al,Bt,Bu,Bw,Bx,At,Au,Av,As,w2,w3,w4k,w4v,w5k,w5v,w6k,w6v,w7k,w7v,())
theorem k7t:k6i.Ok Tryz.prog TB:=prv Bs Tryz.func303 (.r 0 (.nd [] (.r 0 (.lp [] ⟨[],[],[7],[.one (zqi)],[]⟩ .no)) [] .no)) c0 (Q:=∀(p1 p2 Aa:Int) (Ab:Li) (Ag Aj Ah Ai Ak Ac Br Ap Af:Int) (Al:Li) (Bt Bu:Int) (Bw:Li) (Bx:Int) (At:Bool) (Au Av:Int) (As:List wB) (w2:List wx) (w3:List wS) (w4k:Li) (w4v:List wP) (w5k:Lb) (w5v:Li) (w6k:Lb) (w6v:List (Li)) (w7k:Lb) (w7v:Lo),((0<=p2/\p2<=w2.length/\p2<=9223372036854775807)/\ECk ⟨w2,Ab⟩)->∀r0:Li,ancS w2 Ab p1 p2.toNat=r0->∀Aq:Int,Aa=Aq->∀Ax:Li,Ab=Ax->∀Bl:Int,Ag=Bl->∀Bm:Int,Aj=Bm->∀Bn:Int,Ah=Bn->∀Bo:Int,Ai=Bo->∀Bp:Int,Ak=Bp->∀A9:Int,Ac=A9->∀Cm:Int,Br=Cm->∀Bz:Int,Ap=Bz->∀Ba:Int,Af=Ba->∀Bq:Li,Al=Bq->∀Cn:Int,Bt=Cn->∀Co:Int,Bu=Co->∀Cp:Li,Bw=Cp->∀Cq:Int,Bx=Cq->∀B6:Bool,At=B6->∀B7:Int,Au=B7->∀B8:Int,Av=B8->∀B9:List wB,As=B9->∀e2:List wx,w2=e2->∀e3:List wS,w3=e3->∀e4k:Li,w4k=e4k->∀e4v:List wP,w4v=e4v->∀e5k:Lb,w5k=e5k->∀e5v:Li,w5v=e5v->∀e6k:Lb,w6k=e6k->∀e6v:List (Li),w6v=e6v->∀e7k:Lb,w7k=e7k->∀e7v:Lo,w7v=e7v-> 
∃(I1:Int->Prop) (M1:Int->Nat),I1 (i64.wrap (p2-1))/\∀b1,(I1 b1->
(decide (0<=b1)=true->
(0<=b1)/\b1<(w2.length:Int)/\((((ix w2 b1).root)==p1)=true->
(0<=b1)/\b1<(w2.length:Int)/\(0<=(ix w2 b1).leaves)/\(ix w2 b1).leaves<=(Ab.length:Int)/\(w3=w3)/\(w2=w2)/\Ab.take ((ix w2 b1).leaves).toNat=r0/\Aa=Aq/\Ab=Ax/\Ag=Bl/\Aj=Bm/\Ah=Bn/\Ai=Bo/\Ak=Bp/\Ac=A9/\Br=Cm/\Ap=Bz/\Af=Ba/\Al=Bq/\Bt=Cn/\Bu=Co/\Bw=Cp/\Bx=Cq/\At=B6/\Au=B7/\Av=B8/\As=B9/\w2=e2/\w3=e3/\w4k=e4k/\w4v=e4v/\w5k=e5k/\w5v=e5v/\w6k=e6k/\w6v=e6v/\w7k=e7k/\w7v=e7v)/\
((((ix w2 b1).root)==p1)=false->
I1 (i64.wrap (b1-1))/\M1 (i64.wrap (b1-1))<M1 b1))/\
(decide (0<=b1)=false->
(w3=w3)/\(w2=w2)/\([]:Li)=r0/\Aa=Aq/\Ab=Ax/\Ag=Bl/\Aj=Bm/\Ah=Bn/\Ai=Bo/\Ak=Bp/\Ac=A9/\Br=Cm/\Ap=Bz/\Af=Ba/\Al=Bq/\Bt=Cn/\Bu=Co/\Bw=Cp/\Bx=Cq/\At=B6/\Au=B7/\Av=B8/\As=B9/\w2=e2/\w3=e3/\w4k=e4k/\w4v=e4v/\w5k=e5k/\w5v=e5v/\w6k=e6k/\w6v=e6v/\w7k=e7k/\w7v=e7v)))<|by
 rintro p1 p2 Aa Ab Ag Aj Ah Ai Ak Ac Br Ap Af Al Bt Bu Bw Bx At Au Av As w2 w3 w4k w4v w5k w5v w6k w6v w7k w7v h;repeat rintro _ rfl
 obtain⟨⟨h1,h2,h3⟩,hC⟩:=h;obtain⟨n,rfl⟩:=qo h1;rw[qu,wi ((n:Int)-1) qqo qqo];refine⟨(fun i=>∃k:Nat,i=(k:Int)-1/\k<=n/\ancS w2 Ab p1 k=ancS w2 Ab p1 n),(fun i=>(i+1).toNat),⟨n,rfl,qv _,rfl⟩,?_⟩;rintro _ ⟨k,rfl,hk,hg⟩;refine⟨fun e=> ?_,fun e=> ?_⟩
 ·have e:0<=(k:Int)-1:=qb e;obtain⟨j,rfl⟩:∃j,k=j+1:=⟨k-1,by omega⟩;have ej:((j+1:Nat):Int)-1=(j:Int):=by omega
  rw[ej];have hm:=ix_mem w2 (j:Int) qqo qqo;obtain⟨t1,t2⟩:=hC.t _ hm;rw[ancS]at hg;refine⟨by omega,by omega,fun e2=> ?_,fun e2=> ?_⟩
  ·rw[qh (by simpa using e2)]at hg;rw[<-hg];exact⟨by omega,by omega,t1,t2,(by repeat' first|apply qt|exact rfl|exact qm)⟩
  ·rw[qf (by simpa using e2)]at hg;rw[wi ((j:Int)-1) qqo qqo];exact⟨⟨j,rfl,by omega,hg⟩,by(dsimp only;omega)⟩
 ·have e:¬0<=(k:Int)-1:=qc e;obtain rfl:k=0:=by omega
  rw[<-hg];exact(by repeat' first|apply qt|exact rfl|exact qm)
noncomputable def kkf:Con TB.den:= .gp 384 [yqi,.sl yqu,yqi] [yqu] [] fun(p0:Int) (p1:Li) (p2:Int)=>(0<=p2/\0<=p0/\p0<=12,(p1.getD p2.toNat (emp p0.toNat):Int),())
theorem kb6:kkf.Ok Tryz.prog TB:=qrv Bs Tryz.func384 .no (k3y.c c0) (Q:=∀(p0:Int) (p1:Li) (p2:Int),(0<=p2/\0<=p0/\p0<=12)->∀r0:Int,(p1.getD p2.toNat (emp p0.toNat))=r0-> 
(decide (p2<(p1.length:Int))=true->
(0<=p2)/\p2<(p1.length:Int)/\ix p1 p2=r0)/\
(decide (p2<(p1.length:Int))=false->
(0<=p0/\p0<=12)/\(emp p0.toNat)=r0))<|by
 rintro p0 p1 p2 h _ rfl;obtain⟨h1,h2,h3⟩:=h;obtain⟨k,rfl⟩:=qo h1;refine⟨fun e=> ?_,fun e=> ?_⟩
 ·have e:=qb e;exact⟨h1,e,by rw[ix_get p1 k qqo,qu,gD_lt qqo]⟩
 ·have e:=qc e;exact⟨⟨h2,h3⟩,by rw[gD_ge qqo]⟩
noncomputable def kep:Con TB.den:= .gp 385 [yqi,.sl yqu] [.sl yqu] [] fun(p0:Int) (p1:Li)=>((0<=p0/\p0<=12)/\Us p1/\p1.length<=4096,(abvS p0.toNat p1:Li),())
theorem kfi:kep.Ok Tryz.prog TB:=qrv Bs Tryz.func385 (.r 1 (.nd [] (.r 0 (.lp [.frz 0 [5]] ⟨[1],[.tip yqu],[5,6],[.one (.own 0),.one (zqi)],[]⟩ .no)) [] .no)) (kb6.c (k3v.c c0)) (Q:=∀(p0:Int) (p1:Li),((0<=p0/\p0<=12)/\Us p1/\p1.length<=4096)->∀r0:Li,abvS p0.toNat p1=r0-> 
let v1:Int:=i64.wrap (Int.tdiv (i64.wrap ((p1.length:Int)+1)) 2)
0<=(0:Int)/\(0:Int)<=v1/\(v1.toNat*8<=140737488355328)/\(v1.toNat<=maxLen)/\(0=(List.replicate 0 (0:Int)).length)/\(List.replicate 0 (0:Int)=List.replicate 0 (0:Int))/\∃(I1:Int->(Li)->Prop) (M1:Int->(Li)->Nat),I1 0 (List.replicate 0 (0:Int))/\∀b1 f1,(I1 b1 f1->
(decide (b1<(p1.length:Int))=true->
(0<=b1)/\b1<(p1.length:Int)/\(0<=(i64.wrap (b1+1))/\0<=p0/\p0<=12)/\let r2:Int:=(p1.getD (i64.wrap (b1+1)).toNat (emp p0.toNat))
(U64 (wAO.mk (ix p1 b1) r2).a0/\U64 (wAO.mk (ix p1 b1) r2).a1)/\lz f1/\(f1.length+[(ndA (wAO.mk (ix p1 b1) r2))].length)*8<=140737488355328/\f1.length+[(ndA (wAO.mk (ix p1 b1) r2))].length<=maxLen/\(f1++[(ndA (wAO.mk (ix p1 b1) r2))]=f1++[(ndA (wAO.mk (ix p1 b1) r2))])/\I1 (i64.wrap (b1+2)) (f1++[(ndA (wAO.mk (ix p1 b1) r2))])/\M1 (i64.wrap (b1+2)) (f1++[(ndA (wAO.mk (ix p1 b1) r2))])<M1 b1 f1)/\
(decide (b1<(p1.length:Int))=false->
f1=r0)))<|by
 rintro p0 p1 h _ rfl;obtain⟨⟨h1,h2⟩,hu,hl⟩:=h;have e1:i64.wrap (Int.tdiv (i64.wrap ((p1.length:Int)+1)) 2)=(((p1.length+1)/2:Nat):Int):=by rw[wi ((p1.length:Int)+1) qqo qqo,Int.tdiv_eq_ediv_of_nonneg qqo,wi _ qqo qqo];omega
 dsimp only;rw[e1];refine⟨by omega,by omega,by omega,(by unfold maxLen;omega),rfl,rfl,(fun i f=>∃k:Nat,i=2*(k:Int)/\f.length=k/\k<=p1.length/\f++abvS p0.toNat (p1.drop (2*k))=abvS p0.toNat p1),(fun i _=>(p1.length+1-i).toNat),⟨0,by simp,rfl,by omega,by simp⟩,?_⟩;rintro _ f1 ⟨k,rfl,hf,hk,hg⟩;refine⟨fun e=> ?_,fun e=> ?_⟩
 ·have e:2*(k:Int)<p1.length:=qb e;have hm:=ix_mem p1 (2*(k:Int)) qqo e;have hx:ix p1 (2*(k:Int))=p1.getD (2*k) 0:=by rw[show(2*(k:Int))=((2*k:Nat):Int)by omega,ix_get _ _ qqo,gD_lt qqo]
  have ht:(2*(k:Int)+1).toNat=2*k+1:=by omega
  rw[wi (2*(k:Int)+1) qqo qqo,wi (2*(k:Int)+2) qqo qqo,ht];rw[kog _ _ _ qqo,<-hx]at hg
  have hu2:U64 (p1.getD (2*k+1) (emp p0.toNat)):=by
   by_cases hh:2*k+1<p1.length
   ·rw[gD_lt hh];exact hu _ (qal hh)
   ·rw[gD_ge qqo];exact emp_u _
  refine⟨by omega,e,⟨by omega,h1,h2⟩,⟨hu _ hm,hu2⟩,rfl,?_,?_,rfl,⟨k+1,by omega,by simp[hf],by omega,?_⟩,by(dsimp only;omega)⟩
  ·simp only[qr,qaq];omega
  ·simp only[qr,qaq];unfold maxLen;omega
  ·rw[<-hg,qw];rfl
 ·have e:¬2*(k:Int)<p1.length:=qc e;rw[qam qqo]at hg;rw[<-hg];exact(qcd _).symm
noncomputable def k9f:Con TB.den:= .g (gk 304 [.one (.ptr 0 0),.agg yH1,.one (zqu),.one (zql)] yC (.tup [.one (.d (.sl (.st 12))),.one (.d (.sl (.st 12)))])) (.st 14:: .int .u64:: .sl yqu::yK) (.sl (.st 12):: .sl (.st 12)::yK) [] fun(p1:wP) (p2:Int) (p3:Li) (Aa:Int) (Ab:Li) (Ag Aj Ah Ai Ak Ac Br Ap Af:Int) (Al:Li) (Bt Bu:Int) (Bw:Li) (Bx:Int) (At:Bool) (Au Av:Int) (As:List wB) (w2:List wx) (w3:List wS) (w4k:Li) (w4v:List wP) (w5k:Lb) (w5v:Li) (w6k:Lb) (w6v:List (Li)) (w7k:Lb) (w7v:Lo)=>((U64 p2/\Us p3/\p3.length<=4096)/\SPk p1,(ownsL p1.wH p2 p1.wo:List wAO),(realsL (lf p3) p1.wH.toNat p1.wo.length:List wAO),Aa,Ab,Ag,Aj,Ah,Ai,Ak,Ac,Br,Ap,Af,Al,Bt,Bu,Bw,Bx,At,Au,Av,As,w2,w3,w4k,w4v,w5k,w5v,w6k,w6v,w7k,w7v,())
abbrev Fz7 (r:Type):=Int->(Li)->Int->(List wAO)->(List wAO)->r
theorem ka5:k9f.Ok Tryz.prog TB:=prv Bs Tryz.func304 (.r 0 (.nd [] (.r 0 (.lp [.tok 8 (.st 12),.tok 9 (.st 12)] ⟨[9,10],[.tip (.st 12),.tip (.st 12)],[2,3,8,9,17],[.one (zqu),.one (zql),.one (.own 0),.one (.own 1),.one (zqi)],[]⟩ (.r 1 (.nd [] (.r 2 (.jn ⟨[11],[.cells [zqu,zqu]],[],[],[]⟩ [] .no [] .no)) [] .no)))) [] .no)) (kb6.c (k3v.c (kfi.c c0))) (Q:=∀(p1:wP) (p2:Int) (p3:Li) (Aa:Int) (Ab:Li) (Ag Aj Ah Ai Ak Ac Br Ap Af:Int) (Al:Li) (Bt Bu:Int) (Bw:Li) (Bx:Int) (At:Bool) (Au Av:Int) (As:List wB) (w2:List wx) (w3:List wS) (w4k:Li) (w4v:List wP) (w5k:Lb) (w5v:Li) (w6k:Lb) (w6v:List (Li)) (w7k:Lb) (w7v:Lo),((U64 p2/\Us p3/\p3.length<=4096)/\SPk p1)->∀r0:List wAO,ownsL p1.wH p2 p1.wo=r0->∀r1:List wAO,(realsL (lf p3) p1.wH.toNat p1.wo.length)=r1->∀Aq:Int,Aa=Aq->∀Ax:Li,Ab=Ax->∀Bl:Int,Ag=Bl->∀Bm:Int,Aj=Bm->∀Bn:Int,Ah=Bn->∀Bo:Int,Ai=Bo->∀Bp:Int,Ak=Bp->∀A9:Int,Ac=A9->∀Cm:Int,Br=Cm->∀Bz:Int,Ap=Bz->∀Ba:Int,Af=Ba->∀Bq:Li,Al=Bq->∀Cn:Int,Bt=Cn->∀Co:Int,Bu=Co->∀Cp:Li,Bw=Cp->∀Cq:Int,Bx=Cq->∀B6:Bool,At=B6->∀B7:Int,Au=B7->∀B8:Int,Av=B8->∀B9:List wB,As=B9->∀e2:List wx,w2=e2->∀e3:List wS,w3=e3->∀e4k:Li,w4k=e4k->∀e4v:List wP,w4v=e4v->∀e5k:Lb,w5k=e5k->∀e5v:Li,w5v=e5v->∀e6k:Lb,w6k=e6k->∀e6v:List (Li),w6v=e6v->∀e7k:Lb,w7k=e7k->∀e7v:Lo,w7v=e7v-> 
(([]:List wAO)=([]:List wAO))/\(([]:List wAO)=([]:List wAO))/\∃(I1:Fz7 Prop) (M1:Fz7 Nat),I1 p2 p3 0 ([]:List wAO) ([]:List wAO)/\∀b1 f1 i1 k1 l1,(I1 b1 f1 i1 k1 l1->
(decide (i1<(p1.wo.length:Int))=true->
(0<=i1)/\i1<(p1.wo.length:Int)/\(0<=i1)/\∀J1:Int->Int->Prop,(∀(m1 n1:Int),
(k1.length=k1.length/\(k1.length+[wAO.mk m1 n1].length)*16<=140737488355328/\k1.length+[wAO.mk m1 n1].length<=maxLen/\(0<=(ianot .i64 (ishr .i64 p1.wH i1) 1)/\0<=i1/\i1<=12)/\let r3:Int:=(f1.getD (ianot .i64 (ishr .i64 p1.wH i1) 1).toNat (emp i1.toNat))
(0<=(ior .i64 (ishr .i64 p1.wH i1) 1)/\0<=i1/\i1<=12)/\let r4:Int:=(f1.getD (ior .i64 (ishr .i64 p1.wH i1) 1).toNat (emp i1.toNat))
lz l1/\(l1.length+[wAO.mk r3 r4].length)*16<=140737488355328/\l1.length+[wAO.mk r3 r4].length<=maxLen/\(U64 (wAO.mk m1 n1).a0/\U64 (wAO.mk m1 n1).a1)/\((0<=i1/\i1<=12)/\Us f1/\f1.length<=4096)/\(l1++[wAO.mk r3 r4]=l1++[wAO.mk r3 r4])/\(k1++[wAO.mk m1 n1]=k1++[wAO.mk m1 n1])/\I1 (ndA (wAO.mk m1 n1)) (abvS i1.toNat f1) (i64.wrap (i1+1)) (k1++[wAO.mk m1 n1]) (l1++[wAO.mk r3 r4])/\M1 (ndA (wAO.mk m1 n1)) (abvS i1.toNat f1) (i64.wrap (i1+1)) (k1++[wAO.mk m1 n1]) (l1++[wAO.mk r3 r4])<M1 b1 f1 i1 k1 l1)->J1 m1 n1)->
let v2:Bool:=((iand .i64 (ishr .i64 p1.wH i1) 1)==1)
(v2=true->
J1 (ix p1.wo i1) b1)/\
(v2=false->
J1 b1 (ix p1.wo i1)))/\
(decide (i1<(p1.wo.length:Int))=false->
(w3=w3)/\(w2=w2)/\k1=r0/\l1=r1/\Aa=Aq/\Ab=Ax/\Ag=Bl/\Aj=Bm/\Ah=Bn/\Ai=Bo/\Ak=Bp/\Ac=A9/\Br=Cm/\Ap=Bz/\Af=Ba/\Al=Bq/\Bt=Cn/\Bu=Co/\Bw=Cp/\Bx=Cq/\At=B6/\Au=B7/\Av=B8/\As=B9/\w2=e2/\w3=e3/\w4k=e4k/\w4v=e4v/\w5k=e5k/\w5v=e5v/\w6k=e6k/\w6v=e6v/\w7k=e7k/\w7v=e7v)))<|by
 rintro p1 p2 p3 Aa Ab Ag Aj Ah Ai Ak Ac Br Ap Af Al Bt Bu Bw Bx At Au Av As w2 w3 w4k w4v w5k w5v w6k w6v w7k w7v h;repeat rintro _ rfl
 obtain⟨⟨hu,hs,hl⟩,hp⟩:=h;obtain⟨p0,pm,pl,pu⟩:=hp.p0,hp.pm,hp.pl,hp.pu;generalize hP:p1.wH=P at *
 generalize hQ:p1.wo=Q at *
 obtain⟨n,rfl⟩:=qo p0;rw[qu];refine⟨rfl,rfl,(fun b f i k l=>∃j:Nat,i=(j:Int)/\j<=Q.length/\U64 b/\Us f/\f.length<=4096/\(∀p,f.getD p (emp j)=TT (lf p3) j p)/\k.length=j/\k++ownsL ((n/2^j:Nat):Int) b (Q.drop j)=ownsL (n:Int) p2 Q/\l=realsL (lf p3) n j),(fun _ _ i _ _=>(Q.length-i).toNat),⟨0,rfl,qav _,hu,hs,hl,fun p=>rfl,rfl,by simp,rfl⟩,?_⟩;rintro b f _ k _ ⟨j,rfl,hj,hb,hf,hfl,hT,hk,hg,rfl⟩;refine⟨fun e=> ?_,fun e=> ?_⟩
 ·have e:(j:Int)<Q.length:=qb e;have hjl:j<Q.length:=by omega
  have hm:=ix_mem Q (j:Int) qqo e;have hq:n/2^j<=64:=qbi (Nat.div_le_self _ _) qqo;have hx:ix Q (j:Int)=Q[j]:=ix_get _ _ hjl;rw[shr_nat n j qqo,(bitnot _ hq).1,(bitnot _ hq).2,inc (j:Int) Q.length qqo qqo qqo,k4h _ ⟨qds _,Int.lt_of_le_of_lt (Int.ofNat_le.2 hq) qqd⟩];rw[qat hjl,<-hx]at hg;simp only[qu];refine⟨by omega,e,by omega,?_⟩;intro J kJ
  have j1:∀m s,wAO.mk m s=ownP ((n/2^j:Nat):Int) b (ix Q (j:Int))->U64 m->U64 s->J m s:=fun m s hms um us=>kJ m s (by
   rw[hms];have hr:realsL (lf p3) n j++[wAO.mk (f.getD (2*(n/2^j/2)) (emp j)) (f.getD (2*(n/2^j/2)+1) (emp j))]=realsL (lf p3) n (j+1):=by rw[hT,hT];unfold realsL;rw[List.range_succ,qbc];rfl
   rw[hr];have hrl:(realsL (lf p3) n j).length=j:=by simp[realsL]
   have h12:(j:Int)<=12:=by omega
   refine⟨by trivial,?_,?_,⟨qds _,by omega,h12⟩,⟨qds _,by omega,h12⟩,by trivial,?_,?_,?_,⟨⟨by omega,h12⟩,hf,hfl⟩,by trivial,by trivial,⟨j+1,by omega,by omega,kj _ _,abvS_u _ _,qbi (kj5 _ _) hfl,fun p=> ?_,by simp[hk],?_,rfl⟩,by(first|omega|(dsimp only;omega))⟩
   ·rw[hk];simp only[qr,qaq];omega
   ·rw[hk];simp only[qr,qaq];unfold maxLen;omega
   ·rw[hrl];simp only[qr,qaq];omega
   ·rw[hrl];simp only[qr,qaq];unfold maxLen;omega
   ·exact⟨um,us⟩
   ·rw[kj1,hT,hT];rfl
   ·rw[<-hg,qw,k1c];congr 1)
  refine⟨fun e2=> ?_,fun e2=> ?_⟩
  ·exact j1 _ _ (by unfold ownP;rw[qh (by simpa using e2)]) (pu _ hm) hb
  ·exact j1 _ _ (by unfold ownP;rw[qf (by simpa using e2)]) hb (pu _ hm)
 ·have e:¬(j:Int)<Q.length:=qc e;obtain rfl:j=Q.length:=by omega
  rw[qev]at hg;have hg:k++[]=ownsL (n:Int) p2 Q:=hg;rw[qcd]at hg;subst hg;exact(by repeat' first|apply qt|exact rfl|exact qm)
noncomputable def k9g:Con TB.den:= .g (gk 225 [.one (.ptr 0 0),.agg yH1,.one (zqu),.one (zqi)] yC (.one (.agg yN1))) (.st 14:: .int .u64:: .int .i64::yK) yJ [] fun(p1:wP) (p2 p3 Aa:Int) (Ab:Li) (Ag Aj Ah Ai Ak Ac Br Ap Af:Int) (Al:Li) (Bt Bu:Int) (Bw:Li) (Bx:Int) (At:Bool) (Au Av:Int) (As:List wB) (w2:List wx) (w3:List wS) (w4k:Li) (w4v:List wP) (w5k:Lb) (w5v:Li) (w6k:Lb) (w6v:List (Li)) (w7k:Lb) (w7v:Lo)=>(((0<=p3/\p3<=w2.length/\p3<=9223372036854775807)/\ECk ⟨w2,Ab⟩)/\SPk p1/\At=false/\w5k=[]/\w5v=[],(wrgS ⟨w2,Ab⟩ w3 p1 p2 p3:wAs),Aa,Ab,Ag,Aj,Ah,Ai,Ak,Ac,Br,Ap,Af,Al,Bt,Bu,Bw,Bx,At,Au,Av,As,w2,w3,w4k,w4v,w5k,w5v,w6k,w6v,w7k,w7v,())
theorem kaa:k9g.Ok Tryz.prog TB:=prv Bs Tryz.func225 (.r 3 (.nd [] (.r 0 (.lp [] ⟨[],[],[14],[.one (zqi)],[]⟩ .no)) [] (.r 0 (.nd [] (.jn ⟨[],[],[94],[.one (.d (.bool))],[]⟩ [] .no [] .no) [] .no)))) (k7t.c (k2c.c (ka5.c (k3v.c (ke0.c (k8g.c c0)))))) (Q:=∀(p1:wP) (p2 p3 Aa:Int) (Ab:Li) (Ag Aj Ah Ai Ak Ac Br Ap Af:Int) (Al:Li) (Bt Bu:Int) (Bw:Li) (Bx:Int) (At:Bool) (Au Av:Int) (As:List wB) (w2:List wx) (w3:List wS) (w4k:Li) (w4v:List wP) (w5k:Lb) (w5v:Li) (w6k:Lb) (w6v:List (Li)) (w7k:Lb) (w7v:Lo),(((0<=p3/\p3<=w2.length/\p3<=9223372036854775807)/\ECk ⟨w2,Ab⟩)/\SPk p1/\At=false/\w5k=[]/\w5v=[])->∀r0:wAs,(wrgS ⟨w2,Ab⟩ w3 p1 p2 p3)=r0->∀Aq:Int,Aa=Aq->∀Ax:Li,Ab=Ax->∀Bl:Int,Ag=Bl->∀Bm:Int,Aj=Bm->∀Bn:Int,Ah=Bn->∀Bo:Int,Ai=Bo->∀Bp:Int,Ak=Bp->∀A9:Int,Ac=A9->∀Cm:Int,Br=Cm->∀Bz:Int,Ap=Bz->∀Ba:Int,Af=Ba->∀Bq:Li,Al=Bq->∀Cn:Int,Bt=Cn->∀Co:Int,Bu=Co->∀Cp:Li,Bw=Cp->∀Cq:Int,Bx=Cq->∀B6:Bool,At=B6->∀B7:Int,Au=B7->∀B8:Int,Av=B8->∀B9:List wB,As=B9->∀e2:List wx,w2=e2->∀e3:List wS,w3=e3->∀e4k:Li,w4k=e4k->∀e4v:List wP,w4v=e4v->∀e5k:Lb,w5k=e5k->∀e5v:Li,w5v=e5v->∀e6k:Lb,w6k=e6k->∀e6v:List (Li),w6v=e6v->∀e7k:Lb,w7k=e7k->∀e7v:Lo,w7v=e7v-> 
(w3=w3)/\(w2=w2)/\((0<=p3/\p3<=w2.length/\p3<=9223372036854775807)/\ECk ⟨w2,Ab⟩)/\(NR (wS.mk p1.wl p1.wAE p1.wAK p1.wAm)/\OrOk w5k w5v As)/\let r1:Int:=((commP (pk At As w5k w5v) (wS.mk p1.wl p1.wAE p1.wAK p1.wAm)).getD 0)
let r2:Bool:=((commP (pk At As w5k w5v) (wS.mk p1.wl p1.wAE p1.wAK p1.wAm)).isSome)
(w3=w3)/\(w2=w2)/\((U64 r1/\Us (ancS w2 Ab p2 p3.toNat)/\(ancS w2 Ab p2 p3.toNat).length<=4096)/\SPk p1)/\let r3:List wAO:=(realsL (lf (ancS w2 Ab p2 p3.toNat)) p1.wH.toNat p1.wo.length)
let v4:Int:=((ownsL p1.wH r1 p1.wo).length:Int)
∃(I1:Int->Prop) (M1:Int->Nat),I1 (i64.wrap (v4-1))/\∀b1,(I1 b1->
(decide (0<=b1)=true->
(0<=b1)/\b1<((ownsL p1.wH r1 p1.wo).length:Int)/\(0<=b1)/\b1<(r3.length:Int)/\let v5:Bool:=(!(((ix (ownsL p1.wH r1 p1.wo) b1).a0==(ix r3 b1).a0)&&(((ix (ownsL p1.wH r1 p1.wo) b1).a1==(ix r3 b1).a1)&&true)))
(v5=true->
(0<=b1)/\b1<((ownsL p1.wH r1 p1.wo).length:Int)/\(0<=b1)/\b1<((ownsL p1.wH r1 p1.wo).length:Int)/\(U64 (ix (ownsL p1.wH r1 p1.wo) b1).a0/\U64 (ix (ownsL p1.wH r1 p1.wo) b1).a1)/\let r6:Int:=(ndA (ix (ownsL p1.wH r1 p1.wo) b1))
let r7:=brQ (ix (ownsL p1.wH r1 p1.wo) b1) r6
(0<=b1)/\b1<(r3.length:Int)/\(0<=b1)/\b1<((ownsL p1.wH r1 p1.wo).length:Int)/\(U64 (ix (ownsL p1.wH r1 p1.wo) b1).a0/\U64 (ix (ownsL p1.wH r1 p1.wo) b1).a1)/\let r8:Int:=(ndA (ix (ownsL p1.wH r1 p1.wo) b1))
(w3=w3)/\(w2=w2)/\2=r0.wAI/\0=r0.wM/\0=r0.Tx/\r7.wAe=r0.wAF/\r7.wAY=r0.wAC/\r7.wAj=r0.wz/\(brQ (ix r3 b1) r8).wAe=r0.wAL/\(brQ (ix r3 b1) r8).wAY=r0.wAJ/\(brQ (ix r3 b1) r8).wAj=r0.wAD/\Aa=Aq/\Ab=Ax/\Ag=Bl/\Aj=Bm/\Ah=Bn/\Ai=Bo/\Ak=Bp/\Ac=A9/\Br=Cm/\Ap=Bz/\Af=Ba/\Al=Bq/\Bt=Cn/\Bu=Co/\Bw=Cp/\Bx=Cq/\At=B6/\Au=B7/\Av=B8/\As=B9/\w2=e2/\w3=e3/\w4k=e4k/\w4v=e4v/\w5k=e5k/\w5v=e5v/\w6k=e6k/\w6v=e6v/\w7k=e7k/\w7v=e7v)/\
(v5=false->
I1 (i64.wrap (b1-1))/\M1 (i64.wrap (b1-1))<M1 b1))/\
(decide (0<=b1)=false->
let r9:=comQ (wS.mk p1.wl p1.wAE p1.wAK p1.wAm) r1
∀J1:Bool->Prop,(∀(f1:Bool),
((f1=true->
(0<=p1.wH)/\p1.wH<(w3.length:Int)/\(w3=w3)/\(w2=w2)/\2=r0.wAI/\0=r0.wM/\0=r0.Tx/\r9.wAe=r0.wAF/\r9.wAY=r0.wAC/\r9.wAj=r0.wz/\(comQ (ix w3 p1.wH) r1).wAe=r0.wAL/\(comQ (ix w3 p1.wH) r1).wAY=r0.wAJ/\(comQ (ix w3 p1.wH) r1).wAj=r0.wAD/\Aa=Aq/\Ab=Ax/\Ag=Bl/\Aj=Bm/\Ah=Bn/\Ai=Bo/\Ak=Bp/\Ac=A9/\Br=Cm/\Ap=Bz/\Af=Ba/\Al=Bq/\Bt=Cn/\Bu=Co/\Bw=Cp/\Bx=Cq/\At=B6/\Au=B7/\Av=B8/\As=B9/\w2=e2/\w3=e3/\w4k=e4k/\w4v=e4v/\w5k=e5k/\w5v=e5v/\w6k=e6k/\w6v=e6v/\w7k=e7k/\w7v=e7v)/\
(f1=false->
(w3=w3)/\(w2=w2)/\2=r0.wAI/\0=r0.wM/\0=r0.Tx/\r9.wAe=r0.wAF/\r9.wAY=r0.wAC/\r9.wAj=r0.wz/\6=r0.wAL/\([]:Li)=r0.wAJ/\r1=r0.wAD/\Aa=Aq/\Ab=Ax/\Ag=Bl/\Aj=Bm/\Ah=Bn/\Ai=Bo/\Ak=Bp/\Ac=A9/\Br=Cm/\Ap=Bz/\Af=Ba/\Al=Bq/\Bt=Cn/\Bu=Co/\Bw=Cp/\Bx=Cq/\At=B6/\Au=B7/\Av=B8/\As=B9/\w2=e2/\w3=e3/\w4k=e4k/\w4v=e4v/\w5k=e5k/\w5v=e5v/\w6k=e6k/\w6v=e6v/\w7k=e7k/\w7v=e7v))->J1 f1)->
let v10:Int:=((ancS w2 Ab p2 p3.toNat).length:Int)
(decide (p1.wH<v10)=true->
J1 (decide (p1.wH<(w3.length:Int))))/\
(decide (p1.wH<v10)=false->
J1 false))))<|by
 rintro p1 p2 p3 Aa Ab Ag Aj Ah Ai Ak Ac Br Ap Af Al Bt Bu Bw Bx At Au Av As w2 w3 w4k w4v w5k w5v w6k w6v w7k w7v h;repeat rintro _ rfl
 obtain⟨⟨⟨a1,a2,a3⟩,hC⟩,hp,rfl,rfl,rfl⟩:=h;have hl1:(commP (pk false As [] []) (wS.mk p1.wl p1.wAE p1.wAK p1.wAm)).getD 0=leafS p1:=by rw[pk_emp];rfl
 have hlu:=leafS_u p1;have hA:=kl3 hC p2 p3.toNat;have hol:=k54 p1.wH (leafS p1) p1.wo;have hou:=ownsL_u p1.wH (leafS p1) p1.wo hlu hp.pu;have hrl:=kek (lf (ancS w2 Ab p2 p3.toNat)) p1.wH.toNat p1.wo.length;have h0:=hp.p0;have hpl:=hp.pl;generalize hG:wrgS ⟨w2,Ab⟩ w3 p1 p2 p3=G;unfold wrgS wrgF at hG;dsimp only at hG ⊢;rw[hl1];generalize ownsL p1.wH (leafS p1) p1.wo=O at *
 generalize realsL (lf (ancS w2 Ab p2 p3.toNat)) p1.wH.toNat p1.wo.length=Q at *
 refine⟨by trivial,by trivial,⟨⟨a1,a2,a3⟩,hC⟩,⟨hp.n,kjl _⟩,by trivial,by trivial,⟨⟨hlu,hA.2,hA.1⟩,hp⟩,(fun i=>∃k:Nat,i=(k:Int)-1/\k<=O.length/\wrgGo O Q k=wrgGo O Q O.length),(fun i=>(i+1).toNat),⟨O.length,wi _ qqo qqo,qv _,rfl⟩,?_⟩;rintro _ ⟨k,rfl,hk,hg⟩;refine⟨fun e=> ?_,fun e=> ?_⟩
 ·have e:0<=(k:Int)-1:=qb e;obtain⟨j,rfl⟩:∃j,k=j+1:=⟨k-1,by omega⟩;have ej:((j+1:Nat):Int)-1=(j:Int):=by omega
  rw[ej];have hu:=hou _ (ix_mem O (j:Int) qqo qqo);rw[wrgGo]at hg;refine⟨by omega,by omega,by omega,by omega,fun e2=> ?_,fun e2=> ?_⟩
  ·rw[qh ((pair_ne _ _).1 e2)]at hg;rw[<-hg]at hG;have hG:colF _ _=G:=hG;subst hG;exact⟨by omega,by omega,by omega,by omega,hu,by omega,by omega,by omega,by omega,hu,(by repeat' first|apply qt|exact rfl|exact qm)⟩
  ·rw[qf (fun hn=>by rw[(pair_ne _ _).2 hn]at e2;cases e2)]at hg;rw[wi ((j:Int)-1) qqo qqo];exact⟨⟨j,rfl,by omega,hg⟩,by(first|omega|(dsimp only;omega))⟩
 ·have e:¬0<=(k:Int)-1:=qc e;obtain rfl:k=0:=by omega
  have hg:none=wrgGo O Q O.length:=hg;rw[<-hg]at hG;dsimp only at hG;intro J kJ
  have j:∀b:Bool,(b=true↔(p1.wH<(ancS w2 Ab p2 p3.toNat).length/\p1.wH<w3.length))->J b:=fun b hb=>kJ b ⟨fun e=>by
    rw[qh (hb.1 e)]at hG;subst hG;have:=(hb.1 e).2;exact⟨h0,this,(by repeat' first|apply qt|exact rfl|exact qm)⟩,fun e=>by
    rw[qf (fun hh=>by rw[hb.2 hh]at e;cases e)]at hG;subst hG;exact(by repeat' first|apply qt|exact rfl|exact qm)⟩
  refine⟨fun e2=>j _ ?_,fun e2=>j _ ?_⟩
  ·have e2:=qb e2;simp[e2]
  ·have e2:=qc e2;simp[e2]
noncomputable def k5n:Con TB.den:= .b (gk 172 [.one (.ptr 0 0),.agg yE1,.agg yJ1,.one (.d (.bool)),.one (zqi)] yC (.one (.agg yN1))) (.st 2:: .st 16:: .bool:: .int .i64::yK) yJ fun(p1:wZ) (p2:wj) (p3:Bool) (p4 Aa:Int) (Ab:Li) (Ag Aj Ah Ai Ak Ac Br Ap Af:Int) (Al:Li) (Bt Bu:Int) (Bw:Li) (Bx:Int) (At:Bool) (Au Av:Int) (As:List wB) (w2:List wx) (w3:List wS) (w4k:Li) (w4v:List wP) (w5k:Lb) (w5v:Li) (w6k:Lb) (w6v:List (Li)) (w7k:Lb) (w7v:Lo)=>((∃c:Nat,c<=1000/\EXk ⟨w3,w4k,w4v,Ai,Ak,Ah⟩ c)/\ECk ⟨w2,Ab⟩/\(0<=p4/\p4<=w2.length/\p4<=9223372036854775807)/\(At=false/\w5k=[]/\w5v=[])/\TR p1/\(p3=true->WR p2)/\1<=Aa/\Aa<=6,exTx ⟨w2,Ab⟩ Aa ⟨w3,w4k,w4v,Ai,Ak,Ah⟩ p1 p2 p3 p4,fun R=>(R.f,Aa,Ab,Ag,Aj,R.x.hd,R.x.cr,R.x.sp,Ac,Br,Ap,Af,Al,Bt,Bu,Bw,Bx,At,Au,Av,As,w2,R.x.n,R.x.k,R.x.v,w5k,w5v,w6k,w6v,w7k,w7v,()))
abbrev kz (R:EF) (Aa:Int) (Ab:Li) (Ag Aj Ac Br Ap Af:Int) (Al:Li) (Bt Bu:Int) (Bw:Li) (Bx:Int) (At:Bool) (Au Av:Int) (As:List wB) (w2:List wx) (w5k:Lb) (w5v:Li) (w6k:Lb) (w6v:List (Li)) (w7k:Lb) (w7v:Lo) (o0 o1 o2 o3:Int) (o4:Li) (o5 o6:Int) (o7:Li) (o8 o9:Int) (o10:Li) (o11 o12 o13 o14 o15 o16 o17 o18 o19:Int) (o20:Li) (o21 o22:Int) (o23:Li) (o24:Int) (o25:Bool) (o26 o27:Int) (o28:List wB) (o29:List wx) (o30:List wS) (o31:Li) (o32:List wP) (o33:Lb) (o34:Li) (o35:Lb) (o36:List (Li)) (o37:Lb) (o38:Lo):Prop:=o0=R.f.wAI/\o1=R.f.wM/\o2=R.f.Tx/\o3=R.f.wAF/\o4=R.f.wAC/\o5=R.f.wz/\o6=R.f.wAL/\o7=R.f.wAJ/\o8=R.f.wAD/\o9=Aa/\o10=Ab/\o11=Ag/\o12=Aj/\o13=R.x.hd/\o14=R.x.cr/\o15=R.x.sp/\o16=Ac/\o17=Br/\o18=Ap/\o19=Af/\o20=Al/\o21=Bt/\o22=Bu/\o23=Bw/\o24=Bx/\o25=At/\o26=Au/\o27=Av/\o28=As/\o29=w2/\o30=R.x.n/\o31=R.x.k/\o32=R.x.v/\o33=w5k/\o34=w5v/\o35=w6k/\o36=w6v/\o37=w7k/\o38=w7v
abbrev Fz8 (r:Type):=Int->Bool->Int->Int->(List wB)->Int->(Li)->Int->Int->Int->Int->Int->Int->Int->Int->Int->(Li)->Int->Int->(Li)->Int->(Lb)->(Lo)->(Lb)->(List (Li))->(Lb)->(Li)->(Li)->(List wP)->(List wS)->(List wx)->r
theorem k6g:k5n.Ok Tryz.prog TB:=pbv Bs Tryz.func172 (.r 0 (.nd [] (.jn ⟨[7,6,5,1],yR,[35],[.one (.d (.bool))],[]⟩ [] .no [] .no) [] (.r 0 (.nd [] (.r 0 (.lp [] ⟨[4],[.map yqi (.st 14)],[11,12,40],[.one (zqi),.one (zqu),.one (zqi)],[]⟩ .no)) [] (.nd [] (.r 0 (.lp [] ⟨[7,6,5,4,3,2,1,0],yD,[107],[.one (zqi)],[]⟩ .no)) [] .no))))) (k5j.c (k3x.c (kaa.c (kfg.c (k32.c c0))))) (Q:=∀(p1:wZ) (p2:wj) (p3:Bool) (p4 Aa:Int) (Ab:Li) (Ag Aj Ah Ai Ak Ac Br Ap Af:Int) (Al:Li) (Bt Bu:Int) (Bw:Li) (Bx:Int) (At:Bool) (Au Av:Int) (As:List wB) (w2:List wx) (w3:List wS) (w4k:Li) (w4v:List wP) (w5k:Lb) (w5v:Li) (w6k:Lb) (w6v:List (Li)) (w7k:Lb) (w7v:Lo),((∃c:Nat,c<=1000/\EXk ⟨w3,w4k,w4v,Ai,Ak,Ah⟩ c)/\ECk ⟨w2,Ab⟩/\(0<=p4/\p4<=w2.length/\p4<=9223372036854775807)/\(At=false/\w5k=[]/\w5v=[])/\TR p1/\(p3=true->WR p2)/\1<=Aa/\Aa<=6)->∀R,exTx ⟨w2,Ab⟩ Aa ⟨w3,w4k,w4v,Ai,Ak,Ah⟩ p1 p2 p3 p4=R-> 
∀J1:Bool->Bool->Int->Int->(List wB)->(Lb)->(Lo)->(Lb)->(List (Li))->(Lb)->(Li)->Prop,(∀(b1 f1:Bool) (i1 k1:Int) (l1:List wB) (m1:Lb) (n1:Lo) (o1:Lb) (q1:List (Li)) (s1:Lb) (t1:Li),
((b1=true->
(w3=w3)/\(w2=w2)/\kz R Aa Ab Ag Aj Ac Br Ap Af Al Bt Bu Bw Bx At Au Av As w2 w5k w5v w6k w6v w7k w7v 1 0 0 0 ([]:Li) 0 0 ([]:Li) 0 Aa Ab Ag Aj Ah Ai Ak Ac Br Ap Af Al Bt Bu Bw Bx f1 i1 k1 l1 w2 w3 w4k w4v s1 t1 o1 q1 m1 n1)/\
(b1=false->
∃(I1:Int->Int->Int->(Li)->(List wP)->Prop) (M1:Int->Int->Int->(Li)->(List wP)->Nat),I1 0 0 0 w4k w4v/\∀u1 x1 y1 b2 f2,(I1 u1 x1 y1 b2 f2->
(decide (y1<(p2.Ins.length:Int))=true->
(0<=y1)/\y1<(p2.Ins.length:Int)/\((ix p2.Ins y1).wBM=true->
I1 u1 x1 (i64.wrap (y1+1)) b2 f2/\M1 u1 x1 (i64.wrap (y1+1)) b2 f2<M1 u1 x1 y1 b2 f2)/\
((ix p2.Ins y1).wBM=false->
let v2:Bool:=decide ((w3.length:Int)<=((ix p2.Ins y1).wH))
(v2=true->
(w3=w3)/\(w2=w2)/\(((0<=p4/\p4<=w2.length/\p4<=9223372036854775807)/\ECk ⟨w2,Ab⟩)/\SPk (ix p2.Ins y1)/\f1=false/\s1=[]/\t1=[])/\let r3:=wrgS ⟨w2,Ab⟩ w3 (ix p2.Ins y1) p1.wa p4
(w3=w3)/\(w2=w2)/\kz R Aa Ab Ag Aj Ac Br Ap Af Al Bt Bu Bw Bx At Au Av As w2 w5k w5v w6k w6v w7k w7v r3.wAI r3.wM r3.Tx r3.wAF r3.wAC r3.wz r3.wAL r3.wAJ r3.wAD Aa Ab Ag Aj Ah Ai Ak Ac Br Ap Af Al Bt Bu Bw Bx f1 i1 k1 l1 w2 w3 b2 f2 s1 t1 o1 q1 m1 n1)/\
(v2=false->
(0<=(ix p2.Ins y1).wH)/\(ix p2.Ins y1).wH<(w3.length:Int)/\let v4:Bool:=(!(((ix w3 ((ix p2.Ins y1).wH)).Value==(ix p2.Ins y1).wl)&&(((ix w3 ((ix p2.Ins y1).wH)).wBB==(ix p2.Ins y1).wAE)&&(((ix w3 ((ix p2.Ins y1).wH)).Rho==(ix p2.Ins y1).wAK)&&(((ix w3 ((ix p2.Ins y1).wH)).wBF==(ix p2.Ins y1).wAm)&&true)))))
(v4=true->
(w3=w3)/\(w2=w2)/\(((0<=p4/\p4<=w2.length/\p4<=9223372036854775807)/\ECk ⟨w2,Ab⟩)/\SPk (ix p2.Ins y1)/\f1=false/\s1=[]/\t1=[])/\let r5:=wrgS ⟨w2,Ab⟩ w3 (ix p2.Ins y1) p1.wa p4
(w3=w3)/\(w2=w2)/\kz R Aa Ab Ag Aj Ac Br Ap Af Al Bt Bu Bw Bx At Au Av As w2 w5k w5v w6k w6v w7k w7v r5.wAI r5.wM r5.Tx r5.wAF r5.wAC r5.wz r5.wAL r5.wAJ r5.wAD Aa Ab Ag Aj Ah Ai Ak Ac Br Ap Af Al Bt Bu Bw Bx f1 i1 k1 l1 w2 w3 b2 f2 s1 t1 o1 q1 m1 n1)/\
(v4=false->
b2.length=f2.length/\let v6:wP:=mVal (BEq.beq ((ix p2.Ins y1).wH)) b2 f2 (default:wP)
let v7:Bool:=mHas (BEq.beq ((ix p2.Ins y1).wH)) b2
(v7=true->
(w3=w3)/\(w2=w2)/\kz R Aa Ab Ag Aj Ac Br Ap Af Al Bt Bu Bw Bx At Au Av As w2 w5k w5v w6k w6v w7k w7v 2 0 0 ((ownQ v6).wAe) ((ownQ v6).wAY) ((ownQ v6).wAj) ((ownQ (ix p2.Ins y1)).wAe) ((ownQ (ix p2.Ins y1)).wAY) ((ownQ (ix p2.Ins y1)).wAj) Aa Ab Ag Aj Ah Ai Ak Ac Br Ap Af Al Bt Bu Bw Bx f1 i1 k1 l1 w2 w3 b2 f2 s1 t1 o1 q1 m1 n1)/\
(v7=false->
b2.length=f2.length/\let v8:Li:=mPutK (BEq.beq ((ix p2.Ins y1).wH)) b2 ((ix p2.Ins y1).wH)
let v9:List wP:=mPutV (BEq.beq ((ix p2.Ins y1).wH)) b2 f2 (ix p2.Ins y1)
let v10:Int:=u64.wrap (x1+((ix p2.Ins y1).wl))
I1 (i64.wrap (u1+1)) v10 (i64.wrap (y1+1)) v8 v9/\M1 (i64.wrap (u1+1)) v10 (i64.wrap (y1+1)) v8 v9<M1 u1 x1 y1 b2 f2)))))/\
(decide (y1<(p2.Ins.length:Int))=false->
(w3=w3)/\(w2=w2)/\∃(I2:Fz8 Prop) (M2:Fz8 Nat),I2 0 f1 i1 k1 l1 Aa Ab Ag Aj Ah Ai Ak Ac Br Ap Af Al Bt Bu Bw Bx m1 n1 o1 q1 s1 t1 b2 f2 w3 w2/\∀i2 k2 l2 m2 n2 o2 q2 s2 t2 u2 x2 y2 b3 f3 i3 k3 l3 m3 n3 o3 q3 s3 t3 u3 x3 y3 b4 f4 i4 k4 l4,(I2 i2 k2 l2 m2 n2 o2 q2 s2 t2 u2 x2 y2 b3 f3 i3 k3 l3 m3 n3 o3 q3 s3 t3 u3 x3 y3 b4 f4 i4 k4 l4->
(decide (i2<(p2.wD.length:Int))=true->
(0<=i2)/\i2<(p2.wD.length:Int)/\lz k4/\(k4.length+[(ix p2.wD i2)].length)*32<=140737488355328/\k4.length+[(ix p2.wD i2)].length<=maxLen/\(k4++[(ix p2.wD i2)]=k4++[(ix p2.wD i2)])/\(l4=l4)/\I2 (i64.wrap (i2+1)) k2 l2 m2 n2 o2 q2 s2 t2 u2 x2 y2 b3 f3 i3 k3 l3 m3 n3 o3 q3 s3 t3 u3 x3 y3 b4 f4 i4 (k4++[(ix p2.wD i2)]) l4/\M2 (i64.wrap (i2+1)) k2 l2 m2 n2 o2 q2 s2 t2 u2 x2 y2 b3 f3 i3 k3 l3 m3 n3 o3 q3 s3 t3 u3 x3 y3 b4 f4 i4 (k4++[(ix p2.wD i2)]) l4<M2 i2 k2 l2 m2 n2 o2 q2 s2 t2 u2 x2 y2 b3 f3 i3 k3 l3 m3 n3 o3 q3 s3 t3 u3 x3 y3 b4 f4 i4 k4 l4)/\
(decide (i2<(p2.wD.length:Int))=false->
let v11:Int:=i64.wrap (x2+(p2.wD.length:Int))
(p2.wD.length<=9223372036854775807)/\let v12:Int:=u64.wrap (u2+(u64.wrap ((outS p2.wD)-x1)))
(k4=k4)/\(l4=l4)/\kz R Aa Ab Ag Aj Ac Br Ap Af Al Bt Bu Bw Bx At Au Av As w2 w5k w5v w6k w6v w7k w7v 0 0 0 0 ([]:Li) 0 0 ([]:Li) 0 o2 q2 s2 t2 v12 v11 (i64.wrap (y2+u1)) b3 f3 i3 k3 l3 m3 n3 o3 q3 k2 l2 m2 n2 l4 k4 f4 i4 y3 b4 u3 x3 s3 t3))))))->J1 b1 f1 i1 k1 l1 m1 n1 o1 q1 s1 t1)->
((!p3)=true->
J1 true At Au Av As w7k w7v w6k w6v w5k w5v)/\
((!p3)=false->
(TR p1/\-9223372036854775808<=Aa/\Aa<=9223372036854775807)/\(SR (stmtS p1 Aa)/\WR p2/\OrOk w5k w5v As/\(∀l a,(pk At As w5k w5v) l a=none∨∃n,(pk At As w5k w5v) l a=some n/\U64 n))/\let r1:Int:=(checkS (pk At As w5k w5v) (stmtS p1 Aa) p2)
J1 (r1 !=0) At Au Av As w7k w7v w6k w6v w5k w5v))<|by
 rintro p1 p2 p3 p4 Aa Ab Ag Aj Ah Ai Ak Ac Br Ap Af Al Bt Bu Bw Bx At Au Av As w2 w3 w4k w4v w5k w5v w6k w6v w7k w7v h R hR;obtain⟨⟨c,hc,hX⟩,hC,hh,⟨rfl,rfl,rfl⟩,hT,hW,hd1,hd6⟩:=h;have hF:checkS (pk false As [] [])=checkS pkR:=by rw[pk_emp]
 intro J kJ
 have j:∀b,(b=true↔(p3=false∨checkS pkR (stmtS p1 Aa) p2≠0))->J b false Au Av As w7k w7v w6k w6v [] []:=by
  intro b hb;refine kJ _ _ _ _ _ _ _ _ _ _ _ ⟨fun e=> ?_,fun e=> ?_⟩
  ·unfold exTx at hR;rw[qh (hb.1 e)]at hR;subst hR;exact(by repeat' first|apply qt|exact rfl|exact qm)
  ·have hn:¬(p3=false∨checkS pkR (stmtS p1 Aa) p2≠0):=fun hh=>by rw[hb.2 hh]at e;cases e
   have hk:p3=true:=by cases p3 with|true=>rfl|false=>exact(hn (.inl rfl)).elim
   have hck:checkS pkR (stmtS p1 Aa) p2=0:=qp fun hh=>hn (.inr hh);have hr:=(k3l.1 hck).1;obtain⟨r1,r2,r3,r4⟩:=rel_in hr (qen (kez hd1) hd6) (hW hk);unfold exTx at hR;rw[qf hn]at hR;generalize hE:exIn ⟨w2,Ab⟩ ⟨w3,w4k,w4v,Ai,Ak,Ah⟩ p1 p2 p4=E at hR;have hnl:=hX.nl;have hnl:w3.length<=4*c:=hnl;refine⟨(fun u x y k v=>∃j:Nat,y=(j:Int)/\j<=p2.Ins.length/\k.length=v.length/\inpS ⟨w2,Ab⟩ w3 p1.wa p4 (p2.Ins.drop j) ⟨zeroF,u,x,k,v⟩=E),(fun _ _ y _ _=>(p2.Ins.length-y).toNat),⟨0,rfl,qav _,hX.kv,hE⟩,?_⟩;rintro u x _ k v ⟨i,rfl,hi,hkv,hg⟩;refine⟨fun e2=> ?_,fun e2=> ?_⟩
   ·have e2:(i:Int)<p2.Ins.length:=qb e2;have hil:i<p2.Ins.length:=by omega
    have hx:ix p2.Ins (i:Int)=p2.Ins[i]:=ix_get _ _ hil;obtain⟨sx,px⟩:=r1 _ (ix_mem p2.Ins (i:Int) qqo e2);rw[qat hil,<-hx,inpS]at hg;rw[inc (i:Int) p2.Ins.length qqo e2 qqo];generalize ix p2.Ins (i:Int)=X at *
    have hkd:(wrgS ⟨w2,Ab⟩ w3 X p1.wa p4).wAI≠0:=by unfold wrgS;rw[k59];decide
    refine⟨by omega,e2,fun e3=> ?_,fun e3=> ?_⟩
    ·rw[qh e3]at hg;exact⟨⟨i+1,rfl,by omega,hkv,hg⟩,by(first|omega|(dsimp only;omega))⟩
    ·rw[qf (by simp[e3])]at hg;refine⟨fun e4=> ?_,fun e4=> ?_⟩
     ·have e4:=qb e4;rw[qh (.inl e4)]at hg;subst hg;rw[qh hkd]at hR;subst hR;exact⟨rfl,rfl,⟨⟨hh,hC⟩,sx,rfl,rfl,rfl⟩,(by repeat' first|apply qt|exact rfl|exact qm)⟩
     ·have e4:=qc e4;refine⟨sx.p0,by omega,fun e5=> ?_,fun e5=> ?_⟩
      ·rw[qh (.inr ((note_ne _ _).1 e5))]at hg;subst hg;rw[qh hkd]at hR;subst hR;exact⟨rfl,rfl,⟨⟨hh,hC⟩,sx,rfl,rfl,rfl⟩,(by repeat' first|apply qt|exact rfl|exact qm)⟩
      ·rw[qf (fun hq=>hq.elim e4 fun hq=>by rw[(note_ne _ _).2 hq]at e5;cases e5)]at hg;refine⟨hkv,fun e6=> ?_,fun e6=>⟨hkv,?_⟩⟩
       ·rw[qh (k20.1 e6)]at hg;subst hg;have hR:EF.mk _ _=R:=hR;subst hR;exact(by repeat' first|apply qt|exact rfl|exact qm)
       ·rw[qf (fun hq=>by rw[k20.2 hq]at e6;cases e6)]at hg;obtain⟨q1,q2⟩:=kop e6 v X;dsimp only;rw[q1,q2];exact⟨⟨i+1,rfl,by omega,by simp[hkv],hg⟩,by(first|omega|(dsimp only;omega))⟩
   ·have e2:¬(i:Int)<p2.Ins.length:=qc e2;rw[qam qqo]at hg;have hg:EIn.mk zeroF u x k v=E:=hg;subst hg;have hR:EF.mk zeroF ⟨w3++p2.wD,k,v,i64.wrap (Ai+(p2.wD.length:Int)),i64.wrap (Ak+u),u64.wrap (Ah+u64.wrap (outS p2.wD-x))⟩=R:=hR;subst hR;refine⟨rfl,rfl,(fun i z1 z2 z3 z4 z5 z6 z7 z8 z9 y0 y1 y2 y3 y4 y5 y6 y7 y8 y9 x0 x1 x2 x3 x4 x5 x6 x7 x8 n t=>∃j:Nat,i=(j:Int)/\j<=p2.wD.length/\(false=z1/\Au=z2/\Av=z3/\As=z4/\Aa=z5/\Ab=z6/\Ag=z7/\Aj=z8/\Ah=z9/\Ai=y0)/\(Ak=y1/\Ac=y2/\Br=y3/\Ap=y4/\Af=y5/\Al=y6/\Bt=y7/\Bu=y8/\Bw=y9/\Bx=x0)/\(w7k=x1/\w7v=x2/\w6k=x3/\w6v=x4/\[]=x5/\[]=x6/\k=x7/\v=x8)/\n=w3++p2.wD.take j/\w2=t),(fun i _ _ _ _ _ _ _ _ _ _ _ _ _ _ _ _ _ _ _ _ _ _ _ _ _ _ _ _ _ _=>(p2.wD.length-i).toNat),⟨0,rfl,qav _,⟨rfl,rfl,rfl,rfl,rfl,rfl,rfl,rfl,rfl,rfl⟩,⟨rfl,rfl,rfl,rfl,rfl,rfl,rfl,rfl,rfl,rfl⟩,⟨rfl,rfl,rfl,rfl,rfl,rfl,rfl,rfl⟩,by simp,rfl⟩,?_⟩;rintro _ _ _ _ _ _ _ _ _ _ _ _ _ _ _ _ _ _ _ _ _ _ _ _ _ _ _ _ _ _ _ ⟨j,rfl,hj,⟨rfl,rfl,rfl,rfl,rfl,rfl,rfl,rfl,rfl,rfl⟩,⟨rfl,rfl,rfl,rfl,rfl,rfl,rfl,rfl,rfl,rfl⟩,⟨rfl,rfl,rfl,rfl,rfl,rfl,rfl,rfl⟩,rfl,rfl⟩;refine⟨fun e3=> ?_,fun e3=> ?_⟩
    ·have e3:(j:Int)<p2.wD.length:=qb e3;have hjl:j<p2.wD.length:=by omega
     have hx:ix p2.wD (j:Int)=p2.wD[j]:=ix_get _ _ hjl;have hlen:(w3++p2.wD.take j).length<=4004:=by rw[qi,qaa];omega
     rw[inc (j:Int) p2.wD.length qqo e3 qqo];refine⟨by omega,e3,rfl,?_,?_,rfl,rfl,⟨j+1,rfl,by omega,⟨rfl,rfl,rfl,rfl,rfl,rfl,rfl,rfl,rfl,rfl⟩,⟨rfl,rfl,rfl,rfl,rfl,rfl,rfl,rfl,rfl,rfl⟩,⟨rfl,rfl,rfl,rfl,rfl,rfl,rfl,rfl⟩,?_,rfl⟩,by(first|omega|(dsimp only;omega))⟩
     ·simp only[qr,qaq];omega
     ·simp only[qr,qaq];unfold maxLen;omega
     ·have tk:=ke p2.wD (j:Int) qqo e3;rw[show((j:Int)+1).toNat=j+1 by omega,qu]at tk;rw[qw,tk]
    ·have e3:¬(j:Int)<p2.wD.length:=qc e3;rw[qx qqo];exact⟨by omega,(by repeat' first|apply qt|exact rfl|exact qm)⟩
 refine⟨fun e=>j true ⟨fun _=> .inl (by simpa using e),fun _=>rfl⟩,fun e=> ?_⟩;have e:p3=true:=by simpa using e
 refine⟨⟨hT,by omega,by omega⟩,⟨stmt_SR hT ⟨by omega,by omega⟩,hW e,kjl _,fun l a=>by rw[pk_emp];exact pkR_u⟩,?_⟩;dsimp only;rw[hF];exact j _ ⟨fun h1=> .inr (by simpa using h1),fun h1=>h1.elim (fun h2=>by rw[e]at h2;cases h2) (fun h2=>by simpa using h2)⟩
noncomputable def kcp:Con TB.den:= .b (gk 117 [.one (.ptr 0 0),.one (.d (.sl (.st 3))),.one (.k (.fn 78))] yC (.tup [])) [.sl (.st 3),yqi,.sl yqu,yqu,yqu,yqu,yqi,yqi,yqi,yqi,yqi,yqu,.sl yqu,yqu,yqu,.sl yqu,yqu,.bool,yqu,yqi,.sl (.st 4),.sl (.st 19),.sl (.st 15),.sl yqi,.sl (.st 14),.sl (.str),.sl yqi,.sl (.str),.sl (.sl yqu),.sl (.str),.sl (.bool)] yK fun(p1:List wI) (Aa:Int) (Ab:Li) (Ag Aj Ah Ai Ak Ac Br Ap Af:Int) (Al:Li) (Bt Bu:Int) (Bw:Li) (Bx:Int) (At:Bool) (Au Av:Int) (As:List wB) (w2:List wx) (w3:List wS) (w4k:Li) (w4v:List wP) (w5k:Lb) (w5v:Li) (w6k:Lb) (w6v:List (Li)) (w7k:Lb) (w7v:Lo)=>(CHk Aa p1 w2 Ab ⟨w3,w4k,w4v,Ai,Ak,Ah⟩/\(At=false/\w5k=[]/\w5v=[])/\(Ac=0/\Br=0/\Ap=0/\Af=0/\Al=[]/\Bt=0)/\Bu=0/\Bw=[]/\Bx=0,chnGo ⟨w2,Ab⟩ Aa p1 ⟨w3,w4k,w4v,Ai,Ak,Ah⟩,fun R=>(Aa,Ab,Ag,Aj,R.x.hd,R.x.cr,R.x.sp,R.f.wAI,R.f.wM,R.f.Tx,R.f.wAF,R.f.wAC,R.f.wz,R.f.wAL,R.f.wAJ,R.f.wAD,At,Au,Av,As,w2,R.x.n,R.x.k,R.x.v,w5k,w5v,w6k,w6v,w7k,w7v,()))
abbrev k5e (R:EF) (Aa:Int) (Ab:Li) (Ag Aj:Int) (At:Bool) (Au Av:Int) (As:List wB) (w2:List wx) (w5k:Lb) (w5v:Li) (w6k:Lb) (w6v:List (Li)) (w7k:Lb) (w7v:Lo) (o0:Int) (o1:Li) (o2 o3 o4 o5 o6 o7 o8 o9 o10:Int) (o11:Li) (o12 o13:Int) (o14:Li) (o15:Int) (o16:Bool) (o17 o18:Int) (o19:List wB) (o20:List wx) (o21:List wS) (o22:Li) (o23:List wP) (o24:Lb) (o25:Li) (o26:Lb) (o27:List (Li)) (o28:Lb) (o29:Lo):Prop:=o0=Aa/\o1=Ab/\o2=Ag/\o3=Aj/\o4=R.x.hd/\o5=R.x.cr/\o6=R.x.sp/\o7=R.f.wAI/\o8=R.f.wM/\o9=R.f.Tx/\o10=R.f.wAF/\o11=R.f.wAC/\o12=R.f.wz/\o13=R.f.wAL/\o14=R.f.wAJ/\o15=R.f.wAD/\o16=At/\o17=Au/\o18=Av/\o19=As/\o20=w2/\o21=R.x.n/\o22=R.x.k/\o23=R.x.v/\o24=w5k/\o25=w5v/\o26=w6k/\o27=w6v/\o28=w7k/\o29=w7v
abbrev Fz9 (r:Type):=Int->Int->Bool->Int->Int->(List wB)->Int->(Li)->Int->Int->Int->Int->Int->Int->Int->Int->Int->(Li)->Int->Int->(Li)->Int->(Lb)->(Lo)->(Lb)->(List (Li))->(Lb)->(Li)->(Li)->(List wP)->(List wS)->(List wx)->r
theorem kds:kcp.Ok Tryz.prog TB:=pbv Bs Tryz.func117 (.r 1 (.lp [] ⟨[7,6,5,4,3,2,1,0],yD,[6,16],[.one (zqi),.one (zqi)],[]⟩ (.r 1 (.nd [] (.r 1 (.lp [] ⟨[7,6,5,4,3,2,1,0],yD,[6,23],[.one (zqi),.one (zqi)],[]⟩ .no)) [] .no)))) (kbm.c (k6g.c c0)) (Q:=∀(p1:List wI) (Aa:Int) (Ab:Li) (Ag Aj Ah Ai Ak Ac Br Ap Af:Int) (Al:Li) (Bt Bu:Int) (Bw:Li) (Bx:Int) (At:Bool) (Au Av:Int) (As:List wB) (w2:List wx) (w3:List wS) (w4k:Li) (w4v:List wP) (w5k:Lb) (w5v:Li) (w6k:Lb) (w6v:List (Li)) (w7k:Lb) (w7v:Lo),(CHk Aa p1 w2 Ab ⟨w3,w4k,w4v,Ai,Ak,Ah⟩/\(At=false/\w5k=[]/\w5v=[])/\(Ac=0/\Br=0/\Ap=0/\Af=0/\Al=[]/\Bt=0)/\Bu=0/\Bw=[]/\Bx=0)->∀R,chnGo ⟨w2,Ab⟩ Aa p1 ⟨w3,w4k,w4v,Ai,Ak,Ah⟩=R-> 
(w3=w3)/\(w2=w2)/\∃(I1:Fz9 Prop) (M1:Fz9 Nat),I1 0 0 At Au Av As Aa Ab Ag Aj Ah Ai Ak Ac Br Ap Af Al Bt Bu Bw Bx w7k w7v w6k w6v w5k w5v w4k w4v w3 w2/\∀b1 f1 i1 k1 l1 m1 n1 o1 q1 s1 t1 u1 x1 y1 b2 f2 i2 k2 l2 m2 n2 o2 q2 s2 t2 u2 x2 y2 b3 f3 i3 k3,(I1 b1 f1 i1 k1 l1 m1 n1 o1 q1 s1 t1 u1 x1 y1 b2 f2 i2 k2 l2 m2 n2 o2 q2 s2 t2 u2 x2 y2 b3 f3 i3 k3->
(decide (f1<(p1.length:Int))=true->
(0<=f1)/\f1<(p1.length:Int)/\(i3=i3)/\(k3=k3)/\∃(I2:Fz9 Prop) (M2:Fz9 Nat),I2 b1 0 i1 k1 l1 m1 n1 o1 q1 s1 t1 u1 x1 y1 b2 f2 i2 k2 l2 m2 n2 o2 q2 s2 t2 u2 x2 y2 b3 f3 i3 k3/\∀l3 m3 n3 o3 q3 s3 t3 u3 x3 y3 b4 f4 i4 k4 l4 m4 n4 o4 q4 s4 t4 u4 x4 y4 b5 f5 i5 k5 l5 m5 n5 o5,(I2 l3 m3 n3 o3 q3 s3 t3 u3 x3 y3 b4 f4 i4 k4 l4 m4 n4 o4 q4 s4 t4 u4 x4 y4 b5 f5 i5 k5 l5 m5 n5 o5->
let v1:Bool:=decide (m3<(((ix p1 f1).Txs).length:Int))
(v1=true->
(0<=m3)/\m3<(((ix p1 f1).Txs).length:Int)/\(By (ix ((ix p1 f1).Txs) m3).wv/\(ix ((ix p1 f1).Txs) m3).wv.length<=137438953472)/\let r2:=(decW (ix ((ix p1 f1).Txs) m3).wv).1
let r3:Bool:=((decW (ix ((ix p1 f1).Txs) m3).wv).2==0)
(n5=n5)/\(o5=o5)/\((∃c:Nat,c<=1000/\EXk ⟨n5,l5,m5,f4,i4,b4⟩ c)/\ECk ⟨o5,u3⟩/\(0<=((ix p1 f1).wM)/\((ix p1 f1).wM)<=o5.length/\((ix p1 f1).wM)<=9223372036854775807)/\(n3=false/\i5=[]/\k5=[])/\TR (ix ((ix p1 f1).Txs) m3)/\(r3=true->WR r2)/\1<=t3/\t3<=6)/\let r4:=(exTx ⟨o5,u3⟩ t3 ⟨n5,l5,m5,f4,i4,b4⟩ (ix ((ix p1 f1).Txs) m3) r2 r3 ((ix p1 f1).wM)).f
let r5:=exTx ⟨o5,u3⟩ t3 ⟨n5,l5,m5,f4,i4,b4⟩ (ix ((ix p1 f1).Txs) m3) r2 r3 ((ix p1 f1).wM)
((r4.wAI !=0)=true->
(r5.x.n=r5.x.n)/\(o5=o5)/\k5e R Aa Ab Ag Aj At Au Av As w2 w5k w5v w6k w6v w7k w7v t3 u3 x3 y3 r5.x.hd r5.x.cr r5.x.sp r4.wAI ((ix p1 f1).wM) m3 r4.wAF r4.wAC r4.wz r4.wAL r4.wAJ r4.wAD n3 o3 q3 s3 o5 r5.x.n r5.x.k r5.x.v i5 k5 b5 f5 x4 y4)/\
((r4.wAI !=0)=false->
(r5.x.n=r5.x.n)/\(o5=o5)/\I2 (i64.wrap (l3+1)) (i64.wrap (m3+1)) n3 o3 q3 s3 t3 u3 x3 y3 r5.x.hd r5.x.cr r5.x.sp k4 l4 m4 n4 o4 q4 s4 t4 u4 x4 y4 b5 f5 i5 k5 r5.x.k r5.x.v r5.x.n o5/\M2 (i64.wrap (l3+1)) (i64.wrap (m3+1)) n3 o3 q3 s3 t3 u3 x3 y3 r5.x.hd r5.x.cr r5.x.sp k4 l4 m4 n4 o4 q4 s4 t4 u4 x4 y4 b5 f5 i5 k5 r5.x.k r5.x.v r5.x.n o5<M2 l3 m3 n3 o3 q3 s3 t3 u3 x3 y3 b4 f4 i4 k4 l4 m4 n4 o4 q4 s4 t4 u4 x4 y4 b5 f5 i5 k5 l5 m5 n5 o5))/\
(v1=false->
(n5=n5)/\(o5=o5)/\I1 l3 (i64.wrap (f1+1)) n3 o3 q3 s3 t3 u3 x3 y3 b4 f4 i4 k4 l4 m4 n4 o4 q4 s4 t4 u4 x4 y4 b5 f5 i5 k5 l5 m5 n5 o5/\M1 l3 (i64.wrap (f1+1)) n3 o3 q3 s3 t3 u3 x3 y3 b4 f4 i4 k4 l4 m4 n4 o4 q4 s4 t4 u4 x4 y4 b5 f5 i5 k5 l5 m5 n5 o5<M1 b1 f1 i1 k1 l1 m1 n1 o1 q1 s1 t1 u1 x1 y1 b2 f2 i2 k2 l2 m2 n2 o2 q2 s2 t2 u2 x2 y2 b3 f3 i3 k3)))/\
(decide (f1<(p1.length:Int))=false->
(i3=i3)/\(k3=k3)/\k5e R Aa Ab Ag Aj At Au Av As w2 w5k w5v w6k w6v w7k w7v n1 o1 q1 s1 t1 u1 x1 y1 b2 f2 i2 k2 l2 m2 n2 o2 i1 k1 l1 m1 k3 i3 b3 f3 x2 y2 t2 u2 q2 s2)))<|by
 rintro p1 Aa Ab Ag Aj Ah Ai Ak Ac Br Ap Af Al Bt Bu Bw Bx At Au Av As w2 w3 w4k w4v w5k w5v w6k w6v w7k w7v h R hR;obtain⟨hH,⟨rfl,rfl,rfl⟩,⟨rfl,rfl,rfl,rfl,rfl,rfl⟩,rfl,rfl,rfl⟩:=h;have hlen:=hH.len;refine⟨rfl,rfl,(fun nb f z1 z2 z3 z4 z5 z6 z7 z8 hd cr sp y1 y2 y3 y4 y5 y6 y7 y8 y9 x1 x2 x3 x4 x5 x6 sk sv ns tr=>∃k:Nat,f=(k:Int)/\k<=p1.length/\(0<=nb/\nb<=4*k)/\(false=z1/\Au=z2/\Av=z3/\As=z4/\Aa=z5/\Ab=z6/\Ag=z7/\Aj=z8)/\(0=y1/\0=y2/\0=y3/\0=y4/\[]=y5/\0=y6/\0=y7/\[]=y8/\0=y9)/\(w7k=x1/\w7v=x2/\w6k=x3/\w6v=x4/\[]=x5/\[]=x6/\w2=tr)/\EXk ⟨ns,sk,sv,cr,sp,hd⟩ nb.toNat/\chnGo ⟨w2,Ab⟩ Aa (p1.drop k) ⟨ns,sk,sv,cr,sp,hd⟩=R),(fun _ f _ _ _ _ _ _ _ _ _ _ _ _ _ _ _ _ _ _ _ _ _ _ _ _ _ _ _ _ _ _=>(p1.length-f).toNat),⟨0,rfl,qav _,⟨by omega,by omega⟩,⟨rfl,rfl,rfl,rfl,rfl,rfl,rfl,rfl⟩,⟨rfl,rfl,rfl,rfl,rfl,rfl,rfl,rfl,rfl⟩,⟨rfl,rfl,rfl,rfl,rfl,rfl,rfl⟩,hH.x,hR⟩,?_⟩;rintro nb _ _ _ _ _ _ _ _ _ hd cr sp _ _ _ _ _ _ _ _ _ _ _ _ _ _ _ sk sv ns _ ⟨k,rfl,hk,⟨n0,n1⟩,⟨rfl,rfl,rfl,rfl,rfl,rfl,rfl,rfl⟩,⟨rfl,rfl,rfl,rfl,rfl,rfl,rfl,rfl,rfl⟩,⟨rfl,rfl,rfl,rfl,rfl,rfl,rfl⟩,hX,hg⟩;refine⟨fun e=> ?_,fun e=> ?_⟩
 ·have e:(k:Int)<p1.length:=qb e;have hkl:k<p1.length:=by omega
  have hm:=ix_mem p1 (k:Int) qqo e;rw[kmk hkl]at hg;have hh:=hH.h _ hm;have htl:=hH.tl _ hm;have htt:=hH.t _ hm;rw[inc (k:Int) p1.length qqo e qqo];generalize ix p1 (k:Int)=B at *
  refine⟨by omega,e,rfl,rfl,(fun nb2 m z1 z2 z3 z4 z5 z6 z7 z8 hd cr sp y1 y2 y3 y4 y5 y6 y7 y8 y9 x1 x2 x3 x4 x5 x6 sk sv ns tr=>∃j:Nat,m=(j:Int)/\j<=B.Txs.length/\nb2=nb+(j:Int)/\(false=z1/\Au=z2/\Av=z3/\As=z4/\Aa=z5/\Ab=z6/\Ag=z7/\Aj=z8)/\(0=y1/\0=y2/\0=y3/\0=y4/\[]=y5/\0=y6/\0=y7/\[]=y8/\0=y9)/\(w7k=x1/\w7v=x2/\w6k=x3/\w6v=x4/\[]=x5/\[]=x6/\w2=tr)/\EXk ⟨ns,sk,sv,cr,sp,hd⟩ nb2.toNat/\(if(txsGo ⟨w2,Ab⟩ Aa B.wM j (B.Txs.drop j) ⟨ns,sk,sv,cr,sp,hd⟩).f.wAI≠0 then txsGo ⟨w2,Ab⟩ Aa B.wM j (B.Txs.drop j) ⟨ns,sk,sv,cr,sp,hd⟩else chnGo ⟨w2,Ab⟩ Aa (p1.drop (k+1)) (txsGo ⟨w2,Ab⟩ Aa B.wM j (B.Txs.drop j) ⟨ns,sk,sv,cr,sp,hd⟩).x)=R),(fun _ m _ _ _ _ _ _ _ _ _ _ _ _ _ _ _ _ _ _ _ _ _ _ _ _ _ _ _ _ _ _=>(B.Txs.length-m).toNat),⟨0,rfl,qav _,by omega,⟨rfl,rfl,rfl,rfl,rfl,rfl,rfl,rfl⟩,⟨rfl,rfl,rfl,rfl,rfl,rfl,rfl,rfl,rfl⟩,⟨rfl,rfl,rfl,rfl,rfl,rfl,rfl⟩,hX,hg⟩,?_⟩;rintro _ _ _ _ _ _ _ _ _ _ hd cr sp _ _ _ _ _ _ _ _ _ _ _ _ _ _ _ sk sv ns _ ⟨j,rfl,hj,rfl,⟨rfl,rfl,rfl,rfl,rfl,rfl,rfl,rfl⟩,⟨rfl,rfl,rfl,rfl,rfl,rfl,rfl,rfl,rfl⟩,⟨rfl,rfl,rfl,rfl,rfl,rfl,rfl⟩,hX,hg⟩;refine⟨fun e2=> ?_,fun e2=> ?_⟩
  ·have e2:(j:Int)<B.Txs.length:=qb e2;have hjl:j<B.Txs.length:=by omega
   have hx:ix B.Txs (j:Int)=B.Txs[j]:=ix_get _ _ hjl;have ht:=htt _ (ix_mem B.Txs (j:Int) qqo e2);rw[qat hjl,<-hx,txsGo]at hg;rw[inc (j:Int) B.Txs.length qqo e2 qqo,wi (nb+(j:Int)+1) qqo qqo];generalize ix B.Txs (j:Int)=X at *
   have hW:((decW X.wv).2==0)=true->WR (decW X.wv).1:=decW_WR;have hc:(nb+(j:Int)).toNat<=1000:=by omega
   refine⟨by omega,e2,⟨ht.1.p,ht.2⟩,rfl,rfl,⟨⟨_,hc,hX⟩,hH.C,hh,⟨rfl,rfl,rfl⟩,ht.1,hW,hH.d1,hH.d6 (List.ne_nil_of_mem hm)⟩,fun e3=> ?_,fun e3=> ?_⟩
   ·have e3:(exTd ⟨w2,Ab⟩ Aa B.wM ⟨ns,sk,sv,cr,sp,hd⟩ X).f.wAI≠0:=bne_iff_ne.1 e3;rw[qh e3,qh e3]at hg;subst hg;exact(by repeat' first|apply qt|exact rfl|exact qm)
   ·have e3:(exTd ⟨w2,Ab⟩ Aa B.wM ⟨ns,sk,sv,cr,sp,hd⟩ X).f.wAI=0:=bne_eq_false_iff_eq.1 e3;rw[qf (fun hq:(exTd ⟨w2,Ab⟩ Aa B.wM ⟨ns,sk,sv,cr,sp,hd⟩ X).f.wAI≠0=>hq e3)]at hg;have hn:=(exTx_ok hX hc ⟨hH.d1,hH.d6 (List.ne_nil_of_mem hm)⟩ hW e3).1;rw[show(nb+(j:Int)).toNat+1=(nb+(j:Int)+1).toNat by omega]at hn;exact⟨rfl,rfl,⟨j+1,rfl,by omega,by omega,⟨rfl,rfl,rfl,rfl,rfl,rfl,rfl,rfl⟩,⟨rfl,rfl,rfl,rfl,rfl,rfl,rfl,rfl,rfl⟩,⟨rfl,rfl,rfl,rfl,rfl,rfl,rfl⟩,hn,hg⟩,by(first|omega|(dsimp only;omega))⟩
  ·have e2:¬(j:Int)<B.Txs.length:=qc e2;rw[qam qqo]at hg;have hg:chnGo ⟨w2,Ab⟩ Aa (p1.drop (k+1)) ⟨ns,sk,sv,cr,sp,hd⟩=R:=hg;exact⟨rfl,rfl,⟨k+1,rfl,by omega,⟨by omega,by omega⟩,⟨rfl,rfl,rfl,rfl,rfl,rfl,rfl,rfl⟩,⟨rfl,rfl,rfl,rfl,rfl,rfl,rfl,rfl,rfl⟩,⟨rfl,rfl,rfl,rfl,rfl,rfl,rfl⟩,hX,hg⟩,by(first|omega|(dsimp only;omega))⟩
 ·have e:¬(k:Int)<p1.length:=qc e;rw[qam qqo]at hg;have hg:EF.mk zeroF ⟨ns,sk,sv,cr,sp,hd⟩=R:=hg;subst hg;exact(by repeat' first|apply qt|exact rfl|exact qm)
noncomputable def kcu:Con TB.den:= .bp 32 [.st 17] [yqu,yqi] fun(p0:wt)=>(OkA p0.wF,totA 0 p0.wF,fun R=>(R.1,R.2,()))
theorem k52:kcu.Ok Tryz.prog TB:=qbx Bs [] Tryz.func32 (.r 1 (.nd [] (.r 0 (.lp [] ⟨[],[],[4,12],[.one (zqu),.one (zqi)],[]⟩ .no)) [] .no)) (x1 x81_ok x0) c0 (Q:=∀(p0:wt),(OkA p0.wF)->∀R,totA 0 p0.wF=R-> 
∃(I1:Int->Int->Prop) (M1:Int->Int->Nat),I1 0 0/\∀b1 f1,(I1 b1 f1->
(decide (f1<(p0.wF.length:Int))=true->
(0<=f1)/\f1<(p0.wF.length:Int)/\(0<=b1/\0<=((ix p0.wF f1).wd)/\0<=(0:Int)/\(0:Int)<=1)/\let r2:Int:=(b1+((ix p0.wF f1).wd)+(0:Int))%18446744073709551616
let r3:Int:=(b1+((ix p0.wF f1).wd)+(0:Int))/18446744073709551616
((r3 !=0)=true->
0=R.1/\3=R.2)/\
((r3 !=0)=false->
I1 r2 (i64.wrap (f1+1))/\M1 r2 (i64.wrap (f1+1))<M1 b1 f1))/\
(decide (f1<(p0.wF.length:Int))=false->
b1=R.1/\0=R.2)))<|by
 rintro p0 h R hR;subst hR;have hl:=h.2.1;refine(⟨(fun t a=>∃i:Nat,a=(i:Int)/\i<=p0.wF.length/\(0<=t/\t<18446744073709551616)/\totA t (p0.wF.drop i)=totA 0 p0.wF),(fun _ a=>(p0.wF.length-a).toNat),⟨0,rfl,by omega,by omega,rfl⟩,?_⟩);rintro t _ ⟨i,rfl,hi,ht,he⟩;refine⟨fun hc=> ?_,fun hc=> ?_⟩
 ·have hc:=qb hc;have hi' :i<p0.wF.length:=by omega
  have hb:=h.2.2 _ (qal hi');unfold AccOk at hb;rw[kov _ _ _ hi']at he;rw[ix_get _ _ hi'];refine⟨by omega,hc,⟨ht.1,by omega,by omega,by omega⟩,fun hx=> ?_,fun hx=> ?_⟩
  ·have hx:(t+p0.wF[i].wd+0)/18446744073709551616≠0:=by simpa using hx
   rw[qh qqo]at he;rw[<-he];exact⟨rfl,rfl⟩
  ·have hx:(t+p0.wF[i].wd+0)/18446744073709551616=0:=by simpa using hx
   rw[qf qqo]at he;rw[inc_i64 _ qqo];have e:(t+p0.wF[i].wd+0)%18446744073709551616=t+p0.wF[i].wd:=by omega
   rw[e];exact⟨⟨i+1,rfl,by omega,by omega,he⟩,by(dsimp only;omega)⟩
 ·have hc:=qc hc;have:i=p0.wF.length:=by omega
  subst this;rw[qev]at he;rw[<-he];exact⟨rfl,rfl⟩
noncomputable def kcm:Con TB.den:= .gp 69 [yqi] [.st 6] [] fun(p0:Int)=>(1<=p0/\p0<=12,(frF p0 []:wG),())
theorem k5f:kcm.Ok Tryz.prog TB:=qrv Bs Tryz.func69 (.r 0 (.nd [] (.jn ⟨[],[],[8],[.one (.d (.bool))],[]⟩ [] .no [] .no) [] (.r 0 (.rt [.frzc 1 0 2])))) c0 (Q:=∀(p0:Int),(1<=p0/\p0<=12)->∀r0:wG,(frF p0 [])=r0-> 
∀J1:Bool->Prop,(∀(b1:Bool),
((b1=true->
0=r0.wC/\0=r0.we/\([]:Li)=r0.wh)/\
(b1=false->
0<=i64.wrap (p0+1)/\i64.wrap (p0+1)<=i64.wrap (p0+1)/\((i64.wrap (p0+1)).toNat*8<=140737488355328)/\((i64.wrap (p0+1)).toNat<=maxLen)/\((i64.wrap (p0+1)).toNat=(List.replicate ((i64.wrap (p0+1)).toNat) (0:Int)).length)/\p0=r0.wC/\0=r0.we/\List.replicate ((i64.wrap (p0+1)).toNat) (0:Int)=r0.wh))->J1 b1)->
(decide (p0<1)=true->
J1 true)/\
(decide (p0<1)=false->
J1 (decide (12<p0))))<|by
 rintro p0 h _ rfl;refine fun J1 j=>⟨fun e=>(by have:=qb e;omega),fun e=> ?_⟩;refine j _ ⟨fun e=>(by have:=qb e;omega),fun _=> ?_⟩;obtain⟨d,rfl⟩:=qo (show 0<=p0 by omega);rw[ko _ qqo qqo];have e2:((d:Int)+1).toNat=d+1:=by omega
 rw[e2];refine⟨by omega,by omega,by omega,by unfold maxLen;omega,by simp,rfl,rfl,?_⟩;show _=leftS (d:Int).toNat [];rw[qu];refine(List.eq_replicate_iff.2 ⟨k1q _ _,fun x hx=> ?_⟩).symm;obtain⟨i,hi,rfl⟩:=qaj.1 hx;have:bitN ([]:Li).length i=false:=by simp[bitN]
 rw[qf (by rw[this];decide)]
noncomputable def kea:Con TB.den:= .t ⟨70,[],[],(.one (.one (.ptr 0 0))),yO1,false⟩ [] [.sl yqu,.sl (.bool)] [] (([]:Li),([]:Lo),())
theorem k69:kea.Ok Tryz.prog TB:=ptv Bs Tryz.func70 .no c0 (Q:=∀e1k:Li,([]:Li)=e1k->∀e1v:Lo,([]:Lo)=e1v-> 
([]:Li)=e1k/\([]:Lo)=e1v)<|by rintro _ rfl _ rfl;exact⟨rfl,rfl⟩
noncomputable def kkw:Con TB.den:= .g ⟨20,[.agg yM1],[],(.tup [.one (.ptr 0 0),.one (zqi)]),yM,true⟩ [.st 0] yP [] fun(p0:wE)=>(rulesE p0=0,(0:Int),((newS p0).R.wb:Int),((newS p0).R.wC:Int),((newS p0).R.wR:Int),((newS p0).R.wO:Int),((newS p0).R.wN:Int),((newS p0).R.wV:Int),((newS p0).R.wc:Int),((newS p0).R.wU:Int),((newS p0).R.wW:Int),((newS p0).F.wC:Int),((newS p0).F.we:Int),((newS p0).F.wh:Li),((newS p0).b:List wA),((newS p0).n:Int),((newS p0).l:Li),((newS p0).r:Li),((newS p0).p:List wK),((newS p0).k:Li),((newS p0).v:Lo),())
theorem k5r:kkw.Ok Tryz.prog TB:=prx Bs [19] Tryz.func20 (.r 3 (.rt [.rnilc 114 12 yqu,.rnilc 114 17 (.st 10)])) x0 (k15.c (k5f.c (k69.c (k2o.c c0)))) (Q:=∀(p0:wE),(rulesE p0=0)->∀r1:Int,(0:Int)=r1->∀Ay:Int,((newS p0).R.wb)=Ay->∀Aq:Int,((newS p0).R.wC)=Aq->∀Aw:Int,((newS p0).R.wR)=Aw->∀Ax:Int,((newS p0).R.wO)=Ax->∀B0:Int,((newS p0).R.wN)=B0->∀B1:Int,((newS p0).R.wV)=B1->∀Bl:Int,((newS p0).R.wc)=Bl->∀Bm:Int,((newS p0).R.wU)=Bm->∀Bn:Int,((newS p0).R.wW)=Bn->∀Bo:Int,((newS p0).F.wC)=Bo->∀Bp:Int,((newS p0).F.we)=Bp->∀A9:Li,((newS p0).F.wh)=A9->∀Ba:List wA,((newS p0).b)=Ba->∀Bq:Int,((newS p0).n)=Bq->∀e1:Li,((newS p0).l)=e1->∀e3:Li,((newS p0).r)=e3->∀e4:List wK,((newS p0).p)=e4->∀e5k:Li,((newS p0).k)=e5k->∀e5v:Lo,((newS p0).v)=e5v-> 
(((rulesE p0) !=0)=true->
False)/\
(((rulesE p0) !=0)=false->
(1<=p0.wC/\p0.wC<=12)/\(FV (frF p0.wC []))/\(0=([]:List wK).length)/\lz [(rootF (frF p0.wC []))]/\(0=([]:Li).length)/\0=r1/\p0.wb=Ay/\p0.wC=Aq/\p0.wR=Aw/\p0.wO=Ax/\p0.wN=B0/\p0.wV=B1/\p0.wc=Bl/\p0.wU=Bm/\p0.wW=Bn/\(frF p0.wC []).wC=Bo/\(frF p0.wC []).we=Bp/\(frF p0.wC []).wh=A9/\([]:List wA)=Ba/\0=Bq/\([]:Li)=e1/\[(rootF (frF p0.wC []))]=e3/\([]:List wK)=e4/\[]=e5k/\[]=e5v))<|by
 rintro p0 h;repeat rintro _ rfl
 have hb:rulesB p0=true:=by
  cases hb:rulesB p0 with
  |true=>rfl
  |false=>unfold rulesE at h;rw[hb]at h;cases h
 have hd:1<=p0.wC/\p0.wC<=12:=by simp only[rulesB,qe,qae]at hb;omega
 exact⟨fun e=>(by rw[h]at e;cases e),fun _=>⟨hd,frF_FV hd.1 hd.2 (qav _) (fun x hx=>by cases hx),rfl,rfl,rfl,rfl,rfl,rfl,rfl,rfl,rfl,rfl,rfl,rfl,rfl,rfl,rfl,rfl,rfl,rfl,rfl,rfl,rfl,rfl,rfl⟩⟩
noncomputable def kd8:Con TB.den:= .g (gk 20 [.agg yM1] [] (.tup [.one (.k .nilPtr),.one (zqi)])) [.st 0] [yqi] [] fun(p0:wE)=>(rulesE p0≠0,(rulesE p0:Int),())
theorem k36:kd8.Ok Tryz.prog TB:=prx Bs [19] Tryz.func20 (.r 3 (.rt [.rnilc 114 12 yqu,.rnilc 114 17 (.st 10)])) x0 (k15.c (k5f.c (k69.c (k2o.c c0)))) (Q:=∀(p0:wE),(rulesE p0≠0)->∀r1:Int,rulesE p0=r1-> 
(((rulesE p0) !=0)=true->
(rulesE p0)=r1)/\
(((rulesE p0) !=0)=false->
(1<=p0.wC/\p0.wC<=12)/\(FV (frF p0.wC []))/\False))<|by rintro p0 h _ rfl;exact⟨fun _=>rfl,fun e=>(h (by simpa using e)).elim⟩
noncomputable def kan:Con TB.den:= .g (gk 77 [.one (.ptr 0 0),.agg yM1,.one (.d (.sl (.st 3))),.one (.k (.fn 78))] yQ (.tup [.agg yF1,.one (zqi)])) yU yV [] fun(p1:wE) (p2:List wI) (Ad:Bool) (Aa Ae:Int) (Ab:List wB) (w1k:Lb) (w1v:Li) (w2k:Lb) (w2v:List (Li)) (w3k:Lb) (w3v:Lo)=>((BLk p2/\(p2≠[]->p1.wC<=6)/\0<=p1.wV)/\Ad=false/\w1k=([]:Lb)/\w1v=([]:Li),((exmS p1 p2).1:wAy),((exmS p1 p2).2:Int),Ad,Aa,Ae,Ab,w1k,w1v,w2k,w2v,w3k,w3v,())
abbrev Fz10 (r:Type):=Int->Int->(Li)->Int->Int->Int->Int->Int->Int->Int->Int->Int->(Li)->Int->Int->(Li)->Int->Int->Int->Int->Int->Int->Int->Int->Int->Int->Int->Int->(Li)->(List wA)->Int->Bool->Int->Int->(List wB)->(Lb)->(Lo)->(Lb)->(List (Li))->(Lb)->(Li)->(List wx)->(List wS)->(Li)->(List wP)->(Li)->(Lo)->(Li)->(Li)->(List wK)->r
theorem kct:kan.Ok Tryz.prog TB:=prv Bs Tryz.func77 (.r 3 (.nd [.tokc 13 2 (.st 19)] .no [] (.nd [] (.r 0 (.lp [.tokc 13 4 (.st 15)] ⟨[13,6,3,2,1,0,14,159,12,8,11],[.cells [.ptr 5 0,zqi,.own 6,zql,.own 7,.mp 8,zqu,zqu,zqu,zqi,zqi,zqi,zqi,zqi,zqu,.full yqu,zqu,zqu,.full yqu,zqu],.cells [zqi,zqi,zqi,zqi,zqi,zqu,zqi,zqi,zqu,zqi,zqi,zql,.row 11,.ptr 9 0,.d (.sl (.st 9)),zqu,.row 12,.row 13],.map (.str) (.bool),.map (.str) (.sl yqu),.map (.str) yqi,.cells [.d (.bool),zqu,zqi,.d (.sl (.st 4)),.mp 4,.mp 3,.mp 2],.tip (.st 19),.tip (.st 15),.map yqi (.st 14),.cells [.mp 10],.map yqu (.bool),.vec yqu,.vec yqu,.vec (.st 10)],[41],[.one (zqi)],[7,9,10]⟩ .no)) [] .no))) (k5r.c (k36.c (kim.c (k3h.c (keg.c (k51.c (k52.c (kds.c c0)))))))) (Q:=∀(p1:wE) (p2:List wI) (Ad:Bool) (Aa Ae:Int) (Ab:List wB) (w1k:Lb) (w1v:Li) (w2k:Lb) (w2v:List (Li)) (w3k:Lb) (w3v:Lo),((BLk p2/\(p2≠[]->p1.wC<=6)/\0<=p1.wV)/\Ad=false/\w1k=([]:Lb)/\w1v=([]:Li))->∀r0:wAy,((exmS p1 p2).1)=r0->∀r1:Int,((exmS p1 p2).2)=r1->∀Ay:Bool,Ad=Ay->∀Aq:Int,Aa=Aq->∀Aw:Int,Ae=Aw->∀Ax:List wB,Ab=Ax->∀e1k:Lb,w1k=e1k->∀e1v:Li,w1v=e1v->∀e2k:Lb,w2k=e2k->∀e2v:List (Li),w2v=e2v->∀e3k:Lb,w3k=e3k->∀e3v:Lo,w3v=e3v-> 
((rulesE p1=0)/\(((0:Int) !=0)=true->
0=r0.wBG/\0=r0.wBK/\0=r0.wBC/\0=r0.wBH/\0=r0.wBQ/\0=r0.wAR/\0=r0.wAb/\0=r0.wAx/\0=r0.wAU/\([]:Li)=r0.wAX/\0=r0.wAS/\0=r0.wAV/\([]:Li)=r0.wAW/\0=r0.wAT/\0=r1/\Ad=Ay/\Aa=Aq/\Ae=Aw/\Ab=Ax/\w1k=e1k/\w1v=e1v/\w2k=e2k/\w2v=e2v/\w3k=e3k/\w3v=e3v)/\
(((0:Int) !=0)=false->
lz ((newS p1).p)/\lz ((newS p1).r)/\lz ((newS p1).l)/\(((newS p1).r).length<=1000000)/\let r2:Int:=(if((newS p1).r)=[]then 0 else ix ((newS p1).r) ((((newS p1).r).length:Int)-1))
lz ([]:List wx)/\(([]:List wx).length+[wx.mk r2 0].length)*16<=140737488355328/\([]:List wx).length+[wx.mk r2 0].length<=maxLen/\lz ((newS p1).p)/\lz ((newS p1).r)/\lz ((newS p1).l)/\(([]:List wS)=([]:List wS))/\(([]:List wx)++[wx.mk r2 0]=([]:List wx)++[wx.mk r2 0])/\∃(I1:Fz10 Prop) (M1:Fz10 Nat),I1 0 p1.wC ([]:Li) 0 0 0 0 0 0 0 0 0 ([]:Li) 0 0 ([]:Li) 0 ((newS p1).R.wb) ((newS p1).R.wC) ((newS p1).R.wR) ((newS p1).R.wO) ((newS p1).R.wN) ((newS p1).R.wV) ((newS p1).R.wc) ((newS p1).R.wU) ((newS p1).R.wW) ((newS p1).F.wC) ((newS p1).F.we) ((newS p1).F.wh) ((newS p1).b) ((newS p1).n) Ad Aa Ae Ab w3k w3v w2k w2v w1k w1v (([]:List wx)++[wx.mk r2 0]) ([]:List wS) ([]:Li) ([]:List wP) ((newS p1).k) ((newS p1).v) ((newS p1).l) ((newS p1).r) ((newS p1).p)/\∀b1 f1 i1 k1 l1 m1 n1 o1 q1 s1 t1 u1 x1 y1 b2 f2 i2 k2 l2 m2 n2 o2 q2 s2 t2 u2 x2 y2 b3 f3 i3 k3 l3 m3 n3 o3 q3 s3 t3 u3 x3 y3 b4 f4 i4 k4 l4 m4 n4 o4,(I1 b1 f1 i1 k1 l1 m1 n1 o1 q1 s1 t1 u1 x1 y1 b2 f2 i2 k2 l2 m2 n2 o2 q2 s2 t2 u2 x2 y2 b3 f3 i3 k3 l3 m3 n3 o3 q3 s3 t3 u3 x3 y3 b4 f4 i4 k4 l4 m4 n4 o4->
(decide (b1<(p2.length:Int))=true->
(0<=b1)/\b1<(p2.length:Int)/\lz o4/\lz n4/\lz m4/\((∃c:Nat,c+(ix p2 b1).Txs.length<=790/\PI (PS.mk (wE.mk k2 l2 m2 n2 o2 q2 s2 t2 u2) (wG.mk x2 y2 b3) f3 i3 m4 n4 o4 k4 l4) c 0)/\BR' (ix p2 b1))/\let r3:Int:=((applyS (PS.mk (wE.mk k2 l2 m2 n2 o2 q2 s2 t2 u2) (wG.mk x2 y2 b3) f3 i3 m4 n4 o4 k4 l4) (ix p2 b1)).e)
let r4:=(applyS (PS.mk (wE.mk k2 l2 m2 n2 o2 q2 s2 t2 u2) (wG.mk x2 y2 b3) f3 i3 m4 n4 o4 k4 l4) (ix p2 b1)).s
((r3 !=0)=true->
0=r0.wBG/\0=r0.wBK/\0=r0.wBC/\0=r0.wBH/\0=r0.wBQ/\0=r0.wAR/\0=r0.wAb/\0=r0.wAx/\0=r0.wAU/\([]:Li)=r0.wAX/\0=r0.wAS/\0=r0.wAV/\([]:Li)=r0.wAW/\0=r0.wAT/\r3=r1/\k3=Ay/\l3=Aq/\m3=Aw/\n3=Ax/\u3=e1k/\x3=e1v/\s3=e2k/\t3=e2v/\o3=e3k/\q3=e3v)/\
((r3 !=0)=false->
lz r4.p/\lz r4.r/\lz r4.l/\(r4.l.length<=1000000)/\lz r4.p/\lz r4.r/\lz r4.l/\(r4.r.length<=1000000)/\let r5:Int:=(if r4.r=[]then 0 else ix r4.r ((r4.r.length:Int)-1))
lz y3/\(y3.length+[wx.mk r5 (r4.l.length:Int)].length)*16<=140737488355328/\y3.length+[wx.mk r5 (r4.l.length:Int)].length<=maxLen/\lz r4.p/\lz r4.r/\lz r4.l/\(b4=b4)/\(y3++[wx.mk r5 (r4.l.length:Int)]=y3++[wx.mk r5 (r4.l.length:Int)])/\I1 (i64.wrap (b1+1)) f1 r4.l k1 l1 m1 n1 o1 q1 s1 t1 u1 x1 y1 b2 f2 i2 r4.R.wb r4.R.wC r4.R.wR r4.R.wO r4.R.wN r4.R.wV r4.R.wc r4.R.wU r4.R.wW r4.F.wC r4.F.we r4.F.wh r4.b r4.n k3 l3 m3 n3 o3 q3 s3 t3 u3 x3 (y3++[wx.mk r5 (r4.l.length:Int)]) b4 f4 i4 r4.k r4.v r4.l r4.r r4.p/\M1 (i64.wrap (b1+1)) f1 r4.l k1 l1 m1 n1 o1 q1 s1 t1 u1 x1 y1 b2 f2 i2 r4.R.wb r4.R.wC r4.R.wR r4.R.wO r4.R.wN r4.R.wV r4.R.wc r4.R.wU r4.R.wW r4.F.wC r4.F.we r4.F.wh r4.b r4.n k3 l3 m3 n3 o3 q3 s3 t3 u3 x3 (y3++[wx.mk r5 (r4.l.length:Int)]) b4 f4 i4 r4.k r4.v r4.l r4.r r4.p<M1 b1 f1 i1 k1 l1 m1 n1 o1 q1 s1 t1 u1 x1 y1 b2 f2 i2 k2 l2 m2 n2 o2 q2 s2 t2 u2 x2 y2 b3 f3 i3 k3 l3 m3 n3 o3 q3 s3 t3 u3 x3 y3 b4 f4 i4 k4 l4 m4 n4 o4))/\
(decide (b1<(p2.length:Int))=false->
lz o4/\lz n4/\lz m4/\(f3.length<=100000)/\(OkA (wt.mk f3).wF)/\let v6:Bool:=(((totA 0 (wt.mk f3).wF).2) !=0)
(v6=true->
0=r0.wBG/\0=r0.wBK/\0=r0.wBC/\0=r0.wBH/\0=r0.wBQ/\0=r0.wAR/\0=r0.wAb/\0=r0.wAx/\0=r0.wAU/\([]:Li)=r0.wAX/\0=r0.wAS/\0=r0.wAV/\([]:Li)=r0.wAW/\0=r0.wAT/\((totA 0 (wt.mk f3).wF).2)=r1/\k3=Ay/\l3=Aq/\m3=Aw/\n3=Ax/\u3=e1k/\x3=e1v/\s3=e2k/\t3=e2v/\o3=e3k/\q3=e3v)/\
(v6=false->
(b4=b4)/\(y3=y3)/\(CHk f1 p2 y3 i1 ⟨b4,f4,i4,n1,o1,m1⟩/\(k3=false/\u3=[]/\x3=[])/\(q1=0/\s1=0/\t1=0/\u1=0/\x1=[]/\y1=0)/\b2=0/\f2=[]/\i2=0)/\let r7:=chnGo ⟨y3,i1⟩ f1 p2 ⟨b4,f4,i4,n1,o1,m1⟩
let v8:Int:=u64.wrap ((u64.wrap (p2.length:Int))*p1.wV)
v8=r0.wBG/\((totA 0 (wt.mk f3).wF).1)=r0.wBK/\r7.x.hd=r0.wBC/\r7.x.cr=r0.wBH/\r7.x.sp=r0.wBQ/\r7.f.wAI=r0.wAR/\r7.f.wM=r0.wAb/\r7.f.Tx=r0.wAx/\r7.f.wAF=r0.wAU/\r7.f.wAC=r0.wAX/\r7.f.wz=r0.wAS/\r7.f.wAL=r0.wAV/\r7.f.wAJ=r0.wAW/\r7.f.wAD=r0.wAT/\0=r1/\k3=Ay/\l3=Aq/\m3=Aw/\n3=Ax/\u3=e1k/\x3=e1v/\s3=e2k/\t3=e2v/\o3=e3k/\q3=e3v)))))∨((rulesE p1≠0)/\(((rulesE p1) !=0)=true->
0=r0.wBG/\0=r0.wBK/\0=r0.wBC/\0=r0.wBH/\0=r0.wBQ/\0=r0.wAR/\0=r0.wAb/\0=r0.wAx/\0=r0.wAU/\([]:Li)=r0.wAX/\0=r0.wAS/\0=r0.wAV/\([]:Li)=r0.wAW/\0=r0.wAT/\(rulesE p1)=r1/\Ad=Ay/\Aa=Aq/\Ae=Aw/\Ab=Ax/\w1k=e1k/\w1v=e1v/\w2k=e2k/\w2v=e2v/\w3k=e3k/\w3v=e3v)/\
(((rulesE p1) !=0)=false->
False)))<|by
 rintro p1 p2 Ad Aa Ae Ab w1k w1v w2k w2v w3k w3v h;repeat rintro _ rfl
 obtain⟨⟨hl,h6,hw⟩,rfl,rfl,rfl⟩:=h;have h8:=hl.len;by_cases hE:rulesE p1=0
 ·refine .inl ⟨hE,fun e=>(by cases e),fun _=> ?_⟩;generalize hG:exmS p1 p2=G;have hP:PI (newS p1) 0 0:=new_PI hE hw;refine⟨rfl,rfl,rfl,(by show(1:Nat)<=_;omega),rfl,(by show(0+1)*16<=_;omega),(by show 0+1<=maxLen;unfold maxLen;omega),rfl,rfl,rfl,rfl,rfl,?_⟩;refine⟨(fun i f1 i1 k1 l1 m1 n1 o1 q1 s1 t1 u1 x1 y1 b2 f2 i2 k2 l2 m2 n2 o2 q2 s2 t2 u2 x2 y2 b3 f3 i3 k3 l3 m3 n3 o3 q3 s3 t3 u3 x3 y3 b4 f4 i4 k4 l4 m4 n4 o4=>∃k:Nat,i=(k:Int)/\k<=p2.length/\(p1.wC=f1/\m4=i1/\0=k1/\0=l1/\0=m1/\0=n1/\0=o1/\0=q1/\0=s1/\0=t1/\0=u1/\[]=x1/\0=y1/\0=b2/\[]=f2)/\(0=i2/\[]=b4/\[]=f4/\[]=i4/\false=k3/\Aa=l3/\Ae=m3/\Ab=n3/\w3k=o3/\w3v=q3)/\(w2k=s3/\w2v=t3/\[]=u3/\[]=x3)/\y3.length=k+1/\(∀t∈y3,0<=t.leaves/\t.leaves<=m4.length)/\(∀j:Nat,j<k->(ix p2 (j:Int)).wM=(j:Int)+1)/\o4.length=k/\PI (PS.mk (wE.mk k2 l2 m2 n2 o2 q2 s2 t2 u2) (wG.mk x2 y2 b3) f3 i3 m4 n4 o4 k4 l4) (5*k) 0/\y3++trGo (p2.drop k) (PS.mk (wE.mk k2 l2 m2 n2 o2 q2 s2 t2 u2) (wG.mk x2 y2 b3) f3 i3 m4 n4 o4 k4 l4)=treS (newS p1)::trGo p2 (newS p1)/\auGo (p2.drop k) (PS.mk (wE.mk k2 l2 m2 n2 o2 q2 s2 t2 u2) (wG.mk x2 y2 b3) f3 i3 m4 n4 o4 k4 l4)=auGo p2 (newS p1)),(fun i _ _ _ _ _ _ _ _ _ _ _ _ _ _ _ _ _ _ _ _ _ _ _ _ _ _ _ _ _ _ _ _ _ _ _ _ _ _ _ _ _ _ _ _ _ _ _ _ _=>(p2.length-i).toNat),⟨0,rfl,qav _,⟨rfl,rfl,rfl,rfl,rfl,rfl,rfl,rfl,rfl,rfl,rfl,rfl,rfl,rfl,rfl⟩,⟨rfl,rfl,rfl,rfl,rfl,rfl,rfl,rfl,rfl,rfl⟩,⟨rfl,rfl,rfl,rfl⟩,rfl,(fun t ht=>by rw[qaf.1 ht];exact⟨qce _,qce _⟩),(fun j hj=>by omega),rfl,hP,rfl,rfl⟩,?_⟩;rintro _ _ _ _ _ _ _ _ _ _ _ _ _ _ _ _ _ k2 l2 m2 n2 o2 q2 s2 t2 u2 x2 y2 b3 f3 i3 _ _ _ _ _ _ _ _ _ _ y3 _ _ _ k4 l4 m4 n4 o4 ⟨k,rfl,g1,⟨rfl,rfl,rfl,rfl,rfl,rfl,rfl,rfl,rfl,rfl,rfl,rfl,rfl,rfl,rfl⟩,⟨rfl,rfl,rfl,rfl,rfl,rfl,rfl,rfl,rfl,rfl⟩,⟨rfl,rfl,rfl,rfl⟩,hy3,hyl,hhe,hol,hPI,htr,hgo⟩;refine⟨fun hh=> ?_,fun hh=> ?_⟩
  ·have hk:k<p2.length:=by have:=qb hh;omega
   have hx:ix p2 (k:Int)=p2[k]:=ix_get _ _ hk;have hmem:p2[k]∈p2:=qal hk;have htx:=hl.tl _ hmem;have hbr:BR' p2[k]:=hl.r _ hmem;rw[kom hk]at hgo;rw[knl hk]at htr;rw[hx,inc (k:Int) p2.length qqo qqo qqo];refine⟨by omega,by omega,rfl,rfl,rfl,⟨⟨5*k,by omega,hPI⟩,hbr⟩,?_⟩;dsimp only;refine⟨fun e=> ?_,fun e=> ?_⟩
   ·have e:¬(applyS (PS.mk (wE.mk k2 l2 m2 n2 o2 q2 s2 t2 u2) (wG.mk x2 y2 b3) f3 i3 m4 n4 o4 k4 l4) p2[k]).e=0:=by simpa using e
    rw[qf e]at hgo;have hG2:G=(zeroR,(applyS (PS.mk (wE.mk k2 l2 m2 n2 o2 q2 s2 t2 u2) (wG.mk x2 y2 b3) f3 i3 m4 n4 o4 k4 l4) p2[k]).e):=by rw[<-hG];unfold exmS;rw[qh hE,<-hgo];exact qf e
    subst hG2;exact(by repeat' first|apply qt|exact rfl|exact qm)
   ·have e:(applyS (PS.mk (wE.mk k2 l2 m2 n2 o2 q2 s2 t2 u2) (wG.mk x2 y2 b3) f3 i3 m4 n4 o4 k4 l4) p2[k]).e=0:=by simpa using e
    rw[qh e]at hgo;have hlm:=kgh hPI qqo hbr e;have hz:=k2i e;have hP2:=(k7c hPI qqo hbr e).mono (d:=5*(k+1)) qqo;have hlm:m4.length<=_:=hlm;have a1:=hP2.ll;have a2:=hP2.rl;have a3:=hP2.p;have a4:=pow12 (applyS (PS.mk (wE.mk k2 l2 m2 n2 o2 q2 s2 t2 u2) (wG.mk x2 y2 b3) f3 i3 m4 n4 o4 k4 l4) p2[k]).s.R.wC.toNat (by have:=hP2.d2;omega);have a5:p2[k].wM=(o4.length:Int)+1:=hz.1;have a6:(applyS (PS.mk (wE.mk k2 l2 m2 n2 o2 q2 s2 t2 u2) (wG.mk x2 y2 b3) f3 i3 m4 n4 o4 k4 l4) p2[k]).s.p.length=o4.length+1:=hz.2.1;refine⟨by trivial,by trivial,by trivial,by omega,by trivial,by trivial,by trivial,by omega,by trivial,?_,?_,by trivial,by trivial,by trivial,by trivial,by trivial,⟨k+1,rfl,by omega,⟨rfl,rfl,rfl,rfl,rfl,rfl,rfl,rfl,rfl,rfl,rfl,rfl,rfl,rfl,rfl⟩,⟨rfl,rfl,rfl,rfl,rfl,rfl,rfl,rfl,rfl,rfl⟩,⟨rfl,rfl,rfl,rfl⟩,?_,?_,?_,by omega,hP2,?_,hgo⟩,by(first|omega|(dsimp only;omega))⟩
    ·simp only[qr,qaq];omega
    ·simp only[qr,qaq];unfold maxLen;omega
    ·rw[qi,hy3];rfl
    ·intro t ht;rcases qac.1 ht with ht|ht
     ·have:=hyl t ht;exact⟨this.1,by omega⟩
     ·rw[qaf.1 ht];exact⟨qds _,qce _⟩
    ·intro j hj;by_cases hjk:j=k
     ·subst hjk;rw[hx,a5,hol]
     ·exact hhe j qqo
    ·rw[<-htr,qw];rfl
  ·have hk:k=p2.length:=by have:=qc hh;omega
   subst hk;rw[qev]at hgo htr;have hgo:(⟨0,(PS.mk (wE.mk k2 l2 m2 n2 o2 q2 s2 t2 u2) (wG.mk x2 y2 b3) f3 i3 m4 n4 o4 k4 l4)⟩:PE)=auGo p2 (newS p1):=hgo;have htr:y3++[]=treS (newS p1)::trGo p2 (newS p1):=htr;rw[qcd]at htr;have hbl:=hPI.b.2.2;have ht:=(sup_PI hPI qqo).1;have hCl:(exmC p1 p2)=⟨y3,m4⟩:=by unfold exmC;rw[<-htr,<-hgo]
   have hG2:G=(wAy.mk (u64.wrap (u64.wrap (p2.length:Int)*p1.wV)) (totA 0 f3).1 (chnGo ⟨y3,m4⟩ p1.wC p2 ex0).x.hd (chnGo ⟨y3,m4⟩ p1.wC p2 ex0).x.cr (chnGo ⟨y3,m4⟩ p1.wC p2 ex0).x.sp (chnGo ⟨y3,m4⟩ p1.wC p2 ex0).f.wAI (chnGo ⟨y3,m4⟩ p1.wC p2 ex0).f.wM (chnGo ⟨y3,m4⟩ p1.wC p2 ex0).f.Tx (chnGo ⟨y3,m4⟩ p1.wC p2 ex0).f.wAF (chnGo ⟨y3,m4⟩ p1.wC p2 ex0).f.wAC (chnGo ⟨y3,m4⟩ p1.wC p2 ex0).f.wz (chnGo ⟨y3,m4⟩ p1.wC p2 ex0).f.wAL (chnGo ⟨y3,m4⟩ p1.wC p2 ex0).f.wAJ (chnGo ⟨y3,m4⟩ p1.wC p2 ex0).f.wAD,0):=by rw[<-hG];unfold exmS exmY;rw[qh hE,hCl,<-hgo];rfl
   have ht2:(totA 0 f3).2=0:=by have:totA 0 f3=(sumA f3,0):=ht;rw[this]
   have hll:=hPI.ll;have hp12:=pow12 l2.toNat (by have:=hPI.d2;have:l2<=12:=this;omega);have hll:m4.length<=2^l2.toNat:=hll;have hd1:1<=p1.wC:=hP.d1
   have hH:CHk p1.wC p2 y3 m4 ⟨[],[],[],0,0,0⟩:=by
    refine⟨⟨hyl,fun x hx=> ?_,?_⟩,hd1,h6,fun b hb=> ?_,hl.tl,fun b hb t ht=> ?_,h8,ex0_k⟩
    ·have:=hPI.l x hx;exact⟨this.1,by have:=this.2;omega⟩
    ·show m4.length<=4096;omega
    ·obtain⟨j,hj,rfl⟩:=qbt hb;have:=hhe j hj;rw[ix_get _ _ hj]at this;rw[this,hy3];exact⟨by omega,by omega,by omega⟩
    ·have h1:=(hl.r b hb).t t ht;have h2:=((hl.r b hb).l t ht).p;exact⟨h1,by omega⟩
   refine⟨rfl,rfl,rfl,(by have:f3.length<=_:=hbl;omega),hPI.b.1,?_⟩;subst hG2;refine⟨fun e=> ?_,fun e=> ?_⟩
   ·exfalso;have e:((totA 0 f3).2 !=0)=true:=e;rw[ht2]at e;cases e
   ·exact⟨rfl,rfl,⟨hH,⟨rfl,rfl,rfl⟩,⟨rfl,rfl,rfl,rfl,rfl,rfl⟩,rfl,rfl,rfl⟩,(by repeat' first|apply qt|exact rfl|exact qm)⟩
 ·refine .inr ⟨hE,fun e=> ?_,fun e=>(hE (by simpa using e)).elim⟩;have hG2:exmS p1 p2=(zeroR,rulesE p1):=qf hE;rw[hG2];exact(by repeat' first|apply qt|exact rfl|exact qm)
noncomputable def kdr:Con TB.den:= .b (gk 30 [.one (.ptr 0 0),.agg yM1,.one (.d (.sl (.st 3)))] yQ (.tup [.agg yF1,.one (zqi)])) yU yV fun(p1:wE) (p2:List wI) (Ad:Bool) (Aa Ae:Int) (Ab:List wB) (w1k:Lb) (w1v:Li) (w2k:Lb) (w2v:List (Li)) (w3k:Lb) (w3v:Lo)=>((BLk p2/\(p2≠[]->p1.wC<=6)/\0<=p1.wV)/\Ad=false/\w1k=([]:Lb)/\w1v=([]:Li),audS false p1 p2,fun R=>(R.1,R.2,Ad,Aa,Ae,Ab,w1k,w1v,w2k,w2v,w3k,w3v,()))
theorem k61:kdr.Ok Tryz.prog TB:=pbv Bs Tryz.func30 (.r 1 (.nd [] (.jn ⟨[3,2,1,0],yR,[21],[.one (.d (.bool))],[]⟩ [] .no [] .no) [] .no)) (k15.c (k1o.c (kct.c c0))) (Q:=∀(p1:wE) (p2:List wI) (Ad:Bool) (Aa Ae:Int) (Ab:List wB) (w1k:Lb) (w1v:Li) (w2k:Lb) (w2v:List (Li)) (w3k:Lb) (w3v:Lo),((BLk p2/\(p2≠[]->p1.wC<=6)/\0<=p1.wV)/\Ad=false/\w1k=([]:Lb)/\w1v=([]:Li))->∀R,audS false p1 p2=R-> 
(((rulesE p1) !=0)=true->
0=R.1.wBG/\0=R.1.wBK/\0=R.1.wBC/\0=R.1.wBH/\0=R.1.wBQ/\0=R.1.wAR/\0=R.1.wAb/\0=R.1.wAx/\0=R.1.wAU/\([]:Li)=R.1.wAX/\0=R.1.wAS/\0=R.1.wAV/\([]:Li)=R.1.wAW/\0=R.1.wAT/\(rulesE p1)=R.2/\Ad=Ad/\Aa=Aa/\Ae=Ae/\Ab=Ab/\w1k=w1k/\w1v=w1v/\w2k=w2k/\w2v=w2v/\w3k=w3k/\w3v=w3v)/\
(((rulesE p1) !=0)=false->
∀J1:Bool->Bool->Int->Int->(List wB)->(Lb)->(Lo)->(Lb)->(List (Li))->(Lb)->(Li)->Prop,(∀(b1 f1:Bool) (i1 k1:Int) (l1:List wB) (m1:Lb) (n1:Lo) (o1:Lb) (q1:List (Li)) (s1:Lb) (t1:Li),
((b1=true->
0=R.1.wBG/\0=R.1.wBK/\0=R.1.wBC/\0=R.1.wBH/\0=R.1.wBQ/\0=R.1.wAR/\0=R.1.wAb/\0=R.1.wAx/\0=R.1.wAU/\([]:Li)=R.1.wAX/\0=R.1.wAS/\0=R.1.wAV/\([]:Li)=R.1.wAW/\0=R.1.wAT/\1=R.2/\f1=Ad/\i1=Aa/\k1=Ae/\l1=Ab/\s1=w1k/\t1=w1v/\o1=w2k/\q1=w2v/\m1=w3k/\n1=w3v)/\
(b1=false->
((BLk p2/\(p2≠[]->p1.wC<=6)/\0<=p1.wV)/\f1=false/\s1=([]:Lb)/\t1=([]:Li))/\((exmS p1 p2).1).wBG=R.1.wBG/\((exmS p1 p2).1).wBK=R.1.wBK/\((exmS p1 p2).1).wBC=R.1.wBC/\((exmS p1 p2).1).wBH=R.1.wBH/\((exmS p1 p2).1).wBQ=R.1.wBQ/\((exmS p1 p2).1).wAR=R.1.wAR/\((exmS p1 p2).1).wAb=R.1.wAb/\((exmS p1 p2).1).wAx=R.1.wAx/\((exmS p1 p2).1).wAU=R.1.wAU/\((exmS p1 p2).1).wAX=R.1.wAX/\((exmS p1 p2).1).wAS=R.1.wAS/\((exmS p1 p2).1).wAV=R.1.wAV/\((exmS p1 p2).1).wAW=R.1.wAW/\((exmS p1 p2).1).wAT=R.1.wAT/\((exmS p1 p2).2)=R.2/\f1=Ad/\i1=Aa/\k1=Ae/\l1=Ab/\s1=w1k/\t1=w1v/\o1=w2k/\q1=w2v/\m1=w3k/\n1=w3v))->J1 b1 f1 i1 k1 l1 m1 n1 o1 q1 s1 t1)->
((p1.wb !=2)=true->
J1 true Ad Aa Ae Ab w3k w3v w2k w2v w1k w1v)/\
((p1.wb !=2)=false->
J1 Ad Ad Aa Ae Ab w3k w3v w2k w2v w1k w1v)))<|by
 rintro p1 p2 Ad Aa Ae Ab w1k w1v w2k w2v w3k w3v h R hR;obtain⟨hB,rfl,rfl,rfl⟩:=h;have hG:=hR;unfold audS at hG;refine⟨fun e=> ?_,fun e=> ?_⟩
 ·rw[qh (by simpa using e)]at hG;subst hG;exact(by repeat' first|apply qt|exact rfl|exact qm)
 ·have e:rulesE p1=0:=by simpa using e
  rw[qf (by simp[e])]at hG;intro J1 k1
  have j:∀b:Bool,(b=true↔(p1.wb≠2∨false=true))->J1 b false Aa Ae Ab w3k w3v w2k w2v [] []:=fun b hb2=>k1 _ _ _ _ _ _ _ _ _ _ _ ⟨fun eb=>by
    rw[qh (hb2.1 eb)]at hG;subst hG;exact(by repeat' first|apply qt|exact rfl|exact qm),fun eb=>by
    have hn:¬(p1.wb≠2∨false=true):=fun hh=>by rw[hb2.2 hh]at eb;cases eb
    rw[qf hn]at hG;subst hG;exact⟨⟨hB,rfl,rfl,rfl⟩,(by repeat' first|apply qt|exact rfl|exact qm)⟩⟩
  exact⟨fun em=>j true ⟨fun _=> .inl (by simpa using em),fun _=>rfl⟩,fun em=>j false ⟨fun hh=>(by cases hh),fun hh=>hh.elim (fun h2=>(h2 (by simpa using em)).elim) id⟩⟩
noncomputable def kht:Con TB.den:= .g ⟨11,[.one (.ptr 0 0),.agg yM1],yQ,(.tup [.one (.ptr 4 0),.one (zqi)]),[.cells [.d (.bool),zqu,zqi,.d (.sl (.st 4)),.mp 1,.mp 2,.mp 3],.map (.str) yqi,.map (.str) (.sl yqu),.map (.str) (.bool),.cells [.ptr 0 0,zqi,zqi,zqi,zqi,zqi,zqu,zqi,zqi,zqu,.mp 5,zql,.ptr 6 0,zqu,zqi],.map yqu (.st 11),.cells yX,.vec yqu,.cells [.mp 11],.vec yqu,.vec (.st 10),.map yqu (.bool)],true⟩ yZ (.int .i64:: .bool:: .int .u64:: .int .i64:: .sl (.st 4):: .int .i64:: .int .i64:: .int .i64:: .int .i64:: .int .i64:: .int .u64:: .int .i64:: .int .i64:: .int .u64::[.sl yqu,yqu,yqi,yqi,yqi,yqi,yqi,yqi,yqu,yqi,yqi,yqu,yqi,yqi,.sl yqu,.sl (.st 9),yqu,.sl (.str),.sl yqi,.sl (.str),.sl (.sl yqu),.sl (.str),.sl (.bool),.sl yqu,.sl (.st 11),.sl yqu,.sl yqu,.sl (.st 10),.sl yqu,.sl (.bool)]) [] fun(p1:wE) (Ad:Bool) (Aa Ae:Int) (Ab:List wB) (w1k:Lb) (w1v:Li) (w2k:Lb) (w2v:List (Li)) (w3k:Lb) (w3v:Lo)=>(rulesE p1=0/\p1.wb=2/\Ad=false,(0:Int),Ad,Aa,Ae,Ab,p1.wb,p1.wC,p1.wR,p1.wO,p1.wN,p1.wV,p1.wc,p1.wU,p1.wW,(([]:Li):Li),(0:Int),(0:Int),((newS p1).R.wb:Int),((newS p1).R.wC:Int),((newS p1).R.wR:Int),((newS p1).R.wO:Int),((newS p1).R.wN:Int),((newS p1).R.wV:Int),((newS p1).R.wc:Int),((newS p1).R.wU:Int),((newS p1).R.wW:Int),((newS p1).F.wC:Int),((newS p1).F.we:Int),((newS p1).F.wh:Li),((newS p1).b:List wA),((newS p1).n:Int),w1k,w1v,w2k,w2v,w3k,w3v,(([]:Li):Li),(([]:List wL):List wL),((newS p1).l:Li),((newS p1).r:Li),((newS p1).p:List wK),((newS p1).k:Li),((newS p1).v:Lo),())
theorem k9y:kht.Ok Tryz.prog TB:=prv Bs Tryz.func11 .no (k15.c (k1o.c (k5r.c (k36.c c0)))) (Q:=∀(p1:wE) (Ad:Bool) (Aa Ae:Int) (Ab:List wB) (w1k:Lb) (w1v:Li) (w2k:Lb) (w2v:List (Li)) (w3k:Lb) (w3v:Lo),(rulesE p1=0/\p1.wb=2/\Ad=false)->∀r1:Int,(0:Int)=r1->∀Ay:Bool,Ad=Ay->∀Aq:Int,Aa=Aq->∀Aw:Int,Ae=Aw->∀Ax:List wB,Ab=Ax->∀d4_1:Int,p1.wb=d4_1->∀d4_2:Int,p1.wC=d4_2->∀d4_3:Int,p1.wR=d4_3->∀d4_4:Int,p1.wO=d4_4->∀d4_5:Int,p1.wN=d4_5->∀d4_6:Int,p1.wV=d4_6->∀d4_7:Int,p1.wc=d4_7->∀d4_8:Int,p1.wU=d4_8->∀d4_9:Int,p1.wW=d4_9->∀d4_11:Li,(([]:Li):Li)=d4_11->∀d4_13:Int,(0:Int)=d4_13->∀d4_14:Int,(0:Int)=d4_14->∀d6_0:Int,((newS p1).R.wb)=d6_0->∀d6_1:Int,((newS p1).R.wC)=d6_1->∀d6_2:Int,((newS p1).R.wR)=d6_2->∀d6_3:Int,((newS p1).R.wO)=d6_3->∀d6_4:Int,((newS p1).R.wN)=d6_4->∀d6_5:Int,((newS p1).R.wV)=d6_5->∀d6_6:Int,((newS p1).R.wc)=d6_6->∀d6_7:Int,((newS p1).R.wU)=d6_7->∀d6_8:Int,((newS p1).R.wW)=d6_8->∀d6_9:Int,((newS p1).F.wC)=d6_9->∀d6_10:Int,((newS p1).F.we)=d6_10->∀d6_11:Li,((newS p1).F.wh)=d6_11->∀d6_14:List wA,((newS p1).b)=d6_14->∀d6_15:Int,((newS p1).n)=d6_15->∀e1k:Lb,w1k=e1k->∀e1v:Li,w1v=e1v->∀e2k:Lb,w2k=e2k->∀e2v:List (Li),w2v=e2v->∀e3k:Lb,w3k=e3k->∀e3v:Lo,w3v=e3v->∀e5k:Li,(([]:Li):Li)=e5k->∀e5v:List wL,(([]:List wL):List wL)=e5v->∀e7:Li,((newS p1).l)=e7->∀e9:Li,((newS p1).r)=e9->∀e10:List wK,((newS p1).p)=e10->∀e11k:Li,((newS p1).k)=e11k->∀e11v:Lo,((newS p1).v)=e11v-> 
(((rulesE p1) !=0)=true->
False)/\
(((rulesE p1) !=0)=false->
((!(Ad==(p1.wb==3)))=true->
False)/\
((!(Ad==(p1.wb==3)))=false->
((rulesE p1=0)/\(((0:Int) !=0)=true->
False)/\
(((0:Int) !=0)=false->
lz ((newS p1).p)/\lz ((newS p1).r)/\lz ((newS p1).l)/\0=r1/\Ad=Ay/\Aa=Aq/\Ae=Aw/\Ab=Ax/\p1.wb=d4_1/\p1.wC=d4_2/\p1.wR=d4_3/\p1.wO=d4_4/\p1.wN=d4_5/\p1.wV=d4_6/\p1.wc=d4_7/\p1.wU=d4_8/\p1.wW=d4_9/\([]:Li)=d4_11/\0=d4_13/\0=d4_14/\((newS p1).R.wb)=d6_0/\((newS p1).R.wC)=d6_1/\((newS p1).R.wR)=d6_2/\((newS p1).R.wO)=d6_3/\((newS p1).R.wN)=d6_4/\((newS p1).R.wV)=d6_5/\((newS p1).R.wc)=d6_6/\((newS p1).R.wU)=d6_7/\((newS p1).R.wW)=d6_8/\((newS p1).F.wC)=d6_9/\((newS p1).F.we)=d6_10/\((newS p1).F.wh)=d6_11/\((newS p1).b)=d6_14/\((newS p1).n)=d6_15/\w1k=e1k/\w1v=e1v/\w2k=e2k/\w2v=e2v/\w3k=e3k/\w3v=e3v/\([]:Li)=e5k/\([]:List wL)=e5v/\((newS p1).l)=e7/\((newS p1).r)=e9/\((newS p1).p)=e10/\((newS p1).k)=e11k/\((newS p1).v)=e11v))∨((rulesE p1≠0)/\(((rulesE p1) !=0)=true->
False)/\
(((rulesE p1) !=0)=false->
False)))))<|by
 rintro p1 Ad Aa Ae Ab w1k w1v w2k w2v w3k w3v h;repeat rintro _ rfl
 obtain⟨h1,h2,rfl⟩:=h;refine⟨fun e=>(by simp[h1]at e),fun _=>⟨fun e=>(by simp[h2]at e),fun _=> .inl ⟨h1,fun e=>(by cases e),fun _=> ?_⟩⟩⟩;exact(by repeat' first|apply qt|exact rfl|exact qm)
noncomputable def kcz:Con TB.den:= .g (gk 11 [.one (.ptr 0 0),.agg yM1] yQ (.tup [.one (.k .nilPtr),.one (zqi)])) yZ yA1 [] fun(p1:wE) (Ad:Bool) (Aa Ae:Int) (Ab:List wB) (w1k:Lb) (w1v:Li) (w2k:Lb) (w2v:List (Li)) (w3k:Lb) (w3v:Lo)=>(rulesE p1≠0,(rulesE p1:Int),Ad,Aa,Ae,Ab,w1k,w1v,w2k,w2v,w3k,w3v,())
theorem k5b:kcz.Ok Tryz.prog TB:=prv Bs Tryz.func11 .no (k15.c (k1o.c (k5r.c (k36.c c0)))) (Q:=∀(p1:wE) (Ad:Bool) (Aa Ae:Int) (Ab:List wB) (w1k:Lb) (w1v:Li) (w2k:Lb) (w2v:List (Li)) (w3k:Lb) (w3v:Lo),(rulesE p1≠0)->∀r1:Int,rulesE p1=r1->∀Ay:Bool,Ad=Ay->∀Aq:Int,Aa=Aq->∀Aw:Int,Ae=Aw->∀Ax:List wB,Ab=Ax->∀e1k:Lb,w1k=e1k->∀e1v:Li,w1v=e1v->∀e2k:Lb,w2k=e2k->∀e2v:List (Li),w2v=e2v->∀e3k:Lb,w3k=e3k->∀e3v:Lo,w3v=e3v-> 
(((rulesE p1) !=0)=true->
(rulesE p1)=r1/\Ad=Ay/\Aa=Aq/\Ae=Aw/\Ab=Ax/\w1k=e1k/\w1v=e1v/\w2k=e2k/\w2v=e2v/\w3k=e3k/\w3v=e3v)/\
(((rulesE p1) !=0)=false->
((!(Ad==(p1.wb==3)))=true->
1=r1/\Ad=Ay/\Aa=Aq/\Ae=Aw/\Ab=Ax/\w1k=e1k/\w1v=e1v/\w2k=e2k/\w2v=e2v/\w3k=e3k/\w3v=e3v)/\
((!(Ad==(p1.wb==3)))=false->
((rulesE p1=0)/\(((0:Int) !=0)=true->
0=r1/\Ad=Ay/\Aa=Aq/\Ae=Aw/\Ab=Ax/\w1k=e1k/\w1v=e1v/\w2k=e2k/\w2v=e2v/\w3k=e3k/\w3v=e3v)/\
(((0:Int) !=0)=false->
False))∨((rulesE p1≠0)/\(((rulesE p1) !=0)=true->
(rulesE p1)=r1/\Ad=Ay/\Aa=Aq/\Ae=Aw/\Ab=Ax/\w1k=e1k/\w1v=e1v/\w2k=e2k/\w2v=e2v/\w3k=e3k/\w3v=e3v)/\
(((rulesE p1) !=0)=false->
False)))))<|by
 rintro p1 Ad Aa Ae Ab w1k w1v w2k w2v w3k w3v h;repeat rintro _ rfl
 exact⟨fun _=>(by repeat' first|apply qt|exact rfl|exact qm),fun e=>(h (by simpa using e)).elim⟩
noncomputable def k6y:Con TB.den:= .t ⟨42,[],[],(.one (.one (.ptr 0 0))),yQ,false⟩ [] yB1 [] (false,(0:Int),(0:Int),([]:List wB),([]:Lb),([]:Li),([]:Lb),([]:List (Li)),([]:Lb),([]:Lo),())
theorem k8a:k6y.Ok Tryz.prog TB:=ptv Bs Tryz.func42 .no c0 (Q:=∀Ay:Bool,(false:Bool)=Ay->∀Aq:Int,(0:Int)=Aq->∀Aw:Int,(0:Int)=Aw->∀Ax:List wB,([]:List wB)=Ax->∀e1k:Lb,([]:Lb)=e1k->∀e1v:Li,([]:Li)=e1v->∀e2k:Lb,([]:Lb)=e2k->∀e2v:List (Li),([]:List (Li))=e2v->∀e3k:Lb,([]:Lb)=e3k->∀e3v:Lo,([]:Lo)=e3v-> 
false=Ay/\0=Aq/\0=Aw/\([]:List wB)=Ax/\([]:Lb)=e1k/\([]:Li)=e1v/\([]:Lb)=e2k/\([]:List (Li))=e2v/\([]:Lb)=e3k/\([]:Lo)=e3v)<|by
 repeat rintro _ rfl
 exact⟨rfl,rfl,rfl,rfl,rfl,rfl,rfl,rfl,rfl,rfl⟩
noncomputable def kf9:Con TB.den:= .t ⟨12,[],[],(.one (.one (.ptr 0 0))),yQ,false⟩ [] yB1 [] (false,(0:Int),(0:Int),([]:List wB),([]:Lb),([]:Li),([]:Lb),([]:List (Li)),([]:Lb),([]:Lo),())
theorem k62:kf9.Ok Tryz.prog TB:=ptv Bs Tryz.func12 .no (k8a.c c0) (Q:=∀Ay:Bool,(false:Bool)=Ay->∀Aq:Int,(0:Int)=Aq->∀Aw:Int,(0:Int)=Aw->∀Ax:List wB,([]:List wB)=Ax->∀e1k:Lb,([]:Lb)=e1k->∀e1v:Li,([]:Li)=e1v->∀e2k:Lb,([]:Lb)=e2k->∀e2v:List (Li),([]:List (Li))=e2v->∀e3k:Lb,([]:Lb)=e3k->∀e3v:Lo,([]:Lo)=e3v-> 
false=Ay/\0=Aq/\0=Aw/\[]=Ax/\[]=e1k/\[]=e1v/\[]=e2k/\[]=e2v/\[]=e3k/\[]=e3v)<|by
 repeat rintro _ rfl
 exact⟨rfl,rfl,rfl,rfl,rfl,rfl,rfl,rfl,rfl,rfl⟩
noncomputable def kix:Con TB.den:= .gp 79 [.sl yqu,.sl yqu] [.bool] [] fun(p0 p1:Li)=>(p0.length<=9223372036854775807/\p1.length<=9223372036854775807,(decide (p0=p1):Bool),())
theorem km9:kix.Ok Tryz.prog TB:=qrv Bs Tryz.func79 (.r 1 (.nd [] (.r 0 (.lp [] ⟨[],[],[5],[.one (zqi)],[]⟩ .no)) [] .no)) c0 (Q:=∀(p0 p1:Li),(p0.length<=9223372036854775807/\p1.length<=9223372036854775807)->∀r0:Bool,(decide (p0=p1))=r0-> 
(((p0.length:Int) !=(p1.length:Int))=true->
false=r0)/\
(((p0.length:Int) !=(p1.length:Int))=false->
∃(I1:Int->Prop) (M1:Int->Nat),I1 0/\∀b1,(I1 b1->
(decide (b1<(p0.length:Int))=true->
(0<=b1)/\b1<(p0.length:Int)/\(0<=b1)/\b1<(p1.length:Int)/\(((ix p0 b1) !=(ix p1 b1))=true->
false=r0)/\
(((ix p0 b1) !=(ix p1 b1))=false->
I1 (i64.wrap (b1+1))/\M1 (i64.wrap (b1+1))<M1 b1))/\
(decide (b1<(p0.length:Int))=false->
true=r0))))<|by
 rintro p0 p1 h _ rfl;obtain⟨h1,h2⟩:=h;have no:p0≠p1->false=decide (p0=p1):=fun h=>(qby h).symm;refine⟨fun e=>no ?_,fun e=> ?_⟩
 ·rintro rfl;simp at e
 have e:(p0.length:Int)=p1.length:=by simpa using e
 refine⟨(fun i=>0<=i/\i<=p0.length/\p0.take i.toNat=p1.take i.toNat),(fun i=>(p0.length-i).toNat),⟨by omega,by omega,by simp⟩,?_⟩;rintro i ⟨g0,g1,g2⟩;refine⟨fun hh=> ?_,fun hh=> ?_⟩
 ·have hh:=qb hh;refine⟨g0,hh,g0,by omega,fun e2=>no ?_,fun e2=> ?_⟩
  ·rintro rfl;simp at e2
  ·have e2:ix p0 i=ix p1 i:=by simpa using e2
   rw[inc i p0.length g0 hh qqo];refine⟨⟨by omega,by omega,?_⟩,by(first|omega|(dsimp only;omega))⟩;rw[ke p0 i g0 hh,ke p1 i g0 qqo,g2,e2]
 ·have hh:=qc hh;rw[qx qqo,qx qqo]at g2;exact(qbr g2).symm
noncomputable def klh:Con TB.den:= .gp 229 [yqu] [.st 8] [] fun(p0:Int)=>(p0=18446744069414584321,(wAG.mk 7 32 7:wAG),())
theorem ken:klh.Ok Tryz.prog TB:=qrv Bs Tryz.func229 .no c0 (Q:=∀(p0:Int),(p0=18446744069414584321)->∀r0:wAG,wAG.mk 7 32 7=r0-> 
((p0==17)=true->
3=r0.a0/\4=r0.a1/\3=r0.a2)/\
((p0==17)=false->
((p0==97)=true->
5=r0.a0/\5=r0.a1/\5=r0.a2)/\
((p0==97)=false->
((p0==193)=true->
5=r0.a0/\6=r0.a1/\5=r0.a2)/\
((p0==193)=false->
((p0==257)=true->
3=r0.a0/\8=r0.a1/\3=r0.a2)/\
((p0==257)=false->
((p0==12289)=true->
11=r0.a0/\12=r0.a1/\5=r0.a2)/\
((p0==12289)=false->
((p0==65537)=true->
3=r0.a0/\16=r0.a1/\3=r0.a2)/\
((p0==65537)=false->
((p0==18446744069414584321)=true->
7=r0.a0/\32=r0.a1/\7=r0.a2)/\
((p0==18446744069414584321)=false->
0=r0.a0/\0=r0.a1/\0=r0.a2))))))))<|by rintro p0 h _ rfl;simp[h]
noncomputable def kie:Con TB.den:= .gp 181 [yqu] [.bool] [] fun(p0:Int)=>(p0=18446744069414584321,true,())
theorem k1p:kie.Ok Tryz.prog TB:=qrv Bs Tryz.func181 .no (ken.c c0) (Q:=∀(p0:Int),(p0=18446744069414584321)->∀r0:Bool,(true:Bool)=r0-> 
(p0=18446744069414584321)/\decide (0<(7:Int))=r0)<|by rintro p0 h _ rfl;exact⟨h,rfl⟩
noncomputable def kli:Con TB.den:= .gp 230 [yqu,yqu,yqu] [yqu] [] fun(p0 p1 p2:Int)=>(p0=18446744069414584321/\U64 p1/\U64 p2,((p1+p2)%18446744069414584321:Int),())
theorem k49:kli.Ok Tryz.prog TB:=qrv Bs Tryz.func230 .no (k1p.c c0) (Q:=∀(p0 p1 p2:Int),(p0=18446744069414584321/\U64 p1/\U64 p2)->∀r0:Int,((p1+p2)%18446744069414584321)=r0-> 
(p0=18446744069414584321)/\((!true)=true->
0=r0)/\
((!true)=false->
(p0≠0)/\(p0≠0)/\let v1:Bool:=decide ((u64.wrap (p0-(Int.tmod p2 p0)))<=(Int.tmod p1 p0))
(v1=true->
let v2:Int:=u64.wrap ((Int.tmod p1 p0)-(u64.wrap (p0-(Int.tmod p2 p0))))
v2=r0)/\
(v1=false->
let v3:Int:=u64.wrap ((Int.tmod p1 p0)+(Int.tmod p2 p0))
v3=r0)))<|by
 rintro p0 p1 p2 h _ rfl;obtain⟨rfl,h1,h2⟩:=h;refine⟨rfl,fun h=>by simp at h,fun _=> ?_⟩;rw[tmod_nn _ _ h1.1,tmod_nn _ _ h2.1];simp only[u64w];refine⟨by omega,by omega,fun h=> ?_,fun h=> ?_⟩
 ·have h:=qb h;omega
 ·have h:=qc h;omega
noncomputable def km0:Con TB.den:= .gp 231 [yqu,yqu,yqu] [yqu] [] fun(p0 p1 p2:Int)=>(p0=18446744069414584321/\U64 p1/\U64 p2,(p1*p2%18446744069414584321:Int),())
theorem kd7:km0.Ok Tryz.prog TB:=qrv Bs Tryz.func231 .no (k1p.c (k83.c (k7z.c c0))) (Q:=∀(p0 p1 p2:Int),(p0=18446744069414584321/\U64 p1/\U64 p2)->∀r0:Int,(p1*p2%18446744069414584321)=r0-> 
(p0=18446744069414584321)/\((!true)=true->
0=r0)/\
((!true)=false->
(p0≠0)/\(p0≠0)/\(U64 (Int.tmod p1 p0)/\U64 (Int.tmod p2 p0))/\let r1:Int:=((Int.tmod p1 p0)*(Int.tmod p2 p0)/18446744073709551616)
let r2:Int:=((Int.tmod p1 p0)*(Int.tmod p2 p0)%18446744073709551616)
(U64 r1/\U64 r2/\U64 p0/\r1<p0)/\((r1*18446744073709551616+r2)%p0)=r0))<|by
 rintro p0 p1 p2 h _ rfl;obtain⟨rfl,h1,h2⟩:=h;refine⟨rfl,fun h=>by simp at h,fun _=> ?_⟩;rw[tmod_nn _ _ h1.1,tmod_nn _ _ h2.1,qcq p1 p2];have a1:0<=p1%18446744069414584321/\p1%18446744069414584321<18446744069414584321:=by omega
 have a2:0<=p2%18446744069414584321/\p2%18446744069414584321<18446744069414584321:=by omega
 generalize p1%18446744069414584321=a at *
 generalize p2%18446744069414584321=b at *
 have h3:0<=a*b:=qcr a1.1 a2.1;have h4:a*b<=18446744069414584320*18446744069414584320:=qec qqo qqo a2.1 qqo;generalize a*b=m at *
 refine⟨by omega,by omega,⟨⟨by omega,by omega⟩,⟨by omega,by omega⟩⟩,⟨⟨by omega,by omega⟩,⟨by omega,by omega⟩,⟨by omega,by omega⟩,by omega⟩,?_⟩;rw[show m/18446744073709551616*18446744073709551616+m%18446744073709551616=m by omega]
noncomputable def kch:Con TB.den:= .gp 312 [yqu] [yqu] [] fun(p0:Int)=>(p0=18446744069414584321,(7:Int),())
theorem ke8:kch.Ok Tryz.prog TB:=qrv Bs Tryz.func312 .no (ken.c c0) (Q:=∀(p0:Int),(p0=18446744069414584321)->∀r0:Int,(7:Int)=r0-> 
(p0=18446744069414584321)/\7=r0)<|by rintro p0 h _ rfl;exact⟨h,rfl⟩
noncomputable def klz:Con TB.den:= .gp 310 [yqu,yqu,yqu] [yqu] [] fun(p0 p1 p2:Int)=>(p0=18446744069414584321/\U64 p1/\U64 p2,(pw p1 p2:Int),())
theorem kms:klz.Ok Tryz.prog TB:=qrv Bs Tryz.func310 (.r 3 (.nd [] (.lp [] ⟨[],[],[1,2,7],[.one (zqu),.one (zqu),.one (zqu)],[]⟩ (.r 0 (.jn ⟨[],[],[7],[.one (zqu)],[]⟩ [] .no [] .no))) [] .no)) (k1p.c (kd7.c c0)) (Q:=∀(p0 p1 p2:Int),(p0=18446744069414584321/\U64 p1/\U64 p2)->∀r0:Int,pw p1 p2=r0-> 
(p0=18446744069414584321)/\((!true)=true->
0=r0)/\
((!true)=false->
(p0≠0)/\∃(I1:Int->Int->Int->Prop) (M1:Int->Int->Int->Nat),I1 (Int.tmod p1 p0) p2 1/\∀b1 f1 i1,(I1 b1 f1 i1->
(decide (0<f1)=true->
∀J1:Int->Prop,(∀(k1:Int),
((p0=18446744069414584321/\U64 b1/\U64 b1)/\I1 (b1*b1%18446744069414584321) (u64.wrap (Int.tdiv f1 2)) k1/\M1 (b1*b1%18446744069414584321) (u64.wrap (Int.tdiv f1 2)) k1<M1 b1 f1 i1)->J1 k1)->
(((Int.tmod f1 2)==1)=true->
(p0=18446744069414584321/\U64 i1/\U64 b1)/\J1 (i1*b1%18446744069414584321))/\
(((Int.tmod f1 2)==1)=false->
J1 i1))/\
(decide (0<f1)=false->
i1=r0))))<|by
 rintro p0 p1 p2 h _ rfl;obtain⟨rfl,h1,h2⟩:=h;refine⟨rfl,fun h=>by simp at h,fun _=>⟨by omega,?_⟩⟩;rw[tmod_nn _ _ h1.1];refine⟨fun a e r=>(0<=a/\a<18446744069414584321)/\U64 e/\(0<=r/\r<18446744069414584321)/\(r*a^e.toNat)%18446744069414584321=pw p1 p2,fun a e r=>e.toNat,⟨by omega,h2,by omega,by rw[Int.one_mul,k73];rfl⟩,?_⟩;rintro a e r ⟨ha,he,hr,hv⟩;have hpow:∀k:Nat,a^(2*k)=(a*a)^k:=fun k=>by rw[Int.pow_mul];congr 1;rw[qcp,qcp,Int.pow_zero,Int.one_mul]
 refine⟨fun h J1 j=> ?_,fun h=> ?_⟩
 ·have h:=qb h;have jj:∀r',(0<=r'/\r' <18446744069414584321)->(r' *(a*a)^(e/2).toNat)%18446744069414584321=pw p1 p2->J1 r' :=by intro r' hr' hv';have hm:0<=a*a%18446744069414584321/\a*a%18446744069414584321<18446744069414584321:=⟨qbw _ qqo,qbp _ qqo⟩;refine j _ ⟨⟨rfl,by omega,by omega⟩,?_⟩;rw[tdiv_nn _ _ he.1,wu (e/2) qqo qqo];refine⟨⟨hm,⟨by omega,by omega⟩,hr',?_⟩,by(dsimp only;omega)⟩;rw[<-hv',qcq,qcq r' ((a*a)^_),k73]
  rw[tmod_nn _ _ he.1];refine⟨fun h1=>⟨⟨rfl,by omega,by omega⟩,?_⟩,fun h1=> ?_⟩
  ·have h1:e%2=1:=by simpa using h1
   refine jj _ ⟨qbw _ qqo,qbp _ qqo⟩ ?_;rw[<-hv,show e.toNat=2*(e/2).toNat+1 by omega,qcp,hpow,qcq,qdf _ (qfd _),<-qcq];congr 1;grind
  ·have h1:¬e%2=1:=by simpa using h1
   refine jj _ hr ?_;rw[<-hv,<-hpow,show e.toNat=2*(e/2).toNat by omega]
 ·have h:¬0<e:=qc h;rw[show e.toNat=0 by omega,Int.pow_zero,Int.mul_one,qdh hr.1 hr.2]at hv;exact hv
noncomputable def kba:Con TB.den:= .gp 311 [yqu,yqi,yqi] [yqu] [] fun(p0 p1 p2:Int)=>(p0=18446744069414584321/\(0<=p1/\p1<8)/\0<=p2/\p2<3,(rc p1 p2:Int),())
theorem kdt:kba.Ok Tryz.prog TB:=qrv Bs Tryz.func311 .no (k1p.c c0) (Q:=∀(p0 p1 p2:Int),(p0=18446744069414584321/\(0<=p1/\p1<8)/\0<=p2/\p2<3)->∀r0:Int,rc p1 p2=r0-> 
(p0=18446744069414584321)/\((!true)=true->
0=r0)/\
((!true)=false->
(decide (p1<0)=true->
0=r0)/\
(decide (p1<0)=false->
(decide (7<p1)=true->
0=r0)/\
(decide (7<p1)=false->
(decide (p2<0)=true->
0=r0)/\
(decide (p2<0)=false->
(decide (2<p2)=true->
0=r0)/\
(decide (2<p2)=false->
let v1:Int:=i64.wrap ((i64.wrap (3*p1))+p2)
let v2:Int:=u64.wrap (i64.wrap (v1+1))
let v3:Int:=u64.wrap (v2*11400714819323198485)
(p0≠0)/\Int.tmod v3 p0=r0))))))<|by
 rintro p0 p1 p2 h _ rfl;obtain⟨rfl,h1,h2⟩:=h;refine⟨rfl,fun h=>by simp at h,fun _=>⟨fun h=> ?_,fun _=>⟨fun h=> ?_,fun _=>⟨fun h=> ?_,fun _=>⟨fun h=> ?_,fun _=> ?_⟩⟩⟩⟩⟩
 ·simp at h;omega
 ·simp at h;omega
 ·simp at h;omega
 ·simp at h;omega
 ·simp only[];rw[wi (3*p1) qqo qqo,wi (3*p1+p2) qqo qqo,wi (3*p1+p2+1) qqo qqo,wu (3*p1+p2+1) qqo qqo,u64w];exact⟨by omega,by rw[tmod_nn _ _ qqo];rfl⟩
noncomputable def klw:Con TB.den:= .gp 387 [yqu,.sl yqu] [yqu] [] fun(p0:Int) (p1:Li)=>(p0=18446744069414584321/\Us p1/\p1.length<=9223372036854775807,(p1.foldl (fun s x=>(s+x)%18446744069414584321) 0:Int),())
theorem kmd:klw.Ok Tryz.prog TB:=qrv Bs Tryz.func387 (.r 1 (.nd [] (.r 0 (.lp [] ⟨[],[],[5,6],[.one (zqu),.one (zqi)],[]⟩ .no)) [] .no)) (k49.c c0) (Q:=∀(p0:Int) (p1:Li),(p0=18446744069414584321/\Us p1/\p1.length<=9223372036854775807)->∀r0:Int,(p1.foldl (fun s x=>(s+x)%18446744069414584321) 0)=r0-> 
∃(I1:Int->Int->Prop) (M1:Int->Int->Nat),I1 0 0/\∀b1 f1,(I1 b1 f1->
(decide (f1<(p1.length:Int))=true->
(0<=f1)/\f1<(p1.length:Int)/\(p0=18446744069414584321/\U64 b1/\U64 (ix p1 f1))/\let r1:Int:=((b1+(ix p1 f1))%18446744069414584321)
I1 r1 (i64.wrap (f1+1))/\M1 r1 (i64.wrap (f1+1))<M1 b1 f1)/\
(decide (f1<(p1.length:Int))=false->
b1=r0)))<|by rintro p0 p1 h _ rfl;obtain⟨rfl,h1,h2⟩:=h;refine(⟨(fun s i=>FoldI (fun s x=>(s+x)%18446744069414584321) 0 p1 i s/\U64 s),(fun s i=>(p1.length-i).toNat),⟨FoldI.start,by omega⟩,?_⟩);rintro s i ⟨hi,hs⟩;refine⟨fun hh=> ?_,fun hh=>hi.done (qc hh)⟩;have hh:=qb hh;have hx:=h1 _ (ix_mem p1 i hi.1 hh);have nx:=hi.next hh qqo rfl;exact⟨hi.1,hh,⟨rfl,hs,hx⟩,⟨nx.1,by omega⟩,nx.2⟩
noncomputable def km7:Con TB.den:= .gp 313 [yqu,.st 8] [.st 8] [] fun(p0:Int) (p1:wAG)=>(p0=18446744069414584321/\S3 p1,(mixS p1:wAG),())
theorem kmc:km7.Ok Tryz.prog TB:=qrv Bs Tryz.func313 (.r 2 (.nd [] (.r 0 (.lp [] ⟨[3],yQ1,[7],[.one (zqi)],[]⟩ .no)) [] .no)) (kmd.c (k49.c c0)) (Q:=∀(p0:Int) (p1:wAG),(p0=18446744069414584321/\S3 p1)->∀r0:wAG,mixS p1=r0-> 
(p0=18446744069414584321/\Us [p1.a0,p1.a1,p1.a2]/\[p1.a0,p1.a1,p1.a2].length<=9223372036854775807)/\let r1:Int:=([p1.a0,p1.a1,p1.a2].foldl (fun s x=>(s+x)%18446744069414584321) 0)
∃(I1:Int->Int->Int->Int->Prop) (M1:Int->Int->Int->Int->Nat),I1 0 0 0 0/\∀b1 f1 i1 k1,(I1 b1 f1 i1 k1->
(decide (b1<3)=true->
(0<=b1/\b1<(3:Int))/\(0<=b1/\b1<(3:Int))/\(p0=18446744069414584321/\U64 (ix [p1.a0,p1.a1,p1.a2] b1)/\U64 r1)/\let r2:Int:=(((ix [p1.a0,p1.a1,p1.a2] b1)+r1)%18446744069414584321)
(0<=b1/\b1<(3:Int))/\(0<=b1/\b1<(3:Int))/\I1 (i64.wrap (b1+1)) (bif decide (b1=(0:Int))then r2 else f1) (bif decide (b1=(1:Int))then r2 else i1) (bif decide (b1=(2:Int))then r2 else k1)/\M1 (i64.wrap (b1+1)) (bif decide (b1=(0:Int))then r2 else f1) (bif decide (b1=(1:Int))then r2 else i1) (bif decide (b1=(2:Int))then r2 else k1)<M1 b1 f1 i1 k1)/\
(decide (b1<3)=false->
f1=r0.a0/\i1=r0.a1/\k1=r0.a2)))<|by
 rintro p0 p1 h _ rfl;obtain⟨rfl,h0,h1,h2⟩:=h;have e:[p1.a0,p1.a1,p1.a2].foldl (fun s x=>(s+x)%18446744069414584321) 0=((p1.a0+p1.a1)%18446744069414584321+p1.a2)%18446744069414584321:=by show(((0+p1.a0)%18446744069414584321+p1.a1)%18446744069414584321+p1.a2)%18446744069414584321=_;omega
 refine⟨⟨rfl,?_,by simp⟩,?_⟩
 ·intro x hx;simp only[qag,qeg,or_false]at hx;rcases hx with rfl|rfl|rfl
  ·exact h0
  ·exact h1
  ·exact h2
 rw[e];have hu:U64 (((p1.a0+p1.a1)%18446744069414584321+p1.a2)%18446744069414584321):=⟨by omega,by(first|omega|(dsimp only;omega))⟩;generalize hg:((p1.a0+p1.a1)%18446744069414584321+p1.a2)%18446744069414584321=t at *
 refine⟨(fun i x y z=>(i=0)∨(i=1/\x=(p1.a0+t)%18446744069414584321)∨(i=2/\x=(p1.a0+t)%18446744069414584321/\y=(p1.a1+t)%18446744069414584321)∨(i=3/\x=(p1.a0+t)%18446744069414584321/\y=(p1.a1+t)%18446744069414584321/\z=(p1.a2+t)%18446744069414584321)),(fun i _ _ _=>(3-i).toNat),(.inl rfl),?_⟩;intro i x y z hi;refine⟨fun hh=> ?_,fun hh=> ?_⟩
 ·have hh:=qb hh;rcases hi with rfl|⟨rfl,rfl⟩|⟨rfl,rfl,rfl⟩|⟨rfl,_⟩
  ·exact⟨by omega,by omega,⟨rfl,h0,hu⟩,by omega,by omega,.inr (.inl ⟨rfl,rfl⟩),by(dsimp only;decide)⟩
  ·exact⟨by omega,by omega,⟨rfl,h1,hu⟩,by omega,by omega,.inr (.inr (.inl ⟨rfl,rfl,rfl⟩)),by(dsimp only;decide)⟩
  ·exact⟨by omega,by omega,⟨rfl,h2,hu⟩,by omega,by omega,.inr (.inr (.inr ⟨rfl,rfl,rfl,rfl⟩)),by(dsimp only;decide)⟩
  ·omega
 ·have hh:=qc hh;rcases hi with rfl|⟨rfl,rfl⟩|⟨rfl,rfl,rfl⟩|⟨rfl,rfl,rfl,rfl⟩
  ·omega
  ·omega
  ·omega
  ·unfold mixS;rw[hg];exact⟨rfl,rfl,rfl⟩
noncomputable def kdh:Con TB.den:= .gp 232 [yqu,.st 8] [.st 8] [] fun(p0:Int) (p1:wAG)=>(p0=18446744069414584321/\S3 p1,(permS p1:wAG),())
theorem kgb:kdh.Ok Tryz.prog TB:=qrv Bs Tryz.func232 (.r 1 (.nd [] (.r 0 (.lp [] ⟨[0],yQ1,[5],[.one (zqi)],[]⟩ (.r 0 (.nd [] (.nd [] (.r 0 (.lp [] ⟨[0],yQ1,[6],[.one (zqi)],[]⟩ .no)) [] .no) [] .no)))) [] .no)) (k1p.c (kdt.c (k49.c (ke8.c (kms.c (kmc.c c0)))))) (Q:=∀(p0:Int) (p1:wAG),(p0=18446744069414584321/\S3 p1)->∀r0:wAG,permS p1=r0-> 
(p0=18446744069414584321)/\((!true)=true->
0=r0.a0/\0=r0.a1/\0=r0.a2)/\
((!true)=false->
∃(I1:Int->Int->Int->Int->Prop) (M1:Int->Int->Int->Int->Nat),I1 0 p1.a0 p1.a1 p1.a2/\∀b1 f1 i1 k1,(I1 b1 f1 i1 k1->
(decide (b1<8)=true->
∃(I2:Int->Int->Int->Int->Prop) (M2:Int->Int->Int->Int->Nat),I2 0 f1 i1 k1/\∀l1 m1 n1 o1,(I2 l1 m1 n1 o1->
(decide (l1<3)=true->
(0<=l1/\l1<(3:Int))/\(0<=l1/\l1<(3:Int))/\(p0=18446744069414584321/\(0<=b1/\b1<8)/\0<=l1/\l1<3)/\(p0=18446744069414584321/\U64 (ix [m1,n1,o1] l1)/\U64 (rc b1 l1))/\let r1:Int:=(((ix [m1,n1,o1] l1)+(rc b1 l1))%18446744069414584321)
(p0=18446744069414584321)/\(p0=18446744069414584321/\U64 r1/\U64 (7:Int))/\(0<=l1/\l1<(3:Int))/\(0<=l1/\l1<(3:Int))/\I2 (i64.wrap (l1+1)) (bif decide (l1=(0:Int))then(pw r1 (7:Int))else m1) (bif decide (l1=(1:Int))then(pw r1 (7:Int))else n1) (bif decide (l1=(2:Int))then(pw r1 (7:Int))else o1)/\M2 (i64.wrap (l1+1)) (bif decide (l1=(0:Int))then(pw r1 (7:Int))else m1) (bif decide (l1=(1:Int))then(pw r1 (7:Int))else n1) (bif decide (l1=(2:Int))then(pw r1 (7:Int))else o1)<M2 l1 m1 n1 o1)/\
(decide (l1<3)=false->
(p0=18446744069414584321/\S3 (wAG.mk m1 n1 o1))/\I1 (i64.wrap (b1+1)) ((mixS (wAG.mk m1 n1 o1)).a0) ((mixS (wAG.mk m1 n1 o1)).a1) ((mixS (wAG.mk m1 n1 o1)).a2)/\M1 (i64.wrap (b1+1)) ((mixS (wAG.mk m1 n1 o1)).a0) ((mixS (wAG.mk m1 n1 o1)).a1) ((mixS (wAG.mk m1 n1 o1)).a2)<M1 b1 f1 i1 k1)))/\
(decide (b1<8)=false->
f1=r0.a0/\i1=r0.a1/\k1=r0.a2))))<|by
 rintro p0 p1 h _ rfl;obtain⟨hP,hs⟩:=h;subst hP;refine⟨rfl,fun h=>by simp at h,fun _=> ?_⟩;refine⟨(fun n a b c=>0<=n/\n<=8/\(⟨a,b,c⟩:wAG)=rnds n.toNat p1/\S3 ⟨a,b,c⟩),(fun n _ _ _=>(8-n).toNat),⟨by omega,by omega,rfl,hs⟩,?_⟩;rintro n a b c ⟨g0,g1,g2,g3⟩;refine⟨fun h=> ?_,fun h=> ?_⟩
 ·have h:=qb h;refine⟨(fun i x y z=>(i=0/\x=a/\y=b/\z=c)∨(i=1/\x=pw ((a+rc n 0)%18446744069414584321) 7/\y=b/\z=c)∨(i=2/\x=pw ((a+rc n 0)%18446744069414584321) 7/\y=pw ((b+rc n 1)%18446744069414584321) 7/\z=c)∨(i=3/\x=pw ((a+rc n 0)%18446744069414584321) 7/\y=pw ((b+rc n 1)%18446744069414584321) 7/\z=pw ((c+rc n 2)%18446744069414584321) 7)),(fun i _ _ _=>(3-i).toNat),(.inl ⟨rfl,rfl,rfl,rfl⟩),?_⟩;intro i x y z hi;have hrc:∀k,U64 (rc n k):=fun k=>by unfold rc;omega
  have hpw:∀k e,0<=pw k e/\pw k e<18446744069414584321:=fun k e=>⟨qbw _ qqo,qbp _ qqo⟩;obtain⟨h3a,h3b,h3c⟩:=g3;have u7:U64 7:=by decide
  have hm:∀q:Int,U64 (q%18446744069414584321):=fun q=>⟨qbw _ qqo,Int.lt_trans (qbp _ qqo) qqo⟩;refine⟨fun hh=> ?_,fun hh=> ?_⟩
  ·have hh:=qb hh;rcases hi with⟨rfl,rfl,rfl,rfl⟩|⟨rfl,rfl,rfl,rfl⟩|⟨rfl,rfl,rfl,rfl⟩|⟨rfl,_⟩
   ·exact⟨by omega,by omega,⟨rfl,by omega,by omega⟩,⟨rfl,h3a,hrc _⟩,rfl,⟨rfl,hm _,u7⟩,by omega,by omega,.inr (.inl ⟨rfl,rfl,rfl,rfl⟩),by(dsimp only;decide)⟩
   ·exact⟨by omega,by omega,⟨rfl,by omega,by omega⟩,⟨rfl,h3b,hrc _⟩,rfl,⟨rfl,hm _,u7⟩,by omega,by omega,.inr (.inr (.inl ⟨rfl,rfl,rfl,rfl⟩)),by(dsimp only;decide)⟩
   ·exact⟨by omega,by omega,⟨rfl,by omega,by omega⟩,⟨rfl,h3c,hrc _⟩,rfl,⟨rfl,hm _,u7⟩,by omega,by omega,.inr (.inr (.inr ⟨rfl,rfl,rfl,rfl⟩)),by(dsimp only;decide)⟩
   ·omega
  ·have hh:=qc hh;rcases hi with⟨rfl,_⟩|⟨rfl,_⟩|⟨rfl,_⟩|⟨rfl,rfl,rfl,rfl⟩
   ·omega
   ·omega
   ·omega
   ·have e:rnds (n+1).toNat p1=rnd ⟨a,b,c⟩ n:=by rw[show(n+1).toNat=n.toNat+1 by omega];show rnd (rnds n.toNat p1) (n.toNat:Int)=_;rw[<-g2,show(n.toNat:Int)=n by omega]
    have hS:S3 (rnds (n+1).toNat p1):=by rw[e];unfold rnd mixS S3;dsimp only;omega
    have hinc:i64.wrap (n+1)=n+1:=wi _ qqo qqo;rw[hinc];refine⟨⟨rfl,by unfold S3;have:=hpw ((a+rc n 0)%18446744069414584321) 7;have:=hpw ((b+rc n 1)%18446744069414584321) 7;have:=hpw ((c+rc n 2)%18446744069414584321) 7;dsimp only;omega⟩,(?_:0<=n+1/\n+1<=8/\_/\_),(?_:(8-(n+1)).toNat<(8-n).toNat)⟩
    ·refine⟨by omega,by omega,e.symm,?_⟩;rw[e]at hS;exact hS
    ·omega
 ·have h:=qc h;rw[show n=8 by omega]at g2;have g2:(⟨a,b,c⟩:wAG)=permS p1:=g2;rw[<-g2];exact⟨rfl,rfl,rfl⟩
noncomputable def kfd:Con TB.den:= .gp 182 yT1 [.st 8] [] fun(p0 p1:Int) (p2:Li)=>(p0=18446744069414584321/\U64 p1/\Us p2/\p2.length<=1099511627776,(absS p1 p2:wAG),())
theorem khw:kfd.Ok Tryz.prog TB:=qrv Bs Tryz.func182 (.r 1 (.nd [] (.r 0 (.lp [] ⟨[1],yQ1,[8],[.one (zqi)],[]⟩ (.jn ⟨[],[],[],[],[]⟩ [] .no [] (.nd [] (.jn ⟨[1],yQ1,[],[],[]⟩ [] .no [] (.jn ⟨[1],yQ1,[],[],[]⟩ [] .no [] .no)) [] .no)))) [] .no)) (kd7.c (k49.c (kgb.c c0))) (Q:=∀(p0 p1:Int) (p2:Li),(p0=18446744069414584321/\U64 p1/\Us p2/\p2.length<=1099511627776)->∀r0:wAG,absS p1 p2=r0-> 
(p0=18446744069414584321/\U64 p1/\U64 (65536:Int))/\let r1:Int:=(p1*(65536:Int)%18446744069414584321)
(p0=18446744069414584321/\U64 r1/\U64 (u64.wrap (p2.length:Int)))/\let r2:Int:=((r1+(u64.wrap (p2.length:Int)))%18446744069414584321)
∃(I1:Int->Int->Int->Int->Prop) (M1:Int->Int->Int->Int->Nat),I1 0 0 0 r2/\∀b1 f1 i1 k1,(I1 b1 f1 i1 k1->
∀J1:Prop,((∀J2:Int->Int->Int->Prop,(∀(l1 m1 n1:Int),
(∀J3:Int->Int->Int->Prop,(∀(o1 q1 s1:Int),
((p0=18446744069414584321/\S3 (wAG.mk o1 q1 s1))/\I1 (i64.wrap (b1+2)) ((permS (wAG.mk o1 q1 s1)).a0) ((permS (wAG.mk o1 q1 s1)).a1) ((permS (wAG.mk o1 q1 s1)).a2)/\M1 (i64.wrap (b1+2)) ((permS (wAG.mk o1 q1 s1)).a0) ((permS (wAG.mk o1 q1 s1)).a1) ((permS (wAG.mk o1 q1 s1)).a2)<M1 b1 f1 i1 k1)->J3 o1 q1 s1)->
let v4:Bool:=decide ((i64.wrap (b1+1))<(p2.length:Int))
(v4=true->
(0<=i64.wrap (b1+1))/\i64.wrap (b1+1)<(p2.length:Int)/\(p0=18446744069414584321/\U64 m1/\U64 (ix p2 (i64.wrap (b1+1))))/\let r5:Int:=((m1+(ix p2 (i64.wrap (b1+1))))%18446744069414584321)
J3 l1 r5 n1)/\
(v4=false->
J3 l1 m1 n1))->J2 l1 m1 n1)->
(decide (b1<(p2.length:Int))=true->
(0<=b1)/\b1<(p2.length:Int)/\(p0=18446744069414584321/\U64 f1/\U64 (ix p2 b1))/\let r3:Int:=((f1+(ix p2 b1))%18446744069414584321)
J2 r3 i1 k1)/\
(decide (b1<(p2.length:Int))=false->
J2 f1 i1 k1))->J1)->
((b1==0)=true->
J1)/\
((b1==0)=false->
(decide (b1<(p2.length:Int))=true->
J1)/\
(decide (b1<(p2.length:Int))=false->
f1=r0.a0/\i1=r0.a1/\k1=r0.a2))))<|by
 rintro p0 p1 p2 h _ rfl;obtain⟨hP,h1,h2,h3⟩:=h;subst hP;have hp:=k22;have hi:S3 (absI p1 p2):=by unfold absI S3;dsimp only;omega
 have e:u64.wrap (p2.length:Int)=p2.length:=wu _ qqo qqo;have em:(p1*65536%18446744069414584321+(p2.length:Int))%18446744069414584321=(absI p1 p2).a2:=rfl;rw[e];refine⟨⟨rfl,h1,by omega⟩,⟨rfl,by omega,by omega⟩,?_⟩;rw[em];refine⟨fun i a b c=>(i=0/\a=0/\b=0/\c=(absI p1 p2).a2)∨(0<i/\i<=p2.length+2/\absL (p2.drop i.toNat) ⟨a,b,c⟩=absS p1 p2/\S3 ⟨a,b,c⟩),fun i _ _ _=>(p2.length+4-i).toNat,.inl ⟨rfl,rfl,rfl,rfl⟩,?_⟩;intro i a b c hg J1 j1
 have body:0<=i->i<=p2.length->(i<p2.length->absL (p2.drop i.toNat) ⟨a,b,c⟩=absS p1 p2)->(¬i<p2.length->permS ⟨a,b,c⟩=absS p1 p2)->S3 ⟨a,b,c⟩->J1:=by
  intro g0 g1 hne hnil hS;obtain⟨h3a,h3b,h3c⟩:=hS;refine j1 fun J2 j2=> ?_
  have hJ2:∀x y z,S3 ⟨x,y,z⟩->(i+1<p2.length->absL (p2.drop (i+2).toNat) (permS ⟨x,(y+ix p2 (i+1))%18446744069414584321,z⟩)=absS p1 p2)->(¬i+1<p2.length->permS ⟨x,y,z⟩=absS p1 p2)->J2 x y z:=by
   intro x y z hS k1 k2;refine j2 _ _ _ fun J3 j3=> ?_;have hJ3:∀x y z:Int,S3 ⟨x,y,z⟩->absL (p2.drop (i+2).toNat) (permS ⟨x,y,z⟩)=absS p1 p2->J3 x y z:=by intro x y z hS k;refine j3 _ _ _ ?_;rw[wi (i+2) qqo qqo];exact⟨⟨rfl,hS⟩,.inr ⟨(by omega:0<i+2),(by omega:i+2<=p2.length+2),k,hp _⟩,by(dsimp only;omega)⟩
   rw[wi (i+1) qqo qqo];refine⟨fun h5=> ?_,fun h5=> ?_⟩
   ·have h5:=qb h5;have hy:=h2 _ (ix_mem p2 (i+1) qqo h5);exact⟨by omega,h5,⟨rfl,hS.2.1,hy⟩,hJ3 _ _ _ (S3m (by have:=hS.1;omega) qqo hS.2.2) (k1 h5)⟩
   ·have ed2:p2.drop (i+2).toNat=[]:=qam (by have:=qc h5;omega);exact hJ3 _ _ _ hS (by rw[ed2];exact k2 (qc h5))
  refine⟨fun hh=> ?_,fun hh=> ?_⟩
  ·have hh:=qb hh;have hx:=h2 _ (ix_mem p2 i g0 hh);have g2:=hne hh;rw[drop_ix p2 i g0 hh]at g2;refine⟨g0,hh,⟨rfl,h3a,hx⟩,hJ2 _ _ _ (S3m qqo h3b h3c) (fun h5=> ?_) (fun h5=> ?_)⟩
   ·rw[drop_ix p2 (i+1) qqo h5,show i+1+1=i+2 by omega]at g2;exact g2
   ·rw[show p2.drop (i+1).toNat=[]from qam qqo]at g2;exact g2
  ·have hh:=qc hh;exact hJ2 _ _ _ ⟨h3a,h3b,h3c⟩ (fun h5=>by omega) (fun _=>hnil hh)
 refine⟨fun h0=> ?_,fun h0=>⟨fun hh=> ?_,fun hh=> ?_⟩⟩
 ·have h0:i=0:=by simpa using h0
  rcases hg with⟨_,rfl,rfl,rfl⟩|⟨hp0,_⟩
  ·subst h0;refine body qqo qqo (fun hl=> ?_) (fun hl=> ?_) hi
   ·have hne:p2≠[]:=by rintro rfl;simp at hl
    unfold absS;rw[qf hne];rfl
   ·have hnil:p2=[]:=qah qqo;unfold absS;rw[qh hnil];rfl
  ·omega
 ·have h0:¬i=0:=by simpa using h0
  have hh:=qb hh;rcases hg with⟨h1,_⟩|⟨g0,g1,g2,g3⟩
  ·omega
  ·exact body qqo qqo (fun _=>g2) (fun hl=>absurd hh hl) g3
 ·have h0:¬i=0:=by simpa using h0
  have hh:=qc hh;rcases hg with⟨h1,_⟩|⟨g0,g1,g2,g3⟩
  ·omega
  ·rw[qam qqo]at g2;have hv:(⟨a,b,c⟩:wAG)=absS p1 p2:=g2;rw[<-hv];exact⟨rfl,rfl,rfl⟩
noncomputable def kl2:Con TB.den:= .gp 121 yT1 [yqu] [] fun(p0 p1:Int) (p2:Li)=>(p0=18446744069414584321/\U64 p1/\Us p2/\p2.length<=1099511627776,(hashS p1 p2:Int),())
theorem kly:kl2.Ok Tryz.prog TB:=qrv Bs Tryz.func121 .no (k1p.c (khw.c c0)) (Q:=∀(p0 p1:Int) (p2:Li),(p0=18446744069414584321/\U64 p1/\Us p2/\p2.length<=1099511627776)->∀r0:Int,hashS p1 p2=r0-> 
(p0=18446744069414584321)/\((!true)=true->
0=r0)/\
((!true)=false->
(p0=18446744069414584321/\U64 p1/\Us p2/\p2.length<=1099511627776)/\(absS p1 p2).a0=r0))<|by rintro p0 p1 p2 h _ rfl;obtain⟨hP,h1,h2,h3⟩:=h;subst hP;exact⟨rfl,fun h=>by simp at h,fun _=>⟨⟨rfl,h1,h2,h3⟩,rfl⟩⟩
noncomputable def kf7:Con TB.den:= .tp 179 [yqu] [.bool] [] fun(p0:Int)=>((decide (p0<18446744069414584321):Bool),())
theorem kg3:kf7.Ok Tryz.prog TB:=qtv Bs Tryz.func179 .no c0 (Q:=∀(p0:Int),∀r0:Bool,(decide (p0<18446744069414584321))=r0-> 
decide (p0<18446744069414584321)=r0)<|by rintro p0 _ rfl;exact rfl
noncomputable def kc3:Con TB.den:= .gp 119 [.sl yqu] [.bool] [] fun(p0:Li)=>(p0.length<=9223372036854775807,(p0.all (fun x=>decide (x<18446744069414584321)):Bool),())
theorem ke2:kc3.Ok Tryz.prog TB:=qrv Bs Tryz.func119 (.r 0 (.nd [] (.r 0 (.lp [] ⟨[],[],[3],[.one (zqi)],[]⟩ .no)) [] .no)) (kg3.c c0) (Q:=∀(p0:Li),(p0.length<=9223372036854775807)->∀r0:Bool,(p0.all (fun x=>decide (x<18446744069414584321)))=r0-> 
∃(I1:Int->Prop) (M1:Int->Nat),I1 0/\∀b1,(I1 b1->
(decide (b1<(p0.length:Int))=true->
(0<=b1)/\b1<(p0.length:Int)/\let r1:Bool:=(decide ((ix p0 b1)<18446744069414584321))
((!r1)=true->
false=r0)/\
((!r1)=false->
I1 (i64.wrap (b1+1))/\M1 (i64.wrap (b1+1))<M1 b1))/\
(decide (b1<(p0.length:Int))=false->
true=r0)))<|by rintro p0 h _ rfl;refine(⟨(AllI (fun x=>decide (x<18446744069414584321)) p0),(fun i=>(p0.length-i).toNat),AllI.start,?_⟩);intro i hi;refine⟨fun hh=> ?_,fun hh=>(hi.done (qc hh)).symm⟩;have hh:=qb hh;exact⟨hi.1,hh,fun e=>(hi.bad hh (by simpa using e)).symm,fun e=>hi.next hh qqo (by simpa using e)⟩
noncomputable def kih:Con TB.den:= .gp 80 [.st 23,.st 4] [.bool] [] fun(p0:wBP) (p1:wB)=>(p0.wBN=false/\UQ p1.wAe p1.wAY,(riB p1.wAe p1.wAY p1.wAj:Bool),())
theorem kjt:kih.Ok Tryz.prog TB:=qrv Bs Tryz.func80 (.r 1 (.nd [] (.jn ⟨[],[],[22],[.one (.d (.bool))],[]⟩ [] .no [] .no) [] .no)) (ke2.c (kly.c c0)) (Q:=∀(p0:wBP) (p1:wB),(p0.wBN=false/\UQ p1.wAe p1.wAY)->∀r0:Bool,riB p1.wAe p1.wAY p1.wAj=r0-> 
(p1.wAY.length<=9223372036854775807)/\let r1:Bool:=(p1.wAY.all (fun x=>decide (x<18446744069414584321)))
((!r1)=true->
false=r0)/\
((!r1)=false->
∀J1:Bool->Prop,(∀(b1:Bool),
((b1=true->
False)/\
(b1=false->
((18446744069414584321:Int)=18446744069414584321/\U64 p1.wAe/\Us p1.wAY/\p1.wAY.length<=1099511627776)/\((hashS p1.wAe p1.wAY)==p1.wAj)=r0))->J1 b1)->
(p0.wBN=true->
((p1.wAe==2)=true->
J1 true)/\
((p1.wAe==2)=false->
J1 (p1.wAe==3)))/\
(p0.wBN=false->
J1 false)))<|by
 rintro p0 p1 h _ rfl;obtain⟨hI,hu,hs,hl⟩:=h;unfold riB;refine⟨by omega,fun e=> ?_,fun e=> ?_⟩
 ·have e:p1.wAY.all (fun x=>decide (x<18446744069414584321))=false:=by simpa using e
  rw[e];rfl
 ·have e:p1.wAY.all (fun x=>decide (x<18446744069414584321))=true:=by simpa using e
  intro J kJ;have j:=kJ false ⟨fun hh=>(by cases hh),fun _=>⟨⟨rfl,hu,hs,by omega⟩,by rw[e];rfl⟩⟩;exact⟨fun e2=>(by rw[hI]at e2;cases e2),fun _=>j⟩
noncomputable def keo:Con TB.den:= .gp 31 [.st 23,.st 20] [.bool] [] fun(p0:wBP) (p1:wAs)=>(p0.wBN=false/\UF p1,(genB p1:Bool),())
theorem kg6:keo.Ok Tryz.prog TB:=qrv Bs Tryz.func31 .no (kjt.c (km9.c c0)) (Q:=∀(p0:wBP) (p1:wAs),(p0.wBN=false/\UF p1)->∀r0:Bool,genB p1=r0-> 
((p1.wAI==2)=true->
((p1.wAF !=p1.wAL)=true->
((p1.wz==p1.wAD)=true->
(p0.wBN=false/\UQ (wB.mk p1.wAF p1.wAC p1.wz).wAe (wB.mk p1.wAF p1.wAC p1.wz).wAY)/\let r1:Bool:=(riB (wB.mk p1.wAF p1.wAC p1.wz).wAe (wB.mk p1.wAF p1.wAC p1.wz).wAY (wB.mk p1.wAF p1.wAC p1.wz).wAj)
(r1=true->
(p0.wBN=false/\UQ (wB.mk p1.wAL p1.wAJ p1.wAD).wAe (wB.mk p1.wAL p1.wAJ p1.wAD).wAY)/\let r2:Bool:=(riB (wB.mk p1.wAL p1.wAJ p1.wAD).wAe (wB.mk p1.wAL p1.wAJ p1.wAD).wAY (wB.mk p1.wAL p1.wAJ p1.wAD).wAj)
r2=r0)/\
(r1=false->
false=r0))/\
((p1.wz==p1.wAD)=false->
false=r0))/\
((p1.wAF !=p1.wAL)=false->
(p1.wAC.length<=9223372036854775807/\p1.wAJ.length<=9223372036854775807)/\((!(decide (p1.wAC=p1.wAJ)))=true->
((p1.wz==p1.wAD)=true->
(p0.wBN=false/\UQ (wB.mk p1.wAF p1.wAC p1.wz).wAe (wB.mk p1.wAF p1.wAC p1.wz).wAY)/\let r3:Bool:=(riB (wB.mk p1.wAF p1.wAC p1.wz).wAe (wB.mk p1.wAF p1.wAC p1.wz).wAY (wB.mk p1.wAF p1.wAC p1.wz).wAj)
(r3=true->
(p0.wBN=false/\UQ (wB.mk p1.wAL p1.wAJ p1.wAD).wAe (wB.mk p1.wAL p1.wAJ p1.wAD).wAY)/\let r4:Bool:=(riB (wB.mk p1.wAL p1.wAJ p1.wAD).wAe (wB.mk p1.wAL p1.wAJ p1.wAD).wAY (wB.mk p1.wAL p1.wAJ p1.wAD).wAj)
r4=r0)/\
(r3=false->
false=r0))/\
((p1.wz==p1.wAD)=false->
false=r0))/\
((!(decide (p1.wAC=p1.wAJ)))=false->
false=r0)))/\
((p1.wAI==2)=false->
false=r0))<|by
 rintro p0 p1 h _ rfl;obtain⟨hI,hu⟩:=h;unfold genB;refine⟨fun e1=>⟨fun e2=>⟨fun e3=>⟨⟨hI,hu.a⟩,fun e4=>⟨⟨hI,hu.b⟩,?_⟩,fun e4=> ?_⟩,fun e3=> ?_⟩,fun e2=>⟨⟨by have:=hu.a.2.2;omega,by have:=hu.b.2.2;omega⟩,fun e5=>⟨fun e3=>⟨⟨hI,hu.a⟩,fun e4=>⟨⟨hI,hu.b⟩,?_⟩,fun e4=> ?_⟩,fun e3=> ?_⟩,fun e5=> ?_⟩⟩,fun e1=> ?_⟩
 ·have e4:riB p1.wAF p1.wAC p1.wz=true:=e4;rw[e1,e2,e3,e4];rfl
 ·have e4:riB p1.wAF p1.wAC p1.wz=false:=e4;rw[e1,e2,e3,e4];rfl
 ·rw[e1,e2,e3];rfl
 ·have e4:riB p1.wAF p1.wAC p1.wz=true:=e4;rw[e1,e2,e3,e4,e5];rfl
 ·have e4:riB p1.wAF p1.wAC p1.wz=false:=e4;rw[e1,e2,e3,e4,e5];rfl
 ·rw[e1,e2,e3,e5];rfl
 ·rw[e1,e2,e5];rfl
 ·rw[e1];rfl
noncomputable def kfj:Con TB.den:= .g (gk 21 [.one (.ptr 0 0)] yB (.one (.one (zql)))) (.int .i64:: .int .i64:: .int .i64:: .int .i64:: .int .i64:: .int .u64:: .int .i64:: .int .i64:: .int .u64:: .sl yqu:: .int .u64:: .int .i64:: .bool::yH) (.sl yqu:: .int .i64:: .int .i64:: .int .i64:: .int .i64:: .int .i64:: .int .u64:: .int .i64:: .int .i64:: .int .u64:: .sl yqu:: .int .u64:: .int .i64:: .bool::yH) [] fun(Aa Ae Ab Am Ao Ag Aj Ah Ai:Int) (Ac:Li) (Ap Af:Int) (At:Bool) (Au Av:Int) (As:List wB) (Bb Bc Bd Be Bf Bg Bh Bi Bj Bk Az:Int) (A0:Li) (A7:List wA) (A8:Int) (w2k:Li) (w2v:List wL) (w4k:Lb) (w4v:Li) (w5k:Lb) (w5v:List (Li)) (w6k:Lb) (w6v:Lo) (w7 w9:Li) (w10:List wK) (w11k:Li) (w11v:Lo)=>(Ac.length<=1000,Ac,Aa,Ae,Ab,Am,Ao,Ag,Aj,Ah,Ai,Ac,Ap,Af,At,Au,Av,As,Bb,Bc,Bd,Be,Bf,Bg,Bh,Bi,Bj,Bk,Az,A0,A7,A8,w2k,w2v,w4k,w4v,w5k,w5v,w6k,w6v,w7,w9,w10,w11k,w11v,())
theorem khz:kfj.Ok Tryz.prog TB:=prv Bs Tryz.func21 (.r 1 (.rt [.frz 12 [2]])) (k31.c c0) (Q:=∀(Aa Ae Ab Am Ao Ag Aj Ah Ai:Int) (Ac:Li) (Ap Af:Int) (At:Bool) (Au Av:Int) (As:List wB) (Bb Bc Bd Be Bf Bg Bh Bi Bj Bk Az:Int) (A0:Li) (A7:List wA) (A8:Int) (w2k:Li) (w2v:List wL) (w4k:Lb) (w4v:Li) (w5k:Lb) (w5v:List (Li)) (w6k:Lb) (w6v:Lo) (w7 w9:Li) (w10:List wK) (w11k:Li) (w11v:Lo),(Ac.length<=1000)->∀r0:Li,Ac=r0->∀Aq:Int,Aa=Aq->∀Aw:Int,Ae=Aw->∀Ax:Int,Ab=Ax->∀B0:Int,Am=B0->∀B1:Int,Ao=B1->∀Bl:Int,Ag=Bl->∀Bm:Int,Aj=Bm->∀Bn:Int,Ah=Bn->∀Bo:Int,Ai=Bo->∀A9:Li,Ac=A9->∀Bz:Int,Ap=Bz->∀Ba:Int,Af=Ba->∀B6:Bool,At=B6->∀B7:Int,Au=B7->∀B8:Int,Av=B8->∀B9:List wB,As=B9->∀Ca:Int,Bb=Ca->∀Cb:Int,Bc=Cb->∀Cc:Int,Bd=Cc->∀Cd:Int,Be=Cd->∀Ce:Int,Bf=Ce->∀Cf:Int,Bg=Cf->∀Cg:Int,Bh=Cg->∀Ch:Int,Bi=Ch->∀Ci:Int,Bj=Ci->∀Cj:Int,Bk=Cj->∀B2:Int,Az=B2->∀B3:Li,A0=B3->∀B4:List wA,A7=B4->∀B5:Int,A8=B5->∀e2k:Li,w2k=e2k->∀e2v:List wL,w2v=e2v->∀e4k:Lb,w4k=e4k->∀e4v:Li,w4v=e4v->∀e5k:Lb,w5k=e5k->∀e5v:List (Li),w5v=e5v->∀e6k:Lb,w6k=e6k->∀e6v:Lo,w6v=e6v->∀e7:Li,w7=e7->∀e9:Li,w9=e9->∀e10:List wK,w10=e10->∀e11k:Li,w11k=e11k->∀e11v:Lo,w11v=e11v-> 
(Ac.length<=4294967295)/\lz Ac/\lz w10/\lz w9/\lz w7/\Ac=r0/\Aa=Aq/\Ae=Aw/\Ab=Ax/\Am=B0/\Ao=B1/\Ag=Bl/\Aj=Bm/\Ah=Bn/\Ai=Bo/\Ac=A9/\Ap=Bz/\Af=Ba/\At=B6/\Au=B7/\Av=B8/\As=B9/\Bb=Ca/\Bc=Cb/\Bd=Cc/\Be=Cd/\Bf=Ce/\Bg=Cf/\Bh=Cg/\Bi=Ch/\Bj=Ci/\Bk=Cj/\Az=B2/\A0=B3/\A7=B4/\A8=B5/\w2k=e2k/\w2v=e2v/\w4k=e4k/\w4v=e4v/\w5k=e5k/\w5v=e5v/\w6k=e6k/\w6v=e6v/\w7=e7/\w9=e9/\w10=e10/\w11k=e11k/\w11v=e11v)<|by
 rintro Aa Ae Ab Am Ao Ag Aj Ah Ai Ac Ap Af At Au Av As Bb Bc Bd Be Bf Bg Bh Bi Bj Bk Az A0 A7 A8 w2k w2v w4k w4v w5k w5v w6k w6v w7 w9 w10 w11k w11v h;repeat rintro _ rfl
 exact⟨by omega,(by repeat' first|apply qt|exact rfl|exact qm)⟩
noncomputable def kec:Con TB.den:= .g (gk 22 [.one (.ptr 0 0),.one (zqu)] yB (.tup [.agg yK1,.one (.d (.bool))])) (.int .u64:: .int .i64:: .int .i64:: .int .i64:: .int .i64:: .int .i64:: .int .u64:: .int .i64:: .int .i64:: .int .u64:: .sl yqu:: .int .u64:: .int .i64:: .bool::yH) (.st 3:: .bool:: .int .i64:: .int .i64:: .int .i64:: .int .i64:: .int .i64:: .int .u64:: .int .i64:: .int .i64:: .int .u64:: .sl yqu:: .int .u64:: .int .i64:: .bool::yH) [] fun(p1 Aa Ae Ab Am Ao Ag Aj Ah Ai:Int) (Ac:Li) (Ap Af:Int) (At:Bool) (Au Av:Int) (As:List wB) (Bb Bc Bd Be Bf Bg Bh Bi Bj Bk Az:Int) (A0:Li) (A7:List wA) (A8:Int) (w2k:Li) (w2v:List wL) (w4k:Lb) (w4v:Li) (w5k:Lb) (w5v:List (Li)) (w6k:Lb) (w6v:Lo) (w7 w9:Li) (w10:List wK) (w11k:Li) (w11v:Lo)=>((w2k.length=w2v.length/\p1∈w2k)/\(gB w2k w2v p1).Txs.length<=4/\∀x∈(gB w2k w2v p1).Txs,TL x,(gB w2k w2v p1:wI),true,Aa,Ae,Ab,Am,Ao,Ag,Aj,Ah,Ai,Ac,Ap,Af,At,Au,Av,As,Bb,Bc,Bd,Be,Bf,Bg,Bh,Bi,Bj,Bk,Az,A0,A7,A8,w2k,w2v,w4k,w4v,w5k,w5v,w6k,w6v,w7,w9,w10,w11k,w11v,())
theorem kg4:kec.Ok Tryz.prog TB:=prv Bs Tryz.func22 .no (k66.c c0) (Q:=∀(p1 Aa Ae Ab Am Ao Ag Aj Ah Ai:Int) (Ac:Li) (Ap Af:Int) (At:Bool) (Au Av:Int) (As:List wB) (Bb Bc Bd Be Bf Bg Bh Bi Bj Bk Az:Int) (A0:Li) (A7:List wA) (A8:Int) (w2k:Li) (w2v:List wL) (w4k:Lb) (w4v:Li) (w5k:Lb) (w5v:List (Li)) (w6k:Lb) (w6v:Lo) (w7 w9:Li) (w10:List wK) (w11k:Li) (w11v:Lo),((w2k.length=w2v.length/\p1∈w2k)/\(gB w2k w2v p1).Txs.length<=4/\∀x∈(gB w2k w2v p1).Txs,TL x)->∀r0:wI,gB w2k w2v p1=r0->∀r1:Bool,(true:Bool)=r1->∀Aq:Int,Aa=Aq->∀Aw:Int,Ae=Aw->∀Ax:Int,Ab=Ax->∀B0:Int,Am=B0->∀B1:Int,Ao=B1->∀Bl:Int,Ag=Bl->∀Bm:Int,Aj=Bm->∀Bn:Int,Ah=Bn->∀Bo:Int,Ai=Bo->∀A9:Li,Ac=A9->∀Bz:Int,Ap=Bz->∀Ba:Int,Af=Ba->∀B6:Bool,At=B6->∀B7:Int,Au=B7->∀B8:Int,Av=B8->∀B9:List wB,As=B9->∀Ca:Int,Bb=Ca->∀Cb:Int,Bc=Cb->∀Cc:Int,Bd=Cc->∀Cd:Int,Be=Cd->∀Ce:Int,Bf=Ce->∀Cf:Int,Bg=Cf->∀Cg:Int,Bh=Cg->∀Ch:Int,Bi=Ch->∀Ci:Int,Bj=Ci->∀Cj:Int,Bk=Cj->∀B2:Int,Az=B2->∀B3:Li,A0=B3->∀B4:List wA,A7=B4->∀B5:Int,A8=B5->∀e2k:Li,w2k=e2k->∀e2v:List wL,w2v=e2v->∀e4k:Lb,w4k=e4k->∀e4v:Li,w4v=e4v->∀e5k:Lb,w5k=e5k->∀e5v:List (Li),w5v=e5v->∀e6k:Lb,w6k=e6k->∀e6v:Lo,w6v=e6v->∀e7:Li,w7=e7->∀e9:Li,w9=e9->∀e10:List wK,w10=e10->∀e11k:Li,w11k=e11k->∀e11v:Lo,w11v=e11v-> 
w2k.length=w2v.length/\let v2:wL:=mVal (BEq.beq p1) w2k w2v (default:wL)
((!mHas (BEq.beq p1) w2k)=true->
lz w10/\lz w9/\lz w7/\0=r0.wm/\0=r0.wM/\0=r0.wAl/\0=r0.wW/\0=r0.wY/\([]:List wZ)=r0.Txs/\false=r1/\Aa=Aq/\Ae=Aw/\Ab=Ax/\Am=B0/\Ao=B1/\Ag=Bl/\Aj=Bm/\Ah=Bn/\Ai=Bo/\Ac=A9/\Ap=Bz/\Af=Ba/\At=B6/\Au=B7/\Av=B8/\As=B9/\Bb=Ca/\Bc=Cb/\Bd=Cc/\Be=Cd/\Bf=Ce/\Bg=Cf/\Bh=Cg/\Bi=Ch/\Bj=Ci/\Bk=Cj/\Az=B2/\A0=B3/\A7=B4/\A8=B5/\w2k=e2k/\w2v=e2v/\w4k=e4k/\w4v=e4v/\w5k=e5k/\w5v=e5v/\w6k=e6k/\w6v=e6v/\w7=e7/\w9=e9/\w10=e10/\w11k=e11k/\w11v=e11v)/\
((!mHas (BEq.beq p1) w2k)=false->
((wI.mk v2.wAp v2.wAh v2.wAt v2.wAw v2.wAu v2.wAz).Txs.length<=4294967295/\∀x∈(wI.mk v2.wAp v2.wAh v2.wAt v2.wAw v2.wAu v2.wAz).Txs,TL x)/\lz w10/\lz w9/\lz w7/\v2.wAp=r0.wm/\v2.wAh=r0.wM/\v2.wAt=r0.wAl/\v2.wAw=r0.wW/\v2.wAu=r0.wY/\v2.wAz=r0.Txs/\true=r1/\Aa=Aq/\Ae=Aw/\Ab=Ax/\Am=B0/\Ao=B1/\Ag=Bl/\Aj=Bm/\Ah=Bn/\Ai=Bo/\Ac=A9/\Ap=Bz/\Af=Ba/\At=B6/\Au=B7/\Av=B8/\As=B9/\Bb=Ca/\Bc=Cb/\Bd=Cc/\Be=Cd/\Bf=Ce/\Bg=Cf/\Bh=Cg/\Bi=Ch/\Bj=Ci/\Bk=Cj/\Az=B2/\A0=B3/\A7=B4/\A8=B5/\w2k=e2k/\w2v=e2v/\w4k=e4k/\w4v=e4v/\w5k=e5k/\w5v=e5v/\w6k=e6k/\w6v=e6v/\w7=e7/\w9=e9/\w10=e10/\w11k=e11k/\w11v=e11v))<|by
 rintro p1 Aa Ae Ab Am Ao Ag Aj Ah Ai Ac Ap Af At Au Av As Bb Bc Bd Be Bf Bg Bh Bi Bj Bk Az A0 A7 A8 w2k w2v w4k w4v w5k w5v w6k w6v w7 w9 w10 w11k w11v h;repeat rintro _ rfl
 obtain⟨⟨hkv,hm⟩,h4,ht⟩:=h;have hm:mHas (BEq.beq p1) w2k=true:=k20.2 hm;refine⟨hkv,fun e=> ?_,fun _=>⟨⟨?_,ht⟩,(by repeat' first|apply qt|exact rfl|exact qm)⟩⟩
 ·rw[hm]at e;cases e
 ·show(gB w2k w2v p1).Txs.length<=4294967295;omega
noncomputable def kff:Con TB.den:= .g (gk 29 [.one (.ptr 0 0)] yB (.tup [.one (.d (.sl (.st 3))),.one (.d (.bool))])) (.int .i64:: .int .i64:: .int .i64:: .int .i64:: .int .i64:: .int .u64:: .int .i64:: .int .i64:: .int .u64:: .sl yqu:: .int .u64:: .int .i64:: .bool::yH) (.sl (.st 3):: .bool:: .int .i64:: .int .i64:: .int .i64:: .int .i64:: .int .i64:: .int .u64:: .int .i64:: .int .i64:: .int .u64:: .sl yqu:: .int .u64:: .int .i64:: .bool::yH) [] fun(Aa Ae Ab Am Ao Ag Aj Ah Ai:Int) (Ac:Li) (Ap Af:Int) (At:Bool) (Au Av:Int) (As:List wB) (Bb Bc Bd Be Bf Bg Bh Bi Bj Bk Az:Int) (A0:Li) (A7:List wA) (A8:Int) (w2k:Li) (w2v:List wL) (w4k:Lb) (w4v:Li) (w5k:Lb) (w5v:List (Li)) (w6k:Lb) (w6v:Lo) (w7 w9:Li) (w10:List wK) (w11k:Li) (w11v:Lo)=>((w2k.length=w2v.length/\Ac.length<=1000)/\∀id∈Ac,id∈w2k/\(gB w2k w2v id).Txs.length<=4/\∀x∈(gB w2k w2v id).Txs,TL x,(Ac.map (gB w2k w2v):List wI),true,Aa,Ae,Ab,Am,Ao,Ag,Aj,Ah,Ai,Ac,Ap,Af,At,Au,Av,As,Bb,Bc,Bd,Be,Bf,Bg,Bh,Bi,Bj,Bk,Az,A0,A7,A8,w2k,w2v,w4k,w4v,w5k,w5v,w6k,w6v,w7,w9,w10,w11k,w11v,())
abbrev Fz11 (r:Type):=Int->Int->Int->Int->Int->Int->Int->Int->Int->Int->Int->Int->(Li)->(List wA)->Int->Bool->Int->Int->(List wB)->Int->Int->Int->Int->Int->Int->Int->Int->Int->(Li)->Int->Int->(List wI)->(Li)->(Lo)->(List wK)->(Li)->(Li)->(Lb)->(Lo)->(Lb)->(List (Li))->(Lb)->(Li)->(Li)->(List wL)->r
theorem k85:kff.Ok Tryz.prog TB:=prv Bs Tryz.func29 (.r 1 (.nd [] (.r 0 (.lp [.tok 4 (.st 3)] ⟨[12,11,10,9,8,7,6,5,4,3,2,1,0],[.tip (.st 3),.map yqu (.bool),.vec (.st 10),.vec yqu,.cells [.mp 1],.vec yqu,.map (.str) (.bool),.map (.str) (.sl yqu),.map (.str) yqi,.cells [zqi,zqi,zqi,zqi,zqi,zqu,zqi,zqi,zqu,zqi,zqi,zql,.row 5,.ptr 4 0,.d (.sl (.st 9)),zqu,.row 3,.row 2],.map yqu (.st 11),.cells [.d (.bool),zqu,zqi,.d (.sl (.st 4)),.mp 8,.mp 7,.mp 6],.cells [.ptr 11 0,zqi,zqi,zqi,zqi,zqi,zqu,zqi,zqi,zqu,.mp 10,zql,.ptr 9 0,zqu,zqi]],[4,12],[.one (.own 0),.one (zqi)],[]⟩ .no)) [] .no)) (khz.c (kg4.c c0)) (Q:=∀(Aa Ae Ab Am Ao Ag Aj Ah Ai:Int) (Ac:Li) (Ap Af:Int) (At:Bool) (Au Av:Int) (As:List wB) (Bb Bc Bd Be Bf Bg Bh Bi Bj Bk Az:Int) (A0:Li) (A7:List wA) (A8:Int) (w2k:Li) (w2v:List wL) (w4k:Lb) (w4v:Li) (w5k:Lb) (w5v:List (Li)) (w6k:Lb) (w6v:Lo) (w7 w9:Li) (w10:List wK) (w11k:Li) (w11v:Lo),((w2k.length=w2v.length/\Ac.length<=1000)/\∀id∈Ac,id∈w2k/\(gB w2k w2v id).Txs.length<=4/\∀x∈(gB w2k w2v id).Txs,TL x)->∀r0:List wI,(Ac.map (gB w2k w2v))=r0->∀r1:Bool,(true:Bool)=r1->∀Aq:Int,Aa=Aq->∀Aw:Int,Ae=Aw->∀Ax:Int,Ab=Ax->∀B0:Int,Am=B0->∀B1:Int,Ao=B1->∀Bl:Int,Ag=Bl->∀Bm:Int,Aj=Bm->∀Bn:Int,Ah=Bn->∀Bo:Int,Ai=Bo->∀A9:Li,Ac=A9->∀Bz:Int,Ap=Bz->∀Ba:Int,Af=Ba->∀B6:Bool,At=B6->∀B7:Int,Au=B7->∀B8:Int,Av=B8->∀B9:List wB,As=B9->∀Ca:Int,Bb=Ca->∀Cb:Int,Bc=Cb->∀Cc:Int,Bd=Cc->∀Cd:Int,Be=Cd->∀Ce:Int,Bf=Ce->∀Cf:Int,Bg=Cf->∀Cg:Int,Bh=Cg->∀Ch:Int,Bi=Ch->∀Ci:Int,Bj=Ci->∀Cj:Int,Bk=Cj->∀B2:Int,Az=B2->∀B3:Li,A0=B3->∀B4:List wA,A7=B4->∀B5:Int,A8=B5->∀e2k:Li,w2k=e2k->∀e2v:List wL,w2v=e2v->∀e4k:Lb,w4k=e4k->∀e4v:Li,w4v=e4v->∀e5k:Lb,w5k=e5k->∀e5v:List (Li),w5v=e5v->∀e6k:Lb,w6k=e6k->∀e6v:Lo,w6v=e6v->∀e7:Li,w7=e7->∀e9:Li,w9=e9->∀e10:List wK,w10=e10->∀e11k:Li,w11k=e11k->∀e11v:Lo,w11v=e11v-> 
lz w10/\lz w9/\lz w7/\(Ac.length<=1000)/\lz w10/\lz w9/\lz w7/\(([]:List wI)=([]:List wI))/\∃(I1:Fz11 Prop) (M1:Fz11 Nat),I1 0 Bb Bc Bd Be Bf Bg Bh Bi Bj Bk Az A0 A7 A8 At Au Av As Aa Ae Ab Am Ao Ag Aj Ah Ai Ac Ap Af ([]:List wI) w11k w11v w10 w9 w7 w6k w6v w5k w5v w4k w4v w2k w2v/\∀b1 f1 i1 k1 l1 m1 n1 o1 q1 s1 t1 u1 x1 y1 b2 f2 i2 k2 l2 m2 n2 o2 q2 s2 t2 u2 x2 y2 b3 f3 i3 k3 l3 m3 n3 o3 q3 s3 t3 u3 x3 y3 b4 f4 i4,(I1 b1 f1 i1 k1 l1 m1 n1 o1 q1 s1 t1 u1 x1 y1 b2 f2 i2 k2 l2 m2 n2 o2 q2 s2 t2 u2 x2 y2 b3 f3 i3 k3 l3 m3 n3 o3 q3 s3 t3 u3 x3 y3 b4 f4 i4->
(decide (b1<(Ac.length:Int))=true->
(0<=b1)/\b1<(Ac.length:Int)/\lz n3/\lz o3/\lz q3/\((f4.length=i4.length/\(ix Ac b1)∈f4)/\(gB f4 i4 (ix Ac b1)).Txs.length<=4/\∀x∈(gB f4 i4 (ix Ac b1)).Txs,TL x)/\((!true)=true->
lz n3/\lz o3/\lz q3/\([]:List wI)=r0/\false=r1/\m2=Aq/\n2=Aw/\o2=Ax/\q2=B0/\s2=B1/\t2=Bl/\u2=Bm/\x2=Bn/\y2=Bo/\b3=A9/\f3=Bz/\i3=Ba/\f2=B6/\i2=B7/\k2=B8/\l2=B9/\f1=Ca/\i1=Cb/\k1=Cc/\l1=Cd/\m1=Ce/\n1=Cf/\o1=Cg/\q1=Ch/\s1=Ci/\t1=Cj/\u1=B2/\x1=B3/\y1=B4/\b2=B5/\f4=e2k/\i4=e2v/\y3=e4k/\b4=e4v/\u3=e5k/\x3=e5v/\s3=e6k/\t3=e6v/\q3=e7/\o3=e9/\n3=e10/\l3=e11k/\m3=e11v)/\
((!true)=false->
lz k3/\(k3.length+[(gB f4 i4 (ix Ac b1))].length)*64<=140737488355328/\k3.length+[(gB f4 i4 (ix Ac b1))].length<=maxLen/\lz n3/\lz o3/\lz q3/\(k3++[(gB f4 i4 (ix Ac b1))]=k3++[(gB f4 i4 (ix Ac b1))])/\I1 (i64.wrap (b1+1)) f1 i1 k1 l1 m1 n1 o1 q1 s1 t1 u1 x1 y1 b2 f2 i2 k2 l2 m2 n2 o2 q2 s2 t2 u2 x2 y2 b3 f3 i3 (k3++[(gB f4 i4 (ix Ac b1))]) l3 m3 n3 o3 q3 s3 t3 u3 x3 y3 b4 f4 i4/\M1 (i64.wrap (b1+1)) f1 i1 k1 l1 m1 n1 o1 q1 s1 t1 u1 x1 y1 b2 f2 i2 k2 l2 m2 n2 o2 q2 s2 t2 u2 x2 y2 b3 f3 i3 (k3++[(gB f4 i4 (ix Ac b1))]) l3 m3 n3 o3 q3 s3 t3 u3 x3 y3 b4 f4 i4<M1 b1 f1 i1 k1 l1 m1 n1 o1 q1 s1 t1 u1 x1 y1 b2 f2 i2 k2 l2 m2 n2 o2 q2 s2 t2 u2 x2 y2 b3 f3 i3 k3 l3 m3 n3 o3 q3 s3 t3 u3 x3 y3 b4 f4 i4))/\
(decide (b1<(Ac.length:Int))=false->
lz n3/\lz o3/\lz q3/\k3=r0/\true=r1/\m2=Aq/\n2=Aw/\o2=Ax/\q2=B0/\s2=B1/\t2=Bl/\u2=Bm/\x2=Bn/\y2=Bo/\b3=A9/\f3=Bz/\i3=Ba/\f2=B6/\i2=B7/\k2=B8/\l2=B9/\f1=Ca/\i1=Cb/\k1=Cc/\l1=Cd/\m1=Ce/\n1=Cf/\o1=Cg/\q1=Ch/\s1=Ci/\t1=Cj/\u1=B2/\x1=B3/\y1=B4/\b2=B5/\f4=e2k/\i4=e2v/\y3=e4k/\b4=e4v/\u3=e5k/\x3=e5v/\s3=e6k/\t3=e6v/\q3=e7/\o3=e9/\n3=e10/\l3=e11k/\m3=e11v)))<|by
 rintro Aa Ae Ab Am Ao Ag Aj Ah Ai Ac Ap Af At Au Av As Bb Bc Bd Be Bf Bg Bh Bi Bj Bk Az A0 A7 A8 w2k w2v w4k w4v w5k w5v w6k w6v w7 w9 w10 w11k w11v h;repeat rintro _ rfl
 obtain⟨⟨hkv,hl⟩,hb⟩:=h;refine⟨rfl,rfl,rfl,hl,rfl,rfl,rfl,rfl,(fun b a0 a1 a2 a3 a4 a5 a6 a7 a8 a9 a10 a11 a12 a13 a14 a15 a16 a17 a18 a19 a20 a21 a22 a23 a24 a25 a26 a27 a28 a29 K z0 z1 z2 z3 z4 z5 z6 z7 z8 z9 z10 z11 z12=>∃m:Nat,b=(m:Int)/\m<=Ac.length/\(Bb=a0/\Bc=a1/\Bd=a2/\Be=a3/\Bf=a4/\Bg=a5/\Bh=a6/\Bi=a7/\Bj=a8/\Bk=a9/\Az=a10/\A0=a11/\A7=a12/\A8=a13/\At=a14/\Au=a15/\Av=a16/\As=a17/\Aa=a18/\Ae=a19/\Ab=a20/\Am=a21/\Ao=a22/\Ag=a23/\Aj=a24/\Ah=a25/\Ai=a26/\Ac=a27/\Ap=a28/\Af=a29/\w11k=z0/\w11v=z1/\w10=z2/\w9=z3/\w7=z4/\w6k=z5/\w6v=z6/\w5k=z7/\w5v=z8/\w4k=z9/\w4v=z10/\w2k=z11/\w2v=z12)/\K=(Ac.take m).map (gB w2k w2v)),(fun b _ _ _ _ _ _ _ _ _ _ _ _ _ _ _ _ _ _ _ _ _ _ _ _ _ _ _ _ _ _ _ _ _ _ _ _ _ _ _ _ _ _ _ _=>(Ac.length-b).toNat),⟨0,rfl,qav _,⟨rfl,rfl,rfl,rfl,rfl,rfl,rfl,rfl,rfl,rfl,rfl,rfl,rfl,rfl,rfl,rfl,rfl,rfl,rfl,rfl,rfl,rfl,rfl,rfl,rfl,rfl,rfl,rfl,rfl,rfl,rfl,rfl,rfl,rfl,rfl,rfl,rfl,rfl,rfl,rfl,rfl,rfl,rfl⟩,rfl⟩,?_⟩;rintro _ _ _ _ _ _ _ _ _ _ _ _ _ _ _ _ _ _ _ _ _ _ _ _ _ _ _ _ _ _ _ _ _ _ _ _ _ _ _ _ _ _ _ _ _ ⟨m,rfl,hm,⟨rfl,rfl,rfl,rfl,rfl,rfl,rfl,rfl,rfl,rfl,rfl,rfl,rfl,rfl,rfl,rfl,rfl,rfl,rfl,rfl,rfl,rfl,rfl,rfl,rfl,rfl,rfl,rfl,rfl,rfl,rfl,rfl,rfl,rfl,rfl,rfl,rfl,rfl,rfl,rfl,rfl,rfl,rfl⟩,rfl⟩;refine⟨fun e=> ?_,fun e=> ?_⟩
 ·have e:(m:Int)<Ac.length:=qb e;have hml:m<Ac.length:=by omega
  obtain⟨h1,h2,h3⟩:=hb _ (qal hml);rw[ix_get _ _ hml,inc (m:Int) Ac.length qqo e qqo];refine⟨by omega,e,rfl,rfl,rfl,⟨⟨hkv,h1⟩,h2,h3⟩,fun h=>(by cases h),fun _=> ?_⟩;refine⟨rfl,?_,?_,rfl,rfl,rfl,rfl,⟨m+1,rfl,by omega,⟨rfl,rfl,rfl,rfl,rfl,rfl,rfl,rfl,rfl,rfl,rfl,rfl,rfl,rfl,rfl,rfl,rfl,rfl,rfl,rfl,rfl,rfl,rfl,rfl,rfl,rfl,rfl,rfl,rfl,rfl,rfl,rfl,rfl,rfl,rfl,rfl,rfl,rfl,rfl,rfl,rfl,rfl,rfl⟩,?_⟩,by(first|omega|(dsimp only;omega))⟩
  ·simp only[ql,qaa,qbm];omega
  ·simp only[ql,qaa,qbm];unfold maxLen;omega
  ·rw[qan hml,qbc];rfl
 ·have e:¬(m:Int)<Ac.length:=qc e;rw[qx qqo];exact(by repeat' first|apply qt|exact rfl|exact qm)
noncomputable def kdq:Con TB.den:= .tp 27 [] [.bool] [] (true,())
theorem kfy:kdq.Ok Tryz.prog TB:=qtv Bs Tryz.func27 .no (k62.c (k9y.c (k5b.c (k57.c (k85.c (k61.c c0)))))) (Q:=∀r0:Bool,(true:Bool)=r0-> 
((rulesE (wE.mk 2 2 0 0 0 50 3 5 1)=0/\(wE.mk 2 2 0 0 0 50 3 5 1).wb=2/\false=false)/\let r1:=wE.mk 2 2 0 0 0 50 3 5 1
let r2:=newS (wE.mk 2 2 0 0 0 50 3 5 1)
(((0:Int) !=0)=true->
false=r0)/\
(((0:Int) !=0)=false->
lz r2.p/\lz r2.r/\lz r2.l/\(SCh (CS.mk (wE.mk ((wE.mk 2 2 0 0 0 50 3 5 1).wb) ((wE.mk 2 2 0 0 0 50 3 5 1).wC) r1.wR r1.wO r1.wN ((wE.mk 2 2 0 0 0 50 3 5 1).wV) ((wE.mk 2 2 0 0 0 50 3 5 1).wc) r1.wU ((wE.mk 2 2 0 0 0 50 3 5 1).wW)) ([]:Li) ([]:List wL) ([]:Li) (r2) (0:Int) (0:Int)) (wI.mk 0 1 7 1 0 ([]:List wZ))/\false=false/\[]=([]:Lb)/\[]=([]:Li))/\let r3:=subS (CS.mk (wE.mk ((wE.mk 2 2 0 0 0 50 3 5 1).wb) ((wE.mk 2 2 0 0 0 50 3 5 1).wC) r1.wR r1.wO r1.wN ((wE.mk 2 2 0 0 0 50 3 5 1).wV) ((wE.mk 2 2 0 0 0 50 3 5 1).wc) r1.wU ((wE.mk 2 2 0 0 0 50 3 5 1).wW)) ([]:Li) ([]:List wL) ([]:Li) (r2) (0:Int) (0:Int)) (wI.mk 0 1 7 1 0 ([]:List wZ))
lz r3.c.S.p/\lz r3.c.S.r/\lz r3.c.S.l/\((r3.c.k.length=r3.c.v.length/\r3.c.be.length<=1000)/\∀id∈r3.c.be,id∈r3.c.k/\(gB r3.c.k r3.c.v id).Txs.length<=4/\∀x∈(gB r3.c.k r3.c.v id).Txs,TL x)/\((BLk (r3.c.be.map (gB r3.c.k r3.c.v))/\((r3.c.be.map (gB r3.c.k r3.c.v))≠[]->(wE.mk 2 2 0 0 0 50 3 5 1).wC<=6)/\0<=(wE.mk 2 2 0 0 0 50 3 5 1).wV)/\false=false/\[]=([]:Lb)/\[]=([]:Li))/\let r4:=(audS false (wE.mk 2 2 0 0 0 50 3 5 1) (r3.c.be.map (gB r3.c.k r3.c.v))).1
let r5:Int:=((audS false (wE.mk 2 2 0 0 0 50 3 5 1) (r3.c.be.map (gB r3.c.k r3.c.v))).2)
((r3.e==0)=true->
((r3.a==1)=true->
(true=true->
let v6:Int:=((r3.c.be.map (gB r3.c.k r3.c.v)).length:Int)
((v6==1)=true->
((r5==0)=true->
((r4.wBK==50)=true->
(r4.wBG==50)=r0)/\
((r4.wBK==50)=false->
false=r0))/\
((r5==0)=false->
false=r0))/\
((v6==1)=false->
false=r0))/\
(true=false->
false=r0))/\
((r3.a==1)=false->
false=r0))/\
((r3.e==0)=false->
false=r0)))∨((rulesE (wE.mk 2 2 0 0 0 50 3 5 1)≠0)/\false=r0))<|by
 rintro _ rfl;have hE:rulesE R55=0:=by kernel_rfl
 obtain⟨⟨w1,w2⟩,w3,w4⟩:=aw55;have g1:GB (wI.mk 0 1 7 1 0 []):=GB.emp qqd ⟨by decide,by decide⟩ qqd qqd;have hC0:=newC_CI hE qqd;have hC1:CI X55.c 1:=subS_CI hC0 qqo g1;refine .inl ⟨⟨hE,rfl,rfl⟩,fun e=>(by cases e),fun _=>⟨rfl,rfl,rfl,⟨⟨⟨0,by omega,hC0⟩,g1,rfl⟩,rfl,rfl,rfl⟩,rfl,rfl,rfl,hC1.best qqo,⟨⟨hC1.blk qqo,fun _=>by decide,by decide⟩,rfl,rfl,rfl⟩,fun e1=>⟨fun e2=>⟨fun _=>⟨fun e3=>⟨fun e4=>⟨fun e5=> ?_,fun e5=> ?_⟩,fun e4=> ?_⟩,fun e3=> ?_⟩,fun e=>(by cases e)⟩,fun e2=> ?_⟩,fun e1=> ?_⟩⟩
 ·show((audS false R55 (X55.c.be.map (gB X55.c.k X55.c.v))).1.wBG==50)=true;rw[w4];rfl
 ·have e5:((audS false R55 (X55.c.be.map (gB X55.c.k X55.c.v))).1.wBK==50)=false:=e5;rw[w4]at e5;cases e5
 ·have e4:((audS false R55 (X55.c.be.map (gB X55.c.k X55.c.v))).2==0)=false:=e4;rw[w4]at e4;cases e4
 ·have e3:(((X55.c.be.map (gB X55.c.k X55.c.v)).length:Int)==1)=false:=e3;rw[ql,w3]at e3;cases e3
 ·have e2:(X55.a==1)=false:=e2;rw[w2]at e2;cases e2
 ·have e1:(X55.e==0)=false:=e1;rw[w1]at e1;cases e1
noncomputable def kfs:Con TB.den:= .tp 36 [.st 5] [.bool] [] fun(p0:wAa)=>((prS p0:Bool),())
theorem ki2:kfs.Ok Tryz.prog TB:=qtv Bs Tryz.func36 (.r 1 (.nd [] (.r 0 (.lp [] ⟨[],[],[3,5],[.one (.d (.bool)),.one (zqi)],[]⟩ .no)) [] (.nd [] (.r 0 (.lp [] ⟨[],[],[4,6],[.one (.d (.bool)),.one (zqi)],[]⟩ .no)) [] .no))) c0 (Q:=∀(p0:wAa),∀r0:Bool,prS p0=r0-> 
∃(I1:Bool->Int->Prop) (M1:Bool->Int->Nat),I1 false 2/\∀b1 f1,(I1 b1 f1->
(decide (f1<=256)=true->
(b1=true->
I1 true (i64.wrap (2*f1))/\M1 true (i64.wrap (2*f1))<M1 b1 f1)/\
(b1=false->
I1 (p0.wBE==f1) (i64.wrap (2*f1))/\M1 (p0.wBE==f1) (i64.wrap (2*f1))<M1 b1 f1))/\
(decide (f1<=256)=false->
∃(I2:Bool->Int->Prop) (M2:Bool->Int->Nat),I2 false 1/\∀i1 k1,(I2 i1 k1->
(decide (k1<=8)=true->
(i1=true->
I2 true (i64.wrap (2*k1))/\M2 true (i64.wrap (2*k1))<M2 i1 k1)/\
(i1=false->
I2 (p0.wAq==k1) (i64.wrap (2*k1))/\M2 (p0.wAq==k1) (i64.wrap (2*k1))<M2 i1 k1))/\
(decide (k1<=8)=false->
(b1=true->
(i1=true->
(decide (1<=p0.wBD)=true->
decide (p0.wBD<=64)=r0)/\
(decide (1<=p0.wBD)=false->
false=r0))/\
(i1=false->
false=r0))/\
(b1=false->
false=r0))))))<|by
 rintro p0 _ rfl
 have hw:∀n k:Nat,k<=8->i64.wrap (2*(n*((2^k:Nat):Int)))=n*((2^(k+1):Nat):Int)∨2<n:=by
  intro n k hk;rcases qay 2 n with h|h
  ·exact .inr h
  ·have h1:2^k<=2^8:=qcs qqd hk;have h2:2^(k+1)=2*2^k:=by rw[Nat.pow_succ];omega
   rw[h2];generalize 2^k=q at *
   refine .inl ?_;have:n=0∨n=1∨n=2:=by omega
   rcases this with rfl|rfl|rfl
   ·rw[ko _ qqo qqo];omega
   ·rw[ko _ qqo qqo];omega
   ·rw[ko _ qqo qqo];omega
 refine(⟨(fun s a=>∃k:Nat,k<=8/\a=2*((2^k:Nat):Int)/\s=pws k 2 p0.wBE),(fun _ a=>(1000-a).toNat),⟨0,by omega,rfl,rfl⟩,?_⟩);rintro _ _ ⟨k,hk,rfl,rfl⟩;have h1:=qcg k;have h2:2^(k+1)=2*2^k:=by rw[Nat.pow_succ];omega
 refine⟨fun e=> ?_,fun e=> ?_⟩
 ·have e:=qb e
  have hk7:k<=7:=by
   rcases qay k 8 with h|h
   ·omega
   ·have:k=8:=by omega
    subst this;exact absurd e qqd
  have hwk:i64.wrap (2*(2*((2^k:Nat):Int)))=2*((2^(k+1):Nat):Int):=(hw 2 k hk).resolve_right qqd;rw[hwk];refine⟨fun e2=>⟨⟨k+1,by omega,rfl,?_⟩,?_⟩,fun e2=>⟨⟨k+1,by omega,rfl,?_⟩,?_⟩⟩
  ·rw[k7r,e2];rfl
  ·rw[h2];generalize 2^k=q at *;(dsimp only;omega)
  ·rw[k7r,e2];rfl
  ·rw[h2];generalize 2^k=q at *;(dsimp only;omega)
 have e:=qc e
 have hk8:k=8:=by
  rcases qay k 8 with h|h
  ·have:2^k<=2^7:=qcs qqd qqo;omega
  ·omega
 subst hk8;refine⟨(fun s a=>∃k:Nat,k<=4/\a=1*((2^k:Nat):Int)/\s=pws k 1 p0.wAq),(fun _ a=>(1000-a).toNat),⟨0,by omega,rfl,rfl⟩,?_⟩;rintro _ _ ⟨k,hk,rfl,rfl⟩;have h1:=qcg k;have h2:2^(k+1)=2*2^k:=by rw[Nat.pow_succ];omega
 refine⟨fun e=> ?_,fun e=> ?_⟩
 ·have e:=qb e
  have hk7:k<=3:=by
   rcases qay k 4 with h|h
   ·omega
   ·have:k=4:=by omega
    subst this;exact absurd e qqd
  have hwk:i64.wrap (2*(1*((2^k:Nat):Int)))=1*((2^(k+1):Nat):Int):=(hw 1 k qqo).resolve_right qqd;rw[hwk];refine⟨fun e2=>⟨⟨k+1,by omega,rfl,?_⟩,?_⟩,fun e2=>⟨⟨k+1,by omega,rfl,?_⟩,?_⟩⟩
  ·rw[k7r,e2];rfl
  ·rw[h2];generalize 2^k=q at *;(dsimp only;omega)
  ·rw[k7r,e2];rfl
  ·rw[h2];generalize 2^k=q at *;(dsimp only;omega)
 have e:=qc e
 have hk4:k=4:=by
  rcases qay k 4 with h|h
  ·have:2^k<=2^3:=qcs qqd qqo;omega
  ·omega
 subst hk4;unfold prS;refine⟨fun e=>⟨fun e2=>⟨fun e3=> ?_,fun e3=> ?_⟩,fun e2=> ?_⟩,fun e=> ?_⟩
 ·rw[e,e2,e3];simp
 ·rw[e,e2,e3];simp
 ·rw[e,e2];simp
 ·rw[e];simp
noncomputable def kin:Con TB.den:= .tp 9 [.st 0] [yqi] [] fun(p0:wE)=>((rulesE p0:Int),())
theorem kk7:kin.Ok Tryz.prog TB:=qtv Bs Tryz.func9 .no (ki2.c c0) (Q:=∀(p0:wE),∀r0:Int,rulesE p0=r0-> 
(decide (p0.wb<1)=true->
1=r0)/\
(decide (p0.wb<1)=false->
(decide (3<p0.wb)=true->
1=r0)/\
(decide (3<p0.wb)=false->
(decide (p0.wC<1)=true->
1=r0)/\
(decide (p0.wC<1)=false->
(decide (12<p0.wC)=true->
1=r0)/\
(decide (12<p0.wC)=false->
(decide (p0.wc<1)=true->
1=r0)/\
(decide (p0.wc<1)=false->
(decide (100<p0.wc)=true->
1=r0)/\
(decide (100<p0.wc)=false->
(decide (p0.wU<1)=true->
1=r0)/\
(decide (p0.wU<1)=false->
(decide (1048576<p0.wU)=true->
1=r0)/\
(decide (1048576<p0.wU)=false->
(decide (4294967296<p0.wV)=true->
1=r0)/\
(decide (4294967296<p0.wV)=false->
(decide (p0.wW<1)=true->
1=r0)/\
(decide (p0.wW<1)=false->
(decide (65536<p0.wW)=true->
1=r0)/\
(decide (65536<p0.wW)=false->
((p0.wb==1)=true->
let r1:Bool:=(prS (wAa.mk p0.wR p0.wO p0.wN))
((!r1)=true->
1=r0)/\
((!r1)=false->
0=r0))/\
((p0.wb==1)=false->
0=r0)))))))))))))<|by
 rintro p0 _ rfl;have no:¬rulesB p0=true->1=rulesE p0:=fun h=>by unfold rulesE;rw[qf h]
 have nb:∀c:Prop,(rulesB p0=true->¬c)->c->1=rulesE p0:=fun c h hc=>no fun hb=>h hb hc;have ub:rulesB p0=true->(1<=p0.wb/\p0.wb<=3)/\(1<=p0.wC/\p0.wC<=12)/\(1<=p0.wc/\p0.wc<=100)/\(1<=p0.wU/\p0.wU<=1048576)/\p0.wV<=4294967296/\1<=p0.wW/\p0.wW<=65536:=by intro hb;simp only[rulesB,qe,qae]at hb;omega
 refine⟨fun e=>nb _ (fun hb h=>by have:=ub hb;omega) (qb e),fun e1=>⟨fun e=>nb _ (fun hb h=>by have:=ub hb;omega) (qb e),fun e2=>⟨fun e=>nb _ (fun hb h=>by have:=ub hb;omega) (qb e),fun e3=>⟨fun e=>nb _ (fun hb h=>by have:=ub hb;omega) (qb e),fun e4=>⟨fun e=>nb _ (fun hb h=>by have:=ub hb;omega) (qb e),fun e5=>⟨fun e=>nb _ (fun hb h=>by have:=ub hb;omega) (qb e),fun e6=>⟨fun e=>nb _ (fun hb h=>by have:=ub hb;omega) (qb e),fun e7=>⟨fun e=>nb _ (fun hb h=>by have:=ub hb;omega) (qb e),fun e8=>⟨fun e=>nb _ (fun hb h=>by have:=ub hb;omega) (qb e),fun e9=>⟨fun e=>nb _ (fun hb h=>by have:=ub hb;omega) (qb e),fun e10=>⟨fun e=>nb _ (fun hb h=>by have:=ub hb;omega) (qb e),fun e11=> ?_⟩⟩⟩⟩⟩⟩⟩⟩⟩⟩⟩;have e1:=qc e1;have e2:=qc e2;have e3:=qc e3;have e4:=qc e4;have e5:=qc e5;have e6:=qc e6;have e7:=qc e7;have e8:=qc e8;have e9:=qc e9;have e10:=qc e10;have e11:=qc e11;have hb:rulesB p0=true:=by simp only[rulesB,qe,qae];omega
 unfold rulesE;rw[qh hb];refine⟨fun e=>⟨fun e3=> ?_,fun e3=> ?_⟩,fun e=> ?_⟩
 ·have e:p0.wb=1:=by simpa using e
  have e3:¬prS ⟨p0.wR,p0.wO,p0.wN⟩=true:=by simpa using e3
  rw[qh e,qf e3]
 ·have e:p0.wb=1:=by simpa using e
  have e3:prS ⟨p0.wR,p0.wO,p0.wN⟩=true:=by simpa using e3
  rw[qh e,qh e3]
 ·have e:¬p0.wb=1:=by simpa using e
  rw[qf e]
noncomputable def ki8:Con TB.den:= .gp 114 [.st 2,yqi] [.bool] [] fun(p0:wZ) (p1:Int)=>(p0.wD.length<=9223372036854775807,(smallB p0 p1:Bool),())
theorem kkq:ki8.Ok Tryz.prog TB:=qrv Bs Tryz.func114 (.r 0 (.nd [] (.r 0 (.lp [] ⟨[],[],[5],[.one (zqi)],[]⟩ .no)) [] .no)) c0 (Q:=∀(p0:wZ) (p1:Int),(p0.wD.length<=9223372036854775807)->∀r0:Bool,smallB p0 p1=r0-> 
∃(I1:Int->Prop) (M1:Int->Nat),I1 0/\∀b1,(I1 b1->
(decide (b1<(p0.wD.length:Int))=true->
(0<=b1)/\b1<(p0.wD.length:Int)/\let v1:Bool:=decide (10<(((ix p0.wD b1).wAB).length:Int))
(v1=true->
false=r0)/\
(v1=false->
I1 (i64.wrap (b1+1))/\M1 (i64.wrap (b1+1))<M1 b1))/\
(decide (b1<(p0.wD.length:Int))=false->
(decide ((p0.wJ.length:Int)<=10)=true->
(decide ((p0.wD.length:Int)<=10)=true->
decide ((p0.wv.length:Int)<=p1)=r0)/\
(decide ((p0.wD.length:Int)<=10)=false->
false=r0))/\
(decide ((p0.wJ.length:Int)<=10)=false->
false=r0))))<|by
 rintro p0 p1 h _ rfl;refine(⟨(fun i=>0<=i/\i<=p0.wD.length/\∀x∈p0.wD.take i.toNat,x.wAB.length<=10),(fun i=>(p0.wD.length-i).toNat),⟨by omega,by omega,by simp⟩,?_⟩);rintro i ⟨g0,g1,g2⟩;refine⟨fun hh=> ?_,fun hh=> ?_⟩
 ·have hh:=qb hh;refine⟨g0,hh,fun e=> ?_,fun e=> ?_⟩
  ·have e:=qb e;unfold smallB;have:p0.wD.all (fun x=>decide (x.wAB.length<=10))=false:=qcl.2 ⟨_,ix_mem p0.wD i g0 hh,by simp;omega⟩;rw[this];simp
  ·have e:=qc e;rw[inc i p0.wD.length g0 hh qqo];refine⟨⟨by omega,by omega,?_⟩,by(dsimp only;omega)⟩;rw[ke p0.wD i g0 hh];intro x hx;rcases qac.1 hx with hx|hx
   ·exact g2 x hx
   ·have:x=ix p0.wD i:=by simpa using hx
    rw[this];omega
 ·have hh:=qc hh;rw[qx qqo]at g2;unfold smallB;have:p0.wD.all (fun x=>decide (x.wAB.length<=10))=true:=by simpa using g2
  rw[this];refine⟨fun h1=>⟨fun h2=> ?_,fun h2=> ?_⟩,fun h1=> ?_⟩
  ·have h1:=qb h1;have h2:=qb h2;rw[qbr (p:=p0.wJ.length<=10) qqo,qbr (p:=p0.wD.length<=10) qqo];simp
  ·have h2:=qc h2;rw[qby (p:=p0.wD.length<=10) qqo];simp
  ·have h1:=qc h1;rw[qby (p:=p0.wJ.length<=10) qqo];simp
end Go.Proofs.YtcghahkoioeddaaGreatDoor
end
