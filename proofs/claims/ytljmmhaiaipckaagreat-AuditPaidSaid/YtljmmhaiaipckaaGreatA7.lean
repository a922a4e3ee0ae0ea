/- Parts of the proofs, merged by a program. -/
import Derived.Test.YtljmmhaiaipckaaGreatA6
set_option maxRecDepth 100000
set_option linter.all false
noncomputable section
namespace Go.Proofs.YtljmmhaiaipckaaGreat
open Go Go.Bv Go.Cv Go.Md Go.RowKit
open Go.IntKind (i64 u64)
noncomputable def kim:Ct:= .gp 100 [.sl yqu] [.sl yqu] [] fun(p0:Li)=>((∀x∈p0,0<=x/\x<18446744069414584321)/\p0.length<=100000,(pairs p0:Li),())
theorem k8t:kim.O:=qrx Bs [23,24] Tryz.func100 (.r 1 (.nd [] (.r 0 (.lp [.rnil 3 yqu] ⟨[],[.vec yqu],[3,4],[.one (.row 0),.one (zqi)],[0]⟩ .no)) [] (.r 0 (.rt [.frz 1 [2]])))) x0 (k3j.c c0) (Q:=∀(p0:Li),((∀x∈p0,0<=x/\x<18446744069414584321)/\p0.length<=100000)->∀r0:Li,pairs p0=r0-> 
(0=([]:Li).length)/\∃(I1:Int->(Li)->Prop) (M1:Int->(Li)->Nat),I1 0 ([]:Li)/\∀b1 f1,(I1 b1 f1->
let v1:Bool:=decide ((i64.wrap (b1+1))<(p0.length:Int))
(v1=true->
(0<=b1)/\b1<(p0.length:Int)/\(0<=i64.wrap (b1+1))/\i64.wrap (b1+1)<(p0.length:Int)/\(U64 (ix p0 b1)/\U64 (ix p0 (i64.wrap (b1+1))))/\let r2:Int:=(nd (ix p0 b1) (ix p0 (i64.wrap (b1+1))))
lz f1/\lz [r2]/\(f1.length+[r2].length)*8<=140737488355328/\f1.length+[r2].length<=maxLen/\lz (f1++[r2])/\I1 (i64.wrap (b1+2)) (f1++[r2])/\M1 (i64.wrap (b1+2)) (f1++[r2])<M1 b1 f1)/\
(v1=false->
lz f1/\f1=r0)))<|by
 rintro p0 h _ rfl;obtain⟨hu,hl⟩:=h;refine⟨rfl,⟨(fun a g=>∃j:Nat,a=(j:Int)/\j<=p0.length/\g.length<=j/\g++pairs (p0.drop j)=pairs p0),(fun a _=>(p0.length-a).toNat),⟨0,rfl,by omega,by simp,by simp⟩,?_⟩⟩;rintro _ g ⟨j,rfl,hj,hg,he⟩;have ei:=inc_i64 j qqo;refine⟨fun e=> ?_,fun e=> ?_⟩
 ·have e:=qb e;rw[ei]at e ⊢;have e:j+1<p0.length:=by omega
  have e0:j<p0.length:=by omega
  have u1:=hu _ (qah e0);have u2:=hu _ (qah e);rw[ix_get _ _ e0,ix_get _ _ e];rw[kok e]at he;rw[show i64.wrap ((j:Int)+2)=((j+2:Nat):Int)by rw[km _ qqo qqo];omega];refine⟨by omega,by omega,by omega,by omega,⟨⟨u1.1,by omega⟩,u2.1,by omega⟩,rfl,rfl,?_,?_,rfl,⟨j+2,rfl,by omega,?_,?_⟩,by(dsimp only;omega)⟩
  ·simp only[qj,qt];omega
  ·simp only[qj,qt];unfold maxLen;omega
  ·simp only[qh,qj,qt];omega
  ·rw[qw];exact he
 ·have e:=qc e;rw[ei]at e;rw[knq (by rw[qan];omega),qcd]at he;exact⟨rfl,he⟩
noncomputable def kit:Ct:= .gp 143 [yqi] [yqu] [] fun(p0:Int)=>(0<=p0/\p0<=12,(emp p0.toNat:Int),())
theorem kkr:kit.O:=qrv Bs Tryz.func143 (.r 2 (.nd [] (.r 0 (.lp [] ⟨[],[],[3,4],[.one (zqu),.one (zqi)],[]⟩ .no)) [] .no)) (k1a.c (k3j.c c0)) (Q:=∀(p0:Int),(0<=p0/\p0<=12)->∀r0:Int,emp p0.toNat=r0-> 
(decide (p0<0)=true->
0=r0)/\
(decide (p0<0)=false->
(decide (12<p0)=true->
0=r0)/\
(decide (12<p0)=false->
((18446744069414584321:Int)=18446744069414584321/\U64 (6:Int)/\Us ([]:Li)/\([]:Li).length<=1099511627776)/\∃(I1:Int->Int->Prop) (M1:Int->Int->Nat),I1 (hashS (6:Int) ([]:Li)) 0/\∀b1 f1,(I1 b1 f1->
(decide (f1<p0)=true->
(U64 b1/\U64 b1)/\I1 (nd b1 b1) (i64.wrap (f1+1))/\M1 (nd b1 b1) (i64.wrap (f1+1))<M1 b1 f1)/\
(decide (f1<p0)=false->
b1=r0)))))<|by
 rintro p0 h _ rfl;refine⟨fun e=>(by have:=qb e;omega),fun _=>⟨fun e=>(by have:=qb e;omega),fun _=>⟨⟨rfl,by decide,(by intro x hx;cases hx),by decide⟩,?_⟩⟩⟩;refine⟨(fun x a=>∃i:Nat,a=(i:Int)/\(i:Int)<=p0/\x=emp i),(fun _ a=>(p0-a).toNat),⟨0,rfl,by omega,rfl⟩,?_⟩;rintro _ _ ⟨i,rfl,hi,rfl⟩;refine⟨fun e=> ?_,fun e=> ?_⟩
 ·have e:=qb e;rw[inc_i64 _ qqo];exact⟨⟨emp_u i,emp_u i⟩,⟨i+1,rfl,by omega,rfl⟩,by(dsimp only;omega)⟩
 ·have e:=qc e;have:p0.toNat=i:=by omega
  rw[this]
noncomputable def kg5:Ct:= .gp 99 [yqi,.sl yqu] [.sl yqu] [] fun(p0:Int) (p1:Li)=>((0<=p0/\p0<=12)/\p1.length<=2^p0.toNat,(p1++List.replicate (2^p0.toNat-p1.length) (emp 0):Li),())
theorem k3u:kg5.O:=qrv Bs Tryz.func99 (.r 1 (.nd [] (.lp [] ⟨[1],[.tip yqu],[5],[.one (.own 0)],[]⟩ .no) [] .no)) (kkr.c c0) (Q:=∀(p0:Int) (p1:Li),((0<=p0/\p0<=12)/\p1.length<=2^p0.toNat)->∀r0:Li,(p1++List.replicate (2^p0.toNat-p1.length) (emp 0))=r0-> 
(([]:Li).length+p1.length)*8<=140737488355328/\([]:Li).length+p1.length<=maxLen/\(([]:Li)++p1=([]:Li)++p1)/\∃(I1:(Li)->Prop) (M1:(Li)->Nat),I1 (([]:Li)++p1)/\∀b1,(I1 b1->
(0<=p0)/\let v1:Bool:=decide ((b1.length:Int)<(ishl .i64 1 p0))
(v1=true->
(0<=(0:Int)/\(0:Int)<=12)/\lz b1/\(b1.length+[(emp (0:Int).toNat)].length)*8<=140737488355328/\b1.length+[(emp (0:Int).toNat)].length<=maxLen/\(b1++[(emp (0:Int).toNat)]=b1++[(emp (0:Int).toNat)])/\I1 (b1++[(emp (0:Int).toNat)])/\M1 (b1++[(emp (0:Int).toNat)])<M1 b1)/\
(v1=false->
b1=r0)))<|by
 rintro p0 p1 h _ rfl;obtain⟨⟨h0,h1⟩,h2⟩:=h;obtain⟨d,rfl⟩:=qn h0;rw[qx]at h2 ⊢;have hp:=pow12 d qqo;refine⟨by simp;omega,by simp;unfold maxLen;omega,rfl,?_⟩;refine⟨(fun g=>∃m:Nat,g=p1++List.replicate m (emp 0)/\p1.length+m<=2^d),(fun g=>2^d-g.length),⟨0,by simp,by omega⟩,?_⟩;rintro _ ⟨m,rfl,hm⟩;have hl:(p1++List.replicate m (emp 0)).length=p1.length+m:=by simp
 refine⟨h0,?_⟩;rw[shl1 d qqo];refine⟨fun e=> ?_,fun e=> ?_⟩
 ·have e:=qb e;rw[hl]at e;refine⟨by decide,rfl,?_,?_,rfl,⟨m+1,?_,by omega⟩,?_⟩
  ·rw[hl];simp only[qj,qt];omega
  ·rw[hl];simp only[qj,qt];unfold maxLen;omega
  ·rw[qw,List.replicate_succ'];rfl
  ·dsimp only;rw[qh,hl];simp only[qj,qt];omega
 ·have e:=qc e;rw[hl]at e;have:2^d-p1.length=m:=by omega
  rw[this]
noncomputable def kik:Ct:= .gp 69 [yqi,.sl yqu] [yqu] [] fun(p0:Int) (p1:Li)=>((0<=p0/\p0<=12)/\p1.length<=2^p0.toNat/\(∀x∈p1,0<=x/\x<18446744069414584321),(TT (lf p1) p0.toNat 0:Int),())
theorem k8p:kik.O:=qrv Bs Tryz.func69 (.r 1 (.nd [] (.lp [] ⟨[],[],[5],[.one (zql)],[]⟩ .no) [] .no)) (k3u.c (k8t.c c0)) (Q:=∀(p0:Int) (p1:Li),((0<=p0/\p0<=12)/\p1.length<=2^p0.toNat/\(∀x∈p1,0<=x/\x<18446744069414584321))->∀r0:Int,(TT (lf p1) p0.toNat 0)=r0-> 
((0<=p0/\p0<=12)/\p1.length<=2^p0.toNat)/\let r1:Li:=(p1++List.replicate (2^p0.toNat-p1.length) (emp 0))
∃(I1:(Li)->Prop) (M1:(Li)->Nat),I1 r1/\∀b1,(I1 b1->
(decide (1<(b1.length:Int))=true->
((∀x∈b1,0<=x/\x<18446744069414584321)/\b1.length<=100000)/\I1 (pairs b1)/\M1 (pairs b1)<M1 b1)/\
(decide (1<(b1.length:Int))=false->
0<(b1.length:Int)/\ix b1 0=r0)))<|by
 rintro p0 p1 h _ rfl;obtain⟨⟨h0,h1⟩,h2,h3⟩:=h;refine⟨⟨⟨h0,h1⟩,h2⟩,?_⟩;obtain⟨d,rfl⟩:=qn h0;rw[qx]at h2 ⊢;have hp:=pow12 d qqo;rw[kc1 h2];refine⟨(fun g=>∃i:Nat,i<=d/\g=lvl p1 d i),(fun g=>g.length),⟨0,by omega,rfl⟩,?_⟩;rintro _ ⟨i,hi,rfl⟩;have hli:=lvl_len p1 d i;refine⟨fun e=> ?_,fun e=> ?_⟩
 ·have e:=qb e
  have hid:i<d:=by
   rcases qar i d with h1|h1
   ·exact h1
   ·have:i=d:=by omega
    subst this;rw[hli,Nat.sub_self]at e;exact absurd e qqd
  have:2^(d-i)=2*2^(d-(i+1)):=by rw[show d-i=d-(i+1)+1 by omega,Nat.pow_succ];omega
  have hq:=qbw (d-(i+1));have hp2:=pow12 (d-i) qqo;refine⟨⟨lvl_u h3 d i,by omega⟩,?_⟩;rw[klf hid];refine⟨⟨i+1,by omega,rfl⟩,?_⟩;dsimp only;rw[lvl_len,lvl_len];omega
 ·have e:=qc e;rw[hli]at e
  have hid:i=d:=by
   rcases qar i d with h1|h1
   ·have:2^(d-i)=2*2^(d-(i+1)):=by rw[show d-i=d-(i+1)+1 by omega,Nat.pow_succ];omega
    have hq:=qbw (d-(i+1));omega
   ·omega
  subst hid;have e1:lvl p1 i i=[TT (lf p1) i 0]:=by simp[lvl,List.range_succ]
  rw[e1];exact⟨by show(0:Int)<((1:Nat):Int);decide,rfl⟩
noncomputable def ko7:Ct:= .gp 104 [.sl (.st 9),yqu] [.st 9] [] fun(p0:List wB) (p1:Int)=>(p0.length<=1001,(getA p0 p1:wB),())
theorem ke4:ko7.O:=qrv Bs Tryz.func104 (.r 0 (.nd [] (.r 0 (.lp [] ⟨[],[],[5],[.one (zqi)],[]⟩ .no)) [] .no)) c0 (Q:=∀(p0:List wB) (p1:Int),(p0.length<=1001)->∀r0:wB,getA p0 p1=r0-> 
∃(I1:Int->Prop) (M1:Int->Nat),I1 0/\∀b1,(I1 b1->
(decide (b1<(p0.length:Int))=true->
(0<=b1)/\b1<(p0.length:Int)/\((((ix p0 b1).ID)==p1)=true->
(0<=b1)/\b1<(p0.length:Int)/\(ix p0 b1).ID=r0.ID/\(ix p0 b1).wb=r0.wb/\(ix p0 b1).wS=r0.wS)/\
((((ix p0 b1).ID)==p1)=false->
I1 (i64.wrap (b1+1))/\M1 (i64.wrap (b1+1))<M1 b1))/\
(decide (b1<(p0.length:Int))=false->
p1=r0.ID/\0=r0.wb/\0=r0.wS)))<|by
 rintro p0 p1 h _ rfl;refine(⟨(fun a=>∃i:Nat,a=(i:Int)/\i<=p0.length/\∀k (h:k<p0.length),k<i->p0[k].ID≠p1),(fun a=>(p0.length-a).toNat),⟨0,rfl,by omega,fun k _ h=>by omega⟩,?_⟩);rintro _ ⟨i,rfl,hi,hk⟩;refine⟨fun h=> ?_,fun h=> ?_⟩
 ·have h:=qb h;have hi' :i<p0.length:=by omega
  rw[ix_get _ _ hi'];refine⟨by omega,h,fun he=> ?_,fun he=> ?_⟩
  ·rw[getA_at hi' (by simpa using he) hk];exact⟨by omega,h,rfl,rfl,rfl⟩
  ·rw[inc_i64 _ qqo];refine⟨⟨i+1,rfl,by omega,fun k h1 h2=> ?_⟩,by(dsimp only;omega)⟩;rcases qar k i with h5|h5
   ·exact hk k h1 h5
   ·have:k=i:=by omega
    subst this;simpa using he
 ·have h:=qc h;rw[kqb (fun k hk' =>hk k hk' qqo)];exact⟨rfl,rfl,rfl⟩
noncomputable def kng:Ct:= .gp 105 [.sl (.st 9),.st 9] [.sl (.st 9)] [] fun(p0:List wB) (p1:wB)=>(Srt p0/\p0.length<=1000/\0<=p1.wb/\0<=p1.wS,(putA p0 p1:List wB),())
theorem keg:kng.O:=qrv Bs Tryz.func105 (.r 1 (.jn ⟨[],[.tip (.st 9)],[5],[.one (.own 0)],[]⟩ [] (.r 0 (.lp [.tok 5 (.st 9)] ⟨[1],[.tip (.st 9)],[5,6],[.one (.own 0),.one (zqi)],[]⟩ .no)) [] (.jn ⟨[1],[.tip (.st 9)],[5],[.one (.own 0)],[]⟩ [] (.jn ⟨[],[],[38],[.one (.d (.bool))],[]⟩ [] .no [] .no) [] (.nd [] (.r 0 (.lp [] ⟨[1],[.tip (.st 9)],[5,7],[.one (.own 0),.one (zqi)],[]⟩ .no)) [] .no)))) c0 (Q:=∀(p0:List wB) (p1:wB),(Srt p0/\p0.length<=1000/\0<=p1.wb/\0<=p1.wS)->∀r0:List wB,putA p0 p1=r0-> 
∀J1:(List wB)->Prop,(∀(b1:List wB),
(∀J2:(List wB)->Prop,(∀(k1:List wB),
((k1=k1)/\∃(I2:Int->(List wB)->Prop) (M2:Int->(List wB)->Nat),I2 0 k1/\∀m1 n1,(I2 m1 n1->
(decide (m1<(p0.length:Int))=true->
(0<=m1)/\m1<(p0.length:Int)/\(decide (p1.ID<((ix p0 m1).ID))=true->
(0<=m1)/\m1<(p0.length:Int)/\lz n1/\(n1.length+[(ix p0 m1)].length)*24<=140737488355328/\n1.length+[(ix p0 m1)].length<=maxLen/\(n1++[(ix p0 m1)]=n1++[(ix p0 m1)])/\I2 (i64.wrap (m1+1)) (n1++[(ix p0 m1)])/\M2 (i64.wrap (m1+1)) (n1++[(ix p0 m1)])<M2 m1 n1)/\
(decide (p1.ID<((ix p0 m1).ID))=false->
(n1=n1)/\I2 (i64.wrap (m1+1)) n1/\M2 (i64.wrap (m1+1)) n1<M2 m1 n1))/\
(decide (m1<(p0.length:Int))=false->
n1=r0)))->J2 k1)->
∀J3:Bool->Prop,(∀(l1:Bool),
((l1=true->
lz b1/\(b1.length+[p1].length)*24<=140737488355328/\b1.length+[p1].length<=maxLen/\(b1++[p1]=b1++[p1])/\J2 (b1++[p1]))/\
(l1=false->
(b1=b1)/\J2 b1))->J3 l1)->
(decide (0<p1.wb)=true->
J3 true)/\
(decide (0<p1.wb)=false->
J3 (decide (0<p1.wS))))->J1 b1)->
(([]:List wB)=([]:List wB))/\∃(I1:Int->(List wB)->Prop) (M1:Int->(List wB)->Nat),I1 0 ([]:List wB)/\∀f1 i1,(I1 f1 i1->
(decide (f1<(p0.length:Int))=true->
(0<=f1)/\f1<(p0.length:Int)/\(decide (((ix p0 f1).ID)<p1.ID)=true->
(0<=f1)/\f1<(p0.length:Int)/\lz i1/\(i1.length+[(ix p0 f1)].length)*24<=140737488355328/\i1.length+[(ix p0 f1)].length<=maxLen/\(i1++[(ix p0 f1)]=i1++[(ix p0 f1)])/\I1 (i64.wrap (f1+1)) (i1++[(ix p0 f1)])/\M1 (i64.wrap (f1+1)) (i1++[(ix p0 f1)])<M1 f1 i1)/\
(decide (((ix p0 f1).ID)<p1.ID)=false->
(i1=i1)/\J1 i1))/\
(decide (f1<(p0.length:Int))=false->
(i1=i1)/\J1 i1)))<|by
  rintro p0 p1 h _ rfl;obtain⟨hs,hl,hb,hn⟩:=h;have hlb:=lb_le p0 p1.ID;intro J1 j1
  have hJ1:J1 (p0.take (lb p0 p1.ID)):=by
   refine j1 _ fun J2 j2=> ?_
   have hJ3:∀m:List wB,m=p0.take (lb p0 p1.ID)++(if p1.wb≠0∨p1.wS≠0 then [p1]else [])->J2 m:=by
    intro m hm;have hml:m.length<=1001:=by rw[hm];simp only[qh,qu];split<;>simp<;>omega
    refine j2 _ ⟨rfl,fun a g=>∃i:Nat,a=(i:Int)/\g=m++(p0.take i).filter (fun x=>decide (p1.ID<x.ID))/\i<=p0.length,fun a _=>(p0.length-a).toNat,⟨0,rfl,by simp,by omega⟩,?_⟩;rintro _ _ ⟨i,rfl,rfl,hi⟩;refine⟨fun h=> ?_,fun h=> ?_⟩
    · have h:=qb h
      have hi' :i<p0.length:=by omega
      have hfl:((p0.take i).filter (fun x=>decide (p1.ID<x.ID))).length<=i:=by have:=List.length_filter_le (fun x=>decide (p1.ID<x.ID)) (p0.take i);simp at this ⊢;omega
      have hlen:(m++(p0.take i).filter (fun x=>decide (p1.ID<x.ID))).length<=3000:=by rw[qh];omega
      have e1:(p0.take (i+1)).filter (fun x=>decide (p1.ID<x.ID))=(p0.take i).filter (fun x=>decide (p1.ID<x.ID))++(if p1.ID<p0[i].ID then [p0[i]]else []):=by rw[qr hi',List.filter_append];congr 1;simp only[List.filter_cons,List.filter_nil,qai]
      rw[ix_get _ _ hi'];refine⟨by omega,h,fun hc=>⟨by omega,h,rfl,?_,?_,rfl,?_⟩,fun hc=>⟨rfl,?_⟩⟩
      · simp only[qj,qt];omega
      · simp only[qj,qt];unfold maxLen;omega
      · have hc:=qb hc
        rw[inc_i64 _ qqo];refine⟨⟨i+1,rfl,?_,by omega⟩,by(dsimp only;omega)⟩;rw[e1,qf hc,qw]
      · have hc:=qc hc
        rw[inc_i64 _ qqo];refine⟨⟨i+1,rfl,?_,by omega⟩,by(dsimp only;omega)⟩;rw[e1,qe hc,qcd]
    · have h:=qc h
      have:i=p0.length:=by omega
      subst this;simp only[qbd];rw[tail_eq hs,hm];unfold putA;first|rfl|(rw[qw];rfl)
   intro J3 j3
   have hJ2:∀b:Bool,(b=true↔(p1.wb≠0∨p1.wS≠0))->J3 b:=by
    intro b hb;have hlt:(p0.take (lb p0 p1.ID)).length<=1000:=by rw[qu];omega
    refine j3 _ ⟨fun e=>⟨rfl,(len24 _ _ (qax hlt qqd)).1,(len24 _ _ (qax hlt qqd)).2,rfl,hJ3 _ ?_⟩,fun e=>⟨rfl,hJ3 _ ?_⟩⟩
    · rw[qf (hb.1 e)]
    · rw[qe (fun hh=>by rw[hb.2 hh]at e;cases e)]
      exact(qcd _).symm
   refine⟨fun e=>hJ2 _ ?_,fun e=>hJ2 _ ?_⟩
   · have:=qb e
     simp;omega
   · have:=qc e
     simp;omega
  refine⟨rfl,fun a g=>∃i:Nat,a=(i:Int)/\g=p0.take i/\i<=p0.length/\∀k (h:k<p0.length),k<i->p0[k].ID<p1.ID,fun a _=>(p0.length-a).toNat,⟨0,rfl,rfl,by omega,fun k _ h=>by omega⟩,?_⟩;rintro _ _ ⟨i,rfl,rfl,hi,hk⟩;refine⟨fun h=> ?_,fun h=> ?_⟩
  · have h:=qb h
    have hi' :i<p0.length:=by omega
    have hlt:(p0.take i).length<=1000:=by rw[qu];omega
    rw[ix_get _ _ hi'];refine⟨by omega,h,fun hc=>⟨by omega,h,rfl,?_,?_,rfl,?_⟩,fun hc=>⟨rfl,?_⟩⟩
    · simp only[qj,qt];omega
    · simp only[qj,qt];unfold maxLen;omega
    · have hc:=qb hc
      rw[inc_i64 _ qqo,<-qr];refine⟨⟨i+1,rfl,rfl,by omega,fun k h1 h2=> ?_⟩,by(dsimp only;omega)⟩;rcases qar k i with h5|h5
      · exact hk k h1 h5
      · have:k=i:=by omega
        subst this;exact hc
    · have hc:=qc hc
      have:lb p0 p1.ID=i:=lb_eq p0 p1.ID i hi hk fun _=>by omega
      rw[<-this];exact hJ1
  · have h:=qc h
    have:lb p0 p1.ID=i:=lb_eq p0 p1.ID i hi hk fun hh=>by omega
    rw[<-this];exact⟨rfl,hJ1⟩
noncomputable def kg4:Ct:= .bp 71 [.sl (.st 9),yqu,yqu] [.sl (.st 9),yqi] fun(p0:List wB) (p1 p2:Int)=>(OkA p0/\U64 p2,creditA p0 p1 p2,fun R=>(R.1,R.2,()))
theorem k7w:kg4.O:=qbv Bs Tryz.func71 .no (ke4.c (keg.c c0)) (Q:=∀(p0:List wB) (p1 p2:Int),(OkA p0/\U64 p2)->∀R,creditA p0 p1 p2=R-> 
(p0.length<=1001)/\let v2:Int:=u64.wrap (9223372036854775807-((getA p0 p1).wb))
(decide (v2<p2)=true->
([]:List wB)=R.1/\1=R.2)/\
(decide (v2<p2)=false->
let v3:Int:=u64.wrap (((getA p0 p1).wb)+p2)
(Srt p0/\p0.length<=1000/\0<=(wB.mk ((getA p0 p1).ID) v3 ((getA p0 p1).wS)).wb/\0<=(wB.mk ((getA p0 p1).ID) v3 ((getA p0 p1).wS)).wS)/\let r4:List wB:=(putA p0 (wB.mk ((getA p0 p1).ID) v3 ((getA p0 p1).wS)))
r4=R.1/\0=R.2))<|by
 rintro p0 p1 p2 h R hR;subst hR;obtain⟨h,ha,ha'⟩:=h;obtain⟨g1,g2⟩:=getA_ok h p1;refine⟨by have:=h.2.1;omega,?_⟩;rw[wrap_u64 (9223372036854775807-(getA p0 p1).wb) qqo qqo,getA_id];refine⟨fun hh=> ?_,fun hh=> ?_⟩
 ·have:=qb hh;simp[creditA,this]
 ·have:=qc hh;simp only[creditA,qe this];rw[wrap_u64 _ qqo qqo];exact⟨⟨h.1,h.2.1,by first|omega|(simp only;omega),by first|omega|(simp only;omega)⟩,rfl,by first|exact rfl|exact ql⟩
noncomputable def kj2:Ct:= .bp 103 [.sl (.st 9),yqu,yqu,yqu] [.sl (.st 9),yqi] fun(p0:List wB) (p1 p2 p3:Int)=>(OkA p0/\U64 p2/\U64 p3,debitA p0 p1 p2 p3,fun R=>(R.1,R.2,()))
theorem k91:kj2.O:=qbv Bs Tryz.func103 (.r 1 (.nd [] (.r 1 (.jn ⟨[],[],[17],[.one (.d (.bool))],[]⟩ [] .no [] .no)) [] .no)) (ke4.c (keg.c c0)) (Q:=∀(p0:List wB) (p1 p2 p3:Int),(OkA p0/\U64 p2/\U64 p3)->∀R,debitA p0 p1 p2 p3=R-> 
(p0.length<=1001)/\((p2==0)=true->
([]:List wB)=R.1/\1=R.2)/\
((p2==0)=false->
∀J1:Bool->Prop,(∀(b1:Bool),
((b1=true->
([]:List wB)=R.1/\20=R.2)/\
(b1=false->
(decide (((getA p0 p1).wb)<p2)=true->
([]:List wB)=R.1/\15=R.2)/\
(decide (((getA p0 p1).wb)<p2)=false->
let v2:Int:=u64.wrap (((getA p0 p1).wb)-p2)
let v3:Int:=u64.wrap (((getA p0 p1).wS)+1)
(Srt p0/\p0.length<=1000/\0<=(wB.mk ((getA p0 p1).ID) v2 v3).wb/\0<=(wB.mk ((getA p0 p1).ID) v2 v3).wS)/\let r4:List wB:=(putA p0 (wB.mk ((getA p0 p1).ID) v2 v3))
r4=R.1/\0=R.2)))->J1 b1)->
((p3 !=((getA p0 p1).wS))=true->
J1 true)/\
((p3 !=((getA p0 p1).wS))=false->
J1 (p3==18446744073709551615))))<|by
 rintro p0 p1 p2 p3 h R hR;subst hR;obtain⟨h,⟨ha,ha'⟩,hn,hn'⟩:=h;obtain⟨g1,g2⟩:=getA_ok h p1;refine⟨by have:=h.2.1;omega,fun hh=> ?_,fun hh J1 j=> ?_⟩
 ·have:p2=0:=by simpa using hh
  simp[debitA,this]
 have h0:p2≠0:=by simpa using hh
 have key:∀b:Bool,(b=true↔(p3≠(getA p0 p1).wS∨p3=18446744073709551615))->J1 b:=by
  intro b hb;refine j _ ⟨fun e=> ?_,fun e=> ?_⟩
  ·simp only[debitA,qe h0,qf (hb.1 e)];exact⟨by first|exact rfl|exact ql,by first|exact rfl|exact ql⟩
  ·have h1:¬(p3≠(getA p0 p1).wS∨p3=18446744073709551615):=fun hh=>by rw[hb.2 hh]at e;cases e
   simp only[debitA,qe h0,qe h1];refine⟨fun hh=> ?_,fun hh=> ?_⟩
   ·have:=qb hh;simp[this]
   ·have h2:=qc hh;simp only[qe h2];have h3:p3≠18446744073709551615:=fun e=>h1 (.inr e);have h4:p3=(getA p0 p1).wS:=qz fun e=>h1 (.inl e);rw[wrap_u64 _ qqo qqo,wrap_u64 ((getA p0 p1).wS+1) qqo qqo,getA_id,h4];exact⟨⟨h.1,h.2.1,by first|omega|(simp only;omega),by first|omega|(simp only;omega)⟩,rfl,by first|exact rfl|exact ql⟩
 refine⟨fun e=>key _ ?_,fun e=>key _ ?_⟩
 ·have:p3≠(getA p0 p1).wS:=by simpa using e
  simp[this]
 ·have:p3=(getA p0 p1).wS:=by simpa using e
  rw[this];simp
noncomputable def kil:Ct:= .gp 147 [.st 14] [.bool] [] fun(p0:wAn)=>(0<=p0.a0/\0<=p0.a1,(vPoint p0.a0 p0.a1:Bool),())
theorem klm:kil.O:=qrv Bs Tryz.func147 .no c0 (Q:=∀(p0:wAn),(0<=p0.a0/\0<=p0.a1)->∀r0:Bool,vPoint p0.a0 p0.a1=r0-> 
(decide (p0.a0<18446744069414584321)=true->
(decide (p0.a1<18446744069414584321)=true->
(decide (0<p0.a0)=true->
true=r0)/\
(decide (0<p0.a0)=false->
decide (0<p0.a1)=r0))/\
(decide (p0.a1<18446744069414584321)=false->
false=r0))/\
(decide (p0.a0<18446744069414584321)=false->
false=r0))<|by
 rintro p0 h _ rfl;refine ?_;unfold vPoint
 repeat' (apply qaa<;>intro h)
 all_goals grind
noncomputable def ke5:Ct:= .gp 146 [.sl yqu] [.bool] [] fun(p0:Li)=>(p0.length<=9223372036854775807,(p0.all (fun x=>decide (x<18446744069414584321)):Bool),())
theorem kge:ke5.O:=qrv Bs Tryz.func146 (.r 0 (.nd [] (.r 0 (.lp [] ⟨[],[],[3],[.one (zqi)],[]⟩ .no)) [] .no)) c0 (Q:=∀(p0:Li),(p0.length<=9223372036854775807)->∀r0:Bool,(p0.all (fun x=>decide (x<18446744069414584321)))=r0-> 
∃(I1:Int->Prop) (M1:Int->Nat),I1 0/\∀b1,(I1 b1->
(decide (b1<(p0.length:Int))=true->
(0<=b1)/\b1<(p0.length:Int)/\let v1:Bool:=decide (18446744069414584321<=(ix p0 b1))
(v1=true->
false=r0)/\
(v1=false->
I1 (i64.wrap (b1+1))/\M1 (i64.wrap (b1+1))<M1 b1))/\
(decide (b1<(p0.length:Int))=false->
true=r0)))<|by
 rintro p0 h _ rfl;refine(⟨(fun i=>0<=i/\i<=p0.length/\∀x∈p0.take i.toNat,x<18446744069414584321),(fun i=>(p0.length-i).toNat),⟨by omega,by omega,by simp⟩,?_⟩);rintro i ⟨g0,g1,g2⟩;refine⟨fun hh=> ?_,fun hh=> ?_⟩
 ·have hh:=qb hh;refine⟨g0,hh,fun e=> ?_,fun e=> ?_⟩
  ·have e:=qb e;exact(qcm.2 ⟨_,ix_mem p0 i g0 hh,by simp;omega⟩).symm
  ·have e:=qc e;rw[inc i p0.length g0 hh qqo];refine⟨⟨by omega,by omega,?_⟩,by(dsimp only;omega)⟩;rw[ke p0 i g0 hh];intro x hx;rcases qak.1 hx with hx|hx
   ·exact g2 x hx
   ·have:x=ix p0 i:=by simpa using hx
    omega
 ·have hh:=qc hh;rw[qv qqo]at g2;symm;simpa using g2
noncomputable def kj0:Ct:= .gp 106 [.st 2] [yqi] [] fun(p0:wy)=>(TR p0/\TL p0,(validE p0:Int),())
theorem k32:kj0.O:=qrv Bs Tryz.func106 (.r 1 (.nd [] (.r 0 (.lp [] ⟨[],[],[3],[.one (zqi)],[]⟩ (.r 0 (.nd [] (.r 0 (.lp [] ⟨[],[],[4],[.one (zqi)],[]⟩ .no)) [] .no)))) [] (.nd [] (.r 0 (.lp [] ⟨[],[],[5],[.one (zqi)],[]⟩ .no)) [] (.jn ⟨[],[],[],[],[]⟩ [] .no [] (.jn ⟨[],[],[],[],[]⟩ [] .no [] .no))))) (kge.c (klm.c c0)) (Q:=∀(p0:wy),(TR p0/\TL p0)->∀r0:Int,validE p0=r0-> 
(decide (4<(p0.wE.length:Int))=true->
1=r0)/\
(decide (4<(p0.wE.length:Int))=false->
(decide (4<(p0.wA.length:Int))=true->
1=r0)/\
(decide (4<(p0.wA.length:Int))=false->
(p0.wE.length<=9223372036854775807)/\let r1:Bool:=(p0.wE.all (fun x=>decide (x<18446744069414584321)))
((!r1)=true->
1=r0)/\
((!r1)=false->
([p0.wM,p0.wQ,p0.wS].length<=9223372036854775807)/\let r2:Bool:=([p0.wM,p0.wQ,p0.wS].all (fun x=>decide (x<18446744069414584321)))
((!r2)=true->
1=r0)/\
((!r2)=false->
∃(I1:Int->Prop) (M1:Int->Nat),I1 0/\∀b1,(I1 b1->
(decide (b1<(p0.wE.length:Int))=true->
∃(I2:Int->Prop) (M2:Int->Nat),I2 0/\∀f1,(I2 f1->
(decide (f1<b1)=true->
(0<=b1)/\b1<(p0.wE.length:Int)/\(0<=f1)/\f1<(p0.wE.length:Int)/\(((ix p0.wE b1)==(ix p0.wE f1))=true->
1=r0)/\
(((ix p0.wE b1)==(ix p0.wE f1))=false->
I2 (i64.wrap (f1+1))/\M2 (i64.wrap (f1+1))<M2 f1))/\
(decide (f1<b1)=false->
I1 (i64.wrap (b1+1))/\M1 (i64.wrap (b1+1))<M1 b1)))/\
(decide (b1<(p0.wE.length:Int))=false->
∃(I3:Int->Prop) (M3:Int->Nat),I3 0/\∀i1,(I3 i1->
(decide (i1<(p0.wA.length:Int))=true->
(0<=i1)/\i1<(p0.wA.length:Int)/\let v3:Bool:=decide (18446744069414584321<=((ix p0.wA i1).wm))
(v3=true->
1=r0)/\
(v3=false->
(0<=(wAn.mk ((ix p0.wA i1).wAm) ((ix p0.wA i1).wAl)).a0/\0<=(wAn.mk ((ix p0.wA i1).wAm) ((ix p0.wA i1).wAl)).a1)/\let r4:Bool:=(vPoint (wAn.mk ((ix p0.wA i1).wAm) ((ix p0.wA i1).wAl)).a0 (wAn.mk ((ix p0.wA i1).wAm) ((ix p0.wA i1).wAl)).a1)
((!r4)=true->
1=r0)/\
((!r4)=false->
let v5:Bool:=((((ix p0.wA i1).wAF).length:Int) !=3)
(v5=true->
1=r0)/\
(v5=false->
(((ix p0.wA i1).wAF).length<=9223372036854775807)/\let r6:Bool:=(((ix p0.wA i1).wAF).all (fun x=>decide (x<18446744069414584321)))
((!r6)=true->
1=r0)/\
((!r6)=false->
I3 (i64.wrap (i1+1))/\M3 (i64.wrap (i1+1))<M3 i1)))))/\
(decide (i1<(p0.wA.length:Int))=false->
∀J1:Prop,((∀J2:Prop,(((decide (p0.wAc<0)=true->
1=r0)/\
(decide (p0.wAc<0)=false->
(decide (1048576<p0.wAc)=true->
1=r0)/\
(decide (1048576<p0.wAc)=false->
let v7:Bool:=decide (1048576<(p0.wh.length:Int))
(v7=true->
3=r0)/\
(v7=false->
0=r0))))->J2)->
((p0.wH==0)=true->
((p0.wS !=0)=true->
1=r0)/\
((p0.wS !=0)=false->
(((p0.wE.length:Int)==0)=true->
1=r0)/\
(((p0.wE.length:Int)==0)=false->
((p0.wL==0)=true->
((p0.wQ !=0)=true->
1=r0)/\
((p0.wQ !=0)=false->
J2))/\
((p0.wL==0)=false->
J2))))/\
((p0.wH==0)=false->
J2))->J1)->
(decide (4294967295<p0.wH)=true->
1=r0)/\
(decide (4294967295<p0.wH)=false->
(decide (4294967295<p0.wL)=true->
1=r0)/\
(decide (4294967295<p0.wL)=false->
(decide (4294967295<p0.Fee)=true->
1=r0)/\
(decide (4294967295<p0.Fee)=false->
(decide (0<p0.wH)=true->
(decide (0<p0.wL)=true->
1=r0)/\
(decide (0<p0.wL)=false->
J1))/\
(decide (0<p0.wH)=false->
J1)))))))))))))<|by
 rintro p0 h _ rfl;obtain⟨hr,hl⟩:=h;have e3:[p0.wM,p0.wQ,p0.wS].all (fun x=>decide (x<18446744069414584321))=(decide (p0.wM<18446744069414584321)&&(decide (p0.wQ<18446744069414584321)&&decide (p0.wS<18446744069414584321))):=by simp
 have bad:(vMarks p0.wE&&vOuts p0.wA&&vAmounts p0&&vRest p0)=false->1=validE p0:=by intro h;unfold validE;rw[h];rfl
 have badM:vMarks p0.wE=false->1=validE p0:=fun h=>bad (by rw[h];rfl);have badO:vOuts p0.wA=false->1=validE p0:=fun h=>bad (by rw[h];simp);have badA:vAmounts p0=false->1=validE p0:=fun h=>bad (by rw[h];simp);have badR:vRest p0=false->1=validE p0:=fun h=>bad (by rw[h];simp);refine⟨fun h=>badM ?_,fun h=>⟨fun h2=>badO ?_,fun h2=>⟨by have:=hl.m;omega,fun h3=>badM ?_,fun h3=>⟨by simp,fun h4=> ?_,fun h4=> ?_⟩⟩⟩⟩
 ·have h:=qb h;unfold vMarks;rw[qay qqo];rfl
 ·have h2:=qb h2;unfold vOuts;rw[qay qqo];rfl
 ·have h3:p0.wE.all (fun x=>decide (x<18446744069414584321))=false:=by simpa using h3
  unfold vMarks;rw[h3];simp
 ·rw[e3]at h4;have:vAmounts p0=false∨vRest p0=false:=by unfold vAmounts vRest;grind
  exact this.elim badA badR
 have h:=qc h;have h2:=qc h2;have h3:p0.wE.all (fun x=>decide (x<18446744069414584321))=true:=by simpa using h3
 have h4:[p0.wM,p0.wQ,p0.wS].all (fun x=>decide (x<18446744069414584321))=true:=by
  cases hq:[p0.wM,p0.wQ,p0.wS].all (fun x=>decide (x<18446744069414584321))
  ·rw[hq]at h4;simp at h4
  ·rfl
 rw[e3]at h4;simp only[qg,qai]at h4;obtain⟨a1,a2,a3⟩:=h4;refine⟨fun i=>0<=i/\i<=p0.wE.length/\(p0.wE.take i.toNat).Nodup,fun i=>(p0.wE.length-i).toNat,⟨by omega,by omega,by simp⟩,?_⟩;rintro i ⟨g0,g1,g2⟩;refine⟨fun hh=> ?_,fun hh=> ?_⟩
 ·have hh:=qb hh;refine⟨fun k=>0<=k/\k<=i/\∀x∈p0.wE.take k.toNat,x≠ix p0.wE i,fun k=>(i-k).toNat,⟨by omega,by omega,by simp⟩,?_⟩;rintro k ⟨k0,k1,k2⟩;refine⟨fun hk=> ?_,fun hk=> ?_⟩
  ·have hk:=qb hk;refine⟨g0,hh,k0,by omega,fun e=>badM ?_,fun e=> ?_⟩
   ·have e:ix p0.wE i=ix p0.wE k:=by simpa using e
    have:¬p0.wE.Nodup:=by intro hn;rw[ix_nat _ i g0 hh,ix_nat _ k k0 qqo]at e;have:=(List.getElem_inj hn).1 e;omega
    unfold vMarks;rw[qay this];simp
   ·have e:¬ix p0.wE i=ix p0.wE k:=by simpa using e
    rw[inc k i k0 hk qqo];refine⟨⟨by omega,by omega,?_⟩,by(dsimp only;omega)⟩;rw[ke p0.wE k k0 qqo];intro x hx;rcases qak.1 hx with hx|hx
    ·exact k2 x hx
    ·have:x=ix p0.wE k:=by simpa using hx
     rw[this];exact fun e' =>e e'.symm
  ·have hk:=qc hk;have hki:k=i:=by omega
   subst hki
   have nxt:(0<=k+1/\k+1<=p0.wE.length/\(p0.wE.take (k+1).toNat).Nodup)/\(p0.wE.length-(k+1)).toNat<(p0.wE.length-k).toNat:=by
    refine⟨⟨by omega,by omega,?_⟩,by(first|omega|(dsimp only;omega))⟩;rw[ke p0.wE k g0 hh];refine qcf.2 ⟨g2,by simp,fun a ha b hb=> ?_⟩;have:b=ix p0.wE k:=by simpa using hb
    rw[this];exact k2 a ha
   have hi:=inc k p0.wE.length g0 hh qqo;rw[hi];exact nxt
 ·have hh:=qc hh;rw[qv qqo]at g2;have vm:vMarks p0.wE=true:=by unfold vMarks;rw[h3,qas g2,qas qqo];rfl
  refine⟨fun i=>0<=i/\i<=p0.wA.length/\∀x∈p0.wA.take i.toNat,vOut x=true,fun i=>(p0.wA.length-i).toNat,⟨by omega,by omega,by simp⟩,?_⟩;rintro i ⟨g0,g1,g2⟩;refine⟨fun hh=> ?_,fun hh J1 k1=> ?_⟩
  ·have hh:=qb hh;have hx:=hr.o _ (ix_mem p0.wA i g0 hh);have hlc:=hl.c _ (ix_mem p0.wA i g0 hh);have bd:vOut (ix p0.wA i)=false->1=validE p0:=by intro hb;refine badO ?_;unfold vOuts;have:p0.wA.all vOut=false:=qcm.2 ⟨_,ix_mem p0.wA i g0 hh,by simp[hb]⟩;rw[this];simp
   unfold vOut at bd;refine⟨g0,hh,fun e=>bd ?_,fun e=>⟨⟨hx.p0.1,hx.p1.1⟩,fun e2=>bd ?_,fun e2=>⟨fun e3=>bd ?_,fun e3=>⟨by omega,fun e4=>bd ?_,fun e4=> ?_⟩⟩⟩⟩
   ·have e:=qb e;rw[qay qqo];rfl
   ·have e2:vPoint (ix p0.wA i).wAm (ix p0.wA i).wAl=false:=by simpa using e2
    simp[e2]
   ·have e3:¬((ix p0.wA i).wAF.length:Int)=3:=by simpa using e3
    have e3:¬(ix p0.wA i).wAF.length=3:=by omega
    simp[e3]
   ·have e4:(ix p0.wA i).wAF.all (fun x=>decide (x<18446744069414584321))=false:=by
     cases hq:(ix p0.wA i).wAF.all (fun x=>decide (x<18446744069414584321))
     ·rfl
     ·rw[hq]at e4;simp at e4
    rw[e4];simp
   ·have e:=qc e;have e2:vPoint (ix p0.wA i).wAm (ix p0.wA i).wAl=true:=by simpa using e2
    have e3:((ix p0.wA i).wAF.length:Int)=3:=by simpa using e3
    have e4:(ix p0.wA i).wAF.all (fun x=>decide (x<18446744069414584321))=true:=by
     cases hq:(ix p0.wA i).wAF.all (fun x=>decide (x<18446744069414584321))
     ·rw[hq]at e4;simp at e4
     ·rfl
    have hv:vOut (ix p0.wA i)=true:=(k7b _).2 ⟨by omega,e2,by omega,by simpa using e4⟩;rw[inc i p0.wA.length g0 hh qqo];refine⟨⟨by omega,by omega,?_⟩,by(dsimp only;omega)⟩;rw[ke p0.wA i g0 hh];intro x hx;rcases qak.1 hx with hx|hx
    ·exact g2 x hx
    ·have:x=ix p0.wA i:=by simpa using hx
     rw[this];exact hv
  ·have hh:=qc hh;rw[qv qqo]at g2
   have vo:vOuts p0.wA=true:=by
    unfold vOuts;have:p0.wA.all vOut=true:=by simpa using g2
    rw[this,qas qqo];rfl
   have j1:vOuts p0.wA=true->p0.wH<=4294967295->p0.wL<=4294967295->p0.Fee<=4294967295->(0<p0.wH->p0.wL=0)->J1:=by
    intro vo d1 d2 d3 d4;have hd:=hr.d;have hw:=hr.w;have fA:¬(p0.wH<=4294967295/\p0.wL<=4294967295/\p0.Fee<=4294967295/\p0.wQ<18446744069414584321/\p0.wS<18446744069414584321/\(0<p0.wH->p0.wL=0)/\(¬0<p0.wH->p0.wE≠[]/\p0.wS=0/\(0<p0.wL∨p0.wQ=0)))->1=validE p0:=fun h=>badA (Bool.eq_false_iff.2 fun h' =>h ((k28 p0).1 h'));refine k1 fun J2 k2=> ?_
    have j2:vOuts p0.wA=true->vAmounts p0=true->J2:=by
     intro vo va;refine k2 ⟨fun e=>badR ?_,fun e=>⟨fun e2=>badR ?_,fun e2=> ?_⟩⟩
     ·have e:=qb e;unfold vRest;rw[qay (p:=0<=p0.wAc) qqo];simp
     ·have e2:=qb e2;unfold vRest;rw[qay (p:=p0.wAc<=1048576) qqo];simp
     ·have e:=qc e;have e2:=qc e2;have vr:vRest p0=true:=by unfold vRest;rw[qas a1,qas (p:=0<=p0.wAc) qqo,qas (p:=p0.wAc<=1048576) qqo];rfl
      unfold validE;rw[vm,vo,va,vr];refine⟨fun e=> ?_,fun e=> ?_⟩
      ·have e:=qb e;simp;omega
      ·have e:=qc e;simp;omega
    refine⟨fun e=>⟨fun e2=>fA ?_,fun e2=>⟨fun e3=>fA ?_,fun e3=>⟨fun e4=>⟨fun e5=>fA ?_,fun e5=>j2 vo ((k28 p0).2 ?_)⟩,fun e4=>j2 vo ((k28 p0).2 ?_)⟩⟩⟩,fun e=>j2 vo ((k28 p0).2 ?_)⟩
    all_goals simp only[beq_iff_eq,bne_iff_ne,beq_eq_false_iff_ne,bne_eq_false_iff_eq,Int.natCast_eq_zero,qcz]at *
    ·exact fun h=>by have:=h.2.2.2.2.2.2 qqo;omega
    ·exact fun h=>(h.2.2.2.2.2.2 qqo).1 e3
    ·exact fun h=>by have:=(h.2.2.2.2.2.2 qqo).2.2;omega
    ·exact⟨d1,d2,d3,a2,a3,d4,fun _=>⟨fun hq=>e3 (by rw[hq];rfl),e2,.inr e5⟩⟩
    ·exact⟨d1,d2,d3,a2,a3,d4,fun _=>⟨fun hq=>e3 (by rw[hq];rfl),e2,.inl qqo⟩⟩
    ·exact⟨d1,d2,d3,a2,a3,d4,fun h=>by omega⟩
   have hd:=hr.d;have hw:=hr.w;have fA:¬(p0.wH<=4294967295/\p0.wL<=4294967295/\p0.Fee<=4294967295/\(0<p0.wH->p0.wL=0))->1=validE p0:=fun h=>badA (Bool.eq_false_iff.2 fun h' =>h (by have:=(k28 p0).1 h';exact⟨this.1,this.2.1,this.2.2.1,this.2.2.2.2.2.1⟩));refine⟨fun e=>fA ?_,fun e=>⟨fun e2=>fA ?_,fun e2=>⟨fun e3=>fA ?_,fun e3=>⟨fun e4=>⟨fun e5=>fA ?_,fun e5=>j1 vo ?_ ?_ ?_ ?_⟩,fun e4=>j1 vo ?_ ?_ ?_ ?_⟩⟩⟩⟩
   all_goals simp only[qai,decide_eq_false_iff_not]at *
   all_goals omega
noncomputable def ker:Ct:= .gp 145 [.st 24] [.sl yqu] [] fun(p0:wAZ)=>((1<=p0.wV/\p0.wV<=100)/\p0.wg.length<=1000000,(ancL p0.wg p0.wV:Li),())
theorem kfn:ker.O:=qrv Bs Tryz.func145 .no c0 (Q:=∀(p0:wAZ),((1<=p0.wV/\p0.wV<=100)/\p0.wg.length<=1000000)->∀r0:Li,ancL p0.wg p0.wV=r0-> 
let v1:Bool:=decide ((p0.wg.length:Int)<=p0.wV)
(v1=true->
p0.wg=r0)/\
(v1=false->
let v2:Int:=i64.wrap ((p0.wg.length:Int)-p0.wV)
(0<=v2)/\v2<=(p0.wg.length:Int)/\p0.wg.drop v2.toNat=r0))<|by
 rintro p0 h _ rfl;obtain⟨⟨h1,h2⟩,h3⟩:=h;refine⟨fun e=> ?_,fun e=> ?_⟩
 ·have e:=qb e;unfold ancL;rw[show p0.wg.length-p0.wV.toNat=0 by omega];rfl
 ·have e:=qc e;rw[km _ qqo qqo];refine⟨by omega,by omega,?_⟩;unfold ancL;rw[show((p0.wg.length:Int)-p0.wV).toNat=p0.wg.length-p0.wV.toNat by omega]
noncomputable def knd:Ct:= .gp 144 [.sl yqu,yqu] [.bool] [] fun(p0:Li) (p1:Int)=>(p0.length<=1000000,(decide (p1∈p0):Bool),())
theorem kot:knd.O:=qrv Bs Tryz.func144 (.r 0 (.nd [] (.r 0 (.lp [] ⟨[],[],[5],[.one (zqi)],[]⟩ .no)) [] .no)) c0 (Q:=∀(p0:Li) (p1:Int),(p0.length<=1000000)->∀r0:Bool,(decide (p1∈p0))=r0-> 
∃(I1:Int->Prop) (M1:Int->Nat),I1 0/\∀b1,(I1 b1->
(decide (b1<(p0.length:Int))=true->
(0<=b1)/\b1<(p0.length:Int)/\(((ix p0 b1)==p1)=true->
true=r0)/\
(((ix p0 b1)==p1)=false->
I1 (i64.wrap (b1+1))/\M1 (i64.wrap (b1+1))<M1 b1))/\
(decide (b1<(p0.length:Int))=false->
false=r0)))<|by
 rintro p0 p1 h _ rfl;refine(⟨(fun a=>∃i:Nat,a=(i:Int)/\i<=p0.length/\p1∉p0.take i),(fun a=>(p0.length-a).toNat),⟨0,rfl,by omega,by simp⟩,?_⟩);rintro _ ⟨i,rfl,hi,hm⟩;refine⟨fun e=> ?_,fun e=> ?_⟩
 ·have e:i<p0.length:=by have:=qb e;omega
  rw[ix_get _ _ e,inc_i64 _ qqo];refine⟨by omega,by omega,fun e2=> ?_,fun e2=>⟨⟨i+1,rfl,by omega,?_⟩,by(dsimp only;omega)⟩⟩
  ·have e2:p0[i]=p1:=by simpa using e2
   rw[<-e2,qas (qah e)]
  ·have e2:¬p0[i]=p1:=by simpa using e2
   rw[qr e];simp only[qak,qal];exact fun hh=>hh.elim hm fun h=>e2 h.symm
 ·have e:i=p0.length:=by have:=qc e;omega
  subst e;rw[qbd]at hm;rw[qay hm]
noncomputable def ki1:Ct:= .gp 101 [.st 24,.st 2] [yqi] [] fun(p0:wAZ) (p1:wy)=>(ROk p0/\TR p1/\TL p1,(rchk p0 p1:Int),())
theorem kml:ki1.O:=qrv Bs Tryz.func101 (.r 3 (.nd [] (.r 0 (.lp [] ⟨[],[],[6],[.one (zqi)],[]⟩ .no)) [] (.jn ⟨[],[],[],[],[]⟩ [] .no [] .no))) (k32.c (kfn.c (kot.c (k91.c c0)))) (Q:=∀(p0:wAZ) (p1:wy),(ROk p0/\TR p1/\TL p1)->∀r0:Int,rchk p0 p1=r0-> 
(TR p1/\TL p1)/\(((validE p1) !=0)=true->
(validE p1)=r0)/\
(((validE p1) !=0)=false->
let v1:Bool:=decide (p1.wAc<(i64.wrap (p0.wO+1)))
(v1=true->
14=r0)/\
(v1=false->
((1<=p0.wV/\p0.wV<=100)/\p0.wg.length<=1000000)/\((ancL p0.wg p0.wV).length<=1000000)/\let r2:Bool:=(decide (p1.wM∈(ancL p0.wg p0.wV)))
((!r2)=true->
11=r0)/\
((!r2)=false->
∃(I1:Int->Prop) (M1:Int->Nat),I1 0/\∀b1,(I1 b1->
(decide (b1<(p1.wE.length:Int))=true->
(0<=b1)/\b1<(p1.wE.length:Int)/\(p0.wE.length<=1000000)/\((decide ((ix p1.wE b1)∈p0.wE))=true->
12=r0)/\
((decide ((ix p1.wE b1)∈p0.wE))=false->
I1 (i64.wrap (b1+1))/\M1 (i64.wrap (b1+1))<M1 b1))/\
(decide (b1<(p1.wE.length:Int))=false->
∀J1:Prop,((let v4:Int:=u64.wrap (p0.wAE+p1.wH)
let v5:Bool:=decide (v4<(u64.wrap (p1.wL+p1.Fee)))
(v5=true->
13=r0)/\
(v5=false->
let v6:Int:=i64.wrap ((p0.wAO.length:Int)+(p1.wA.length:Int))
(0<=u64.wrap p0.wn)/\let v7:Int:=ishl .i64 1 (u64.wrap p0.wn)
(decide (v7<v6)=true->
16=r0)/\
(decide (v7<v6)=false->
0=r0)))->J1)->
(decide (0<p1.wH)=true->
(OkA p0.wF/\U64 p1.wH/\U64 p1.wS)/\let r3:=debitA p0.wF p1.wQ p1.wH p1.wS
((r3.2 !=0)=true->
r3.2=r0)/\
((r3.2 !=0)=false->
J1))/\
(decide (0<p1.wH)=false->
J1)))))))<|by
 rintro p0 p1 h _ rfl;obtain⟨hr,ht,hl⟩:=h;have hd1:=hr.d1;have hd2:=hr.d2;have hh:=hr.h;have hml0:=hr.ml;have hll:=hr.ll;have hrl:=hr.rl;have hp12:=pow12 p0.wn.toNat qqo;generalize hR0:rchk p0 p1=R;have hR:chk p0.wO (ancL p0.wg p0.wV) p0.wE p0.wF p0.wAE p0.wAO.length p0.wn p1=R:=hR0;clear hR0;unfold chk at hR;refine⟨⟨ht,hl⟩,fun e=> ?_,fun e=> ?_⟩
 ·have e:validE p1≠0:=by simpa using e
  rw[qf e]at hR;exact hR
 have e:validE p1=0:=by simpa using e
 have vt:=(kz p1).1 e;have hol:=vt.ol;have hml:=vt.ml;rw[qe (by rw[e];decide)]at hR;have ei:i64.wrap (p0.wO+1)=p0.wO+1:=km _ qqo qqo;rw[ei];refine⟨fun e2=> ?_,fun e2=>⟨⟨⟨hr.w1,hr.w2⟩,hrl⟩,?_,fun e3=> ?_,fun e3=> ?_⟩⟩
 ·rw[qf (qb e2)]at hR;exact hR
 ·unfold ancL;rw[qan];omega
 ·have e3:p1.wM∉ancL p0.wg p0.wV:=by simpa using e3
  rw[qe (qc e2),qf e3]at hR;exact hR
 have e3:¬p1.wM∉ancL p0.wg p0.wV:=by simpa using e3
 rw[qe (qc e2),qe e3]at hR;refine⟨fun a=>∃i:Nat,a=(i:Int)/\i<=p1.wE.length/\((p1.wE.take i).any fun m=>decide (m∈p0.wE))=false,fun a=>(p1.wE.length-a).toNat,⟨0,rfl,by omega,rfl⟩,?_⟩;rintro _ ⟨i,rfl,hi,hm⟩;refine⟨fun e4=> ?_,fun e4 J1 j=> ?_⟩
 ·have e4:i<p1.wE.length:=by have:=qb e4;omega
  rw[ix_get _ _ e4,inc_i64 _ qqo];refine⟨by omega,by omega,by omega,fun e5=> ?_,fun e5=>⟨⟨i+1,rfl,by omega,?_⟩,by(dsimp only;omega)⟩⟩
  ·rw[qf (List.any_eq_true.2 ⟨_,qah e4,e5⟩)]at hR;exact hR
  ·rw[qr e4,List.any_append,hm,List.any_cons,e5];rfl
 ·have e4:i=p1.wE.length:=by have:=qc e4;omega
  subst e4;rw[qbd]at hm
  have j1:(p1.wE.any fun m=>decide (m∈p0.wE))=false->¬(0<p1.wH/\(debitA p0.wF p1.wQ p1.wH p1.wS).2≠0)->J1:=by
   intro g1 g2;rw[qe (by rw[g1];decide),qe g2]at hR;obtain⟨d,hd⟩:=qn (show 0<=p0.wn by omega);have hdn:p0.wn.toNat=d:=by omega
   rw[hdn]at hR hp12;have ew:u64.wrap p0.wn=(d:Int):=by rw[wrap_u64 _ qqo qqo];exact hd
   refine j ⟨fun e4=> ?_,fun e4=> ?_⟩
   ·rw[qf (qb e4)]at hR;exact hR
   ·rw[qe (qc e4)]at hR;rw[ew,km _ qqo qqo,shl1 d qqo];refine⟨by omega,fun e5=> ?_,fun e5=> ?_⟩
    ·rw[qf (by have:=qb e5;omega)]at hR;exact hR
    ·rw[qe (by have:=qc e5;omega)]at hR;exact hR
  refine⟨fun e5=>⟨⟨hr.a,ht.d,ht.n⟩,fun e6=> ?_,fun e6=>j1 hm ?_⟩,fun e5=>j1 hm ?_⟩
  ·have e5:=qb e5;have e6:(debitA p0.wF p1.wQ p1.wH p1.wS).2≠0:=by simpa using e6
   rw[qe (by rw[hm];decide),qf ⟨e5,e6⟩]at hR;exact hR
  ·have e6:(debitA p0.wF p1.wQ p1.wH p1.wS).2=0:=by simpa using e6
   exact fun hh=>hh.2 e6
  ·have e5:=qc e5;exact fun hh=>e5 hh.1
noncomputable def kgg:Ct:= .gp 102 [.sl yqu,yqu] [.sl yqu] [] fun(p0:Li) (p1:Int)=>(p0.length<=1000000,(insI p1 p0:Li),())
theorem kia:kgg.O:=qrv Bs Tryz.func102 (.r 1 (.jn ⟨[],[],[5],[.one (zqi)],[]⟩ [] (.lp [] ⟨[],[],[5],[.one (zqi)],[]⟩ .no) [] .no)) c0 (Q:=∀(p0:Li) (p1:Int),(p0.length<=1000000)->∀r0:Li,insI p1 p0=r0-> 
∀J1:Int->Prop,(∀(b1:Int),
((0<=b1)/\b1<=(p0.length:Int)/\(([]:Li).length+(p0.take b1.toNat).length)*8<=140737488355328/\([]:Li).length+(p0.take b1.toNat).length<=maxLen/\lz (([]:Li)++(p0.take b1.toNat))/\((([]:Li)++(p0.take b1.toNat)).length+[p1].length)*8<=140737488355328/\(([]:Li)++(p0.take b1.toNat)).length+[p1].length<=maxLen/\let v1:Li:=(([]:Li)++(p0.take b1.toNat))++[p1]
(0<=b1)/\b1<=(p0.length:Int)/\lz v1/\(v1.length+(p0.drop b1.toNat).length)*8<=140737488355328/\v1.length+(p0.drop b1.toNat).length<=maxLen/\v1++(p0.drop b1.toNat)=r0)->J1 b1)->
∃(I1:Int->Prop) (M1:Int->Nat),I1 0/\∀f1,(I1 f1->
(decide (f1<(p0.length:Int))=true->
(0<=f1)/\f1<(p0.length:Int)/\(decide ((ix p0 f1)<p1)=true->
I1 (i64.wrap (f1+1))/\M1 (i64.wrap (f1+1))<M1 f1)/\
(decide ((ix p0 f1)<p1)=false->
J1 f1))/\
(decide (f1<(p0.length:Int))=false->
J1 f1)))<|by
 rintro p0 p1 h _ rfl
 have ins:∀(l r:Li),(∀x∈l,x<p1)->(∀x∈r.head?,p1<=x)->insI p1 (l++r)=l++[p1]++r:=by
  intro l;induction l with
  |nil=>
   intro r _ h2;cases r with
   |nil=>rfl
   |cons y r=>show insI p1 (y::r)=_;unfold insI;rw[qf (h2 y qqs)];rfl
  |cons y l ih=>intro r h1 h2;have:=h1 y qqs;show insI p1 (y::(l++r))=_;unfold insI;rw[qe qqo,ih r (fun x hx=>h1 x (by simp[hx])) h2];rfl
 intro J1 j1
 have j1:∀i:Nat,i<=p0.length->insI p1 p0=p0.take i++[p1]++p0.drop i->J1 (i:Int):=by
  intro i hi he;have h1:(p0.take i).length=i:=by rw[qu];omega
  have h2:(p0.drop i).length=p0.length-i:=qan;refine j1 _ ?_;rw[he];simp only[qx,qci];refine⟨by omega,by omega,?_,?_,(by first|exact rfl|exact ql),?_,?_,by omega,by omega,(by first|exact rfl|exact ql),?_,?_,(by first|exact rfl|exact ql)⟩
  all_goals simp only[qh,qj,qt]
  all_goals first|omega|(unfold maxLen;omega)
 refine⟨fun a=>∃i:Nat,a=(i:Int)/\i<=p0.length/\∀x∈p0.take i,x<p1,fun a=>(p0.length-a).toNat,⟨0,rfl,by omega,by simp⟩,?_⟩;rintro _ ⟨i,rfl,hi,hm⟩;refine⟨fun e=> ?_,fun e=>j1 i hi ?_⟩
 ·have e:i<p0.length:=by have:=qb e;omega
  rw[ix_get _ _ e,inc_i64 _ qqo];refine⟨by omega,by omega,fun e2=>⟨⟨i+1,rfl,by omega,?_⟩,by(dsimp only;omega)⟩,fun e2=>j1 i hi ?_⟩
  ·have e2:=qb e2;rw[qr e];intro x hx;rcases qak.1 hx with hx|hx
   ·exact hm x hx
   ·rw[qal.1 hx];exact e2
  ·have e2:=qc e2
   have:=ins (p0.take i) (p0.drop i) hm (by
    rw[qo e];intro x hx;rw[List.head?_cons]at hx;have hx:p0[i]=x:=Option.some.inj hx;omega)
   rw[qbh]at this;exact this
 ·have e:i=p0.length:=by have:=qc e;omega
  have:=ins (p0.take i) (p0.drop i) hm (by rw[qam qqo];intro x hx;cases hx);rw[qbh]at this;exact this
noncomputable def kds:Ct:= .gp 70 [.st 24,.st 2] [.st 24,yqi] [] fun(p0:wAZ) (p1:wy)=>(ROk p0/\TR p1/\TL p1,((rperf p0 p1).m:wAZ),((rperf p0 p1).e:Int),())
abbrev Fz10 (r:Type):=Int->Int->Int->Int->Int->Int->Int->Int->Int->Int->Int->(Li)->(Li)->(List wB)->Int->(Li)->r
abbrev Fz11 (r:Type):=Int->Int->Int->Int->Int->Int->Int->Int->Int->Int->Int->(Li)->(List wB)->Int->(Li)->(Li)->r
theorem kg2:kds.O:=qrv Bs Tryz.func70 (.r 1 (.nd [] (.r 0 (.lp [] ⟨[0],yW,[7],[.one (zqi)],[]⟩ .no)) [] (.r 0 (.nd [] (.r 0 (.lp [] ⟨[0,4],yS,[8],[.one (zqi)],[]⟩ .no)) [] (.r 0 (.jn ⟨[0,4],yS,[9],[.one (zqi)],[]⟩ [] .no [] (.jn ⟨[0,4],yS,[9],[.one (zqi)],[]⟩ [] .no [] .no))))))) (kml.c (kia.c (k91.c (k7w.c c0)))) (Q:=∀(p0:wAZ) (p1:wy),(ROk p0/\TR p1/\TL p1)->∀r0:wAZ,((rperf p0 p1).m)=r0->∀r1:Int,((rperf p0 p1).e)=r1-> 
(ROk p0/\TR p1/\TL p1)/\(((rchk p0 p1) !=0)=true->
p0.wAT=r0.wAT/\p0.wn=r0.wn/\p0.wa=r0.wa/\p0.wX=r0.wX/\p0.wW=r0.wW/\p0.wo=r0.wo/\p0.wV=r0.wV/\p0.wx=r0.wx/\p0.wAS=r0.wAS/\p0.wO=r0.wO/\p0.wAO=r0.wAO/\p0.wE=r0.wE/\p0.wF=r0.wF/\p0.wAE=r0.wAE/\p0.wg=r0.wg/\(rchk p0 p1)=r1)/\
(((rchk p0 p1) !=0)=false->
∃(I1:Fz10 Prop) (M1:Fz10 Nat),I1 0 p0.wAT p0.wn p0.wa p0.wX p0.wW p0.wo p0.wV p0.wx p0.wAS p0.wO p0.wAO p0.wE p0.wF p0.wAE p0.wg/\∀b1 f1 i1 k1 l1 m1 n1 o1 q1 s1 t1 u1 x1 y1 b2 f2,(I1 b1 f1 i1 k1 l1 m1 n1 o1 q1 s1 t1 u1 x1 y1 b2 f2->
(decide (b1<(p1.wE.length:Int))=true->
(0<=b1)/\b1<(p1.wE.length:Int)/\(x1.length<=1000000)/\I1 (i64.wrap (b1+1)) f1 i1 k1 l1 m1 n1 o1 q1 s1 t1 u1 (insI (ix p1.wE b1) x1) y1 b2 f2/\M1 (i64.wrap (b1+1)) f1 i1 k1 l1 m1 n1 o1 q1 s1 t1 u1 (insI (ix p1.wE b1) x1) y1 b2 f2<M1 b1 f1 i1 k1 l1 m1 n1 o1 q1 s1 t1 u1 x1 y1 b2 f2)/\
(decide (b1<(p1.wE.length:Int))=false->
(([]:Li).length+u1.length)*8<=140737488355328/\([]:Li).length+u1.length<=maxLen/\(([]:Li)++u1=([]:Li)++u1)/\∃(I2:Fz11 Prop) (M2:Fz11 Nat),I2 0 f1 i1 k1 l1 m1 n1 o1 q1 s1 t1 x1 y1 b2 f2 (([]:Li)++u1)/\∀i2 k2 l2 m2 n2 o2 q2 s2 t2 u2 x2 y2 b3 f3 i3 k3,(I2 i2 k2 l2 m2 n2 o2 q2 s2 t2 u2 x2 y2 b3 f3 i3 k3->
(decide (i2<(p1.wA.length:Int))=true->
(0<=i2)/\i2<(p1.wA.length:Int)/\lz k3/\(k3.length+[(ix p1.wA i2).wm].length)*8<=140737488355328/\k3.length+[(ix p1.wA i2).wm].length<=maxLen/\(k3++[(ix p1.wA i2).wm]=k3++[(ix p1.wA i2).wm])/\I2 (i64.wrap (i2+1)) k2 l2 m2 n2 o2 q2 s2 t2 u2 x2 y2 b3 f3 i3 (k3++[(ix p1.wA i2).wm])/\M2 (i64.wrap (i2+1)) k2 l2 m2 n2 o2 q2 s2 t2 u2 x2 y2 b3 f3 i3 (k3++[(ix p1.wA i2).wm])<M2 i2 k2 l2 m2 n2 o2 q2 s2 t2 u2 x2 y2 b3 f3 i3 k3)/\
(decide (i2<(p1.wA.length:Int))=false->
∀J1:Int->Int->Int->Int->Int->Int->Int->Int->Int->Int->Int->(Li)->(List wB)->Int->(Li)->(Li)->Prop,(∀(l3 m3 n3 o3 q3 s3 t3 u3 x3 y3 b4:Int) (f4:Li) (i4:List wB) (k4:Int) (l4 m4:Li),
(∀J2:Int->Int->Int->Int->Int->Int->Int->Int->Int->Int->Int->(Li)->(List wB)->Int->(Li)->(Li)->Prop,(∀(n4 o4 q4 s4 t4 u4 x4 y4 b5 f5 i5:Int) (k5:Li) (l5:List wB) (m5:Int) (n5 o5:Li),
(let v3:Int:=u64.wrap ((u64.wrap (m5+p1.wH))-p1.wL)
o4=r0.wAT/\q4=r0.wn/\s4=r0.wa/\t4=r0.wX/\u4=r0.wW/\x4=r0.wo/\y4=r0.wV/\b5=r0.wx/\f5=r0.wAS/\i5=r0.wO/\o5=r0.wAO/\k5=r0.wE/\l5=r0.wF/\u64.wrap (v3-p1.Fee)=r0.wAE/\n5=r0.wg/\n4=r1)->J2 n4 o4 q4 s4 t4 u4 x4 y4 b5 f5 i5 k5 l5 m5 n5 o5)->
(decide (0<p1.wL)=true->
(OkA i4/\U64 p1.wL)/\(m4=m4)/\J2 ((creditA i4 p1.wQ p1.wL).2) m3 n3 o3 q3 s3 t3 u3 x3 y3 b4 f4 ((creditA i4 p1.wQ p1.wL).1) k4 l4 m4)/\
(decide (0<p1.wL)=false->
(m4=m4)/\J2 l3 m3 n3 o3 q3 s3 t3 u3 x3 y3 b4 f4 i4 k4 l4 m4))->J1 l3 m3 n3 o3 q3 s3 t3 u3 x3 y3 b4 f4 i4 k4 l4 m4)->
(decide (0<p1.wH)=true->
(OkA b3/\U64 p1.wH/\U64 p1.wS)/\let r2:=debitA b3 p1.wQ p1.wH p1.wS
(k3=k3)/\J1 r2.2 k2 l2 m2 n2 o2 q2 s2 t2 u2 x2 y2 r2.1 f3 i3 k3)/\
(decide (0<p1.wH)=false->
(k3=k3)/\J1 0 k2 l2 m2 n2 o2 q2 s2 t2 u2 x2 y2 b3 f3 i3 k3)))))))<|by
 rintro p0 p1 h _ rfl _ rfl;obtain⟨hr,ht,hl⟩:=h;generalize hR:rperf p0 p1=R;unfold rperf at hR;refine⟨⟨hr,ht,hl⟩,fun e=> ?_,fun e=> ?_⟩
 ·have e:rchk p0 p1≠0:=by simpa using e
  rw[qf e]at hR;subst hR;exact(by repeat' first|apply qaa|exact rfl|exact ql)
 have e:rchk p0 p1=0:=by simpa using e
 rw[qe (fun hh=>hh e)]at hR
 have vt:VT p1/\(0<p1.wH->(debitA p0.wF p1.wQ p1.wH p1.wS).2=0):=by
  have e2:=e;unfold rchk chk at e2;split at e2
  ·rename_i h1;exact(h1 e2).elim
  ·rename_i h1;refine⟨(kz p1).1 (qz h1),fun hd=> ?_⟩;split at e2
   ·cases e2
   ·split at e2
    ·cases e2
    ·split at e2
     ·cases e2
     ·split at e2
      ·rename_i h5;exact(h5.2 e2).elim
      ·rename_i h5;exact qz fun hn=>h5 ⟨hd,hn⟩
 obtain⟨vt,hdd⟩:=vt;have hml:=vt.ml;have hol:=vt.ol;have hml0:=hr.ml;have hll:=hr.ll;have hal:=hr.al;obtain⟨a1,a2,a3,a4,a5⟩:=vt.am'
 have hdA:OkA (depA p0.wF p1):=by
  unfold depA;split
  ·exact krw hr.a hal ⟨ht.ac.1,a4⟩ ht.d.1 ht.n
  ·exact hr.a
 have il:∀x (l:Li),(insI x l).length=l.length+1:=fun x l=>(k3n x l).length_eq;refine⟨fun a y0 y1 y2 y3 y4 y5 y6 y7 y8 hh lv g ac hd rt=>(p0.wAT=y0/\p0.wn=y1/\p0.wa=y2/\p0.wX=y3/\p0.wW=y4/\p0.wo=y5/\p0.wV=y6/\p0.wx=y7/\p0.wAS=y8/\p0.wO=hh/\p0.wAO=lv/\p0.wF=ac/\p0.wAE=hd/\p0.wg=rt)/\∃i:Nat,a=(i:Int)/\i<=p1.wE.length/\g=(p1.wE.take i).foldl (fun a x=>insI x a) p0.wE/\g.length=p0.wE.length+i,fun a _ _ _ _ _ _ _ _ _ _ _ _ _ _ _=>(p1.wE.length-a).toNat,⟨⟨rfl,rfl,rfl,rfl,rfl,rfl,rfl,rfl,rfl,rfl,rfl,rfl,rfl,rfl⟩,0,rfl,by omega,rfl,by omega⟩,?_⟩;rintro _ _ _ _ _ _ _ _ _ _ _ _ _ _ _ _ ⟨⟨rfl,rfl,rfl,rfl,rfl,rfl,rfl,rfl,rfl,rfl,rfl,rfl,rfl,rfl⟩,i,rfl,hi,rfl,hgl⟩;refine⟨fun e=> ?_,fun e=> ?_⟩
 ·have e:i<p1.wE.length:=by have:=qb e;omega
  rw[ix_get _ _ e,inc_i64 _ qqo];refine⟨by omega,by omega,by omega,⟨⟨rfl,rfl,rfl,rfl,rfl,rfl,rfl,rfl,rfl,rfl,rfl,rfl,rfl,rfl⟩,i+1,rfl,by omega,?_,?_⟩,by(dsimp only;omega)⟩
  ·rw[qr e,List.foldl_append];rfl
  ·rw[il,hgl];omega
 have e:i=p1.wE.length:=by have:=qc e;omega
 subst e;rw[qbd];refine⟨by simp;omega,by simp;unfold maxLen;omega,rfl,?_⟩;refine⟨fun a y0 y1 y2 y3 y4 y5 y6 y7 y8 hh mk ac hd rt g=>(p0.wAT=y0/\p0.wn=y1/\p0.wa=y2/\p0.wX=y3/\p0.wW=y4/\p0.wo=y5/\p0.wV=y6/\p0.wx=y7/\p0.wAS=y8/\p0.wO=hh/\(p1.wE.foldl (fun a x=>insI x a) p0.wE)=mk/\p0.wF=ac/\p0.wAE=hd/\p0.wg=rt)/\∃i:Nat,a=(i:Int)/\i<=p1.wA.length/\g=p0.wAO++(p1.wA.take i).map (·.wm),fun a _ _ _ _ _ _ _ _ _ _ _ _ _ _ _=>(p1.wA.length-a).toNat,⟨⟨rfl,rfl,rfl,rfl,rfl,rfl,rfl,rfl,rfl,rfl,rfl,rfl,rfl,rfl⟩,0,rfl,by omega,by simp⟩,?_⟩;rintro _ _ _ _ _ _ _ _ _ _ _ _ _ _ _ _ ⟨⟨rfl,rfl,rfl,rfl,rfl,rfl,rfl,rfl,rfl,rfl,rfl,rfl,rfl,rfl⟩,i,rfl,hi,rfl⟩;refine⟨fun e=> ?_,fun e=> ?_⟩
 ·have e:i<p1.wA.length:=by have:=qb e;omega
  have hgl:(p0.wAO++(p1.wA.take i).map (·.wm)).length=p0.wAO.length+i:=by simp only[qh,qm,qu];omega
  rw[ix_get _ _ e,inc_i64 _ qqo];refine⟨by omega,by omega,rfl,?_,?_,rfl,⟨⟨rfl,rfl,rfl,rfl,rfl,rfl,rfl,rfl,rfl,rfl,rfl,rfl,rfl,rfl⟩,i+1,rfl,by omega,?_⟩,by(dsimp only;omega)⟩
  ·rw[hgl];simp only[qj,qt];omega
  ·rw[hgl];simp only[qj,qt];unfold maxLen;omega
  ·rw[qr e,qbg,qw];rfl
 have e:i=p1.wA.length:=by have:=qc e;omega
 subst e;rw[qbd];intro J1 j
 have j1:∀b',b' =depA p0.wF p1->J1 0 p0.wAT p0.wn p0.wa p0.wX p0.wW p0.wo p0.wV p0.wx p0.wAS p0.wO (p1.wE.foldl (fun a x=>insI x a) p0.wE) b' p0.wAE p0.wg (p0.wAO++p1.wA.map (·.wm)):=by
  intro b' h1;subst h1;refine j _ _ _ _ _ _ _ _ _ _ _ _ _ _ _ _ fun J2 k=> ?_;have j2:∀(e:Int) b',e=(wdA p0.wF p1).2->b' =(wdA p0.wF p1).1->J2 e p0.wAT p0.wn p0.wa p0.wX p0.wW p0.wo p0.wV p0.wx p0.wAS p0.wO (p1.wE.foldl (fun a x=>insI x a) p0.wE) b' p0.wAE p0.wg (p0.wAO++p1.wA.map (·.wm)):=by intro e b' h1 h2;subst hR;subst h1;subst h2;exact k _ _ _ _ _ _ _ _ _ _ _ _ _ _ _ _ (by repeat' first|apply qaa|exact rfl|exact ql)
  refine⟨fun e=>⟨⟨hdA,ht.w⟩,rfl,j2 _ _ ?_ ?_⟩,fun e=>⟨rfl,j2 _ _ ?_ ?_⟩⟩
  ·unfold wdA;rw[qf (qb e)]
  ·unfold wdA;rw[qf (qb e)]
  ·unfold wdA;rw[qe (qc e)]
  ·unfold wdA;rw[qe (qc e)]
 refine⟨fun e2=>⟨⟨hr.a,ht.d,ht.n⟩,rfl,?_⟩,fun e2=>⟨rfl,j1 _ ?_⟩⟩
 ·rw[hdd (qb e2)];refine j1 _ ?_;unfold depA;rw[qf (qb e2)]
 ·unfold depA;rw[qe (qc e2)]
noncomputable def kiw:Ct:= .gp 41 [.st 24,.st 3] [.st 24,yqi] [] fun(p0:wAZ) (p1:wU)=>((∃(s:PS) (c:Nat),p0=mOf s/\c+p1.Txs.length<=790/\PI s c 0)/\BR' p1,((rapply p0 p1).m:wAZ),((rapply p0 p1).e:Int),())
abbrev Fz12 (r:Type):=Int->Int->Int->Int->Int->Int->Int->Int->Int->Int->Int->Int->(Li)->(Li)->(List wB)->Int->(Li)->r
theorem klv:kiw.O:=qrx Bs [73,76,83,84] Tryz.func41 (.r 5 (.nd [] (.r 0 (.lp [] ⟨[3],yW,[7,8,9],[.one (zqu),.one (.any),.one (zqi)],[]⟩ .no)) [] (.r 4 (.rt [.frzc 180 2 14])))) x0 (kg2.c (k7w.c (k8p.c c0))) (Q:=∀(p0:wAZ) (p1:wU),((∃(s:PS) (c:Nat),p0=mOf s/\c+p1.Txs.length<=790/\PI s c 0)/\BR' p1)->∀r0:wAZ,((rapply p0 p1).m)=r0->∀r1:Int,((rapply p0 p1).e)=r1-> 
let v2:Bool:=(p1.wO !=(i64.wrap (p0.wO+1)))
(v2=true->
p0.wAT=r0.wAT/\p0.wn=r0.wn/\p0.wa=r0.wa/\p0.wX=r0.wX/\p0.wW=r0.wW/\p0.wo=r0.wo/\p0.wV=r0.wV/\p0.wx=r0.wx/\p0.wAS=r0.wAS/\p0.wO=r0.wO/\p0.wAO=r0.wAO/\p0.wE=r0.wE/\p0.wF=r0.wF/\p0.wAE=r0.wAE/\p0.wg=r0.wg/\18=r1)/\
(v2=false->
(decide (18446744069414584321<=p1.wBP)=true->
p0.wAT=r0.wAT/\p0.wn=r0.wn/\p0.wa=r0.wa/\p0.wX=r0.wX/\p0.wW=r0.wW/\p0.wo=r0.wo/\p0.wV=r0.wV/\p0.wx=r0.wx/\p0.wAS=r0.wAS/\p0.wO=r0.wO/\p0.wAO=r0.wAO/\p0.wE=r0.wE/\p0.wF=r0.wF/\p0.wAE=r0.wAE/\p0.wg=r0.wg/\1=r1)/\
(decide (18446744069414584321<=p1.wBP)=false->
∃(I1:Fz12 Prop) (M1:Fz12 Nat),I1 0 0 p0.wAT p0.wn p0.wa p0.wX p0.wW p0.wo p0.wV p0.wx p0.wAS p0.wO p0.wAO p0.wE p0.wF p0.wAE p0.wg/\∀b1 f1 i1 k1 l1 m1 n1 o1 q1 s1 t1 u1 x1 y1 b2 f2 i2,(I1 b1 f1 i1 k1 l1 m1 n1 o1 q1 s1 t1 u1 x1 y1 b2 f2 i2->
(decide (f1<(p1.Txs.length:Int))=true->
(0<=f1)/\f1<(p1.Txs.length:Int)/\(ROk (wAZ.mk i1 k1 l1 m1 n1 o1 q1 s1 t1 u1 x1 y1 b2 f2 i2)/\TR (ix p1.Txs f1)/\TL (ix p1.Txs f1))/\let r3:=(rperf (wAZ.mk i1 k1 l1 m1 n1 o1 q1 s1 t1 u1 x1 y1 b2 f2 i2) (ix p1.Txs f1)).m
let r4:Int:=((rperf (wAZ.mk i1 k1 l1 m1 n1 o1 q1 s1 t1 u1 x1 y1 b2 f2 i2) (ix p1.Txs f1)).e)
((r4 !=0)=true->
p0.wAT=r0.wAT/\p0.wn=r0.wn/\p0.wa=r0.wa/\p0.wX=r0.wX/\p0.wW=r0.wW/\p0.wo=r0.wo/\p0.wV=r0.wV/\p0.wx=r0.wx/\p0.wAS=r0.wAS/\p0.wO=r0.wO/\p0.wAO=r0.wAO/\p0.wE=r0.wE/\p0.wF=r0.wF/\p0.wAE=r0.wAE/\p0.wg=r0.wg/\r4=r1)/\
((r4 !=0)=false->
(0<=f1)/\f1<(p1.Txs.length:Int)/\let v5:Int:=u64.wrap (b1+((ix p1.Txs f1).Fee))
I1 v5 (i64.wrap (f1+1)) r3.wAT r3.wn r3.wa r3.wX r3.wW r3.wo r3.wV r3.wx r3.wAS r3.wO r3.wAO r3.wE r3.wF r3.wAE r3.wg/\M1 v5 (i64.wrap (f1+1)) r3.wAT r3.wn r3.wa r3.wX r3.wW r3.wo r3.wV r3.wx r3.wAS r3.wO r3.wAO r3.wE r3.wF r3.wAE r3.wg<M1 b1 f1 i1 k1 l1 m1 n1 o1 q1 s1 t1 u1 x1 y1 b2 f2 i2))/\
(decide (f1<(p1.Txs.length:Int))=false->
(OkA b2/\U64 (u64.wrap (p0.wo+b1)))/\let r6:=creditA b2 p1.wBP (u64.wrap (p0.wo+b1))
((r6.2 !=0)=true->
p0.wAT=r0.wAT/\p0.wn=r0.wn/\p0.wa=r0.wa/\p0.wX=r0.wX/\p0.wW=r0.wW/\p0.wo=r0.wo/\p0.wV=r0.wV/\p0.wx=r0.wx/\p0.wAS=r0.wAS/\p0.wO=r0.wO/\p0.wAO=r0.wAO/\p0.wE=r0.wE/\p0.wF=r0.wF/\p0.wAE=r0.wAE/\p0.wg=r0.wg/\r6.2=r1)/\
((r6.2 !=0)=false->
lz ([]:Li)/\(([]:Li).length+i2.length)*8<=140737488355328/\([]:Li).length+i2.length<=maxLen/\((0<=k1/\k1<=12)/\x1.length<=2^k1.toNat/\(∀x∈x1,0<=x/\x<18446744069414584321))/\lz (([]:Li)++i2)/\lz [(TT (lf x1) k1.toNat 0)]/\((([]:Li)++i2).length+[(TT (lf x1) k1.toNat 0)].length)*8<=140737488355328/\(([]:Li)++i2).length+[(TT (lf x1) k1.toNat 0)].length<=maxLen/\let v7:Li:=(([]:Li)++i2)++[(TT (lf x1) k1.toNat 0)]
lz v7/\i1=r0.wAT/\k1=r0.wn/\l1=r0.wa/\m1=r0.wX/\n1=r0.wW/\o1=r0.wo/\q1=r0.wV/\s1=r0.wx/\t1=r0.wAS/\i64.wrap (u1+1)=r0.wO/\x1=r0.wAO/\y1=r0.wE/\r6.1=r0.wF/\f2=r0.wAE/\v7=r0.wg/\0=r1))))))<|by
 rintro p0 p1 h _ rfl _ rfl;obtain⟨⟨s,c,rfl,hc,hp⟩,hb⟩:=h;have hpl:=hp.p;generalize hR:rapply (mOf s) p1=R;unfold rapply at hR;generalize hG:rGo p1.Txs (mOf s) 0=G at hR;have hH:(mOf s).wO=(s.p.length:Int):=rfl;have ei:i64.wrap ((mOf s).wO+1)=(mOf s).wO+1:=by rw[hH];exact km _ qqo qqo
 refine ?_;rw[ei];refine⟨fun e=> ?_,fun e=>⟨fun e2=> ?_,fun e2=> ?_⟩⟩
 ·have e:p1.wO≠(mOf s).wO+1:=by simpa using e
  rw[qf e]at hR;subst hR;exact(by repeat' first|apply qaa|exact rfl|exact ql)
 ·have e:¬p1.wO≠(mOf s).wO+1:=by simpa using e
  rw[qe e,qf (qb e2)]at hR;subst hR;exact(by repeat' first|apply qaa|exact rfl|exact ql)
 have e:¬p1.wO≠(mOf s).wO+1:=by simpa using e
 rw[qe e,qe (qc e2)]at hR;refine⟨(fun fe a y0 y1 y2 y3 y4 y5 y6 y7 y8 y9 y10 y11 y12 y13 y14=>∃i:Nat,a=(i:Int)/\i<=p1.Txs.length/\∃(s' :PS) (c' :Nat),(y0=(mOf s').wAT/\y1=(mOf s').wn/\y2=(mOf s').wa/\y3=(mOf s').wX/\y4=(mOf s').wW/\y5=(mOf s').wo/\y6=(mOf s').wV/\y7=(mOf s').wx/\y8=(mOf s').wAS/\y9=(mOf s').wO/\y10=(mOf s').wAO/\y11=(mOf s').wE/\y12=(mOf s').wF/\y13=(mOf s').wAE/\y14=(mOf s').wg)/\c' +(p1.Txs.length-i)<=790/\PI s' c' fe/\s'.R=s.R/\rGo (p1.Txs.drop i) (mOf s') fe=G),(fun _ a _ _ _ _ _ _ _ _ _ _ _ _ _ _ _=>(p1.Txs.length-a).toNat),⟨0,rfl,by omega,s,c,⟨rfl,rfl,rfl,rfl,rfl,rfl,rfl,rfl,rfl,rfl,rfl,rfl,rfl,rfl,rfl⟩,by omega,hp,rfl,hG⟩,?_⟩;rintro fe _ _ _ _ _ _ _ _ _ _ _ _ _ _ _ _ ⟨i,rfl,hi,s',c',⟨rfl,rfl,rfl,rfl,rfl,rfl,rfl,rfl,rfl,rfl,rfl,rfl,rfl,rfl,rfl⟩,hc',hq,hsR,hg⟩;have em:wAZ.mk (mOf s').wAT (mOf s').wn (mOf s').wa (mOf s').wX (mOf s').wW (mOf s').wo (mOf s').wV (mOf s').wx (mOf s').wAS (mOf s').wO (mOf s').wAO (mOf s').wE (mOf s').wF (mOf s').wAE (mOf s').wg=mOf s' :=rfl;have hqk:=hq.rok qqo;refine⟨fun e3=> ?_,fun e3=> ?_⟩
 ·have e3:i<p1.Txs.length:=by have:=qb e3;omega
  have ht:=hb.t _ (qah e3);have hl:=hb.l _ (qah e3);rw[qo e3]at hg;unfold rGo at hg;rw[ix_get _ _ e3,inc_i64 _ qqo,em];refine⟨by omega,by omega,⟨hqk,ht,hl⟩,fun e4=> ?_,fun e4=> ?_⟩
  ·have e4:(rperf (mOf s') p1.Txs[i]).e≠0:=by simpa using e4
   rw[qf e4]at hg;subst hg;simp only at hR;rw[qf e4]at hR;subst hR;exact(by repeat' first|apply qaa|exact rfl|exact ql)
  ·have e4:(rperf (mOf s') p1.Txs[i]).e=0:=by simpa using e4
   rw[qe (fun hh=>hh e4)]at hg;have hk0:chkS s' p1.Txs[i]=0:=by rw[<-rchk_eq];refine qz fun hn=> ?_;unfold rperf at e4;rw[qf hn]at e4;exact hn e4
   have k:=k7i hk0;obtain⟨g1,g2⟩:=klj hk0;rw[g1]at e4;have g2:=g2 e4;have h9:=(hq.perf qqo ht k).2.2 e4;rw[kbf hq qqo ht k]at hg ⊢;rw[g2]at hg ⊢;exact⟨by omega,by omega,⟨i+1,rfl,by omega,(perfS s' p1.Txs[i]).s,c' +1,⟨rfl,rfl,rfl,rfl,rfl,rfl,rfl,rfl,rfl,rfl,rfl,rfl,rfl,rfl,rfl⟩,by omega,h9,(k9v s' p1.Txs[i]).1.trans hsR,hg⟩,by(dsimp only;omega)⟩
 ·have e3:i=p1.Txs.length:=by have:=qc e3;omega
  subst e3;rw[qbs]at hg;unfold rGo at hg;subst hg;have hw:=kbx (x:=⟨0,s',[],fe⟩) hq qqo;simp only at hw;have hrr:(mOf s).wo=s'.R.wd:=by rw[hsR];rfl
  rw[hrr]at hR ⊢;unfold rcr at hR;simp only at hR;rw[qe (fun hh=>hh rfl)]at hR;have hpq:=hq.p;have hrq:=hq.rl;have hgk:=hq.b.1;have hrl2:(mOf s').wg.length<=1000000:=hqk.rl;refine⟨⟨hgk,?_⟩,fun e4=> ?_,fun e4=> ?_⟩
  ·rw[hw.1];exact hw.2
  ·have e4:(creditA (mOf s').wF p1.wBP (u64.wrap (s'.R.wd+fe))).2≠0:=by simpa using e4
   rw[qf e4]at hR;subst hR;rw[<-hrr];exact(by repeat' first|apply qaa|exact rfl|exact ql)
  ·have e4:(creditA (mOf s').wF p1.wBP (u64.wrap (s'.R.wd+fe))).2=0:=by simpa using e4
   rw[qe (fun hh=>hh e4)]at hR;have eh:i64.wrap ((mOf s').wO+1)=(mOf s').wO+1:=by show i64.wrap ((s'.p.length:Int)+1)=(s'.p.length:Int)+1;exact km _ qqo qqo
   have hd1:=hqk.d1;have hd2:=hqk.d2;rw[eh];simp only[qci];subst hR;refine⟨(by first|exact rfl|exact ql),?_,?_,⟨⟨by omega,hd2⟩,hq.ll,hq.l⟩,(by first|exact rfl|exact ql),(by first|exact rfl|exact ql),?_,?_,(by repeat' first|apply qaa|exact rfl|exact ql)⟩
   all_goals simp only[qj,qt]
   all_goals first|omega|(unfold maxLen;omega)
noncomputable def koa:Ct:= .gp 40 [.st 0] [.st 24] [] fun(p0:wP)=>(rulesE p0=0,(mOf (newS p0):wAZ),())
theorem kp7:koa.O:=qrv Bs Tryz.func40 .no (k8p.c c0) (Q:=∀(p0:wP),(rulesE p0=0)->∀r0:wAZ,(mOf (newS p0))=r0-> 
((0<=p0.wD/\p0.wD<=12)/\([]:Li).length<=2^p0.wD.toNat/\(∀x∈([]:Li),0<=x/\x<18446744069414584321))/\let r1:Int:=(TT (lf ([]:Li)) p0.wD.toNat 0)
p0.wAk=r0.wAT/\p0.wD=r0.wn/\p0.wAG=r0.wa/\p0.wAA=r0.wX/\p0.ww=r0.wW/\p0.wd=r0.wo/\p0.wAe=r0.wV/\p0.wAQ=r0.wx/\p0.wBA=r0.wAS/\0=r0.wO/\([]:Li)=r0.wAO/\([]:Li)=r0.wE/\([]:List wB)=r0.wF/\0=r0.wAE/\[r1]=r0.wg)<|by
 rintro p0 h _ rfl
 have hb:rulesB p0=true:=by
  cases hb:rulesB p0 with
  |true=>rfl
  |false=>unfold rulesE at h;rw[hb]at h;cases h
 have hd:1<=p0.wD/\p0.wD<=12:=by simp only[rulesB,qg,qai]at hb;omega
 have hr:=k57 (d:=p0.wD) (l:=[]) qqo (qaq _);refine⟨⟨⟨by omega,hd.2⟩,qaq _,fun x hx=>by cases hx⟩,?_⟩;rw[<-hr];exact(by repeat' first|apply qaa|exact rfl|exact ql)
noncomputable def kem:Ct:= .gp 43 [.st 26,.st 19] [.st 26] [] fun(p0:wv) (p1:wK)=>(0<=p1.wAU/\p1.wAU<=(p0.wAJ.length:Int),(setU p0 (p0.wAJ.take p1.wAU.toNat):wv),())
theorem kfb:kem.O:=qrv Bs Tryz.func43 .no c0 (Q:=∀(p0:wv) (p1:wK),(0<=p1.wAU/\p1.wAU<=(p0.wAJ.length:Int))->∀r0:wv,(setU p0 (p0.wAJ.take p1.wAU.toNat))=r0-> 
(0<=p1.wAU)/\p1.wAU<=(p0.wAJ.length:Int)/\p0.wBN=r0.wBN/\p0.wBC=r0.wBC/\p0.wBB=r0.wBB/\p0.wBE=r0.wBE/\p0.wBD=r0.wBD/\p0.wAt=r0.wAt/\p0.wD=r0.wD/\p0.wg=r0.wg/\p0.wAu=r0.wAu/\p0.wl=r0.wl/\p0.wAJ.take p1.wAU.toNat=r0.wAJ)<|by rintro p0 p1 h _ rfl;exact⟨h.1,h.2,(by repeat' first|apply qaa|exact rfl|exact ql)⟩
noncomputable def kmq:Ct:= .gp 46 [yqu,.sl yqu] [yqu] [] fun(p0:Int) (p1:Li)=>(U64 p0/\Us p1/\p1.length<=1073741824,(hashS p0 p1:Int),())
theorem k5k:kmq.O:=qrv Bs Tryz.func46 (.r 1 (.nd [] (.r 0 (.lp [.tok 5 yqu] ⟨[1],[.tip yqu],[5,6],[.one (.own 0),.one (zqi)],[]⟩ .no)) [] .no)) (k1a.c c0) (Q:=∀(p0:Int) (p1:Li),(U64 p0/\Us p1/\p1.length<=1073741824)->∀r0:Int,hashS p0 p1=r0-> 
(([]:Li)=([]:Li))/\∃(I1:Int->(Li)->Prop) (M1:Int->(Li)->Nat),I1 0 ([]:Li)/\∀b1 f1,(I1 b1 f1->
(decide (b1<(p1.length:Int))=true->
(0<=b1)/\b1<(p1.length:Int)/\lz f1/\(f1.length+[Int.tmod (ix p1 b1) 18446744069414584321].length)*8<=140737488355328/\f1.length+[Int.tmod (ix p1 b1) 18446744069414584321].length<=maxLen/\let v1:Li:=f1++[Int.tmod (ix p1 b1) 18446744069414584321]
(v1=v1)/\I1 (i64.wrap (b1+1)) v1/\M1 (i64.wrap (b1+1)) v1<M1 b1 f1)/\
(decide (b1<(p1.length:Int))=false->
((18446744069414584321:Int)=18446744069414584321/\U64 p0/\Us f1/\f1.length<=1099511627776)/\(hashS p0 f1)=r0)))<|by
 rintro p0 p1 h _ rfl;obtain⟨h0,h1,h3⟩:=h;refine⟨by trivial,⟨(fun i g=>MapI (fun x=>x%18446744069414584321) p1 i g),(fun i _=>(p1.length-i).toNat),MapI.start,?_⟩⟩;intro i g hg;have hl:=hg.len;refine⟨fun hh=> ?_,fun hh=> ?_⟩
 ·have hh:=qb hh;have hx:=h1 _ (ix_mem p1 i hg.1 hh);have e:Int.tmod (ix p1 i) 18446744069414584321=ix p1 i%18446744069414584321:=tmod_nn _ _ hx.1;rw[e];have:=hg.1;exact⟨hg.1,hh,rfl,by simp;omega,by simp;unfold maxLen;omega,by trivial,hg.next hh qqo rfl⟩
 ·have e:=hg.done (qc hh);subst e;rw[kqc];refine⟨⟨rfl,h0,?_,by rw[qm];omega⟩,rfl⟩;intro x hx;obtain⟨y,_,rfl⟩:=qau.1 hx;exact⟨by omega,by omega⟩
noncomputable def kd6:Ct:= .gp 112 [yqu] [yqu] [] fun(p0:Int)=>(U64 p0,(acctS p0:Int),())
theorem kg9:kd6.O:=qrv Bs Tryz.func112 .no (k5k.c c0) (Q:=∀(p0:Int),(U64 p0)->∀r0:Int,acctS p0=r0-> 
(U64 (7:Int)/\Us [p0]/\[p0].length<=1073741824)/\(hashS (7:Int) [p0])=r0)<|by rintro p0 h _ rfl;exact⟨⟨by decide,(by intro x hx;rw[qal]at hx;subst hx;exact h),by simp⟩,rfl⟩
noncomputable def kme:Ct:= .tp 156 [.st 13] [.sl yqu] [] fun(p0:wJ)=>((noteL p0:Li),())
theorem k5w:kme.O:=qtv Bs Tryz.func156 .no c0 (Q:=∀(p0:wJ),∀r0:Li,noteL p0=r0-> 
[p0.Value,p0.wAg,p0.Rho,p0.wBL]=r0)<|by rintro p0 _ rfl;exact rfl
noncomputable def kf2:Ct:= .tp 47 [yqu] [.bool] [] fun(p0:Int)=>((decide (p0<18446744069414584321):Bool),())
theorem k2b:kf2.O:=qtv Bs Tryz.func47 .no c0 (Q:=∀(p0:Int),∀r0:Bool,(decide (p0<18446744069414584321))=r0-> 
decide (p0<18446744069414584321)=r0)<|by rintro p0 _ rfl;exact rfl
noncomputable def kc7:Ct:= .gp 150 [.sl yqu] [.bool] [] fun(p0:Li)=>(p0.length<=9223372036854775807,(p0.all (fun x=>decide (x<18446744069414584321)):Bool),())
theorem k2y:kc7.O:=qrv Bs Tryz.func150 (.r 0 (.nd [] (.r 0 (.lp [] ⟨[],[],[3],[.one (zqi)],[]⟩ .no)) [] .no)) (k2b.c c0) (Q:=∀(p0:Li),(p0.length<=9223372036854775807)->∀r0:Bool,(p0.all (fun x=>decide (x<18446744069414584321)))=r0-> 
∃(I1:Int->Prop) (M1:Int->Nat),I1 0/\∀b1,(I1 b1->
(decide (b1<(p0.length:Int))=true->
(0<=b1)/\b1<(p0.length:Int)/\let r1:Bool:=(decide ((ix p0 b1)<18446744069414584321))
((!r1)=true->
false=r0)/\
((!r1)=false->
I1 (i64.wrap (b1+1))/\M1 (i64.wrap (b1+1))<M1 b1))/\
(decide (b1<(p0.length:Int))=false->
true=r0)))<|by rintro p0 h _ rfl;refine(⟨(AllI (fun x=>decide (x<18446744069414584321)) p0),(fun i=>(p0.length-i).toNat),AllI.start,?_⟩);intro i hi;refine⟨fun hh=> ?_,fun hh=>(hi.done (qc hh)).symm⟩;have hh:=qb hh;exact⟨hi.1,hh,fun e=>(hi.bad hh (by simpa using e)).symm,fun e=>hi.next hh qqo (by simpa using e)⟩
noncomputable def kir:Ct:= .tp 153 [.st 13] [.bool] [] fun(p0:wJ)=>((noteV p0:Bool),())
theorem k2v:kir.O:=qtv Bs Tryz.func153 .no (k2y.c c0) (Q:=∀(p0:wJ),∀r0:Bool,noteV p0=r0-> 
(decide (p0.Value<=4294967295)=true->
([p0.wAg,p0.Rho,p0.wBL].length<=9223372036854775807)/\let r1:Bool:=([p0.wAg,p0.Rho,p0.wBL].all (fun x=>decide (x<18446744069414584321)))
r1=r0)/\
(decide (p0.Value<=4294967295)=false->
false=r0))<|by
 rintro p0 _ rfl;have e:[p0.wAg,p0.Rho,p0.wBL].all (fun x=>decide (x<18446744069414584321))=(decide (p0.wAg<18446744069414584321)&&(decide (p0.Rho<18446744069414584321)&&decide (p0.wBL<18446744069414584321))):=by simp
 refine⟨fun h=>⟨by simp,?_⟩,fun h=> ?_⟩
 ·rw[e];unfold noteV;rw[h];simp[Bool.and_assoc]
 ·unfold noteV;rw[h];rfl
noncomputable def kg3:Ct:= .gp 154 [.st 13] [yqu] [] fun(p0:wJ)=>(NR p0,(if noteV p0=true then hashS 2 (noteL p0)else 0:Int),())
theorem kiz:kg3.O:=qrv Bs Tryz.func154 .no (k2v.c (k5w.c (k1a.c c0))) (Q:=∀(p0:wJ),(NR p0)->∀r0:Int,(if noteV p0=true then hashS 2 (noteL p0)else 0:Int)=r0-> 
((!(noteV p0))=true->
0=r0)/\
((!(noteV p0))=false->
((18446744069414584321:Int)=18446744069414584321/\U64 (2:Int)/\Us (noteL p0)/\(noteL p0).length<=1099511627776)/\(hashS (2:Int) (noteL p0))=r0))<|by
 rintro p0 h _ rfl
 have hu:Us (noteL p0):=by
  intro x hx;simp only[noteL,qae,qcq,or_false]at hx;rcases hx with rfl|rfl|rfl|rfl
  ·exact h.v
  ·exact h.o
  ·exact h.r
  ·exact h.b
 refine ?_;simp only[k5b];refine⟨fun e=> ?_,fun e=>⟨⟨by trivial,by decide,hu,by simp[noteL]⟩,?_⟩⟩
 ·rw[qe (by simpa using e)]
 ·rw[qf (by simpa using e)]
noncomputable def k9l:Ct:= .gp 111 [.st 23,.st 13] [yqu,.bool] [] fun(p0:wAr) (p1:wJ)=>(p0.wAz=false/\NR p1,(comV p1:Int),(noteV p1:Bool),())
theorem k2e:k9l.O:=qrv Bs Tryz.func111 .no (k2v.c (kiz.c (k5w.c c0))) (Q:=∀(p0:wAr) (p1:wJ),(p0.wAz=false/\NR p1)->∀r0:Int,comV p1=r0->∀r1:Bool,noteV p1=r1-> 
((!(noteV p1))=true->
0=r0/\false=r1)/\
((!(noteV p1))=false->
((!p0.wAz)=true->
(NR p1)/\let r2:Int:=(if noteV p1=true then hashS 2 (noteL p1)else 0)
r2=r0/\true=r1)/\
((!p0.wAz)=false->
False)))<|by
 rintro p0 p1 h _ rfl _ rfl;obtain⟨h1,h2⟩:=h
 try simp only[k5b]
 rw[comV_eq]at *
 refine⟨fun e=> ?_,fun e=>⟨fun e2=>⟨h2,?_⟩,fun e2=>by rw[h1]at e2;cases e2⟩⟩
 ·have e:noteV p1=false:=by simpa using e
  simp[e]
 ·have e:noteV p1=true:=by simpa using e
  simp[e]
noncomputable def kfp:Ct:= .gp 113 [.st 16] [yqu] [] fun(p0:wZ)=>(p0.Ins.length<=9223372036854775807,(inS p0.Ins:Int),())
theorem khx:kfp.O:=qrv Bs Tryz.func113 (.r 1 (.nd [] (.r 0 (.lp [] ⟨[],[],[3,4],[.one (zqu),.one (zqi)],[]⟩ .no)) [] .no)) c0 (Q:=∀(p0:wZ),(p0.Ins.length<=9223372036854775807)->∀r0:Int,inS p0.Ins=r0-> 
∃(I1:Int->Int->Prop) (M1:Int->Int->Nat),I1 0 0/\∀b1 f1,(I1 b1 f1->
(decide (f1<(p0.Ins.length:Int))=true->
(0<=f1)/\f1<(p0.Ins.length:Int)/\let v1:Int:=u64.wrap (b1+((ix p0.Ins f1).wR))
I1 v1 (i64.wrap (f1+1))/\M1 v1 (i64.wrap (f1+1))<M1 b1 f1)/\
(decide (f1<(p0.Ins.length:Int))=false->
b1=r0)))<|by rintro p0 h _ rfl;refine(⟨(fun s i=>FoldI (fun s x=>(s+x.wR)%18446744073709551616) 0 p0.Ins i s),(fun s i=>(p0.Ins.length-i).toNat),FoldI.start,?_⟩);intro s i hi;refine⟨fun hh=> ?_,fun hh=>hi.done (qc hh)⟩;have hh:=qb hh;exact⟨hi.1,hh,hi.next hh qqo (by rw[u64w])⟩
noncomputable def kdn:Ct:= .gp 114 [.st 16] [yqu] [] fun(p0:wZ)=>(p0.wA.length<=9223372036854775807,(outS p0.wA:Int),())
theorem kg1:kdn.O:=qrv Bs Tryz.func114 (.r 1 (.nd [] (.r 0 (.lp [] ⟨[],[],[3,4],[.one (zqu),.one (zqi)],[]⟩ .no)) [] .no)) c0 (Q:=∀(p0:wZ),(p0.wA.length<=9223372036854775807)->∀r0:Int,outS p0.wA=r0-> 
∃(I1:Int->Int->Prop) (M1:Int->Int->Nat),I1 0 0/\∀b1 f1,(I1 b1 f1->
(decide (f1<(p0.wA.length:Int))=true->
(0<=f1)/\f1<(p0.wA.length:Int)/\let v1:Int:=u64.wrap (b1+((ix p0.wA f1).Value))
I1 v1 (i64.wrap (f1+1))/\M1 v1 (i64.wrap (f1+1))<M1 b1 f1)/\
(decide (f1<(p0.wA.length:Int))=false->
b1=r0)))<|by rintro p0 h _ rfl;refine(⟨(fun s i=>FoldI (fun s x=>(s+x.Value)%18446744073709551616) 0 p0.wA i s),(fun s i=>(p0.wA.length-i).toNat),FoldI.start,?_⟩);intro s i hi;refine⟨fun hh=> ?_,fun hh=>hi.done (qc hh)⟩;have hh:=qb hh;exact⟨hi.1,hh,hi.next hh qqo (by rw[u64w])⟩
noncomputable def kjj:Ct:= .gp 122 [.st 11,yqi] [.bool] [] fun(p0:wN) (p1:Int)=>(p0.wj.length<=9223372036854775807,(inpV p0 p1:Bool),())
theorem k8m:kjj.O:=qrv Bs Tryz.func122 .no (k2v.c (k2b.c (k2y.c c0))) (Q:=∀(p0:wN) (p1:Int),(p0.wj.length<=9223372036854775807)->∀r0:Bool,inpV p0 p1=r0-> 
let r1:Bool:=(noteV (wJ.mk p0.wR p0.we p0.wY p0.wz))
(r1=true->
((decide (p0.Key<18446744069414584321))=true->
(decide (0<=p0.wAP)=true->
(decide (p0.wAP<4)=true->
(((p0.wj.length:Int)==p1)=true->
(p0.wj.length<=9223372036854775807)/\let r2:Bool:=(p0.wj.all (fun x=>decide (x<18446744069414584321)))
(r2=true->
(decide (0<=p0.wC)=true->
(0<=p1)/\decide (p0.wC<(ishl .i64 1 p1))=r0)/\
(decide (0<=p0.wC)=false->
false=r0))/\
(r2=false->
false=r0))/\
(((p0.wj.length:Int)==p1)=false->
false=r0))/\
(decide (p0.wAP<4)=false->
false=r0))/\
(decide (0<=p0.wAP)=false->
false=r0))/\
((decide (p0.Key<18446744069414584321))=false->
false=r0))/\
(r1=false->
false=r0))<|by
 rintro p0 p1 h _ rfl;refine ?_;unfold inpV noteOf allB;have e2:(((p0.wj.length:Int)==p1)=true)↔(p0.wj.length:Int)=p1:=by simp
 have e3:(decide ((p0.wj.length:Int)=p1))=((p0.wj.length:Int)==p1):=by rw[Bool.eq_iff_iff];simp
 rw[e3];refine⟨fun h1=> ?_,fun h1=>by rw[h1];rfl⟩;rw[h1];refine⟨fun h2=> ?_,fun h2=>by rw[h2];rfl⟩;rw[h2];refine⟨fun h3=> ?_,fun h3=>by rw[h3];rfl⟩;rw[h3];refine⟨fun h4=> ?_,fun h4=>by rw[h4];rfl⟩;rw[h4];refine⟨fun h5=> ?_,fun h5=>by rw[h5];rfl⟩;rw[h5];have h5:=e2.1 h5;refine⟨h,fun h6=> ?_,fun h6=>by rw[h6];rfl⟩;rw[h6];refine⟨fun h7=> ?_,fun h7=>by rw[h7];rfl⟩;rw[h7];exact⟨by omega,rfl⟩
noncomputable def kig:Ct:= .gp 123 [.sl (.st 13)] [.bool] [] fun(p0:List wJ)=>(p0.length<=9223372036854775807,(p0.all noteV:Bool),())
theorem k8z:kig.O:=qrv Bs Tryz.func123 (.r 0 (.nd [] (.r 0 (.lp [] ⟨[],[],[3],[.one (zqi)],[]⟩ .no)) [] .no)) (k2v.c c0) (Q:=∀(p0:List wJ),(p0.length<=9223372036854775807)->∀r0:Bool,p0.all noteV=r0-> 
∃(I1:Int->Prop) (M1:Int->Nat),I1 0/\∀b1,(I1 b1->
(decide (b1<(p0.length:Int))=true->
(0<=b1)/\b1<(p0.length:Int)/\((!(noteV (ix p0 b1)))=true->
false=r0)/\
((!(noteV (ix p0 b1)))=false->
I1 (i64.wrap (b1+1))/\M1 (i64.wrap (b1+1))<M1 b1))/\
(decide (b1<(p0.length:Int))=false->
true=r0)))<|by rintro p0 h _ rfl;refine(⟨(AllI noteV p0),(fun i=>(p0.length-i).toNat),AllI.start,?_⟩);intro i hi;refine⟨fun hh=> ?_,fun hh=>(hi.done (qc hh)).symm⟩;have hh:=qb hh;exact⟨hi.1,hh,fun e=>(hi.bad hh (by simpa using e)).symm,fun e=>hi.next hh qqo (by simpa using e)⟩
noncomputable def ki7:Ct:= .gp 109 [.st 17,.st 16] [.bool] [] fun(p0:wAd) (p1:wZ)=>(SR p0/\WR p1,(relV p0 p1:Bool),())
theorem klw:ki7.O:=qrv Bs Tryz.func109 (.r 4 (.nd [] (.r 0 (.lp [] ⟨[],[],[5],[.one (zqi)],[]⟩ .no)) [] .no)) (k2y.c (k8m.c (k8z.c c0))) (Q:=∀(p0:wAd) (p1:wZ),(SR p0/\WR p1)->∀r0:Bool,relV p0 p1=r0-> 
(decide (p0.wD<1)=true->
false=r0)/\
(decide (p0.wD<1)=false->
(decide (12<p0.wD)=true->
false=r0)/\
(decide (12<p0.wD)=false->
([p0.wM,p0.wQ,p0.wBb,p1.wAV].length<=9223372036854775807)/\let r1:Bool:=([p0.wM,p0.wQ,p0.wBb,p1.wAV].all (fun x=>decide (x<18446744069414584321)))
((!r1)=true->
false=r0)/\
((!r1)=false->
(p0.wE.length<=9223372036854775807)/\let r2:Bool:=(p0.wE.all (fun x=>decide (x<18446744069414584321)))
((!r2)=true->
false=r0)/\
((!r2)=false->
(p0.wt.length<=9223372036854775807)/\let r3:Bool:=(p0.wt.all (fun x=>decide (x<18446744069414584321)))
((!r3)=true->
false=r0)/\
((!r3)=false->
(p0.wAi.length<=9223372036854775807)/\let r4:Bool:=(p0.wAi.all (fun x=>decide (x<18446744069414584321)))
((!r4)=true->
false=r0)/\
((!r4)=false->
(decide (4294967295<p0.wH)=true->
false=r0)/\
(decide (4294967295<p0.wH)=false->
(decide (4294967295<p0.wL)=true->
false=r0)/\
(decide (4294967295<p0.wL)=false->
(decide (4294967295<p0.Fee)=true->
false=r0)/\
(decide (4294967295<p0.Fee)=false->
let v5:Bool:=((p1.Ins.length:Int) !=(p0.wE.length:Int))
(v5=true->
false=r0)/\
(v5=false->
(decide (4<(p1.Ins.length:Int))=true->
false=r0)/\
(decide (4<(p1.Ins.length:Int))=false->
let v6:Bool:=((p1.wA.length:Int) !=(p0.wt.length:Int))
(v6=true->
false=r0)/\
(v6=false->
let v7:Bool:=((p1.wA.length:Int) !=(p0.wAi.length:Int))
(v7=true->
false=r0)/\
(v7=false->
(decide (4<(p1.wA.length:Int))=true->
false=r0)/\
(decide (4<(p1.wA.length:Int))=false->
∃(I1:Int->Prop) (M1:Int->Nat),I1 0/\∀b1,(I1 b1->
(decide (b1<(p1.Ins.length:Int))=true->
(0<=b1)/\b1<(p1.Ins.length:Int)/\((ix p1.Ins b1).wj.length<=9223372036854775807)/\((!(inpV (ix p1.Ins b1) p0.wD))=true->
false=r0)/\
((!(inpV (ix p1.Ins b1) p0.wD))=false->
I1 (i64.wrap (b1+1))/\M1 (i64.wrap (b1+1))<M1 b1))/\
(decide (b1<(p1.Ins.length:Int))=false->
(p1.wA.length<=9223372036854775807)/\(p1.wA.all noteV)=r0)))))))))))))))))<|by
 rintro p0 p1 h _ rfl;obtain⟨hs,hw⟩:=h;have l1:=hs.ml;have l2:=hs.cl;have l3:=hs.rl;have l4:=hw.il;have l5:=hw.ol;have hf:relV p0 p1=true↔_:=k36
 have no:relV p0 p1≠true->false=relV p0 p1:=fun h=>by cases hr:relV p0 p1 with
  |false=>rfl
  |true=>exact(h hr).elim
 have no:(_->False)->false=relV p0 p1:=fun h=>no fun a=>h (hf.1 a);have ea:∀l:Li,(l.all (fun x=>decide (x<18446744069414584321)))=allB l:=fun _=>rfl;simp only[ea];refine⟨fun h=>no fun a=> ?_,fun h1=>⟨fun h=>no fun a=> ?_,fun h2=>⟨by simp,fun h=>no fun a=> ?_,fun h3=>⟨by omega,fun h=>no fun a=> ?_,fun h4=>⟨by omega,fun h=>no fun a=> ?_,fun h5=>⟨by omega,fun h=>no fun a=> ?_,fun h6=>⟨fun h=>no fun a=> ?_,fun h7=>⟨fun h=>no fun a=> ?_,fun h8=>⟨fun h=>no fun a=> ?_,fun h9=>⟨fun h=>no fun a=> ?_,fun h10=>⟨fun h=>no fun a=> ?_,fun h11=>⟨fun h=>no fun a=> ?_,fun h12=>⟨fun h=>no fun a=> ?_,fun h13=>⟨fun h=>no fun a=> ?_,fun h14=> ?_⟩⟩⟩⟩⟩⟩⟩⟩⟩⟩⟩⟩⟩⟩
 ·have h:=qb h;omega
 ·have h:=qb h;omega
 ·rw[a.2.2.1]at h;cases h
 ·rw[a.2.2.2.2.2.2.1]at h;cases h
 ·rw[a.2.2.2.2.2.2.2.1]at h;cases h
 ·rw[a.2.2.2.2.2.2.2.2.1]at h;cases h
 ·have h:=qb h;omega
 ·have h:=qb h;omega
 ·have h:=qb h;omega
 ·have h:¬(p1.Ins.length:Int)=p0.wE.length:=by simpa using h
  omega
 ·have h:=qb h;omega
 ·have h:¬(p1.wA.length:Int)=p0.wt.length:=by simpa using h
  omega
 ·have h:¬(p1.wA.length:Int)=p0.wAi.length:=by simpa using h
  omega
 ·have h:=qb h;omega
 have h1:=qc h1;have h2:=qc h2;have h3:allB [p0.wM,p0.wQ,p0.wBb,p1.wAV]=true:=by simpa using h3
 have h4:allB p0.wE=true:=by simpa using h4
 have h5:allB p0.wt=true:=by simpa using h5
 have h6:allB p0.wAi=true:=by simpa using h6
 have h7:=qc h7;have h8:=qc h8;have h9:=qc h9;have h10:(p1.Ins.length:Int)=p0.wE.length:=by simpa using h10
 have h11:=qc h11;have h12:(p1.wA.length:Int)=p0.wt.length:=by simpa using h12
 have h13:(p1.wA.length:Int)=p0.wAi.length:=by simpa using h13
 have h14:=qc h14;have hd:1<=p0.wD/\p0.wD<=12:=⟨by omega,by(first|omega|(dsimp only;omega))⟩;refine⟨(AllI (inV p0.wD) p1.Ins),(fun i=>(p1.Ins.length-i).toNat),AllI.start,?_⟩;intro i hi;refine⟨fun hh=> ?_,fun hh=> ?_⟩
 ·have hh:=qb hh;have hx:=hw.i _ (ix_mem p1.Ins i hi.1 hh);have hxl:=hx.pl;rw[koi hd.1 hd.2];refine⟨hi.1,hh,by omega,fun e=>no fun a=> ?_,fun e=>hi.next hh qqo (by simpa using e)⟩;have e:inV p0.wD (ix p1.Ins i)=false:=by simpa using e
  rw[hi.bad hh e]at a;exact absurd a.2.2.2.2.2.2.2.2.2.2.2.2.2.2.1 qqs
 ·have hh:=qc hh;have ha:=hi.done hh;refine⟨by omega,?_⟩;cases hb:p1.wA.all noteV with
  |false=>exact no fun a=>by rw[hb]at a;exact absurd a.2.2.2.2.2.2.2.2.2.2.2.2.2.2.2 qqs
  |true=>exact(hf.2 ⟨hd.1,hd.2,h3,by omega,by omega,by omega,h4,h5,h6,by omega,by omega,by omega,by omega,by omega,ha,hb⟩).symm
noncomputable def kgc:Ct:= .tp 49 [yqi] [.bool] [] fun(p0:Int)=>((decide (0<=p0)&&decide (p0<4):Bool),())
theorem kjc:kgc.O:=qtv Bs Tryz.func49 .no c0 (Q:=∀(p0:Int),∀r0:Bool,(decide (0<=p0)&&decide (p0<4))=r0-> 
(decide (0<=p0)=true->
decide (p0<4)=r0)/\
(decide (0<=p0)=false->
false=r0))<|by
 rintro p0 _ rfl;refine⟨fun e=> ?_,fun e=> ?_⟩
 ·rw[e];rfl
 ·rw[e];rfl
noncomputable def ki2:Ct:= .gp 28 [yqu,yqi] [yqu] [] fun(p0 p1:Int)=>(U64 p0/\-9223372036854775808<=p1/\p1<=9223372036854775807,(ownerS p0 p1:Int),())
theorem k90:ki2.O:=qrv Bs Tryz.func28 .no (kjc.c (k5k.c c0)) (Q:=∀(p0 p1:Int),(U64 p0/\-9223372036854775808<=p1/\p1<=9223372036854775807)->∀r0:Int,ownerS p0 p1=r0-> 
((!(decide (0<=p1)&&decide (p1<4)))=true->
0=r0)/\
((!(decide (0<=p1)&&decide (p1<4)))=false->
(U64 (1:Int)/\Us [p0,u64.wrap p1]/\[p0,u64.wrap p1].length<=1073741824)/\let r1:Int:=(hashS (1:Int) [p0,u64.wrap p1])
r1=r0))<|by
 rintro p0 p1 h _ rfl;obtain⟨h0,h1,h2⟩:=h;unfold ownerS;refine⟨fun e=> ?_,fun e=> ?_⟩
 ·rw[qe (fun a=>by simp at e;omega)]
 ·have e:0<=p1/\p1<4:=by simpa using e
  rw[qf e,wu p1 qqo qqo];refine⟨⟨by decide,us2 h0 ⟨by omega,by omega⟩,by simp⟩,rfl⟩
noncomputable def kn2:Ct:= .gp 199 [yqi,yqi] [yqi] [] fun(p0 p1:Int)=>(0<=p0/\0<=p1/\p1<=62,(p0/2^p1.toNat%2:Int),())
theorem kou:kn2.O:=qrv Bs Tryz.func199 .no c0 (Q:=∀(p0 p1:Int),(0<=p0/\0<=p1/\p1<=62)->∀r0:Int,(p0/2^p1.toNat%2)=r0-> 
(0<=p1)/\Int.tmod (ishr .i64 p0 p1) 2=r0)<|by
 rintro p0 p1 h _ rfl;obtain⟨h0,h1,h2⟩:=h;refine⟨h1,?_⟩;have hs:ishr .i64 p0 p1=p0/2^p1.toNat:=by rw[k1e,show min p1.toNat i64.bits=p1.toNat from qca (by show p1.toNat<=64;omega)];simp
 rw[hs,tmod_nn _ _ (qdi h0 (qcr (Int.pow_pos qqo)))]
noncomputable def kiq:Ct:= .gp 152 [yqu,yqi,.sl yqu] [yqu] [] fun(p0 p1:Int) (p2:Li)=>(U64 p0/\Us p2/\p2.length<=1073741824/\p1<=9223372036854775807,(climbS p0 p1 p2:Int),())
theorem kkz:kiq.O:=qrv Bs Tryz.func152 (.r 1 (.nd [] (.r 0 (.lp [] ⟨[],[],[7],[.one (zqi)],[]⟩ .no)) [] (.r 0 (.nd [] (.r 0 (.lp [] ⟨[],[],[8,9],[.one (zqu),.one (zqi)],[]⟩ .no)) [] .no)))) (kou.c (k3j.c c0)) (Q:=∀(p0 p1:Int) (p2:Li),(U64 p0/\Us p2/\p2.length<=1073741824/\p1<=9223372036854775807)->∀r0:Int,climbS p0 p1 p2=r0-> 
(decide (12<(p2.length:Int))=true->
0=r0)/\
(decide (12<(p2.length:Int))=false->
(decide (p1<0)=true->
0=r0)/\
(decide (p1<0)=false->
(0<=(p2.length:Int))/\let v1:Bool:=decide ((ishl .i64 1 (p2.length:Int))<=p1)
(v1=true->
0=r0)/\
(v1=false->
(decide (18446744069414584321<=p0)=true->
0=r0)/\
(decide (18446744069414584321<=p0)=false->
∃(I1:Int->Prop) (M1:Int->Nat),I1 0/\∀b1,(I1 b1->
(decide (b1<(p2.length:Int))=true->
(0<=b1)/\b1<(p2.length:Int)/\let v2:Bool:=decide (18446744069414584321<=(ix p2 b1))
(v2=true->
0=r0)/\
(v2=false->
I1 (i64.wrap (b1+1))/\M1 (i64.wrap (b1+1))<M1 b1))/\
(decide (b1<(p2.length:Int))=false->
∃(I2:Int->Int->Prop) (M2:Int->Int->Nat),I2 p0 0/\∀f1 i1,(I2 f1 i1->
(decide (i1<(p2.length:Int))=true->
(0<=p1/\0<=i1/\i1<=62)/\(((p1/2^i1.toNat%2)==1)=true->
(0<=i1)/\i1<(p2.length:Int)/\(U64 (ix p2 i1)/\U64 f1)/\I2 (nd (ix p2 i1) f1) (i64.wrap (i1+1))/\M2 (nd (ix p2 i1) f1) (i64.wrap (i1+1))<M2 f1 i1)/\
(((p1/2^i1.toNat%2)==1)=false->
(0<=i1)/\i1<(p2.length:Int)/\(U64 f1/\U64 (ix p2 i1))/\I2 (nd f1 (ix p2 i1)) (i64.wrap (i1+1))/\M2 (nd f1 (ix p2 i1)) (i64.wrap (i1+1))<M2 f1 i1))/\
(decide (i1<(p2.length:Int))=false->
f1=r0)))))))))<|by
 rintro p0 p1 p2 h _ rfl;obtain⟨h0,h2,h3,h4⟩:=h;have sh:∀d:Nat,d<=12->ishl .i64 1 (d:Int)=2^d:=by decide +kernel
 refine⟨fun e=> ?_,fun e=>⟨fun e2=> ?_,fun e2=>⟨by omega,fun e3=> ?_,fun e3=>⟨fun e4=> ?_,fun e4=> ?_⟩⟩⟩⟩
 ·have e:=qb e;unfold climbS;rw[qe qqo]
 ·have e2:=qb e2;unfold climbS;rw[qe qqo]
 ·have e:=qc e;have e3:=qb e3;rw[sh _ qqo]at e3;unfold climbS;rw[qe (fun a=>by have:=a.2.2.1;omega)]
 ·have e4:=qb e4;unfold climbS;rw[qe qqo]
 have e:=qc e;have e2:=qc e2;have e3:=qc e3;have e4:=qc e4;rw[sh _ qqo]at e3;refine⟨(AllI (fun x=>decide (x<18446744069414584321)) p2),(fun i=>(p2.length-i).toNat),AllI.start,?_⟩;intro i hi;refine⟨fun hh=> ?_,fun hh=> ?_⟩
 ·have hh:=qb hh;refine⟨hi.1,hh,?_⟩;refine⟨fun e5=> ?_,fun e5=>hi.next hh qqo (by simpa using e5)⟩;have hb:allB p2=false:=hi.bad hh (by simpa using e5);unfold climbS;rw[qe (fun a=>by rw[hb]at a;exact absurd a.2.2.2.2 qqs)]
 ·have ha:allB p2=true:=hi.done (qc hh);have hc:climbS p0 p1 p2=climbL p0 p1 p2:=by unfold climbS;rw[qf ⟨by omega,by omega,by omega,by omega,ha⟩]
  rw[hc];refine⟨(fun d i=>0<=i/\i<=p2.length/\U64 d/\climbL d (p1/2^i.toNat) (p2.drop i.toNat)=climbL p0 p1 p2),(fun d i=>(p2.length-i).toNat),⟨by omega,by omega,h0,by simp⟩,?_⟩;rintro d i ⟨g0,g1,g2,g3⟩;refine⟨fun hh=> ?_,fun hh=> ?_⟩
  ·have hh:=qb hh;have hx:=h2 _ (ix_mem p2 i g0 hh);rw[drop_ix p2 i g0 hh]at g3;have nx:=inc i p2.length g0 hh qqo;have hq:p1/2^i.toNat/2=p1/2^(i+1).toNat:=by rw[show(i+1).toNat=i.toNat+1 by omega,qcl,qcn (qcr (Int.pow_pos qqo))]
   have g3:climbL (if p1/2^i.toNat%2=0 then hashS 6 [d,ix p2 i]else hashS 6 [ix p2 i,d]) (p1/2^i.toNat/2) (p2.drop (i+1).toNat)=climbL p0 p1 p2:=g3;rw[hq]at g3;refine⟨⟨by omega,g0,by omega⟩,fun hb=> ?_,fun hb=> ?_⟩
   ·have hb:p1/2^i.toNat%2=1:=by simpa using hb
    rw[qe qqo]at g3;rw[nx];exact⟨g0,hh,⟨hx,g2⟩,⟨by omega,by omega,kh _ _,g3⟩,by(first|omega|(dsimp only;omega))⟩
   ·have hb:¬p1/2^i.toNat%2=1:=by simpa using hb
    rw[qf qqo]at g3;rw[nx];exact⟨g0,hh,⟨g2,hx⟩,⟨by omega,by omega,kh _ _,g3⟩,by(first|omega|(dsimp only;omega))⟩
  ·have hh:=qc hh;rw[qam qqo]at g3;exact g3
noncomputable def kmx:Ct:= .gp 27 [yqu,yqu] [yqu] [] fun(p0 p1:Int)=>(U64 p0/\U64 p1,(markV p0 p1:Int),())
theorem kb1:kmx.O:=qrv Bs Tryz.func27 .no (k2b.c (k1a.c c0)) (Q:=∀(p0 p1:Int),(U64 p0/\U64 p1)->∀r0:Int,markV p0 p1=r0-> 
((!(decide (p0<18446744069414584321)))=true->
0=r0)/\
((!(decide (p0<18446744069414584321)))=false->
((!(decide (p1<18446744069414584321)))=true->
0=r0)/\
((!(decide (p1<18446744069414584321)))=false->
((18446744069414584321:Int)=18446744069414584321/\U64 (3:Int)/\Us [p0,p1]/\[p0,p1].length<=1099511627776)/\(hashS (3:Int) [p0,p1])=r0)))<|by
 rintro p0 p1 h _ rfl;rw[kt9]at *
 refine⟨fun e=> ?_,fun e=>⟨fun e2=> ?_,fun e2=>⟨⟨by trivial,by decide,us2 h.1 h.2,by simp⟩,?_⟩⟩⟩
 ·rw[qe (fun a=>by simp[a.1]at e)]
 ·rw[qe (fun a=>by simp[a.2]at e2)]
 ·rw[qf ⟨by simpa using e,by simpa using e2⟩]
noncomputable def kfd:Ct:= .gp 151 [.st 23,yqu,yqu] [yqu,.bool] [] fun(p0:wAr) (p1 p2:Int)=>(p0.wAz=false/\U64 p1/\U64 p2,(markV p1 p2:Int),true,())
theorem kjg:kfd.O:=qrv Bs Tryz.func151 .no (kb1.c c0) (Q:=∀(p0:wAr) (p1 p2:Int),(p0.wAz=false/\U64 p1/\U64 p2)->∀r0:Int,markV p1 p2=r0->∀r1:Bool,(true:Bool)=r1-> 
((!p0.wAz)=true->
(U64 p1/\U64 p2)/\(markV p1 p2)=r0/\true=r1)/\
((!p0.wAz)=false->
False))<|by rintro p0 p1 p2 h _ rfl _ rfl;obtain⟨h1,h2,h3⟩:=h;exact⟨fun _=>⟨⟨h2,h3⟩,rfl,rfl⟩,fun e=>by rw[h1]at e;cases e⟩
noncomputable def khu:Ct:= .gp 110 [.st 23,yqu,yqu,.st 11] [yqi] [] fun(p0:wAr) (p1 p2:Int) (p3:wN)=>(p0.wAz=false/\PR p3/\spendV p3=true,(inE pkR p1 p2 p3:Int),())
theorem kjq:khu.O:=qrv Bs Tryz.func110 .no (k90.c (kjg.c (k2e.c (kkz.c c0)))) (Q:=∀(p0:wAr) (p1 p2:Int) (p3:wN),(p0.wAz=false/\PR p3/\spendV p3=true)->∀r0:Int,inE pkR p1 p2 p3=r0-> 
(U64 p3.Key/\-9223372036854775808<=p3.wAP/\p3.wAP<=9223372036854775807)/\let v1:Bool:=(p3.we !=(ownerS p3.Key p3.wAP))
(v1=true->
21=r0)/\
(v1=false->
(p0.wAz=false/\U64 p3.Key/\U64 p3.wY)/\((!true)=true->
12=r0)/\
((!true)=false->
(((markV p3.Key p3.wY) !=p2)=true->
12=r0)/\
(((markV p3.Key p3.wY) !=p2)=false->
(p3.wBQ=true->
((p3.wR !=0)=true->
13=r0)/\
((p3.wR !=0)=false->
0=r0))/\
(p3.wBQ=false->
(p0.wAz=false/\NR (wJ.mk p3.wR p3.we p3.wY p3.wz))/\let r2:Int:=(comV (wJ.mk p3.wR p3.we p3.wY p3.wz))
let r3:Bool:=(noteV (wJ.mk p3.wR p3.we p3.wY p3.wz))
((!r3)=true->
11=r0)/\
((!r3)=false->
(U64 r2/\Us p3.wj/\p3.wj.length<=1073741824/\p3.wC<=9223372036854775807)/\(((climbS r2 p3.wC p3.wj) !=p1)=true->
11=r0)/\
(((climbS r2 p3.wC p3.wj) !=p1)=false->
0=r0)))))))<|by
 rintro p0 p1 p2 p3 h _ rfl;obtain⟨h1,hp,hs⟩:=h;have hs:=k18.1 hs;have hnv:noteV (noteOf p3)=true:=hs.1;have hrho:p3.wY<18446744069414584321:=by unfold noteV at hnv;simp only[qg,qai]at hnv;exact hnv.1.2
 have hcu:=comV_u (noteOf p3);have em:=ke3 hs.2.1 hrho;have ec:=ke1 hnv;have en:noteOf p3=⟨p3.wR,p3.we,p3.wY,p3.wz⟩:=rfl;have em2:(markP pkR p3.Key p3.wY).getD 0=markV p3.Key p3.wY:=rfl;have ec2:(commP pkR (noteOf p3)).getD 0=comV (noteOf p3):=rfl;unfold inE at *
 rw[em2,ec2]at *
 rw[em,ec]at *
 simp only[<-en];refine⟨⟨hp.k,hp.nu.1,hp.nu.2⟩,fun e=> ?_,fun e=>⟨⟨h1,hp.k,hp.n.r⟩,fun e3=>(by cases e3),fun _=>⟨fun e2=> ?_,fun e2=>⟨fun e4=>⟨fun e5=> ?_,fun e5=> ?_⟩,fun e4=>⟨⟨h1,hp.n⟩,fun e6=> ?_,fun e6=>⟨⟨hcu,hp.pa,hp.pl,hp.po.2⟩,fun e7=> ?_,fun e7=> ?_⟩⟩⟩⟩⟩⟩
 all_goals simp_all
noncomputable def kio:Ct:= .gp 73 [.st 23,.st 17,.st 16] [yqi] [] fun(p0:wAr) (p1:wAd) (p2:wZ)=>(p0.wAz=false/\SR p1/\WR p2,(checkS pkR p1 p2:Int),())
theorem kko:kio.O:=qrv Bs Tryz.func73 (.r 1 (.nd [] (.r 0 (.lp [] ⟨[],[],[7],[.one (zqi)],[]⟩ .no)) [] (.nd [] (.r 0 (.lp [] ⟨[],[],[9],[.one (zqi)],[]⟩ .no)) [] (.jn ⟨[],[],[],[],[]⟩ [] .no [] .no)))) (klw.c (kjq.c (k2e.c (kg9.c (khx.c (kg1.c c0)))))) (Q:=∀(p0:wAr) (p1:wAd) (p2:wZ),(p0.wAz=false/\SR p1/\WR p2)->∀r0:Int,checkS pkR p1 p2=r0-> 
(SR p1/\WR p2)/\((!(relV p1 p2))=true->
1=r0)/\
((!(relV p1 p2))=false->
∃(I1:Int->Prop) (M1:Int->Nat),I1 0/\∀b1,(I1 b1->
(decide (b1<(p2.Ins.length:Int))=true->
(0<=b1)/\b1<(p1.wE.length:Int)/\(0<=b1)/\b1<(p2.Ins.length:Int)/\(p0.wAz=false/\PR (ix p2.Ins b1)/\spendV (ix p2.Ins b1)=true)/\let r1:Int:=(inE pkR p1.wM (ix p1.wE b1) (ix p2.Ins b1))
((r1 !=0)=true->
r1=r0)/\
((r1 !=0)=false->
I1 (i64.wrap (b1+1))/\M1 (i64.wrap (b1+1))<M1 b1))/\
(decide (b1<(p2.Ins.length:Int))=false->
∃(I2:Int->Prop) (M2:Int->Nat),I2 0/\∀f1,(I2 f1->
(decide (f1<(p2.wA.length:Int))=true->
(0<=f1)/\f1<(p2.wA.length:Int)/\(p0.wAz=false/\NR (ix p2.wA f1))/\((!(noteV (ix p2.wA f1)))=true->
1=r0)/\
((!(noteV (ix p2.wA f1)))=false->
(0<=f1)/\f1<(p1.wt.length:Int)/\let v2:Bool:=((comV (ix p2.wA f1)) !=(ix p1.wt f1))
(v2=true->
1=r0)/\
(v2=false->
(0<=f1)/\f1<(p2.wA.length:Int)/\(0<=f1)/\f1<(p1.wAi.length:Int)/\let v3:Bool:=(((ix p2.wA f1).Rho) !=(ix p1.wAi f1))
(v3=true->
1=r0)/\
(v3=false->
I2 (i64.wrap (f1+1))/\M2 (i64.wrap (f1+1))<M2 f1))))/\
(decide (f1<(p2.wA.length:Int))=false->
∀J1:Prop,(((p2.Ins.length<=9223372036854775807)/\let v4:Int:=u64.wrap ((inS p2.Ins)+p1.wH)
(p2.wA.length<=9223372036854775807)/\let v5:Int:=u64.wrap ((outS p2.wA)+p1.wL)
((v4 !=(u64.wrap (v5+p1.Fee)))=true->
13=r0)/\
((v4 !=(u64.wrap (v5+p1.Fee)))=false->
0=r0))->J1)->
(decide (0<p1.wH)=true->
(U64 p2.wAV)/\((p1.wQ !=(acctS p2.wAV))=true->
21=r0)/\
((p1.wQ !=(acctS p2.wAV))=false->
J1))/\
(decide (0<p1.wH)=false->
J1)))))))<|by
 rintro p0 p1 p2 h _ rfl;obtain⟨h1,hs,hw⟩:=h;refine⟨⟨hs,hw⟩,fun e=> ?_,fun e=> ?_⟩
 ·have e:relV p1 p2=false:=by simpa using e
  unfold checkS;rw[qf e]
 have e:relV p1 p2=true:=by simpa using e
 have hv:=k36.1 e;have v1:=hv.2.2.2.2.2.2.2.2.2.1;have v2:=hv.2.2.2.2.2.2.2.2.2.2.2.1;have v3:=hv.2.2.2.2.2.2.2.2.2.2.2.2.1;have vi:=hv.2.2.2.2.2.2.2.2.2.2.2.2.2.2.1;have va:=k7e.1 hv.2.2.1 p2.wAV qqs;clear hv;have hil:=hw.il;have hol:=hw.ol
 have cs:∀y,noteV y=(commP pkR y).isSome:=fun y=>by
  unfold commP;split
  ·rename_i hy;rw[show pkR 2 (noteL y)=some (hashS 2 (noteL y))by unfold pkR;rw[qf (kha hy)],hy];rfl
  ·rename_i hy;simpa using hy
 have cg:∀y,comV y=(commP pkR y).getD 0:=fun _=>rfl;generalize hF:pkR=F at *
 refine⟨(fun i=>(0<=i/\i<=p2.Ins.length/\insE F p1.wM (p2.Ins.drop i.toNat) (p1.wE.drop i.toNat)=insE F p1.wM p2.Ins p1.wE)),(fun i=>(p2.Ins.length-i).toNat),⟨by omega,by omega,rfl⟩,?_⟩;rintro i ⟨g0,g1,g2⟩;refine⟨fun hh=> ?_,fun hh=> ?_⟩
 ·have hh:=qb hh;have hm:=ix_mem p2.Ins i g0 hh;have hp:=hw.i _ hm;have hsp:spendV (ix p2.Ins i)=true:=by have:=qbj.1 vi _ hm;unfold inV at this;simp only[qg]at this;exact this.1.1
  have hd:=drop_ix p2.Ins i g0 hh;have hd2:=drop_ix p1.wE i g0 qqo;rw[hd,hd2]at g2;have g2:(if inE F p1.wM (ix p1.wE i) (ix p2.Ins i)≠0 then inE F p1.wM (ix p1.wE i) (ix p2.Ins i)else insE F p1.wM (p2.Ins.drop (i+1).toNat) (p1.wE.drop (i+1).toNat))=insE F p1.wM p2.Ins p1.wE:=g2;have nx:=inc i p2.Ins.length g0 hh qqo;refine⟨g0,by omega,g0,hh,⟨h1,hp,hsp⟩,?_⟩;simp only[kor,hF];refine⟨fun e2=> ?_,fun e2=> ?_⟩
  ·have e2:inE F p1.wM (ix p1.wE i) (ix p2.Ins i)≠0:=by simpa using e2
   rw[qf e2]at g2;unfold checkS;rw[qe (by simp[e]),qf (by rw[<-g2];exact e2),<-g2]
  ·have e2:inE F p1.wM (ix p1.wE i) (ix p2.Ins i)=0:=by simpa using e2
   rw[qe (by simp[e2])]at g2;rw[nx];exact⟨⟨by omega,by omega,g2⟩,by(first|omega|(dsimp only;omega))⟩
 ·have hh:=qc hh;rw[qam qqo]at g2;have g2:0=insE F p1.wM p2.Ins p1.wE:=g2
  have hck:checkS F p1 p2=if outsB F p2.wA p1.wt p1.wAi=false then 1 else if 0<p1.wH/\p1.wQ≠acctS p2.wAV then 21 else
    if(inS p2.Ins+p1.wH)%18446744073709551616≠((outS p2.wA+p1.wL)%18446744073709551616+p1.Fee)%18446744073709551616 then 13 else 0:=by
   conv=>lhs;unfold checkS
   rw[qe (by simp[e]),qe (by rw[<-g2];simp)]
  rw[hck];refine⟨(fun i=>(0<=i/\i<=p2.wA.length/\outsB F (p2.wA.drop i.toNat) (p1.wt.drop i.toNat) (p1.wAi.drop i.toNat)=outsB F p2.wA p1.wt p1.wAi)),(fun i=>(p2.wA.length-i).toNat),⟨by omega,by omega,rfl⟩,?_⟩;rintro k ⟨k0,k1,k2⟩;refine⟨fun hk2=> ?_,fun hk2=> ?_⟩
  ·have hk2:=qb hk2;have hp:=hw.o _ (ix_mem p2.wA k k0 hk2);rw[drop_ix p2.wA k k0 hk2,drop_ix p1.wt k k0 qqo,drop_ix p1.wAi k k0 qqo]at k2;have k2:(outB F (ix p2.wA k) (ix p1.wt k) (ix p1.wAi k)&&outsB F (p2.wA.drop (k+1).toNat) (p1.wt.drop (k+1).toNat) (p1.wAi.drop (k+1).toNat))=outsB F p2.wA p1.wt p1.wAi:=k2;have nx:=inc k p2.wA.length k0 hk2 qqo;have bad:outB F (ix p2.wA k) (ix p1.wt k) (ix p1.wAi k)=false->outsB F p2.wA p1.wt p1.wAi=false:=fun hb=>by rw[hb]at k2;exact k2.symm
   refine⟨k0,hk2,⟨h1,hp⟩,?_⟩;simp only[k5b,hF,cs,cg];refine⟨fun e3=> ?_,fun e3=>⟨k0,by omega,fun e4=> ?_,fun e4=>⟨k0,hk2,k0,by omega,fun e5=> ?_,fun e5=> ?_⟩⟩⟩
   ·rw[qf (bad (by unfold outB;rw[show(commP F (ix p2.wA k)).isSome=false by simpa using e3];rfl))]
   ·rw[qf (bad (by
     have e4:¬(commP F (ix p2.wA k)).getD 0=ix p1.wt k:=by simpa using e4
     simp[outB,e4]))]
   ·rw[qf (bad (by
     have e5:¬(ix p2.wA k).Rho=ix p1.wAi k:=by simpa using e5
     simp[outB,e5]))]
   ·have e3:(commP F (ix p2.wA k)).isSome=true:=by simpa using e3
    have e4:(commP F (ix p2.wA k)).getD 0=ix p1.wt k:=by simpa using e4
    have e5:(ix p2.wA k).Rho=ix p1.wAi k:=by simpa using e5
    have hb:outB F (ix p2.wA k) (ix p1.wt k) (ix p1.wAi k)=true:=by simp[outB,e3,e4,e5]
    rw[hb,Bool.true_and]at k2;rw[nx];exact⟨⟨by omega,by omega,k2⟩,by(first|omega|(dsimp only;omega))⟩
  ·have hk2:=qc hk2;rw[qam qqo]at k2;have k2:true=outsB F p2.wA p1.wt p1.wAi:=k2;rw[<-k2];rw[qe qqs];intro J1 kJ
   have j1:((if 0<p1.wH/\p1.wQ≠acctS p2.wAV then 21 else if(inS p2.Ins+p1.wH)%18446744073709551616≠((outS p2.wA+p1.wL)%18446744073709551616+p1.Fee)%18446744073709551616 then 13 else 0:Int)=if(inS p2.Ins+p1.wH)%18446744073709551616≠((outS p2.wA+p1.wL)%18446744073709551616+p1.Fee)%18446744073709551616 then 13 else 0)->J1:=by
    intro hr;refine kJ ⟨by show p2.Ins.length<=_;omega,by show p2.wA.length<=_;omega,?_⟩;simp only[u64w];refine⟨fun hb=> ?_,fun hb=> ?_⟩
    ·rw[hr,qf (by simpa using hb)]
    ·rw[hr,qe (by simpa using hb)]
   refine⟨fun hd=>⟨hw.s,fun ha=> ?_,fun ha=>j1 ?_⟩,fun hd=>j1 ?_⟩
   ·have ha:¬p1.wQ=acctS p2.wAV:=by simpa using ha
    rw[qf ⟨qb hd,ha⟩]
   ·have ha:p1.wQ=acctS p2.wAV:=by simpa using ha
    rw[qe (fun h=>h.2 ha)]
   ·rw[qe (fun h=>qc hd h.1)]
noncomputable def kjn:Ct:= .gp 194 [.sl yqb] [.sl yqu] [] fun(p0:Li)=>(By p0/\p0.length<=1099511627776,(packS p0:Li),())
theorem kn7:kjn.O:=qrx Bs [10,21,22] Tryz.func194 (.r 1 (.nd [] (.r 0 (.lp [] ⟨[],[.vec yqu],[3,4],[.one (.row 0),.one (zqi)],[0]⟩ (.r 0 (.nd [] (.jn ⟨[],[.vec yqu],[3],[.one (.row 0)],[0,1]⟩ [] .no [] (.r 0 (.nd [] (.r 0 (.lp [] ⟨[],[],[5,6],[.one (zqu),.one (zqi)],[]⟩ .no)) [] .no))) [] .no)))) [] (.r 0 (.rt [.frz 1 [2]])))) x0 c0 (Q:=∀(p0:Li),(By p0/\p0.length<=1099511627776)->∀r0:Li,packS p0=r0-> 
lz [u64.wrap (p0.length:Int)]/\∃(I1:Int->(Li)->Prop) (M1:Int->(Li)->Nat),I1 0 [u64.wrap (p0.length:Int)]/\∀b1 f1,(I1 b1 f1->
(decide (b1<(p0.length:Int))=true->
∀J1:(Li)->Prop,(∀(i1:Li),
((0<=b1)/\b1<(p0.length:Int)/\∃(I2:Int->Int->Prop) (M2:Int->Int->Nat),I2 (u64.wrap (ix p0 b1)) 0/\∀k1 l1,(I2 k1 l1->
(decide (l1<(Int.tmod b1 7))=true->
I2 (u64.wrap (k1*256)) (i64.wrap (l1+1))/\M2 (u64.wrap (k1*256)) (i64.wrap (l1+1))<M2 k1 l1)/\
(decide (l1<(Int.tmod b1 7))=false->
(0<=i64.wrap ((i1.length:Int)-1)/\i64.wrap ((i1.length:Int)-1)<(i1.length:Int))/\(0<=i64.wrap ((i1.length:Int)-1)/\i64.wrap ((i1.length:Int)-1)<(i1.length:Int))/\let v1:Int:=ix i1 (i64.wrap ((i1.length:Int)-1))
(0<=i64.wrap ((i1.length:Int)-1)/\i64.wrap ((i1.length:Int)-1)<(i1.length:Int))/\(0<=i64.wrap ((i1.length:Int)-1)/\i64.wrap ((i1.length:Int)-1)<(i1.length:Int))/\(i1.length=(i1.set (i64.wrap ((i1.length:Int)-1)).toNat (u64.wrap (v1+k1))).length)/\I1 (i64.wrap (b1+1)) (i1.set (i64.wrap ((i1.length:Int)-1)).toNat (u64.wrap (v1+k1)))/\M1 (i64.wrap (b1+1)) (i1.set (i64.wrap ((i1.length:Int)-1)).toNat (u64.wrap (v1+k1)))<M1 b1 f1)))->J1 i1)->
(((Int.tmod b1 7)==0)=true->
lz f1/\lz [0]/\(f1.length+[0].length)*8<=140737488355328/\f1.length+[0].length<=maxLen/\lz (f1++[0])/\J1 (f1++[0]))/\
(((Int.tmod b1 7)==0)=false->
lz f1/\J1 f1))/\
(decide (b1<(p0.length:Int))=false->
lz f1/\f1=r0)))<|by
 rintro p0 h _ rfl;obtain⟨hb,hl⟩:=h;have e0:u64.wrap (p0.length:Int)=p0.length:=wu _ qqo qqo;rw[e0];refine⟨rfl,?_⟩;refine⟨(fun i g=>0<=i/\i<=p0.length/\g=(p0.length:Int)::pkI p0 i.toNat),(fun i _=>(p0.length-i).toNat),⟨by omega,by omega,by rw[show(0:Int).toNat=0 from rfl,krb]⟩,?_⟩;rintro i g ⟨g0,g1,rfl⟩;have hlen:=koc p0 i.toNat;have em:Int.tmod i 7=i%7:=tmod_nn _ _ g0;refine⟨fun hh J1 kJ1=> ?_,fun hh=> ?_⟩
 ·have hh:=qb hh
  have rest:J1 ((p0.length:Int)::(pkF p0 i.toNat++[if i.toNat%7=0 then 0 else pkV p0 i.toNat])):=by
   have hb1:=hb _ (ix_mem p0 i g0 hh);have hF:=kez p0 i.toNat;refine kJ1 _ ⟨g0,hh,?_⟩;rw[wu (ix p0 i) qqo qqo];have hp6:∀k:Nat,k<=6->(256:Int)^k<=281474976710656:=fun k hk=>k1y (m:=6) hk;refine⟨(fun n k=>0<=k/\k<=i%7/\n=256^k.toNat*ix p0 i),(fun _ k=>(i%7-k).toNat),⟨by omega,by omega,by rw[show(0:Int).toNat=0 from rfl,Int.pow_zero,Int.one_mul]⟩,?_⟩;rintro n k ⟨k0,k1,rfl⟩;have hpk:=hp6 k.toNat qqo;have hpp:=k19 k.toNat;have hb2:256^k.toNat*ix p0 i<=281474976710656*255:=qdr hpk qqo qqo qqo;have hb3:0<=256^k.toNat*ix p0 i:=qcs qqo qqo;refine⟨fun h2=> ?_,fun h2=> ?_⟩
   ·have h2:=qb h2;rw[em]at h2;rw[wi (k+1) qqo qqo,wu _ qqo qqo];refine⟨⟨by omega,by omega,?_⟩,by(dsimp only;omega)⟩;rw[show(k+1).toNat=k.toNat+1 by omega,k1x,qeh,Int.mul_assoc]
   ·have h2:=qc h2;rw[em]at h2;have hk:k.toNat=i.toNat%7:=by omega
    have hl1:(((p0.length:Int)::(pkF p0 i.toNat++[if i.toNat%7=0 then 0 else pkV p0 i.toNat])).length:Int)=(pkF p0 i.toNat).length+2:=by simp;omega
    have hix:ix ((p0.length:Int)::(pkF p0 i.toNat++[if i.toNat%7=0 then 0 else pkV p0 i.toNat])) ((pkF p0 i.toNat).length+1)=if i.toNat%7=0 then 0 else pkV p0 i.toNat:=by
     rw[ix_nat _ _ qqo qqo];have:((pkF p0 i.toNat).length+1:Int).toNat=(pkF p0 i.toNat).length+1:=by omega
     simp[this]
    have hv:=kq2 hb i.toNat;have hv2:(256:Int)^(i.toNat%7)<=281474976710656:=hp6 _ qqo;rw[hl1,show((pkF p0 i.toNat).length:Int)+2-1=(pkF p0 i.toNat).length+1 by omega,wi ((pkF p0 i.toNat).length+1) qqo qqo];dsimp only;have e5:((pkF p0 i.toNat).length+1:Int).toNat=(pkF p0 i.toNat).length+1:=by omega
    have e6:(i+1).toNat=i.toNat+1:=by omega
    refine⟨⟨by omega,by omega⟩,⟨by omega,by omega⟩,⟨by omega,by omega⟩,⟨by omega,by omega⟩,by rw[qdy],?_⟩;rw[hix,wi (i+1) qqo qqo,wu _ (by split<;>omega) (by split<;>omega)];refine⟨⟨by omega,by omega,?_⟩,by(first|omega|(dsimp only;omega))⟩;rw[e6,krd qqo,e5,List.set_cons_succ,krj,hk,ix_nat p0 i g0 hh]
  refine⟨fun h7=> ?_,fun h7=> ?_⟩
  ·have h7:i%7=0:=by rw[em]at h7;simpa using h7
   have e1:pkI p0 i.toNat=pkF p0 i.toNat:=qf qqo;have e2:(if i.toNat%7=0 then(0:Int)else pkV p0 i.toNat)=0:=qf qqo;rw[e2]at rest;refine⟨rfl,rfl,by simp;omega,by simp;unfold maxLen;omega,rfl,?_⟩;rw[List.cons_append,e1];exact rest
  ·have h7:¬i%7=0:=by rw[em]at h7;simpa using h7
   have e1:pkI p0 i.toNat=pkF p0 i.toNat++[pkV p0 i.toNat]:=qe qqo;have e2:(if i.toNat%7=0 then(0:Int)else pkV p0 i.toNat)=pkV p0 i.toNat:=qe qqo;rw[e2]at rest;refine⟨rfl,?_⟩;rw[e1];exact rest
 ·have hh:=qc hh;refine⟨rfl,?_⟩;rw[show i.toNat=p0.length by omega,ktd];rfl
noncomputable def kai:Ct:= .gp 148 [yqu,.sl yqb] [yqu] [] fun(p0:Int) (p1:Li)=>(U64 p0/\By p1/\p1.length<=1099511627775,(hashB p0 p1:Int),())
theorem kbn:kai.O:=qrv Bs Tryz.func148 .no (kn7.c (k1a.c c0)) (Q:=∀(p0:Int) (p1:Li),(U64 p0/\By p1/\p1.length<=1099511627775)->∀r0:Int,hashB p0 p1=r0-> 
(By p1/\p1.length<=1099511627776)/\((18446744069414584321:Int)=18446744069414584321/\U64 p0/\Us (packS p1)/\(packS p1).length<=1099511627776)/\(hashS p0 (packS p1))=r0)<|by
 rintro p0 p1 h _ rfl;obtain⟨h1,h2,h3⟩:=h;refine⟨⟨h2,by omega⟩,⟨rfl,h1,?_,?_⟩,rfl⟩
 ·intro x hx;rcases qae.1 hx with rfl|hx
  ·omega
  ·exact kbz _ _ h2 x hx
 ·have:=k30 p1.length p1;simp only[packS,qj];omega
noncomputable def kck:Ct:= .g ⟨195,[.one (zqu),.one (zqi)],[],(.one (.one (.own 0))),[.tip yqb],false⟩ [yqu,yqi] [.sl yqb] [] fun(p0 p1:Int)=>(U64 p0/\0<=p1/\p1<=8,(dig p1.toNat p0:Li),())
theorem k5d:kck.O:=prv Bs Tryz.func195 (.r 1 (.nd [] (.r 0 (.lp [.tok 5 yqb] ⟨[0],[.tip yqb],[0,5,6],[.one (zqu),.one (.own 0),.one (zqi)],[]⟩ .no)) [] .no)) c0 (Q:=∀(p0 p1:Int),(U64 p0/\0<=p1/\p1<=8)->∀e0:Li,dig p1.toNat p0=e0-> 
(([]:Li)=([]:Li))/\∃(I1:Int->Int->(Li)->Prop) (M1:Int->Int->(Li)->Nat),I1 p0 0 ([]:Li)/\∀b1 f1 i1,(I1 b1 f1 i1->
(decide (f1<p1)=true->
lz i1/\(i1.length+[IntKind.u8.wrap (Int.tmod b1 256)].length)*1<=140737488355328/\i1.length+[IntKind.u8.wrap (Int.tmod b1 256)].length<=maxLen/\let v1:Li:=i1++[IntKind.u8.wrap (Int.tmod b1 256)]
(v1=v1)/\I1 (u64.wrap (Int.tdiv b1 256)) (i64.wrap (f1+1)) v1/\M1 (u64.wrap (Int.tdiv b1 256)) (i64.wrap (f1+1)) v1<M1 b1 f1 i1)/\
(decide (f1<p1)=false->
(i1=i1)/\i1=e0)))<|by
 rintro p0 p1 h _ rfl;obtain⟨h1,h2,h3⟩:=h;refine⟨rfl,⟨(fun n i g=>0<=i/\i<=p1/\U64 n/\n=p0/256^i.toNat/\g=dig i.toNat p0),(fun _ i _=>(p1-i).toNat),⟨by omega,by omega,h1,by simp,by simp[dig]⟩,?_⟩⟩;rintro n i g ⟨g0,g1,g2,g3,rfl⟩;refine⟨fun h=> ?_,fun h=> ?_⟩
 ·have h:=qb h;rw[inc i p1 g0 h qqo,tmod_nn _ _ g2.1,tdiv_nn _ _ g2.1,u8w,wu (n/256) qqo qqo];refine⟨rfl,?_,?_,rfl,⟨by omega,by omega,⟨by omega,by omega⟩,?_,?_⟩,by(dsimp only;omega)⟩
  ·simp;omega
  ·simp;unfold maxLen;omega
  ·rw[g3,show(i+1).toNat=i.toNat+1 by omega,qcn (qcr (k19 _)),qcl]
  ·rw[show(i+1).toNat=i.toNat+1 by omega,k4d,g3];congr 2;omega
 ·have h:=qc h;exact⟨rfl,by rw[show i=p1 by omega]⟩
noncomputable def kij:Ct:= .t ⟨197,[.one (zqi)],[],(.one (.one (.own 0))),[.tip yqb],false⟩ [yqi] [.sl yqb] [] fun(p0:Int)=>((dig 4 (len4 p0):Li),())
theorem k9x:kij.O:=ptv Bs Tryz.func197 (.r 0 (.jn ⟨[],[],[0],[.one (zqi)],[]⟩ [] .no [] .no)) (k5d.c c0) (Q:=∀(p0:Int),∀e0:Li,(dig 4 (len4 p0))=e0-> 
∀J1:Int->Prop,(∀(b1:Int),
((U64 (u64.wrap b1)/\0<=(4:Int)/\(4:Int)<=8)/\let r1:Li:=(dig (4:Int).toNat (u64.wrap b1))
(r1=r1)/\r1=e0)->J1 b1)->
(decide (p0<0)=true->
J1 0)/\
(decide (p0<0)=false->
(decide (4294967296<=p0)=true->
J1 0)/\
(decide (4294967296<=p0)=false->
J1 p0)))<|by
 rintro p0 _ rfl;intro J1 j1;have j:∀n,0<=n->n<=4294967295->len4 p0=n->J1 n:=by intro n h0 h1 e;refine j1 _ ?_;rw[wu n qqo qqo,e];exact⟨⟨⟨h0,by omega⟩,by omega⟩,by trivial,rfl⟩
 refine⟨fun h=>j 0 qqo qqo ?_,fun h=>⟨fun h' =>j 0 qqo qqo ?_,fun h' =>j p0 ?_ ?_ ?_⟩⟩
 ·have h:=qb h;exact qf (.inl h)
 ·have h' :=qb h';exact qf (.inr qqo)
 ·have h:=qc h;omega
 ·have h' :=qc h';omega
 ·have h:=qc h;have h' :=qc h';exact len4_in ⟨by omega,by(first|omega|(dsimp only;omega))⟩
noncomputable def kjd:Ct:= .gp 198 [.sl yqb] [.sl yqb] [] fun(p0:Li)=>(p0.length<=4294967295,(encB p0:Li),())
theorem kks:kjd.O:=qrv Bs Tryz.func198 .no (k9x.c c0) (Q:=∀(p0:Li),(p0.length<=4294967295)->∀r0:Li,encB p0=r0-> 
lz (dig 4 (len4 (p0.length:Int)))/\((dig 4 (len4 (p0.length:Int))).length+p0.length)*1<=140737488355328/\(dig 4 (len4 (p0.length:Int))).length+p0.length<=maxLen/\(dig 4 (len4 (p0.length:Int)))++p0=r0)<|by
 rintro p0 h _ rfl;refine⟨by trivial,?_,?_,rfl⟩
 ·simp;omega
 ·simp;unfold maxLen;omega
noncomputable def kfc:Ct:= .gp 195 [yqu,yqi] [.sl yqb] [] fun(p0 p1:Int)=>(U64 p0/\0<=p1/\p1<=8,(dig p1.toNat p0:Li),())
theorem k7q:kfc.O:=qrv Bs Tryz.func195 (.r 1 (.nd [] (.r 0 (.lp [.tok 5 yqb] ⟨[0],[.tip yqb],[0,5,6],[.one (zqu),.one (.own 0),.one (zqi)],[]⟩ .no)) [] .no)) c0 (Q:=∀(p0 p1:Int),(U64 p0/\0<=p1/\p1<=8)->∀r0:Li,dig p1.toNat p0=r0-> 
(([]:Li)=([]:Li))/\∃(I1:Int->Int->(Li)->Prop) (M1:Int->Int->(Li)->Nat),I1 p0 0 ([]:Li)/\∀b1 f1 i1,(I1 b1 f1 i1->
(decide (f1<p1)=true->
lz i1/\(i1.length+[IntKind.u8.wrap (Int.tmod b1 256)].length)*1<=140737488355328/\i1.length+[IntKind.u8.wrap (Int.tmod b1 256)].length<=maxLen/\let v1:Li:=i1++[IntKind.u8.wrap (Int.tmod b1 256)]
(v1=v1)/\I1 (u64.wrap (Int.tdiv b1 256)) (i64.wrap (f1+1)) v1/\M1 (u64.wrap (Int.tdiv b1 256)) (i64.wrap (f1+1)) v1<M1 b1 f1 i1)/\
(decide (f1<p1)=false->
i1=r0)))<|by
 rintro p0 p1 h _ rfl;obtain⟨h1,h2,h3⟩:=h;refine⟨rfl,⟨(fun n i g=>0<=i/\i<=p1/\U64 n/\n=p0/256^i.toNat/\g=dig i.toNat p0),(fun _ i _=>(p1-i).toNat),⟨by omega,by omega,h1,by simp,by simp[dig]⟩,?_⟩⟩;rintro n i g ⟨g0,g1,g2,g3,rfl⟩;refine⟨fun h=> ?_,fun h=> ?_⟩
 ·have h:=qb h;rw[inc i p1 g0 h qqo,tmod_nn _ _ g2.1,tdiv_nn _ _ g2.1,u8w,wu (n/256) qqo qqo];refine⟨rfl,?_,?_,rfl,⟨by omega,by omega,⟨by omega,by omega⟩,?_,?_⟩,by(dsimp only;omega)⟩
  ·simp;omega
  ·simp;unfold maxLen;omega
  ·rw[g3,show(i+1).toNat=i.toNat+1 by omega,qcn (qcr (k19 _)),qcl]
  ·rw[show(i+1).toNat=i.toNat+1 by omega,k4d,g3];congr 2;omega
 ·have h:=qc h;rw[show i=p1 by omega]
noncomputable def knr:Ct:= .tp 197 [yqi] [.sl yqb] [] fun(p0:Int)=>((dig 4 (len4 p0):Li),())
theorem kp4:knr.O:=qtv Bs Tryz.func197 (.r 0 (.jn ⟨[],[],[0],[.one (zqi)],[]⟩ [] .no [] .no)) (k7q.c c0) (Q:=∀(p0:Int),∀r0:Li,(dig 4 (len4 p0))=r0-> 
∀J1:Int->Prop,(∀(b1:Int),
((U64 (u64.wrap b1)/\0<=(4:Int)/\(4:Int)<=8)/\let r1:Li:=(dig (4:Int).toNat (u64.wrap b1))
r1=r0)->J1 b1)->
(decide (p0<0)=true->
J1 0)/\
(decide (p0<0)=false->
(decide (4294967296<=p0)=true->
J1 0)/\
(decide (4294967296<=p0)=false->
J1 p0)))<|by
 rintro p0 _ rfl;intro J1 j1;have j:∀n,0<=n->n<=4294967295->len4 p0=n->J1 n:=by intro n h0 h1 e;refine j1 _ ?_;rw[wu n qqo qqo,e];exact⟨⟨⟨h0,by omega⟩,by omega⟩,rfl⟩
 refine⟨fun h=>j 0 qqo qqo ?_,fun h=>⟨fun h' =>j 0 qqo qqo ?_,fun h' =>j p0 ?_ ?_ ?_⟩⟩
 ·have h:=qb h;exact qf (.inl h)
 ·have h' :=qb h';exact qf (.inr qqo)
 ·have h:=qc h;omega
 ·have h' :=qc h';omega
 ·have h:=qc h;have h' :=qc h';exact len4_in ⟨by omega,by(first|omega|(dsimp only;omega))⟩
noncomputable def klq:Ct:= .gp 196 [.sl yqu] [.sl yqb] [] fun(p0:Li)=>(Us p0/\p0.length<=4294967295,(encL p0:Li),())
theorem ko5:klq.O:=qrv Bs Tryz.func196 (.r 1 (.nd [] (.r 0 (.lp [] ⟨[0],[.tip yqb],[3,4],[.one (.own 0),.one (zqi)],[]⟩ .no)) [] .no)) (k9x.c (k7q.c c0)) (Q:=∀(p0:Li),(Us p0/\p0.length<=4294967295)->∀r0:Li,encL p0=r0-> 
((dig 4 (len4 (p0.length:Int)))=(dig 4 (len4 (p0.length:Int))))/\∃(I1:Int->(Li)->Prop) (M1:Int->(Li)->Nat),I1 0 (dig 4 (len4 (p0.length:Int)))/\∀b1 f1,(I1 b1 f1->
(decide (b1<(p0.length:Int))=true->
(0<=b1)/\b1<(p0.length:Int)/\(U64 (ix p0 b1)/\0<=(8:Int)/\(8:Int)<=8)/\lz f1/\(f1.length+(dig (8:Int).toNat (ix p0 b1)).length)*1<=140737488355328/\f1.length+(dig (8:Int).toNat (ix p0 b1)).length<=maxLen/\(f1++(dig (8:Int).toNat (ix p0 b1))=f1++(dig (8:Int).toNat (ix p0 b1)))/\I1 (i64.wrap (b1+1)) (f1++(dig (8:Int).toNat (ix p0 b1)))/\M1 (i64.wrap (b1+1)) (f1++(dig (8:Int).toNat (ix p0 b1)))<M1 b1 f1)/\
(decide (b1<(p0.length:Int))=false->
f1=r0)))<|by
 rintro p0 h _ rfl;obtain⟨h1,h2⟩:=h;refine⟨rfl,⟨(fun i g=>0<=i/\i<=p0.length/\g=dig 4 (len4 p0.length)++(p0.take i.toNat).flatMap (dig 8)),(fun i _=>(p0.length-i).toNat),⟨by omega,by omega,by simp⟩,?_⟩⟩;rintro i g ⟨g0,g1,rfl⟩;refine⟨fun h=> ?_,fun h=> ?_⟩
 ·have h:=qb h;have hx:=h1 _ (ix_mem p0 i g0 h);rw[inc i p0.length g0 h qqo];have hlen:(dig 4 (len4 p0.length)++(p0.take i.toNat).flatMap (dig 8)).length<=4+8*p0.length:=by simp only[qh,kg,k1h,qu];omega
  refine⟨g0,h,⟨hx,by omega⟩,rfl,?_,?_,rfl,⟨by omega,by omega,?_⟩,by(dsimp only;omega)⟩
  ·rw[kg];omega
  ·rw[kg];unfold maxLen;omega
  ·rw[ke p0 i g0 h,qbo,qw];simp
 ·have h:=qc h;rw[qv qqo];rfl
noncomputable def khw:Ct:= .gp 149 [.st 2] [.sl yqb] [] fun(p0:wy)=>(TR p0/\TL p0/\p0.wA.length<=1048576/\(∀x∈p0.wA,x.wAF.length<=1024),(encT p0 p0.wh:Li),())
theorem kjo:khw.O:=qrv Bs Tryz.func149 (.r 3 (.nd [] (.r 0 (.lp [] ⟨[1],[.tip yqb],[3,4],[.one (.own 0),.one (zqi)],[]⟩ (.r 0 (.nd [] (.r 1 (.nd [] (.r 0 (.lp [] ⟨[1],[.tip yqb],[3,7],[.one (.own 0),.one (zqi)],[]⟩ .no)) [] .no)) [] .no)))) [] (.r 0 (.nd [] (.r 0 (.lp [] ⟨[1],[.tip yqb],[3,9],[.one (.own 0),.one (zqi)],[]⟩ .no)) [] .no)))) (k5d.c (ko5.c (kp4.c (kks.c c0)))) (Q:=∀(p0:wy),(TR p0/\TL p0/\p0.wA.length<=1048576/\(∀x∈p0.wA,x.wAF.length<=1024))->∀r0:Li,encT p0 p0.wh=r0-> 
(U64 p0.wM/\0<=(8:Int)/\(8:Int)<=8)/\(Us p0.wE/\p0.wE.length<=4294967295)/\lz (dig (8:Int).toNat p0.wM)/\((dig (8:Int).toNat p0.wM).length+(encL p0.wE).length)*1<=140737488355328/\(dig (8:Int).toNat p0.wM).length+(encL p0.wE).length<=maxLen/\let v1:Li:=(dig (8:Int).toNat p0.wM)++(encL p0.wE)
lz v1/\(v1.length+(dig 4 (len4 (p0.wA.length:Int))).length)*1<=140737488355328/\v1.length+(dig 4 (len4 (p0.wA.length:Int))).length<=maxLen/\let v2:Li:=v1++(dig 4 (len4 (p0.wA.length:Int)))
(v2=v2)/\∃(I1:Int->(Li)->Prop) (M1:Int->(Li)->Nat),I1 0 v2/\∀b1 f1,(I1 b1 f1->
(decide (b1<(p0.wA.length:Int))=true->
(0<=b1)/\b1<(p0.wA.length:Int)/\let v3:Li:=[(ix p0.wA b1).wm,(ix p0.wA b1).wAm,(ix p0.wA b1).wAl]
(f1=f1)/\∃(I2:Int->(Li)->Prop) (M2:Int->(Li)->Nat),I2 0 f1/\∀i1 k1,(I2 i1 k1->
(decide (i1<(v3.length:Int))=true->
(0<=i1)/\i1<(v3.length:Int)/\(U64 (ix v3 i1)/\0<=(8:Int)/\(8:Int)<=8)/\lz k1/\(k1.length+(dig (8:Int).toNat (ix v3 i1)).length)*1<=140737488355328/\k1.length+(dig (8:Int).toNat (ix v3 i1)).length<=maxLen/\(k1++(dig (8:Int).toNat (ix v3 i1))=k1++(dig (8:Int).toNat (ix v3 i1)))/\I2 (i64.wrap (i1+1)) (k1++(dig (8:Int).toNat (ix v3 i1)))/\M2 (i64.wrap (i1+1)) (k1++(dig (8:Int).toNat (ix v3 i1)))<M2 i1 k1)/\
(decide (i1<(v3.length:Int))=false->
(Us ((ix p0.wA b1).wAF)/\((ix p0.wA b1).wAF).length<=4294967295)/\lz k1/\(k1.length+(encL ((ix p0.wA b1).wAF)).length)*1<=140737488355328/\k1.length+(encL ((ix p0.wA b1).wAF)).length<=maxLen/\(k1++(encL ((ix p0.wA b1).wAF))=k1++(encL ((ix p0.wA b1).wAF)))/\I1 (i64.wrap (b1+1)) (k1++(encL ((ix p0.wA b1).wAF)))/\M1 (i64.wrap (b1+1)) (k1++(encL ((ix p0.wA b1).wAF)))<M1 b1 f1)))/\
(decide (b1<(p0.wA.length:Int))=false->
(f1=f1)/\∃(I3:Int->(Li)->Prop) (M3:Int->(Li)->Nat),I3 0 f1/\∀l1 m1,(I3 l1 m1->
let v4:Int:=([p0.wH,p0.wL,p0.Fee,p0.wQ,p0.wS].length:Int)
(decide (l1<v4)=true->
(0<=l1)/\l1<([p0.wH,p0.wL,p0.Fee,p0.wQ,p0.wS].length:Int)/\let v5:Int:=ix [p0.wH,p0.wL,p0.Fee,p0.wQ,p0.wS] l1
(U64 v5/\0<=(8:Int)/\(8:Int)<=8)/\lz m1/\(m1.length+(dig (8:Int).toNat v5).length)*1<=140737488355328/\m1.length+(dig (8:Int).toNat v5).length<=maxLen/\(m1++(dig (8:Int).toNat v5)=m1++(dig (8:Int).toNat v5))/\I3 (i64.wrap (l1+1)) (m1++(dig (8:Int).toNat v5))/\M3 (i64.wrap (l1+1)) (m1++(dig (8:Int).toNat v5))<M3 l1 m1)/\
(decide (l1<v4)=false->
lz m1/\(m1.length+(dig 4 (len4 p0.wAc)).length)*1<=140737488355328/\m1.length+(dig 4 (len4 p0.wAc)).length<=maxLen/\(p0.wh.length<=4294967295)/\lz (m1++(dig 4 (len4 p0.wAc)))/\((m1++(dig 4 (len4 p0.wAc))).length+(encB p0.wh).length)*1<=140737488355328/\(m1++(dig 4 (len4 p0.wAc))).length+(encB p0.wh).length<=maxLen/\let v6:Li:=(m1++(dig 4 (len4 p0.wAc)))++(encB p0.wh)
v6=r0)))))<|by
 rintro p0 h _ rfl;obtain⟨hr,hl,ho,hc⟩:=h;have hm:=hl.m;have hpl:=hl.p;refine⟨⟨hr.a,by omega⟩,⟨hr.m,hm⟩,rfl,?_,?_,rfl,?_,?_,rfl,?_⟩
 ·simp;omega
 ·simp;unfold maxLen;omega
 ·simp;omega
 ·simp;unfold maxLen;omega
 have hb:=fun i:Int=>k25 (p0.wA.take i.toNat) 1024 (fun x hx=>hc x (qbk hx))
 have hb:∀i:Int,((p0.wA.take i.toNat).flatMap encO).length<=8700000000:=by
  intro i;have:=hb i;rw[qu]at this;refine qax this ?_;have:min i.toNat p0.wA.length<=1048576:=by omega
  have:=Nat.mul_le_mul_left (28+8*1024) this;omega
 have hpre:(dig 8 p0.wM++encL p0.wE++dig 4 (len4 p0.wA.length)).length<=40000000000:=by simp;omega
 generalize hP:dig 8 p0.wM++encL p0.wE++dig 4 (len4 p0.wA.length)=P at *
 refine⟨(fun i g=>0<=i/\i<=p0.wA.length/\g=P++(p0.wA.take i.toNat).flatMap encO),(fun i _=>(p0.wA.length-i).toNat),⟨by omega,by omega,by rw[<-hP];simp⟩,?_⟩;rintro i g ⟨g0,g1,rfl⟩;have hbi:=hb i;generalize hB:P++(p0.wA.take i.toNat).flatMap encO=B at *
 have hBl:B.length<=50000000000:=by rw[<-hB,qh];omega
 refine⟨fun h=> ?_,fun h=> ?_⟩
 ·have h:=qb h;have hx:=hr.o _ (ix_mem p0.wA i g0 h);have hxc:=hc _ (ix_mem p0.wA i g0 h);refine⟨g0,h,rfl,?_⟩;refine⟨(fun k g=>0<=k/\k<=3/\g=B++([(ix p0.wA i).wm,(ix p0.wA i).wAm,(ix p0.wA i).wAl].take k.toNat).flatMap (dig 8)),(fun k _=>(3-k).toNat),⟨by omega,by omega,by simp⟩,?_⟩;rintro k g ⟨k0,k1,rfl⟩
  have hul:Us [(ix p0.wA i).wm,(ix p0.wA i).wAm,(ix p0.wA i).wAl]:=by
   intro x hx';simp only[qae,qcq,or_false]at hx';rcases hx' with rfl|rfl|rfl
   ·exact hx.c
   ·exact hx.p0
   ·exact hx.p1
  have hll:([(ix p0.wA i).wm,(ix p0.wA i).wAm,(ix p0.wA i).wAl].length:Int)=3:=rfl;generalize hLd:[(ix p0.wA i).wm,(ix p0.wA i).wAm,(ix p0.wA i).wAl]=Lc at *
  have hgl:(B++(Lc.take k.toNat).flatMap (dig 8)).length<=50000000024:=by simp only[qh,k1h,qu];omega
  refine⟨fun hk=> ?_,fun hk=> ?_⟩
  ·have hk:=qb hk;rw[inc k 3 k0 qqo qqo];refine⟨k0,hk,⟨hul _ (ix_mem Lc k k0 hk),by omega⟩,rfl,?_,?_,rfl,⟨by omega,by omega,?_⟩,by(dsimp only;omega)⟩
   ·rw[kg];omega
   ·rw[kg];unfold maxLen;omega
   ·rw[ke Lc k k0 hk,qbo,qw];simp
  ·have hk:=qc hk;rw[qv qqo]at hgl ⊢;have hi:=inc i p0.wA.length g0 h qqo;rw[hi];have nxt:(0<=i+1/\i+1<=p0.wA.length/\B++Lc.flatMap (dig 8)++encL (ix p0.wA i).wAF=P++(p0.wA.take (i+1).toNat).flatMap encO)/\(p0.wA.length-(i+1)).toNat<(p0.wA.length-i).toNat:=by refine⟨⟨by omega,by omega,?_⟩,by(first|omega|(dsimp only;omega))⟩;rw[ke p0.wA i g0 h,qbo,<-qw,hB,<-hLd];simp[encO,qw]
   refine⟨⟨hx.ci,by omega⟩,rfl,?_,?_,rfl,nxt.1,nxt.2⟩
   ·rw[k1b];omega
   ·rw[k1b];unfold maxLen;omega
 ·have h:=qc h;refine⟨rfl,?_⟩
  have hul:Us [p0.wH,p0.wL,p0.Fee,p0.wQ,p0.wS]:=by
   intro x hx';simp only[qae,qcq,or_false]at hx';rcases hx' with rfl|rfl|rfl|rfl|rfl
   ·exact hr.d
   ·exact hr.w
   ·exact hr.f
   ·exact hr.ac
   ·exact hr.n
  have hll:([p0.wH,p0.wL,p0.Fee,p0.wQ,p0.wS].length:Int)=5:=rfl;refine⟨(fun k g=>0<=k/\k<=5/\g=B++([p0.wH,p0.wL,p0.Fee,p0.wQ,p0.wS].take k.toNat).flatMap (dig 8)),(fun k _=>(5-k).toNat),⟨by omega,by omega,by simp⟩,?_⟩;rintro k g ⟨k0,k1,rfl⟩;generalize hLd:[p0.wH,p0.wL,p0.Fee,p0.wQ,p0.wS]=Lc at *
  have hgl:(B++(Lc.take k.toNat).flatMap (dig 8)).length<=50000000040:=by simp only[qh,k1h,qu];omega
  refine⟨fun hk=> ?_,fun hk=> ?_⟩
  ·have hk:=qb hk;rw[inc k 5 k0 qqo qqo];refine⟨k0,hk,⟨hul _ (ix_mem Lc k k0 hk),by omega⟩,rfl,?_,?_,rfl,⟨by omega,by omega,?_⟩,by(dsimp only;omega)⟩
   ·rw[kg];omega
   ·rw[kg];unfold maxLen;omega
   ·rw[ke Lc k k0 hk,qbo,qw];simp
  ·have hk:=qc hk;rw[qv qqo]at hgl ⊢;refine⟨rfl,?_,?_,hpl,by trivial,?_,?_,?_⟩
   ·rw[kg];omega
   ·rw[kg];unfold maxLen;omega
   ·rw[qh,kg,k5n];omega
   ·rw[qh,kg,k5n];unfold maxLen;omega
   ·rw[<-hB,<-hLd,<-hP,qv qqo];simp[encT,qw]
noncomputable def kku:Ct:= .gp 107 [.st 2] [yqu] [] fun(p0:wy)=>(TR p0/\TL p0,(bindS p0:Int),())
theorem knv:kku.O:=qrv Bs Tryz.func107 .no (k32.c (kjo.c (kbn.c c0))) (Q:=∀(p0:wy),(TR p0/\TL p0)->∀r0:Int,bindS p0=r0-> 
(TR p0/\TL p0)/\(((validE p0) !=0)=true->
0=r0)/\
(((validE p0) !=0)=false->
(TR (wy.mk p0.wM p0.wE p0.wA p0.wH p0.wL p0.Fee p0.wQ p0.wS p0.wAc ([]:Li))/\TL (wy.mk p0.wM p0.wE p0.wA p0.wH p0.wL p0.Fee p0.wQ p0.wS p0.wAc ([]:Li))/\(wy.mk p0.wM p0.wE p0.wA p0.wH p0.wL p0.Fee p0.wQ p0.wS p0.wAc ([]:Li)).wA.length<=1048576/\(∀x∈(wy.mk p0.wM p0.wE p0.wA p0.wH p0.wL p0.Fee p0.wQ p0.wS p0.wAc ([]:Li)).wA,x.wAF.length<=1024))/\let r1:Li:=(encT (wy.mk p0.wM p0.wE p0.wA p0.wH p0.wL p0.Fee p0.wQ p0.wS p0.wAc ([]:Li)) (wy.mk p0.wM p0.wE p0.wA p0.wH p0.wL p0.Fee p0.wQ p0.wS p0.wAc ([]:Li)).wh)
(U64 (13:Int)/\By r1/\r1.length<=1099511627775)/\(hashB (13:Int) r1)=r0))<|by
 rintro p0 h _ rfl;refine⟨h,?_⟩;unfold bindS;refine⟨fun e=> ?_,fun e=> ?_⟩
 ·have e:validE p0≠0:=by simpa using e
  rw[qe e]
 ·have e:validE p0=0:=by simpa using e
  have v:=(kz p0).1 e;have hr:=h.1;rw[qf e];refine⟨⟨⟨hr.a,hr.m,hr.o,hr.d,hr.w,hr.f,hr.ac,hr.n,hr.e,(fun x hx=>by cases hx)⟩,⟨v.tl.m,v.tl.o,v.tl.c,qaq _⟩,(by show p0.wA.length<=_;have:=v.ol;omega),fun x hx=>(by have:=(v.o x hx).l;omega)⟩,⟨qqd,encT_by (fun x hx=>by cases hx),?_⟩,rfl⟩;have:=v.enc_len [];show(encT p0 []).length<=_;simp at this;omega
noncomputable def kg0:Ct:= .gp 108 [.st 2] [yqu] [] fun(p0:wy)=>(TR p0/\TL p0,(originS p0:Int),())
theorem ki4:kg0.O:=qrv Bs Tryz.func108 .no (k32.c (k1a.c c0)) (Q:=∀(p0:wy),(TR p0/\TL p0)->∀r0:Int,originS p0=r0-> 
(TR p0/\TL p0)/\(((validE p0) !=0)=true->
0=r0)/\
(((validE p0) !=0)=false->
(decide (0<(p0.wE.length:Int))=true->
0<(p0.wE.length:Int)/\ix p0.wE 0=r0)/\
(decide (0<(p0.wE.length:Int))=false->
((18446744069414584321:Int)=18446744069414584321/\U64 (5:Int)/\Us [p0.wQ,p0.wS]/\[p0.wQ,p0.wS].length<=1099511627776)/\(hashS (5:Int) [p0.wQ,p0.wS])=r0)))<|by
 rintro p0 h _ rfl;refine⟨h,?_⟩;unfold originS;refine⟨fun e=> ?_,fun e=> ?_⟩
 ·have e:validE p0≠0:=by simpa using e
  rw[qe e]
 ·have e:validE p0=0:=by simpa using e
  rw[qf e];refine⟨fun e2=> ?_,fun e2=> ?_⟩
  ·have e2:=qb e2;rw[qe (fun hh=>by rw[hh]at e2;simp at e2)];exact⟨e2,rfl⟩
  ·have e2:p0.wE=[]:=qcz.1 (by have:=qc e2;omega);rw[qf e2];exact⟨⟨rfl,by decide,us2 h.1.ac h.1.n,by simp⟩,rfl⟩
noncomputable def kab:Ct:= .gp 72 [.st 2,yqi] [.st 17] [] fun(p0:wy) (p1:Int)=>(TR p0/\TL p0/\-9223372036854775808<=p1/\p1<=9223372036854775807,(stmtS p0 p1:wAd),())
abbrev Fz13 (r:Type):=Int->Int->Int->(Li)->Int->Int->Int->Int->Int->(Li)->(Li)->r
theorem kbj:kab.O:=qrv Bs Tryz.func72 (.r 2 (.nd [] (.r 0 (.lp [.tokc 258 3 yqu,.tokc 258 4 yqu] ⟨[258,290,291],[.cells [zqi,zqu,zql,.own 1,.own 2,zqu,zqu,zqu,zqu,zqu],.tip yqu,.tip yqu],[6],[.one (zqi)],[]⟩ .no)) [] .no)) (k32.c (knv.c (ki4.c (k1a.c c0)))) (Q:=∀(p0:wy) (p1:Int),(TR p0/\TL p0/\-9223372036854775808<=p1/\p1<=9223372036854775807)->∀r0:wAd,stmtS p0 p1=r0-> 
(TR p0/\TL p0)/\(((validE p0) !=0)=true->
0=r0.wD/\0=r0.wM/\([]:Li)=r0.wE/\([]:Li)=r0.wt/\([]:Li)=r0.wAi/\0=r0.wH/\0=r0.wL/\0=r0.Fee/\0=r0.wQ/\0=r0.wBb)/\
(((validE p0) !=0)=false->
(TR p0/\TL p0)/\(([]:Li)=([]:Li))/\(([]:Li)=([]:Li))/\∃(I1:Fz13 Prop) (M1:Fz13 Nat),I1 0 p1 p0.wM p0.wE p0.wH p0.wL p0.Fee p0.wQ (bindS p0) ([]:Li) ([]:Li)/\∀b1 f1 i1 k1 l1 m1 n1 o1 q1 s1 t1,(I1 b1 f1 i1 k1 l1 m1 n1 o1 q1 s1 t1->
(decide (b1<(p0.wA.length:Int))=true->
(0<=b1)/\b1<(p0.wA.length:Int)/\lz s1/\(s1.length+[(ix p0.wA b1).wm].length)*8<=140737488355328/\s1.length+[(ix p0.wA b1).wm].length<=maxLen/\(TR p0/\TL p0)/\((18446744069414584321:Int)=18446744069414584321/\U64 (4:Int)/\Us [(originS p0),u64.wrap b1]/\[(originS p0),u64.wrap b1].length<=1099511627776)/\let r1:Int:=(hashS (4:Int) [(originS p0),u64.wrap b1])
lz t1/\(t1.length+[r1].length)*8<=140737488355328/\t1.length+[r1].length<=maxLen/\(t1++[r1]=t1++[r1])/\(s1++[(ix p0.wA b1).wm]=s1++[(ix p0.wA b1).wm])/\I1 (i64.wrap (b1+1)) f1 i1 k1 l1 m1 n1 o1 q1 (s1++[(ix p0.wA b1).wm]) (t1++[r1])/\M1 (i64.wrap (b1+1)) f1 i1 k1 l1 m1 n1 o1 q1 (s1++[(ix p0.wA b1).wm]) (t1++[r1])<M1 b1 f1 i1 k1 l1 m1 n1 o1 q1 s1 t1)/\
(decide (b1<(p0.wA.length:Int))=false->
f1=r0.wD/\i1=r0.wM/\k1=r0.wE/\s1=r0.wt/\t1=r0.wAi/\l1=r0.wH/\m1=r0.wL/\n1=r0.Fee/\o1=r0.wQ/\q1=r0.wBb))))<|by
 rintro p0 p1 h _ rfl;obtain⟨hr,ht,hd⟩:=h;refine⟨⟨hr,ht⟩,fun e=> ?_,fun e=> ?_⟩
 ·have e:validE p0≠0:=by simpa using e
  unfold stmtS;rw[qe e];exact⟨rfl,rfl,rfl,rfl,rfl,rfl,rfl,rfl,rfl,rfl⟩
 ·have e:validE p0=0:=by simpa using e
  have v:=(kz _).1 e;have vo:=v.ol;have hor:=kb4 hr
  have hlt:originS p0<18446744069414584321:=by
   unfold originS;rw[qf e];split
   ·exact k2n _ _
   ·rename_i hne;exact v.m _ (ix_mem _ 0 qqo (by have:=qdb.2 hne;omega))
  have es:stmtS p0 p1=⟨p1,p0.wM,p0.wE,p0.wA.map (·.wm),(List.range p0.wA.length).map (fun i:Nat=>rhoS (originS p0) (i:Int)),p0.wH,p0.wL,p0.Fee,p0.wQ,bindS p0⟩:=by unfold stmtS;rw[qf e]
  refine⟨⟨hr,ht⟩,by trivial,by trivial,?_⟩;refine⟨(fun i z1 z2 z8 z3 z4 z5 z6 z7 g g' =>(p1=z1/\p0.wM=z2/\p0.wH=z3/\p0.wL=z4/\p0.Fee=z5/\p0.wQ=z6/\bindS p0=z7/\p0.wE=z8)/\0<=i/\i<=p0.wA.length/\g=(p0.wA.take i.toNat).map (·.wm)/\g' =(List.range i.toNat).map (fun i:Nat=>rhoS (originS p0) (i:Int))),(fun i _ _ _ _ _ _ _ _ _ _=>(p0.wA.length-i).toNat),⟨⟨rfl,rfl,rfl,rfl,rfl,rfl,rfl,rfl⟩,by omega,by omega,by simp,by simp⟩,?_⟩;rintro i _ _ _ _ _ _ _ _ g g' ⟨⟨rfl,rfl,rfl,rfl,rfl,rfl,rfl,rfl⟩,g0,g1,rfl,rfl⟩;refine⟨fun hh=> ?_,fun hh=> ?_⟩
  ·have hh:=qb hh;rw[inc i p0.wA.length g0 hh qqo,wu i g0 qqo];refine⟨g0,hh,rfl,by simp;omega,by simp;unfold maxLen;omega,⟨hr,ht⟩,⟨rfl,by decide,us2 hor ⟨g0,by omega⟩,by simp⟩,rfl,by simp;omega,by simp;unfold maxLen;omega,by trivial,by trivial,⟨⟨rfl,rfl,rfl,rfl,rfl,rfl,rfl,rfl⟩,by omega,by omega,?_,?_⟩,by(dsimp only;omega)⟩
   ·rw[ke p0.wA i g0 hh];simp
   ·rw[show(i+1).toNat=i.toNat+1 by omega,List.range_succ,qbg];simp only[qad,qcu];rw[show((i.toNat:Nat):Int)=i by omega,show rhoS (originS p0) i=hashS 4 [originS p0,i]by unfold rhoS;rw[qf hlt]]
  ·have hh:=qc hh;rw[qv qqo,show i.toNat=p0.wA.length by omega];rw[es];exact⟨rfl,rfl,rfl,rfl,rfl,rfl,rfl,rfl,rfl,rfl⟩
noncomputable def kmh:Ct:= .gp 75 [.sl (.st 25),yqi] [.st 11,.bool] [] fun(p0:List wAs) (p1:Int)=>(p0.length<=1000000,(((fdU p0 p1).map usX).getD zeroX:wN),((fdU p0 p1).isSome:Bool),())
theorem ko3:kmh.O:=qrv Bs Tryz.func75 (.r 0 (.nd [] (.r 0 (.lp [] ⟨[],[],[6],[.one (zqi)],[]⟩ .no)) [] .no)) c0 (Q:=∀(p0:List wAs) (p1:Int),(p0.length<=1000000)->∀r0:wN,(((fdU p0 p1).map usX).getD zeroX)=r0->∀r1:Bool,((fdU p0 p1).isSome)=r1-> 
∃(I1:Int->Prop) (M1:Int->Nat),I1 0/\∀b1,(I1 b1->
(decide (b1<(p0.length:Int))=true->
(0<=b1)/\b1<(p0.length:Int)/\((((ix p0 b1).wC)==p1)=true->
(0<=b1)/\b1<(p0.length:Int)/\(ix p0 b1).wBX=r0.wR/\(ix p0 b1).wBc=r0.we/\(ix p0 b1).wBf=r0.wY/\(ix p0 b1).wBd=r0.wz/\(ix p0 b1).wBq=r0.Key/\(ix p0 b1).wBi=r0.wAP/\(ix p0 b1).wBg=r0.wC/\(ix p0 b1).wBp=r0.wj/\(ix p0 b1).wBm=r0.wBQ/\true=r1)/\
((((ix p0 b1).wC)==p1)=false->
I1 (i64.wrap (b1+1))/\M1 (i64.wrap (b1+1))<M1 b1))/\
(decide (b1<(p0.length:Int))=false->
0=r0.wR/\0=r0.we/\0=r0.wY/\0=r0.wz/\0=r0.Key/\0=r0.wAP/\0=r0.wC/\([]:Li)=r0.wj/\false=r0.wBQ/\false=r1)))<|by
 rintro p0 p1 h _ rfl _ rfl;refine⟨(fun a=>∃i:Nat,a=(i:Int)/\i<=p0.length/\fdU (p0.drop i) p1=fdU p0 p1),(fun a=>(p0.length-a).toNat),⟨0,rfl,by omega,rfl⟩,?_⟩;rintro _ ⟨i,rfl,hi,hg⟩;refine⟨fun e=> ?_,fun e=> ?_⟩
 ·have e:i<p0.length:=by have:=qb e;omega
  rw[qo e,fdU]at hg;rw[ix_get _ _ e,inc_i64 _ qqo];refine⟨by omega,by omega,fun e2=> ?_,fun e2=> ?_⟩
  ·rw[qf (by simpa using e2)]at hg;rw[<-hg];exact⟨by omega,by omega,(by repeat' first|apply qaa|exact rfl|exact ql)⟩
  ·rw[qe (by simpa using e2)]at hg;exact⟨⟨i+1,rfl,by omega,hg⟩,by(dsimp only;omega)⟩
 ·have e:i=p0.length:=by have:=qc e;omega
  subst e;rw[qbs]at hg;rw[<-hg];exact(by repeat' first|apply qaa|exact rfl|exact ql)
noncomputable def khy:Ct:= .tp 76 [.st 11] [.st 4] [] fun(p0:wN)=>((ownQ p0:wG),())
theorem kjr:khy.O:=qtv Bs Tryz.func76 .no c0 (Q:=∀(p0:wN),∀r0:wG,ownQ p0=r0-> 
1=r0.wBF/\[p0.Key,u64.wrap p0.wAP]=r0.wAp/\p0.we=r0.wAo)<|by rintro p0 _ rfl;exact(by repeat' first|apply qaa|exact rfl|exact ql)
noncomputable def kk8:Ct:= .gp 116 [yqi,.sl yqu,yqi] [.sl yqu] [] fun(p0:Int) (p1:Li) (p2:Int)=>(((0<=p0/\p0<=12)/\p1.length<=2^p0.toNat/\(∀x∈p1,0<=x/\x<18446744069414584321))/\0<=p2/\p2<((2^p0.toNat:Nat):Int),(pthL p0.toNat p1 p2.toNat:Li),())
theorem ko0:kk8.O:=qrv Bs Tryz.func116 (.r 2 (.nd [] (.lp [.tok 8 yqu] ⟨[0],[.tip yqu],[2,7,8],[.one (zqi),.one (zql),.one (.own 0)],[]⟩ (.r 1 (.jn ⟨[],[],[9],[.one (zqi)],[]⟩ [] .no [] .no))) [] .no)) (k3u.c (k8t.c c0)) (Q:=∀(p0:Int) (p1:Li) (p2:Int),(((0<=p0/\p0<=12)/\p1.length<=2^p0.toNat/\(∀x∈p1,0<=x/\x<18446744069414584321))/\0<=p2/\p2<((2^p0.toNat:Nat):Int))->∀r0:Li,pthL p0.toNat p1 p2.toNat=r0-> 
((0<=p0/\p0<=12)/\p1.length<=2^p0.toNat)/\let r1:Li:=(p1++List.replicate (2^p0.toNat-p1.length) (emp 0))
(([]:Li)=([]:Li))/\∃(I1:Int->(Li)->(Li)->Prop) (M1:Int->(Li)->(Li)->Nat),I1 p2 r1 ([]:Li)/\∀b1 f1 i1,(I1 b1 f1 i1->
(decide (1<(f1.length:Int))=true->
∀J1:Int->Prop,(∀(k1:Int),
((0<=k1)/\k1<(f1.length:Int)/\lz i1/\(i1.length+[ix f1 k1].length)*8<=140737488355328/\i1.length+[ix f1 k1].length<=maxLen/\((∀x∈f1,0<=x/\x<18446744069414584321)/\f1.length<=100000)/\(i1++[ix f1 k1]=i1++[ix f1 k1])/\I1 (i64.wrap (Int.tdiv b1 2)) (pairs f1) (i1++[ix f1 k1])/\M1 (i64.wrap (Int.tdiv b1 2)) (pairs f1) (i1++[ix f1 k1])<M1 b1 f1 i1)->J1 k1)->
(((Int.tmod b1 2)==1)=true->
J1 (i64.wrap (b1-1)))/\
(((Int.tmod b1 2)==1)=false->
J1 (i64.wrap (b1+1))))/\
(decide (1<(f1.length:Int))=false->
i1=r0)))<|by
 rintro p0 p1 p2 h _ rfl;obtain⟨⟨⟨h0,h1⟩,h2,h3⟩,h4,h5⟩:=h;refine⟨⟨⟨h0,h1⟩,h2⟩,?_⟩;obtain⟨d,rfl⟩:=qn h0;obtain⟨p,rfl⟩:=qn h4;simp only[qx]at h2 h5 ⊢;have hp:=pow12 d qqo;rw[kc1 h2];refine⟨by trivial,(fun a g o=>∃i:Nat,i<=d/\a=((p/2^i:Nat):Int)/\g=lvl p1 d i/\o=pthL i p1 p),(fun _ g _=>g.length),⟨0,by omega,by simp,rfl,rfl⟩,?_⟩;rintro _ _ _ ⟨i,hi,rfl,rfl,rfl⟩;have hli:=lvl_len p1 d i;have hpl:(pthL i p1 p).length=i:=by simp[pthL]
 refine⟨fun e=> ?_,fun e=> ?_⟩
 ·have e:=qb e
  have hid:i<d:=by
   rcases qar i d with h1|h1
   ·exact h1
   ·have:i=d:=by omega
    subst this;rw[hli,Nat.sub_self]at e;exact absurd e qqd
  have e2:2^(d-i)=2*2^(d-(i+1)):=by rw[show d-i=d-(i+1)+1 by omega,Nat.pow_succ];omega
  have hp2:=pow12 (d-i) qqo;have hk:p/2^i<2^(d-i):=by rw[qem (qbw i),<-Nat.pow_add,show d-i+i=d by omega];omega
  have hh:=k16 p i;have ho:pthL (i+1) p1 p=pthL i p1 p++[TT (lf p1) i (sibN (p/2^i))]:=by unfold pthL;rw[List.range_succ,qbg];rfl
  generalize p/2^i=q at *
  intro J kJ
  have j:∀s:Nat,s=sibN q->J (s:Int):=fun s hs=>kJ _ (by
   have hsl:s<2^(d-i):=by rw[hs];unfold sibN;split<;>omega
   have hix:ix (lvl p1 d i) (s:Int)=TT (lf p1) i s:=by rw[ix_get _ _ (by rw[hli];exact hsl)];simp[lvl]
   rw[hix,klf hid,Int.tdiv_eq_ediv_of_nonneg qqo,wi _ qqo qqo];refine⟨by omega,by rw[hli];omega,by trivial,?_,?_,⟨lvl_u h3 d i,by rw[hli];omega⟩,by trivial,⟨i+1,by omega,?_,rfl,?_⟩,?_⟩
   ·rw[hpl];simp only[qj,qt];omega
   ·rw[hpl];simp only[qj,qt];unfold maxLen;omega
   ·rw[hh];omega
   ·rw[ho,hs]
   ·dsimp only;rw[lvl_len,lvl_len];have:=qbw (d-(i+1));omega)
  rw[tmod_nn _ _ qqo];refine⟨fun e3=> ?_,fun e3=> ?_⟩
  ·have e3:(q:Int)%2=1:=by simpa using e3
   have:=j (q-1) (by unfold sibN;rw[qf qqo]);rw[wi _ qqo qqo,show(q:Int)-1=((q-1:Nat):Int)by omega];exact this
  ·have e3:¬(q:Int)%2=1:=by simpa using e3
   have:=j (q+1) (by unfold sibN;rw[qe qqo]);rw[wi _ qqo qqo,show(q:Int)+1=((q+1:Nat):Int)by omega];exact this
 ·have e:=qc e;rw[hli]at e
  have hid:i=d:=by
   rcases qar i d with h1|h1
   ·have:2^(d-i)=2*2^(d-(i+1)):=by rw[show d-i=d-(i+1)+1 by omega,Nat.pow_succ];omega
    have hq:=qbw (d-(i+1));omega
   ·omega
  subst hid;exact(by repeat' first|apply qaa|exact rfl|exact ql)
noncomputable def kfi:Ct:= .gp 115 [.st 23,.st 13] [yqu] [] fun(p0:wAr) (p1:wJ)=>(p0.wAz=false/\NR p1,(comV p1:Int),())
theorem k7u:kfi.O:=qrv Bs Tryz.func115 .no (k2e.c c0) (Q:=∀(p0:wAr) (p1:wJ),(p0.wAz=false/\NR p1)->∀r0:Int,comV p1=r0-> 
(p0.wAz=false/\NR p1)/\(comV p1)=r0)<|by rintro p0 p1 h _ rfl;exact⟨h,rfl⟩
noncomputable def kk7:Ct:= .gp 118 [yqi,yqi,yqu,yqu] [.sl yqu] [] fun(p0 p1 p2 p3:Int)=>(0<=p0/\0<=p1/\p1<=12,(prU p0 p1.toNat p2 p3:Li),())
theorem ko6:kk7.O:=qrv Bs Tryz.func118 .no c0 (Q:=∀(p0 p1 p2 p3:Int),(0<=p0/\0<=p1/\p1<=12)->∀r0:Li,prU p0 p1.toNat p2 p3=r0-> 
(0<=p1)/\(((Int.tmod (ishr .i64 p0 p1) 2)==1)=true->
[p3,p2]=r0)/\
(((Int.tmod (ishr .i64 p0 p1) 2)==1)=false->
[p2,p3]=r0))<|by
 rintro p0 p1 p2 p3 h _ rfl;obtain⟨h0,h1,h2⟩:=h;have hs:ishr .i64 p0 p1=p0/2^p1.toNat:=by rw[k1e,show min p1.toNat i64.bits=p1.toNat from qca (by show p1.toNat<=64;omega)];simp
 rw[hs,tmod_nn _ _ (qdi h0 (qcr (Int.pow_pos qqo)))];unfold prU;refine⟨h1,fun e=> ?_,fun e=> ?_⟩
 ·rw[qf (by simpa using e)]
 ·rw[qe (by simpa using e)]
noncomputable def kbh:Ct:= .gp 117 [.st 23,.st 13] [.st 4] [] fun(p0:wAr) (p1:wJ)=>(p0.wAz=false/\NR p1,(qsV p1:wG),())
theorem kdb:kbh.O:=qrv Bs Tryz.func117 .no (k5w.c (k7u.c c0)) (Q:=∀(p0:wAr) (p1:wJ),(p0.wAz=false/\NR p1)->∀r0:wG,qsV p1=r0-> 
(p0.wAz=false/\NR p1)/\2=r0.wBF/\(noteL p1)=r0.wAp/\(comV p1)=r0.wAo)<|by rintro p0 p1 h _ rfl;exact⟨h,(by repeat' first|apply qaa|exact rfl|exact ql)⟩
noncomputable def kjh:Ct:= .gp 74 [.st 26,yqu,.st 11] [.st 4,.st 4] [] fun(p0:wv) (p1:Int) (p2:wN)=>((∃c:Nat,c<=1000/\BOk p0 c)/\NR (noteOf p2)/\(0<=p2.wC/\p2.wC<((2^p0.wD.toNat:Nat):Int))/\(p2.wj.length:Int)=p0.wD/\Us p2.wj,((rwr p0 p1 p2).a:wG),((rwr p0 p1 p2).c:wG),())
abbrev Fz14 (r:Type):=Int->Int->Int->Int->(Li)->Int->Int->(Li)->Int->r
theorem kk3:kjh.O:=qrx Bs [53,54] Tryz.func74 (.r 1 (.nd [] (.r 0 (.lp [] ⟨[],[],[8,9],[.one (zqi),.one (zqi)],[]⟩ .no)) [] (.r 0 (.nd [] (.r 0 (.lp [.rnil 10 yqu] ⟨[],[.vec yqu],[10,11],[.one (.row 0),.one (zqi)],[4]⟩ .no)) [] (.nd [.frz 5 [10]] .no [] (.r 2 (.jn ⟨[248],[.cells [zqu,zql,zqu]],[],[],[]⟩ [] .no [] (.nd [] (.r 0 (.lp [] ⟨[248,247],[.cells [zqu,zql,zqu],.cells [zqu,zql,zqu]],[13,14,17],[.one (zqu),.one (zqu),.one (zqi)],[]⟩ .no)) [] .no)))))))) x0 (k7u.c (ko0.c (k3u.c (kdb.c (ko6.c (k3j.c (kbd.c c0))))))) (Q:=∀(p0:wv) (p1:Int) (p2:wN),((∃c:Nat,c<=1000/\BOk p0 c)/\NR (noteOf p2)/\(0<=p2.wC/\p2.wC<((2^p0.wD.toNat:Nat):Int))/\(p2.wj.length:Int)=p0.wD/\Us p2.wj)->∀r0:wG,((rwr p0 p1 p2).a)=r0->∀r1:wG,((rwr p0 p1 p2).c)=r1-> 
∃(I1:Int->Int->Prop) (M1:Int->Int->Nat),I1 0 0/\∀b1 f1,(I1 b1 f1->
(decide (f1<(p0.wg.length:Int))=true->
(0<=f1)/\f1<(p0.wg.length:Int)/\(((ix p0.wg f1)==p1)=true->
(0<=f1)/\f1<(p0.wAu.length:Int)/\I1 (ix p0.wAu f1) (i64.wrap (f1+1))/\M1 (ix p0.wAu f1) (i64.wrap (f1+1))<M1 b1 f1)/\
(((ix p0.wg f1)==p1)=false->
I1 b1 (i64.wrap (f1+1))/\M1 b1 (i64.wrap (f1+1))<M1 b1 f1))/\
(decide (f1<(p0.wg.length:Int))=false->
(0=([]:Li).length)/\∃(I2:Int->(Li)->Prop) (M2:Int->(Li)->Nat),I2 0 ([]:Li)/\∀i1 k1,(I2 i1 k1->
(decide (i1<b1)=true->
(0<=i1)/\i1<(p0.wl.length:Int)/\((wAr.mk p0.wBN p0.wBC p0.wBB p0.wBE p0.wBD p0.wAt).wAz=false/\NR (ix p0.wl i1))/\lz k1/\lz [(comV (ix p0.wl i1))]/\(k1.length+[(comV (ix p0.wl i1))].length)*8<=140737488355328/\k1.length+[(comV (ix p0.wl i1))].length<=maxLen/\lz (k1++[(comV (ix p0.wl i1))])/\I2 (i64.wrap (i1+1)) (k1++[(comV (ix p0.wl i1))])/\M2 (i64.wrap (i1+1)) (k1++[(comV (ix p0.wl i1))])<M2 i1 k1)/\
(decide (i1<b1)=false->
lz k1/\(((0<=p0.wD/\p0.wD<=12)/\k1.length<=2^p0.wD.toNat/\(∀x∈k1,0<=x/\x<18446744069414584321))/\0<=p2.wC/\p2.wC<((2^p0.wD.toNat:Nat):Int))/\let r2:Li:=(pthL p0.wD.toNat k1 p2.wC.toNat)
((wAr.mk p0.wBN p0.wBC p0.wBB p0.wBE p0.wBD p0.wAt).wAz=false/\NR (wJ.mk p2.wR p2.we p2.wY p2.wz))/\let r3:Int:=(comV (wJ.mk p2.wR p2.we p2.wY p2.wz))
((0<=p0.wD/\p0.wD<=12)/\k1.length<=2^p0.wD.toNat)/\let r4:Li:=(k1++List.replicate (2^p0.wD.toNat-k1.length) (emp 0))
(0<=p2.wC)/\p2.wC<(r4.length:Int)/\((wAr.mk p0.wBN p0.wBC p0.wBB p0.wBE p0.wBD p0.wAt).wAz=false/\NR (wJ.mk p2.wR p2.we p2.wY p2.wz))/\let r5:=qsV (wJ.mk p2.wR p2.we p2.wY p2.wz)
∀J1:Int->(Li)->Int->Prop,(∀(l1:Int) (m1:Li) (n1:Int),
(∃(I3:Fz14 Prop) (M3:Fz14 Nat),I3 r3 (ix r4 p2.wC) 0 l1 m1 n1 r5.wBF r5.wAp r5.wAo/\∀o1 q1 s1 t1 u1 x1 y1 b2 f2,(I3 o1 q1 s1 t1 u1 x1 y1 b2 f2->
(decide (s1<p0.wD)=true->
(0<=s1)/\s1<(p2.wj.length:Int)/\(0<=p2.wC/\0<=s1/\s1<=12)/\let r6:Li:=(prU p2.wC s1.toNat o1 (ix p2.wj s1))
(0<=s1)/\s1<(r2.length:Int)/\(0<=p2.wC/\0<=s1/\s1<=12)/\0<(r6.length:Int)/\1<(r6.length:Int)/\(U64 (ix r6 0)/\U64 (ix r6 1))/\0<((prU p2.wC s1.toNat q1 (ix r2 s1)).length:Int)/\let v7:Int:=ix (prU p2.wC s1.toNat q1 (ix r2 s1)) 0
1<((prU p2.wC s1.toNat q1 (ix r2 s1)).length:Int)/\let v8:Int:=ix (prU p2.wC s1.toNat q1 (ix r2 s1)) 1
(U64 v7/\U64 v8)/\(r6.length<=9223372036854775807/\(prU p2.wC s1.toNat q1 (ix r2 s1)).length<=9223372036854775807)/\let r9:Bool:=(decide (r6=(prU p2.wC s1.toNat q1 (ix r2 s1))))
((!r9)=true->
I3 (nd (ix r6 0) (ix r6 1)) (nd v7 v8) (i64.wrap (s1+1)) 6 (prU p2.wC s1.toNat q1 (ix r2 s1)) (nd v7 v8) 6 r6 (nd (ix r6 0) (ix r6 1))/\M3 (nd (ix r6 0) (ix r6 1)) (nd v7 v8) (i64.wrap (s1+1)) 6 (prU p2.wC s1.toNat q1 (ix r2 s1)) (nd v7 v8) 6 r6 (nd (ix r6 0) (ix r6 1))<M3 o1 q1 s1 t1 u1 x1 y1 b2 f2)/\
((!r9)=false->
I3 (nd (ix r6 0) (ix r6 1)) (nd v7 v8) (i64.wrap (s1+1)) t1 u1 x1 y1 b2 f2/\M3 (nd (ix r6 0) (ix r6 1)) (nd v7 v8) (i64.wrap (s1+1)) t1 u1 x1 y1 b2 f2<M3 o1 q1 s1 t1 u1 x1 y1 b2 f2))/\
(decide (s1<p0.wD)=false->
y1=r0.wBF/\b2=r0.wAp/\f2=r0.wAo/\t1=r1.wBF/\u1=r1.wAp/\x1=r1.wAo)))->J1 l1 m1 n1)->
(decide (p2.wC<b1)=true->
(0<=p2.wC)/\p2.wC<(p0.wl.length:Int)/\((wAr.mk p0.wBN p0.wBC p0.wBB p0.wBE p0.wBD p0.wAt).wAz=false/\NR (ix p0.wl p2.wC))/\J1 ((qsV (ix p0.wl p2.wC)).wBF) ((qsV (ix p0.wl p2.wC)).wAp) ((qsV (ix p0.wl p2.wC)).wAo))/\
(decide (p2.wC<b1)=false->
J1 6 ([]:Li) (ix r4 p2.wC)))))))<|by
 rintro p0 p1 p2 h _ rfl _ rfl;obtain⟨⟨c,hc,hb⟩,hn,⟨hp0,hp1⟩,hpl,hpu⟩:=h;obtain⟨z0,z1,z2⟩:=hb.sz p1;have hd1:=hb.d1;have hd2:=hb.d2;have hrl:=hb.rl;have hrz:=hb.rz;have hnl:=hb.nl;have hI:=hb.i;have hpw:=pow12 p0.wD.toNat qqo;generalize hG:rwr p0 p1 p2=G;unfold rwr rwL at hG;refine⟨(fun b a=>∃i:Nat,a=(i:Int)/\i<=p0.wg.length/\lsz p1 (p0.wg.drop i) (p0.wAu.drop i) b=lsz p1 p0.wg p0.wAu 0),(fun _ a=>(p0.wg.length-a).toNat),⟨0,rfl,by omega,rfl⟩,?_⟩;rintro b _ ⟨i,rfl,hi,hg⟩;refine⟨fun e=> ?_,fun e=> ?_⟩
 ·have e:i<p0.wg.length:=by have:=qb e;omega
  rw[qo e,qo (show i<p0.wAu.length by omega),lsz]at hg;rw[ix_get _ _ e,ix_get _ _ (show i<p0.wAu.length by omega),inc_i64 _ qqo];refine⟨by omega,by omega,fun e2=> ?_,fun e2=> ?_⟩
  ·rw[qf (by simpa using e2)]at hg;exact⟨by omega,by omega,⟨i+1,rfl,by omega,hg⟩,by(dsimp only;omega)⟩
  ·rw[qe (by simpa using e2)]at hg;exact⟨⟨i+1,rfl,by omega,hg⟩,by(dsimp only;omega)⟩
 ·have e:i=p0.wg.length:=by have:=qc e;omega
  subst e;rw[qbs]at hg;have hg:b=lsz p1 p0.wg p0.wAu 0:=by rw[<-hg];rfl
  rw[<-hg]at z0 z1 z2 hG;clear hg;obtain⟨n,rfl⟩:=qn z0;simp only[qx]at hG;refine⟨rfl,(fun a k=>∃j:Nat,a=(j:Int)/\j<=n/\k=(p0.wl.take j).map comV),(fun a _=>(n-a).toNat),⟨0,rfl,by omega,rfl⟩,?_⟩;rintro _ _ ⟨j,rfl,hj,rfl⟩;have hkl:((p0.wl.take j).map comV).length=j:=by rw[qm,qu];omega
  refine⟨fun e=> ?_,fun e=> ?_⟩
  ·have e:j<n:=by have:=qb e;omega
   have hjl:j<p0.wl.length:=by omega
   rw[ix_get _ _ hjl,inc_i64 _ qqo];refine⟨by omega,by omega,⟨hI,hb.nr _ (qah hjl)⟩,by trivial,by trivial,?_,?_,by trivial,⟨j+1,rfl,by omega,?_⟩,by(dsimp only;omega)⟩
   ·rw[hkl];simp only[qj,qt];omega
   ·rw[hkl];simp only[qj,qt];unfold maxLen;omega
   ·rw[qr hjl,qbg];rfl
  ·have e:j=n:=by have:=qc e;omega
   subst e;have hL:∀x∈(p0.wl.take j).map comV,0<=x/\x<18446744069414584321:=by intro x hx;obtain⟨y,_,rfl⟩:=qau.1 hx;exact comV_lt y
   generalize (p0.wl.take j).map comV=L at *
   have hLl:L.length<=2^p0.wD.toNat:=by omega
   have hD:((p0.wD.toNat:Nat):Int)=p0.wD:=by omega
   have hpt:(pthL p0.wD.toNat L p2.wC.toNat).length=p0.wD.toNat:=by simp[pthL]
   have hpe:∀y∈pthL p0.wD.toNat L p2.wC.toNat,U64 y:=by intro y hy;obtain⟨a,_,rfl⟩:=qau.1 hy;have:=TT_r hL a (sibN (p2.wC.toNat/2^a));exact⟨this.1,by omega⟩
   have hlf:ix (L++List.replicate (2^p0.wD.toNat-L.length) (emp 0)) p2.wC=lf L p2.wC.toNat:=by
    have e5:p2.wC=((p2.wC.toNat:Nat):Int):=by omega
    rw[kc1 hLl];conv=>lhs;rw[e5]
    rw[ix_get _ _ (by rw[lvl_len,Nat.sub_zero];omega)];simp[lvl,TT]
   have hlu:=TT_r hL 0 p2.wC.toNat;have hlu:0<=lf L p2.wC.toNat/\lf L p2.wC.toNat<18446744069414584321:=hlu;generalize hpp:pthL p0.wD.toNat L p2.wC.toNat=pp at *
   dsimp only;rw[hlf];refine⟨by trivial,⟨⟨⟨by omega,by omega⟩,hLl,hL⟩,hp0,hp1⟩,⟨hI,hn⟩,⟨⟨by omega,by omega⟩,hLl⟩,hp0,?_,⟨hI,hn⟩,?_⟩
   ·simp only[qh,List.length_replicate];omega
   intro J kJ
   have two:∀(p:Int) (i:Nat) (m s:Int),U64 m->U64 s->(prU p i m s).length=2/\U64 (ix (prU p i m s) 0)/\U64 (ix (prU p i m s) 1):=by
    intro p i m s h1 h2;unfold prU;split
    ·exact⟨rfl,h2,h1⟩
    ·exact⟨rfl,h1,h2⟩
   have main:∀q:wG,rwGo p2.wC p2.wj pp 0 p0.wD.toNat (comV (noteOf p2)) (lf L p2.wC.toNat) ⟨qsV (noteOf p2),q⟩=G->J q.wBF q.wAp q.wAo:=fun q hq=>kJ _ _ _ (by
    refine⟨(fun m o s cl ce ca al ae aa=>∃i:Nat,s=(i:Int)/\i<=p0.wD.toNat/\U64 m/\U64 o/\rwGo p2.wC p2.wj pp i (p0.wD.toNat-i) m o ⟨⟨al,ae,aa⟩,⟨cl,ce,ca⟩⟩=G),(fun _ _ s _ _ _ _ _ _=>(p0.wD-s).toNat),⟨0,rfl,qaq _,comV_u _,⟨hlu.1,by omega⟩,hq⟩,?_⟩;rintro m o _ cl ce ca al ae aa ⟨i,rfl,hi,hm,ho,hg⟩;refine⟨fun e=> ?_,fun e=> ?_⟩
    ·have e:=qb e;have h1:=hpu _ (ix_mem p2.wj (i:Int) qqo qqo);have h2:=hpe _ (ix_mem pp (i:Int) qqo qqo);obtain⟨k,hk⟩:∃k,p0.wD.toNat-i=k+1:=⟨p0.wD.toNat-i-1,by omega⟩;rw[hk,rwGo]at hg;obtain⟨a1,a2,a3⟩:=two p2.wC i m (ix p2.wj (i:Int)) hm h1;obtain⟨b1,b2,b3⟩:=two p2.wC i o (ix pp (i:Int)) ho h2;rw[qx,inc_i64 _ qqo];refine⟨by omega,by omega,⟨hp0,by omega,by omega⟩,by omega,by omega,⟨hp0,by omega,by omega⟩,by omega,by omega,⟨a2,a3⟩,by omega,by omega,⟨b2,b3⟩,⟨by omega,by omega⟩,fun e2=> ?_,fun e2=> ?_⟩
     ·rw[qe (by simpa using e2)]at hg;exact⟨⟨i+1,rfl,by omega,kh _ _,kh _ _,by rw[show p0.wD.toNat-(i+1)=k by omega];exact hg⟩,by(dsimp only;omega)⟩
     ·rw[qf (by simpa using e2)]at hg;exact⟨⟨i+1,rfl,by omega,kh _ _,kh _ _,by rw[show p0.wD.toNat-(i+1)=k by omega];exact hg⟩,by(dsimp only;omega)⟩
    ·have e:=qc e;have:p0.wD.toNat-i=0:=by omega
     rw[this]at hg;have hg:(⟨⟨al,ae,aa⟩,⟨cl,ce,ca⟩⟩:AuQ)=G:=hg;subst hg;exact⟨rfl,rfl,rfl,rfl,rfl,rfl⟩)
   refine⟨fun e=> ?_,fun e=> ?_⟩
   ·have e:=qb e;rw[qf e]at hG;exact⟨hp0,by omega,⟨hI,hb.nr _ (ix_mem p0.wl p2.wC hp0 qqo)⟩,main _ hG⟩
   ·have e:=qc e;rw[qe e]at hG;exact main ⟨6,[],lf L p2.wC.toNat⟩ hG
noncomputable def kea:Ct:= .bp 42 [.st 26,.st 2,.st 22] [.st 26,.st 18] fun(p0:wv) (p1:wy) (p2:wBG)=>((∃c:Nat,c<=999/\BOk p0 c)/\TR p1/\TL p1/\(p2.Is=true->WR (knW p2)),rexS p0 p1 (knW p2) p2.Is,fun R=>(R.b,R.f,()))
abbrev k1i (R:AuF) (o0:Bool) (o1 o2:Int) (o3:List wG) (o4 o5:List wAj) (o6:Int) (o7 o8:Li) (o9:List wJ) (o10:List wAs) (o11 o12 o13 o14:Int) (o15:Li) (o16 o17:Int) (o18:Li) (o19:Int):Prop:=o0=R.b.wBN/\o1=R.b.wBC/\o2=R.b.wBB/\o3=R.b.wBE/\o4=R.b.wBD/\o5=R.b.wAt/\o6=R.b.wD/\o7=R.b.wg/\o8=R.b.wAu/\o9=R.b.wl/\o10=R.b.wAJ/\o11=R.f.wAW/\o12=R.f.wO/\o13=R.f.Tx/\o14=R.f.wBH/\o15=R.f.wBJ/\o16=R.f.wAw/\o17=R.f.wBK/\o18=R.f.wBI/\o19=R.f.wAv
abbrev Fz15 (r:Type):=Int->Bool->Int->Int->(List wG)->(List wAj)->(List wAj)->Int->(Li)->(Li)->(List wJ)->(List wAs)->r
theorem kg6:kea.O:=qbx Bs [93,96,101,102,104,107,111] Tryz.func42 (.r 1 (.nd [] (.jn ⟨[],[],[30],[.one (.d (.bool))],[]⟩ [] .no [] .no) [] (.nd [] (.r 0 (.lp [] ⟨[0],[.cells yJ],[9],[.one (zqi)],[]⟩ (.r 0 (.nd [] .no [.frzi 0 10] .no)))) [] (.nd [] .no [.frzi 0 9] .no)))) x0 (kbj.c (kko.c (kk3.c (ko3.c (kjr.c c0))))) (Q:=∀(p0:wv) (p1:wy) (p2:wBG),((∃c:Nat,c<=999/\BOk p0 c)/\TR p1/\TL p1/\(p2.Is=true->WR (knW p2)))->∀R,rexS p0 p1 (knW p2) p2.Is=R-> 
(TR p1/\TL p1/\-9223372036854775808<=p0.wD/\p0.wD<=9223372036854775807)/\∀J1:Bool->Prop,(∀(b1:Bool),
((b1=true->
k1i R p0.wBN p0.wBC p0.wBB p0.wBE p0.wBD p0.wAt p0.wD p0.wg p0.wAu p0.wl p0.wAJ 1 0 0 0 ([]:Li) 0 0 ([]:Li) 0)/\
(b1=false->
∃(I1:Fz15 Prop) (M1:Fz15 Nat),I1 0 p0.wBN p0.wBC p0.wBB p0.wBE p0.wBD p0.wAt p0.wD p0.wg p0.wAu p0.wl p0.wAJ/\∀f1 i1 k1 l1 m1 n1 o1 q1 s1 t1 u1 x1,(I1 f1 i1 k1 l1 m1 n1 o1 q1 s1 t1 u1 x1->
(decide (f1<(p2.wAK.length:Int))=true->
(0<=f1)/\f1<(p2.wAK.length:Int)/\((ix p2.wAK f1).wBQ=true->
I1 (i64.wrap (f1+1)) i1 k1 l1 m1 n1 o1 q1 s1 t1 u1 x1/\M1 (i64.wrap (f1+1)) i1 k1 l1 m1 n1 o1 q1 s1 t1 u1 x1<M1 f1 i1 k1 l1 m1 n1 o1 q1 s1 t1 u1 x1)/\
((ix p2.wAK f1).wBQ=false->
let v3:Bool:=decide ((u1.length:Int)<=((ix p2.wAK f1).wC))
(v3=true->
((∃c:Nat,c<=1000/\BOk (wv.mk i1 k1 l1 m1 n1 o1 q1 s1 t1 u1 x1) c)/\NR (noteOf (ix p2.wAK f1))/\(0<=(ix p2.wAK f1).wC/\(ix p2.wAK f1).wC<((2^(wv.mk i1 k1 l1 m1 n1 o1 q1 s1 t1 u1 x1).wD.toNat:Nat):Int))/\((ix p2.wAK f1).wj.length:Int)=(wv.mk i1 k1 l1 m1 n1 o1 q1 s1 t1 u1 x1).wD/\Us (ix p2.wAK f1).wj)/\let r4:=(rwr (wv.mk i1 k1 l1 m1 n1 o1 q1 s1 t1 u1 x1) p1.wM (ix p2.wAK f1)).a
let r5:=(rwr (wv.mk i1 k1 l1 m1 n1 o1 q1 s1 t1 u1 x1) p1.wM (ix p2.wAK f1)).c
k1i R i1 k1 l1 m1 n1 o1 q1 s1 t1 u1 x1 2 0 0 r4.wBF r4.wAp r4.wAo r5.wBF r5.wAp r5.wAo)/\
(v3=false->
(0<=(ix p2.wAK f1).wC)/\(ix p2.wAK f1).wC<(u1.length:Int)/\let v6:Bool:=(!(((ix u1 ((ix p2.wAK f1).wC)).Value==(ix p2.wAK f1).wR)&&(((ix u1 ((ix p2.wAK f1).wC)).wAg==(ix p2.wAK f1).we)&&(((ix u1 ((ix p2.wAK f1).wC)).Rho==(ix p2.wAK f1).wY)&&(((ix u1 ((ix p2.wAK f1).wC)).wBL==(ix p2.wAK f1).wz)&&true)))))
(v6=true->
((∃c:Nat,c<=1000/\BOk (wv.mk i1 k1 l1 m1 n1 o1 q1 s1 t1 u1 x1) c)/\NR (noteOf (ix p2.wAK f1))/\(0<=(ix p2.wAK f1).wC/\(ix p2.wAK f1).wC<((2^(wv.mk i1 k1 l1 m1 n1 o1 q1 s1 t1 u1 x1).wD.toNat:Nat):Int))/\((ix p2.wAK f1).wj.length:Int)=(wv.mk i1 k1 l1 m1 n1 o1 q1 s1 t1 u1 x1).wD/\Us (ix p2.wAK f1).wj)/\let r7:=(rwr (wv.mk i1 k1 l1 m1 n1 o1 q1 s1 t1 u1 x1) p1.wM (ix p2.wAK f1)).a
let r8:=(rwr (wv.mk i1 k1 l1 m1 n1 o1 q1 s1 t1 u1 x1) p1.wM (ix p2.wAK f1)).c
k1i R i1 k1 l1 m1 n1 o1 q1 s1 t1 u1 x1 2 0 0 r7.wBF r7.wAp r7.wAo r8.wBF r8.wAp r8.wAo)/\
(v6=false->
(x1.length<=1000000)/\let r9:=((fdU x1 ((ix p2.wAK f1).wC)).map usX).getD zeroX
let r10:Bool:=((fdU x1 ((ix p2.wAK f1).wC)).isSome)
(r10=true->
k1i R i1 k1 l1 m1 n1 o1 q1 s1 t1 u1 x1 2 0 0 ((ownQ r9).wBF) ((ownQ r9).wAp) ((ownQ r9).wAo) ((ownQ (ix p2.wAK f1)).wBF) ((ownQ (ix p2.wAK f1)).wAp) ((ownQ (ix p2.wAK f1)).wAo))/\
(r10=false->
lz ([]:List wAs)/\(([]:List wAs).length+x1.length)*96<=140737488355328/\([]:List wAs).length+x1.length<=maxLen/\let v11:List wAs:=[wAs.mk ((ix p2.wAK f1).wC) ((ix p2.wAK f1).wR) ((ix p2.wAK f1).we) ((ix p2.wAK f1).wY) ((ix p2.wAK f1).wz) ((ix p2.wAK f1).Key) ((ix p2.wAK f1).wAP) ((ix p2.wAK f1).wC) ((ix p2.wAK f1).wj) ((ix p2.wAK f1).wBQ)]
lz (([]:List wAs)++x1)/\lz v11/\((([]:List wAs)++x1).length+v11.length)*96<=140737488355328/\(([]:List wAs)++x1).length+v11.length<=maxLen/\lz ((([]:List wAs)++x1)++v11)/\I1 (i64.wrap (f1+1)) i1 k1 l1 m1 n1 o1 q1 s1 t1 u1 ((([]:List wAs)++x1)++v11)/\M1 (i64.wrap (f1+1)) i1 k1 l1 m1 n1 o1 q1 s1 t1 u1 ((([]:List wAs)++x1)++v11)<M1 f1 i1 k1 l1 m1 n1 o1 q1 s1 t1 u1 x1)))))/\
(decide (f1<(p2.wAK.length:Int))=false->
lz ([]:List wJ)/\(([]:List wJ).length+u1.length)*32<=140737488355328/\([]:List wJ).length+u1.length<=maxLen/\lz (([]:List wJ)++u1)/\((([]:List wJ)++u1).length+p2.wBO.length)*32<=140737488355328/\(([]:List wJ)++u1).length+p2.wBO.length<=maxLen/\lz ((([]:List wJ)++u1)++p2.wBO)/\k1i R i1 k1 l1 m1 n1 o1 q1 s1 t1 ((([]:List wJ)++u1)++p2.wBO) x1 0 0 0 0 ([]:Li) 0 0 ([]:Li) 0))))->J1 b1)->
((!p2.Is)=true->
J1 true)/\
((!p2.Is)=false->
((wAr.mk p0.wBN p0.wBC p0.wBB p0.wBE p0.wBD p0.wAt).wAz=false/\SR (stmtS p1 p0.wD)/\WR (wZ.mk p2.wAK p2.wBO p2.wBe))/\let r2:Int:=(checkS pkR (stmtS p1 p0.wD) (wZ.mk p2.wAK p2.wBO p2.wBe))
J1 (r2 !=0)))<|by
 rintro p0 p1 p2 h R hR;obtain⟨⟨c,hc,hb⟩,hr,ht,hw⟩:=h;have hd1:=hb.d1;have hd2:=hb.d2;have hnl:=hb.nl;have hul:=hb.ul;refine⟨⟨hr,ht,by omega,by omega⟩,?_⟩;intro J1 k1
 have hx:∀b:Bool,(b=true↔(p2.Is=false∨checkS pkR (stmtS p1 p0.wD) (knW p2)≠0))->J1 b:=by
  intro b hbb;unfold rexS at hR;refine k1 b ⟨fun e=> ?_,fun e=> ?_⟩
  ·rw[qf (hbb.1 e)]at hR;subst hR;exact(by repeat' first|apply qaa|exact rfl|exact ql)
  have hn:¬(p2.Is=false∨checkS pkR (stmtS p1 p0.wD) (knW p2)≠0):=fun hh=>by rw[hbb.2 hh]at e;cases e
  rw[qe hn]at hR
  have his:p2.Is=true:=by
   cases h:p2.Is with
   |true=>rfl
   |false=>exact(hn (.inl h)).elim
  have hck:checkS pkR (stmtS p1 p0.wD) (knW p2)=0:=qz fun hh=>hn (.inr hh);have hrel:=(k2h.1 hck).1;have hst:(stmtS p1 p0.wD).wD=p0.wD:=by unfold stmtS;rw[qf (check_V hck).2]
  obtain⟨r1,r2,r3,r4⟩:=rel_in hrel qqo (hw his);have hil:p2.wAK.length<=4:=r2;have hol:p2.wBO.length<=4:=r3;have hpos:∀x∈p2.wAK,x.wC<((2^p0.wD.toNat:Nat):Int)/\(x.wj.length:Int)=p0.wD:=fun x hx=>by have hi:=qbj.1 (k36.1 hrel).2.2.2.2.2.2.2.2.2.2.2.2.2.2.1 x hx;unfold inV at hi;simp only[qg,qai,hst]at hi;exact⟨by have:=hi.2;push_cast;omega,by have:=hi.1.2;omega⟩
  have hR:(if(rInp p0 p1.wM p2.wAK p0.wAJ).f.wAW≠0 then(⟨setU p0 (rInp p0 p1.wM p2.wAK p0.wAJ).u,(rInp p0 p1.wM p2.wAK p0.wAJ).f⟩:AuF)else⟨{p0 with wl:=p0.wl++p2.wBO,wAJ:=(rInp p0 p1.wM p2.wAK p0.wAJ).u},zeroF⟩)=R:=hR;generalize hG:rInp p0 p1.wM p2.wAK p0.wAJ=G at hR;refine⟨(fun a z1 z2 z3 z4 z5 z6 z7 z8 z9 z10 x=>∃i:Nat,a=(i:Int)/\(p0.wBN=z1/\p0.wBC=z2/\p0.wBB=z3/\p0.wBE=z4/\p0.wBD=z5/\p0.wAt=z6/\p0.wD=z7/\p0.wg=z8/\p0.wAu=z9/\p0.wl=z10)/\i<=p2.wAK.length/\x.length<=p0.wAJ.length+i/\rInp p0 p1.wM (p2.wAK.drop i) x=G),(fun a _ _ _ _ _ _ _ _ _ _ _=>(p2.wAK.length-a).toNat),⟨0,rfl,⟨rfl,rfl,rfl,rfl,rfl,rfl,rfl,rfl,rfl,rfl⟩,by omega,by omega,hG⟩,?_⟩;rintro _ _ _ _ _ _ _ _ _ _ _ u ⟨i,rfl,⟨rfl,rfl,rfl,rfl,rfl,rfl,rfl,rfl,rfl,rfl⟩,hi,hu,hg⟩;have hB:∃c:Nat,c<=1000/\BOk (wv.mk p0.wBN p0.wBC p0.wBB p0.wBE p0.wBD p0.wAt p0.wD p0.wg p0.wAu p0.wl u) c:=⟨c+1,by omega,hb.i,hb.d1,hb.d2,hb.rl,hb.rz,hb.z,by show p0.wl.length<=_;omega,hb.nr,by show u.length<=_;omega⟩;refine⟨fun e=> ?_,fun e=> ?_⟩
  ·have e:i<p2.wAK.length:=by have:=qb e;omega
   have hm:=qah e;obtain⟨sx,px⟩:=r1 _ hm;obtain⟨y1,y2⟩:=hpos _ hm;rw[qo e]at hg;unfold rInp at hg;rw[ix_get _ _ e,inc_i64 _ qqo];generalize p2.wAK[i]=x at *
   refine⟨by omega,by omega,fun e2=> ?_,fun e2=> ?_⟩
   ·rw[qf e2]at hg;exact⟨⟨i+1,rfl,⟨rfl,rfl,rfl,rfl,rfl,rfl,rfl,rfl,rfl,rfl⟩,by omega,by omega,hg⟩,by(dsimp only;omega)⟩
   rw[qe (by rw[e2];decide)]at hg;have hP:(∃c:Nat,c<=1000/\BOk (wv.mk p0.wBN p0.wBC p0.wBB p0.wBE p0.wBD p0.wAt p0.wD p0.wg p0.wAu p0.wl u) c)/\NR (noteOf x)/\(0<=x.wC/\x.wC<((2^p0.wD.toNat:Nat):Int))/\(x.wj.length:Int)=p0.wD/\Us x.wj:=⟨hB,sx.n,⟨sx.p0,y1⟩,y2,sx.pu⟩;have hbad:(⟨u,rWr p0 p1.wM x⟩:AuI)=G->R=⟨setU p0 u,rWr p0 p1.wM x⟩:=fun hh=>by rw[<-hR,<-hh,qf (by show(2:Int)≠0;decide)]
   refine⟨fun e3=> ?_,fun e3=>⟨sx.p0,by have:=qc e3;omega,fun e4=> ?_,fun e4=> ?_⟩⟩
   ·rw[qf (.inl (qb e3))]at hg;rw[hbad hg];exact⟨hP,(by repeat' first|apply qaa|exact rfl|exact ql)⟩
   ·rw[qf (.inr ((note_ne _ _).1 e4))]at hg;rw[hbad hg];exact⟨hP,(by repeat' first|apply qaa|exact rfl|exact ql)⟩
   ·rw[qe (fun hh=>hh.elim (fun h2=>by have:=qc e3;exact this h2) (fun h2=>by rw[(note_ne _ _).2 h2]at e4;cases e4))]at hg;refine⟨by omega,?_⟩;cases hf:fdU u x.wC with
    |some y=>
     rw[hf]at hg;have hg:(⟨u,colF (ownQ (usX y)) (ownQ x)⟩:AuI)=G:=hg;have hR2:R=⟨setU p0 u,colF (ownQ (usX y)) (ownQ x)⟩:=by rw[<-hR,<-hg,qf (by show(2:Int)≠0;decide)]
     refine⟨fun _=> ?_,fun h=>by cases h⟩;rw[hR2];exact(by repeat' first|apply qaa|exact rfl|exact ql)
    |none=>
     rw[hf]at hg;have hg:rInp p0 p1.wM (p2.wAK.drop (i+1)) (u++[useOf x])=G:=hg;refine⟨fun h=>(by cases h),fun _=> ?_⟩;refine⟨rfl,?_,?_,by trivial,by trivial,?_,?_,by trivial,⟨i+1,rfl,⟨rfl,rfl,rfl,rfl,rfl,rfl,rfl,rfl,rfl,rfl⟩,by omega,?_,hg⟩,by(dsimp only;omega)⟩
     all_goals simp only[qh,qj,qt,maxLen]
     all_goals omega
  ·have e:i=p2.wAK.length:=by have:=qc e;omega
   subst e;rw[qbs]at hg;have hg:(⟨u,zeroF⟩:AuI)=G:=hg;have hR2:R=⟨{p0 with wl:=p0.wl++p2.wBO,wAJ:=u},zeroF⟩:=by rw[<-hR,<-hg,qe (by show¬(0:Int)≠0;decide)]
   rw[hR2];refine⟨rfl,?_,?_,by trivial,?_,?_,by trivial,(by repeat' first|apply qaa|exact rfl|exact ql)⟩
   all_goals simp only[qh,qj,qt,maxLen]
   all_goals omega
 refine⟨fun e=>hx true ⟨fun _=> .inl (by simpa using e),fun _=>rfl⟩,fun e=> ?_⟩;have his:p2.Is=true:=by simpa using e
 refine⟨⟨hb.i,stmt_SR hr qqo,hw his⟩,hx _ ?_⟩;have hkw:knW p2=wZ.mk p2.wAK p2.wBO p2.wBe:=rfl;rw[hkw,his];simp
noncomputable def kmy:Ct:= .gp 44 [.st 26] [yqi,yqi,yqu] [] fun(p0:wv)=>(p0.wl.length<=1000000/\p0.wAJ.length<=1000000,(p0.wl.length:Int),(p0.wAJ.length:Int),(sumV p0.wl p0.wAJ:Int),())
theorem kno:kmy.O:=qrv Bs Tryz.func44 (.r 1 (.nd [] (.r 0 (.lp [] ⟨[],[],[5,6],[.one (zqu),.one (zqi)],[]⟩ .no)) [] (.nd [] (.r 0 (.lp [] ⟨[],[],[5,7],[.one (zqu),.one (zqi)],[]⟩ .no)) [] .no))) c0 (Q:=∀(p0:wv),(p0.wl.length<=1000000/\p0.wAJ.length<=1000000)->∀r0:Int,(p0.wl.length:Int)=r0->∀r1:Int,(p0.wAJ.length:Int)=r1->∀r2:Int,sumV p0.wl p0.wAJ=r2-> 
∃(I1:Int->Int->Prop) (M1:Int->Int->Nat),I1 0 0/\∀b1 f1,(I1 b1 f1->
(decide (f1<(p0.wl.length:Int))=true->
(0<=f1)/\f1<(p0.wl.length:Int)/\let v3:Int:=u64.wrap (b1+((ix p0.wl f1).Value))
I1 v3 (i64.wrap (f1+1))/\M1 v3 (i64.wrap (f1+1))<M1 b1 f1)/\
(decide (f1<(p0.wl.length:Int))=false->
∃(I2:Int->Int->Prop) (M2:Int->Int->Nat),I2 b1 0/\∀i1 k1,(I2 i1 k1->
(decide (k1<(p0.wAJ.length:Int))=true->
(0<=k1)/\k1<(p0.wAJ.length:Int)/\let v4:Int:=u64.wrap (i1-((ix p0.wAJ k1).wBX))
I2 v4 (i64.wrap (k1+1))/\M2 v4 (i64.wrap (k1+1))<M2 i1 k1)/\
(decide (k1<(p0.wAJ.length:Int))=false->
(p0.wl.length:Int)=r0/\(p0.wAJ.length:Int)=r1/\i1=r2)))))<|by
 rintro p0 h _ rfl _ rfl _ rfl;obtain⟨h1,h2⟩:=h;refine⟨(fun v a=>∃i:Nat,a=(i:Int)/\i<=p0.wl.length/\v=(p0.wl.take i).foldl (fun s y=>u64.wrap (s+y.Value)) 0),(fun _ a=>(p0.wl.length-a).toNat),⟨0,rfl,by omega,rfl⟩,?_⟩;rintro _ _ ⟨i,rfl,hi,rfl⟩;refine⟨fun e=> ?_,fun e=> ?_⟩
 ·have e:i<p0.wl.length:=by have:=qb e;omega
  rw[ix_get _ _ e,inc_i64 _ qqo];refine⟨by omega,by omega,⟨i+1,rfl,by omega,?_⟩,by(dsimp only;omega)⟩;rw[qr e,List.foldl_append];rfl
 ·have e:i=p0.wl.length:=by have:=qc e;omega
  subst e;rw[qbd];refine⟨(fun v a=>∃j:Nat,a=(j:Int)/\j<=p0.wAJ.length/\v=(p0.wAJ.take j).foldl (fun s y=>u64.wrap (s-y.wBX)) (p0.wl.foldl (fun s y=>u64.wrap (s+y.Value)) 0)),(fun _ a=>(p0.wAJ.length-a).toNat),⟨0,rfl,by omega,rfl⟩,?_⟩;rintro _ _ ⟨j,rfl,hj,rfl⟩;refine⟨fun e=> ?_,fun e=> ?_⟩
  ·have e:j<p0.wAJ.length:=by have:=qb e;omega
   rw[ix_get _ _ e,inc_i64 _ qqo];refine⟨by omega,by omega,⟨j+1,rfl,by omega,?_⟩,by(dsimp only;omega)⟩;rw[qr e,List.foldl_append];rfl
  ·have e:j=p0.wAJ.length:=by have:=qc e;omega
   subst e;rw[qbd];exact⟨rfl,rfl,rfl⟩
noncomputable def kjt:Ct:= .bp 23 [.st 23,.st 0,.sl (.st 3),.sl (.st 22)] [.st 19,yqi] fun(p0:wAr) (p1:wP) (p2:List wU) (p3:List wBG)=>(p3=wtL p2/\BLk p2/\rulesE p1=0/\0<=p1.wd/\p1.wD<=6/\p0.wAz=false,rbkS p0 p1 p2,fun R=>(R.o,R.e,()))
abbrev kbb (R:AuR) (o0 o1 o2 o3 o4 o5 o6 o7 o8:Int) (o9:Li) (o10 o11:Int) (o12:Li) (o13 o14:Int):Prop:=o0=R.o.wBR/\o1=R.o.wBS/\o2=R.o.wAE/\o3=R.o.wAx/\o4=R.o.wAU/\o5=R.o.wT/\o6=R.o.wAR/\o7=R.o.wAq/\o8=R.o.wAL/\o9=R.o.wAD/\o10=R.o.wAH/\o11=R.o.wAM/\o12=R.o.wAC/\o13=R.o.wAI/\o14=R.e
abbrev Fz16 (r:Type):=Int->Int->Int->Int->Int->Int->Int->Int->Int->Int->Int->(Li)->Int->Int->(Li)->Int->Bool->Int->Int->(List wG)->(List wAj)->(List wAj)->Int->(Li)->(Li)->(List wJ)->(List wAs)->Int->Int->Int->Int->Int->Int->Int->Int->Int->Int->(Li)->(Li)->(List wB)->Int->(Li)->r
abbrev Fz17 (r:Type):=Int->Int->Int->Int->Int->Int->Int->Int->Int->Int->Int->(Li)->Int->Int->(Li)->Int->Bool->Int->Int->(List wG)->(List wAj)->(List wAj)->Int->(Li)->(Li)->(List wJ)->(List wAs)->r
abbrev Fz18 (r:Type):=Int->Int->Int->Int->Int->Int->Int->Int->Int->Int->(Li)->Int->Int->(Li)->Int->r
theorem knw:kjt.O:=qbx Bs [27,115,118,122,123] Tryz.func23 (.r 5 (.nd [] (.r 0 (.lp [.frzc 4 5 8] ⟨[6,5,3],[.cells yZ,.cells yJ,.cells [zqi,zqi,zqi,zqi,zqi,zqu,zqi,zqi,zqu,zqi,zql,zql,.d (.sl (.st 9)),zqu,zql]],[13,14,15],[.one (zqi),.one (.any),.one (zqi)],[]⟩ (.r 0 (.nd [] (.r 2 (.nd [] (.r 0 (.lp [] ⟨[6,5],[.cells yZ,.cells yJ],[13,16],[.one (zqi),.one (zqi)],[]⟩ (.r 0 (.nd [] (.r 1 (.jn ⟨[5,6],[.cells yJ,.cells yZ],[],[],[472]⟩ [] .no [] .no)) [] .no)))) [] .no)) [.frzi 5 8] .no)))) [] (.nd [] (.r 0 (.lp [] ⟨[6],[.cells yZ],[19],[.one (zqi)],[]⟩ .no)) [] .no))) x0 (kp7.c (klv.c (kg6.c (kfb.c (kno.c c0))))) (Q:=∀(p0:wAr) (p1:wP) (p2:List wU) (p3:List wBG),(p3=wtL p2/\BLk p2/\rulesE p1=0/\0<=p1.wd/\p1.wD<=6/\p0.wAz=false)->∀R,rbkS p0 p1 p2=R-> 
(rulesE p1=0)/\lz [0]/\∃(I1:Fz16 Prop) (M1:Fz16 Nat),I1 0 0 0 0 0 0 0 0 0 0 0 ([]:Li) 0 0 ([]:Li) 0 p0.wAz p0.wBl p0.wBo p0.wBk p0.wBn p0.wBh p1.wD ((mOf (newS p1)).wg) [0] ([]:List wJ) ([]:List wAs) ((mOf (newS p1)).wAT) ((mOf (newS p1)).wn) ((mOf (newS p1)).wa) ((mOf (newS p1)).wX) ((mOf (newS p1)).wW) ((mOf (newS p1)).wo) ((mOf (newS p1)).wV) ((mOf (newS p1)).wx) ((mOf (newS p1)).wAS) ((mOf (newS p1)).wO) ((mOf (newS p1)).wAO) ((mOf (newS p1)).wE) ((mOf (newS p1)).wF) ((mOf (newS p1)).wAE) ((mOf (newS p1)).wg)/\∀b1 f1 i1 k1 l1 m1 n1 o1 q1 s1 t1 u1 x1 y1 b2 f2 i2 k2 l2 m2 n2 o2 q2 s2 t2 u2 x2 y2 b3 f3 i3 k3 l3 m3 n3 o3 q3 s3 t3 u3 x3 y3,(I1 b1 f1 i1 k1 l1 m1 n1 o1 q1 s1 t1 u1 x1 y1 b2 f2 i2 k2 l2 m2 n2 o2 q2 s2 t2 u2 x2 y2 b3 f3 i3 k3 l3 m3 n3 o3 q3 s3 t3 u3 x3 y3->
(decide (f1<(p2.length:Int))=true->
(0<=f1)/\f1<(p2.length:Int)/\((∃(s:PS) (c:Nat),(wAZ.mk y2 b3 f3 i3 k3 l3 m3 n3 o3 q3 s3 t3 u3 x3 y3)=mOf s/\c+(ix p2 f1).Txs.length<=790/\PI s c 0)/\BR' (ix p2 f1))/\let r2:=(rapply (wAZ.mk y2 b3 f3 i3 k3 l3 m3 n3 o3 q3 s3 t3 u3 x3 y3) (ix p2 f1)).m
let r3:Int:=((rapply (wAZ.mk y2 b3 f3 i3 k3 l3 m3 n3 o3 q3 s3 t3 u3 x3 y3) (ix p2 f1)).e)
((r3 !=0)=true->
kbb R 0 0 0 0 0 0 0 0 0 ([]:Li) 0 0 ([]:Li) 0 r3)/\
((r3 !=0)=false->
∃(I2:Fz17 Prop) (M2:Fz17 Nat),I2 b1 0 (u64.wrap (i1+p1.wd)) k1 l1 m1 n1 o1 q1 s1 t1 u1 x1 y1 b2 f2 i2 k2 l2 m2 n2 o2 q2 s2 t2 u2 x2/\∀b4 f4 i4 k4 l4 m4 n4 o4 q4 s4 t4 u4 x4 y4 b5 f5 i5 k5 l5 m5 n5 o5 q5 s5 t5 u5 x5,(I2 b4 f4 i4 k4 l4 m4 n4 o4 q4 s4 t4 u4 x4 y4 b5 f5 i5 k5 l5 m5 n5 o5 q5 s5 t5 u5 x5->
(0<=f1)/\f1<(p2.length:Int)/\let v4:Bool:=decide (f4<(((ix p2 f1).Txs).length:Int))
(v4=true->
((o4==0)=true->
(0<=f1)/\f1<(p2.length:Int)/\(0<=f4)/\f4<(((ix p2 f1).Txs).length:Int)/\(0<=b4)/\b4<(p3.length:Int)/\((∃c:Nat,c<=999/\BOk (wv.mk i5 k5 l5 m5 n5 o5 q5 s5 t5 u5 x5) c)/\TR (ix ((ix p2 f1).Txs) f4)/\TL (ix ((ix p2 f1).Txs) f4)/\((ix p3 b4).Is=true->WR (knW (ix p3 b4))))/\let r5:=(rexS (wv.mk i5 k5 l5 m5 n5 o5 q5 s5 t5 u5 x5) (ix ((ix p2 f1).Txs) f4) (knW (ix p3 b4)) (ix p3 b4).Is).b
let r6:=(rexS (wv.mk i5 k5 l5 m5 n5 o5 q5 s5 t5 u5 x5) (ix ((ix p2 f1).Txs) f4) (knW (ix p3 b4)) (ix p3 b4).Is).f
∀J1:Bool->Int->Int->(List wG)->(List wAj)->(List wAj)->Int->(Li)->(Li)->(List wJ)->(List wAs)->Int->Int->Int->Int->Int->Int->Int->Int->Int->(Li)->Int->Int->(Li)->Int->Prop,(∀(y5:Bool) (b6 f6:Int) (i6:List wG) (k6 l6:List wAj) (m6:Int) (n6 o6:Li) (q6:List wJ) (s6:List wAs) (t6 u6 x6 y6 b7 f7 i7 k7 l7:Int) (m7:Li) (n7 o7:Int) (q7:Li) (s7:Int),
(((wv.mk y5 b6 f6 i6 k6 l6 m6 n6 o6 q6 s6).wl.length<=1000000/\(wv.mk y5 b6 f6 i6 k6 l6 m6 n6 o6 q6 s6).wAJ.length<=1000000)/\let r8:Int:=((wv.mk y5 b6 f6 i6 k6 l6 m6 n6 o6 q6 s6).wl.length:Int)
let r9:Int:=((wv.mk y5 b6 f6 i6 k6 l6 m6 n6 o6 q6 s6).wAJ.length:Int)
let r10:Int:=(sumV (wv.mk y5 b6 f6 i6 k6 l6 m6 n6 o6 q6 s6).wl (wv.mk y5 b6 f6 i6 k6 l6 m6 n6 o6 q6 s6).wAJ)
I2 (i64.wrap (b4+1)) (i64.wrap (f4+1)) t6 u6 r10 r8 r9 f7 i7 k7 l7 m7 n7 o7 q7 s7 y5 b6 f6 i6 k6 l6 m6 n6 o6 q6 s6/\M2 (i64.wrap (b4+1)) (i64.wrap (f4+1)) t6 u6 r10 r8 r9 f7 i7 k7 l7 m7 n7 o7 q7 s7 y5 b6 f6 i6 k6 l6 m6 n6 o6 q6 s6<M2 b4 f4 i4 k4 l4 m4 n4 o4 q4 s4 t4 u4 x4 y4 b5 f5 i5 k5 l5 m5 n5 o5 q5 s5 t5 u5 x5)->J1 y5 b6 f6 i6 k6 l6 m6 n6 o6 q6 s6 t6 u6 x6 y6 b7 f7 i7 k7 l7 m7 n7 o7 q7 s7)->
(decide (0<r6.wAW)=true->
(0<=(wK.mk i4 k4 l4 m4 n4 r6.wAW (i64.wrap (f1+1)) f4 r6.wBH r6.wBJ r6.wAw r6.wBK r6.wBI r6.wAv).wAU/\(wK.mk i4 k4 l4 m4 n4 r6.wAW (i64.wrap (f1+1)) f4 r6.wBH r6.wBJ r6.wAw r6.wBK r6.wBI r6.wAv).wAU<=(r5.wAJ.length:Int))/\let r7:=setU r5 (r5.wAJ.take (wK.mk i4 k4 l4 m4 n4 r6.wAW (i64.wrap (f1+1)) f4 r6.wBH r6.wBJ r6.wAw r6.wBK r6.wBI r6.wAv).wAU.toNat)
J1 r7.wBN r7.wBC r7.wBB r7.wBE r7.wBD r7.wAt r7.wD r7.wg r7.wAu r7.wl r7.wAJ i4 k4 l4 m4 n4 r6.wAW (i64.wrap (f1+1)) f4 r6.wBH r6.wBJ r6.wAw r6.wBK r6.wBI r6.wAv)/\
(decide (0<r6.wAW)=false->
J1 r5.wBN r5.wBC r5.wBB r5.wBE r5.wBD r5.wAt r5.wD r5.wg r5.wAu r5.wl r5.wAJ i4 k4 l4 m4 n4 o4 q4 s4 t4 u4 x4 y4 b5 f5))/\
((o4==0)=false->
lz ([]:Li)/\(([]:Li).length+t5.length)*8<=140737488355328/\([]:Li).length+t5.length<=maxLen/\lz (([]:Li)++t5)/\lz [(r2.wAO.length:Int)]/\((([]:Li)++t5).length+[(r2.wAO.length:Int)].length)*8<=140737488355328/\(([]:Li)++t5).length+[(r2.wAO.length:Int)].length<=maxLen/\let v11:Li:=(([]:Li)++t5)++[(r2.wAO.length:Int)]
lz v11/\I1 b4 (i64.wrap (f1+1)) i4 k4 l4 m4 n4 o4 q4 s4 t4 u4 x4 y4 b5 f5 i5 k5 l5 m5 n5 o5 q5 r2.wg v11 u5 x5 r2.wAT r2.wn r2.wa r2.wX r2.wW r2.wo r2.wV r2.wx r2.wAS r2.wO r2.wAO r2.wE r2.wF r2.wAE r2.wg/\M1 b4 (i64.wrap (f1+1)) i4 k4 l4 m4 n4 o4 q4 s4 t4 u4 x4 y4 b5 f5 i5 k5 l5 m5 n5 o5 q5 r2.wg v11 u5 x5 r2.wAT r2.wn r2.wa r2.wX r2.wW r2.wo r2.wV r2.wx r2.wAS r2.wO r2.wAO r2.wE r2.wF r2.wAE r2.wg<M1 b1 f1 i1 k1 l1 m1 n1 o1 q1 s1 t1 u1 x1 y1 b2 f2 i2 k2 l2 m2 n2 o2 q2 s2 t2 u2 x2 y2 b3 f3 i3 k3 l3 m3 n3 o3 q3 s3 t3 u3 x3 y3))/\
(v4=false->
lz ([]:Li)/\(([]:Li).length+t5.length)*8<=140737488355328/\([]:Li).length+t5.length<=maxLen/\lz (([]:Li)++t5)/\lz [(r2.wAO.length:Int)]/\((([]:Li)++t5).length+[(r2.wAO.length:Int)].length)*8<=140737488355328/\(([]:Li)++t5).length+[(r2.wAO.length:Int)].length<=maxLen/\let v12:Li:=(([]:Li)++t5)++[(r2.wAO.length:Int)]
lz v12/\I1 b4 (i64.wrap (f1+1)) i4 k4 l4 m4 n4 o4 q4 s4 t4 u4 x4 y4 b5 f5 i5 k5 l5 m5 n5 o5 q5 r2.wg v12 u5 x5 r2.wAT r2.wn r2.wa r2.wX r2.wW r2.wo r2.wV r2.wx r2.wAS r2.wO r2.wAO r2.wE r2.wF r2.wAE r2.wg/\M1 b4 (i64.wrap (f1+1)) i4 k4 l4 m4 n4 o4 q4 s4 t4 u4 x4 y4 b5 f5 i5 k5 l5 m5 n5 o5 q5 r2.wg v12 u5 x5 r2.wAT r2.wn r2.wa r2.wX r2.wW r2.wo r2.wV r2.wx r2.wAS r2.wO r2.wAO r2.wE r2.wF r2.wAE r2.wg<M1 b1 f1 i1 k1 l1 m1 n1 o1 q1 s1 t1 u1 x1 y1 b2 f2 i2 k2 l2 m2 n2 o2 q2 s2 t2 u2 x2 y2 b3 f3 i3 k3 l3 m3 n3 o3 q3 s3 t3 u3 x3 y3))))/\
(decide (f1<(p2.length:Int))=false->
∃(I3:Fz18 Prop) (M3:Fz18 Nat),I3 0 i1 k1 l1 m1 n1 o1 q1 s1 t1 u1 x1 y1 b2 f2/\∀t7 u7 x7 y7 b8 f8 i8 k8 l8 m8 n8 o8 q8 s8 t8,(I3 t7 u7 x7 y7 b8 f8 i8 k8 l8 m8 n8 o8 q8 s8 t8->
(decide (t7<(u3.length:Int))=true->
(0<=t7)/\t7<(u3.length:Int)/\let v13:Int:=u64.wrap (x7+((ix u3 t7).wb))
I3 (i64.wrap (t7+1)) u7 v13 y7 b8 f8 i8 k8 l8 m8 n8 o8 q8 s8 t8/\M3 (i64.wrap (t7+1)) u7 v13 y7 b8 f8 i8 k8 l8 m8 n8 o8 q8 s8 t8<M3 t7 u7 x7 y7 b8 f8 i8 k8 l8 m8 n8 o8 q8 s8 t8)/\
(decide (t7<(u3.length:Int))=false->
kbb R u7 x7 y7 b8 f8 i8 k8 l8 m8 n8 o8 q8 s8 t8 0)))))<|by
 rintro p0 p1 p2 p3 h R hR;obtain⟨rfl,hl,hr,hw,h6,hI⟩:=h;have hln:=hl.len;unfold rbkS at hR;have hst:=RI.start (p2:=p2) hr hw h6 hI;generalize rbkA p0 p1 p2=G at hR hst;refine⟨hr,rfl,(fun n a i1 k1 l1 m1 n1 o1 q1 s1 t1 u1 x1 y1 b2 f2 i2 k2 l2 m2 n2 o2 q2 s2 t2 u2 x2 y2 b3 f3 i3 k3 l3 m3 n3 o3 q3 s3 t3 u3 x3 y3=>∃(i:Nat) (s:PS),a=(i:Int)/\RI p1 p2 G n (wK.mk i1 k1 l1 m1 n1 o1 q1 s1 t1 u1 x1 y1 b2 f2) (wv.mk i2 k2 l2 m2 n2 o2 q2 s2 t2 u2 x2) (wAZ.mk y2 b3 f3 i3 k3 l3 m3 n3 o3 q3 s3 t3 u3 x3 y3) i s),(fun _ a _ _ _ _ _ _ _ _ _ _ _ _ _ _ _ _ _ _ _ _ _ _ _ _ _ _ _ _ _ _ _ _ _ _ _ _ _ _ _ _=>(p2.length-a).toNat),⟨0,newS p1,rfl,hst⟩,?_⟩;rintro n _ i1 k1 l1 m1 n1 o1 q1 s1 t1 u1 x1 y1 b2 f2 i2 k2 l2 m2 n2 o2 q2 s2 t2 u2 x2 y2 b3 f3 i3 k3 l3 m3 n3 o3 q3 s3 t3 u3 x3 y3 ⟨i,s,rfl,hi⟩;have hm:=hi.me;refine⟨fun e=> ?_,fun e=> ?_⟩
 ·have e:i<p2.length:=by have:=qb e;omega
  have hb:=qah e;have hb1:=hl.r _ hb;have h4:=hl.tl _ hb;rw[ix_get _ _ e,inc_i64 _ qqo];refine⟨by omega,by omega,⟨⟨s,5*i,hm,by omega,hi.P⟩,hb1⟩,?_⟩;generalize wAZ.mk y2 b3 f3 i3 k3 l3 m3 n3 o3 q3 s3 t3 u3 x3 y3=m at *
  refine⟨fun e2=> ?_,fun e2=> ?_⟩
  ·have e2:(rapply m p2[i]).e≠0:=by simpa using e2
   have hG:=hi.err e e2;rw[hG,qf e2]at hR;subst hR;exact(by repeat' first|apply qaa|exact rfl|exact ql)
  have e2:(rapply m p2[i]).e=0:=by simpa using e2
  have hj0:=hi.inner e p1.wd;have hnx:=fun n' o' b' k=>RI.next (n' :=n') (o' :=o') (b' :=b') (k:=k) hi hl e e2;generalize hG2:rtxs ((i:Int)+1) 0 p2[i].Txs ⟨wv.mk i2 k2 l2 m2 n2 o2 q2 s2 t2 u2 x2,minR (wK.mk i1 k1 l1 m1 n1 o1 q1 s1 t1 u1 x1 y1 b2 f2) p1.wd⟩=G2 at hj0 hnx;refine⟨(fun n' a i4 k4 l4 m4 n4 o4 q4 s4 t4 u4 x4 y4 b5 f5 i5 k5 l5 m5 n5 o5 q5 s5 t5 u5 x5=>∃k:Nat,a=(k:Int)/\RJ p1.wD ((i:Int)+1) p2[i].Txs (wtL (p2.take i)).length (4*i) s.l.length (i+1) G2 n' (wK.mk i4 k4 l4 m4 n4 o4 q4 s4 t4 u4 x4 y4 b5 f5) (wv.mk i5 k5 l5 m5 n5 o5 q5 s5 t5 u5 x5) k),(fun _ a _ _ _ _ _ _ _ _ _ _ _ _ _ _ _ _ _ _ _ _ _ _ _ _ _=>(p2[i].Txs.length-a).toNat),⟨0,rfl,hj0⟩,?_⟩;rintro n' _ i4 k4 l4 m4 n4 o4 q4 s4 t4 u4 x4 y4 b5 f5 i5 k5 l5 m5 n5 o5 q5 s5 t5 u5 x5 ⟨k,rfl,hj⟩;have hsz:=hj.sz;have hsz:t5.length=i+1:=hsz;have out:(o4≠0∨k=p2[i].Txs.length)->RI p1 p2 G n' (wK.mk i4 k4 l4 m4 n4 o4 q4 s4 t4 u4 x4 y4 b5 f5) (endB (wv.mk i5 k5 l5 m5 n5 o5 q5 s5 t5 u5 x5) (rapply m p2[i]).m.wg ((rapply m p2[i]).m.wAO.length:Int)) (rapply m p2[i]).m (i+1) (applyS s p2[i]).s:=fun hh=>hnx _ _ _ _ hj hh;refine⟨by omega,by omega,fun e3=>⟨fun e4=> ?_,fun e4=> ?_⟩,fun e3=> ?_⟩
  ·have e3:k<p2[i].Txs.length:=by have:=qb e3;omega
   have e4:o4=0:=by simpa using e4
   obtain⟨w1,w2⟩:=wtL_ix e e3;obtain⟨j1,j2,j3⟩:=hj.k e4;have hs:=hj.step e3 e4;have hsp:=j1.sp;have hsp:n4=(x5.length:Int):=hsp;have hT:=qah e3;have hbn:=j1.b.nl;have hbu:=j1.b.ul;have hbn:u5.length<=_:=hbn;have hbu:x5.length<=_:=hbu;have hkp:=khh (wv.mk i5 k5 l5 m5 n5 o5 q5 s5 t5 u5 x5) p2[i].Txs[k];obtain⟨v1,v2,v3,v4⟩:=hkp;have hwl:=wtL_len (p2.take i) fun b hb=>hl.tl b (qbk hb);rw[qu]at hwl;have v2:x5.length<=(rexT (wv.mk i5 k5 l5 m5 n5 o5 q5 s5 t5 u5 x5) p2[i].Txs[k]).b.wAJ.length:=v2;have v3:(rexT (wv.mk i5 k5 l5 m5 n5 o5 q5 s5 t5 u5 x5) p2[i].Txs[k]).b.wAJ.length<=x5.length+4:=v3;have v4:(rexT (wv.mk i5 k5 l5 m5 n5 o5 q5 s5 t5 u5 x5) p2[i].Txs[k]).b.wl.length<=u5.length+4:=v4;rw[j3,w2,ix_get _ _ e3];refine⟨by omega,by omega,by omega,by omega,by omega,by omega,⟨⟨4*i+k,by omega,j1.b⟩,hb1.t _ hT,hb1.l _ hT,fun hh=>decW_WR hh⟩,?_⟩;intro _ _ J1 k1
   have step:∀(B:wv) (O:wK),rstep ((i:Int)+1) (k:Int) p2[i].Txs[k] ⟨wv.mk i5 k5 l5 m5 n5 o5 q5 s5 t5 u5 x5,wK.mk i4 k4 l4 m4 n4 o4 q4 s4 t4 u4 x4 y4 b5 f5⟩=rsm B O->B.wl.length<=1000000->B.wAJ.length<=1000000->J1 B.wBN B.wBC B.wBB B.wBE B.wBD B.wAt B.wD B.wg B.wAu B.wl B.wAJ O.wBR O.wBS O.wAE O.wAx O.wAU O.wT O.wAR O.wAq O.wAL O.wAD O.wAH O.wAM O.wAC O.wAI:=by
    intro B O h1 h2 h3;rw[h1]at hs;refine k1 _ _ _ _ _ _ _ _ _ _ _ _ _ _ _ _ _ _ _ _ _ _ _ _ _ ⟨⟨h2,h3⟩,⟨k+1,inc_i64 k qqo,?_⟩,?_⟩
    ·rw[<-j3,wi (n' +1) qqo qqo];exact hs
    ·rw[inc_i64 k qqo];dsimp only;omega
   refine⟨fun e5=>⟨⟨by show 0<=n4;omega,by show n4<=((rexT (wv.mk i5 k5 l5 m5 n5 o5 q5 s5 t5 u5 x5) p2[i].Txs[k]).b.wAJ.length:Int);omega⟩,?_⟩,fun e5=> ?_⟩
   ·have e5:0<(rexT (wv.mk i5 k5 l5 m5 n5 o5 q5 s5 t5 u5 x5) p2[i].Txs[k]).f.wAW:=qb e5;refine step (setU (rexT (wv.mk i5 k5 l5 m5 n5 o5 q5 s5 t5 u5 x5) p2[i].Txs[k]).b ((rexT (wv.mk i5 k5 l5 m5 n5 o5 q5 s5 t5 u5 x5) p2[i].Txs[k]).b.wAJ.take n4.toNat)) (fltR (wK.mk i4 k4 l4 m4 n4 o4 q4 s4 t4 u4 x4 y4 b5 f5) (rexT (wv.mk i5 k5 l5 m5 n5 o5 q5 s5 t5 u5 x5) p2[i].Txs[k]).f ((i:Int)+1) (k:Int)) (qf e5) ?_ ?_
    ·show(rexT (wv.mk i5 k5 l5 m5 n5 o5 q5 s5 t5 u5 x5) p2[i].Txs[k]).b.wl.length<=_;omega
    ·show((rexT (wv.mk i5 k5 l5 m5 n5 o5 q5 s5 t5 u5 x5) p2[i].Txs[k]).b.wAJ.take n4.toNat).length<=_;rw[qu];omega
   ·have e5:¬0<(rexT (wv.mk i5 k5 l5 m5 n5 o5 q5 s5 t5 u5 x5) p2[i].Txs[k]).f.wAW:=qc e5;exact step (rexT (wv.mk i5 k5 l5 m5 n5 o5 q5 s5 t5 u5 x5) p2[i].Txs[k]).b (wK.mk i4 k4 l4 m4 n4 o4 q4 s4 t4 u4 x4 y4 b5 f5) (qe e5) qqo qqo
  ·have e4:o4≠0:=by simpa using e4
   refine⟨rfl,?_,?_,by trivial,rfl,?_,?_,by trivial,⟨i+1,(applyS s p2[i]).s,rfl,out (.inl e4)⟩,by(dsimp only;omega)⟩
   all_goals simp only[qh,qj,qt,maxLen]
   all_goals omega
  ·have e3:¬k<p2[i].Txs.length:=by have:=qc e3;omega
   have hle:=hj.le;refine⟨rfl,?_,?_,by trivial,rfl,?_,?_,by trivial,⟨i+1,(applyS s p2[i]).s,rfl,out (.inr qqo)⟩,by(dsimp only;omega)⟩
   all_goals simp only[qh,qj,qt,maxLen]
   all_goals omega
 ·have e:i=p2.length:=by have:=qc e;have:=hi.le;omega
  have hg:=hi.g;rw[e,qbs]at hg;have hg:(⟨⟨wv.mk i2 k2 l2 m2 n2 o2 q2 s2 t2 u2 x2,wK.mk i1 k1 l1 m1 n1 o1 q1 s1 t1 u1 x1 y1 b2 f2⟩,wAZ.mk y2 b3 f3 i3 k3 l3 m3 n3 o3 q3 s3 t3 u3 x3 y3,0⟩:AuB)=G:=hg;have hop:=hi.op;have hop:k1=0:=hop;have hac:u3=s.b:=congrArg wAZ.wF hm;have hbl:=hi.P.b.2.2;rw[<-hac]at hbl;have hR2:R=⟨{wK.mk i1 k1 l1 m1 n1 o1 q1 s1 t1 u1 x1 y1 b2 f2 with wBS:=sumBal u3},0⟩:=by rw[<-hR,<-hg,qe (by show¬(0:Int)≠0;decide)]
  rw[hR2];refine⟨(fun a u7 x7 y7 b8 f8 i8 k8 l8 m8 n8 o8 q8 s8 t8=>∃k:Nat,a=(k:Int)/\k<=u3.length/\({wK.mk i1 k1 l1 m1 n1 o1 q1 s1 t1 u1 x1 y1 b2 f2 with wBS:=sumBal (u3.take k)}:wK)=wK.mk u7 x7 y7 b8 f8 i8 k8 l8 m8 n8 o8 q8 s8 t8),(fun a _ _ _ _ _ _ _ _ _ _ _ _ _ _=>(u3.length-a).toNat),⟨0,rfl,qaq _,by rw[hop];rfl⟩,?_⟩;rintro _ u7 x7 y7 b8 f8 i8 k8 l8 m8 n8 o8 q8 s8 t8 ⟨k,rfl,hk,hv⟩;simp only[wK.mk.injEq]at hv;obtain⟨rfl,rfl,rfl,rfl,rfl,rfl,rfl,rfl,rfl,rfl,rfl,rfl,rfl,rfl⟩:=hv;refine⟨fun e2=> ?_,fun e2=> ?_⟩
  ·have e2:k<u3.length:=by have:=qb e2;omega
   rw[ix_get _ _ e2,inc_i64 _ qqo,<-kny e2];exact⟨by omega,by omega,⟨k+1,rfl,e2,rfl⟩,by(dsimp only;omega)⟩
  ·have e2:k=u3.length:=by have:=qc e2;omega
   rw[e2,qbd];exact(by repeat' first|apply qaa|exact rfl|exact ql)
noncomputable def k8c:Ct:= .g (gk 121 [.one (.ptr 0 0),.one (zqi)] yH1 (.one (.one (.d (.sl yqb))))) yM1 [.sl yqb,.sl yqb,.bool] [true,true,true] fun(p1:Int) (Aa:Li) (Ab:Bool)=>(0<=p1,((tkB Aa Ab p1).l:Li),((tkB Aa Ab p1).b:Li),((tkB Aa Ab p1).f:Bool),())
theorem k20:k8c.O:=prv Bs Tryz.func121 (.r 0 (.nd [] (.jn ⟨[],[],[18],[.one (.d (.bool))],[]⟩ [] .no [] .no) [] .no)) c0 (Q:=∀(p1:Int) (Aa:Li) (Ab:Bool),(0<=p1)->∀r0:Li,((tkB Aa Ab p1).l)=r0->∀Az:Li,((tkB Aa Ab p1).b)=Az->∀A0:Bool,((tkB Aa Ab p1).f)=A0-> 
∀J1:Bool->Prop,(∀(b1:Bool),
((b1=true->
([]:Li)=r0/\Aa=Az/\true=A0)/\
(b1=false->
(0<=p1)/\p1<=(Aa.length:Int)/\(0<=p1)/\p1<=(Aa.length:Int)/\Aa.take p1.toNat=r0/\Aa.drop p1.toNat=Az/\Ab=A0))->J1 b1)->
(Ab=true->
J1 true)/\
(Ab=false->
J1 (decide ((Aa.length:Int)<p1))))<|by
 rintro p1 Aa Ab h _ rfl _ rfl _ rfl;intro J1 k1
 have j:∀s,(s=decide (Ab=true∨(Aa.length:Int)<p1))->J1 s:=by
  intro s hs;refine k1 _ ⟨fun e=> ?_,fun e=> ?_⟩
  ·have e:=qb (hs.symm.trans e);unfold tkB;rw[qf e];exact⟨rfl,rfl,rfl⟩
  ·have e:=qc (hs.symm.trans e)
   have hf:Ab=false:=by
    cases Ab
    ·rfl
    ·exact absurd (.inl rfl) e
   have hl:¬(Aa.length:Int)<p1:=fun h=>e (.inr h);unfold tkB;rw[qe e];exact⟨h,by omega,h,by omega,rfl,rfl,hf⟩
 exact⟨fun e=>j _ (by simp[e]),fun e=>j _ (by simp[e])⟩
noncomputable def kis:Ct:= .gp 120 [.sl yqb] [yqu] [true] fun(p0:Li)=>(By p0/\p0.length<=8,(val p0:Int),())
theorem k4u:kis.O:=qrv Bs Tryz.func120 (.r 1 (.nd [] (.r 0 (.lp [] ⟨[],[],[3,4],[.one (zqu),.one (zqi)],[]⟩ .no)) [] .no)) c0 (Q:=∀(p0:Li),(By p0/\p0.length<=8)->∀r0:Int,val p0=r0-> 
∃(I1:Int->Int->Prop) (M1:Int->Int->Nat),I1 0 (i64.wrap ((p0.length:Int)-1))/\∀b1 f1,(I1 b1 f1->
(decide (0<=f1)=true->
(0<=f1)/\f1<(p0.length:Int)/\let v1:Int:=u64.wrap ((u64.wrap (b1*256))+(u64.wrap (ix p0 f1)))
I1 v1 (i64.wrap (f1-1))/\M1 v1 (i64.wrap (f1-1))<M1 b1 f1)/\
(decide (0<=f1)=false->
b1=r0)))<|by
 rintro p0 h _ rfl;obtain⟨hb,hl⟩:=h;refine ?_;rw[wi ((p0.length:Int)-1) qqo qqo];refine⟨(fun n i=> -1<=i/\i<p0.length/\n=val (p0.drop (i+1).toNat)),(fun _ i=>(i+1).toNat),⟨by omega,by omega,?_⟩,?_⟩
 ·rw[qam qqo];rfl
 rintro n i ⟨g0,g1,rfl⟩;refine⟨fun hh=> ?_,fun hh=> ?_⟩
 ·have hh:=qb hh;have hx:=hb _ (ix_mem p0 i hh g1);have hbb:By (p0.drop (i+1).toNat):=hb.drop _;have hv:=k1l _ hbb;have hle:(p0.drop (i+1).toNat).length<=7:=by rw[qan];omega
  have h7:=k1y hle;rw[wu (ix p0 i) qqo qqo,wu (val (p0.drop (i+1).toNat)*256) qqo qqo,wu _ qqo qqo,wi (i-1) qqo qqo];refine⟨hh,by omega,⟨by omega,by omega,?_⟩,by(first|omega|(dsimp only;omega))⟩;rw[show i-1+1=i by omega,drop_ix _ i hh g1];simp only[val];omega
 ·have hh:=qc hh;rw[show(i+1).toNat=0 by omega];rfl
noncomputable def k8s:Ct:= .g (gk 77 [.one (.ptr 0 0),.one (zqi)] yH1 (.one (.one (zqi)))) yM1 yM1 [true,true,true] fun(p1:Int) (Aa:Li) (Ab:Bool)=>(By Aa,((nB 4 Aa Ab p1).n:Int),((nB 4 Aa Ab p1).b:Li),((nB 4 Aa Ab p1).f:Bool),())
theorem k40:k8s.O:=prv Bs Tryz.func77 (.r 1 (.nd [] (.jn ⟨[],[],[18],[.one (.d (.bool))],[]⟩ [] .no [] .no) [] .no)) (k20.c (k4u.c c0)) (Q:=∀(p1:Int) (Aa:Li) (Ab:Bool),(By Aa)->∀r0:Int,((nB 4 Aa Ab p1).n)=r0->∀Az:Li,((nB 4 Aa Ab p1).b)=Az->∀A0:Bool,((nB 4 Aa Ab p1).f)=A0-> 
(0<=(4:Int))/\∀(r5 r6:Li) (r7:Bool),(r5=((tkB Aa Ab (4:Int)).l)/\r6=((tkB Aa Ab (4:Int)).b)/\r7=((tkB Aa Ab (4:Int)).f))->(By r5/\r5.length<=8)/\∀(r8:Int),(r8=(val r5))->∀J1:Bool->Prop,(∀(b1:Bool),
((b1=true->
0=r0/\r6=Az/\true=A0)/\
(b1=false->
i64.wrap r8=r0/\r6=Az/\r7=A0))->J1 b1)->
(r7=true->
J1 true)/\
(r7=false->
J1 (decide (p1<(i64.wrap r8)))))<|by
 rintro p1 Aa Ab h _ rfl _ rfl _ rfl;refine⟨by omega,?_⟩;rintro _ _ _ ⟨rfl,rfl,rfl⟩;have hl:=tkB_len (b:=Aa) (f:=Ab) (k:=4);refine⟨⟨tkB_l h,by omega⟩,?_⟩;rintro _ rfl;have hv:=k1l _ (tkB_l (b:=Aa) (f:=Ab) (k:=4) h);have h4:(256:Int)^(tkB Aa Ab 4).l.length<=256^4:=k1y qqo;rw[wi (val (tkB Aa Ab 4).l) qqo qqo];intro J1 k1
 have j:∀s,(s=decide ((tkB Aa Ab 4).f=true∨p1<val (tkB Aa Ab 4).l))->J1 s:=by
  intro s hs;refine k1 _ ⟨fun e=> ?_,fun e=> ?_⟩
  ·have e:=qb (hs.symm.trans e);unfold nB;rw[qf e];exact⟨rfl,rfl,rfl⟩
  ·have e:=qc (hs.symm.trans e)
   have hf:(tkB Aa Ab 4).f=false:=by
    cases hc:(tkB Aa Ab 4).f
    ·rfl
    ·exact absurd (.inl hc) e
   unfold nB;rw[qe e];exact⟨rfl,rfl,hf⟩
 exact⟨fun e=>j _ (by simp[e]),fun e=>j _ (by simp[e])⟩
noncomputable def k8b:Ct:= .g (gk 80 [.one (.ptr 0 0),.one (zqi),.one (zqu)] yH1 (.one (.one (zql)))) [yqi,yqu,.sl yqb,.bool] [.sl yqu,.sl yqb,.bool] [true,true,true] fun(p1 p2:Int) (Aa:Li) (Ab:Bool)=>(By Aa/\Aa.length<=137438953472,((lB Aa Ab p1 p2).l:Li),((lB Aa Ab p1 p2).b:Li),((lB Aa Ab p1 p2).f:Bool),())
theorem k97:k8b.O:=prv Bs Tryz.func80 (.r 1 (.nd [] (.jn ⟨[],[],[27],[.one (.d (.bool))],[]⟩ [] .no [] .no) [] (.r 0 (.nd [] (.r 0 (.lp [.tok 8 yqu] ⟨[1,0],[.tip yqu,.cells [.d (.sl yqb),.d (.bool)]],[8,9],[.one (.own 0),.one (zqi)],[]⟩ .no)) [] .no)))) (k40.c (k20.c (k4u.c c0))) (Q:=∀(p1 p2:Int) (Aa:Li) (Ab:Bool),(By Aa/\Aa.length<=137438953472)->∀r0:Li,((lB Aa Ab p1 p2).l)=r0->∀Az:Li,((lB Aa Ab p1 p2).b)=Az->∀A0:Bool,((lB Aa Ab p1 p2).f)=A0-> 
(By Aa)/\∀(r4:Int) (r5:Li) (r6:Bool),(r4=((nB 4 Aa Ab p1).n)/\r5=((nB 4 Aa Ab p1).b)/\r6=((nB 4 Aa Ab p1).f))->∀J1:Bool->Prop,(∀(b1:Bool),
((b1=true->
([]:Li)=r0/\r5=Az/\true=A0)/\
(b1=false->
(([]:Li)=([]:Li))/\∃(I1:Int->(Li)->Bool->(Li)->Prop) (M1:Int->(Li)->Bool->(Li)->Nat),I1 0 r5 r6 ([]:Li)/\∀f1 i1 k1 l1,(I1 f1 i1 k1 l1->
(decide (f1<r4)=true->
(0<=(8:Int))/\∀(r36 r37:Li) (r38:Bool),(r36=((tkB i1 k1 (8:Int)).l)/\r37=((tkB i1 k1 (8:Int)).b)/\r38=((tkB i1 k1 (8:Int)).f))->(By r36/\r36.length<=8)/\∀(r39:Int),(r39=(val r36))->(decide (p2<=r39)=true->
([]:Li)=r0/\r37=Az/\true=A0)/\
(decide (p2<=r39)=false->
lz l1/\(l1.length+[r39].length)*8<=140737488355328/\l1.length+[r39].length<=maxLen/\(l1++[r39]=l1++[r39])/\I1 (i64.wrap (f1+1)) r37 r38 (l1++[r39])/\M1 (i64.wrap (f1+1)) r37 r38 (l1++[r39])<M1 f1 i1 k1 l1))/\
(decide (f1<r4)=false->
l1=r0/\i1=Az/\k1=A0))))->J1 b1)->
(r6=true->
J1 true)/\
(r6=false->
let v7:Int:=i64.wrap (Int.tdiv (r5.length:Int) 8)
J1 (decide (v7<r4))))<|by
 rintro p1 p2 Aa Ab h _ rfl _ rfl _ rfl;obtain⟨hb,hl⟩:=h;have p4:(256:Int)^(4:Int).toNat=4294967296:=by decide
 refine⟨hb,?_⟩;rintro _ _ _ ⟨rfl,rfl,rfl⟩;have hN:=nB_b (k:=4) (f:=Ab) (m:=p1) hb;have nN:=nB_n (k:=4) (f:=Ab) (m:=p1) hb qqo;rw[p4]at nN;have e0:lB Aa Ab p1 p2=if(nB 4 Aa Ab p1).f=true∨((nB 4 Aa Ab p1).b.length:Int)/8<(nB 4 Aa Ab p1).n then⟨[],(nB 4 Aa Ab p1).b,true⟩else lBs p2 (nB 4 Aa Ab p1).n.toNat (nB 4 Aa Ab p1).b []:=rfl;generalize nB 4 Aa Ab p1=N at *
 generalize lB Aa Ab p1 p2=R at *
 intro J1 k1
 have j:∀s,s=decide (N.f=true∨(N.b.length:Int)/8<N.n)->J1 s:=by
  intro s hs;refine k1 _ ⟨fun e=> ?_,fun e=>⟨rfl,?_⟩⟩
  ·rw[e0,qf (qb (hs.symm.trans e))];exact⟨rfl,rfl,rfl⟩
  have e:=qc (hs.symm.trans e);rw[qe e]at e0
  have hf:N.f=false:=by
   cases hc:N.f
   ·rfl
   ·exact absurd (.inl hc) e
  have hle:¬(N.b.length:Int)/8<N.n:=fun h=>e (.inr h);refine⟨(fun i b f g=>f=false/\0<=i/\i<=N.n/\By b/\(b.length:Int)≥8*(N.n-i)/\(g.length:Int)=i/\R=lBs p2 (N.n-i).toNat b g),(fun i _ _ _=>(N.n-i).toNat),⟨hf,by omega,nN.1,hN.1,by omega,rfl,by rw[e0];congr 1;omega⟩,?_⟩;rintro i b f g ⟨rfl,g0,g1,g2,g3,g4,g5⟩;refine⟨fun hh=> ?_,fun hh=> ?_⟩
  ·have hh:=qb hh
   have et:tkB b false 8=⟨b.take 8,b.drop 8,false⟩:=by
    unfold tkB;rw[qe]
    ·rfl
    ·rintro (h|h)
     ·cases h
     ·omega
   refine⟨by omega,?_⟩;rintro _ _ _ ⟨rfl,rfl,rfl⟩;rw[et];refine⟨⟨g2.take _,by simp;omega⟩,?_⟩;rintro _ rfl;rw[show(N.n-i).toNat=(N.n-(i+1)).toNat+1 by omega]at g5;unfold lBs at g5;refine⟨fun e=> ?_,fun e=> ?_⟩
   ·rw[g5,qf (qb e)];exact⟨rfl,rfl,rfl⟩
   ·have e:=qc e;rw[qe e]at g5;rw[inc i N.n g0 hh qqo];refine⟨rfl,by simp;omega,by simp;unfold maxLen;omega,rfl,⟨rfl,by omega,by omega,g2.drop _,by rw[qan];omega,by simp;omega,g5⟩,by(first|omega|(dsimp only;omega))⟩
  ·have hh:=qc hh;rw[show(N.n-i).toNat=0 by omega]at g5;rw[g5];exact⟨rfl,rfl,rfl⟩
 refine⟨fun e=>j _ (by simp[e]),fun e=> ?_⟩;have e8:i64.wrap (Int.tdiv (N.b.length:Int) 8)=(N.b.length:Int)/8:=by rw[Int.tdiv_eq_ediv_of_nonneg qqo];exact wi _ qqo qqo
 rw[e8];exact j _ (by simp[e])
noncomputable def k8h:Ct:= .g (gk 79 [.one (.ptr 0 0),.one (zqu)] yH1 (.one (.one (zqu)))) [yqu,.sl yqb,.bool] [yqu,.sl yqb,.bool] [true,true,true] fun(p1:Int) (Aa:Li) (Ab:Bool)=>(By Aa,((nB 8 Aa Ab p1).n:Int),((nB 8 Aa Ab p1).b:Li),((nB 8 Aa Ab p1).f:Bool),())
theorem k3m:k8h.O:=prv Bs Tryz.func79 (.r 1 (.nd [] (.jn ⟨[],[],[17],[.one (.d (.bool))],[]⟩ [] .no [] .no) [] .no)) (k20.c (k4u.c c0)) (Q:=∀(p1:Int) (Aa:Li) (Ab:Bool),(By Aa)->∀r0:Int,((nB 8 Aa Ab p1).n)=r0->∀Az:Li,((nB 8 Aa Ab p1).b)=Az->∀A0:Bool,((nB 8 Aa Ab p1).f)=A0-> 
(0<=(8:Int))/\∀(r5 r6:Li) (r7:Bool),(r5=((tkB Aa Ab (8:Int)).l)/\r6=((tkB Aa Ab (8:Int)).b)/\r7=((tkB Aa Ab (8:Int)).f))->(By r5/\r5.length<=8)/\∀(r8:Int),(r8=(val r5))->∀J1:Bool->Prop,(∀(b1:Bool),
((b1=true->
0=r0/\r6=Az/\true=A0)/\
(b1=false->
r8=r0/\r6=Az/\r7=A0))->J1 b1)->
(r7=true->
J1 true)/\
(r7=false->
J1 (decide (p1<r8))))<|by
 rintro p1 Aa Ab h _ rfl _ rfl _ rfl;refine⟨by omega,?_⟩;rintro _ _ _ ⟨rfl,rfl,rfl⟩;have hl:=tkB_len (b:=Aa) (f:=Ab) (k:=8);refine⟨⟨tkB_l h,by omega⟩,?_⟩;rintro _ rfl;intro J1 k1
 have j:∀s,(s=decide ((tkB Aa Ab 8).f=true∨p1<val (tkB Aa Ab 8).l))->J1 s:=by
  intro s hs;refine k1 _ ⟨fun e=> ?_,fun e=> ?_⟩
  ·have e:=qb (hs.symm.trans e);unfold nB;rw[qf e];exact⟨rfl,rfl,rfl⟩
  ·have e:=qc (hs.symm.trans e)
   have hf:(tkB Aa Ab 8).f=false:=by
    cases hc:(tkB Aa Ab 8).f
    ·rfl
    ·exact absurd (.inl hc) e
   unfold nB;rw[qe e];exact⟨rfl,rfl,hf⟩
 exact⟨fun e=>j _ (by simp[e]),fun e=>j _ (by simp[e])⟩
noncomputable def khz:Ct:= .gp 81 [.st 16] [.bool] [] fun(p0:wZ)=>(p0.Ins.length<=9223372036854775807/\p0.wA.length<=9223372036854775807/\(∀x∈p0.Ins,x.wj.length<=9223372036854775807),(rightV p0:Bool),())
theorem kmk:khz.O:=qrv Bs Tryz.func81 (.r 1 (.nd [] (.r 0 (.lp [] ⟨[],[],[3],[.one (zqi)],[]⟩ .no)) [] .no)) (k2b.c (k8m.c (k8z.c c0))) (Q:=∀(p0:wZ),(p0.Ins.length<=9223372036854775807/\p0.wA.length<=9223372036854775807/\(∀x∈p0.Ins,x.wj.length<=9223372036854775807))->∀r0:Bool,rightV p0=r0-> 
(decide (4<(p0.Ins.length:Int))=true->
false=r0)/\
(decide (4<(p0.Ins.length:Int))=false->
(decide (4<(p0.wA.length:Int))=true->
false=r0)/\
(decide (4<(p0.wA.length:Int))=false->
let r1:Bool:=(decide (p0.wAV<18446744069414584321))
((!r1)=true->
false=r0)/\
((!r1)=false->
∃(I1:Int->Prop) (M1:Int->Nat),I1 0/\∀b1,(I1 b1->
(decide (b1<(p0.Ins.length:Int))=true->
(0<=b1)/\b1<(p0.Ins.length:Int)/\let v2:Bool:=decide (12<(((ix p0.Ins b1).wj).length:Int))
(v2=true->
false=r0)/\
(v2=false->
(decide (((ix p0.Ins b1).wC)<0)=true->
false=r0)/\
(decide (((ix p0.Ins b1).wC)<0)=false->
let v3:Bool:=decide (4096<=((ix p0.Ins b1).wC))
(v3=true->
false=r0)/\
(v3=false->
((wN.mk ((ix p0.Ins b1).wR) ((ix p0.Ins b1).we) ((ix p0.Ins b1).wY) ((ix p0.Ins b1).wz) ((ix p0.Ins b1).Key) ((ix p0.Ins b1).wAP) 0 ((ix p0.Ins b1).wj) ((ix p0.Ins b1).wBQ)).wj.length<=9223372036854775807)/\let r4:Bool:=(inpV (wN.mk ((ix p0.Ins b1).wR) ((ix p0.Ins b1).we) ((ix p0.Ins b1).wY) ((ix p0.Ins b1).wz) ((ix p0.Ins b1).Key) ((ix p0.Ins b1).wAP) 0 ((ix p0.Ins b1).wj) ((ix p0.Ins b1).wBQ)) (((ix p0.Ins b1).wj).length:Int))
((!r4)=true->
false=r0)/\
((!r4)=false->
I1 (i64.wrap (b1+1))/\M1 (i64.wrap (b1+1))<M1 b1)))))/\
(decide (b1<(p0.Ins.length:Int))=false->
(p0.wA.length<=9223372036854775807)/\(p0.wA.all noteV)=r0))))))<|by
 rintro p0 h _ rfl;obtain⟨h1,h2,h3⟩:=h
 have no:¬(p0.Ins.length<=4/\p0.wA.length<=4/\p0.wAV<18446744069414584321/\(∀x∈p0.Ins,spendV x=true)/\∀x∈p0.wA,noteV x=true)->false=rightV p0:=by
  intro h;cases hr:rightV p0 with
  |false=>rfl
  |true=>exact(h (k1r.1 hr)).elim
 refine⟨fun h=>no fun a=> ?_,fun e1=>⟨fun h=>no fun a=> ?_,fun e2=>⟨fun h=>no fun a=> ?_,fun e3=> ?_⟩⟩⟩
 ·have h:=qb h;omega
 ·have h:=qb h;omega
 ·rw[qas a.2.2.1]at h;cases h
 have e1:=qc e1;have e2:=qc e2;have e3:p0.wAV<18446744069414584321:=by simpa using e3
 refine⟨(AllI spendV p0.Ins),(fun i=>(p0.Ins.length-i).toNat),AllI.start,?_⟩;intro i hi;refine⟨fun hh=> ?_,fun hh=> ?_⟩
 ·have hh:=qb hh;have hm:=ix_mem p0.Ins i hi.1 hh;have bad:spendV (ix p0.Ins i)=false->false=rightV p0:=fun e=>no fun a=>by rw[a.2.2.2.1 _ hm]at e;cases e
  have bad2:¬(0<=(ix p0.Ins i).wC/\(ix p0.Ins i).wC<=4095/\(ix p0.Ins i).wj.length<=12)->false=rightV p0:=fun e=>bad (by
   cases hc:spendV (ix p0.Ins i)with
   |false=>rfl
   |true=>exact(e ⟨(k18.1 hc).2.2.2.2.1,(k18.1 hc).2.2.2.2.2.1,(k18.1 hc).2.2.2.2.2.2.1⟩).elim)
  refine⟨hi.1,hh,fun e=>bad2 ?_,fun q1=>⟨fun e=>bad2 ?_,fun q2=>⟨fun e=>bad2 ?_,fun q3=> ?_⟩⟩⟩
  ·have e:=qb e;omega
  ·have e:=qb e;omega
  ·have e:=qb e;omega
  have q1:=qc q1;have q2:=qc q2;have q3:=qc q3;rw[kpr (x:=ix p0.Ins i) qqo qqo qqo];refine⟨h3 (ix p0.Ins i) hm,fun e=>bad (by simpa using e),fun e=>hi.next hh qqo (by simpa using e)⟩
 ·have ha:=hi.done (qc hh);refine⟨h2,?_⟩;cases hn:p0.wA.all noteV with
  |false=>exact no fun a=>by rw[qbj.2 a.2.2.2.2]at hn;cases hn
  |true=>exact(k1r.2 ⟨by omega,by omega,e3,qbj.1 ha,qbj.1 hn⟩).symm
noncomputable def kkm:Ct:= .g (gk 78 [.one (.ptr 0 0)] yH1 (.one (.agg [zqu,zqu,zqu,zqu]))) [.sl yqb,.bool] [.st 13,.sl yqb,.bool] [true,true,true] fun(Aa:Li) (Ab:Bool)=>(By Aa,((nNt Aa Ab).n:wJ),((nNt Aa Ab).b:Li),((nNt Aa Ab).f:Bool),())
theorem kni:kkm.O:=prv Bs Tryz.func78 .no (k3m.c c0) (Q:=∀(Aa:Li) (Ab:Bool),(By Aa)->∀r0:wJ,((nNt Aa Ab).n)=r0->∀Az:Li,((nNt Aa Ab).b)=Az->∀A0:Bool,((nNt Aa Ab).f)=A0-> 
(By Aa)/\∀(r4:Int) (r5:Li) (r6:Bool),(r4=((nB 8 Aa Ab (18446744073709551615:Int)).n)/\r5=((nB 8 Aa Ab (18446744073709551615:Int)).b)/\r6=((nB 8 Aa Ab (18446744073709551615:Int)).f))->(By r5)/\∀(r10:Int) (r11:Li) (r12:Bool),(r10=((nB 8 r5 r6 (18446744073709551615:Int)).n)/\r11=((nB 8 r5 r6 (18446744073709551615:Int)).b)/\r12=((nB 8 r5 r6 (18446744073709551615:Int)).f))->(By r11)/\∀(r16:Int) (r17:Li) (r18:Bool),(r16=((nB 8 r11 r12 (18446744073709551615:Int)).n)/\r17=((nB 8 r11 r12 (18446744073709551615:Int)).b)/\r18=((nB 8 r11 r12 (18446744073709551615:Int)).f))->(By r17)/\∀(r22:Int) (r23:Li) (r24:Bool),(r22=((nB 8 r17 r18 (18446744073709551615:Int)).n)/\r23=((nB 8 r17 r18 (18446744073709551615:Int)).b)/\r24=((nB 8 r17 r18 (18446744073709551615:Int)).f))->r4=r0.Value/\r10=r0.wAg/\r16=r0.Rho/\r22=r0.wBL/\r23=Az/\r24=A0)<|by rintro Aa Ab h _ rfl _ rfl _ rfl;have h1:=(nB_b (k:=8) (f:=Ab) (m:=18446744073709551615) h).1;refine⟨h,?_⟩;rintro _ _ _ ⟨rfl,rfl,rfl⟩;refine⟨h1,?_⟩;have h2:=(nB_b (k:=8) (f:=(nB 8 Aa Ab 18446744073709551615).f) (m:=18446744073709551615) h1).1;rintro _ _ _ ⟨rfl,rfl,rfl⟩;refine⟨h2,?_⟩;rintro _ _ _ ⟨rfl,rfl,rfl⟩;refine⟨(nB_b h2).1,?_⟩;rintro _ _ _ ⟨rfl,rfl,rfl⟩;exact⟨rfl,rfl,rfl,rfl,rfl,rfl⟩
noncomputable def kgb:Ct:= .gp 45 [.sl yqb] [.st 16,.bool] [true,true] fun(p0:Li)=>(By p0/\p0.length<=137438953472,((decW p0).1:wZ),(decide ((decW p0).2=0):Bool),())
abbrev Fz19 (r:Type):=Int->Int->(Li)->Bool->(List wN)->(List wJ)->r
abbrev Fz20 (r:Type):=Int->(List wJ)->Int->(Li)->Bool->(List wN)->r
theorem khv:kgb.O:=qrv Bs Tryz.func45 (.r 3 (.jn ⟨[2,1],yX,[],[],[]⟩ [] (.r 0 (.lp [.tokc 2 0 (.st 11)] ⟨[2,1,3],yX,[7],[.one (zqi)],[]⟩ .no)) [] (.r 0 (.jn ⟨[2,1,3],yV,[],[],[]⟩ [] (.r 0 (.lp [.tokc 2 1 (.st 13)] ⟨[2,1,3,4],yV,[9],[.one (zqi)],[]⟩ .no)) [] (.r 0 (.nd [] (.jn ⟨[],[],[92],[.one (.d (.bool))],[]⟩ [] .no [] .no) [] .no)))))) (k40.c (kni.c (k3m.c (k97.c (kmk.c c0))))) (Q:=∀(p0:Li),(By p0/\p0.length<=137438953472)->∀r0:wZ,((decW p0).1)=r0->∀r1:Bool,(decide ((decW p0).2=0))=r1-> 
(By p0)/\∀(r5:Int) (r6:Li) (r7:Bool),(r5=((nB 4 p0 false (4:Int)).n)/\r6=((nB 4 p0 false (4:Int)).b)/\r7=((nB 4 p0 false (4:Int)).f))->∀J1:(List wJ)->Int->(Li)->Bool->(List wN)->Prop,(∀(b1:List wJ) (f1:Int) (i1:Li) (k1:Bool) (l1:List wN),
((By i1)/\∀(r84:Int) (r85:Li) (r86:Bool),(r84=((nB 4 i1 k1 (4:Int)).n)/\r85=((nB 4 i1 k1 (4:Int)).b)/\r86=((nB 4 i1 k1 (4:Int)).f))->∀J2:Int->(Li)->Bool->(List wN)->(List wJ)->Prop,(∀(u1:Int) (x1:Li) (y1:Bool) (b2:List wN) (f2:List wJ),
((By x1)/\∀(r96:Int) (r97:Li) (r98:Bool),(r96=((nB 8 x1 y1 (18446744073709551615:Int)).n)/\r97=((nB 8 x1 y1 (18446744073709551615:Int)).b)/\r98=((nB 8 x1 y1 (18446744073709551615:Int)).f))->∀J3:Bool->Prop,(∀(q2:Bool),
((q2=true->
([]:List wN)=r0.Ins/\([]:List wJ)=r0.wA/\0=r0.wAV/\false=r1)/\
(q2=false->
b2=r0.Ins/\f2=r0.wA/\r96=r0.wAV/\true=r1))->J3 q2)->
(r98=true->
J3 true)/\
(r98=false->
(decide (0<(r97.length:Int))=true->
J3 true)/\
(decide (0<(r97.length:Int))=false->
((wZ.mk b2 f2 r96).Ins.length<=9223372036854775807/\(wZ.mk b2 f2 r96).wA.length<=9223372036854775807/\(∀x∈(wZ.mk b2 f2 r96).Ins,x.wj.length<=9223372036854775807))/\J3 (!(rightV (wZ.mk b2 f2 r96))))))->J2 u1 x1 y1 b2 f2)->
(b1=b1)/\(l1=l1)/\∃(I2:Fz19 Prop) (M2:Fz19 Nat),I2 0 f1 r85 r86 l1 b1/\∀i2 k2 l2 m2 n2 o2,(I2 i2 k2 l2 m2 n2 o2->
(decide (i2<r84)=true->
((!m2)=true->
(By l2)/\∀(r90:wJ) (r91:Li) (r92:Bool),(r90=((nNt l2 m2).n)/\r91=((nNt l2 m2).b)/\r92=((nNt l2 m2).f))->lz o2/\(o2.length+[r90].length)*32<=140737488355328/\o2.length+[r90].length<=maxLen/\(o2++[r90]=o2++[r90])/\(n2=n2)/\I2 (i64.wrap (i2+1)) k2 r91 r92 n2 (o2++[r90])/\M2 (i64.wrap (i2+1)) k2 r91 r92 n2 (o2++[r90])<M2 i2 k2 l2 m2 n2 o2)/\
((!m2)=false->
(o2=o2)/\(n2=n2)/\J2 k2 l2 m2 n2 o2))/\
(decide (i2<r84)=false->
(o2=o2)/\(n2=n2)/\J2 k2 l2 m2 n2 o2)))->J1 b1 f1 i1 k1 l1)->
(([]:List wN)=([]:List wN))/\∃(I1:Fz20 Prop) (M1:Fz20 Nat),I1 0 ([]:List wJ) 0 r6 r7 ([]:List wN)/\∀m1 n1 o1 q1 s1 t1,(I1 m1 n1 o1 q1 s1 t1->
(decide (m1<r5)=true->
((!s1)=true->
(By q1)/\∀(r47:wJ) (r48:Li) (r49:Bool),(r47=((nNt q1 s1).n)/\r48=((nNt q1 s1).b)/\r49=((nNt q1 s1).f))->(By r48)/\∀(r53:Int) (r54:Li) (r55:Bool),(r53=((nB 8 r48 r49 (18446744073709551615:Int)).n)/\r54=((nB 8 r48 r49 (18446744073709551615:Int)).b)/\r55=((nB 8 r48 r49 (18446744073709551615:Int)).f))->(By r54)/\∀(r59:Int) (r60:Li) (r61:Bool),(r59=((nB 4 r54 r55 (4294967296:Int)).n)/\r60=((nB 4 r54 r55 (4294967296:Int)).b)/\r61=((nB 4 r54 r55 (4294967296:Int)).f))->(By r60)/\∀(r65:Int) (r66:Li) (r67:Bool),(r65=((nB 4 r60 r61 (4294967296:Int)).n)/\r66=((nB 4 r60 r61 (4294967296:Int)).b)/\r67=((nB 4 r60 r61 (4294967296:Int)).f))->(By r66/\r66.length<=137438953472)/\∀(r71 r72:Li) (r73:Bool),(r71=((lB r66 r67 (12:Int) (18446744069414584321:Int)).l)/\r72=((lB r66 r67 (12:Int) (18446744069414584321:Int)).b)/\r73=((lB r66 r67 (12:Int) (18446744069414584321:Int)).f))->(By r72)/\∀(r77:Int) (r78:Li) (r79:Bool),(r77=((nB 4 r72 r73 (1:Int)).n)/\r78=((nB 4 r72 r73 (1:Int)).b)/\r79=((nB 4 r72 r73 (1:Int)).f))->let v80:List wN:=[wN.mk r47.Value r47.wAg r47.Rho r47.wBL r53 r59 r65 r71 (r77==1)]
lz t1/\(t1.length+v80.length)*88<=140737488355328/\t1.length+v80.length<=maxLen/\(t1++v80=t1++v80)/\I1 (i64.wrap (m1+1)) n1 o1 r78 r79 (t1++v80)/\M1 (i64.wrap (m1+1)) n1 o1 r78 r79 (t1++v80)<M1 m1 n1 o1 q1 s1 t1)/\
((!s1)=false->
(t1=t1)/\J1 n1 o1 q1 s1 t1))/\
(decide (m1<r5)=false->
(t1=t1)/\J1 n1 o1 q1 s1 t1)))<|by
 rintro p0 h _ rfl _ rfl;obtain⟨hb,hl⟩:=h;refine⟨hb,?_⟩;rintro _ _ _ ⟨rfl,rfl,rfl⟩;have hC:=nB_b (k:=4) (f:=false) (m:=4) hb;have nC:=nB_n (k:=4) (f:=false) (m:=4) hb qqo;have mC:=nB_m (k:=4) (b:=p0) (f:=false) (m:=4) qqo;have zC:=nB4_pz (f:=false) (m:=4) hb;generalize nB 4 p0 false 4=C at *
 intro J1 k1
 have j1:∀(b:Li) (f:Bool) (g:List wN),By b->b.length<=137438953472->g.length<=4->Pz (encC encSp) (Gc (GS limR) 4) p0 false g b f->J1 [] 0 b f g:=by
  intro b f g hb' hl' lg zI;refine k1 _ _ _ _ _ ⟨hb',?_⟩;rintro _ _ _ ⟨rfl,rfl,rfl⟩;have hD:=nB_b (k:=4) (f:=f) (m:=4) hb';have nD:=nB_n (k:=4) (f:=f) (m:=4) hb' qqo;have mD:=nB_m (k:=4) (b:=b) (f:=f) (m:=4) qqo;have zD:=nB4_pz (f:=f) (m:=4) hb';generalize nB 4 b f 4=D at *
  intro J2 k2
  have j2:∀(v:Int) (b2:Li) (f2:Bool) (g' :List wJ),By b2->b2.length<=137438953472->g'.length<=4->Pz (encC encN) (Gc (GN limR) 4) b f g' b2 f2->J2 v b2 f2 g g' :=by
   intro v b2 f2 g' hb2 hl2 l2 zO;refine k2 _ _ _ _ _ ⟨hb2,?_⟩;rintro _ _ _ ⟨rfl,rfl,rfl⟩;have zS:=nB8_pz (f:=f2) (m:=18446744073709551615) hb2 qqo;generalize nB 8 b2 f2 18446744073709551615=X at *
   obtain⟨snd,cpl⟩:=pz_wit (L:=limR) zI zO zS;intro J3 k3
   have j3:∀s:Bool,(s=true->∀u,¬EW u p0)->(s=false->decW p0=(⟨g,g',X.n⟩,0))->J3 s:=by
    intro s h1 h2;refine k3 _ ⟨fun e=> ?_,fun e=> ?_⟩
    ·rw[decW_no (h1 e)];exact⟨rfl,rfl,rfl,rfl⟩
    ·rw[h2 e];exact⟨rfl,rfl,rfl,rfl⟩
   refine⟨fun e=>j3 _ (fun _ u hu=> ?_) (fun h=>by cases h),fun e=>⟨fun e2=>j3 _ (fun _ u hu=> ?_) (fun h=>by cases h),fun e2=> ?_⟩⟩
   ·rw[(cpl u hu).1]at e;cases e
   ·rw[(cpl u hu).2.1]at e2;cases e2
   ·have e2:=qc e2;obtain⟨s1,s2⟩:=snd e (qcz.1 qqo);have hw:=s2.wq;refine⟨⟨by show g.length<=_;omega,by show g'.length<=_;omega,fun x hx=>(hw.i x hx).pl⟩,j3 _ (fun h u hu=> ?_) (fun h=> ?_)⟩
    ·rw[(cpl u hu).2.2,hu.v]at h;cases h
    ·have hE:EW ⟨g,g',X.n⟩ p0:=⟨hw,by simpa using h,s1⟩;exact kmv hE fun u hu=>(cpl u hu).2.2
  refine⟨by trivial,by trivial,(fun i _ b' f' gg g' =>g=gg/\0<=i/\i<=D.n/\By b'/\b'.length<=137438953472/\(g'.length:Int)=i/\Pz (fun l:List wJ=>l.flatMap encN) (Gl (GN limR) i.toNat) D.b D.f g' b' f'),(fun i _ _ _ _ _=>(D.n-i).toNat),⟨rfl,by omega,nD.1,hD.1,by omega,rfl,Pz.nil⟩,?_⟩;rintro i v b' f' _ g' ⟨rfl,g0,g1,q1,q2,q3,gz⟩;refine⟨fun hh=> ?_,fun hh=> ?_⟩
  ·have hh:=qb hh;refine⟨fun e=>⟨q1,?_⟩,fun e=>⟨by trivial,by trivial,?_⟩⟩
   ·rintro _ _ _ ⟨rfl,rfl,rfl⟩;have o1:=nNt_b (f:=f') q1;have z1:=nNt_pz (f:=f') q1;generalize nNt b' f' =A1 at *
    rw[inc i D.n g0 hh qqo];refine⟨rfl,by simp;omega,by simp;unfold maxLen;omega,by trivial,by trivial,⟨rfl,by omega,by omega,o1.1,by omega,by simp;omega,?_⟩,by(dsimp only;omega)⟩;rw[show(i+1).toNat=i.toNat+1 by omega];exact gz.snoc z1
   ·have e:f' =true:=by simpa using e
    subst e;exact j2 _ _ _ _ q1 q2 qqo (Pz.list zD (gz.short qqo))
  ·have hh:=qc hh;have hi:i=D.n:=by omega
   subst hi;exact⟨by trivial,by trivial,j2 _ _ _ _ q1 q2 qqo (Pz.list zD gz)⟩
 refine⟨by trivial,?_⟩;refine⟨(fun i y1 y2 b f g=>(([]:List wJ)=y1/\(0:Int)=y2)/\0<=i/\i<=C.n/\By b/\b.length<=137438953472/\(g.length:Int)=i/\Pz (fun l:List wN=>l.flatMap encSp) (Gl (GS limR) i.toNat) C.b C.f g b f),(fun i _ _ _ _ _=>(C.n-i).toNat),⟨⟨rfl,rfl⟩,by omega,nC.1,hC.1,by omega,rfl,Pz.nil⟩,?_⟩;rintro i _ _ b f g ⟨⟨rfl,rfl⟩,g0,g1,q1,q2,q3,gz⟩;refine⟨fun hh=> ?_,fun hh=> ?_⟩
 ·have hh:=qb hh;refine⟨fun e=>⟨q1,?_⟩,fun e=>⟨by trivial,?_⟩⟩
  ·rintro _ _ _ ⟨rfl,rfl,rfl⟩;have o1:=nNt_b (f:=f) q1;have z1:=nNt_pz (f:=f) q1;generalize nNt b f=A1 at *
   refine⟨o1.1,?_⟩;rintro _ _ _ ⟨rfl,rfl,rfl⟩;have o2:=nB_b (k:=8) (f:=A1.f) (m:=18446744073709551615) o1.1;have z2:=nB8_pz (f:=A1.f) (m:=18446744073709551615) o1.1 qqo;generalize nB 8 A1.b A1.f 18446744073709551615=A2 at *
   refine⟨o2.1,?_⟩;rintro _ _ _ ⟨rfl,rfl,rfl⟩;have o3:=nB_b (k:=4) (f:=A2.f) (m:=4294967296) o2.1;have z3:=nB4_pz (f:=A2.f) (m:=4294967296) o2.1;generalize nB 4 A2.b A2.f 4294967296=A3 at *
   refine⟨o3.1,?_⟩;rintro _ _ _ ⟨rfl,rfl,rfl⟩;have o4:=nB_b (k:=4) (f:=A3.f) (m:=4294967296) o3.1;have z4:=nB4_pz (f:=A3.f) (m:=4294967296) o3.1;generalize nB 4 A3.b A3.f 4294967296=A4 at *
   refine⟨⟨o4.1,by omega⟩,?_⟩;rintro _ _ _ ⟨rfl,rfl,rfl⟩;have o5:=lB_b (m:=12) (p:=18446744069414584321) (f:=A4.f) o4.1;have z5:=lB_pz (m:=12) (p:=18446744069414584321) (f:=A4.f) o4.1 qqo;generalize lB A4.b A4.f 12 18446744069414584321=A5 at *
   refine⟨o5.1,?_⟩;rintro _ _ _ ⟨rfl,rfl,rfl⟩;have o6:=nB_b (k:=4) (f:=A5.f) (m:=1) o5.1;have z6:=nB4_pz (f:=A5.f) (m:=1) o5.1;generalize nB 4 A5.b A5.f 1=A6 at *
   have zz:=kkt (L:=limR) z1 z2 z3 z4 z5 z6;rw[inc i C.n g0 hh qqo];refine⟨rfl,by simp;omega,by simp;unfold maxLen;omega,by trivial,⟨⟨rfl,rfl⟩,by omega,by omega,o6.1,by omega,by simp;omega,?_⟩,by(dsimp only;omega)⟩;rw[show(i+1).toNat=i.toNat+1 by omega];exact gz.snoc zz
  ·have e:f=true:=by simpa using e
   subst e;exact j1 _ _ _ q1 q2 qqo (Pz.list zC (gz.short qqo))
 ·have hh:=qc hh;have hi:i=C.n:=by omega
  subst hi;exact⟨by trivial,j1 _ _ _ q1 q2 qqo (Pz.list zC gz)⟩
noncomputable def kag:Ct:= .gp 24 [.sl (.st 3)] [.sl (.st 22)] [] fun(p0:List wU)=>(BLk p0,(wtL p0:List wBG),())
theorem k4i:kag.O:=qrv Bs Tryz.func24 (.r 1 (.nd [] (.r 0 (.lp [.tok 3 (.st 22)] ⟨[0],[.tip (.st 22)],[3,4],[.one (.own 0),.one (zqi)],[]⟩ (.r 0 (.nd [] (.r 0 (.lp [] ⟨[0],[.tip (.st 22)],[3,5],[.one (.own 0),.one (zqi)],[]⟩ .no)) [] .no)))) [] .no)) (khv.c c0) (Q:=∀(p0:List wU),(BLk p0)->∀r0:List wBG,wtL p0=r0-> 
(([]:List wBG)=([]:List wBG))/\∃(I1:Int->(List wBG)->Prop) (M1:Int->(List wBG)->Nat),I1 0 ([]:List wBG)/\∀b1 f1,(I1 b1 f1->
(decide (b1<(p0.length:Int))=true->
(f1=f1)/\∃(I2:Int->(List wBG)->Prop) (M2:Int->(List wBG)->Nat),I2 0 f1/\∀i1 k1,(I2 i1 k1->
(0<=b1)/\b1<(p0.length:Int)/\let v25:Bool:=decide (i1<(((ix p0 b1).Txs).length:Int))
(v25=true->
(0<=b1)/\b1<(p0.length:Int)/\(0<=i1)/\i1<(((ix p0 b1).Txs).length:Int)/\(By ((ix ((ix p0 b1).Txs) i1).wh)/\((ix ((ix p0 b1).Txs) i1).wh).length<=137438953472)/\∀(r32:wZ) (r33:Bool),(r32=((decW ((ix ((ix p0 b1).Txs) i1).wh)).1)/\r33=(decide ((decW ((ix ((ix p0 b1).Txs) i1).wh)).2=0)))->lz k1/\(k1.length+[wBG.mk r32.Ins r32.wA r32.wAV r33].length)*64<=140737488355328/\k1.length+[wBG.mk r32.Ins r32.wA r32.wAV r33].length<=maxLen/\let v34:List wBG:=k1++[wBG.mk r32.Ins r32.wA r32.wAV r33]
(v34=v34)/\I2 (i64.wrap (i1+1)) v34/\M2 (i64.wrap (i1+1)) v34<M2 i1 k1)/\
(v25=false->
(k1=k1)/\I1 (i64.wrap (b1+1)) k1/\M1 (i64.wrap (b1+1)) k1<M1 b1 f1)))/\
(decide (b1<(p0.length:Int))=false->
f1=r0)))<|by
 rintro p0 h _ rfl;have hln:=h.len;refine⟨by trivial,(fun a f=>∃i:Nat,a=(i:Int)/\i<=p0.length/\f=wtL (p0.take i)),(fun a _=>(p0.length-a).toNat),⟨0,rfl,by omega,rfl⟩,?_⟩;rintro _ _ ⟨i,rfl,hi,rfl⟩;refine⟨fun e=> ?_,fun e=> ?_⟩
 ·have e:i<p0.length:=by have:=qb e;omega
  rw[ix_get _ _ e,inc_i64 _ qqo];have hb:=qah e;have hr:=h.r _ hb;have htl:=h.tl _ hb;have hw:(wtL (p0.take i)).length<=4*i:=by have:=wtL_len (p0.take i) fun b hb=>h.tl b (qbk hb);rw[qu]at this;omega
  refine⟨by trivial,(fun a f=>∃k:Nat,a=(k:Int)/\k<=p0[i].Txs.length/\f=wtL (p0.take i)++(p0[i].Txs.take k).map wtOf),(fun a _=>(p0[i].Txs.length-a).toNat),⟨0,rfl,by omega,by simp⟩,?_⟩;rintro _ _ ⟨k,rfl,hk,rfl⟩;refine⟨by omega,by omega,fun e2=> ?_,fun e2=> ?_⟩
  ·have e2:k<p0[i].Txs.length:=by have:=qb e2;omega
   rw[ix_get _ _ e2,inc_i64 _ qqo];have ht:=qah e2;have hp:=(hr.l _ ht).p;refine⟨by omega,by omega,by omega,by omega,⟨(hr.t _ ht).p,by omega⟩,?_⟩;rintro _ _ ⟨rfl,rfl⟩;refine⟨rfl,?_,?_,by trivial,⟨k+1,rfl,by omega,?_⟩,by(dsimp only;omega)⟩
   ·simp only[qh,qm,qu,qj,qt];omega
   ·simp only[qh,qm,qu,qj,qt];unfold maxLen;omega
   ·rw[qr e2,qbg,qw];rfl
  ·have e2:k=p0[i].Txs.length:=by have:=qc e2;omega
   subst e2;refine⟨by trivial,⟨i+1,rfl,by omega,?_⟩,by(dsimp only;omega)⟩;rw[qbd,qr e];unfold wtL;rw[qbo];simp
 ·have e:i=p0.length:=by have:=qc e;omega
  subst e;rw[qbd]
noncomputable def kic:Ct:= .gp 8 [.st 0,.sl (.st 3)] [.st 19,yqi] [] fun(p0:wP) (p1:List wU)=>(BLk p1/\0<=p0.wd/\p0.wD<=6,((raudS p0 p1).o:wK),((raudS p0 p1).e:Int),())
theorem kkx:kic.O:=qrv Bs Tryz.func8 (.r 0 (.nd [] (.jn ⟨[],[],[13],[.one (.d (.bool))],[]⟩ [] .no [] .no) [] .no)) (klc.c (k4i.c (knw.c c0))) (Q:=∀(p0:wP) (p1:List wU),(BLk p1/\0<=p0.wd/\p0.wD<=6)->∀r0:wK,((raudS p0 p1).o)=r0->∀r1:Int,((raudS p0 p1).e)=r1-> 
∀J1:Bool->Prop,(∀(b1:Bool),
((b1=true->
0=r0.wBR/\0=r0.wBS/\0=r0.wAE/\0=r0.wAx/\0=r0.wAU/\0=r0.wT/\0=r0.wAR/\0=r0.wAq/\0=r0.wAL/\([]:Li)=r0.wAD/\0=r0.wAH/\0=r0.wAM/\([]:Li)=r0.wAC/\0=r0.wAI/\1=r1)/\
(b1=false->
(BLk p1)/\((wtL p1)=wtL p1/\BLk p1/\rulesE p0=0/\0<=p0.wd/\p0.wD<=6/\(wAr.mk false 0 0 ([]:List wG) ([]:List wAj) ([]:List wAj)).wAz=false)/\let r2:=(rbkS (wAr.mk false 0 0 ([]:List wG) ([]:List wAj) ([]:List wAj)) p0 p1).o
let r3:Int:=((rbkS (wAr.mk false 0 0 ([]:List wG) ([]:List wAj) ([]:List wAj)) p0 p1).e)
r2.wBR=r0.wBR/\r2.wBS=r0.wBS/\r2.wAE=r0.wAE/\r2.wAx=r0.wAx/\r2.wAU=r0.wAU/\r2.wT=r0.wT/\r2.wAR=r0.wAR/\r2.wAq=r0.wAq/\r2.wAL=r0.wAL/\r2.wAD=r0.wAD/\r2.wAH=r0.wAH/\r2.wAM=r0.wAM/\r2.wAC=r0.wAC/\r2.wAI=r0.wAI/\r3=r1))->J1 b1)->
(((rulesE p0) !=0)=true->
J1 true)/\
(((rulesE p0) !=0)=false->
J1 (p0.wAk !=2)))<|by
 rintro p0 p1 h _ rfl _ rfl;obtain⟨hl,hw,h6⟩:=h;intro J1 k1
 have hx:∀b:Bool,(b=true↔(rulesE p0≠0∨p0.wAk≠2))->J1 b:=by
  intro b hb;have kb:=k1 b;unfold raudS at kb;refine kb ⟨fun e=> ?_,fun e=> ?_⟩
  ·rw[qf (hb.1 e)];exact(by repeat' first|apply qaa|exact rfl|exact ql)
  ·have hn:¬(rulesE p0≠0∨p0.wAk≠2):=fun hh=>by rw[hb.2 hh]at e;cases e
   rw[qe hn];exact⟨hl,⟨rfl,hl,qz fun hh=>hn (.inl hh),hw,h6,rfl⟩,(by repeat' first|apply qaa|exact rfl|exact ql)⟩
 refine⟨fun e=>hx true ⟨fun _=> .inl (by simpa using e),fun _=>rfl⟩,fun e=>hx _ ?_⟩;have e:rulesE p0=0:=by simpa using e
 simp[e]
noncomputable def ki6:Ct:= .gp 25 [yqu] [yqu] [] fun(p0:Int)=>(U64 p0,(hashS 8 [p0]:Int),())
theorem km0:ki6.O:=qrv Bs Tryz.func25 .no (k5k.c c0) (Q:=∀(p0:Int),(U64 p0)->∀r0:Int,(hashS 8 [p0])=r0-> 
(U64 (8:Int)/\Us [p0]/\[p0].length<=1073741824)/\(hashS (8:Int) [p0])=r0)<|by rintro p0 h _ rfl;exact⟨⟨by decide,(by intro x hx;rw[qal]at hx;subst hx;exact h),by simp⟩,rfl⟩
noncomputable def kna:Ct:= .gp 26 [.sl yqu,yqu] [.bool] [] fun(p0:Li) (p1:Int)=>(p0.length<=4294967295,(decide (p1∈p0):Bool),())
theorem kp5:kna.O:=qrv Bs Tryz.func26 (.r 0 (.nd [] (.r 0 (.lp [] ⟨[],[],[5],[.one (zqi)],[]⟩ .no)) [] .no)) c0 (Q:=∀(p0:Li) (p1:Int),(p0.length<=4294967295)->∀r0:Bool,(decide (p1∈p0))=r0-> 
∃(I1:Int->Prop) (M1:Int->Nat),I1 0/\∀b1,(I1 b1->
(decide (b1<(p0.length:Int))=true->
(0<=b1)/\b1<(p0.length:Int)/\(((ix p0 b1)==p1)=true->
true=r0)/\
(((ix p0 b1)==p1)=false->
I1 (i64.wrap (b1+1))/\M1 (i64.wrap (b1+1))<M1 b1))/\
(decide (b1<(p0.length:Int))=false->
false=r0)))<|by
 rintro p0 p1 h _ rfl;refine(⟨(fun a=>∃i:Nat,a=(i:Int)/\i<=p0.length/\p1∉p0.take i),(fun a=>(p0.length-a).toNat),⟨0,rfl,by omega,by simp⟩,?_⟩);rintro _ ⟨i,rfl,hi,hm⟩;refine⟨fun e=> ?_,fun e=> ?_⟩
 ·have e:i<p0.length:=by have:=qb e;omega
  rw[ix_get _ _ e,inc_i64 _ qqo];refine⟨by omega,by omega,fun e2=> ?_,fun e2=>⟨⟨i+1,rfl,by omega,?_⟩,by(dsimp only;omega)⟩⟩
  ·have e2:p0[i]=p1:=by simpa using e2
   rw[<-e2,qas (qah e)]
  ·have e2:¬p0[i]=p1:=by simpa using e2
   rw[qr e];simp only[qak,qal];exact fun hh=>hh.elim hm fun h=>e2 h.symm
 ·have e:i=p0.length:=by have:=qc e;omega
  subst e;rw[qbd]at hm;rw[qay hm]
noncomputable def kla:Ct:= .gp 10 [yqu,.sl (.st 3)] [.sl (.st 20)] [] fun(p0:Int) (p1:List wU)=>(U64 p0/\BLk p1/\(∀(i:Nat) (hi:i<p1.length),p1[i].wO=(i:Int)+1),(paidS p0 p1:List wc),())
theorem kn5:kla.O:=qrx Bs [130,131] Tryz.func10 (.r 4 (.nd [] (.r 0 (.lp [.rnil 6 (.st 20)] ⟨[],[.vec (.st 20)],[6,7,8,10],[.one (.row 0),.one (zqi),.one (zqi),.one (zqi)],[0]⟩ (.r 0 (.nd [] (.r 0 (.lp [] ⟨[],[.vec (.st 20)],[6,7,8,11],[.one (.row 0),.one (zqi),.one (zqi),.one (zqi)],[1]⟩ (.r 0 (.nd [] (.nd [] (.r 0 (.lp [] ⟨[2],[.vec (.st 20)],[12],[.one (zqi)],[]⟩ (.r 0 (.nd [] (.jn ⟨[],[],[67],[.one (.d (.bool))],[]⟩ [] .no [] .no) [] .no)))) [] (.nd [] (.r 0 (.lp [] ⟨[],[.vec (.st 20)],[6,7,13],[.one (.row 0),.one (zqi),.one (zqi)],[2]⟩ (.r 0 (.nd [] (.r 0 (.nd [] (.r 0 (.lp [] ⟨[],[.vec (.st 20)],[6,15],[.one (.row 0),.one (zqi)],[3]⟩ (.r 0 (.nd [] (.r 0 (.jn ⟨[5],[.vec (.st 20)],[6],[.one (.view 0)],[]⟩ [] (.jn ⟨[],[],[117],[.one (.d (.bool))],[]⟩ [] .no [] .no) [] .no)) [] .no)))) [] .no)) [] .no)))) [] .no)) [] .no)))) [] .no)))) [] (.r 0 (.rt [.frz 1 [4]])))) x0 (k4i.c (km0.c (kb1.c (kp5.c (k90.c c0))))) (Q:=∀(p0:Int) (p1:List wU),(U64 p0/\BLk p1/\(∀(i:Nat) (hi:i<p1.length),p1[i].wO=(i:Int)+1))->∀r0:List wc,paidS p0 p1=r0-> 
(BLk p1)/\(U64 p0)/\(0=([]:List wc).length)/\∃(I1:Int->Int->Int->(List wc)->Prop) (M1:Int->Int->Int->(List wc)->Nat),I1 0 0 0 ([]:List wc)/\∀b1 f1 i1 k1,(I1 b1 f1 i1 k1->
(decide (i1<(p1.length:Int))=true->
lz k1/\∃(I2:Int->Int->Int->(List wc)->Prop) (M2:Int->Int->Int->(List wc)->Nat),I2 b1 f1 0 k1/\∀l1 m1 n1 o1,(I2 l1 m1 n1 o1->
(0<=i1)/\i1<(p1.length:Int)/\let v1:Bool:=decide (n1<(((ix p1 i1).Txs).length:Int))
(v1=true->
∃(I3:Int->(List wc)->Prop) (M3:Int->(List wc)->Nat),I3 0 o1/\∀q1 s1,(I3 q1 s1->
(decide (q1<(o1.length:Int))=true->
∀J1:Bool->Prop,(∀(t1:Bool),
((t1=true->
(0<=q1/\q1<(o1.length:Int))/\(0<=q1/\q1<(s1.length:Int))/\I3 (i64.wrap (q1+1)) (s1.set q1.toNat (wc.mk ((ix s1 q1).wR) ((ix s1 q1).we) ((ix s1 q1).wY) ((ix s1 q1).wz) ((ix s1 q1).wAP) ((ix s1 q1).wC) ((ix s1 q1).wO) (i64.wrap (i1+1))))/\M3 (i64.wrap (q1+1)) (s1.set q1.toNat (wc.mk ((ix s1 q1).wR) ((ix s1 q1).we) ((ix s1 q1).wY) ((ix s1 q1).wz) ((ix s1 q1).wAP) ((ix s1 q1).wC) ((ix s1 q1).wO) (i64.wrap (i1+1))))<M3 q1 s1)/\
(t1=false->
I3 (i64.wrap (q1+1)) s1/\M3 (i64.wrap (q1+1)) s1<M3 q1 s1))->J1 t1)->
(0<=q1/\q1<(o1.length:Int))/\(0<=q1/\q1<(s1.length:Int))/\((((ix s1 q1).wAU)==0)=true->
(0<=i1)/\i1<(p1.length:Int)/\(0<=n1)/\n1<(((ix p1 i1).Txs).length:Int)/\(0<=q1/\q1<(o1.length:Int))/\(0<=q1/\q1<(s1.length:Int))/\(U64 (hashS 8 [p0])/\U64 ((ix s1 q1).wY))/\let r2:Int:=(markV (hashS 8 [p0]) ((ix s1 q1).wY))
(((ix ((ix p1 i1).Txs) n1).wE).length<=4294967295)/\let r3:Bool:=(decide (r2∈((ix ((ix p1 i1).Txs) n1).wE)))
J1 r3)/\
((((ix s1 q1).wAU)==0)=false->
J1 false))/\
(decide (q1<(o1.length:Int))=false->
(o1.length=s1.length)/\∃(I4:Int->Int->(List wc)->Prop) (M4:Int->Int->(List wc)->Nat),I4 l1 0 s1/\∀u1 x1 y1,(I4 u1 x1 y1->
(0<=m1)/\m1<((wtL p1).length:Int)/\let v4:Bool:=decide (x1<(((ix (wtL p1) m1).wBO).length:Int))
(v4=true->
(0<=m1)/\m1<((wtL p1).length:Int)/\(0<=x1)/\x1<(((ix (wtL p1) m1).wBO).length:Int)/\lz y1/\∃(I5:Int->(List wc)->Prop) (M5:Int->(List wc)->Nat),I5 3 y1/\∀b2 f2,(I5 b2 f2->
(decide (0<=b2)=true->
(U64 (hashS 8 [p0])/\-9223372036854775808<=b2/\b2<=9223372036854775807)/\let v5:Bool:=(((ix ((ix (wtL p1) m1).wBO) x1).wAg) !=(ownerS (hashS 8 [p0]) b2))
(v5=true->
lz f2/\I5 (i64.wrap (b2-1)) f2/\M5 (i64.wrap (b2-1)) f2<M5 b2 f2)/\
(v5=false->
∀J2:Int->Int->(List wc)->Prop,(∀(i2 k2:Int) (l2:List wc),
(let v7:List wc:=[wc.mk ((ix ((ix (wtL p1) m1).wBO) x1).Value) ((ix ((ix (wtL p1) m1).wBO) x1).wAg) ((ix ((ix (wtL p1) m1).wBO) x1).Rho) ((ix ((ix (wtL p1) m1).wBO) x1).wBL) b2 u1 (i64.wrap (i1+1)) 0]
i2.toNat=0/\k2.toNat<=l2.length/\lz v7/\((l2.take k2.toNat).length+v7.length)*64<=140737488355328/\(l2.take k2.toNat).length+v7.length<=maxLen/\lz ((l2.take k2.toNat)++v7)/\I5 (i64.wrap (b2-1)) ((l2.take k2.toNat)++v7)/\M5 (i64.wrap (b2-1)) ((l2.take k2.toNat)++v7)<M5 b2 f2)->J2 i2 k2 l2)->
∀J3:Bool->Prop,(∀(m2:Bool),
((m2=true->
(0<=i64.wrap ((f2.length:Int)-1))/\i64.wrap ((f2.length:Int)-1)<=(f2.length:Int)/\J2 (0:Int) (((i64.wrap ((f2.length:Int)-1)).toNat:Nat):Int) f2)/\
(m2=false->
J2 (0:Int) (f2.length:Int) f2))->J3 m2)->
(decide (0<(f2.length:Int))=true->
(0<=i64.wrap ((f2.length:Int)-1)/\i64.wrap ((f2.length:Int)-1)<(f2.length:Int))/\(0<=i64.wrap ((f2.length:Int)-1)/\i64.wrap ((f2.length:Int)-1)<(f2.length:Int))/\let v6:Int:=(ix f2 (i64.wrap ((f2.length:Int)-1))).wC
J3 (v6==u1))/\
(decide (0<(f2.length:Int))=false->
J3 false)))/\
(decide (0<=b2)=false->
lz f2/\I4 (i64.wrap (u1+1)) (i64.wrap (x1+1)) f2/\M4 (i64.wrap (u1+1)) (i64.wrap (x1+1)) f2<M4 u1 x1 y1)))/\
(v4=false->
lz y1/\I2 u1 (i64.wrap (m1+1)) (i64.wrap (n1+1)) y1/\M2 u1 (i64.wrap (m1+1)) (i64.wrap (n1+1)) y1<M2 l1 m1 n1 o1)))))/\
(v1=false->
lz o1/\I1 l1 m1 (i64.wrap (i1+1)) o1/\M1 l1 m1 (i64.wrap (i1+1)) o1<M1 b1 f1 i1 k1)))/\
(decide (i1<(p1.length:Int))=false->
lz k1/\k1=r0)))<|by
 rintro p0 p1 h _ rfl;obtain⟨hs,hl,hH⟩:=h;have hln:=hl.len;have hK:=kh 8 [p0];refine⟨hl,hs,rfl,?_⟩;unfold paidS;generalize hashS 8 [p0]=K at *
 generalize hG:pdL K p1 ⟨[],0⟩=G;refine⟨(fun a f i o=>∃j:Nat,i=(j:Int)/\j<=p1.length/\f=((wtL (p1.take j)).length:Int)/\PDk ⟨o,a⟩ (16*j)/\pdL K (p1.drop j) ⟨o,a⟩=G),(fun _ _ i _=>(p1.length-i).toNat),⟨0,rfl,by omega,rfl,PDk.start,hG⟩,?_⟩;rintro a _ _ o ⟨j,rfl,hj,rfl,hk,hg⟩;refine⟨fun e=> ?_,fun e=> ?_⟩
 ·have e:j<p1.length:=by have:=qb e;omega
  have hb:=qah e;have hb1:=hl.r _ hb;have h4:=hl.tl _ hb;have hwl:=wtL_len (p1.take j) fun b hb=>hl.tl b (qbk hb);rw[qu]at hwl;rw[qo e]at hg;have hg:pdL K (p1.drop (j+1)) (pdX K p1[j].wO p1[j].Txs ⟨o,a⟩)=G:=hg;rw[hH j e]at hg;rw[ix_get _ _ e,show i64.wrap ((j:Int)+1)=(j:Int)+1 from wi _ qqo qqo];generalize hG2:pdX K ((j:Int)+1) p1[j].Txs ⟨o,a⟩=G2 at hg;refine⟨by trivial,(fun a' f' k o' =>∃m:Nat,k=(m:Int)/\m<=p1[j].Txs.length/\f' =(((wtL (p1.take j)).length+m:Nat):Int)/\PDk ⟨o',a'⟩ (16*j+4*m)/\pdX K ((j:Int)+1) (p1[j].Txs.drop m) ⟨o',a'⟩=G2),(fun _ _ k _=>(p1[j].Txs.length-k).toNat),⟨0,rfl,by omega,rfl,hk,hG2⟩,?_⟩;rintro a' _ _ o' ⟨m,rfl,hm,rfl,hk',hg'⟩;refine⟨by omega,by omega,fun e2=> ?_,fun e2=> ?_⟩
  ·have e2:m<p1[j].Txs.length:=by have:=qb e2;omega
   obtain⟨w1,w2⟩:=wtL_ix e e2;have ht:=hb1.l _ (qah e2);rw[qo e2]at hg';have hg' :pdX K ((j:Int)+1) (p1[j].Txs.drop (m+1)) (pdT K ((j:Int)+1) p1[j].Txs[m] ⟨o',a'⟩)=G2:=hg';obtain⟨n1,n2⟩:=decW_NR p1[j].Txs[m].wh;have hpc:=hk'.pc;have hpc:a'<=((16*j+4*m:Nat):Int):=hpc;have hp0:=hk'.p0;have hp0:0<=a' :=hp0;have hol:=hk'.ol;have hol:(o'.length:Int)<=a' :=hol;have hsp:=hk'.spend K ((j:Int)+1) p1[j].Txs[m].wE;have hml:=ht.m;rw[w2,wtOf_o,ix_get _ _ e2,inc_i64 m qqo];have hpt:pdT K ((j:Int)+1) p1[j].Txs[m] ⟨o',a'⟩=⟨pdO K ((j:Int)+1) (decW p1[j].Txs[m].wh).1.wA a' (o'.map (spO K ((j:Int)+1) p1[j].Txs[m].wE)),a' +((decW p1[j].Txs[m].wh).1.wA.length:Int)⟩:=rfl;rw[hpt]at hg';generalize (decW p1[j].Txs[m].wh).1.wA=outs at *
   generalize p1[j].Txs[m].wE=mk at *
   refine⟨(fun q s=>∃i:Nat,q=(i:Int)/\i<=o'.length/\s=spL K ((j:Int)+1) mk o' i),(fun q _=>(o'.length-q).toNat),⟨0,rfl,qaq _,rfl⟩,?_⟩;rintro _ _ ⟨i,rfl,hi,rfl⟩;have hx2:=spL_len (key:=K) (h:=(j:Int)+1) (ms:=mk) (o:=o') (j:=i);refine⟨fun e3=> ?_,fun e3=> ?_⟩
   ·have e3:i<o'.length:=by have:=qb e3;omega
    have hrho:=(hk'.op _ (qah e3)).2;rw[spL_ix e3,inc_i64 i qqo];intro J1 k1
    have j1:∀b:Bool,(b=true↔(o'[i].wAU=0/\markV K o'[i].wY∈mk))->J1 b:=by
     intro b hb2;refine k1 b ⟨fun e4=>⟨⟨by omega,by omega⟩,⟨by omega,by omega⟩,⟨i+1,rfl,e3,?_⟩,by(dsimp only;omega)⟩,fun e4=>⟨⟨i+1,rfl,e3,?_⟩,by(dsimp only;omega)⟩⟩
     ·rw[kd2 e3,qx];unfold spO;rw[qf (hb2.1 e4)]
     ·refine(kkk e3 ?_).symm;unfold spO;rw[qe fun hh=>by rw[hb2.2 hh]at e4;cases e4]
    refine⟨⟨by omega,by omega⟩,⟨by omega,by omega⟩,fun e4=> ?_,fun e4=> ?_⟩
    ·have e4:o'[i].wAU=0:=by simpa using e4
     exact⟨by omega,by omega,by omega,by omega,⟨by omega,by omega⟩,⟨by omega,by omega⟩,⟨hK,hrho⟩,by omega,j1 _ (by simp[e4])⟩
    ·have e4:¬o'[i].wAU=0:=by simpa using e4
     exact j1 _ (by simp[e4])
   ·have e3:i=o'.length:=by have:=qc e3;omega
    rw[e3,spL_all];refine⟨by rw[qm],(fun p x y=>∃i:Nat,x=(i:Int)/\i<=outs.length/\p=a' +(i:Int)/\PDk ⟨y,p⟩ (16*j+4*m+i)/\pdO K ((j:Int)+1) (outs.drop i) p y=pdO K ((j:Int)+1) outs a' (o'.map (spO K ((j:Int)+1) mk))),(fun _ x _=>(outs.length-x).toNat),⟨0,rfl,qaq _,by simp,hsp,rfl⟩,?_⟩;rintro p _ y ⟨i,rfl,hi,hp,hky,hgy⟩;refine⟨by omega,by omega,fun e5=> ?_,fun e5=> ?_⟩
    ·have e5:i<outs.length:=by have:=qb e5;omega
     rw[qo e5,kk2]at hgy;have hnr:=n1 _ (qah e5);have hyl:=hky.ol;have hyl:(y.length:Int)<=p:=hyl;have hnx:=apS_ok (key:=K) (h:=(j:Int)+1) hnr hky;rw[ix_get _ _ e5,inc_i64 i qqo,show i64.wrap (p+1)=p+1 from wi _ qqo qqo];generalize outs[i]=z at *
     refine⟨by omega,by omega,by omega,by omega,by trivial,(fun b f=>∃n:Nat,b=3-(n:Int)/\n<=4/\f=apS K ((j:Int)+1) z p y n),(fun b _=>(b+1).toNat),⟨0,by omega,by omega,kte.symm⟩,?_⟩;rintro _ _ ⟨n,rfl,hn,rfl⟩;refine⟨fun e6=> ?_,fun e6=> ?_⟩
     ·have e6:=qb e6;have hwr:i64.wrap (3-(n:Int)-1)=3-((n+1:Nat):Int):=by rw[wi _ qqo qqo];push_cast;omega
      rw[hwr];refine⟨⟨hK,by omega,by omega⟩,fun e7=> ?_,fun e7=> ?_⟩
      ·have e7:¬z.wAg=ownerS K (3-(n:Int)):=by simpa using e7
       exact⟨by trivial,⟨n+1,rfl,by omega,(apS_no fun hh=>e7 hh.symm).symm⟩,by(dsimp only;push_cast;omega)⟩
      ·have e7:z.wAg=ownerS K (3-(n:Int)):=by simpa using e7
       intro J2 k2
       have hal:(apS K ((j:Int)+1) z p y n).length<=y.length+1:=by
        unfold apS;split
        ·simp
        ·omega
       have j2:∀q:Nat,q=y.length->(apS K ((j:Int)+1) z p y n).take q=y->J2 0 (q:Int) (apS K ((j:Int)+1) z p y n):=by
        intro q hq1 hq;have hle:q<=(apS K ((j:Int)+1) z p y n).length:=by have:=congrArg List.length hq;rw[qu]at this;omega
        refine k2 _ _ _ ?_;rw[qx,hq];refine⟨rfl,hle,rfl,?_,?_,by trivial,⟨n+1,rfl,by omega,?_⟩,by(dsimp only;push_cast;omega)⟩
        ·simp only[qj,qt];omega
        ·simp only[qj,qt,maxLen];omega
        ·rw[apS_yes e7.symm];rfl
       intro J3 k3
       have j3:∀b:Bool,(b=true↔adF K z.wAg n<4)->J3 b:=by
        intro b hb3;refine k3 b ⟨fun e8=> ?_,fun e8=> ?_⟩
        ·have ha:apS K ((j:Int)+1) z p y n=y++[mkO z (adF K z.wAg n) p ((j:Int)+1)]:=qf (hb3.1 e8);have hlen:(apS K ((j:Int)+1) z p y n).length=y.length+1:=by rw[ha];simp
         have hww:i64.wrap (((apS K ((j:Int)+1) z p y n).length:Int)-1)=(y.length:Int):=by rw[hlen,wi _ qqo qqo];omega
         rw[hww];refine⟨by omega,by omega,j2 _ rfl ?_⟩;rw[ha];simp
        ·have ha:apS K ((j:Int)+1) z p y n=y:=qe fun hh=>by rw[hb3.2 hh]at e8;cases e8
         have j2:=j2 y.length rfl (by rw[ha];simp);rw[ha]at j2 ⊢;exact j2
       by_cases ha4:adF K z.wAg n<4
       ·have ha:apS K ((j:Int)+1) z p y n=y++[mkO z (adF K z.wAg n) p ((j:Int)+1)]:=qf ha4;have hlen:(apS K ((j:Int)+1) z p y n).length=y.length+1:=by rw[ha];simp
        have hww:i64.wrap (((apS K ((j:Int)+1) z p y n).length:Int)-1)=(y.length:Int):=by rw[hlen,wi _ qqo qqo];omega
        rw[hww];refine⟨fun e8=>⟨⟨by omega,by omega⟩,⟨by omega,by omega⟩,j3 _ ?_⟩,fun e8=> ?_⟩
        ·have:(ix (apS K ((j:Int)+1) z p y n) (y.length:Int)).wC=p:=by rw[ix_get _ _ qqo];simp only[ha,List.getElem_concat_length];rfl
         rw[this];simp[ha4]
        ·have e8:=qc e8;omega
       ·have ha:apS K ((j:Int)+1) z p y n=y:=qe ha4;refine⟨fun e8=> ?_,fun e8=>j3 _ (by simp[ha4])⟩;have e8:=qb e8;rw[ha]at e8 ⊢;have hlt:y.length-1<y.length:=by omega
        have hww:i64.wrap ((y.length:Int)-1)=((y.length-1:Nat):Int):=by rw[wi _ qqo qqo];omega
        have hix:(ix y ((y.length-1:Nat):Int)).wC<p:=by rw[ix_get _ _ hlt];exact(hky.op _ (qah hlt)).1
        rw[hww];refine⟨⟨by omega,by omega⟩,⟨by omega,by omega⟩,j3 _ ?_⟩;simp only[beq_iff_eq];exact⟨fun hh=>by omega,fun hh=>(ha4 hh).elim⟩
     ·have e6:n=4:=by have:=qc e6;omega
      rw[e6];exact⟨by trivial,⟨i+1,rfl,e5,by rw[hp];push_cast;omega,hnx,hgy⟩,by(dsimp only;omega)⟩
    ·have e5:i=outs.length:=by have:=qc e5;omega
     rw[e5,qbs]at hgy;have hgy:y=pdO K ((j:Int)+1) outs a' (o'.map (spO K ((j:Int)+1) mk)):=hgy;rw[<-hgy]at hg';refine⟨by trivial,⟨m+1,rfl,e2,?_,hky.mono qqo,?_⟩,by(dsimp only;omega)⟩
     ·rw[inc_i64 _ qqo];rfl
     ·rw[hp,e5];exact hg'
  ·have e2:m=p1[j].Txs.length:=by have:=qc e2;omega
   rw[e2,qbs]at hg';have hg' :(⟨o',a'⟩:PD)=G2:=hg';rw[<-hg']at hg;exact⟨by trivial,⟨j+1,rfl,e,by rw[klo e,e2],hk'.mono qqo,hg⟩,by(dsimp only;omega)⟩
 ·have e:j=p1.length:=by have:=qc e;omega
  rw[e,qbs]at hg;rw[<-hg];exact⟨by trivial,rfl⟩
end Go.Proofs.YtljmmhaiaipckaaGreat
end
