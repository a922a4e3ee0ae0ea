/-
  Parts of the proofs that the laws of this seat hold of every input, merged by a program: a machine over pure data that is sound for the model, what each function of the translation does in it, and plain lemmas. No conditions but those in each theorem.
-/
import Derived.Test.YtcghahkoioeddaaGreatDoorA4
set_option linter.all false
set_option maxRecDepth 100000
noncomputable section
namespace Go.Proofs.YtcghahkoioeddaaGreatDoor
open Go Go.Bv Go.Cv Go.Md Go.RowKit
open Go.IntKind (i64 u64)
def insI (x:Int):List Int->List Int
 |[]=>[x]
 |y::r=>if x<=y then x::y::r else y::insI x r
def srt:List Int->List Int
 |[]=>[]
 |x::r=>insI x (srt r)
theorem k9h (x:Int):∀l,(insI x l).Perm (x::l)
 |[]=>List.Perm.refl _
 |y::r=>by
  unfold insI;split
  ·exact List.Perm.refl _
  ·exact((k9h x r).cons y).trans (List.Perm.swap x y r)
theorem k4r:∀l,(srt l).Perm l
 |[]=>List.Perm.refl _
 |x::r=>(k9h x (srt r)).trans ((k4r r).cons x)
theorem kbj (x:Int):∀l:List Int,l.Pairwise (·<=·)->(insI x l).Pairwise (·<=·)
 |[],_=>by simp[insI]
 |y::r,h=>by
  unfold insI;rw[List.pairwise_cons]at h;split
  ·rename_i hxy;rw[List.pairwise_cons,List.pairwise_cons];refine⟨fun z hz=> ?_,h⟩;rcases qam.1 hz with rfl|hz
   ·exact hxy
   ·exact qez hxy (h.1 z hz)
  ·rename_i hxy;rw[List.pairwise_cons];refine⟨fun z hz=> ?_,kbj x r h.2⟩;rcases qam.1 ((k9h x r).mem_iff.1 hz)with rfl|hz
   ·omega
   ·exact h.1 z hz
theorem k7z:∀l,(srt l).Pairwise (·<=·)
 |[]=>List.Pairwise.nil
 |x::r=>kbj x _ (k7z r)
theorem k43:∀(l m:List Int),l.Perm m->l.Pairwise (·<=·)->m.Pairwise (·<=·)->l=m
 |[],m,h,_,_=>by rw[h.symm.eq_nil]
 |x::l,[],h,_,_=>by cases h.eq_nil
 |x::l,y::m,h,hl,hm=>by
  rw[List.pairwise_cons]at hl hm;have hx:x∈y::m:=h.mem_iff.1 qqs;have hy:y∈x::l:=h.mem_iff.2 qqs
  have e:x=y:=by
   rcases qam.1 hx with e|hx
   ·exact e
   ·rcases qam.1 hy with e|hy
    ·exact e.symm
    ·have:=hl.1 y hy;have:=hm.1 x hx;omega
  subst e;rw[k43 l m ((List.perm_cons x).1 h) hl.2 hm.2]
theorem srt_eq {l m:List Int} (h:m.Perm l) (hs:m.Pairwise (·<=·)):m=srt l:=k43 _ _ (h.trans (k4r l).symm) hs (k7z l)
theorem k81 (l:List Int):(srt l).length=l.length:=(k4r l).length_eq
theorem k73 (d:Array Int) (a b k:Nat) (hb:b<=d.size) (hk:a+k<b):(d.extract a b).toList[k]? =some d[a+k]! :=by rw[Sort.extract_toList d a b hb,ql,List.getElem?_range' qqo];simp
theorem k62 {d:Array Int} {a b:Nat} (hb:b<=d.size) (h:Sort.SortedIn Sort.ltInt a b d):(d.extract a b).toList.Pairwise (·<=·):=by
 rw[qfr];intro i j hi hj hij;have hl:(d.extract a b).toList.length=b-a:=by simp;omega
 have e1:=k73 d a b i hb qqo;have e2:=k73 d a b j hb qqo;rw[qd hi]at e1;rw[qd hj]at e2;rw[Option.some.inj e1,Option.some.inj e2];have:=h (a+i) (a+j) qqo qqo qqo;rw[ltI_iff]at this;have:=qc this;omega
theorem khp {d R R' :Array Int} {a b:Nat} (hb:b<=d.size) (h1:Sort.PermIn a b d R) (h2:Sort.SortedIn Sort.ltInt a b R) (h3:Sort.PermIn a b d R') (h4:Sort.SortedIn Sort.ltInt a b R'):R=R' :=by
 have e:=k43 _ _ (h1.2.2.trans h3.2.2.symm) (k62 (by rw[h1.1];exact hb) h2) (k62 (by rw[h3.1];exact hb) h4);refine Array.ext (by rw[h1.1,h3.1]) fun i hi hi' => ?_;have q1:R[i]! =R[i]:=getElem!_pos R i hi;have q2:R'[i]! =R'[i]:=getElem!_pos R' i hi';rw[<-q1,<-q2];by_cases hc:a<=i/\i<b
 ·have e1:=k73 R a b (i-a) (by rw[h1.1];exact hb) qqo;have e2:=k73 R' a b (i-a) (by rw[h3.1];exact hb) qqo;rw[e,e2,show a+(i-a)=i by omega]at e1;exact(Option.some.inj e1).symm
 ·rw[h1.2.1 i qqo,h3.2.1 i qqo]
theorem k31 {g:List Int} {a b:Int} (h0:0<=a) (h1:a<=b) (h2:b<=g.length):Sort.PermIn a.toNat b.toNat g.toArray (insS g a b).toArray/\Sort.SortedIn Sort.ltInt a.toNat b.toNat (insS g a b).toArray:=by have:=Sort.insertionSort_holds (lt:=Sort.ltInt) Sort.swo_ltInt g.toArray a.toNat b.toNat qqo qqm;unfold insS;simpa using this
theorem kla {g:List Int} {a b:Int} (h0:0<=a) (h1:a<=b) (h2:b<=g.length):Sort.PermIn a.toNat b.toNat g.toArray (heapS g a b).toArray/\Sort.SortedIn Sort.ltInt a.toNat b.toNat (heapS g a b).toArray:=by have:=Sort.heapSort_holds (lt:=Sort.ltInt) Sort.swo_ltInt g.toArray a.toNat b.toNat qqo qqm;unfold heapS;simpa using this
theorem koo (g:List Int):insS g 0 g.length=srt g:=by
 obtain⟨h1,h2⟩:=k31 (g:=g) (a:=0) (b:=g.length) qqo qqo qqo;have hl:(insS g 0 g.length).length=g.length:=kcf qqo qqo qqo;have e:=h1.2.2;have s:=k62 (d:=(insS g 0 g.length).toArray) qqm h2
 have x1:((insS g 0 g.length).toArray.extract (0:Int).toNat (g.length:Int).toNat).toList=insS g 0 g.length:=by
  have key:∀l:List Int,(l.toArray.extract 0 l.length).toList=l:=by intro l;simp
  have:=key (insS g 0 g.length);rw[hl]at this;simp only[qr,Int.toNat_zero];exact this
 have x2:(g.toArray.extract (0:Int).toNat (g.length:Int).toNat).toList=g:=by simp
 rw[x1]at s e;rw[x2]at e;exact srt_eq e s
structure PdqI (R0:Array Int) (n:Nat) (a b:Int) (g:List Int):Prop where
 a0:0<=a
 ab:a<=b
 bl:b<=g.length
 n:g.length=n
 be:Sort.Below Sort.ltInt a.toNat b.toNat g.toArray
 u:∀R,Sort.PermIn a.toNat b.toNat g.toArray R->Sort.SortedIn Sort.ltInt a.toNat b.toNat R->R=R0
theorem PdqI.perm {R0:Array Int} {n:Nat} {a b:Int} {g:List Int} {d:Array Int} (h:PdqI R0 n a b g) (hp:Sort.PermIn a.toNat b.toNat g.toArray d):PdqI R0 n a b d.toList:=by have hb:=h.bl;have ha:=h.a0;have hs:=hp.1;simp at hs;refine⟨ha,h.ab,by simp;omega,by simp;rw[hs];exact h.n,?_,fun R h1 h2=>h.u R (Sort.permIn_trans _ _ _ _ _ hp (by simpa using h1)) h2⟩;simpa using h.be.perm qqm hp
theorem PdqI.ins {R0:Array Int} {n:Nat} {a b:Int} {g:List Int} (h:PdqI R0 n a b g):insS g a b=R0.toList:=by obtain⟨h1,h2⟩:=k31 h.a0 h.ab h.bl;rw[<-h.u _ h1 h2]
theorem PdqI.heap {R0:Array Int} {n:Nat} {a b:Int} {g:List Int} (h:PdqI R0 n a b g):heapS g a b=R0.toList:=by obtain⟨h1,h2⟩:=kla h.a0 h.ab h.bl;rw[<-h.u _ h1 h2]
theorem PdqI.brk {R0:Array Int} {n:Nat} {a b:Int} {g:List Int} (h:PdqI R0 n a b g):PdqI R0 n a b (brkS g a b):=by have h1:=h.a0;have h2:=h.ab;have h3:=h.bl;exact h.perm (Sort.breakPatterns_holds g.toArray a.toNat b.toNat qqo qqm)
theorem PdqI.rev {R0:Array Int} {n:Nat} {a b:Int} {g:List Int} (h:PdqI R0 n a b g):PdqI R0 n a b (revS g a b):=by have h1:=h.a0;have h2:=h.ab;have h3:=h.bl;exact h.perm (Sort.reverseRange_holds g.toArray a.toNat b.toNat qqo qqm)
theorem PdqI.pis {R0:Array Int} {n:Nat} {a b:Int} {g:List Int} (h:PdqI R0 n a b g) (hab:a<b):PdqI R0 n a b (pisS g a b).1.toList/\((pisS g a b).2=true->(pisS g a b).1.toList=R0.toList):=by have h1:=h.a0;have h2:=h.ab;have h3:=h.bl;obtain⟨q1,q2⟩:=Sort.partialInsertionSort_holds (lt:=Sort.ltInt) Sort.swo_ltInt g.toArray a.toNat b.toNat qqo qqm h.be;exact⟨h.perm q1,fun e=>by rw[<-h.u _ q1 (q2 e)];rfl⟩
theorem PdqI.peq {R0:Array Int} {n:Nat} {a b p:Int} {g:List Int} (h:PdqI R0 n a b g) (ha:0<a) (h1:a<=p) (h2:p<b) (hn:¬ix g (a-1)<ix g p):a<(peqS g a b p).1/\(peqS g a b p).1<=b/\PdqI R0 n (peqS g a b p).1 b (peqS g a b p).2.toList:=by
 have h3:=h.bl;have e1:g.toArray[a.toNat-1]! =ix g (a-1):=by rw[show a.toNat-1=(a-1).toNat by omega];exact arr_ix qqo qqo
 have e2:g.toArray[p.toNat]! =ix g p:=arr_ix qqo qqo;obtain⟨q1,q2,q3,q4,q5⟩:=Sort.round_eq (lt:=Sort.ltInt) (d3:=g.toArray) (d4:=(peqS g a b p).2) (a:=a.toNat) (b:=b.toNat) (pivot:=p.toNat) (mid:=(peqS g a b p).1) Sort.swo_ltInt (Sort.partitionEqual_holds Sort.ltInt) qqo qqo qqo qqm h.be (by rw[e1,e2,ltI_iff];exact qbr hn) rfl;simp at q3;refine⟨by omega,by omega,⟨by omega,by omega,by simp;omega,by simp;rw[q3];exact h.n,by simpa using q4,fun R r1 r2=> ?_⟩⟩;simp only[qr,qdj]at r1 r2;obtain⟨s1,s2⟩:=q5 R r1 r2;exact h.u R s1 s2
theorem PdqI.part {R0:Array Int} {n:Nat} {a b p:Int} {g:List Int} (h:PdqI R0 n a b g) (h1:a<=p) (h2:p<b):a<=(partS g a b p).1/\(partS g a b p).1<b/\(partS g a b p).2.2.size=n/\
  Sort.Below Sort.ltInt a.toNat (partS g a b p).1 (partS g a b p).2.2/\Sort.Below Sort.ltInt ((partS g a b p).1+1) b.toNat (partS g a b p).2.2/\
  PdqI R0 n ((partS g a b p).1+1) b (insS (partS g a b p).2.2.toList a (partS g a b p).1)/\PdqI R0 n a (partS g a b p).1 (insS (partS g a b p).2.2.toList ((partS g a b p).1+1) b):=by
 have h3:=h.bl;have h0:=h.a0;obtain⟨q1,q2,q3,q4,q5,q6,q7⟩:=Sort.round_part (lt:=Sort.ltInt) (d3:=g.toArray) (d4:=(partS g a b p).2.2) (a:=a.toNat) (b:=b.toNat) (pivot:=p.toNat) (mid:=(partS g a b p).1) (ap:=(partS g a b p).2.1) Sort.swo_ltInt (Sort.partition_holds Sort.ltInt) qqo qqo qqm h.be rfl;simp at q3;have hn:=h.n;generalize partS g a b p=P at *
 obtain⟨m,ap,d⟩:=P;dsimp only at *
 have l1:=k31 (g:=d.toList) (a:=a) (b:=m) h0 qqo qqm;have l2:=k31 (g:=d.toList) (a:=(m:Int)+1) (b:=b) qqo qqo qqm;simp only[qdj,qr]at l1 l2;rw[show((m:Int)+1).toNat=m+1 by omega]at l2;have n1:(insS d.toList a m).length=d.toList.length:=kcf h0 qqo qqm;have n2:(insS d.toList ((m:Int)+1) b).length=d.toList.length:=kcf qqo qqo qqm;simp at n1 n2;obtain⟨w1,w2⟩:=q6 _ l1.1 l1.2;obtain⟨w3,w4⟩:=q7 _ l2.1 l2.2;refine⟨by omega,by omega,by omega,q4,q5,⟨by omega,by omega,by omega,by omega,by rw[show((m:Int)+1).toNat=m+1 by omega];exact w1,fun R r1 r2=> ?_⟩,⟨h0,by omega,by omega,by omega,by simpa using w3,fun R r1 r2=> ?_⟩⟩
 ·rw[show((m:Int)+1).toNat=m+1 by omega]at r1 r2;obtain⟨s1,s2⟩:=w2 R r1 r2;exact h.u R s1 s2
 ·simp only[qr]at r1 r2;obtain⟨s1,s2⟩:=w4 R r1 r2;exact h.u R s1 s2
theorem PdqI.start {g:List Int} {a b:Int} (h0:0<=a) (h1:a<=b) (h2:b<=g.length) (hB:Sort.Below Sort.ltInt a.toNat b.toNat g.toArray):PdqI (insS g a b).toArray g.length a b g:=by obtain⟨q1,q2⟩:=k31 h0 h1 h2;exact⟨h0,h1,h2,rfl,hB,fun R r1 r2=>khp qqm r1 r2 q1 q2⟩
def lb (l:List wA) (t:Int):Nat:=(l.takeWhile (fun a=>decide (a.ID<t))).length
def fnd (l:List wA) (t:Int):Bool:=match l[lb l t]? with
 |some a=>decide (a.ID=t)
 |none=>false
def Srt (l:List wA):Prop:=∀i j (_:i<j) (hj:j<l.length),l[i].ID<l[j].ID
theorem lb_eq (l:List wA) (t:Int) (i:Nat) (hi:i<=l.length) (h1:∀k (h:k<l.length),k<i->l[k].ID<t) (h2:∀h:i<l.length,t<=l[i].ID):lb l t=i:=by
 unfold lb;induction l generalizing i with
 |nil=>simp at hi;simp[hi]
 |cons a l ih=>
  cases i with
  |zero=>have:=h2 qqs;simp at this;rw[qdp,qe qqm];rfl
  |succ i=>have h0:=h1 0 qqs qqo;simp at h0;rw[qdp,qh (by simpa using h0),qad,ih i (by simpa using hi) (fun k h hk=>by have:=h1 (k+1) qqh qqo;simpa using this) (fun h=>by have:=h2 qqh;simpa using this)]
theorem lb_le (l:List wA) (t:Int):lb l t<=l.length:=(List.takeWhile_sublist _).length_le
theorem lb_spec (l:List wA) (t:Int):(∀k (h:k<l.length),k<lb l t->l[k].ID<t)/\∀h:lb l t<l.length,t<=l[lb l t].ID:=by
 unfold lb;induction l with
 |nil=>exact⟨fun k h=>absurd h qqs,fun h=>absurd h qqs⟩
 |cons a l ih=>
  by_cases ha:a.ID<t
  ·simp only[qdp,ha,decide_true,qce,qad];refine⟨fun k h hk=> ?_,fun h=> ?_⟩
   ·cases k with
    |zero=>exact ha
    |succ k=>simpa using ih.1 k qqh (by simpa using hk)
   ·simpa using ih.2 qqh
  ·simp only[qdp,ha,decide_false,qbd,qdl,qbf];exact⟨fun k h hk=>absurd hk (Nat.not_lt_zero _),fun h=>by simpa using ha⟩
theorem k4z {l:List wA} {t:Int} (h:fnd l t=true):∃hl:lb l t<l.length,l[lb l t].ID=t:=by
 unfold fnd at h;split at h
 ·rename_i a ha;obtain⟨h1,h2⟩:=qf.1 ha;exact⟨h1,by rw[h2];simpa using h⟩
 ·cases h
def getA (l:List wA) (t:Int):wA:=match l.find? (fun a=>decide (a.ID=t))with
 |some a=>a
 |none=>⟨t,0,0⟩
theorem getA_of {l:List wA} {t:Int} (hs:Srt l) (h:fnd l t=true) (hl:lb l t<l.length):getA l t=l[lb l t]:=by
 obtain⟨_,he⟩:=k4z h;unfold getA;have:l.find? (fun a=>decide (a.ID=t))=some l[lb l t]:=by rw[List.find?_eq_some_iff_getElem];refine⟨by simpa using he,lb l t,hl,rfl,fun j hj=> ?_⟩;have:=(lb_spec l t).1 j qqo hj;simp;omega
 rw[this]
theorem getA_no {l:List wA} {t:Int} (hs:Srt l) (h:fnd l t=false):getA l t=⟨t,0,0⟩:=by
 unfold getA
 have:l.find? (fun a=>decide (a.ID=t))=none:=by
  rw[qeh];intro a ha hat;simp only[qaf]at hat;obtain⟨k,hk,rfl⟩:=qbu ha;obtain⟨g1,g2⟩:=lb_spec l t;rcases qaz k (lb l t)with h1|h1
  ·have:=g1 k hk h1;omega
  ·have h2:lb l t<l.length:=by omega
   have h3:=g2 h2
   have h4:l[lb l t].ID≠t:=by
    intro he;have:fnd l t=true:=by unfold fnd;rw[qd h2];simpa using he
    rw[h]at this;cases this
   rcases qaz (lb l t) k with h5|h5
   ·have:=hs _ _ h5 hk;omega
   ·have:k=lb l t:=by omega
    subst this;omega
 rw[this]
def AccOk (a:wA):Prop:=(0<=a.ID/\a.ID<18446744069414584321)/\(0<=a.wY/\a.wY<=9223372036854775807)/\0<=a.wU/\a.wU<18446744073709551616
def OkA (l:List wA):Prop:=Srt l/\l.length<=1000/\∀a∈l,AccOk a
theorem getA_ok {l:List wA} (h:OkA l) (t:Int):(0<=(getA l t).wY/\(getA l t).wY<=9223372036854775807)/\0<=(getA l t).wU/\(getA l t).wU<18446744073709551616:=by
 unfold getA;split
 ·rename_i a ha;exact(h.2.2 a (List.mem_of_find?_eq_some ha)).2
 ·simp
def putA (l:List wA) (a:wA):List wA:=l.take (lb l a.ID)++(if a.wY≠0∨a.wU≠0 then [a]else [])++l.drop (lb l a.ID+if fnd l a.ID then 1 else 0)
def creditA (l:List wA) (id amt:Int):List wA×Int:=if 9223372036854775807-(getA l id).wY<amt then([],1)else(putA l ⟨id,(getA l id).wY+amt,(getA l id).wU⟩,0)
def debitA (l:List wA) (id amt non:Int):List wA×Int:=if amt=0 then([],1)else if non≠(getA l id).wU∨non=18446744073709551615 then([],20)else if(getA l id).wY<amt then([],15)else(putA l ⟨id,(getA l id).wY-amt,non+1⟩,0)
theorem tail_eq {l:List wA} (hs:Srt l) (t:Int):l.filter (fun x=>decide (t<x.ID))=l.drop (lb l t+if fnd l t then 1 else 0):=by
 obtain⟨g1,g2⟩:=lb_spec l t
 have key:∀(i:Nat),(∀k (h:k<l.length),k<i->l[k].ID<=t)->(∀k (h:k<l.length),i<=k->t<l[k].ID)->l.filter (fun x=>decide (t<x.ID))=l.drop i:=by
  intro i h1 h2;rw[<-qbs i l,List.filter_append,qbs];have e1:(l.take i).filter (fun x=>decide (t<x.ID))=[]:=by rw[qff];intro x hx;obtain⟨k,hk,rfl⟩:=qbu hx;rw[qo]at hk;have:=h1 k qqo qqo;rw[List.getElem_take];simp;omega
  have e2:(l.drop i).filter (fun x=>decide (t<x.ID))=l.drop i:=by rw[qew];intro x hx;obtain⟨k,hk,rfl⟩:=qbu hx;rw[qan]at hk;have:=h2 (i+k) qqo qqo;rw[List.getElem_drop];simp;omega
  rw[e1,e2,qcc]
 apply key
 ·intro k h hk;split at hk
  ·rename_i hf;obtain⟨h1,h2⟩:=k4z hf;rcases qaz k (lb l t)with h3|h3
   ·have:=g1 k h h3;omega
   ·have:k=lb l t:=by omega
    subst this;omega
  ·have:=g1 k h qqo;omega
 ·intro k h hk;split at hk
  ·rename_i hf;obtain⟨h1,h2⟩:=k4z hf;have:=hs (lb l t) k qqo h;omega
  ·rename_i hf;have h1:lb l t<l.length:=by omega
   have h2:=g2 h1;have h3:l[lb l t].ID≠t:=by intro he;apply hf;unfold fnd;rw[qd h1];simpa using he
   rcases qaz (lb l t) k with h5|h5
   ·have:=hs _ _ h5 h;omega
   ·have:k=lb l t:=by omega
    subst this;omega
theorem inc_i64 (i:Nat) (h:i<4611686018427387904):i64.wrap ((i:Int)+1)=((i+1:Nat):Int):=by rw[kp _ qqo qqo];omega
theorem mid_eq (i j:Nat) (h:i+j<9223372036854775808):i64.wrap (ishr .u64 (u64.wrap (i64.wrap (↑i+↑j))) 1)=(((i+j)/2:Nat):Int):=by have e1:i64.wrap ((i:Int)+j)=(i:Int)+j:=kp _ qqo qqo;have e2:u64.wrap ((i:Int)+j)=(i:Int)+j:=wrap_u64 _ qqo qqo;have e:(2:Int)^min (1:Int).toNat u64.bits=2:=rfl;have e3:((i:Int)+j).fdiv 2=((i:Int)+j)/2:=Int.fdiv_eq_ediv_of_nonneg _ qqo;unfold ishr;rw[e1,e2,e,e3,kp _ qqo qqo];omega
def cmp3 (a b:Int):Int:=if a<b then -1 else if b<a then 1 else 0
theorem cmp3_lt {a b:Int}:(cmp3 a b<0)↔a<b:=by unfold cmp3;split<;>(try split)<;>omega
theorem cmp3_eq {a b:Int}:(cmp3 a b=0)↔a=b:=by unfold cmp3;split<;>(try split)<;>omega
theorem put_len (l:List wA) (a:wA):(putA l a).length<=l.length+1:=by have:=lb_le l a.ID;unfold putA;simp only[qj,qo,qan];split<;>simp<;>omega
theorem ok_nil:OkA []:=⟨fun i j _ h=>by simp at h,by simp,by simp⟩
theorem srt_pw {l:List wA}:Srt l↔l.Pairwise (fun a b=>a.ID<b.ID):=by rw[qfr];exact⟨fun h i j hi hj hij=>h i j hij hj,fun h i j hij hj=>h i j qqo hj hij⟩
def Mid (id:Int) (m:List wA):Prop:=m=[]∨∃x:wA,m=[x]/\x.ID=id
def Spl (l:List wA) (id:Int) (a m b:List wA):Prop:=l=a++(m++b)/\(∀x∈a,x.ID<id)/\Mid id m/\∀x∈b,id<x.ID
theorem spl_of {l:List wA} (hs:Srt l) (id:Int):∃a m b,Spl l id a m b:=by
 rw[srt_pw]at hs;induction l with
 |nil=>exact⟨[],[],[],rfl,by simp,.inl rfl,by simp⟩
 |cons x r ih=>
  obtain⟨h1,h2⟩:=List.pairwise_cons.1 hs;by_cases hx:x.ID<id
  ·obtain⟨a,m,b,rfl,g1,g2,g3⟩:=ih h2;refine⟨x::a,m,b,rfl,?_,g2,g3⟩;intro y hy;rcases qam.1 hy with rfl|hy
   ·exact hx
   ·exact g1 y hy
  ·by_cases he:x.ID=id
   ·exact⟨[],[x],r,rfl,by simp,.inr ⟨x,rfl,he⟩,fun y hy=>by have:=h1 y hy;omega⟩
   ·refine⟨[],[],x::r,rfl,by simp,.inl rfl,?_⟩;intro y hy;rcases qam.1 hy with rfl|hy
    ·omega
    ·have:=h1 y hy;omega
theorem take_lb (l:List wA) (t:Int):l.take (lb l t)=l.takeWhile (fun a=>decide (a.ID<t)):=(List.prefix_iff_eq_take.1 (List.takeWhile_prefix _)).symm
theorem put_spl {l a m b:List wA} {x:wA} (hs:Srt l) (h:Spl l x.ID a m b):putA l x=a++((if x.wY≠0∨x.wU≠0 then [x]else [])++b):=by
 obtain⟨rfl,h1,h2,h3⟩:=h;unfold putA;rw[<-tail_eq hs,take_lb,qx]
 have e1:(a++(m++b)).takeWhile (fun y=>decide (y.ID<x.ID))=a:=by
  rw[List.takeWhile_append_of_pos (by intro y hy;simpa using h1 y hy)]
  have:(m++b).takeWhile (fun y=>decide (y.ID<x.ID))=[]:=by
   rcases h2 with rfl|⟨y,rfl,hy⟩
   ·cases b with
    |nil=>rfl
    |cons y b=>rw[qcc,qdp,qe];have:=h3 y qqs;simp;omega
   ·rw[List.cons_append,qdp,qe];simp;omega
  rw[this,qcu]
 have e2:(a++(m++b)).filter (fun y=>decide (x.ID<y.ID))=b:=by
  rw[List.filter_append,List.filter_append];have f1:a.filter (fun y=>decide (x.ID<y.ID))=[]:=by rw[qff];intro y hy;have:=h1 y hy;simp;omega
  have f2:m.filter (fun y=>decide (x.ID<y.ID))=[]:=by
   rw[qff];intro y hy;rcases h2 with rfl|⟨z,rfl,hz⟩
   ·simp at hy
   ·simp at hy;subst hy;simp;omega
  have f3:b.filter (fun y=>decide (x.ID<y.ID))=b:=by rw[qew];intro y hy;have:=h3 y hy;simpa using this
  rw[f1,f2,f3];rfl
 rw[e1,e2]
theorem get_spl {l a m b:List wA} {id:Int} (h:Spl l id a m b):getA l id=m.headD ⟨id,0,0⟩:=by
 obtain⟨rfl,h1,h2,h3⟩:=h;unfold getA;have f1:a.find? (fun y=>decide (y.ID=id))=none:=by rw[qeh];intro y hy;have:=h1 y hy;simp;omega
 have f3:b.find? (fun y=>decide (y.ID=id))=none:=by rw[qeh];intro y hy;have:=h3 y hy;simp;omega
 rw[List.find?_append,List.find?_append,f1,f3];rcases h2 with rfl|⟨x,rfl,hx⟩
 ·rfl
 ·simp[hx]
theorem srt_spl {a m b:List wA} {id:Int} {l:List wA} (hs:Srt l) (h:Spl l id a m b) {m' :List wA} (hm:Mid id m'):Srt (a++(m' ++b)):=by
 obtain⟨rfl,h1,h2,h3⟩:=h;rw[srt_pw]at hs ⊢;rw[List.pairwise_append]at hs ⊢;obtain⟨k1,k2,k3⟩:=hs;rw[List.pairwise_append]at k2 ⊢;obtain⟨_,k4,_⟩:=k2;refine⟨k1,⟨?_,k4,?_⟩,?_⟩
 ·rcases hm with rfl|⟨x,rfl,_⟩<;>simp
 ·intro x hx y hy;rcases hm with rfl|⟨z,rfl,hz⟩
  ·simp at hx
  ·simp at hx;subst hx;have:=h3 y hy;omega
 ·intro x hx y hy;have h4:=h1 x hx;rcases qal.1 hy with hy|hy
  ·rcases hm with rfl|⟨z,rfl,hz⟩
   ·simp at hy
   ·simp at hy;subst hy;omega
  ·have:=h3 y hy;omega
theorem mid_put (x:wA):Mid x.ID (if x.wY≠0∨x.wU≠0 then [x]else []):=by
 split
 ·exact .inr ⟨x,rfl,rfl⟩
 ·exact .inl rfl
theorem put_ok {l:List wA} {x:wA} (h:OkA l) (hl:l.length<=999) (hx:AccOk x):OkA (putA l x):=by
 obtain⟨a,m,b,hS⟩:=spl_of h.1 x.ID;refine⟨?_,by have:=put_len l x;omega,?_⟩
 ·rw[put_spl h.1 hS];exact srt_spl h.1 hS (mid_put x)
 ·rw[put_spl h.1 hS];intro y hy;obtain⟨rfl,_,_,_⟩:=hS;simp only[qal]at hy;rcases hy with hy|hy|hy
  ·exact h.2.2 y (by simp[hy])
  ·split at hy
   ·simp at hy;subst hy;exact hx
   ·simp at hy
  ·exact h.2.2 y (by simp[hy])
def Nz (l:List wA):Prop:=∀a∈l,a.wY≠0∨a.wU≠0
def GoodA (n:Nat) (l:List wA):Prop:=OkA l/\Nz l/\l.length<=n
theorem k4l (n:Nat):GoodA n []:=⟨ok_nil,by simp[Nz],by simp⟩
theorem kjj {l:List wA} {x:wA} {n:Nat} (h:GoodA n l) (hn:n<=900) (hx:AccOk x):GoodA (n+1) (putA l x):=by
 obtain⟨h1,h2,h3⟩:=h;refine⟨put_ok h1 qqo hx,?_,by have:=put_len l x;omega⟩;obtain⟨a,m,b,hS⟩:=spl_of h1.1 x.ID;rw[put_spl h1.1 hS];obtain⟨rfl,_,_,_⟩:=hS;intro y hy;simp only[qal]at hy;rcases hy with hy|hy|hy
 ·exact h2 y (by simp[hy])
 ·split at hy
  ·rename_i hz;simp at hy;subst hy;exact hz
  ·simp at hy
 ·exact h2 y (by simp[hy])
theorem kbh {l:List wA} {n:Nat} {id amt:Int} (h:GoodA n l) (hn:n<=900) (hid:0<=id/\id<18446744069414584321) (ha:0<=amt):GoodA (n+1) (creditA l id amt).1:=by
 obtain⟨g1,g2⟩:=getA_ok h.1 id;unfold creditA;split
 ·exact k4l _
 ·exact kjj h hn ⟨hid,by simp only;omega,g2⟩
theorem kea {l:List wA} {n:Nat} {id amt non:Int} (h:GoodA n l) (hn:n<=900) (hid:0<=id/\id<18446744069414584321) (ha:0<=amt) (hN:0<=non/\non<18446744073709551616):GoodA (n+1) (debitA l id amt non).1:=by
 obtain⟨g1,g2⟩:=getA_ok h.1 id;unfold debitA;split
 ·exact k4l _
 ·split
  ·exact k4l _
  ·split
   ·exact k4l _
   ·rename_i h1 _;have:non≠18446744073709551615:=fun e=>h1 (.inr e);exact kjj h hn ⟨hid,by simp only;omega,by simp only;omega⟩
def totA:Int->List wA->Int×Int
 |s,[]=>(s,0)
 |s,a::r=>if 18446744073709551616<=s+a.wY then(0,3)else totA (s+a.wY) r
theorem len24 {α:Type} (m:List α) (x:α) (h:m.length<=90000):(m.length+[x].length)*24<=140737488355328/\m.length+[x].length<=maxLen:=by simp only[qad,qbf];unfold maxLen;omega
def nd (a b:Int):Int:=hashS 6 [a,b]
def emp:Nat->Int
 |0=>hashS 6 []
 |i+1=>nd (emp i) (emp i)
theorem emp_u (i:Nat):U64 (emp i):=by cases i<;>exact kz _ _
theorem emp_lt (i:Nat):emp i<18446744069414584321:=by cases i<;>exact k4m _ _
theorem gD_lt {l:List Int} {i:Nat} {z:Int} (h:i<l.length):l.getD i z=l[i]:=by simp[h]
theorem gD_ge {l:List Int} {i:Nat} {z:Int} (h:l.length<=i):l.getD i z=z:=by simp[h]
def lf (l:List Int) (p:Nat):Int:=l.getD p (emp 0)
def TT (f:Nat->Int):Nat->Nat->Int
 |0,k=>f k
 |i+1,k=>nd (TT f i (2*k)) (TT f i (2*k+1))
theorem kcp {f g:Nat->Int}:∀(i k:Nat),(∀p,k*2^i<=p->p<(k+1)*2^i->f p=g p)->TT f i k=TT g i k
 |0,k,h=>h k qqs qqs
 |i+1,k,h=>by
  have e:2^(i+1)=2*2^i:=by rw[Nat.pow_succ];omega
  rw[e]at h;have e1:k*(2*2^i)=2*k*2^i:=by rw[<-Nat.mul_assoc,qee k 2]
  have e2:(k+1)*(2*2^i)=(2*k+1+1)*2^i:=by rw[<-Nat.mul_assoc];congr 1;omega
  have e3:(2*k+1)*2^i=2*k*2^i+2^i:=by rw[qbj,qcs]
  have e4:(2*k+1+1)*2^i=(2*k+1)*2^i+2^i:=by rw[qbj (2*k+1),qcs]
  simp only[TT];rw[kcp i (2*k) fun p h1 h2=>h p qqo qqo,kcp i (2*k+1) fun p h1 h2=>h p qqo qqo]
theorem TT_emp {l:List Int}:∀(i k:Nat),l.length<=k*2^i->TT (lf l) i k=emp i
 |0,k,h=>by simp only[TT,lf];rw[gD_ge qqh]
 |i+1,k,h=>by
  have e1:k*2^(i+1)=2*k*2^i:=by rw[Nat.pow_succ,qee (2^i) 2,<-Nat.mul_assoc,qee k 2]
  have e3:(2*k+1)*2^i=2*k*2^i+2^i:=by rw[qbj,qcs]
  have:=qcg i;simp only[TT,emp];rw[TT_emp i (2*k) qqo,TT_emp i (2*k+1) qqo]
theorem TT_r {l:List Int} (hl:∀x∈l,0<=x/\x<18446744069414584321):∀(i k:Nat),0<=TT (lf l) i k/\TT (lf l) i k<18446744069414584321
 |0,k=>by
  simp only[TT,lf];by_cases h:k<l.length
  ·rw[gD_lt h];exact hl _ (qak h)
  ·rw[gD_ge qqo];exact⟨(emp_u 0).1,emp_lt 0⟩
 |i+1,k=>⟨(kz _ _).1,k4m _ _⟩
def bitN (n i:Nat):Bool:=n/2^i%2==1
def leftS (d:Nat) (l:List Int):List Int:=(List.range (d+1)).map fun i=>if bitN l.length i then TT (lf l) i (l.length/2^i-1)else 0
def frF (d:Int) (l:List Int):wD:=⟨d,l.length,leftS d.toNat l⟩
theorem k1q (d:Nat) (l:List Int):(leftS d l).length=d+1:=by simp[leftS]
theorem k2o (d:Nat) (l:List Int) (i:Nat) (h:i<(leftS d l).length):(leftS d l)[i]=if bitN l.length i then TT (lf l) i (l.length/2^i-1)else 0:=by simp[leftS]
structure FV (f:wD):Prop where
 d1:1<=f.wC
 d2:f.wC<=12
 c0:0<=f.wZ
 c1:f.wZ<=((2^f.wC.toNat:Nat):Int)
 ll:f.wc.length=f.wC.toNat+1
 u:∀x∈f.wc,0<=x/\x<18446744069414584321
 z:∀(i:Nat) (h:i<f.wc.length),bitN f.wZ.toNat i=false->f.wc[i]=0
theorem frF_FV {d:Int} {l:List Int} (h1:1<=d) (h2:d<=12) (hl:l.length<=2^d.toNat) (hu:∀x∈l,0<=x/\x<18446744069414584321):FV (frF d l):=by
 refine⟨h1,h2,by simp[frF],by simp only[frF];omega,k1q _ _,fun x hx=> ?_,fun i h hb=> ?_⟩
 ·simp only[frF,leftS,qag]at hx;obtain⟨i,_,rfl⟩:=hx;split
  ·exact TT_r hu _ _
  ·decide
 ·show(leftS d.toNat l)[i]=0;have hb:bitN l.length i=false:=by simpa[frF]using hb
  exact(k2o d.toNat l i h).trans (by rw[hb];rfl)
theorem shl1 (d:Nat) (h:d<=12):ishl .i64 1 (d:Int)=((2^d:Nat):Int):=by
 have:∀d∈List.range 13,ishl .i64 1 (d:Int)=((2^d:Nat):Int):=by decide
 exact this d qqm
theorem pow12 (d:Nat) (h:d<=12):2^d<=4096:=by have:2^d<=2^12:=qcp qqd h;omega
theorem bit1 (n i:Nat) (hn:n<=4096) (hi:i<=20):iand .i64 (ishr .i64 (n:Int) (i:Int)) 1=((n/2^i%2:Nat):Int):=by
 have e:min ((i:Int).toNat) i64.bits=i:=by rw[qr];exact qcb (qbk hi qqd)
 have e2:ishr .i64 (n:Int) (i:Int)=((n/2^i:Nat):Int):=by rw[k20,e];simp
 have:=Nat.div_le_self n (2^i);rw[e2];generalize n/2^i=q at *
 rw[k9r _ qqo];omega
def carry:Nat->Nat->List Int->Int->Nat->List Int
 |0,lv,L,x,_=>L.set lv x
 |k+1,lv,L,x,n=>if bitN n lv then carry k (lv+1) (L.set lv 0) (nd (ix L (lv:Int)) x) n else L.set lv x
def apF (f:wD) (x:Int):wD:=⟨f.wC,f.wZ+1,carry (f.wC.toNat+1) 0 f.wc x f.wZ.toNat⟩
theorem k1o (n i:Nat):n/2^(i+1)=n/2^i/2:=by rw[Nat.pow_succ,Nat.div_div_eq_div_mul]
theorem klr {n d:Nat} (h:n<2^d):bitN n d=false:=by unfold bitN;rw[qfi h];rfl
theorem succ_hi {n i:Nat} (h:bitN n i=true) (hq:(n+1)/2^i=n/2^i+1):(n+1)/2^(i+1)=n/2^(i+1)+1:=by
 have h:n/2^i%2=1:=by simpa[bitN]using h
 rw[k1o,k1o,hq];omega
theorem succ_lo {n i:Nat} (h:bitN n i=false) (hq:(n+1)/2^i=n/2^i+1):∀j,i<j->(n+1)/2^j=n/2^j:=by
 have h:¬n/2^i%2=1:=by simpa[bitN]using h
 intro j;induction j with
 |zero=>intro hj;omega
 |succ j ih=>
  intro hj;rcases qaz i j with h1|h1
  ·rw[k1o,k1o,ih h1]
  ·have:j=i:=by omega
   subst this;rw[k1o,k1o,hq];omega
theorem TT_app {l:List Int} {x:Int} {i k:Nat} (h:(k+1)*2^i<=l.length):TT (lf (l++[x])) i k=TT (lf l) i k:=by refine kcp i k fun p _ h2=> ?_;unfold lf;rw[qcd,qcd,qap qqo]
theorem kka (d:Nat) (l:List Int) (x:Int) (hn:l.length<2^d):∀(k lv:Nat) (L:List Int) (y:Int),lv+k=d+1->L.length=d+1->
  (l.length+1)/2^lv=l.length/2^lv+1->y=TT (lf (l++[x])) lv (l.length/2^lv)->
  (∀(i:Nat) (h:i<L.length),L[i]=if i<lv then 0 else(leftS d l).getD i 0)->(∀i,i<lv->bitN (l.length+1) i=false)->carry k lv L y l.length=leftS d (l++[x])
 |0,lv,L,y,hk,hL,hq,hy,hg,hb=>by
  exfalso;have hlv:lv=d+1:=by omega
  subst hlv;have hp:2^(d+1)=2*2^d:=by rw[Nat.pow_succ];omega
  have h1:1<=2^d:=qcg d;rw[hp,qfi qqo,qfi qqo]at hq;omega
 |k+1,lv,L,y,hk,hL,hq,hy,hg,hb=>by
  unfold carry;have hlv:lv<L.length:=by omega
  by_cases hbit:bitN l.length lv=true
  ·rw[qh hbit];have hodd:l.length/2^lv%2=1:=by simpa[bitN]using hbit
   have hleft:ix L (lv:Int)=TT (lf (l++[x])) lv (2*(l.length/2^(lv+1))):=by
    have h2:lv<(leftS d l).length:=by rw[k1q];omega
    rw[ix_get _ _ hlv,hg lv hlv,qe qqo,gD_lt h2,k2o,qh hbit];have e:l.length/2^lv-1=2*(l.length/2^(lv+1)):=by rw[k1o];omega
    rw[e];refine(TT_app ?_).symm;have:(2*(l.length/2^(lv+1))+1)=l.length/2^lv:=by rw[k1o];omega
    rw[this];exact Nat.div_mul_le_self _ _
   refine kka d l x hn k (lv+1) _ _ qqo (by simp[hL]) (succ_hi hbit hq) ?_ (fun i h=> ?_) (fun i hi=> ?_)
   ·simp only[TT];rw[hleft,hy];have:l.length/2^lv=2*(l.length/2^(lv+1))+1:=by rw[k1o];omega
    rw[<-this]
   ·rw[List.getElem_set];by_cases h1:lv=i
    ·rw[qh h1,qh qqo]
    ·rw[qe h1,hg i qqh];by_cases h2:i<lv
     ·rw[qh h2,qh qqo]
     ·rw[qe h2,qe qqo]
   ·rcases qaz i lv with h1|h1
    ·exact hb i h1
    ·have:i=lv:=by omega
     subst this;unfold bitN;rw[hq];have:(l.length/2^i+1)%2=0:=by omega
     rw[this];rfl
  ·have hbit:bitN l.length lv=false:=by simpa using hbit
   rw[qe (by rw[hbit];decide)];have hev:¬l.length/2^lv%2=1:=by simpa[bitN]using hbit
   have hlo:=succ_lo hbit hq;apply List.ext_getElem
   ·simp[k1q,hL]
   ·intro i h1 h2;rw[k2o,List.getElem_set,qj,qcl];have hi:i<L.length:=by simpa using h1
    by_cases h3:lv=i
    ·subst h3;rw[qh rfl,hy];have:bitN (l.length+1) lv=true:=by unfold bitN;rw[hq];simp;omega
     rw[qh this,hq];rfl
    ·rw[qe h3,hg i hi];rcases qaz i lv with h4|h4
     ·rw[qh h4,hb i h4];rfl
     ·have h5:lv<i:=by omega
      have hs:i<(leftS d l).length:=by rw[k1q];omega
      rw[qe qqo,gD_lt hs,k2o];have eb:bitN (l.length+1) i=bitN l.length i:=by unfold bitN;rw[hlo i h5]
      rw[eb,hlo i h5];by_cases hb2:bitN l.length i=true
      ·rw[qh hb2,qh hb2];refine(TT_app ?_).symm;have ho:l.length/2^i%2=1:=by simpa[bitN]using hb2
       have:l.length/2^i-1+1=l.length/2^i:=Nat.sub_add_cancel (Nat.pos_of_ne_zero fun h=>by rw[h]at ho;cases ho);rw[this];exact Nat.div_mul_le_self _ _
      ·rw[qe hb2,qe hb2]
theorem apF_frF {d:Int} {l:List Int} {x:Int} (hn:l.length<2^d.toNat):apF (frF d l) x=frF d (l++[x]):=by
 have:=kka d.toNat l x hn (d.toNat+1) 0 (leftS d.toNat l) x qqo (k1q _ _) qqs (by simp[TT,lf]) (fun i h=>by
  rw[qe qqo,gD_lt h]) (fun i hi=>by omega)
 unfold apF frF;simp only[qr];rw[this];simp
def rootGo (f:wD):Nat->Nat->Int->Int->Int
 |0,_,_,x=>x
 |k+1,lv,e,x=>rootGo f k (lv+1) (nd e e) (if bitN f.wZ.toNat lv then nd (ix f.wc (lv:Int)) x else nd x e)
def rootF (f:wD):Int:=if f.wZ=((2^f.wC.toNat:Nat):Int)then ix f.wc f.wC else rootGo f f.wC.toNat 0 (emp 0) (emp 0)
theorem kgp (d:Int) (l:List Int):∀(k lv:Nat) (x:Int),lv+k=d.toNat->x=TT (lf l) lv (l.length/2^lv)->rootGo (frF d l) k lv (emp lv) x=TT (lf l) (lv+k) (l.length/2^(lv+k))
 |0,lv,x,_,hx=>hx
 |k+1,lv,x,hk,hx=>by
  unfold rootGo;rw[show lv+(k+1)=lv+1+k by omega];have hc:(frF d l).wZ.toNat=l.length:=by simp[frF]
  rw[hc];refine kgp d l k (lv+1) _ qqo ?_;have hh:=k1o l.length lv;simp only[TT];by_cases hb:bitN l.length lv=true
  ·have ho:l.length/2^lv%2=1:=by simpa[bitN]using hb
   have hs:lv<(leftS d.toNat l).length:=by rw[k1q];omega
   rw[qh hb,show(frF d l).wc=leftS d.toNat l from rfl,ix_get _ _ hs,k2o,qh hb,hx];have e1:l.length/2^lv-1=2*(l.length/2^(lv+1)):=by omega
   have e2:l.length/2^lv=2*(l.length/2^(lv+1))+1:=by omega
   rw[e1,<-e2]
  ·have ho:¬l.length/2^lv%2=1:=by simpa[bitN]using hb
   rw[qe hb,hx];have e2:l.length/2^lv=2*(l.length/2^(lv+1)):=by omega
   rw[<-e2];congr 1;refine(TT_emp lv _ ?_).symm;have:=Nat.lt_div_mul_add (a:=l.length) (b:=2^lv) (qcg lv);rw[qbj,qcs];omega
theorem kgf {d:Int} {l:List Int} (h0:0<=d) (hn:l.length<=2^d.toNat):rootF (frF d l)=TT (lf l) d.toNat 0:=by
 unfold rootF;by_cases hc:(frF d l).wZ=((2^(frF d l).wC.toNat:Nat):Int)
 ·rw[qh hc];have hc:l.length=2^d.toNat:=by simp only[frF]at hc;omega
  have hs:d.toNat<(leftS d.toNat l).length:=by rw[k1q];omega
  have e:(frF d l).wC=(d.toNat:Int):=by simp only[frF];omega
  have e1:l.length/2^d.toNat=1:=by rw[hc];exact Nat.div_self (qcg _)
  have hb:bitN l.length d.toNat=true:=by unfold bitN;rw[e1];rfl
  rw[e,show(frF d l).wc=leftS d.toNat l from rfl,ix_get _ _ hs,k2o,qh hb,e1]
 ·rw[qe hc];have hc:l.length<2^d.toNat:=by simp only[frF]at hc;omega
  have:=kgp d l d.toNat 0 (emp 0) qqo (by simp[TT,lf]);rw[show(frF d l).wC=d from rfl,this,qaj,qfi hc]
def trs (k:List Int):List Bool:=List.replicate k.length true
theorem k84 {m:Int}:∀{k:List Int},(mIdx (BEq.beq m) k).isSome=decide (m∈k)
 |[]=>rfl
 |x::r=>by
  unfold mIdx;by_cases h:m=x
  ·subst h;simp
  ·have:BEq.beq m x=false:=by simpa using h
   rw[this,qbt,Option.isSome_map,k84];simp[h]
theorem sVal (k:List Int) (m:Int):mVal (BEq.beq m) k (trs k) false=decide (m∈k):=by
 rw[<-k84];unfold mVal;cases h:mIdx (BEq.beq m) k with
 |none=>rfl
 |some j=>simp[trs,mIdx_lt h]
theorem sPut {k:List Int} {m:Int} (h:m∉k):mPutK (BEq.beq m) k m=k++[m]/\mPutV (BEq.beq m) k (trs k) true=trs (k++[m]):=by
 have:mIdx (BEq.beq m) k=none:=by
  have:=k84 (m:=m) (k:=k);rw[qbr h]at this;cases hq:mIdx (BEq.beq m) k with
  |none=>rfl
  |some j=>rw[hq]at this;cases this
 unfold mPutK mPutV;rw[this];exact⟨rfl,by simp[trs,List.replicate_succ']⟩
theorem k7t {m:Int}:∀{k:List Int} {j:Nat},mIdx (BEq.beq m) k=some j->k.eraseIdx j=k.erase m
 |x::r,j,h=>by
  unfold mIdx at h;by_cases e:m=x
  ·subst e;simp at h;subst h;simp
  ·have e2:BEq.beq m x=false:=by simpa using e
   rw[e2,qbt]at h;cases hq:mIdx (BEq.beq m) r with
   |none=>rw[hq]at h;cases h
   |some i=>rw[hq]at h;simp at h;subst h;rw[List.eraseIdx_cons_succ,k7t hq,List.erase_cons_tail (by simpa using fun h=>e h.symm)]
theorem sDel (k:List Int) (m:Int):mDelK (BEq.beq m) k=k.erase m/\mDelV (BEq.beq m) k (trs k)=trs (k.erase m):=by
 unfold mDelK mDelV;cases h:mIdx (BEq.beq m) k with
 |none=>
  have h2:m∉k:=by have:=k84 (m:=m) (k:=k);rw[h]at this;simpa using this.symm
  rw[List.erase_of_not_mem h2];exact⟨rfl,rfl⟩
 |some j=>
  refine⟨k7t h,?_⟩;have hj:=mIdx_lt h;rw[<-k7t h];unfold trs;refine List.eq_replicate_iff.2 ⟨?_,fun b hb=> ?_⟩
  ·simp[List.length_eraseIdx]
  ·exact(List.eq_replicate_iff.1 rfl).2 b (qfa hb)
def addS (l k:List Int):Int×List Int:=if(l.any fun m=>decide (m∈k))|| !decide l.Nodup then(12,k)else(0,k++l)
def remS (l k:List Int):Int×List Int:=if(l.any fun m=> !decide (m∈k))|| !decide l.Nodup then(4,k)else(0,l.foldl List.erase k)
theorem knf {m:Int} {k r:List Int} (h:m∉k):(k++m::r).erase m=k++r:=by rw[List.erase_append_right _ h,List.erase_cons_head]
theorem rem_add:∀{l k:List Int},(k++l).Nodup->l.foldl List.erase (k++l)=k
 |[],k,_=>by simp
 |m::r,k,h=>by
  have h1:m∉k:=fun hm=>by rw[qck]at h;exact h.2.2 m hm m qqs rfl
  rw[qfn,knf h1];refine rem_add ?_;rw[qck]at h ⊢;refine⟨h.1,(qcz.1 h.2.1).2,fun a ha b hb=>h.2.2 a ha b (by simp[hb])⟩
theorem knb {l m:List Int} (h:l.Perm m):srt l=srt m:=srt_eq ((k4r l).trans h) (k7z l)
def pws (n:Nat) (z b:Int):Bool:=(List.range n).any fun j=>b==z*((2^j:Nat):Int)
def prS (p:wz):Bool:=pws 8 2 p.wAV&&pws 4 1 p.wAI&&decide (1<=p.wAU)&&decide (p.wAU<=64)
def rulesB (p:wB):Bool:=decide (1<=p.wX)&&decide (p.wX<=3)&&decide (1<=p.wC)&&decide (p.wC<=12)&&decide (1<=p.wV)&&decide (p.wV<=100)&&decide (1<=p.wO)&&decide (p.wO<=1048576)&&decide (p.wS<=4294967296)&&decide (1<=p.wR)&&decide (p.wR<=65536)
def rulesE (p:wB):Int:=if rulesB p then(if p.wX=1 then(if prS ⟨p.wN,p.wM,p.wJ⟩then 0 else 1)else 0)else 1
theorem pws_and (b:Nat) (h:2<=b/\b<=256):(iand .i64 (b:Int) (((b:Int))-1)==0)=pws 8 2 b:=by
 have:∀b∈List.range' 2 255,(iand .i64 ((b:Nat):Int) (((b:Nat):Int)-1)==0)=pws 8 2 ((b:Nat):Int):=by decide +kernel
 exact this b (by rw[List.mem_range'_1];omega)
theorem kh8 {n:Nat} {z b:Int} (h:pws n z b=true) (hz:0<z):z<=b/\b<=z*((2^(n-1):Nat):Int):=by
 obtain⟨j,hj,e⟩:=List.any_eq_true.1 h;have hj:j<n:=by simpa using hj
 have e:b=z*((2^j:Nat):Int):=by simpa using e
 have h1:1<=2^j:=qcg j;have h2:2^j<=2^(n-1):=qcp qqd qqo;rw[e];constructor
 ·have:=qej (show(1:Int)<=((2^j:Nat):Int)by omega) (show 0<=z by omega);omega
 ·exact qej qqo qqo
theorem k6z (n:Nat) (z b:Int):pws (n+1) z b=(pws n z b||b==z*((2^n:Nat):Int)):=by simp[pws,List.range_succ]
theorem kdy:∀{l:List Int} {j:Nat} (h:j<l.length),([l[j]]++l.eraseIdx j).Perm l
 |x::r,0,_=>List.Perm.refl _
 |x::r,j+1,h=>by rw[List.eraseIdx_cons_succ,List.getElem_cons_succ];exact(List.Perm.swap x _ _).trans ((kdy (l:=r) (j:=j) qqh).cons x)
structure TState where
 Rules_Mode:Int
 Rules_Depth:Int
 Rules_Proof_Block:Int
 Rules_Proof_Blowup:Int
 Rules_Proof_Queries:Int
 Rules_Reward:Int
 Rules_Window:Int
 Rules_Finality:Int
 Rules_Work:Int
 wQ:Int
 Leaves:List Int
 wL:List Int
 wF:List wA
 wBB:Int
 Roots:List Int
 deriving Inhabited,DecidableEq
structure PS where
 R:wB
 F:wD
 b:List wA
 n:Int
 l:List Int
 r:List Int
 p:List wG
 k:List Int
 v:List Bool
def ancL (r:List Int) (w:Int):List Int:=r.drop (r.length-w.toNat)
def chk (h:Int) (anc k:List Int) (b:List wA) (n:Int) (ll:Nat) (d:Int) (t:wa):Int:=
 if validE t≠0 then validE t else if t.wAE<h+1 then 14 else if t.wg∉anc then 11 else if t.wL.any (fun m=>decide (m∈k))=true then 12
 else if 0<t.wP/\(debitA b t.wW t.wP t.wU).2≠0 then(debitA b t.wW t.wP t.wU).2
 else if u64.wrap (n+t.wP)<u64.wrap (t.wT+t.Fee)then 13 else if 2^d.toNat<ll+t.wE.length then 16 else 0
def chkS (s:PS) (t:wa):Int:=chk (s.p.length:Int) (ancL s.r s.R.wV) s.k s.b s.n s.l.length s.R.wC t
def outsF (F:wD) (o:List wAA):wD:=o.foldl (fun f x=>apF f x.we) F
def depA (b:List wA) (t:wa):List wA:=if 0<t.wP then(debitA b t.wW t.wP t.wU).1 else b
def wdA (b:List wA) (t:wa):List wA×Int:=if 0<t.wT then creditA (depA b t) t.wW t.wT else(depA b t,0)
def hidN (n:Int) (t:wa):Int:=u64.wrap (u64.wrap (u64.wrap (n+t.wP)-t.wT)-t.Fee)
structure PE where
 e:Int
 s:PS
def perfS (s:PS) (t:wa):PE:=
 if(wdA s.b t).2≠0 then⟨(wdA s.b t).2,{s with F:=outsF s.F t.wE,l:=s.l++t.wE.map (·.we),k:=s.k++t.wL,v:=trs (s.k++t.wL),b:=depA s.b t}⟩
 else⟨0,{s with F:=outsF s.F t.wE,l:=s.l++t.wE.map (·.we),k:=s.k++t.wL,v:=trs (s.k++t.wL),b:=(wdA s.b t).1,n:=hidN s.n t}⟩
structure PB where
 e:Int
 s:PS
 m:List Int
 f:Int
def blkGo:List wa->PS->List Int->Int->PB
 |[],s,m,f=>⟨0,s,m,f⟩
 | t::r,s,m,f=>if chkS s t≠0 then⟨chkS s t,s,m,f⟩else if(perfS s t).e≠0 then⟨(perfS s t).e,(perfS s t).s,m++t.wL,f⟩
   else blkGo r (perfS s t).s (m++t.wL) (u64.wrap (f+t.Fee))
def crB (x:PB) (b:wI):List wA×Int:=creditA x.s.b b.wAF (u64.wrap (x.s.R.wS+x.f))
def blkS (s:PS) (m:List Int) (b:wI):PB:=
 if(blkGo b.Txs s m 0).e≠0 then blkGo b.Txs s m 0
 else if(crB (blkGo b.Txs s m 0) b).2≠0 then {blkGo b.Txs s m 0 with e:=(crB (blkGo b.Txs s m 0) b).2}
 else {blkGo b.Txs s m 0 with e:=0,s:={(blkGo b.Txs s m 0).s with b:=(crB (blkGo b.Txs s m 0) b).1}}
def befS (s:PS) (m:List Int):wG:=⟨s.F.wC,s.F.wZ,s.F.wc,s.l.length,m,s.b,s.n⟩
def applyS (s:PS) (b:wI):PE:=
 if b.wQ≠(s.p.length:Int)+1 then⟨18,s⟩else if 18446744069414584321<=b.wAF then⟨1,s⟩else
 if(blkS s [] b).e≠0 then⟨(blkS s [] b).e,s⟩
 else⟨0,{(blkS s [] b).s with p:=s.p++[befS s (blkS s [] b).m],r:=s.r++[rootF (blkS s [] b).s.F]}⟩
def resS (s:PS) (q:wG):PS:={s with F:=⟨q.wAY,q.wAZ,q.wAe⟩,b:=q.wAS,n:=q.hidden,l:=s.l.take q.leaves.toNat,k:=(remS q.marks s.k).2,v:=trs (remS q.marks s.k).2}
def undoS (s:PS):PS:=if s.p=[]then s else {resS s (ix s.p ((s.p.length:Int)-1))with p:=s.p.take (s.p.length-1),r:=s.r.take (s.r.length-1)}
def newS (r:wB):PS:=⟨r,frF r.wC [],[],0,[],[rootF (frF r.wC [])],[],[],[]⟩
def BG (l:List Int):Prop:=∀x∈l,0<=x/\x<18446744069414584321
def sumA (l:List wA):Int:=(l.map (·.wY)).sum
structure PI (s:PS) (c:Nat) (f:Int):Prop where
 d1:1<=s.R.wC
 d2:s.R.wC<=12
 w1:1<=s.R.wV
 w2:s.R.wV<=100
 rw:0<=s.R.wS/\s.R.wS<=4294967296
 F:s.F=frF s.R.wC s.l
 ll:s.l.length<=2^s.R.wC.toNat
 l:BG s.l
 b:GoodA c s.b
 n:0<=s.n
 ff:0<=f
 sup:sumA s.b+s.n+f=(s.p.length:Int)*s.R.wS
 r:BG s.r
 rl:s.r.length=s.p.length+1
 p:s.p.length<=c
 kn:s.k.Nodup
 kb:BG s.k
 kl:s.k.length<=4*c
 v:s.v=trs s.k
theorem sum_app (a b:List wA):sumA (a++b)=sumA a+sumA b:=by simp[sumA]
theorem sumA_nn {l:List wA} (h:∀a∈l,0<=a.wY):0<=sumA l:=by
 induction l with
 |nil=>exact qec _
 |cons a l ih=>
  have h1:=h a qqs;have h2:=ih fun x hx=>h x (by simp[hx]);have:sumA (a::l)=a.wY+sumA l:=by simp[sumA]
  omega
theorem sum_put {l:List wA} {x:wA} (hs:Srt l):sumA (putA l x)=sumA l-(getA l x.ID).wY+x.wY:=by
 obtain⟨a,m,b,h⟩:=spl_of hs x.ID;rw[put_spl hs h,get_spl h,h.1]
 have e1:sumA (if x.wY≠0∨x.wU≠0 then [x]else [])=x.wY:=by
  split
  ·simp[sumA]
  ·rename_i hh;have:x.wY=0:=qaq fun hb=>hh (.inl hb);rw[this];rfl
 have e2:sumA m=(m.headD ⟨x.ID,0,0⟩).wY:=by
  rcases h.2.2.1 with rfl|⟨y,rfl,_⟩
  ·rfl
  ·simp[sumA]
 simp only[sum_app,e1,e2];omega
theorem kdi {l:List wA} {id amt:Int} (hs:Srt l) (h:(creditA l id amt).2=0):sumA (creditA l id amt).1=sumA l+amt:=by
 unfold creditA at h ⊢;split at h
 ·cases h
 ·rename_i hh;rw[qe hh];have:=sum_put (x:=⟨id,(getA l id).wY+amt,(getA l id).wU⟩) hs;rw[this];simp only;omega
theorem kmz {l:List wA} {id amt non:Int} (hs:Srt l) (h:(debitA l id amt non).2=0):sumA (debitA l id amt non).1=sumA l-amt:=by
 unfold debitA at h ⊢;split at h
 ·cases h
 ·rename_i h1;rw[qe h1];split at h
  ·cases h
  ·rename_i h2;rw[qe h2];split at h
   ·cases h
   ·rename_i h3;rw[qe h3];have:=sum_put (x:=⟨id,(getA l id).wY-amt,non+1⟩) hs;rw[this];simp only;omega
theorem tot_sum:∀{l:List wA} {s:Int},(∀a∈l,0<=a.wY)->s+sumA l<18446744073709551616->totA s l=(s+sumA l,0)
 |[],s,_,_=>by simp[totA,sumA]
 |a::r,s,hn,h=>by
  have e:sumA (a::r)=a.wY+sumA r:=by simp[sumA]
  have h1:=hn a qqs;have h2:=sumA_nn (l:=r) fun x hx=>hn x (by simp[hx]);rw[e]at h ⊢;unfold totA;rw[qe qqo,tot_sum (fun x hx=>hn x (by simp[hx])) qqo];rw[Int.add_assoc]
structure CK (s:PS) (t:wa):Prop where
 v:VT t
 m:∀m∈t.wL,m∉s.k
 d:0<t.wP->(debitA s.b t.wW t.wP t.wU).2=0
 h:¬u64.wrap (s.n+t.wP)<u64.wrap (t.wT+t.Fee)
 l:s.l.length+t.wE.length<=2^s.R.wC.toNat
theorem kd0 {s:PS} {t:wa} (h:chkS s t=0):CK s t:=by
 unfold chkS chk at h;split at h
 ·rename_i h1;exact(h1 h).elim
 ·rename_i h1;split at h
  ·cases h
  ·split at h
   ·cases h
   ·split at h
    ·cases h
    ·rename_i h4;split at h
     ·rename_i h5;exact(h5.2 h).elim
     ·rename_i h5;split at h
      ·cases h
      ·rename_i h6;split at h
       ·cases h
       ·rename_i h7;refine⟨(k15 t).1 (qaq h1),fun m hm hk=>h4 ?_,fun hd=>qaq fun he=>h5 ⟨hd,he⟩,h6,by omega⟩;exact List.any_eq_true.2 ⟨m,hm,by simpa using hk⟩
theorem VT.am' {t:wa} (v:VT t):t.wP<=4294967295/\t.wT<=4294967295/\t.Fee<=4294967295/\t.wW<18446744069414584321/\(0<t.wP->t.wT=0):=by have:=v.am;simp only[vAmounts,qg,qaf]at this;obtain⟨⟨⟨⟨⟨a1,a2⟩,a3⟩,a4⟩,a5⟩,a6⟩:=this;refine⟨a1,a2,a3,a4,fun h=> ?_⟩;rw[qh h]at a6;simpa using a6
theorem kc4 {d:Int}:∀{o:List wAA} {l:List Int},l.length+o.length<=2^d.toNat->outsF (frF d l) o=frF d (l++o.map (·.we))
 |[],l,_=>by simp[outsF]
 |x::o,l,h=>by have h:l.length+(o.length+1)<=2^d.toNat:=h;show outsF (apF (frF d l) x.we) o=_;rw[apF_frF qqo,kc4 qqm,qx];rfl
theorem sup_bd {s:PS} {c:Nat} {f:Int} (h:PI s c f) (hc:c<=800):sumA s.b<=3435973836800/\s.n<=3435973836800/\f<=3435973836800/\0<=sumA s.b:=by have h0:=sumA_nn (l:=s.b) fun a ha=>(h.b.1.2.2 a ha).2.1.1;have h1:=h.sup;have h2:=h.n;have h3:=h.ff;have h4:(s.p.length:Int)*s.R.wS<=800*4294967296:=qem (by have:=h.p;omega) h.rw.2 h.rw.1 qqd;omega
theorem PI.perf {s:PS} {c:Nat} {f:Int} (h:PI s c f) (hc:c<=800) {t:wa} (ht:TR t) (k:CK s t):(∃g,PI {(perfS s t).s with b:=s.b,n:=s.n} (c+1) g)/\GoodA (c+1) (perfS s t).s.b/\
  ((perfS s t).e=0->PI (perfS s t).s (c+1) (f+t.Fee)):=by
 obtain⟨a1,a2,a3,a4,a5⟩:=k.v.am';obtain⟨s1,s2,s3,s4⟩:=sup_bd h hc;have hd0:=ht.d.1;have hw0:=ht.w.1;have hf0:=ht.f.1;have hk:=k.h;rw[wrap_u64 (s.n+t.wP) (by have:=h.n;omega) qqo,wrap_u64 (t.wT+t.Fee) qqo qqo]at hk;have hF:outsF s.F t.wE=frF s.R.wC (s.l++t.wE.map (·.we)):=by rw[h.F];exact kc4 k.l
 have hl:BG (s.l++t.wE.map (·.we)):=by
  intro x hx;rcases qal.1 hx with hx|hx
  ·exact h.l x hx
  ·obtain⟨o,ho,rfl⟩:=qag.1 hx;exact⟨(ht.o o ho).c.1,(k.v.o o ho).c⟩
 have hkb:BG (s.k++t.wL):=by
  intro x hx;rcases qal.1 hx with hx|hx
  ·exact h.kb x hx
  ·exact⟨(ht.m x hx).1,k.v.m x hx⟩
 have hkn:(s.k++t.wL).Nodup:=by rw[qck];exact⟨h.kn,k.v.mn,fun a ha b hb e=>k.m b hb (e▸ha)⟩
 have hkl:(s.k++t.wL).length<=4*(c+1):=by rw[qj];have:=h.kl;have:=k.v.ml;omega
 have hdep:GoodA (c+1) (depA s.b t)/\(t.wP=0->depA s.b t=s.b)/\sumA (depA s.b t)=sumA s.b-t.wP:=by
  unfold depA;split
  ·rename_i hd;exact⟨kea h.b qqo ⟨ht.ac.1,a4⟩ hd0 ⟨ht.n.1,by have:=ht.n.2;omega⟩,fun h0=>by omega,kmz h.b.1.1 (k.d hd)⟩
  ·rename_i hd;exact⟨⟨h.b.1,h.b.2.1,Nat.le_succ_of_le h.b.2.2⟩,fun _=>rfl,by omega⟩
 have hwd:GoodA (c+1) (wdA s.b t).1/\((wdA s.b t).2=0->sumA (wdA s.b t).1=sumA s.b-t.wP+t.wT):=by
  unfold wdA;split
  ·rename_i hw
   have hz:t.wP=0:=by
    rcases Int.lt_or_le 0 t.wP with h1|h1
    ·have:=a5 h1;omega
    ·omega
   rw[hdep.2.1 hz];exact⟨kbh h.b qqo ⟨ht.ac.1,a4⟩ hw0,fun he=>by rw[kdi h.b.1.1 he];omega⟩
  ·exact⟨hdep.1,fun _=>by simp only;omega⟩
 have hlen:(s.l++t.wE.map (·.we)).length<=2^s.R.wC.toNat:=by simp only[qj,qm];exact k.l
 refine⟨⟨f,?_⟩,?_,?_⟩
 ·have base:PI {s with F:=outsF s.F t.wE,l:=s.l++t.wE.map (·.we),k:=s.k++t.wL,v:=trs (s.k++t.wL)} (c+1) f:=
   ⟨h.d1,h.d2,h.w1,h.w2,h.rw,hF,hlen,hl,⟨h.b.1,h.b.2.1,Nat.le_succ_of_le h.b.2.2⟩,h.n,h.ff,h.sup,h.r,h.rl,by have:=h.p;simp only;omega,hkn,hkb,hkl,rfl⟩
  unfold perfS;split
  ·exact base
  ·exact base
 ·unfold perfS;split
  ·exact hdep.1
  ·exact hwd.1
 ·intro he;unfold perfS at he ⊢;split at he
  ·rename_i h1;exact(h1 he).elim
  ·rename_i h1;rw[qe h1];have hz:(wdA s.b t).2=0:=qaq h1;have hn0:=h.n;have hh:hidN s.n t=s.n+t.wP-t.wT-t.Fee:=by unfold hidN;rw[wrap_u64 (s.n+t.wP) qqo qqo,wrap_u64 (s.n+t.wP-t.wT) qqo qqo,wrap_u64 _ qqo qqo]
   refine⟨h.d1,h.d2,h.w1,h.w2,h.rw,hF,hlen,hl,hwd.1,?_,by have:=h.ff;omega,?_,h.r,h.rl,by have:=h.p;simp only;omega,hkn,hkb,hkl,rfl⟩
   ·simp only[hh];omega
   ·have h9:=h.sup;simp only[hh,hwd.2 hz];omega
theorem kmq (s:PS) (t:wa):(perfS s t).s.R=s.R/\(perfS s t).s.p=s.p/\(perfS s t).s.r=s.r/\(perfS s t).s.l=s.l++t.wE.map (·.we)/\(perfS s t).s.k=s.k++t.wL/\(perfS s t).s.v=trs (s.k++t.wL):=by unfold perfS;split<;>exact⟨rfl,rfl,rfl,rfl,rfl,rfl⟩
structure BI (s0 s:PS) (m:List Int):Prop where
 R:s.R=s0.R
 p:s.p=s0.p
 r:s.r=s0.r
 l:∃x,s.l=s0.l++x
 k:s.k=s0.k++m
 kn:s.k.Nodup
 kb:BG s.k
 v:s.v=trs s.k
 lb:BG s.l
 F:s.F=frF s.R.wC s.l
 ll:s.l.length<=2^s.R.wC.toNat
theorem BI.refl {s:PS} {c:Nat} {f:Int} (h:PI s c f):BI s s []:=⟨rfl,rfl,rfl,⟨[],by simp⟩,by simp,h.kn,h.kb,h.v,h.l,h.F,h.ll⟩
theorem BI.perf {s0 s:PS} {m:List Int} {c:Nat} {f:Int} (b:BI s0 s m) (h:PI s c f) (hc:c<=800) {t:wa} (ht:TR t) (k:CK s t):BI s0 (perfS s t).s (m++t.wL):=by
 obtain⟨⟨g,h1⟩,_,_⟩:=h.perf hc ht k;obtain⟨k1,k2,k3,k4,k5,k6⟩:=kmq s t;refine⟨k1.trans b.R,k2.trans b.p,k3.trans b.r,?_,?_,h1.kn,h1.kb,h1.v,h1.l,h1.F,h1.ll⟩
 ·obtain⟨x,hx⟩:=b.l;exact⟨x++t.wE.map (·.we),by rw[k4,hx,qx]⟩
 ·rw[k5,b.k,qx]
structure BO (s0:PS) (x:PB) (c:Nat):Prop where
 b:BI s0 x.s x.m
 ok:x.e=0->PI x.s c x.f
theorem kkq {s:PS} {c:Nat} {f:Int} (h:PI s c f) (hc:c<=800) {t:wa} (ht:TR t) (k:CK s t):u64.wrap (f+t.Fee)=f+t.Fee:=by obtain⟨a1,a2,a3,a4,a5⟩:=k.v.am';obtain⟨s1,s2,s3,s4⟩:=sup_bd h hc;exact wrap_u64 _ (by have:=h.ff;have:=ht.f.1;omega) qqo
theorem k7c:∀{r:List wa} {s0 s:PS} {m:List Int} {c:Nat} {f:Int},BI s0 s m->PI s c f->c+r.length<=800->(∀t∈r,TR t)->BO s0 (blkGo r s m f) (c+r.length)
 |[],s0,s,m,c,f,b,h,_,_=>⟨b,fun _=>h⟩
 |t::r,s0,s,m,c,f,b,h,hc,ht=>by
  have hc:c+(r.length+1)<=800:=hc;unfold blkGo;split
  ·rename_i h1;exact⟨b,fun he=>(h1 he).elim⟩
  ·rename_i h1;have k:=kd0 (qaq h1);have tt:=ht t qqs;have b2:=b.perf h qqo tt k;split
   ·rename_i h2;exact⟨b2,fun he=>(h2 he).elim⟩
   ·rename_i h2;have h3:=(h.perf qqo tt k).2.2 (qaq h2);rw[kkq h qqo tt k];have:=k7c (r:=r) b2 h3 qqo (fun t ht' =>ht t (by simp[ht']));rw[show c+(t::r).length=c+1+r.length by simp;omega];exact this
structure BR' (b:wI):Prop where
 m:U64 b.wAF
 t:∀t∈b.Txs,TR t
 l:∀t∈b.Txs,TL t
theorem kjl {x:PB} {c:Nat} (h:PI x.s c x.f) (hc:c<=800):u64.wrap (x.s.R.wS+x.f)=x.s.R.wS+x.f/\U64 (x.s.R.wS+x.f):=by obtain⟨s1,s2,s3,s4⟩:=sup_bd h hc;have h1:=h.rw;have h2:=h.ff;exact⟨wrap_u64 _ qqo qqo,by omega,by omega⟩
theorem blkS_BI {s:PS} {c:Nat} (h:PI s c 0) {b:wI} (hc:c+b.Txs.length<=800) (hb:BR' b):BI s (blkS s [] b).s (blkS s [] b).m:=by
 have:=(k7c (BI.refl h) h hc hb.t).b;unfold blkS;split
 ·exact this
 ·split
  ·exact this
  ·exact⟨this.R,this.p,this.r,this.l,this.k,this.kn,this.kb,this.v,this.lb,this.F,this.ll⟩
theorem kjw {s0 s:PS} {m:List Int} (h:BI s0 s m) (hv:s0.v=trs s0.k):resS s (befS s0 m)=s0:=by
 have hk:(remS m s.k).2=s0.k:=by
  have hn:=h.kn;rw[h.k]at hn ⊢;unfold remS;have e1:(m.any fun x=> !decide (x∈s0.k++m))=false:=by rw[List.any_eq_false];intro x hx;simp[hx]
  have e2:m.Nodup:=by rw[qck]at hn;exact hn.2.1
  rw[e1,qbn e2];exact rem_add hn
 obtain⟨x,hx⟩:=h.l;unfold resS befS;simp only[qr];rw[hk,h.R,h.p,h.r,hx,List.take_left,<-hv]
theorem km8 {s:PS} {c:Nat} (h:PI s c 0) {b:wI} (hc:c+b.Txs.length<=800) (hb:BR' b) (he:(applyS s b).e=0):undoS (applyS s b).s=s/\(applyS s b).s.p.length=s.p.length+1:=by
 have hB:=blkS_BI h hc hb;unfold applyS at he ⊢;split at he
 ·cases he
 ·rename_i h1;rw[qe h1];split at he
  ·cases he
  ·rename_i h2;rw[qe h2];split at he
   ·rename_i h3;exact(h3 he).elim
   ·rename_i h3;rw[qe h3];refine⟨?_,by simp⟩;unfold undoS;rw[qe qqs]
    have e:ix (s.p++[befS s (blkS s [] b).m]) (((s.p++[befS s (blkS s [] b).m]).length:Int)-1)=befS s (blkS s [] b).m:=by
     have:(((s.p++[befS s (blkS s [] b).m]).length:Int)-1)=((s.p.length:Nat):Int):=by simp
     rw[this,ix_get _ _ qqs];simp
    simp only[e];have hr:=kjw hB h.v;have hrl:=h.rl;have e3:(s.p++[befS s (blkS s [] b).m]).take ((s.p++[befS s (blkS s [] b).m]).length-1)=s.p:=by simp
    have e4:(s.r++[rootF (blkS s [] b).s.F]).take ((s.r++[rootF (blkS s [] b).s.F]).length-1)=s.r:=by simp
    rw[e3,e4];have hq:∀(y:PS) (q:wG) (p' :List wG) (r' :List Int),({resS {y with p:=p',r:=r'} q with p:=s.p,r:=s.r}:PS)={resS y q with p:=s.p,r:=s.r}:=fun _ _ _ _=>rfl;rw[hq,hr]
theorem kil {s:PS} {c:Nat} (h:PI s c 0) {b:wI} (hc:c+b.Txs.length<=790) (hb:BR' b) (he:(applyS s b).e=0):PI (applyS s b).s (c+b.Txs.length+1) 0:=by
 have hB:=k7c (BI.refl h) h qqo hb.t;unfold applyS at he ⊢;split at he
 ·cases he
 ·rename_i h1;rw[qe h1];split at he
  ·cases he
  ·rename_i h2;rw[qe h2];unfold blkS at he ⊢;by_cases h3:(blkGo b.Txs s [] 0).e≠0
   ·rw[qh h3,qh h3]at he;exact(h3 he).elim
   ·rw[qe h3]at he ⊢;have hP:=hB.ok (qaq h3);by_cases h4:(crB (blkGo b.Txs s [] 0) b).2≠0
    ·rw[qh h4,qh h4]at he;exact(h4 he).elim
    ·rw[qe h4,qe qqs];have h4:(crB (blkGo b.Txs s [] 0) b).2=0:=qaq h4;generalize blkGo b.Txs s [] 0=x at *
     have hw:=kjl hP qqo;have hB:=hB.b;unfold crB at h4 ⊢;rw[hw.1]at h4 ⊢;have hF:=hP.F;have hr:=kgf (d:=x.s.R.wC) (l:=x.s.l) (by have:=hP.d1;omega) hP.ll;refine⟨hP.d1,hP.d2,hP.w1,hP.w2,hP.rw,hP.F,hP.ll,hP.l,kbh hP.b qqo ⟨hb.m.1,by omega⟩ hw.2.1,hP.n,qec _,?_,?_,?_,?_,hP.kn,hP.kb,?_,hP.v⟩
     ·have h9:=hP.sup;simp only[kdi hP.b.1.1 h4];rw[hB.p]at h9;rw[qj,qcl];have:((s.p.length+1:Nat):Int)*x.s.R.wS=(s.p.length:Int)*x.s.R.wS+x.s.R.wS:=by rw[Int.natCast_add,Int.add_mul];simp
      rw[this];omega
     ·intro y hy;rcases qal.1 hy with hy|hy
      ·exact h.r y hy
      ·rw[qav.1 hy,hF,hr];exact TT_r hP.l _ _
     ·have:=h.rl;simp only[qj,qcl];omega
     ·have:=h.p;simp only[qj,qcl];omega
     ·have:=hP.kl;simp only;omega
theorem kk2:∀{r:List wa} {s:PS} {m:List Int} {f:Int},(blkGo r s m f).m.length<=m.length+4*r.length
 |[],_,_,_=>by simp[blkGo]
 |t::r,s,m,f=>by
  unfold blkGo;split
  ·simp
  ·rename_i h1;have:=(kd0 (qaq h1:chkS s t=0)).v.ml;split
   ·simp;omega
   ·have:=kk2 (r:=r) (s:=(perfS s t).s) (m:=m++t.wL) (f:=u64.wrap (f+t.Fee));rw[qj]at this;simp;omega
theorem blkS_ml (s:PS) (b:wI):(blkS s [] b).m.length<=4*b.Txs.length:=by
 have:=kk2 (r:=b.Txs) (s:=s) (m:=[]) (f:=0);rw[qbf,qaj]at this;unfold blkS;split
 ·exact this
 ·split<;>exact this
def mOf (s:PS):TState:=⟨s.R.wX,s.R.wC,s.R.wN,s.R.wM,s.R.wJ,s.R.wS,s.R.wV,s.R.wO,s.R.wR,s.p.length,s.l,srt s.k,s.b,s.n,s.r⟩
structure UOk (s:PS):Prop where
 v:s.v=trs s.k
 kl:s.k.length<=1000000
 r:1<=s.r.length
 rl:s.r.length<=1000000
 pl:s.p.length<=1000000
 q:s.p≠[]->(ix s.p ((s.p.length:Int)-1)).marks.length<=1000000/\0<=(ix s.p ((s.p.length:Int)-1)).leaves/\(ix s.p ((s.p.length:Int)-1)).leaves<=(s.l.length:Int)
structure ROk (m:TState):Prop where
 w1:1<=m.Rules_Window
 w2:m.Rules_Window<=100
 d1:1<=m.Rules_Depth
 d2:m.Rules_Depth<=12
 h:0<=m.wQ/\m.wQ<=1000000
 rl:m.Roots.length<=1000000
 ml:m.wL.length<=900000
 a:OkA m.wF
 al:m.wF.length<=999
 n:U64 m.wBB
 ll:m.Leaves.length<=4096
theorem take_set' {α:Type} (l:List α) (n:Nat) (x:α):(l.set n x).take n=l.take n:=by
 apply List.ext_getElem
 ·simp
 ·intro i h1 h2;rw[qo]at h2;rw[List.getElem_take,List.getElem_take,List.getElem_set,qe qqo]
theorem PI.rok {s:PS} {c:Nat} {f:Int} (h:PI s c f) (hc:c<=800):ROk (mOf s):=by
 obtain⟨s1,s2,s3,s4⟩:=sup_bd h hc;have hp:=h.p;have hk:=h.kl;have hr:=h.rl;have hp12:=pow12 s.R.wC.toNat (by have:=h.d2;omega);have hl:=h.ll;refine⟨h.w1,h.w2,h.d1,h.d2,?_,?_,?_,h.b.1,?_,⟨h.n,?_⟩,?_⟩
 ·show 0<=(s.p.length:Int)/\(s.p.length:Int)<=1000000;omega
 ·show s.r.length<=1000000;omega
 ·show(srt s.k).length<=900000;rw[k81];omega
 ·have:=h.b.2.2;show s.b.length<=999;omega
 ·show s.n<18446744073709551616;omega
 ·show s.l.length<=4096;omega
theorem kn4 {s:PS} {c:Nat} (h:PI s c 0) {b:wI} (hc:c+b.Txs.length<=790) (hb:BR' b) (he:(applyS s b).e=0):UOk (applyS s b).s:=by
 have hP:=kil h hc hb he;have hB:=blkS_BI h qqo hb;have hml:=blkS_ml s b;have hp:=hP.p;have hk:=hP.kl;have hr:=hP.rl;refine⟨hP.v,by omega,by omega,by omega,by omega,fun _=> ?_⟩;unfold applyS at he ⊢;split at he
 ·cases he
 ·rename_i h1;rw[qe h1];split at he
  ·cases he
  ·rename_i h2;rw[qe h2];split at he
   ·rename_i h3;exact(h3 he).elim
   ·rename_i h3;rw[qe h3]
    have e:ix (s.p++[befS s (blkS s [] b).m]) (((s.p++[befS s (blkS s [] b).m]).length:Int)-1)=befS s (blkS s [] b).m:=by
     have:(((s.p++[befS s (blkS s [] b).m]).length:Int)-1)=((s.p.length:Nat):Int):=by simp
     rw[this,ix_get _ _ qqs];simp
    simp only[e];obtain⟨x,hx⟩:=hB.l;refine⟨?_,?_,?_⟩
    ·show(blkS s [] b).m.length<=1000000;omega
    ·show(0:Int)<=(s.l.length:Int);omega
    ·show(s.l.length:Int)<=((blkS s [] b).s.l.length:Int);rw[hx,qj];omega
def encA (a:wA):List Int:=dig 8 a.ID++dig 8 a.wY++dig 8 a.wU
def encM (m:TState):List Int:=dig 4 (len4 m.wQ)++encL m.Leaves++encL m.wL++dig 4 (len4 (m.wF.length:Int))++m.wF.flatMap encA++dig 8 m.wBB++encL (ancL m.Roots m.Rules_Window)
structure EOk (m:TState):Prop where
 r:ROk m
 l:BG m.Leaves
 k:BG m.wL
 o:BG m.Roots
theorem BG.us {l:List Int} (h:BG l):Us l:=fun x hx=>⟨(h x hx).1,by have:=(h x hx).2;omega⟩
theorem PI.eok {s:PS} {c:Nat} {f:Int} (h:PI s c f) (hc:c<=800):EOk (mOf s):=⟨h.rok hc,h.l,fun x hx=>h.kb x ((k4r s.k).mem_iff.1 hx),h.r⟩
theorem kbi:∀l:List wA,(l.flatMap encA).length=24*l.length
 |[]=>rfl
 |a::r=>by rw[qay,qj,kbi r,qad];unfold encA;simp only[qj,ke];omega
theorem anc_us {r:List Int} {w:Int} (h:BG r):Us (ancL r w):=fun x hx=>BG.us h x (qbo hx)
theorem anc_len (r:List Int) (w:Int):(ancL r w).length<=r.length:=by unfold ancL;rw[qan];omega
theorem acc_u {l:List wA} (h:OkA l) {a:wA} (ha:a∈l):U64 a.ID/\U64 a.wY/\U64 a.wU:=by have:=h.2.2 a ha;obtain⟨⟨a1,a2⟩,⟨a3,a4⟩,a5,a6⟩:=this;exact⟨⟨a1,by omega⟩,⟨a3,by omega⟩,a5,a6⟩
theorem kon {l:List wA} {i:Nat} (h:i<l.length) (X:List Int):X++(l.take i).flatMap encA++dig 8 l[i].ID++dig 8 l[i].wY++dig 8 l[i].wU=X++(l.take (i+1)).flatMap encA:=by rw[qai h,qbh];simp[encA,qx]
def sumW (l:List wa):Int:=(l.map weightS).sum
theorem kps (l:List wa) (x:wa):sumW (l++[x])=sumW l+weightS x:=by simp[sumW]
theorem kem {t:wa} (h:validE t=0):0<=weightS t/\weightS t<=1048880:=by have v:=(k15 t).1 h;have:=v.enc_len t.ww;have:=v.pl;unfold weightS;rw[qh h];omega
theorem sumW_bd:∀(l:List wa),(∀x∈l,validE x=0)->0<=sumW l/\sumW l<=1048880*l.length
 |[],_=>by simp[sumW]
 |x::l,h=>by
  have h1:=sumW_bd l (fun y hy=>h y (by simp[hy]));have h2:=kem (h x qqs);have e:sumW (x::l)=weightS x+sumW l:=by simp[sumW]
  rw[e,qad];omega
structure BR (b:wI):Prop where
 p:U64 b.wd
 m:U64 b.wAF
 w:U64 b.wR
 n:U64 b.wU
 h: -9223372036854775808<=b.wQ/\b.wQ<=9223372036854775807
 t:∀x∈b.Txs,TR x
structure VB0 (b:wI):Prop where
 h0:1<=b.wQ
 h1:b.wQ<=1048576
 w0:1<=b.wR
 w1:b.wR<=65536
 p:b.wd<18446744069414584321
 m:b.wAF<18446744069414584321
 l:b.Txs.length<=64
def vHead (b:wI):Bool:=decide (1<=b.wQ)&&decide (b.wQ<=1048576)&&decide (1<=b.wR)&&decide (b.wR<=65536)&&decide (b.wd<18446744069414584321)&&decide (b.wAF<18446744069414584321)&&decide (b.Txs.length<=64)
theorem k5m (b:wI):vHead b=true↔VB0 b:=by
 unfold vHead;simp only[qg,qaf];constructor
 ·rintro ⟨⟨⟨⟨⟨⟨a,b⟩,c⟩,d⟩,e⟩,f⟩,g⟩;exact⟨a,b,c,d,e,f,g⟩
 ·rintro ⟨a,b,c,d,e,f,g⟩;exact⟨⟨⟨⟨⟨⟨a,b⟩,c⟩,d⟩,e⟩,f⟩,g⟩
def validB (b:wI):Int:=if vHead b=true/\∀t∈b.Txs,validE t=0 then(if sumW b.Txs<=2097152 then 0 else 3)else 1
structure VB (b:wI):Prop where
 h:VB0 b
 t:∀x∈b.Txs,validE x=0
 s:sumW b.Txs<=2097152
theorem k63 (b:wI):validB b=0↔VB b:=by
 unfold validB;split
 ·rename_i h;split
  ·rename_i hs;exact⟨fun _=>⟨(k5m b).1 h.1,h.2,hs⟩,fun _=>rfl⟩
  ·rename_i hs;exact⟨fun e=>absurd e qqd,fun e=>absurd e.s hs⟩
 ·rename_i h;exact⟨fun e=>absurd e qqd,fun e=>absurd ⟨(k5m b).2 e.h,e.t⟩ h⟩
theorem klg {b:wI} (h:¬VB0 b):validB b=1:=qe fun e=>h ((k5m b).1 e.1)
theorem kng {b:wI} {x:wa} (hx:x∈b.Txs) (h:validE x≠0):validB b=1:=qe fun e=>h (e.2 x hx)
theorem kmp {b:wI} (h:VB0 b) (ht:∀x∈b.Txs,validE x=0):validB b=if sumW b.Txs<=2097152 then 0 else 3:=qh ⟨(k5m b).2 h,ht⟩
def hdrS (b:wI):List Int:=dig 8 b.wd++dig 4 (len4 b.wQ)++dig 8 b.wAF++dig 8 b.wR++dig 8 b.wU++dig 4 (len4 (b.Txs.length:Int))
@[simp] theorem kll (b:wI):(hdrS b).length=40:=by simp[hdrS]
theorem hdrS_by (b:wI):By (hdrS b):=((((((dig_by _ _).append (dig_by _ _)).append (dig_by _ _)).append (dig_by _ _)).append (dig_by _ _)).append (dig_by _ _))
def namS (b:wI):List Int:=hdrS b++(b.Txs.map idS).flatMap (dig 8)
def idB (b:wI):Int:=if validB b=0 then hashB 15 (namS b)else 0
theorem kmu (label:Int) (l:List Int):U64 (hashB label l):=kz _ _
theorem idS_u64 (t:wa):U64 (idS t):=by
 unfold idS;split
 ·exact kmu _ _
 ·omega
theorem idS_us (l:List wa):Us (l.map idS):=fun x hx=>by obtain⟨t,_,rfl⟩:=qag.1 hx;exact idS_u64 t
def checkB (w:Int) (b:wI):Int:=if validB b≠0 then validB b else if b.wR≠w then 17 else if Int.tmod (hashB 15 (namS b)) b.wR≠0 then 17 else 0
theorem kbu {r:wB} (h:rulesE r=0):rulesB r=true:=by
 cases hb:rulesB r with
 |true=>rfl
 |false=>unfold rulesE at h;rw[hb]at h;cases h
theorem new_PI {r:wB} (h:rulesE r=0) (h0:0<=r.wS):PI (newS r) 0 0:=by
 have hb:=kbu h;simp only[rulesB,qg,qaf]at hb;have hr:=kgf (d:=r.wC) (l:=[]) qqo (qbg _);refine⟨(by show 1<=r.wC;omega),(by show r.wC<=12;omega),(by show 1<=r.wV;omega),(by show r.wV<=100;omega),⟨h0,(by show r.wS<=4294967296;omega)⟩,rfl,qbg _,(fun x hx=>by cases hx),k4l 0,qec _,qec _,?_,?_,rfl,qt _,qfq,(fun x hx=>by cases hx),qbg _,rfl⟩
 ·show(0:Int)+0+0=((0:Nat):Int)*r.wS;simp
 ·intro x hx;rw[qav.1 hx,hr];exact TT_r (fun x hx=>by cases hx) _ _
theorem PI.mono {s:PS} {c d:Nat} {f:Int} (h:PI s c f) (hd:c<=d):PI s d f:=⟨h.d1,h.d2,h.w1,h.w2,h.rw,h.F,h.ll,h.l,⟨h.b.1,h.b.2.1,qbk h.b.2.2 hd⟩,h.n,h.ff,h.sup,h.r,h.rl,qbk h.p hd,h.kn,h.kb,qbk h.kl (Nat.mul_le_mul_left 4 hd),h.v⟩
theorem kmk {s:PS} {b:wI} (h:(applyS s b).e≠0):(applyS s b).s=s:=by
 unfold applyS at h ⊢;split
 ·rfl
 ·rename_i h1;rw[qe h1]at h;split
  ·rfl
  ·rename_i h2;rw[qe h2]at h;split
   ·rfl
   ·rename_i h3;rw[qe h3]at h;exact(h rfl).elim
theorem apply_R {s:PS} {c:Nat} (h:PI s c 0) {b:wI} (hc:c+b.Txs.length<=790) (hb:BR' b):(applyS s b).s.R=s.R:=by
 have hB:=blkS_BI h qqo hb;unfold applyS;split
 ·rfl
 ·split
  ·rfl
  ·split
   ·rfl
   ·exact hB.R
theorem sup_PI {s:PS} {c:Nat} (h:PI s c 0) (hc:c<=800):totA 0 s.b=(sumA s.b,0)/\u64.wrap (sumA s.b+s.n)=u64.wrap (u64.wrap (s.p.length:Int)*s.R.wS):=by
 obtain⟨s1,s2,s3,s4⟩:=sup_bd h hc;have hp:=h.p;have hs:=h.sup;refine⟨?_,?_⟩
 ·have:=tot_sum (l:=s.b) (s:=0) (fun a ha=>(h.b.1.2.2 a ha).2.1.1) qqo;rw[this,Int.zero_add]
 ·rw[wrap_u64 (s.p.length:Int) qqo qqo,<-hs];congr 1;omega
def auGo:List wI->PS->PE
 |[],s=>⟨0,s⟩
 |b::r,s=>if(applyS s b).e=0 then auGo r (applyS s b).s else⟨(applyS s b).e,s⟩
theorem k2j {p:Int} {l:List Int}:mHas (BEq.beq p) l=true↔p∈l:=by
 rw[kow];constructor
 ·rintro ⟨x,hx,h⟩;have:p=x:=by simpa using h
  exact this▸hx
 ·intro h;exact⟨p,h,by simp⟩
theorem km2 {s:PS} {b:wI} (h:(applyS s b).e=0):b.wQ=(s.p.length:Int)+1/\(applyS s b).s.p.length=s.p.length+1/\(blkS s [] b).e=0/\(applyS s b).s.n=(blkS s [] b).s.n/\(applyS s b).s.l=(blkS s [] b).s.l:=by
 unfold applyS at h ⊢;split at h
 ·cases h
 ·rename_i h1;rw[qe h1];split at h
  ·cases h
  ·rename_i h2;rw[qe h2];split at h
   ·rename_i h3;exact(h3 h).elim
   ·rename_i h3;rw[qe h3];exact⟨qaq h1,by simp,qaq h3,rfl,rfl⟩
theorem auGo_PI:∀(l:List wI) (s:PS) (c:Nat),PI s c 0->(∀b∈l,BR' b)->(∀b∈l,b.Txs.length<=4)->c+5*l.length<=790->(auGo l s).e=0->PI (auGo l s).s (c+5*l.length) 0/\(auGo l s).s.p.length=s.p.length+l.length/\(auGo l s).s.R=s.R
 |[],s,c,h,_,_,_,_=>⟨h,by simp[auGo],rfl⟩
 |b::r,s,c,h,hb,ht,hc,he=>by
  have hc:c+5*(r.length+1)<=790:=hc;unfold auGo at he ⊢;split at he
  ·rename_i h1;rw[qh h1];have h4:=ht b qqs;have hP:=(kil h qqo (hb b qqs) h1).mono (d:=c+5) qqo;obtain⟨g1,g2,g3⟩:=auGo_PI r _ (c+5) hP (fun x hx=>hb x (by simp[hx])) (fun x hx=>ht x (by simp[hx])) qqo he;refine⟨?_,?_,?_⟩
   ·rw[qad,show c+5*(r.length+1)=c+5+5*r.length by omega];exact g1
   ·rw[g2,(km2 h1).2.1,qad];omega
   ·rw[g3];exact apply_R h qqo (hb b qqs)
  ·rename_i h1;exact(h1 he).elim
def blkOf (x:wK):wI:=⟨x.wAH,x.wAC,x.wAM,x.wAP,x.wAN,x.wAT⟩
def gB (k:List Int) (v:List wK) (id:Int):wI:=blkOf (mVal (BEq.beq id) k v default)
def brS (k:List Int) (v:List wK):Nat->Int->List Int
 |0,_=>[]
 |h+1,p=>brS k v h (gB k v p).wd++[p]
def brB (k:List Int) (v:List wK) (b:wI):List Int:=brS k v (b.wQ-1).toNat b.wd
def pthI (k:List Int) (v:List wK) (id:Int):List Int:=brB k v (gB k v id)++[id]
def stL (R:wB) (k:List Int) (v:List wK) (l:List Int):PE:=auGo (l.map (gB k v)) (newS R)
def undoN:Nat->PS->PS
 |0,s=>s
 |k+1,s=>undoN k (undoS s)
theorem k8a:∀(k:Nat) (s:PS),undoN (k+1) s=undoS (undoN k s)
 |0,_=>rfl
 |k+1,s=>k8a k (undoS s)
theorem k2p (b:wI) (r:List wI) (s:PS):auGo (b::r) s=if(applyS s b).e=0 then auGo r (applyS s b).s else⟨(applyS s b).e,s⟩:=rfl
theorem k7f:∀(a b:List wI) (s:PS),(auGo a s).e=0->auGo (a++b) s=auGo b (auGo a s).s
 |[],b,s,_=>rfl
 |x::a,b,s,h=>by
  rw[k2p]at h;rw[List.cons_append,k2p,k2p];split at h
  ·rename_i h1;rw[qh h1,qh h1];exact k7f a b _ h
  ·rename_i h1;exact(h1 h).elim
theorem kca:∀(a b:List wI) (s:PS),(auGo (a++b) s).e=0->(auGo a s).e=0
 |[],b,s,_=>rfl
 |x::a,b,s,h=>by
  rw[List.cons_append,k2p]at h;rw[k2p];split at h
  ·rename_i h1;rw[qh h1];exact kca a b _ h
  ·rename_i h1;exact(h1 h).elim
theorem kk4 {b:wI} {s:PS} (h:(applyS s b).e=0):auGo [b] s=⟨0,(applyS s b).s⟩:=by unfold auGo;rw[qh h];rfl
def BLs (l:List wI):Prop:=(∀b∈l,BR' b)/\∀b∈l,b.Txs.length<=4
theorem kcy {α:Type} (p:α->Bool):∀(l m:List α),mIdx p (l++m)=match mIdx p l with|some j=>some j|none=>(mIdx p m).map (·+l.length)
 |[],m=>by simp[mIdx]
 |x::l,m=>by
  show(bif p x then some 0 else(mIdx p (l++m)).map (·+1))=match(bif p x then some 0 else(mIdx p l).map (·+1))with|some j=>some j|none=>(mIdx p m).map (·+(x::l).length);cases h:p x with
  |true=>rfl
  |false=>
   simp only[qbt];rw[kcy p l m];cases mIdx p l with
   |some j=>rfl
   |none=>
    simp only[Option.map_none];cases mIdx p m with
    |none=>rfl
    |some j=>simp only[qax,qad];congr 1
theorem kjh {β:Type} {x id:Int} {k:List Int} {v:List β} {y d:β} (hx:x∈k) (hl:k.length=v.length):mVal (BEq.beq x) (k++[id]) (v++[y]) d=mVal (BEq.beq x) k v d:=by
 have h:=k2j.2 hx;unfold mHas at h;unfold mVal;rw[kcy];cases hm:mIdx (BEq.beq x) k with
 |none=>rw[hm]at h;cases h
 |some j=>
  obtain⟨z,h1,h2⟩:=k5t hm;have hj:j<v.length:=by have:=(qf.1 h1).1;omega
  simp only;rw[qap hj]
theorem kim {β:Type} {id:Int} {k:List Int} {v:List β} {y d:β} (hx:id∉k) (hl:k.length=v.length):mVal (BEq.beq id) (k++[id]) (v++[y]) d=y:=by
 have h:mHas (BEq.beq id) k=false:=by
  cases hc:mHas (BEq.beq id) k with
  |false=>rfl
  |true=>exact(hx (k2j.1 hc)).elim
 unfold mHas at h;unfold mVal;rw[kcy];cases hm:mIdx (BEq.beq id) k with
 |some j=>rw[hm]at h;cases h
 |none=>
  have:mIdx (BEq.beq id) [id]=some 0:=by simp[mIdx]
  rw[this];simp[hl]
def accT (R:wB) (t:wa):Bool:=(decW t.ww).2==0&&checkS pkR (stmtS t R.wC) (decW t.ww).1==0
def txE (R:wB) (t:wa):Int:=if rulesE R≠0 then rulesE R else if validE t≠0 then validE t else if accT R t=false then 10 else 0
def txsE (R:wB):List wa->Int
 |[]=>0
 |t::r=>if txE R t≠0 then txE R t else txsE R r
structure CS where
 R:wB
 k:List Int
 v:List wK
 be:List Int
 S:PS
 fi:Int
 he:Int
structure KI (R:wB) (k:List Int) (v:List wK) (n:Nat):Prop where
 kv:k.length=v.length
 kn:k.length<=n
 r:∀id∈k,BR' (gB k v id)/\(gB k v id).Txs.length<=4
 h1:∀id∈k,1<=(gB k v id).wQ/\(gB k v id).wQ<=k.length
 hp:∀id∈k,1<(gB k v id).wQ->(gB k v id).wd∈k/\(gB k v (gB k v id).wd).wQ=(gB k v id).wQ-1
 rep:∀id∈k,(stL R k v (pthI k v id)).e=0
 ac:∀id∈k,txsE R (gB k v id).Txs=0
 ru:rulesE R=0
 w:0<=R.wS
structure CI (c:CS) (n:Nat):Prop where
 K:KI c.R c.k c.v n
 be:c.be=[]∨∃id∈c.k,c.be=pthI c.k c.v id
 st:c.S=(stL c.R c.k c.v c.be).s
 he:0<=c.he/\c.he<=4294967296
theorem KI.way {R:wB} {k:List Int} {v:List wK} {n:Nat} (h:KI R k v n):∀(m:Nat) (p:Int),p∈k->(gB k v p).wQ=(m:Int)->brS k v m p=pthI k v p/\(pthI k v p).length=m/\∀x∈pthI k v p,x∈k
 |0,p,hp,hm=>by have:=(h.h1 p hp).1;omega
 |1,p,hp,hm=>by
  have e:brB k v (gB k v p)=[]:=by unfold brB;rw[hm];rfl
  refine⟨?_,?_,fun x hx=> ?_⟩
  ·unfold pthI;rw[e];rfl
  ·unfold pthI;rw[e];rfl
  ·unfold pthI at hx;rw[e]at hx;rw[qav.1 hx];exact hp
 |m+2,p,hp,hm=>by
  obtain⟨q1,q2⟩:=h.hp p hp qqo;obtain⟨w1,w2,w3⟩:=h.way (m+1) (gB k v p).wd q1 (by rw[q2,hm];omega);have e:brB k v (gB k v p)=pthI k v (gB k v p).wd:=by unfold brB;rw[show((gB k v p).wQ-1).toNat=m+1 by omega];exact w1
  have e2:pthI k v p=pthI k v (gB k v p).wd++[p]:=by
   conv=>lhs;unfold pthI
   rw[e]
  refine⟨?_,?_,fun x hx=> ?_⟩
  ·rw[e2,<-w1];rfl
  ·rw[e2,qj,w2];rfl
  ·rw[e2]at hx;rcases qal.1 hx with hx|hx
   ·exact w3 x hx
   ·rw[qav.1 hx];exact hp
theorem KI.pth {R:wB} {k:List Int} {v:List wK} {n:Nat} (h:KI R k v n) {p:Int} (hp:p∈k):((pthI k v p).length:Int)=(gB k v p).wQ/\(∀x∈pthI k v p,x∈k)/\(pthI k v p).length<=n:=by obtain⟨h1,h2⟩:=h.h1 p hp;obtain⟨m,hm⟩:=qn (show 0<=(gB k v p).wQ by omega);obtain⟨_,w2,w3⟩:=h.way m p hp hm;have:=h.kn;exact⟨by omega,w3,by omega⟩
theorem KI.bls {R:wB} {k:List Int} {v:List wK} {n:Nat} (h:KI R k v n) {l:List Int} (hl:∀x∈l,x∈k):BLs (l.map (gB k v)):=by
 refine⟨fun b hb=> ?_,fun b hb=> ?_⟩
 ·obtain⟨x,hx,rfl⟩:=qag.1 hb;exact(h.r x (hl x hx)).1
 ·obtain⟨x,hx,rfl⟩:=qag.1 hb;exact(h.r x (hl x hx)).2
theorem KI.pi {R:wB} {k:List Int} {v:List wK} {n:Nat} (h:KI R k v n) {l:List Int} (hl:∀x∈l,x∈k) (hn:l.length<=20) (he:(stL R k v l).e=0):PI (stL R k v l).s (5*l.length) 0/\(stL R k v l).s.p.length=l.length/\(stL R k v l).s.R=R:=by have hB:=h.bls hl;have:=auGo_PI (l.map (gB k v)) (newS R) 0 (new_PI h.ru h.w) hB.1 hB.2 (by rw[qm];omega) he;rw[qm,qaj]at this;obtain⟨a,b,c⟩:=this;exact⟨a,by show(auGo _ _).s.p.length=_;rw[b];exact qaj _,c⟩
def PaOk (k:List Int) (v:List wK) (b:wI):Prop:=(b.wQ=1/\b.wd=0)∨(b.wQ≠1/\b.wd∈k/\(gB k v b.wd).wQ=b.wQ-1)
def parS (k:List Int) (v:List wK) (b:wI):Int:=if b.wQ=1 then(if b.wd≠0 then 18 else 0)else if mHas (BEq.beq b.wd) k=false∨(gB k v b.wd).wQ≠i64.wrap (b.wQ-1)then 18 else 0
theorem KI.br {R:wB} {k:List Int} {v:List wK} {n:Nat} (h:KI R k v n) {b:wI} (hb:PaOk k v b) (hh:1<=b.wQ):((brB k v b).length:Int)=b.wQ-1/\(∀x∈brB k v b,x∈k)/\(stL R k v (brB k v b)).e=0/\(brB k v b).length<=n/\b.wQ<=k.length+1:=by
 rcases hb with⟨h1,h2⟩|⟨h1,h2,h3⟩
 ·have e:brB k v b=[]:=by unfold brB;rw[h1];rfl
  rw[e];exact⟨by simp;omega,fun x hx=>(by cases hx),rfl,qbg _,by omega⟩
 ·obtain⟨m,hm⟩:=qn (show 0<=b.wQ-1 by omega);have e:brB k v b=pthI k v b.wd:=by unfold brB;rw[hm,qr];exact(h.way m b.wd h2 (by rw[h3,hm])).1
  obtain⟨p1,p2,p3⟩:=h.pth h2;have:=(h.h1 b.wd h2).2;rw[e];exact⟨by rw[p1,h3],p2,h.rep _ h2,p3,by omega⟩
theorem gB_old {k:List Int} {v:List wK} {id:Int} {y:wK} (hl:k.length=v.length) {x:Int} (hx:x∈k):gB (k++[id]) (v++[y]) x=gB k v x:=by unfold gB;rw[kjh hx hl]
theorem gB_new {k:List Int} {v:List wK} {id:Int} {y:wK} (hl:k.length=v.length) (hx:id∉k):gB (k++[id]) (v++[y]) id=blkOf y:=by unfold gB;rw[kim hx hl]
theorem KI.way_old {R:wB} {k:List Int} {v:List wK} {n:Nat} (h:KI R k v n) {id:Int} {y:wK}:∀(m:Nat) (p:Int),p∈k->(gB k v p).wQ=(m:Int)->brS (k++[id]) (v++[y]) m p=brS k v m p
 |0,p,_,_=>rfl
 |1,p,hp,hm=>rfl
 |m+2,p,hp,hm=>by obtain⟨q1,q2⟩:=h.hp p hp qqo;unfold brS;rw[gB_old h.kv hp,h.way_old (m+1) _ q1 (by rw[q2,hm];omega)]
theorem KI.pth_old {R:wB} {k:List Int} {v:List wK} {n:Nat} (h:KI R k v n) {id:Int} {y:wK} {p:Int} (hp:p∈k):pthI (k++[id]) (v++[y]) p=pthI k v p:=by
 obtain⟨h1,_⟩:=h.h1 p hp;unfold pthI brB;rw[gB_old h.kv hp];obtain⟨m,hm⟩:=qn (show 0<=(gB k v p).wQ-1 by omega);rw[hm,qr];cases m with
 |zero=>rfl
 |succ m=>obtain⟨q1,q2⟩:=h.hp p hp qqo;rw[h.way_old (m+1) _ q1 (by rw[q2,hm])]
theorem KI.br_old {R:wB} {k:List Int} {v:List wK} {n:Nat} (h:KI R k v n) {id:Int} {y:wK} {b:wI} (hb:PaOk k v b) (hh:1<=b.wQ):brB (k++[id]) (v++[y]) b=brB k v b:=by
 unfold brB;obtain⟨m,hm⟩:=qn (show 0<=b.wQ-1 by omega);rw[hm,qr];cases m with
 |zero=>rfl
 |succ m=>
  rcases hb with⟨h1,h2⟩|⟨h1,h2,h3⟩
  ·omega
  ·rw[h.way_old (m+1) _ h2 (by rw[h3,hm])]
theorem stL_old {R:wB} {k:List Int} {v:List wK} {id:Int} {y:wK} (hl:k.length=v.length) {l:List Int} (hk:∀x∈l,x∈k):stL R (k++[id]) (v++[y]) l=stL R k v l:=by unfold stL;rw[qar (fun x hx=>gB_old hl (hk x hx))]
structure NB (R:wB) (k:List Int) (v:List wK) (id:Int) (b:wI):Prop where
 n:id∉k
 p:PaOk k v b
 h:1<=b.wQ
 r:BR' b
 t:b.Txs.length<=4
 e:(applyS (stL R k v (brB k v b)).s b).e=0
 a:txsE R b.Txs=0
theorem KI.step {R:wB} {k:List Int} {v:List wK} {n:Nat} (h:KI R k v n) {id:Int} {y:wK} (hb:NB R k v id (blkOf y)):KI R (k++[id]) (v++[y]) (n+1)/\pthI (k++[id]) (v++[y]) id=brB k v (blkOf y)++[id]/\(stL R (k++[id]) (v++[y]) (brB k v (blkOf y)++[id]))=⟨0,(applyS (stL R k v (brB k v (blkOf y))).s (blkOf y)).s⟩:=by
 have hold:=fun {x:Int} (hx:x∈k)=>gB_old (id:=id) (y:=y) h.kv hx;have hnew:=gB_new (y:=y) h.kv hb.n;obtain⟨b1,b2,b3,b4,b5⟩:=h.br hb.p hb.h;have hkn:=h.kn;have hp:pthI (k++[id]) (v++[y]) id=brB k v (blkOf y)++[id]:=by unfold pthI;rw[hnew,h.br_old hb.p hb.h]
 have hs:(stL R (k++[id]) (v++[y]) (brB k v (blkOf y)++[id]))=⟨0,(applyS (stL R k v (brB k v (blkOf y))).s (blkOf y)).s⟩:=by have h1:=stL_old (R:=R) (id:=id) (y:=y) h.kv b2;unfold stL at h1 b3 ⊢;rw[qbm,k7f _ _ _ (by rw[h1];exact b3),h1,List.map_singleton,hnew];exact kk4 hb.e
 refine⟨⟨by simp[h.kv],by simp;omega,fun x hx=> ?_,fun x hx=> ?_,fun x hx hx1=> ?_,fun x hx=> ?_,fun x hx=> ?_,h.ru,h.w⟩,hp,hs⟩
 ·rcases qal.1 hx with hx|hx
  ·rw[hold hx];exact h.r x hx
  ·rw[qav.1 hx,hnew];exact⟨hb.r,hb.t⟩
 ·rw[qj,qcl];rcases qal.1 hx with hx|hx
  ·rw[hold hx];have:=h.h1 x hx;omega
  ·rw[qav.1 hx,hnew];exact⟨hb.h,by omega⟩
 ·rcases qal.1 hx with hx|hx
  ·rw[hold hx]at hx1 ⊢;obtain⟨q1,q2⟩:=h.hp x hx hx1;rw[hold q1];exact⟨by simp[q1],q2⟩
  ·rw[qav.1 hx,hnew]at hx1 ⊢;rcases hb.p with⟨q1,q2⟩|⟨q1,q2,q3⟩
   ·omega
   ·rw[hold q2];exact⟨by simp[q2],q3⟩
 ·rcases qal.1 hx with hx|hx
  ·rw[h.pth_old hx,stL_old h.kv (h.pth hx).2.1];exact h.rep x hx
  ·rw[qav.1 hx,hp,hs]
 ·rcases qal.1 hx with hx|hx
  ·rw[hold hx];exact h.ac x hx
  ·rw[qav.1 hx,hnew];exact hb.a
theorem rhoS_u8 (o i:Int):U64 (rhoS o i):=by
 unfold rhoS;split
 ·exact kz _ _
 ·decide
theorem koc (t:wa):U64 (bindS t):=by
 unfold bindS;split
 ·exact kz _ _
 ·decide
theorem kq9 {t:wa} {d:Int} (h:TR t) (hd: -9223372036854775808<=d/\d<=9223372036854775807):SR (stmtS t d):=by
 unfold stmtS;split
 ·rename_i hv;have v:=(k15 t).1 hv;refine⟨hd,h.a,h.m,(by show t.wL.length<=_;have:=v.ml;omega),fun x hx=> ?_,(by have:=v.ol;simp;omega),fun x hx=> ?_,(by have:=v.ol;simp;omega),h.d,h.w,h.f,h.ac,koc t⟩
  ·obtain⟨o,ho,rfl⟩:=qag.1 hx;exact(h.o o ho).c
  ·obtain⟨i,_,rfl⟩:=qag.1 hx;exact rhoS_u8 _ _
 ·exact⟨⟨(by simp only;omega),(by simp only;omega)⟩,(by decide:U64 0),fun x hx=>(by cases hx),(by decide:(0:Nat)<=_),fun x hx=>(by cases hx),(by decide:(0:Nat)<=_),fun x hx=>(by cases hx),(by decide:(0:Nat)<=_),(by decide:U64 0),(by decide:U64 0),(by decide:U64 0),(by decide:U64 0),(by decide:U64 0)⟩
theorem kq2 {b:List Int} (h:((decW b).2==0)=true):WR (decW b).1:=by
 rcases km6 b with⟨w,hE,e⟩|e
 ·rw[e];obtain⟨v1,v2,v3,v4,v5⟩:=k83.1 hE.v;have hq:=hE.r
  exact⟨fun x hx=>by
   have h1:=hq.i x hx;have h2:=(k78.1 (v4 x hx)).2.2.2.2.2.2.1;exact⟨h1.n,h1.k,h1.nu,h1.po,h1.pa,by omega⟩,by show w.Ins.length<=_;omega,hq.o,by show w.wE.length<=_;omega,hq.s⟩
 ·rw[e]at h;cases h
theorem orOk_q (q:List wH):OrOk [] [] q:=⟨rfl,fun v hv=>by cases hv⟩
def smT (t:wa):Bool:=decide (t.wL.length<=6)&&decide (t.wE.length<=6)&&decide (t.ww.length<=2000)&&t.wE.all (fun o=>decide (o.wm.length<=10))
def smS (b:wI):Bool:=b.Txs.all smT&&decide (b.Txs.length<=4)
def fewS (r:wB) (l:List wI) (n:Int):Bool:=l.all smS&&(decide (r.wX=2)&&(decide (r.wC<=5)&&decide ((l.length:Int)<=n)))
def cpl:List Int->List Int->Nat
 |a::l,b::m=>if a=b then cpl l m+1 else 0
 |_,_=>0
theorem cpl_le:∀(l m:List Int),cpl l m<=l.length/\cpl l m<=m.length/\l.take (cpl l m)=m.take (cpl l m)
 |[],m=>by simp[cpl]
 |a::l,[]=>by simp[cpl]
 |a::l,b::m=>by
  unfold cpl;split
  ·rename_i h;obtain⟨h1,h2,h3⟩:=cpl_le l m;subst h;simp only[qad,List.take_succ_cons,h3];exact⟨by omega,by omega,trivial⟩
  ·simp
theorem kk7:∀(i:Nat) (l m:List Int),i<=cpl l m->(i=cpl l m↔¬(i<l.length/\i<m.length/\l.getD i 0=m.getD i 0))
 |i,[],m,h=>by
  have:i=0:=by simpa[cpl]using h
  subst this;simp[cpl]
 |i,a::l,[],h=>by
  have:i=0:=by simpa[cpl]using h
  subst this;simp[cpl]
 |0,a::l,b::m,_=>by
  unfold cpl;split
  ·rename_i h;simp[h]
  ·rename_i h;simp[h]
 |i+1,a::l,b::m,h=>by
  unfold cpl at h ⊢;split at h
  ·rename_i hab;rw[qh hab];have:=kk7 i l m qqo;simp only[qad,List.getD_cons_succ];constructor
   ·intro e;have:=this.1 qqo;omega
   ·intro e;have:=this.2 qqo;omega
  ·omega
def mvS (k:List Int) (v:List wK) (S:PS) (n:Nat) (l:List Int):PS:=(auGo (l.map (gB k v)) (undoN n S)).s
structure MvA (k:List Int) (v:List wK) (S:PS) (n:Nat) (l:List Int) (s0:PS) (c:Nat) (lf:List wI):Prop where
 hp:PI s0 c 0
 hn:lf.length=n
 hb:BLs lf
 ht:BLs (l.map (gB k v))
 hc:c+5*n+5*l.length<=700
 he:(auGo lf s0).e=0
 hs:S=(auGo lf s0).s
 hf:(auGo (l.map (gB k v)) s0).e=0
def MvOk (k:List Int) (v:List wK) (S:PS) (n:Nat) (l:List Int):Prop:=∃s0 c lf,MvA k v S n l s0 c lf
theorem BLs.take {l:List wI} (h:BLs l) (n:Nat):BLs (l.take n):=⟨fun b hb=>h.1 b (qat hb),fun b hb=>h.2 b (qat hb)⟩
theorem k5y (l:List wI) (s:PS) (n:Nat) (h:(auGo l s).e=0):(auGo (l.take n) s).e=0:=by rw[<-qbs n l]at h;exact kca _ _ _ h
theorem k5u {l:List wI} {s:PS} {n:Nat} (h:(auGo l s).e=0) (hn:n<l.length):(applyS (auGo (l.take n) s).s l[n]).e=0/\(auGo (l.take (n+1)) s).s=(applyS (auGo (l.take n) s).s l[n]).s:=by
 have h1:=k5y l s (n+1) h;have h2:=k5y l s n h;rw[qai hn]at h1 ⊢;rw[k7f _ _ _ h2]at h1 ⊢
 have h3:(applyS (auGo (l.take n) s).s l[n]).e=0:=by
  rw[k2p]at h1;split at h1
  ·rename_i h3;exact h3
  ·rename_i h3;exact(h3 h1).elim
 rw[kk4 h3];exact⟨h3,rfl⟩
theorem kcj {l:List wI} {s:PS} {c:Nat} (h:(auGo l s).e=0) (hp:PI s c 0) (hb:BLs l) (n:Nat) (hn:n<=l.length) (hc:c+5*l.length<=790):PI (auGo (l.take n) s).s (c+5*n) 0:=by have:=(auGo_PI (l.take n) s c hp (hb.take n).1 (hb.take n).2 (by rw[qo];omega) (k5y l s n h)).1;rw[qo,qcb hn]at this;exact this
theorem MvA.back {k:List Int} {v:List wK} {S:PS} {n:Nat} {l:List Int} {s0:PS} {c:Nat} {lf:List wI} (h:MvA k v S n l s0 c lf):∀i,i<=n->undoN i S=(auGo (lf.take (n-i)) s0).s
 |0,_=>by rw[h.hs,Nat.sub_zero,qu (by rw[h.hn];exact qt _)];rfl
 |i+1,hi=>by rw[k8a,h.back i qqo];have hn:=h.hn;have hc:=h.hc;obtain⟨g1,g2⟩:=k5u h.he (n:=n-(i+1)) qqo;rw[show n-i=n-(i+1)+1 by omega,g2];have hP:=kcj h.he h.hp h.hb (n-(i+1)) qqo qqo;have hm:lf[n-(i+1)]' qqo∈lf:=qak _;have:=h.hb.2 _ hm;exact(km8 hP qqo (h.hb.1 _ hm) g1).1
theorem MvA.uok {k:List Int} {v:List wK} {S:PS} {n:Nat} {l:List Int} {s0:PS} {c:Nat} {lf:List wI} (h:MvA k v S n l s0 c lf) {i:Nat} (hi:i<n):UOk (undoN i S):=by rw[h.back i qqo];have hn:=h.hn;have hc:=h.hc;obtain⟨g1,g2⟩:=k5u h.he (n:=n-(i+1)) qqo;rw[show n-i=n-(i+1)+1 by omega,g2];have hP:=kcj h.he h.hp h.hb (n-(i+1)) qqo qqo;have hm:lf[n-(i+1)]' qqo∈lf:=qak _;have:=h.hb.2 _ hm;exact kn4 hP qqo (h.hb.1 _ hm) g1
theorem MvA.base {k:List Int} {v:List wK} {S:PS} {n:Nat} {l:List Int} {s0:PS} {c:Nat} {lf:List wI} (h:MvA k v S n l s0 c lf):undoN n S=s0:=by rw[h.back n (qt _),Nat.sub_self];rfl
theorem MvA.fwd {k:List Int} {v:List wK} {S:PS} {n:Nat} {l:List Int} {s0:PS} {c:Nat} {lf:List wI} (h:MvA k v S n l s0 c lf) {j:Nat} (hj:j<l.length):
  PI (auGo ((l.take j).map (gB k v)) s0).s (c+5*j) 0/\BR' (gB k v l[j])/\(gB k v l[j]).Txs.length<=4/\(auGo ((l.take (j+1)).map (gB k v)) s0).s=(applyS (auGo ((l.take j).map (gB k v)) s0).s (gB k v l[j])).s:=by
 have hc:=h.hc;have hl:(l.map (gB k v)).length=l.length:=qm _;have hP:=kcj h.hf h.hp h.ht j qqo qqo;obtain⟨g1,g2⟩:=k5u h.hf (n:=j) qqo;rw[List.getElem_map]at g1 g2;rw[<-qby]at hP g2 g1;rw[<-qby]at g2;have hm:gB k v l[j]∈l.map (gB k v):=qag.2 ⟨l[j],qak _,rfl⟩;exact⟨hP,h.ht.1 _ hm,h.ht.2 _ hm,g2⟩
structure FH where
 f:Int
 h:Int
def finS (F:Int) (be:List Int) (f h:Int):FH:=if 1<=(be.length:Int)-F/\h<(be.length:Int)-F then⟨ix be ((be.length:Int)-F-1),(be.length:Int)-F⟩else⟨f,h⟩
def wkS (v:List wK) (k:List Int) (id:Int):Int:=(mVal (BEq.beq id) k v default).work
def betS (k:List Int) (v:List wK) (be:List Int) (id w:Int):Bool:=if be=[]then true else decide (wkS v k (ix be ((be.length:Int)-1))<w)||(w==wkS v k (ix be ((be.length:Int)-1))&&decide (id<ix be ((be.length:Int)-1)))
def stoS (b:wI) (w:Int):wK:=⟨b.wd,b.wQ,b.wAF,b.wR,b.wU,b.Txs,w⟩
def wrkS (c:CS) (b:wI):Int:=if brB c.k c.v b=[]then b.wR else u64.wrap (b.wR+wkS c.v c.k b.wd)
structure SubR where
 u:Int
 a:Int
 e:Int
 c:CS
def addS' (c:CS) (b:wI):CS:={c with k:=c.k++[idB b],v:=c.v++[stoS b (wrkS c b)]}
def topS (c:CS) (b:wI):CS:={addS' c b with be:=brB c.k c.v b++[idB b],S:=(applyS (stL c.R c.k c.v (brB c.k c.v b)).s b).s,fi:=(finS c.R.wO (brB c.k c.v b++[idB b]) c.fi c.he).f,he:=(finS c.R.wO (brB c.k c.v b++[idB b]) c.fi c.he).h}
def subE (c:CS) (b:wI):Int:=
 if checkB c.R.wR b≠0 then checkB c.R.wR b else if idB b∈c.k then 5 else if parS c.k c.v b≠0 then parS c.k c.v b
 else if 0<c.he/\(((brB c.k c.v b).length:Int)<c.he∨ix (brB c.k c.v b) (c.he-1)≠c.fi)then 19
 else if txsE c.R b.Txs≠0 then txsE c.R b.Txs else(applyS (stL c.R c.k c.v (brB c.k c.v b)).s b).e
def subS (c:CS) (b:wI):SubR:=
 if subE c b≠0 then⟨0,0,subE c b,c⟩
 else if betS c.k c.v c.be (idB b) (wrkS c b)=false then⟨0,0,0,addS' c b⟩
 else⟨(c.be.length:Int)-(cpl (brB c.k c.v b) c.be:Int),((brB c.k c.v b).length:Int)+1-(cpl (brB c.k c.v b) c.be:Int),0,topS c b⟩
structure GB (b:wI):Prop where
 r:BR b
 l:∀t∈b.Txs,TL t
 t:b.Txs.length<=4
theorem GB.r' {b:wI} (h:GB b):BR' b:=⟨h.r.m,h.r.t,h.l⟩
structure SuO (c:CS) (b:wI):Prop where
 hc:checkB c.R.wR b=0
 hi:idB b∉c.k
 hp:parS c.k c.v b=0
 ht:txsE c.R b.Txs=0
 he:(applyS (stL c.R c.k c.v (brB c.k c.v b)).s b).e=0
theorem kms {c:CS} {b:wI} (h:subE c b=0):SuO c b:=by
 unfold subE at h;split at h
 ·rename_i h1;exact(h1 h).elim
 ·rename_i h1;split at h
  ·cases h
  ·rename_i h2;split at h
   ·rename_i h3;exact(h3 h).elim
   ·rename_i h3;split at h
    ·cases h
    ·split at h
     ·rename_i h5;exact(h5 h).elim
     ·rename_i h5;exact⟨qaq h1,h2,qaq h3,qaq h5,h⟩
theorem kjo {w:Int} {b:wI} (h:checkB w b=0):VB b:=by
 unfold checkB at h;split at h
 ·rename_i h1;exact(h1 h).elim
 ·rename_i h1;exact(k63 b).1 (qaq h1)
theorem parS_ok {k:List Int} {v:List wK} {b:wI} (h:parS k v b=0) (v0:VB b):PaOk k v b:=by
 unfold parS at h;have h0:=v0.h.h0;have h1:=v0.h.h1;split at h
 ·rename_i h2;split at h
  ·cases h
  ·rename_i h3;exact .inl ⟨h2,qaq h3⟩
 ·rename_i h2;split at h
  ·cases h
  ·rename_i h3;refine .inr ⟨h2,?_,?_⟩
   ·cases hm:mHas (BEq.beq b.wd) k with
    |true=>exact k2j.1 hm
    |false=>exact(h3 (.inl hm)).elim
   ·have:(gB k v b.wd).wQ=i64.wrap (b.wQ-1):=qaq fun hh=>h3 (.inr hh);rw[this,wi _ qqo qqo]
theorem blk_sto (b:wI) (w:Int):blkOf (stoS b w)=b:=rfl
theorem SuO.nb {c:CS} {b:wI} (h:SuO c b) (hb:GB b):NB c.R c.k c.v (idB b) b:=by have v:=kjo h.hc;exact⟨h.hi,parS_ok h.hp v,v.h.h0,hb.r',hb.t,h.he,h.ht⟩
theorem KI.mono {R:wB} {k:List Int} {v:List wK} {n m:Nat} (h:KI R k v n) (hm:n<=m):KI R k v m:=⟨h.kv,qbk h.kn hm,h.r,h.h1,h.hp,h.rep,h.ac,h.ru,h.w⟩
theorem CI.mono {c:CS} {n m:Nat} (h:CI c n) (hm:n<=m):CI c m:=⟨h.K.mono hm,h.be,h.st,h.he⟩
theorem CI.bek {c:CS} {n:Nat} (h:CI c n):(∀x∈c.be,x∈c.k)/\c.be.length<=n/\(stL c.R c.k c.v c.be).e=0:=by
 rcases h.be with e|⟨id,h1,e⟩
 ·rw[e];exact⟨fun x hx=>(by cases hx),qbg _,rfl⟩
 ·rw[e];obtain⟨_,p2,p3⟩:=h.K.pth h1;exact⟨p2,p3,h.K.rep _ h1⟩
theorem finS_h {F:Int} {be:List Int} {f h:Int} (hF:1<=F) (hb:be.length<=1000) (hh:0<=h/\h<=4294967296):0<=(finS F be f h).h/\(finS F be f h).h<=4294967296:=by
 unfold finS;split
 ·simp only;omega
 ·exact hh
theorem kh2 {r:wB} (h:rulesE r=0):1<=r.wO/\r.wO<=1048576:=by have hb:=kbu h;simp only[rulesB,qg,qaf]at hb;omega
theorem subS_R (c:CS) (b:wI):(subS c b).c.R=c.R:=by
 unfold subS;split
 ·rfl
 ·split<;>rfl
theorem subS_CI {c:CS} {n:Nat} (h:CI c n) (hn:n<=19) {b:wI} (hb:GB b):CI (subS c b).c (n+1):=by
 unfold subS;split
 ·exact h.mono (qdg n)
 ·rename_i h1;have hS:=kms (qaq h1);have hN:=hS.nb hb;obtain⟨s1,s2,s3⟩:=h.K.step (y:=stoS b (wrkS c b)) hN;rw[blk_sto]at s2 s3;obtain⟨b1,b2,b3⟩:=h.bek;split
  ·refine⟨s1,?_,?_,h.he⟩
   ·rcases h.be with e|⟨id,h1,e⟩
    ·exact .inl e
    ·exact .inr ⟨id,by show id∈c.k++[idB b];simp[h1],by rw[show(addS' c b).be=c.be from rfl,e];exact(h.K.pth_old h1).symm⟩
   ·show c.S=(stL c.R (c.k++[idB b]) (c.v++[stoS b (wrkS c b)]) c.be).s;rw[stL_old h.K.kv b1];exact h.st
  ·have hF:=kh2 h.K.ru;obtain⟨r1,r2,r3,r4,r5⟩:=h.K.br hN.p hN.h;refine⟨s1,.inr ⟨idB b,by show idB b∈c.k++[idB b];simp,s2.symm⟩,?_,finS_h hF.1 (by rw[qj,qcl];omega) h.he⟩;show(applyS (stL c.R c.k c.v (brB c.k c.v b)).s b).s=(stL c.R (c.k++[idB b]) (c.v++[stoS b (wrkS c b)]) (brB c.k c.v b++[idB b])).s;rw[s3]
def sumO (l:List wA):Int:=l.foldl (fun s a=>u64.wrap (s+a.wY)) 0
theorem sumO_go:∀(l:List wA) (s:Int),(∀a∈l,0<=a.wY)->0<=s->s+sumA l<18446744073709551616->l.foldl (fun s a=>u64.wrap (s+a.wY)) s=s+sumA l
 |[],s,_,_,_=>by simp[sumA]
 |a::r,s,hn,h0,h=>by
  have e:sumA (a::r)=a.wY+sumA r:=by simp[sumA]
  have h1:=hn a qqs;have h2:=sumA_nn (l:=r) fun x hx=>hn x (by simp[hx]);rw[e]at h ⊢;rw[qfn,wrap_u64 _ qqo qqo,sumO_go r _ (fun x hx=>hn x (by simp[hx])) qqo qqo];omega
theorem PI.open {s:PS} {c:Nat} (h:PI s c 0) (hc:c<=800):sumO s.b=sumA s.b/\u64.wrap (sumO s.b+s.n)=u64.wrap (u64.wrap (s.p.length:Int)*s.R.wS):=by
 obtain⟨s1,s2,s3,s4⟩:=sup_bd h hc;have e:sumO s.b=sumA s.b:=by unfold sumO;rw[sumO_go s.b 0 (fun a ha=>(h.b.1.2.2 a ha).2.1.1) (qec _) qqo];omega
 rw[e];exact⟨rfl,(sup_PI h hc).2⟩
theorem CI.pi {c:CS} {n:Nat} (h:CI c n) (hn:n<=20):PI c.S (5*c.be.length) 0/\c.S.p.length=c.be.length/\c.S.R=c.R:=by obtain⟨b1,b2,b3⟩:=h.bek;rw[h.st];exact h.K.pi b1 qqo b3
theorem newC_CI {R:wB} (hr:rulesE R=0) (hw:0<=R.wS):CI ⟨R,[],[],[],newS R,0,0⟩ 0:=⟨⟨rfl,qt _,fun x hx=>(by cases hx),fun x hx=>(by cases hx),fun x hx=>(by cases hx),fun x hx=>(by cases hx),fun x hx=>(by cases hx),hr,hw⟩,.inl rfl,rfl,⟨qec _,(by show(0:Int)<=_;decide)⟩⟩
theorem kns {β:Type} {p:Int} {l:List Int} (h:p∉l) (v:List β) (y:β):mPutK (BEq.beq p) l p=l++[p]/\mPutV (BEq.beq p) l v y=v++[y]:=by
 have h:mHas (BEq.beq p) l=false:=by
  cases hc:mHas (BEq.beq p) l with
  |false=>rfl
  |true=>exact(h (k2j.1 hc)).elim
 unfold mHas at h;unfold mPutK mPutV;cases hm:mIdx (BEq.beq p) l with
 |none=>exact⟨rfl,rfl⟩
 |some j=>rw[hm]at h;cases h
theorem KI.mv {R:wB} {k:List Int} {v:List wK} {n:Nat} (h:KI R k v n) (hn:n<=20) {l m:List Int} (hl:∀x∈l,x∈k) (hm:∀x∈m,x∈k) (ll:l.length<=20) (lm:m.length<=20) (el:(stL R k v l).e=0) (em:(stL R k v m).e=0) {i:Nat} (hi:i<=l.length) (hi2:i<=m.length) (ht:l.take i=m.take i) {S:PS} (hS:S=(stL R k v l).s):
  MvOk k v S (l.drop i).length (m.drop i)/\mvS k v S (l.drop i).length (m.drop i)=(stL R k v m).s:=by
 have sp:∀q:List Int,(stL R k v q).e=0->(stL R k v (q.take i)).e=0/\stL R k v q=auGo ((q.drop i).map (gB k v)) (stL R k v (q.take i)).s:=fun q hq=>by
  unfold stL at hq ⊢;have e:q.map (gB k v)=(q.take i).map (gB k v)++(q.drop i).map (gB k v):=by rw[<-qbm,qbs]
  rw[e]at hq ⊢;have h1:=kca _ _ _ hq;exact⟨h1,k7f _ _ _ h1⟩
 obtain⟨a1,a2⟩:=sp l el;obtain⟨b1,b2⟩:=sp m em;have hlt:∀x∈l.take i,x∈k:=fun x hx=>hl x (qat hx);have hP:=(h.pi hlt (by rw[qo];omega) a1).1;have hA:MvA k v S (l.drop i).length (m.drop i) (stL R k v (l.take i)).s (5*(l.take i).length) ((l.drop i).map (gB k v)):=⟨hP,by simp,h.bls fun x hx=>hl x (qbo hx),h.bls fun x hx=>hm x (qbo hx),by rw[qo,qan,qan];omega,by rw[<-a2];exact el,by rw[hS,<-a2],by rw[ht,<-b2];exact em⟩;refine⟨⟨_,_,_,hA⟩,?_⟩;unfold mvS;rw[hA.base,ht,<-b2]
theorem k3e {c:CS} {b:wI} {e:Int} (h:subE c b=e) (he:e≠0):subS c b=⟨0,0,e,c⟩:=by unfold subS;rw[h,qh he]
theorem ix_gd8 {l:List Int} {i:Nat} (h:i<l.length):ix l (i:Int)=l.getD i 0:=by rw[ix_get _ _ h,qcd,qd h];rfl
theorem cpl_ix {l m:List Int} {i:Nat} (hi:i<=cpl l m):i=cpl l m↔¬(i<l.length/\i<m.length/\ix l (i:Int)=ix m (i:Int)):=by
 rw[kk7 i l m hi];constructor
 ·rintro h ⟨a,b,c⟩;rw[ix_gd8 a,ix_gd8 b]at c;exact h ⟨a,b,c⟩
 ·rintro h ⟨a,b,c⟩;rw[<-ix_gd8 a,<-ix_gd8 b]at c;exact h ⟨a,b,c⟩
theorem kna {R:wB} {l:List wa} {i:Nat} (hi:i<l.length):txsE R (l.drop i)=if txE R l[i]≠0 then txE R l[i]else txsE R (l.drop (i+1)):=by rw[qch hi];rfl
theorem subE_go {c:CS} {b:wI} (h1:checkB c.R.wR b=0) (h2:idB b∉c.k) (h3:parS c.k c.v b=0):subE c b=if 0<c.he/\(((brB c.k c.v b).length:Int)<c.he∨ix (brB c.k c.v b) (c.he-1)≠c.fi)then 19 else if txsE c.R b.Txs≠0 then txsE c.R b.Txs else(applyS (stL c.R c.k c.v (brB c.k c.v b)).s b).e:=by unfold subE;rw[qe (fun h=>h h1),qe h2,qe (fun h=>h h3)]
structure SCh (c:CS) (b:wI):Prop where
 n:∃n:Nat,n<=18/\CI c n
 b:GB b
 m:c.R.wX=2
section
variable {R:wB} {k:List Int} {v:List wK} {be:List Int} {S:PS} {fi he:Int} {b:wI}
theorem SCh.facts (h:SCh ⟨R,k,v,be,S,fi,he⟩ b):∃n:Nat,n<=18/\KI R k v n/\(∀x∈be,x∈k)/\be.length<=n/\(stL R k v be).e=0/\S=(stL R k v be).s/\(0<=he/\he<=4294967296)/\GB b/\R.wX=2:=by obtain⟨⟨n,hn,hC⟩,hb,hm⟩:=h;obtain⟨b1,b2,b3⟩:=hC.bek;exact⟨n,hn,hC.K,b1,b2,b3,hC.st,hC.he,hb,hm⟩
theorem sub_e1 (h1:checkB R.wR b≠0):subS ⟨R,k,v,be,S,fi,he⟩ b=⟨0,0,checkB R.wR b,⟨R,k,v,be,S,fi,he⟩⟩:=k3e (qh h1) h1
theorem sub_e2 (h1:checkB R.wR b=0) (h2:idB b∈k):subS ⟨R,k,v,be,S,fi,he⟩ b=⟨0,0,5,⟨R,k,v,be,S,fi,he⟩⟩:=k3e (by unfold subE;rw[qe (fun h=>h h1)];exact qh h2) qqd
theorem sub_e3 (h1:checkB R.wR b=0) (h2:idB b∉k) (h3:parS k v b≠0):subS ⟨R,k,v,be,S,fi,he⟩ b=⟨0,0,parS k v b,⟨R,k,v,be,S,fi,he⟩⟩:=k3e (by unfold subE;rw[qe (fun h=>h h1),qe h2];exact qh h3) h3
theorem sub_e4 (h1:checkB R.wR b=0) (h2:idB b∉k) (h3:parS k v b=0) (h4:0<he/\(((brB k v b).length:Int)<he∨ix (brB k v b) (he-1)≠fi)):subS ⟨R,k,v,be,S,fi,he⟩ b=⟨0,0,19,⟨R,k,v,be,S,fi,he⟩⟩:=k3e (by rw[subE_go h1 h2 h3];exact qh h4) qqd
theorem sub_e5 (h1:checkB R.wR b=0) (h2:idB b∉k) (h3:parS k v b=0) (h4:¬(0<he/\(((brB k v b).length:Int)<he∨ix (brB k v b) (he-1)≠fi))) (h5:txsE R b.Txs≠0):subS ⟨R,k,v,be,S,fi,he⟩ b=⟨0,0,txsE R b.Txs,⟨R,k,v,be,S,fi,he⟩⟩:=k3e (by rw[subE_go h1 h2 h3,qe h4];exact qh h5) h5
theorem subE6 (h1:checkB R.wR b=0) (h2:idB b∉k) (h3:parS k v b=0) (h4:¬(0<he/\(((brB k v b).length:Int)<he∨ix (brB k v b) (he-1)≠fi))) (h5:txsE R b.Txs=0):subE ⟨R,k,v,be,S,fi,he⟩ b=(applyS (stL R k v (brB k v b)).s b).e:=by rw[subE_go h1 h2 h3,qe h4];exact qe fun h=>h h5
theorem sub_e6 (h1:checkB R.wR b=0) (h2:idB b∉k) (h3:parS k v b=0) (h4:¬(0<he/\(((brB k v b).length:Int)<he∨ix (brB k v b) (he-1)≠fi))) (h5:txsE R b.Txs=0) (h6:(applyS (stL R k v (brB k v b)).s b).e≠0):subS ⟨R,k,v,be,S,fi,he⟩ b=⟨0,0,(applyS (stL R k v (brB k v b)).s b).e,⟨R,k,v,be,S,fi,he⟩⟩:=k3e (subE6 h1 h2 h3 h4 h5) h6
def wk8 (k:List Int) (v:List wK) (b:wI):Int:=if brB k v b=[]then b.wR else u64.wrap (b.wR+wkS v k b.wd)
theorem sub_no {w:Int} (h1:checkB R.wR b=0) (h2:idB b∉k) (h3:parS k v b=0) (h4:¬(0<he/\(((brB k v b).length:Int)<he∨ix (brB k v b) (he-1)≠fi))) (h5:txsE R b.Txs=0) (h6:(applyS (stL R k v (brB k v b)).s b).e=0) (hw:w=wk8 k v b) (hb:betS k v be (idB b) w=false):subS ⟨R,k,v,be,S,fi,he⟩ b=⟨0,0,0,⟨R,k++[idB b],v++[stoS b w],be,S,fi,he⟩⟩:=by subst hw;unfold subS;rw[subE6 h1 h2 h3 h4 h5,qe (fun h=>h h6)];exact qh hb
theorem sub_yes {w:Int} {i:Nat} (h1:checkB R.wR b=0) (h2:idB b∉k) (h3:parS k v b=0) (h4:¬(0<he/\(((brB k v b).length:Int)<he∨ix (brB k v b) (he-1)≠fi))) (h5:txsE R b.Txs=0) (h6:(applyS (stL R k v (brB k v b)).s b).e=0) (hw:w=wk8 k v b) (hb:betS k v be (idB b) w=true) (hi:i=cpl (brB k v b) be):subS ⟨R,k,v,be,S,fi,he⟩ b=⟨(be.length:Int)-(i:Int),((brB k v b).length:Int)+1-(i:Int),0,⟨R,k++[idB b],v++[stoS b w],brB k v b++[idB b],(applyS (stL R k v (brB k v b)).s b).s,(finS R.wO (brB k v b++[idB b]) fi he).f,(finS R.wO (brB k v b++[idB b]) fi he).h⟩⟩:=by subst hw hi;unfold subS;rw[subE6 h1 h2 h3 h4 h5,qe (fun h=>h h6)];exact qe (by show¬betS k v be (idB b) (wk8 k v b)=false;rw[hb];simp)
end
theorem GB.emp {p h m w:Int} (hp:U64 p) (hh: -9223372036854775808<=h/\h<=9223372036854775807) (hm:U64 m) (hw:U64 w):GB ⟨p,h,m,w,0,[]⟩:=⟨⟨hp,hm,hw,(by decide:U64 0),hh,fun x hx=>(by cases hx)⟩,fun x hx=>(by cases hx),qbg _⟩
theorem kq3 {r:wB} {l:List wI} {n:Int} (h:fewS r l n=true):r.wX=2/\(l.length:Int)<=n/\∀b∈l,smS b=true:=by unfold fewS at h;simp only[qg,qaf,qbw]at h;exact⟨h.2.1,h.2.2.2,h.1⟩
theorem smS_GB {b:wI} (hr:BR b) (h:smS b=true):GB b:=by unfold smS at h;simp only[qg,qaf,qbw]at h;refine⟨hr,fun t ht=> ?_,h.2⟩;have h1:=h.1 t ht;unfold smT at h1;simp only[qg,qaf,qbw]at h1;obtain⟨⟨⟨q1,q2⟩,q3⟩,q4⟩:=h1;exact⟨by omega,by omega,fun x hx=>by have:=q4 x hx;omega,by omega⟩
theorem kog {R:wB} {k:List Int} {v:List wK} {be:List Int} (b1:∀x∈be,x∈k) (b3:(stL R k v be).e=0) (m:Nat):(∀x∈be.take m,x∈k)/\(stL R k v (be.take m)).e=0:=by refine⟨fun x hx=>b1 x (qat hx),?_⟩;unfold stL at b3 ⊢;rw[qby];exact k5y _ _ _ b3
theorem kpz {R:wB} {k:List Int} {v:List wK} {be:List Int} (b3:(stL R k v be).e=0) {m:Nat} (hm:m<be.length):(applyS (stL R k v (be.take m)).s (gB k v be[m])).e=0/\(stL R k v (be.take (m+1))).s=(applyS (stL R k v (be.take m)).s (gB k v be[m])).s:=by
 unfold stL at b3 ⊢;have hm' :m<(be.map (gB k v)).length:=by rw[qm];exact hm
 have:=k5u b3 hm';rw[List.getElem_map]at this;rw[qby,qby];exact this
theorem CS.eta_R {c:CS} {R:wB} (h:c.R=R):c=⟨R,c.k,c.v,c.be,c.S,c.fi,c.he⟩:=by subst h;rfl
theorem CI.eta {c:CS} {b:wI} {n:Nat} (h:CI (subS c b).c n):CI ⟨c.R,(subS c b).c.k,(subS c b).c.v,(subS c b).c.be,(subS c b).c.S,(subS c b).c.fi,(subS c b).c.he⟩ n:=by rw[<-CS.eta_R (subS_R c b)];exact h
def R48:wB:=⟨2,2,0,0,0,10,3,9,1⟩
def X481:SubR:=subS ⟨R48,[],[],[],newS R48,0,0⟩ ⟨0,1,5,1,0,[]⟩
def t481:Int:=if X481.c.be=[]then 0 else ix X481.c.be ((X481.c.be.length:Int)-1)
def X482:SubR:=subS ⟨R48,X481.c.k,X481.c.v,X481.c.be,X481.c.S,X481.c.fi,X481.c.he⟩ ⟨t481,2,5,1,0,[]⟩
theorem aw48:X482.c.S.p.length=2/\X482.c.S.b=[⟨5,20,0⟩]/\U64 t481/\True:=⟨by kernel_rfl,by kernel_rfl,qb (by kernel_rfl:decide (0<=t481/\t481<18446744073709551616)=true),trivial⟩
theorem kaf.tr {t:wa} (h:kaf t):TR t/\t.wE.length<=9223372036854775807:=⟨⟨h.wg,h.wL.2,fun x hx=>let y:=h.wE.2 x hx;⟨y.we,y.wAG,y.wAB,y.wm.2⟩,h.wP,h.wT,h.Fee,h.wW,h.wU,by have:=h.wAE;omega,h.ww.2⟩,h.wE.1⟩
theorem kch {p0:wB} {p1:List wI} (h0:kbo p0) (h2:p1.length<=9223372036854775807/\∀y∈p1,k3f y):0<=p0.wS/\(∀b∈p1,BR b)/\p1.length<=9223372036854775807/\∀b∈p1,b.Txs.length<=9223372036854775807/\∀t∈b.Txs,t.wE.length<=9223372036854775807:=⟨h0.wS.1,fun b hb=>⟨(h2.2 b hb).wd,(h2.2 b hb).wAF,(h2.2 b hb).wR,(h2.2 b hb).wU,(by have:=(h2.2 b hb).wQ;omega),fun t ht=>(((h2.2 b hb).Txs.2 t ht).tr).1⟩,h2.1,fun b hb=>⟨(h2.2 b hb).Txs.1,fun t ht=>(((h2.2 b hb).Txs.2 t ht).tr).2⟩⟩
noncomputable def kdd:Con TB.den:= .g ⟨72,[.one (zql)],[],(.one (.one (.row 0))),[.vec yqu],false⟩ [.sl yqu] [.sl yqu] [] fun(p0:List Int)=>(p0.length<=4294967295,p0,())
theorem k37:kdd.Ok Tryz.prog TB:=prx Bs [5,7] Tryz.func72 (.r 0 (.nd [] (.r 0 (.nd [] (.r 0 (.rt [.rnil 2 yqu])) [] .no)) [] .no)) x0 c0 (Q:=∀(p0:List Int),(p0.length<=4294967295)->∀e0:List Int,p0=e0-> 
 ∀z4:Bool,(z4=true->p0=[])->(z4=true->
(0=([]:List Int).length)/\([]:List Int)=e0)/\
(z4=false->
 lz ([]:List Int)/\(([]:List Int).length+p0.length)*8<=140737488355328/\([]:List Int).length+p0.length<=maxLen/\lz (([]:List Int)++p0)/\([]:List Int)++p0=e0))<|by rintro p0 h _ rfl;exact fun z hz=>⟨fun h=>⟨rfl,(hz h).symm⟩,fun h=>⟨rfl,by simp;omega,by simp;unfold maxLen;omega,rfl,rfl⟩⟩
noncomputable def kfu:Con TB.den:= .g (gk 21 [.one (.ptr 0 0)] yB (.one (.one (zql)))) (.int .i64:: .int .i64:: .int .i64:: .int .i64:: .int .i64:: .int .u64:: .int .i64:: .int .i64:: .int .u64:: .sl yqu:: .int .u64:: .int .i64:: .bool::yF) (.sl yqu:: .int .i64:: .int .i64:: .int .i64:: .int .i64:: .int .i64:: .int .u64:: .int .i64:: .int .i64:: .int .u64:: .sl yqu:: .int .u64:: .int .i64:: .bool::yF) [] fun(Ab Ad Af Aj Ak Ag Al Ah Ai:Int) (Ac:List Int) (Av Ae:Int) (Ap:Bool) (Aw Ax:Int) (Ay:List wH) (Bb Bc Bd Be Bf Bg Bh Bi Bj Bk Az:Int) (A0:List Int) (A7:List wA) (A8:Int) (w2k:List Int) (w2v:List wK) (w4k:List ByteArray) (w4v:List Int) (w5k:List ByteArray) (w5v:List (List Int)) (w6k:List ByteArray) (w6v:List Bool) (w7 w9:List Int) (w10:List wG) (w11k:List Int) (w11v:List Bool)=>(Ac.length<=1000,Ac,Ab,Ad,Af,Aj,Ak,Ag,Al,Ah,Ai,Ac,Av,Ae,Ap,Aw,Ax,Ay,Bb,Bc,Bd,Be,Bf,Bg,Bh,Bi,Bj,Bk,Az,A0,A7,A8,w2k,w2v,w4k,w4v,w5k,w5v,w6k,w6v,w7,w9,w10,w11k,w11v,())
theorem khk:kfu.Ok Tryz.prog TB:=prv Bs Tryz.func21 (.r 1 (.rt [.frz 12 [2]])) (k37.c c0) (Q:=∀(Ab Ad Af Aj Ak Ag Al Ah Ai:Int) (Ac:List Int) (Av Ae:Int) (Ap:Bool) (Aw Ax:Int) (Ay:List wH) (Bb Bc Bd Be Bf Bg Bh Bi Bj Bk Az:Int) (A0:List Int) (A7:List wA) (A8:Int) (w2k:List Int) (w2v:List wK) (w4k:List ByteArray) (w4v:List Int) (w5k:List ByteArray) (w5v:List (List Int)) (w6k:List ByteArray) (w6v:List Bool) (w7 w9:List Int) (w10:List wG) (w11k:List Int) (w11v:List Bool),(Ac.length<=1000)->∀r0:List Int,Ac=r0->∀Aq:Int,Ab=Aq->∀As:Int,Ad=As->∀Au:Int,Af=Au->∀Bl:Int,Aj=Bl->∀Bm:Int,Ak=Bm->∀Bn:Int,Ag=Bn->∀Bo:Int,Al=Bo->∀Bp:Int,Ah=Bp->∀Bq:Int,Ai=Bq->∀A9:List Int,Ac=A9->∀Bu:Int,Av=Bu->∀Ba:Int,Ae=Ba->∀B1:Bool,Ap=B1->∀B2:Int,Aw=B2->∀B3:Int,Ax=B3->∀B4:List wH,Ay=B4->∀B5:Int,Bb=B5->∀B6:Int,Bc=B6->∀B7:Int,Bd=B7->∀B8:Int,Be=B8->∀B9:Int,Bf=B9->∀Ca:Int,Bg=Ca->∀Cb:Int,Bh=Cb->∀Cc:Int,Bi=Cc->∀Cd:Int,Bj=Cd->∀Ce:Int,Bk=Ce->∀Bw:Int,Az=Bw->∀Bx:List Int,A0=Bx->∀Bz:List wA,A7=Bz->∀B0:Int,A8=B0->∀e2k:List Int,w2k=e2k->∀e2v:List wK,w2v=e2v->∀e4k:List ByteArray,w4k=e4k->∀e4v:List Int,w4v=e4v->∀e5k:List ByteArray,w5k=e5k->∀e5v:List (List Int),w5v=e5v->∀e6k:List ByteArray,w6k=e6k->∀e6v:List Bool,w6v=e6v->∀e7:List Int,w7=e7->∀e9:List Int,w9=e9->∀e10:List wG,w10=e10->∀e11k:List Int,w11k=e11k->∀e11v:List Bool,w11v=e11v-> 
(Ac.length<=4294967295)/\lz Ac/\lz w10/\lz w9/\lz w7/\Ac=r0/\Ab=Aq/\Ad=As/\Af=Au/\Aj=Bl/\Ak=Bm/\Ag=Bn/\Al=Bo/\Ah=Bp/\Ai=Bq/\Ac=A9/\Av=Bu/\Ae=Ba/\Ap=B1/\Aw=B2/\Ax=B3/\Ay=B4/\Bb=B5/\Bc=B6/\Bd=B7/\Be=B8/\Bf=B9/\Bg=Ca/\Bh=Cb/\Bi=Cc/\Bj=Cd/\Bk=Ce/\Az=Bw/\A0=Bx/\A7=Bz/\A8=B0/\w2k=e2k/\w2v=e2v/\w4k=e4k/\w4v=e4v/\w5k=e5k/\w5v=e5v/\w6k=e6k/\w6v=e6v/\w7=e7/\w9=e9/\w10=e10/\w11k=e11k/\w11v=e11v)<|by rintro Ab Ad Af Aj Ak Ag Al Ah Ai Ac Av Ae Ap Aw Ax Ay Bb Bc Bd Be Bf Bg Bh Bi Bj Bk Az A0 A7 A8 w2k w2v w4k w4v w5k w5v w6k w6v w7 w9 w10 w11k w11v h _ rfl _ rfl _ rfl _ rfl _ rfl _ rfl _ rfl _ rfl _ rfl _ rfl _ rfl _ rfl _ rfl _ rfl _ rfl _ rfl _ rfl _ rfl _ rfl _ rfl _ rfl _ rfl _ rfl _ rfl _ rfl _ rfl _ rfl _ rfl _ rfl _ rfl _ rfl _ rfl _ rfl _ rfl _ rfl _ rfl _ rfl _ rfl _ rfl _ rfl _ rfl _ rfl _ rfl _ rfl;exact⟨by omega,(by repeat' first|apply qaa|exact rfl|exact qq)⟩
noncomputable def k77:Con TB.den:= .g ⟨96,[.one (.d (.sl (.st 1)))],[],(.one (.one (.row 0))),[.vec (.st 1)],false⟩ [.sl (.st 1)] [.sl (.st 1)] [] fun(p0:List wAA)=>(p0.length<=4294967295,p0,())
theorem k8u:k77.Ok Tryz.prog TB:=prx Bs [5,7] Tryz.func96 (.r 0 (.nd [] (.r 0 (.nd [] (.r 0 (.rt [.rnil 2 (.st 1)])) [] .no)) [] .no)) x0 c0 (Q:=∀(p0:List wAA),(p0.length<=4294967295)->∀e0:List wAA,p0=e0-> 
 ∀z4:Bool,(z4=true->p0=[])->(z4=true->
(0=([]:List wAA).length)/\([]:List wAA)=e0)/\
(z4=false->
 lz ([]:List wAA)/\(([]:List wAA).length+p0.length)*48<=140737488355328/\([]:List wAA).length+p0.length<=maxLen/\lz (([]:List wAA)++p0)/\([]:List wAA)++p0=e0))<|by
 rintro p0 h _ rfl;intro z hz;refine⟨fun e=> ?_,fun e=> ?_⟩
 ·rw[hz e];exact⟨rfl,rfl⟩
 ·refine⟨rfl,?_,?_,rfl,rfl⟩<;>simp only[qbf]<;>(try unfold maxLen)<;>omega
noncomputable def k8y:Con TB.den:= .g ⟨95,[.one (.d (.sl (.st 2)))],[],(.one (.one (.row 0))),[.vec (.st 2)],false⟩ [.sl (.st 2)] [.sl (.st 2)] [] fun(p0:List wa)=>(p0.length<=4294967295,p0,())
theorem ka8:k8y.Ok Tryz.prog TB:=prx Bs [5,7] Tryz.func95 (.r 0 (.nd [] (.r 0 (.nd [] (.r 0 (.rt [.rnil 2 (.st 2)])) [] .no)) [] .no)) x0 c0 (Q:=∀(p0:List wa),(p0.length<=4294967295)->∀e0:List wa,p0=e0-> 
 ∀z4:Bool,(z4=true->p0=[])->(z4=true->
(0=([]:List wa).length)/\([]:List wa)=e0)/\
(z4=false->
 lz ([]:List wa)/\(([]:List wa).length+p0.length)*128<=140737488355328/\([]:List wa).length+p0.length<=maxLen/\lz (([]:List wa)++p0)/\([]:List wa)++p0=e0))<|by
 rintro p0 h _ rfl;intro z hz;refine⟨fun e=> ?_,fun e=> ?_⟩
 ·rw[hz e];exact⟨rfl,rfl⟩
 ·refine⟨rfl,?_,?_,rfl,rfl⟩<;>simp only[qbf]<;>(try unfold maxLen)<;>omega
noncomputable def k6l:Con TB.den:= .gp 97 [.sl yqb] [.sl yqb] [] fun(p0:List Int)=>(p0.length<=4294967295,p0,())
theorem k7e:k6l.Ok Tryz.prog TB:=qrv Bs Tryz.func97 .no c0 (Q:=∀(p0:List Int),(p0.length<=4294967295)->∀r0:List Int,p0=r0-> 
 ∀z4:Bool,(z4=true->p0=[])->(z4=true->
([]:List Int)=r0)/\
(z4=false->
(([]:List Int).length+p0.length)*1<=140737488355328/\([]:List Int).length+p0.length<=maxLen/\([]:List Int)++p0=r0))<|by rintro p0 h _ rfl;intro z hz;refine⟨fun e=>(hz e).symm,fun e=> ?_⟩;refine⟨?_,?_,rfl⟩<;>simp only[qbf]<;>(try unfold maxLen)<;>omega
noncomputable def k9p:Con TB.den:= .gp 72 [.sl yqu] [.sl yqu] [] fun(p0:List Int)=>(p0.length<=4294967295,p0,())
theorem kb7:k9p.Ok Tryz.prog TB:=qrx Bs [5,7] Tryz.func72 (.r 2 (.rt [.frz 1 [2]])) x0 c0 (Q:=∀(p0:List Int),(p0.length<=4294967295)->∀r0:List Int,p0=r0-> 
 ∀z4:Bool,(z4=true->p0=[])->(z4=true->
([]:List Int)=r0)/\
(z4=false->
 lz ([]:List Int)/\(([]:List Int).length+p0.length)*8<=140737488355328/\([]:List Int).length+p0.length<=maxLen/\lz (([]:List Int)++p0)/\([]:List Int)++p0=r0))<|by rintro p0 h _ rfl;intro z hz;refine⟨fun e=>(hz e).symm,fun e=> ?_⟩;refine⟨rfl,?_,?_,rfl,rfl⟩<;>simp only[qbf]<;>(try unfold maxLen)<;>omega
noncomputable def kew:Con TB.den:= .gp 50 [.st 3] [.st 3] [] fun(p0:wI)=>(p0.Txs.length<=4294967295/\∀x∈p0.Txs,TL x,p0,())
theorem k6t:kew.Ok Tryz.prog TB:=qrv Bs Tryz.func50 (.r 1 (.nd [] (.r 0 (.lp [] ⟨[2],[.vec (.st 2)],[13],[.one (zqi)],[]⟩ (.r 1 (.nd [] (.r 3 (.nd [] (.r 0 (.lp [] ⟨[3],[.vec (.st 1)],[41],[.one (zqi)],[]⟩ .no)) [.frzf 3 2] .no)) [] .no)))) [] (.r 0 (.rt [.frzc 2 1 5])))) (ka8.c (kb7.c (k8u.c (k7e.c c0)))) (Q:=∀(p0:wI),(p0.Txs.length<=4294967295/\∀x∈p0.Txs,TL x)->∀r0:wI,p0=r0-> 
(p0.Txs.length<=4294967295)/\∃(I1:Int->(List wa)->Prop) (M1:Int->(List wa)->Nat),I1 0 p0.Txs/\∀b1 f1,(I1 b1 f1->
(decide (b1<(p0.Txs.length:Int))=true->
(0<=b1/\b1<(p0.Txs.length:Int))/\(0<=b1/\b1<(f1.length:Int))/\(((ix f1 b1).wL).length<=4294967295)/\(0<=b1/\b1<(f1.length:Int))/\let v1:List wa:=f1.set b1.toNat (wa.mk ((ix f1 b1).wg) ((ix f1 b1).wL) ((ix f1 b1).wE) ((ix f1 b1).wP) ((ix f1 b1).wT) ((ix f1 b1).Fee) ((ix f1 b1).wW) ((ix f1 b1).wU) ((ix f1 b1).wAE) ((ix f1 b1).ww))
(0<=b1/\b1<(v1.length:Int))/\(((ix v1 b1).wE).length<=4294967295)/\(0<=b1/\b1<(v1.length:Int))/\(0<=b1/\b1<(v1.length:Int))/\b1=b1/\∃(I2:Int->(List wAA)->Prop) (M2:Int->(List wAA)->Nat),I2 0 ((ix v1 b1).wE)/\∀i1 k1,(I2 i1 k1->
 let v2:Bool:=decide (i1<(((ix v1 b1).wE).length:Int))
(v2=true->
(0<=b1/\b1<(v1.length:Int))/\b1=b1/\(0<=b1/\b1<(v1.length:Int))/\b1=b1/\(0<=i1/\i1<(((ix v1 b1).wE).length:Int))/\(0<=i1/\i1<(k1.length:Int))/\(((ix k1 i1).wm).length<=4294967295)/\(0<=i1/\i1<(((ix v1 b1).wE).length:Int))/\(0<=i1/\i1<(k1.length:Int))/\I2 (i64.wrap (i1+1)) (k1.set i1.toNat (wAA.mk ((ix k1 i1).we) ((ix k1 i1).wAG) ((ix k1 i1).wAB) ((ix k1 i1).wm)))/\M2 (i64.wrap (i1+1)) (k1.set i1.toNat (wAA.mk ((ix k1 i1).we) ((ix k1 i1).wAG) ((ix k1 i1).wAB) ((ix k1 i1).wm)))<M2 i1 k1)/\
(v2=false->
(((ix v1 b1).wE).length=k1.length/\0<=b1/\b1<(v1.length:Int))/\let v3:List wa:=v1.set b1.toNat (wa.mk ((ix v1 b1).wg) ((ix v1 b1).wL) k1 ((ix v1 b1).wP) ((ix v1 b1).wT) ((ix v1 b1).Fee) ((ix v1 b1).wW) ((ix v1 b1).wU) ((ix v1 b1).wAE) ((ix v1 b1).ww))
(0<=b1/\b1<(v3.length:Int))/\(((ix v3 b1).ww).length<=4294967295)/\(0<=b1/\b1<(v3.length:Int))/\let v4:List wa:=v3.set b1.toNat (wa.mk ((ix v3 b1).wg) ((ix v3 b1).wL) ((ix v3 b1).wE) ((ix v3 b1).wP) ((ix v3 b1).wT) ((ix v3 b1).Fee) ((ix v3 b1).wW) ((ix v3 b1).wU) ((ix v3 b1).wAE) ((ix v3 b1).ww))
 I1 (i64.wrap (b1+1)) v4/\M1 (i64.wrap (b1+1)) v4<M1 b1 f1)))/\
(decide (b1<(p0.Txs.length:Int))=false->
(p0.Txs.length=f1.length)/\p0.wd=r0.wd/\p0.wQ=r0.wQ/\p0.wAF=r0.wAF/\p0.wR=r0.wR/\p0.wU=r0.wU/\f1=r0.Txs)))<|by
 rintro p0 h _ rfl;obtain⟨hl,ht⟩:=h;refine⟨hl,?_⟩;refine⟨(fun i f=>f=p0.Txs/\∃k:Nat,i=(k:Int)/\k<=p0.Txs.length),fun i _=>(p0.Txs.length-i).toNat,⟨rfl,0,rfl,by omega⟩,?_⟩;rintro _ _ ⟨rfl,k,rfl,g1⟩;refine⟨fun e=> ?_,fun e=> ?_⟩
 ·have e:k<p0.Txs.length:=by have:=qb e;omega
  have et:=ht _ (qak e);have e1:p0.Txs.set (k:Int).toNat (wa.mk (ix p0.Txs (k:Int)).wg (ix p0.Txs (k:Int)).wL (ix p0.Txs (k:Int)).wE (ix p0.Txs (k:Int)).wP (ix p0.Txs (k:Int)).wT (ix p0.Txs (k:Int)).Fee (ix p0.Txs (k:Int)).wW (ix p0.Txs (k:Int)).wU (ix p0.Txs (k:Int)).wAE (ix p0.Txs (k:Int)).ww)=p0.Txs:=by rw[ix_get _ _ e];exact List.set_getElem_self ..
  have hb:(0:Int)<=(k:Int)/\(k:Int)<(p0.Txs.length:Int):=⟨by omega,by omega⟩;have hx:ix p0.Txs (k:Int)=p0.Txs[k]:=ix_get _ _ e;refine⟨hb,hb,by rw[hx];exact et.m,hb,?_⟩;dsimp only;rw[e1];have ho:(ix p0.Txs (k:Int)).wE.length<=4294967295:=by rw[hx];exact et.o
  have hc:∀x∈(ix p0.Txs (k:Int)).wE,x.wm.length<=4294967295:=by rw[hx];exact et.c
  refine⟨hb,ho,hb,hb,rfl,?_⟩;refine⟨(fun i f=>f=(ix p0.Txs (k:Int)).wE/\∃j:Nat,i=(j:Int)/\j<=(ix p0.Txs (k:Int)).wE.length),fun i _=>((ix p0.Txs (k:Int)).wE.length-i).toNat,⟨rfl,0,rfl,by omega⟩,?_⟩;rintro _ _ ⟨rfl,j,rfl,g2⟩;refine⟨fun e2=> ?_,fun e2=> ?_⟩
  ·have e2:j<(ix p0.Txs (k:Int)).wE.length:=by have:=qb e2;omega
   have hj:(0:Int)<=(j:Int)/\(j:Int)<((ix p0.Txs (k:Int)).wE.length:Int):=⟨by omega,by omega⟩;have hy:ix (ix p0.Txs (k:Int)).wE (j:Int)=(ix p0.Txs (k:Int)).wE[j]:=ix_get _ _ e2;rw[inc (j:Int) (ix p0.Txs (k:Int)).wE.length qqo qqo qqo];have e3:(ix p0.Txs (k:Int)).wE.set (j:Int).toNat (wAA.mk (ix (ix p0.Txs (k:Int)).wE (j:Int)).we (ix (ix p0.Txs (k:Int)).wE (j:Int)).wAG (ix (ix p0.Txs (k:Int)).wE (j:Int)).wAB (ix (ix p0.Txs (k:Int)).wE (j:Int)).wm)=(ix p0.Txs (k:Int)).wE:=by rw[hy];exact List.set_getElem_self ..
   rw[e3];refine⟨hb,rfl,hb,rfl,hj,hj,?_,hj,hj,⟨rfl,j+1,rfl,by omega⟩,by(first|omega|(dsimp only;omega))⟩;rw[hy];exact hc _ (qak e2)
  ·rw[e1];refine⟨⟨rfl,hb⟩,hb,by rw[hx];exact et.p,hb,?_⟩;rw[inc (k:Int) p0.Txs.length qqo qqo qqo];exact⟨⟨e1,k+1,rfl,by omega⟩,by(first|omega|(dsimp only;omega))⟩
 ·exact⟨rfl,rfl,rfl,rfl,rfl,rfl,rfl⟩
noncomputable def kdf:Con TB.den:= .g (gk 22 [.one (.ptr 0 0),.one (zqu)] yB (.tup [.agg yA1,.one (.d (.bool))])) (.int .u64:: .int .i64:: .int .i64:: .int .i64:: .int .i64:: .int .i64:: .int .u64:: .int .i64:: .int .i64:: .int .u64:: .sl yqu:: .int .u64:: .int .i64:: .bool::yF) (.st 3:: .bool:: .int .i64:: .int .i64:: .int .i64:: .int .i64:: .int .i64:: .int .u64:: .int .i64:: .int .i64:: .int .u64:: .sl yqu:: .int .u64:: .int .i64:: .bool::yF) [] fun(p1 Ab Ad Af Aj Ak Ag Al Ah Ai:Int) (Ac:List Int) (Av Ae:Int) (Ap:Bool) (Aw Ax:Int) (Ay:List wH) (Bb Bc Bd Be Bf Bg Bh Bi Bj Bk Az:Int) (A0:List Int) (A7:List wA) (A8:Int) (w2k:List Int) (w2v:List wK) (w4k:List ByteArray) (w4v:List Int) (w5k:List ByteArray) (w5v:List (List Int)) (w6k:List ByteArray) (w6v:List Bool) (w7 w9:List Int) (w10:List wG) (w11k:List Int) (w11v:List Bool)=>((w2k.length=w2v.length/\p1∈w2k)/\(gB w2k w2v p1).Txs.length<=4/\∀x∈(gB w2k w2v p1).Txs,TL x,(gB w2k w2v p1:wI),true,Ab,Ad,Af,Aj,Ak,Ag,Al,Ah,Ai,Ac,Av,Ae,Ap,Aw,Ax,Ay,Bb,Bc,Bd,Be,Bf,Bg,Bh,Bi,Bj,Bk,Az,A0,A7,A8,w2k,w2v,w4k,w4v,w5k,w5v,w6k,w6v,w7,w9,w10,w11k,w11v,())
theorem kfe:kdf.Ok Tryz.prog TB:=prv Bs Tryz.func22 .no (k6t.c c0) (Q:=∀(p1 Ab Ad Af Aj Ak Ag Al Ah Ai:Int) (Ac:List Int) (Av Ae:Int) (Ap:Bool) (Aw Ax:Int) (Ay:List wH) (Bb Bc Bd Be Bf Bg Bh Bi Bj Bk Az:Int) (A0:List Int) (A7:List wA) (A8:Int) (w2k:List Int) (w2v:List wK) (w4k:List ByteArray) (w4v:List Int) (w5k:List ByteArray) (w5v:List (List Int)) (w6k:List ByteArray) (w6v:List Bool) (w7 w9:List Int) (w10:List wG) (w11k:List Int) (w11v:List Bool),((w2k.length=w2v.length/\p1∈w2k)/\(gB w2k w2v p1).Txs.length<=4/\∀x∈(gB w2k w2v p1).Txs,TL x)->∀r0:wI,gB w2k w2v p1=r0->∀r1:Bool,(true:Bool)=r1->∀Aq:Int,Ab=Aq->∀As:Int,Ad=As->∀Au:Int,Af=Au->∀Bl:Int,Aj=Bl->∀Bm:Int,Ak=Bm->∀Bn:Int,Ag=Bn->∀Bo:Int,Al=Bo->∀Bp:Int,Ah=Bp->∀Bq:Int,Ai=Bq->∀A9:List Int,Ac=A9->∀Bu:Int,Av=Bu->∀Ba:Int,Ae=Ba->∀B1:Bool,Ap=B1->∀B2:Int,Aw=B2->∀B3:Int,Ax=B3->∀B4:List wH,Ay=B4->∀B5:Int,Bb=B5->∀B6:Int,Bc=B6->∀B7:Int,Bd=B7->∀B8:Int,Be=B8->∀B9:Int,Bf=B9->∀Ca:Int,Bg=Ca->∀Cb:Int,Bh=Cb->∀Cc:Int,Bi=Cc->∀Cd:Int,Bj=Cd->∀Ce:Int,Bk=Ce->∀Bw:Int,Az=Bw->∀Bx:List Int,A0=Bx->∀Bz:List wA,A7=Bz->∀B0:Int,A8=B0->∀e2k:List Int,w2k=e2k->∀e2v:List wK,w2v=e2v->∀e4k:List ByteArray,w4k=e4k->∀e4v:List Int,w4v=e4v->∀e5k:List ByteArray,w5k=e5k->∀e5v:List (List Int),w5v=e5v->∀e6k:List ByteArray,w6k=e6k->∀e6v:List Bool,w6v=e6v->∀e7:List Int,w7=e7->∀e9:List Int,w9=e9->∀e10:List wG,w10=e10->∀e11k:List Int,w11k=e11k->∀e11v:List Bool,w11v=e11v-> 
 w2k.length=w2v.length/\let v2:wK:=mVal (BEq.beq p1) w2k w2v (default:wK)
((!mHas (BEq.beq p1) w2k)=true->
 lz w10/\lz w9/\lz w7/\0=r0.wd/\0=r0.wQ/\0=r0.wAF/\0=r0.wR/\0=r0.wU/\([]:List wa)=r0.Txs/\false=r1/\Ab=Aq/\Ad=As/\Af=Au/\Aj=Bl/\Ak=Bm/\Ag=Bn/\Al=Bo/\Ah=Bp/\Ai=Bq/\Ac=A9/\Av=Bu/\Ae=Ba/\Ap=B1/\Aw=B2/\Ax=B3/\Ay=B4/\Bb=B5/\Bc=B6/\Bd=B7/\Be=B8/\Bf=B9/\Bg=Ca/\Bh=Cb/\Bi=Cc/\Bj=Cd/\Bk=Ce/\Az=Bw/\A0=Bx/\A7=Bz/\A8=B0/\w2k=e2k/\w2v=e2v/\w4k=e4k/\w4v=e4v/\w5k=e5k/\w5v=e5v/\w6k=e6k/\w6v=e6v/\w7=e7/\w9=e9/\w10=e10/\w11k=e11k/\w11v=e11v)/\
((!mHas (BEq.beq p1) w2k)=false->
((wI.mk v2.wAH v2.wAC v2.wAM v2.wAP v2.wAN v2.wAT).Txs.length<=4294967295/\∀x∈(wI.mk v2.wAH v2.wAC v2.wAM v2.wAP v2.wAN v2.wAT).Txs,TL x)/\lz w10/\lz w9/\lz w7/\v2.wAH=r0.wd/\v2.wAC=r0.wQ/\v2.wAM=r0.wAF/\v2.wAP=r0.wR/\v2.wAN=r0.wU/\v2.wAT=r0.Txs/\true=r1/\Ab=Aq/\Ad=As/\Af=Au/\Aj=Bl/\Ak=Bm/\Ag=Bn/\Al=Bo/\Ah=Bp/\Ai=Bq/\Ac=A9/\Av=Bu/\Ae=Ba/\Ap=B1/\Aw=B2/\Ax=B3/\Ay=B4/\Bb=B5/\Bc=B6/\Bd=B7/\Be=B8/\Bf=B9/\Bg=Ca/\Bh=Cb/\Bi=Cc/\Bj=Cd/\Bk=Ce/\Az=Bw/\A0=Bx/\A7=Bz/\A8=B0/\w2k=e2k/\w2v=e2v/\w4k=e4k/\w4v=e4v/\w5k=e5k/\w5v=e5v/\w6k=e6k/\w6v=e6v/\w7=e7/\w9=e9/\w10=e10/\w11k=e11k/\w11v=e11v))<|by
 rintro p1 Ab Ad Af Aj Ak Ag Al Ah Ai Ac Av Ae Ap Aw Ax Ay Bb Bc Bd Be Bf Bg Bh Bi Bj Bk Az A0 A7 A8 w2k w2v w4k w4v w5k w5v w6k w6v w7 w9 w10 w11k w11v h _ rfl _ rfl _ rfl _ rfl _ rfl _ rfl _ rfl _ rfl _ rfl _ rfl _ rfl _ rfl _ rfl _ rfl _ rfl _ rfl _ rfl _ rfl _ rfl _ rfl _ rfl _ rfl _ rfl _ rfl _ rfl _ rfl _ rfl _ rfl _ rfl _ rfl _ rfl _ rfl _ rfl _ rfl _ rfl _ rfl _ rfl _ rfl _ rfl _ rfl _ rfl _ rfl _ rfl _ rfl _ rfl;obtain⟨⟨hkv,hm⟩,h4,ht⟩:=h;have hm:mHas (BEq.beq p1) w2k=true:=k2j.2 hm;refine⟨hkv,fun e=> ?_,fun _=>⟨⟨?_,ht⟩,(by repeat' first|apply qaa|exact rfl|exact qq)⟩⟩
 ·rw[hm]at e;cases e
 ·show(gB w2k w2v p1).Txs.length<=4294967295;omega
noncomputable def kdn:Con TB.den:= .t (gk 16 [.one (.ptr 0 0)] yB (.one (.one (.ptr 3 0)))) (.int .i64:: .int .i64:: .int .i64:: .int .i64:: .int .i64:: .int .u64:: .int .i64:: .int .i64:: .int .u64:: .sl yqu:: .int .u64:: .int .i64:: .bool::yF) (.int .i64:: .int .i64:: .int .i64:: .int .i64:: .int .i64:: .int .u64:: .int .i64:: .int .i64:: .int .u64:: .sl yqu:: .int .u64:: .int .i64:: .bool::yF) [] fun(Ab Ad Af Aj Ak Ag Al Ah Ai:Int) (Ac:List Int) (Av Ae:Int) (Ap:Bool) (Aw Ax:Int) (Ay:List wH) (Bb Bc Bd Be Bf Bg Bh Bi Bj Bk Az:Int) (A0:List Int) (A7:List wA) (A8:Int) (w2k:List Int) (w2v:List wK) (w4k:List ByteArray) (w4v:List Int) (w5k:List ByteArray) (w5v:List (List Int)) (w6k:List ByteArray) (w6v:List Bool) (w7 w9:List Int) (w10:List wG) (w11k:List Int) (w11v:List Bool)=>(Ab,Ad,Af,Aj,Ak,Ag,Al,Ah,Ai,Ac,Av,Ae,Ap,Aw,Ax,Ay,Bb,Bc,Bd,Be,Bf,Bg,Bh,Bi,Bj,Bk,Az,A0,A7,A8,w2k,w2v,w4k,w4v,w5k,w5v,w6k,w6v,w7,w9,w10,w11k,w11v,())
theorem k6g:kdn.Ok Tryz.prog TB:=ptv Bs Tryz.func16 .no c0 (Q:=∀(Ab Ad Af Aj Ak Ag Al Ah Ai:Int) (Ac:List Int) (Av Ae:Int) (Ap:Bool) (Aw Ax:Int) (Ay:List wH) (Bb Bc Bd Be Bf Bg Bh Bi Bj Bk Az:Int) (A0:List Int) (A7:List wA) (A8:Int) (w2k:List Int) (w2v:List wK) (w4k:List ByteArray) (w4v:List Int) (w5k:List ByteArray) (w5v:List (List Int)) (w6k:List ByteArray) (w6v:List Bool) (w7 w9:List Int) (w10:List wG) (w11k:List Int) (w11v:List Bool),∀Aq:Int,Ab=Aq->∀As:Int,Ad=As->∀Au:Int,Af=Au->∀Bl:Int,Aj=Bl->∀Bm:Int,Ak=Bm->∀Bn:Int,Ag=Bn->∀Bo:Int,Al=Bo->∀Bp:Int,Ah=Bp->∀Bq:Int,Ai=Bq->∀A9:List Int,Ac=A9->∀Bu:Int,Av=Bu->∀Ba:Int,Ae=Ba->∀B1:Bool,Ap=B1->∀B2:Int,Aw=B2->∀B3:Int,Ax=B3->∀B4:List wH,Ay=B4->∀B5:Int,Bb=B5->∀B6:Int,Bc=B6->∀B7:Int,Bd=B7->∀B8:Int,Be=B8->∀B9:Int,Bf=B9->∀Ca:Int,Bg=Ca->∀Cb:Int,Bh=Cb->∀Cc:Int,Bi=Cc->∀Cd:Int,Bj=Cd->∀Ce:Int,Bk=Ce->∀Bw:Int,Az=Bw->∀Bx:List Int,A0=Bx->∀Bz:List wA,A7=Bz->∀B0:Int,A8=B0->∀e2k:List Int,w2k=e2k->∀e2v:List wK,w2v=e2v->∀e4k:List ByteArray,w4k=e4k->∀e4v:List Int,w4v=e4v->∀e5k:List ByteArray,w5k=e5k->∀e5v:List (List Int),w5v=e5v->∀e6k:List ByteArray,w6k=e6k->∀e6v:List Bool,w6v=e6v->∀e7:List Int,w7=e7->∀e9:List Int,w9=e9->∀e10:List wG,w10=e10->∀e11k:List Int,w11k=e11k->∀e11v:List Bool,w11v=e11v-> 
 lz w10/\lz w9/\lz w7/\Ab=Aq/\Ad=As/\Af=Au/\Aj=Bl/\Ak=Bm/\Ag=Bn/\Al=Bo/\Ah=Bp/\Ai=Bq/\Ac=A9/\Av=Bu/\Ae=Ba/\Ap=B1/\Aw=B2/\Ax=B3/\Ay=B4/\Bb=B5/\Bc=B6/\Bd=B7/\Be=B8/\Bf=B9/\Bg=Ca/\Bh=Cb/\Bi=Cc/\Bj=Cd/\Bk=Ce/\Az=Bw/\A0=Bx/\A7=Bz/\A8=B0/\w2k=e2k/\w2v=e2v/\w4k=e4k/\w4v=e4v/\w5k=e5k/\w5v=e5v/\w6k=e6k/\w6v=e6v/\w7=e7/\w9=e9/\w10=e10/\w11k=e11k/\w11v=e11v)<|by rintro Ab Ad Af Aj Ak Ag Al Ah Ai Ac Av Ae Ap Aw Ax Ay Bb Bc Bd Be Bf Bg Bh Bi Bj Bk Az A0 A7 A8 w2k w2v w4k w4v w5k w5v w6k w6v w7 w9 w10 w11k w11v _ rfl _ rfl _ rfl _ rfl _ rfl _ rfl _ rfl _ rfl _ rfl _ rfl _ rfl _ rfl _ rfl _ rfl _ rfl _ rfl _ rfl _ rfl _ rfl _ rfl _ rfl _ rfl _ rfl _ rfl _ rfl _ rfl _ rfl _ rfl _ rfl _ rfl _ rfl _ rfl _ rfl _ rfl _ rfl _ rfl _ rfl _ rfl _ rfl _ rfl _ rfl _ rfl _ rfl;exact(by repeat' first|apply qaa|exact rfl|exact qq)
noncomputable def kcv:Con TB.den:= .g (gk 49 [.one (.ptr 0 0),.one (zqu),.one (zqu)] yB (.one (.one (.d (.bool))))) (.int .u64:: .int .u64:: .int .i64:: .int .i64:: .int .i64:: .int .i64:: .int .i64:: .int .u64:: .int .i64:: .int .i64:: .int .u64:: .sl yqu:: .int .u64:: .int .i64:: .bool::yF) (.bool:: .int .i64:: .int .i64:: .int .i64:: .int .i64:: .int .i64:: .int .u64:: .int .i64:: .int .i64:: .int .u64:: .sl yqu:: .int .u64:: .int .i64:: .bool::yF) [] fun(p1 p2 Ab Ad Af Aj Ak Ag Al Ah Ai:Int) (Ac:List Int) (Av Ae:Int) (Ap:Bool) (Aw Ax:Int) (Ay:List wH) (Bb Bc Bd Be Bf Bg Bh Bi Bj Bk Az:Int) (A0:List Int) (A7:List wA) (A8:Int) (w2k:List Int) (w2v:List wK) (w4k:List ByteArray) (w4v:List Int) (w5k:List ByteArray) (w5v:List (List Int)) (w6k:List ByteArray) (w6v:List Bool) (w7 w9:List Int) (w10:List wG) (w11k:List Int) (w11v:List Bool)=>(w2k.length=w2v.length/\Ac.length<=1000,(betS w2k w2v Ac p1 p2:Bool),Ab,Ad,Af,Aj,Ak,Ag,Al,Ah,Ai,Ac,Av,Ae,Ap,Aw,Ax,Ay,Bb,Bc,Bd,Be,Bf,Bg,Bh,Bi,Bj,Bk,Az,A0,A7,A8,w2k,w2v,w4k,w4v,w5k,w5v,w6k,w6v,w7,w9,w10,w11k,w11v,())
theorem kf6:kcv.Ok Tryz.prog TB:=prv Bs Tryz.func49 .no c0 (Q:=∀(p1 p2 Ab Ad Af Aj Ak Ag Al Ah Ai:Int) (Ac:List Int) (Av Ae:Int) (Ap:Bool) (Aw Ax:Int) (Ay:List wH) (Bb Bc Bd Be Bf Bg Bh Bi Bj Bk Az:Int) (A0:List Int) (A7:List wA) (A8:Int) (w2k:List Int) (w2v:List wK) (w4k:List ByteArray) (w4v:List Int) (w5k:List ByteArray) (w5v:List (List Int)) (w6k:List ByteArray) (w6v:List Bool) (w7 w9:List Int) (w10:List wG) (w11k:List Int) (w11v:List Bool),(w2k.length=w2v.length/\Ac.length<=1000)->∀r0:Bool,betS w2k w2v Ac p1 p2=r0->∀Aq:Int,Ab=Aq->∀As:Int,Ad=As->∀Au:Int,Af=Au->∀Bl:Int,Aj=Bl->∀Bm:Int,Ak=Bm->∀Bn:Int,Ag=Bn->∀Bo:Int,Al=Bo->∀Bp:Int,Ah=Bp->∀Bq:Int,Ai=Bq->∀A9:List Int,Ac=A9->∀Bu:Int,Av=Bu->∀Ba:Int,Ae=Ba->∀B1:Bool,Ap=B1->∀B2:Int,Aw=B2->∀B3:Int,Ax=B3->∀B4:List wH,Ay=B4->∀B5:Int,Bb=B5->∀B6:Int,Bc=B6->∀B7:Int,Bd=B7->∀B8:Int,Be=B8->∀B9:Int,Bf=B9->∀Ca:Int,Bg=Ca->∀Cb:Int,Bh=Cb->∀Cc:Int,Bi=Cc->∀Cd:Int,Bj=Cd->∀Ce:Int,Bk=Ce->∀Bw:Int,Az=Bw->∀Bx:List Int,A0=Bx->∀Bz:List wA,A7=Bz->∀B0:Int,A8=B0->∀e2k:List Int,w2k=e2k->∀e2v:List wK,w2v=e2v->∀e4k:List ByteArray,w4k=e4k->∀e4v:List Int,w4v=e4v->∀e5k:List ByteArray,w5k=e5k->∀e5v:List (List Int),w5v=e5v->∀e6k:List ByteArray,w6k=e6k->∀e6v:List Bool,w6v=e6v->∀e7:List Int,w7=e7->∀e9:List Int,w9=e9->∀e10:List wG,w10=e10->∀e11k:List Int,w11k=e11k->∀e11v:List Bool,w11v=e11v-> 
(((Ac.length:Int)==0)=true->
 lz w10/\lz w9/\lz w7/\true=r0/\Ab=Aq/\Ad=As/\Af=Au/\Aj=Bl/\Ak=Bm/\Ag=Bn/\Al=Bo/\Ah=Bp/\Ai=Bq/\Ac=A9/\Av=Bu/\Ae=Ba/\Ap=B1/\Aw=B2/\Ax=B3/\Ay=B4/\Bb=B5/\Bc=B6/\Bd=B7/\Be=B8/\Bf=B9/\Bg=Ca/\Bh=Cb/\Bi=Cc/\Bj=Cd/\Bk=Ce/\Az=Bw/\A0=Bx/\A7=Bz/\A8=B0/\w2k=e2k/\w2v=e2v/\w4k=e4k/\w4v=e4v/\w5k=e5k/\w5v=e5v/\w6k=e6k/\w6v=e6v/\w7=e7/\w9=e9/\w10=e10/\w11k=e11k/\w11v=e11v)/\
(((Ac.length:Int)==0)=false->
 let v1:Int:=i64.wrap ((Ac.length:Int)-1)
(0<=v1)/\v1<(Ac.length:Int)/\w2k.length=w2v.length/\let v2:wK:=mVal (BEq.beq (ix Ac v1)) w2k w2v (default:wK)
(decide (v2.work<p2)=true->
 lz w10/\lz w9/\lz w7/\true=r0/\Ab=Aq/\Ad=As/\Af=Au/\Aj=Bl/\Ak=Bm/\Ag=Bn/\Al=Bo/\Ah=Bp/\Ai=Bq/\Ac=A9/\Av=Bu/\Ae=Ba/\Ap=B1/\Aw=B2/\Ax=B3/\Ay=B4/\Bb=B5/\Bc=B6/\Bd=B7/\Be=B8/\Bf=B9/\Bg=Ca/\Bh=Cb/\Bi=Cc/\Bj=Cd/\Bk=Ce/\Az=Bw/\A0=Bx/\A7=Bz/\A8=B0/\w2k=e2k/\w2v=e2v/\w4k=e4k/\w4v=e4v/\w5k=e5k/\w5v=e5v/\w6k=e6k/\w6v=e6v/\w7=e7/\w9=e9/\w10=e10/\w11k=e11k/\w11v=e11v)/\
(decide (v2.work<p2)=false->
((p2==v2.work)=true->
 lz w10/\lz w9/\lz w7/\decide (p1<(ix Ac v1))=r0/\Ab=Aq/\Ad=As/\Af=Au/\Aj=Bl/\Ak=Bm/\Ag=Bn/\Al=Bo/\Ah=Bp/\Ai=Bq/\Ac=A9/\Av=Bu/\Ae=Ba/\Ap=B1/\Aw=B2/\Ax=B3/\Ay=B4/\Bb=B5/\Bc=B6/\Bd=B7/\Be=B8/\Bf=B9/\Bg=Ca/\Bh=Cb/\Bi=Cc/\Bj=Cd/\Bk=Ce/\Az=Bw/\A0=Bx/\A7=Bz/\A8=B0/\w2k=e2k/\w2v=e2v/\w4k=e4k/\w4v=e4v/\w5k=e5k/\w5v=e5v/\w6k=e6k/\w6v=e6v/\w7=e7/\w9=e9/\w10=e10/\w11k=e11k/\w11v=e11v)/\
((p2==v2.work)=false->
 lz w10/\lz w9/\lz w7/\false=r0/\Ab=Aq/\Ad=As/\Af=Au/\Aj=Bl/\Ak=Bm/\Ag=Bn/\Al=Bo/\Ah=Bp/\Ai=Bq/\Ac=A9/\Av=Bu/\Ae=Ba/\Ap=B1/\Aw=B2/\Ax=B3/\Ay=B4/\Bb=B5/\Bc=B6/\Bd=B7/\Be=B8/\Bf=B9/\Bg=Ca/\Bh=Cb/\Bi=Cc/\Bj=Cd/\Bk=Ce/\Az=Bw/\A0=Bx/\A7=Bz/\A8=B0/\w2k=e2k/\w2v=e2v/\w4k=e4k/\w4v=e4v/\w5k=e5k/\w5v=e5v/\w6k=e6k/\w6v=e6v/\w7=e7/\w9=e9/\w10=e10/\w11k=e11k/\w11v=e11v))))<|by
 rintro p1 p2 Ab Ad Af Aj Ak Ag Al Ah Ai Ac Av Ae Ap Aw Ax Ay Bb Bc Bd Be Bf Bg Bh Bi Bj Bk Az A0 A7 A8 w2k w2v w4k w4v w5k w5v w6k w6v w7 w9 w10 w11k w11v h _ rfl _ rfl _ rfl _ rfl _ rfl _ rfl _ rfl _ rfl _ rfl _ rfl _ rfl _ rfl _ rfl _ rfl _ rfl _ rfl _ rfl _ rfl _ rfl _ rfl _ rfl _ rfl _ rfl _ rfl _ rfl _ rfl _ rfl _ rfl _ rfl _ rfl _ rfl _ rfl _ rfl _ rfl _ rfl _ rfl _ rfl _ rfl _ rfl _ rfl _ rfl _ rfl _ rfl _ rfl;obtain⟨hl,hb⟩:=h;unfold betS;refine⟨fun e=> ?_,fun e=> ?_⟩
 ·rw[qh (qcx.1 (by have:(Ac.length:Int)=0:=(by simpa using e);omega))];exact(by repeat' first|apply qaa|exact rfl|exact qq)
 ·have e:¬(Ac.length:Int)=0:=by simpa using e
  rw[qe (fun hh=>e (by rw[hh];rfl))];rw[wi ((Ac.length:Int)-1) qqo qqo];refine⟨by omega,by omega,hl,fun e2=> ?_,fun e2=>⟨fun e3=> ?_,fun e3=> ?_⟩⟩
  ·have:decide (wkS w2v w2k (ix Ac ((Ac.length:Int)-1))<p2)=true:=e2;rw[this];exact(by repeat' first|apply qaa|exact rfl|exact qq)
  ·have:decide (wkS w2v w2k (ix Ac ((Ac.length:Int)-1))<p2)=false:=e2;have h3:(p2==wkS w2v w2k (ix Ac ((Ac.length:Int)-1)))=true:=e3;rw[this,h3];exact(by repeat' first|apply qaa|exact rfl|exact qq)
  ·have:decide (wkS w2v w2k (ix Ac ((Ac.length:Int)-1))<p2)=false:=e2;have h3:(p2==wkS w2v w2k (ix Ac ((Ac.length:Int)-1)))=false:=e3;rw[this,h3];exact(by repeat' first|apply qaa|exact rfl|exact qq)
noncomputable def k9e:Con TB.den:= .g ⟨46,[.one (.ptr 0 0),.agg yA1],yB,(.one (.one (.own 12))),[.cells yW,.cells yY,.map yqu (.st 11),.cells yQ,.map (.str) yqi,.map (.str) (.sl yqu),.map (.str) (.bool),.vec yqu,.cells [.mp 11],.vec yqu,.vec (.st 10),.map yqu (.bool),.tip yqu],false⟩ (.st 3:: .int .i64:: .int .i64:: .int .i64:: .int .i64:: .int .i64:: .int .u64:: .int .i64:: .int .i64:: .int .u64:: .sl yqu:: .int .u64:: .int .i64:: .bool::yF) (.int .i64:: .int .i64:: .int .i64:: .int .i64:: .int .i64:: .int .u64:: .int .i64:: .int .i64:: .int .u64:: .sl yqu:: .int .u64:: .int .i64:: .bool:: .int .u64::[yqi,.sl (.st 4),yqi,yqi,yqi,yqi,yqi,yqu,yqi,yqi,yqu,yqi,yqi,.sl yqu,.sl (.st 9),yqu,.sl yqu,.sl (.st 11),.sl (.str),.sl yqi,.sl (.str),.sl (.sl yqu),.sl (.str),.sl (.bool),.sl yqu,.sl yqu,.sl (.st 10),.sl yqu,.sl (.bool),.sl yqu]) [] fun(p1:wI) (Ab Ad Af Aj Ak Ag Al Ah Ai:Int) (Ac:List Int) (Av Ae:Int) (Ap:Bool) (Aw Ax:Int) (Ay:List wH) (Bb Bc Bd Be Bf Bg Bh Bi Bj Bk Az:Int) (A0:List Int) (A7:List wA) (A8:Int) (w2k:List Int) (w2v:List wK) (w4k:List ByteArray) (w4v:List Int) (w5k:List ByteArray) (w5v:List (List Int)) (w6k:List ByteArray) (w6v:List Bool) (w7 w9:List Int) (w10:List wG) (w11k:List Int) (w11v:List Bool)=>((∃(R:wB) (n:Nat),KI R w2k w2v n/\n<=20)/\PaOk w2k w2v p1/\1<=p1.wQ,Ab,Ad,Af,Aj,Ak,Ag,Al,Ah,Ai,Ac,Av,Ae,Ap,Aw,Ax,Ay,Bb,Bc,Bd,Be,Bf,Bg,Bh,Bi,Bj,Bk,Az,A0,A7,A8,w2k,w2v,w4k,w4v,w5k,w5v,w6k,w6v,w7,w9,w10,w11k,w11v,(brB w2k w2v p1:List Int),())
abbrev Fz0 (r:Type):=Int->Int->Int->Int->Int->(List wa)->(List Int)->r
theorem kb8:k9e.Ok Tryz.prog TB:=prv Bs Tryz.func46 (.r 1 (.nd [] (.lp [] ⟨[13,12],[.vec yqu,.cells yA1],[],[],[]⟩ .no) [] (.r 0 (.rt [.frz 13 [4]])))) c0 (Q:=∀(p1:wI) (Ab Ad Af Aj Ak Ag Al Ah Ai:Int) (Ac:List Int) (Av Ae:Int) (Ap:Bool) (Aw Ax:Int) (Ay:List wH) (Bb Bc Bd Be Bf Bg Bh Bi Bj Bk Az:Int) (A0:List Int) (A7:List wA) (A8:Int) (w2k:List Int) (w2v:List wK) (w4k:List ByteArray) (w4v:List Int) (w5k:List ByteArray) (w5v:List (List Int)) (w6k:List ByteArray) (w6v:List Bool) (w7 w9:List Int) (w10:List wG) (w11k:List Int) (w11v:List Bool),((∃(R:wB) (n:Nat),KI R w2k w2v n/\n<=20)/\PaOk w2k w2v p1/\1<=p1.wQ)->∀Aq:Int,Ab=Aq->∀As:Int,Ad=As->∀Au:Int,Af=Au->∀Bl:Int,Aj=Bl->∀Bm:Int,Ak=Bm->∀Bn:Int,Ag=Bn->∀Bo:Int,Al=Bo->∀Bp:Int,Ah=Bp->∀Bq:Int,Ai=Bq->∀A9:List Int,Ac=A9->∀Bu:Int,Av=Bu->∀Ba:Int,Ae=Ba->∀B1:Bool,Ap=B1->∀B2:Int,Aw=B2->∀B3:Int,Ax=B3->∀B4:List wH,Ay=B4->∀B5:Int,Bb=B5->∀B6:Int,Bc=B6->∀B7:Int,Bd=B7->∀B8:Int,Be=B8->∀B9:Int,Bf=B9->∀Ca:Int,Bg=Ca->∀Cb:Int,Bh=Cb->∀Cc:Int,Bi=Cc->∀Cd:Int,Bj=Cd->∀Ce:Int,Bk=Ce->∀Bw:Int,Az=Bw->∀Bx:List Int,A0=Bx->∀Bz:List wA,A7=Bz->∀B0:Int,A8=B0->∀e2k:List Int,w2k=e2k->∀e2v:List wK,w2v=e2v->∀e4k:List ByteArray,w4k=e4k->∀e4v:List Int,w4v=e4v->∀e5k:List ByteArray,w5k=e5k->∀e5v:List (List Int),w5v=e5v->∀e6k:List ByteArray,w6k=e6k->∀e6v:List Bool,w6v=e6v->∀e7:List Int,w7=e7->∀e9:List Int,w9=e9->∀e10:List wG,w10=e10->∀e11k:List Int,w11k=e11k->∀e11v:List Bool,w11v=e11v->∀e12:List Int,brB w2k w2v p1=e12-> 
 0<=i64.wrap (p1.wQ-1)/\i64.wrap (p1.wQ-1)<=i64.wrap (p1.wQ-1)/\((i64.wrap (p1.wQ-1)).toNat*8<=140737488355328)/\((i64.wrap (p1.wQ-1)).toNat<=maxLen)/\∃(I1:Fz0 Prop) (M1:Fz0 Nat),I1 p1.wd p1.wQ p1.wAF p1.wR p1.wU p1.Txs (List.replicate ((i64.wrap (p1.wQ-1)).toNat) (0:Int))/\∀b1 f1 i1 k1 l1 m1 n1,(I1 b1 f1 i1 k1 l1 m1 n1->
(decide (1<f1)=true->
(0<=i64.wrap (f1-2)/\i64.wrap (f1-2)<(((i64.wrap (p1.wQ-1)).toNat:Nat):Int))/\(0<=i64.wrap (f1-2)/\i64.wrap (f1-2)<(n1.length:Int))/\w2k.length=w2v.length/\let v1:wK:=mVal (BEq.beq b1) w2k w2v (default:wK)
 I1 v1.wAH v1.wAC v1.wAM v1.wAP v1.wAN v1.wAT (n1.set (i64.wrap (f1-2)).toNat b1)/\M1 v1.wAH v1.wAC v1.wAM v1.wAP v1.wAN v1.wAT (n1.set (i64.wrap (f1-2)).toNat b1)<M1 b1 f1 i1 k1 l1 m1 n1)/\
(decide (1<f1)=false->
((i64.wrap (p1.wQ-1)).toNat=n1.length)/\lz w10/\lz w9/\lz w7/\(n1=n1)/\Ab=Aq/\Ad=As/\Af=Au/\Aj=Bl/\Ak=Bm/\Ag=Bn/\Al=Bo/\Ah=Bp/\Ai=Bq/\Ac=A9/\Av=Bu/\Ae=Ba/\Ap=B1/\Aw=B2/\Ax=B3/\Ay=B4/\Bb=B5/\Bc=B6/\Bd=B7/\Be=B8/\Bf=B9/\Bg=Ca/\Bh=Cb/\Bi=Cc/\Bj=Cd/\Bk=Ce/\Az=Bw/\A0=Bx/\A7=Bz/\A8=B0/\w2k=e2k/\w2v=e2v/\w4k=e4k/\w4v=e4v/\w5k=e5k/\w5v=e5v/\w6k=e6k/\w6v=e6v/\w7=e7/\w9=e9/\w10=e10/\w11k=e11k/\w11v=e11v/\n1=e12)))<|by
 rintro p1 Ab Ad Af Aj Ak Ag Al Ah Ai Ac Av Ae Ap Aw Ax Ay Bb Bc Bd Be Bf Bg Bh Bi Bj Bk Az A0 A7 A8 w2k w2v w4k w4v w5k w5v w6k w6v w7 w9 w10 w11k w11v h _ rfl _ rfl _ rfl _ rfl _ rfl _ rfl _ rfl _ rfl _ rfl _ rfl _ rfl _ rfl _ rfl _ rfl _ rfl _ rfl _ rfl _ rfl _ rfl _ rfl _ rfl _ rfl _ rfl _ rfl _ rfl _ rfl _ rfl _ rfl _ rfl _ rfl _ rfl _ rfl _ rfl _ rfl _ rfl _ rfl _ rfl _ rfl _ rfl _ rfl _ rfl _ rfl _ rfl _ rfl;obtain⟨⟨R,n,hK,hn⟩,hp,hh⟩:=h;obtain⟨q1,_,_,q4,q5⟩:=hK.br hp hh;have hkn:=hK.kn;obtain⟨K,hKe⟩:=qn (show 0<=p1.wQ-1 by omega);have hw:i64.wrap (p1.wQ-1)=(K:Int):=by rw[wi _ qqo qqo,hKe]
 have hB:brB w2k w2v p1=brS w2k w2v K p1.wd:=by unfold brB;rw[hKe];rfl
 rw[hw,qr,hB]
 have hp0:1<=K->p1.wd∈w2k/\(gB w2k w2v p1.wd).wQ=(K:Int):=fun h1=>by
  rcases hp with⟨h2,_⟩|⟨_,h3,h4⟩
  ·omega
  ·exact⟨h3,by rw[h4,hKe]⟩
 refine⟨by omega,by omega,by omega,by unfold maxLen;omega,(fun b f _ _ _ _ l=>∃(m:Nat) (s:List Int),f=(m:Int)+1/\m<=K/\l=List.replicate m 0++s/\l.length=K/\brS w2k w2v K p1.wd=brS w2k w2v m b++s/\(1<=m->b∈w2k/\(gB w2k w2v b).wQ=(m:Int))),(fun _ f _ _ _ _ _=>f.toNat),⟨K,[],by omega,qt _,by simp,by simp,by simp,hp0⟩,?_⟩;rintro b f _ _ _ _ _ ⟨m,s,rfl,hm,rfl,hl,hs,hb⟩;refine⟨fun e=> ?_,fun e=> ?_⟩
 ·have e:=qb e;obtain⟨j,rfl⟩:∃j,m=j+1:=⟨m-1,by omega⟩;obtain⟨g1,g2⟩:=hb qqo;have hidx:i64.wrap (((j+1:Nat):Int)+1-2)=(j:Int):=by rw[wi _ qqo qqo];omega
  rw[hidx];refine⟨⟨by omega,by omega⟩,⟨by omega,by omega⟩,hK.kv,⟨j,b::s,?_,by omega,?_,by rw[qy];exact hl,?_,fun h1=> ?_⟩,?_⟩
  ·show(gB w2k w2v b).wQ=_;rw[g2];omega
  ·rw[qr,List.replicate_succ',qx];simp[List.set_append]
  ·rw[hs];show(brS w2k w2v j (gB w2k w2v b).wd++[b])++s=_;rw[qx];rfl
  ·obtain⟨a,c⟩:=hK.hp b g1 (by rw[g2];omega);exact⟨a,by show(gB w2k w2v (gB w2k w2v b).wd).wQ=_;rw[c,g2];omega⟩
  ·show(gB w2k w2v b).wQ.toNat<(((j+1:Nat):Int)+1).toNat;rw[g2];omega
 ·have e:=qc e;obtain rfl:m=0:=by omega
  have hs:brS w2k w2v K p1.wd=s:=hs;have hl:s.length=K:=by simpa using hl
  rw[hs];exact(by repeat' first|apply qaa|exact hl.symm|exact rfl|exact qq)
noncomputable def kae:Con TB.den:= .b (gk 51 [.one (.ptr 0 0)] [.cells [.ptr 1 0,zqi,zqi,zqi,zqi,zqi,zqu,zqi,zqi,zqu,.mp 2,.own 3,.ptr 4 0,zqu,zqi],.cells [.d (.bool),zqu,zqi,.d (.sl (.st 4)),.mp 5,.mp 6,.mp 7],.map yqu (.st 11),.tip yqu,.cells [zqi,zqi,zqi,zqi,zqi,zqu,zqi,zqi,zqu,zqi,zqi,zql,.row 8,.ptr 9 0,.d (.sl (.st 9)),zqu,.row 10,.row 11],.map (.str) yqi,.map (.str) (.sl yqu),.map (.str) (.bool),.vec yqu,.cells [.mp 12],.vec yqu,.vec (.st 10),.map yqu (.bool)] (.tup [])) (.int .i64:: .int .i64:: .int .i64:: .int .i64:: .int .i64:: .int .u64:: .int .i64:: .int .i64:: .int .u64:: .int .u64:: .int .i64:: .bool:: .int .u64::yE) (.int .i64:: .int .i64:: .int .i64:: .int .i64:: .int .i64:: .int .u64:: .int .i64:: .int .i64:: .int .u64:: .int .u64:: .int .i64:: .bool:: .int .u64::yE) fun(Ab Ad Af Aj Ak Ag Al Ah Ai Av Ae:Int) (Ap:Bool) (Aw Ax:Int) (Ay:List wH) (c4_0 c4_1 c4_2 c4_3 c4_4 c4_5 c4_6 c4_7 c4_8 c4_9 Ch:Int) (Ci:List Int) (Cj:List wA) (Ck:Int) (w2k:List Int) (w2v:List wK) (w3:List Int) (w5k:List ByteArray) (w5v:List Int) (w6k:List ByteArray) (w6v:List (List Int)) (w7k:List ByteArray) (w7v:List Bool) (w8 w10:List Int) (w11:List wG) (w12k:List Int) (w12v:List Bool)=>((1<=Ah/\Ah<=1048576)/\w3.length<=1000,finS Ah w3 Av Ae,fun R=>(Ab,Ad,Af,Aj,Ak,Ag,Al,Ah,Ai,R.f,R.h,Ap,Aw,Ax,Ay,c4_0,c4_1,c4_2,c4_3,c4_4,c4_5,c4_6,c4_7,c4_8,c4_9,Ch,Ci,Cj,Ck,w2k,w2v,w3,w5k,w5v,w6k,w6v,w7k,w7v,w8,w10,w11,w12k,w12v,()))
abbrev k49 (R:FH) (Ab Ad Af Aj Ak Ag Al Ah Ai:Int) (Ap:Bool) (Aw Ax:Int) (Ay:List wH) (c4_0 c4_1 c4_2 c4_3 c4_4 c4_5 c4_6 c4_7 c4_8 c4_9 Ch:Int) (Ci:List Int) (Cj:List wA) (Ck:Int) (w2k:List Int) (w2v:List wK) (w3:List Int) (w5k:List ByteArray) (w5v:List Int) (w6k:List ByteArray) (w6v:List (List Int)) (w7k:List ByteArray) (w7v:List Bool) (w8 w10:List Int) (w11:List wG) (w12k:List Int) (w12v:List Bool) (o0 o1 o2 o3 o4 o5 o6 o7 o8 o9 o10:Int) (o11:Bool) (o12 o13:Int) (o14:List wH) (o15 o16 o17 o18 o19 o20 o21 o22 o23 o24 o25:Int) (o26:List Int) (o27:List wA) (o28:Int) (o29:List Int) (o30:List wK) (o31:List Int) (o32:List ByteArray) (o33:List Int) (o34:List ByteArray) (o35:List (List Int)) (o36:List ByteArray) (o37:List Bool) (o38 o39:List Int) (o40:List wG) (o41:List Int) (o42:List Bool):Prop:=o0=Ab/\o1=Ad/\o2=Af/\o3=Aj/\o4=Ak/\o5=Ag/\o6=Al/\o7=Ah/\o8=Ai/\o9=R.f/\o10=R.h/\o11=Ap/\o12=Aw/\o13=Ax/\o14=Ay/\o15=c4_0/\o16=c4_1/\o17=c4_2/\o18=c4_3/\o19=c4_4/\o20=c4_5/\o21=c4_6/\o22=c4_7/\o23=c4_8/\o24=c4_9/\o25=Ch/\o26=Ci/\o27=Cj/\o28=Ck/\o29=w2k/\o30=w2v/\o31=w3/\o32=w5k/\o33=w5v/\o34=w6k/\o35=w6v/\o36=w7k/\o37=w7v/\o38=w8/\o39=w10/\o40=w11/\o41=w12k/\o42=w12v
theorem kam:kae.Ok Tryz.prog TB:=pbv Bs Tryz.func51 (.r 0 (.jn ⟨[],[],[23],[.one (.d (.bool))],[]⟩ [] .no [] .no)) c0 (Q:=∀(Ab Ad Af Aj Ak Ag Al Ah Ai Av Ae:Int) (Ap:Bool) (Aw Ax:Int) (Ay:List wH) (c4_0 c4_1 c4_2 c4_3 c4_4 c4_5 c4_6 c4_7 c4_8 c4_9 Ch:Int) (Ci:List Int) (Cj:List wA) (Ck:Int) (w2k:List Int) (w2v:List wK) (w3:List Int) (w5k:List ByteArray) (w5v:List Int) (w6k:List ByteArray) (w6v:List (List Int)) (w7k:List ByteArray) (w7v:List Bool) (w8 w10:List Int) (w11:List wG) (w12k:List Int) (w12v:List Bool),((1<=Ah/\Ah<=1048576)/\w3.length<=1000)->∀R,finS Ah w3 Av Ae=R-> 
 let v1:Int:=i64.wrap ((w3.length:Int)-Ah)
 ∀J1:Bool->Prop,(∀(b1:Bool),
((b1=true->
(0<=i64.wrap (v1-1))/\i64.wrap (v1-1)<(w3.length:Int)/\lz w11/\lz w10/\lz w8/\(w3=w3)/\k49 R Ab Ad Af Aj Ak Ag Al Ah Ai Ap Aw Ax Ay c4_0 c4_1 c4_2 c4_3 c4_4 c4_5 c4_6 c4_7 c4_8 c4_9 Ch Ci Cj Ck w2k w2v w3 w5k w5v w6k w6v w7k w7v w8 w10 w11 w12k w12v Ab Ad Af Aj Ak Ag Al Ah Ai (ix w3 (i64.wrap (v1-1))) v1 Ap Aw Ax Ay c4_0 c4_1 c4_2 c4_3 c4_4 c4_5 c4_6 c4_7 c4_8 c4_9 Ch Ci Cj Ck w2k w2v w3 w5k w5v w6k w6v w7k w7v w8 w10 w11 w12k w12v)/\
(b1=false->
 lz w11/\lz w10/\lz w8/\(w3=w3)/\k49 R Ab Ad Af Aj Ak Ag Al Ah Ai Ap Aw Ax Ay c4_0 c4_1 c4_2 c4_3 c4_4 c4_5 c4_6 c4_7 c4_8 c4_9 Ch Ci Cj Ck w2k w2v w3 w5k w5v w6k w6v w7k w7v w8 w10 w11 w12k w12v Ab Ad Af Aj Ak Ag Al Ah Ai Av Ae Ap Aw Ax Ay c4_0 c4_1 c4_2 c4_3 c4_4 c4_5 c4_6 c4_7 c4_8 c4_9 Ch Ci Cj Ck w2k w2v w3 w5k w5v w6k w6v w7k w7v w8 w10 w11 w12k w12v))->J1 b1)->
(decide (1<=v1)=true->
 J1 (decide (Ae<v1)))/\
(decide (1<=v1)=false->
 J1 false))<|by
 rintro Ab Ad Af Aj Ak Ag Al Ah Ai Av Ae Ap Aw Ax Ay c4_0 c4_1 c4_2 c4_3 c4_4 c4_5 c4_6 c4_7 c4_8 c4_9 Ch Ci Cj Ck w2k w2v w3 w5k w5v w6k w6v w7k w7v w8 w10 w11 w12k w12v h R hR;obtain⟨⟨h1,h2⟩,h3⟩:=h;intro v1 J1 k1;have hv:v1=(w3.length:Int)-Ah:=wi _ qqo qqo
 clear_value v1
 subst hv
 have j:∀b:Bool,(b=true↔(1<=(w3.length:Int)-Ah/\Ae<(w3.length:Int)-Ah))->J1 b:=fun b hb=>k1 b ⟨fun e=>by
  have hh:=hb.1 e;have hq:=hR.symm.trans (show finS Ah w3 Av Ae=_ from qh hh);subst hq;rw[wi ((w3.length:Int)-Ah-1) qqo qqo];exact⟨by omega,by omega,(by repeat' first|apply qaa|exact rfl|exact qq)⟩,fun e=>by
  have hh:¬(1<=(w3.length:Int)-Ah/\Ae<(w3.length:Int)-Ah):=fun hq=>by rw[hb.2 hq]at e;cases e
  have hq:=hR.symm.trans (show finS Ah w3 Av Ae=_ from qe hh);subst hq;exact(by repeat' first|apply qaa|exact rfl|exact qq)⟩
 exact⟨fun e=>j _ ⟨fun e2=>⟨qb e,qb e2⟩,fun hq=>qbn hq.2⟩,fun e=>j _ ⟨fun e2=>(by cases e2),fun hq=>(qc e hq.1).elim⟩⟩
noncomputable def klj:Con TB.den:= .g (gk 163 [.one (.ptr 0 0),.one (zqu)] yD1 (.one (.one (.d (.bool))))) [yqu,.sl yqu,.sl (.bool)] [.bool,.sl yqu,.sl (.bool)] [] fun(p1:Int) (w1k:List Int) (w1v:List Bool)=>(w1v=trs w1k,(decide (p1∈w1k):Bool),w1k,w1v,())
theorem klt:klj.Ok Tryz.prog TB:=prv Bs Tryz.func163 .no c0 (Q:=∀(p1:Int) (w1k:List Int) (w1v:List Bool),(w1v=trs w1k)->∀r0:Bool,(decide (p1∈w1k))=r0->∀e1k:List Int,w1k=e1k->∀e1v:List Bool,w1v=e1v-> 
 w1k.length=w1v.length/\let v1:Bool:=mVal (BEq.beq p1) w1k w1v false
 v1=r0/\w1k=e1k/\w1v=e1v)<|by rintro p1 w1k w1v h _ rfl _ rfl _ rfl;subst h;exact⟨by simp[trs],sVal _ _,rfl,rfl⟩
noncomputable def kb4:Con TB.den:= .g (gk 68 [.one (.ptr 0 0)] yI (.one (.one (.view 3)))) yO [yqi,yqi,yqi,yqi,yqi,yqi,yqi,yqu,yqi,yqi,yqu,yqi,yqi,.sl yqu,.sl (.st 9),yqu,.sl yqu,.sl yqu,.sl (.st 10),.sl yqu,.sl (.bool)] [] fun(Aa Ab Ad Af Aj Ak Ag Al Ah Ai Am:Int) (Ac:List Int) (Ae:List wA) (Ao:Int) (w1 w3:List Int) (w4:List wG) (w5k:List Int) (w5v:List Bool)=>((1<=Ag/\Ag<=100)/\w3.length<=1000000,(((w3.length-Ag.toNat:Nat):Int):Int),(((w3.length-(w3.length-Ag.toNat):Nat):Int):Int),Aa,Ab,Ad,Af,Aj,Ak,Ag,Al,Ah,Ai,Am,Ac,Ae,Ao,w1,w3,w4,w5k,w5v,())
theorem k4w:kb4.Ok Tryz.prog TB:=prv Bs Tryz.func68 .no c0 (Q:=∀(Aa Ab Ad Af Aj Ak Ag Al Ah Ai Am:Int) (Ac:List Int) (Ae:List wA) (Ao:Int) (w1 w3:List Int) (w4:List wG) (w5k:List Int) (w5v:List Bool),((1<=Ag/\Ag<=100)/\w3.length<=1000000)->∀r0o:Int,((w3.length-Ag.toNat:Nat):Int)=r0o->∀r0n:Int,((w3.length-(w3.length-Ag.toNat):Nat):Int)=r0n->∀At:Int,Aa=At->∀Aq:Int,Ab=Aq->∀As:Int,Ad=As->∀Au:Int,Af=Au->∀Bl:Int,Aj=Bl->∀Bm:Int,Ak=Bm->∀Bn:Int,Ag=Bn->∀Bo:Int,Al=Bo->∀Bp:Int,Ah=Bp->∀Bq:Int,Ai=Bq->∀Br:Int,Am=Br->∀A9:List Int,Ac=A9->∀Ba:List wA,Ae=Ba->∀Bt:Int,Ao=Bt->∀e1:List Int,w1=e1->∀e3:List Int,w3=e3->∀e4:List wG,w4=e4->∀e5k:List Int,w5k=e5k->∀e5v:List Bool,w5v=e5v-> 
 let v1:Int:=i64.wrap ((w3.length:Int)-(if 0<Ag then Ag else 0))
(0<=(if 0<v1 then v1 else 0))/\(if 0<v1 then v1 else 0)<=(w3.length:Int)/\lz w4/\lz w3/\lz w1/\(((if 0<v1 then v1 else 0).toNat:Nat):Int)=r0o/\((w3.length-(if 0<v1 then v1 else 0).toNat:Nat):Int)=r0n/\Aa=At/\Ab=Aq/\Ad=As/\Af=Au/\Aj=Bl/\Ak=Bm/\Ag=Bn/\Al=Bo/\Ah=Bp/\Ai=Bq/\Am=Br/\Ac=A9/\Ae=Ba/\Ao=Bt/\w1=e1/\w3=e3/\w4=e4/\w5k=e5k/\w5v=e5v)<|by
 rintro Aa Ab Ad Af Aj Ak Ag Al Ah Ai Am Ac Ae Ao w1 w3 w4 w5k w5v h _ rfl _ rfl _ rfl _ rfl _ rfl _ rfl _ rfl _ rfl _ rfl _ rfl _ rfl _ rfl _ rfl _ rfl _ rfl _ rfl _ rfl _ rfl _ rfl _ rfl _ rfl;obtain⟨⟨h1,h2⟩,h3⟩:=h;refine ?_;intro v1;have hv:v1=(w3.length:Int)-Ag:=by show i64.wrap _=_;rw[qh (show 0<Ag by omega),kp _ qqo qqo]
 have e:(if 0<v1 then v1 else 0)=((w3.length-Ag.toNat:Nat):Int):=by rw[hv];split<;>omega
 rw[e,qr];exact⟨by omega,by omega,rfl,rfl,rfl,rfl,rfl,rfl,rfl,rfl,rfl,rfl,rfl,rfl,rfl,rfl,rfl,rfl,rfl,rfl,rfl,rfl,rfl,rfl,rfl,rfl⟩
noncomputable def khv:Con TB.den:= .tp 376 [yqu] [.bool] [] fun(p0:Int)=>(false,())
theorem k9o:khv.Ok Tryz.prog TB:=qtv Bs Tryz.func376 .no c0 (Q:=∀(p0:Int),∀r0:Bool,(false:Bool)=r0-> 
(p0 !=p0)=r0)<|by rintro p0 _ rfl;exact qqs
noncomputable def kdt:Con TB.den:= .tp 302 [yqu,yqu] [yqi] [] fun(p0 p1:Int)=>((cmp3 p0 p1:Int),())
theorem kfd:kdt.Ok Tryz.prog TB:=qtv Bs Tryz.func302 .no (k9o.c c0) (Q:=∀(p0 p1:Int),∀r0:Int,cmp3 p0 p1=r0-> 
(false=true->
(false=true->
 0=r0)/\
(false=false->
(-1)=r0))/\
(false=false->
(false=true->
 1=r0)/\
(false=false->
(decide (p0<p1)=true->
(-1)=r0)/\
(decide (p0<p1)=false->
(decide (p1<p0)=true->
 1=r0)/\
(decide (p1<p0)=false->
 0=r0)))))<|by rintro p0 p1 _ rfl;refine⟨fun e=>(by cases e),fun _=>⟨fun e=>(by cases e),fun _=> ?_⟩⟩;simp only[qaf,decide_eq_false_iff_not];unfold cmp3;exact⟨fun h=>by simp[h],fun h=>⟨fun h2=>by simp[h,h2],fun h2=>by simp[h,h2]⟩⟩
noncomputable def k4h:Con TB.den:= .tp 301 [.st 9,yqu] [yqi] [] fun(p0:wA) (p1:Int)=>((cmp3 p0.ID p1:Int),())
theorem k53:k4h.Ok Tryz.prog TB:=qtv Bs Tryz.func301 .no (kfd.c c0) (Q:=∀(p0:wA) (p1:Int),∀r0:Int,cmp3 p0.ID p1=r0-> 
(cmp3 p0.ID p1)=r0)<|by rintro p0 p1 _ rfl;exact rfl
noncomputable def k3z:Con TB.den:= .g (gk 300 [.one (.d (.sl (.st 9))),.one (zqu),.one (.k (.fn 301))] [] (.tup [.one (zqi),.one (.d (.bool))])) [.sl (.st 9),yqu] [yqi,.bool] [] fun(p0:List wA) (p1:Int)=>(Srt p0/\p0.length<4611686018427387904,((lb p0 p1:Int):Int),(fnd p0 p1:Bool),())
theorem k46:k3z.Ok Tryz.prog TB:=prv Bs Tryz.func300 (.r 2 (.nd [] (.lp [] ⟨[],[],[9,10],[.one (zqi),.one (zqi)],[]⟩ .no) [] .no)) (k53.c c0) (Q:=∀(p0:List wA) (p1:Int),(Srt p0/\p0.length<4611686018427387904)->∀r0:Int,(lb p0 p1:Int)=r0->∀r1:Bool,fnd p0 p1=r1-> 
 ∃(I1:Int->Int->Prop) (M1:Int->Int->Nat),I1 0 (p0.length:Int)/\∀b1 f1,(I1 b1 f1->
(decide (b1<f1)=true->
 let v2:Int:=u64.wrap (i64.wrap (b1+f1))
(0<=i64.wrap (ishr .u64 v2 1))/\i64.wrap (ishr .u64 v2 1)<(p0.length:Int)/\let r3:Int:=(cmp3 (ix p0 (i64.wrap (ishr .u64 v2 1))).ID p1)
(decide (r3<0)=true->
 let v4:Int:=i64.wrap ((i64.wrap (ishr .u64 v2 1))+1)
 I1 v4 f1/\M1 v4 f1<M1 b1 f1)/\
(decide (r3<0)=false->
 I1 b1 (i64.wrap (ishr .u64 v2 1))/\M1 b1 (i64.wrap (ishr .u64 v2 1))<M1 b1 f1))/\
(decide (b1<f1)=false->
(decide (b1<(p0.length:Int))=true->
(0<=b1)/\b1<(p0.length:Int)/\b1=r0/\((cmp3 (ix p0 b1).ID p1)==0)=r1)/\
(decide (b1<(p0.length:Int))=false->
 b1=r0/\false=r1))))<|by
 rintro p0 p1 h _ rfl _ rfl;obtain⟨hs,hl⟩:=h;refine(⟨(fun a b=>∃i j:Nat,a=(i:Int)/\b=(j:Int)/\i<=j/\j<=p0.length/\(∀k (h:k<p0.length),k<i->p0[k].ID<p1)/\(∀k (h:k<p0.length),j<=k->p1<=p0[k].ID)),(fun a b=>(b-a).toNat),⟨0,p0.length,rfl,rfl,by omega,by omega,fun k h hk=>by omega,fun k h hk=>by omega⟩,?_⟩);rintro _ _ ⟨i,j,rfl,rfl,hij,hj,h1,h2⟩;refine⟨fun hlt=> ?_,fun hlt=> ?_⟩
 ·have hlt' :i<j:=by have:=qb hlt;omega
  intro v2;have e:i64.wrap (ishr .u64 v2 1)=(((i+j)/2:Nat):Int):=mid_eq i j qqo;rw[e];have hm:(i+j)/2<p0.length:=by omega
  rw[ix_get _ _ hm];refine⟨by omega,by omega,fun hc=> ?_,fun hc=> ?_⟩
  ·have hc:=cmp3_lt.1 (qb hc);refine⟨⟨(i+j)/2+1,j,inc_i64 _ qqo,rfl,by omega,hj,fun k h hk=> ?_,h2⟩,?_⟩
   ·rcases qaz k ((i+j)/2)with h5|h5
    ·have:=hs _ _ h5 hm;omega
    ·have:k=(i+j)/2:=by omega
     subst this;exact hc
   ·rw[inc_i64 _ qqo];(dsimp only;omega)
  ·have hc:¬p0[(i+j)/2].ID<p1:=fun hh=>qc hc (cmp3_lt.2 hh);refine⟨⟨i,(i+j)/2,rfl,rfl,by omega,by omega,h1,fun k h hk=> ?_⟩,by(dsimp only;omega)⟩;rcases qaz ((i+j)/2) k with h5|h5
   ·have:=hs _ _ h5 h;omega
   ·have:k=(i+j)/2:=by omega
    subst this;omega
 ·have hij' :i=j:=by have:=qc hlt;omega
  subst hij';have hb:lb p0 p1=i:=lb_eq p0 p1 i hj h1 (fun h=>h2 i h qqo);refine⟨fun hi=> ?_,fun hi=> ?_⟩
  ·have hi:i<p0.length:=by have:=qb hi;omega
   refine⟨by omega,by omega,by rw[hb],?_⟩;unfold fnd;rw[hb,ix_get _ _ hi,qd hi];show((cmp3 p0[i].ID p1)==0)=decide (p0[i].ID=p1);rw[Bool.eq_iff_iff];simp[cmp3_eq]
  ·have hi:¬i<p0.length:=by have:=qc hi;omega
   refine⟨by rw[hb],?_⟩;unfold fnd;rw[hb,qdd qqo]
noncomputable def ke5:Con TB.den:= .gp 224 [.st 17,yqu] [yqi,.bool] [] fun(p0:wl) (p1:Int)=>(Srt p0.wF/\p0.wF.length<4611686018427387904,((lb p0.wF p1:Int):Int),(fnd p0.wF p1:Bool),())
theorem k6q:ke5.Ok Tryz.prog TB:=qrv Bs Tryz.func224 .no (k46.c c0) (Q:=∀(p0:wl) (p1:Int),(Srt p0.wF/\p0.wF.length<4611686018427387904)->∀r0:Int,(lb p0.wF p1:Int)=r0->∀r1:Bool,fnd p0.wF p1=r1-> 
(Srt p0.wF/\p0.wF.length<4611686018427387904)/\(lb p0.wF p1:Int)=r0/\(fnd p0.wF p1)=r1)<|by rintro p0 p1 h _ rfl _ rfl;exact⟨h,rfl,rfl⟩
noncomputable def kff:Con TB.den:= .bp 167 [.st 17,yqu] [yqu,yqu] fun(p0:wl) (p1:Int)=>(Srt p0.wF/\p0.wF.length<4611686018427387904,getA p0.wF p1,fun R=>(R.wY,R.wU,()))
theorem k8j:kff.Ok Tryz.prog TB:=qbv Bs Tryz.func167 .no (k6q.c c0) (Q:=∀(p0:wl) (p1:Int),(Srt p0.wF/\p0.wF.length<4611686018427387904)->∀R,getA p0.wF p1=R-> 
(Srt p0.wF/\p0.wF.length<4611686018427387904)/\((!(fnd p0.wF p1))=true->
 0=R.wY/\0=R.wU)/\
((!(fnd p0.wF p1))=false->
(0<=(lb p0.wF p1:Int))/\(lb p0.wF p1:Int)<(p0.wF.length:Int)/\let v2:Int:=(ix p0.wF (lb p0.wF p1:Int)).wY
(0<=(lb p0.wF p1:Int))/\(lb p0.wF p1:Int)<(p0.wF.length:Int)/\let v3:Int:=(ix p0.wF (lb p0.wF p1:Int)).wU
 v2=R.wY/\v3=R.wU))<|by
 rintro p0 p1 h R hR;subst hR;refine⟨h,fun hh=> ?_,fun hh=> ?_⟩
 ·have hf:fnd p0.wF p1=false:=by simpa using hh
  rw[getA_no h.1 hf];exact⟨rfl,rfl⟩
 ·have hf:fnd p0.wF p1=true:=by simpa using hh
  obtain⟨hb,_⟩:=k4z hf;rw[getA_of h.1 hf hb,ix_get _ _ hb];exact⟨by omega,by omega,by omega,by omega,rfl,rfl⟩
noncomputable def k42:Con TB.den:= .g ⟨75,[.one (.d (.sl (.st 9)))],[],(.one (.one (.own 0))),[.tip (.st 9)],false⟩ [.sl (.st 9)] [.sl (.st 9)] [] fun(p0:List wA)=>(p0.length<=100000,p0,())
theorem k4j:k42.Ok Tryz.prog TB:=prv Bs Tryz.func75 (.r 0 (.nd [] (.r 0 (.nd [] (.r 0 (.rt [.tok 2 (.st 9)])) [] .no)) [] .no)) c0 (Q:=∀(p0:List wA),(p0.length<=100000)->∀e0:List wA,p0=e0-> 
 ∀z4:Bool,(z4=true->p0=[])->(z4=true->
(([]:List wA)=([]:List wA))/\([]:List wA)=e0)/\
(z4=false->
(([]:List wA).length+p0.length)*24<=140737488355328/\([]:List wA).length+p0.length<=maxLen/\(([]:List wA)++p0=([]:List wA)++p0)/\([]:List wA)++p0=e0))<|by rintro p0 h _ rfl;exact fun z hz=>⟨fun h=>⟨rfl,(hz h).symm⟩,fun _=>⟨by simp;omega,by simp;unfold maxLen;omega,rfl,rfl⟩⟩
noncomputable def kfj:Con TB.den:= .gp 169 [.st 17,.st 9] [.st 17] [] fun(p0:wl) (p1:wA)=>(Srt p0.wF/\p0.wF.length<=1000,(wl.mk (putA p0.wF p1):wl),())
theorem k8l:kfj.Ok Tryz.prog TB:=qrv Bs Tryz.func169 (.r 2 (.jn ⟨[3],[.tip (.st 9)],[7],[.one (.own 0)],[]⟩ [] (.jn ⟨[],[],[27],[.one (.d (.bool))],[]⟩ [] .no [] .no) [] (.jn ⟨[],[],[5],[.one (zqi)],[]⟩ [] .no [] .no))) (k6q.c (k4j.c c0)) (Q:=∀(p0:wl) (p1:wA),(Srt p0.wF/\p0.wF.length<=1000)->∀r0:wl,(wl.mk (putA p0.wF p1))=r0-> 
(Srt p0.wF/\p0.wF.length<4611686018427387904)/\(0<=(lb p0.wF p1.ID:Int))/\(lb p0.wF p1.ID:Int)<=(p0.wF.length:Int)/\let v1:List wA:=p0.wF.take (lb p0.wF p1.ID:Int).toNat
(v1.length<=100000)/\∀J1:(List wA)->Prop,(∀(b1:List wA),
(∀J3:Int->Prop,(∀(i1:Int),
((0<=i1)/\i1<=(p0.wF.length:Int)/\lz b1/\(b1.length+(p0.wF.drop i1.toNat).length)*24<=140737488355328/\b1.length+(p0.wF.drop i1.toNat).length<=maxLen/\b1++(p0.wF.drop i1.toNat)=r0.wF)->J3 i1)->
((fnd p0.wF p1.ID)=true->
 let v2:Int:=i64.wrap ((lb p0.wF p1.ID:Int)+1)
 J3 v2)/\
((fnd p0.wF p1.ID)=false->
 J3 (lb p0.wF p1.ID:Int)))->J1 b1)->
 ∀J2:Bool->Prop,(∀(f1:Bool),
((f1=true->
 lz v1/\(v1.length+[p1].length)*24<=140737488355328/\v1.length+[p1].length<=maxLen/\(v1++[p1]=v1++[p1])/\J1 (v1++[p1]))/\
(f1=false->
(v1=v1)/\J1 v1))->J2 f1)->
((p1.wY !=0)=true->
 J2 true)/\
((p1.wY !=0)=false->
 J2 (p1.wU !=0)))<|by
 rintro p0 p1 h _ rfl;obtain⟨hs,hl⟩:=h;have hlb:=lb_le p0.wF p1.ID;refine⟨⟨hs,by omega⟩,by omega,by omega,?_⟩;simp only[qr];refine⟨by simp;omega,fun J1 j1=> ?_⟩
 have hJ1:∀m:List wA,m=p0.wF.take (lb p0.wF p1.ID)++(if p1.wY≠0∨p1.wU≠0 then [p1]else [])->J1 m:=by
  intro m hm;have hml:m.length<=1001:=by rw[hm];simp only[qj,qo];split<;>simp<;>omega
  refine j1 _ fun J3 j3=> ?_
  have hJ3:∀n:Nat,n<=p0.wF.length->m++p0.wF.drop n=putA p0.wF p1->J3 (n:Int):=by
   intro n hn he;have:=(qan:(p0.wF.drop n).length=_);refine j3 _ ⟨by omega,by omega,by first|exact rfl|exact qq,?_,?_,?_⟩
   ·simp only[qr];omega
   ·simp only[qr];unfold maxLen;omega
   ·simp only[qr];exact he
  refine⟨fun hf=> ?_,fun hf=> ?_⟩
  ·obtain⟨hb,_⟩:=k4z hf;rw[inc_i64 _ qqo];refine hJ3 _ qqo ?_;rw[hm];unfold putA;rw[hf];rfl
  ·refine hJ3 _ qqo ?_;rw[hm];unfold putA;rw[hf];rfl
 intro J2 j2
 have hJ2:∀b:Bool,(b=true↔(p1.wY≠0∨p1.wU≠0))->J2 b:=by
  intro b hb;refine j2 _ ⟨fun e=> ?_,fun e=> ?_⟩
  ·have hlt:(p0.wF.take (lb p0.wF p1.ID)).length<=1000:=by rw[qo];omega
   refine⟨by first|exact rfl|exact qq,(len24 _ _ (qbk hlt qqd)).1,(len24 _ _ (qbk hlt qqd)).2,by first|exact rfl|exact qq,hJ1 _ ?_⟩;rw[qh (hb.1 e)]
  ·refine⟨by first|exact rfl|exact qq,hJ1 _ ?_⟩;rw[qe (fun hh=>by rw[hb.2 hh]at e;cases e)];exact(qcu _).symm
 refine⟨fun e=>hJ2 _ ?_,fun e=>hJ2 _ ?_⟩
 ·have:p1.wY≠0:=by simpa using e
  simp[this]
 ·have:p1.wY=0:=by simpa using e
  simp[this]
noncomputable def kcr:Con TB.den:= .gp 164 [.st 17,yqu,yqu,yqu] [.st 17,yqi] [] fun(p0:wl) (p1 p2 p3:Int)=>(OkA p0.wF/\U64 p2/\U64 p3,(wl.mk (debitA p0.wF p1 p2 p3).1:wl),((debitA p0.wF p1 p2 p3).2:Int),())
theorem k5p:kcr.Ok Tryz.prog TB:=qrv Bs Tryz.func164 (.r 2 (.nd [] (.jn ⟨[],[],[27],[.one (.d (.bool))],[]⟩ [] .no [] .no) [] .no)) (k8j.c (k8l.c c0)) (Q:=∀(p0:wl) (p1 p2 p3:Int),(OkA p0.wF/\U64 p2/\U64 p3)->∀r0:wl,(wl.mk (debitA p0.wF p1 p2 p3).1)=r0->∀r1:Int,((debitA p0.wF p1 p2 p3).2)=r1-> 
(Srt p0.wF/\p0.wF.length<4611686018427387904)/\((p2==0)=true->
([]:List wA)=r0.wF/\1=r1)/\
((p2==0)=false->
 ∀J1:Bool->Prop,(∀(b1:Bool),
((b1=true->
([]:List wA)=r0.wF/\20=r1)/\
(b1=false->
 let v2:Bool:=decide (((getA p0.wF p1).wY)<p2)
(v2=true->
([]:List wA)=r0.wF/\15=r1)/\
(v2=false->
 let v3:Int:=u64.wrap (((getA p0.wF p1).wY)-p2)
(Srt p0.wF/\p0.wF.length<=1000)/\let r4:List wA:=(putA p0.wF (wA.mk p1 v3 (u64.wrap (p3+1))))
 r4=r0.wF/\0=r1)))->J1 b1)->
((p3 !=((getA p0.wF p1).wU))=true->
 J1 true)/\
((p3 !=((getA p0.wF p1).wU))=false->
 J1 (p3==18446744073709551615))))<|by
 rintro p0 p1 p2 p3 h _ rfl _ rfl;obtain⟨h,⟨ha,ha'⟩,hn,hn'⟩:=h;obtain⟨g1,g2⟩:=getA_ok h p1;refine⟨⟨h.1,by have:=h.2.1;omega⟩,fun hh=> ?_,fun hh J1 j=> ?_⟩
 ·have:p2=0:=by simpa using hh
  simp[debitA,this]
 have h0:p2≠0:=by simpa using hh
 have key:∀b:Bool,(b=true↔(p3≠(getA p0.wF p1).wU∨p3=18446744073709551615))->J1 b:=by
  intro b hb;refine j _ ⟨fun e=> ?_,fun e=> ?_⟩
  ·simp only[debitA,qe h0,qh (hb.1 e)];exact⟨by first|exact rfl|exact qq,by first|exact rfl|exact qq⟩
  ·have h1:¬(p3≠(getA p0.wF p1).wU∨p3=18446744073709551615):=fun hh=>by rw[hb.2 hh]at e;cases e
   simp only[debitA,qe h0,qe h1];refine⟨fun hh=> ?_,fun hh=> ?_⟩
   ·have:=qb hh;simp[this]
   ·have h2:=qc hh;simp only[qe h2];have:p3≠18446744073709551615:=fun e=>h1 (.inr e);rw[wrap_u64 _ qqo qqo,wrap_u64 (p3+1) qqo qqo];exact⟨⟨h.1,h.2.1⟩,rfl,by first|exact rfl|exact qq⟩
 refine⟨fun e=>key _ ?_,fun e=>key _ ?_⟩
 ·have:p3≠(getA p0.wF p1).wU:=by simpa using e
  simp[this]
 ·have:p3=(getA p0.wF p1).wU:=by simpa using e
  rw[this];simp
noncomputable def k97:Con TB.den:= .g (gk 223 [.one (.view 0),.one (zqu)] [.vec yqu] (.one (.one (zqi)))) [yqi,yqi,yqu,.sl yqu] [yqi,.sl yqu] [] fun(p0o p0n p1:Int) (w0:List Int)=>(0<=p0o/\0<=p0n/\p0o.toNat+p0n.toNat<=w0.length/\w0.length<=1000000,(idxI ((w0.drop p0o.toNat).take p0n.toNat) p1:Int),w0,())
theorem kaj:k97.Ok Tryz.prog TB:=prv Bs Tryz.func223 (.r 0 (.nd [] (.r 0 (.lp [] ⟨[],[],[8],[.one (zqi)],[]⟩ .no)) [] .no)) c0 (Q:=∀(p0o p0n p1:Int) (w0:List Int),(0<=p0o/\0<=p0n/\p0o.toNat+p0n.toNat<=w0.length/\w0.length<=1000000)->∀r0:Int,(idxI ((w0.drop p0o.toNat).take p0n.toNat) p1)=r0->∀e0:List Int,w0=e0-> 
 ∃(I1:Int->Prop) (M1:Int->Nat),I1 0/\∀b1,(I1 b1->
(decide (b1<(p0n.toNat:Int))=true->
(0<=b1/\b1<(p0n.toNat:Int))/\(0<=((p0o.toNat:Int)+b1)/\((p0o.toNat:Int)+b1)<(w0.length:Int))/\((p1==(ix w0 ((p0o.toNat:Int)+b1)))=true->
 b1=r0/\w0=e0)/\
((p1==(ix w0 ((p0o.toNat:Int)+b1)))=false->
 I1 (i64.wrap (b1+1))/\M1 (i64.wrap (b1+1))<M1 b1))/\
(decide (b1<(p0n.toNat:Int))=false->
(-1)=r0/\w0=e0)))<|by
 rintro p0o p0n p1 w0 h _ rfl _ rfl;obtain⟨h0,h1,h2,h3⟩:=h;obtain⟨o,rfl⟩:=qn h0;obtain⟨n,rfl⟩:=qn h1;simp only[qr]at h2 ⊢;have hl:((w0.drop o).take n).length=n:=by simp;omega
 refine⟨(fun c=>∃i:Nat,c=(i:Int)/\i<=n/\p1∉((w0.drop o).take n).take i),(fun c=>(n-c).toNat),⟨0,rfl,by omega,by simp⟩,?_⟩;rintro _ ⟨i,rfl,hi,hm⟩;refine⟨fun e=> ?_,fun e=> ?_⟩
 ·have e:i<n:=by have:=qb e;omega
  have hw:o+i<w0.length:=by omega
  have hg:((w0.drop o).take n)[i]' qqo=w0[o+i]:=by simp
  have hx:ix w0 ((o:Int)+(i:Int))=w0[o+i]:=by rw[show(o:Int)+(i:Int)=((o+i:Nat):Int)by omega,ix_get _ _ hw]
  rw[hx];refine⟨by omega,by omega,fun e2=> ?_,fun e2=> ?_⟩
  ·have e2:p1=w0[o+i]:=by simpa using e2
   unfold idxI;rw[qh (by rw[e2,<-hg];exact qak _)]
   have:((w0.drop o).take n).idxOf p1=i:=by
    conv=>lhs;rw[<-qbs i ((w0.drop o).take n)]
    rw[List.idxOf_append,qe hm,qch (show i<((w0.drop o).take n).length by omega),hg,<-e2,List.idxOf_cons_self,qo];omega
   rw[this];exact⟨rfl,trivial⟩
  ·have e2:¬p1=w0[o+i]:=by simpa using e2
   rw[inc_i64 _ qqo];refine⟨⟨i+1,rfl,by omega,?_⟩,by(dsimp only;omega)⟩;rw[qai (show i<((w0.drop o).take n).length by omega),hg];simp only[qal,qav];exact fun hh=>hh.elim hm e2
 ·have e:i=n:=by have:=qc e;omega
  rw[qu qqo]at hm;unfold idxI;rw[qe hm];exact⟨rfl,trivial⟩
noncomputable def k6k:Con TB.den:= .g (gk 162 [.one (.view 0),.one (zqu)] [.vec yqu] (.one (.one (.d (.bool))))) [yqi,yqi,yqu,.sl yqu] [.bool,.sl yqu] [] fun(p0o p0n p1:Int) (w0:List Int)=>(0<=p0o/\0<=p0n/\p0o.toNat+p0n.toNat<=w0.length/\w0.length<=1000000,(decide (p1∈(w0.drop p0o.toNat).take p0n.toNat):Bool),w0,())
theorem k7j:k6k.Ok Tryz.prog TB:=prv Bs Tryz.func162 .no (kaj.c c0) (Q:=∀(p0o p0n p1:Int) (w0:List Int),(0<=p0o/\0<=p0n/\p0o.toNat+p0n.toNat<=w0.length/\w0.length<=1000000)->∀r0:Bool,(decide (p1∈(w0.drop p0o.toNat).take p0n.toNat))=r0->∀e0:List Int,w0=e0-> 
(0<=(p0o.toNat:Int)/\0<=(p0n.toNat:Int)/\(p0o.toNat:Int).toNat+(p0n.toNat:Int).toNat<=w0.length/\w0.length<=1000000)/\let r1:Int:=(idxI ((w0.drop (p0o.toNat:Int).toNat).take (p0n.toNat:Int).toNat) p1)
 decide (0<=r1)=r0/\w0=e0)<|by
 rintro p0o p0n p1 w0 h _ rfl _ rfl;have h' :=h;obtain⟨h0,h1,h2,h3⟩:=h;obtain⟨o,rfl⟩:=qn h0;obtain⟨n,rfl⟩:=qn h1;refine⟨h',?_,rfl⟩;simp only[qr];unfold idxI;by_cases hm:p1∈(w0.drop o).take n
 ·simp[hm]
 ·simp[hm]
noncomputable def k8o:Con TB.den:= .tp 135 [.st 2] [.bool] [] fun(p0:wa)=>((vAmounts p0:Bool),())
theorem k9t:k8o.Ok Tryz.prog TB:=qtv Bs Tryz.func135 .no c0 (Q:=∀(p0:wa),∀r0:Bool,vAmounts p0=r0-> 
(decide (4294967295<p0.wP)=true->
 false=r0)/\
(decide (4294967295<p0.wP)=false->
(decide (4294967295<p0.wT)=true->
 false=r0)/\
(decide (4294967295<p0.wT)=false->
(decide (4294967295<p0.Fee)=true->
 false=r0)/\
(decide (4294967295<p0.Fee)=false->
 let v1:Bool:=decide (18446744069414584321<=p0.wW)
(v1=true->
 false=r0)/\
(v1=false->
(decide (18446744069414584321<=p0.wU)=true->
 false=r0)/\
(decide (18446744069414584321<=p0.wU)=false->
(decide (0<p0.wP)=true->
(p0.wT==0)=r0)/\
(decide (0<p0.wP)=false->
(((p0.wL.length:Int)==0)=true->
 false=r0)/\
(((p0.wL.length:Int)==0)=false->
((p0.wU !=0)=true->
 false=r0)/\
((p0.wU !=0)=false->
(decide (0<p0.wT)=true->
 true=r0)/\
(decide (0<p0.wT)=false->
(p0.wW==0)=r0))))))))))<|by
 rintro p0 _ rfl;refine ?_;unfold vAmounts
 try simp only[]
 repeat' (apply qaa<;>intro h)
 all_goals simp only[qaf,decide_eq_false_iff_not,beq_iff_eq,bne_iff_ne,Bool.not_eq_true,beq_eq_false_iff_ne,bne_eq_false_iff_eq,List.isEmpty_iff,Int.natCast_eq_zero,qcx]at *
 all_goals simp[*]
 all_goals grind
noncomputable def kd8:Con TB.den:= .gp 223 [.sl yqu,yqu] [yqi] [] fun(p0:List Int) (p1:Int)=>(p0.length<=9223372036854775807,(idxI p0 p1:Int),())
theorem kf3:kd8.Ok Tryz.prog TB:=qrv Bs Tryz.func223 (.r 0 (.nd [] (.r 0 (.lp [] ⟨[],[],[8],[.one (zqi)],[]⟩ .no)) [] .no)) c0 (Q:=∀(p0:List Int) (p1:Int),(p0.length<=9223372036854775807)->∀r0:Int,idxI p0 p1=r0-> 
 ∃(I1:Int->Prop) (M1:Int->Nat),I1 0/\∀b1,(I1 b1->
(decide (b1<(p0.length:Int))=true->
(0<=b1)/\b1<(p0.length:Int)/\((p1==(ix p0 b1))=true->
 b1=r0)/\
((p1==(ix p0 b1))=false->
 I1 (i64.wrap (b1+1))/\M1 (i64.wrap (b1+1))<M1 b1))/\
(decide (b1<(p0.length:Int))=false->
(-1)=r0)))<|by
 rintro p0 p1 h _ rfl;refine(⟨(fun i=>0<=i/\i<=p0.length/\p1∉p0.take i.toNat),(fun i=>(p0.length-i).toNat),⟨by omega,by omega,by simp⟩,?_⟩);rintro i ⟨g0,g1,g2⟩;refine⟨fun h=> ?_,fun h=> ?_⟩
 ·have h:=qb h;refine⟨g0,h,fun e=> ?_,fun e=> ?_⟩
  ·have e:p1=ix p0 i:=by simpa using e
   unfold idxI;rw[qh (by rw[e];exact ix_mem p0 i g0 h)]
   have:p0.idxOf p1=i.toNat:=by
    conv=>lhs;rw[<-qbs i.toNat p0]
    rw[List.idxOf_append,qe g2,drop_ix p0 i g0 h,<-e,List.idxOf_cons_self,qo];omega
   rw[this];omega
  ·have e:¬p1=ix p0 i:=by simpa using e
   rw[inc i p0.length g0 h qqo];refine⟨⟨by omega,by omega,?_⟩,by(dsimp only;omega)⟩;rw[kg p0 i g0 h];simp only[qal,qav];exact fun hh=>hh.elim g2 e
 ·have h:=qc h;rw[qu qqo]at g2;unfold idxI;rw[qe g2]
noncomputable def k8x:Con TB.den:= .gp 162 [.sl yqu,yqu] [.bool] [] fun(p0:List Int) (p1:Int)=>(p0.length<=9223372036854775807,(decide (p1∈p0):Bool),())
theorem ka7:k8x.Ok Tryz.prog TB:=qrv Bs Tryz.func162 .no (kf3.c c0) (Q:=∀(p0:List Int) (p1:Int),(p0.length<=9223372036854775807)->∀r0:Bool,(decide (p1∈p0))=r0-> 
(p0.length<=9223372036854775807)/\decide (0<=(idxI p0 p1))=r0)<|by
 rintro p0 p1 h _ rfl;refine⟨h,?_⟩;unfold idxI;by_cases hm:p1∈p0
 ·simp[hm]
 ·simp[hm]
noncomputable def kb9:Con TB.den:= .tp 133 [.sl yqu] [.bool] [] fun(p0:List Int)=>((vMarks p0:Bool),())
theorem kda:kb9.Ok Tryz.prog TB:=qtv Bs Tryz.func133 (.r 1 (.nd [] (.r 0 (.lp [] ⟨[],[],[10],[.one (zqi)],[]⟩ .no)) [] .no)) (ka7.c c0) (Q:=∀(p0:List Int),∀r0:Bool,vMarks p0=r0-> 
(decide (4<(p0.length:Int))=true->
 false=r0)/\
(decide (4<(p0.length:Int))=false->
 ∃(I1:Int->Prop) (M1:Int->Nat),I1 0/\∀b1,(I1 b1->
(decide (b1<(p0.length:Int))=true->
(0<=b1)/\b1<(p0.length:Int)/\let v1:Bool:=decide (18446744069414584321<=(ix p0 b1))
(v1=true->
 false=r0)/\
(v1=false->
(0<=b1)/\b1<=(p0.length:Int)/\((p0.take b1.toNat).length<=9223372036854775807)/\let r2:Bool:=(decide ((ix p0 b1)∈(p0.take b1.toNat)))
(r2=true->
 false=r0)/\
(r2=false->
 I1 (i64.wrap (b1+1))/\M1 (i64.wrap (b1+1))<M1 b1)))/\
(decide (b1<(p0.length:Int))=false->
 true=r0))))<|by
 rintro p0 _ rfl;refine⟨fun h=> ?_,fun h=> ?_⟩
 ·have h:=qb h;unfold vMarks;rw[qbr qqo];rfl
 ·have h:=qc h;refine⟨(fun i=>0<=i/\i<=p0.length/\(∀x∈p0.take i.toNat,x<18446744069414584321)/\(p0.take i.toNat).Nodup),(fun i=>(p0.length-i).toNat),⟨by omega,by omega,by simp,by simp⟩,?_⟩;rintro i ⟨g0,g1,g2,g3⟩;refine⟨fun hh=> ?_,fun hh=> ?_⟩
  ·have hh:=qb hh;have hm:=ix_mem p0 i g0 hh;refine⟨g0,hh,fun e=> ?_,fun e=>⟨g0,by omega,by simp;omega,fun e2=> ?_,fun e2=> ?_⟩⟩
   ·have e:=qb e;unfold vMarks;have:p0.all (fun x=>decide (x<18446744069414584321))=false:=qdm.2 ⟨_,hm,by simp;omega⟩;rw[this];simp
   ·have e2:=qb e2;unfold vMarks;have:¬p0.Nodup:=by intro hn;rw[<-qbs i.toNat p0,drop_ix p0 i g0 hh]at hn;have:=(qck.1 hn).2.2 _ e2 _ (qfb ..);exact this rfl
    rw[qbr this];simp
   ·have e:=qc e;have e2:=qc e2;rw[inc i p0.length g0 hh qqo];refine⟨⟨by omega,by omega,?_,?_⟩,by(dsimp only;omega)⟩
    ·rw[kg p0 i g0 hh];intro x hx;rcases qal.1 hx with hx|hx
     ·exact g2 x hx
     ·have:x=ix p0 i:=by simpa using hx
      omega
    ·rw[kg p0 i g0 hh];refine qck.2 ⟨g3,by simp,fun a ha b hb=> ?_⟩;have:b=ix p0 i:=by simpa using hb
     rintro rfl;exact e2 (this▸ha)
  ·have hh:=qc hh;rw[qu qqo]at g2 g3;unfold vMarks;have:p0.all (fun x=>decide (x<18446744069414584321))=true:=by simpa using g2
   rw[this,qbn g3,qbn qqo];rfl
noncomputable def kdx:Con TB.den:= .tp 185 [.st 12] [.bool] [] fun(p0:wAx)=>((vPoint p0.a0 p0.a1:Bool),())
theorem kfv:kdx.Ok Tryz.prog TB:=qtv Bs Tryz.func185 .no c0 (Q:=∀(p0:wAx),∀r0:Bool,vPoint p0.a0 p0.a1=r0-> 
(decide (p0.a0<18446744069414584321)=true->
(decide (p0.a1<18446744069414584321)=true->
((p0.a0 !=0)=true->
 true=r0)/\
((p0.a0 !=0)=false->
(p0.a1 !=0)=r0))/\
(decide (p0.a1<18446744069414584321)=false->
 false=r0))/\
(decide (p0.a0<18446744069414584321)=false->
 false=r0))<|by rintro p0 _ rfl;refine ?_;unfold vPoint;refine⟨fun h=>⟨fun h1=>⟨fun h2=> ?_,fun h2=> ?_⟩,fun h1=> ?_⟩,fun h=> ?_⟩<;>simp_all<;>omega
noncomputable def kcg:Con TB.den:= .tp 134 [.sl (.st 1)] [.bool] [] fun(p0:List wAA)=>((vOuts p0:Bool),())
theorem kdu:kcg.Ok Tryz.prog TB:=qtv Bs Tryz.func134 (.r 1 (.nd [] (.r 0 (.lp [] ⟨[],[],[12],[.one (zqi)],[]⟩ (.r 1 (.nd [] (.r 2 (.lp [] ⟨[],[],[34],[.one (zqi)],[]⟩ .no)) [] .no)))) [] .no)) (kfv.c c0) (Q:=∀(p0:List wAA),∀r0:Bool,vOuts p0=r0-> 
(decide (4<(p0.length:Int))=true->
 false=r0)/\
(decide (4<(p0.length:Int))=false->
 ∃(I1:Int->Prop) (M1:Int->Nat),I1 0/\∀b1,(I1 b1->
(decide (b1<(p0.length:Int))=true->
(0<=b1)/\b1<(p0.length:Int)/\let v1:Bool:=decide (18446744069414584321<=((ix p0 b1).we))
(v1=true->
 false=r0)/\
(v1=false->
 let r2:Bool:=(vPoint (wAx.mk ((ix p0 b1).wAG) ((ix p0 b1).wAB)).a0 (wAx.mk ((ix p0 b1).wAG) ((ix p0 b1).wAB)).a1)
((!r2)=true->
 false=r0)/\
((!r2)=false->
 let v3:Bool:=((((ix p0 b1).wm).length:Int) !=3)
(v3=true->
 false=r0)/\
(v3=false->
 ∃(I2:Int->Prop) (M2:Int->Nat),I2 0/\∀f1,(I2 f1->
 let v4:Bool:=decide (f1<(((ix p0 b1).wm).length:Int))
(v4=true->
(0<=f1)/\f1<(((ix p0 b1).wm).length:Int)/\let v5:Bool:=decide (18446744069414584321<=(ix ((ix p0 b1).wm) f1))
(v5=true->
 false=r0)/\
(v5=false->
 I2 (i64.wrap (f1+1))/\M2 (i64.wrap (f1+1))<M2 f1))/\
(v4=false->
 I1 (i64.wrap (b1+1))/\M1 (i64.wrap (b1+1))<M1 b1))))))/\
(decide (b1<(p0.length:Int))=false->
 true=r0))))<|by
 rintro p0 _ rfl;refine⟨fun h=> ?_,fun h=> ?_⟩
 ·have h:=qb h;unfold vOuts;rw[qbr qqo];rfl
 ·have h:=qc h;have bad:∀i,0<=i->i<(p0.length:Int)->vOut (ix p0 i)=false->false=vOuts p0:=by intro i h0 h1 hb;unfold vOuts;have:p0.all vOut=false:=qdm.2 ⟨_,ix_mem p0 i h0 h1,by simp[hb]⟩;rw[this];simp
  refine⟨(fun i=>0<=i/\i<=p0.length/\∀x∈p0.take i.toNat,vOut x=true),(fun i=>(p0.length-i).toNat),⟨by omega,by omega,by simp⟩,?_⟩;rintro i ⟨g0,g1,g2⟩;refine⟨fun hh=> ?_,fun hh=> ?_⟩
  ·have hh:=qb hh;have bd:=bad i g0 hh;unfold vOut at bd;refine⟨g0,hh,fun e=>bd ?_,fun e=>⟨fun e2=>bd ?_,fun e2=>⟨fun e3=>bd ?_,fun e3=> ?_⟩⟩⟩
   ·have e:=qb e;rw[qbr qqo];rfl
   ·have e2:vPoint (ix p0 i).wAG (ix p0 i).wAB=false:=by simpa using e2
    simp[e2]
   ·have e3:¬(ix p0 i).wm.length=3:=by
     have:¬((ix p0 i).wm.length:Int)=3:=by simpa using e3
     omega
    simp[e3]
   ·have e:=qc e;have e2:vPoint (ix p0 i).wAG (ix p0 i).wAB=true:=by simpa using e2
    have e3:(ix p0 i).wm.length=3:=by
     have:((ix p0 i).wm.length:Int)=3:=by simpa using e3
     omega
    refine⟨(fun k=>0<=k/\k<=3/\∀x∈(ix p0 i).wm.take k.toNat,x<18446744069414584321),(fun k=>(3-k).toNat),⟨by omega,by omega,by simp⟩,?_⟩;rintro k ⟨k0,k1,k2⟩;refine⟨fun hk=> ?_,fun hk=> ?_⟩
    ·have hk:=qb hk;refine⟨k0,hk,fun e4=>bd ?_,fun e4=> ?_⟩
     ·have e4:=qb e4;have:(ix p0 i).wm.all (fun n=>decide (n<18446744069414584321))=false:=qdm.2 ⟨_,ix_mem _ k k0 hk,by simp;omega⟩;rw[this];simp
     ·have e4:=qc e4;rw[inc k 3 k0 qqo qqo];refine⟨⟨by omega,by omega,?_⟩,by(dsimp only;omega)⟩;rw[kg _ k k0 hk];intro x hx;rcases qal.1 hx with hx|hx
      ·exact k2 x hx
      ·have:x=ix (ix p0 i).wm k:=by simpa using hx
       omega
    ·have hk:=qc hk;rw[qu qqo]at k2;have hv:vOut (ix p0 i)=true:=(kc0 _).2 ⟨by omega,e2,e3,k2⟩;have hi:=inc i p0.length g0 hh qqo;rw[hi]
     have nxt:(0<=i+1/\i+1<=p0.length/\∀x∈p0.take (i+1).toNat,vOut x=true)/\(p0.length-(i+1)).toNat<(p0.length-i).toNat:=by
      refine⟨⟨by omega,by omega,?_⟩,by(first|omega|(dsimp only;omega))⟩;rw[kg p0 i g0 hh];intro x hx;rcases qal.1 hx with hx|hx
      ·exact g2 x hx
      ·have:x=ix p0 i:=by simpa using hx
       rw[this];exact hv
     exact nxt
  ·have hh:=qc hh;rw[qu qqo]at g2;unfold vOuts;have:p0.all vOut=true:=by simpa using g2
   rw[this,qbn qqo];rfl
noncomputable def kk5:Con TB.den:= .tp 91 [.st 2] [yqi] [] fun(p0:wa)=>((validE p0:Int),())
theorem k1k:kk5.Ok Tryz.prog TB:=qtv Bs Tryz.func91 .no (kda.c (kdu.c (k9t.c c0))) (Q:=∀(p0:wa),∀r0:Int,validE p0=r0-> 
((!(vMarks p0.wL))=true->
 1=r0)/\
((!(vMarks p0.wL))=false->
((!(vOuts p0.wE))=true->
 1=r0)/\
((!(vOuts p0.wE))=false->
((!(vAmounts p0))=true->
 1=r0)/\
((!(vAmounts p0))=false->
 let v1:Bool:=decide (18446744069414584321<=p0.wg)
(v1=true->
 1=r0)/\
(v1=false->
(decide (p0.wAE<0)=true->
 1=r0)/\
(decide (p0.wAE<0)=false->
(decide (1048576<p0.wAE)=true->
 1=r0)/\
(decide (1048576<p0.wAE)=false->
 let v2:Bool:=decide (1048576<(p0.ww.length:Int))
(v2=true->
 3=r0)/\
(v2=false->
 0=r0))))))))<|by rintro p0 _ rfl;refine ?_;unfold validE vRest;grind
noncomputable def kdj:Con TB.den:= .g (gk 110 [.one (.ptr 0 0),.agg yX] yI (.one (.one (zqi)))) [.st 2,yqi,yqi,yqi,yqi,yqi,yqu,yqi,yqi,yqu,yqi,yqi,.sl yqu,.sl (.st 9),yqu,.sl yqu,.sl yqu,.sl (.st 10),.sl yqu,.sl (.bool)] yL [] fun(p1:wa) (Aa Ab Ad Af Aj Ak Ag Al Ah Ai Am:Int) (Ac:List Int) (Ae:List wA) (Ao:Int) (w1 w3:List Int) (w4:List wG) (w5k:List Int) (w5v:List Bool)=>((∃(c:Nat) (f:Int),c<=800/\PI (PS.mk (wB.mk Aa Ab Ad Af Aj Ak Ag Al Ah) (wD.mk Ai Am Ac) Ae Ao w1 w3 w4 w5k w5v) c f)/\TR p1,(chkS (PS.mk (wB.mk Aa Ab Ad Af Aj Ak Ag Al Ah) (wD.mk Ai Am Ac) Ae Ao w1 w3 w4 w5k w5v) p1:Int),Aa,Ab,Ad,Af,Aj,Ak,Ag,Al,Ah,Ai,Am,Ac,Ae,Ao,w1,w3,w4,w5k,w5v,())
theorem kfw:kdj.Ok Tryz.prog TB:=prv Bs Tryz.func110 (.r 3 (.nd [] (.r 0 (.lp [] ⟨[5,2],[.map yqu (.bool),.cells [.mp 0]],[33],[.one (zqi)],[]⟩ .no)) [] (.jn ⟨[],[],[],[],[]⟩ [] .no [] .no))) (k1k.c (k4w.c (k7j.c (klt.c (k5p.c c0))))) (Q:=∀(p1:wa) (Aa Ab Ad Af Aj Ak Ag Al Ah Ai Am:Int) (Ac:List Int) (Ae:List wA) (Ao:Int) (w1 w3:List Int) (w4:List wG) (w5k:List Int) (w5v:List Bool),((∃(c:Nat) (f:Int),c<=800/\PI (PS.mk (wB.mk Aa Ab Ad Af Aj Ak Ag Al Ah) (wD.mk Ai Am Ac) Ae Ao w1 w3 w4 w5k w5v) c f)/\TR p1)->∀r0:Int,(chkS (PS.mk (wB.mk Aa Ab Ad Af Aj Ak Ag Al Ah) (wD.mk Ai Am Ac) Ae Ao w1 w3 w4 w5k w5v) p1)=r0->∀At:Int,Aa=At->∀Aq:Int,Ab=Aq->∀As:Int,Ad=As->∀Au:Int,Af=Au->∀Bl:Int,Aj=Bl->∀Bm:Int,Ak=Bm->∀Bn:Int,Ag=Bn->∀Bo:Int,Al=Bo->∀Bp:Int,Ah=Bp->∀Bq:Int,Ai=Bq->∀Br:Int,Am=Br->∀A9:List Int,Ac=A9->∀Ba:List wA,Ae=Ba->∀Bt:Int,Ao=Bt->∀e1:List Int,w1=e1->∀e3:List Int,w3=e3->∀e4:List wG,w4=e4->∀e5k:List Int,w5k=e5k->∀e5v:List Bool,w5v=e5v-> 
(((validE p1) !=0)=true->
 lz w4/\lz w3/\lz w1/\(validE p1)=r0/\Aa=At/\Ab=Aq/\Ad=As/\Af=Au/\Aj=Bl/\Ak=Bm/\Ag=Bn/\Al=Bo/\Ah=Bp/\Ai=Bq/\Am=Br/\Ac=A9/\Ae=Ba/\Ao=Bt/\w1=e1/\w3=e3/\w4=e4/\w5k=e5k/\w5v=e5v)/\
(((validE p1) !=0)=false->
 let v1:Bool:=decide (p1.wAE<(i64.wrap ((w4.length:Int)+1)))
(v1=true->
 lz w4/\lz w3/\lz w1/\14=r0/\Aa=At/\Ab=Aq/\Ad=As/\Af=Au/\Aj=Bl/\Ak=Bm/\Ag=Bn/\Al=Bo/\Ah=Bp/\Ai=Bq/\Am=Br/\Ac=A9/\Ae=Ba/\Ao=Bt/\w1=e1/\w3=e3/\w4=e4/\w5k=e5k/\w5v=e5v)/\
(v1=false->
 lz w4/\lz w3/\lz w1/\((1<=Ag/\Ag<=100)/\w3.length<=1000000)/\let r2:Int:=((w3.length-(w3.length-Ag.toNat):Nat):Int)
(0<=((((w3.length-Ag.toNat:Nat):Int).toNat:Nat):Int)/\0<=(r2.toNat:Int)/\((((w3.length-Ag.toNat:Nat):Int).toNat:Nat):Int).toNat+(r2.toNat:Int).toNat<=w3.length/\w3.length<=1000000)/\let r3:Bool:=(decide (p1.wg∈(w3.drop ((((w3.length-Ag.toNat:Nat):Int).toNat:Nat):Int).toNat).take (r2.toNat:Int).toNat))
((!r3)=true->
 lz w4/\lz w3/\lz w1/\11=r0/\Aa=At/\Ab=Aq/\Ad=As/\Af=Au/\Aj=Bl/\Ak=Bm/\Ag=Bn/\Al=Bo/\Ah=Bp/\Ai=Bq/\Am=Br/\Ac=A9/\Ae=Ba/\Ao=Bt/\w1=e1/\w3=e3/\w4=e4/\w5k=e5k/\w5v=e5v)/\
((!r3)=false->
 ∃(I1:Int->(List Int)->(List Bool)->Prop) (M1:Int->(List Int)->(List Bool)->Nat),I1 0 w5k w5v/\∀b1 f1 i1,(I1 b1 f1 i1->
(decide (b1<(p1.wL.length:Int))=true->
(0<=b1)/\b1<(p1.wL.length:Int)/\(i1=trs f1)/\((decide ((ix p1.wL b1)∈f1))=true->
 lz w4/\lz w3/\lz w1/\12=r0/\Aa=At/\Ab=Aq/\Ad=As/\Af=Au/\Aj=Bl/\Ak=Bm/\Ag=Bn/\Al=Bo/\Ah=Bp/\Ai=Bq/\Am=Br/\Ac=A9/\Ae=Ba/\Ao=Bt/\w1=e1/\w3=e3/\w4=e4/\f1=e5k/\i1=e5v)/\
((decide ((ix p1.wL b1)∈f1))=false->
 I1 (i64.wrap (b1+1)) f1 i1/\M1 (i64.wrap (b1+1)) f1 i1<M1 b1 f1 i1))/\
(decide (b1<(p1.wL.length:Int))=false->
 ∀J1:Prop,((let v5:Bool:=decide ((u64.wrap (Ao+p1.wP))<(u64.wrap (p1.wT+p1.Fee)))
(v5=true->
 lz w4/\lz w3/\lz w1/\13=r0/\Aa=At/\Ab=Aq/\Ad=As/\Af=Au/\Aj=Bl/\Ak=Bm/\Ag=Bn/\Al=Bo/\Ah=Bp/\Ai=Bq/\Am=Br/\Ac=A9/\Ae=Ba/\Ao=Bt/\w1=e1/\w3=e3/\w4=e4/\f1=e5k/\i1=e5v)/\
(v5=false->
 let v6:Int:=i64.wrap ((w1.length:Int)+(p1.wE.length:Int))
(0<=Ab)/\(decide ((ishl .i64 1 Ab)<v6)=true->
 lz w4/\lz w3/\lz w1/\16=r0/\Aa=At/\Ab=Aq/\Ad=As/\Af=Au/\Aj=Bl/\Ak=Bm/\Ag=Bn/\Al=Bo/\Ah=Bp/\Ai=Bq/\Am=Br/\Ac=A9/\Ae=Ba/\Ao=Bt/\w1=e1/\w3=e3/\w4=e4/\f1=e5k/\i1=e5v)/\
(decide ((ishl .i64 1 Ab)<v6)=false->
 lz w4/\lz w3/\lz w1/\0=r0/\Aa=At/\Ab=Aq/\Ad=As/\Af=Au/\Aj=Bl/\Ak=Bm/\Ag=Bn/\Al=Bo/\Ah=Bp/\Ai=Bq/\Am=Br/\Ac=A9/\Ae=Ba/\Ao=Bt/\w1=e1/\w3=e3/\w4=e4/\f1=e5k/\i1=e5v)))->J1)->
(decide (0<p1.wP)=true->
(OkA (wl.mk Ae).wF/\U64 p1.wP/\U64 p1.wU)/\let r4:=debitA (wl.mk Ae).wF p1.wW p1.wP p1.wU
((r4.2 !=0)=true->
 lz w4/\lz w3/\lz w1/\r4.2=r0/\Aa=At/\Ab=Aq/\Ad=As/\Af=Au/\Aj=Bl/\Ak=Bm/\Ag=Bn/\Al=Bo/\Ah=Bp/\Ai=Bq/\Am=Br/\Ac=A9/\Ae=Ba/\Ao=Bt/\w1=e1/\w3=e3/\w4=e4/\f1=e5k/\i1=e5v)/\
((r4.2 !=0)=false->
 J1))/\
(decide (0<p1.wP)=false->
 J1)))))))<|by
 rintro p1 Aa Ab Ad Af Aj Ak Ag Al Ah Ai Am Ac Ae Ao w1 w3 w4 w5k w5v h _ rfl _ rfl _ rfl _ rfl _ rfl _ rfl _ rfl _ rfl _ rfl _ rfl _ rfl _ rfl _ rfl _ rfl _ rfl _ rfl _ rfl _ rfl _ rfl _ rfl;obtain⟨⟨c,f,hc,hp⟩,ht⟩:=h;have hb:OkA Ae:=hp.b.1;have hv:w5v=trs w5k:=hp.v;have h1:1<=Ag:=hp.w1;have h2:Ag<=100:=hp.w2;have hd1:1<=Ab:=hp.d1;have hd2:Ab<=12:=hp.d2;have hrl:w3.length=w4.length+1:=hp.rl;have hpl:w4.length<=c:=hp.p;have hll:w1.length<=2^Ab.toNat:=hp.ll;have hp12:=pow12 Ab.toNat qqo;generalize hR0:chkS (PS.mk (wB.mk Aa Ab Ad Af Aj Ak Ag Al Ah) (wD.mk Ai Am Ac) Ae Ao w1 w3 w4 w5k w5v) p1=R;have hR:chk (w4.length:Int) (ancL w3 Ag) w5k Ae Ao w1.length Ab p1=R:=hR0;clear hR0;unfold chk at hR;refine⟨fun e=> ?_,fun e=> ?_⟩
 ·have e:validE p1≠0:=by simpa using e
  rw[qh e]at hR;subst hR;exact(by repeat' first|apply qaa|exact rfl|exact qq)
 have e:validE p1=0:=by simpa using e
 have vt:=(k15 p1).1 e;have hol:=vt.ol;have hml:=vt.ml;rw[qe (by rw[e];decide)]at hR;have ei:i64.wrap ((w4.length:Int)+1)=(w4.length:Int)+1:=kp _ qqo qqo;rw[ei];refine⟨fun e2=> ?_,fun e2=>⟨rfl,rfl,rfl,⟨⟨h1,h2⟩,by omega⟩,?_⟩⟩
 ·rw[qh (qb e2)]at hR;subst hR;exact(by repeat' first|apply qaa|exact rfl|exact qq)
 rw[qe (qc e2)]at hR;have eA:(w3.drop (w3.length-Ag.toNat)).take (w3.length-(w3.length-Ag.toNat))=ancL w3 Ag:=by unfold ancL;exact qu (by rw[qan];omega)
 simp only[qr,eA];refine⟨⟨by omega,by omega,by omega,by omega⟩,fun e3=> ?_,fun e3=> ?_⟩
 ·have e3:p1.wg∉ancL w3 Ag:=by simpa using e3
  rw[qh e3]at hR;subst hR;exact(by repeat' first|apply qaa|exact rfl|exact qq)
 have e3:¬p1.wg∉ancL w3 Ag:=by simpa using e3
 rw[qe e3]at hR;refine⟨fun a k v=>(w5k=k/\w5v=v)/\∃i:Nat,a=(i:Int)/\i<=p1.wL.length/\((p1.wL.take i).any fun m=>decide (m∈w5k))=false,fun a _ _=>(p1.wL.length-a).toNat,⟨⟨rfl,rfl⟩,0,rfl,by omega,rfl⟩,?_⟩;rintro _ _ _ ⟨⟨rfl,rfl⟩,i,rfl,hi,hm⟩;refine⟨fun e4=> ?_,fun e4 J1 j=> ?_⟩
 ·have e4:i<p1.wL.length:=by have:=qb e4;omega
  rw[ix_get _ _ e4,inc_i64 _ qqo];refine⟨by omega,by omega,hv,fun e5=> ?_,fun e5=>⟨⟨⟨rfl,rfl⟩,i+1,rfl,by omega,?_⟩,by(dsimp only;omega)⟩⟩
  ·rw[qh (List.any_eq_true.2 ⟨_,qak e4,e5⟩)]at hR;subst hR;exact(by repeat' first|apply qaa|exact rfl|exact qq)
  ·rw[qai e4,List.any_append,hm,List.any_cons,e5];rfl
 ·have e4:i=p1.wL.length:=by have:=qc e4;omega
  subst e4;rw[qcn]at hm
  have j1:(p1.wL.any fun m=>decide (m∈w5k))=false->¬(0<p1.wP/\(debitA Ae p1.wW p1.wP p1.wU).2≠0)->J1:=by
   intro g1 g2;rw[qe (by rw[g1];decide),qe g2]at hR;refine j ⟨fun e4=> ?_,fun e4=>⟨by omega,?_⟩⟩
   ·rw[qh (qb e4)]at hR;subst hR;exact(by repeat' first|apply qaa|exact rfl|exact qq)
   ·rw[qe (qc e4)]at hR;obtain⟨d,hd⟩:=qn (show 0<=Ab by omega);have hdn:Ab.toNat=d:=by omega
    rw[hdn]at hR hp12 hll;rw[kp _ qqo qqo,show ishl .i64 1 Ab=((2^d:Nat):Int)by rw[hd];exact shl1 d qqo];refine⟨fun e5=> ?_,fun e5=> ?_⟩
    ·rw[qh (by have:=qb e5;omega)]at hR;subst hR;exact(by repeat' first|apply qaa|exact rfl|exact qq)
    ·rw[qe (by have:=qc e5;omega)]at hR;subst hR;exact(by repeat' first|apply qaa|exact rfl|exact qq)
  refine⟨fun e5=>⟨⟨hb,ht.d,ht.n⟩,fun e6=> ?_,fun e6=>j1 hm ?_⟩,fun e5=>j1 hm ?_⟩
  ·have e5:=qb e5;have e6:(debitA Ae p1.wW p1.wP p1.wU).2≠0:=by simpa using e6
   rw[qe (by rw[hm];decide),qh ⟨e5,e6⟩]at hR;subst hR;exact(by repeat' first|apply qaa|exact rfl|exact qq)
  ·have e6:(debitA Ae p1.wW p1.wP p1.wU).2=0:=by simpa using e6
   exact fun hh=>hh.2 e6
  ·have e5:=qc e5;exact fun hh=>e5 hh.1
noncomputable def kiw:Con TB.den:= .g (gk 170 [.one (.ptr 0 0),.one (zql),.one (.d (.bool))] yD1 (.one (.one (.d (.bool))))) [.sl yqu,.bool,.sl yqu,.sl (.bool)] [.bool,.sl yqu,.sl (.bool)] [] fun(p1:List Int) (p2:Bool) (w1k:List Int) (w1v:List Bool)=>(w1v=trs w1k/\p1.length<=1000000,(p1.any (fun m=>decide (m∈w1k)==p2):Bool),w1k,w1v,())
theorem kbk:kiw.Ok Tryz.prog TB:=prv Bs Tryz.func170 (.r 0 (.nd [] (.r 0 (.lp [] ⟨[],[],[11],[.one (zqi)],[]⟩ .no)) [] .no)) c0 (Q:=∀(p1:List Int) (p2:Bool) (w1k:List Int) (w1v:List Bool),(w1v=trs w1k/\p1.length<=1000000)->∀r0:Bool,(p1.any (fun m=>decide (m∈w1k)==p2))=r0->∀e1k:List Int,w1k=e1k->∀e1v:List Bool,w1v=e1v-> 
 ∃(I1:Int->Prop) (M1:Int->Nat),I1 0/\∀b1,(I1 b1->
(decide (b1<(p1.length:Int))=true->
(0<=b1)/\b1<(p1.length:Int)/\w1k.length=w1v.length/\let v1:Bool:=mVal (BEq.beq (ix p1 b1)) w1k w1v false
((v1==p2)=true->
 true=r0/\w1k=e1k/\w1v=e1v)/\
((v1==p2)=false->
 I1 (i64.wrap (b1+1))/\M1 (i64.wrap (b1+1))<M1 b1))/\
(decide (b1<(p1.length:Int))=false->
 false=r0/\w1k=e1k/\w1v=e1v)))<|by
 rintro p1 p2 w1k w1v h _ rfl _ rfl _ rfl;obtain⟨h,hl⟩:=h;subst h;refine(⟨(fun a=>∃i:Nat,a=(i:Int)/\i<=p1.length/\(p1.drop i).any (fun m=>decide (m∈w1k)==p2)=p1.any (fun m=>decide (m∈w1k)==p2)),(fun a=>(p1.length-a).toNat),⟨0,rfl,by omega,rfl⟩,?_⟩);rintro _ ⟨i,rfl,hi,he⟩;refine⟨fun e=> ?_,fun e=> ?_⟩
 ·have e:i<p1.length:=by have:=qb e;omega
  rw[ix_get _ _ e,sVal,inc_i64 _ qqo];rw[qch e,List.any_cons]at he;refine⟨by omega,by omega,by simp[trs],fun e2=> ?_,fun e2=> ?_⟩
  ·rw[e2,Bool.true_or]at he;rw[<-he];exact⟨rfl,rfl,rfl⟩
  ·rw[e2,qfh]at he;exact⟨⟨i+1,rfl,by omega,he⟩,by(dsimp only;omega)⟩
 ·have e:i=p1.length:=by have:=qc e;omega
  subst e;rw[List.drop_length]at he;rw[<-he];exact⟨rfl,rfl,rfl⟩
noncomputable def k7b:Con TB.den:= .gp 171 [.sl yqu] [.bool] [] fun(p0:List Int)=>(p0.length<=1000000,(!decide p0.Nodup:Bool),())
theorem k3b:k7b.Ok Tryz.prog TB:=qrv Bs Tryz.func171 (.r 1 (.nd [] (.r 0 (.lp [] ⟨[0],yJ1,[9],[.one (zqi)],[]⟩ .no)) [] .no)) c0 (Q:=∀(p0:List Int),(p0.length<=1000000)->∀r0:Bool,(!decide p0.Nodup)=r0-> 
 ∃(I1:Int->(List Int)->(List Bool)->Prop) (M1:Int->(List Int)->(List Bool)->Nat),I1 0 ([]:List Int) ([]:List Bool)/\∀b1 f1 i1,(I1 b1 f1 i1->
(decide (b1<(p0.length:Int))=true->
(0<=b1)/\b1<(p0.length:Int)/\f1.length=i1.length/\let v1:Bool:=mVal (BEq.beq (ix p0 b1)) f1 i1 false
(v1=true->
 true=r0)/\
(v1=false->
 f1.length=i1.length/\let v2:List Int:=mPutK (BEq.beq (ix p0 b1)) f1 (ix p0 b1)
 let v3:List Bool:=mPutV (BEq.beq (ix p0 b1)) f1 i1 true
 I1 (i64.wrap (b1+1)) v2 v3/\M1 (i64.wrap (b1+1)) v2 v3<M1 b1 f1 i1))/\
(decide (b1<(p0.length:Int))=false->
 false=r0)))<|by
 rintro p0 h _ rfl;refine(⟨(fun a k v=>∃i:Nat,a=(i:Int)/\i<=p0.length/\k=p0.take i/\v=trs k/\k.Nodup),(fun a _ _=>(p0.length-a).toNat),⟨0,rfl,by omega,rfl,rfl,qfq⟩,?_⟩);rintro _ _ _ ⟨i,rfl,hi,rfl,rfl,hn⟩;refine⟨fun e=> ?_,fun e=> ?_⟩
 ·have e:i<p0.length:=by have:=qb e;omega
  rw[ix_get _ _ e,sVal,inc_i64 _ qqo];refine⟨by omega,by omega,by simp[trs],fun e2=> ?_,fun e2=>⟨by simp[trs],?_⟩⟩
  ·have e2:=qb e2;have:¬p0.Nodup:=fun hh=>by rw[<-qbs i p0,qch e,qck]at hh;exact hh.2.2 _ e2 p0[i] qfb rfl
   simp[this]
  ·have e2:=qc e2;obtain⟨q1,q2⟩:=sPut e2;rw[q1,q2,<-qai];refine⟨⟨i+1,rfl,by omega,rfl,rfl,?_⟩,by(dsimp only;omega)⟩;rw[qai e,qck];exact⟨hn,by simp,fun a ha b hb=>by rw[qav.1 hb];rintro rfl;exact e2 ha⟩
 ·have e:i=p0.length:=by have:=qc e;omega
  subst e;rw[qcn]at hn;simp[hn]
noncomputable def kl4:Con TB.den:= .g (gk 165 [.one (.ptr 0 0),.one (zql)] yD1 (.one (.one (zqi)))) [.sl yqu,.sl yqu,.sl (.bool)] [yqi,.sl yqu,.sl (.bool)] [] fun(p1 w1k:List Int) (w1v:List Bool)=>(w1v=trs w1k/\p1.length<=1000000,((addS p1 w1k).1:Int),((addS p1 w1k).2:List Int),(trs (addS p1 w1k).2:List Bool),())
theorem kmc:kl4.Ok Tryz.prog TB:=prv Bs Tryz.func165 (.r 2 (.nd [] (.r 0 (.lp [] ⟨[1],yJ1,[25],[.one (zqi)],[]⟩ .no)) [] .no)) (kbk.c (k3b.c c0)) (Q:=∀(p1 w1k:List Int) (w1v:List Bool),(w1v=trs w1k/\p1.length<=1000000)->∀r0:Int,((addS p1 w1k).1)=r0->∀e1k:List Int,((addS p1 w1k).2)=e1k->∀e1v:List Bool,(trs (addS p1 w1k).2)=e1v-> 
(w1v=trs w1k/\p1.length<=1000000)/\let r1:Bool:=(p1.any (fun m=>decide (m∈w1k)==true))
(r1=true->
 12=r0/\w1k=e1k/\w1v=e1v)/\
(r1=false->
(p1.length<=1000000)/\((!decide p1.Nodup)=true->
 12=r0/\w1k=e1k/\w1v=e1v)/\
((!decide p1.Nodup)=false->
 ∃(I1:Int->(List Int)->(List Bool)->Prop) (M1:Int->(List Int)->(List Bool)->Nat),I1 0 w1k w1v/\∀b1 f1 i1,(I1 b1 f1 i1->
(decide (b1<(p1.length:Int))=true->
(0<=b1)/\b1<(p1.length:Int)/\f1.length=i1.length/\let v2:List Int:=mPutK (BEq.beq (ix p1 b1)) f1 (ix p1 b1)
 let v3:List Bool:=mPutV (BEq.beq (ix p1 b1)) f1 i1 true
 I1 (i64.wrap (b1+1)) v2 v3/\M1 (i64.wrap (b1+1)) v2 v3<M1 b1 f1 i1)/\
(decide (b1<(p1.length:Int))=false->
 0=r0/\f1=e1k/\i1=e1v)))))<|by
 rintro p1 w1k w1v h _ rfl _ rfl _ rfl;obtain⟨h,hl⟩:=h;subst h;have ea:(p1.any fun m=>decide (m∈w1k)==true)=p1.any fun m=>decide (m∈w1k):=by congr 1;funext m;simp
 refine⟨⟨rfl,hl⟩,?_⟩;rw[ea];refine⟨fun e=> ?_,fun e=>⟨hl,fun e2=> ?_,fun e2=> ?_⟩⟩
 ·have:addS p1 w1k=(12,w1k):=by unfold addS;rw[e];rfl
  rw[this];exact⟨rfl,rfl,rfl⟩
 ·have:addS p1 w1k=(12,w1k):=by unfold addS;rw[e,e2];rfl
  rw[this];exact⟨rfl,rfl,rfl⟩
 ·have hA:addS p1 w1k=(0,w1k++p1):=by unfold addS;rw[e,e2];rfl
  have hn:p1.Nodup:=by simpa using e2
  rw[hA];refine⟨(fun a k v=>∃i:Nat,a=(i:Int)/\i<=p1.length/\k=w1k++p1.take i/\v=trs k),(fun a _ _=>(p1.length-a).toNat),⟨0,rfl,by omega,by simp,by simp⟩,?_⟩;rintro _ _ _ ⟨i,rfl,hi,rfl,rfl⟩;refine⟨fun e3=> ?_,fun e3=> ?_⟩
  ·have e3:i<p1.length:=by have:=qb e3;omega
   rw[ix_get _ _ e3,inc_i64 _ qqo]
   have hm:p1[i]∉w1k++p1.take i:=by
    intro hm;rcases qal.1 hm with hm|hm
    ·have:=List.any_eq_false.1 e p1[i] (qak e3);simp[hm]at this
    ·rw[<-qbs i p1,qch e3,qck]at hn;exact hn.2.2 _ hm p1[i] qfb rfl
   obtain⟨q1,q2⟩:=sPut hm;rw[q1,q2];refine⟨by omega,by omega,by simp[trs],⟨i+1,rfl,by omega,?_,rfl⟩,by(dsimp only;omega)⟩;rw[qai e3,qx]
  ·have e3:i=p1.length:=by have:=qc e3;omega
   subst e3;rw[qcn];exact⟨rfl,rfl,rfl⟩
noncomputable def kaa:Con TB.den:= .gp 107 [.st 6] [.bool] [] fun(p0:wD)=>(FV p0,true,())
theorem k48:kaa.Ok Tryz.prog TB:=qrv Bs Tryz.func107 (.r 2 (.nd [] (.r 0 (.lp [] ⟨[],[],[36],[.one (zqi)],[]⟩ .no)) [] .no)) c0 (Q:=∀(p0:wD),(FV p0)->∀r0:Bool,(true:Bool)=r0-> 
(decide (p0.wC<1)=true->
 false=r0)/\
(decide (p0.wC<1)=false->
(decide (12<p0.wC)=true->
 false=r0)/\
(decide (12<p0.wC)=false->
(decide (p0.wZ<0)=true->
 false=r0)/\
(decide (p0.wZ<0)=false->
(0<=p0.wC)/\let v1:Bool:=decide ((ishl .i64 1 p0.wC)<p0.wZ)
(v1=true->
 false=r0)/\
(v1=false->
 let v2:Bool:=((p0.wc.length:Int) !=(i64.wrap (p0.wC+1)))
(v2=true->
 false=r0)/\
(v2=false->
 ∃(I1:Int->Prop) (M1:Int->Nat),I1 0/\∀b1,(I1 b1->
(decide (b1<(p0.wc.length:Int))=true->
(0<=b1)/\b1<(p0.wc.length:Int)/\let v3:Bool:=decide (18446744069414584321<=(ix p0.wc b1))
(v3=true->
 false=r0)/\
(v3=false->
(((ix p0.wc b1) !=0)=true->
(0<=b1)/\let v4:Bool:=((iand .i64 (ishr .i64 p0.wZ b1) 1)==0)
(v4=true->
 false=r0)/\
(v4=false->
 I1 (i64.wrap (b1+1))/\M1 (i64.wrap (b1+1))<M1 b1))/\
(((ix p0.wc b1) !=0)=false->
 I1 (i64.wrap (b1+1))/\M1 (i64.wrap (b1+1))<M1 b1)))/\
(decide (b1<(p0.wc.length:Int))=false->
 true=r0))))))))<|by
 rintro p0 h _ rfl;obtain⟨d1,d2,c0,c1,ll,u,z⟩:=h;obtain⟨d,hd⟩:=qn (show 0<=p0.wC by omega);obtain⟨n,hn⟩:=qn c0;rw[hd,qr]at c1 ll;rw[hn,qr]at z;have hp:=pow12 d qqo;refine⟨fun e=>(by have:=qb e;omega),fun _=>⟨fun e=>(by have:=qb e;omega),fun _=>⟨fun e=>(by have:=qb e;omega),fun _=>⟨by omega,?_⟩⟩⟩⟩;rw[hd,hn,shl1 d qqo,kp _ qqo qqo];refine⟨fun e=>(by have:=qb e;omega),fun _=>⟨fun e=> ?_,fun _=> ?_⟩⟩
 ·have e:¬(p0.wc.length:Int)=(d:Int)+1:=by simpa using e
  omega
 refine⟨(fun a=>∃i:Nat,a=(i:Int)/\i<=p0.wc.length),(fun a=>(p0.wc.length-a).toNat),⟨0,rfl,by omega⟩,?_⟩;rintro _ ⟨i,rfl,hi⟩;refine⟨fun hh=> ?_,fun _=>rfl⟩;have hh:i<p0.wc.length:=by have:=qb hh;omega
 have hx:=u _ (qak hh);rw[ix_get _ _ hh,inc_i64 _ qqo,bit1 n i qqo qqo];have next:(∃j:Nat,((i+1:Nat):Int)=(j:Int)/\j<=p0.wc.length)/\((p0.wc.length:Int)-((i+1:Nat):Int)).toNat<((p0.wc.length:Int)-(i:Int)).toNat:=⟨⟨i+1,rfl,by omega⟩,by omega⟩
 refine⟨by omega,by omega,fun e=>(by have:=qb e;omega),fun _=>⟨fun e=>⟨by omega,fun e2=> ?_,fun _=>next⟩,fun _=>next⟩⟩;have e:p0.wc[i]≠0:=by simpa using e
 have e2:((n/2^i%2:Nat):Int)=0:=by simpa using e2
 refine(e (z i hh ?_)).elim;unfold bitN;generalize n/2^i%2=q at *
 have:q=0:=by omega
 rw[this];rfl
noncomputable def kf1:Con TB.den:= .gp 221 [.st 7] [.bool] [] fun(p0:wo)=>(p0.P=18446744069414584321,true,())
theorem k1e:kf1.Ok Tryz.prog TB:=qrv Bs Tryz.func221 .no c0 (Q:=∀(p0:wo),(p0.P=18446744069414584321)->∀r0:Bool,(true:Bool)=r0-> 
((p0.P==18446744069414584321)=true->
((p0.P==18446744069414584321)=true->
 true=r0)/\
((p0.P==18446744069414584321)=false->
 false=r0))/\
((p0.P==18446744069414584321)=false->
((p0.P==17)=true->
((p0.P==17)=true->
 true=r0)/\
((p0.P==17)=false->
 false=r0))/\
((p0.P==17)=false->
((p0.P==97)=true->
((p0.P==97)=true->
 true=r0)/\
((p0.P==97)=false->
 false=r0))/\
((p0.P==97)=false->
((p0.P==193)=true->
((p0.P==193)=true->
 true=r0)/\
((p0.P==193)=false->
 false=r0))/\
((p0.P==193)=false->
((p0.P==257)=true->
((p0.P==257)=true->
 true=r0)/\
((p0.P==257)=false->
 false=r0))/\
((p0.P==257)=false->
((p0.P==12289)=true->
((p0.P==12289)=true->
 true=r0)/\
((p0.P==12289)=false->
 false=r0))/\
((p0.P==12289)=false->
((p0.P==65537)=true->
 true=r0)/\
((p0.P==65537)=false->
 false=r0))))))))<|by rintro p0 h _ rfl;refine ?_;simp[h]
noncomputable def khf:Con TB.den:= .gp 377 [.st 7,yqu,yqu] [yqu] [] fun(p0:wo) (p1 p2:Int)=>(p0.P=18446744069414584321/\(0<=p1/\p1<18446744069414584321)/\(0<=p2/\p2<18446744069414584321),((p1+p2)%18446744069414584321:Int),())
theorem kj3:khf.Ok Tryz.prog TB:=qrx Bs [] Tryz.func377 (.r 1 (.nd [] (.jn ⟨[],[],[22],[.one (.d (.bool))],[]⟩ [] .no [] .no) [] .no)) (x1 x81_ok x0) c0 (Q:=∀(p0:wo) (p1 p2:Int),(p0.P=18446744069414584321/\(0<=p1/\p1<18446744069414584321)/\(0<=p2/\p2<18446744069414584321))->∀r0:Int,((p1+p2)%18446744069414584321)=r0-> 
(0<=p1/\0<=p2/\0<=(0:Int)/\(0:Int)<=1)/\let r1:Int:=(p1+p2+(0:Int))%18446744073709551616
 let r2:Int:=(p1+p2+(0:Int))/18446744073709551616
 ∀J1:Bool->Prop,(∀(b1:Bool),
((b1=true->
 u64.wrap (r1-p0.P)=r0)/\
(b1=false->
 r1=r0))->J1 b1)->
((r2 !=0)=true->
 J1 true)/\
((r2 !=0)=false->
 J1 (decide (p0.P<=r1))))<|by
 rintro p0 p1 p2 h _ rfl;obtain⟨hP,h1,h2⟩:=h;refine⟨by omega,fun J1 j=>⟨fun h=>j _ ⟨fun _=> ?_,fun h=>by simp at h⟩,fun h=>j _ ⟨fun g=> ?_,fun g=> ?_⟩⟩⟩
 ·have h:(p1+p2+0)/18446744073709551616≠0:=by simpa using h
  rw[hP,u64w];omega
 ·have h:(p1+p2+0)/18446744073709551616=0:=by simpa using h
  have g:=qb g;rw[hP]at g ⊢;rw[u64w];omega
 ·have h:(p1+p2+0)/18446744073709551616=0:=by simpa using h
  have g:=qc g;rw[hP]at g;omega
noncomputable def kaz:Con TB.den:= .gp 378 [.st 7,yqu] [yqu] [] fun(p0:wo) (p1:Int)=>(0<p0.P/\0<=p1,(p1%p0.P:Int),())
theorem k1u:kaz.Ok Tryz.prog TB:=qrv Bs Tryz.func378 .no c0 (Q:=∀(p0:wo) (p1:Int),(0<p0.P/\0<=p1)->∀r0:Int,(p1%p0.P)=r0-> 
(decide (p0.P<=p1)=true->
(p0.P≠0)/\Int.tmod p1 p0.P=r0)/\
(decide (p0.P<=p1)=false->
 p1=r0))<|by rintro p0 p1 h _ rfl;refine⟨fun h1=>⟨by omega,tmod_nn _ _ h.2⟩,fun h1=> ?_⟩;simp at h1;rw[qdy qqo qqo]
noncomputable def khx:Con TB.den:= .gp 297 [.st 7,yqu,yqu] [yqu] [] fun(p0:wo) (p1 p2:Int)=>(p0.P=18446744069414584321/\U64 p1/\U64 p2,((p1+p2)%18446744069414584321:Int),())
theorem k59:khx.Ok Tryz.prog TB:=qrv Bs Tryz.func297 .no (k1e.c (k1u.c (kj3.c c0))) (Q:=∀(p0:wo) (p1 p2:Int),(p0.P=18446744069414584321/\U64 p1/\U64 p2)->∀r0:Int,((p1+p2)%18446744069414584321)=r0-> 
(p0.P=18446744069414584321)/\((!true)=true->
 0=r0)/\
((!true)=false->
(0<p0.P/\0<=p1)/\(0<p0.P/\0<=p2)/\(p0.P=18446744069414584321/\(0<=(p1%p0.P)/\(p1%p0.P)<18446744069414584321)/\(0<=(p2%p0.P)/\(p2%p0.P)<18446744069414584321))/\let r1:Int:=(((p1%p0.P)+(p2%p0.P))%18446744069414584321)
 r1=r0))<|by rintro p0 p1 p2 h _ rfl;obtain⟨hP,h1,h2⟩:=h;refine⟨hP,?_⟩;simp only[hP];refine⟨fun h=>by simp at h,fun _=>⟨by omega,by omega,⟨by trivial,by omega,by omega⟩,?_⟩⟩;omega
noncomputable def kfs:Con TB.den:= .gp 296 [yqu] [yqi] [] fun(p0:Int)=>(U64 p0,(len64 p0:Int),())
theorem k8i:kfs.Ok Tryz.prog TB:=qrv Bs Tryz.func296 (.r 0 (.jn ⟨[],[],[0,2],[.one (zqu),.one (zqi)],[]⟩ [] .no [] (.jn ⟨[],[],[0,2],[.one (zqu),.one (zqi)],[]⟩ [] .no [] (.jn ⟨[],[],[0,2],[.one (zqu),.one (zqi)],[]⟩ [] .no [] .no)))) c0 (Q:=∀(p0:Int),(U64 p0)->∀r0:Int,len64 p0=r0-> 
 ∀J1:Int->Int->Prop,(∀(b1 f1:Int),
(∀J2:Int->Int->Prop,(∀(i1 k1:Int),
(∀J3:Int->Int->Prop,(∀(l1 m1:Int),
((0<=IntKind.u8.wrap l1/\IntKind.u8.wrap l1<((⟨#[0,1,2,2,3,3,3,3,4,4,4,4,4,4,4,4,5,5,5,5,5,5,5,5,5,5,5,5,5,5,5,5,6,6,6,6,6,6,6,6,6,6,6,6,6,6,6,6,6,6,6,6,6,6,6,6,6,6,6,6,6,6,6,6,7,7,7,7,7,7,7,7,7,7,7,7,7,7,7,7,7,7,7,7,7,7,7,7,7,7,7,7,7,7,7,7,7,7,7,7,7,7,7,7,7,7,7,7,7,7,7,7,7,7,7,7,7,7,7,7,7,7,7,7,7,7,7,7,8,8,8,8,8,8,8,8,8,8,8,8,8,8,8,8,8,8,8,8,8,8,8,8,8,8,8,8,8,8,8,8,8,8,8,8,8,8,8,8,8,8,8,8,8,8,8,8,8,8,8,8,8,8,8,8,8,8,8,8,8,8,8,8,8,8,8,8,8,8,8,8,8,8,8,8,8,8,8,8,8,8,8,8,8,8,8,8,8,8,8,8,8,8,8,8,8,8,8,8,8,8,8,8,8,8,8,8,8,8,8,8,8,8,8,8,8,8,8,8,8,8,8,8,8,8,8,8]⟩:ByteArray).size:Int))/\let v1:Int:=byteAt (⟨#[0,1,2,2,3,3,3,3,4,4,4,4,4,4,4,4,5,5,5,5,5,5,5,5,5,5,5,5,5,5,5,5,6,6,6,6,6,6,6,6,6,6,6,6,6,6,6,6,6,6,6,6,6,6,6,6,6,6,6,6,6,6,6,6,7,7,7,7,7,7,7,7,7,7,7,7,7,7,7,7,7,7,7,7,7,7,7,7,7,7,7,7,7,7,7,7,7,7,7,7,7,7,7,7,7,7,7,7,7,7,7,7,7,7,7,7,7,7,7,7,7,7,7,7,7,7,7,7,8,8,8,8,8,8,8,8,8,8,8,8,8,8,8,8,8,8,8,8,8,8,8,8,8,8,8,8,8,8,8,8,8,8,8,8,8,8,8,8,8,8,8,8,8,8,8,8,8,8,8,8,8,8,8,8,8,8,8,8,8,8,8,8,8,8,8,8,8,8,8,8,8,8,8,8,8,8,8,8,8,8,8,8,8,8,8,8,8,8,8,8,8,8,8,8,8,8,8,8,8,8,8,8,8,8,8,8,8,8,8,8,8,8,8,8,8,8,8,8,8,8,8,8,8,8,8,8]⟩:ByteArray) (IntKind.u8.wrap l1)
 let v2:Int:=i64.wrap (m1+(i64.wrap v1))
 v2=r0)->J3 l1 m1)->
(decide (256<=i1)=true->
 J3 (ishr .u64 i1 8) (i64.wrap (k1+8)))/\
(decide (256<=i1)=false->
 J3 i1 k1))->J2 i1 k1)->
(decide (65536<=b1)=true->
 J2 (ishr .u64 b1 16) (i64.wrap (f1+16)))/\
(decide (65536<=b1)=false->
 J2 b1 f1))->J1 b1 f1)->
(decide (4294967296<=p0)=true->
 J1 (ishr .u64 p0 32) 32)/\
(decide (4294967296<=p0)=false->
 J1 p0 0))<|by
 rintro p0 h _ rfl;intro J1 j1
 have j1:∀s0 s2:Int,0<=s0->s0<4294967296->0<=s2->s2<=32->len64 p0=s2+len64 s0->J1 s0 s2:=fun s0 s2 h0 h1 h2 h3 h4=>by
  refine j1 _ _ fun J2 j2=> ?_
  have j2:∀s0 s2:Int,0<=s0->s0<65536->0<=s2->s2<=48->len64 p0=s2+len64 s0->J2 s0 s2:=fun s0 s2 h0 h1 h2 h3 h4=>by
   refine j2 _ _ fun J3 j3=> ?_
   have j3:∀s0 s2:Int,0<=s0->s0<256->0<=s2->s2<=56->len64 p0=s2+len64 s0->J3 s0 s2:=fun s0 s2 h0 h1 h2 h3 h4=>by
    refine j3 _ _ ?_;have e:IntKind.u8.wrap s0=s0:=by rw[u8w];omega
    have l:=kle s0 ⟨h0,h1⟩;show(0<=IntKind.u8.wrap s0/\IntKind.u8.wrap s0<(tab8.size:Int))/\i64.wrap (s2+i64.wrap (byteAt tab8 (IntKind.u8.wrap s0)))=_;rw[e,knj,kko s0 ⟨h0,h1⟩,wi (len64 s0) qqo qqo,wi (s2+len64 s0) qqo qqo,h4];exact⟨⟨h0,h1⟩,rfl⟩
   refine⟨fun h=> ?_,fun h=>j3 s0 s2 h0 qqh h2 qqo h4⟩;have h:=qb h;rw[<-k60 s0 8 qqh,<-Int.add_assoc,Int.add_right_comm]at h4;rw[ishr8,wi _ qqo qqo];exact j3 _ _ qqo qqo qqo qqo qqo
  refine⟨fun h=> ?_,fun h=>j2 s0 s2 h0 qqh h2 qqo h4⟩;have h:=qb h;rw[<-k60 s0 16 qqh,<-Int.add_assoc,Int.add_right_comm]at h4;rw[ishr16,wi _ qqo qqo];exact j2 _ _ qqo qqo qqo qqo qqo
 refine⟨fun h1=> ?_,fun h1=> ?_⟩
 ·have h1:=qb h1;rw[ishr32];exact j1 _ _ qqo qqo qqo qqo (by rw[<-k60 p0 32 (by simpa using h1),Int.add_comm];rfl)
 ·exact j1 p0 0 h.1 (by simpa using h1) qqo qqo qqo
noncomputable def k5d:Con TB.den:= .gp 386 [yqu] [yqi] [] fun(p0:Int)=>(0<p0/\p0<18446744073709551616,(64-len64 p0:Int),())
theorem k68:k5d.Ok Tryz.prog TB:=qrv Bs Tryz.func386 .no (k8i.c c0) (Q:=∀(p0:Int),(0<p0/\p0<18446744073709551616)->∀r0:Int,(64-len64 p0)=r0-> 
(U64 p0)/\i64.wrap (64-(len64 p0))=r0)<|by rintro p0 h _ rfl;obtain⟨s,e,h1,_⟩:=ken p0 h;refine⟨⟨by omega,h.2⟩,?_⟩;exact wi _ qqo qqo
noncomputable def kf7:Con TB.den:= .gp 309 [yqu,yqu,yqu] [yqu,yqu] [] fun(p0 p1 p2:Int)=>(U64 p0/\U64 p1/\U64 p2/\p0<p2,((p0*18446744073709551616+p1)/p2:Int),((p0*18446744073709551616+p1)%p2:Int),())
theorem ki0:kf7.Ok Tryz.prog TB:=qrv Bs Tryz.func309 (.r 13 (.jn ⟨[],[],[15,16],[.one (zqu),.one (.any)],[]⟩ [] (.lp [] ⟨[],[],[15,16],[.one (zqu),.one (zqu)],[]⟩ (.jn ⟨[],[],[],[],[]⟩ [] .no [] .no)) [] (.r 2 (.jn ⟨[],[],[16,18],[.one (.any),.one (zqu)],[]⟩ [] (.lp [] ⟨[],[],[16,18],[.one (zqu),.one (zqu)],[]⟩ (.jn ⟨[],[],[],[],[]⟩ [] .no [] .no)) [] .no)))) (k68.c c0) (Q:=∀(p0 p1 p2:Int),(U64 p0/\U64 p1/\U64 p2/\p0<p2)->∀r0:Int,((p0*18446744073709551616+p1)/p2)=r0->∀r1:Int,((p0*18446744073709551616+p1)%p2)=r1-> 
((p2==0)=true->
 False)/\
((p2==0)=false->
(decide (p2<=p0)=true->
 False)/\
(decide (p2<=p0)=false->
((p0==0)=true->
(p2≠0)/\(p2≠0)/\u64.wrap (Int.tdiv p1 p2)=r0/\Int.tmod p1 p2=r1)/\
((p0==0)=false->
(0<p2/\p2<18446744073709551616)/\(0<=u64.wrap (64-len64 p2))/\let v2:Int:=ishl .u64 p2 (u64.wrap (64-len64 p2))
(0<=u64.wrap (64-len64 p2))/\let v3:Int:=ishl .u64 p0 (u64.wrap (64-len64 p2))
 let v4:Int:=u64.wrap (64-(u64.wrap (64-len64 p2)))
(0<=v4)/\(0<=u64.wrap (64-len64 p2))/\let v5:Int:=ishl .u64 p1 (u64.wrap (64-len64 p2))
(ishr .u64 v2 32≠0)/\let v6:Int:=u64.wrap (Int.tdiv (ior .u64 v3 (ishr .u64 p1 v4)) (ishr .u64 v2 32))
 let v7:Int:=u64.wrap (v6*(ishr .u64 v2 32))
 let v8:Int:=u64.wrap ((ior .u64 v3 (ishr .u64 p1 v4))-v7)
 ∀J1:Int->Prop,(∀(b1:Int),
(let v12:Int:=u64.wrap ((ior .u64 v3 (ishr .u64 p1 v4))*4294967296)
 let v13:Int:=u64.wrap (v12+(ishr .u64 v5 32))
 let v14:Int:=u64.wrap (v13-(u64.wrap (b1*v2)))
(ishr .u64 v2 32≠0)/\let v15:Int:=u64.wrap (Int.tdiv v14 (ishr .u64 v2 32))
 let v16:Int:=u64.wrap (v15*(ishr .u64 v2 32))
 ∀J3:Int->Prop,(∀(k1:Int),
(let v20:Int:=u64.wrap ((u64.wrap (b1*4294967296))+k1)
 let v21:Int:=u64.wrap ((u64.wrap (v14*4294967296))+(iand .u64 v5 4294967295))
 let v22:Int:=u64.wrap (v21-(u64.wrap (k1*v2)))
(0<=u64.wrap (64-len64 p2))/\let v23:Int:=ishr .u64 v22 (u64.wrap (64-len64 p2))
 v20=r0/\v23=r1)->J3 k1)->
 ∃(I2:Int->Int->Prop) (M2:Int->Int->Nat),I2 (u64.wrap (v14-v16)) v15/\∀l1 m1,(I2 l1 m1->
 ∀J4:Prop,((let v19:Int:=u64.wrap (l1+(ishr .u64 v2 32))
(decide (4294967296<=v19)=true->
 J3 (u64.wrap (m1-1)))/\
(decide (4294967296<=v19)=false->
 I2 v19 (u64.wrap (m1-1))/\M2 v19 (u64.wrap (m1-1))<M2 l1 m1))->J4)->
(decide (4294967296<=m1)=true->
 J4)/\
(decide (4294967296<=m1)=false->
 let v17:Int:=u64.wrap (m1*(iand .u64 v2 4294967295))
 let v18:Int:=u64.wrap ((u64.wrap (4294967296*l1))+(iand .u64 v5 4294967295))
(decide (v18<v17)=true->
 J4)/\
(decide (v18<v17)=false->
 J3 m1))))->J1 b1)->
 ∃(I1:Int->Int->Prop) (M1:Int->Int->Nat),I1 v6 v8/\∀f1 i1,(I1 f1 i1->
 ∀J2:Prop,((let v11:Int:=u64.wrap (i1+(ishr .u64 v2 32))
(decide (4294967296<=v11)=true->
 J1 (u64.wrap (f1-1)))/\
(decide (4294967296<=v11)=false->
 I1 (u64.wrap (f1-1)) v11/\M1 (u64.wrap (f1-1)) v11<M1 f1 i1))->J2)->
(decide (4294967296<=f1)=true->
 J2)/\
(decide (4294967296<=f1)=false->
 let v9:Int:=u64.wrap (f1*(iand .u64 v2 4294967295))
 let v10:Int:=u64.wrap ((u64.wrap (4294967296*i1))+(ishr .u64 v5 32))
(decide (v10<v9)=true->
 J2)/\
(decide (v10<v9)=false->
 J1 f1)))))))<|by
 rintro p0 p1 p2 h _ rfl _ rfl;obtain⟨h0,h1,h2,hlt⟩:=h;refine⟨fun e=> ?_,fun _=>⟨fun e=> ?_,fun _=>⟨fun e=> ?_,fun _=> ?_⟩⟩⟩
 ·simp at e;omega
 ·simp at e;omega
 ·have e:p0=0:=by simpa using e
  subst e;rw[tdiv_nn _ _ h1.1,tmod_nn _ _ h1.1,Int.zero_mul,Int.zero_add];have:=Int.ediv_le_self p2 h1.1;have:=qei h1.1 h2.1;exact⟨by omega,by omega,wu _ qqo (by have:=Int.ediv_le_self p2 h1.1;omega),rfl⟩
 obtain⟨s,e,hs,n1,n2⟩:=ken p2 ⟨by omega,h2.2⟩;have ew:u64.wrap (64-len64 p2)=(s:Int):=by rw[e,wu _ qqo qqo]
 have ew3:u64.wrap (64-(s:Int))=((64-s:Nat):Int):=by rw[wu _ qqo qqo];omega
 have hp:0<2^s:=qcg s;have hp' :0<2^(64-s):=qcg _;have hpp:2^s*2^(64-s)=18446744073709551616:=by rw[<-Nat.pow_add,show s+(64-s)=64 by omega]
 have hP:((2^s:Nat):Int)*((2^(64-s):Nat):Int)=18446744073709551616:=by rw[<-qdi,hpp];rfl
 have il:∀a:Int,ishl .u64 a (s:Int)=a*((2^s:Nat):Int)%18446744073709551616:=fun a=>by rw[kid,qr,qcb qqo]
 have ir:∀a:Int,ishr .u64 a (s:Int)=a/((2^s:Nat):Int):=fun a=>by rw[k20,qr,show min s u64.bits=s from qcb (by show s<=64;omega)]
 have ir' :∀a:Int,ishr .u64 a ((64-s:Nat):Int)=a/((2^(64-s):Nat):Int):=fun a=>by rw[k20,qr,show min (64-s) u64.bits=64-s from qcb (by show 64-s<=64;omega)]
 have hor:∀c:Int,0<=c->c<((2^s:Nat):Int)->p0*((2^s:Nat):Int)+c<18446744073709551616->ior .u64 (p0*((2^s:Nat):Int)) c=p0*((2^s:Nat):Int)+c:=by intro c hc0 hc1 hc2;obtain⟨a,rfl⟩:=qn h0.1;obtain⟨c,rfl⟩:=qn hc0;have key:=ior_add' c a s qqo;rw[qen,<-qdi]at hc2 ⊢;rw[key qqo];omega
 simp only[ew,ew3,il,ir',ishr32];have hP'0:(0:Int)<((2^(64-s):Nat):Int):=by omega
 generalize hPd:((2^s:Nat):Int)=P at *
 generalize hPd' :((2^(64-s):Nat):Int)=P' at *
 have hP0:0<P:=by omega
 have hlo:p1/P' <P:=qfl hP'0 qqo;have hlo0:0<=p1/P' :=qei h1.1 qqo;have hUv:p0*P+P<=p2*P:=by have:(p0+1)*P<=p2*P:=Int.mul_le_mul_of_nonneg_right qqo qqo;grind
 have hUp:0<=p0*P:=qde h0.1 qqo;rw[qdy (a:=p2*P) qqo n2,qdy (a:=p0*P) hUp qqo,hor _ hlo0 hlo qqo]
 have hN:(p0*18446744073709551616+p1)*P=(p0*P+p1/P')*18446744073709551616+(p1*P%18446744073709551616/4294967296)*4294967296+p1*P%18446744073709551616%4294967296:=by
  have h5:p1*P/18446744073709551616=p1/P' :=by rw[<-hP,qen p1 P,Int.mul_ediv_mul_of_pos _ _ hP0]
  have h6:=qdv (p1*P) 18446744073709551616;rw[h5]at h6;have:(p0*18446744073709551616+p1)*P=p0*P*18446744073709551616+p1*P:=by grind
  rw[this];generalize p1*P=w at *
  generalize p0*P=w' at *
  omega
 have hlb:0<=p1*P%18446744073709551616/\p1*P%18446744073709551616<18446744073709551616:=⟨qcm _ qqo,qca _ qqo⟩;generalize hUd:p0*P+p1/P' =U at *
 generalize hLd:p1*P%18446744073709551616=L at *
 have hVd:p2*P/4294967296*4294967296+p2*P%4294967296=p2*P:=by omega
 have hw:∀{Q R V' :Int},R-Q=V'->0<=V'->V' <18446744073709551616->∀A,R=A*4294967296+(R-A*4294967296)->u64.wrap (u64.wrap (u64.wrap (A*4294967296)+(R-A*4294967296))-u64.wrap Q)=V' :=by intro Q R V' hv h0 h1 A hA;simp only[u64w];omega
 rw[k2d (p2*P) qqo,k2d L qqo];generalize ha:p2*P/4294967296=a at *
 generalize hb:p2*P%4294967296=b at *
 have hQ1:Half U (L/4294967296) a b ((U*4294967296+L/4294967296)/(a*4294967296+b)):=⟨by omega,by omega,by omega,by omega,by omega,rfl⟩;have hr1:=hQ1.rest;have hq1:=hQ1.q;generalize (U*4294967296+L/4294967296)/(a*4294967296+b)=Q1 at *
 generalize (U*4294967296+L/4294967296)%(a*4294967296+b)=R1 at *
 have hQ0:Half R1 (L%4294967296) a b ((R1*4294967296+L%4294967296)/(a*4294967296+b)):=⟨by omega,by omega,by omega,by omega,by omega,rfl⟩;have hr0:=hQ0.rest;have hq0:=hQ0.q;generalize (R1*4294967296+L%4294967296)/(a*4294967296+b)=Q0 at *
 generalize (R1*4294967296+L%4294967296)%(a*4294967296+b)=R0 at *
 rw[hVd]at hr1 hr0 hq1 hq0;have fin:=kmi hP0 (by omega:0<p2) hN hr1.1 hr0.1 ⟨hr0.2.1,hr0.2.2⟩
 have aux:∀{U x Q q r:Int},Half U x a b Q->U<18446744073709551616->q*a+r=U->Q<=q->0<=r->q<=8589934592:=by
  intro U x Q q r hh hU e hQ hr;have h1:=hh.ha;refine Int.le_of_lt_add_one (qdc (a:=a) ?_ qqo);generalize q*a=w at *
  omega
 have init:∀{U x Q:Int},Half U x a b Q->Q<=U/a:=by
  intro U x Q hh;have h1:=hh.ha;have h2:=hh.q;have h3:=hh.hb;have h4:=hh.hx;refine(Int.le_ediv_iff_mul_le qqo).2 ?_;have h5:Q*(a*4294967296+b)=Q*a*4294967296+Q*b:=by grind
  have h6:0<=Q*b:=qde h2.1 h3.1;generalize Q*a=w at *
  omega
 have hd:=qdv U a;have hd1:=qcm U (by omega:a≠0);have hd2:=qca U (by omega:0<a);have hd3:0<=U/a:=qei qqo qqo;rw[qen]at hd;have hd5:0<=U/a*a:=qde hd3 qqo;have hd4:=aux hQ1 qqo (q:=U/a) (r:=U%a) qqo (init hQ1) hd1;rw[tdiv_nn _ _ qqo,wu (U/a) qqo qqo,wu (U/a*a) qqo qqo,show U-U/a*a=U%a by omega,wu (U%a) qqo qqo];refine⟨⟨by omega,h2.2⟩,by omega,by omega,by omega,by omega,by omega,fun J1 k1=> ?_⟩
 have j2:J1 Q1:=by
  have e1:=hw (Q:=Q1*(p2*P)) (R:=U*4294967296+L/4294967296) hr1.1 hr1.2.1 qqo U qqo;rw[show U*4294967296+L/4294967296-U*4294967296=L/4294967296 by omega]at e1;refine k1 _ ?_;simp only[e1];have hd:=qdv R1 a;have hd1:=qcm R1 (by omega:a≠0);have hd2:=qca R1 (by omega:0<a);have hd3:0<=R1/a:=qei hr1.2.1 qqo;rw[qen]at hd;have hd5:0<=R1/a*a:=qde hd3 qqo;have hd4:=aux hQ0 qqo (q:=R1/a) (r:=R1%a) qqo (init hQ0) hd1;rw[tdiv_nn _ _ hr1.2.1,wu (R1/a) qqo qqo,wu (R1/a*a) qqo qqo,show R1-R1/a*a=R1%a by omega,wu (R1%a) qqo qqo];refine⟨by omega,fun J3 k3=> ?_⟩
  have j4:J3 Q0:=by
   refine k3 _ ⟨by omega,?_,?_⟩
   ·rw[wu (Q1*4294967296) qqo qqo,wu _ qqo qqo];exact fin.1
   ·have:=hw (Q:=Q0*(p2*P)) (R:=R1*4294967296+L%4294967296) hr0.1 hr0.2.1 qqo R1 qqo;rw[show R1*4294967296+L%4294967296-R1*4294967296=L%4294967296 by omega]at this;rw[this,ir];exact fin.2
  refine⟨fun r q=>q*a+r=R1/\Q0<=q/\0<=r/\r<4294967296,fun r q=>q.toNat,⟨by omega,init hQ0,hd1,by omega⟩,?_⟩;rintro r q ⟨g1,g2,g3,g4⟩ J4 k4;have g5:=aux hQ0 qqo g1 g2 g3;have nxt:Q0<=q-1->r+a<4294967296->((q-1)*a+(r+a)=R1/\Q0<=q-1/\0<=r+a/\r+a<4294967296)/\(q-1).toNat<q.toNat:=fun h1 h2=>⟨⟨by grind,h1,by omega,h2⟩,by(first|omega|(dsimp only;omega))⟩;have j3:Q0<=q-1->J4:=by intro hq;refine k4 ?_;rw[wu (q-1) qqo qqo,wu (r+a) qqo qqo];refine⟨fun hd=> ?_,fun hd=>nxt hq (by simpa using hd)⟩;have hd:4294967296<=r+a:=qb hd;rw[hQ0.done (q:=q-1) (r:=r+a) (by grind) hq hd];exact j4
  refine⟨fun hd=>j3 (hQ0.down g1 (.inl (qb hd))),fun hd=> ?_⟩;have hd:q<4294967296:=by simpa using hd
  have hqb:0<=q*b/\q*b<18446744073709551616:=by have:=hQ0.hb;have h1:q*b<=4294967295*4294967295:=qem qqo qqo qqo qqo;exact⟨qde qqo qqo,by(first|omega|(dsimp only;omega))⟩
  have:=hQ0.hx;rw[wu (q*b) qqo qqo,wu (4294967296*r) qqo qqo,wu (4294967296*r+L%4294967296) qqo qqo];refine⟨fun ht=> ?_,fun ht=> ?_⟩
  ·have ht:4294967296*r+L%4294967296<q*b:=qb ht;exact j3 (hQ0.down g1 (.inr qqo))
  ·have ht:¬(4294967296*r+L%4294967296<q*b):=qc ht;rw[hQ0.exit g1 g2 qqo];exact j4
 refine⟨fun q r=>q*a+r=U/\Q1<=q/\0<=r/\r<4294967296,fun q r=>q.toNat,⟨by omega,init hQ1,hd1,by omega⟩,?_⟩;rintro q r ⟨g1,g2,g3,g4⟩ J2 k2;have g5:=aux hQ1 qqo g1 g2 g3;have nxt:Q1<=q-1->r+a<4294967296->((q-1)*a+(r+a)=U/\Q1<=q-1/\0<=r+a/\r+a<4294967296)/\(q-1).toNat<q.toNat:=fun h1 h2=>⟨⟨by grind,h1,by omega,h2⟩,by(first|omega|(dsimp only;omega))⟩;have j1:Q1<=q-1->J2:=by intro hq;refine k2 ?_;rw[wu (q-1) qqo qqo,wu (r+a) qqo qqo];refine⟨fun hd=> ?_,fun hd=>nxt hq (by simpa using hd)⟩;have hd:4294967296<=r+a:=qb hd;rw[hQ1.done (q:=q-1) (r:=r+a) (by grind) hq hd];exact j2
 refine⟨fun hd=>j1 (hQ1.down g1 (.inl (qb hd))),fun hd=> ?_⟩;have hd:q<4294967296:=by simpa using hd
 have hqb:0<=q*b/\q*b<18446744073709551616:=by have:=hQ1.hb;have h1:q*b<=4294967295*4294967295:=qem qqo qqo qqo qqo;exact⟨qde qqo qqo,by(first|omega|(dsimp only;omega))⟩
 have:=hQ1.hx;rw[wu (q*b) qqo qqo,wu (4294967296*r) qqo qqo,wu (4294967296*r+L/4294967296) qqo qqo];refine⟨fun ht=> ?_,fun ht=> ?_⟩
 ·have ht:4294967296*r+L/4294967296<q*b:=qb ht;exact j1 (hQ1.down g1 (.inr qqo))
 ·have ht:¬(4294967296*r+L/4294967296<q*b):=qc ht;rw[hQ1.exit g1 g2 qqo];exact j2
noncomputable def kft:Con TB.den:= .gp 308 [yqu,yqu] [yqu,yqu] [] fun(p0 p1:Int)=>(U64 p0/\U64 p1,(p0*p1/18446744073709551616:Int),(p0*p1%18446744073709551616:Int),())
theorem ki8:kft.Ok Tryz.prog TB:=qrv Bs Tryz.func308 .no c0 (Q:=∀(p0 p1:Int),(U64 p0/\U64 p1)->∀r0:Int,(p0*p1/18446744073709551616)=r0->∀r1:Int,(p0*p1%18446744073709551616)=r1-> 
 let v2:Int:=u64.wrap ((iand .u64 p0 4294967295)*(iand .u64 p1 4294967295))
 let v3:Int:=u64.wrap ((ishr .u64 p0 32)*(iand .u64 p1 4294967295))
 let v4:Int:=u64.wrap (v3+(ishr .u64 v2 32))
 let v5:Int:=u64.wrap ((iand .u64 p0 4294967295)*(ishr .u64 p1 32))
 let v6:Int:=u64.wrap ((iand .u64 v4 4294967295)+v5)
 let v7:Int:=u64.wrap ((ishr .u64 p0 32)*(ishr .u64 p1 32))
 let v8:Int:=u64.wrap (v7+(ishr .u64 v4 32))
 let v9:Int:=u64.wrap (v8+(ishr .u64 v6 32))
 v9=r0/\u64.wrap (p0*p1)=r1)<|by
 rintro p0 p1 h _ rfl _ rfl;obtain⟨h0,h1⟩:=h;have k:=kpk p0 p1 h0 h1;refine ?_;simp only[k2d p0 h0,k2d p1 h1,ishr32];obtain⟨e,k1,k2,k3,k4,k5,k6,k7,k8⟩:=k;rw[<-e];rw[wu (p0%4294967296*(p1%4294967296)) qqo qqo,wu (p0/4294967296*(p1%4294967296)) qqo qqo,wu (p0%4294967296*(p1/4294967296)) qqo qqo,wu (p0/4294967296*(p1/4294967296)) qqo qqo];generalize p0%4294967296*(p1%4294967296)=a at *
 generalize p0/4294967296*(p1%4294967296)=b at *
 generalize p0%4294967296*(p1/4294967296)=c at *
 generalize p0/4294967296*(p1/4294967296)=d at *
 rw[wu (b+a/4294967296) qqo qqo,k2d _ qqo];simp only[u64w];refine⟨?_,trivial⟩;omega
noncomputable def ki4:Con TB.den:= .gp 379 [.st 7,yqu,yqu] [yqu] [] fun(p0:wo) (p1 p2:Int)=>(p0.P=18446744069414584321/\(0<=p1/\p1<18446744069414584321)/\(0<=p2/\p2<18446744069414584321),(p1*p2%18446744069414584321:Int),())
theorem ka4:ki4.Ok Tryz.prog TB:=qrv Bs Tryz.func379 .no (ki8.c (ki0.c c0)) (Q:=∀(p0:wo) (p1 p2:Int),(p0.P=18446744069414584321/\(0<=p1/\p1<18446744069414584321)/\(0<=p2/\p2<18446744069414584321))->∀r0:Int,(p1*p2%18446744069414584321)=r0-> 
(U64 p1/\U64 p2)/\(U64 (p1*p2/18446744073709551616)/\U64 (p1*p2%18446744073709551616)/\U64 p0.P/\(p1*p2/18446744073709551616)<p0.P)/\let r1:Int:=(((p1*p2/18446744073709551616)*18446744073709551616+(p1*p2%18446744073709551616))/p0.P)
 let r2:Int:=(((p1*p2/18446744073709551616)*18446744073709551616+(p1*p2%18446744073709551616))%p0.P)
 r2=r0)<|by
 rintro p0 p1 p2 h _ rfl;obtain⟨hP,h1,h2⟩:=h;have h3:0<=p1*p2:=qde h1.1 h2.1;have h4:p1*p2<=18446744069414584320*18446744069414584320:=qem qqo qqo h2.1 qqo;refine⟨⟨by omega,by omega⟩,?_⟩;simp only[hP];generalize p1*p2=m at *
 refine⟨⟨⟨by omega,by omega⟩,⟨by omega,by omega⟩,by omega,by omega⟩,?_⟩;rw[show m/18446744073709551616*18446744073709551616+m%18446744073709551616=m by omega]
noncomputable def khe:Con TB.den:= .gp 298 [.st 7,yqu,yqu] [yqu] [] fun(p0:wo) (p1 p2:Int)=>(p0.P=18446744069414584321/\U64 p1/\U64 p2,(p1*p2%18446744069414584321:Int),())
theorem kj0:khe.Ok Tryz.prog TB:=qrv Bs Tryz.func298 .no (k1e.c (k1u.c (ka4.c c0))) (Q:=∀(p0:wo) (p1 p2:Int),(p0.P=18446744069414584321/\U64 p1/\U64 p2)->∀r0:Int,(p1*p2%18446744069414584321)=r0-> 
(p0.P=18446744069414584321)/\((!true)=true->
 0=r0)/\
((!true)=false->
(0<p0.P/\0<=p1)/\(0<p0.P/\0<=p2)/\(p0.P=18446744069414584321/\(0<=(p1%p0.P)/\(p1%p0.P)<18446744069414584321)/\(0<=(p2%p0.P)/\(p2%p0.P)<18446744069414584321))/\let r1:Int:=((p1%p0.P)*(p2%p0.P)%18446744069414584321)
 r1=r0))<|by rintro p0 p1 p2 h _ rfl;obtain⟨hP,h1,h2⟩:=h;refine⟨hP,?_⟩;simp only[hP];refine⟨fun h=>by simp at h,fun _=>⟨by omega,by omega,⟨by trivial,by omega,by omega⟩,?_⟩⟩;exact(qeo _ _ _).symm
noncomputable def kb0:Con TB.den:= .gp 450 [.st 7] [yqu,yqi,yqu] [] fun(p0:wo)=>(p0.P=18446744069414584321,(7:Int),(32:Int),(7:Int),())
theorem kd7:kb0.Ok Tryz.prog TB:=qrv Bs Tryz.func450 .no c0 (Q:=∀(p0:wo),(p0.P=18446744069414584321)->∀r0:Int,(7:Int)=r0->∀r1:Int,(32:Int)=r1->∀r2:Int,(7:Int)=r2-> 
((p0.P==17)=true->
 3=r0/\4=r1/\3=r2)/\
((p0.P==17)=false->
((p0.P==97)=true->
 5=r0/\5=r1/\5=r2)/\
((p0.P==97)=false->
((p0.P==193)=true->
 5=r0/\6=r1/\5=r2)/\
((p0.P==193)=false->
((p0.P==257)=true->
 3=r0/\8=r1/\3=r2)/\
((p0.P==257)=false->
((p0.P==12289)=true->
 11=r0/\12=r1/\5=r2)/\
((p0.P==12289)=false->
((p0.P==65537)=true->
 3=r0/\16=r1/\3=r2)/\
((p0.P==65537)=false->
((p0.P==18446744069414584321)=true->
 7=r0/\32=r1/\7=r2)/\
((p0.P==18446744069414584321)=false->
 0=r0/\0=r1/\0=r2))))))))<|by rintro p0 h _ rfl _ rfl _ rfl;refine ?_;simp[h]
noncomputable def ka5:Con TB.den:= .gp 380 [.st 7] [yqu] [] fun(p0:wo)=>(p0.P=18446744069414584321,(7:Int),())
theorem kag:ka5.Ok Tryz.prog TB:=qrv Bs Tryz.func380 .no (kd7.c c0) (Q:=∀(p0:wo),(p0.P=18446744069414584321)->∀r0:Int,(7:Int)=r0-> 
(p0.P=18446744069414584321)/\7=r0)<|by rintro p0 h _ rfl;exact⟨h,rfl⟩
noncomputable def khn:Con TB.den:= .gp 451 [.st 7,yqu,yqu] [yqu] [] fun(p0:wo) (p1 p2:Int)=>(p0.P=18446744069414584321/\(0<=p1/\p1<18446744069414584321)/\U64 p2,(pw p1 p2:Int),())
theorem kj4:khn.Ok Tryz.prog TB:=qrv Bs Tryz.func451 (.r 1 (.nd [] (.lp [] ⟨[],[],[1,2,7],[.one (zqu),.one (zqu),.one (zqu)],[]⟩ (.r 0 (.jn ⟨[],[],[7],[.one (zqu)],[]⟩ [] .no [] .no))) [] .no)) (ka4.c c0) (Q:=∀(p0:wo) (p1 p2:Int),(p0.P=18446744069414584321/\(0<=p1/\p1<18446744069414584321)/\U64 p2)->∀r0:Int,pw p1 p2=r0-> 
 ∃(I1:Int->Int->Int->Prop) (M1:Int->Int->Int->Nat),I1 p1 p2 1/\∀b1 f1 i1,(I1 b1 f1 i1->
(decide (0<f1)=true->
 ∀J1:Int->Prop,(∀(k1:Int),
((decide (0<(ishr .u64 f1 1))=true->
(p0.P=18446744069414584321/\(0<=b1/\b1<18446744069414584321)/\(0<=b1/\b1<18446744069414584321))/\I1 (b1*b1%18446744069414584321) (ishr .u64 f1 1) k1/\M1 (b1*b1%18446744069414584321) (ishr .u64 f1 1) k1<M1 b1 f1 i1)/\
(decide (0<(ishr .u64 f1 1))=false->
 I1 b1 (ishr .u64 f1 1) k1/\M1 b1 (ishr .u64 f1 1) k1<M1 b1 f1 i1))->J1 k1)->
(((iand .u64 f1 1)==1)=true->
(p0.P=18446744069414584321/\(0<=i1/\i1<18446744069414584321)/\(0<=b1/\b1<18446744069414584321))/\J1 (i1*b1%18446744069414584321))/\
(((iand .u64 f1 1)==1)=false->
 J1 i1))/\
(decide (0<f1)=false->
 i1=r0)))<|by
 rintro p0 p1 p2 h _ rfl;obtain⟨hP,h1,h2⟩:=h;rw[hP];refine⟨fun a e r=>(0<=a/\a<18446744069414584321)/\U64 e/\(0<=r/\r<18446744069414584321)/\(r*a^e.toNat)%18446744069414584321=pw p1 p2,fun a e r=>e.toNat,⟨h1,h2,by omega,by rw[Int.one_mul];rfl⟩,?_⟩;rintro a e r ⟨ha,he,hr,hv⟩;refine⟨fun h J1 j=> ?_,fun h=> ?_⟩
 ·have h:=qb h
  have jj:∀r',(0<=r'/\r' <18446744069414584321)->(r' *(a*a)^(e/2).toNat)%18446744069414584321=pw p1 p2->J1 r' :=by
   intro r' hr' hv';have hn:∀a',(0<=a'/\a' <18446744069414584321)->r' *a' ^(e/2).toNat%18446744069414584321=pw p1 p2->((0<=a'/\a' <18446744069414584321)/\U64 (e/2)/\(0<=r'/\r' <18446744069414584321)/\r' *a' ^(e/2).toNat%18446744069414584321=pw p1 p2)/\(e/2).toNat<e.toNat:=fun a' h1 h3=>⟨⟨h1,⟨by omega,by omega⟩,hr',h3⟩,by(first|omega|(dsimp only;omega))⟩;refine j _ ?_;rw[ishr1];refine⟨fun h=>⟨⟨rfl,ha,ha⟩,?_⟩,fun h=> ?_⟩
   ·refine hn _ ⟨qcm _ qqo,qca _ qqo⟩ ?_;rw[<-hv',qeo,qeo r' ((a*a)^_),kjm]
   ·have h:¬0<e/2:=qc h;refine hn _ ha ?_;rw[show(e/2).toNat=0 by omega]at hv' ⊢;simpa using hv'
  rw[kol e he];have hpow:∀k:Nat,a^(2*k)=(a*a)^k:=fun k=>by rw[Int.pow_mul];congr 1;rw[qds,qds,Int.pow_zero,Int.one_mul]
  refine⟨fun h1=>⟨⟨rfl,hr,ha⟩,?_⟩,fun h1=> ?_⟩
  ·have h1:e%2=1:=by simpa using h1
   refine jj _ ⟨qcm _ qqo,qca _ qqo⟩ ?_;rw[<-hv,show e.toNat=2*(e/2).toNat+1 by omega,qds,hpow,qeo,qea _ (qfo _),<-qeo];congr 1;grind
  ·have h1:¬e%2=1:=by simpa using h1
   refine jj _ hr ?_;rw[<-hv,<-hpow,show e.toNat=2*(e/2).toNat by omega]
 ·have h:¬0<e:=qc h;rw[show e.toNat=0 by omega,Int.pow_zero,Int.mul_one,qdy hr.1 hr.2]at hv;exact hv
noncomputable def khj:Con TB.den:= .gp 381 [.st 7,yqu,yqu] [yqu] [] fun(p0:wo) (p1 p2:Int)=>(p0.P=18446744069414584321/\U64 p1/\U64 p2,(pw (p1%18446744069414584321) p2:Int),())
theorem kjr:khj.Ok Tryz.prog TB:=qrv Bs Tryz.func381 .no (k1e.c (k1u.c (kj4.c c0))) (Q:=∀(p0:wo) (p1 p2:Int),(p0.P=18446744069414584321/\U64 p1/\U64 p2)->∀r0:Int,(pw (p1%18446744069414584321) p2)=r0-> 
(p0.P=18446744069414584321)/\((!true)=true->
 0=r0)/\
((!true)=false->
(0<p0.P/\0<=p1)/\(p0.P=18446744069414584321/\(0<=(p1%p0.P)/\(p1%p0.P)<18446744069414584321)/\U64 p2)/\(pw (p1%p0.P) p2)=r0))<|by rintro p0 p1 p2 h _ rfl;obtain⟨hP,h1,h2⟩:=h;refine⟨hP,fun h=>by simp at h,fun _=>⟨by omega,?_⟩⟩;simp only[hP];exact⟨⟨by trivial,by omega,h2⟩,trivial⟩
noncomputable def kcs:Con TB.den:= .gp 452 [.st 7,yqu] [yqu] [] fun(p0:wo) (p1:Int)=>(p0.P=18446744069414584321/\U64 p1,(p1%18446744069414584321:Int),())
theorem kds:kcs.Ok Tryz.prog TB:=qrv Bs Tryz.func452 .no (k1e.c (k1u.c c0)) (Q:=∀(p0:wo) (p1:Int),(p0.P=18446744069414584321/\U64 p1)->∀r0:Int,(p1%18446744069414584321)=r0-> 
(p0.P=18446744069414584321)/\((!true)=true->
 0=r0)/\
((!true)=false->
(0<p0.P/\0<=p1)/\(p1%p0.P)=r0))<|by rintro p0 p1 h _ rfl;obtain⟨hP,h1⟩:=h;refine⟨hP,fun h=>by simp at h,fun _=>⟨by omega,?_⟩⟩;simp only[hP]
end Go.Proofs.YtcghahkoioeddaaGreatDoor
end
