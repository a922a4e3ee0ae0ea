/-
  Parts of the proofs that the laws of this seat hold of every input, merged by a program: a machine over pure data that is sound for the model, what each function of the translation does in it, and plain lemmas. No conditions but those in each theorem.
-/
import Derived.Test.YtcghahkoioeddaaGreatDoorA4
set_option maxRecDepth 100000
set_option linter.all false
noncomputable section
namespace Go.Proofs.YtcghahkoioeddaaGreatDoor
open Go Go.Bv Go.Cv Go.Md Go.RowKit
open Go.IntKind (i64 u64)
def nd (a b:Int):Int:=hashS 6 [a,b]
def emp:Nat->Int
 |0=>hashS 6 []
 |i+1=>nd (emp i) (emp i)
theorem emp_u (i:Nat):U64 (emp i):=by cases i<;>exact kj _ _
theorem emp_lt (i:Nat):emp i<18446744069414584321:=by cases i<;>exact k2a _ _
theorem gD_lt {l:Li} {i:Nat} {z:Int} (h:i<l.length):l.getD i z=l[i]:=by simp[h]
theorem gD_ge {l:Li} {i:Nat} {z:Int} (h:l.length<=i):l.getD i z=z:=by simp[h]
def lf (l:Li) (p:Nat):Int:=l.getD p (emp 0)
def TT (f:Nat->Int):Nat->Nat->Int
 |0,k=>f k
 |i+1,k=>nd (TT f i (2*k)) (TT f i (2*k+1))
theorem kcy {f g:Nat->Int}:∀(i k:Nat),(∀p,k*2^i<=p->p<(k+1)*2^i->f p=g p)->TT f i k=TT g i k
 |0,k,h=>h k qqs qqs
 |i+1,k,h=>by
  have e:2^(i+1)=2*2^i:=by rw[Nat.pow_succ];omega
  rw[e]at h;have e1:k*(2*2^i)=2*k*2^i:=by rw[<-Nat.mul_assoc,qdr k 2]
  have e2:(k+1)*(2*2^i)=(2*k+1+1)*2^i:=by rw[<-Nat.mul_assoc];congr 1;omega
  have e3:(2*k+1)*2^i=2*k*2^i+2^i:=by rw[qbl,qda]
  have e4:(2*k+1+1)*2^i=(2*k+1)*2^i+2^i:=by rw[qbl (2*k+1),qda]
  simp only[TT];rw[kcy i (2*k) fun p h1 h2=>h p qqo qqo,kcy i (2*k+1) fun p h1 h2=>h p qqo qqo]
theorem TT_emp {l:Li}:∀(i k:Nat),l.length<=k*2^i->TT (lf l) i k=emp i
 |0,k,h=>by simp only[TT,lf];rw[gD_ge qqh]
 |i+1,k,h=>by
  have e1:k*2^(i+1)=2*k*2^i:=by rw[Nat.pow_succ,qdr (2^i) 2,<-Nat.mul_assoc,qdr k 2]
  have e3:(2*k+1)*2^i=2*k*2^i+2^i:=by rw[qbl,qda]
  have:=qcg i;simp only[TT,emp];rw[TT_emp i (2*k) qqo,TT_emp i (2*k+1) qqo]
theorem TT_r {l:Li} (hl:∀x∈l,0<=x/\x<18446744069414584321):∀(i k:Nat),0<=TT (lf l) i k/\TT (lf l) i k<18446744069414584321
 |0,k=>by
  simp only[TT,lf];by_cases h:k<l.length
  ·rw[gD_lt h];exact hl _ (qal h)
  ·rw[gD_ge qqo];exact⟨(emp_u 0).1,emp_lt 0⟩
 |i+1,k=>⟨(kj _ _).1,k2a _ _⟩
def bitN (n i:Nat):Bool:=n/2^i%2==1
def leftS (d:Nat) (l:Li):Li:=(List.range (d+1)).map fun i=>if bitN l.length i then TT (lf l) i (l.length/2^i-1)else 0
def frF (d:Int) (l:Li):wG:=⟨d,l.length,leftS d.toNat l⟩
theorem k1q (d:Nat) (l:Li):(leftS d l).length=d+1:=by simp[leftS]
theorem k2q (d:Nat) (l:Li) (i:Nat) (h:i<(leftS d l).length):(leftS d l)[i]=if bitN l.length i then TT (lf l) i (l.length/2^i-1)else 0:=by simp[leftS]
structure FV (f:wG):Prop where
 d1:1<=f.wC
 d2:f.wC<=12
 c0:0<=f.we
 c1:f.we<=((2^f.wC.toNat:Nat):Int)
 ll:f.wh.length=f.wC.toNat+1
 u:∀x∈f.wh,0<=x/\x<18446744069414584321
 z:∀(i:Nat) (h:i<f.wh.length),bitN f.we.toNat i=false->f.wh[i]=0
theorem frF_FV {d:Int} {l:Li} (h1:1<=d) (h2:d<=12) (hl:l.length<=2^d.toNat) (hu:∀x∈l,0<=x/\x<18446744069414584321):FV (frF d l):=by
 refine⟨h1,h2,by simp[frF],by simp only[frF];omega,k1q _ _,fun x hx=> ?_,fun i h hb=> ?_⟩
 ·simp only[frF,leftS,qaj]at hx;obtain⟨i,_,rfl⟩:=hx;split
  ·exact TT_r hu _ _
  ·decide
 ·show(leftS d.toNat l)[i]=0;have hb:bitN l.length i=false:=by simpa[frF]using hb
  exact(k2q d.toNat l i h).trans (by rw[hb];rfl)
theorem shl1 (d:Nat) (h:d<=12):ishl .i64 1 (d:Int)=((2^d:Nat):Int):=by
 have:∀d∈List.range 13,ishl .i64 1 (d:Int)=((2^d:Nat):Int):=by decide
 exact this d qqm
theorem pow12 (d:Nat) (h:d<=12):2^d<=4096:=by have:2^d<=2^12:=qcs qqd h;omega
theorem bit1 (n i:Nat) (hn:n<=4096) (hi:i<=20):iand .i64 (ishr .i64 (n:Int) (i:Int)) 1=((n/2^i%2:Nat):Int):=by
 have e:min ((i:Int).toNat) i64.bits=i:=by rw[qu];exact qcc (qbi hi qqd)
 have e2:ishr .i64 (n:Int) (i:Int)=((n/2^i:Nat):Int):=by rw[k1y,e];simp
 have:=Nat.div_le_self n (2^i);rw[e2];generalize n/2^i=q at *
 rw[k4h _ qqo];omega
def carry:Nat->Nat->Li->Int->Nat->Li
 |0,lv,L,x,_=>L.set lv x
 |k+1,lv,L,x,n=>if bitN n lv then carry k (lv+1) (L.set lv 0) (nd (ix L (lv:Int)) x) n else L.set lv x
def apF (f:wG) (x:Int):wG:=⟨f.wC,f.we+1,carry (f.wC.toNat+1) 0 f.wh x f.we.toNat⟩
theorem k1c (n i:Nat):n/2^(i+1)=n/2^i/2:=by rw[Nat.pow_succ,Nat.div_div_eq_div_mul]
theorem kmz {n d:Nat} (h:n<2^d):bitN n d=false:=by unfold bitN;rw[qeu h];rfl
theorem succ_hi {n i:Nat} (h:bitN n i=true) (hq:(n+1)/2^i=n/2^i+1):(n+1)/2^(i+1)=n/2^(i+1)+1:=by
 have h:n/2^i%2=1:=by simpa[bitN]using h
 rw[k1c,k1c,hq];omega
theorem succ_lo {n i:Nat} (h:bitN n i=false) (hq:(n+1)/2^i=n/2^i+1):∀j,i<j->(n+1)/2^j=n/2^j:=by
 have h:¬n/2^i%2=1:=by simpa[bitN]using h
 intro j;induction j with
 |zero=>intro hj;omega
 |succ j ih=>
  intro hj;rcases qay i j with h1|h1
  ·rw[k1c,k1c,ih h1]
  ·have:j=i:=by omega
   subst this;rw[k1c,k1c,hq];omega
theorem TT_app {l:Li} {x:Int} {i k:Nat} (h:(k+1)*2^i<=l.length):TT (lf (l++[x])) i k=TT (lf l) i k:=by refine kcy i k fun p _ h2=> ?_;unfold lf;rw[qex,qex,qas qqo]
theorem kj7 (d:Nat) (l:Li) (x:Int) (hn:l.length<2^d):∀(k lv:Nat) (L:Li) (y:Int),lv+k=d+1->L.length=d+1->
  (l.length+1)/2^lv=l.length/2^lv+1->y=TT (lf (l++[x])) lv (l.length/2^lv)->
  (∀(i:Nat) (h:i<L.length),L[i]=if i<lv then 0 else(leftS d l).getD i 0)->(∀i,i<lv->bitN (l.length+1) i=false)->carry k lv L y l.length=leftS d (l++[x])
 |0,lv,L,y,hk,hL,hq,hy,hg,hb=>by
  exfalso;have hlv:lv=d+1:=by omega
  subst hlv;have hp:2^(d+1)=2*2^d:=by rw[Nat.pow_succ];omega
  have h1:1<=2^d:=qcg d;rw[hp,qeu qqo,qeu qqo]at hq;omega
 |k+1,lv,L,y,hk,hL,hq,hy,hg,hb=>by
  unfold carry;have hlv:lv<L.length:=by omega
  by_cases hbit:bitN l.length lv=true
  ·rw[qh hbit];have hodd:l.length/2^lv%2=1:=by simpa[bitN]using hbit
   have hleft:ix L (lv:Int)=TT (lf (l++[x])) lv (2*(l.length/2^(lv+1))):=by
    have h2:lv<(leftS d l).length:=by rw[k1q];omega
    rw[ix_get _ _ hlv,hg lv hlv,qf qqo,gD_lt h2,k2q,qh hbit];have e:l.length/2^lv-1=2*(l.length/2^(lv+1)):=by rw[k1c];omega
    rw[e];refine(TT_app ?_).symm;have:(2*(l.length/2^(lv+1))+1)=l.length/2^lv:=by rw[k1c];omega
    rw[this];exact Nat.div_mul_le_self _ _
   refine kj7 d l x hn k (lv+1) _ _ qqo (by simp[hL]) (succ_hi hbit hq) ?_ (fun i h=> ?_) (fun i hi=> ?_)
   ·simp only[TT];rw[hleft,hy];have:l.length/2^lv=2*(l.length/2^(lv+1))+1:=by rw[k1c];omega
    rw[<-this]
   ·rw[List.getElem_set];by_cases h1:lv=i
    ·rw[qh h1,qh qqo]
    ·rw[qf h1,hg i qqh];by_cases h2:i<lv
     ·rw[qh h2,qh qqo]
     ·rw[qf h2,qf qqo]
   ·rcases qay i lv with h1|h1
    ·exact hb i h1
    ·have:i=lv:=by omega
     subst this;unfold bitN;rw[hq];have:(l.length/2^i+1)%2=0:=by omega
     rw[this];rfl
  ·have hbit:bitN l.length lv=false:=by simpa using hbit
   rw[qf (by rw[hbit];decide)];have hev:¬l.length/2^lv%2=1:=by simpa[bitN]using hbit
   have hlo:=succ_lo hbit hq;apply List.ext_getElem
   ·simp[k1q,hL]
   ·intro i h1 h2;rw[k2q,List.getElem_set,qi,qbm];have hi:i<L.length:=by simpa using h1
    by_cases h3:lv=i
    ·subst h3;rw[qh rfl,hy];have:bitN (l.length+1) lv=true:=by unfold bitN;rw[hq];simp;omega
     rw[qh this,hq];rfl
    ·rw[qf h3,hg i hi];rcases qay i lv with h4|h4
     ·rw[qh h4,hb i h4];rfl
     ·have h5:lv<i:=by omega
      have hs:i<(leftS d l).length:=by rw[k1q];omega
      rw[qf qqo,gD_lt hs,k2q];have eb:bitN (l.length+1) i=bitN l.length i:=by unfold bitN;rw[hlo i h5]
      rw[eb,hlo i h5];by_cases hb2:bitN l.length i=true
      ·rw[qh hb2,qh hb2];refine(TT_app ?_).symm;have ho:l.length/2^i%2=1:=by simpa[bitN]using hb2
       have:l.length/2^i-1+1=l.length/2^i:=Nat.sub_add_cancel (Nat.pos_of_ne_zero fun h=>by rw[h]at ho;cases ho);rw[this];exact Nat.div_mul_le_self _ _
      ·rw[qf hb2,qf hb2]
theorem apF_frF {d:Int} {l:Li} {x:Int} (hn:l.length<2^d.toNat):apF (frF d l) x=frF d (l++[x]):=by
 have:=kj7 d.toNat l x hn (d.toNat+1) 0 (leftS d.toNat l) x qqo (k1q _ _) qqs (by simp[TT,lf]) (fun i h=>by
  rw[qf qqo,gD_lt h]) (fun i hi=>by omega)
 unfold apF frF;simp only[qu];rw[this];simp
def rootGo (f:wG):Nat->Nat->Int->Int->Int
 |0,_,_,x=>x
 |k+1,lv,e,x=>rootGo f k (lv+1) (nd e e) (if bitN f.we.toNat lv then nd (ix f.wh (lv:Int)) x else nd x e)
def rootF (f:wG):Int:=if f.we=((2^f.wC.toNat:Nat):Int)then ix f.wh f.wC else rootGo f f.wC.toNat 0 (emp 0) (emp 0)
theorem kgq (d:Int) (l:Li):∀(k lv:Nat) (x:Int),lv+k=d.toNat->x=TT (lf l) lv (l.length/2^lv)->rootGo (frF d l) k lv (emp lv) x=TT (lf l) (lv+k) (l.length/2^(lv+k))
 |0,lv,x,_,hx=>hx
 |k+1,lv,x,hk,hx=>by
  unfold rootGo;rw[show lv+(k+1)=lv+1+k by omega];have hc:(frF d l).we.toNat=l.length:=by simp[frF]
  rw[hc];refine kgq d l k (lv+1) _ qqo ?_;have hh:=k1c l.length lv;simp only[TT];by_cases hb:bitN l.length lv=true
  ·have ho:l.length/2^lv%2=1:=by simpa[bitN]using hb
   have hs:lv<(leftS d.toNat l).length:=by rw[k1q];omega
   rw[qh hb,show(frF d l).wh=leftS d.toNat l from rfl,ix_get _ _ hs,k2q,qh hb,hx];have e1:l.length/2^lv-1=2*(l.length/2^(lv+1)):=by omega
   have e2:l.length/2^lv=2*(l.length/2^(lv+1))+1:=by omega
   rw[e1,<-e2]
  ·have ho:¬l.length/2^lv%2=1:=by simpa[bitN]using hb
   rw[qf hb,hx];have e2:l.length/2^lv=2*(l.length/2^(lv+1)):=by omega
   rw[<-e2];congr 1;refine(TT_emp lv _ ?_).symm;have:=Nat.lt_div_mul_add (a:=l.length) (b:=2^lv) (qcg lv);rw[qbl,qda];omega
theorem k50 {d:Int} {l:Li} (h0:0<=d) (hn:l.length<=2^d.toNat):rootF (frF d l)=TT (lf l) d.toNat 0:=by
 unfold rootF;by_cases hc:(frF d l).we=((2^(frF d l).wC.toNat:Nat):Int)
 ·rw[qh hc];have hc:l.length=2^d.toNat:=by simp only[frF]at hc;omega
  have hs:d.toNat<(leftS d.toNat l).length:=by rw[k1q];omega
  have e:(frF d l).wC=(d.toNat:Int):=by simp only[frF];omega
  have e1:l.length/2^d.toNat=1:=by rw[hc];exact Nat.div_self (qcg _)
  have hb:bitN l.length d.toNat=true:=by unfold bitN;rw[e1];rfl
  rw[e,show(frF d l).wh=leftS d.toNat l from rfl,ix_get _ _ hs,k2q,qh hb,e1]
 ·rw[qf hc];have hc:l.length<2^d.toNat:=by simp only[frF]at hc;omega
  have:=kgq d l d.toNat 0 (emp 0) qqo (by simp[TT,lf]);rw[show(frF d l).wC=d from rfl,this,qao,qeu hc]
def trs (k:Li):Lo:=List.replicate k.length true
theorem k74 {m:Int}:∀{k:Li},(mIdx (BEq.beq m) k).isSome=decide (m∈k)
 |[]=>rfl
 |x::r=>by
  unfold mIdx;by_cases h:m=x
  ·subst h;simp
  ·have:BEq.beq m x=false:=by simpa using h
   rw[this,qbs,Option.isSome_map,k74];simp[h]
theorem sVal (k:Li) (m:Int):mVal (BEq.beq m) k (trs k) false=decide (m∈k):=by
 rw[<-k74];unfold mVal;cases h:mIdx (BEq.beq m) k with
 |none=>rfl
 |some j=>simp[trs,mIdx_lt h]
theorem sPut {k:Li} {m:Int} (h:m∉k):mPutK (BEq.beq m) k m=k++[m]/\mPutV (BEq.beq m) k (trs k) true=trs (k++[m]):=by
 have:mIdx (BEq.beq m) k=none:=by
  have:=k74 (m:=m) (k:=k);rw[qby h]at this;cases hq:mIdx (BEq.beq m) k with
  |none=>rfl
  |some j=>rw[hq]at this;cases this
 unfold mPutK mPutV;rw[this];exact⟨rfl,by simp[trs,List.replicate_succ']⟩
theorem k7g {m:Int}:∀{k:Li} {j:Nat},mIdx (BEq.beq m) k=some j->k.eraseIdx j=k.erase m
 |x::r,j,h=>by
  unfold mIdx at h;by_cases e:m=x
  ·subst e;simp at h;subst h;simp
  ·have e2:BEq.beq m x=false:=by simpa using e
   rw[e2,qbs]at h;cases hq:mIdx (BEq.beq m) r with
   |none=>rw[hq]at h;cases h
   |some i=>rw[hq]at h;simp at h;subst h;rw[List.eraseIdx_cons_succ,k7g hq,List.erase_cons_tail (by simpa using fun h=>e h.symm)]
theorem sDel (k:Li) (m:Int):mDelK (BEq.beq m) k=k.erase m/\mDelV (BEq.beq m) k (trs k)=trs (k.erase m):=by
 unfold mDelK mDelV;cases h:mIdx (BEq.beq m) k with
 |none=>
  have h2:m∉k:=by have:=k74 (m:=m) (k:=k);rw[h]at this;simpa using this.symm
  rw[List.erase_of_not_mem h2];exact⟨rfl,rfl⟩
 |some j=>
  refine⟨k7g h,?_⟩;have hj:=mIdx_lt h;rw[<-k7g h];unfold trs;refine List.eq_replicate_iff.2 ⟨?_,fun b hb=> ?_⟩
  ·simp[List.length_eraseIdx]
  ·exact(List.eq_replicate_iff.1 rfl).2 b (qfb hb)
def addS (l k:Li):Int×Li:=if(l.any fun m=>decide (m∈k))|| !decide l.Nodup then(12,k)else(0,k++l)
def remS (l k:Li):Int×Li:=if(l.any fun m=> !decide (m∈k))|| !decide l.Nodup then(4,k)else(0,l.foldl List.erase k)
theorem kng {m:Int} {k r:Li} (h:m∉k):(k++m::r).erase m=k++r:=by rw[List.erase_append_right _ h,List.erase_cons_head]
theorem rem_add:∀{l k:Li},(k++l).Nodup->l.foldl List.erase (k++l)=k
 |[],k,_=>by simp
 |m::r,k,h=>by
  have h1:m∉k:=fun hm=>by rw[qbz]at h;exact h.2.2 m hm m qqs rfl
  rw[qfa,kng h1];refine rem_add ?_;rw[qbz]at h ⊢;refine⟨h.1,(qcx.1 h.2.1).2,fun a ha b hb=>h.2.2 a ha b (by simp[hb])⟩
def pws (n:Nat) (z b:Int):Bool:=(List.range n).any fun j=>b==z*((2^j:Nat):Int)
def prS (p:wAa):Bool:=pws 8 2 p.wBE&&pws 4 1 p.wAq&&decide (1<=p.wBD)&&decide (p.wBD<=64)
def rulesB (p:wE):Bool:=decide (1<=p.wb)&&decide (p.wb<=3)&&decide (1<=p.wC)&&decide (p.wC<=12)&&decide (1<=p.wc)&&decide (p.wc<=100)&&decide (1<=p.wU)&&decide (p.wU<=1048576)&&decide (p.wV<=4294967296)&&decide (1<=p.wW)&&decide (p.wW<=65536)
def rulesE (p:wE):Int:=if rulesB p then(if p.wb=1 then(if prS ⟨p.wR,p.wO,p.wN⟩then 0 else 1)else 0)else 1
theorem pws_and (b:Nat) (h:2<=b/\b<=256):(iand .i64 (b:Int) (((b:Int))-1)==0)=pws 8 2 b:=by
 have:∀b∈List.range' 2 255,(iand .i64 ((b:Nat):Int) (((b:Nat):Int)-1)==0)=pws 8 2 ((b:Nat):Int):=by decide +kernel
 exact this b (by rw[List.mem_range'_1];omega)
theorem kgl {n:Nat} {z b:Int} (h:pws n z b=true) (hz:0<z):z<=b/\b<=z*((2^(n-1):Nat):Int):=by
 obtain⟨j,hj,e⟩:=List.any_eq_true.1 h;have hj:j<n:=by simpa using hj
 have e:b=z*((2^j:Nat):Int):=by simpa using e
 have h1:1<=2^j:=qcg j;have h2:2^j<=2^(n-1):=qcs qqd qqo;rw[e];constructor
 ·have:=qel (show(1:Int)<=((2^j:Nat):Int)by omega) (show 0<=z by omega);omega
 ·exact qel qqo qqo
theorem k7r (n:Nat) (z b:Int):pws (n+1) z b=(pws n z b||b==z*((2^n:Nat):Int)):=by simp[pws,List.range_succ]
structure TState where
 Rules_Mode:Int
 Rules_Depth:Int
 Rules_Proof_Block:Int
 Rules_Proof_Blowup:Int
 Rules_Proof_Queries:Int
 Rules_Reward:Int
 Rules_Window:Int
 Rules_Finality:Int
 Rules_Work:Int
 wM:Int
 Leaves:Li
 wJ:Li
 wF:List wA
 wBC:Int
 Roots:Li
 deriving Inhabited,DecidableEq
structure PS where
 R:wE
 F:wG
 b:List wA
 n:Int
 l:Li
 r:Li
 p:List wK
 k:Li
 v:Lo
def ancL (r:Li) (w:Int):Li:=r.drop (r.length-w.toNat)
def chk (h:Int) (anc k:Li) (b:List wA) (n:Int) (ll:Nat) (d:Int) (t:wZ):Int:=
 if validE t≠0 then validE t else if t.wAf<h+1 then 14 else if t.wa∉anc then 11 else if t.wJ.any (fun m=>decide (m∈k))=true then 12
 else if 0<t.wQ/\(debitA b t.wX t.wQ t.wY).2≠0 then(debitA b t.wX t.wQ t.wY).2
 else if u64.wrap (n+t.wQ)<u64.wrap (t.wT+t.Fee)then 13 else if 2^d.toNat<ll+t.wD.length then 16 else 0
def chkS (s:PS) (t:wZ):Int:=chk (s.p.length:Int) (ancL s.r s.R.wc) s.k s.b s.n s.l.length s.R.wC t
def outsF (F:wG) (o:List wAc):wG:=o.foldl (fun f x=>apF f x.wg) F
def depA (b:List wA) (t:wZ):List wA:=if 0<t.wQ then(debitA b t.wX t.wQ t.wY).1 else b
def wdA (b:List wA) (t:wZ):List wA×Int:=if 0<t.wT then creditA (depA b t) t.wX t.wT else(depA b t,0)
def hidN (n:Int) (t:wZ):Int:=u64.wrap (u64.wrap (u64.wrap (n+t.wQ)-t.wT)-t.Fee)
structure PE where
 e:Int
 s:PS
def perfS (s:PS) (t:wZ):PE:=
 if(wdA s.b t).2≠0 then⟨(wdA s.b t).2,{s with F:=outsF s.F t.wD,l:=s.l++t.wD.map (·.wg),k:=s.k++t.wJ,v:=trs (s.k++t.wJ),b:=depA s.b t}⟩
 else⟨0,{s with F:=outsF s.F t.wD,l:=s.l++t.wD.map (·.wg),k:=s.k++t.wJ,v:=trs (s.k++t.wJ),b:=(wdA s.b t).1,n:=hidN s.n t}⟩
structure PB where
 e:Int
 s:PS
 m:Li
 f:Int
def blkGo:List wZ->PS->Li->Int->PB
 |[],s,m,f=>⟨0,s,m,f⟩
 | t::r,s,m,f=>if chkS s t≠0 then⟨chkS s t,s,m,f⟩else if(perfS s t).e≠0 then⟨(perfS s t).e,(perfS s t).s,m++t.wJ,f⟩
   else blkGo r (perfS s t).s (m++t.wJ) (u64.wrap (f+t.Fee))
def crB (x:PB) (b:wI):List wA×Int:=creditA x.s.b b.wAl (u64.wrap (x.s.R.wV+x.f))
def blkS (s:PS) (m:Li) (b:wI):PB:=
 if(blkGo b.Txs s m 0).e≠0 then blkGo b.Txs s m 0
 else if(crB (blkGo b.Txs s m 0) b).2≠0 then {blkGo b.Txs s m 0 with e:=(crB (blkGo b.Txs s m 0) b).2}
 else {blkGo b.Txs s m 0 with e:=0,s:={(blkGo b.Txs s m 0).s with b:=(crB (blkGo b.Txs s m 0) b).1}}
def befS (s:PS) (m:Li):wK:=⟨s.F.wC,s.F.we,s.F.wh,s.l.length,m,s.b,s.n⟩
def applyS (s:PS) (b:wI):PE:=
 if b.wM≠(s.p.length:Int)+1 then⟨18,s⟩else if 18446744069414584321<=b.wAl then⟨1,s⟩else
 if(blkS s [] b).e≠0 then⟨(blkS s [] b).e,s⟩
 else⟨0,{(blkS s [] b).s with p:=s.p++[befS s (blkS s [] b).m],r:=s.r++[rootF (blkS s [] b).s.F]}⟩
def resS (s:PS) (q:wK):PS:={s with F:=⟨q.wBI,q.wBJ,q.wBL⟩,b:=q.wBA,n:=q.hidden,l:=s.l.take q.leaves.toNat,k:=(remS q.marks s.k).2,v:=trs (remS q.marks s.k).2}
def undoS (s:PS):PS:=if s.p=[]then s else {resS s (ix s.p ((s.p.length:Int)-1))with p:=s.p.take (s.p.length-1),r:=s.r.take (s.r.length-1)}
def newS (r:wE):PS:=⟨r,frF r.wC [],[],0,[],[rootF (frF r.wC [])],[],[],[]⟩
def BG (l:Li):Prop:=∀x∈l,0<=x/\x<18446744069414584321
def sumA (l:List wA):Int:=(l.map (·.wd)).sum
structure PI (s:PS) (c:Nat) (f:Int):Prop where
 d1:1<=s.R.wC
 d2:s.R.wC<=12
 w1:1<=s.R.wc
 w2:s.R.wc<=100
 rw:0<=s.R.wV/\s.R.wV<=4294967296
 F:s.F=frF s.R.wC s.l
 ll:s.l.length<=2^s.R.wC.toNat
 l:BG s.l
 b:GoodA c s.b
 n:0<=s.n
 ff:0<=f
 sup:sumA s.b+s.n+f=(s.p.length:Int)*s.R.wV
 r:BG s.r
 rl:s.r.length=s.p.length+1
 p:s.p.length<=c
 kn:s.k.Nodup
 kb:BG s.k
 kl:s.k.length<=4*c
 v:s.v=trs s.k
theorem sum_app (a b:List wA):sumA (a++b)=sumA a+sumA b:=by simp[sumA]
theorem sumA_nn {l:List wA} (h:∀a∈l,0<=a.wd):0<=sumA l:=by
 induction l with
 |nil=>exact qce _
 |cons a l ih=>
  have h1:=h a qqs;have h2:=ih fun x hx=>h x (by simp[hx]);have:sumA (a::l)=a.wd+sumA l:=by simp[sumA]
  omega
theorem sum_put {l:List wA} {x:wA} (hs:Srt l):sumA (putA l x)=sumA l-(getA l x.ID).wd+x.wd:=by
 obtain⟨a,m,b,h⟩:=spl_of hs x.ID;rw[put_spl hs h,get_spl h,h.1]
 have e1:sumA (if x.wd≠0∨x.wY≠0 then [x]else [])=x.wd:=by
  split
  ·simp[sumA]
  ·rename_i hh;have:x.wd=0:=qp fun hb=>hh (.inl hb);rw[this];rfl
 have e2:sumA m=(m.headD ⟨x.ID,0,0⟩).wd:=by
  rcases h.2.2.1 with rfl|⟨y,rfl,_⟩
  ·rfl
  ·simp[sumA]
 simp only[sum_app,e1,e2];omega
theorem kdz {l:List wA} {id amt:Int} (hs:Srt l) (h:(creditA l id amt).2=0):sumA (creditA l id amt).1=sumA l+amt:=by
 unfold creditA at h ⊢;split at h
 ·cases h
 ·rename_i hh;rw[qf hh];have:=sum_put (x:=⟨id,(getA l id).wd+amt,(getA l id).wY⟩) hs;rw[this];simp only;omega
theorem knd {l:List wA} {id amt non:Int} (hs:Srt l) (h:(debitA l id amt non).2=0):sumA (debitA l id amt non).1=sumA l-amt:=by
 unfold debitA at h ⊢;split at h
 ·cases h
 ·rename_i h1;rw[qf h1];split at h
  ·cases h
  ·rename_i h2;rw[qf h2];split at h
   ·cases h
   ·rename_i h3;rw[qf h3];have:=sum_put (x:=⟨id,(getA l id).wd-amt,non+1⟩) hs;rw[this];simp only;omega
theorem tot_sum:∀{l:List wA} {s:Int},(∀a∈l,0<=a.wd)->s+sumA l<18446744073709551616->totA s l=(s+sumA l,0)
 |[],s,_,_=>by simp[totA,sumA]
 |a::r,s,hn,h=>by
  have e:sumA (a::r)=a.wd+sumA r:=by simp[sumA]
  have h1:=hn a qqs;have h2:=sumA_nn (l:=r) fun x hx=>hn x (by simp[hx]);rw[e]at h ⊢;unfold totA;rw[qf qqo,tot_sum (fun x hx=>hn x (by simp[hx])) qqo];rw[Int.add_assoc]
structure CK (s:PS) (t:wZ):Prop where
 v:VT t
 m:∀m∈t.wJ,m∉s.k
 d:0<t.wQ->(debitA s.b t.wX t.wQ t.wY).2=0
 h:¬u64.wrap (s.n+t.wQ)<u64.wrap (t.wT+t.Fee)
 l:s.l.length+t.wD.length<=2^s.R.wC.toNat
theorem kcx {s:PS} {t:wZ} (h:chkS s t=0):CK s t:=by
 unfold chkS chk at h;split at h
 ·rename_i h1;exact(h1 h).elim
 ·rename_i h1;split at h
  ·cases h
  ·split at h
   ·cases h
   ·split at h
    ·cases h
    ·rename_i h4;split at h
     ·rename_i h5;exact(h5.2 h).elim
     ·rename_i h5;split at h
      ·cases h
      ·rename_i h6;split at h
       ·cases h
       ·rename_i h7;refine⟨(k12 t).1 (qp h1),fun m hm hk=>h4 ?_,fun hd=>qp fun he=>h5 ⟨hd,he⟩,h6,by omega⟩;exact List.any_eq_true.2 ⟨m,hm,by simpa using hk⟩
theorem VT.am' {t:wZ} (v:VT t):t.wQ<=4294967295/\t.wT<=4294967295/\t.Fee<=4294967295/\t.wX<18446744069414584321/\(0<t.wQ->t.wT=0):=by have:=v.am;simp only[vAmounts,qe,qae]at this;obtain⟨⟨⟨⟨⟨a1,a2⟩,a3⟩,a4⟩,a5⟩,a6⟩:=this;refine⟨a1,a2,a3,a4,fun h=> ?_⟩;rw[qh h]at a6;simpa using a6
theorem kbq {d:Int}:∀{o:List wAc} {l:Li},l.length+o.length<=2^d.toNat->outsF (frF d l) o=frF d (l++o.map (·.wg))
 |[],l,_=>by simp[outsF]
 |x::o,l,h=>by have h:l.length+(o.length+1)<=2^d.toNat:=h;show outsF (apF (frF d l) x.wg) o=_;rw[apF_frF qqo,kbq qqm,qw];rfl
theorem sup_bd {s:PS} {c:Nat} {f:Int} (h:PI s c f) (hc:c<=800):sumA s.b<=3435973836800/\s.n<=3435973836800/\f<=3435973836800/\0<=sumA s.b:=by have h0:=sumA_nn (l:=s.b) fun a ha=>(h.b.1.2.2 a ha).2.1.1;have h1:=h.sup;have h2:=h.n;have h3:=h.ff;have h4:(s.p.length:Int)*s.R.wV<=800*4294967296:=qec (by have:=h.p;omega) h.rw.2 h.rw.1 qqd;omega
theorem PI.perf {s:PS} {c:Nat} {f:Int} (h:PI s c f) (hc:c<=800) {t:wZ} (ht:TR t) (k:CK s t):(∃g,PI {(perfS s t).s with b:=s.b,n:=s.n} (c+1) g)/\GoodA (c+1) (perfS s t).s.b/\
  ((perfS s t).e=0->PI (perfS s t).s (c+1) (f+t.Fee)):=by
 obtain⟨a1,a2,a3,a4,a5⟩:=k.v.am';obtain⟨s1,s2,s3,s4⟩:=sup_bd h hc;have hd0:=ht.d.1;have hw0:=ht.w.1;have hf0:=ht.f.1;have hk:=k.h;rw[wrap_u64 (s.n+t.wQ) (by have:=h.n;omega) qqo,wrap_u64 (t.wT+t.Fee) qqo qqo]at hk;have hF:outsF s.F t.wD=frF s.R.wC (s.l++t.wD.map (·.wg)):=by rw[h.F];exact kbq k.l
 have hl:BG (s.l++t.wD.map (·.wg)):=by
  intro x hx;rcases qac.1 hx with hx|hx
  ·exact h.l x hx
  ·obtain⟨o,ho,rfl⟩:=qaj.1 hx;exact⟨(ht.o o ho).c.1,(k.v.o o ho).c⟩
 have hkb:BG (s.k++t.wJ):=by
  intro x hx;rcases qac.1 hx with hx|hx
  ·exact h.kb x hx
  ·exact⟨(ht.m x hx).1,k.v.m x hx⟩
 have hkn:(s.k++t.wJ).Nodup:=by rw[qbz];exact⟨h.kn,k.v.mn,fun a ha b hb e=>k.m b hb (e▸ha)⟩
 have hkl:(s.k++t.wJ).length<=4*(c+1):=by rw[qi];have:=h.kl;have:=k.v.ml;omega
 have hdep:GoodA (c+1) (depA s.b t)/\(t.wQ=0->depA s.b t=s.b)/\sumA (depA s.b t)=sumA s.b-t.wQ:=by
  unfold depA;split
  ·rename_i hd;exact⟨kf8 h.b qqo ⟨ht.ac.1,a4⟩ hd0 ⟨ht.n.1,by have:=ht.n.2;omega⟩,fun h0=>by omega,knd h.b.1.1 (k.d hd)⟩
  ·rename_i hd;exact⟨⟨h.b.1,h.b.2.1,Nat.le_succ_of_le h.b.2.2⟩,fun _=>rfl,by omega⟩
 have hwd:GoodA (c+1) (wdA s.b t).1/\((wdA s.b t).2=0->sumA (wdA s.b t).1=sumA s.b-t.wQ+t.wT):=by
  unfold wdA;split
  ·rename_i hw
   have hz:t.wQ=0:=by
    rcases Int.lt_or_le 0 t.wQ with h1|h1
    ·have:=a5 h1;omega
    ·omega
   rw[hdep.2.1 hz];exact⟨kb1 h.b qqo ⟨ht.ac.1,a4⟩ hw0,fun he=>by rw[kdz h.b.1.1 he];omega⟩
  ·exact⟨hdep.1,fun _=>by simp only;omega⟩
 have hlen:(s.l++t.wD.map (·.wg)).length<=2^s.R.wC.toNat:=by simp only[qi,ql];exact k.l
 refine⟨⟨f,?_⟩,?_,?_⟩
 ·have base:PI {s with F:=outsF s.F t.wD,l:=s.l++t.wD.map (·.wg),k:=s.k++t.wJ,v:=trs (s.k++t.wJ)} (c+1) f:=
   ⟨h.d1,h.d2,h.w1,h.w2,h.rw,hF,hlen,hl,⟨h.b.1,h.b.2.1,Nat.le_succ_of_le h.b.2.2⟩,h.n,h.ff,h.sup,h.r,h.rl,by have:=h.p;simp only;omega,hkn,hkb,hkl,rfl⟩
  unfold perfS;split
  ·exact base
  ·exact base
 ·unfold perfS;split
  ·exact hdep.1
  ·exact hwd.1
 ·intro he;unfold perfS at he ⊢;split at he
  ·rename_i h1;exact(h1 he).elim
  ·rename_i h1;rw[qf h1];have hz:(wdA s.b t).2=0:=qp h1;have hn0:=h.n;have hh:hidN s.n t=s.n+t.wQ-t.wT-t.Fee:=by unfold hidN;rw[wrap_u64 (s.n+t.wQ) qqo qqo,wrap_u64 (s.n+t.wQ-t.wT) qqo qqo,wrap_u64 _ qqo qqo]
   refine⟨h.d1,h.d2,h.w1,h.w2,h.rw,hF,hlen,hl,hwd.1,?_,by have:=h.ff;omega,?_,h.r,h.rl,by have:=h.p;simp only;omega,hkn,hkb,hkl,rfl⟩
   ·simp only[hh];omega
   ·have h9:=h.sup;simp only[hh,hwd.2 hz];omega
theorem k5h (s:PS) (t:wZ):(perfS s t).s.R=s.R/\(perfS s t).s.p=s.p/\(perfS s t).s.r=s.r/\(perfS s t).s.l=s.l++t.wD.map (·.wg)/\(perfS s t).s.k=s.k++t.wJ/\(perfS s t).s.v=trs (s.k++t.wJ):=by unfold perfS;split<;>exact⟨rfl,rfl,rfl,rfl,rfl,rfl⟩
structure BI (s0 s:PS) (m:Li):Prop where
 R:s.R=s0.R
 p:s.p=s0.p
 r:s.r=s0.r
 l:∃x,s.l=s0.l++x
 k:s.k=s0.k++m
 kn:s.k.Nodup
 kb:BG s.k
 v:s.v=trs s.k
 lb:BG s.l
 F:s.F=frF s.R.wC s.l
 ll:s.l.length<=2^s.R.wC.toNat
theorem BI.refl {s:PS} {c:Nat} {f:Int} (h:PI s c f):BI s s []:=⟨rfl,rfl,rfl,⟨[],by simp⟩,by simp,h.kn,h.kb,h.v,h.l,h.F,h.ll⟩
theorem BI.perf {s0 s:PS} {m:Li} {c:Nat} {f:Int} (b:BI s0 s m) (h:PI s c f) (hc:c<=800) {t:wZ} (ht:TR t) (k:CK s t):BI s0 (perfS s t).s (m++t.wJ):=by
 obtain⟨⟨g,h1⟩,_,_⟩:=h.perf hc ht k;obtain⟨k1,k2,k3,k4,k5,k6⟩:=k5h s t;refine⟨k1.trans b.R,k2.trans b.p,k3.trans b.r,?_,?_,h1.kn,h1.kb,h1.v,h1.l,h1.F,h1.ll⟩
 ·obtain⟨x,hx⟩:=b.l;exact⟨x++t.wD.map (·.wg),by rw[k4,hx,qw]⟩
 ·rw[k5,b.k,qw]
structure BO (s0:PS) (x:PB) (c:Nat):Prop where
 b:BI s0 x.s x.m
 ok:x.e=0->PI x.s c x.f
theorem kir {s:PS} {c:Nat} {f:Int} (h:PI s c f) (hc:c<=800) {t:wZ} (ht:TR t) (k:CK s t):u64.wrap (f+t.Fee)=f+t.Fee:=by obtain⟨a1,a2,a3,a4,a5⟩:=k.v.am';obtain⟨s1,s2,s3,s4⟩:=sup_bd h hc;exact wrap_u64 _ (by have:=h.ff;have:=ht.f.1;omega) qqo
theorem k70:∀{r:List wZ} {s0 s:PS} {m:Li} {c:Nat} {f:Int},BI s0 s m->PI s c f->c+r.length<=800->(∀t∈r,TR t)->BO s0 (blkGo r s m f) (c+r.length)
 |[],s0,s,m,c,f,b,h,_,_=>⟨b,fun _=>h⟩
 |t::r,s0,s,m,c,f,b,h,hc,ht=>by
  have hc:c+(r.length+1)<=800:=hc;unfold blkGo;split
  ·rename_i h1;exact⟨b,fun he=>(h1 he).elim⟩
  ·rename_i h1;have k:=kcx (qp h1);have tt:=ht t qqs;have b2:=b.perf h qqo tt k;split
   ·rename_i h2;exact⟨b2,fun he=>(h2 he).elim⟩
   ·rename_i h2;have h3:=(h.perf qqo tt k).2.2 (qp h2);rw[kir h qqo tt k];have:=k70 (r:=r) b2 h3 qqo (fun t ht' =>ht t (by simp[ht']));rw[show c+(t::r).length=c+1+r.length by simp;omega];exact this
structure BR' (b:wI):Prop where
 m:U64 b.wAl
 t:∀t∈b.Txs,TR t
 l:∀t∈b.Txs,TL t
theorem kjr {x:PB} {c:Nat} (h:PI x.s c x.f) (hc:c<=800):u64.wrap (x.s.R.wV+x.f)=x.s.R.wV+x.f/\U64 (x.s.R.wV+x.f):=by obtain⟨s1,s2,s3,s4⟩:=sup_bd h hc;have h1:=h.rw;have h2:=h.ff;exact⟨wrap_u64 _ qqo qqo,by omega,by omega⟩
theorem blkS_BI {s:PS} {c:Nat} (h:PI s c 0) {b:wI} (hc:c+b.Txs.length<=800) (hb:BR' b):BI s (blkS s [] b).s (blkS s [] b).m:=by
 have:=(k70 (BI.refl h) h hc hb.t).b;unfold blkS;split
 ·exact this
 ·split
  ·exact this
  ·exact⟨this.R,this.p,this.r,this.l,this.k,this.kn,this.kb,this.v,this.lb,this.F,this.ll⟩
theorem kka {s0 s:PS} {m:Li} (h:BI s0 s m) (hv:s0.v=trs s0.k):resS s (befS s0 m)=s0:=by
 have hk:(remS m s.k).2=s0.k:=by
  have hn:=h.kn;rw[h.k]at hn ⊢;unfold remS;have e1:(m.any fun x=> !decide (x∈s0.k++m))=false:=by rw[List.any_eq_false];intro x hx;simp[hx]
  have e2:m.Nodup:=by rw[qbz]at hn;exact hn.2.1
  rw[e1,qbr e2];exact rem_add hn
 obtain⟨x,hx⟩:=h.l;unfold resS befS;simp only[qu];rw[hk,h.R,h.p,h.r,hx,List.take_left,<-hv]
theorem kmb {s:PS} {c:Nat} (h:PI s c 0) {b:wI} (hc:c+b.Txs.length<=800) (hb:BR' b) (he:(applyS s b).e=0):undoS (applyS s b).s=s/\(applyS s b).s.p.length=s.p.length+1:=by
 have hB:=blkS_BI h hc hb;unfold applyS at he ⊢;split at he
 ·cases he
 ·rename_i h1;rw[qf h1];split at he
  ·cases he
  ·rename_i h2;rw[qf h2];split at he
   ·rename_i h3;exact(h3 he).elim
   ·rename_i h3;rw[qf h3];refine⟨?_,by simp⟩;unfold undoS;rw[qf qqs]
    have e:ix (s.p++[befS s (blkS s [] b).m]) (((s.p++[befS s (blkS s [] b).m]).length:Int)-1)=befS s (blkS s [] b).m:=by
     have:(((s.p++[befS s (blkS s [] b).m]).length:Int)-1)=((s.p.length:Nat):Int):=by simp
     rw[this,ix_get _ _ qqs];simp
    simp only[e];have hr:=kka hB h.v;have hrl:=h.rl;have e3:(s.p++[befS s (blkS s [] b).m]).take ((s.p++[befS s (blkS s [] b).m]).length-1)=s.p:=by simp
    have e4:(s.r++[rootF (blkS s [] b).s.F]).take ((s.r++[rootF (blkS s [] b).s.F]).length-1)=s.r:=by simp
    rw[e3,e4];have hq:∀(y:PS) (q:wK) (p' :List wK) (r' :Li),({resS {y with p:=p',r:=r'} q with p:=s.p,r:=s.r}:PS)={resS y q with p:=s.p,r:=s.r}:=fun _ _ _ _=>rfl;rw[hq,hr]
theorem k7c {s:PS} {c:Nat} (h:PI s c 0) {b:wI} (hc:c+b.Txs.length<=790) (hb:BR' b) (he:(applyS s b).e=0):PI (applyS s b).s (c+b.Txs.length+1) 0:=by
 have hB:=k70 (BI.refl h) h qqo hb.t;unfold applyS at he ⊢;split at he
 ·cases he
 ·rename_i h1;rw[qf h1];split at he
  ·cases he
  ·rename_i h2;rw[qf h2];unfold blkS at he ⊢;by_cases h3:(blkGo b.Txs s [] 0).e≠0
   ·rw[qh h3,qh h3]at he;exact(h3 he).elim
   ·rw[qf h3]at he ⊢;have hP:=hB.ok (qp h3);by_cases h4:(crB (blkGo b.Txs s [] 0) b).2≠0
    ·rw[qh h4,qh h4]at he;exact(h4 he).elim
    ·rw[qf h4,qf qqs];have h4:(crB (blkGo b.Txs s [] 0) b).2=0:=qp h4;generalize blkGo b.Txs s [] 0=x at *
     have hw:=kjr hP qqo;have hB:=hB.b;unfold crB at h4 ⊢;rw[hw.1]at h4 ⊢;have hF:=hP.F;have hr:=k50 (d:=x.s.R.wC) (l:=x.s.l) (by have:=hP.d1;omega) hP.ll;refine⟨hP.d1,hP.d2,hP.w1,hP.w2,hP.rw,hP.F,hP.ll,hP.l,kb1 hP.b qqo ⟨hb.m.1,by omega⟩ hw.2.1,hP.n,qce _,?_,?_,?_,?_,hP.kn,hP.kb,?_,hP.v⟩
     ·have h9:=hP.sup;simp only[kdz hP.b.1.1 h4];rw[hB.p]at h9;rw[qi,qbm];have:((s.p.length+1:Nat):Int)*x.s.R.wV=(s.p.length:Int)*x.s.R.wV+x.s.R.wV:=by rw[Int.natCast_add,Int.add_mul];simp
      rw[this];omega
     ·intro y hy;rcases qac.1 hy with hy|hy
      ·exact h.r y hy
      ·rw[qaf.1 hy,hF,hr];exact TT_r hP.l _ _
     ·have:=h.rl;simp only[qi,qbm];omega
     ·have:=h.p;simp only[qi,qbm];omega
     ·have:=hP.kl;simp only;omega
theorem kkg:∀{r:List wZ} {s:PS} {m:Li} {f:Int},(blkGo r s m f).m.length<=m.length+4*r.length
 |[],_,_,_=>by simp[blkGo]
 |t::r,s,m,f=>by
  unfold blkGo;split
  ·simp
  ·rename_i h1;have:=(kcx (qp h1:chkS s t=0)).v.ml;split
   ·simp;omega
   ·have:=kkg (r:=r) (s:=(perfS s t).s) (m:=m++t.wJ) (f:=u64.wrap (f+t.Fee));rw[qi]at this;simp;omega
theorem blkS_ml (s:PS) (b:wI):(blkS s [] b).m.length<=4*b.Txs.length:=by
 have:=kkg (r:=b.Txs) (s:=s) (m:=[]) (f:=0);rw[qaq,qao]at this;unfold blkS;split
 ·exact this
 ·split<;>exact this
structure UOk (s:PS):Prop where
 v:s.v=trs s.k
 kl:s.k.length<=1000000
 r:1<=s.r.length
 rl:s.r.length<=1000000
 pl:s.p.length<=1000000
 q:s.p≠[]->(ix s.p ((s.p.length:Int)-1)).marks.length<=1000000/\0<=(ix s.p ((s.p.length:Int)-1)).leaves/\(ix s.p ((s.p.length:Int)-1)).leaves<=(s.l.length:Int)
theorem take_set' {α:Type} (l:List α) (n:Nat) (x:α):(l.set n x).take n=l.take n:=by
 apply List.ext_getElem
 ·simp
 ·intro i h1 h2;rw[qaa]at h2;rw[List.getElem_take,List.getElem_take,List.getElem_set,qf qqo]
theorem ko8 {s:PS} {c:Nat} (h:PI s c 0) {b:wI} (hc:c+b.Txs.length<=790) (hb:BR' b) (he:(applyS s b).e=0):UOk (applyS s b).s:=by
 have hP:=k7c h hc hb he;have hB:=blkS_BI h qqo hb;have hml:=blkS_ml s b;have hp:=hP.p;have hk:=hP.kl;have hr:=hP.rl;refine⟨hP.v,by omega,by omega,by omega,by omega,fun _=> ?_⟩;unfold applyS at he ⊢;split at he
 ·cases he
 ·rename_i h1;rw[qf h1];split at he
  ·cases he
  ·rename_i h2;rw[qf h2];split at he
   ·rename_i h3;exact(h3 he).elim
   ·rename_i h3;rw[qf h3]
    have e:ix (s.p++[befS s (blkS s [] b).m]) (((s.p++[befS s (blkS s [] b).m]).length:Int)-1)=befS s (blkS s [] b).m:=by
     have:(((s.p++[befS s (blkS s [] b).m]).length:Int)-1)=((s.p.length:Nat):Int):=by simp
     rw[this,ix_get _ _ qqs];simp
    simp only[e];obtain⟨x,hx⟩:=hB.l;refine⟨?_,?_,?_⟩
    ·show(blkS s [] b).m.length<=1000000;omega
    ·show(0:Int)<=(s.l.length:Int);omega
    ·show(s.l.length:Int)<=((blkS s [] b).s.l.length:Int);rw[hx,qi];omega
def sumW (l:List wZ):Int:=(l.map weightS).sum
theorem kqp (l:List wZ) (x:wZ):sumW (l++[x])=sumW l+weightS x:=by simp[sumW]
theorem kdv {t:wZ} (h:validE t=0):0<=weightS t/\weightS t<=1048880:=by have v:=(k12 t).1 h;have:=v.enc_len t.wv;have:=v.pl;unfold weightS;rw[qh h];omega
theorem sumW_bd:∀(l:List wZ),(∀x∈l,validE x=0)->0<=sumW l/\sumW l<=1048880*l.length
 |[],_=>by simp[sumW]
 |x::l,h=>by
  have h1:=sumW_bd l (fun y hy=>h y (by simp[hy]));have h2:=kdv (h x qqs);have e:sumW (x::l)=weightS x+sumW l:=by simp[sumW]
  rw[e,qr];omega
structure BR (b:wI):Prop where
 p:U64 b.wm
 m:U64 b.wAl
 w:U64 b.wW
 n:U64 b.wY
 h: -9223372036854775808<=b.wM/\b.wM<=9223372036854775807
 t:∀x∈b.Txs,TR x
structure VB0 (b:wI):Prop where
 h0:1<=b.wM
 h1:b.wM<=1048576
 w0:1<=b.wW
 w1:b.wW<=65536
 p:b.wm<18446744069414584321
 m:b.wAl<18446744069414584321
 l:b.Txs.length<=64
def vHead (b:wI):Bool:=decide (1<=b.wM)&&decide (b.wM<=1048576)&&decide (1<=b.wW)&&decide (b.wW<=65536)&&decide (b.wm<18446744069414584321)&&decide (b.wAl<18446744069414584321)&&decide (b.Txs.length<=64)
theorem k5g (b:wI):vHead b=true↔VB0 b:=by
 unfold vHead;simp only[qe,qae];constructor
 ·rintro ⟨⟨⟨⟨⟨⟨a,b⟩,c⟩,d⟩,e⟩,f⟩,g⟩;exact⟨a,b,c,d,e,f,g⟩
 ·rintro ⟨a,b,c,d,e,f,g⟩;exact⟨⟨⟨⟨⟨⟨a,b⟩,c⟩,d⟩,e⟩,f⟩,g⟩
def validB (b:wI):Int:=if vHead b=true/\∀t∈b.Txs,validE t=0 then(if sumW b.Txs<=2097152 then 0 else 3)else 1
structure VB (b:wI):Prop where
 h:VB0 b
 t:∀x∈b.Txs,validE x=0
 s:sumW b.Txs<=2097152
theorem k5y (b:wI):validB b=0↔VB b:=by
 unfold validB;split
 ·rename_i h;split
  ·rename_i hs;exact⟨fun _=>⟨(k5g b).1 h.1,h.2,hs⟩,fun _=>rfl⟩
  ·rename_i hs;exact⟨fun e=>absurd e qqd,fun e=>absurd e.s hs⟩
 ·rename_i h;exact⟨fun e=>absurd e qqd,fun e=>absurd ⟨(k5g b).2 e.h,e.t⟩ h⟩
theorem km1 {b:wI} (h:¬VB0 b):validB b=1:=qf fun e=>h ((k5g b).1 e.1)
theorem koc {b:wI} {x:wZ} (hx:x∈b.Txs) (h:validE x≠0):validB b=1:=qf fun e=>h (e.2 x hx)
theorem kny {b:wI} (h:VB0 b) (ht:∀x∈b.Txs,validE x=0):validB b=if sumW b.Txs<=2097152 then 0 else 3:=qh ⟨(k5g b).2 h,ht⟩
def hdrS (b:wI):Li:=dig 8 b.wm++dig 4 (len4 b.wM)++dig 8 b.wAl++dig 8 b.wW++dig 8 b.wY++dig 4 (len4 (b.Txs.length:Int))
@[simp] theorem kma (b:wI):(hdrS b).length=40:=by simp[hdrS]
theorem hdrS_by (b:wI):By (hdrS b):=((((((dig_by _ _).append (dig_by _ _)).append (dig_by _ _)).append (dig_by _ _)).append (dig_by _ _)).append (dig_by _ _))
def namS (b:wI):Li:=hdrS b++(b.Txs.map idS).flatMap (dig 8)
def idB (b:wI):Int:=if validB b=0 then hashB 15 (namS b)else 0
theorem knh (label:Int) (l:Li):U64 (hashB label l):=kj _ _
theorem idS_u64 (t:wZ):U64 (idS t):=by
 unfold idS;split
 ·exact knh _ _
 ·omega
theorem idS_us (l:List wZ):Us (l.map idS):=fun x hx=>by obtain⟨t,_,rfl⟩:=qaj.1 hx;exact idS_u64 t
def checkB (w:Int) (b:wI):Int:=if validB b≠0 then validB b else if b.wW≠w then 17 else if Int.tmod (hashB 15 (namS b)) b.wW≠0 then 17 else 0
theorem kbt {r:wE} (h:rulesE r=0):rulesB r=true:=by
 cases hb:rulesB r with
 |true=>rfl
 |false=>unfold rulesE at h;rw[hb]at h;cases h
theorem new_PI {r:wE} (h:rulesE r=0) (h0:0<=r.wV):PI (newS r) 0 0:=by
 have hb:=kbt h;simp only[rulesB,qe,qae]at hb;have hr:=k50 (d:=r.wC) (l:=[]) qqo (qav _);refine⟨(by show 1<=r.wC;omega),(by show r.wC<=12;omega),(by show 1<=r.wc;omega),(by show r.wc<=100;omega),⟨h0,(by show r.wV<=4294967296;omega)⟩,rfl,qav _,(fun x hx=>by cases hx),k4r 0,qce _,qce _,?_,?_,rfl,qv _,qep,(fun x hx=>by cases hx),qav _,rfl⟩
 ·show(0:Int)+0+0=((0:Nat):Int)*r.wV;simp
 ·intro x hx;rw[qaf.1 hx,hr];exact TT_r (fun x hx=>by cases hx) _ _
theorem PI.mono {s:PS} {c d:Nat} {f:Int} (h:PI s c f) (hd:c<=d):PI s d f:=⟨h.d1,h.d2,h.w1,h.w2,h.rw,h.F,h.ll,h.l,⟨h.b.1,h.b.2.1,qbi h.b.2.2 hd⟩,h.n,h.ff,h.sup,h.r,h.rl,qbi h.p hd,h.kn,h.kb,qbi h.kl (Nat.mul_le_mul_left 4 hd),h.v⟩
theorem kmj {s:PS} {b:wI} (h:(applyS s b).e≠0):(applyS s b).s=s:=by
 unfold applyS at h ⊢;split
 ·rfl
 ·rename_i h1;rw[qf h1]at h;split
  ·rfl
  ·rename_i h2;rw[qf h2]at h;split
   ·rfl
   ·rename_i h3;rw[qf h3]at h;exact(h rfl).elim
theorem apply_R {s:PS} {c:Nat} (h:PI s c 0) {b:wI} (hc:c+b.Txs.length<=790) (hb:BR' b):(applyS s b).s.R=s.R:=by
 have hB:=blkS_BI h qqo hb;unfold applyS;split
 ·rfl
 ·split
  ·rfl
  ·split
   ·rfl
   ·exact hB.R
theorem sup_PI {s:PS} {c:Nat} (h:PI s c 0) (hc:c<=800):totA 0 s.b=(sumA s.b,0)/\u64.wrap (sumA s.b+s.n)=u64.wrap (u64.wrap (s.p.length:Int)*s.R.wV):=by
 obtain⟨s1,s2,s3,s4⟩:=sup_bd h hc;have hp:=h.p;have hs:=h.sup;refine⟨?_,?_⟩
 ·have:=tot_sum (l:=s.b) (s:=0) (fun a ha=>(h.b.1.2.2 a ha).2.1.1) qqo;rw[this,Int.zero_add]
 ·rw[wrap_u64 (s.p.length:Int) qqo qqo,<-hs];congr 1;omega
def smA (r:wE) (l:List wI):Bool:=decide (1<=r.wC)&&(decide (r.wC<=6)&&(decide ((l.length:Int)<=8)&&l.all (fun b=>decide ((b.Txs.length:Int)<=4)&&b.Txs.all (fun t=>smallB t 1200))))
def zeroR:wAy:=wAy.mk 0 0 0 0 0 0 0 0 0 [] 0 0 [] 0
def auGo:List wI->PS->PE
 |[],s=>⟨0,s⟩
 |b::r,s=>if(applyS s b).e=0 then auGo r (applyS s b).s else⟨(applyS s b).e,s⟩
theorem kom {l:List wI} {k:Nat} (h:k<l.length) (s:PS):auGo (l.drop k) s=if(applyS s l[k]).e=0 then auGo (l.drop (k+1)) (applyS s l[k]).s else⟨(applyS s l[k]).e,s⟩:=by rw[qat h];rfl
def ndA (x:wAO):Int:=nd x.a0 x.a1
def ownP (p leaf s:Int):wAO:=if p%2=1 then⟨s,leaf⟩else⟨leaf,s⟩
def ownsL:Int->Int->Li->List wAO
 |_,_,[]=>[]
 |p,leaf,s::r=>ownP p leaf s::ownsL (p/2) (ndA (ownP p leaf s)) r
def realP (f:Nat->Int) (p i:Nat):wAO:=⟨TT f i (2*(p/2^i/2)),TT f i (2*(p/2^i/2)+1)⟩
def realsL (f:Nat->Int) (p n:Nat):List wAO:=(List.range n).map (realP f p)
def abvS (lv:Nat):Li->Li
 |a::b::r=>nd a b::abvS lv r
 |[a]=>[nd a (emp lv)]
 |[]=>[]
theorem kj5 (lv:Nat):∀l:Li,(abvS lv l).length<=l.length
 |[]=>qv _
 |[_]=>qv _
 |_::_::r=>by have:=kj5 lv r;simp only[abvS,qr];omega
theorem abvS_u (lv:Nat):∀l:Li,Us (abvS lv l)
 |[]=>fun x hx=>by cases hx
 |[_]=>fun x hx=>by rw[qaf.1 hx];exact kj _ _
 |_::_::r=>fun x hx=>by
  rcases qag.1 hx with rfl|hx
  ·exact kj _ _
  ·exact abvS_u lv r x hx
theorem kj1 (lv:Nat):∀(l:Li) (p:Nat),(abvS lv l).getD p (emp (lv+1))=nd (l.getD (2*p) (emp lv)) (l.getD (2*p+1) (emp lv))
 |[],p=>by simp[abvS,emp]
 |[a],0=>by simp[abvS]
 |[a],p+1=>by rw[gD_ge (l:=[a]) (by simp only[qbm];omega),gD_ge (l:=[a]) (by simp only[qbm];omega),gD_ge (by simp[abvS])];rfl
 |a::b::r,0=>by simp[abvS]
 |a::b::r,p+1=>by have:=kj1 lv r p;rw[show 2*(p+1)=2*p+1+1 by omega];simpa[abvS]using this
theorem kog (lv:Nat) (l:Li) (k:Nat) (h:2*k<l.length):abvS lv (l.drop (2*k))=nd (l.getD (2*k) 0) (l.getD (2*k+1) (emp lv))::abvS lv (l.drop (2*(k+1))):=by
 rw[qat h,gD_lt h];by_cases h2:2*k+1<l.length
 ·rw[qat h2,gD_lt h2];rfl
 ·rw[qam qqo,gD_ge qqo,qam qqo];rfl
def zeroF:wAs:=⟨0,0,0,0,[],0,0,[],0⟩
def unF:wAs:=⟨1,0,0,0,[],0,0,[],0⟩
def ownQ (x:wP):wB:=⟨1,[x.Key,u64.wrap x.wAQ],x.wAE⟩
def comQ (n:wS) (a:Int):wB:=⟨2,noteL n,a⟩
def brQ (x:wAO) (a:Int):wB:=⟨6,[x.a0,x.a1],a⟩
def colF (a b:wB):wAs:=⟨2,0,0,a.wAe,a.wAY,a.wAj,b.wAe,b.wAY,b.wAj⟩
def wrgGo (o r:List wAO):Nat->On
 |0=>none
 |h+1=>if ix o (h:Int)≠ix r (h:Int)then some h else wrgGo o r h
def ancS (tr:List wx) (lv:Li) (root:Int):Nat->Li
 |0=>[]
 |h+1=>if(ix tr (h:Int)).root=root then lv.take (ix tr (h:Int)).leaves.toNat else ancS tr lv root h
structure EC where
 t:List wx
 l:Li
def leafS (x:wP):Int:=(commP pkR (noteOf x)).getD 0
def wrgF (ls:Li) (ns:List wS) (x:wP) (o r:List wAO):wAs:=
 match wrgGo o r o.length with
 |some k=>colF (brQ (ix o (k:Int)) (ndA (ix o (k:Int)))) (brQ (ix r (k:Int)) (ndA (ix o (k:Int))))
 |none=>if x.wH<ls.length/\x.wH<ns.length then colF (comQ (noteOf x) (leafS x)) (comQ (ix ns x.wH) (leafS x))else colF (comQ (noteOf x) (leafS x)) ⟨6,[],leafS x⟩
def wrgS (C:EC) (ns:List wS) (x:wP) (anchor h:Int):wAs:=wrgF (ancS C.t C.l anchor h.toNat) ns x (ownsL x.wH (leafS x) x.wo) (realsL (lf (ancS C.t C.l anchor h.toNat)) x.wH.toNat x.wo.length)
theorem k59 (ls:Li) (ns:List wS) (x:wP) (o r:List wAO):(wrgF ls ns x o r).wAI=2:=by
 unfold wrgF;split
 ·rfl
 ·split<;>rfl
structure EX where
 n:List wS
 k:Li
 v:List wP
 cr:Int
 sp:Int
 hd:Int
structure EIn where
 f:wAs
 c:Int
 a:Int
 k:Li
 v:List wP
def inpS (C:EC) (ns:List wS) (anchor h:Int):List wP->EIn->EIn
 |[],I=>I
 |x::r,I=>if x.wBM=true then inpS C ns anchor h r I
  else if(ns.length:Int)<=x.wH∨ix ns x.wH≠noteOf x then {I with f:=wrgS C ns x anchor h}
  else if x.wH∈I.k then {I with f:=colF (ownQ (mVal (BEq.beq x.wH) I.k I.v default)) (ownQ x)}
  else inpS C ns anchor h r ⟨I.f,i64.wrap (I.c+1),u64.wrap (I.a+x.wl),I.k++[x.wH],I.v++[x]⟩
def exIn (C:EC) (x:EX) (t:wZ) (w:wj) (h:Int):EIn:=inpS C x.n t.wa h w.Ins ⟨zeroF,0,0,x.k,x.v⟩
structure EF where
 f:wAs
 x:EX
def exTx (C:EC) (d:Int) (x:EX) (t:wZ) (w:wj) (known:Bool) (h:Int):EF:=
 if known=false∨checkS pkR (stmtS t d) w≠0 then⟨unF,x⟩
 else if(exIn C x t w h).f.wAI≠0 then⟨(exIn C x t w h).f,{x with k:=(exIn C x t w h).k,v:=(exIn C x t w h).v}⟩
 else⟨zeroF,⟨x.n++w.wD,(exIn C x t w h).k,(exIn C x t w h).v,i64.wrap (x.cr+(w.wD.length:Int)),i64.wrap (x.sp+(exIn C x t w h).c),u64.wrap (x.hd+u64.wrap (outS w.wD-(exIn C x t w h).a))⟩⟩
def exTd (C:EC) (d h:Int) (x:EX) (t:wZ):EF:=exTx C d x t (decW t.wv).1 ((decW t.wv).2==0) h
def txsGo (C:EC) (d h:Int):Nat->List wZ->EX->EF
 |_,[],x=>⟨zeroF,x⟩
 |i,t::r,x=>if(exTd C d h x t).f.wAI≠0 then⟨{(exTd C d h x t).f with wM:=h,Tx:=(i:Int)},(exTd C d h x t).x⟩else txsGo C d h (i+1) r (exTd C d h x t).x
def chnGo (C:EC) (d:Int):List wI->EX->EF
 |[],x=>⟨zeroF,x⟩
 |b::r,x=>if(txsGo C d b.wM 0 b.Txs x).f.wAI≠0 then txsGo C d b.wM 0 b.Txs x else chnGo C d r (txsGo C d b.wM 0 b.Txs x).x
structure ECk (C:EC):Prop where
 t:∀x∈C.t,0<=x.leaves/\x.leaves<=C.l.length
 l:Us C.l
 ll:C.l.length<=4096
structure EXk (x:EX) (c:Nat):Prop where
 nl:x.n.length<=4*c
 nr:∀y∈x.n,NR y
 kv:x.k.length=x.v.length
 kp:∀p∈x.k,0<=p/\p<x.n.length
 nd:x.k.Nodup
 vr:∀y∈x.v,PR y
 sp:x.sp=x.k.length
 cr:x.cr=x.n.length
structure SPk (x:wP):Prop where
 n:NR (noteOf x)
 p0:0<=x.wH
 pm:x.wH<=64
 pl:x.wo.length<=12
 pu:Us x.wo
theorem kl3 {C:EC} (h:ECk C) (root:Int):∀n:Nat,(ancS C.t C.l root n).length<=4096/\Us (ancS C.t C.l root n)
 |0=>⟨qav _,fun x hx=>by cases hx⟩
 |n+1=>by
  unfold ancS;split
  ·refine⟨by have:=h.ll;rw[qaa];omega,fun x hx=>h.l x (qbf hx)⟩
  ·exact kl3 h root n
theorem bitnot (n:Nat) (h:n<=64):ianot .i64 (n:Int) 1=((2*(n/2):Nat):Int)/\ior .i64 (n:Int) 1=((2*(n/2)+1:Nat):Int):=by
 have key:∀n∈List.range 65,ianot .i64 (n:Int) 1=((2*(n/2):Nat):Int)/\ior .i64 (n:Int) 1=((2*(n/2)+1:Nat):Int):=by decide
 exact key n qqm
theorem shr_nat (n i:Nat) (hi:i<=20):ishr .i64 (n:Int) (i:Int)=((n/2^i:Nat):Int):=by
 have e:min ((i:Int).toNat) i64.bits=i:=by rw[qu];exact qcc (qbi hi qqd)
 rw[k1y,e];simp
theorem us2 {a b:Int} (ha:U64 a) (hb:U64 b):Us [a,b]:=by
 intro x hx;simp only[qag,List.mem_nil_iff,or_false]at hx;rcases hx with rfl|rfl
 ·exact ha
 ·exact hb
theorem pk_emp (q:List wB):pk false q [] []=pkR:=by funext l a;exact pk_real _ _ _
theorem kjl (q:List wB):OrOk [] [] q:=⟨rfl,fun v hv=>by cases hv⟩
theorem k20 {p:Int} {l:Li}:mHas (BEq.beq p) l=true↔p∈l:=by
 rw[kqg];constructor
 ·rintro ⟨x,hx,h⟩;have:p=x:=by simpa using h
  exact this▸hx
 ·intro h;exact⟨p,h,by simp⟩
theorem kop {β:Type} {p:Int} {l:Li} (h:mHas (BEq.beq p) l=false) (v:List β) (y:β):mPutK (BEq.beq p) l p=l++[p]/\mPutV (BEq.beq p) l v y=v++[y]:=by
 unfold mHas at h;unfold mPutK mPutV;cases hm:mIdx (BEq.beq p) l with
 |none=>exact⟨rfl,rfl⟩
 |some j=>rw[hm]at h;cases h
theorem note_ne (a:wS) (x:wP):(!((a.Value==x.wl)&&((a.wBB==x.wAE)&&((a.Rho==x.wAK)&&((a.wBF==x.wAm)&&true)))))=true↔a≠noteOf x:=by
 obtain⟨a1,a2,a3,a4⟩:=a;simp only[noteOf,Bool.and_true,qbk,qfo,beq_eq_false_iff_ne,ne_eq,wS.mk.injEq,not_and];constructor
 ·rintro (h|h|h|h) q1 q2 q3 q4
  ·exact h q1
  ·exact h q2
  ·exact h q3
  ·exact h q4
 ·intro h;by_cases q1:a1=x.wl
  ·by_cases q2:a2=x.wAE
   ·by_cases q3:a3=x.wAK
    ·exact .inr (.inr (.inr (h q1 q2 q3)))
    ·exact .inr (.inr (.inl q3))
   ·exact .inr (.inl q2)
  ·exact .inl q1
theorem nd_le:∀(n:Nat) (l:Li),l.Nodup->(∀p∈l,0<=p/\p<(n:Int))->l.length<=n
 |0,[],_,_=>qv _
 |0,a::_,_,h=>by have:=h a qqs;omega
 |n+1,l,hn,h=>by
  have ih:=nd_le n (l.erase (n:Int)) (hn.erase _) (fun p hp=>by
   have h1:=(List.Nodup.mem_erase_iff hn).1 hp;have:=h p h1.2;have:=h1.1;omega)
  by_cases hm:(n:Int)∈l
  ·rw[List.length_erase_of_mem hm]at ih;omega
  ·rw[List.erase_of_not_mem hm]at ih;omega
theorem pair_ne (a b:wAO):(!((a.a0==b.a0)&&((a.a1==b.a1)&&true)))=true↔a≠b:=by
 obtain⟨a0,a1⟩:=a;obtain⟨b0,b1⟩:=b;simp only[Bool.and_true,qbk,qfo,beq_eq_false_iff_ne,ne_eq,wAO.mk.injEq,not_and];constructor
 ·rintro (h|h) q1 q2
  ·exact h q1
  ·exact h q2
 ·intro h;by_cases q1:a0=b0
  ·exact .inr (h q1)
  ·exact .inl q1
theorem leafS_u (x:wP):U64 (leafS x):=by
 unfold leafS commP;split
 ·rcases pkR_u (l:=2) (a:=noteL (noteOf x))with h|⟨n,h,hn⟩
  ·rw[h];decide
  ·rw[h];exact hn
 ·decide
theorem k54:∀(p leaf:Int) (l:Li),(ownsL p leaf l).length=l.length
 |_,_,[]=>rfl
 |p,leaf,s::r=>by rw[ownsL,qr,k54,qr]
theorem ownsL_u:∀(p leaf:Int) (l:Li),U64 leaf->Us l->∀x∈ownsL p leaf l,U64 x.a0/\U64 x.a1
 |_,_,[],_,_,x,hx=>by cases hx
 |p,leaf,s::r,hl,hu,x,hx=>by
  rw[ownsL]at hx;rcases qag.1 hx with rfl|hx
  ·unfold ownP;split
   ·exact⟨hu s qqs,hl⟩
   ·exact⟨hl,hu s qqs⟩
  ·exact ownsL_u _ _ r (kj _ _) (fun y hy=>hu y (by simp[hy])) x hx
theorem kek (f:Nat->Int) (p n:Nat):(realsL f p n).length=n:=by simp[realsL]
theorem rhoS_u (o i:Int):U64 (rhoS o i):=by
 unfold rhoS;split
 ·exact kj _ _
 ·decide
theorem bindS_u (t:wZ):U64 (bindS t):=by
 unfold bindS;split
 ·exact kj _ _
 ·decide
theorem stmt_SR {t:wZ} {d:Int} (h:TR t) (hd: -9223372036854775808<=d/\d<=9223372036854775807):SR (stmtS t d):=by
 unfold stmtS;split
 ·rename_i hv;have v:=(k12 t).1 hv;refine⟨hd,h.a,h.m,(by show t.wJ.length<=_;have:=v.ml;omega),fun x hx=> ?_,(by have:=v.ol;simp;omega),fun x hx=> ?_,(by have:=v.ol;simp;omega),h.d,h.w,h.f,h.ac,bindS_u t⟩
  ·obtain⟨o,ho,rfl⟩:=qaj.1 hx;exact(h.o o ho).c
  ·obtain⟨i,_,rfl⟩:=qaj.1 hx;exact rhoS_u _ _
 ·exact⟨⟨(by simp only;omega),(by simp only;omega)⟩,(by decide:U64 0),fun x hx=>(by cases hx),(by decide:(0:Nat)<=_),fun x hx=>(by cases hx),(by decide:(0:Nat)<=_),fun x hx=>(by cases hx),(by decide:(0:Nat)<=_),(by decide:U64 0),(by decide:U64 0),(by decide:U64 0),(by decide:U64 0),(by decide:U64 0)⟩
theorem pow6 {d:Int} (h:d<=6):(2:Int)^d.toNat<=64:=by
 have key:∀n:Nat,n<=6->(2:Int)^n<=64:=by decide
 exact key d.toNat qqo
theorem rel_in {s:wAN} {w:wj} (h:relV s w=true) (hd:s.wC<=6) (hW:WR w):(∀x∈w.Ins,SPk x/\PR x)/\w.Ins.length<=4/\w.wD.length<=4/\∀x∈w.wD,NR x:=by have h:=kbb.1 h;obtain⟨_,h2,_,_,_,_,_,_,_,_,h11,_,_,h14,h15,_⟩:=h;refine⟨fun x hx=> ?_,h11,h14,hW.o⟩;have hi:=qbh.1 h15 x hx;unfold inV at hi;simp only[qe,qae]at hi;obtain⟨⟨hs,hl⟩,hp⟩:=hi;have hs:=k1h.1 hs;have:=pow6 hd;have hq:=hW.i x hx;exact⟨⟨hq.n,hs.2.2.2.2.1,by omega,by omega,hq.pa⟩,hq⟩
structure EIk (ns:List wS) (I:EIn):Prop where
 kv:I.k.length=I.v.length
 kp:∀p∈I.k,0<=p/\p<ns.length
 nd:I.k.Nodup
 vr:∀y∈I.v,PR y
def valL (l:List wP):Int:=(l.map (fun x=>if x.wBM=true then 0 else x.wl)).sum
theorem inpS_ok (C:EC) (ns:List wS) (an h:Int):∀(l:List wP) (I:EIn),(∀x∈l,SPk x/\PR x)->EIk ns I->0<=I.c->I.c+l.length<=9223372036854775807->(inpS C ns an h l I).f.wAI≠2->
  EIk ns (inpS C ns an h l I)/\(inpS C ns an h l I).c-I.c=(inpS C ns an h l I).k.length-(I.k.length:Int)/\(inpS C ns an h l I).a%18446744073709551616=(I.a+valL l)%18446744073709551616
 |[],I,_,hI,_,_,_=>⟨hI,by simp[inpS],by simp[inpS,valL]⟩
 |x::r,I,hl,hI,hc,hb,hk=>by
  obtain⟨sx,px⟩:=hl x qqs;have hr:∀y∈r,SPk y/\PR y:=fun y hy=>hl y (by simp[hy]);have hb:I.c+(r.length+1:Nat)<=9223372036854775807:=by simpa using hb
  unfold inpS at hk ⊢;split at hk
  ·rename_i h1;rw[qh h1];obtain⟨g1,g2,g3⟩:=inpS_ok C ns an h r I hr hI hc qqo hk;refine⟨g1,g2,?_⟩;rw[g3,valL,valL,qz,qdi,qh h1,Int.zero_add]
  ·rename_i h1;rw[qf h1];split at hk
   ·exact(hk (k59 _ _ _ _ _)).elim
   ·rename_i h2;rw[qf h2];split at hk
    ·exact(hk rfl).elim
    ·rename_i h3;rw[qf h3];have h2:¬((ns.length:Int)<=x.wH):=fun hh=>h2 (.inl hh);have e1:i64.wrap (I.c+1)=I.c+1:=wi _ qqo qqo
     have hI2:EIk ns ⟨I.f,i64.wrap (I.c+1),u64.wrap (I.a+x.wl),I.k++[x.wH],I.v++[x]⟩:=by
      refine⟨by simp[hI.kv],fun p hp=> ?_,?_,fun y hy=> ?_⟩
      ·rcases qac.1 hp with hp|hp
       ·exact hI.kp p hp
       ·rw[qaf.1 hp];exact⟨sx.p0,by omega⟩
      ·rw[qbz];exact⟨hI.nd,by simp,fun a ha b hb e=>by rw[qaf.1 hb]at e;exact h3 (e▸ha)⟩
      ·rcases qac.1 hy with hy|hy
       ·exact hI.vr y hy
       ·rw[qaf.1 hy];exact px
     obtain⟨g1,g2,g3⟩:=inpS_ok C ns an h r _ hr hI2 (by simp only[e1];omega) (by simp only[e1];omega) hk;refine⟨g1,?_,?_⟩
     ·simp only[e1,qi,qbm]at g2 ⊢;omega
     ·rw[g3,valL,valL,qz,qdi,qf h1];simp only;rw[show u64.wrap (I.a+x.wl)=(I.a+x.wl)%18446744073709551616 from rfl];omega
theorem exTx_un {C:EC} {d h:Int} {x:EX} {t:wZ} {w:wj} {k:Bool} (hf:(exTx C d x t w k h).f.wAI=0):k=true/\checkS pkR (stmtS t d) w=0/\(exIn C x t w h).f.wAI=0/\(exTx C d x t w k h).f=zeroF/\
  (exTx C d x t w k h).x=⟨x.n++w.wD,(exIn C x t w h).k,(exIn C x t w h).v,i64.wrap (x.cr+(w.wD.length:Int)),i64.wrap (x.sp+(exIn C x t w h).c),u64.wrap (x.hd+u64.wrap (outS w.wD-(exIn C x t w h).a))⟩:=by
 unfold exTx at hf ⊢;split at hf
 ·cases hf
 ·rename_i h1;rw[qf h1];split at hf
  ·rename_i h2;exact(h2 hf).elim
  ·rename_i h2;rw[qf h2];refine⟨?_,qp fun hh=>h1 (.inr hh),qp h2,rfl,rfl⟩;cases k with
   |true=>rfl
   |false=>exact(h1 (.inl rfl)).elim
theorem kez {t:wZ} {d:Int} (h1:1<=d):(stmtS t d).wC<=d:=by
 unfold stmtS;split
 ·exact qce _
 ·simp only;omega
theorem exTx_ok {C:EC} {d h:Int} {x:EX} {c:Nat} {t:wZ} {w:wj} {k:Bool} (hx:EXk x c) (hc:c<=1000) (hd:1<=d/\d<=6) (hW:k=true->WR w) (hf:(exTx C d x t w k h).f.wAI=0):
  EXk (exTx C d x t w k h).x (c+1)/\(exTx C d x t w k h).x.hd%18446744073709551616=(x.hd+outS w.wD-valL w.Ins)%18446744073709551616:=by
 obtain⟨rfl,f2,f3,f4,f5⟩:=exTx_un hf;have hr:=(k3l.1 f2).1;obtain⟨r1,r2,r3,r4⟩:=rel_in hr (qen (kez hd.1) hd.2) (hW rfl);have hkl:x.k.length<=x.n.length:=nd_le _ _ hx.nd hx.kp;have hnl:=hx.nl;have hb:0+(w.Ins.length:Int)<=9223372036854775807:=by omega
 obtain⟨g1,g2,g3⟩:=inpS_ok C x.n t.wa h w.Ins ⟨zeroF,0,0,x.k,x.v⟩ r1 ⟨hx.kv,hx.kp,hx.nd,hx.vr⟩ (qce _) hb (by show(exIn C x t w h).f.wAI≠2;rw[f3];decide);rw[f5];have g2:(exIn C x t w h).c-0=(exIn C x t w h).k.length-(x.k.length:Int):=g2;have g3:(exIn C x t w h).a%18446744073709551616=(0+valL w.Ins)%18446744073709551616:=g3;have g1:EIk x.n (exIn C x t w h):=g1;have hsp:=hx.sp;have hcr:=hx.cr;have hkl2:(exIn C x t w h).k.length<=x.n.length:=nd_le _ _ g1.nd g1.kp;refine⟨⟨?_,?_,g1.kv,fun p hp=> ?_,g1.nd,g1.vr,?_,?_⟩,?_⟩
 ·simp only[qi];omega
 ·intro y hy;rcases qac.1 hy with hy|hy
  ·exact hx.nr y hy
  ·exact r4 y hy
 ·have:=g1.kp p hp;simp only[qi];omega
 ·simp only;rw[wi _ qqo qqo];omega
 ·simp only[qi];rw[wi _ qqo qqo];omega
 ·simp only;rw[show∀z,u64.wrap z=z%18446744073709551616 from fun _=>rfl,show∀z,u64.wrap z=z%18446744073709551616 from fun _=>rfl];omega
theorem decW_WR {b:Li} (h:((decW b).2==0)=true):WR (decW b).1:=by
 rcases kf3 b with⟨w,hE,e⟩|e
 ·rw[e];obtain⟨v1,v2,v3,v4,v5⟩:=k46.1 hE.v;have hq:=hE.r
  exact⟨fun x hx=>by
   have h1:=hq.i x hx;have h2:=(k1h.1 (v4 x hx)).2.2.2.2.2.2.1;exact⟨h1.n,h1.k,h1.nu,h1.po,h1.pa,by omega⟩,by show w.Ins.length<=_;omega,hq.o,by show w.wD.length<=_;omega,hq.s⟩
 ·rw[e]at h;cases h
structure CHk (d:Int) (l:List wI) (t:List wx) (lv:Li) (x:EX):Prop where
 C:ECk ⟨t,lv⟩
 d1:1<=d
 d6:l≠[]->d<=6
 h:∀b∈l,0<=b.wM/\b.wM<=t.length/\b.wM<=9223372036854775807
 tl:∀b∈l,b.Txs.length<=4
 t:∀b∈l,∀t∈b.Txs,TR t/\t.wv.length<=137438953472
 len:l.length<=12
 x:EXk x 0
theorem kmk {C:EC} {d:Int} {l:List wI} {k:Nat} (h:k<l.length) (x:EX):chnGo C d (l.drop k) x=if(txsGo C d (ix l (k:Int)).wM 0 (ix l (k:Int)).Txs x).f.wAI≠0 then txsGo C d (ix l (k:Int)).wM 0 (ix l (k:Int)).Txs x else chnGo C d (l.drop (k+1)) (txsGo C d (ix l (k:Int)).wM 0 (ix l (k:Int)).Txs x).x:=by rw[qat h,ix_get _ _ h];rfl
def rtS (s:PS):Int:=if s.r=[]then 0 else ix s.r ((s.r.length:Int)-1)
def treS (s:PS):wx:=⟨rtS s,(s.l.length:Int)⟩
def trGo:List wI->PS->List wx
 |[],_=>[]
 |b::r,s=>treS (applyS s b).s::trGo r (applyS s b).s
def ex0:EX:=⟨[],[],[],0,0,0⟩
def exmC (r:wE) (l:List wI):EC:=⟨treS (newS r)::trGo l (newS r),(auGo l (newS r)).s.l⟩
def exmY (r:wE) (l:List wI):EF:=chnGo (exmC r l) r.wC l ex0
def exmS (r:wE) (l:List wI):wAy×Int:=if rulesE r=0 then(if(auGo l (newS r)).e=0 then(wAy.mk (u64.wrap (u64.wrap (l.length:Int)*r.wV)) (totA 0 (auGo l (newS r)).s.b).1 (exmY r l).x.hd (exmY r l).x.cr (exmY r l).x.sp (exmY r l).f.wAI (exmY r l).f.wM (exmY r l).f.Tx (exmY r l).f.wAF (exmY r l).f.wAC (exmY r l).f.wz (exmY r l).f.wAL (exmY r l).f.wAJ (exmY r l).f.wAD,0)else(zeroR,(auGo l (newS r)).e))else(zeroR,rulesE r)
def audS (ideal:Bool) (r:wE) (l:List wI):wAy×Int:=if rulesE r≠0 then(zeroR,rulesE r)else if r.wb≠2∨ideal=true then(zeroR,1)else exmS r l
structure BLk (l:List wI):Prop where
 r:∀b∈l,BR' b
 tl:∀b∈l,b.Txs.length<=4
 len:l.length<=12
theorem knl {l:List wI} {k:Nat} (h:k<l.length) (s:PS):trGo (l.drop k) s=treS (applyS s l[k]).s::trGo (l.drop (k+1)) (applyS s l[k]).s:=by rw[qat h];rfl
theorem k2i {s:PS} {b:wI} (h:(applyS s b).e=0):b.wM=(s.p.length:Int)+1/\(applyS s b).s.p.length=s.p.length+1/\(blkS s [] b).e=0/\(applyS s b).s.n=(blkS s [] b).s.n/\(applyS s b).s.l=(blkS s [] b).s.l:=by
 unfold applyS at h ⊢;split at h
 ·cases h
 ·rename_i h1;rw[qf h1];split at h
  ·cases h
  ·rename_i h2;rw[qf h2];split at h
   ·rename_i h3;exact(h3 h).elim
   ·rename_i h3;rw[qf h3];exact⟨qp h1,by simp,qp h3,rfl,rfl⟩
theorem kgh {s:PS} {c:Nat} (h:PI s c 0) {b:wI} (hc:c+b.Txs.length<=790) (hb:BR' b) (he:(applyS s b).e=0):s.l.length<=(applyS s b).s.l.length:=by have hB:=blkS_BI h qqo hb;rw[(k2i he).2.2.2.2];obtain⟨x,hx⟩:=hB.l;rw[hx,qi];omega
theorem ex0_k:EXk ex0 0:=⟨qav _,fun y hy=>(by cases hy),rfl,fun p hp=>(by cases hp),qep,fun y hy=>(by cases hy),rfl,rfl⟩
def txV (t:wZ):Int:=t.wQ-t.wT-t.Fee
def txsV (l:List wZ):Int:=(l.map txV).sum
def blsV (l:List wI):Int:=(l.map (fun b=>txsV b.Txs)).sum
theorem koq (n:Int) (t:wZ):hidN n t%18446744073709551616=(n+txV t)%18446744073709551616:=by unfold hidN txV;simp only[show∀z,u64.wrap z=z%18446744073709551616 from fun _=>rfl];omega
theorem blkGo_n:∀(r:List wZ) (s:PS) (m:Li) (f:Int),(blkGo r s m f).e=0->(blkGo r s m f).s.n%18446744073709551616=(s.n+txsV r)%18446744073709551616
 |[],s,m,f,_=>by simp[blkGo,txsV]
 |t::r,s,m,f,h=>by
  unfold blkGo at h ⊢;split at h
  ·rename_i h1;exact(h1 h).elim
  ·rename_i h1;rw[qf h1];split at h
   ·rename_i h2;exact(h2 h).elim
   ·rename_i h2;rw[qf h2];rw[blkGo_n r _ _ _ h]
    have hn:(perfS s t).s.n=hidN s.n t:=by
     unfold perfS at h2 ⊢;split
     ·rename_i h3;rw[qh h3]at h2;exact(h2 h3).elim
     ·rfl
    have:=koq s.n t;rw[hn,txsV,txsV,qz,qdi];omega
theorem apply_n {s:PS} {b:wI} (h:(applyS s b).e=0):(applyS s b).s.n%18446744073709551616=(s.n+txsV b.Txs)%18446744073709551616:=by
 obtain⟨_,_,h3,h4,_⟩:=k2i h;rw[h4];unfold blkS at h3 ⊢;split at h3
 ·rename_i h5;exact(h5 h3).elim
 ·rename_i h5;rw[qf h5];split at h3
  ·rename_i h6;exact(h6 h3).elim
  ·rename_i h6;rw[qf h6];exact blkGo_n _ _ _ _ (qp h5)
theorem auGo_n:∀(l:List wI) (s:PS),(auGo l s).e=0->(auGo l s).s.n%18446744073709551616=(s.n+blsV l)%18446744073709551616
 |[],s,_=>by simp[auGo,blsV]
 |b::r,s,h=>by
  unfold auGo at h ⊢;split at h
  ·rename_i h1;rw[qh h1,auGo_n r _ h,blsV,blsV,qz,qdi];have:=apply_n h1;omega
  ·rename_i h1;exact(h1 h).elim
theorem auGo_PI:∀(l:List wI) (s:PS) (c:Nat),PI s c 0->(∀b∈l,BR' b)->(∀b∈l,b.Txs.length<=4)->c+5*l.length<=790->(auGo l s).e=0->PI (auGo l s).s (c+5*l.length) 0/\(auGo l s).s.p.length=s.p.length+l.length/\(auGo l s).s.R=s.R
 |[],s,c,h,_,_,_,_=>⟨h,by simp[auGo],rfl⟩
 |b::r,s,c,h,hb,ht,hc,he=>by
  have hc:c+5*(r.length+1)<=790:=hc;unfold auGo at he ⊢;split at he
  ·rename_i h1;rw[qh h1];have h4:=ht b qqs;have hP:=(k7c h qqo (hb b qqs) h1).mono (d:=c+5) qqo;obtain⟨g1,g2,g3⟩:=auGo_PI r _ (c+5) hP (fun x hx=>hb x (by simp[hx])) (fun x hx=>ht x (by simp[hx])) qqo he;refine⟨?_,?_,?_⟩
   ·rw[qr,show c+5*(r.length+1)=c+5+5*r.length by omega];exact g1
   ·rw[g2,(k2i h1).2.1,qr];omega
   ·rw[g3];exact apply_R h qqo (hb b qqs)
  ·rename_i h1;exact(h1 he).elim
theorem kdy {f:Ask} {an:Int}:∀(l:List wP) (ms:Li),l.length=ms.length->insE f an l ms=0->∀x∈l,x.wBM=true->x.wl=0
 |[],_,_,_,x,hx,_=>by cases hx
 |y::r,[],hl,_,_,_,_=>by simp at hl
 |y::r,m::ms,hl,h,x,hx,hd=>by
  unfold insE at h;split at h
  ·rename_i h1;exact(h1 h).elim
  ·rename_i h1;rcases qag.1 hx with rfl|hx
   ·have h1:inE f an m x=0:=qp h1;unfold inE at h1;split at h1
    ·cases h1
    ·split at h1
     ·cases h1
     ·try rw[qh hd]at h1
      by_cases h5:x.wl=0
      ·exact h5
      ·rw[qh h5]at h1;cases h1
   ·exact kdy r ms (by simpa using hl) h x hx hd
theorem kh9 {α:Type} (g:α->Int):∀(l:List α) (s:Int),l.foldl (fun s x=>(s+g x)%18446744073709551616) s%18446744073709551616=(s+(l.map g).sum)%18446744073709551616
 |[],s=>by simp
 |x::r,s=>by rw[qfa,kh9 g r,qz,qdi];omega
theorem valL_in:∀{l:List wP},(∀x∈l,x.wBM=true->x.wl=0)->valL l=(l.map (·.wl)).sum
 |[],_=>rfl
 |x::r,h=>by
  have ih:=valL_in (l:=r) fun y hy=>h y (by simp[hy]);unfold valL at ih ⊢;rw[qz,qz,qdi,qdi,ih];split
  ·rename_i hd;rw[h x qqs hd]
  ·rfl
theorem check_V {t:wZ} {d:Int} {w:wj} (h:checkS pkR (stmtS t d) w=0):(outS w.wD-valL w.Ins)%18446744073709551616=txV t%18446744073709551616/\validE t=0:=by
 obtain⟨h1,h2,h3,h4,h5⟩:=k3l.1 h;have hr:=kbb.1 h1;have hv:validE t=0:=qp fun hv=>by have:=hr.1;unfold stmtS at this;rw[qf hv]at this;simp at this
 have hst:stmtS t d=⟨d,t.wa,t.wJ,t.wD.map (·.wg),(List.range t.wD.length).map (fun i:Nat=>rhoS (originS t) (i:Int)),t.wQ,t.wT,t.Fee,t.wX,bindS t⟩:=qh hv;have hd:=kdy _ _ hr.2.2.2.2.2.2.2.2.2.1 h2;have hi:=kh9 (·.wl) w.Ins 0;have hi:inS w.Ins%18446744073709551616=(0+(w.Ins.map (·.wl)).sum)%18446744073709551616:=hi;rw[<-valL_in hd]at hi;rw[hst]at h5;have h5:(inS w.Ins+t.wQ)%18446744073709551616=((outS w.wD+t.wT)%18446744073709551616+t.Fee)%18446744073709551616:=h5;refine⟨?_,hv⟩;unfold txV;omega
theorem exTd_V {C:EC} {d h:Int} {x:EX} {c:Nat} {t:wZ} (hx:EXk x c) (hc:c<=1000) (hd:1<=d/\d<=6) (hf:(exTd C d h x t).f.wAI=0):
  EXk (exTd C d h x t).x (c+1)/\(exTd C d h x t).x.hd%18446744073709551616=(x.hd+txV t)%18446744073709551616/\U64 (exTd C d h x t).x.hd:=by
 obtain⟨g1,g2⟩:=exTx_ok hx hc hd decW_WR hf;obtain⟨f1,f2,f3,f4,f5⟩:=exTx_un hf;have hV:=(check_V f2).1;refine⟨g1,?_,?_⟩
 ·have g2:(exTd C d h x t).x.hd%18446744073709551616=_:=g2;rw[g2];omega
 ·have f5:(exTd C d h x t).x=_:=f5;rw[f5];have:∀z:Int,U64 (u64.wrap z):=fun z=>by rw[show u64.wrap z=z%18446744073709551616 from rfl];exact⟨by omega,by omega⟩
  exact this _
theorem txsGo_V {C:EC} {d h:Int}:∀(l:List wZ) (i:Nat) (x:EX) (c:Nat),EXk x c->c+l.length<=1000->1<=d/\d<=6->U64 x.hd->(txsGo C d h i l x).f.wAI=0->
  EXk (txsGo C d h i l x).x (c+l.length)/\(txsGo C d h i l x).x.hd%18446744073709551616=(x.hd+txsV l)%18446744073709551616/\U64 (txsGo C d h i l x).x.hd
 |[],i,x,c,hx,_,_,hu,_=>⟨hx,by simp[txsGo,txsV],hu⟩
 |t::r,i,x,c,hx,hc,hd,hu,hf=>by
  have hc:c+(r.length+1)<=1000:=hc;rw[txsGo]at hf ⊢;split at hf
  ·rename_i h1;exact(h1 hf).elim
  ·rename_i h1;rw[qf h1];have h1:(exTd C d h x t).f.wAI=0:=qp h1;obtain⟨g1,g2,g3⟩:=exTd_V hx qqo hd h1;obtain⟨k1,k2,k3⟩:=txsGo_V r (i+1) _ (c+1) g1 qqo hd g3 hf;refine⟨?_,?_,k3⟩
   ·rw[qr,show c+(r.length+1)=c+1+r.length by omega];exact k1
   ·rw[k2,txsV,txsV,qz,qdi];omega
theorem chnGo_V {C:EC} {d:Int}:∀(l:List wI) (x:EX) (c:Nat),EXk x c->(∀b∈l,b.Txs.length<=4)->c+4*l.length<=1000->1<=d/\d<=6->U64 x.hd->(chnGo C d l x).f.wAI=0->
  EXk (chnGo C d l x).x (c+4*l.length)/\(chnGo C d l x).x.hd%18446744073709551616=(x.hd+blsV l)%18446744073709551616/\U64 (chnGo C d l x).x.hd
 |[],x,c,hx,_,_,_,hu,_=>⟨hx,by simp[chnGo,blsV],hu⟩
 |b::r,x,c,hx,hb,hc,hd,hu,hf=>by
  have hc:c+4*(r.length+1)<=1000:=hc;have h4:=hb b qqs;rw[chnGo]at hf ⊢;split at hf
  ·rename_i h1;exact(h1 hf).elim
  ·rename_i h1;rw[qf h1];have h1:(txsGo C d b.wM 0 b.Txs x).f.wAI=0:=qp h1;obtain⟨g1,g2,g3⟩:=txsGo_V b.Txs 0 x c hx qqo hd hu h1;have g1:EXk (txsGo C d b.wM 0 b.Txs x).x (c+4):=⟨by have:=g1.nl;omega,g1.nr,g1.kv,g1.kp,g1.nd,g1.vr,g1.sp,g1.cr⟩;obtain⟨k1,k2,k3⟩:=chnGo_V r _ (c+4) g1 (fun y hy=>hb y (by simp[hy])) qqo hd g3 hf;refine⟨?_,?_,k3⟩
   ·rw[qr,show c+4*(r.length+1)=c+4+4*r.length by omega];exact k1
   ·rw[k2,blsV,blsV,qz,qdi];omega
theorem aud_bal {r:wE} {l:List wI} (h0:0<=r.wV) (h6:r.wC<=6) (hl:BLk l) (he:(audS false r l).2=0) (hk:(audS false r l).1.wAR=0):
  (audS false r l).1.wBG=u64.wrap ((audS false r l).1.wBK+(audS false r l).1.wBC)/\(audS false r l).1.wBQ<=(audS false r l).1.wBH:=by
 unfold audS at he hk ⊢;split at he
 ·rename_i h1;exact(h1 he).elim
 ·rename_i h1;rw[qf h1]at hk ⊢;have h1:rulesE r=0:=qp h1;split at he
  ·cases he
  ·rename_i h2;rw[qf h2]at hk ⊢;unfold exmS at he hk ⊢;rw[qh h1]at he hk ⊢;split at he
   ·rename_i h3;rw[qh h3]at hk ⊢;have hlen:=hl.len;have hP:=new_PI h1 h0;obtain⟨p1,p2,p3⟩:=auGo_PI l (newS r) 0 hP hl.r hl.tl qqo h3;have hn:=auGo_n l (newS r) h3;have hk:(exmY r l).f.wAI=0:=hk;have hd1:1<=r.wC:=hP.d1;obtain⟨k1,k2,k3⟩:=chnGo_V l ex0 0 ex0_k hl.tl qqo ⟨hd1,h6⟩ qqd hk;have hp0:(newS r).p.length=0:=rfl;have hpl:(auGo l (newS r)).s.p.length=l.length:=by rw[p2,hp0];omega
    obtain⟨s1,s2⟩:=sup_PI p1 qqo;have hsb:=sup_bd p1 qqo;have hn0:=p1.n;have hRr:(auGo l (newS r)).s.R.wV=r.wV:=by rw[p3];rfl
    have hh:(exmY r l).x.hd=(auGo l (newS r)).s.n:=by have e1:(exmY r l).x.hd%18446744073709551616=(0+blsV l)%18446744073709551616:=k2;have e2:(auGo l (newS r)).s.n%18446744073709551616=(0+blsV l)%18446744073709551616:=hn;have k3:U64 (exmY r l).x.hd:=k3;have:=k3.1;have:=k3.2;omega
    refine⟨?_,?_⟩
    ·show u64.wrap (u64.wrap (l.length:Int)*r.wV)=u64.wrap ((totA 0 (auGo l (newS r)).s.b).1+(exmY r l).x.hd);rw[s1,hh,s2,hpl,hRr]
    ·show(exmY r l).x.sp<=(exmY r l).x.cr;have k1:EXk (exmY r l).x (0+4*l.length):=k1;rw[k1.sp,k1.cr];have:=nd_le _ _ k1.nd k1.kp;omega
   ·rename_i h3;exact(h3 he).elim
theorem knw {P:Program} {f:FuncId} {a b n:Int} {e:TypeId} {m:Int} (hs:SoundH P f [.d (.int .u64 m),.d (.int .u64 6),.d (.slice 1 [.int .u64 a,.int .u64 b])] [] (.d (.int .u64 n)) []) {G:Gh} {w:World} (hW:Go.Bv.WR (tkOf G []) w.heap.size G w (hpOf 0 []) 0):
  Calls P f #[.int .u64 m,.int .u64 6,.slice (some ⟨w.heap.size,0,none⟩) 2 2] (w.alloc (.cells #[.int .u64 a,.int .u64 b] e)) fun e w' =>∃v G',e= .returned v/\v= .int .u64 n/\Go.Bv.WR (tkOf G []) w.heap.size G' w' (hpOf 0 []) 0/\Fr (tkOf G []) G w G' w'/\Ex (tkOf G []) G w G' w' (hpOf 0 []) 0:=by
 have hR0:R (tkOf G []) G w 0 ⟨[],hpOf 0 [],0⟩ ⟨#[],[]⟩ G w:=⟨⟨rfl,rfl,rfl,qv _,fun _ _ _=>⟨rfl,rfl⟩,Mono.refl _ _⟩,hW,rfl,rfl,fun t=> .any _,⟨qv _,fun _ _ _ h=>h,fun tok t' _ h=>⟨t',h,qv _,fun _ _ hb=>⟨hb,rfl,rfl⟩⟩,fun _ _ h=>h⟩⟩
 obtain⟨G1,hR1,hp⟩:=hR0.alloc e [.int .u64 a,.int .u64 b] [.d (.int .u64 a),.d (.int .u64 b)] rfl (fun x hx=>by
  simp only[qag,List.mem_nil_iff,or_false]at hx;rcases hx with rfl|rfl<;>rfl) (fun j v x hv hx=>by
  match j with
  |0=>cases hv;cases hx;exact .d _ _ (.int _ _)
  |1=>cases hv;cases hx;exact .d _ _ (.int _ _)
  |j+2=>simp at hv)
 obtain⟨G2,hR2,he,hv⟩:=hR1.freeze (id:=0) (l:=[.int .u64 a,.int .u64 b]) (sz:=1) (n:=2) rfl (fun d hd=>by
  simp only[qag,List.mem_nil_iff,or_false]at hd;rcases hd with rfl|rfl<;>exact⟨rfl,fun c hc=>by simp only[D.cells,qaf]at hc;subst hc;rfl⟩) rfl
 have hT:(tkOf G []).nx=0:=rfl;have hw1:(w.alloc (.cells #[.int .u64 a,.int .u64 b] e)).heap[w.heap.size]? =some (.cells #[.int .u64 a,.int .u64 b] e (0,0)):=by show(w.heap.push _)[w.heap.size]? =_;simp
 have hrow:RepV G2 (w.alloc (.cells #[.int .u64 a,.int .u64 b] e)) ((1,.tip 2)::(0,.dead)::(0,.cells [.d (.int .u64 a),.d (.int .u64 b)])::hpOf 0 []) 2 (.slice (some ⟨w.heap.size,0,none⟩) 2 2) (.row 0 0 2 1):=by
  cases hp with
  |ptr _ _ b' hid hl=>exact .row 0 0 2 1 w.heap.size 0 2 2 qqo (he.loc 0 _ hid hl) (fun _=>rfl) (qv _) qqd (csz_of hw1) qqo
 have hsl:=(hv _ hrow).le1 (y:= .d (.slice 1 [.int .u64 a,.int .u64 b])) ⟨rfl,rfl⟩;refine(hR2.call (vs:=[.int .u64 m,.int .u64 6,.slice (some ⟨w.heap.size,0,none⟩) 2 2]) hs (fun i o hg=> ?_) (ids:=[]) (fb:=2) (nx' :=2) trivial qep ⟨qv _,fun o ho=>by cases ho⟩ (.inl ⟨rfl,rfl⟩) rfl (fun j v x hv hx=> ?_) trivial).mono fun e w' ⟨v,G',h1,h2,h3,_⟩=> ?_
 ·simp only[Hp.get,hpOf]at hg;split at hg
  ·cases hg;trivial
  ·split at hg
   ·cases hg;trivial
   ·cases hg
 ·match j with
  |0=>cases hv;cases hx;exact⟨.d _ _ (.int _ _),trivial⟩
  |1=>cases hv;cases hx;exact⟨.d _ _ (.int _ _),trivial⟩
  |2=>cases hv;cases hx;exact⟨hsl,trivial⟩
  |j+3=>simp at hv
 ·have h4:=h2.le (s' :=⟨[],hpOf 0 [],0⟩) ⟨⟨qv _,qav _⟩,trivial,trivial⟩;have h3:RepV G' w' _ _ v (.d (.int .u64 n)):=h3;exact⟨v,G',h1,h3.int_inv,h4.wr,h4.fr,h4.ex⟩
theorem kmn {a b n:Int} (hs:SoundH Tryz.prog 161 [.d (.int .u64 18446744069414584321),.d (.int .u64 6),.d (.slice 1 [.int .u64 a,.int .u64 b])] [] (.d (.int .u64 n)) []):SoundH Tryz.prog 306 [.agg [.d (.int .u64 a),.d (.int .u64 b)]] [] (.d (.int .u64 n)) []:=by
 intro G w vs hlen hrep hW
 match vs,hlen with
 |[v0],_=>
  obtain⟨us,rfl,h1,h2,h3⟩:=(hrep 0 v0 _ rfl rfl).agg_inv
  match us,h1 with
  |[u0,u1],_=>
   have e0:=(h3 0 u0 _ rfl rfl).int_inv;have e1:=(h3 1 u1 _ rfl rfl).int_inv;subst e0;subst e1;have hc:=knw (e:=162) hs hW;clear hrep h2 h3 hs
   go_enter Tryz.func306,Tryz.ntmps306
   go_wp2_with (go_at_call 161;refine hc.mono ?_;rintro e w' ⟨v,G',rfl,rfl,q1,q2,q3⟩)
   go_ret
   exact⟨_,G',rfl,.d _ _ (.int _ _),q1,q2,q3⟩
def blkOf (x:wL):wI:=⟨x.wAp,x.wAh,x.wAt,x.wAw,x.wAu,x.wAz⟩
def gB (k:Li) (v:List wL) (id:Int):wI:=blkOf (mVal (BEq.beq id) k v default)
def brS (k:Li) (v:List wL):Nat->Int->Li
 |0,_=>[]
 |h+1,p=>brS k v h (gB k v p).wm++[p]
def brB (k:Li) (v:List wL) (b:wI):Li:=brS k v (b.wM-1).toNat b.wm
def pthI (k:Li) (v:List wL) (id:Int):Li:=brB k v (gB k v id)++[id]
def stL (R:wE) (k:Li) (v:List wL) (l:Li):PE:=auGo (l.map (gB k v)) (newS R)
def undoN:Nat->PS->PS
 |0,s=>s
 |k+1,s=>undoN k (undoS s)
theorem k6o:∀(k:Nat) (s:PS),undoN (k+1) s=undoS (undoN k s)
 |0,_=>rfl
 |k+1,s=>k6o k (undoS s)
theorem k1t (b:wI) (r:List wI) (s:PS):auGo (b::r) s=if(applyS s b).e=0 then auGo r (applyS s b).s else⟨(applyS s b).e,s⟩:=rfl
theorem k6u:∀(a b:List wI) (s:PS),(auGo a s).e=0->auGo (a++b) s=auGo b (auGo a s).s
 |[],b,s,_=>rfl
 |x::a,b,s,h=>by
  rw[k1t]at h;rw[List.cons_append,k1t,k1t];split at h
  ·rename_i h1;rw[qh h1,qh h1];exact k6u a b _ h
  ·rename_i h1;exact(h1 h).elim
theorem kbp:∀(a b:List wI) (s:PS),(auGo (a++b) s).e=0->(auGo a s).e=0
 |[],b,s,_=>rfl
 |x::a,b,s,h=>by
  rw[List.cons_append,k1t]at h;rw[k1t];split at h
  ·rename_i h1;rw[qh h1];exact kbp a b _ h
  ·rename_i h1;exact(h1 h).elim
theorem kkc {b:wI} {s:PS} (h:(applyS s b).e=0):auGo [b] s=⟨0,(applyS s b).s⟩:=by unfold auGo;rw[qh h];rfl
def BLs (l:List wI):Prop:=(∀b∈l,BR' b)/\∀b∈l,b.Txs.length<=4
theorem kd3 {α:Type} (p:α->Bool):∀(l m:List α),mIdx p (l++m)=match mIdx p l with|some j=>some j|none=>(mIdx p m).map (·+l.length)
 |[],m=>by simp[mIdx]
 |x::l,m=>by
  show(bif p x then some 0 else(mIdx p (l++m)).map (·+1))=match(bif p x then some 0 else(mIdx p l).map (·+1))with|some j=>some j|none=>(mIdx p m).map (·+(x::l).length);cases h:p x with
  |true=>rfl
  |false=>
   simp only[qbs];rw[kd3 p l m];cases mIdx p l with
   |some j=>rfl
   |none=>
    simp only[Option.map_none];cases mIdx p m with
    |none=>rfl
    |some j=>simp only[qax,qr];congr 1
theorem kj8 {β:Type} {x id:Int} {k:Li} {v:List β} {y d:β} (hx:x∈k) (hl:k.length=v.length):mVal (BEq.beq x) (k++[id]) (v++[y]) d=mVal (BEq.beq x) k v d:=by
 have h:=k20.2 hx;unfold mHas at h;unfold mVal;rw[kd3];cases hm:mIdx (BEq.beq x) k with
 |none=>rw[hm]at h;cases h
 |some j=>
  obtain⟨z,h1,h2⟩:=k4z hm;have hj:j<v.length:=by have:=(qg.1 h1).1;omega
  simp only;rw[qas hj]
theorem kki {β:Type} {id:Int} {k:Li} {v:List β} {y d:β} (hx:id∉k) (hl:k.length=v.length):mVal (BEq.beq id) (k++[id]) (v++[y]) d=y:=by
 have h:mHas (BEq.beq id) k=false:=by
  cases hc:mHas (BEq.beq id) k with
  |false=>rfl
  |true=>exact(hx (k20.1 hc)).elim
 unfold mHas at h;unfold mVal;rw[kd3];cases hm:mIdx (BEq.beq id) k with
 |some j=>rw[hm]at h;cases h
 |none=>
  have:mIdx (BEq.beq id) [id]=some 0:=by simp[mIdx]
  rw[this];simp[hl]
def accT (R:wE) (t:wZ):Bool:=(decW t.wv).2==0&&checkS pkR (stmtS t R.wC) (decW t.wv).1==0
def txE (R:wE) (t:wZ):Int:=if rulesE R≠0 then rulesE R else if validE t≠0 then validE t else if accT R t=false then 10 else 0
def txsE (R:wE):List wZ->Int
 |[]=>0
 |t::r=>if txE R t≠0 then txE R t else txsE R r
structure CS where
 R:wE
 k:Li
 v:List wL
 be:Li
 S:PS
 fi:Int
 he:Int
structure KI (R:wE) (k:Li) (v:List wL) (n:Nat):Prop where
 kv:k.length=v.length
 kn:k.length<=n
 r:∀id∈k,BR' (gB k v id)/\(gB k v id).Txs.length<=4
 h1:∀id∈k,1<=(gB k v id).wM/\(gB k v id).wM<=k.length
 hp:∀id∈k,1<(gB k v id).wM->(gB k v id).wm∈k/\(gB k v (gB k v id).wm).wM=(gB k v id).wM-1
 rep:∀id∈k,(stL R k v (pthI k v id)).e=0
 ac:∀id∈k,txsE R (gB k v id).Txs=0
 ru:rulesE R=0
 w:0<=R.wV
structure CI (c:CS) (n:Nat):Prop where
 K:KI c.R c.k c.v n
 be:c.be=[]∨∃id∈c.k,c.be=pthI c.k c.v id
 st:c.S=(stL c.R c.k c.v c.be).s
 he:0<=c.he/\c.he<=4294967296
theorem KI.way {R:wE} {k:Li} {v:List wL} {n:Nat} (h:KI R k v n):∀(m:Nat) (p:Int),p∈k->(gB k v p).wM=(m:Int)->brS k v m p=pthI k v p/\(pthI k v p).length=m/\∀x∈pthI k v p,x∈k
 |0,p,hp,hm=>by have:=(h.h1 p hp).1;omega
 |1,p,hp,hm=>by
  have e:brB k v (gB k v p)=[]:=by unfold brB;rw[hm];rfl
  refine⟨?_,?_,fun x hx=> ?_⟩
  ·unfold pthI;rw[e];rfl
  ·unfold pthI;rw[e];rfl
  ·unfold pthI at hx;rw[e]at hx;rw[qaf.1 hx];exact hp
 |m+2,p,hp,hm=>by
  obtain⟨q1,q2⟩:=h.hp p hp qqo;obtain⟨w1,w2,w3⟩:=h.way (m+1) (gB k v p).wm q1 (by rw[q2,hm];omega);have e:brB k v (gB k v p)=pthI k v (gB k v p).wm:=by unfold brB;rw[show((gB k v p).wM-1).toNat=m+1 by omega];exact w1
  have e2:pthI k v p=pthI k v (gB k v p).wm++[p]:=by
   conv=>lhs;unfold pthI
   rw[e]
  refine⟨?_,?_,fun x hx=> ?_⟩
  ·rw[e2,<-w1];rfl
  ·rw[e2,qi,w2];rfl
  ·rw[e2]at hx;rcases qac.1 hx with hx|hx
   ·exact w3 x hx
   ·rw[qaf.1 hx];exact hp
theorem KI.pth {R:wE} {k:Li} {v:List wL} {n:Nat} (h:KI R k v n) {p:Int} (hp:p∈k):((pthI k v p).length:Int)=(gB k v p).wM/\(∀x∈pthI k v p,x∈k)/\(pthI k v p).length<=n:=by obtain⟨h1,h2⟩:=h.h1 p hp;obtain⟨m,hm⟩:=qo (show 0<=(gB k v p).wM by omega);obtain⟨_,w2,w3⟩:=h.way m p hp hm;have:=h.kn;exact⟨by omega,w3,by omega⟩
theorem KI.bls {R:wE} {k:Li} {v:List wL} {n:Nat} (h:KI R k v n) {l:Li} (hl:∀x∈l,x∈k):BLs (l.map (gB k v)):=by
 refine⟨fun b hb=> ?_,fun b hb=> ?_⟩
 ·obtain⟨x,hx,rfl⟩:=qaj.1 hb;exact(h.r x (hl x hx)).1
 ·obtain⟨x,hx,rfl⟩:=qaj.1 hb;exact(h.r x (hl x hx)).2
theorem KI.pi {R:wE} {k:Li} {v:List wL} {n:Nat} (h:KI R k v n) {l:Li} (hl:∀x∈l,x∈k) (hn:l.length<=20) (he:(stL R k v l).e=0):PI (stL R k v l).s (5*l.length) 0/\(stL R k v l).s.p.length=l.length/\(stL R k v l).s.R=R:=by have hB:=h.bls hl;have:=auGo_PI (l.map (gB k v)) (newS R) 0 (new_PI h.ru h.w) hB.1 hB.2 (by rw[ql];omega) he;rw[ql,qao]at this;obtain⟨a,b,c⟩:=this;exact⟨a,by show(auGo _ _).s.p.length=_;rw[b];exact qao _,c⟩
def PaOk (k:Li) (v:List wL) (b:wI):Prop:=(b.wM=1/\b.wm=0)∨(b.wM≠1/\b.wm∈k/\(gB k v b.wm).wM=b.wM-1)
def parS (k:Li) (v:List wL) (b:wI):Int:=if b.wM=1 then(if b.wm≠0 then 18 else 0)else if mHas (BEq.beq b.wm) k=false∨(gB k v b.wm).wM≠i64.wrap (b.wM-1)then 18 else 0
theorem KI.br {R:wE} {k:Li} {v:List wL} {n:Nat} (h:KI R k v n) {b:wI} (hb:PaOk k v b) (hh:1<=b.wM):((brB k v b).length:Int)=b.wM-1/\(∀x∈brB k v b,x∈k)/\(stL R k v (brB k v b)).e=0/\(brB k v b).length<=n/\b.wM<=k.length+1:=by
 rcases hb with⟨h1,h2⟩|⟨h1,h2,h3⟩
 ·have e:brB k v b=[]:=by unfold brB;rw[h1];rfl
  rw[e];exact⟨by simp;omega,fun x hx=>(by cases hx),rfl,qav _,by omega⟩
 ·obtain⟨m,hm⟩:=qo (show 0<=b.wM-1 by omega);have e:brB k v b=pthI k v b.wm:=by unfold brB;rw[hm,qu];exact(h.way m b.wm h2 (by rw[h3,hm])).1
  obtain⟨p1,p2,p3⟩:=h.pth h2;have:=(h.h1 b.wm h2).2;rw[e];exact⟨by rw[p1,h3],p2,h.rep _ h2,p3,by omega⟩
theorem gB_old {k:Li} {v:List wL} {id:Int} {y:wL} (hl:k.length=v.length) {x:Int} (hx:x∈k):gB (k++[id]) (v++[y]) x=gB k v x:=by unfold gB;rw[kj8 hx hl]
theorem gB_new {k:Li} {v:List wL} {id:Int} {y:wL} (hl:k.length=v.length) (hx:id∉k):gB (k++[id]) (v++[y]) id=blkOf y:=by unfold gB;rw[kki hx hl]
theorem KI.way_old {R:wE} {k:Li} {v:List wL} {n:Nat} (h:KI R k v n) {id:Int} {y:wL}:∀(m:Nat) (p:Int),p∈k->(gB k v p).wM=(m:Int)->brS (k++[id]) (v++[y]) m p=brS k v m p
 |0,p,_,_=>rfl
 |1,p,hp,hm=>rfl
 |m+2,p,hp,hm=>by obtain⟨q1,q2⟩:=h.hp p hp qqo;unfold brS;rw[gB_old h.kv hp,h.way_old (m+1) _ q1 (by rw[q2,hm];omega)]
theorem KI.pth_old {R:wE} {k:Li} {v:List wL} {n:Nat} (h:KI R k v n) {id:Int} {y:wL} {p:Int} (hp:p∈k):pthI (k++[id]) (v++[y]) p=pthI k v p:=by
 obtain⟨h1,_⟩:=h.h1 p hp;unfold pthI brB;rw[gB_old h.kv hp];obtain⟨m,hm⟩:=qo (show 0<=(gB k v p).wM-1 by omega);rw[hm,qu];cases m with
 |zero=>rfl
 |succ m=>obtain⟨q1,q2⟩:=h.hp p hp qqo;rw[h.way_old (m+1) _ q1 (by rw[q2,hm])]
theorem KI.br_old {R:wE} {k:Li} {v:List wL} {n:Nat} (h:KI R k v n) {id:Int} {y:wL} {b:wI} (hb:PaOk k v b) (hh:1<=b.wM):brB (k++[id]) (v++[y]) b=brB k v b:=by
 unfold brB;obtain⟨m,hm⟩:=qo (show 0<=b.wM-1 by omega);rw[hm,qu];cases m with
 |zero=>rfl
 |succ m=>
  rcases hb with⟨h1,h2⟩|⟨h1,h2,h3⟩
  ·omega
  ·rw[h.way_old (m+1) _ h2 (by rw[h3,hm])]
theorem stL_old {R:wE} {k:Li} {v:List wL} {id:Int} {y:wL} (hl:k.length=v.length) {l:Li} (hk:∀x∈l,x∈k):stL R (k++[id]) (v++[y]) l=stL R k v l:=by unfold stL;rw[qap (fun x hx=>gB_old hl (hk x hx))]
structure NB (R:wE) (k:Li) (v:List wL) (id:Int) (b:wI):Prop where
 n:id∉k
 p:PaOk k v b
 h:1<=b.wM
 r:BR' b
 t:b.Txs.length<=4
 e:(applyS (stL R k v (brB k v b)).s b).e=0
 a:txsE R b.Txs=0
theorem KI.step {R:wE} {k:Li} {v:List wL} {n:Nat} (h:KI R k v n) {id:Int} {y:wL} (hb:NB R k v id (blkOf y)):KI R (k++[id]) (v++[y]) (n+1)/\pthI (k++[id]) (v++[y]) id=brB k v (blkOf y)++[id]/\(stL R (k++[id]) (v++[y]) (brB k v (blkOf y)++[id]))=⟨0,(applyS (stL R k v (brB k v (blkOf y))).s (blkOf y)).s⟩:=by
 have hold:=fun {x:Int} (hx:x∈k)=>gB_old (id:=id) (y:=y) h.kv hx;have hnew:=gB_new (y:=y) h.kv hb.n;obtain⟨b1,b2,b3,b4,b5⟩:=h.br hb.p hb.h;have hkn:=h.kn;have hp:pthI (k++[id]) (v++[y]) id=brB k v (blkOf y)++[id]:=by unfold pthI;rw[hnew,h.br_old hb.p hb.h]
 have hs:(stL R (k++[id]) (v++[y]) (brB k v (blkOf y)++[id]))=⟨0,(applyS (stL R k v (brB k v (blkOf y))).s (blkOf y)).s⟩:=by have h1:=stL_old (R:=R) (id:=id) (y:=y) h.kv b2;unfold stL at h1 b3 ⊢;rw[qbc,k6u _ _ _ (by rw[h1];exact b3),h1,List.map_singleton,hnew];exact kkc hb.e
 refine⟨⟨by simp[h.kv],by simp;omega,fun x hx=> ?_,fun x hx=> ?_,fun x hx hx1=> ?_,fun x hx=> ?_,fun x hx=> ?_,h.ru,h.w⟩,hp,hs⟩
 ·rcases qac.1 hx with hx|hx
  ·rw[hold hx];exact h.r x hx
  ·rw[qaf.1 hx,hnew];exact⟨hb.r,hb.t⟩
 ·rw[qi,qbm];rcases qac.1 hx with hx|hx
  ·rw[hold hx];have:=h.h1 x hx;omega
  ·rw[qaf.1 hx,hnew];exact⟨hb.h,by omega⟩
 ·rcases qac.1 hx with hx|hx
  ·rw[hold hx]at hx1 ⊢;obtain⟨q1,q2⟩:=h.hp x hx hx1;rw[hold q1];exact⟨by simp[q1],q2⟩
  ·rw[qaf.1 hx,hnew]at hx1 ⊢;rcases hb.p with⟨q1,q2⟩|⟨q1,q2,q3⟩
   ·omega
   ·rw[hold q2];exact⟨by simp[q2],q3⟩
 ·rcases qac.1 hx with hx|hx
  ·rw[h.pth_old hx,stL_old h.kv (h.pth hx).2.1];exact h.rep x hx
  ·rw[qaf.1 hx,hp,hs]
 ·rcases qac.1 hx with hx|hx
  ·rw[hold hx];exact h.ac x hx
  ·rw[qaf.1 hx,hnew];exact hb.a
theorem rhoS_u8 (o i:Int):U64 (rhoS o i):=by
 unfold rhoS;split
 ·exact kj _ _
 ·decide
theorem krd (t:wZ):U64 (bindS t):=by
 unfold bindS;split
 ·exact kj _ _
 ·decide
theorem kqw {t:wZ} {d:Int} (h:TR t) (hd: -9223372036854775808<=d/\d<=9223372036854775807):SR (stmtS t d):=by
 unfold stmtS;split
 ·rename_i hv;have v:=(k12 t).1 hv;refine⟨hd,h.a,h.m,(by show t.wJ.length<=_;have:=v.ml;omega),fun x hx=> ?_,(by have:=v.ol;simp;omega),fun x hx=> ?_,(by have:=v.ol;simp;omega),h.d,h.w,h.f,h.ac,krd t⟩
  ·obtain⟨o,ho,rfl⟩:=qaj.1 hx;exact(h.o o ho).c
  ·obtain⟨i,_,rfl⟩:=qaj.1 hx;exact rhoS_u8 _ _
 ·exact⟨⟨(by simp only;omega),(by simp only;omega)⟩,(by decide:U64 0),fun x hx=>(by cases hx),(by decide:(0:Nat)<=_),fun x hx=>(by cases hx),(by decide:(0:Nat)<=_),fun x hx=>(by cases hx),(by decide:(0:Nat)<=_),(by decide:U64 0),(by decide:U64 0),(by decide:U64 0),(by decide:U64 0),(by decide:U64 0)⟩
theorem kla {b:Li} (h:((decW b).2==0)=true):WR (decW b).1:=by
 rcases kf3 b with⟨w,hE,e⟩|e
 ·rw[e];obtain⟨v1,v2,v3,v4,v5⟩:=k46.1 hE.v;have hq:=hE.r
  exact⟨fun x hx=>by
   have h1:=hq.i x hx;have h2:=(k1h.1 (v4 x hx)).2.2.2.2.2.2.1;exact⟨h1.n,h1.k,h1.nu,h1.po,h1.pa,by omega⟩,by show w.Ins.length<=_;omega,hq.o,by show w.wD.length<=_;omega,hq.s⟩
 ·rw[e]at h;cases h
theorem orOk_q (q:List wB):OrOk [] [] q:=⟨rfl,fun v hv=>by cases hv⟩
def cpl:Li->Li->Nat
 |a::l,b::m=>if a=b then cpl l m+1 else 0
 |_,_=>0
theorem cpl_le:∀(l m:Li),cpl l m<=l.length/\cpl l m<=m.length/\l.take (cpl l m)=m.take (cpl l m)
 |[],m=>by simp[cpl]
 |a::l,[]=>by simp[cpl]
 |a::l,b::m=>by
  unfold cpl;split
  ·rename_i h;obtain⟨h1,h2,h3⟩:=cpl_le l m;subst h;simp only[qr,List.take_succ_cons,h3];exact⟨by omega,by omega,trivial⟩
  ·simp
theorem kjg:∀(i:Nat) (l m:Li),i<=cpl l m->(i=cpl l m↔¬(i<l.length/\i<m.length/\l.getD i 0=m.getD i 0))
 |i,[],m,h=>by
  have:i=0:=by simpa[cpl]using h
  subst this;simp[cpl]
 |i,a::l,[],h=>by
  have:i=0:=by simpa[cpl]using h
  subst this;simp[cpl]
 |0,a::l,b::m,_=>by
  unfold cpl;split
  ·rename_i h;simp[h]
  ·rename_i h;simp[h]
 |i+1,a::l,b::m,h=>by
  unfold cpl at h ⊢;split at h
  ·rename_i hab;rw[qh hab];have:=kjg i l m qqo;simp only[qr,List.getD_cons_succ];constructor
   ·intro e;have:=this.1 qqo;omega
   ·intro e;have:=this.2 qqo;omega
  ·omega
def mvS (k:Li) (v:List wL) (S:PS) (n:Nat) (l:Li):PS:=(auGo (l.map (gB k v)) (undoN n S)).s
structure MvA (k:Li) (v:List wL) (S:PS) (n:Nat) (l:Li) (s0:PS) (c:Nat) (lf:List wI):Prop where
 hp:PI s0 c 0
 hn:lf.length=n
 hb:BLs lf
 ht:BLs (l.map (gB k v))
 hc:c+5*n+5*l.length<=700
 he:(auGo lf s0).e=0
 hs:S=(auGo lf s0).s
 hf:(auGo (l.map (gB k v)) s0).e=0
def MvOk (k:Li) (v:List wL) (S:PS) (n:Nat) (l:Li):Prop:=∃s0 c lf,MvA k v S n l s0 c lf
theorem BLs.take {l:List wI} (h:BLs l) (n:Nat):BLs (l.take n):=⟨fun b hb=>h.1 b (qbf hb),fun b hb=>h.2 b (qbf hb)⟩
theorem k8v (l:List wI) (s:PS) (n:Nat) (h:(auGo l s).e=0):(auGo (l.take n) s).e=0:=by rw[<-qbq n l]at h;exact kbp _ _ _ h
theorem ka0 {l:List wI} {s:PS} {n:Nat} (h:(auGo l s).e=0) (hn:n<l.length):(applyS (auGo (l.take n) s).s l[n]).e=0/\(auGo (l.take (n+1)) s).s=(applyS (auGo (l.take n) s).s l[n]).s:=by
 have h1:=k8v l s (n+1) h;have h2:=k8v l s n h;rw[qan hn]at h1 ⊢;rw[k6u _ _ _ h2]at h1 ⊢
 have h3:(applyS (auGo (l.take n) s).s l[n]).e=0:=by
  rw[k1t]at h1;split at h1
  ·rename_i h3;exact h3
  ·rename_i h3;exact(h3 h1).elim
 rw[kkc h3];exact⟨h3,rfl⟩
theorem kb9 {l:List wI} {s:PS} {c:Nat} (h:(auGo l s).e=0) (hp:PI s c 0) (hb:BLs l) (n:Nat) (hn:n<=l.length) (hc:c+5*l.length<=790):PI (auGo (l.take n) s).s (c+5*n) 0:=by have:=(auGo_PI (l.take n) s c hp (hb.take n).1 (hb.take n).2 (by rw[qaa];omega) (k8v l s n h)).1;rw[qaa,qcc hn]at this;exact this
theorem MvA.back {k:Li} {v:List wL} {S:PS} {n:Nat} {l:Li} {s0:PS} {c:Nat} {lf:List wI} (h:MvA k v S n l s0 c lf):∀i,i<=n->undoN i S=(auGo (lf.take (n-i)) s0).s
 |0,_=>by rw[h.hs,Nat.sub_zero,qx (by rw[h.hn];exact qv _)];rfl
 |i+1,hi=>by rw[k6o,h.back i qqo];have hn:=h.hn;have hc:=h.hc;obtain⟨g1,g2⟩:=ka0 h.he (n:=n-(i+1)) qqo;rw[show n-i=n-(i+1)+1 by omega,g2];have hP:=kb9 h.he h.hp h.hb (n-(i+1)) qqo qqo;have hm:lf[n-(i+1)]' qqo∈lf:=qal _;have:=h.hb.2 _ hm;exact(kmb hP qqo (h.hb.1 _ hm) g1).1
theorem MvA.uok {k:Li} {v:List wL} {S:PS} {n:Nat} {l:Li} {s0:PS} {c:Nat} {lf:List wI} (h:MvA k v S n l s0 c lf) {i:Nat} (hi:i<n):UOk (undoN i S):=by rw[h.back i qqo];have hn:=h.hn;have hc:=h.hc;obtain⟨g1,g2⟩:=ka0 h.he (n:=n-(i+1)) qqo;rw[show n-i=n-(i+1)+1 by omega,g2];have hP:=kb9 h.he h.hp h.hb (n-(i+1)) qqo qqo;have hm:lf[n-(i+1)]' qqo∈lf:=qal _;have:=h.hb.2 _ hm;exact ko8 hP qqo (h.hb.1 _ hm) g1
theorem MvA.base {k:Li} {v:List wL} {S:PS} {n:Nat} {l:Li} {s0:PS} {c:Nat} {lf:List wI} (h:MvA k v S n l s0 c lf):undoN n S=s0:=by rw[h.back n (qv _),Nat.sub_self];rfl
theorem MvA.fwd {k:Li} {v:List wL} {S:PS} {n:Nat} {l:Li} {s0:PS} {c:Nat} {lf:List wI} (h:MvA k v S n l s0 c lf) {j:Nat} (hj:j<l.length):
  PI (auGo ((l.take j).map (gB k v)) s0).s (c+5*j) 0/\BR' (gB k v l[j])/\(gB k v l[j]).Txs.length<=4/\(auGo ((l.take (j+1)).map (gB k v)) s0).s=(applyS (auGo ((l.take j).map (gB k v)) s0).s (gB k v l[j])).s:=by
 have hc:=h.hc;have hl:(l.map (gB k v)).length=l.length:=ql _;have hP:=kb9 h.hf h.hp h.ht j qqo qqo;obtain⟨g1,g2⟩:=ka0 h.hf (n:=j) qqo;rw[List.getElem_map]at g1 g2;rw[<-qci]at hP g2 g1;rw[<-qci]at g2;have hm:gB k v l[j]∈l.map (gB k v):=qaj.2 ⟨l[j],qal _,rfl⟩;exact⟨hP,h.ht.1 _ hm,h.ht.2 _ hm,g2⟩
structure FH where
 f:Int
 h:Int
def finS (F:Int) (be:Li) (f h:Int):FH:=if 1<=(be.length:Int)-F/\h<(be.length:Int)-F then⟨ix be ((be.length:Int)-F-1),(be.length:Int)-F⟩else⟨f,h⟩
def wkS (v:List wL) (k:Li) (id:Int):Int:=(mVal (BEq.beq id) k v default).work
def betS (k:Li) (v:List wL) (be:Li) (id w:Int):Bool:=if be=[]then true else decide (wkS v k (ix be ((be.length:Int)-1))<w)||(w==wkS v k (ix be ((be.length:Int)-1))&&decide (id<ix be ((be.length:Int)-1)))
def stoS (b:wI) (w:Int):wL:=⟨b.wm,b.wM,b.wAl,b.wW,b.wY,b.Txs,w⟩
def wrkS (c:CS) (b:wI):Int:=if brB c.k c.v b=[]then b.wW else u64.wrap (b.wW+wkS c.v c.k b.wm)
structure SubR where
 u:Int
 a:Int
 e:Int
 c:CS
def addS' (c:CS) (b:wI):CS:={c with k:=c.k++[idB b],v:=c.v++[stoS b (wrkS c b)]}
def topS (c:CS) (b:wI):CS:={addS' c b with be:=brB c.k c.v b++[idB b],S:=(applyS (stL c.R c.k c.v (brB c.k c.v b)).s b).s,fi:=(finS c.R.wU (brB c.k c.v b++[idB b]) c.fi c.he).f,he:=(finS c.R.wU (brB c.k c.v b++[idB b]) c.fi c.he).h}
def subE (c:CS) (b:wI):Int:=
 if checkB c.R.wW b≠0 then checkB c.R.wW b else if idB b∈c.k then 5 else if parS c.k c.v b≠0 then parS c.k c.v b
 else if 0<c.he/\(((brB c.k c.v b).length:Int)<c.he∨ix (brB c.k c.v b) (c.he-1)≠c.fi)then 19
 else if txsE c.R b.Txs≠0 then txsE c.R b.Txs else(applyS (stL c.R c.k c.v (brB c.k c.v b)).s b).e
def subS (c:CS) (b:wI):SubR:=
 if subE c b≠0 then⟨0,0,subE c b,c⟩
 else if betS c.k c.v c.be (idB b) (wrkS c b)=false then⟨0,0,0,addS' c b⟩
 else⟨(c.be.length:Int)-(cpl (brB c.k c.v b) c.be:Int),((brB c.k c.v b).length:Int)+1-(cpl (brB c.k c.v b) c.be:Int),0,topS c b⟩
structure GB (b:wI):Prop where
 r:BR b
 l:∀t∈b.Txs,TL t
 t:b.Txs.length<=4
theorem GB.r' {b:wI} (h:GB b):BR' b:=⟨h.r.m,h.r.t,h.l⟩
structure SuO (c:CS) (b:wI):Prop where
 hc:checkB c.R.wW b=0
 hi:idB b∉c.k
 hp:parS c.k c.v b=0
 ht:txsE c.R b.Txs=0
 he:(applyS (stL c.R c.k c.v (brB c.k c.v b)).s b).e=0
theorem knt {c:CS} {b:wI} (h:subE c b=0):SuO c b:=by
 unfold subE at h;split at h
 ·rename_i h1;exact(h1 h).elim
 ·rename_i h1;split at h
  ·cases h
  ·rename_i h2;split at h
   ·rename_i h3;exact(h3 h).elim
   ·rename_i h3;split at h
    ·cases h
    ·split at h
     ·rename_i h5;exact(h5 h).elim
     ·rename_i h5;exact⟨qp h1,h2,qp h3,qp h5,h⟩
theorem kis {w:Int} {b:wI} (h:checkB w b=0):VB b:=by
 unfold checkB at h;split at h
 ·rename_i h1;exact(h1 h).elim
 ·rename_i h1;exact(k5y b).1 (qp h1)
theorem parS_ok {k:Li} {v:List wL} {b:wI} (h:parS k v b=0) (v0:VB b):PaOk k v b:=by
 unfold parS at h;have h0:=v0.h.h0;have h1:=v0.h.h1;split at h
 ·rename_i h2;split at h
  ·cases h
  ·rename_i h3;exact .inl ⟨h2,qp h3⟩
 ·rename_i h2;split at h
  ·cases h
  ·rename_i h3;refine .inr ⟨h2,?_,?_⟩
   ·cases hm:mHas (BEq.beq b.wm) k with
    |true=>exact k20.1 hm
    |false=>exact(h3 (.inl hm)).elim
   ·have:(gB k v b.wm).wM=i64.wrap (b.wM-1):=qp fun hh=>h3 (.inr hh);rw[this,wi _ qqo qqo]
theorem blk_sto (b:wI) (w:Int):blkOf (stoS b w)=b:=rfl
theorem SuO.nb {c:CS} {b:wI} (h:SuO c b) (hb:GB b):NB c.R c.k c.v (idB b) b:=by have v:=kis h.hc;exact⟨h.hi,parS_ok h.hp v,v.h.h0,hb.r',hb.t,h.he,h.ht⟩
theorem KI.mono {R:wE} {k:Li} {v:List wL} {n m:Nat} (h:KI R k v n) (hm:n<=m):KI R k v m:=⟨h.kv,qbi h.kn hm,h.r,h.h1,h.hp,h.rep,h.ac,h.ru,h.w⟩
theorem CI.mono {c:CS} {n m:Nat} (h:CI c n) (hm:n<=m):CI c m:=⟨h.K.mono hm,h.be,h.st,h.he⟩
theorem CI.bek {c:CS} {n:Nat} (h:CI c n):(∀x∈c.be,x∈c.k)/\c.be.length<=n/\(stL c.R c.k c.v c.be).e=0:=by
 rcases h.be with e|⟨id,h1,e⟩
 ·rw[e];exact⟨fun x hx=>(by cases hx),qav _,rfl⟩
 ·rw[e];obtain⟨_,p2,p3⟩:=h.K.pth h1;exact⟨p2,p3,h.K.rep _ h1⟩
theorem finS_h {F:Int} {be:Li} {f h:Int} (hF:1<=F) (hb:be.length<=1000) (hh:0<=h/\h<=4294967296):0<=(finS F be f h).h/\(finS F be f h).h<=4294967296:=by
 unfold finS;split
 ·simp only;omega
 ·exact hh
theorem khn {r:wE} (h:rulesE r=0):1<=r.wU/\r.wU<=1048576:=by have hb:=kbt h;simp only[rulesB,qe,qae]at hb;omega
theorem subS_R (c:CS) (b:wI):(subS c b).c.R=c.R:=by
 unfold subS;split
 ·rfl
 ·split<;>rfl
theorem subS_CI {c:CS} {n:Nat} (h:CI c n) (hn:n<=19) {b:wI} (hb:GB b):CI (subS c b).c (n+1):=by
 unfold subS;split
 ·exact h.mono (qdq n)
 ·rename_i h1;have hS:=knt (qp h1);have hN:=hS.nb hb;obtain⟨s1,s2,s3⟩:=h.K.step (y:=stoS b (wrkS c b)) hN;rw[blk_sto]at s2 s3;obtain⟨b1,b2,b3⟩:=h.bek;split
  ·refine⟨s1,?_,?_,h.he⟩
   ·rcases h.be with e|⟨id,h1,e⟩
    ·exact .inl e
    ·exact .inr ⟨id,by show id∈c.k++[idB b];simp[h1],by rw[show(addS' c b).be=c.be from rfl,e];exact(h.K.pth_old h1).symm⟩
   ·show c.S=(stL c.R (c.k++[idB b]) (c.v++[stoS b (wrkS c b)]) c.be).s;rw[stL_old h.K.kv b1];exact h.st
  ·have hF:=khn h.K.ru;obtain⟨r1,r2,r3,r4,r5⟩:=h.K.br hN.p hN.h;refine⟨s1,.inr ⟨idB b,by show idB b∈c.k++[idB b];simp,s2.symm⟩,?_,finS_h hF.1 (by rw[qi,qbm];omega) h.he⟩;show(applyS (stL c.R c.k c.v (brB c.k c.v b)).s b).s=(stL c.R (c.k++[idB b]) (c.v++[stoS b (wrkS c b)]) (brB c.k c.v b++[idB b])).s;rw[s3]
def sumO (l:List wA):Int:=l.foldl (fun s a=>u64.wrap (s+a.wd)) 0
theorem sumO_go:∀(l:List wA) (s:Int),(∀a∈l,0<=a.wd)->0<=s->s+sumA l<18446744073709551616->l.foldl (fun s a=>u64.wrap (s+a.wd)) s=s+sumA l
 |[],s,_,_,_=>by simp[sumA]
 |a::r,s,hn,h0,h=>by
  have e:sumA (a::r)=a.wd+sumA r:=by simp[sumA]
  have h1:=hn a qqs;have h2:=sumA_nn (l:=r) fun x hx=>hn x (by simp[hx]);rw[e]at h ⊢;rw[qfa,wrap_u64 _ qqo qqo,sumO_go r _ (fun x hx=>hn x (by simp[hx])) qqo qqo];omega
theorem PI.open {s:PS} {c:Nat} (h:PI s c 0) (hc:c<=800):sumO s.b=sumA s.b/\u64.wrap (sumO s.b+s.n)=u64.wrap (u64.wrap (s.p.length:Int)*s.R.wV):=by
 obtain⟨s1,s2,s3,s4⟩:=sup_bd h hc;have e:sumO s.b=sumA s.b:=by unfold sumO;rw[sumO_go s.b 0 (fun a ha=>(h.b.1.2.2 a ha).2.1.1) (qce _) qqo];omega
 rw[e];exact⟨rfl,(sup_PI h hc).2⟩
theorem CI.pi {c:CS} {n:Nat} (h:CI c n) (hn:n<=20):PI c.S (5*c.be.length) 0/\c.S.p.length=c.be.length/\c.S.R=c.R:=by obtain⟨b1,b2,b3⟩:=h.bek;rw[h.st];exact h.K.pi b1 qqo b3
theorem inpS_k (C:EC) (ns:List wS) (an h:Int):∀(l:List wP) (I:EIn),I.f.wAI≠1->(inpS C ns an h l I).f.wAI≠1
 |[],I,hk=>hk
 |x::r,I,hk=>by
  unfold inpS;split
  ·exact inpS_k C ns an h r I hk
  ·split
   ·show(wrgS C ns x an h).wAI≠1;unfold wrgS;rw[k59];decide
   ·split
    ·show(2:Int)≠1;decide
    ·exact inpS_k C ns an h r _ hk
theorem exTd_k {C:EC} {R:wE} {h:Int} {x:EX} {t:wZ} (ha:accT R t=true):(exTd C R.wC h x t).f.wAI≠1:=by
 unfold accT at ha;simp only[qe,beq_iff_eq]at ha;unfold exTd exTx;rw[qf (by rw[ha.1,ha.2];simp)];split
 ·exact inpS_k _ _ _ _ _ _ (by decide:(0:Int)≠1)
 ·show(0:Int)≠1;decide
theorem kbo {R:wE}:∀{l:List wZ},txsE R l=0->∀t∈l,accT R t=true
 |[],_,t,ht=>by cases ht
 |a::r,h,t,ht=>by
  unfold txsE at h;split at h
  ·rename_i h1;exact(h1 h).elim
  ·rename_i h1;rcases qag.1 ht with rfl|ht
   ·have h1:txE R t=0:=qp h1;unfold txE at h1;split at h1
    ·rename_i h2;exact(h2 h1).elim
    ·split at h1
     ·rename_i h2;exact(h2 h1).elim
     ·split at h1
      ·cases h1
      ·rename_i h2;simpa using h2
   ·exact kbo h t ht
theorem txsGo_k {C:EC} {R:wE} {h:Int}:∀(l:List wZ) (i:Nat) (x:EX),(∀t∈l,accT R t=true)->(txsGo C R.wC h i l x).f.wAI≠1
 |[],i,x,_=>(by decide:(0:Int)≠1)
 |t::r,i,x,ha=>by
  rw[txsGo];split
  ·exact exTd_k (ha t qqs)
  ·exact txsGo_k r (i+1) _ fun y hy=>ha y (by simp[hy])
theorem chnGo_k {C:EC} {R:wE}:∀(l:List wI) (x:EX),(∀b∈l,∀t∈b.Txs,accT R t=true)->(chnGo C R.wC l x).f.wAI≠1
 |[],x,_=>(by decide:(0:Int)≠1)
 |b::r,x,ha=>by
  rw[chnGo];split
  ·exact txsGo_k b.Txs 0 x (ha b qqs)
  ·exact chnGo_k r _ fun y hy=>ha y (by simp[hy])
theorem krc {R:wE} {l:List wI} (hr:rulesE R=0) (hm:R.wb=2) (he:(auGo l (newS R)).e=0) (ha:∀b∈l,txsE R b.Txs=0):(audS false R l).2=0/\(audS false R l).1.wAR≠1:=by
 have e:audS false R l=exmS R l:=by unfold audS;rw[qf (by simp[hr]),qf (by simp[hm])]
 rw[e];unfold exmS;rw[qh hr,qh he];exact⟨rfl,chnGo_k l ex0 fun b hb=>kbo (ha b hb)⟩
theorem CI.blocks {c:CS} {n:Nat} (h:CI c n):(∀b∈c.be.map (gB c.k c.v),BR' b)/\(∀b∈c.be.map (gB c.k c.v),b.Txs.length<=4)/\(∀b∈c.be.map (gB c.k c.v),txsE c.R b.Txs=0)/\(auGo (c.be.map (gB c.k c.v)) (newS c.R)).e=0:=by obtain⟨b1,b2,b3⟩:=h.bek;have:=h.K.bls b1;refine⟨this.1,this.2,fun b hb=> ?_,b3⟩;obtain⟨x,hx,rfl⟩:=qaj.1 hb;exact h.K.ac x (b1 x hx)
theorem newC_CI {R:wE} (hr:rulesE R=0) (hw:0<=R.wV):CI ⟨R,[],[],[],newS R,0,0⟩ 0:=⟨⟨rfl,qv _,fun x hx=>(by cases hx),fun x hx=>(by cases hx),fun x hx=>(by cases hx),fun x hx=>(by cases hx),fun x hx=>(by cases hx),hr,hw⟩,.inl rfl,rfl,⟨qce _,(by show(0:Int)<=_;decide)⟩⟩
def comS (n:wS):Int:=hashS 2 (noteL n)
def mkS (y:wP):Int:=hashS 3 [y.Key,y.wAK]
def RiQ (q:wB):Prop:=allB q.wAY=true/\hashS q.wAe q.wAY=q.wAj
structure GenF (f:wAs):Prop where
 k:f.wAI=2
 ne:¬(f.wAF=f.wAL/\f.wAC=f.wAJ)
 an:f.wz=f.wAD
 a:allB f.wAC=true/\hashS f.wAF f.wAC=f.wz
 b:allB f.wAJ=true/\hashS f.wAL f.wAJ=f.wAD
theorem gen_col {a b:wB} (h:¬(a.wAe=b.wAe/\a.wAY=b.wAY)) (he:a.wAj=b.wAj) (ha:RiQ a) (hb:RiQ b):GenF (colF a b):=⟨rfl,h,he,ha,hb⟩
theorem kdp {o r:List wAO}:∀{m k:Nat},wrgGo o r m=some k->k<m/\ix o (k:Int)≠ix r (k:Int)/\∀j,k<j->j<m->ix o (j:Int)=ix r (j:Int)
 |0,k,h=>by cases h
 |m+1,k,h=>by
  rw[wrgGo]at h;split at h
  ·rename_i h1;injection h with h;subst h;exact⟨by omega,h1,fun j h1 h2=>by omega⟩
  ·rename_i h1;obtain⟨g1,g2,g3⟩:=kdp h;refine⟨by omega,g2,fun j h2 h3=> ?_⟩;by_cases hj:j=m
   ·subst hj;exact qp h1
   ·exact g3 j h2 qqo
theorem kf0 {o r:List wAO}:∀{m:Nat},wrgGo o r m=none->∀j,j<m->ix o (j:Int)=ix r (j:Int)
 |0,_,j,hj=>by omega
 |m+1,h,j,hj=>by
  rw[wrgGo]at h;split at h
  ·cases h
  ·rename_i h1;by_cases hjm:j=m
   ·subst hjm;exact qp h1
   ·exact kf0 h j qqo
def wayD:Nat->Int->Li->Nat->Int
 |_,leaf,_,0=>leaf
 |p,leaf,s::r,j+1=>wayD (p/2) (ndA (ownP (p:Int) leaf s)) r j
 |_,leaf,[],_+1=>leaf
theorem kca:∀(path:Li) (p:Nat) (leaf:Int) (j:Nat) (hj:j<path.length),ix (ownsL (p:Int) leaf path) (j:Int)=ownP ((p/2^j:Nat):Int) (wayD p leaf path j) path[j]/\ndA (ix (ownsL (p:Int) leaf path) (j:Int))=wayD p leaf path (j+1)
 |[],p,leaf,j,hj=>by cases hj
 |s::r,p,leaf,0,hj=>by
  have:ix (ownsL (p:Int) leaf (s::r)) ((0:Nat):Int)=ownP (p:Int) leaf s:=rfl;rw[this];refine⟨?_,?_⟩
  ·simp[wayD]
  ·simp[wayD]
 |s::r,p,leaf,j+1,hj=>by
  have hj' :j<r.length:=by simpa using hj
  obtain⟨g1,g2⟩:=kca r (p/2) (ndA (ownP (p:Int) leaf s)) j hj';have hl:j<(ownsL ((p/2:Nat):Int) (ndA (ownP (p:Int) leaf s)) r).length:=by rw[k54];exact hj'
  have e:ix (ownsL (p:Int) leaf (s::r)) ((j+1:Nat):Int)=ix (ownsL ((p/2:Nat):Int) (ndA (ownP (p:Int) leaf s)) r) (j:Int):=by
   have h1:ownsL (p:Int) leaf (s::r)=ownP (p:Int) leaf s::ownsL ((p/2:Nat):Int) (ndA (ownP (p:Int) leaf s)) r:=by rw[ownsL];congr 1
   rw[h1,ix_get _ _ (by rw[qr];omega),ix_get _ _ hl];simp
  rw[e];refine⟨?_,?_⟩
  ·rw[g1,Nat.pow_succ,qdr,<-Nat.div_div_eq_div_mul];simp[wayD]
  ·rw[g2];simp[wayD]
theorem kr4 {q:Nat} {leaf s a0 a1:Int} (h:ownP (q:Int) leaf s=⟨a0,a1⟩):leaf=if q%2=1 then a1 else a0:=by
 unfold ownP at h;by_cases hq:q%2=1
 ·rw[qh qqo]at h;rw[qh hq];injection h
 ·rw[qf qqo]at h;rw[qf hq];injection h
theorem kh3:∀(path:Li) (p:Nat) (leaf:Int),climbL leaf (p:Int) path=wayD p leaf path path.length
 |[],p,leaf=>rfl
 |s::r,p,leaf=>by
  have ih:=kh3 r (p/2) (ndA (ownP (p:Int) leaf s));rw[climbL,qr,wayD,<-ih]
  have e:(if(p:Int)%2=0 then hashS 6 [leaf,s]else hashS 6 [s,leaf])=ndA (ownP (p:Int) leaf s):=by
   unfold ownP;by_cases hp:p%2=1
   ·rw[qf qqo,qh qqo];rfl
   ·rw[qh qqo,qf qqo];rfl
  rw[e];congr 1
theorem way_eq {f:Nat->Int} {path:Li} {p:Nat} {leaf:Int} (hp:p<2^path.length) (hr:climbL leaf (p:Int) path=TT f path.length 0) (k:Nat) (hk:k<=path.length) (he:∀j,k<=j->j<path.length->ix (ownsL (p:Int) leaf path) (j:Int)=realP f p j):wayD p leaf path k=TT f k (p/2^k):=by
 by_cases h:k=path.length
 ·subst h;rw[<-kh3,hr,qeu hp]
 ·have hkl:k<path.length:=by omega
  have e:=he k (qv _) hkl;rw[(kca path p leaf k hkl).1]at e;have:=kr4 e;rw[this];have h2:=Nat.div_add_mod (p/2^k) 2;split
  ·rename_i h1;congr 1;omega
  ·rename_i h1;congr 1;omega
theorem kpp (f:Nat->Int) (p j:Nat):ndA (realP f p j)=TT f (j+1) (p/2^(j+1)):=by unfold ndA realP;rw[TT,k1c]
theorem kcb {f:Nat->Int} {p n j:Nat} (hj:j<n):ix (realsL f p n) (j:Int)=realP f p j:=by rw[ix_get _ _ (by rw[kek];exact hj)];simp[realsL]
theorem k5d {a b:Int} (ha:a<18446744069414584321) (hb:b<18446744069414584321):allB [a,b]=true:=k3f.2 fun x hx=>by
 simp only[qag,List.mem_nil_iff,or_false]at hx;rcases hx with rfl|rfl
 ·exact ha
 ·exact hb
theorem noteL_B {n:wS} (h:noteV n=true):allB (noteL n)=true:=by unfold noteV at h;simp only[qe,qae]at h;refine k3f.2 fun x hx=> ?_;simp only[noteL,qag,List.mem_nil_iff,or_false]at hx;rcases hx with rfl|rfl|rfl|rfl<;>omega
theorem kqh {ls:Li} {ns:List wS} {x:wP} {p:Nat} (hpos:x.wH=(p:Int)) (hp:p<2^x.wo.length) (hl:BG ls) (hv:noteV (noteOf x)=true) (hpa:allB x.wo=true) (hr:climbL (comS (noteOf x)) (p:Int) x.wo=TT (lf ls) x.wo.length 0) (hc:∀i:Nat,i<ls.length->i<ns.length/\comS (ix ns (i:Int))=ls.getD i 0/\noteV (ix ns (i:Int))=true)
  (hne:∀i:Nat,i<ns.length->x.wH=(i:Int)->ix ns (i:Int)≠noteOf x):GenF (wrgF ls ns x (ownsL x.wH (leafS x) x.wo) (realsL (lf ls) x.wH.toNat x.wo.length)):=by
 have hleaf:leafS x=comS (noteOf x):=by unfold leafS commP;rw[qh hv];unfold pkR;rw[qh (noteL_B hv)];rfl
 have hleafB:comS (noteOf x)<18446744069414584321:=k2a _ _;rw[hleaf,hpos,qu];unfold wrgF;have hol:=k54 (p:Int) (comS (noteOf x)) x.wo
 have hoB:∀(path:Li) (p leaf:Int),leaf<18446744069414584321->(∀s∈path,s<18446744069414584321)->∀y∈ownsL p leaf path,y.a0<18446744069414584321/\y.a1<18446744069414584321:=by
  intro path;induction path with
  |nil=>intro p leaf _ _ y hy;cases hy
  |cons s r ih=>
   intro p leaf h1 h2 y hy;rw[ownsL]at hy;rcases qag.1 hy with rfl|hy
   ·unfold ownP;split
    ·exact⟨h2 s qqs,h1⟩
    ·exact⟨h1,h2 s qqs⟩
   ·exact ih _ _ (k2a _ _) (fun z hz=>h2 z (by simp[hz])) y hy
 have hTT:=fun(i k:Nat)=>(TT_r (l:=ls) hl i k).2;split
 ·rename_i k hk;rw[hol]at hk;obtain⟨g1,g2,g3⟩:=kdp hk;have hw:=way_eq hp hr (k+1) qqo (fun j h1 h2=>by rw[g3 j qqo h2,kcb h2]);have ho:=(kca x.wo p (comS (noteOf x)) k g1).2;rw[kcb g1]at g2 ⊢;have hnd:ndA (ix (ownsL (p:Int) (comS (noteOf x)) x.wo) (k:Int))=ndA (realP (lf ls) p k):=by rw[ho,hw,kpp]
  have hm:=hoB x.wo (p:Int) (comS (noteOf x)) hleafB (fun s hs=>k3f.1 hpa s hs) _ (ix_mem (ownsL (p:Int) (comS (noteOf x)) x.wo) (k:Int) qqo qqo);refine gen_col ?_ rfl ⟨k5d hm.1 hm.2,rfl⟩ ⟨k5d (hTT _ _) (hTT _ _),hnd.symm⟩;rintro ⟨_,h2⟩;apply g2;have h2:[(ix (ownsL (p:Int) (comS (noteOf x)) x.wo) (k:Int)).a0,(ix (ownsL (p:Int) (comS (noteOf x)) x.wo) (k:Int)).a1]=[(realP (lf ls) p k).a0,(realP (lf ls) p k).a1]:=h2;injection h2 with h3 h4;injection h4 with h4;generalize ix (ownsL (p:Int) (comS (noteOf x)) x.wo) (k:Int)=u at *
  generalize realP (lf ls) p k=w at *
  obtain⟨u0,u1⟩:=u;obtain⟨w0,w1⟩:=w;exact congr (congrArg wAO.mk h3) h4
 ·rename_i hk;rw[hol]at hk;have g:=kf0 hk;have hw:=way_eq hp hr 0 (qav _) (fun j _ h2=>by rw[g j h2,kcb h2])
  have hw:comS (noteOf x)=lf ls p:=by
   have:wayD p (comS (noteOf x)) x.wo 0=comS (noteOf x):=by cases x.wo<;>rfl
   rw[this]at hw;simpa[TT]using hw
  have ra:RiQ (comQ (noteOf x) (comS (noteOf x))):=⟨noteL_B hv,rfl⟩;rw[hleaf];split
  ·rename_i h1;obtain⟨h1,h2⟩:=h1;obtain⟨c1,c2,c3⟩:=hc p qqo;refine gen_col (a:=comQ (noteOf x) (comS (noteOf x))) (b:=comQ (ix ns x.wH) (comS (noteOf x))) ?_ rfl ra ⟨(by rw[hpos];exact noteL_B c3:allB (noteL (ix ns x.wH))=true),?_⟩
   ·rintro ⟨_,h3⟩;have h3:noteL (noteOf x)=noteL (ix ns (p:Int)):=by rw[hpos]at h3;exact h3
    apply hne p c1 hpos;generalize noteOf x=u at *
    generalize ix ns (p:Int)=w at *
    obtain⟨u0,u1,u2,u3⟩:=u;obtain⟨w0,w1,w2,w3⟩:=w;simp only[noteL,List.cons.injEq,and_true]at h3;obtain⟨rfl,rfl,rfl,rfl⟩:=h3;rfl
   ·show comS (ix ns x.wH)=comS (noteOf x);rw[hpos,c2,hw];unfold lf;rw[gD_lt qqo,gD_lt qqo]
  ·rename_i h1;have hge:ls.length<=p:=by apply qp;intro hh;exact h1 ⟨by omega,by have:=(hc p qqo).1;omega⟩
   refine gen_col (a:=comQ (noteOf x) (comS (noteOf x))) (b:=⟨6,[],comS (noteOf x)⟩) ?_ rfl ra ⟨(rfl:allB []=true),?_⟩
   ·rintro ⟨h3,_⟩;exact absurd (show(2:Int)=6 from h3) qqd
   ·show hashS 6 []=comS (noteOf x);rw[hw];unfold lf;rw[gD_ge hge];rfl
structure IOk (d:Int) (an m:Int) (x:wP):Prop where
 sp:spendV x=true
 pl:(x.wo.length:Int)=d
 pp:x.wH<2^d.toNat
 ow:x.wAE=hashS 1 [x.Key,x.wAQ]
 hm:m=mkS x
 nd:x.wBM=false->climbL (comS (noteOf x)) x.wH x.wo=an
theorem kk6 {x:wP} (h:spendV x=true):noteV (noteOf x)=true:=by unfold spendV at h;simp only[qe]at h;exact h.1.1.1.1.1.1.1
theorem kgv {n:wS} (h:noteV n=true):commP pkR n=some (comS n):=by unfold commP;rw[qh h];unfold pkR;rw[qh (noteL_B h)];rfl
theorem inE_ok {d an m:Int} {x:wP} (hv:inV d x=true) (h:inE pkR an m x=0):IOk d an m x:=by
 unfold inV at hv;simp only[qe,qae]at hv;obtain⟨⟨hs,hl⟩,hp⟩:=hv;have hsv:=k1h.1 hs;have hnv:=kk6 hs;have hrho:x.wAK<18446744069414584321:=by unfold noteV noteOf at hnv;simp only[qe,qae]at hnv;exact hnv.1.2
 have hm:markP pkR x.Key x.wAK=some (mkS x):=by unfold markP;rw[qh ⟨hsv.2.1,hrho⟩];unfold pkR;rw[qh (k5d hsv.2.1 hrho)];rfl
 unfold inE at h;rw[hm,kgv hnv]at h;split at h
 ·cases h
 ·rename_i h1;split at h
  ·cases h
  ·rename_i h2;have ho:x.wAE=ownerS x.Key x.wAQ:=qp h1;refine⟨hs,hl,hp,?_,?_,fun hd=> ?_⟩
   ·rw[ho];unfold ownerS;rw[qh ⟨hsv.2.2.1,hsv.2.2.2.1⟩]
   ·exact(qp fun hh=>h2 (.inr fun h3=>hh h3.symm):m=mkS x)
   ·rw[qf (by simp[hd])]at h;split at h
    ·cases h
    ·rename_i h3;have h4:climbS (comS (noteOf x)) x.wH x.wo=an:=qp fun hh=>h3 (.inr hh);unfold climbS at h4;rw[qh ⟨hsv.2.2.2.2.2.2.1,hsv.2.2.2.2.1,by rw[<-hl]at hp;exact_mod_cast hp,k2a _ _,hsv.2.2.2.2.2.2.2⟩]at h4;exact h4
structure SpI (ns:List wS) (k:Li) (v:List wP) (M:Li):Prop where
 k:v.map (·.wH)=k
 n:∀y∈v,0<=y.wH/\y.wH<ns.length/\ix ns y.wH=noteOf y
 o:∀y∈v,y.wAE=hashS 1 [y.Key,y.wAQ]/\spendV y=true
 m:(v.map mkS).Sublist M
theorem klb:∀(v:List wP) (p:Int),p∈v.map (·.wH)->mVal (BEq.beq p) (v.map (·.wH)) v default∈v/\(mVal (BEq.beq p) (v.map (·.wH)) v default).wH=p
 |[],p,h=>by cases h
 |y::r,p,h=>by
  by_cases e:p=y.wH
  ·subst e;have:mVal (BEq.beq y.wH) (y.wH::r.map (·.wH)) (y::r) default=y:=by simp[mVal,mIdx]
   rw[qz,this];exact⟨by simp,rfl⟩
  ·have hr:p∈r.map (·.wH):=by
    rcases qag.1 (by simpa using h:p∈y.wH::r.map (·.wH))with h|h
    ·exact(e h).elim
    ·exact h
   obtain⟨g1,g2⟩:=klb r p hr
   have:mVal (BEq.beq p) (y.wH::r.map (·.wH)) (y::r) default=mVal (BEq.beq p) (r.map (·.wH)) r default:=by
    unfold mVal;rw[mIdx];have hb:(p==y.wH)=false:=by simpa using e
    rw[hb];simp only[qbs];cases mIdx (BEq.beq p) (r.map (·.wH))with
    |none=>rfl
    |some j=>simp
   rw[qz,this];exact⟨by simp[g1],g2⟩
theorem ownQ_ri {y:wP} (h:y.wAE=hashS 1 [y.Key,y.wAQ]) (hs:spendV y=true):RiQ (ownQ y):=by
 have hsv:=k1h.1 hs;have hw:u64.wrap y.wAQ=y.wAQ:=wrap_u64 _ hsv.2.2.1 (by have:=hsv.2.2.2.1;omega);refine⟨?_,?_⟩
 ·show allB [y.Key,u64.wrap y.wAQ]=true;rw[hw];exact k5d hsv.2.1 (by have:=hsv.2.2.2.1;omega)
 ·show hashS 1 [y.Key,u64.wrap y.wAQ]=y.wAE;rw[hw,h]
structure InC (C:EC) (ns:List wS) (an h d:Int):Prop where
 r:TT (lf (ancS C.t C.l an h.toNat)) d.toNat 0=an
 b:BG (ancS C.t C.l an h.toNat)
 c:∀i:Nat,i<(ancS C.t C.l an h.toNat).length->i<ns.length/\comS (ix ns (i:Int))=(ancS C.t C.l an h.toNat).getD i 0/\noteV (ix ns (i:Int))=true
theorem kbe {C:EC} {ns:List wS} {an h d:Int} (hC:InC C ns an h d) (M:Li):∀(l:List wP) (ms:Li) (I:EIn),l.length=ms.length->(∀i (h1:i<l.length) (h2:i<ms.length),IOk d an ms[i] l[i])->I.f.wAI=0->SpI ns I.k I.v M->(M++ms).Nodup->
  ((inpS C ns an h l I).f.wAI=0->SpI ns (inpS C ns an h l I).k (inpS C ns an h l I).v (M++ms))/\((inpS C ns an h l I).f.wAI≠0->GenF (inpS C ns an h l I).f)
 |[],[],I,_,_,hk,hI,_=>⟨fun _=>by rw[qcd];exact hI,fun hh=>(hh hk).elim⟩
 |[],_::_,I,hl,_,_,_,_=>by simp at hl
 |_::_,[],I,hl,_,_,_,_=>by simp at hl
 |x::l,m::ms,I,hl,ho,hk,hI,hn=>by
  have hl:l.length=ms.length:=by simpa using hl
  have hx:IOk d an m x:=ho 0 qqs qqs;have hr:∀i (h1:i<l.length) (h2:i<ms.length),IOk d an ms[i] l[i]:=fun i h1 h2=>ho (i+1) qqm qqm;have hsv:=k1h.1 hx.sp;have hM:M++m::ms=(M++[m])++ms:=by simp
  rw[hM]at hn ⊢;have hsub:M.Sublist (M++[m]):=List.sublist_append_left _ _;unfold inpS;split
  ·exact kbe hC (M++[m]) l ms I hl hr hk ⟨hI.k,hI.n,hI.o,hI.m.trans hsub⟩ hn
  ·rename_i h1;split
   ·rename_i h2;refine⟨fun hh=> ?_,fun _=> ?_⟩
    ·have hh:(wrgS C ns x an h).wAI=0:=hh;unfold wrgS at hh;rw[k59]at hh;cases hh
    ·show GenF (wrgS C ns x an h);obtain⟨p,hp⟩:=qo hsv.2.2.2.2.1;have hpl:=hx.pl;have hdn:d.toNat=x.wo.length:=by omega
     have hpp:=hx.pp;refine kqh hp ?_ hC.b (kk6 hx.sp) hsv.2.2.2.2.2.2.2 ?_ hC.c (fun i hi he hne=> ?_)
     ·rw[hp,hdn]at hpp;exact_mod_cast hpp
     ·have:=hx.nd (by simpa using h1);rw[hp]at this;rw[this,<-hdn];exact hC.r.symm
     ·rcases h2 with h2|h2
      ·rw[he]at h2;omega
      ·rw[he]at h2;exact h2 hne
   ·rename_i h2;have hno:ix ns x.wH=noteOf x:=qp fun hh=>h2 (.inr hh);have hlt:x.wH<ns.length:=Int.not_le.1 fun hh=>h2 (.inl hh);split
    ·rename_i h3;refine⟨fun hh=>absurd (show(2:Int)=0 from hh) qqd,fun _=> ?_⟩;rw[<-hI.k]at h3 ⊢;obtain⟨g1,g2⟩:=klb I.v x.wH h3;generalize mVal (BEq.beq x.wH) (I.v.map (·.wH)) I.v default=y at *
     have hy:=hI.n y g1;rw[g2,hno]at hy;obtain⟨_,_,hy⟩:=hy;have hoy:=hI.o y g1;refine gen_col (fun he=> ?_) (congrArg wS.wBB hy).symm (ownQ_ri hoy.1 hoy.2) (ownQ_ri hx.ow hx.sp);obtain⟨_,he⟩:=he;have hk2:y.Key=x.Key:=by have he:[y.Key,u64.wrap y.wAQ]=[x.Key,u64.wrap x.wAQ]:=he;injection he
     have hmy:mkS y=m:=by rw[hx.hm];unfold mkS;rw[hk2,show y.wAK=x.wAK from(congrArg wS.Rho hy).symm]
     have hin:mkS y∈M:=hI.m.subset (qaj.2 ⟨y,g1,rfl⟩);rw[hmy]at hin;have h5:=(qbz.1 hn).1;exact(qbz.1 h5).2.2 m hin m qqs rfl
    ·rename_i h3;refine kbe hC (M++[m]) l ms _ hl hr hk ⟨?_,fun y hy=> ?_,fun y hy=> ?_,?_⟩ hn
     ·show(I.v++[x]).map (·.wH)=I.k++[x.wH];rw[qbc,hI.k];rfl
     ·rcases qac.1 hy with hy|hy
      ·exact hI.n y hy
      ·rw[qaf.1 hy];exact⟨hsv.2.2.2.2.1,hlt,hno⟩
     ·rcases qac.1 hy with hy|hy
      ·exact hI.o y hy
      ·rw[qaf.1 hy];exact⟨hx.ow,hx.sp⟩
     ·show((I.v++[x]).map mkS).Sublist (M++[m]);rw[qbc,hx.hm];exact hI.m.append (List.Sublist.refl _)
theorem kl5 {d an:Int}:∀(l:List wP) (ms:Li),l.length=ms.length->(∀x∈l,inV d x=true)->insE pkR an l ms=0->∀i (h1:i<l.length) (h2:i<ms.length),IOk d an ms[i] l[i]
 |[],_,_,_,_,i,h1,_=>by cases h1
 |x::r,[],hl,_,_,_,_,_=>by simp at hl
 |x::r,m::ms,hl,hv,h,i,h1,h2=>by
  unfold insE at h;split at h
  ·rename_i h3;exact(h3 h).elim
  ·rename_i h3;cases i with
   |zero=>exact inE_ok (hv x qqs) (qp h3)
   |succ i=>exact kl5 r ms (by simpa using hl) (fun y hy=>hv y (by simp[hy])) h i (by simpa using h1) (by simpa using h2)
theorem kh8:∀(l:List wS) (cs rs:Li),l.length=cs.length->l.length=rs.length->l.all noteV=true->outsB pkR l cs rs=true->l.map comS=cs
 |[],[],_,_,_,_,_=>rfl
 |[],_::_,_,hl,_,_,_=>by simp at hl
 |_::_,[],_,hl,_,_,_=>by simp at hl
 |n::l,c::cs,[],_,hl,_,_=>by simp at hl
 |n::l,c::cs,r::rs,h1,h2,hv,h=>by rw[qdy,qe]at hv;have h:(outB pkR n c r&&outsB pkR l cs rs)=true:=h;rw[qe]at h;have ho:=h.1;unfold outB at ho;rw[kgv hv.1]at ho;simp only[qe,beq_iff_eq]at ho;have ho:comS n=c:=ho.1.2;rw[qz,ho,kh8 l cs rs (by simpa using h1) (by simpa using h2) hv.2 h.2]
structure GI (C:EC) (M:Li) (x:EX):Prop where
 nl:x.n.map comS=C.l.take x.n.length
 nn:x.n.length<=C.l.length
 nv:∀y∈x.n,noteV y=true
 sp:SpI x.n x.k x.v M
theorem SpI.more {ns os:List wS} {k:Li} {v:List wP} {M:Li} (h:SpI ns k v M):SpI (ns++os) k v M:=by refine⟨h.k,fun y hy=> ?_,h.o,h.m⟩;obtain⟨h0,h1,h2⟩:=h.n y hy;obtain⟨p,hp⟩:=qo h0;refine⟨h0,by rw[qi];omega,?_⟩;rw[<-h2,hp,ix_get _ _ (by rw[qi];omega),ix_get _ _ qqo,List.getElem_append_left qqo]
theorem ko9 {l:Li} {n:Nat} {b rest:Li} (hn:n<=l.length) (h:l=l.take n++b++rest):l.take (n+b.length)=l.take n++b:=by
 obtain⟨a,ha⟩:∃a,a=l.take n:=⟨_,rfl⟩;have hl:a.length=n:=by rw[ha,qaa,qcc hn]
 rw[<-ha]at h ⊢;rw[h];exact qfq (by rw[qi,hl])
theorem koz {C:EC} {R:wE} {h:Int} {x:EX} {M:Li} {t:wZ} (ha:accT R t=true) (hG:GI C M x) (hC:InC C x.n t.wa h R.wC) (hM:(M++t.wJ).Nodup) (hl:∃rest,C.l=C.l.take x.n.length++t.wD.map (·.wg)++rest):
  ((exTd C R.wC h x t).f.wAI=0->GI C (M++t.wJ) (exTd C R.wC h x t).x/\(exTd C R.wC h x t).x.n.length=x.n.length+t.wD.length)/\((exTd C R.wC h x t).f.wAI≠0->GenF (exTd C R.wC h x t).f):=by
 unfold accT at ha;simp only[qe,beq_iff_eq]at ha;obtain⟨ha1,ha2⟩:=ha;obtain⟨h1,h2,h3,h4,h5⟩:=k3l.1 ha2;have hr:=kbb.1 h1;have hv:=(check_V ha2).2;have hst:stmtS t R.wC=⟨R.wC,t.wa,t.wJ,t.wD.map (·.wg),(List.range t.wD.length).map (fun i:Nat=>rhoS (originS t) (i:Int)),t.wQ,t.wT,t.Fee,t.wX,bindS t⟩:=qh hv;obtain⟨_,_,_,_,_,_,_,_,_,r10,_,r12,r13,_,r15,r16⟩:=hr;rw[hst]at h2 h3 r10 r12 r13 r15;have hio:=kl5 (d:=R.wC) _ _ r10 (fun y hy=>qbh.1 r15 y hy) h2;have hout:=kh8 _ _ _ r12 r13 r16 h3;generalize hw:(decW t.wv).1=w at *
 have key:=kbe hC M w.Ins t.wJ ⟨zeroF,0,0,x.k,x.v⟩ r10 hio rfl hG.sp hM;unfold exTd exTx;rw[hw,qf (by rw[ha1,ha2];simp)];by_cases hk:(exIn C x t w h).f.wAI=0
 ·rw[qf (fun hh=>hh hk)];refine⟨fun _=>⟨⟨?_,?_,fun y hy=> ?_,?_⟩,?_⟩,fun hh=>absurd (show(0:Int)=0 from rfl) hh⟩
  ·obtain⟨rest,hrest⟩:=hl;show(x.n++w.wD).map comS=C.l.take (x.n++w.wD).length;have hlen:w.wD.length=t.wD.length:=by simpa using r12
   have hnn:=hG.nn;have:=ko9 hnn hrest;rw[ql]at this;rw[qbc,hout,hG.nl,qi,hlen,this]
  ·obtain⟨rest,hrest⟩:=hl;have hlen:w.wD.length=t.wD.length:=by simpa using r12
   show(x.n++w.wD).length<=C.l.length;have:=congrArg List.length hrest;simp only[qi,qaa,ql]at this ⊢;have:=hG.nn;omega
  ·rcases qac.1 hy with hy|hy
   ·exact hG.nv y hy
   ·exact qbh.1 r16 y hy
  ·exact(key.1 hk).more
  ·have hlen:w.wD.length=t.wD.length:=by simpa using r12
   show(x.n++w.wD).length=_;rw[qi,hlen]
 ·rw[qh hk];exact⟨fun hh=>(hk hh).elim,fun _=>key.2 hk⟩
structure TrI (C:EC) (d:Int) (s:PS) (h:Int):Prop where
 a:∀an∈s.r,TT (lf (ancS C.t C.l an h.toNat)) d.toNat 0=an/\ancS C.t C.l an h.toNat=C.l.take (ancS C.t C.l an h.toNat).length/\(ancS C.t C.l an h.toNat).length<=s.l.length
theorem inC_of {C:EC} {d h an:Int} {s:PS} {x:EX} {M:Li} (hT:TrI C d s h) (ha:an∈s.r) (hb:BG C.l) (hG:GI C M x) (hn:s.l.length<=x.n.length):InC C x.n an h d:=by
 obtain⟨t1,t2,t3⟩:=hT.a an ha
 have key:∀L:Li,L=C.l.take L.length->L.length<=s.l.length->BG L/\∀i:Nat,i<L.length->i<x.n.length/\comS (ix x.n (i:Int))=L.getD i 0/\noteV (ix x.n (i:Int))=true:=by
  intro L t2 t3;refine⟨fun y hy=> ?_,fun i hi=> ?_⟩
  ·rw[t2]at hy;exact hb y (qbf hy)
  ·have hix:i<x.n.length:=by omega
   have e1:(x.n.map comS)[i]'(by simpa using hix)=(C.l.take x.n.length)[i]'(by rw[<-hG.nl];simpa using hix):=by have:=hG.nl;simp only[this]
   have e2:L.getD i 0=(C.l.take L.length)[i]'(by rw[<-t2];exact hi):=by rw[gD_lt hi];congr 1
   rw[List.getElem_map,List.getElem_take]at e1;refine⟨hix,?_,?_⟩
   ·rw[ix_get _ _ hix,e1,e2,List.getElem_take]
   ·rw[ix_get _ _ hix];exact hG.nv _ (qal hix)
 obtain⟨k1,k2⟩:=key _ t2 t3;exact⟨t1,k1,k2⟩
theorem kmi {s:PS} {t:wZ} (h:chkS s t=0):t.wa∈s.r:=by
 unfold chkS chk at h;split at h
 ·rename_i h1;exact(h1 h).elim
 ·split at h
  ·cases h
  ·split at h
   ·cases h
   ·rename_i h3;have h3:t.wa∈ancL s.r s.R.wc:=qp h3;exact qcb h3
theorem k99:∀(r:List wZ) (s:PS) (m:Li) (f:Int),∃a b,(blkGo r s m f).s.l=s.l++a/\(blkGo r s m f).s.k=s.k++b
 |[],s,m,f=>⟨[],[],by simp[blkGo],by simp[blkGo]⟩
 |t::r,s,m,f=>by
  unfold blkGo;split
  ·exact⟨[],[],by simp,by simp⟩
  ·obtain⟨_,_,_,k4,k5,_⟩:=k5h s t;split
   ·exact⟨_,_,k4,k5⟩
   ·obtain⟨a,b,h1,h2⟩:=k99 r (perfS s t).s (m++t.wJ) (u64.wrap (f+t.Fee));exact⟨t.wD.map (·.wg)++a,t.wJ++b,by rw[h1,k4,qw],by rw[h2,k5,qw]⟩
theorem txs_gen {C:EC} {R:wE} {h:Int} (hb:BG C.l):∀(r:List wZ) (i:Nat) (s:PS) (m:Li) (f:Int) (x:EX) (s0:PS),(blkGo r s m f).e=0->(∀t∈r,accT R t=true)->(∃rest,C.l=(blkGo r s m f).s.l++rest)->(blkGo r s m f).s.k.Nodup->GI C s.k x->x.n.length=s.l.length->TrI C R.wC s0 h->s0.r=s.r->s0.l.length<=s.l.length->
  ((txsGo C R.wC h i r x).f.wAI=0->GI C (blkGo r s m f).s.k (txsGo C R.wC h i r x).x/\(txsGo C R.wC h i r x).x.n.length=(blkGo r s m f).s.l.length)/\((txsGo C R.wC h i r x).f.wAI≠0->GenF (txsGo C R.wC h i r x).f)
 |[],i,s,m,f,x,s0,_,_,_,_,hG,hn,_,_,_=>⟨fun _=>⟨hG,hn⟩,fun hh=>absurd (show(0:Int)=0 from rfl) hh⟩
 |t::r,i,s,m,f,x,s0,he,ha,hl,hk,hG,hn,hT,hr,hs=>by
  obtain⟨k1,k2,k3,k4,k5,k6⟩:=k5h s t;unfold blkGo at he hl hk ⊢;split at he
  ·rename_i h1;exact(h1 he).elim
  ·rename_i h1;rw[qf h1]at hl hk ⊢;split at he
   ·rename_i h2;exact(h2 he).elim
   ·rename_i h2;rw[qf h2]at hl hk ⊢;have hc:chkS s t=0:=qp h1;obtain⟨a,b,p1,p2⟩:=k99 r (perfS s t).s (m++t.wJ) (u64.wrap (f+t.Fee));have hC:=inC_of hT (by rw[hr];exact kmi hc) hb hG qqo;have hM:(s.k++t.wJ).Nodup:=by rw[p2,k5,qbz]at hk;exact hk.1
    have hL:∃rest,C.l=C.l.take x.n.length++t.wD.map (·.wg)++rest:=by
     obtain⟨rest,hrest⟩:=hl;rw[p1,k4]at hrest;have e:C.l.take x.n.length=s.l:=by rw[hrest,hn,qw,qw,List.take_left]
     exact⟨a++rest,by rw[e];rw[hrest];simp[qw]⟩
    obtain⟨g1,g2⟩:=koz (ha t qqs) hG hC hM hL;rw[txsGo];by_cases hz:(exTd C R.wC h x t).f.wAI=0
    ·rw[qf (fun hh=>hh hz)];obtain⟨q1,q2⟩:=g1 hz;refine txs_gen hb r (i+1) (perfS s t).s (m++t.wJ) (u64.wrap (f+t.Fee)) _ s0 he (fun y hy=>ha y (by simp[hy])) hl hk (by rw[k5];exact q1) ?_ hT (by rw[k3];exact hr) ?_
     ·rw[q2,k4,qi,ql,hn]
     ·rw[k4,qi];omega
    ·rw[qh hz];refine⟨fun hh=>(hz hh).elim,fun _=> ?_⟩;have:=g2 hz;exact⟨this.k,this.ne,this.an,this.a,this.b⟩
theorem kh0 {t:List wx} {lv:Li} {an:Int}:∀{n:Nat},(∃j:Nat,j<n/\(ix t (j:Int)).root=an)->∃j:Nat,j<n/\(ix t (j:Int)).root=an/\ancS t lv an n=lv.take (ix t (j:Int)).leaves.toNat
 |0,⟨j,hj,_⟩=>by omega
 |n+1,⟨j,hj,hr⟩=>by
  unfold ancS;split
  ·rename_i h;exact⟨n,by omega,h,rfl⟩
  ·rename_i h;have hjn:j≠n:=fun e=>by subst e;exact h hr
   obtain⟨q,q1,q2,q3⟩:=kh0 (t:=t) (lv:=lv) (n:=n) ⟨j,by omega,hr⟩;exact⟨q,by omega,q2,q3⟩
theorem kjp {s:PS} {b:wI} (h:(applyS s b).e=0):(blkGo b.Txs s [] 0).e=0/\(applyS s b).s.l=(blkGo b.Txs s [] 0).s.l/\(applyS s b).s.k=(blkGo b.Txs s [] 0).s.k/\(applyS s b).s.r=s.r++[rootF (applyS s b).s.F]∨False:=by
 left;have hz:=k2i h
 have hr:(blkGo b.Txs s [] 0).s.r=s.r:=by
  have:∀(l:List wZ) (s:PS) (m:Li) (f:Int),(blkGo l s m f).s.r=s.r:=by
   intro l;induction l with
   |nil=>intro s m f;rfl
   |cons t l ih=>
    intro s m f;obtain⟨_,_,k3,_⟩:=k5h s t;unfold blkGo;split
    ·rfl
    ·split
     ·exact k3
     ·rw[ih];exact k3
  exact this _ _ _ _
 have hb:=hz.2.2.1;unfold applyS at h ⊢;split at h
 ·cases h
 ·rename_i h1;rw[qf h1];split at h
  ·cases h
  ·rename_i h2;rw[qf h2];split at h
   ·rename_i h3;exact(h3 h).elim
   ·rename_i h3;rw[qf h3];unfold blkS at hb ⊢;split at hb
    ·rename_i h4;exact(h4 hb).elim
    ·rename_i h4;rw[qf h4];split at hb
     ·rename_i h5;exact(h5 hb).elim
     ·rename_i h5;rw[qf h5];exact⟨qp h4,rfl,rfl,rfl⟩
theorem auGo_l:∀(l:List wI) (s:PS),(auGo l s).e=0->∃a,(auGo l s).s.l=s.l++a
 |[],s,_=>⟨[],by simp[auGo]⟩
 |b::r,s,h=>by
  rw[k1t]at h ⊢;split at h
  ·rename_i h1;rw[qh h1];obtain⟨a,ha⟩:=auGo_l r _ h;obtain⟨_,h2,_,_⟩:=(kjp h1).resolve_right id;obtain⟨c,d,h3,_⟩:=k99 b.Txs s [] 0;exact⟨c++a,by rw[ha,h2,h3,qw]⟩
  ·rename_i h1;exact(h1 h).elim
structure TRi (C:EC) (d:Int) (s:PS) (i:Nat):Prop where
 rl:s.r=(C.t.take (i+1)).map (·.root)
 tl:i+1<=C.t.length
 tr:∀j:Nat,j<=i->0<=(ix C.t (j:Int)).leaves/\(ix C.t (j:Int)).leaves<=s.l.length/\TT (lf (C.l.take (ix C.t (j:Int)).leaves.toNat)) d.toNat 0=(ix C.t (j:Int)).root
theorem TRi.tri {C:EC} {d:Int} {s:PS} {i:Nat} (h:TRi C d s i) (hl:s.l.length<=C.l.length):TrI C d s ((i:Int)+1):=by
 refine⟨fun an ha=> ?_⟩;have hn:((i:Int)+1).toNat=i+1:=by omega
 rw[hn];have hex:∃j:Nat,j<i+1/\(ix C.t (j:Int)).root=an:=by rw[h.rl]at ha;obtain⟨t,ht,rfl⟩:=qaj.1 ha;obtain⟨j,hj,rfl⟩:=qbt ht;rw[qaa]at hj;refine⟨j,by omega,?_⟩;rw[ix_get _ _ qqo,List.getElem_take]
 obtain⟨j,q1,q2,q3⟩:=kh0 (lv:=C.l) hex;obtain⟨t1,t2,t3⟩:=h.tr j qqo;rw[q3];have hlen:(C.l.take (ix C.t (j:Int)).leaves.toNat).length=(ix C.t (j:Int)).leaves.toNat:=by rw[qaa];omega
 exact⟨t3.trans q2,by rw[hlen],by rw[hlen];omega⟩
theorem kem {C:EC} {R:wE} (hb:BG C.l) (h6:R.wC<=12):∀(l:List wI) (s:PS) (c i:Nat) (x:EX),PI s c 0->s.R=R->BLs l->c+5*l.length<=790->(auGo l s).e=0->(∀b∈l,txsE R b.Txs=0)->C.l=(auGo l s).s.l->C.t=C.t.take (i+1)++trGo l s->TRi C R.wC s i->s.p.length=i->GI C s.k x->x.n.length=s.l.length->
  (chnGo C R.wC l x).f.wAI≠0->GenF (chnGo C R.wC l x).f
 |[],s,c,i,x,_,_,_,_,_,_,_,_,_,_,_,_,hh=>absurd (show(0:Int)=0 from rfl) hh
 |b::r,s,c,i,x,hP,hR,hB,hc,he,ha,hl,ht,hT,hp,hG,hn,hk=>by
  have hc:c+5*(r.length+1)<=790:=hc;have hb4:=hB.2 b qqs;have hbr:=hB.1 b qqs;rw[k1t]at he hl;split at he
  ·rename_i h1;rw[qh h1]at hl;have hz:=k2i h1;obtain⟨z1,z2,z3,z4⟩:=(kjp h1).resolve_right id;have hP2:=(k7c hP qqo hbr h1).mono (d:=c+5) qqo;have hR2:(applyS s b).s.R=R:=(apply_R hP qqo hbr).trans hR;obtain⟨a,hal⟩:=auGo_l r _ he;have hCl:C.l=(applyS s b).s.l++a:=by rw[hl,hal]
   have hlm:=kgh hP qqo hbr h1;have hsl:s.l.length<=C.l.length:=by rw[hCl,qi];omega
   have hh:b.wM=(i:Int)+1:=by rw[hz.1,hp]
   have key:=txs_gen hb b.Txs 0 s [] 0 x s z1 (kbo (ha b qqs)) ⟨a,by rw[<-z2];exact hCl⟩ (by rw[<-z3];exact hP2.kn) hG hn (hT.tri hsl) rfl (qv _);rw[<-hh]at key;rw[chnGo]at hk ⊢;by_cases hz0:(txsGo C R.wC b.wM 0 b.Txs x).f.wAI=0
   ·rw[qf (fun h=>h hz0)]at hk ⊢;obtain⟨q1,q2⟩:=key.1 hz0;rw[<-z3]at q1;rw[<-z2]at q2;have htl:=hT.tl;have htd:C.t.drop (i+1)=treS (applyS s b).s::trGo r (applyS s b).s:=by have:=qbq (i+1) C.t;rw[ht]at this;have h2:trGo (b::r) s=treS (applyS s b).s::trGo r (applyS s b).s:=rfl;rw[<-h2];have h3:=congrArg (List.drop (i+1)) ht;rw[h3,List.drop_append_of_le_length (by rw[qaa];omega),qam (by rw[qaa];omega)];rfl
    have hil:i+1<C.t.length:=by have:=congrArg List.length htd;rw[qbd,qr]at this;omega
    have hget:C.t[i+1]=treS (applyS s b).s:=by rw[qat hil]at htd;injection htd
    have hroot:rtS (applyS s b).s=rootF (applyS s b).s.F:=by
     unfold rtS;rw[qf (by rw[z4];simp)];have e:(((applyS s b).s.r.length:Int)-1)=((s.r.length:Nat):Int):=by rw[z4,qi,qbm];omega
     rw[e,ix_get _ _ (by rw[z4];simp)];simp[z4]
    refine kem hb h6 r (applyS s b).s (c+5) (i+1) _ hP2 hR2 ⟨fun y hy=>hB.1 y (by simp[hy]),fun y hy=>hB.2 y (by simp[hy])⟩ qqo he (fun y hy=>ha y (by simp[hy])) hl ?_ ⟨?_,by omega,fun j hj=> ?_⟩ (by rw[hz.2.1,hp]) q1 q2 hk
    ·rw[qan hil,hget];have:=qbq (i+1) C.t;rw[htd]at this;rw[qw];exact this.symm
    ·rw[qan hil,hget,qbc,<-hT.rl,z4];show _=s.r++[rtS (applyS s b).s];rw[hroot]
    ·by_cases hji:j<=i
     ·obtain⟨t1,t2,t3⟩:=hT.tr j hji;exact⟨t1,by omega,t3⟩
     ·obtain rfl:j=i+1:=by omega
      rw[ix_get _ _ hil,hget];refine⟨qds _,qce _,?_⟩;show TT (lf (C.l.take ((((applyS s b).s.l.length:Nat):Int)).toNat)) R.wC.toNat 0=rtS (applyS s b).s;rw[qu,hCl,List.take_left,hroot,hP2.F,hR2];have hll:=hP2.ll;rw[hR2]at hll;have hd1:=hP2.d1;rw[hR2]at hd1;exact(k50 qqo hll).symm
   ·rw[qh hz0];exact key.2 hz0
  ·rename_i h1;exact(h1 he).elim
theorem aud_gen {R:wE} {l:List wI} (hr:rulesE R=0) (hw:0<=R.wV) (hB:BLs l) (hn:l.length<=12) (he:(auGo l (newS R)).e=0) (ha:∀b∈l,txsE R b.Txs=0):(exmY R l).f.wAI≠0->GenF (exmY R l).f:=by
 have hP:=new_PI hr hw;have hfin:=auGo_PI l (newS R) 0 hP hB.1 hB.2 qqo he;have hd:=hP.d2;have hroot:rtS (newS R)=TT (lf []) R.wC.toNat 0:=by show(if [rootF (frF R.wC [])]=[]then 0 else ix [rootF (frF R.wC [])] (((([rootF (frF R.wC [])]:Li).length:Nat):Int)-1))=_;rw[qf qqs];have h1:1<=R.wC:=hP.d1;exact k50 (d:=R.wC) (l:=[]) qqo (qav _)
 refine kem (C:=exmC R l) hfin.1.l hd l (newS R) 0 0 ex0 hP rfl hB qqo he ha rfl rfl ⟨?_,?_,fun j hj=> ?_⟩ rfl ⟨rfl,qav _,fun y hy=>(by cases hy),⟨rfl,fun y hy=>(by cases hy),fun y hy=>(by cases hy),List.Sublist.refl _⟩⟩ rfl
 ·show [rootF (frF R.wC [])]=[(treS (newS R)).root];show _=[rtS (newS R)];rfl
 ·show 0+1<=(treS (newS R)::trGo l (newS R)).length;rw[qr];omega
 ·obtain rfl:j=0:=by omega
  refine⟨qce _,qce _,?_⟩;show TT (lf ((exmC R l).l.take 0)) R.wC.toNat 0=rtS (newS R);rw[hroot,List.take_zero]
theorem knn {β:Type} {p:Int} {l:Li} (h:p∉l) (v:List β) (y:β):mPutK (BEq.beq p) l p=l++[p]/\mPutV (BEq.beq p) l v y=v++[y]:=by
 have h:mHas (BEq.beq p) l=false:=by
  cases hc:mHas (BEq.beq p) l with
  |false=>rfl
  |true=>exact(h (k20.1 hc)).elim
 unfold mHas at h;unfold mPutK mPutV;cases hm:mIdx (BEq.beq p) l with
 |none=>exact⟨rfl,rfl⟩
 |some j=>rw[hm]at h;cases h
theorem KI.mv {R:wE} {k:Li} {v:List wL} {n:Nat} (h:KI R k v n) (hn:n<=20) {l m:Li} (hl:∀x∈l,x∈k) (hm:∀x∈m,x∈k) (ll:l.length<=20) (lm:m.length<=20) (el:(stL R k v l).e=0) (em:(stL R k v m).e=0) {i:Nat} (hi:i<=l.length) (hi2:i<=m.length) (ht:l.take i=m.take i) {S:PS} (hS:S=(stL R k v l).s):
  MvOk k v S (l.drop i).length (m.drop i)/\mvS k v S (l.drop i).length (m.drop i)=(stL R k v m).s:=by
 have sp:∀q:Li,(stL R k v q).e=0->(stL R k v (q.take i)).e=0/\stL R k v q=auGo ((q.drop i).map (gB k v)) (stL R k v (q.take i)).s:=fun q hq=>by
  unfold stL at hq ⊢;have e:q.map (gB k v)=(q.take i).map (gB k v)++(q.drop i).map (gB k v):=by rw[<-qbc,qbq]
  rw[e]at hq ⊢;have h1:=kbp _ _ _ hq;exact⟨h1,k6u _ _ _ h1⟩
 obtain⟨a1,a2⟩:=sp l el;obtain⟨b1,b2⟩:=sp m em;have hlt:∀x∈l.take i,x∈k:=fun x hx=>hl x (qbf hx);have hP:=(h.pi hlt (by rw[qaa];omega) a1).1;have hA:MvA k v S (l.drop i).length (m.drop i) (stL R k v (l.take i)).s (5*(l.take i).length) ((l.drop i).map (gB k v)):=⟨hP,by simp,h.bls fun x hx=>hl x (qcb hx),h.bls fun x hx=>hm x (qcb hx),by rw[qaa,qbd,qbd];omega,by rw[<-a2];exact el,by rw[hS,<-a2],by rw[ht,<-b2];exact em⟩;refine⟨⟨_,_,_,hA⟩,?_⟩;unfold mvS;rw[hA.base,ht,<-b2]
theorem k38 {c:CS} {b:wI} {e:Int} (h:subE c b=e) (he:e≠0):subS c b=⟨0,0,e,c⟩:=by unfold subS;rw[h,qh he]
theorem ix_gd8 {l:Li} {i:Nat} (h:i<l.length):ix l (i:Int)=l.getD i 0:=by rw[ix_get _ _ h,qex,qd h];rfl
theorem cpl_ix {l m:Li} {i:Nat} (hi:i<=cpl l m):i=cpl l m↔¬(i<l.length/\i<m.length/\ix l (i:Int)=ix m (i:Int)):=by
 rw[kjg i l m hi];constructor
 ·rintro h ⟨a,b,c⟩;rw[ix_gd8 a,ix_gd8 b]at c;exact h ⟨a,b,c⟩
 ·rintro h ⟨a,b,c⟩;rw[<-ix_gd8 a,<-ix_gd8 b]at c;exact h ⟨a,b,c⟩
theorem ko4 {R:wE} {l:List wZ} {i:Nat} (hi:i<l.length):txsE R (l.drop i)=if txE R l[i]≠0 then txE R l[i]else txsE R (l.drop (i+1)):=by rw[qat hi];rfl
theorem subE_go {c:CS} {b:wI} (h1:checkB c.R.wW b=0) (h2:idB b∉c.k) (h3:parS c.k c.v b=0):subE c b=if 0<c.he/\(((brB c.k c.v b).length:Int)<c.he∨ix (brB c.k c.v b) (c.he-1)≠c.fi)then 19 else if txsE c.R b.Txs≠0 then txsE c.R b.Txs else(applyS (stL c.R c.k c.v (brB c.k c.v b)).s b).e:=by unfold subE;rw[qf (fun h=>h h1),qf h2,qf (fun h=>h h3)]
structure SCh (c:CS) (b:wI):Prop where
 n:∃n:Nat,n<=18/\CI c n
 b:GB b
 m:c.R.wb=2
section
variable {R:wE} {k:Li} {v:List wL} {be:Li} {S:PS} {fi he:Int} {b:wI}
theorem SCh.facts (h:SCh ⟨R,k,v,be,S,fi,he⟩ b):∃n:Nat,n<=18/\KI R k v n/\(∀x∈be,x∈k)/\be.length<=n/\(stL R k v be).e=0/\S=(stL R k v be).s/\(0<=he/\he<=4294967296)/\GB b/\R.wb=2:=by obtain⟨⟨n,hn,hC⟩,hb,hm⟩:=h;obtain⟨b1,b2,b3⟩:=hC.bek;exact⟨n,hn,hC.K,b1,b2,b3,hC.st,hC.he,hb,hm⟩
theorem sub_e1 (h1:checkB R.wW b≠0):subS ⟨R,k,v,be,S,fi,he⟩ b=⟨0,0,checkB R.wW b,⟨R,k,v,be,S,fi,he⟩⟩:=k38 (qh h1) h1
theorem sub_e2 (h1:checkB R.wW b=0) (h2:idB b∈k):subS ⟨R,k,v,be,S,fi,he⟩ b=⟨0,0,5,⟨R,k,v,be,S,fi,he⟩⟩:=k38 (by unfold subE;rw[qf (fun h=>h h1)];exact qh h2) qqd
theorem sub_e3 (h1:checkB R.wW b=0) (h2:idB b∉k) (h3:parS k v b≠0):subS ⟨R,k,v,be,S,fi,he⟩ b=⟨0,0,parS k v b,⟨R,k,v,be,S,fi,he⟩⟩:=k38 (by unfold subE;rw[qf (fun h=>h h1),qf h2];exact qh h3) h3
theorem sub_e4 (h1:checkB R.wW b=0) (h2:idB b∉k) (h3:parS k v b=0) (h4:0<he/\(((brB k v b).length:Int)<he∨ix (brB k v b) (he-1)≠fi)):subS ⟨R,k,v,be,S,fi,he⟩ b=⟨0,0,19,⟨R,k,v,be,S,fi,he⟩⟩:=k38 (by rw[subE_go h1 h2 h3];exact qh h4) qqd
theorem sub_e5 (h1:checkB R.wW b=0) (h2:idB b∉k) (h3:parS k v b=0) (h4:¬(0<he/\(((brB k v b).length:Int)<he∨ix (brB k v b) (he-1)≠fi))) (h5:txsE R b.Txs≠0):subS ⟨R,k,v,be,S,fi,he⟩ b=⟨0,0,txsE R b.Txs,⟨R,k,v,be,S,fi,he⟩⟩:=k38 (by rw[subE_go h1 h2 h3,qf h4];exact qh h5) h5
theorem subE6 (h1:checkB R.wW b=0) (h2:idB b∉k) (h3:parS k v b=0) (h4:¬(0<he/\(((brB k v b).length:Int)<he∨ix (brB k v b) (he-1)≠fi))) (h5:txsE R b.Txs=0):subE ⟨R,k,v,be,S,fi,he⟩ b=(applyS (stL R k v (brB k v b)).s b).e:=by rw[subE_go h1 h2 h3,qf h4];exact qf fun h=>h h5
theorem sub_e6 (h1:checkB R.wW b=0) (h2:idB b∉k) (h3:parS k v b=0) (h4:¬(0<he/\(((brB k v b).length:Int)<he∨ix (brB k v b) (he-1)≠fi))) (h5:txsE R b.Txs=0) (h6:(applyS (stL R k v (brB k v b)).s b).e≠0):subS ⟨R,k,v,be,S,fi,he⟩ b=⟨0,0,(applyS (stL R k v (brB k v b)).s b).e,⟨R,k,v,be,S,fi,he⟩⟩:=k38 (subE6 h1 h2 h3 h4 h5) h6
def wk8 (k:Li) (v:List wL) (b:wI):Int:=if brB k v b=[]then b.wW else u64.wrap (b.wW+wkS v k b.wm)
theorem sub_no {w:Int} (h1:checkB R.wW b=0) (h2:idB b∉k) (h3:parS k v b=0) (h4:¬(0<he/\(((brB k v b).length:Int)<he∨ix (brB k v b) (he-1)≠fi))) (h5:txsE R b.Txs=0) (h6:(applyS (stL R k v (brB k v b)).s b).e=0) (hw:w=wk8 k v b) (hb:betS k v be (idB b) w=false):subS ⟨R,k,v,be,S,fi,he⟩ b=⟨0,0,0,⟨R,k++[idB b],v++[stoS b w],be,S,fi,he⟩⟩:=by subst hw;unfold subS;rw[subE6 h1 h2 h3 h4 h5,qf (fun h=>h h6)];exact qh hb
theorem sub_yes {w:Int} {i:Nat} (h1:checkB R.wW b=0) (h2:idB b∉k) (h3:parS k v b=0) (h4:¬(0<he/\(((brB k v b).length:Int)<he∨ix (brB k v b) (he-1)≠fi))) (h5:txsE R b.Txs=0) (h6:(applyS (stL R k v (brB k v b)).s b).e=0) (hw:w=wk8 k v b) (hb:betS k v be (idB b) w=true) (hi:i=cpl (brB k v b) be):subS ⟨R,k,v,be,S,fi,he⟩ b=⟨(be.length:Int)-(i:Int),((brB k v b).length:Int)+1-(i:Int),0,⟨R,k++[idB b],v++[stoS b w],brB k v b++[idB b],(applyS (stL R k v (brB k v b)).s b).s,(finS R.wU (brB k v b++[idB b]) fi he).f,(finS R.wU (brB k v b++[idB b]) fi he).h⟩⟩:=by subst hw hi;unfold subS;rw[subE6 h1 h2 h3 h4 h5,qf (fun h=>h h6)];exact qf (by show¬betS k v be (idB b) (wk8 k v b)=false;rw[hb];simp)
end
theorem GB.emp {p h m w:Int} (hp:U64 p) (hh: -9223372036854775808<=h/\h<=9223372036854775807) (hm:U64 m) (hw:U64 w):GB ⟨p,h,m,w,0,[]⟩:=⟨⟨hp,hm,hw,(by decide:U64 0),hh,fun x hx=>(by cases hx)⟩,fun x hx=>(by cases hx),qav _⟩
theorem CS.eta_R {c:CS} {R:wE} (h:c.R=R):c=⟨R,c.k,c.v,c.be,c.S,c.fi,c.he⟩:=by subst h;rfl
def UQ (l:Int) (e:Li):Prop:=U64 l/\Us e/\e.length<=8
structure UF (f:wAs):Prop where
 a:UQ f.wAF f.wAC
 b:UQ f.wAL f.wAJ
theorem UQ.nil (n:Int) (h:U64 n):UQ n []:=⟨h,fun x hx=>(by cases hx),qav _⟩
theorem UF.z:UF zeroF:=⟨.nil 0 qqd,.nil 0 qqd⟩
theorem UF.un:UF unF:=⟨.nil 0 qqd,.nil 0 qqd⟩
theorem UQ.two (n:Int) {a b:Int} (h:U64 n) (ha:U64 a) (hb:U64 b):UQ n [a,b]:=⟨h,us2 ha hb,by show 2<=8;decide⟩
theorem noteL_u {n:wS} (h:NR n):UQ 2 (noteL n):=⟨by decide,fun x hx=>by
 simp only[noteL,qag,List.mem_nil_iff,or_false]at hx;rcases hx with rfl|rfl|rfl|rfl
 ·exact h.v
 ·exact h.o
 ·exact h.r
 ·exact h.b,by show 4<=8;decide⟩
theorem ownQ_u {x:wP} (h:U64 x.Key):UQ 1 [x.Key,u64.wrap x.wAQ]:= .two 1 qqd h (⟨qbw _ qqd,qbp _ qqd⟩:U64 (x.wAQ%18446744073709551616))
theorem NR.df:NR default:=⟨by decide,by decide,by decide,by decide⟩
theorem ix_all {α:Type} [Inhabited α] {p:α->Prop} {l:List α} (h:∀x∈l,p x) (hd:p default) (i:Int):p (ix l i):=by
 unfold ix;cases hg:l[i.toNat]? with
 |none=>exact hd
 |some x=>exact h x (qaw hg)
theorem kqm {α β:Type} {p:β->Prop} {q:α->Bool} {k:List α} {v:List β} {d:β} (h:∀x∈v,p x) (hd:p d):p (mVal q k v d):=by
 unfold mVal;split
 ·rename_i j _;cases hg:v[j]? with
  |none=>exact hd
  |some x=>exact h x (qaw hg)
 ·exact hd
theorem ancS_bg {t:List wx} {lv:Li} (h:BG lv) (an:Int):∀n,BG (ancS t lv an n)
 |0=>fun x hx=>by cases hx
 |n+1=>by
  unfold ancS;split
  ·exact fun x hx=>h x (qbf hx)
  ·exact ancS_bg h an n
theorem wrgF_u {ls:Li} {ns:List wS} {x:wP} {o r:List wAO} (hn:∀y∈ns,NR y) (hx:NR (noteOf x)) (ho:∀y∈o,U64 y.a0/\U64 y.a1) (hr:∀y∈r,U64 y.a0/\U64 y.a1):UF (wrgF ls ns x o r):=by
 have hd:U64 (default:wAO).a0/\U64 (default:wAO).a1:=⟨by decide,by decide⟩;unfold wrgF;split
 ·rename_i k _;have h1:=ix_all (p:=fun y:wAO=>U64 y.a0/\U64 y.a1) ho hd (k:Int);have h2:=ix_all (p:=fun y:wAO=>U64 y.a0/\U64 y.a1) hr hd (k:Int);exact⟨.two 6 qqd h1.1 h1.2,.two 6 qqd h2.1 h2.2⟩
 ·split
  ·exact⟨noteL_u hx,noteL_u (ix_all hn NR.df _)⟩
  ·exact⟨noteL_u hx,.nil 6 qqd⟩
theorem kps {l:Li} (h:BG l) (p n:Nat):∀y∈realsL (lf l) p n,U64 y.a0/\U64 y.a1:=by intro y hy;unfold realsL at hy;obtain⟨i,_,rfl⟩:=qaj.1 hy;have ht:=fun(i k:Nat)=>TT_r (l:=l) h i k;have k1:=ht i (2*(p/2^i/2));have k2:=ht i (2*(p/2^i/2)+1);exact⟨⟨k1.1,by show TT (lf l) i (2*(p/2^i/2))<_;omega⟩,⟨k2.1,by show TT (lf l) i (2*(p/2^i/2)+1)<_;omega⟩⟩
theorem inpS_u {C:EC} (hC:BG C.l) {ns:List wS} (hn:∀y∈ns,NR y) (an h:Int):∀(l:List wP) (I:EIn),(∀x∈l,PR x)->UF I.f->(∀y∈I.v,PR y)->UF (inpS C ns an h l I).f/\∀y∈(inpS C ns an h l I).v,PR y
 |[],I,_,hf,hv=>⟨hf,hv⟩
 |x::r,I,hl,hf,hv=>by
  have hx:=hl x qqs;have hr:∀y∈r,PR y:=fun y hy=>hl y (by simp[hy]);unfold inpS;split
  ·exact inpS_u hC hn an h r I hr hf hv
  ·split
   ·exact⟨wrgF_u hn hx.n (ownsL_u _ _ _ (leafS_u x) hx.pa) (kps (ancS_bg hC _ _) _ _),hv⟩
   ·split
    ·have hk:U64 (mVal (BEq.beq x.wH) I.k I.v default).Key:=kqm (p:=fun y:wP=>U64 y.Key) (fun y hy=>(hv y hy).k) qqd;exact⟨⟨ownQ_u hk,ownQ_u hx.k⟩,hv⟩
    ·exact inpS_u hC hn an h r _ hr hf fun y hy=>by
      rcases qac.1 hy with hy|hy
      ·exact hv y hy
      ·rw[qaf.1 hy];exact hx
structure XU (x:EX):Prop where
 n:∀y∈x.n,NR y
 v:∀y∈x.v,PR y
theorem exTd_u {C:EC} (hC:BG C.l) {d h:Int} {x:EX} (hx:XU x) (t:wZ):UF (exTd C d h x t).f/\XU (exTd C d h x t).x:=by
 unfold exTd exTx;split
 ·exact⟨UF.un,hx⟩
 ·rename_i h1
  have hk:((decW t.wv).2==0)=true:=by
   cases hb:(decW t.wv).2==0 with
   |true=>rfl
   |false=>exact(h1 (.inl hb)).elim
  have hW:=kla hk;have hin:∀y∈(decW t.wv).1.Ins,PR y:=fun y hy=>hW.i y hy;have key:=inpS_u hC hx.n t.wa h (decW t.wv).1.Ins ⟨zeroF,0,0,x.k,x.v⟩ hin UF.z hx.v;split
  ·exact⟨key.1,hx.n,key.2⟩
  ·exact⟨UF.z,fun y hy=>by
    rcases qac.1 hy with hy|hy
    ·exact hx.n y hy
    ·exact hW.o y hy,key.2⟩
theorem txsGo_u {C:EC} (hC:BG C.l) {d h:Int}:∀(l:List wZ) (i:Nat) (x:EX),XU x->UF (txsGo C d h i l x).f/\XU (txsGo C d h i l x).x
 |[],_,x,hx=>⟨UF.z,hx⟩
 |t::r,i,x,hx=>by
  have k:=exTd_u hC (d:=d) (h:=h) hx t;rw[txsGo];split
  ·exact⟨⟨k.1.a,k.1.b⟩,k.2⟩
  ·exact txsGo_u hC r (i+1) _ k.2
theorem chnGo_u {C:EC} (hC:BG C.l) {d:Int}:∀(l:List wI) (x:EX),XU x->UF (chnGo C d l x).f
 |[],x,hx=>UF.z
 |b::r,x,hx=>by
  have k:=txsGo_u hC (d:=d) (h:=b.wM) b.Txs 0 x hx;rw[chnGo];split
  ·exact k.1
  ·exact chnGo_u hC r _ k.2
def riB (l:Int) (e:Li) (a:Int):Bool:=e.all (fun x=>decide (x<18446744069414584321))&&(hashS l e==a)
def genB (f:wAs):Bool:=(f.wAI==2)&&((f.wAF !=f.wAL|| !(decide (f.wAC=f.wAJ)))&&((f.wz==f.wAD)&&(riB f.wAF f.wAC f.wz&&riB f.wAL f.wAJ f.wAD)))
theorem riB_of {l:Int} {e:Li} {a:Int} (h:allB e=true/\hashS l e=a):riB l e a=true:=by unfold riB;rw[qe,beq_iff_eq,qbh];exact⟨fun x hx=>qbr (k3f.1 h.1 x hx),h.2⟩
theorem GenF.b' {f:wAs} (h:GenF f):genB f=true:=by
 unfold genB;simp only[qe,qcn,beq_iff_eq,bne_iff_ne,qbk,decide_eq_false_iff_not];refine⟨h.k,?_,h.an,riB_of h.a,riB_of h.b⟩;by_cases hl:f.wAF=f.wAL
 ·exact .inr fun he=>h.ne ⟨hl,he⟩
 ·exact .inl hl
def repF (r:wAy):wAs:=⟨r.wAR,r.wAb,r.wAx,r.wAU,r.wAX,r.wAS,r.wAV,r.wAW,r.wAT⟩
structure AuC (c:CS) (r:wAy):Prop where
 e:(audS false c.R (c.be.map (gB c.k c.v))).2=0
 g:r.wAR≠0->GenF (repF r)
 u:UF (repF r)
 o:r.wAR=0->(totA 0 c.S.b).2=0/\r.wBK=(totA 0 c.S.b).1/\r.wBC=c.S.n/\r.wBG=u64.wrap (r.wBK+r.wBC)
 m:r.wBG=u64.wrap (u64.wrap (c.be.length:Int)*c.R.wV)
 k:r.wAR≠1
theorem CI.blk {c:CS} {n:Nat} (h:CI c n) (hn:n<=12):BLk (c.be.map (gB c.k c.v)):=by obtain⟨b1,b2,b3⟩:=h.bek;obtain⟨q1,q2,_,_⟩:=h.blocks;exact⟨q1,q2,by rw[ql];omega⟩
theorem CI.acc {c:CS} {n:Nat} (h:CI c n) (hn:n<=12) (hm:c.R.wb=2) (h6:c.R.wC<=6):AuC c (audS false c.R (c.be.map (gB c.k c.v))).1:=by
 obtain⟨b1,b2,b3⟩:=h.bek;obtain⟨q1,q2,q3,q4⟩:=h.blocks;have hB:=h.blk hn;have hr:=h.K.ru;have hw:=h.K.w;obtain⟨k1,k2⟩:=krc hr hm q4 q3;have hP:=new_PI hr hw;have hll:=hB.len;obtain⟨p1,p2,p3⟩:=auGo_PI _ (newS c.R) 0 hP q1 q2 qqo q4;have hst:c.S=(auGo (c.be.map (gB c.k c.v)) (newS c.R)).s:=h.st;have hfin:BG (exmC c.R (c.be.map (gB c.k c.v))).l:=p1.l;have hu:UF (exmY c.R (c.be.map (gB c.k c.v))).f:=chnGo_u hfin _ ex0 ⟨fun y hy=>(by cases hy),fun y hy=>(by cases hy)⟩;have e:audS false c.R (c.be.map (gB c.k c.v))=exmS c.R (c.be.map (gB c.k c.v)):=by unfold audS;rw[qf (by simp[hr]),qf (by simp[hm])]
 have e2:=e;unfold exmS at e2;rw[qh hr,qh q4]at e2;refine⟨k1,fun hk=> ?_,by rw[e2];exact hu,fun hk=> ?_,?_,k2⟩
 ·rw[e2]at hk ⊢;exact aud_gen hr hw ⟨q1,q2⟩ qqo q4 q3 hk
 ·obtain⟨a1,a2⟩:=aud_bal hw h6 hB k1 hk;have hk' :(exmY c.R (c.be.map (gB c.k c.v))).f.wAI=0:=by rw[e2]at hk;exact hk
  have hd1:1<=c.R.wC:=hP.d1;obtain⟨g1,g2,g3⟩:=chnGo_V _ ex0 0 ex0_k q2 qqo ⟨hd1,h6⟩ qqd hk';have hn2:=auGo_n _ (newS c.R) q4;obtain⟨s1,s2⟩:=sup_PI p1 qqo;have hsb:=sup_bd p1 qqo;have hn0:=p1.n;have hh:(exmY c.R (c.be.map (gB c.k c.v))).x.hd=(auGo (c.be.map (gB c.k c.v)) (newS c.R)).s.n:=by have f1:(exmY c.R (c.be.map (gB c.k c.v))).x.hd%18446744073709551616=(0+blsV (c.be.map (gB c.k c.v)))%18446744073709551616:=g2;have f2:(auGo (c.be.map (gB c.k c.v)) (newS c.R)).s.n%18446744073709551616=(0+blsV (c.be.map (gB c.k c.v)))%18446744073709551616:=hn2;have k3:U64 (exmY c.R (c.be.map (gB c.k c.v))).x.hd:=g3;have:=k3.1;have:=k3.2;omega
  refine⟨?_,?_,?_,a1⟩
  ·rw[hst,s1]
  ·rw[e2,hst]
  ·rw[e2,hst,<-hh]
 ·rw[e2,ql]
def qC (p:wAr):wE:=wE.mk p.wAo p.wAk p.wy p.ww p.wn p.wAP p.wAZ p.wAM p.wAv
def rtB (p:wAr):Bool:=p.L.all (fun b=>decide ((b.Txs.length:Int)<=4)&&smA (qC p) [b])&&(p.wAo==2&&(rulesE (qC p)==0&&decide ((p.L.length:Int)<=12)))
theorem rtB_iff {p:wAr} (h:rtB p=true):rulesE (qC p)=0/\(qC p).wb=2/\p.L.length<=12/\(∀b∈p.L,b.Txs.length<=4/\smA (qC p) [b]=true)/\(p.L≠[]->(qC p).wC<=6):=by unfold rtB at h;simp only[qe,qae,qbh,beq_iff_eq]at h;obtain⟨h1,h2,h3,h4⟩:=h;refine⟨h3,h2,by omega,fun b hb=>⟨by have:=(h1 b hb).1;omega,(h1 b hb).2⟩,fun hn=> ?_⟩;obtain⟨b,hb⟩:=List.exists_mem_of_ne_nil _ hn;have:=(h1 b hb).2;unfold smA at this;simp only[qe,qae]at this;exact this.2.1
theorem rtB_no {p:wAr} {b:wI} (hb:b∈p.L) (h:(decide ((b.Txs.length:Int)<=4)&&smA (qC p) [b])=false):false=rtB p:=by unfold rtB;have:p.L.all (fun b=>decide ((b.Txs.length:Int)<=4)&&smA (qC p) [b])=false:=qcl.2 ⟨b,hb,by rw[h];decide⟩;rw[this];rfl
theorem smA_GB {r:wE} {b:wI} (hr:BR b) (h4:b.Txs.length<=4) (h:smA r [b]=true):GB b:=by unfold smA at h;simp only[qe,qae,qdy,qbh]at h;exact⟨hr,fun t ht=>kpm (h.2.2.2.1.2 t ht),h4⟩
def R55:wE:=⟨2,2,0,0,0,50,3,5,1⟩
def X55:SubR:=subS ⟨R55,[],[],[],newS R55,0,0⟩ ⟨0,1,7,1,0,[]⟩
theorem aw55:(X55.e=0/\X55.a=1)/\X55.c.be.length=1/\audS false R55 (X55.c.be.map (gB X55.c.k X55.c.v))=(wAy.mk 50 50 0 0 0 0 0 0 0 [] 0 0 [] 0,0):=⟨⟨by kernel_rfl,by kernel_rfl⟩,by kernel_rfl,by kernel_rfl⟩
theorem CI.best {c:CS} {n:Nat} (h:CI c n) (hn:n<=1000):(c.k.length=c.v.length/\c.be.length<=1000)/\∀id∈c.be,id∈c.k/\(gB c.k c.v id).Txs.length<=4/\∀x∈(gB c.k c.v id).Txs,TL x:=by obtain⟨b1,b2,b3⟩:=h.bek;exact⟨⟨h.K.kv,by omega⟩,fun id hid=>⟨b1 id hid,(h.K.r id (b1 id hid)).2,(h.K.r id (b1 id hid)).1.l⟩⟩
theorem ka1.tr {t:wZ} (h:ka1 t):TR t/\t.wD.length<=9223372036854775807:=⟨⟨h.wa,h.wJ.2,fun x hx=>let y:=h.wD.2 x hx;⟨y.wg,y.wAi,y.wAd,y.wAB.2⟩,h.wQ,h.wT,h.Fee,h.wX,h.wY,by have:=h.wAf;omega,h.wv.2⟩,h.wD.1⟩
theorem k8c {p0:wAr} (h0:k7b p0):0<=p0.wAP/\(∀b∈p0.L,BR b)/\(p0.L.length<=9223372036854775807)/\∀b∈p0.L,b.Txs.length<=9223372036854775807/\∀t∈b.Txs,t.wD.length<=9223372036854775807:=⟨h0.wAP.1,fun b hb=>⟨(h0.L.2 b hb).wm,(h0.L.2 b hb).wAl,(h0.L.2 b hb).wW,(h0.L.2 b hb).wY,(by have:=(h0.L.2 b hb).wM;omega),fun t ht=>(((h0.L.2 b hb).Txs.2 t ht).tr).1⟩,h0.L.1,fun b hb=>⟨(h0.L.2 b hb).Txs.1,fun t ht=>(((h0.L.2 b hb).Txs.2 t ht).tr).2⟩⟩
noncomputable def ke1:Con TB.den:= .t (gk 16 [.one (.ptr 0 0)] yB (.one (.one (.ptr 3 0)))) (.int .i64:: .int .i64:: .int .i64:: .int .i64:: .int .i64:: .int .u64:: .int .i64:: .int .i64:: .int .u64:: .sl yqu:: .int .u64:: .int .i64:: .bool::yH) (.int .i64:: .int .i64:: .int .i64:: .int .i64:: .int .i64:: .int .u64:: .int .i64:: .int .i64:: .int .u64:: .sl yqu:: .int .u64:: .int .i64:: .bool::yH) [] fun(Aa Ae Ab Am Ao Ag Aj Ah Ai:Int) (Ac:Li) (Ap Af:Int) (At:Bool) (Au Av:Int) (As:List wB) (Bb Bc Bd Be Bf Bg Bh Bi Bj Bk Az:Int) (A0:Li) (A7:List wA) (A8:Int) (w2k:Li) (w2v:List wL) (w4k:Lb) (w4v:Li) (w5k:Lb) (w5v:List (Li)) (w6k:Lb) (w6v:Lo) (w7 w9:Li) (w10:List wK) (w11k:Li) (w11v:Lo)=>(Aa,Ae,Ab,Am,Ao,Ag,Aj,Ah,Ai,Ac,Ap,Af,At,Au,Av,As,Bb,Bc,Bd,Be,Bf,Bg,Bh,Bi,Bj,Bk,Az,A0,A7,A8,w2k,w2v,w4k,w4v,w5k,w5v,w6k,w6v,w7,w9,w10,w11k,w11v,())
theorem kg2:ke1.Ok Tryz.prog TB:=ptv Bs Tryz.func16 .no c0 (Q:=∀(Aa Ae Ab Am Ao Ag Aj Ah Ai:Int) (Ac:Li) (Ap Af:Int) (At:Bool) (Au Av:Int) (As:List wB) (Bb Bc Bd Be Bf Bg Bh Bi Bj Bk Az:Int) (A0:Li) (A7:List wA) (A8:Int) (w2k:Li) (w2v:List wL) (w4k:Lb) (w4v:Li) (w5k:Lb) (w5v:List (Li)) (w6k:Lb) (w6v:Lo) (w7 w9:Li) (w10:List wK) (w11k:Li) (w11v:Lo),∀Aq:Int,Aa=Aq->∀Aw:Int,Ae=Aw->∀Ax:Int,Ab=Ax->∀B0:Int,Am=B0->∀B1:Int,Ao=B1->∀Bl:Int,Ag=Bl->∀Bm:Int,Aj=Bm->∀Bn:Int,Ah=Bn->∀Bo:Int,Ai=Bo->∀A9:Li,Ac=A9->∀Bz:Int,Ap=Bz->∀Ba:Int,Af=Ba->∀B6:Bool,At=B6->∀B7:Int,Au=B7->∀B8:Int,Av=B8->∀B9:List wB,As=B9->∀Ca:Int,Bb=Ca->∀Cb:Int,Bc=Cb->∀Cc:Int,Bd=Cc->∀Cd:Int,Be=Cd->∀Ce:Int,Bf=Ce->∀Cf:Int,Bg=Cf->∀Cg:Int,Bh=Cg->∀Ch:Int,Bi=Ch->∀Ci:Int,Bj=Ci->∀Cj:Int,Bk=Cj->∀B2:Int,Az=B2->∀B3:Li,A0=B3->∀B4:List wA,A7=B4->∀B5:Int,A8=B5->∀e2k:Li,w2k=e2k->∀e2v:List wL,w2v=e2v->∀e4k:Lb,w4k=e4k->∀e4v:Li,w4v=e4v->∀e5k:Lb,w5k=e5k->∀e5v:List (Li),w5v=e5v->∀e6k:Lb,w6k=e6k->∀e6v:Lo,w6v=e6v->∀e7:Li,w7=e7->∀e9:Li,w9=e9->∀e10:List wK,w10=e10->∀e11k:Li,w11k=e11k->∀e11v:Lo,w11v=e11v-> 
lz w10/\lz w9/\lz w7/\Aa=Aq/\Ae=Aw/\Ab=Ax/\Am=B0/\Ao=B1/\Ag=Bl/\Aj=Bm/\Ah=Bn/\Ai=Bo/\Ac=A9/\Ap=Bz/\Af=Ba/\At=B6/\Au=B7/\Av=B8/\As=B9/\Bb=Ca/\Bc=Cb/\Bd=Cc/\Be=Cd/\Bf=Ce/\Bg=Cf/\Bh=Cg/\Bi=Ch/\Bj=Ci/\Bk=Cj/\Az=B2/\A0=B3/\A7=B4/\A8=B5/\w2k=e2k/\w2v=e2v/\w4k=e4k/\w4v=e4v/\w5k=e5k/\w5v=e5v/\w6k=e6k/\w6v=e6v/\w7=e7/\w9=e9/\w10=e10/\w11k=e11k/\w11v=e11v)<|by
 rintro Aa Ae Ab Am Ao Ag Aj Ah Ai Ac Ap Af At Au Av As Bb Bc Bd Be Bf Bg Bh Bi Bj Bk Az A0 A7 A8 w2k w2v w4k w4v w5k w5v w6k w6v w7 w9 w10 w11k w11v;repeat rintro _ rfl
 exact(by repeat' first|apply qt|exact rfl|exact qm)
noncomputable def kbd:Con TB.den:= .g (gk 49 [.one (.ptr 0 0),.one (zqu),.one (zqu)] yB (.one (.one (.d (.bool))))) (.int .u64:: .int .u64:: .int .i64:: .int .i64:: .int .i64:: .int .i64:: .int .i64:: .int .u64:: .int .i64:: .int .i64:: .int .u64:: .sl yqu:: .int .u64:: .int .i64:: .bool::yH) (.bool:: .int .i64:: .int .i64:: .int .i64:: .int .i64:: .int .i64:: .int .u64:: .int .i64:: .int .i64:: .int .u64:: .sl yqu:: .int .u64:: .int .i64:: .bool::yH) [] fun(p1 p2 Aa Ae Ab Am Ao Ag Aj Ah Ai:Int) (Ac:Li) (Ap Af:Int) (At:Bool) (Au Av:Int) (As:List wB) (Bb Bc Bd Be Bf Bg Bh Bi Bj Bk Az:Int) (A0:Li) (A7:List wA) (A8:Int) (w2k:Li) (w2v:List wL) (w4k:Lb) (w4v:Li) (w5k:Lb) (w5v:List (Li)) (w6k:Lb) (w6v:Lo) (w7 w9:Li) (w10:List wK) (w11k:Li) (w11v:Lo)=>(w2k.length=w2v.length/\Ac.length<=1000,(betS w2k w2v Ac p1 p2:Bool),Aa,Ae,Ab,Am,Ao,Ag,Aj,Ah,Ai,Ac,Ap,Af,At,Au,Av,As,Bb,Bc,Bd,Be,Bf,Bg,Bh,Bi,Bj,Bk,Az,A0,A7,A8,w2k,w2v,w4k,w4v,w5k,w5v,w6k,w6v,w7,w9,w10,w11k,w11v,())
theorem kex:kbd.Ok Tryz.prog TB:=prv Bs Tryz.func49 .no c0 (Q:=∀(p1 p2 Aa Ae Ab Am Ao Ag Aj Ah Ai:Int) (Ac:Li) (Ap Af:Int) (At:Bool) (Au Av:Int) (As:List wB) (Bb Bc Bd Be Bf Bg Bh Bi Bj Bk Az:Int) (A0:Li) (A7:List wA) (A8:Int) (w2k:Li) (w2v:List wL) (w4k:Lb) (w4v:Li) (w5k:Lb) (w5v:List (Li)) (w6k:Lb) (w6v:Lo) (w7 w9:Li) (w10:List wK) (w11k:Li) (w11v:Lo),(w2k.length=w2v.length/\Ac.length<=1000)->∀r0:Bool,betS w2k w2v Ac p1 p2=r0->∀Aq:Int,Aa=Aq->∀Aw:Int,Ae=Aw->∀Ax:Int,Ab=Ax->∀B0:Int,Am=B0->∀B1:Int,Ao=B1->∀Bl:Int,Ag=Bl->∀Bm:Int,Aj=Bm->∀Bn:Int,Ah=Bn->∀Bo:Int,Ai=Bo->∀A9:Li,Ac=A9->∀Bz:Int,Ap=Bz->∀Ba:Int,Af=Ba->∀B6:Bool,At=B6->∀B7:Int,Au=B7->∀B8:Int,Av=B8->∀B9:List wB,As=B9->∀Ca:Int,Bb=Ca->∀Cb:Int,Bc=Cb->∀Cc:Int,Bd=Cc->∀Cd:Int,Be=Cd->∀Ce:Int,Bf=Ce->∀Cf:Int,Bg=Cf->∀Cg:Int,Bh=Cg->∀Ch:Int,Bi=Ch->∀Ci:Int,Bj=Ci->∀Cj:Int,Bk=Cj->∀B2:Int,Az=B2->∀B3:Li,A0=B3->∀B4:List wA,A7=B4->∀B5:Int,A8=B5->∀e2k:Li,w2k=e2k->∀e2v:List wL,w2v=e2v->∀e4k:Lb,w4k=e4k->∀e4v:Li,w4v=e4v->∀e5k:Lb,w5k=e5k->∀e5v:List (Li),w5v=e5v->∀e6k:Lb,w6k=e6k->∀e6v:Lo,w6v=e6v->∀e7:Li,w7=e7->∀e9:Li,w9=e9->∀e10:List wK,w10=e10->∀e11k:Li,w11k=e11k->∀e11v:Lo,w11v=e11v-> 
(((Ac.length:Int)==0)=true->
lz w10/\lz w9/\lz w7/\true=r0/\Aa=Aq/\Ae=Aw/\Ab=Ax/\Am=B0/\Ao=B1/\Ag=Bl/\Aj=Bm/\Ah=Bn/\Ai=Bo/\Ac=A9/\Ap=Bz/\Af=Ba/\At=B6/\Au=B7/\Av=B8/\As=B9/\Bb=Ca/\Bc=Cb/\Bd=Cc/\Be=Cd/\Bf=Ce/\Bg=Cf/\Bh=Cg/\Bi=Ch/\Bj=Ci/\Bk=Cj/\Az=B2/\A0=B3/\A7=B4/\A8=B5/\w2k=e2k/\w2v=e2v/\w4k=e4k/\w4v=e4v/\w5k=e5k/\w5v=e5v/\w6k=e6k/\w6v=e6v/\w7=e7/\w9=e9/\w10=e10/\w11k=e11k/\w11v=e11v)/\
(((Ac.length:Int)==0)=false->
let v1:Int:=i64.wrap ((Ac.length:Int)-1)
(0<=v1)/\v1<(Ac.length:Int)/\w2k.length=w2v.length/\let v2:wL:=mVal (BEq.beq (ix Ac v1)) w2k w2v (default:wL)
(decide (v2.work<p2)=true->
lz w10/\lz w9/\lz w7/\true=r0/\Aa=Aq/\Ae=Aw/\Ab=Ax/\Am=B0/\Ao=B1/\Ag=Bl/\Aj=Bm/\Ah=Bn/\Ai=Bo/\Ac=A9/\Ap=Bz/\Af=Ba/\At=B6/\Au=B7/\Av=B8/\As=B9/\Bb=Ca/\Bc=Cb/\Bd=Cc/\Be=Cd/\Bf=Ce/\Bg=Cf/\Bh=Cg/\Bi=Ch/\Bj=Ci/\Bk=Cj/\Az=B2/\A0=B3/\A7=B4/\A8=B5/\w2k=e2k/\w2v=e2v/\w4k=e4k/\w4v=e4v/\w5k=e5k/\w5v=e5v/\w6k=e6k/\w6v=e6v/\w7=e7/\w9=e9/\w10=e10/\w11k=e11k/\w11v=e11v)/\
(decide (v2.work<p2)=false->
((p2==v2.work)=true->
lz w10/\lz w9/\lz w7/\decide (p1<(ix Ac v1))=r0/\Aa=Aq/\Ae=Aw/\Ab=Ax/\Am=B0/\Ao=B1/\Ag=Bl/\Aj=Bm/\Ah=Bn/\Ai=Bo/\Ac=A9/\Ap=Bz/\Af=Ba/\At=B6/\Au=B7/\Av=B8/\As=B9/\Bb=Ca/\Bc=Cb/\Bd=Cc/\Be=Cd/\Bf=Ce/\Bg=Cf/\Bh=Cg/\Bi=Ch/\Bj=Ci/\Bk=Cj/\Az=B2/\A0=B3/\A7=B4/\A8=B5/\w2k=e2k/\w2v=e2v/\w4k=e4k/\w4v=e4v/\w5k=e5k/\w5v=e5v/\w6k=e6k/\w6v=e6v/\w7=e7/\w9=e9/\w10=e10/\w11k=e11k/\w11v=e11v)/\
((p2==v2.work)=false->
lz w10/\lz w9/\lz w7/\false=r0/\Aa=Aq/\Ae=Aw/\Ab=Ax/\Am=B0/\Ao=B1/\Ag=Bl/\Aj=Bm/\Ah=Bn/\Ai=Bo/\Ac=A9/\Ap=Bz/\Af=Ba/\At=B6/\Au=B7/\Av=B8/\As=B9/\Bb=Ca/\Bc=Cb/\Bd=Cc/\Be=Cd/\Bf=Ce/\Bg=Cf/\Bh=Cg/\Bi=Ch/\Bj=Ci/\Bk=Cj/\Az=B2/\A0=B3/\A7=B4/\A8=B5/\w2k=e2k/\w2v=e2v/\w4k=e4k/\w4v=e4v/\w5k=e5k/\w5v=e5v/\w6k=e6k/\w6v=e6v/\w7=e7/\w9=e9/\w10=e10/\w11k=e11k/\w11v=e11v))))<|by
 rintro p1 p2 Aa Ae Ab Am Ao Ag Aj Ah Ai Ac Ap Af At Au Av As Bb Bc Bd Be Bf Bg Bh Bi Bj Bk Az A0 A7 A8 w2k w2v w4k w4v w5k w5v w6k w6v w7 w9 w10 w11k w11v h;repeat rintro _ rfl
 obtain⟨hl,hb⟩:=h;unfold betS;refine⟨fun e=> ?_,fun e=> ?_⟩
 ·rw[qh (qdl.1 (by have:(Ac.length:Int)=0:=(by simpa using e);omega))];exact(by repeat' first|apply qt|exact rfl|exact qm)
 ·have e:¬(Ac.length:Int)=0:=by simpa using e
  rw[qf (fun hh=>e (by rw[hh];rfl))];rw[wi ((Ac.length:Int)-1) qqo qqo];refine⟨by omega,by omega,hl,fun e2=> ?_,fun e2=>⟨fun e3=> ?_,fun e3=> ?_⟩⟩
  ·have:decide (wkS w2v w2k (ix Ac ((Ac.length:Int)-1))<p2)=true:=e2;rw[this];exact(by repeat' first|apply qt|exact rfl|exact qm)
  ·have:decide (wkS w2v w2k (ix Ac ((Ac.length:Int)-1))<p2)=false:=e2;have h3:(p2==wkS w2v w2k (ix Ac ((Ac.length:Int)-1)))=true:=e3;rw[this,h3];exact(by repeat' first|apply qt|exact rfl|exact qm)
  ·have:decide (wkS w2v w2k (ix Ac ((Ac.length:Int)-1))<p2)=false:=e2;have h3:(p2==wkS w2v w2k (ix Ac ((Ac.length:Int)-1)))=false:=e3;rw[this,h3];exact(by repeat' first|apply qt|exact rfl|exact qm)
noncomputable def k96:Con TB.den:= .g ⟨46,[.one (.ptr 0 0),.agg yK1],yB,(.one (.one (.own 12))),[.cells yD1,.cells yG1,.map yqu (.st 11),.cells yX,.map (.str) yqi,.map (.str) (.sl yqu),.map (.str) (.bool),.vec yqu,.cells [.mp 11],.vec yqu,.vec (.st 10),.map yqu (.bool),.tip yqu],false⟩ (.st 3:: .int .i64:: .int .i64:: .int .i64:: .int .i64:: .int .i64:: .int .u64:: .int .i64:: .int .i64:: .int .u64:: .sl yqu:: .int .u64:: .int .i64:: .bool::yH) (.int .i64:: .int .i64:: .int .i64:: .int .i64:: .int .i64:: .int .u64:: .int .i64:: .int .i64:: .int .u64:: .sl yqu:: .int .u64:: .int .i64:: .bool:: .int .u64::[yqi,.sl (.st 4),yqi,yqi,yqi,yqi,yqi,yqu,yqi,yqi,yqu,yqi,yqi,.sl yqu,.sl (.st 9),yqu,.sl yqu,.sl (.st 11),.sl (.str),.sl yqi,.sl (.str),.sl (.sl yqu),.sl (.str),.sl (.bool),.sl yqu,.sl yqu,.sl (.st 10),.sl yqu,.sl (.bool),.sl yqu]) [] fun(p1:wI) (Aa Ae Ab Am Ao Ag Aj Ah Ai:Int) (Ac:Li) (Ap Af:Int) (At:Bool) (Au Av:Int) (As:List wB) (Bb Bc Bd Be Bf Bg Bh Bi Bj Bk Az:Int) (A0:Li) (A7:List wA) (A8:Int) (w2k:Li) (w2v:List wL) (w4k:Lb) (w4v:Li) (w5k:Lb) (w5v:List (Li)) (w6k:Lb) (w6v:Lo) (w7 w9:Li) (w10:List wK) (w11k:Li) (w11v:Lo)=>((∃(R:wE) (n:Nat),KI R w2k w2v n/\n<=20)/\PaOk w2k w2v p1/\1<=p1.wM,Aa,Ae,Ab,Am,Ao,Ag,Aj,Ah,Ai,Ac,Ap,Af,At,Au,Av,As,Bb,Bc,Bd,Be,Bf,Bg,Bh,Bi,Bj,Bk,Az,A0,A7,A8,w2k,w2v,w4k,w4v,w5k,w5v,w6k,w6v,w7,w9,w10,w11k,w11v,(brB w2k w2v p1:Li),())
abbrev Fz0 (r:Type):=Int->Int->Int->Int->Int->(List wZ)->(Li)->r
theorem kad:k96.Ok Tryz.prog TB:=prv Bs Tryz.func46 (.r 1 (.nd [] (.lp [] ⟨[13,12],[.vec yqu,.cells yK1],[],[],[]⟩ .no) [] (.r 0 (.rt [.frz 13 [4]])))) c0 (Q:=∀(p1:wI) (Aa Ae Ab Am Ao Ag Aj Ah Ai:Int) (Ac:Li) (Ap Af:Int) (At:Bool) (Au Av:Int) (As:List wB) (Bb Bc Bd Be Bf Bg Bh Bi Bj Bk Az:Int) (A0:Li) (A7:List wA) (A8:Int) (w2k:Li) (w2v:List wL) (w4k:Lb) (w4v:Li) (w5k:Lb) (w5v:List (Li)) (w6k:Lb) (w6v:Lo) (w7 w9:Li) (w10:List wK) (w11k:Li) (w11v:Lo),((∃(R:wE) (n:Nat),KI R w2k w2v n/\n<=20)/\PaOk w2k w2v p1/\1<=p1.wM)->∀Aq:Int,Aa=Aq->∀Aw:Int,Ae=Aw->∀Ax:Int,Ab=Ax->∀B0:Int,Am=B0->∀B1:Int,Ao=B1->∀Bl:Int,Ag=Bl->∀Bm:Int,Aj=Bm->∀Bn:Int,Ah=Bn->∀Bo:Int,Ai=Bo->∀A9:Li,Ac=A9->∀Bz:Int,Ap=Bz->∀Ba:Int,Af=Ba->∀B6:Bool,At=B6->∀B7:Int,Au=B7->∀B8:Int,Av=B8->∀B9:List wB,As=B9->∀Ca:Int,Bb=Ca->∀Cb:Int,Bc=Cb->∀Cc:Int,Bd=Cc->∀Cd:Int,Be=Cd->∀Ce:Int,Bf=Ce->∀Cf:Int,Bg=Cf->∀Cg:Int,Bh=Cg->∀Ch:Int,Bi=Ch->∀Ci:Int,Bj=Ci->∀Cj:Int,Bk=Cj->∀B2:Int,Az=B2->∀B3:Li,A0=B3->∀B4:List wA,A7=B4->∀B5:Int,A8=B5->∀e2k:Li,w2k=e2k->∀e2v:List wL,w2v=e2v->∀e4k:Lb,w4k=e4k->∀e4v:Li,w4v=e4v->∀e5k:Lb,w5k=e5k->∀e5v:List (Li),w5v=e5v->∀e6k:Lb,w6k=e6k->∀e6v:Lo,w6v=e6v->∀e7:Li,w7=e7->∀e9:Li,w9=e9->∀e10:List wK,w10=e10->∀e11k:Li,w11k=e11k->∀e11v:Lo,w11v=e11v->∀e12:Li,brB w2k w2v p1=e12-> 
0<=i64.wrap (p1.wM-1)/\i64.wrap (p1.wM-1)<=i64.wrap (p1.wM-1)/\((i64.wrap (p1.wM-1)).toNat*8<=140737488355328)/\((i64.wrap (p1.wM-1)).toNat<=maxLen)/\∃(I1:Fz0 Prop) (M1:Fz0 Nat),I1 p1.wm p1.wM p1.wAl p1.wW p1.wY p1.Txs (List.replicate ((i64.wrap (p1.wM-1)).toNat) (0:Int))/\∀b1 f1 i1 k1 l1 m1 n1,(I1 b1 f1 i1 k1 l1 m1 n1->
(decide (1<f1)=true->
(0<=i64.wrap (f1-2)/\i64.wrap (f1-2)<(((i64.wrap (p1.wM-1)).toNat:Nat):Int))/\(0<=i64.wrap (f1-2)/\i64.wrap (f1-2)<(n1.length:Int))/\w2k.length=w2v.length/\let v1:wL:=mVal (BEq.beq b1) w2k w2v (default:wL)
I1 v1.wAp v1.wAh v1.wAt v1.wAw v1.wAu v1.wAz (n1.set (i64.wrap (f1-2)).toNat b1)/\M1 v1.wAp v1.wAh v1.wAt v1.wAw v1.wAu v1.wAz (n1.set (i64.wrap (f1-2)).toNat b1)<M1 b1 f1 i1 k1 l1 m1 n1)/\
(decide (1<f1)=false->
((i64.wrap (p1.wM-1)).toNat=n1.length)/\lz w10/\lz w9/\lz w7/\(n1=n1)/\Aa=Aq/\Ae=Aw/\Ab=Ax/\Am=B0/\Ao=B1/\Ag=Bl/\Aj=Bm/\Ah=Bn/\Ai=Bo/\Ac=A9/\Ap=Bz/\Af=Ba/\At=B6/\Au=B7/\Av=B8/\As=B9/\Bb=Ca/\Bc=Cb/\Bd=Cc/\Be=Cd/\Bf=Ce/\Bg=Cf/\Bh=Cg/\Bi=Ch/\Bj=Ci/\Bk=Cj/\Az=B2/\A0=B3/\A7=B4/\A8=B5/\w2k=e2k/\w2v=e2v/\w4k=e4k/\w4v=e4v/\w5k=e5k/\w5v=e5v/\w6k=e6k/\w6v=e6v/\w7=e7/\w9=e9/\w10=e10/\w11k=e11k/\w11v=e11v/\n1=e12)))<|by
 rintro p1 Aa Ae Ab Am Ao Ag Aj Ah Ai Ac Ap Af At Au Av As Bb Bc Bd Be Bf Bg Bh Bi Bj Bk Az A0 A7 A8 w2k w2v w4k w4v w5k w5v w6k w6v w7 w9 w10 w11k w11v h;repeat rintro _ rfl
 obtain⟨⟨R,n,hK,hn⟩,hp,hh⟩:=h;obtain⟨q1,_,_,q4,q5⟩:=hK.br hp hh;have hkn:=hK.kn;obtain⟨K,hKe⟩:=qo (show 0<=p1.wM-1 by omega);have hw:i64.wrap (p1.wM-1)=(K:Int):=by rw[wi _ qqo qqo,hKe]
 have hB:brB w2k w2v p1=brS w2k w2v K p1.wm:=by unfold brB;rw[hKe];rfl
 rw[hw,qu,hB]
 have hp0:1<=K->p1.wm∈w2k/\(gB w2k w2v p1.wm).wM=(K:Int):=fun h1=>by
  rcases hp with⟨h2,_⟩|⟨_,h3,h4⟩
  ·omega
  ·exact⟨h3,by rw[h4,hKe]⟩
 refine⟨by omega,by omega,by omega,by unfold maxLen;omega,(fun b f _ _ _ _ l=>∃(m:Nat) (s:Li),f=(m:Int)+1/\m<=K/\l=List.replicate m 0++s/\l.length=K/\brS w2k w2v K p1.wm=brS w2k w2v m b++s/\(1<=m->b∈w2k/\(gB w2k w2v b).wM=(m:Int))),(fun _ f _ _ _ _ _=>f.toNat),⟨K,[],by omega,qv _,by simp,by simp,by simp,hp0⟩,?_⟩;rintro b f _ _ _ _ _ ⟨m,s,rfl,hm,rfl,hl,hs,hb⟩;refine⟨fun e=> ?_,fun e=> ?_⟩
 ·have e:=qb e;obtain⟨j,rfl⟩:∃j,m=j+1:=⟨m-1,by omega⟩;obtain⟨g1,g2⟩:=hb qqo;have hidx:i64.wrap (((j+1:Nat):Int)+1-2)=(j:Int):=by rw[wi _ qqo qqo];omega
  rw[hidx];refine⟨⟨by omega,by omega⟩,⟨by omega,by omega⟩,hK.kv,⟨j,b::s,?_,by omega,?_,by rw[qde];exact hl,?_,fun h1=> ?_⟩,?_⟩
  ·show(gB w2k w2v b).wM=_;rw[g2];omega
  ·rw[qu,List.replicate_succ',qw];simp[List.set_append]
  ·rw[hs];show(brS w2k w2v j (gB w2k w2v b).wm++[b])++s=_;rw[qw];rfl
  ·obtain⟨a,c⟩:=hK.hp b g1 (by rw[g2];omega);exact⟨a,by show(gB w2k w2v (gB w2k w2v b).wm).wM=_;rw[c,g2];omega⟩
  ·show(gB w2k w2v b).wM.toNat<(((j+1:Nat):Int)+1).toNat;rw[g2];omega
 ·have e:=qc e;obtain rfl:m=0:=by omega
  have hs:brS w2k w2v K p1.wm=s:=hs;have hl:s.length=K:=by simpa using hl
  rw[hs];exact(by repeat' first|apply qt|exact hl.symm|exact rfl|exact qm)
noncomputable def k9d:Con TB.den:= .b (gk 51 [.one (.ptr 0 0)] [.cells [.ptr 1 0,zqi,zqi,zqi,zqi,zqi,zqu,zqi,zqi,zqu,.mp 2,.own 3,.ptr 4 0,zqu,zqi],.cells [.d (.bool),zqu,zqi,.d (.sl (.st 4)),.mp 5,.mp 6,.mp 7],.map yqu (.st 11),.tip yqu,.cells [zqi,zqi,zqi,zqi,zqi,zqu,zqi,zqi,zqu,zqi,zqi,zql,.row 8,.ptr 9 0,.d (.sl (.st 9)),zqu,.row 10,.row 11],.map (.str) yqi,.map (.str) (.sl yqu),.map (.str) (.bool),.vec yqu,.cells [.mp 12],.vec yqu,.vec (.st 10),.map yqu (.bool)] (.tup [])) (.int .i64:: .int .i64:: .int .i64:: .int .i64:: .int .i64:: .int .u64:: .int .i64:: .int .i64:: .int .u64:: .int .u64:: .int .i64:: .bool:: .int .u64::yG) (.int .i64:: .int .i64:: .int .i64:: .int .i64:: .int .i64:: .int .u64:: .int .i64:: .int .i64:: .int .u64:: .int .u64:: .int .i64:: .bool:: .int .u64::yG) fun(Aa Ae Ab Am Ao Ag Aj Ah Ai Ap Af:Int) (At:Bool) (Au Av:Int) (As:List wB) (c4_0 c4_1 c4_2 c4_3 c4_4 c4_5 c4_6 c4_7 c4_8 c4_9 Cr:Int) (Cs:Li) (Ct:List wA) (Cu:Int) (w2k:Li) (w2v:List wL) (w3:Li) (w5k:Lb) (w5v:Li) (w6k:Lb) (w6v:List (Li)) (w7k:Lb) (w7v:Lo) (w8 w10:Li) (w11:List wK) (w12k:Li) (w12v:Lo)=>((1<=Ah/\Ah<=1048576)/\w3.length<=1000,finS Ah w3 Ap Af,fun R=>(Aa,Ae,Ab,Am,Ao,Ag,Aj,Ah,Ai,R.f,R.h,At,Au,Av,As,c4_0,c4_1,c4_2,c4_3,c4_4,c4_5,c4_6,c4_7,c4_8,c4_9,Cr,Cs,Ct,Cu,w2k,w2v,w3,w5k,w5v,w6k,w6v,w7k,w7v,w8,w10,w11,w12k,w12v,()))
abbrev k3w (R:FH) (Aa Ae Ab Am Ao Ag Aj Ah Ai:Int) (At:Bool) (Au Av:Int) (As:List wB) (c4_0 c4_1 c4_2 c4_3 c4_4 c4_5 c4_6 c4_7 c4_8 c4_9 Cr:Int) (Cs:Li) (Ct:List wA) (Cu:Int) (w2k:Li) (w2v:List wL) (w3:Li) (w5k:Lb) (w5v:Li) (w6k:Lb) (w6v:List (Li)) (w7k:Lb) (w7v:Lo) (w8 w10:Li) (w11:List wK) (w12k:Li) (w12v:Lo) (o0 o1 o2 o3 o4 o5 o6 o7 o8 o9 o10:Int) (o11:Bool) (o12 o13:Int) (o14:List wB) (o15 o16 o17 o18 o19 o20 o21 o22 o23 o24 o25:Int) (o26:Li) (o27:List wA) (o28:Int) (o29:Li) (o30:List wL) (o31:Li) (o32:Lb) (o33:Li) (o34:Lb) (o35:List (Li)) (o36:Lb) (o37:Lo) (o38 o39:Li) (o40:List wK) (o41:Li) (o42:Lo):Prop:=o0=Aa/\o1=Ae/\o2=Ab/\o3=Am/\o4=Ao/\o5=Ag/\o6=Aj/\o7=Ah/\o8=Ai/\o9=R.f/\o10=R.h/\o11=At/\o12=Au/\o13=Av/\o14=As/\o15=c4_0/\o16=c4_1/\o17=c4_2/\o18=c4_3/\o19=c4_4/\o20=c4_5/\o21=c4_6/\o22=c4_7/\o23=c4_8/\o24=c4_9/\o25=Cr/\o26=Cs/\o27=Ct/\o28=Cu/\o29=w2k/\o30=w2v/\o31=w3/\o32=w5k/\o33=w5v/\o34=w6k/\o35=w6v/\o36=w7k/\o37=w7v/\o38=w8/\o39=w10/\o40=w11/\o41=w12k/\o42=w12v
theorem kap:k9d.Ok Tryz.prog TB:=pbv Bs Tryz.func51 (.r 0 (.jn ⟨[],[],[23],[.one (.d (.bool))],[]⟩ [] .no [] .no)) c0 (Q:=∀(Aa Ae Ab Am Ao Ag Aj Ah Ai Ap Af:Int) (At:Bool) (Au Av:Int) (As:List wB) (c4_0 c4_1 c4_2 c4_3 c4_4 c4_5 c4_6 c4_7 c4_8 c4_9 Cr:Int) (Cs:Li) (Ct:List wA) (Cu:Int) (w2k:Li) (w2v:List wL) (w3:Li) (w5k:Lb) (w5v:Li) (w6k:Lb) (w6v:List (Li)) (w7k:Lb) (w7v:Lo) (w8 w10:Li) (w11:List wK) (w12k:Li) (w12v:Lo),((1<=Ah/\Ah<=1048576)/\w3.length<=1000)->∀R,finS Ah w3 Ap Af=R-> 
let v1:Int:=i64.wrap ((w3.length:Int)-Ah)
∀J1:Bool->Prop,(∀(b1:Bool),
((b1=true->
(0<=i64.wrap (v1-1))/\i64.wrap (v1-1)<(w3.length:Int)/\lz w11/\lz w10/\lz w8/\(w3=w3)/\k3w R Aa Ae Ab Am Ao Ag Aj Ah Ai At Au Av As c4_0 c4_1 c4_2 c4_3 c4_4 c4_5 c4_6 c4_7 c4_8 c4_9 Cr Cs Ct Cu w2k w2v w3 w5k w5v w6k w6v w7k w7v w8 w10 w11 w12k w12v Aa Ae Ab Am Ao Ag Aj Ah Ai (ix w3 (i64.wrap (v1-1))) v1 At Au Av As c4_0 c4_1 c4_2 c4_3 c4_4 c4_5 c4_6 c4_7 c4_8 c4_9 Cr Cs Ct Cu w2k w2v w3 w5k w5v w6k w6v w7k w7v w8 w10 w11 w12k w12v)/\
(b1=false->
lz w11/\lz w10/\lz w8/\(w3=w3)/\k3w R Aa Ae Ab Am Ao Ag Aj Ah Ai At Au Av As c4_0 c4_1 c4_2 c4_3 c4_4 c4_5 c4_6 c4_7 c4_8 c4_9 Cr Cs Ct Cu w2k w2v w3 w5k w5v w6k w6v w7k w7v w8 w10 w11 w12k w12v Aa Ae Ab Am Ao Ag Aj Ah Ai Ap Af At Au Av As c4_0 c4_1 c4_2 c4_3 c4_4 c4_5 c4_6 c4_7 c4_8 c4_9 Cr Cs Ct Cu w2k w2v w3 w5k w5v w6k w6v w7k w7v w8 w10 w11 w12k w12v))->J1 b1)->
(decide (1<=v1)=true->
J1 (decide (Af<v1)))/\
(decide (1<=v1)=false->
J1 false))<|by
 rintro Aa Ae Ab Am Ao Ag Aj Ah Ai Ap Af At Au Av As c4_0 c4_1 c4_2 c4_3 c4_4 c4_5 c4_6 c4_7 c4_8 c4_9 Cr Cs Ct Cu w2k w2v w3 w5k w5v w6k w6v w7k w7v w8 w10 w11 w12k w12v h R hR;obtain⟨⟨h1,h2⟩,h3⟩:=h;intro v1 J1 k1;have hv:v1=(w3.length:Int)-Ah:=wi _ qqo qqo
 clear_value v1
 subst hv
 have j:∀b:Bool,(b=true↔(1<=(w3.length:Int)-Ah/\Af<(w3.length:Int)-Ah))->J1 b:=fun b hb=>k1 b ⟨fun e=>by
  have hh:=hb.1 e;have hq:=hR.symm.trans (show finS Ah w3 Ap Af=_ from qh hh);subst hq;rw[wi ((w3.length:Int)-Ah-1) qqo qqo];exact⟨by omega,by omega,(by repeat' first|apply qt|exact rfl|exact qm)⟩,fun e=>by
  have hh:¬(1<=(w3.length:Int)-Ah/\Af<(w3.length:Int)-Ah):=fun hq=>by rw[hb.2 hq]at e;cases e
  have hq:=hR.symm.trans (show finS Ah w3 Ap Af=_ from qf hh);subst hq;exact(by repeat' first|apply qt|exact rfl|exact qm)⟩
 exact⟨fun e=>j _ ⟨fun e2=>⟨qb e,qb e2⟩,fun hq=>qbr hq.2⟩,fun e=>j _ ⟨fun e2=>(by cases e2),fun hq=>(qc e hq.1).elim⟩⟩
noncomputable def kls:Con TB.den:= .g (gk 163 [.one (.ptr 0 0),.one (zqu)] yO1 (.one (.one (.d (.bool))))) [yqu,.sl yqu,.sl (.bool)] [.bool,.sl yqu,.sl (.bool)] [] fun(p1:Int) (w1k:Li) (w1v:Lo)=>(w1v=trs w1k,(decide (p1∈w1k):Bool),w1k,w1v,())
theorem kmr:kls.Ok Tryz.prog TB:=prv Bs Tryz.func163 .no c0 (Q:=∀(p1:Int) (w1k:Li) (w1v:Lo),(w1v=trs w1k)->∀r0:Bool,(decide (p1∈w1k))=r0->∀e1k:Li,w1k=e1k->∀e1v:Lo,w1v=e1v-> 
w1k.length=w1v.length/\let v1:Bool:=mVal (BEq.beq p1) w1k w1v false
v1=r0/\w1k=e1k/\w1v=e1v)<|by rintro p1 w1k w1v h _ rfl _ rfl _ rfl;subst h;exact⟨by simp[trs],sVal _ _,rfl,rfl⟩
noncomputable def kaj:Con TB.den:= .g (gk 68 [.one (.ptr 0 0)] yM (.one (.one (.view 3)))) yT [yqi,yqi,yqi,yqi,yqi,yqi,yqi,yqu,yqi,yqi,yqu,yqi,yqi,.sl yqu,.sl (.st 9),yqu,.sl yqu,.sl yqu,.sl (.st 10),.sl yqu,.sl (.bool)] [] fun(Ad Aa Ae Ab Am Ao Ag Aj Ah Ai Ak:Int) (Ac:Li) (Af:List wA) (Al:Int) (w1 w3:Li) (w4:List wK) (w5k:Li) (w5v:Lo)=>((1<=Ag/\Ag<=100)/\w3.length<=1000000,(((w3.length-Ag.toNat:Nat):Int):Int),(((w3.length-(w3.length-Ag.toNat):Nat):Int):Int),Ad,Aa,Ae,Ab,Am,Ao,Ag,Aj,Ah,Ai,Ak,Ac,Af,Al,w1,w3,w4,w5k,w5v,())
theorem kc6:kaj.Ok Tryz.prog TB:=prv Bs Tryz.func68 .no c0 (Q:=∀(Ad Aa Ae Ab Am Ao Ag Aj Ah Ai Ak:Int) (Ac:Li) (Af:List wA) (Al:Int) (w1 w3:Li) (w4:List wK) (w5k:Li) (w5v:Lo),((1<=Ag/\Ag<=100)/\w3.length<=1000000)->∀r0o:Int,((w3.length-Ag.toNat:Nat):Int)=r0o->∀r0n:Int,((w3.length-(w3.length-Ag.toNat):Nat):Int)=r0n->∀Ay:Int,Ad=Ay->∀Aq:Int,Aa=Aq->∀Aw:Int,Ae=Aw->∀Ax:Int,Ab=Ax->∀B0:Int,Am=B0->∀B1:Int,Ao=B1->∀Bl:Int,Ag=Bl->∀Bm:Int,Aj=Bm->∀Bn:Int,Ah=Bn->∀Bo:Int,Ai=Bo->∀Bp:Int,Ak=Bp->∀A9:Li,Ac=A9->∀Ba:List wA,Af=Ba->∀Bq:Int,Al=Bq->∀e1:Li,w1=e1->∀e3:Li,w3=e3->∀e4:List wK,w4=e4->∀e5k:Li,w5k=e5k->∀e5v:Lo,w5v=e5v-> 
let v1:Int:=i64.wrap ((w3.length:Int)-(if 0<Ag then Ag else 0))
(0<=(if 0<v1 then v1 else 0))/\(if 0<v1 then v1 else 0)<=(w3.length:Int)/\lz w4/\lz w3/\lz w1/\(((if 0<v1 then v1 else 0).toNat:Nat):Int)=r0o/\((w3.length-(if 0<v1 then v1 else 0).toNat:Nat):Int)=r0n/\Ad=Ay/\Aa=Aq/\Ae=Aw/\Ab=Ax/\Am=B0/\Ao=B1/\Ag=Bl/\Aj=Bm/\Ah=Bn/\Ai=Bo/\Ak=Bp/\Ac=A9/\Af=Ba/\Al=Bq/\w1=e1/\w3=e3/\w4=e4/\w5k=e5k/\w5v=e5v)<|by
 rintro Ad Aa Ae Ab Am Ao Ag Aj Ah Ai Ak Ac Af Al w1 w3 w4 w5k w5v h;repeat rintro _ rfl
 obtain⟨⟨h1,h2⟩,h3⟩:=h;refine ?_;intro v1;have hv:v1=(w3.length:Int)-Ag:=by show i64.wrap _=_;rw[qh (show 0<Ag by omega),ko _ qqo qqo]
 have e:(if 0<v1 then v1 else 0)=((w3.length-Ag.toNat:Nat):Int):=by rw[hv];split<;>omega
 rw[e,qu];exact⟨by omega,by omega,rfl,rfl,rfl,rfl,rfl,rfl,rfl,rfl,rfl,rfl,rfl,rfl,rfl,rfl,rfl,rfl,rfl,rfl,rfl,rfl,rfl,rfl,rfl,rfl⟩
noncomputable def khx:Con TB.den:= .tp 376 [yqu] [.bool] [] fun(p0:Int)=>(false,())
theorem kjo:khx.Ok Tryz.prog TB:=qtv Bs Tryz.func376 .no c0 (Q:=∀(p0:Int),∀r0:Bool,(false:Bool)=r0-> 
(p0 !=p0)=r0)<|by rintro p0 _ rfl;exact qqs
noncomputable def ke6:Con TB.den:= .tp 302 [yqu,yqu] [yqi] [] fun(p0 p1:Int)=>((cmp3 p0 p1:Int),())
theorem kg9:ke6.Ok Tryz.prog TB:=qtv Bs Tryz.func302 .no (kjo.c c0) (Q:=∀(p0 p1:Int),∀r0:Int,cmp3 p0 p1=r0-> 
(false=true->
(false=true->
0=r0)/\
(false=false->
(-1)=r0))/\
(false=false->
(false=true->
1=r0)/\
(false=false->
(decide (p0<p1)=true->
(-1)=r0)/\
(decide (p0<p1)=false->
(decide (p1<p0)=true->
1=r0)/\
(decide (p1<p0)=false->
0=r0)))))<|by rintro p0 p1 _ rfl;refine⟨fun e=>(by cases e),fun _=>⟨fun e=>(by cases e),fun _=> ?_⟩⟩;simp only[qae,decide_eq_false_iff_not];unfold cmp3;exact⟨fun h=>by simp[h],fun h=>⟨fun h2=>by simp[h,h2],fun h2=>by simp[h,h2]⟩⟩
noncomputable def k42:Con TB.den:= .tp 301 [.st 9,yqu] [yqi] [] fun(p0:wA) (p1:Int)=>((cmp3 p0.ID p1:Int),())
theorem k4j:k42.Ok Tryz.prog TB:=qtv Bs Tryz.func301 .no (kg9.c c0) (Q:=∀(p0:wA) (p1:Int),∀r0:Int,cmp3 p0.ID p1=r0-> 
(cmp3 p0.ID p1)=r0)<|by rintro p0 p1 _ rfl;exact rfl
noncomputable def k3q:Con TB.den:= .g (gk 300 [.one (.d (.sl (.st 9))),.one (zqu),.one (.k (.fn 301))] [] (.tup [.one (zqi),.one (.d (.bool))])) [.sl (.st 9),yqu] [yqi,.bool] [] fun(p0:List wA) (p1:Int)=>(Srt p0/\p0.length<4611686018427387904,((lb p0 p1:Int):Int),(fnd p0 p1:Bool),())
theorem k3u:k3q.Ok Tryz.prog TB:=prv Bs Tryz.func300 (.r 2 (.nd [] (.lp [] ⟨[],[],[9,10],[.one (zqi),.one (zqi)],[]⟩ .no) [] .no)) (k4j.c c0) (Q:=∀(p0:List wA) (p1:Int),(Srt p0/\p0.length<4611686018427387904)->∀r0:Int,(lb p0 p1:Int)=r0->∀r1:Bool,fnd p0 p1=r1-> 
∃(I1:Int->Int->Prop) (M1:Int->Int->Nat),I1 0 (p0.length:Int)/\∀b1 f1,(I1 b1 f1->
(decide (b1<f1)=true->
let v2:Int:=u64.wrap (i64.wrap (b1+f1))
(0<=i64.wrap (ishr .u64 v2 1))/\i64.wrap (ishr .u64 v2 1)<(p0.length:Int)/\let r3:Int:=(cmp3 (ix p0 (i64.wrap (ishr .u64 v2 1))).ID p1)
(decide (r3<0)=true->
let v4:Int:=i64.wrap ((i64.wrap (ishr .u64 v2 1))+1)
I1 v4 f1/\M1 v4 f1<M1 b1 f1)/\
(decide (r3<0)=false->
I1 b1 (i64.wrap (ishr .u64 v2 1))/\M1 b1 (i64.wrap (ishr .u64 v2 1))<M1 b1 f1))/\
(decide (b1<f1)=false->
(decide (b1<(p0.length:Int))=true->
(0<=b1)/\b1<(p0.length:Int)/\b1=r0/\((cmp3 (ix p0 b1).ID p1)==0)=r1)/\
(decide (b1<(p0.length:Int))=false->
b1=r0/\false=r1))))<|by
 rintro p0 p1 h _ rfl _ rfl;obtain⟨hs,hl⟩:=h;refine(⟨(fun a b=>∃i j:Nat,a=(i:Int)/\b=(j:Int)/\i<=j/\j<=p0.length/\(∀k (h:k<p0.length),k<i->p0[k].ID<p1)/\(∀k (h:k<p0.length),j<=k->p1<=p0[k].ID)),(fun a b=>(b-a).toNat),⟨0,p0.length,rfl,rfl,by omega,by omega,fun k h hk=>by omega,fun k h hk=>by omega⟩,?_⟩);rintro _ _ ⟨i,j,rfl,rfl,hij,hj,h1,h2⟩;refine⟨fun hlt=> ?_,fun hlt=> ?_⟩
 ·have hlt' :i<j:=by have:=qb hlt;omega
  intro v2;have e:i64.wrap (ishr .u64 v2 1)=(((i+j)/2:Nat):Int):=mid_eq i j qqo;rw[e];have hm:(i+j)/2<p0.length:=by omega
  rw[ix_get _ _ hm];refine⟨by omega,by omega,fun hc=> ?_,fun hc=> ?_⟩
  ·have hc:=cmp3_lt.1 (qb hc);refine⟨⟨(i+j)/2+1,j,inc_i64 _ qqo,rfl,by omega,hj,fun k h hk=> ?_,h2⟩,?_⟩
   ·rcases qay k ((i+j)/2)with h5|h5
    ·have:=hs _ _ h5 hm;omega
    ·have:k=(i+j)/2:=by omega
     subst this;exact hc
   ·rw[inc_i64 _ qqo];(dsimp only;omega)
  ·have hc:¬p0[(i+j)/2].ID<p1:=fun hh=>qc hc (cmp3_lt.2 hh);refine⟨⟨i,(i+j)/2,rfl,rfl,by omega,by omega,h1,fun k h hk=> ?_⟩,by(dsimp only;omega)⟩;rcases qay ((i+j)/2) k with h5|h5
   ·have:=hs _ _ h5 h;omega
   ·have:k=(i+j)/2:=by omega
    subst this;omega
 ·have hij' :i=j:=by have:=qc hlt;omega
  subst hij';have hb:lb p0 p1=i:=lb_eq p0 p1 i hj h1 (fun h=>h2 i h qqo);refine⟨fun hi=> ?_,fun hi=> ?_⟩
  ·have hi:i<p0.length:=by have:=qb hi;omega
   refine⟨by omega,by omega,by rw[hb],?_⟩;unfold fnd;rw[hb,ix_get _ _ hi,qd hi];show((cmp3 p0[i].ID p1)==0)=decide (p0[i].ID=p1);rw[Bool.eq_iff_iff];simp[cmp3_eq]
  ·have hi:¬i<p0.length:=by have:=qc hi;omega
   refine⟨by rw[hb],?_⟩;unfold fnd;rw[hb,qeo qqo]
noncomputable def ked:Con TB.den:= .gp 224 [.st 17,yqu] [yqi,.bool] [] fun(p0:wt) (p1:Int)=>(Srt p0.wF/\p0.wF.length<4611686018427387904,((lb p0.wF p1:Int):Int),(fnd p0.wF p1:Bool),())
theorem k6h:ked.Ok Tryz.prog TB:=qrv Bs Tryz.func224 .no (k3u.c c0) (Q:=∀(p0:wt) (p1:Int),(Srt p0.wF/\p0.wF.length<4611686018427387904)->∀r0:Int,(lb p0.wF p1:Int)=r0->∀r1:Bool,fnd p0.wF p1=r1-> 
(Srt p0.wF/\p0.wF.length<4611686018427387904)/\(lb p0.wF p1:Int)=r0/\(fnd p0.wF p1)=r1)<|by rintro p0 p1 h _ rfl _ rfl;exact⟨h,rfl,rfl⟩
noncomputable def kfz:Con TB.den:= .bp 167 [.st 17,yqu] [yqu,yqu] fun(p0:wt) (p1:Int)=>(Srt p0.wF/\p0.wF.length<4611686018427387904,getA p0.wF p1,fun R=>(R.wd,R.wY,()))
theorem k84:kfz.Ok Tryz.prog TB:=qbv Bs Tryz.func167 .no (k6h.c c0) (Q:=∀(p0:wt) (p1:Int),(Srt p0.wF/\p0.wF.length<4611686018427387904)->∀R,getA p0.wF p1=R-> 
(Srt p0.wF/\p0.wF.length<4611686018427387904)/\((!(fnd p0.wF p1))=true->
0=R.wd/\0=R.wY)/\
((!(fnd p0.wF p1))=false->
(0<=(lb p0.wF p1:Int))/\(lb p0.wF p1:Int)<(p0.wF.length:Int)/\let v2:Int:=(ix p0.wF (lb p0.wF p1:Int)).wd
(0<=(lb p0.wF p1:Int))/\(lb p0.wF p1:Int)<(p0.wF.length:Int)/\let v3:Int:=(ix p0.wF (lb p0.wF p1:Int)).wY
v2=R.wd/\v3=R.wY))<|by
 rintro p0 p1 h R hR;subst hR;refine⟨h,fun hh=> ?_,fun hh=> ?_⟩
 ·have hf:fnd p0.wF p1=false:=by simpa using hh
  rw[getA_no h.1 hf];exact⟨rfl,rfl⟩
 ·have hf:fnd p0.wF p1=true:=by simpa using hh
  obtain⟨hb,_⟩:=k4o hf;rw[getA_of h.1 hf hb,ix_get _ _ hb];exact⟨by omega,by omega,by omega,by omega,rfl,rfl⟩
noncomputable def k3s:Con TB.den:= .g ⟨75,[.one (.d (.sl (.st 9)))],[],(.one (.one (.own 0))),[.tip (.st 9)],false⟩ [.sl (.st 9)] [.sl (.st 9)] [] fun(p0:List wA)=>(p0.length<=100000,p0,())
theorem k47:k3s.Ok Tryz.prog TB:=prv Bs Tryz.func75 (.r 0 (.nd [] (.r 0 (.nd [] (.r 0 (.rt [.tok 2 (.st 9)])) [] .no)) [] .no)) c0 (Q:=∀(p0:List wA),(p0.length<=100000)->∀e0:List wA,p0=e0-> 
∀z4:Bool,(z4=true->p0=[])->(z4=true->
(([]:List wA)=([]:List wA))/\([]:List wA)=e0)/\
(z4=false->
(([]:List wA).length+p0.length)*24<=140737488355328/\([]:List wA).length+p0.length<=maxLen/\(([]:List wA)++p0=([]:List wA)++p0)/\([]:List wA)++p0=e0))<|by rintro p0 h _ rfl;exact fun z hz=>⟨fun h=>⟨rfl,(hz h).symm⟩,fun _=>⟨by simp;omega,by simp;unfold maxLen;omega,rfl,rfl⟩⟩
noncomputable def kfx:Con TB.den:= .gp 169 [.st 17,.st 9] [.st 17] [] fun(p0:wt) (p1:wA)=>(Srt p0.wF/\p0.wF.length<=1000,(wt.mk (putA p0.wF p1):wt),())
theorem k80:kfx.Ok Tryz.prog TB:=qrv Bs Tryz.func169 (.r 2 (.jn ⟨[3],[.tip (.st 9)],[7],[.one (.own 0)],[]⟩ [] (.jn ⟨[],[],[27],[.one (.d (.bool))],[]⟩ [] .no [] .no) [] (.jn ⟨[],[],[5],[.one (zqi)],[]⟩ [] .no [] .no))) (k6h.c (k47.c c0)) (Q:=∀(p0:wt) (p1:wA),(Srt p0.wF/\p0.wF.length<=1000)->∀r0:wt,(wt.mk (putA p0.wF p1))=r0-> 
(Srt p0.wF/\p0.wF.length<4611686018427387904)/\(0<=(lb p0.wF p1.ID:Int))/\(lb p0.wF p1.ID:Int)<=(p0.wF.length:Int)/\let v1:List wA:=p0.wF.take (lb p0.wF p1.ID:Int).toNat
(v1.length<=100000)/\∀J1:(List wA)->Prop,(∀(b1:List wA),
(∀J3:Int->Prop,(∀(i1:Int),
((0<=i1)/\i1<=(p0.wF.length:Int)/\lz b1/\(b1.length+(p0.wF.drop i1.toNat).length)*24<=140737488355328/\b1.length+(p0.wF.drop i1.toNat).length<=maxLen/\b1++(p0.wF.drop i1.toNat)=r0.wF)->J3 i1)->
((fnd p0.wF p1.ID)=true->
let v2:Int:=i64.wrap ((lb p0.wF p1.ID:Int)+1)
J3 v2)/\
((fnd p0.wF p1.ID)=false->
J3 (lb p0.wF p1.ID:Int)))->J1 b1)->
∀J2:Bool->Prop,(∀(f1:Bool),
((f1=true->
lz v1/\(v1.length+[p1].length)*24<=140737488355328/\v1.length+[p1].length<=maxLen/\(v1++[p1]=v1++[p1])/\J1 (v1++[p1]))/\
(f1=false->
(v1=v1)/\J1 v1))->J2 f1)->
((p1.wd !=0)=true->
J2 true)/\
((p1.wd !=0)=false->
J2 (p1.wY !=0)))<|by
 rintro p0 p1 h _ rfl;obtain⟨hs,hl⟩:=h;have hlb:=lb_le p0.wF p1.ID;refine⟨⟨hs,by omega⟩,by omega,by omega,?_⟩;simp only[qu];refine⟨by simp;omega,fun J1 j1=> ?_⟩
 have hJ1:∀m:List wA,m=p0.wF.take (lb p0.wF p1.ID)++(if p1.wd≠0∨p1.wY≠0 then [p1]else [])->J1 m:=by
  intro m hm;have hml:m.length<=1001:=by rw[hm];simp only[qi,qaa];split<;>simp<;>omega
  refine j1 _ fun J3 j3=> ?_
  have hJ3:∀n:Nat,n<=p0.wF.length->m++p0.wF.drop n=putA p0.wF p1->J3 (n:Int):=by
   intro n hn he;have:=(qbd:(p0.wF.drop n).length=_);refine j3 _ ⟨by omega,by omega,by first|exact rfl|exact qm,?_,?_,?_⟩
   ·simp only[qu];omega
   ·simp only[qu];unfold maxLen;omega
   ·simp only[qu];exact he
  refine⟨fun hf=> ?_,fun hf=> ?_⟩
  ·obtain⟨hb,_⟩:=k4o hf;rw[inc_i64 _ qqo];refine hJ3 _ qqo ?_;rw[hm];unfold putA;rw[hf];rfl
  ·refine hJ3 _ qqo ?_;rw[hm];unfold putA;rw[hf];rfl
 intro J2 j2
 have hJ2:∀b:Bool,(b=true↔(p1.wd≠0∨p1.wY≠0))->J2 b:=by
  intro b hb;refine j2 _ ⟨fun e=> ?_,fun e=> ?_⟩
  ·have hlt:(p0.wF.take (lb p0.wF p1.ID)).length<=1000:=by rw[qaa];omega
   refine⟨by first|exact rfl|exact qm,(len24 _ _ (qbi hlt qqd)).1,(len24 _ _ (qbi hlt qqd)).2,by first|exact rfl|exact qm,hJ1 _ ?_⟩;rw[qh (hb.1 e)]
  ·refine⟨by first|exact rfl|exact qm,hJ1 _ ?_⟩;rw[qf (fun hh=>by rw[hb.2 hh]at e;cases e)];exact(qcd _).symm
 refine⟨fun e=>hJ2 _ ?_,fun e=>hJ2 _ ?_⟩
 ·have:p1.wd≠0:=by simpa using e
  simp[this]
 ·have:p1.wd=0:=by simpa using e
  simp[this]
noncomputable def kco:Con TB.den:= .gp 164 [.st 17,yqu,yqu,yqu] [.st 17,yqi] [] fun(p0:wt) (p1 p2 p3:Int)=>(OkA p0.wF/\U64 p2/\U64 p3,(wt.mk (debitA p0.wF p1 p2 p3).1:wt),((debitA p0.wF p1 p2 p3).2:Int),())
theorem k5c:kco.Ok Tryz.prog TB:=qrv Bs Tryz.func164 (.r 2 (.nd [] (.jn ⟨[],[],[27],[.one (.d (.bool))],[]⟩ [] .no [] .no) [] .no)) (k84.c (k80.c c0)) (Q:=∀(p0:wt) (p1 p2 p3:Int),(OkA p0.wF/\U64 p2/\U64 p3)->∀r0:wt,(wt.mk (debitA p0.wF p1 p2 p3).1)=r0->∀r1:Int,((debitA p0.wF p1 p2 p3).2)=r1-> 
(Srt p0.wF/\p0.wF.length<4611686018427387904)/\((p2==0)=true->
([]:List wA)=r0.wF/\1=r1)/\
((p2==0)=false->
∀J1:Bool->Prop,(∀(b1:Bool),
((b1=true->
([]:List wA)=r0.wF/\20=r1)/\
(b1=false->
let v2:Bool:=decide (((getA p0.wF p1).wd)<p2)
(v2=true->
([]:List wA)=r0.wF/\15=r1)/\
(v2=false->
let v3:Int:=u64.wrap (((getA p0.wF p1).wd)-p2)
(Srt p0.wF/\p0.wF.length<=1000)/\let r4:List wA:=(putA p0.wF (wA.mk p1 v3 (u64.wrap (p3+1))))
r4=r0.wF/\0=r1)))->J1 b1)->
((p3 !=((getA p0.wF p1).wY))=true->
J1 true)/\
((p3 !=((getA p0.wF p1).wY))=false->
J1 (p3==18446744073709551615))))<|by
 rintro p0 p1 p2 p3 h _ rfl _ rfl;obtain⟨h,⟨ha,ha'⟩,hn,hn'⟩:=h;obtain⟨g1,g2⟩:=getA_ok h p1;refine⟨⟨h.1,by have:=h.2.1;omega⟩,fun hh=> ?_,fun hh J1 j=> ?_⟩
 ·have:p2=0:=by simpa using hh
  simp[debitA,this]
 have h0:p2≠0:=by simpa using hh
 have key:∀b:Bool,(b=true↔(p3≠(getA p0.wF p1).wY∨p3=18446744073709551615))->J1 b:=by
  intro b hb;refine j _ ⟨fun e=> ?_,fun e=> ?_⟩
  ·simp only[debitA,qf h0,qh (hb.1 e)];exact⟨by first|exact rfl|exact qm,by first|exact rfl|exact qm⟩
  ·have h1:¬(p3≠(getA p0.wF p1).wY∨p3=18446744073709551615):=fun hh=>by rw[hb.2 hh]at e;cases e
   simp only[debitA,qf h0,qf h1];refine⟨fun hh=> ?_,fun hh=> ?_⟩
   ·have:=qb hh;simp[this]
   ·have h2:=qc hh;simp only[qf h2];have:p3≠18446744073709551615:=fun e=>h1 (.inr e);rw[wrap_u64 _ qqo qqo,wrap_u64 (p3+1) qqo qqo];exact⟨⟨h.1,h.2.1⟩,rfl,by first|exact rfl|exact qm⟩
 refine⟨fun e=>key _ ?_,fun e=>key _ ?_⟩
 ·have:p3≠(getA p0.wF p1).wY:=by simpa using e
  simp[this]
 ·have:p3=(getA p0.wF p1).wY:=by simpa using e
  rw[this];simp
noncomputable def k8p:Con TB.den:= .g (gk 223 [.one (.view 0),.one (zqu)] [.vec yqu] (.one (.one (zqi)))) [yqi,yqi,yqu,.sl yqu] [yqi,.sl yqu] [] fun(p0o p0n p1:Int) (w0:Li)=>(0<=p0o/\0<=p0n/\p0o.toNat+p0n.toNat<=w0.length/\w0.length<=1000000,(idxI ((w0.drop p0o.toNat).take p0n.toNat) p1:Int),w0,())
theorem kah:k8p.Ok Tryz.prog TB:=prv Bs Tryz.func223 (.r 0 (.nd [] (.r 0 (.lp [] ⟨[],[],[8],[.one (zqi)],[]⟩ .no)) [] .no)) c0 (Q:=∀(p0o p0n p1:Int) (w0:Li),(0<=p0o/\0<=p0n/\p0o.toNat+p0n.toNat<=w0.length/\w0.length<=1000000)->∀r0:Int,(idxI ((w0.drop p0o.toNat).take p0n.toNat) p1)=r0->∀e0:Li,w0=e0-> 
∃(I1:Int->Prop) (M1:Int->Nat),I1 0/\∀b1,(I1 b1->
(decide (b1<(p0n.toNat:Int))=true->
(0<=b1/\b1<(p0n.toNat:Int))/\(0<=((p0o.toNat:Int)+b1)/\((p0o.toNat:Int)+b1)<(w0.length:Int))/\((p1==(ix w0 ((p0o.toNat:Int)+b1)))=true->
b1=r0/\w0=e0)/\
((p1==(ix w0 ((p0o.toNat:Int)+b1)))=false->
I1 (i64.wrap (b1+1))/\M1 (i64.wrap (b1+1))<M1 b1))/\
(decide (b1<(p0n.toNat:Int))=false->
(-1)=r0/\w0=e0)))<|by
 rintro p0o p0n p1 w0 h _ rfl _ rfl;obtain⟨h0,h1,h2,h3⟩:=h;obtain⟨o,rfl⟩:=qo h0;obtain⟨n,rfl⟩:=qo h1;simp only[qu]at h2 ⊢;have hl:((w0.drop o).take n).length=n:=by simp;omega
 refine⟨(fun c=>∃i:Nat,c=(i:Int)/\i<=n/\p1∉((w0.drop o).take n).take i),(fun c=>(n-c).toNat),⟨0,rfl,by omega,by simp⟩,?_⟩;rintro _ ⟨i,rfl,hi,hm⟩;refine⟨fun e=> ?_,fun e=> ?_⟩
 ·have e:i<n:=by have:=qb e;omega
  have hw:o+i<w0.length:=by omega
  have hg:((w0.drop o).take n)[i]' qqo=w0[o+i]:=by simp
  have hx:ix w0 ((o:Int)+(i:Int))=w0[o+i]:=by rw[show(o:Int)+(i:Int)=((o+i:Nat):Int)by omega,ix_get _ _ hw]
  rw[hx];refine⟨by omega,by omega,fun e2=> ?_,fun e2=> ?_⟩
  ·have e2:p1=w0[o+i]:=by simpa using e2
   unfold idxI;rw[qh (by rw[e2,<-hg];exact qal _)]
   have:((w0.drop o).take n).idxOf p1=i:=by
    conv=>lhs;rw[<-qbq i ((w0.drop o).take n)]
    rw[List.idxOf_append,qf hm,qat (show i<((w0.drop o).take n).length by omega),hg,<-e2,List.idxOf_cons_self,qaa];omega
   rw[this];exact⟨rfl,trivial⟩
  ·have e2:¬p1=w0[o+i]:=by simpa using e2
   rw[inc_i64 _ qqo];refine⟨⟨i+1,rfl,by omega,?_⟩,by(dsimp only;omega)⟩;rw[qan (show i<((w0.drop o).take n).length by omega),hg];simp only[qac,qaf];exact fun hh=>hh.elim hm e2
 ·have e:i=n:=by have:=qc e;omega
  rw[qx qqo]at hm;unfold idxI;rw[qf hm];exact⟨rfl,trivial⟩
noncomputable def k60:Con TB.den:= .g (gk 162 [.one (.view 0),.one (zqu)] [.vec yqu] (.one (.one (.d (.bool))))) [yqi,yqi,yqu,.sl yqu] [.bool,.sl yqu] [] fun(p0o p0n p1:Int) (w0:Li)=>(0<=p0o/\0<=p0n/\p0o.toNat+p0n.toNat<=w0.length/\w0.length<=1000000,(decide (p1∈(w0.drop p0o.toNat).take p0n.toNat):Bool),w0,())
theorem k7h:k60.Ok Tryz.prog TB:=prv Bs Tryz.func162 .no (kah.c c0) (Q:=∀(p0o p0n p1:Int) (w0:Li),(0<=p0o/\0<=p0n/\p0o.toNat+p0n.toNat<=w0.length/\w0.length<=1000000)->∀r0:Bool,(decide (p1∈(w0.drop p0o.toNat).take p0n.toNat))=r0->∀e0:Li,w0=e0-> 
(0<=(p0o.toNat:Int)/\0<=(p0n.toNat:Int)/\(p0o.toNat:Int).toNat+(p0n.toNat:Int).toNat<=w0.length/\w0.length<=1000000)/\let r1:Int:=(idxI ((w0.drop (p0o.toNat:Int).toNat).take (p0n.toNat:Int).toNat) p1)
decide (0<=r1)=r0/\w0=e0)<|by
 rintro p0o p0n p1 w0 h _ rfl _ rfl;have h' :=h;obtain⟨h0,h1,h2,h3⟩:=h;obtain⟨o,rfl⟩:=qo h0;obtain⟨n,rfl⟩:=qo h1;refine⟨h',?_,rfl⟩;simp only[qu];unfold idxI;by_cases hm:p1∈(w0.drop o).take n
 ·simp[hm]
 ·simp[hm]
noncomputable def k87:Con TB.den:= .tp 135 [.st 2] [.bool] [] fun(p0:wZ)=>((vAmounts p0:Bool),())
theorem k9p:k87.Ok Tryz.prog TB:=qtv Bs Tryz.func135 .no c0 (Q:=∀(p0:wZ),∀r0:Bool,vAmounts p0=r0-> 
(decide (4294967295<p0.wQ)=true->
false=r0)/\
(decide (4294967295<p0.wQ)=false->
(decide (4294967295<p0.wT)=true->
false=r0)/\
(decide (4294967295<p0.wT)=false->
(decide (4294967295<p0.Fee)=true->
false=r0)/\
(decide (4294967295<p0.Fee)=false->
let v1:Bool:=decide (18446744069414584321<=p0.wX)
(v1=true->
false=r0)/\
(v1=false->
(decide (18446744069414584321<=p0.wY)=true->
false=r0)/\
(decide (18446744069414584321<=p0.wY)=false->
(decide (0<p0.wQ)=true->
(p0.wT==0)=r0)/\
(decide (0<p0.wQ)=false->
(((p0.wJ.length:Int)==0)=true->
false=r0)/\
(((p0.wJ.length:Int)==0)=false->
((p0.wY !=0)=true->
false=r0)/\
((p0.wY !=0)=false->
(decide (0<p0.wT)=true->
true=r0)/\
(decide (0<p0.wT)=false->
(p0.wX==0)=r0))))))))))<|by
 rintro p0 _ rfl;refine ?_;unfold vAmounts
 try simp only[]
 repeat' (apply qt<;>intro h)
 all_goals simp only[qae,decide_eq_false_iff_not,beq_iff_eq,bne_iff_ne,Bool.not_eq_true,beq_eq_false_iff_ne,bne_eq_false_iff_eq,List.isEmpty_iff,Int.natCast_eq_zero,qdl]at *
 all_goals simp[*]
 all_goals grind
noncomputable def kbk:Con TB.den:= .gp 223 [.sl yqu,yqu] [yqi] [] fun(p0:Li) (p1:Int)=>(p0.length<=9223372036854775807,(idxI p0 p1:Int),())
theorem kfb:kbk.Ok Tryz.prog TB:=qrv Bs Tryz.func223 (.r 0 (.nd [] (.r 0 (.lp [] ⟨[],[],[8],[.one (zqi)],[]⟩ .no)) [] .no)) c0 (Q:=∀(p0:Li) (p1:Int),(p0.length<=9223372036854775807)->∀r0:Int,idxI p0 p1=r0-> 
∃(I1:Int->Prop) (M1:Int->Nat),I1 0/\∀b1,(I1 b1->
(decide (b1<(p0.length:Int))=true->
(0<=b1)/\b1<(p0.length:Int)/\((p1==(ix p0 b1))=true->
b1=r0)/\
((p1==(ix p0 b1))=false->
I1 (i64.wrap (b1+1))/\M1 (i64.wrap (b1+1))<M1 b1))/\
(decide (b1<(p0.length:Int))=false->
(-1)=r0)))<|by
 rintro p0 p1 h _ rfl;refine(⟨(fun i=>0<=i/\i<=p0.length/\p1∉p0.take i.toNat),(fun i=>(p0.length-i).toNat),⟨by omega,by omega,by simp⟩,?_⟩);rintro i ⟨g0,g1,g2⟩;refine⟨fun h=> ?_,fun h=> ?_⟩
 ·have h:=qb h;refine⟨g0,h,fun e=> ?_,fun e=> ?_⟩
  ·have e:p1=ix p0 i:=by simpa using e
   unfold idxI;rw[qh (by rw[e];exact ix_mem p0 i g0 h)]
   have:p0.idxOf p1=i.toNat:=by
    conv=>lhs;rw[<-qbq i.toNat p0]
    rw[List.idxOf_append,qf g2,drop_ix p0 i g0 h,<-e,List.idxOf_cons_self,qaa];omega
   rw[this];omega
  ·have e:¬p1=ix p0 i:=by simpa using e
   rw[inc i p0.length g0 h qqo];refine⟨⟨by omega,by omega,?_⟩,by(dsimp only;omega)⟩;rw[ke p0 i g0 h];simp only[qac,qaf];exact fun hh=>hh.elim g2 e
 ·have h:=qc h;rw[qx qqo]at g2;unfold idxI;rw[qf g2]
noncomputable def k8l:Con TB.den:= .gp 162 [.sl yqu,yqu] [.bool] [] fun(p0:Li) (p1:Int)=>(p0.length<=9223372036854775807,(decide (p1∈p0):Bool),())
theorem k91:k8l.Ok Tryz.prog TB:=qrv Bs Tryz.func162 .no (kfb.c c0) (Q:=∀(p0:Li) (p1:Int),(p0.length<=9223372036854775807)->∀r0:Bool,(decide (p1∈p0))=r0-> 
(p0.length<=9223372036854775807)/\decide (0<=(idxI p0 p1))=r0)<|by
 rintro p0 p1 h _ rfl;refine⟨h,?_⟩;unfold idxI;by_cases hm:p1∈p0
 ·simp[hm]
 ·simp[hm]
noncomputable def kau:Con TB.den:= .tp 133 [.sl yqu] [.bool] [] fun(p0:Li)=>((vMarks p0:Bool),())
theorem kby:kau.Ok Tryz.prog TB:=qtv Bs Tryz.func133 (.r 1 (.nd [] (.r 0 (.lp [] ⟨[],[],[10],[.one (zqi)],[]⟩ .no)) [] .no)) (k91.c c0) (Q:=∀(p0:Li),∀r0:Bool,vMarks p0=r0-> 
(decide (4<(p0.length:Int))=true->
false=r0)/\
(decide (4<(p0.length:Int))=false->
∃(I1:Int->Prop) (M1:Int->Nat),I1 0/\∀b1,(I1 b1->
(decide (b1<(p0.length:Int))=true->
(0<=b1)/\b1<(p0.length:Int)/\let v1:Bool:=decide (18446744069414584321<=(ix p0 b1))
(v1=true->
false=r0)/\
(v1=false->
(0<=b1)/\b1<=(p0.length:Int)/\((p0.take b1.toNat).length<=9223372036854775807)/\let r2:Bool:=(decide ((ix p0 b1)∈(p0.take b1.toNat)))
(r2=true->
false=r0)/\
(r2=false->
I1 (i64.wrap (b1+1))/\M1 (i64.wrap (b1+1))<M1 b1)))/\
(decide (b1<(p0.length:Int))=false->
true=r0))))<|by
 rintro p0 _ rfl;refine⟨fun h=> ?_,fun h=> ?_⟩
 ·have h:=qb h;unfold vMarks;rw[qby qqo];rfl
 ·have h:=qc h;refine⟨(fun i=>0<=i/\i<=p0.length/\(∀x∈p0.take i.toNat,x<18446744069414584321)/\(p0.take i.toNat).Nodup),(fun i=>(p0.length-i).toNat),⟨by omega,by omega,by simp,by simp⟩,?_⟩;rintro i ⟨g0,g1,g2,g3⟩;refine⟨fun hh=> ?_,fun hh=> ?_⟩
  ·have hh:=qb hh;have hm:=ix_mem p0 i g0 hh;refine⟨g0,hh,fun e=> ?_,fun e=>⟨g0,by omega,by simp;omega,fun e2=> ?_,fun e2=> ?_⟩⟩
   ·have e:=qb e;unfold vMarks;have:p0.all (fun x=>decide (x<18446744069414584321))=false:=qcl.2 ⟨_,hm,by simp;omega⟩;rw[this];simp
   ·have e2:=qb e2;unfold vMarks;have:¬p0.Nodup:=by intro hn;rw[<-qbq i.toNat p0,drop_ix p0 i g0 hh]at hn;have:=(qbz.1 hn).2.2 _ e2 _ (qfc ..);exact this rfl
    rw[qby this];simp
   ·have e:=qc e;have e2:=qc e2;rw[inc i p0.length g0 hh qqo];refine⟨⟨by omega,by omega,?_,?_⟩,by(dsimp only;omega)⟩
    ·rw[ke p0 i g0 hh];intro x hx;rcases qac.1 hx with hx|hx
     ·exact g2 x hx
     ·have:x=ix p0 i:=by simpa using hx
      omega
    ·rw[ke p0 i g0 hh];refine qbz.2 ⟨g3,by simp,fun a ha b hb=> ?_⟩;have:b=ix p0 i:=by simpa using hb
     rintro rfl;exact e2 (this▸ha)
  ·have hh:=qc hh;rw[qx qqo]at g2 g3;unfold vMarks;have:p0.all (fun x=>decide (x<18446744069414584321))=true:=by simpa using g2
   rw[this,qbr g3,qbr qqo];rfl
noncomputable def kes:Con TB.den:= .tp 185 [.st 12] [.bool] [] fun(p0:wAO)=>((vPoint p0.a0 p0.a1:Bool),())
theorem kg0:kes.Ok Tryz.prog TB:=qtv Bs Tryz.func185 .no c0 (Q:=∀(p0:wAO),∀r0:Bool,vPoint p0.a0 p0.a1=r0-> 
(decide (p0.a0<18446744069414584321)=true->
(decide (p0.a1<18446744069414584321)=true->
((p0.a0 !=0)=true->
true=r0)/\
((p0.a0 !=0)=false->
(p0.a1 !=0)=r0))/\
(decide (p0.a1<18446744069414584321)=false->
false=r0))/\
(decide (p0.a0<18446744069414584321)=false->
false=r0))<|by rintro p0 _ rfl;refine ?_;unfold vPoint;refine⟨fun h=>⟨fun h1=>⟨fun h2=> ?_,fun h2=> ?_⟩,fun h1=> ?_⟩,fun h=> ?_⟩<;>simp_all<;>omega
noncomputable def kcr:Con TB.den:= .tp 134 [.sl (.st 1)] [.bool] [] fun(p0:List wAc)=>((vOuts p0:Bool),())
theorem kdm:kcr.Ok Tryz.prog TB:=qtv Bs Tryz.func134 (.r 1 (.nd [] (.r 0 (.lp [] ⟨[],[],[12],[.one (zqi)],[]⟩ (.r 1 (.nd [] (.r 2 (.lp [] ⟨[],[],[34],[.one (zqi)],[]⟩ .no)) [] .no)))) [] .no)) (kg0.c c0) (Q:=∀(p0:List wAc),∀r0:Bool,vOuts p0=r0-> 
(decide (4<(p0.length:Int))=true->
false=r0)/\
(decide (4<(p0.length:Int))=false->
∃(I1:Int->Prop) (M1:Int->Nat),I1 0/\∀b1,(I1 b1->
(decide (b1<(p0.length:Int))=true->
(0<=b1)/\b1<(p0.length:Int)/\let v1:Bool:=decide (18446744069414584321<=((ix p0 b1).wg))
(v1=true->
false=r0)/\
(v1=false->
let r2:Bool:=(vPoint (wAO.mk ((ix p0 b1).wAi) ((ix p0 b1).wAd)).a0 (wAO.mk ((ix p0 b1).wAi) ((ix p0 b1).wAd)).a1)
((!r2)=true->
false=r0)/\
((!r2)=false->
let v3:Bool:=((((ix p0 b1).wAB).length:Int) !=3)
(v3=true->
false=r0)/\
(v3=false->
∃(I2:Int->Prop) (M2:Int->Nat),I2 0/\∀f1,(I2 f1->
let v4:Bool:=decide (f1<(((ix p0 b1).wAB).length:Int))
(v4=true->
(0<=f1)/\f1<(((ix p0 b1).wAB).length:Int)/\let v5:Bool:=decide (18446744069414584321<=(ix ((ix p0 b1).wAB) f1))
(v5=true->
false=r0)/\
(v5=false->
I2 (i64.wrap (f1+1))/\M2 (i64.wrap (f1+1))<M2 f1))/\
(v4=false->
I1 (i64.wrap (b1+1))/\M1 (i64.wrap (b1+1))<M1 b1))))))/\
(decide (b1<(p0.length:Int))=false->
true=r0))))<|by
 rintro p0 _ rfl;refine⟨fun h=> ?_,fun h=> ?_⟩
 ·have h:=qb h;unfold vOuts;rw[qby qqo];rfl
 ·have h:=qc h;have bad:∀i,0<=i->i<(p0.length:Int)->vOut (ix p0 i)=false->false=vOuts p0:=by intro i h0 h1 hb;unfold vOuts;have:p0.all vOut=false:=qcl.2 ⟨_,ix_mem p0 i h0 h1,by simp[hb]⟩;rw[this];simp
  refine⟨(fun i=>0<=i/\i<=p0.length/\∀x∈p0.take i.toNat,vOut x=true),(fun i=>(p0.length-i).toNat),⟨by omega,by omega,by simp⟩,?_⟩;rintro i ⟨g0,g1,g2⟩;refine⟨fun hh=> ?_,fun hh=> ?_⟩
  ·have hh:=qb hh;have bd:=bad i g0 hh;unfold vOut at bd;refine⟨g0,hh,fun e=>bd ?_,fun e=>⟨fun e2=>bd ?_,fun e2=>⟨fun e3=>bd ?_,fun e3=> ?_⟩⟩⟩
   ·have e:=qb e;rw[qby qqo];rfl
   ·have e2:vPoint (ix p0 i).wAi (ix p0 i).wAd=false:=by simpa using e2
    simp[e2]
   ·have e3:¬(ix p0 i).wAB.length=3:=by
     have:¬((ix p0 i).wAB.length:Int)=3:=by simpa using e3
     omega
    simp[e3]
   ·have e:=qc e;have e2:vPoint (ix p0 i).wAi (ix p0 i).wAd=true:=by simpa using e2
    have e3:(ix p0 i).wAB.length=3:=by
     have:((ix p0 i).wAB.length:Int)=3:=by simpa using e3
     omega
    refine⟨(fun k=>0<=k/\k<=3/\∀x∈(ix p0 i).wAB.take k.toNat,x<18446744069414584321),(fun k=>(3-k).toNat),⟨by omega,by omega,by simp⟩,?_⟩;rintro k ⟨k0,k1,k2⟩;refine⟨fun hk=> ?_,fun hk=> ?_⟩
    ·have hk:=qb hk;refine⟨k0,hk,fun e4=>bd ?_,fun e4=> ?_⟩
     ·have e4:=qb e4;have:(ix p0 i).wAB.all (fun n=>decide (n<18446744069414584321))=false:=qcl.2 ⟨_,ix_mem _ k k0 hk,by simp;omega⟩;rw[this];simp
     ·have e4:=qc e4;rw[inc k 3 k0 qqo qqo];refine⟨⟨by omega,by omega,?_⟩,by(dsimp only;omega)⟩;rw[ke _ k k0 hk];intro x hx;rcases qac.1 hx with hx|hx
      ·exact k2 x hx
      ·have:x=ix (ix p0 i).wAB k:=by simpa using hx
       omega
    ·have hk:=qc hk;rw[qx qqo]at k2;have hv:vOut (ix p0 i)=true:=(kcg _).2 ⟨by omega,e2,e3,k2⟩;have hi:=inc i p0.length g0 hh qqo;rw[hi]
     have nxt:(0<=i+1/\i+1<=p0.length/\∀x∈p0.take (i+1).toNat,vOut x=true)/\(p0.length-(i+1)).toNat<(p0.length-i).toNat:=by
      refine⟨⟨by omega,by omega,?_⟩,by(first|omega|(dsimp only;omega))⟩;rw[ke p0 i g0 hh];intro x hx;rcases qac.1 hx with hx|hx
      ·exact g2 x hx
      ·have:x=ix p0 i:=by simpa using hx
       rw[this];exact hv
     exact nxt
  ·have hh:=qc hh;rw[qx qqo]at g2;unfold vOuts;have:p0.all vOut=true:=by simpa using g2
   rw[this,qbr qqo];rfl
noncomputable def kk4:Con TB.den:= .tp 91 [.st 2] [yqi] [] fun(p0:wZ)=>((validE p0:Int),())
theorem k1n:kk4.Ok Tryz.prog TB:=qtv Bs Tryz.func91 .no (kby.c (kdm.c (k9p.c c0))) (Q:=∀(p0:wZ),∀r0:Int,validE p0=r0-> 
((!(vMarks p0.wJ))=true->
1=r0)/\
((!(vMarks p0.wJ))=false->
((!(vOuts p0.wD))=true->
1=r0)/\
((!(vOuts p0.wD))=false->
((!(vAmounts p0))=true->
1=r0)/\
((!(vAmounts p0))=false->
let v1:Bool:=decide (18446744069414584321<=p0.wa)
(v1=true->
1=r0)/\
(v1=false->
(decide (p0.wAf<0)=true->
1=r0)/\
(decide (p0.wAf<0)=false->
(decide (1048576<p0.wAf)=true->
1=r0)/\
(decide (1048576<p0.wAf)=false->
let v2:Bool:=decide (1048576<(p0.wv.length:Int))
(v2=true->
3=r0)/\
(v2=false->
0=r0))))))))<|by rintro p0 _ rfl;refine ?_;unfold validE vRest;grind
noncomputable def keu:Con TB.den:= .g (gk 110 [.one (.ptr 0 0),.agg yE1] yM (.one (.one (zqi)))) [.st 2,yqi,yqi,yqi,yqi,yqi,yqu,yqi,yqi,yqu,yqi,yqi,.sl yqu,.sl (.st 9),yqu,.sl yqu,.sl yqu,.sl (.st 10),.sl yqu,.sl (.bool)] yP [] fun(p1:wZ) (Ad Aa Ae Ab Am Ao Ag Aj Ah Ai Ak:Int) (Ac:Li) (Af:List wA) (Al:Int) (w1 w3:Li) (w4:List wK) (w5k:Li) (w5v:Lo)=>((∃(c:Nat) (f:Int),c<=800/\PI (PS.mk (wE.mk Ad Aa Ae Ab Am Ao Ag Aj Ah) (wG.mk Ai Ak Ac) Af Al w1 w3 w4 w5k w5v) c f)/\TR p1,(chkS (PS.mk (wE.mk Ad Aa Ae Ab Am Ao Ag Aj Ah) (wG.mk Ai Ak Ac) Af Al w1 w3 w4 w5k w5v) p1:Int),Ad,Aa,Ae,Ab,Am,Ao,Ag,Aj,Ah,Ai,Ak,Ac,Af,Al,w1,w3,w4,w5k,w5v,())
theorem kfk:keu.Ok Tryz.prog TB:=prv Bs Tryz.func110 (.r 3 (.nd [] (.r 0 (.lp [] ⟨[5,2],[.map yqu (.bool),.cells [.mp 0]],[33],[.one (zqi)],[]⟩ .no)) [] (.jn ⟨[],[],[],[],[]⟩ [] .no [] .no))) (k1n.c (kc6.c (k7h.c (kmr.c (k5c.c c0))))) (Q:=∀(p1:wZ) (Ad Aa Ae Ab Am Ao Ag Aj Ah Ai Ak:Int) (Ac:Li) (Af:List wA) (Al:Int) (w1 w3:Li) (w4:List wK) (w5k:Li) (w5v:Lo),((∃(c:Nat) (f:Int),c<=800/\PI (PS.mk (wE.mk Ad Aa Ae Ab Am Ao Ag Aj Ah) (wG.mk Ai Ak Ac) Af Al w1 w3 w4 w5k w5v) c f)/\TR p1)->∀r0:Int,(chkS (PS.mk (wE.mk Ad Aa Ae Ab Am Ao Ag Aj Ah) (wG.mk Ai Ak Ac) Af Al w1 w3 w4 w5k w5v) p1)=r0->∀Ay:Int,Ad=Ay->∀Aq:Int,Aa=Aq->∀Aw:Int,Ae=Aw->∀Ax:Int,Ab=Ax->∀B0:Int,Am=B0->∀B1:Int,Ao=B1->∀Bl:Int,Ag=Bl->∀Bm:Int,Aj=Bm->∀Bn:Int,Ah=Bn->∀Bo:Int,Ai=Bo->∀Bp:Int,Ak=Bp->∀A9:Li,Ac=A9->∀Ba:List wA,Af=Ba->∀Bq:Int,Al=Bq->∀e1:Li,w1=e1->∀e3:Li,w3=e3->∀e4:List wK,w4=e4->∀e5k:Li,w5k=e5k->∀e5v:Lo,w5v=e5v-> 
(((validE p1) !=0)=true->
lz w4/\lz w3/\lz w1/\(validE p1)=r0/\Ad=Ay/\Aa=Aq/\Ae=Aw/\Ab=Ax/\Am=B0/\Ao=B1/\Ag=Bl/\Aj=Bm/\Ah=Bn/\Ai=Bo/\Ak=Bp/\Ac=A9/\Af=Ba/\Al=Bq/\w1=e1/\w3=e3/\w4=e4/\w5k=e5k/\w5v=e5v)/\
(((validE p1) !=0)=false->
let v1:Bool:=decide (p1.wAf<(i64.wrap ((w4.length:Int)+1)))
(v1=true->
lz w4/\lz w3/\lz w1/\14=r0/\Ad=Ay/\Aa=Aq/\Ae=Aw/\Ab=Ax/\Am=B0/\Ao=B1/\Ag=Bl/\Aj=Bm/\Ah=Bn/\Ai=Bo/\Ak=Bp/\Ac=A9/\Af=Ba/\Al=Bq/\w1=e1/\w3=e3/\w4=e4/\w5k=e5k/\w5v=e5v)/\
(v1=false->
lz w4/\lz w3/\lz w1/\((1<=Ag/\Ag<=100)/\w3.length<=1000000)/\let r2:Int:=((w3.length-(w3.length-Ag.toNat):Nat):Int)
(0<=((((w3.length-Ag.toNat:Nat):Int).toNat:Nat):Int)/\0<=(r2.toNat:Int)/\((((w3.length-Ag.toNat:Nat):Int).toNat:Nat):Int).toNat+(r2.toNat:Int).toNat<=w3.length/\w3.length<=1000000)/\let r3:Bool:=(decide (p1.wa∈(w3.drop ((((w3.length-Ag.toNat:Nat):Int).toNat:Nat):Int).toNat).take (r2.toNat:Int).toNat))
((!r3)=true->
lz w4/\lz w3/\lz w1/\11=r0/\Ad=Ay/\Aa=Aq/\Ae=Aw/\Ab=Ax/\Am=B0/\Ao=B1/\Ag=Bl/\Aj=Bm/\Ah=Bn/\Ai=Bo/\Ak=Bp/\Ac=A9/\Af=Ba/\Al=Bq/\w1=e1/\w3=e3/\w4=e4/\w5k=e5k/\w5v=e5v)/\
((!r3)=false->
∃(I1:Int->(Li)->(Lo)->Prop) (M1:Int->(Li)->(Lo)->Nat),I1 0 w5k w5v/\∀b1 f1 i1,(I1 b1 f1 i1->
(decide (b1<(p1.wJ.length:Int))=true->
(0<=b1)/\b1<(p1.wJ.length:Int)/\(i1=trs f1)/\((decide ((ix p1.wJ b1)∈f1))=true->
lz w4/\lz w3/\lz w1/\12=r0/\Ad=Ay/\Aa=Aq/\Ae=Aw/\Ab=Ax/\Am=B0/\Ao=B1/\Ag=Bl/\Aj=Bm/\Ah=Bn/\Ai=Bo/\Ak=Bp/\Ac=A9/\Af=Ba/\Al=Bq/\w1=e1/\w3=e3/\w4=e4/\f1=e5k/\i1=e5v)/\
((decide ((ix p1.wJ b1)∈f1))=false->
I1 (i64.wrap (b1+1)) f1 i1/\M1 (i64.wrap (b1+1)) f1 i1<M1 b1 f1 i1))/\
(decide (b1<(p1.wJ.length:Int))=false->
∀J1:Prop,((let v5:Bool:=decide ((u64.wrap (Al+p1.wQ))<(u64.wrap (p1.wT+p1.Fee)))
(v5=true->
lz w4/\lz w3/\lz w1/\13=r0/\Ad=Ay/\Aa=Aq/\Ae=Aw/\Ab=Ax/\Am=B0/\Ao=B1/\Ag=Bl/\Aj=Bm/\Ah=Bn/\Ai=Bo/\Ak=Bp/\Ac=A9/\Af=Ba/\Al=Bq/\w1=e1/\w3=e3/\w4=e4/\f1=e5k/\i1=e5v)/\
(v5=false->
let v6:Int:=i64.wrap ((w1.length:Int)+(p1.wD.length:Int))
(0<=Aa)/\(decide ((ishl .i64 1 Aa)<v6)=true->
lz w4/\lz w3/\lz w1/\16=r0/\Ad=Ay/\Aa=Aq/\Ae=Aw/\Ab=Ax/\Am=B0/\Ao=B1/\Ag=Bl/\Aj=Bm/\Ah=Bn/\Ai=Bo/\Ak=Bp/\Ac=A9/\Af=Ba/\Al=Bq/\w1=e1/\w3=e3/\w4=e4/\f1=e5k/\i1=e5v)/\
(decide ((ishl .i64 1 Aa)<v6)=false->
lz w4/\lz w3/\lz w1/\0=r0/\Ad=Ay/\Aa=Aq/\Ae=Aw/\Ab=Ax/\Am=B0/\Ao=B1/\Ag=Bl/\Aj=Bm/\Ah=Bn/\Ai=Bo/\Ak=Bp/\Ac=A9/\Af=Ba/\Al=Bq/\w1=e1/\w3=e3/\w4=e4/\f1=e5k/\i1=e5v)))->J1)->
(decide (0<p1.wQ)=true->
(OkA (wt.mk Af).wF/\U64 p1.wQ/\U64 p1.wY)/\let r4:=debitA (wt.mk Af).wF p1.wX p1.wQ p1.wY
((r4.2 !=0)=true->
lz w4/\lz w3/\lz w1/\r4.2=r0/\Ad=Ay/\Aa=Aq/\Ae=Aw/\Ab=Ax/\Am=B0/\Ao=B1/\Ag=Bl/\Aj=Bm/\Ah=Bn/\Ai=Bo/\Ak=Bp/\Ac=A9/\Af=Ba/\Al=Bq/\w1=e1/\w3=e3/\w4=e4/\f1=e5k/\i1=e5v)/\
((r4.2 !=0)=false->
J1))/\
(decide (0<p1.wQ)=false->
J1)))))))<|by
 rintro p1 Ad Aa Ae Ab Am Ao Ag Aj Ah Ai Ak Ac Af Al w1 w3 w4 w5k w5v h;repeat rintro _ rfl
 obtain⟨⟨c,f,hc,hp⟩,ht⟩:=h;have hb:OkA Af:=hp.b.1;have hv:w5v=trs w5k:=hp.v;have h1:1<=Ag:=hp.w1;have h2:Ag<=100:=hp.w2;have hd1:1<=Aa:=hp.d1;have hd2:Aa<=12:=hp.d2;have hrl:w3.length=w4.length+1:=hp.rl;have hpl:w4.length<=c:=hp.p;have hll:w1.length<=2^Aa.toNat:=hp.ll;have hp12:=pow12 Aa.toNat qqo;generalize hR0:chkS (PS.mk (wE.mk Ad Aa Ae Ab Am Ao Ag Aj Ah) (wG.mk Ai Ak Ac) Af Al w1 w3 w4 w5k w5v) p1=R;have hR:chk (w4.length:Int) (ancL w3 Ag) w5k Af Al w1.length Aa p1=R:=hR0;clear hR0;unfold chk at hR;refine⟨fun e=> ?_,fun e=> ?_⟩
 ·have e:validE p1≠0:=by simpa using e
  rw[qh e]at hR;subst hR;exact(by repeat' first|apply qt|exact rfl|exact qm)
 have e:validE p1=0:=by simpa using e
 have vt:=(k12 p1).1 e;have hol:=vt.ol;have hml:=vt.ml;rw[qf (by rw[e];decide)]at hR;have ei:i64.wrap ((w4.length:Int)+1)=(w4.length:Int)+1:=ko _ qqo qqo;rw[ei];refine⟨fun e2=> ?_,fun e2=>⟨rfl,rfl,rfl,⟨⟨h1,h2⟩,by omega⟩,?_⟩⟩
 ·rw[qh (qb e2)]at hR;subst hR;exact(by repeat' first|apply qt|exact rfl|exact qm)
 rw[qf (qc e2)]at hR;have eA:(w3.drop (w3.length-Ag.toNat)).take (w3.length-(w3.length-Ag.toNat))=ancL w3 Ag:=by unfold ancL;exact qx (by rw[qbd];omega)
 simp only[qu,eA];refine⟨⟨by omega,by omega,by omega,by omega⟩,fun e3=> ?_,fun e3=> ?_⟩
 ·have e3:p1.wa∉ancL w3 Ag:=by simpa using e3
  rw[qh e3]at hR;subst hR;exact(by repeat' first|apply qt|exact rfl|exact qm)
 have e3:¬p1.wa∉ancL w3 Ag:=by simpa using e3
 rw[qf e3]at hR;refine⟨fun a k v=>(w5k=k/\w5v=v)/\∃i:Nat,a=(i:Int)/\i<=p1.wJ.length/\((p1.wJ.take i).any fun m=>decide (m∈w5k))=false,fun a _ _=>(p1.wJ.length-a).toNat,⟨⟨rfl,rfl⟩,0,rfl,by omega,rfl⟩,?_⟩;rintro _ _ _ ⟨⟨rfl,rfl⟩,i,rfl,hi,hm⟩;refine⟨fun e4=> ?_,fun e4 J1 j=> ?_⟩
 ·have e4:i<p1.wJ.length:=by have:=qb e4;omega
  rw[ix_get _ _ e4,inc_i64 _ qqo];refine⟨by omega,by omega,hv,fun e5=> ?_,fun e5=>⟨⟨⟨rfl,rfl⟩,i+1,rfl,by omega,?_⟩,by(dsimp only;omega)⟩⟩
  ·rw[qh (List.any_eq_true.2 ⟨_,qal e4,e5⟩)]at hR;subst hR;exact(by repeat' first|apply qt|exact rfl|exact qm)
  ·rw[qan e4,List.any_append,hm,List.any_cons,e5];rfl
 ·have e4:i=p1.wJ.length:=by have:=qc e4;omega
  subst e4;rw[qco]at hm
  have j1:(p1.wJ.any fun m=>decide (m∈w5k))=false->¬(0<p1.wQ/\(debitA Af p1.wX p1.wQ p1.wY).2≠0)->J1:=by
   intro g1 g2;rw[qf (by rw[g1];decide),qf g2]at hR;refine j ⟨fun e4=> ?_,fun e4=>⟨by omega,?_⟩⟩
   ·rw[qh (qb e4)]at hR;subst hR;exact(by repeat' first|apply qt|exact rfl|exact qm)
   ·rw[qf (qc e4)]at hR;obtain⟨d,hd⟩:=qo (show 0<=Aa by omega);have hdn:Aa.toNat=d:=by omega
    rw[hdn]at hR hp12 hll;rw[ko _ qqo qqo,show ishl .i64 1 Aa=((2^d:Nat):Int)by rw[hd];exact shl1 d qqo];refine⟨fun e5=> ?_,fun e5=> ?_⟩
    ·rw[qh (by have:=qb e5;omega)]at hR;subst hR;exact(by repeat' first|apply qt|exact rfl|exact qm)
    ·rw[qf (by have:=qc e5;omega)]at hR;subst hR;exact(by repeat' first|apply qt|exact rfl|exact qm)
  refine⟨fun e5=>⟨⟨hb,ht.d,ht.n⟩,fun e6=> ?_,fun e6=>j1 hm ?_⟩,fun e5=>j1 hm ?_⟩
  ·have e5:=qb e5;have e6:(debitA Af p1.wX p1.wQ p1.wY).2≠0:=by simpa using e6
   rw[qf (by rw[hm];decide),qh ⟨e5,e6⟩]at hR;subst hR;exact(by repeat' first|apply qt|exact rfl|exact qm)
  ·have e6:(debitA Af p1.wX p1.wQ p1.wY).2=0:=by simpa using e6
   exact fun hh=>hh.2 e6
  ·have e5:=qc e5;exact fun hh=>e5 hh.1
noncomputable def kk1:Con TB.den:= .g (gk 170 [.one (.ptr 0 0),.one (zql),.one (.d (.bool))] yO1 (.one (.one (.d (.bool))))) [.sl yqu,.bool,.sl yqu,.sl (.bool)] [.bool,.sl yqu,.sl (.bool)] [] fun(p1:Li) (p2:Bool) (w1k:Li) (w1v:Lo)=>(w1v=trs w1k/\p1.length<=1000000,(p1.any (fun m=>decide (m∈w1k)==p2):Bool),w1k,w1v,())
theorem kb4:kk1.Ok Tryz.prog TB:=prv Bs Tryz.func170 (.r 0 (.nd [] (.r 0 (.lp [] ⟨[],[],[11],[.one (zqi)],[]⟩ .no)) [] .no)) c0 (Q:=∀(p1:Li) (p2:Bool) (w1k:Li) (w1v:Lo),(w1v=trs w1k/\p1.length<=1000000)->∀r0:Bool,(p1.any (fun m=>decide (m∈w1k)==p2))=r0->∀e1k:Li,w1k=e1k->∀e1v:Lo,w1v=e1v-> 
∃(I1:Int->Prop) (M1:Int->Nat),I1 0/\∀b1,(I1 b1->
(decide (b1<(p1.length:Int))=true->
(0<=b1)/\b1<(p1.length:Int)/\w1k.length=w1v.length/\let v1:Bool:=mVal (BEq.beq (ix p1 b1)) w1k w1v false
((v1==p2)=true->
true=r0/\w1k=e1k/\w1v=e1v)/\
((v1==p2)=false->
I1 (i64.wrap (b1+1))/\M1 (i64.wrap (b1+1))<M1 b1))/\
(decide (b1<(p1.length:Int))=false->
false=r0/\w1k=e1k/\w1v=e1v)))<|by
 rintro p1 p2 w1k w1v h _ rfl _ rfl _ rfl;obtain⟨h,hl⟩:=h;subst h;refine(⟨(fun a=>∃i:Nat,a=(i:Int)/\i<=p1.length/\(p1.drop i).any (fun m=>decide (m∈w1k)==p2)=p1.any (fun m=>decide (m∈w1k)==p2)),(fun a=>(p1.length-a).toNat),⟨0,rfl,by omega,rfl⟩,?_⟩);rintro _ ⟨i,rfl,hi,he⟩;refine⟨fun e=> ?_,fun e=> ?_⟩
 ·have e:i<p1.length:=by have:=qb e;omega
  rw[ix_get _ _ e,sVal,inc_i64 _ qqo];rw[qat e,List.any_cons]at he;refine⟨by omega,by omega,by simp[trs],fun e2=> ?_,fun e2=> ?_⟩
  ·rw[e2,Bool.true_or]at he;rw[<-he];exact⟨rfl,rfl,rfl⟩
  ·rw[e2,qfj]at he;exact⟨⟨i+1,rfl,by omega,he⟩,by(dsimp only;omega)⟩
 ·have e:i=p1.length:=by have:=qc e;omega
  subst e;rw[qev]at he;rw[<-he];exact⟨rfl,rfl,rfl⟩
noncomputable def k79:Con TB.den:= .gp 171 [.sl yqu] [.bool] [] fun(p0:Li)=>(p0.length<=1000000,(!decide p0.Nodup:Bool),())
theorem k34:k79.Ok Tryz.prog TB:=qrv Bs Tryz.func171 (.r 1 (.nd [] (.r 0 (.lp [] ⟨[0],yS1,[9],[.one (zqi)],[]⟩ .no)) [] .no)) c0 (Q:=∀(p0:Li),(p0.length<=1000000)->∀r0:Bool,(!decide p0.Nodup)=r0-> 
∃(I1:Int->(Li)->(Lo)->Prop) (M1:Int->(Li)->(Lo)->Nat),I1 0 ([]:Li) ([]:Lo)/\∀b1 f1 i1,(I1 b1 f1 i1->
(decide (b1<(p0.length:Int))=true->
(0<=b1)/\b1<(p0.length:Int)/\f1.length=i1.length/\let v1:Bool:=mVal (BEq.beq (ix p0 b1)) f1 i1 false
(v1=true->
true=r0)/\
(v1=false->
f1.length=i1.length/\let v2:Li:=mPutK (BEq.beq (ix p0 b1)) f1 (ix p0 b1)
let v3:Lo:=mPutV (BEq.beq (ix p0 b1)) f1 i1 true
I1 (i64.wrap (b1+1)) v2 v3/\M1 (i64.wrap (b1+1)) v2 v3<M1 b1 f1 i1))/\
(decide (b1<(p0.length:Int))=false->
false=r0)))<|by
 rintro p0 h _ rfl;refine(⟨(fun a k v=>∃i:Nat,a=(i:Int)/\i<=p0.length/\k=p0.take i/\v=trs k/\k.Nodup),(fun a _ _=>(p0.length-a).toNat),⟨0,rfl,by omega,rfl,rfl,qep⟩,?_⟩);rintro _ _ _ ⟨i,rfl,hi,rfl,rfl,hn⟩;refine⟨fun e=> ?_,fun e=> ?_⟩
 ·have e:i<p0.length:=by have:=qb e;omega
  rw[ix_get _ _ e,sVal,inc_i64 _ qqo];refine⟨by omega,by omega,by simp[trs],fun e2=> ?_,fun e2=>⟨by simp[trs],?_⟩⟩
  ·have e2:=qb e2;have:¬p0.Nodup:=fun hh=>by rw[<-qbq i p0,qat e,qbz]at hh;exact hh.2.2 _ e2 p0[i] qfc rfl
   simp[this]
  ·have e2:=qc e2;obtain⟨q1,q2⟩:=sPut e2;rw[q1,q2,<-qan];refine⟨⟨i+1,rfl,by omega,rfl,rfl,?_⟩,by(dsimp only;omega)⟩;rw[qan e,qbz];exact⟨hn,by simp,fun a ha b hb=>by rw[qaf.1 hb];rintro rfl;exact e2 ha⟩
 ·have e:i=p0.length:=by have:=qc e;omega
  subst e;rw[qco]at hn;simp[hn]
noncomputable def klm:Con TB.den:= .g (gk 165 [.one (.ptr 0 0),.one (zql)] yO1 (.one (.one (zqi)))) [.sl yqu,.sl yqu,.sl (.bool)] [yqi,.sl yqu,.sl (.bool)] [] fun(p1 w1k:Li) (w1v:Lo)=>(w1v=trs w1k/\p1.length<=1000000,((addS p1 w1k).1:Int),((addS p1 w1k).2:Li),(trs (addS p1 w1k).2:Lo),())
theorem kn8:klm.Ok Tryz.prog TB:=prv Bs Tryz.func165 (.r 2 (.nd [] (.r 0 (.lp [] ⟨[1],yS1,[25],[.one (zqi)],[]⟩ .no)) [] .no)) (kb4.c (k34.c c0)) (Q:=∀(p1 w1k:Li) (w1v:Lo),(w1v=trs w1k/\p1.length<=1000000)->∀r0:Int,((addS p1 w1k).1)=r0->∀e1k:Li,((addS p1 w1k).2)=e1k->∀e1v:Lo,(trs (addS p1 w1k).2)=e1v-> 
(w1v=trs w1k/\p1.length<=1000000)/\let r1:Bool:=(p1.any (fun m=>decide (m∈w1k)==true))
(r1=true->
12=r0/\w1k=e1k/\w1v=e1v)/\
(r1=false->
(p1.length<=1000000)/\((!decide p1.Nodup)=true->
12=r0/\w1k=e1k/\w1v=e1v)/\
((!decide p1.Nodup)=false->
∃(I1:Int->(Li)->(Lo)->Prop) (M1:Int->(Li)->(Lo)->Nat),I1 0 w1k w1v/\∀b1 f1 i1,(I1 b1 f1 i1->
(decide (b1<(p1.length:Int))=true->
(0<=b1)/\b1<(p1.length:Int)/\f1.length=i1.length/\let v2:Li:=mPutK (BEq.beq (ix p1 b1)) f1 (ix p1 b1)
let v3:Lo:=mPutV (BEq.beq (ix p1 b1)) f1 i1 true
I1 (i64.wrap (b1+1)) v2 v3/\M1 (i64.wrap (b1+1)) v2 v3<M1 b1 f1 i1)/\
(decide (b1<(p1.length:Int))=false->
0=r0/\f1=e1k/\i1=e1v)))))<|by
 rintro p1 w1k w1v h _ rfl _ rfl _ rfl;obtain⟨h,hl⟩:=h;subst h;have ea:(p1.any fun m=>decide (m∈w1k)==true)=p1.any fun m=>decide (m∈w1k):=by congr 1;funext m;simp
 refine⟨⟨rfl,hl⟩,?_⟩;rw[ea];refine⟨fun e=> ?_,fun e=>⟨hl,fun e2=> ?_,fun e2=> ?_⟩⟩
 ·have:addS p1 w1k=(12,w1k):=by unfold addS;rw[e];rfl
  rw[this];exact⟨rfl,rfl,rfl⟩
 ·have:addS p1 w1k=(12,w1k):=by unfold addS;rw[e,e2];rfl
  rw[this];exact⟨rfl,rfl,rfl⟩
 ·have hA:addS p1 w1k=(0,w1k++p1):=by unfold addS;rw[e,e2];rfl
  have hn:p1.Nodup:=by simpa using e2
  rw[hA];refine⟨(fun a k v=>∃i:Nat,a=(i:Int)/\i<=p1.length/\k=w1k++p1.take i/\v=trs k),(fun a _ _=>(p1.length-a).toNat),⟨0,rfl,by omega,by simp,by simp⟩,?_⟩;rintro _ _ _ ⟨i,rfl,hi,rfl,rfl⟩;refine⟨fun e3=> ?_,fun e3=> ?_⟩
  ·have e3:i<p1.length:=by have:=qb e3;omega
   rw[ix_get _ _ e3,inc_i64 _ qqo]
   have hm:p1[i]∉w1k++p1.take i:=by
    intro hm;rcases qac.1 hm with hm|hm
    ·have:=List.any_eq_false.1 e p1[i] (qal e3);simp[hm]at this
    ·rw[<-qbq i p1,qat e3,qbz]at hn;exact hn.2.2 _ hm p1[i] qfc rfl
   obtain⟨q1,q2⟩:=sPut hm;rw[q1,q2];refine⟨by omega,by omega,by simp[trs],⟨i+1,rfl,by omega,?_,rfl⟩,by(dsimp only;omega)⟩;rw[qan e3,qw]
  ·have e3:i=p1.length:=by have:=qc e3;omega
   subst e3;rw[qco];exact⟨rfl,rfl,rfl⟩
noncomputable def k8m:Con TB.den:= .gp 107 [.st 6] [.bool] [] fun(p0:wG)=>(FV p0,true,())
theorem k3z:k8m.Ok Tryz.prog TB:=qrv Bs Tryz.func107 (.r 2 (.nd [] (.r 0 (.lp [] ⟨[],[],[36],[.one (zqi)],[]⟩ .no)) [] .no)) c0 (Q:=∀(p0:wG),(FV p0)->∀r0:Bool,(true:Bool)=r0-> 
(decide (p0.wC<1)=true->
false=r0)/\
(decide (p0.wC<1)=false->
(decide (12<p0.wC)=true->
false=r0)/\
(decide (12<p0.wC)=false->
(decide (p0.we<0)=true->
false=r0)/\
(decide (p0.we<0)=false->
(0<=p0.wC)/\let v1:Bool:=decide ((ishl .i64 1 p0.wC)<p0.we)
(v1=true->
false=r0)/\
(v1=false->
let v2:Bool:=((p0.wh.length:Int) !=(i64.wrap (p0.wC+1)))
(v2=true->
false=r0)/\
(v2=false->
∃(I1:Int->Prop) (M1:Int->Nat),I1 0/\∀b1,(I1 b1->
(decide (b1<(p0.wh.length:Int))=true->
(0<=b1)/\b1<(p0.wh.length:Int)/\let v3:Bool:=decide (18446744069414584321<=(ix p0.wh b1))
(v3=true->
false=r0)/\
(v3=false->
(((ix p0.wh b1) !=0)=true->
(0<=b1)/\let v4:Bool:=((iand .i64 (ishr .i64 p0.we b1) 1)==0)
(v4=true->
false=r0)/\
(v4=false->
I1 (i64.wrap (b1+1))/\M1 (i64.wrap (b1+1))<M1 b1))/\
(((ix p0.wh b1) !=0)=false->
I1 (i64.wrap (b1+1))/\M1 (i64.wrap (b1+1))<M1 b1)))/\
(decide (b1<(p0.wh.length:Int))=false->
true=r0))))))))<|by
 rintro p0 h _ rfl;obtain⟨d1,d2,c0,c1,ll,u,z⟩:=h;obtain⟨d,hd⟩:=qo (show 0<=p0.wC by omega);obtain⟨n,hn⟩:=qo c0;rw[hd,qu]at c1 ll;rw[hn,qu]at z;have hp:=pow12 d qqo;refine⟨fun e=>(by have:=qb e;omega),fun _=>⟨fun e=>(by have:=qb e;omega),fun _=>⟨fun e=>(by have:=qb e;omega),fun _=>⟨by omega,?_⟩⟩⟩⟩;rw[hd,hn,shl1 d qqo,ko _ qqo qqo];refine⟨fun e=>(by have:=qb e;omega),fun _=>⟨fun e=> ?_,fun _=> ?_⟩⟩
 ·have e:¬(p0.wh.length:Int)=(d:Int)+1:=by simpa using e
  omega
 refine⟨(fun a=>∃i:Nat,a=(i:Int)/\i<=p0.wh.length),(fun a=>(p0.wh.length-a).toNat),⟨0,rfl,by omega⟩,?_⟩;rintro _ ⟨i,rfl,hi⟩;refine⟨fun hh=> ?_,fun _=>rfl⟩;have hh:i<p0.wh.length:=by have:=qb hh;omega
 have hx:=u _ (qal hh);rw[ix_get _ _ hh,inc_i64 _ qqo,bit1 n i qqo qqo];have next:(∃j:Nat,((i+1:Nat):Int)=(j:Int)/\j<=p0.wh.length)/\((p0.wh.length:Int)-((i+1:Nat):Int)).toNat<((p0.wh.length:Int)-(i:Int)).toNat:=⟨⟨i+1,rfl,by omega⟩,by omega⟩
 refine⟨by omega,by omega,fun e=>(by have:=qb e;omega),fun _=>⟨fun e=>⟨by omega,fun e2=> ?_,fun _=>next⟩,fun _=>next⟩⟩;have e:p0.wh[i]≠0:=by simpa using e
 have e2:((n/2^i%2:Nat):Int)=0:=by simpa using e2
 refine(e (z i hh ?_)).elim;unfold bitN;generalize n/2^i%2=q at *
 have:q=0:=by omega
 rw[this];rfl
noncomputable def kdb:Con TB.den:= .gp 221 [.st 7] [.bool] [] fun(p0:wAH)=>(p0.P=18446744069414584321,true,())
theorem k1f:kdb.Ok Tryz.prog TB:=qrv Bs Tryz.func221 .no c0 (Q:=∀(p0:wAH),(p0.P=18446744069414584321)->∀r0:Bool,(true:Bool)=r0-> 
((p0.P==18446744069414584321)=true->
((p0.P==18446744069414584321)=true->
true=r0)/\
((p0.P==18446744069414584321)=false->
false=r0))/\
((p0.P==18446744069414584321)=false->
((p0.P==17)=true->
((p0.P==17)=true->
true=r0)/\
((p0.P==17)=false->
false=r0))/\
((p0.P==17)=false->
((p0.P==97)=true->
((p0.P==97)=true->
true=r0)/\
((p0.P==97)=false->
false=r0))/\
((p0.P==97)=false->
((p0.P==193)=true->
((p0.P==193)=true->
true=r0)/\
((p0.P==193)=false->
false=r0))/\
((p0.P==193)=false->
((p0.P==257)=true->
((p0.P==257)=true->
true=r0)/\
((p0.P==257)=false->
false=r0))/\
((p0.P==257)=false->
((p0.P==12289)=true->
((p0.P==12289)=true->
true=r0)/\
((p0.P==12289)=false->
false=r0))/\
((p0.P==12289)=false->
((p0.P==65537)=true->
true=r0)/\
((p0.P==65537)=false->
false=r0))))))))<|by rintro p0 h _ rfl;refine ?_;simp[h]
noncomputable def kii:Con TB.den:= .gp 377 [.st 7,yqu,yqu] [yqu] [] fun(p0:wAH) (p1 p2:Int)=>(p0.P=18446744069414584321/\(0<=p1/\p1<18446744069414584321)/\(0<=p2/\p2<18446744069414584321),((p1+p2)%18446744069414584321:Int),())
theorem klc:kii.Ok Tryz.prog TB:=qrx Bs [] Tryz.func377 (.r 1 (.nd [] (.jn ⟨[],[],[22],[.one (.d (.bool))],[]⟩ [] .no [] .no) [] .no)) (x1 x81_ok x0) c0 (Q:=∀(p0:wAH) (p1 p2:Int),(p0.P=18446744069414584321/\(0<=p1/\p1<18446744069414584321)/\(0<=p2/\p2<18446744069414584321))->∀r0:Int,((p1+p2)%18446744069414584321)=r0-> 
(0<=p1/\0<=p2/\0<=(0:Int)/\(0:Int)<=1)/\let r1:Int:=(p1+p2+(0:Int))%18446744073709551616
let r2:Int:=(p1+p2+(0:Int))/18446744073709551616
∀J1:Bool->Prop,(∀(b1:Bool),
((b1=true->
u64.wrap (r1-p0.P)=r0)/\
(b1=false->
r1=r0))->J1 b1)->
((r2 !=0)=true->
J1 true)/\
((r2 !=0)=false->
J1 (decide (p0.P<=r1))))<|by
 rintro p0 p1 p2 h _ rfl;obtain⟨hP,h1,h2⟩:=h;refine⟨by omega,fun J1 j=>⟨fun h=>j _ ⟨fun _=> ?_,fun h=>by simp at h⟩,fun h=>j _ ⟨fun g=> ?_,fun g=> ?_⟩⟩⟩
 ·have h:(p1+p2+0)/18446744073709551616≠0:=by simpa using h
  rw[hP,u64w];omega
 ·have h:(p1+p2+0)/18446744073709551616=0:=by simpa using h
  have g:=qb g;rw[hP]at g ⊢;rw[u64w];omega
 ·have h:(p1+p2+0)/18446744073709551616=0:=by simpa using h
  have g:=qc g;rw[hP]at g;omega
noncomputable def kaf:Con TB.den:= .gp 378 [.st 7,yqu] [yqu] [] fun(p0:wAH) (p1:Int)=>(0<p0.P/\0<=p1,(p1%p0.P:Int),())
theorem k1u:kaf.Ok Tryz.prog TB:=qrv Bs Tryz.func378 .no c0 (Q:=∀(p0:wAH) (p1:Int),(0<p0.P/\0<=p1)->∀r0:Int,(p1%p0.P)=r0-> 
(decide (p0.P<=p1)=true->
(p0.P≠0)/\Int.tmod p1 p0.P=r0)/\
(decide (p0.P<=p1)=false->
p1=r0))<|by rintro p0 p1 h _ rfl;refine⟨fun h1=>⟨by omega,tmod_nn _ _ h.2⟩,fun h1=> ?_⟩;simp at h1;rw[qdh qqo qqo]
noncomputable def ki9:Con TB.den:= .gp 297 [.st 7,yqu,yqu] [yqu] [] fun(p0:wAH) (p1 p2:Int)=>(p0.P=18446744069414584321/\U64 p1/\U64 p2,((p1+p2)%18446744069414584321:Int),())
theorem k4s:ki9.Ok Tryz.prog TB:=qrv Bs Tryz.func297 .no (k1f.c (k1u.c (klc.c c0))) (Q:=∀(p0:wAH) (p1 p2:Int),(p0.P=18446744069414584321/\U64 p1/\U64 p2)->∀r0:Int,((p1+p2)%18446744069414584321)=r0-> 
(p0.P=18446744069414584321)/\((!true)=true->
0=r0)/\
((!true)=false->
(0<p0.P/\0<=p1)/\(0<p0.P/\0<=p2)/\(p0.P=18446744069414584321/\(0<=(p1%p0.P)/\(p1%p0.P)<18446744069414584321)/\(0<=(p2%p0.P)/\(p2%p0.P)<18446744069414584321))/\let r1:Int:=(((p1%p0.P)+(p2%p0.P))%18446744069414584321)
r1=r0))<|by rintro p0 p1 p2 h _ rfl;obtain⟨hP,h1,h2⟩:=h;refine⟨hP,?_⟩;simp only[hP];refine⟨fun h=>by simp at h,fun _=>⟨by omega,by omega,⟨by trivial,by omega,by omega⟩,?_⟩⟩;omega
end Go.Proofs.YtcghahkoioeddaaGreatDoor
end
