/-
  Parts of the proofs that the laws of this seat hold of every input, merged by a program: a machine over pure data that is sound for the model, what each function of the translation does in it, and plain lemmas. No conditions but those in each theorem.
-/
import Derived.Test.YtcghahkoioeddaaGreatDoorA4
set_option linter.all false
set_option maxRecDepth 100000
noncomputable section
namespace Go.Proofs.YtcghahkoioeddaaGreatDoor
open Go Go.Bv Go.Cv Go.Md Go.RowKit
open Go.IntKind (i64 u64)
def nd (a b:Int):Int:=hashS 6 [a,b]
def emp:Nat->Int
 |0=>hashS 6 []
 |i+1=>nd (emp i) (emp i)
theorem emp_u (i:Nat):U64 (emp i):=by cases i<;>exact kj _ _
theorem emp_lt (i:Nat):emp i<18446744069414584321:=by cases i<;>exact k4e _ _
theorem gD_lt {l:Li} {i:Nat} {z:Int} (h:i<l.length):l.getD i z=l[i]:=by simp[h]
theorem gD_ge {l:Li} {i:Nat} {z:Int} (h:l.length<=i):l.getD i z=z:=by simp[h]
def lf (l:Li) (p:Nat):Int:=l.getD p (emp 0)
def TT (f:Nat->Int):Nat->Nat->Int
 |0,k=>f k
 |i+1,k=>nd (TT f i (2*k)) (TT f i (2*k+1))
theorem kcc {f g:Nat->Int}:∀(i k:Nat),(∀p,k*2^i<=p->p<(k+1)*2^i->f p=g p)->TT f i k=TT g i k
 |0,k,h=>h k qqs qqs
 |i+1,k,h=>by
  have e:2^(i+1)=2*2^i:=by rw[Nat.pow_succ];omega
  rw[e]at h;have e1:k*(2*2^i)=2*k*2^i:=by rw[<-Nat.mul_assoc,qdy k 2]
  have e2:(k+1)*(2*2^i)=(2*k+1+1)*2^i:=by rw[<-Nat.mul_assoc];congr 1;omega
  have e3:(2*k+1)*2^i=2*k*2^i+2^i:=by rw[qbj,qcx]
  have e4:(2*k+1+1)*2^i=(2*k+1)*2^i+2^i:=by rw[qbj (2*k+1),qcx]
  simp only[TT];rw[kcc i (2*k) fun p h1 h2=>h p qqo qqo,kcc i (2*k+1) fun p h1 h2=>h p qqo qqo]
theorem TT_emp {l:Li}:∀(i k:Nat),l.length<=k*2^i->TT (lf l) i k=emp i
 |0,k,h=>by simp only[TT,lf];rw[gD_ge qqh]
 |i+1,k,h=>by
  have e1:k*2^(i+1)=2*k*2^i:=by rw[Nat.pow_succ,qdy (2^i) 2,<-Nat.mul_assoc,qdy k 2]
  have e3:(2*k+1)*2^i=2*k*2^i+2^i:=by rw[qbj,qcx]
  have:=qce i;simp only[TT,emp];rw[TT_emp i (2*k) qqo,TT_emp i (2*k+1) qqo]
theorem TT_r {l:Li} (hl:∀x∈l,0<=x/\x<18446744069414584321):∀(i k:Nat),0<=TT (lf l) i k/\TT (lf l) i k<18446744069414584321
 |0,k=>by
  simp only[TT,lf];by_cases h:k<l.length
  ·rw[gD_lt h];exact hl _ (qal h)
  ·rw[gD_ge qqo];exact⟨(emp_u 0).1,emp_lt 0⟩
 |i+1,k=>⟨(kj _ _).1,k4e _ _⟩
def bitN (n i:Nat):Bool:=n/2^i%2==1
def leftS (d:Nat) (l:Li):Li:=(List.range (d+1)).map fun i=>if bitN l.length i then TT (lf l) i (l.length/2^i-1)else 0
def frF (d:Int) (l:Li):wG:=⟨d,l.length,leftS d.toNat l⟩
theorem k1o (d:Nat) (l:Li):(leftS d l).length=d+1:=by simp[leftS]
theorem k2l (d:Nat) (l:Li) (i:Nat) (h:i<(leftS d l).length):(leftS d l)[i]=if bitN l.length i then TT (lf l) i (l.length/2^i-1)else 0:=by simp[leftS]
structure FV (f:wG):Prop where
 d1:1<=f.wB
 d2:f.wB<=12
 c0:0<=f.wd
 c1:f.wd<=((2^f.wB.toNat:Nat):Int)
 ll:f.wg.length=f.wB.toNat+1
 u:∀x∈f.wg,0<=x/\x<18446744069414584321
 z:∀(i:Nat) (h:i<f.wg.length),bitN f.wd.toNat i=false->f.wg[i]=0
theorem frF_FV {d:Int} {l:Li} (h1:1<=d) (h2:d<=12) (hl:l.length<=2^d.toNat) (hu:∀x∈l,0<=x/\x<18446744069414584321):FV (frF d l):=by
 refine⟨h1,h2,by simp[frF],by simp only[frF];omega,k1o _ _,fun x hx=> ?_,fun i h hb=> ?_⟩
 ·simp only[frF,leftS,qai]at hx;obtain⟨i,_,rfl⟩:=hx;split
  ·exact TT_r hu _ _
  ·decide
 ·show(leftS d.toNat l)[i]=0;have hb:bitN l.length i=false:=by simpa[frF]using hb
  exact(k2l d.toNat l i h).trans (by rw[hb];rfl)
theorem shl1 (d:Nat) (h:d<=12):ishl .i64 1 (d:Int)=((2^d:Nat):Int):=by
 have:∀d∈List.range 13,ishl .i64 1 (d:Int)=((2^d:Nat):Int):=by decide
 exact this d qqm
theorem pow12 (d:Nat) (h:d<=12):2^d<=4096:=by have:2^d<=2^12:=qco qqd h;omega
theorem bit1 (n i:Nat) (hn:n<=4096) (hi:i<=20):iand .i64 (ishr .i64 (n:Int) (i:Int)) 1=((n/2^i%2:Nat):Int):=by
 have e:min ((i:Int).toNat) i64.bits=i:=by rw[qt];exact qca (qbf hi qqd)
 have e2:ishr .i64 (n:Int) (i:Int)=((n/2^i:Nat):Int):=by rw[k1v,e];simp
 have:=Nat.div_le_self n (2^i);rw[e2];generalize n/2^i=q at *
 rw[k4b _ qqo];omega
def carry:Nat->Nat->Li->Int->Nat->Li
 |0,lv,L,x,_=>L.set lv x
 |k+1,lv,L,x,n=>if bitN n lv then carry k (lv+1) (L.set lv 0) (nd (ix L (lv:Int)) x) n else L.set lv x
def apF (f:wG) (x:Int):wG:=⟨f.wB,f.wd+1,carry (f.wB.toNat+1) 0 f.wg x f.wd.toNat⟩
theorem k1f (n i:Nat):n/2^(i+1)=n/2^i/2:=by rw[Nat.pow_succ,Nat.div_div_eq_div_mul]
theorem kla {n d:Nat} (h:n<2^d):bitN n d=false:=by unfold bitN;rw[qfh h];rfl
theorem succ_hi {n i:Nat} (h:bitN n i=true) (hq:(n+1)/2^i=n/2^i+1):(n+1)/2^(i+1)=n/2^(i+1)+1:=by
 have h:n/2^i%2=1:=by simpa[bitN]using h
 rw[k1f,k1f,hq];omega
theorem succ_lo {n i:Nat} (h:bitN n i=false) (hq:(n+1)/2^i=n/2^i+1):∀j,i<j->(n+1)/2^j=n/2^j:=by
 have h:¬n/2^i%2=1:=by simpa[bitN]using h
 intro j;induction j with
 |zero=>intro hj;omega
 |succ j ih=>
  intro hj;rcases qaw i j with h1|h1
  ·rw[k1f,k1f,ih h1]
  ·have:j=i:=by omega
   subst this;rw[k1f,k1f,hq];omega
theorem TT_app {l:Li} {x:Int} {i k:Nat} (h:(k+1)*2^i<=l.length):TT (lf (l++[x])) i k=TT (lf l) i k:=by refine kcc i k fun p _ h2=> ?_;unfold lf;rw[qev,qev,qaq qqo]
theorem khx (d:Nat) (l:Li) (x:Int) (hn:l.length<2^d):∀(k lv:Nat) (L:Li) (y:Int),lv+k=d+1->L.length=d+1->
  (l.length+1)/2^lv=l.length/2^lv+1->y=TT (lf (l++[x])) lv (l.length/2^lv)->
  (∀(i:Nat) (h:i<L.length),L[i]=if i<lv then 0 else(leftS d l).getD i 0)->(∀i,i<lv->bitN (l.length+1) i=false)->carry k lv L y l.length=leftS d (l++[x])
 |0,lv,L,y,hk,hL,hq,hy,hg,hb=>by
  exfalso;have hlv:lv=d+1:=by omega
  subst hlv;have hp:2^(d+1)=2*2^d:=by rw[Nat.pow_succ];omega
  have h1:1<=2^d:=qce d;rw[hp,qfh qqo,qfh qqo]at hq;omega
 |k+1,lv,L,y,hk,hL,hq,hy,hg,hb=>by
  unfold carry;have hlv:lv<L.length:=by omega
  by_cases hbit:bitN l.length lv=true
  ·rw[qi hbit];have hodd:l.length/2^lv%2=1:=by simpa[bitN]using hbit
   have hleft:ix L (lv:Int)=TT (lf (l++[x])) lv (2*(l.length/2^(lv+1))):=by
    have h2:lv<(leftS d l).length:=by rw[k1o];omega
    rw[ix_get _ _ hlv,hg lv hlv,qf qqo,gD_lt h2,k2l,qi hbit];have e:l.length/2^lv-1=2*(l.length/2^(lv+1)):=by rw[k1f];omega
    rw[e];refine(TT_app ?_).symm;have:(2*(l.length/2^(lv+1))+1)=l.length/2^lv:=by rw[k1f];omega
    rw[this];exact Nat.div_mul_le_self _ _
   refine khx d l x hn k (lv+1) _ _ qqo (by simp[hL]) (succ_hi hbit hq) ?_ (fun i h=> ?_) (fun i hi=> ?_)
   ·simp only[TT];rw[hleft,hy];have:l.length/2^lv=2*(l.length/2^(lv+1))+1:=by rw[k1f];omega
    rw[<-this]
   ·rw[List.getElem_set];by_cases h1:lv=i
    ·rw[qi h1,qi qqo]
    ·rw[qf h1,hg i qqh];by_cases h2:i<lv
     ·rw[qi h2,qi qqo]
     ·rw[qf h2,qf qqo]
   ·rcases qaw i lv with h1|h1
    ·exact hb i h1
    ·have:i=lv:=by omega
     subst this;unfold bitN;rw[hq];have:(l.length/2^i+1)%2=0:=by omega
     rw[this];rfl
  ·have hbit:bitN l.length lv=false:=by simpa using hbit
   rw[qf (by rw[hbit];decide)];have hev:¬l.length/2^lv%2=1:=by simpa[bitN]using hbit
   have hlo:=succ_lo hbit hq;apply List.ext_getElem
   ·simp[k1o,hL]
   ·intro i h1 h2;rw[k2l,List.getElem_set,qj,qbn];have hi:i<L.length:=by simpa using h1
    by_cases h3:lv=i
    ·subst h3;rw[qi rfl,hy];have:bitN (l.length+1) lv=true:=by unfold bitN;rw[hq];simp;omega
     rw[qi this,hq];rfl
    ·rw[qf h3,hg i hi];rcases qaw i lv with h4|h4
     ·rw[qi h4,hb i h4];rfl
     ·have h5:lv<i:=by omega
      have hs:i<(leftS d l).length:=by rw[k1o];omega
      rw[qf qqo,gD_lt hs,k2l];have eb:bitN (l.length+1) i=bitN l.length i:=by unfold bitN;rw[hlo i h5]
      rw[eb,hlo i h5];by_cases hb2:bitN l.length i=true
      ·rw[qi hb2,qi hb2];refine(TT_app ?_).symm;have ho:l.length/2^i%2=1:=by simpa[bitN]using hb2
       have:l.length/2^i-1+1=l.length/2^i:=Nat.sub_add_cancel (Nat.pos_of_ne_zero fun h=>by rw[h]at ho;cases ho);rw[this];exact Nat.div_mul_le_self _ _
      ·rw[qf hb2,qf hb2]
theorem apF_frF {d:Int} {l:Li} {x:Int} (hn:l.length<2^d.toNat):apF (frF d l) x=frF d (l++[x]):=by
 have:=khx d.toNat l x hn (d.toNat+1) 0 (leftS d.toNat l) x qqo (k1o _ _) qqs (by simp[TT,lf]) (fun i h=>by
  rw[qf qqo,gD_lt h]) (fun i hi=>by omega)
 unfold apF frF;simp only[qt];rw[this];simp
def rootGo (f:wG):Nat->Nat->Int->Int->Int
 |0,_,_,x=>x
 |k+1,lv,e,x=>rootGo f k (lv+1) (nd e e) (if bitN f.wd.toNat lv then nd (ix f.wg (lv:Int)) x else nd x e)
def rootF (f:wG):Int:=if f.wd=((2^f.wB.toNat:Nat):Int)then ix f.wg f.wB else rootGo f f.wB.toNat 0 (emp 0) (emp 0)
theorem kfn (d:Int) (l:Li):∀(k lv:Nat) (x:Int),lv+k=d.toNat->x=TT (lf l) lv (l.length/2^lv)->rootGo (frF d l) k lv (emp lv) x=TT (lf l) (lv+k) (l.length/2^(lv+k))
 |0,lv,x,_,hx=>hx
 |k+1,lv,x,hk,hx=>by
  unfold rootGo;rw[show lv+(k+1)=lv+1+k by omega];have hc:(frF d l).wd.toNat=l.length:=by simp[frF]
  rw[hc];refine kfn d l k (lv+1) _ qqo ?_;have hh:=k1f l.length lv;simp only[TT];by_cases hb:bitN l.length lv=true
  ·have ho:l.length/2^lv%2=1:=by simpa[bitN]using hb
   have hs:lv<(leftS d.toNat l).length:=by rw[k1o];omega
   rw[qi hb,show(frF d l).wg=leftS d.toNat l from rfl,ix_get _ _ hs,k2l,qi hb,hx];have e1:l.length/2^lv-1=2*(l.length/2^(lv+1)):=by omega
   have e2:l.length/2^lv=2*(l.length/2^(lv+1))+1:=by omega
   rw[e1,<-e2]
  ·have ho:¬l.length/2^lv%2=1:=by simpa[bitN]using hb
   rw[qf hb,hx];have e2:l.length/2^lv=2*(l.length/2^(lv+1)):=by omega
   rw[<-e2];congr 1;refine(TT_emp lv _ ?_).symm;have:=Nat.lt_div_mul_add (a:=l.length) (b:=2^lv) (qce lv);rw[qbj,qcx];omega
theorem kfd {d:Int} {l:Li} (h0:0<=d) (hn:l.length<=2^d.toNat):rootF (frF d l)=TT (lf l) d.toNat 0:=by
 unfold rootF;by_cases hc:(frF d l).wd=((2^(frF d l).wB.toNat:Nat):Int)
 ·rw[qi hc];have hc:l.length=2^d.toNat:=by simp only[frF]at hc;omega
  have hs:d.toNat<(leftS d.toNat l).length:=by rw[k1o];omega
  have e:(frF d l).wB=(d.toNat:Int):=by simp only[frF];omega
  have e1:l.length/2^d.toNat=1:=by rw[hc];exact Nat.div_self (qce _)
  have hb:bitN l.length d.toNat=true:=by unfold bitN;rw[e1];rfl
  rw[e,show(frF d l).wg=leftS d.toNat l from rfl,ix_get _ _ hs,k2l,qi hb,e1]
 ·rw[qf hc];have hc:l.length<2^d.toNat:=by simp only[frF]at hc;omega
  have:=kfn d l d.toNat 0 (emp 0) qqo (by simp[TT,lf]);rw[show(frF d l).wB=d from rfl,this,qam,qfh hc]
def trs (k:Li):Lo:=List.replicate k.length true
theorem k6r {m:Int}:∀{k:Li},(mIdx (BEq.beq m) k).isSome=decide (m∈k)
 |[]=>rfl
 |x::r=>by
  unfold mIdx;by_cases h:m=x
  ·subst h;simp
  ·have:BEq.beq m x=false:=by simpa using h
   rw[this,qbp,Option.isSome_map,k6r];simp[h]
theorem sVal (k:Li) (m:Int):mVal (BEq.beq m) k (trs k) false=decide (m∈k):=by
 rw[<-k6r];unfold mVal;cases h:mIdx (BEq.beq m) k with
 |none=>rfl
 |some j=>simp[trs,mIdx_lt h]
theorem sPut {k:Li} {m:Int} (h:m∉k):mPutK (BEq.beq m) k m=k++[m]/\mPutV (BEq.beq m) k (trs k) true=trs (k++[m]):=by
 have:mIdx (BEq.beq m) k=none:=by
  have:=k6r (m:=m) (k:=k);rw[qbw h]at this;cases hq:mIdx (BEq.beq m) k with
  |none=>rfl
  |some j=>rw[hq]at this;cases this
 unfold mPutK mPutV;rw[this];exact⟨rfl,by simp[trs,List.replicate_succ']⟩
theorem k73 {m:Int}:∀{k:Li} {j:Nat},mIdx (BEq.beq m) k=some j->k.eraseIdx j=k.erase m
 |x::r,j,h=>by
  unfold mIdx at h;by_cases e:m=x
  ·subst e;simp at h;subst h;simp
  ·have e2:BEq.beq m x=false:=by simpa using e
   rw[e2,qbp]at h;cases hq:mIdx (BEq.beq m) r with
   |none=>rw[hq]at h;cases h
   |some i=>rw[hq]at h;simp at h;subst h;rw[List.eraseIdx_cons_succ,k73 hq,List.erase_cons_tail (by simpa using fun h=>e h.symm)]
theorem sDel (k:Li) (m:Int):mDelK (BEq.beq m) k=k.erase m/\mDelV (BEq.beq m) k (trs k)=trs (k.erase m):=by
 unfold mDelK mDelV;cases h:mIdx (BEq.beq m) k with
 |none=>
  have h2:m∉k:=by have:=k6r (m:=m) (k:=k);rw[h]at this;simpa using this.symm
  rw[List.erase_of_not_mem h2];exact⟨rfl,rfl⟩
 |some j=>
  refine⟨k73 h,?_⟩;have hj:=mIdx_lt h;rw[<-k73 h];unfold trs;refine List.eq_replicate_iff.2 ⟨?_,fun b hb=> ?_⟩
  ·simp[List.length_eraseIdx]
  ·exact(List.eq_replicate_iff.1 rfl).2 b (qey hb)
def addS (l k:Li):Int×Li:=if(l.any fun m=>decide (m∈k))|| !decide l.Nodup then(12,k)else(0,k++l)
def remS (l k:Li):Int×Li:=if(l.any fun m=> !decide (m∈k))|| !decide l.Nodup then(4,k)else(0,l.foldl List.erase k)
theorem kls {m:Int} {k r:Li} (h:m∉k):(k++m::r).erase m=k++r:=by rw[List.erase_append_right _ h,List.erase_cons_head]
theorem rem_add:∀{l k:Li},(k++l).Nodup->l.foldl List.erase (k++l)=k
 |[],k,_=>by simp
 |m::r,k,h=>by
  have h1:m∉k:=fun hm=>by rw[qcb]at h;exact h.2.2 m hm m qqs rfl
  rw[qfn,kls h1];refine rem_add ?_;rw[qcb]at h ⊢;refine⟨h.1,(qct.1 h.2.1).2,fun a ha b hb=>h.2.2 a ha b (by simp[hb])⟩
def pws (n:Nat) (z b:Int):Bool:=(List.range n).any fun j=>b==z*((2^j:Nat):Int)
def prS (p:wAI):Bool:=pws 8 2 p.wAt&&pws 4 1 p.wAc&&decide (1<=p.wAr)&&decide (p.wAr<=64)
def rulesB (p:wE):Bool:=decide (1<=p.wb)&&decide (p.wb<=3)&&decide (1<=p.wB)&&decide (p.wB<=12)&&decide (1<=p.wc)&&decide (p.wc<=100)&&decide (1<=p.wS)&&decide (p.wS<=1048576)&&decide (p.wV<=4294967296)&&decide (1<=p.wW)&&decide (p.wW<=65536)
def rulesE (p:wE):Int:=if rulesB p then(if p.wb=1 then(if prS ⟨p.wP,p.wO,p.wL⟩then 0 else 1)else 0)else 1
theorem pws_and (b:Nat) (h:2<=b/\b<=256):(iand .i64 (b:Int) (((b:Int))-1)==0)=pws 8 2 b:=by
 have:∀b∈List.range' 2 255,(iand .i64 ((b:Nat):Int) (((b:Nat):Int)-1)==0)=pws 8 2 ((b:Nat):Int):=by decide +kernel
 exact this b (by rw[List.mem_range'_1];omega)
theorem kfi {n:Nat} {z b:Int} (h:pws n z b=true) (hz:0<z):z<=b/\b<=z*((2^(n-1):Nat):Int):=by
 obtain⟨j,hj,e⟩:=List.any_eq_true.1 h;have hj:j<n:=by simpa using hj
 have e:b=z*((2^j:Nat):Int):=by simpa using e
 have h1:1<=2^j:=qce j;have h2:2^j<=2^(n-1):=qco qqd qqo;rw[e];constructor
 ·have:=qeh (show(1:Int)<=((2^j:Nat):Int)by omega) (show 0<=z by omega);omega
 ·exact qeh qqo qqo
theorem k7f (n:Nat) (z b:Int):pws (n+1) z b=(pws n z b||b==z*((2^n:Nat):Int)):=by simp[pws,List.range_succ]
structure TState where
 Rules_Mode:Int
 Rules_Depth:Int
 Rules_Proof_Block:Int
 Rules_Proof_Blowup:Int
 Rules_Proof_Queries:Int
 Rules_Reward:Int
 Rules_Window:Int
 Rules_Finality:Int
 Rules_Work:Int
 wM:Int
 Leaves:Li
 wI:Li
 wF:List wA
 wBH:Int
 Roots:Li
 deriving Inhabited,DecidableEq
structure PS where
 R:wE
 F:wG
 b:List wA
 n:Int
 l:Li
 r:Li
 p:List wJ
 k:Li
 v:Lo
def ancL (r:Li) (w:Int):Li:=r.drop (r.length-w.toNat)
def chk (h:Int) (anc k:Li) (b:List wA) (n:Int) (ll:Nat) (d:Int) (t:wZ):Int:=
 if validE t≠0 then validE t else if t.wAL<h+1 then 14 else if t.we∉anc then 11 else if t.wI.any (fun m=>decide (m∈k))=true then 12
 else if 0<t.wQ/\(debitA b t.wX t.wQ t.wY).2≠0 then(debitA b t.wX t.wQ t.wY).2
 else if u64.wrap (n+t.wQ)<u64.wrap (t.wT+t.Fee)then 13 else if 2^d.toNat<ll+t.wC.length then 16 else 0
def chkS (s:PS) (t:wZ):Int:=chk (s.p.length:Int) (ancL s.r s.R.wc) s.k s.b s.n s.l.length s.R.wB t
def outsF (F:wG) (o:List wAJ):wG:=o.foldl (fun f x=>apF f x.wl) F
def depA (b:List wA) (t:wZ):List wA:=if 0<t.wQ then(debitA b t.wX t.wQ t.wY).1 else b
def wdA (b:List wA) (t:wZ):List wA×Int:=if 0<t.wT then creditA (depA b t) t.wX t.wT else(depA b t,0)
def hidN (n:Int) (t:wZ):Int:=u64.wrap (u64.wrap (u64.wrap (n+t.wQ)-t.wT)-t.Fee)
structure PE where
 e:Int
 s:PS
def perfS (s:PS) (t:wZ):PE:=
 if(wdA s.b t).2≠0 then⟨(wdA s.b t).2,{s with F:=outsF s.F t.wC,l:=s.l++t.wC.map (·.wl),k:=s.k++t.wI,v:=trs (s.k++t.wI),b:=depA s.b t}⟩
 else⟨0,{s with F:=outsF s.F t.wC,l:=s.l++t.wC.map (·.wl),k:=s.k++t.wI,v:=trs (s.k++t.wI),b:=(wdA s.b t).1,n:=hidN s.n t}⟩
structure PB where
 e:Int
 s:PS
 m:Li
 f:Int
def blkGo:List wZ->PS->Li->Int->PB
 |[],s,m,f=>⟨0,s,m,f⟩
 | t::r,s,m,f=>if chkS s t≠0 then⟨chkS s t,s,m,f⟩else if(perfS s t).e≠0 then⟨(perfS s t).e,(perfS s t).s,m++t.wI,f⟩
   else blkGo r (perfS s t).s (m++t.wI) (u64.wrap (f+t.Fee))
def crB (x:PB) (b:wH):List wA×Int:=creditA x.s.b b.wAT (u64.wrap (x.s.R.wV+x.f))
def blkS (s:PS) (m:Li) (b:wH):PB:=
 if(blkGo b.Txs s m 0).e≠0 then blkGo b.Txs s m 0
 else if(crB (blkGo b.Txs s m 0) b).2≠0 then {blkGo b.Txs s m 0 with e:=(crB (blkGo b.Txs s m 0) b).2}
 else {blkGo b.Txs s m 0 with e:=0,s:={(blkGo b.Txs s m 0).s with b:=(crB (blkGo b.Txs s m 0) b).1}}
def befS (s:PS) (m:Li):wJ:=⟨s.F.wB,s.F.wd,s.F.wg,s.l.length,m,s.b,s.n⟩
def applyS (s:PS) (b:wH):PE:=
 if b.wM≠(s.p.length:Int)+1 then⟨18,s⟩else if 18446744069414584321<=b.wAT then⟨1,s⟩else
 if(blkS s [] b).e≠0 then⟨(blkS s [] b).e,s⟩
 else⟨0,{(blkS s [] b).s with p:=s.p++[befS s (blkS s [] b).m],r:=s.r++[rootF (blkS s [] b).s.F]}⟩
def resS (s:PS) (q:wJ):PS:={s with F:=⟨q.wBD,q.wBE,q.wBG⟩,b:=q.wAq,n:=q.hidden,l:=s.l.take q.leaves.toNat,k:=(remS q.marks s.k).2,v:=trs (remS q.marks s.k).2}
def undoS (s:PS):PS:=if s.p=[]then s else {resS s (ix s.p ((s.p.length:Int)-1))with p:=s.p.take (s.p.length-1),r:=s.r.take (s.r.length-1)}
def newS (r:wE):PS:=⟨r,frF r.wB [],[],0,[],[rootF (frF r.wB [])],[],[],[]⟩
def BG (l:Li):Prop:=∀x∈l,0<=x/\x<18446744069414584321
def sumA (l:List wA):Int:=(l.map (·.wa)).sum
structure PI (s:PS) (c:Nat) (f:Int):Prop where
 d1:1<=s.R.wB
 d2:s.R.wB<=12
 w1:1<=s.R.wc
 w2:s.R.wc<=100
 rw:0<=s.R.wV/\s.R.wV<=4294967296
 F:s.F=frF s.R.wB s.l
 ll:s.l.length<=2^s.R.wB.toNat
 l:BG s.l
 b:GoodA c s.b
 n:0<=s.n
 ff:0<=f
 sup:sumA s.b+s.n+f=(s.p.length:Int)*s.R.wV
 r:BG s.r
 rl:s.r.length=s.p.length+1
 p:s.p.length<=c
 kn:s.k.Nodup
 kb:BG s.k
 kl:s.k.length<=4*c
 v:s.v=trs s.k
theorem sum_app (a b:List wA):sumA (a++b)=sumA a+sumA b:=by simp[sumA]
theorem sumA_nn {l:List wA} (h:∀a∈l,0<=a.wa):0<=sumA l:=by
 induction l with
 |nil=>exact qck _
 |cons a l ih=>
  have h1:=h a qqs;have h2:=ih fun x hx=>h x (by simp[hx]);have:sumA (a::l)=a.wa+sumA l:=by simp[sumA]
  omega
theorem sum_put {l:List wA} {x:wA} (hs:Srt l):sumA (putA l x)=sumA l-(getA l x.ID).wa+x.wa:=by
 obtain⟨a,m,b,h⟩:=spl_of hs x.ID;rw[put_spl hs h,get_spl h,h.1]
 have e1:sumA (if x.wa≠0∨x.wY≠0 then [x]else [])=x.wa:=by
  split
  ·simp[sumA]
  ·rename_i hh;have:x.wa=0:=qah fun hb=>hh (.inl hb);rw[this];rfl
 have e2:sumA m=(m.headD ⟨x.ID,0,0⟩).wa:=by
  rcases h.2.2.1 with rfl|⟨y,rfl,_⟩
  ·rfl
  ·simp[sumA]
 simp only[sum_app,e1,e2];omega
theorem kda {l:List wA} {id amt:Int} (hs:Srt l) (h:(creditA l id amt).2=0):sumA (creditA l id amt).1=sumA l+amt:=by
 unfold creditA at h ⊢;split at h
 ·cases h
 ·rename_i hh;rw[qf hh];have:=sum_put (x:=⟨id,(getA l id).wa+amt,(getA l id).wY⟩) hs;rw[this];simp only;omega
theorem klo {l:List wA} {id amt non:Int} (hs:Srt l) (h:(debitA l id amt non).2=0):sumA (debitA l id amt non).1=sumA l-amt:=by
 unfold debitA at h ⊢;split at h
 ·cases h
 ·rename_i h1;rw[qf h1];split at h
  ·cases h
  ·rename_i h2;rw[qf h2];split at h
   ·cases h
   ·rename_i h3;rw[qf h3];have:=sum_put (x:=⟨id,(getA l id).wa-amt,non+1⟩) hs;rw[this];simp only;omega
theorem tot_sum:∀{l:List wA} {s:Int},(∀a∈l,0<=a.wa)->s+sumA l<18446744073709551616->totA s l=(s+sumA l,0)
 |[],s,_,_=>by simp[totA,sumA]
 |a::r,s,hn,h=>by
  have e:sumA (a::r)=a.wa+sumA r:=by simp[sumA]
  have h1:=hn a qqs;have h2:=sumA_nn (l:=r) fun x hx=>hn x (by simp[hx]);rw[e]at h ⊢;unfold totA;rw[qf qqo,tot_sum (fun x hx=>hn x (by simp[hx])) qqo];rw[Int.add_assoc]
structure CK (s:PS) (t:wZ):Prop where
 v:VT t
 m:∀m∈t.wI,m∉s.k
 d:0<t.wQ->(debitA s.b t.wX t.wQ t.wY).2=0
 h:¬u64.wrap (s.n+t.wQ)<u64.wrap (t.wT+t.Fee)
 l:s.l.length+t.wC.length<=2^s.R.wB.toNat
theorem kcb {s:PS} {t:wZ} (h:chkS s t=0):CK s t:=by
 unfold chkS chk at h;split at h
 ·rename_i h1;exact(h1 h).elim
 ·rename_i h1;split at h
  ·cases h
  ·split at h
   ·cases h
   ·split at h
    ·cases h
    ·rename_i h4;split at h
     ·rename_i h5;exact(h5.2 h).elim
     ·rename_i h5;split at h
      ·cases h
      ·rename_i h6;split at h
       ·cases h
       ·rename_i h7;refine⟨(k12 t).1 (qah h1),fun m hm hk=>h4 ?_,fun hd=>qah fun he=>h5 ⟨hd,he⟩,h6,by omega⟩;exact List.any_eq_true.2 ⟨m,hm,by simpa using hk⟩
theorem VT.am' {t:wZ} (v:VT t):t.wQ<=4294967295/\t.wT<=4294967295/\t.Fee<=4294967295/\t.wX<18446744069414584321/\(0<t.wQ->t.wT=0):=by have:=v.am;simp only[vAmounts,qe,qaf]at this;obtain⟨⟨⟨⟨⟨a1,a2⟩,a3⟩,a4⟩,a5⟩,a6⟩:=this;refine⟨a1,a2,a3,a4,fun h=> ?_⟩;rw[qi h]at a6;simpa using a6
theorem kb8 {d:Int}:∀{o:List wAJ} {l:Li},l.length+o.length<=2^d.toNat->outsF (frF d l) o=frF d (l++o.map (·.wl))
 |[],l,_=>by simp[outsF]
 |x::o,l,h=>by have h:l.length+(o.length+1)<=2^d.toNat:=h;show outsF (apF (frF d l) x.wl) o=_;rw[apF_frF qqo,kb8 qqm,qz];rfl
theorem sup_bd {s:PS} {c:Nat} {f:Int} (h:PI s c f) (hc:c<=800):sumA s.b<=3435973836800/\s.n<=3435973836800/\f<=3435973836800/\0<=sumA s.b:=by have h0:=sumA_nn (l:=s.b) fun a ha=>(h.b.1.2.2 a ha).2.1.1;have h1:=h.sup;have h2:=h.n;have h3:=h.ff;have h4:(s.p.length:Int)*s.R.wV<=800*4294967296:=qem (by have:=h.p;omega) h.rw.2 h.rw.1 qqd;omega
theorem PI.perf {s:PS} {c:Nat} {f:Int} (h:PI s c f) (hc:c<=800) {t:wZ} (ht:TR t) (k:CK s t):(∃g,PI {(perfS s t).s with b:=s.b,n:=s.n} (c+1) g)/\GoodA (c+1) (perfS s t).s.b/\
  ((perfS s t).e=0->PI (perfS s t).s (c+1) (f+t.Fee)):=by
 obtain⟨a1,a2,a3,a4,a5⟩:=k.v.am';obtain⟨s1,s2,s3,s4⟩:=sup_bd h hc;have hd0:=ht.d.1;have hw0:=ht.w.1;have hf0:=ht.f.1;have hk:=k.h;rw[wrap_u64 (s.n+t.wQ) (by have:=h.n;omega) qqo,wrap_u64 (t.wT+t.Fee) qqo qqo]at hk;have hF:outsF s.F t.wC=frF s.R.wB (s.l++t.wC.map (·.wl)):=by rw[h.F];exact kb8 k.l
 have hl:BG (s.l++t.wC.map (·.wl)):=by
  intro x hx;rcases qae.1 hx with hx|hx
  ·exact h.l x hx
  ·obtain⟨o,ho,rfl⟩:=qai.1 hx;exact⟨(ht.o o ho).c.1,(k.v.o o ho).c⟩
 have hkb:BG (s.k++t.wI):=by
  intro x hx;rcases qae.1 hx with hx|hx
  ·exact h.kb x hx
  ·exact⟨(ht.m x hx).1,k.v.m x hx⟩
 have hkn:(s.k++t.wI).Nodup:=by rw[qcb];exact⟨h.kn,k.v.mn,fun a ha b hb e=>k.m b hb (e▸ha)⟩
 have hkl:(s.k++t.wI).length<=4*(c+1):=by rw[qj];have:=h.kl;have:=k.v.ml;omega
 have hdep:GoodA (c+1) (depA s.b t)/\(t.wQ=0->depA s.b t=s.b)/\sumA (depA s.b t)=sumA s.b-t.wQ:=by
  unfold depA;split
  ·rename_i hd;exact⟨ke7 h.b qqo ⟨ht.ac.1,a4⟩ hd0 ⟨ht.n.1,by have:=ht.n.2;omega⟩,fun h0=>by omega,klo h.b.1.1 (k.d hd)⟩
  ·rename_i hd;exact⟨⟨h.b.1,h.b.2.1,Nat.le_succ_of_le h.b.2.2⟩,fun _=>rfl,by omega⟩
 have hwd:GoodA (c+1) (wdA s.b t).1/\((wdA s.b t).2=0->sumA (wdA s.b t).1=sumA s.b-t.wQ+t.wT):=by
  unfold wdA;split
  ·rename_i hw
   have hz:t.wQ=0:=by
    rcases Int.lt_or_le 0 t.wQ with h1|h1
    ·have:=a5 h1;omega
    ·omega
   rw[hdep.2.1 hz];exact⟨kam h.b qqo ⟨ht.ac.1,a4⟩ hw0,fun he=>by rw[kda h.b.1.1 he];omega⟩
  ·exact⟨hdep.1,fun _=>by simp only;omega⟩
 have hlen:(s.l++t.wC.map (·.wl)).length<=2^s.R.wB.toNat:=by simp only[qj,ql];exact k.l
 refine⟨⟨f,?_⟩,?_,?_⟩
 ·have base:PI {s with F:=outsF s.F t.wC,l:=s.l++t.wC.map (·.wl),k:=s.k++t.wI,v:=trs (s.k++t.wI)} (c+1) f:=
   ⟨h.d1,h.d2,h.w1,h.w2,h.rw,hF,hlen,hl,⟨h.b.1,h.b.2.1,Nat.le_succ_of_le h.b.2.2⟩,h.n,h.ff,h.sup,h.r,h.rl,by have:=h.p;simp only;omega,hkn,hkb,hkl,rfl⟩
  unfold perfS;split
  ·exact base
  ·exact base
 ·unfold perfS;split
  ·exact hdep.1
  ·exact hwd.1
 ·intro he;unfold perfS at he ⊢;split at he
  ·rename_i h1;exact(h1 he).elim
  ·rename_i h1;rw[qf h1];have hz:(wdA s.b t).2=0:=qah h1;have hn0:=h.n;have hh:hidN s.n t=s.n+t.wQ-t.wT-t.Fee:=by unfold hidN;rw[wrap_u64 (s.n+t.wQ) qqo qqo,wrap_u64 (s.n+t.wQ-t.wT) qqo qqo,wrap_u64 _ qqo qqo]
   refine⟨h.d1,h.d2,h.w1,h.w2,h.rw,hF,hlen,hl,hwd.1,?_,by have:=h.ff;omega,?_,h.r,h.rl,by have:=h.p;simp only;omega,hkn,hkb,hkl,rfl⟩
   ·simp only[hh];omega
   ·have h9:=h.sup;simp only[hh,hwd.2 hz];omega
theorem kmv (s:PS) (t:wZ):(perfS s t).s.R=s.R/\(perfS s t).s.p=s.p/\(perfS s t).s.r=s.r/\(perfS s t).s.l=s.l++t.wC.map (·.wl)/\(perfS s t).s.k=s.k++t.wI/\(perfS s t).s.v=trs (s.k++t.wI):=by unfold perfS;split<;>exact⟨rfl,rfl,rfl,rfl,rfl,rfl⟩
structure BI (s0 s:PS) (m:Li):Prop where
 R:s.R=s0.R
 p:s.p=s0.p
 r:s.r=s0.r
 l:∃x,s.l=s0.l++x
 k:s.k=s0.k++m
 kn:s.k.Nodup
 kb:BG s.k
 v:s.v=trs s.k
 lb:BG s.l
 F:s.F=frF s.R.wB s.l
 ll:s.l.length<=2^s.R.wB.toNat
theorem BI.refl {s:PS} {c:Nat} {f:Int} (h:PI s c f):BI s s []:=⟨rfl,rfl,rfl,⟨[],by simp⟩,by simp,h.kn,h.kb,h.v,h.l,h.F,h.ll⟩
theorem BI.perf {s0 s:PS} {m:Li} {c:Nat} {f:Int} (b:BI s0 s m) (h:PI s c f) (hc:c<=800) {t:wZ} (ht:TR t) (k:CK s t):BI s0 (perfS s t).s (m++t.wI):=by
 obtain⟨⟨g,h1⟩,_,_⟩:=h.perf hc ht k;obtain⟨k1,k2,k3,k4,k5,k6⟩:=kmv s t;refine⟨k1.trans b.R,k2.trans b.p,k3.trans b.r,?_,?_,h1.kn,h1.kb,h1.v,h1.l,h1.F,h1.ll⟩
 ·obtain⟨x,hx⟩:=b.l;exact⟨x++t.wC.map (·.wl),by rw[k4,hx,qz]⟩
 ·rw[k5,b.k,qz]
structure BO (s0:PS) (x:PB) (c:Nat):Prop where
 b:BI s0 x.s x.m
 ok:x.e=0->PI x.s c x.f
theorem khi {s:PS} {c:Nat} {f:Int} (h:PI s c f) (hc:c<=800) {t:wZ} (ht:TR t) (k:CK s t):u64.wrap (f+t.Fee)=f+t.Fee:=by obtain⟨a1,a2,a3,a4,a5⟩:=k.v.am';obtain⟨s1,s2,s3,s4⟩:=sup_bd h hc;exact wrap_u64 _ (by have:=h.ff;have:=ht.f.1;omega) qqo
theorem k6o:∀{r:List wZ} {s0 s:PS} {m:Li} {c:Nat} {f:Int},BI s0 s m->PI s c f->c+r.length<=800->(∀t∈r,TR t)->BO s0 (blkGo r s m f) (c+r.length)
 |[],s0,s,m,c,f,b,h,_,_=>⟨b,fun _=>h⟩
 |t::r,s0,s,m,c,f,b,h,hc,ht=>by
  have hc:c+(r.length+1)<=800:=hc;unfold blkGo;split
  ·rename_i h1;exact⟨b,fun he=>(h1 he).elim⟩
  ·rename_i h1;have k:=kcb (qah h1);have tt:=ht t qqs;have b2:=b.perf h qqo tt k;split
   ·rename_i h2;exact⟨b2,fun he=>(h2 he).elim⟩
   ·rename_i h2;have h3:=(h.perf qqo tt k).2.2 (qah h2);rw[khi h qqo tt k];have:=k6o (r:=r) b2 h3 qqo (fun t ht' =>ht t (by simp[ht']));rw[show c+(t::r).length=c+1+r.length by simp;omega];exact this
structure BR' (b:wH):Prop where
 m:U64 b.wAT
 t:∀t∈b.Txs,TR t
 l:∀t∈b.Txs,TL t
theorem kii {x:PB} {c:Nat} (h:PI x.s c x.f) (hc:c<=800):u64.wrap (x.s.R.wV+x.f)=x.s.R.wV+x.f/\U64 (x.s.R.wV+x.f):=by obtain⟨s1,s2,s3,s4⟩:=sup_bd h hc;have h1:=h.rw;have h2:=h.ff;exact⟨wrap_u64 _ qqo qqo,by omega,by omega⟩
theorem blkS_BI {s:PS} {c:Nat} (h:PI s c 0) {b:wH} (hc:c+b.Txs.length<=800) (hb:BR' b):BI s (blkS s [] b).s (blkS s [] b).m:=by
 have:=(k6o (BI.refl h) h hc hb.t).b;unfold blkS;split
 ·exact this
 ·split
  ·exact this
  ·exact⟨this.R,this.p,this.r,this.l,this.k,this.kn,this.kb,this.v,this.lb,this.F,this.ll⟩
theorem kiz {s0 s:PS} {m:Li} (h:BI s0 s m) (hv:s0.v=trs s0.k):resS s (befS s0 m)=s0:=by
 have hk:(remS m s.k).2=s0.k:=by
  have hn:=h.kn;rw[h.k]at hn ⊢;unfold remS;have e1:(m.any fun x=> !decide (x∈s0.k++m))=false:=by rw[List.any_eq_false];intro x hx;simp[hx]
  have e2:m.Nodup:=by rw[qcb]at hn;exact hn.2.1
  rw[e1,qbr e2];exact rem_add hn
 obtain⟨x,hx⟩:=h.l;unfold resS befS;simp only[qt];rw[hk,h.R,h.p,h.r,hx,List.take_left,<-hv]
theorem kkp {s:PS} {c:Nat} (h:PI s c 0) {b:wH} (hc:c+b.Txs.length<=800) (hb:BR' b) (he:(applyS s b).e=0):undoS (applyS s b).s=s/\(applyS s b).s.p.length=s.p.length+1:=by
 have hB:=blkS_BI h hc hb;unfold applyS at he ⊢;split at he
 ·cases he
 ·rename_i h1;rw[qf h1];split at he
  ·cases he
  ·rename_i h2;rw[qf h2];split at he
   ·rename_i h3;exact(h3 he).elim
   ·rename_i h3;rw[qf h3];refine⟨?_,by simp⟩;unfold undoS;rw[qf qqs]
    have e:ix (s.p++[befS s (blkS s [] b).m]) (((s.p++[befS s (blkS s [] b).m]).length:Int)-1)=befS s (blkS s [] b).m:=by
     have:(((s.p++[befS s (blkS s [] b).m]).length:Int)-1)=((s.p.length:Nat):Int):=by simp
     rw[this,ix_get _ _ qqs];simp
    simp only[e];have hr:=kiz hB h.v;have hrl:=h.rl;have e3:(s.p++[befS s (blkS s [] b).m]).take ((s.p++[befS s (blkS s [] b).m]).length-1)=s.p:=by simp
    have e4:(s.r++[rootF (blkS s [] b).s.F]).take ((s.r++[rootF (blkS s [] b).s.F]).length-1)=s.r:=by simp
    rw[e3,e4];have hq:∀(y:PS) (q:wJ) (p' :List wJ) (r' :Li),({resS {y with p:=p',r:=r'} q with p:=s.p,r:=s.r}:PS)={resS y q with p:=s.p,r:=s.r}:=fun _ _ _ _=>rfl;rw[hq,hr]
theorem kbl {s:PS} {c:Nat} (h:PI s c 0) {b:wH} (hc:c+b.Txs.length<=790) (hb:BR' b) (he:(applyS s b).e=0):PI (applyS s b).s (c+b.Txs.length+1) 0:=by
 have hB:=k6o (BI.refl h) h qqo hb.t;unfold applyS at he ⊢;split at he
 ·cases he
 ·rename_i h1;rw[qf h1];split at he
  ·cases he
  ·rename_i h2;rw[qf h2];unfold blkS at he ⊢;by_cases h3:(blkGo b.Txs s [] 0).e≠0
   ·rw[qi h3,qi h3]at he;exact(h3 he).elim
   ·rw[qf h3]at he ⊢;have hP:=hB.ok (qah h3);by_cases h4:(crB (blkGo b.Txs s [] 0) b).2≠0
    ·rw[qi h4,qi h4]at he;exact(h4 he).elim
    ·rw[qf h4,qf qqs];have h4:(crB (blkGo b.Txs s [] 0) b).2=0:=qah h4;generalize blkGo b.Txs s [] 0=x at *
     have hw:=kii hP qqo;have hB:=hB.b;unfold crB at h4 ⊢;rw[hw.1]at h4 ⊢;have hF:=hP.F;have hr:=kfd (d:=x.s.R.wB) (l:=x.s.l) (by have:=hP.d1;omega) hP.ll;refine⟨hP.d1,hP.d2,hP.w1,hP.w2,hP.rw,hP.F,hP.ll,hP.l,kam hP.b qqo ⟨hb.m.1,by omega⟩ hw.2.1,hP.n,qck _,?_,?_,?_,?_,hP.kn,hP.kb,?_,hP.v⟩
     ·have h9:=hP.sup;simp only[kda hP.b.1.1 h4];rw[hB.p]at h9;rw[qj,qbn];have:((s.p.length+1:Nat):Int)*x.s.R.wV=(s.p.length:Int)*x.s.R.wV+x.s.R.wV:=by rw[Int.natCast_add,Int.add_mul];simp
      rw[this];omega
     ·intro y hy;rcases qae.1 hy with hy|hy
      ·exact h.r y hy
      ·rw[qag.1 hy,hF,hr];exact TT_r hP.l _ _
     ·have:=h.rl;simp only[qj,qbn];omega
     ·have:=h.p;simp only[qj,qbn];omega
     ·have:=hP.kl;simp only;omega
theorem kj5:∀{r:List wZ} {s:PS} {m:Li} {f:Int},(blkGo r s m f).m.length<=m.length+4*r.length
 |[],_,_,_=>by simp[blkGo]
 |t::r,s,m,f=>by
  unfold blkGo;split
  ·simp
  ·rename_i h1;have:=(kcb (qah h1:chkS s t=0)).v.ml;split
   ·simp;omega
   ·have:=kj5 (r:=r) (s:=(perfS s t).s) (m:=m++t.wI) (f:=u64.wrap (f+t.Fee));rw[qj]at this;simp;omega
theorem blkS_ml (s:PS) (b:wH):(blkS s [] b).m.length<=4*b.Txs.length:=by
 have:=kj5 (r:=b.Txs) (s:=s) (m:=[]) (f:=0);rw[qao,qam]at this;unfold blkS;split
 ·exact this
 ·split<;>exact this
structure UOk (s:PS):Prop where
 v:s.v=trs s.k
 kl:s.k.length<=1000000
 r:1<=s.r.length
 rl:s.r.length<=1000000
 pl:s.p.length<=1000000
 q:s.p≠[]->(ix s.p ((s.p.length:Int)-1)).marks.length<=1000000/\0<=(ix s.p ((s.p.length:Int)-1)).leaves/\(ix s.p ((s.p.length:Int)-1)).leaves<=(s.l.length:Int)
theorem take_set' {α:Type} (l:List α) (n:Nat) (x:α):(l.set n x).take n=l.take n:=by
 apply List.ext_getElem
 ·simp
 ·intro i h1 h2;rw[qab]at h2;rw[List.getElem_take,List.getElem_take,List.getElem_set,qf qqo]
theorem kmj {s:PS} {c:Nat} (h:PI s c 0) {b:wH} (hc:c+b.Txs.length<=790) (hb:BR' b) (he:(applyS s b).e=0):UOk (applyS s b).s:=by
 have hP:=kbl h hc hb he;have hB:=blkS_BI h qqo hb;have hml:=blkS_ml s b;have hp:=hP.p;have hk:=hP.kl;have hr:=hP.rl;refine⟨hP.v,by omega,by omega,by omega,by omega,fun _=> ?_⟩;unfold applyS at he ⊢;split at he
 ·cases he
 ·rename_i h1;rw[qf h1];split at he
  ·cases he
  ·rename_i h2;rw[qf h2];split at he
   ·rename_i h3;exact(h3 he).elim
   ·rename_i h3;rw[qf h3]
    have e:ix (s.p++[befS s (blkS s [] b).m]) (((s.p++[befS s (blkS s [] b).m]).length:Int)-1)=befS s (blkS s [] b).m:=by
     have:(((s.p++[befS s (blkS s [] b).m]).length:Int)-1)=((s.p.length:Nat):Int):=by simp
     rw[this,ix_get _ _ qqs];simp
    simp only[e];obtain⟨x,hx⟩:=hB.l;refine⟨?_,?_,?_⟩
    ·show(blkS s [] b).m.length<=1000000;omega
    ·show(0:Int)<=(s.l.length:Int);omega
    ·show(s.l.length:Int)<=((blkS s [] b).s.l.length:Int);rw[hx,qj];omega
def sumW (l:List wZ):Int:=(l.map weightS).sum
theorem kow (l:List wZ) (x:wZ):sumW (l++[x])=sumW l+weightS x:=by simp[sumW]
theorem kd7 {t:wZ} (h:validE t=0):0<=weightS t/\weightS t<=1048880:=by have v:=(k12 t).1 h;have:=v.enc_len t.wo;have:=v.pl;unfold weightS;rw[qi h];omega
theorem sumW_bd:∀(l:List wZ),(∀x∈l,validE x=0)->0<=sumW l/\sumW l<=1048880*l.length
 |[],_=>by simp[sumW]
 |x::l,h=>by
  have h1:=sumW_bd l (fun y hy=>h y (by simp[hy]));have h2:=kd7 (h x qqs);have e:sumW (x::l)=weightS x+sumW l:=by simp[sumW]
  rw[e,qu];omega
structure BR (b:wH):Prop where
 p:U64 b.wh
 m:U64 b.wAT
 w:U64 b.wW
 n:U64 b.wY
 h: -9223372036854775808<=b.wM/\b.wM<=9223372036854775807
 t:∀x∈b.Txs,TR x
structure VB0 (b:wH):Prop where
 h0:1<=b.wM
 h1:b.wM<=1048576
 w0:1<=b.wW
 w1:b.wW<=65536
 p:b.wh<18446744069414584321
 m:b.wAT<18446744069414584321
 l:b.Txs.length<=64
def vHead (b:wH):Bool:=decide (1<=b.wM)&&decide (b.wM<=1048576)&&decide (1<=b.wW)&&decide (b.wW<=65536)&&decide (b.wh<18446744069414584321)&&decide (b.wAT<18446744069414584321)&&decide (b.Txs.length<=64)
theorem k55 (b:wH):vHead b=true↔VB0 b:=by
 unfold vHead;simp only[qe,qaf];constructor
 ·rintro ⟨⟨⟨⟨⟨⟨a,b⟩,c⟩,d⟩,e⟩,f⟩,g⟩;exact⟨a,b,c,d,e,f,g⟩
 ·rintro ⟨a,b,c,d,e,f,g⟩;exact⟨⟨⟨⟨⟨⟨a,b⟩,c⟩,d⟩,e⟩,f⟩,g⟩
def validB (b:wH):Int:=if vHead b=true/\∀t∈b.Txs,validE t=0 then(if sumW b.Txs<=2097152 then 0 else 3)else 1
structure VB (b:wH):Prop where
 h:VB0 b
 t:∀x∈b.Txs,validE x=0
 s:sumW b.Txs<=2097152
theorem k5m (b:wH):validB b=0↔VB b:=by
 unfold validB;split
 ·rename_i h;split
  ·rename_i hs;exact⟨fun _=>⟨(k55 b).1 h.1,h.2,hs⟩,fun _=>rfl⟩
  ·rename_i hs;exact⟨fun e=>absurd e qqd,fun e=>absurd e.s hs⟩
 ·rename_i h;exact⟨fun e=>absurd e qqd,fun e=>absurd ⟨(k55 b).2 e.h,e.t⟩ h⟩
theorem kkh {b:wH} (h:¬VB0 b):validB b=1:=qf fun e=>h ((k55 b).1 e.1)
theorem kmm {b:wH} {x:wZ} (hx:x∈b.Txs) (h:validE x≠0):validB b=1:=qf fun e=>h (e.2 x hx)
theorem km9 {b:wH} (h:VB0 b) (ht:∀x∈b.Txs,validE x=0):validB b=if sumW b.Txs<=2097152 then 0 else 3:=qi ⟨(k55 b).2 h,ht⟩
def hdrS (b:wH):Li:=dig 8 b.wh++dig 4 (len4 b.wM)++dig 8 b.wAT++dig 8 b.wW++dig 8 b.wY++dig 4 (len4 (b.Txs.length:Int))
@[simp] theorem kko (b:wH):(hdrS b).length=40:=by simp[hdrS]
theorem hdrS_by (b:wH):By (hdrS b):=((((((dig_by _ _).append (dig_by _ _)).append (dig_by _ _)).append (dig_by _ _)).append (dig_by _ _)).append (dig_by _ _))
def namS (b:wH):Li:=hdrS b++(b.Txs.map idS).flatMap (dig 8)
def idB (b:wH):Int:=if validB b=0 then hashB 15 (namS b)else 0
theorem klt (label:Int) (l:Li):U64 (hashB label l):=kj _ _
theorem idS_u64 (t:wZ):U64 (idS t):=by
 unfold idS;split
 ·exact klt _ _
 ·omega
theorem idS_us (l:List wZ):Us (l.map idS):=fun x hx=>by obtain⟨t,_,rfl⟩:=qai.1 hx;exact idS_u64 t
def checkB (w:Int) (b:wH):Int:=if validB b≠0 then validB b else if b.wW≠w then 17 else if Int.tmod (hashB 15 (namS b)) b.wW≠0 then 17 else 0
theorem kbb {r:wE} (h:rulesE r=0):rulesB r=true:=by
 cases hb:rulesB r with
 |true=>rfl
 |false=>unfold rulesE at h;rw[hb]at h;cases h
theorem new_PI {r:wE} (h:rulesE r=0) (h0:0<=r.wV):PI (newS r) 0 0:=by
 have hb:=kbb h;simp only[rulesB,qe,qaf]at hb;have hr:=kfd (d:=r.wB) (l:=[]) qqo (qax _);refine⟨(by show 1<=r.wB;omega),(by show r.wB<=12;omega),(by show 1<=r.wc;omega),(by show r.wc<=100;omega),⟨h0,(by show r.wV<=4294967296;omega)⟩,rfl,qax _,(fun x hx=>by cases hx),k4m 0,qck _,qck _,?_,?_,rfl,qr _,qel,(fun x hx=>by cases hx),qax _,rfl⟩
 ·show(0:Int)+0+0=((0:Nat):Int)*r.wV;simp
 ·intro x hx;rw[qag.1 hx,hr];exact TT_r (fun x hx=>by cases hx) _ _
theorem PI.mono {s:PS} {c d:Nat} {f:Int} (h:PI s c f) (hd:c<=d):PI s d f:=⟨h.d1,h.d2,h.w1,h.w2,h.rw,h.F,h.ll,h.l,⟨h.b.1,h.b.2.1,qbf h.b.2.2 hd⟩,h.n,h.ff,h.sup,h.r,h.rl,qbf h.p hd,h.kn,h.kb,qbf h.kl (Nat.mul_le_mul_left 4 hd),h.v⟩
theorem kku {s:PS} {b:wH} (h:(applyS s b).e≠0):(applyS s b).s=s:=by
 unfold applyS at h ⊢;split
 ·rfl
 ·rename_i h1;rw[qf h1]at h;split
  ·rfl
  ·rename_i h2;rw[qf h2]at h;split
   ·rfl
   ·rename_i h3;rw[qf h3]at h;exact(h rfl).elim
theorem apply_R {s:PS} {c:Nat} (h:PI s c 0) {b:wH} (hc:c+b.Txs.length<=790) (hb:BR' b):(applyS s b).s.R=s.R:=by
 have hB:=blkS_BI h qqo hb;unfold applyS;split
 ·rfl
 ·split
  ·rfl
  ·split
   ·rfl
   ·exact hB.R
theorem sup_PI {s:PS} {c:Nat} (h:PI s c 0) (hc:c<=800):totA 0 s.b=(sumA s.b,0)/\u64.wrap (sumA s.b+s.n)=u64.wrap (u64.wrap (s.p.length:Int)*s.R.wV):=by
 obtain⟨s1,s2,s3,s4⟩:=sup_bd h hc;have hp:=h.p;have hs:=h.sup;refine⟨?_,?_⟩
 ·have:=tot_sum (l:=s.b) (s:=0) (fun a ha=>(h.b.1.2.2 a ha).2.1.1) qqo;rw[this,Int.zero_add]
 ·rw[wrap_u64 (s.p.length:Int) qqo qqo,<-hs];congr 1;omega
def smA (r:wE) (l:List wH):Bool:=decide (1<=r.wB)&&(decide (r.wB<=6)&&(decide ((l.length:Int)<=8)&&l.all (fun b=>decide ((b.Txs.length:Int)<=4)&&b.Txs.all (fun t=>smallB t 1200))))
def zeroR:wAv:=wAv.mk 0 0 0 0 0 0 0 0 0 [] 0 0 [] 0
def auGo:List wH->PS->PE
 |[],s=>⟨0,s⟩
 |b::r,s=>if(applyS s b).e=0 then auGo r (applyS s b).s else⟨(applyS s b).e,s⟩
theorem kmx {l:List wH} {k:Nat} (h:k<l.length) (s:PS):auGo (l.drop k) s=if(applyS s l[k]).e=0 then auGo (l.drop (k+1)) (applyS s l[k]).s else⟨(applyS s l[k]).e,s⟩:=by rw[qas h];rfl
def ndA (x:wAF):Int:=nd x.a0 x.a1
def ownP (p leaf s:Int):wAF:=if p%2=1 then⟨s,leaf⟩else⟨leaf,s⟩
def ownsL:Int->Int->Li->List wAF
 |_,_,[]=>[]
 |p,leaf,s::r=>ownP p leaf s::ownsL (p/2) (ndA (ownP p leaf s)) r
def realP (f:Nat->Int) (p i:Nat):wAF:=⟨TT f i (2*(p/2^i/2)),TT f i (2*(p/2^i/2)+1)⟩
def realsL (f:Nat->Int) (p n:Nat):List wAF:=(List.range n).map (realP f p)
def abvS (lv:Nat):Li->Li
 |a::b::r=>nd a b::abvS lv r
 |[a]=>[nd a (emp lv)]
 |[]=>[]
theorem khv (lv:Nat):∀l:Li,(abvS lv l).length<=l.length
 |[]=>qr _
 |[_]=>qr _
 |_::_::r=>by have:=khv lv r;simp only[abvS,qu];omega
theorem abvS_u (lv:Nat):∀l:Li,Us (abvS lv l)
 |[]=>fun x hx=>by cases hx
 |[_]=>fun x hx=>by rw[qag.1 hx];exact kj _ _
 |_::_::r=>fun x hx=>by
  rcases qak.1 hx with rfl|hx
  ·exact kj _ _
  ·exact abvS_u lv r x hx
theorem khr (lv:Nat):∀(l:Li) (p:Nat),(abvS lv l).getD p (emp (lv+1))=nd (l.getD (2*p) (emp lv)) (l.getD (2*p+1) (emp lv))
 |[],p=>by simp[abvS,emp]
 |[a],0=>by simp[abvS]
 |[a],p+1=>by rw[gD_ge (l:=[a]) (by simp only[qbn];omega),gD_ge (l:=[a]) (by simp only[qbn];omega),gD_ge (by simp[abvS])];rfl
 |a::b::r,0=>by simp[abvS]
 |a::b::r,p+1=>by have:=khr lv r p;rw[show 2*(p+1)=2*p+1+1 by omega];simpa[abvS]using this
theorem kmq (lv:Nat) (l:Li) (k:Nat) (h:2*k<l.length):abvS lv (l.drop (2*k))=nd (l.getD (2*k) 0) (l.getD (2*k+1) (emp lv))::abvS lv (l.drop (2*(k+1))):=by
 rw[qas h,gD_lt h];by_cases h2:2*k+1<l.length
 ·rw[qas h2,gD_lt h2];rfl
 ·rw[qav qqo,gD_ge qqo,qav qqo];rfl
def zeroF:wBC:=⟨0,0,0,0,[],0,0,[],0⟩
def unF:wBC:=⟨1,0,0,0,[],0,0,[],0⟩
def ownQ (x:wR):wD:=⟨1,[x.Key,u64.wrap x.wAd],x.wAE⟩
def comQ (n:wU) (a:Int):wD:=⟨2,noteL n,a⟩
def brQ (x:wAF) (a:Int):wD:=⟨6,[x.a0,x.a1],a⟩
def colF (a b:wD):wBC:=⟨2,0,0,a.wBJ,a.wBI,a.wBA,b.wBJ,b.wBI,b.wBA⟩
def wrgGo (o r:List wAF):Nat->On
 |0=>none
 |h+1=>if ix o (h:Int)≠ix r (h:Int)then some h else wrgGo o r h
def ancS (tr:List wv) (lv:Li) (root:Int):Nat->Li
 |0=>[]
 |h+1=>if(ix tr (h:Int)).root=root then lv.take (ix tr (h:Int)).leaves.toNat else ancS tr lv root h
structure EC where
 t:List wv
 l:Li
def leafS (x:wR):Int:=(commP pkR (noteOf x)).getD 0
def wrgF (ls:Li) (ns:List wU) (x:wR) (o r:List wAF):wBC:=
 match wrgGo o r o.length with
 |some k=>colF (brQ (ix o (k:Int)) (ndA (ix o (k:Int)))) (brQ (ix r (k:Int)) (ndA (ix o (k:Int))))
 |none=>if x.wN<ls.length/\x.wN<ns.length then colF (comQ (noteOf x) (leafS x)) (comQ (ix ns x.wN) (leafS x))else colF (comQ (noteOf x) (leafS x)) ⟨6,[],leafS x⟩
def wrgS (C:EC) (ns:List wU) (x:wR) (anchor h:Int):wBC:=wrgF (ancS C.t C.l anchor h.toNat) ns x (ownsL x.wN (leafS x) x.wAA) (realsL (lf (ancS C.t C.l anchor h.toNat)) x.wN.toNat x.wAA.length)
theorem k8r (ls:Li) (ns:List wU) (x:wR) (o r:List wAF):(wrgF ls ns x o r).wAb=2:=by
 unfold wrgF;split
 ·rfl
 ·split<;>rfl
structure EX where
 n:List wU
 k:Li
 v:List wR
 cr:Int
 sp:Int
 hd:Int
structure EIn where
 f:wBC
 c:Int
 a:Int
 k:Li
 v:List wR
def inpS (C:EC) (ns:List wU) (anchor h:Int):List wR->EIn->EIn
 |[],I=>I
 |x::r,I=>if x.wBM=true then inpS C ns anchor h r I
  else if(ns.length:Int)<=x.wN∨ix ns x.wN≠noteOf x then {I with f:=wrgS C ns x anchor h}
  else if x.wN∈I.k then {I with f:=colF (ownQ (mVal (BEq.beq x.wN) I.k I.v default)) (ownQ x)}
  else inpS C ns anchor h r ⟨I.f,i64.wrap (I.c+1),u64.wrap (I.a+x.ww),I.k++[x.wN],I.v++[x]⟩
def exIn (C:EC) (x:EX) (t:wZ) (w:wj) (h:Int):EIn:=inpS C x.n t.we h w.Ins ⟨zeroF,0,0,x.k,x.v⟩
structure EF where
 f:wBC
 x:EX
def exTx (C:EC) (d:Int) (x:EX) (t:wZ) (w:wj) (known:Bool) (h:Int):EF:=
 if known=false∨checkS pkR (stmtS t d) w≠0 then⟨unF,x⟩
 else if(exIn C x t w h).f.wAb≠0 then⟨(exIn C x t w h).f,{x with k:=(exIn C x t w h).k,v:=(exIn C x t w h).v}⟩
 else⟨zeroF,⟨x.n++w.wC,(exIn C x t w h).k,(exIn C x t w h).v,i64.wrap (x.cr+(w.wC.length:Int)),i64.wrap (x.sp+(exIn C x t w h).c),u64.wrap (x.hd+u64.wrap (outS w.wC-(exIn C x t w h).a))⟩⟩
def exTd (C:EC) (d h:Int) (x:EX) (t:wZ):EF:=exTx C d x t (decW t.wo).1 ((decW t.wo).2==0) h
def txsGo (C:EC) (d h:Int):Nat->List wZ->EX->EF
 |_,[],x=>⟨zeroF,x⟩
 |i,t::r,x=>if(exTd C d h x t).f.wAb≠0 then⟨{(exTd C d h x t).f with wM:=h,Tx:=(i:Int)},(exTd C d h x t).x⟩else txsGo C d h (i+1) r (exTd C d h x t).x
def chnGo (C:EC) (d:Int):List wH->EX->EF
 |[],x=>⟨zeroF,x⟩
 |b::r,x=>if(txsGo C d b.wM 0 b.Txs x).f.wAb≠0 then txsGo C d b.wM 0 b.Txs x else chnGo C d r (txsGo C d b.wM 0 b.Txs x).x
structure ECk (C:EC):Prop where
 t:∀x∈C.t,0<=x.leaves/\x.leaves<=C.l.length
 l:Us C.l
 ll:C.l.length<=4096
structure EXk (x:EX) (c:Nat):Prop where
 nl:x.n.length<=4*c
 nr:∀y∈x.n,NR y
 kv:x.k.length=x.v.length
 kp:∀p∈x.k,0<=p/\p<x.n.length
 nd:x.k.Nodup
 vr:∀y∈x.v,PR y
 sp:x.sp=x.k.length
 cr:x.cr=x.n.length
structure SPk (x:wR):Prop where
 n:NR (noteOf x)
 p0:0<=x.wN
 pm:x.wN<=64
 pl:x.wAA.length<=12
 pu:Us x.wAA
theorem kjs {C:EC} (h:ECk C) (root:Int):∀n:Nat,(ancS C.t C.l root n).length<=4096/\Us (ancS C.t C.l root n)
 |0=>⟨qax _,fun x hx=>by cases hx⟩
 |n+1=>by
  unfold ancS;split
  ·refine⟨by have:=h.ll;rw[qab];omega,fun x hx=>h.l x (qbh hx)⟩
  ·exact kjs h root n
theorem bitnot (n:Nat) (h:n<=64):ianot .i64 (n:Int) 1=((2*(n/2):Nat):Int)/\ior .i64 (n:Int) 1=((2*(n/2)+1:Nat):Int):=by
 have key:∀n∈List.range 65,ianot .i64 (n:Int) 1=((2*(n/2):Nat):Int)/\ior .i64 (n:Int) 1=((2*(n/2)+1:Nat):Int):=by decide
 exact key n qqm
theorem shr_nat (n i:Nat) (hi:i<=20):ishr .i64 (n:Int) (i:Int)=((n/2^i:Nat):Int):=by
 have e:min ((i:Int).toNat) i64.bits=i:=by rw[qt];exact qca (qbf hi qqd)
 rw[k1v,e];simp
theorem us2 {a b:Int} (ha:U64 a) (hb:U64 b):Us [a,b]:=by
 intro x hx;simp only[qak,List.mem_nil_iff,or_false]at hx;rcases hx with rfl|rfl
 ·exact ha
 ·exact hb
theorem pk_emp (q:List wD):pk false q [] []=pkR:=by funext l a;exact pk_real _ _ _
theorem kic (q:List wD):OrOk [] [] q:=⟨rfl,fun v hv=>by cases hv⟩
theorem k1x {p:Int} {l:Li}:mHas (BEq.beq p) l=true↔p∈l:=by
 rw[kop];constructor
 ·rintro ⟨x,hx,h⟩;have:p=x:=by simpa using h
  exact this▸hx
 ·intro h;exact⟨p,h,by simp⟩
theorem kn0 {β:Type} {p:Int} {l:Li} (h:mHas (BEq.beq p) l=false) (v:List β) (y:β):mPutK (BEq.beq p) l p=l++[p]/\mPutV (BEq.beq p) l v y=v++[y]:=by
 unfold mHas at h;unfold mPutK mPutV;cases hm:mIdx (BEq.beq p) l with
 |none=>exact⟨rfl,rfl⟩
 |some j=>rw[hm]at h;cases h
theorem note_ne (a:wU) (x:wR):(!((a.Value==x.ww)&&((a.wAs==x.wAE)&&((a.Rho==x.wAH)&&((a.wAu==x.wAU)&&true)))))=true↔a≠noteOf x:=by
 obtain⟨a1,a2,a3,a4⟩:=a;simp only[noteOf,Bool.and_true,qbk,qfl,beq_eq_false_iff_ne,ne_eq,wU.mk.injEq,not_and];constructor
 ·rintro (h|h|h|h) q1 q2 q3 q4
  ·exact h q1
  ·exact h q2
  ·exact h q3
  ·exact h q4
 ·intro h;by_cases q1:a1=x.ww
  ·by_cases q2:a2=x.wAE
   ·by_cases q3:a3=x.wAH
    ·exact .inr (.inr (.inr (h q1 q2 q3)))
    ·exact .inr (.inr (.inl q3))
   ·exact .inr (.inl q2)
  ·exact .inl q1
theorem nd_le:∀(n:Nat) (l:Li),l.Nodup->(∀p∈l,0<=p/\p<(n:Int))->l.length<=n
 |0,[],_,_=>qr _
 |0,a::_,_,h=>by have:=h a qqs;omega
 |n+1,l,hn,h=>by
  have ih:=nd_le n (l.erase (n:Int)) (hn.erase _) (fun p hp=>by
   have h1:=(List.Nodup.mem_erase_iff hn).1 hp;have:=h p h1.2;have:=h1.1;omega)
  by_cases hm:(n:Int)∈l
  ·rw[List.length_erase_of_mem hm]at ih;omega
  ·rw[List.erase_of_not_mem hm]at ih;omega
theorem pair_ne (a b:wAF):(!((a.a0==b.a0)&&((a.a1==b.a1)&&true)))=true↔a≠b:=by
 obtain⟨a0,a1⟩:=a;obtain⟨b0,b1⟩:=b;simp only[Bool.and_true,qbk,qfl,beq_eq_false_iff_ne,ne_eq,wAF.mk.injEq,not_and];constructor
 ·rintro (h|h) q1 q2
  ·exact h q1
  ·exact h q2
 ·intro h;by_cases q1:a0=b0
  ·exact .inr (h q1)
  ·exact .inl q1
theorem leafS_u (x:wR):U64 (leafS x):=by
 unfold leafS commP;split
 ·rcases pkR_u (l:=2) (a:=noteL (noteOf x))with h|⟨n,h,hn⟩
  ·rw[h];decide
  ·rw[h];exact hn
 ·decide
theorem kfh:∀(p leaf:Int) (l:Li),(ownsL p leaf l).length=l.length
 |_,_,[]=>rfl
 |p,leaf,s::r=>by rw[ownsL,qu,kfh,qu]
theorem ownsL_u:∀(p leaf:Int) (l:Li),U64 leaf->Us l->∀x∈ownsL p leaf l,U64 x.a0/\U64 x.a1
 |_,_,[],_,_,x,hx=>by cases hx
 |p,leaf,s::r,hl,hu,x,hx=>by
  rw[ownsL]at hx;rcases qak.1 hx with rfl|hx
  ·unfold ownP;split
   ·exact⟨hu s qqs,hl⟩
   ·exact⟨hl,hu s qqs⟩
  ·exact ownsL_u _ _ r (kj _ _) (fun y hy=>hu y (by simp[hy])) x hx
theorem kl6 (f:Nat->Int) (p n:Nat):(realsL f p n).length=n:=by simp[realsL]
theorem rhoS_u (o i:Int):U64 (rhoS o i):=by
 unfold rhoS;split
 ·exact kj _ _
 ·decide
theorem bindS_u (t:wZ):U64 (bindS t):=by
 unfold bindS;split
 ·exact kj _ _
 ·decide
theorem stmt_SR {t:wZ} {d:Int} (h:TR t) (hd: -9223372036854775808<=d/\d<=9223372036854775807):SR (stmtS t d):=by
 unfold stmtS;split
 ·rename_i hv;have v:=(k12 t).1 hv;refine⟨hd,h.a,h.m,(by show t.wI.length<=_;have:=v.ml;omega),fun x hx=> ?_,(by have:=v.ol;simp;omega),fun x hx=> ?_,(by have:=v.ol;simp;omega),h.d,h.w,h.f,h.ac,bindS_u t⟩
  ·obtain⟨o,ho,rfl⟩:=qai.1 hx;exact(h.o o ho).c
  ·obtain⟨i,_,rfl⟩:=qai.1 hx;exact rhoS_u _ _
 ·exact⟨⟨(by simp only;omega),(by simp only;omega)⟩,(by decide:U64 0),fun x hx=>(by cases hx),(by decide:(0:Nat)<=_),fun x hx=>(by cases hx),(by decide:(0:Nat)<=_),fun x hx=>(by cases hx),(by decide:(0:Nat)<=_),(by decide:U64 0),(by decide:U64 0),(by decide:U64 0),(by decide:U64 0),(by decide:U64 0)⟩
theorem pow6 {d:Int} (h:d<=6):(2:Int)^d.toNat<=64:=by
 have key:∀n:Nat,n<=6->(2:Int)^n<=64:=by decide
 exact key d.toNat qqo
theorem rel_in {s:wAC} {w:wj} (h:relV s w=true) (hd:s.wB<=6) (hW:WR w):(∀x∈w.Ins,SPk x/\PR x)/\w.Ins.length<=4/\w.wC.length<=4/\∀x∈w.wC,NR x:=by have h:=kn4.1 h;obtain⟨_,h2,_,_,_,_,_,_,_,_,h11,_,_,h14,h15,_⟩:=h;refine⟨fun x hx=> ?_,h11,h14,hW.o⟩;have hi:=qbo.1 h15 x hx;unfold inV at hi;simp only[qe,qaf]at hi;obtain⟨⟨hs,hl⟩,hp⟩:=hi;have hs:=k2q.1 hs;have:=pow6 hd;have hq:=hW.i x hx;exact⟨⟨hq.n,hs.2.2.2.2.1,by omega,by omega,hq.pa⟩,hq⟩
structure EIk (ns:List wU) (I:EIn):Prop where
 kv:I.k.length=I.v.length
 kp:∀p∈I.k,0<=p/\p<ns.length
 nd:I.k.Nodup
 vr:∀y∈I.v,PR y
def valL (l:List wR):Int:=(l.map (fun x=>if x.wBM=true then 0 else x.ww)).sum
theorem inpS_ok (C:EC) (ns:List wU) (an h:Int):∀(l:List wR) (I:EIn),(∀x∈l,SPk x/\PR x)->EIk ns I->0<=I.c->I.c+l.length<=9223372036854775807->(inpS C ns an h l I).f.wAb≠2->
  EIk ns (inpS C ns an h l I)/\(inpS C ns an h l I).c-I.c=(inpS C ns an h l I).k.length-(I.k.length:Int)/\(inpS C ns an h l I).a%18446744073709551616=(I.a+valL l)%18446744073709551616
 |[],I,_,hI,_,_,_=>⟨hI,by simp[inpS],by simp[inpS,valL]⟩
 |x::r,I,hl,hI,hc,hb,hk=>by
  obtain⟨sx,px⟩:=hl x qqs;have hr:∀y∈r,SPk y/\PR y:=fun y hy=>hl y (by simp[hy]);have hb:I.c+(r.length+1:Nat)<=9223372036854775807:=by simpa using hb
  unfold inpS at hk ⊢;split at hk
  ·rename_i h1;rw[qi h1];obtain⟨g1,g2,g3⟩:=inpS_ok C ns an h r I hr hI hc qqo hk;refine⟨g1,g2,?_⟩;rw[g3,valL,valL,qad,List.sum_cons,qi h1,Int.zero_add]
  ·rename_i h1;rw[qf h1];split at hk
   ·exact(hk (k8r _ _ _ _ _)).elim
   ·rename_i h2;rw[qf h2];split at hk
    ·exact(hk rfl).elim
    ·rename_i h3;rw[qf h3];have h2:¬((ns.length:Int)<=x.wN):=fun hh=>h2 (.inl hh);have e1:i64.wrap (I.c+1)=I.c+1:=wi _ qqo qqo
     have hI2:EIk ns ⟨I.f,i64.wrap (I.c+1),u64.wrap (I.a+x.ww),I.k++[x.wN],I.v++[x]⟩:=by
      refine⟨by simp[hI.kv],fun p hp=> ?_,?_,fun y hy=> ?_⟩
      ·rcases qae.1 hp with hp|hp
       ·exact hI.kp p hp
       ·rw[qag.1 hp];exact⟨sx.p0,by omega⟩
      ·rw[qcb];exact⟨hI.nd,by simp,fun a ha b hb e=>by rw[qag.1 hb]at e;exact h3 (e▸ha)⟩
      ·rcases qae.1 hy with hy|hy
       ·exact hI.vr y hy
       ·rw[qag.1 hy];exact px
     obtain⟨g1,g2,g3⟩:=inpS_ok C ns an h r _ hr hI2 (by simp only[e1];omega) (by simp only[e1];omega) hk;refine⟨g1,?_,?_⟩
     ·simp only[e1,qj,qbn]at g2 ⊢;omega
     ·rw[g3,valL,valL,qad,List.sum_cons,qf h1];simp only;rw[show u64.wrap (I.a+x.ww)=(I.a+x.ww)%18446744073709551616 from rfl];omega
theorem exTx_un {C:EC} {d h:Int} {x:EX} {t:wZ} {w:wj} {k:Bool} (hf:(exTx C d x t w k h).f.wAb=0):k=true/\checkS pkR (stmtS t d) w=0/\(exIn C x t w h).f.wAb=0/\(exTx C d x t w k h).f=zeroF/\
  (exTx C d x t w k h).x=⟨x.n++w.wC,(exIn C x t w h).k,(exIn C x t w h).v,i64.wrap (x.cr+(w.wC.length:Int)),i64.wrap (x.sp+(exIn C x t w h).c),u64.wrap (x.hd+u64.wrap (outS w.wC-(exIn C x t w h).a))⟩:=by
 unfold exTx at hf ⊢;split at hf
 ·cases hf
 ·rename_i h1;rw[qf h1];split at hf
  ·rename_i h2;exact(h2 hf).elim
  ·rename_i h2;rw[qf h2];refine⟨?_,qah fun hh=>h1 (.inr hh),qah h2,rfl,rfl⟩;cases k with
   |true=>rfl
   |false=>exact(h1 (.inl rfl)).elim
theorem ke0 {t:wZ} {d:Int} (h1:1<=d):(stmtS t d).wB<=d:=by
 unfold stmtS;split
 ·exact qck _
 ·simp only;omega
theorem exTx_ok {C:EC} {d h:Int} {x:EX} {c:Nat} {t:wZ} {w:wj} {k:Bool} (hx:EXk x c) (hc:c<=1000) (hd:1<=d/\d<=6) (hW:k=true->WR w) (hf:(exTx C d x t w k h).f.wAb=0):
  EXk (exTx C d x t w k h).x (c+1)/\(exTx C d x t w k h).x.hd%18446744073709551616=(x.hd+outS w.wC-valL w.Ins)%18446744073709551616:=by
 obtain⟨rfl,f2,f3,f4,f5⟩:=exTx_un hf;have hr:=(kao.1 f2).1;obtain⟨r1,r2,r3,r4⟩:=rel_in hr (qej (ke0 hd.1) hd.2) (hW rfl);have hkl:x.k.length<=x.n.length:=nd_le _ _ hx.nd hx.kp;have hnl:=hx.nl;have hb:0+(w.Ins.length:Int)<=9223372036854775807:=by omega
 obtain⟨g1,g2,g3⟩:=inpS_ok C x.n t.we h w.Ins ⟨zeroF,0,0,x.k,x.v⟩ r1 ⟨hx.kv,hx.kp,hx.nd,hx.vr⟩ (qck _) hb (by show(exIn C x t w h).f.wAb≠2;rw[f3];decide);rw[f5];have g2:(exIn C x t w h).c-0=(exIn C x t w h).k.length-(x.k.length:Int):=g2;have g3:(exIn C x t w h).a%18446744073709551616=(0+valL w.Ins)%18446744073709551616:=g3;have g1:EIk x.n (exIn C x t w h):=g1;have hsp:=hx.sp;have hcr:=hx.cr;have hkl2:(exIn C x t w h).k.length<=x.n.length:=nd_le _ _ g1.nd g1.kp;refine⟨⟨?_,?_,g1.kv,fun p hp=> ?_,g1.nd,g1.vr,?_,?_⟩,?_⟩
 ·simp only[qj];omega
 ·intro y hy;rcases qae.1 hy with hy|hy
  ·exact hx.nr y hy
  ·exact r4 y hy
 ·have:=g1.kp p hp;simp only[qj];omega
 ·simp only;rw[wi _ qqo qqo];omega
 ·simp only[qj];rw[wi _ qqo qqo];omega
 ·simp only;rw[show∀z,u64.wrap z=z%18446744073709551616 from fun _=>rfl,show∀z,u64.wrap z=z%18446744073709551616 from fun _=>rfl];omega
theorem decW_WR {b:Li} (h:((decW b).2==0)=true):WR (decW b).1:=by
 rcases ke3 b with⟨w,hE,e⟩|e
 ·rw[e];obtain⟨v1,v2,v3,v4,v5⟩:=k41.1 hE.v;have hq:=hE.r
  exact⟨fun x hx=>by
   have h1:=hq.i x hx;have h2:=(k2q.1 (v4 x hx)).2.2.2.2.2.2.1;exact⟨h1.n,h1.k,h1.nu,h1.po,h1.pa,by omega⟩,by show w.Ins.length<=_;omega,hq.o,by show w.wC.length<=_;omega,hq.s⟩
 ·rw[e]at h;cases h
structure CHk (d:Int) (l:List wH) (t:List wv) (lv:Li) (x:EX):Prop where
 C:ECk ⟨t,lv⟩
 d1:1<=d
 d6:l≠[]->d<=6
 h:∀b∈l,0<=b.wM/\b.wM<=t.length/\b.wM<=9223372036854775807
 tl:∀b∈l,b.Txs.length<=4
 t:∀b∈l,∀t∈b.Txs,TR t/\t.wo.length<=137438953472
 len:l.length<=12
 x:EXk x 0
theorem kkv {C:EC} {d:Int} {l:List wH} {k:Nat} (h:k<l.length) (x:EX):chnGo C d (l.drop k) x=if(txsGo C d (ix l (k:Int)).wM 0 (ix l (k:Int)).Txs x).f.wAb≠0 then txsGo C d (ix l (k:Int)).wM 0 (ix l (k:Int)).Txs x else chnGo C d (l.drop (k+1)) (txsGo C d (ix l (k:Int)).wM 0 (ix l (k:Int)).Txs x).x:=by rw[qas h,ix_get _ _ h];rfl
def rtS (s:PS):Int:=if s.r=[]then 0 else ix s.r ((s.r.length:Int)-1)
def treS (s:PS):wv:=⟨rtS s,(s.l.length:Int)⟩
def trGo:List wH->PS->List wv
 |[],_=>[]
 |b::r,s=>treS (applyS s b).s::trGo r (applyS s b).s
def ex0:EX:=⟨[],[],[],0,0,0⟩
def exmC (r:wE) (l:List wH):EC:=⟨treS (newS r)::trGo l (newS r),(auGo l (newS r)).s.l⟩
def exmY (r:wE) (l:List wH):EF:=chnGo (exmC r l) r.wB l ex0
def exmS (r:wE) (l:List wH):wAv×Int:=if rulesE r=0 then(if(auGo l (newS r)).e=0 then(wAv.mk (u64.wrap (u64.wrap (l.length:Int)*r.wV)) (totA 0 (auGo l (newS r)).s.b).1 (exmY r l).x.hd (exmY r l).x.cr (exmY r l).x.sp (exmY r l).f.wAb (exmY r l).f.wM (exmY r l).f.Tx (exmY r l).f.wAw (exmY r l).f.wAy (exmY r l).f.wAo (exmY r l).f.wAz (exmY r l).f.wAx (exmY r l).f.wAn,0)else(zeroR,(auGo l (newS r)).e))else(zeroR,rulesE r)
def audS (ideal:Bool) (r:wE) (l:List wH):wAv×Int:=if rulesE r≠0 then(zeroR,rulesE r)else if r.wb≠2∨ideal=true then(zeroR,1)else exmS r l
structure BLk (l:List wH):Prop where
 r:∀b∈l,BR' b
 tl:∀b∈l,b.Txs.length<=4
 len:l.length<=12
theorem klw {l:List wH} {k:Nat} (h:k<l.length) (s:PS):trGo (l.drop k) s=treS (applyS s l[k]).s::trGo (l.drop (k+1)) (applyS s l[k]).s:=by rw[qas h];rfl
theorem k7b {s:PS} {b:wH} (h:(applyS s b).e=0):b.wM=(s.p.length:Int)+1/\(applyS s b).s.p.length=s.p.length+1/\(blkS s [] b).e=0/\(applyS s b).s.n=(blkS s [] b).s.n/\(applyS s b).s.l=(blkS s [] b).s.l:=by
 unfold applyS at h ⊢;split at h
 ·cases h
 ·rename_i h1;rw[qf h1];split at h
  ·cases h
  ·rename_i h2;rw[qf h2];split at h
   ·rename_i h3;exact(h3 h).elim
   ·rename_i h3;rw[qf h3];exact⟨qah h1,by simp,qah h3,rfl,rfl⟩
theorem klr {s:PS} {c:Nat} (h:PI s c 0) {b:wH} (hc:c+b.Txs.length<=790) (hb:BR' b) (he:(applyS s b).e=0):s.l.length<=(applyS s b).s.l.length:=by have hB:=blkS_BI h qqo hb;rw[(k7b he).2.2.2.2];obtain⟨x,hx⟩:=hB.l;rw[hx,qj];omega
theorem ex0_k:EXk ex0 0:=⟨qax _,fun y hy=>(by cases hy),rfl,fun p hp=>(by cases hp),qel,fun y hy=>(by cases hy),rfl,rfl⟩
theorem auGo_PI:∀(l:List wH) (s:PS) (c:Nat),PI s c 0->(∀b∈l,BR' b)->(∀b∈l,b.Txs.length<=4)->c+5*l.length<=790->(auGo l s).e=0->PI (auGo l s).s (c+5*l.length) 0/\(auGo l s).s.p.length=s.p.length+l.length/\(auGo l s).s.R=s.R
 |[],s,c,h,_,_,_,_=>⟨h,by simp[auGo],rfl⟩
 |b::r,s,c,h,hb,ht,hc,he=>by
  have hc:c+5*(r.length+1)<=790:=hc;unfold auGo at he ⊢;split at he
  ·rename_i h1;rw[qi h1];have h4:=ht b qqs;have hP:=(kbl h qqo (hb b qqs) h1).mono (d:=c+5) qqo;obtain⟨g1,g2,g3⟩:=auGo_PI r _ (c+5) hP (fun x hx=>hb x (by simp[hx])) (fun x hx=>ht x (by simp[hx])) qqo he;refine⟨?_,?_,?_⟩
   ·rw[qu,show c+5*(r.length+1)=c+5+5*r.length by omega];exact g1
   ·rw[g2,(k7b h1).2.1,qu];omega
   ·rw[g3];exact apply_R h qqo (hb b qqs)
  ·rename_i h1;exact(h1 he).elim
theorem km7 {P:Program} {f:FuncId} {a b n:Int} {e:TypeId} {m:Int} (hs:SoundH P f [.d (.int .u64 m),.d (.int .u64 6),.d (.slice 1 [.int .u64 a,.int .u64 b])] [] (.d (.int .u64 n)) []) {G:Gh} {w:World} (hW:Go.Bv.WR (tkOf G []) w.heap.size G w (hpOf 0 []) 0):
  Calls P f #[.int .u64 m,.int .u64 6,.slice (some ⟨w.heap.size,0,none⟩) 2 2] (w.alloc (.cells #[.int .u64 a,.int .u64 b] e)) fun e w' =>∃v G',e= .returned v/\v= .int .u64 n/\Go.Bv.WR (tkOf G []) w.heap.size G' w' (hpOf 0 []) 0/\Fr (tkOf G []) G w G' w'/\Ex (tkOf G []) G w G' w' (hpOf 0 []) 0:=by
 have hR0:R (tkOf G []) G w 0 ⟨[],hpOf 0 [],0⟩ ⟨#[],[]⟩ G w:=⟨⟨rfl,rfl,rfl,qr _,fun _ _ _=>⟨rfl,rfl⟩,Mono.refl _ _⟩,hW,rfl,rfl,fun t=> .any _,⟨qr _,fun _ _ _ h=>h,fun tok t' _ h=>⟨t',h,qr _,fun _ _ hb=>⟨hb,rfl,rfl⟩⟩,fun _ _ h=>h⟩⟩
 obtain⟨G1,hR1,hp⟩:=hR0.alloc e [.int .u64 a,.int .u64 b] [.d (.int .u64 a),.d (.int .u64 b)] rfl (fun x hx=>by
  simp only[qak,List.mem_nil_iff,or_false]at hx;rcases hx with rfl|rfl<;>rfl) (fun j v x hv hx=>by
  match j with
  |0=>cases hv;cases hx;exact .d _ _ (.int _ _)
  |1=>cases hv;cases hx;exact .d _ _ (.int _ _)
  |j+2=>simp at hv)
 obtain⟨G2,hR2,he,hv⟩:=hR1.freeze (id:=0) (l:=[.int .u64 a,.int .u64 b]) (sz:=1) (n:=2) rfl (fun d hd=>by
  simp only[qak,List.mem_nil_iff,or_false]at hd;rcases hd with rfl|rfl<;>exact⟨rfl,fun c hc=>by simp only[D.cells,qag]at hc;subst hc;rfl⟩) rfl
 have hT:(tkOf G []).nx=0:=rfl;have hw1:(w.alloc (.cells #[.int .u64 a,.int .u64 b] e)).heap[w.heap.size]? =some (.cells #[.int .u64 a,.int .u64 b] e (0,0)):=by show(w.heap.push _)[w.heap.size]? =_;simp
 have hrow:RepV G2 (w.alloc (.cells #[.int .u64 a,.int .u64 b] e)) ((1,.tip 2)::(0,.dead)::(0,.cells [.d (.int .u64 a),.d (.int .u64 b)])::hpOf 0 []) 2 (.slice (some ⟨w.heap.size,0,none⟩) 2 2) (.row 0 0 2 1):=by
  cases hp with
  |ptr _ _ b' hid hl=>exact .row 0 0 2 1 w.heap.size 0 2 2 qqo (he.loc 0 _ hid hl) (fun _=>rfl) (qr _) qqd (csz_of hw1) qqo
 have hsl:=(hv _ hrow).le1 (y:= .d (.slice 1 [.int .u64 a,.int .u64 b])) ⟨rfl,rfl⟩;refine(hR2.call (vs:=[.int .u64 m,.int .u64 6,.slice (some ⟨w.heap.size,0,none⟩) 2 2]) hs (fun i o hg=> ?_) (ids:=[]) (fb:=2) (nx' :=2) trivial qel ⟨qr _,fun o ho=>by cases ho⟩ (.inl ⟨rfl,rfl⟩) rfl (fun j v x hv hx=> ?_) trivial).mono fun e w' ⟨v,G',h1,h2,h3,_⟩=> ?_
 ·simp only[Hp.get,hpOf]at hg;split at hg
  ·cases hg;trivial
  ·split at hg
   ·cases hg;trivial
   ·cases hg
 ·match j with
  |0=>cases hv;cases hx;exact⟨.d _ _ (.int _ _),trivial⟩
  |1=>cases hv;cases hx;exact⟨.d _ _ (.int _ _),trivial⟩
  |2=>cases hv;cases hx;exact⟨hsl,trivial⟩
  |j+3=>simp at hv
 ·have h4:=h2.le (s' :=⟨[],hpOf 0 [],0⟩) ⟨⟨qr _,qax _⟩,trivial,trivial⟩;have h3:RepV G' w' _ _ v (.d (.int .u64 n)):=h3;exact⟨v,G',h1,h3.int_inv,h4.wr,h4.fr,h4.ex⟩
theorem kky {a b n:Int} (hs:SoundH Tryz.prog 161 [.d (.int .u64 18446744069414584321),.d (.int .u64 6),.d (.slice 1 [.int .u64 a,.int .u64 b])] [] (.d (.int .u64 n)) []):SoundH Tryz.prog 306 [.agg [.d (.int .u64 a),.d (.int .u64 b)]] [] (.d (.int .u64 n)) []:=by
 intro G w vs hlen hrep hW
 match vs,hlen with
 |[v0],_=>
  obtain⟨us,rfl,h1,h2,h3⟩:=(hrep 0 v0 _ rfl rfl).agg_inv
  match us,h1 with
  |[u0,u1],_=>
   have e0:=(h3 0 u0 _ rfl rfl).int_inv;have e1:=(h3 1 u1 _ rfl rfl).int_inv;subst e0;subst e1;have hc:=km7 (e:=162) hs hW;clear hrep h2 h3 hs
   go_enter Tryz.func306,Tryz.ntmps306
   go_wp2_with (go_at_call 161;refine hc.mono ?_;rintro e w' ⟨v,G',rfl,rfl,q1,q2,q3⟩)
   go_ret
   exact⟨_,G',rfl,.d _ _ (.int _ _),q1,q2,q3⟩
def blkOf (x:wK):wH:=⟨x.wAZ,x.wAO,x.wAi,x.wAl,x.wAj,x.wAp⟩
def gB (k:Li) (v:List wK) (id:Int):wH:=blkOf (mVal (BEq.beq id) k v default)
def brS (k:Li) (v:List wK):Nat->Int->Li
 |0,_=>[]
 |h+1,p=>brS k v h (gB k v p).wh++[p]
def brB (k:Li) (v:List wK) (b:wH):Li:=brS k v (b.wM-1).toNat b.wh
def pthI (k:Li) (v:List wK) (id:Int):Li:=brB k v (gB k v id)++[id]
def stL (R:wE) (k:Li) (v:List wK) (l:Li):PE:=auGo (l.map (gB k v)) (newS R)
def undoN:Nat->PS->PS
 |0,s=>s
 |k+1,s=>undoN k (undoS s)
theorem k6c:∀(k:Nat) (s:PS),undoN (k+1) s=undoS (undoN k s)
 |0,_=>rfl
 |k+1,s=>k6c k (undoS s)
theorem k2p (b:wH) (r:List wH) (s:PS):auGo (b::r) s=if(applyS s b).e=0 then auGo r (applyS s b).s else⟨(applyS s b).e,s⟩:=rfl
theorem k6i:∀(a b:List wH) (s:PS),(auGo a s).e=0->auGo (a++b) s=auGo b (auGo a s).s
 |[],b,s,_=>rfl
 |x::a,b,s,h=>by
  rw[k2p]at h;rw[List.cons_append,k2p,k2p];split at h
  ·rename_i h1;rw[qi h1,qi h1];exact k6i a b _ h
  ·rename_i h1;exact(h1 h).elim
theorem kb7:∀(a b:List wH) (s:PS),(auGo (a++b) s).e=0->(auGo a s).e=0
 |[],b,s,_=>rfl
 |x::a,b,s,h=>by
  rw[List.cons_append,k2p]at h;rw[k2p];split at h
  ·rename_i h1;rw[qi h1];exact kb7 a b _ h
  ·rename_i h1;exact(h1 h).elim
theorem kj1 {b:wH} {s:PS} (h:(applyS s b).e=0):auGo [b] s=⟨0,(applyS s b).s⟩:=by unfold auGo;rw[qi h];rfl
def BLs (l:List wH):Prop:=(∀b∈l,BR' b)/\∀b∈l,b.Txs.length<=4
theorem kch {α:Type} (p:α->Bool):∀(l m:List α),mIdx p (l++m)=match mIdx p l with|some j=>some j|none=>(mIdx p m).map (·+l.length)
 |[],m=>by simp[mIdx]
 |x::l,m=>by
  show(bif p x then some 0 else(mIdx p (l++m)).map (·+1))=match(bif p x then some 0 else(mIdx p l).map (·+1))with|some j=>some j|none=>(mIdx p m).map (·+(x::l).length);cases h:p x with
  |true=>rfl
  |false=>
   simp only[qbp];rw[kch p l m];cases mIdx p l with
   |some j=>rfl
   |none=>
    simp only[Option.map_none];cases mIdx p m with
    |none=>rfl
    |some j=>simp only[qau,qu];congr 1
theorem khy {β:Type} {x id:Int} {k:Li} {v:List β} {y d:β} (hx:x∈k) (hl:k.length=v.length):mVal (BEq.beq x) (k++[id]) (v++[y]) d=mVal (BEq.beq x) k v d:=by
 have h:=k1x.2 hx;unfold mHas at h;unfold mVal;rw[kch];cases hm:mIdx (BEq.beq x) k with
 |none=>rw[hm]at h;cases h
 |some j=>
  obtain⟨z,h1,h2⟩:=k4u hm;have hj:j<v.length:=by have:=(qg.1 h1).1;omega
  simp only;rw[qaq hj]
theorem kj7 {β:Type} {id:Int} {k:Li} {v:List β} {y d:β} (hx:id∉k) (hl:k.length=v.length):mVal (BEq.beq id) (k++[id]) (v++[y]) d=y:=by
 have h:mHas (BEq.beq id) k=false:=by
  cases hc:mHas (BEq.beq id) k with
  |false=>rfl
  |true=>exact(hx (k1x.1 hc)).elim
 unfold mHas at h;unfold mVal;rw[kch];cases hm:mIdx (BEq.beq id) k with
 |some j=>rw[hm]at h;cases h
 |none=>
  have:mIdx (BEq.beq id) [id]=some 0:=by simp[mIdx]
  rw[this];simp[hl]
def accT (R:wE) (t:wZ):Bool:=(decW t.wo).2==0&&checkS pkR (stmtS t R.wB) (decW t.wo).1==0
def txE (R:wE) (t:wZ):Int:=if rulesE R≠0 then rulesE R else if validE t≠0 then validE t else if accT R t=false then 10 else 0
def txsE (R:wE):List wZ->Int
 |[]=>0
 |t::r=>if txE R t≠0 then txE R t else txsE R r
structure CS where
 R:wE
 k:Li
 v:List wK
 be:Li
 S:PS
 fi:Int
 he:Int
structure KI (R:wE) (k:Li) (v:List wK) (n:Nat):Prop where
 kv:k.length=v.length
 kn:k.length<=n
 r:∀id∈k,BR' (gB k v id)/\(gB k v id).Txs.length<=4
 h1:∀id∈k,1<=(gB k v id).wM/\(gB k v id).wM<=k.length
 hp:∀id∈k,1<(gB k v id).wM->(gB k v id).wh∈k/\(gB k v (gB k v id).wh).wM=(gB k v id).wM-1
 rep:∀id∈k,(stL R k v (pthI k v id)).e=0
 ac:∀id∈k,txsE R (gB k v id).Txs=0
 ru:rulesE R=0
 w:0<=R.wV
structure CI (c:CS) (n:Nat):Prop where
 K:KI c.R c.k c.v n
 be:c.be=[]∨∃id∈c.k,c.be=pthI c.k c.v id
 st:c.S=(stL c.R c.k c.v c.be).s
 he:0<=c.he/\c.he<=4294967296
theorem KI.way {R:wE} {k:Li} {v:List wK} {n:Nat} (h:KI R k v n):∀(m:Nat) (p:Int),p∈k->(gB k v p).wM=(m:Int)->brS k v m p=pthI k v p/\(pthI k v p).length=m/\∀x∈pthI k v p,x∈k
 |0,p,hp,hm=>by have:=(h.h1 p hp).1;omega
 |1,p,hp,hm=>by
  have e:brB k v (gB k v p)=[]:=by unfold brB;rw[hm];rfl
  refine⟨?_,?_,fun x hx=> ?_⟩
  ·unfold pthI;rw[e];rfl
  ·unfold pthI;rw[e];rfl
  ·unfold pthI at hx;rw[e]at hx;rw[qag.1 hx];exact hp
 |m+2,p,hp,hm=>by
  obtain⟨q1,q2⟩:=h.hp p hp qqo;obtain⟨w1,w2,w3⟩:=h.way (m+1) (gB k v p).wh q1 (by rw[q2,hm];omega);have e:brB k v (gB k v p)=pthI k v (gB k v p).wh:=by unfold brB;rw[show((gB k v p).wM-1).toNat=m+1 by omega];exact w1
  have e2:pthI k v p=pthI k v (gB k v p).wh++[p]:=by
   conv=>lhs;unfold pthI
   rw[e]
  refine⟨?_,?_,fun x hx=> ?_⟩
  ·rw[e2,<-w1];rfl
  ·rw[e2,qj,w2];rfl
  ·rw[e2]at hx;rcases qae.1 hx with hx|hx
   ·exact w3 x hx
   ·rw[qag.1 hx];exact hp
theorem KI.pth {R:wE} {k:Li} {v:List wK} {n:Nat} (h:KI R k v n) {p:Int} (hp:p∈k):((pthI k v p).length:Int)=(gB k v p).wM/\(∀x∈pthI k v p,x∈k)/\(pthI k v p).length<=n:=by obtain⟨h1,h2⟩:=h.h1 p hp;obtain⟨m,hm⟩:=qo (show 0<=(gB k v p).wM by omega);obtain⟨_,w2,w3⟩:=h.way m p hp hm;have:=h.kn;exact⟨by omega,w3,by omega⟩
theorem KI.bls {R:wE} {k:Li} {v:List wK} {n:Nat} (h:KI R k v n) {l:Li} (hl:∀x∈l,x∈k):BLs (l.map (gB k v)):=by
 refine⟨fun b hb=> ?_,fun b hb=> ?_⟩
 ·obtain⟨x,hx,rfl⟩:=qai.1 hb;exact(h.r x (hl x hx)).1
 ·obtain⟨x,hx,rfl⟩:=qai.1 hb;exact(h.r x (hl x hx)).2
theorem KI.pi {R:wE} {k:Li} {v:List wK} {n:Nat} (h:KI R k v n) {l:Li} (hl:∀x∈l,x∈k) (hn:l.length<=20) (he:(stL R k v l).e=0):PI (stL R k v l).s (5*l.length) 0/\(stL R k v l).s.p.length=l.length/\(stL R k v l).s.R=R:=by have hB:=h.bls hl;have:=auGo_PI (l.map (gB k v)) (newS R) 0 (new_PI h.ru h.w) hB.1 hB.2 (by rw[ql];omega) he;rw[ql,qam]at this;obtain⟨a,b,c⟩:=this;exact⟨a,by show(auGo _ _).s.p.length=_;rw[b];exact qam _,c⟩
def PaOk (k:Li) (v:List wK) (b:wH):Prop:=(b.wM=1/\b.wh=0)∨(b.wM≠1/\b.wh∈k/\(gB k v b.wh).wM=b.wM-1)
def parS (k:Li) (v:List wK) (b:wH):Int:=if b.wM=1 then(if b.wh≠0 then 18 else 0)else if mHas (BEq.beq b.wh) k=false∨(gB k v b.wh).wM≠i64.wrap (b.wM-1)then 18 else 0
theorem KI.br {R:wE} {k:Li} {v:List wK} {n:Nat} (h:KI R k v n) {b:wH} (hb:PaOk k v b) (hh:1<=b.wM):((brB k v b).length:Int)=b.wM-1/\(∀x∈brB k v b,x∈k)/\(stL R k v (brB k v b)).e=0/\(brB k v b).length<=n/\b.wM<=k.length+1:=by
 rcases hb with⟨h1,h2⟩|⟨h1,h2,h3⟩
 ·have e:brB k v b=[]:=by unfold brB;rw[h1];rfl
  rw[e];exact⟨by simp;omega,fun x hx=>(by cases hx),rfl,qax _,by omega⟩
 ·obtain⟨m,hm⟩:=qo (show 0<=b.wM-1 by omega);have e:brB k v b=pthI k v b.wh:=by unfold brB;rw[hm,qt];exact(h.way m b.wh h2 (by rw[h3,hm])).1
  obtain⟨p1,p2,p3⟩:=h.pth h2;have:=(h.h1 b.wh h2).2;rw[e];exact⟨by rw[p1,h3],p2,h.rep _ h2,p3,by omega⟩
theorem gB_old {k:Li} {v:List wK} {id:Int} {y:wK} (hl:k.length=v.length) {x:Int} (hx:x∈k):gB (k++[id]) (v++[y]) x=gB k v x:=by unfold gB;rw[khy hx hl]
theorem gB_new {k:Li} {v:List wK} {id:Int} {y:wK} (hl:k.length=v.length) (hx:id∉k):gB (k++[id]) (v++[y]) id=blkOf y:=by unfold gB;rw[kj7 hx hl]
theorem KI.way_old {R:wE} {k:Li} {v:List wK} {n:Nat} (h:KI R k v n) {id:Int} {y:wK}:∀(m:Nat) (p:Int),p∈k->(gB k v p).wM=(m:Int)->brS (k++[id]) (v++[y]) m p=brS k v m p
 |0,p,_,_=>rfl
 |1,p,hp,hm=>rfl
 |m+2,p,hp,hm=>by obtain⟨q1,q2⟩:=h.hp p hp qqo;unfold brS;rw[gB_old h.kv hp,h.way_old (m+1) _ q1 (by rw[q2,hm];omega)]
theorem KI.pth_old {R:wE} {k:Li} {v:List wK} {n:Nat} (h:KI R k v n) {id:Int} {y:wK} {p:Int} (hp:p∈k):pthI (k++[id]) (v++[y]) p=pthI k v p:=by
 obtain⟨h1,_⟩:=h.h1 p hp;unfold pthI brB;rw[gB_old h.kv hp];obtain⟨m,hm⟩:=qo (show 0<=(gB k v p).wM-1 by omega);rw[hm,qt];cases m with
 |zero=>rfl
 |succ m=>obtain⟨q1,q2⟩:=h.hp p hp qqo;rw[h.way_old (m+1) _ q1 (by rw[q2,hm])]
theorem KI.br_old {R:wE} {k:Li} {v:List wK} {n:Nat} (h:KI R k v n) {id:Int} {y:wK} {b:wH} (hb:PaOk k v b) (hh:1<=b.wM):brB (k++[id]) (v++[y]) b=brB k v b:=by
 unfold brB;obtain⟨m,hm⟩:=qo (show 0<=b.wM-1 by omega);rw[hm,qt];cases m with
 |zero=>rfl
 |succ m=>
  rcases hb with⟨h1,h2⟩|⟨h1,h2,h3⟩
  ·omega
  ·rw[h.way_old (m+1) _ h2 (by rw[h3,hm])]
theorem stL_old {R:wE} {k:Li} {v:List wK} {id:Int} {y:wK} (hl:k.length=v.length) {l:Li} (hk:∀x∈l,x∈k):stL R (k++[id]) (v++[y]) l=stL R k v l:=by unfold stL;rw[qan (fun x hx=>gB_old hl (hk x hx))]
structure NB (R:wE) (k:Li) (v:List wK) (id:Int) (b:wH):Prop where
 n:id∉k
 p:PaOk k v b
 h:1<=b.wM
 r:BR' b
 t:b.Txs.length<=4
 e:(applyS (stL R k v (brB k v b)).s b).e=0
 a:txsE R b.Txs=0
theorem KI.step {R:wE} {k:Li} {v:List wK} {n:Nat} (h:KI R k v n) {id:Int} {y:wK} (hb:NB R k v id (blkOf y)):KI R (k++[id]) (v++[y]) (n+1)/\pthI (k++[id]) (v++[y]) id=brB k v (blkOf y)++[id]/\(stL R (k++[id]) (v++[y]) (brB k v (blkOf y)++[id]))=⟨0,(applyS (stL R k v (brB k v (blkOf y))).s (blkOf y)).s⟩:=by
 have hold:=fun {x:Int} (hx:x∈k)=>gB_old (id:=id) (y:=y) h.kv hx;have hnew:=gB_new (y:=y) h.kv hb.n;obtain⟨b1,b2,b3,b4,b5⟩:=h.br hb.p hb.h;have hkn:=h.kn;have hp:pthI (k++[id]) (v++[y]) id=brB k v (blkOf y)++[id]:=by unfold pthI;rw[hnew,h.br_old hb.p hb.h]
 have hs:(stL R (k++[id]) (v++[y]) (brB k v (blkOf y)++[id]))=⟨0,(applyS (stL R k v (brB k v (blkOf y))).s (blkOf y)).s⟩:=by have h1:=stL_old (R:=R) (id:=id) (y:=y) h.kv b2;unfold stL at h1 b3 ⊢;rw[qbi,k6i _ _ _ (by rw[h1];exact b3),h1,List.map_singleton,hnew];exact kj1 hb.e
 refine⟨⟨by simp[h.kv],by simp;omega,fun x hx=> ?_,fun x hx=> ?_,fun x hx hx1=> ?_,fun x hx=> ?_,fun x hx=> ?_,h.ru,h.w⟩,hp,hs⟩
 ·rcases qae.1 hx with hx|hx
  ·rw[hold hx];exact h.r x hx
  ·rw[qag.1 hx,hnew];exact⟨hb.r,hb.t⟩
 ·rw[qj,qbn];rcases qae.1 hx with hx|hx
  ·rw[hold hx];have:=h.h1 x hx;omega
  ·rw[qag.1 hx,hnew];exact⟨hb.h,by omega⟩
 ·rcases qae.1 hx with hx|hx
  ·rw[hold hx]at hx1 ⊢;obtain⟨q1,q2⟩:=h.hp x hx hx1;rw[hold q1];exact⟨by simp[q1],q2⟩
  ·rw[qag.1 hx,hnew]at hx1 ⊢;rcases hb.p with⟨q1,q2⟩|⟨q1,q2,q3⟩
   ·omega
   ·rw[hold q2];exact⟨by simp[q2],q3⟩
 ·rcases qae.1 hx with hx|hx
  ·rw[h.pth_old hx,stL_old h.kv (h.pth hx).2.1];exact h.rep x hx
  ·rw[qag.1 hx,hp,hs]
 ·rcases qae.1 hx with hx|hx
  ·rw[hold hx];exact h.ac x hx
  ·rw[qag.1 hx,hnew];exact hb.a
theorem rhoS_u8 (o i:Int):U64 (rhoS o i):=by
 unfold rhoS;split
 ·exact kj _ _
 ·decide
theorem kpk (t:wZ):U64 (bindS t):=by
 unfold bindS;split
 ·exact kj _ _
 ·decide
theorem kp3 {t:wZ} {d:Int} (h:TR t) (hd: -9223372036854775808<=d/\d<=9223372036854775807):SR (stmtS t d):=by
 unfold stmtS;split
 ·rename_i hv;have v:=(k12 t).1 hv;refine⟨hd,h.a,h.m,(by show t.wI.length<=_;have:=v.ml;omega),fun x hx=> ?_,(by have:=v.ol;simp;omega),fun x hx=> ?_,(by have:=v.ol;simp;omega),h.d,h.w,h.f,h.ac,kpk t⟩
  ·obtain⟨o,ho,rfl⟩:=qai.1 hx;exact(h.o o ho).c
  ·obtain⟨i,_,rfl⟩:=qai.1 hx;exact rhoS_u8 _ _
 ·exact⟨⟨(by simp only;omega),(by simp only;omega)⟩,(by decide:U64 0),fun x hx=>(by cases hx),(by decide:(0:Nat)<=_),fun x hx=>(by cases hx),(by decide:(0:Nat)<=_),fun x hx=>(by cases hx),(by decide:(0:Nat)<=_),(by decide:U64 0),(by decide:U64 0),(by decide:U64 0),(by decide:U64 0),(by decide:U64 0)⟩
theorem kpc {b:Li} (h:((decW b).2==0)=true):WR (decW b).1:=by
 rcases ke3 b with⟨w,hE,e⟩|e
 ·rw[e];obtain⟨v1,v2,v3,v4,v5⟩:=k41.1 hE.v;have hq:=hE.r
  exact⟨fun x hx=>by
   have h1:=hq.i x hx;have h2:=(k2q.1 (v4 x hx)).2.2.2.2.2.2.1;exact⟨h1.n,h1.k,h1.nu,h1.po,h1.pa,by omega⟩,by show w.Ins.length<=_;omega,hq.o,by show w.wC.length<=_;omega,hq.s⟩
 ·rw[e]at h;cases h
theorem orOk_q (q:List wD):OrOk [] [] q:=⟨rfl,fun v hv=>by cases hv⟩
def cpl:Li->Li->Nat
 |a::l,b::m=>if a=b then cpl l m+1 else 0
 |_,_=>0
theorem cpl_le:∀(l m:Li),cpl l m<=l.length/\cpl l m<=m.length/\l.take (cpl l m)=m.take (cpl l m)
 |[],m=>by simp[cpl]
 |a::l,[]=>by simp[cpl]
 |a::l,b::m=>by
  unfold cpl;split
  ·rename_i h;obtain⟨h1,h2,h3⟩:=cpl_le l m;subst h;simp only[qu,List.take_succ_cons,h3];exact⟨by omega,by omega,trivial⟩
  ·simp
theorem ki7:∀(i:Nat) (l m:Li),i<=cpl l m->(i=cpl l m↔¬(i<l.length/\i<m.length/\l.getD i 0=m.getD i 0))
 |i,[],m,h=>by
  have:i=0:=by simpa[cpl]using h
  subst this;simp[cpl]
 |i,a::l,[],h=>by
  have:i=0:=by simpa[cpl]using h
  subst this;simp[cpl]
 |0,a::l,b::m,_=>by
  unfold cpl;split
  ·rename_i h;simp[h]
  ·rename_i h;simp[h]
 |i+1,a::l,b::m,h=>by
  unfold cpl at h ⊢;split at h
  ·rename_i hab;rw[qi hab];have:=ki7 i l m qqo;simp only[qu,List.getD_cons_succ];constructor
   ·intro e;have:=this.1 qqo;omega
   ·intro e;have:=this.2 qqo;omega
  ·omega
def mvS (k:Li) (v:List wK) (S:PS) (n:Nat) (l:Li):PS:=(auGo (l.map (gB k v)) (undoN n S)).s
structure MvA (k:Li) (v:List wK) (S:PS) (n:Nat) (l:Li) (s0:PS) (c:Nat) (lf:List wH):Prop where
 hp:PI s0 c 0
 hn:lf.length=n
 hb:BLs lf
 ht:BLs (l.map (gB k v))
 hc:c+5*n+5*l.length<=700
 he:(auGo lf s0).e=0
 hs:S=(auGo lf s0).s
 hf:(auGo (l.map (gB k v)) s0).e=0
def MvOk (k:Li) (v:List wK) (S:PS) (n:Nat) (l:Li):Prop:=∃s0 c lf,MvA k v S n l s0 c lf
theorem BLs.take {l:List wH} (h:BLs l) (n:Nat):BLs (l.take n):=⟨fun b hb=>h.1 b (qbh hb),fun b hb=>h.2 b (qbh hb)⟩
theorem k8h (l:List wH) (s:PS) (n:Nat) (h:(auGo l s).e=0):(auGo (l.take n) s).e=0:=by rw[<-qbs n l]at h;exact kb7 _ _ _ h
theorem k9l {l:List wH} {s:PS} {n:Nat} (h:(auGo l s).e=0) (hn:n<l.length):(applyS (auGo (l.take n) s).s l[n]).e=0/\(auGo (l.take (n+1)) s).s=(applyS (auGo (l.take n) s).s l[n]).s:=by
 have h1:=k8h l s (n+1) h;have h2:=k8h l s n h;rw[qat hn]at h1 ⊢;rw[k6i _ _ _ h2]at h1 ⊢
 have h3:(applyS (auGo (l.take n) s).s l[n]).e=0:=by
  rw[k2p]at h1;split at h1
  ·rename_i h3;exact h3
  ·rename_i h3;exact(h3 h1).elim
 rw[kj1 h3];exact⟨h3,rfl⟩
theorem kav {l:List wH} {s:PS} {c:Nat} (h:(auGo l s).e=0) (hp:PI s c 0) (hb:BLs l) (n:Nat) (hn:n<=l.length) (hc:c+5*l.length<=790):PI (auGo (l.take n) s).s (c+5*n) 0:=by have:=(auGo_PI (l.take n) s c hp (hb.take n).1 (hb.take n).2 (by rw[qab];omega) (k8h l s n h)).1;rw[qab,qca hn]at this;exact this
theorem MvA.back {k:Li} {v:List wK} {S:PS} {n:Nat} {l:Li} {s0:PS} {c:Nat} {lf:List wH} (h:MvA k v S n l s0 c lf):∀i,i<=n->undoN i S=(auGo (lf.take (n-i)) s0).s
 |0,_=>by rw[h.hs,Nat.sub_zero,qw (by rw[h.hn];exact qr _)];rfl
 |i+1,hi=>by rw[k6c,h.back i qqo];have hn:=h.hn;have hc:=h.hc;obtain⟨g1,g2⟩:=k9l h.he (n:=n-(i+1)) qqo;rw[show n-i=n-(i+1)+1 by omega,g2];have hP:=kav h.he h.hp h.hb (n-(i+1)) qqo qqo;have hm:lf[n-(i+1)]' qqo∈lf:=qal _;have:=h.hb.2 _ hm;exact(kkp hP qqo (h.hb.1 _ hm) g1).1
theorem MvA.uok {k:Li} {v:List wK} {S:PS} {n:Nat} {l:Li} {s0:PS} {c:Nat} {lf:List wH} (h:MvA k v S n l s0 c lf) {i:Nat} (hi:i<n):UOk (undoN i S):=by rw[h.back i qqo];have hn:=h.hn;have hc:=h.hc;obtain⟨g1,g2⟩:=k9l h.he (n:=n-(i+1)) qqo;rw[show n-i=n-(i+1)+1 by omega,g2];have hP:=kav h.he h.hp h.hb (n-(i+1)) qqo qqo;have hm:lf[n-(i+1)]' qqo∈lf:=qal _;have:=h.hb.2 _ hm;exact kmj hP qqo (h.hb.1 _ hm) g1
theorem MvA.base {k:Li} {v:List wK} {S:PS} {n:Nat} {l:Li} {s0:PS} {c:Nat} {lf:List wH} (h:MvA k v S n l s0 c lf):undoN n S=s0:=by rw[h.back n (qr _),Nat.sub_self];rfl
theorem MvA.fwd {k:Li} {v:List wK} {S:PS} {n:Nat} {l:Li} {s0:PS} {c:Nat} {lf:List wH} (h:MvA k v S n l s0 c lf) {j:Nat} (hj:j<l.length):
  PI (auGo ((l.take j).map (gB k v)) s0).s (c+5*j) 0/\BR' (gB k v l[j])/\(gB k v l[j]).Txs.length<=4/\(auGo ((l.take (j+1)).map (gB k v)) s0).s=(applyS (auGo ((l.take j).map (gB k v)) s0).s (gB k v l[j])).s:=by
 have hc:=h.hc;have hl:(l.map (gB k v)).length=l.length:=ql _;have hP:=kav h.hf h.hp h.ht j qqo qqo;obtain⟨g1,g2⟩:=k9l h.hf (n:=j) qqo;rw[List.getElem_map]at g1 g2;rw[<-qcg]at hP g2 g1;rw[<-qcg]at g2;have hm:gB k v l[j]∈l.map (gB k v):=qai.2 ⟨l[j],qal _,rfl⟩;exact⟨hP,h.ht.1 _ hm,h.ht.2 _ hm,g2⟩
structure FH where
 f:Int
 h:Int
def finS (F:Int) (be:Li) (f h:Int):FH:=if 1<=(be.length:Int)-F/\h<(be.length:Int)-F then⟨ix be ((be.length:Int)-F-1),(be.length:Int)-F⟩else⟨f,h⟩
def wkS (v:List wK) (k:Li) (id:Int):Int:=(mVal (BEq.beq id) k v default).work
def betS (k:Li) (v:List wK) (be:Li) (id w:Int):Bool:=if be=[]then true else decide (wkS v k (ix be ((be.length:Int)-1))<w)||(w==wkS v k (ix be ((be.length:Int)-1))&&decide (id<ix be ((be.length:Int)-1)))
def stoS (b:wH) (w:Int):wK:=⟨b.wh,b.wM,b.wAT,b.wW,b.wY,b.Txs,w⟩
def wrkS (c:CS) (b:wH):Int:=if brB c.k c.v b=[]then b.wW else u64.wrap (b.wW+wkS c.v c.k b.wh)
structure SubR where
 u:Int
 a:Int
 e:Int
 c:CS
def addS' (c:CS) (b:wH):CS:={c with k:=c.k++[idB b],v:=c.v++[stoS b (wrkS c b)]}
def topS (c:CS) (b:wH):CS:={addS' c b with be:=brB c.k c.v b++[idB b],S:=(applyS (stL c.R c.k c.v (brB c.k c.v b)).s b).s,fi:=(finS c.R.wS (brB c.k c.v b++[idB b]) c.fi c.he).f,he:=(finS c.R.wS (brB c.k c.v b++[idB b]) c.fi c.he).h}
def subE (c:CS) (b:wH):Int:=
 if checkB c.R.wW b≠0 then checkB c.R.wW b else if idB b∈c.k then 5 else if parS c.k c.v b≠0 then parS c.k c.v b
 else if 0<c.he/\(((brB c.k c.v b).length:Int)<c.he∨ix (brB c.k c.v b) (c.he-1)≠c.fi)then 19
 else if txsE c.R b.Txs≠0 then txsE c.R b.Txs else(applyS (stL c.R c.k c.v (brB c.k c.v b)).s b).e
def subS (c:CS) (b:wH):SubR:=
 if subE c b≠0 then⟨0,0,subE c b,c⟩
 else if betS c.k c.v c.be (idB b) (wrkS c b)=false then⟨0,0,0,addS' c b⟩
 else⟨(c.be.length:Int)-(cpl (brB c.k c.v b) c.be:Int),((brB c.k c.v b).length:Int)+1-(cpl (brB c.k c.v b) c.be:Int),0,topS c b⟩
structure GB (b:wH):Prop where
 r:BR b
 l:∀t∈b.Txs,TL t
 t:b.Txs.length<=4
theorem GB.r' {b:wH} (h:GB b):BR' b:=⟨h.r.m,h.r.t,h.l⟩
structure SuO (c:CS) (b:wH):Prop where
 hc:checkB c.R.wW b=0
 hi:idB b∉c.k
 hp:parS c.k c.v b=0
 ht:txsE c.R b.Txs=0
 he:(applyS (stL c.R c.k c.v (brB c.k c.v b)).s b).e=0
theorem km4 {c:CS} {b:wH} (h:subE c b=0):SuO c b:=by
 unfold subE at h;split at h
 ·rename_i h1;exact(h1 h).elim
 ·rename_i h1;split at h
  ·cases h
  ·rename_i h2;split at h
   ·rename_i h3;exact(h3 h).elim
   ·rename_i h3;split at h
    ·cases h
    ·split at h
     ·rename_i h5;exact(h5 h).elim
     ·rename_i h5;exact⟨qah h1,h2,qah h3,qah h5,h⟩
theorem khj {w:Int} {b:wH} (h:checkB w b=0):VB b:=by
 unfold checkB at h;split at h
 ·rename_i h1;exact(h1 h).elim
 ·rename_i h1;exact(k5m b).1 (qah h1)
theorem parS_ok {k:Li} {v:List wK} {b:wH} (h:parS k v b=0) (v0:VB b):PaOk k v b:=by
 unfold parS at h;have h0:=v0.h.h0;have h1:=v0.h.h1;split at h
 ·rename_i h2;split at h
  ·cases h
  ·rename_i h3;exact .inl ⟨h2,qah h3⟩
 ·rename_i h2;split at h
  ·cases h
  ·rename_i h3;refine .inr ⟨h2,?_,?_⟩
   ·cases hm:mHas (BEq.beq b.wh) k with
    |true=>exact k1x.1 hm
    |false=>exact(h3 (.inl hm)).elim
   ·have:(gB k v b.wh).wM=i64.wrap (b.wM-1):=qah fun hh=>h3 (.inr hh);rw[this,wi _ qqo qqo]
theorem blk_sto (b:wH) (w:Int):blkOf (stoS b w)=b:=rfl
theorem SuO.nb {c:CS} {b:wH} (h:SuO c b) (hb:GB b):NB c.R c.k c.v (idB b) b:=by have v:=khj h.hc;exact⟨h.hi,parS_ok h.hp v,v.h.h0,hb.r',hb.t,h.he,h.ht⟩
theorem KI.mono {R:wE} {k:Li} {v:List wK} {n m:Nat} (h:KI R k v n) (hm:n<=m):KI R k v m:=⟨h.kv,qbf h.kn hm,h.r,h.h1,h.hp,h.rep,h.ac,h.ru,h.w⟩
theorem CI.mono {c:CS} {n m:Nat} (h:CI c n) (hm:n<=m):CI c m:=⟨h.K.mono hm,h.be,h.st,h.he⟩
theorem CI.bek {c:CS} {n:Nat} (h:CI c n):(∀x∈c.be,x∈c.k)/\c.be.length<=n/\(stL c.R c.k c.v c.be).e=0:=by
 rcases h.be with e|⟨id,h1,e⟩
 ·rw[e];exact⟨fun x hx=>(by cases hx),qax _,rfl⟩
 ·rw[e];obtain⟨_,p2,p3⟩:=h.K.pth h1;exact⟨p2,p3,h.K.rep _ h1⟩
theorem finS_h {F:Int} {be:Li} {f h:Int} (hF:1<=F) (hb:be.length<=1000) (hh:0<=h/\h<=4294967296):0<=(finS F be f h).h/\(finS F be f h).h<=4294967296:=by
 unfold finS;split
 ·simp only;omega
 ·exact hh
theorem kgf {r:wE} (h:rulesE r=0):1<=r.wS/\r.wS<=1048576:=by have hb:=kbb h;simp only[rulesB,qe,qaf]at hb;omega
theorem subS_R (c:CS) (b:wH):(subS c b).c.R=c.R:=by
 unfold subS;split
 ·rfl
 ·split<;>rfl
theorem subS_CI {c:CS} {n:Nat} (h:CI c n) (hn:n<=19) {b:wH} (hb:GB b):CI (subS c b).c (n+1):=by
 unfold subS;split
 ·exact h.mono (qdl n)
 ·rename_i h1;have hS:=km4 (qah h1);have hN:=hS.nb hb;obtain⟨s1,s2,s3⟩:=h.K.step (y:=stoS b (wrkS c b)) hN;rw[blk_sto]at s2 s3;obtain⟨b1,b2,b3⟩:=h.bek;split
  ·refine⟨s1,?_,?_,h.he⟩
   ·rcases h.be with e|⟨id,h1,e⟩
    ·exact .inl e
    ·exact .inr ⟨id,by show id∈c.k++[idB b];simp[h1],by rw[show(addS' c b).be=c.be from rfl,e];exact(h.K.pth_old h1).symm⟩
   ·show c.S=(stL c.R (c.k++[idB b]) (c.v++[stoS b (wrkS c b)]) c.be).s;rw[stL_old h.K.kv b1];exact h.st
  ·have hF:=kgf h.K.ru;obtain⟨r1,r2,r3,r4,r5⟩:=h.K.br hN.p hN.h;refine⟨s1,.inr ⟨idB b,by show idB b∈c.k++[idB b];simp,s2.symm⟩,?_,finS_h hF.1 (by rw[qj,qbn];omega) h.he⟩;show(applyS (stL c.R c.k c.v (brB c.k c.v b)).s b).s=(stL c.R (c.k++[idB b]) (c.v++[stoS b (wrkS c b)]) (brB c.k c.v b++[idB b])).s;rw[s3]
def sumO (l:List wA):Int:=l.foldl (fun s a=>u64.wrap (s+a.wa)) 0
theorem sumO_go:∀(l:List wA) (s:Int),(∀a∈l,0<=a.wa)->0<=s->s+sumA l<18446744073709551616->l.foldl (fun s a=>u64.wrap (s+a.wa)) s=s+sumA l
 |[],s,_,_,_=>by simp[sumA]
 |a::r,s,hn,h0,h=>by
  have e:sumA (a::r)=a.wa+sumA r:=by simp[sumA]
  have h1:=hn a qqs;have h2:=sumA_nn (l:=r) fun x hx=>hn x (by simp[hx]);rw[e]at h ⊢;rw[qfn,wrap_u64 _ qqo qqo,sumO_go r _ (fun x hx=>hn x (by simp[hx])) qqo qqo];omega
theorem PI.open {s:PS} {c:Nat} (h:PI s c 0) (hc:c<=800):sumO s.b=sumA s.b/\u64.wrap (sumO s.b+s.n)=u64.wrap (u64.wrap (s.p.length:Int)*s.R.wV):=by
 obtain⟨s1,s2,s3,s4⟩:=sup_bd h hc;have e:sumO s.b=sumA s.b:=by unfold sumO;rw[sumO_go s.b 0 (fun a ha=>(h.b.1.2.2 a ha).2.1.1) (qck _) qqo];omega
 rw[e];exact⟨rfl,(sup_PI h hc).2⟩
theorem inpS_k (C:EC) (ns:List wU) (an h:Int):∀(l:List wR) (I:EIn),I.f.wAb≠1->(inpS C ns an h l I).f.wAb≠1
 |[],I,hk=>hk
 |x::r,I,hk=>by
  unfold inpS;split
  ·exact inpS_k C ns an h r I hk
  ·split
   ·show(wrgS C ns x an h).wAb≠1;unfold wrgS;rw[k8r];decide
   ·split
    ·show(2:Int)≠1;decide
    ·exact inpS_k C ns an h r _ hk
theorem exTd_k {C:EC} {R:wE} {h:Int} {x:EX} {t:wZ} (ha:accT R t=true):(exTd C R.wB h x t).f.wAb≠1:=by
 unfold accT at ha;simp only[qe,beq_iff_eq]at ha;unfold exTd exTx;rw[qf (by rw[ha.1,ha.2];simp)];split
 ·exact inpS_k _ _ _ _ _ _ (by decide:(0:Int)≠1)
 ·show(0:Int)≠1;decide
theorem ki6 {R:wE}:∀{l:List wZ},txsE R l=0->∀t∈l,accT R t=true
 |[],_,t,ht=>by cases ht
 |a::r,h,t,ht=>by
  unfold txsE at h;split at h
  ·rename_i h1;exact(h1 h).elim
  ·rename_i h1;rcases qak.1 ht with rfl|ht
   ·have h1:txE R t=0:=qah h1;unfold txE at h1;split at h1
    ·rename_i h2;exact(h2 h1).elim
    ·split at h1
     ·rename_i h2;exact(h2 h1).elim
     ·split at h1
      ·cases h1
      ·rename_i h2;simpa using h2
   ·exact ki6 h t ht
theorem txsGo_k {C:EC} {R:wE} {h:Int}:∀(l:List wZ) (i:Nat) (x:EX),(∀t∈l,accT R t=true)->(txsGo C R.wB h i l x).f.wAb≠1
 |[],i,x,_=>(by decide:(0:Int)≠1)
 |t::r,i,x,ha=>by
  rw[txsGo];split
  ·exact exTd_k (ha t qqs)
  ·exact txsGo_k r (i+1) _ fun y hy=>ha y (by simp[hy])
theorem chnGo_k {C:EC} {R:wE}:∀(l:List wH) (x:EX),(∀b∈l,∀t∈b.Txs,accT R t=true)->(chnGo C R.wB l x).f.wAb≠1
 |[],x,_=>(by decide:(0:Int)≠1)
 |b::r,x,ha=>by
  rw[chnGo];split
  ·exact txsGo_k b.Txs 0 x (ha b qqs)
  ·exact chnGo_k r _ fun y hy=>ha y (by simp[hy])
theorem kpj {R:wE} {l:List wH} (hr:rulesE R=0) (hm:R.wb=2) (he:(auGo l (newS R)).e=0) (ha:∀b∈l,txsE R b.Txs=0):(audS false R l).2=0/\(audS false R l).1.wAk≠1:=by
 have e:audS false R l=exmS R l:=by unfold audS;rw[qf (by simp[hr]),qf (by simp[hm])]
 rw[e];unfold exmS;rw[qi hr,qi he];exact⟨rfl,chnGo_k l ex0 fun b hb=>ki6 (ha b hb)⟩
theorem CI.blocks {c:CS} {n:Nat} (h:CI c n):(∀b∈c.be.map (gB c.k c.v),BR' b)/\(∀b∈c.be.map (gB c.k c.v),b.Txs.length<=4)/\(∀b∈c.be.map (gB c.k c.v),txsE c.R b.Txs=0)/\(auGo (c.be.map (gB c.k c.v)) (newS c.R)).e=0:=by obtain⟨b1,b2,b3⟩:=h.bek;have:=h.K.bls b1;refine⟨this.1,this.2,fun b hb=> ?_,b3⟩;obtain⟨x,hx,rfl⟩:=qai.1 hb;exact h.K.ac x (b1 x hx)
theorem newC_CI {R:wE} (hr:rulesE R=0) (hw:0<=R.wV):CI ⟨R,[],[],[],newS R,0,0⟩ 0:=⟨⟨rfl,qr _,fun x hx=>(by cases hx),fun x hx=>(by cases hx),fun x hx=>(by cases hx),fun x hx=>(by cases hx),fun x hx=>(by cases hx),hr,hw⟩,.inl rfl,rfl,⟨qck _,(by show(0:Int)<=_;decide)⟩⟩
theorem kly {β:Type} {p:Int} {l:Li} (h:p∉l) (v:List β) (y:β):mPutK (BEq.beq p) l p=l++[p]/\mPutV (BEq.beq p) l v y=v++[y]:=by
 have h:mHas (BEq.beq p) l=false:=by
  cases hc:mHas (BEq.beq p) l with
  |false=>rfl
  |true=>exact(h (k1x.1 hc)).elim
 unfold mHas at h;unfold mPutK mPutV;cases hm:mIdx (BEq.beq p) l with
 |none=>exact⟨rfl,rfl⟩
 |some j=>rw[hm]at h;cases h
theorem KI.mv {R:wE} {k:Li} {v:List wK} {n:Nat} (h:KI R k v n) (hn:n<=20) {l m:Li} (hl:∀x∈l,x∈k) (hm:∀x∈m,x∈k) (ll:l.length<=20) (lm:m.length<=20) (el:(stL R k v l).e=0) (em:(stL R k v m).e=0) {i:Nat} (hi:i<=l.length) (hi2:i<=m.length) (ht:l.take i=m.take i) {S:PS} (hS:S=(stL R k v l).s):
  MvOk k v S (l.drop i).length (m.drop i)/\mvS k v S (l.drop i).length (m.drop i)=(stL R k v m).s:=by
 have sp:∀q:Li,(stL R k v q).e=0->(stL R k v (q.take i)).e=0/\stL R k v q=auGo ((q.drop i).map (gB k v)) (stL R k v (q.take i)).s:=fun q hq=>by
  unfold stL at hq ⊢;have e:q.map (gB k v)=(q.take i).map (gB k v)++(q.drop i).map (gB k v):=by rw[<-qbi,qbs]
  rw[e]at hq ⊢;have h1:=kb7 _ _ _ hq;exact⟨h1,k6i _ _ _ h1⟩
 obtain⟨a1,a2⟩:=sp l el;obtain⟨b1,b2⟩:=sp m em;have hlt:∀x∈l.take i,x∈k:=fun x hx=>hl x (qbh hx);have hP:=(h.pi hlt (by rw[qab];omega) a1).1;have hA:MvA k v S (l.drop i).length (m.drop i) (stL R k v (l.take i)).s (5*(l.take i).length) ((l.drop i).map (gB k v)):=⟨hP,by simp,h.bls fun x hx=>hl x (qby hx),h.bls fun x hx=>hm x (qby hx),by rw[qab,qbe,qbe];omega,by rw[<-a2];exact el,by rw[hS,<-a2],by rw[ht,<-b2];exact em⟩;refine⟨⟨_,_,_,hA⟩,?_⟩;unfold mvS;rw[hA.base,ht,<-b2]
theorem k35 {c:CS} {b:wH} {e:Int} (h:subE c b=e) (he:e≠0):subS c b=⟨0,0,e,c⟩:=by unfold subS;rw[h,qi he]
theorem ix_gd8 {l:Li} {i:Nat} (h:i<l.length):ix l (i:Int)=l.getD i 0:=by rw[ix_get _ _ h,qev,qd h];rfl
theorem cpl_ix {l m:Li} {i:Nat} (hi:i<=cpl l m):i=cpl l m↔¬(i<l.length/\i<m.length/\ix l (i:Int)=ix m (i:Int)):=by
 rw[ki7 i l m hi];constructor
 ·rintro h ⟨a,b,c⟩;rw[ix_gd8 a,ix_gd8 b]at c;exact h ⟨a,b,c⟩
 ·rintro h ⟨a,b,c⟩;rw[<-ix_gd8 a,<-ix_gd8 b]at c;exact h ⟨a,b,c⟩
theorem kmf {R:wE} {l:List wZ} {i:Nat} (hi:i<l.length):txsE R (l.drop i)=if txE R l[i]≠0 then txE R l[i]else txsE R (l.drop (i+1)):=by rw[qas hi];rfl
theorem subE_go {c:CS} {b:wH} (h1:checkB c.R.wW b=0) (h2:idB b∉c.k) (h3:parS c.k c.v b=0):subE c b=if 0<c.he/\(((brB c.k c.v b).length:Int)<c.he∨ix (brB c.k c.v b) (c.he-1)≠c.fi)then 19 else if txsE c.R b.Txs≠0 then txsE c.R b.Txs else(applyS (stL c.R c.k c.v (brB c.k c.v b)).s b).e:=by unfold subE;rw[qf (fun h=>h h1),qf h2,qf (fun h=>h h3)]
structure SCh (c:CS) (b:wH):Prop where
 n:∃n:Nat,n<=18/\CI c n
 b:GB b
 m:c.R.wb=2
section
variable {R:wE} {k:Li} {v:List wK} {be:Li} {S:PS} {fi he:Int} {b:wH}
theorem SCh.facts (h:SCh ⟨R,k,v,be,S,fi,he⟩ b):∃n:Nat,n<=18/\KI R k v n/\(∀x∈be,x∈k)/\be.length<=n/\(stL R k v be).e=0/\S=(stL R k v be).s/\(0<=he/\he<=4294967296)/\GB b/\R.wb=2:=by obtain⟨⟨n,hn,hC⟩,hb,hm⟩:=h;obtain⟨b1,b2,b3⟩:=hC.bek;exact⟨n,hn,hC.K,b1,b2,b3,hC.st,hC.he,hb,hm⟩
theorem sub_e1 (h1:checkB R.wW b≠0):subS ⟨R,k,v,be,S,fi,he⟩ b=⟨0,0,checkB R.wW b,⟨R,k,v,be,S,fi,he⟩⟩:=k35 (qi h1) h1
theorem sub_e2 (h1:checkB R.wW b=0) (h2:idB b∈k):subS ⟨R,k,v,be,S,fi,he⟩ b=⟨0,0,5,⟨R,k,v,be,S,fi,he⟩⟩:=k35 (by unfold subE;rw[qf (fun h=>h h1)];exact qi h2) qqd
theorem sub_e3 (h1:checkB R.wW b=0) (h2:idB b∉k) (h3:parS k v b≠0):subS ⟨R,k,v,be,S,fi,he⟩ b=⟨0,0,parS k v b,⟨R,k,v,be,S,fi,he⟩⟩:=k35 (by unfold subE;rw[qf (fun h=>h h1),qf h2];exact qi h3) h3
theorem sub_e4 (h1:checkB R.wW b=0) (h2:idB b∉k) (h3:parS k v b=0) (h4:0<he/\(((brB k v b).length:Int)<he∨ix (brB k v b) (he-1)≠fi)):subS ⟨R,k,v,be,S,fi,he⟩ b=⟨0,0,19,⟨R,k,v,be,S,fi,he⟩⟩:=k35 (by rw[subE_go h1 h2 h3];exact qi h4) qqd
theorem sub_e5 (h1:checkB R.wW b=0) (h2:idB b∉k) (h3:parS k v b=0) (h4:¬(0<he/\(((brB k v b).length:Int)<he∨ix (brB k v b) (he-1)≠fi))) (h5:txsE R b.Txs≠0):subS ⟨R,k,v,be,S,fi,he⟩ b=⟨0,0,txsE R b.Txs,⟨R,k,v,be,S,fi,he⟩⟩:=k35 (by rw[subE_go h1 h2 h3,qf h4];exact qi h5) h5
theorem subE6 (h1:checkB R.wW b=0) (h2:idB b∉k) (h3:parS k v b=0) (h4:¬(0<he/\(((brB k v b).length:Int)<he∨ix (brB k v b) (he-1)≠fi))) (h5:txsE R b.Txs=0):subE ⟨R,k,v,be,S,fi,he⟩ b=(applyS (stL R k v (brB k v b)).s b).e:=by rw[subE_go h1 h2 h3,qf h4];exact qf fun h=>h h5
theorem sub_e6 (h1:checkB R.wW b=0) (h2:idB b∉k) (h3:parS k v b=0) (h4:¬(0<he/\(((brB k v b).length:Int)<he∨ix (brB k v b) (he-1)≠fi))) (h5:txsE R b.Txs=0) (h6:(applyS (stL R k v (brB k v b)).s b).e≠0):subS ⟨R,k,v,be,S,fi,he⟩ b=⟨0,0,(applyS (stL R k v (brB k v b)).s b).e,⟨R,k,v,be,S,fi,he⟩⟩:=k35 (subE6 h1 h2 h3 h4 h5) h6
def wk8 (k:Li) (v:List wK) (b:wH):Int:=if brB k v b=[]then b.wW else u64.wrap (b.wW+wkS v k b.wh)
theorem sub_no {w:Int} (h1:checkB R.wW b=0) (h2:idB b∉k) (h3:parS k v b=0) (h4:¬(0<he/\(((brB k v b).length:Int)<he∨ix (brB k v b) (he-1)≠fi))) (h5:txsE R b.Txs=0) (h6:(applyS (stL R k v (brB k v b)).s b).e=0) (hw:w=wk8 k v b) (hb:betS k v be (idB b) w=false):subS ⟨R,k,v,be,S,fi,he⟩ b=⟨0,0,0,⟨R,k++[idB b],v++[stoS b w],be,S,fi,he⟩⟩:=by subst hw;unfold subS;rw[subE6 h1 h2 h3 h4 h5,qf (fun h=>h h6)];exact qi hb
theorem sub_yes {w:Int} {i:Nat} (h1:checkB R.wW b=0) (h2:idB b∉k) (h3:parS k v b=0) (h4:¬(0<he/\(((brB k v b).length:Int)<he∨ix (brB k v b) (he-1)≠fi))) (h5:txsE R b.Txs=0) (h6:(applyS (stL R k v (brB k v b)).s b).e=0) (hw:w=wk8 k v b) (hb:betS k v be (idB b) w=true) (hi:i=cpl (brB k v b) be):subS ⟨R,k,v,be,S,fi,he⟩ b=⟨(be.length:Int)-(i:Int),((brB k v b).length:Int)+1-(i:Int),0,⟨R,k++[idB b],v++[stoS b w],brB k v b++[idB b],(applyS (stL R k v (brB k v b)).s b).s,(finS R.wS (brB k v b++[idB b]) fi he).f,(finS R.wS (brB k v b++[idB b]) fi he).h⟩⟩:=by subst hw hi;unfold subS;rw[subE6 h1 h2 h3 h4 h5,qf (fun h=>h h6)];exact qf (by show¬betS k v be (idB b) (wk8 k v b)=false;rw[hb];simp)
end
theorem GB.emp {p h m w:Int} (hp:U64 p) (hh: -9223372036854775808<=h/\h<=9223372036854775807) (hm:U64 m) (hw:U64 w):GB ⟨p,h,m,w,0,[]⟩:=⟨⟨hp,hm,hw,(by decide:U64 0),hh,fun x hx=>(by cases hx)⟩,fun x hx=>(by cases hx),qax _⟩
theorem CS.eta_R {c:CS} {R:wE} (h:c.R=R):c=⟨R,c.k,c.v,c.be,c.S,c.fi,c.he⟩:=by subst h;rfl
theorem CI.eta {c:CS} {b:wH} {n:Nat} (h:CI (subS c b).c n):CI ⟨c.R,(subS c b).c.k,(subS c b).c.v,(subS c b).c.be,(subS c b).c.S,(subS c b).c.fi,(subS c b).c.he⟩ n:=by rw[<-CS.eta_R (subS_R c b)];exact h
theorem CI.blk {c:CS} {n:Nat} (h:CI c n) (hn:n<=12):BLk (c.be.map (gB c.k c.v)):=by obtain⟨b1,b2,b3⟩:=h.bek;obtain⟨q1,q2,_,_⟩:=h.blocks;exact⟨q1,q2,by rw[ql];omega⟩
def qC (p:wAf):wE:=wE.mk p.wAg p.wAe p.wz p.wt p.wn p.wAG p.wAR p.wAD p.wAm
def rtB (p:wAf):Bool:=p.L.all (fun b=>decide ((b.Txs.length:Int)<=4)&&smA (qC p) [b])&&(p.wAg==2&&(rulesE (qC p)==0&&decide ((p.L.length:Int)<=12)))
theorem rtB_iff {p:wAf} (h:rtB p=true):rulesE (qC p)=0/\(qC p).wb=2/\p.L.length<=12/\(∀b∈p.L,b.Txs.length<=4/\smA (qC p) [b]=true)/\(p.L≠[]->(qC p).wB<=6):=by unfold rtB at h;simp only[qe,qaf,qbo,beq_iff_eq]at h;obtain⟨h1,h2,h3,h4⟩:=h;refine⟨h3,h2,by omega,fun b hb=>⟨by have:=(h1 b hb).1;omega,(h1 b hb).2⟩,fun hn=> ?_⟩;obtain⟨b,hb⟩:=List.exists_mem_of_ne_nil _ hn;have:=(h1 b hb).2;unfold smA at this;simp only[qe,qaf]at this;exact this.2.1
theorem rtB_no {p:wAf} {b:wH} (hb:b∈p.L) (h:(decide ((b.Txs.length:Int)<=4)&&smA (qC p) [b])=false):false=rtB p:=by unfold rtB;have:p.L.all (fun b=>decide ((b.Txs.length:Int)<=4)&&smA (qC p) [b])=false:=qcl.2 ⟨b,hb,by rw[h];decide⟩;rw[this];rfl
theorem smA_GB {r:wE} {b:wH} (hr:BR b) (h4:b.Txs.length<=4) (h:smA r [b]=true):GB b:=by unfold smA at h;simp only[qe,qaf,qed,qbo]at h;exact⟨hr,fun t ht=>knx (h.2.2.2.1.2 t ht),h4⟩
def R55:wE:=⟨2,2,0,0,0,50,3,5,1⟩
def X55:SubR:=subS ⟨R55,[],[],[],newS R55,0,0⟩ ⟨0,1,7,1,0,[]⟩
theorem aw55:(X55.e=0/\X55.a=1)/\X55.c.be.length=1/\audS false R55 (X55.c.be.map (gB X55.c.k X55.c.v))=(wAv.mk 50 50 0 0 0 0 0 0 0 [] 0 0 [] 0,0):=⟨⟨by kernel_rfl,by kernel_rfl⟩,by kernel_rfl,by kernel_rfl⟩
theorem CI.best {c:CS} {n:Nat} (h:CI c n) (hn:n<=1000):(c.k.length=c.v.length/\c.be.length<=1000)/\∀id∈c.be,id∈c.k/\(gB c.k c.v id).Txs.length<=4/\∀x∈(gB c.k c.v id).Txs,TL x:=by obtain⟨b1,b2,b3⟩:=h.bek;exact⟨⟨h.K.kv,by omega⟩,fun id hid=>⟨b1 id hid,(h.K.r id (b1 id hid)).2,(h.K.r id (b1 id hid)).1.l⟩⟩
theorem k9m.tr {t:wZ} (h:k9m t):TR t/\t.wC.length<=9223372036854775807:=⟨⟨h.we,h.wI.2,fun x hx=>let y:=h.wC.2 x hx;⟨y.wl,y.wAP,y.wAK,y.wy.2⟩,h.wQ,h.wT,h.Fee,h.wX,h.wY,by have:=h.wAL;omega,h.wo.2⟩,h.wC.1⟩
theorem k72 {p0:wAf} (h0:k6y p0):0<=p0.wAG/\(∀b∈p0.L,BR b)/\(p0.L.length<=9223372036854775807)/\∀b∈p0.L,b.Txs.length<=9223372036854775807/\∀t∈b.Txs,t.wC.length<=9223372036854775807:=⟨h0.wAG.1,fun b hb=>⟨(h0.L.2 b hb).wh,(h0.L.2 b hb).wAT,(h0.L.2 b hb).wW,(h0.L.2 b hb).wY,(by have:=(h0.L.2 b hb).wM;omega),fun t ht=>(((h0.L.2 b hb).Txs.2 t ht).tr).1⟩,h0.L.1,fun b hb=>⟨(h0.L.2 b hb).Txs.1,fun t ht=>(((h0.L.2 b hb).Txs.2 t ht).tr).2⟩⟩
noncomputable def kax:Con TB.den:= .g (gk 49 [.one (.ptr 0 0),.one (zqu),.one (zqu)] yB (.one (.one (.d (.bool))))) (.int .u64:: .int .u64:: .int .i64:: .int .i64:: .int .i64:: .int .i64:: .int .i64:: .int .u64:: .int .i64:: .int .i64:: .int .u64:: .sl yqu:: .int .u64:: .int .i64:: .bool::yH) (.bool:: .int .i64:: .int .i64:: .int .i64:: .int .i64:: .int .i64:: .int .u64:: .int .i64:: .int .i64:: .int .u64:: .sl yqu:: .int .u64:: .int .i64:: .bool::yH) [] fun(p1 p2 Aa Ae Ab Am Ao Ag Aj Ah Ai:Int) (Ad:Li) (Ap Af:Int) (At:Bool) (Au Av:Int) (As:List wD) (Bb Bc Bd Be Bf Bg Bh Bi Bj Bk Az:Int) (A0:Li) (A7:List wA) (A8:Int) (w2k:Li) (w2v:List wK) (w4k:Lb) (w4v:Li) (w5k:Lb) (w5v:List (Li)) (w6k:Lb) (w6v:Lo) (w7 w9:Li) (w10:List wJ) (w11k:Li) (w11v:Lo)=>(w2k.length=w2v.length/\Ad.length<=1000,(betS w2k w2v Ad p1 p2:Bool),Aa,Ae,Ab,Am,Ao,Ag,Aj,Ah,Ai,Ad,Ap,Af,At,Au,Av,As,Bb,Bc,Bd,Be,Bf,Bg,Bh,Bi,Bj,Bk,Az,A0,A7,A8,w2k,w2v,w4k,w4v,w5k,w5v,w6k,w6v,w7,w9,w10,w11k,w11v,())
theorem kdz:kax.Ok Tryz.prog TB:=prv Bs Tryz.func49 .no c0 (Q:=∀(p1 p2 Aa Ae Ab Am Ao Ag Aj Ah Ai:Int) (Ad:Li) (Ap Af:Int) (At:Bool) (Au Av:Int) (As:List wD) (Bb Bc Bd Be Bf Bg Bh Bi Bj Bk Az:Int) (A0:Li) (A7:List wA) (A8:Int) (w2k:Li) (w2v:List wK) (w4k:Lb) (w4v:Li) (w5k:Lb) (w5v:List (Li)) (w6k:Lb) (w6v:Lo) (w7 w9:Li) (w10:List wJ) (w11k:Li) (w11v:Lo),(w2k.length=w2v.length/\Ad.length<=1000)->∀r0:Bool,betS w2k w2v Ad p1 p2=r0->∀Aq:Int,Aa=Aq->∀Aw:Int,Ae=Aw->∀Ax:Int,Ab=Ax->∀B0:Int,Am=B0->∀B1:Int,Ao=B1->∀Bl:Int,Ag=Bl->∀Bm:Int,Aj=Bm->∀Bn:Int,Ah=Bn->∀Bo:Int,Ai=Bo->∀A9:Li,Ad=A9->∀Bz:Int,Ap=Bz->∀Ba:Int,Af=Ba->∀B6:Bool,At=B6->∀B7:Int,Au=B7->∀B8:Int,Av=B8->∀B9:List wD,As=B9->∀Cc:Int,Bb=Cc->∀Cd:Int,Bc=Cd->∀Ce:Int,Bd=Ce->∀Cf:Int,Be=Cf->∀Cg:Int,Bf=Cg->∀Ch:Int,Bg=Ch->∀Ci:Int,Bh=Ci->∀Cj:Int,Bi=Cj->∀Ck:Int,Bj=Ck->∀Cl:Int,Bk=Cl->∀B2:Int,Az=B2->∀B3:Li,A0=B3->∀B4:List wA,A7=B4->∀B5:Int,A8=B5->∀e2k:Li,w2k=e2k->∀e2v:List wK,w2v=e2v->∀e4k:Lb,w4k=e4k->∀e4v:Li,w4v=e4v->∀e5k:Lb,w5k=e5k->∀e5v:List (Li),w5v=e5v->∀e6k:Lb,w6k=e6k->∀e6v:Lo,w6v=e6v->∀e7:Li,w7=e7->∀e9:Li,w9=e9->∀e10:List wJ,w10=e10->∀e11k:Li,w11k=e11k->∀e11v:Lo,w11v=e11v-> 
(((Ad.length:Int)==0)=true->
 lz w10/\lz w9/\lz w7/\true=r0/\Aa=Aq/\Ae=Aw/\Ab=Ax/\Am=B0/\Ao=B1/\Ag=Bl/\Aj=Bm/\Ah=Bn/\Ai=Bo/\Ad=A9/\Ap=Bz/\Af=Ba/\At=B6/\Au=B7/\Av=B8/\As=B9/\Bb=Cc/\Bc=Cd/\Bd=Ce/\Be=Cf/\Bf=Cg/\Bg=Ch/\Bh=Ci/\Bi=Cj/\Bj=Ck/\Bk=Cl/\Az=B2/\A0=B3/\A7=B4/\A8=B5/\w2k=e2k/\w2v=e2v/\w4k=e4k/\w4v=e4v/\w5k=e5k/\w5v=e5v/\w6k=e6k/\w6v=e6v/\w7=e7/\w9=e9/\w10=e10/\w11k=e11k/\w11v=e11v)/\
(((Ad.length:Int)==0)=false->
 let v1:Int:=i64.wrap ((Ad.length:Int)-1)
(0<=v1)/\v1<(Ad.length:Int)/\w2k.length=w2v.length/\let v2:wK:=mVal (BEq.beq (ix Ad v1)) w2k w2v (default:wK)
(decide (v2.work<p2)=true->
 lz w10/\lz w9/\lz w7/\true=r0/\Aa=Aq/\Ae=Aw/\Ab=Ax/\Am=B0/\Ao=B1/\Ag=Bl/\Aj=Bm/\Ah=Bn/\Ai=Bo/\Ad=A9/\Ap=Bz/\Af=Ba/\At=B6/\Au=B7/\Av=B8/\As=B9/\Bb=Cc/\Bc=Cd/\Bd=Ce/\Be=Cf/\Bf=Cg/\Bg=Ch/\Bh=Ci/\Bi=Cj/\Bj=Ck/\Bk=Cl/\Az=B2/\A0=B3/\A7=B4/\A8=B5/\w2k=e2k/\w2v=e2v/\w4k=e4k/\w4v=e4v/\w5k=e5k/\w5v=e5v/\w6k=e6k/\w6v=e6v/\w7=e7/\w9=e9/\w10=e10/\w11k=e11k/\w11v=e11v)/\
(decide (v2.work<p2)=false->
((p2==v2.work)=true->
 lz w10/\lz w9/\lz w7/\decide (p1<(ix Ad v1))=r0/\Aa=Aq/\Ae=Aw/\Ab=Ax/\Am=B0/\Ao=B1/\Ag=Bl/\Aj=Bm/\Ah=Bn/\Ai=Bo/\Ad=A9/\Ap=Bz/\Af=Ba/\At=B6/\Au=B7/\Av=B8/\As=B9/\Bb=Cc/\Bc=Cd/\Bd=Ce/\Be=Cf/\Bf=Cg/\Bg=Ch/\Bh=Ci/\Bi=Cj/\Bj=Ck/\Bk=Cl/\Az=B2/\A0=B3/\A7=B4/\A8=B5/\w2k=e2k/\w2v=e2v/\w4k=e4k/\w4v=e4v/\w5k=e5k/\w5v=e5v/\w6k=e6k/\w6v=e6v/\w7=e7/\w9=e9/\w10=e10/\w11k=e11k/\w11v=e11v)/\
((p2==v2.work)=false->
 lz w10/\lz w9/\lz w7/\false=r0/\Aa=Aq/\Ae=Aw/\Ab=Ax/\Am=B0/\Ao=B1/\Ag=Bl/\Aj=Bm/\Ah=Bn/\Ai=Bo/\Ad=A9/\Ap=Bz/\Af=Ba/\At=B6/\Au=B7/\Av=B8/\As=B9/\Bb=Cc/\Bc=Cd/\Bd=Ce/\Be=Cf/\Bf=Cg/\Bg=Ch/\Bh=Ci/\Bi=Cj/\Bj=Ck/\Bk=Cl/\Az=B2/\A0=B3/\A7=B4/\A8=B5/\w2k=e2k/\w2v=e2v/\w4k=e4k/\w4v=e4v/\w5k=e5k/\w5v=e5v/\w6k=e6k/\w6v=e6v/\w7=e7/\w9=e9/\w10=e10/\w11k=e11k/\w11v=e11v))))<|by
 rintro p1 p2 Aa Ae Ab Am Ao Ag Aj Ah Ai Ad Ap Af At Au Av As Bb Bc Bd Be Bf Bg Bh Bi Bj Bk Az A0 A7 A8 w2k w2v w4k w4v w5k w5v w6k w6v w7 w9 w10 w11k w11v h;repeat rintro _ rfl
 obtain⟨hl,hb⟩:=h;unfold betS;refine⟨fun e=> ?_,fun e=> ?_⟩
 ·rw[qi (qdg.1 (by have:(Ad.length:Int)=0:=(by simpa using e);omega))];exact(by repeat' first|apply qq|exact rfl|exact qn)
 ·have e:¬(Ad.length:Int)=0:=by simpa using e
  rw[qf (fun hh=>e (by rw[hh];rfl))];rw[wi ((Ad.length:Int)-1) qqo qqo];refine⟨by omega,by omega,hl,fun e2=> ?_,fun e2=>⟨fun e3=> ?_,fun e3=> ?_⟩⟩
  ·have:decide (wkS w2v w2k (ix Ad ((Ad.length:Int)-1))<p2)=true:=e2;rw[this];exact(by repeat' first|apply qq|exact rfl|exact qn)
  ·have:decide (wkS w2v w2k (ix Ad ((Ad.length:Int)-1))<p2)=false:=e2;have h3:(p2==wkS w2v w2k (ix Ad ((Ad.length:Int)-1)))=true:=e3;rw[this,h3];exact(by repeat' first|apply qq|exact rfl|exact qn)
  ·have:decide (wkS w2v w2k (ix Ad ((Ad.length:Int)-1))<p2)=false:=e2;have h3:(p2==wkS w2v w2k (ix Ad ((Ad.length:Int)-1)))=false:=e3;rw[this,h3];exact(by repeat' first|apply qq|exact rfl|exact qn)
noncomputable def k8s:Con TB.den:= .g ⟨46,[.one (.ptr 0 0),.agg yI1],yB,(.one (.one (.own 12))),[.cells [.ptr 1 0,zqi,zqi,zqi,zqi,zqi,zqu,zqi,zqi,zqu,.mp 2,zql,.ptr 3 0,zqu,zqi],.cells [.d (.bool),zqu,zqi,.d (.sl (.st 4)),.mp 4,.mp 5,.mp 6],.map yqu (.st 11),.cells yW,.map (.str) yqi,.map (.str) (.sl yqu),.map (.str) (.bool),.vec yqu,.cells [.mp 11],.vec yqu,.vec (.st 10),.map yqu (.bool),.tip yqu],false⟩ (.st 3:: .int .i64:: .int .i64:: .int .i64:: .int .i64:: .int .i64:: .int .u64:: .int .i64:: .int .i64:: .int .u64:: .sl yqu:: .int .u64:: .int .i64:: .bool::yH) (.int .i64:: .int .i64:: .int .i64:: .int .i64:: .int .i64:: .int .u64:: .int .i64:: .int .i64:: .int .u64:: .sl yqu:: .int .u64:: .int .i64:: .bool:: .int .u64::[yqi,.sl (.st 4),yqi,yqi,yqi,yqi,yqi,yqu,yqi,yqi,yqu,yqi,yqi,.sl yqu,.sl (.st 9),yqu,.sl yqu,.sl (.st 11),.sl (.str),.sl yqi,.sl (.str),.sl (.sl yqu),.sl (.str),.sl (.bool),.sl yqu,.sl yqu,.sl (.st 10),.sl yqu,.sl (.bool),.sl yqu]) [] fun(p1:wH) (Aa Ae Ab Am Ao Ag Aj Ah Ai:Int) (Ad:Li) (Ap Af:Int) (At:Bool) (Au Av:Int) (As:List wD) (Bb Bc Bd Be Bf Bg Bh Bi Bj Bk Az:Int) (A0:Li) (A7:List wA) (A8:Int) (w2k:Li) (w2v:List wK) (w4k:Lb) (w4v:Li) (w5k:Lb) (w5v:List (Li)) (w6k:Lb) (w6v:Lo) (w7 w9:Li) (w10:List wJ) (w11k:Li) (w11v:Lo)=>((∃(R:wE) (n:Nat),KI R w2k w2v n/\n<=20)/\PaOk w2k w2v p1/\1<=p1.wM,Aa,Ae,Ab,Am,Ao,Ag,Aj,Ah,Ai,Ad,Ap,Af,At,Au,Av,As,Bb,Bc,Bd,Be,Bf,Bg,Bh,Bi,Bj,Bk,Az,A0,A7,A8,w2k,w2v,w4k,w4v,w5k,w5v,w6k,w6v,w7,w9,w10,w11k,w11v,(brB w2k w2v p1:Li),())
abbrev Fz0 (r:Type):=Int->Int->Int->Int->Int->(List wZ)->(Li)->r
theorem k9y:k8s.Ok Tryz.prog TB:=prv Bs Tryz.func46 (.r 1 (.nd [] (.lp [] ⟨[13,12],[.vec yqu,.cells yI1],[],[],[]⟩ .no) [] (.r 0 (.rt [.frz 13 [4]])))) c0 (Q:=∀(p1:wH) (Aa Ae Ab Am Ao Ag Aj Ah Ai:Int) (Ad:Li) (Ap Af:Int) (At:Bool) (Au Av:Int) (As:List wD) (Bb Bc Bd Be Bf Bg Bh Bi Bj Bk Az:Int) (A0:Li) (A7:List wA) (A8:Int) (w2k:Li) (w2v:List wK) (w4k:Lb) (w4v:Li) (w5k:Lb) (w5v:List (Li)) (w6k:Lb) (w6v:Lo) (w7 w9:Li) (w10:List wJ) (w11k:Li) (w11v:Lo),((∃(R:wE) (n:Nat),KI R w2k w2v n/\n<=20)/\PaOk w2k w2v p1/\1<=p1.wM)->∀Aq:Int,Aa=Aq->∀Aw:Int,Ae=Aw->∀Ax:Int,Ab=Ax->∀B0:Int,Am=B0->∀B1:Int,Ao=B1->∀Bl:Int,Ag=Bl->∀Bm:Int,Aj=Bm->∀Bn:Int,Ah=Bn->∀Bo:Int,Ai=Bo->∀A9:Li,Ad=A9->∀Bz:Int,Ap=Bz->∀Ba:Int,Af=Ba->∀B6:Bool,At=B6->∀B7:Int,Au=B7->∀B8:Int,Av=B8->∀B9:List wD,As=B9->∀Cc:Int,Bb=Cc->∀Cd:Int,Bc=Cd->∀Ce:Int,Bd=Ce->∀Cf:Int,Be=Cf->∀Cg:Int,Bf=Cg->∀Ch:Int,Bg=Ch->∀Ci:Int,Bh=Ci->∀Cj:Int,Bi=Cj->∀Ck:Int,Bj=Ck->∀Cl:Int,Bk=Cl->∀B2:Int,Az=B2->∀B3:Li,A0=B3->∀B4:List wA,A7=B4->∀B5:Int,A8=B5->∀e2k:Li,w2k=e2k->∀e2v:List wK,w2v=e2v->∀e4k:Lb,w4k=e4k->∀e4v:Li,w4v=e4v->∀e5k:Lb,w5k=e5k->∀e5v:List (Li),w5v=e5v->∀e6k:Lb,w6k=e6k->∀e6v:Lo,w6v=e6v->∀e7:Li,w7=e7->∀e9:Li,w9=e9->∀e10:List wJ,w10=e10->∀e11k:Li,w11k=e11k->∀e11v:Lo,w11v=e11v->∀e12:Li,brB w2k w2v p1=e12-> 
 0<=i64.wrap (p1.wM-1)/\i64.wrap (p1.wM-1)<=i64.wrap (p1.wM-1)/\((i64.wrap (p1.wM-1)).toNat*8<=140737488355328)/\((i64.wrap (p1.wM-1)).toNat<=maxLen)/\∃(I1:Fz0 Prop) (M1:Fz0 Nat),I1 p1.wh p1.wM p1.wAT p1.wW p1.wY p1.Txs (List.replicate ((i64.wrap (p1.wM-1)).toNat) (0:Int))/\∀b1 f1 i1 k1 l1 m1 n1,(I1 b1 f1 i1 k1 l1 m1 n1->
(decide (1<f1)=true->
(0<=i64.wrap (f1-2)/\i64.wrap (f1-2)<(((i64.wrap (p1.wM-1)).toNat:Nat):Int))/\(0<=i64.wrap (f1-2)/\i64.wrap (f1-2)<(n1.length:Int))/\w2k.length=w2v.length/\let v1:wK:=mVal (BEq.beq b1) w2k w2v (default:wK)
 I1 v1.wAZ v1.wAO v1.wAi v1.wAl v1.wAj v1.wAp (n1.set (i64.wrap (f1-2)).toNat b1)/\M1 v1.wAZ v1.wAO v1.wAi v1.wAl v1.wAj v1.wAp (n1.set (i64.wrap (f1-2)).toNat b1)<M1 b1 f1 i1 k1 l1 m1 n1)/\
(decide (1<f1)=false->
((i64.wrap (p1.wM-1)).toNat=n1.length)/\lz w10/\lz w9/\lz w7/\(n1=n1)/\Aa=Aq/\Ae=Aw/\Ab=Ax/\Am=B0/\Ao=B1/\Ag=Bl/\Aj=Bm/\Ah=Bn/\Ai=Bo/\Ad=A9/\Ap=Bz/\Af=Ba/\At=B6/\Au=B7/\Av=B8/\As=B9/\Bb=Cc/\Bc=Cd/\Bd=Ce/\Be=Cf/\Bf=Cg/\Bg=Ch/\Bh=Ci/\Bi=Cj/\Bj=Ck/\Bk=Cl/\Az=B2/\A0=B3/\A7=B4/\A8=B5/\w2k=e2k/\w2v=e2v/\w4k=e4k/\w4v=e4v/\w5k=e5k/\w5v=e5v/\w6k=e6k/\w6v=e6v/\w7=e7/\w9=e9/\w10=e10/\w11k=e11k/\w11v=e11v/\n1=e12)))<|by
 rintro p1 Aa Ae Ab Am Ao Ag Aj Ah Ai Ad Ap Af At Au Av As Bb Bc Bd Be Bf Bg Bh Bi Bj Bk Az A0 A7 A8 w2k w2v w4k w4v w5k w5v w6k w6v w7 w9 w10 w11k w11v h;repeat rintro _ rfl
 obtain⟨⟨R,n,hK,hn⟩,hp,hh⟩:=h;obtain⟨q1,_,_,q4,q5⟩:=hK.br hp hh;have hkn:=hK.kn;obtain⟨K,hKe⟩:=qo (show 0<=p1.wM-1 by omega);have hw:i64.wrap (p1.wM-1)=(K:Int):=by rw[wi _ qqo qqo,hKe]
 have hB:brB w2k w2v p1=brS w2k w2v K p1.wh:=by unfold brB;rw[hKe];rfl
 rw[hw,qt,hB]
 have hp0:1<=K->p1.wh∈w2k/\(gB w2k w2v p1.wh).wM=(K:Int):=fun h1=>by
  rcases hp with⟨h2,_⟩|⟨_,h3,h4⟩
  ·omega
  ·exact⟨h3,by rw[h4,hKe]⟩
 refine⟨by omega,by omega,by omega,by unfold maxLen;omega,(fun b f _ _ _ _ l=>∃(m:Nat) (s:Li),f=(m:Int)+1/\m<=K/\l=List.replicate m 0++s/\l.length=K/\brS w2k w2v K p1.wh=brS w2k w2v m b++s/\(1<=m->b∈w2k/\(gB w2k w2v b).wM=(m:Int))),(fun _ f _ _ _ _ _=>f.toNat),⟨K,[],by omega,qr _,by simp,by simp,by simp,hp0⟩,?_⟩;rintro b f _ _ _ _ _ ⟨m,s,rfl,hm,rfl,hl,hs,hb⟩;refine⟨fun e=> ?_,fun e=> ?_⟩
 ·have e:=qb e;obtain⟨j,rfl⟩:∃j,m=j+1:=⟨m-1,by omega⟩;obtain⟨g1,g2⟩:=hb qqo;have hidx:i64.wrap (((j+1:Nat):Int)+1-2)=(j:Int):=by rw[wi _ qqo qqo];omega
  rw[hidx];refine⟨⟨by omega,by omega⟩,⟨by omega,by omega⟩,hK.kv,⟨j,b::s,?_,by omega,?_,by rw[qdc];exact hl,?_,fun h1=> ?_⟩,?_⟩
  ·show(gB w2k w2v b).wM=_;rw[g2];omega
  ·rw[qt,List.replicate_succ',qz];simp[List.set_append]
  ·rw[hs];show(brS w2k w2v j (gB w2k w2v b).wh++[b])++s=_;rw[qz];rfl
  ·obtain⟨a,c⟩:=hK.hp b g1 (by rw[g2];omega);exact⟨a,by show(gB w2k w2v (gB w2k w2v b).wh).wM=_;rw[c,g2];omega⟩
  ·show(gB w2k w2v b).wM.toNat<(((j+1:Nat):Int)+1).toNat;rw[g2];omega
 ·have e:=qc e;obtain rfl:m=0:=by omega
  have hs:brS w2k w2v K p1.wh=s:=hs;have hl:s.length=K:=by simpa using hl
  rw[hs];exact(by repeat' first|apply qq|exact hl.symm|exact rfl|exact qn)
noncomputable def k8y:Con TB.den:= .b (gk 51 [.one (.ptr 0 0)] [.cells [.ptr 1 0,zqi,zqi,zqi,zqi,zqi,zqu,zqi,zqi,zqu,.mp 2,.own 3,.ptr 4 0,zqu,zqi],.cells [.d (.bool),zqu,zqi,.d (.sl (.st 4)),.mp 5,.mp 6,.mp 7],.map yqu (.st 11),.tip yqu,.cells [zqi,zqi,zqi,zqi,zqi,zqu,zqi,zqi,zqu,zqi,zqi,zql,.row 8,.ptr 9 0,.d (.sl (.st 9)),zqu,.row 10,.row 11],.map (.str) yqi,.map (.str) (.sl yqu),.map (.str) (.bool),.vec yqu,.cells [.mp 12],.vec yqu,.vec (.st 10),.map yqu (.bool)] (.tup [])) (.int .i64:: .int .i64:: .int .i64:: .int .i64:: .int .i64:: .int .u64:: .int .i64:: .int .i64:: .int .u64:: .int .u64:: .int .i64:: .bool:: .int .u64::yG) (.int .i64:: .int .i64:: .int .i64:: .int .i64:: .int .i64:: .int .u64:: .int .i64:: .int .i64:: .int .u64:: .int .u64:: .int .i64:: .bool:: .int .u64::yG) fun(Aa Ae Ab Am Ao Ag Aj Ah Ai Ap Af:Int) (At:Bool) (Au Av:Int) (As:List wD) (c4_0 c4_1 c4_2 c4_3 c4_4 c4_5 c4_6 c4_7 c4_8 c4_9 Cr:Int) (Cs:Li) (Ct:List wA) (Cu:Int) (w2k:Li) (w2v:List wK) (w3:Li) (w5k:Lb) (w5v:Li) (w6k:Lb) (w6v:List (Li)) (w7k:Lb) (w7v:Lo) (w8 w10:Li) (w11:List wJ) (w12k:Li) (w12v:Lo)=>((1<=Ah/\Ah<=1048576)/\w3.length<=1000,finS Ah w3 Ap Af,fun R=>(Aa,Ae,Ab,Am,Ao,Ag,Aj,Ah,Ai,R.f,R.h,At,Au,Av,As,c4_0,c4_1,c4_2,c4_3,c4_4,c4_5,c4_6,c4_7,c4_8,c4_9,Cr,Cs,Ct,Cu,w2k,w2v,w3,w5k,w5v,w6k,w6v,w7k,w7v,w8,w10,w11,w12k,w12v,()))
abbrev k3r (R:FH) (Aa Ae Ab Am Ao Ag Aj Ah Ai:Int) (At:Bool) (Au Av:Int) (As:List wD) (c4_0 c4_1 c4_2 c4_3 c4_4 c4_5 c4_6 c4_7 c4_8 c4_9 Cr:Int) (Cs:Li) (Ct:List wA) (Cu:Int) (w2k:Li) (w2v:List wK) (w3:Li) (w5k:Lb) (w5v:Li) (w6k:Lb) (w6v:List (Li)) (w7k:Lb) (w7v:Lo) (w8 w10:Li) (w11:List wJ) (w12k:Li) (w12v:Lo) (o0 o1 o2 o3 o4 o5 o6 o7 o8 o9 o10:Int) (o11:Bool) (o12 o13:Int) (o14:List wD) (o15 o16 o17 o18 o19 o20 o21 o22 o23 o24 o25:Int) (o26:Li) (o27:List wA) (o28:Int) (o29:Li) (o30:List wK) (o31:Li) (o32:Lb) (o33:Li) (o34:Lb) (o35:List (Li)) (o36:Lb) (o37:Lo) (o38 o39:Li) (o40:List wJ) (o41:Li) (o42:Lo):Prop:=o0=Aa/\o1=Ae/\o2=Ab/\o3=Am/\o4=Ao/\o5=Ag/\o6=Aj/\o7=Ah/\o8=Ai/\o9=R.f/\o10=R.h/\o11=At/\o12=Au/\o13=Av/\o14=As/\o15=c4_0/\o16=c4_1/\o17=c4_2/\o18=c4_3/\o19=c4_4/\o20=c4_5/\o21=c4_6/\o22=c4_7/\o23=c4_8/\o24=c4_9/\o25=Cr/\o26=Cs/\o27=Ct/\o28=Cu/\o29=w2k/\o30=w2v/\o31=w3/\o32=w5k/\o33=w5v/\o34=w6k/\o35=w6v/\o36=w7k/\o37=w7v/\o38=w8/\o39=w10/\o40=w11/\o41=w12k/\o42=w12v
theorem kaa:k8y.Ok Tryz.prog TB:=pbv Bs Tryz.func51 (.r 0 (.jn ⟨[],[],[23],[.one (.d (.bool))],[]⟩ [] .no [] .no)) c0 (Q:=∀(Aa Ae Ab Am Ao Ag Aj Ah Ai Ap Af:Int) (At:Bool) (Au Av:Int) (As:List wD) (c4_0 c4_1 c4_2 c4_3 c4_4 c4_5 c4_6 c4_7 c4_8 c4_9 Cr:Int) (Cs:Li) (Ct:List wA) (Cu:Int) (w2k:Li) (w2v:List wK) (w3:Li) (w5k:Lb) (w5v:Li) (w6k:Lb) (w6v:List (Li)) (w7k:Lb) (w7v:Lo) (w8 w10:Li) (w11:List wJ) (w12k:Li) (w12v:Lo),((1<=Ah/\Ah<=1048576)/\w3.length<=1000)->∀R,finS Ah w3 Ap Af=R-> 
 let v1:Int:=i64.wrap ((w3.length:Int)-Ah)
 ∀J1:Bool->Prop,(∀(b1:Bool),
((b1=true->
(0<=i64.wrap (v1-1))/\i64.wrap (v1-1)<(w3.length:Int)/\lz w11/\lz w10/\lz w8/\(w3=w3)/\k3r R Aa Ae Ab Am Ao Ag Aj Ah Ai At Au Av As c4_0 c4_1 c4_2 c4_3 c4_4 c4_5 c4_6 c4_7 c4_8 c4_9 Cr Cs Ct Cu w2k w2v w3 w5k w5v w6k w6v w7k w7v w8 w10 w11 w12k w12v Aa Ae Ab Am Ao Ag Aj Ah Ai (ix w3 (i64.wrap (v1-1))) v1 At Au Av As c4_0 c4_1 c4_2 c4_3 c4_4 c4_5 c4_6 c4_7 c4_8 c4_9 Cr Cs Ct Cu w2k w2v w3 w5k w5v w6k w6v w7k w7v w8 w10 w11 w12k w12v)/\
(b1=false->
 lz w11/\lz w10/\lz w8/\(w3=w3)/\k3r R Aa Ae Ab Am Ao Ag Aj Ah Ai At Au Av As c4_0 c4_1 c4_2 c4_3 c4_4 c4_5 c4_6 c4_7 c4_8 c4_9 Cr Cs Ct Cu w2k w2v w3 w5k w5v w6k w6v w7k w7v w8 w10 w11 w12k w12v Aa Ae Ab Am Ao Ag Aj Ah Ai Ap Af At Au Av As c4_0 c4_1 c4_2 c4_3 c4_4 c4_5 c4_6 c4_7 c4_8 c4_9 Cr Cs Ct Cu w2k w2v w3 w5k w5v w6k w6v w7k w7v w8 w10 w11 w12k w12v))->J1 b1)->
(decide (1<=v1)=true->
 J1 (decide (Af<v1)))/\
(decide (1<=v1)=false->
 J1 false))<|by
 rintro Aa Ae Ab Am Ao Ag Aj Ah Ai Ap Af At Au Av As c4_0 c4_1 c4_2 c4_3 c4_4 c4_5 c4_6 c4_7 c4_8 c4_9 Cr Cs Ct Cu w2k w2v w3 w5k w5v w6k w6v w7k w7v w8 w10 w11 w12k w12v h R hR;obtain⟨⟨h1,h2⟩,h3⟩:=h;intro v1 J1 k1;have hv:v1=(w3.length:Int)-Ah:=wi _ qqo qqo
 clear_value v1
 subst hv
 have j:∀b:Bool,(b=true↔(1<=(w3.length:Int)-Ah/\Af<(w3.length:Int)-Ah))->J1 b:=fun b hb=>k1 b ⟨fun e=>by
  have hh:=hb.1 e;have hq:=hR.symm.trans (show finS Ah w3 Ap Af=_ from qi hh);subst hq;rw[wi ((w3.length:Int)-Ah-1) qqo qqo];exact⟨by omega,by omega,(by repeat' first|apply qq|exact rfl|exact qn)⟩,fun e=>by
  have hh:¬(1<=(w3.length:Int)-Ah/\Af<(w3.length:Int)-Ah):=fun hq=>by rw[hb.2 hq]at e;cases e
  have hq:=hR.symm.trans (show finS Ah w3 Ap Af=_ from qf hh);subst hq;exact(by repeat' first|apply qq|exact rfl|exact qn)⟩
 exact⟨fun e=>j _ ⟨fun e2=>⟨qb e,qb e2⟩,fun hq=>qbr hq.2⟩,fun e=>j _ ⟨fun e2=>(by cases e2),fun hq=>(qc e hq.1).elim⟩⟩
noncomputable def kkc:Con TB.den:= .g (gk 163 [.one (.ptr 0 0),.one (zqu)] yM1 (.one (.one (.d (.bool))))) [yqu,.sl yqu,.sl (.bool)] [.bool,.sl yqu,.sl (.bool)] [] fun(p1:Int) (w1k:Li) (w1v:Lo)=>(w1v=trs w1k,(decide (p1∈w1k):Bool),w1k,w1v,())
theorem kl2:kkc.Ok Tryz.prog TB:=prv Bs Tryz.func163 .no c0 (Q:=∀(p1:Int) (w1k:Li) (w1v:Lo),(w1v=trs w1k)->∀r0:Bool,(decide (p1∈w1k))=r0->∀e1k:Li,w1k=e1k->∀e1v:Lo,w1v=e1v-> 
 w1k.length=w1v.length/\let v1:Bool:=mVal (BEq.beq p1) w1k w1v false
 v1=r0/\w1k=e1k/\w1v=e1v)<|by rintro p1 w1k w1v h _ rfl _ rfl _ rfl;subst h;exact⟨by simp[trs],sVal _ _,rfl,rfl⟩
noncomputable def ka4:Con TB.den:= .g (gk 68 [.one (.ptr 0 0)] yM (.one (.one (.view 3)))) yS [yqi,yqi,yqi,yqi,yqi,yqi,yqi,yqu,yqi,yqi,yqu,yqi,yqi,.sl yqu,.sl (.st 9),yqu,.sl yqu,.sl yqu,.sl (.st 10),.sl yqu,.sl (.bool)] [] fun(Ac Aa Ae Ab Am Ao Ag Aj Ah Ai Ak:Int) (Ad:Li) (Af:List wA) (Al:Int) (w1 w3:Li) (w4:List wJ) (w5k:Li) (w5v:Lo)=>((1<=Ag/\Ag<=100)/\w3.length<=1000000,(((w3.length-Ag.toNat:Nat):Int):Int),(((w3.length-(w3.length-Ag.toNat):Nat):Int):Int),Ac,Aa,Ae,Ab,Am,Ao,Ag,Aj,Ah,Ai,Ak,Ad,Af,Al,w1,w3,w4,w5k,w5v,())
theorem kbn:ka4.Ok Tryz.prog TB:=prv Bs Tryz.func68 .no c0 (Q:=∀(Ac Aa Ae Ab Am Ao Ag Aj Ah Ai Ak:Int) (Ad:Li) (Af:List wA) (Al:Int) (w1 w3:Li) (w4:List wJ) (w5k:Li) (w5v:Lo),((1<=Ag/\Ag<=100)/\w3.length<=1000000)->∀r0o:Int,((w3.length-Ag.toNat:Nat):Int)=r0o->∀r0n:Int,((w3.length-(w3.length-Ag.toNat):Nat):Int)=r0n->∀Ay:Int,Ac=Ay->∀Aq:Int,Aa=Aq->∀Aw:Int,Ae=Aw->∀Ax:Int,Ab=Ax->∀B0:Int,Am=B0->∀B1:Int,Ao=B1->∀Bl:Int,Ag=Bl->∀Bm:Int,Aj=Bm->∀Bn:Int,Ah=Bn->∀Bo:Int,Ai=Bo->∀Bw:Int,Ak=Bw->∀A9:Li,Ad=A9->∀Ba:List wA,Af=Ba->∀Bx:Int,Al=Bx->∀e1:Li,w1=e1->∀e3:Li,w3=e3->∀e4:List wJ,w4=e4->∀e5k:Li,w5k=e5k->∀e5v:Lo,w5v=e5v-> 
 let v1:Int:=i64.wrap ((w3.length:Int)-(if 0<Ag then Ag else 0))
(0<=(if 0<v1 then v1 else 0))/\(if 0<v1 then v1 else 0)<=(w3.length:Int)/\lz w4/\lz w3/\lz w1/\(((if 0<v1 then v1 else 0).toNat:Nat):Int)=r0o/\((w3.length-(if 0<v1 then v1 else 0).toNat:Nat):Int)=r0n/\Ac=Ay/\Aa=Aq/\Ae=Aw/\Ab=Ax/\Am=B0/\Ao=B1/\Ag=Bl/\Aj=Bm/\Ah=Bn/\Ai=Bo/\Ak=Bw/\Ad=A9/\Af=Ba/\Al=Bx/\w1=e1/\w3=e3/\w4=e4/\w5k=e5k/\w5v=e5v)<|by
 rintro Ac Aa Ae Ab Am Ao Ag Aj Ah Ai Ak Ad Af Al w1 w3 w4 w5k w5v h;repeat rintro _ rfl
 obtain⟨⟨h1,h2⟩,h3⟩:=h;refine ?_;intro v1;have hv:v1=(w3.length:Int)-Ag:=by show i64.wrap _=_;rw[qi (show 0<Ag by omega),ko _ qqo qqo]
 have e:(if 0<v1 then v1 else 0)=((w3.length-Ag.toNat:Nat):Int):=by rw[hv];split<;>omega
 rw[e,qt];exact⟨by omega,by omega,rfl,rfl,rfl,rfl,rfl,rfl,rfl,rfl,rfl,rfl,rfl,rfl,rfl,rfl,rfl,rfl,rfl,rfl,rfl,rfl,rfl,rfl,rfl,rfl⟩
noncomputable def kgo:Con TB.den:= .tp 376 [yqu] [.bool] [] fun(p0:Int)=>(false,())
theorem kif:kgo.Ok Tryz.prog TB:=qtv Bs Tryz.func376 .no c0 (Q:=∀(p0:Int),∀r0:Bool,(false:Bool)=r0-> 
(p0 !=p0)=r0)<|by rintro p0 _ rfl;exact qqs
noncomputable def kdf:Con TB.den:= .tp 302 [yqu,yqu] [yqi] [] fun(p0 p1:Int)=>((cmp3 p0 p1:Int),())
theorem kf6:kdf.Ok Tryz.prog TB:=qtv Bs Tryz.func302 .no (kif.c c0) (Q:=∀(p0 p1:Int),∀r0:Int,cmp3 p0 p1=r0-> 
(false=true->
(false=true->
 0=r0)/\
(false=false->
(-1)=r0))/\
(false=false->
(false=true->
 1=r0)/\
(false=false->
(decide (p0<p1)=true->
(-1)=r0)/\
(decide (p0<p1)=false->
(decide (p1<p0)=true->
 1=r0)/\
(decide (p1<p0)=false->
 0=r0)))))<|by rintro p0 p1 _ rfl;refine⟨fun e=>(by cases e),fun _=>⟨fun e=>(by cases e),fun _=> ?_⟩⟩;simp only[qaf,decide_eq_false_iff_not];unfold cmp3;exact⟨fun h=>by simp[h],fun h=>⟨fun h2=>by simp[h,h2],fun h2=>by simp[h,h2]⟩⟩
noncomputable def k3x:Con TB.den:= .tp 301 [.st 9,yqu] [yqi] [] fun(p0:wA) (p1:Int)=>((cmp3 p0.ID p1:Int),())
theorem k4d:k3x.Ok Tryz.prog TB:=qtv Bs Tryz.func301 .no (kf6.c c0) (Q:=∀(p0:wA) (p1:Int),∀r0:Int,cmp3 p0.ID p1=r0-> 
(cmp3 p0.ID p1)=r0)<|by rintro p0 p1 _ rfl;exact rfl
noncomputable def k3l:Con TB.den:= .g (gk 300 [.one (.d (.sl (.st 9))),.one (zqu),.one (.k (.fn 301))] [] (.tup [.one (zqi),.one (.d (.bool))])) [.sl (.st 9),yqu] [yqi,.bool] [] fun(p0:List wA) (p1:Int)=>(Srt p0/\p0.length<4611686018427387904,((lb p0 p1:Int):Int),(fnd p0 p1:Bool),())
theorem k3p:k3l.Ok Tryz.prog TB:=prv Bs Tryz.func300 (.r 2 (.nd [] (.lp [] ⟨[],[],[9,10],[.one (zqi),.one (zqi)],[]⟩ .no) [] .no)) (k4d.c c0) (Q:=∀(p0:List wA) (p1:Int),(Srt p0/\p0.length<4611686018427387904)->∀r0:Int,(lb p0 p1:Int)=r0->∀r1:Bool,fnd p0 p1=r1-> 
 ∃(I1:Int->Int->Prop) (M1:Int->Int->Nat),I1 0 (p0.length:Int)/\∀b1 f1,(I1 b1 f1->
(decide (b1<f1)=true->
 let v2:Int:=u64.wrap (i64.wrap (b1+f1))
(0<=i64.wrap (ishr .u64 v2 1))/\i64.wrap (ishr .u64 v2 1)<(p0.length:Int)/\let r3:Int:=(cmp3 (ix p0 (i64.wrap (ishr .u64 v2 1))).ID p1)
(decide (r3<0)=true->
 let v4:Int:=i64.wrap ((i64.wrap (ishr .u64 v2 1))+1)
 I1 v4 f1/\M1 v4 f1<M1 b1 f1)/\
(decide (r3<0)=false->
 I1 b1 (i64.wrap (ishr .u64 v2 1))/\M1 b1 (i64.wrap (ishr .u64 v2 1))<M1 b1 f1))/\
(decide (b1<f1)=false->
(decide (b1<(p0.length:Int))=true->
(0<=b1)/\b1<(p0.length:Int)/\b1=r0/\((cmp3 (ix p0 b1).ID p1)==0)=r1)/\
(decide (b1<(p0.length:Int))=false->
 b1=r0/\false=r1))))<|by
 rintro p0 p1 h _ rfl _ rfl;obtain⟨hs,hl⟩:=h;refine(⟨(fun a b=>∃i j:Nat,a=(i:Int)/\b=(j:Int)/\i<=j/\j<=p0.length/\(∀k (h:k<p0.length),k<i->p0[k].ID<p1)/\(∀k (h:k<p0.length),j<=k->p1<=p0[k].ID)),(fun a b=>(b-a).toNat),⟨0,p0.length,rfl,rfl,by omega,by omega,fun k h hk=>by omega,fun k h hk=>by omega⟩,?_⟩);rintro _ _ ⟨i,j,rfl,rfl,hij,hj,h1,h2⟩;refine⟨fun hlt=> ?_,fun hlt=> ?_⟩
 ·have hlt' :i<j:=by have:=qb hlt;omega
  intro v2;have e:i64.wrap (ishr .u64 v2 1)=(((i+j)/2:Nat):Int):=mid_eq i j qqo;rw[e];have hm:(i+j)/2<p0.length:=by omega
  rw[ix_get _ _ hm];refine⟨by omega,by omega,fun hc=> ?_,fun hc=> ?_⟩
  ·have hc:=cmp3_lt.1 (qb hc);refine⟨⟨(i+j)/2+1,j,inc_i64 _ qqo,rfl,by omega,hj,fun k h hk=> ?_,h2⟩,?_⟩
   ·rcases qaw k ((i+j)/2)with h5|h5
    ·have:=hs _ _ h5 hm;omega
    ·have:k=(i+j)/2:=by omega
     subst this;exact hc
   ·rw[inc_i64 _ qqo];(dsimp only;omega)
  ·have hc:¬p0[(i+j)/2].ID<p1:=fun hh=>qc hc (cmp3_lt.2 hh);refine⟨⟨i,(i+j)/2,rfl,rfl,by omega,by omega,h1,fun k h hk=> ?_⟩,by(dsimp only;omega)⟩;rcases qaw ((i+j)/2) k with h5|h5
   ·have:=hs _ _ h5 h;omega
   ·have:k=(i+j)/2:=by omega
    subst this;omega
 ·have hij' :i=j:=by have:=qc hlt;omega
  subst hij';have hb:lb p0 p1=i:=lb_eq p0 p1 i hj h1 (fun h=>h2 i h qqo);refine⟨fun hi=> ?_,fun hi=> ?_⟩
  ·have hi:i<p0.length:=by have:=qb hi;omega
   refine⟨by omega,by omega,by rw[hb],?_⟩;unfold fnd;rw[hb,ix_get _ _ hi,qd hi];show((cmp3 p0[i].ID p1)==0)=decide (p0[i].ID=p1);rw[Bool.eq_iff_iff];simp[cmp3_eq]
  ·have hi:¬i<p0.length:=by have:=qc hi;omega
   refine⟨by rw[hb],?_⟩;unfold fnd;rw[hb,qek qqo]
noncomputable def kdl:Con TB.den:= .gp 224 [.st 17,yqu] [yqi,.bool] [] fun(p0:wm) (p1:Int)=>(Srt p0.wF/\p0.wF.length<4611686018427387904,((lb p0.wF p1:Int):Int),(fnd p0.wF p1:Bool),())
theorem k65:kdl.Ok Tryz.prog TB:=qrv Bs Tryz.func224 .no (k3p.c c0) (Q:=∀(p0:wm) (p1:Int),(Srt p0.wF/\p0.wF.length<4611686018427387904)->∀r0:Int,(lb p0.wF p1:Int)=r0->∀r1:Bool,fnd p0.wF p1=r1-> 
(Srt p0.wF/\p0.wF.length<4611686018427387904)/\(lb p0.wF p1:Int)=r0/\(fnd p0.wF p1)=r1)<|by rintro p0 p1 h _ rfl _ rfl;exact⟨h,rfl,rfl⟩
noncomputable def kez:Con TB.den:= .bp 167 [.st 17,yqu] [yqu,yqu] fun(p0:wm) (p1:Int)=>(Srt p0.wF/\p0.wF.length<4611686018427387904,getA p0.wF p1,fun R=>(R.wa,R.wY,()))
theorem k7q:kez.Ok Tryz.prog TB:=qbv Bs Tryz.func167 .no (k65.c c0) (Q:=∀(p0:wm) (p1:Int),(Srt p0.wF/\p0.wF.length<4611686018427387904)->∀R,getA p0.wF p1=R-> 
(Srt p0.wF/\p0.wF.length<4611686018427387904)/\((!(fnd p0.wF p1))=true->
 0=R.wa/\0=R.wY)/\
((!(fnd p0.wF p1))=false->
(0<=(lb p0.wF p1:Int))/\(lb p0.wF p1:Int)<(p0.wF.length:Int)/\let v2:Int:=(ix p0.wF (lb p0.wF p1:Int)).wa
(0<=(lb p0.wF p1:Int))/\(lb p0.wF p1:Int)<(p0.wF.length:Int)/\let v3:Int:=(ix p0.wF (lb p0.wF p1:Int)).wY
 v2=R.wa/\v3=R.wY))<|by
 rintro p0 p1 h R hR;subst hR;refine⟨h,fun hh=> ?_,fun hh=> ?_⟩
 ·have hf:fnd p0.wF p1=false:=by simpa using hh
  rw[getA_no h.1 hf];exact⟨rfl,rfl⟩
 ·have hf:fnd p0.wF p1=true:=by simpa using hh
  obtain⟨hb,_⟩:=k4j hf;rw[getA_of h.1 hf hb,ix_get _ _ hb];exact⟨by omega,by omega,by omega,by omega,rfl,rfl⟩
noncomputable def k3n:Con TB.den:= .g ⟨75,[.one (.d (.sl (.st 9)))],[],(.one (.one (.own 0))),[.tip (.st 9)],false⟩ [.sl (.st 9)] [.sl (.st 9)] [] fun(p0:List wA)=>(p0.length<=100000,p0,())
theorem k42:k3n.Ok Tryz.prog TB:=prv Bs Tryz.func75 (.r 0 (.nd [] (.r 0 (.nd [] (.r 0 (.rt [.tok 2 (.st 9)])) [] .no)) [] .no)) c0 (Q:=∀(p0:List wA),(p0.length<=100000)->∀e0:List wA,p0=e0-> 
 ∀z4:Bool,(z4=true->p0=[])->(z4=true->
(([]:List wA)=([]:List wA))/\([]:List wA)=e0)/\
(z4=false->
(([]:List wA).length+p0.length)*24<=140737488355328/\([]:List wA).length+p0.length<=maxLen/\(([]:List wA)++p0=([]:List wA)++p0)/\([]:List wA)++p0=e0))<|by rintro p0 h _ rfl;exact fun z hz=>⟨fun h=>⟨rfl,(hz h).symm⟩,fun _=>⟨by simp;omega,by simp;unfold maxLen;omega,rfl,rfl⟩⟩
noncomputable def kew:Con TB.den:= .gp 169 [.st 17,.st 9] [.st 17] [] fun(p0:wm) (p1:wA)=>(Srt p0.wF/\p0.wF.length<=1000,(wm.mk (putA p0.wF p1):wm),())
theorem k7n:kew.Ok Tryz.prog TB:=qrv Bs Tryz.func169 (.r 2 (.jn ⟨[3],[.tip (.st 9)],[7],[.one (.own 0)],[]⟩ [] (.jn ⟨[],[],[27],[.one (.d (.bool))],[]⟩ [] .no [] .no) [] (.jn ⟨[],[],[5],[.one (zqi)],[]⟩ [] .no [] .no))) (k65.c (k42.c c0)) (Q:=∀(p0:wm) (p1:wA),(Srt p0.wF/\p0.wF.length<=1000)->∀r0:wm,(wm.mk (putA p0.wF p1))=r0-> 
(Srt p0.wF/\p0.wF.length<4611686018427387904)/\(0<=(lb p0.wF p1.ID:Int))/\(lb p0.wF p1.ID:Int)<=(p0.wF.length:Int)/\let v1:List wA:=p0.wF.take (lb p0.wF p1.ID:Int).toNat
(v1.length<=100000)/\∀J1:(List wA)->Prop,(∀(b1:List wA),
(∀J3:Int->Prop,(∀(i1:Int),
((0<=i1)/\i1<=(p0.wF.length:Int)/\lz b1/\(b1.length+(p0.wF.drop i1.toNat).length)*24<=140737488355328/\b1.length+(p0.wF.drop i1.toNat).length<=maxLen/\b1++(p0.wF.drop i1.toNat)=r0.wF)->J3 i1)->
((fnd p0.wF p1.ID)=true->
 let v2:Int:=i64.wrap ((lb p0.wF p1.ID:Int)+1)
 J3 v2)/\
((fnd p0.wF p1.ID)=false->
 J3 (lb p0.wF p1.ID:Int)))->J1 b1)->
 ∀J2:Bool->Prop,(∀(f1:Bool),
((f1=true->
 lz v1/\(v1.length+[p1].length)*24<=140737488355328/\v1.length+[p1].length<=maxLen/\(v1++[p1]=v1++[p1])/\J1 (v1++[p1]))/\
(f1=false->
(v1=v1)/\J1 v1))->J2 f1)->
((p1.wa !=0)=true->
 J2 true)/\
((p1.wa !=0)=false->
 J2 (p1.wY !=0)))<|by
 rintro p0 p1 h _ rfl;obtain⟨hs,hl⟩:=h;have hlb:=lb_le p0.wF p1.ID;refine⟨⟨hs,by omega⟩,by omega,by omega,?_⟩;simp only[qt];refine⟨by simp;omega,fun J1 j1=> ?_⟩
 have hJ1:∀m:List wA,m=p0.wF.take (lb p0.wF p1.ID)++(if p1.wa≠0∨p1.wY≠0 then [p1]else [])->J1 m:=by
  intro m hm;have hml:m.length<=1001:=by rw[hm];simp only[qj,qab];split<;>simp<;>omega
  refine j1 _ fun J3 j3=> ?_
  have hJ3:∀n:Nat,n<=p0.wF.length->m++p0.wF.drop n=putA p0.wF p1->J3 (n:Int):=by
   intro n hn he;have:=(qbe:(p0.wF.drop n).length=_);refine j3 _ ⟨by omega,by omega,by first|exact rfl|exact qn,?_,?_,?_⟩
   ·simp only[qt];omega
   ·simp only[qt];unfold maxLen;omega
   ·simp only[qt];exact he
  refine⟨fun hf=> ?_,fun hf=> ?_⟩
  ·obtain⟨hb,_⟩:=k4j hf;rw[inc_i64 _ qqo];refine hJ3 _ qqo ?_;rw[hm];unfold putA;rw[hf];rfl
  ·refine hJ3 _ qqo ?_;rw[hm];unfold putA;rw[hf];rfl
 intro J2 j2
 have hJ2:∀b:Bool,(b=true↔(p1.wa≠0∨p1.wY≠0))->J2 b:=by
  intro b hb;refine j2 _ ⟨fun e=> ?_,fun e=> ?_⟩
  ·have hlt:(p0.wF.take (lb p0.wF p1.ID)).length<=1000:=by rw[qab];omega
   refine⟨by first|exact rfl|exact qn,(len24 _ _ (qbf hlt qqd)).1,(len24 _ _ (qbf hlt qqd)).2,by first|exact rfl|exact qn,hJ1 _ ?_⟩;rw[qi (hb.1 e)]
  ·refine⟨by first|exact rfl|exact qn,hJ1 _ ?_⟩;rw[qf (fun hh=>by rw[hb.2 hh]at e;cases e)];exact(qcd _).symm
 refine⟨fun e=>hJ2 _ ?_,fun e=>hJ2 _ ?_⟩
 ·have:p1.wa≠0:=by simpa using e
  simp[this]
 ·have:p1.wa=0:=by simpa using e
  simp[this]
noncomputable def kc2:Con TB.den:= .gp 164 [.st 17,yqu,yqu,yqu] [.st 17,yqi] [] fun(p0:wm) (p1 p2 p3:Int)=>(OkA p0.wF/\U64 p2/\U64 p3,(wm.mk (debitA p0.wF p1 p2 p3).1:wm),((debitA p0.wF p1 p2 p3).2:Int),())
theorem k52:kc2.Ok Tryz.prog TB:=qrv Bs Tryz.func164 (.r 2 (.nd [] (.jn ⟨[],[],[27],[.one (.d (.bool))],[]⟩ [] .no [] .no) [] .no)) (k7q.c (k7n.c c0)) (Q:=∀(p0:wm) (p1 p2 p3:Int),(OkA p0.wF/\U64 p2/\U64 p3)->∀r0:wm,(wm.mk (debitA p0.wF p1 p2 p3).1)=r0->∀r1:Int,((debitA p0.wF p1 p2 p3).2)=r1-> 
(Srt p0.wF/\p0.wF.length<4611686018427387904)/\((p2==0)=true->
([]:List wA)=r0.wF/\1=r1)/\
((p2==0)=false->
 ∀J1:Bool->Prop,(∀(b1:Bool),
((b1=true->
([]:List wA)=r0.wF/\20=r1)/\
(b1=false->
 let v2:Bool:=decide (((getA p0.wF p1).wa)<p2)
(v2=true->
([]:List wA)=r0.wF/\15=r1)/\
(v2=false->
 let v3:Int:=u64.wrap (((getA p0.wF p1).wa)-p2)
(Srt p0.wF/\p0.wF.length<=1000)/\let r4:List wA:=(putA p0.wF (wA.mk p1 v3 (u64.wrap (p3+1))))
 r4=r0.wF/\0=r1)))->J1 b1)->
((p3 !=((getA p0.wF p1).wY))=true->
 J1 true)/\
((p3 !=((getA p0.wF p1).wY))=false->
 J1 (p3==18446744073709551615))))<|by
 rintro p0 p1 p2 p3 h _ rfl _ rfl;obtain⟨h,⟨ha,ha'⟩,hn,hn'⟩:=h;obtain⟨g1,g2⟩:=getA_ok h p1;refine⟨⟨h.1,by have:=h.2.1;omega⟩,fun hh=> ?_,fun hh J1 j=> ?_⟩
 ·have:p2=0:=by simpa using hh
  simp[debitA,this]
 have h0:p2≠0:=by simpa using hh
 have key:∀b:Bool,(b=true↔(p3≠(getA p0.wF p1).wY∨p3=18446744073709551615))->J1 b:=by
  intro b hb;refine j _ ⟨fun e=> ?_,fun e=> ?_⟩
  ·simp only[debitA,qf h0,qi (hb.1 e)];exact⟨by first|exact rfl|exact qn,by first|exact rfl|exact qn⟩
  ·have h1:¬(p3≠(getA p0.wF p1).wY∨p3=18446744073709551615):=fun hh=>by rw[hb.2 hh]at e;cases e
   simp only[debitA,qf h0,qf h1];refine⟨fun hh=> ?_,fun hh=> ?_⟩
   ·have:=qb hh;simp[this]
   ·have h2:=qc hh;simp only[qf h2];have:p3≠18446744073709551615:=fun e=>h1 (.inr e);rw[wrap_u64 _ qqo qqo,wrap_u64 (p3+1) qqo qqo];exact⟨⟨h.1,h.2.1⟩,rfl,by first|exact rfl|exact qn⟩
 refine⟨fun e=>key _ ?_,fun e=>key _ ?_⟩
 ·have:p3≠(getA p0.wF p1).wY:=by simpa using e
  simp[this]
 ·have:p3=(getA p0.wF p1).wY:=by simpa using e
  rw[this];simp
noncomputable def k8b:Con TB.den:= .g (gk 223 [.one (.view 0),.one (zqu)] [.vec yqu] (.one (.one (zqi)))) [yqi,yqi,yqu,.sl yqu] [yqi,.sl yqu] [] fun(p0o p0n p1:Int) (w0:Li)=>(0<=p0o/\0<=p0n/\p0o.toNat+p0n.toNat<=w0.length/\w0.length<=1000000,(idxI ((w0.drop p0o.toNat).take p0n.toNat) p1:Int),w0,())
theorem ka2:k8b.Ok Tryz.prog TB:=prv Bs Tryz.func223 (.r 0 (.nd [] (.r 0 (.lp [] ⟨[],[],[8],[.one (zqi)],[]⟩ .no)) [] .no)) c0 (Q:=∀(p0o p0n p1:Int) (w0:Li),(0<=p0o/\0<=p0n/\p0o.toNat+p0n.toNat<=w0.length/\w0.length<=1000000)->∀r0:Int,(idxI ((w0.drop p0o.toNat).take p0n.toNat) p1)=r0->∀e0:Li,w0=e0-> 
 ∃(I1:Int->Prop) (M1:Int->Nat),I1 0/\∀b1,(I1 b1->
(decide (b1<(p0n.toNat:Int))=true->
(0<=b1/\b1<(p0n.toNat:Int))/\(0<=((p0o.toNat:Int)+b1)/\((p0o.toNat:Int)+b1)<(w0.length:Int))/\((p1==(ix w0 ((p0o.toNat:Int)+b1)))=true->
 b1=r0/\w0=e0)/\
((p1==(ix w0 ((p0o.toNat:Int)+b1)))=false->
 I1 (i64.wrap (b1+1))/\M1 (i64.wrap (b1+1))<M1 b1))/\
(decide (b1<(p0n.toNat:Int))=false->
(-1)=r0/\w0=e0)))<|by
 rintro p0o p0n p1 w0 h _ rfl _ rfl;obtain⟨h0,h1,h2,h3⟩:=h;obtain⟨o,rfl⟩:=qo h0;obtain⟨n,rfl⟩:=qo h1;simp only[qt]at h2 ⊢;have hl:((w0.drop o).take n).length=n:=by simp;omega
 refine⟨(fun c=>∃i:Nat,c=(i:Int)/\i<=n/\p1∉((w0.drop o).take n).take i),(fun c=>(n-c).toNat),⟨0,rfl,by omega,by simp⟩,?_⟩;rintro _ ⟨i,rfl,hi,hm⟩;refine⟨fun e=> ?_,fun e=> ?_⟩
 ·have e:i<n:=by have:=qb e;omega
  have hw:o+i<w0.length:=by omega
  have hg:((w0.drop o).take n)[i]' qqo=w0[o+i]:=by simp
  have hx:ix w0 ((o:Int)+(i:Int))=w0[o+i]:=by rw[show(o:Int)+(i:Int)=((o+i:Nat):Int)by omega,ix_get _ _ hw]
  rw[hx];refine⟨by omega,by omega,fun e2=> ?_,fun e2=> ?_⟩
  ·have e2:p1=w0[o+i]:=by simpa using e2
   unfold idxI;rw[qi (by rw[e2,<-hg];exact qal _)]
   have:((w0.drop o).take n).idxOf p1=i:=by
    conv=>lhs;rw[<-qbs i ((w0.drop o).take n)]
    rw[List.idxOf_append,qf hm,qas (show i<((w0.drop o).take n).length by omega),hg,<-e2,List.idxOf_cons_self,qab];omega
   rw[this];exact⟨rfl,trivial⟩
  ·have e2:¬p1=w0[o+i]:=by simpa using e2
   rw[inc_i64 _ qqo];refine⟨⟨i+1,rfl,by omega,?_⟩,by(dsimp only;omega)⟩;rw[qat (show i<((w0.drop o).take n).length by omega),hg];simp only[qae,qag];exact fun hh=>hh.elim hm e2
 ·have e:i=n:=by have:=qc e;omega
  rw[qw qqo]at hm;unfold idxI;rw[qf hm];exact⟨rfl,trivial⟩
noncomputable def k5o:Con TB.den:= .g (gk 162 [.one (.view 0),.one (zqu)] [.vec yqu] (.one (.one (.d (.bool))))) [yqi,yqi,yqu,.sl yqu] [.bool,.sl yqu] [] fun(p0o p0n p1:Int) (w0:Li)=>(0<=p0o/\0<=p0n/\p0o.toNat+p0n.toNat<=w0.length/\w0.length<=1000000,(decide (p1∈(w0.drop p0o.toNat).take p0n.toNat):Bool),w0,())
theorem k74:k5o.Ok Tryz.prog TB:=prv Bs Tryz.func162 .no (ka2.c c0) (Q:=∀(p0o p0n p1:Int) (w0:Li),(0<=p0o/\0<=p0n/\p0o.toNat+p0n.toNat<=w0.length/\w0.length<=1000000)->∀r0:Bool,(decide (p1∈(w0.drop p0o.toNat).take p0n.toNat))=r0->∀e0:Li,w0=e0-> 
(0<=(p0o.toNat:Int)/\0<=(p0n.toNat:Int)/\(p0o.toNat:Int).toNat+(p0n.toNat:Int).toNat<=w0.length/\w0.length<=1000000)/\let r1:Int:=(idxI ((w0.drop (p0o.toNat:Int).toNat).take (p0n.toNat:Int).toNat) p1)
 decide (0<=r1)=r0/\w0=e0)<|by
 rintro p0o p0n p1 w0 h _ rfl _ rfl;have h' :=h;obtain⟨h0,h1,h2,h3⟩:=h;obtain⟨o,rfl⟩:=qo h0;obtain⟨n,rfl⟩:=qo h1;refine⟨h',?_,rfl⟩;simp only[qt];unfold idxI;by_cases hm:p1∈(w0.drop o).take n
 ·simp[hm]
 ·simp[hm]
noncomputable def k7t:Con TB.den:= .tp 135 [.st 2] [.bool] [] fun(p0:wZ)=>((vAmounts p0:Bool),())
theorem k9a:k7t.Ok Tryz.prog TB:=qtv Bs Tryz.func135 .no c0 (Q:=∀(p0:wZ),∀r0:Bool,vAmounts p0=r0-> 
(decide (4294967295<p0.wQ)=true->
 false=r0)/\
(decide (4294967295<p0.wQ)=false->
(decide (4294967295<p0.wT)=true->
 false=r0)/\
(decide (4294967295<p0.wT)=false->
(decide (4294967295<p0.Fee)=true->
 false=r0)/\
(decide (4294967295<p0.Fee)=false->
 let v1:Bool:=decide (18446744069414584321<=p0.wX)
(v1=true->
 false=r0)/\
(v1=false->
(decide (18446744069414584321<=p0.wY)=true->
 false=r0)/\
(decide (18446744069414584321<=p0.wY)=false->
(decide (0<p0.wQ)=true->
(p0.wT==0)=r0)/\
(decide (0<p0.wQ)=false->
(((p0.wI.length:Int)==0)=true->
 false=r0)/\
(((p0.wI.length:Int)==0)=false->
((p0.wY !=0)=true->
 false=r0)/\
((p0.wY !=0)=false->
(decide (0<p0.wT)=true->
 true=r0)/\
(decide (0<p0.wT)=false->
(p0.wX==0)=r0))))))))))<|by
 rintro p0 _ rfl;refine ?_;unfold vAmounts
 try simp only[]
 repeat' (apply qq<;>intro h)
 all_goals simp only[qaf,decide_eq_false_iff_not,beq_iff_eq,bne_iff_ne,Bool.not_eq_true,beq_eq_false_iff_ne,bne_eq_false_iff_eq,List.isEmpty_iff,Int.natCast_eq_zero,qdg]at *
 all_goals simp[*]
 all_goals grind
noncomputable def kb3:Con TB.den:= .gp 223 [.sl yqu,yqu] [yqi] [] fun(p0:Li) (p1:Int)=>(p0.length<=9223372036854775807,(idxI p0 p1:Int),())
theorem kea:kb3.Ok Tryz.prog TB:=qrv Bs Tryz.func223 (.r 0 (.nd [] (.r 0 (.lp [] ⟨[],[],[8],[.one (zqi)],[]⟩ .no)) [] .no)) c0 (Q:=∀(p0:Li) (p1:Int),(p0.length<=9223372036854775807)->∀r0:Int,idxI p0 p1=r0-> 
 ∃(I1:Int->Prop) (M1:Int->Nat),I1 0/\∀b1,(I1 b1->
(decide (b1<(p0.length:Int))=true->
(0<=b1)/\b1<(p0.length:Int)/\((p1==(ix p0 b1))=true->
 b1=r0)/\
((p1==(ix p0 b1))=false->
 I1 (i64.wrap (b1+1))/\M1 (i64.wrap (b1+1))<M1 b1))/\
(decide (b1<(p0.length:Int))=false->
(-1)=r0)))<|by
 rintro p0 p1 h _ rfl;refine(⟨(fun i=>0<=i/\i<=p0.length/\p1∉p0.take i.toNat),(fun i=>(p0.length-i).toNat),⟨by omega,by omega,by simp⟩,?_⟩);rintro i ⟨g0,g1,g2⟩;refine⟨fun h=> ?_,fun h=> ?_⟩
 ·have h:=qb h;refine⟨g0,h,fun e=> ?_,fun e=> ?_⟩
  ·have e:p1=ix p0 i:=by simpa using e
   unfold idxI;rw[qi (by rw[e];exact ix_mem p0 i g0 h)]
   have:p0.idxOf p1=i.toNat:=by
    conv=>lhs;rw[<-qbs i.toNat p0]
    rw[List.idxOf_append,qf g2,drop_ix p0 i g0 h,<-e,List.idxOf_cons_self,qab];omega
   rw[this];omega
  ·have e:¬p1=ix p0 i:=by simpa using e
   rw[inc i p0.length g0 h qqo];refine⟨⟨by omega,by omega,?_⟩,by(dsimp only;omega)⟩;rw[ke p0 i g0 h];simp only[qae,qag];exact fun hh=>hh.elim g2 e
 ·have h:=qc h;rw[qw qqo]at g2;unfold idxI;rw[qf g2]
noncomputable def k87:Con TB.den:= .gp 162 [.sl yqu,yqu] [.bool] [] fun(p0:Li) (p1:Int)=>(p0.length<=9223372036854775807,(decide (p1∈p0):Bool),())
theorem k8n:k87.Ok Tryz.prog TB:=qrv Bs Tryz.func162 .no (kea.c c0) (Q:=∀(p0:Li) (p1:Int),(p0.length<=9223372036854775807)->∀r0:Bool,(decide (p1∈p0))=r0-> 
(p0.length<=9223372036854775807)/\decide (0<=(idxI p0 p1))=r0)<|by
 rintro p0 p1 h _ rfl;refine⟨h,?_⟩;unfold idxI;by_cases hm:p1∈p0
 ·simp[hm]
 ·simp[hm]
noncomputable def kaf:Con TB.den:= .tp 133 [.sl yqu] [.bool] [] fun(p0:Li)=>((vMarks p0:Bool),())
theorem kbg:kaf.Ok Tryz.prog TB:=qtv Bs Tryz.func133 (.r 1 (.nd [] (.r 0 (.lp [] ⟨[],[],[10],[.one (zqi)],[]⟩ .no)) [] .no)) (k8n.c c0) (Q:=∀(p0:Li),∀r0:Bool,vMarks p0=r0-> 
(decide (4<(p0.length:Int))=true->
 false=r0)/\
(decide (4<(p0.length:Int))=false->
 ∃(I1:Int->Prop) (M1:Int->Nat),I1 0/\∀b1,(I1 b1->
(decide (b1<(p0.length:Int))=true->
(0<=b1)/\b1<(p0.length:Int)/\let v1:Bool:=decide (18446744069414584321<=(ix p0 b1))
(v1=true->
 false=r0)/\
(v1=false->
(0<=b1)/\b1<=(p0.length:Int)/\((p0.take b1.toNat).length<=9223372036854775807)/\let r2:Bool:=(decide ((ix p0 b1)∈(p0.take b1.toNat)))
(r2=true->
 false=r0)/\
(r2=false->
 I1 (i64.wrap (b1+1))/\M1 (i64.wrap (b1+1))<M1 b1)))/\
(decide (b1<(p0.length:Int))=false->
 true=r0))))<|by
 rintro p0 _ rfl;refine⟨fun h=> ?_,fun h=> ?_⟩
 ·have h:=qb h;unfold vMarks;rw[qbw qqo];rfl
 ·have h:=qc h;refine⟨(fun i=>0<=i/\i<=p0.length/\(∀x∈p0.take i.toNat,x<18446744069414584321)/\(p0.take i.toNat).Nodup),(fun i=>(p0.length-i).toNat),⟨by omega,by omega,by simp,by simp⟩,?_⟩;rintro i ⟨g0,g1,g2,g3⟩;refine⟨fun hh=> ?_,fun hh=> ?_⟩
  ·have hh:=qb hh;have hm:=ix_mem p0 i g0 hh;refine⟨g0,hh,fun e=> ?_,fun e=>⟨g0,by omega,by simp;omega,fun e2=> ?_,fun e2=> ?_⟩⟩
   ·have e:=qb e;unfold vMarks;have:p0.all (fun x=>decide (x<18446744069414584321))=false:=qcl.2 ⟨_,hm,by simp;omega⟩;rw[this];simp
   ·have e2:=qb e2;unfold vMarks;have:¬p0.Nodup:=by intro hn;rw[<-qbs i.toNat p0,drop_ix p0 i g0 hh]at hn;have:=(qcb.1 hn).2.2 _ e2 _ (qez ..);exact this rfl
    rw[qbw this];simp
   ·have e:=qc e;have e2:=qc e2;rw[inc i p0.length g0 hh qqo];refine⟨⟨by omega,by omega,?_,?_⟩,by(dsimp only;omega)⟩
    ·rw[ke p0 i g0 hh];intro x hx;rcases qae.1 hx with hx|hx
     ·exact g2 x hx
     ·have:x=ix p0 i:=by simpa using hx
      omega
    ·rw[ke p0 i g0 hh];refine qcb.2 ⟨g3,by simp,fun a ha b hb=> ?_⟩;have:b=ix p0 i:=by simpa using hb
     rintro rfl;exact e2 (this▸ha)
  ·have hh:=qc hh;rw[qw qqo]at g2 g3;unfold vMarks;have:p0.all (fun x=>decide (x<18446744069414584321))=true:=by simpa using g2
   rw[this,qbr g3,qbr qqo];rfl
noncomputable def kdu:Con TB.den:= .tp 185 [.st 12] [.bool] [] fun(p0:wAF)=>((vPoint p0.a0 p0.a1:Bool),())
theorem kf0:kdu.Ok Tryz.prog TB:=qtv Bs Tryz.func185 .no c0 (Q:=∀(p0:wAF),∀r0:Bool,vPoint p0.a0 p0.a1=r0-> 
(decide (p0.a0<18446744069414584321)=true->
(decide (p0.a1<18446744069414584321)=true->
((p0.a0 !=0)=true->
 true=r0)/\
((p0.a0 !=0)=false->
(p0.a1 !=0)=r0))/\
(decide (p0.a1<18446744069414584321)=false->
 false=r0))/\
(decide (p0.a0<18446744069414584321)=false->
 false=r0))<|by rintro p0 _ rfl;refine ?_;unfold vPoint;refine⟨fun h=>⟨fun h1=>⟨fun h2=> ?_,fun h2=> ?_⟩,fun h1=> ?_⟩,fun h=> ?_⟩<;>simp_all<;>omega
noncomputable def kc5:Con TB.den:= .tp 134 [.sl (.st 1)] [.bool] [] fun(p0:List wAJ)=>((vOuts p0:Bool),())
theorem kd0:kc5.Ok Tryz.prog TB:=qtv Bs Tryz.func134 (.r 1 (.nd [] (.r 0 (.lp [] ⟨[],[],[12],[.one (zqi)],[]⟩ (.r 1 (.nd [] (.r 2 (.lp [] ⟨[],[],[34],[.one (zqi)],[]⟩ .no)) [] .no)))) [] .no)) (kf0.c c0) (Q:=∀(p0:List wAJ),∀r0:Bool,vOuts p0=r0-> 
(decide (4<(p0.length:Int))=true->
 false=r0)/\
(decide (4<(p0.length:Int))=false->
 ∃(I1:Int->Prop) (M1:Int->Nat),I1 0/\∀b1,(I1 b1->
(decide (b1<(p0.length:Int))=true->
(0<=b1)/\b1<(p0.length:Int)/\let v1:Bool:=decide (18446744069414584321<=((ix p0 b1).wl))
(v1=true->
 false=r0)/\
(v1=false->
 let r2:Bool:=(vPoint (wAF.mk ((ix p0 b1).wAP) ((ix p0 b1).wAK)).a0 (wAF.mk ((ix p0 b1).wAP) ((ix p0 b1).wAK)).a1)
((!r2)=true->
 false=r0)/\
((!r2)=false->
 let v3:Bool:=((((ix p0 b1).wy).length:Int) !=3)
(v3=true->
 false=r0)/\
(v3=false->
 ∃(I2:Int->Prop) (M2:Int->Nat),I2 0/\∀f1,(I2 f1->
 let v4:Bool:=decide (f1<(((ix p0 b1).wy).length:Int))
(v4=true->
(0<=f1)/\f1<(((ix p0 b1).wy).length:Int)/\let v5:Bool:=decide (18446744069414584321<=(ix ((ix p0 b1).wy) f1))
(v5=true->
 false=r0)/\
(v5=false->
 I2 (i64.wrap (f1+1))/\M2 (i64.wrap (f1+1))<M2 f1))/\
(v4=false->
 I1 (i64.wrap (b1+1))/\M1 (i64.wrap (b1+1))<M1 b1))))))/\
(decide (b1<(p0.length:Int))=false->
 true=r0))))<|by
 rintro p0 _ rfl;refine⟨fun h=> ?_,fun h=> ?_⟩
 ·have h:=qb h;unfold vOuts;rw[qbw qqo];rfl
 ·have h:=qc h;have bad:∀i,0<=i->i<(p0.length:Int)->vOut (ix p0 i)=false->false=vOuts p0:=by intro i h0 h1 hb;unfold vOuts;have:p0.all vOut=false:=qcl.2 ⟨_,ix_mem p0 i h0 h1,by simp[hb]⟩;rw[this];simp
  refine⟨(fun i=>0<=i/\i<=p0.length/\∀x∈p0.take i.toNat,vOut x=true),(fun i=>(p0.length-i).toNat),⟨by omega,by omega,by simp⟩,?_⟩;rintro i ⟨g0,g1,g2⟩;refine⟨fun hh=> ?_,fun hh=> ?_⟩
  ·have hh:=qb hh;have bd:=bad i g0 hh;unfold vOut at bd;refine⟨g0,hh,fun e=>bd ?_,fun e=>⟨fun e2=>bd ?_,fun e2=>⟨fun e3=>bd ?_,fun e3=> ?_⟩⟩⟩
   ·have e:=qb e;rw[qbw qqo];rfl
   ·have e2:vPoint (ix p0 i).wAP (ix p0 i).wAK=false:=by simpa using e2
    simp[e2]
   ·have e3:¬(ix p0 i).wy.length=3:=by
     have:¬((ix p0 i).wy.length:Int)=3:=by simpa using e3
     omega
    simp[e3]
   ·have e:=qc e;have e2:vPoint (ix p0 i).wAP (ix p0 i).wAK=true:=by simpa using e2
    have e3:(ix p0 i).wy.length=3:=by
     have:((ix p0 i).wy.length:Int)=3:=by simpa using e3
     omega
    refine⟨(fun k=>0<=k/\k<=3/\∀x∈(ix p0 i).wy.take k.toNat,x<18446744069414584321),(fun k=>(3-k).toNat),⟨by omega,by omega,by simp⟩,?_⟩;rintro k ⟨k0,k1,k2⟩;refine⟨fun hk=> ?_,fun hk=> ?_⟩
    ·have hk:=qb hk;refine⟨k0,hk,fun e4=>bd ?_,fun e4=> ?_⟩
     ·have e4:=qb e4;have:(ix p0 i).wy.all (fun n=>decide (n<18446744069414584321))=false:=qcl.2 ⟨_,ix_mem _ k k0 hk,by simp;omega⟩;rw[this];simp
     ·have e4:=qc e4;rw[inc k 3 k0 qqo qqo];refine⟨⟨by omega,by omega,?_⟩,by(dsimp only;omega)⟩;rw[ke _ k k0 hk];intro x hx;rcases qae.1 hx with hx|hx
      ·exact k2 x hx
      ·have:x=ix (ix p0 i).wy k:=by simpa using hx
       omega
    ·have hk:=qc hk;rw[qw qqo]at k2;have hv:vOut (ix p0 i)=true:=(kbv _).2 ⟨by omega,e2,e3,k2⟩;have hi:=inc i p0.length g0 hh qqo;rw[hi]
     have nxt:(0<=i+1/\i+1<=p0.length/\∀x∈p0.take (i+1).toNat,vOut x=true)/\(p0.length-(i+1)).toNat<(p0.length-i).toNat:=by
      refine⟨⟨by omega,by omega,?_⟩,by(first|omega|(dsimp only;omega))⟩;rw[ke p0 i g0 hh];intro x hx;rcases qae.1 hx with hx|hx
      ·exact g2 x hx
      ·have:x=ix p0 i:=by simpa using hx
       rw[this];exact hv
     exact nxt
  ·have hh:=qc hh;rw[qw qqo]at g2;unfold vOuts;have:p0.all vOut=true:=by simpa using g2
   rw[this,qbr qqo];rfl
noncomputable def kiu:Con TB.den:= .tp 91 [.st 2] [yqi] [] fun(p0:wZ)=>((validE p0:Int),())
theorem k1m:kiu.Ok Tryz.prog TB:=qtv Bs Tryz.func91 .no (kbg.c (kd0.c (k9a.c c0))) (Q:=∀(p0:wZ),∀r0:Int,validE p0=r0-> 
((!(vMarks p0.wI))=true->
 1=r0)/\
((!(vMarks p0.wI))=false->
((!(vOuts p0.wC))=true->
 1=r0)/\
((!(vOuts p0.wC))=false->
((!(vAmounts p0))=true->
 1=r0)/\
((!(vAmounts p0))=false->
 let v1:Bool:=decide (18446744069414584321<=p0.we)
(v1=true->
 1=r0)/\
(v1=false->
(decide (p0.wAL<0)=true->
 1=r0)/\
(decide (p0.wAL<0)=false->
(decide (1048576<p0.wAL)=true->
 1=r0)/\
(decide (1048576<p0.wAL)=false->
 let v2:Bool:=decide (1048576<(p0.wo.length:Int))
(v2=true->
 3=r0)/\
(v2=false->
 0=r0))))))))<|by rintro p0 _ rfl;refine ?_;unfold validE vRest;grind
noncomputable def kdw:Con TB.den:= .g (gk 110 [.one (.ptr 0 0),.agg yD1] yM (.one (.one (zqi)))) [.st 2,yqi,yqi,yqi,yqi,yqi,yqu,yqi,yqi,yqu,yqi,yqi,.sl yqu,.sl (.st 9),yqu,.sl yqu,.sl yqu,.sl (.st 10),.sl yqu,.sl (.bool)] yP [] fun(p1:wZ) (Ac Aa Ae Ab Am Ao Ag Aj Ah Ai Ak:Int) (Ad:Li) (Af:List wA) (Al:Int) (w1 w3:Li) (w4:List wJ) (w5k:Li) (w5v:Lo)=>((∃(c:Nat) (f:Int),c<=800/\PI (PS.mk (wE.mk Ac Aa Ae Ab Am Ao Ag Aj Ah) (wG.mk Ai Ak Ad) Af Al w1 w3 w4 w5k w5v) c f)/\TR p1,(chkS (PS.mk (wE.mk Ac Aa Ae Ab Am Ao Ag Aj Ah) (wG.mk Ai Ak Ad) Af Al w1 w3 w4 w5k w5v) p1:Int),Ac,Aa,Ae,Ab,Am,Ao,Ag,Aj,Ah,Ai,Ak,Ad,Af,Al,w1,w3,w4,w5k,w5v,())
theorem kei:kdw.Ok Tryz.prog TB:=prv Bs Tryz.func110 (.r 3 (.nd [] (.r 0 (.lp [] ⟨[5,2],[.map yqu (.bool),.cells [.mp 0]],[33],[.one (zqi)],[]⟩ .no)) [] (.jn ⟨[],[],[],[],[]⟩ [] .no [] .no))) (k1m.c (kbn.c (k74.c (kl2.c (k52.c c0))))) (Q:=∀(p1:wZ) (Ac Aa Ae Ab Am Ao Ag Aj Ah Ai Ak:Int) (Ad:Li) (Af:List wA) (Al:Int) (w1 w3:Li) (w4:List wJ) (w5k:Li) (w5v:Lo),((∃(c:Nat) (f:Int),c<=800/\PI (PS.mk (wE.mk Ac Aa Ae Ab Am Ao Ag Aj Ah) (wG.mk Ai Ak Ad) Af Al w1 w3 w4 w5k w5v) c f)/\TR p1)->∀r0:Int,(chkS (PS.mk (wE.mk Ac Aa Ae Ab Am Ao Ag Aj Ah) (wG.mk Ai Ak Ad) Af Al w1 w3 w4 w5k w5v) p1)=r0->∀Ay:Int,Ac=Ay->∀Aq:Int,Aa=Aq->∀Aw:Int,Ae=Aw->∀Ax:Int,Ab=Ax->∀B0:Int,Am=B0->∀B1:Int,Ao=B1->∀Bl:Int,Ag=Bl->∀Bm:Int,Aj=Bm->∀Bn:Int,Ah=Bn->∀Bo:Int,Ai=Bo->∀Bw:Int,Ak=Bw->∀A9:Li,Ad=A9->∀Ba:List wA,Af=Ba->∀Bx:Int,Al=Bx->∀e1:Li,w1=e1->∀e3:Li,w3=e3->∀e4:List wJ,w4=e4->∀e5k:Li,w5k=e5k->∀e5v:Lo,w5v=e5v-> 
(((validE p1) !=0)=true->
 lz w4/\lz w3/\lz w1/\(validE p1)=r0/\Ac=Ay/\Aa=Aq/\Ae=Aw/\Ab=Ax/\Am=B0/\Ao=B1/\Ag=Bl/\Aj=Bm/\Ah=Bn/\Ai=Bo/\Ak=Bw/\Ad=A9/\Af=Ba/\Al=Bx/\w1=e1/\w3=e3/\w4=e4/\w5k=e5k/\w5v=e5v)/\
(((validE p1) !=0)=false->
 let v1:Bool:=decide (p1.wAL<(i64.wrap ((w4.length:Int)+1)))
(v1=true->
 lz w4/\lz w3/\lz w1/\14=r0/\Ac=Ay/\Aa=Aq/\Ae=Aw/\Ab=Ax/\Am=B0/\Ao=B1/\Ag=Bl/\Aj=Bm/\Ah=Bn/\Ai=Bo/\Ak=Bw/\Ad=A9/\Af=Ba/\Al=Bx/\w1=e1/\w3=e3/\w4=e4/\w5k=e5k/\w5v=e5v)/\
(v1=false->
 lz w4/\lz w3/\lz w1/\((1<=Ag/\Ag<=100)/\w3.length<=1000000)/\let r2:Int:=((w3.length-(w3.length-Ag.toNat):Nat):Int)
(0<=((((w3.length-Ag.toNat:Nat):Int).toNat:Nat):Int)/\0<=(r2.toNat:Int)/\((((w3.length-Ag.toNat:Nat):Int).toNat:Nat):Int).toNat+(r2.toNat:Int).toNat<=w3.length/\w3.length<=1000000)/\let r3:Bool:=(decide (p1.we∈(w3.drop ((((w3.length-Ag.toNat:Nat):Int).toNat:Nat):Int).toNat).take (r2.toNat:Int).toNat))
((!r3)=true->
 lz w4/\lz w3/\lz w1/\11=r0/\Ac=Ay/\Aa=Aq/\Ae=Aw/\Ab=Ax/\Am=B0/\Ao=B1/\Ag=Bl/\Aj=Bm/\Ah=Bn/\Ai=Bo/\Ak=Bw/\Ad=A9/\Af=Ba/\Al=Bx/\w1=e1/\w3=e3/\w4=e4/\w5k=e5k/\w5v=e5v)/\
((!r3)=false->
 ∃(I1:Int->(Li)->(Lo)->Prop) (M1:Int->(Li)->(Lo)->Nat),I1 0 w5k w5v/\∀b1 f1 i1,(I1 b1 f1 i1->
(decide (b1<(p1.wI.length:Int))=true->
(0<=b1)/\b1<(p1.wI.length:Int)/\(i1=trs f1)/\((decide ((ix p1.wI b1)∈f1))=true->
 lz w4/\lz w3/\lz w1/\12=r0/\Ac=Ay/\Aa=Aq/\Ae=Aw/\Ab=Ax/\Am=B0/\Ao=B1/\Ag=Bl/\Aj=Bm/\Ah=Bn/\Ai=Bo/\Ak=Bw/\Ad=A9/\Af=Ba/\Al=Bx/\w1=e1/\w3=e3/\w4=e4/\f1=e5k/\i1=e5v)/\
((decide ((ix p1.wI b1)∈f1))=false->
 I1 (i64.wrap (b1+1)) f1 i1/\M1 (i64.wrap (b1+1)) f1 i1<M1 b1 f1 i1))/\
(decide (b1<(p1.wI.length:Int))=false->
 ∀J1:Prop,((let v5:Bool:=decide ((u64.wrap (Al+p1.wQ))<(u64.wrap (p1.wT+p1.Fee)))
(v5=true->
 lz w4/\lz w3/\lz w1/\13=r0/\Ac=Ay/\Aa=Aq/\Ae=Aw/\Ab=Ax/\Am=B0/\Ao=B1/\Ag=Bl/\Aj=Bm/\Ah=Bn/\Ai=Bo/\Ak=Bw/\Ad=A9/\Af=Ba/\Al=Bx/\w1=e1/\w3=e3/\w4=e4/\f1=e5k/\i1=e5v)/\
(v5=false->
 let v6:Int:=i64.wrap ((w1.length:Int)+(p1.wC.length:Int))
(0<=Aa)/\(decide ((ishl .i64 1 Aa)<v6)=true->
 lz w4/\lz w3/\lz w1/\16=r0/\Ac=Ay/\Aa=Aq/\Ae=Aw/\Ab=Ax/\Am=B0/\Ao=B1/\Ag=Bl/\Aj=Bm/\Ah=Bn/\Ai=Bo/\Ak=Bw/\Ad=A9/\Af=Ba/\Al=Bx/\w1=e1/\w3=e3/\w4=e4/\f1=e5k/\i1=e5v)/\
(decide ((ishl .i64 1 Aa)<v6)=false->
 lz w4/\lz w3/\lz w1/\0=r0/\Ac=Ay/\Aa=Aq/\Ae=Aw/\Ab=Ax/\Am=B0/\Ao=B1/\Ag=Bl/\Aj=Bm/\Ah=Bn/\Ai=Bo/\Ak=Bw/\Ad=A9/\Af=Ba/\Al=Bx/\w1=e1/\w3=e3/\w4=e4/\f1=e5k/\i1=e5v)))->J1)->
(decide (0<p1.wQ)=true->
(OkA (wm.mk Af).wF/\U64 p1.wQ/\U64 p1.wY)/\let r4:=debitA (wm.mk Af).wF p1.wX p1.wQ p1.wY
((r4.2 !=0)=true->
 lz w4/\lz w3/\lz w1/\r4.2=r0/\Ac=Ay/\Aa=Aq/\Ae=Aw/\Ab=Ax/\Am=B0/\Ao=B1/\Ag=Bl/\Aj=Bm/\Ah=Bn/\Ai=Bo/\Ak=Bw/\Ad=A9/\Af=Ba/\Al=Bx/\w1=e1/\w3=e3/\w4=e4/\f1=e5k/\i1=e5v)/\
((r4.2 !=0)=false->
 J1))/\
(decide (0<p1.wQ)=false->
 J1)))))))<|by
 rintro p1 Ac Aa Ae Ab Am Ao Ag Aj Ah Ai Ak Ad Af Al w1 w3 w4 w5k w5v h;repeat rintro _ rfl
 obtain⟨⟨c,f,hc,hp⟩,ht⟩:=h;have hb:OkA Af:=hp.b.1;have hv:w5v=trs w5k:=hp.v;have h1:1<=Ag:=hp.w1;have h2:Ag<=100:=hp.w2;have hd1:1<=Aa:=hp.d1;have hd2:Aa<=12:=hp.d2;have hrl:w3.length=w4.length+1:=hp.rl;have hpl:w4.length<=c:=hp.p;have hll:w1.length<=2^Aa.toNat:=hp.ll;have hp12:=pow12 Aa.toNat qqo;generalize hR0:chkS (PS.mk (wE.mk Ac Aa Ae Ab Am Ao Ag Aj Ah) (wG.mk Ai Ak Ad) Af Al w1 w3 w4 w5k w5v) p1=R;have hR:chk (w4.length:Int) (ancL w3 Ag) w5k Af Al w1.length Aa p1=R:=hR0;clear hR0;unfold chk at hR;refine⟨fun e=> ?_,fun e=> ?_⟩
 ·have e:validE p1≠0:=by simpa using e
  rw[qi e]at hR;subst hR;exact(by repeat' first|apply qq|exact rfl|exact qn)
 have e:validE p1=0:=by simpa using e
 have vt:=(k12 p1).1 e;have hol:=vt.ol;have hml:=vt.ml;rw[qf (by rw[e];decide)]at hR;have ei:i64.wrap ((w4.length:Int)+1)=(w4.length:Int)+1:=ko _ qqo qqo;rw[ei];refine⟨fun e2=> ?_,fun e2=>⟨rfl,rfl,rfl,⟨⟨h1,h2⟩,by omega⟩,?_⟩⟩
 ·rw[qi (qb e2)]at hR;subst hR;exact(by repeat' first|apply qq|exact rfl|exact qn)
 rw[qf (qc e2)]at hR;have eA:(w3.drop (w3.length-Ag.toNat)).take (w3.length-(w3.length-Ag.toNat))=ancL w3 Ag:=by unfold ancL;exact qw (by rw[qbe];omega)
 simp only[qt,eA];refine⟨⟨by omega,by omega,by omega,by omega⟩,fun e3=> ?_,fun e3=> ?_⟩
 ·have e3:p1.we∉ancL w3 Ag:=by simpa using e3
  rw[qi e3]at hR;subst hR;exact(by repeat' first|apply qq|exact rfl|exact qn)
 have e3:¬p1.we∉ancL w3 Ag:=by simpa using e3
 rw[qf e3]at hR;refine⟨fun a k v=>(w5k=k/\w5v=v)/\∃i:Nat,a=(i:Int)/\i<=p1.wI.length/\((p1.wI.take i).any fun m=>decide (m∈w5k))=false,fun a _ _=>(p1.wI.length-a).toNat,⟨⟨rfl,rfl⟩,0,rfl,by omega,rfl⟩,?_⟩;rintro _ _ _ ⟨⟨rfl,rfl⟩,i,rfl,hi,hm⟩;refine⟨fun e4=> ?_,fun e4 J1 j=> ?_⟩
 ·have e4:i<p1.wI.length:=by have:=qb e4;omega
  rw[ix_get _ _ e4,inc_i64 _ qqo];refine⟨by omega,by omega,hv,fun e5=> ?_,fun e5=>⟨⟨⟨rfl,rfl⟩,i+1,rfl,by omega,?_⟩,by(dsimp only;omega)⟩⟩
  ·rw[qi (List.any_eq_true.2 ⟨_,qal e4,e5⟩)]at hR;subst hR;exact(by repeat' first|apply qq|exact rfl|exact qn)
  ·rw[qat e4,List.any_append,hm,List.any_cons,e5];rfl
 ·have e4:i=p1.wI.length:=by have:=qc e4;omega
  subst e4;rw[qcn]at hm
  have j1:(p1.wI.any fun m=>decide (m∈w5k))=false->¬(0<p1.wQ/\(debitA Af p1.wX p1.wQ p1.wY).2≠0)->J1:=by
   intro g1 g2;rw[qf (by rw[g1];decide),qf g2]at hR;refine j ⟨fun e4=> ?_,fun e4=>⟨by omega,?_⟩⟩
   ·rw[qi (qb e4)]at hR;subst hR;exact(by repeat' first|apply qq|exact rfl|exact qn)
   ·rw[qf (qc e4)]at hR;obtain⟨d,hd⟩:=qo (show 0<=Aa by omega);have hdn:Aa.toNat=d:=by omega
    rw[hdn]at hR hp12 hll;rw[ko _ qqo qqo,show ishl .i64 1 Aa=((2^d:Nat):Int)by rw[hd];exact shl1 d qqo];refine⟨fun e5=> ?_,fun e5=> ?_⟩
    ·rw[qi (by have:=qb e5;omega)]at hR;subst hR;exact(by repeat' first|apply qq|exact rfl|exact qn)
    ·rw[qf (by have:=qc e5;omega)]at hR;subst hR;exact(by repeat' first|apply qq|exact rfl|exact qn)
  refine⟨fun e5=>⟨⟨hb,ht.d,ht.n⟩,fun e6=> ?_,fun e6=>j1 hm ?_⟩,fun e5=>j1 hm ?_⟩
  ·have e5:=qb e5;have e6:(debitA Af p1.wX p1.wQ p1.wY).2≠0:=by simpa using e6
   rw[qf (by rw[hm];decide),qi ⟨e5,e6⟩]at hR;subst hR;exact(by repeat' first|apply qq|exact rfl|exact qn)
  ·have e6:(debitA Af p1.wX p1.wQ p1.wY).2=0:=by simpa using e6
   exact fun hh=>hh.2 e6
  ·have e5:=qc e5;exact fun hh=>e5 hh.1
noncomputable def kir:Con TB.den:= .g (gk 170 [.one (.ptr 0 0),.one (zql),.one (.d (.bool))] yM1 (.one (.one (.d (.bool))))) [.sl yqu,.bool,.sl yqu,.sl (.bool)] [.bool,.sl yqu,.sl (.bool)] [] fun(p1:Li) (p2:Bool) (w1k:Li) (w1v:Lo)=>(w1v=trs w1k/\p1.length<=1000000,(p1.any (fun m=>decide (m∈w1k)==p2):Bool),w1k,w1v,())
theorem kaq:kir.Ok Tryz.prog TB:=prv Bs Tryz.func170 (.r 0 (.nd [] (.r 0 (.lp [] ⟨[],[],[11],[.one (zqi)],[]⟩ .no)) [] .no)) c0 (Q:=∀(p1:Li) (p2:Bool) (w1k:Li) (w1v:Lo),(w1v=trs w1k/\p1.length<=1000000)->∀r0:Bool,(p1.any (fun m=>decide (m∈w1k)==p2))=r0->∀e1k:Li,w1k=e1k->∀e1v:Lo,w1v=e1v-> 
 ∃(I1:Int->Prop) (M1:Int->Nat),I1 0/\∀b1,(I1 b1->
(decide (b1<(p1.length:Int))=true->
(0<=b1)/\b1<(p1.length:Int)/\w1k.length=w1v.length/\let v1:Bool:=mVal (BEq.beq (ix p1 b1)) w1k w1v false
((v1==p2)=true->
 true=r0/\w1k=e1k/\w1v=e1v)/\
((v1==p2)=false->
 I1 (i64.wrap (b1+1))/\M1 (i64.wrap (b1+1))<M1 b1))/\
(decide (b1<(p1.length:Int))=false->
 false=r0/\w1k=e1k/\w1v=e1v)))<|by
 rintro p1 p2 w1k w1v h _ rfl _ rfl _ rfl;obtain⟨h,hl⟩:=h;subst h;refine(⟨(fun a=>∃i:Nat,a=(i:Int)/\i<=p1.length/\(p1.drop i).any (fun m=>decide (m∈w1k)==p2)=p1.any (fun m=>decide (m∈w1k)==p2)),(fun a=>(p1.length-a).toNat),⟨0,rfl,by omega,rfl⟩,?_⟩);rintro _ ⟨i,rfl,hi,he⟩;refine⟨fun e=> ?_,fun e=> ?_⟩
 ·have e:i<p1.length:=by have:=qb e;omega
  rw[ix_get _ _ e,sVal,inc_i64 _ qqo];rw[qas e,List.any_cons]at he;refine⟨by omega,by omega,by simp[trs],fun e2=> ?_,fun e2=> ?_⟩
  ·rw[e2,Bool.true_or]at he;rw[<-he];exact⟨rfl,rfl,rfl⟩
  ·rw[e2,qff]at he;exact⟨⟨i+1,rfl,by omega,he⟩,by(dsimp only;omega)⟩
 ·have e:i=p1.length:=by have:=qc e;omega
  subst e;rw[qes]at he;rw[<-he];exact⟨rfl,rfl,rfl⟩
noncomputable def k6w:Con TB.den:= .gp 171 [.sl yqu] [.bool] [] fun(p0:Li)=>(p0.length<=1000000,(!decide p0.Nodup:Bool),())
theorem k31:k6w.Ok Tryz.prog TB:=qrv Bs Tryz.func171 (.r 1 (.nd [] (.r 0 (.lp [] ⟨[0],yQ1,[9],[.one (zqi)],[]⟩ .no)) [] .no)) c0 (Q:=∀(p0:Li),(p0.length<=1000000)->∀r0:Bool,(!decide p0.Nodup)=r0-> 
 ∃(I1:Int->(Li)->(Lo)->Prop) (M1:Int->(Li)->(Lo)->Nat),I1 0 ([]:Li) ([]:Lo)/\∀b1 f1 i1,(I1 b1 f1 i1->
(decide (b1<(p0.length:Int))=true->
(0<=b1)/\b1<(p0.length:Int)/\f1.length=i1.length/\let v1:Bool:=mVal (BEq.beq (ix p0 b1)) f1 i1 false
(v1=true->
 true=r0)/\
(v1=false->
 f1.length=i1.length/\let v2:Li:=mPutK (BEq.beq (ix p0 b1)) f1 (ix p0 b1)
 let v3:Lo:=mPutV (BEq.beq (ix p0 b1)) f1 i1 true
 I1 (i64.wrap (b1+1)) v2 v3/\M1 (i64.wrap (b1+1)) v2 v3<M1 b1 f1 i1))/\
(decide (b1<(p0.length:Int))=false->
 false=r0)))<|by
 rintro p0 h _ rfl;refine(⟨(fun a k v=>∃i:Nat,a=(i:Int)/\i<=p0.length/\k=p0.take i/\v=trs k/\k.Nodup),(fun a _ _=>(p0.length-a).toNat),⟨0,rfl,by omega,rfl,rfl,qel⟩,?_⟩);rintro _ _ _ ⟨i,rfl,hi,rfl,rfl,hn⟩;refine⟨fun e=> ?_,fun e=> ?_⟩
 ·have e:i<p0.length:=by have:=qb e;omega
  rw[ix_get _ _ e,sVal,inc_i64 _ qqo];refine⟨by omega,by omega,by simp[trs],fun e2=> ?_,fun e2=>⟨by simp[trs],?_⟩⟩
  ·have e2:=qb e2;have:¬p0.Nodup:=fun hh=>by rw[<-qbs i p0,qas e,qcb]at hh;exact hh.2.2 _ e2 p0[i] qez rfl
   simp[this]
  ·have e2:=qc e2;obtain⟨q1,q2⟩:=sPut e2;rw[q1,q2,<-qat];refine⟨⟨i+1,rfl,by omega,rfl,rfl,?_⟩,by(dsimp only;omega)⟩;rw[qat e,qcb];exact⟨hn,by simp,fun a ha b hb=>by rw[qag.1 hb];rintro rfl;exact e2 ha⟩
 ·have e:i=p0.length:=by have:=qc e;omega
  subst e;rw[qcn]at hn;simp[hn]
noncomputable def kk6:Con TB.den:= .g (gk 165 [.one (.ptr 0 0),.one (zql)] yM1 (.one (.one (zqi)))) [.sl yqu,.sl yqu,.sl (.bool)] [yqi,.sl yqu,.sl (.bool)] [] fun(p1 w1k:Li) (w1v:Lo)=>(w1v=trs w1k/\p1.length<=1000000,((addS p1 w1k).1:Int),((addS p1 w1k).2:Li),(trs (addS p1 w1k).2:Lo),())
theorem klj:kk6.Ok Tryz.prog TB:=prv Bs Tryz.func165 (.r 2 (.nd [] (.r 0 (.lp [] ⟨[1],yQ1,[25],[.one (zqi)],[]⟩ .no)) [] .no)) (kaq.c (k31.c c0)) (Q:=∀(p1 w1k:Li) (w1v:Lo),(w1v=trs w1k/\p1.length<=1000000)->∀r0:Int,((addS p1 w1k).1)=r0->∀e1k:Li,((addS p1 w1k).2)=e1k->∀e1v:Lo,(trs (addS p1 w1k).2)=e1v-> 
(w1v=trs w1k/\p1.length<=1000000)/\let r1:Bool:=(p1.any (fun m=>decide (m∈w1k)==true))
(r1=true->
 12=r0/\w1k=e1k/\w1v=e1v)/\
(r1=false->
(p1.length<=1000000)/\((!decide p1.Nodup)=true->
 12=r0/\w1k=e1k/\w1v=e1v)/\
((!decide p1.Nodup)=false->
 ∃(I1:Int->(Li)->(Lo)->Prop) (M1:Int->(Li)->(Lo)->Nat),I1 0 w1k w1v/\∀b1 f1 i1,(I1 b1 f1 i1->
(decide (b1<(p1.length:Int))=true->
(0<=b1)/\b1<(p1.length:Int)/\f1.length=i1.length/\let v2:Li:=mPutK (BEq.beq (ix p1 b1)) f1 (ix p1 b1)
 let v3:Lo:=mPutV (BEq.beq (ix p1 b1)) f1 i1 true
 I1 (i64.wrap (b1+1)) v2 v3/\M1 (i64.wrap (b1+1)) v2 v3<M1 b1 f1 i1)/\
(decide (b1<(p1.length:Int))=false->
 0=r0/\f1=e1k/\i1=e1v)))))<|by
 rintro p1 w1k w1v h _ rfl _ rfl _ rfl;obtain⟨h,hl⟩:=h;subst h;have ea:(p1.any fun m=>decide (m∈w1k)==true)=p1.any fun m=>decide (m∈w1k):=by congr 1;funext m;simp
 refine⟨⟨rfl,hl⟩,?_⟩;rw[ea];refine⟨fun e=> ?_,fun e=>⟨hl,fun e2=> ?_,fun e2=> ?_⟩⟩
 ·have:addS p1 w1k=(12,w1k):=by unfold addS;rw[e];rfl
  rw[this];exact⟨rfl,rfl,rfl⟩
 ·have:addS p1 w1k=(12,w1k):=by unfold addS;rw[e,e2];rfl
  rw[this];exact⟨rfl,rfl,rfl⟩
 ·have hA:addS p1 w1k=(0,w1k++p1):=by unfold addS;rw[e,e2];rfl
  have hn:p1.Nodup:=by simpa using e2
  rw[hA];refine⟨(fun a k v=>∃i:Nat,a=(i:Int)/\i<=p1.length/\k=w1k++p1.take i/\v=trs k),(fun a _ _=>(p1.length-a).toNat),⟨0,rfl,by omega,by simp,by simp⟩,?_⟩;rintro _ _ _ ⟨i,rfl,hi,rfl,rfl⟩;refine⟨fun e3=> ?_,fun e3=> ?_⟩
  ·have e3:i<p1.length:=by have:=qb e3;omega
   rw[ix_get _ _ e3,inc_i64 _ qqo]
   have hm:p1[i]∉w1k++p1.take i:=by
    intro hm;rcases qae.1 hm with hm|hm
    ·have:=List.any_eq_false.1 e p1[i] (qal e3);simp[hm]at this
    ·rw[<-qbs i p1,qas e3,qcb]at hn;exact hn.2.2 _ hm p1[i] qez rfl
   obtain⟨q1,q2⟩:=sPut hm;rw[q1,q2];refine⟨by omega,by omega,by simp[trs],⟨i+1,rfl,by omega,?_,rfl⟩,by(dsimp only;omega)⟩;rw[qat e3,qz]
  ·have e3:i=p1.length:=by have:=qc e3;omega
   subst e3;rw[qcn];exact⟨rfl,rfl,rfl⟩
noncomputable def k88:Con TB.den:= .gp 107 [.st 6] [.bool] [] fun(p0:wG)=>(FV p0,true,())
theorem k3u:k88.Ok Tryz.prog TB:=qrv Bs Tryz.func107 (.r 2 (.nd [] (.r 0 (.lp [] ⟨[],[],[36],[.one (zqi)],[]⟩ .no)) [] .no)) c0 (Q:=∀(p0:wG),(FV p0)->∀r0:Bool,(true:Bool)=r0-> 
(decide (p0.wB<1)=true->
 false=r0)/\
(decide (p0.wB<1)=false->
(decide (12<p0.wB)=true->
 false=r0)/\
(decide (12<p0.wB)=false->
(decide (p0.wd<0)=true->
 false=r0)/\
(decide (p0.wd<0)=false->
(0<=p0.wB)/\let v1:Bool:=decide ((ishl .i64 1 p0.wB)<p0.wd)
(v1=true->
 false=r0)/\
(v1=false->
 let v2:Bool:=((p0.wg.length:Int) !=(i64.wrap (p0.wB+1)))
(v2=true->
 false=r0)/\
(v2=false->
 ∃(I1:Int->Prop) (M1:Int->Nat),I1 0/\∀b1,(I1 b1->
(decide (b1<(p0.wg.length:Int))=true->
(0<=b1)/\b1<(p0.wg.length:Int)/\let v3:Bool:=decide (18446744069414584321<=(ix p0.wg b1))
(v3=true->
 false=r0)/\
(v3=false->
(((ix p0.wg b1) !=0)=true->
(0<=b1)/\let v4:Bool:=((iand .i64 (ishr .i64 p0.wd b1) 1)==0)
(v4=true->
 false=r0)/\
(v4=false->
 I1 (i64.wrap (b1+1))/\M1 (i64.wrap (b1+1))<M1 b1))/\
(((ix p0.wg b1) !=0)=false->
 I1 (i64.wrap (b1+1))/\M1 (i64.wrap (b1+1))<M1 b1)))/\
(decide (b1<(p0.wg.length:Int))=false->
 true=r0))))))))<|by
 rintro p0 h _ rfl;obtain⟨d1,d2,c0,c1,ll,u,z⟩:=h;obtain⟨d,hd⟩:=qo (show 0<=p0.wB by omega);obtain⟨n,hn⟩:=qo c0;rw[hd,qt]at c1 ll;rw[hn,qt]at z;have hp:=pow12 d qqo;refine⟨fun e=>(by have:=qb e;omega),fun _=>⟨fun e=>(by have:=qb e;omega),fun _=>⟨fun e=>(by have:=qb e;omega),fun _=>⟨by omega,?_⟩⟩⟩⟩;rw[hd,hn,shl1 d qqo,ko _ qqo qqo];refine⟨fun e=>(by have:=qb e;omega),fun _=>⟨fun e=> ?_,fun _=> ?_⟩⟩
 ·have e:¬(p0.wg.length:Int)=(d:Int)+1:=by simpa using e
  omega
 refine⟨(fun a=>∃i:Nat,a=(i:Int)/\i<=p0.wg.length),(fun a=>(p0.wg.length-a).toNat),⟨0,rfl,by omega⟩,?_⟩;rintro _ ⟨i,rfl,hi⟩;refine⟨fun hh=> ?_,fun _=>rfl⟩;have hh:i<p0.wg.length:=by have:=qb hh;omega
 have hx:=u _ (qal hh);rw[ix_get _ _ hh,inc_i64 _ qqo,bit1 n i qqo qqo];have next:(∃j:Nat,((i+1:Nat):Int)=(j:Int)/\j<=p0.wg.length)/\((p0.wg.length:Int)-((i+1:Nat):Int)).toNat<((p0.wg.length:Int)-(i:Int)).toNat:=⟨⟨i+1,rfl,by omega⟩,by omega⟩
 refine⟨by omega,by omega,fun e=>(by have:=qb e;omega),fun _=>⟨fun e=>⟨by omega,fun e2=> ?_,fun _=>next⟩,fun _=>next⟩⟩;have e:p0.wg[i]≠0:=by simpa using e
 have e2:((n/2^i%2:Nat):Int)=0:=by simpa using e2
 refine(e (z i hh ?_)).elim;unfold bitN;generalize n/2^i%2=q at *
 have:q=0:=by omega
 rw[this];rfl
noncomputable def kcp:Con TB.den:= .gp 221 [.st 7] [.bool] [] fun(p0:wAB)=>(p0.P=18446744069414584321,true,())
theorem k1e:kcp.Ok Tryz.prog TB:=qrv Bs Tryz.func221 .no c0 (Q:=∀(p0:wAB),(p0.P=18446744069414584321)->∀r0:Bool,(true:Bool)=r0-> 
((p0.P==18446744069414584321)=true->
((p0.P==18446744069414584321)=true->
 true=r0)/\
((p0.P==18446744069414584321)=false->
 false=r0))/\
((p0.P==18446744069414584321)=false->
((p0.P==17)=true->
((p0.P==17)=true->
 true=r0)/\
((p0.P==17)=false->
 false=r0))/\
((p0.P==17)=false->
((p0.P==97)=true->
((p0.P==97)=true->
 true=r0)/\
((p0.P==97)=false->
 false=r0))/\
((p0.P==97)=false->
((p0.P==193)=true->
((p0.P==193)=true->
 true=r0)/\
((p0.P==193)=false->
 false=r0))/\
((p0.P==193)=false->
((p0.P==257)=true->
((p0.P==257)=true->
 true=r0)/\
((p0.P==257)=false->
 false=r0))/\
((p0.P==257)=false->
((p0.P==12289)=true->
((p0.P==12289)=true->
 true=r0)/\
((p0.P==12289)=false->
 false=r0))/\
((p0.P==12289)=false->
((p0.P==65537)=true->
 true=r0)/\
((p0.P==65537)=false->
 false=r0))))))))<|by rintro p0 h _ rfl;refine ?_;simp[h]
noncomputable def kh8:Con TB.den:= .gp 377 [.st 7,yqu,yqu] [yqu] [] fun(p0:wAB) (p1 p2:Int)=>(p0.P=18446744069414584321/\(0<=p1/\p1<18446744069414584321)/\(0<=p2/\p2<18446744069414584321),((p1+p2)%18446744069414584321:Int),())
theorem kjy:kh8.Ok Tryz.prog TB:=qrx Bs [] Tryz.func377 (.r 1 (.nd [] (.jn ⟨[],[],[22],[.one (.d (.bool))],[]⟩ [] .no [] .no) [] .no)) (x1 x81_ok x0) c0 (Q:=∀(p0:wAB) (p1 p2:Int),(p0.P=18446744069414584321/\(0<=p1/\p1<18446744069414584321)/\(0<=p2/\p2<18446744069414584321))->∀r0:Int,((p1+p2)%18446744069414584321)=r0-> 
(0<=p1/\0<=p2/\0<=(0:Int)/\(0:Int)<=1)/\let r1:Int:=(p1+p2+(0:Int))%18446744073709551616
 let r2:Int:=(p1+p2+(0:Int))/18446744073709551616
 ∀J1:Bool->Prop,(∀(b1:Bool),
((b1=true->
 u64.wrap (r1-p0.P)=r0)/\
(b1=false->
 r1=r0))->J1 b1)->
((r2 !=0)=true->
 J1 true)/\
((r2 !=0)=false->
 J1 (decide (p0.P<=r1))))<|by
 rintro p0 p1 p2 h _ rfl;obtain⟨hP,h1,h2⟩:=h;refine⟨by omega,fun J1 j=>⟨fun h=>j _ ⟨fun _=> ?_,fun h=>by simp at h⟩,fun h=>j _ ⟨fun g=> ?_,fun g=> ?_⟩⟩⟩
 ·have h:(p1+p2+0)/18446744073709551616≠0:=by simpa using h
  rw[hP,u64w];omega
 ·have h:(p1+p2+0)/18446744073709551616=0:=by simpa using h
  have g:=qb g;rw[hP]at g ⊢;rw[u64w];omega
 ·have h:(p1+p2+0)/18446744073709551616=0:=by simpa using h
  have g:=qc g;rw[hP]at g;omega
noncomputable def ka0:Con TB.den:= .gp 378 [.st 7,yqu] [yqu] [] fun(p0:wAB) (p1:Int)=>(0<p0.P/\0<=p1,(p1%p0.P:Int),())
theorem k1r:ka0.Ok Tryz.prog TB:=qrv Bs Tryz.func378 .no c0 (Q:=∀(p0:wAB) (p1:Int),(0<p0.P/\0<=p1)->∀r0:Int,(p1%p0.P)=r0-> 
(decide (p0.P<=p1)=true->
(p0.P≠0)/\Int.tmod p1 p0.P=r0)/\
(decide (p0.P<=p1)=false->
 p1=r0))<|by rintro p0 p1 h _ rfl;refine⟨fun h1=>⟨by omega,tmod_nn _ _ h.2⟩,fun h1=> ?_⟩;simp at h1;rw[qds qqo qqo]
noncomputable def kh1:Con TB.den:= .gp 297 [.st 7,yqu,yqu] [yqu] [] fun(p0:wAB) (p1 p2:Int)=>(p0.P=18446744069414584321/\U64 p1/\U64 p2,((p1+p2)%18446744069414584321:Int),())
theorem k4n:kh1.Ok Tryz.prog TB:=qrv Bs Tryz.func297 .no (k1e.c (k1r.c (kjy.c c0))) (Q:=∀(p0:wAB) (p1 p2:Int),(p0.P=18446744069414584321/\U64 p1/\U64 p2)->∀r0:Int,((p1+p2)%18446744069414584321)=r0-> 
(p0.P=18446744069414584321)/\((!true)=true->
 0=r0)/\
((!true)=false->
(0<p0.P/\0<=p1)/\(0<p0.P/\0<=p2)/\(p0.P=18446744069414584321/\(0<=(p1%p0.P)/\(p1%p0.P)<18446744069414584321)/\(0<=(p2%p0.P)/\(p2%p0.P)<18446744069414584321))/\let r1:Int:=(((p1%p0.P)+(p2%p0.P))%18446744069414584321)
 r1=r0))<|by rintro p0 p1 p2 h _ rfl;obtain⟨hP,h1,h2⟩:=h;refine⟨hP,?_⟩;simp only[hP];refine⟨fun h=>by simp at h,fun _=>⟨by omega,by omega,⟨by trivial,by omega,by omega⟩,?_⟩⟩;omega
noncomputable def kf8:Con TB.den:= .gp 296 [yqu] [yqi] [] fun(p0:Int)=>(U64 p0,(len64 p0:Int),())
theorem khb:kf8.Ok Tryz.prog TB:=qrv Bs Tryz.func296 (.r 0 (.jn ⟨[],[],[0,2],[.one (zqu),.one (zqi)],[]⟩ [] .no [] (.jn ⟨[],[],[0,2],[.one (zqu),.one (zqi)],[]⟩ [] .no [] (.jn ⟨[],[],[0,2],[.one (zqu),.one (zqi)],[]⟩ [] .no [] .no)))) c0 (Q:=∀(p0:Int),(U64 p0)->∀r0:Int,len64 p0=r0-> 
 ∀J1:Int->Int->Prop,(∀(b1 f1:Int),
(∀J2:Int->Int->Prop,(∀(i1 k1:Int),
(∀J3:Int->Int->Prop,(∀(l1 m1:Int),
((0<=IntKind.u8.wrap l1/\IntKind.u8.wrap l1<((⟨#[0,1,2,2,3,3,3,3,4,4,4,4,4,4,4,4,5,5,5,5,5,5,5,5,5,5,5,5,5,5,5,5,6,6,6,6,6,6,6,6,6,6,6,6,6,6,6,6,6,6,6,6,6,6,6,6,6,6,6,6,6,6,6,6,7,7,7,7,7,7,7,7,7,7,7,7,7,7,7,7,7,7,7,7,7,7,7,7,7,7,7,7,7,7,7,7,7,7,7,7,7,7,7,7,7,7,7,7,7,7,7,7,7,7,7,7,7,7,7,7,7,7,7,7,7,7,7,7,8,8,8,8,8,8,8,8,8,8,8,8,8,8,8,8,8,8,8,8,8,8,8,8,8,8,8,8,8,8,8,8,8,8,8,8,8,8,8,8,8,8,8,8,8,8,8,8,8,8,8,8,8,8,8,8,8,8,8,8,8,8,8,8,8,8,8,8,8,8,8,8,8,8,8,8,8,8,8,8,8,8,8,8,8,8,8,8,8,8,8,8,8,8,8,8,8,8,8,8,8,8,8,8,8,8,8,8,8,8,8,8,8,8,8,8,8,8,8,8,8,8,8,8,8,8,8,8]⟩:ByteArray).size:Int))/\let v1:Int:=byteAt (⟨#[0,1,2,2,3,3,3,3,4,4,4,4,4,4,4,4,5,5,5,5,5,5,5,5,5,5,5,5,5,5,5,5,6,6,6,6,6,6,6,6,6,6,6,6,6,6,6,6,6,6,6,6,6,6,6,6,6,6,6,6,6,6,6,6,7,7,7,7,7,7,7,7,7,7,7,7,7,7,7,7,7,7,7,7,7,7,7,7,7,7,7,7,7,7,7,7,7,7,7,7,7,7,7,7,7,7,7,7,7,7,7,7,7,7,7,7,7,7,7,7,7,7,7,7,7,7,7,7,8,8,8,8,8,8,8,8,8,8,8,8,8,8,8,8,8,8,8,8,8,8,8,8,8,8,8,8,8,8,8,8,8,8,8,8,8,8,8,8,8,8,8,8,8,8,8,8,8,8,8,8,8,8,8,8,8,8,8,8,8,8,8,8,8,8,8,8,8,8,8,8,8,8,8,8,8,8,8,8,8,8,8,8,8,8,8,8,8,8,8,8,8,8,8,8,8,8,8,8,8,8,8,8,8,8,8,8,8,8,8,8,8,8,8,8,8,8,8,8,8,8,8,8,8,8,8,8]⟩:ByteArray) (IntKind.u8.wrap l1)
 let v2:Int:=i64.wrap (m1+(i64.wrap v1))
 v2=r0)->J3 l1 m1)->
(decide (256<=i1)=true->
 J3 (ishr .u64 i1 8) (i64.wrap (k1+8)))/\
(decide (256<=i1)=false->
 J3 i1 k1))->J2 i1 k1)->
(decide (65536<=b1)=true->
 J2 (ishr .u64 b1 16) (i64.wrap (f1+16)))/\
(decide (65536<=b1)=false->
 J2 b1 f1))->J1 b1 f1)->
(decide (4294967296<=p0)=true->
 J1 (ishr .u64 p0 32) 32)/\
(decide (4294967296<=p0)=false->
 J1 p0 0))<|by
 rintro p0 h _ rfl;intro J1 j1
 have j1:∀s0 s2:Int,0<=s0->s0<4294967296->0<=s2->s2<=32->len64 p0=s2+len64 s0->J1 s0 s2:=fun s0 s2 h0 h1 h2 h3 h4=>by
  refine j1 _ _ fun J2 j2=> ?_
  have j2:∀s0 s2:Int,0<=s0->s0<65536->0<=s2->s2<=48->len64 p0=s2+len64 s0->J2 s0 s2:=fun s0 s2 h0 h1 h2 h3 h4=>by
   refine j2 _ _ fun J3 j3=> ?_
   have j3:∀s0 s2:Int,0<=s0->s0<256->0<=s2->s2<=56->len64 p0=s2+len64 s0->J3 s0 s2:=fun s0 s2 h0 h1 h2 h3 h4=>by
    refine j3 _ _ ?_;have e:IntKind.u8.wrap s0=s0:=by rw[u8w];omega
    have l:=kk4 s0 ⟨h0,h1⟩;show(0<=IntKind.u8.wrap s0/\IntKind.u8.wrap s0<(tab8.size:Int))/\i64.wrap (s2+i64.wrap (byteAt tab8 (IntKind.u8.wrap s0)))=_;rw[e,kms,kjk s0 ⟨h0,h1⟩,wi (len64 s0) qqo qqo,wi (s2+len64 s0) qqo qqo,h4];exact⟨⟨h0,h1⟩,rfl⟩
   refine⟨fun h=> ?_,fun h=>j3 s0 s2 h0 qqh h2 qqo h4⟩;have h:=qb h;rw[<-k58 s0 8 qqh,<-Int.add_assoc,Int.add_right_comm]at h4;rw[ishr8,wi _ qqo qqo];exact j3 _ _ qqo qqo qqo qqo qqo
  refine⟨fun h=> ?_,fun h=>j2 s0 s2 h0 qqh h2 qqo h4⟩;have h:=qb h;rw[<-k58 s0 16 qqh,<-Int.add_assoc,Int.add_right_comm]at h4;rw[ishr16,wi _ qqo qqo];exact j2 _ _ qqo qqo qqo qqo qqo
 refine⟨fun h1=> ?_,fun h1=> ?_⟩
 ·have h1:=qb h1;rw[ishr32];exact j1 _ _ qqo qqo qqo qqo (by rw[<-k58 p0 32 (by simpa using h1),Int.add_comm];rfl)
 ·exact j1 p0 0 h.1 (by simpa using h1) qqo qqo qqo
noncomputable def k4s:Con TB.den:= .gp 386 [yqu] [yqi] [] fun(p0:Int)=>(0<p0/\p0<18446744073709551616,(64-len64 p0:Int),())
theorem k5k:k4s.Ok Tryz.prog TB:=qrv Bs Tryz.func386 .no (khb.c c0) (Q:=∀(p0:Int),(0<p0/\p0<18446744073709551616)->∀r0:Int,(64-len64 p0)=r0-> 
(U64 p0)/\i64.wrap (64-(len64 p0))=r0)<|by rintro p0 h _ rfl;obtain⟨s,e,h1,_⟩:=kdn p0 h;refine⟨⟨by omega,h.2⟩,?_⟩;exact wi _ qqo qqo
noncomputable def kel:Con TB.den:= .gp 309 [yqu,yqu,yqu] [yqu,yqu] [] fun(p0 p1 p2:Int)=>(U64 p0/\U64 p1/\U64 p2/\p0<p2,((p0*18446744073709551616+p1)/p2:Int),((p0*18446744073709551616+p1)%p2:Int),())
theorem kgt:kel.Ok Tryz.prog TB:=qrv Bs Tryz.func309 (.r 13 (.jn ⟨[],[],[15,16],[.one (zqu),.one (.any)],[]⟩ [] (.lp [] ⟨[],[],[15,16],[.one (zqu),.one (zqu)],[]⟩ (.jn ⟨[],[],[],[],[]⟩ [] .no [] .no)) [] (.r 2 (.jn ⟨[],[],[16,18],[.one (.any),.one (zqu)],[]⟩ [] (.lp [] ⟨[],[],[16,18],[.one (zqu),.one (zqu)],[]⟩ (.jn ⟨[],[],[],[],[]⟩ [] .no [] .no)) [] .no)))) (k5k.c c0) (Q:=∀(p0 p1 p2:Int),(U64 p0/\U64 p1/\U64 p2/\p0<p2)->∀r0:Int,((p0*18446744073709551616+p1)/p2)=r0->∀r1:Int,((p0*18446744073709551616+p1)%p2)=r1-> 
((p2==0)=true->
 False)/\
((p2==0)=false->
(decide (p2<=p0)=true->
 False)/\
(decide (p2<=p0)=false->
((p0==0)=true->
(p2≠0)/\(p2≠0)/\u64.wrap (Int.tdiv p1 p2)=r0/\Int.tmod p1 p2=r1)/\
((p0==0)=false->
(0<p2/\p2<18446744073709551616)/\(0<=u64.wrap (64-len64 p2))/\let v2:Int:=ishl .u64 p2 (u64.wrap (64-len64 p2))
(0<=u64.wrap (64-len64 p2))/\let v3:Int:=ishl .u64 p0 (u64.wrap (64-len64 p2))
 let v4:Int:=u64.wrap (64-(u64.wrap (64-len64 p2)))
(0<=v4)/\(0<=u64.wrap (64-len64 p2))/\let v5:Int:=ishl .u64 p1 (u64.wrap (64-len64 p2))
(ishr .u64 v2 32≠0)/\let v6:Int:=u64.wrap (Int.tdiv (ior .u64 v3 (ishr .u64 p1 v4)) (ishr .u64 v2 32))
 let v7:Int:=u64.wrap (v6*(ishr .u64 v2 32))
 let v8:Int:=u64.wrap ((ior .u64 v3 (ishr .u64 p1 v4))-v7)
 ∀J1:Int->Prop,(∀(b1:Int),
(let v12:Int:=u64.wrap ((ior .u64 v3 (ishr .u64 p1 v4))*4294967296)
 let v13:Int:=u64.wrap (v12+(ishr .u64 v5 32))
 let v14:Int:=u64.wrap (v13-(u64.wrap (b1*v2)))
(ishr .u64 v2 32≠0)/\let v15:Int:=u64.wrap (Int.tdiv v14 (ishr .u64 v2 32))
 let v16:Int:=u64.wrap (v15*(ishr .u64 v2 32))
 ∀J3:Int->Prop,(∀(k1:Int),
(let v20:Int:=u64.wrap ((u64.wrap (b1*4294967296))+k1)
 let v21:Int:=u64.wrap ((u64.wrap (v14*4294967296))+(iand .u64 v5 4294967295))
 let v22:Int:=u64.wrap (v21-(u64.wrap (k1*v2)))
(0<=u64.wrap (64-len64 p2))/\let v23:Int:=ishr .u64 v22 (u64.wrap (64-len64 p2))
 v20=r0/\v23=r1)->J3 k1)->
 ∃(I2:Int->Int->Prop) (M2:Int->Int->Nat),I2 (u64.wrap (v14-v16)) v15/\∀l1 m1,(I2 l1 m1->
 ∀J4:Prop,((let v19:Int:=u64.wrap (l1+(ishr .u64 v2 32))
(decide (4294967296<=v19)=true->
 J3 (u64.wrap (m1-1)))/\
(decide (4294967296<=v19)=false->
 I2 v19 (u64.wrap (m1-1))/\M2 v19 (u64.wrap (m1-1))<M2 l1 m1))->J4)->
(decide (4294967296<=m1)=true->
 J4)/\
(decide (4294967296<=m1)=false->
 let v17:Int:=u64.wrap (m1*(iand .u64 v2 4294967295))
 let v18:Int:=u64.wrap ((u64.wrap (4294967296*l1))+(iand .u64 v5 4294967295))
(decide (v18<v17)=true->
 J4)/\
(decide (v18<v17)=false->
 J3 m1))))->J1 b1)->
 ∃(I1:Int->Int->Prop) (M1:Int->Int->Nat),I1 v6 v8/\∀f1 i1,(I1 f1 i1->
 ∀J2:Prop,((let v11:Int:=u64.wrap (i1+(ishr .u64 v2 32))
(decide (4294967296<=v11)=true->
 J1 (u64.wrap (f1-1)))/\
(decide (4294967296<=v11)=false->
 I1 (u64.wrap (f1-1)) v11/\M1 (u64.wrap (f1-1)) v11<M1 f1 i1))->J2)->
(decide (4294967296<=f1)=true->
 J2)/\
(decide (4294967296<=f1)=false->
 let v9:Int:=u64.wrap (f1*(iand .u64 v2 4294967295))
 let v10:Int:=u64.wrap ((u64.wrap (4294967296*i1))+(ishr .u64 v5 32))
(decide (v10<v9)=true->
 J2)/\
(decide (v10<v9)=false->
 J1 f1)))))))<|by
 rintro p0 p1 p2 h _ rfl _ rfl;obtain⟨h0,h1,h2,hlt⟩:=h;refine⟨fun e=> ?_,fun _=>⟨fun e=> ?_,fun _=>⟨fun e=> ?_,fun _=> ?_⟩⟩⟩
 ·simp at e;omega
 ·simp at e;omega
 ·have e:p0=0:=by simpa using e
  subst e;rw[tdiv_nn _ _ h1.1,tmod_nn _ _ h1.1,Int.zero_mul,Int.zero_add];have:=Int.ediv_le_self p2 h1.1;have:=qeg h1.1 h2.1;exact⟨by omega,by omega,wu _ qqo (by have:=Int.ediv_le_self p2 h1.1;omega),rfl⟩
 obtain⟨s,e,hs,n1,n2⟩:=kdn p2 ⟨by omega,h2.2⟩;have ew:u64.wrap (64-len64 p2)=(s:Int):=by rw[e,wu _ qqo qqo]
 have ew3:u64.wrap (64-(s:Int))=((64-s:Nat):Int):=by rw[wu _ qqo qqo];omega
 have hp:0<2^s:=qce s;have hp' :0<2^(64-s):=qce _;have hpp:2^s*2^(64-s)=18446744073709551616:=by rw[<-Nat.pow_add,show s+(64-s)=64 by omega]
 have hP:((2^s:Nat):Int)*((2^(64-s):Nat):Int)=18446744073709551616:=by rw[<-qdn,hpp];rfl
 have il:∀a:Int,ishl .u64 a (s:Int)=a*((2^s:Nat):Int)%18446744073709551616:=fun a=>by rw[ki8,qt,qca qqo]
 have ir:∀a:Int,ishr .u64 a (s:Int)=a/((2^s:Nat):Int):=fun a=>by rw[k1v,qt,show min s u64.bits=s from qca (by show s<=64;omega)]
 have ir' :∀a:Int,ishr .u64 a ((64-s:Nat):Int)=a/((2^(64-s):Nat):Int):=fun a=>by rw[k1v,qt,show min (64-s) u64.bits=64-s from qca (by show 64-s<=64;omega)]
 have hor:∀c:Int,0<=c->c<((2^s:Nat):Int)->p0*((2^s:Nat):Int)+c<18446744073709551616->ior .u64 (p0*((2^s:Nat):Int)) c=p0*((2^s:Nat):Int)+c:=by intro c hc0 hc1 hc2;obtain⟨a,rfl⟩:=qo h0.1;obtain⟨c,rfl⟩:=qo hc0;have key:=ior_add' c a s qqo;rw[qen,<-qdn]at hc2 ⊢;rw[key qqo];omega
 simp only[ew,ew3,il,ir',ishr32];have hP'0:(0:Int)<((2^(64-s):Nat):Int):=by omega
 generalize hPd:((2^s:Nat):Int)=P at *
 generalize hPd' :((2^(64-s):Nat):Int)=P' at *
 have hP0:0<P:=by omega
 have hlo:p1/P' <P:=qfk hP'0 qqo;have hlo0:0<=p1/P' :=qeg h1.1 qqo;have hUv:p0*P+P<=p2*P:=by have:(p0+1)*P<=p2*P:=Int.mul_le_mul_of_nonneg_right qqo qqo;grind
 have hUp:0<=p0*P:=qdb h0.1 qqo;rw[qds (a:=p2*P) qqo n2,qds (a:=p0*P) hUp qqo,hor _ hlo0 hlo qqo]
 have hN:(p0*18446744073709551616+p1)*P=(p0*P+p1/P')*18446744073709551616+(p1*P%18446744073709551616/4294967296)*4294967296+p1*P%18446744073709551616%4294967296:=by
  have h5:p1*P/18446744073709551616=p1/P' :=by rw[<-hP,qen p1 P,Int.mul_ediv_mul_of_pos _ _ hP0]
  have h6:=qdq (p1*P) 18446744073709551616;rw[h5]at h6;have:(p0*18446744073709551616+p1)*P=p0*P*18446744073709551616+p1*P:=by grind
  rw[this];generalize p1*P=w at *
  generalize p0*P=w' at *
  omega
 have hlb:0<=p1*P%18446744073709551616/\p1*P%18446744073709551616<18446744073709551616:=⟨qch _ qqo,qbz _ qqo⟩;generalize hUd:p0*P+p1/P' =U at *
 generalize hLd:p1*P%18446744073709551616=L at *
 have hVd:p2*P/4294967296*4294967296+p2*P%4294967296=p2*P:=by omega
 have hw:∀{Q R V' :Int},R-Q=V'->0<=V'->V' <18446744073709551616->∀A,R=A*4294967296+(R-A*4294967296)->u64.wrap (u64.wrap (u64.wrap (A*4294967296)+(R-A*4294967296))-u64.wrap Q)=V' :=by intro Q R V' hv h0 h1 A hA;simp only[u64w];omega
 rw[k2d (p2*P) qqo,k2d L qqo];generalize ha:p2*P/4294967296=a at *
 generalize hb:p2*P%4294967296=b at *
 have hQ1:Half U (L/4294967296) a b ((U*4294967296+L/4294967296)/(a*4294967296+b)):=⟨by omega,by omega,by omega,by omega,by omega,rfl⟩;have hr1:=hQ1.rest;have hq1:=hQ1.q;generalize (U*4294967296+L/4294967296)/(a*4294967296+b)=Q1 at *
 generalize (U*4294967296+L/4294967296)%(a*4294967296+b)=R1 at *
 have hQ0:Half R1 (L%4294967296) a b ((R1*4294967296+L%4294967296)/(a*4294967296+b)):=⟨by omega,by omega,by omega,by omega,by omega,rfl⟩;have hr0:=hQ0.rest;have hq0:=hQ0.q;generalize (R1*4294967296+L%4294967296)/(a*4294967296+b)=Q0 at *
 generalize (R1*4294967296+L%4294967296)%(a*4294967296+b)=R0 at *
 rw[hVd]at hr1 hr0 hq1 hq0;have fin:=kkq hP0 (by omega:0<p2) hN hr1.1 hr0.1 ⟨hr0.2.1,hr0.2.2⟩
 have aux:∀{U x Q q r:Int},Half U x a b Q->U<18446744073709551616->q*a+r=U->Q<=q->0<=r->q<=8589934592:=by
  intro U x Q q r hh hU e hQ hr;have h1:=hh.ha;refine Int.le_of_lt_add_one (qda (a:=a) ?_ qqo);generalize q*a=w at *
  omega
 have init:∀{U x Q:Int},Half U x a b Q->Q<=U/a:=by
  intro U x Q hh;have h1:=hh.ha;have h2:=hh.q;have h3:=hh.hb;have h4:=hh.hx;refine(Int.le_ediv_iff_mul_le qqo).2 ?_;have h5:Q*(a*4294967296+b)=Q*a*4294967296+Q*b:=by grind
  have h6:0<=Q*b:=qdb h2.1 h3.1;generalize Q*a=w at *
  omega
 have hd:=qdq U a;have hd1:=qch U (by omega:a≠0);have hd2:=qbz U (by omega:0<a);have hd3:0<=U/a:=qeg qqo qqo;rw[qen]at hd;have hd5:0<=U/a*a:=qdb hd3 qqo;have hd4:=aux hQ1 qqo (q:=U/a) (r:=U%a) qqo (init hQ1) hd1;rw[tdiv_nn _ _ qqo,wu (U/a) qqo qqo,wu (U/a*a) qqo qqo,show U-U/a*a=U%a by omega,wu (U%a) qqo qqo];refine⟨⟨by omega,h2.2⟩,by omega,by omega,by omega,by omega,by omega,fun J1 k1=> ?_⟩
 have j2:J1 Q1:=by
  have e1:=hw (Q:=Q1*(p2*P)) (R:=U*4294967296+L/4294967296) hr1.1 hr1.2.1 qqo U qqo;rw[show U*4294967296+L/4294967296-U*4294967296=L/4294967296 by omega]at e1;refine k1 _ ?_;simp only[e1];have hd:=qdq R1 a;have hd1:=qch R1 (by omega:a≠0);have hd2:=qbz R1 (by omega:0<a);have hd3:0<=R1/a:=qeg hr1.2.1 qqo;rw[qen]at hd;have hd5:0<=R1/a*a:=qdb hd3 qqo;have hd4:=aux hQ0 qqo (q:=R1/a) (r:=R1%a) qqo (init hQ0) hd1;rw[tdiv_nn _ _ hr1.2.1,wu (R1/a) qqo qqo,wu (R1/a*a) qqo qqo,show R1-R1/a*a=R1%a by omega,wu (R1%a) qqo qqo];refine⟨by omega,fun J3 k3=> ?_⟩
  have j4:J3 Q0:=by
   refine k3 _ ⟨by omega,?_,?_⟩
   ·rw[wu (Q1*4294967296) qqo qqo,wu _ qqo qqo];exact fin.1
   ·have:=hw (Q:=Q0*(p2*P)) (R:=R1*4294967296+L%4294967296) hr0.1 hr0.2.1 qqo R1 qqo;rw[show R1*4294967296+L%4294967296-R1*4294967296=L%4294967296 by omega]at this;rw[this,ir];exact fin.2
  refine⟨fun r q=>q*a+r=R1/\Q0<=q/\0<=r/\r<4294967296,fun r q=>q.toNat,⟨by omega,init hQ0,hd1,by omega⟩,?_⟩;rintro r q ⟨g1,g2,g3,g4⟩ J4 k4;have g5:=aux hQ0 qqo g1 g2 g3;have nxt:Q0<=q-1->r+a<4294967296->((q-1)*a+(r+a)=R1/\Q0<=q-1/\0<=r+a/\r+a<4294967296)/\(q-1).toNat<q.toNat:=fun h1 h2=>⟨⟨by grind,h1,by omega,h2⟩,by(first|omega|(dsimp only;omega))⟩;have j3:Q0<=q-1->J4:=by intro hq;refine k4 ?_;rw[wu (q-1) qqo qqo,wu (r+a) qqo qqo];refine⟨fun hd=> ?_,fun hd=>nxt hq (by simpa using hd)⟩;have hd:4294967296<=r+a:=qb hd;rw[hQ0.done (q:=q-1) (r:=r+a) (by grind) hq hd];exact j4
  refine⟨fun hd=>j3 (hQ0.down g1 (.inl (qb hd))),fun hd=> ?_⟩;have hd:q<4294967296:=by simpa using hd
  have hqb:0<=q*b/\q*b<18446744073709551616:=by have:=hQ0.hb;have h1:q*b<=4294967295*4294967295:=qem qqo qqo qqo qqo;exact⟨qdb qqo qqo,by(first|omega|(dsimp only;omega))⟩
  have:=hQ0.hx;rw[wu (q*b) qqo qqo,wu (4294967296*r) qqo qqo,wu (4294967296*r+L%4294967296) qqo qqo];refine⟨fun ht=> ?_,fun ht=> ?_⟩
  ·have ht:4294967296*r+L%4294967296<q*b:=qb ht;exact j3 (hQ0.down g1 (.inr qqo))
  ·have ht:¬(4294967296*r+L%4294967296<q*b):=qc ht;rw[hQ0.exit g1 g2 qqo];exact j4
 refine⟨fun q r=>q*a+r=U/\Q1<=q/\0<=r/\r<4294967296,fun q r=>q.toNat,⟨by omega,init hQ1,hd1,by omega⟩,?_⟩;rintro q r ⟨g1,g2,g3,g4⟩ J2 k2;have g5:=aux hQ1 qqo g1 g2 g3;have nxt:Q1<=q-1->r+a<4294967296->((q-1)*a+(r+a)=U/\Q1<=q-1/\0<=r+a/\r+a<4294967296)/\(q-1).toNat<q.toNat:=fun h1 h2=>⟨⟨by grind,h1,by omega,h2⟩,by(first|omega|(dsimp only;omega))⟩;have j1:Q1<=q-1->J2:=by intro hq;refine k2 ?_;rw[wu (q-1) qqo qqo,wu (r+a) qqo qqo];refine⟨fun hd=> ?_,fun hd=>nxt hq (by simpa using hd)⟩;have hd:4294967296<=r+a:=qb hd;rw[hQ1.done (q:=q-1) (r:=r+a) (by grind) hq hd];exact j2
 refine⟨fun hd=>j1 (hQ1.down g1 (.inl (qb hd))),fun hd=> ?_⟩;have hd:q<4294967296:=by simpa using hd
 have hqb:0<=q*b/\q*b<18446744073709551616:=by have:=hQ1.hb;have h1:q*b<=4294967295*4294967295:=qem qqo qqo qqo qqo;exact⟨qdb qqo qqo,by(first|omega|(dsimp only;omega))⟩
 have:=hQ1.hx;rw[wu (q*b) qqo qqo,wu (4294967296*r) qqo qqo,wu (4294967296*r+L/4294967296) qqo qqo];refine⟨fun ht=> ?_,fun ht=> ?_⟩
 ·have ht:4294967296*r+L/4294967296<q*b:=qb ht;exact j1 (hQ1.down g1 (.inr qqo))
 ·have ht:¬(4294967296*r+L/4294967296<q*b):=qc ht;rw[hQ1.exit g1 g2 qqo];exact j2
noncomputable def kev:Con TB.den:= .gp 308 [yqu,yqu] [yqu,yqu] [] fun(p0 p1:Int)=>(U64 p0/\U64 p1,(p0*p1/18446744073709551616:Int),(p0*p1%18446744073709551616:Int),())
theorem khc:kev.Ok Tryz.prog TB:=qrv Bs Tryz.func308 .no c0 (Q:=∀(p0 p1:Int),(U64 p0/\U64 p1)->∀r0:Int,(p0*p1/18446744073709551616)=r0->∀r1:Int,(p0*p1%18446744073709551616)=r1-> 
 let v2:Int:=u64.wrap ((iand .u64 p0 4294967295)*(iand .u64 p1 4294967295))
 let v3:Int:=u64.wrap ((ishr .u64 p0 32)*(iand .u64 p1 4294967295))
 let v4:Int:=u64.wrap (v3+(ishr .u64 v2 32))
 let v5:Int:=u64.wrap ((iand .u64 p0 4294967295)*(ishr .u64 p1 32))
 let v6:Int:=u64.wrap ((iand .u64 v4 4294967295)+v5)
 let v7:Int:=u64.wrap ((ishr .u64 p0 32)*(ishr .u64 p1 32))
 let v8:Int:=u64.wrap (v7+(ishr .u64 v4 32))
 let v9:Int:=u64.wrap (v8+(ishr .u64 v6 32))
 v9=r0/\u64.wrap (p0*p1)=r1)<|by
 rintro p0 p1 h _ rfl _ rfl;obtain⟨h0,h1⟩:=h;have k:=knw p0 p1 h0 h1;refine ?_;simp only[k2d p0 h0,k2d p1 h1,ishr32];obtain⟨e,k1,k2,k3,k4,k5,k6,k7,k8⟩:=k;rw[<-e];rw[wu (p0%4294967296*(p1%4294967296)) qqo qqo,wu (p0/4294967296*(p1%4294967296)) qqo qqo,wu (p0%4294967296*(p1/4294967296)) qqo qqo,wu (p0/4294967296*(p1/4294967296)) qqo qqo];generalize p0%4294967296*(p1%4294967296)=a at *
 generalize p0/4294967296*(p1%4294967296)=b at *
 generalize p0%4294967296*(p1/4294967296)=c at *
 generalize p0/4294967296*(p1/4294967296)=d at *
 rw[wu (b+a/4294967296) qqo qqo,k2d _ qqo];simp only[u64w];refine⟨?_,trivial⟩;omega
noncomputable def khf:Con TB.den:= .gp 379 [.st 7,yqu,yqu] [yqu] [] fun(p0:wAB) (p1 p2:Int)=>(p0.P=18446744069414584321/\(0<=p1/\p1<18446744069414584321)/\(0<=p2/\p2<18446744069414584321),(p1*p2%18446744069414584321:Int),())
theorem k8l:khf.Ok Tryz.prog TB:=qrv Bs Tryz.func379 .no (khc.c (kgt.c c0)) (Q:=∀(p0:wAB) (p1 p2:Int),(p0.P=18446744069414584321/\(0<=p1/\p1<18446744069414584321)/\(0<=p2/\p2<18446744069414584321))->∀r0:Int,(p1*p2%18446744069414584321)=r0-> 
(U64 p1/\U64 p2)/\(U64 (p1*p2/18446744073709551616)/\U64 (p1*p2%18446744073709551616)/\U64 p0.P/\(p1*p2/18446744073709551616)<p0.P)/\let r1:Int:=(((p1*p2/18446744073709551616)*18446744073709551616+(p1*p2%18446744073709551616))/p0.P)
 let r2:Int:=(((p1*p2/18446744073709551616)*18446744073709551616+(p1*p2%18446744073709551616))%p0.P)
 r2=r0)<|by
 rintro p0 p1 p2 h _ rfl;obtain⟨hP,h1,h2⟩:=h;have h3:0<=p1*p2:=qdb h1.1 h2.1;have h4:p1*p2<=18446744069414584320*18446744069414584320:=qem qqo qqo h2.1 qqo;refine⟨⟨by omega,by omega⟩,?_⟩;simp only[hP];generalize p1*p2=m at *
 refine⟨⟨⟨by omega,by omega⟩,⟨by omega,by omega⟩,by omega,by omega⟩,?_⟩;rw[show m/18446744073709551616*18446744073709551616+m%18446744073709551616=m by omega]
noncomputable def kh5:Con TB.den:= .gp 298 [.st 7,yqu,yqu] [yqu] [] fun(p0:wAB) (p1 p2:Int)=>(p0.P=18446744069414584321/\U64 p1/\U64 p2,(p1*p2%18446744069414584321:Int),())
theorem kit:kh5.Ok Tryz.prog TB:=qrv Bs Tryz.func298 .no (k1e.c (k1r.c (k8l.c c0))) (Q:=∀(p0:wAB) (p1 p2:Int),(p0.P=18446744069414584321/\U64 p1/\U64 p2)->∀r0:Int,(p1*p2%18446744069414584321)=r0-> 
(p0.P=18446744069414584321)/\((!true)=true->
 0=r0)/\
((!true)=false->
(0<p0.P/\0<=p1)/\(0<p0.P/\0<=p2)/\(p0.P=18446744069414584321/\(0<=(p1%p0.P)/\(p1%p0.P)<18446744069414584321)/\(0<=(p2%p0.P)/\(p2%p0.P)<18446744069414584321))/\let r1:Int:=((p1%p0.P)*(p2%p0.P)%18446744069414584321)
 r1=r0))<|by rintro p0 p1 p2 h _ rfl;obtain⟨hP,h1,h2⟩:=h;refine⟨hP,?_⟩;simp only[hP];refine⟨fun h=>by simp at h,fun _=>⟨by omega,by omega,⟨by trivial,by omega,by omega⟩,?_⟩⟩;exact(qeo _ _ _).symm
noncomputable def kac:Con TB.den:= .gp 450 [.st 7] [yqu,yqi,yqu] [] fun(p0:wAB)=>(p0.P=18446744069414584321,(7:Int),(32:Int),(7:Int),())
theorem kbw:kac.Ok Tryz.prog TB:=qrv Bs Tryz.func450 .no c0 (Q:=∀(p0:wAB),(p0.P=18446744069414584321)->∀r0:Int,(7:Int)=r0->∀r1:Int,(32:Int)=r1->∀r2:Int,(7:Int)=r2-> 
((p0.P==17)=true->
 3=r0/\4=r1/\3=r2)/\
((p0.P==17)=false->
((p0.P==97)=true->
 5=r0/\5=r1/\5=r2)/\
((p0.P==97)=false->
((p0.P==193)=true->
 5=r0/\6=r1/\5=r2)/\
((p0.P==193)=false->
((p0.P==257)=true->
 3=r0/\8=r1/\3=r2)/\
((p0.P==257)=false->
((p0.P==12289)=true->
 11=r0/\12=r1/\5=r2)/\
((p0.P==12289)=false->
((p0.P==65537)=true->
 3=r0/\16=r1/\3=r2)/\
((p0.P==65537)=false->
((p0.P==18446744069414584321)=true->
 7=r0/\32=r1/\7=r2)/\
((p0.P==18446744069414584321)=false->
 0=r0/\0=r1/\0=r2))))))))<|by rintro p0 h _ rfl _ rfl _ rfl;refine ?_;simp[h]
noncomputable def k9c:Con TB.den:= .gp 380 [.st 7] [yqu] [] fun(p0:wAB)=>(p0.P=18446744069414584321,(7:Int),())
theorem ka6:k9c.Ok Tryz.prog TB:=qrv Bs Tryz.func380 .no (kbw.c c0) (Q:=∀(p0:wAB),(p0.P=18446744069414584321)->∀r0:Int,(7:Int)=r0-> 
(p0.P=18446744069414584321)/\7=r0)<|by rintro p0 h _ rfl;exact⟨h,rfl⟩
noncomputable def kgw:Con TB.den:= .gp 451 [.st 7,yqu,yqu] [yqu] [] fun(p0:wAB) (p1 p2:Int)=>(p0.P=18446744069414584321/\(0<=p1/\p1<18446744069414584321)/\U64 p2,(pw p1 p2:Int),())
theorem ki2:kgw.Ok Tryz.prog TB:=qrv Bs Tryz.func451 (.r 1 (.nd [] (.lp [] ⟨[],[],[1,2,7],[.one (zqu),.one (zqu),.one (zqu)],[]⟩ (.r 0 (.jn ⟨[],[],[7],[.one (zqu)],[]⟩ [] .no [] .no))) [] .no)) (k8l.c c0) (Q:=∀(p0:wAB) (p1 p2:Int),(p0.P=18446744069414584321/\(0<=p1/\p1<18446744069414584321)/\U64 p2)->∀r0:Int,pw p1 p2=r0-> 
 ∃(I1:Int->Int->Int->Prop) (M1:Int->Int->Int->Nat),I1 p1 p2 1/\∀b1 f1 i1,(I1 b1 f1 i1->
(decide (0<f1)=true->
 ∀J1:Int->Prop,(∀(k1:Int),
((decide (0<(ishr .u64 f1 1))=true->
(p0.P=18446744069414584321/\(0<=b1/\b1<18446744069414584321)/\(0<=b1/\b1<18446744069414584321))/\I1 (b1*b1%18446744069414584321) (ishr .u64 f1 1) k1/\M1 (b1*b1%18446744069414584321) (ishr .u64 f1 1) k1<M1 b1 f1 i1)/\
(decide (0<(ishr .u64 f1 1))=false->
 I1 b1 (ishr .u64 f1 1) k1/\M1 b1 (ishr .u64 f1 1) k1<M1 b1 f1 i1))->J1 k1)->
(((iand .u64 f1 1)==1)=true->
(p0.P=18446744069414584321/\(0<=i1/\i1<18446744069414584321)/\(0<=b1/\b1<18446744069414584321))/\J1 (i1*b1%18446744069414584321))/\
(((iand .u64 f1 1)==1)=false->
 J1 i1))/\
(decide (0<f1)=false->
 i1=r0)))<|by
 rintro p0 p1 p2 h _ rfl;obtain⟨hP,h1,h2⟩:=h;rw[hP];refine⟨fun a e r=>(0<=a/\a<18446744069414584321)/\U64 e/\(0<=r/\r<18446744069414584321)/\(r*a^e.toNat)%18446744069414584321=pw p1 p2,fun a e r=>e.toNat,⟨h1,h2,by omega,by rw[Int.one_mul];rfl⟩,?_⟩;rintro a e r ⟨ha,he,hr,hv⟩;refine⟨fun h J1 j=> ?_,fun h=> ?_⟩
 ·have h:=qb h
  have jj:∀r',(0<=r'/\r' <18446744069414584321)->(r' *(a*a)^(e/2).toNat)%18446744069414584321=pw p1 p2->J1 r' :=by
   intro r' hr' hv';have hn:∀a',(0<=a'/\a' <18446744069414584321)->r' *a' ^(e/2).toNat%18446744069414584321=pw p1 p2->((0<=a'/\a' <18446744069414584321)/\U64 (e/2)/\(0<=r'/\r' <18446744069414584321)/\r' *a' ^(e/2).toNat%18446744069414584321=pw p1 p2)/\(e/2).toNat<e.toNat:=fun a' h1 h3=>⟨⟨h1,⟨by omega,by omega⟩,hr',h3⟩,by(first|omega|(dsimp only;omega))⟩;refine j _ ?_;rw[ishr1];refine⟨fun h=>⟨⟨rfl,ha,ha⟩,?_⟩,fun h=> ?_⟩
   ·refine hn _ ⟨qch _ qqo,qbz _ qqo⟩ ?_;rw[<-hv',qeo,qeo r' ((a*a)^_),kih]
   ·have h:¬0<e/2:=qc h;refine hn _ ha ?_;rw[show(e/2).toNat=0 by omega]at hv' ⊢;simpa using hv'
  rw[koh e he];have hpow:∀k:Nat,a^(2*k)=(a*a)^k:=fun k=>by rw[Int.pow_mul];congr 1;rw[qdm,qdm,Int.pow_zero,Int.one_mul]
  refine⟨fun h1=>⟨⟨rfl,hr,ha⟩,?_⟩,fun h1=> ?_⟩
  ·have h1:e%2=1:=by simpa using h1
   refine jj _ ⟨qch _ qqo,qbz _ qqo⟩ ?_;rw[<-hv,show e.toNat=2*(e/2).toNat+1 by omega,qdm,hpow,qeo,qdv _ (qfo _),<-qeo];congr 1;grind
  ·have h1:¬e%2=1:=by simpa using h1
   refine jj _ hr ?_;rw[<-hv,<-hpow,show e.toNat=2*(e/2).toNat by omega]
 ·have h:¬0<e:=qc h;rw[show e.toNat=0 by omega,Int.pow_zero,Int.mul_one,qds hr.1 hr.2]at hv;exact hv
noncomputable def kgz:Con TB.den:= .gp 381 [.st 7,yqu,yqu] [yqu] [] fun(p0:wAB) (p1 p2:Int)=>(p0.P=18446744069414584321/\U64 p1/\U64 p2,(pw (p1%18446744069414584321) p2:Int),())
theorem kis:kgz.Ok Tryz.prog TB:=qrv Bs Tryz.func381 .no (k1e.c (k1r.c (ki2.c c0))) (Q:=∀(p0:wAB) (p1 p2:Int),(p0.P=18446744069414584321/\U64 p1/\U64 p2)->∀r0:Int,(pw (p1%18446744069414584321) p2)=r0-> 
(p0.P=18446744069414584321)/\((!true)=true->
 0=r0)/\
((!true)=false->
(0<p0.P/\0<=p1)/\(p0.P=18446744069414584321/\(0<=(p1%p0.P)/\(p1%p0.P)<18446744069414584321)/\U64 p2)/\(pw (p1%p0.P) p2)=r0))<|by rintro p0 p1 p2 h _ rfl;obtain⟨hP,h1,h2⟩:=h;refine⟨hP,fun h=>by simp at h,fun _=>⟨by omega,?_⟩⟩;simp only[hP];exact⟨⟨by trivial,by omega,h2⟩,trivial⟩
noncomputable def kb1:Con TB.den:= .gp 452 [.st 7,yqu] [yqu] [] fun(p0:wAB) (p1:Int)=>(p0.P=18446744069414584321/\U64 p1,(p1%18446744069414584321:Int),())
theorem kdp:kb1.Ok Tryz.prog TB:=qrv Bs Tryz.func452 .no (k1e.c (k1r.c c0)) (Q:=∀(p0:wAB) (p1:Int),(p0.P=18446744069414584321/\U64 p1)->∀r0:Int,(p1%18446744069414584321)=r0-> 
(p0.P=18446744069414584321)/\((!true)=true->
 0=r0)/\
((!true)=false->
(0<p0.P/\0<=p1)/\(p1%p0.P)=r0))<|by rintro p0 p1 h _ rfl;obtain⟨hP,h1⟩:=h;refine⟨hP,fun h=>by simp at h,fun _=>⟨by omega,?_⟩⟩;simp only[hP]
noncomputable def k49:Con TB.den:= .gp 382 [yqu,yqi,yqi] [yqu] [] fun(p0 p1 p2:Int)=>(p0=18446744069414584321/\(0<=p1/\p1<8)/\0<=p2/\p2<3,(rc p1 p2:Int),())
theorem k4r:k49.Ok Tryz.prog TB:=qrv Bs Tryz.func382 .no (kdp.c c0) (Q:=∀(p0 p1 p2:Int),(p0=18446744069414584321/\(0<=p1/\p1<8)/\0<=p2/\p2<3)->∀r0:Int,rc p1 p2=r0-> 
(decide (p1<0)=true->
 0=r0)/\
(decide (p1<0)=false->
(decide (8<=p1)=true->
 0=r0)/\
(decide (8<=p1)=false->
(decide (p2<0)=true->
 0=r0)/\
(decide (p2<0)=false->
(decide (2<p2)=true->
 0=r0)/\
(decide (2<p2)=false->
 let v1:Int:=i64.wrap ((i64.wrap (3*p1))+p2)
 let v2:Int:=u64.wrap (i64.wrap (v1+1))
 let v3:Int:=u64.wrap (v2*11400714819323198485)
((wAB.mk p0).P=18446744069414584321/\U64 v3)/\(v3%18446744069414584321)=r0)))))<|by
 rintro p0 p1 p2 h _ rfl;obtain⟨hP,h1,h2⟩:=h;refine⟨fun h=> ?_,fun _=>⟨fun h=> ?_,fun _=>⟨fun h=> ?_,fun _=>⟨fun h=> ?_,fun _=> ?_⟩⟩⟩⟩
 ·simp at h;omega
 ·simp at h;omega
 ·simp at h;omega
 ·simp at h;omega
 ·simp only[];rw[wi (3*p1) qqo qqo,wi (3*p1+p2) qqo qqo,wi (3*p1+p2+1) qqo qqo,wu (3*p1+p2+1) qqo qqo,u64w];exact⟨⟨hP,by omega,by omega⟩,rfl⟩
noncomputable def k83:Con TB.den:= .gp 383 [yqu,.st 8] [.st 8] [] fun(p0:Int) (p1:wAS)=>(p0=18446744069414584321/\S3 p1,(mixS p1:wAS),())
theorem k8u:k83.Ok Tryz.prog TB:=qrv Bs Tryz.func383 .no (k4n.c c0) (Q:=∀(p0:Int) (p1:wAS),(p0=18446744069414584321/\S3 p1)->∀r0:wAS,mixS p1=r0-> 
((wAB.mk p0).P=18446744069414584321/\U64 p1.a0/\U64 p1.a1)/\((wAB.mk p0).P=18446744069414584321/\U64 ((p1.a0+p1.a1)%18446744069414584321)/\U64 p1.a2)/\let r1:Int:=((((p1.a0+p1.a1)%18446744069414584321)+p1.a2)%18446744069414584321)
((wAB.mk p0).P=18446744069414584321/\U64 p1.a0/\U64 r1)/\((wAB.mk p0).P=18446744069414584321/\U64 p1.a1/\U64 r1)/\((wAB.mk p0).P=18446744069414584321/\U64 p1.a2/\U64 r1)/\((p1.a0+r1)%18446744069414584321)=r0.a0/\((p1.a1+r1)%18446744069414584321)=r0.a1/\((p1.a2+r1)%18446744069414584321)=r0.a2)<|by rintro p0 p1 h _ rfl;obtain⟨hP,h0,h1,h2⟩:=h;refine ?_;simp only[hP];exact⟨⟨by trivial,h0,h1⟩,⟨by trivial,by omega,h2⟩,⟨by trivial,h0,by omega⟩,⟨by trivial,h1,by omega⟩,⟨by trivial,h2,by omega⟩,rfl,rfl,rfl⟩
noncomputable def k4o:Con TB.den:= .gp 299 [yqu,.st 8] [.st 8] [] fun(p0:Int) (p1:wAS)=>(p0=18446744069414584321/\S3 p1,(permS p1:wAS),())
theorem k5i:k4o.Ok Tryz.prog TB:=qrv Bs Tryz.func299 (.r 3 (.nd [] (.r 0 (.lp [] ⟨[0],yO1,[17],[.one (zqi)],[]⟩ (.r 1 (.nd [] (.r 0 (.nd [] (.r 0 (.lp [] ⟨[0],yO1,[20],[.one (zqi)],[]⟩ .no)) [] .no)) [] .no)))) [] .no)) (k1e.c (ka6.c (k4r.c (k4n.c (kis.c (k8u.c c0)))))) (Q:=∀(p0:Int) (p1:wAS),(p0=18446744069414584321/\S3 p1)->∀r0:wAS,permS p1=r0-> 
((wAB.mk p0).P=18446744069414584321)/\((!true)=true->
 0=r0.a0/\0=r0.a1/\0=r0.a2)/\
((!true)=false->
((wAB.mk p0).P=18446744069414584321)/\∃(I1:Int->Int->Int->Int->Prop) (M1:Int->Int->Int->Int->Nat),I1 0 p1.a0 p1.a1 p1.a2/\∀b1 f1 i1 k1,(I1 b1 f1 i1 k1->
(decide (b1<8)=true->
 ∃(I2:Int->Int->Int->Int->Prop) (M2:Int->Int->Int->Int->Nat),I2 0 f1 i1 k1/\∀l1 m1 n1 o1,(I2 l1 m1 n1 o1->
(decide (l1<3)=true->
(0<=l1/\l1<(3:Int))/\(0<=l1/\l1<(3:Int))/\(p0=18446744069414584321/\(0<=b1/\b1<8)/\0<=l1/\l1<3)/\((wAB.mk p0).P=18446744069414584321/\U64 (ix [m1,n1,o1] l1)/\U64 (rc b1 l1))/\let r1:Int:=(((ix [m1,n1,o1] l1)+(rc b1 l1))%18446744069414584321)
((wAB.mk p0).P=18446744069414584321/\U64 r1/\U64 (7:Int))/\let r2:Int:=(pw (r1%18446744069414584321) (7:Int))
(0<=l1/\l1<(3:Int))/\(0<=l1/\l1<(3:Int))/\I2 (i64.wrap (l1+1)) (bif decide (l1=(0:Int))then r2 else m1) (bif decide (l1=(1:Int))then r2 else n1) (bif decide (l1=(2:Int))then r2 else o1)/\M2 (i64.wrap (l1+1)) (bif decide (l1=(0:Int))then r2 else m1) (bif decide (l1=(1:Int))then r2 else n1) (bif decide (l1=(2:Int))then r2 else o1)<M2 l1 m1 n1 o1)/\
(decide (l1<3)=false->
(p0=18446744069414584321/\S3 (wAS.mk m1 n1 o1))/\I1 (i64.wrap (b1+1)) ((mixS (wAS.mk m1 n1 o1)).a0) ((mixS (wAS.mk m1 n1 o1)).a1) ((mixS (wAS.mk m1 n1 o1)).a2)/\M1 (i64.wrap (b1+1)) ((mixS (wAS.mk m1 n1 o1)).a0) ((mixS (wAS.mk m1 n1 o1)).a1) ((mixS (wAS.mk m1 n1 o1)).a2)<M1 b1 f1 i1 k1)))/\
(decide (b1<8)=false->
 f1=r0.a0/\i1=r0.a1/\k1=r0.a2))))<|by
 rintro p0 p1 h _ rfl;obtain⟨hP,hs⟩:=h;subst hP;refine⟨rfl,fun h=>by simp at h,fun _=>⟨rfl,?_⟩⟩;refine⟨(fun n a b c=>0<=n/\n<=8/\(⟨a,b,c⟩:wAS)=rnds n.toNat p1/\S3 ⟨a,b,c⟩),(fun n _ _ _=>(8-n).toNat),⟨by omega,by omega,rfl,hs⟩,?_⟩;rintro n a b c ⟨g0,g1,g2,g3⟩;refine⟨fun h=> ?_,fun h=> ?_⟩
 ·have h:=qb h;refine⟨(fun i x y z=>(i=0/\x=a/\y=b/\z=c)∨(i=1/\x=pw ((a+rc n 0)%18446744069414584321) 7/\y=b/\z=c)∨(i=2/\x=pw ((a+rc n 0)%18446744069414584321) 7/\y=pw ((b+rc n 1)%18446744069414584321) 7/\z=c)∨(i=3/\x=pw ((a+rc n 0)%18446744069414584321) 7/\y=pw ((b+rc n 1)%18446744069414584321) 7/\z=pw ((c+rc n 2)%18446744069414584321) 7)),(fun i _ _ _=>(3-i).toNat),(.inl ⟨rfl,rfl,rfl,rfl⟩),?_⟩;intro i x y z hi;have hrc:∀k,U64 (rc n k):=fun k=>by unfold rc;omega
  have hpw:∀k e,0<=pw k e/\pw k e<18446744069414584321:=fun k e=>⟨qch _ qqo,qbz _ qqo⟩;obtain⟨h3a,h3b,h3c⟩:=g3;refine⟨fun hh=> ?_,fun hh=> ?_⟩
  ·have hh:=qb hh;rcases hi with⟨rfl,rfl,rfl,rfl⟩|⟨rfl,rfl,rfl,rfl⟩|⟨rfl,rfl,rfl,rfl⟩|⟨rfl,_⟩
   ·refine⟨by omega,by omega,⟨rfl,by omega,by omega⟩,⟨rfl,h3a,hrc _⟩,⟨rfl,?_,by omega⟩,by omega,by omega,.inr (.inl ⟨rfl,?_,rfl,rfl⟩),by(dsimp only;decide)⟩
    ·exact⟨qch _ qqo,Int.lt_trans (qbz _ qqo) qqo⟩
    ·show pw ((x+rc n 0)%18446744069414584321%18446744069414584321) 7=_;rw[qdv _ (qfo _)]
   ·refine⟨by omega,by omega,⟨rfl,by omega,by omega⟩,⟨rfl,h3b,hrc _⟩,⟨rfl,?_,by omega⟩,by omega,by omega,.inr (.inr (.inl ⟨rfl,rfl,?_,rfl⟩)),by(dsimp only;decide)⟩
    ·exact⟨qch _ qqo,Int.lt_trans (qbz _ qqo) qqo⟩
    ·show pw ((y+rc n 1)%18446744069414584321%18446744069414584321) 7=_;rw[qdv _ (qfo _)]
   ·refine⟨by omega,by omega,⟨rfl,by omega,by omega⟩,⟨rfl,h3c,hrc _⟩,⟨rfl,?_,by omega⟩,by omega,by omega,.inr (.inr (.inr ⟨rfl,rfl,rfl,?_⟩)),by(dsimp only;decide)⟩
    ·exact⟨qch _ qqo,Int.lt_trans (qbz _ qqo) qqo⟩
    ·show pw ((z+rc n 2)%18446744069414584321%18446744069414584321) 7=_;rw[qdv _ (qfo _)]
   ·omega
  ·have hh:=qc hh;rcases hi with⟨rfl,_⟩|⟨rfl,_⟩|⟨rfl,_⟩|⟨rfl,rfl,rfl,rfl⟩
   ·omega
   ·omega
   ·omega
   ·have e:rnds (n+1).toNat p1=rnd ⟨a,b,c⟩ n:=by rw[show(n+1).toNat=n.toNat+1 by omega];show rnd (rnds n.toNat p1) (n.toNat:Int)=_;rw[<-g2,show(n.toNat:Int)=n by omega]
    have hS:S3 (rnds (n+1).toNat p1):=by rw[e];unfold rnd mixS S3;dsimp only;omega
    have hinc:i64.wrap (n+1)=n+1:=wi _ qqo qqo;rw[hinc];refine⟨⟨rfl,by unfold S3;have:=hpw ((a+rc n 0)%18446744069414584321) 7;have:=hpw ((b+rc n 1)%18446744069414584321) 7;have:=hpw ((c+rc n 2)%18446744069414584321) 7;dsimp only;omega⟩,(?_:0<=n+1/\n+1<=8/\_/\_),(?_:(8-(n+1)).toNat<(8-n).toNat)⟩
    ·refine⟨by omega,by omega,e.symm,?_⟩;rw[e]at hS;exact hS
    ·omega
 ·have h:=qc h;rw[show n=8 by omega]at g2;have g2:(⟨a,b,c⟩:wAS)=permS p1:=g2;rw[<-g2];exact⟨rfl,rfl,rfl⟩
noncomputable def kai:Con TB.den:= .gp 222 [yqu,yqu,.sl yqu] [.st 8] [] fun(p0 p1:Int) (p2:Li)=>(p0=18446744069414584321/\U64 p1/\Us p2/\p2.length<=1099511627776,(absS p1 p2:wAS),())
theorem kb0:kai.Ok Tryz.prog TB:=qrv Bs Tryz.func222 (.r 3 (.nd [] (.r 0 (.lp [] ⟨[146],yO1,[9],[.one (zqi)],[]⟩ (.r 0 (.nd [] (.r 0 (.jn ⟨[146],yO1,[],[],[]⟩ [] .no [] .no)) [] .no)))) [] .no)) (kit.c (k4n.c (k5i.c c0))) (Q:=∀(p0 p1:Int) (p2:Li),(p0=18446744069414584321/\U64 p1/\Us p2/\p2.length<=1099511627776)->∀r0:wAS,absS p1 p2=r0-> 
((wAB.mk p0).P=18446744069414584321/\U64 p1/\U64 (65536:Int))/\let r1:Int:=(p1*(65536:Int)%18446744069414584321)
((wAB.mk p0).P=18446744069414584321/\U64 r1/\U64 (u64.wrap (p2.length:Int)))/\let r2:Int:=((r1+(u64.wrap (p2.length:Int)))%18446744069414584321)
(((p2.length:Int)==0)=true->
(p0=18446744069414584321/\S3 (wAS.mk 0 0 r2))/\(permS (wAS.mk 0 0 r2)).a0=r0.a0/\(permS (wAS.mk 0 0 r2)).a1=r0.a1/\(permS (wAS.mk 0 0 r2)).a2=r0.a2)/\
(((p2.length:Int)==0)=false->
 ∃(I1:Int->Int->Int->Int->Prop) (M1:Int->Int->Int->Int->Nat),I1 0 0 0 r2/\∀b1 f1 i1 k1,(I1 b1 f1 i1 k1->
(decide (b1<(p2.length:Int))=true->
(0<=b1)/\b1<(p2.length:Int)/\((wAB.mk p0).P=18446744069414584321/\U64 f1/\U64 (ix p2 b1))/\let r3:Int:=((f1+(ix p2 b1))%18446744069414584321)
 ∀J1:Int->Int->Int->Prop,(∀(l1 m1 n1:Int),
((p0=18446744069414584321/\S3 (wAS.mk l1 m1 n1))/\I1 (i64.wrap (b1+2)) ((permS (wAS.mk l1 m1 n1)).a0) ((permS (wAS.mk l1 m1 n1)).a1) ((permS (wAS.mk l1 m1 n1)).a2)/\M1 (i64.wrap (b1+2)) ((permS (wAS.mk l1 m1 n1)).a0) ((permS (wAS.mk l1 m1 n1)).a1) ((permS (wAS.mk l1 m1 n1)).a2)<M1 b1 f1 i1 k1)->J1 l1 m1 n1)->
 let v4:Bool:=decide ((i64.wrap (b1+1))<(p2.length:Int))
(v4=true->
(0<=i64.wrap (b1+1))/\i64.wrap (b1+1)<(p2.length:Int)/\((wAB.mk p0).P=18446744069414584321/\U64 i1/\U64 (ix p2 (i64.wrap (b1+1))))/\let r5:Int:=((i1+(ix p2 (i64.wrap (b1+1))))%18446744069414584321)
 J1 r3 r5 k1)/\
(v4=false->
 J1 r3 i1 k1))/\
(decide (b1<(p2.length:Int))=false->
 f1=r0.a0/\i1=r0.a1/\k1=r0.a2))))<|by
 rintro p0 p1 p2 h _ rfl;obtain⟨hP,h1,h2,h3⟩:=h;subst hP;have hp:∀s:wAS,S3 (permS s):=fun s=>by show S3 (rnd _ _);unfold rnd mixS S3;dsimp only;omega
 have hi:S3 (absI p1 p2):=by unfold absI S3;dsimp only;omega
 have e:u64.wrap (p2.length:Int)=p2.length:=wu _ qqo qqo;have em:(p1*65536%18446744069414584321+(p2.length:Int))%18446744069414584321=(absI p1 p2).a2:=rfl;rw[e];refine⟨⟨rfl,h1,by omega⟩,⟨rfl,by omega,by omega⟩,fun h=> ?_,fun h=> ?_⟩
 ·have h:p2=[]:=by simpa using h
  refine⟨⟨rfl,?_⟩,?_⟩
  ·exact hi
  ·have:permS ⟨0,0,(p1*65536%18446744069414584321+(p2.length:Int))%18446744069414584321⟩=absS p1 p2:=by unfold absS;rw[qi h];rfl
   rw[this];exact⟨rfl,rfl,rfl⟩
 ·have h:p2≠[]:=by simpa using h
  have hv:absL p2 (absI p1 p2)=absS p1 p2:=by unfold absS;rw[qf h]
  rw[em];refine⟨fun i a b c=>0<=i/\i<=p2.length+1/\absL (p2.drop i.toNat) ⟨a,b,c⟩=absS p1 p2/\S3 ⟨a,b,c⟩,fun i _ _ _=>(p2.length+2-i).toNat,⟨by omega,by omega,hv,hi⟩,?_⟩;rintro i a b c ⟨g0,g1,g2,g3⟩;obtain⟨h3a,h3b,h3c⟩:=g3;refine⟨fun hh=> ?_,fun hh=> ?_⟩
  ·have hh:=qb hh;have hx:=h2 _ (ix_mem p2 i g0 hh);refine⟨g0,hh,⟨rfl,h3a,hx⟩,fun J1 j=> ?_⟩;rw[wi (i+1) qqo qqo];have fin:∀x y z,S3 ⟨x,y,z⟩->absL (p2.drop (i+2).toNat) (permS ⟨x,y,z⟩)=absS p1 p2->J1 x y z:=by intro x y z hS hv';refine j _ _ _ ?_;rw[wi (i+2) qqo qqo];exact⟨⟨rfl,hS⟩,⟨by omega,by omega,hv',hp _⟩,by(dsimp only;omega)⟩
   have hdrop:=drop_ix p2 i g0 hh;rw[hdrop]at g2;refine⟨fun h5=> ?_,fun h5=> ?_⟩
   ·have h5:=qb h5;have hy:=h2 _ (ix_mem p2 (i+1) qqo h5);rw[drop_ix p2 (i+1) qqo h5,show i+1+1=i+2 by omega]at g2;exact⟨by omega,h5,⟨rfl,h3b,hy⟩,fin _ _ _ (S3m qqo qqo h3c) g2⟩
   ·have h5:=qc h5;have ed:p2.drop (i+1).toNat=[]:=qav qqo;have ed2:p2.drop (i+2).toNat=[]:=qav qqo;rw[ed]at g2;exact fin _ _ _ (S3m qqo h3b h3c) (by rw[ed2];exact g2)
  ·have hh:=qc hh;rw[qav qqo]at g2;have g2:(⟨a,b,c⟩:wAS)=absS p1 p2:=g2;rw[<-g2];exact⟨rfl,rfl,rfl⟩
noncomputable def ke1:Con TB.den:= .gp 161 [yqu,yqu,.sl yqu] [yqu] [] fun(p0 p1:Int) (p2:Li)=>(p0=18446744069414584321/\U64 p1/\Us p2/\p2.length<=1099511627776,(hashS p1 p2:Int),())
theorem ky:ke1.Ok Tryz.prog TB:=qrv Bs Tryz.func161 .no (k1e.c (kb0.c c0)) (Q:=∀(p0 p1:Int) (p2:Li),(p0=18446744069414584321/\U64 p1/\Us p2/\p2.length<=1099511627776)->∀r0:Int,hashS p1 p2=r0-> 
((wAB.mk p0).P=18446744069414584321)/\((!true)=true->
 0=r0)/\
((!true)=false->
(p0=18446744069414584321/\U64 p1/\Us p2/\p2.length<=1099511627776)/\(absS p1 p2).a0=r0))<|by rintro p0 p1 p2 h _ rfl;obtain⟨hP,h1,h2,h3⟩:=h;subst hP;exact⟨rfl,fun h=>by simp at h,fun _=>⟨⟨rfl,h1,h2,h3⟩,rfl⟩⟩
noncomputable def kah:Con TB.den:= .gp 109 [yqu,yqu] [yqu] [] fun(p0 p1:Int)=>(U64 p0/\U64 p1,(hashS 6 [p0,p1]:Int),())
theorem k1t:kah.Ok Tryz.prog TB:=qrv Bs Tryz.func109 .no (ky.c c0) (Q:=∀(p0 p1:Int),(U64 p0/\U64 p1)->∀r0:Int,(hashS 6 [p0,p1])=r0-> 
((18446744069414584321:Int)=18446744069414584321/\U64 (6:Int)/\Us [p0,p1]/\[p0,p1].length<=1099511627776)/\(hashS (6:Int) [p0,p1])=r0)<|by
 rintro p0 p1 h _ rfl;refine⟨⟨rfl,by decide,?_,by simp⟩,rfl⟩;intro x hx;simp only[qak,qet,or_false]at hx;rcases hx with rfl|rfl
 ·exact h.1
 ·exact h.2
noncomputable def kby:Con TB.den:= .g ⟨72,[.one (zql)],[],(.one (.one (.row 0))),[.vec yqu],false⟩ [.sl yqu] [.sl yqu] [] fun(p0:Li)=>(p0.length<=4294967295,p0,())
theorem k2y:kby.Ok Tryz.prog TB:=prx Bs [5,7] Tryz.func72 (.r 0 (.nd [] (.r 0 (.nd [] (.r 0 (.rt [.rnil 2 yqu])) [] .no)) [] .no)) x0 c0 (Q:=∀(p0:Li),(p0.length<=4294967295)->∀e0:Li,p0=e0-> 
 ∀z4:Bool,(z4=true->p0=[])->(z4=true->
(0=([]:Li).length)/\([]:Li)=e0)/\
(z4=false->
 lz ([]:Li)/\(([]:Li).length+p0.length)*8<=140737488355328/\([]:Li).length+p0.length<=maxLen/\lz (([]:Li)++p0)/\([]:Li)++p0=e0))<|by rintro p0 h _ rfl;exact fun z hz=>⟨fun h=>⟨rfl,(hz h).symm⟩,fun h=>⟨rfl,by simp;omega,by simp;unfold maxLen;omega,rfl,rfl⟩⟩
noncomputable def k85:Con TB.den:= .gp 166 [.st 6,yqu] [.st 6,yqi] [] fun(p0:wG) (p1:Int)=>(FV p0/\p0.wd<((2^p0.wB.toNat:Nat):Int)/\0<=p1/\p1<18446744069414584321,(apF p0 p1:wG),(0:Int),())
theorem k89:k85.Ok Tryz.prog TB:=qrv Bs Tryz.func166 (.r 0 (.nd [] (.jn ⟨[],[],[15],[.one (.d (.bool))],[]⟩ [] .no [] .no) [] (.r 2 (.nd [] (.lp [] ⟨[98],[.vec yqu],[7,8],[.one (zqi),.one (zqu)],[]⟩ .no) [] (.r 1 (.rt [.frzc 98 1 2])))))) (k3u.c (k2y.c (k1t.c c0))) (Q:=∀(p0:wG) (p1:Int),(FV p0/\p0.wd<((2^p0.wB.toNat:Nat):Int)/\0<=p1/\p1<18446744069414584321)->∀r0:wG,apF p0 p1=r0->∀r1:Int,(0:Int)=r1-> 
 ∀J1:Bool->Prop,(∀(b1:Bool),
((b1=true->
 0=r0.wB/\0=r0.wd/\([]:Li)=r0.wg/\1=r1)/\
(b1=false->
(0<=p0.wB)/\((p0.wd==(ishl .i64 1 p0.wB))=true->
 0=r0.wB/\0=r0.wd/\([]:Li)=r0.wg/\16=r1)/\
((p0.wd==(ishl .i64 1 p0.wB))=false->
(p0.wg.length<=4294967295)/\∃(I1:Int->Int->(Li)->Prop) (M1:Int->Int->(Li)->Nat),I1 0 p1 p0.wg/\∀f1 i1 k1,(I1 f1 i1 k1->
(0<=f1)/\let v2:Bool:=((iand .i64 (ishr .i64 p0.wd f1) 1)==1)
(v2=true->
(0<=f1/\f1<(p0.wg.length:Int))/\(0<=f1/\f1<(k1.length:Int))/\(U64 (ix k1 f1)/\U64 i1)/\(0<=f1/\f1<(p0.wg.length:Int))/\(0<=f1/\f1<(k1.length:Int))/\I1 (i64.wrap (f1+1)) (hashS 6 [(ix k1 f1),i1]) (k1.set f1.toNat 0)/\M1 (i64.wrap (f1+1)) (hashS 6 [(ix k1 f1),i1]) (k1.set f1.toNat 0)<M1 f1 i1 k1)/\
(v2=false->
(0<=f1/\f1<(p0.wg.length:Int))/\(0<=f1/\f1<(k1.length:Int))/\(p0.wg.length=(k1.set f1.toNat i1).length)/\p0.wB=r0.wB/\i64.wrap (p0.wd+1)=r0.wd/\k1.set f1.toNat i1=r0.wg/\0=r1)))))->J1 b1)->
(FV p0)/\((!true)=true->
 J1 true)/\
((!true)=false->
 J1 (decide (18446744069414584321<=p1))))<|by
 rintro p0 p1 h _ rfl _ rfl;obtain⟨hv,hc,hx0,hx1⟩:=h;obtain⟨d1,d2,c0,c1,ll,u,z⟩:=id hv;obtain⟨d,hd⟩:=qo (show 0<=p0.wB by omega);obtain⟨n,hn⟩:=qo c0;have hdn:p0.wB.toNat=d:=by omega
 have hp:=pow12 d qqo;rw[hdn]at c1 ll hc;have hnd:n<2^d:=by omega
 have hbd:=kla hnd;refine fun J1 j=>⟨hv,fun e=>(by cases e),fun _=> ?_⟩;refine j _ ⟨fun e=>(by have:=qb e;omega),fun _=>⟨by omega,?_⟩⟩;rw[hd,shl1 d qqo,hn];have hne:¬(n:Int)=((2^d:Nat):Int):=by omega
 refine⟨fun e=>(hne (by simpa using e)).elim,fun _=>⟨by omega,?_⟩⟩;refine⟨fun a x g=>∃i:Nat,a=(i:Int)/\i<=d/\g.length=d+1/\(∀y∈g,0<=y/\y<18446744069414584321)/\(0<=x/\x<18446744069414584321)/\carry (d+1-i) i g x n=carry (d+1) 0 p0.wg p1 n,fun a _ _=>(d-a).toNat,⟨0,rfl,by omega,ll,u,⟨hx0,hx1⟩,rfl⟩,?_⟩;rintro _ x g ⟨i,rfl,hi,hgl,hgu,hx,hcy⟩;have hs:i<g.length:=by omega
 have hgx:=hgu _ (qal hs);generalize hR:carry (d+1) 0 p0.wg p1 n=R at hcy;rw[show d+1-i=d-i+1 by omega]at hcy;unfold carry at hcy;have hbit:=bit1 n i qqo qqo;refine⟨by omega,fun e=> ?_,fun e=> ?_⟩
 ·have e2:((n/2^i%2:Nat):Int)=1:=by rw[hbit]at e;simpa using e
  have hb:bitN n i=true:=by unfold bitN;generalize n/2^i%2=q at *;simp;omega
  have hid:i<d:=by
   rcases qaw i d with h1|h1
   ·exact h1
   ·have:i=d:=by omega
    subst this;rw[hbd]at hb;cases hb
  rw[qi hb]at hcy;rw[inc_i64 _ qqo,qt];refine⟨⟨by omega,by omega⟩,⟨by omega,by omega⟩,?_,⟨by omega,by omega⟩,⟨by omega,by omega⟩,⟨i+1,rfl,by omega,by simp[hgl],?_,⟨(kj _ _).1,k4e _ _⟩,?_⟩,by(dsimp only;omega)⟩
  ·rw[ix_get _ _ hs];exact⟨⟨hgx.1,by omega⟩,hx.1,by omega⟩
  ·intro y hy;rcases qfr hy with hy|rfl
   ·exact hgu y hy
   ·decide
  ·rw[show d+1-(i+1)=d-i by omega];exact hcy
 ·have e2:¬((n/2^i%2:Nat):Int)=1:=by rw[hbit]at e;simpa using e
  have hb:¬bitN n i=true:=by unfold bitN;generalize n/2^i%2=q at *;simp;omega
  rw[qf hb]at hcy;rw[qt];refine⟨⟨by omega,by omega⟩,⟨by omega,by omega⟩,by simp;omega,hd.symm,?_,?_,by first|exact rfl|exact qn⟩
  ·rw[inc_i64 _ qqo];show _=p0.wd+1;omega
  ·show _=carry (p0.wB.toNat+1) 0 p0.wg p1 p0.wd.toNat;rw[hdn,hn,qt,hR];exact hcy
noncomputable def k8q:Con TB.den:= .gp 168 [yqu,yqu] [.bool] [] fun(p0 p1:Int)=>(0<=p0/\p0<=9223372036854775807,(decide (9223372036854775807-p0<p1):Bool),())
theorem ka7:k8q.Ok Tryz.prog TB:=qrv Bs Tryz.func168 .no c0 (Q:=∀(p0 p1:Int),(0<=p0/\p0<=9223372036854775807)->∀r0:Bool,(decide (9223372036854775807-p0<p1))=r0-> 
(decide (9223372036854775807<p0)=true->
 true=r0)/\
(decide (9223372036854775807<p0)=false->
 let v1:Int:=u64.wrap (9223372036854775807-p0)
 decide (v1<p1)=r0))<|by
 rintro p0 p1 h _ rfl;refine⟨fun e=> ?_,fun e=> ?_⟩
 ·have:=qb e;omega
 ·rw[wrap_u64 _ qqo qqo]
noncomputable def ka9:Con TB.den:= .gp 112 [.st 17,yqu,yqu] [.st 17,yqi] [] fun(p0:wm) (p1 p2:Int)=>(OkA p0.wF/\U64 p2,(wm.mk (creditA p0.wF p1 p2).1:wm),((creditA p0.wF p1 p2).2:Int),())
theorem k44:ka9.Ok Tryz.prog TB:=qrv Bs Tryz.func112 .no (k7q.c (ka7.c (k7n.c c0))) (Q:=∀(p0:wm) (p1 p2:Int),(OkA p0.wF/\U64 p2)->∀r0:wm,(wm.mk (creditA p0.wF p1 p2).1)=r0->∀r1:Int,((creditA p0.wF p1 p2).2)=r1-> 
(Srt p0.wF/\p0.wF.length<4611686018427387904)/\(0<=((getA p0.wF p1).wa)/\((getA p0.wF p1).wa)<=9223372036854775807)/\let r2:Bool:=(decide (9223372036854775807-((getA p0.wF p1).wa)<p2))
(r2=true->
([]:List wA)=r0.wF/\1=r1)/\
(r2=false->
 let v3:Int:=u64.wrap (((getA p0.wF p1).wa)+p2)
(Srt p0.wF/\p0.wF.length<=1000)/\let r4:List wA:=(putA p0.wF (wA.mk p1 v3 ((getA p0.wF p1).wY)))
 r4=r0.wF/\0=r1))<|by
 rintro p0 p1 p2 h _ rfl _ rfl;obtain⟨h,ha,ha'⟩:=h;obtain⟨g1,g2⟩:=getA_ok h p1;refine⟨⟨h.1,by have:=h.2.1;omega⟩,g1,fun hh=> ?_,fun hh=> ?_⟩
 ·have:=qb hh;simp[creditA,this]
 ·have:=qc hh;simp only[creditA,qf this];rw[wrap_u64 _ qqo qqo];exact⟨⟨h.1,h.2.1⟩,rfl,by first|exact rfl|exact qn⟩
end Go.Proofs.YtcghahkoioeddaaGreatDoor
end
