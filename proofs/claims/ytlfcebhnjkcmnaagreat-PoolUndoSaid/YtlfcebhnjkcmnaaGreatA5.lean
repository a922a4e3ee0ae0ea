/-
  Parts of the proofs that the laws of this seat hold of every input, merged by a program: a machine over pure data that is sound for the model, what each function of the translation does in it, and plain lemmas. No conditions but those in each theorem.
-/
import Derived.Test.YtlfcebhnjkcmnaaGreatA4
set_option linter.all false
set_option maxRecDepth 100000
noncomputable section
namespace Go.Proofs.YtlfcebhnjkcmnaaGreat
open Go Go.Bv Go.Cv Go.Md Go.RowKit
open Go.IntKind (i64 u64)
def nd (a b:Int):Int:=hashS 6 [a,b]
def emp:Nat->Int
 |0=>hashS 6 []
 |i+1=>nd (emp i) (emp i)
theorem emp_u (i:Nat):U64 (emp i):=by cases i<;>exact k3v _ _
theorem emp_lt (i:Nat):emp i<18446744069414584321:=by cases i<;>exact k4q _ _
theorem gD_lt {l:List Int} {i:Nat} {z:Int} (h:i<l.length):l.getD i z=l[i]:=by simp[h]
theorem gD_ge {l:List Int} {i:Nat} {z:Int} (h:l.length<=i):l.getD i z=z:=by simp[h]
def lf (l:List Int) (p:Nat):Int:=l.getD p (emp 0)
def TT (f:Nat->Int):Nat->Nat->Int
 |0,k=>f k
 |i+1,k=>nd (TT f i (2*k)) (TT f i (2*k+1))
theorem kb4 {f g:Nat->Int}:∀(i k:Nat),(∀p,k*2^i<=p->p<(k+1)*2^i->f p=g p)->TT f i k=TT g i k
 |0,k,h=>h k (by simp) (by simp)
 |i+1,k,h=>by
  have e:2^(i+1)=2*2^i:=by rw[Nat.pow_succ];omega
  rw[e]at h
  have e1:k*(2*2^i)=2*k*2^i:=by rw[<-Nat.mul_assoc,Nat.mul_comm k 2]
  have e2:(k+1)*(2*2^i)=(2*k+1+1)*2^i:=by rw[<-Nat.mul_assoc];congr 1;omega
  have e3:(2*k+1)*2^i=2*k*2^i+2^i:=by rw[Nat.add_mul,Nat.one_mul]
  have e4:(2*k+1+1)*2^i=(2*k+1)*2^i+2^i:=by rw[Nat.add_mul (2*k+1),Nat.one_mul]
  simp only[TT]
  rw[kb4 i (2*k) fun p h1 h2=>h p (by omega) (by omega),kb4 i (2*k+1) fun p h1 h2=>h p (by omega) (by omega)]
theorem TT_emp {l:List Int}:∀(i k:Nat),l.length<=k*2^i->TT (lf l) i k=emp i
 |0,k,h=>by simp only[TT,lf];rw[gD_ge (by simpa using h)]
 |i+1,k,h=>by
  have e1:k*2^(i+1)=2*k*2^i:=by rw[Nat.pow_succ,Nat.mul_comm (2^i) 2,<-Nat.mul_assoc,Nat.mul_comm k 2]
  have e3:(2*k+1)*2^i=2*k*2^i+2^i:=by rw[Nat.add_mul,Nat.one_mul]
  have:=Nat.two_pow_pos i
  simp only[TT,emp]
  rw[TT_emp i (2*k) (by omega),TT_emp i (2*k+1) (by omega)]
theorem TT_r {l:List Int} (hl:∀x∈l,0<=x/\x<18446744069414584321):∀(i k:Nat),0<=TT (lf l) i k/\TT (lf l) i k<18446744069414584321
 |0,k=>by
  simp only[TT,lf]
  by_cases h:k<l.length
  ·rw[gD_lt h];exact hl _ (List.getElem_mem h)
  ·rw[gD_ge (by omega)];exact⟨(emp_u 0).1,emp_lt 0⟩
 |i+1,k=>⟨(k3v _ _).1,k4q _ _⟩
def bitN (n i:Nat):Bool:=n/2^i%2==1
def leftS (d:Nat) (l:List Int):List Int:=(List.range (d+1)).map fun i=>if bitN l.length i then TT (lf l) i (l.length/2^i-1)else 0
def frF (d:Int) (l:List Int):wE:=⟨d,l.length,leftS d.toNat l⟩
theorem k1u (d:Nat) (l:List Int):(leftS d l).length=d+1:=by simp[leftS]
theorem k2t (d:Nat) (l:List Int) (i:Nat) (h:i<(leftS d l).length):(leftS d l)[i]=if bitN l.length i then TT (lf l) i (l.length/2^i-1)else 0:=by simp[leftS]
structure FV (f:wE):Prop where
 d1:1<=f.wD
 d2:f.wD<=12
 c0:0<=f.wY
 c1:f.wY<=((2^f.wD.toNat:Nat):Int)
 ll:f.wd.length=f.wD.toNat+1
 u:∀x∈f.wd,0<=x/\x<18446744069414584321
 z:∀(i:Nat) (h:i<f.wd.length),bitN f.wY.toNat i=false->f.wd[i]=0
theorem frF_FV {d:Int} {l:List Int} (h1:1<=d) (h2:d<=12) (hl:l.length<=2^d.toNat) (hu:∀x∈l,0<=x/\x<18446744069414584321):FV (frF d l):=by
 refine⟨h1,h2,by simp[frF],by simp only[frF];omega,k1u _ _,fun x hx=> ?_,fun i h hb=> ?_⟩
 ·simp only[frF,leftS,List.mem_map]at hx
  obtain⟨i,_,rfl⟩:=hx
  split
  ·exact TT_r hu _ _
  ·decide
 ·show(leftS d.toNat l)[i]=0
  have hb:bitN l.length i=false:=by simpa[frF]using hb
  exact(k2t d.toNat l i h).trans (by rw[hb];rfl)
theorem shl1 (d:Nat) (h:d<=12):ishl .i64 1 (d:Int)=((2^d:Nat):Int):=by
 have:∀d∈List.range 13,ishl .i64 1 (d:Int)=((2^d:Nat):Int):=by decide
 exact this d (by simp;omega)
theorem pow12 (d:Nat) (h:d<=12):2^d<=4096:=by
 have:2^d<=2^12:=Nat.pow_le_pow_right (by decide) h
 omega
theorem bit1 (n i:Nat) (hn:n<=4096) (hi:i<=20):iand .i64 (ishr .i64 (n:Int) (i:Int)) 1=((n/2^i%2:Nat):Int):=by
 have e:min ((i:Int).toNat) i64.bits=i:=by
  rw[Int.toNat_natCast]
  exact Nat.min_eq_left (Nat.le_trans hi (by decide))
 have e2:ishr .i64 (n:Int) (i:Int)=((n/2^i:Nat):Int):=by
  rw[k2r,e]
  simp
 have:=Nat.div_le_self n (2^i)
 rw[e2]
 generalize n/2^i=q at *
 rw[khv _ (by omega)]
 omega
def carry:Nat->Nat->List Int->Int->Nat->List Int
 |0,lv,L,x,_=>L.set lv x
 |k+1,lv,L,x,n=>if bitN n lv then carry k (lv+1) (L.set lv 0) (nd (ix L (lv:Int)) x) n else L.set lv x
def apF (f:wE) (x:Int):wE:=⟨f.wD,f.wY+1,carry (f.wD.toNat+1) 0 f.wd x f.wY.toNat⟩
theorem k1m (n i:Nat):n/2^(i+1)=n/2^i/2:=by rw[Nat.pow_succ,Nat.div_div_eq_div_mul]
theorem kka {n d:Nat} (h:n<2^d):bitN n d=false:=by
 unfold bitN
 rw[Nat.div_eq_of_lt h]
 rfl
theorem succ_hi {n i:Nat} (h:bitN n i=true) (hq:(n+1)/2^i=n/2^i+1):(n+1)/2^(i+1)=n/2^(i+1)+1:=by
 have h:n/2^i%2=1:=by simpa[bitN]using h
 rw[k1m,k1m,hq]
 omega
theorem succ_lo {n i:Nat} (h:bitN n i=false) (hq:(n+1)/2^i=n/2^i+1):∀j,i<j->(n+1)/2^j=n/2^j:=by
 have h:¬n/2^i%2=1:=by simpa[bitN]using h
 intro j
 induction j with
 |zero=>intro hj;omega
 |succ j ih=>
  intro hj
  rcases Nat.lt_or_ge i j with h1|h1
  ·rw[k1m,k1m,ih h1]
  ·have:j=i:=by omega
   subst this
   rw[k1m,k1m,hq]
   omega
theorem TT_app {l:List Int} {x:Int} {i k:Nat} (h:(k+1)*2^i<=l.length):TT (lf (l++[x])) i k=TT (lf l) i k:=by
 refine kb4 i k fun p _ h2=> ?_
 unfold lf
 rw[List.getD_eq_getElem?_getD,List.getD_eq_getElem?_getD,List.getElem?_append_left (by omega)]
theorem kib (d:Nat) (l:List Int) (x:Int) (hn:l.length<2^d):∀(k lv:Nat) (L:List Int) (y:Int),lv+k=d+1->L.length=d+1->
  (l.length+1)/2^lv=l.length/2^lv+1->y=TT (lf (l++[x])) lv (l.length/2^lv)->
  (∀(i:Nat) (h:i<L.length),L[i]=if i<lv then 0 else(leftS d l).getD i 0)->(∀i,i<lv->bitN (l.length+1) i=false)->carry k lv L y l.length=leftS d (l++[x])
 |0,lv,L,y,hk,hL,hq,hy,hg,hb=>by
  exfalso
  have hlv:lv=d+1:=by omega
  subst hlv
  have hp:2^(d+1)=2*2^d:=by rw[Nat.pow_succ];omega
  have h1:1<=2^d:=Nat.two_pow_pos d
  rw[hp,Nat.div_eq_of_lt (by omega),Nat.div_eq_of_lt (by omega)]at hq
  omega
 |k+1,lv,L,y,hk,hL,hq,hy,hg,hb=>by
  unfold carry
  have hlv:lv<L.length:=by omega
  by_cases hbit:bitN l.length lv=true
  ·rw[if_pos hbit]
   have hodd:l.length/2^lv%2=1:=by simpa[bitN]using hbit
   have hleft:ix L (lv:Int)=TT (lf (l++[x])) lv (2*(l.length/2^(lv+1))):=by
    have h2:lv<(leftS d l).length:=by rw[k1u];omega
    rw[ix_get _ _ hlv,hg lv hlv,if_neg (by omega),gD_lt h2,k2t,if_pos hbit]
    have e:l.length/2^lv-1=2*(l.length/2^(lv+1)):=by rw[k1m];omega
    rw[e]
    refine(TT_app ?_).symm
    have:(2*(l.length/2^(lv+1))+1)=l.length/2^lv:=by rw[k1m];omega
    rw[this]
    exact Nat.div_mul_le_self _ _
   refine kib d l x hn k (lv+1) _ _ (by omega) (by simp[hL]) (succ_hi hbit hq) ?_ (fun i h=> ?_) (fun i hi=> ?_)
   ·simp only[TT]
    rw[hleft,hy]
    have:l.length/2^lv=2*(l.length/2^(lv+1))+1:=by rw[k1m];omega
    rw[<-this]
   ·rw[List.getElem_set]
    by_cases h1:lv=i
    ·rw[if_pos h1,if_pos (by omega)]
    ·rw[if_neg h1,hg i (by simpa using h)]
     by_cases h2:i<lv
     ·rw[if_pos h2,if_pos (by omega)]
     ·rw[if_neg h2,if_neg (by omega)]
   ·rcases Nat.lt_or_ge i lv with h1|h1
    ·exact hb i h1
    ·have:i=lv:=by omega
     subst this
     unfold bitN
     rw[hq]
     have:(l.length/2^i+1)%2=0:=by omega
     rw[this]
     rfl
  ·have hbit:bitN l.length lv=false:=by simpa using hbit
   rw[if_neg (by rw[hbit];decide)]
   have hev:¬l.length/2^lv%2=1:=by simpa[bitN]using hbit
   have hlo:=succ_lo hbit hq
   apply List.ext_getElem
   ·simp[k1u,hL]
   ·intro i h1 h2
    rw[k2t,List.getElem_set,List.length_append,List.length_singleton]
    have hi:i<L.length:=by simpa using h1
    by_cases h3:lv=i
    ·subst h3
     rw[if_pos rfl,hy]
     have:bitN (l.length+1) lv=true:=by unfold bitN;rw[hq];simp;omega
     rw[if_pos this,hq]
     rfl
    ·rw[if_neg h3,hg i hi]
     rcases Nat.lt_or_ge i lv with h4|h4
     ·rw[if_pos h4,hb i h4]
      rfl
     ·have h5:lv<i:=by omega
      have hs:i<(leftS d l).length:=by rw[k1u];omega
      rw[if_neg (by omega),gD_lt hs,k2t]
      have eb:bitN (l.length+1) i=bitN l.length i:=by unfold bitN;rw[hlo i h5]
      rw[eb,hlo i h5]
      by_cases hb2:bitN l.length i=true
      ·rw[if_pos hb2,if_pos hb2]
       refine(TT_app ?_).symm
       have ho:l.length/2^i%2=1:=by simpa[bitN]using hb2
       have:l.length/2^i-1+1=l.length/2^i:=Nat.sub_add_cancel (Nat.pos_of_ne_zero fun h=>by rw[h]at ho;cases ho)
       rw[this]
       exact Nat.div_mul_le_self _ _
      ·rw[if_neg hb2,if_neg hb2]
theorem apF_frF {d:Int} {l:List Int} {x:Int} (hn:l.length<2^d.toNat):apF (frF d l) x=frF d (l++[x]):=by
 have:=kib d.toNat l x hn (d.toNat+1) 0 (leftS d.toNat l) x (by omega) (k1u _ _) (by simp) (by simp[TT,lf]) (fun i h=>by
  rw[if_neg (by omega),gD_lt h]) (fun i hi=>by omega)
 unfold apF frF
 simp only[Int.toNat_natCast]
 rw[this]
 simp
def rootGo (f:wE):Nat->Nat->Int->Int->Int
 |0,_,_,x=>x
 |k+1,lv,e,x=>rootGo f k (lv+1) (nd e e) (if bitN f.wY.toNat lv then nd (ix f.wd (lv:Int)) x else nd x e)
def rootF (f:wE):Int:=if f.wY=((2^f.wD.toNat:Nat):Int)then ix f.wd f.wD else rootGo f f.wD.toNat 0 (emp 0) (emp 0)
theorem ke4 (d:Int) (l:List Int):∀(k lv:Nat) (x:Int),lv+k=d.toNat->x=TT (lf l) lv (l.length/2^lv)->rootGo (frF d l) k lv (emp lv) x=TT (lf l) (lv+k) (l.length/2^(lv+k))
 |0,lv,x,_,hx=>hx
 |k+1,lv,x,hk,hx=>by
  unfold rootGo
  rw[show lv+(k+1)=lv+1+k by omega]
  have hc:(frF d l).wY.toNat=l.length:=by simp[frF]
  rw[hc]
  refine ke4 d l k (lv+1) _ (by omega) ?_
  have hh:=k1m l.length lv
  simp only[TT]
  by_cases hb:bitN l.length lv=true
  ·have ho:l.length/2^lv%2=1:=by simpa[bitN]using hb
   have hs:lv<(leftS d.toNat l).length:=by rw[k1u];omega
   rw[if_pos hb,show(frF d l).wd=leftS d.toNat l from rfl,ix_get _ _ hs,k2t,if_pos hb,hx]
   have e1:l.length/2^lv-1=2*(l.length/2^(lv+1)):=by omega
   have e2:l.length/2^lv=2*(l.length/2^(lv+1))+1:=by omega
   rw[e1,<-e2]
  ·have ho:¬l.length/2^lv%2=1:=by simpa[bitN]using hb
   rw[if_neg hb,hx]
   have e2:l.length/2^lv=2*(l.length/2^(lv+1)):=by omega
   rw[<-e2]
   congr 1
   refine(TT_emp lv _ ?_).symm
   have:=Nat.lt_div_mul_add (a:=l.length) (b:=2^lv) (Nat.two_pow_pos lv)
   rw[Nat.add_mul,Nat.one_mul]
   omega
theorem k3u {d:Int} {l:List Int} (h0:0<=d) (hn:l.length<=2^d.toNat):rootF (frF d l)=TT (lf l) d.toNat 0:=by
 unfold rootF
 by_cases hc:(frF d l).wY=((2^(frF d l).wD.toNat:Nat):Int)
 ·rw[if_pos hc]
  have hc:l.length=2^d.toNat:=by simp only[frF]at hc;omega
  have hs:d.toNat<(leftS d.toNat l).length:=by rw[k1u];omega
  have e:(frF d l).wD=(d.toNat:Int):=by simp only[frF];omega
  have e1:l.length/2^d.toNat=1:=by rw[hc];exact Nat.div_self (Nat.two_pow_pos _)
  have hb:bitN l.length d.toNat=true:=by unfold bitN;rw[e1];rfl
  rw[e,show(frF d l).wd=leftS d.toNat l from rfl,ix_get _ _ hs,k2t,if_pos hb,e1]
 ·rw[if_neg hc]
  have hc:l.length<2^d.toNat:=by simp only[frF]at hc;omega
  have:=ke4 d l d.toNat 0 (emp 0) (by omega) (by simp[TT,lf])
  rw[show(frF d l).wD=d from rfl,this,Nat.zero_add,Nat.div_eq_of_lt hc]
def lvl (l:List Int) (d i:Nat):List Int:=(List.range (2^(d-i))).map (TT (lf l) i)
def pairs:List Int->List Int
 |a::b::r=>nd a b::pairs r
 |_=>[]
theorem kje {l:List Int} (h:l.length<=1):pairs l=[]:=by
 match l,h with
 |[],_=>rfl
 |[_],_=>rfl
theorem kkf {l:List Int} {j:Nat} (h:j+1<l.length):pairs (l.drop j)=nd (l[j]'(by omega)) l[j+1]::pairs (l.drop (j+2)):=by
 rw[List.drop_eq_getElem_cons (show j<l.length by omega),List.drop_eq_getElem_cons (show j+1<l.length by omega)]
 rfl
theorem ka7 (f:Nat->Int):∀(n a:Nat),pairs ((List.range' a (2*n)).map f)=(List.range n).map fun k=>nd (f (a+2*k)) (f (a+2*k+1))
 |0,a=>rfl
 |n+1,a=>by
  rw[show 2*(n+1)=2*n+1+1 by omega,List.range'_succ,List.range'_succ,List.map_cons,List.map_cons,List.range_succ_eq_map,List.map_cons,List.map_map]
  rw[pairs,ka7 f n (a+1+1),Nat.mul_zero,Nat.add_zero]
  refine congrArg (List.cons _) (List.map_congr_left fun k _=> ?_)
  simp only[Function.comp,Nat.succ_eq_add_one]
  rw[show a+1+1+2*k=a+2*(k+1)by omega]
theorem klt {l:List Int} {d i:Nat} (h:i<d):pairs (lvl l d i)=lvl l d (i+1):=by
 unfold lvl
 have e:2^(d-i)=2*2^(d-(i+1)):=by
  rw[show d-i=d-(i+1)+1 by omega,Nat.pow_succ];omega
 rw[e,List.range_eq_range',ka7]
 refine List.map_congr_left fun k _=> ?_
 simp only[TT,Nat.zero_add]
theorem lvl_len (l:List Int) (d i:Nat):(lvl l d i).length=2^(d-i):=by simp[lvl]
theorem lvl_u {l:List Int} (hl:∀x∈l,0<=x/\x<18446744069414584321) (d i:Nat):∀x∈lvl l d i,0<=x/\x<18446744069414584321:=by
 intro x hx
 obtain⟨k,_,rfl⟩:=List.mem_map.1 hx
 exact TT_r hl _ _
theorem km6 {l:List Int} {d:Nat} (h:l.length<=2^d):l++List.replicate (2^d-l.length) (emp 0)=lvl l d 0:=by
 apply List.ext_getElem
 ·simp[lvl_len];omega
 ·intro i h1 h2
  simp only[lvl,List.getElem_map,List.getElem_range,TT,lf]
  by_cases hi:i<l.length
  ·rw[List.getElem_append_left hi,gD_lt hi]
  ·rw[List.getElem_append_right (by omega),gD_ge (by omega),List.getElem_replicate]
def trs (k:List Int):List Bool:=List.replicate k.length true
theorem k77 {m:Int}:∀{k:List Int},(mIdx (BEq.beq m) k).isSome=decide (m∈k)
 |[]=>rfl
 |x::r=>by
  unfold mIdx
  by_cases h:m=x
  ·subst h;simp
  ·have:BEq.beq m x=false:=by simpa using h
   rw[this,cond_false,Option.isSome_map,k77]
   simp[h]
theorem sVal (k:List Int) (m:Int):mVal (BEq.beq m) k (trs k) false=decide (m∈k):=by
 rw[<-k77]
 unfold mVal
 cases h:mIdx (BEq.beq m) k with
 |none=>rfl
 |some j=>simp[trs,mIdx_lt h]
theorem sPut {k:List Int} {m:Int} (h:m∉k):mPutK (BEq.beq m) k m=k++[m]/\mPutV (BEq.beq m) k (trs k) true=trs (k++[m]):=by
 have:mIdx (BEq.beq m) k=none:=by
  have:=k77 (m:=m) (k:=k)
  rw[decide_eq_false h]at this
  cases hq:mIdx (BEq.beq m) k with
  |none=>rfl
  |some j=>rw[hq]at this;cases this
 unfold mPutK mPutV
 rw[this]
 exact⟨rfl,by simp[trs,List.replicate_succ']⟩
theorem k6n {m:Int}:∀{k:List Int} {j:Nat},mIdx (BEq.beq m) k=some j->k.eraseIdx j=k.erase m
 |x::r,j,h=>by
  unfold mIdx at h
  by_cases e:m=x
  ·subst e
   simp at h
   subst h
   simp
  ·have e2:BEq.beq m x=false:=by simpa using e
   rw[e2,cond_false]at h
   cases hq:mIdx (BEq.beq m) r with
   |none=>rw[hq]at h;cases h
   |some i=>
    rw[hq]at h
    simp at h
    subst h
    rw[List.eraseIdx_cons_succ,k6n hq,List.erase_cons_tail (by simpa using fun h=>e h.symm)]
theorem sDel (k:List Int) (m:Int):mDelK (BEq.beq m) k=k.erase m/\mDelV (BEq.beq m) k (trs k)=trs (k.erase m):=by
 unfold mDelK mDelV
 cases h:mIdx (BEq.beq m) k with
 |none=>
  have h2:m∉k:=by
   have:=k77 (m:=m) (k:=k)
   rw[h]at this
   simpa using this.symm
  rw[List.erase_of_not_mem h2]
  exact⟨rfl,rfl⟩
 |some j=>
  refine⟨k6n h,?_⟩
  have hj:=mIdx_lt h
  rw[<-k6n h]
  unfold trs
  refine List.eq_replicate_iff.2 ⟨?_,fun b hb=> ?_⟩
  ·simp[List.length_eraseIdx]
  ·exact(List.eq_replicate_iff.1 rfl).2 b (List.mem_of_mem_eraseIdx hb)
def addS (l k:List Int):Int×List Int:=if(l.any fun m=>decide (m∈k))|| !decide l.Nodup then(12,k)else(0,k++l)
def remS (l k:List Int):Int×List Int:=if(l.any fun m=> !decide (m∈k))|| !decide l.Nodup then(4,k)else(0,l.foldl List.erase k)
theorem kl4 {m:Int} {k r:List Int} (h:m∉k):(k++m::r).erase m=k++r:=by
 rw[List.erase_append_right _ h,List.erase_cons_head]
theorem rem_add:∀{l k:List Int},(k++l).Nodup->l.foldl List.erase (k++l)=k
 |[],k,_=>by simp
 |m::r,k,h=>by
  have h1:m∉k:=fun hm=>by
   rw[List.nodup_append]at h
   exact h.2.2 m hm m (by simp) rfl
  rw[List.foldl_cons,kl4 h1]
  refine rem_add ?_
  rw[List.nodup_append]at h ⊢
  refine⟨h.1,(List.nodup_cons.1 h.2.1).2,fun a ha b hb=>h.2.2 a ha b (by simp[hb])⟩
theorem kl8 {l m:List Int} (h:l.Perm m):srt l=srt m:=srt_eq ((k1x l).trans h) (k38 l)
theorem kmk (k:List Int) (x:Int):srt (k++[x])=insI x (srt k):=
 (srt_eq ((k40 x (srt k)).trans (((k1x k).cons x).trans (List.perm_append_singleton x k).symm)) (k69 x _ (k38 k))).symm
theorem srt_app (k:List Int):∀l:List Int,srt (k++l)=l.foldl (fun a x=>insI x a) (srt k)
 |[]=>by simp
 |x::r=>by
  rw[List.foldl_cons,<-kmk,<-srt_app (k++[x]) r,List.append_assoc]
  rfl
def pws (n:Nat) (z b:Int):Bool:=(List.range n).any fun j=>b==z*((2^j:Nat):Int)
def prS (p:wAH):Bool:=pws 8 2 p.wAT&&pws 4 1 p.wAN&&decide (1<=p.wAS)&&decide (p.wAS<=64)
def rulesB (p:wF):Bool:=decide (1<=p.wm)&&decide (p.wm<=3)&&decide (1<=p.wD)&&decide (p.wD<=12)&&decide (1<=p.wU)&&decide (p.wU<=100)&&decide (1<=p.wO)&&decide (p.wO<=1048576)&&decide (p.wP<=4294967296)&&decide (1<=p.wh)&&decide (p.wh<=65536)
def rulesE (p:wF):Int:=if rulesB p then(if p.wm=1 then(if prS ⟨p.wJ,p.wI,p.wG⟩then 0 else 1)else 0)else 1
theorem pws_and (b:Nat) (h:2<=b/\b<=256):(iand .i64 (b:Int) (((b:Int))-1)==0)=pws 8 2 b:=by
 have:∀b∈List.range' 2 255,(iand .i64 ((b:Nat):Int) (((b:Nat):Int)-1)==0)=pws 8 2 ((b:Nat):Int):=by decide +kernel
 exact this b (by rw[List.mem_range'_1];omega)
theorem kew {n:Nat} {z b:Int} (h:pws n z b=true) (hz:0<z):z<=b/\b<=z*((2^(n-1):Nat):Int):=by
 obtain⟨j,hj,e⟩:=List.any_eq_true.1 h
 have hj:j<n:=by simpa using hj
 have e:b=z*((2^j:Nat):Int):=by simpa using e
 have h1:1<=2^j:=Nat.two_pow_pos j
 have h2:2^j<=2^(n-1):=Nat.pow_le_pow_right (by decide) (by omega)
 rw[e]
 constructor
 ·have:=Int.mul_le_mul_of_nonneg_left (show(1:Int)<=((2^j:Nat):Int)by omega) (show 0<=z by omega)
  omega
 ·exact Int.mul_le_mul_of_nonneg_left (by omega) (by omega)
theorem k78 (n:Nat) (z b:Int):pws (n+1) z b=(pws n z b||b==z*((2^n:Nat):Int)):=by simp[pws,List.range_succ]
theorem kbp:∀{l:List Int} {j:Nat} (h:j<l.length),([l[j]]++l.eraseIdx j).Perm l
 |x::r,0,_=>List.Perm.refl _
 |x::r,j+1,h=>by
  rw[List.eraseIdx_cons_succ,List.getElem_cons_succ]
  exact(List.Perm.swap x _ _).trans ((kbp (l:=r) (j:=j) (by simpa using h)).cons x)
structure PS where
 R:wF
 F:wE
 b:List wA
 n:Int
 l:List Int
 r:List Int
 p:List wN
 k:List Int
 v:List Bool
def ancL (r:List Int) (w:Int):List Int:=r.drop (r.length-w.toNat)
def chk (h:Int) (anc k:List Int) (b:List wA) (n:Int) (ll:Nat) (d:Int) (t:wo):Int:=
 if validE t≠0 then validE t else if t.wAC<h+1 then 14 else if t.wAE∉anc then 11 else if t.wC.any (fun m=>decide (m∈k))=true then 12
 else if 0<t.wM/\(debitA b t.wZ t.wM t.wL).2≠0 then(debitA b t.wZ t.wM t.wL).2
 else if u64.wrap (n+t.wM)<u64.wrap (t.wQ+t.Fee)then 13 else if 2^d.toNat<ll+t.wH.length then 16 else 0
def chkS (s:PS) (t:wo):Int:=chk (s.p.length:Int) (ancL s.r s.R.wU) s.k s.b s.n s.l.length s.R.wD t
def outsF (F:wE) (o:List wAR):wE:=o.foldl (fun f x=>apF f x.wn) F
def depA (b:List wA) (t:wo):List wA:=if 0<t.wM then(debitA b t.wZ t.wM t.wL).1 else b
def wdA (b:List wA) (t:wo):List wA×Int:=if 0<t.wQ then creditA (depA b t) t.wZ t.wQ else(depA b t,0)
def hidN (n:Int) (t:wo):Int:=u64.wrap (u64.wrap (u64.wrap (n+t.wM)-t.wQ)-t.Fee)
structure PE where
 e:Int
 s:PS
def perfS (s:PS) (t:wo):PE:=
 if(wdA s.b t).2≠0 then⟨(wdA s.b t).2,{s with F:=outsF s.F t.wH,l:=s.l++t.wH.map (·.wn),k:=s.k++t.wC,v:=trs (s.k++t.wC),b:=depA s.b t}⟩
 else⟨0,{s with F:=outsF s.F t.wH,l:=s.l++t.wH.map (·.wn),k:=s.k++t.wC,v:=trs (s.k++t.wC),b:=(wdA s.b t).1,n:=hidN s.n t}⟩
structure PB where
 e:Int
 s:PS
 m:List Int
 f:Int
def blkGo:List wo->PS->List Int->Int->PB
 |[],s,m,f=>⟨0,s,m,f⟩
 | t::r,s,m,f=>if chkS s t≠0 then⟨chkS s t,s,m,f⟩else if(perfS s t).e≠0 then⟨(perfS s t).e,(perfS s t).s,m++t.wC,f⟩
   else blkGo r (perfS s t).s (m++t.wC) (u64.wrap (f+t.Fee))
def crB (x:PB) (b:wV):List wA×Int:=creditA x.s.b b.wAM (u64.wrap (x.s.R.wP+x.f))
def blkS (s:PS) (m:List Int) (b:wV):PB:=
 if(blkGo b.Txs s m 0).e≠0 then blkGo b.Txs s m 0
 else if(crB (blkGo b.Txs s m 0) b).2≠0 then {blkGo b.Txs s m 0 with e:=(crB (blkGo b.Txs s m 0) b).2}
 else {blkGo b.Txs s m 0 with e:=0,s:={(blkGo b.Txs s m 0).s with b:=(crB (blkGo b.Txs s m 0) b).1}}
def befS (s:PS) (m:List Int):wN:=⟨s.F.wD,s.F.wY,s.F.wd,s.l.length,m,s.b,s.n⟩
def applyS (s:PS) (b:wV):PE:=
 if b.wS≠(s.p.length:Int)+1 then⟨18,s⟩else if 18446744069414584321<=b.wAM then⟨1,s⟩else
 if(blkS s [] b).e≠0 then⟨(blkS s [] b).e,s⟩
 else⟨0,{(blkS s [] b).s with p:=s.p++[befS s (blkS s [] b).m],r:=s.r++[rootF (blkS s [] b).s.F]}⟩
def resS (s:PS) (q:wN):PS:={s with F:=⟨q.wAV,q.wAU,q.wAX⟩,b:=q.wAQ,n:=q.hidden,l:=s.l.take q.leaves.toNat,k:=(remS q.marks s.k).2,v:=trs (remS q.marks s.k).2}
def undoS (s:PS):PS:=if s.p=[]then s else {resS s (ix s.p ((s.p.length:Int)-1))with p:=s.p.take (s.p.length-1),r:=s.r.take (s.r.length-1)}
def newS (r:wF):PS:=⟨r,frF r.wD [],[],0,[],[rootF (frF r.wD [])],[],[],[]⟩
def BG (l:List Int):Prop:=∀x∈l,0<=x/\x<18446744069414584321
def sumA (l:List wA):Int:=(l.map (·.wR)).sum
structure PI (s:PS) (c:Nat) (f:Int):Prop where
 d1:1<=s.R.wD
 d2:s.R.wD<=12
 w1:1<=s.R.wU
 w2:s.R.wU<=100
 rw:0<=s.R.wP/\s.R.wP<=4294967296
 F:s.F=frF s.R.wD s.l
 ll:s.l.length<=2^s.R.wD.toNat
 l:BG s.l
 b:GoodA c s.b
 n:0<=s.n
 ff:0<=f
 sup:sumA s.b+s.n+f=(s.p.length:Int)*s.R.wP
 r:BG s.r
 rl:s.r.length=s.p.length+1
 p:s.p.length<=c
 kn:s.k.Nodup
 kb:BG s.k
 kl:s.k.length<=4*c
 v:s.v=trs s.k
theorem sum_app (a b:List wA):sumA (a++b)=sumA a+sumA b:=by simp[sumA]
theorem sumA_nn {l:List wA} (h:∀a∈l,0<=a.wR):0<=sumA l:=by
 induction l with
 |nil=>exact Int.le_refl _
 |cons a l ih=>
  have h1:=h a (by simp)
  have h2:=ih fun x hx=>h x (by simp[hx])
  have:sumA (a::l)=a.wR+sumA l:=by simp[sumA]
  omega
theorem sum_put {l:List wA} {x:wA} (hs:Srt l):sumA (putA l x)=sumA l-(getA l x.ID).wR+x.wR:=by
 obtain⟨a,m,b,h⟩:=spl_of hs x.ID
 rw[put_spl hs h,get_spl h,h.1]
 have e1:sumA (if x.wR≠0∨x.wL≠0 then [x]else [])=x.wR:=by
  split
  ·simp[sumA]
  ·rename_i hh
   have:x.wR=0:=Classical.byContradiction fun hb=>hh (.inl hb)
   rw[this]
   rfl
 have e2:sumA m=(m.headD ⟨x.ID,0,0⟩).wR:=by
  rcases h.2.2.1 with rfl|⟨y,rfl,_⟩
  ·rfl
  ·simp[sumA]
 simp only[sum_app,e1,e2]
 omega
theorem kcn {l:List wA} {id amt:Int} (hs:Srt l) (h:(creditA l id amt).2=0):sumA (creditA l id amt).1=sumA l+amt:=by
 unfold creditA at h ⊢
 split at h
 ·cases h
 ·rename_i hh
  rw[if_neg hh]
  have:=sum_put (x:=⟨id,(getA l id).wR+amt,(getA l id).wL⟩) hs
  rw[this]
  simp only
  omega
theorem kle {l:List wA} {id amt non:Int} (hs:Srt l) (h:(debitA l id amt non).2=0):sumA (debitA l id amt non).1=sumA l-amt:=by
 unfold debitA at h ⊢
 split at h
 ·cases h
 ·rename_i h1
  rw[if_neg h1]
  split at h
  ·cases h
  ·rename_i h2
   rw[if_neg h2]
   split at h
   ·cases h
   ·rename_i h3
    rw[if_neg h3]
    have:=sum_put (x:=⟨id,(getA l id).wR-amt,non+1⟩) hs
    rw[this]
    simp only
    omega
structure CK (s:PS) (t:wo):Prop where
 v:VT t
 m:∀m∈t.wC,m∉s.k
 d:0<t.wM->(debitA s.b t.wZ t.wM t.wL).2=0
 h:¬u64.wrap (s.n+t.wM)<u64.wrap (t.wQ+t.Fee)
 l:s.l.length+t.wH.length<=2^s.R.wD.toNat
theorem k4o {s:PS} {t:wo} (h:chkS s t=0):CK s t:=by
 unfold chkS chk at h
 split at h
 ·rename_i h1;exact(h1 h).elim
 ·rename_i h1
  split at h
  ·cases h
  ·split at h
   ·cases h
   ·split at h
    ·cases h
    ·rename_i h4
     split at h
     ·rename_i h5;exact(h5.2 h).elim
     ·rename_i h5
      split at h
      ·cases h
      ·rename_i h6
       split at h
       ·cases h
       ·rename_i h7
        refine⟨(k1n t).1 (Classical.byContradiction h1),fun m hm hk=>h4 ?_,fun hd=>Classical.byContradiction fun he=>h5 ⟨hd,he⟩,h6,by omega⟩
        exact List.any_eq_true.2 ⟨m,hm,by simpa using hk⟩
theorem VT.am' {t:wo} (v:VT t):t.wM<=4294967295/\t.wQ<=4294967295/\t.Fee<=4294967295/\t.wZ<18446744069414584321/\(0<t.wM->t.wQ=0):=by
 have:=v.am
 simp only[vAmounts,Bool.and_eq_true,decide_eq_true_eq]at this
 obtain⟨⟨⟨⟨⟨a1,a2⟩,a3⟩,a4⟩,a5⟩,a6⟩:=this
 refine⟨a1,a2,a3,a4,fun h=> ?_⟩
 rw[if_pos h]at a6
 simpa using a6
theorem kar {d:Int}:∀{o:List wAR} {l:List Int},l.length+o.length<=2^d.toNat->outsF (frF d l) o=frF d (l++o.map (·.wn))
 |[],l,_=>by simp[outsF]
 |x::o,l,h=>by
  have h:l.length+(o.length+1)<=2^d.toNat:=h
  show outsF (apF (frF d l) x.wn) o=_
  rw[apF_frF (by omega),kar (by simp;omega),List.append_assoc]
  rfl
theorem sup_bd {s:PS} {c:Nat} {f:Int} (h:PI s c f) (hc:c<=800):sumA s.b<=3435973836800/\s.n<=3435973836800/\f<=3435973836800/\0<=sumA s.b:=by
 have h0:=sumA_nn (l:=s.b) fun a ha=>(h.b.1.2.2 a ha).2.1.1
 have h1:=h.sup
 have h2:=h.n
 have h3:=h.ff
 have h4:(s.p.length:Int)*s.R.wP<=800*4294967296:=Int.mul_le_mul (by have:=h.p;omega) h.rw.2 h.rw.1 (by decide)
 omega
theorem PI.perf {s:PS} {c:Nat} {f:Int} (h:PI s c f) (hc:c<=800) {t:wo} (ht:TR t) (k:CK s t):(∃g,PI {(perfS s t).s with b:=s.b,n:=s.n} (c+1) g)/\GoodA (c+1) (perfS s t).s.b/\
  ((perfS s t).e=0->PI (perfS s t).s (c+1) (f+t.Fee)):=by
 obtain⟨a1,a2,a3,a4,a5⟩:=k.v.am'
 obtain⟨s1,s2,s3,s4⟩:=sup_bd h hc
 have hd0:=ht.d.1
 have hw0:=ht.w.1
 have hf0:=ht.f.1
 have hk:=k.h
 rw[wrap_u64 (s.n+t.wM) (by have:=h.n;omega) (by omega),wrap_u64 (t.wQ+t.Fee) (by omega) (by omega)]at hk
 have hF:outsF s.F t.wH=frF s.R.wD (s.l++t.wH.map (·.wn)):=by rw[h.F];exact kar k.l
 have hl:BG (s.l++t.wH.map (·.wn)):=by
  intro x hx
  rcases List.mem_append.1 hx with hx|hx
  ·exact h.l x hx
  ·obtain⟨o,ho,rfl⟩:=List.mem_map.1 hx
   exact⟨(ht.o o ho).c.1,(k.v.o o ho).c⟩
 have hkb:BG (s.k++t.wC):=by
  intro x hx
  rcases List.mem_append.1 hx with hx|hx
  ·exact h.kb x hx
  ·exact⟨(ht.m x hx).1,k.v.m x hx⟩
 have hkn:(s.k++t.wC).Nodup:=by
  rw[List.nodup_append]
  exact⟨h.kn,k.v.mn,fun a ha b hb e=>k.m b hb (e▸ha)⟩
 have hkl:(s.k++t.wC).length<=4*(c+1):=by
  rw[List.length_append]
  have:=h.kl
  have:=k.v.ml
  omega
 have hdep:GoodA (c+1) (depA s.b t)/\(t.wM=0->depA s.b t=s.b)/\sumA (depA s.b t)=sumA s.b-t.wM:=by
  unfold depA
  split
  ·rename_i hd
   exact⟨kcu h.b (by omega) ⟨ht.ac.1,a4⟩ hd0 ⟨ht.n.1,by have:=ht.n.2;omega⟩,fun h0=>by omega,kle h.b.1.1 (k.d hd)⟩
  ·rename_i hd
   exact⟨⟨h.b.1,h.b.2.1,Nat.le_succ_of_le h.b.2.2⟩,fun _=>rfl,by omega⟩
 have hwd:GoodA (c+1) (wdA s.b t).1/\((wdA s.b t).2=0->sumA (wdA s.b t).1=sumA s.b-t.wM+t.wQ):=by
  unfold wdA
  split
  ·rename_i hw
   have hz:t.wM=0:=by
    rcases Int.lt_or_le 0 t.wM with h1|h1
    ·have:=a5 h1;omega
    ·omega
   rw[hdep.2.1 hz]
   exact⟨ka2 h.b (by omega) ⟨ht.ac.1,a4⟩ hw0,fun he=>by rw[kcn h.b.1.1 he];omega⟩
  ·exact⟨hdep.1,fun _=>by simp only;omega⟩
 have hlen:(s.l++t.wH.map (·.wn)).length<=2^s.R.wD.toNat:=by simp only[List.length_append,List.length_map];exact k.l
 refine⟨⟨f,?_⟩,?_,?_⟩
 ·have base:PI {s with F:=outsF s.F t.wH,l:=s.l++t.wH.map (·.wn),k:=s.k++t.wC,v:=trs (s.k++t.wC)} (c+1) f:=
   ⟨h.d1,h.d2,h.w1,h.w2,h.rw,hF,hlen,hl,⟨h.b.1,h.b.2.1,Nat.le_succ_of_le h.b.2.2⟩,h.n,h.ff,h.sup,h.r,h.rl,by have:=h.p;simp only;omega,hkn,hkb,hkl,rfl⟩
  unfold perfS
  split
  ·exact base
  ·exact base
 ·unfold perfS
  split
  ·exact hdep.1
  ·exact hwd.1
 ·intro he
  unfold perfS at he ⊢
  split at he
  ·rename_i h1;exact(h1 he).elim
  ·rename_i h1
   rw[if_neg h1]
   have hz:(wdA s.b t).2=0:=Classical.byContradiction h1
   have hn0:=h.n
   have hh:hidN s.n t=s.n+t.wM-t.wQ-t.Fee:=by
    unfold hidN
    rw[wrap_u64 (s.n+t.wM) (by omega) (by omega),wrap_u64 (s.n+t.wM-t.wQ) (by omega) (by omega),wrap_u64 _ (by omega) (by omega)]
   refine⟨h.d1,h.d2,h.w1,h.w2,h.rw,hF,hlen,hl,hwd.1,?_,by have:=h.ff;omega,?_,h.r,h.rl,by have:=h.p;simp only;omega,hkn,hkb,hkl,rfl⟩
   ·simp only[hh];omega
   ·have h9:=h.sup
    simp only[hh,hwd.2 hz]
    omega
theorem ke3 (s:PS) (t:wo):(perfS s t).s.R=s.R/\(perfS s t).s.p=s.p/\(perfS s t).s.r=s.r/\(perfS s t).s.l=s.l++t.wH.map (·.wn)/\(perfS s t).s.k=s.k++t.wC/\(perfS s t).s.v=trs (s.k++t.wC):=by
 unfold perfS
 split<;>exact⟨rfl,rfl,rfl,rfl,rfl,rfl⟩
structure BI (s0 s:PS) (m:List Int):Prop where
 R:s.R=s0.R
 p:s.p=s0.p
 r:s.r=s0.r
 l:∃x,s.l=s0.l++x
 k:s.k=s0.k++m
 kn:s.k.Nodup
 kb:BG s.k
 v:s.v=trs s.k
 lb:BG s.l
 F:s.F=frF s.R.wD s.l
 ll:s.l.length<=2^s.R.wD.toNat
theorem BI.refl {s:PS} {c:Nat} {f:Int} (h:PI s c f):BI s s []:=⟨rfl,rfl,rfl,⟨[],by simp⟩,by simp,h.kn,h.kb,h.v,h.l,h.F,h.ll⟩
theorem BI.perf {s0 s:PS} {m:List Int} {c:Nat} {f:Int} (b:BI s0 s m) (h:PI s c f) (hc:c<=800) {t:wo} (ht:TR t) (k:CK s t):BI s0 (perfS s t).s (m++t.wC):=by
 obtain⟨⟨g,h1⟩,_,_⟩:=h.perf hc ht k
 obtain⟨k1,k2,k3,k4,k5,k6⟩:=ke3 s t
 refine⟨k1.trans b.R,k2.trans b.p,k3.trans b.r,?_,?_,h1.kn,h1.kb,h1.v,h1.l,h1.F,h1.ll⟩
 ·obtain⟨x,hx⟩:=b.l
  exact⟨x++t.wH.map (·.wn),by rw[k4,hx,List.append_assoc]⟩
 ·rw[k5,b.k,List.append_assoc]
structure BO (s0:PS) (x:PB) (c:Nat):Prop where
 b:BI s0 x.s x.m
 ok:x.e=0->PI x.s c x.f
theorem kan {s:PS} {c:Nat} {f:Int} (h:PI s c f) (hc:c<=800) {t:wo} (ht:TR t) (k:CK s t):u64.wrap (f+t.Fee)=f+t.Fee:=by
 obtain⟨a1,a2,a3,a4,a5⟩:=k.v.am'
 obtain⟨s1,s2,s3,s4⟩:=sup_bd h hc
 exact wrap_u64 _ (by have:=h.ff;have:=ht.f.1;omega) (by omega)
theorem k4c:∀{r:List wo} {s0 s:PS} {m:List Int} {c:Nat} {f:Int},BI s0 s m->PI s c f->c+r.length<=800->(∀t∈r,TR t)->BO s0 (blkGo r s m f) (c+r.length)
 |[],s0,s,m,c,f,b,h,_,_=>⟨b,fun _=>h⟩
 |t::r,s0,s,m,c,f,b,h,hc,ht=>by
  have hc:c+(r.length+1)<=800:=hc
  unfold blkGo
  split
  ·rename_i h1
   exact⟨b,fun he=>(h1 he).elim⟩
  ·rename_i h1
   have k:=k4o (Classical.byContradiction h1)
   have tt:=ht t (by simp)
   have b2:=b.perf h (by omega) tt k
   split
   ·rename_i h2
    exact⟨b2,fun he=>(h2 he).elim⟩
   ·rename_i h2
    have h3:=(h.perf (by omega) tt k).2.2 (Classical.byContradiction h2)
    rw[kan h (by omega) tt k]
    have:=k4c (r:=r) b2 h3 (by omega) (fun t ht' =>ht t (by simp[ht']))
    rw[show c+(t::r).length=c+1+r.length by simp;omega]
    exact this
structure BR' (b:wV):Prop where
 m:U64 b.wAM
 t:∀t∈b.Txs,TR t
 l:∀t∈b.Txs,TL t
theorem kbb {x:PB} {c:Nat} (h:PI x.s c x.f) (hc:c<=800):u64.wrap (x.s.R.wP+x.f)=x.s.R.wP+x.f/\U64 (x.s.R.wP+x.f):=by
 obtain⟨s1,s2,s3,s4⟩:=sup_bd h hc
 have h1:=h.rw
 have h2:=h.ff
 exact⟨wrap_u64 _ (by omega) (by omega),by omega,by omega⟩
theorem blkS_BI {s:PS} {c:Nat} (h:PI s c 0) {b:wV} (hc:c+b.Txs.length<=800) (hb:BR' b):BI s (blkS s [] b).s (blkS s [] b).m:=by
 have:=(k4c (BI.refl h) h hc hb.t).b
 unfold blkS
 split
 ·exact this
 ·split
  ·exact this
  ·exact⟨this.R,this.p,this.r,this.l,this.k,this.kn,this.kb,this.v,this.lb,this.F,this.ll⟩
theorem kgq {s0 s:PS} {m:List Int} (h:BI s0 s m) (hv:s0.v=trs s0.k):resS s (befS s0 m)=s0:=by
 have hk:(remS m s.k).2=s0.k:=by
  have hn:=h.kn
  rw[h.k]at hn ⊢
  unfold remS
  have e1:(m.any fun x=> !decide (x∈s0.k++m))=false:=by
   rw[List.any_eq_false]
   intro x hx
   simp[hx]
  have e2:m.Nodup:=by rw[List.nodup_append]at hn;exact hn.2.1
  rw[e1,decide_eq_true e2]
  exact rem_add hn
 obtain⟨x,hx⟩:=h.l
 unfold resS befS
 simp only[Int.toNat_natCast]
 rw[hk,h.R,h.p,h.r,hx,List.take_left,<-hv]
theorem kbz {s:PS} {c:Nat} (h:PI s c 0) {b:wV} (hc:c+b.Txs.length<=800) (hb:BR' b) (he:(applyS s b).e=0):undoS (applyS s b).s=s/\(applyS s b).s.p.length=s.p.length+1:=by
 have hB:=blkS_BI h hc hb
 unfold applyS at he ⊢
 split at he
 ·cases he
 ·rename_i h1
  rw[if_neg h1]
  split at he
  ·cases he
  ·rename_i h2
   rw[if_neg h2]
   split at he
   ·rename_i h3;exact(h3 he).elim
   ·rename_i h3
    rw[if_neg h3]
    refine⟨?_,by simp⟩
    unfold undoS
    rw[if_neg (by simp)]
    have e:ix (s.p++[befS s (blkS s [] b).m]) (((s.p++[befS s (blkS s [] b).m]).length:Int)-1)=befS s (blkS s [] b).m:=by
     have:(((s.p++[befS s (blkS s [] b).m]).length:Int)-1)=((s.p.length:Nat):Int):=by simp
     rw[this,ix_get _ _ (by simp)]
     simp
    simp only[e]
    have hr:=kgq hB h.v
    have hrl:=h.rl
    have e3:(s.p++[befS s (blkS s [] b).m]).take ((s.p++[befS s (blkS s [] b).m]).length-1)=s.p:=by simp
    have e4:(s.r++[rootF (blkS s [] b).s.F]).take ((s.r++[rootF (blkS s [] b).s.F]).length-1)=s.r:=by simp
    rw[e3,e4]
    have hq:∀(y:PS) (q:wN) (p' :List wN) (r' :List Int),({resS {y with p:=p',r:=r'} q with p:=s.p,r:=s.r}:PS)={resS y q with p:=s.p,r:=s.r}:=fun _ _ _ _=>rfl
    rw[hq,hr]
theorem k5i {s:PS} {c:Nat} (h:PI s c 0) {b:wV} (hc:c+b.Txs.length<=790) (hb:BR' b) (he:(applyS s b).e=0):PI (applyS s b).s (c+b.Txs.length+1) 0:=by
 have hB:=k4c (BI.refl h) h (by omega) hb.t
 unfold applyS at he ⊢
 split at he
 ·cases he
 ·rename_i h1
  rw[if_neg h1]
  split at he
  ·cases he
  ·rename_i h2
   rw[if_neg h2]
   unfold blkS at he ⊢
   by_cases h3:(blkGo b.Txs s [] 0).e≠0
   ·rw[if_pos h3,if_pos h3]at he
    exact(h3 he).elim
   ·rw[if_neg h3]at he ⊢
    have hP:=hB.ok (Classical.byContradiction h3)
    by_cases h4:(crB (blkGo b.Txs s [] 0) b).2≠0
    ·rw[if_pos h4,if_pos h4]at he
     exact(h4 he).elim
    ·rw[if_neg h4,if_neg (by simp)]
     have h4:(crB (blkGo b.Txs s [] 0) b).2=0:=Classical.byContradiction h4
     generalize blkGo b.Txs s [] 0=x at *
     have hw:=kbb hP (by omega)
     have hB:=hB.b
     unfold crB at h4 ⊢
     rw[hw.1]at h4 ⊢
     have hF:=hP.F
     have hr:=k3u (d:=x.s.R.wD) (l:=x.s.l) (by have:=hP.d1;omega) hP.ll
     refine⟨hP.d1,hP.d2,hP.w1,hP.w2,hP.rw,hP.F,hP.ll,hP.l,ka2 hP.b (by omega) ⟨hb.m.1,by omega⟩ hw.2.1,hP.n,Int.le_refl _,?_,?_,?_,?_,hP.kn,hP.kb,?_,hP.v⟩
     ·have h9:=hP.sup
      simp only[kcn hP.b.1.1 h4]
      rw[hB.p]at h9
      rw[List.length_append,List.length_singleton]
      have:((s.p.length+1:Nat):Int)*x.s.R.wP=(s.p.length:Int)*x.s.R.wP+x.s.R.wP:=by
       rw[Int.natCast_add,Int.add_mul];simp
      rw[this]
      omega
     ·intro y hy
      rcases List.mem_append.1 hy with hy|hy
      ·exact h.r y hy
      ·rw[List.mem_singleton.1 hy,hF,hr]
       exact TT_r hP.l _ _
     ·have:=h.rl
      simp only[List.length_append,List.length_singleton]
      omega
     ·have:=h.p
      simp only[List.length_append,List.length_singleton]
      omega
     ·have:=hP.kl
      simp only
      omega
def mOf (s:PS):wt:=⟨s.R.wm,s.R.wD,s.R.wJ,s.R.wI,s.R.wG,s.R.wP,s.R.wU,s.R.wO,s.R.wh,s.p.length,s.l,srt s.k,s.b,s.n,s.r⟩
def rchk (m:wt) (t:wo):Int:=chk m.wS (ancL m.we m.wK) m.wC m.wB m.wz m.wq.length m.wa t
structure RE where
 e:Int
 m:wt
def rperf (m:wt) (t:wo):RE:=if rchk m t≠0 then⟨rchk m t,m⟩else
 ⟨(wdA m.wB t).2,{m with wC:=t.wC.foldl (fun a x=>insI x a) m.wC,wq:=m.wq++t.wH.map (·.wn),wB:=(wdA m.wB t).1,wz:=hidN m.wz t}⟩
structure RG where
 e:Int
 m:wt
 f:Int
def rGo:List wo->wt->Int->RG
 |[],m,f=>⟨0,m,f⟩
 |t::r,m,f=>if(rperf m t).e≠0 then⟨(rperf m t).e,(rperf m t).m,f⟩else rGo r (rperf m t).m (u64.wrap (f+t.Fee))
def rcr (x:RG) (w:Int) (b:wV):List wA×Int:=creditA x.m.wB b.wAM (u64.wrap (w+x.f))
def rapply (m:wt) (b:wV):RE:=
 if b.wS≠m.wS+1 then⟨18,m⟩else if 18446744069414584321<=b.wAM then⟨1,m⟩else
 if(rGo b.Txs m 0).e≠0 then⟨(rGo b.Txs m 0).e,m⟩else if(rcr (rGo b.Txs m 0) m.wc b).2≠0 then⟨(rcr (rGo b.Txs m 0) m.wc b).2,m⟩
 else⟨0,{(rGo b.Txs m 0).m with wB:=(rcr (rGo b.Txs m 0) m.wc b).1,wS:=(rGo b.Txs m 0).m.wS+1,we:=(rGo b.Txs m 0).m.we++[TT (lf (rGo b.Txs m 0).m.wq) (rGo b.Txs m 0).m.wa.toNat 0]}⟩
theorem rchk_eq (s:PS) (t:wo):rchk (mOf s) t=chkS s t:=by
 unfold rchk chkS mOf chk
 simp only
 have:(t.wC.any fun m=>decide (m∈srt s.k))=t.wC.any fun m=>decide (m∈s.k):=by
  congr 1
  funext m
  rw[Bool.eq_iff_iff,decide_eq_true_iff,decide_eq_true_iff]
  exact(k1x s.k).mem_iff
 rw[this]
theorem kg6 {s:PS} {t:wo} (h:chkS s t=0):(rperf (mOf s) t).e=(perfS s t).e/\((perfS s t).e=0->(rperf (mOf s) t).m=mOf (perfS s t).s):=by
 unfold rperf
 rw[rchk_eq,if_neg (by rw[h];decide)]
 unfold perfS
 split
 ·rename_i h1
  exact⟨rfl,fun he=>(h1 he).elim⟩
 ·rename_i h1
  have h1:(wdA s.b t).2=0:=Classical.byContradiction h1
  refine⟨h1,fun _=> ?_⟩
  unfold mOf
  simp only
  rw[srt_app]
theorem rGo_eq:∀{r:List wo} {s:PS} {m:List Int} {f:Int},(rGo r (mOf s) f).e=(blkGo r s m f).e/\((blkGo r s m f).e=0->(rGo r (mOf s) f).m=mOf (blkGo r s m f).s/\(rGo r (mOf s) f).f=(blkGo r s m f).f)
 |[],_,_,_=>⟨rfl,fun _=>⟨rfl,rfl⟩⟩
 |t::r,s,m,f=>by
  unfold rGo blkGo
  by_cases h1:chkS s t≠0
  ·have e:rperf (mOf s) t=⟨chkS s t,mOf s⟩:=by unfold rperf;rw[rchk_eq,if_pos h1]
   rw[e,if_pos h1,if_pos h1]
   exact⟨rfl,fun he=>(h1 he).elim⟩
  ·rw[if_neg h1]
   obtain⟨g1,g2⟩:=kg6 (Classical.byContradiction h1:chkS s t=0)
   rw[g1]
   by_cases h2:(perfS s t).e≠0
   ·rw[if_pos h2,if_pos h2]
    exact⟨rfl,fun he=>(h2 he).elim⟩
   ·rw[if_neg h2,if_neg h2,g2 (Classical.byContradiction h2)]
    exact rGo_eq
theorem kkt {s:PS} {c:Nat} (h:PI s c 0) {b:wV} (hc:c+b.Txs.length<=790) (hb:BR' b):rapply (mOf s) b=⟨(applyS s b).e,mOf (applyS s b).s⟩:=by
 have hB:=k4c (BI.refl h) h (by omega) hb.t
 obtain⟨g1,g2⟩:=rGo_eq (r:=b.Txs) (s:=s) (m:=[]) (f:=0)
 unfold rapply applyS
 rw[show(mOf s).wS=(s.p.length:Int)from rfl]
 split
 ·rfl
 ·split
  ·rfl
  ·unfold blkS
   rw[g1]
   by_cases h3:(blkGo b.Txs s [] 0).e≠0
   ·rw[if_pos h3,if_pos h3,if_pos h3]
   ·rw[if_neg h3,if_neg h3]
    have h3:(blkGo b.Txs s [] 0).e=0:=Classical.byContradiction h3
    obtain⟨e1,e2⟩:=g2 h3
    have hP:=hB.ok h3
    have ec:rcr (rGo b.Txs (mOf s) 0) (mOf s).wc b=crB (blkGo b.Txs s [] 0) b:=by
     unfold rcr crB
     rw[e1,e2,hB.b.R]
     rfl
    rw[ec,e1]
    by_cases h4:(crB (blkGo b.Txs s [] 0) b).2≠0
    ·rw[if_pos h4,if_pos h4,if_pos h4]
    ·rw[if_neg h4,if_neg h4,if_neg (by simp)]
     have hr:=k3u (d:=(blkGo b.Txs s [] 0).s.R.wD) (l:=(blkGo b.Txs s [] 0).s.l) (by have:=hP.d1;omega) hP.ll
     have hp:=hB.b.p
     have hrr:=hB.b.r
     unfold mOf
     simp only
     rw[hP.F,hr,hp,hrr]
     simp
structure UOk (s:PS):Prop where
 v:s.v=trs s.k
 kl:s.k.length<=1000000
 r:1<=s.r.length
 rl:s.r.length<=1000000
 pl:s.p.length<=1000000
 q:s.p≠[]->(ix s.p ((s.p.length:Int)-1)).marks.length<=1000000/\0<=(ix s.p ((s.p.length:Int)-1)).leaves/\(ix s.p ((s.p.length:Int)-1)).leaves<=(s.l.length:Int)
structure ROk (m:wt):Prop where
 w1:1<=m.wK
 w2:m.wK<=100
 d1:1<=m.wa
 d2:m.wa<=12
 h:0<=m.wS/\m.wS<=1000000
 rl:m.we.length<=1000000
 ml:m.wC.length<=900000
 a:OkA m.wB
 al:m.wB.length<=999
 n:U64 m.wz
 ll:m.wq.length<=4096
theorem kid:∀{r:List wo} {s:PS} {m:List Int} {f:Int},(blkGo r s m f).m.length<=m.length+4*r.length
 |[],_,_,_=>by simp[blkGo]
 |t::r,s,m,f=>by
  unfold blkGo
  split
  ·simp
  ·rename_i h1
   have:=(k4o (Classical.byContradiction h1:chkS s t=0)).v.ml
   split
   ·simp;omega
   ·have:=kid (r:=r) (s:=(perfS s t).s) (m:=m++t.wC) (f:=u64.wrap (f+t.Fee))
    rw[List.length_append]at this
    simp
    omega
theorem blkS_ml (s:PS) (b:wV):(blkS s [] b).m.length<=4*b.Txs.length:=by
 have:=kid (r:=b.Txs) (s:=s) (m:=[]) (f:=0)
 rw[List.length_nil,Nat.zero_add]at this
 unfold blkS
 split
 ·exact this
 ·split<;>exact this
theorem take_set' {α:Type} (l:List α) (n:Nat) (x:α):(l.set n x).take n=l.take n:=by
 apply List.ext_getElem
 ·simp
 ·intro i h1 h2
  rw[List.length_take]at h2
  rw[List.getElem_take,List.getElem_take,List.getElem_set,if_neg (by omega)]
theorem PI.rok {s:PS} {c:Nat} {f:Int} (h:PI s c f) (hc:c<=800):ROk (mOf s):=by
 obtain⟨s1,s2,s3,s4⟩:=sup_bd h hc
 have hp:=h.p
 have hk:=h.kl
 have hr:=h.rl
 have hp12:=pow12 s.R.wD.toNat (by have:=h.d2;omega)
 have hl:=h.ll
 refine⟨h.w1,h.w2,h.d1,h.d2,?_,?_,?_,h.b.1,?_,⟨h.n,?_⟩,?_⟩
 ·show 0<=(s.p.length:Int)/\(s.p.length:Int)<=1000000
  omega
 ·show s.r.length<=1000000
  omega
 ·show(srt s.k).length<=900000
  rw[k35]
  omega
 ·have:=h.b.2.2
  show s.b.length<=999
  omega
 ·show s.n<18446744073709551616
  omega
 ·show s.l.length<=4096
  omega
theorem keh {s:PS} {c:Nat} (h:PI s c 0) {b:wV} (hc:c+b.Txs.length<=790) (hb:BR' b) (he:(applyS s b).e=0):UOk (applyS s b).s:=by
 have hP:=k5i h hc hb he
 have hB:=blkS_BI h (by omega) hb
 have hml:=blkS_ml s b
 have hp:=hP.p
 have hk:=hP.kl
 have hr:=hP.rl
 refine⟨hP.v,by omega,by omega,by omega,by omega,fun _=> ?_⟩
 unfold applyS at he ⊢
 split at he
 ·cases he
 ·rename_i h1
  rw[if_neg h1]
  split at he
  ·cases he
  ·rename_i h2
   rw[if_neg h2]
   split at he
   ·rename_i h3;exact(h3 he).elim
   ·rename_i h3
    rw[if_neg h3]
    have e:ix (s.p++[befS s (blkS s [] b).m]) (((s.p++[befS s (blkS s [] b).m]).length:Int)-1)=befS s (blkS s [] b).m:=by
     have:(((s.p++[befS s (blkS s [] b).m]).length:Int)-1)=((s.p.length:Nat):Int):=by simp
     rw[this,ix_get _ _ (by simp)]
     simp
    simp only[e]
    obtain⟨x,hx⟩:=hB.l
    refine⟨?_,?_,?_⟩
    ·show(blkS s [] b).m.length<=1000000
     omega
    ·show(0:Int)<=(s.l.length:Int)
     omega
    ·show(s.l.length:Int)<=((blkS s [] b).s.l.length:Int)
     rw[hx,List.length_append]
     omega
theorem kmx {r:wF} (h:rulesE r=0):rulesB r=true:=by
 cases hb:rulesB r with
 |true=>rfl
 |false=>unfold rulesE at h;rw[hb]at h;cases h
theorem new_PI {r:wF} (h:rulesE r=0) (h0:0<=r.wP):PI (newS r) 0 0:=by
 have hb:=kmx h
 simp only[rulesB,Bool.and_eq_true,decide_eq_true_eq]at hb
 have hr:=k3u (d:=r.wD) (l:=[]) (by omega) (Nat.zero_le _)
 refine⟨(by show 1<=r.wD;omega),(by show r.wD<=12;omega),(by show 1<=r.wU;omega),(by show r.wU<=100;omega),⟨h0,(by show r.wP<=4294967296;omega)⟩,rfl,Nat.zero_le _,(fun x hx=>by cases hx),k51 0,Int.le_refl _,Int.le_refl _,?_,?_,rfl,Nat.le_refl _,List.nodup_nil,(fun x hx=>by cases hx),Nat.zero_le _,rfl⟩
 ·show(0:Int)+0+0=((0:Nat):Int)*r.wP
  simp
 ·intro x hx
  rw[List.mem_singleton.1 hx,hr]
  exact TT_r (fun x hx=>by cases hx) _ _
theorem PI.mono {s:PS} {c d:Nat} {f:Int} (h:PI s c f) (hd:c<=d):PI s d f:=
 ⟨h.d1,h.d2,h.w1,h.w2,h.rw,h.F,h.ll,h.l,⟨h.b.1,h.b.2.1,Nat.le_trans h.b.2.2 hd⟩,h.n,h.ff,h.sup,h.r,h.rl,Nat.le_trans h.p hd,h.kn,h.kb,Nat.le_trans h.kl (Nat.mul_le_mul_left 4 hd),h.v⟩
theorem PI.uok {s:PS} {c:Nat} {f:Int} (h:PI s c f) (hc:c<=800) (hp:s.p=[]):UOk s:=by
 have h1:=h.rl
 have h2:=h.kl
 have h3:=h.p
 exact⟨h.v,by omega,by omega,by omega,by omega,fun hh=>(hh hp).elim⟩
theorem kc0 {s:PS} {b:wV} (h:(applyS s b).e≠0):(applyS s b).s=s:=by
 unfold applyS at h ⊢
 split
 ·rfl
 ·rename_i h1
  rw[if_neg h1]at h
  split
  ·rfl
  ·rename_i h2
   rw[if_neg h2]at h
   split
   ·rfl
   ·rename_i h3
    rw[if_neg h3]at h
    exact(h rfl).elim
theorem apply_R {s:PS} {c:Nat} (h:PI s c 0) {b:wV} (hc:c+b.Txs.length<=790) (hb:BR' b):(applyS s b).s.R=s.R:=by
 have hB:=blkS_BI h (by omega) hb
 unfold applyS
 split
 ·rfl
 ·split
  ·rfl
  ·split
   ·rfl
   ·exact hB.R
def opB (o:wAD):wV:=⟨o.wAF,o.wAG,o.wAK,o.wAO,o.wAL,o.wAB⟩
def smB (b:wV):Bool:=b.Txs.all (fun t=>smallB t 200)&&decide ((b.Txs.length:Int)<=8)
def smOps (r:wF) (l:List wAD):Bool:=l.all (fun o=>smB (opB o))&&(decide (r.wD<=6)&&(decide ((l.length:Int)<=12)&&(rulesE r==0)))
structure PL where
 g:List wt
 n:Nat
 s:PS
def plStep (x:PL) (o:wAD):PL:=
 if o.wAZ=true then⟨x.g,if 1<x.n then x.n-1 else x.n,undoS x.s⟩
 else if(applyS x.s (opB o)).e=0 then⟨x.g.take x.n++[mOf (applyS x.s (opB o)).s],x.n+1,(applyS x.s (opB o)).s⟩else⟨x.g,x.n,(applyS x.s (opB o)).s⟩
def plS (r:wF) (l:List wAD):PL:=l.foldl plStep ⟨[mOf (newS r)],1,newS r⟩
def HC:List PS->Prop
 |[]=>False
 |[s]=>s.p=[]
 |s::s' ::r=>(UOk s/\undoS s=s'/\s.p≠[])/\HC (s' ::r)
structure PH (x:PL) (h:List PS) (c:Nat) (R:wF):Prop where
 hc:HC h
 s:h.head? =some x.s
 n:h.length=x.n
 l:x.n<=x.g.length
 g:x.g.take x.n=h.reverse.map mOf
 i:∀s∈h,PI s c 0/\s.R=R
theorem PH.pos {x:PL} {h:List PS} {c:Nat} {R:wF} (H:PH x h c R):∃r,h=x.s::r:=by
 cases h with
 |nil=>exact H.hc.elim
 |cons s r=>exact⟨r,by rw[Option.some.inj H.s]⟩
theorem PH.top {x:PL} {h:List PS} {c:Nat} {R:wF} (H:PH x h c R):1<=x.n/\∃hh:x.n-1<x.g.length,x.g[x.n-1]=mOf x.s:=by
 obtain⟨r,rfl⟩:=H.pos
 have hn:=H.n
 have hl:=H.l
 rw[List.length_cons]at hn
 refine⟨by omega,by omega,?_⟩
 have hg:=H.g
 rw[List.reverse_cons,List.map_append]at hg
 have h1:(x.g.take x.n)[x.n-1]? =some (mOf x.s):=by
  rw[hg,List.getElem?_append_right (by simp;omega)]
  simp only[List.length_map,List.length_reverse]
  rw[show x.n-1-r.length=0 by omega]
  rfl
 rw[List.getElem?_take_of_lt (by omega),List.getElem?_eq_getElem (by omega)]at h1
 exact Option.some.inj h1
structure SO (x:PL) (o:wAD):Prop where
 u:UOk x.s
 e:decide (x.s.p≠[])=decide (1<x.n)
theorem PH.uok {x:PL} {h:List PS} {c:Nat} {R:wF} (H:PH x h c R) (hc:c<=800) (o:wAD):SO x o:=by
 obtain⟨r,rfl⟩:=H.pos
 have hn:=H.n
 have hi:=(H.i x.s (by simp)).1
 have hC:=H.hc
 cases r with
 |nil=>
  have hp:x.s.p=[]:=hC
  refine⟨hi.uok hc hp,?_⟩
  have:x.n=1:=by simpa using hn.symm
  rw[this,hp]
  rfl
 |cons s' r=>
  have hp:=hC.1
  refine⟨hp.1,?_⟩
  rw[decide_eq_true hp.2.2]
  have:1<x.n:=by rw[<-hn];simp
  rw[decide_eq_true this]
theorem PH.step {x:PL} {h:List PS} {c:Nat} {R:wF} (H:PH x h c R) {o:wAD} (hc:c+(opB o).Txs.length<=780) (hb:BR' (opB o)):∃h',PH (plStep x o) h' (c+(opB o).Txs.length+1) R:=by
 obtain⟨r,rfl⟩:=H.pos
 have hn:=H.n
 have hl:=H.l
 have hg:=H.g
 have hi:=H.i
 have hC:=H.hc
 have mono:∀s,PI s c 0->PI s (c+(opB o).Txs.length+1) 0:=fun s hs=>hs.mono (by omega)
 unfold plStep
 by_cases hu:o.wAZ=true
 ·rw[if_pos hu]
  cases r with
  |nil=>
   have hp:x.s.p=[]:=hC
   have hx:undoS x.s=x.s:=by unfold undoS;rw[if_pos hp]
   have h1:x.n=1:=by simpa using hn.symm
   refine⟨[x.s],⟨hC,by rw[hx];rfl,by rw[h1];rfl,by rw[h1];simp;omega,?_,fun s hs=>⟨mono s (hi s hs).1,(hi s hs).2⟩⟩⟩
   rw[if_neg (by omega)]
   exact hg
  |cons s' r=>
   have hp:=hC.1
   have h1:x.n=r.length+2:=by rw[<-hn];rfl
   refine⟨s' ::r,⟨hC.2,by rw[hp.2.1];rfl,?_,?_,?_,fun s hs=>⟨mono s (hi s (by simp[List.mem_cons.1 hs])).1,(hi s (by simp[List.mem_cons.1 hs])).2⟩⟩⟩
   ·rw[if_pos (by omega),h1];rfl
   ·simp only;rw[if_pos (by omega)];omega
   ·simp only
    rw[if_pos (by omega)]
    have e:x.g.take (x.n-1)=(x.g.take x.n).take (x.n-1):=by rw[List.take_take,Nat.min_eq_left (by omega)]
    rw[e,hg,List.reverse_cons,List.map_append,List.take_append_of_le_length (by simp;omega),List.take_of_length_le (by simp;omega)]
 ·rw[if_neg hu]
  have hP:=(hi x.s (by simp)).1
  have hR:=(hi x.s (by simp)).2
  by_cases he:(applyS x.s (opB o)).e=0
  ·rw[if_pos he]
   have hPI:=k5i hP (by omega) hb he
   obtain⟨u1,u2⟩:=kbz hP (by omega) hb he
   have huo:=keh hP (by omega) hb he
   refine⟨(applyS x.s (opB o)).s::x.s::r,⟨⟨⟨huo,u1,fun hh=>by rw[hh]at u2;cases u2⟩,hC⟩,rfl,?_,?_,?_,fun s hs=> ?_⟩⟩
   ·simp only[List.length_cons]at hn ⊢;omega
   ·simp;omega
   ·simp only
    rw[List.take_of_length_le (by simp;omega),hg,List.reverse_cons (a:=(applyS x.s (opB o)).s),List.map_append]
    rfl
   ·rcases List.mem_cons.1 hs with rfl|hs
    ·exact⟨hPI,(apply_R hP (by omega) hb).trans hR⟩
    ·exact⟨mono s (hi s hs).1,(hi s hs).2⟩
  ·rw[if_neg he,kc0 he]
   exact⟨x.s::r,⟨hC,rfl,hn,hl,hg,fun s hs=>⟨mono s (hi s hs).1,(hi s hs).2⟩⟩⟩
theorem PH.new {r:wF} (h:rulesE r=0) (h0:0<=r.wP):PH ⟨[mOf (newS r)],1,newS r⟩ [newS r] 0 r:=
 ⟨rfl,rfl,rfl,Nat.le_refl _,rfl,fun s hs=>by rw[List.mem_singleton.1 hs];exact⟨new_PI h h0,rfl⟩⟩
structure OpsR (l:List wAD):Prop where
 b:∀o∈l,BR' (opB o)
 n:∀o∈l,o.wAB.length<=8
theorem play_PH {r:wF} (h:rulesE r=0) (h0:0<=r.wP) {l:List wAD} (hl:l.length<=60) (ho:OpsR l):∃H,PH (plS r l) H (9*l.length) r:=by
 unfold plS
 have key:∀(l:List wAD) (x:PL) (H:List PS) (c:Nat),PH x H c r->c+9*l.length<=760->OpsR l->∃H',PH (l.foldl plStep x) H' (c+9*l.length) r:=by
  intro l
  induction l with
  |nil=>intro x H c hx _ _;exact⟨H,hx⟩
  |cons o l ih=>
   intro x H c hx hc hl
   have hc:c+9*(l.length+1)<=760:=hc
   have hn:(opB o).Txs.length<=8:=hl.n o (by simp)
   obtain⟨H',hx'⟩:=hx.step (o:=o) (by omega) (hl.b o (by simp))
   have hx2:PH (plStep x o) H' (c+9) r:=⟨hx'.hc,hx'.s,hx'.n,hx'.l,hx'.g,fun s hs=>⟨(hx'.i s hs).1.mono (by omega),(hx'.i s hs).2⟩⟩
   obtain⟨H2,h2⟩:=ih (plStep x o) H' (c+9) hx2 (by omega) ⟨fun o' ho' =>hl.b o' (by simp[ho']),fun o' ho' =>hl.n o' (by simp[ho'])⟩
   rw[show c+9*(o::l).length=c+9+9*l.length by simp;omega]
   exact⟨H2,h2⟩
 have:=key l _ _ 0 (PH.new h h0) (by omega) ho
 rw[Nat.zero_add]at this
 exact this
structure OArg (r:wF) (l:List wAD):Prop where
 hr:0<=r.wP
 hl:l.length<=9223372036854775807
 m:∀o∈l,U64 o.wAK
 n:∀o∈l,o.wAB.length<=9223372036854775807
 t:∀o∈l,∀t∈o.wAB,TR t/\t.wH.length<=9223372036854775807
theorem OArg.sm {r:wF} {l:List wAD} (h:OArg r l):l.length<=9223372036854775807/\∀o∈l,o.wAB.length<=9223372036854775807/\∀t∈o.wAB,t.wH.length<=9223372036854775807:=
 ⟨h.hl,fun o ho=>⟨h.n o ho,fun t ht=>(h.t o ho t ht).2⟩⟩
theorem k5g {r:wF} {l:List wAD} (h:smOps r l=true) (ha:OArg r l):rulesE r=0/\OpsR l/\l.length<=12/\r.wD<=6:=by
 unfold smOps smB at h
 simp only[Bool.and_eq_true,List.all_eq_true,decide_eq_true_eq,beq_iff_eq]at h
 obtain⟨h1,h2,h3,h4⟩:=h
 refine⟨h4,⟨fun o ho=>⟨ha.m o ho,fun t ht=>(ha.t o ho t ht).1,fun t ht=>ki8 ((h1 o ho).1 t ht)⟩,fun o ho=> ?_⟩,by omega,h2⟩
 have:=(h1 o ho).2
 have:(o.wAB.length:Int)<=8:=this
 omega
theorem klo (x:PL) (o:wAD):(plStep x o).n<=x.n+1:=by
 unfold plStep
 split
 ·simp only;split<;>omega
 ·split<;>simp
theorem play_n:∀(l:List wAD) (x:PL),(l.foldl plStep x).n<=x.n+l.length
 |[],x=>Nat.le_refl _
 |o::l,x=>by
  have h1:=play_n l (plStep x o)
  have h2:=klo x o
  rw[List.foldl_cons,List.length_cons]
  omega
structure PT (x:PL) (r:wF):Prop where
 i:∃c,c<=600/\PI x.s c 0
 R:x.s.R=r
 n1:1<=x.n
 n2:x.n<=61
 l:x.n<=x.g.length
 w:i64.wrap ((((x.n:Int).toNat:Nat):Int)-1)=((x.n-1:Nat):Int)
 t:ix x.g ((((0:Int).toNat:Nat):Int)+i64.wrap ((((x.n:Int).toNat:Nat):Int)-1))=mOf x.s
theorem play_PT {r:wF} (h:rulesE r=0) (h0:0<=r.wP) {l:List wAD} (hl:l.length<=60) (ho:OpsR l):PT (plS r l) r:=by
 obtain⟨H,hH⟩:=play_PH h h0 hl ho
 obtain⟨t,ht⟩:=hH.pos
 obtain⟨hi,hR⟩:=hH.i (plS r l).s (by rw[ht];simp)
 obtain⟨hn1,hg,htop⟩:=hH.top
 have hn2:(plS r l).n<=1+l.length:=play_n l ⟨[mOf (newS r)],1,newS r⟩
 have hw:i64.wrap (((((plS r l).n:Int).toNat:Nat):Int)-1)=(((plS r l).n-1:Nat):Int):=by
  rw[Int.toNat_natCast,kh _ (by omega) (by omega)]
  omega
 refine⟨⟨_,by omega,hi⟩,hR,hn1,by omega,hH.l,hw,?_⟩
 rw[hw,show(((0:Int).toNat:Nat):Int)+(((plS r l).n-1:Nat):Int)=(((plS r l).n-1:Nat):Int)by rw[show(0:Int).toNat=0 from rfl];omega,ix_get _ _ hg]
 exact htop
def aR:wF:=wF.mk 2 2 0 0 0 50 3 5 1
def aA:Int:=rootF (frF 2 [])
def aB1:wV:=wV.mk 0 1 7 0 0 []
def aT:wo:=wo.mk aA [] [wAR.mk 3 2 1 [1,2,3]] 30 0 2 7 0 9 []
def aB2:wV:=wV.mk 0 2 7 0 0 [aT]
def aS2:PS:=⟨aR,frF 2 [],[⟨7,50,0⟩],0,[],[aA,aA],[befS (newS aR) []],[],[]⟩
theorem aR_ok:rulesE aR=0:=by decide +kernel
theorem a_cr1:creditA [] 7 (u64.wrap (50+0))=([⟨7,50,0⟩],0):=by decide +kernel
theorem a_blk1:blkS (newS aR) [] aB1=⟨0,{newS aR with b:=[⟨7,50,0⟩]},[],0⟩:=by
 have h:crB (blkGo aB1.Txs (newS aR) [] 0) aB1=([⟨7,50,0⟩],0):=a_cr1
 unfold blkS
 rw[h]
 rfl
theorem a_ap1:applyS (newS aR) aB1=⟨0,aS2⟩:=by
 unfold applyS
 rw[a_blk1,if_neg (by decide),if_neg (by decide),if_neg (by decide)]
 rfl
theorem aA_u:0<=aA/\aA<18446744069414584321:=by
 have:=k3u (d:=2) (l:=[]) (by decide) (Nat.zero_le _)
 unfold aA
 rw[this]
 exact TT_r (fun x hx=>by cases hx) _ _
theorem aT_v:validE aT=0:=by
 refine(k1n _).2 ⟨by decide,fun x hx=>(by cases hx),List.nodup_nil,by decide,fun x hx=> ?_,by decide +kernel,?_,by decide⟩
 ·have:x=wAR.mk 3 2 1 [1,2,3]:=List.mem_singleton.1 hx
  subst this
  exact(k4s _).1 (by decide +kernel)
 ·unfold vRest
  rw[show aT.wAE=aA from rfl,decide_eq_true aA_u.2]
  rfl
theorem aT_r:TR aT/\TL aT:=by
 refine⟨⟨⟨aA_u.1,Int.lt_trans aA_u.2 (by decide)⟩,fun x hx=>(by cases hx),fun x hx=> ?_,by decide,by decide,by decide,by decide,by decide,by decide,fun x hx=>(by cases hx)⟩,?_⟩
 ·have:x=wAR.mk 3 2 1 [1,2,3]:=List.mem_singleton.1 hx
  subst this
  exact⟨by decide,by decide,by decide,by decide⟩
 ·exact((k1n _).1 aT_v).tl
theorem a_deb:debitA [⟨7,50,0⟩] 7 30 0=([⟨7,20,1⟩],0):=by decide +kernel
theorem a_chk:chkS aS2 aT=0:=by
 have h:chk (2-1:Int) (ancL [aA,aA] 3) [] [⟨7,50,0⟩] 0 0 2 aT=0:=by
  unfold chk
  rw[if_neg (by rw[aT_v];decide),if_neg (by decide),if_neg (fun hh=>hh (by simp[ancL,aT])),if_neg (by decide)]
  rw[show debitA [⟨7,50,0⟩] aT.wZ aT.wM aT.wL=([⟨7,20,1⟩],0)from a_deb,if_neg (fun hh=>hh.2 rfl),if_neg (by decide),if_neg (by decide)]
 exact h
def aF3:wE:=apF (frF 2 []) 3
def aS3:PS:=⟨aR,aF3,[⟨7,20,1⟩],28,[3],[aA,aA],[befS (newS aR) []],[],[]⟩
theorem a_perf:perfS aS2 aT=⟨0,aS3⟩:=by
 have h:wdA aS2.b aT=([⟨7,20,1⟩],0):=by
  unfold wdA depA
  rw[if_neg (by decide),if_pos (by decide)]
  rw[show debitA aS2.b aT.wZ aT.wM aT.wL=([⟨7,20,1⟩],0)from a_deb]
 unfold perfS
 rw[h,if_neg (by decide)]
 have hn:hidN aS2.n aT=28:=by decide +kernel
 rw[hn]
 rfl
def aS4:PS:=⟨aR,aF3,[⟨7,72,1⟩],28,[3],[aA,aA,rootF aF3],[befS (newS aR) [],befS aS2 []],[],[]⟩
theorem a_cr2:creditA [⟨7,20,1⟩] 7 (u64.wrap (50+u64.wrap (0+2)))=([⟨7,72,1⟩],0):=by decide +kernel
theorem a_go:blkGo [aT] aS2 [] 0=⟨0,aS3,[],u64.wrap (0+2)⟩:=by
 unfold blkGo
 rw[a_chk,a_perf,if_neg (by decide),if_neg (by decide)]
 rfl
theorem a_blk2:blkS aS2 [] aB2=⟨0,{aS3 with b:=[⟨7,72,1⟩]},[],u64.wrap (0+2)⟩:=by
 have h:crB ⟨0,aS3,[],u64.wrap (0+2)⟩ aB2=([⟨7,72,1⟩],0):=a_cr2
 unfold blkS
 rw[show aB2.Txs=[aT]from rfl,a_go,h]
 rfl
theorem a_ap2:applyS aS2 aB2=⟨0,aS4⟩:=by
 unfold applyS
 rw[a_blk2,if_neg (by decide),if_neg (by decide),if_neg (by decide)]
 rfl
theorem a_chk2:chkS aS4 aT=20:=by
 have h:chk (3-1:Int) (ancL [aA,aA,rootF aF3] 3) [] [⟨7,72,1⟩] 28 1 2 aT=20:=by
  unfold chk
  rw[if_neg (by rw[aT_v];decide),if_neg (by decide),if_neg (fun hh=>hh (by simp[ancL,aT])),if_neg (by decide)]
  have hd:debitA [⟨7,72,1⟩] 7 30 0=([],20):=by decide +kernel
  rw[show debitA [⟨7,72,1⟩] aT.wZ aT.wM aT.wL=([],20)from hd,if_pos ⟨by decide,by decide⟩]
 exact h
theorem aB1_r:BR' aB1:=⟨⟨by decide,by decide⟩,fun t ht=>(by cases ht),fun t ht=>(by cases ht)⟩
theorem aB2_r:BR' aB2:=⟨⟨by decide,by decide⟩,fun t ht=>(by rw[List.mem_singleton.1 ht];exact aT_r.1),fun t ht=>(by rw[List.mem_singleton.1 ht];exact aT_r.2)⟩
theorem a_PI1:PI (newS aR) 0 0:=new_PI aR_ok (by decide)
theorem a_PI2:PI aS2 1 0:=by
 have:=k5i a_PI1 (b:=aB1) (by decide) aB1_r (by rw[a_ap1])
 rw[a_ap1]at this
 exact this
theorem a_PI4:PI aS4 3 0:=by
 have:=k5i a_PI2 (b:=aB2) (by decide) aB2_r (by rw[a_ap2])
 rw[a_ap2]at this
 exact this
def encA (a:wA):List Int:=dig 8 a.ID++dig 8 a.wR++dig 8 a.wL
def encM (m:wt):List Int:=dig 4 (len4 m.wS)++encL m.wq++encL m.wC++dig 4 (len4 (m.wB.length:Int))++m.wB.flatMap encA++dig 8 m.wz++encL (ancL m.we m.wK)
structure EOk (m:wt):Prop where
 r:ROk m
 l:BG m.wq
 k:BG m.wC
 o:BG m.we
theorem BG.us {l:List Int} (h:BG l):Us l:=fun x hx=>⟨(h x hx).1,by have:=(h x hx).2;omega⟩
theorem PI.eok {s:PS} {c:Nat} {f:Int} (h:PI s c f) (hc:c<=800):EOk (mOf s):=
 ⟨h.rok hc,h.l,fun x hx=>h.kb x ((k1x s.k).mem_iff.1 hx),h.r⟩
theorem k63:∀l:List wA,(l.flatMap encA).length=24*l.length
 |[]=>rfl
 |a::r=>by
  rw[List.flatMap_cons,List.length_append,k63 r,List.length_cons]
  unfold encA
  simp only[List.length_append,kg]
  omega
theorem anc_us {r:List Int} {w:Int} (h:BG r):Us (ancL r w):=fun x hx=>BG.us h x (List.mem_of_mem_drop hx)
theorem anc_len (r:List Int) (w:Int):(ancL r w).length<=r.length:=by unfold ancL;rw[List.length_drop];omega
theorem acc_u {l:List wA} (h:OkA l) {a:wA} (ha:a∈l):U64 a.ID/\U64 a.wR/\U64 a.wL:=by
 have:=h.2.2 a ha
 obtain⟨⟨a1,a2⟩,⟨a3,a4⟩,a5,a6⟩:=this
 exact⟨⟨a1,by omega⟩,⟨a3,by omega⟩,a5,a6⟩
theorem kgg {l:List wA} {i:Nat} (h:i<l.length) (X:List Int):X++(l.take i).flatMap encA++dig 8 l[i].ID++dig 8 l[i].wR++dig 8 l[i].wL=X++(l.take (i+1)).flatMap encA:=by
 rw[List.take_succ_eq_append_getElem h,List.flatMap_append]
 simp[encA,List.append_assoc]
theorem HC.suf:∀{pre l:List PS},l≠[]->HC (pre++l)->HC l
 |[],_,_,h=>h
 |a::pre,l,hl,h=>by
  cases hq:pre++l with
  |nil=>exact(hl (List.append_eq_nil_iff.1 hq).2).elim
  |cons b r=>
   rw[List.cons_append,hq]at h
   exact HC.suf hl (hq▸h.2)
theorem PH.at {x:PL} {h:List PS} {c:Nat} {R:wF} (H:PH x h c R) {pre H' :List PS} {S:PS} (e:h=pre++S::H'):(H'.length<x.n/\H'.length<x.g.length/\ix x.g (H'.length:Int)=mOf S)/\HC (S::H')/\PI S c 0:=by
 have hn:=H.n
 have hl:=H.l
 have hlen:h.length=pre.length+(H'.length+1):=by rw[e,List.length_append,List.length_cons]
 have h2:H'.length<x.g.length:=by omega
 refine⟨⟨by omega,h2,?_⟩,HC.suf (by simp) (e▸H.hc),(H.i S (by rw[e];simp)).1⟩
 have h1:(x.g.take x.n)[H'.length]? =some (mOf S):=by
  rw[H.g,e,List.reverse_append,List.reverse_cons,List.append_assoc,List.map_append,List.getElem?_append_right (by simp)]
  simp
 rw[List.getElem?_take_of_lt (by omega),List.getElem?_eq_getElem h2]at h1
 rw[ix_get _ _ h2]
 exact Option.some.inj h1
theorem HC.u {S:PS} {r:List PS} {c:Nat} (h:HC (S::r)) (hi:PI S c 0) (hc:c<=800):UOk S/\decide (S.p≠[])=decide (0<(r.length:Int)):=by
 cases r with
 |nil=>
  have hp:S.p=[]:=h
  exact⟨hi.uok hc hp,by rw[hp];rfl⟩
 |cons s' r=>
  have h1:=h.1
  exact⟨h1.1,by rw[decide_eq_true h1.2.2,decide_eq_true (by rw[List.length_cons];omega)]⟩
theorem kmt (s:PS):undoS (PS.mk s.R s.F s.b s.n s.l s.r s.p s.k s.v)=undoS s:=rfl
structure BArg (b:wV):Prop where
 m:U64 b.wAM
 n:b.Txs.length<=9223372036854775807
 t:∀t∈b.Txs,TR t/\t.wH.length<=9223372036854775807
def bOp (b:wV):wAD:=wAD.mk false b.wAW b.wS b.wAM b.wh b.wL b.Txs
theorem OArg.snoc {r:wF} {l:List wAD} {b:wV} (h:OArg r l) (hl:l.length<=9000000000000000000) (hb:BArg b):OArg r (l++[bOp b]):=by
 refine⟨h.hr,by rw[List.length_append,List.length_singleton];omega,fun o ho=> ?_,fun o ho=> ?_,fun o ho=> ?_⟩
 ·rcases List.mem_append.1 ho with ho|ho
  ·exact h.m o ho
  ·rw[List.mem_singleton.1 ho];exact hb.m
 ·rcases List.mem_append.1 ho with ho|ho
  ·exact h.n o ho
  ·rw[List.mem_singleton.1 ho];exact hb.n
 ·rcases List.mem_append.1 ho with ho|ho
  ·exact h.t o ho
  ·rw[List.mem_singleton.1 ho];exact hb.t
theorem k34.tr {t:wo} (h:k34 t):TR t/\t.wH.length<=9223372036854775807:=
 ⟨⟨h.wAE,h.wC.2,fun x hx=>let y:=h.wH.2 x hx;⟨y.wn,y.wAI,y.wAJ,y.wv.2⟩,h.wM,h.wQ,h.Fee,h.wZ,h.wL,by have:=h.wAC;omega,h.wAP.2⟩,h.wH.1⟩
theorem k56.tr {b:wV} (h:k56 b):∀x∈b.Txs,TR x/\x.wH.length<=9223372036854775807:=fun x hx=>(h.Txs.2 x hx).tr
theorem l45_arg {p0:wF} {p1:List wAD} (h0:k19 p0) (h1:p1.length<=9223372036854775807/\∀y∈p1,k21 y):OArg p0 p1:=
 ⟨h0.wP.1,h1.1,fun o ho=>(h1.2 o ho).wAK,fun o ho=>(h1.2 o ho).wAB.1,fun o ho t ht=>((h1.2 o ho).wAB.2 t ht).tr⟩
theorem k8o {p0:wF} {p1:List wAD} (h0:k19 p0) (h1:p1.length<=9223372036854775807/\∀y∈p1,k21 y):OArg p0 p1:=l45_arg h0 h1
theorem k84 {p0:wF} {p1:List wAD} (h0:k19 p0) (h1:p1.length<=9223372036854775807/\∀y∈p1,k21 y):OArg p0 p1:=l45_arg h0 h1
theorem k9l {p0:wF} {p1:List wAD} {p2:wo} (h0:k19 p0) (h1:p1.length<=9223372036854775807/\∀y∈p1,k21 y) (h2:k34 p2):OArg p0 p1/\TR p2/\p2.wH.length<=9223372036854775807:=⟨l45_arg h0 h1,h2.tr⟩
theorem k9d {p0:wF} {p1:List wAD} {p2:wo} (h0:k19 p0) (h1:p1.length<=9223372036854775807/\∀y∈p1,k21 y) (h2:k34 p2):OArg p0 p1/\TR p2/\p2.wH.length<=9223372036854775807:=⟨l45_arg h0 h1,h2.tr⟩
theorem kbe {p0:wF} {p1:List wAD} {p2:wV} (h0:k19 p0) (h1:p1.length<=9223372036854775807/\∀y∈p1,k21 y) (h2:k56 p2) (z1:p1.length*72<=140737488351232):OArg p0 p1/\BArg p2/\p1.length*72<=140737488351232:=
 ⟨l45_arg h0 h1,⟨h2.wAM,h2.Txs.1,fun t ht=>(h2.Txs.2 t ht).tr⟩,z1⟩
noncomputable def kj2:Con TB.den:= .g ⟨43,[.one (.ptr 0 0),.one (zqu)],[.cells [.mp 1],.map yqu (.bool)],(.one (.one (.d (.bool)))),[.cells [.mp 1],.map yqu (.bool)],false⟩ [yqu,.sl yqu,.sl (.bool)] [.bool,.sl yqu,.sl (.bool)] [] fun(p1:Int) (w1k:List Int) (w1v:List Bool)=>(w1v=trs w1k,(decide (p1∈w1k):Bool),w1k,w1v,())
theorem kk8:kj2.Ok Tryz.prog TB:=prv Bs Tryz.func43 .no c0 (Q:=∀(p1:Int) (w1k:List Int) (w1v:List Bool),(w1v=trs w1k)->∀r0:Bool,(decide (p1∈w1k))=r0->∀e1k:List Int,w1k=e1k->∀e1v:List Bool,w1v=e1v-> 
 w1k.length=w1v.length/\let v1:Bool:=mVal (BEq.beq p1) w1k w1v false
 v1=r0/\w1k=e1k/\w1v=e1v) (by kernel_rfl)<|by
 rintro p1 w1k w1v h _ rfl _ rfl _ rfl
 subst h
 exact⟨by simp[trs],sVal _ _,rfl,rfl⟩
noncomputable def k97:Con TB.den:= .g ⟨42,[.one (.ptr 0 0)],[.cells [zqi,zqi,zqi,zqi,zqi,zqu,zqi,zqi,zqu,zqi,zqi,zql,.row 1,.ptr 2 0,.d (.sl (.st 8)),zqu,.row 3,.row 4],.vec yqu,.cells [.mp 5],.vec yqu,.vec (.st 9),.map yqu (.bool)],(.one (.one (.view 3))),[.cells [zqi,zqi,zqi,zqi,zqi,zqu,zqi,zqi,zqu,zqi,zqi,zql,.row 1,.ptr 2 0,.d (.sl (.st 8)),zqu,.row 3,.row 4],.vec yqu,.cells [.mp 5],.vec yqu,.vec (.st 9),.map yqu (.bool)],false⟩ [yqi,yqi,yqi,yqi,yqi,yqu,yqi,yqi,yqu,yqi,yqi,.sl yqu,.sl (.st 8),yqu,.sl yqu,.sl yqu,.sl (.st 9),.sl yqu,.sl (.bool)] [yqi,yqi,yqi,yqi,yqi,yqi,yqi,yqu,yqi,yqi,yqu,yqi,yqi,.sl yqu,.sl (.st 8),yqu,.sl yqu,.sl yqu,.sl (.st 9),.sl yqu,.sl (.bool)] [] fun(Ah Af Ai Aj Ak Al Ae Am Ao Ag Ac:Int) (Ad:List Int) (Aa:List wA) (Ab:Int) (w1 w3:List Int) (w4:List wN) (w5k:List Int) (w5v:List Bool)=>((1<=Ae/\Ae<=100)/\w3.length<=1000000,(((w3.length-Ae.toNat:Nat):Int):Int),(((w3.length-(w3.length-Ae.toNat):Nat):Int):Int),Ah,Af,Ai,Aj,Ak,Al,Ae,Am,Ao,Ag,Ac,Ad,Aa,Ab,w1,w3,w4,w5k,w5v,())
theorem k2k:k97.Ok Tryz.prog TB:=prv Bs Tryz.func42 .no c0 (Q:=∀(Ah Af Ai Aj Ak Al Ae Am Ao Ag Ac:Int) (Ad:List Int) (Aa:List wA) (Ab:Int) (w1 w3:List Int) (w4:List wN) (w5k:List Int) (w5v:List Bool),((1<=Ae/\Ae<=100)/\w3.length<=1000000)->∀r0o:Int,((w3.length-Ae.toNat:Nat):Int)=r0o->∀r0n:Int,((w3.length-(w3.length-Ae.toNat):Nat):Int)=r0n->∀Av:Int,Ah=Av->∀Aw:Int,Af=Aw->∀Ax:Int,Ai=Ax->∀Ay:Int,Aj=Ay->∀Az:Int,Ak=Az->∀A0:Int,Al=A0->∀A1:Int,Ae=A1->∀A3:Int,Am=A3->∀A4:Int,Ao=A4->∀A5:Int,Ag=A5->∀Ap:Int,Ac=Ap->∀Aq:List Int,Ad=Aq->∀As:List wA,Aa=As->∀At:Int,Ab=At->∀e1:List Int,w1=e1->∀e3:List Int,w3=e3->∀e4:List wN,w4=e4->∀e5k:List Int,w5k=e5k->∀e5v:List Bool,w5v=e5v-> 
 let v1:Int:=i64.wrap ((w3.length:Int)-(if 0<Ae then Ae else 0))
(0<=(if 0<v1 then v1 else 0))/\(if 0<v1 then v1 else 0)<=(w3.length:Int)/\(w4.length=w4.length)/\(w3.length=w3.length)/\(w1.length=w1.length)/\(((if 0<v1 then v1 else 0).toNat:Nat):Int)=r0o/\((w3.length-(if 0<v1 then v1 else 0).toNat:Nat):Int)=r0n/\Ah=Av/\Af=Aw/\Ai=Ax/\Aj=Ay/\Ak=Az/\Al=A0/\Ae=A1/\Am=A3/\Ao=A4/\Ag=A5/\Ac=Ap/\Ad=Aq/\Aa=As/\Ab=At/\w1=e1/\w3=e3/\w4=e4/\w5k=e5k/\w5v=e5v) (by kernel_rfl)<|by
 rintro Ah Af Ai Aj Ak Al Ae Am Ao Ag Ac Ad Aa Ab w1 w3 w4 w5k w5v h _ rfl _ rfl _ rfl _ rfl _ rfl _ rfl _ rfl _ rfl _ rfl _ rfl _ rfl _ rfl _ rfl _ rfl _ rfl _ rfl _ rfl _ rfl _ rfl _ rfl _ rfl
 obtain⟨⟨h1,h2⟩,h3⟩:=h
 refine ?_
 intro v1
 have hv:v1=(w3.length:Int)-Ae:=by
  show i64.wrap _=_
  rw[if_pos (show 0<Ae by omega),kh _ (by omega) (by omega)]
 have e:(if 0<v1 then v1 else 0)=((w3.length-Ae.toNat:Nat):Int):=by
  rw[hv]
  split<;>omega
 rw[e,Int.toNat_natCast]
 exact⟨by omega,by omega,rfl,rfl,rfl,rfl,rfl,rfl,rfl,rfl,rfl,rfl,rfl,rfl,rfl,rfl,rfl,rfl,rfl,rfl,rfl,rfl,rfl,rfl,rfl,rfl⟩
noncomputable def kfh:Con TB.den:= .tp 107 [yqu] [.bool] [] fun(p0:Int)=>(false,())
theorem k8q:kfh.Ok Tryz.prog TB:=qtv Bs Tryz.func107 .no c0 (Q:=∀(p0:Int),∀r0:Bool,(false:Bool)=r0-> 
(p0 !=p0)=r0) (by kernel_rfl)<|by
 rintro p0 _ rfl
 exact(by simp)
noncomputable def kbn:Con TB.den:= .tp 94 [yqu,yqu] [yqi] [] fun(p0 p1:Int)=>((cmp3 p0 p1:Int),())
theorem kd8:kbn.Ok Tryz.prog TB:=qtv Bs Tryz.func94 .no (k8q.c c0) (Q:=∀(p0 p1:Int),∀r0:Int,cmp3 p0 p1=r0-> 
(false=true->
(false=true->
 0=r0)/\
(false=false->
(-1)=r0))/\
(false=false->
(false=true->
 1=r0)/\
(false=false->
(decide (p0<p1)=true->
(-1)=r0)/\
(decide (p0<p1)=false->
(decide (p1<p0)=true->
 1=r0)/\
(decide (p1<p0)=false->
 0=r0))))) (by kernel_rfl)<|by
 rintro p0 p1 _ rfl
 refine⟨fun e=>(by cases e),fun _=>⟨fun e=>(by cases e),fun _=> ?_⟩⟩
 simp only[decide_eq_true_eq,decide_eq_false_iff_not]
 unfold cmp3
 exact⟨fun h=>by simp[h],fun h=>⟨fun h2=>by simp[h,h2],fun h2=>by simp[h,h2]⟩⟩
noncomputable def k4e:Con TB.den:= .tp 93 [.st 8,yqu] [yqi] [] fun(p0:wA) (p1:Int)=>((cmp3 p0.ID p1:Int),())
theorem k4x:k4e.Ok Tryz.prog TB:=qtv Bs Tryz.func93 .no (kd8.c c0) (Q:=∀(p0:wA) (p1:Int),∀r0:Int,cmp3 p0.ID p1=r0-> 
(cmp3 p0.ID p1)=r0) (by kernel_rfl)<|by
 rintro p0 p1 _ rfl
 exact rfl
noncomputable def k3x:Con TB.den:= .g ⟨92,[.one (.d (.sl (.st 8))),.one (zqu),.one (.k (.fn 93))],[],(.tup [.one (zqi),.one (.d (.bool))]),[],false⟩ [.sl (.st 8),yqu] [yqi,.bool] [] fun(p0:List wA) (p1:Int)=>(Srt p0/\p0.length<4611686018427387904,((lb p0 p1:Int):Int),(fnd p0 p1:Bool),())
theorem k45:k3x.Ok Tryz.prog TB:=prv Bs Tryz.func92 (.r 2 (.nd [] (.lp [] ⟨[],[],[9,10],[.one (zqi),.one (zqi)],[]⟩ .no) [] .no)) (k4x.c c0) (Q:=∀(p0:List wA) (p1:Int),(Srt p0/\p0.length<4611686018427387904)->∀r0:Int,(lb p0 p1:Int)=r0->∀r1:Bool,fnd p0 p1=r1-> 
 ∃(I1:Int->Int->Prop) (M1:Int->Int->Nat),I1 0 (p0.length:Int)/\∀(b1 f1:Int),(I1 b1 f1->
(decide (b1<f1)=true->
 let v2:Int:=u64.wrap (i64.wrap (b1+f1))
(0<=i64.wrap (ishr .u64 v2 1))/\i64.wrap (ishr .u64 v2 1)<(p0.length:Int)/\let r3:Int:=(cmp3 (ix p0 (i64.wrap (ishr .u64 v2 1))).ID p1)
(decide (r3<0)=true->
 let v4:Int:=i64.wrap ((i64.wrap (ishr .u64 v2 1))+1)
 I1 v4 f1/\M1 v4 f1<M1 b1 f1)/\
(decide (r3<0)=false->
 I1 b1 (i64.wrap (ishr .u64 v2 1))/\M1 b1 (i64.wrap (ishr .u64 v2 1))<M1 b1 f1))/\
(decide (b1<f1)=false->
(decide (b1<(p0.length:Int))=true->
(0<=b1)/\b1<(p0.length:Int)/\b1=r0/\((cmp3 (ix p0 b1).ID p1)==0)=r1)/\
(decide (b1<(p0.length:Int))=false->
 b1=r0/\false=r1)))) (by kernel_rfl)<|by
 rintro p0 p1 h _ rfl _ rfl
 obtain⟨hs,hl⟩:=h
 refine(⟨(fun a b=>∃i j:Nat,a=(i:Int)/\b=(j:Int)/\i<=j/\j<=p0.length/\(∀k (h:k<p0.length),k<i->p0[k].ID<p1)/\(∀k (h:k<p0.length),j<=k->p1<=p0[k].ID)),(fun a b=>(b-a).toNat),⟨0,p0.length,rfl,rfl,by omega,by omega,fun k h hk=>by omega,fun k h hk=>by omega⟩,?_⟩)
 rintro _ _ ⟨i,j,rfl,rfl,hij,hj,h1,h2⟩
 refine⟨fun hlt=> ?_,fun hlt=> ?_⟩
 ·have hlt' :i<j:=by have:=of_decide_eq_true hlt;omega
  intro v2
  have e:i64.wrap (ishr .u64 v2 1)=(((i+j)/2:Nat):Int):=mid_eq i j (by omega)
  rw[e]
  have hm:(i+j)/2<p0.length:=by omega
  rw[ix_get _ _ hm]
  refine⟨by omega,by omega,fun hc=> ?_,fun hc=> ?_⟩
  ·have hc:=cmp3_lt.1 (of_decide_eq_true hc)
   refine⟨⟨(i+j)/2+1,j,inc_i64 _ (by omega),rfl,by omega,hj,fun k h hk=> ?_,h2⟩,?_⟩
   ·rcases Nat.lt_or_ge k ((i+j)/2)with h5|h5
    ·have:=hs _ _ h5 hm;omega
    ·have:k=(i+j)/2:=by omega
     subst this;exact hc
   ·rw[inc_i64 _ (by omega)];(dsimp only;omega)
  ·have hc:¬p0[(i+j)/2].ID<p1:=fun hh=>of_decide_eq_false hc (cmp3_lt.2 hh)
   refine⟨⟨i,(i+j)/2,rfl,rfl,by omega,by omega,h1,fun k h hk=> ?_⟩,by(dsimp only;omega)⟩
   rcases Nat.lt_or_ge ((i+j)/2) k with h5|h5
   ·have:=hs _ _ h5 h;omega
   ·have:k=(i+j)/2:=by omega
    subst this;omega
 ·have hij' :i=j:=by have:=of_decide_eq_false hlt;omega
  subst hij'
  have hb:lb p0 p1=i:=lb_eq p0 p1 i hj h1 (fun h=>h2 i h (by omega))
  refine⟨fun hi=> ?_,fun hi=> ?_⟩
  ·have hi:i<p0.length:=by have:=of_decide_eq_true hi;omega
   refine⟨by omega,by omega,by rw[hb],?_⟩
   unfold fnd
   rw[hb,ix_get _ _ hi,List.getElem?_eq_getElem hi]
   show((cmp3 p0[i].ID p1)==0)=decide (p0[i].ID=p1)
   rw[Bool.eq_iff_iff]
   simp[cmp3_eq]
  ·have hi:¬i<p0.length:=by have:=of_decide_eq_false hi;omega
   refine⟨by rw[hb],?_⟩
   unfold fnd
   rw[hb,List.getElem?_eq_none (by omega)]
noncomputable def kbq:Con TB.den:= .gp 66 [.st 12,yqu] [yqi,.bool] [] fun(p0:wl) (p1:Int)=>(Srt p0.wB/\p0.wB.length<4611686018427387904,((lb p0.wB p1:Int):Int),(fnd p0.wB p1:Bool),())
theorem k6l:kbq.Ok Tryz.prog TB:=qrv Bs Tryz.func66 .no (k45.c c0) (Q:=∀(p0:wl) (p1:Int),(Srt p0.wB/\p0.wB.length<4611686018427387904)->∀r0:Int,(lb p0.wB p1:Int)=r0->∀r1:Bool,fnd p0.wB p1=r1-> 
(Srt p0.wB/\p0.wB.length<4611686018427387904)/\(lb p0.wB p1:Int)=r0/\(fnd p0.wB p1)=r1) (by kernel_rfl)<|by
 rintro p0 p1 h _ rfl _ rfl
 exact⟨h,rfl,rfl⟩
noncomputable def kdj:Con TB.den:= .bp 31 [.st 12,yqu] [yqu,yqu] fun(p0:wl) (p1:Int)=>(Srt p0.wB/\p0.wB.length<4611686018427387904,getA p0.wB p1,fun R=>(R.wR,R.wL,()))
theorem k47:kdj.Ok Tryz.prog TB:=qbv Bs Tryz.func31 .no (k6l.c c0) (Q:=∀(p0:wl) (p1:Int),(Srt p0.wB/\p0.wB.length<4611686018427387904)->∀R,getA p0.wB p1=R-> 
(Srt p0.wB/\p0.wB.length<4611686018427387904)/\((!(fnd p0.wB p1))=true->
 0=R.wR/\0=R.wL)/\
((!(fnd p0.wB p1))=false->
(0<=(lb p0.wB p1:Int))/\(lb p0.wB p1:Int)<(p0.wB.length:Int)/\let v2:Int:=(ix p0.wB (lb p0.wB p1:Int)).wR
(0<=(lb p0.wB p1:Int))/\(lb p0.wB p1:Int)<(p0.wB.length:Int)/\let v3:Int:=(ix p0.wB (lb p0.wB p1:Int)).wL
 v2=R.wR/\v3=R.wL)) (by kernel_rfl)<|by
 rintro p0 p1 h R hR
 subst hR
 refine⟨h,fun hh=> ?_,fun hh=> ?_⟩
 ·have hf:fnd p0.wB p1=false:=by simpa using hh
  rw[getA_no h.1 hf]
  exact⟨rfl,rfl⟩
 ·have hf:fnd p0.wB p1=true:=by simpa using hh
  obtain⟨hb,_⟩:=k5f hf
  rw[getA_of h.1 hf hb,ix_get _ _ hb]
  exact⟨by omega,by omega,by omega,by omega,rfl,rfl⟩
noncomputable def k48:Con TB.den:= .g ⟨38,[.one (.d (.sl (.st 8)))],[],(.one (.one (.own 0))),[.tip (.st 8)],false⟩ [.sl (.st 8)] [.sl (.st 8)] [] fun(p0:List wA)=>(p0.length<=100000,p0,())
theorem k4i:k48.Ok Tryz.prog TB:=prv Bs Tryz.func38 (.r 0 (.nd [] (.r 0 (.nd [] (.r 0 (.rt [.tok 2 (.st 8)])) [] .no)) [] .no)) c0 (Q:=∀(p0:List wA),(p0.length<=100000)->∀e0:List wA,p0=e0-> 
 ∀z4:Bool,(z4=true->p0=[])->(z4=true->
(([]:List wA)=([]:List wA))/\([]:List wA)=e0)/\
(z4=false->
(([]:List wA).length+p0.length)*24<=140737488355328/\([]:List wA).length+p0.length<=maxLen/\(([]:List wA)++p0=([]:List wA)++p0)/\([]:List wA)++p0=e0)) (by kernel_rfl)<|by
 rintro p0 h _ rfl
 exact fun z hz=>⟨fun h=>⟨rfl,(hz h).symm⟩,fun _=>⟨by simp;omega,by simp;unfold maxLen;omega,rfl,rfl⟩⟩
noncomputable def kdb:Con TB.den:= .gp 75 [.st 12,.st 8] [.st 12] [] fun(p0:wl) (p1:wA)=>(Srt p0.wB/\p0.wB.length<=1000,(wl.mk (putA p0.wB p1):wl),())
theorem k7q:kdb.Ok Tryz.prog TB:=qrv Bs Tryz.func75 (.r 2 (.jn ⟨[3],[.tip (.st 8)],[7],[.one (.own 0)],[]⟩ [] (.jn ⟨[],[],[27],[.one (.d (.bool))],[]⟩ [] .no [] .no) [] (.jn ⟨[],[],[5],[.one (zqi)],[]⟩ [] .no [] .no))) (k6l.c (k4i.c c0)) (Q:=∀(p0:wl) (p1:wA),(Srt p0.wB/\p0.wB.length<=1000)->∀r0:wl,(wl.mk (putA p0.wB p1))=r0-> 
(Srt p0.wB/\p0.wB.length<4611686018427387904)/\(0<=(lb p0.wB p1.ID:Int))/\(lb p0.wB p1.ID:Int)<=(p0.wB.length:Int)/\let v1:List wA:=p0.wB.take (lb p0.wB p1.ID:Int).toNat
(v1.length<=100000)/\∀J1:(List wA)->Prop,(∀(b1:List wA),
(∀J3:Int->Prop,(∀(i1:Int),
((0<=i1)/\i1<=(p0.wB.length:Int)/\b1.length=b1.length/\(b1.length+(p0.wB.drop i1.toNat).length)*24<=140737488355328/\b1.length+(p0.wB.drop i1.toNat).length<=maxLen/\b1++(p0.wB.drop i1.toNat)=r0.wB)->J3 i1)->
((fnd p0.wB p1.ID)=true->
 let v2:Int:=i64.wrap ((lb p0.wB p1.ID:Int)+1)
 J3 v2)/\
((fnd p0.wB p1.ID)=false->
 J3 (lb p0.wB p1.ID:Int)))->J1 b1)->
 ∀J2:Bool->Prop,(∀(f1:Bool),
((f1=true->
 v1.length=v1.length/\(v1.length+[p1].length)*24<=140737488355328/\v1.length+[p1].length<=maxLen/\(v1++[p1]=v1++[p1])/\J1 (v1++[p1]))/\
(f1=false->
(v1=v1)/\J1 v1))->J2 f1)->
((p1.wR !=0)=true->
 J2 true)/\
((p1.wR !=0)=false->
 J2 (p1.wL !=0))) (by kernel_rfl)<|by
 rintro p0 p1 h _ rfl
 obtain⟨hs,hl⟩:=h
 have hlb:=lb_le p0.wB p1.ID
 refine⟨⟨hs,by omega⟩,by omega,by omega,?_⟩
 simp only[Int.toNat_natCast]
 refine⟨by simp;omega,fun J1 j1=> ?_⟩
 have hJ1:∀m:List wA,m=p0.wB.take (lb p0.wB p1.ID)++(if p1.wR≠0∨p1.wL≠0 then [p1]else [])->J1 m:=by
  intro m hm
  have hml:m.length<=1001:=by
   rw[hm];simp only[List.length_append,List.length_take];split<;>simp<;>omega
  refine j1 _ fun J3 j3=> ?_
  have hJ3:∀n:Nat,n<=p0.wB.length->m++p0.wB.drop n=putA p0.wB p1->J3 (n:Int):=by
   intro n hn he
   have:=(List.length_drop:(p0.wB.drop n).length=_)
   refine j3 _ ⟨by omega,by omega,by first|exact rfl|exact True.intro,?_,?_,?_⟩
   ·simp only[Int.toNat_natCast];omega
   ·simp only[Int.toNat_natCast];unfold maxLen;omega
   ·simp only[Int.toNat_natCast];exact he
  refine⟨fun hf=> ?_,fun hf=> ?_⟩
  ·obtain⟨hb,_⟩:=k5f hf
   rw[inc_i64 _ (by omega)]
   refine hJ3 _ (by omega) ?_
   rw[hm]
   unfold putA
   rw[hf]
   rfl
  ·refine hJ3 _ (by omega) ?_
   rw[hm]
   unfold putA
   rw[hf]
   rfl
 intro J2 j2
 have hJ2:∀b:Bool,(b=true↔(p1.wR≠0∨p1.wL≠0))->J2 b:=by
  intro b hb
  refine j2 _ ⟨fun e=> ?_,fun e=> ?_⟩
  ·have hlt:(p0.wB.take (lb p0.wB p1.ID)).length<=1000:=by rw[List.length_take];omega
   refine⟨by first|exact rfl|exact True.intro,(len24 _ _ (Nat.le_trans hlt (by decide))).1,(len24 _ _ (Nat.le_trans hlt (by decide))).2,by first|exact rfl|exact True.intro,hJ1 _ ?_⟩
   rw[if_pos (hb.1 e)]
  ·refine⟨by first|exact rfl|exact True.intro,hJ1 _ ?_⟩
   rw[if_neg (fun hh=>by rw[hb.2 hh]at e;cases e)]
   exact(List.append_nil _).symm
 refine⟨fun e=>hJ2 _ ?_,fun e=>hJ2 _ ?_⟩
 ·have:p1.wR≠0:=by simpa using e
  simp[this]
 ·have:p1.wR=0:=by simpa using e
  simp[this]
noncomputable def kb2:Con TB.den:= .gp 44 [.st 12,yqu,yqu,yqu] [.st 12,yqi] [] fun(p0:wl) (p1 p2 p3:Int)=>(OkA p0.wB/\U64 p2/\U64 p3,(wl.mk (debitA p0.wB p1 p2 p3).1:wl),((debitA p0.wB p1 p2 p3).2:Int),())
theorem k5v:kb2.Ok Tryz.prog TB:=qrv Bs Tryz.func44 (.r 2 (.nd [] (.jn ⟨[],[],[27],[.one (.d (.bool))],[]⟩ [] .no [] .no) [] .no)) (k47.c (k7q.c c0)) (Q:=∀(p0:wl) (p1 p2 p3:Int),(OkA p0.wB/\U64 p2/\U64 p3)->∀r0:wl,(wl.mk (debitA p0.wB p1 p2 p3).1)=r0->∀r1:Int,((debitA p0.wB p1 p2 p3).2)=r1-> 
(Srt p0.wB/\p0.wB.length<4611686018427387904)/\((p2==0)=true->
([]:List wA)=r0.wB/\1=r1)/\
((p2==0)=false->
 ∀J1:Bool->Prop,(∀(b1:Bool),
((b1=true->
([]:List wA)=r0.wB/\20=r1)/\
(b1=false->
 let v2:Bool:=decide (((getA p0.wB p1).wR)<p2)
(v2=true->
([]:List wA)=r0.wB/\15=r1)/\
(v2=false->
 let v3:Int:=u64.wrap (((getA p0.wB p1).wR)-p2)
(Srt p0.wB/\p0.wB.length<=1000)/\let r4:List wA:=(putA p0.wB (wA.mk p1 v3 (u64.wrap (p3+1))))
 r4=r0.wB/\0=r1)))->J1 b1)->
((p3 !=((getA p0.wB p1).wL))=true->
 J1 true)/\
((p3 !=((getA p0.wB p1).wL))=false->
 J1 (p3==18446744073709551615)))) (by kernel_rfl)<|by
 rintro p0 p1 p2 p3 h _ rfl _ rfl
 obtain⟨h,⟨ha,ha'⟩,hn,hn'⟩:=h
 obtain⟨g1,g2⟩:=getA_ok h p1
 refine⟨⟨h.1,by have:=h.2.1;omega⟩,fun hh=> ?_,fun hh J1 j=> ?_⟩
 ·have:p2=0:=by simpa using hh
  simp[debitA,this]
 have h0:p2≠0:=by simpa using hh
 have key:∀b:Bool,(b=true↔(p3≠(getA p0.wB p1).wL∨p3=18446744073709551615))->J1 b:=by
  intro b hb
  refine j _ ⟨fun e=> ?_,fun e=> ?_⟩
  ·simp only[debitA,if_neg h0,if_pos (hb.1 e)]
   exact⟨by first|exact rfl|exact True.intro,by first|exact rfl|exact True.intro⟩
  ·have h1:¬(p3≠(getA p0.wB p1).wL∨p3=18446744073709551615):=fun hh=>by rw[hb.2 hh]at e;cases e
   simp only[debitA,if_neg h0,if_neg h1]
   refine⟨fun hh=> ?_,fun hh=> ?_⟩
   ·have:=of_decide_eq_true hh
    simp[this]
   ·have h2:=of_decide_eq_false hh
    simp only[if_neg h2]
    have:p3≠18446744073709551615:=fun e=>h1 (.inr e)
    rw[wrap_u64 _ (by omega) (by omega),wrap_u64 (p3+1) (by omega) (by omega)]
    exact⟨⟨h.1,h.2.1⟩,rfl,by first|exact rfl|exact True.intro⟩
 refine⟨fun e=>key _ ?_,fun e=>key _ ?_⟩
 ·have:p3≠(getA p0.wB p1).wL:=by simpa using e
  simp[this]
 ·have:p3=(getA p0.wB p1).wL:=by simpa using e
  rw[this];simp
noncomputable def k8j:Con TB.den:= .g ⟨74,[.one (.view 0),.one (zqu)],[.vec yqu],(.one (.one (zqi))),[.vec yqu],false⟩ [yqi,yqi,yqu,.sl yqu] [yqi,.sl yqu] [] fun(p0o p0n p1:Int) (w0:List Int)=>(0<=p0o/\0<=p0n/\p0o.toNat+p0n.toNat<=w0.length/\w0.length<=1000000,(idxI ((w0.drop p0o.toNat).take p0n.toNat) p1:Int),w0,())
theorem k9h:k8j.Ok Tryz.prog TB:=prv Bs Tryz.func74 (.r 0 (.nd [] (.r 0 (.lp [] ⟨[],[],[8],[.one (zqi)],[]⟩ .no)) [] .no)) c0 (Q:=∀(p0o p0n p1:Int) (w0:List Int),(0<=p0o/\0<=p0n/\p0o.toNat+p0n.toNat<=w0.length/\w0.length<=1000000)->∀r0:Int,(idxI ((w0.drop p0o.toNat).take p0n.toNat) p1)=r0->∀e0:List Int,w0=e0-> 
 ∃(I1:Int->Prop) (M1:Int->Nat),I1 0/\∀(b1:Int),(I1 b1->
(decide (b1<(p0n.toNat:Int))=true->
(0<=b1/\b1<(p0n.toNat:Int))/\(0<=((p0o.toNat:Int)+b1)/\((p0o.toNat:Int)+b1)<(w0.length:Int))/\((p1==(ix w0 ((p0o.toNat:Int)+b1)))=true->
 b1=r0/\w0=e0)/\
((p1==(ix w0 ((p0o.toNat:Int)+b1)))=false->
 I1 (i64.wrap (b1+1))/\M1 (i64.wrap (b1+1))<M1 b1))/\
(decide (b1<(p0n.toNat:Int))=false->
(-1)=r0/\w0=e0))) (by kernel_rfl)<|by
 rintro p0o p0n p1 w0 h _ rfl _ rfl
 obtain⟨h0,h1,h2,h3⟩:=h
 obtain⟨o,rfl⟩:=Int.eq_ofNat_of_zero_le h0
 obtain⟨n,rfl⟩:=Int.eq_ofNat_of_zero_le h1
 simp only[Int.toNat_natCast]at h2 ⊢
 have hl:((w0.drop o).take n).length=n:=by simp;omega
 refine⟨(fun c=>∃i:Nat,c=(i:Int)/\i<=n/\p1∉((w0.drop o).take n).take i),(fun c=>(n-c).toNat),⟨0,rfl,by omega,by simp⟩,?_⟩
 rintro _ ⟨i,rfl,hi,hm⟩
 refine⟨fun e=> ?_,fun e=> ?_⟩
 ·have e:i<n:=by have:=of_decide_eq_true e;omega
  have hw:o+i<w0.length:=by omega
  have hg:((w0.drop o).take n)[i]'(by omega)=w0[o+i]:=by simp
  have hx:ix w0 ((o:Int)+(i:Int))=w0[o+i]:=by rw[show(o:Int)+(i:Int)=((o+i:Nat):Int)by omega,ix_get _ _ hw]
  rw[hx]
  refine⟨by omega,by omega,fun e2=> ?_,fun e2=> ?_⟩
  ·have e2:p1=w0[o+i]:=by simpa using e2
   unfold idxI
   rw[if_pos (by rw[e2,<-hg];exact List.getElem_mem _)]
   have:((w0.drop o).take n).idxOf p1=i:=by
    conv=>lhs;rw[<-List.take_append_drop i ((w0.drop o).take n)]
    rw[List.idxOf_append,if_neg hm,List.drop_eq_getElem_cons (show i<((w0.drop o).take n).length by omega),hg,<-e2,List.idxOf_cons_self,List.length_take]
    omega
   rw[this]
   exact⟨rfl,trivial⟩
  ·have e2:¬p1=w0[o+i]:=by simpa using e2
   rw[inc_i64 _ (by omega)]
   refine⟨⟨i+1,rfl,by omega,?_⟩,by(dsimp only;omega)⟩
   rw[List.take_succ_eq_append_getElem (show i<((w0.drop o).take n).length by omega),hg]
   simp only[List.mem_append,List.mem_singleton]
   exact fun hh=>hh.elim hm e2
 ·have e:i=n:=by have:=of_decide_eq_false e;omega
  rw[List.take_of_length_le (by omega)]at hm
  unfold idxI
  rw[if_neg hm]
  exact⟨rfl,trivial⟩
noncomputable def k6k:Con TB.den:= .g ⟨41,[.one (.view 0),.one (zqu)],[.vec yqu],(.one (.one (.d (.bool)))),[.vec yqu],false⟩ [yqi,yqi,yqu,.sl yqu] [.bool,.sl yqu] [] fun(p0o p0n p1:Int) (w0:List Int)=>(0<=p0o/\0<=p0n/\p0o.toNat+p0n.toNat<=w0.length/\w0.length<=1000000,(decide (p1∈(w0.drop p0o.toNat).take p0n.toNat):Bool),w0,())
theorem k72:k6k.Ok Tryz.prog TB:=prv Bs Tryz.func41 .no (k9h.c c0) (Q:=∀(p0o p0n p1:Int) (w0:List Int),(0<=p0o/\0<=p0n/\p0o.toNat+p0n.toNat<=w0.length/\w0.length<=1000000)->∀r0:Bool,(decide (p1∈(w0.drop p0o.toNat).take p0n.toNat))=r0->∀e0:List Int,w0=e0-> 
(0<=(p0o.toNat:Int)/\0<=(p0n.toNat:Int)/\(p0o.toNat:Int).toNat+(p0n.toNat:Int).toNat<=w0.length/\w0.length<=1000000)/\let r1:Int:=(idxI ((w0.drop (p0o.toNat:Int).toNat).take (p0n.toNat:Int).toNat) p1)
 decide (0<=r1)=r0/\w0=e0) (by kernel_rfl)<|by
 rintro p0o p0n p1 w0 h _ rfl _ rfl
 have h' :=h
 obtain⟨h0,h1,h2,h3⟩:=h
 obtain⟨o,rfl⟩:=Int.eq_ofNat_of_zero_le h0
 obtain⟨n,rfl⟩:=Int.eq_ofNat_of_zero_le h1
 refine⟨h',?_,rfl⟩
 simp only[Int.toNat_natCast]
 unfold idxI
 by_cases hm:p1∈(w0.drop o).take n
 ·simp[hm]
 ·simp[hm]
noncomputable def k83:Con TB.den:= .tp 73 [.st 2] [.bool] [] fun(p0:wo)=>((vAmounts p0:Bool),())
theorem k8y:k83.Ok Tryz.prog TB:=qtv Bs Tryz.func73 .no c0 (Q:=∀(p0:wo),∀r0:Bool,vAmounts p0=r0-> 
(decide (4294967295<p0.wM)=true->
 false=r0)/\
(decide (4294967295<p0.wM)=false->
(decide (4294967295<p0.wQ)=true->
 false=r0)/\
(decide (4294967295<p0.wQ)=false->
(decide (4294967295<p0.Fee)=true->
 false=r0)/\
(decide (4294967295<p0.Fee)=false->
 let v1:Bool:=decide (18446744069414584321<=p0.wZ)
(v1=true->
 false=r0)/\
(v1=false->
(decide (18446744069414584321<=p0.wL)=true->
 false=r0)/\
(decide (18446744069414584321<=p0.wL)=false->
(decide (0<p0.wM)=true->
(p0.wQ==0)=r0)/\
(decide (0<p0.wM)=false->
(((p0.wC.length:Int)==0)=true->
 false=r0)/\
(((p0.wC.length:Int)==0)=false->
((p0.wL !=0)=true->
 false=r0)/\
((p0.wL !=0)=false->
(decide (0<p0.wQ)=true->
 true=r0)/\
(decide (0<p0.wQ)=false->
(p0.wZ==0)=r0)))))))))) (by kernel_rfl)<|by
 rintro p0 _ rfl
 refine ?_
 unfold vAmounts
 try simp only[]
 repeat' (apply And.intro<;>intro h)
 all_goals simp only[decide_eq_true_eq,decide_eq_false_iff_not,beq_iff_eq,bne_iff_ne,Bool.not_eq_true,beq_eq_false_iff_ne,bne_eq_false_iff_eq,List.isEmpty_iff,Int.natCast_eq_zero,List.length_eq_zero_iff]at *
 all_goals simp[*]
 all_goals grind
noncomputable def kav:Con TB.den:= .gp 74 [.sl yqu,yqu] [yqi] [] fun(p0:List Int) (p1:Int)=>(p0.length<=9223372036854775807,(idxI p0 p1:Int),())
theorem kcw:kav.Ok Tryz.prog TB:=qrv Bs Tryz.func74 (.r 0 (.nd [] (.r 0 (.lp [] ⟨[],[],[8],[.one (zqi)],[]⟩ .no)) [] .no)) c0 (Q:=∀(p0:List Int) (p1:Int),(p0.length<=9223372036854775807)->∀r0:Int,idxI p0 p1=r0-> 
 ∃(I1:Int->Prop) (M1:Int->Nat),I1 0/\∀(b1:Int),(I1 b1->
(decide (b1<(p0.length:Int))=true->
(0<=b1)/\b1<(p0.length:Int)/\((p1==(ix p0 b1))=true->
 b1=r0)/\
((p1==(ix p0 b1))=false->
 I1 (i64.wrap (b1+1))/\M1 (i64.wrap (b1+1))<M1 b1))/\
(decide (b1<(p0.length:Int))=false->
(-1)=r0))) (by kernel_rfl)<|by
 rintro p0 p1 h _ rfl
 refine(⟨(fun i=>0<=i/\i<=p0.length/\p1∉p0.take i.toNat),(fun i=>(p0.length-i).toNat),⟨by omega,by omega,by simp⟩,?_⟩)
 rintro i ⟨g0,g1,g2⟩
 refine⟨fun h=> ?_,fun h=> ?_⟩
 ·have h:=of_decide_eq_true h
  refine⟨g0,h,fun e=> ?_,fun e=> ?_⟩
  ·have e:p1=ix p0 i:=by simpa using e
   unfold idxI
   rw[if_pos (by rw[e];exact ix_mem p0 i g0 h)]
   have:p0.idxOf p1=i.toNat:=by
    conv=>lhs;rw[<-List.take_append_drop i.toNat p0]
    rw[List.idxOf_append,if_neg g2,drop_ix p0 i g0 h,<-e,List.idxOf_cons_self,List.length_take]
    omega
   rw[this]
   omega
  ·have e:¬p1=ix p0 i:=by simpa using e
   rw[inc i p0.length g0 h (by omega)]
   refine⟨⟨by omega,by omega,?_⟩,by(dsimp only;omega)⟩
   rw[ki p0 i g0 h]
   simp only[List.mem_append,List.mem_singleton]
   exact fun hh=>hh.elim g2 e
 ·have h:=of_decide_eq_false h
  rw[List.take_of_length_le (by omega)]at g2
  unfold idxI
  rw[if_neg g2]
noncomputable def k82:Con TB.den:= .gp 41 [.sl yqu,yqu] [.bool] [] fun(p0:List Int) (p1:Int)=>(p0.length<=9223372036854775807,(decide (p1∈p0):Bool),())
theorem k8i:k82.Ok Tryz.prog TB:=qrv Bs Tryz.func41 .no (kcw.c c0) (Q:=∀(p0:List Int) (p1:Int),(p0.length<=9223372036854775807)->∀r0:Bool,(decide (p1∈p0))=r0-> 
(p0.length<=9223372036854775807)/\decide (0<=(idxI p0 p1))=r0) (by kernel_rfl)<|by
 rintro p0 p1 h _ rfl
 refine⟨h,?_⟩
 unfold idxI
 by_cases hm:p1∈p0
 ·simp[hm]
 ·simp[hm]
noncomputable def k9o:Con TB.den:= .tp 71 [.sl yqu] [.bool] [] fun(p0:List Int)=>((vMarks p0:Bool),())
theorem kbk:k9o.Ok Tryz.prog TB:=qtv Bs Tryz.func71 (.r 1 (.nd [] (.r 0 (.lp [] ⟨[],[],[10],[.one (zqi)],[]⟩ .no)) [] .no)) (k8i.c c0) (Q:=∀(p0:List Int),∀r0:Bool,vMarks p0=r0-> 
(decide (4<(p0.length:Int))=true->
 false=r0)/\
(decide (4<(p0.length:Int))=false->
 ∃(I1:Int->Prop) (M1:Int->Nat),I1 0/\∀(b1:Int),(I1 b1->
(decide (b1<(p0.length:Int))=true->
(0<=b1)/\b1<(p0.length:Int)/\let v1:Bool:=decide (18446744069414584321<=(ix p0 b1))
(v1=true->
 false=r0)/\
(v1=false->
(0<=b1)/\b1<=(p0.length:Int)/\((p0.take b1.toNat).length<=9223372036854775807)/\let r2:Bool:=(decide ((ix p0 b1)∈(p0.take b1.toNat)))
(r2=true->
 false=r0)/\
(r2=false->
 I1 (i64.wrap (b1+1))/\M1 (i64.wrap (b1+1))<M1 b1)))/\
(decide (b1<(p0.length:Int))=false->
 true=r0)))) (by kernel_rfl)<|by
 rintro p0 _ rfl
 refine⟨fun h=> ?_,fun h=> ?_⟩
 ·have h:=of_decide_eq_true h
  unfold vMarks
  rw[decide_eq_false (by omega)]
  rfl
 ·have h:=of_decide_eq_false h
  refine⟨(fun i=>0<=i/\i<=p0.length/\(∀x∈p0.take i.toNat,x<18446744069414584321)/\(p0.take i.toNat).Nodup),(fun i=>(p0.length-i).toNat),⟨by omega,by omega,by simp,by simp⟩,?_⟩
  rintro i ⟨g0,g1,g2,g3⟩
  refine⟨fun hh=> ?_,fun hh=> ?_⟩
  ·have hh:=of_decide_eq_true hh
   have hm:=ix_mem p0 i g0 hh
   refine⟨g0,hh,fun e=> ?_,fun e=>⟨g0,by omega,by simp;omega,fun e2=> ?_,fun e2=> ?_⟩⟩
   ·have e:=of_decide_eq_true e
    unfold vMarks
    have:p0.all (fun x=>decide (x<18446744069414584321))=false:=List.all_eq_false.2 ⟨_,hm,by simp;omega⟩
    rw[this]
    simp
   ·have e2:=of_decide_eq_true e2
    unfold vMarks
    have:¬p0.Nodup:=by
     intro hn
     rw[<-List.take_append_drop i.toNat p0,drop_ix p0 i g0 hh]at hn
     have:=(List.nodup_append.1 hn).2.2 _ e2 _ (List.mem_cons_self ..)
     exact this rfl
    rw[decide_eq_false this]
    simp
   ·have e:=of_decide_eq_false e
    have e2:=of_decide_eq_false e2
    rw[inc i p0.length g0 hh (by omega)]
    refine⟨⟨by omega,by omega,?_,?_⟩,by(dsimp only;omega)⟩
    ·rw[ki p0 i g0 hh]
     intro x hx
     rcases List.mem_append.1 hx with hx|hx
     ·exact g2 x hx
     ·have:x=ix p0 i:=by simpa using hx
      omega
    ·rw[ki p0 i g0 hh]
     refine List.nodup_append.2 ⟨g3,by simp,fun a ha b hb=> ?_⟩
     have:b=ix p0 i:=by simpa using hb
     rintro rfl
     exact e2 (this▸ha)
  ·have hh:=of_decide_eq_false hh
   rw[List.take_of_length_le (by omega)]at g2 g3
   unfold vMarks
   have:p0.all (fun x=>decide (x<18446744069414584321))=true:=by simpa using g2
   rw[this,decide_eq_true g3,decide_eq_true (by omega)]
   rfl
noncomputable def kbv:Con TB.den:= .tp 98 [.st 11] [.bool] [] fun(p0:wAY)=>((vPoint p0.a0 p0.a1:Bool),())
theorem kd7:kbv.Ok Tryz.prog TB:=qtv Bs Tryz.func98 .no c0 (Q:=∀(p0:wAY),∀r0:Bool,vPoint p0.a0 p0.a1=r0-> 
(decide (p0.a0<18446744069414584321)=true->
(decide (p0.a1<18446744069414584321)=true->
((p0.a0 !=0)=true->
 true=r0)/\
((p0.a0 !=0)=false->
(p0.a1 !=0)=r0))/\
(decide (p0.a1<18446744069414584321)=false->
 false=r0))/\
(decide (p0.a0<18446744069414584321)=false->
 false=r0)) (by kernel_rfl)<|by
 rintro p0 _ rfl
 refine ?_
 unfold vPoint
 refine⟨fun h=>⟨fun h1=>⟨fun h2=> ?_,fun h2=> ?_⟩,fun h1=> ?_⟩,fun h=> ?_⟩<;>simp_all<;>omega
noncomputable def kbi:Con TB.den:= .tp 72 [.sl (.st 1)] [.bool] [] fun(p0:List wAR)=>((vOuts p0:Bool),())
theorem kcl:kbi.Ok Tryz.prog TB:=qtv Bs Tryz.func72 (.r 1 (.nd [] (.r 0 (.lp [] ⟨[],[],[12],[.one (zqi)],[]⟩ (.r 1 (.nd [] (.r 2 (.lp [] ⟨[],[],[34],[.one (zqi)],[]⟩ .no)) [] .no)))) [] .no)) (kd7.c c0) (Q:=∀(p0:List wAR),∀r0:Bool,vOuts p0=r0-> 
(decide (4<(p0.length:Int))=true->
 false=r0)/\
(decide (4<(p0.length:Int))=false->
 ∃(I1:Int->Prop) (M1:Int->Nat),I1 0/\∀(b1:Int),(I1 b1->
(decide (b1<(p0.length:Int))=true->
(0<=b1)/\b1<(p0.length:Int)/\let v1:Bool:=decide (18446744069414584321<=((ix p0 b1).wn))
(v1=true->
 false=r0)/\
(v1=false->
 let r2:Bool:=(vPoint (wAY.mk ((ix p0 b1).wAI) ((ix p0 b1).wAJ)).a0 (wAY.mk ((ix p0 b1).wAI) ((ix p0 b1).wAJ)).a1)
((!r2)=true->
 false=r0)/\
((!r2)=false->
 let v3:Bool:=((((ix p0 b1).wv).length:Int) !=3)
(v3=true->
 false=r0)/\
(v3=false->
 ∃(I2:Int->Prop) (M2:Int->Nat),I2 0/\∀(f1:Int),(I2 f1->
 let v4:Bool:=decide (f1<(((ix p0 b1).wv).length:Int))
(v4=true->
(0<=f1)/\f1<(((ix p0 b1).wv).length:Int)/\let v5:Bool:=decide (18446744069414584321<=(ix ((ix p0 b1).wv) f1))
(v5=true->
 false=r0)/\
(v5=false->
 I2 (i64.wrap (f1+1))/\M2 (i64.wrap (f1+1))<M2 f1))/\
(v4=false->
 I1 (i64.wrap (b1+1))/\M1 (i64.wrap (b1+1))<M1 b1))))))/\
(decide (b1<(p0.length:Int))=false->
 true=r0)))) (by kernel_rfl)<|by
 rintro p0 _ rfl
 refine⟨fun h=> ?_,fun h=> ?_⟩
 ·have h:=of_decide_eq_true h
  unfold vOuts
  rw[decide_eq_false (by omega)]
  rfl
 ·have h:=of_decide_eq_false h
  have bad:∀i,0<=i->i<(p0.length:Int)->vOut (ix p0 i)=false->false=vOuts p0:=by
   intro i h0 h1 hb
   unfold vOuts
   have:p0.all vOut=false:=List.all_eq_false.2 ⟨_,ix_mem p0 i h0 h1,by simp[hb]⟩
   rw[this]
   simp
  refine⟨(fun i=>0<=i/\i<=p0.length/\∀x∈p0.take i.toNat,vOut x=true),(fun i=>(p0.length-i).toNat),⟨by omega,by omega,by simp⟩,?_⟩
  rintro i ⟨g0,g1,g2⟩
  refine⟨fun hh=> ?_,fun hh=> ?_⟩
  ·have hh:=of_decide_eq_true hh
   have bd:=bad i g0 hh
   unfold vOut at bd
   refine⟨g0,hh,fun e=>bd ?_,fun e=>⟨fun e2=>bd ?_,fun e2=>⟨fun e3=>bd ?_,fun e3=> ?_⟩⟩⟩
   ·have e:=of_decide_eq_true e
    rw[decide_eq_false (by omega)]
    rfl
   ·have e2:vPoint (ix p0 i).wAI (ix p0 i).wAJ=false:=by simpa using e2
    simp[e2]
   ·have e3:¬(ix p0 i).wv.length=3:=by
     have:¬((ix p0 i).wv.length:Int)=3:=by simpa using e3
     omega
    simp[e3]
   ·have e:=of_decide_eq_false e
    have e2:vPoint (ix p0 i).wAI (ix p0 i).wAJ=true:=by simpa using e2
    have e3:(ix p0 i).wv.length=3:=by
     have:((ix p0 i).wv.length:Int)=3:=by simpa using e3
     omega
    refine⟨(fun k=>0<=k/\k<=3/\∀x∈(ix p0 i).wv.take k.toNat,x<18446744069414584321),(fun k=>(3-k).toNat),⟨by omega,by omega,by simp⟩,?_⟩
    rintro k ⟨k0,k1,k2⟩
    refine⟨fun hk=> ?_,fun hk=> ?_⟩
    ·have hk:=of_decide_eq_true hk
     refine⟨k0,hk,fun e4=>bd ?_,fun e4=> ?_⟩
     ·have e4:=of_decide_eq_true e4
      have:(ix p0 i).wv.all (fun n=>decide (n<18446744069414584321))=false:=List.all_eq_false.2 ⟨_,ix_mem _ k k0 hk,by simp;omega⟩
      rw[this]
      simp
     ·have e4:=of_decide_eq_false e4
      rw[inc k 3 k0 (by omega) (by omega)]
      refine⟨⟨by omega,by omega,?_⟩,by(dsimp only;omega)⟩
      rw[ki _ k k0 hk]
      intro x hx
      rcases List.mem_append.1 hx with hx|hx
      ·exact k2 x hx
      ·have:x=ix (ix p0 i).wv k:=by simpa using hx
       omega
    ·have hk:=of_decide_eq_false hk
     rw[List.take_of_length_le (by omega)]at k2
     have hv:vOut (ix p0 i)=true:=(k4s _).2 ⟨by omega,e2,e3,k2⟩
     have hi:=inc i p0.length g0 hh (by omega)
     rw[hi]
     have nxt:(0<=i+1/\i+1<=p0.length/\∀x∈p0.take (i+1).toNat,vOut x=true)/\(p0.length-(i+1)).toNat<(p0.length-i).toNat:=by
      refine⟨⟨by omega,by omega,?_⟩,by omega⟩
      rw[ki p0 i g0 hh]
      intro x hx
      rcases List.mem_append.1 hx with hx|hx
      ·exact g2 x hx
      ·have:x=ix p0 i:=by simpa using hx
       rw[this];exact hv
     exact nxt
  ·have hh:=of_decide_eq_false hh
   rw[List.take_of_length_le (by omega)]at g2
   unfold vOuts
   have:p0.all vOut=true:=by simpa using g2
   rw[this,decide_eq_true (by omega)]
   rfl
noncomputable def khd:Con TB.den:= .tp 40 [.st 2] [yqi] [] fun(p0:wo)=>((validE p0:Int),())
theorem kjd:khd.Ok Tryz.prog TB:=qtv Bs Tryz.func40 .no (kbk.c (kcl.c (k8y.c c0))) (Q:=∀(p0:wo),∀r0:Int,validE p0=r0-> 
((!(vMarks p0.wC))=true->
 1=r0)/\
((!(vMarks p0.wC))=false->
((!(vOuts p0.wH))=true->
 1=r0)/\
((!(vOuts p0.wH))=false->
((!(vAmounts p0))=true->
 1=r0)/\
((!(vAmounts p0))=false->
 let v1:Bool:=decide (18446744069414584321<=p0.wAE)
(v1=true->
 1=r0)/\
(v1=false->
(decide (p0.wAC<0)=true->
 1=r0)/\
(decide (p0.wAC<0)=false->
(decide (1048576<p0.wAC)=true->
 1=r0)/\
(decide (1048576<p0.wAC)=false->
 let v2:Bool:=decide (1048576<(p0.wAP.length:Int))
(v2=true->
 3=r0)/\
(v2=false->
 0=r0)))))))) (by kernel_rfl)<|by
 rintro p0 _ rfl
 refine ?_
 unfold validE vRest
 grind
noncomputable def kbr:Con TB.den:= .g ⟨20,[.one (.ptr 0 0),.agg [zqu,zql,.d (.sl (.st 1)),zqu,zqu,zqu,zqu,zqu,zqi,.d (.sl yqb)]],[.cells [zqi,zqi,zqi,zqi,zqi,zqu,zqi,zqi,zqu,zqi,zqi,zql,.row 1,.ptr 2 0,.d (.sl (.st 8)),zqu,.row 3,.row 4],.vec yqu,.cells [.mp 5],.vec yqu,.vec (.st 9),.map yqu (.bool)],(.one (.one (zqi))),[.cells [zqi,zqi,zqi,zqi,zqi,zqu,zqi,zqi,zqu,zqi,zqi,zql,.row 1,.ptr 2 0,.d (.sl (.st 8)),zqu,.row 3,.row 4],.vec yqu,.cells [.mp 5],.vec yqu,.vec (.st 9),.map yqu (.bool)],false⟩ [.st 2,yqi,yqi,yqi,yqi,yqi,yqu,yqi,yqi,yqu,yqi,yqi,.sl yqu,.sl (.st 8),yqu,.sl yqu,.sl yqu,.sl (.st 9),.sl yqu,.sl (.bool)] [yqi,yqi,yqi,yqi,yqi,yqi,yqu,yqi,yqi,yqu,yqi,yqi,.sl yqu,.sl (.st 8),yqu,.sl yqu,.sl yqu,.sl (.st 9),.sl yqu,.sl (.bool)] [] fun(p1:wo) (Ah Af Ai Aj Ak Al Ae Am Ao Ag Ac:Int) (Ad:List Int) (Aa:List wA) (Ab:Int) (w1 w3:List Int) (w4:List wN) (w5k:List Int) (w5v:List Bool)=>((∃(c:Nat) (f:Int),c<=800/\PI (PS.mk (wF.mk Ah Af Ai Aj Ak Al Ae Am Ao) (wE.mk Ag Ac Ad) Aa Ab w1 w3 w4 w5k w5v) c f)/\TR p1,(chkS (PS.mk (wF.mk Ah Af Ai Aj Ak Al Ae Am Ao) (wE.mk Ag Ac Ad) Aa Ab w1 w3 w4 w5k w5v) p1:Int),Ah,Af,Ai,Aj,Ak,Al,Ae,Am,Ao,Ag,Ac,Ad,Aa,Ab,w1,w3,w4,w5k,w5v,())
theorem k2e:kbr.Ok Tryz.prog TB:=prv Bs Tryz.func20 (.r 3 (.nd [] (.r 0 (.lp [] ⟨[5,2],[.map yqu (.bool),.cells [.mp 0]],[33],[.one (zqi)],[]⟩ .no)) [] (.jn ⟨[],[],[],[],[]⟩ [] .no [] .no))) (kjd.c (k2k.c (k72.c (kk8.c (k5v.c c0))))) (Q:=∀(p1:wo) (Ah Af Ai Aj Ak Al Ae Am Ao Ag Ac:Int) (Ad:List Int) (Aa:List wA) (Ab:Int) (w1 w3:List Int) (w4:List wN) (w5k:List Int) (w5v:List Bool),((∃(c:Nat) (f:Int),c<=800/\PI (PS.mk (wF.mk Ah Af Ai Aj Ak Al Ae Am Ao) (wE.mk Ag Ac Ad) Aa Ab w1 w3 w4 w5k w5v) c f)/\TR p1)->∀r0:Int,(chkS (PS.mk (wF.mk Ah Af Ai Aj Ak Al Ae Am Ao) (wE.mk Ag Ac Ad) Aa Ab w1 w3 w4 w5k w5v) p1)=r0->∀Av:Int,Ah=Av->∀Aw:Int,Af=Aw->∀Ax:Int,Ai=Ax->∀Ay:Int,Aj=Ay->∀Az:Int,Ak=Az->∀A0:Int,Al=A0->∀A1:Int,Ae=A1->∀A3:Int,Am=A3->∀A4:Int,Ao=A4->∀A5:Int,Ag=A5->∀Ap:Int,Ac=Ap->∀Aq:List Int,Ad=Aq->∀As:List wA,Aa=As->∀At:Int,Ab=At->∀e1:List Int,w1=e1->∀e3:List Int,w3=e3->∀e4:List wN,w4=e4->∀e5k:List Int,w5k=e5k->∀e5v:List Bool,w5v=e5v-> 
(((validE p1) !=0)=true->
(w4.length=w4.length)/\(w3.length=w3.length)/\(w1.length=w1.length)/\(validE p1)=r0/\Ah=Av/\Af=Aw/\Ai=Ax/\Aj=Ay/\Ak=Az/\Al=A0/\Ae=A1/\Am=A3/\Ao=A4/\Ag=A5/\Ac=Ap/\Ad=Aq/\Aa=As/\Ab=At/\w1=e1/\w3=e3/\w4=e4/\w5k=e5k/\w5v=e5v)/\
(((validE p1) !=0)=false->
 let v1:Bool:=decide (p1.wAC<(i64.wrap ((w4.length:Int)+1)))
(v1=true->
(w4.length=w4.length)/\(w3.length=w3.length)/\(w1.length=w1.length)/\14=r0/\Ah=Av/\Af=Aw/\Ai=Ax/\Aj=Ay/\Ak=Az/\Al=A0/\Ae=A1/\Am=A3/\Ao=A4/\Ag=A5/\Ac=Ap/\Ad=Aq/\Aa=As/\Ab=At/\w1=e1/\w3=e3/\w4=e4/\w5k=e5k/\w5v=e5v)/\
(v1=false->
(w4.length=w4.length)/\(w3.length=w3.length)/\(w1.length=w1.length)/\((1<=Ae/\Ae<=100)/\w3.length<=1000000)/\let r2:Int:=((w3.length-(w3.length-Ae.toNat):Nat):Int)
(0<=((((w3.length-Ae.toNat:Nat):Int).toNat:Nat):Int)/\0<=(r2.toNat:Int)/\((((w3.length-Ae.toNat:Nat):Int).toNat:Nat):Int).toNat+(r2.toNat:Int).toNat<=w3.length/\w3.length<=1000000)/\let r3:Bool:=(decide (p1.wAE∈(w3.drop ((((w3.length-Ae.toNat:Nat):Int).toNat:Nat):Int).toNat).take (r2.toNat:Int).toNat))
((!r3)=true->
(w4.length=w4.length)/\(w3.length=w3.length)/\(w1.length=w1.length)/\11=r0/\Ah=Av/\Af=Aw/\Ai=Ax/\Aj=Ay/\Ak=Az/\Al=A0/\Ae=A1/\Am=A3/\Ao=A4/\Ag=A5/\Ac=Ap/\Ad=Aq/\Aa=As/\Ab=At/\w1=e1/\w3=e3/\w4=e4/\w5k=e5k/\w5v=e5v)/\
((!r3)=false->
 ∃(I1:Int->(List Int)->(List Bool)->Prop) (M1:Int->(List Int)->(List Bool)->Nat),I1 0 w5k w5v/\∀(b1:Int) (f1:List Int) (i1:List Bool),(I1 b1 f1 i1->
(decide (b1<(p1.wC.length:Int))=true->
(0<=b1)/\b1<(p1.wC.length:Int)/\(i1=trs f1)/\((decide ((ix p1.wC b1)∈f1))=true->
(w4.length=w4.length)/\(w3.length=w3.length)/\(w1.length=w1.length)/\12=r0/\Ah=Av/\Af=Aw/\Ai=Ax/\Aj=Ay/\Ak=Az/\Al=A0/\Ae=A1/\Am=A3/\Ao=A4/\Ag=A5/\Ac=Ap/\Ad=Aq/\Aa=As/\Ab=At/\w1=e1/\w3=e3/\w4=e4/\f1=e5k/\i1=e5v)/\
((decide ((ix p1.wC b1)∈f1))=false->
 I1 (i64.wrap (b1+1)) f1 i1/\M1 (i64.wrap (b1+1)) f1 i1<M1 b1 f1 i1))/\
(decide (b1<(p1.wC.length:Int))=false->
 ∀J1:Prop,((let v5:Bool:=decide ((u64.wrap (Ab+p1.wM))<(u64.wrap (p1.wQ+p1.Fee)))
(v5=true->
(w4.length=w4.length)/\(w3.length=w3.length)/\(w1.length=w1.length)/\13=r0/\Ah=Av/\Af=Aw/\Ai=Ax/\Aj=Ay/\Ak=Az/\Al=A0/\Ae=A1/\Am=A3/\Ao=A4/\Ag=A5/\Ac=Ap/\Ad=Aq/\Aa=As/\Ab=At/\w1=e1/\w3=e3/\w4=e4/\f1=e5k/\i1=e5v)/\
(v5=false->
 let v6:Int:=i64.wrap ((w1.length:Int)+(p1.wH.length:Int))
(0<=Af)/\(decide ((ishl .i64 1 Af)<v6)=true->
(w4.length=w4.length)/\(w3.length=w3.length)/\(w1.length=w1.length)/\16=r0/\Ah=Av/\Af=Aw/\Ai=Ax/\Aj=Ay/\Ak=Az/\Al=A0/\Ae=A1/\Am=A3/\Ao=A4/\Ag=A5/\Ac=Ap/\Ad=Aq/\Aa=As/\Ab=At/\w1=e1/\w3=e3/\w4=e4/\f1=e5k/\i1=e5v)/\
(decide ((ishl .i64 1 Af)<v6)=false->
(w4.length=w4.length)/\(w3.length=w3.length)/\(w1.length=w1.length)/\0=r0/\Ah=Av/\Af=Aw/\Ai=Ax/\Aj=Ay/\Ak=Az/\Al=A0/\Ae=A1/\Am=A3/\Ao=A4/\Ag=A5/\Ac=Ap/\Ad=Aq/\Aa=As/\Ab=At/\w1=e1/\w3=e3/\w4=e4/\f1=e5k/\i1=e5v)))->J1)->
(decide (0<p1.wM)=true->
(OkA (wl.mk Aa).wB/\U64 p1.wM/\U64 p1.wL)/\let r4:=debitA (wl.mk Aa).wB p1.wZ p1.wM p1.wL
((r4.2 !=0)=true->
(w4.length=w4.length)/\(w3.length=w3.length)/\(w1.length=w1.length)/\r4.2=r0/\Ah=Av/\Af=Aw/\Ai=Ax/\Aj=Ay/\Ak=Az/\Al=A0/\Ae=A1/\Am=A3/\Ao=A4/\Ag=A5/\Ac=Ap/\Ad=Aq/\Aa=As/\Ab=At/\w1=e1/\w3=e3/\w4=e4/\f1=e5k/\i1=e5v)/\
((r4.2 !=0)=false->
 J1))/\
(decide (0<p1.wM)=false->
 J1))))))) (by kernel_rfl)<|by
 rintro p1 Ah Af Ai Aj Ak Al Ae Am Ao Ag Ac Ad Aa Ab w1 w3 w4 w5k w5v h _ rfl _ rfl _ rfl _ rfl _ rfl _ rfl _ rfl _ rfl _ rfl _ rfl _ rfl _ rfl _ rfl _ rfl _ rfl _ rfl _ rfl _ rfl _ rfl _ rfl
 obtain⟨⟨c,f,hc,hp⟩,ht⟩:=h
 have hb:OkA Aa:=hp.b.1
 have hv:w5v=trs w5k:=hp.v
 have h1:1<=Ae:=hp.w1
 have h2:Ae<=100:=hp.w2
 have hd1:1<=Af:=hp.d1
 have hd2:Af<=12:=hp.d2
 have hrl:w3.length=w4.length+1:=hp.rl
 have hpl:w4.length<=c:=hp.p
 have hll:w1.length<=2^Af.toNat:=hp.ll
 have hp12:=pow12 Af.toNat (by omega)
 generalize hR0:chkS (PS.mk (wF.mk Ah Af Ai Aj Ak Al Ae Am Ao) (wE.mk Ag Ac Ad) Aa Ab w1 w3 w4 w5k w5v) p1=R
 have hR:chk (w4.length:Int) (ancL w3 Ae) w5k Aa Ab w1.length Af p1=R:=hR0
 clear hR0
 unfold chk at hR
 refine⟨fun e=> ?_,fun e=> ?_⟩
 ·have e:validE p1≠0:=by simpa using e
  rw[if_pos e]at hR
  subst hR
  exact(by repeat' first|apply And.intro|exact rfl|exact True.intro)
 have e:validE p1=0:=by simpa using e
 have vt:=(k1n p1).1 e
 have hol:=vt.ol
 have hml:=vt.ml
 rw[if_neg (by rw[e];decide)]at hR
 have ei:i64.wrap ((w4.length:Int)+1)=(w4.length:Int)+1:=kh _ (by omega) (by omega)
 rw[ei]
 refine⟨fun e2=> ?_,fun e2=>⟨rfl,rfl,rfl,⟨⟨h1,h2⟩,by omega⟩,?_⟩⟩
 ·rw[if_pos (of_decide_eq_true e2)]at hR
  subst hR
  exact(by repeat' first|apply And.intro|exact rfl|exact True.intro)
 rw[if_neg (of_decide_eq_false e2)]at hR
 have eA:(w3.drop (w3.length-Ae.toNat)).take (w3.length-(w3.length-Ae.toNat))=ancL w3 Ae:=by
  unfold ancL
  exact List.take_of_length_le (by rw[List.length_drop];omega)
 simp only[Int.toNat_natCast,eA]
 refine⟨⟨by omega,by omega,by omega,by omega⟩,fun e3=> ?_,fun e3=> ?_⟩
 ·have e3:p1.wAE∉ancL w3 Ae:=by simpa using e3
  rw[if_pos e3]at hR
  subst hR
  exact(by repeat' first|apply And.intro|exact rfl|exact True.intro)
 have e3:¬p1.wAE∉ancL w3 Ae:=by simpa using e3
 rw[if_neg e3]at hR
 refine⟨fun a k v=>(w5k=k/\w5v=v)/\∃i:Nat,a=(i:Int)/\i<=p1.wC.length/\((p1.wC.take i).any fun m=>decide (m∈w5k))=false,fun a _ _=>(p1.wC.length-a).toNat,⟨⟨rfl,rfl⟩,0,rfl,by omega,rfl⟩,?_⟩
 rintro _ _ _ ⟨⟨rfl,rfl⟩,i,rfl,hi,hm⟩
 refine⟨fun e4=> ?_,fun e4 J1 j=> ?_⟩
 ·have e4:i<p1.wC.length:=by have:=of_decide_eq_true e4;omega
  rw[ix_get _ _ e4,inc_i64 _ (by omega)]
  refine⟨by omega,by omega,hv,fun e5=> ?_,fun e5=>⟨⟨⟨rfl,rfl⟩,i+1,rfl,by omega,?_⟩,by(dsimp only;omega)⟩⟩
  ·rw[if_pos (List.any_eq_true.2 ⟨_,List.getElem_mem e4,e5⟩)]at hR
   subst hR
   exact(by repeat' first|apply And.intro|exact rfl|exact True.intro)
  ·rw[List.take_succ_eq_append_getElem e4,List.any_append,hm,List.any_cons,e5]
   rfl
 ·have e4:i=p1.wC.length:=by have:=of_decide_eq_false e4;omega
  subst e4
  rw[List.take_length]at hm
  have j1:(p1.wC.any fun m=>decide (m∈w5k))=false->¬(0<p1.wM/\(debitA Aa p1.wZ p1.wM p1.wL).2≠0)->J1:=by
   intro g1 g2
   rw[if_neg (by rw[g1];decide),if_neg g2]at hR
   refine j ⟨fun e4=> ?_,fun e4=>⟨by omega,?_⟩⟩
   ·rw[if_pos (of_decide_eq_true e4)]at hR
    subst hR
    exact(by repeat' first|apply And.intro|exact rfl|exact True.intro)
   ·rw[if_neg (of_decide_eq_false e4)]at hR
    obtain⟨d,hd⟩:=Int.eq_ofNat_of_zero_le (show 0<=Af by omega)
    have hdn:Af.toNat=d:=by omega
    rw[hdn]at hR hp12 hll
    rw[kh _ (by omega) (by omega),show ishl .i64 1 Af=((2^d:Nat):Int)by rw[hd];exact shl1 d (by omega)]
    refine⟨fun e5=> ?_,fun e5=> ?_⟩
    ·rw[if_pos (by have:=of_decide_eq_true e5;omega)]at hR
     subst hR
     exact(by repeat' first|apply And.intro|exact rfl|exact True.intro)
    ·rw[if_neg (by have:=of_decide_eq_false e5;omega)]at hR
     subst hR
     exact(by repeat' first|apply And.intro|exact rfl|exact True.intro)
  refine⟨fun e5=>⟨⟨hb,ht.d,ht.n⟩,fun e6=> ?_,fun e6=>j1 hm ?_⟩,fun e5=>j1 hm ?_⟩
  ·have e5:=of_decide_eq_true e5
   have e6:(debitA Aa p1.wZ p1.wM p1.wL).2≠0:=by simpa using e6
   rw[if_neg (by rw[hm];decide),if_pos ⟨e5,e6⟩]at hR
   subst hR
   exact(by repeat' first|apply And.intro|exact rfl|exact True.intro)
  ·have e6:(debitA Aa p1.wZ p1.wM p1.wL).2=0:=by simpa using e6
   exact fun hh=>hh.2 e6
  ·have e5:=of_decide_eq_false e5
   exact fun hh=>e5 hh.1
noncomputable def k6r:Con TB.den:= .g ⟨67,[.one (.view 0)],[.vec yqu],(.one (.one (.row 1))),[.vec yqu,.vec yqu],false⟩ [yqi,yqi,.sl yqu] [.sl yqu,.sl yqu] [] fun(p0o p0n:Int) (w0:List Int)=>(0<=p0o/\0<=p0n/\p0o.toNat+p0n.toNat<=w0.length/\w0.length<=1000000,w0,((w0.drop p0o.toNat).take p0n.toNat:List Int),())
theorem k81:k6r.Ok Tryz.prog TB:=prx Bs [5,7] Tryz.func67 (.r 0 (.nd [] (.r 0 (.nd [] (.r 0 (.rt [.rnil 2 yqu])) [] .no)) [] .no)) x0 c0 (Q:=∀(p0o p0n:Int) (w0:List Int),(0<=p0o/\0<=p0n/\p0o.toNat+p0n.toNat<=w0.length/\w0.length<=1000000)->∀e0:List Int,w0=e0->∀e1:List Int,((w0.drop p0o.toNat).take p0n.toNat)=e1-> 
 ∀z4:Bool,(z4=true->p0n.toNat=0)->(z4=true->
(0=([]:List Int).length)/\w0=e0/\([]:List Int)=e1)/\
(z4=false->
([]:List Int).length=([]:List Int).length/\p0o.toNat+p0n.toNat<=w0.length/\(([]:List Int).length+((w0.drop p0o.toNat).take p0n.toNat).length)*8<=140737488355328/\([]:List Int).length+((w0.drop p0o.toNat).take p0n.toNat).length<=maxLen/\let v5:List Int:=([]:List Int)++((w0.drop p0o.toNat).take p0n.toNat)
(v5.length=v5.length)/\w0=e0/\v5=e1)) (by kernel_rfl)<|by
 rintro p0o p0n w0 h _ rfl _ rfl
 obtain⟨h0,h1,h2,h3⟩:=h
 have hl:((w0.drop p0o.toNat).take p0n.toNat).length=p0n.toNat:=by simp;omega
 exact fun z hz=>⟨fun e=>⟨rfl,rfl,by rw[hz e];rfl⟩,fun e=>⟨rfl,h2,by rw[hl];simp;omega,by rw[hl];simp;unfold maxLen;omega,rfl,rfl,rfl⟩⟩
noncomputable def k98:Con TB.den:= .g ⟨34,[.one (.ptr 0 0)],[.cells [zqi,zqi,zqi,zqi,zqi,zqu,zqi,zqi,zqu,zqi,zqi,zql,.row 1,.ptr 2 0,.d (.sl (.st 8)),zqu,.row 3,.row 4],.vec yqu,.cells [.mp 5],.vec yqu,.vec (.st 9),.map yqu (.bool)],(.one (.one (zql))),[.cells [zqi,zqi,zqi,zqi,zqi,zqu,zqi,zqi,zqu,zqi,zqi,zql,.row 1,.ptr 2 0,.d (.sl (.st 8)),zqu,.row 3,.row 4],.vec yqu,.cells [.mp 5],.vec yqu,.vec (.st 9),.map yqu (.bool)],false⟩ [yqi,yqi,yqi,yqi,yqi,yqu,yqi,yqi,yqu,yqi,yqi,.sl yqu,.sl (.st 8),yqu,.sl yqu,.sl yqu,.sl (.st 9),.sl yqu,.sl (.bool)] [.sl yqu,yqi,yqi,yqi,yqi,yqi,yqu,yqi,yqi,yqu,yqi,yqi,.sl yqu,.sl (.st 8),yqu,.sl yqu,.sl yqu,.sl (.st 9),.sl yqu,.sl (.bool)] [] fun(Ah Af Ai Aj Ak Al Ae Am Ao Ag Ac:Int) (Ad:List Int) (Aa:List wA) (Ab:Int) (w1 w3:List Int) (w4:List wN) (w5k:List Int) (w5v:List Bool)=>((1<=Ae/\Ae<=100)/\w3.length<=1000000,(ancL w3 Ae:List Int),Ah,Af,Ai,Aj,Ak,Al,Ae,Am,Ao,Ag,Ac,Ad,Aa,Ab,w1,w3,w4,w5k,w5v,())
theorem k5d:k98.Ok Tryz.prog TB:=prv Bs Tryz.func34 (.r 1 (.rt [.frz 6 [2]])) (k2k.c (k81.c c0)) (Q:=∀(Ah Af Ai Aj Ak Al Ae Am Ao Ag Ac:Int) (Ad:List Int) (Aa:List wA) (Ab:Int) (w1 w3:List Int) (w4:List wN) (w5k:List Int) (w5v:List Bool),((1<=Ae/\Ae<=100)/\w3.length<=1000000)->∀r0:List Int,ancL w3 Ae=r0->∀Av:Int,Ah=Av->∀Aw:Int,Af=Aw->∀Ax:Int,Ai=Ax->∀Ay:Int,Aj=Ay->∀Az:Int,Ak=Az->∀A0:Int,Al=A0->∀A1:Int,Ae=A1->∀A3:Int,Am=A3->∀A4:Int,Ao=A4->∀A5:Int,Ag=A5->∀Ap:Int,Ac=Ap->∀Aq:List Int,Ad=Aq->∀As:List wA,Aa=As->∀At:Int,Ab=At->∀e1:List Int,w1=e1->∀e3:List Int,w3=e3->∀e4:List wN,w4=e4->∀e5k:List Int,w5k=e5k->∀e5v:List Bool,w5v=e5v-> 
(w4.length=w4.length)/\(w3.length=w3.length)/\(w1.length=w1.length)/\((1<=Ae/\Ae<=100)/\w3.length<=1000000)/\let r1:Int:=((w3.length-(w3.length-Ae.toNat):Nat):Int)
(0<=((((w3.length-Ae.toNat:Nat):Int).toNat:Nat):Int)/\0<=(r1.toNat:Int)/\((((w3.length-Ae.toNat:Nat):Int).toNat:Nat):Int).toNat+(r1.toNat:Int).toNat<=w3.length/\w3.length<=1000000)/\let r2:List Int:=((w3.drop ((((w3.length-Ae.toNat:Nat):Int).toNat:Nat):Int).toNat).take (r1.toNat:Int).toNat)
(r2.length=r2.length)/\(w4.length=w4.length)/\(w3.length=w3.length)/\(w1.length=w1.length)/\r2=r0/\Ah=Av/\Af=Aw/\Ai=Ax/\Aj=Ay/\Ak=Az/\Al=A0/\Ae=A1/\Am=A3/\Ao=A4/\Ag=A5/\Ac=Ap/\Ad=Aq/\Aa=As/\Ab=At/\w1=e1/\w3=e3/\w4=e4/\w5k=e5k/\w5v=e5v) (by kernel_rfl)<|by
 rintro Ah Af Ai Aj Ak Al Ae Am Ao Ag Ac Ad Aa Ab w1 w3 w4 w5k w5v h _ rfl _ rfl _ rfl _ rfl _ rfl _ rfl _ rfl _ rfl _ rfl _ rfl _ rfl _ rfl _ rfl _ rfl _ rfl _ rfl _ rfl _ rfl _ rfl _ rfl
 obtain⟨⟨h1,h2⟩,h3⟩:=h
 have eA:(w3.drop (w3.length-Ae.toNat)).take (w3.length-(w3.length-Ae.toNat))=ancL w3 Ae:=by
  unfold ancL
  exact List.take_of_length_le (by rw[List.length_drop];omega)
 refine⟨rfl,rfl,rfl,⟨⟨h1,h2⟩,h3⟩,?_⟩
 simp only[Int.toNat_natCast,eA]
 exact⟨⟨by omega,by omega,by omega,h3⟩,(by repeat' first|apply And.intro|exact rfl|exact True.intro)⟩
noncomputable def ki9:Con TB.den:= .g ⟨102,[.one (.ptr 0 0),.one (zql),.one (.d (.bool))],[.cells [.mp 1],.map yqu (.bool)],(.one (.one (.d (.bool)))),[.cells [.mp 1],.map yqu (.bool)],false⟩ [.sl yqu,.bool,.sl yqu,.sl (.bool)] [.bool,.sl yqu,.sl (.bool)] [] fun(p1:List Int) (p2:Bool) (w1k:List Int) (w1v:List Bool)=>(w1v=trs w1k/\p1.length<=1000000,(p1.any (fun m=>decide (m∈w1k)==p2):Bool),w1k,w1v,())
theorem k9z:ki9.Ok Tryz.prog TB:=prv Bs Tryz.func102 (.r 0 (.nd [] (.r 0 (.lp [] ⟨[],[],[11],[.one (zqi)],[]⟩ .no)) [] .no)) c0 (Q:=∀(p1:List Int) (p2:Bool) (w1k:List Int) (w1v:List Bool),(w1v=trs w1k/\p1.length<=1000000)->∀r0:Bool,(p1.any (fun m=>decide (m∈w1k)==p2))=r0->∀e1k:List Int,w1k=e1k->∀e1v:List Bool,w1v=e1v-> 
 ∃(I1:Int->Prop) (M1:Int->Nat),I1 0/\∀(b1:Int),(I1 b1->
(decide (b1<(p1.length:Int))=true->
(0<=b1)/\b1<(p1.length:Int)/\w1k.length=w1v.length/\let v1:Bool:=mVal (BEq.beq (ix p1 b1)) w1k w1v false
((v1==p2)=true->
 true=r0/\w1k=e1k/\w1v=e1v)/\
((v1==p2)=false->
 I1 (i64.wrap (b1+1))/\M1 (i64.wrap (b1+1))<M1 b1))/\
(decide (b1<(p1.length:Int))=false->
 false=r0/\w1k=e1k/\w1v=e1v))) (by kernel_rfl)<|by
 rintro p1 p2 w1k w1v h _ rfl _ rfl _ rfl
 obtain⟨h,hl⟩:=h
 subst h
 refine(⟨(fun a=>∃i:Nat,a=(i:Int)/\i<=p1.length/\(p1.drop i).any (fun m=>decide (m∈w1k)==p2)=p1.any (fun m=>decide (m∈w1k)==p2)),(fun a=>(p1.length-a).toNat),⟨0,rfl,by omega,rfl⟩,?_⟩)
 rintro _ ⟨i,rfl,hi,he⟩
 refine⟨fun e=> ?_,fun e=> ?_⟩
 ·have e:i<p1.length:=by have:=of_decide_eq_true e;omega
  rw[ix_get _ _ e,sVal,inc_i64 _ (by omega)]
  rw[List.drop_eq_getElem_cons e,List.any_cons]at he
  refine⟨by omega,by omega,by simp[trs],fun e2=> ?_,fun e2=> ?_⟩
  ·rw[e2,Bool.true_or]at he
   rw[<-he]
   exact⟨rfl,rfl,rfl⟩
  ·rw[e2,Bool.false_or]at he
   exact⟨⟨i+1,rfl,by omega,he⟩,by(dsimp only;omega)⟩
 ·have e:i=p1.length:=by have:=of_decide_eq_false e;omega
  subst e
  rw[List.drop_length]at he
  rw[<-he]
  exact⟨rfl,rfl,rfl⟩
noncomputable def k6q:Con TB.den:= .gp 103 [.sl yqu] [.bool] [] fun(p0:List Int)=>(p0.length<=1000000,(!decide p0.Nodup:Bool),())
theorem k3c:k6q.Ok Tryz.prog TB:=qrv Bs Tryz.func103 (.r 1 (.nd [] (.r 0 (.lp [] ⟨[0],[.map yqu (.bool)],[9],[.one (zqi)],[]⟩ .no)) [] .no)) c0 (Q:=∀(p0:List Int),(p0.length<=1000000)->∀r0:Bool,(!decide p0.Nodup)=r0-> 
 ∃(I1:Int->(List Int)->(List Bool)->Prop) (M1:Int->(List Int)->(List Bool)->Nat),I1 0 ([]:List Int) ([]:List Bool)/\∀(b1:Int) (f1:List Int) (i1:List Bool),(I1 b1 f1 i1->
(decide (b1<(p0.length:Int))=true->
(0<=b1)/\b1<(p0.length:Int)/\f1.length=i1.length/\let v1:Bool:=mVal (BEq.beq (ix p0 b1)) f1 i1 false
(v1=true->
 true=r0)/\
(v1=false->
 f1.length=i1.length/\let v2:List Int:=mPutK (BEq.beq (ix p0 b1)) f1 (ix p0 b1)
 let v3:List Bool:=mPutV (BEq.beq (ix p0 b1)) f1 i1 true
 I1 (i64.wrap (b1+1)) v2 v3/\M1 (i64.wrap (b1+1)) v2 v3<M1 b1 f1 i1))/\
(decide (b1<(p0.length:Int))=false->
 false=r0))) (by kernel_rfl)<|by
 rintro p0 h _ rfl
 refine(⟨(fun a k v=>∃i:Nat,a=(i:Int)/\i<=p0.length/\k=p0.take i/\v=trs k/\k.Nodup),(fun a _ _=>(p0.length-a).toNat),⟨0,rfl,by omega,rfl,rfl,List.nodup_nil⟩,?_⟩)
 rintro _ _ _ ⟨i,rfl,hi,rfl,rfl,hn⟩
 refine⟨fun e=> ?_,fun e=> ?_⟩
 ·have e:i<p0.length:=by have:=of_decide_eq_true e;omega
  rw[ix_get _ _ e,sVal,inc_i64 _ (by omega)]
  refine⟨by omega,by omega,by simp[trs],fun e2=> ?_,fun e2=>⟨by simp[trs],?_⟩⟩
  ·have e2:=of_decide_eq_true e2
   have:¬p0.Nodup:=fun hh=>by
    rw[<-List.take_append_drop i p0,List.drop_eq_getElem_cons e,List.nodup_append]at hh
    exact hh.2.2 _ e2 p0[i] List.mem_cons_self rfl
   simp[this]
  ·have e2:=of_decide_eq_false e2
   obtain⟨q1,q2⟩:=sPut e2
   rw[q1,q2,<-List.take_succ_eq_append_getElem]
   refine⟨⟨i+1,rfl,by omega,rfl,rfl,?_⟩,by(dsimp only;omega)⟩
   rw[List.take_succ_eq_append_getElem e,List.nodup_append]
   exact⟨hn,by simp,fun a ha b hb=>by rw[List.mem_singleton.1 hb];rintro rfl;exact e2 ha⟩
 ·have e:i=p0.length:=by have:=of_decide_eq_false e;omega
  subst e
  rw[List.take_length]at hn
  simp[hn]
noncomputable def kjc:Con TB.den:= .g ⟨104,[.one (.ptr 0 0),.one (zql)],[.cells [.mp 1],.map yqu (.bool)],(.one (.one (zqi))),[.cells [.mp 1],.map yqu (.bool)],false⟩ [.sl yqu,.sl yqu,.sl (.bool)] [yqi,.sl yqu,.sl (.bool)] [] fun(p1 w1k:List Int) (w1v:List Bool)=>(w1v=trs w1k/\p1.length<=1000000,((addS p1 w1k).1:Int),((addS p1 w1k).2:List Int),(trs (addS p1 w1k).2:List Bool),())
theorem kjn:kjc.Ok Tryz.prog TB:=prv Bs Tryz.func104 (.r 2 (.nd [] (.r 0 (.lp [] ⟨[1],[.map yqu (.bool)],[25],[.one (zqi)],[]⟩ .no)) [] .no)) (k9z.c (k3c.c c0)) (Q:=∀(p1 w1k:List Int) (w1v:List Bool),(w1v=trs w1k/\p1.length<=1000000)->∀r0:Int,((addS p1 w1k).1)=r0->∀e1k:List Int,((addS p1 w1k).2)=e1k->∀e1v:List Bool,(trs (addS p1 w1k).2)=e1v-> 
(w1v=trs w1k/\p1.length<=1000000)/\let r1:Bool:=(p1.any (fun m=>decide (m∈w1k)==true))
(r1=true->
 12=r0/\w1k=e1k/\w1v=e1v)/\
(r1=false->
(p1.length<=1000000)/\((!decide p1.Nodup)=true->
 12=r0/\w1k=e1k/\w1v=e1v)/\
((!decide p1.Nodup)=false->
 ∃(I1:Int->(List Int)->(List Bool)->Prop) (M1:Int->(List Int)->(List Bool)->Nat),I1 0 w1k w1v/\∀(b1:Int) (f1:List Int) (i1:List Bool),(I1 b1 f1 i1->
(decide (b1<(p1.length:Int))=true->
(0<=b1)/\b1<(p1.length:Int)/\f1.length=i1.length/\let v2:List Int:=mPutK (BEq.beq (ix p1 b1)) f1 (ix p1 b1)
 let v3:List Bool:=mPutV (BEq.beq (ix p1 b1)) f1 i1 true
 I1 (i64.wrap (b1+1)) v2 v3/\M1 (i64.wrap (b1+1)) v2 v3<M1 b1 f1 i1)/\
(decide (b1<(p1.length:Int))=false->
 0=r0/\f1=e1k/\i1=e1v))))) (by kernel_rfl)<|by
 rintro p1 w1k w1v h _ rfl _ rfl _ rfl
 obtain⟨h,hl⟩:=h
 subst h
 have ea:(p1.any fun m=>decide (m∈w1k)==true)=p1.any fun m=>decide (m∈w1k):=by congr 1;funext m;simp
 refine⟨⟨rfl,hl⟩,?_⟩
 rw[ea]
 refine⟨fun e=> ?_,fun e=>⟨hl,fun e2=> ?_,fun e2=> ?_⟩⟩
 ·have:addS p1 w1k=(12,w1k):=by unfold addS;rw[e];rfl
  rw[this]
  exact⟨rfl,rfl,rfl⟩
 ·have:addS p1 w1k=(12,w1k):=by unfold addS;rw[e,e2];rfl
  rw[this]
  exact⟨rfl,rfl,rfl⟩
 ·have hA:addS p1 w1k=(0,w1k++p1):=by unfold addS;rw[e,e2];rfl
  have hn:p1.Nodup:=by simpa using e2
  rw[hA]
  refine⟨(fun a k v=>∃i:Nat,a=(i:Int)/\i<=p1.length/\k=w1k++p1.take i/\v=trs k),(fun a _ _=>(p1.length-a).toNat),⟨0,rfl,by omega,by simp,by simp⟩,?_⟩
  rintro _ _ _ ⟨i,rfl,hi,rfl,rfl⟩
  refine⟨fun e3=> ?_,fun e3=> ?_⟩
  ·have e3:i<p1.length:=by have:=of_decide_eq_true e3;omega
   rw[ix_get _ _ e3,inc_i64 _ (by omega)]
   have hm:p1[i]∉w1k++p1.take i:=by
    intro hm
    rcases List.mem_append.1 hm with hm|hm
    ·have:=List.any_eq_false.1 e p1[i] (List.getElem_mem e3)
     simp[hm]at this
    ·rw[<-List.take_append_drop i p1,List.drop_eq_getElem_cons e3,List.nodup_append]at hn
     exact hn.2.2 _ hm p1[i] List.mem_cons_self rfl
   obtain⟨q1,q2⟩:=sPut hm
   rw[q1,q2]
   refine⟨by omega,by omega,by simp[trs],⟨i+1,rfl,by omega,?_,rfl⟩,by(dsimp only;omega)⟩
   rw[List.take_succ_eq_append_getElem e3,List.append_assoc]
  ·have e3:i=p1.length:=by have:=of_decide_eq_false e3;omega
   subst e3
   rw[List.take_length]
   exact⟨rfl,rfl,rfl⟩
noncomputable def k8r:Con TB.den:= .gp 81 [.st 5] [.bool] [] fun(p0:wE)=>(FV p0,true,())
theorem k4a:k8r.Ok Tryz.prog TB:=qrv Bs Tryz.func81 (.r 2 (.nd [] (.r 0 (.lp [] ⟨[],[],[36],[.one (zqi)],[]⟩ .no)) [] .no)) c0 (Q:=∀(p0:wE),(FV p0)->∀r0:Bool,(true:Bool)=r0-> 
(decide (p0.wD<1)=true->
 false=r0)/\
(decide (p0.wD<1)=false->
(decide (12<p0.wD)=true->
 false=r0)/\
(decide (12<p0.wD)=false->
(decide (p0.wY<0)=true->
 false=r0)/\
(decide (p0.wY<0)=false->
(0<=p0.wD)/\let v1:Bool:=decide ((ishl .i64 1 p0.wD)<p0.wY)
(v1=true->
 false=r0)/\
(v1=false->
 let v2:Bool:=((p0.wd.length:Int) !=(i64.wrap (p0.wD+1)))
(v2=true->
 false=r0)/\
(v2=false->
 ∃(I1:Int->Prop) (M1:Int->Nat),I1 0/\∀(b1:Int),(I1 b1->
(decide (b1<(p0.wd.length:Int))=true->
(0<=b1)/\b1<(p0.wd.length:Int)/\let v3:Bool:=decide (18446744069414584321<=(ix p0.wd b1))
(v3=true->
 false=r0)/\
(v3=false->
(((ix p0.wd b1) !=0)=true->
(0<=b1)/\let v4:Bool:=((iand .i64 (ishr .i64 p0.wY b1) 1)==0)
(v4=true->
 false=r0)/\
(v4=false->
 I1 (i64.wrap (b1+1))/\M1 (i64.wrap (b1+1))<M1 b1))/\
(((ix p0.wd b1) !=0)=false->
 I1 (i64.wrap (b1+1))/\M1 (i64.wrap (b1+1))<M1 b1)))/\
(decide (b1<(p0.wd.length:Int))=false->
 true=r0)))))))) (by kernel_rfl)<|by
 rintro p0 h _ rfl
 obtain⟨d1,d2,c0,c1,ll,u,z⟩:=h
 obtain⟨d,hd⟩:=Int.eq_ofNat_of_zero_le (show 0<=p0.wD by omega)
 obtain⟨n,hn⟩:=Int.eq_ofNat_of_zero_le c0
 rw[hd,Int.toNat_natCast]at c1 ll
 rw[hn,Int.toNat_natCast]at z
 have hp:=pow12 d (by omega)
 refine⟨fun e=>(by have:=of_decide_eq_true e;omega),fun _=>⟨fun e=>(by have:=of_decide_eq_true e;omega),fun _=>⟨fun e=>(by have:=of_decide_eq_true e;omega),fun _=>⟨by omega,?_⟩⟩⟩⟩
 rw[hd,hn,shl1 d (by omega),kh _ (by omega) (by omega)]
 refine⟨fun e=>(by have:=of_decide_eq_true e;omega),fun _=>⟨fun e=> ?_,fun _=> ?_⟩⟩
 ·have e:¬(p0.wd.length:Int)=(d:Int)+1:=by simpa using e
  omega
 refine⟨(fun a=>∃i:Nat,a=(i:Int)/\i<=p0.wd.length),(fun a=>(p0.wd.length-a).toNat),⟨0,rfl,by omega⟩,?_⟩
 rintro _ ⟨i,rfl,hi⟩
 refine⟨fun hh=> ?_,fun _=>rfl⟩
 have hh:i<p0.wd.length:=by have:=of_decide_eq_true hh;omega
 have hx:=u _ (List.getElem_mem hh)
 rw[ix_get _ _ hh,inc_i64 _ (by omega),bit1 n i (by omega) (by omega)]
 have next:(∃j:Nat,((i+1:Nat):Int)=(j:Int)/\j<=p0.wd.length)/\((p0.wd.length:Int)-((i+1:Nat):Int)).toNat<((p0.wd.length:Int)-(i:Int)).toNat:=⟨⟨i+1,rfl,by omega⟩,by omega⟩
 refine⟨by omega,by omega,fun e=>(by have:=of_decide_eq_true e;omega),fun _=>⟨fun e=>⟨by omega,fun e2=> ?_,fun _=>next⟩,fun _=>next⟩⟩
 have e:p0.wd[i]≠0:=by simpa using e
 have e2:((n/2^i%2:Nat):Int)=0:=by simpa using e2
 refine(e (z i hh ?_)).elim
 unfold bitN
 generalize n/2^i%2=q at *
 have:q=0:=by omega
 rw[this]
 rfl
noncomputable def kco:Con TB.den:= .gp 119 [.st 6] [.bool] [] fun(p0:wy)=>(p0.P=18446744069414584321,true,())
theorem k1e:kco.Ok Tryz.prog TB:=qrv Bs Tryz.func119 .no c0 (Q:=∀(p0:wy),(p0.P=18446744069414584321)->∀r0:Bool,(true:Bool)=r0-> 
((p0.P==18446744069414584321)=true->
((p0.P==18446744069414584321)=true->
 true=r0)/\
((p0.P==18446744069414584321)=false->
 false=r0))/\
((p0.P==18446744069414584321)=false->
((p0.P==17)=true->
((p0.P==17)=true->
 true=r0)/\
((p0.P==17)=false->
 false=r0))/\
((p0.P==17)=false->
((p0.P==97)=true->
((p0.P==97)=true->
 true=r0)/\
((p0.P==97)=false->
 false=r0))/\
((p0.P==97)=false->
((p0.P==193)=true->
((p0.P==193)=true->
 true=r0)/\
((p0.P==193)=false->
 false=r0))/\
((p0.P==193)=false->
((p0.P==257)=true->
((p0.P==257)=true->
 true=r0)/\
((p0.P==257)=false->
 false=r0))/\
((p0.P==257)=false->
((p0.P==12289)=true->
((p0.P==12289)=true->
 true=r0)/\
((p0.P==12289)=false->
 false=r0))/\
((p0.P==12289)=false->
((p0.P==65537)=true->
 true=r0)/\
((p0.P==65537)=false->
 false=r0)))))))) (by kernel_rfl)<|by
 rintro p0 h _ rfl
 refine ?_
 simp[h]
noncomputable def kg1:Con TB.den:= .gp 133 [.st 6,yqu,yqu] [yqu] [] fun(p0:wy) (p1 p2:Int)=>(p0.P=18446744069414584321/\(0<=p1/\p1<18446744069414584321)/\(0<=p2/\p2<18446744069414584321),((p1+p2)%18446744069414584321:Int),())
theorem khs:kg1.Ok Tryz.prog TB:=qrx Bs [] Tryz.func133 (.r 1 (.nd [] (.jn ⟨[],[],[22],[.one (.d (.bool))],[]⟩ [] .no [] .no) [] .no)) (x1 x37_ok x0) c0 (Q:=∀(p0:wy) (p1 p2:Int),(p0.P=18446744069414584321/\(0<=p1/\p1<18446744069414584321)/\(0<=p2/\p2<18446744069414584321))->∀r0:Int,((p1+p2)%18446744069414584321)=r0-> 
(0<=p1/\0<=p2/\0<=(0:Int)/\(0:Int)<=1)/\let r1:Int:=(p1+p2+(0:Int))%18446744073709551616
 let r2:Int:=(p1+p2+(0:Int))/18446744073709551616
 ∀J1:Bool->Prop,(∀(b1:Bool),
((b1=true->
 u64.wrap (r1-p0.P)=r0)/\
(b1=false->
 r1=r0))->J1 b1)->
((r2 !=0)=true->
 J1 true)/\
((r2 !=0)=false->
 J1 (decide (p0.P<=r1)))) (by kernel_rfl)<|by
 rintro p0 p1 p2 h _ rfl
 obtain⟨hP,h1,h2⟩:=h
 refine⟨by omega,fun J1 j=>⟨fun h=>j _ ⟨fun _=> ?_,fun h=>by simp at h⟩,fun h=>j _ ⟨fun g=> ?_,fun g=> ?_⟩⟩⟩
 ·have h:(p1+p2+0)/18446744073709551616≠0:=by simpa using h
  rw[hP,u64w];omega
 ·have h:(p1+p2+0)/18446744073709551616=0:=by simpa using h
  have g:=of_decide_eq_true g
  rw[hP]at g ⊢
  rw[u64w];omega
 ·have h:(p1+p2+0)/18446744073709551616=0:=by simpa using h
  have g:=of_decide_eq_false g
  rw[hP]at g
  omega
noncomputable def k9g:Con TB.den:= .gp 134 [.st 6,yqu] [yqu] [] fun(p0:wy) (p1:Int)=>(0<p0.P/\0<=p1,(p1%p0.P:Int),())
theorem k1w:k9g.Ok Tryz.prog TB:=qrv Bs Tryz.func134 .no c0 (Q:=∀(p0:wy) (p1:Int),(0<p0.P/\0<=p1)->∀r0:Int,(p1%p0.P)=r0-> 
(decide (p0.P<=p1)=true->
(p0.P≠0)/\Int.tmod p1 p0.P=r0)/\
(decide (p0.P<=p1)=false->
 p1=r0)) (by kernel_rfl)<|by
 rintro p0 p1 h _ rfl
 refine⟨fun h1=>⟨by omega,tmod_nn _ _ h.2⟩,fun h1=> ?_⟩
 simp at h1
 rw[Int.emod_eq_of_lt (by omega) (by omega)]
noncomputable def kfr:Con TB.den:= .gp 127 [.st 6,yqu,yqu] [yqu] [] fun(p0:wy) (p1 p2:Int)=>(p0.P=18446744069414584321/\U64 p1/\U64 p2,((p1+p2)%18446744069414584321:Int),())
theorem k4u:kfr.Ok Tryz.prog TB:=qrv Bs Tryz.func127 .no (k1e.c (k1w.c (khs.c c0))) (Q:=∀(p0:wy) (p1 p2:Int),(p0.P=18446744069414584321/\U64 p1/\U64 p2)->∀r0:Int,((p1+p2)%18446744069414584321)=r0-> 
(p0.P=18446744069414584321)/\((!true)=true->
 0=r0)/\
((!true)=false->
(0<p0.P/\0<=p1)/\(0<p0.P/\0<=p2)/\(p0.P=18446744069414584321/\(0<=(p1%p0.P)/\(p1%p0.P)<18446744069414584321)/\(0<=(p2%p0.P)/\(p2%p0.P)<18446744069414584321))/\let r1:Int:=(((p1%p0.P)+(p2%p0.P))%18446744069414584321)
 r1=r0)) (by kernel_rfl)<|by
 rintro p0 p1 p2 h _ rfl
 obtain⟨hP,h1,h2⟩:=h
 refine⟨hP,?_⟩
 simp only[hP]
 refine⟨fun h=>by simp at h,fun _=>⟨by omega,by omega,⟨by trivial,by omega,by omega⟩,?_⟩⟩
 omega
noncomputable def kdd:Con TB.den:= .gp 118 [yqu] [yqi] [] fun(p0:Int)=>(U64 p0,(len64 p0:Int),())
theorem k7y:kdd.Ok Tryz.prog TB:=qrv Bs Tryz.func118 (.r 0 (.jn ⟨[],[],[0,2],[.one (zqu),.one (zqi)],[]⟩ [] .no [] (.jn ⟨[],[],[0,2],[.one (zqu),.one (zqi)],[]⟩ [] .no [] (.jn ⟨[],[],[0,2],[.one (zqu),.one (zqi)],[]⟩ [] .no [] .no)))) c0 (Q:=∀(p0:Int),(U64 p0)->∀r0:Int,len64 p0=r0-> 
 ∀J1:Int->Int->Prop,(∀(b1 f1:Int),
(∀J2:Int->Int->Prop,(∀(i1 k1:Int),
(∀J3:Int->Int->Prop,(∀(l1 m1:Int),
((0<=IntKind.u8.wrap l1/\IntKind.u8.wrap l1<((⟨#[0,1,2,2,3,3,3,3,4,4,4,4,4,4,4,4,5,5,5,5,5,5,5,5,5,5,5,5,5,5,5,5,6,6,6,6,6,6,6,6,6,6,6,6,6,6,6,6,6,6,6,6,6,6,6,6,6,6,6,6,6,6,6,6,7,7,7,7,7,7,7,7,7,7,7,7,7,7,7,7,7,7,7,7,7,7,7,7,7,7,7,7,7,7,7,7,7,7,7,7,7,7,7,7,7,7,7,7,7,7,7,7,7,7,7,7,7,7,7,7,7,7,7,7,7,7,7,7,8,8,8,8,8,8,8,8,8,8,8,8,8,8,8,8,8,8,8,8,8,8,8,8,8,8,8,8,8,8,8,8,8,8,8,8,8,8,8,8,8,8,8,8,8,8,8,8,8,8,8,8,8,8,8,8,8,8,8,8,8,8,8,8,8,8,8,8,8,8,8,8,8,8,8,8,8,8,8,8,8,8,8,8,8,8,8,8,8,8,8,8,8,8,8,8,8,8,8,8,8,8,8,8,8,8,8,8,8,8,8,8,8,8,8,8,8,8,8,8,8,8,8,8,8,8,8,8]⟩:ByteArray).size:Int))/\let v1:Int:=byteAt (⟨#[0,1,2,2,3,3,3,3,4,4,4,4,4,4,4,4,5,5,5,5,5,5,5,5,5,5,5,5,5,5,5,5,6,6,6,6,6,6,6,6,6,6,6,6,6,6,6,6,6,6,6,6,6,6,6,6,6,6,6,6,6,6,6,6,7,7,7,7,7,7,7,7,7,7,7,7,7,7,7,7,7,7,7,7,7,7,7,7,7,7,7,7,7,7,7,7,7,7,7,7,7,7,7,7,7,7,7,7,7,7,7,7,7,7,7,7,7,7,7,7,7,7,7,7,7,7,7,7,8,8,8,8,8,8,8,8,8,8,8,8,8,8,8,8,8,8,8,8,8,8,8,8,8,8,8,8,8,8,8,8,8,8,8,8,8,8,8,8,8,8,8,8,8,8,8,8,8,8,8,8,8,8,8,8,8,8,8,8,8,8,8,8,8,8,8,8,8,8,8,8,8,8,8,8,8,8,8,8,8,8,8,8,8,8,8,8,8,8,8,8,8,8,8,8,8,8,8,8,8,8,8,8,8,8,8,8,8,8,8,8,8,8,8,8,8,8,8,8,8,8,8,8,8,8,8,8]⟩:ByteArray) (IntKind.u8.wrap l1)
 let v2:Int:=i64.wrap (m1+(i64.wrap v1))
 v2=r0)->J3 l1 m1)->
(decide (256<=i1)=true->
 J3 (ishr .u64 i1 8) (i64.wrap (k1+8)))/\
(decide (256<=i1)=false->
 J3 i1 k1))->J2 i1 k1)->
(decide (65536<=b1)=true->
 J2 (ishr .u64 b1 16) (i64.wrap (f1+16)))/\
(decide (65536<=b1)=false->
 J2 b1 f1))->J1 b1 f1)->
(decide (4294967296<=p0)=true->
 J1 (ishr .u64 p0 32) 32)/\
(decide (4294967296<=p0)=false->
 J1 p0 0)) (by kernel_rfl)<|by
 rintro p0 h _ rfl
 intro J1 j1
 have j1:∀s0 s2:Int,0<=s0->s0<4294967296->0<=s2->s2<=32->len64 p0=s2+len64 s0->J1 s0 s2:=fun s0 s2 h0 h1 h2 h3 h4=>by
  refine j1 _ _ fun J2 j2=> ?_
  have j2:∀s0 s2:Int,0<=s0->s0<65536->0<=s2->s2<=48->len64 p0=s2+len64 s0->J2 s0 s2:=fun s0 s2 h0 h1 h2 h3 h4=>by
   refine j2 _ _ fun J3 j3=> ?_
   have j3:∀s0 s2:Int,0<=s0->s0<256->0<=s2->s2<=56->len64 p0=s2+len64 s0->J3 s0 s2:=fun s0 s2 h0 h1 h2 h3 h4=>by
    refine j3 _ _ ?_
    have e:IntKind.u8.wrap s0=s0:=by rw[u8w];omega
    have l:=kiz s0 ⟨h0,h1⟩
    show(0<=IntKind.u8.wrap s0/\IntKind.u8.wrap s0<(tab8.size:Int))/\i64.wrap (s2+i64.wrap (byteAt tab8 (IntKind.u8.wrap s0)))=_
    rw[e,kkr,ki5 s0 ⟨h0,h1⟩,wi (len64 s0) (by omega) (by omega),wi (s2+len64 s0) (by omega) (by omega),h4]
    exact⟨⟨h0,h1⟩,rfl⟩
   refine⟨fun h=> ?_,fun h=>j3 s0 s2 h0 (by simpa using h) h2 (by omega) h4⟩
   have h:=of_decide_eq_true h
   rw[<-k66 s0 8 (by simpa using h),<-Int.add_assoc,Int.add_right_comm]at h4
   rw[ishr8,wi _ (by omega) (by omega)]
   exact j3 _ _ (by omega) (by omega) (by omega) (by omega) (by omega)
  refine⟨fun h=> ?_,fun h=>j2 s0 s2 h0 (by simpa using h) h2 (by omega) h4⟩
  have h:=of_decide_eq_true h
  rw[<-k66 s0 16 (by simpa using h),<-Int.add_assoc,Int.add_right_comm]at h4
  rw[ishr16,wi _ (by omega) (by omega)]
  exact j2 _ _ (by omega) (by omega) (by omega) (by omega) (by omega)
 refine⟨fun h1=> ?_,fun h1=> ?_⟩
 ·have h1:=of_decide_eq_true h1
  rw[ishr32]
  exact j1 _ _ (by omega) (by omega) (by omega) (by omega) (by rw[<-k66 p0 32 (by simpa using h1),Int.add_comm];rfl)
 ·exact j1 p0 0 h.1 (by simpa using h1) (by omega) (by omega) (by omega)
noncomputable def k5o:Con TB.den:= .gp 153 [yqu] [yqi] [] fun(p0:Int)=>(0<p0/\p0<18446744073709551616,(64-len64 p0:Int),())
theorem k6b:k5o.Ok Tryz.prog TB:=qrv Bs Tryz.func153 .no (k7y.c c0) (Q:=∀(p0:Int),(0<p0/\p0<18446744073709551616)->∀r0:Int,(64-len64 p0)=r0-> 
(U64 p0)/\i64.wrap (64-(len64 p0))=r0) (by kernel_rfl)<|by
 rintro p0 h _ rfl
 obtain⟨s,e,h1,_⟩:=kbo p0 h
 refine⟨⟨by omega,h.2⟩,?_⟩
 exact wi _ (by omega) (by omega)
noncomputable def kd9:Con TB.den:= .gp 145 [yqu,yqu,yqu] [yqu,yqu] [] fun(p0 p1 p2:Int)=>(U64 p0/\U64 p1/\U64 p2/\p0<p2,((p0*18446744073709551616+p1)/p2:Int),((p0*18446744073709551616+p1)%p2:Int),())
theorem k7t:kd9.Ok Tryz.prog TB:=qrv Bs Tryz.func145 (.r 13 (.jn ⟨[],[],[15,16],[.one (zqu),.one (.any)],[]⟩ [] (.lp [] ⟨[],[],[15,16],[.one (zqu),.one (zqu)],[]⟩ (.jn ⟨[],[],[],[],[]⟩ [] .no [] .no)) [] (.r 2 (.jn ⟨[],[],[16,18],[.one (.any),.one (zqu)],[]⟩ [] (.lp [] ⟨[],[],[16,18],[.one (zqu),.one (zqu)],[]⟩ (.jn ⟨[],[],[],[],[]⟩ [] .no [] .no)) [] .no)))) (k6b.c c0) (Q:=∀(p0 p1 p2:Int),(U64 p0/\U64 p1/\U64 p2/\p0<p2)->∀r0:Int,((p0*18446744073709551616+p1)/p2)=r0->∀r1:Int,((p0*18446744073709551616+p1)%p2)=r1-> 
((p2==0)=true->
 False)/\
((p2==0)=false->
(decide (p2<=p0)=true->
 False)/\
(decide (p2<=p0)=false->
((p0==0)=true->
(p2≠0)/\(p2≠0)/\u64.wrap (Int.tdiv p1 p2)=r0/\Int.tmod p1 p2=r1)/\
((p0==0)=false->
(0<p2/\p2<18446744073709551616)/\(0<=u64.wrap (64-len64 p2))/\let v2:Int:=ishl .u64 p2 (u64.wrap (64-len64 p2))
(0<=u64.wrap (64-len64 p2))/\let v3:Int:=ishl .u64 p0 (u64.wrap (64-len64 p2))
 let v4:Int:=u64.wrap (64-(u64.wrap (64-len64 p2)))
(0<=v4)/\(0<=u64.wrap (64-len64 p2))/\let v5:Int:=ishl .u64 p1 (u64.wrap (64-len64 p2))
(ishr .u64 v2 32≠0)/\let v6:Int:=u64.wrap (Int.tdiv (ior .u64 v3 (ishr .u64 p1 v4)) (ishr .u64 v2 32))
 let v7:Int:=u64.wrap (v6*(ishr .u64 v2 32))
 let v8:Int:=u64.wrap ((ior .u64 v3 (ishr .u64 p1 v4))-v7)
 ∀J1:Int->Prop,(∀(b1:Int),
(let v12:Int:=u64.wrap ((ior .u64 v3 (ishr .u64 p1 v4))*4294967296)
 let v13:Int:=u64.wrap (v12+(ishr .u64 v5 32))
 let v14:Int:=u64.wrap (v13-(u64.wrap (b1*v2)))
(ishr .u64 v2 32≠0)/\let v15:Int:=u64.wrap (Int.tdiv v14 (ishr .u64 v2 32))
 let v16:Int:=u64.wrap (v15*(ishr .u64 v2 32))
 ∀J3:Int->Prop,(∀(k1:Int),
(let v20:Int:=u64.wrap ((u64.wrap (b1*4294967296))+k1)
 let v21:Int:=u64.wrap ((u64.wrap (v14*4294967296))+(iand .u64 v5 4294967295))
 let v22:Int:=u64.wrap (v21-(u64.wrap (k1*v2)))
(0<=u64.wrap (64-len64 p2))/\let v23:Int:=ishr .u64 v22 (u64.wrap (64-len64 p2))
 v20=r0/\v23=r1)->J3 k1)->
 ∃(I2:Int->Int->Prop) (M2:Int->Int->Nat),I2 (u64.wrap (v14-v16)) v15/\∀(l1 m1:Int),(I2 l1 m1->
 ∀J4:Prop,((let v19:Int:=u64.wrap (l1+(ishr .u64 v2 32))
(decide (4294967296<=v19)=true->
 J3 (u64.wrap (m1-1)))/\
(decide (4294967296<=v19)=false->
 I2 v19 (u64.wrap (m1-1))/\M2 v19 (u64.wrap (m1-1))<M2 l1 m1))->J4)->
(decide (4294967296<=m1)=true->
 J4)/\
(decide (4294967296<=m1)=false->
 let v17:Int:=u64.wrap (m1*(iand .u64 v2 4294967295))
 let v18:Int:=u64.wrap ((u64.wrap (4294967296*l1))+(iand .u64 v5 4294967295))
(decide (v18<v17)=true->
 J4)/\
(decide (v18<v17)=false->
 J3 m1))))->J1 b1)->
 ∃(I1:Int->Int->Prop) (M1:Int->Int->Nat),I1 v6 v8/\∀(f1 i1:Int),(I1 f1 i1->
 ∀J2:Prop,((let v11:Int:=u64.wrap (i1+(ishr .u64 v2 32))
(decide (4294967296<=v11)=true->
 J1 (u64.wrap (f1-1)))/\
(decide (4294967296<=v11)=false->
 I1 (u64.wrap (f1-1)) v11/\M1 (u64.wrap (f1-1)) v11<M1 f1 i1))->J2)->
(decide (4294967296<=f1)=true->
 J2)/\
(decide (4294967296<=f1)=false->
 let v9:Int:=u64.wrap (f1*(iand .u64 v2 4294967295))
 let v10:Int:=u64.wrap ((u64.wrap (4294967296*i1))+(ishr .u64 v5 32))
(decide (v10<v9)=true->
 J2)/\
(decide (v10<v9)=false->
 J1 f1))))))) (by kernel_rfl)<|by
 rintro p0 p1 p2 h _ rfl _ rfl
 obtain⟨h0,h1,h2,hlt⟩:=h
 refine⟨fun e=> ?_,fun _=>⟨fun e=> ?_,fun _=>⟨fun e=> ?_,fun _=> ?_⟩⟩⟩
 ·simp at e;omega
 ·simp at e;omega
 ·have e:p0=0:=by simpa using e
  subst e
  rw[tdiv_nn _ _ h1.1,tmod_nn _ _ h1.1,Int.zero_mul,Int.zero_add]
  have:=Int.ediv_le_self p2 h1.1
  have:=Int.ediv_nonneg h1.1 h2.1
  exact⟨by omega,by omega,wu _ (by omega) (by have:=Int.ediv_le_self p2 h1.1;omega),rfl⟩
 obtain⟨s,e,hs,n1,n2⟩:=kbo p2 ⟨by omega,h2.2⟩
 have ew:u64.wrap (64-len64 p2)=(s:Int):=by rw[e,wu _ (by omega) (by omega)]
 have ew3:u64.wrap (64-(s:Int))=((64-s:Nat):Int):=by rw[wu _ (by omega) (by omega)];omega
 have hp:0<2^s:=Nat.two_pow_pos s
 have hp' :0<2^(64-s):=Nat.two_pow_pos _
 have hpp:2^s*2^(64-s)=18446744073709551616:=by rw[<-Nat.pow_add,show s+(64-s)=64 by omega]
 have hP:((2^s:Nat):Int)*((2^(64-s):Nat):Int)=18446744073709551616:=by rw[<-Int.natCast_mul,hpp];rfl
 have il:∀a:Int,ishl .u64 a (s:Int)=a*((2^s:Nat):Int)%18446744073709551616:=fun a=>by rw[kmb,Int.toNat_natCast,Nat.min_eq_left (by omega)]
 have ir:∀a:Int,ishr .u64 a (s:Int)=a/((2^s:Nat):Int):=fun a=>by rw[k2r,Int.toNat_natCast,show min s u64.bits=s from Nat.min_eq_left (by show s<=64;omega)]
 have ir' :∀a:Int,ishr .u64 a ((64-s:Nat):Int)=a/((2^(64-s):Nat):Int):=fun a=>by rw[k2r,Int.toNat_natCast,show min (64-s) u64.bits=64-s from Nat.min_eq_left (by show 64-s<=64;omega)]
 have hor:∀c:Int,0<=c->c<((2^s:Nat):Int)->p0*((2^s:Nat):Int)+c<18446744073709551616->ior .u64 (p0*((2^s:Nat):Int)) c=p0*((2^s:Nat):Int)+c:=by
  intro c hc0 hc1 hc2
  obtain⟨a,rfl⟩:=Int.eq_ofNat_of_zero_le h0.1
  obtain⟨c,rfl⟩:=Int.eq_ofNat_of_zero_le hc0
  have key:=ior_add' c a s (by omega)
  rw[Int.mul_comm,<-Int.natCast_mul]at hc2 ⊢
  rw[key (by omega)]
  omega
 simp only[ew,ew3,il,ir',ishr32]
 have hP'0:(0:Int)<((2^(64-s):Nat):Int):=by omega
 generalize hPd:((2^s:Nat):Int)=P at *
 generalize hPd' :((2^(64-s):Nat):Int)=P' at *
 have hP0:0<P:=by omega
 have hlo:p1/P' <P:=Int.ediv_lt_of_lt_mul hP'0 (by omega)
 have hlo0:0<=p1/P' :=Int.ediv_nonneg h1.1 (by omega)
 have hUv:p0*P+P<=p2*P:=by
  have:(p0+1)*P<=p2*P:=Int.mul_le_mul_of_nonneg_right (by omega) (by omega)
  grind
 have hUp:0<=p0*P:=Int.mul_nonneg h0.1 (by omega)
 rw[Int.emod_eq_of_lt (a:=p2*P) (by omega) n2,Int.emod_eq_of_lt (a:=p0*P) hUp (by omega),hor _ hlo0 hlo (by omega)]
 have hN:(p0*18446744073709551616+p1)*P=(p0*P+p1/P')*18446744073709551616+(p1*P%18446744073709551616/4294967296)*4294967296+p1*P%18446744073709551616%4294967296:=by
  have h5:p1*P/18446744073709551616=p1/P' :=by
   rw[<-hP,Int.mul_comm p1 P,Int.mul_ediv_mul_of_pos _ _ hP0]
  have h6:=Int.emod_add_mul_ediv (p1*P) 18446744073709551616
  rw[h5]at h6
  have:(p0*18446744073709551616+p1)*P=p0*P*18446744073709551616+p1*P:=by grind
  rw[this]
  generalize p1*P=w at *
  generalize p0*P=w' at *
  omega
 have hlb:0<=p1*P%18446744073709551616/\p1*P%18446744073709551616<18446744073709551616:=⟨Int.emod_nonneg _ (by omega),Int.emod_lt_of_pos _ (by omega)⟩
 generalize hUd:p0*P+p1/P' =U at *
 generalize hLd:p1*P%18446744073709551616=L at *
 have hVd:p2*P/4294967296*4294967296+p2*P%4294967296=p2*P:=by omega
 have hw:∀{Q R V' :Int},R-Q=V'->0<=V'->V' <18446744073709551616->∀A,R=A*4294967296+(R-A*4294967296)->u64.wrap (u64.wrap (u64.wrap (A*4294967296)+(R-A*4294967296))-u64.wrap Q)=V' :=by
  intro Q R V' hv h0 h1 A hA
  simp only[u64w]
  omega
 rw[k2h (p2*P) (by omega),k2h L (by omega)]
 generalize ha:p2*P/4294967296=a at *
 generalize hb:p2*P%4294967296=b at *
 have hQ1:Half U (L/4294967296) a b ((U*4294967296+L/4294967296)/(a*4294967296+b)):=⟨by omega,by omega,by omega,by omega,by omega,rfl⟩
 have hr1:=hQ1.rest
 have hq1:=hQ1.q
 generalize (U*4294967296+L/4294967296)/(a*4294967296+b)=Q1 at *
 generalize (U*4294967296+L/4294967296)%(a*4294967296+b)=R1 at *
 have hQ0:Half R1 (L%4294967296) a b ((R1*4294967296+L%4294967296)/(a*4294967296+b)):=⟨by omega,by omega,by omega,by omega,by omega,rfl⟩
 have hr0:=hQ0.rest
 have hq0:=hQ0.q
 generalize (R1*4294967296+L%4294967296)/(a*4294967296+b)=Q0 at *
 generalize (R1*4294967296+L%4294967296)%(a*4294967296+b)=R0 at *
 rw[hVd]at hr1 hr0 hq1 hq0
 have fin:=kjx hP0 (by omega:0<p2) hN hr1.1 hr0.1 ⟨hr0.2.1,hr0.2.2⟩
 have aux:∀{U x Q q r:Int},Half U x a b Q->U<18446744073709551616->q*a+r=U->Q<=q->0<=r->q<=8589934592:=by
  intro U x Q q r hh hU e hQ hr
  have h1:=hh.ha
  refine Int.le_of_lt_add_one (Int.lt_of_mul_lt_mul_right (a:=a) ?_ (by omega))
  generalize q*a=w at *
  omega
 have init:∀{U x Q:Int},Half U x a b Q->Q<=U/a:=by
  intro U x Q hh
  have h1:=hh.ha
  have h2:=hh.q
  have h3:=hh.hb
  have h4:=hh.hx
  refine(Int.le_ediv_iff_mul_le (by omega)).2 ?_
  have h5:Q*(a*4294967296+b)=Q*a*4294967296+Q*b:=by grind
  have h6:0<=Q*b:=Int.mul_nonneg h2.1 h3.1
  generalize Q*a=w at *
  omega
 have hd:=Int.emod_add_mul_ediv U a
 have hd1:=Int.emod_nonneg U (by omega:a≠0)
 have hd2:=Int.emod_lt_of_pos U (by omega:0<a)
 have hd3:0<=U/a:=Int.ediv_nonneg (by omega) (by omega)
 rw[Int.mul_comm]at hd
 have hd5:0<=U/a*a:=Int.mul_nonneg hd3 (by omega)
 have hd4:=aux hQ1 (by omega) (q:=U/a) (r:=U%a) (by omega) (init hQ1) hd1
 rw[tdiv_nn _ _ (by omega),wu (U/a) (by omega) (by omega),wu (U/a*a) (by omega) (by omega),show U-U/a*a=U%a by omega,wu (U%a) (by omega) (by omega)]
 refine⟨⟨by omega,h2.2⟩,by omega,by omega,by omega,by omega,by omega,fun J1 k1=> ?_⟩
 have j2:J1 Q1:=by
  have e1:=hw (Q:=Q1*(p2*P)) (R:=U*4294967296+L/4294967296) hr1.1 hr1.2.1 (by omega) U (by omega)
  rw[show U*4294967296+L/4294967296-U*4294967296=L/4294967296 by omega]at e1
  refine k1 _ ?_
  simp only[e1]
  have hd:=Int.emod_add_mul_ediv R1 a
  have hd1:=Int.emod_nonneg R1 (by omega:a≠0)
  have hd2:=Int.emod_lt_of_pos R1 (by omega:0<a)
  have hd3:0<=R1/a:=Int.ediv_nonneg hr1.2.1 (by omega)
  rw[Int.mul_comm]at hd
  have hd5:0<=R1/a*a:=Int.mul_nonneg hd3 (by omega)
  have hd4:=aux hQ0 (by omega) (q:=R1/a) (r:=R1%a) (by omega) (init hQ0) hd1
  rw[tdiv_nn _ _ hr1.2.1,wu (R1/a) (by omega) (by omega),wu (R1/a*a) (by omega) (by omega),show R1-R1/a*a=R1%a by omega,wu (R1%a) (by omega) (by omega)]
  refine⟨by omega,fun J3 k3=> ?_⟩
  have j4:J3 Q0:=by
   refine k3 _ ⟨by omega,?_,?_⟩
   ·rw[wu (Q1*4294967296) (by omega) (by omega),wu _ (by omega) (by omega)]
    exact fin.1
   ·have:=hw (Q:=Q0*(p2*P)) (R:=R1*4294967296+L%4294967296) hr0.1 hr0.2.1 (by omega) R1 (by omega)
    rw[show R1*4294967296+L%4294967296-R1*4294967296=L%4294967296 by omega]at this
    rw[this,ir]
    exact fin.2
  refine⟨fun r q=>q*a+r=R1/\Q0<=q/\0<=r/\r<4294967296,fun r q=>q.toNat,⟨by omega,init hQ0,hd1,by omega⟩,?_⟩
  rintro r q ⟨g1,g2,g3,g4⟩ J4 k4
  have g5:=aux hQ0 (by omega) g1 g2 g3
  have nxt:Q0<=q-1->r+a<4294967296->((q-1)*a+(r+a)=R1/\Q0<=q-1/\0<=r+a/\r+a<4294967296)/\(q-1).toNat<q.toNat:=fun h1 h2=>⟨⟨by grind,h1,by omega,h2⟩,by omega⟩
  have j3:Q0<=q-1->J4:=by
   intro hq
   refine k4 ?_
   rw[wu (q-1) (by omega) (by omega),wu (r+a) (by omega) (by omega)]
   refine⟨fun hd=> ?_,fun hd=>nxt hq (by simpa using hd)⟩
   have hd:4294967296<=r+a:=of_decide_eq_true hd
   rw[hQ0.done (q:=q-1) (r:=r+a) (by grind) hq hd]
   exact j4
  refine⟨fun hd=>j3 (hQ0.down g1 (.inl (of_decide_eq_true hd))),fun hd=> ?_⟩
  have hd:q<4294967296:=by simpa using hd
  have hqb:0<=q*b/\q*b<18446744073709551616:=by
   have:=hQ0.hb
   have h1:q*b<=4294967295*4294967295:=Int.mul_le_mul (by omega) (by omega) (by omega) (by omega)
   exact⟨Int.mul_nonneg (by omega) (by omega),by omega⟩
  have:=hQ0.hx
  rw[wu (q*b) (by omega) (by omega),wu (4294967296*r) (by omega) (by omega),wu (4294967296*r+L%4294967296) (by omega) (by omega)]
  refine⟨fun ht=> ?_,fun ht=> ?_⟩
  ·have ht:4294967296*r+L%4294967296<q*b:=of_decide_eq_true ht
   exact j3 (hQ0.down g1 (.inr (by omega)))
  ·have ht:¬(4294967296*r+L%4294967296<q*b):=of_decide_eq_false ht
   rw[hQ0.exit g1 g2 (by omega)]
   exact j4
 refine⟨fun q r=>q*a+r=U/\Q1<=q/\0<=r/\r<4294967296,fun q r=>q.toNat,⟨by omega,init hQ1,hd1,by omega⟩,?_⟩
 rintro q r ⟨g1,g2,g3,g4⟩ J2 k2
 have g5:=aux hQ1 (by omega) g1 g2 g3
 have nxt:Q1<=q-1->r+a<4294967296->((q-1)*a+(r+a)=U/\Q1<=q-1/\0<=r+a/\r+a<4294967296)/\(q-1).toNat<q.toNat:=fun h1 h2=>⟨⟨by grind,h1,by omega,h2⟩,by omega⟩
 have j1:Q1<=q-1->J2:=by
  intro hq
  refine k2 ?_
  rw[wu (q-1) (by omega) (by omega),wu (r+a) (by omega) (by omega)]
  refine⟨fun hd=> ?_,fun hd=>nxt hq (by simpa using hd)⟩
  have hd:4294967296<=r+a:=of_decide_eq_true hd
  rw[hQ1.done (q:=q-1) (r:=r+a) (by grind) hq hd]
  exact j2
 refine⟨fun hd=>j1 (hQ1.down g1 (.inl (of_decide_eq_true hd))),fun hd=> ?_⟩
 have hd:q<4294967296:=by simpa using hd
 have hqb:0<=q*b/\q*b<18446744073709551616:=by
  have:=hQ1.hb
  have h1:q*b<=4294967295*4294967295:=Int.mul_le_mul (by omega) (by omega) (by omega) (by omega)
  exact⟨Int.mul_nonneg (by omega) (by omega),by omega⟩
 have:=hQ1.hx
 rw[wu (q*b) (by omega) (by omega),wu (4294967296*r) (by omega) (by omega),wu (4294967296*r+L/4294967296) (by omega) (by omega)]
 refine⟨fun ht=> ?_,fun ht=> ?_⟩
 ·have ht:4294967296*r+L/4294967296<q*b:=of_decide_eq_true ht
  exact j1 (hQ1.down g1 (.inr (by omega)))
 ·have ht:¬(4294967296*r+L/4294967296<q*b):=of_decide_eq_false ht
  rw[hQ1.exit g1 g2 (by omega)]
  exact j2
noncomputable def kdo:Con TB.den:= .gp 144 [yqu,yqu] [yqu,yqu] [] fun(p0 p1:Int)=>(U64 p0/\U64 p1,(p0*p1/18446744073709551616:Int),(p0*p1%18446744073709551616:Int),())
theorem k7w:kdo.Ok Tryz.prog TB:=qrv Bs Tryz.func144 .no c0 (Q:=∀(p0 p1:Int),(U64 p0/\U64 p1)->∀r0:Int,(p0*p1/18446744073709551616)=r0->∀r1:Int,(p0*p1%18446744073709551616)=r1-> 
 let v2:Int:=u64.wrap ((iand .u64 p0 4294967295)*(iand .u64 p1 4294967295))
 let v3:Int:=u64.wrap ((ishr .u64 p0 32)*(iand .u64 p1 4294967295))
 let v4:Int:=u64.wrap (v3+(ishr .u64 v2 32))
 let v5:Int:=u64.wrap ((iand .u64 p0 4294967295)*(ishr .u64 p1 32))
 let v6:Int:=u64.wrap ((iand .u64 v4 4294967295)+v5)
 let v7:Int:=u64.wrap ((ishr .u64 p0 32)*(ishr .u64 p1 32))
 let v8:Int:=u64.wrap (v7+(ishr .u64 v4 32))
 let v9:Int:=u64.wrap (v8+(ishr .u64 v6 32))
 v9=r0/\u64.wrap (p0*p1)=r1) (by kernel_rfl)<|by
 rintro p0 p1 h _ rfl _ rfl
 obtain⟨h0,h1⟩:=h
 have k:=kly p0 p1 h0 h1
 refine ?_
 simp only[k2h p0 h0,k2h p1 h1,ishr32]
 obtain⟨e,k1,k2,k3,k4,k5,k6,k7,k8⟩:=k
 rw[<-e]
 rw[wu (p0%4294967296*(p1%4294967296)) (by omega) (by omega),wu (p0/4294967296*(p1%4294967296)) (by omega) (by omega),wu (p0%4294967296*(p1/4294967296)) (by omega) (by omega),wu (p0/4294967296*(p1/4294967296)) (by omega) (by omega)]
 generalize p0%4294967296*(p1%4294967296)=a at *
 generalize p0/4294967296*(p1%4294967296)=b at *
 generalize p0%4294967296*(p1/4294967296)=c at *
 generalize p0/4294967296*(p1/4294967296)=d at *
 rw[wu (b+a/4294967296) (by omega) (by omega),k2h _ (by omega)]
 simp only[u64w]
 refine⟨?_,trivial⟩
 omega
noncomputable def kfz:Con TB.den:= .gp 135 [.st 6,yqu,yqu] [yqu] [] fun(p0:wy) (p1 p2:Int)=>(p0.P=18446744069414584321/\(0<=p1/\p1<18446744069414584321)/\(0<=p2/\p2<18446744069414584321),(p1*p2%18446744069414584321:Int),())
theorem k8t:kfz.Ok Tryz.prog TB:=qrv Bs Tryz.func135 .no (k7w.c (k7t.c c0)) (Q:=∀(p0:wy) (p1 p2:Int),(p0.P=18446744069414584321/\(0<=p1/\p1<18446744069414584321)/\(0<=p2/\p2<18446744069414584321))->∀r0:Int,(p1*p2%18446744069414584321)=r0-> 
(U64 p1/\U64 p2)/\(U64 (p1*p2/18446744073709551616)/\U64 (p1*p2%18446744073709551616)/\U64 p0.P/\(p1*p2/18446744073709551616)<p0.P)/\let r1:Int:=(((p1*p2/18446744073709551616)*18446744073709551616+(p1*p2%18446744073709551616))/p0.P)
 let r2:Int:=(((p1*p2/18446744073709551616)*18446744073709551616+(p1*p2%18446744073709551616))%p0.P)
 r2=r0) (by kernel_rfl)<|by
 rintro p0 p1 p2 h _ rfl
 obtain⟨hP,h1,h2⟩:=h
 have h3:0<=p1*p2:=Int.mul_nonneg h1.1 h2.1
 have h4:p1*p2<=18446744069414584320*18446744069414584320:=Int.mul_le_mul (by omega) (by omega) h2.1 (by omega)
 refine⟨⟨by omega,by omega⟩,?_⟩
 simp only[hP]
 generalize p1*p2=m at *
 refine⟨⟨⟨by omega,by omega⟩,⟨by omega,by omega⟩,by omega,by omega⟩,?_⟩
 rw[show m/18446744073709551616*18446744073709551616+m%18446744073709551616=m by omega]
noncomputable def kg0:Con TB.den:= .gp 128 [.st 6,yqu,yqu] [yqu] [] fun(p0:wy) (p1 p2:Int)=>(p0.P=18446744069414584321/\U64 p1/\U64 p2,(p1*p2%18446744069414584321:Int),())
theorem kh9:kg0.Ok Tryz.prog TB:=qrv Bs Tryz.func128 .no (k1e.c (k1w.c (k8t.c c0))) (Q:=∀(p0:wy) (p1 p2:Int),(p0.P=18446744069414584321/\U64 p1/\U64 p2)->∀r0:Int,(p1*p2%18446744069414584321)=r0-> 
(p0.P=18446744069414584321)/\((!true)=true->
 0=r0)/\
((!true)=false->
(0<p0.P/\0<=p1)/\(0<p0.P/\0<=p2)/\(p0.P=18446744069414584321/\(0<=(p1%p0.P)/\(p1%p0.P)<18446744069414584321)/\(0<=(p2%p0.P)/\(p2%p0.P)<18446744069414584321))/\let r1:Int:=((p1%p0.P)*(p2%p0.P)%18446744069414584321)
 r1=r0)) (by kernel_rfl)<|by
 rintro p0 p1 p2 h _ rfl
 obtain⟨hP,h1,h2⟩:=h
 refine⟨hP,?_⟩
 simp only[hP]
 refine⟨fun h=>by simp at h,fun _=>⟨by omega,by omega,⟨by trivial,by omega,by omega⟩,?_⟩⟩
 exact(Int.mul_emod _ _ _).symm
noncomputable def k99:Con TB.den:= .gp 146 [.st 6] [yqu,yqi,yqu] [] fun(p0:wy)=>(p0.P=18446744069414584321,(7:Int),(32:Int),(7:Int),())
theorem kaq:k99.Ok Tryz.prog TB:=qrv Bs Tryz.func146 .no c0 (Q:=∀(p0:wy),(p0.P=18446744069414584321)->∀r0:Int,(7:Int)=r0->∀r1:Int,(32:Int)=r1->∀r2:Int,(7:Int)=r2-> 
((p0.P==17)=true->
 3=r0/\4=r1/\3=r2)/\
((p0.P==17)=false->
((p0.P==97)=true->
 5=r0/\5=r1/\5=r2)/\
((p0.P==97)=false->
((p0.P==193)=true->
 5=r0/\6=r1/\5=r2)/\
((p0.P==193)=false->
((p0.P==257)=true->
 3=r0/\8=r1/\3=r2)/\
((p0.P==257)=false->
((p0.P==12289)=true->
 11=r0/\12=r1/\5=r2)/\
((p0.P==12289)=false->
((p0.P==65537)=true->
 3=r0/\16=r1/\3=r2)/\
((p0.P==65537)=false->
((p0.P==18446744069414584321)=true->
 7=r0/\32=r1/\7=r2)/\
((p0.P==18446744069414584321)=false->
 0=r0/\0=r1/\0=r2)))))))) (by kernel_rfl)<|by
 rintro p0 h _ rfl _ rfl _ rfl
 refine ?_
 simp[h]
noncomputable def k8a:Con TB.den:= .gp 136 [.st 6] [yqu] [] fun(p0:wy)=>(p0.P=18446744069414584321,(7:Int),())
theorem k9k:k8a.Ok Tryz.prog TB:=qrv Bs Tryz.func136 .no (kaq.c c0) (Q:=∀(p0:wy),(p0.P=18446744069414584321)->∀r0:Int,(7:Int)=r0-> 
(p0.P=18446744069414584321)/\7=r0) (by kernel_rfl)<|by
 rintro p0 h _ rfl
 exact⟨h,rfl⟩
noncomputable def kfw:Con TB.den:= .gp 147 [.st 6,yqu,yqu] [yqu] [] fun(p0:wy) (p1 p2:Int)=>(p0.P=18446744069414584321/\(0<=p1/\p1<18446744069414584321)/\U64 p2,(pw p1 p2:Int),())
theorem ki1:kfw.Ok Tryz.prog TB:=qrv Bs Tryz.func147 (.r 1 (.nd [] (.lp [] ⟨[],[],[1,2,7],[.one (zqu),.one (zqu),.one (zqu)],[]⟩ (.r 0 (.jn ⟨[],[],[7],[.one (zqu)],[]⟩ [] .no [] .no))) [] .no)) (k8t.c c0) (Q:=∀(p0:wy) (p1 p2:Int),(p0.P=18446744069414584321/\(0<=p1/\p1<18446744069414584321)/\U64 p2)->∀r0:Int,pw p1 p2=r0-> 
 ∃(I1:Int->Int->Int->Prop) (M1:Int->Int->Int->Nat),I1 p1 p2 1/\∀(b1 f1 i1:Int),(I1 b1 f1 i1->
(decide (0<f1)=true->
 ∀J1:Int->Prop,(∀(k1:Int),
((decide (0<(ishr .u64 f1 1))=true->
(p0.P=18446744069414584321/\(0<=b1/\b1<18446744069414584321)/\(0<=b1/\b1<18446744069414584321))/\I1 (b1*b1%18446744069414584321) (ishr .u64 f1 1) k1/\M1 (b1*b1%18446744069414584321) (ishr .u64 f1 1) k1<M1 b1 f1 i1)/\
(decide (0<(ishr .u64 f1 1))=false->
 I1 b1 (ishr .u64 f1 1) k1/\M1 b1 (ishr .u64 f1 1) k1<M1 b1 f1 i1))->J1 k1)->
(((iand .u64 f1 1)==1)=true->
(p0.P=18446744069414584321/\(0<=i1/\i1<18446744069414584321)/\(0<=b1/\b1<18446744069414584321))/\J1 (i1*b1%18446744069414584321))/\
(((iand .u64 f1 1)==1)=false->
 J1 i1))/\
(decide (0<f1)=false->
 i1=r0))) (by kernel_rfl)<|by
 rintro p0 p1 p2 h _ rfl
 obtain⟨hP,h1,h2⟩:=h
 rw[hP]
 refine⟨fun a e r=>(0<=a/\a<18446744069414584321)/\U64 e/\(0<=r/\r<18446744069414584321)/\(r*a^e.toNat)%18446744069414584321=pw p1 p2,fun a e r=>e.toNat,⟨h1,h2,by omega,by rw[Int.one_mul];rfl⟩,?_⟩
 rintro a e r ⟨ha,he,hr,hv⟩
 refine⟨fun h J1 j=> ?_,fun h=> ?_⟩
 ·have h:=of_decide_eq_true h
  have jj:∀r',(0<=r'/\r' <18446744069414584321)->(r' *(a*a)^(e/2).toNat)%18446744069414584321=pw p1 p2->J1 r' :=by
   intro r' hr' hv'
   have hn:∀a',(0<=a'/\a' <18446744069414584321)->r' *a' ^(e/2).toNat%18446744069414584321=pw p1 p2->((0<=a'/\a' <18446744069414584321)/\U64 (e/2)/\(0<=r'/\r' <18446744069414584321)/\r' *a' ^(e/2).toNat%18446744069414584321=pw p1 p2)/\(e/2).toNat<e.toNat:=fun a' h1 h3=>⟨⟨h1,⟨by omega,by omega⟩,hr',h3⟩,by omega⟩
   refine j _ ?_
   rw[ishr1]
   refine⟨fun h=>⟨⟨rfl,ha,ha⟩,?_⟩,fun h=> ?_⟩
   ·refine hn _ ⟨Int.emod_nonneg _ (by omega),Int.emod_lt_of_pos _ (by omega)⟩ ?_
    rw[<-hv',Int.mul_emod,Int.mul_emod r' ((a*a)^_),k7d]
   ·have h:¬0<e/2:=of_decide_eq_false h
    refine hn _ ha ?_
    rw[show(e/2).toNat=0 by omega]at hv' ⊢
    simpa using hv'
  rw[km9 e he]
  have hpow:∀k:Nat,a^(2*k)=(a*a)^k:=fun k=>by rw[Int.pow_mul];congr 1;rw[Int.pow_succ,Int.pow_succ,Int.pow_zero,Int.one_mul]
  refine⟨fun h1=>⟨⟨rfl,hr,ha⟩,?_⟩,fun h1=> ?_⟩
  ·have h1:e%2=1:=by simpa using h1
   refine jj _ ⟨Int.emod_nonneg _ (by omega),Int.emod_lt_of_pos _ (by omega)⟩ ?_
   rw[<-hv,show e.toNat=2*(e/2).toNat+1 by omega,Int.pow_succ,hpow,Int.mul_emod,Int.emod_emod_of_dvd _ (Int.dvd_refl _),<-Int.mul_emod]
   congr 1
   grind
  ·have h1:¬e%2=1:=by simpa using h1
   refine jj _ hr ?_
   rw[<-hv,<-hpow,show e.toNat=2*(e/2).toNat by omega]
 ·have h:¬0<e:=of_decide_eq_false h
  rw[show e.toNat=0 by omega,Int.pow_zero,Int.mul_one,Int.emod_eq_of_lt hr.1 hr.2]at hv
  exact hv
noncomputable def kf8:Con TB.den:= .gp 137 [.st 6,yqu,yqu] [yqu] [] fun(p0:wy) (p1 p2:Int)=>(p0.P=18446744069414584321/\U64 p1/\U64 p2,(pw (p1%18446744069414584321) p2:Int),())
theorem kgc:kf8.Ok Tryz.prog TB:=qrv Bs Tryz.func137 .no (k1e.c (k1w.c (ki1.c c0))) (Q:=∀(p0:wy) (p1 p2:Int),(p0.P=18446744069414584321/\U64 p1/\U64 p2)->∀r0:Int,(pw (p1%18446744069414584321) p2)=r0-> 
(p0.P=18446744069414584321)/\((!true)=true->
 0=r0)/\
((!true)=false->
(0<p0.P/\0<=p1)/\(p0.P=18446744069414584321/\(0<=(p1%p0.P)/\(p1%p0.P)<18446744069414584321)/\U64 p2)/\(pw (p1%p0.P) p2)=r0)) (by kernel_rfl)<|by
 rintro p0 p1 p2 h _ rfl
 obtain⟨hP,h1,h2⟩:=h
 refine⟨hP,fun h=>by simp at h,fun _=>⟨by omega,?_⟩⟩
 simp only[hP]
 exact⟨⟨by trivial,by omega,h2⟩,trivial⟩
noncomputable def kbj:Con TB.den:= .gp 148 [.st 6,yqu] [yqu] [] fun(p0:wy) (p1:Int)=>(p0.P=18446744069414584321/\U64 p1,(p1%18446744069414584321:Int),())
theorem kc5:kbj.Ok Tryz.prog TB:=qrv Bs Tryz.func148 .no (k1e.c (k1w.c c0)) (Q:=∀(p0:wy) (p1:Int),(p0.P=18446744069414584321/\U64 p1)->∀r0:Int,(p1%18446744069414584321)=r0-> 
(p0.P=18446744069414584321)/\((!true)=true->
 0=r0)/\
((!true)=false->
(0<p0.P/\0<=p1)/\(p1%p0.P)=r0)) (by kernel_rfl)<|by
 rintro p0 p1 h _ rfl
 obtain⟨hP,h1⟩:=h
 refine⟨hP,fun h=>by simp at h,fun _=>⟨by omega,?_⟩⟩
 simp only[hP]
noncomputable def k4t:Con TB.den:= .gp 138 [yqu,yqi,yqi] [yqu] [] fun(p0 p1 p2:Int)=>(p0=18446744069414584321/\(0<=p1/\p1<8)/\0<=p2/\p2<3,(rc p1 p2:Int),())
theorem k5l:k4t.Ok Tryz.prog TB:=qrv Bs Tryz.func138 .no (kc5.c c0) (Q:=∀(p0 p1 p2:Int),(p0=18446744069414584321/\(0<=p1/\p1<8)/\0<=p2/\p2<3)->∀r0:Int,rc p1 p2=r0-> 
(decide (p1<0)=true->
 0=r0)/\
(decide (p1<0)=false->
(decide (8<=p1)=true->
 0=r0)/\
(decide (8<=p1)=false->
(decide (p2<0)=true->
 0=r0)/\
(decide (p2<0)=false->
(decide (2<p2)=true->
 0=r0)/\
(decide (2<p2)=false->
 let v1:Int:=i64.wrap ((i64.wrap (3*p1))+p2)
 let v2:Int:=u64.wrap (i64.wrap (v1+1))
 let v3:Int:=u64.wrap (v2*11400714819323198485)
((wy.mk p0).P=18446744069414584321/\U64 v3)/\(v3%18446744069414584321)=r0))))) (by kernel_rfl)<|by
 rintro p0 p1 p2 h _ rfl
 obtain⟨hP,h1,h2⟩:=h
 refine⟨fun h=> ?_,fun _=>⟨fun h=> ?_,fun _=>⟨fun h=> ?_,fun _=>⟨fun h=> ?_,fun _=> ?_⟩⟩⟩⟩
 ·simp at h;omega
 ·simp at h;omega
 ·simp at h;omega
 ·simp at h;omega
 ·simp only[]
  rw[wi (3*p1) (by omega) (by omega),wi (3*p1+p2) (by omega) (by omega),wi (3*p1+p2+1) (by omega) (by omega),wu (3*p1+p2+1) (by omega) (by omega),u64w]
  exact⟨⟨hP,by omega,by omega⟩,rfl⟩
noncomputable def k85:Con TB.den:= .gp 139 [yqu,.st 7] [.st 7] [] fun(p0:Int) (p1:wAA)=>(p0=18446744069414584321/\S3 p1,(mixS p1:wAA),())
theorem k91:k85.Ok Tryz.prog TB:=qrv Bs Tryz.func139 .no (k4u.c c0) (Q:=∀(p0:Int) (p1:wAA),(p0=18446744069414584321/\S3 p1)->∀r0:wAA,mixS p1=r0-> 
((wy.mk p0).P=18446744069414584321/\U64 p1.a0/\U64 p1.a1)/\((wy.mk p0).P=18446744069414584321/\U64 ((p1.a0+p1.a1)%18446744069414584321)/\U64 p1.a2)/\let r1:Int:=((((p1.a0+p1.a1)%18446744069414584321)+p1.a2)%18446744069414584321)
((wy.mk p0).P=18446744069414584321/\U64 p1.a0/\U64 r1)/\((wy.mk p0).P=18446744069414584321/\U64 p1.a1/\U64 r1)/\((wy.mk p0).P=18446744069414584321/\U64 p1.a2/\U64 r1)/\((p1.a0+r1)%18446744069414584321)=r0.a0/\((p1.a1+r1)%18446744069414584321)=r0.a1/\((p1.a2+r1)%18446744069414584321)=r0.a2) (by kernel_rfl)<|by
 rintro p0 p1 h _ rfl
 obtain⟨hP,h0,h1,h2⟩:=h
 refine ?_
 simp only[hP]
 exact⟨⟨by trivial,h0,h1⟩,⟨by trivial,by omega,h2⟩,⟨by trivial,h0,by omega⟩,⟨by trivial,h1,by omega⟩,⟨by trivial,h2,by omega⟩,rfl,rfl,rfl⟩
noncomputable def k5n:Con TB.den:= .gp 129 [yqu,.st 7] [.st 7] [] fun(p0:Int) (p1:wAA)=>(p0=18446744069414584321/\S3 p1,(permS p1:wAA),())
theorem k6a:k5n.Ok Tryz.prog TB:=qrv Bs Tryz.func129 (.r 3 (.nd [] (.r 0 (.lp [] ⟨[0],[.cells [zqu,zqu,zqu]],[17],[.one (zqi)],[]⟩ (.r 1 (.nd [] (.r 0 (.nd [] (.r 0 (.lp [] ⟨[0],[.cells [zqu,zqu,zqu]],[20],[.one (zqi)],[]⟩ .no)) [] .no)) [] .no)))) [] .no)) (k1e.c (k9k.c (k5l.c (k4u.c (kgc.c (k91.c c0)))))) (Q:=∀(p0:Int) (p1:wAA),(p0=18446744069414584321/\S3 p1)->∀r0:wAA,permS p1=r0-> 
((wy.mk p0).P=18446744069414584321)/\((!true)=true->
 0=r0.a0/\0=r0.a1/\0=r0.a2)/\
((!true)=false->
((wy.mk p0).P=18446744069414584321)/\∃(I1:Int->Int->Int->Int->Prop) (M1:Int->Int->Int->Int->Nat),I1 0 p1.a0 p1.a1 p1.a2/\∀(b1 f1 i1 k1:Int),(I1 b1 f1 i1 k1->
(decide (b1<8)=true->
 ∃(I2:Int->Int->Int->Int->Prop) (M2:Int->Int->Int->Int->Nat),I2 0 f1 i1 k1/\∀(l1 m1 n1 o1:Int),(I2 l1 m1 n1 o1->
(decide (l1<3)=true->
(0<=l1/\l1<(3:Int))/\(0<=l1/\l1<(3:Int))/\(p0=18446744069414584321/\(0<=b1/\b1<8)/\0<=l1/\l1<3)/\((wy.mk p0).P=18446744069414584321/\U64 (ix [m1,n1,o1] l1)/\U64 (rc b1 l1))/\let r1:Int:=(((ix [m1,n1,o1] l1)+(rc b1 l1))%18446744069414584321)
((wy.mk p0).P=18446744069414584321/\U64 r1/\U64 (7:Int))/\let r2:Int:=(pw (r1%18446744069414584321) (7:Int))
(0<=l1/\l1<(3:Int))/\(0<=l1/\l1<(3:Int))/\I2 (i64.wrap (l1+1)) (bif decide (l1=(0:Int))then r2 else m1) (bif decide (l1=(1:Int))then r2 else n1) (bif decide (l1=(2:Int))then r2 else o1)/\M2 (i64.wrap (l1+1)) (bif decide (l1=(0:Int))then r2 else m1) (bif decide (l1=(1:Int))then r2 else n1) (bif decide (l1=(2:Int))then r2 else o1)<M2 l1 m1 n1 o1)/\
(decide (l1<3)=false->
(p0=18446744069414584321/\S3 (wAA.mk m1 n1 o1))/\I1 (i64.wrap (b1+1)) ((mixS (wAA.mk m1 n1 o1)).a0) ((mixS (wAA.mk m1 n1 o1)).a1) ((mixS (wAA.mk m1 n1 o1)).a2)/\M1 (i64.wrap (b1+1)) ((mixS (wAA.mk m1 n1 o1)).a0) ((mixS (wAA.mk m1 n1 o1)).a1) ((mixS (wAA.mk m1 n1 o1)).a2)<M1 b1 f1 i1 k1)))/\
(decide (b1<8)=false->
 f1=r0.a0/\i1=r0.a1/\k1=r0.a2)))) (by kernel_rfl)<|by
 rintro p0 p1 h _ rfl
 obtain⟨hP,hs⟩:=h
 subst hP
 refine⟨rfl,fun h=>by simp at h,fun _=>⟨rfl,?_⟩⟩
 refine⟨(fun n a b c=>0<=n/\n<=8/\(⟨a,b,c⟩:wAA)=rnds n.toNat p1/\S3 ⟨a,b,c⟩),(fun n _ _ _=>(8-n).toNat),⟨by omega,by omega,rfl,hs⟩,?_⟩
 rintro n a b c ⟨g0,g1,g2,g3⟩
 refine⟨fun h=> ?_,fun h=> ?_⟩
 ·have h:=of_decide_eq_true h
  refine⟨(fun i x y z=>(i=0/\x=a/\y=b/\z=c)∨(i=1/\x=pw ((a+rc n 0)%18446744069414584321) 7/\y=b/\z=c)∨(i=2/\x=pw ((a+rc n 0)%18446744069414584321) 7/\y=pw ((b+rc n 1)%18446744069414584321) 7/\z=c)∨(i=3/\x=pw ((a+rc n 0)%18446744069414584321) 7/\y=pw ((b+rc n 1)%18446744069414584321) 7/\z=pw ((c+rc n 2)%18446744069414584321) 7)),(fun i _ _ _=>(3-i).toNat),(.inl ⟨rfl,rfl,rfl,rfl⟩),?_⟩
  intro i x y z hi
  have hrc:∀k,U64 (rc n k):=fun k=>by unfold rc;omega
  have hpw:∀k e,0<=pw k e/\pw k e<18446744069414584321:=fun k e=>⟨Int.emod_nonneg _ (by omega),Int.emod_lt_of_pos _ (by omega)⟩
  obtain⟨h3a,h3b,h3c⟩:=g3
  refine⟨fun hh=> ?_,fun hh=> ?_⟩
  ·have hh:=of_decide_eq_true hh
   rcases hi with⟨rfl,rfl,rfl,rfl⟩|⟨rfl,rfl,rfl,rfl⟩|⟨rfl,rfl,rfl,rfl⟩|⟨rfl,_⟩
   ·refine⟨by omega,by omega,⟨rfl,by omega,by omega⟩,⟨rfl,h3a,hrc _⟩,⟨rfl,?_,by omega⟩,by omega,by omega,.inr (.inl ⟨rfl,?_,rfl,rfl⟩),by(dsimp only;decide)⟩
    ·exact⟨Int.emod_nonneg _ (by omega),Int.lt_trans (Int.emod_lt_of_pos _ (by omega)) (by omega)⟩
    ·show pw ((x+rc n 0)%18446744069414584321%18446744069414584321) 7=_
     rw[Int.emod_emod_of_dvd _ (Int.dvd_refl _)]
   ·refine⟨by omega,by omega,⟨rfl,by omega,by omega⟩,⟨rfl,h3b,hrc _⟩,⟨rfl,?_,by omega⟩,by omega,by omega,.inr (.inr (.inl ⟨rfl,rfl,?_,rfl⟩)),by(dsimp only;decide)⟩
    ·exact⟨Int.emod_nonneg _ (by omega),Int.lt_trans (Int.emod_lt_of_pos _ (by omega)) (by omega)⟩
    ·show pw ((y+rc n 1)%18446744069414584321%18446744069414584321) 7=_
     rw[Int.emod_emod_of_dvd _ (Int.dvd_refl _)]
   ·refine⟨by omega,by omega,⟨rfl,by omega,by omega⟩,⟨rfl,h3c,hrc _⟩,⟨rfl,?_,by omega⟩,by omega,by omega,.inr (.inr (.inr ⟨rfl,rfl,rfl,?_⟩)),by(dsimp only;decide)⟩
    ·exact⟨Int.emod_nonneg _ (by omega),Int.lt_trans (Int.emod_lt_of_pos _ (by omega)) (by omega)⟩
    ·show pw ((z+rc n 2)%18446744069414584321%18446744069414584321) 7=_
     rw[Int.emod_emod_of_dvd _ (Int.dvd_refl _)]
   ·omega
  ·have hh:=of_decide_eq_false hh
   rcases hi with⟨rfl,_⟩|⟨rfl,_⟩|⟨rfl,_⟩|⟨rfl,rfl,rfl,rfl⟩
   ·omega
   ·omega
   ·omega
   ·have e:rnds (n+1).toNat p1=rnd ⟨a,b,c⟩ n:=by
     rw[show(n+1).toNat=n.toNat+1 by omega]
     show rnd (rnds n.toNat p1) (n.toNat:Int)=_
     rw[<-g2,show(n.toNat:Int)=n by omega]
    have hS:S3 (rnds (n+1).toNat p1):=by
     rw[e]
     unfold rnd mixS S3
     dsimp only
     omega
    have hinc:i64.wrap (n+1)=n+1:=wi _ (by omega) (by omega)
    rw[hinc]
    refine⟨⟨rfl,by unfold S3;have:=hpw ((a+rc n 0)%18446744069414584321) 7;have:=hpw ((b+rc n 1)%18446744069414584321) 7;have:=hpw ((c+rc n 2)%18446744069414584321) 7;dsimp only;omega⟩,(?_:0<=n+1/\n+1<=8/\_/\_),(?_:(8-(n+1)).toNat<(8-n).toNat)⟩
    ·refine⟨by omega,by omega,e.symm,?_⟩
     rw[e]at hS
     exact hS
    ·omega
 ·have h:=of_decide_eq_false h
  rw[show n=8 by omega]at g2
  have g2:(⟨a,b,c⟩:wAA)=permS p1:=g2
  rw[<-g2]
  exact⟨rfl,rfl,rfl⟩
noncomputable def k9b:Con TB.den:= .gp 120 [yqu,yqu,.sl yqu] [.st 7] [] fun(p0 p1:Int) (p2:List Int)=>(p0=18446744069414584321/\U64 p1/\Us p2/\p2.length<=1099511627776,(absS p1 p2:wAA),())
theorem kap:k9b.Ok Tryz.prog TB:=qrv Bs Tryz.func120 (.r 3 (.nd [] (.r 0 (.lp [] ⟨[38],[.cells [zqu,zqu,zqu]],[9],[.one (zqi)],[]⟩ (.r 0 (.nd [] (.r 0 (.jn ⟨[38],[.cells [zqu,zqu,zqu]],[],[],[]⟩ [] .no [] .no)) [] .no)))) [] .no)) (kh9.c (k4u.c (k6a.c c0))) (Q:=∀(p0 p1:Int) (p2:List Int),(p0=18446744069414584321/\U64 p1/\Us p2/\p2.length<=1099511627776)->∀r0:wAA,absS p1 p2=r0-> 
((wy.mk p0).P=18446744069414584321/\U64 p1/\U64 (65536:Int))/\let r1:Int:=(p1*(65536:Int)%18446744069414584321)
((wy.mk p0).P=18446744069414584321/\U64 r1/\U64 (u64.wrap (p2.length:Int)))/\let r2:Int:=((r1+(u64.wrap (p2.length:Int)))%18446744069414584321)
(((p2.length:Int)==0)=true->
(p0=18446744069414584321/\S3 (wAA.mk 0 0 r2))/\(permS (wAA.mk 0 0 r2)).a0=r0.a0/\(permS (wAA.mk 0 0 r2)).a1=r0.a1/\(permS (wAA.mk 0 0 r2)).a2=r0.a2)/\
(((p2.length:Int)==0)=false->
 ∃(I1:Int->Int->Int->Int->Prop) (M1:Int->Int->Int->Int->Nat),I1 0 0 0 r2/\∀(b1 f1 i1 k1:Int),(I1 b1 f1 i1 k1->
(decide (b1<(p2.length:Int))=true->
(0<=b1)/\b1<(p2.length:Int)/\((wy.mk p0).P=18446744069414584321/\U64 f1/\U64 (ix p2 b1))/\let r3:Int:=((f1+(ix p2 b1))%18446744069414584321)
 ∀J1:Int->Int->Int->Prop,(∀(l1 m1 n1:Int),
((p0=18446744069414584321/\S3 (wAA.mk l1 m1 n1))/\I1 (i64.wrap (b1+2)) ((permS (wAA.mk l1 m1 n1)).a0) ((permS (wAA.mk l1 m1 n1)).a1) ((permS (wAA.mk l1 m1 n1)).a2)/\M1 (i64.wrap (b1+2)) ((permS (wAA.mk l1 m1 n1)).a0) ((permS (wAA.mk l1 m1 n1)).a1) ((permS (wAA.mk l1 m1 n1)).a2)<M1 b1 f1 i1 k1)->J1 l1 m1 n1)->
 let v4:Bool:=decide ((i64.wrap (b1+1))<(p2.length:Int))
(v4=true->
(0<=i64.wrap (b1+1))/\i64.wrap (b1+1)<(p2.length:Int)/\((wy.mk p0).P=18446744069414584321/\U64 i1/\U64 (ix p2 (i64.wrap (b1+1))))/\let r5:Int:=((i1+(ix p2 (i64.wrap (b1+1))))%18446744069414584321)
 J1 r3 r5 k1)/\
(v4=false->
 J1 r3 i1 k1))/\
(decide (b1<(p2.length:Int))=false->
 f1=r0.a0/\i1=r0.a1/\k1=r0.a2)))) (by kernel_rfl)<|by
 rintro p0 p1 p2 h _ rfl
 obtain⟨hP,h1,h2,h3⟩:=h
 subst hP
 have hp:∀s:wAA,S3 (permS s):=fun s=>by
  show S3 (rnd _ _)
  unfold rnd mixS S3
  dsimp only
  omega
 have hi:S3 (absI p1 p2):=by unfold absI S3;dsimp only;omega
 have e:u64.wrap (p2.length:Int)=p2.length:=wu _ (by omega) (by omega)
 have em:(p1*65536%18446744069414584321+(p2.length:Int))%18446744069414584321=(absI p1 p2).a2:=rfl
 rw[e]
 refine⟨⟨rfl,h1,by omega⟩,⟨rfl,by omega,by omega⟩,fun h=> ?_,fun h=> ?_⟩
 ·have h:p2=[]:=by simpa using h
  refine⟨⟨rfl,?_⟩,?_⟩
  ·exact hi
  ·have:permS ⟨0,0,(p1*65536%18446744069414584321+(p2.length:Int))%18446744069414584321⟩=absS p1 p2:=by unfold absS;rw[if_pos h];rfl
   rw[this]
   exact⟨rfl,rfl,rfl⟩
 ·have h:p2≠[]:=by simpa using h
  have hv:absL p2 (absI p1 p2)=absS p1 p2:=by unfold absS;rw[if_neg h]
  rw[em]
  refine⟨fun i a b c=>0<=i/\i<=p2.length+1/\absL (p2.drop i.toNat) ⟨a,b,c⟩=absS p1 p2/\S3 ⟨a,b,c⟩,fun i _ _ _=>(p2.length+2-i).toNat,⟨by omega,by omega,hv,hi⟩,?_⟩
  rintro i a b c ⟨g0,g1,g2,g3⟩
  obtain⟨h3a,h3b,h3c⟩:=g3
  refine⟨fun hh=> ?_,fun hh=> ?_⟩
  ·have hh:=of_decide_eq_true hh
   have hx:=h2 _ (ix_mem p2 i g0 hh)
   refine⟨g0,hh,⟨rfl,h3a,hx⟩,fun J1 j=> ?_⟩
   rw[wi (i+1) (by omega) (by omega)]
   have fin:∀x y z,S3 ⟨x,y,z⟩->absL (p2.drop (i+2).toNat) (permS ⟨x,y,z⟩)=absS p1 p2->J1 x y z:=by
    intro x y z hS hv'
    refine j _ _ _ ?_
    rw[wi (i+2) (by omega) (by omega)]
    exact⟨⟨rfl,hS⟩,⟨by omega,by omega,hv',hp _⟩,by(dsimp only;omega)⟩
   have hdrop:=drop_ix p2 i g0 hh
   rw[hdrop]at g2
   refine⟨fun h5=> ?_,fun h5=> ?_⟩
   ·have h5:=of_decide_eq_true h5
    have hy:=h2 _ (ix_mem p2 (i+1) (by omega) h5)
    rw[drop_ix p2 (i+1) (by omega) h5,show i+1+1=i+2 by omega]at g2
    exact⟨by omega,h5,⟨rfl,h3b,hy⟩,fin _ _ _ (S3m (by omega) (by omega) h3c) g2⟩
   ·have h5:=of_decide_eq_false h5
    have ed:p2.drop (i+1).toNat=[]:=List.drop_eq_nil_of_le (by omega)
    have ed2:p2.drop (i+2).toNat=[]:=List.drop_eq_nil_of_le (by omega)
    rw[ed]at g2
    exact fin _ _ _ (S3m (by omega) h3b h3c) (by rw[ed2];exact g2)
  ·have hh:=of_decide_eq_false hh
   rw[List.drop_eq_nil_of_le (by omega)]at g2
   have g2:(⟨a,b,c⟩:wAA)=absS p1 p2:=g2
   rw[<-g2]
   exact⟨rfl,rfl,rfl⟩
noncomputable def kcq:Con TB.den:= .gp 99 [yqu,yqu,.sl yqu] [yqu] [] fun(p0 p1:Int) (p2:List Int)=>(p0=18446744069414584321/\U64 p1/\Us p2/\p2.length<=1099511627776,(hashS p1 p2:Int),())
theorem k6j:kcq.Ok Tryz.prog TB:=qrv Bs Tryz.func99 .no (k1e.c (kap.c c0)) (Q:=∀(p0 p1:Int) (p2:List Int),(p0=18446744069414584321/\U64 p1/\Us p2/\p2.length<=1099511627776)->∀r0:Int,hashS p1 p2=r0-> 
((wy.mk p0).P=18446744069414584321)/\((!true)=true->
 0=r0)/\
((!true)=false->
(p0=18446744069414584321/\U64 p1/\Us p2/\p2.length<=1099511627776)/\(absS p1 p2).a0=r0)) (by kernel_rfl)<|by
 rintro p0 p1 p2 h _ rfl
 obtain⟨hP,h1,h2,h3⟩:=h
 subst hP
 exact⟨rfl,fun h=>by simp at h,fun _=>⟨⟨rfl,h1,h2,h3⟩,rfl⟩⟩
noncomputable def k9i:Con TB.den:= .gp 83 [yqu,yqu] [yqu] [] fun(p0 p1:Int)=>(U64 p0/\U64 p1,(hashS 6 [p0,p1]:Int),())
theorem k2i:k9i.Ok Tryz.prog TB:=qrv Bs Tryz.func83 .no (k6j.c c0) (Q:=∀(p0 p1:Int),(U64 p0/\U64 p1)->∀r0:Int,(hashS 6 [p0,p1])=r0-> 
((18446744069414584321:Int)=18446744069414584321/\U64 (6:Int)/\Us [p0,p1]/\[p0,p1].length<=1099511627776)/\(hashS (6:Int) [p0,p1])=r0) (by kernel_rfl)<|by
 rintro p0 p1 h _ rfl
 refine⟨⟨rfl,by decide,?_,by simp⟩,rfl⟩
 intro x hx
 simp only[List.mem_cons,List.not_mem_nil,or_false]at hx
 rcases hx with rfl|rfl
 ·exact h.1
 ·exact h.2
noncomputable def kb5:Con TB.den:= .g ⟨67,[.one (zql)],[],(.one (.one (.row 0))),[.vec yqu],false⟩ [.sl yqu] [.sl yqu] [] fun(p0:List Int)=>(p0.length<=4294967295,p0,())
theorem kc2:kb5.Ok Tryz.prog TB:=prx Bs [5,7] Tryz.func67 (.r 0 (.nd [] (.r 0 (.nd [] (.r 0 (.rt [.rnil 2 yqu])) [] .no)) [] .no)) x0 c0 (Q:=∀(p0:List Int),(p0.length<=4294967295)->∀e0:List Int,p0=e0-> 
 ∀z4:Bool,(z4=true->p0=[])->(z4=true->
(0=([]:List Int).length)/\([]:List Int)=e0)/\
(z4=false->
([]:List Int).length=([]:List Int).length/\(([]:List Int).length+p0.length)*8<=140737488355328/\([]:List Int).length+p0.length<=maxLen/\((([]:List Int)++p0).length=(([]:List Int)++p0).length)/\([]:List Int)++p0=e0)) (by kernel_rfl)<|by
 rintro p0 h _ rfl
 exact fun z hz=>⟨fun h=>⟨rfl,(hz h).symm⟩,fun h=>⟨rfl,by simp;omega,by simp;unfold maxLen;omega,rfl,rfl⟩⟩
noncomputable def k80:Con TB.den:= .gp 105 [.st 5,yqu] [.st 5,yqi] [] fun(p0:wE) (p1:Int)=>(FV p0/\p0.wY<((2^p0.wD.toNat:Nat):Int)/\0<=p1/\p1<18446744069414584321,(apF p0 p1:wE),(0:Int),())
theorem k8n:k80.Ok Tryz.prog TB:=qrv Bs Tryz.func105 (.r 0 (.nd [] (.jn ⟨[],[],[15],[.one (.d (.bool))],[]⟩ [] .no [] .no) [] (.r 2 (.nd [] (.lp [] ⟨[26],[.vec yqu],[7,8],[.one (zqi),.one (zqu)],[]⟩ .no) [] (.r 1 (.rt [.frzc 26 1 2])))))) (k4a.c (kc2.c (k2i.c c0))) (Q:=∀(p0:wE) (p1:Int),(FV p0/\p0.wY<((2^p0.wD.toNat:Nat):Int)/\0<=p1/\p1<18446744069414584321)->∀r0:wE,apF p0 p1=r0->∀r1:Int,(0:Int)=r1-> 
 ∀J1:Bool->Prop,(∀(b1:Bool),
((b1=true->
 0=r0.wD/\0=r0.wY/\([]:List Int)=r0.wd/\1=r1)/\
(b1=false->
(0<=p0.wD)/\((p0.wY==(ishl .i64 1 p0.wD))=true->
 0=r0.wD/\0=r0.wY/\([]:List Int)=r0.wd/\16=r1)/\
((p0.wY==(ishl .i64 1 p0.wD))=false->
(p0.wd.length<=4294967295)/\∃(I1:Int->Int->(List Int)->Prop) (M1:Int->Int->(List Int)->Nat),I1 0 p1 p0.wd/\∀(f1 i1:Int) (k1:List Int),(I1 f1 i1 k1->
(0<=f1)/\let v2:Bool:=((iand .i64 (ishr .i64 p0.wY f1) 1)==1)
(v2=true->
(0<=f1/\f1<(p0.wd.length:Int))/\(0<=f1/\f1<(k1.length:Int))/\(U64 (ix k1 f1)/\U64 i1)/\(0<=f1/\f1<(p0.wd.length:Int))/\(0<=f1/\f1<(k1.length:Int))/\I1 (i64.wrap (f1+1)) (hashS 6 [(ix k1 f1),i1]) (k1.set f1.toNat 0)/\M1 (i64.wrap (f1+1)) (hashS 6 [(ix k1 f1),i1]) (k1.set f1.toNat 0)<M1 f1 i1 k1)/\
(v2=false->
(0<=f1/\f1<(p0.wd.length:Int))/\(0<=f1/\f1<(k1.length:Int))/\(p0.wd.length=(k1.set f1.toNat i1).length)/\p0.wD=r0.wD/\i64.wrap (p0.wY+1)=r0.wY/\k1.set f1.toNat i1=r0.wd/\0=r1)))))->J1 b1)->
(FV p0)/\((!true)=true->
 J1 true)/\
((!true)=false->
 J1 (decide (18446744069414584321<=p1)))) (by kernel_rfl)<|by
 rintro p0 p1 h _ rfl _ rfl
 obtain⟨hv,hc,hx0,hx1⟩:=h
 obtain⟨d1,d2,c0,c1,ll,u,z⟩:=id hv
 obtain⟨d,hd⟩:=Int.eq_ofNat_of_zero_le (show 0<=p0.wD by omega)
 obtain⟨n,hn⟩:=Int.eq_ofNat_of_zero_le c0
 have hdn:p0.wD.toNat=d:=by omega
 have hp:=pow12 d (by omega)
 rw[hdn]at c1 ll hc
 have hnd:n<2^d:=by omega
 have hbd:=kka hnd
 refine fun J1 j=>⟨hv,fun e=>(by cases e),fun _=> ?_⟩
 refine j _ ⟨fun e=>(by have:=of_decide_eq_true e;omega),fun _=>⟨by omega,?_⟩⟩
 rw[hd,shl1 d (by omega),hn]
 have hne:¬(n:Int)=((2^d:Nat):Int):=by omega
 refine⟨fun e=>(hne (by simpa using e)).elim,fun _=>⟨by omega,?_⟩⟩
 refine⟨fun a x g=>∃i:Nat,a=(i:Int)/\i<=d/\g.length=d+1/\(∀y∈g,0<=y/\y<18446744069414584321)/\(0<=x/\x<18446744069414584321)/\carry (d+1-i) i g x n=carry (d+1) 0 p0.wd p1 n,fun a _ _=>(d-a).toNat,⟨0,rfl,by omega,ll,u,⟨hx0,hx1⟩,rfl⟩,?_⟩
 rintro _ x g ⟨i,rfl,hi,hgl,hgu,hx,hcy⟩
 have hs:i<g.length:=by omega
 have hgx:=hgu _ (List.getElem_mem hs)
 generalize hR:carry (d+1) 0 p0.wd p1 n=R at hcy
 rw[show d+1-i=d-i+1 by omega]at hcy
 unfold carry at hcy
 have hbit:=bit1 n i (by omega) (by omega)
 refine⟨by omega,fun e=> ?_,fun e=> ?_⟩
 ·have e2:((n/2^i%2:Nat):Int)=1:=by rw[hbit]at e;simpa using e
  have hb:bitN n i=true:=by unfold bitN;generalize n/2^i%2=q at *;simp;omega
  have hid:i<d:=by
   rcases Nat.lt_or_ge i d with h1|h1
   ·exact h1
   ·have:i=d:=by omega
    subst this
    rw[hbd]at hb
    cases hb
  rw[if_pos hb]at hcy
  rw[inc_i64 _ (by omega),Int.toNat_natCast]
  refine⟨⟨by omega,by omega⟩,⟨by omega,by omega⟩,?_,⟨by omega,by omega⟩,⟨by omega,by omega⟩,⟨i+1,rfl,by omega,by simp[hgl],?_,⟨(k3v _ _).1,k4q _ _⟩,?_⟩,by(dsimp only;omega)⟩
  ·rw[ix_get _ _ hs]
   exact⟨⟨hgx.1,by omega⟩,hx.1,by omega⟩
  ·intro y hy
   rcases List.mem_or_eq_of_mem_set hy with hy|rfl
   ·exact hgu y hy
   ·decide
  ·rw[show d+1-(i+1)=d-i by omega]
   exact hcy
 ·have e2:¬((n/2^i%2:Nat):Int)=1:=by rw[hbit]at e;simpa using e
  have hb:¬bitN n i=true:=by unfold bitN;generalize n/2^i%2=q at *;simp;omega
  rw[if_neg hb]at hcy
  rw[Int.toNat_natCast]
  refine⟨⟨by omega,by omega⟩,⟨by omega,by omega⟩,by simp;omega,hd.symm,?_,?_,by first|exact rfl|exact True.intro⟩
  ·rw[inc_i64 _ (by omega)]
   show _=p0.wY+1
   omega
  ·show _=carry (p0.wD.toNat+1) 0 p0.wd p1 p0.wY.toNat
   rw[hdn,hn,Int.toNat_natCast,hR]
   exact hcy
noncomputable def k92:Con TB.den:= .gp 106 [yqu,yqu] [.bool] [] fun(p0 p1:Int)=>(0<=p0/\p0<=9223372036854775807,(decide (9223372036854775807-p0<p1):Bool),())
theorem k9j:k92.Ok Tryz.prog TB:=qrv Bs Tryz.func106 .no c0 (Q:=∀(p0 p1:Int),(0<=p0/\p0<=9223372036854775807)->∀r0:Bool,(decide (9223372036854775807-p0<p1))=r0-> 
(decide (9223372036854775807<p0)=true->
 true=r0)/\
(decide (9223372036854775807<p0)=false->
 let v1:Int:=u64.wrap (9223372036854775807-p0)
 decide (v1<p1)=r0)) (by kernel_rfl)<|by
 rintro p0 p1 h _ rfl
 refine⟨fun e=> ?_,fun e=> ?_⟩
 ·have:=of_decide_eq_true e;omega
 ·rw[wrap_u64 _ (by omega) (by omega)]
noncomputable def k9r:Con TB.den:= .gp 91 [.st 12,yqu,yqu] [.st 12,yqi] [] fun(p0:wl) (p1 p2:Int)=>(OkA p0.wB/\U64 p2,(wl.mk (creditA p0.wB p1 p2).1:wl),((creditA p0.wB p1 p2).2:Int),())
theorem k4y:k9r.Ok Tryz.prog TB:=qrv Bs Tryz.func91 .no (k47.c (k9j.c (k7q.c c0))) (Q:=∀(p0:wl) (p1 p2:Int),(OkA p0.wB/\U64 p2)->∀r0:wl,(wl.mk (creditA p0.wB p1 p2).1)=r0->∀r1:Int,((creditA p0.wB p1 p2).2)=r1-> 
(Srt p0.wB/\p0.wB.length<4611686018427387904)/\(0<=((getA p0.wB p1).wR)/\((getA p0.wB p1).wR)<=9223372036854775807)/\let r2:Bool:=(decide (9223372036854775807-((getA p0.wB p1).wR)<p2))
(r2=true->
([]:List wA)=r0.wB/\1=r1)/\
(r2=false->
 let v3:Int:=u64.wrap (((getA p0.wB p1).wR)+p2)
(Srt p0.wB/\p0.wB.length<=1000)/\let r4:List wA:=(putA p0.wB (wA.mk p1 v3 ((getA p0.wB p1).wL)))
 r4=r0.wB/\0=r1)) (by kernel_rfl)<|by
 rintro p0 p1 p2 h _ rfl _ rfl
 obtain⟨h,ha,ha'⟩:=h
 obtain⟨g1,g2⟩:=getA_ok h p1
 refine⟨⟨h.1,by have:=h.2.1;omega⟩,g1,fun hh=> ?_,fun hh=> ?_⟩
 ·have:=of_decide_eq_true hh
  simp[creditA,this]
 ·have:=of_decide_eq_false hh
  simp only[creditA,if_neg this]
  rw[wrap_u64 _ (by omega) (by omega)]
  exact⟨⟨h.1,h.2.1⟩,rfl,by first|exact rfl|exact True.intro⟩
noncomputable def k7z:Con TB.den:= .b ⟨90,[.one (.ptr 0 0),.agg [zqu,zql,.d (.sl (.st 1)),zqu,zqu,zqu,zqu,zqu,zqi,.d (.sl yqb)],.one (.ptr 1 0)],[.cells [zqi,zqi,zqi,zqi,zqi,zqu,zqi,zqi,zqu,zqi,zqi,zql,.row 2,.ptr 3 0,.d (.sl (.st 8)),zqu,.row 4,.row 5],.cells [zqi,zqi,zql,zqi,.own 6,.d (.sl (.st 8)),zqu],.vec yqu,.cells [.mp 7],.vec yqu,.vec (.st 9),.tip yqu,.map yqu (.bool)],(.one (.one (zqi))),[.cells [zqi,zqi,zqi,zqi,zqi,zqu,zqi,zqi,zqu,zqi,zqi,zql,.row 8,.ptr 3 0,.d (.sl (.st 8)),zqu,.row 4,.row 5],.cells [zqi,zqi,zql,zqi,.own 6,.d (.sl (.st 8)),zqu],.dead,.cells [.mp 7],.vec yqu,.vec (.st 9),.tip yqu,.map yqu (.bool),.vec yqu],false⟩ [.st 2,yqi,yqi,yqi,yqi,yqi,yqu,yqi,yqi,yqu,yqi,yqi,.sl yqu,.sl (.st 8),yqu,yqi,yqi,.sl yqu,yqi,.sl (.st 8),yqu,.sl yqu,.sl yqu,.sl (.st 9),.sl yqu,.sl yqu,.sl (.bool)] [yqi,yqi,yqi,yqi,yqi,yqi,yqu,yqi,yqi,yqu,yqi,yqi,.sl yqu,.sl (.st 8),yqu,yqi,yqi,.sl yqu,yqi,.sl (.st 8),yqu,.sl yqu,.sl (.st 9),.sl yqu,.sl yqu,.sl (.bool),.sl yqu] fun(p1:wo) (Ah Af Ai Aj Ak Al Ae Am Ao Ag Ac:Int) (Ad:List Int) (Aa:List wA) (Ab Au A6:Int) (A7:List Int) (A8:Int) (A9:List wA) (Ba:Int) (w2 w4:List Int) (w5:List wN) (w6 w7k:List Int) (w7v:List Bool)=>((∃(c:Nat) (f:Int),c<=800/\PI (PS.mk (wF.mk Ah Af Ai Aj Ak Al Ae Am Ao) (wE.mk Ag Ac Ad) Aa Ab w2 w4 w5 w7k w7v) c f)/\TR p1/\CK (PS.mk (wF.mk Ah Af Ai Aj Ak Al Ae Am Ao) (wE.mk Ag Ac Ad) Aa Ab w2 w4 w5 w7k w7v) p1/\w6.length<=1000000,perfS (PS.mk (wF.mk Ah Af Ai Aj Ak Al Ae Am Ao) (wE.mk Ag Ac Ad) Aa Ab w2 w4 w5 w7k w7v) p1,fun R=>(R.e,R.s.R.wm,R.s.R.wD,R.s.R.wJ,R.s.R.wI,R.s.R.wG,R.s.R.wP,R.s.R.wU,R.s.R.wO,R.s.R.wh,R.s.F.wD,R.s.F.wY,R.s.F.wd,R.s.b,R.s.n,Au,A6,A7,A8,A9,Ba,R.s.r,R.s.p,((w6++p1.wC):List Int),R.s.k,R.s.v,R.s.l,()))
theorem k8h:k7z.Ok Tryz.prog TB:=pbx Bs [33,67,68] Tryz.func90 (.nd [.trimc 0 12] .no [] (.r 1 (.nd [] (.r 0 (.lp [] ⟨[7,5,4,3,0],[.map yqu (.bool),.vec (.st 9),.vec yqu,.cells [.mp 0],.cells [zqi,zqi,zqi,zqi,zqi,zqu,zqi,zqi,zqu,zqi,zqi,zql,.row 5,.ptr 3 0,.d (.sl (.st 8)),zqu,.row 2,.row 1],.vec yqu],[39],[.one (zqi)],[8]⟩ .no)) [] (.jn ⟨[0,86,3,4,5,7],[.cells [zqi,zqi,zqi,zqi,zqi,zqu,zqi,zqi,zqu,zqi,zqi,zql,.row 1,.ptr 2 0,.d (.sl (.st 8)),zqu,.row 3,.row 4],.vec yqu,.cells [.mp 5],.vec yqu,.vec (.st 9),.map yqu (.bool)],[],[],[]⟩ [] .no [] (.jn ⟨[0,86,3,4,5,7],[.cells [zqi,zqi,zqi,zqi,zqi,zqu,zqi,zqi,zqu,zqi,zqi,zql,.row 1,.ptr 2 0,.d (.sl (.st 8)),zqu,.row 3,.row 4],.vec yqu,.cells [.mp 5],.vec yqu,.vec (.st 9),.map yqu (.bool)],[],[],[]⟩ [] .no [] .no))))) x0 (kjn.c (k8n.c (k5v.c (k4y.c c0)))) (Q:=∀(p1:wo) (Ah Af Ai Aj Ak Al Ae Am Ao Ag Ac:Int) (Ad:List Int) (Aa:List wA) (Ab Au A6:Int) (A7:List Int) (A8:Int) (A9:List wA) (Ba:Int) (w2 w4:List Int) (w5:List wN) (w6 w7k:List Int) (w7v:List Bool),((∃(c:Nat) (f:Int),c<=800/\PI (PS.mk (wF.mk Ah Af Ai Aj Ak Al Ae Am Ao) (wE.mk Ag Ac Ad) Aa Ab w2 w4 w5 w7k w7v) c f)/\TR p1/\CK (PS.mk (wF.mk Ah Af Ai Aj Ak Al Ae Am Ao) (wE.mk Ag Ac Ad) Aa Ab w2 w4 w5 w7k w7v) p1/\w6.length<=1000000)->∀R,perfS (PS.mk (wF.mk Ah Af Ai Aj Ak Al Ae Am Ao) (wE.mk Ag Ac Ad) Aa Ab w2 w4 w5 w7k w7v) p1=R-> 
 w2.length=w2.length/\(w7v=trs w7k/\p1.wC.length<=1000000)/\((((addS p1.wC w7k).1) !=0)=true->
(w6=w6)/\(w5.length=w5.length)/\(w4.length=w4.length)/\(w2.length=w2.length)/\((addS p1.wC w7k).1)=R.e/\Ah=R.s.R.wm/\Af=R.s.R.wD/\Ai=R.s.R.wJ/\Aj=R.s.R.wI/\Ak=R.s.R.wG/\Al=R.s.R.wP/\Ae=R.s.R.wU/\Am=R.s.R.wO/\Ao=R.s.R.wh/\Ag=R.s.F.wD/\Ac=R.s.F.wY/\Ad=R.s.F.wd/\Aa=R.s.b/\Ab=R.s.n/\Au=Au/\A6=A6/\A7=A7/\A8=A8/\A9=A9/\Ba=Ba/\w4=R.s.r/\w5=R.s.p/\w6=(w6++p1.wC)/\((addS p1.wC w7k).2)=R.s.k/\(trs (addS p1.wC w7k).2)=R.s.v/\w2=R.s.l)/\
((((addS p1.wC w7k).1) !=0)=false->
 w6.length=w6.length/\(w6.length+p1.wC.length)*8<=140737488355328/\w6.length+p1.wC.length<=maxLen/\(w5.length=w5.length)/\(w4.length=w4.length)/\(w2.length=w2.length)/\∃(I1:Int->Int->Int->Int->Int->Int->Int->Int->Int->Int->Int->Int->(List Int)->(List wA)->Int->(List Int)->(List Bool)->(List wN)->(List Int)->(List Int)->Prop) (M1:Int->Int->Int->Int->Int->Int->Int->Int->Int->Int->Int->Int->(List Int)->(List wA)->Int->(List Int)->(List Bool)->(List wN)->(List Int)->(List Int)->Nat),I1 0 Ah Af Ai Aj Ak Al Ae Am Ao Ag Ac Ad Aa Ab ((addS p1.wC w7k).2) (trs (addS p1.wC w7k).2) w5 w4 w2/\∀(b1 f1 i1 k1 l1 m1 n1 o1 q1 s1 t1 u1:Int) (x1:List Int) (y1:List wA) (b2:Int) (f2:List Int) (i2:List Bool) (k2:List wN) (l2 m2:List Int),(I1 b1 f1 i1 k1 l1 m1 n1 o1 q1 s1 t1 u1 x1 y1 b2 f2 i2 k2 l2 m2->
(decide (b1<(p1.wH.length:Int))=true->
(0<=b1)/\b1<(p1.wH.length:Int)/\(FV (wE.mk t1 u1 x1)/\(wE.mk t1 u1 x1).wY<((2^(wE.mk t1 u1 x1).wD.toNat:Nat):Int)/\0<=((ix p1.wH b1).wn)/\((ix p1.wH b1).wn)<18446744069414584321)/\let r1:=apF (wE.mk t1 u1 x1) ((ix p1.wH b1).wn)
(((0:Int) !=0)=true->
(w6++p1.wC=w6++p1.wC)/\(k2.length=k2.length)/\(l2.length=l2.length)/\(m2.length=m2.length)/\0=R.e/\f1=R.s.R.wm/\i1=R.s.R.wD/\k1=R.s.R.wJ/\l1=R.s.R.wI/\m1=R.s.R.wG/\n1=R.s.R.wP/\o1=R.s.R.wU/\q1=R.s.R.wO/\s1=R.s.R.wh/\t1=R.s.F.wD/\u1=R.s.F.wY/\x1=R.s.F.wd/\y1=R.s.b/\b2=R.s.n/\Au=Au/\A6=A6/\A7=A7/\A8=A8/\A9=A9/\Ba=Ba/\l2=R.s.r/\k2=R.s.p/\w6++p1.wC=(w6++p1.wC)/\f2=R.s.k/\i2=R.s.v/\m2=R.s.l)/\
(((0:Int) !=0)=false->
 m2.length=m2.length/\[(ix p1.wH b1).wn].length=[(ix p1.wH b1).wn].length/\(m2.length+[(ix p1.wH b1).wn].length)*8<=140737488355328/\m2.length+[(ix p1.wH b1).wn].length<=maxLen/\(k2.length=k2.length)/\(l2.length=l2.length)/\((m2++[(ix p1.wH b1).wn]).length=(m2++[(ix p1.wH b1).wn]).length)/\I1 (i64.wrap (b1+1)) f1 i1 k1 l1 m1 n1 o1 q1 s1 r1.wD r1.wY r1.wd y1 b2 f2 i2 k2 l2 (m2++[(ix p1.wH b1).wn])/\M1 (i64.wrap (b1+1)) f1 i1 k1 l1 m1 n1 o1 q1 s1 r1.wD r1.wY r1.wd y1 b2 f2 i2 k2 l2 (m2++[(ix p1.wH b1).wn])<M1 b1 f1 i1 k1 l1 m1 n1 o1 q1 s1 t1 u1 x1 y1 b2 f2 i2 k2 l2 m2))/\
(decide (b1<(p1.wH.length:Int))=false->
 ∀J1:Int->Int->Int->Int->Int->Int->Int->Int->Int->Int->Int->(List Int)->(List wA)->Int->(List Int)->(List Int)->(List wN)->(List Int)->(List Bool)->Prop,(∀(n2 o2 q2 s2 t2 u2 x2 y2 b3 f3 i3:Int) (k3:List Int) (l3:List wA) (m3:Int) (n3 o3:List Int) (q3:List wN) (s3:List Int) (t3:List Bool),
(∀J2:Int->Int->Int->Int->Int->Int->Int->Int->Int->Int->Int->(List Int)->(List wA)->Int->(List Int)->(List Int)->(List wN)->(List Int)->(List Bool)->Prop,(∀(u3 x3 y3 b4 f4 i4 k4 l4 m4 n4 o4:Int) (q4:List Int) (s4:List wA) (t4:Int) (u4 x4:List Int) (y4:List wN) (b5:List Int) (f5:List Bool),
(let v4:Int:=u64.wrap ((u64.wrap (t4+p1.wM))-p1.wQ)
(w6++p1.wC=w6++p1.wC)/\(y4.length=y4.length)/\(x4.length=x4.length)/\(u4.length=u4.length)/\0=R.e/\u3=R.s.R.wm/\x3=R.s.R.wD/\y3=R.s.R.wJ/\b4=R.s.R.wI/\f4=R.s.R.wG/\i4=R.s.R.wP/\k4=R.s.R.wU/\l4=R.s.R.wO/\m4=R.s.R.wh/\n4=R.s.F.wD/\o4=R.s.F.wY/\q4=R.s.F.wd/\s4=R.s.b/\u64.wrap (v4-p1.Fee)=R.s.n/\Au=Au/\A6=A6/\A7=A7/\A8=A8/\A9=A9/\Ba=Ba/\x4=R.s.r/\y4=R.s.p/\w6++p1.wC=(w6++p1.wC)/\b5=R.s.k/\f5=R.s.v/\u4=R.s.l)->J2 u3 x3 y3 b4 f4 i4 k4 l4 m4 n4 o4 q4 s4 t4 u4 x4 y4 b5 f5)->
(decide (0<p1.wQ)=true->
(OkA (wl.mk l3).wB/\U64 p1.wQ)/\let r3:=creditA (wl.mk l3).wB p1.wZ p1.wQ
((r3.2 !=0)=true->
(w6++p1.wC=w6++p1.wC)/\(q3.length=q3.length)/\(o3.length=o3.length)/\(n3.length=n3.length)/\r3.2=R.e/\n2=R.s.R.wm/\o2=R.s.R.wD/\q2=R.s.R.wJ/\s2=R.s.R.wI/\t2=R.s.R.wG/\u2=R.s.R.wP/\x2=R.s.R.wU/\y2=R.s.R.wO/\b3=R.s.R.wh/\f3=R.s.F.wD/\i3=R.s.F.wY/\k3=R.s.F.wd/\l3=R.s.b/\m3=R.s.n/\Au=Au/\A6=A6/\A7=A7/\A8=A8/\A9=A9/\Ba=Ba/\o3=R.s.r/\q3=R.s.p/\w6++p1.wC=(w6++p1.wC)/\s3=R.s.k/\t3=R.s.v/\n3=R.s.l)/\
((r3.2 !=0)=false->
(q3.length=q3.length)/\(o3.length=o3.length)/\(n3.length=n3.length)/\J2 n2 o2 q2 s2 t2 u2 x2 y2 b3 f3 i3 k3 r3.1 m3 n3 o3 q3 s3 t3))/\
(decide (0<p1.wQ)=false->
(q3.length=q3.length)/\(o3.length=o3.length)/\(n3.length=n3.length)/\J2 n2 o2 q2 s2 t2 u2 x2 y2 b3 f3 i3 k3 l3 m3 n3 o3 q3 s3 t3))->J1 n2 o2 q2 s2 t2 u2 x2 y2 b3 f3 i3 k3 l3 m3 n3 o3 q3 s3 t3)->
(decide (0<p1.wM)=true->
(OkA (wl.mk y1).wB/\U64 p1.wM/\U64 p1.wL)/\let r2:=debitA (wl.mk y1).wB p1.wZ p1.wM p1.wL
((r2.2 !=0)=true->
(w6++p1.wC=w6++p1.wC)/\(k2.length=k2.length)/\(l2.length=l2.length)/\(m2.length=m2.length)/\r2.2=R.e/\f1=R.s.R.wm/\i1=R.s.R.wD/\k1=R.s.R.wJ/\l1=R.s.R.wI/\m1=R.s.R.wG/\n1=R.s.R.wP/\o1=R.s.R.wU/\q1=R.s.R.wO/\s1=R.s.R.wh/\t1=R.s.F.wD/\u1=R.s.F.wY/\x1=R.s.F.wd/\y1=R.s.b/\b2=R.s.n/\Au=Au/\A6=A6/\A7=A7/\A8=A8/\A9=A9/\Ba=Ba/\l2=R.s.r/\k2=R.s.p/\w6++p1.wC=(w6++p1.wC)/\f2=R.s.k/\i2=R.s.v/\m2=R.s.l)/\
((r2.2 !=0)=false->
(k2.length=k2.length)/\(l2.length=l2.length)/\(m2.length=m2.length)/\J1 f1 i1 k1 l1 m1 n1 o1 q1 s1 t1 u1 x1 r2.1 b2 m2 l2 k2 f2 i2))/\
(decide (0<p1.wM)=false->
(k2.length=k2.length)/\(l2.length=l2.length)/\(m2.length=m2.length)/\J1 f1 i1 k1 l1 m1 n1 o1 q1 s1 t1 u1 x1 y1 b2 m2 l2 k2 f2 i2))))) (by kernel_rfl)<|by
 rintro p1 Ah Af Ai Aj Ak Al Ae Am Ao Ag Ac Ad Aa Ab Au A6 A7 A8 A9 Ba w2 w4 w5 w6 w7k w7v h R hR
 obtain⟨⟨c,f,hc,hp⟩,ht,hk,hw6⟩:=h
 have hv:w7v=trs w7k:=hp.v
 have hA:addS p1.wC w7k=(0,w7k++p1.wC):=by
  unfold addS
  have e1:(p1.wC.any fun m=>decide (m∈w7k))=false:=by
   rw[List.any_eq_false]
   intro m hm
   simpa using hk.m m hm
  rw[e1,decide_eq_true hk.v.mn]
  rfl
 have hml:=hk.v.ml
 have hol:=hk.v.ol
 have hll:w2.length+p1.wH.length<=2^Af.toNat:=hk.l
 have hd1:1<=Af:=hp.d1
 have hd2:Af<=12:=hp.d2
 have hF0:wE.mk Ag Ac Ad=frF Af w2:=hp.F
 have hlb:BG w2:=hp.l
 have hp12:=pow12 Af.toNat (by omega)
 obtain⟨a1,a2,a3,a4,a5⟩:=hk.v.am'
 have hgb:GoodA c Aa:=hp.b
 have hdA:OkA (depA Aa p1):=by
  unfold depA
  split
  ·exact(kcu hgb (by omega) ⟨ht.ac.1,a4⟩ ht.d.1 ht.n).1
  ·exact hgb.1
 have hdd:0<p1.wM->(debitA Aa p1.wZ p1.wM p1.wL).2=0:=hk.d
 unfold perfS at hR
 refine⟨rfl,⟨hv,by omega⟩,?_⟩
 rw[hA]
 refine⟨fun e=>(by cases e),fun _=>⟨rfl,by omega,by unfold maxLen;omega,rfl,rfl,rfl,?_⟩⟩
 refine⟨fun a y0 y1 y2 y3 y4 y5 y6 y7 y8 x y z bb nn kk vv pp rr g=>(Ah=y0/\Af=y1/\Ai=y2/\Aj=y3/\Ak=y4/\Al=y5/\Ae=y6/\Am=y7/\Ao=y8/\Aa=bb/\Ab=nn/\w7k++p1.wC=kk/\trs (w7k++p1.wC)=vv/\w5=pp/\w4=rr)/\∃i:Nat,a=(i:Int)/\i<=p1.wH.length/\wE.mk x y z=outsF (wE.mk Ag Ac Ad) (p1.wH.take i)/\g=w2++(p1.wH.take i).map (·.wn),fun a _ _ _ _ _ _ _ _ _ _ _ _ _ _ _ _ _ _ _=>(p1.wH.length-a).toNat,⟨⟨rfl,rfl,rfl,rfl,rfl,rfl,rfl,rfl,rfl,rfl,rfl,rfl,rfl,rfl,rfl⟩,0,rfl,by omega,rfl,by simp⟩,?_⟩
 rintro _ _ _ _ _ _ _ _ _ _ x y z _ _ _ _ _ _ _ ⟨⟨rfl,rfl,rfl,rfl,rfl,rfl,rfl,rfl,rfl,rfl,rfl,rfl,rfl,rfl,rfl⟩,i,rfl,hi,hF,rfl⟩
 have hx:x=(outsF (wE.mk Ag Ac Ad) (p1.wH.take i)).wD:=congrArg wE.wD hF
 have hy:y=(outsF (wE.mk Ag Ac Ad) (p1.wH.take i)).wY:=congrArg wE.wY hF
 have hz:z=(outsF (wE.mk Ag Ac Ad) (p1.wH.take i)).wd:=congrArg wE.wd hF
 clear hF
 subst hx
 subst hy
 subst hz
 refine⟨fun e=> ?_,fun e=> ?_⟩
 ·have e:i<p1.wH.length:=by have:=of_decide_eq_true e;omega
  have ho:=List.getElem_mem e
  have hil:(p1.wH.take i).length=i:=by rw[List.length_take];omega
  have hFi:outsF (wE.mk Ag Ac Ad) (p1.wH.take i)=frF Af (w2++(p1.wH.take i).map (·.wn)):=by
   rw[hF0]
   exact kar (by omega)
  have hgl:(w2++(p1.wH.take i).map (·.wn)).length=w2.length+i:=by simp only[List.length_append,List.length_map];omega
  have hbg:BG (w2++(p1.wH.take i).map (·.wn)):=by
   intro q hq
   rcases List.mem_append.1 hq with hq|hq
   ·exact hlb q hq
   ·obtain⟨o,h1,rfl⟩:=List.mem_map.1 hq
    exact⟨(ht.o o (List.mem_of_mem_take h1)).c.1,(hk.v.o o (List.mem_of_mem_take h1)).c⟩
  rw[ix_get _ _ e,inc_i64 _ (by omega)]
  have hfv:FV (outsF (wE.mk Ag Ac Ad) (p1.wH.take i)):=by
   rw[hFi]
   exact frF_FV hd1 hd2 (by omega) hbg
  have hct:(outsF (wE.mk Ag Ac Ad) (p1.wH.take i)).wY<((2^(outsF (wE.mk Ag Ac Ad) (p1.wH.take i)).wD.toNat:Nat):Int):=by
   rw[hFi]
   show((w2++(p1.wH.take i).map (·.wn)).length:Int)<((2^Af.toNat:Nat):Int)
   omega
  refine⟨by omega,by omega,⟨hfv,hct,(ht.o _ ho).c.1,(hk.v.o _ ho).c⟩,fun e2=>(by cases e2),fun _=>⟨rfl,rfl,?_,?_,rfl,rfl,rfl,⟨⟨rfl,rfl,rfl,rfl,rfl,rfl,rfl,rfl,rfl,rfl,rfl,rfl,rfl,rfl,rfl⟩,i+1,rfl,by omega,?_,?_⟩,by(dsimp only;omega)⟩⟩
  ·rw[hgl];simp only[List.length_cons,List.length_nil];omega
  ·rw[hgl];simp only[List.length_cons,List.length_nil];unfold maxLen;omega
  ·rw[List.take_succ_eq_append_getElem e]
   unfold outsF
   rw[List.foldl_append]
   rfl
  ·rw[List.take_succ_eq_append_getElem e,List.map_append,List.append_assoc]
   rfl
 ·have e:i=p1.wH.length:=by have:=of_decide_eq_false e;omega
  subst e
  rw[List.take_length]
  intro J1 j
  have j1:∀b',b' =depA Aa p1->J1 Ah Af Ai Aj Ak Al Ae Am Ao (outsF (wE.mk Ag Ac Ad) p1.wH).wD (outsF (wE.mk Ag Ac Ad) p1.wH).wY (outsF (wE.mk Ag Ac Ad) p1.wH).wd b' Ab (w2++p1.wH.map (·.wn)) w4 w5 (w7k++p1.wC) (trs (w7k++p1.wC)):=by
   intro b' h1
   subst h1
   refine j _ _ _ _ _ _ _ _ _ _ _ _ _ _ _ _ _ _ _ fun J2 k=> ?_
   have j2:∀b',(wdA Aa p1).2=0->b' =(wdA Aa p1).1->J2 Ah Af Ai Aj Ak Al Ae Am Ao (outsF (wE.mk Ag Ac Ad) p1.wH).wD (outsF (wE.mk Ag Ac Ad) p1.wH).wY (outsF (wE.mk Ag Ac Ad) p1.wH).wd b' Ab (w2++p1.wH.map (·.wn)) w4 w5 (w7k++p1.wC) (trs (w7k++p1.wC)):=by
    intro b' h0 h1
    rw[if_neg (fun hh=>hh h0)]at hR
    subst hR
    subst h1
    exact k _ _ _ _ _ _ _ _ _ _ _ _ _ _ _ _ _ _ _ (by repeat' first|apply And.intro|exact rfl|exact True.intro)
   refine⟨fun e=>⟨⟨hdA,ht.w⟩,fun e2=> ?_,fun e2=>⟨rfl,rfl,rfl,j2 _ ?_ ?_⟩⟩,fun e=>⟨rfl,rfl,rfl,j2 _ ?_ ?_⟩⟩
   ·have e2:(creditA (depA Aa p1) p1.wZ p1.wQ).2≠0:=by simpa using e2
    have ew:wdA Aa p1=creditA (depA Aa p1) p1.wZ p1.wQ:=by unfold wdA;rw[if_pos (of_decide_eq_true e)]
    rw[ew,if_pos e2]at hR
    subst hR
    exact(by repeat' first|apply And.intro|exact rfl|exact True.intro)
   ·have e2:(creditA (depA Aa p1) p1.wZ p1.wQ).2=0:=by simpa using e2
    unfold wdA;rw[if_pos (of_decide_eq_true e)];exact e2
   ·unfold wdA;rw[if_pos (of_decide_eq_true e)]
   ·unfold wdA;rw[if_neg (of_decide_eq_false e)]
   ·unfold wdA;rw[if_neg (of_decide_eq_false e)]
  refine⟨fun e2=>⟨⟨hgb.1,ht.d,ht.n⟩,fun e3=> ?_,fun e3=>⟨rfl,rfl,rfl,j1 _ ?_⟩⟩,fun e2=>⟨rfl,rfl,rfl,j1 _ ?_⟩⟩
  ·have e3:(debitA Aa p1.wZ p1.wM p1.wL).2≠0:=by simpa using e3
   exact(e3 (hdd (of_decide_eq_true e2))).elim
  ·unfold depA;rw[if_pos (of_decide_eq_true e2)]
  ·unfold depA;rw[if_neg (of_decide_eq_false e2)]
noncomputable def k9a:Con TB.den:= .b ⟨65,[.one (.ptr 0 0),.agg [zqu,zqi,zqu,zqu,zqu,.d (.sl (.st 2))],.one (.ptr 1 0)],[.cells [zqi,zqi,zqi,zqi,zqi,zqu,zqi,zqi,zqu,zqi,zqi,zql,.row 2,.ptr 3 0,.d (.sl (.st 8)),zqu,.row 4,.row 5],.cells [zqi,zqi,zql,zqi,.own 6,.d (.sl (.st 8)),zqu],.vec yqu,.cells [.mp 7],.vec yqu,.vec (.st 9),.tip yqu,.map yqu (.bool)],(.one (.one (zqi))),[.cells [zqi,zqi,zqi,zqi,zqi,zqu,zqi,zqi,zqu,zqi,zqi,zql,.row 8,.ptr 3 0,.d (.sl (.st 8)),zqu,.row 4,.row 5],.cells [zqi,zqi,zql,zqi,.own 6,.d (.sl (.st 8)),zqu],.dead,.cells [.mp 7],.vec yqu,.vec (.st 9),.tip yqu,.map yqu (.bool),.vec yqu],false⟩ [.st 10,yqi,yqi,yqi,yqi,yqi,yqu,yqi,yqi,yqu,yqi,yqi,.sl yqu,.sl (.st 8),yqu,yqi,yqi,.sl yqu,yqi,.sl (.st 8),yqu,.sl yqu,.sl yqu,.sl (.st 9),.sl yqu,.sl yqu,.sl (.bool)] [yqi,yqi,yqi,yqi,yqi,yqi,yqu,yqi,yqi,yqu,yqi,yqi,.sl yqu,.sl (.st 8),yqu,yqi,yqi,.sl yqu,yqi,.sl (.st 8),yqu,.sl yqu,.sl (.st 9),.sl yqu,.sl yqu,.sl (.bool),.sl yqu] fun(p1:wV) (Ah Af Ai Aj Ak Al Ae Am Ao Ag Ac:Int) (Ad:List Int) (Aa:List wA) (Ab Au A6:Int) (A7:List Int) (A8:Int) (A9:List wA) (Ba:Int) (w2 w4:List Int) (w5:List wN) (w6 w7k:List Int) (w7v:List Bool)=>((∃c:Nat,c+p1.Txs.length<=790/\PI (PS.mk (wF.mk Ah Af Ai Aj Ak Al Ae Am Ao) (wE.mk Ag Ac Ad) Aa Ab w2 w4 w5 w7k w7v) c 0)/\BR' p1/\w6=[],blkS (PS.mk (wF.mk Ah Af Ai Aj Ak Al Ae Am Ao) (wE.mk Ag Ac Ad) Aa Ab w2 w4 w5 w7k w7v) w6 p1,fun R=>(R.e,R.s.R.wm,R.s.R.wD,R.s.R.wJ,R.s.R.wI,R.s.R.wG,R.s.R.wP,R.s.R.wU,R.s.R.wO,R.s.R.wh,R.s.F.wD,R.s.F.wY,R.s.F.wd,R.s.b,R.s.n,Au,A6,A7,A8,A9,Ba,R.s.r,R.s.p,R.m,R.s.k,R.s.v,R.s.l,()))
theorem kaf:k9a.Ok Tryz.prog TB:=pbv Bs Tryz.func65 (.nd [.trimc 0 12] .no [] (.r 0 (.nd [] (.r 0 (.lp [] ⟨[7,6,5,4,3,1,0],[.map yqu (.bool),.tip yqu,.vec (.st 9),.vec yqu,.cells [.mp 0],.cells [zqi,zqi,zql,zqi,.own 1,.d (.sl (.st 8)),zqu],.cells [zqi,zqi,zqi,zqi,zqi,zqu,zqi,zqi,zqu,zqi,zqi,zql,.row 7,.ptr 4 0,.d (.sl (.st 8)),zqu,.row 3,.row 2],.vec yqu],[7,17],[.one (zqu),.one (zqi)],[8]⟩ .no)) [] .no))) (k2e.c (k8h.c (k4y.c c0))) (Q:=∀(p1:wV) (Ah Af Ai Aj Ak Al Ae Am Ao Ag Ac:Int) (Ad:List Int) (Aa:List wA) (Ab Au A6:Int) (A7:List Int) (A8:Int) (A9:List wA) (Ba:Int) (w2 w4:List Int) (w5:List wN) (w6 w7k:List Int) (w7v:List Bool),((∃c:Nat,c+p1.Txs.length<=790/\PI (PS.mk (wF.mk Ah Af Ai Aj Ak Al Ae Am Ao) (wE.mk Ag Ac Ad) Aa Ab w2 w4 w5 w7k w7v) c 0)/\BR' p1/\w6=[])->∀R,blkS (PS.mk (wF.mk Ah Af Ai Aj Ak Al Ae Am Ao) (wE.mk Ag Ac Ad) Aa Ab w2 w4 w5 w7k w7v) w6 p1=R-> 
 w2.length=w2.length/\(w5.length=w5.length)/\(w4.length=w4.length)/\(w2.length=w2.length)/\(w6=w6)/\∃(I1:Int->Int->Int->Int->(List Int)->Int->(List wA)->Int->Int->Int->Int->Int->Int->Int->Int->Int->Int->Int->Int->(List Int)->(List wA)->Int->(List Int)->(List Bool)->(List Int)->(List wN)->(List Int)->(List Int)->Prop) (M1:Int->Int->Int->Int->(List Int)->Int->(List wA)->Int->Int->Int->Int->Int->Int->Int->Int->Int->Int->Int->Int->(List Int)->(List wA)->Int->(List Int)->(List Bool)->(List Int)->(List wN)->(List Int)->(List Int)->Nat),I1 0 0 Au A6 A7 A8 A9 Ba Ah Af Ai Aj Ak Al Ae Am Ao Ag Ac Ad Aa Ab w7k w7v w6 w5 w4 w2/\∀(b1 f1 i1 k1:Int) (l1:List Int) (m1:Int) (n1:List wA) (o1 q1 s1 t1 u1 x1 y1 b2 f2 i2 k2 l2:Int) (m2:List Int) (n2:List wA) (o2:Int) (q2:List Int) (s2:List Bool) (t2:List Int) (u2:List wN) (x2 y2:List Int),(I1 b1 f1 i1 k1 l1 m1 n1 o1 q1 s1 t1 u1 x1 y1 b2 f2 i2 k2 l2 m2 n2 o2 q2 s2 t2 u2 x2 y2->
(decide (f1<(p1.Txs.length:Int))=true->
(0<=f1)/\f1<(p1.Txs.length:Int)/\(u2.length=u2.length)/\(x2.length=x2.length)/\(y2.length=y2.length)/\((∃(c:Nat) (f:Int),c<=800/\PI (PS.mk (wF.mk q1 s1 t1 u1 x1 y1 b2 f2 i2) (wE.mk k2 l2 m2) n2 o2 y2 x2 u2 q2 s2) c f)/\TR (ix p1.Txs f1))/\let r1:Int:=(chkS (PS.mk (wF.mk q1 s1 t1 u1 x1 y1 b2 f2 i2) (wE.mk k2 l2 m2) n2 o2 y2 x2 u2 q2 s2) (ix p1.Txs f1))
((r1 !=0)=true->
(t2=t2)/\(u2.length=u2.length)/\(x2.length=x2.length)/\(y2.length=y2.length)/\r1=R.e/\q1=R.s.R.wm/\s1=R.s.R.wD/\t1=R.s.R.wJ/\u1=R.s.R.wI/\x1=R.s.R.wG/\y1=R.s.R.wP/\b2=R.s.R.wU/\f2=R.s.R.wO/\i2=R.s.R.wh/\k2=R.s.F.wD/\l2=R.s.F.wY/\m2=R.s.F.wd/\n2=R.s.b/\o2=R.s.n/\i1=Au/\k1=A6/\l1=A7/\m1=A8/\n1=A9/\o1=Ba/\x2=R.s.r/\u2=R.s.p/\t2=R.m/\q2=R.s.k/\s2=R.s.v/\y2=R.s.l)/\
((r1 !=0)=false->
(t2=t2)/\(u2.length=u2.length)/\(x2.length=x2.length)/\(y2.length=y2.length)/\((∃(c:Nat) (f:Int),c<=800/\PI (PS.mk (wF.mk q1 s1 t1 u1 x1 y1 b2 f2 i2) (wE.mk k2 l2 m2) n2 o2 y2 x2 u2 q2 s2) c f)/\TR (ix p1.Txs f1)/\CK (PS.mk (wF.mk q1 s1 t1 u1 x1 y1 b2 f2 i2) (wE.mk k2 l2 m2) n2 o2 y2 x2 u2 q2 s2) (ix p1.Txs f1)/\t2.length<=1000000)/\let r2:Int:=((perfS (PS.mk (wF.mk q1 s1 t1 u1 x1 y1 b2 f2 i2) (wE.mk k2 l2 m2) n2 o2 y2 x2 u2 q2 s2) (ix p1.Txs f1)).e)
 let r3:=(perfS (PS.mk (wF.mk q1 s1 t1 u1 x1 y1 b2 f2 i2) (wE.mk k2 l2 m2) n2 o2 y2 x2 u2 q2 s2) (ix p1.Txs f1)).s
((r2 !=0)=true->
((t2++(ix p1.Txs f1).wC)=(t2++(ix p1.Txs f1).wC))/\(r3.p.length=r3.p.length)/\(r3.r.length=r3.r.length)/\(r3.l.length=r3.l.length)/\r2=R.e/\r3.R.wm=R.s.R.wm/\r3.R.wD=R.s.R.wD/\r3.R.wJ=R.s.R.wJ/\r3.R.wI=R.s.R.wI/\r3.R.wG=R.s.R.wG/\r3.R.wP=R.s.R.wP/\r3.R.wU=R.s.R.wU/\r3.R.wO=R.s.R.wO/\r3.R.wh=R.s.R.wh/\r3.F.wD=R.s.F.wD/\r3.F.wY=R.s.F.wY/\r3.F.wd=R.s.F.wd/\r3.b=R.s.b/\r3.n=R.s.n/\i1=Au/\k1=A6/\l1=A7/\m1=A8/\n1=A9/\o1=Ba/\r3.r=R.s.r/\r3.p=R.s.p/\(t2++(ix p1.Txs f1).wC)=R.m/\r3.k=R.s.k/\r3.v=R.s.v/\r3.l=R.s.l)/\
((r2 !=0)=false->
 let v4:Int:=u64.wrap (b1+((ix p1.Txs f1).Fee))
(r3.p.length=r3.p.length)/\(r3.r.length=r3.r.length)/\(r3.l.length=r3.l.length)/\((t2++(ix p1.Txs f1).wC)=(t2++(ix p1.Txs f1).wC))/\I1 v4 (i64.wrap (f1+1)) i1 k1 l1 m1 n1 o1 r3.R.wm r3.R.wD r3.R.wJ r3.R.wI r3.R.wG r3.R.wP r3.R.wU r3.R.wO r3.R.wh r3.F.wD r3.F.wY r3.F.wd r3.b r3.n r3.k r3.v (t2++(ix p1.Txs f1).wC) r3.p r3.r r3.l/\M1 v4 (i64.wrap (f1+1)) i1 k1 l1 m1 n1 o1 r3.R.wm r3.R.wD r3.R.wJ r3.R.wI r3.R.wG r3.R.wP r3.R.wU r3.R.wO r3.R.wh r3.F.wD r3.F.wY r3.F.wd r3.b r3.n r3.k r3.v (t2++(ix p1.Txs f1).wC) r3.p r3.r r3.l<M1 b1 f1 i1 k1 l1 m1 n1 o1 q1 s1 t1 u1 x1 y1 b2 f2 i2 k2 l2 m2 n2 o2 q2 s2 t2 u2 x2 y2)))/\
(decide (f1<(p1.Txs.length:Int))=false->
(OkA (wl.mk n2).wB/\U64 (u64.wrap (y1+b1)))/\let r5:=creditA (wl.mk n2).wB p1.wAM (u64.wrap (y1+b1))
((r5.2 !=0)=true->
(t2=t2)/\(u2.length=u2.length)/\(x2.length=x2.length)/\(y2.length=y2.length)/\r5.2=R.e/\q1=R.s.R.wm/\s1=R.s.R.wD/\t1=R.s.R.wJ/\u1=R.s.R.wI/\x1=R.s.R.wG/\y1=R.s.R.wP/\b2=R.s.R.wU/\f2=R.s.R.wO/\i2=R.s.R.wh/\k2=R.s.F.wD/\l2=R.s.F.wY/\m2=R.s.F.wd/\n2=R.s.b/\o2=R.s.n/\i1=Au/\k1=A6/\l1=A7/\m1=A8/\n1=A9/\o1=Ba/\x2=R.s.r/\u2=R.s.p/\t2=R.m/\q2=R.s.k/\s2=R.s.v/\y2=R.s.l)/\
((r5.2 !=0)=false->
(t2=t2)/\(u2.length=u2.length)/\(x2.length=x2.length)/\(y2.length=y2.length)/\0=R.e/\q1=R.s.R.wm/\s1=R.s.R.wD/\t1=R.s.R.wJ/\u1=R.s.R.wI/\x1=R.s.R.wG/\y1=R.s.R.wP/\b2=R.s.R.wU/\f2=R.s.R.wO/\i2=R.s.R.wh/\k2=R.s.F.wD/\l2=R.s.F.wY/\m2=R.s.F.wd/\r5.1=R.s.b/\o2=R.s.n/\i1=Au/\k1=A6/\l1=A7/\m1=A8/\n1=A9/\o1=Ba/\x2=R.s.r/\u2=R.s.p/\t2=R.m/\q2=R.s.k/\s2=R.s.v/\y2=R.s.l)))) (by kernel_rfl)<|by
 rintro p1 Ah Af Ai Aj Ak Al Ae Am Ao Ag Ac Ad Aa Ab Au A6 A7 A8 A9 Ba w2 w4 w5 w6 w7k w7v h R hR
 obtain⟨⟨c,hc,hp⟩,hb,hw⟩:=h
 subst hw
 unfold blkS at hR
 generalize hG:blkGo p1.Txs (PS.mk (wF.mk Ah Af Ai Aj Ak Al Ae Am Ao) (wE.mk Ag Ac Ad) Aa Ab w2 w4 w5 w7k w7v) [] 0=G at hR
 refine⟨rfl,rfl,rfl,rfl,rfl,⟨(fun fe a y0 y1 y2 y3 y4 y5 x0 x1 x2 x3 x4 x5 x6 x7 x8 x9 x10 x11 bb nn kk vv mm pp rr ll=>(y0=Au/\y1=A6/\y2=A7/\y3=A8/\y4=A9/\y5=Ba)/\∃i:Nat,a=(i:Int)/\i<=p1.Txs.length/\(∃c' :Nat,c' +(p1.Txs.length-i)<=790/\PI (PS.mk (wF.mk x0 x1 x2 x3 x4 x5 x6 x7 x8) (wE.mk x9 x10 x11) bb nn ll rr pp kk vv) c' fe)/\mm.length<=4*i/\blkGo (p1.Txs.drop i) (PS.mk (wF.mk x0 x1 x2 x3 x4 x5 x6 x7 x8) (wE.mk x9 x10 x11) bb nn ll rr pp kk vv) mm fe=G),(fun _ a _ _ _ _ _ _ _ _ _ _ _ _ _ _ _ _ _ _ _ _ _ _ _ _ _ _=>(p1.Txs.length-a).toNat),⟨⟨rfl,rfl,rfl,rfl,rfl,rfl⟩,0,rfl,by omega,⟨c,by omega,hp⟩,by simp,hG⟩,?_⟩⟩
 rintro fe _ y0 y1 y2 y3 y4 y5 x0 x1 x2 x3 x4 x5 x6 x7 x8 x9 x10 x11 bb nn kk vv mm pp rr ll ⟨⟨rfl,rfl,rfl,rfl,rfl,rfl⟩,i,rfl,hi,⟨c',hc',hq⟩,hm,hg⟩
 refine⟨fun e=> ?_,fun e=> ?_⟩
 ·have e:i<p1.Txs.length:=by have:=of_decide_eq_true e;omega
  have ht:=hb.t _ (List.getElem_mem e)
  rw[List.drop_eq_getElem_cons e]at hg
  unfold blkGo at hg
  rw[ix_get _ _ e,inc_i64 _ (by omega)]
  refine⟨by omega,by omega,rfl,rfl,rfl,⟨⟨c',fe,by omega,hq⟩,ht⟩,fun e2=> ?_,fun e2=> ?_⟩
  ·have e2:chkS (PS.mk (wF.mk x0 x1 x2 x3 x4 x5 x6 x7 x8) (wE.mk x9 x10 x11) bb nn ll rr pp kk vv) p1.Txs[i]≠0:=by simpa using e2
   rw[if_pos e2]at hg
   subst hg
   simp only at hR
   rw[if_pos e2]at hR
   subst hR
   exact(by repeat' first|apply And.intro|exact rfl|exact True.intro)
  ·have e2:chkS (PS.mk (wF.mk x0 x1 x2 x3 x4 x5 x6 x7 x8) (wE.mk x9 x10 x11) bb nn ll rr pp kk vv) p1.Txs[i]=0:=by simpa using e2
   have k:=k4o e2
   rw[if_neg (fun hh=>hh e2)]at hg
   refine⟨rfl,rfl,rfl,rfl,⟨⟨c',fe,by omega,hq⟩,ht,k,by omega⟩,fun e3=> ?_,fun e3=>⟨rfl,rfl,rfl,rfl,⟨⟨rfl,rfl,rfl,rfl,rfl,rfl⟩,i+1,rfl,by omega,⟨c' +1,by omega,?_⟩,?_,?_⟩,by(dsimp only;omega)⟩⟩
   ·have e3:(perfS (PS.mk (wF.mk x0 x1 x2 x3 x4 x5 x6 x7 x8) (wE.mk x9 x10 x11) bb nn ll rr pp kk vv) p1.Txs[i]).e≠0:=by simpa using e3
    rw[if_pos e3]at hg
    subst hg
    simp only at hR
    rw[if_pos e3]at hR
    subst hR
    exact(by repeat' first|apply And.intro|exact rfl|exact True.intro)
   ·have e3:(perfS (PS.mk (wF.mk x0 x1 x2 x3 x4 x5 x6 x7 x8) (wE.mk x9 x10 x11) bb nn ll rr pp kk vv) p1.Txs[i]).e=0:=by simpa using e3
    have h9:=(hq.perf (by omega) ht k).2.2 e3
    rw[kan hq (by omega) ht k]
    exact h9
   ·have:=k.v.ml
    rw[List.length_append]
    omega
   ·have e3:(perfS (PS.mk (wF.mk x0 x1 x2 x3 x4 x5 x6 x7 x8) (wE.mk x9 x10 x11) bb nn ll rr pp kk vv) p1.Txs[i]).e=0:=by simpa using e3
    rw[if_neg (fun hh=>hh e3)]at hg
    exact hg
 ·have e:i=p1.Txs.length:=by have:=of_decide_eq_false e;omega
  subst e
  rw[List.drop_length]at hg
  unfold blkGo at hg
  subst hg
  have hw:=kbb (x:=⟨0,(PS.mk (wF.mk x0 x1 x2 x3 x4 x5 x6 x7 x8) (wE.mk x9 x10 x11) bb nn ll rr pp kk vv),mm,fe⟩) hq (by omega)
  simp only at hw
  unfold crB at hR
  simp only at hR
  rw[if_neg (fun hh=>hh rfl)]at hR
  refine⟨⟨hq.b.1,?_⟩,fun e2=> ?_,fun e2=> ?_⟩
  ·rw[hw.1];exact hw.2
  ·have e2:(creditA bb p1.wAM (u64.wrap (x5+fe))).2≠0:=by simpa using e2
   rw[if_pos e2]at hR
   subst hR
   exact(by repeat' first|apply And.intro|exact rfl|exact True.intro)
  ·have e2:(creditA bb p1.wAM (u64.wrap (x5+fe))).2=0:=by simpa using e2
   rw[if_neg (fun hh=>hh e2)]at hR
   subst hR
   exact(by repeat' first|apply And.intro|exact rfl|exact True.intro)
noncomputable def kdm:Con TB.den:= .g ⟨86,[.one (.ptr 0 0),.one (zql)],[.cells [.mp 1],.map yqu (.bool)],(.one (.one (zqi))),[.cells [.mp 1],.map yqu (.bool)],false⟩ [.sl yqu,.sl yqu,.sl (.bool)] [yqi,.sl yqu,.sl (.bool)] [] fun(p1 w1k:List Int) (w1v:List Bool)=>(w1v=trs w1k/\p1.length<=1000000,((remS p1 w1k).1:Int),((remS p1 w1k).2:List Int),(trs (remS p1 w1k).2:List Bool),())
theorem kft:kdm.Ok Tryz.prog TB:=prv Bs Tryz.func86 (.r 1 (.nd [] (.r 0 (.lp [] ⟨[1],[.map yqu (.bool)],[16],[.one (zqi)],[]⟩ .no)) [] .no)) (k9z.c (k3c.c c0)) (Q:=∀(p1 w1k:List Int) (w1v:List Bool),(w1v=trs w1k/\p1.length<=1000000)->∀r0:Int,((remS p1 w1k).1)=r0->∀e1k:List Int,((remS p1 w1k).2)=e1k->∀e1v:List Bool,(trs (remS p1 w1k).2)=e1v-> 
(w1v=trs w1k/\p1.length<=1000000)/\let r1:Bool:=(p1.any (fun m=>decide (m∈w1k)==false))
(r1=true->
 4=r0/\w1k=e1k/\w1v=e1v)/\
(r1=false->
(p1.length<=1000000)/\((!decide p1.Nodup)=true->
 4=r0/\w1k=e1k/\w1v=e1v)/\
((!decide p1.Nodup)=false->
 ∃(I1:Int->(List Int)->(List Bool)->Prop) (M1:Int->(List Int)->(List Bool)->Nat),I1 0 w1k w1v/\∀(b1:Int) (f1:List Int) (i1:List Bool),(I1 b1 f1 i1->
(decide (b1<(p1.length:Int))=true->
(0<=b1)/\b1<(p1.length:Int)/\f1.length=i1.length/\let v2:List Int:=mDelK (BEq.beq (ix p1 b1)) f1
 let v3:List Bool:=mDelV (BEq.beq (ix p1 b1)) f1 i1
 I1 (i64.wrap (b1+1)) v2 v3/\M1 (i64.wrap (b1+1)) v2 v3<M1 b1 f1 i1)/\
(decide (b1<(p1.length:Int))=false->
 0=r0/\f1=e1k/\i1=e1v))))) (by kernel_rfl)<|by
 rintro p1 w1k w1v h _ rfl _ rfl _ rfl
 obtain⟨h,hl⟩:=h
 subst h
 have ea:(p1.any fun m=>decide (m∈w1k)==false)=p1.any fun m=> !decide (m∈w1k):=by congr 1;funext m;cases decide (m∈w1k)<;>rfl
 refine⟨⟨rfl,hl⟩,?_⟩
 rw[ea]
 refine⟨fun e=> ?_,fun e=>⟨hl,fun e2=> ?_,fun e2=> ?_⟩⟩
 ·have:remS p1 w1k=(4,w1k):=by unfold remS;rw[e];rfl
  rw[this]
  exact⟨rfl,rfl,rfl⟩
 ·have:remS p1 w1k=(4,w1k):=by unfold remS;rw[e,e2];rfl
  rw[this]
  exact⟨rfl,rfl,rfl⟩
 ·have hA:remS p1 w1k=(0,p1.foldl List.erase w1k):=by unfold remS;rw[e,e2];rfl
  rw[hA]
  refine⟨(fun a k v=>∃i:Nat,a=(i:Int)/\i<=p1.length/\k=(p1.take i).foldl List.erase w1k/\v=trs k),(fun a _ _=>(p1.length-a).toNat),⟨0,rfl,by omega,rfl,rfl⟩,?_⟩
  rintro _ _ _ ⟨i,rfl,hi,rfl,rfl⟩
  refine⟨fun e3=> ?_,fun e3=> ?_⟩
  ·have e3:i<p1.length:=by have:=of_decide_eq_true e3;omega
   rw[ix_get _ _ e3,inc_i64 _ (by omega)]
   obtain⟨q1,q2⟩:=sDel ((p1.take i).foldl List.erase w1k) p1[i]
   rw[q1,q2]
   refine⟨by omega,by omega,by simp[trs],⟨i+1,rfl,by omega,?_,rfl⟩,by(dsimp only;omega)⟩
   rw[List.take_succ_eq_append_getElem e3,List.foldl_append]
   rfl
  ·have e3:i=p1.length:=by have:=of_decide_eq_false e3;omega
   subst e3
   rw[List.take_length]
   exact⟨rfl,rfl,rfl⟩
noncomputable def k9e:Con TB.den:= .g ⟨58,[.one (.ptr 0 0),.agg [zqi,zqi,zql,zqi,zql,.d (.sl (.st 8)),zqu]],[.cells [zqi,zqi,zqi,zqi,zqi,zqu,zqi,zqi,zqu,zqi,zqi,zql,.row 1,.ptr 2 0,.d (.sl (.st 8)),zqu,.row 3,.row 4],.vec yqu,.cells [.mp 5],.vec yqu,.vec (.st 9),.map yqu (.bool)],(.tup []),[.cells [zqi,zqi,zqi,zqi,zqi,zqu,zqi,zqi,zqu,zqi,zqi,zql,.view 1,.ptr 2 0,.d (.sl (.st 8)),zqu,.row 3,.row 4],.vec yqu,.cells [.mp 5],.vec yqu,.vec (.st 9),.map yqu (.bool)],false⟩ [.st 9,yqi,yqi,yqi,yqi,yqi,yqu,yqi,yqi,yqu,yqi,yqi,.sl yqu,.sl (.st 8),yqu,.sl yqu,.sl yqu,.sl (.st 9),.sl yqu,.sl (.bool)] [yqi,yqi,yqi,yqi,yqi,yqu,yqi,yqi,yqu,yqi,yqi,.sl yqu,yqi,yqi,.sl (.st 8),yqu,.sl yqu,.sl yqu,.sl (.st 9),.sl yqu,.sl (.bool)] [] fun(p1:wN) (Ah Af Ai Aj Ak Al Ae Am Ao Ag Ac:Int) (Ad:List Int) (Aa:List wA) (Ab:Int) (w1 w3:List Int) (w4:List wN) (w5k:List Int) (w5v:List Bool)=>(w5v=trs w5k/\p1.marks.length<=1000000/\0<=p1.leaves/\p1.leaves<=(w1.length:Int),Ah,Af,Ai,Aj,Ak,Al,Ae,Am,Ao,p1.wAV,p1.wAU,p1.wAX,(0:Int),(p1.leaves.toNat:Int),p1.wAQ,p1.hidden,w1,w3,w4,((remS p1.marks w5k).2:List Int),(trs (remS p1.marks w5k).2:List Bool),())
theorem k54:k9e.Ok Tryz.prog TB:=prv Bs Tryz.func58 .no (kft.c c0) (Q:=∀(p1:wN) (Ah Af Ai Aj Ak Al Ae Am Ao Ag Ac:Int) (Ad:List Int) (Aa:List wA) (Ab:Int) (w1 w3:List Int) (w4:List wN) (w5k:List Int) (w5v:List Bool),(w5v=trs w5k/\p1.marks.length<=1000000/\0<=p1.leaves/\p1.leaves<=(w1.length:Int))->∀Av:Int,Ah=Av->∀Aw:Int,Af=Aw->∀Ax:Int,Ai=Ax->∀Ay:Int,Aj=Ay->∀Az:Int,Ak=Az->∀A0:Int,Al=A0->∀A1:Int,Ae=A1->∀A3:Int,Am=A3->∀A4:Int,Ao=A4->∀A5:Int,p1.wAV=A5->∀Ap:Int,p1.wAU=Ap->∀Aq:List Int,p1.wAX=Aq->∀d0_12o:Int,(0:Int)=d0_12o->∀d0_12n:Int,(p1.leaves.toNat:Int)=d0_12n->∀As:List wA,p1.wAQ=As->∀At:Int,p1.hidden=At->∀e1:List Int,w1=e1->∀e3:List Int,w3=e3->∀e4:List wN,w4=e4->∀e5k:List Int,((remS p1.marks w5k).2)=e5k->∀e5v:List Bool,(trs (remS p1.marks w5k).2)=e5v-> 
(w5v=trs w5k/\p1.marks.length<=1000000)/\(0<=p1.leaves)/\p1.leaves<=(w1.length:Int)/\(w4.length=w4.length)/\(w3.length=w3.length)/\Ah=Av/\Af=Aw/\Ai=Ax/\Aj=Ay/\Ak=Az/\Al=A0/\Ae=A1/\Am=A3/\Ao=A4/\p1.wAV=A5/\p1.wAU=Ap/\p1.wAX=Aq/\(0:Int)=d0_12o/\(p1.leaves.toNat:Int)=d0_12n/\p1.wAQ=As/\p1.hidden=At/\w1=e1/\w3=e3/\w4=e4/\((remS p1.marks w5k).2)=e5k/\(trs (remS p1.marks w5k).2)=e5v) (by kernel_rfl)<|by
 rintro p1 Ah Af Ai Aj Ak Al Ae Am Ao Ag Ac Ad Aa Ab w1 w3 w4 w5k w5v h _ rfl _ rfl _ rfl _ rfl _ rfl _ rfl _ rfl _ rfl _ rfl _ rfl _ rfl _ rfl _ rfl _ rfl _ rfl _ rfl _ rfl _ rfl _ rfl _ rfl _ rfl
 exact⟨⟨h.1,h.2.1⟩,h.2.2.1,h.2.2.2,rfl,rfl,rfl,rfl,rfl,rfl,rfl,rfl,rfl,rfl,rfl,rfl,rfl,rfl,rfl,rfl,rfl,rfl,rfl,rfl,rfl,rfl,rfl⟩
noncomputable def k8p:Con TB.den:= .gp 82 [yqi] [yqu] [] fun(p0:Int)=>(0<=p0/\p0<=12,(emp p0.toNat:Int),())
theorem k9n:k8p.Ok Tryz.prog TB:=qrv Bs Tryz.func82 (.r 2 (.nd [] (.r 0 (.lp [] ⟨[],[],[3,12],[.one (zqu),.one (zqi)],[]⟩ .no)) [] .no)) (k6j.c (k2i.c c0)) (Q:=∀(p0:Int),(0<=p0/\p0<=12)->∀r0:Int,emp p0.toNat=r0-> 
(decide (p0<0)=true->
 0=r0)/\
(decide (p0<0)=false->
(decide (12<p0)=true->
 0=r0)/\
(decide (12<p0)=false->
((18446744069414584321:Int)=18446744069414584321/\U64 (6:Int)/\Us ([]:List Int)/\([]:List Int).length<=1099511627776)/\∃(I1:Int->Int->Prop) (M1:Int->Int->Nat),I1 (hashS (6:Int) ([]:List Int)) 0/\∀(b1 f1:Int),(I1 b1 f1->
(decide (f1<p0)=true->
(U64 b1/\U64 b1)/\I1 (hashS 6 [b1,b1]) (i64.wrap (f1+1))/\M1 (hashS 6 [b1,b1]) (i64.wrap (f1+1))<M1 b1 f1)/\
(decide (f1<p0)=false->
 b1=r0))))) (by kernel_rfl)<|by
 rintro p0 h _ rfl
 refine⟨fun e=>(by have:=of_decide_eq_true e;omega),fun _=>⟨fun e=>(by have:=of_decide_eq_true e;omega),fun _=>⟨⟨rfl,by decide,(by intro x hx;cases hx),by decide⟩,?_⟩⟩⟩
 refine⟨(fun x a=>∃i:Nat,a=(i:Int)/\(i:Int)<=p0/\x=emp i),(fun _ a=>(p0-a).toNat),⟨0,rfl,by omega,rfl⟩,?_⟩
 rintro _ _ ⟨i,rfl,hi,rfl⟩
 refine⟨fun e=> ?_,fun e=> ?_⟩
 ·have e:=of_decide_eq_true e
  rw[inc_i64 _ (by omega)]
  exact⟨⟨emp_u i,emp_u i⟩,⟨i+1,rfl,by omega,rfl⟩,by(dsimp only;omega)⟩
 ·have e:=of_decide_eq_false e
  have:p0.toNat=i:=by omega
  rw[this]
noncomputable def k9p:Con TB.den:= .gp 55 [.st 5] [yqu] [] fun(p0:wE)=>(FV p0,(rootF p0:Int),())
theorem k2m:k9p.Ok Tryz.prog TB:=qrv Bs Tryz.func55 (.r 4 (.nd [] (.r 0 (.lp [] ⟨[],[],[3,4,25],[.one (zqu),.one (zqu),.one (zqi)],[]⟩ (.r 1 (.nd [] (.r 0 (.jn ⟨[],[],[4],[.one (zqu)],[]⟩ [] .no [] .no)) [] .no)))) [] .no)) (k4a.c (k9n.c (k2i.c c0))) (Q:=∀(p0:wE),(FV p0)->∀r0:Int,rootF p0=r0-> 
(FV p0)/\((!true)=true->
 0=r0)/\
((!true)=false->
(0<=p0.wD)/\((p0.wY==(ishl .i64 1 p0.wD))=true->
(0<=p0.wD)/\p0.wD<(p0.wd.length:Int)/\ix p0.wd p0.wD=r0)/\
((p0.wY==(ishl .i64 1 p0.wD))=false->
(0<=(0:Int)/\(0:Int)<=12)/\∃(I1:Int->Int->Int->Prop) (M1:Int->Int->Int->Nat),I1 (emp (0:Int).toNat) (emp (0:Int).toNat) 0/\∀(b1 f1 i1:Int),(I1 b1 f1 i1->
(decide (i1<p0.wD)=true->
 ∀J1:Int->Prop,(∀(k1:Int),
((U64 b1/\U64 b1)/\I1 (hashS 6 [b1,b1]) k1 (i64.wrap (i1+1))/\M1 (hashS 6 [b1,b1]) k1 (i64.wrap (i1+1))<M1 b1 f1 i1)->J1 k1)->
(0<=i1)/\let v1:Bool:=((iand .i64 (ishr .i64 p0.wY i1) 1)==1)
(v1=true->
(0<=i1)/\i1<(p0.wd.length:Int)/\(U64 (ix p0.wd i1)/\U64 f1)/\J1 (hashS 6 [(ix p0.wd i1),f1]))/\
(v1=false->
(U64 f1/\U64 b1)/\J1 (hashS 6 [f1,b1])))/\
(decide (i1<p0.wD)=false->
 f1=r0))))) (by kernel_rfl)<|by
 rintro p0 h _ rfl
 have hv:=h
 obtain⟨d1,d2,c0,c1,ll,u,z⟩:=h
 obtain⟨d,hd⟩:=Int.eq_ofNat_of_zero_le (show 0<=p0.wD by omega)
 obtain⟨n,hn⟩:=Int.eq_ofNat_of_zero_le c0
 have hdn:p0.wD.toNat=d:=by omega
 have hp:=pow12 d (by omega)
 rw[hdn]at c1 ll
 refine⟨hv,fun e=>(by cases e),fun _=>⟨by omega,?_⟩⟩
 rw[hd,shl1 d (by omega),hn]
 refine⟨fun e=>⟨by omega,by omega,?_⟩,fun e=>⟨by decide,?_⟩⟩
 ·have e:(n:Int)=((2^d:Nat):Int):=by simpa using e
  unfold rootF
  rw[hdn,hn,if_pos e,hd]
 have e:¬(n:Int)=((2^d:Nat):Int):=by simpa using e
 have hr:rootF p0=rootGo p0 d 0 (emp 0) (emp 0):=by
  unfold rootF
  rw[hdn,hn,if_neg e]
 rw[hr]
 refine⟨fun a x b=>∃i:Nat,b=(i:Int)/\i<=d/\a=emp i/\(0<=x/\x<18446744069414584321)/\rootGo p0 (d-i) i (emp i) x=rootGo p0 d 0 (emp 0) (emp 0),fun _ _ b=>(d-b).toNat,⟨0,rfl,by omega,rfl,⟨(emp_u 0).1,emp_lt 0⟩,rfl⟩,?_⟩
 rintro _ x _ ⟨i,rfl,hi,rfl,hx,hg⟩
 refine⟨fun e J1 j=> ?_,fun e=> ?_⟩
 ·have e:i<d:=by have:=of_decide_eq_true e;omega
  have hs:i<p0.wd.length:=by omega
  have hxl:=u _ (List.getElem_mem hs)
  generalize hR:rootGo p0 d 0 (emp 0) (emp 0)=R at hg ⊢
  rw[show d-i=d-(i+1)+1 by omega]at hg
  unfold rootGo at hg
  rw[hn,Int.toNat_natCast]at hg
  rw[bit1 n i (by omega) (by omega)]
  refine⟨by omega,fun e2=>⟨by omega,by omega,?_,?_⟩,fun e2=>⟨⟨⟨hx.1,by omega⟩,emp_u i⟩,?_⟩⟩
  ·rw[ix_get _ _ hs]
   exact⟨⟨hxl.1,by omega⟩,hx.1,by omega⟩
  ·have e2:((n/2^i%2:Nat):Int)=1:=by simpa using e2
   have hb:bitN n i=true:=by unfold bitN;generalize n/2^i%2=q at *;simp;omega
   rw[if_pos hb]at hg
   refine j _ ⟨⟨emp_u i,emp_u i⟩,?_⟩
   rw[inc_i64 _ (by omega)]
   exact⟨⟨i+1,rfl,by omega,rfl,⟨(k3v _ _).1,k4q _ _⟩,hg.trans hR.symm⟩,by show((d:Int)-((i+1:Nat):Int)).toNat<((d:Int)-(i:Int)).toNat;omega⟩
  ·have e2:¬((n/2^i%2:Nat):Int)=1:=by simpa using e2
   have hb:¬bitN n i=true:=by unfold bitN;generalize n/2^i%2=q at *;simp;omega
   rw[if_neg hb]at hg
   refine j _ ⟨⟨emp_u i,emp_u i⟩,?_⟩
   rw[inc_i64 _ (by omega)]
   exact⟨⟨i+1,rfl,by omega,rfl,⟨(k3v _ _).1,k4q _ _⟩,hg.trans hR.symm⟩,by show((d:Int)-((i+1:Nat):Int)).toNat<((d:Int)-(i:Int)).toNat;omega⟩
 ·have e:d=i:=by have:=of_decide_eq_false e;omega
  subst e
  rw[Nat.sub_self]at hg
  exact hg
noncomputable def kd1:Con TB.den:= .b ⟨29,[.one (.ptr 0 0),.agg [zqu,zqi,zqu,zqu,zqu,.d (.sl (.st 2))]],[.cells [zqi,zqi,zqi,zqi,zqi,zqu,zqi,zqi,zqu,zqi,zqi,zql,.row 1,.ptr 2 0,.d (.sl (.st 8)),zqu,.row 3,.row 4],.vec yqu,.cells [.mp 5],.vec yqu,.vec (.st 9),.map yqu (.bool)],(.one (.one (zqi))),[.cells [zqi,zqi,zqi,zqi,zqi,zqu,zqi,zqi,zqu,zqi,zqi,zql,.row 6,.ptr 2 0,.d (.sl (.st 8)),zqu,.row 7,.row 8],.dead,.cells [.mp 5],.dead,.dead,.map yqu (.bool),.vec yqu,.vec yqu,.vec (.st 9)],false⟩ [.st 10,yqi,yqi,yqi,yqi,yqi,yqu,yqi,yqi,yqu,yqi,yqi,.sl yqu,.sl (.st 8),yqu,.sl yqu,.sl yqu,.sl (.st 9),.sl yqu,.sl (.bool)] [yqi,yqi,yqi,yqi,yqi,yqi,yqu,yqi,yqi,yqu,yqi,yqi,.sl yqu,.sl (.st 8),yqu,.sl yqu,.sl (.bool),.sl yqu,.sl yqu,.sl (.st 9)] fun(p1:wV) (Ah Af Ai Aj Ak Al Ae Am Ao Ag Ac:Int) (Ad:List Int) (Aa:List wA) (Ab:Int) (w1 w3:List Int) (w4:List wN) (w5k:List Int) (w5v:List Bool)=>((∃c:Nat,c+p1.Txs.length<=790/\PI (PS.mk (wF.mk Ah Af Ai Aj Ak Al Ae Am Ao) (wE.mk Ag Ac Ad) Aa Ab w1 w3 w4 w5k w5v) c 0)/\BR' p1,applyS (PS.mk (wF.mk Ah Af Ai Aj Ak Al Ae Am Ao) (wE.mk Ag Ac Ad) Aa Ab w1 w3 w4 w5k w5v) p1,fun R=>(R.e,R.s.R.wm,R.s.R.wD,R.s.R.wJ,R.s.R.wI,R.s.R.wG,R.s.R.wP,R.s.R.wU,R.s.R.wO,R.s.R.wh,R.s.F.wD,R.s.F.wY,R.s.F.wd,R.s.b,R.s.n,R.s.k,R.s.v,R.s.l,R.s.r,R.s.p,()))
theorem k3e:kd1.Ok Tryz.prog TB:=pbx Bs [61,62,75,76] Tryz.func29 (.r 0 (.nd [] (.r 0 (.nd [] (.r 0 (.rt [.trimc 0 12,.trimc 0 16,.trimc 0 17])) [] .no)) [] (.nd [] (.r 0 (.nd [] (.r 0 (.rt [.trimc 0 12,.trimc 0 16,.trimc 0 17])) [] .no)) [] (.r 1 (.nd [] (.nd [.tokc 115 4 yqu] .no [] (.r 0 (.nd [] (.r 1 (.rt [.trimc 0 12,.trimc 0 16,.trimc 0 17])) [] .no))) [] .no))))) x0 (kaf.c (k54.c (k2m.c c0))) (Q:=∀(p1:wV) (Ah Af Ai Aj Ak Al Ae Am Ao Ag Ac:Int) (Ad:List Int) (Aa:List wA) (Ab:Int) (w1 w3:List Int) (w4:List wN) (w5k:List Int) (w5v:List Bool),((∃c:Nat,c+p1.Txs.length<=790/\PI (PS.mk (wF.mk Ah Af Ai Aj Ak Al Ae Am Ao) (wE.mk Ag Ac Ad) Aa Ab w1 w3 w4 w5k w5v) c 0)/\BR' p1)->∀R,applyS (PS.mk (wF.mk Ah Af Ai Aj Ak Al Ae Am Ao) (wE.mk Ag Ac Ad) Aa Ab w1 w3 w4 w5k w5v) p1=R-> 
 let v1:Bool:=(p1.wS !=(i64.wrap ((w4.length:Int)+1)))
(v1=true->
 w1.length=w1.length/\w3.length=w3.length/\w4.length=w4.length/\(w4.length=w4.length)/\(w3.length=w3.length)/\(w1.length=w1.length)/\18=R.e/\Ah=R.s.R.wm/\Af=R.s.R.wD/\Ai=R.s.R.wJ/\Aj=R.s.R.wI/\Ak=R.s.R.wG/\Al=R.s.R.wP/\Ae=R.s.R.wU/\Am=R.s.R.wO/\Ao=R.s.R.wh/\Ag=R.s.F.wD/\Ac=R.s.F.wY/\Ad=R.s.F.wd/\Aa=R.s.b/\Ab=R.s.n/\w5k=R.s.k/\w5v=R.s.v/\w1=R.s.l/\w3=R.s.r/\w4=R.s.p)/\
(v1=false->
(decide (18446744069414584321<=p1.wAM)=true->
 w1.length=w1.length/\w3.length=w3.length/\w4.length=w4.length/\(w4.length=w4.length)/\(w3.length=w3.length)/\(w1.length=w1.length)/\1=R.e/\Ah=R.s.R.wm/\Af=R.s.R.wD/\Ai=R.s.R.wJ/\Aj=R.s.R.wI/\Ak=R.s.R.wG/\Al=R.s.R.wP/\Ae=R.s.R.wU/\Am=R.s.R.wO/\Ao=R.s.R.wh/\Ag=R.s.F.wD/\Ac=R.s.F.wY/\Ad=R.s.F.wd/\Aa=R.s.b/\Ab=R.s.n/\w5k=R.s.k/\w5v=R.s.v/\w1=R.s.l/\w3=R.s.r/\w4=R.s.p)/\
(decide (18446744069414584321<=p1.wAM)=false->
(([]:List Int)=([]:List Int))/\(w4.length=w4.length)/\(w3.length=w3.length)/\(w1.length=w1.length)/\((∃c:Nat,c+p1.Txs.length<=790/\PI (PS.mk (wF.mk Ah Af Ai Aj Ak Al Ae Am Ao) (wE.mk Ag Ac Ad) Aa Ab w1 w3 w4 w5k w5v) c 0)/\BR' p1/\([]:List Int)=[])/\let r2:=blkS (PS.mk (wF.mk Ah Af Ai Aj Ak Al Ae Am Ao) (wE.mk Ag Ac Ad) Aa Ab w1 w3 w4 w5k w5v) ([]:List Int) p1
 let r3:=(blkS (PS.mk (wF.mk Ah Af Ai Aj Ak Al Ae Am Ao) (wE.mk Ag Ac Ad) Aa Ab w1 w3 w4 w5k w5v) ([]:List Int) p1).s
((r2.e !=0)=true->
(r3.p.length=r3.p.length)/\(r3.r.length=r3.r.length)/\(r3.l.length=r3.l.length)/\(r3.v=trs r3.k/\(wN.mk Ag Ac Ad (w1.length:Int) r2.m Aa Ab).marks.length<=1000000/\0<=(wN.mk Ag Ac Ad (w1.length:Int) r2.m Aa Ab).leaves/\(wN.mk Ag Ac Ad (w1.length:Int) r2.m Aa Ab).leaves<=(r3.l.length:Int))/\let r4:=wN.mk Ag Ac Ad (w1.length:Int) r2.m Aa Ab
 let r5:Int:=((wN.mk Ag Ac Ad (w1.length:Int) r2.m Aa Ab).leaves.toNat:Int)
 let r6:List Int:=((remS (wN.mk Ag Ac Ad (w1.length:Int) r2.m Aa Ab).marks r3.k).2)
 let r7:List Bool:=(trs (remS (wN.mk Ag Ac Ad (w1.length:Int) r2.m Aa Ab).marks r3.k).2)
(0:Int).toNat=0/\r5.toNat<=r3.l.length/\r3.r.length=r3.r.length/\r3.p.length=r3.p.length/\(r3.p.length=r3.p.length)/\(r3.r.length=r3.r.length)/\((r3.l.take r5.toNat).length=(r3.l.take r5.toNat).length)/\r2.e=R.e/\r3.R.wm=R.s.R.wm/\r3.R.wD=R.s.R.wD/\r3.R.wJ=R.s.R.wJ/\r3.R.wI=R.s.R.wI/\r3.R.wG=R.s.R.wG/\r3.R.wP=R.s.R.wP/\r3.R.wU=R.s.R.wU/\r3.R.wO=R.s.R.wO/\r3.R.wh=R.s.R.wh/\r4.wAV=R.s.F.wD/\r4.wAU=R.s.F.wY/\r4.wAX=R.s.F.wd/\r4.wAQ=R.s.b/\r4.hidden=R.s.n/\r6=R.s.k/\r7=R.s.v/\r3.l.take r5.toNat=R.s.l/\r3.r=R.s.r/\r3.p=R.s.p)/\
((r2.e !=0)=false->
 let v8:List wN:=[wN.mk Ag Ac Ad (w1.length:Int) r2.m Aa Ab]
 r3.p.length=r3.p.length/\v8.length=v8.length/\(r3.p.length+v8.length)*104<=140737488355328/\r3.p.length+v8.length<=maxLen/\(FV r3.F)/\r3.r.length=r3.r.length/\[(rootF r3.F)].length=[(rootF r3.F)].length/\(r3.r.length+[(rootF r3.F)].length)*8<=140737488355328/\r3.r.length+[(rootF r3.F)].length<=maxLen/\((r3.p++v8).length=(r3.p++v8).length)/\((r3.r++[(rootF r3.F)]).length=(r3.r++[(rootF r3.F)]).length)/\(r3.l.length=r3.l.length)/\0=R.e/\r3.R.wm=R.s.R.wm/\r3.R.wD=R.s.R.wD/\r3.R.wJ=R.s.R.wJ/\r3.R.wI=R.s.R.wI/\r3.R.wG=R.s.R.wG/\r3.R.wP=R.s.R.wP/\r3.R.wU=R.s.R.wU/\r3.R.wO=R.s.R.wO/\r3.R.wh=R.s.R.wh/\r3.F.wD=R.s.F.wD/\r3.F.wY=R.s.F.wY/\r3.F.wd=R.s.F.wd/\r3.b=R.s.b/\r3.n=R.s.n/\r3.k=R.s.k/\r3.v=R.s.v/\r3.l=R.s.l/\r3.r++[(rootF r3.F)]=R.s.r/\r3.p++v8=R.s.p)))) (by kernel_rfl)<|by
 rintro p1 Ah Af Ai Aj Ak Al Ae Am Ao Ag Ac Ad Aa Ab w1 w3 w4 w5k w5v h R hR
 obtain⟨⟨c,hc,hp⟩,hb⟩:=h
 have hB:=blkS_BI hp (by omega) hb
 have hml:=blkS_ml (PS.mk (wF.mk Ah Af Ai Aj Ak Al Ae Am Ao) (wE.mk Ag Ac Ad) Aa Ab w1 w3 w4 w5k w5v) p1
 have hQ:=kgq hB hp.v
 have hpl:w4.length<=c:=hp.p
 have hrl:w3.length=w4.length+1:=hp.rl
 unfold applyS at hR
 generalize hx:blkS (PS.mk (wF.mk Ah Af Ai Aj Ak Al Ae Am Ao) (wE.mk Ag Ac Ad) Aa Ab w1 w3 w4 w5k w5v) [] p1=x at hB hml hQ hR
 simp only at hR
 have ei:i64.wrap ((w4.length:Int)+1)=(w4.length:Int)+1:=kh _ (by omega) (by omega)
 rw[ei]
 refine⟨fun e=> ?_,fun e=>⟨fun e2=> ?_,fun e2=>⟨(by first|exact rfl|exact True.intro),rfl,rfl,rfl,⟨⟨c,hc,hp⟩,hb,rfl⟩,fun e3=> ?_,fun e3=> ?_⟩⟩⟩
 ·have e:p1.wS≠(w4.length:Int)+1:=by simpa using e
  rw[if_pos e]at hR
  subst hR
  exact(by repeat' first|apply And.intro|exact rfl|exact True.intro)
 ·have e:¬p1.wS≠(w4.length:Int)+1:=by simpa using e
  rw[if_neg e,if_pos (of_decide_eq_true e2)]at hR
  subst hR
  exact(by repeat' first|apply And.intro|exact rfl|exact True.intro)
 ·have e:¬p1.wS≠(w4.length:Int)+1:=by simpa using e
  have e3:x.e≠0:=by simpa using e3
  rw[if_neg e,if_neg (of_decide_eq_false e2),if_pos e3]at hR
  subst hR
  obtain⟨y,hy⟩:=hB.l
  have hy:x.s.l=w1++y:=hy
  have hR2:x.s.R=wF.mk Ah Af Ai Aj Ak Al Ae Am Ao:=hB.R
  have hk2:(remS x.m x.s.k).2=w5k:=congrArg PS.k hQ
  have hv2:trs (remS x.m x.s.k).2=w5v:=congrArg PS.v hQ
  have hl2:x.s.l.take w1.length=w1:=by rw[hy];exact List.take_left
  have hr2:x.s.r=w3:=hB.r
  have hp2:x.s.p=w4:=hB.p
  refine⟨rfl,rfl,rfl,⟨hB.v,?_,?_,?_⟩,?_⟩
  ·show x.m.length<=1000000
   omega
  ·show(0:Int)<=(w1.length:Int)
   omega
  ·show(w1.length:Int)<=(x.s.l.length:Int)
   rw[hy,List.length_append]
   omega
  ·simp only[Int.toNat_natCast]
   rw[hR2,hk2,hl2,hr2,hp2]
   rw[hk2]at hv2
   refine⟨(by first|exact rfl|exact True.intro),?_,?_⟩
   ·rw[hy,List.length_append]
    omega
   ·rw[hv2]
    exact(by repeat' first|apply And.intro|exact rfl|exact True.intro)
 ·have e:¬p1.wS≠(w4.length:Int)+1:=by simpa using e
  have e3:x.e=0:=by simpa using e3
  rw[if_neg e,if_neg (of_decide_eq_false e2),if_neg (fun hh=>hh e3)]at hR
  subst hR
  have hr2:x.s.r=w3:=hB.r
  have hp2:x.s.p=w4:=hB.p
  have hR2:x.s.R=wF.mk Ah Af Ai Aj Ak Al Ae Am Ao:=hB.R
  have hfv:FV x.s.F:=by
   rw[hB.F]
   exact frF_FV (by rw[hR2];exact hp.d1) (by rw[hR2];exact hp.d2) hB.ll hB.lb
  rw[hr2,hp2]
  refine⟨rfl,rfl,?_,?_,hfv,rfl,rfl,?_,?_,(by repeat' first|apply And.intro|exact rfl|exact True.intro)⟩
  ·simp only[List.length_cons,List.length_nil];omega
  ·simp only[List.length_cons,List.length_nil];unfold maxLen;omega
  ·simp only[List.length_cons,List.length_nil];omega
  ·simp only[List.length_cons,List.length_nil];unfold maxLen;omega
noncomputable def kbc:Con TB.den:= .t ⟨16,[.one (.ptr 0 0)],[.cells [zqi,zqi,zqi,zqi,zqi,zqu,zqi,zqi,zqu,zqi,zqi,zql,.row 1,.ptr 2 0,.d (.sl (.st 8)),zqu,.row 3,.row 4],.vec yqu,.cells [.mp 5],.vec yqu,.vec (.st 9),.map yqu (.bool)],(.one (.one (zqu))),[.cells [zqi,zqi,zqi,zqi,zqi,zqu,zqi,zqi,zqu,zqi,zqi,zql,.row 1,.ptr 2 0,.d (.sl (.st 8)),zqu,.row 3,.row 4],.vec yqu,.cells [.mp 5],.vec yqu,.vec (.st 9),.map yqu (.bool)],false⟩ [yqi,yqi,yqi,yqi,yqi,yqu,yqi,yqi,yqu,yqi,yqi,.sl yqu,.sl (.st 8),yqu,.sl yqu,.sl yqu,.sl (.st 9),.sl yqu,.sl (.bool)] [yqu,yqi,yqi,yqi,yqi,yqi,yqu,yqi,yqi,yqu,yqi,yqi,.sl yqu,.sl (.st 8),yqu,.sl yqu,.sl yqu,.sl (.st 9),.sl yqu,.sl (.bool)] [] fun(Ah Af Ai Aj Ak Al Ae Am Ao Ag Ac:Int) (Ad:List Int) (Aa:List wA) (Ab:Int) (w1 w3:List Int) (w4:List wN) (w5k:List Int) (w5v:List Bool)=>(Ab,Ah,Af,Ai,Aj,Ak,Al,Ae,Am,Ao,Ag,Ac,Ad,Aa,Ab,w1,w3,w4,w5k,w5v,())
theorem k5z:kbc.Ok Tryz.prog TB:=ptv Bs Tryz.func16 .no c0 (Q:=∀(Ah Af Ai Aj Ak Al Ae Am Ao Ag Ac:Int) (Ad:List Int) (Aa:List wA) (Ab:Int) (w1 w3:List Int) (w4:List wN) (w5k:List Int) (w5v:List Bool),∀r0:Int,Ab=r0->∀Av:Int,Ah=Av->∀Aw:Int,Af=Aw->∀Ax:Int,Ai=Ax->∀Ay:Int,Aj=Ay->∀Az:Int,Ak=Az->∀A0:Int,Al=A0->∀A1:Int,Ae=A1->∀A3:Int,Am=A3->∀A4:Int,Ao=A4->∀A5:Int,Ag=A5->∀Ap:Int,Ac=Ap->∀Aq:List Int,Ad=Aq->∀As:List wA,Aa=As->∀At:Int,Ab=At->∀e1:List Int,w1=e1->∀e3:List Int,w3=e3->∀e4:List wN,w4=e4->∀e5k:List Int,w5k=e5k->∀e5v:List Bool,w5v=e5v-> 
(w4.length=w4.length)/\(w3.length=w3.length)/\(w1.length=w1.length)/\Ab=r0/\Ah=Av/\Af=Aw/\Ai=Ax/\Aj=Ay/\Ak=Az/\Al=A0/\Ae=A1/\Am=A3/\Ao=A4/\Ag=A5/\Ac=Ap/\Ad=Aq/\Aa=As/\Ab=At/\w1=e1/\w3=e3/\w4=e4/\w5k=e5k/\w5v=e5v) (by kernel_rfl)<|by
 rintro Ah Af Ai Aj Ak Al Ae Am Ao Ag Ac Ad Aa Ab w1 w3 w4 w5k w5v _ rfl _ rfl _ rfl _ rfl _ rfl _ rfl _ rfl _ rfl _ rfl _ rfl _ rfl _ rfl _ rfl _ rfl _ rfl _ rfl _ rfl _ rfl _ rfl _ rfl
 exact(by repeat' first|apply And.intro|exact rfl|exact True.intro)
noncomputable def k8d:Con TB.den:= .g ⟨67,[.one (.row 0)],[.vec yqu],(.one (.one (.row 1))),[.vec yqu,.vec yqu],false⟩ [.sl yqu] [.sl yqu,.sl yqu] [] fun(w0:List Int)=>(w0.length<=1000000,w0,w0,())
theorem k9s:k8d.Ok Tryz.prog TB:=prx Bs [5,7] Tryz.func67 (.r 0 (.nd [] (.r 0 (.nd [] (.r 0 (.rt [.rnil 2 yqu])) [] .no)) [] .no)) x0 c0 (Q:=∀(w0:List Int),(w0.length<=1000000)->∀e0:List Int,w0=e0->∀e1:List Int,w0=e1-> 
 ∀z4:Bool,(z4=true->w0.length=0)->(z4=true->
(0=([]:List Int).length)/\w0=e0/\([]:List Int)=e1)/\
(z4=false->
([]:List Int).length=([]:List Int).length/\w0.length=w0.length/\(([]:List Int).length+w0.length)*8<=140737488355328/\([]:List Int).length+w0.length<=maxLen/\((([]:List Int)++w0).length=(([]:List Int)++w0).length)/\w0=e0/\([]:List Int)++w0=e1)) (by kernel_rfl)<|by
 rintro w0 h _ rfl _ rfl
 exact fun z hz=>⟨fun e=>⟨rfl,rfl,(List.eq_nil_of_length_eq_zero (hz e)).symm⟩,fun e=>⟨rfl,rfl,by simp;omega,by simp;unfold maxLen;omega,rfl,rfl,rfl⟩⟩
noncomputable def kb1:Con TB.den:= .g ⟨33,[.one (.ptr 0 0)],[.cells [zqi,zqi,zqi,zqi,zqi,zqu,zqi,zqi,zqu,zqi,zqi,zql,.row 1,.ptr 2 0,.d (.sl (.st 8)),zqu,.row 3,.row 4],.vec yqu,.cells [.mp 5],.vec yqu,.vec (.st 9),.map yqu (.bool)],(.one (.one (zql))),[.cells [zqi,zqi,zqi,zqi,zqi,zqu,zqi,zqi,zqu,zqi,zqi,zql,.row 1,.ptr 2 0,.d (.sl (.st 8)),zqu,.row 3,.row 4],.vec yqu,.cells [.mp 5],.vec yqu,.vec (.st 9),.map yqu (.bool)],false⟩ [yqi,yqi,yqi,yqi,yqi,yqu,yqi,yqi,yqu,yqi,yqi,.sl yqu,.sl (.st 8),yqu,.sl yqu,.sl yqu,.sl (.st 9),.sl yqu,.sl (.bool)] [.sl yqu,yqi,yqi,yqi,yqi,yqi,yqu,yqi,yqi,yqu,yqi,yqi,.sl yqu,.sl (.st 8),yqu,.sl yqu,.sl yqu,.sl (.st 9),.sl yqu,.sl (.bool)] [] fun(Ah Af Ai Aj Ak Al Ae Am Ao Ag Ac:Int) (Ad:List Int) (Aa:List wA) (Ab:Int) (w1 w3:List Int) (w4:List wN) (w5k:List Int) (w5v:List Bool)=>(w1.length<=1000000,w1,Ah,Af,Ai,Aj,Ak,Al,Ae,Am,Ao,Ag,Ac,Ad,Aa,Ab,w1,w3,w4,w5k,w5v,())
theorem k5y:kb1.Ok Tryz.prog TB:=prv Bs Tryz.func33 (.r 1 (.rt [.frz 6 [2]])) (k9s.c c0) (Q:=∀(Ah Af Ai Aj Ak Al Ae Am Ao Ag Ac:Int) (Ad:List Int) (Aa:List wA) (Ab:Int) (w1 w3:List Int) (w4:List wN) (w5k:List Int) (w5v:List Bool),(w1.length<=1000000)->∀r0:List Int,w1=r0->∀Av:Int,Ah=Av->∀Aw:Int,Af=Aw->∀Ax:Int,Ai=Ax->∀Ay:Int,Aj=Ay->∀Az:Int,Ak=Az->∀A0:Int,Al=A0->∀A1:Int,Ae=A1->∀A3:Int,Am=A3->∀A4:Int,Ao=A4->∀A5:Int,Ag=A5->∀Ap:Int,Ac=Ap->∀Aq:List Int,Ad=Aq->∀As:List wA,Aa=As->∀At:Int,Ab=At->∀e1:List Int,w1=e1->∀e3:List Int,w3=e3->∀e4:List wN,w4=e4->∀e5k:List Int,w5k=e5k->∀e5v:List Bool,w5v=e5v-> 
(w1.length=w1.length)/\(w1.length<=1000000)/\(w1.length=w1.length)/\(w4.length=w4.length)/\(w3.length=w3.length)/\(w1.length=w1.length)/\w1=r0/\Ah=Av/\Af=Aw/\Ai=Ax/\Aj=Ay/\Ak=Az/\Al=A0/\Ae=A1/\Am=A3/\Ao=A4/\Ag=A5/\Ac=Ap/\Ad=Aq/\Aa=As/\Ab=At/\w1=e1/\w3=e3/\w4=e4/\w5k=e5k/\w5v=e5v) (by kernel_rfl)<|by
 rintro Ah Af Ai Aj Ak Al Ae Am Ao Ag Ac Ad Aa Ab w1 w3 w4 w5k w5v h _ rfl _ rfl _ rfl _ rfl _ rfl _ rfl _ rfl _ rfl _ rfl _ rfl _ rfl _ rfl _ rfl _ rfl _ rfl _ rfl _ rfl _ rfl _ rfl _ rfl
 exact⟨rfl,h,(by repeat' first|apply And.intro|exact rfl|exact True.intro)⟩
noncomputable def k5b:Con TB.den:= .gp 38 [.sl (.st 8)] [.sl (.st 8)] [] fun(p0:List wA)=>(p0.length<=100000,p0,())
theorem k5m:k5b.Ok Tryz.prog TB:=qrv Bs Tryz.func38 .no c0 (Q:=∀(p0:List wA),(p0.length<=100000)->∀r0:List wA,p0=r0-> 
 ∀z4:Bool,(z4=true->p0=[])->(z4=true->
([]:List wA)=r0)/\
(z4=false->
(([]:List wA).length+p0.length)*24<=140737488355328/\([]:List wA).length+p0.length<=maxLen/\([]:List wA)++p0=r0)) (by kernel_rfl)<|by
 rintro p0 h _ rfl
 exact fun z hz=>⟨fun h=>(hz h).symm,fun _=>⟨by simp;omega,by simp;unfold maxLen;omega,rfl⟩⟩
noncomputable def kb7:Con TB.den:= .g ⟨15,[.one (.ptr 0 0)],[.cells [zqi,zqi,zqi,zqi,zqi,zqu,zqi,zqi,zqu,zqi,zqi,zql,.row 1,.ptr 2 0,.d (.sl (.st 8)),zqu,.row 3,.row 4],.vec yqu,.cells [.mp 5],.vec yqu,.vec (.st 9),.map yqu (.bool)],(.one (.agg [.d (.sl (.st 8))])),[.cells [zqi,zqi,zqi,zqi,zqi,zqu,zqi,zqi,zqu,zqi,zqi,zql,.row 1,.ptr 2 0,.d (.sl (.st 8)),zqu,.row 3,.row 4],.vec yqu,.cells [.mp 5],.vec yqu,.vec (.st 9),.map yqu (.bool)],false⟩ [yqi,yqi,yqi,yqi,yqi,yqu,yqi,yqi,yqu,yqi,yqi,.sl yqu,.sl (.st 8),yqu,.sl yqu,.sl yqu,.sl (.st 9),.sl yqu,.sl (.bool)] [.st 12,yqi,yqi,yqi,yqi,yqi,yqu,yqi,yqi,yqu,yqi,yqi,.sl yqu,.sl (.st 8),yqu,.sl yqu,.sl yqu,.sl (.st 9),.sl yqu,.sl (.bool)] [] fun(Ah Af Ai Aj Ak Al Ae Am Ao Ag Ac:Int) (Ad:List Int) (Aa:List wA) (Ab:Int) (w1 w3:List Int) (w4:List wN) (w5k:List Int) (w5v:List Bool)=>(Aa.length<=100000,(wl.mk Aa:wl),Ah,Af,Ai,Aj,Ak,Al,Ae,Am,Ao,Ag,Ac,Ad,Aa,Ab,w1,w3,w4,w5k,w5v,())
theorem k5p:kb7.Ok Tryz.prog TB:=prv Bs Tryz.func15 .no (k5m.c c0) (Q:=∀(Ah Af Ai Aj Ak Al Ae Am Ao Ag Ac:Int) (Ad:List Int) (Aa:List wA) (Ab:Int) (w1 w3:List Int) (w4:List wN) (w5k:List Int) (w5v:List Bool),(Aa.length<=100000)->∀r0:wl,wl.mk Aa=r0->∀Av:Int,Ah=Av->∀Aw:Int,Af=Aw->∀Ax:Int,Ai=Ax->∀Ay:Int,Aj=Ay->∀Az:Int,Ak=Az->∀A0:Int,Al=A0->∀A1:Int,Ae=A1->∀A3:Int,Am=A3->∀A4:Int,Ao=A4->∀A5:Int,Ag=A5->∀Ap:Int,Ac=Ap->∀Aq:List Int,Ad=Aq->∀As:List wA,Aa=As->∀At:Int,Ab=At->∀e1:List Int,w1=e1->∀e3:List Int,w3=e3->∀e4:List wN,w4=e4->∀e5k:List Int,w5k=e5k->∀e5v:List Bool,w5v=e5v-> 
(Aa.length<=100000)/\(w4.length=w4.length)/\(w3.length=w3.length)/\(w1.length=w1.length)/\Aa=r0.wB/\Ah=Av/\Af=Aw/\Ai=Ax/\Aj=Ay/\Ak=Az/\Al=A0/\Ae=A1/\Am=A3/\Ao=A4/\Ag=A5/\Ac=Ap/\Ad=Aq/\Aa=As/\Ab=At/\w1=e1/\w3=e3/\w4=e4/\w5k=e5k/\w5v=e5v) (by kernel_rfl)<|by
 rintro Ah Af Ai Aj Ak Al Ae Am Ao Ag Ac Ad Aa Ab w1 w3 w4 w5k w5v h _ rfl _ rfl _ rfl _ rfl _ rfl _ rfl _ rfl _ rfl _ rfl _ rfl _ rfl _ rfl _ rfl _ rfl _ rfl _ rfl _ rfl _ rfl _ rfl _ rfl
 exact⟨h,(by repeat' first|apply And.intro|exact rfl|exact True.intro)⟩
noncomputable def kdu:Con TB.den:= .g ⟨30,[.one (.ptr 0 0)],[.cells [zqi,zqi,zqi,zqi,zqi,zqu,zqi,zqi,zqu,zqi,zqi,zql,.row 1,.ptr 2 0,.d (.sl (.st 8)),zqu,.row 3,.row 4],.vec yqu,.cells [.mp 5],.vec yqu,.vec (.st 9),.map yqu (.bool)],(.one (.one (zqu))),[.cells [zqi,zqi,zqi,zqi,zqi,zqu,zqi,zqi,zqu,zqi,zqi,zql,.row 1,.ptr 2 0,.d (.sl (.st 8)),zqu,.row 3,.row 4],.vec yqu,.cells [.mp 5],.vec yqu,.vec (.st 9),.map yqu (.bool)],false⟩ [yqi,yqi,yqi,yqi,yqi,yqu,yqi,yqi,yqu,yqi,yqi,.sl yqu,.sl (.st 8),yqu,.sl yqu,.sl yqu,.sl (.st 9),.sl yqu,.sl (.bool)] [yqu,yqi,yqi,yqi,yqi,yqi,yqu,yqi,yqi,yqu,yqi,yqi,.sl yqu,.sl (.st 8),yqu,.sl yqu,.sl yqu,.sl (.st 9),.sl yqu,.sl (.bool)] [] fun(Ah Af Ai Aj Ak Al Ae Am Ao Ag Ac:Int) (Ad:List Int) (Aa:List wA) (Ab:Int) (w1 w3:List Int) (w4:List wN) (w5k:List Int) (w5v:List Bool)=>(w3.length<=1000000,((if w3=[]then 0 else ix w3 ((w3.length:Int)-1)):Int),Ah,Af,Ai,Aj,Ak,Al,Ae,Am,Ao,Ag,Ac,Ad,Aa,Ab,w1,w3,w4,w5k,w5v,())
theorem k7s:kdu.Ok Tryz.prog TB:=prv Bs Tryz.func30 .no c0 (Q:=∀(Ah Af Ai Aj Ak Al Ae Am Ao Ag Ac:Int) (Ad:List Int) (Aa:List wA) (Ab:Int) (w1 w3:List Int) (w4:List wN) (w5k:List Int) (w5v:List Bool),(w3.length<=1000000)->∀r0:Int,((if w3=[]then 0 else ix w3 ((w3.length:Int)-1)):Int)=r0->∀Av:Int,Ah=Av->∀Aw:Int,Af=Aw->∀Ax:Int,Ai=Ax->∀Ay:Int,Aj=Ay->∀Az:Int,Ak=Az->∀A0:Int,Al=A0->∀A1:Int,Ae=A1->∀A3:Int,Am=A3->∀A4:Int,Ao=A4->∀A5:Int,Ag=A5->∀Ap:Int,Ac=Ap->∀Aq:List Int,Ad=Aq->∀As:List wA,Aa=As->∀At:Int,Ab=At->∀e1:List Int,w1=e1->∀e3:List Int,w3=e3->∀e4:List wN,w4=e4->∀e5k:List Int,w5k=e5k->∀e5v:List Bool,w5v=e5v-> 
(((w3.length:Int)==0)=true->
(w4.length=w4.length)/\(w3.length=w3.length)/\(w1.length=w1.length)/\0=r0/\Ah=Av/\Af=Aw/\Ai=Ax/\Aj=Ay/\Ak=Az/\Al=A0/\Ae=A1/\Am=A3/\Ao=A4/\Ag=A5/\Ac=Ap/\Ad=Aq/\Aa=As/\Ab=At/\w1=e1/\w3=e3/\w4=e4/\w5k=e5k/\w5v=e5v)/\
(((w3.length:Int)==0)=false->
(0<=i64.wrap ((w3.length:Int)-1)/\i64.wrap ((w3.length:Int)-1)<(w3.length:Int))/\(0<=i64.wrap ((w3.length:Int)-1)/\i64.wrap ((w3.length:Int)-1)<(w3.length:Int))/\let v1:Int:=ix w3 (i64.wrap ((w3.length:Int)-1))
(w4.length=w4.length)/\(w3.length=w3.length)/\(w1.length=w1.length)/\v1=r0/\Ah=Av/\Af=Aw/\Ai=Ax/\Aj=Ay/\Ak=Az/\Al=A0/\Ae=A1/\Am=A3/\Ao=A4/\Ag=A5/\Ac=Ap/\Ad=Aq/\Aa=As/\Ab=At/\w1=e1/\w3=e3/\w4=e4/\w5k=e5k/\w5v=e5v)) (by kernel_rfl)<|by
 rintro Ah Af Ai Aj Ak Al Ae Am Ao Ag Ac Ad Aa Ab w1 w3 w4 w5k w5v h _ rfl _ rfl _ rfl _ rfl _ rfl _ rfl _ rfl _ rfl _ rfl _ rfl _ rfl _ rfl _ rfl _ rfl _ rfl _ rfl _ rfl _ rfl _ rfl _ rfl
 refine⟨fun e=> ?_,fun e=> ?_⟩
 ·have e:w3=[]:=by simpa using e
  rw[if_pos e]
  exact(by repeat' first|apply And.intro|exact rfl|exact True.intro)
 ·have e:¬w3=[]:=by simpa using e
  have hne:1<=w3.length:=List.length_pos_iff.2 e
  rw[if_neg e,kh _ (by omega) (by omega)]
  exact⟨⟨by omega,by omega⟩,⟨by omega,by omega⟩,(by repeat' first|apply And.intro|exact rfl|exact True.intro)⟩
noncomputable def kau:Con TB.den:= .gp 53 [yqi] [.st 5] [] fun(p0:Int)=>(1<=p0/\p0<=12,(frF p0 []:wE),())
theorem k5r:kau.Ok Tryz.prog TB:=qrv Bs Tryz.func53 (.r 0 (.nd [] (.jn ⟨[],[],[8],[.one (.d (.bool))],[]⟩ [] .no [] .no) [] (.r 0 (.rt [.frzc 1 0 2])))) c0 (Q:=∀(p0:Int),(1<=p0/\p0<=12)->∀r0:wE,(frF p0 [])=r0-> 
 ∀J1:Bool->Prop,(∀(b1:Bool),
((b1=true->
 0=r0.wD/\0=r0.wY/\([]:List Int)=r0.wd)/\
(b1=false->
 0<=i64.wrap (p0+1)/\i64.wrap (p0+1)<=i64.wrap (p0+1)/\((i64.wrap (p0+1)).toNat*8<=140737488355328)/\((i64.wrap (p0+1)).toNat<=maxLen)/\((i64.wrap (p0+1)).toNat=(List.replicate ((i64.wrap (p0+1)).toNat) (0:Int)).length)/\p0=r0.wD/\0=r0.wY/\List.replicate ((i64.wrap (p0+1)).toNat) (0:Int)=r0.wd))->J1 b1)->
(decide (p0<1)=true->
 J1 true)/\
(decide (p0<1)=false->
 J1 (decide (12<p0)))) (by kernel_rfl)<|by
 rintro p0 h _ rfl
 refine fun J1 j=>⟨fun e=>(by have:=of_decide_eq_true e;omega),fun e=> ?_⟩
 refine j _ ⟨fun e=>(by have:=of_decide_eq_true e;omega),fun _=> ?_⟩
 obtain⟨d,rfl⟩:=Int.eq_ofNat_of_zero_le (show 0<=p0 by omega)
 rw[kh _ (by omega) (by omega)]
 have e2:((d:Int)+1).toNat=d+1:=by omega
 rw[e2]
 refine⟨by omega,by omega,by omega,by unfold maxLen;omega,by simp,rfl,rfl,?_⟩
 show _=leftS (d:Int).toNat []
 rw[Int.toNat_natCast]
 refine(List.eq_replicate_iff.2 ⟨k1u _ _,fun x hx=> ?_⟩).symm
 obtain⟨i,hi,rfl⟩:=List.mem_map.1 hx
 have:bitN ([]:List Int).length i=false:=by simp[bitN]
 rw[if_neg (by rw[this];decide)]
noncomputable def kbw:Con TB.den:= .t ⟨54,[],[],(.one (.one (.ptr 0 0))),[.cells [.mp 1],.map yqu (.bool)],false⟩ [] [.sl yqu,.sl (.bool)] [] (([]:List Int),([]:List Bool),())
theorem k6i:kbw.Ok Tryz.prog TB:=ptv Bs Tryz.func54 .no c0 (Q:=∀e1k:List Int,([]:List Int)=e1k->∀e1v:List Bool,([]:List Bool)=e1v-> 
([]:List Int)=e1k/\([]:List Bool)=e1v) (by kernel_rfl)<|by
 rintro _ rfl _ rfl
 exact⟨rfl,rfl⟩
noncomputable def k8k:Con TB.den:= .tp 80 [.st 4] [.bool] [] fun(p0:wAH)=>((prS p0:Bool),())
theorem k96:k8k.Ok Tryz.prog TB:=qtv Bs Tryz.func80 (.r 0 (.jn ⟨[],[],[3],[.one (.d (.bool))],[]⟩ [] .no [] (.jn ⟨[],[],[4],[.one (.d (.bool))],[]⟩ [] .no [] .no))) c0 (Q:=∀(p0:wAH),∀r0:Bool,prS p0=r0-> 
 ∀J1:Bool->Prop,(∀(b1:Bool),
(∀J2:Bool->Prop,(∀(f1:Bool),
((b1=true->
(f1=true->
(decide (1<=p0.wAS)=true->
 decide (p0.wAS<=64)=r0)/\
(decide (1<=p0.wAS)=false->
 false=r0))/\
(f1=false->
 false=r0))/\
(b1=false->
 false=r0))->J2 f1)->
((p0.wAN==1)=true->
 J2 true)/\
((p0.wAN==1)=false->
((p0.wAN==2)=true->
 J2 true)/\
((p0.wAN==2)=false->
((p0.wAN==4)=true->
 J2 true)/\
((p0.wAN==4)=false->
 J2 (p0.wAN==8)))))->J1 b1)->
(decide (2<=p0.wAT)=true->
(decide (p0.wAT<=256)=true->
 let v1:Int:=iand .i64 p0.wAT (i64.wrap (p0.wAT-1))
 J1 (v1==0))/\
(decide (p0.wAT<=256)=false->
 J1 false))/\
(decide (2<=p0.wAT)=false->
 J1 false)) (by kernel_rfl)<|by
 rintro p0 _ rfl
 have hb4:pws 4 1 p0.wAN=((p0.wAN==1)||(p0.wAN==2)||(p0.wAN==4)||(p0.wAN==8)):=by simp[pws,List.range_succ,Bool.or_assoc]
 intro J1 j1
 have j1:∀a,a=pws 8 2 p0.wAT->J1 a:=by
  intro a ha
  refine j1 _ fun J2 j2=> ?_
  have j2:∀b,b=pws 4 1 p0.wAN->J2 b:=by
   intro b hb
   refine j2 _ ?_
   unfold prS
   rw[<-ha,<-hb]
   refine⟨fun e=>⟨fun e2=>⟨fun e3=> ?_,fun e3=> ?_⟩,fun e2=> ?_⟩,fun e=> ?_⟩
   ·rw[e,e2,e3];simp
   ·rw[e,e2,e3];simp
   ·rw[e,e2];simp
   ·rw[e];simp
  refine⟨fun e=>j2 _ ?_,fun e=>⟨fun e2=>j2 _ ?_,fun e2=>⟨fun e3=>j2 _ ?_,fun e3=>j2 _ ?_⟩⟩⟩
  ·rw[hb4,e];rfl
  ·rw[hb4,e,e2];rfl
  ·rw[hb4,e,e2,e3];rfl
  ·rw[hb4,e,e2,e3];rfl
 refine⟨fun e=>⟨fun e2=> ?_,fun e2=>j1 _ ?_⟩,fun e=>j1 _ ?_⟩
 ·have e:=of_decide_eq_true e
  have e2:=of_decide_eq_true e2
  obtain⟨b,hb⟩:=Int.eq_ofNat_of_zero_le (show 0<=p0.wAT by omega)
  refine j1 _ ?_
  rw[hb,kh _ (by omega) (by omega)]
  exact pws_and b (by omega)
 ·have e2:=of_decide_eq_false e2
  cases hq:pws 8 2 p0.wAT with
  |false=>rfl
  |true=>have:=kew hq (by decide);simp at this;omega
 ·have e:=of_decide_eq_false e
  cases hq:pws 8 2 p0.wAT with
  |false=>rfl
  |true=>have:=kew hq (by decide);simp at this;omega
end Go.Proofs.YtlfcebhnjkcmnaaGreat
end
