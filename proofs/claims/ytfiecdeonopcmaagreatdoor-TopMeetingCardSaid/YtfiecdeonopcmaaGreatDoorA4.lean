/- Parts of the proofs, merged by a program. -/
import Derived.Test.YtfiecdeonopcmaaGreatDoorA3
set_option maxRecDepth 100000
set_option linter.all false
noncomputable section
namespace Go.Md
open Go Go.Bv
theorem ix_nat{α:Type}[Inhabited α](l:List α)(i:Int)(B:0<=i)(h1:i<l.length):ix l i=l[i.toNat]' qqo:=by
 have:i.toNat<l.length:=by omega
 simp[ix,this]
theorem ix_mem{α:Type}[Inhabited α](l:List α)(i:Int)(B:0<=i)(h1:i<l.length):ix l i∈l:=by rw[ix_nat l i B h1];exact qz _
theorem inc(i n:Int)(B:0<=i)(h:i<n)(F:n<=9223372036854775807):IntKind.i64.wrap (i+1)=i+1:=ko _ qqo qqo
theorem wi(n:Int)(B:-9223372036854775808<=n)(h:n<=9223372036854775807):IntKind.i64.wrap n=n:=ko n B qqo
theorem wu(n:Int)(B:0<=n)(h:n<=18446744073709551615):IntKind.u64.wrap n=n:=wrap_u64 n B qqo
theorem tdiv_nn(a b:Int)(h:0<=a):Int.tdiv a b=a/b:=Int.tdiv_eq_ediv_of_nonneg h
theorem tmod_nn(a b:Int)(h:0<=a):Int.tmod a b=a%b:=Int.tmod_eq_emod_of_nonneg h
theorem kg{α:Type}[Inhabited α](l:List α)(i:Int)(B:0<=i)(h1:i<l.length):l.take (i+1).toNat=l.take i.toNat++[ix l i]:=by rw[ix_nat l i B h1,show(i+1).toNat=i.toNat+1 by omega,qt qqo]
theorem drop_ix{α:Type}[Inhabited α](l:List α)(i:Int)(B:0<=i)(h1:i<l.length):l.drop i.toNat=ix l i::l.drop (i+1).toNat:=by rw[ix_nat l i B h1,show(i+1).toNat=i.toNat+1 by omega];exact qbb qqo
theorem kdk{α:Type}(l m:List α)(h:l.length=m.length):rowOver l m l.length=m:=by simp[rowOver,h]
theorem k8r(a m:Int):∀k,(a%m)^k%m=a^k%m
 |0=>by simp|k+1=>by rw[qcp,qcp,qdb,k8r a m k,qdo _ (qew _),<-qdb]
abbrev U64(n:Int):Prop:=0<=n/\n<18446744073709551616
abbrev By(l:Li):Prop:=∀x∈l,0<=x/\x<256
abbrev Us(l:Li):Prop:=∀x∈l,0<=x/\x<18446744073709551616
def dig:Nat->Int->Li
 |0,_=>[]|k+1,n=>n%256::dig k (n/256)
def val:Li->Int
 |[]=>0|x::r=>x+256*val r
@[simp]theorem ke:∀k n,(dig k n).length=k
 |0,_=>rfl|k+1,n=>by simp[dig,ke k]
theorem k2g(k:Nat):(256:Int)^(k+1)=256*256^k:=by rw[qcp,qei]
theorem k1l(k:Nat):(0:Int)<256^k:=Int.pow_pos qqo
theorem k5j:∀k n,dig (k+1) n=dig k n++[n/256^k%256]
 |0,n=>by simp[dig]|k+1,n=>by show n%256::dig (k+1) (n/256)=n%256::dig k (n/256)++_;rw[k5j k (n/256),k2g,qcs qqo];rfl
theorem dig_by:∀k n,By (dig k n)
 |0,_=>by intro x B;cases B|k+1,n=>by
  intro x B;rcases qak.1 B with rfl|B;.omega
  .exact dig_by k _ x B
theorem val_dig:∀k n,0<=n->n<256^k->val (dig k n)=n
 |0,n,B,h=>by simp[dig,val];omega|k+1,n,B,h=>by rw[k2g]at h;simp only[dig,val];rw[val_dig k (n/256) qqo (qfh qqo (by rw[qei];exact h))];omega
theorem k4h(k:Nat):256^k=((2^(8*k):Nat):Int):=by rw[Nat.pow_mul,Int.natCast_pow];rfl
theorem k2k{k m:Nat}(h:k<=m):(256:Int)^k<=256^m:=by rw[k4h,k4h];exact Int.ofNat_le.2 (qcu qqo qqo)
theorem k26:∀l,By l->0<=val l/\val l<256^l.length
 |[],_=>by simp[val]|x::r,h=>by have h1:=k26 r λy B=>h y (by simp[B]);have F:=h x qqs;rw[qx,k2g];simp only[val];omega
theorem dig_val:∀l,By l->dig l.length (val l)=l
 |[],_=>rfl|x::r,h=>by have h1:=dig_val r λy B=>h y (by simp[B]);have F:=h x qqs;simp only[qx,dig,val];rw[show(x+256*val r)%256=x by omega,show(x+256*val r)/256=val r by omega,h1]
theorem k91:∀l x,val (l++[x])=val l+256^l.length*x
 |[],x=>by simp[val]|y::r,x=>by simp only[List.cons_append,val,k91 r x];grind
theorem dig_inj{k:Nat}{a b:Int}(B:0<=a/\a<256^k)(F:0<=b/\b<256^k)(h:dig k a=dig k b):a=b:=by rw[<-val_dig k a B.1 B.2,h,val_dig k b F.1 F.2]
theorem val8(l:Li)(h:By l)(B:l.length<=8):U64 (val l):=by have h1:=k26 l h;have:=k2k B;exact by omega
theorem ior_val(l:Li)(x:Int)(Z:By l)(h8:l.length<8)(U:0<=x/\x<256):ior .u64 (val l) (ishl .u64 x (8*l.length))=val (l++[x]):=by
 have h1:=k26 l Z;rw[k91,knv,show min (8*(l.length:Int)).toNat 64=8*l.length by omega,<-k4h];have F:x*256^l.length+256^l.length<=256*256^l.length:=by have:(x+1)*256^l.length<=256*256^l.length:=Int.mul_le_mul_of_nonneg_right qqo qqo;grind
 have X:(256:Int)*256^l.length<=256^8:=by rw[<-k2g];exact k2k qqo
 have B:0<=x*256^l.length:=qcx U.1 (qcq (k1l _));rw[qdq B qqo];obtain⟨a,J⟩:=qm h1.1;obtain⟨c,M⟩:=qm U.1;have key:=ior_add a c (8*l.length);rw[k4h]at h1 F X B⊢;generalize 2^(8*l.length)=P at*;rw[M]at F B;have e:c*P=((P*c:Nat):Int):=by rw[qeh];exact(qdm _ _).symm
 have Y:(P:Int)*(c:Int)=((P*c:Nat):Int):=(qdm _ _).symm;rw[J,M,e,Y];rw[key qqo qqo];exact Int.natCast_add _ _
def len4(n:Int):Int:=if n<0∨4294967295<n then 0 else n
theorem len4_in{n:Int}(h:0<=n/\n<=4294967295):len4 n=n:=qe qqo
def encL(l:Li):Li:=dig 4 (len4 l.length)++l.flatMap (dig 8)
def encB(l:Li):Li:=dig 4 (len4 l.length)++l
theorem ku(l:Li):(l.flatMap (dig 8)).length=8*l.length:=by induction l with
 |nil=>rfl|cons x r B=>rw[qbe,qi,B,ke,qx];omega
@[simp]theorem km(l:Li):(encL l).length=4+8*l.length:=by rw[encL,qi,ku,ke]
@[simp]theorem k77(l:Li):(encB l).length=4+l.length:=by simp[encB]
theorem By.append{a b:Li}(F:By a)(J:By b):By (a++b):=λx B=>(qae.1 B).elim (F x) (J x)
theorem kee(l:Li):By (l.flatMap (dig 8)):=λx B=>by obtain⟨y,_,F⟩:=qdv.1 B;exact dig_by 8 y x F
theorem encL_by(l:Li):By (encL l):=(dig_by _ _).append (kee l)
theorem encB_by{l:Li}(h:By l):By (encB l):=(dig_by _ _).append h
theorem By.take{l:Li}(h:By l)(n:Nat):By (l.take n):=λx B=>h x (qba B)
theorem By.drop{l:Li}(h:By l)(n:Nat):By (l.drop n):=λx B=>h x (qck B)
def packN:Nat->Li->Li
 |0,_=>[]|n+1,l=>match l with
  |[]=>[]|x::r=>val ((x::r).take 7)::packN n ((x::r).drop 7)
def packS(l:Li):Li:=l.length::packN l.length l
theorem kge:∀n m l,l.length<=n->l.length<=m->packN n l=packN m l
 |0,0,_,_,_=>rfl|0,m+1,[],_,_=>rfl|n+1,0,[],_,_=>rfl|n+1,m+1,[],_,_=>rfl|0,_,_::_,h,_=>by simp at h|n+1,0,_::_,_,h=>by simp at h|n+1,m+1,x::r,h,h'=>by simp only[packN];rw[kge n m _ (by simp at h⊢;omega) (by simp at h'⊢;omega)]
theorem k5e(n:Nat)(l:Li)(h:l.length<=n)(B:l≠[]):packN n l=val (l.take 7)::packN n (l.drop 7):=by cases l with
 |nil=>exact absurd rfl B|cons x r=>cases n with
  |zero=>simp at h|succ n=>show val ((x::r).take 7)::packN n ((x::r).drop 7)=_;rw[kge n (n+1) _ (by simp at h⊢;omega) (by simp at h⊢;omega)]
theorem kek:∀n l,By l->Us (packN n l)
 |0,_,_=>by intro x B;cases B|n+1,[],_=>by intro x B;cases B|n+1,x::r,h=>by
  intro y F;rcases qak.1 F with rfl|F;.exact val8 _ (h.take 7) qqm
  .exact kek n _ (h.drop 7) y F
theorem k3u:∀n l,(packN n l).length<=n
 |0,_=>by simp[packN]|n+1,[]=>by simp[packN]|n+1,x::r=>by simp only[packN,qx];have:=k3u n ((x::r).drop 7);omega
end Go.Md
namespace Go.Md
open Go Go.Bv
def len64(x:Int):Int:=if x=0 then 0 else(Nat.log2 x.toNat+1:Nat)
theorem k74(x:Int)(k:Nat)(h:(2^k:Nat)<=x):len64 (x/(2^k:Nat))+k=len64 x:=by
 obtain⟨n,rfl⟩:=qm (by have:=qcg k;omega:0<=x);have B:=qcg k;have F:2^k<=n:=by omega
 have e:(n:Int)/((2^k:Nat):Int)=((n/2^k:Nat):Int):=(Int.natCast_ediv _ _).symm;have h1:=Nat.div_pos F B;unfold len64;rw[e,qe qqo,qe qqo,qv,qv];have:Nat.log2 n=Nat.log2 (n/2^k)+k:=by
  rw[Nat.log2_eq_iff qqo];have a:=Nat.log2_self_le (n:=n/2^k) qqo;have b:=Nat.lt_log2_self (n:=n/2^k);rw[Nat.le_div_iff_mul_le B]at a;rw[qff B]at b;constructor;.rw[Nat.pow_add];exact a
  .rw[show Nat.log2 (n/2^k)+k+1=Nat.log2 (n/2^k)+1+k by omega,Nat.pow_add];exact b
 omega
theorem khb(y:Int)(h:0<y/\y<18446744073709551616):∃s:Nat,64-len64 y=s/\s<=63/\9223372036854775808<=y*(2^s:Nat)/\y*(2^s:Nat)<18446744073709551616:=by
 obtain⟨n,rfl⟩:=qm (by omega:0<=y);have l:Nat.log2 n<64:=(Nat.log2_lt qqo).2 qqo;have a:=Nat.log2_self_le (n:=n) qqo;have b:=Nat.lt_log2_self (n:=n);refine⟨63-Nat.log2 n,?_,by omega,?_,?_⟩;.unfold len64;rw[qe qqo,qv];omega
 .have:2^63<=n*2^(63-Nat.log2 n):=by rw[show 63=Nat.log2 n+(63-Nat.log2 n)by omega,Nat.pow_add,show Nat.log2 n+(63-Nat.log2 n)-Nat.log2 n=63-Nat.log2 n by omega];exact qbh _ a
  omega
 .have:n*2^(63-Nat.log2 n)<2^64:=by rw[show 64=Nat.log2 n+1+(63-Nat.log2 n)by omega,Nat.pow_add];exact Nat.mul_lt_mul_of_pos_right b (qcg _)
  omega
def tab8:ByteArray:=⟨#[0,1,2,2,3,3,3,3,4,4,4,4,4,4,4,4,5,5,5,5,5,5,5,5,5,5,5,5,5,5,5,5,6,6,6,6,6,6,6,6,6,6,6,6,6,6,6,6,6,6,6,6,6,6,6,6,6,6,6,6,6,6,6,6,7,7,7,7,7,7,7,7,7,7,7,7,7,7,7,7,7,7,7,7,7,7,7,7,7,7,7,7,7,7,7,7,7,7,7,7,7,7,7,7,7,7,7,7,7,7,7,7,7,7,7,7,7,7,7,7,7,7,7,7,7,7,7,7,8,8,8,8,8,8,8,8,8,8,8,8,8,8,8,8,8,8,8,8,8,8,8,8,8,8,8,8,8,8,8,8,8,8,8,8,8,8,8,8,8,8,8,8,8,8,8,8,8,8,8,8,8,8,8,8,8,8,8,8,8,8,8,8,8,8,8,8,8,8,8,8,8,8,8,8,8,8,8,8,8,8,8,8,8,8,8,8,8,8,8,8,8,8,8,8,8,8,8,8,8,8,8,8,8,8,8,8,8,8,8,8,8,8,8,8,8,8,8,8,8,8,8,8,8,8,8,8]⟩
theorem kuw:∀b:Nat,b<256->Cv.byteAt tab8 b=len64 b:=by decide+kernel
theorem kpk(x:Int)(h:0<=x/\x<256):Cv.byteAt tab8 x=len64 x:=by obtain⟨n,rfl⟩:=qm h.1;exact kuw n qqo
theorem kqo(x:Int)(h:0<=x/\x<256):0<=len64 x/\len64 x<=8:=by
 rw[<-kpk x h];obtain⟨n,rfl⟩:=qm h.1;have:∀b:Nat,b<256->0<=Cv.byteAt tab8 b/\Cv.byteAt tab8 b<=8:=by decide+kernel
 exact this n qqo
theorem ku9:tab8.size=256:=by decide+kernel
end Go.Md
namespace Go.Md
open Go Go.Bv Go.Cv Go.Md Go.RowKit
section
variable{α β:Type}
def AllI(f:α->Bool)(l:List α)(i:Int):Prop:=0<=i/\i<=l.length/\∀x∈l.take i.toNat,f x=true
theorem AllI.start{f:α->Bool}{l:List α}:AllI f l 0:=⟨by omega,by omega,by simp⟩
theorem AllI.next[Inhabited α]{f:α->Bool}{l:List α}{i:Int}(h:AllI f l i)(J:i<l.length)(U:(l.length:Int)<=9223372036854775807)(X:f (ix l i)=true):AllI f l (IntKind.i64.wrap (i+1))/\(l.length-IntKind.i64.wrap (i+1)).toNat<(l.length-i).toNat:=by
 obtain⟨F,Y,M⟩:=h;rw[inc i l.length F J U];refine⟨⟨by omega,by omega,?_⟩,by omega⟩;rw[kg l i F J];intro x B;rcases qae.1 B with B|B;.exact M x B
 .have:x=ix l i:=by simpa using B
  rw[this];exact X
theorem AllI.bad[Inhabited α]{f:α->Bool}{l:List α}{i:Int}(h:AllI f l i)(B:i<l.length)(F:f (ix l i)=false):l.all f=false:=qcy.2 ⟨ix l i,Md.ix_mem l i h.1 B,by simp[F]⟩
theorem AllI.done{f:α->Bool}{l:List α}{i:Int}(h:AllI f l i)(M:¬i<l.length):l.all f=true:=by obtain⟨F,J,B⟩:=h;rw[ql qqo]at B;exact qbq.2 B
def FoldI(f:β->α->β)(z:β)(l:List α)(i:Int)(s:β):Prop:=0<=i/\i<=l.length/\s=(l.take i.toNat).foldl f z
theorem FoldI.start{f:β->α->β}{z:β}{l:List α}:FoldI f z l 0 z:=⟨by omega,by omega,by simp⟩
theorem FoldI.next[Inhabited α]{f:β->α->β}{z:β}{l:List α}{i:Int}{s s':β}(h:FoldI f z l i s)(F:i<l.length)(M:(l.length:Int)<=9223372036854775807)(hs:s'=f s (ix l i)):FoldI f z l (IntKind.i64.wrap (i+1)) s'/\(l.length-IntKind.i64.wrap (i+1)).toNat<(l.length-i).toNat:=by obtain⟨B,U,J⟩:=h;rw[inc i l.length B F M];refine⟨⟨by omega,by omega,?_⟩,by omega⟩;rw[kg l i B F,List.foldl_append,<-J,hs];rfl
theorem FoldI.done{f:β->α->β}{z:β}{l:List α}{i:Int}{s:β}(h:FoldI f z l i s)(M:¬i<l.length):s=l.foldl f z:=by
 obtain⟨F,J,B⟩:=h;rwa[ql qqo]at B
def FlatI(f:α->List β)(z:List β)(l:List α)(i:Int)(s:List β):Prop:=0<=i/\i<=l.length/\s=z++(l.take i.toNat).flatMap f
theorem FlatI.start{f:α->List β}{z:List β}{l:List α}:FlatI f z l 0 z:=⟨by omega,by omega,by simp⟩
theorem FlatI.next[Inhabited α]{f:α->List β}{z:List β}{l:List α}{i:Int}{s s':List β}(h:FlatI f z l i s)(F:i<l.length)(M:(l.length:Int)<=9223372036854775807)(hs:s'=s++f (ix l i)):FlatI f z l (IntKind.i64.wrap (i+1)) s'/\(l.length-IntKind.i64.wrap (i+1)).toNat<(l.length-i).toNat:=by obtain⟨B,U,J⟩:=h;rw[inc i l.length B F M];refine⟨⟨by omega,by omega,?_⟩,by omega⟩;rw[kg l i B F,qbp,hs,J];simp
theorem FlatI.done{f:α->List β}{z:List β}{l:List α}{i:Int}{s:List β}(h:FlatI f z l i s)(M:¬i<l.length):s=z++l.flatMap f:=by
 obtain⟨F,J,B⟩:=h;rwa[ql qqo]at B
theorem FlatI.len{f:α->List β}{z:List β}{l:List α}{i:Int}{s:List β}(h:FlatI f z l i s)(k:Nat)(X:∀x∈l,(f x).length<=k):s.length<=z.length+k*l.length:=by
 obtain⟨Y,Z,J⟩:=h;have key:∀(m:List α),(∀x∈m,(f x).length<=k)->(m.flatMap f).length<=k*m.length:=by intro m;induction m with
  |nil=>simp|cons a m U=>intro F;have h1:=U λx B=>F x (by simp[B]);have M:=F a qqs;rw[qbe,qi,qx,Nat.mul_add];omega
 have h1:=key (l.take i.toNat) λx B=>X x (qba B);have M:k*(l.take i.toNat).length<=k*l.length:=Nat.mul_le_mul_left _ (by rw[qu];omega);rw[J,qi];omega
def MapI(f:α->β)(l:List α)(i:Int)(s:List β):Prop:=0<=i/\i<=l.length/\s=(l.take i.toNat).map f
theorem MapI.start{f:α->β}{l:List α}:MapI f l 0 []:=⟨by omega,by omega,by simp⟩
theorem MapI.next[Inhabited α]{f:α->β}{l:List α}{i:Int}{s s':List β}(h:MapI f l i s)(F:i<l.length)(M:(l.length:Int)<=9223372036854775807)(hs:s'=s++[f (ix l i)]):MapI f l (IntKind.i64.wrap (i+1)) s'/\(l.length-IntKind.i64.wrap (i+1)).toNat<(l.length-i).toNat:=by obtain⟨B,U,J⟩:=h;rw[inc i l.length B F M];refine⟨⟨by omega,by omega,?_⟩,by omega⟩;rw[kg l i B F,qbj,hs,J];simp
theorem MapI.done{f:α->β}{l:List α}{i:Int}{s:List β}(h:MapI f l i s)(M:¬i<l.length):s=l.map f:=by
 obtain⟨F,J,B⟩:=h;rwa[ql qqo]at B
theorem MapI.len{f:α->β}{l:List α}{i:Int}{s:List β}(h:MapI f l i s):s.length=i.toNat:=by obtain⟨F,J,B⟩:=h;rw[B,qp,qu];omega
end
theorem kkp{α:Type}{p:α->Bool}:∀{l:List α},mIdx p l=none↔∀x∈l,p x=false
 |[]=>by simp[mIdx]|x::l=>by cases B:p x with
  |true=>simp[mIdx,B]|false=>simp only[mIdx,B,qcc,Option.map_eq_none_iff,kkp,qak,forall_eq_or_imp,true_and]
theorem k6o{α:Type}{p:α->Bool}:∀{l:List α}{j:Nat},mIdx p l=some j->∃x,l[j]?=some x/\p x=true
 |[],_,h=>by cases h|x::l,j,h=>by cases B:p x with
  |true=>simp only[mIdx,B,qdr,qaq]at h;subst h;exact⟨x,rfl,B⟩|false=>simp only[mIdx,B,qcc,qac]at h;obtain⟨i,h1,rfl⟩:=h;obtain⟨y,F,J⟩:=k6o h1;exact⟨y,by simpa using F,J⟩
@[simp]theorem kx6{α:Type}(p:α->Bool):mHas p []=false:=rfl
@[simp]theorem kx5{α β:Type}(p:α->Bool)(z:β)(vs:List β):mVal p [] vs z=z:=rfl
theorem kw7{α:Type}{p:α->Bool}{l:List α}:mHas p l=true↔∃x∈l,p x=true:=by unfold mHas;cases h:mIdx p l with
 |none=>simp only[Option.isSome_none,qbo,false_iff,not_exists,not_and];intro x B;rw[kkp.1 h x B];simp|some j=>obtain⟨x,h1,F⟩:=k6o h;simp;exact⟨x,qbm h1,F⟩
theorem kvk{α β:Type}{p:α->Bool}{B:List α}{vs:List β}{z:β}(h:mHas p B=true)(U:B.length=vs.length):mVal p B vs z∈vs:=by unfold mHas at h;unfold mVal;cases F:mIdx p B with
 |none=>rw[F]at h;cases h|some j=>
  obtain⟨x,h1,M⟩:=k6o F;have J:j<vs.length:=by have:=(qq.1 h1).1;omega
  simp only[qf J];exact qz J
theorem kbm(a:Int)(h:0<=a/\a<4611686018427387904):iand .i64 a 1=a%2:=by obtain⟨n,rfl⟩:=qm h.1;unfold iand;have B:(BitVec.ofInt IntKind.i64.bits (n:Int)).toNat=n:=k3c n qqo;have F:(BitVec.ofInt IntKind.i64.bits (1:Int)).toNat=1:=k3c 1 qqo;rw[BitVec.toNat_and,B,F,Nat.and_one_is_mod];rw[wi _ qqo qqo];omega
end Go.Md
namespace Go.Proofs.YtfiecdeonopcmaaGreatDoor
open Go Go.Bv Go.Cv Go.Md Go.RowKit
open Go.IntKind(i64 u64)
def rc(r i:Int):Int:=(3*r+i+1)*11400714819323198485%18446744073709551616%18446744069414584321
def mixS(s:wAW):wAW:=⟨(s.a0+((s.a0+s.a1)%18446744069414584321+s.a2)%18446744069414584321)%18446744069414584321,(s.a1+((s.a0+s.a1)%18446744069414584321+s.a2)%18446744069414584321)%18446744069414584321,(s.a2+((s.a0+s.a1)%18446744069414584321+s.a2)%18446744069414584321)%18446744069414584321⟩
def pw(a e:Int):Int:=a^e.toNat%18446744069414584321
def rnd(s:wAW)(r:Int):wAW:=mixS ⟨pw ((s.a0+rc r 0)%18446744069414584321) 7,pw ((s.a1+rc r 1)%18446744069414584321) 7,pw ((s.a2+rc r 2)%18446744069414584321) 7⟩
def rnds:Nat->wAW->wAW
 |0,s=>s|n+1,s=>rnd (rnds n s) n
def permS(s:wAW):wAW:=rnds 8 s
def absL:Li->wAW->wAW
 |[],s=>s|[x],s=>permS ⟨(s.a0+x)%18446744069414584321,s.a1,s.a2⟩|x::y::r,s=>absL r (permS ⟨(s.a0+x)%18446744069414584321,(s.a1+y)%18446744069414584321,s.a2⟩)
def absI(B:Int)(l:Li):wAW:=⟨0,0,(B*65536%18446744069414584321+l.length)%18446744069414584321⟩
def absS(B:Int)(l:Li):wAW:=if l=[]then permS (absI B l)else absL l (absI B l)
def hashS(B:Int)(l:Li):Int:=(absS B l).a0
def hashB(B:Int)(b:Li):Int:=hashS B (packS b)
def S3(s:wAW):Prop:=U64 s.a0/\U64 s.a1/\U64 s.a2
theorem S3m{a b c:Int}(B:U64 a)(F:U64 b)(J:U64 c):S3 ⟨a,b,c⟩:=⟨B,F,J⟩
theorem k2f(s:wAW):S3 (permS s):=by show S3 (rnd _ _);unfold rnd mixS S3;dsimp only;omega
theorem khp:∀l s,S3 s->S3 (absL l s)
 |[],_,h=>h|[_],_,_=>k2f _|_::_::r,_,_=>khp r _ (k2f _)
theorem kx(B:Int)(l:Li):U64 (hashS B l):=by
 unfold hashS absS;split;.exact(k2f _).1
 .rename_i h;match l,h with
  |[_],_=>exact(k2f _).1|_::_::r,_=>exact(khp r _ (k2f _)).1
theorem keo(s:wAW):(permS s).a0<18446744069414584321:=by show(rnd _ _).a0<_;unfold rnd mixS;dsimp only;omega
theorem absL_lt:∀(l:Li)s,l≠[]->(absL l s).a0<18446744069414584321
 |[],_,h=>(h rfl).elim|[_],_,_=>keo _|[_,_],_,_=>keo _|_::_::x::r,s,_=>absL_lt (x::r) _ qqs
theorem k49(B:Int)(l:Li):hashS B l<18446744069414584321:=by
 unfold hashS absS;split;.exact keo _
 .rename_i h;exact absL_lt _ _ h
def idxI(l:Li)(v:Int):Int:=if v∈l then l.idxOf v else-1
def vMarks(l:Li):Bool:=decide (l.length<=4)&&l.all (λx=>decide (x<18446744069414584321))&&decide l.Nodup
def vPoint(a b:Int):Bool:=decide (a<18446744069414584321)&&(decide (b<18446744069414584321)&&(a !=0||b !=0))
def vOut(x:wAt):Bool:=decide (x.wl<18446744069414584321)&&vPoint x.wAY x.wAV&&decide (x.wm.length=3)&&x.wm.all λn=>decide (n<18446744069414584321)
def vOuts(l:List wAt):Bool:=decide (l.length<=4)&&l.all vOut
def vAmounts(t:wh):Bool:=decide (t.wJ<=4294967295)&&decide (t.wL<=4294967295)&&decide (t.Fee<=4294967295)&&decide (t.wQ<18446744069414584321)&&decide (t.wK<18446744069414584321)&&if 0<t.wJ then t.wL==0 else !t.wC.isEmpty&&t.wK==0&&(decide (0<t.wL)||t.wQ==0)
def vRest(t:wh):Bool:=decide (t.wX<18446744069414584321)&&decide (0<=t.wAG)&&decide (t.wAG<=1048576)
def validE(t:wh):Int:=if vMarks t.wC&&vOuts t.wB&&vAmounts t&&vRest t then if t.wAH.length<=1048576 then 0 else 3 else 1
theorem k24(t:wh):vAmounts t=true↔t.wJ<=4294967295/\t.wL<=4294967295/\t.Fee<=4294967295/\t.wQ<18446744069414584321/\t.wK<18446744069414584321/\(0<t.wJ->t.wL=0)/\(¬0<t.wJ->t.wC≠[]/\t.wK=0/\(0<t.wL∨t.wQ=0)):=by
 unfold vAmounts;by_cases h:0<t.wJ;.simp[h,and_assoc]
 .simp[h,and_assoc]
structure OR(x:wAt):Prop where
 c:U64 x.wl
 p0:U64 x.wAY
 p1:U64 x.wAV
 ci:Us x.wm
structure TR(t:wh):Prop where
 a:U64 t.wX
 m:Us t.wC
 o:∀x∈t.wB,OR x
 d:U64 t.wJ
 w:U64 t.wL
 f:U64 t.Fee
 ac:U64 t.wQ
 n:U64 t.wK
 e:-9223372036854775808<=t.wAG/\t.wAG<=9223372036854775807
 p:By t.wAH
def encO(x:wAt):Li:=dig 8 x.wl++dig 8 x.wAY++dig 8 x.wAV++encL x.wm
def encT(t:wh)(p:Li):Li:=dig 8 t.wX++encL t.wC++dig 4 (len4 t.wB.length)++t.wB.flatMap encO++dig 8 t.wJ++dig 8 t.wL++dig 8 t.Fee++dig 8 t.wQ++dig 8 t.wK++dig 4 (len4 t.wAG)++encB p
def weightS(t:wh):Int:=if validE t=0 then(encT t t.wAH).length else 0
def idS(t:wh):Int:=if validE t=0 then hashB 14 (encT t t.wAH)else 0
def bindS(t:wh):Int:=if validE t=0 then hashB 13 (encT t [])else 0
def originS(t:wh):Int:=if validE t=0 then if t.wC=[]then hashS 5 [t.wQ,t.wK]else ix t.wC 0 else 0
structure TL(t:wh):Prop where
 m:t.wC.length<=4294967295
 o:t.wB.length<=4294967295
 c:∀x∈t.wB,x.wm.length<=4294967295
 p:t.wAH.length<=4294967295
structure VO(x:wAt):Prop where
 c:x.wl<18446744069414584321
 p:vPoint x.wAY x.wAV=true
 l:x.wm.length=3
 ci:∀n∈x.wm,n<18446744069414584321
theorem k98(x:wAt):vOut x=true↔VO x:=by unfold vOut;simp;exact⟨λh=>⟨h.1.1.1,h.1.1.2,h.1.2,h.2⟩,λh=>⟨⟨⟨h.c,h.p⟩,h.l⟩,h.ci⟩⟩
structure VT(t:wh):Prop where
 ml:t.wC.length<=4
 m:∀x∈t.wC,x<18446744069414584321
 mn:t.wC.Nodup
 ol:t.wB.length<=4
 o:∀x∈t.wB,VO x
 am:vAmounts t=true
 re:vRest t=true
 pl:t.wAH.length<=1048576
theorem kj(t:wh):validE t=0↔VT t:=by
 unfold validE;constructor
 .intro h;split at h
  .rename_i h1;split at h;.rename_i F;simp only[qh,vMarks,vOuts,qy,qbq]at h1;exact⟨h1.1.1.1.1.1,h1.1.1.1.1.2,h1.1.1.1.2,h1.1.1.2.1,λx B=>(k98 x).1 (h1.1.1.2.2 x B),h1.1.2,h1.2,F⟩
   .simp at h
  .simp at h
 .intro h;have:(vMarks t.wC&&vOuts t.wB&&vAmounts t&&vRest t)=true:=by simp only[qh,vMarks,vOuts,qy,qbq];exact⟨⟨⟨⟨⟨h.ml,h.m⟩,h.mn⟩,h.ol,λx B=>(k98 x).2 (h.o x B)⟩,h.am⟩,h.re⟩
  rw[qg this,qg h.pl]
theorem VT.tl{t:wh}(h:VT t):TL t:=⟨by have:=h.ml;omega,by have:=h.ol;omega,λx B=>by have:=(h.o x B).l;omega,by have:=h.pl;omega⟩
theorem encO_by{x:wAt}:By (encO x):=(((dig_by _ _).append (dig_by _ _)).append (dig_by _ _)).append (encL_by _)
theorem kvv(l:List wAt):By (l.flatMap encO):=λx B=>by obtain⟨y,_,F⟩:=qdv.1 B;exact encO_by x F
theorem encT_by{t:wh}{p:Li}(h:By p):By (encT t p):=((((((((((dig_by _ _).append (encL_by _)).append (dig_by _ _)).append (kvv _)).append (dig_by _ _)).append (dig_by _ _)).append (dig_by _ _)).append (dig_by _ _)).append (dig_by _ _)).append (dig_by _ _)).append (encB_by h)
theorem kqs(x:wAt):(encO x).length=28+8*x.wm.length:=by simp[encO];omega
theorem k22:∀(l:List wAt)(k:Nat),(∀x∈l,x.wm.length<=k)->(l.flatMap encO).length<=(28+8*k)*l.length
 |[],_,_=>by simp|x::r,k,h=>by have h1:=k22 r k λy B=>h y (by simp[B]);have F:=h x qqs;rw[qbe,qi,kqs,qx,Nat.mul_add];omega
theorem kdt(t:wh)(p:Li):(encT t p).length=64+8*t.wC.length+(t.wB.flatMap encO).length+p.length:=by simp only[encT,qi,ke,km,k77];omega
theorem VT.enc_len{t:wh}(h:VT t)(p:Li):(encT t p).length<=304+p.length:=by have h1:=h.ml;have F:=h.ol;have J:=k22 t.wB 3 (λx B=>by have:=(h.o x B).l;omega);rw[kdt];omega
theorem kdl{t:wh}(h:TR t):U64 (originS t):=by
 unfold originS;split
 .split;.exact kx _ _
  .rename_i B;exact h.m _ (ix_mem _ 0 qqo (by have:=qdh.2 B;omega))
 .omega
structure RD where
 n:Int
 ok:Bool
 pos:Int
 fail:Bool
structure RL where
 l:Li
 pos:Int
 fail:Bool
structure RdOk(b:Li)(pos:Int):Prop where
 by_:By b
 len:b.length<=137438953472
 pos0:0<=pos
 pos1:pos<=b.length
def rdD(b:Li)(pos:Int)(f:Bool)(B:Int):RD:=if f=true∨b.length-pos<B then⟨0,false,pos,true⟩else⟨val ((b.drop pos.toNat).take B.toNat),true,pos+B,false⟩
def rdU(b:Li)(pos:Int)(f:Bool)(m:Int):RD:=if(rdD b pos f 8).ok=false∨m<(rdD b pos f 8).n then⟨0,false,(rdD b pos f 8).pos,true⟩else rdD b pos f 8
def rdI(b:Li)(pos:Int)(f:Bool)(m:Int):RD:=if(rdD b pos f 4).ok=false∨m<(rdD b pos f 4).n then⟨0,false,(rdD b pos f 4).pos,true⟩else rdD b pos f 4
def rdLs(b:Li)(p:Int):Nat->Int->Li->RL
 |0,pos,acc=>⟨acc,pos,false⟩|k+1,pos,acc=>if p<=val ((b.drop pos.toNat).take 8)then⟨[],pos+8,true⟩else rdLs b p k (pos+8) (acc++[val ((b.drop pos.toNat).take 8)])
def rdL(b:Li)(pos:Int)(f:Bool)(m p:Int):RL:=if(rdI b pos f m).fail=true∨(b.length-(rdI b pos f m).pos)/8<(rdI b pos f m).n then⟨[],(rdI b pos f m).pos,true⟩else rdLs b p (rdI b pos f m).n.toNat (rdI b pos f m).pos []
def rdB(b:Li)(pos:Int)(f:Bool)(m:Int):RL:=if(rdI b pos f m).fail=true∨b.length-(rdI b pos f m).pos<(rdI b pos f m).n then⟨[],(rdI b pos f m).pos,true⟩else⟨(b.take ((rdI b pos f m).pos+(rdI b pos f m).n).toNat).drop (rdI b pos f m).pos.toNat,(rdI b pos f m).pos+(rdI b pos f m).n,false⟩
theorem kc6{b:Li}{pos p:Int}{f:Bool}(h:RdOk b pos)(J:1<=p)(h1:p<=8):0<=(rdD b pos f p).n/\(rdD b pos f p).n<256^p.toNat:=by
 unfold rdD;split;.exact⟨qdl 0,k1l _⟩
 .have B:=k26 _ ((h.by_.drop pos.toNat).take p.toNat);rw[qu,qal,qcf (by have:=h.pos0;omega)]at B;exact B
theorem rdD_ok{b:Li}{pos p:Int}{f:Bool}(h:RdOk b pos)(F:1<=p):RdOk b (rdD b pos f p).pos:=by
 unfold rdD;have:=h.pos0;split;.exact h
 .exact⟨h.by_,h.len,by show 0<=pos+p;omega,by show pos+p<=_;omega⟩
theorem rdU_ok{b:Li}{pos m:Int}{f:Bool}(h:RdOk b pos):RdOk b (rdU b pos f m).pos:=by
 unfold rdU;split;.exact rdD_ok h qqo
 .exact rdD_ok h qqo
theorem rdI_ok{b:Li}{pos m:Int}{f:Bool}(h:RdOk b pos):RdOk b (rdI b pos f m).pos:=by
 unfold rdI;split;.exact rdD_ok h qqo
 .exact rdD_ok h qqo
theorem rdI_n{b:Li}{pos m:Int}{f:Bool}(h:RdOk b pos)(B:0<=m):0<=(rdI b pos f m).n/\(rdI b pos f m).n<=m:=by
 have:=kc6 h (p:=4) (f:=f) qqo qqo;unfold rdI;split;.exact⟨qdl 0,B⟩
 .exact by omega
theorem rdU_n{b:Li}{pos m:Int}{f:Bool}(h:RdOk b pos):U64 (rdU b pos f m).n:=by
 have:=kc6 h (p:=8) (f:=f) qqo qqo;unfold rdU;split;.exact⟨qdl 0,(by decide:(0:Int)<18446744073709551616)⟩
 .exact⟨this.1,this.2⟩
theorem cut_dig{b:Li}(h:By b)(k:Nat)(B:k<=b.length):b=dig k (val (b.take k))++b.drop k:=by have:=dig_val (b.take k) (h.take k);rw[qu,qcf B]at this;rw[this,qbi]
theorem put_dig{b r:Li}{k:Nat}{n:Int}(h:b=dig k n++r)(B:0<=n)(h1:n<256^k):val (b.take k)=n/\b.drop k=r/\k<=b.length:=by subst h;rw[qfs (ke k n),List.drop_left' (ke k n),qi,ke];exact⟨val_dig k n B h1,rfl,by omega⟩
def nums:Nat->Li->Li
 |0,_=>[]|k+1,b=>val (b.take 8)::nums k (b.drop 8)
@[simp]theorem k30:∀k b,(nums k b).length=k
 |0,_=>rfl|k+1,b=>by simp[nums,k30 k]
theorem nums_us:∀k{b:Li},By b->Us (nums k b)
 |0,_,_=>by intro x B;cases B|k+1,b,h=>by
  intro x B;rcases qak.1 B with rfl|B;.exact val8 _ (h.take 8) (by rw[qu];omega)
  .exact nums_us k (h.drop 8) x B
theorem keh:∀k{b:Li},By b->8*k<=b.length->b=(nums k b).flatMap (dig 8)++b.drop (8*k)
 |0,_,_,_=>rfl|k+1,b,h,F=>by have h1:=cut_dig h 8 qqo;have B:=keh k (h.drop 8) (by rw[qal];omega);rw[qdf,show 8+8*k=8*(k+1)by omega]at B;simp only[nums,qbe,qn];rw[<-B];exact h1
theorem k6a:∀(l:Li){b r:Li},b=l.flatMap (dig 8)++r->Us l->nums l.length b=l/\b.drop (8*l.length)=r/\8*l.length<=b.length
 |[],b,r,h,_=>⟨rfl,by simpa using h,by simp⟩|x::l,b,r,h,F=>by
  rw[qbe,qn]at h;have J:=F x qqs;obtain⟨h1,M,Z⟩:=put_dig h J.1 qqo;obtain⟨U,B,X⟩:=k6a l M λy Y=>F y (by simp[Y]);rw[qal]at X;refine⟨?_,?_,?_⟩;.simp only[qx,nums,h1,U]
  .rw[qdf,show 8+8*l.length=8*(l.length+1)by omega]at B;simpa using B
  .rw[qx];omega
section
variable{b:Li}{pos m p:Int}{f:Bool}
theorem k4d(B:0<=pos)(k:Nat):b.drop (pos+k).toNat=(b.drop pos.toNat).drop k:=by rw[qdf,show(pos+k).toNat=pos.toNat+k by omega]
theorem rdD_snd(h:RdOk b pos)(k:Nat)(F:(rdD b pos f k).ok=true):f=false/\b.drop pos.toNat=dig k (rdD b pos f k).n++b.drop (rdD b pos f k).pos.toNat/\(rdD b pos f k).fail=false:=by
 unfold rdD at*;split at F;.cases F
 .rename_i B;rw[qe B];have J:=h.pos0;refine⟨?_,?_,rfl⟩
  .cases f;.rfl
   .exact absurd (.inl rfl) B
  .rw[k4d J,qv];refine cut_dig (h.by_.drop _) k ?_;rw[qal];omega
theorem rdD_cpl(h:RdOk b pos)(k:Nat){n:Int}{r:Li}(X:f=false)(Y:b.drop pos.toNat=dig k n++r)(Z:0<=n)(h1:n<256^k):rdD b pos f k=⟨n,true,pos+k,false⟩/\b.drop (pos+k).toNat=r:=by
 obtain⟨F,J,M⟩:=put_dig Y Z h1;rw[qal]at M;have hp:=h.pos1;have B:=h.pos0;refine⟨?_,by rw[k4d B];exact J⟩;unfold rdD;have U:¬(f=true∨b.length-pos<k):=by rw[X];simp;rcases Nat.eq_zero_or_pos k with h|h<;>omega
 rw[qe U,qv,F]
theorem rdU_snd(h:RdOk b pos)(F:(rdU b pos f m).fail=false):f=false/\b.drop pos.toNat=dig 8 (rdU b pos f m).n++b.drop (rdU b pos f m).pos.toNat/\(rdU b pos f m).n<=m:=by
 unfold rdU at*;split at F;.cases F
 .rename_i B;rw[qe B];have J:(rdD b pos f 8).ok=true:=by
   cases M:(rdD b pos f 8).ok;.exact absurd (.inl M) B
   .rfl
  obtain⟨U,X,Y⟩:=rdD_snd h 8 J;exact⟨U,X,by omega⟩
theorem rdU_cpl(h:RdOk b pos){n:Int}{r:Li}(M:f=false)(U:b.drop pos.toNat=dig 8 n++r)(F:U64 n)(X:n<=m):(rdU b pos f m).fail=false/\(rdU b pos f m).n=n/\b.drop (rdU b pos f m).pos.toNat=r:=by
 obtain⟨B,J⟩:=rdD_cpl h 8 M U F.1 F.2;have e:rdU b pos f m=⟨n,true,pos+8,false⟩:=by unfold rdU;have B:rdD b pos f 8=⟨n,true,pos+8,false⟩:=B;rw[B];exact qe qqm
 rw[e];exact⟨rfl,rfl,J⟩
theorem rdI_snd(h:RdOk b pos)(F:(rdI b pos f m).fail=false):f=false/\b.drop pos.toNat=dig 4 (rdI b pos f m).n++b.drop (rdI b pos f m).pos.toNat/\(rdI b pos f m).n<=m:=by
 unfold rdI at*;split at F;.cases F
 .rename_i B;rw[qe B];have J:(rdD b pos f 4).ok=true:=by
   cases M:(rdD b pos f 4).ok;.exact absurd (.inl M) B
   .rfl
  obtain⟨U,X,Y⟩:=rdD_snd h 4 J;exact⟨U,X,by omega⟩
theorem rdI_cpl(h:RdOk b pos){n:Int}{r:Li}(J:f=false)(M:b.drop pos.toNat=dig 4 n++r)(U:0<=n)(h1:n<4294967296)(X:n<=m):(rdI b pos f m).fail=false/\(rdI b pos f m).n=n/\b.drop (rdI b pos f m).pos.toNat=r:=by
 obtain⟨B,F⟩:=rdD_cpl h 4 J M U h1;have e:rdI b pos f m=⟨n,true,pos+4,false⟩:=by unfold rdI;have B:rdD b pos f 4=⟨n,true,pos+4,false⟩:=B;rw[B];exact qe qqm
 rw[e];exact⟨rfl,rfl,F⟩
theorem rdLs_ok:∀(k:Nat){pos:Int}{acc:Li},RdOk b pos->pos+8*k<=b.length->RdOk b (rdLs b p k pos acc).pos
 |0,pos,acc,h,_=>h|k+1,pos,acc,h,F=>by
  have B:RdOk b (pos+8):=⟨h.by_,h.len,by have:=h.pos0;omega,by omega⟩;unfold rdLs;split;.exact B
  .exact rdLs_ok k B qqo
theorem keu:∀(k:Nat){pos:Int}{acc:Li},RdOk b pos->pos+8*k<=b.length->(rdLs b p k pos acc).fail=false->(rdLs b p k pos acc).l=acc++nums k (b.drop pos.toNat)/\(∀x∈nums k (b.drop pos.toNat),x<p)/\(rdLs b p k pos acc).pos=pos+8*k
 |0,pos,acc,h,_,_=>⟨by simp[rdLs,nums],by simp[nums],by simp[rdLs]⟩|k+1,pos,acc,h,hk,F=>by
  have U:RdOk b (pos+8):=⟨h.by_,h.len,by have:=h.pos0;omega,by omega⟩;have X:b.drop (pos+8).toNat=(b.drop pos.toNat).drop 8:=k4d h.pos0 8;unfold rdLs at*;split at F;.cases F
  .rename_i Y;rw[qe Y];obtain⟨J,M,Z⟩:=keu k U qqo F;rw[X]at J M;refine⟨?_,?_,?_⟩;.rw[J,qn];rfl
   .intro x B;rcases qak.1 B with rfl|B;.omega
    .exact M x B
   .omega
theorem kpc:∀(k:Nat){pos:Int}{acc:Li},RdOk b pos->pos+8*k<=b.length->(∀x∈nums k (b.drop pos.toNat),x<p)->(rdLs b p k pos acc).fail=false
 |0,pos,acc,h,_,_=>rfl|k+1,pos,acc,h,X,B=>by have F:RdOk b (pos+8):=⟨h.by_,h.len,by have:=h.pos0;omega,by omega⟩;have J:b.drop (pos+8).toNat=(b.drop pos.toNat).drop 8:=k4d h.pos0 8;unfold rdLs;have U:=B (val ((b.drop pos.toNat).take 8)) (by simp[nums]);rw[qe qqo];exact kpc k F qqo (by rw[J];exactλx M=>B x (qem _ M))
theorem rdL_ok(h:RdOk b pos)(F:0<=m):RdOk b (rdL b pos f m p).pos:=by
 unfold rdL;split;.exact rdI_ok h
 .have:=rdI_n h (f:=f) F;exact rdLs_ok _ (rdI_ok h) qqo
theorem rdL_snd(h:RdOk b pos)(hm:0<=m/\m<=4294967295)(M:(rdL b pos f m p).fail=false):f=false/\b.drop pos.toNat=encL (rdL b pos f m p).l++b.drop (rdL b pos f m p).pos.toNat/\(rdL b pos f m p).l.length<=m/\(∀x∈(rdL b pos f m p).l,x<p)/\Us (rdL b pos f m p).l:=by
 unfold rdL at*;split at M;.cases M
 .rename_i F;rw[qe F];have U:(rdI b pos f m).fail=false:=by
   cases X:(rdI b pos f m).fail;.rfl
   .exact absurd (.inl X) F
  have Y:=rdI_n h (f:=f) hm.1;have B:=rdI_ok h (f:=f) (m:=m);obtain⟨Z,g2,g3⟩:=rdI_snd h U;obtain⟨k1,k2,k3⟩:=keu _ B qqo M;rw[qcd]at k1;rw[k1,k3];have J:=B.pos0;refine⟨Z,?_,by rw[k30];omega,k2,nums_us _ (h.by_.drop _)⟩;rw[g2];unfold encL;rw[k30,show(rdI b pos f m).n.toNat=(rdI b pos f m).n by omega,len4_in qqo,qn];congr 1;have:=keh (rdI b pos f m).n.toNat (h.by_.drop (rdI b pos f m).pos.toNat) (by rw[qal];omega);have e:=k4d (b:=b) J (8*(rdI b pos f m).n.toNat);rw[show(rdI b pos f m).pos+(8*(rdI b pos f m).n.toNat:Nat)=(rdI b pos f m).pos+8*(rdI b pos f m).n.toNat by omega,show(rdI b pos f m).n.toNat=(rdI b pos f m).n by omega]at e;rw[e];exact this
theorem rdL_cpl(h:RdOk b pos)(hm:0<=m/\m<=4294967295){l r:Li}(hf:f=false)(J:b.drop pos.toNat=encL l++r)(hl:l.length<=m)(hp:∀x∈l,x<p)(hu:Us l):(rdL b pos f m p).fail=false/\(rdL b pos f m p).l=l/\b.drop (rdL b pos f m p).pos.toNat=r:=by
 unfold encL at J;rw[len4_in qqo,qn]at J;have B:=rdI_ok h (f:=f) (m:=m);obtain⟨X,M,Y⟩:=rdI_cpl h hf J qqo qqo hl;obtain⟨k1,k2,k3⟩:=k6a l Y hu;rw[qal]at k3;have F:=B.pos0;have Z:=B.pos1;have hn:¬((rdI b pos f m).fail=true∨(b.length-(rdI b pos f m).pos)/8<(rdI b pos f m).n):=by rw[X,M];simp;omega
 unfold rdL;rw[qe hn,M,qv];have U:=kpc (p:=p) (acc:=[]) l.length B qqo (by rw[k1];exact hp);obtain⟨q1,q2,q3⟩:=keu _ B qqo U;refine⟨U,by rw[q1,k1];rfl,?_⟩;rw[q3,show(rdI b pos f m).pos+8*l.length=(rdI b pos f m).pos+(8*l.length:Nat)by omega,k4d F];exact k2
end
structure Enc(t:wh)(b:Li):Prop where
 r:TR t
 v:VT t
 e:encT t t.wAH=b
open Classical in
theorem Enc.us{t:wh}{b:Li}(h:Enc t b):t.wX<=18446744069414584320/\t.wJ<=4294967295/\t.wL<=4294967295/\t.Fee<=4294967295/\t.wQ<=18446744069414584320/\t.wK<=18446744069414584320/\0<=t.wAG/\t.wAG<=1048576:=by have h1:=(k24 t).1 h.v.am;have B:=h.v.re;unfold vRest at B;simp at B;omega
def encTail(t:wh):Li:=dig 8 t.wJ++(dig 8 t.wL++(dig 8 t.Fee++(dig 8 t.wQ++(dig 8 t.wK++(dig 4 (len4 t.wAG)++encB t.wAH)))))
theorem kg0(t:wh):encT t t.wAH=dig 8 t.wX++(encL t.wC++(dig 4 (len4 t.wB.length)++(t.wB.flatMap encO++encTail t))):=by simp[encT,encTail]
theorem khm(x:wAt)(r:Li):encO x++r=dig 8 x.wl++(dig 8 x.wAY++(dig 8 x.wAV++(encL x.wm++r))):=by simp[encO]
set_option maxHeartbeats 2000000 in
theorem enc_inj{t u:wh}{b:Li}(B:Enc t b)(F:Enc u b):t=u:=by
 have h:=B.e.trans F.e.symm;rw[kg0,kg0]at h;have e1:=List.append_inj h qqs;have a1:=dig_inj (k:=8) B.r.a F.r.a e1.1;have tl:=B.v.ml;have ul:=F.v.ml;have ac:=B.v.ol;have ad:=F.v.ol;have M:∀{l m x y:Li},l.length<=4294967295->m.length<=4294967295->Us l->Us m->encL l++x=encL m++y->l=m/\x=y:=by
  intro l m x y Z hm aa ab h;unfold encL at h;rw[len4_in qqo,len4_in qqo,qn,qn]at h;have q:=List.append_inj h qqs;have q1:=dig_inj (k:=4) ⟨by omega,by omega⟩ ⟨by omega,by omega⟩ q.1;have U:=List.append_inj q.2 (by rw[ku,ku];omega);obtain⟨k1,k2,_⟩:=k6a l (b:=l.flatMap (dig 8)) (r:=[]) qqs aa;obtain⟨m1,m2,_⟩:=k6a m (b:=l.flatMap (dig 8)) (r:=[]) (by rw[U.1];simp) ab;have:l.length=m.length:=by omega
  rw[this]at k1;exact⟨k1.symm.trans m1,U.2⟩
 obtain⟨a2,e2⟩:=M qqo qqo B.r.m F.r.m e1.2;rw[len4_in qqo,len4_in qqo]at e2;have e3:=List.append_inj e2 qqs;have a3:=dig_inj (k:=4) ⟨by omega,by omega⟩ ⟨by omega,by omega⟩ e3.1;have X:∀(l m:List wAt)(x y:Li),l.length=m.length->(∀o∈l,OR o/\VO o)->(∀o∈m,OR o/\VO o)->l.flatMap encO++x=m.flatMap encO++y->l=m/\x=y:=by intro l;induction l with
  |nil=>intro m x y J _ _ h;cases m with
   |nil=>exact⟨rfl,h⟩|cons o m=>simp at J
  |cons o l ih=>intro m x y J Z hm h;cases m with
   |nil=>simp at J|cons p m=>rw[qbe,qbe,qn,qn,khm,khm]at h;obtain⟨or,ov⟩:=Z o qqs;obtain⟨Y,pv⟩:=hm p qqs;have q1:=List.append_inj h qqs;have U:=List.append_inj q1.2 qqs;have q3:=List.append_inj U.2 qqs;obtain⟨q4,q5⟩:=M (by rw[ov.l];omega) (by rw[pv.l];omega) or.ci Y.ci q3.2;obtain⟨q6,q7⟩:=ih m x y (by simpa using J) (λo h=>Z o (by simp[h])) (λo h=>hm o (by simp[h])) q5;refine⟨?_,q7⟩;have c1:=dig_inj (k:=8) or.c Y.c q1.1;have c2:=dig_inj (k:=8) or.p0 Y.p0 U.1;have c3:=dig_inj (k:=8) or.p1 Y.p1 q3.1;rw[q6];cases o;cases p;simp_all
 obtain⟨a4,e4⟩:=X _ _ _ _ qqo (λo h=>⟨B.r.o o h,B.v.o o h⟩) (λo h=>⟨F.r.o o h,F.v.o o h⟩) e3.2;unfold encTail at e4;have f1:=List.append_inj e4 qqs;have f2:=List.append_inj f1.2 qqs;have f3:=List.append_inj f2.2 qqs;have f4:=List.append_inj f3.2 qqs;have f5:=List.append_inj f4.2 qqs;have f6:=List.append_inj f5.2 qqs;have ae:=B.us;have ag:=F.us;rw[len4_in qqo,len4_in qqo]at f6;have a5:=dig_inj (k:=8) B.r.d F.r.d f1.1;have a6:=dig_inj (k:=8) B.r.w F.r.w f2.1;have a7:=dig_inj (k:=8) B.r.f F.r.f f3.1;have a8:=dig_inj (k:=8) B.r.ac F.r.ac f4.1;have a9:=dig_inj (k:=8) B.r.n F.r.n f5.1;have ah:=dig_inj (k:=4) ⟨by omega,by omega⟩ ⟨by omega,by omega⟩ f6.1;have ai:t.wAH=u.wAH:=by have h7:=f6.2;unfold encB at h7;exact(List.append_inj h7 qqs).2
 cases t;cases u;simp_all
structure TD(t:wh):Prop where
 r:TR t
 l:TL t
 o:t.wB.length<=1048576
 c:∀x∈t.wB,x.wm.length<=1024
def sameT(a b:wh):Bool:=decide (a.wB.length=b.wB.length)&&a.wAG==b.wAG&&decide (a.wB.map (·.wm.length)=b.wB.map (·.wm.length))&&decide (encT a a.wAH=encT b b.wAH)
@[simp]theorem kx4(a:wh):sameT a a=true:=by simp[sameT]
def rhoS(o i:Int):Int:=if o<18446744069414584321 then hashS 4 [o,i]else 0
def stmtS(t:wh)(B:Int):wAQ:=if validE t=0 then⟨B,t.wX,t.wC,t.wB.map (·.wl),(List.range t.wB.length).map λi:Nat=>rhoS (originS t) i,t.wJ,t.wL,t.Fee,t.wQ,bindS t⟩else⟨0,0,[],[],[],0,0,0,0,0⟩
structure RB where
 l:Li
 b:Li
 f:Bool
structure RN where
 n:Int
 b:Li
 f:Bool
def tkB(b:Li)(f:Bool)(k:Int):RB:=if f=true∨b.length<k then⟨[],b,true⟩else⟨b.take k.toNat,b.drop k.toNat,false⟩
def nB(k:Int)(b:Li)(f:Bool)(m:Int):RN:=if(tkB b f k).f=true∨m<val (tkB b f k).l then⟨0,(tkB b f k).b,true⟩else⟨val (tkB b f k).l,(tkB b f k).b,false⟩
section
variable{b r:Li}{f:Bool}{k m n:Int}
theorem tkB_l(h:By b):By (tkB b f k).l:=by
 unfold tkB;split;.intro x B;cases B
 .exact h.take _
theorem tkB_b(h:By b):By (tkB b f k).b/\(tkB b f k).b.length<=b.length:=by
 unfold tkB;split;.exact⟨h,qaf _⟩
 .exact⟨h.drop _,by rw[qal];omega⟩
theorem tkB_len:(tkB b f k).l.length<=max k 0:=by
 unfold tkB;split;.simp;omega
 .rw[qu];omega
theorem tkB_snd(F:0<=k)(h:(tkB b f k).f=false):f=false/\b=(tkB b f k).l++(tkB b f k).b/\(tkB b f k).l.length=k:=by
 unfold tkB at*;split at h;.cases h
 .rename_i B;rw[qe B];refine⟨?_,(qbi _ _).symm,?_⟩
  .cases f;.rfl
   .exact absurd (.inl rfl) B
  .rw[qu];omega
theorem tkB_cpl{l:Li}(B:f=false)(h:b=l++r)(F:l.length=k):tkB b f k=⟨l,r,false⟩:=by subst h;unfold tkB;rw[qe (by rw[B,qi];simp;omega),show k.toNat=l.length by omega,qfs rfl,List.drop_left' rfl]
theorem nB_b(h:By b):By (nB k b f m).b/\(nB k b f m).b.length<=b.length:=by unfold nB;split<;>exact tkB_b h
theorem nB_n(h:By b)(J:0<=k):0<=(nB k b f m).n/\(nB k b f m).n<256^k.toNat:=by
 unfold nB;split;.exact⟨qdl 0,k1l _⟩
 .have h1:=k26 _ (tkB_l (f:=f) (k:=k) h);have F:=tkB_len (b:=b) (f:=f) (k:=k);have B:(256:Int)^(tkB b f k).l.length<=256^k.toNat:=k2k qqo;exact⟨h1.1,Int.lt_of_lt_of_le h1.2 B⟩
theorem nB_snd(h:By b)(X:0<=k)(F:(nB k b f m).f=false):f=false/\b=dig k.toNat (nB k b f m).n++(nB k b f m).b/\(nB k b f m).n<=m:=by
 unfold nB at*;split at F;.cases F
 .rename_i B;rw[qe B];have J:(tkB b f k).f=false:=by
   cases M:(tkB b f k).f;.rfl
   .exact absurd (.inl M) B
  obtain⟨h1,U,Y⟩:=tkB_snd X J;refine⟨h1,?_,by show val _<=m;omega⟩;have:=dig_val (tkB b f k).l (tkB_l h);rw[show(tkB b f k).l.length=k.toNat by omega]at this;rw[this];exact U
theorem nB_cpl(J:0<=k)(B:f=false)(h:b=dig k.toNat n++r)(F:0<=n)(h1:n<256^k.toNat)(M:n<=m):nB k b f m=⟨n,r,false⟩:=by unfold nB;rw[tkB_cpl B h (by rw[ke];omega)];rw[val_dig k.toNat n F h1,qe qqm]
end
theorem kbt:∀q n l m,l.length=7*q->l.length+m.length<=n->packN n (l++m)=packN n l++packN n m
 |0,n,l,m,h,_=>by
  have:=qax qqo;subst this;have:packN n []=[]:=by cases n<;>rfl
  rw[this];rfl|q+1,n,l,m,h,U=>by
  have F:l≠[]:=by rintro rfl;simp at h
  have B:l++m≠[]:=by simp[F]
  rw[k5e n l qqo F,k5e n (l++m) qqm B];have J:(l++m).take 7=l.take 7:=by rw[List.take_append_of_le_length qqo]
  have M:(l++m).drop 7=l.drop 7++m:=by rw[List.drop_append_of_le_length qqo]
  rw[J,M,kbt q n (l.drop 7) m qqm qqm];rfl
theorem kjo{n:Nat}{l:Li}(F:l≠[])(B:l.length<=7)(J:l.length<=n):packN n l=[val l]:=by rw[k5e n l J F,ql B,qas B];cases n<;>rfl
def pkF(p:Li)(i:Nat):Li:=packN p.length (p.take (7*(i/7)))
def pkV(p:Li)(i:Nat):Int:=val ((p.drop (7*(i/7))).take (i%7))
def pkI(p:Li)(i:Nat):Li:=if i%7=0 then pkF p i else pkF p i++[pkV p i]
theorem knb{p:Li}{i:Nat}(h:i<p.length)(U:(i+1)%7≠0):pkF p (i+1)=pkF p i/\pkV p (i+1)=pkV p i+256^(i%7)*p[i]:=by
 have F:(i+1)/7=i/7:=by omega
 have J:(i+1)%7=i%7+1:=by omega
 refine⟨by unfold pkF;rw[F],?_⟩;unfold pkV;rw[F,J];have B:i%7<(p.drop (7*(i/7))).length:=by rw[qal];omega
 have M:(p.drop (7*(i/7)))[i%7]=p[i]:=by rw[List.getElem_drop];congr 1;omega
 rw[qt B,k91,qu,qcf qqo,M]
theorem kwo{p:Li}{i:Nat}(h:i<p.length)(Y:(i+1)%7=0):pkF p (i+1)=pkF p i++[pkV p i+256^(i%7)*p[i]]:=by
 have M:(i+1)/7=i/7+1:=by omega
 have U:i%7=6:=by omega
 unfold pkF pkV;rw[M,show 7*(i/7+1)=7*(i/7)+7 by omega,List.take_add];have F:(p.take (7*(i/7))).length=7*(i/7):=by rw[qu];omega
 have B:((p.drop (7*(i/7))).take 7).length=7:=by rw[qu,qal];omega
 rw[kbt (i/7) p.length _ _ F (by omega),kjo (l:=(p.drop (7*(i/7))).take 7) (by intro h;rw[h]at B;simp at B) qqo qqo];have J:6<(p.drop (7*(i/7))).length:=by rw[qal];omega
 have X:(p.drop (7*(i/7)))[6]=p[i]:=by rw[List.getElem_drop];congr 1;omega
 rw[qt J,k91,qu,qcf qqo,X,U]
theorem kuy{p:Li}{i:Nat}(h:i<p.length):pkI p (i+1)=pkF p i++[(if i%7=0 then 0 else pkV p i)+256^(i%7)*p[i]]:=by
 have J:i%7=0->pkV p i=0:=λF=>by unfold pkV;rw[F];rfl
 have e:(if i%7=0 then 0 else pkV p i)=pkV p i:=by split<;>simp_all
 rw[e];unfold pkI;by_cases B:(i+1)%7=0;.rw[qg B,kwo h B]
 .rw[qe B,(knb h B).1,(knb h B).2]
theorem kuv(p:Li):pkI p 0=[]:=by show packN p.length []=[];cases p.length<;>rfl
theorem kww(p:Li):pkI p p.length=packN p.length p:=by
 unfold pkI;split;.unfold pkF;rw[ql qqo]
 .unfold pkF pkV;have F:(p.take (7*(p.length/7))).length=7*(p.length/7):=by rw[qu];omega
  have B:(p.drop (7*(p.length/7))).length=p.length%7:=by rw[qal];omega
  have h1:=kbt (p.length/7) p.length (p.take (7*(p.length/7))) (p.drop (7*(p.length/7))) F (by omega);rw[qbi]at h1;rw[h1,kjo (l:=p.drop (7*(p.length/7))) (by intro J;rw[J]at B;simp at B;omega) qqo qqo,ql (l:=p.drop (7*(p.length/7))) qqo]
theorem kts{p:Li}(B:By p)(i:Nat):0<=pkV p i/\pkV p i<256^(i%7):=by have h:=k26 ((p.drop (7*(i/7))).take (i%7)) ((B.drop _).take _);refine⟨h.1,Int.lt_of_lt_of_le h.2 (k2k ?_)⟩;rw[qu];omega
theorem khw(p:Li)(i:Nat):(pkF p i).length<=p.length:=k3u _ _
theorem krq(p:Li)(i:Nat):(pkI p i).length<=p.length+1:=by
 unfold pkI;have:=khw p i;split;.omega
 .simp;omega
theorem kv3(l:Li)(a b:Int):(l++[a]).set l.length b=l++[b]:=by simp
def allB(l:Li):Bool:=l.all λx=>decide (x<18446744069414584321)
theorem k9g{l:Li}:allB l=true↔∀x∈l,x<18446744069414584321:=by unfold allB;simp
def keyB(B l:Li):ByteArray:=strOfNums (B.flatMap (dig 8)++l.flatMap (dig 8))
structure OrOk(ks:Lb)(vs:Li)(qs:List wN):Prop where
 len:ks.length=vs.length
 rng:∀v∈vs,0<=v/\v<qs.length
def pk(F:Bool)(qs:List wN)(J:Lb)(vs:Li)(B:Int)(l:Li):Option Int:=if allB l=true then if mHas (BEq.beq (keyB [B] l)) J=true then some (ix qs (mVal (BEq.beq (keyB [B] l)) J vs 0)).wBb else if F=true then none else some (hashS B l)else none
def pkR(B:Int)(l:Li):Option Int:=if allB l=true then some (hashS B l)else none
theorem pk_real(qs:List wN)(B:Int)(l:Li):pk false qs [] [] B l=pkR B l:=by unfold pk pkR;simp
def noteV(n:wo):Bool:=decide (n.Value<=4294967295)&&decide (n.wAz<18446744069414584321)&&decide (n.Rho<18446744069414584321)&&decide (n.wBA<18446744069414584321)
def noteL(n:wo):Li:=[n.Value,n.wAz,n.Rho,n.wBA]
def noteOf(x:wAC):wo:=⟨x.wAS,x.wAh,x.wAb,x.wAp⟩
def spendV(x:wAC):Bool:=noteV (noteOf x)&&decide (x.Key<18446744069414584321)&&decide (0<=x.wAg)&&decide (x.wAg<4)&&decide (0<=x.wAK)&&decide (x.wAK<=4095)&&decide (x.wAa.length<=12)&&allB x.wAa
def inV(B:Int)(x:wAC):Bool:=spendV x&&decide (x.wAa.length=B)&&decide (x.wAK<2^B.toNat)
def relV(s:wAQ)(w:wAD):Bool:=decide (1<=s.wH)&&decide (s.wH<=12)&&allB [s.wX,s.wQ,s.wBN,w.wAd]&&decide (s.wJ<=4294967295)&&decide (s.wL<=4294967295)&&decide (s.Fee<=4294967295)&&allB s.wC&&allB s.wy&&allB s.wAc&&decide (w.Ins.length=s.wC.length)&&decide (w.Ins.length<=4)&&decide (w.wB.length=s.wy.length)&&decide (w.wB.length=s.wAc.length)&&decide (w.wB.length<=4)&&w.Ins.all (inV s.wH)&&w.wB.all noteV
def climbL:Int->Int->Li->Int
 |d,_,[]=>d|d,p,n::r=>climbL (if p%2=0 then hashS 6 [d,n]else hashS 6 [n,d]) (p/2) r
def climbS(F pos:Int)(B:Li):Int:=if B.length<=12/\0<=pos/\pos<2^B.length/\F<18446744069414584321/\allB B=true then climbL F pos B else 0
def ownerS(key B:Int):Int:=if 0<=B/\B<4 then hashS 1 [key,B]else 0
def acctS(B:Int):Int:=hashS 7 [B]
abbrev Ask:=Int->Li->Option Int
def markP(f:Ask)(key rho:Int):Option Int:=if key<18446744069414584321/\rho<18446744069414584321 then f 3 [key,rho]else none
def commP(f:Ask)(n:wo):Option Int:=if noteV n=true then f 2 (noteL n)else none
def inE(f:Ask)(B F:Int)(x:wAC):Int:=if x.wAh≠ownerS x.Key x.wAg then 21 else if(markP f x.Key x.wAb).isSome=false∨(markP f x.Key x.wAb).getD 0≠F then 12 else if x.wBO=true then if x.wAS≠0 then 13 else 0 else if(commP f (noteOf x)).isSome=false∨climbS ((commP f (noteOf x)).getD 0) x.wAK x.wAa≠B then 11 else 0
def insE(f:Ask)(B:Int):List wAC->Li->Int
 |x::r,m::F=>if inE f B m x≠0 then inE f B m x else insE f B r F|_,_=>0
def outB(f:Ask)(n:wo)(c r:Int):Bool:=(commP f n).isSome&&(commP f n).getD 0==c&&n.Rho==r
def outsB(f:Ask):List wo->Li->Li->Bool
 |n::l,c::cs,r::B=>outB f n c r&&outsB f l cs B|_,_,_=>true
def inS(l:List wAC):Int:=l.foldl (λs x=>(s+x.wAS)%18446744073709551616) 0
def outS(l:List wo):Int:=l.foldl (λs x=>(s+x.Value)%18446744073709551616) 0
def checkS(f:Ask)(s:wAQ)(w:wAD):Int:=if relV s w=false then 1 else if insE f s.wX w.Ins s.wC≠0 then insE f s.wX w.Ins s.wC else if outsB f w.wB s.wy s.wAc=false then 1 else if 0<s.wJ/\s.wQ≠acctS w.wAd then 21 else if(inS w.Ins+s.wJ)%18446744073709551616≠((outS w.wB+s.wL)%18446744073709551616+s.Fee)%18446744073709551616 then 13 else 0
structure NR(n:wo):Prop where
 v:U64 n.Value
 o:U64 n.wAz
 r:U64 n.Rho
 b:U64 n.wBA
structure PR(x:wAC):Prop where
 n:NR (noteOf x)k:U64 x.Key
 nu:-9223372036854775808<=x.wAg/\x.wAg<=9223372036854775807
 po:-9223372036854775808<=x.wAK/\x.wAK<=9223372036854775807
 pa:Us x.wAa
 pl:x.wAa.length<=1073741824
structure WR(w:wAD):Prop where
 i:∀x∈w.Ins,PR x
 il:w.Ins.length<=1073741824
 o:∀x∈w.wB,NR x
 ol:w.wB.length<=1073741824
 s:U64 w.wAd
structure SR(s:wAQ):Prop where
 d:-9223372036854775808<=s.wH/\s.wH<=9223372036854775807
 a:U64 s.wX
 m:Us s.wC
 ml:s.wC.length<=1073741824
 c:Us s.wy
 cl:s.wy.length<=1073741824
 r:Us s.wAc
 rl:s.wAc.length<=1073741824
 de:U64 s.wJ
 wi:U64 s.wL
 f:U64 s.Fee
 ac:U64 s.wQ
 b:U64 s.wBN
structure PQ(x:wAC):Prop where
 n:NR (noteOf x)k:U64 x.Key
 nu:-9223372036854775808<=x.wAg/\x.wAg<=9223372036854775807
 po:-9223372036854775808<=x.wAK/\x.wAK<=9223372036854775807
 pa:Us x.wAa
 pl:x.wAa.length<=9223372036854775807
structure WQ(w:wAD):Prop where
 i:∀x∈w.Ins,PQ x
 il:w.Ins.length<=9223372036854775807
 o:∀x∈w.wB,NR x
 ol:w.wB.length<=9223372036854775807
 s:U64 w.wAd
theorem kn9{s:wAQ}{w:wAD}:relV s w=true↔1<=s.wH/\s.wH<=12/\allB [s.wX,s.wQ,s.wBN,w.wAd]=true/\s.wJ<=4294967295/\s.wL<=4294967295/\s.Fee<=4294967295/\allB s.wC=true/\allB s.wy=true/\allB s.wAc=true/\w.Ins.length=s.wC.length/\w.Ins.length<=4/\w.wB.length=s.wy.length/\w.wB.length=s.wAc.length/\w.wB.length<=4/\w.Ins.all (inV s.wH)=true/\w.wB.all noteV=true:=by unfold relV;simp only[qh,qy,and_assoc]
theorem pkR_u{l:Int}{a:Li}:pkR l a=none∨∃n,pkR l a=some n/\U64 n:=by
 unfold pkR;split;.exact .inr ⟨_,rfl,kx _ _⟩
 .exact .inl rfl
structure Pz{α:Type}(enc:α->Li)(G:α->Prop)(r:Li)(f:Bool)(v:α)(r':Li)(f':Bool):Prop where
 snd:f'=false->f=false/\r=enc v++r'/\G v
 cpl:∀v0 s,f=false->r=enc v0++s->G v0->f'=false/\v=v0/\r'=s
theorem Pz.two{α β:Type}{X:α->Li}{Y:α->Prop}{Z:β->Li}{G2:β->Prop}{r r1 r2:Li}{f f1 f2:Bool}{a:α}{b:β}(h1:Pz X Y r f a r1 f1)(h2:Pz Z G2 r1 f1 b r2 f2):Pz (λp:α×β=>X p.1++Z p.2) (λp=>Y p.1/\G2 p.2) r f (a,b) r2 f2 where
 snd h:=by obtain⟨x1,B,F⟩:=h2.snd h;obtain⟨J,M,U⟩:=h1.snd x1;exact⟨J,by rw[M,B,qn],U,F⟩
 cpl v0 s hf hr hG:=by rw[qn]at hr;obtain⟨J,M,U⟩:=h1.cpl v0.1 _ hf hr hG.1;obtain⟨x1,B,F⟩:=h2.cpl v0.2 _ J U hG.2;exact⟨x1,by rw[M,B],F⟩
theorem Pz.to{α β:Type}{B:α->Li}{F:α->Prop}{J:β->Li}{M:β->Prop}{r X:Li}{f Y:Bool}{a:α}(h1:Pz B F r f a X Y)(φ:α->β)(ψ:β->α)(he:∀x,F x->J (φ x)=B x/\M (φ x))(hi:∀y,M y->φ (ψ y)=y/\B (ψ y)=J y/\F (ψ y)):Pz J M r f (φ a) X Y where
 snd h:=by obtain⟨x1,Z,U⟩:=h1.snd h;exact⟨x1,by rw[Z,(he a U).1],(he a U).2⟩
 cpl v0 s hf hr hG:=by obtain⟨i1,i2,i3⟩:=hi v0 hG;obtain⟨y1,y2,y3⟩:=h1.cpl (ψ v0) s hf (by rw[i2];exact hr) i3;exact⟨y1,by rw[y2,i1],y3⟩
def Gl{α:Type}(G:α->Prop)(n:Nat)(l:List α):Prop:=l.length=n/\∀x∈l,G x
theorem Pz.nil{α:Type}{e:α->Li}{G:α->Prop}{r:Li}{f:Bool}:Pz (λl:List α=>l.flatMap e) (Gl G 0) r f [] r f where
 snd h:=⟨h,rfl,rfl,by intro x B;cases B⟩;cpl v0 s hf hr hG:=by have:=qch.1 hG.1;subst this;exact⟨hf,rfl,hr⟩
theorem Pz.snoc{α:Type}{e:α->Li}{G:α->Prop}{r r1 r2:Li}{f f1 f2:Bool}{l:List α}{x:α}{n:Nat}(h1:Pz (λl:List α=>l.flatMap e) (Gl G n) r f l r1 f1)(h2:Pz e G r1 f1 x r2 f2):Pz (λl:List α=>l.flatMap e) (Gl G (n+1)) r f (l++[x]) r2 f2 where
 snd h:=by
  obtain⟨x1,M,U⟩:=h2.snd h;obtain⟨X,Y,J⟩:=h1.snd x1;refine⟨X,by rw[Y,M];simp,by simp[J.1],?_⟩;intro y B;rcases qae.1 B with B|B;.exact J.2 y B
  .rw[qah.1 B];exact U
 cpl v0 s hf Z hG:=by
  have F:v0≠[]:=by intro h;have:=hG.1;rw[h]at this;simp at this
  have hd:=List.dropLast_concat_getLast F;generalize v0.dropLast=i at*;generalize v0.getLast F=z at*;subst hd;obtain⟨g1,g2⟩:=hG;have Z:r=i.flatMap e++(e z++s):=by rw[Z];simp
  obtain⟨X,Y,J⟩:=h1.cpl i _ hf Z ⟨by simpa using g1,λy B=>g2 y (by simp[B])⟩;obtain⟨x1,M,U⟩:=h2.cpl z _ X J (g2 z qqs);exact⟨x1,by rw[Y,M],U⟩
theorem Pz.short{α:Type}{e:α->Li}{G:α->Prop}{r F:Li}{f:Bool}{l:List α}{n m:Nat}(h1:Pz (λl:List α=>l.flatMap e) (Gl G n) r f l F true)(M:n<=m):Pz (λl:List α=>l.flatMap e) (Gl G m) r f l F true where
 snd h:=by cases h
 cpl v0 s hf B hG:=by
  have B:r=(v0.take n).flatMap e++((v0.drop n).flatMap e++s):=by rw[B,<-qn,<-qbp,qbi]
  have:=(h1.cpl (v0.take n) _ hf B ⟨by rw[qu,hG.1];omega,λx J=>hG.2 x (qba J)⟩).1;cases this
def encC{α:Type}(e:α->Li)(l:List α):Li:=dig 4 l.length++l.flatMap e
def Gn(m n:Int):Prop:=0<=n/\n<4294967296/\n<=m
def Gc{α:Type}(G:α->Prop)(m:Int)(l:List α):Prop:=Gn m l.length/\∀x∈l,G x
theorem Pz.list{α:Type}{e:α->Li}{G:α->Prop}{r Y Z:Li}{f f1 f2:Bool}{l:List α}{n m:Int}(h1:Pz (dig 4) (Gn m) r f n Y f1)(h2:Pz (λl:List α=>l.flatMap e) (Gl G n.toNat) Y f1 l Z f2):Pz (encC e) (Gc G m) r f l Z f2 where
 snd h:=by
  obtain⟨x1,J,B⟩:=h2.snd h;obtain⟨M,U,F⟩:=h1.snd x1;have X:l.length=n:=by rw[B.1];have:=F.1;omega
  exact⟨M,by unfold encC;rw[X,U,J,qn],by unfold Gc;rw[X];exact⟨F,B.2⟩⟩
 cpl v0 s hf hr hG:=by obtain⟨M,U,F⟩:=h1.cpl _ _ hf hr hG.1;obtain⟨x1,J,B⟩:=h2.cpl v0 s M F ⟨by rw[U];simp,hG.2⟩;exact⟨x1,J,B⟩
def Gu(m n:Int):Prop:=U64 n/\n<=m
def Gp(m p:Int)(l:Li):Prop:=l.length<=m/\(∀x∈l,x<p)/\Us l
section
variable{b:Li}{pos m p:Int}{f:Bool}
theorem rdU_pz(h:RdOk b pos):Pz (dig 8) (Gu m) (b.drop pos.toNat) f (rdU b pos f m).n (b.drop (rdU b pos f m).pos.toNat) (rdU b pos f m).fail where
 snd hf:=by obtain⟨h1,B,F⟩:=rdU_snd h hf;exact⟨h1,B,rdU_n h,F⟩
 cpl v0 s hf hr hG:=rdU_cpl h hf hr hG.1 hG.2
theorem rdI_pz(h:RdOk b pos)(J:0<=m/\m<4294967296):Pz (dig 4) (Gn m) (b.drop pos.toNat) f (rdI b pos f m).n (b.drop (rdI b pos f m).pos.toNat) (rdI b pos f m).fail where
 snd hf:=by obtain⟨h1,B,F⟩:=rdI_snd h hf;have:=rdI_n (f:=f) h J.1;exact⟨h1,B,this.1,by omega,F⟩
 cpl v0 s hf hr hG:=rdI_cpl h hf hr hG.1 hG.2.1 hG.2.2
theorem rdL_pz(h:RdOk b pos)(B:0<=m/\m<=4294967295):Pz encL (Gp m p) (b.drop pos.toNat) f (rdL b pos f m p).l (b.drop (rdL b pos f m p).pos.toNat) (rdL b pos f m p).fail where
 snd hf:=by obtain⟨h1,F,J,M,U⟩:=rdL_snd h B hf;exact⟨h1,F,J,M,U⟩
 cpl v0 s hf hr hG:=rdL_cpl h B hf hr hG.1 hG.2.1 hG.2.2
end
section
variable{b:Li}{f:Bool}{m p:Int}
theorem nB8_pz(h:By b)(U:m<=18446744073709551615):Pz (dig 8) (Gu m) b f (nB 8 b f m).n (nB 8 b f m).b (nB 8 b f m).f where
 snd hf:=by obtain⟨h1,F,J⟩:=nB_snd h qqo hf;have:=nB_n (f:=f) (m:=m) h (k:=8) qqo;exact⟨h1,F,by omega,J⟩
 cpl v0 s hf hr hG:=by have B:=hG.1;rw[nB_cpl (k:=8) qqo hf hr B.1 (by exact B.2) hG.2];exact⟨rfl,rfl,rfl⟩
theorem nB4_pz(h:By b):Pz (dig 4) (Gn m) b f (nB 4 b f m).n (nB 4 b f m).b (nB 4 b f m).f where
 snd hf:=by obtain⟨h1,F,J⟩:=nB_snd h qqo hf;have:=nB_n (f:=f) (m:=m) h (k:=4) qqo;exact⟨h1,F,this.1,this.2,J⟩
 cpl v0 s hf hr hG:=by rw[nB_cpl (k:=4) qqo hf hr hG.1 (by exact hG.2.1) hG.2.2];exact⟨rfl,rfl,rfl⟩
def lBs(p:Int):Nat->Li->Li->RB
 |0,b,acc=>⟨acc,b,false⟩|k+1,b,acc=>if p<=val (b.take 8)then⟨[],b.drop 8,true⟩else lBs p k (b.drop 8) (acc++[val (b.take 8)])
def lB(b:Li)(f:Bool)(m p:Int):RB:=if(nB 4 b f m).f=true∨(nB 4 b f m).b.length/8<(nB 4 b f m).n then⟨[],(nB 4 b f m).b,true⟩else lBs p (nB 4 b f m).n.toNat (nB 4 b f m).b []
theorem lBs_b:∀k{b acc:Li},By b->By (lBs p k b acc).b/\(lBs p k b acc).b.length<=b.length
 |0,_,_,h=>⟨h,qaf _⟩|k+1,b,acc,h=>by
  unfold lBs;split;.exact⟨h.drop _,by rw[qal];omega⟩
  .have:=lBs_b k (acc:=acc++[val (b.take 8)]) (h.drop 8);rw[qal]at this;exact⟨this.1,by omega⟩
theorem lBs_snd:∀k{b acc:Li},8*k<=b.length->(lBs p k b acc).f=false->(lBs p k b acc).l=acc++nums k b/\(∀x∈nums k b,x<p)/\(lBs p k b acc).b=b.drop (8*k)
 |0,b,acc,_,_=>⟨by simp[lBs,nums],by simp[nums],by simp[lBs]⟩|k+1,b,acc,Y,F=>by
  unfold lBs at*;split at F;.cases F
  .rename_i J;rw[qe J];obtain⟨M,U,X⟩:=lBs_snd k (by rw[qal];omega) F;refine⟨?_,?_,?_⟩;.rw[M,qn];rfl
   .intro x B;rcases qak.1 B with rfl|B;.omega
    .exact U x B
   .rw[X,qdf];congr 1;omega
theorem lBs_cpl:∀k{b acc:Li},(∀x∈nums k b,x<p)->(lBs p k b acc).f=false
 |0,_,_,_=>rfl|k+1,b,acc,B=>by unfold lBs;have J:=B (val (b.take 8)) (by simp[nums]);rw[qe qqo];exact lBs_cpl k λx F=>B x (qem _ F)
theorem lB_b(h:By b):By (lB b f m p).b/\(lB b f m p).b.length<=b.length:=by
 unfold lB;have h1:=nB_b (k:=4) (f:=f) (m:=m) h;split;.exact h1
 .have:=lBs_b (p:=p) (nB 4 b f m).n.toNat (acc:=[]) h1.1;exact⟨this.1,by omega⟩
theorem lB_pz(h:By b)(hm:m<=4294967295):Pz encL (Gp m p) b f (lB b f m p).l (lB b f m p).b (lB b f m p).f where
 snd hf:=by
  unfold lB at*;split at hf;.cases hf
  .rename_i B;rw[qe B];have Y:(nB 4 b f m).f=false:=by
    cases F:(nB 4 b f m).f;.rfl
    .exact absurd (.inl F) B
   obtain⟨M,J,U⟩:=(nB4_pz (f:=f) (m:=m) h).snd Y;have X:=(nB_b (k:=4) (f:=f) (m:=m) h).1;obtain⟨z1,z2,z3⟩:=U;generalize nB 4 b f m=N at*;obtain⟨k1,k2,k3⟩:=lBs_snd N.n.toNat qqo hf;rw[qcd]at k1;rw[k1,k3];refine⟨M,?_,by rw[k30];omega,k2,nums_us _ X⟩;rw[J];unfold encL;rw[k30,show N.n.toNat=N.n by omega,len4_in qqo,qn];congr 1;exact keh N.n.toNat X qqo
 cpl v0 s hf hr hG:=by
  obtain⟨hl,hp,hu⟩:=hG;unfold encL at hr;rw[len4_in qqo,qn]at hr;obtain⟨M,J,U⟩:=(nB4_pz (f:=f) (m:=m) h).cpl _ _ hf hr ⟨by omega,by omega,hl⟩;obtain⟨k1,k2,k3⟩:=k6a v0 U hu;have B:¬((nB 4 b f m).f=true∨(nB 4 b f m).b.length/8<(nB 4 b f m).n):=by rw[M,J];simp;omega
  unfold lB;rw[qe B,J,qv];have F:=lBs_cpl (p:=p) (acc:=[]) v0.length (b:=(nB 4 b f m).b) (by rw[k1];exact hp);obtain⟨q1,q2,q3⟩:=lBs_snd _ k3 F;exact⟨F,by rw[q1,k1];rfl,by rw[q3];exact k2⟩
end
def encN(n:wo):Li:=dig 8 n.Value++(dig 8 n.wAz++(dig 8 n.Rho++dig 8 n.wBA))
def encSp(x:wAC):Li:=encN (noteOf x)++(dig 8 x.Key++(dig 4 (len4 x.wAg)++(dig 4 (len4 x.wAK)++(encL x.wAa++dig 4 (len4 (if x.wBO=true then 1 else 0))))))
def encW(w:wAD):Li:=dig 4 (len4 w.Ins.length)++(w.Ins.flatMap encSp++(dig 4 (len4 w.wB.length)++(w.wB.flatMap encN++dig 8 w.wAd)))
def rightV(w:wAD):Bool:=decide (w.Ins.length<=4)&&decide (w.wB.length<=4)&&decide (w.wAd<18446744069414584321)&&w.Ins.all spendV&&w.wB.all noteV
structure Lim where
 m:Int
 p:Int
 n:Int
 q:Int
 hm:m<=18446744073709551615
 hp:p<=18446744073709551615
 hn:3<=n
 hq:4095<=q
 hm':4294967295<=m
 hp':18446744069414584320<=p
def limW:Lim:=⟨4294967295,18446744069414584320,3,4095,by omega,by omega,by omega,by omega,by omega,by omega⟩
def limR:Lim:=⟨18446744073709551615,18446744073709551615,4294967296,4294967296,by omega,by omega,by omega,by omega,by omega,by omega⟩
def GN(L:Lim)(n:wo):Prop:=Gu L.m n.Value/\Gu L.p n.wAz/\Gu L.p n.Rho/\Gu L.p n.wBA
def GS(L:Lim)(x:wAC):Prop:=GN L (noteOf x)/\Gu L.p x.Key/\Gn L.n x.wAg/\Gn L.q x.wAK/\Gp 12 18446744069414584321 x.wAa
theorem GN.nr{L:Lim}{n:wo}(h:GN L n):NR n:=⟨h.1.1,h.2.1.1,h.2.2.1.1,h.2.2.2.1⟩
theorem GS.pq{L:Lim}{x:wAC}(h:GS L x):PQ x:=by obtain⟨h1,B,F,J,M⟩:=h;obtain⟨X,a2,Y⟩:=F;obtain⟨Z,b2,b3⟩:=J;obtain⟨c1,c2,U⟩:=M;exact⟨h1.nr,B.1,by omega,by omega,U,by omega⟩
theorem kjr{n:wo}:noteV n=true↔n.Value<=4294967295/\n.wAz<18446744069414584321/\n.Rho<18446744069414584321/\n.wBA<18446744069414584321:=by unfold noteV;simp only[qh,qy,and_assoc]
theorem k1t{x:wAC}:spendV x=true↔noteV (noteOf x)=true/\x.Key<18446744069414584321/\0<=x.wAg/\x.wAg<4/\0<=x.wAK/\x.wAK<=4095/\x.wAa.length<=12/\allB x.wAa=true:=by unfold spendV;simp only[qh,qy,and_assoc]
theorem k3t{w:wAD}:rightV w=true↔w.Ins.length<=4/\w.wB.length<=4/\w.wAd<18446744069414584321/\(∀x∈w.Ins,spendV x=true)/\∀x∈w.wB,noteV x=true:=by unfold rightV;simp only[qh,qy,and_assoc,qbq]
theorem NR.gn{n:wo}(h:NR n)(B:noteV n=true)(L:Lim):GN L n:=by obtain⟨h1,F,J,M⟩:=kjr.1 B;have:=L.hm';have:=L.hp';exact⟨⟨h.v,by omega⟩,⟨h.o,by omega⟩,⟨h.r,by omega⟩,⟨h.b,by omega⟩⟩
theorem PQ.gs{x:wAC}(h:PQ x)(M:spendV x=true)(L:Lim):GS L x:=by obtain⟨h1,U,B,X,F,Y,Z,J⟩:=k1t.1 M;have:=L.hp';have:=L.hn;have:=L.hq;exact⟨h.n.gn h1 L,⟨h.k,by omega⟩,⟨B,by omega,by omega⟩,⟨F,by omega,by omega⟩,by omega,k9g.1 J,h.pa⟩
theorem GN.noteV{n:wo}(h:GN limW n):noteV n=true:=by obtain⟨h1,B,F,J⟩:=h;have M:=h1.2;have U:n.wAz<=18446744069414584320:=B.2;have X:n.Rho<=18446744069414584320:=F.2;have Y:n.wBA<=18446744069414584320:=J.2;exact kjr.2 ⟨M,by omega,by omega,by omega⟩
theorem GS.spendV{x:wAC}(h:GS limW x):spendV x=true:=by obtain⟨h1,M,B,F,J⟩:=h;have X:x.Key<=18446744069414584320:=M.2;have Y:x.wAg<=3:=B.2.2;have U:=F.2.2;have Z:=J.1;exact k1t.2 ⟨h1.noteV,by omega,B.1,by omega,F.1,U,by omega,k9g.2 J.2.1⟩
theorem pz_note{L:Lim}{r B F J M:Li}{f U X Y Z:Bool}{a b c d:Int}(h1:Pz (dig 8) (Gu L.m) r f a B U)(h2:Pz (dig 8) (Gu L.p) B U b F X)(h3:Pz (dig 8) (Gu L.p) F X c J Y)(h4:Pz (dig 8) (Gu L.p) J Y d M Z):Pz encN (GN L) r f ⟨a,b,c,d⟩ M Z:=(h3.two h4|>h2.two|>h1.two).to (λp:Int×Int×Int×Int=>wo.mk p.1 p.2.1 p.2.2.1 p.2.2.2) (λn=>(n.Value,n.wAz,n.Rho,n.wBA)) (λ_ h=>⟨rfl,h⟩) λ_ h=>⟨rfl,rfl,h⟩
theorem ko4{L:Lim}{r r1 r2 r3 r4 r5 r6:Li}{f f1 f2 f3 f4 f5 f6:Bool}{a:wo}{k n q:Int}{p:Li}{d:Int}(h1:Pz encN (GN L) r f a r1 f1)(h2:Pz (dig 8) (Gu L.p) r1 f1 k r2 f2)(h3:Pz (dig 4) (Gn L.n) r2 f2 n r3 f3)(h4:Pz (dig 4) (Gn L.q) r3 f3 q r4 f4)(h5:Pz encL (Gp 12 18446744069414584321) r4 f4 p r5 f5)(h6:Pz (dig 4) (Gn 1) r5 f5 d r6 f6):Pz encSp (GS L) r f ⟨a.Value,a.wAz,a.Rho,a.wBA,k,n,q,p,d==1⟩ r6 f6:=by
 refine(h5.two h6|>h4.two|>h3.two|>h2.two|>h1.two).to (λx:wo×Int×Int×Int×Li×Int=>wAC.mk x.1.Value x.1.wAz x.1.Rho x.1.wBA x.2.1 x.2.2.1 x.2.2.2.1 x.2.2.2.2.1 (x.2.2.2.2.2==1)) (λx=>(noteOf x,x.Key,x.wAg,x.wAK,x.wAa,if x.wBO=true then 1 else 0)) ?_ ?_
 .rintro⟨a,k,n,q,p,d⟩⟨Y,Z,B,F,g5,g6⟩;refine⟨?_,Y,Z,B,F,g5⟩;obtain⟨d0,d1,d2⟩:=g6;obtain⟨J,M,n2⟩:=B;obtain⟨U,X,q2⟩:=F;have e:(if(d==1)=true then 1 else 0)=d:=by have d2:d<=1:=d2;have d0:0<=d:=d0;rcases(by omega:d=0∨d=1)with rfl|rfl<;>rfl
  show encN a++(dig 8 k++(dig 4 (len4 n)++(dig 4 (len4 q)++(encL p++dig 4 (len4 (if(d==1)=true then 1 else 0))))))=encN a++(dig 8 k++(dig 4 n++(dig 4 q++(encL p++dig 4 d))));rw[e,len4_in (n:=n) ⟨J,by have:n<4294967296:=M;omega⟩,len4_in (n:=q) ⟨U,by have:q<4294967296:=X;omega⟩,len4_in (n:=d) (by omega)]
 .rintro⟨v,o,rh,bl,k,n,q,p,d⟩⟨Y,Z,B,F,g5⟩;obtain⟨J,M,n2⟩:=B;obtain⟨U,X,q2⟩:=F;refine⟨?_,?_,Y,Z,⟨J,M,n2⟩,⟨U,X,q2⟩,g5,?_⟩;.cases d<;>rfl
  .show encN ⟨v,o,rh,bl⟩++(dig 8 k++(dig 4 n++(dig 4 q++(encL p++dig 4 (if d=true then 1 else 0)))))=encN ⟨v,o,rh,bl⟩++(dig 8 k++(dig 4 (len4 n)++(dig 4 (len4 q)++(encL p++dig 4 (len4 (if d=true then 1 else 0))))));rw[len4_in (n:=n) (by exact⟨J,by have:n<4294967296:=M;omega⟩),len4_in (n:=q) (by exact⟨U,by have:q<4294967296:=X;omega⟩),len4_in (n:=if d=true then 1 else 0) (by split<;>omega)]
  .cases d;.exact(⟨by decide,by decide,by decide⟩:Gn 1 0)
   .exact(⟨by decide,by decide,by decide⟩:Gn 1 1)
structure EW(w:wAD)(b:Li):Prop where
 r:WQ w
 v:rightV w=true
 e:encW w=b
def zeroW:wAD:=⟨[],[],0⟩
open Classical in
def decW(b:Li):wAD×Int:=if h:∃w,EW w b then(Classical.choose h,0)else(zeroW,2)
theorem kqb{b:Li}{t:wAD}(h:EW t b)(F:∀u,EW u b->t=u):decW b=(t,0):=by unfold decW;have B:∃t,EW t b:=⟨t,h⟩;rw[dif_pos B,<-F _ (Classical.choose_spec B)]
theorem decW_no{b:Li}(h:∀u,¬EW u b):decW b=(zeroW,2):=by unfold decW;rw[dif_neg λ⟨u,B⟩=>h u B]
def Gw(L:Lim)(w:wAD):Prop:=Gc (GS L) 4 w.Ins/\Gc (GN L) 4 w.wB/\Gu L.p w.wAd
theorem Gw.wq{L:Lim}{w:wAD}(h:Gw L w):WQ w:=by obtain⟨⟨i,hi⟩,⟨o,F⟩,s⟩:=h;have:=i.2.2;have:=o.2.2;exact⟨λx B=>(hi x B).pq,by omega,λx B=>(F x B).nr,by omega,s.1⟩
theorem encC_in{α:Type}(e:α->Li)(l:List α)(h:l.length<=4):encC e l=dig 4 (len4 l.length)++l.flatMap e:=by unfold encC;rw[len4_in qqo]
theorem pz_wit{L:Lim}{b r1 r2 r3:Li}{f1 f2 f3:Bool}{is:List wAC}{os:List wo}{s:Int}(h1:Pz (encC encSp) (Gc (GS L) 4) b false is r1 f1)(h2:Pz (encC encN) (Gc (GN L) 4) r1 f1 os r2 f2)(h3:Pz (dig 8) (Gu L.p) r2 f2 s r3 f3):(f3=false->r3=[]->encW ⟨is,os,s⟩=b/\Gw L ⟨is,os,s⟩)/\∀w,EW w b->f3=false/\r3=[]/\⟨is,os,s⟩=w:=by
 constructor;.rintro rfl rfl;obtain⟨X,a2,Y⟩:=h3.snd rfl;obtain⟨Z,b2,M⟩:=h2.snd X;obtain⟨c1,c2,U⟩:=h1.snd Z;refine⟨?_,U,M,Y⟩;have l1:=U.1.2.2;have l2:=M.1.2.2;rw[c2,b2,a2,encC_in _ _ qqo,encC_in _ _ qqo];simp[encW]
 .rintro⟨B,F,s0⟩⟨hr,hv,he⟩;obtain⟨v1,v2,v3,v4,v5⟩:=k3t.1 hv;have v1:B.length<=4:=v1;have v2:F.length<=4:=v2;have v3:s0<18446744069414584321:=v3;have hp:=L.hp';have e:b=encC encSp B++(encC encN F++(dig 8 s0++[])):=by rw[<-he,encC_in _ _ v1,encC_in _ _ v2];simp[encW]
  obtain⟨c1,c2,U⟩:=h1.cpl B _ rfl e ⟨⟨by omega,by omega,by omega⟩,λx J=>(hr.i x J).gs (v4 x J) L⟩;obtain⟨Z,b2,M⟩:=h2.cpl F _ c1 U ⟨⟨by omega,by omega,by omega⟩,λx J=>(hr.o x J).gn (v5 x J) L⟩;obtain⟨X,a2,Y⟩:=h3.cpl s0 _ Z M ⟨hr.s,by omega⟩;exact⟨X,Y,by rw[c2,b2,a2]⟩
structure RNt where
 n:wo
 pos:Int
 f:Bool
def rdNt(b:Li)(pos:Int)(f:Bool):RNt:=let A:=rdU b pos f 4294967295;let B:=rdU b A.pos A.fail 18446744069414584320;let C:=rdU b B.pos B.fail 18446744069414584320;let D:=rdU b C.pos C.fail 18446744069414584320;⟨⟨A.n,B.n,C.n,D.n⟩,D.pos,D.fail⟩
theorem rdNt_ok{b:Li}{pos:Int}{f:Bool}(h:RdOk b pos):RdOk b (rdNt b pos f).pos:=rdU_ok (rdU_ok (rdU_ok (rdU_ok h)))
theorem rdNt_pz{b:Li}{pos:Int}{f:Bool}(h:RdOk b pos):Pz encN (GN limW) (b.drop pos.toNat) f (rdNt b pos f).n (b.drop (rdNt b pos f).pos.toNat) (rdNt b pos f).f:=pz_note (L:=limW) (rdU_pz h) (rdU_pz (rdU_ok h)) (rdU_pz (rdU_ok (rdU_ok h))) (rdU_pz (rdU_ok (rdU_ok (rdU_ok h))))
structure RNb where
 n:wo
 b:Li
 f:Bool
def nNt(b:Li)(f:Bool):RNb:=let A:=nB 8 b f 18446744073709551615;let B:=nB 8 A.b A.f 18446744073709551615;let C:=nB 8 B.b B.f 18446744073709551615;let D:=nB 8 C.b C.f 18446744073709551615;⟨⟨A.n,B.n,C.n,D.n⟩,D.b,D.f⟩
theorem nNt_b{b:Li}{f:Bool}(h:By b):By (nNt b f).b/\(nNt b f).b.length<=b.length:=have h1:=nB_b (k:=8) (f:=f) (m:=18446744073709551615) h;have B:=nB_b (k:=8) (f:=(nB 8 b f 18446744073709551615).f) (m:=18446744073709551615) h1.1;have F:=nB_b (k:=8) (f:=(nB 8 (nB 8 b f 18446744073709551615).b (nB 8 b f 18446744073709551615).f 18446744073709551615).f) (m:=18446744073709551615) B.1;have J:=nB_b (k:=8) (f:=(nB 8 (nB 8 (nB 8 b f 18446744073709551615).b (nB 8 b f 18446744073709551615).f 18446744073709551615).b (nB 8 (nB 8 b f 18446744073709551615).b (nB 8 b f 18446744073709551615).f 18446744073709551615).f 18446744073709551615).f) (m:=18446744073709551615) F.1;⟨J.1,qbd J.2 (qbd F.2 (qbd B.2 h1.2))⟩
theorem nNt_pz{b:Li}{f:Bool}(h:By b):Pz encN (GN limR) b f (nNt b f).n (nNt b f).b (nNt b f).f:=have h1:=(nB_b (k:=8) (f:=f) (m:=18446744073709551615) h).1;have B:=(nB_b (k:=8) (f:=(nB 8 b f 18446744073709551615).f) (m:=18446744073709551615) h1).1;have F:=(nB_b (k:=8) (f:=(nB 8 (nB 8 b f 18446744073709551615).b (nB 8 b f 18446744073709551615).f 18446744073709551615).f) (m:=18446744073709551615) B).1;pz_note (L:=limR) (nB8_pz h qqd) (nB8_pz h1 qqd) (nB8_pz B qqd) (nB8_pz F qqd)
theorem k1d{α:Type}(e:α->Li)(k:Nat):∀(l:List α),(∀x∈l,(e x).length<=k)->(l.flatMap e).length<=k*l.length
 |[],_=>by simp|x::r,h=>by have h1:=k1d e k r λy B=>h y (qem _ B);have F:=h x qqs;rw[qbe,qi,qx,Nat.mul_add];omega
theorem nB_m{k:Int}{b:Li}{f:Bool}{m:Int}(B:0<=m):(nB k b f m).n<=m:=by
 unfold nB;split;.exact B
 .rename_i h;exact Int.not_lt.1 λx=>h (.inr x)
def inpV(x:wAC)(d:Int):Bool:=noteV (noteOf x)&&decide (x.Key<18446744069414584321)&&decide (0<=x.wAg)&&decide (x.wAg<4)&&decide (x.wAa.length=d)&&allB x.wAa&&decide (0<=x.wAK)&&decide (x.wAK<ishl .i64 1 d)
theorem ishl1{d:Int}(B:0<=d)(h1:d<=12):ishl .i64 1 d=2^d.toNat:=by
 obtain⟨d,rfl⟩:=qm B;have key:∀d:Nat,d<=12->ishl .i64 1 d=2^d:=by decide+kernel
 exact key d qqo
theorem ktf{x:wAC}(B:x.wAa.length<=12)(F:0<=x.wAK)(h1:x.wAK<4096):inpV ⟨x.wAS,x.wAh,x.wAb,x.wAp,x.Key,x.wAg,0,x.wAa,x.wBO⟩ x.wAa.length=spendV x:=by unfold inpV spendV noteOf;rw[ishl1 qqo qqo];have e:(0:Int)<2^(x.wAa.length:Int).toNat:=Int.pow_pos qqd;simp only[qao e,qao F,qao (show x.wAK<=4095 by omega),qao B,Bool.and_true,decide_true,qdl]
theorem krx{x:wAC}{d:Int}(F:1<=d)(h1:d<=12):inpV x d=inV d x:=by
 rw[Bool.eq_iff_iff];unfold inpV inV;simp only[qh,qy,k1t];rw[ishl1 qqo h1];have B:∀n,n<=12->(2:Int)^n<=4096:=by decide
 have:=B d.toNat qqo;constructor;.rintro⟨⟨⟨⟨⟨⟨⟨a,b⟩,c⟩,e⟩,f⟩,g⟩,i⟩,j⟩;exact⟨⟨⟨a,b,c,e,i,by omega,by omega,g⟩,f⟩,j⟩
 .rintro⟨⟨⟨a,b,c,e,i,k,l,g⟩,f⟩,j⟩;exact⟨⟨⟨⟨⟨⟨⟨a,b⟩,c⟩,e⟩,f⟩,g⟩,i⟩,j⟩
theorem kt0(b:Li):(∃w,EW w b/\decW b=(w,0))∨decW b=(zeroW,2):=by
 unfold decW;by_cases h:∃w,EW w b;.rw[dif_pos h];exact .inl ⟨_,Classical.choose_spec h,rfl⟩
 .rw[dif_neg h];exact .inr rfl
end Go.Proofs.YtfiecdeonopcmaaGreatDoor
namespace Go.Md
open Go Go.Bv Go.Cv Go.Md Go.RowKit
abbrev swpL(g:Li)(i j:Int):Li:=(g.set i.toNat (ix g j)).set j.toNat (ix g i)
theorem k9d{g:Li}{i j:Int}:(swpL g i j).length=g.length:=by simp
section
variable{g:Li}{a b i j:Int}{d:Array Int}
theorem arrN{n:Nat}(h:n<g.length):g.toArray[n]! =ix g n:=by rw[ix_nat g _ qqo qqo,getElem!_pos g.toArray n qqh];simp
theorem arr_ix(B:0<=i)(h1:i<g.length):g.toArray[i.toNat]! =ix g i:=by rw[arrN qqo,show i.toNat=i by omega]
theorem swpN{i j:Nat}(hi:i<g.length)(B:j<g.length):Sort.swp g.toArray i j=(swpL g i j).toArray:=by unfold Sort.swp;rw[arrN hi,arrN B];simp[swpL]
theorem swp_arr(B:0<=i)(hi:i<g.length)(F:0<=j)(J:j<g.length):Sort.swp g.toArray i.toNat j.toNat=(swpL g i j).toArray:=by rw[swpN qqo qqo,show i.toNat=i by omega,show j.toNat=j by omega]
theorem ltI_iff{x y:Int}:Sort.ltInt x y=decide (x<y):=rfl
theorem kqw(hi:0<=i)(h:i<b):Sort.insOuter Sort.ltInt a.toNat b.toNat i.toNat d=Sort.insOuter Sort.ltInt a.toNat b.toNat (i+1).toNat (Sort.insInner Sort.ltInt a.toNat i.toNat d):=by rw[Sort.insOuter,qg qqo,show(i+1).toNat=i.toNat+1 by omega]
theorem kne(hi:0<=i)(h:¬i<b):Sort.insOuter Sort.ltInt a.toNat b.toNat i.toNat d=d:=by rw[Sort.insOuter,qe qqo]
theorem kqr(M:0<=a)(U:a<j)(B:j<g.length):Sort.insInner Sort.ltInt a.toNat j.toNat g.toArray=if ix g j<ix g (j-1)then Sort.insInner Sort.ltInt a.toNat (j-1).toNat (swpL g j (j-1)).toArray else g.toArray:=by
 have F:j.toNat=(j-1).toNat+1:=by omega
 have hs:=swp_arr (g:=g) (i:=j) (j:=j-1) qqo B qqo qqo;have x1:=arr_ix (g:=g) (i:=j) qqo B;have J:=arr_ix (g:=g) (i:=j-1) qqo qqo;generalize(j-1).toNat=m at*;rw[F]at hs x1⊢;rw[Sort.insInner,x1,J,hs];have:m+1>a.toNat:=by omega
 simp only[this,decide_true,Bool.true_and,ltI_iff,qy]
theorem kn5(h:¬a<j):Sort.insInner Sort.ltInt a.toNat j.toNat d=d:=by
 have B:¬j.toNat>a.toNat:=by omega
 generalize j.toNat=n at*;cases n with
 |zero=>rfl|succ n=>rw[Sort.insInner,qe qqm]
def chS(g:Li)(hi first root:Int):Int:=if 2*root+2<hi/\ix g (first+(2*root+1))<ix g (first+(2*root+1)+1)then 2*root+2 else 2*root+1
theorem chS_rng{hi first root:Int}(B:2*root+1<hi):2*root+1<=chS g hi first root/\chS g hi first root<=2*root+2/\chS g hi first root<hi:=by
 unfold chS;split;.omega
 .omega
theorem kom{hi first root:Int}(B:0<=root)(h:hi<=2*root+1):Sort.siftDown Sort.ltInt hi.toNat first.toNat root.toNat d=d:=by rw[Sort.siftDown,dif_pos qqo]
theorem krb{hi first root:Int}(X:0<=root)(h1:0<=first)(Y:2*root+1<hi)(Z:first+hi<=g.length):Sort.siftDown Sort.ltInt hi.toNat first.toNat root.toNat g.toArray=if ix g (first+root)<ix g (first+chS g hi first root)then Sort.siftDown Sort.ltInt hi.toNat first.toNat (chS g hi first root).toNat (swpL g (first+root) (first+chS g hi first root)).toArray else g.toArray:=by
 obtain⟨r,rfl⟩:=qm X;obtain⟨f,rfl⟩:=qm h1;obtain⟨n,rfl⟩:=qm (show 0<=hi by omega);simp only[qv];have x1:g.toArray[f+(2*r+1)]! =ix g (f+(2*r+1)):=by rw[arrN qqo];congr 1
 have x0:g.toArray[f+r]! =ix g (f+r):=by rw[arrN qqo];congr 1
 by_cases B:2*(r:Int)+2<n/\ix g (f+(2*r+1))<ix g (f+(2*r+1)+1)
 .have F:g.toArray[f+(2*r+1)+1]! =ix g (f+(2*r+1)+1):=by rw[arrN qqo];congr 1
  have U:g.toArray[f+(2*r+2)]! =ix g (f+(2*r+2)):=by rw[arrN qqo];congr 1
  have J:chS g n f r=2*r+2:=by unfold chS;rw[qg B]
  have hs:Sort.swp g.toArray (f+r) (f+(2*r+2))=(swpL g (f+r) (f+(2*r+2))).toArray:=by rw[swpN qqo qqo];congr 2
  have M:(2*(r:Int)+2).toNat=2*r+2:=by omega
  rw[Sort.siftDown,dif_neg qqo,qg,J,x0,U,hs,dif_pos qqo,M];.simp only[ltI_iff,qbl,decide_eq_false_iff_not];split<;>first|rfl|(rename_i h;first|rw[qe h]|rw[qg (Decidable.not_not.1 h)])
  .rw[x1,F,ltI_iff,qao B.2,qao (show 2*r+1+1<n by omega)];rfl
 .have J:chS g n f r=2*r+1:=by unfold chS;rw[qe B]
  have hs:Sort.swp g.toArray (f+r) (f+(2*r+1))=(swpL g (f+r) (f+(2*r+1))).toArray:=by rw[swpN qqo qqo];congr 2
  have M:(2*(r:Int)+1).toNat=2*r+1:=by omega
  rw[Sort.siftDown,dif_neg qqo,qe,J,x0,x1,hs,M];.simp only[ltI_iff,qbl,decide_eq_false_iff_not];split<;>first|rfl|(rename_i h;first|rw[qe h]|rw[qg (Decidable.not_not.1 h)])
  .intro h;rw[qh,qy]at h;have F:g.toArray[f+(2*r+1)+1]! =ix g (f+(2*r+1)+1):=by rw[arrN qqo];congr 1
   rw[x1,F,ltI_iff,qy]at h;exact B ⟨by omega,h.2⟩
theorem klm(hi first:Nat):∀n root d,hi-root<=n->(Sort.siftDown Sort.ltInt hi first root d).size=d.size:=by intro n;induction n with
 |zero=>intro root d h;rw[Sort.siftDown,dif_pos qqo]|succ n B=>
  intro root d h;rw[Sort.siftDown];split;.rfl
  .split
   .split;.rfl
    .split;.rw[B _ _ qqo];exact Sort.size_swp _ _ _
     .rfl
   .split;.rfl
    .rw[B _ _ qqo];exact Sort.size_swp _ _ _
theorem knl{hi first:Nat}(h:0<=i):Sort.heapBuild Sort.ltInt hi first (i+1).toNat d=Sort.heapBuild Sort.ltInt hi first i.toNat (Sort.siftDown Sort.ltInt hi first i.toNat d):=by rw[show(i+1).toNat=i.toNat+1 by omega,Sort.heapBuild]
theorem ks7{first:Nat}(h:0<=i):Sort.heapPop Sort.ltInt first (i+1).toNat d=Sort.heapPop Sort.ltInt first i.toNat (Sort.siftDown Sort.ltInt i.toNat first 0 (Sort.swp d first (first+i.toNat))):=by rw[show(i+1).toNat=i.toNat+1 by omega,Sort.heapPop]
theorem kao{p:Int->Bool}(B:0<=i)(h:i<=j):Sort.scanUp p d j.toNat i.toNat=if p d[i.toNat]! =true then Sort.scanUp p d j.toNat (i+1).toNat else i.toNat:=by rw[Sort.scanUp,show(i+1).toNat=i.toNat+1 by omega];simp only[qao (show i.toNat<=j.toNat by omega),Bool.true_and]
theorem k92{p:Int->Bool}(B:1<=i)(h:¬i<=j):Sort.scanUp p d j.toNat i.toNat=i.toNat:=by rw[Sort.scanUp];simp only[qat (show¬i.toNat<=j.toNat by omega)];rfl
theorem k76{p:Int->Bool}(J:1<=i)(h:i<=j):Sort.scanDown p d i.toNat j.toNat=if p d[j.toNat]! =true then Sort.scanDown p d i.toNat (j-1).toNat else j.toNat:=by
 have F:j.toNat=(j-1).toNat+1:=by omega
 have B:i.toNat<=j.toNat:=by omega
 rw[F]at B⊢;rw[Sort.scanDown];simp only[qao B,Bool.true_and]
theorem k6d{p:Int->Bool}(F:1<=i)(h:¬i<=j):Sort.scanDown p d i.toNat j.toNat=j.toNat:=by
 have B:¬i.toNat<=j.toNat:=by omega
 generalize j.toNat=m at*;cases m with
 |zero=>rfl|succ m=>rw[Sort.scanDown];simp only[qat B];rfl
theorem kl7(F:1<=i)(h:i<b)(J:b<=g.length):Sort.scanSorted Sort.ltInt g.toArray b.toNat i.toNat=if ix g i<ix g (i-1)then i.toNat else Sort.scanSorted Sort.ltInt g.toArray b.toNat (i+1).toNat:=by have x1:=arr_ix (g:=g) (i:=i) qqo qqo;have B:=arr_ix (g:=g) (i:=i-1) qqo qqo;rw[Sort.scanSorted,show(i+1).toNat=i.toNat+1 by omega,x1,show i.toNat-1=(i-1).toNat by omega,B];simp only[qao (show i.toNat<b.toNat by omega),Bool.true_and,ltI_iff,qbl,decide_eq_false_iff_not];split<;>first|rfl|(rename_i h;rw[qg (Decidable.not_not.1 h)])
theorem kj5(B:0<=i)(h:¬i<b):Sort.scanSorted Sort.ltInt d b.toNat i.toNat=i.toNat:=by rw[Sort.scanSorted];simp only[qat (show¬i.toNat<b.toNat by omega)];rfl
theorem kov(h:1<=j)(B:j<g.length):Sort.shiftDown Sort.ltInt j.toNat g.toArray=if ix g j<ix g (j-1)then Sort.shiftDown Sort.ltInt (j-1).toNat (swpL g j (j-1)).toArray else g.toArray:=by
 have F:j.toNat=(j-1).toNat+1:=by omega
 have hs:=swp_arr (g:=g) (i:=j) (j:=j-1) qqo B qqo qqo;have x1:=arr_ix (g:=g) (i:=j) qqo B;have J:=arr_ix (g:=g) (i:=j-1) qqo qqo;rw[F]at hs x1⊢;rw[Sort.shiftDown,x1,J,hs];simp only[ltI_iff,qbl,decide_eq_false_iff_not];split<;>first|rfl|(rename_i h;rw[qg (Decidable.not_not.1 h)])
theorem km9(h:¬1<=j):Sort.shiftDown Sort.ltInt j.toNat d=d:=by rw[show j.toNat=0 by omega,Sort.shiftDown]
theorem kso(F:1<=j)(h:j<b)(J:b<=g.length):Sort.shiftUp Sort.ltInt b.toNat j.toNat g.toArray=if ix g j<ix g (j-1)then Sort.shiftUp Sort.ltInt b.toNat (j+1).toNat (swpL g j (j-1)).toArray else g.toArray:=by have hs:=swp_arr (g:=g) (i:=j) (j:=j-1) qqo qqo qqo qqo;have x1:=arr_ix (g:=g) (i:=j) qqo qqo;have B:=arr_ix (g:=g) (i:=j-1) qqo qqo;rw[Sort.shiftUp,qg qqo,show(j+1).toNat=j.toNat+1 by omega,x1,show j.toNat-1=(j-1).toNat by omega,B,hs];simp only[ltI_iff,qbl,decide_eq_false_iff_not];split<;>first|rfl|(rename_i h;rw[qg (Decidable.not_not.1 h)])
theorem krj(B:0<=j)(h:¬j<b):Sort.shiftUp Sort.ltInt b.toNat j.toNat d=d:=by rw[Sort.shiftUp,qe qqo]
theorem kiq(B:0<=i)(h:i<j)(F:j<g.length):Sort.reverseLoop i.toNat j.toNat g.toArray=Sort.reverseLoop (i+1).toNat (j-1).toNat (swpL g i j).toArray:=by rw[Sort.reverseLoop,qg qqo,swp_arr (g:=g) B qqo qqo F,show(i+1).toNat=i.toNat+1 by omega,show(j-1).toNat=j.toNat-1 by omega]
theorem kga(B:0<=i)(h:¬i<j):Sort.reverseLoop i.toNat j.toNat d=d:=by rw[Sort.reverseLoop,qe qqo]
end
def insS(g:Li)(a b:Int):Li:=(Sort.insertionSort Sort.ltInt g.toArray a.toNat b.toNat).toList
def sdS(g:Li)(B hi first:Int):Li:=(Sort.siftDown Sort.ltInt hi.toNat first.toNat B.toNat g.toArray).toList
def heapS(g:Li)(a b:Int):Li:=(Sort.heapSort Sort.ltInt g.toArray a.toNat b.toNat).toList
def revS(g:Li)(a b:Int):Li:=(Sort.reverseRange g.toArray a.toNat b.toNat).toList
def brkS(g:Li)(a b:Int):Li:=(Sort.breakPatterns g.toArray a.toNat b.toNat).toList
def pisS(g:Li)(a b:Int):Array Int×Bool:=Sort.partialInsertionSort Sort.ltInt g.toArray a.toNat b.toNat
def partS(g:Li)(a b p:Int):Nat×Bool×Array Int:=Sort.partition Sort.ltInt g.toArray a.toNat b.toNat p.toNat
def peqS(g:Li)(a b p:Int):Nat×Array Int:=Sort.partitionEqual Sort.ltInt g.toArray a.toNat b.toNat p.toNat
def cpS(g:Li)(a b:Int):Nat×Sort.Hint:=Sort.choosePivot Sort.ltInt g.toArray a.toNat b.toNat
def hintN:Sort.Hint->Int
 |.unknown=>0|.increasing=>1|.decreasing=>2
section
variable{g:Li}{a b p:Int}
theorem kep(B:0<=a)(h1:a<=b)(F:b<=g.length):(insS g a b).length=g.length:=by have:=(Sort.insertionSort_holds (lt:=Sort.ltInt) Sort.swo_ltInt g.toArray a.toNat b.toNat qqo qqm).1.1;simpa[insS]using this
theorem cpS_rng(B:0<=a)(h1:a<b):a<=(cpS g a b).1/\(cpS g a b).1<b:=by have:=Sort.choosePivot_holds Sort.ltInt g.toArray a.toNat b.toNat qqo;unfold cpS;omega
theorem sdS_len{B hi first:Int}:(sdS g B hi first).length=g.length:=by
 have:=klm hi.toNat first.toNat _ B.toNat g.toArray (qaf _);simpa[sdS]using this
end
theorem kop(a b:Nat)(B:a<18446744073709551616)(F:b<18446744073709551616):ixor .u64 a b=a^^^b:=by show IntKind.u64.wrap (BitVec.ofInt 64 a^^^BitVec.ofInt 64 b).toNat=_;rw[BitVec.ofInt_natCast,BitVec.ofInt_natCast,BitVec.toNat_xor,BitVec.toNat_ofNat,BitVec.toNat_ofNat,Nat.mod_eq_of_lt B,Nat.mod_eq_of_lt F];have:a^^^b<2^64:=Nat.xor_lt_two_pow B F;exact wu _ qqo qqo
theorem xor_shl(r:UInt64)(k:Nat)(F:k<64):ixor .u64 r.toNat (ishl .u64 r.toNat k)=(r^^^r<<<UInt64.ofNat k).toNat:=by
 have B:=r.toNat_lt;have e:ishl .u64 r.toNat k=(r.toNat<<<k%18446744073709551616:Nat):=by
  unfold ishl;rw[IntKind.wrap_u64,Nat.shiftLeft_eq];have:min (k:Int).toNat IntKind.u64.bits=k:=by show min (k:Int).toNat 64=k;omega
  rw[this,Int.natCast_emod,qdm,Int.natCast_pow];rfl
 rw[e,kop _ _ qqo qqo,UInt64.toNat_xor,UInt64.toNat_shiftLeft];have:(UInt64.ofNat k).toNat%64=k:=by rw[UInt64.toNat_ofNat'];omega
 rw[this]
theorem xor_shr(r:UInt64)(k:Nat)(F:k<64):ixor .u64 r.toNat (ishr .u64 r.toNat k)=(r^^^r>>>UInt64.ofNat k).toNat:=by
 have B:=r.toNat_lt;have e:ishr .u64 r.toNat k=r.toNat>>>k:=by
  unfold ishr;have:min (k:Int).toNat IntKind.u64.bits=k:=by show min (k:Int).toNat 64=k;omega
  rw[this,Nat.shiftRight_eq_div_pow,Int.fdiv_eq_ediv_of_nonneg _ (by exact qcq (Int.pow_pos qqd)),Int.natCast_ediv,Int.natCast_pow];rfl
 have hs:r.toNat>>>k<=r.toNat:=by rw[Nat.shiftRight_eq_div_pow];exact Nat.div_le_self _ _
 rw[e,kop _ _ qqo qqo,UInt64.toNat_xor,UInt64.toNat_shiftRight];have:(UInt64.ofNat k).toNat%64=k:=by rw[UInt64.toNat_ofNat'];omega
 rw[this]
def xnI(s:Int):Int:=let a:=ixor .u64 s (ishl .u64 s 13);let b:=ixor .u64 a (ishr .u64 a 7);ixor .u64 b (ishl .u64 b 17)
theorem xnI_eq(r:UInt64):xnI r.toNat=(Sort.xorNext r).toNat:=by unfold xnI Sort.xorNext;dsimp only;have h1:=xor_shl r 13 qqd;rw[show((13:Nat):Int)=13 from rfl]at h1;rw[h1];have B:=xor_shr (r^^^r<<<UInt64.ofNat 13) 7 qqd;rw[show((7:Nat):Int)=7 from rfl]at B;rw[B];exact xor_shl _ 17 qqd
def brkL(a F B:Nat):Nat->UInt64×Array Int->Nat->Array Int
 |0,st,_=>st.2|k+1,st,J=>brkL a F B k (Sort.breakStep a F B st J) (J+1)
theorem brkL_go(a len B k:Nat)(u:UInt64)(d:Array Int)(i:Nat):brkL a len B (k+1) (u,d) i=brkL a len B k (Sort.xorNext u,Sort.swp d i (a+if(Sort.xorNext u).toNat&&&B-1≥len then((Sort.xorNext u).toNat&&&B-1)-len else(Sort.xorNext u).toNat&&&B-1)) (i+1):=rfl
theorem brk_eq(d:Array Int)(a b:Nat)(h:8<=b-a):Sort.breakPatterns d a b=brkL a (b-a) (1<<<Sort.bitsLen (b-a)) 3 (UInt64.ofNat (b-a),d) (a+(b-a)/4*2-1):=by unfold Sort.breakPatterns;rw[qg h];rfl
theorem brk_no(d:Array Int)(a b:Nat)(h:¬8<=b-a):Sort.breakPatterns d a b=d:=by unfold Sort.breakPatterns;rw[qe h]
theorem ki3(n:Nat):len64 n=Sort.bitsLen n:=by
 unfold len64 Sort.bitsLen;by_cases h:n=0;.subst h;rfl
 .rw[qe h,qe qqo];simp
theorem npo(n:Nat)(J:n<4611686018427387904):ishl .u64 1 (len64 n)=1<<<Sort.bitsLen n:=by
 rw[ki3];have B:=(Sort.bitsLen_le_iff n 62).2 J;unfold ishl;have:min (Sort.bitsLen n:Int).toNat IntKind.u64.bits=Sort.bitsLen n:=by show min (Sort.bitsLen n:Int).toNat 64=_;omega
 rw[this,Nat.shiftLeft_eq,qcw,Int.one_mul];have F:2^Sort.bitsLen n<=2^62:=qcu qqd B;rw[wu];.rfl
 .exact qcq (Int.pow_pos qqd)
 .have U:((2:Nat):Int)^Sort.bitsLen n=(2:Int)^Sort.bitsLen n:=rfl;omega
theorem npo_le(n:Nat)(h:0<n):1<<<Sort.bitsLen n<=2*n/\n<1<<<Sort.bitsLen n:=by rw[Nat.shiftLeft_eq,qcw];exact⟨Sort.two_pow_bitsLen_le h,Sort.lt_two_pow_bitsLen n⟩
theorem k2v{d:Array Int}{a b c n:Nat}(B:a<n)(F:b<n):(Sort.order2 Sort.ltInt d a b c).1<n/\(Sort.order2 Sort.ltInt d a b c).2.1<n/\(Sort.order2 Sort.ltInt d a b c).2.2<=c+1:=by
 unfold Sort.order2;split;.exact⟨F,B,qaf _⟩
 .exact⟨B,F,qdk _⟩
theorem k95{d:Array Int}{a b c s n:Nat}(U:a<n)(X:b<n)(Y:c<n):(Sort.median Sort.ltInt d a b c s).1<n/\(Sort.median Sort.ltInt d a b c s).2<=s+3:=by
 unfold Sort.median;dsimp only;have h1:=k2v (d:=d) (c:=s) U X;generalize Sort.order2 Sort.ltInt d a b s=B at*;have F:=k2v (d:=d) (c:=B.2.2) h1.2.1 Y;generalize Sort.order2 Sort.ltInt d B.2.1 c B.2.2=J at*;have M:=k2v (d:=d) (c:=J.2.2) h1.1 F.1;exact by omega
end Go.Md
namespace Go.Proofs.YtfiecdeonopcmaaGreatDoor
open Go Go.Bv Go.Cv Go.Md Go.RowKit
open Go.IntKind(i64 u64)
def insI(x:Int):Li->Li
 |[]=>[x]|y::r=>if x<=y then x::y::r else y::insI x r
def srt:Li->Li
 |[]=>[]|x::r=>insI x (srt r)
theorem k4m(x:Int):∀l,(insI x l).Perm (x::l)
 |[]=>List.Perm.refl _|y::r=>by
  unfold insI;split;.exact List.Perm.refl _
  .exact((k4m x r).cons y).trans (List.Perm.swap x y r)
theorem k3a:∀l,(srt l).Perm l
 |[]=>List.Perm.refl _|x::r=>(k4m x (srt r)).trans ((k3a r).cons x)
theorem k79(x:Int):∀l,l.Pairwise (·<=·)->(insI x l).Pairwise (·<=·)
 |[],_=>by simp[insI]|y::r,h=>by
  unfold insI;rw[List.pairwise_cons]at h;split
  .rename_i B;rw[List.pairwise_cons,List.pairwise_cons];refine⟨λz F=>?_,h⟩;rcases qak.1 F with rfl|F;.exact B
   .exact qes B (h.1 z F)
  .rw[List.pairwise_cons];refine⟨λz F=>?_,k79 x r h.2⟩;rcases qak.1 ((k4m x r).mem_iff.1 F)with rfl|F;.omega
   .exact h.1 z F
theorem k53:∀l,(srt l).Pairwise (·<=·)
 |[]=>List.Pairwise.nil|x::r=>k79 x _ (k53 r)
theorem k4y:∀(l m:Li),l.Perm m->l.Pairwise (·<=·)->m.Pairwise (·<=·)->l=m
 |[],m,h,_,_=>by rw[h.symm.eq_nil]|x::l,[],h,_,_=>by cases h.eq_nil|x::l,y::m,h,J,M=>by
  rw[List.pairwise_cons]at J M;have B:x∈y::m:=h.mem_iff.1 qqs;have F:y∈x::l:=h.mem_iff.2 qqs;have e:x=y:=by
   rcases qak.1 B with e|B;.exact e
   .rcases qak.1 F with e|F;.exact e.symm
    .have:=J.1 y F;have:=M.1 x B;omega
  subst e;rw[k4y l m ((List.perm_cons x).1 h) J.2 M.2]
theorem srt_eq{l m:Li}(h:m.Perm l)(hs:m.Pairwise (·<=·)):m=srt l:=k4y _ _ (h.trans (k3a l).symm) hs (k53 l)
theorem k8o(l:Li):(srt l).length=l.length:=(k3a l).length_eq
theorem k9e(d:Array Int)(a b k:Nat)(B:b<=d.size)(F:a+k<b):(d.extract a b).toList[k]?=some d[a+k]!:=by rw[Sort.extract_toList d a b B,qr,List.getElem?_range' qqo];simp
theorem k7b{d:Array Int}{a b:Nat}(J:b<=d.size)(h:Sort.SortedIn Sort.ltInt a b d):(d.extract a b).toList.Pairwise (·<=·):=by
 rw[qfq];intro i j hi M U;have X:(d.extract a b).toList.length=b-a:=by simp;omega
 have B:=k9e d a b i J qqo;have F:=k9e d a b j J qqo;rw[qf hi]at B;rw[qf M]at F;rw[Option.some.inj B,Option.some.inj F];have:=h (a+i) (a+j) qqo qqo qqo;have:=qd this;omega
theorem kmo{d R B:Array Int}{a b:Nat}(J:b<=d.size)(h1:Sort.PermIn a b d R)(h2:Sort.SortedIn Sort.ltInt a b R)(F:Sort.PermIn a b d B)(h4:Sort.SortedIn Sort.ltInt a b B):R=B:=by
 have e:=k4y _ _ (h1.2.2.trans F.2.2.symm) (k7b (by rw[h1.1];exact J) h2) (k7b (by rw[F.1];exact J) h4);refine Array.ext (by rw[h1.1,F.1]) λi hi M=>?_;have X:=getElem!_pos R i hi;have Y:=getElem!_pos B i M;rw[<-X,<-Y];by_cases hc:a<=i/\i<b;.have U:=k9e R a b (i-a) (by rw[h1.1];exact J) qqo;have Z:=k9e B a b (i-a) (by rw[F.1];exact J) qqo;rw[e,Z,show a+(i-a)=i by omega]at U;exact(Option.some.inj U).symm
 .rw[h1.2.1 i qqo,F.2.1 i qqo]
theorem k3x{g:Li}{a b:Int}(B:0<=a)(h1:a<=b)(F:b<=g.length):Sort.PermIn a.toNat b.toNat g.toArray (insS g a b).toArray/\Sort.SortedIn Sort.ltInt a.toNat b.toNat (insS g a b).toArray:=by have:=Sort.insertionSort_holds (lt:=Sort.ltInt) Sort.swo_ltInt g.toArray a.toNat b.toNat qqo qqm;unfold insS;simpa using this
theorem krm{g:Li}{a b:Int}(B:0<=a)(h1:a<=b)(F:b<=g.length):Sort.PermIn a.toNat b.toNat g.toArray (heapS g a b).toArray/\Sort.SortedIn Sort.ltInt a.toNat b.toNat (heapS g a b).toArray:=by have:=Sort.heapSort_holds (lt:=Sort.ltInt) Sort.swo_ltInt g.toArray a.toNat b.toNat qqo qqm;unfold heapS;simpa using this
theorem kv7(g:Li):insS g 0 g.length=srt g:=by
 obtain⟨h1,B⟩:=k3x (g:=g) (a:=0) (b:=g.length) qqo qqo qqo;have F:(insS g 0 g.length).length=g.length:=kep qqo qqo qqo;have e:=h1.2.2;have s:=k7b (d:=(insS g 0 g.length).toArray) qqm B;have x1:((insS g 0 g.length).toArray.extract (0:Int).toNat (g.length:Int).toNat).toList=insS g 0 g.length:=by
  have key:∀l:Li,(l.toArray.extract 0 l.length).toList=l:=by simp
  have:=key (insS g 0 g.length);rw[F]at this;exact this
 have J:(g.toArray.extract (0:Int).toNat (g.length:Int).toNat).toList=g:=by simp
 rw[x1]at s e;rw[J]at e;exact srt_eq e s
structure PdqI(R0:Array Int)(n:Nat)(a b:Int)(g:Li):Prop where
 a0:0<=a
 ab:a<=b
 bl:b<=g.length
 n:g.length=n
 be:Sort.Below Sort.ltInt a.toNat b.toNat g.toArray
 u:∀R,Sort.PermIn a.toNat b.toNat g.toArray R->Sort.SortedIn Sort.ltInt a.toNat b.toNat R->R=R0
theorem PdqI.perm{F:Array Int}{n:Nat}{a b:Int}{g:Li}{d:Array Int}(h:PdqI F n a b g)(B:Sort.PermIn a.toNat b.toNat g.toArray d):PdqI F n a b d.toList:=by have U:=h.bl;have J:=h.a0;have hs:=B.1;simp at hs;refine⟨J,h.ab,by simp;omega,by simp;rw[hs];exact h.n,?_,λR h1 M=>h.u R (Sort.permIn_trans _ _ _ _ _ B (by simpa using h1)) M⟩;simpa using h.be.perm qqm B
theorem PdqI.ins{B:Array Int}{n:Nat}{a b:Int}{g:Li}(h:PdqI B n a b g):insS g a b=B.toList:=by obtain⟨h1,F⟩:=k3x h.a0 h.ab h.bl;rw[<-h.u _ h1 F]
theorem PdqI.heap{B:Array Int}{n:Nat}{a b:Int}{g:Li}(h:PdqI B n a b g):heapS g a b=B.toList:=by obtain⟨h1,F⟩:=krm h.a0 h.ab h.bl;rw[<-h.u _ h1 F]
theorem PdqI.brk{B:Array Int}{n:Nat}{a b:Int}{g:Li}(h:PdqI B n a b g):PdqI B n a b (brkS g a b):=by have F:=h.ab;have J:=h.bl;exact h.perm (Sort.breakPatterns_holds g.toArray a.toNat b.toNat qqo qqm)
theorem PdqI.rev{B:Array Int}{n:Nat}{a b:Int}{g:Li}(h:PdqI B n a b g):PdqI B n a b (revS g a b):=by have F:=h.ab;have J:=h.bl;exact h.perm (Sort.reverseRange_holds g.toArray a.toNat b.toNat qqo qqm)
theorem PdqI.pis{B:Array Int}{n:Nat}{a b:Int}{g:Li}(h:PdqI B n a b g)(M:a<b):PdqI B n a b (pisS g a b).1.toList/\((pisS g a b).2=true->(pisS g a b).1.toList=B.toList):=by have h1:=h.a0;have X:=h.bl;obtain⟨F,J⟩:=Sort.partialInsertionSort_holds (lt:=Sort.ltInt) Sort.swo_ltInt g.toArray a.toNat b.toNat qqo qqm h.be;exact⟨h.perm F,λe=>by rw[<-h.u _ F (J e)];rfl⟩
theorem PdqI.peq{M:Array Int}{n:Nat}{a b p:Int}{g:Li}(h:PdqI M n a b g)(ha:0<a)(h1:a<=p)(h2:p<b)(hn:¬ix g (a-1)<ix g p):a<(peqS g a b p).1/\(peqS g a b p).1<=b/\PdqI M n (peqS g a b p).1 b (peqS g a b p).2.toList:=by
 have h3:=h.bl;have U:g.toArray[a.toNat-1]! =ix g (a-1):=by rw[show a.toNat-1=(a-1).toNat by omega];exact arr_ix qqo qqo
 have X:g.toArray[p.toNat]! =ix g p:=arr_ix qqo qqo;obtain⟨q1,q2,B,Y,Z⟩:=Sort.round_eq (lt:=Sort.ltInt) (d3:=g.toArray) (d4:=(peqS g a b p).2) (a:=a.toNat) (b:=b.toNat) (pivot:=p.toNat) (mid:=(peqS g a b p).1) Sort.swo_ltInt (Sort.partitionEqual_holds Sort.ltInt) qqo qqo qqo qqm h.be (by rw[U,X,ltI_iff];exact qat hn) rfl;simp at B;refine⟨by omega,by omega,⟨by omega,by omega,by simp;omega,by simp;rw[B];exact h.n,by simpa using Y,λR F J=>?_⟩⟩;obtain⟨s1,s2⟩:=Z R F J;exact h.u R s1 s2
theorem PdqI.part{Z:Array Int}{n:Nat}{a b p:Int}{g:Li}(h:PdqI Z n a b g)(h1:a<=p)(h2:p<b):a<=(partS g a b p).1/\(partS g a b p).1<b/\(partS g a b p).2.2.size=n/\Sort.Below Sort.ltInt a.toNat (partS g a b p).1 (partS g a b p).2.2/\Sort.Below Sort.ltInt ((partS g a b p).1+1) b.toNat (partS g a b p).2.2/\PdqI Z n ((partS g a b p).1+1) b (insS (partS g a b p).2.2.toList a (partS g a b p).1)/\PdqI Z n a (partS g a b p).1 (insS (partS g a b p).2.2.toList ((partS g a b p).1+1) b):=by
 have h3:=h.bl;have M:=h.a0;obtain⟨q1,q2,q3,q4,q5,q6,q7⟩:=Sort.round_part (lt:=Sort.ltInt) (d3:=g.toArray) (d4:=(partS g a b p).2.2) (a:=a.toNat) (b:=b.toNat) (pivot:=p.toNat) (mid:=(partS g a b p).1) (ap:=(partS g a b p).2.1) Sort.swo_ltInt (Sort.partition_holds Sort.ltInt) qqo qqo qqm h.be rfl;simp at q3;have hn:=h.n;generalize partS g a b p=P at*;obtain⟨m,ap,d⟩:=P;dsimp only at*;have U:=k3x (g:=d.toList) (a:=a) (b:=m) M qqo qqm;have J:=k3x (g:=d.toList) (a:=m+1) (b:=b) qqo qqo qqm;have n1:(insS d.toList a m).length=d.toList.length:=kep M qqo qqm;have n2:(insS d.toList ((m:Int)+1) b).length=d.toList.length:=kep qqo qqo qqm;simp at n1 n2;obtain⟨w1,w2⟩:=q6 _ U.1 U.2;obtain⟨w3,w4⟩:=q7 _ J.1 J.2;refine⟨by omega,by omega,by omega,q4,q5,⟨by omega,by omega,by omega,by omega,by exact w1,λR B F=>?_⟩,⟨M,by omega,by omega,by omega,by simpa using w3,λR B F=>?_⟩⟩;.obtain⟨X,Y⟩:=w2 R B F;exact h.u R X Y
 .obtain⟨X,Y⟩:=w4 R B F;exact h.u R X Y
theorem PdqI.start{g:Li}{a b:Int}(B:0<=a)(h1:a<=b)(F:b<=g.length)(Y:Sort.Below Sort.ltInt a.toNat b.toNat g.toArray):PdqI (insS g a b).toArray g.length a b g:=by obtain⟨J,M⟩:=k3x B h1 F;exact⟨B,h1,F,rfl,Y,λR U X=>kmo qqm U X J M⟩
def lb(l:List wA)(t:Int):Nat:=(l.takeWhile λa=>decide (a.ID<t)).length
def fnd(l:List wA)(t:Int):Bool:=match l[lb l t]? with
 |some a=>decide (a.ID=t)|none=>false
def Srt(l:List wA):Prop:=∀i j(_:i<j)(hj:j<l.length),l[i].ID<l[j].ID
theorem lb_eq(l:List wA)(t:Int)(i:Nat)(hi:i<=l.length)(h1:∀k h,k<i->l[k].ID<t)(F:∀h,t<=l[i].ID):lb l t=i:=by unfold lb;induction l generalizing i with
 |nil=>simp at hi;simp[hi]|cons a l J=>cases i with
  |zero=>have:=F qqs;simp at this;rw[qdu,qe qqm];rfl|succ i=>have B:=h1 0 qqs qqo;rw[qdu,qg (by simpa using B),qx,J i (by simpa using hi) (λk h M=>by have:=h1 (k+1) qqh qqo;simpa using this) λh=>by have:=F qqh;simpa using this]
theorem lb_le(l:List wA)(t:Int):lb l t<=l.length:=(List.takeWhile_sublist _).length_le
theorem lb_spec(l:List wA)(t:Int):(∀k h,k<lb l t->l[k].ID<t)/\∀h,t<=l[lb l t].ID:=by unfold lb;induction l with
 |nil=>exact⟨λk h=>absurd h qqs,λh=>absurd h qqs⟩|cons a l J=>
  by_cases B:a.ID<t
  .simp only[qdu,B,qx];refine⟨λk h F=>?_,λh=>?_⟩;.cases k with
    |zero=>exact B|succ k=>simpa using J.1 k qqh (by simpa using F)
   .simpa using J.2 qqh
  .simp only[qdu,B,qee];exact⟨λk h F=>absurd F (Nat.not_lt_zero _),λh=>by simpa using B⟩
theorem k67{l:List wA}{t:Int}(h:fnd l t=true):∃hl,l[lb l t].ID=t:=by
 unfold fnd at h;split at h;.rename_i a B;obtain⟨h1,F⟩:=qq.1 B;exact⟨h1,by rw[F];simpa using h⟩
 .cases h
def getA(l:List wA)(t:Int):wA:=match l.find? λa=>decide (a.ID=t)with
 |some a=>a|none=>⟨t,0,0⟩
theorem getA_of{l:List wA}{t:Int}(hs:Srt l)(h:fnd l t=true)(F:lb l t<l.length):getA l t=l[lb l t]:=by
 obtain⟨_,he⟩:=k67 h;unfold getA;have:l.find? (λa=>decide (a.ID=t))=some l[lb l t]:=by rw[List.find?_eq_some_iff_getElem];refine⟨by simpa using he,lb l t,F,rfl,λj B=>?_⟩;have:=(lb_spec l t).1 j qqo B;simp;omega
 rw[this]
theorem getA_no{l:List wA}{t:Int}(hs:Srt l)(h:fnd l t=false):getA l t=⟨t,0,0⟩:=by
 unfold getA;have:l.find? (λa=>decide (a.ID=t))=none:=by
  rw[qet];intro a U B;simp at B;obtain⟨k,F,rfl⟩:=qby U;obtain⟨X,Y⟩:=lb_spec l t;rcases qaw k (lb l t)with h1|h1;.have:=X k F h1;omega
  .have J:lb l t<l.length:=by omega
   have Z:=Y J;have h4:l[lb l t].ID≠t:=by
    intro he;have:fnd l t=true:=by unfold fnd;rw[qf J];simpa using he
    rw[h]at this;cases this
   rcases qaw (lb l t) k with M|M;.have:=hs _ _ M F;omega
   .have:k=lb l t:=by omega
    subst this;omega
 rw[this]
def AccOk(a:wA):Prop:=(0<=a.ID/\a.ID<18446744069414584321)/\(0<=a.wn/\a.wn<=9223372036854775807)/\0<=a.wK/\a.wK<18446744073709551616
def OkA(l:List wA):Prop:=Srt l/\l.length<=1000/\∀a∈l,AccOk a
theorem getA_ok{l:List wA}(h:OkA l)(t:Int):(0<=(getA l t).wn/\(getA l t).wn<=9223372036854775807)/\0<=(getA l t).wK/\(getA l t).wK<18446744073709551616:=by
 unfold getA;split;.rename_i a B;exact(h.2.2 a (List.mem_of_find?_eq_some B)).2
 .simp
theorem getA_at{l:List wA}{t:Int}{i:Nat}(hi:i<l.length)(he:l[i].ID=t)(F:∀k h,k<i->l[k].ID≠t):getA l t=l[i]:=by
 unfold getA;have:l.find? (λa=>decide (a.ID=t))=some l[i]:=by rw[List.find?_eq_some_iff_getElem];exact⟨by simpa using he,i,hi,rfl,λj B=>by have:=F j qqo B;simpa using this⟩
 rw[this]
theorem ku1{l:List wA}{t:Int}(M:∀k(h:k<l.length),l[k].ID≠t):getA l t=⟨t,0,0⟩:=by
 unfold getA;have:l.find? (λa=>decide (a.ID=t))=none:=by rw[qet];intro a F B;obtain⟨k,J,rfl⟩:=qby F;exact M k J (by simpa using B)
 rw[this]
theorem getA_id(l:List wA)(t:Int):(getA l t).ID=t:=by
 unfold getA;split;.rename_i a B;simpa using List.find?_some B
 .rfl
def putA(l:List wA)(a:wA):List wA:=l.take (lb l a.ID)++(if a.wn≠0∨a.wK≠0 then[a]else[])++l.drop (lb l a.ID+if fnd l a.ID then 1 else 0)
def creditA(l:List wA)(id B:Int):List wA×Int:=if 9223372036854775807-(getA l id).wn<B then([],1)else(putA l ⟨id,(getA l id).wn+B,(getA l id).wK⟩,0)
def debitA(l:List wA)(id B F:Int):List wA×Int:=if B=0 then([],1)else if F≠(getA l id).wK∨F=18446744073709551615 then([],20)else if(getA l id).wn<B then([],15)else(putA l ⟨id,(getA l id).wn-B,F+1⟩,0)
theorem tail_eq{l:List wA}(hs:Srt l)(t:Int):l.filter (λx=>decide (t<x.ID))=l.drop (lb l t+if fnd l t then 1 else 0):=by
 obtain⟨X,Z⟩:=lb_spec l t;have key:∀i,(∀k h,k<i->l[k].ID<=t)->(∀k h,i<=k->t<l[k].ID)->l.filter (λx=>decide (t<x.ID))=l.drop i:=by
  intro i h1 J;rw[<-qbi i l,List.filter_append,qbi];have e1:(l.take i).filter (λx=>decide (t<x.ID))=[]:=by rw[qez];intro x M;obtain⟨k,B,rfl⟩:=qby M;rw[qu]at B;have:=h1 k qqo qqo;simp;omega
  have e2:(l.drop i).filter (λx=>decide (t<x.ID))=l.drop i:=by rw[qeq];intro x M;obtain⟨k,B,rfl⟩:=qby M;rw[qal]at B;have:=J (i+k) qqo qqo;simp;omega
  rw[e1,e2,qcd]
 apply key
 .intro k h B;split at B
  .rename_i F;obtain⟨h1,J⟩:=k67 F;rcases qaw k (lb l t)with U|U;.have:=X k h U;omega
   .have:k=lb l t:=by omega
    subst this;omega
  .have:=X k h qqo;omega
 .intro k h B;split at B;.rename_i F;obtain⟨h1,J⟩:=k67 F;have:=hs (lb l t) k qqo h;omega
  .rename_i F;have h1:lb l t<l.length:=by omega
   have J:=Z h1;have U:l[lb l t].ID≠t:=by intro he;apply F;unfold fnd;rw[qf h1];simpa using he
   rcases qaw (lb l t) k with Y|Y;.have:=hs _ _ Y h;omega
   .have:k=lb l t:=by omega
    subst this;omega
theorem inc_i64(i:Nat)(h:i<4611686018427387904):i64.wrap (i+1)=(i+1:Nat):=by rw[ko _ qqo qqo];omega
theorem mid_eq(i j:Nat)(h:i+j<9223372036854775808):i64.wrap (ishr .u64 (u64.wrap (i64.wrap (↑i+↑j))) 1)=((i+j)/2:Nat):=by have B:i64.wrap ((i:Int)+j)=(i:Int)+j:=ko _ qqo qqo;have F:u64.wrap ((i:Int)+j)=(i:Int)+j:=wrap_u64 _ qqo qqo;have e:(2:Int)^min (1:Int).toNat u64.bits=2:=rfl;have J:((i:Int)+j).fdiv 2=((i:Int)+j)/2:=Int.fdiv_eq_ediv_of_nonneg _ qqo;unfold ishr;rw[B,F,e,J,ko _ qqo qqo];omega
def cmp3(a b:Int):Int:=if a<b then-1 else if b<a then 1 else 0
theorem cmp3_lt{a b:Int}:cmp3 a b<0↔a<b:=by unfold cmp3;split<;>(try split)<;>omega
theorem cmp3_eq{a b:Int}:cmp3 a b=0↔a=b:=by unfold cmp3;split<;>(try split)<;>omega
theorem put_len(l:List wA)(a:wA):(putA l a).length<=l.length+1:=by unfold putA;split<;>simp<;>omega
theorem ok_nil:OkA []:=⟨λi j _ h=>by simp at h,by simp,by simp⟩
theorem srt_pw{l:List wA}:Srt l↔l.Pairwise λa b=>a.ID<b.ID:=by rw[qfq];exact⟨λh i j hi F B=>h i j B F,λh i j B F=>h i j qqo F B⟩
def Mid(id:Int)(m:List wA):Prop:=m=[]∨∃x,m=[x]/\x.ID=id
def Spl(l:List wA)(id:Int)(a m b:List wA):Prop:=l=a++(m++b)/\(∀x∈a,x.ID<id)/\Mid id m/\∀x∈b,id<x.ID
theorem spl_of{l:List wA}(hs:Srt l)(id:Int):∃a m b,Spl l id a m b:=by rw[srt_pw]at hs;induction l with
 |nil=>exact⟨[],[],[],rfl,by simp,.inl rfl,by simp⟩|cons x r Y=>
  obtain⟨h1,F⟩:=List.pairwise_cons.1 hs;by_cases J:x.ID<id
  .obtain⟨a,m,b,rfl,M,U,X⟩:=Y F;refine⟨x::a,m,b,rfl,?_,U,X⟩;intro y B;rcases qak.1 B with rfl|B;.exact J
   .exact M y B
  .by_cases he:x.ID=id;.exact⟨[],[x],r,rfl,by simp,.inr ⟨x,rfl,he⟩,λy B=>by have:=h1 y B;omega⟩
   .refine⟨[],[],x::r,rfl,by simp,.inl rfl,?_⟩;intro y B;rcases qak.1 B with rfl|B;.omega
    .have:=h1 y B;omega
theorem take_lb(l:List wA)(t:Int):l.take (lb l t)=l.takeWhile λa=>decide (a.ID<t):=(List.prefix_iff_eq_take.1 (List.takeWhile_prefix _)).symm
theorem put_spl{l a m b:List wA}{x:wA}(hs:Srt l)(h:Spl l x.ID a m b):putA l x=a++((if x.wn≠0∨x.wK≠0 then[x]else[])++b):=by
 obtain⟨rfl,h1,F,J⟩:=h;unfold putA;rw[<-tail_eq hs,take_lb,qn];have M:(a++(m++b)).takeWhile (λy=>decide (y.ID<x.ID))=a:=by
  rw[List.takeWhile_append_of_pos (by intro y B;simpa using h1 y B)];have:(m++b).takeWhile (λy=>decide (y.ID<x.ID))=[]:=by
   rcases F with rfl|⟨y,rfl,B⟩;.cases b with
    |nil=>rfl|cons y b=>rw[qcd,qdu,qe];have:=J y qqs;simp;omega
   .rw[List.cons_append,qdu,qe];simp;omega
  rw[this,qcm]
 have U:(a++(m++b)).filter (λy=>decide (x.ID<y.ID))=b:=by
  rw[List.filter_append,List.filter_append];have X:a.filter (λy=>decide (x.ID<y.ID))=[]:=by rw[qez];intro y B;have:=h1 y B;simp;omega
  have Y:m.filter (λy=>decide (x.ID<y.ID))=[]:=by
   rw[qez];intro y B;rcases F with rfl|⟨z,rfl,hz⟩;.simp at B
   .simp at B;subst B;simp;omega
  have Z:b.filter (λy=>decide (x.ID<y.ID))=b:=by rw[qeq];intro y B;have:=J y B;simpa using this
  rw[X,Y,Z];rfl
 rw[M,U]
theorem get_spl{l a m b:List wA}{id:Int}(h:Spl l id a m b):getA l id=m.headD ⟨id,0,0⟩:=by
 obtain⟨rfl,h1,F,J⟩:=h;unfold getA;have M:a.find? (λy=>decide (y.ID=id))=none:=by rw[qet];intro y B;have:=h1 y B;simp;omega
 have U:b.find? (λy=>decide (y.ID=id))=none:=by rw[qet];intro y B;have:=J y B;simp;omega
 rw[List.find?_append,List.find?_append,M,U];rcases F with rfl|⟨x,rfl,X⟩;.rfl
 .simp[X]
theorem srt_spl{a m b:List wA}{id:Int}{l:List wA}(hs:Srt l)(h:Spl l id a m b){m':List wA}(J:Mid id m'):Srt (a++(m'++b)):=by
 obtain⟨rfl,h1,Y,M⟩:=h;rw[srt_pw]at hs⊢;rw[List.pairwise_append]at hs⊢;obtain⟨k1,k2,k3⟩:=hs;rw[List.pairwise_append]at k2⊢;obtain⟨_,U,_⟩:=k2;refine⟨k1,⟨?_,U,?_⟩,?_⟩;.rcases J with rfl|⟨x,rfl,_⟩<;>simp
 .intro x F y B;rcases J with rfl|⟨z,rfl,X⟩;.simp at F
  .simp at F;subst F;have:=M y B;omega
 .intro x F y B;have Z:=h1 x F;rcases qae.1 B with B|B
  .rcases J with rfl|⟨z,rfl,X⟩;.simp at B
   .simp at B;subst B;omega
  .have:=M y B;omega
theorem mid_put(x:wA):Mid x.ID (if x.wn≠0∨x.wK≠0 then[x]else[]):=by
 split;.exact .inr ⟨x,rfl,rfl⟩
 .exact .inl rfl
theorem put_ok{l:List wA}{x:wA}(h:OkA l)(M:l.length<=999)(J:AccOk x):OkA (putA l x):=by
 obtain⟨a,m,b,F⟩:=spl_of h.1 x.ID;refine⟨?_,by have:=put_len l x;omega,?_⟩;.rw[put_spl h.1 F];exact srt_spl h.1 F (mid_put x)
 .rw[put_spl h.1 F];intro y B;obtain⟨rfl,_,_,_⟩:=F;simp only[qae]at B;rcases B with B|B|B;.exact h.2.2 y (by simp[B])
  .split at B;.simp at B;subst B;exact J
   .simp at B
  .exact h.2.2 y (by simp[B])
def Nz(l:List wA):Prop:=∀a∈l,a.wn≠0∨a.wK≠0
theorem kvd{l:List wA}{id F B:Int}(h:OkA l)(M:l.length<=999)(J:0<=id/\id<18446744069414584321)(Y:0<=F)(Z:0<=B/\B<18446744073709551616):OkA (debitA l id F B).1:=by
 obtain⟨U,X⟩:=getA_ok h id;unfold debitA;split;.exact ok_nil
 .split;.exact ok_nil
  .split;.exact ok_nil
   .exact put_ok h M ⟨J,by simp;omega,by simp;omega⟩
def GoodA(n:Nat)(l:List wA):Prop:=OkA l/\Nz l/\l.length<=n
theorem k6b(n:Nat):GoodA n []:=⟨ok_nil,by simp[Nz],by simp⟩
theorem kq9{l:List wA}{x:wA}{n:Nat}(h:GoodA n l)(Y:n<=900)(U:AccOk x):GoodA (n+1) (putA l x):=by
 obtain⟨h1,F,X⟩:=h;refine⟨put_ok h1 qqo U,?_,by have:=put_len l x;omega⟩;obtain⟨a,m,b,J⟩:=spl_of h1.1 x.ID;rw[put_spl h1.1 J];obtain⟨rfl,_,_,_⟩:=J;intro y B;simp only[qae]at B;rcases B with B|B|B;.exact F y (by simp[B])
 .split at B;.rename_i M;simp at B;subst B;exact M
  .simp at B
 .exact F y (by simp[B])
theorem kdj{l:List wA}{n:Nat}{id B:Int}(h:GoodA n l)(M:n<=900)(F:0<=id/\id<18446744069414584321)(X:0<=B):GoodA (n+1) (creditA l id B).1:=by
 obtain⟨U,J⟩:=getA_ok h.1 id;unfold creditA;split;.exact k6b _
 .exact kq9 h M ⟨F,by simp;omega,J⟩
theorem ki1{l:List wA}{n:Nat}{id F B:Int}(h:GoodA n l)(M:n<=900)(J:0<=id/\id<18446744069414584321)(Y:0<=F)(Z:0<=B/\B<18446744073709551616):GoodA (n+1) (debitA l id F B).1:=by
 obtain⟨U,X⟩:=getA_ok h.1 id;unfold debitA;split;.exact k6b _
 .split;.exact k6b _
  .split;.exact k6b _
   .exact kq9 h M ⟨J,by simp;omega,by simp;omega⟩
theorem len24{α:Type}(m:List α)(x:α)(h:m.length<=90000):(m.length+[x].length)*24<=140737488355328/\m.length+[x].length<=maxLen:=by simp;unfold maxLen;omega
def nd(a b:Int):Int:=hashS 6 [a,b]
def emp:Nat->Int
 |0=>hashS 6 []|i+1=>nd (emp i) (emp i)
theorem emp_u(i:Nat):U64 (emp i):=by cases i<;>exact kx _ _
theorem emp_lt(i:Nat):emp i<18446744069414584321:=by cases i<;>exact k49 _ _
theorem gD_lt{l:Li}{i:Nat}{z:Int}(h:i<l.length):l.getD i z=l[i]:=by simp[h]
theorem gD_ge{l:Li}{i:Nat}{z:Int}(h:l.length<=i):l.getD i z=z:=by simp[h]
def lf(l:Li)(p:Nat):Int:=l.getD p (emp 0)
def TT(f:Nat->Int):Nat->Nat->Int
 |0,k=>f k|i+1,k=>nd (TT f i (2*k)) (TT f i (2*k+1))
theorem kfq{f g:Nat->Int}:∀i k,(∀p,k*2^i<=p->p<(k+1)*2^i->f p=g p)->TT f i k=TT g i k
 |0,k,h=>h k qqs qqs|i+1,k,h=>by
  have e:2^(i+1)=2*2^i:=by omega
  rw[e]at h;have F:k*(2*2^i)=2*k*2^i:=by rw[<-Nat.mul_assoc,qeh k 2]
  have J:(k+1)*(2*2^i)=(2*k+1+1)*2^i:=by rw[<-Nat.mul_assoc];congr 1;omega
  have M:(2*k+1)*2^i=2*k*2^i+2^i:=by rw[qca,qcw]
  have U:(2*k+1+1)*2^i=(2*k+1)*2^i+2^i:=by rw[qca (2*k+1),qcw]
  simp only[TT];rw[kfq i (2*k) λp h1 B=>h p qqo qqo,kfq i (2*k+1) λp h1 B=>h p qqo qqo]
theorem TT_emp{l:Li}:∀i k,l.length<=k*2^i->TT (lf l) i k=emp i
 |0,k,h=>by simp only[TT,lf];rw[gD_ge qqh]|i+1,k,h=>by
  have B:k*2^(i+1)=2*k*2^i:=by rw[Nat.pow_succ,qeh (2^i) 2,<-Nat.mul_assoc,qeh k 2]
  have F:(2*k+1)*2^i=2*k*2^i+2^i:=by rw[qca,qcw]
  have:=qcg i;simp only[TT,emp];rw[TT_emp i (2*k) qqo,TT_emp i (2*k+1) qqo]
theorem TT_r{l:Li}(B:∀x∈l,0<=x/\x<18446744069414584321):∀i k,0<=TT (lf l) i k/\TT (lf l) i k<18446744069414584321
 |0,k=>by
  simp only[TT,lf];by_cases h:k<l.length;.rw[gD_lt h];exact B _ (qz h)
  .rw[gD_ge qqo];exact⟨(emp_u 0).1,emp_lt 0⟩|i+1,k=>⟨(kx _ _).1,k49 _ _⟩
def bitN(n i:Nat):Bool:=n/2^i%2==1
def leftS(d:Nat)(l:Li):Li:=(List.range (d+1)).map λi=>if bitN l.length i then TT (lf l) i (l.length/2^i-1)else 0
def frF(d:Int)(l:Li):wI:=⟨d,l.length,leftS d.toNat l⟩
theorem k25(d:Nat)(l:Li):(leftS d l).length=d+1:=by simp[leftS]
theorem k3b(d:Nat)(l:Li)(i:Nat)(h:i<(leftS d l).length):(leftS d l)[i]=if bitN l.length i then TT (lf l) i (l.length/2^i-1)else 0:=by simp[leftS]
structure FV(f:wI):Prop where
 d1:1<=f.wH
 d2:f.wH<=12
 c0:0<=f.wAF
 c1:f.wAF<=((2^f.wH.toNat:Nat):Int)ll:f.wAJ.length=f.wH.toNat+1
 u:∀x∈f.wAJ,0<=x/\x<18446744069414584321
 z:∀(i:Nat)(h:i<f.wAJ.length),bitN f.wAF.toNat i=false->f.wAJ[i]=0
theorem frF_FV{d:Int}{l:Li}(h1:1<=d)(J:d<=12)(U:l.length<=2^d.toNat)(M:∀x∈l,0<=x/\x<18446744069414584321):FV (frF d l):=by
 refine⟨h1,J,by simp[frF],by simp only[frF];omega,k25 _ _,λx F=>?_,λi h B=>?_⟩
 .simp only[frF,leftS,qap]at F;obtain⟨i,_,rfl⟩:=F;split;.exact TT_r M _ _
  .decide
 .have B:bitN l.length i=false:=by simpa[frF]using B
  exact(k3b d.toNat l i h).trans (by rw[B];rfl)
theorem shl1(d:Nat)(h:d<=12):ishl .i64 1 d=(2^d:Nat):=by
 have:∀d∈List.range 13,ishl .i64 1 d=2^d:=by decide
 exact this d qqm
theorem pow12(d:Nat)(h:d<=12):2^d<=4096:=by have:2^d<=2^12:=qcu qqd h;omega
theorem bit1(n i:Nat)(F:n<=4096)(hi:i<=20):iand .i64 (ishr .i64 n i) 1=(n/2^i%2:Nat):=by
 have e:min (i:Int).toNat i64.bits=i:=by exact qcf (qbd hi qqd)
 have B:ishr .i64 n i=(n/2^i:Nat):=by rw[k2c,e];simp
 have:=Nat.div_le_self n (2^i);generalize n/2^i=q at*;rw[kbm _ qqo];omega
def carry:Nat->Nat->Li->Int->Nat->Li
 |0,B,L,x,_=>L.set B x|k+1,B,L,x,n=>if bitN n B then carry k (B+1) (L.set B 0) (nd (ix L B) x) n else L.set B x
def apF(f:wI)(x:Int):wI:=⟨f.wH,f.wAF+1,carry (f.wH.toNat+1) 0 f.wAJ x f.wAF.toNat⟩
theorem k1v(n i:Nat):n/2^(i+1)=n/2^i/2:=by rw[Nat.pow_succ,Nat.div_div_eq_div_mul]
theorem ksl{n d:Nat}(h:n<2^d):bitN n d=false:=by unfold bitN;rw[qfc h];rfl
theorem succ_hi{n i:Nat}(h:bitN n i=true)(B:(n+1)/2^i=n/2^i+1):(n+1)/2^(i+1)=n/2^(i+1)+1:=by
 have h:n/2^i%2=1:=by simpa[bitN]using h
 rw[k1v,k1v,B];omega
theorem succ_lo{n i:Nat}(h:bitN n i=false)(J:(n+1)/2^i=n/2^i+1):∀j,i<j->(n+1)/2^j=n/2^j:=by
 have h:¬n/2^i%2=1:=by simpa[bitN]using h
 intro j;induction j with
 |zero=>omega|succ j F=>
  intro B;rcases qaw i j with h1|h1;.rw[k1v,k1v,F h1]
  .have:j=i:=by omega
   subst this;rw[k1v,k1v,J];omega
theorem TT_app{l:Li}{x:Int}{i k:Nat}(h:(k+1)*2^i<=l.length):TT (lf (l++[x])) i k=TT (lf l) i k:=by refine kfq i k λp _ B=>?_;unfold lf;rw[qeo,qeo,qay qqo]
theorem knj(d:Nat)(l:Li)(x:Int)(hn:l.length<2^d):∀k B L y,B+k=d+1->L.length=d+1->(l.length+1)/2^B=l.length/2^B+1->y=TT (lf (l++[x])) B (l.length/2^B)->(∀i h,L[i]=if i<B then 0 else(leftS d l).getD i 0)->(∀i,i<B->bitN (l.length+1) i=false)->carry k B L y l.length=leftS d (l++[x])
 |0,B,L,y,hk,hL,X,hy,hg,hb=>by
  exfalso;have M:B=d+1:=by omega
  subst M;have hp:2^(d+1)=2*2^d:=by rw[Nat.pow_succ];omega
  have h1:=qcg d;rw[hp,qfc qqo,qfc qqo]at X;omega|k+1,B,L,y,hk,hL,X,hy,hg,hb=>by
  unfold carry;have M:B<L.length:=by omega
  by_cases F:bitN l.length B=true
  .rw[qg F];have aa:l.length/2^B%2=1:=by simpa[bitN]using F
   have U:ix L B=TT (lf (l++[x])) B (2*(l.length/2^(B+1))):=by
    have Y:B<(leftS d l).length:=by rw[k25];omega
    rw[ix_get _ _ M,hg B M,qe qqo,gD_lt Y,k3b,qg F];have e:l.length/2^B-1=2*(l.length/2^(B+1)):=by rw[k1v];omega
    rw[e];refine(TT_app ?_).symm;have:2*(l.length/2^(B+1))+1=l.length/2^B:=by rw[k1v];omega
    rw[this];exact Nat.div_mul_le_self _ _
   refine knj d l x hn k (B+1) _ _ qqo (by simp[hL]) (succ_hi F X) ?_ (λi h=>?_) λi hi=>?_
   .simp only[TT];rw[U,hy];have:l.length/2^B=2*(l.length/2^(B+1))+1:=by rw[k1v];omega
    rw[<-this]
   .rw[List.getElem_set];by_cases h1:B=i;.rw[qg h1,qg qqo]
    .rw[qe h1,hg i qqh];by_cases Y:i<B;.rw[qg Y,qg qqo]
     .rw[qe Y,qe qqo]
   .rcases qaw i B with h1|h1;.exact hb i h1
    .have:i=B:=by omega
     subst this;unfold bitN;rw[X];have:(l.length/2^i+1)%2=0:=by omega
     rw[this];rfl
  .have F:bitN l.length B=false:=by simpa using F
   rw[qe (by rw[F];decide)];have ab:¬l.length/2^B%2=1:=by simpa[bitN]using F
   have Z:=succ_lo F X;apply List.ext_getElem;.simp[k25,hL]
   .intro i h1 Y;rw[k3b,List.getElem_set,qi,qbs];have hi:i<L.length:=by simpa using h1
    by_cases h3:B=i
    .subst h3;rw[qg rfl,hy];have:bitN (l.length+1) B=true:=by unfold bitN;rw[X];simp;omega
     rw[qg this,X];rfl
    .rw[qe h3,hg i hi];rcases qaw i B with h4|h4;.rw[qg h4,hb i h4];rfl
     .have h5:B<i:=by omega
      have hs:i<(leftS d l).length:=by rw[k25];omega
      rw[qe qqo,gD_lt hs,k3b];have eb:bitN (l.length+1) i=bitN l.length i:=by unfold bitN;rw[Z i h5]
      rw[eb,Z i h5];by_cases J:bitN l.length i=true
      .rw[qg J,qg J];refine(TT_app ?_).symm;have ho:l.length/2^i%2=1:=by simpa[bitN]using J
       have:l.length/2^i-1+1=l.length/2^i:=Nat.sub_add_cancel (Nat.pos_of_ne_zero λh=>by rw[h]at ho;cases ho);rw[this];exact Nat.div_mul_le_self _ _
      .rw[qe J,qe J]
theorem apF_frF{d:Int}{l:Li}{x:Int}(B:l.length<2^d.toNat):apF (frF d l) x=frF d (l++[x]):=by
 have:=knj d.toNat l x B (d.toNat+1) 0 (leftS d.toNat l) x qqo (k25 _ _) qqs (by simp[TT,lf]) λi h=>by rw[qe qqo,gD_lt h] λi hi=>by omega
 unfold apF frF;simp only[qv];rw[this];simp
def rootGo(f:wI):Nat->Nat->Int->Int->Int
 |0,_,_,x=>x|k+1,B,e,x=>rootGo f k (B+1) (nd e e) (if bitN f.wAF.toNat B then nd (ix f.wAJ B) x else nd x e)
def rootF(f:wI):Int:=if f.wAF=(2^f.wH.toNat:Nat)then ix f.wAJ f.wH else rootGo f f.wH.toNat 0 (emp 0) (emp 0)
theorem kjz(d:Int)(l:Li):∀k B x,B+k=d.toNat->x=TT (lf l) B (l.length/2^B)->rootGo (frF d l) k B (emp B) x=TT (lf l) (B+k) (l.length/2^(B+k))
 |0,B,x,_,J=>J|k+1,B,x,hk,J=>by
  unfold rootGo;rw[show B+(k+1)=B+1+k by omega];have U:(frF d l).wAF.toNat=l.length:=by simp[frF]
  rw[U];refine kjz d l k (B+1) _ qqo ?_;have Z:=k1v l.length B;simp only[TT];by_cases F:bitN l.length B=true
  .have X:l.length/2^B%2=1:=by simpa[bitN]using F
   have hs:B<(leftS d.toNat l).length:=by rw[k25];omega
   rw[qg F,show(frF d l).wAJ=leftS d.toNat l from rfl,ix_get _ _ hs,k3b,qg F,J];have Y:l.length/2^B-1=2*(l.length/2^(B+1)):=by omega
   have M:l.length/2^B=2*(l.length/2^(B+1))+1:=by omega
   rw[Y,<-M]
  .have X:¬l.length/2^B%2=1:=by simpa[bitN]using F
   rw[qe F,J];have M:l.length/2^B=2*(l.length/2^(B+1)):=by omega
   rw[<-M];congr 1;refine(TT_emp B _ ?_).symm;have:=Nat.lt_div_mul_add (a:=l.length) (b:=2^B) (qcg B);rw[qca,qcw];omega
theorem k6p{d:Int}{l:Li}(M:0<=d)(U:l.length<=2^d.toNat):rootF (frF d l)=TT (lf l) d.toNat 0:=by
 unfold rootF;by_cases B:(frF d l).wAF=(2^(frF d l).wH.toNat:Nat)
 .rw[qg B];have B:l.length=2^d.toNat:=by simp only[frF]at B;omega
  have hs:d.toNat<(leftS d.toNat l).length:=by rw[k25];omega
  have e:(frF d l).wH=d.toNat:=by simp only[frF];omega
  have F:l.length/2^d.toNat=1:=by rw[B];exact Nat.div_self (qcg _)
  have J:bitN l.length d.toNat=true:=by unfold bitN;rw[F];rfl
  rw[e,show(frF d l).wAJ=leftS d.toNat l from rfl,ix_get _ _ hs,k3b,qg J,F]
 .rw[qe B];have B:l.length<2^d.toNat:=by simp only[frF]at B;omega
  have:=kjz d l d.toNat 0 (emp 0) qqo (by simp[TT,lf]);rw[show(frF d l).wH=d from rfl,this,qav,qfc B]
def lvl(l:Li)(d i:Nat):Li:=(List.range (2^(d-i))).map (TT (lf l) i)
def pairs:Li->Li
 |a::b::r=>nd a b::pairs r|_=>[]
theorem kra{l:Li}(h:l.length<=1):pairs l=[]:=by match l,h with
 |[],_=>rfl|[_],_=>rfl
theorem ks1{l:Li}{j:Nat}(h:j+1<l.length):pairs (l.drop j)=nd (l[j]' qqo) l[j+1]::pairs (l.drop (j+2)):=by rw[qbb (show j<l.length by omega),qbb (show j+1<l.length by omega)];rfl
theorem kdn(f:Nat->Int):∀n a,pairs ((List.range' a (2*n)).map f)=(List.range n).map λk=>nd (f (a+2*k)) (f (a+2*k+1))
 |0,a=>rfl|n+1,a=>by rw[show 2*(n+1)=2*n+1+1 by omega,List.range'_succ,List.range'_succ,qaj,qaj,List.range_succ_eq_map,qaj,qbr];rw[pairs,kdn f n (a+1+1),Nat.mul_zero,qcz];refine congrArg (List.cons _) (qar λk _=>?_);simp;rw[show a+1+1+2*k=a+2*(k+1)by omega]
theorem kvu{l:Li}{d i:Nat}(h:i<d):pairs (lvl l d i)=lvl l d (i+1):=by
 unfold lvl;have e:2^(d-i)=2*2^(d-(i+1)):=by rw[show d-i=d-(i+1)+1 by omega,Nat.pow_succ];omega
 rw[e,List.range_eq_range',kdn];simp only[TT,qav]
theorem lvl_len(l:Li)(d i:Nat):(lvl l d i).length=2^(d-i):=by simp[lvl]
theorem lvl_u{l:Li}(F:∀x∈l,0<=x/\x<18446744069414584321)(d i:Nat):∀x∈lvl l d i,0<=x/\x<18446744069414584321:=by intro x B;obtain⟨k,_,rfl⟩:=qap.1 B;exact TT_r F _ _
theorem kve{l:Li}{d:Nat}(h:l.length<=2^d):l++List.replicate (2^d-l.length) (emp 0)=lvl l d 0:=by
 apply List.ext_getElem;.simp[lvl_len];omega
 .intro i h1 B;simp only[lvl,List.getElem_map,List.getElem_range,TT,lf];by_cases hi:i<l.length;.rw[List.getElem_append_left hi,gD_lt hi]
  .rw[List.getElem_append_right qqo,gD_ge qqo,List.getElem_replicate]
def trs(k:Li):Lo:=List.replicate k.length true
theorem k8t{m:Int}:∀{k:Li},(mIdx (BEq.beq m) k).isSome=decide (m∈k)
 |[]=>rfl|x::r=>by
  unfold mIdx;by_cases h:m=x;.subst h;simp
  .have:BEq.beq m x=false:=by simpa using h
   rw[this,qcc,Option.isSome_map,k8t];simp[h]
theorem sVal(k:Li)(m:Int):mVal (BEq.beq m) k (trs k) false=decide (m∈k):=by rw[<-k8t];unfold mVal;cases h:mIdx (BEq.beq m) k with
 |none=>rfl|some j=>simp[trs,mIdx_lt h]
theorem sPut{k:Li}{m:Int}(h:m∉k):mPutK (BEq.beq m) k m=k++[m]/\mPutV (BEq.beq m) k (trs k) true=trs (k++[m]):=by
 have:mIdx (BEq.beq m) k=none:=by have:=k8t (m:=m) (k:=k);rw[qat h]at this;cases B:mIdx (BEq.beq m) k with
  |none=>rfl|some j=>rw[B]at this;cases this
 unfold mPutK mPutV;rw[this];exact⟨rfl,by simp[trs,List.replicate_succ']⟩
theorem k94{m:Int}:∀{k:Li}{j:Nat},mIdx (BEq.beq m) k=some j->k.eraseIdx j=k.erase m
 |x::r,j,h=>by
  unfold mIdx at h;by_cases e:m=x;.subst e;simp at h;subst h;simp
  .have F:BEq.beq m x=false:=by simpa using e
   rw[F,qcc]at h;cases B:mIdx (BEq.beq m) r with
   |none=>rw[B]at h;cases h|some i=>rw[B]at h;simp at h;subst h;rw[List.eraseIdx_cons_succ,k94 B,List.erase_cons_tail (by simpa usingλh=>e h.symm)]
theorem sDel(k:Li)(m:Int):mDelK (BEq.beq m) k=k.erase m/\mDelV (BEq.beq m) k (trs k)=trs (k.erase m):=by unfold mDelK mDelV;cases h:mIdx (BEq.beq m) k with
 |none=>
  have B:m∉k:=by have:=k8t (m:=m) (k:=k);rw[h]at this;simpa using this.symm
  rw[List.erase_of_not_mem B];exact⟨rfl,rfl⟩|some j=>
  refine⟨k94 h,?_⟩;rw[<-k94 h];unfold trs;refine List.eq_replicate_iff.2 ⟨?_,λb F=>?_⟩;.simp[List.length_eraseIdx]
  .exact(List.eq_replicate_iff.1 rfl).2 b (qeu F)
def addS(l k:Li):Int×Li:=if(l.any λm=>decide (m∈k))||!decide l.Nodup then(12,k)else(0,k++l)
def remS(l k:Li):Int×Li:=if(l.any λm=>!decide (m∈k))||!decide l.Nodup then(4,k)else(0,l.foldl List.erase k)
theorem kt8{m:Int}{k r:Li}(h:m∉k):(k++m::r).erase m=k++r:=by rw[List.erase_append_right _ h,List.erase_cons_head]
theorem rem_add:∀{l k:Li},(k++l).Nodup->l.foldl List.erase (k++l)=k
 |[],k,_=>by simp|m::r,k,h=>by
  have h1:=λB=>by rw[qci]at h;exact h.2.2 m B m qqs rfl
  rw[qfl,kt8 h1];refine rem_add ?_;rw[qci]at h⊢;refine⟨h.1,(qcn.1 h.2.1).2,λa F b J=>h.2.2 a F b (by simp[J])⟩
theorem ktp{l m:Li}(h:l.Perm m):srt l=srt m:=srt_eq ((k3a l).trans h) (k53 l)
theorem kwd(k:Li)(x:Int):srt (k++[x])=insI x (srt k):=(srt_eq ((k4m x (srt k)).trans (((k3a k).cons x).trans (List.perm_append_singleton x k).symm)) (k79 x _ (k53 k))).symm
theorem srt_app(k:Li):∀l,srt (k++l)=l.foldl (λa x=>insI x a) (srt k)
 |[]=>by simp|x::r=>by rw[qfl,<-kwd,<-srt_app (k++[x]) r,qn];rfl
def pws(n:Nat)(z b:Int):Bool:=(List.range n).any λj=>b==z*(2^j:Nat)
def prS(p:wAq):Bool:=pws 8 2 p.wBH&&pws 4 1 p.wAw&&decide (1<=p.wBD)&&decide (p.wBD<=64)
def rulesB(p:wF):Bool:=decide (1<=p.wd)&&decide (p.wd<=3)&&decide (1<=p.wH)&&decide (p.wH<=12)&&decide (1<=p.wt)&&decide (p.wt<=100)&&decide (1<=p.wW)&&decide (p.wW<=1048576)&&decide (p.wZ<=4294967296)&&decide (1<=p.wU)&&decide (p.wU<=65536)
def rulesE(p:wF):Int:=if rulesB p then if p.wd=1 then if prS ⟨p.wS,p.wO,p.wM⟩then 0 else 1 else 0 else 1
theorem pws_and(b:Nat)(h:2<=b/\b<=256):(iand .i64 b (b-1)==0)=pws 8 2 b:=by
 have:∀b∈List.range' 2 255,(iand .i64 b (b-1)==0)=pws 8 2 b:=by decide+kernel
 exact this b (by rw[List.mem_range'_1];omega)
theorem kjt{n:Nat}{z b:Int}(h:pws n z b=true)(J:0<z):z<=b/\b<=z*(2^(n-1):Nat):=by
 obtain⟨j,B,e⟩:=List.any_eq_true.1 h;have B:j<n:=by simpa using B
 have e:b=z*(2^j:Nat):=by simpa using e
 have h1:=qcg j;have F:2^j<=2^(n-1):=qcu qqd qqo;rw[e];constructor;.have:=qej (show 1<=((2^j:Nat):Int)by omega) (show 0<=z by omega);omega
 .exact qej qqo qqo
theorem k9k(n:Nat)(z b:Int):pws (n+1) z b=(pws n z b||b==z*(2^n:Nat)):=by simp[pws,List.range_succ]
theorem kg4:∀{l:Li}{j:Nat}h,([l[j]]++l.eraseIdx j).Perm l
 |x::r,0,_=>List.Perm.refl _|x::r,j+1,h=>by exact(List.Perm.swap x _ _).trans ((kg4 (l:=r) (j:=j) qqh).cons x)
structure PS where
 R:wF
 F:wI
 b:List wA
 n:Int
 l:Li
 r:Li
 p:List wT
 k:Li
 v:Lo
def ancL(r:Li)(w:Int):Li:=r.drop (r.length-w.toNat)
def chk(h:Int)(B k:Li)(b:List wA)(n:Int)(F:Nat)(d:Int)(t:wh):Int:=if validE t≠0 then validE t else if t.wAG<h+1 then 14 else if t.wX∉B then 11 else if t.wC.any (λm=>decide (m∈k))=true then 12 else if 0<t.wJ/\(debitA b t.wQ t.wJ t.wK).2≠0 then(debitA b t.wQ t.wJ t.wK).2 else if u64.wrap (n+t.wJ)<u64.wrap (t.wL+t.Fee)then 13 else if 2^d.toNat<F+t.wB.length then 16 else 0
def chkS(s:PS)(t:wh):Int:=chk s.p.length (ancL s.r s.R.wt) s.k s.b s.n s.l.length s.R.wH t
def outsF(F:wI)(o:List wAt):wI:=o.foldl (λf x=>apF f x.wl) F
def depA(b:List wA)(t:wh):List wA:=if 0<t.wJ then(debitA b t.wQ t.wJ t.wK).1 else b
def wdA(b:List wA)(t:wh):List wA×Int:=if 0<t.wL then creditA (depA b t) t.wQ t.wL else(depA b t,0)
def hidN(n:Int)(t:wh):Int:=u64.wrap (u64.wrap (u64.wrap (n+t.wJ)-t.wL)-t.Fee)
structure PE where
 e:Int
 s:PS
def perfS(s:PS)(t:wh):PE:=if(wdA s.b t).2≠0 then⟨(wdA s.b t).2,{s with F:=outsF s.F t.wB,l:=s.l++t.wB.map (·.wl),k:=s.k++t.wC,v:=trs (s.k++t.wC),b:=depA s.b t}⟩else⟨0,{s with F:=outsF s.F t.wB,l:=s.l++t.wB.map (·.wl),k:=s.k++t.wC,v:=trs (s.k++t.wC),b:=(wdA s.b t).1,n:=hidN s.n t}⟩
structure PB where
 e:Int
 s:PS
 m:Li
 f:Int
def blkGo:List wh->PS->Li->Int->PB
 |[],s,m,f=>⟨0,s,m,f⟩|t::r,s,m,f=>if chkS s t≠0 then⟨chkS s t,s,m,f⟩else if(perfS s t).e≠0 then⟨(perfS s t).e,(perfS s t).s,m++t.wC,f⟩else blkGo r (perfS s t).s (m++t.wC) (u64.wrap (f+t.Fee))
def crB(x:PB)(b:wD):List wA×Int:=creditA x.s.b b.wAM (u64.wrap (x.s.R.wZ+x.f))
def blkS(s:PS)(m:Li)(b:wD):PB:=if(blkGo b.Txs s m 0).e≠0 then blkGo b.Txs s m 0 else if(crB (blkGo b.Txs s m 0) b).2≠0 then{blkGo b.Txs s m 0 with e:=(crB (blkGo b.Txs s m 0) b).2}else{blkGo b.Txs s m 0 with e:=0,s:={(blkGo b.Txs s m 0).s with b:=(crB (blkGo b.Txs s m 0) b).1}}
def befS(s:PS)(m:Li):wT:=⟨s.F.wH,s.F.wAF,s.F.wAJ,s.l.length,m,s.b,s.n⟩
def applyS(s:PS)(b:wD):PE:=if b.wG≠s.p.length+1 then⟨18,s⟩else if 18446744069414584321<=b.wAM then⟨1,s⟩else if(blkS s [] b).e≠0 then⟨(blkS s [] b).e,s⟩else⟨0,{(blkS s [] b).s with p:=s.p++[befS s (blkS s [] b).m],r:=s.r++[rootF (blkS s [] b).s.F]}⟩
def resS(s:PS)(q:wT):PS:={s with F:=⟨q.wBK,q.wBL,q.wBM⟩,b:=q.wBC,n:=q.hidden,l:=s.l.take q.leaves.toNat,k:=(remS q.marks s.k).2,v:=trs (remS q.marks s.k).2}
def undoS(s:PS):PS:=if s.p=[]then s else{resS s (ix s.p (s.p.length-1))with p:=s.p.take (s.p.length-1),r:=s.r.take (s.r.length-1)}
def newS(r:wF):PS:=⟨r,frF r.wH [],[],0,[],[rootF (frF r.wH [])],[],[],[]⟩
def BG(l:Li):Prop:=∀x∈l,0<=x/\x<18446744069414584321
def sumA(l:List wA):Int:=(l.map (·.wn)).sum
structure PI(s:PS)(c:Nat)(f:Int):Prop where
 d1:1<=s.R.wH
 d2:s.R.wH<=12
 w1:1<=s.R.wt
 w2:s.R.wt<=100
 rw:0<=s.R.wZ/\s.R.wZ<=4294967296
 F:s.F=frF s.R.wH s.l
 ll:s.l.length<=2^s.R.wH.toNat
 l:BG s.l
 b:GoodA c s.b
 n:0<=s.n
 ff:0<=f
 sup:sumA s.b+s.n+f=(s.p.length:Int)*s.R.wZ
 r:BG s.r
 rl:s.r.length=s.p.length+1
 p:s.p.length<=c
 kn:s.k.Nodup
 kb:BG s.k
 kl:s.k.length<=4*c
 v:s.v=trs s.k
theorem sum_app(a b:List wA):sumA (a++b)=sumA a+sumA b:=by simp[sumA]
theorem sumA_nn{l:List wA}(h:∀a∈l,0<=a.wn):0<=sumA l:=by induction l with
 |nil=>exact qdl _|cons a l F=>
  have h1:=h a qqs;have J:=F λx B=>h x (by simp[B]);have:sumA (a::l)=a.wn+sumA l:=by simp[sumA]
  omega
theorem sum_put{l:List wA}{x:wA}(hs:Srt l):sumA (putA l x)=sumA l-(getA l x.ID).wn+x.wn:=by
 obtain⟨a,m,b,h⟩:=spl_of hs x.ID;rw[put_spl hs h,get_spl h,h.1];have B:sumA (if x.wn≠0∨x.wK≠0 then[x]else[])=x.wn:=by
  split;.simp[sumA]
  .rename_i F;have:=qad λJ=>F (.inl J);rw[this];rfl
 have M:sumA m=(m.headD ⟨x.ID,0,0⟩).wn:=by
  rcases h.2.2.1 with rfl|⟨y,rfl,_⟩;.rfl
  .simp[sumA]
 simp only[sum_app];omega
theorem kgt{l:List wA}{id B:Int}(hs:Srt l)(h:(creditA l id B).2=0):sumA (creditA l id B).1=sumA l+B:=by
 unfold creditA at h⊢;split at h;.cases h
 .rename_i F;rw[qe F];have:=sum_put (x:=⟨id,(getA l id).wn+B,(getA l id).wK⟩) hs;rw[this];simp;omega
theorem kt5{l:List wA}{id B F:Int}(hs:Srt l)(h:(debitA l id B F).2=0):sumA (debitA l id B F).1=sumA l-B:=by
 unfold debitA at h⊢;split at h;.cases h
 .rename_i h1;rw[qe h1];split at h;.cases h
  .rename_i J;rw[qe J];split at h;.cases h
   .rename_i M;rw[qe M];have:=sum_put (x:=⟨id,(getA l id).wn-B,F+1⟩) hs;rw[this];simp;omega
structure CK(s:PS)(t:wh):Prop where
 v:VT t
 m:∀m∈t.wC,m∉s.k
 d:0<t.wJ->(debitA s.b t.wQ t.wJ t.wK).2=0
 h:¬u64.wrap (s.n+t.wJ)<u64.wrap (t.wL+t.Fee)l:s.l.length+t.wB.length<=2^s.R.wH.toNat
theorem k9l{s:PS}{t:wh}(h:chkS s t=0):CK s t:=by
 unfold chkS chk at h;split at h;.rename_i h1;exact(h1 h).elim
 .rename_i h1;split at h;.cases h
  .split at h;.cases h
   .split at h;.cases h
    .rename_i F;split at h;.rename_i B;exact(B.2 h).elim
     .rename_i B;split at h;.cases h
      .rename_i J;split at h;.cases h
       .rename_i Y;refine⟨(kj t).1 (qad h1),λm M U=>F ?_,λX=>qad λhe=>B ⟨X,he⟩,J,by omega⟩;exact List.any_eq_true.2 ⟨m,M,by simpa using U⟩
theorem VT.am'{t:wh}(v:VT t):t.wJ<=4294967295/\t.wL<=4294967295/\t.Fee<=4294967295/\t.wQ<18446744069414584321/\(0<t.wJ->t.wL=0):=by have:=v.am;simp only[vAmounts,qh,qy]at this;obtain⟨⟨⟨⟨⟨F,a2⟩,J⟩,M⟩,U⟩,B⟩:=this;refine⟨F,a2,J,M,λh=>?_⟩;rw[qg h]at B;simpa using B
theorem ked{d:Int}:∀{o:List wAt}{l:Li},l.length+o.length<=2^d.toNat->outsF (frF d l) o=frF d (l++o.map (·.wl))
 |[],l,_=>by simp[outsF]|x::o,l,h=>by have h:l.length+(o.length+1)<=2^d.toNat:=h;show outsF (apF (frF d l) x.wl) o=_;rw[apF_frF qqo,ked qqm,qn];rfl
theorem sup_bd{s:PS}{c:Nat}{f:Int}(h:PI s c f)(X:c<=800):sumA s.b<=3435973836800/\s.n<=3435973836800/\f<=3435973836800/\0<=sumA s.b:=by have F:=sumA_nn (l:=s.b) λa B=>(h.b.1.2.2 a B).2.1.1;have h1:=h.sup;have J:=h.n;have M:=h.ff;have U:(s.p.length:Int)*s.R.wZ<=800*4294967296:=qdx (by have:=h.p;omega) h.rw.2 h.rw.1 qqd;omega
theorem PI.perf{s:PS}{c:Nat}{f:Int}(h:PI s c f)(hc:c<=800){t:wh}(M:TR t)(k:CK s t):(∃g,PI {(perfS s t).s with b:=s.b,n:=s.n} (c+1) g)/\GoodA (c+1) (perfS s t).s.b/\((perfS s t).e=0->PI (perfS s t).s (c+1) (f+t.Fee)):=by
 obtain⟨a1,a2,a3,a4,a5⟩:=k.v.am';obtain⟨s1,s2,s3,s4⟩:=sup_bd h hc;have ab:=M.d.1;have ac:=M.w.1;have ad:=M.f.1;have hk:=k.h;rw[wrap_u64 (s.n+t.wJ) (by have:=h.n;omega) qqo,wrap_u64 (t.wL+t.Fee) qqo qqo]at hk;have hF:outsF s.F t.wB=frF s.R.wH (s.l++t.wB.map (·.wl)):=by rw[h.F];exact ked k.l
 have hl:BG (s.l++t.wB.map (·.wl)):=by
  intro x B;rcases qae.1 B with B|B;.exact h.l x B
  .obtain⟨o,ho,rfl⟩:=qap.1 B;exact⟨(M.o o ho).c.1,(k.v.o o ho).c⟩
 have Y:BG (s.k++t.wC):=by
  intro x B;rcases qae.1 B with B|B;.exact h.kb x B
  .exact⟨(M.m x B).1,k.v.m x B⟩
 have Z:(s.k++t.wC).Nodup:=by rw[qci];exact⟨h.kn,k.v.mn,λa ha b hb e=>k.m b hb (e▸ha)⟩
 have aa:(s.k++t.wC).length<=4*(c+1):=by rw[qi];have:=h.kl;have:=k.v.ml;omega
 have J:GoodA (c+1) (depA s.b t)/\(t.wJ=0->depA s.b t=s.b)/\sumA (depA s.b t)=sumA s.b-t.wJ:=by
  unfold depA;split;.rename_i hd;exact⟨ki1 h.b qqo ⟨M.ac.1,a4⟩ ab ⟨M.n.1,by have:=M.n.2;omega⟩,λh0=>by omega,kt5 h.b.1.1 (k.d hd)⟩
  .rename_i hd;exact⟨⟨h.b.1,h.b.2.1,Nat.le_succ_of_le h.b.2.2⟩,λ_=>rfl,by omega⟩
 have X:GoodA (c+1) (wdA s.b t).1/\((wdA s.b t).2=0->sumA (wdA s.b t).1=sumA s.b-t.wJ+t.wL):=by
  unfold wdA;split
  .rename_i hw;have hz:t.wJ=0:=by
    rcases Int.lt_or_le 0 t.wJ with h1|h1;.have:=a5 h1;omega
    .omega
   rw[J.2.1 hz];exact⟨kdj h.b qqo ⟨M.ac.1,a4⟩ ac,λhe=>by rw[kgt h.b.1.1 he];omega⟩
  .exact⟨J.1,λ_=>by simp only;omega⟩
 have U:(s.l++t.wB.map (·.wl)).length<=2^s.R.wH.toNat:=by simp only[qi,qp];exact k.l
 refine⟨⟨f,?_⟩,?_,?_⟩
 .have base:PI {s with F:=outsF s.F t.wB,l:=s.l++t.wB.map (·.wl),k:=s.k++t.wC,v:=trs (s.k++t.wC)} (c+1) f:=⟨h.d1,h.d2,h.w1,h.w2,h.rw,hF,U,hl,⟨h.b.1,h.b.2.1,Nat.le_succ_of_le h.b.2.2⟩,h.n,h.ff,h.sup,h.r,h.rl,by have:=h.p;simp only;omega,Z,Y,aa,rfl⟩;unfold perfS;split;.exact base
  .exact base
 .unfold perfS;split;.exact J.1
  .exact X.1
 .intro he;unfold perfS at he⊢;split at he;.rename_i h1;exact(h1 he).elim
  .rename_i h1;rw[qe h1];have hz:=qad h1;have ae:=h.n;have hh:hidN s.n t=s.n+t.wJ-t.wL-t.Fee:=by unfold hidN;rw[wrap_u64 (s.n+t.wJ) qqo qqo,wrap_u64 (s.n+t.wJ-t.wL) qqo qqo,wrap_u64 _ qqo qqo]
   refine⟨h.d1,h.d2,h.w1,h.w2,h.rw,hF,U,hl,X.1,?_,by have:=h.ff;omega,?_,h.r,h.rl,by have:=h.p;simp only;omega,Z,Y,aa,rfl⟩;.simp only[hh];omega
   .have h9:=h.sup;simp only[hh,X.2 hz];omega
theorem kky(s:PS)(t:wh):(perfS s t).s.R=s.R/\(perfS s t).s.p=s.p/\(perfS s t).s.r=s.r/\(perfS s t).s.l=s.l++t.wB.map (·.wl)/\(perfS s t).s.k=s.k++t.wC/\(perfS s t).s.v=trs (s.k++t.wC):=by unfold perfS;split<;>exact⟨rfl,rfl,rfl,rfl,rfl,rfl⟩
structure BI(s0 s:PS)(m:Li):Prop where
 R:s.R=s0.R
 p:s.p=s0.p
 r:s.r=s0.r
 l:∃x,s.l=s0.l++x
 k:s.k=s0.k++m
 kn:s.k.Nodup
 kb:BG s.k
 v:s.v=trs s.k
 lb:BG s.l
 F:s.F=frF s.R.wH s.l
 ll:s.l.length<=2^s.R.wH.toNat
theorem BI.refl{s:PS}{c:Nat}{f:Int}(h:PI s c f):BI s s []:=⟨rfl,rfl,rfl,⟨[],by simp⟩,by simp,h.kn,h.kb,h.v,h.l,h.F,h.ll⟩
theorem BI.perf{s0 s:PS}{m:Li}{c:Nat}{f:Int}(b:BI s0 s m)(h:PI s c f)(M:c<=800){t:wh}(U:TR t)(k:CK s t):BI s0 (perfS s t).s (m++t.wC):=by
 obtain⟨⟨g,h1⟩,_,_⟩:=h.perf M U k;obtain⟨k1,k2,k3,B,F,X⟩:=kky s t;refine⟨k1.trans b.R,k2.trans b.p,k3.trans b.r,?_,?_,h1.kn,h1.kb,h1.v,h1.l,h1.F,h1.ll⟩;.obtain⟨x,J⟩:=b.l;exact⟨x++t.wB.map (·.wl),by rw[B,J,qn]⟩
 .rw[F,b.k,qn]
structure BO(s0:PS)(x:PB)(c:Nat):Prop where
 b:BI s0 x.s x.m
 ok:x.e=0->PI x.s c x.f
theorem kdz{s:PS}{c:Nat}{f:Int}(h:PI s c f)(B:c<=800){t:wh}(F:TR t)(k:CK s t):u64.wrap (f+t.Fee)=f+t.Fee:=by obtain⟨J,a2,M,U,X⟩:=k.v.am';obtain⟨Y,Z,s3,s4⟩:=sup_bd h B;exact wrap_u64 _ (by have:=h.ff;have:=F.f.1;omega) qqo
theorem k57:∀{r:List wh}{s0 s:PS}{m:Li}{c:Nat}{f:Int},BI s0 s m->PI s c f->c+r.length<=800->(∀t∈r,TR t)->BO s0 (blkGo r s m f) (c+r.length)
 |[],s0,s,m,c,f,b,h,_,_=>⟨b,λ_=>h⟩|t::r,s0,s,m,c,f,b,h,M,X=>by
  have M:c+(r.length+1)<=800:=M;unfold blkGo;split;.rename_i h1;exact⟨b,λhe=>(h1 he).elim⟩
  .rename_i h1;have k:=k9l (qad h1);have B:=X t qqs;have U:=b.perf h qqo B k;split;.rename_i F;exact⟨U,λhe=>(F he).elim⟩
   .rename_i F;have Y:=(h.perf qqo B k).2.2 (qad F);rw[kdz h qqo B k];have:=k57 (r:=r) U Y qqo λt J=>X t (by simp[J]);rw[show c+(t::r).length=c+1+r.length by simp;omega];exact this
structure BR'(b:wD):Prop where
 m:U64 b.wAM
 t:∀t∈b.Txs,TR t
 l:∀t∈b.Txs,TL t
theorem kei{x:PB}{c:Nat}(h:PI x.s c x.f)(B:c<=800):u64.wrap (x.s.R.wZ+x.f)=x.s.R.wZ+x.f/\U64 (x.s.R.wZ+x.f):=by obtain⟨F,J,M,U⟩:=sup_bd h B;have h1:=h.rw;have X:=h.ff;exact⟨wrap_u64 _ qqo qqo,by omega,by omega⟩
theorem blkS_BI{s:PS}{c:Nat}(h:PI s c 0){b:wD}(B:c+b.Txs.length<=800)(F:BR' b):BI s (blkS s [] b).s (blkS s [] b).m:=by
 have:=(k57 (BI.refl h) h B F.t).b;unfold blkS;split;.exact this
 .split;.exact this
  .exact⟨this.R,this.p,this.r,this.l,this.k,this.kn,this.kb,this.v,this.lb,this.F,this.ll⟩
theorem koq{s0 s:PS}{m:Li}(h:BI s0 s m)(X:s0.v=trs s0.k):resS s (befS s0 m)=s0:=by
 have J:(remS m s.k).2=s0.k:=by
  have B:=h.kn;rw[h.k]at B⊢;unfold remS;have M:(m.any λx=>!decide (x∈s0.k++m))=false:=by rw[List.any_eq_false];intro x F;simp[F]
  have U:m.Nodup:=by rw[qci]at B;exact B.2.1
  rw[M,qao U];exact rem_add B
 obtain⟨x,F⟩:=h.l;unfold resS befS;simp;rw[J,h.R,h.p,h.r,F,List.take_left,<-X]
theorem krr{s:PS}{c:Nat}(h:PI s c 0){b:wD}(hc:c+b.Txs.length<=800)(hb:BR' b)(he:(applyS s b).e=0):undoS (applyS s b).s=s/\(applyS s b).s.p.length=s.p.length+1:=by
 have F:=blkS_BI h hc hb;unfold applyS at he⊢;split at he;.cases he
 .rename_i h1;rw[qe h1];split at he;.cases he
  .rename_i J;rw[qe J];split at he;.rename_i B;exact(B he).elim
   .rename_i B;rw[qe B];refine⟨?_,by simp⟩;unfold undoS;rw[qe qqs];have e:ix (s.p++[befS s (blkS s [] b).m]) ((s.p++[befS s (blkS s [] b).m]).length-1)=befS s (blkS s [] b).m:=by
     have:(s.p++[befS s (blkS s [] b).m]).length-1=(s.p.length:Int):=by simp
     rw[this,ix_get _ _ qqs];simp
    simp only[e];have M:=koq F h.v;have X:(s.p++[befS s (blkS s [] b).m]).take ((s.p++[befS s (blkS s [] b).m]).length-1)=s.p:=by simp
    have Y:(s.r++[rootF (blkS s [] b).s.F]).take ((s.r++[rootF (blkS s [] b).s.F]).length-1)=s.r:=by simp
    rw[X,Y];have Z:∀(y:PS)(q:wT)(p':List wT)(r':Li),({resS {y with p:=p',r:=r'} q with p:=s.p,r:=s.r}:PS)={resS y q with p:=s.p,r:=s.r}:=λ_ _ _ _=>rfl;rw[Z,M]
theorem kol{s:PS}{c:Nat}(h:PI s c 0){b:wD}(hc:c+b.Txs.length<=790)(Y:BR' b)(he:(applyS s b).e=0):PI (applyS s b).s (c+b.Txs.length+1) 0:=by
 have U:=k57 (BI.refl h) h qqo Y.t;unfold applyS at he⊢;split at he;.cases he
 .rename_i h1;rw[qe h1];split at he;.cases he
  .rename_i Z;rw[qe Z];unfold blkS at he⊢;by_cases J:(blkGo b.Txs s [] 0).e≠0;.rw[qg J,qg J]at he;exact(J he).elim
   .rw[qe J]at he⊢;have B:=U.ok (qad J);by_cases F:(crB (blkGo b.Txs s [] 0) b).2≠0;.rw[qg F,qg F]at he;exact(F he).elim
    .rw[qe F,qe qqs];have F:=qad F;generalize blkGo b.Txs s [] 0=x at*;have X:=kei B qqo;have U:=U.b;unfold crB at F⊢;rw[X.1]at F⊢;have hF:=B.F;have hr:=k6p (d:=x.s.R.wH) (l:=x.s.l) (by have:=B.d1;omega) B.ll;refine⟨B.d1,B.d2,B.w1,B.w2,B.rw,B.F,B.ll,B.l,kdj B.b qqo ⟨Y.m.1,by omega⟩ X.2.1,B.n,qdl _,?_,?_,?_,?_,B.kn,B.kb,?_,B.v⟩
     .have h9:=B.sup;simp only[kgt B.b.1.1 F];rw[U.p]at h9;rw[qi,qbs];have:(s.p.length+1:Nat)*x.s.R.wZ=s.p.length*x.s.R.wZ+x.s.R.wZ:=by rw[Int.natCast_add,Int.add_mul];simp
      rw[this];omega
     .intro y M;rcases qae.1 M with M|M;.exact h.r y M
      .rw[qah.1 M,hF,hr];exact TT_r B.l _ _
     .have:=h.rl;simp only[qi,qbs];omega
     .have:=h.p;simp only[qi,qbs];omega
     .have:=B.kl;simp only;omega
theorem kp0:∀{r:List wh}{s:PS}{m:Li}{f:Int},(blkGo r s m f).m.length<=m.length+4*r.length
 |[],_,_,_=>by simp[blkGo]|t::r,s,m,f=>by
  unfold blkGo;split;.simp
  .rename_i h1;have:=(k9l (qad h1)).v.ml;split;.simp;omega
   .have:=kp0 (r:=r) (s:=(perfS s t).s) (m:=m++t.wC) (f:=u64.wrap (f+t.Fee));rw[qi]at this;simp;omega
theorem blkS_ml(s:PS)(b:wD):(blkS s [] b).m.length<=4*b.Txs.length:=by
 have:=kp0 (r:=b.Txs) (s:=s) (m:=[]) (f:=0);rw[qan,qav]at this;unfold blkS;split;.exact this
 .split<;>exact this
def mOf(s:PS):wAZ:=⟨s.R.wd,s.R.wH,s.R.wS,s.R.wO,s.R.wM,s.R.wZ,s.R.wt,s.R.wW,s.R.wU,s.p.length,s.l,srt s.k,s.b,s.n,s.r⟩
def rchk(m:wAZ)(t:wh):Int:=chk m.wG (ancL m.wAL m.wV) m.wC m.wE m.wAU m.wAO.length m.wv t
structure RE where
 e:Int
 m:wAZ
def rperf(m:wAZ)(t:wh):RE:=if rchk m t≠0 then⟨rchk m t,m⟩else⟨(wdA m.wE t).2,{m with wC:=t.wC.foldl (λa x=>insI x a) m.wC,wAO:=m.wAO++t.wB.map (·.wl),wE:=(wdA m.wE t).1,wAU:=hidN m.wAU t}⟩
structure RG where
 e:Int
 m:wAZ
 f:Int
def rGo:List wh->wAZ->Int->RG
 |[],m,f=>⟨0,m,f⟩|t::r,m,f=>if(rperf m t).e≠0 then⟨(rperf m t).e,(rperf m t).m,f⟩else rGo r (rperf m t).m (u64.wrap (f+t.Fee))
def rcr(x:RG)(w:Int)(b:wD):List wA×Int:=creditA x.m.wE b.wAM (u64.wrap (w+x.f))
def rapply(m:wAZ)(b:wD):RE:=if b.wG≠m.wG+1 then⟨18,m⟩else if 18446744069414584321<=b.wAM then⟨1,m⟩else if(rGo b.Txs m 0).e≠0 then⟨(rGo b.Txs m 0).e,m⟩else if(rcr (rGo b.Txs m 0) m.wx b).2≠0 then⟨(rcr (rGo b.Txs m 0) m.wx b).2,m⟩else⟨0,{(rGo b.Txs m 0).m with wE:=(rcr (rGo b.Txs m 0) m.wx b).1,wG:=(rGo b.Txs m 0).m.wG+1,wAL:=(rGo b.Txs m 0).m.wAL++[TT (lf (rGo b.Txs m 0).m.wAO) (rGo b.Txs m 0).m.wv.toNat 0]}⟩
theorem rchk_eq(s:PS)(t:wh):rchk (mOf s) t=chkS s t:=by
 unfold rchk chkS mOf chk;have:(t.wC.any λm=>decide (m∈srt s.k))=t.wC.any λm=>decide (m∈s.k):=by congr 1;funext m;rw[Bool.eq_iff_iff,decide_eq_true_iff,decide_eq_true_iff];exact(k3a s.k).mem_iff
 rw[this]
theorem kow{s:PS}{t:wh}(h:chkS s t=0):(rperf (mOf s) t).e=(perfS s t).e/\((perfS s t).e=0->(rperf (mOf s) t).m=mOf (perfS s t).s):=by
 unfold rperf;rw[rchk_eq,qe (by rw[h];decide)];unfold perfS;split;.rename_i h1;exact⟨rfl,λhe=>(h1 he).elim⟩
 .rename_i h1;have h1:=qad h1;refine⟨h1,λ_=>?_⟩;unfold mOf;rw[srt_app]
theorem rGo_eq:∀{r:List wh}{s:PS}{m:Li}{f:Int},(rGo r (mOf s) f).e=(blkGo r s m f).e/\((blkGo r s m f).e=0->(rGo r (mOf s) f).m=mOf (blkGo r s m f).s/\(rGo r (mOf s) f).f=(blkGo r s m f).f)
 |[],_,_,_=>⟨rfl,λ_=>⟨rfl,rfl⟩⟩|t::r,s,m,f=>by
  unfold rGo blkGo;by_cases h1:chkS s t≠0
  .have e:rperf (mOf s) t=⟨chkS s t,mOf s⟩:=by unfold rperf;rw[rchk_eq,qg h1]
   rw[e,qg h1,qg h1];exact⟨rfl,λhe=>(h1 he).elim⟩
  .rw[qe h1];obtain⟨F,J⟩:=kow (qad h1);rw[F];by_cases B:(perfS s t).e≠0;.rw[qg B,qg B];exact⟨rfl,λhe=>(B he).elim⟩
   .rw[qe B,qe B,J (qad B)];exact rGo_eq
theorem kkg{s:PS}{c:Nat}(h:PI s c 0){b:wD}(hc:c+b.Txs.length<=790)(hb:BR' b):rapply (mOf s) b=⟨(applyS s b).e,mOf (applyS s b).s⟩:=by
 have J:=k57 (BI.refl h) h qqo hb.t;obtain⟨Y,Z⟩:=rGo_eq (r:=b.Txs) (s:=s) (m:=[]) (f:=0);unfold rapply applyS;rw[show(mOf s).wG=s.p.length from rfl];split;.rfl
 .split;.rfl
  .unfold blkS;rw[Y];by_cases B:(blkGo b.Txs s [] 0).e≠0;.rw[qg B,qg B,qg B]
   .rw[qe B,qe B];have B:=qad B;obtain⟨X,e2⟩:=Z B;have M:=J.ok B;have ec:rcr (rGo b.Txs (mOf s) 0) (mOf s).wx b=crB (blkGo b.Txs s [] 0) b:=by unfold rcr crB;rw[X,e2,J.b.R];rfl
    rw[ec,X];by_cases F:(crB (blkGo b.Txs s [] 0) b).2≠0;.rw[qg F,qg F,qg F]
    .rw[qe F,qe F,qe qqs];have hr:=k6p (d:=(blkGo b.Txs s [] 0).s.R.wH) (l:=(blkGo b.Txs s [] 0).s.l) (by have:=M.d1;omega) M.ll;have hp:=J.b.p;have U:=J.b.r;unfold mOf;rw[M.F,hr,hp,U];simp
structure UOk(s:PS):Prop where
 v:s.v=trs s.k
 kl:s.k.length<=1000000
 r:1<=s.r.length
 rl:s.r.length<=1000000
 pl:s.p.length<=1000000
 q:s.p≠[]->(ix s.p ((s.p.length:Int)-1)).marks.length<=1000000/\0<=(ix s.p ((s.p.length:Int)-1)).leaves/\(ix s.p ((s.p.length:Int)-1)).leaves<=(s.l.length:Int)
structure ROk(m:wAZ):Prop where
 w1:1<=m.wV
 w2:m.wV<=100
 d1:1<=m.wv
 d2:m.wv<=12
 h:0<=m.wG/\m.wG<=1000000
 rl:m.wAL.length<=1000000
 ml:m.wC.length<=900000
 a:OkA m.wE
 al:m.wE.length<=999
 n:U64 m.wAU
 ll:m.wAO.length<=4096
theorem take_set'{α:Type}(l:List α)(n:Nat)(x:α):(l.set n x).take n=l.take n:=by
 apply List.ext_getElem;.simp
 .intro i h1 B;rw[qu]at B;rw[List.getElem_take,List.getElem_take,List.getElem_set,qe qqo]
theorem PI.rok{s:PS}{c:Nat}{f:Int}(h:PI s c f)(F:c<=800):ROk (mOf s):=by
 obtain⟨J,M,U,X⟩:=sup_bd h F;have Y:=h.p;have Z:=h.kl;have hr:=h.rl;have B:=pow12 s.R.wH.toNat (by have:=h.d2;omega);have hl:=h.ll;refine⟨h.w1,h.w2,h.d1,h.d2,?_,?_,?_,h.b.1,?_,⟨h.n,?_⟩,?_⟩;.show 0<=(s.p.length:Int)/\(s.p.length:Int)<=1000000;omega
 .show s.r.length<=1000000;omega
 .show(srt s.k).length<=900000;rw[k8o];omega
 .have:=h.b.2.2;show s.b.length<=999;omega
 .show s.n<18446744073709551616;omega
 .show s.l.length<=4096;omega
theorem ktz{s:PS}{c:Nat}(h:PI s c 0){b:wD}(Z:c+b.Txs.length<=790)(J:BR' b)(he:(applyS s b).e=0):UOk (applyS s b).s:=by
 have B:=kol h Z J he;have M:=blkS_BI h qqo J;have U:=blkS_ml s b;have hp:=B.p;have hk:=B.kl;have hr:=B.rl;refine⟨B.v,by omega,by omega,by omega,by omega,λ_=>?_⟩;unfold applyS at he⊢;split at he;.cases he
 .rename_i h1;rw[qe h1];split at he;.cases he
  .rename_i X;rw[qe X];split at he;.rename_i F;exact(F he).elim
   .rename_i F;rw[qe F];have e:ix (s.p++[befS s (blkS s [] b).m]) ((s.p++[befS s (blkS s [] b).m]).length-1)=befS s (blkS s [] b).m:=by
     have:(s.p++[befS s (blkS s [] b).m]).length-1=(s.p.length:Int):=by simp
     rw[this,ix_get _ _ qqs];simp
    simp only[e];obtain⟨x,Y⟩:=M.l;refine⟨?_,?_,?_⟩;.show(blkS s [] b).m.length<=1000000;omega
    .show 0<=(s.l.length:Int);omega
    .show s.l.length<=((blkS s [] b).s.l.length:Int);rw[Y,qi];omega
def encA(a:wA):Li:=dig 8 a.ID++dig 8 a.wn++dig 8 a.wK
def encM(m:wAZ):Li:=dig 4 (len4 m.wG)++encL m.wAO++encL m.wC++dig 4 (len4 m.wE.length)++m.wE.flatMap encA++dig 8 m.wAU++encL (ancL m.wAL m.wV)
structure EOk(m:wAZ):Prop where
 r:ROk m
 l:BG m.wAO
 k:BG m.wC
 o:BG m.wAL
theorem BG.us{l:Li}(h:BG l):Us l:=λx B=>⟨(h x B).1,by have:=(h x B).2;omega⟩
theorem PI.eok{s:PS}{c:Nat}{f:Int}(h:PI s c f)(F:c<=800):EOk (mOf s):=⟨h.rok F,h.l,λx B=>h.kb x ((k3a s.k).mem_iff.1 B),h.r⟩
theorem k7e:∀l:List wA,(l.flatMap encA).length=24*l.length
 |[]=>rfl|a::r=>by rw[qbe,qi,k7e r,qx];unfold encA;simp;omega
theorem anc_us{r:Li}{w:Int}(h:BG r):Us (ancL r w):=λx B=>BG.us h x (qck B)
theorem anc_len(r:Li)(w:Int):(ancL r w).length<=r.length:=by unfold ancL;rw[qal];omega
theorem acc_u{l:List wA}(h:OkA l){a:wA}(U:a∈l):U64 a.ID/\U64 a.wn/\U64 a.wK:=by have:=h.2.2 a U;obtain⟨⟨B,a2⟩,⟨F,X⟩,J,M⟩:=this;exact by omega
theorem kq1{l:List wA}{i:Nat}(h:i<l.length)(X:Li):X++(l.take i).flatMap encA++dig 8 l[i].ID++dig 8 l[i].wn++dig 8 l[i].wK=X++(l.take (i+1)).flatMap encA:=by rw[qt h,qbp];simp[encA]
def sumW(l:List wh):Int:=(l.map weightS).sum
theorem kpd(l:List wh)(x:wh):sumW (l++[x])=sumW l+weightS x:=by simp[sumW]
theorem k8s{t:wh}(h:validE t=0):0<=weightS t/\weightS t<=1048880:=by have v:=(kj t).1 h;have:=v.enc_len t.wAH;have:=v.pl;unfold weightS;omega
theorem sumW_bd:∀l,(∀x∈l,validE x=0)->0<=sumW l/\sumW l<=1048880*l.length
 |[],_=>by simp[sumW]|x::l,h=>by
  have h1:=sumW_bd l λy B=>h y (by simp[B]);have F:=k8s (h x qqs);have e:sumW (x::l)=weightS x+sumW l:=by simp[sumW]
  rw[e,qx];omega
structure BR(b:wD):Prop where
 p:U64 b.wP
 m:U64 b.wAM
 w:U64 b.wU
 n:U64 b.wK
 h:-9223372036854775808<=b.wG/\b.wG<=9223372036854775807
 t:∀x∈b.Txs,TR x
structure VB0(b:wD):Prop where
 h0:1<=b.wG
 h1:b.wG<=1048576
 w0:1<=b.wU
 w1:b.wU<=65536
 p:b.wP<18446744069414584321
 m:b.wAM<18446744069414584321
 l:b.Txs.length<=64
def vHead(b:wD):Bool:=decide (1<=b.wG)&&decide (b.wG<=1048576)&&decide (1<=b.wU)&&decide (b.wU<=65536)&&decide (b.wP<18446744069414584321)&&decide (b.wAM<18446744069414584321)&&decide (b.Txs.length<=64)
theorem k70(b:wD):vHead b=true↔VB0 b:=by
 unfold vHead;simp;constructor;.rintro⟨⟨⟨⟨⟨⟨a,b⟩,c⟩,d⟩,e⟩,f⟩,g⟩;exact⟨a,b,c,d,e,f,g⟩
 .rintro⟨a,b,c,d,e,f,g⟩;exact⟨⟨⟨⟨⟨⟨a,b⟩,c⟩,d⟩,e⟩,f⟩,g⟩
def validB(b:wD):Int:=if vHead b=true/\∀t∈b.Txs,validE t=0 then if sumW b.Txs<=2097152 then 0 else 3 else 1
structure VB(b:wD):Prop where
 h:VB0 b
 t:∀x∈b.Txs,validE x=0
 s:sumW b.Txs<=2097152
theorem k20(b:wD):validB b=0↔VB b:=by
 unfold validB;split
 .rename_i h;split;.rename_i hs;exact⟨λ_=>⟨(k70 b).1 h.1,h.2,hs⟩,λ_=>rfl⟩
  .rename_i hs;exact⟨λe=>absurd e qqd,λe=>absurd e.s hs⟩
 .rename_i h;exact⟨λe=>absurd e qqd,λe=>absurd ⟨(k70 b).2 e.h,e.t⟩ h⟩
theorem kdp{b:wD}(h:¬VB0 b):validB b=1:=qe λe=>h ((k70 b).1 e.1)
theorem kkm{b:wD}{x:wh}(B:x∈b.Txs)(h:validE x≠0):validB b=1:=qe λe=>h (e.2 x B)
theorem kk6{b:wD}(h:VB0 b)(B:∀x∈b.Txs,validE x=0):validB b=if sumW b.Txs<=2097152 then 0 else 3:=qg ⟨(k70 b).2 h,B⟩
def hdrS(b:wD):Li:=dig 8 b.wP++dig 4 (len4 b.wG)++dig 8 b.wAM++dig 8 b.wU++dig 8 b.wK++dig 4 (len4 b.Txs.length)
@[simp]theorem k7m(b:wD):(hdrS b).length=40:=by simp[hdrS]
theorem hdrS_by(b:wD):By (hdrS b):=(((((dig_by _ _).append (dig_by _ _)).append (dig_by _ _)).append (dig_by _ _)).append (dig_by _ _)).append (dig_by _ _)
def encTx(t:wh):Li:=encB (encT t t.wAH)
def namS(b:wD):Li:=hdrS b++(b.Txs.map idS).flatMap (dig 8)
def idB(b:wD):Int:=if validB b=0 then hashB 15 (namS b)else 0
def sameB(a b:wD):Bool:=decide (a.wP=b.wP/\a.wG=b.wG/\a.wAM=b.wAM/\a.wU=b.wU/\a.wK=b.wK/\a.Txs.length=b.Txs.length/\∀i,i<a.Txs.length->sameT (ix a.Txs i) (ix b.Txs i)=true)
theorem kt9(B:Int)(l:Li):U64 (hashB B l):=kx _ _
theorem idS_u64(t:wh):U64 (idS t):=by
 unfold idS;split;.exact kt9 _ _
 .omega
theorem VT.bl{t:wh}(h:VT t)(r:TR t):TR t/\TL t/\t.wB.length<=1048576/\∀x∈t.wB,x.wm.length<=1024:=⟨r,h.tl,by have:=h.ol;omega,λx B=>by have:=(h.o x B).l;omega⟩
open Classical in
theorem kth{x y:wh}{r s:Li}(M:TR x)(B:validE x=0)(U:TR y)(F:validE y=0)(h:encTx x++r=encTx y++s):x=y/\r=s:=by have B:=(kj x).1 B;have F:=(kj y).1 F;have X:=B.enc_len x.wAH;have Y:=B.pl;have Z:=F.enc_len y.wAH;have yp:=F.pl;unfold encTx encB at h;rw[len4_in qqo,len4_in qqo,qn,qn]at h;have q:=List.append_inj h qqs;have q1:=dig_inj (k:=4) (by omega) (by omega) q.1;have J:=List.append_inj q.2 qqo;exact⟨enc_inj ⟨M,B,rfl⟩ ⟨U,F,J.1.symm⟩,J.2⟩
theorem idS_us(l:List wh):Us (l.map idS):=λx B=>by obtain⟨t,_,rfl⟩:=qap.1 B;exact idS_u64 t
theorem namS_by(x:wD):By (namS x):=(hdrS_by x).append (kee _)
theorem kql(x:wD):(namS x).length=40+8*x.Txs.length:=by unfold namS;rw[qi,k7m,ku,qp]
theorem VB.vt{x:wD}(h:VB x){t:wh}(B:t∈x.Txs):VT t:=(kj t).1 (h.t t B)
theorem encT_le{t:wh}(h:VT t):(encT t t.wAH).length<=1099511627775:=by have h1:=h.enc_len t.wAH;have B:=h.pl;omega
def checkB(w:Int)(b:wD):Int:=if validB b≠0 then validB b else if b.wU≠w then 17 else if Int.tmod (hashB 15 (namS b)) b.wU≠0 then 17 else 0
theorem k5m{r:wF}(h:rulesE r=0):rulesB r=true:=by cases B:rulesB r with
 |true=>rfl|false=>unfold rulesE at h;rw[B]at h;cases h
theorem new_PI{r:wF}(h:rulesE r=0)(M:0<=r.wZ):PI (newS r) 0 0:=by
 have F:=k5m h;simp only[rulesB,qh,qy]at F;have J:=k6p (d:=r.wH) (l:=[]) qqo (qbf _);refine⟨by show 1<=r.wH;omega,by show r.wH<=12;omega,by show 1<=r.wt;omega,by show r.wt<=100;omega,⟨M,by show r.wZ<=4294967296;omega⟩,rfl,qbf _,(λx B=>by cases B),k6b 0,qdl _,qdl _,?_,?_,rfl,qaf _,qex,(λx B=>by cases B),qbf _,rfl⟩;.show 0+0+0=0*r.wZ;simp
 .intro x B;rw[qah.1 B,J];exact TT_r (λx B=>by cases B) _ _
theorem PI.mono{s:PS}{c d:Nat}{f:Int}(h:PI s c f)(B:c<=d):PI s d f:=⟨h.d1,h.d2,h.w1,h.w2,h.rw,h.F,h.ll,h.l,⟨h.b.1,h.b.2.1,qbd h.b.2.2 B⟩,h.n,h.ff,h.sup,h.r,h.rl,qbd h.p B,h.kn,h.kb,qbd h.kl (Nat.mul_le_mul_left 4 B),h.v⟩
theorem ks0{s:PS}{b:wD}(h:(applyS s b).e≠0):(applyS s b).s=s:=by
 unfold applyS at h⊢;split;.rfl
 .rename_i h1;rw[qe h1]at h;split;.rfl
  .rename_i B;rw[qe B]at h;split;.rfl
   .rename_i F;rw[qe F]at h;exact(h rfl).elim
theorem apply_R{s:PS}{c:Nat}(h:PI s c 0){b:wD}(J:c+b.Txs.length<=790)(F:BR' b):(applyS s b).s.R=s.R:=by
 have B:=blkS_BI h qqo F;unfold applyS;split;.rfl
 .split;.rfl
  .split;.rfl
   .exact B.R
def auGo:List wD->PS->PE
 |[],s=>⟨0,s⟩|b::r,s=>if(applyS s b).e=0 then auGo r (applyS s b).s else⟨(applyS s b).e,s⟩
theorem k2e{p:Int}{l:Li}:mHas (BEq.beq p) l=true↔p∈l:=by
 rw[kw7];constructor
 .rintro⟨x,B,h⟩;have:p=x:=by simpa using h
  exact this▸B
 .intro h;exact⟨p,h,by simp⟩
theorem kss{s:PS}{b:wD}(h:(applyS s b).e=0):b.wG=s.p.length+1/\(applyS s b).s.p.length=s.p.length+1/\(blkS s [] b).e=0/\(applyS s b).s.n=(blkS s [] b).s.n/\(applyS s b).s.l=(blkS s [] b).s.l:=by
 unfold applyS at h⊢;split at h;.cases h
 .rename_i h1;rw[qe h1];split at h;.cases h
  .rename_i F;rw[qe F];split at h;.rename_i B;exact(B h).elim
   .rename_i B;rw[qe B];exact⟨qad h1,by simp,qad B,rfl,rfl⟩
theorem auGo_PI:∀l s c,PI s c 0->(∀b∈l,BR' b)->(∀b∈l,b.Txs.length<=4)->c+5*l.length<=790->(auGo l s).e=0->PI (auGo l s).s (c+5*l.length) 0/\(auGo l s).s.p.length=s.p.length+l.length/\(auGo l s).s.R=s.R
 |[],s,c,h,_,_,_,_=>⟨h,by simp[auGo],rfl⟩|b::r,s,c,h,F,M,J,he=>by
  have J:c+5*(r.length+1)<=790:=J;unfold auGo at he⊢;split at he
  .rename_i h1;rw[qg h1];have h4:=M b qqs;have U:=(kol h qqo (F b qqs) h1).mono (d:=c+5) qqo;obtain⟨X,Y,Z⟩:=auGo_PI r _ (c+5) U (λx B=>F x (by simp[B])) (λx B=>M x (by simp[B])) qqo he;refine⟨?_,?_,?_⟩;.rw[qx,show c+5*(r.length+1)=c+5+5*r.length by omega];exact X
   .rw[Y,(kss h1).2.1,qx];omega
   .rw[Z];exact apply_R h qqo (F b qqs)
  .rename_i h1;exact(h1 he).elim
theorem us2{a b:Int}(F:U64 a)(J:U64 b):Us [a,b]:=by
 intro x B;simp at B;rcases B with rfl|rfl;.exact F
 .exact J
def blkOf(x:wR):wD:=⟨x.wBB,x.wAy,x.wBF,x.wBI,x.wBG,x.wBJ⟩
def gB(k:Li)(v:List wR)(id:Int):wD:=blkOf (mVal (BEq.beq id) k v default)
def brS(k:Li)(v:List wR):Nat->Int->Li
 |0,_=>[]|h+1,p=>brS k v h (gB k v p).wP++[p]
def brB(k:Li)(v:List wR)(b:wD):Li:=brS k v (b.wG-1).toNat b.wP
def pthI(k:Li)(v:List wR)(id:Int):Li:=brB k v (gB k v id)++[id]
def stL(R:wF)(k:Li)(v:List wR)(l:Li):PE:=auGo (l.map (gB k v)) (newS R)
def undoN:Nat->PS->PS
 |0,s=>s|k+1,s=>undoN k (undoS s)
theorem k8c:∀k s,undoN (k+1) s=undoS (undoN k s)
 |0,_=>rfl|k+1,s=>k8c k (undoS s)
theorem k2q(b:wD)(r:List wD)(s:PS):auGo (b::r) s=if(applyS s b).e=0 then auGo r (applyS s b).s else⟨(applyS s b).e,s⟩:=rfl
theorem k5k:∀a b s,(auGo a s).e=0->auGo (a++b) s=auGo b (auGo a s).s
 |[],b,s,_=>rfl|x::a,b,s,h=>by
  rw[k2q]at h;rw[List.cons_append,k2q,k2q];split at h;.rename_i h1;rw[qg h1,qg h1];exact k5k a b _ h
  .rename_i h1;exact(h1 h).elim
theorem k8k:∀a b s,(auGo (a++b) s).e=0->(auGo a s).e=0
 |[],b,s,_=>rfl|x::a,b,s,h=>by
  rw[List.cons_append,k2q]at h;rw[k2q];split at h;.rename_i h1;rw[qg h1];exact k8k a b _ h
  .rename_i h1;exact(h1 h).elim
theorem kou{b:wD}{s:PS}(h:(applyS s b).e=0):auGo [b] s=⟨0,(applyS s b).s⟩:=by unfold auGo;rw[qg h];rfl
def BLs(l:List wD):Prop:=(∀b∈l,BR' b)/\∀b∈l,b.Txs.length<=4
theorem kfv{α:Type}(p:α->Bool):∀l m,mIdx p (l++m)=match mIdx p l with|some j=>some j|none=>(mIdx p m).map (·+l.length)
 |[],m=>by simp[mIdx]|x::l,m=>by show(bif p x then some 0 else(mIdx p (l++m)).map (·+1))=match(bif p x then some 0 else(mIdx p l).map (·+1))with|some j=>some j|none=>(mIdx p m).map (·+(x::l).length);cases h:p x with
  |true=>rfl|false=>rw[kfv p l m];cases mIdx p l with
   |some j=>rfl|none=>cases mIdx p m with
    |none=>rfl|some j=>congr 1
theorem kar{β:Type}{x id:Int}{k:Li}{v:List β}{y d:β}(J:x∈k)(U:k.length=v.length):mVal (BEq.beq x) (k++[id]) (v++[y]) d=mVal (BEq.beq x) k v d:=by have h:=k2e.2 J;unfold mHas at h;unfold mVal;rw[kfv];cases B:mIdx (BEq.beq x) k with
 |none=>rw[B]at h;cases h|some j=>
  obtain⟨z,h1,M⟩:=k6o B;have F:j<v.length:=by have:=(qq.1 h1).1;omega
  simp;rw[qay F]
theorem kbq{β:Type}{id:Int}{k:Li}{v:List β}{y d:β}(J:id∉k)(M:k.length=v.length):mVal (BEq.beq id) (k++[id]) (v++[y]) d=y:=by
 have h:mHas (BEq.beq id) k=false:=by cases B:mHas (BEq.beq id) k with
  |false=>rfl|true=>exact(J (k2e.1 B)).elim
 unfold mHas at h;unfold mVal;rw[kfv];cases F:mIdx (BEq.beq id) k with
 |some j=>rw[F]at h;cases h|none=>
  have:mIdx (BEq.beq id) [id]=some 0:=by simp[mIdx]
  rw[this];simp[M]
def accT(R:wF)(t:wh):Bool:=(decW t.wAH).2==0&&checkS pkR (stmtS t R.wH) (decW t.wAH).1==0
def txE(R:wF)(t:wh):Int:=if rulesE R≠0 then rulesE R else if validE t≠0 then validE t else if accT R t=false then 10 else 0
def txsE(R:wF):List wh->Int
 |[]=>0|t::r=>if txE R t≠0 then txE R t else txsE R r
structure CS where
 R:wF
 k:Li
 v:List wR
 be:Li
 S:PS
 fi:Int
 he:Int
structure KI(R:wF)(k:Li)(v:List wR)(n:Nat):Prop where
 kv:k.length=v.length
 kn:k.length<=n
 r:∀id∈k,BR' (gB k v id)/\(gB k v id).Txs.length<=4
 h1:∀id∈k,1<=(gB k v id).wG/\(gB k v id).wG<=k.length
 hp:∀id∈k,1<(gB k v id).wG->(gB k v id).wP∈k/\(gB k v (gB k v id).wP).wG=(gB k v id).wG-1
 rep:∀id∈k,(stL R k v (pthI k v id)).e=0
 ac:∀id∈k,txsE R (gB k v id).Txs=0
 ru:rulesE R=0
 w:0<=R.wZ
structure CI(c:CS)(n:Nat):Prop where
 K:KI c.R c.k c.v n
 be:c.be=[]∨∃id∈c.k,c.be=pthI c.k c.v id
 st:c.S=(stL c.R c.k c.v c.be).s
 he:0<=c.he/\c.he<=4294967296
theorem KI.way{R:wF}{k:Li}{v:List wR}{n:Nat}(h:KI R k v n):∀(m:Nat)p,p∈k->(gB k v p).wG=m->brS k v m p=pthI k v p/\(pthI k v p).length=m/\∀x∈pthI k v p,x∈k
 |0,p,F,J=>by have:=(h.h1 p F).1;omega|1,p,F,J=>by
  have e:brB k v (gB k v p)=[]:=by unfold brB;rw[J];rfl
  refine⟨?_,?_,λx B=>?_⟩;.unfold pthI;rw[e];rfl
  .unfold pthI;rw[e];rfl
  .unfold pthI at B;rw[e]at B;rw[qah.1 B];exact F|m+2,p,F,J=>by
  obtain⟨X,Y⟩:=h.hp p F qqo;obtain⟨U,Z,w3⟩:=h.way (m+1) (gB k v p).wP X (by omega);have e:brB k v (gB k v p)=pthI k v (gB k v p).wP:=by unfold brB;rw[show((gB k v p).wG-1).toNat=m+1 by omega];exact U
  have M:pthI k v p=pthI k v (gB k v p).wP++[p]:=by
   conv=>lhs;unfold pthI
   rw[e]
  refine⟨?_,?_,λx B=>?_⟩;.rw[M,<-U];rfl
  .rw[M,qi,Z];rfl
  .rw[M]at B;rcases qae.1 B with B|B;.exact w3 x B
   .rw[qah.1 B];exact F
theorem KI.pth{R:wF}{k:Li}{v:List wR}{n:Nat}(h:KI R k v n){p:Int}(B:p∈k):(pthI k v p).length=(gB k v p).wG/\(∀x∈pthI k v p,x∈k)/\(pthI k v p).length<=n:=by obtain⟨h1,M⟩:=h.h1 p B;obtain⟨m,F⟩:=qm (show 0<=(gB k v p).wG by omega);obtain⟨_,U,J⟩:=h.way m p B F;have:=h.kn;exact⟨by omega,J,by omega⟩
theorem KI.bls{R:wF}{k:Li}{v:List wR}{n:Nat}(h:KI R k v n){l:Li}(J:∀x∈l,x∈k):BLs (l.map (gB k v)):=by
 refine⟨λb B=>?_,λb B=>?_⟩;.obtain⟨x,F,rfl⟩:=qap.1 B;exact(h.r x (J x F)).1
 .obtain⟨x,F,rfl⟩:=qap.1 B;exact(h.r x (J x F)).2
theorem KI.pi{R:wF}{k:Li}{v:List wR}{n:Nat}(h:KI R k v n){l:Li}(F:∀x∈l,x∈k)(J:l.length<=20)(he:(stL R k v l).e=0):PI (stL R k v l).s (5*l.length) 0/\(stL R k v l).s.p.length=l.length/\(stL R k v l).s.R=R:=by have B:=h.bls F;have:=auGo_PI (l.map (gB k v)) (newS R) 0 (new_PI h.ru h.w) B.1 B.2 (by rw[qp];omega) he;rw[qp,qav]at this;obtain⟨a,b,c⟩:=this;exact⟨a,by show(auGo _ _).s.p.length=_;rw[b];exact qav _,c⟩
def PaOk(k:Li)(v:List wR)(b:wD):Prop:=b.wG=1/\b.wP=0∨b.wG≠1/\b.wP∈k/\(gB k v b.wP).wG=b.wG-1
def parS(k:Li)(v:List wR)(b:wD):Int:=if b.wG=1 then if b.wP≠0 then 18 else 0 else if mHas (BEq.beq b.wP) k=false∨(gB k v b.wP).wG≠i64.wrap (b.wG-1)then 18 else 0
theorem KI.br{R:wF}{k:Li}{v:List wR}{n:Nat}(h:KI R k v n){b:wD}(Z:PaOk k v b)(hh:1<=b.wG):(brB k v b).length=b.wG-1/\(∀x∈brB k v b,x∈k)/\(stL R k v (brB k v b)).e=0/\(brB k v b).length<=n/\b.wG<=k.length+1:=by
 rcases Z with⟨h1,B⟩|⟨h1,B,F⟩
 .have e:brB k v b=[]:=by unfold brB;rw[h1];rfl
  rw[e];exact⟨by simp;omega,λx M=>(by cases M),rfl,qbf _,by omega⟩
 .obtain⟨m,J⟩:=qm (show 0<=b.wG-1 by omega);have e:brB k v b=pthI k v b.wP:=by unfold brB;rw[J,qv];exact(h.way m b.wP B (by rw[F,J])).1
  obtain⟨U,X,Y⟩:=h.pth B;have:=(h.h1 b.wP B).2;rw[e];exact⟨by rw[U,F],X,h.rep _ B,Y,by omega⟩
theorem gB_old{k:Li}{v:List wR}{id:Int}{y:wR}(B:k.length=v.length){x:Int}(F:x∈k):gB (k++[id]) (v++[y]) x=gB k v x:=by unfold gB;rw[kar F B]
theorem gB_new{k:Li}{v:List wR}{id:Int}{y:wR}(B:k.length=v.length)(F:id∉k):gB (k++[id]) (v++[y]) id=blkOf y:=by unfold gB;rw[kbq F B]
theorem KI.way_old{R:wF}{k:Li}{v:List wR}{n:Nat}(h:KI R k v n){id:Int}{y:wR}:∀(m:Nat)p,p∈k->(gB k v p).wG=m->brS (k++[id]) (v++[y]) m p=brS k v m p
 |0,p,_,_=>rfl|1,p,B,F=>rfl|m+2,p,B,F=>by obtain⟨J,M⟩:=h.hp p B qqo;unfold brS;rw[gB_old h.kv B,h.way_old (m+1) _ J (by omega)]
theorem KI.pth_old{R:wF}{k:Li}{v:List wR}{n:Nat}(h:KI R k v n){id:Int}{y:wR}{p:Int}(B:p∈k):pthI (k++[id]) (v++[y]) p=pthI k v p:=by obtain⟨h1,_⟩:=h.h1 p B;unfold pthI brB;rw[gB_old h.kv B];obtain⟨m,F⟩:=qm (show 0<=(gB k v p).wG-1 by omega);rw[F,qv];cases m with
 |zero=>rfl|succ m=>obtain⟨J,M⟩:=h.hp p B qqo;rw[h.way_old (m+1) _ J (by rw[M,F])]
theorem KI.br_old{R:wF}{k:Li}{v:List wR}{n:Nat}(h:KI R k v n){id:Int}{y:wR}{b:wD}(M:PaOk k v b)(U:1<=b.wG):brB (k++[id]) (v++[y]) b=brB k v b:=by unfold brB;obtain⟨m,B⟩:=qm (show 0<=b.wG-1 by omega);rw[B,qv];cases m with
 |zero=>rfl|succ m=>
  rcases M with⟨h1,F⟩|⟨h1,F,J⟩;.omega
  .rw[h.way_old (m+1) _ F (by rw[J,B])]
theorem stL_old{R:wF}{k:Li}{v:List wR}{id:Int}{y:wR}(F:k.length=v.length){l:Li}(J:∀x∈l,x∈k):stL R (k++[id]) (v++[y]) l=stL R k v l:=by unfold stL;rw[qar λx B=>gB_old F (J x B)]
structure NB(R:wF)(k:Li)(v:List wR)(id:Int)(b:wD):Prop where
 n:id∉k
 p:PaOk k v b
 h:1<=b.wG
 r:BR' b
 t:b.Txs.length<=4
 e:(applyS (stL R k v (brB k v b)).s b).e=0
 a:txsE R b.Txs=0
theorem KI.step{R:wF}{k:Li}{v:List wR}{n:Nat}(h:KI R k v n){id:Int}{y:wR}(M:NB R k v id (blkOf y)):KI R (k++[id]) (v++[y]) (n+1)/\pthI (k++[id]) (v++[y]) id=brB k v (blkOf y)++[id]/\stL R (k++[id]) (v++[y]) (brB k v (blkOf y)++[id])=⟨0,(applyS (stL R k v (brB k v (blkOf y))).s (blkOf y)).s⟩:=by
 have F:=λ{x:Int}(B:x∈k)=>gB_old (id:=id) (y:=y) h.kv B;have J:=gB_new (y:=y) h.kv M.n;obtain⟨b1,b2,Z,b4,b5⟩:=h.br M.p M.h;have aa:=h.kn;have hp:pthI (k++[id]) (v++[y]) id=brB k v (blkOf y)++[id]:=by unfold pthI;rw[J,h.br_old M.p M.h]
 have hs:stL R (k++[id]) (v++[y]) (brB k v (blkOf y)++[id])=⟨0,(applyS (stL R k v (brB k v (blkOf y))).s (blkOf y)).s⟩:=by have h1:=stL_old (R:=R) (id:=id) (y:=y) h.kv b2;unfold stL at h1 Z⊢;rw[qbj,k5k _ _ _ (by rw[h1];exact Z),h1,List.map_singleton,J];exact kou M.e
 refine⟨⟨by simp[h.kv],by simp;omega,λx B=>?_,λx B=>?_,λx B U=>?_,λx B=>?_,λx B=>?_,h.ru,h.w⟩,hp,hs⟩
 .rcases qae.1 B with B|B;.rw[F B];exact h.r x B
  .rw[qah.1 B,J];exact⟨M.r,M.t⟩
 .rw[qi,qbs];rcases qae.1 B with B|B;.rw[F B];have:=h.h1 x B;omega
  .rw[qah.1 B,J];exact by omega
 .rcases qae.1 B with B|B;.rw[F B]at U⊢;obtain⟨Y,X⟩:=h.hp x B U;rw[F Y];exact⟨by simp[Y],X⟩
  .rw[qah.1 B,J]at U⊢;rcases M.p with⟨Y,X⟩|⟨Y,X,q3⟩;.omega
   .rw[F X];exact⟨by simp[X],q3⟩
 .rcases qae.1 B with B|B;.rw[h.pth_old B,stL_old h.kv (h.pth B).2.1];exact h.rep x B
  .rw[qah.1 B,hp,hs]
 .rcases qae.1 B with B|B;.rw[F B];exact h.ac x B
  .rw[qah.1 B,J];exact M.a
theorem rhoS_u8(o i:Int):U64 (rhoS o i):=by
 unfold rhoS;split;.exact kx _ _
 .decide
theorem kx0(t:wh):U64 (bindS t):=by
 unfold bindS;split;.exact kx _ _
 .decide
theorem kpm{t:wh}{d:Int}(h:TR t)(M:-9223372036854775808<=d/\d<=9223372036854775807):SR (stmtS t d):=by
 unfold stmtS;split
 .rename_i F;have v:=(kj t).1 F;refine⟨M,h.a,h.m,by show t.wC.length<=_;have:=v.ml;omega,λx B=>?_,by have:=v.ol;simp;omega,λx B=>?_,by have:=v.ol;simp;omega,h.d,h.w,h.f,h.ac,kx0 t⟩;.obtain⟨o,J,rfl⟩:=qap.1 B;exact(h.o o J).c
  .obtain⟨i,_,rfl⟩:=qap.1 B;exact rhoS_u8 _ _
 .exact⟨⟨by simp only;omega,by simp only;omega⟩,by decide,λx B=>(by cases B),by decide,λx B=>(by cases B),by decide,λx B=>(by cases B),by decide,by decide,by decide,by decide,by decide,by decide⟩
theorem kq4{b:Li}(h:((decW b).2==0)=true):WR (decW b).1:=by
 rcases kt0 b with⟨w,F,e⟩|e
 .rw[e];obtain⟨U,X,Y,M,Z⟩:=k3t.1 F.v;have B:=F.r;exact⟨λx J=>by have h1:=B.i x J;have h2:=(k1t.1 (M x J)).2.2.2.2.2.2.1;exact⟨h1.n,h1.k,h1.nu,h1.po,h1.pa,by omega⟩,by show w.Ins.length<=_;omega,B.o,by show w.wB.length<=_;omega,B.s⟩
 .rw[e]at h;cases h
theorem orOk_q(q:List wN):OrOk [] [] q:=⟨rfl,λv B=>by cases B⟩
def smT(t:wh):Bool:=decide (t.wC.length<=6)&&decide (t.wB.length<=6)&&decide (t.wAH.length<=2000)&&t.wB.all λo=>decide (o.wm.length<=10)
def smS(b:wD):Bool:=b.Txs.all smT&&decide (b.Txs.length<=4)
def fewS(r:wF)(l:List wD)(n:Int):Bool:=l.all smS&&(decide (r.wd=2)&&(decide (r.wH<=5)&&decide (l.length<=n)))
def cpl:Li->Li->Nat
 |a::l,b::m=>if a=b then cpl l m+1 else 0|_,_=>0
theorem cpl_le:∀l m,cpl l m<=l.length/\cpl l m<=m.length/\l.take (cpl l m)=m.take (cpl l m)
 |[],m=>by simp[cpl]|a::l,[]=>by simp[cpl]|a::l,b::m=>by
  unfold cpl;split;.rename_i h;obtain⟨h1,F,B⟩:=cpl_le l m;subst h;simp only[qx,List.take_succ_cons,B];exact⟨by omega,by omega,trivial⟩
  .simp
theorem knt:∀i l m,i<=cpl l m->(i=cpl l m↔¬(i<l.length/\i<m.length/\l.getD i 0=m.getD i 0))
 |i,[],m,h=>by
  have:i=0:=by simpa[cpl]using h
  subst this;simp[cpl]|i,a::l,[],h=>by
  have:i=0:=by simpa[cpl]using h
  subst this;simp[cpl]|0,a::l,b::m,_=>by
  unfold cpl;split;.rename_i h;simp[h]
  .rename_i h;simp[h]|i+1,a::l,b::m,h=>by
  unfold cpl at h⊢;split at h
  .rename_i B;rw[qg B];have:=knt i l m qqo;simp only[qx,List.getD_cons_succ];constructor;.omega
   .omega
  .omega
def mvS(k:Li)(v:List wR)(S:PS)(n:Nat)(l:Li):PS:=(auGo (l.map (gB k v)) (undoN n S)).s
structure MvA(k:Li)(v:List wR)(S:PS)(n:Nat)(l:Li)(s0:PS)(c:Nat)(lf:List wD):Prop where
 hp:PI s0 c 0
 hn:lf.length=n
 hb:BLs lf
 ht:BLs (l.map (gB k v))hc:c+5*n+5*l.length<=700
 he:(auGo lf s0).e=0
 hs:S=(auGo lf s0).s
 hf:(auGo (l.map (gB k v)) s0).e=0
def MvOk(k:Li)(v:List wR)(S:PS)(n:Nat)(l:Li):Prop:=∃s0 c lf,MvA k v S n l s0 c lf
theorem BLs.take{l:List wD}(h:BLs l)(n:Nat):BLs (l.take n):=⟨λb B=>h.1 b (qba B),λb B=>h.2 b (qba B)⟩
theorem k6u(l:List wD)(s:PS)(n:Nat)(h:(auGo l s).e=0):(auGo (l.take n) s).e=0:=by rw[<-qbi n l]at h;exact k8k _ _ _ h
theorem k73{l:List wD}{s:PS}{n:Nat}(h:(auGo l s).e=0)(J:n<l.length):(applyS (auGo (l.take n) s).s l[n]).e=0/\(auGo (l.take (n+1)) s).s=(applyS (auGo (l.take n) s).s l[n]).s:=by
 have h1:=k6u l s (n+1) h;have F:=k6u l s n h;rw[qt J]at h1⊢;rw[k5k _ _ _ F]at h1⊢;have B:(applyS (auGo (l.take n) s).s l[n]).e=0:=by
  rw[k2q]at h1;split at h1;.rename_i B;exact B
  .rename_i B;exact(B h1).elim
 rw[kou B];exact⟨B,rfl⟩
theorem kdx{l:List wD}{s:PS}{c:Nat}(h:(auGo l s).e=0)(F:PI s c 0)(B:BLs l)(n:Nat)(J:n<=l.length)(M:c+5*l.length<=790):PI (auGo (l.take n) s).s (c+5*n) 0:=by have:=(auGo_PI (l.take n) s c F (B.take n).1 (B.take n).2 (by rw[qu];omega) (k6u l s n h)).1;rw[qu,qcf J]at this;exact this
theorem MvA.back{k:Li}{v:List wR}{S:PS}{n:Nat}{l:Li}{s0:PS}{c:Nat}{lf:List wD}(h:MvA k v S n l s0 c lf):∀i,i<=n->undoN i S=(auGo (lf.take (n-i)) s0).s
 |0,_=>by rw[h.hs,Nat.sub_zero,ql (by rw[h.hn];exact qaf _)];rfl|i+1,hi=>by rw[k8c,h.back i qqo];have U:=h.hn;have X:=h.hc;obtain⟨F,J⟩:=k73 h.he (n:=n-(i+1)) qqo;rw[show n-i=n-(i+1)+1 by omega,J];have M:=kdx h.he h.hp h.hb (n-(i+1)) qqo qqo;have B:lf[n-(i+1)]' qqo∈lf:=qz _;have:=h.hb.2 _ B;exact(krr M qqo (h.hb.1 _ B) F).1
theorem MvA.uok{k:Li}{v:List wR}{S:PS}{n:Nat}{l:Li}{s0:PS}{c:Nat}{lf:List wD}(h:MvA k v S n l s0 c lf){i:Nat}(hi:i<n):UOk (undoN i S):=by rw[h.back i qqo];have U:=h.hn;have X:=h.hc;obtain⟨F,J⟩:=k73 h.he (n:=n-(i+1)) qqo;rw[show n-i=n-(i+1)+1 by omega,J];have M:=kdx h.he h.hp h.hb (n-(i+1)) qqo qqo;have B:lf[n-(i+1)]' qqo∈lf:=qz _;have:=h.hb.2 _ B;exact ktz M qqo (h.hb.1 _ B) F
theorem MvA.base{k:Li}{v:List wR}{S:PS}{n:Nat}{l:Li}{s0:PS}{c:Nat}{lf:List wD}(h:MvA k v S n l s0 c lf):undoN n S=s0:=by rw[h.back n (qaf _),Nat.sub_self];rfl
theorem MvA.fwd{k:Li}{v:List wR}{S:PS}{n:Nat}{l:Li}{s0:PS}{c:Nat}{lf:List wD}(h:MvA k v S n l s0 c lf){j:Nat}(Y:j<l.length):PI (auGo ((l.take j).map (gB k v)) s0).s (c+5*j) 0/\BR' (gB k v l[j])/\(gB k v l[j]).Txs.length<=4/\(auGo ((l.take (j+1)).map (gB k v)) s0).s=(applyS (auGo ((l.take j).map (gB k v)) s0).s (gB k v l[j])).s:=by have U:=h.hc;have X:(l.map (gB k v)).length=l.length:=qp _;have F:=kdx h.hf h.hp h.ht j qqo qqo;obtain⟨J,B⟩:=k73 h.hf (n:=j) qqo;rw[List.getElem_map]at J B;rw[<-qdc]at F B J;rw[<-qdc]at B;have M:gB k v l[j]∈l.map (gB k v):=qap.2 ⟨l[j],qz _,rfl⟩;exact⟨F,h.ht.1 _ M,h.ht.2 _ M,B⟩
structure FH where
 f:Int
 h:Int
def finS(F:Int)(be:Li)(f h:Int):FH:=if 1<=be.length-F/\h<be.length-F then⟨ix be (be.length-F-1),be.length-F⟩else⟨f,h⟩
def wkS(v:List wR)(k:Li)(id:Int):Int:=(mVal (BEq.beq id) k v default).work
def betS(k:Li)(v:List wR)(be:Li)(id w:Int):Bool:=if be=[]then true else decide (wkS v k (ix be (be.length-1))<w)||w==wkS v k (ix be (be.length-1))&&decide (id<ix be (be.length-1))
def stoS(b:wD)(w:Int):wR:=⟨b.wP,b.wG,b.wAM,b.wU,b.wK,b.Txs,w⟩
def wrkS(c:CS)(b:wD):Int:=if brB c.k c.v b=[]then b.wU else u64.wrap (b.wU+wkS c.v c.k b.wP)
structure SubR where
 u:Int
 a:Int
 e:Int
 c:CS
def addS'(c:CS)(b:wD):CS:={c with k:=c.k++[idB b],v:=c.v++[stoS b (wrkS c b)]}
def topS(c:CS)(b:wD):CS:={addS' c b with be:=brB c.k c.v b++[idB b],S:=(applyS (stL c.R c.k c.v (brB c.k c.v b)).s b).s,fi:=(finS c.R.wW (brB c.k c.v b++[idB b]) c.fi c.he).f,he:=(finS c.R.wW (brB c.k c.v b++[idB b]) c.fi c.he).h}
def subE(c:CS)(b:wD):Int:=if checkB c.R.wU b≠0 then checkB c.R.wU b else if idB b∈c.k then 5 else if parS c.k c.v b≠0 then parS c.k c.v b else if 0<c.he/\((brB c.k c.v b).length<c.he∨ix (brB c.k c.v b) (c.he-1)≠c.fi)then 19 else if txsE c.R b.Txs≠0 then txsE c.R b.Txs else(applyS (stL c.R c.k c.v (brB c.k c.v b)).s b).e
def subS(c:CS)(b:wD):SubR:=if subE c b≠0 then⟨0,0,subE c b,c⟩else if betS c.k c.v c.be (idB b) (wrkS c b)=false then⟨0,0,0,addS' c b⟩else⟨c.be.length-cpl (brB c.k c.v b) c.be,(brB c.k c.v b).length+1-cpl (brB c.k c.v b) c.be,0,topS c b⟩
structure GB(b:wD):Prop where
 r:BR b
 l:∀t∈b.Txs,TL t
 t:b.Txs.length<=4
theorem GB.r'{b:wD}(h:GB b):BR' b:=⟨h.r.m,h.r.t,h.l⟩
structure SuO(c:CS)(b:wD):Prop where
 hc:checkB c.R.wU b=0
 hi:idB b∉c.k
 hp:parS c.k c.v b=0
 ht:txsE c.R b.Txs=0
 he:(applyS (stL c.R c.k c.v (brB c.k c.v b)).s b).e=0
theorem kjy{c:CS}{b:wD}(h:subE c b=0):SuO c b:=by
 unfold subE at h;split at h;.rename_i h1;exact(h1 h).elim
 .rename_i h1;split at h;.cases h
  .rename_i J;split at h;.rename_i B;exact(B h).elim
   .rename_i B;split at h;.cases h
    .split at h;.rename_i F;exact(F h).elim
     .rename_i F;exact⟨qad h1,J,qad B,qad F,h⟩
theorem k43{w:Int}{b:wD}(h:checkB w b=0):VB b:=by
 unfold checkB at h;split at h;.rename_i h1;exact(h1 h).elim
 .rename_i h1;exact(k20 b).1 (qad h1)
theorem parS_ok{k:Li}{v:List wR}{b:wD}(h:parS k v b=0)(M:VB b):PaOk k v b:=by
 unfold parS at h;have X:=M.h.h0;have h1:=M.h.h1;split at h
 .rename_i F;split at h;.cases h
  .rename_i B;exact .inl ⟨F,qad B⟩
 .rename_i F;split at h;.cases h
  .rename_i B;refine .inr ⟨F,?_,?_⟩;.cases J:mHas (BEq.beq b.wP) k with
    |true=>exact k2e.1 J|false=>exact(B (.inl J)).elim
   .have:=qad λU=>B (.inr U);rw[this,wi _ qqo qqo]
theorem blk_sto(b:wD)(w:Int):blkOf (stoS b w)=b:=rfl
theorem SuO.nb{c:CS}{b:wD}(h:SuO c b)(B:GB b):NB c.R c.k c.v (idB b) b:=by have v:=k43 h.hc;exact⟨h.hi,parS_ok h.hp v,v.h.h0,B.r',B.t,h.he,h.ht⟩
theorem KI.mono{R:wF}{k:Li}{v:List wR}{n m:Nat}(h:KI R k v n)(B:n<=m):KI R k v m:=⟨h.kv,qbd h.kn B,h.r,h.h1,h.hp,h.rep,h.ac,h.ru,h.w⟩
theorem CI.mono{c:CS}{n m:Nat}(h:CI c n)(B:n<=m):CI c m:=⟨h.K.mono B,h.be,h.st,h.he⟩
theorem CI.bek{c:CS}{n:Nat}(h:CI c n):(∀x∈c.be,x∈c.k)/\c.be.length<=n/\(stL c.R c.k c.v c.be).e=0:=by
 rcases h.be with e|⟨id,h1,e⟩;.rw[e];exact⟨λx B=>(by cases B),qbf _,rfl⟩
 .rw[e];obtain⟨_,F,J⟩:=h.K.pth h1;exact⟨F,J,h.K.rep _ h1⟩
theorem finS_h{F:Int}{be:Li}{f h:Int}(J:1<=F)(M:be.length<=1000)(B:0<=h/\h<=4294967296):0<=(finS F be f h).h/\(finS F be f h).h<=4294967296:=by
 unfold finS;split;.simp;omega
 .exact B
theorem kkv{r:wF}(h:rulesE r=0):1<=r.wW/\r.wW<=1048576:=by have B:=k5m h;simp only[rulesB,qh,qy]at B;omega
theorem subS_R(c:CS)(b:wD):(subS c b).c.R=c.R:=by
 unfold subS;split;.rfl
 .split<;>rfl
theorem subS_CI{c:CS}{n:Nat}(h:CI c n)(hn:n<=19){b:wD}(Z:GB b):CI (subS c b).c (n+1):=by
 unfold subS;split;.exact h.mono (qdk n)
 .rename_i h1;have U:=kjy (qad h1);have B:=U.nb Z;obtain⟨F,J,M⟩:=h.K.step (y:=stoS b (wrkS c b)) B;rw[blk_sto]at J M;obtain⟨X,b2,b3⟩:=h.bek;split
  .refine⟨F,?_,?_,h.he⟩
   .rcases h.be with e|⟨id,h1,e⟩;.exact .inl e
    .exact .inr ⟨id,by show id∈c.k++[idB b];simp[h1],by rw[show(addS' c b).be=c.be from rfl,e];exact(h.K.pth_old h1).symm⟩
   .show c.S=(stL c.R (c.k++[idB b]) (c.v++[stoS b (wrkS c b)]) c.be).s;rw[stL_old h.K.kv X];exact h.st
  .have Y:=kkv h.K.ru;obtain⟨r1,r2,r3,r4,r5⟩:=h.K.br B.p B.h;refine⟨F,.inr ⟨idB b,by show idB b∈c.k++[idB b];simp,J.symm⟩,?_,finS_h Y.1 (by rw[qi,qbs];omega) h.he⟩;show(applyS (stL c.R c.k c.v (brB c.k c.v b)).s b).s=(stL c.R (c.k++[idB b]) (c.v++[stoS b (wrkS c b)]) (brB c.k c.v b++[idB b])).s;rw[M]
theorem ktd{β:Type}{p:Int}{l:Li}(h:p∉l)(v:List β)(y:β):mPutK (BEq.beq p) l p=l++[p]/\mPutV (BEq.beq p) l v y=v++[y]:=by
 have h:mHas (BEq.beq p) l=false:=by cases B:mHas (BEq.beq p) l with
  |false=>rfl|true=>exact(h (k2e.1 B)).elim
 unfold mHas at h;unfold mPutK mPutV;cases F:mIdx (BEq.beq p) l with
 |none=>exact⟨rfl,rfl⟩|some j=>rw[F]at h;cases h
theorem KI.mv{R:wF}{k:Li}{v:List wR}{n:Nat}(h:KI R k v n)(hn:n<=20){l m:Li}(X:∀x∈l,x∈k)(hm:∀x∈m,x∈k)(ll:l.length<=20)(lm:m.length<=20)(el:(stL R k v l).e=0)(Y:(stL R k v m).e=0){i:Nat}(hi:i<=l.length)(aa:i<=m.length)(Z:l.take i=m.take i){S:PS}(hS:S=(stL R k v l).s):MvOk k v S (l.drop i).length (m.drop i)/\mvS k v S (l.drop i).length (m.drop i)=(stL R k v m).s:=by
 have sp:∀q:Li,(stL R k v q).e=0->(stL R k v (q.take i)).e=0/\stL R k v q=auGo ((q.drop i).map (gB k v)) (stL R k v (q.take i)).s:=λq F=>by
  unfold stL at F⊢;have e:q.map (gB k v)=(q.take i).map (gB k v)++(q.drop i).map (gB k v):=by rw[<-qbj,qbi]
  rw[e]at F⊢;have h1:=k8k _ _ _ F;exact⟨h1,k5k _ _ _ h1⟩
 obtain⟨a1,a2⟩:=sp l el;obtain⟨b1,M⟩:=sp m Y;have J:∀x∈l.take i,x∈k:=λx B=>X x (qba B);have hP:=(h.pi J (by rw[qu];omega) a1).1;have U:MvA k v S (l.drop i).length (m.drop i) (stL R k v (l.take i)).s (5*(l.take i).length) ((l.drop i).map (gB k v)):=⟨hP,by simp,h.bls λx B=>X x (qck B),h.bls λx B=>hm x (qck B),by rw[qu,qal,qal];omega,by rw[<-a2];exact el,by rw[hS,<-a2],by rw[Z,<-M];exact Y⟩;refine⟨⟨_,_,_,U⟩,?_⟩;unfold mvS;rw[U.base,Z,<-M]
theorem k45{c:CS}{b:wD}{e:Int}(h:subE c b=e)(he:e≠0):subS c b=⟨0,0,e,c⟩:=by unfold subS;rw[h,qg he]
theorem ix_gd8{l:Li}{i:Nat}(h:i<l.length):ix l i=l.getD i 0:=by rfl
theorem cpl_ix{l m:Li}{i:Nat}(hi:i<=cpl l m):i=cpl l m↔¬(i<l.length/\i<m.length/\ix l i=ix m i):=by
 rw[knt i l m hi];constructor;.rintro h⟨a,b,c⟩;exact h ⟨a,b,c⟩
 .rintro h⟨a,b,c⟩;exact h ⟨a,b,c⟩
theorem kkb{R:wF}{l:List wh}{i:Nat}(hi:i<l.length):txsE R (l.drop i)=if txE R l[i]≠0 then txE R l[i]else txsE R (l.drop (i+1)):=by rw[qbb hi];rfl
theorem subE_go{c:CS}{b:wD}(h1:checkB c.R.wU b=0)(B:idB b∉c.k)(F:parS c.k c.v b=0):subE c b=if 0<c.he/\((brB c.k c.v b).length<c.he∨ix (brB c.k c.v b) (c.he-1)≠c.fi)then 19 else if txsE c.R b.Txs≠0 then txsE c.R b.Txs else(applyS (stL c.R c.k c.v (brB c.k c.v b)).s b).e:=by unfold subE;rw[qe λh=>h h1,qe B,qe λh=>h F]
structure SCh(c:CS)(b:wD):Prop where
 n:∃n:Nat,n<=18/\CI c n
 b:GB b
 m:c.R.wd=2
section
variable{R:wF}{k:Li}{v:List wR}{be:Li}{S:PS}{fi he:Int}{b:wD}
theorem SCh.facts(h:SCh ⟨R,k,v,be,S,fi,he⟩ b):∃n,n<=18/\KI R k v n/\(∀x∈be,x∈k)/\be.length<=n/\(stL R k v be).e=0/\S=(stL R k v be).s/\(0<=he/\he<=4294967296)/\GB b/\R.wd=2:=by obtain⟨⟨n,F,B⟩,J,M⟩:=h;obtain⟨U,X,Y⟩:=B.bek;exact⟨n,F,B.K,U,X,Y,B.st,B.he,J,M⟩
theorem sub_e1(h1:checkB R.wU b≠0):subS ⟨R,k,v,be,S,fi,he⟩ b=⟨0,0,checkB R.wU b,⟨R,k,v,be,S,fi,he⟩⟩:=k45 (qg h1) h1
theorem sub_e2(h1:checkB R.wU b=0)(B:idB b∈k):subS ⟨R,k,v,be,S,fi,he⟩ b=⟨0,0,5,⟨R,k,v,be,S,fi,he⟩⟩:=k45 (by unfold subE;rw[qe λh=>h h1];exact qg B) qqd
theorem sub_e3(h1:checkB R.wU b=0)(F:idB b∉k)(B:parS k v b≠0):subS ⟨R,k,v,be,S,fi,he⟩ b=⟨0,0,parS k v b,⟨R,k,v,be,S,fi,he⟩⟩:=k45 (by unfold subE;rw[qe λh=>h h1,qe F];exact qg B) B
theorem sub_e4(h1:checkB R.wU b=0)(B:idB b∉k)(F:parS k v b=0)(J:0<he/\((brB k v b).length<he∨ix (brB k v b) (he-1)≠fi)):subS ⟨R,k,v,be,S,fi,he⟩ b=⟨0,0,19,⟨R,k,v,be,S,fi,he⟩⟩:=k45 (by rw[subE_go h1 B F];exact qg J) qqd
theorem sub_e5(h1:checkB R.wU b=0)(F:idB b∉k)(J:parS k v b=0)(M:¬(0<he/\((brB k v b).length<he∨ix (brB k v b) (he-1)≠fi)))(B:txsE R b.Txs≠0):subS ⟨R,k,v,be,S,fi,he⟩ b=⟨0,0,txsE R b.Txs,⟨R,k,v,be,S,fi,he⟩⟩:=k45 (by rw[subE_go h1 F J,qe M];exact qg B) B
theorem subE6(h1:checkB R.wU b=0)(B:idB b∉k)(F:parS k v b=0)(J:¬(0<he/\((brB k v b).length<he∨ix (brB k v b) (he-1)≠fi)))(M:txsE R b.Txs=0):subE ⟨R,k,v,be,S,fi,he⟩ b=(applyS (stL R k v (brB k v b)).s b).e:=by rw[subE_go h1 B F,qe J];exact qe λh=>h M
theorem sub_e6(h1:checkB R.wU b=0)(B:idB b∉k)(F:parS k v b=0)(J:¬(0<he/\((brB k v b).length<he∨ix (brB k v b) (he-1)≠fi)))(M:txsE R b.Txs=0)(U:(applyS (stL R k v (brB k v b)).s b).e≠0):subS ⟨R,k,v,be,S,fi,he⟩ b=⟨0,0,(applyS (stL R k v (brB k v b)).s b).e,⟨R,k,v,be,S,fi,he⟩⟩:=k45 (subE6 h1 B F J M) U
def wk8(k:Li)(v:List wR)(b:wD):Int:=if brB k v b=[]then b.wU else u64.wrap (b.wU+wkS v k b.wP)
theorem sub_no{w:Int}(h1:checkB R.wU b=0)(B:idB b∉k)(F:parS k v b=0)(J:¬(0<he/\((brB k v b).length<he∨ix (brB k v b) (he-1)≠fi)))(M:txsE R b.Txs=0)(U:(applyS (stL R k v (brB k v b)).s b).e=0)(X:w=wk8 k v b)(Y:betS k v be (idB b) w=false):subS ⟨R,k,v,be,S,fi,he⟩ b=⟨0,0,0,⟨R,k++[idB b],v++[stoS b w],be,S,fi,he⟩⟩:=by subst X;unfold subS;rw[subE6 h1 B F J M,qe λh=>h U];exact qg Y
theorem sub_yes{w:Int}{i:Nat}(h1:checkB R.wU b=0)(B:idB b∉k)(F:parS k v b=0)(J:¬(0<he/\((brB k v b).length<he∨ix (brB k v b) (he-1)≠fi)))(M:txsE R b.Txs=0)(U:(applyS (stL R k v (brB k v b)).s b).e=0)(X:w=wk8 k v b)(Y:betS k v be (idB b) w=true)(hi:i=cpl (brB k v b) be):subS ⟨R,k,v,be,S,fi,he⟩ b=⟨be.length-i,(brB k v b).length+1-i,0,⟨R,k++[idB b],v++[stoS b w],brB k v b++[idB b],(applyS (stL R k v (brB k v b)).s b).s,(finS R.wW (brB k v b++[idB b]) fi he).f,(finS R.wW (brB k v b++[idB b]) fi he).h⟩⟩:=by subst X hi;unfold subS;rw[subE6 h1 B F J M,qe λh=>h U];exact qe (by show¬betS k v be (idB b) (wk8 k v b)=false;rw[Y];simp)
end
theorem GB.emp{p h m w:Int}(F:U64 p)(J:-9223372036854775808<=h/\h<=9223372036854775807)(M:U64 m)(U:U64 w):GB ⟨p,h,m,w,0,[]⟩:=⟨⟨F,M,U,(by decide:U64 0),J,λx B=>by cases B⟩,λx B=>(by cases B),qbf _⟩
theorem kvn{r:wF}{l:List wD}{n:Int}(h:fewS r l n=true):r.wd=2/\l.length<=n/\∀b∈l,smS b=true:=by unfold fewS at h;simp at h;exact⟨h.2.1,h.2.2.2,h.1⟩
theorem smS_GB{b:wD}(M:BR b)(h:smS b=true):GB b:=by unfold smS at h;simp at h;refine⟨M,λt B=>?_,h.2⟩;have h1:=h.1 t B;unfold smT at h1;simp at h1;obtain⟨⟨⟨U,X⟩,Y⟩,F⟩:=h1;exact⟨by omega,by omega,λx J=>by have:=F x J;omega,by omega⟩
theorem CS.eta_R{c:CS}{R:wF}(h:c.R=R):c=⟨R,c.k,c.v,c.be,c.S,c.fi,c.he⟩:=by subst h;rfl
theorem CI.eta{c:CS}{b:wD}{n:Nat}(h:CI (subS c b).c n):CI ⟨c.R,(subS c b).c.k,(subS c b).c.v,(subS c b).c.be,(subS c b).c.S,(subS c b).c.fi,(subS c b).c.he⟩ n:=by rw[<-CS.eta_R (subS_R c b)];exact h
def R48:wF:=⟨2,2,0,0,0,10,3,9,1⟩
def X481:SubR:=subS ⟨R48,[],[],[],newS R48,0,0⟩ ⟨0,1,5,1,0,[]⟩
def t481:Int:=if X481.c.be=[]then 0 else ix X481.c.be (X481.c.be.length-1)
def X482:SubR:=subS ⟨R48,X481.c.k,X481.c.v,X481.c.be,X481.c.S,X481.c.fi,X481.c.he⟩ ⟨t481,2,5,1,0,[]⟩
theorem aw48:X482.c.S.p.length=2/\X482.c.S.b=[⟨5,20,0⟩]/\U64 t481/\True:=⟨by kernel_rfl,by kernel_rfl,qc (by kernel_rfl),trivial⟩
theorem newC_CI{R:wF}(F:rulesE R=0)(J:0<=R.wZ):CI ⟨R,[],[],[],newS R,0,0⟩ 0:=⟨⟨rfl,qaf _,λx B=>(by cases B),λx B=>(by cases B),λx B=>(by cases B),λx B=>(by cases B),λx B=>(by cases B),F,J⟩,.inl rfl,rfl,⟨qdl _,by show 0<=_;decide⟩⟩
def subL(c:CS):List wD->CS
 |[]=>c|b::r=>subL (subS c b).c r
theorem kf7:∀a b c,subL c (a++b)=subL (subL c a) b
 |[],_,_=>rfl|x::a,b,c=>kf7 a b (subS c x).c
def pasS(l:List wD)(c:CS):Nat->CS
 |0=>c|n+1=>subL (pasS l c n) l
def leB(v:List wR)(k:Li)(x y:Int):Prop:=wkS v k y<wkS v k x∨wkS v k y=wkS v k x/\x<=y
structure CJ(l:List wD)(c:CS):Prop where
 C:CI c c.k.length
 nd:c.k.Nodup
 id:∀x∈c.k,gB c.k c.v x∈l/\idB (gB c.k c.v x)=x/\checkB c.R.wU (gB c.k c.v x)=0
 p1:∀x∈c.k,(gB c.k c.v x).wG=1->(gB c.k c.v x).wP=0
 wk:∀x∈c.k,wkS c.v c.k x=if(gB c.k c.v x).wG=1 then(gB c.k c.v x).wU else u64.wrap ((gB c.k c.v x).wU+wkS c.v c.k (gB c.k c.v x).wP)be:c.be=[]/\c.k=[]∨∃x∈c.k,c.be=pthI c.k c.v x/\∀y∈c.k,leB c.v c.k x y
 he:c.he=0
theorem k6n:∀{a b:Li},a.Nodup->(∀x∈a,x∈b)->a.length<=b.length
 |[],_,_,_=>qbf _|x::a,b,M,h=>by
  have F:=h x qqs;have h1:=k6n (qcn.1 M).2 (b:=b.erase x) λy J=>by have B:y≠x:=λe=>(qcn.1 M).1 (e▸J);exact(List.mem_erase_of_ne B).2 (h y (by simp[J]))
  rw[List.length_erase_of_mem F]at h1;have:=List.length_pos_of_mem F;rw[qx];omega
theorem CJ.len{l:List wD}{c:CS}(h:CJ l c):c.k.length<=l.length:=by have:=k6n h.nd (b:=l.map idB) λx B=>qap.2 ⟨_,(h.id x B).1,(h.id x B).2.1⟩;simpa using this
theorem wk_old{k:Li}{v:List wR}{id:Int}{y:wR}(B:k.length=v.length){x:Int}(F:x∈k):wkS (v++[y]) (k++[id]) x=wkS v k x:=by unfold wkS;rw[kar F B]
theorem wk_new{k:Li}{v:List wR}{id:Int}{y:wR}(B:k.length=v.length)(F:id∉k):wkS (v++[y]) (k++[id]) id=y.work:=by unfold wkS;rw[kbq F B]
theorem k4e(k:Li)(v:List wR)(x:Int):ix (pthI k v x) ((pthI k v x).length-1)=x:=by
 have e:((pthI k v x).length:Int)-1=(brB k v (gB k v x)).length:=by unfold pthI;rw[qi,qbs];omega
 rw[e,ix_get _ _ (by unfold pthI;simp)];unfold pthI;simp
theorem br_nil{l:List wD}{c:CS}(h:CI c l.length){b:wD}(B:PaOk c.k c.v b)(F:1<=b.wG):brB c.k c.v b=[]↔b.wG=1:=by
 have:=(h.K.br B F).1;constructor;.intro e;rw[e]at this;simp at this;omega
 .intro e;exact qax qqo
structure LG(l:List wD)(R:wF):Prop where
 g:∀b∈l,GB b
 n:l.length<=8
 f:(l.length:Int)<=R.wW
 c:∀a∈l,∀b∈l,VB a->VB b->idB a=idB b->a=b
theorem CJ.step{l:List wD}{c:CS}(h:CJ l c)(hl:LG l c.R){b:wD}(hb:b∈l):CJ l (subS c b).c/\∀x∈c.k,x∈(subS c b).c.k:=by
 have al:=hl.n;have am:=h.len;have hC:=subS_CI h.C qqo (hl.g b hb);unfold subS at hC⊢;split;.exact⟨h,λx B=>B⟩
 .rename_i h1;rw[qe h1]at hC;have hS:=kjy (qad h1);have Y:=hS.nb (hl.g b hb);have kv:=h.C.K.kv;obtain⟨s1,s2,s3⟩:=h.C.K.step (y:=stoS b (wrkS c b)) Y;rw[blk_sto]at s2;have ae:=λ{x:Int}(B:x∈c.k)=>gB_old (id:=idB b) (y:=stoS b (wrkS c b)) kv B;have Z:=gB_new (y:=stoS b (wrkS c b)) kv Y.n;rw[blk_sto]at Z;have ag:(c.k++[idB b]).Nodup:=by rw[qci];refine⟨h.nd,by simp,λx B y J e=>?_⟩;rw[qah.1 J]at e;exact Y.n (e▸B)
  have aa:∀x∈c.k++[idB b],gB (c.k++[idB b]) (c.v++[stoS b (wrkS c b)]) x∈l/\idB (gB (c.k++[idB b]) (c.v++[stoS b (wrkS c b)]) x)=x/\checkB c.R.wU (gB (c.k++[idB b]) (c.v++[stoS b (wrkS c b)]) x)=0:=by
   intro x B;rcases qae.1 B with B|B;.rw[ae B];exact h.id x B
   .rw[qah.1 B,Z];exact⟨hb,rfl,hS.hc⟩
  have ai:∀x∈c.k++[idB b],(gB (c.k++[idB b]) (c.v++[stoS b (wrkS c b)]) x).wG=1->(gB (c.k++[idB b]) (c.v++[stoS b (wrkS c b)]) x).wP=0:=by
   intro x B;rcases qae.1 B with B|B;.rw[ae B];exact h.p1 x B
   .rw[qah.1 B,Z];intro e;rcases Y.p with⟨_,q⟩|⟨q,_⟩;.exact q
    .exact(q e).elim
  have ac:(c.k++[idB b]).length<=l.length:=by have:=k6n ag (b:=l.map idB) λx B=>qap.2 ⟨_,(aa x B).1,(aa x B).2.1⟩;simpa using this
  have M:=λ{x:Int}(B:x∈c.k)=>wk_old (id:=idB b) (y:=stoS b (wrkS c b)) kv B;have ab:=wk_new (y:=stoS b (wrkS c b)) kv Y.n;have aj:∀x∈c.k++[idB b],wkS (c.v++[stoS b (wrkS c b)]) (c.k++[idB b]) x=if(gB (c.k++[idB b]) (c.v++[stoS b (wrkS c b)]) x).wG=1 then(gB (c.k++[idB b]) (c.v++[stoS b (wrkS c b)]) x).wU else u64.wrap ((gB (c.k++[idB b]) (c.v++[stoS b (wrkS c b)]) x).wU+wkS (c.v++[stoS b (wrkS c b)]) (c.k++[idB b]) (gB (c.k++[idB b]) (c.v++[stoS b (wrkS c b)]) x).wP):=by
   intro x B;rcases qae.1 B with B|B
   .rw[ae B,M B,h.wk x B];split;.rfl
    .rename_i F;have:=(h.C.K.h1 x B).1;rw[M (h.C.K.hp x B qqo).1]
   .rw[qah.1 B,Z,ab];show wrkS c b=_;conv=>lhs;unfold wrkS
    have ak:=br_nil (l:=c.k.map λ_=>b) (c:=c) (by simpa using h.C) Y.p Y.h;by_cases F:b.wG=1;.rw[qg (ak.2 F),qg F]
    .rw[qe λe=>F (ak.1 e),qe F];rcases Y.p with⟨q,_⟩|⟨_,q,_⟩;.exact(F q).elim
     .rw[M q]
  have U:∀x∈c.k,x∈c.k++[idB b]:=λx B=>by simp[B]
  have ad:(addS' c b).k.length=c.k.length+1:=by simp[addS']
  split
  .rename_i F;rw[qg F]at hC;refine⟨⟨by show CI (addS' c b) (addS' c b).k.length;rw[ad];exact hC,ag,aa,ai,aj,?_,h.he⟩,U⟩;rcases h.be with⟨e,_⟩|⟨x,B,e,X⟩;.unfold betS at F;rw[qg e]at F;cases F
   .refine .inr ⟨x,U x B,?_,λy J=>?_⟩;.show c.be=_;rw[e];exact(h.C.K.pth_old B).symm
    .show leB (c.v++[stoS b (wrkS c b)]) (c.k++[idB b]) x y;unfold leB;rw[M B];rcases qae.1 J with J|J;.rw[M J];exact X y J
     .rw[qah.1 J,ab];show wrkS c b<_∨wrkS c b=_/\_;unfold betS at F;have ah:c.be≠[]:=by rw[e];unfold pthI;simp
      rw[qe ah,e,k4e]at F;simp only[qde,qfi,decide_eq_false_iff_not,beq_eq_false_iff_ne]at F;omega
  .rename_i F;rw[qe F]at hC;refine⟨⟨by show CI (topS c b) (addS' c b).k.length;rw[ad];exact hC,ag,aa,ai,aj,?_,?_⟩,U⟩
   .refine .inr ⟨idB b,by show idB b∈c.k++[idB b];simp,s2.symm,λy J=>?_⟩;show leB (c.v++[stoS b (wrkS c b)]) (c.k++[idB b]) (idB b) y;have J:=J;unfold leB;rw[ab];show _<wrkS c b∨_=wrkS c b/\_;rcases qae.1 J with J|J
    .rw[M J];rcases h.be with⟨_,e⟩|⟨x,B,e,X⟩;.rw[e]at J;cases J
     .have hm:=X y J;unfold leB at hm;have F:betS c.k c.v c.be (idB b) (wrkS c b)=true:=by simpa using F
      unfold betS at F;have ah:c.be≠[]:=by rw[e];unfold pthI;simp
      rw[qe ah,e,k4e]at F;simp only[qcr,qh,qy,beq_iff_eq]at F;omega
    .rw[qah.1 J,ab];exact .inr ⟨rfl,qdl _⟩
   .show(finS c.R.wW (brB c.k c.v b++[idB b]) c.fi c.he).h=0;have hf:=hl.f;have ao:=(h.C.K.br Y.p Y.h).2.2.2.1;unfold finS;rw[qe (by rw[qi]at ac⊢;simp only[qbs]at ac⊢;omega)];exact h.he
theorem subL_R:∀q c,(subL c q).R=c.R
 |[],_=>rfl|b::q,c=>(subL_R q _).trans (subS_R c b)
theorem CJ.list{l:List wD}:∀q{c:CS},CJ l c->LG l c.R->(∀b∈q,b∈l)->CJ l (subL c q)/\∀x∈c.k,x∈(subL c q).k
 |[],_,h,_,_=>⟨h,λx B=>B⟩|b::q,c,h,F,J=>by obtain⟨h1,M⟩:=h.step F (J b qqs);obtain⟨U,X⟩:=CJ.list q h1 (by rw[subS_R];exact F) λy Y=>J y (by simp[Y]);exact⟨U,λx B=>X x (M x B)⟩
theorem CJ.same{l:List wD}{c d:CS}(h:CJ l c)(g:CJ l d)(X:LG l c.R){x:Int}(Y:x∈c.k)(Z:x∈d.k):gB d.k d.v x=gB c.k c.v x:=by obtain⟨B,a2,F⟩:=h.id x Y;obtain⟨J,M,U⟩:=g.id x Z;exact X.c _ J _ B (k43 U) (k43 F) (M.trans a2.symm)
theorem CJ.way{l:List wD}{c d:CS}(h:CJ l c)(g:CJ l d)(X:LG l c.R):∀(m:Nat)p,p∈c.k->(gB c.k c.v p).wG=m->(∀y∈c.k,(gB c.k c.v y).wG<=m->y∈d.k)->brS d.k d.v m p=brS c.k c.v m p/\∀z∈brS c.k c.v m p,z∈c.k/\z∈d.k
 |0,p,_,_,_=>⟨rfl,λz B=>by cases B⟩|1,p,F,U,M=>⟨rfl,λz B=>by rw[qah.1 B];exact⟨F,M p F qqo⟩⟩|m+2,p,F,U,M=>by
  obtain⟨Y,Z⟩:=h.C.K.hp p F qqo;obtain⟨w1,w2⟩:=h.way g X (m+1) _ Y (by omega) λy hy hh=>M y hy qqo;have e:brS c.k c.v (m+2) p=brS c.k c.v (m+1) (gB c.k c.v p).wP++[p]:=rfl;have e2:brS d.k d.v (m+2) p=brS d.k d.v (m+1) (gB d.k d.v p).wP++[p]:=rfl;have J:=M p F qqo;rw[e,e2,h.same g X F J,w1];refine⟨rfl,λz B=>?_⟩;rcases qae.1 B with B|B;.exact w2 z B
  .rw[qah.1 B];exact⟨F,J⟩
theorem CJ.br{l:List wD}{c d:CS}(h:CJ l c)(g:CJ l d)(Y:LG l c.R){x:Int}(B:x∈c.k)(Z:∀y∈c.k,(gB c.k c.v y).wG<(gB c.k c.v x).wG->y∈d.k):brB d.k d.v (gB c.k c.v x)=brB c.k c.v (gB c.k c.v x)/\∀z∈brB c.k c.v (gB c.k c.v x),z∈c.k/\z∈d.k:=by
 have h1:=(h.C.K.h1 x B).1;unfold brB;by_cases F:(gB c.k c.v x).wG=1;.rw[F];exact⟨rfl,λz J=>by cases J⟩
 .obtain⟨M,U⟩:=h.C.K.hp x B qqo;exact h.way g Y _ _ M (by omega) λy X hh=>Z y X qqo
theorem knn{l:List wD}{c d:CS}(h:CJ l c)(g:CJ l d)(J:LG l c.R){q:Li}(F:∀z∈q,z∈c.k/\z∈d.k)(R:wF):stL R d.k d.v q=stL R c.k c.v q:=by unfold stL;rw[qar λz B=>h.same g J (F z B).1 (F z B).2]
theorem CJ.next{l:List wD}{c d:CS}(h:CJ l c)(g:CJ l d)(Z:LG l c.R)(hR:d.R=c.R){x:Int}(J:x∈c.k)(hd:∀y∈c.k,(gB c.k c.v y).wG<(gB c.k c.v x).wG->y∈d.k):x∈(subS d (gB c.k c.v x)).c.k:=by
 obtain⟨a1,a2,a3⟩:=h.id x J;by_cases U:x∈d.k;.exact(g.step (by rw[hR];exact Z) a1).2 x U
 .obtain⟨b1,b2⟩:=h.br g Z J hd;have hh:=h.C.K.h1 x J;have hv:=(k43 a3).h;have X:parS d.k d.v (gB c.k c.v x)=0:=by
   unfold parS;by_cases F:(gB c.k c.v x).wG=1;.rw[qg F,qe λB=>B (h.p1 x J F)]
   .obtain⟨q1,q2⟩:=h.C.K.hp x J qqo;have Y:=hd _ q1 qqo;have h0:=hv.h1;rw[qe F,qe];rintro(B|B);.rw[k2e.2 Y]at B;cases B
    .apply B;rw[h.same g Z q1 Y,q2,wi _ qqo qqo]
  have hE:subE d (gB c.k c.v x)=0:=by
   rw[subE_go (by rw[hR];exact a3) (by rw[a2];exact U) X,qe (by rw[g.he];omega),hR,qe λB=>B (h.C.K.ac x J),b1,knn h g Z b2];have M:=h.C.K.rep x J;unfold pthI stL at M;rw[qbj]at M;have h1:=k8k _ _ _ M;rw[k5k _ _ _ h1,List.map_singleton,k2q]at M;split at M;.rename_i F;exact F
   .rename_i F;exact(F M).elim
  unfold subS;rw[qe λB=>B hE];split;.show x∈d.k++[idB (gB c.k c.v x)];rw[a2];simp
  .show x∈d.k++[idB (gB c.k c.v x)];rw[a2];simp
theorem pasS_R(l:List wD)(c:CS):∀n,(pasS l c n).R=c.R
 |0=>rfl|n+1=>(subL_R l _).trans (pasS_R l c n)
theorem CJ.pas{l q:List wD}{c:CS}(h:CJ l c)(B:LG l c.R)(F:∀b∈q,b∈l):∀n,CJ l (pasS q c n)
 |0=>h|n+1=>(CJ.list q (h.pas B F n) (by rw[pasS_R];exact B) F).1
theorem CJ.reach{l q:List wD}{c d:CS}(h:CJ l c)(g:CJ l d)(J:LG l c.R)(Z:d.R=c.R)(Y:∀b,b∈q↔b∈l):∀n:Nat,∀y∈c.k,(gB c.k c.v y).wG<=n->y∈(pasS q d n).k
 |0,y,X,hh=>by have:=(h.C.K.h1 y X).1;omega|n+1,y,X,hh=>by have gn:=g.pas (q:=q) (by rw[Z];exact J) (λb B=>(Y b).1 B) n;have M:=(pasS_R q d n).trans Z;obtain⟨s,t,e⟩:=List.append_of_mem ((Y _).2 (h.id y X).1);show y∈(subL (pasS q d n) q).k;have U:=λb B=>(Y b).1 (by rw[e];exact B);rw[(congrArg (subL (pasS q d n)) e).trans (kf7 s (gB c.k c.v y::t) _)];obtain⟨g1,g2⟩:=CJ.list s gn (by rw[M];exact J) λb B=>U b (by simp[B]);have F:=(subL_R s _).trans M;have h1:=h.next g1 J F X λz hz aa=>g2 z (h.reach g J Z Y n z hz qqo);obtain⟨g3,_⟩:=g1.step (by rw[F];exact J) (h.id y X).1;exact(CJ.list t g3 (by rw[subS_R,F];exact J) λb B=>U b (by simp[B])).2 y h1
theorem CJ.wkq{l:List wD}{c d:CS}(h:CJ l c)(g:CJ l d)(J:LG l c.R)(hs:∀x∈c.k,x∈d.k):∀(m:Nat)x,x∈c.k->(gB c.k c.v x).wG=m->wkS d.v d.k x=wkS c.v c.k x
 |0,x,B,F=>by have:=(h.C.K.h1 x B).1;omega|m+1,x,B,F=>by
  rw[h.wk x B,g.wk x (hs x B),h.same g J B (hs x B)];split;.rfl
  .obtain⟨M,U⟩:=h.C.K.hp x B qqo;rw[h.wkq g J hs m _ M (by omega)]
theorem CJ.state{l:List wD}{c d:CS}(h:CJ l c)(g:CJ l d)(U:LG l c.R)(hR:d.R=c.R)(hs:∀x∈c.k,x∈d.k)(ht:∀x∈d.k,x∈c.k):d.S=c.S:=by
 rw[h.C.st,g.C.st,hR];rcases h.be with⟨X,e2⟩|⟨x,F,X,Y⟩
 .rcases g.be with⟨Z,_⟩|⟨y,J,_,_⟩;.rw[X,Z];rfl
  .have:=ht y J;rw[e2]at this;cases this
 .rcases g.be with⟨_,f2⟩|⟨y,J,Z,aa⟩;.have:=hs x F;rw[f2]at this;cases this
  .have M:=ht y J;have w:∀{z:Int},z∈c.k->wkS d.v d.k z=wkS c.v c.k z:=λ{z}B=>by obtain⟨m,hm⟩:=qm (show 0<=(gB c.k c.v z).wG by have:=(h.C.K.h1 z B).1;omega);exact h.wkq g U hs m z B hm
   have a1:=Y y M;have a2:=aa x (hs x F);unfold leB at a1 a2;rw[w F,w M]at a2;obtain rfl:x=y:=by omega
   obtain⟨b1,b2⟩:=h.br g U F λz B _=>hs z B;rw[X,Z];unfold pthI;rw[h.same g U F J,b1,knn h g U];intro z B;rcases qae.1 B with B|B;.exact b2 z B
   .rw[qah.1 B];exact⟨F,J⟩
theorem newC_CJ{l:List wD}{R:wF}(F:rulesE R=0)(J:0<=R.wZ):CJ l ⟨R,[],[],[],newS R,0,0⟩:=⟨newC_CI F J,qex,λx B=>(by cases B),λx B=>(by cases B),λx B=>(by cases B),.inl ⟨rfl,rfl⟩,rfl⟩
theorem meet{l q:List wD}{R:wF}(hr:rulesE R=0)(hw:0<=R.wZ)(M:LG l R)(Z:∀b,b∈q↔b∈l):(pasS q ⟨R,[],[],[],newS R,0,0⟩ l.length).S=(pasS l ⟨R,[],[],[],newS R,0,0⟩ l.length).S:=by
 have U:=newC_CJ (l:=l) hr hw;have h1:=U.pas M (λb Y=>Y) l.length;have X:=U.pas M (λb Y=>(Z b).1 Y) l.length;have B:=pasS_R l ⟨R,[],[],[],newS R,0,0⟩ l.length;have F:=pasS_R q ⟨R,[],[],[],newS R,0,0⟩ l.length;refine h1.state X (by rw[B];exact M) (by rw[B,F]) (λx J=>?_) λx J=>?_;.have:=(h1.C.K.h1 x J).2;have:=h1.len;exact h1.reach U (by rw[B];exact M) B.symm Z _ x J qqo
 .have:=(X.C.K.h1 x J).2;have:=X.len;exact X.reach U (by rw[F];exact M) F.symm (λb=>Iff.rfl) _ x J qqo
def clsP(a b:wD):Bool:=idB a==idB b&&(!sameB a b&&(validB a==0&&validB b==0))
def clsJ(l:List wD)(i k:Nat):Prop:=∃j,j<k/\clsP (ix l i) (ix l j)=true
open Classical in
def clashB(l:List wD):Bool:=decide (∃i,i<l.length/\clsJ l i i)
open Classical in
theorem kwe{l:List wD}(h:∃i,i<l.length/\clsJ l i i):clashB l=true:=qao h
open Classical in
theorem kue{l:List wD}(h:¬∃i,i<l.length/\clsJ l i i):clashB l=false:=qat h
open Classical in
theorem ku0{l:List wD}(h:clashB l=false):¬∃i,i<l.length/\clsJ l i i:=qd h
def rM(m:ww):wF:=⟨m.wAs,m.wAn,m.wAI,m.wAE,m.wAA,m.wAT,m.wAe,m.wz,m.wAo⟩
def bkM(x:we):wD:=⟨x.wBQ,x.wBE,x.wBT,x.wBZ,x.wBS,x.wBa⟩
def fndM(L:List we)(id:Int):Int:=if L.findIdx λx=>x.ID==id<L.length then L.findIdx (λx=>x.ID==id)else-1
def WO(L:List we):Prop:=∀j,j<L.length->-1<=(ix L j).wP/\(ix L j).wP<j
def wayM(L:List we):Nat->Int->Li
 |0,_=>[]|n+1,i=>if i<0 then[]else wayM L n (ix L i).wP++[i]
def wyM(L:List we)(i:Int):Li:=wayM L (i+1).toNat i
theorem wyM_neg{L:List we}{i:Int}(h:i<0):wyM L i=[]:=by unfold wyM;rw[show(i+1).toNat=0 by omega];rfl
theorem kdh{L:List we}(B:WO L):∀n m(i:Int),i<L.length->(i+1).toNat<=n->(i+1).toNat<=m->wayM L n i=wayM L m i
 |0,0,i,_,_,_=>rfl|0,m+1,i,_,h1,_=>by rw[wayM,wayM,qg qqo]|n+1,0,i,_,_,J=>by rw[wayM,wayM,qg qqo]|n+1,m+1,i,hi,h1,J=>by
  rw[wayM,wayM];split;.rfl
  .have F:=B i.toNat qqo;rw[show i.toNat=i by omega]at F;rw[kdh B n m _ qqo qqo qqo]
theorem wyM_pos{L:List we}(B:WO L){i:Int}(J:0<=i)(hi:i<L.length):wyM L i=wyM L (ix L i).wP++[i]:=by have F:=B i.toNat qqo;rw[show i.toNat=i by omega]at F;unfold wyM;rw[show(i+1).toNat=i.toNat+1 by omega,wayM,qe qqo,kdh B i.toNat ((ix L i).wP+1).toNat _ qqo qqo (qaf _)]
theorem wyM_len{L:List we}(F:WO L):∀n(i:Int),i<L.length->(i+1).toNat<=n->(wyM L i).length<=n/\∀x∈wyM L i,0<=x/\x<L.length
 |0,i,hi,h=>by rw[wyM_neg qqo];exact⟨qaf _,λx B=>by cases B⟩|n+1,i,hi,h=>by
  by_cases J:i<0;.rw[wyM_neg J];exact⟨qbf _,λx B=>by cases B⟩
  .have M:=F i.toNat qqo;rw[show i.toNat=i by omega]at M;rw[wyM_pos F qqo hi];obtain⟨X,U⟩:=wyM_len F n (ix L i).wP qqo qqo;refine⟨by rw[qi,qbs];omega,λx B=>?_⟩;rcases qae.1 B with B|B;.exact U x B
   .rw[qah.1 B];omega
def bksM(L:List we)(w:Li):List wD:=w.map λi=>bkM (ix L i)
def beyS(l o:Li):Int:=(l.filter λx=>!decide (x∈o)).length
def parM(L:List we)(b:wD):Int:=if 1<b.wG then fndM L b.wP else-1
def parX(L:List we)(b:wD):Bool:=b.wG==1&&b.wP !=0||decide (1<b.wG)&&(decide (parM L b<0)||(ix L (parM L b)).wBE !=i64.wrap (b.wG-1))
def totM(L:List we)(b:wD):Int:=if 0<=parM L b then u64.wrap (b.wU+(ix L (parM L b)).wBP)else b.wU
def newM(L:List we)(b:wD):List we:=L++[we.mk b.wP b.wG b.wAM b.wU b.wK b.Txs (idB b) (parM L b) (totM L b)]
def staM(m:ww)(i:Int):PE:=auGo (bksM m.L (wyM m.L i)) (newS (rM m))
def lesM(m:ww)(b:wD):Bool:=decide (0<=m.Tip)&&(decide (totM m.L b<(ix m.L m.Tip).wBP)||(ix m.L m.Tip).wBP==totM m.L b&&decide ((ix m.L m.Tip).ID<idB b))
structure RSub where
 c:ww
 u:Int
 a:Int
 e:Int
def rsubmitM(m:ww)(b:wD):RSub:=if checkB m.wAo b≠0 then⟨m,0,0,checkB m.wAo b⟩else if 0<=fndM m.L (idB b)then⟨m,0,0,5⟩else if parX m.L b=true then⟨m,0,0,18⟩else if txsE (rM m) b.Txs≠0 then⟨m,0,0,txsE (rM m) b.Txs⟩else if(applyS (staM m (parM m.L b)).s b).e≠0 then⟨m,0,0,(applyS (staM m (parM m.L b)).s b).e⟩else if lesM m b=true then⟨{m with L:=newM m.L b},0,0,0⟩else⟨{m with L:=newM m.L b,Tip:=m.L.length},beyS (wyM m.L m.Tip) (wyM (newM m.L b) m.L.length),beyS (wyM (newM m.L b) m.L.length) (wyM m.L m.Tip),0⟩
structure MOk(m:ww):Prop where
 o:m.wAu=false
 md:m.wAs=2
 r:rulesE (rM m)=0
 w:0<=m.wAT
 L:WO m.L
 t:-1<=m.Tip/\m.Tip<m.L.length
 f:m.wAv=-1
 n:m.L.length<=8
 b:∀i:Int,i<m.L.length->(∀b∈bksM m.L (wyM m.L i),BR' b/\b.Txs.length<=4)/\(staM m i).e=0
theorem fndM_lt(L:List we)(id:Int):-1<=fndM L id/\fndM L id<L.length:=by unfold fndM;split<;>omega
theorem parM_lt(L:List we)(b:wD):-1<=parM L b/\parM L b<L.length:=by
 unfold parM;split;.exact fndM_lt _ _
 .omega
theorem ix_old{α:Type}[Inhabited α](l m:List α){i:Int}(B:0<=i)(h:i<l.length):ix (l++m) i=ix l i:=by unfold ix;rw[qay qqo]
theorem ix_last{α:Type}[Inhabited α](l:List α)(x:α):ix (l++[x]) l.length=x:=by unfold ix;simp
theorem kn4(L:List we)(b:wD):(newM L b).length=L.length+1:=by unfold newM;rw[qi,qbs]
theorem WO_new{L:List we}(h:WO L)(b:wD):WO (newM L b):=by
 intro j B;rw[kn4]at B;by_cases e:j<L.length;.have:=h j e;unfold newM;rw[ix_old _ _ qqo qqo];exact this
 .obtain rfl:j=L.length:=by omega
  obtain⟨h1,F⟩:=parM_lt L b;unfold newM;rw[ix_last];exact⟨h1,F⟩
theorem fnd_idx{L:List we}{id:Int}{j:Nat}(B:j<L.length)(h:L[j].ID=id)(J:∀i(hi:i<j),L[i].ID≠id):fndM L id=j:=by have F:L.findIdx λx=>x.ID==id=j:=(List.findIdx_eq B).2 ⟨by simpa using h,λi hi=>by simpa using J i hi⟩;unfold fndM;rw[F,qg B]
theorem fnd_mem{L:List we}{id:Int}(h:id∈L.map (·.ID)):0<=fndM L id/\fndM L id<L.length/\(ix L (fndM L id)).ID=id:=by obtain⟨x,F,rfl⟩:=qap.1 h;have B:L.findIdx λy=>y.ID==x.ID<L.length:=List.findIdx_lt_length.2 ⟨x,F,by simp⟩;have:=List.findIdx_getElem (w:=B);unfold fndM;rw[qg B,ix_get _ _ B];exact⟨by omega,by omega,by simpa using this⟩
theorem fnd_no{L:List we}{id:Int}(h:id∉L.map (·.ID)):fndM L id=-1:=by
 have B:L.findIdx λx=>x.ID==id=L.length:=List.findIdx_eq_length.2 λx F=>by have:x.ID≠id:=λe=>h (e▸List.mem_map_of_mem F);simpa using this
 unfold fndM;rw[B,qe (Nat.lt_irrefl _)]
theorem fnd_iff{L:List we}{id:Int}:0<=fndM L id↔id∈L.map (·.ID):=⟨λh=>qad λB=>by rw[fnd_no B]at h;omega,λh=>(fnd_mem h).1⟩
theorem fnd_old{L:List we}{id:Int}(x:we)(h:id∈L.map (·.ID)):fndM (L++[x]) id=fndM L id:=by
 obtain⟨y,F,e⟩:=qap.1 h;have B:L.findIdx λy=>y.ID==id<L.length:=List.findIdx_lt_length.2 ⟨y,F,by simpa using e⟩;have J:(L++[x]).findIdx λy=>y.ID==id=L.findIdx λy=>y.ID==id:=by rw[List.findIdx_append,qg B]
 unfold fndM;rw[J,qg B,qg (by rw[qi];omega)]
theorem fnd_new{L:List we}{x:we}(h:x.ID∉L.map (·.ID)):fndM (L++[x]) x.ID=L.length:=by refine fnd_idx (j:=L.length) qqs qqs λi hi e=>?_;rw[List.getElem_append_left hi]at e;exact h (e▸List.mem_map_of_mem (qz hi))
structure RC(m:ww)(c:CS):Prop where
 k:m.L.map (·.ID)=c.k
 g:∀id∈c.k,bkM (ix m.L (fndM m.L id))=gB c.k c.v id/\(ix m.L (fndM m.L id)).wBP=wkS c.v c.k id/\(ix m.L (fndM m.L id)).wP=if(gB c.k c.v id).wG=1 then-1 else fndM m.L (gB c.k c.v id).wP
 t:m.Tip=if c.be=[]then-1 else fndM m.L (ix c.be ((c.be.length:Int)-1))R:rM m=c.R
 o:m.wAu=false
 f:m.wAv=-1
 w:WO m.L
theorem RC.fm{m:ww}{c:CS}(h:RC m c){p:Int}(B:p∈c.k):0<=fndM m.L p/\fndM m.L p<m.L.length:=by have:=fnd_mem (L:=m.L) (id:=p) (by rw[h.k];exact B);exact⟨this.1,this.2.1⟩
theorem bks_app(L:List we)(a b:Li):bksM L (a++b)=bksM L a++bksM L b:=qbj ..
theorem RC.way{m:ww}{c:CS}{n:Nat}(h:RC m c)(K:KI c.R c.k c.v n):∀(d:Nat)p,p∈c.k->(gB c.k c.v p).wG=d->bksM m.L (wyM m.L (fndM m.L p))=(pthI c.k c.v p).map (gB c.k c.v)
 |0,p,B,F=>by have:=(K.h1 p B).1;omega|1,p,B,F=>by
  obtain⟨M,U⟩:=h.fm B;obtain⟨X,_,J⟩:=h.g p B;have e:brB c.k c.v (gB c.k c.v p)=[]:=by unfold brB;rw[F];rfl
  rw[wyM_pos h.w M U,J,wyM_neg qqo];unfold pthI;rw[e];show[bkM (ix m.L (fndM m.L p))]=[gB c.k c.v p];rw[X]|d+2,p,B,F=>by
  obtain⟨M,U⟩:=h.fm B;obtain⟨X,_,J⟩:=h.g p B;obtain⟨Z,p2⟩:=K.hp p B qqo;rw[qe qqo]at J;have ih:=h.way K (d+1) (gB c.k c.v p).wP Z (by omega);have e:brB c.k c.v (gB c.k c.v p)=pthI c.k c.v (gB c.k c.v p).wP:=by unfold brB;rw[F,show(((d+2:Nat):Int)-1).toNat=d+1 by omega];exact(K.way (d+1) _ Z (by omega)).1
  have e2:pthI c.k c.v p=brB c.k c.v (gB c.k c.v p)++[p]:=rfl;rw[wyM_pos h.w M U,J,bks_app,ih,e2,e,qbj];show _++[bkM (ix m.L (fndM m.L p))]=_++[gB c.k c.v p];rw[X]
theorem RC.par{m:ww}{c:CS}{n:Nat}(h:RC m c)(K:KI c.R c.k c.v n){b:wD}(J:PaOk c.k c.v b)(U:1<=b.wG):bksM m.L (wyM m.L (parM m.L b))=(brB c.k c.v b).map (gB c.k c.v):=by
 rcases J with⟨h1,B⟩|⟨h1,B,F⟩
 .have e:brB c.k c.v b=[]:=by unfold brB;rw[h1];rfl
  unfold parM;rw[qe qqo,wyM_neg qqo,e];rfl
 .have e:brB c.k c.v b=pthI c.k c.v b.wP:=by exact(K.way (b.wG-1).toNat _ B (by omega)).1
  unfold parM;rw[qg qqo,e];exact h.way K (b.wG-1).toNat _ B (by omega)
theorem RC.sta{m:ww}{c:CS}{n:Nat}(h:RC m c)(K:KI c.R c.k c.v n){b:wD}(B:PaOk c.k c.v b)(F:1<=b.wG):staM m (parM m.L b)=stL c.R c.k c.v (brB c.k c.v b):=by unfold staM stL;rw[h.par K B F,h.R]
theorem RC.tip{m:ww}{c:CS}{l:List wD}(h:RC m c)(J:CJ l c):staM m m.Tip=stL c.R c.k c.v c.be:=by
 unfold staM stL;rw[h.R,h.t];rcases J.be with⟨B,_⟩|⟨x,M,B,_⟩;.rw[qg B,B,wyM_neg qqo];rfl
 .have F:c.be≠[]:=by rw[B];unfold pthI;simp
  rw[qe F,B,k4e];obtain⟨d,U⟩:=qm (show 0<=(gB c.k c.v x).wG by have:=(J.C.K.h1 x M).1;omega);rw[h.way J.C.K d x M U]
theorem RC.parX{m:ww}{c:CS}{n:Nat}(h:RC m c)(K:KI c.R c.k c.v n){b:wD}(hh:1<=b.wG):parX m.L b=true↔parS c.k c.v b≠0:=by
 unfold Go.Proofs.YtfiecdeonopcmaaGreatDoor.parX parS parM;by_cases h1:b.wG=1;.rw[qg h1,h1];by_cases U:b.wP=0<;>simp
 .have F:1<b.wG:=by omega
  rw[qe h1,qg F];by_cases B:b.wP∈c.k
  .obtain⟨X,q2⟩:=h.fm B;have Y:(ix m.L (fndM m.L b.wP)).wBE=(gB c.k c.v b.wP).wG:=congrArg wD.wG (h.g _ B).1;have J:=k2e.2 B;rw[Y,J];by_cases M:(gB c.k c.v b.wP).wG=i64.wrap (b.wG-1);.simp[h1,M,X]
   .simp[F,M]
  .have J:mHas (BEq.beq b.wP) c.k=false:=by cases Z:mHas (BEq.beq b.wP) c.k with
    |false=>rfl|true=>exact(B (k2e.1 Z)).elim
   rw[fnd_no (by rw[h.k];exact B),J];simp[F]
theorem RC.less{m:ww}{c:CS}{l:List wD}(h:RC m c)(Y:CJ l c){b:wD}(hi:idB b∉c.k)(Z:totM m.L b=wrkS c b):lesM m b=true↔betS c.k c.v c.be (idB b) (wrkS c b)=false:=by
 unfold lesM betS;rw[h.t,Z];rcases Y.be with⟨F,_⟩|⟨x,M,F,_⟩;.rw[qg F,qg F];simp
 .have J:c.be≠[]:=by rw[F];unfold pthI;simp
  have B:ix c.be (c.be.length-1)=x:=by rw[F];exact k4e _ _ _
  rw[qe J,qe J,B];have U:=fnd_mem (L:=m.L) (id:=x) (by rw[h.k];exact M);rw[(h.g x M).2.1,U.2.2];have X:x≠idB b:=λe=>hi (e▸M);simp;omega
theorem RC.tot{m:ww}{c:CS}{l:List wD}(h:RC m c)(U:CJ l c)(X:c.k.length<=l.length){b:wD}(M:PaOk c.k c.v b)(Y:1<=b.wG):totM m.L b=wrkS c b:=by
 unfold totM wrkS;have J:=br_nil (l:=l) (U.C.mono X) M Y;rcases M with⟨h1,F⟩|⟨h1,F,Z⟩;.have B:parM m.L b=-1:=qe (show¬1<b.wG by omega);rw[qg (J.2 h1),B,qe (show¬0<=-1 by omega)]
 .have B:parM m.L b=fndM m.L b.wP:=qg (show 1<b.wG by omega);rw[qe λe=>h1 (J.1 e),B,qg (h.fm F).1,(h.g _ F).2.1]
theorem RC.add{m:ww}{c:CS}{l:List wD}(h:RC m c)(M:CJ l c)(hn:c.k.length<=l.length){b:wD}(hi:idB b∉c.k)(Y:PaOk c.k c.v b)(hh:1<=b.wG):(newM m.L b).map (·.ID)=c.k++[idB b]/\(∀id∈c.k,fndM (newM m.L b) id=fndM m.L id)/\fndM (newM m.L b) (idB b)=m.L.length/\∀id∈c.k++[idB b],bkM (ix (newM m.L b) (fndM (newM m.L b) id))=gB (c.k++[idB b]) (c.v++[stoS b (wrkS c b)]) id/\(ix (newM m.L b) (fndM (newM m.L b) id)).wBP=wkS (c.v++[stoS b (wrkS c b)]) (c.k++[idB b]) id/\(ix (newM m.L b) (fndM (newM m.L b) id)).wP=if(gB (c.k++[idB b]) (c.v++[stoS b (wrkS c b)]) id).wG=1 then-1 else fndM (newM m.L b) (gB (c.k++[idB b]) (c.v++[stoS b (wrkS c b)]) id).wP:=by
 have F:=M.C.K.kv;have J:∀id∈c.k,fndM (newM m.L b) id=fndM m.L id:=λid B=>fnd_old _ (by rw[h.k];exact B);have U:fndM (newM m.L b) (idB b)=(m.L.length:Int):=fnd_new (L:=m.L) (x:=we.mk b.wP b.wG b.wAM b.wU b.wK b.Txs (idB b) (parM m.L b) (totM m.L b)) (by rw[h.k];exact hi);refine⟨by unfold newM;rw[qbj,h.k];rfl,J,U,λid B=>?_⟩;rcases qae.1 B with B|B
 .obtain⟨Z,q2⟩:=h.fm B;obtain⟨g1,g2,g3⟩:=h.g id B;rw[J id B,gB_old F B,wk_old F B];have e:ix (newM m.L b) (fndM m.L id)=ix m.L (fndM m.L id):=ix_old _ _ Z q2;rw[e];refine⟨g1,g2,?_⟩;rw[g3];by_cases h1:(gB c.k c.v id).wG=1;.rw[qg h1,qg h1]
  .have:=(M.C.K.h1 id B).1;rw[qe h1,qe h1,J _ (M.C.K.hp id B qqo).1]
 .rw[qah.1 B,U,gB_new F hi,wk_new F hi];have e:ix (newM m.L b) (m.L.length:Int)=we.mk b.wP b.wG b.wAM b.wU b.wK b.Txs (idB b) (parM m.L b) (totM m.L b):=ix_last _ _;rw[e];refine⟨rfl,h.tot M hn Y hh,?_⟩;show parM m.L b=if b.wG=1 then-1 else fndM (newM m.L b) b.wP;unfold parM;rcases Y with⟨h1,X⟩|⟨h1,X,h3⟩;.rw[qe qqo,qg h1]
  .rw[qg qqo,qe h1,J _ X]
theorem RC.sub{m:ww}{c:CS}{l:List wD}(h:RC m c)(F:CJ l c)(hl:LG l c.R){b:wD}(hb:b∈l):RC (rsubmitM m b).c (subS c b).c:=by
 have hn:=F.len;have hG:=hl.g b hb;have hR:m.wAo=c.R.wU:=congrArg wF.wU h.R;have no:∀{e:Int},e≠0->subE c b=e->RC m (subS c b).c:=λhe hs=>by unfold subS;rw[qg (by rw[hs];exact he)];exact h
 unfold rsubmitM;rw[show checkB m.wAo b=checkB c.R.wU b by rw[hR]];by_cases h1:checkB c.R.wU b≠0;.rw[qg h1];exact no h1 (by unfold subE;rw[qg h1])
 rw[qe h1];have hv:=k43 (Classical.not_not.1 h1);have X:=hv.h.h0;by_cases B:idB b∈c.k;.rw[qg (fnd_iff.2 (by rw[h.k];exact B))];exact no (e:=5) qqd (by unfold subE;rw[qe h1,qg B])
 rw[qe λe=>B (by rw[<-h.k];exact fnd_iff.1 e)];by_cases J:parS c.k c.v b≠0;.rw[qg ((h.parX F.C.K X).2 J)];exact no J (by unfold subE;rw[qe h1,qe B,qg J])
 rw[qe λe=>J ((h.parX F.C.K X).1 e),h.R];have hp:=parS_ok (Classical.not_not.1 J) hv;have h4:¬(0<c.he/\(((brB c.k c.v b).length:Int)<c.he∨ix (brB c.k c.v b) (c.he-1)≠c.fi)):=λhx=>by have:=F.he;omega
 by_cases U:txsE c.R b.Txs≠0;.rw[qg U];exact no U (by unfold subE;rw[qe h1,qe B,qe J,qe h4,qg U])
 rw[qe U,h.sta F.C.K hp X];by_cases h6:(applyS (stL c.R c.k c.v (brB c.k c.v b)).s b).e≠0;.rw[qg h6];exact no h6 (by unfold subE;rw[qe h1,qe B,qe J,qe h4,qe U])
 rw[qe h6];have hE:subE c b=0:=by unfold subE;rw[qe h1,qe B,qe J,qe h4,qe U];exact Classical.not_not.1 h6
 obtain⟨a1,a2,a3,a4⟩:=h.add F hn B hp X;have Y:=h.less F B (h.tot F hn hp X);unfold subS;rw[qe (show¬subE c b≠0 fromλe=>e hE)];by_cases h7:betS c.k c.v c.be (idB b) (wrkS c b)=false
 .rw[qg (Y.2 h7),qg h7];refine⟨a1,a4,?_,h.R,h.o,h.f,WO_new h.w b⟩;show m.Tip=if c.be=[]then-1 else fndM (newM m.L b) (ix c.be (c.be.length-1));rw[h.t];rcases F.be with⟨Z,_⟩|⟨x,hx,Z,_⟩;.rw[qg Z,qg Z]
  .have aa:c.be≠[]:=by rw[Z];unfold pthI;simp
   have M:ix c.be (c.be.length-1)=x:=by rw[Z];exact k4e _ _ _
   rw[qe aa,qe aa,M,a2 x hx]
 .rw[qe λe=>h7 (Y.1 e),qe h7];refine⟨a1,a4,?_,h.R,h.o,h.f,WO_new h.w b⟩;show m.L.length=if brB c.k c.v b++[idB b]=[]then-1 else fndM (newM m.L b) (ix (brB c.k c.v b++[idB b]) ((brB c.k c.v b++[idB b]).length-1));rw[qe qqs];have e:(brB c.k c.v b++[idB b]).length-1=((brB c.k c.v b).length:Int):=by rw[qi,qbs];omega
  rw[e,ix_last,a3]
theorem RC.ok{m:ww}{c:CS}{l:List wD}(h:RC m c)(B:CJ l c)(hl:LG l c.R)(hm:c.R.wd=2):MOk m:=by
 have aa:m.L.length=c.k.length:=by rw[<-h.k,qp]
 have hn:=B.len;have ab:=hl.n;have hM:m.wAs=c.R.wd:=congrArg wF.wd h.R;have hW:m.wAT=c.R.wZ:=congrArg wF.wZ h.R;refine⟨h.o,by rw[hM];exact hm,by rw[h.R];exact B.C.K.ru,by rw[hW];exact B.C.K.w,h.w,?_,h.f,by omega,λi hi=>?_⟩
 .rw[h.t];by_cases J:c.be=[];.rw[qg J];omega
  .rcases B.be with⟨M,_⟩|⟨x,U,M,_⟩;.exact(J M).elim
   .rw[M,k4e];have:=h.fm U;omega
 .by_cases Z:i<0;.rw[wyM_neg Z];refine⟨λb J=>(by cases J),?_⟩;unfold staM;rw[wyM_neg Z];rfl
  .have F:(ix m.L i).ID∈c.k:=by rw[<-h.k,show i=(i.toNat)by omega,ix_get _ _ qqo];exact List.mem_map_of_mem (qz _)
   have hf:fndM m.L (ix m.L i).ID=i:=by
    have X:(m.L.map (·.ID)).Nodup:=by rw[h.k];exact B.nd
    have e:i=i.toNat:=by omega
    rw[e,ix_get _ _ qqo];refine fnd_idx qqo rfl λj hj he=>?_;have:=(List.getElem_inj (i:=j) (j:=i.toNat) (h₀:=by simp;omega) (h₁:=by simp;omega) X).1 (by simpa using he);omega
   obtain⟨d,hd⟩:=qm (show 0<=(gB c.k c.v (ix m.L i).ID).wG by have:=(B.C.K.h1 _ F).1;omega);have Y:=h.way B.C.K d _ F hd;rw[hf]at Y;have hp:=(B.C.K.way d _ F hd).2.2;rw[Y];refine⟨λb J=>?_,?_⟩;.obtain⟨x,U,rfl⟩:=qap.1 J;exact B.C.K.r x (hp x U)
   .unfold staM;rw[Y,h.R];exact B.C.K.rep _ F
def rsL(m:ww):List wD->ww
 |[]=>m|b::r=>rsL (rsubmitM m b).c r
theorem kny:∀q m b,rsL m (q++[b])=(rsubmitM (rsL m q) b).c
 |[],_,_=>rfl|x::q,m,b=>kny q (rsubmitM m x).c b
theorem kjp(q:List wD)(c:CS)(b:wD):subL c (q++[b])=(subS (subL c q) b).c:=by rw[kf7];rfl
theorem RC.list{l:List wD}:∀q{m:ww}{c:CS},RC m c->CJ l c->LG l c.R->(∀b∈q,b∈l)->RC (rsL m q) (subL c q)
 |[],_,_,h,_,_,_=>h|b::q,m,c,h,J,B,M=>by have F:=M b qqs;exact(h.sub J B F).list q (J.step B F).1 (by rw[subS_R];exact B) λx U=>M x (by simp[U])
theorem RC.new{R:wF}{m:ww}(M:rM m=R)(U:m.wAu=false)(J:m.L=[])(X:m.Tip=-1)(Y:m.wAv=-1):RC m ⟨R,[],[],[],newS R,0,0⟩:=⟨by rw[J];rfl,λid B=>(by cases B),by rw[X];rfl,M,U,Y,by intro j F;rw[J]at F;cases F⟩
theorem kw6{α:Type}[Inhabited α]{l:List α}{i j:Nat}(hi:i<l.length)(B:j<l.length)(b:α):b∈(l.set i (ix l j)).set j (ix l i)↔b∈l:=by rw[ix_get _ _ hi,ix_get _ _ B];exact(List.set_set_perm hi B).mem_iff
theorem smS_td{b:wD}(J:BR b)(h:smS b=true):∀x∈b.Txs,TD x:=by unfold smS at h;simp at h;intro x F;have B:=h.1 x F;unfold smT at B;simp at B;obtain⟨⟨⟨h1,X⟩,Y⟩,M⟩:=B;exact⟨J.t x F,(smS_GB J (by unfold smS;simp;exact h)).l x F,by omega,λo U=>by have:=M o U;omega⟩
def rsP(m:ww)(q:List wD):Nat->ww
 |0=>m|n+1=>rsL (rsP m q n) q
theorem RC.pas{l q:List wD}{m:ww}{c:CS}(h:RC m c)(J:CJ l c)(B:LG l c.R)(F:∀b∈q,b∈l):∀n,RC (rsP m q n) (pasS q c n)
 |0=>h|n+1=>(h.pas J B F n).list q (J.pas B F n) (by rw[pasS_R];exact B) F
theorem sub_eta(c:CS)(b:wD):(subS c b).c=CS.mk c.R (subS c b).c.k (subS c b).c.v (subS c b).c.be (subS c b).c.S (subS c b).c.fi (subS c b).c.he:=by have:=subS_R c b;cases hs:(subS c b).c with|mk R k v be S fi he=>rw[hs]at this;rw[<-this]
theorem kw1{a b:wh}(B:TR a)(F:validE a=0)(J:TR b)(M:validE b=0)(h:sameT a b=true):a=b:=by
 unfold sameT at h;simp at h;have he:encTx a=encTx b:=by unfold encTx;rw[h.2]
 exact(kth (r:=[]) (s:=[]) B F J M (by rw[he])).1
theorem kup{a b:wD}(U:BR a)(X:VB a)(Y:BR b)(Z:VB b)(h:sameB a b=true):a=b:=by
 obtain⟨h1,h2,h3,h4,h5,J,M⟩:=qc h;have ht:=List.ext_getElem J λi B F=>by have:=M i B;rw[ix_get _ _ B,ix_get _ _ F]at this;exact kw1 (U.t _ (qz B)) (X.t _ (qz B)) (Y.t _ (qz F)) (Z.t _ (qz F)) this
 cases a;simp_all
theorem kws{l:List wD}{R:wF}(X:∀b∈l,GB b)(hn:l.length<=8)(hf:l.length<=R.wW)(hc:clashB l=false):LG l R:=by
 have M:=ku0 hc;have key:∀i j(hi:i<l.length)(J:j<i),VB l[i]->VB (l[j]' qqo)->idB l[i]=idB (l[j]' qqo)->l[i]=l[j]' qqo:=by
  intro i j hi J B F he;refine qad λU=>M ⟨i,hi,j,J,?_⟩;rw[ix_get _ _ hi,ix_get _ _ qqo];unfold clsP;have h1:sameB l[i] (l[j]' qqo)=false:=by cases hs:sameB l[i] (l[j]' qqo)with
   |false=>rfl|true=>exact(U (kup (X _ (qz _)).r B (X _ (qz _)).r F hs)).elim
  rw[h1,(k20 _).2 B,(k20 _).2 F,he];simp
 refine⟨X,hn,hf,λa Y b Z B F he=>?_⟩;obtain⟨i,hi,rfl⟩:=qby Y;obtain⟨j,J,rfl⟩:=qby Z;rcases Nat.lt_trichotomy i j with h|h|h;.exact(key j i J h F B he.symm).symm
 .subst h;rfl
 .exact key i j hi h B F he
theorem CJ.more{l:List wD}{c:CS}(h:CJ l c){b:wD}(F:b∈l)(hi:idB b∉c.k):c.k.length+1<=l.length:=by
 have:=k6n (a:=idB b::c.k) (b:=l.map idB) (qcn.2 ⟨hi,h.nd⟩) λx B=>by
  rcases qak.1 B with rfl|B;.exact List.mem_map_of_mem F
  .exact qap.2 ⟨_,(h.id x B).1,(h.id x B).2.1⟩
 simpa using this
theorem RC.pre{m:ww}{c:CS}{l:List wD}(h:RC m c)(F:CJ l c)(B:LG l c.R)(X:c.R.wd=2)(hf:c.R.wW<=1048576){b:wD}(J:b∈l):MOk m/\GB b/\(fndM m.L (idB b)<0->m.L.length+1<=m.wz)/\m.wz<=1000000000000:=by
 have Y:m.wz=c.R.wW:=congrArg wF.wW h.R;have M:=B.f;refine⟨h.ok F B X,B.g b J,λZ=>?_,by omega⟩;have hi:idB b∉c.k:=λhi=>by have:=(h.fm hi).1;omega
 have:=F.more J hi;have U:m.L.length=c.k.length:=by rw[<-h.k,qp]
 omega
theorem kot:∀l s,absL (l.map (·%18446744069414584321)) s=absL l s
 |[],_=>rfl|[x],s=>by simp only[qaj,qda,absL];rw[show(s.a0+x%18446744069414584321)%18446744069414584321=(s.a0+x)%18446744069414584321 by omega]|x::y::r,s=>by simp only[qaj,absL];rw[kot r,show(s.a0+x%18446744069414584321)%18446744069414584321=(s.a0+x)%18446744069414584321 by omega,show(s.a1+y%18446744069414584321)%18446744069414584321=(s.a1+y)%18446744069414584321 by omega]
theorem ku2(k:Int)(l:Li):hashS k (l.map (·%18446744069414584321))=hashS k l:=by unfold hashS absS absI;rw[kot,qp];cases l with
 |nil=>rfl|cons a r=>rw[qe qqs,qe qqs]
def markV(key rho:Int):Int:=(markP pkR key rho).getD 0
def comV(n:wo):Int:=(commP pkR n).getD 0
theorem kgy{k r:Int}(h1:k<18446744069414584321)(B:r<18446744069414584321):markP pkR k r=some (hashS 3 [k,r]):=by unfold markP;rw[qg ⟨h1,B⟩];unfold pkR;rw[qg (by simp[allB,h1,B])]
theorem kkc{n:wo}(h:noteV n=true):allB (noteL n)=true:=by unfold noteV at h;simp at h;refine k9g.2 λx B=>?_;simp only[noteL,qak,qcv,or_false]at B;rcases B with rfl|rfl|rfl|rfl<;>omega
theorem kgu{n:wo}(h:noteV n=true):commP pkR n=some (hashS 2 (noteL n)):=by unfold commP;rw[qg h];unfold pkR;rw[qg (kkc h)]
theorem comV_eq(n:wo):comV n=if noteV n=true then hashS 2 (noteL n)else 0:=by
 unfold comV;split;.rename_i h;rw[kgu h];rfl
 .rename_i h;unfold commP;rw[qe h];rfl
theorem comV_u(n:wo):U64 (comV n):=by
 rw[comV_eq];split;.exact kx _ _
 .decide
theorem kwu(k r:Int):markV k r=if k<18446744069414584321/\r<18446744069414584321 then hashS 3 [k,r]else 0:=by
 unfold markV;split;.rename_i h;rw[kgy h.1 h.2];rfl
 .rename_i h;unfold markP;rw[qe h];rfl
theorem kcc.tr{t:wh}(h:kcc t):TR t/\t.wB.length<=9223372036854775807:=⟨⟨h.wX,h.wC.2,λx B=>let y:=h.wB.2 x B;⟨y.wl,y.wAY,y.wAV,y.wm.2⟩,h.wJ,h.wL,h.Fee,h.wQ,h.wK,by have:=h.wAG;omega,h.wAH.2⟩,h.wB.1⟩
theorem kam{X:wF}{J:List wD}{M:Li}(Y:kez X)(F:J.length<=9223372036854775807/\∀y∈J,k5r y)(Z:M.length<=9223372036854775807/\∀y∈M,0<=y/\y<256):0<=X.wZ/\(∀b∈J,BR b)/\(J.length<=9223372036854775807/\∀b∈J,b.Txs.length<=9223372036854775807/\∀t∈b.Txs,t.wB.length<=9223372036854775807)/\M.length<=9223372036854775807/\∀x∈M,0<=x/\x<256:=⟨Y.wZ.1,λb B=>⟨(F.2 b B).wP,(F.2 b B).wAM,(F.2 b B).wU,(F.2 b B).wK,by have:=(F.2 b B).wG;omega,λt U=>(((F.2 b B).Txs.2 t U).tr).1⟩,⟨F.1,λb B=>⟨(F.2 b B).Txs.1,λt U=>(((F.2 b B).Txs.2 t U).tr).2⟩⟩,Z⟩
abbrev iT(c:Bool)(A B:Prop):Prop:=(c=true->A)/\(c=false->B)
abbrev iD(p:Prop)[Decidable p](A B:Prop):Prop:=(decide p=true->A)/\(decide p=false->B)
abbrev iR(i:Int)(n:Nat)(R:Prop):Prop:=0<=i/\i<n/\R
abbrev iS(i:Int)(n:Nat)(R:Prop):Prop:=(0<=i/\i<n)/\R
abbrev iF(i:Int)(n:Nat)(A B:Prop):Prop:=iD (i<n) (iR i n A) B
abbrev iL{A:Type}(l m:List A)(n:Nat)(R:Prop):Prop:=lz l/\(l.length+m.length)*n<=140737488355328/\l.length+m.length<=maxLen/\R
def kgv:Ct:=.t (gk 13 [oo] yC (.one (.one (.ptr 3 0)))) (.int .i64::.int .i64::.int .i64::.int .i64::.int .i64::.int .u64::.int .i64::.int .i64::.int .u64::.sl yqu::.int .u64::.int .i64::.bool::yG) (.int .i64::.int .i64::.int .i64::.int .i64::.int .i64::.int .u64::.int .i64::.int .i64::.int .u64::.sl yqu::.int .u64::.int .i64::.bool::yG) [] λ(Ab Ad Ac Aj Ak Ag Al Ah Ai:Int)(Ae:Li)(Aq Af:Int)(Ap:Bool)(As At:Int)(Au:List wN)(Az A0 A7 A8 A9 Ba Bb Bc Bd Be Av:Int)(Aw:Li)(Ax:List wA)(Ay:Int)(J:Li)(M:List wR)(U:Lb)(X:Li)(Y:Lb)(Z:List Li)(aa:Lb)(ab:Lo)(w7 w9:Li)(ac:List wT)(B:Li)(F:Lo)=>(Ab,Ad,Ac,Aj,Ak,Ag,Al,Ah,Ai,Ae,Aq,Af,Ap,As,At,Au,Az,A0,A7,A8,A9,Ba,Bb,Bc,Bd,Be,Av,Aw,Ax,Ay,J,M,U,X,Y,Z,aa,ab,w7,w9,ac,B,F,())
theorem k80:kgv.O:=ptv Bs Tryz.func13 .no c0 (Q:=∀Ab Ad Ac Aj Ak Ag Al Ah Ai Ae Aq Af Ap As At Au Az A0 A7 A8 A9 Ba Bb Bc Bd Be Av Aw Ax Ay M U X Y Z aa ab ac w7 w9 J B F,∀Bf:Int,Ab=Bf->∀Bh:Int,Ad=Bh->∀Bk:Int,Ac=Bk->∀d0_4:Int,Aj=d0_4->∀d0_5:Int,Ak=d0_5->∀d0_6:Int,Ag=d0_6->∀d0_7:Int,Al=d0_7->∀d0_8:Int,Ah=d0_8->∀d0_9:Int,Ai=d0_9->∀d0_11:Li,Ae=d0_11->∀d0_13:Int,Aq=d0_13->∀d0_14:Int,Af=d0_14->∀d1_0:Bool,Ap=d1_0->∀d1_1:Int,As=d1_1->∀d1_2:Int,At=d1_2->∀d1_3:List wN,Au=d1_3->∀d3_0:Int,Az=d3_0->∀d3_1:Int,A0=d3_1->∀d3_2:Int,A7=d3_2->∀d3_3:Int,A8=d3_3->∀d3_4:Int,A9=d3_4->∀d3_5:Int,Ba=d3_5->∀d3_6:Int,Bb=d3_6->∀d3_7:Int,Bc=d3_7->∀d3_8:Int,Bd=d3_8->∀d3_9:Int,Be=d3_9->∀d3_10:Int,Av=d3_10->∀d3_11:Li,Aw=d3_11->∀d3_14:List wA,Ax=d3_14->∀d3_15:Int,Ay=d3_15->∀e2k:Li,M=e2k->∀e2v:List wR,U=e2v->∀e4k:Lb,X=e4k->∀e4v:Li,Y=e4v->∀e5k:Lb,Z=e5k->∀e5v:List Li,aa=e5v->∀e6k:Lb,ab=e6k->∀e6v:Lo,ac=e6v->∀e7:Li,w7=e7->∀e9:Li,w9=e9->∀e10:List wT,J=e10->∀e11k:Li,B=e11k->∀e11v:Lo,F=e11v->lz J/\lz w9/\lz w7/\Ab=Bf/\Ad=Bh/\Ac=Bk/\Aj=d0_4/\Ak=d0_5/\Ag=d0_6/\Al=d0_7/\Ah=d0_8/\Ai=d0_9/\Ae=d0_11/\Aq=d0_13/\Af=d0_14/\Ap=d1_0/\As=d1_1/\At=d1_2/\Au=d1_3/\Az=d3_0/\A0=d3_1/\A7=d3_2/\A8=d3_3/\A9=d3_4/\Ba=d3_5/\Bb=d3_6/\Bc=d3_7/\Bd=d3_8/\Be=d3_9/\Av=d3_10/\Aw=d3_11/\Ax=d3_14/\Ay=d3_15/\M=e2k/\U=e2v/\X=e4k/\Y=e4v/\Z=e5k/\aa=e5v/\ab=e6k/\ac=e6v/\w7=e7/\w9=e9/\J=e10/\B=e11k/\F=e11v)<|by
 rintro Ab Ad Ac Aj Ak Ag Al Ah Ai Ae Aq Af Ap As At Au Az A0 A7 A8 A9 Ba Bb Bc Bd Be Av Aw Ax Ay M U X Y Z aa ab ac w7 w9 J B F;repeat rintro _ rfl
 exact by repeat' first|apply qaa|exact rfl|exact qo
def ke3:Ct:=.b (gk 37 [oo,ou,ou] yC (.one oc)) (.int .u64::.int .u64::.int .i64::.int .i64::.int .i64::.int .i64::.int .i64::.int .u64::.int .i64::.int .i64::.int .u64::.sl yqu::.int .u64::.int .i64::.bool::yG) (.bool::.int .i64::.int .i64::.int .i64::.int .i64::.int .i64::.int .u64::.int .i64::.int .i64::.int .u64::.sl yqu::.int .u64::.int .i64::.bool::yG) λ(p1 p2 Ab Ad Ac Aj Ak Ag Al Ah Ai:Int)(U:Li)(Aq Af:Int)(Ap:Bool)(As At:Int)(Au:List wN)(Az A0 A7 A8 A9 Ba Bb Bc Bd Be Av:Int)(Aw:Li)(Ax:List wA)(Ay:Int)(B:Li)(F:List wR)(X:Lb)(Y:Li)(Z:Lb)(aa:List Li)(ab:Lb)(ac:Lo)(w7 w9:Li)(ad:List wT)(J:Li)(M:Lo)=>(B.length=F.length/\U.length<=1000,(),λ_=>((betS B F U p1 p2:Bool),Ab,Ad,Ac,Aj,Ak,Ag,Al,Ah,Ai,U,Aq,Af,Ap,As,At,Au,Az,A0,A7,A8,A9,Ba,Bb,Bc,Bd,Be,Av,Aw,Ax,Ay,B,F,X,Y,Z,aa,ab,ac,w7,w9,ad,J,M,()))
theorem khr:ke3.O:=pbv Bs Tryz.func37 .no c0 (Q:=∀(p1 p2 Ab Ad Ac Aj Ak Ag Al Ah Ai:Int)J(Aq Af:Int)(Ap:Bool)(As At:Int)(Au:List wN)(Az A0 A7 A8 A9 Ba Bb Bc Bd Be Av:Int)(Aw:Li)(Ax:List wA)(Ay:Int)(B:Li)(F:List wR)(Y:Lb)(Z:Li)(aa:Lb)(ab:List Li)(ac:Lb)(ad:Lo)(w7 w9:Li)(X:List wT)(M:Li)(U:Lo),B.length=F.length/\J.length<=1000->∀R:Unit,()=R->iT ((J.length:Int)==0) (lz X/\lz w9/\lz w7/\true=(betS B F J p1 p2:Bool)/\Ab=Ab/\Ad=Ad/\Ac=Ac/\Aj=Aj/\Ak=Ak/\Ag=Ag/\Al=Al/\Ah=Ah/\Ai=Ai/\J=J/\Aq=Aq/\Af=Af/\Ap=Ap/\As=As/\At=At/\Au=Au/\Az=Az/\A0=A0/\A7=A7/\A8=A8/\A9=A9/\Ba=Ba/\Bb=Bb/\Bc=Bc/\Bd=Bd/\Be=Be/\Av=Av/\Aw=Aw/\Ax=Ax/\Ay=Ay/\B=B/\F=F/\Y=Y/\Z=Z/\aa=aa/\ab=ab/\ac=ac/\ad=ad/\w7=w7/\w9=w9/\X=X/\M=M/\U=U) (let v1:Int:=i64.wrap ((J.length:Int)-1)
iR v1 J.length (B.length=F.length/\let v2:wR:=mVal (BEq.beq (ix J v1)) B F (default:wR)
iD (v2.work<p2) (lz X/\lz w9/\lz w7/\true=(betS B F J p1 p2:Bool)/\Ab=Ab/\Ad=Ad/\Ac=Ac/\Aj=Aj/\Ak=Ak/\Ag=Ag/\Al=Al/\Ah=Ah/\Ai=Ai/\J=J/\Aq=Aq/\Af=Af/\Ap=Ap/\As=As/\At=At/\Au=Au/\Az=Az/\A0=A0/\A7=A7/\A8=A8/\A9=A9/\Ba=Ba/\Bb=Bb/\Bc=Bc/\Bd=Bd/\Be=Be/\Av=Av/\Aw=Aw/\Ax=Ax/\Ay=Ay/\B=B/\F=F/\Y=Y/\Z=Z/\aa=aa/\ab=ab/\ac=ac/\ad=ad/\w7=w7/\w9=w9/\X=X/\M=M/\U=U) (iT (p2==v2.work) (lz X/\lz w9/\lz w7/\decide (p1<ix J v1)=(betS B F J p1 p2:Bool)/\Ab=Ab/\Ad=Ad/\Ac=Ac/\Aj=Aj/\Ak=Ak/\Ag=Ag/\Al=Al/\Ah=Ah/\Ai=Ai/\J=J/\Aq=Aq/\Af=Af/\Ap=Ap/\As=As/\At=At/\Au=Au/\Az=Az/\A0=A0/\A7=A7/\A8=A8/\A9=A9/\Ba=Ba/\Bb=Bb/\Bc=Bc/\Bd=Bd/\Be=Be/\Av=Av/\Aw=Aw/\Ax=Ax/\Ay=Ay/\B=B/\F=F/\Y=Y/\Z=Z/\aa=aa/\ab=ab/\ac=ac/\ad=ad/\w7=w7/\w9=w9/\X=X/\M=M/\U=U) (lz X/\lz w9/\lz w7/\false=(betS B F J p1 p2:Bool)/\Ab=Ab/\Ad=Ad/\Ac=Ac/\Aj=Aj/\Ak=Ak/\Ag=Ag/\Al=Al/\Ah=Ah/\Ai=Ai/\J=J/\Aq=Aq/\Af=Af/\Ap=Ap/\As=As/\At=At/\Au=Au/\Az=Az/\A0=A0/\A7=A7/\A8=A8/\A9=A9/\Ba=Ba/\Bb=Bb/\Bc=Bc/\Bd=Bd/\Be=Be/\Av=Av/\Aw=Aw/\Ax=Ax/\Ay=Ay/\B=B/\F=F/\Y=Y/\Z=Z/\aa=aa/\ab=ab/\ac=ac/\ad=ad/\w7=w7/\w9=w9/\X=X/\M=M/\U=U)))))<|by
 rintro p1 p2 Ab Ad Ac Aj Ak Ag Al Ah Ai J Aq Af Ap As At Au Az A0 A7 A8 A9 Ba Bb Bc Bd Be Av Aw Ax Ay B F Y Z aa ab ac ad w7 w9 X M U h R hR;obtain⟨hl,hb⟩:=h;unfold betS;refine⟨λe=>?_,λe=>?_⟩;.rw[qg (qch.1 (by have:(J.length:Int)=0:=(by simpa using e);omega))];exact by repeat' first|apply qaa|exact rfl|exact qo
 .have e:¬(J.length:Int)=0:=by simpa using e
  rw[qe λhh=>e (by rw[hh];rfl)];rw[wi ((J.length:Int)-1) qqo qqo];refine⟨by omega,by omega,hl,λe2=>?_,λe2=>⟨λe3=>?_,λe3=>?_⟩⟩;.have:decide (wkS F B (ix J ((J.length:Int)-1))<p2)=true:=e2;rw[this];exact by repeat' first|apply qaa|exact rfl|exact qo
  .have:decide (wkS F B (ix J ((J.length:Int)-1))<p2)=false:=e2;have h3:(p2==wkS F B (ix J ((J.length:Int)-1)))=true:=e3;rw[this,h3];exact by repeat' first|apply qaa|exact rfl|exact qo
  .have:decide (wkS F B (ix J ((J.length:Int)-1))<p2)=false:=e2;have h3:(p2==wkS F B (ix J ((J.length:Int)-1)))=false:=e3;rw[this,h3];exact by repeat' first|apply qaa|exact rfl|exact qo
def kbc:Ct:=.b ⟨33,[oo,.agg yE1],yC,.one (.one (.own 12)),[.cells [.ptr 1 0,zqi,zqi,zqi,zqi,zqi,zqu,zqi,zqi,zqu,.mp 2,zql,.ptr 3 0,zqu,zqi],.cells [.d .bool,zqu,zqi,.d (.sl (.st 0)),.mp 4,.mp 5,.mp 6],.map yqu (.st 14),.cells yS,.map .str yqi,.map .str oq,.map .str .bool,.vec yqu,.cells [.mp 11],.vec yqu,.vec (.st 13),.map yqu .bool,.tip yqu],false⟩ (.st 7::.int .i64::.int .i64::.int .i64::.int .i64::.int .i64::.int .u64::.int .i64::.int .i64::.int .u64::.sl yqu::.int .u64::.int .i64::.bool::yG) (.int .i64::.int .i64::.int .i64::.int .i64::.int .i64::.int .u64::.int .i64::.int .i64::.int .u64::.sl yqu::.int .u64::.int .i64::.bool::.int .u64::[yqi,.sl (.st 0),yqi,yqi,yqi,yqi,yqi,yqu,yqi,yqi,yqu,yqi,yqi,oq,.sl (.st 12),yqu,oq,.sl (.st 14),oz,.sl yqi,oz,.sl oq,oz,ow,oq,oq,.sl (.st 13),oq,ow,oq]) λ(U:wD)(Ab Ad Ac Aj Ak Ag Al Ah Ai:Int)(Ae:Li)(Aq Af:Int)(Ap:Bool)(As At:Int)(Au:List wN)(Az A0 A7 A8 A9 Ba Bb Bc Bd Be Av:Int)(Aw:Li)(Ax:List wA)(Ay:Int)(B:Li)(F:List wR)(X:Lb)(Y:Li)(Z:Lb)(aa:List Li)(ab:Lb)(ac:Lo)(w7 w9:Li)(ad:List wT)(J:Li)(M:Lo)=>((∃(R:wF)(n:Nat),KI R B F n/\n<=20)/\PaOk B F U/\1<=U.wG,(),λ_=>(Ab,Ad,Ac,Aj,Ak,Ag,Al,Ah,Ai,Ae,Aq,Af,Ap,As,At,Au,Az,A0,A7,A8,A9,Ba,Bb,Bc,Bd,Be,Av,Aw,Ax,Ay,B,F,X,Y,Z,aa,ab,ac,w7,w9,ad,J,M,(brB B F U:Li),()))
abbrev Fz0(r:Type):=Int->Int->Int->Int->Int->List wh->Li->r
theorem kcp:kbc.O:=pbv Bs Tryz.func33 (.r 1 (.nd [] (.lp [] ⟨[13,12],[.vec yqu,.cells yE1],[],[],[]⟩ .no) [] (.r 0 (.rt [.frz 13 [4]])))) c0 (Q:=∀(J:wD)(Ab Ad Ac Aj Ak Ag Al Ah Ai:Int)(Ae:Li)(Aq Af:Int)(Ap:Bool)(As At:Int)(Au:List wN)(Az A0 A7 A8 A9 Ba Bb Bc Bd Be Av:Int)(Aw:Li)(Ax:List wA)(Ay:Int)(B:Li)(F:List wR)(Z:Lb)(aa:Li)(ab:Lb)(ac:List Li)(ad:Lb)(ae:Lo)(w7 w9:Li)(Y:List wT)(U:Li)(X:Lo),(∃(R:wF)(n:Nat),KI R B F n/\n<=20)/\PaOk B F J/\1<=J.wG->∀R:Unit,()=R->0<=i64.wrap (J.wG-1)/\i64.wrap (J.wG-1)<=i64.wrap (J.wG-1)/\(i64.wrap (J.wG-1)).toNat*8<=140737488355328/\(i64.wrap (J.wG-1)).toNat<=maxLen/\∃(I1:Fz0 Prop)(M1:Fz0 Nat),I1 J.wP J.wG J.wAM J.wU J.wK J.Txs (List.replicate (i64.wrap (J.wG-1)).toNat (0:Int))/\∀b1 f1 i1 k1 l1 m1 n1,I1 b1 f1 i1 k1 l1 m1 n1->iD (1<f1) ((0<=i64.wrap (f1-2)/\i64.wrap (f1-2)<(((i64.wrap (J.wG-1)).toNat:Nat):Int))/\(0<=i64.wrap (f1-2)/\i64.wrap (f1-2)<(n1.length:Int))/\B.length=F.length/\let M:wR:=mVal (BEq.beq b1) B F (default:wR)
I1 M.wBB M.wAy M.wBF M.wBI M.wBG M.wBJ (n1.set (i64.wrap (f1-2)).toNat b1)/\M1 M.wBB M.wAy M.wBF M.wBI M.wBG M.wBJ (n1.set (i64.wrap (f1-2)).toNat b1)<M1 b1 f1 i1 k1 l1 m1 n1) ((i64.wrap (J.wG-1)).toNat=n1.length/\lz Y/\lz w9/\lz w7/\n1=n1/\Ab=Ab/\Ad=Ad/\Ac=Ac/\Aj=Aj/\Ak=Ak/\Ag=Ag/\Al=Al/\Ah=Ah/\Ai=Ai/\Ae=Ae/\Aq=Aq/\Af=Af/\Ap=Ap/\As=As/\At=At/\Au=Au/\Az=Az/\A0=A0/\A7=A7/\A8=A8/\A9=A9/\Ba=Ba/\Bb=Bb/\Bc=Bc/\Bd=Bd/\Be=Be/\Av=Av/\Aw=Aw/\Ax=Ax/\Ay=Ay/\B=B/\F=F/\Z=Z/\aa=aa/\ab=ab/\ac=ac/\ad=ad/\ae=ae/\w7=w7/\w9=w9/\Y=Y/\U=U/\X=X/\n1=(brB B F J:Li)))<|by
 rintro J Ab Ad Ac Aj Ak Ag Al Ah Ai Ae Aq Af Ap As At Au Az A0 A7 A8 A9 Ba Bb Bc Bd Be Av Aw Ax Ay B F Z aa ab ac ad ae w7 w9 Y U X h R hR;obtain⟨⟨R,n,hK,hn⟩,hp,hh⟩:=h;obtain⟨q1,_,_,q4,q5⟩:=hK.br hp hh;have aj:=hK.kn;obtain⟨K,ag⟩:=qm (show 0<=J.wG-1 by omega);have hw:i64.wrap (J.wG-1)=(K:Int):=by rw[wi _ qqo qqo,ag]
 have hB:brB B F J=brS B F K J.wP:=by unfold brB;rw[ag];rfl
 rw[hw,qv,hB];have ai:1<=K->J.wP∈B/\(gB B F J.wP).wG=(K:Int):=λh1=>by
  rcases hp with⟨h2,_⟩|⟨_,h3,h4⟩;.omega
  .exact⟨h3,by rw[h4,ag]⟩
 refine⟨by omega,by omega,by omega,by unfold maxLen;omega,λb f _ _ _ _ l=>∃(m:Nat)(s:Li),f=(m:Int)+1/\m<=K/\l=List.replicate m 0++s/\l.length=K/\brS B F K J.wP=brS B F m b++s/\(1<=m->b∈B/\(gB B F b).wG=(m:Int)),λ_ f _ _ _ _ _=>f.toNat,⟨K,[],by omega,qaf _,by simp,by simp,by simp,ai⟩,?_⟩;rintro b f _ _ _ _ _⟨m,s,rfl,hm,rfl,hl,hs,hb⟩;refine⟨λe=>?_,λe=>?_⟩
 .have e:=qc e;obtain⟨j,rfl⟩:∃j,m=j+1:=⟨m-1,by omega⟩;obtain⟨g1,g2⟩:=hb qqo;have ah:i64.wrap (((j+1:Nat):Int)+1-2)=(j:Int):=by rw[wi _ qqo qqo];omega
  rw[ah];refine⟨⟨by omega,by omega⟩,⟨by omega,by omega⟩,hK.kv,⟨j,b::s,?_,by omega,?_,by rw[qab];exact hl,?_,λh1=>?_⟩,?_⟩;.show(gB B F b).wG=_;rw[g2];omega
  .rw[qv,List.replicate_succ',qn];simp[List.set_append]
  .rw[hs];show brS B F j (gB B F b).wP++[b]++s=_;rw[qn];rfl
  .obtain⟨a,c⟩:=hK.hp b g1 (by rw[g2];omega);exact⟨a,by show(gB B F (gB B F b).wP).wG=_;rw[c,g2];omega⟩
  .show(gB B F b).wG.toNat<(((j+1:Nat):Int)+1).toNat;rw[g2];omega
 .have e:=qd e;obtain rfl:m=0:=by omega
  have hs:brS B F K J.wP=s:=hs;have hl:s.length=K:=by simpa using hl
  rw[hs];exact by repeat' first|apply qaa|exact hl.symm|exact rfl|exact qo
def kbn:Ct:=.b (gk 39 [oo] [.cells [.ptr 1 0,zqi,zqi,zqi,zqi,zqi,zqu,zqi,zqi,zqu,.mp 2,.own 3,.ptr 4 0,zqu,zqi],.cells [.d .bool,zqu,zqi,.d (.sl (.st 0)),.mp 5,.mp 6,.mp 7],.map yqu (.st 14),.tip yqu,.cells [zqi,zqi,zqi,zqi,zqi,zqu,zqi,zqi,zqu,zqi,zqi,zql,.row 8,.ptr 9 0,.d (.sl (.st 12)),zqu,.row 10,.row 11],.map .str yqi,.map .str oq,.map .str .bool,.vec yqu,.cells [.mp 12],.vec yqu,.vec (.st 13),.map yqu .bool] (.tup [])) (.int .i64::.int .i64::.int .i64::.int .i64::.int .i64::.int .u64::.int .i64::.int .i64::.int .u64::.int .u64::.int .i64::.bool::.int .u64::yF) (.int .i64::.int .i64::.int .i64::.int .i64::.int .i64::.int .u64::.int .i64::.int .i64::.int .u64::.int .u64::.int .i64::.bool::.int .u64::yF) λ(Ab Ad Ac Aj Ak Ag Al Ah Ai Aq Af:Int)(Ap:Bool)(As At:Int)(Au:List wN)(B F J M U X Y Z aa ab Bl:Int)(Bm:Li)(Bn:List wA)(Bo:Int)(ae:Li)(ag:List wR)(w3:Li)(ah:Lb)(ai:Li)(aj:Lb)(ak:List Li)(al:Lb)(am:Lo)(w8 ao:Li)(aq:List wT)(ac:Li)(ad:Lo)=>((1<=Ah/\Ah<=1048576)/\w3.length<=1000,finS Ah w3 Aq Af,λR=>(Ab,Ad,Ac,Aj,Ak,Ag,Al,Ah,Ai,R.f,R.h,Ap,As,At,Au,B,F,J,M,U,X,Y,Z,aa,ab,Bl,Bm,Bn,Bo,ae,ag,w3,ah,ai,aj,ak,al,am,w8,ao,aq,ac,ad,()))
abbrev k4z(R:FH)(Ab Ad Ac Aj Ak Ag Al Ah Ai:Int)(Ap:Bool)(As At:Int)(Au:List wN)(B F J M U X Y Z aa ab Bl:Int)(Bm:Li)(Bn:List wA)(Bo:Int)(ae:Li)(ag:List wR)(w3:Li)(ah:Lb)(ai:Li)(aj:Lb)(ak:List Li)(al:Lb)(am:Lo)(w8 ao:Li)(aq:List wT)(ac:Li)(ad:Lo)(o0 o1 o2 o3 o4 o5 o6 o7 o8 o9 au:Int)(aw:Bool)(ax ay:Int)(az:List wN)(ba bb bc bd bf bg bh bi bj bk bm:Int)(bn:Li)(bo:List wA)(bq:Int)(bs:Li)(bt:List wR)(bu:Li)(bv:Lb)(bw:Li)(bx:Lb)(bz:List Li)(ca:Lb)(cb:Lo)(cc cd:Li)(ce:List wT)(cf:Li)(cg:Lo):Prop:=o0=Ab/\o1=Ad/\o2=Ac/\o3=Aj/\o4=Ak/\o5=Ag/\o6=Al/\o7=Ah/\o8=Ai/\o9=R.f/\au=R.h/\aw=Ap/\ax=As/\ay=At/\az=Au/\ba=B/\bb=F/\bc=J/\bd=M/\bf=U/\bg=X/\bh=Y/\bi=Z/\bj=aa/\bk=ab/\bm=Bl/\bn=Bm/\bo=Bn/\bq=Bo/\bs=ae/\bt=ag/\bu=w3/\bv=ah/\bw=ai/\bx=aj/\bz=ak/\ca=al/\cb=am/\cc=w8/\cd=ao/\ce=aq/\cf=ac/\cg=ad
theorem kd5:kbn.O:=pbv Bs Tryz.func39 (.r 0 (oC 23)) c0 (Q:=∀Ab Ad Ac Aj Ak Ag Al F Ai Aq Af Ap As At Au J M U X Y Z aa ab ac ad Bl Bm Bn Bo aj ak B al am ao aq au aw w8 ah ai ae ag,(1<=F/\F<=1048576)/\B.length<=1000->∀R,finS F B Aq Af=R->let v1:=i64.wrap (B.length-F)
∀J1:oE,(∀b1,iT b1 (0<=i64.wrap (v1-1)/\i64.wrap (v1-1)<B.length/\lz ai/\lz ah/\lz w8/\B=B/\k4z R Ab Ad Ac Aj Ak Ag Al F Ai Ap As At Au J M U X Y Z aa ab ac ad Bl Bm Bn Bo aj ak B al am ao aq au aw w8 ah ai ae ag Ab Ad Ac Aj Ak Ag Al F Ai (ix B (i64.wrap (v1-1))) v1 Ap As At Au J M U X Y Z aa ab ac ad Bl Bm Bn Bo aj ak B al am ao aq au aw w8 ah ai ae ag) (lz ai/\lz ah/\lz w8/\B=B/\k4z R Ab Ad Ac Aj Ak Ag Al F Ai Ap As At Au J M U X Y Z aa ab ac ad Bl Bm Bn Bo aj ak B al am ao aq au aw w8 ah ai ae ag Ab Ad Ac Aj Ak Ag Al F Ai Aq Af Ap As At Au J M U X Y Z aa ab ac ad Bl Bm Bn Bo aj ak B al am ao aq au aw w8 ah ai ae ag)->J1 b1)->iD (1<=v1) (J1 (decide (Af<v1))) (J1 false))<|by
 rintro Ab Ad Ac Aj Ak Ag Al F Ai Aq Af Ap As At Au J M U X Y Z aa ab ac ad Bl Bm Bn Bo aj ak B al am ao aq au aw w8 ah ai ae ag h R hR;obtain⟨⟨h1,h2⟩,h3⟩:=h;intro v1 J1 k1;have hv:v1=(B.length:Int)-F:=wi _ qqo qqo;clear_value v1;subst hv;have j:∀b:Bool,(b=true↔1<=(B.length:Int)-F/\Af<(B.length:Int)-F)->J1 b:=λb hb=>k1 b ⟨λe=>by have hh:=hb.1 e;have hq:=hR.symm.trans (show finS F B Aq Af=_ from qg hh);subst hq;rw[wi ((B.length:Int)-F-1) qqo qqo];exact⟨by omega,by omega,by repeat' first|apply qaa|exact rfl|exact qo⟩,λe=>by
  have hh:¬(1<=(B.length:Int)-F/\Af<(B.length:Int)-F):=λhq=>by rw[hb.2 hq]at e;cases e
  have hq:=hR.symm.trans (show finS F B Aq Af=_ from qe hh);subst hq;exact by repeat' first|apply qaa|exact rfl|exact qo⟩;exact⟨λe=>j _ ⟨λe2=>⟨qc e,qc e2⟩,λhq=>qao hq.2⟩,λe=>j _ ⟨λe2=>(by cases e2),λhq=>(qd e hq.1).elim⟩⟩
def kr3:Ct:=.g (gk 167 [oo,ou] yI1 (.one oc)) [yqu,oq,ow] [.bool,oq,ow] [] λ(J:Int)(B:Li)(F:Lo)=>(F=trs B,decide (J∈B),B,F,())
theorem ksd:kr3.O:=prv Bs Tryz.func167 .no c0 (Q:=∀J B F,F=trs B->∀r0,decide (J∈B)=r0->∀e1k,B=e1k->∀e1v,F=e1v->B.length=F.length/\let M:=mVal (BEq.beq J) B F false
M=r0/\B=e1k/\F=e1v)<|by rintro J B F h _ rfl _ rfl _ rfl;subst h;exact⟨by simp[trs],sVal _ _,rfl,rfl⟩
def kcx:Ct:=.b (gk 56 [oo] yJ (.one (.one (.view 3)))) yQ [yqi,yqi,yqi,yqi,yqi,yqi,yqi,yqu,yqi,yqi,yqu,yqi,yqi,oq,.sl (.st 12),yqu,oq,oq,.sl (.st 13),oq,ow] λ(U X Y Z Aj Ak B Al Ah Ai Am:Int)(Ae:Li)(Af:List wA)(Ao:Int)(w1 F:Li)(w4:List wT)(J:Li)(M:Lo)=>((1<=B/\B<=100)/\F.length<=1000000,(),λ_=>(((F.length-B.toNat:Nat):Int),((F.length-(F.length-B.toNat):Nat):Int),U,X,Y,Z,Aj,Ak,B,Al,Ah,Ai,Am,Ae,Af,Ao,w1,F,w4,J,M,()))
theorem k5u:kcx.O:=pbv Bs Tryz.func56 .no c0 (Q:=∀(Z Ab Ad Ac Aj Ak F Al Ah Ai Am:Int)(Ae:Li)(Af:List wA)(Ao:Int)(X B:Li)(Y:List wT)(M:Li)(U:Lo),(1<=F/\F<=100)/\B.length<=1000000->∀R:Unit,()=R->let J:Int:=i64.wrap ((B.length:Int)-if 0<F then F else 0)
0<=(if 0<J then J else 0)/\(if 0<J then J else 0)<=(B.length:Int)/\lz Y/\lz B/\lz X/\(((if 0<J then J else 0).toNat:Nat):Int)=(((B.length-F.toNat:Nat):Int):Int)/\((B.length-(if 0<J then J else 0).toNat:Nat):Int)=(((B.length-(B.length-F.toNat):Nat):Int):Int)/\Z=Z/\Ab=Ab/\Ad=Ad/\Ac=Ac/\Aj=Aj/\Ak=Ak/\F=F/\Al=Al/\Ah=Ah/\Ai=Ai/\Am=Am/\Ae=Ae/\Af=Af/\Ao=Ao/\X=X/\B=B/\Y=Y/\M=M/\U=U)<|by
 rintro Z Ab Ad Ac Aj Ak F Al Ah Ai Am Ae Af Ao X B Y M U h R hR;obtain⟨⟨h1,h2⟩,h3⟩:=h;refine ?_;intro J;have hv:J=(B.length:Int)-F:=by show i64.wrap _=_;rw[qg (show 0<F by omega),ko _ qqo qqo]
 have e:(if 0<J then J else 0)=((B.length-F.toNat:Nat):Int):=by rw[hv];split<;>omega
 rw[e,qv];exact⟨by omega,by omega,rfl,rfl,rfl,rfl,rfl,rfl,rfl,rfl,rfl,rfl,rfl,rfl,rfl,rfl,rfl,rfl,rfl,rfl,rfl,rfl,rfl,rfl,rfl,rfl⟩
def klj:Ct:=.tp 347 [yqu] [.bool] [] λ(B:Int)=>(false,())
theorem kb0:klj.O:=qtv Bs Tryz.func347 .no c0 (Q:=∀(B:Int),∀r0,false=r0->(B !=B)=r0)<|by exact qqs
def kh2:Ct:=.tp 337 [yqu,yqu] [yqi] [] λ(B F:Int)=>(cmp3 B F,())
theorem kjb:kh2.O:=qtv Bs Tryz.func337 .no (kb0.c c0) (Q:=∀B F,∀r0,cmp3 B F=r0->(false=true->(false=true->0=r0)/\(false=false->-1=r0))/\(false=false->(false=true->1=r0)/\(false=false->(decide (B<F)=true->-1=r0)/\(decide (B<F)=false->(decide (F<B)=true->1=r0)/\(decide (F<B)=false->0=r0)))))<|by rintro B F _ rfl;refine⟨λe=>(by cases e),λ_=>⟨λe=>(by cases e),λ_=>?_⟩⟩;simp only[qy,decide_eq_false_iff_not];unfold cmp3;exact⟨λh=>by simp[h],λh=>⟨λJ=>by simp[h,J],λJ=>by simp[h,J]⟩⟩
def k56:Ct:=.tp 336 [.st 12,yqu] [yqi] [] λ(B:wA)(F:Int)=>(cmp3 B.ID F,())
theorem k5z:k56.O:=qtv Bs Tryz.func336 .no (kjb.c c0) (Q:=∀(B:wA)F,∀r0,cmp3 B.ID F=r0->cmp3 B.ID F=r0)<|by rintro B F _ rfl;exact rfl
def k4q:Ct:=.g (gk 335 [.one (.d (.sl (.st 12))),ou,.one (.k (.fn 336))] [] (.tup [oa,oc])) [.sl (.st 12),yqu] [yqi,.bool] [] λ(B:List wA)(F:Int)=>(Srt B/\B.length<4611686018427387904,(lb B F:Int),fnd B F,())
theorem k4x:k4q.O:=prv Bs Tryz.func335 (rA 2 (.lp [] (oB [9,10] [oa,oa]) .no)) (k5z.c c0) (Q:=∀B F,Srt B/\B.length<4611686018427387904->∀r0,(lb B F:Int)=r0->∀r1,fnd B F=r1->∃(Z:oF)(M1:oI),Z 0 B.length/\∀b1 f1,Z b1 f1->iD (b1<f1) (let J:=u64.wrap (i64.wrap (b1+f1))
0<=i64.wrap (ishr .u64 J 1)/\i64.wrap (ishr .u64 J 1)<B.length/\let r3:=cmp3 (ix B (i64.wrap (ishr .u64 J 1))).ID F
iD (r3<0) (let v4:=i64.wrap (i64.wrap (ishr .u64 J 1)+1)
ss2 Z M1 b1 v4 f1 f1) (ss2 Z M1 b1 b1 f1 (i64.wrap (ishr .u64 J 1)))) (iF b1 B.length (b1=r0/\(cmp3 (ix B b1).ID F==0)=r1) (b1=r0/\false=r1)))<|by
 rintro B F h _ rfl _ rfl;obtain⟨hs,hl⟩:=h;refine⟨λa b=>∃i j:Nat,a=i/\b=j/\i<=j/\j<=B.length/\(∀k h,k<i->B[k].ID<F)/\∀k h,j<=k->F<=B[k].ID,λa b=>(b-a).toNat,⟨0,B.length,rfl,rfl,by omega,by omega,λk h hk=>by omega,λk h hk=>by omega⟩,?_⟩;rintro _ _⟨i,j,rfl,rfl,ab,hj,h1,h2⟩;refine⟨λM=>?_,λM=>?_⟩
 .have aa:i<j:=by have:=qc M;omega
  intro J;have e:=mid_eq i j qqo;rw[e];have hm:(i+j)/2<B.length:=by omega
  rw[ix_get _ _ hm];refine⟨by omega,by omega,λU=>?_,λU=>?_⟩
  .have U:=cmp3_lt.1 (qc U);refine⟨⟨(i+j)/2+1,j,inc_i64 _ qqo,rfl,by omega,hj,λk h hk=>?_,h2⟩,?_⟩
   .rcases qaw k ((i+j)/2)with X|X;.have:=hs _ _ X hm;omega
    .have:k=(i+j)/2:=by omega
     subst this;exact U
   .rw[inc_i64 _ qqo];(dsimp only;omega)
  .have U:¬B[(i+j)/2].ID<F:=λhh=>qd U (cmp3_lt.2 hh);refine⟨⟨i,(i+j)/2,rfl,rfl,by omega,by omega,h1,λk h hk=>?_⟩,by(dsimp only;omega)⟩;rcases qaw ((i+j)/2) k with X|X;.have:=hs _ _ X h;omega
   .have:k=(i+j)/2:=by omega
    subst this;omega
 .have Y:i=j:=by have:=qd M;omega
  subst Y;have hb:=lb_eq B F i hj h1 λh=>h2 i h qqo;refine⟨λhi=>?_,λhi=>?_⟩
  .have hi:i<B.length:=by have:=qc hi;omega
   refine⟨by omega,by omega,by rw[hb],?_⟩;unfold fnd;rw[hb,ix_get _ _ hi,qf hi];show(cmp3 B[i].ID F==0)=decide (B[i].ID=F);rw[Bool.eq_iff_iff];simp[cmp3_eq]
  .have hi:¬i<B.length:=by have:=qd hi;omega
   refine⟨by rw[hb],?_⟩;unfold fnd;rw[hb,qfe qqo]
def kh9:Ct:=.gp 247 [.st 20,yqu] [yqi,.bool] [] λ(B:wAR)(F:Int)=>(Srt B.wE/\B.wE.length<4611686018427387904,(lb B.wE F:Int),fnd B.wE F,())
theorem k85:kh9.O:=qrv Bs Tryz.func247 .no (k4x.c c0) (Q:=∀(B:wAR)(F:Int),Srt B.wE/\B.wE.length<4611686018427387904->∀r0:Int,(lb B.wE F:Int)=r0->∀r1:Bool,fnd B.wE F=r1->(Srt B.wE/\B.wE.length<4611686018427387904)/\(lb B.wE F:Int)=r0/\fnd B.wE F=r1)<|by rintro B F h _ rfl _ rfl;exact⟨h,rfl,rfl⟩
def kiv:Ct:=.bp 171 [.st 20,yqu] [yqu,yqu] λ(B:wAR)(F:Int)=>(Srt B.wE/\B.wE.length<4611686018427387904,getA B.wE F,λR=>(R.wn,R.wK,()))
theorem k9z:kiv.O:=qbv Bs Tryz.func171 .no (k85.c c0) (Q:=∀(B:wAR)(F:Int),Srt B.wE/\B.wE.length<4611686018427387904->∀R,getA B.wE F=R->(Srt B.wE/\B.wE.length<4611686018427387904)/\iT (! fnd B.wE F) (0=R.wn/\0=R.wK) (iR (lb B.wE F:Int) B.wE.length (let X:Int:=(ix B.wE (lb B.wE F:Int)).wn
iR (lb B.wE F:Int) B.wE.length (let Y:Int:=(ix B.wE (lb B.wE F:Int)).wK
X=R.wn/\Y=R.wK))))<|by
 rintro B F h R Z;subst Z;refine⟨h,λM=>?_,λM=>?_⟩
 .have J:fnd B.wE F=false:=by simpa using M
  rw[getA_no h.1 J];exact⟨rfl,rfl⟩
 .have J:fnd B.wE F=true:=by simpa using M
  obtain⟨U,_⟩:=k67 J;rw[getA_of h.1 J U,ix_get _ _ U];exact⟨by omega,by omega,by omega,by omega,rfl,rfl⟩
def k4t:Ct:=.g ⟨57,[.one (.d (.sl (.st 12)))],[],.one og,[.tip (.st 12)],false⟩ [.sl (.st 12)] [.sl (.st 12)] [] λ(B:List wA)=>(B.length<=100000,B,())
theorem k5d:k4t.O:=prv Bs Tryz.func57 (rA 0 (rA 0 (.r 0 (.rt [.tok 2 (.st 12)])))) c0 (Q:=∀B,B.length<=100000->∀e0,B=e0->∀z4,(z4=true->B=[])->iT z4 ([]=([]:List wA)/\[]=e0) ((([]:List wA).length+B.length)*24<=140737488355328/\([]:List wA).length+B.length<=maxLen/\[]++B=[]++B/\([]:List wA)++B=e0))<|by rintro B h _ rfl;exactλz F=>⟨λh=>⟨rfl,(F h).symm⟩,λ_=>⟨by simp;omega,by simp;unfold maxLen;omega,rfl,rfl⟩⟩
def kiu:Ct:=.gp 173 [.st 20,.st 12] [.st 20] [] λ(B:wAR)(F:wA)=>(Srt B.wE/\B.wE.length<=1000,wAR.mk (putA B.wE F),())
theorem k9t:kiu.O:=qrv Bs Tryz.func173 (.r 2 (.jn ⟨[3],[.tip (.st 12)],[7],[og],[]⟩ [] (oC 27) [] (.jn (oB [5] [oa]) [] .no [] .no))) (k85.c (k5d.c c0)) (Q:=∀(B:wAR)(F:wA),Srt B.wE/\B.wE.length<=1000->∀r0:wAR,wAR.mk (putA B.wE F)=r0->(Srt B.wE/\B.wE.length<4611686018427387904)/\0<=(lb B.wE F.ID:Int)/\(lb B.wE F.ID:Int)<=(B.wE.length:Int)/\let J:List wA:=B.wE.take (lb B.wE F.ID:Int).toNat
J.length<=100000/\∀U:List wA->Prop,(∀(b1:List wA),(∀Y:oD,(∀(M:Int),0<=M/\M<=(B.wE.length:Int)/\iL b1 (B.wE.drop M.toNat) 24 (b1++B.wE.drop M.toNat=r0.wE)->Y M)->iT (fnd B.wE F.ID) (let v2:Int:=i64.wrap ((lb B.wE F.ID:Int)+1)
Y v2) (Y (lb B.wE F.ID:Int)))->U b1)->∀J2:oE,(∀(f1:Bool),iT f1 (iL J [F] 24 (J++[F]=J++[F]/\U (J++[F]))) (J=J/\U J)->J2 f1)->iT (F.wn !=0) (J2 true) (J2 (F.wK !=0)))<|by
 rintro B F h _ rfl;obtain⟨hs,hl⟩:=h;have ac:=lb_le B.wE F.ID;refine⟨⟨hs,by omega⟩,by omega,by omega,?_⟩;simp only[qv];refine⟨by simp;omega,λU j1=>?_⟩;have X:∀m:List wA,m=B.wE.take (lb B.wE F.ID)++(if F.wn≠0∨F.wK≠0 then[F]else[])->U m:=by
  intro m hm;have ad:m.length<=1001:=by rw[hm];simp only[qi,qu];split<;>simp<;>omega
  refine j1 _ λY j3=>?_;have Z:∀n:Nat,n<=B.wE.length->m++B.wE.drop n=putA B.wE F->Y (n:Int):=by
   intro n hn he;have:=(qal:(B.wE.drop n).length=_);refine j3 _ ⟨by omega,by omega,by first|exact rfl|exact qo,?_,?_,?_⟩;.simp only[qv];omega
   .simp only[qv];unfold maxLen;omega
   .simp only[qv];exact he
  refine⟨λhf=>?_,λhf=>?_⟩;.obtain⟨hb,_⟩:=k67 hf;rw[inc_i64 _ qqo];refine Z _ qqo ?_;rw[hm];unfold putA;rw[hf];rfl
  .refine Z _ qqo ?_;rw[hm];unfold putA;rw[hf];rfl
 intro J2 j2;have aa:∀b:Bool,(b=true↔F.wn≠0∨F.wK≠0)->J2 b:=by
  intro b hb;refine j2 _ ⟨λe=>?_,λe=>?_⟩
  .have ab:(B.wE.take (lb B.wE F.ID)).length<=1000:=by rw[qu];omega
   refine⟨by first|exact rfl|exact qo,(len24 _ _ (qbd ab qqd)).1,(len24 _ _ (qbd ab qqd)).2,by first|exact rfl|exact qo,X _ ?_⟩;rw[qg (hb.1 e)]
  .refine⟨by first|exact rfl|exact qo,X _ ?_⟩;rw[qe λhh=>by rw[hb.2 hh]at e;cases e];exact(qcm _).symm
 refine⟨λe=>aa _ ?_,λe=>aa _ ?_⟩
 .have:F.wn≠0:=by simpa using e
  simp[this]
 .have:F.wn=0:=by simpa using e
  simp[this]
def kfi:Ct:=.gp 168 [.st 20,yqu,yqu,yqu] [.st 20,yqi] [] λ(B:wAR)(M F J:Int)=>(OkA B.wE/\U64 F/\U64 J,wAR.mk (debitA B.wE M F J).1,(debitA B.wE M F J).2,())
theorem k6y:kfi.O:=qrv Bs Tryz.func168 (rA 2 (oC 27)) (k9z.c (k9t.c c0)) (Q:=∀(B:wAR)(J M F:Int),OkA B.wE/\U64 M/\U64 F->∀r0:wAR,wAR.mk (debitA B.wE J M F).1=r0->∀r1:Int,(debitA B.wE J M F).2=r1->(Srt B.wE/\B.wE.length<4611686018427387904)/\iT (M==0) (([]:List wA)=r0.wE/\1=r1) (∀X:oE,(∀(Y:Bool),iT Y (([]:List wA)=r0.wE/\20=r1) (let v2:Bool:=decide ((getA B.wE J).wn<M)
iT v2 (([]:List wA)=r0.wE/\15=r1) (let v3:Int:=u64.wrap ((getA B.wE J).wn-M)
(Srt B.wE/\B.wE.length<=1000)/\let r4:List wA:=putA B.wE (wA.mk J v3 (u64.wrap (F+1)))
r4=r0.wE/\0=r1))->X Y)->iT (F !=(getA B.wE J).wK) (X true) (X (F==18446744073709551615))))<|by
 rintro B J M F h _ rfl _ rfl;obtain⟨h,⟨ha,aa⟩,hn,ab⟩:=h;obtain⟨g1,g2⟩:=getA_ok h J;refine⟨⟨h.1,by have:=h.2.1;omega⟩,λU=>?_,λU X j=>?_⟩
 .have:M=0:=by simpa using U
  simp[debitA,this]
 have Z:M≠0:=by simpa using U
 have key:∀b:Bool,(b=true↔F≠(getA B.wE J).wK∨F=18446744073709551615)->X b:=by
  intro b hb;refine j _ ⟨λe=>?_,λe=>?_⟩;.simp only[debitA,qe Z,qg (hb.1 e)];exact⟨by first|exact rfl|exact qo,by first|exact rfl|exact qo⟩
  .have h1:¬(F≠(getA B.wE J).wK∨F=18446744073709551615):=λU=>by rw[hb.2 U]at e;cases e
   simp only[debitA,qe Z,qe h1];refine⟨λU=>?_,λU=>?_⟩;.have:=qc U;simp[this]
   .have h2:=qd U;simp only[qe h2];have:F≠18446744073709551615:=λe=>h1 (.inr e);rw[wrap_u64 _ qqo qqo,wrap_u64 (F+1) qqo qqo];exact⟨⟨h.1,h.2.1⟩,rfl,by first|exact rfl|exact qo⟩
 refine⟨λe=>key _ ?_,λe=>key _ ?_⟩
 .have:F≠(getA B.wE J).wK:=by simpa using e
  simp[this]
 .have:F=(getA B.wE J).wK:=by simpa using e
  rw[this];simp
def kal:Ct:=.g (gk 201 [om,ou] [.vec yqu] (.one oa)) [yqi,yqi,yqu,oq] [yqi,oq] [] λ(B F J:Int)(w0:Li)=>(0<=B/\0<=F/\B.toNat+F.toNat<=w0.length/\w0.length<=1000000,idxI ((w0.drop B.toNat).take F.toNat) J,w0,())
theorem kcu:kal.O:=prv Bs Tryz.func201 (rA 0 (lA (oB [8] [oa]) .no)) c0 (Q:=∀(B F M:Int)w0,0<=B/\0<=F/\B.toNat+F.toNat<=w0.length/\w0.length<=1000000->∀r0,idxI ((w0.drop B.toNat).take F.toNat) M=r0->∀e0,w0=e0->∃(X:oD)(Z:oG),X 0/\∀b1,X b1->iD (b1<F.toNat) ((0<=b1/\b1<F.toNat)/\iS (B.toNat+b1) w0.length (iT (M==ix w0 (B.toNat+b1)) (b1=r0/\w0=e0) (ss1 X Z b1 (i64.wrap (b1+1))))) (-1=r0/\w0=e0))<|by
 rintro B F M w0 h _ rfl _ rfl;obtain⟨h0,h1,h2,h3⟩:=h;obtain⟨o,rfl⟩:=qm h0;obtain⟨n,rfl⟩:=qm h1;simp only[qv]at h2⊢;have hl:((w0.drop o).take n).length=n:=by simp;omega
 refine⟨λc=>∃i:Nat,c=i/\i<=n/\M∉((w0.drop o).take n).take i,λc=>(n-c).toNat,⟨0,rfl,by omega,by simp⟩,?_⟩;rintro _⟨i,rfl,hi,U⟩;refine⟨λe=>?_,λe=>?_⟩
 .have e:i<n:=by have:=qc e;omega
  have hw:o+i<w0.length:=by omega
  have Y:((w0.drop o).take n)[i]' qqo=w0[o+i]:=by simp
  have hx:ix w0 (o+i)=w0[o+i]:=by rw[show(o:Int)+(i:Int)=((o+i:Nat):Int)by omega,ix_get _ _ hw]
  rw[hx];refine⟨by omega,by omega,λJ=>?_,λJ=>?_⟩
  .have J:M=w0[o+i]:=by simpa using J
   unfold idxI;rw[qg (by rw[J,<-Y];exact qz _)];have:((w0.drop o).take n).idxOf M=i:=by
    conv=>lhs;rw[<-qbi i ((w0.drop o).take n)]
    rw[List.idxOf_append,qe U,qbb (show i<((w0.drop o).take n).length by omega),Y,<-J,List.idxOf_cons_self,qu];omega
   rw[this];exact⟨rfl,trivial⟩
  .have J:¬M=w0[o+i]:=by simpa using J
   rw[inc_i64 _ qqo];refine⟨⟨i+1,rfl,by omega,?_⟩,by(dsimp only;omega)⟩;rw[qt (show i<((w0.drop o).take n).length by omega),Y];simp only[qae,qah];exactλhh=>hh.elim U J
 .have e:i=n:=by have:=qd e;omega
  rw[ql qqo]at U;unfold idxI;rw[qe U];exact⟨rfl,trivial⟩
def k7p:Ct:=.g (gk 142 [om,ou] [.vec yqu] (.one oc)) [yqi,yqi,yqu,oq] [.bool,oq] [] λ(B F J:Int)(w0:Li)=>(0<=B/\0<=F/\B.toNat+F.toNat<=w0.length/\w0.length<=1000000,decide (J∈(w0.drop B.toNat).take F.toNat),w0,())
theorem k96:k7p.O:=prv Bs Tryz.func142 .no (kcu.c c0) (Q:=∀(B F J:Int)(w0:Li),0<=B/\0<=F/\B.toNat+F.toNat<=w0.length/\w0.length<=1000000->∀r0:Bool,decide (J∈(w0.drop B.toNat).take F.toNat)=r0->∀e0:Li,w0=e0->(0<=(B.toNat:Int)/\0<=(F.toNat:Int)/\(B.toNat:Int).toNat+(F.toNat:Int).toNat<=w0.length/\w0.length<=1000000)/\let U:Int:=idxI ((w0.drop (B.toNat:Int).toNat).take (F.toNat:Int).toNat) J
decide (0<=U)=r0/\w0=e0)<|by
 rintro B F J w0 h _ rfl _ rfl;have h':=h;obtain⟨X,h1,Y,Z⟩:=h;obtain⟨o,rfl⟩:=qm X;obtain⟨n,rfl⟩:=qm h1;refine⟨h',?_,rfl⟩;simp only[qv];unfold idxI;by_cases M:J∈(w0.drop o).take n;.simp[M]
 .simp[M]
def ka1:Ct:=.tp 106 [.st 3] [.bool] [] λ(B:wh)=>(vAmounts B,())
theorem kc1:ka1.O:=qtv Bs Tryz.func106 .no c0 (Q:=∀B,∀r0,vAmounts B=r0->iD (4294967295<B.wJ) (false=r0) (iD (4294967295<B.wL) (false=r0) (iD (4294967295<B.Fee) (false=r0) (let F:=decide (18446744069414584321<=B.wQ)
iT F (false=r0) (iD (18446744069414584321<=B.wK) (false=r0) (iD (0<B.wJ) ((B.wL==0)=r0) (iT ((B.wC.length:Int)==0) (false=r0) (iT (B.wK !=0) (false=r0) (iD (0<B.wL) (true=r0) ((B.wQ==0)=r0))))))))))<|by
 rintro B _ rfl;refine ?_;unfold vAmounts;try simp only[]
 repeat'(apply qaa<;>intro h)
 all_goals simp only[qy,beq_iff_eq,bne_iff_ne,bne_eq_false_iff_eq,Int.natCast_eq_zero,qch]at*
 all_goals grind
def ke9:Ct:=.gp 201 [oq,yqu] [yqi] [] λ(B:Li)(F:Int)=>(B.length<=9223372036854775807,idxI B F,())
theorem ki6:ke9.O:=qrv Bs Tryz.func201 (rA 0 (lA (oB [8] [oa]) .no)) c0 (Q:=∀B F,B.length<=9223372036854775807->∀r0,idxI B F=r0->∃U X,U 0/\∀b1,U b1->iF b1 B.length (iT (F==ix B b1) (b1=r0) (ss1 U X b1 (i64.wrap (b1+1)))) (-1=r0))<|by
 rintro B F h _ rfl;refine⟨λi=>0<=i/\i<=B.length/\F∉B.take i.toNat,λi=>(B.length-i).toNat,⟨by omega,by omega,by simp⟩,?_⟩;rintro i⟨J,Z,M⟩;refine⟨λh=>?_,λh=>?_⟩
 .have h:=qc h;refine⟨J,h,λe=>?_,λe=>?_⟩
  .have e:F=ix B i:=by simpa using e
   unfold idxI;rw[qg (by rw[e];exact ix_mem B i J h)];have:B.idxOf F=i.toNat:=by
    conv=>lhs;rw[<-qbi i.toNat B]
    rw[List.idxOf_append,qe M,drop_ix B i J h,<-e,List.idxOf_cons_self,qu];omega
   omega
  .have e:¬F=ix B i:=by simpa using e
   rw[inc i B.length J h qqo];refine⟨⟨by omega,by omega,?_⟩,by(dsimp only;omega)⟩;rw[kg B i J h];simp only[qae,qah];exactλY=>Y.elim M e
 .have h:=qd h;rw[ql qqo]at M;unfold idxI;rw[qe M]
def kag:Ct:=.gp 142 [oq,yqu] [.bool] [] λ(B:Li)(F:Int)=>(B.length<=9223372036854775807,decide (F∈B),())
theorem kb5:kag.O:=qrv Bs Tryz.func142 .no (ki6.c c0) (Q:=∀B F,B.length<=9223372036854775807->∀r0,decide (F∈B)=r0->B.length<=9223372036854775807/\decide (0<=idxI B F)=r0)<|by
 rintro B F h _ rfl;refine⟨h,?_⟩;unfold idxI;by_cases J:F∈B;.simp[J]
 .simp[J]
def kda:Ct:=.tp 104 [oq] [.bool] [] λ(B:Li)=>(vMarks B,())
theorem ken:kda.O:=qtv Bs Tryz.func104 (rA 1 (lA (oB [10] [oa]) .no)) (kb5.c c0) (Q:=∀B,∀r0,vMarks B=r0->iD (4<(B.length:Int)) (false=r0) (∃(X:oD)(M1:oG),X 0/\∀b1,X b1->iF b1 B.length (let v1:=decide (18446744069414584321<=ix B b1)
iT v1 (false=r0) (0<=b1/\b1<=B.length/\(B.take b1.toNat).length<=9223372036854775807/\let r2:=decide (ix B b1∈B.take b1.toNat)
iT r2 (false=r0) (ss1 X M1 b1 (i64.wrap (b1+1))))) (true=r0)))<|by
 rintro B _ rfl;refine⟨λh=>?_,λh=>?_⟩;.have h:=qc h;unfold vMarks;rw[qat qqo];rfl
 .have h:=qd h;refine⟨λi=>0<=i/\i<=B.length/\(∀x∈B.take i.toNat,x<18446744069414584321)/\(B.take i.toNat).Nodup,λi=>(B.length-i).toNat,⟨by omega,by omega,by simp,by simp⟩,?_⟩;rintro i⟨J,g1,Y,Z⟩;refine⟨λF=>?_,λF=>?_⟩
  .have F:=qc F;have hm:=ix_mem B i J F;refine⟨J,F,λe=>?_,λe=>⟨J,by omega,by simp;omega,λM=>?_,λM=>?_⟩⟩;.have e:=qc e;unfold vMarks;have:B.all (λx=>decide (x<18446744069414584321))=false:=qcy.2 ⟨_,hm,by simp;omega⟩;rw[this];simp
   .have M:=qc M;unfold vMarks;have:¬B.Nodup:=by intro hn;rw[<-qbi i.toNat B,drop_ix B i J F]at hn;have:=(qci.1 hn).2.2 _ M _ (qev ..);exact this rfl
    rw[qat this];simp
   .have e:=qd e;have M:=qd M;rw[inc i B.length J F qqo];refine⟨⟨by omega,by omega,?_,?_⟩,by(dsimp only;omega)⟩
    .rw[kg B i J F];intro x U;rcases qae.1 U with U|U;.exact Y x U
     .have:x=ix B i:=by simpa using U
      omega
    .rw[kg B i J F];refine qci.2 ⟨Z,by simp,λa ha b hb=>?_⟩;have:b=ix B i:=by simpa using hb
     rintro rfl;exact M (this▸ha)
  .have F:=qd F;rw[ql qqo]at Y Z;unfold vMarks;have:B.all (λx=>decide (x<18446744069414584321))=true:=by simpa using Y
   rw[this,qao Z,qao qqo];rfl
def khk:Ct:=.tp 143 [.st 15] [.bool] [] λ(B:wBU)=>(vPoint B.a0 B.a1,())
theorem kiw:khk.O:=qtv Bs Tryz.func143 .no c0 (Q:=∀(B:wBU),∀r0:Bool,vPoint B.a0 B.a1=r0->iD (B.a0<18446744069414584321) (iD (B.a1<18446744069414584321) (iT (B.a0 !=0) (true=r0) ((B.a1 !=0)=r0)) (false=r0)) (false=r0))<|by rintro B _ rfl;refine ?_;unfold vPoint;refine⟨λh=>⟨λh1=>⟨λF=>?_,λF=>?_⟩,λh1=>?_⟩,λh=>?_⟩<;>simp_all<;>omega
def kfl:Ct:=.tp 105 [.sl (.st 2)] [.bool] [] λ(B:List wAt)=>(vOuts B,())
theorem kgk:kfl.O:=qtv Bs Tryz.func105 (rA 1 (lA (oB [12] [oa]) (rA 1 (.r 2 (.lp [] (oB [34] [oa]) .no))))) (kiw.c c0) (Q:=∀B,∀r0,vOuts B=r0->iD (4<(B.length:Int)) (false=r0) (∃I1 M1,I1 0/\∀b1,I1 b1->iF b1 B.length (let v1:=decide (18446744069414584321<=(ix B b1).wl)
iT v1 (false=r0) (let r2:=vPoint (wBU.mk (ix B b1).wAY (ix B b1).wAV).a0 (wBU.mk (ix B b1).wAY (ix B b1).wAV).a1
iT (!r2) (false=r0) (let v3:=(((ix B b1).wm).length:Int)!=3
iT v3 (false=r0) (∃(I2:oD)(M2:oG),I2 0/\∀f1,I2 f1->let v4:=decide (f1<((ix B b1).wm).length)
iT v4 (iR f1 ((ix B b1).wm).length (let v5:=decide (18446744069414584321<=ix (ix B b1).wm f1)
iT v5 (false=r0) (ss1 I2 M2 f1 (i64.wrap (f1+1))))) (ss1 I1 M1 b1 (i64.wrap (b1+1))))))) (true=r0)))<|by
 rintro B _ rfl;refine⟨λh=>?_,λh=>?_⟩;.have h:=qc h;unfold vOuts;rw[qat qqo];rfl
 .have h:=qd h;have bad:∀i,0<=i->i<(B.length:Int)->vOut (ix B i)=false->false=vOuts B:=by intro i h0 h1 hb;unfold vOuts;have:B.all vOut=false:=qcy.2 ⟨_,ix_mem B i h0 h1,by simp[hb]⟩;rw[this];simp
  refine⟨λi=>0<=i/\i<=B.length/\∀x∈B.take i.toNat,vOut x=true,λi=>(B.length-i).toNat,⟨by omega,by omega,by simp⟩,?_⟩;rintro i⟨g0,g1,g2⟩;refine⟨λJ=>?_,λJ=>?_⟩
  .have J:=qc J;have Y:=bad i g0 J;unfold vOut at Y;refine⟨g0,J,λe=>Y ?_,λe=>⟨λU=>Y ?_,λU=>⟨λX=>Y ?_,λX=>?_⟩⟩⟩;.have e:=qc e;rw[qat qqo];rfl
   .have U:vPoint (ix B i).wAY (ix B i).wAV=false:=by simpa using U
    simp[U]
   .have X:¬(ix B i).wm.length=3:=by
     have:¬((ix B i).wm.length:Int)=3:=by simpa using X
     omega
    simp[X]
   .have e:=qd e;have U:vPoint (ix B i).wAY (ix B i).wAV=true:=by simpa using U
    have X:(ix B i).wm.length=3:=by
     have:((ix B i).wm.length:Int)=3:=by simpa using X
     omega
    refine⟨λk=>0<=k/\k<=3/\∀x∈(ix B i).wm.take k.toNat,x<18446744069414584321,λk=>(3-k).toNat,⟨by omega,by omega,by simp⟩,?_⟩;rintro k⟨k0,k1,k2⟩;refine⟨λM=>?_,λM=>?_⟩
    .have M:=qc M;refine⟨k0,M,λZ=>Y ?_,λZ=>?_⟩;.have Z:=qc Z;have:(ix B i).wm.all (λn=>decide (n<18446744069414584321))=false:=qcy.2 ⟨_,ix_mem _ k k0 M,by simp;omega⟩;rw[this];simp
     .have Z:=qd Z;rw[inc k 3 k0 qqo qqo];refine⟨⟨by omega,by omega,?_⟩,by(dsimp only;omega)⟩;rw[kg _ k k0 M];intro x F;rcases qae.1 F with F|F;.exact k2 x F
      .have:x=ix (ix B i).wm k:=by simpa using F
       omega
    .have M:=qd M;rw[ql qqo]at k2;have hv:vOut (ix B i)=true:=(k98 _).2 ⟨by omega,U,X,k2⟩;have hi:=inc i B.length g0 J qqo;rw[hi];have aa:(0<=i+1/\i+1<=B.length/\∀x∈B.take (i+1).toNat,vOut x=true)/\(B.length-(i+1)).toNat<(B.length-i).toNat:=by
      refine⟨⟨by omega,by omega,?_⟩,by(first|omega|(dsimp only;omega))⟩;rw[kg B i g0 J];intro x F;rcases qae.1 F with F|F;.exact g2 x F
      .have:x=ix B i:=by simpa using F
       rw[this];exact hv
     exact aa
  .have J:=qd J;rw[ql qqo]at g2;unfold vOuts;have:B.all vOut=true:=by simpa using g2
   rw[this,qao qqo];rfl
def kok:Ct:=.tp 70 [.st 3] [yqi] [] λ(B:wh)=>(validE B,())
theorem k21:kok.O:=qtv Bs Tryz.func70 .no (ken.c (kgk.c (kc1.c c0))) (Q:=∀B,∀r0,validE B=r0->iT (! vMarks B.wC) (1=r0) (iT (! vOuts B.wB) (1=r0) (iT (! vAmounts B) (1=r0) (let F:=decide (18446744069414584321<=B.wX)
iT F (1=r0) (iD (B.wAG<0) (1=r0) (iD (1048576<B.wAG) (1=r0) (let J:=decide (1048576<(B.wAH.length:Int))
iT J (3=r0) (0=r0))))))))<|by unfold validE vRest;grind
def khn:Ct:=.b (gk 117 [oo,.agg yC1] yJ (.one oa)) [.st 3,yqi,yqi,yqi,yqi,yqi,yqu,yqi,yqi,yqu,yqi,yqi,oq,.sl (.st 12),yqu,oq,oq,.sl (.st 13),oq,ow] yN λ(p1:wh)(J M U X Y Z Ag Al Ah Ai Am:Int)(Ae:Li)(Af:List wA)(Ao:Int)(w1 w3:Li)(w4:List wT)(B:Li)(F:Lo)=>((∃c f,c<=800/\PI (PS.mk (wF.mk J M U X Y Z Ag Al Ah) (wI.mk Ai Am Ae) Af Ao w1 w3 w4 B F) c f)/\TR p1,(),λ_=>(chkS (PS.mk (wF.mk J M U X Y Z Ag Al Ah) (wI.mk Ai Am Ae) Af Ao w1 w3 w4 B F) p1,J,M,U,X,Y,Z,Ag,Al,Ah,Ai,Am,Ae,Af,Ao,w1,w3,w4,B,F,()))
theorem kif:khn.O:=pbv Bs Tryz.func117 (.r 3 (.nd [] (lA ⟨[5,2],[.map yqu .bool,.cells [.mp 0]],[33],[oa],[]⟩ .no) [] (.jn (oB [] []) [] .no [] .no))) (k21.c (k5u.c (k96.c (ksd.c (k6y.c c0))))) (Q:=∀M Aa Z Ad Ac Aj Ak X Al Ah Ai Am Ae Af Ao Y F U B J,(∃c f,c<=800/\PI (PS.mk (wF.mk Aa Z Ad Ac Aj Ak X Al Ah) (wI.mk Ai Am Ae) Af Ao Y F U B J) c f)/\TR M->∀R,()=R->iT (validE M !=0) (lz U/\lz F/\lz Y/\validE M=(chkS (PS.mk (wF.mk Aa Z Ad Ac Aj Ak X Al Ah) (wI.mk Ai Am Ae) Af Ao Y F U B J) M:Int)/\Aa=Aa/\Z=Z/\Ad=Ad/\Ac=Ac/\Aj=Aj/\Ak=Ak/\X=X/\Al=Al/\Ah=Ah/\Ai=Ai/\Am=Am/\Ae=Ae/\Af=Af/\Ao=Ao/\Y=Y/\F=F/\U=U/\B=B/\J=J) (let v1:Bool:=decide (M.wAG<i64.wrap ((U.length:Int)+1))
iT v1 (lz U/\lz F/\lz Y/\14=(chkS (PS.mk (wF.mk Aa Z Ad Ac Aj Ak X Al Ah) (wI.mk Ai Am Ae) Af Ao Y F U B J) M:Int)/\Aa=Aa/\Z=Z/\Ad=Ad/\Ac=Ac/\Aj=Aj/\Ak=Ak/\X=X/\Al=Al/\Ah=Ah/\Ai=Ai/\Am=Am/\Ae=Ae/\Af=Af/\Ao=Ao/\Y=Y/\F=F/\U=U/\B=B/\J=J) (lz U/\lz F/\lz Y/\((1<=X/\X<=100)/\F.length<=1000000)/\let r2:Int:=((F.length-(F.length-X.toNat):Nat):Int)
(0<=((((F.length-X.toNat:Nat):Int).toNat:Nat):Int)/\0<=(r2.toNat:Int)/\((((F.length-X.toNat:Nat):Int).toNat:Nat):Int).toNat+(r2.toNat:Int).toNat<=F.length/\F.length<=1000000)/\let r3:Bool:=decide (M.wX∈(F.drop ((((F.length-X.toNat:Nat):Int).toNat:Nat):Int).toNat).take (r2.toNat:Int).toNat)
iT (!r3) (lz U/\lz F/\lz Y/\11=(chkS (PS.mk (wF.mk Aa Z Ad Ac Aj Ak X Al Ah) (wI.mk Ai Am Ae) Af Ao Y F U B J) M:Int)/\Aa=Aa/\Z=Z/\Ad=Ad/\Ac=Ac/\Aj=Aj/\Ak=Ak/\X=X/\Al=Al/\Ah=Ah/\Ai=Ai/\Am=Am/\Ae=Ae/\Af=Af/\Ao=Ao/\Y=Y/\F=F/\U=U/\B=B/\J=J) (∃(I1:Int->Li->Lo->Prop)(M1:Int->Li->Lo->Nat),I1 0 B J/\∀b1 f1 i1,I1 b1 f1 i1->iF b1 M.wC.length (i1=trs f1/\iT (decide (ix M.wC b1∈f1)) (lz U/\lz F/\lz Y/\12=(chkS (PS.mk (wF.mk Aa Z Ad Ac Aj Ak X Al Ah) (wI.mk Ai Am Ae) Af Ao Y F U B J) M:Int)/\Aa=Aa/\Z=Z/\Ad=Ad/\Ac=Ac/\Aj=Aj/\Ak=Ak/\X=X/\Al=Al/\Ah=Ah/\Ai=Ai/\Am=Am/\Ae=Ae/\Af=Af/\Ao=Ao/\Y=Y/\F=F/\U=U/\f1=B/\i1=J) (ss3 I1 M1 b1 (i64.wrap (b1+1)) f1 f1 i1 i1)) (∀J1:Prop,((let v5:Bool:=decide (u64.wrap (Ao+M.wJ)<u64.wrap (M.wL+M.Fee))
iT v5 (lz U/\lz F/\lz Y/\13=(chkS (PS.mk (wF.mk Aa Z Ad Ac Aj Ak X Al Ah) (wI.mk Ai Am Ae) Af Ao Y F U B J) M:Int)/\Aa=Aa/\Z=Z/\Ad=Ad/\Ac=Ac/\Aj=Aj/\Ak=Ak/\X=X/\Al=Al/\Ah=Ah/\Ai=Ai/\Am=Am/\Ae=Ae/\Af=Af/\Ao=Ao/\Y=Y/\F=F/\U=U/\f1=B/\i1=J) (let v6:Int:=i64.wrap ((Y.length:Int)+(M.wB.length:Int))
0<=Z/\iD (ishl .i64 1 Z<v6) (lz U/\lz F/\lz Y/\16=(chkS (PS.mk (wF.mk Aa Z Ad Ac Aj Ak X Al Ah) (wI.mk Ai Am Ae) Af Ao Y F U B J) M:Int)/\Aa=Aa/\Z=Z/\Ad=Ad/\Ac=Ac/\Aj=Aj/\Ak=Ak/\X=X/\Al=Al/\Ah=Ah/\Ai=Ai/\Am=Am/\Ae=Ae/\Af=Af/\Ao=Ao/\Y=Y/\F=F/\U=U/\f1=B/\i1=J) (lz U/\lz F/\lz Y/\0=(chkS (PS.mk (wF.mk Aa Z Ad Ac Aj Ak X Al Ah) (wI.mk Ai Am Ae) Af Ao Y F U B J) M:Int)/\Aa=Aa/\Z=Z/\Ad=Ad/\Ac=Ac/\Aj=Aj/\Ak=Ak/\X=X/\Al=Al/\Ah=Ah/\Ai=Ai/\Am=Am/\Ae=Ae/\Af=Af/\Ao=Ao/\Y=Y/\F=F/\U=U/\f1=B/\i1=J)))->J1)->iD (0<M.wJ) ((OkA (wAR.mk Af).wE/\U64 M.wJ/\U64 M.wK)/\let r4:=debitA (wAR.mk Af).wE M.wQ M.wJ M.wK
iT (r4.2 !=0) (lz U/\lz F/\lz Y/\r4.2=(chkS (PS.mk (wF.mk Aa Z Ad Ac Aj Ak X Al Ah) (wI.mk Ai Am Ae) Af Ao Y F U B J) M:Int)/\Aa=Aa/\Z=Z/\Ad=Ad/\Ac=Ac/\Aj=Aj/\Ak=Ak/\X=X/\Al=Al/\Ah=Ah/\Ai=Ai/\Am=Am/\Ae=Ae/\Af=Af/\Ao=Ao/\Y=Y/\F=F/\U=U/\f1=B/\i1=J) J1) J1)))))<|by
 rintro M Aa Z Ad Ac Aj Ak X Al Ah Ai Am Ae Af Ao Y F U B J h R hR;obtain⟨⟨c,f,hc,hp⟩,ht⟩:=h;have hb:OkA Af:=hp.b.1;have hv:J=trs B:=hp.v;have h1:1<=X:=hp.w1;have h2:X<=100:=hp.w2;have ae:1<=Z:=hp.d1;have ag:Z<=12:=hp.d2;have ah:F.length=U.length+1:=hp.rl;have ai:U.length<=c:=hp.p;have ac:Y.length<=2^Z.toNat:=hp.ll;have aa:=pow12 Z.toNat qqo;generalize ab:chkS (PS.mk (wF.mk Aa Z Ad Ac Aj Ak X Al Ah) (wI.mk Ai Am Ae) Af Ao Y F U B J) M=R;have hR:chk (U.length:Int) (ancL F X) B Af Ao Y.length Z M=R:=ab;clear ab;unfold chk at hR;refine⟨λe=>?_,λe=>?_⟩
 .have e:validE M≠0:=by simpa using e
  rw[qg e]at hR;subst hR;exact by repeat' first|apply qaa|exact rfl|exact qo
 have e:validE M=0:=by simpa using e
 have vt:=(kj M).1 e;have aj:=vt.ol;have ak:=vt.ml;rw[qe (by rw[e];decide)]at hR;have ei:i64.wrap ((U.length:Int)+1)=(U.length:Int)+1:=ko _ qqo qqo;rw[ei];refine⟨λe2=>?_,λe2=>⟨rfl,rfl,rfl,⟨⟨h1,h2⟩,by omega⟩,?_⟩⟩;.rw[qg (qc e2)]at hR;subst hR;exact by repeat' first|apply qaa|exact rfl|exact qo
 rw[qe (qd e2)]at hR;have eA:(F.drop (F.length-X.toNat)).take (F.length-(F.length-X.toNat))=ancL F X:=by unfold ancL;exact ql (by rw[qal];omega)
 simp only[qv,eA];refine⟨⟨by omega,by omega,by omega,by omega⟩,λe3=>?_,λe3=>?_⟩
 .have e3:M.wX∉ancL F X:=by simpa using e3
  rw[qg e3]at hR;subst hR;exact by repeat' first|apply qaa|exact rfl|exact qo
 have e3:¬M.wX∉ancL F X:=by simpa using e3
 rw[qe e3]at hR;refine⟨λa k v=>(B=k/\J=v)/\∃i:Nat,a=(i:Int)/\i<=M.wC.length/\((M.wC.take i).any λm=>decide (m∈B))=false,λa _ _=>(M.wC.length-a).toNat,⟨⟨rfl,rfl⟩,0,rfl,by omega,rfl⟩,?_⟩;rintro _ _ _⟨⟨rfl,rfl⟩,i,rfl,hi,hm⟩;refine⟨λe4=>?_,λe4 J1 j=>?_⟩
 .have e4:i<M.wC.length:=by have:=qc e4;omega
  rw[ix_get _ _ e4,inc_i64 _ qqo];refine⟨by omega,by omega,hv,λe5=>?_,λe5=>⟨⟨⟨rfl,rfl⟩,i+1,rfl,by omega,?_⟩,by(dsimp only;omega)⟩⟩;.rw[qg (List.any_eq_true.2 ⟨_,qz e4,e5⟩)]at hR;subst hR;exact by repeat' first|apply qaa|exact rfl|exact qo
  .rw[qt e4,List.any_append,hm,List.any_cons,e5];rfl
 .have e4:i=M.wC.length:=by have:=qd e4;omega
  subst e4;rw[qcb]at hm;have j1:(M.wC.any λm=>decide (m∈B))=false->¬(0<M.wJ/\(debitA Af M.wQ M.wJ M.wK).2≠0)->J1:=by
   intro g1 g2;rw[qe (by rw[g1];decide),qe g2]at hR;refine j ⟨λe4=>?_,λe4=>⟨by omega,?_⟩⟩;.rw[qg (qc e4)]at hR;subst hR;exact by repeat' first|apply qaa|exact rfl|exact qo
   .rw[qe (qd e4)]at hR;obtain⟨d,hd⟩:=qm (show 0<=Z by omega);have ad:Z.toNat=d:=by omega
    rw[ad]at hR aa ac;rw[ko _ qqo qqo,show ishl .i64 1 Z=((2^d:Nat):Int)by rw[hd];exact shl1 d qqo];refine⟨λe5=>?_,λe5=>?_⟩;.rw[qg (by have:=qc e5;omega)]at hR;subst hR;exact by repeat' first|apply qaa|exact rfl|exact qo
    .rw[qe (by have:=qd e5;omega)]at hR;subst hR;exact by repeat' first|apply qaa|exact rfl|exact qo
  refine⟨λe5=>⟨⟨hb,ht.d,ht.n⟩,λe6=>?_,λe6=>j1 hm ?_⟩,λe5=>j1 hm ?_⟩
  .have e5:=qc e5;have e6:(debitA Af M.wQ M.wJ M.wK).2≠0:=by simpa using e6
   rw[qe (by rw[hm];decide),qg ⟨e5,e6⟩]at hR;subst hR;exact by repeat' first|apply qaa|exact rfl|exact qo
  .have e6:(debitA Af M.wQ M.wJ M.wK).2=0:=by simpa using e6
   exactλhh=>hh.2 e6
  .have e5:=qd e5;exactλhh=>e5 hh.1
def koh:Ct:=.g (gk 174 [oo,oe,oc] yI1 (.one oc)) [oq,.bool,oq,ow] [.bool,oq,ow] [] λ(J:Li)(M:Bool)(B:Li)(F:Lo)=>(F=trs B/\J.length<=1000000,J.any λm=>decide (m∈B)==M,B,F,())
theorem kdq:koh.O:=prv Bs Tryz.func174 (rA 0 (lA (oB [11] [oa]) .no)) c0 (Q:=∀J M B F,F=trs B/\J.length<=1000000->∀r0,J.any λm=>decide (m∈B)==M=r0->∀e1k,B=e1k->∀e1v,F=e1v->∃U Y,U 0/\∀b1,U b1->iF b1 J.length (B.length=F.length/\let Z:=mVal (BEq.beq (ix J b1)) B F false
iT (Z==M) (true=r0/\B=e1k/\F=e1v) (ss1 U Y b1 (i64.wrap (b1+1)))) (false=r0/\B=e1k/\F=e1v))<|by
 rintro J M B F h _ rfl _ rfl _ rfl;obtain⟨h,hl⟩:=h;subst h;refine⟨λa=>∃i:Nat,a=i/\i<=J.length/\(J.drop i).any λm=>decide (m∈B)==M=J.any λm=>decide (m∈B)==M,λa=>(J.length-a).toNat,⟨0,rfl,by omega,rfl⟩,?_⟩;rintro _⟨i,rfl,hi,he⟩;refine⟨λe=>?_,λe=>?_⟩
 .have e:i<J.length:=by have:=qc e;omega
  rw[ix_get _ _ e,sVal,inc_i64 _ qqo];rw[qbb e,List.any_cons]at he;refine⟨by omega,by omega,by simp[trs],λX=>?_,λX=>?_⟩;.rw[X,Bool.true_or]at he;rw[<-he];exact⟨rfl,rfl,rfl⟩
  .rw[X,qfa]at he;exact⟨⟨i+1,rfl,by omega,he⟩,by(dsimp only;omega)⟩
 .have e:i=J.length:=by have:=qd e;omega
  subst e;rw[qfr]at he;rw[<-he];exact⟨rfl,rfl,rfl⟩
def k8y:Ct:=.gp 175 [oq] [.bool] [] λ(B:Li)=>(B.length<=1000000,!decide B.Nodup,())
theorem k41:k8y.O:=qrv Bs Tryz.func175 (rA 1 (lA ⟨[0],yP1,[9],[oa],[]⟩ .no)) c0 (Q:=∀B,B.length<=1000000->∀r0,(!decide B.Nodup)=r0->∃J X,J 0 [] []/\∀b1 f1 i1,J b1 f1 i1->iF b1 B.length (f1.length=i1.length/\let Y:=mVal (BEq.beq (ix B b1)) f1 i1 false
iT Y (true=r0) (f1.length=i1.length/\let Z:Li:=mPutK (BEq.beq (ix B b1)) f1 (ix B b1)
let v3:=mPutV (BEq.beq (ix B b1)) f1 i1 true
ss3 J X b1 (i64.wrap (b1+1)) f1 Z i1 v3)) (false=r0))<|by
 rintro B h _ rfl;refine⟨λa k v=>∃i:Nat,a=i/\i<=B.length/\k=B.take i/\v=trs k/\k.Nodup,λa _ _=>(B.length-a).toNat,⟨0,rfl,by omega,rfl,rfl,qex⟩,?_⟩;rintro _ _ _⟨i,rfl,hi,rfl,rfl,M⟩;refine⟨λe=>?_,λe=>?_⟩
 .have e:i<B.length:=by have:=qc e;omega
  rw[ix_get _ _ e,sVal,inc_i64 _ qqo];refine⟨by omega,by omega,by simp[trs],λF=>?_,λF=>⟨by simp[trs],?_⟩⟩
  .have F:=qc F;have:¬B.Nodup:=λU=>by rw[<-qbi i B,qbb e,qci]at U;exact U.2.2 _ F B[i] qev rfl
   simp[this]
  .have F:=qd F;obtain⟨q1,q2⟩:=sPut F;rw[q1,q2,<-qt];refine⟨⟨i+1,rfl,by omega,rfl,rfl,?_⟩,by(dsimp only;omega)⟩;rw[qt e,qci];exact⟨M,by simp,λa ha b hb=>by rw[qah.1 hb];rintro rfl;exact F ha⟩
 .have e:i=B.length:=by have:=qd e;omega
  subst e;rw[qcb]at M;simp[M]
def kqq:Ct:=.g (gk 169 [oo,oe] yI1 (.one oa)) [oq,oq,ow] [yqi,oq,ow] [] λ(F B:Li)(J:Lo)=>(J=trs B/\F.length<=1000000,(addS F B).1,(addS F B).2,trs (addS F B).2,())
theorem ksx:kqq.O:=prv Bs Tryz.func169 (rA 2 (lA ⟨[1],yP1,[25],[oa],[]⟩ .no)) (kdq.c (k41.c c0)) (Q:=∀F B J,J=trs B/\F.length<=1000000->∀r0,(addS F B).1=r0->∀e1k,(addS F B).2=e1k->∀e1v,trs (addS F B).2=e1v->(J=trs B/\F.length<=1000000)/\let r1:=F.any λm=>decide (m∈B)==true
iT r1 (12=r0/\B=e1k/\J=e1v) (F.length<=1000000/\iT (!decide F.Nodup) (12=r0/\B=e1k/\J=e1v) (∃Y M1,Y 0 B J/\∀b1 f1 i1,Y b1 f1 i1->iF b1 F.length (f1.length=i1.length/\let v2:=mPutK (BEq.beq (ix F b1)) f1 (ix F b1)
let v3:=mPutV (BEq.beq (ix F b1)) f1 i1 true
ss3 Y M1 b1 (i64.wrap (b1+1)) f1 v2 i1 v3) (0=r0/\f1=e1k/\i1=e1v))))<|by
 rintro F B J h _ rfl _ rfl _ rfl;obtain⟨h,Z⟩:=h;subst h;have ea:F.any λm=>decide (m∈B)==true=F.any λm=>decide (m∈B):=by congr 1;funext m;simp
 refine⟨⟨rfl,Z⟩,?_⟩;rw[ea];refine⟨λe=>?_,λe=>⟨Z,λX=>?_,λX=>?_⟩⟩
 .have:addS F B=(12,B):=by unfold addS;rw[e];rfl
  rw[this];exact⟨rfl,rfl,rfl⟩
 .have:addS F B=(12,B):=by unfold addS;rw[e,X];rfl
  rw[this];exact⟨rfl,rfl,rfl⟩
 .have hA:addS F B=(0,B++F):=by unfold addS;rw[e,X];rfl
  have hn:F.Nodup:=by simpa using X
  rw[hA];refine⟨λa k v=>∃i:Nat,a=i/\i<=F.length/\k=B++F.take i/\v=trs k,λa _ _=>(F.length-a).toNat,⟨0,rfl,by omega,by simp,by simp⟩,?_⟩;rintro _ _ _⟨i,rfl,hi,rfl,rfl⟩;refine⟨λM=>?_,λM=>?_⟩
  .have M:i<F.length:=by have:=qc M;omega
   rw[ix_get _ _ M,inc_i64 _ qqo];have U:F[i]∉B++F.take i:=by
    intro U;rcases qae.1 U with U|U;.have:=List.any_eq_false.1 e F[i] (qz M);simp[U]at this
    .rw[<-qbi i F,qbb M,qci]at hn;exact hn.2.2 _ U F[i] qev rfl
   obtain⟨q1,q2⟩:=sPut U;rw[q1,q2];refine⟨by omega,by omega,by simp[trs],⟨i+1,rfl,by omega,?_,rfl⟩,by(dsimp only;omega)⟩;rw[qt M,qn]
  .have M:i=F.length:=by have:=qd M;omega
   subst M;rw[qcb];exact⟨rfl,rfl,rfl⟩
def kai:Ct:=.gp 97 [.st 9] [.bool] [] λ(B:wI)=>(FV B,true,())
theorem k51:kai.O:=qrv Bs Tryz.func97 (rA 2 (lA (oB [36] [oa]) .no)) c0 (Q:=∀B,FV B->∀r0,true=r0->iD (B.wH<1) (false=r0) (iD (12<B.wH) (false=r0) (iD (B.wAF<0) (false=r0) (0<=B.wH/\let Z:=decide (ishl .i64 1 B.wH<B.wAF)
iT Z (false=r0) (let v2:=B.wAJ.length !=i64.wrap (B.wH+1)
iT v2 (false=r0) (∃J M,J 0/\∀b1,J b1->iF b1 B.wAJ.length (let v3:=decide (18446744069414584321<=ix B.wAJ b1)
iT v3 (false=r0) (iT (ix B.wAJ b1 !=0) (0<=b1/\let v4:=iand .i64 (ishr .i64 B.wAF b1) 1==0
iT v4 (false=r0) (ss1 J M b1 (i64.wrap (b1+1)))) (ss1 J M b1 (i64.wrap (b1+1))))) (true=r0)))))))<|by
 rintro B h _ rfl;obtain⟨d1,d2,c0,c1,ll,u,z⟩:=h;obtain⟨d,U⟩:=qm (show 0<=B.wH by omega);obtain⟨n,X⟩:=qm c0;rw[U,qv]at c1 ll;rw[X,qv]at z;have hp:=pow12 d qqo;refine⟨λe=>by have:=qc e;omega,λ_=>⟨λe=>by have:=qc e;omega,λ_=>⟨λe=>by have:=qc e;omega,λ_=>⟨by omega,?_⟩⟩⟩⟩;rw[U,X,shl1 d qqo,ko _ qqo qqo];refine⟨λe=>by have:=qc e;omega,λ_=>⟨λe=>?_,λ_=>?_⟩⟩
 .have e:¬B.wAJ.length=(d:Int)+1:=by simpa using e
  omega
 refine⟨λa=>∃i:Nat,a=i/\i<=B.wAJ.length,λa=>(B.wAJ.length-a).toNat,⟨0,rfl,by omega⟩,?_⟩;rintro _⟨i,rfl,hi⟩;refine⟨λF=>?_,λ_=>rfl⟩;have F:i<B.wAJ.length:=by have:=qc F;omega
 have hx:=u _ (qz F);rw[ix_get _ _ F,inc_i64 _ qqo,bit1 n i qqo qqo];have next:(∃j:Nat,((i+1:Nat):Int)=(j:Int)/\j<=B.wAJ.length)/\((B.wAJ.length:Int)-((i+1:Nat):Int)).toNat<((B.wAJ.length:Int)-(i:Int)).toNat:=⟨⟨i+1,rfl,by omega⟩,by omega⟩;refine⟨by omega,by omega,λe=>by have:=qc e;omega,λ_=>⟨λe=>⟨by omega,λY=>?_,λ_=>next⟩,λ_=>next⟩⟩;have e:B.wAJ[i]≠0:=by simpa using e
 have Y:((n/2^i%2:Nat):Int)=0:=by simpa using Y
 refine(e (z i F ?_)).elim;unfold bitN;generalize n/2^i%2=q at*;have:q=0:=by omega
 rw[this];rfl
def kg6:Ct:=.gp 199 [.st 10] [.bool] [] λ(B:wAX)=>(B.P=18446744069414584321,true,())
theorem k1p:kg6.O:=qrv Bs Tryz.func199 .no c0 (Q:=∀(B:wAX),B.P=18446744069414584321->∀r0:Bool,(true:Bool)=r0->((B.P==18446744069414584321)=true->((B.P==18446744069414584321)=true->true=r0)/\((B.P==18446744069414584321)=false->false=r0))/\((B.P==18446744069414584321)=false->((B.P==17)=true->((B.P==17)=true->true=r0)/\((B.P==17)=false->false=r0))/\((B.P==17)=false->((B.P==97)=true->((B.P==97)=true->true=r0)/\((B.P==97)=false->false=r0))/\((B.P==97)=false->((B.P==193)=true->((B.P==193)=true->true=r0)/\((B.P==193)=false->false=r0))/\((B.P==193)=false->((B.P==257)=true->((B.P==257)=true->true=r0)/\((B.P==257)=false->false=r0))/\((B.P==257)=false->((B.P==12289)=true->((B.P==12289)=true->true=r0)/\((B.P==12289)=false->false=r0))/\((B.P==12289)=false->((B.P==65537)=true->true=r0)/\((B.P==65537)=false->false=r0))))))))<|by rintro B h _ rfl;refine ?_;simp[h]
def kmp:Ct:=.gp 350 yT1 [yqu] [] λ(J:wAX)(B F:Int)=>(J.P=18446744069414584321/\(0<=B/\B<18446744069414584321)/\0<=F/\F<18446744069414584321,((B+F)%18446744069414584321:Int),())
theorem kq6:kmp.O:=qrx Bs [] Tryz.func350 (rA 1 (oC 22)) (x1 x419_ok x0) c0 (Q:=∀(J:wAX)B F,J.P=18446744069414584321/\(0<=B/\B<18446744069414584321)/\0<=F/\F<18446744069414584321->∀r0,(B+F)%18446744069414584321=r0->(0<=B/\0<=F/\0<=(0:Int)/\(0:Int)<=1)/\let U:Int:=(B+F+(0:Int))%18446744073709551616
let Z:Int:=(B+F+(0:Int))/18446744073709551616
∀M:oE,(∀(Y:Bool),iT Y (u64.wrap (U-J.P)=r0) (U=r0)->M Y)->iT (Z !=0) (M true) (M (decide (J.P<=U))))<|by
 rintro J B F h _ rfl;obtain⟨X,h1,h2⟩:=h;refine⟨by omega,λM j=>⟨λh=>j _ ⟨λ_=>?_,λh=>by simp at h⟩,λh=>j _ ⟨λg=>?_,λg=>?_⟩⟩⟩
 .have h:(B+F+0)/18446744073709551616≠0:=by simpa using h
  rw[X,u64w];omega
 .have h:(B+F+0)/18446744073709551616=0:=by simpa using h
  have g:=qc g;rw[X]at g⊢;rw[u64w];omega
 .have h:(B+F+0)/18446744073709551616=0:=by simpa using h
  have g:=qd g;rw[X]at g;omega
def kct:Ct:=.gp 351 [.st 10,yqu] [yqu] [] λ(B:wAX)(F:Int)=>(0<B.P/\0<=F,F%B.P,())
theorem k29:kct.O:=qrv Bs Tryz.func351 .no c0 (Q:=∀(B:wAX)(F:Int),0<B.P/\0<=F->∀r0:Int,F%B.P=r0->iD (B.P<=F) (B.P≠0/\Int.tmod F B.P=r0) (F=r0))<|by rintro B F h _ rfl;refine⟨λh1=>⟨by omega,tmod_nn _ _ h.2⟩,λh1=>?_⟩;simp at h1;rw[qdq qqo qqo]
def kmd:Ct:=.gp 278 yT1 [yqu] [] λ(J:wAX)(B F:Int)=>(J.P=18446744069414584321/\U64 B/\U64 F,((B+F)%18446744069414584321:Int),())
theorem k6f:kmd.O:=qrv Bs Tryz.func278 .no (k1p.c (k29.c (kq6.c c0))) (Q:=∀(B:wAX)(F J:Int),B.P=18446744069414584321/\U64 F/\U64 J->∀r0:Int,(F+J)%18446744069414584321=r0->B.P=18446744069414584321/\iT (!true) (0=r0) ((0<B.P/\0<=F)/\(0<B.P/\0<=J)/\(B.P=18446744069414584321/\(0<=F%B.P/\F%B.P<18446744069414584321)/\0<=J%B.P/\J%B.P<18446744069414584321)/\let U:Int:=(F%B.P+J%B.P)%18446744069414584321
U=r0))<|by rintro B F J h _ rfl;obtain⟨M,h1,X⟩:=h;refine⟨M,?_⟩;simp only[M];refine⟨λh=>by simp at h,λ_=>⟨by omega,by omega,⟨by trivial,by omega,by omega⟩,?_⟩⟩;omega
def kjj:Ct:=.gp 271 [yqu] [yqi] [] λ(B:Int)=>(U64 B,len64 B,())
theorem k9x:kjj.O:=qrv Bs Tryz.func271 (.r 0 (.jn (oB [0,2] [ou,oa]) [] .no [] (.jn (oB [0,2] [ou,oa]) [] .no [] (.jn (oB [0,2] [ou,oa]) [] .no [] .no)))) c0 (Q:=∀F,U64 F->∀r0,len64 F=r0->∀U:oF,(∀Z f1,(∀X:oF,(∀i1 k1,(∀Y:oF,(∀(l1 m1:Int),((0<=IntKind.u8.wrap l1/\IntKind.u8.wrap l1<((⟨#[0,1,2,2,3,3,3,3,4,4,4,4,4,4,4,4,5,5,5,5,5,5,5,5,5,5,5,5,5,5,5,5,6,6,6,6,6,6,6,6,6,6,6,6,6,6,6,6,6,6,6,6,6,6,6,6,6,6,6,6,6,6,6,6,7,7,7,7,7,7,7,7,7,7,7,7,7,7,7,7,7,7,7,7,7,7,7,7,7,7,7,7,7,7,7,7,7,7,7,7,7,7,7,7,7,7,7,7,7,7,7,7,7,7,7,7,7,7,7,7,7,7,7,7,7,7,7,7,8,8,8,8,8,8,8,8,8,8,8,8,8,8,8,8,8,8,8,8,8,8,8,8,8,8,8,8,8,8,8,8,8,8,8,8,8,8,8,8,8,8,8,8,8,8,8,8,8,8,8,8,8,8,8,8,8,8,8,8,8,8,8,8,8,8,8,8,8,8,8,8,8,8,8,8,8,8,8,8,8,8,8,8,8,8,8,8,8,8,8,8,8,8,8,8,8,8,8,8,8,8,8,8,8,8,8,8,8,8,8,8,8,8,8,8,8,8,8,8,8,8,8,8,8,8,8,8]⟩:ByteArray).size:Int))/\let v1:Int:=byteAt (⟨#[0,1,2,2,3,3,3,3,4,4,4,4,4,4,4,4,5,5,5,5,5,5,5,5,5,5,5,5,5,5,5,5,6,6,6,6,6,6,6,6,6,6,6,6,6,6,6,6,6,6,6,6,6,6,6,6,6,6,6,6,6,6,6,6,7,7,7,7,7,7,7,7,7,7,7,7,7,7,7,7,7,7,7,7,7,7,7,7,7,7,7,7,7,7,7,7,7,7,7,7,7,7,7,7,7,7,7,7,7,7,7,7,7,7,7,7,7,7,7,7,7,7,7,7,7,7,7,7,8,8,8,8,8,8,8,8,8,8,8,8,8,8,8,8,8,8,8,8,8,8,8,8,8,8,8,8,8,8,8,8,8,8,8,8,8,8,8,8,8,8,8,8,8,8,8,8,8,8,8,8,8,8,8,8,8,8,8,8,8,8,8,8,8,8,8,8,8,8,8,8,8,8,8,8,8,8,8,8,8,8,8,8,8,8,8,8,8,8,8,8,8,8,8,8,8,8,8,8,8,8,8,8,8,8,8,8,8,8,8,8,8,8,8,8,8,8,8,8,8,8,8,8,8,8,8,8]⟩:ByteArray) (IntKind.u8.wrap l1)
let v2:Int:=i64.wrap (m1+i64.wrap v1)
v2=r0)->Y l1 m1)->iD (256<=i1) (Y (ishr .u64 i1 8) (i64.wrap (k1+8))) (Y i1 k1))->X i1 k1)->iD (65536<=Z) (X (ishr .u64 Z 16) (i64.wrap (f1+16))) (X Z f1))->U Z f1)->iD (4294967296<=F) (U (ishr .u64 F 32) 32) (U F 0))<|by
 rintro F h _ rfl;intro U j1;have j1:∀s0 B:Int,0<=s0->s0<4294967296->0<=B->B<=32->len64 F=B+len64 s0->U s0 B:=λs0 B J h1 h2 h3 M=>by
  refine j1 _ _ λX j2=>?_;have j2:∀s0 B:Int,0<=s0->s0<65536->0<=B->B<=48->len64 F=B+len64 s0->X s0 B:=λs0 B J h1 h2 h3 M=>by
   refine j2 _ _ λY j3=>?_;have j3:∀s0 B:Int,0<=s0->s0<256->0<=B->B<=56->len64 F=B+len64 s0->Y s0 B:=λs0 B J h1 h2 h3 M=>by
    refine j3 _ _ ?_;have e:IntKind.u8.wrap s0=s0:=by rw[u8w];omega
    have l:=kqo s0 ⟨J,h1⟩;show(0<=IntKind.u8.wrap s0/\IntKind.u8.wrap s0<(tab8.size:Int))/\i64.wrap (B+i64.wrap (byteAt tab8 (IntKind.u8.wrap s0)))=_;rw[e,ku9,kpk s0 ⟨J,h1⟩,wi (len64 s0) qqo qqo,wi (B+len64 s0) qqo qqo,M];exact⟨⟨J,h1⟩,rfl⟩
   refine⟨λh=>?_,λh=>j3 s0 B J qqh h2 qqo M⟩;have h:=qc h;rw[<-k74 s0 8 qqh,<-Int.add_assoc,Int.add_right_comm]at M;rw[ishr8,wi _ qqo qqo];exact j3 _ _ qqo qqo qqo qqo qqo
  refine⟨λh=>?_,λh=>j2 s0 B J qqh h2 qqo M⟩;have h:=qc h;rw[<-k74 s0 16 qqh,<-Int.add_assoc,Int.add_right_comm]at M;rw[ishr16,wi _ qqo qqo];exact j2 _ _ qqo qqo qqo qqo qqo
 refine⟨λh1=>?_,λh1=>?_⟩;.have h1:=qc h1;rw[ishr32];exact j1 _ _ qqo qqo qqo qqo (by rw[<-k74 F 32 (by simpa using h1),Int.add_comm];rfl)
 .exact j1 F 0 h.1 (by simpa using h1) qqo qqo qqo
def k6l:Ct:=.gp 348 [yqu] [yqi] [] λ(B:Int)=>(0<B/\B<18446744073709551616,(64-len64 B:Int),())
theorem k7k:k6l.O:=qrv Bs Tryz.func348 .no (k9x.c c0) (Q:=∀B,0<B/\B<18446744073709551616->∀r0,64-len64 B=r0->U64 B/\i64.wrap (64-len64 B)=r0)<|by rintro B h _ rfl;obtain⟨s,e,h1,_⟩:=khb B h;refine⟨by omega,?_⟩;exact wi _ qqo qqo
def kik:Ct:=.gp 273 [yqu,yqu,yqu] [yqu,yqu] [] λ(B J F:Int)=>(U64 B/\U64 J/\U64 F/\B<F,(B*18446744073709551616+J)/F,(B*18446744073709551616+J)%F,())
theorem k9s:kik.O:=qrv Bs Tryz.func273 (.r 13 (.jn (oB [15,16] [ou,.one .any]) [] (.lp [] (oB [15,16] [ou,ou]) (.jn (oB [] []) [] .no [] .no)) [] (.r 2 (.jn (oB [16,18] [.one .any,ou]) [] (.lp [] (oB [16,18] [ou,ou]) (.jn (oB [] []) [] .no [] .no)) [] .no)))) (k7k.c c0) (Q:=∀(Z F B:Int),U64 Z/\U64 F/\U64 B/\Z<B->∀r0:Int,(Z*18446744073709551616+F)/B=r0->∀r1:Int,(Z*18446744073709551616+F)%B=r1->iT (B==0) False (iD (B<=Z) False (iT (Z==0) (B≠0/\B≠0/\u64.wrap (Int.tdiv F B)=r0/\Int.tmod F B=r1) ((0<B/\B<18446744073709551616)/\0<=u64.wrap (64-len64 B)/\let v2:Int:=ishl .u64 B (u64.wrap (64-len64 B))
0<=u64.wrap (64-len64 B)/\let v3:Int:=ishl .u64 Z (u64.wrap (64-len64 B))
let v4:Int:=u64.wrap (64-u64.wrap (64-len64 B))
0<=v4/\0<=u64.wrap (64-len64 B)/\let v5:Int:=ishl .u64 F (u64.wrap (64-len64 B))
ishr .u64 v2 32≠0/\let v6:Int:=u64.wrap (Int.tdiv (ior .u64 v3 (ishr .u64 F v4)) (ishr .u64 v2 32))
let v7:Int:=u64.wrap (v6*ishr .u64 v2 32)
let v8:Int:=u64.wrap (ior .u64 v3 (ishr .u64 F v4)-v7)
∀J1:oD,(∀(b1:Int),(let aw:Int:=u64.wrap (ior .u64 v3 (ishr .u64 F v4)*4294967296)
let ax:Int:=u64.wrap (aw+ishr .u64 v5 32)
let ag:Int:=u64.wrap (ax-u64.wrap (b1*v2))
ishr .u64 v2 32≠0/\let aj:Int:=u64.wrap (Int.tdiv ag (ishr .u64 v2 32))
let ay:Int:=u64.wrap (aj*ishr .u64 v2 32)
∀J3:oD,(∀(k1:Int),(let az:Int:=u64.wrap (u64.wrap (b1*4294967296)+k1)
let ba:Int:=u64.wrap (u64.wrap (ag*4294967296)+iand .u64 v5 4294967295)
let bb:Int:=u64.wrap (ba-u64.wrap (k1*v2))
0<=u64.wrap (64-len64 B)/\let bc:Int:=ishr .u64 bb (u64.wrap (64-len64 B))
az=r0/\bc=r1)->J3 k1)->∃(I2:oF)(M2:oI),I2 (u64.wrap (ag-ay)) aj/\∀l1 m1,I2 l1 m1->∀J4:Prop,((let ak:Int:=u64.wrap (l1+ishr .u64 v2 32)
iD (4294967296<=ak) (J3 (u64.wrap (m1-1))) (ss2 I2 M2 l1 ak m1 (u64.wrap (m1-1))))->J4)->iD (4294967296<=m1) J4 (let bd:Int:=u64.wrap (m1*iand .u64 v2 4294967295)
let bf:Int:=u64.wrap (u64.wrap (4294967296*l1)+iand .u64 v5 4294967295)
iD (bf<bd) J4 (J3 m1)))->J1 b1)->∃(I1:oF)(M1:oI),I1 v6 v8/\∀f1 i1,I1 f1 i1->∀J2:Prop,((let al:Int:=u64.wrap (i1+ishr .u64 v2 32)
iD (4294967296<=al) (J1 (u64.wrap (f1-1))) (ss2 I1 M1 f1 (u64.wrap (f1-1)) i1 al))->J2)->iD (4294967296<=f1) J2 (let v9:Int:=u64.wrap (f1*iand .u64 v2 4294967295)
let bg:Int:=u64.wrap (u64.wrap (4294967296*i1)+ishr .u64 v5 32)
iD (bg<v9) J2 (J1 f1))))))<|by
 rintro Z F B h _ rfl _ rfl;obtain⟨h0,h1,h2,cb⟩:=h;refine⟨λe=>?_,λ_=>⟨λe=>?_,λ_=>⟨λe=>?_,λ_=>?_⟩⟩⟩;.simp at e;omega
 .simp at e;omega
 .have e:Z=0:=by simpa using e
  subst e;rw[tdiv_nn _ _ h1.1,tmod_nn _ _ h1.1,Int.zero_mul,Int.zero_add];have:=Int.ediv_le_self B h1.1;have:=qec h1.1 h2.1;exact⟨by omega,by omega,wu _ qqo (by have:=Int.ediv_le_self B h1.1;omega),rfl⟩
 obtain⟨s,e,hs,n1,n2⟩:=khb B ⟨by omega,h2.2⟩;have ew:u64.wrap (64-len64 B)=(s:Int):=by rw[e,wu _ qqo qqo]
 have bh:u64.wrap (64-(s:Int))=((64-s:Nat):Int):=by rw[wu _ qqo qqo];omega
 have hp:0<2^s:=qcg s;have cc:0<2^(64-s):=qcg _;have bi:2^s*2^(64-s)=18446744073709551616:=by rw[<-Nat.pow_add,show s+(64-s)=64 by omega]
 have hP:((2^s:Nat):Int)*((2^(64-s):Nat):Int)=18446744073709551616:=by rw[<-qdm,bi];rfl
 have il:∀a:Int,ishl .u64 a (s:Int)=a*((2^s:Nat):Int)%18446744073709551616:=λa=>by rw[knv,qv,qcf qqo]
 have ir:∀a:Int,ishr .u64 a (s:Int)=a/((2^s:Nat):Int):=λa=>by rw[k2c,qv,show min s u64.bits=s from qcf (by show s<=64;omega)]
 have bj:∀a:Int,ishr .u64 a ((64-s:Nat):Int)=a/((2^(64-s):Nat):Int):=λa=>by rw[k2c,qv,show min (64-s) u64.bits=64-s from qcf (by show 64-s<=64;omega)]
 have bk:∀c:Int,0<=c->c<((2^s:Nat):Int)->Z*((2^s:Nat):Int)+c<18446744073709551616->ior .u64 (Z*((2^s:Nat):Int)) c=Z*((2^s:Nat):Int)+c:=by intro c bm cd bn;obtain⟨a,rfl⟩:=qm h0.1;obtain⟨c,rfl⟩:=qm bm;have key:=ior_add' c a s qqo;rw[qei,<-qdm]at bn⊢;rw[key qqo];omega
 simp only[ew,bh,il,bj,ishr32];have am:(0:Int)<((2^(64-s):Nat):Int):=by omega
 generalize ce:((2^s:Nat):Int)=P at*;generalize ca:((2^(64-s):Nat):Int)=P' at*;have ao:0<P:=by omega
 have bo:F/P'<P:=qfh am qqo;have aq:0<=F/P':=qec h1.1 qqo;have cf:Z*P+P<=B*P:=by have:(Z+1)*P<=B*P:=Int.mul_le_mul_of_nonneg_right qqo qqo;grind
 have bq:0<=Z*P:=qcx h0.1 qqo;rw[qdq (a:=B*P) qqo n2,qdq (a:=Z*P) bq qqo,bk _ aq bo qqo];have hN:(Z*18446744073709551616+F)*P=(Z*P+F/P')*18446744073709551616+F*P%18446744073709551616/4294967296*4294967296+F*P%18446744073709551616%4294967296:=by
  have h5:F*P/18446744073709551616=F/P':=by rw[<-hP,qei F P,Int.mul_ediv_mul_of_pos _ _ ao]
  have h6:=qeb (F*P) 18446744073709551616;rw[h5]at h6;have:(Z*18446744073709551616+F)*P=Z*P*18446744073709551616+F*P:=by grind
  rw[this];generalize F*P=w at*;generalize Z*P=w' at*;omega
 have cg:0<=F*P%18446744073709551616/\F*P%18446744073709551616<18446744073709551616:=⟨qce _ qqo,qbu _ qqo⟩;generalize ch:Z*P+F/P'=U at*;generalize ci:F*P%18446744073709551616=L at*;have bs:B*P/4294967296*4294967296+B*P%4294967296=B*P:=by omega
 have hw:∀{Q R V':Int},R-Q=V'->0<=V'->V'<18446744073709551616->∀A,R=A*4294967296+(R-A*4294967296)->u64.wrap (u64.wrap (u64.wrap (A*4294967296)+(R-A*4294967296))-u64.wrap Q)=V':=by intro Q R V' hv h0 h1 A hA;simp only[u64w];omega
 rw[k2y (B*P) qqo,k2y L qqo];generalize ha:B*P/4294967296=a at*;generalize hb:B*P%4294967296=b at*;have J:Half U (L/4294967296) a b ((U*4294967296+L/4294967296)/(a*4294967296+b)):=⟨by omega,by omega,by omega,by omega,by omega,rfl⟩;have ab:=J.rest;have bt:=J.q;generalize(U*4294967296+L/4294967296)/(a*4294967296+b)=Q1 at*;generalize(U*4294967296+L/4294967296)%(a*4294967296+b)=Y at*;have M:Half Y (L%4294967296) a b ((Y*4294967296+L%4294967296)/(a*4294967296+b)):=⟨by omega,by omega,by omega,by omega,by omega,rfl⟩;have ac:=M.rest;have bu:=M.q;generalize(Y*4294967296+L%4294967296)/(a*4294967296+b)=Q0 at*;generalize(Y*4294967296+L%4294967296)%(a*4294967296+b)=R0 at*;rw[bs]at ab ac bt bu;have au:=kru ao (by omega:0<B) hN ab.1 ac.1 ⟨ac.2.1,ac.2.2⟩;have ae:∀{U x Q q r:Int},Half U x a b Q->U<18446744073709551616->q*a+r=U->Q<=q->0<=r->q<=8589934592:=by
  intro U x Q q r hh hU e hQ hr;have h1:=hh.ha;refine Int.le_of_lt_add_one (qdi (a:=a) ?_ qqo);generalize q*a=w at*;omega
 have aa:∀{U x Q:Int},Half U x a b Q->Q<=U/a:=by
  intro U x Q hh;have h1:=hh.ha;have h2:=hh.q;have h3:=hh.hb;have h4:=hh.hx;refine(Int.le_ediv_iff_mul_le qqo).2 ?_;have h5:Q*(a*4294967296+b)=Q*a*4294967296+Q*b:=by grind
  have h6:0<=Q*b:=qcx h2.1 h3.1;generalize Q*a=w at*;omega
 have X:=qeb U a;have ad:=qce U (by omega:a≠0);have bv:=qbu U (by omega:0<a);have ah:0<=U/a:=qec qqo qqo;rw[qei]at X;have bw:0<=U/a*a:=qcx ah qqo;have bx:=ae J qqo (q:=U/a) (r:=U%a) qqo (aa J) ad;rw[tdiv_nn _ _ qqo,wu (U/a) qqo qqo,wu (U/a*a) qqo qqo,show U-U/a*a=U%a by omega,wu (U%a) qqo qqo];refine⟨⟨by omega,h2.2⟩,by omega,by omega,by omega,by omega,by omega,λJ1 k1=>?_⟩;have j2:J1 Q1:=by
  have e1:=hw (Q:=Q1*(B*P)) (R:=U*4294967296+L/4294967296) ab.1 ab.2.1 qqo U qqo;rw[show U*4294967296+L/4294967296-U*4294967296=L/4294967296 by omega]at e1;refine k1 _ ?_;simp only[e1];have X:=qeb Y a;have ad:=qce Y (by omega:a≠0);have bv:=qbu Y (by omega:0<a);have ah:0<=Y/a:=qec ab.2.1 qqo;rw[qei]at X;have bw:0<=Y/a*a:=qcx ah qqo;have bx:=ae M qqo (q:=Y/a) (r:=Y%a) qqo (aa M) ad;rw[tdiv_nn _ _ ab.2.1,wu (Y/a) qqo qqo,wu (Y/a*a) qqo qqo,show Y-Y/a*a=Y%a by omega,wu (Y%a) qqo qqo];refine⟨by omega,λJ3 k3=>?_⟩;have j4:J3 Q0:=by
   refine k3 _ ⟨by omega,?_,?_⟩;.rw[wu (Q1*4294967296) qqo qqo,wu _ qqo qqo];exact au.1
   .have:=hw (Q:=Q0*(B*P)) (R:=Y*4294967296+L%4294967296) ac.1 ac.2.1 qqo Y qqo;rw[show Y*4294967296+L%4294967296-Y*4294967296=L%4294967296 by omega]at this;rw[this,ir];exact au.2
  refine⟨λr q=>q*a+r=Y/\Q0<=q/\0<=r/\r<4294967296,λr q=>q.toNat,⟨by omega,aa M,ad,by omega⟩,?_⟩;rintro r q⟨g1,g2,g3,g4⟩J4 k4;have g5:=ae M qqo g1 g2 g3;have ai:Q0<=q-1->r+a<4294967296->((q-1)*a+(r+a)=Y/\Q0<=q-1/\0<=r+a/\r+a<4294967296)/\(q-1).toNat<q.toNat:=λh1 h2=>⟨⟨by grind,h1,by omega,h2⟩,by(first|omega|(dsimp only;omega))⟩;have j3:Q0<=q-1->J4:=by intro hq;refine k4 ?_;rw[wu (q-1) qqo qqo,wu (r+a) qqo qqo];refine⟨λX=>?_,λX=>ai hq (by simpa using X)⟩;have X:4294967296<=r+a:=qc X;rw[M.done (q:=q-1) (r:=r+a) (by grind) hq X];exact j4
  refine⟨λX=>j3 (M.down g1 (.inl (qc X))),λX=>?_⟩;have X:q<4294967296:=by simpa using X
  have bz:0<=q*b/\q*b<18446744073709551616:=by have:=M.hb;have h1:q*b<=4294967295*4294967295:=qdx qqo qqo qqo qqo;exact⟨qcx qqo qqo,by(first|omega|(dsimp only;omega))⟩
  have:=M.hx;rw[wu (q*b) qqo qqo,wu (4294967296*r) qqo qqo,wu (4294967296*r+L%4294967296) qqo qqo];refine⟨λht=>?_,λht=>?_⟩;.have ht:4294967296*r+L%4294967296<q*b:=qc ht;exact j3 (M.down g1 (.inr qqo))
  .have ht:¬4294967296*r+L%4294967296<q*b:=qd ht;rw[M.exit g1 g2 qqo];exact j4
 refine⟨λq r=>q*a+r=U/\Q1<=q/\0<=r/\r<4294967296,λq r=>q.toNat,⟨by omega,aa J,ad,by omega⟩,?_⟩;rintro q r⟨g1,g2,g3,g4⟩J2 k2;have g5:=ae J qqo g1 g2 g3;have ai:Q1<=q-1->r+a<4294967296->((q-1)*a+(r+a)=U/\Q1<=q-1/\0<=r+a/\r+a<4294967296)/\(q-1).toNat<q.toNat:=λh1 h2=>⟨⟨by grind,h1,by omega,h2⟩,by(first|omega|(dsimp only;omega))⟩;have j1:Q1<=q-1->J2:=by intro hq;refine k2 ?_;rw[wu (q-1) qqo qqo,wu (r+a) qqo qqo];refine⟨λX=>?_,λX=>ai hq (by simpa using X)⟩;have X:4294967296<=r+a:=qc X;rw[J.done (q:=q-1) (r:=r+a) (by grind) hq X];exact j2
 refine⟨λX=>j1 (J.down g1 (.inl (qc X))),λX=>?_⟩;have X:q<4294967296:=by simpa using X
 have bz:0<=q*b/\q*b<18446744073709551616:=by have:=J.hb;have h1:q*b<=4294967295*4294967295:=qdx qqo qqo qqo qqo;exact⟨qcx qqo qqo,by(first|omega|(dsimp only;omega))⟩
 have:=J.hx;rw[wu (q*b) qqo qqo,wu (4294967296*r) qqo qqo,wu (4294967296*r+L/4294967296) qqo qqo];refine⟨λht=>?_,λht=>?_⟩;.have ht:4294967296*r+L/4294967296<q*b:=qc ht;exact j1 (J.down g1 (.inr qqo))
 .have ht:¬4294967296*r+L/4294967296<q*b:=qd ht;rw[J.exit g1 g2 qqo];exact j2
def kit:Ct:=.gp 272 [yqu,yqu] [yqu,yqu] [] λ(B F:Int)=>(U64 B/\U64 F,(B*F/18446744073709551616:Int),(B*F%18446744073709551616:Int),())
theorem k9y:kit.O:=qrv Bs Tryz.func272 .no c0 (Q:=∀B F,U64 B/\U64 F->∀r0,B*F/18446744073709551616=r0->∀r1,B*F%18446744073709551616=r1->let U:=u64.wrap (iand .u64 B 4294967295*iand .u64 F 4294967295)
let X:=u64.wrap (ishr .u64 B 32*iand .u64 F 4294967295)
let J:=u64.wrap (X+ishr .u64 U 32)
let Y:=u64.wrap (iand .u64 B 4294967295*ishr .u64 F 32)
let Z:=u64.wrap (iand .u64 J 4294967295+Y)
let v7:=u64.wrap (ishr .u64 B 32*ishr .u64 F 32)
let v8:=u64.wrap (v7+ishr .u64 J 32)
let v9:=u64.wrap (v8+ishr .u64 Z 32)
v9=r0/\u64.wrap (B*F)=r1)<|by
 rintro B F h _ rfl _ rfl;obtain⟨M,h1⟩:=h;have k:=kv8 B F M h1;simp only[k2y B M,k2y F h1,ishr32];rw[wu (B%4294967296*(F%4294967296)) qqo qqo,wu (B/4294967296*(F%4294967296)) qqo qqo,wu (B%4294967296*(F/4294967296)) qqo qqo,wu (B/4294967296*(F/4294967296)) qqo qqo];generalize B%4294967296*(F%4294967296)=a at*;generalize B/4294967296*(F%4294967296)=b at*;rw[wu (b+a/4294967296) qqo qqo,k2y _ qqo];simp only[u64w];refine⟨?_,trivial⟩;omega
def kmy:Ct:=.gp 352 yT1 [yqu] [] λ(J:wAX)(B F:Int)=>(J.P=18446744069414584321/\(0<=B/\B<18446744069414584321)/\0<=F/\F<18446744069414584321,(B*F%18446744069414584321:Int),())
theorem kb3:kmy.O:=qrv Bs Tryz.func352 .no (k9y.c (k9s.c c0)) (Q:=∀(J:wAX)B F,J.P=18446744069414584321/\(0<=B/\B<18446744069414584321)/\0<=F/\F<18446744069414584321->∀r0,B*F%18446744069414584321=r0->(U64 B/\U64 F)/\(U64 (B*F/18446744073709551616)/\U64 (B*F%18446744073709551616)/\U64 J.P/\B*F/18446744073709551616<J.P)/\let Y:=(B*F/18446744073709551616*18446744073709551616+B*F%18446744073709551616)/J.P
let U:=(B*F/18446744073709551616*18446744073709551616+B*F%18446744073709551616)%J.P
U=r0)<|by
 rintro J B F h _ rfl;obtain⟨X,h1,M⟩:=h;have Z:=qcx h1.1 M.1;have h4:B*F<=18446744069414584320*18446744069414584320:=qdx qqo qqo M.1 qqo;refine⟨by omega,?_⟩;simp only[X];generalize B*F=m at*;refine⟨by omega,?_⟩;rw[show m/18446744073709551616*18446744073709551616+m%18446744073709551616=m by omega]
def kmk:Ct:=.gp 279 yT1 [yqu] [] λ(J:wAX)(B F:Int)=>(J.P=18446744069414584321/\U64 B/\U64 F,(B*F%18446744069414584321:Int),())
theorem koj:kmk.O:=qrv Bs Tryz.func279 .no (k1p.c (k29.c (kb3.c c0))) (Q:=∀(B:wAX)(F J:Int),B.P=18446744069414584321/\U64 F/\U64 J->∀r0:Int,F*J%18446744069414584321=r0->B.P=18446744069414584321/\iT (!true) (0=r0) ((0<B.P/\0<=F)/\(0<B.P/\0<=J)/\(B.P=18446744069414584321/\(0<=F%B.P/\F%B.P<18446744069414584321)/\0<=J%B.P/\J%B.P<18446744069414584321)/\let U:Int:=F%B.P*(J%B.P)%18446744069414584321
U=r0))<|by rintro B F J h _ rfl;obtain⟨M,h1,X⟩:=h;refine⟨M,?_⟩;simp only[M];refine⟨λh=>by simp at h,λ_=>⟨by omega,by omega,⟨by trivial,by omega,by omega⟩,?_⟩⟩;exact(qdb _ _ _).symm
def kd7:Ct:=.gp 420 [.st 10] [yqu,yqi,yqu] [] λ(B:wAX)=>(B.P=18446744069414584321,(7:Int),(32:Int),(7:Int),())
theorem kf8:kd7.O:=qrv Bs Tryz.func420 .no c0 (Q:=∀(B:wAX),B.P=18446744069414584321->∀r0:Int,(7:Int)=r0->∀r1:Int,(32:Int)=r1->∀r2:Int,(7:Int)=r2->((B.P==17)=true->3=r0/\4=r1/\3=r2)/\((B.P==17)=false->((B.P==97)=true->5=r0/\5=r1/\5=r2)/\((B.P==97)=false->((B.P==193)=true->5=r0/\6=r1/\5=r2)/\((B.P==193)=false->((B.P==257)=true->3=r0/\8=r1/\3=r2)/\((B.P==257)=false->((B.P==12289)=true->11=r0/\12=r1/\5=r2)/\((B.P==12289)=false->((B.P==65537)=true->3=r0/\16=r1/\3=r2)/\((B.P==65537)=false->((B.P==18446744069414584321)=true->7=r0/\32=r1/\7=r2)/\((B.P==18446744069414584321)=false->0=r0/\0=r1/\0=r2))))))))<|by rintro B h _ rfl _ rfl _ rfl;refine ?_;simp[h]
def kc3:Ct:=.gp 353 [.st 10] [yqu] [] λ(B:wAX)=>(B.P=18446744069414584321,(7:Int),())
theorem kd0:kc3.O:=qrv Bs Tryz.func353 .no (kf8.c c0) (Q:=∀(B:wAX),B.P=18446744069414584321->∀r0,(7:Int)=r0->B.P=18446744069414584321/\7=r0)<|by rintro B h _ rfl;exact⟨h,rfl⟩
def klu:Ct:=.gp 421 yT1 [yqu] [] λ(J:wAX)(B F:Int)=>(J.P=18446744069414584321/\(0<=B/\B<18446744069414584321)/\U64 F,pw B F,())
theorem knp:klu.O:=qrv Bs Tryz.func421 (rA 1 (.lp [] (oB [1,2,7] [ou,ou,ou]) (.r 0 (.jn (oB [7] [ou]) [] .no [] .no)))) (kb3.c c0) (Q:=∀(Y:wAX)B F,Y.P=18446744069414584321/\(0<=B/\B<18446744069414584321)/\U64 F->∀r0,pw B F=r0->∃(Z:oL)(M1:oP),Z B F 1/\∀b1 f1 i1,Z b1 f1 i1->iD (0<f1) (∀X:oD,(∀(k1:Int),iD (0<ishr .u64 f1 1) ((Y.P=18446744069414584321/\(0<=b1/\b1<18446744069414584321)/\0<=b1/\b1<18446744069414584321)/\ss3 Z M1 b1 (b1*b1%18446744069414584321) f1 (ishr .u64 f1 1) i1 k1) (ss3 Z M1 b1 b1 f1 (ishr .u64 f1 1) i1 k1)->X k1)->iT (iand .u64 f1 1==1) ((Y.P=18446744069414584321/\(0<=i1/\i1<18446744069414584321)/\0<=b1/\b1<18446744069414584321)/\X (i1*b1%18446744069414584321)) (X i1)) (i1=r0))<|by
 rintro Y B F h _ rfl;obtain⟨hP,h1,h2⟩:=h;rw[hP];refine⟨λa e r=>(0<=a/\a<18446744069414584321)/\U64 e/\(0<=r/\r<18446744069414584321)/\r*a^e.toNat%18446744069414584321=pw B F,λa e r=>e.toNat,⟨h1,h2,by omega,by rw[Int.one_mul];rfl⟩,?_⟩;rintro a e r⟨ha,he,hr,hv⟩;refine⟨λh X j=>?_,λh=>?_⟩
 .have h:=qc h;have jj:∀r',0<=r'/\r'<18446744069414584321->r'*(a*a)^(e/2).toNat%18446744069414584321=pw B F->X r':=by
   intro r' aa M;have hn:∀U,0<=U/\U<18446744069414584321->r'*U^(e/2).toNat%18446744069414584321=pw B F->((0<=U/\U<18446744069414584321)/\U64 (e/2)/\(0<=r'/\r'<18446744069414584321)/\r'*U^(e/2).toNat%18446744069414584321=pw B F)/\(e/2).toNat<e.toNat:=λU h1 h3=>⟨⟨h1,⟨by omega,by omega⟩,aa,h3⟩,by(first|omega|(dsimp only;omega))⟩;refine j _ ?_;rw[ishr1];refine⟨λh=>⟨⟨rfl,ha,ha⟩,?_⟩,λh=>?_⟩;.refine hn _ ⟨qce _ qqo,qbu _ qqo⟩ ?_;rw[<-M,qdb,qdb r' ((a*a)^_),k8r]
   .have h:¬0<e/2:=qd h;refine hn _ ha ?_;rw[show(e/2).toNat=0 by omega]at M⊢;simpa using M
  rw[kvz e he];have J:∀k:Nat,a^(2*k)=(a*a)^k:=λk=>by rw[Int.pow_mul];congr 1;rw[qcp,qcp,Int.pow_zero,Int.one_mul]
  refine⟨λh1=>⟨⟨rfl,hr,ha⟩,?_⟩,λh1=>?_⟩
  .have h1:e%2=1:=by simpa using h1
   refine jj _ ⟨qce _ qqo,qbu _ qqo⟩ ?_;rw[<-hv,show e.toNat=2*(e/2).toNat+1 by omega,qcp,J,qdb,qdo _ (qew _),<-qdb];congr 1;grind
  .have h1:¬e%2=1:=by simpa using h1
   refine jj _ hr ?_;rw[<-hv,<-J,show e.toNat=2*(e/2).toNat by omega]
 .have h:¬0<e:=qd h;rw[show e.toNat=0 by omega,Int.pow_zero,Int.mul_one,qdq hr.1 hr.2]at hv;exact hv
def klz:Ct:=.gp 354 yT1 [yqu] [] λ(J:wAX)(B F:Int)=>(J.P=18446744069414584321/\U64 B/\U64 F,pw (B%18446744069414584321) F,())
theorem koi:klz.O:=qrv Bs Tryz.func354 .no (k1p.c (k29.c (knp.c c0))) (Q:=∀(B:wAX)(F J:Int),B.P=18446744069414584321/\U64 F/\U64 J->∀r0:Int,pw (F%18446744069414584321) J=r0->B.P=18446744069414584321/\iT (!true) (0=r0) ((0<B.P/\0<=F)/\(B.P=18446744069414584321/\(0<=F%B.P/\F%B.P<18446744069414584321)/\U64 J)/\pw (F%B.P) J=r0))<|by rintro B F J h _ rfl;obtain⟨M,h1,U⟩:=h;refine⟨M,λh=>by simp at h,λ_=>⟨by omega,?_⟩⟩;simp only[M];exact⟨⟨by trivial,by omega,U⟩,trivial⟩
def ke8:Ct:=.gp 422 [.st 10,yqu] [yqu] [] λ(F:wAX)(B:Int)=>(F.P=18446744069414584321/\U64 B,(B%18446744069414584321:Int),())
theorem khd:ke8.O:=qrv Bs Tryz.func422 .no (k1p.c (k29.c c0)) (Q:=∀(B:wAX)(F:Int),B.P=18446744069414584321/\U64 F->∀r0:Int,F%18446744069414584321=r0->B.P=18446744069414584321/\iT (!true) (0=r0) ((0<B.P/\0<=F)/\F%B.P=r0))<|by rintro B F h _ rfl;obtain⟨J,h1⟩:=h;refine⟨J,λh=>by simp at h,λ_=>⟨by omega,?_⟩⟩;simp only[J]
def k5w:Ct:=.gp 355 [yqu,yqi,yqi] [yqu] [] λ(J B F:Int)=>(J=18446744069414584321/\(0<=B/\B<8)/\0<=F/\F<3,rc B F,())
theorem k6k:k5w.O:=qrv Bs Tryz.func355 .no (khd.c c0) (Q:=∀J B F,J=18446744069414584321/\(0<=B/\B<8)/\0<=F/\F<3->∀r0,rc B F=r0->iD (B<0) (0=r0) (iD (8<=B) (0=r0) (iD (F<0) (0=r0) (iD (2<F) (0=r0) (let U:=i64.wrap (i64.wrap (3*B)+F)
let X:=u64.wrap (i64.wrap (U+1))
let M:=u64.wrap (X*11400714819323198485)
((wAX.mk J).P=18446744069414584321/\U64 M)/\M%18446744069414584321=r0)))))<|by
 rintro J B F h _ rfl;refine⟨λh=>?_,λ_=>⟨λh=>?_,λ_=>⟨λh=>?_,λ_=>⟨λh=>?_,λ_=>?_⟩⟩⟩⟩;.simp at h;omega
 .simp at h;omega
 .simp at h;omega
 .simp at h;omega
 .simp;rw[wi (3*B) qqo qqo,wi (3*B+F) qqo qqo,wi (3*B+F+1) qqo qqo,wu (3*B+F+1) qqo qqo,u64w];exact⟨by omega,rfl⟩
def kac:Ct:=.gp 356 [yqu,.st 11] [.st 11] [] λ(F:Int)(B:wAW)=>(F=18446744069414584321/\S3 B,mixS B,())
theorem kbh:kac.O:=qrv Bs Tryz.func356 .no (k6f.c c0) (Q:=∀F B,F=18446744069414584321/\S3 B->∀r0,mixS B=r0->((wAX.mk F).P=18446744069414584321/\U64 B.a0/\U64 B.a1)/\((wAX.mk F).P=18446744069414584321/\U64 ((B.a0+B.a1)%18446744069414584321)/\U64 B.a2)/\let J:=((B.a0+B.a1)%18446744069414584321+B.a2)%18446744069414584321
((wAX.mk F).P=18446744069414584321/\U64 B.a0/\U64 J)/\((wAX.mk F).P=18446744069414584321/\U64 B.a1/\U64 J)/\((wAX.mk F).P=18446744069414584321/\U64 B.a2/\U64 J)/\(B.a0+J)%18446744069414584321=r0.a0/\(B.a1+J)%18446744069414584321=r0.a1/\(B.a2+J)%18446744069414584321=r0.a2)<|by rintro F B h _ rfl;obtain⟨X,M,h1,U⟩:=h;exact⟨⟨by trivial,M,h1⟩,⟨by trivial,by omega,U⟩,⟨by trivial,M,by omega⟩,⟨by trivial,h1,by omega⟩,⟨by trivial,U,by omega⟩,rfl,rfl,rfl⟩
def k6g:Ct:=.gp 280 [yqu,.st 11] [.st 11] [] λ(F:Int)(B:wAW)=>(F=18446744069414584321/\S3 B,permS B,())
theorem k7i:k6g.O:=qrv Bs Tryz.func280 (rA 3 (lA ⟨[0],yL1,[17],[oa],[]⟩ (rA 1 (rA 0 (lA ⟨[0],yL1,[20],[oa],[]⟩ .no))))) (k1p.c (kd0.c (k6k.c (k6f.c (koi.c (kbh.c c0)))))) (Q:=∀F B,F=18446744069414584321/\S3 B->∀r0,permS B=r0->(wAX.mk F).P=18446744069414584321/\iT (!true) (0=r0.a0/\0=r0.a1/\0=r0.a2) ((wAX.mk F).P=18446744069414584321/\∃Z M1,Z 0 B.a0 B.a1 B.a2/\∀b1 f1 i1 k1,Z b1 f1 i1 k1->iD (b1<8) (∃I2 M2,I2 0 f1 i1 k1/\∀l1 m1 n1 o1,I2 l1 m1 n1 o1->iD (l1<3) ((0<=l1/\l1<3)/\(0<=l1/\l1<3)/\(F=18446744069414584321/\(0<=b1/\b1<8)/\0<=l1/\l1<3)/\((wAX.mk F).P=18446744069414584321/\U64 (ix [m1,n1,o1] l1)/\U64 (rc b1 l1))/\let r1:=(ix [m1,n1,o1] l1+rc b1 l1)%18446744069414584321
((wAX.mk F).P=18446744069414584321/\U64 r1/\U64 7)/\let r2:=pw (r1%18446744069414584321) 7
(0<=l1/\l1<3)/\(0<=l1/\l1<3)/\ss4 I2 M2 l1 (i64.wrap (l1+1)) m1 (bif decide (l1=0)then r2 else m1) n1 (bif decide (l1=1)then r2 else n1) o1 (bif decide (l1=2)then r2 else o1)) ((F=18446744069414584321/\S3 (wAW.mk m1 n1 o1))/\ss4 Z M1 b1 (i64.wrap (b1+1)) f1 (mixS (wAW.mk m1 n1 o1)).a0 i1 (mixS (wAW.mk m1 n1 o1)).a1 k1 (mixS (wAW.mk m1 n1 o1)).a2)) (f1=r0.a0/\i1=r0.a1/\k1=r0.a2)))<|by
 rintro F B h _ rfl;obtain⟨hP,hs⟩:=h;subst hP;refine⟨rfl,λh=>by simp at h,λ_=>⟨rfl,?_⟩⟩;refine⟨λn a b c=>0<=n/\n<=8/\⟨a,b,c⟩=rnds n.toNat B/\S3 ⟨a,b,c⟩,λn _ _ _=>(8-n).toNat,⟨by omega,by omega,rfl,hs⟩,?_⟩;rintro n a b c⟨g0,g1,U,g3⟩;refine⟨λh=>?_,λh=>?_⟩
 .have h:=qc h;refine⟨λi x y z=>i=0/\x=a/\y=b/\z=c∨i=1/\x=pw ((a+rc n 0)%18446744069414584321) 7/\y=b/\z=c∨i=2/\x=pw ((a+rc n 0)%18446744069414584321) 7/\y=pw ((b+rc n 1)%18446744069414584321) 7/\z=c∨i=3/\x=pw ((a+rc n 0)%18446744069414584321) 7/\y=pw ((b+rc n 1)%18446744069414584321) 7/\z=pw ((c+rc n 2)%18446744069414584321) 7,λi _ _ _=>(3-i).toNat,.inl ⟨rfl,rfl,rfl,rfl⟩,?_⟩;intro i x y z hi;have J:∀k,U64 (rc n k):=λk=>by unfold rc;omega
  have M:∀k e,0<=pw k e/\pw k e<18446744069414584321:=λk e=>⟨qce _ qqo,qbu _ qqo⟩;obtain⟨aa,ab,ac⟩:=g3;refine⟨λX=>?_,λX=>?_⟩
  .have X:=qc X;rcases hi with⟨rfl,rfl,rfl,rfl⟩|⟨rfl,rfl,rfl,rfl⟩|⟨rfl,rfl,rfl,rfl⟩|⟨rfl,_⟩
   .refine⟨by omega,by omega,⟨rfl,by omega,by omega⟩,⟨rfl,aa,J _⟩,⟨rfl,?_,by omega⟩,by omega,by omega,.inr (.inl ⟨rfl,?_,rfl,rfl⟩),by(dsimp only;decide)⟩;.exact⟨qce _ qqo,Int.lt_trans (qbu _ qqo) qqo⟩
    .show pw ((x+rc n 0)%18446744069414584321%18446744069414584321) 7=_;rw[qdo _ (qew _)]
   .refine⟨by omega,by omega,⟨rfl,by omega,by omega⟩,⟨rfl,ab,J _⟩,⟨rfl,?_,by omega⟩,by omega,by omega,.inr (.inr (.inl ⟨rfl,rfl,?_,rfl⟩)),by(dsimp only;decide)⟩;.exact⟨qce _ qqo,Int.lt_trans (qbu _ qqo) qqo⟩
    .show pw ((y+rc n 1)%18446744069414584321%18446744069414584321) 7=_;rw[qdo _ (qew _)]
   .refine⟨by omega,by omega,⟨rfl,by omega,by omega⟩,⟨rfl,ac,J _⟩,⟨rfl,?_,by omega⟩,by omega,by omega,.inr (.inr (.inr ⟨rfl,rfl,rfl,?_⟩)),by(dsimp only;decide)⟩;.exact⟨qce _ qqo,Int.lt_trans (qbu _ qqo) qqo⟩
    .show pw ((z+rc n 2)%18446744069414584321%18446744069414584321) 7=_;rw[qdo _ (qew _)]
   .omega
  .have X:=qd X;rcases hi with⟨rfl,_⟩|⟨rfl,_⟩|⟨rfl,_⟩|⟨rfl,rfl,rfl,rfl⟩;.omega
   .omega
   .omega
   .have e:rnds (n+1).toNat B=rnd ⟨a,b,c⟩ n:=by rw[show(n+1).toNat=n.toNat+1 by omega];show rnd (rnds n.toNat B) n.toNat=_;rw[<-U,show n.toNat=n by omega]
    have hS:S3 (rnds (n+1).toNat B):=by rw[e];unfold rnd mixS S3;dsimp only;omega
    have Y:i64.wrap (n+1)=n+1:=wi _ qqo qqo;rw[Y];refine⟨⟨rfl,by unfold S3;have:=M ((a+rc n 0)%18446744069414584321) 7;have:=M ((b+rc n 1)%18446744069414584321) 7;have:=M ((c+rc n 2)%18446744069414584321) 7;dsimp only;omega⟩,?_,(?_:(8-(n+1)).toNat<(8-n).toNat)⟩;.refine⟨by omega,by omega,e.symm,?_⟩;rw[e]at hS;exact hS
    .omega
 .have h:=qd h;rw[show n=8 by omega]at U;have U:(⟨a,b,c⟩:wAW)=permS B:=U;rw[<-U];exact⟨rfl,rfl,rfl⟩
def kdd:Ct:=.gp 200 yQ1 [.st 11] [] λ(J F:Int)(B:Li)=>(J=18446744069414584321/\U64 F/\Us B/\B.length<=1099511627776,absS F B,())
theorem ke7:kdd.O:=qrv Bs Tryz.func200 (rA 3 (lA ⟨[146],yL1,[9],[oa],[]⟩ (rA 0 (.r 0 (.jn ⟨[146],yL1,[],[],[]⟩ [] .no [] .no))))) (koj.c (k6f.c (k7i.c c0))) (Q:=∀M F B,M=18446744069414584321/\U64 F/\Us B/\B.length<=1099511627776->∀r0,absS F B=r0->((wAX.mk M).P=18446744069414584321/\U64 F/\U64 65536)/\let r1:=F*65536%18446744069414584321
((wAX.mk M).P=18446744069414584321/\U64 r1/\U64 (u64.wrap B.length))/\let Z:=(r1+u64.wrap B.length)%18446744069414584321
iT ((B.length:Int)==0) ((M=18446744069414584321/\S3 (wAW.mk 0 0 Z))/\(permS (wAW.mk 0 0 Z)).a0=r0.a0/\(permS (wAW.mk 0 0 Z)).a1=r0.a1/\(permS (wAW.mk 0 0 Z)).a2=r0.a2) (∃(I1:oM)(M1:oN),I1 0 0 0 Z/\∀b1 f1 i1 k1,I1 b1 f1 i1 k1->iF b1 B.length (((wAX.mk M).P=18446744069414584321/\U64 f1/\U64 (ix B b1))/\let r3:Int:=(f1+ix B b1)%18446744069414584321
∀J1:oL,(∀(l1 m1 n1:Int),(M=18446744069414584321/\S3 (wAW.mk l1 m1 n1))/\ss4 I1 M1 b1 (i64.wrap (b1+2)) f1 (permS (wAW.mk l1 m1 n1)).a0 i1 (permS (wAW.mk l1 m1 n1)).a1 k1 (permS (wAW.mk l1 m1 n1)).a2->J1 l1 m1 n1)->let v4:Bool:=decide (i64.wrap (b1+1)<(B.length:Int))
iT v4 (0<=i64.wrap (b1+1)/\i64.wrap (b1+1)<(B.length:Int)/\((wAX.mk M).P=18446744069414584321/\U64 i1/\U64 (ix B (i64.wrap (b1+1))))/\let r5:Int:=(i1+ix B (i64.wrap (b1+1)))%18446744069414584321
J1 r3 r5 k1) (J1 r3 i1 k1)) (f1=r0.a0/\i1=r0.a1/\k1=r0.a2)))<|by
 rintro M F B h _ rfl;obtain⟨hP,h1,h2,h3⟩:=h;subst hP;have hp:∀s:wAW,S3 (permS s):=λs=>by show S3 (rnd _ _);unfold rnd mixS S3;dsimp only;omega
 have hi:S3 (absI F B):=by unfold absI S3;dsimp only;omega
 have e:u64.wrap (B.length:Int)=B.length:=wu _ qqo qqo;have em:(F*65536%18446744069414584321+(B.length:Int))%18446744069414584321=(absI F B).a2:=rfl;rw[e];refine⟨⟨rfl,h1,by omega⟩,⟨rfl,by omega,by omega⟩,λh=>?_,λh=>?_⟩
 .have h:B=[]:=by simpa using h
  refine⟨⟨rfl,?_⟩,?_⟩;.exact hi
  .have:permS ⟨0,0,(F*65536%18446744069414584321+(B.length:Int))%18446744069414584321⟩=absS F B:=by unfold absS;rw[qg h];rfl
   rw[this];exact⟨rfl,rfl,rfl⟩
 .have h:B≠[]:=by simpa using h
  have hv:absL B (absI F B)=absS F B:=by unfold absS;rw[qe h]
  rw[em];refine⟨λi a b c=>0<=i/\i<=B.length+1/\absL (B.drop i.toNat) ⟨a,b,c⟩=absS F B/\S3 ⟨a,b,c⟩,λi _ _ _=>(B.length+2-i).toNat,⟨by omega,by omega,hv,hi⟩,?_⟩;rintro i a b c⟨g0,g1,J,g3⟩;obtain⟨ad,aa,ab⟩:=g3;refine⟨λU=>?_,λU=>?_⟩
  .have U:=qc U;have hx:=h2 _ (ix_mem B i g0 U);refine⟨g0,U,⟨rfl,ad,hx⟩,λJ1 j=>?_⟩;rw[wi (i+1) qqo qqo];have ac:∀x y z,S3 ⟨x,y,z⟩->absL (B.drop (i+2).toNat) (permS ⟨x,y,z⟩)=absS F B->J1 x y z:=by intro x y z hS ae;refine j _ _ _ ?_;rw[wi (i+2) qqo qqo];exact⟨⟨rfl,hS⟩,⟨by omega,by omega,ae,hp _⟩,by(dsimp only;omega)⟩
   have Y:=drop_ix B i g0 U;rw[Y]at J;refine⟨λX=>?_,λX=>?_⟩;.have X:=qc X;have hy:=h2 _ (ix_mem B (i+1) qqo X);rw[drop_ix B (i+1) qqo X,show i+1+1=i+2 by omega]at J;exact⟨by omega,X,⟨rfl,aa,hy⟩,ac _ _ _ (S3m qqo qqo ab) J⟩
   .have X:=qd X;have ed:B.drop (i+1).toNat=[]:=qas qqo;have ag:B.drop (i+2).toNat=[]:=qas qqo;rw[ed]at J;exact ac _ _ _ (S3m qqo aa ab) (by rw[ag];exact J)
  .have U:=qd U;rw[qas qqo]at J;have J:(⟨a,b,c⟩:wAW)=absS F B:=J;rw[<-J];exact⟨rfl,rfl,rfl⟩
def kht:Ct:=.gp 139 yQ1 [yqu] [] λ(J F:Int)(B:Li)=>(J=18446744069414584321/\U64 F/\Us B/\B.length<=1099511627776,hashS F B,())
theorem k1c:kht.O:=qrv Bs Tryz.func139 .no (k1p.c (ke7.c c0)) (Q:=∀J F B,J=18446744069414584321/\U64 F/\Us B/\B.length<=1099511627776->∀r0,hashS F B=r0->(wAX.mk J).P=18446744069414584321/\iT (!true) (0=r0) ((J=18446744069414584321/\U64 F/\Us B/\B.length<=1099511627776)/\(absS F B).a0=r0))<|by rintro J F B h _ rfl;obtain⟨M,h1,U,X⟩:=h;subst M;exact⟨rfl,λh=>by simp at h,λ_=>⟨⟨rfl,h1,U,X⟩,rfl⟩⟩
end Go.Proofs.YtfiecdeonopcmaaGreatDoor
end
