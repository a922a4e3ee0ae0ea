/-
  Parts of the proofs that the laws of this seat hold of every input, merged by a program: a machine over pure data that is sound for the model, what each function of the translation does in it, and plain lemmas. No conditions but those in each theorem.
-/
import Derived.Test.YtcghahkoioeddaaGreatDoorA2
set_option linter.all false
set_option maxRecDepth 100000
noncomputable section
namespace Go.Cv
open Go Go.Bv Go.RowKit Go.Md
section
variable {T:Tab} {P:Program} {I:BT (TI T.den)}
theorem el_sl {t:TypeId} {a:Bool} {n:Nat} (h:Bv.elemOf P t=some (a,n)):isSliceT (P.underlying t):=by
 unfold Bv.elemOf at h;split at h
 ·rename_i e hu;rw[hu];trivial
 ·cases h
theorem kpc {t:TypeId} {x:TI T.den} (hx:TI.Ok P T t x) {v:TV T.den} {K:TV T.den->Prop} (hh:tLen T x v K):
  ∃u,K u/\lenOk (P.underlying t) (er T v)/\lenV (er T v)=er T u:=by
 unfold tLen at hh;split at hh
 ·rename_i e b hel;have hs:=el_sl (hx.el _ _ hel).1;split at hh
  ·rename_i v;obtain⟨h1,h2⟩:=cnd hh;rw[k1s h1];exact⟨_,h2,hs,rfl⟩
  ·exact⟨_,hh,hs,rfl⟩
  ·exact⟨_,hh,hs,rfl⟩
  ·cases hl:els e v with
   |none=>rw[hl]at hh;exact hh.elim
   |some l=>
    rw[hl]at hh;refine⟨_,hh,?_⟩;have h1:=els_erS hl;have hlen:(l.map (T.e e)).length=l.length:=qm ..;generalize er T v=y at h1;unfold V.els at h1;split at h1
    ·split at h1
     ·injection h1 with h1;subst h1;exact⟨hs,by simp only[lenV,hlen];rfl⟩
     ·cases h1
    ·split at h1
     ·injection h1 with h1;subst h1;exact⟨hs,by simp only[lenV,hlen];rfl⟩
     ·cases h1
    ·split at h1
     ·injection h1 with h1;subst h1;exact⟨hs,by simp only[lenV,hlen];rfl⟩
     ·cases h1
    ·injection h1 with h1;refine⟨hs,?_⟩;rw[<-hlen,<-h1];rfl
    ·cases h1
 ·split at hh
  ·rename_i s hu;exact⟨_,hh,by rw[hx.un _ hu];trivial,rfl⟩
  ·exact hh.elim
theorem k85 {s:TSt T.den} {o:Option Operand} {r:Option Int} (h:bndI T s o=some r) (d:Nat):
  isBnd (o.map (erS T s).ev)/\boundA d (o.map (erS T s).ev)=some (r.getD d)/\(o=none↔r=none):=by
 unfold bndI at h;split at h
 ·injection h with h;subst h;exact⟨trivial,rfl,by simp⟩
 ·rename_i o;split at h
  ·rename_i q n hn;injection h with h;subst h;simp only[qax,ev_er,asI_eq hn];exact⟨trivial,rfl,by simp⟩
  ·cases h
theorem rowS {id off len sz:Nat} {b:Bool} {lo hi:Option V} {lo' hi' :Option Int} (h1:isBnd lo) (h2:isBnd hi) (ha:boundA 0 lo=some (lo'.getD 0)) (hb:boundA len hi=some (hi'.getD (len:Int)))
  (q1:0<=lo'.getD 0) (q2:lo'.getD 0<=hi'.getD (len:Int)) (q3:hi'.getD (len:Int)<=(len:Int)):
  sliceOk (some (b,sz)) (.row id (off*sz) len sz) lo hi/\sliceV (some (b,sz)) (.row id (off*sz) len sz) lo hi= .row id ((off+(lo'.getD 0).toNat)*sz) ((hi'.getD (len:Int)).toNat-(lo'.getD 0).toNat) sz:=by
 refine⟨⟨rfl,h1,h2,?_,?_,?_⟩,?_⟩
 ·rw[ha];exact q1
 ·rw[ha,hb];exact q2
 ·rw[hb];exact q3
 ·simp only[sliceV,ha,hb,qbl,qbj]
theorem rowS4 {K:TV T.den->Prop} {b:Bool} {id:Nat} {e:Ty} {off len:Nat} {lo hi:Option Operand} {lo' hi' :Option Int} {k0:TV T.den} {k1 k2:Int->TV T.den} {k3:Int->Int->TV T.den}
  (hh:match lo',hi' with
    |none,none=>K k0
    |some a,none=>askO lo (0<=a) (a<=(len:Int)/\K (k1 a))
    |none,some b=>askO hi (0<=b) (b<=(len:Int)/\K (k2 b))
    |some a,some b=>askO lo (0<=a) (a<=b/\b<=(len:Int)/\K (k3 a b)))
  {s:TSt T.den} (hlo:bndI T s lo=some lo') (hhi:bndI T s hi=some hi') (hk0:er T k0= .row id (off*T.sz e) len (T.sz e)) (hk1:∀a,er T (k1 a)= .row id ((off+a.toNat)*T.sz e) (len-a.toNat) (T.sz e))
  (hk2:∀b,er T (k2 b)= .row id (off*T.sz e) b.toNat (T.sz e)) (hk3:∀a b,er T (k3 a b)= .row id ((off+a.toNat)*T.sz e) (b.toNat-a.toNat) (T.sz e)):
  ∃u,K u/\sliceOk (some (b,T.sz e)) (.row id (off*T.sz e) len (T.sz e)) (lo.map (erS T s).ev) (hi.map (erS T s).ev)/\sliceV (some (b,T.sz e)) (.row id (off*T.sz e) len (T.sz e)) (lo.map (erS T s).ev) (hi.map (erS T s).ev)=er T u:=by
 obtain⟨a1,a2,a3⟩:=k85 hlo 0;obtain⟨b1,b2,b3⟩:=k85 hhi len;cases lo' with
 |none=>
  cases hi' with
  |none=>obtain⟨g1,g2⟩:=rowS (sz:=T.sz e) (b:=b) (id:=id) (off:=off) a1 b1 a2 b2 qqs qqs qqs;refine⟨_,hh,g1,?_⟩;rw[g2,hk0];simp
  |some c=>simp only at hh;obtain⟨h1,h2,h3⟩:=k3c (fun h=>by cases b3.1 h) hh;obtain⟨g1,g2⟩:=rowS (sz:=T.sz e) (b:=b) (id:=id) (off:=off) a1 b1 a2 b2 qqs (by simpa using h1) (by simpa using h2);refine⟨_,h3,g1,?_⟩;rw[g2,hk2];simp
 |some a=>
  cases hi' with
  |none=>simp only at hh;obtain⟨h1,h2,h3⟩:=k3c (fun h=>by cases a3.1 h) hh;obtain⟨g1,g2⟩:=rowS (sz:=T.sz e) (b:=b) (id:=id) (off:=off) a1 b1 a2 b2 (by simpa using h1) (by simpa using h2) qqs;refine⟨_,h3,g1,?_⟩;rw[g2,hk1];simp
  |some c=>simp only at hh;obtain⟨h1,h2,h3,h4⟩:=k3c (fun h=>by cases a3.1 h) hh;obtain⟨g1,g2⟩:=rowS (sz:=T.sz e) (b:=b) (id:=id) (off:=off) a1 b1 a2 b2 (by simpa using h1) (by simpa using h2) (by simpa using h3);refine⟨_,h4,g1,?_⟩;rw[g2,hk3];simp
theorem kml {t:TypeId} {x:TI T.den} (hx:TI.Ok P T t x) {s:TSt T.den} {v:TV T.den} {lo hi:Option Operand} {K:TV T.den->Prop} (hh:tSlice T x s v lo hi K):
  ∃u,K u/\sliceOk (Bv.elemOf P t) (er T v) (lo.map (erS T s).ev) (hi.map (erS T s).ev)/\sliceV (Bv.elemOf P t) (er T v) (lo.map (erS T s).ev) (hi.map (erS T s).ev)=er T u:=by
 unfold tSlice at hh;split at hh
 ·rename_i e b hel;rw[(hx.el _ _ hel).1];split at hh
  ·rename_i lo' hi' hlo hhi;split at hh
   ·rename_i id e' len;obtain⟨h1,h2⟩:=cnd hh;obtain rfl:=Ty.eq_of_beq h1
    have:=rowS4 (b:=e'.agg) (id:=id) (e:=e') (off:=0) (len:=len) (k0:= .row id e' len) (k1:=fun a=> .view id e' a.toNat (len-a.toNat)) (k2:=fun b=> .view id e' 0 b.toNat) (k3:=fun a b=> .view id e' a.toNat (b.toNat-a.toNat)) h2 hlo hhi
     (by simp[er,er0,er1]) (by intro a;simp[er,er0,er1]) (by intro a;simp[er,er0,er1]) (by intro a b;simp[er,er0,er1])
    simpa[er,er0,er1]using this
   ·rename_i id e' off len;obtain⟨h1,h2⟩:=cnd hh;obtain rfl:=Ty.eq_of_beq h1
    exact rowS4 (b:=e'.agg) (id:=id) (e:=e') (off:=off) (len:=len) (k0:= .view id e' off len) (k1:=fun a=> .view id e' (off+a.toNat) (len-a.toNat)) (k2:=fun b=> .view id e' off b.toNat) (k3:=fun a b=> .view id e' (off+a.toNat) (b.toNat-a.toNat)) h2 hlo hhi
     rfl (fun _=>rfl) (fun _=>rfl) (fun _ _=>rfl)
   rename_i hr1 hr2;clear hr1 hr2;cases hl:els e v with
   |none=>rw[hl]at hh;exact hh.elim
   |some l=>
    rw[hl]at hh;simp only at hh;obtain⟨g1,g2⟩:=k4p hl;have hlen:(l.map (T.e e)).length=l.length:=qm ..;have hE:=els_erS hl;have htk:List.take l.length (List.map (T.e e) l)=List.map (T.e e) l:=by rw[<-hlen];exact qcn
    obtain⟨a1,a2,a3⟩:=k85 hlo 0;obtain⟨b1,b2,b3⟩:=k85 hhi l.length
    have key:sliceOk (some (e.agg,T.sz e)) (er T v) (lo.map (erS T s).ev) (hi.map (erS T s).ev)=sliceDOk (some (e.agg,T.sz e)) (er T v) (lo.map (erS T s).ev) (hi.map (erS T s).ev)/\
      sliceV (some (e.agg,T.sz e)) (er T v) (lo.map (erS T s).ev) (hi.map (erS T s).ev)=sliceDV (some (e.agg,T.sz e)) (er T v) (lo.map (erS T s).ev) (hi.map (erS T s).ev):=by
     generalize er T v=y at hE;cases y<;>first|exact⟨rfl,rfl⟩|cases hE
    rw[key.1,key.2]
    
    have ok:0<=lo'.getD 0->lo'.getD 0<=hi'.getD (l.length:Int)->hi'.getD (l.length:Int)<=(l.length:Int)->sliceDOk (some (e.agg,T.sz e)) (er T v) (lo.map (erS T s).ev) (hi.map (erS T s).ev):=by
     intro q1 q2 q3;refine⟨g2,a1,b1,?_,?_,?_⟩
     ·rw[a2];simpa using q1
     ·rw[a2,g1,hlen,b2];simpa using q2
     ·rw[g1,hlen,b2];simpa using q3
    have gen:∀(m:List (e.den T.den)),m.map (T.e e)=((l.map (T.e e)).take (hi'.getD (l.length:Int)).toNat).drop (lo'.getD 0).toNat->
      (∀v',v≠ .k v')->(∀e' l',v= .full e' l'->hi'≠none)->sliceDV (some (e.agg,T.sz e)) (er T v) (lo.map (erS T s).ev) (hi.map (erS T s).ev)=er T (.d (.sl e) m):=by
     intro m hm hk hf;have e1:er T (.d (.sl e) m)= .d (.slice (T.sz e) (((((er T v).elsD (T.sz e))).take ((boundA ((er T v).elsD (T.sz e)).length (hi.map (erS T s).ev)).getD 0).toNat).drop ((boundA 0 (lo.map (erS T s).ev)).getD 0).toNat)):=by rw[a2,g1,hlen,b2];show V.d (.slice (T.sz e) (m.map (T.e e)))=_;rw[hm];simp
     rw[e1];unfold els at hl;split at hl
     ·rfl
     ·rename_i e' l';have:=hf e' l' rfl;have hn:hi≠none:=fun h=>this (b3.1 h);obtain⟨o,ho⟩:=Option.ne_none_iff_exists'.1 hn;subst ho;rfl
     ·rfl
     ·exact(hk _ rfl).elim
     ·cases hl
    cases lo' with
    |none=>
     cases hi' with
     |none=>
      simp only at hh;have o1:=ok qqs qqs qqs;split at hh
      ·exact⟨_,hh,o1,rfl⟩
      ·refine⟨_,hh,o1,?_⟩;rename_i e' l';obtain⟨h1,h2,_⟩:=km hl;have hn:hi=none:=b3.2 rfl;subst hn;have hn2:lo=none:=a3.2 rfl;subst hn2;show V.full (T.sz e) (List.drop 0 (List.map (T.e e') l'))=V.full (T.sz e) (l.map (T.e e));rw[h2];rfl
      ·rename_i hk hf;exact⟨_,hh,o1,gen l (by simp[htk]) (fun v' h=>hk v' h) (fun e' l' h=>(hf e' l' h).elim)⟩
     |some b=>
      simp only at hh;obtain⟨h1,h2,h3⟩:=k3c (fun h=>by cases b3.1 h) hh;have o1:=ok qqs (by simpa using h1) (by simpa using h2);split at h3
      ·exact⟨_,h3,o1,rfl⟩
      ·rename_i hk;exact⟨_,h3,o1,gen _ (by simp[qby]) (fun v' h=>hk v' h) (fun _ _ _=>by simp)⟩
    |some a=>
     cases hi' with
     |none=>
      simp only at hh;obtain⟨h1,h2,h3⟩:=k3c (fun h=>by cases a3.1 h) hh;have o1:=ok (by simpa using h1) (by simpa using h2) qqs;split at h3
      ·exact⟨_,h3,o1,rfl⟩
      ·refine⟨_,h3,o1,?_⟩;rename_i e' l';obtain⟨h4,h5,_⟩:=km hl;have hn:hi=none:=b3.2 rfl;subst hn;show V.full (T.sz e) (List.drop ((boundA 0 (lo.map (erS T s).ev)).getD 0).toNat (List.map (T.e e') l'))=V.full (T.sz e) ((l.drop a.toNat).map (T.e e));rw[h5,a2,qcr];rfl
      ·rename_i hk hf;exact⟨_,h3,o1,gen _ (by simp[htk,qcr]) (fun v' h=>hk v' h) (fun e' l' h=>(hf e' l' h).elim)⟩
     |some b=>
      simp only at hh;obtain⟨h1,h2,h3,h4⟩:=k3c (fun h=>by cases a3.1 h) hh;have o1:=ok (by simpa using h1) (by simpa using h2) (by simpa using h3);split at h4
      ·exact⟨_,h4,o1,rfl⟩
      ·rename_i hk;exact⟨_,h4,o1,gen _ (by simp[qby,qcr]) (fun v' h=>hk v' h) (fun _ _ _=>by simp)⟩
  ·exact hh.elim
 ·exact hh.elim
theorem k3p {op:BinOp} {e:Bool} {K:TV T.den->Prop} (h:tEqB op e K):∃u,K u/\isEq op/\aggV op e=er T u:=by
 unfold tEqB at h;split at h
 ·exact⟨_,h,trivial,rfl⟩
 ·exact⟨_,h,trivial,rfl⟩
 ·exact h.elim
theorem kk3 {op:BinOp} {e:Bool} {K:TV T.den->Prop} (h:tEqK op e K):∃u,K u/\isEq op/\aggV op e=er T u:=by
 unfold tEqK at h;split at h
 ·exact⟨_,h,trivial,rfl⟩
 ·exact⟨_,h,trivial,rfl⟩
 ·exact h.elim
theorem isB_er {v:TV T.den} {b:Bool} (h:v.isB=some b):er1 T v= .d (.bool b)/\er T v= .d (.bool b):=by
 unfold TV.isB at h;split at h
 ·injection h with h;subst h;exact⟨rfl,rfl⟩
 ·injection h with h;subst h;exact⟨rfl,rfl⟩
 ·cases h
theorem kny:∀{ts:List TypeDesc} {l m:List (TV T.den)} {e:Bool},tEqL ts l m=some e->eqLOk ts (l.map (er1 T)) (m.map (er1 T))/\eqL (l.map (er1 T)) (m.map (er1 T))=e:=by
 intro ts;induction ts with
 |nil=>
  intro l m e h;cases l<;>cases m<;>simp only[tEqL]at h
  ·injection h with h;subst h;exact⟨trivial,rfl⟩
  all_goals cases h
 |cons t ts ih=>
  intro l m e h;unfold tEqL at h;split at h
  ·have hts:t::ts=[]:=by assumption
   cases hts
  ·rename_i k ts' k1 a l' k2 b m' hts;injection hts with h1 h2;subst h1;subst h2;cases hc:(decide (k1=k2)&&decide (k1=k))with
   |false=>rw[hc]at h;cases h
   |true=>
    rw[hc]at h;simp only[qg,qaf]at hc;obtain⟨rfl,rfl⟩:=hc;simp only[qdf]at h;split at h
    ·rename_i e' he;injection h with h;subst h;obtain⟨g1,g2⟩:=ih he;exact⟨⟨rfl,g1⟩,by show(@BEq.beq Int _ a b&&eqL _ _)=_;rw[g2]⟩
    ·cases h
  ·rename_i ts' x l' y m' hts;injection hts with h1 h2;subst h1;subst h2;split at h
   ·rename_i a b e' ha hb he;injection h with h;subst h;obtain⟨g1,g2⟩:=ih he;simp only[qae,(isB_er ha).1,(isB_er hb).1];exact⟨⟨trivial,g1⟩,by show(_&&eqL _ _)=_;rw[g2];rfl⟩
   ·cases h
  ·cases h
theorem k5w {v:Value} (h:isPtrK v=true):v= .pointer none:=by
 unfold isPtrK at h;split at h
 ·rfl
 ·cases h
theorem kp9 {yo:Operand} {op:BinOp} {k k' :IntKind} {a b:Int} {K:TV T.den->Prop} (h:tInt yo op k k' a b K):∃u,K u/\(sameK op k k'/\intOk op b)/\intV op k a b=er T u:=by
 unfold tInt at h;split at h
 ·obtain⟨h1,h2⟩:=ask_and h;exact⟨_,h2,⟨trivial,h1⟩,rfl⟩
 ·obtain⟨h1,h2⟩:=ask_and h;exact⟨_,h2,⟨trivial,h1⟩,rfl⟩
 ·obtain⟨h1,h2⟩:=cnd h;have hk:=qb h1;split at h2
  ·exact⟨_,h2,⟨hk,trivial⟩,rfl⟩
  ·exact⟨_,h2,⟨hk,trivial⟩,rfl⟩
  ·exact⟨_,h2,⟨hk,trivial⟩,rfl⟩
  ·obtain⟨h1,h2⟩:=ask_and h2;exact⟨_,h2,⟨hk,h1⟩,rfl⟩
  ·obtain⟨h1,h2⟩:=ask_and h2;exact⟨_,h2,⟨hk,h1⟩,rfl⟩
  ·exact⟨_,h2,⟨hk,trivial⟩,rfl⟩
  ·exact⟨_,h2,⟨hk,trivial⟩,rfl⟩
  ·exact⟨_,h2,⟨hk,trivial⟩,rfl⟩
  ·exact⟨_,h2,⟨hk,trivial⟩,rfl⟩
  ·exact⟨_,h2,⟨hk,trivial⟩,rfl⟩
  ·exact⟨_,h2,⟨hk,trivial⟩,rfl⟩
  ·exact⟨_,h2,⟨hk,trivial⟩,rfl⟩
  ·exact⟨_,h2,⟨hk,trivial⟩,rfl⟩
  ·exact⟨_,h2,⟨hk,trivial⟩,rfl⟩
  ·exact⟨_,h2,⟨hk,trivial⟩,rfl⟩
  ·exact h2.elim
theorem knr (l:List Int):byStr (l.map (D.int .u8))=strOfNums l:=by unfold byStr;rw[qbi];exact congrArg strOfNums ((qar (g:=id) fun _ _=>rfl).trans (List.map_id l))
theorem k9b {v:Value} (h:isMapK v=true):v= .map none:=by
 unfold isMapK at h;split at h
 ·rfl
 ·cases h
theorem ko2 {t:TypeId} {ti:TI T.den} (hx:TI.Ok P T t ti) {yo:Operand} {op:BinOp} {x y:TV T.den} {K:TV T.den->Prop} (h:tBin ti yo op x y K):
  ∃u,K u/\binOk (eqT P t) (P.underlying t) op (er T x) (er T y)/\binV op (er T x) (er T y)=er T u:=by
 have ptr:∀{e:Bool},(match ti.un with|some (.pointer _)=>tEqK op e K|_=>False)->∃u,K u/\(isEq op/\isPtrT (P.underlying t))/\aggV op e=er T u:=by
  intro e h;split at h
  ·rename_i hu;obtain⟨u,g1,g2,g3⟩:=kk3 h;exact⟨u,g1,⟨g2,by rw[hx.un _ hu];trivial⟩,g3⟩
  ·exact h.elim
 have mpr:∀{e:Bool},(match ti.un with|some (.map _ _)=>tEqK op e K|_=>False)->∃u,K u/\(isEq op/\isMapT (P.underlying t))/\aggV op e=er T u:=by
  intro e h;split at h
  ·rename_i hu;obtain⟨u,g1,g2,g3⟩:=kk3 h;exact⟨u,g1,⟨g2,by rw[hx.un _ hu];trivial⟩,g3⟩
  ·exact h.elim
 unfold tBin at h;split at h
 ·exact kp9 h
 ·split at h
  ·rename_i ts hts;split at h
   ·rename_i e he;obtain⟨g1,g2⟩:=kny he;obtain⟨u,q1,q2,q3⟩:=k3p h;refine⟨u,q1,⟨q2,by rw[hx.eq _ hts];exact g1⟩,?_⟩;rw[<-q3,<-g2];rfl
   ·exact h.elim
  ·exact h.elim
 ·obtain⟨h1,h2⟩:=cnd h;rw[k5w h1];exact ptr h2
 ·obtain⟨h1,h2⟩:=cnd h;rw[k5w h1];exact ptr h2
 ·obtain⟨h1,h2⟩:=cnd h;rw[k9b h1];exact mpr h2
 ·rename_i u v;cases h1:isPtrK u&&isPtrK v with
  |true=>rw[h1]at h;simp only[qg]at h1;rw[k5w h1.1,k5w h1.2];exact ptr h
  |false=>rw[h1]at h;obtain⟨h1,h2⟩:=cnd h;simp only[qg]at h1;rw[k9b h1.1,k9b h1.2];exact mpr h2
 ·obtain⟨u,q1,q2,q3⟩:=k3p h;exact⟨u,q1,q2,q3⟩
 ·split at h
  ·rename_i a b ha hb hu;obtain⟨u,q1,q2,q3⟩:=k3p h;rw[(isB_er ha).2,(isB_er hb).2];exact⟨u,q1,⟨q2,by rw[hx.un _ hu];trivial⟩,q3⟩
  ·exact h.elim
theorem toB_er (v:TV T.den):er T v.toB=er T v:=by cases v<;>rfl
theorem knx {c a b:TV T.den} {K:TV T.den->Prop} (h:tPick c a b K):∃u,K u/\pickOk (er T c)/\pickV (er T c) (er T a) (er T b)=er T u:=by
 unfold tPick at h;split at h
 ·exact⟨_,h,rfl,k7r _ _⟩
 ·exact⟨_,h,rfl,k6f _ _⟩
 ·rename_i t;split at h
  ·rename_i ta x tb y ha hb;split at h
   ·rename_i y' hy;obtain⟨rfl,rfl⟩:=Ty.cast_some hy;refine⟨_,h,rfl,?_⟩;rw[<-toB_er a,<-toB_er b,ha,hb];cases t
    ·exact k6f _ _
    ·exact k7r _ _
   ·exact h.elim
  ·exact h.elim
 ·exact h.elim
theorem kgn:∀{l:List (TV T.den)} {m:List (Option (Nat×Nat))},tcaps T l=some m->(l.map (er T)).map capV=m
 |[],m,h=>by injection h
 | .ptr id off::r,m,h=>by
  simp only[tcaps]at h;cases hr:tcaps T r with
  |none=>rw[hr]at h;cases h
  |some n=>rw[hr]at h;injection h with h;rw[<-h,<-kgn hr];rfl
 | .any::_,_,h=>by cases h
 | .k _::_,_,h=>by cases h
 | .lit _::_,_,h=>by cases h
 | .d _ _::_,_,h=>by cases h
 | .full _ _::_,_,h=>by cases h
 | .own _ _ _::_,_,h=>by cases h
 | .aptr _ _ _ _::_,_,h=>by cases h
 | .ro _::_,_,h=>by cases h
 | .row _ _ _::_,_,h=>by cases h
 | .view _ _ _ _::_,_,h=>by cases h
 | .eptr _ _ _ _::_,_,h=>by cases h
 | .mp _::_,_,h=>by cases h
 | .clo _ _ _::_,_,h=>by cases h
 | .agg _::_,_,h=>by cases h
 | .tup _::_,_,h=>by cases h
theorem tq_snd (hT:T.Ok) (hI:InfoOk P T I) {s:TSt T.den} {K:TV T.den->Prop} {op:Op} (h:tq T I s K op):
  ∃u,K u/\avOk P (erS T s).h (erS T s).ev op/\av P (erS T s).h (erS T s).ev op=er T u:=by
 cases op with
 |move x=>exact⟨_,h,trivial,ev_er s x⟩
 |assign x=>exact⟨_,h,trivial,ev_er s x⟩
 |makeFunc fn fs cs=>
  simp only[tq]at h;split at h
  ·rename_i g l hc;refine⟨_,h,trivial,?_⟩;have e:=kgn hc;have ea:cs.toList.map (erS T s).ev=(cs.toList.map s.ev).map (er T):=by rw[qbi];exact qar fun p _=>by simp only[Function.comp,ev_er]
   show mkFn (.func g) fs.size (cs.toList.map (erS T s).ev)=_;rw[ea,mkFn,e];rfl
  ·exact h.elim
 |pick c a b=>simp only[avOk,av,ev_er];exact knx h
 |load t a=>simp only[avOk,av,ev_er];exact kgu hT (hI.of t) h
 |fieldAddr t x f=>simp only[avOk,av,ev_er];exact kma (hI.of t) h
 |field t x f=>
  simp only[avOk,av,ev_er];simp only[tq]at h;split at h
  ·rename_i o a n l hf hv;rw[(hI.of t).fl _ _ hf,hv];exact k2r h
  ·exact h.elim
 |indexAddr t x i=>simp only[avOk,av,ev_er];exact kmf hT (hI.of t) h
 |index t x i=>simp only[avOk,av,ev_er];exact km3 (hI.of t) h
 |extract x i=>
  simp only[avOk,av,ev_er];simp only[tq]at h;split at h
  ·rename_i l hv;rw[hv];split at h
   ·rename_i v hi;cases hb:v.tupB with
    |true=>rw[hb]at h;exact h.elim
    |false=>rw[hb]at h;have hlt:i<l.length:=(qf.1 hi).1;refine⟨_,h,by simpa[er,extOk]using hlt,?_⟩;simp only[er,extV,ql,hi,qax,qbl];cases v<;>first|rfl|cases hb
   ·exact h.elim
  ·exact h.elim
 |binOp op t x y t' =>simp only[avOk,av,ev_er];exact ko2 (hI.of t) h
 |unOp op t x=>
  simp only[avOk,av,ev_er];simp only[tq,tUn]at h;split at h
  ·rename_i hv;rw[hv];exact⟨_,h,rfl,rfl⟩
  ·rename_i hv;rw[hv];exact⟨_,h,rfl,rfl⟩
  ·split at h
   ·rename_i k n hn;rw[asI_eq hn];exact⟨_,h,rfl,rfl⟩
   ·exact h.elim
  ·exact h.elim
 |convert a b x=>
  simp only[avOk,av,ev_er];simp only[tq,tConv]at h;split at h
  ·rename_i q n k hn hu;obtain⟨h1,h2⟩:=cnd h;rw[asI_eq hn];obtain⟨u,hu2⟩:=qab.1 h1;exact⟨_,h2,⟨by rw[(hI.of a).un _ hu2];rfl,by rw[(hI.of b).un _ hu];trivial⟩,by rw[(hI.of b).un _ hu];rfl⟩
  ·rename_i hn hu;split at h
   ·rename_i l hse hl;have hl' :els (.int .u8) (s.ev x)=some l:=hl;have h1:=els_erS hl'
    have h8:isB8 P a:=by
     unfold elUn at hse;split at hse
     ·rename_i e he;unfold isB8;rw[(hI.of a).un _ he];exact(hI.of e).un _ hse
     ·cases hse
    have he1:(er T (s.ev x)).els 1=some (l.map (D.int .u8)):=h1;have ni:∀q n,er T (s.ev x)≠ .d (.int q n):=fun q n e=>by rw[e]at he1;cases he1
    have hb:(l.map (D.int .u8)).all D.isB=true:=qbw.2 fun d hd=>by obtain⟨n,_,rfl⟩:=qag.1 hd;rfl
    have hn:byStr (l.map (D.int .u8))=strOfNums l:=knr l;refine⟨_,h,?_,?_⟩
    ·unfold convOk;split
     ·rename_i q n e;exact(ni _ _ e).elim
     ·exact⟨h8,(hI.of b).un _ hu,_,he1,hb⟩
    ·unfold convV;split
     ·rename_i q n e;exact(ni _ _ e).elim
     ·rw[he1];show V.d (.str (byStr _))=_;rw[hn];rfl
   ·exact h.elim
  ·exact h.elim
 |slice t x lo hi mx=>
  simp only[tq]at h;cases mx with
  |some m=>exact h.elim
  |none=>simp only[avOk,av];rw[ev_er];obtain⟨u,g1,g2,g3⟩:=kml (hI.of t) h;exact⟨u,g1,⟨by first|rfl|trivial,g2⟩,g3⟩
 |nilCheck x=>
  simp only[avOk,av,ev_er];simp only[tq,tNilCk]at h;split at h
  ·rename_i hv;rw[hv];exact⟨_,h,trivial,rfl⟩
  ·rename_i hv;rw[hv];exact⟨_,h,trivial,rfl⟩
  ·rename_i hv;rw[hv];exact⟨_,h,trivial,rfl⟩
  ·rename_i hv;rw[hv];exact⟨_,h,trivial,rfl⟩
  ·exact h.elim
 |call c=>
  obtain⟨callee,args,argTypes⟩:=c;simp only[tq]at h;split at h
  ·obtain⟨h1,h2⟩:=cnd h;simp only[qg]at h1;obtain⟨u,g1,g2,g3⟩:=kpc (hI.of _) h2;rw[<-ev_er]at g2 g3;exact⟨u,g1,⟨⟨by first|rfl|trivial,nb_eq h1.1,nb_eq h1.2⟩,g2⟩,g3⟩
  ·obtain⟨h1,h2⟩:=cnd h;unfold tMin at h2;split at h2
   ·rename_i k a q b hx hy;have e1:(erS T s).ev (args.getD 0 (.const .nilIface))= .d (.int k a):=by rw[ev_er];exact congrArg (er T) (asI_eq hx)
    have e2:(erS T s).ev (args.getD 1 (.const .nilIface))= .d (.int q b):=by rw[ev_er];exact congrArg (er T) (asI_eq hy)
    refine⟨_,h2,⟨nb_eq h1,?_⟩,?_⟩
    ·show twoInts _ _;rw[e1,e2];trivial
    ·show minV _ _=_;rw[e1,e2];rfl
   ·exact h2.elim
  ·obtain⟨h1,h2⟩:=cnd h;unfold tMax at h2;split at h2
   ·rename_i k a q b hx hy;have e1:(erS T s).ev (args.getD 0 (.const .nilIface))= .d (.int k a):=by rw[ev_er];exact congrArg (er T) (asI_eq hx)
    have e2:(erS T s).ev (args.getD 1 (.const .nilIface))= .d (.int q b):=by rw[ev_er];exact congrArg (er T) (asI_eq hy)
    refine⟨_,h2,⟨nb_eq h1,?_⟩,?_⟩
    ·show twoInts _ _;rw[e1,e2];trivial
    ·show maxV _ _=_;rw[e1,e2];rfl
   ·exact h2.elim
  ·exact h.elim
 |_=>exact h.elim
end
end Go.Cv
namespace Go.Cv
open Go Go.Bv Go.RowKit Go.Md
inductive KC where
 |nilPtr
 |nilMap
 |nilSlice
 |nilFunc
 |undef
 |fn (f:Nat)
def KC.v:KC->Value
 | .nilPtr=> .pointer none
 | .nilMap=> .map none
 | .nilSlice=> .slice none 0 0
 | .nilFunc=> .nilFunc
 | .undef=>Go.undef
 | .fn f=> .func (.func f) #[] #[]
def KC.is:KC->Value->Bool
 | .nilPtr,.pointer none=>true
 | .nilMap,.map none=>true
 | .nilSlice,v=>isNilK v
 | .nilFunc,.nilFunc=>true
 | .undef,.tuple a=>Nat.beq a.size 0
 | .fn f,.func (.func g) a b=>Nat.beq f g&&Nat.beq a.size 0&&Nat.beq b.size 0
 |_,_=>false
inductive Sh1 where
 |any
 |k (c:KC)
 |d (t:Ty)
 |full (e:Ty)
 |own (tok:Nat)
 |ptr (id off:Nat)
 |row (id:Nat)
 |view (id:Nat)
 |mp (id:Nat)
 |clo (g:Nat) (fs cs:List (Option (Nat×Nat)))
inductive Sh0 where
 |one (s:Sh1)
 |agg (l:List Sh1)
inductive Sh where
 |one (s:Sh0)
 |tup (l:List Sh0)
inductive OSh where
 |cells (l:List Sh1)
 |tip (e:Ty)
 |vec (e:Ty)
 |map (k v:Ty)
 |it (j:Nat) (k v:Ty)
 |dead
def hs1 (s:Sh1) (r:List Ty):List Ty:=match s with
 | .d t=>t::r
 | .full e=> .sl e::r
 | .view _=> .int .i64:: .int .i64::r
 |_=>r
def hsL:List Sh1->List Ty->List Ty
 |[],r=>r
 |s::l,r=>hs1 s (hsL l r)
def hs0 (s:Sh0) (r:List Ty):List Ty:=match s with
 | .one s=>hs1 s r
 | .agg l=>hsL l r
def hsT:List Sh0->List Ty->List Ty
 |[],r=>r
 |s::l,r=>hs0 s (hsT l r)
def hsV (s:Sh) (r:List Ty):List Ty:=match s with
 | .one s=>hs0 s r
 | .tup l=>hsT l r
def hsO1 (o:OSh) (r:List Ty):List Ty:=match o with
 | .cells l=>hsL l r
 |_=>r
def hsC:List OSh->List Ty->List Ty
 |[],r=>r
 |o::l,r=>hsO1 o (hsC l r)
def hsB:List OSh->List Ty
 |[]=>[]
 | .tip e::l=> .sl e::hsB l
 | .vec e::l=> .sl e::hsB l
 | .map k v::l=> .sl k:: .sl v::hsB l
 | .it _ k v::l=> .sl k:: .sl v::hsB l
 | .cells _::l=>hsB l
 | .dead::l=>hsB l
abbrev hsOs (l:List OSh):List Ty:=hsC l (hsB l)
section
variable {S:Nat->Type}
def tkB:(l:List OSh)->HL S (hsB l)->List (Option (TOb S))
 |[],_=>[]
 | .tip e::l,x=>some (.tip e x.1)::tkB l x.2
 | .vec e::l,x=>some (.vec e x.1)::tkB l x.2
 | .map k v::l,x=>some (.map k v x.1 x.2.1)::tkB l x.2.2
 | .it j k v::l,x=>some (.it j k v x.1 x.2.1 none)::tkB l x.2.2
 | .cells _::l,x=>none::tkB l x
 | .dead::l,x=>none::tkB l x
def fget (f:List (Option (TOb S))) (j:Nat):Option (TOb S):=match f[j]? with
 |some (some o)=>some o
 |_=>none
def ownT (k:Nat):Option (TOb S)->TV S
 |some (.tip e l)=> .own k e l
 |_=> .any
def rowT (k:Nat):Option (TOb S)->TV S
 |some (.vec e l)=> .row k e l.length
 |_=> .any
def viewT (k:Nat) (o n:Int):Option (TOb S)->TV S
 |some (.vec e _)=> .view k e o.toNat n.toNat
 |_=> .any
def flatG:Option (TOb S)->TOb S
 |some (.it _ _ _ _ _ _)=> .dead
 |some (.foc _ _ _ _ _ _ _)=> .dead
 |some o=>o
 |none=> .dead
def itG (m:Nat):Option (TOb S)->TOb S
 |some (.it _ a b x y l)=> .it m a b x y l
 |_=> .dead
section
variable (σ:Nat->Nat) (f:List (Option (TOb S)))
def tk1:(s:Sh1)->(r:List Ty)->HL S (hs1 s r)->TV S×HL S r
 | .any,_,x=>(.any,x)
 | .k c,_,x=>(.k c.v,x)
 | .d t,_,x=>(.d t x.1,x.2)
 | .full e,_,x=>(.full e x.1,x.2)
 | .own j,_,x=>(ownT (σ j) (fget f j),x)
 | .ptr j off,_,x=>(.ptr (σ j) off,x)
 | .row j,_,x=>(rowT (σ j) (fget f j),x)
 | .view j,_,x=>(viewT (σ j) x.1 x.2.1 (fget f j),x.2.2)
 | .mp j,_,x=>(.mp (σ j),x)
 | .clo g fs cs,_,x=>(.clo g (renP σ fs) (renP σ cs),x)
def tkL:(l:List Sh1)->(r:List Ty)->HL S (hsL l r)->List (TV S)×HL S r
 |[],_,x=>([],x)
 |s::l,r,x=>((tk1 σ f s (hsL l r) x).1::(tkL l r (tk1 σ f s (hsL l r) x).2).1,(tkL l r (tk1 σ f s (hsL l r) x).2).2)
def tk0:(s:Sh0)->(r:List Ty)->HL S (hs0 s r)->TV S×HL S r
 | .one s,r,x=>tk1 σ f s r x
 | .agg l,r,x=>(.agg (tkL σ f l r x).1,(tkL σ f l r x).2)
def tkT:(l:List Sh0)->(r:List Ty)->HL S (hsT l r)->List (TV S)×HL S r
 |[],_,x=>([],x)
 |s::l,r,x=>((tk0 σ f s (hsT l r) x).1::(tkT l r (tk0 σ f s (hsT l r) x).2).1,(tkT l r (tk0 σ f s (hsT l r) x).2).2)
def tkV:(s:Sh)->(r:List Ty)->HL S (hsV s r)->TV S×HL S r
 | .one s,r,x=>tk0 σ f s r x
 | .tup l,r,x=>(.tup (tkT σ f l r x).1,(tkT σ f l r x).2)
def tkO1 (g:Option (TOb S)):(o:OSh)->(r:List Ty)->HL S (hsO1 o r)->TOb S×HL S r
 | .cells l,r,x=>(.cells (tkL σ f l r x).1,(tkL σ f l r x).2)
 | .tip _,_,x=>(flatG g,x)
 | .vec _,_,x=>(flatG g,x)
 | .map _ _,_,x=>(flatG g,x)
 | .it j _ _,_,x=>(itG (σ j) g,x)
 | .dead,_,x=>(.dead,x)
def tkC:(k:Nat)->(l:List OSh)->(r:List Ty)->HL S (hsC l r)->List (TOb S)×HL S r
 |_,[],_,x=>([],x)
 |k,o::l,r,x=>((tkO1 σ f (fget f k) o (hsC l r) x).1::(tkC (k+1) l r (tkO1 σ f (fget f k) o (hsC l r) x).2).1,(tkC (k+1) l r (tkO1 σ f (fget f k) o (hsC l r) x).2).2)
end
def dr1:(s:Sh1)->(r:List Ty)->HL S (hs1 s r)->HL S r
 | .any,_,x=>x
 | .k _,_,x=>x
 | .d _,_,x=>x.2
 | .full _,_,x=>x.2
 | .own _,_,x=>x
 | .ptr _ _,_,x=>x
 | .row _,_,x=>x
 | .view _,_,x=>x.2.2
 | .mp _,_,x=>x
 | .clo _ _ _,_,x=>x
def drL:(l:List Sh1)->(r:List Ty)->HL S (hsL l r)->HL S r
 |[],_,x=>x
 |s::l,r,x=>drL l r (dr1 s (hsL l r) x)
def dr0:(s:Sh0)->(r:List Ty)->HL S (hs0 s r)->HL S r
 | .one s,r,x=>dr1 s r x
 | .agg l,r,x=>drL l r x
def drT:(l:List Sh0)->(r:List Ty)->HL S (hsT l r)->HL S r
 |[],_,x=>x
 |s::l,r,x=>drT l r (dr0 s (hsT l r) x)
def drV:(s:Sh)->(r:List Ty)->HL S (hsV s r)->HL S r
 | .one s,r,x=>dr0 s r x
 | .tup l,r,x=>drT l r x
def drO1:(o:OSh)->(r:List Ty)->HL S (hsO1 o r)->HL S r
 | .cells l,r,x=>drL l r x
 | .tip _,_,x=>x
 | .vec _,_,x=>x
 | .map _ _,_,x=>x
 | .it _ _ _,_,x=>x
 | .dead,_,x=>x
def drC:(l:List OSh)->(r:List Ty)->HL S (hsC l r)->HL S r
 |[],_,x=>x
 |o::l,r,x=>drC l r (drO1 o (hsC l r) x)
def mtB (h:THp S) (σ:Nat->Nat):(k:Nat)->(l:List OSh)->Option (HL S (hsB l))
 |_,[]=>some ()
 |k,.tip e::l=>match getH h (σ k)with
  |some (.tip e' x)=>match castL e' e x with
   |some x=>match mtB h σ (k+1) l with
    |some y=>some (x,y)
    |none=>none
   |none=>none
  |_=>none
 |k,.vec e::l=>match getH h (σ k)with
  |some (.vec e' x)=>match castL e' e x with
   |some x=>match mtB h σ (k+1) l with
    |some y=>some (x,y)
    |none=>none
   |none=>none
  |_=>none
 |k,.map a b::l=>match getH h (σ k)with
  |some (.map a' b' x y)=>match castL a' a x,castL b' b y with
   |some x,some y=>match mtB h σ (k+1) l with
    |some z=>some (x,y,z)
    |none=>none
   |_,_=>none
  |_=>none
 |k,.it j a b::l=>match getH h (σ k)with
  |some (.it m a' b' x y _)=>match castL a' a x,castL b' b y,Nat.beq m (σ j)with
   |some x,some y,true=>match mtB h σ (k+1) l with
    |some z=>some (x,y,z)
    |none=>none
   |_,_,_=>none
  |_=>none
 |k,.cells _::l=>mtB h σ (k+1) l
 |k,.dead::l=>mtB h σ (k+1) l
section
variable (σ:Nat->Nat) (f:List (Option (TOb S)))
def mtOwn {β:Type} (k tok:Nat) (e:Ty) (l:List (e.den S)) (g:Option (TOb S)) (a:β) (K:β->Prop):Prop:=match g with
 |some (.tip e' l')=>bif Nat.beq tok k then(match castL e e' l with
  |some l=>l=l'/\K a
  |none=>False)else False
 |_=>False
def mtRow {β:Type} (k id:Nat) (e:Ty) (n:Nat) (g:Option (TOb S)) (a:β) (K:β->Prop):Prop:=match g with
 |some (.vec e' l')=>bif Nat.beq id k&&e.beq e' then n=l'.length/\K a else False
 |_=>False
def mtView {β:Type} (k id:Nat) (e:Ty) (g:Option (TOb S)) (a:β) (K:β->Prop):Prop:=match g with
 |some (.vec e' _)=>bif Nat.beq id k&&e.beq e' then K a else False
 |_=>False
def eqP:List (Option (Nat×Nat))->List (Option (Nat×Nat))->Bool
 |[],[]=>true
 |_::l,none::m=>eqP l m
 |some p::l,some q::m=>Nat.beq p.1 q.1&&Nat.beq p.2 q.2&&eqP l m
 |_,_=>false
def mt1:(s:Sh1)->(r:List Ty)->TV S->HL S r->(HL S (hs1 s r)->Prop)->Prop
 | .any,_,_,a,K=>K a
 | .k c,_,v,a,K=>match v with
  | .k v=>bif c.is v then K a else False
  |_=>False
 | .d t,_,v,a,K=>match toEl1 t v with
  |some x=>K (x,a)
  |none=>False
 | .full e,_,v,a,K=>match v with
  | .full e' l=>match castL e' e l with
   |some x=>K (x,a)
   |none=>False
  | .k v=>bif isNilK v then K ([],a)else False
  |_=>False
 | .own j,_,v,a,K=>match v with
  | .own tok e l=>mtOwn (σ j) tok e l (fget f j) a K
  |_=>False
 | .ptr j off,_,v,a,K=>match v with
  | .ptr id off' =>bif Nat.beq id (σ j)&&Nat.beq off' off then K a else False
  |_=>False
 | .row j,_,v,a,K=>match v with
  | .row id e n=>mtRow (σ j) id e n (fget f j) a K
  |_=>False
 | .view j,_,v,a,K=>match v with
  | .row id e n=>mtView (σ j) id e (fget f j) ((0:Int),(n:Int),a) K
  | .view id e off n=>mtView (σ j) id e (fget f j) ((off:Int),(n:Int),a) K
  |_=>False
 | .mp j,_,v,a,K=>match v with
  | .mp id=>bif Nat.beq id (σ j)then K a else False
  |_=>False
 | .clo g fs cs,_,v,a,K=>match v with
  | .clo g' fs' cs' =>bif Nat.beq g' g&&eqP fs' (renP σ fs)&&eqP cs' (renP σ cs)then K a else False
  |_=>False
def mtL:(l:List Sh1)->(r:List Ty)->List (TV S)->HL S r->(HL S (hsL l r)->Prop)->Prop
 |[],_,[],a,K=>K a
 |s::l,r,v::vs,a,K=>mtL l r vs a fun b=>mt1 σ f s (hsL l r) v b K
 |_,_,_,_,_=>False
def mt0:(s:Sh0)->(r:List Ty)->TV S->HL S r->(HL S (hs0 s r)->Prop)->Prop
 | .one s,r,v,a,K=>mt1 σ f s r v a K
 | .agg l,r,v,a,K=>match v with
  | .agg vs=>mtL σ f l r vs a K
  |_=>False
def mtT:(l:List Sh0)->(r:List Ty)->List (TV S)->HL S r->(HL S (hsT l r)->Prop)->Prop
 |[],_,[],a,K=>K a
 |s::l,r,v::vs,a,K=>mtT l r vs a fun b=>mt0 σ f s (hsT l r) v b K
 |_,_,_,_,_=>False
def mtV:(s:Sh)->(r:List Ty)->TV S->HL S r->(HL S (hsV s r)->Prop)->Prop
 | .one s,r,v,a,K=>mt0 σ f s r v a K
 | .tup l,r,v,a,K=>match v with
  | .tup vs=>mtT σ f l r vs a K
  |_=>False
def mtO1 (h:THp S) (k:Nat):(o:OSh)->(r:List Ty)->HL S r->(HL S (hsO1 o r)->Prop)->Prop
 | .cells l,r,a,K=>match getH h (σ k)with
  |some (.cells vs)=>mtL σ f l r vs a K
  |_=>False
 | .tip _,_,a,K=>K a
 | .vec _,_,a,K=>K a
 | .map _ _,_,a,K=>K a
 | .it _ _ _,_,a,K=>K a
 | .dead,_,a,K=>K a
def mtC (h:THp S):(k:Nat)->(l:List OSh)->(r:List Ty)->HL S r->(HL S (hsC l r)->Prop)->Prop
 |_,[],_,a,K=>K a
 |k,o::l,r,a,K=>mtC h (k+1) l r a fun b=>mtO1 σ f h k o (hsC l r) b K
end
def eqH:(ts:List Ty)->HL S ts->HL S ts->Prop
 |[],_,_=>True
 |[_],x,y=>x.1=y.1
 |_::t::r,x,y=>x.1=y.1/\eqH (t::r) x.2 y.2
end
structure Con (S:Nat->Type) where
 f:Nat
 ins:List Sh0
 pre:List OSh
 res:Sh
 post:List OSh
 R:HL S (hsT ins (hsOs pre))->(HL S (hsV res (hsOs post))->Prop)->Prop
 
 alt:Bool
structure XCon (S:Nat->Type) where
 f:Nat
 ins:List Ty
 out:List Ty
 ok:HL S ins->Prop
 val:HL S ins->HL S out
section
variable {S:Nat->Type}
def idf (j:Nat):Nat:=j
def Con.fi (c:Con S) (x:HL S (hsT c.ins (hsOs c.pre))):List (Option (TOb S)):=tkB c.pre (drC c.pre _ (drT c.ins _ x))
def Con.fo (c:Con S) (x:HL S (hsV c.res (hsOs c.post))):List (Option (TOb S)):=tkB c.post (drC c.post _ (drV c.res _ x))
def Con.args (c:Con S) (σ:Nat->Nat) (x:HL S (hsT c.ins (hsOs c.pre))):List (TV S):=(tkT σ (c.fi x) c.ins _ x).1
def Con.obs (c:Con S) (σ:Nat->Nat) (x:HL S (hsT c.ins (hsOs c.pre))):List (TOb S):=(tkC σ (c.fi x) 0 c.pre _ (drT c.ins _ x)).1
def Con.val (c:Con S) (σ:Nat->Nat) (x:HL S (hsV c.res (hsOs c.post))):TV S:=(tkV σ (c.fo x) c.res _ x).1
def Con.ops (c:Con S) (σ:Nat->Nat) (x:HL S (hsV c.res (hsOs c.post))):List (TOb S):=(tkC σ (c.fo x) 0 c.post _ (drV c.res _ x)).1
def bdP (env:List (Nat×Nat)):List (Option (Nat×Nat))->List (Option (Nat×Nat))->List (Nat×Nat)
 |some p::l,some q::m=>bdP ((p.1,q.1)::env) l m
 |_::l,_::m=>bdP env l m
 |_,_=>env
def bd1 (env:List (Nat×Nat)):Sh1->TV S->List (Nat×Nat)
 | .own j,.own tok _ _=>(j,tok)::env
 | .ptr j _,.ptr id _=>(j,id)::env
 | .row j,.row id _ _=>(j,id)::env
 | .view j,.row id _ _=>(j,id)::env
 | .view j,.view id _ _ _=>(j,id)::env
 | .mp j,.mp id=>(j,id)::env
 | .clo _ fs cs,.clo _ fs' cs' =>bdP (bdP env fs fs') cs cs'
 |_,_=>env
def bdL (env:List (Nat×Nat)):List Sh1->List (TV S)->List (Nat×Nat)
 |s::l,v::vs=>bdL (bd1 env s v) l vs
 |_,_=>env
def bd0 (env:List (Nat×Nat)):Sh0->TV S->List (Nat×Nat)
 | .one s,v=>bd1 env s v
 | .agg l,.agg vs=>bdL env l vs
 |_,_=>env
def bdT (env:List (Nat×Nat)):List Sh0->List (TV S)->List (Nat×Nat)
 |s::l,v::vs=>bdT (bd0 env s v) l vs
 |_,_=>env
def envGet:List (Nat×Nat)->Nat->Option Nat
 |[],_=>none
 |p::r,j=>bif Nat.beq j p.1 then some p.2 else envGet r j
def bdO (h:THp S) (env:List (Nat×Nat)):OSh->Option Nat->List (Nat×Nat)
 | .cells l,some id=>match getH h id with
  |some (.cells vs)=>bdL env l vs
  |_=>env
 |_,_=>env
def bdOs (h:THp S):Nat->List OSh->List (Nat×Nat)->List Nat->Option (List Nat)
 |_,[],_,acc=>some acc.reverse
 |k,o::os,env,acc=>match envGet env k with
  |some id=>bdOs h (k+1) os (bdO h env o (some id)) (id::acc)
  |none=>none
def memB:Nat->List Nat->Bool
 |_,[]=>false
 |x,y::r=>Nat.beq x y||memB x r
def nodupB:List Nat->Bool
 |[]=>true
 |x::r=> !memB x r&&nodupB r
def allLt (n:Nat):List Nat->Bool
 |[]=>true
 |x::r=>Nat.blt x n&&allLt n r
def okPB (m:Nat):List (Option (Nat×Nat))->Bool
 |[]=>true
 |some p::r=>Nat.blt p.1 m&&okPB m r
 |none::r=>okPB m r
def ok1B (m:Nat):Sh1->Bool
 | .own j=>Nat.blt j m
 | .ptr j _=>Nat.blt j m
 | .row j=>Nat.blt j m
 | .view j=>Nat.blt j m
 | .mp j=>Nat.blt j m
 | .clo _ fs cs=>okPB m fs&&okPB m cs
 |_=>true
def okLB (m:Nat):List Sh1->Bool
 |[]=>true
 |s::l=>ok1B m s&&okLB m l
def ok0B (m:Nat):Sh0->Bool
 | .one s=>ok1B m s
 | .agg l=>okLB m l
def okTB (m:Nat):List Sh0->Bool
 |[]=>true
 |s::l=>ok0B m s&&okTB m l
def okVB (m:Nat):Sh->Bool
 | .one s=>ok0B m s
 | .tup l=>okTB m l
def okOB (m:Nat):OSh->Bool
 | .cells l=>okLB m l
 | .it j _ _=>Nat.blt j m
 |_=>true
def okOsB (m:Nat):List OSh->Bool
 |[]=>true
 |s::l=>okOB m s&&okOsB m l
def preNoDead:List OSh->Bool
 |[]=>true
 | .dead::_=>false
 |_::r=>preNoDead r
def noItS:List OSh->Bool
 |[]=>true
 | .it _ _ _::_=>false
 |_::r=>noItS r
def noItG (h:THp S):THp S->Bool
 |[]=>true
 |(i,.it _ _ _ _ _ _)::r=>(match getH h i with
  |some (.it _ _ _ _ _ _)=>false
  |_=>true)&&noItG h r
 |_::r=>noItG h r
def noItT (h:THp S):Bool:=noItG h h
def freshNoTip (dr:Bool) (n:Nat) (post:List OSh):Bool:=match dr with
 |true=>(post.drop n).all fun o=>match o with
  | .tip _=>false
  |_=>true
 |false=>true
def kind1B (l:List OSh):Sh1->Bool
 | .own j=>match l[j]? with
  |some (.tip _)=>true
  |_=>false
 | .row j=>match l[j]? with
  |some (.vec _)=>true
  |_=>false
 | .view j=>match l[j]? with
  |some (.vec _)=>true
  |_=>false
 | .mp j=>match l[j]? with
  |some (.map _ _)=>true
  |_=>false
 | .d t=> !t.agg
 |_=>true
def one1B:Sh1->Bool
 | .any=>false
 | .k .undef=>false
 | .d t=> !t.agg
 |_=>true
def kindLB (l:List OSh):List Sh1->Bool
 |[]=>true
 |s::r=>kind1B l s&&one1B s&&kindLB l r
def kind0B (l:List OSh):Sh0->Bool
 | .one s=>kind1B l s
 | .agg c=>kindLB l c
def kindTB (l:List OSh):List Sh0->Bool
 |[]=>true
 |s::r=>kind0B l s&&kindTB l r
def kindVB (l:List OSh):Sh->Bool
 | .one s=>kind0B l s
 | .tup r=>kindTB l r
def kindOB (l:List OSh):List OSh->Bool
 |[]=>true
 | .cells c::r=>kindLB l c&&kindOB l r
 |_::r=>kindOB l r
def Con.okB (c:Con S):Bool:=okTB c.pre.length c.ins&&okOsB c.pre.length c.pre&&okVB c.post.length c.res&&okOsB c.post.length c.post&&Nat.ble c.pre.length c.post.length&&preNoDead c.pre&&kindTB c.pre c.ins&&kindOB c.pre c.pre&&kindVB c.post c.res&&kindOB c.post c.post&&noItS c.post
def hpN (σ:Nat->Nat):Nat->List (TOb S)->THp S
 |_,[]=>[]
 |k,o::r=>(σ k,o)::hpN σ (k+1) r
def tCall (c:Con S) (dr:Bool) (fr:Nat) (h:THp S) (vs:List (TV S)) (K:TV S->THp S->Nat->Prop):Prop:=
 match bdOs h 0 c.pre (bdT [] c.ins vs) []with
 |none=>False
 |some ids=>match mtB h (sgm ids fr) 0 c.pre with
  |none=>False
  | some b=>bif c.okB&&nodupB ids&&allLt fr ids&&Nat.beq ids.length c.pre.length&&freshNoTip dr c.pre.length c.post&&(dr||noItT h)then
    mtC (sgm ids fr) (tkB c.pre b) h 0 c.pre (hsB c.pre) b fun b' =>mtT (sgm ids fr) (tkB c.pre b) c.ins (hsOs c.pre) vs b' fun x=>c.R x fun o=>K (c.val (sgm ids fr) o) (hpN (sgm ids fr) 0 (c.ops (sgm ids fr) o)) (c.post.length-c.pre.length)
   else False
def fit1:Sh1->TV S->Bool
 | .any,_=>true
 | .k c,.k v=>c.is v
 | .d t,v=>match v with
  | .d _ _=>true
  | .lit _=>true
  | .full _ _=>true
  | .own _ _ _=>true
  | .k v=>isNilK v
  |_=>false
 | .full _,.full _ _=>true
 | .full _,.k v=>isNilK v
 | .own _,.own _ _ _=>true
 | .ptr _ o,.ptr _ o' =>Nat.beq o o'
 | .row _,.row _ _ _=>true
 | .view _,.row _ _ _=>true
 | .view _,.view _ _ _ _=>true
 | .mp _,.mp _=>true
 | .clo g _ _,.clo g' _ _=>Nat.beq g g'
 |_,_=>false
def fitL:List Sh1->List (TV S)->Bool
 |[],[]=>true
 |s::l,v::vs=>fit1 s v&&fitL l vs
 |_,_=>false
def fit0:Sh0->TV S->Bool
 | .one s,v=>fit1 s v
 | .agg l,.agg vs=>fitL l vs
 |_,_=>false
def fitT:List Sh0->List (TV S)->Bool
 |[],[]=>true
 |s::l,v::vs=>fit0 s v&&fitT l vs
 |_,_=>false
def findC (f:Nat) (vs:List (TV S)) (K:Con S->Prop):List (Con S)->Prop
 |[]=>False
 |c::r=>bif Nat.beq c.f f&&fitT c.ins vs then(bif c.alt then K c∨findC f vs K r else K c)else findC f vs K r
def findX (f:Nat):List (XCon S)->Option (XCon S)
 |[]=>none
 |c::r=>bif Nat.beq c.f f then some c else findX f r
def tvs (ts:List Ty) (x:HL S ts):List (TV S):=(tds ts x).map TD.v
def outV:(ts:List Ty)->HL S ts->TV S
 |[t],x=> .d t x.1
 |ts,x=> .tup (tvs ts x)
end
section
variable (T:Tab)
structure Cx where
 ti:BT (TI T.den)
 cs:List (Con T.den)
 xs:List (XCon T.den)
 S:Nat
 rw:List Nat
def tFill (pl:List (Nat×Nat)) (K:List (TV T.den)->Prop):List (TV T.den)->List (Nat×TV T.den)->Prop
 |l,[]=>K l
 |l,p::r=>match pl[p.1]? with
  |some (off,n)=>bif Nat.beq p.2.cells.length n&&allOne p.2.cells&&Nat.ble (off+n) l.length then tFill pl K (TV.setL l off p.2.cells) r else False
  |none=>False
def toEls (e:Ty):List (TV T.den)->Option (List (e.den T.den))
 |[]=>some []
 |v::r=>match toEl T e v with
  |some x=>match toEls e r with
   |some y=>some (x::y)
   |none=>none
  |none=>none
def noK:TV T.den->Bool
 | .k _=>false
 | .agg l=>l.all fun v=>match v with
  | .k _=>false
  |_=>true
 |_=>true
def rangeB:Nat->List Nat->Bool
 |_,[]=>true
 |k,i::r=>Nat.beq i k&&rangeB (k+1) r
def setI (t:Ty) (v:t.den T.den) (i:Int):Nat->List (t.den T.den)->List (TV T.den)
 |_,[]=>[]
 |j,x::r=> .d t (bif decide (i=(j:Int))then v else x)::setI t v i (j+1) r
def stA (K:List (TV T.den)->Prop) (i:Int) (x:TV T.den):List (TV T.den)->Prop
 | .d t y::r=>bif t.agg then False else match colT t r,x.toB with
  |some ys,.d t' v=>match Ty.cast (Ty.den T.den) t' t v with
   |some v=>K (setI T t v i 0 (y::ys))
   |none=>False
  |_,_=>False
 |_=>False
def allD:List (TV T.den)->Bool
 |[]=>true
 | .d _ _::r=>allD r
 | .lit _::r=>allD r
 |_=>false
def tStore (ti:TI T.den) (dr:Bool) (h:THp T.den) (a x:TV T.den) (K:TV T.den->THp T.den->Nat->Prop):Prop:=match ti.ty with
 |none=>False
 |some (_,n)=>bif Nat.beq x.cells.length n&&allOne x.cells then(match a with
  | .ptr id off=>match getH h id with
   |some (.cells l)=>bif Nat.ble (off+n) l.length then K .any [(id,.cells (TV.setL l off x.cells))] 0 else False
   |_=>False
  | .aptr id off m i=>match getH h id with
   |some (.cells l)=>bif Nat.beq n 1&&Nat.ble (off+m) l.length then(0<=i/\i<(m:Int))/\stA T (fun cs=>K .any [(id,.cells (TV.setL l off cs))] 0) i x ((l.drop off).take m)else False
   |_=>False
  | .eptr id e i off=>match getH h id with
   |some (.vec e' l)=>bif e.beq e' &&Nat.ble (off+n) (T.sz e')&&(!dr||allD T x.cells)then(match toEl T e' (bif e'.agg then .agg (TV.setL ((tcells T e' (@ix _ ⟨T.dflt e'⟩ l i)).map TD.v) off x.cells)else x)with
    |some y=>(0<=i/\i<(l.length:Int))/\K .any [(id,.vec e' (l.set i.toNat y))] 0
    |none=>match x with
     | .row rid re m=>(0<=i/\i<(l.length:Int))/\K .any [(id,.foc e' l i off rid re m)] 0
     |_=>False)else False
   |_=>False
  |_=>False)else False
def srcE (h:THp T.den) (e:Ty) (y:TV T.den) (K:List (e.den T.den)->Prop):Prop:=match y with
 | .row id e0 n=>match getH h id with
  |some (.vec e' l)=>bif e0.beq e then(match castL e' e l with
   |some l=>n=l.length/\K l
   |none=>False)else False
  |_=>False
 | .view id e0 off n=>match getH h id with
  |some (.vec e' l)=>bif e0.beq e then(match castL e' e l with
   |some l=>off+n<=l.length/\K ((l.drop off).take n)
   |none=>False)else False
  |_=>False
 |y=>match els e y with
  |some m=>K m
  |none=>False
def tAppRow (e:Ty) (bt fr id:Nat) (l m:List (e.den T.den)) (K:TV T.den->THp T.den->Nat->Prop):Prop:=(l.length+m.length)*bt<=140737488355328/\l.length+m.length<=maxLen/\K (.row fr e (l++m).length) [(fr,.vec e (l++m)),(id,.dead)] 1
def tAppNew (e:Ty) (bt fr:Nat) (m:List (e.den T.den)) (K:TV T.den->THp T.den->Nat->Prop):Prop:=m.length*bt<=140737488355328/\m.length<=maxLen/\K (.row fr e m.length) [(fr,.vec e m)] 1
def isE {S:Nat->Type} (e:Ty):TV S->Bool
 | .full e' []=>e'.beq e
 | .k v=>isNilK v
 |_=>false
def isF {S:Nat->Type}:TV S->Bool
 | .full _ _=>true
 | .k v=>isNilK v
 |_=>false
def tAppData (e:Ty) (bt:Nat) (x:TV T.den) (m:List (e.den T.den)) (K:TV T.den->THp T.den->Nat->Prop):Prop:=match x with
 | .full e' l=>match castL e' e l with
  |some l=>(l.length+m.length)*bt<=140737488355328/\l.length+m.length<=maxLen/\K (.d (.sl e) (l++m)) [] 1
  |none=>False
 | .k v=>bif isNilK v then m.length*bt<=140737488355328/\m.length<=maxLen/\K (.d (.sl e) m) [] 1 else False
 |_=>False
def tAppOwn (e:Ty) (bt:Nat) (dr:Bool) (fr:Nat) (h:THp T.den) (x:TV T.den) (m:List (e.den T.den)) (K:TV T.den->THp T.den->Nat->Prop):Prop:=match x with
 | .own tok e0 l=>match getH h tok with
  |some (.tip _ l')=>match castL e0 e l with
   |some l=>l'.length=l.length/\(l.length+m.length)*bt<=140737488355328/\l.length+m.length<=maxLen/\K (.own tok e (l++m)) [(tok,.tip e (l++m))] 0
   |none=>False
  |_=>False
 | .full e' l=>match dr,castL e' e l with
  |false,some l=>(l.length+m.length)*bt<=140737488355328/\l.length+m.length<=maxLen/\K (.own fr e (l++m)) [(fr,.tip e (l++m))] 1
  |_,_=>False
 | .k v=>match dr with
  |false=>bif isNilK v then m.length*bt<=140737488355328/\m.length<=maxLen/\K (.own fr e m) [(fr,.tip e m)] 1 else False
  |true=>False
 |_=>False
def tAppend (ti:TI T.den) (dr rw:Bool) (fr:Nat) (h:THp T.den) (x y:TV T.den) (K:TV T.den->THp T.den->Nat->Prop):Prop:=match ti.el with
 |none=>False
 |some (e,bt)=>bif rw&&isE e x then srcE T h e y fun m=>tAppNew T e bt fr m K else bif dr&&isF x then srcE T h e y fun m=>tAppData T e bt x m K else match x with
  | .row id e0 n=>match getH h id with
   |some (.vec e' l)=>bif e0.beq e then(match castL e' e l with
    |some l=>n=l.length/\srcE T h e y fun m=>tAppRow T e bt fr id l m K
    |none=>False)else False
   |_=>False
  | .view id e0 off n=>match getH h id with
   |some (.vec e' l)=>bif e0.beq e then(match castL e' e l with
    |some l=>off=0/\n<=l.length/\srcE T h e y fun m=>tAppRow T e bt fr id (l.take n) m K
    |none=>False)else False
   |_=>False
  |x=>match els e y with
   |none=>False
   |some m=>tAppOwn T e bt dr fr h x m K
def tCopy (ti:TI T.den) (h:THp T.den) (x y:TV T.den) (K:TV T.den->THp T.den->Nat->Prop):Prop:=match ti.el with
 |none=>False
 |some (e,_)=>match x with
  | .row id e0 n=>match getH h id with
   |some (.vec e' l)=>match els e' y with
    |some m=>bif e.beq e' &&e0.beq e' then n=l.length/\K (.d (.int .i64) ((min m.length l.length:Nat):Int)) [(id,.vec e' (rowOver l m l.length))] 0 else False
    |none=>False
   |_=>False
  |_=>False
def tMake (ti:TI T.den) (fr:Nat) (co:Operand) (x y:TV T.den) (K:TV T.den->THp T.den->Nat->Prop):Prop:=match ti.el,ti.ez,x.asI,y.asI with
 |some (e,bt),true,some (_,n),some (_,c)=>0<=n/\n<=c/\ask co (c.toNat*bt<=140737488355328) (ask co (c.toNat<=maxLen) (K (.row fr e n.toNat) [(fr,.vec e (List.replicate n.toNat (T.dflt e)))] 1))
 |_,_,_,_=>False
def isI {S:Nat->Type} (s:TSt S):Option Operand->Bool
 |none=>true
 |some o=>(s.ev o).asI.isSome
def tMakeMap (ti:TI T.den) (s:TSt T.den) (r:Option Operand) (fr:Nat) (K:TV T.den->THp T.den->Nat->Prop):Prop:=match ti.mp with
 |some (k,v)=>bif isI s r then K (.mp fr) [(fr,.map k v [] [])] 1 else False
 |_=>False
def tLookup (ti:TI T.den) (h:THp T.den) (c:Bool) (x i:TV T.den) (K:TV T.den->THp T.den->Nat->Prop):Prop:=match ti.mp,x with
 |some (k,v),.mp id=>match getH h id with
  |some (.map k' v' ks vs)=>match castL k' k ks,castL v' v vs,toEl1 k i with
   |some ks,some vs,some key=>ks.length=vs.length/\K (bif c then .tup [tdv T v (mVal (Ty.keq k key) ks vs (T.dflt v)),.d .bool (mHas (Ty.keq k key) ks)]else tdv T v (mVal (Ty.keq k key) ks vs (T.dflt v))) [] 0
   |_,_,_=>False
  |_=>False
 |_,_=>False
def tMapUpd (ti:TI T.den) (h:THp T.den) (m i y:TV T.den) (K:TV T.den->THp T.den->Nat->Prop):Prop:=match ti.mp,m with
 |some (k,v),.mp id=>match getH h id with
  |some (.map k' v' ks vs)=>match castL k' k ks,castL v' v vs,toEl1 k i,toEl T v y with
   |some ks,some vs,some key,some val=>ks.length=vs.length/\K .any [(id,.map k v (mPutK (Ty.keq k key) ks key) (mPutV (Ty.keq k key) ks vs val))] 0
   |_,_,_,_=>False
  |_=>False
 |_,_=>False
def tDelete (ti:TI T.den) (h:THp T.den) (m i:TV T.den) (K:TV T.den->THp T.den->Nat->Prop):Prop:=match ti.mp,m with
 |some (k,v),.mp id=>match getH h id with
  |some (.map k' v' ks vs)=>match castL k' k ks,castL v' v vs,toEl1 k i with
   |some ks,some vs,some key=>ks.length=vs.length/\K .any [(id,.map k v (mDelK (Ty.keq k key) ks) (mDelV (Ty.keq k key) ks vs))] 0
   |_,_,_=>False
  |_=>False
 |_,_=>False
def tLenM (ti:TI T.den) (h:THp T.den) (x:TV T.den) (K:TV T.den->THp T.den->Nat->Prop):Prop:=match ti.mp,x with
 |some (_,_),.mp id=>match getH h id with
  |some (.map _ _ ks vs)=>ks.length=vs.length/\K (.d (.int .i64) (ks.length:Int)) [] 0
  |_=>False
 |_,_=>False
def tRange (ti:TI T.den) (h:THp T.den) (fr:Nat) (x:TV T.den) (K:TV T.den->THp T.den->Nat->Prop):Prop:=match ti.mp,x with
 |some (_,_),.mp id=>match getH h id with
  |some (.map k v ks vs)=>K (.ptr fr 0) [(fr,.it id k v ks vs none)] 1
  |_=>False
 |_,_=>False
def tNext (h:THp T.den) (x:TV T.den) (K:TV T.den->THp T.den->Nat->Prop):Prop:=match x with
 | .ptr id 0=>match getH h id with
  |some (.it mid k v ks vs _)=>match getH h mid with
   | some (.map _ _ _ _)=>ks.length=vs.length/\(ks=[]->K (.tup [.lit false]) [(id,.dead)] 0)/\
     ∀j:Nat,j<ks.length->K (.tup [.lit true,.d k (@ix _ ⟨T.dflt k⟩ ks (j:Int)),tdv T v (@ix _ ⟨T.dflt v⟩ vs (j:Int))]) [(id,.it mid k v (ks.eraseIdx j) (vs.eraseIdx j) (some (@ix _ ⟨T.dflt k⟩ ks (j:Int),@ix _ ⟨T.dflt v⟩ vs (j:Int))))] 0
   |_=>False
  |_=>False
 |_=>False
def tEntry (h:THp T.den) (x:TV T.den) (K:TV T.den->THp T.den->Nat->Prop):Prop:=match x with
 | .ptr id 0=>match getH h id with
  |some (.it mid k v _ _ (some p))=>match getH h mid with
   |some (.map _ _ _ _)=>K (.tup [.d k p.1,tdv T v p.2]) [] 0
   |_=>False
  |_=>False
 |_=>False
def noPrim:Option (Ty×Nat)->Bool
 |some (e,_)=> !e.prim
 |none=>true
def cloT (l:List (Option (Nat×Nat))):List (TV T.den):=l.map fun p=>match p with
 |some q=> .ptr q.1 q.2
 |none=> .any
def fnTG:TV T.den->Option Nat
 | .clo g _ _=>some g
 |_=>none
def fnTA:TV T.den->List (TV T.den)->List (TV T.den)
 | .clo _ fs cs,xs=>cloT T fs++(xs++cloT T cs)
 |_,xs=>xs
def fnOf:TV T.den->Option Nat
 | .k (.func (.func g) a b)=>bif Nat.beq a.size 0&&Nat.beq b.size 0 then some g else none
 |_=>none
def tOp (C:Cx T) (dr rw:Bool) (fr:Nat) (s:TSt T.den) (K:TV T.den->THp T.den->Nat->Prop):Op->Prop
 | .alloc t=>match(TI.of C.ti t).ze with
  |some z=>K (.ptr fr 0) [(fr,.cells z)] 1
  |none=>False
 | .box _ x=>bif allOne (s.ev x).cells then K (.ptr fr 0) [(fr,.cells (s.ev x).cells)] 1 else False
 | .store t a x=>tStore T (TI.of C.ti t) dr s.h (s.ev a) (s.ev x) K
 | .build t parts=>match(TI.of C.ti t).ze with
  |some z=>bif (TI.of C.ti t).pl.isEmpty then False else tFill T (TI.of C.ti t).pl (fun l=>K (.agg l) [] 0) z (parts.toList.map fun p=>(p.1,s.ev p.2))
  |none=>False
 | .buildSlice t n parts=>match(TI.of C.ti t).el with
  |some (e,_)=>match toEls T e (parts.toList.map fun p=>s.ev p.2)with
   |some l=>bif (parts.toList.map fun p=>s.ev p.2).all (noK T)&&rangeB 0 (parts.toList.map (·.1))&&Nat.beq n parts.toList.length&&Nat.ble (n*T.sz e) 16777216 then(bif rw then K (.row fr e l.length) [(fr,.vec e l)] 1 else K (.full e l) [] 1)else False
   |none=>False
  |none=>False
 | .makeMap t r=>bif dr then False else tMakeMap T (TI.of C.ti t) s r fr K
 | .lookup t x i c=>tLookup T (TI.of C.ti t) s.h c (s.ev x) (s.ev i) K
 | .mapUpdate t m k v=>bif dr||noItT s.h then tMapUpd T (TI.of C.ti t) s.h (s.ev m) (s.ev k) (s.ev v) K else False
 | .range t x=>bif dr then False else tRange T (TI.of C.ti t) s.h fr (s.ev x) K
 | .next x b=>bif dr||b then False else tNext T s.h (s.ev x) K
 | .entry x=>bif dr then False else tEntry T s.h (s.ev x) K
 | .makeSlice t n c=>bif dr&&noPrim (TI.of C.ti t).el then False else tMake T (TI.of C.ti t) fr c (s.ev n) (s.ev c) K
 | .call c=>match c.callee with
  | .builtin .append=>bif Nat.beq c.args.size 2&&Nat.beq c.argTypes.size 2&&Nat.beq (c.argTypes.getD 0 0) (c.argTypes.getD 1 0)then tAppend T (TI.of C.ti (c.argTypes.getD 0 0)) dr rw fr s.h (s.ev (a2 c 0)) (s.ev (a2 c 1)) K else False
  | .builtin .copy=>match dr with
   |false=>bif Nat.beq c.args.size 2&&Nat.beq c.argTypes.size 2 then tCopy T (TI.of C.ti (c.argTypes.getD 0 0)) s.h (s.ev (a2 c 0)) (s.ev (a2 c 1)) K else False
   |true=>False
  | .builtin .delete=>bif !dr&&noItT s.h&&Nat.beq c.args.size 2&&Nat.beq c.argTypes.size 2 then tDelete T (TI.of C.ti (c.argTypes.getD 0 0)) s.h (s.ev (a2 c 0)) (s.ev (a2 c 1)) K else False
  | .builtin .len=>match dr,s.ev (a2 c 0)with
   |false,.mp id=>bif Nat.beq c.args.size 1&&Nat.beq c.argTypes.size 1 then tLenM T (TI.of C.ti (c.argTypes.getD 0 0)) s.h (.mp id) K else False
   |_,_=>tq T C.ti s (fun v=>K v [] 0) (.call c)
  | .value f=>match fnOf T (s.ev f)with
   |some g=>match findX g C.xs with
    |some x=>match packL x.ins (c.args.toList.map s.ev)with
     |some i=>x.ok i/\K (outV x.out (x.val i)) [] 0
     |none=>False
    |none=>findC g (c.args.toList.map s.ev) (fun k=>tCall k dr fr s.h (c.args.toList.map s.ev) K) C.cs
   |none=>match fnTG T (s.ev f)with
    |some g=>findC g (fnTA T (s.ev f) (c.args.toList.map s.ev)) (fun k=>tCall k dr fr s.h (fnTA T (s.ev f) (c.args.toList.map s.ev)) K) C.cs
    |none=>False
  |_=>tq T C.ti s (fun v=>K v [] 0) (.call c)
 |op=>tq T C.ti s (fun v=>K v [] 0) op
def rdT (s:TSt T.den):Op->List Nat
 | .load _ a=>match s.ev a with
  | .ptr id _=>[id]
  | .aptr id _ _ _=>[id]
  | .eptr id _ _ _=>[id]
  |_=>[]
 | .lookup _ x _ _=>match s.ev x with
  | .mp id=>[id]
  |_=>[]
 | .call c=>match c.callee with
  | .builtin .append=>match s.ev (a2 c 1)with
   | .row id _ _=>[id]
   | .view id _ _ _=>[id]
   |_=>[]
  |_=>[]
 |_=>[]
def rwB (l:List Nat):Option Nat->Bool
 |some t=>memB t l
 |none=>false
def dstB (N:Nat):Option Nat->Bool
 |some t=>Nat.blt t N
 |none=>true
def isUndef:Value->Bool
 | .tuple a=>Nat.beq a.size 0
 |_=>false
def slotOf (tb:List (Option Nat)) (j:Nat):Option Nat:=match tb[j]? with
 |some (some t)=>some t
 |_=>none
def tGuard (s:TSt T.den) (tb:List (Option Nat)) (g:Option (Nat×Bool)) (run no:TSt T.den->Prop):Prop:=match g with
 |none=>run s
 |some (j,b)=>match slotOf tb j with
  |none=>False
  |some u=>match getT s.sl u with
   | .k v=>bif isUndef v then no s else False
   | .lit t=>bif (t==b)then run s else no s
   | .d .bool t=>(t=true->(bif b then run else no) ⟨(u,.lit true)::s.sl,s.h,s.nx⟩)/\(t=false->(bif b then no else run) ⟨(u,.lit false)::s.sl,s.h,s.nx⟩)
   |_=>False
def tStep (C:Cx T) (rw:Bool) (s:TSt T.den) (K:TV T.den->THp T.den->Nat->Prop):Op->Prop
 | .binOp op t x y t' =>match(s.ev y).isNil with
  |true=>tNil T op (TI.of C.ti t) (s.ev x) fun v=>K v [] 0
  |false=>tOp T C false rw s.nx s K (.binOp op t x y t')
 |op=>tOp T C false rw s.nx s K op
def tOps (C:Cx T) (N:Nat) (tb:List (Option Nat)):List Oper->TSt T.den->(TSt T.den->Prop)->Prop
 |[],s,K=>K s
 |o::r,s,K=>bif dstB N o.dst then tGuard T s tb o.guard (fun s=>tStep T C (rwB C.rw o.dst) s (fun v hu nf=>tOps C N tb r (TSt.put ⟨s.sl,hu++s.h,s.nx+nf⟩ o.dst v) K) o.op) (fun s=>tOps C N tb r (s.put o.dst (.k undef)) K)else False
def wsB (af:Array Edge) (id:Nat):List (Nat×Nat)->Bool
 |[]=>true
 |p::r=>(!Nat.beq p.1 id||edgeB af p.2)&&wsB af id r
def wrB (nb S k:Nat) (ws rs:List (Nat×Nat)) (af:Array Edge) (h:THp T.den):List Nat->Bool
 |[]=>true
 |id::r=>wsB af id ws&&wsB af id rs&&Nat.blt id (frs nb S (k+1))&&(Nat.ble (frs nb S k) id||(getH h id).isSome)&&wrB nb S k ws rs af h r
def rdB (ws:List (Nat×Nat)) (af:Array Edge):List Nat->Bool
 |[]=>true
 |id::r=>wsB af id ws&&rdB ws af r
def keysT (h:THp T.den):List Nat:=h.map (·.1)
def tDs (C:Cx T) (N:Nat) (tb:List (Option Nat)) (nb S:Nat):List Oper->List (Nat×Nat)->List (Nat×Nat)->Nat->TSt T.den->(TSt T.den->Prop)->Prop
 |[],_,_,_,s,K=>K s
 | o::r,ws,rs,k,s,K=>bif dstB N o.dst then tGuard T s tb o.guard
   (fun s=>bif rdB ws o.after (rdT T s o.op)then tOp T C true (rwB C.rw o.dst) (frs nb S k) s (fun v hu nf=>bif Nat.ble nf S&&wrB T nb S k ws rs o.after s.h (keysT T hu)then
     tDs C N tb nb S r ((keysT T hu).map (·,k)++ws) ((rdT T s o.op).map (·,k)++rs) (k+1) (TSt.put ⟨s.sl,hu++s.h,s.nx⟩ o.dst v) K else False) o.op else False)
   (fun s=>tDs C N tb nb S r ws rs (k+1) (s.put o.dst (.k undef)) K)else False
def sgs (is:List Nat) (j:Nat):Nat:=is.getD j 0
structure Tm where
 ids:List Nat
 os:List OSh
 ts:List Nat
 ss:List Sh0
 nx:Nat
def Tm.hs (m:Tm):List Ty:=hsT m.ss (hsOs m.os)
def Tm.f (m:Tm) (x:HL T.den m.hs):List (Option (TOb T.den)):=tkB m.os (drC m.os _ (drT m.ss _ x))
def zipS:List Nat->List (TV T.den)->List (Nat×TV T.den)
 |t::ts,v::vs=>(t,v)::zipS ts vs
 |_,_=>[]
def Tm.fill (m:Tm) (x:HL T.den m.hs):TSt T.den:=⟨zipS T m.ts (tkT (sgs m.ids) (m.f T x) m.ss _ x).1,hpN (sgs m.ids) 0 (tkC (sgs m.ids) (m.f T x) 0 m.os _ (drT m.ss _ x)).1,m.nx⟩
def Tm.okB (m:Tm):Bool:=okTB m.os.length m.ss&&okOsB m.os.length m.os&&allLt m.nx m.ids&&Nat.beq m.ids.length m.os.length&&Nat.beq m.ts.length m.ss.length&&kindTB m.os m.ss&&kindOB m.os m.os
def idsE (n0:Nat):Nat->List Nat->List (Nat×Nat)
 |_,[]=>[]
 |k,i::r=>bif Nat.blt i n0 then(k,i)::idsE n0 (k+1) r else idsE n0 (k+1) r
def bdMs (h:THp T.den):Nat->List OSh->List Nat->List (Nat×Nat)->List Nat
 |k,o::os,i::is,env=>match envGet env k with
  |some j=>j::bdMs h (k+1) os is (bdO h env o (some j))
  |none=>i::bdMs h (k+1) os is (bdO h env o (some i))
 |_,_,_,_=>[]
def fixB (n0:Nat):List Nat->List Nat->Bool
 |i::is,j::js=>(!Nat.blt i n0||Nat.beq i j)&&fixB n0 is js
 |[],[]=>true
 |_,_=>false
def fcL:List Nat->(List Nat->Prop)->Prop
 |[],K=>K []
 |x::r,K=>fcL r fun r=>K (x::r)
def Tm.at (m:Tm) (n0:Nat) (s:TSt T.den):List Nat:=bdMs T s.h 0 m.os m.ids (idsE n0 0 m.ids++bdT [] m.ss (m.ts.map (getT s.sl)))
def Tm.mat (n0:Nat) (m:Tm) (s:TSt T.den) (K:HL T.den m.hs->Prop):Prop:=bif Nat.ble n0 m.nx&&Nat.ble m.nx s.nx&&m.okB then(fcL (m.at T n0 s) fun ids=>bif nodupB m.ids&&nodupB ids&&allLt s.nx ids&&fixB n0 m.ids ids then(match mtB s.h (sgs ids) 0 m.os with
  |some b=>mtC (sgs ids) (tkB m.os b) s.h 0 m.os (hsB m.os) b fun b' =>mtT (sgs ids) (tkB m.os b) m.ss (hsOs m.os) (m.ts.map (getT s.sl)) b' K
  |none=>False)else False)else False
inductive Gs where
 |frz (id:Nat) (ts:List Nat)
 |frzc (id i j:Nat)
 |tok (t:Nat) (e:Ty)
 |tokc (id j:Nat) (e:Ty)
 |trim (t:Nat)
 |trimc (id j:Nat)
 |rnil (t:Nat) (e:Ty)
 |rnilc (id j:Nat) (e:Ty)
 |frzf (id i:Nat)
def growE (e:Ty):TV T.den->Option (List (e.den T.den))
 | .full e' l=>castL e' e l
 | .k v=>bif isNilK v then some []else none
 |_=>none
def trimV (h:THp T.den) (v:TV T.den) (K:Nat->(e:Ty)->List (e.den T.den)->Prop):Prop:=match v with
 | .row id e n=>match getH h id with
  |some (.vec e' l)=>bif e.beq e' then n=l.length/\K id e' l else False
  |_=>False
 | .view id e off n=>match getH h id with
  |some (.vec e' l)=>bif e.beq e' then off=0/\n<=l.length/\K id e' (l.take n)else False
  |_=>False
 |_=>False
def rowsTo (id:Nat) (v:TV T.den) (n z:Nat):List Nat->List (Nat×TV T.den)->(List (Nat×TV T.den)->Prop)->Prop
 |[],sl,K=>K sl
 |t::ts,sl,K=>match getT sl t with
  | .row i e' m=>bif Nat.beq i id&&Nat.beq (T.sz e') z then m=n/\rowsTo id v n z ts ((t,v)::sl) K else False
  |_=>False
def gh1 (s:TSt T.den) (K:TSt T.den->Prop):Gs->Prop
 | .frz id ts=>match getH s.h id with
  |some (.vec e l)=>rowsTo T id (.own s.nx e l) l.length (T.sz e) ts s.sl fun sl=>K ⟨sl,(s.nx,.tip e l)::(id,.dead)::s.h,s.nx+1⟩
  |_=>False
 | .frzc id i j=>match getH s.h id,getH s.h i with
  |some (.vec e l),some (.cells cs)=>match cs[j]? with
   |some (.row id' e' m)=>bif Nat.beq id' id&&e'.beq e&& !Nat.beq i id then m=l.length/\K ⟨s.sl,(i,.cells (cs.set j (.own s.nx e l)))::(s.nx,.tip e l)::(id,.dead)::s.h,s.nx+1⟩else False
   |_=>False
  |_,_=>False
 | .tok t e=>match growE T e (getT s.sl t)with
  |some l=>K ⟨(t,.own s.nx e l)::s.sl,(s.nx,.tip e l)::s.h,s.nx+1⟩
  |none=>False
 | .tokc id j e=>match getH s.h id with
  |some (.cells cs)=>match cs[j]? with
   |some v=>match growE T e v with
    |some l=>K ⟨s.sl,(id,.cells (cs.set j (.own s.nx e l)))::(s.nx,.tip e l)::s.h,s.nx+1⟩
    |none=>False
   |none=>False
  |_=>False
 | .trim t=>trimV T s.h (getT s.sl t) fun id e l=>K ⟨(t,.row s.nx e l.length)::s.sl,(s.nx,.vec e l)::(id,.dead)::s.h,s.nx+1⟩
 | .trimc id j=>match getH s.h id with
  |some (.cells cs)=>match cs[j]? with
   |some v=>trimV T s.h v fun id' e l=>bif Nat.beq id' id then False else K ⟨s.sl,(id,.cells (cs.set j (.row s.nx e l.length)))::(s.nx,.vec e l)::(id',.dead)::s.h,s.nx+1⟩
   |none=>False
  |_=>False
 | .rnil t e=>bif isE e (getT s.sl t)then K ⟨(t,.row s.nx e 0)::s.sl,(s.nx,.vec e [])::s.h,s.nx+1⟩else False
 | .rnilc id j e=>match getH s.h id with
  |some (.cells cs)=>match cs[j]? with
   |some v=>bif isE e v then K ⟨s.sl,(id,.cells (cs.set j (.row s.nx e 0)))::(s.nx,.vec e [])::s.h,s.nx+1⟩else False
   |none=>False
  |_=>False
 | .frzf id i=>match getH s.h id,getH s.h i with
  |some (.vec e l),some (.foc (.st z) x k off rid re m)=>bif Nat.beq rid id&&re.beq e&& !Nat.beq i id&&Nat.blt off (T.tys z).length then(match packL (T.tys z) (((tds (T.tys z) (T.cells z (@ix _ ⟨T.inh z⟩ x k))).map TD.v).set off (.d (.sl e) l))with
   |some y=>(m=l.length/\0<=k/\k<(x.length:Int))/\K ⟨s.sl,(i,.vec (.st z) (x.set k.toNat (T.pack z y)))::(s.nx,.tip e l)::(id,.dead)::s.h,s.nx+1⟩
   |none=>False)else False
  |_,_=>False
def ghs:List Gs->TSt T.den->(TSt T.den->Prop)->Prop
 |[],s,K=>K s
 |g::r,s,K=>gh1 T s (fun s' =>ghs r s' K) g
inductive An where
 |no
 |nd (ga:List Gs) (a:An) (gb:List Gs) (b:An)
 |jn (tm:Tm) (J:HL T.den tm.hs->Prop) (ga:List Gs) (a:An) (gb:List Gs) (b:An)
 |lp (g:List Gs) (tm:Tm) (L:(HL T.den tm.hs->Prop)->HL T.den tm.hs->Prop) (a:(HL T.den tm.hs->Prop)->An)
 |rt (g:List Gs)
def An.ga:An T->List Gs
 | .nd g _ _ _=>g
 | .jn _ _ g _ _ _=>g
 | .rt g=>g
 |_=>[]
def An.gb:An T->List Gs
 | .nd _ _ g _=>g
 | .jn _ _ _ _ g _=>g
 |_=>[]
def An.a:An T->An T
 | .nd _ a _ _=>a
 | .jn _ _ _ a _ _=>a
 |_=> .no
def An.b:An T->An T
 | .nd _ _ _ b=>b
 | .jn _ _ _ _ _ b=>b
 |_=> .no
def thenT (K:TSt T.den->Prop) (Q:Exit->TSt T.den->Prop):Exit->TSt T.den->Prop
 | .normal=>K
 |e=>Q e
def blockT (id:Nat) (Q:Exit->TSt T.den->Prop):Exit->TSt T.den->Prop
 | .exit id' =>bif Nat.beq id' id then Q .normal else Q (.exit id')
 |e=>Q e
def regW (C:Cx T) (N:Nat) (ops:Array Oper) (dr:Bool) (s:TSt T.den) (K:TSt T.den->Prop):Prop:=match dr with
 |false=>tOps T C N (ops.toList.map (·.dst)) ops.toList s K
 |true=>bif Region.lexB .any ops&&noItT s.h then tDs T C N (ops.toList.map (·.dst)) s.nx C.S (closeOps ops.toList) [] [] 0 ⟨s.sl,s.h,s.nx+ops.toList.length*C.S⟩ K else False
def WP (C:Cx T) (N n0:Nat):Code->An T->TSt T.den->(Exit->TSt T.den->Prop)->Prop
 | .skip,_,s,Q=>Q .normal s
 | .region _ ops dr,_,s,Q=>regW T C N ops dr s (Q .normal)
 | .seq x _,.jn tm J ga a _ _,s,Q=>ghs T ga s fun s=>WP C N n0 x a s (thenT T (fun s' =>tm.mat T n0 s' J) Q)
 | .seq x y,an,s,Q=>ghs T an.ga s fun s=>WP C N n0 x an.a s (thenT T (fun s' =>ghs T an.gb s' fun s' =>WP C N n0 y an.b s' Q) Q)
 | .cond c x y,an,s,Q=>match s.ev c with
  | .lit true=>ghs T an.ga s fun s=>WP C N n0 x an.a s Q
  | .lit false=>ghs T an.gb s fun s=>WP C N n0 y an.b s Q
  | .d .bool t=>(t=true->ghs T an.ga s fun s=>WP C N n0 x an.a s Q)/\(t=false->ghs T an.gb s fun s=>WP C N n0 y an.b s Q)
  |_=>False
 | .block id x,an,s,Q=>WP C N n0 x an s (blockT T id Q)
 | .loop _,.lp g tm L _,s,_=>ghs T g s fun s=>tm.mat T n0 s fun i=>Md.Loop i L
 | .exit id,_,s,Q=>Q (.exit id) s
 | .ret,an,s,Q=>ghs T an.ga s (Q .ret)
 | .label _,_,s,Q=>Q .normal s
 |_,_,_,_=>False
def Obl (C:Cx T) (N n0:Nat):Code->An T->(Exit->TSt T.den->Prop)->Prop
 | .seq x y,.jn tm J _ a gb b,Q=>Obl C N n0 x a (thenT T (fun s' =>tm.mat T n0 s' J) Q)/\(∀i,J i=ghs T gb (tm.fill T i) fun s' =>WP T C N n0 y b s' Q)/\Obl C N n0 y b Q
 | .seq x y,an,Q=>Obl C N n0 x an.a (thenT T (fun s' =>ghs T an.gb s' fun s' =>WP T C N n0 y an.b s' Q) Q)/\Obl C N n0 y an.b Q
 | .cond _ x y,an,Q=>Obl C N n0 x an.a Q/\Obl C N n0 y an.b Q
 | .block id x,an,Q=>Obl C N n0 x an (blockT T id Q)
 | .loop x,.lp _ tm L a,Q=>(∀nx i,L nx i=WP T C N n0 x (a nx) (tm.fill T i) (thenT T (fun s' =>tm.mat T n0 s' nx) Q))/\∀nx,Obl C N n0 x (a nx) (thenT T (fun s' =>tm.mat T n0 s' nx) Q)
 |_,_,_=>True
def resT (I:BT (TI T.den)) (s:TSt T.den):List ResultVar->(List (TV T.den)->Prop)->Prop
 |[],K=>K []
 | .tmp t::r,K=>resT I s r fun l=>K (getT s.sl t::l)
 | .cell t ty::r,K=>tLoad T (TI.of I ty) s.h (getT s.sl t) fun v=>resT I s r fun l=>K (v::l)
def retTV:List (TV T.den)->TV T.den
 |[x]=>x
 |l=> .tup l
def idEnv:Nat->List (Nat×Nat)
 |0=>[]
 |n+1=>(n,n)::idEnv n
def bdV (env:List (Nat×Nat)):Sh->TV T.den->List (Nat×Nat)
 | .one s,v=>bd0 env s v
 | .tup l,.tup vs=>bdT env l vs
 |_,_=>env
def selfB:Nat->Nat->List Nat->Bool
 |0,_,_=>true
 |n+1,k,i::r=>Nat.beq i k&&selfB n (k+1) r
 |_+1,_,[]=>false
def noTupB:List (TV T.den)->Bool
 |[]=>true
 | .tup _::_=>false
 |_::r=>noTupB r
def retT (C:Cx T) (c:Con T.den) (rs:List ResultVar) (o:HL T.den (hsV c.res (hsOs c.post))) (s:TSt T.den):Prop:=
 resT T C.ti s rs fun l=>match bdOs s.h 0 c.post (idEnv c.pre.length++bdV T [] c.res (retTV T l)) []with
  |none=>False
  |some ids=>match mtB s.h (rh ids) 0 c.post with
   |none=>False
   | some b=>bif c.okB&&nodupB ids&&allLt s.nx ids&&Nat.beq ids.length c.post.length&&selfB c.pre.length 0 ids&&noTupB T l then
     mtC (rh ids) (tkB c.post b) s.h 0 c.post (hsB c.post) b fun b' =>mtV (rh ids) (tkB c.post b) c.res (hsOs c.post) (retTV T l) b' fun x=>eqH (hsV c.res (hsOs c.post)) x o
    else False
def retTQ (C:Cx T) (c:Con T.den) (rs:List ResultVar) (o:HL T.den (hsV c.res (hsOs c.post))):Exit->TSt T.den->Prop
 | .normal,s=>retT T C c rs o s
 | .ret,s=>retT T C c rs o s
 |_,_=>False
def initT:Nat->List (TV T.den)->List (Nat×TV T.den)
 |_,[]=>[]
 |k,x::r=>(k,x)::initT (k+1) r
def Con.st (c:Con T.den) (x:HL T.den (hsT c.ins (hsOs c.pre))):TSt T.den:=⟨initT T 0 (c.args idf x),hpN idf 0 (c.obs idf x),c.pre.length⟩
end
end Go.Cv
namespace Go.Bv
open Go.RowKit
def Wk (s s' :St):Prop:=∀(T:Tk) (G0:Gh) (w0:World) (N:Nat) (a:Act) (G:Gh) (w:World),R T G0 w0 N s a G w->R T G0 w0 N s' a G w
theorem Wk.refl (s:St):Wk s s:=fun _ _ _ _ _ _ _ h=>h
theorem R.recells {T:Tk} {G0:Gh} {w0:World} {N:Nat} {a:Act} {G:Gh} {w:World} {sl:List (Nat×V)} {h:Hp} {nx id:Nat} {A B:List V} (hR:R T G0 w0 N ⟨sl,(id,.cells A)::h,nx⟩ a G w) (hl:leL A B):
  R T G0 w0 N ⟨sl,(id,.cells B)::h,nx⟩ a G w:=by
 have hw:=hR.wr;have hg:Hp.get ((id,Ob.cells A)::h) id=some (.cells A):=by simp[Hp.get]
 have hother:∀i,i≠id->Hp.get ((id,Ob.cells B)::h) i=Hp.get ((id,Ob.cells A)::h) i:=fun i hi=>by simp[Hp.get,hi]
 have he:Ext G w ((id,.cells A)::h) nx G w ((id,.cells B)::h) nx:=by
  refine⟨Mono.refl _ _,qt _,fun _ _ _ h=>h,fun tok t' _ h1=> ?_,fun _ _ h=>h⟩;by_cases hi:tok=id
  ·subst hi;simp[Hp.get]at h1
  ·rw[hother tok hi]at h1;exact⟨t',h1,qt _,fun _ _ hb=>⟨hb,rfl,rfl⟩⟩
 have hlive:∀i,live ((id,Ob.cells B)::h) i->live ((id,Ob.cells A)::h) i:=by
  intro i l1;by_cases hi:i=id
  ·subst hi;exact kh hg
  ·exact live_eq (hother i hi) l1
 refine⟨hR.fr,⟨?_,hw.mob.ext he (fun i es hgo=> ?_) hw.hid (fun _ _ _ _ _=>rfl),hw.here,fun i k b hi hk h1 h2 l1 l2=>hw.inj i k b hi hk h1 h2 (hlive i l1) (hlive k l2),?_,hw.lim⟩,hR.df,hR.sz,fun t=>(hR.sl t).ext he,hR.ex.ext he⟩
 ·intro i l' hl';by_cases hi:i=id
  ·subst hi;simp[Hp.get]at hl';subst hl';obtain⟨q1,q2,q3⟩:=k2g hl;rcases hw.obj i A hg with⟨z1,z2⟩|⟨b,e,cs,h1,h2,h3,h4,h5,h6⟩
   ·exact .inl ⟨qac (by rw[z1]at q1;simpa using q1.symm),z2⟩
   refine .inr ⟨b,e,cs,h1,h2,h3,by omega,q2,fun k v z hkv hz=> ?_⟩;have hk:k<A.length:=by have:=(qf.1 hz).1;omega
   exact((h6 k v _ hkv (qd hk)).le1 (q3 k _ z (qd hk) hz)).ext he
  ·rw[hother i hi]at hl';rcases hw.obj i l' hl' with h0|⟨b,e,cs,h1,h2,h3,h4,h5,h6⟩
   ·exact .inl h0
   exact .inr ⟨b,e,cs,h1,h2,h3,h4,h5,fun k v x hv hx=>(h6 k v x hv hx).ext he⟩
 ·by_cases hi:i=id
  ·subst hi;simp[Hp.get]at hgo
  ·rw[hother i hi]at hgo;exact hgo
 ·intro i ob hgo;by_cases hi:i=id
  ·subst hi;exact hw.hid _ _ hg
  ·rw[hother i hi]at hgo;exact hw.hid _ _ hgo
theorem kpf {sl:List (Nat×V)} {h:Hp} {nx id:Nat} {A B:List V} (hl:leL A B) (d:Option Nat) (x:V):Wk (St.put ⟨sl,(id,.cells A)::h,nx⟩ d x) (St.put ⟨sl,(id,.cells B)::h,nx⟩ d x):=by
 intro T G0 w0 N a G w hR;cases d with
 |none=>exact hR.recells hl
 |some t=>exact R.recells (sl:=(t,x)::sl) hR hl
end Go.Bv
namespace Go.Cv
open Go Go.Bv Go.RowKit Go.Md
section
variable {T:Tab} {P:Program}
theorem k4k:∀{l:List (TV T.den)},allOne l=true->∀v∈l,v.one=true
 |[],_,v,hv=>by cases hv
 |x::r,h,v,hv=>by
  simp only[allOne,qg]at h;rcases qam.1 hv with rfl|hv
  ·exact h.1
  ·exact k4k h.2 v hv
theorem knk {v:TV T.den} (hv:v.one=true):(er1 T v).cells=[er1 T v]:=by have:=er1_one hv;cases h:er1 T v<;>first|rfl|(rw[h]at this;cases this)
theorem k4n {x:TV T.den} (h:allOne x.cells=true):(er T x).cells=x.cells.map (er1 T)/\(er T x).flat x.cells.length:=by
 have e:(er T x).cells=x.cells.map (er1 T):=by
  cases x with
  |agg l=>rfl
  |tup l=>simp[TV.cells,allOne,TV.one]at h
  |_=>have h1:=k4k h _ (qav.2 rfl);rw[er_of1 h1,knk h1];rfl
 refine⟨e,by rw[e,qm],fun c hc=> ?_⟩;rw[e]at hc;obtain⟨v,hv,rfl⟩:=qag.1 hc;exact er1_one (k4k h v hv)
theorem setL_er (l:List (TV T.den)) (off:Nat) (cs:List (TV T.den)):(TV.setL l off cs).map (er1 T)=setAt (l.map (er1 T)) off (cs.map (er1 T)):=by simp only[TV.setL,setAt,qbm,qby,qcr,qm]
theorem k23 {t:Ty} {v:TV T.den} {x:t.den T.den} (hx:toEl2 t v=some x):er1 T v= .d (T.e t x)/\v.cells=[v]:=by
 unfold toEl2 at hx;split at hx
 ·obtain⟨rfl,rfl⟩:=Ty.cast_some hx;exact⟨rfl,rfl⟩
 ·cases hx
theorem els_le {e:Ty} {v:TV T.den} {x:List (e.den T.den)} (hx:els e v=some x):le1 (er1 T v) (.d (.slice (T.sz e) (List.map (T.e e) x)))/\v.cells=[v]:=by
 have h1:=(els_er hx).1;have h2:=(els_er hx).2;refine⟨?_,by cases v<;>first|rfl|cases h2⟩;generalize er1 T v=y at h1;unfold V.els at h1;split at h1
 ·split at h1
  ·rename_i hs;injection h1 with h1;rw[hs,h1];exact ka _
  ·cases h1
 ·split at h1
  ·rename_i hs;injection h1 with h1;exact⟨hs,h1⟩
  ·cases h1
 ·split at h1
  ·rename_i hs;injection h1 with h1;exact⟨hs,h1⟩
  ·cases h1
 ·injection h1 with h1;exact h1.symm
 ·cases h1
theorem kmy {v:TV T.den} {b:Bool} (h:v.isB=some b):v.cells=[v]:=by cases v<;>first|rfl|cases h
theorem k3m {t:Ty} {v:TV T.den} {x:t.den T.den} (hx:toEl1 t v=some x):le1 (er1 T v) (.d (T.e t x))/\v.cells=[v]/\t.agg=false:=by
 cases t with
 |sl e=>exact⟨(els_le hx).1,(els_le hx).2,rfl⟩
 |bool=>exact⟨by rw[(isB_er hx).1];exact ka _,kmy hx,rfl⟩
 |int k=>exact⟨by rw[(k23 hx).1];exact ka _,(k23 hx).2,rfl⟩
 |str=>exact⟨by rw[(k23 hx).1];exact ka _,(k23 hx).2,rfl⟩
 |st n=>cases hx
theorem kjc {t:Ty} {v:TV T.den} {x:t.den T.den} (hx:toEl1 t v=some x) (hv:allD T [v]=true):er1 T v= .d (T.e t x):=by
 cases t with
 |sl e=>
  simp only[toEl1]at hx;unfold els at hx;split at hx
  ·obtain⟨h1,h2,_⟩:=km hx;show V.d (.slice _ _)=V.d (.slice _ _);rw[h1,h2]
  ·cases hv
  ·cases hv
  ·cases hv
  ·cases hx
 |bool=>exact(isB_er hx).1
 |int k=>exact(k23 hx).1
 |str=>exact(k23 hx).1
 |st n=>cases hx
theorem k7o:∀{ts:List Ty} {vs:List (TV T.den)} {z:HL T.den ts},ts.all (fun t=> !t.agg)=true->packL ts vs=some z->leL (vs.map (er1 T)) ((T.eL ts z).map .d)
 |[],[],_,_,_=>trivial
 |[],_::_,_,_,h=>by simp[packL]at h
 |_::_,[],_,_,h=>by simp[packL]at h
 |t::ts,v::vs,z,ht,h=>by
  simp only[qeu,qg,qbe]at ht;simp only[packL]at h;split at h
  ·rename_i x hx;split at h
   ·rename_i y hy;injection h with h;subst h;exact⟨⟨(k3m hx).1,e_one ht.1 _⟩,k7o ht.2 hy⟩
   ·cases h
  ·cases h
theorem kbq:∀{ts:List Ty} {vs:List (TV T.den)} {z:HL T.den ts},packL ts vs=some z->allD T vs=true->vs.map (er1 T)=(T.eL ts z).map .d
 |[],[],_,_,_=>rfl
 |[],_::_,_,h,_=>by simp[packL]at h
 |_::_,[],_,h,_=>by simp[packL]at h
 |t::ts,v::vs,z,h,hd=>by
  simp only[packL]at h;split at h
  ·rename_i x hx;split at h
   ·rename_i y hy;injection h with h;subst h;have h1:allD T [v]=true/\allD T vs=true:=by cases v<;>first|exact⟨rfl,hd⟩|cases hd
    simp only[qae,Tab.eL,kjc hx h1.1,kbq hy h1.2]
   ·cases h
  ·cases h
theorem k4b {n:Nat} {v:TV T.den} {x:T.den n} (hx:toElS T n v=some x):∃l z,v= .agg l/\packL (T.tys n) l=some z/\x=T.pack n z:=by
 unfold toElS at hx;split at hx
 ·rename_i l;cases hp:packL (T.tys n) l with
  |none=>rw[hp]at hx;cases hx
  |some z=>rw[hp]at hx;injection hx with hx;exact⟨l,z,rfl,hp,hx.symm⟩
 ·cases hx
theorem toEl_le (hT:T.Ok) {e:Ty} {v:TV T.den} {x:e.den T.den} (hx:toEl T e v=some x):leL (v.cells.map (er1 T)) ((T.e e x).cells.map .d):=by
 have main:∀{t:Ty} {x:t.den T.den},toEl1 t v=some x->leL (v.cells.map (er1 T)) ((T.e t x).cells.map .d):=by intro t x h;obtain⟨h1,h2,h3⟩:=k3m h;rw[h2,e_cells h3];exact⟨⟨h1,e_one h3 _⟩,trivial⟩
 cases e with
 |st n=>obtain⟨l,z,rfl,hp,rfl⟩:=k4b hx;show leL (l.map (er1 T)) ((T.enc n (T.pack n z)).cells.map .d);rw[hT.en,hT.pc];exact k7o (hT.one n) hp
 |sl e=>exact main (t:= .sl e) hx
 |bool=>exact main (t:= .bool) hx
 |int k=>exact main (t:= .int k) hx
 |str=>exact main (t:= .str) hx
theorem toEl_ex (hT:T.Ok) {e:Ty} {v:TV T.den} {x:e.den T.den} (hx:toEl T e v=some x) (hv:allD T v.cells=true):v.cells.map (er1 T)=(T.e e x).cells.map .d:=by
 have main:∀{t:Ty} {x:t.den T.den},toEl1 t v=some x->v.cells.map (er1 T)=(T.e t x).cells.map .d:=by intro t x h;obtain⟨_,h2,h3⟩:=k3m h;rw[h2]at hv ⊢;rw[e_cells h3];simp only[qae,qdb,kjc h hv]
 cases e with
 |st n=>obtain⟨l,z,rfl,hp,rfl⟩:=k4b hx;show l.map (er1 T)=(T.enc n (T.pack n z)).cells.map .d;rw[hT.en,hT.pc];exact kbq hp hv
 |sl e=>exact main (t:= .sl e) hx
 |bool=>exact main (t:= .bool) hx
 |int k=>exact main (t:= .int k) hx
 |str=>exact main (t:= .str) hx
theorem kgg (hT:T.Ok) {e:Ty}:∀(l:List (e.den T.den)) (k:Nat),k<=l.length->((l.map (T.e e)).flatMap D.cells).drop (k*T.sz e)=((l.drop k).map (T.e e)).flatMap D.cells
 |l,0,_=>by simp
 |[],k+1,h=>by simp at h
 |x::l,k+1,h=>by have hs:=(e_sz hT e x).1;simp only[qae,qay,List.drop_succ_cons];rw[List.drop_append,hs,qbj,qcs];have e1:List.drop (k*T.sz e+T.sz e) (T.e e x).cells=[]:=qbp (by rw[hs];omega);rw[e1,qcc,show k*T.sz e+T.sz e-T.sz e=k*T.sz e by omega];exact kgg hT l k qqh
theorem k9y (hT:T.Ok) {e:Ty}:∀(l:List (e.den T.den)) (k:Nat),k<=l.length->((l.map (T.e e)).flatMap D.cells).take (k*T.sz e)=((l.take k).map (T.e e)).flatMap D.cells
 |l,0,_=>by simp
 |[],k+1,h=>by simp at h
 |x::l,k+1,h=>by have hs:=(e_sz hT e x).1;simp only[qae,qay,List.take_succ_cons];rw[qeq,hs,qbj,qcs];have e1:List.take (k*T.sz e+T.sz e) (T.e e x).cells=(T.e e x).cells:=qu (by rw[hs];omega);rw[e1,show k*T.sz e+T.sz e-T.sz e=k*T.sz e by omega,k9y hT l k qqh]
theorem kix (hT:T.Ok) {e:Ty} (l:List (e.den T.den)) (i:Int) (h0:0<=i) (h1:i<(l.length:Int)) (off:Nat) (cs:List V) (hc:off+cs.length<=T.sz e):
  setAt (((l.map (T.e e)).flatMap D.cells).map V.d) (i.toNat*T.sz e+off) cs=
   (((l.take i.toNat).map (T.e e)).flatMap D.cells).map V.d++setAt ((T.e e (@ix _ ⟨T.dflt e⟩ l i)).cells.map V.d) off cs++(((l.drop (i.toNat+1)).map (T.e e)).flatMap D.cells).map V.d:=by
 have hi:i.toNat<l.length:=by omega
 have hx:l=l.take i.toNat++ @ix _ ⟨T.dflt e⟩ l i::l.drop (i.toNat+1):=by
  have: @ix _ ⟨T.dflt e⟩ l i=l[i.toNat]:=by simp[ix,hi]
  rw[this];simp
 have hs:=(e_sz hT e (@ix _ ⟨T.dflt e⟩ l i)).1;have hA:((((l.take i.toNat).map (T.e e)).flatMap D.cells).map V.d).length=i.toNat*T.sz e:=by rw[qm,k12 hT,qo,qcb qqo]
 have hB:(((T.e e (@ix _ ⟨T.dflt e⟩ l i)).cells).map V.d).length=T.sz e:=by rw[qm,hs]
 generalize hya: @ix _ ⟨T.dflt e⟩ l i=y at *
 have hL:((l.map (T.e e)).flatMap D.cells).map V.d=(((l.take i.toNat).map (T.e e)).flatMap D.cells).map V.d++((T.e e y).cells.map V.d++(((l.drop (i.toNat+1)).map (T.e e)).flatMap D.cells).map V.d):=by
  conv=>lhs;rw[hx]
  simp only[qbm,qae,qbh,qay]
 rw[hL];generalize (((l.take i.toNat).map (T.e e)).flatMap D.cells).map V.d=A at *
 generalize (T.e e y).cells.map V.d=B at *
 generalize (((l.drop (i.toNat+1)).map (T.e e)).flatMap D.cells).map V.d=C;simp only[setAt];rw[<-hA];simp only[qeq,List.drop_append,qu (qef A.length off),qx];have e1:A.length+off-A.length=off:=by omega
 have e2:off-B.length=0:=by omega
 have e3:List.drop (A.length+off+cs.length) A=[]:=qbp qqo;have e4:A.length+off+cs.length-A.length=off+cs.length:=by omega
 have e5:off+cs.length-B.length=0:=by omega
 rw[e1,e2,e3,e4,e5];simp
end
end Go.Cv
namespace Go.Cv
open Go Go.Bv Go.RowKit Go.Md
section
variable {T:Tab} {P:Program}
theorem erH_app (a b:THp T.den):erH T (a++b)=erH T a++erH T b:=qbm
theorem erS_put (s:TSt T.den) (d:Option Nat) (v:TV T.den):erS T (s.put d v)=(erS T s).put d (er T v):=by cases d<;>rfl
def Goes (T:Tab) (s:TSt T.den) (d:Option Nat) (K:TV T.den->THp T.den->Nat->Prop) (s1:St):Prop:=∃v hu nf,K v hu nf/\Wk s1 (erS T (TSt.put ⟨s.sl,hu++s.h,s.nx+nf⟩ d v))
theorem Goes.of {s:TSt T.den} {d:Option Nat} {K:TV T.den->THp T.den->Nat->Prop} {s1:St} {v:TV T.den} {hu:THp T.den} {nf:Nat} (hk:K v hu nf)
  (e:s1=St.put ⟨(erS T s).sl,erH T hu++erH T s.h,s.nx+nf⟩ d (er T v)):Goes T s d K s1:=by
 refine⟨v,hu,nf,hk,?_⟩;rw[erS_put,e];have:erS T ⟨s.sl,hu++s.h,s.nx+nf⟩=⟨(erS T s).sl,erH T hu++erH T s.h,s.nx+nf⟩:=by simp only[erS,erH_app]
 rw[this];exact Wk.refl _
theorem Goes.weak {s:TSt T.den} {d:Option Nat} {K:TV T.den->THp T.den->Nat->Prop} {s1:St} {v:TV T.den} {id:Nat} {o:TOb T.den} {nf:Nat} {A B:List V} (hk:K v [(id,o)] nf)
  (e:s1=St.put ⟨(erS T s).sl,(id,.cells A)::erH T s.h,s.nx+nf⟩ d (er T v)) (ho:erO T o= .cells B) (hl:leL A B):Goes T s d K s1:=by
 refine⟨v,_,nf,hk,?_⟩;rw[erS_put,e];have:erS T ⟨s.sl,[(id,o)]++s.h,s.nx+nf⟩=⟨(erS T s).sl,(id,.cells B)::erH T s.h,s.nx+nf⟩:=by simp only[erS,erH_app];show St.mk _ ((id,erO T o)::erH T s.h) _=_;rw[ho]
 rw[this];exact kpf hl d _
theorem kkj (t:Ty) (v:t.den T.den) (i:Int):∀(l:List (t.den T.den)) (k j:Nat),(setI T t v i k l)[j]? =l[j]?.map fun x=>TV.d t (bif decide (i=((k+j:Nat):Int))then v else x)
 |[],_,_=>by simp[setI]
 |x::l,k,0=>by simp[setI]
 |x::l,k,j+1=>by simp only[setI,qao];rw[kkj t v i l (k+1) j,show k+1+j=k+(j+1)by omega]
theorem kif (t:Ty) (v:t.den T.den) (i:Int):∀(l:List (t.den T.den)) (k:Nat),(setI T t v i k l).length=l.length
 |[],_=>rfl
 |x::l,k=>by simp only[setI,qad,kif t v i l (k+1)]
theorem stA_snd {K:List (TV T.den)->Prop} {i:Int} {x:TV T.den} {l:List (TV T.den)} (h:stA T K i x l) (h0:0<=i) (h1:i<(l.length:Int)):
  ∃cs,K cs/\cs.length=l.length/\cs.map (er1 T)=(l.map (er1 T)).set i.toNat (er1 T x):=by
 unfold stA at h;split at h
 ·rename_i t y r;cases ha:t.agg with
  |true=>rw[ha]at h;exact h.elim
  |false=>
   rw[ha]at h;simp only[qbt]at h;split at h
   ·rename_i ys t' v hys hv;split at h
    ·rename_i v' hc;obtain⟨rfl,rfl⟩:=Ty.cast_some hc;have hy:=colT_eq hys;subst hy;have e2:(TV.d t' y::ys.map (TV.d t'))=(y::ys).map (TV.d t'):=rfl;rw[e2]at h1 ⊢;rw[qm]at h1;refine⟨_,h,by rw[kif,qm],?_⟩
     have ex:er1 T x= .d (T.e t' v):=by
      have e1:er1 T x.toB=er1 T x:=by cases x<;>rfl
      rw[<-e1,hv];rfl
     refine qcy fun j=> ?_;rw[ql,kkj,qcj,ql,ql,ex];by_cases hj:i.toNat=j
     ·subst hj;have hlt:i.toNat<(y::ys).length:=by omega
      rw[qh rfl,qh (by rw[qm,qm];exact hlt),qd hlt];simp only[qax,qaj];rw[show decide (i=((i.toNat:Nat):Int))=true by simp;omega];rfl
     ·rw[qe hj];cases hg:(y::ys)[j]? with
      |none=>rfl
      |some z=>simp only[qax,qaj];rw[show decide (i=((j:Nat):Int))=false by simp;omega];rfl
    ·exact h.elim
   ·exact h.elim
 ·exact h.elim
theorem klu (l:List V) (off m i:Nat) (x:V) (h:off+m<=l.length) (hi:i<m):setAt l off (((l.drop off).take m).set i x)=setAt l (off+i) [x]:=by
 refine qcy fun j=> ?_;have hlen:(((l.drop off).take m).set i x).length=m:=by simp;omega
 unfold setAt;rw[getElem?_splice _ _ _ _ (by rw[hlen];exact h),getElem?_splice _ _ _ _ qqm,hlen];by_cases h1:j<off
 ·rw[qh h1,qh qqo]
 ·rw[qe h1];by_cases h2:j<off+m
  ·rw[qh h2,qcj];by_cases h3:i=j-off
   ·subst h3;have e1:off+(j-off)=j:=by omega
    rw[qh rfl,qh qqm,qe qqo,qh qqm];simp[e1]
   ·rw[qe h3,qau,qh qqo,qba,show off+(j-off)=j by omega];by_cases h4:j<off+i
    ·rw[qh h4]
    ·rw[qe h4,qe qqm]
  ·rw[qe h2,qe qqo,qe qqm]
theorem kgt {x:TV T.den} (h:allOne x.cells=true):(er T x).cells.length=x.cells.length:=by rw[(k4n h).1,qm]
theorem leL_mid {a b:List V} (h:∀x∈a,x.one=true) (hb:∀x∈b,x.one=true) {c d:List V} (hl:leL c d):leL (a++c++b) (a++d++b):=by
 have ap:∀{a b c d:List V},leL a b->leL c d->leL (a++c) (b++d):=by
  intro a;induction a with
  |nil=>intro b c d h1 h2;cases b with
   |nil=>exact h2
   |cons _ _=>exact h1.elim
  |cons x a ih=>intro b c d h1 h2;cases b with
   |nil=>exact h1.elim
   |cons y b=>exact⟨h1.1,ih h1.2 h2⟩
 exact ap (ap (k4u a h) hl) (k4u b hb)
theorem k7y (hT:T.Ok) {e:Ty} (l:List (e.den T.den)):∀x∈((l.map (T.e e)).flatMap D.cells).map V.d,x.one=true:=by intro x hx;obtain⟨d,hd,rfl⟩:=qag.1 hx;obtain⟨y,hy,hd⟩:=qdr.1 hd;exact(map_sz hT l y hy).2 d hd
theorem ka9 {l:List V} {p:Nat} (v:V) (h:p<l.length):setAt l p [v]=l.set p v:=by unfold setAt;rw[qeb,qh h];simp
theorem kdk (hT:T.Ok) {t:TypeId} {ti:TI T.den} (hx:TI.Ok P T t ti) {dr:Bool} {h:THp T.den} {a x:TV T.den} {K:TV T.den->THp T.den->Nat->Prop} (hh:tStore T ti dr h a x K):
  ∃id off l g n o,K .any [(id,o)] 0/\er T a= .ptr id off/\(erH T h).get id=some (.cells l)/\tyOf P t=some (g,n)/\(er T x).flat n/\off+n<=l.length/\
   (erO T o= .cells (setAt l off (er T x).cells)∨(dr=false/\∃B,erO T o= .cells B/\leL (setAt l off (er T x).cells) B)):=by
 unfold tStore at hh;split at hh
 ·exact hh.elim
 ·rename_i g n hty;obtain⟨h1,h2⟩:=cnd hh;simp only[qg]at h1;obtain⟨hn,hone⟩:=h1;have hn:=nb_eq hn;subst hn;obtain⟨c1,c2⟩:=k4n hone;split at h2
  ·rename_i id off;split at h2
   ·rename_i l hg;obtain⟨h3,h4⟩:=cnd h2;refine⟨id,off,l.map (er1 T),g,_,_,h4,rfl,by rw[getH_er,hg];rfl,hx.ty _ hty,c2,by rw[qm];exact ble_le h3,.inl ?_⟩;show Ob.cells ((TV.setL l off x.cells).map (er1 T))=_;rw[setL_er,c1]
   ·exact h2.elim
  ·rename_i id off m i;split at h2
   ·rename_i l hg;obtain⟨h3,⟨h4,h5⟩,h6⟩:=cnd h2;simp only[qg]at h3;have hn1:=nb_eq h3.1;have hle:=ble_le h3.2;have hlen:((l.drop off).take m).length=m:=by simp;omega
    obtain⟨cs,k1,k2,k3⟩:=stA_snd h6 h4 (by rw[hlen];exact h5)
    have hxc:x.cells=[x]:=by
     cases x with
     |agg l=>
      exfalso;unfold stA at h6;split at h6
      ·rename_i t y r _;cases hta:t.agg with
       |true=>rw[hta]at h6;exact h6
       |false=>
        rw[hta]at h6;simp only[qbt]at h6;split at h6
        ·rename_i hv;cases hv
        ·exact h6
      ·exact h6
     |_=>rfl
    refine⟨id,off+i.toNat,l.map (er1 T),g,_,_,k1,rfl,by rw[getH_er,hg];rfl,hx.ty _ hty,c2,by rw[qm];omega,.inl ?_⟩;show Ob.cells ((TV.setL l off cs).map (er1 T))=_;rw[setL_er,k3,c1,hxc,qby,qcr];rw[klu _ _ _ _ _ (by rw[qm];exact hle) qqo];rfl
   ·exact h2.elim
  ·rename_i id e i off;split at h2
   ·rename_i e' l hg;obtain⟨h3,h4⟩:=cnd h2;simp only[qg]at h3;obtain⟨⟨he,hle⟩,hdr⟩:=h3;have he:=Ty.eq_of_beq he;subst he;have hle:=ble_le hle;split at h4
    ·rename_i y hy;obtain⟨⟨h5,h6⟩,h7⟩:=h4;have hgl:(erH T h).get id=some (.cells (((l.map (T.e e)).flatMap D.cells).map V.d)):=by rw[getH_er,hg];rfl
     have hm:(i.toNat+1)*T.sz e<=l.length*T.sz e:=qbc _ qqo;rw[qbj,qcs]at hm;refine⟨id,i.toNat*T.sz e+off,_,g,_,_,h7,rfl,hgl,hx.ty _ hty,c2,by rw[qm,k12 hT];omega,?_⟩;have hi:i.toNat<l.length:=by omega
     have e1:erO T (.vec e (l.set i.toNat y))= .cells ((((l.take i.toNat).map (T.e e)).flatMap D.cells).map V.d++(T.e e y).cells.map V.d++(((l.drop (i.toNat+1)).map (T.e e)).flatMap D.cells).map V.d):=by show Ob.cells ((((l.set i.toNat y).map (T.e e)).flatMap D.cells).map V.d)=_;rw[qeb,qh hi];simp only[qbm,qae,qbh,qay,qx]
     rw[kix hT l i h5 h6 off _ (by rw[kgt hone];exact hle),e1]
     have hlast:leL (setAt ((T.e e (@ix _ ⟨T.dflt e⟩ l i)).cells.map V.d) off (er T x).cells) ((T.e e y).cells.map V.d)/\(allD T x.cells=true->setAt ((T.e e (@ix _ ⟨T.dflt e⟩ l i)).cells.map V.d) off (er T x).cells=(T.e e y).cells.map V.d):=by
      cases ha:e.agg with
      |true=>
       rw[ha]at hy;simp only[qdf]at hy;have q:(TV.agg (TV.setL ((tcells T e (@ix _ ⟨T.dflt e⟩ l i)).map TD.v) off x.cells)).cells.map (er1 T)=setAt ((T.e e (@ix _ ⟨T.dflt e⟩ l i)).cells.map V.d) off (er T x).cells:=by show(TV.setL ((tcells T e (@ix _ ⟨T.dflt e⟩ l i)).map TD.v) off x.cells).map (er1 T)=_;rw[setL_er,k7n hT,c1]
       refine⟨by rw[<-q];exact toEl_le hT hy,fun hd=>by
        rw[<-q];refine toEl_ex hT hy ?_
        have adA:∀(a b:List (TV T.den)),allD T a=true->allD T b=true->allD T (a++b)=true:=by
         intro a;induction a with
         |nil=>intro b _ hb;exact hb
         |cons v a ih=>intro b h1 h2;cases v<;>first|exact ih b h1 h2|cases h1
        have adV:∀(l:List (TD T.den)),allD T (l.map TD.v)=true:=by
         intro l;induction l with
         |nil=>rfl
         |cons d l ih=>exact ih
        show allD T (TV.setL ((tcells T e (@ix _ ⟨T.dflt e⟩ l i)).map TD.v) off x.cells)=true;unfold TV.setL;rw[<-qby,<-qcr];exact adA _ _ (adA _ _ (adV _) hd) (adV _)⟩
      |false=>
       rw[ha]at hy;simp only[qbt]at hy;have hs1:=sz_one (T:=T) ha;have hcl:(er T x).cells.length=x.cells.length:=kgt hone
       have q:setAt ((T.e e (@ix _ ⟨T.dflt e⟩ l i)).cells.map V.d) off (er T x).cells=x.cells.map (er1 T):=by
        have hne:0<x.cells.length:=by
         have:=toEl_le hT hy;rw[e_cells ha]at this;cases hq:x.cells with
         |nil=>rw[hq]at this;exact this.elim
         |cons _ _=>simp
        have ho:off=0:=by omega
        have hc1:x.cells.length=1:=by omega
        subst ho;rw[e_cells ha,c1];simp[setAt,hc1]
       exact⟨by rw[q];exact toEl_le hT hy,fun hd=>by rw[q];exact toEl_ex hT hy hd⟩
     cases dr with
     |false=>exact .inr ⟨rfl,_,rfl,leL_mid (k7y hT _) (k7y hT _) hlast.1⟩
     |true=>refine .inl ?_;simp only[Bool.not_true,qfh]at hdr;rw[hlast.2 hdr]
    ·split at h4
     ·rename_i rid re m _ _;obtain⟨⟨h5,h6⟩,h7⟩:=h4;have hgl:(erH T h).get id=some (.cells (((l.map (T.e e)).flatMap D.cells).map V.d)):=by rw[getH_er,hg];rfl
      have hm:(i.toNat+1)*T.sz e<=l.length*T.sz e:=qbc _ qqo;rw[qbj,qcs]at hm;have hle:off+1<=T.sz e:=hle;refine⟨id,i.toNat*T.sz e+off,_,g,_,_,h7,rfl,hgl,hx.ty _ hty,c2,by rw[qm,k12 hT];show _+1<=_;omega,.inl ?_⟩;show _=Ob.cells (setAt _ _ [V.row rid 0 m (T.sz re)]);rw[ka9 _ (by rw[qm,k12 hT];omega)];rfl
     ·exact h4.elim
   ·exact h2.elim
  ·exact h2.elim
end
end Go.Cv
namespace Go.Cv
open Go Go.Bv Go.RowKit Go.Md
section
variable {T:Tab} {P:Program}
theorem kac {pl:List (Nat×Nat)} {K:List (TV T.den)->Prop}:∀(ps:List (Nat×TV T.den)) (l:List (TV T.den)),tFill T pl K l ps->
  ∃l',K l'/\fillOk pl (l.map (er1 T)) (ps.map fun p=>(p.1,er T p.2))/\fillR pl (l.map (er1 T)) (ps.map fun p=>(p.1,er T p.2))=l'.map (er1 T)
 |[],l,h=>⟨l,h,trivial,rfl⟩
 |p::r,l,h=>by
  simp only[tFill]at h;split at h
  ·rename_i off n hp;obtain⟨h1,h2⟩:=cnd h;simp only[qg]at h1;obtain⟨⟨hn,hone⟩,hle⟩:=h1;have hn:=nb_eq hn;subst hn;obtain⟨c1,c2⟩:=k4n hone;obtain⟨l',g1,g2,g3⟩:=kac r _ h2;rw[setL_er,<-c1]at g2 g3;refine⟨l',g1,?_,?_⟩
   ·simp only[qae,fillOk,hp];exact⟨c2,by rw[qm];exact ble_le hle,g2⟩
   ·simp only[qae,fillR,hp];exact g3
  ·exact h.elim
def notK:TV T.den->Bool
 | .k _=>false
 |_=>true
theorem toEl1_D {t:Ty} {v:TV T.den} {x:t.den T.den} (hx:toEl1 t v=some x) (hk:notK v=true):(er1 T v).toD1=some (T.e t x):=by
 cases t with
 |sl e=>
  simp only[toEl1]at hx;unfold els at hx;split at hx
  ·obtain⟨h1,h2,_⟩:=km hx;show some (D.slice _ _)=some (D.slice _ _);rw[h1,h2]
  ·obtain⟨h1,h2,_⟩:=km hx;show some (D.slice _ _)=some (D.slice _ _);rw[h1,h2]
  ·obtain⟨h1,h2,_⟩:=km hx;show some (D.slice _ _)=some (D.slice _ _);rw[h1,h2]
  ·cases hk
  ·cases hx
 |bool=>rw[(isB_er hx).1];rfl
 |int k=>rw[(k23 hx).1];rfl
 |str=>rw[(k23 hx).1];rfl
 |st n=>cases hx
theorem packL_D:∀{ts:List Ty} {vs:List (TV T.den)} {z:HL T.den ts},packL ts vs=some z->(∀v∈vs,notK v=true)->(vs.map (er1 T)).mapM V.toD1=some (T.eL ts z)
 |[],[],_,_,_=>rfl
 |[],_::_,_,h,_=>by simp[packL]at h
 |_::_,[],_,h,_=>by simp[packL]at h
 |t::ts,v::vs,z,h,hd=>by
  simp only[packL]at h;split at h
  ·rename_i x hx;split at h
   ·rename_i y hy;injection h with h;subst h;have h1:=toEl1_D hx (hd v qqs);have h2:=packL_D hy (fun u hu=>hd u (by simp[hu]));rw[qae,qel,h1,h2];rfl
   ·cases h
  ·cases h
theorem toEl_D (hT:T.Ok) {e:Ty} {v:TV T.den} {x:e.den T.den} (hx:toEl T e v=some x) (hk:noK T v=true):(er T v).toD=some (T.e e x):=by
 have main:∀{t:Ty} {x:t.den T.den},toEl1 t v=some x->(er T v).toD=some (T.e t x):=by
  intro t x h;obtain⟨_,h2,h3⟩:=k3m h;have hk' :notK v=true:=by cases v<;>first|rfl|cases hk
  have h4:=toEl1_D h hk';have hag:∀l,v≠ .agg l:=by intro l hl;subst hl;cases h4
  have htu:∀l,v≠ .tup l:=by intro l hl;subst hl;cases h4
  have e1:er T v=er1 T v:=by cases v<;>first|rfl|exact(hag _ rfl).elim|exact(htu _ rfl).elim
  rw[e1];cases hy:er1 T v<;>rw[hy]at h4<;>first|exact h4|cases h4
 cases e with
 |st n=>
  obtain⟨l,z,rfl,hp,rfl⟩:=k4b hx;show((l.map (er1 T)).mapM V.toD1).map D.agg=some (T.enc n (T.pack n z))
  rw[packL_D hp (fun v hv=>by
   have:=qbw.1 hk v hv;cases v<;>first|rfl|cases this),hT.en,hT.pc]
  rfl
 |sl e=>exact main (t:= .sl e) hx
 |bool=>exact main (t:= .bool) hx
 |int k=>exact main (t:= .int k) hx
 |str=>exact main (t:= .str) hx
theorem toEls_D (hT:T.Ok) {e:Ty}:∀{vs:List (TV T.den)} {l:List (e.den T.den)},toEls T e vs=some l->vs.all (noK T)=true->toDs (vs.map (er T))=some (l.map (T.e e))/\l.length=vs.length
 |[],l,h,_=>by simp only[toEls,qah]at h;subst h;exact⟨rfl,rfl⟩
 |v::vs,l,h,hk=>by
  simp only[qeu,qg]at hk;simp only[toEls]at h;split at h
  ·rename_i x hx;split at h
   ·rename_i y hy;injection h with h;subst h;obtain⟨g1,g2⟩:=toEls_D hT hy hk.2;refine⟨?_,by simp[g2]⟩;rw[qae,r_toDs1,toEl_D hT hx hk.1,g1];rfl
   ·cases h
  ·cases h
theorem kh0 (hT:T.Ok) {e:Ty}:∀(l:List (e.den T.den)),sizesOk (T.sz e) (l.map (T.e e))
 |[]=>trivial
 |x::l=>⟨(e_sz hT e x).1,kh0 hT l⟩
theorem kg3:∀{l:List Nat} {k n:Nat},rangeB k l=true->l.length=n->l=(List.range n).map (k+·)
 |[],k,n,_,hn=>by simp at hn;subst hn;rfl
 |i::r,k,n,h,hn=>by
  simp only[rangeB,qg]at h;cases n with
  |zero=>simp at hn
  |succ n=>rw[kg3 (n:=n) h.2 (by simpa using hn),nb_eq h.1,List.range_succ_eq_map];simp only[qae,qbi,qcq];congr 1;refine qar fun a _=> ?_;simp only[Function.comp];omega
theorem kk8 {a b:List V} (h:leL a b):∀n,leL (List.replicate n a).flatten (List.replicate n b).flatten
 |0=>trivial
 |n+1=>by
  have ap:∀{a b c d:List V},leL a b->leL c d->leL (a++c) (b++d):=by
   intro a;induction a with
   |nil=>intro b c d h1 h2;cases b with
    |nil=>exact h2
    |cons _ _=>exact h1.elim
   |cons x a ih=>intro b c d h1 h2;cases b with
    |nil=>exact h1.elim
    |cons y b=>exact⟨h1.1,ih h1.2 h2⟩
  simp only[qdo,qfe];exact ap h (kk8 h n)
theorem zrow_eq (n:Nat) (zs:List V):zrow n zs=(List.replicate n zs).flatten:=by
 unfold zrow;split
 ·rename_i z;induction n with
  |zero=>rfl
  |succ n ih=>rw[qdo,qdo,qfe,<-ih];rfl
 ·rfl
theorem k9d {e:Ty} (x:e.den T.den):∀n,(((List.replicate n x).map (T.e e)).flatMap D.cells).map V.d=(List.replicate n ((T.e e x).cells.map V.d)).flatten
 |0=>rfl
 |n+1=>by simp only[qdo,qae,qay,qbm,qfe,k9d x n]
theorem k7d (hT:T.Ok) {h:THp T.den} {e:Ty} {y:TV T.den} {K:List (e.den T.den)->Prop} (hh:srcE T h e y K):∃m,K m/\srcV (erH T h) (T.sz e) (er T y) (m.map (T.e e)):=by
 unfold srcE at hh;split at hh
 ·rename_i id e0 n;split at hh
  ·rename_i e' l hg;obtain⟨h1,hh⟩:=cnd hh;obtain rfl:=Ty.eq_of_beq h1;split at hh
   ·rename_i l' hl;obtain⟨rfl,rfl⟩:=Ty.cast_some hl;obtain⟨rfl,hk⟩:=hh;refine⟨_,hk,.inr ⟨id,0,l.length,l.map (T.e _),?_,by rw[getH_er,hg];rfl,map_sz hT l,by simp,by simp[qu]⟩⟩;simp only[er,er0,er1,Nat.zero_mul]
   ·exact hh.elim
  ·exact hh.elim
 ·rename_i id e0 off n;split at hh
  ·rename_i e' l hg;obtain⟨h1,hh⟩:=cnd hh;obtain rfl:=Ty.eq_of_beq h1;split at hh
   ·rename_i l' hl;obtain⟨rfl,rfl⟩:=Ty.cast_some hl;obtain⟨h2,hk⟩:=hh;exact⟨_,hk,.inr ⟨id,off,n,l.map (T.e _),rfl,by rw[getH_er,hg];rfl,map_sz hT l,by simpa using h2,by simp[qby,qcr]⟩⟩
   ·exact hh.elim
  ·exact hh.elim
 ·split at hh
  ·rename_i m hm;exact⟨m,hh,.inl (els_erS hm)⟩
  ·exact hh.elim
theorem isE_er {e:Ty} {v:TV T.den} (h:isE e v=true):emptyV (T.sz e) (er T v)/\v.one=true:=by
 unfold isE at h;split at h
 ·rw[Ty.eq_of_beq h];exact⟨.inr rfl,rfl⟩
 ·rw[k1s h];exact⟨.inl rfl,rfl⟩
 ·cases h
theorem kbn (hT:T.Ok) {t:TypeId} {e:Ty} {bt fr id:Nat} {h:THp T.den} {x y:TV T.den} {l l0 m:List (e.den T.den)} {K:TV T.den->THp T.den->Nat->Prop} (hrow:rowOf P t=some (T.sz e,bt)) (hs:srcV (erH T h) (T.sz e) (er T y) (m.map (T.e e)))
  (hx:er T x= .row id 0 l.length (T.sz e)) (hg:getH h id=some (.vec e l0)) (hl:l=l0.take l.length) (hh:tAppRow T e bt fr id l m K):∃v hu,K v hu 1/\appRowE P (erH T h) fr t (er T x) (er T y) (er T v) (erH T hu):=by
 obtain⟨h1,h2,h3⟩:=hh;have hle:l.length<=l0.length:=by rw[hl,qo];omega
 refine⟨_,_,h3,T.sz e,bt,m.map (T.e e),hrow,hs,.inl ⟨id,l.length,((l0.map (T.e e)).flatMap D.cells).map V.d,hx,by rw[getH_er,hg];rfl,?_,by simpa using h1,by simpa using h2,?_,?_⟩⟩
 ·rw[qm,k12 hT];exact qbc _ hle
 ·show [(fr,Ob.cells _),(id,Ob.dead)]=[(fr,Ob.cells _),(id,Ob.dead)];rw[<-qby,k9y hT l0 _ hle,<-hl,<-qbm,<-qbh,<-qbm]
 ·simp[er,er0,er1]
theorem k8h (hT:T.Ok) {t:TypeId} {ti:TI T.den} (hx:TI.Ok P T t ti) {dr rw:Bool} {fr:Nat} {h:THp T.den} {x y:TV T.den} {K:TV T.den->THp T.den->Nat->Prop} (hh:tAppend T ti dr rw fr h x y K):
  (∃v hu,K v hu 1/\appRowE P (erH T h) fr t (er T x) (er T y) (er T v) (erH T hu))∨∃e bt m,ti.el=some (e,bt)/\els e y=some m/\tAppOwn T e bt dr fr h x m K:=by
 unfold tAppend at hh;split at hh
 ·exact hh.elim
 ·rename_i e bt hel;have hrow:=(hx.el _ _ hel).2;cases hc:(rw&&isE e x)with
  |true=>rw[hc]at hh;simp only[qg]at hc;obtain⟨m,⟨h1,h2,h3⟩,hs⟩:=k7d hT hh;refine .inl ⟨_,_,h3,T.sz e,bt,m.map (T.e e),hrow,hs,.inr (.inl ⟨(isE_er hc.2).1,by simpa using h1,by simpa using h2,rfl,by simp[er,er0,er1]⟩)⟩
  |false=>
   rw[hc]at hh;simp only[qbt]at hh;cases hc2:(dr&&isF x)with
   |true=>
    rw[hc2]at hh;obtain⟨m,hk,hs⟩:=k7d hT hh;unfold tAppData at hk;split at hk
    ·rename_i e' l;split at hk
     ·rename_i l' hl;obtain⟨rfl,rfl⟩:=Ty.cast_some hl;obtain⟨h1,h2,h3⟩:=hk;exact .inl ⟨_,_,h3,T.sz e',bt,m.map (T.e e'),hrow,hs,.inr (.inr ⟨l.map (T.e e'),.inr rfl,by simpa using h1,by simpa using h2,rfl,by simp[er,er0,er1,Tab.e]⟩)⟩
     ·exact hk.elim
    ·rename_i v;obtain⟨h1,h2,h3,h4⟩:=cnd hk;rw[k1s h1];exact .inl ⟨_,_,h4,T.sz e,bt,m.map (T.e e),hrow,hs,.inr (.inr ⟨[],.inl ⟨rfl,rfl⟩,by simpa using h2,by simpa using h3,rfl,by simp[er,er0,er1,Tab.e]⟩)⟩
    ·exact hk.elim
   |false=>
   rw[hc2]at hh;simp only[qbt]at hh;split at hh
   ·rename_i id e0 n;split at hh
    ·rename_i e' l hg;obtain⟨h1,hh2⟩:=cnd hh;clear hh;obtain rfl:=Ty.eq_of_beq h1;split at hh2
     ·rename_i l' hl;obtain⟨rfl,rfl⟩:=Ty.cast_some hl;obtain⟨rfl,hh3⟩:=hh2;obtain⟨m,hk,hs⟩:=k7d hT hh3;exact .inl (kbn hT hrow hs rfl hg (qcn).symm hk)
     ·exact hh2.elim
    ·exact hh.elim
   ·rename_i id e0 off n;split at hh
    ·rename_i e' l hg;obtain⟨h1,hh2⟩:=cnd hh;clear hh;obtain rfl:=Ty.eq_of_beq h1;split at hh2
     ·rename_i l' hl;obtain⟨rfl,rfl⟩:=Ty.cast_some hl;obtain⟨rfl,hn,hh3⟩:=hh2;replace hn:n<=l.length:=hn;obtain⟨m,hk,hs⟩:=k7d hT hh3;have e1:(l.take n).length=n:=by rw[qo];omega
      refine .inl (kbn (l:=l.take n) hT hrow hs ?_ hg ?_ hk)
      ·rw[e1];simp[er,er0,er1]
      ·rw[e1]
     ·exact hh2.elim
    ·exact hh.elim
   ·split at hh
    ·exact hh.elim
    ·rename_i m hm;exact .inr ⟨e,bt,m,hel,hm,hh⟩
theorem kl3 (hT:T.Ok) {t:TypeId} {ti:TI T.den} (hx:TI.Ok P T t ti) {s:TSt T.den} {rw:Bool} {x y:TV T.den} {d:Option Nat} {K:TV T.den->THp T.den->Nat->Prop} (h:tAppend T ti false rw s.nx s.h x y K):
  (appOk P (erS T s) t (er T x) (er T y)/\Goes T s d K (appS P (erS T s) t (er T x) (er T y) d))∨appRowA P (erS T s) t (er T x) (er T y) d (Goes T s d K):=by
 rcases k8h (P:=P) hT hx h with⟨v,hu,hk,ha⟩|⟨e,bt,m,hel,hm,h0⟩
 ·exact .inr ⟨er T v,erH T hu,ha,Goes.of hk rfl⟩
 refine .inl ?_;have hrow:=(hx.el _ _ hel).2;have hrd:rowD P t=(T.sz e,bt):=by unfold rowD;rw[hrow];rfl
 obtain⟨y1,y2⟩:=k4p hm
 have fin:∀{l:List (e.den T.den)} {k nf:Nat},growA (erS T s) (T.sz e) (er T x)=some (k,s.nx+nf,l.map (T.e e))->(l.length+m.length)*bt<=140737488355328->l.length+m.length<=maxLen->K (.own k e (l++m)) [(k,.tip e (l++m))] nf->
   appOk P (erS T s) t (er T x) (er T y)/\Goes T s d K (appS P (erS T s) t (er T x) (er T y) d):=by
  intro l k nf hg h1 h2 hk;have hgd:growD (erS T s) (T.sz e) (er T x)=(k,s.nx+nf,l.map (T.e e)):=by unfold growD;rw[hg];rfl
  refine⟨⟨by rw[hrow];rfl,by rw[hrd];show(growA _ (T.sz e) _).isSome=true;rw[hg];rfl,by rw[hrd];exact y2,?_,?_⟩,?_⟩
  ·rw[hrd];simp only[hgd,y1,qm];exact h1
  ·rw[hrd];simp only[hgd,y1,qm];exact h2
  ·refine Goes.of hk ?_;unfold appS;rw[hrd];simp only[hgd,y1,qm];show St.put ⟨_,(k,.tip (l.length+m.length))::_,_⟩ d _=St.put ⟨_,(k,.tip (l++m).length)::_,_⟩ d _;rw[qj];congr 1;show V.own k (T.sz e) _=V.own k (T.sz e) _;rw[qbm]
 clear h;unfold tAppOwn at h0;split at h0
 ·rename_i tok e0 l0;split at h0
  ·rename_i e1 l' hg;split at h0
   ·rename_i l hl;obtain⟨h1,h2,h3,h4⟩:=h0;obtain⟨c1,c2,c3⟩:=km hl;refine fin (l:=l) (k:=tok) (nf:=0) ?_ h2 h3 h4;show growA (erS T s) (T.sz e) (.own tok (T.sz e0) (l0.map (T.e e0)))=_;rw[c1,c2];have hgt:(erS T s).h.get tok=some (.tip l'.length):=by show(erH T s.h).get tok=_;rw[getH_er,hg];rfl
    simp only[growA,qce,hgt,qm];rw[qh h1];rfl
   ·exact h0.elim
  ·exact h0.elim
 ·rename_i e' l0;split at h0
  ·rename_i l _ hl;obtain⟨h2,h3,h4⟩:=h0;obtain⟨c1,c2,c3⟩:=km hl;refine fin (l:=l) (k:=s.nx) (nf:=1) ?_ h2 h3 h4;show growA (erS T s) (T.sz e) (.full (T.sz e') (l0.map (T.e e')))=_;rw[c1,c2];simp only[growA,qce];rfl
  ·exact h0.elim
 ·rename_i v;obtain⟨h1,h2,h3,h4⟩:=cnd h0;have hv:=k1s h1;subst hv;exact fin (l:=[]) (k:=s.nx) (nf:=1) rfl (by simpa using h2) (by simpa using h3) h4
 ·exact h0.elim
theorem knt (hT:T.Ok) {t:TypeId} {ti:TI T.den} (hx:TI.Ok P T t ti) {s:TSt T.den} {x y:TV T.den} {d:Option Nat} {K:TV T.den->THp T.den->Nat->Prop} (h:tCopy T ti s.h x y K):
  copyOk P t (erS T s).h (er T x) (er T y)/\Goes T s d K (St.put ⟨(erS T s).sl,copyH (erS T s).h (er T x) (er T y),(erS T s).nx⟩ d (copyN (er T x) (er T y))):=by
 unfold tCopy at h;split at h
 ·exact h.elim
 ·rename_i e bt hel;have hrow:=(hx.el _ _ hel).2;have hrd:rowD P t=(T.sz e,bt):=by unfold rowD;rw[hrow];rfl
  split at h
  ·rename_i id e0 n;split at h
   ·rename_i e' l hg;split at h
    ·rename_i m hm;obtain⟨h1,rfl,h3⟩:=cnd h;simp only[qg]at h1;have e1:=Ty.eq_of_beq h1.1;have e2:=Ty.eq_of_beq h1.2;subst e1;subst e2;obtain⟨y1,y2⟩:=k4p hm;have hgl:(erS T s).h.get id=some (.cells (((l.map (T.e e0)).flatMap D.cells).map V.d)):=by show(erH T s.h).get id=_;rw[getH_er,hg];rfl
     refine⟨⟨⟨by rw[hrow];rfl,by rw[hrd]⟩,y2,?_⟩,Goes.of h3 ?_⟩
     ·rw[hgl];show 0+l.length*T.sz e0<=_;rw[qm,k12 hT];omega
     ·show St.put ⟨_,copyO (erS T s).h id 0 l.length ((er T y).elsD (T.sz e0)) ((erS T s).h.get id),_⟩ d (.d (.int .i64 (min ((er T y).elsD (T.sz e0)).length l.length:Nat)))=_;rw[hgl,y1];simp only[copyO,qm];congr 1;show St.mk _ ((id,_)::_) _=St.mk _ ((id,Ob.cells _)::_) _;congr 3;unfold rowOver setAt;have hk:min m.length l.length<=l.length:=Nat.min_le_right ..;have hk2:min m.length l.length<=m.length:=Nat.min_le_left ..;have hd:=kgg hT l (min m.length l.length) hk;have e1:(List.take (min m.length l.length) (List.map (T.e e0) m)).flatMap D.cells=((m.take (min m.length l.length)).map (T.e e0)).flatMap D.cells:=by rw[qby]
      have e2:(((m.take (min m.length l.length)).map (T.e e0)).flatMap D.cells).length=min m.length l.length*T.sz e0:=by rw[k12 hT,qo,qcb hk2]
      rw[qm,e1,e2,List.take_zero,qcc,qaj,<-qcr,hd,<-qbm,<-qbh,<-qbm]
    ·exact h.elim
   ·exact h.elim
  ·exact h.elim
theorem kmv {t:TypeId} {ti:TI T.den} (hx:TI.Ok P T t ti) {s:TSt T.den} {co:Operand} {x y:TV T.den} {d:Option Nat} {K:TV T.den->THp T.den->Nat->Prop} (h:tMake T ti s.nx co x y K):
  mkOk P t (er T x) (er T y)/\Goes T s d K (St.put ⟨(erS T s).sl,((erS T s).nx,.cells (zrow (natOf (er T x)) (elZD P t)))::(erS T s).h,(erS T s).nx+1⟩ d (.row (erS T s).nx 0 (natOf (er T x)) (rowD P t).1)):=by
 unfold tMake at h;split at h
 ·rename_i e bt k n k' c hel hez hxi hyi;obtain⟨h1,h2,h3⟩:=h;obtain⟨h3,h4⟩:=ask_and h3;obtain⟨h4,h5⟩:=ask_and h4;have hrow:=(hx.el _ _ hel).2;have hrd:rowD P t=(T.sz e,bt):=by unfold rowD;rw[hrow];rfl
  obtain⟨zs,z1,z2⟩:=hx.ez hez e bt hel;rw[asI_eq hxi,asI_eq hyi];refine⟨⟨⟨by rw[hrow];rfl,by rw[z1];rfl⟩,h1,h2,by rw[hrd];exact h3,h4⟩,?_⟩;refine Goes.weak (A:=zrow n.toNat zs) h5 ?_ (by show Ob.cells _=_;rw[k9d]) ?_
  ·show St.put ⟨_,(s.nx,.cells (zrow n.toNat (elZD P t)))::_,_⟩ d (.row s.nx 0 n.toNat (rowD P t).1)=_;rw[hrd];unfold elZD;rw[z1];rfl
  ·rw[zrow_eq];exact kk8 z2 _
 ·exact h.elim
theorem kot {t:TypeId} {ti:TI T.den} (hx:TI.Ok P T t ti) {op:BinOp} {x:TV T.den} {K:TV T.den->Prop} (h:tNil T op ti x K):
  (∃b:Bool,nilMay (er T x)∨b=false)/\isSl (P.underlying t)/\nilOk (er T x)/\∀b:Bool,(b=true->nilMay (er T x))->∃u,K u/\isEq op/\aggV op b=er T u:=by
 unfold tNil at h;split at h
 ·rename_i e bt hel;have hs:=el_sl (hx.el _ _ hel).1
  have hs' :isSl (P.underlying t):=by
   cases hu:P.underlying t with
   |none=>rw[hu]at hs;exact hs
   |some u=>rw[hu]at hs;cases u<;>first|trivial|exact hs
  split at h
  ·exact h.elim
  ·rename_i n;exact⟨⟨false,.inr rfl⟩,hs',trivial,fun b hb=>k3p (h b fun hbt=>hb hbt)⟩
  ·rename_i n;exact⟨⟨false,.inr rfl⟩,hs',trivial,fun b hb=>k3p (h b fun hbt=>hb hbt)⟩
  ·rename_i hk hr1 hr2;clear hr1 hr2;cases hl:els e x with
   |none=>rw[hl]at h;exact h.elim
   |some l=>
    rw[hl]at h;have hE:=els_erS hl
    have hkey:nilOk (er T x)/\(nilMay (er T x)->l=[]):=by
     unfold els at hl;split at hl
     ·obtain⟨_,c2,c3⟩:=km hl;refine⟨trivial,fun hn=> ?_⟩;have:List.map (T.e _) _=[]:=hn;rw[c2]at this;simpa using this
     ·obtain⟨_,c2,c3⟩:=km hl;refine⟨trivial,fun hn=> ?_⟩;have:List.map (T.e _) _=[]:=hn;rw[c2]at this;simpa using this
     ·obtain⟨_,c2,c3⟩:=km hl;refine⟨trivial,fun hn=> ?_⟩;have:List.map (T.e _) _=[]:=hn;rw[c2]at this;simpa using this
     ·exact(hk _ rfl).elim
     ·cases hl
    exact⟨⟨false,.inr rfl⟩,hs',hkey.1,fun b hb=>k3p (h b fun hbt=>hkey.2 (hb hbt))⟩
 ·exact h.elim
end
end Go.Cv
namespace Go.Cv
open Go Go.Bv Go.RowKit Go.Md
theorem kjp (σ:Nat->Nat) (d:D):ren0 σ (V.ofD d)=V.ofD d:=by
 cases d with
 |agg l=>show V.agg ((l.map V.d).map (ren1 σ))=V.agg (l.map V.d);rw[qbi];rfl
 |_=>rfl
theorem ok0_ofD {nx:Nat} (d:D):ok0 nx (V.ofD d):=by
 cases d with
 |agg l=>
  show okL nx (l.map V.d);induction l with
  |nil=>trivial
  |cons x l ih=>exact⟨trivial,ih⟩
 |_=>trivial
section
variable {T:Tab}
section
variable (σ:Nat->Nat) (f:List (Option (TOb T.den)))
theorem tk1_dr:∀(s:Sh1) (r:List Ty) (x:HL T.den (hs1 s r)),(tk1 σ f s r x).2=dr1 s r x
 | .any,_,_=>rfl
 | .k _,_,_=>rfl
 | .d _,_,_=>rfl
 | .full _,_,_=>rfl
 | .own _,_,_=>rfl
 | .ptr _ _,_,_=>rfl
 | .row _,_,_=>rfl
 | .view _,_,_=>rfl
 | .mp _,_,_=>rfl
 | .clo _ _ _,_,_=>rfl
theorem tkL_dr:∀(l:List Sh1) (r:List Ty) (x:HL T.den (hsL l r)),(tkL σ f l r x).2=drL l r x
 |[],_,_=>rfl
 |s::l,r,x=>by
  have aux:∀x:HL T.den (hs1 s (hsL l r)),(tkL σ f l r (tk1 σ f s (hsL l r) x).2).2=drL l r (dr1 s (hsL l r) x):=fun x=>by rw[tkL_dr l r,tk1_dr]
  exact aux x
theorem tk0_dr:∀(s:Sh0) (r:List Ty) (x:HL T.den (hs0 s r)),(tk0 σ f s r x).2=dr0 s r x
 | .one s,r,x=>tk1_dr σ f s r x
 | .agg l,r,x=>tkL_dr σ f l r x
theorem tkO1_dr (g:Option (TOb T.den)):∀(o:OSh) (r:List Ty) (x:HL T.den (hsO1 o r)),(tkO1 σ f g o r x).2=drO1 o r x
 | .cells l,r,x=>tkL_dr σ f l r x
 | .tip _,_,_=>rfl
 | .vec _,_,_=>rfl
 | .map _ _,_,_=>rfl
 | .it _ _ _,_,_=>rfl
 | .dead,_,_=>rfl
theorem kor (j:Nat) (g:Option (TOb T.den)):er1 T (ownT (σ j) g)=ren1 σ (er1 T (ownT j g)):=by unfold ownT;split<;>rfl
theorem koe (j:Nat) (g:Option (TOb T.den)):er1 T (rowT (σ j) g)=ren1 σ (er1 T (rowT j g)):=by unfold rowT;split<;>rfl
theorem knh (j:Nat) (o n:Int) (g:Option (TOb T.den)):er1 T (viewT (σ j) o n g)=ren1 σ (er1 T (viewT j o n g)):=by unfold viewT;split<;>rfl
def TV.sim:TV T.den->Bool
 | .agg _=>false
 | .tup _=>false
 |_=>true
theorem er0_sim {v:TV T.den} (h:v.sim=true):er0 T v=er1 T v:=by cases v<;>first|rfl|cases h
theorem er_sim {v:TV T.den} (h:v.sim=true):er T v=er1 T v:=by cases v<;>first|rfl|cases h
theorem er1_na {v:TV T.den}:(∀l,er1 T v≠ .agg l)/\∀l,er1 T v≠ .tup l:=by cases v<;>exact⟨fun l h=>(by cases h),fun l h=>(by cases h)⟩
theorem ren0_1 {x:V} (h:∀l,x≠ .agg l):ren0 σ x=ren1 σ x:=by cases x<;>first|rfl|exact(h _ rfl).elim
theorem ren_0 {x:V} (h:∀l,x≠ .tup l):ren σ x=ren0 σ x:=by cases x<;>first|rfl|exact(h _ rfl).elim
theorem kpt (k:Nat) (g:Option (TOb T.den)):(ownT k g).sim=true:=by unfold ownT;split<;>rfl
theorem kq7 (k:Nat) (g:Option (TOb T.den)):(rowT k g).sim=true:=by unfold rowT;split<;>rfl
theorem knw (k:Nat) (o n:Int) (g:Option (TOb T.den)):(viewT k o n g).sim=true:=by unfold viewT;split<;>rfl
theorem tk1_sim:∀(s:Sh1) (r:List Ty) (x:HL T.den (hs1 s r)),(tk1 σ f s r x).1.sim=true
 | .any,_,_=>rfl
 | .k _,_,_=>rfl
 | .d _,_,_=>rfl
 | .full _,_,_=>rfl
 | .own _,_,_=>kpt _ _
 | .ptr _ _,_,_=>rfl
 | .row _,_,_=>kq7 _ _
 | .view _,_,_=>knw _ _ _ _
 | .mp _,_,_=>rfl
 | .clo _ _ _,_,_=>rfl
theorem renP_id:∀l:List (Option (Nat×Nat)),renP idf l=l
 |[]=>rfl
 |none::r=>congrArg (List.cons none) (renP_id r)
 |some (_,_)::r=>congrArg (List.cons _) (renP_id r)
theorem tk1_ren:∀(s:Sh1) (r:List Ty) (x:HL T.den (hs1 s r)),er1 T (tk1 σ f s r x).1=ren1 σ (er1 T (tk1 idf f s r x).1)
 | .any,_,_=>rfl
 | .k _,_,_=>rfl
 | .d _,_,_=>rfl
 | .full _,_,_=>rfl
 | .own j,_,_=>kor σ j _
 | .ptr _ _,_,_=>rfl
 | .row j,_,_=>koe σ j _
 | .view j,_,x=>knh σ j x.1 x.2.1 _
 | .mp _,_,_=>rfl
 | .clo g fs cs,_,_=>by show V.clo g (renP σ fs) (renP σ cs)= .clo g (renP σ (renP idf fs)) (renP σ (renP idf cs));rw[renP_id,renP_id]
theorem tkL_ren:∀(l:List Sh1) (r:List Ty) (x:HL T.den (hsL l r)),(tkL σ f l r x).1.map (er1 T)=((tkL idf f l r x).1.map (er1 T)).map (ren1 σ)
 |[],_,_=>rfl
 |s::l,r,x=>by
  have aux:∀x:HL T.den (hs1 s (hsL l r)),er1 T (tk1 σ f s _ x).1::(tkL σ f l r (tk1 σ f s (hsL l r) x).2).1.map (er1 T)=ren1 σ (er1 T (tk1 idf f s _ x).1)::((tkL idf f l r (tk1 idf f s (hsL l r) x).2).1.map (er1 T)).map (ren1 σ):=fun x=>by rw[tk1_ren,tk1_dr,tk1_dr,tkL_ren l r]
  exact aux x
theorem tk0_ren:∀(s:Sh0) (r:List Ty) (x:HL T.den (hs0 s r)),er0 T (tk0 σ f s r x).1=ren0 σ (er0 T (tk0 idf f s r x).1)/\(tk0 σ f s r x).1.tupB=false
 | .one s,r,x=>by
  have aux:∀x:HL T.den (hs1 s r),er0 T (tk1 σ f s r x).1=ren0 σ (er0 T (tk1 idf f s r x).1)/\(tk1 σ f s r x).1.tupB=false:=fun x=>by have h1:=tk1_sim σ f s r x;have h2:=tk1_sim idf f s r x;rw[er0_sim h1,er0_sim h2,tk1_ren,ren0_1 σ er1_na.1];refine⟨rfl,?_⟩;generalize (tk1 σ f s r x).1=v at h1;cases v<;>first|rfl|cases h1
  exact aux x
 | .agg l,r,x=>by
  have aux:∀x:HL T.den (hsL l r),V.agg ((tkL σ f l r x).1.map (er1 T))=V.agg (((tkL idf f l r x).1.map (er1 T)).map (ren1 σ)):=fun x=>by rw[tkL_ren]
  exact⟨aux x,rfl⟩
theorem er_ntup {v:TV T.den} (h:v.tupB=false):er T v=er0 T v:=by cases v<;>first|rfl|cases h
theorem k1l {v:TV T.den}:∀l,er0 T v≠ .tup l:=by intro l h;cases v<;>first|cases h
theorem k2m:∀(l:List Sh0) (r:List Ty) (x:HL T.den (hsT l r)),(tkT σ f l r x).1.map (er0 T)=((tkT idf f l r x).1.map (er0 T)).map (ren0 σ)
 |[],_,_=>rfl
 |s::l,r,x=>by
  have aux:∀x:HL T.den (hs0 s (hsT l r)),er0 T (tk0 σ f s _ x).1::(tkT σ f l r (tk0 σ f s (hsT l r) x).2).1.map (er0 T)=ren0 σ (er0 T (tk0 idf f s _ x).1)::((tkT idf f l r (tk0 idf f s (hsT l r) x).2).1.map (er0 T)).map (ren0 σ):=fun x=>by rw[(tk0_ren σ f s _ x).1,tk0_dr,tk0_dr,k2m l r]
  exact aux x
theorem tkT_er:∀(l:List Sh0) (r:List Ty) (x:HL T.den (hsT l r)),(tkT σ f l r x).1.map (er T)=(tkT σ f l r x).1.map (er0 T)
 |[],_,_=>rfl
 |s::l,r,x=>by
  have aux:∀x:HL T.den (hs0 s (hsT l r)),er T (tk0 σ f s _ x).1::(tkT σ f l r (tk0 σ f s (hsT l r) x).2).1.map (er T)=er0 T (tk0 σ f s _ x).1::(tkT σ f l r (tk0 σ f s (hsT l r) x).2).1.map (er0 T):=fun x=>by rw[er_ntup (tk0_ren σ f s _ x).2,tkT_er l r]
  exact aux x
theorem tkT_len:∀(l:List Sh0) (r:List Ty) (x:HL T.den (hsT l r)),(tkT σ f l r x).1.length=l.length
 |[],_,_=>rfl
 |s::l,r,x=>by exact congrArg (·+1) (tkT_len l r _)
theorem tkV_ren:∀(s:Sh) (r:List Ty) (x:HL T.den (hsV s r)),er T (tkV σ f s r x).1=ren σ (er T (tkV idf f s r x).1)
 | .one s,r,x=>by
  have aux:∀x:HL T.den (hs0 s r),er T (tk0 σ f s r x).1=ren σ (er T (tk0 idf f s r x).1):=fun x=>by rw[er_ntup (tk0_ren σ f s r x).2,er_ntup (tk0_ren idf f s r x).2,(tk0_ren σ f s r x).1,ren_0 σ k1l]
  exact aux x
 | .tup l,r,x=>by exact congrArg V.tup (k2m σ f l r x)
theorem k9j (g:Option (TOb T.den)) (h:∀l,g≠some (.cells l)):erO T (flatG g)=renO σ (erO T (flatG g)):=by
 cases g with
 |none=>rfl
 |some o=>cases o with
  |cells l=>exact(h l rfl).elim
  |vec e l=>show Ob.cells _=Ob.cells _;rw[qbi];rfl
  |map a b ks vs=>show Ob.map (.m _)=Ob.map (.m _);rw[qbi];exact congrArg (fun z=>Ob.map (.m z)) (qar fun p _=>by simp only[Function.comp,kjp])
  |_=>rfl
theorem kp6 (g:Option (TOb T.den)):∀(o:OSh) (r:List Ty) (x:HL T.den (hsO1 o r)),(∀l,g≠some (.cells l))->erO T (tkO1 σ f g o r x).1=renO σ (erO T (tkO1 idf f g o r x).1)
 | .cells l,r,x,_=>by exact congrArg Ob.cells (tkL_ren σ f l r x)
 | .tip _,_,_,h=>k9j σ g h
 | .vec _,_,_,h=>k9j σ g h
 | .map _ _,_,_,h=>k9j σ g h
 | .it j _ _,_,_,h=>by
  show erO T (itG (σ j) g)=renO σ (erO T (itG j g));cases g with
  |none=>rfl
  |some o=>cases o with
   |it m a b ks vs l=>
    show Ob.map (.it _ _ _)=Ob.map (.it _ _ _);rw[qbi,Option.map_map];have e1:((fun e:D×V=>(e.1,ren0 σ e.2))∘fun p:a.den T.den×b.den T.den=>(T.e a p.1,V.ofD (T.e b p.2)))=fun p=>(T.e a p.1,V.ofD (T.e b p.2)):=funext fun p=>by simp only[Function.comp,kjp]
    rw[e1]
   |_=>rfl
 | .dead,_,_,_=>rfl
def Flat (f:List (Option (TOb T.den))):Prop:=∀k l,fget f k≠some (.cells l)
theorem tkC_ren (hf:Flat f):∀(k:Nat) (l:List OSh) (r:List Ty) (x:HL T.den (hsC l r)),(tkC σ f k l r x).1.map (erO T)=((tkC idf f k l r x).1.map (erO T)).map (renO σ)
 |_,[],_,_=>rfl
 |k,o::l,r,x=>by
  have aux:∀x:HL T.den (hsO1 o (hsC l r)),erO T (tkO1 σ f (fget f k) o _ x).1::(tkC σ f (k+1) l r (tkO1 σ f (fget f k) o _ x).2).1.map (erO T)=renO σ (erO T (tkO1 idf f (fget f k) o _ x).1)::((tkC idf f (k+1) l r (tkO1 idf f (fget f k) o _ x).2).1.map (erO T)).map (renO σ):=fun x=>by rw[kp6 _ _ _ _ _ _ (hf k),tkO1_dr,tkO1_dr,tkC_ren hf (k+1) l r]
  exact aux x
theorem tkC_len:∀(k:Nat) (l:List OSh) (r:List Ty) (x:HL T.den (hsC l r)),(tkC σ f k l r x).1.length=l.length
 |_,[],_,_=>rfl
 |k,o::l,r,x=>by exact congrArg (·+1) (tkC_len (k+1) l r _)
end
theorem k2l:∀(l:List OSh) (x:HL T.den (hsB l)) (k:Nat) (c:List (TV T.den)),(tkB l x)[k]? ≠some (some (.cells c))
 |[],_,_,_=>by simp[tkB]
 | .tip e::l,x,0,c=>by simp[tkB]
 | .tip e::l,x,k+1,c=>by simp only[tkB,qao];exact k2l l x.2 k c
 | .vec e::l,x,0,c=>by simp[tkB]
 | .vec e::l,x,k+1,c=>by simp only[tkB,qao];exact k2l l x.2 k c
 | .map _ _::l,x,0,c=>by simp[tkB]
 | .map _ _::l,x,k+1,c=>by simp only[tkB,qao];exact k2l l x.2.2 k c
 | .it _ _ _::l,x,0,c=>by simp[tkB]
 | .it _ _ _::l,x,k+1,c=>by simp only[tkB,qao];exact k2l l x.2.2 k c
 | .cells _::l,x,0,c=>by simp[tkB]
 | .cells _::l,x,k+1,c=>by simp only[tkB,qao];exact k2l l x k c
 | .dead::l,x,0,c=>by simp[tkB]
 | .dead::l,x,k+1,c=>by simp only[tkB,qao];exact k2l l x k c
theorem k1a (l:List OSh) (x:HL T.den (hsB l)):Flat (tkB l x):=by
 intro k c h;unfold fget at h;split at h
 ·rename_i o ho;injection h with h;subst h;exact k2l l x k c ho
 ·cases h
section
variable {σ:Nat->Nat} {f:List (Option (TOb T.den))} {m nx:Nat}
theorem blt_lt {a b:Nat} (h:Nat.blt a b=true):a<b:=qdu h
theorem ownT_ok {k nx:Nat} (h:k<nx) (g:Option (TOb T.den)):ok1 nx (er1 T (ownT k g)):=by unfold ownT;split<;>first|exact h|trivial
theorem rowT_ok {k nx:Nat} (h:k<nx) (g:Option (TOb T.den)):ok1 nx (er1 T (rowT k g)):=by unfold rowT;split<;>first|exact h|trivial
theorem kpg {k nx:Nat} (h:k<nx) (o n:Int) (g:Option (TOb T.den)):ok1 nx (er1 T (viewT k o n g)):=by unfold viewT;split<;>first|exact h|trivial
theorem renP_ok (hσ:∀j,j<m->σ j<nx):∀l:List (Option (Nat×Nat)),okPB m l=true->okP nx (renP σ l)
 |[],_=>trivial
 |none::r,h=>renP_ok hσ r h
 |some (_,_)::r,h=>by simp only[okPB,qg]at h;exact⟨hσ _ (blt_lt h.1),renP_ok hσ r h.2⟩
theorem tk1_ok (hσ:∀j,j<m->σ j<nx):∀(s:Sh1) (r:List Ty) (x:HL T.den (hs1 s r)),ok1B m s=true->ok1 nx (er1 T (tk1 σ f s r x).1)
 | .any,_,_,_=>trivial
 | .k _,_,_,_=>trivial
 | .d t,_,_,_=>by show ok1 nx (.d _);trivial
 | .full _,_,_,_=>trivial
 | .own j,_,_,h=>ownT_ok (hσ j (blt_lt h)) _
 | .ptr j _,_,_,h=>hσ j (blt_lt h)
 | .row j,_,_,h=>rowT_ok (hσ j (blt_lt h)) _
 | .view j,_,x,h=>kpg (hσ j (blt_lt h)) x.1 x.2.1 _
 | .mp j,_,_,h=>hσ j (blt_lt h)
 | .clo _ fs cs,_,_,h=>by simp only[ok1B,qg]at h;exact⟨renP_ok hσ fs h.1,renP_ok hσ cs h.2⟩
theorem tkL_ok (hσ:∀j,j<m->σ j<nx):∀(l:List Sh1) (r:List Ty) (x:HL T.den (hsL l r)),okLB m l=true->okL nx ((tkL σ f l r x).1.map (er1 T))
 |[],_,_,_=>trivial
 |s::l,r,x,h=>by simp only[okLB,qg]at h;exact⟨tk1_ok hσ s _ x h.1,tkL_ok hσ l r _ h.2⟩
theorem tk0_ok (hσ:∀j,j<m->σ j<nx):∀(s:Sh0) (r:List Ty) (x:HL T.den (hs0 s r)),ok0B m s=true->ok0 nx (er0 T (tk0 σ f s r x).1)
 | .one s,r,x,h=>by
  have aux:∀x:HL T.den (hs1 s r),ok0 nx (er0 T (tk1 σ f s r x).1):=fun x=>by have h1:=tk1_ok (f:=f) hσ s r x h;rw[er0_sim (tk1_sim σ f s r x)];generalize hv:er1 T (tk1 σ f s r x).1=v at h1 ⊢;cases v<;>first|exact h1|exact h1.elim
  exact aux x
 | .agg l,r,x,h=>tkL_ok hσ l r x h
theorem tkT_ok (hσ:∀j,j<m->σ j<nx):∀(l:List Sh0) (r:List Ty) (x:HL T.den (hsT l r)),okTB m l=true->okT nx ((tkT σ f l r x).1.map (er0 T))
 |[],_,_,_=>trivial
 |s::l,r,x,h=>by simp only[okTB,qg]at h;exact⟨tk0_ok hσ s _ x h.1,tkT_ok hσ l r _ h.2⟩
theorem ok_of0 {x:V} (h:ok0 nx x) (hn:∀l,x≠ .tup l):ok nx x:=by cases x<;>first|exact h|exact(hn _ rfl).elim
theorem tkV_ok (hσ:∀j,j<m->σ j<nx):∀(s:Sh) (r:List Ty) (x:HL T.den (hsV s r)),okVB m s=true->ok nx (er T (tkV σ f s r x).1)
 | .one s,r,x,h=>by
  have aux:∀x:HL T.den (hs0 s r),ok nx (er T (tk0 σ f s r x).1):=fun x=>by rw[er_ntup (tk0_ren σ f s r x).2];exact ok_of0 (tk0_ok hσ s r x h) k1l
  exact aux x
 | .tup l,r,x,h=>tkT_ok hσ l r x h
theorem kgo:∀(s:Sh) (r:List Ty) (x:HL T.den (hsV s r)),noTup (er T (tkV σ f s r x).1)
 | .one s,r,x=>by
  have aux:∀x:HL T.den (hs0 s r),noTup (er T (tk0 σ f s r x).1):=fun x=>by rw[er_ntup (tk0_ren σ f s r x).2];have:=k1l (v:=(tk0 σ f s r x).1);generalize er0 T (tk0 σ f s r x).1=y at this;cases y<;>first|trivial|exact(this _ rfl).elim
  exact aux x
 | .tup l,r,x=>by intro y hy l' e;obtain⟨v,_,rfl⟩:=qag.1 hy;exact k1l l' e
theorem okM_er {a b:Ty} (k:List (a.den T.den×b.den T.den)):okM nx (k.map fun p=>(T.e a p.1,V.ofD (T.e b p.2))):=by
 induction k with
 |nil=>trivial
 |cons d k ih=>exact⟨ok0_ofD _,ih⟩
theorem kcd {g:Option (TOb T.den)} (h:∀l,g≠some (.cells l)):okO nx (erO T (flatG g)):=by
 cases g with
 |none=>trivial
 |some o=>
  cases o with
  |cells l=>exact(h l rfl).elim
  |vec e l=>
   show okL nx (List.map V.d _);generalize (List.map (T.e e) l).flatMap D.cells=k;induction k with
   |nil=>trivial
   |cons d k ih=>exact⟨trivial,ih⟩
  |map a b ks vs=>exact okM_er _
  |_=>trivial
theorem okO_it {g:Option (TOb T.den)} {m:Nat} (h:m<nx):okO nx (erO T (itG m g)):=by
 cases g with
 |none=>trivial
 |some o=>
  cases o with
  |it m' a b ks vs l=>refine⟨h,okM_er _,fun e he=> ?_⟩;obtain⟨p,_,rfl⟩:=qv.1 he;exact ok0_ofD _
  |_=>trivial
theorem tkC_ok (hf:Flat f) (hσ:∀j,j<m->σ j<nx):∀(k:Nat) (l:List OSh) (r:List Ty) (x:HL T.den (hsC l r)),okOsB m l=true->∀(i:Nat) (o:TOb T.den),(tkC σ f k l r x).1[i]? =some o->okO nx (erO T o)
 |_,[],_,_,_,i,o,h=>by simp[tkC]at h
 |k,p::l,r,x,hk,i,o,h=>by
  simp only[okOsB,qg]at hk;cases i with
  |zero=>
   have h:some (tkO1 σ f (fget f k) p _ x).1=some o:=h;injection h with h;subst h;cases p with
   |cells l' =>exact tkL_ok hσ l' _ x hk.1
   |tip e=>exact kcd (hf k)
   |vec e=>exact kcd (hf k)
   |map a b=>exact kcd (hf k)
   |it j a b=>exact okO_it (hσ j (blt_lt hk.1))
   |dead=>trivial
  |succ i=>exact tkC_ok hf hσ (k+1) l r _ hk.2 i o h
end
theorem KC.is_eq {c:KC} {v:Value} (h:c.is v=true):v=c.v:=by
 cases c with
 |nilPtr=>cases v<;>first|(rename_i p;cases p<;>first|rfl|cases h)|cases h
 |nilMap=>cases v<;>first|(rename_i p;cases p<;>first|rfl|cases h)|cases h
 |nilSlice=>exact k1s h
 |nilFunc=>cases v<;>first|rfl|cases h
 |undef=>
  cases v with
  |tuple a=>have ha:a= #[]:=qbq (nb_eq h);subst ha;rfl
  |_=>cases h
 |fn f=>
  cases v with
  |func g a b=>
   cases g with
   |func g=>simp only[KC.is,qg]at h;rw[nb_eq h.1.1];have ha:a= #[]:=qbq (nb_eq h.1.2);have hb:b= #[]:=qbq (nb_eq h.2);rw[ha,hb];rfl
   |_=>cases h
  |_=>cases h
theorem kh4 {t:Ty} (ht:t.agg=false) {v:TV T.den} {x:t.den T.den} (h:toEl2 t v=some x):v.one=true:=by
 unfold toEl2 at h;split at h
 ·obtain⟨rfl,_⟩:=Ty.cast_some h;show(!_)=true;rw[ht];rfl
 ·cases h
theorem kg7 {t:Ty} {v:TV T.den} {x:t.den T.den} (h:toEl1 t v=some x):v.one=true:=by
 cases t with
 |int k=>exact kh4 rfl h
 |bool=>
  have h:v.isB=some x:=h;cases v with
  |lit b=>rfl
  |d t y=>cases t<;>first|rfl|cases h
  |_=>cases h
 |str=>exact kh4 rfl h
 |sl e=>exact(els_er h).2
 |st n=>cases h
section
variable {σ:Nat->Nat} {f:List (Option (TOb T.den))}
theorem le_of1 {x y:V} (hx:(∀l,x≠ .agg l)/\∀l,x≠ .tup l) (h:le1 x y):le x y:=by cases x<;>first|exact h|exact(hx.1 _ rfl).elim|exact(hx.2 _ rfl).elim
theorem le0_of1' {x y:V} (hx:∀l,x≠ .agg l) (h:le1 x y):le0 x y:=by cases x<;>first|exact h|exact(hx _ rfl).elim
theorem eqP_le:∀{l m:List (Option (Nat×Nat))},eqP l m=true->leP l m
 |[],[],_=>trivial
 |[],_::_,h=>by cases h
 |none::_,[],h=>by cases h
 |some _::_,[],h=>by cases h
 |none::_,some _::_,h=>by cases h
 |none::l,none::m,h=>eqP_le (l:=l) (m:=m) h
 |some _::l,none::m,h=>eqP_le (l:=l) (m:=m) h
 |some p::l,some q::m,h=>by simp only[eqP,qg]at h;exact⟨Prod.ext (nb_eq h.1.1) (nb_eq h.1.2),eqP_le (l:=l) (m:=m) h.2⟩
theorem le0_any (x:V):le0 x .any:=by cases x<;>trivial
theorem mt1_snd:∀(s:Sh1) (r:List Ty) (v:TV T.den) (a:HL T.den r) (K:HL T.den (hs1 s r)->Prop),mt1 σ f s r v a K->
  ∃y,K y/\dr1 s r y=a/\le1 (er1 T v) (er1 T (tk1 σ f s r y).1)/\le0 (er0 T v) (er1 T (tk1 σ f s r y).1)/\le (er T v) (er1 T (tk1 σ f s r y).1)/\(one1B s=true->(er1 T (tk1 σ f s r y).1).one=true)
 | .any,r,v,a,K,h=>⟨a,h,rfl,by show le1 _ .any;unfold le1;trivial,le0_any _,by show le _ .any;rw[le_any];trivial,fun h=>by cases h⟩
 | .k c,r,v,a,K,h=>by
  simp only[mt1]at h;split at h
  ·rename_i u;obtain⟨h1,h2⟩:=cnd h;have e:=KC.is_eq h1;subst e;have q:le1 (.k c.v) (.k c.v):=ka _;refine⟨a,h2,rfl,q,le0_of1' (fun l h=>by cases h) q,le_of1 ⟨fun l h=>(by cases h),fun l h=>(by cases h)⟩ q,fun h1=> ?_⟩;cases c<;>first|rfl|cases h1
  ·exact h.elim
 | .d t,r,v,a,K,h=>by
  simp only[mt1]at h;split at h
  ·rename_i x hx;have ho:=kg7 hx;obtain⟨h1,h2,h3⟩:=k3m hx;refine⟨(x,a),h,rfl,h1,?_,?_,fun _=>e_one h3 x⟩
   ·rw[er0_of1 ho];exact le0_of1' er1_na.1 h1
   ·rw[er_of1 ho];exact le_of1 er1_na h1
  ·exact h.elim
 | .full e,r,v,a,K,h=>by
  simp only[mt1]at h;split at h
  ·rename_i e' l;split at h
   ·rename_i x hx;obtain⟨c1,c2,_⟩:=km hx;have q:le1 (.full (T.sz e') (l.map (T.e e'))) (.full (T.sz e) (x.map (T.e e))):=by rw[c1,c2];exact ka _
    exact⟨(x,a),h,rfl,q,q,q,fun _=>rfl⟩
   ·exact h.elim
  ·obtain⟨h1,h2⟩:=cnd h;rw[k1s h1];have q:le1 (.k (.slice none 0 0)) (.full (T.sz e) []):=rfl;exact⟨([],a),h2,rfl,q,q,q,fun _=>rfl⟩
  ·exact h.elim
 | .own j,r,v,a,K,h=>by
  simp only[mt1]at h;split at h
  ·rename_i tok e l;unfold mtOwn at h;split at h
   ·rename_i e' l' hg;obtain⟨h1,h2⟩:=cnd h;split at h2
    ·rename_i l2 hl;obtain⟨rfl,h3⟩:=h2;obtain⟨c1,c2,_⟩:=km hl;have ht:=nb_eq h1;have q:le1 (.own tok (T.sz e) (l.map (T.e e))) (er1 T (tk1 σ f (.own j) r a).1):=by show le1 _ (er1 T (ownT (σ j) (fget f j)));rw[hg,ht,c1,c2];exact ka _
     refine⟨a,h3,rfl,q,le0_of1' (fun l h=>by cases h) q,le_of1 ⟨fun l h=>(by cases h),fun l h=>(by cases h)⟩ q,fun _=> ?_⟩;show(er1 T (ownT (σ j) (fget f j))).one=true;rw[hg];rfl
    ·exact h2.elim
   ·exact h.elim
  ·exact h.elim
 | .ptr j off,r,v,a,K,h=>by
  simp only[mt1]at h;split at h
  ·rename_i id off';obtain⟨h1,h2⟩:=cnd h;simp only[qg]at h1;have e1:=nb_eq h1.1;have e2:=nb_eq h1.2;subst e1;subst e2;have q:le1 (.ptr (σ j) off') (.ptr (σ j) off'):=ka _;exact⟨a,h2,rfl,q,le0_of1' (fun l h=>by cases h) q,le_of1 ⟨fun l h=>(by cases h),fun l h=>(by cases h)⟩ q,fun _=>rfl⟩
  ·exact h.elim
 | .row j,r,v,a,K,h=>by
  simp only[mt1]at h;split at h
  ·rename_i id e n;unfold mtRow at h;split at h
   ·rename_i e' l' hg;obtain⟨h1,h2,h3⟩:=cnd h;simp only[qg]at h1;have e1:=nb_eq h1.1;have e2:=Ty.eq_of_beq h1.2;subst e2;have q:le1 (.row id 0 n (T.sz e)) (er1 T (tk1 σ f (.row j) r a).1):=by show le1 _ (er1 T (rowT (σ j) (fget f j)));rw[hg,e1,h2];exact ka _
    refine⟨a,h3,rfl,q,le0_of1' (fun l h=>by cases h) q,le_of1 ⟨fun l h=>(by cases h),fun l h=>(by cases h)⟩ q,fun _=> ?_⟩;show(er1 T (rowT (σ j) (fget f j))).one=true;rw[hg];rfl
   ·exact h.elim
  ·exact h.elim
 | .view j,r,v,a,K,h=>by
  have fin:∀{id:Nat} {e:Ty} {off n:Nat} {w:TV T.den},er1 T w= .row id (off*T.sz e) n (T.sz e)->er0 T w=er1 T w->er T w=er1 T w->mtView (σ j) id e (fget f j) ((off:Int),(n:Int),a) K->
    ∃y,K y/\dr1 (.view j) r y=a/\le1 (er1 T w) (er1 T (tk1 σ f (.view j) r y).1)/\le0 (er0 T w) (er1 T (tk1 σ f (.view j) r y).1)/\le (er T w) (er1 T (tk1 σ f (.view j) r y).1)/\(one1B (.view j)=true->(er1 T (tk1 σ f (.view j) r y).1).one=true):=by
   intro id e off n w hw hw0 hwt h;unfold mtView at h;split at h
   ·rename_i e' l' hg;obtain⟨h1,h3⟩:=cnd h;simp only[qg]at h1;have e1:=nb_eq h1.1;have e2:=Ty.eq_of_beq h1.2;subst e2;have hv:er1 T (tk1 σ f (.view j) r ((off:Int),(n:Int),a)).1= .row id (off*T.sz e) n (T.sz e):=by show er1 T (viewT (σ j) _ _ (fget f j))=_;rw[hg,e1];simp[viewT,er1]
    have main:∀z,z=V.row id (off*T.sz e) n (T.sz e)->le1 (er1 T w) z/\le0 (er0 T w) z/\le (er T w) z/\z.one=true:=by rintro z rfl;rw[hw0,hwt,hw];exact⟨ka _,le0_of1' (fun l h=>by cases h) (ka _),le_of1 ⟨fun l h=>(by cases h),fun l h=>(by cases h)⟩ (ka _),rfl⟩
    obtain⟨q1,q2,q3,q4⟩:=main _ hv;exact⟨_,h3,rfl,q1,q2,q3,fun _=>q4⟩
   ·exact h.elim
  simp only[mt1]at h;split at h
  ·rename_i id e n;exact fin (by simp[er1]) rfl rfl h
  ·exact fin rfl rfl rfl h
  ·exact h.elim
 | .mp j,r,v,a,K,h=>by
  simp only[mt1]at h;split at h
  ·rename_i id;obtain⟨h1,h2⟩:=cnd h;have e1:=nb_eq h1;subst e1;have q:le1 (.mp (σ j)) (.mp (σ j)):=ka _;exact⟨a,h2,rfl,q,le0_of1' (fun l h=>by cases h) q,le_of1 ⟨fun l h=>(by cases h),fun l h=>(by cases h)⟩ q,fun _=>rfl⟩
  ·exact h.elim
 | .clo g fs cs,r,v,a,K,h=>by
  simp only[mt1]at h;split at h
  ·rename_i g' fs' cs';obtain⟨h1,h2⟩:=cnd h;simp only[qg]at h1;have e1:=nb_eq h1.1.1;subst e1;have q:le1 (.clo g' fs' cs') (.clo g' (renP σ fs) (renP σ cs)):=⟨rfl,eqP_le h1.1.2,eqP_le h1.2⟩;exact⟨a,h2,rfl,q,le0_of1' (fun l h=>by cases h) q,le_of1 ⟨fun l h=>(by cases h),fun l h=>(by cases h)⟩ q,fun _=>rfl⟩
  ·exact h.elim
theorem mtL_snd {os:List OSh}:∀(l:List Sh1) (r:List Ty) (vs:List (TV T.den)) (a:HL T.den r) (K:HL T.den (hsL l r)->Prop),kindLB os l=true->mtL σ f l r vs a K->
  ∃y,K y/\drL l r y=a/\leL (vs.map (er1 T)) ((tkL σ f l r y).1.map (er1 T))
 |[],r,[],a,K,_,h=>⟨a,h,rfl,trivial⟩
 |[],r,_::_,a,K,_,h=>h.elim
 |_::_,r,[],a,K,_,h=>h.elim
 |s::l,r,v::vs,a,K,hk,h=>by
  simp only[kindLB,qg]at hk;obtain⟨b,h1,h2,h3⟩:=mtL_snd l r vs a _ hk.2 h;obtain⟨y,g1,g2,g3,_,_,g6⟩:=mt1_snd s (hsL l r) v b K h1;have e2:(tk1 σ f s (hsL l r) y).2=b:=by rw[tk1_dr,g2]
  exact⟨y,g1,(congrArg (drL l r) g2).trans h2,⟨g3,g6 hk.1.2⟩,Eq.mpr (congrArg (fun z=>leL (vs.map (er1 T)) ((tkL σ f l r z).1.map (er1 T))) e2) h3⟩
theorem mt0_snd {os:List OSh}:∀(s:Sh0) (r:List Ty) (v:TV T.den) (a:HL T.den r) (K:HL T.den (hs0 s r)->Prop),kind0B os s=true->mt0 σ f s r v a K->
  ∃y,K y/\dr0 s r y=a/\le0 (er0 T v) (er0 T (tk0 σ f s r y).1)/\le (er T v) (er T (tk0 σ f s r y).1)
 | .one s,r,v,a,K,_,h=>by obtain⟨y,g1,g2,_,g4,g5,_⟩:=mt1_snd s r v a K h;have q1:=er0_sim (tk1_sim σ f s r y);have q2:=er_sim (tk1_sim σ f s r y);rw[<-q1]at g4;rw[<-q2]at g5;exact⟨y,g1,g2,g4,g5⟩
 | .agg l,r,v,a,K,hk,h=>by
  simp only[mt0]at h;split at h
  ·rename_i vs;obtain⟨y,g1,g2,g3⟩:=mtL_snd l r vs a K hk h;exact⟨y,g1,g2,g3,g3⟩
  ·exact h.elim
def leAll:List V->List V->Prop
 |[],[]=>True
 |x::xs,y::ys=>le x y/\leAll xs ys
 |_,_=>False
theorem mtT_snd {os:List OSh}:∀(l:List Sh0) (r:List Ty) (vs:List (TV T.den)) (a:HL T.den r) (K:HL T.den (hsT l r)->Prop),kindTB os l=true->mtT σ f l r vs a K->
  ∃y,K y/\drT l r y=a/\leT (vs.map (er0 T)) ((tkT σ f l r y).1.map (er0 T))/\leAll (vs.map (er T)) ((tkT σ f l r y).1.map (er T))
 |[],r,[],a,K,_,h=>⟨a,h,rfl,trivial,trivial⟩
 |[],r,_::_,a,K,_,h=>h.elim
 |_::_,r,[],a,K,_,h=>h.elim
 |s::l,r,v::vs,a,K,hk,h=>by
  simp only[kindTB,qg]at hk;obtain⟨b,h1,h2,h3,h4⟩:=mtT_snd l r vs a _ hk.2 h;obtain⟨y,g1,g2,g3,g4⟩:=mt0_snd s (hsT l r) v b K hk.1 h1;have e2:(tk0 σ f s (hsT l r) y).2=b:=by rw[tk0_dr,g2]
  exact⟨y,g1,(congrArg (drT l r) g2).trans h2,⟨g3,Eq.mpr (congrArg (fun z=>leT (vs.map (er0 T)) ((tkT σ f l r z).1.map (er0 T))) e2) h3⟩,⟨g4,Eq.mpr (congrArg (fun z=>leAll (vs.map (er T)) ((tkT σ f l r z).1.map (er T))) e2) h4⟩⟩
theorem mtV_snd {os:List OSh}:∀(s:Sh) (r:List Ty) (v:TV T.den) (a:HL T.den r) (K:HL T.den (hsV s r)->Prop),kindVB os s=true->mtV σ f s r v a K->
  ∃y,K y/\drV s r y=a/\le (er T v) (er T (tkV σ f s r y).1)
 | .one s,r,v,a,K,hk,h=>by obtain⟨y,g1,g2,_,g4⟩:=mt0_snd s r v a K hk h;exact⟨y,g1,g2,g4⟩
 | .tup l,r,v,a,K,hk,h=>by
  simp only[mtV]at h;split at h
  ·rename_i vs;obtain⟨y,g1,g2,g3,_⟩:=mtT_snd l r vs a K hk h;exact⟨y,g1,g2,g3⟩
  ·exact h.elim
def obIn (h:THp T.den) (σ:Nat->Nat) (f:List (Option (TOb T.den))) (k:Nat):OSh->Prop
 | .tip e=>∃x e' x',fget f k=some (.tip e x)/\getH h (σ k)=some (.tip e' x')/\castL e' e x' =some x
 | .vec e=>∃x e' x',fget f k=some (.vec e x)/\getH h (σ k)=some (.vec e' x')/\castL e' e x' =some x
 | .map a b=>∃x y a' b' x' y',fget f k=some (.map a b x y)/\getH h (σ k)=some (.map a' b' x' y')/\castL a' a x' =some x/\castL b' b y' =some y
 | .it j a b=>∃x y a' b' x' y' l',fget f k=some (.it j a b x y none)/\getH h (σ k)=some (.it (σ j) a' b' x' y' l')/\castL a' a x' =some x/\castL b' b y' =some y
 |_=>True
theorem kj (o:Option (TOb T.den)) (f:List (Option (TOb T.den))) (k:Nat):fget (o::f) (k+1)=fget f k:=by simp[fget]
theorem mtB_snd {h:THp T.den}:∀(l:List OSh) (k:Nat) (b:HL T.den (hsB l)),mtB h σ k l=some b->∀(i:Nat) (o:OSh),l[i]? =some o->match o with
  | .tip e=>∃x e' x',fget (tkB l b) i=some (.tip e x)/\getH h (σ (k+i))=some (.tip e' x')/\castL e' e x' =some x
  | .vec e=>∃x e' x',fget (tkB l b) i=some (.vec e x)/\getH h (σ (k+i))=some (.vec e' x')/\castL e' e x' =some x
  | .map c d=>∃x y c' d' x' y',fget (tkB l b) i=some (.map c d x y)/\getH h (σ (k+i))=some (.map c' d' x' y')/\castL c' c x' =some x/\castL d' d y' =some y
  | .it j c d=>∃x y c' d' x' y' l',fget (tkB l b) i=some (.it j c d x y none)/\getH h (σ (k+i))=some (.it (σ j) c' d' x' y' l')/\castL c' c x' =some x/\castL d' d y' =some y
  |_=>True
 |[],_,_,_,i,o,ho=>by simp at ho
 | .tip e::l,k,b,hb,i,o,ho=>by
  simp only[mtB]at hb;split at hb
  ·rename_i e' x hg;split at hb
   ·rename_i x2 hx;split at hb
    ·rename_i y hy;injection hb with hb;subst hb;cases i with
     |zero=>simp at ho;subst ho;exact⟨x2,e',x,rfl,hg,hx⟩
     |succ i=>have:=mtB_snd l (k+1) y hy i o (by simpa using ho);rw[show k+(i+1)=k+1+i by omega];cases o<;>first|trivial|(simp only[tkB,kj];exact this)
    ·cases hb
   ·cases hb
  ·cases hb
 | .vec e::l,k,b,hb,i,o,ho=>by
  simp only[mtB]at hb;split at hb
  ·rename_i e' x hg;split at hb
   ·rename_i x2 hx;split at hb
    ·rename_i y hy;injection hb with hb;subst hb;cases i with
     |zero=>simp at ho;subst ho;exact⟨x2,e',x,rfl,hg,hx⟩
     |succ i=>have:=mtB_snd l (k+1) y hy i o (by simpa using ho);rw[show k+(i+1)=k+1+i by omega];cases o<;>first|trivial|(simp only[tkB,kj];exact this)
    ·cases hb
   ·cases hb
  ·cases hb
 | .map c d::l,k,b,hb,i,o,ho=>by
  simp only[mtB]at hb;split at hb
  ·rename_i c' d' x y hg;split at hb
   ·rename_i x2 y2 hx hy2;split at hb
    ·rename_i z hz;injection hb with hb;subst hb;cases i with
     |zero=>simp at ho;subst ho;exact⟨x2,y2,c',d',x,y,rfl,hg,hx,hy2⟩
     |succ i=>have:=mtB_snd l (k+1) z hz i o (by simpa using ho);rw[show k+(i+1)=k+1+i by omega];cases o<;>first|trivial|(simp only[tkB,kj];exact this)
    ·cases hb
   ·cases hb
  ·cases hb
 | .it j c d::l,k,b,hb,i,o,ho=>by
  simp only[mtB]at hb;split at hb
  ·rename_i m c' d' x y l' hg;split at hb
   ·rename_i x2 y2 hx hy2 hm;obtain rfl:=nb_eq hm;split at hb
    ·rename_i z hz;injection hb with hb;subst hb;cases i with
     |zero=>simp at ho;subst ho;exact⟨x2,y2,c',d',x,y,l',rfl,hg,hx,hy2⟩
     |succ i=>have:=mtB_snd l (k+1) z hz i o (by simpa using ho);rw[show k+(i+1)=k+1+i by omega];cases o<;>first|trivial|(simp only[tkB,kj];exact this)
    ·cases hb
   ·cases hb
  ·cases hb
 | .cells c::l,k,b,hb,i,o,ho=>by
  have hb:mtB h σ (k+1) l=some b:=hb;cases i with
  |zero=>simp at ho;subst ho;trivial
  |succ i=>have:=mtB_snd l (k+1) b hb i o (by simpa using ho);rw[show k+(i+1)=k+1+i by omega];cases o<;>first|trivial|(simp only[tkB,kj];exact this)
 | .dead::l,k,b,hb,i,o,ho=>by
  have hb:mtB h σ (k+1) l=some b:=hb;cases i with
  |zero=>simp at ho;subst ho;trivial
  |succ i=>have:=mtB_snd l (k+1) b hb i o (by simpa using ho);rw[show k+(i+1)=k+1+i by omega];cases o<;>first|trivial|(simp only[tkB,kj];exact this)
theorem ko1 (hT:T.Ok) {os:List OSh} {h:THp T.den} {k:Nat}:∀(o:OSh) (r:List Ty) (a:HL T.den r) (K:HL T.den (hsO1 o r)->Prop),kindOB os [o]=true->obIn h σ f k o->mtO1 σ f h k o r a K->
  ∃y,K y/\drO1 o r y=a/\obLe ((erH T h).get (σ k)) (erO T (tkO1 σ f (fget f k) o r y).1)
 | .cells l,r,a,K,hk,_,hm=>by
  simp only[mtO1]at hm;split at hm
  ·rename_i vs hg;simp only[kindOB,Bool.and_true]at hk;obtain⟨y,g1,g2,g3⟩:=mtL_snd l r vs a K hk hm;refine⟨y,g1,g2,?_⟩;rw[getH_er,hg];exact g3
  ·exact hm.elim
 | .tip e,r,a,K,_,hi,hm=>by obtain⟨x,e',x',h1,h2,h3⟩:=hi;refine⟨a,hm,rfl,?_⟩;rw[getH_er,h2];show obLe _ (erO T (flatG (fget f k)));rw[h1];exact(km h3).2.2
 | .vec e,r,a,K,_,hi,hm=>by obtain⟨x,e',x',h1,h2,h3⟩:=hi;refine⟨a,hm,rfl,?_⟩;rw[getH_er,h2];show obLe _ (erO T (flatG (fget f k)));rw[h1];obtain⟨c1,c2,_⟩:=km h3;show leL (((x'.map (T.e e')).flatMap D.cells).map V.d) (((x.map (T.e e)).flatMap D.cells).map V.d);rw[c2];exact k4u _ (k7y hT x)
 | .map c d,r,a,K,_,hi,hm=>by obtain⟨x,y,c',d',x',y',h1,h2,h3,h4⟩:=hi;refine⟨a,hm,rfl,?_⟩;rw[getH_er,h2];show obLe _ (erO T (flatG (fget f k)));rw[h1];obtain⟨rfl,h3⟩:=Ty.cast_some h3;obtain⟨rfl,h4⟩:=Ty.cast_some h4;subst h3;subst h4;exact rfl
 | .it j c d,r,a,K,_,hi,hm=>by obtain⟨x,y,c',d',x',y',l',h1,h2,h3,h4⟩:=hi;refine⟨a,hm,rfl,?_⟩;rw[getH_er,h2];show obLe _ (erO T (itG (σ j) (fget f k)));rw[h1];obtain⟨rfl,h3⟩:=Ty.cast_some h3;obtain⟨rfl,h4⟩:=Ty.cast_some h4;subst h3;subst h4;exact⟨rfl,rfl⟩
 | .dead,r,a,K,_,_,hm=>⟨a,hm,rfl,by
   show obLe _ Ob.dead;generalize (erH T h).get (σ k)=o;cases o with
   |none=>trivial
   |some o=>cases o<;>trivial⟩
theorem klv {os:List OSh} {o:OSh} {l:List OSh} (h:kindOB os (o::l)=true):kindOB os [o]=true/\kindOB os l=true:=by
 cases o with
 |cells c=>simp only[kindOB,qg,Bool.and_true]at h ⊢;exact h
 |_=>exact⟨rfl,h⟩
theorem mtC_snd (hT:T.Ok) {os:List OSh} {h:THp T.den}:∀(k:Nat) (l:List OSh) (r:List Ty) (a:HL T.den r) (K:HL T.den (hsC l r)->Prop),kindOB os l=true->(∀i o,l[i]? =some o->obIn h σ f (k+i) o)->mtC σ f h k l r a K->
  ∃y,K y/\drC l r y=a/\∀i o,(tkC σ f k l r y).1[i]? =some o->obLe ((erH T h).get (σ (k+i))) (erO T o)
 |_,[],r,a,K,_,_,hm=>⟨a,hm,rfl,fun i o h=>by simp[tkC]at h⟩
 |k,p::l,r,a,K,hk,hi,hm=>by
  obtain⟨k1,k2⟩:=klv hk;obtain⟨b,h1,h2,h3⟩:=mtC_snd hT (k+1) l r a _ k2 (fun i o ho=>by rw[show k+1+i=k+(i+1)by omega];exact hi (i+1) o (by simpa using ho)) hm;obtain⟨y,g1,g2,g3⟩:=ko1 hT p (hsC l r) b K k1 (hi 0 p qqs) h1;refine⟨y,g1,?_,fun i o ho=> ?_⟩
  ·exact(congrArg (drC l r) g2).trans h2
  ·cases i with
   |zero=>have ho:some (tkO1 σ f (fget f k) p _ y).1=some o:=ho;injection ho with ho;subst ho;exact g3
   |succ i=>
    have e2:(tkO1 σ f (fget f k) p (hsC l r) y).2=b:=by rw[tkO1_dr,g2]
    have ho:(tkC σ f (k+1) l r (tkO1 σ f (fget f k) p (hsC l r) y).2).1[i]? =some o:=ho;rw[e2]at ho;rw[show k+(i+1)=k+1+i by omega];exact h3 i o ho
theorem k79 (hT:T.Ok) {h:THp T.den} {os:List OSh} {b:HL T.den (hsB os)} {K:HL T.den (hsOs os)->Prop} (hk:kindOB os os=true) (hb:mtB h σ 0 os=some b) (hm:mtC σ (tkB os b) h 0 os (hsB os) b K):
  ∃y,K y/\drC os (hsB os) y=b/\∀i o,(tkC σ (tkB os b) 0 os (hsB os) y).1[i]? =some o->obLe ((erH T h).get (σ i)) (erO T o):=by
 obtain⟨y,g1,g2,g3⟩:=mtC_snd hT 0 os (hsB os) b K hk (fun i o ho=>by
  have:=mtB_snd os 0 b hb i o ho;simp only[qaj]at this ⊢;cases o<;>first|trivial|exact this) hm
 exact⟨y,g1,g2,fun i o ho=>by have:=g3 i o ho;simpa using this⟩
end
end
end Go.Cv
namespace Go.Cv
open Go Go.Bv Go.RowKit Go.Md
section
variable {T:Tab} {P:Program}
structure Con.Ok (P:Program) (T:Tab) (c:Con T.den):Prop where
 cl:Callable P c.f
 snd:∀x K,c.R x K->∃o,K o/\SoundH P c.f ((c.args idf x).map (er T)) ((c.obs idf x).map (erO T)) (er T (c.val idf o)) ((c.ops idf o).map (erO T))
def XCon.Ok (P:Program) (T:Tab) (c:XCon T.den):Prop:=c.ins.all (fun t=> !t.agg)=true/\∀x,c.ok x->SoundX P c.f ((tvs c.ins x).map (er T)) (er T (outV c.out (c.val x)))
structure Cx.Ok (P:Program) (T:Tab) (C:Cx T):Prop where
 ti:InfoOk P T C.ti
 cs:∀c∈C.cs,c.Ok P T
 xs:∀c∈C.xs,c.Ok P T
theorem kkk {h:Hp} {σ:Nat->Nat} {m fb nx:Nat}:∀{ks:List Nat} {os:List Ob},ks.length=os.length->(∀(i k:Nat) (o:Ob),ks[i]? =some k->os[i]? =some o->k<fb/\k<nx/\obLe (h.get k) (renO σ o)/\okO m o/\notDead o)->preOk h σ m fb nx ks os
 |[],[],_,_=>trivial
 |[],_::_,h,_=>by cases h
 |_::_,[],h,_=>by cases h
 |k::ks,o::os,h,hh=>⟨hh 0 k o rfl rfl,kkk qqh fun i k' o' h1 h2=>hh (i+1) k' o' (by simpa using h1) (by simpa using h2)⟩
theorem k9x:∀{x:Nat} {l:List Nat},memB x l=false->x∉l
 |_,[],_=>by simp
 |x,y::r,h=>by
  simp only[memB,qdz]at h;intro hm;rcases qam.1 hm with e|hm
  ·subst e;rw[nb_self]at h;cases h.1
  ·exact k9x h.2 hm
theorem k1n:∀{l:List Nat},nodupB l=true->l.Nodup
 |[],_=>qfq
 |x::r,h=>by simp only[nodupB,qg,qbe]at h;exact qcz.2 ⟨k9x h.1,k1n h.2⟩
theorem k1i {n:Nat}:∀{l:List Nat},allLt n l=true->∀x∈l,x<n
 |[],_,x,h=>by cases h
 |y::r,hh,x,h=>by
  simp only[allLt,qg]at hh;rcases qam.1 h with rfl|h
  ·exact blt_lt hh.1
  ·exact k1i hh.2 x h
theorem sgm_at {ids:List Nat} {fb i k:Nat} (h:ids[i]? =some k):sgm ids fb i=k:=by unfold sgm;rw[h]
def isOb (f:List (Option (TOb T.den))) (k:Nat) (o:TOb T.den):OSh->Prop
 | .cells _=>∃c,o= .cells c
 | .tip _=>o=flatG (fget f k)
 | .vec _=>o=flatG (fget f k)
 | .map _ _=>o=flatG (fget f k)
 | .it _ _ _=>∃m,o=itG m (fget f k)
 | .dead=>o= .dead
theorem tkC_at {σ:Nat->Nat} {f:List (Option (TOb T.den))}:∀(k:Nat) (l:List OSh) (r:List Ty) (x:HL T.den (hsC l r)) (i:Nat) (o:TOb T.den),(tkC σ f k l r x).1[i]? =some o->∃p,l[i]? =some p/\isOb f (k+i) o p
 |_,[],_,_,i,o,h=>by simp[tkC]at h
 |k,p::l,r,x,i,o,h=>by
  cases i with
  |zero=>
   have h:some (tkO1 σ f (fget f k) p _ x).1=some o:=h;injection h with h;subst h;refine⟨p,rfl,?_⟩;cases p with
   |cells l' =>exact⟨_,rfl⟩
   |it j a b=>exact⟨_,rfl⟩
   |_=>rfl
  |succ i=>obtain⟨q,h1,h2⟩:=tkC_at (k+1) l r _ i o h;exact⟨q,by simpa using h1,by rw[show k+(i+1)=k+1+i by omega];exact h2⟩
theorem tkB_vec:∀{l:List OSh} {x:HL T.den (hsB l)} {k:Nat} {e:Ty},l[k]? =some (.vec e)->∃y,fget (tkB l x) k=some (.vec e y)
 |[],_,_,_,h=>by simp at h
 | .tip _::l,x,0,e,h=>by simp at h
 | .tip _::l,x,k+1,e,h=>by obtain⟨y,hy⟩:=tkB_vec (x:=x.2) qqh;exact⟨y,by simp only[tkB,kj];exact hy⟩
 | .vec _::l,x,0,e,h=>by have h:some (OSh.vec _)=some (.vec e):=h;injection h with h;injection h with h;subst h;exact⟨x.1,rfl⟩
 | .vec _::l,x,k+1,e,h=>by obtain⟨y,hy⟩:=tkB_vec (x:=x.2) qqh;exact⟨y,by simp only[tkB,kj];exact hy⟩
 | .map _ _::l,x,0,e,h=>by simp at h
 | .map _ _::l,x,k+1,e,h=>by obtain⟨y,hy⟩:=tkB_vec (x:=x.2.2) qqh;exact⟨y,by simp only[tkB,kj];exact hy⟩
 | .it _ _ _::l,x,0,e,h=>by simp at h
 | .it _ _ _::l,x,k+1,e,h=>by obtain⟨y,hy⟩:=tkB_vec (x:=x.2.2) qqh;exact⟨y,by simp only[tkB,kj];exact hy⟩
 | .cells _::l,x,0,e,h=>by simp at h
 | .cells _::l,x,k+1,e,h=>by obtain⟨y,hy⟩:=tkB_vec (l:=l) (x:=x) qqh;exact⟨y,by simp only[tkB,kj];exact hy⟩
 | .dead::l,x,0,e,h=>by simp at h
 | .dead::l,x,k+1,e,h=>by obtain⟨y,hy⟩:=tkB_vec (l:=l) (x:=x) qqh;exact⟨y,by simp only[tkB,kj];exact hy⟩
theorem tkB_map:∀{l:List OSh} {x:HL T.den (hsB l)} {k:Nat} {c d:Ty},l[k]? =some (.map c d)->∃y z,fget (tkB l x) k=some (.map c d y z)
 |[],_,_,_,_,h=>by simp at h
 | .tip _::l,x,0,c,d,h=>by simp at h
 | .tip _::l,x,k+1,c,d,h=>by obtain⟨y,z,hy⟩:=tkB_map (x:=x.2) qqh;exact⟨y,z,by simp only[tkB,kj];exact hy⟩
 | .vec _::l,x,0,c,d,h=>by simp at h
 | .vec _::l,x,k+1,c,d,h=>by obtain⟨y,z,hy⟩:=tkB_map (x:=x.2) qqh;exact⟨y,z,by simp only[tkB,kj];exact hy⟩
 | .map _ _::l,x,0,c,d,h=>by have h:some (OSh.map _ _)=some (.map c d):=h;injection h with h;injection h with h1 h2;subst h1;subst h2;exact⟨x.1,x.2.1,rfl⟩
 | .map _ _::l,x,k+1,c,d,h=>by obtain⟨y,z,hy⟩:=tkB_map (x:=x.2.2) qqh;exact⟨y,z,by simp only[tkB,kj];exact hy⟩
 | .it _ _ _::l,x,0,c,d,h=>by simp at h
 | .it _ _ _::l,x,k+1,c,d,h=>by obtain⟨y,z,hy⟩:=tkB_map (x:=x.2.2) qqh;exact⟨y,z,by simp only[tkB,kj];exact hy⟩
 | .cells _::l,x,0,c,d,h=>by simp at h
 | .cells _::l,x,k+1,c,d,h=>by obtain⟨y,z,hy⟩:=tkB_map (l:=l) (x:=x) qqh;exact⟨y,z,by simp only[tkB,kj];exact hy⟩
 | .dead::l,x,0,c,d,h=>by simp at h
 | .dead::l,x,k+1,c,d,h=>by obtain⟨y,z,hy⟩:=tkB_map (l:=l) (x:=x) qqh;exact⟨y,z,by simp only[tkB,kj];exact hy⟩
theorem k6r:∀{l:List OSh},preNoDead l=true->∀i:Nat,l[i]? ≠some OSh.dead
 |[],_,i=>by simp
 |p::r,h,i=>by
  cases p with
  |dead=>cases h
  |_=>
   cases i with
   |zero=>simp
   |succ i=>simpa using k6r (l:=r) h i
theorem k86:∀{l:List OSh},noItS l=true->∀(i j:Nat) (a b:Ty),l[i]? ≠some (OSh.it j a b)
 |[],_,i,_,_,_=>by simp
 |p::r,h,i,j,a,b=>by
  cases p with
  |it=>cases h
  |_=>
   cases i with
   |zero=>simp
   |succ i=>simpa using k86 (l:=r) h i j a b
theorem kf2 {h:THp T.den}:∀{r:THp T.den},noItG h r=true->∀i m a b x y l,getH r i=some (.it m a b x y l)->∀m a b x y l,getH h i≠some (.it m a b x y l)
 |[],_,i,m,a,b,x,y,l,hg=>by cases hg
 |(k,o)::r,hh,i,m,a,b,x,y,l,hg=>by
  simp only[getH]at hg;cases hk:Nat.beq i k with
  |false=>rw[hk,qbt]at hg;refine kf2 (r:=r) ?_ i m a b x y l hg;cases o<;>first|exact hh|(simp only[noItG,qg]at hh;exact hh.2)
  |true=>rw[hk,qdf]at hg;injection hg with hg;subst hg;obtain rfl:=nb_eq hk;simp only[noItG,qg]at hh;intro m' a' b' x' y' l' hc;rw[hc]at hh;cases hh.1
theorem noIt_er {h:THp T.den} (hh:noItT h=true):noIt (erH T h):=by
 intro i o ho;rw[getH_er,qv]at ho;obtain⟨ot,h1,rfl⟩:=ho;cases ot with
 |it m a b x y l=>exact(kf2 hh i m a b x y l h1 m a b x y l h1).elim
 |_=>trivial
theorem k64 (g:Option (TOb T.den)):notIt (erO T (flatG g)):=by
 cases g with
 |none=>trivial
 |some o=>cases o<;>trivial
theorem hpN_new {σ:Nat->Nat}:∀(k:Nat) (os os' :List (TOb T.den)),os'.map (erO T)=(os.map (erO T)).map (renO σ)->hpNew σ k (os.map (erO T))=erH T (hpN σ k os')
 |_,[],[],_=>rfl
 |_,[],_::_,h=>by cases h
 |_,_::_,[],h=>by cases h
 |k,o::os,o' ::os',h=>by simp only[qae,List.cons.injEq]at h;show(σ k,renO σ (erO T o))::hpNew σ (k+1) (os.map (erO T))=(σ k,erO T o')::erH T (hpN σ (k+1) os');rw[hpN_new (k+1) os os' h.2,h.1]
theorem kga {σ:Nat->Nat} {m:Nat}:∀{a b c:List V},leAll a b->b=c.map (ren σ)->(∀y∈c,ok m y)->leArgs σ m a c
 |[],[],[],_,_,_=>trivial
 |x::a,y::b,z::c,h1,h2,h3=>by simp only[qae,List.cons.injEq]at h2;exact⟨⟨h2.1▸h1.1,h3 z qqs⟩,kga h1.2 h2.2 fun y hy=>h3 y (by simp[hy])⟩
 |[],_::_,_,h,_,_=>h.elim
 |_::_,[],_,h,_,_=>h.elim
 |[],[],_::_,_,h,_=>by cases h
 |_::_,_::_,[],_,h,_=>by cases h
theorem okT_mem {nx:Nat}:∀{l:List V},okT nx l->∀y∈l,ok0 nx y
 |[],_,y,h=>by cases h
 |x::r,hh,y,h=>by
  rcases qam.1 h with rfl|h
  ·exact hh.1
  ·exact okT_mem hh.2 y h
theorem k5r (hT:T.Ok) {c:Con T.den} (hc:c.Ok P T) {dr:Bool} {fr:Nat} {h:THp T.den} {vs:List (TV T.den)} {K:TV T.den->THp T.den->Nat->Prop} (hh:tCall c dr fr h vs K):
  ∃xs pre r post ids v hu nf,K v hu nf/\SoundH P c.f xs pre r post/\preOk (erH T h) (sgm ids fr) pre.length fr fr ids pre/\ids.Nodup/\ppOk pre post/\leArgs (sgm ids fr) pre.length (vs.map (er T)) xs/\noTup r/\
   er T v=ren (sgm ids fr) r/\erH T hu=hpNew (sgm ids fr) 0 post/\nf=post.length-pre.length/\(dr=true->∀j o,post[pre.length+j]? =some o->notTip o)/\(dr=false->noIt (erH T h)):=by
 unfold tCall at hh;split at hh
 ·exact hh.elim
 ·rename_i ids hids;split at hh
  ·exact hh.elim
  ·rename_i b hb;obtain⟨h1,h2⟩:=cnd hh;simp only[qg,Con.okB]at h1;obtain⟨⟨⟨⟨⟨hok,hnd⟩,hlt⟩,hlen⟩,hft⟩,hni⟩:=h1;obtain⟨⟨⟨⟨⟨⟨⟨⟨⟨⟨o1,o2⟩,o3⟩,o4⟩,o5⟩,o6⟩,o7⟩,o8⟩,o9⟩,o10⟩,o11⟩:=hok;have hlen:=nb_eq hlen;have o5:=ble_le o5;obtain⟨y,g1,g2,g3⟩:=k79 hT o8 hb h2;obtain⟨x,k1,k2,_,k4⟩:=mtT_snd c.ins _ vs y _ o7 g1;obtain⟨o,m1,m2⟩:=hc.snd x _ k1;have hfi:c.fi x=tkB c.pre b:=by unfold Con.fi;rw[k2,g2]
   have hfl:Flat (tkB c.pre b):=k1a _ _;have hobs:c.obs idf x=(tkC idf (tkB c.pre b) 0 c.pre _ y).1:=by unfold Con.obs;rw[hfi,k2]
   have hpl:((c.obs idf x).map (erO T)).length=c.pre.length:=by rw[qm,hobs,tkC_len]
   have hql:((c.ops idf o).map (erO T)).length=c.post.length:=by rw[qm];unfold Con.ops;rw[tkC_len]
   refine⟨_,_,_,_,ids,_,_,_,m1,m2,?_,k1n hnd,⟨by rw[hpl,hql];exact o5,?_⟩,?_,?_,?_,?_,by rw[hpl,hql],?_,fun hd=>noIt_er (by subst hd;exact hni)⟩
   ·refine kkk (by rw[hpl];exact hlen) fun i k ob hk ho=> ?_;have hkm:k<fr:=k1i hlt k (qbb hk);rw[hpl];rw[ql,qv]at ho;obtain⟨ot,ho,rfl⟩:=ho;rw[hobs]at ho;refine⟨hkm,hkm,?_,tkC_ok hfl (fun j hj=>hj) 0 c.pre _ y o2 i ot ho,?_⟩
    ·have hr:=tkC_ren (sgm ids fr) (tkB c.pre b) hfl 0 c.pre _ y;have hi:i<(tkC idf (tkB c.pre b) 0 c.pre (hsB c.pre) y).1.length:=(qf.1 ho).1;have hi2:i<(tkC (sgm ids fr) (tkB c.pre b) 0 c.pre (hsB c.pre) y).1.length:=by rw[tkC_len]at hi ⊢;exact hi
     have e:=congrArg (fun l=>l[i]?) hr;simp only[ql,ho,qax,qd hi2,qah]at e;have:=g3 i _ (qd hi2);rw[e,sgm_at hk]at this;exact this
    ·obtain⟨p,hp,hob⟩:=tkC_at 0 c.pre _ y i ot ho;simp only[qaj]at hob;have hmb:=mtB_snd c.pre 0 b hb i p hp;cases p with
     |cells l=>obtain⟨c',rfl⟩:=hob;trivial
     |tip e=>obtain⟨x1,e',x',q1,_,_⟩:=hmb;have hob:ot=flatG (fget (tkB c.pre b) i):=hob;rw[q1]at hob;subst hob;trivial
     |vec e=>obtain⟨x1,e',x',q1,_,_⟩:=hmb;have hob:ot=flatG (fget (tkB c.pre b) i):=hob;rw[q1]at hob;subst hob;trivial
     |map c1 d1=>obtain⟨x1,y1,c',d',x',y',q1,_,_⟩:=hmb;have hob:ot=flatG (fget (tkB c.pre b) i):=hob;rw[q1]at hob;subst hob;trivial
     |it j c1 d1=>obtain⟨x1,y1,c',d',x',y',l',q1,_,_⟩:=hmb;obtain⟨m0,hob⟩:=hob;rw[q1]at hob;subst hob;trivial
     |dead=>exact(k6r o6 i hp).elim
   ·intro ob ho;obtain⟨ot,ho2,rfl⟩:=qag.1 ho;unfold Con.ops at ho2;obtain⟨i,hi⟩:=qcf ho2;obtain⟨p,hp,hob⟩:=tkC_at 0 c.post _ _ i ot hi;cases p with
    |cells l=>obtain⟨c',rfl⟩:=hob;trivial
    |tip e=>have hob:ot=flatG (fget _ _):=hob;rw[hob];exact k64 _
    |vec e=>have hob:ot=flatG (fget _ _):=hob;rw[hob];exact k64 _
    |map c1 d1=>have hob:ot=flatG (fget _ _):=hob;rw[hob];exact k64 _
    |it j c1 d1=>exact(k86 o11 i j c1 d1 hp).elim
    |dead=>have hob:ot= .dead:=hob;subst hob;trivial
   ·rw[hpl];refine kga k4 ?_ fun z hz=> ?_
    ·unfold Con.args;rw[tkT_er,tkT_er,hfi,k2m (sgm ids fr)];refine qar fun z hz=> ?_;obtain⟨u,_,rfl⟩:=qag.1 hz;exact(ren_0 _ k1l).symm
    ·unfold Con.args at hz;rw[tkT_er]at hz;obtain⟨u,_,rfl⟩:=qag.1 hz;exact ok_of0 (okT_mem (tkT_ok (fun j hj=>hj) c.ins _ x o1) _ hz) k1l
   ·exact kgo _ _ _
   ·exact tkV_ren _ _ _ _ _
   ·exact(hpN_new 0 _ _ (tkC_ren _ _ (k1a _ _) 0 c.post _ _)).symm
   ·intro hdr j ob ho;subst hdr;rw[hpl,ql,qv]at ho;obtain⟨ot,ho,rfl⟩:=ho;unfold Con.ops at ho;obtain⟨p,hp,hob⟩:=tkC_at 0 c.post _ _ _ ot ho;simp only[qaj]at hob;have hf:(c.post.drop c.pre.length).all (fun o=>match o with| .tip _=>false|_=>true)=true:=hft;rw[qbw]at hf;have hpm:p∈c.post.drop c.pre.length:=qbb (i:=j) (by rw[qba];exact hp);cases p with
    |cells l=>obtain⟨c',rfl⟩:=hob;trivial
    |tip e=>have:=hf _ hpm;cases this
    |vec e=>have hob:ot=flatG (fget _ _):=hob;obtain⟨y1,hy1⟩:=tkB_vec (x:=drC c.post _ (drV c.res _ o)) hp;unfold Con.fo at hob;rw[hy1]at hob;subst hob;trivial
    |map c1 d1=>have hob:ot=flatG (fget _ _):=hob;obtain⟨y1,z1,hy1⟩:=tkB_map (x:=drC c.post _ (drV c.res _ o)) hp;unfold Con.fo at hob;rw[hy1]at hob;subst hob;trivial
    |it j c1 d1=>exact(k86 o11 _ j c1 d1 hp).elim
    |dead=>have hob:ot= .dead:=hob;subst hob;trivial
theorem knm {g:FuncId} {xs ys:List V} {r:V} (hl:xs.length=ys.length) (h:∀(j:Nat) (x y:V),xs[j]? =some x->ys[j]? =some y->le x y) (hs:SoundX P g ys r):SoundX P g xs r:=by
 intro G w hh nx vs hlen hr;refine hs G w hh nx vs qqo fun j v y hv hy=> ?_;have hj:j<xs.length:=by have:=(qf.1 hy).1;omega
 exact(hr j v _ hv (qd hj)).le (h j _ y (qd hj) hy)
theorem kg5:∀{ts:List Ty} {vs:List (TV T.den)} {z:HL T.den ts},packL ts vs=some z->∀v∈vs,v.one=true
 |[],[],_,_,v,hv=>by cases hv
 |[],_::_,_,h,_,_=>by cases h
 |_::_,[],_,h,_,_=>by cases h
 |t::r,u::vs,z,h,v,hv=>by
  simp only[packL]at h;split at h
  ·rename_i x hx;split at h
   ·rename_i y hy;rcases qam.1 hv with rfl|hv
    ·exact kg7 hx
    ·exact kg5 hy v hv
   ·cases h
  ·cases h
theorem tvs_er:∀(ts:List Ty) (x:HL T.den ts),ts.all (fun t=> !t.agg)=true->(tvs ts x).map (er T)=(T.eL ts x).map .d
 |[],_,_=>rfl
 |t::r,x,h=>by simp only[qeu,qg,qbe]at h;show er T (.d t x.1)::(tvs r x.2).map (er T)= .d (T.e t x.1)::(T.eL r x.2).map .d;rw[tvs_er r x.2 h.2];rfl
theorem tX_snd {c:XCon T.den} (hc:c.Ok P T) {vs:List (TV T.den)} {i:HL T.den c.ins} (hp:packL c.ins vs=some i) (ho:c.ok i):SoundX P c.f (vs.map (er T)) (er T (outV c.out (c.val i))):=by have hl:=k7o hc.1 hp;obtain⟨q1,q2,q3⟩:=k2g hl;have hs:=hc.2 i ho;rw[tvs_er _ _ hc.1]at hs;have hone:=kg5 hp;have e:vs.map (er T)=vs.map (er1 T):=qar fun v hv=>er_of1 (hone v hv);rw[e];refine knm q1 (fun j x y hx hy=> ?_) hs;rw[ql,qv]at hx;obtain⟨v,hv,rfl⟩:=hx;exact le_of1 er1_na (q3 j _ y (by rw[ql,hv];rfl) hy)
theorem k95 {g:Nat} {x:XCon T.den}:∀{l:List (XCon T.den)},findX g l=some x->x∈l/\x.f=g
 |[],h=>by cases h
 |c::r,h=>by
  simp only[findX]at h;cases hb:Nat.beq c.f g with
  |true=>rw[hb]at h;injection h with h;subst h;exact⟨by simp,nb_eq hb⟩
  |false=>rw[hb]at h;obtain⟨h1,h2⟩:=k95 (l:=r) h;exact⟨by simp[h1],h2⟩
theorem k2q {g:Nat} {vs:List (TV T.den)} {K:Con T.den->Prop}:∀{l:List (Con T.den)},findC g vs K l->∃c∈l,c.f=g/\K c
 |[],h=>h.elim
 |c::r,h=>by
  simp only[findC]at h;cases hb:Nat.beq c.f g&&fitT c.ins vs with
  |true=>
   rw[hb]at h;simp only[qg]at hb;simp only[qdf]at h;cases ha:c.alt with
   |false=>rw[ha]at h;exact⟨c,by simp,nb_eq hb.1,h⟩
   |true=>
    rw[ha]at h;rcases h with h|h
    ·exact⟨c,by simp,nb_eq hb.1,h⟩
    ·obtain⟨c',h1,h2⟩:=k2q (l:=r) h;exact⟨c',by simp[h1],h2⟩
  |false=>rw[hb]at h;obtain⟨c',h1,h2⟩:=k2q (l:=r) h;exact⟨c',by simp[h1],h2⟩
end
end Go.Cv
namespace Go.Cv
open Go Go.Bv Go.RowKit Go.Md
section
variable {T:Tab} {P:Program}
theorem tdv_er (hT:T.Ok) (t:Ty) (x:t.den T.den):er T (tdv T t x)=V.ofD (T.e t x):=by
 cases t with
 |st n=>show V.agg (((tds (T.tys n) (T.cells n x)).map TD.v).map (er1 T))=V.ofD (T.enc n x);rw[hT.en n x,map_v,tds_e];rfl
 |_=>rfl
theorem tdv_er0 (hT:T.Ok) (t:Ty) (x:t.den T.den):er0 T (tdv T t x)=V.ofD (T.e t x):=by have h:=tdv_er hT t x;cases t<;>exact h
theorem kkh (d:D):notTupV (V.ofD d):=by cases d<;>trivial
theorem kjz (hT:T.Ok) {e:Ty} {v:TV T.den} {x:e.den T.den} (hx:toEl T e v=some x):le0 (er T v) (V.ofD (T.e e x)):=by
 have main:∀{t:Ty} {x:t.den T.den},toEl1 t v=some x->le0 (er T v) (V.ofD (T.e t x)):=by
  intro t x h;obtain⟨h1,h2,h3⟩:=k3m h;have h5:V.ofD (T.e t x)= .d (T.e t x):=by cases t<;>first|rfl|cases h3
  rw[h5]
  have h6:er T v=er1 T v:=by
   cases v with
   |agg l=>simp only[TV.cells]at h2;cases t<;>cases h
   |tup l=>cases t<;>cases h
   |_=>rfl
  rw[h6];generalize er1 T v=a at h1 ⊢;unfold le0;split
  ·rename_i l l' hq;cases hq
  ·exact h1
 cases e with
 |st n=>obtain⟨l,z,rfl,hp,rfl⟩:=k4b hx;show le0 (.agg (l.map (er1 T))) (V.ofD (T.enc n (T.pack n z)));rw[hT.en,hT.pc];exact k7o (hT.one n) hp
 |sl e=>exact main (t:= .sl e) hx
 |bool=>exact main (t:= .bool) hx
 |int k=>exact main (t:= .int k) hx
 |str=>exact main (t:= .str) hx
theorem key_er {k:Ty} {v:TV T.den} {x:k.den T.den} {d:TypeDesc} (hx:toEl1 k v=some x) (hk:(T.e k x).isKey d):er T v= .d (T.e k x):=by
 cases k with
 |sl e=>exact hk.elim
 |st n=>cases hx
 |bool=>rw[(isB_er hx).2];rfl
 |int q=>
  have h1:toEl2 (.int q) v=some x:=hx;unfold toEl2 at h1;split at h1
  ·obtain⟨rfl,rfl⟩:=Ty.cast_some h1;rfl
  ·cases h1
 |str=>
  have h1:toEl2 .str v=some x:=hx;unfold toEl2 at h1;split at h1
  ·obtain⟨rfl,rfl⟩:=Ty.cast_some h1;rfl
  ·cases h1
theorem keq_er (hT:T.Ok) {k:Ty} {d:TypeDesc} (hk:∀y:k.den T.den,(T.e k y).isKey d) (a b:k.den T.den):(T.e k a).keq (T.e k b)=Ty.keq k a b:=by
 cases k with
 |sl e=>exact(hk a).elim
 |st n=>have h:(T.enc n a).isKey d:=hk a;have e:T.enc n a= .agg _:=hT.en n a;exact(show False from(show D.isKey d (.agg (T.eL (T.tys n) (T.cells n a)))from Eq.subst (motive:=fun z=>z.isKey d) e h)).elim
 |bool=>rfl
 |str=>rfl
 |int q=>show(decide (q=q)&& @BEq.beq Int _ a b)= @BEq.beq Int _ a b;simp
def mEs (T:Tab) (k v:Ty) (ks:List (k.den T.den)) (vs:List (v.den T.den)):List (D×V):=(ks.zip vs).map fun p=>(T.e k p.1,V.ofD (T.e v p.2))
theorem kci {k v:Ty} (a:k.den T.den) (ks:List (k.den T.den)) (b:v.den T.den) (vs:List (v.den T.den)):mEs T k v (a::ks) (b::vs)=(T.e k a,V.ofD (T.e v b))::mEs T k v ks vs:=rfl
theorem mEs_get {k v:Ty}:∀(ks:List (k.den T.den)) (vs:List (v.den T.den)) (j:Nat),ks.length=vs.length->(mEs T k v ks vs)[j]? =match ks[j]?,vs[j]? with|some a,some b=>some (T.e k a,V.ofD (T.e v b))|_,_=>none
 |[],[],_,_=>by simp[mEs]
 |[],_::_,_,h=>by simp at h
 |_::_,[],_,h=>by simp at h
 |a::ks,b::vs,0,_=>by simp[mEs]
 |a::ks,b::vs,j+1,h=>by rw[kci,qao,mEs_get ks vs j qqh];simp
theorem mEs_key {k v:Ty} {d:TypeDesc} (hk:∀y:k.den T.den,(T.e k y).isKey d) (ks:List (k.den T.den)) (vs:List (v.den T.den)):∀e∈mEs T k v ks vs,e.1.isKey d:=by intro e he;obtain⟨p,_,rfl⟩:=qag.1 he;exact hk _
theorem mpos_er (hT:T.Ok) {k v:Ty} {d:TypeDesc} (hk:∀y:k.den T.den,(T.e k y).isKey d) (key:k.den T.den):∀(ks:List (k.den T.den)) (vs:List (v.den T.den)),ks.length=vs.length->mpos (T.e k key) (mEs T k v ks vs)=mIdx (Ty.keq k key) ks
 |[],[],_=>rfl
 |[],_::_,h=>by simp at h
 |_::_,[],h=>by simp at h
 |a::ks,b::vs,h=>by rw[kci];simp only[mpos,mIdx,keq_er hT hk,mpos_er hT hk key ks vs qqh]
theorem mIdx_lt {α:Type} {p:α->Bool}:∀{l:List α} {j:Nat},mIdx p l=some j->j<l.length
 |[],_,h=>by cases h
 |x::r,j,h=>by
  simp only[mIdx]at h;cases hp:p x with
  |true=>rw[hp]at h;injection h with h;subst h;simp
  |false=>rw[hp]at h;simp only[qbt,qv]at h;obtain⟨i,h1,rfl⟩:=h;have:=mIdx_lt h1;simp;omega
theorem mget_er (hT:T.Ok) {k v:Ty} {d:TypeDesc} (hk:∀y:k.den T.den,(T.e k y).isKey d) (key:k.den T.den) (ks:List (k.den T.den)) (vs:List (v.den T.den)) (h:ks.length=vs.length) (z:v.den T.den):
  (mget (mEs T k v ks vs) (T.e k key)).getD (V.ofD (T.e v z))=V.ofD (T.e v (mVal (Ty.keq k key) ks vs z))/\(mget (mEs T k v ks vs) (T.e k key)).isSome=mHas (Ty.keq k key) ks:=by
 unfold mget mVal mHas;rw[mpos_er hT hk key ks vs h];cases hm:mIdx (Ty.keq k key) ks with
 |none=>exact⟨rfl,rfl⟩
 |some j=>
  have hj:=mIdx_lt hm;have hj2:j<vs.length:=by omega
  simp only[mEs_get ks vs j h,qd hj,qd hj2];exact⟨rfl,rfl⟩
theorem mset_er (hT:T.Ok) {k v:Ty} {d:TypeDesc} (hk:∀y:k.den T.den,(T.e k y).isKey d) (key:k.den T.den) (x:v.den T.den) (ks:List (k.den T.den)) (vs:List (v.den T.den)) (h:ks.length=vs.length):
  mset (mEs T k v ks vs) (T.e k key) (V.ofD (T.e v x))=mEs T k v (mPutK (Ty.keq k key) ks key) (mPutV (Ty.keq k key) ks vs x):=by
 unfold mset mPutK mPutV;rw[mpos_er hT hk key ks vs h];cases hm:mIdx (Ty.keq k key) ks with
 |none=>show _++[_]=mEs T k v (ks++[key]) (vs++[x]);unfold mEs;rw[List.zip_append h,qbm];rfl
 |some j=>
  show List.set _ j _=mEs T k v (ks.set j key) (vs.set j x);apply qcy;intro q;rw[qcj,mEs_get ks vs q h,mEs_get _ _ q qqh,qcj,qcj];have hj:=mIdx_lt hm;have hj2:j<vs.length:=by omega
  have hl:j<(mEs T k v ks vs).length:=by simp only[mEs,qm,List.length_zip];omega
  by_cases hq:j=q
  ·subst hq;rw[qh rfl,qh rfl,qh rfl,qh hl,qh hj,qh hj2]
  ·rw[qe hq,qe hq,qe hq]
theorem k9v {k v:Ty}:∀(ks:List (k.den T.den)) (vs:List (v.den T.den)) (j:Nat),ks.length=vs.length->(mEs T k v ks vs).eraseIdx j=mEs T k v (ks.eraseIdx j) (vs.eraseIdx j)
 |[],[],_,_=>rfl
 |[],_::_,_,h=>by simp at h
 |_::_,[],_,h=>by simp at h
 |a::ks,b::vs,0,_=>rfl
 |a::ks,b::vs,j+1,h=>by have:=k9v ks vs j qqh;rw[kci,List.eraseIdx_cons_succ,this];rfl
theorem ix_at {α:Type} {d:α} {l:List α} {j:Nat} {a:α} (h:l[j]? =some a): @ix α ⟨d⟩ l (j:Int)=a:=by obtain⟨hj,rfl⟩:=qf.1 h;unfold ix;simp[hj]
theorem kiq {t:TypeId} {ti:TI T.den} {r:Option Operand} {o:Oper} {N:Nat} {s:TSt T.den} {K:TV T.den->THp T.den->Nat->Prop} (ho:o.op= .makeMap t r) (hx:TI.Ok P T t ti) (h:tMakeMap T ti s r s.nx K):AOpX P N o (Goes T s o.dst K) (erS T s):=by
 unfold tMakeMap at h;split at h
 ·rename_i k v hmp;obtain⟨h1,h2⟩:=cnd h;unfold AOpX;rw[ho];refine⟨?_,Goes.of h2 rfl⟩;cases r with
  |none=>trivial
  |some x=>obtain⟨et,d,⟨kt,g1,_⟩,_⟩:=hx.mp k v hmp;refine⟨⟨kt,et,g1⟩,?_⟩;have h1:(s.ev x).asI.isSome=true:=h1;obtain⟨⟨q,n⟩,hq⟩:=qab.1 h1;exact⟨q,n,by rw[ev_er,asI_eq hq];rfl⟩
 ·exact h.elim
theorem kgb (hT:T.Ok) {t:TypeId} {ti:TI T.den} (hx:TI.Ok P T t ti) {c:Bool} {x i:Operand} {s:TSt T.den} {K:TV T.den->THp T.den->Nat->Prop} (h:tLookup T ti s.h c (s.ev x) (s.ev i) K):∃v,K v [] 0/\lookV P (erS T s).h (erS T s).ev t x i c (er T v):=by
 unfold tLookup at h;split at h
 ·rename_i k v id hmp hxv;obtain⟨et,d,g1,g2,g3⟩:=hx.mp k v hmp;split at h
  ·rename_i k' v' ks vs hg;split at h
   ·rename_i ks' vs' key c1 c2 c3;obtain⟨rfl,rfl⟩:=Ty.cast_some c1;obtain⟨rfl,rfl⟩:=Ty.cast_some c2;obtain⟨hl,h⟩:=h;obtain⟨q1,q2⟩:=mget_er hT g2 key ks vs hl (T.dflt v');refine⟨_,h,et,d,T.e k' key,mEs T k' v' ks vs,_,g1,by rw[ev_er];exact key_er c3 (g2 _),g2 _,.inl ⟨id,by rw[ev_er,hxv];rfl,?_⟩,mEs_key g2 ks vs,g3,?_⟩
    ·show(erH T s.h).get id=_;rw[getH_er,hg];rfl
    ·rw[q1,q2];cases c with
     |false=>show er T (tdv T v' _)=_;rw[tdv_er hT];rfl
     |true=>show V.tup [er0 T (tdv T v' _),_]=_;rw[tdv_er0 hT];rfl
   ·exact h.elim
  ·exact h.elim
 ·exact h.elim
theorem kl1 (hT:T.Ok) {t:TypeId} {ti:TI T.den} (hx:TI.Ok P T t ti) {c:Bool} {x i:Operand} {o:Oper} {N:Nat} {s:TSt T.den} {K:TV T.den->THp T.den->Nat->Prop} (ho:o.op= .lookup t x i c) (h:tLookup T ti s.h c (s.ev x) (s.ev i) K):AOpX P N o (Goes T s o.dst K) (erS T s):=by obtain⟨v,h1,h2⟩:=kgb hT hx h;unfold AOpX;rw[ho];exact⟨_,h2,Goes.of h1 rfl⟩
theorem knd (hT:T.Ok) {t:TypeId} {ti:TI T.den} (hx:TI.Ok P T t ti) {m i y:Operand} {s:TSt T.den} {K:TV T.den->THp T.den->Nat->Prop} (h:tMapUpd T ti s.h (s.ev m) (s.ev i) (s.ev y) K):
  ∃id o es',K .any [(id,o)] 0/\erO T o= .map (.m es')/\updV P (erS T s).h (erS T s).ev t m i y id es' :=by
 unfold tMapUpd at h;split at h
 ·rename_i k v id hmp hxv;obtain⟨et,d,g1,g2,g3⟩:=hx.mp k v hmp;split at h
  ·rename_i k' v' ks vs hg;split at h
   ·rename_i ks' vs' key val c1 c2 c3 c4;obtain⟨rfl,rfl⟩:=Ty.cast_some c1;obtain⟨rfl,rfl⟩:=Ty.cast_some c2;obtain⟨hl,h⟩:=h;refine⟨id,_,_,h,rfl,et,d,T.e k' key,mEs T k' v' ks vs,g1,by rw[ev_er];exact key_er c3 (g2 _),g2 _,by rw[ev_er,hxv];rfl,?_,mEs_key g2 ks vs,V.ofD (T.e v' val),by rw[ev_er];exact kjz hT c4,kkh _,?_⟩
    ·show(erH T s.h).get id=_;rw[getH_er,hg];rfl
    ·exact(mset_er hT g2 key val ks vs hl).symm
   ·exact h.elim
  ·exact h.elim
 ·exact h.elim
theorem klo (hT:T.Ok) {t:TypeId} {ti:TI T.den} (hx:TI.Ok P T t ti) {m i y:Operand} {o:Oper} {N:Nat} {s:TSt T.den} {K:TV T.den->THp T.den->Nat->Prop} (ho:o.op= .mapUpdate t m i y) (hni:noItT s.h=true) (h:tMapUpd T ti s.h (s.ev m) (s.ev i) (s.ev y) K):AOpX P N o (Goes T s o.dst K) (erS T s):=by
 unfold tMapUpd at h;split at h
 ·rename_i k v id hmp hxv;obtain⟨et,d,g1,g2,g3⟩:=hx.mp k v hmp;split at h
  ·rename_i k' v' ks vs hg;split at h
   ·rename_i ks' vs' key val c1 c2 c3 c4;obtain⟨rfl,rfl⟩:=Ty.cast_some c1;obtain⟨rfl,rfl⟩:=Ty.cast_some c2;obtain⟨hl,h⟩:=h;unfold AOpX;rw[ho];refine⟨noIt_er hni,et,d,T.e k' key,mEs T k' v' ks vs,id,g1,by rw[ev_er];exact key_er c3 (g2 _),g2 _,by rw[ev_er,hxv];rfl,?_,mEs_key g2 ks vs,V.ofD (T.e v' val),by rw[ev_er];exact kjz hT c4,kkh _,?_⟩
    ·show(erH T s.h).get id=_;rw[getH_er,hg];rfl
    ·rw[mset_er hT g2 key val ks vs hl];exact Goes.of h rfl
   ·exact h.elim
  ·exact h.elim
 ·exact h.elim
theorem mdel_er (hT:T.Ok) {k v:Ty} {d:TypeDesc} (hk:∀y:k.den T.den,(T.e k y).isKey d) (key:k.den T.den) (ks:List (k.den T.den)) (vs:List (v.den T.den)) (h:ks.length=vs.length):
  mdel (mEs T k v ks vs) (T.e k key)=mEs T k v (mDelK (Ty.keq k key) ks) (mDelV (Ty.keq k key) ks vs):=by
 unfold mdel mDelK mDelV;rw[mpos_er hT hk key ks vs h];cases hm:mIdx (Ty.keq k key) ks with
 |none=>rfl
 |some j=>exact k9v ks vs j h
theorem kkw (hT:T.Ok) {ti:TI T.den} {ts:Array TypeId} {aw:Array Operand} (hx:TI.Ok P T (ts.getD 0 0) ti) {ty:TypeId} {pos:String} {after:Array Edge} {guard:Option (Nat×Bool)} {dst:Option Nat} {N:Nat} {s:TSt T.den} {K:TV T.den->THp T.den->Nat->Prop}
  (hni:noItT s.h=true) (ha:aw.size=2) (ht:ts.size=2) (h:tDelete T ti s.h (s.ev (aw.getD 0 (.const .nilIface))) (s.ev (aw.getD 1 (.const .nilIface))) K):AOpX P N ⟨dst,.call ⟨.builtin .delete,aw,ts⟩,ty,pos,after,guard⟩ (Goes T s dst K) (erS T s):=by
 unfold tDelete at h;split at h
 ·rename_i k v id hmp hxv;obtain⟨et,d,g1,g2,g3⟩:=hx.mp k v hmp;split at h
  ·rename_i k' v' ks vs hg;split at h
   ·rename_i ks' vs' key c1 c2 c3;obtain⟨rfl,rfl⟩:=Ty.cast_some c1;obtain⟨rfl,rfl⟩:=Ty.cast_some c2;obtain⟨hl,h⟩:=h;refine⟨⟨ha,ht⟩,noIt_er hni,et,d,T.e k' key,mEs T k' v' ks vs,id,g1,?_,g2 _,?_,?_,mEs_key g2 ks vs,?_⟩
    ·show(erS T s).ev _=_;rw[ev_er];exact key_er c3 (g2 _)
    ·show(erS T s).ev _=_;rw[ev_er,hxv];rfl
    ·show(erH T s.h).get id=_;rw[getH_er,hg];rfl
    ·rw[mdel_er hT g2 key ks vs hl];exact Goes.of h rfl
   ·exact h.elim
  ·exact h.elim
 ·exact h.elim
theorem kn8 {ti:TI T.den} {ts:Array TypeId} {aw:Array Operand} (hx:TI.Ok P T (ts.getD 0 0) ti) {ty:TypeId} {pos:String} {after:Array Edge} {guard:Option (Nat×Bool)} {dst:Option Nat} {N:Nat} {s:TSt T.den} {K:TV T.den->THp T.den->Nat->Prop} {id:Nat}
  (ha:aw.size=1) (ht:ts.size=1) (hev:s.ev (aw.getD 0 (.const .nilIface))= .mp id) (h:tLenM T ti s.h (.mp id) K):AOpX P N ⟨dst,.call ⟨.builtin .len,aw,ts⟩,ty,pos,after,guard⟩ (Goes T s dst K) (erS T s):=by
 unfold tLenM at h;split at h
 ·rename_i k v id' hmp hxv;injection hxv with hxv;subst hxv;obtain⟨et,d,g1,g2,g3⟩:=hx.mp k v hmp;split at h
  ·rename_i k' v' ks vs hg;obtain⟨hl,h⟩:=h;refine⟨⟨ha,ht⟩,et,d,mEs T k' v' ks vs,id,g1,?_,?_,?_⟩
   ·show(erS T s).ev _=_;rw[ev_er,hev];rfl
   ·show(erH T s.h).get id=_;rw[getH_er,hg];rfl
   ·have e:(mEs T k' v' ks vs).length=ks.length:=by simp only[mEs,qm,List.length_zip];omega
    rw[e];exact Goes.of h rfl
  ·exact h.elim
 ·exact h.elim
theorem kmm {t:TypeId} {ti:TI T.den} (hx:TI.Ok P T t ti) {x:Operand} {o:Oper} {N:Nat} {s:TSt T.den} {K:TV T.den->THp T.den->Nat->Prop} (ho:o.op= .range t x) (h:tRange T ti s.h s.nx (s.ev x) K):AOpX P N o (Goes T s o.dst K) (erS T s):=by
 unfold tRange at h;split at h
 ·rename_i k v id hmp hxv;obtain⟨et,d,g1,g2,g3⟩:=hx.mp k v hmp;split at h
  ·rename_i k' v' ks vs hg;unfold AOpX;rw[ho];refine⟨et,d,mEs T k' v' ks vs,id,g1,by rw[ev_er,hxv];rfl,?_,Goes.of h rfl⟩;show(erH T s.h).get id=_;rw[getH_er,hg];rfl
  ·exact h.elim
 ·exact h.elim
theorem kno (hT:T.Ok) {x:Operand} {o:Oper} {N:Nat} {s:TSt T.den} {K:TV T.den->THp T.den->Nat->Prop} (ho:o.op= .next x false) (h:tNext T s.h (s.ev x) K):AOpX P N o (Goes T s o.dst K) (erS T s):=by
 unfold tNext at h;split at h
 ·rename_i id hxv;split at h
  ·rename_i mid k v ks vs last hg;split at h
   ·rename_i k2 v2 ks2 vs2 hm;obtain⟨hl,h0,h1⟩:=h;unfold AOpX;rw[ho];refine⟨rfl,id,mid,mEs T k2 v2 ks2 vs2,mEs T k v ks vs,last.map fun p=>(T.e k p.1,V.ofD (T.e v p.2)),by rw[ev_er,hxv];rfl,?_,?_,fun hr=> ?_,fun j e he=> ?_⟩
    ·show(erH T s.h).get id=_;rw[getH_er,hg];rfl
    ·show(erH T s.h).get mid=_;rw[getH_er,hm];rfl
    ·have:ks=[]:=by
      cases ks with
      |nil=>rfl
      |cons a ks=>cases vs with
       |nil=>cases hl
       |cons b vs=>cases hr
     exact Goes.of (h0 this) rfl
    ·rw[mEs_get ks vs j hl]at he;split at he
     ·rename_i a b ha hb;have hj:=(qf.1 ha).1;have hj2:=(qf.1 hb).1;injection he with he;have ea: @ix _ ⟨T.dflt k⟩ ks (j:Int)=a:=ix_at ha;have eb: @ix _ ⟨T.dflt v⟩ vs (j:Int)=b:=ix_at hb;have:=h1 j hj;rw[ea,eb]at this;refine Goes.of this ?_;show St.put ⟨_,(id,Ob.map (.it mid ((mEs T k v ks vs).eraseIdx j) (some e)))::_,_⟩ _ (V.tup [V.d (.bool true),V.d e.1,e.2])=St.put ⟨_,(id,Ob.map (.it mid (mEs T k v (ks.eraseIdx j) (vs.eraseIdx j)) (some (T.e k a,V.ofD (T.e v b)))))::_,_⟩ _ (V.tup [V.d (.bool true),V.d (T.e k a),er0 T (tdv T v b)]);rw[tdv_er0 hT,k9v ks vs j hl,<-he];rfl
     ·cases he
   ·exact h.elim
  ·exact h.elim
 ·exact h.elim
theorem km7 (hT:T.Ok) {x:Operand} {o:Oper} {N:Nat} {s:TSt T.den} {K:TV T.den->THp T.den->Nat->Prop} (ho:o.op= .entry x) (h:tEntry T s.h (s.ev x) K):AOpX P N o (Goes T s o.dst K) (erS T s):=by
 unfold tEntry at h;split at h
 ·rename_i id hxv;split at h
  ·rename_i mid k v ks vs p hg;split at h
   ·rename_i k2 v2 ks2 vs2 hm;unfold AOpX;rw[ho];refine⟨id,mid,mEs T k2 v2 ks2 vs2,mEs T k v ks vs,(T.e k p.1,V.ofD (T.e v p.2)),by rw[ev_er,hxv];rfl,?_,?_,Goes.of h ?_⟩
    ·show(erH T s.h).get id=_;rw[getH_er,hg];rfl
    ·show(erH T s.h).get mid=_;rw[getH_er,hm];rfl
    ·show St.put _ _ (V.tup [V.d (T.e k p.1),V.ofD (T.e v p.2)])=St.put _ _ (V.tup [V.d (T.e k p.1),er0 T (tdv T v p.2)]);rw[tdv_er0 hT];rfl
   ·exact h.elim
  ·exact h.elim
 ·exact h.elim
end
end Go.Cv
namespace Go.Cv
open Go Go.Bv Go.RowKit Go.Md
section
variable {T:Tab} {P:Program} {C:Cx T} {N:Nat}
theorem dstB_ok {d:Option Nat} (h:dstB N d=true):dstOk N d:=by
 cases d with
 |none=>trivial
 |some t=>exact blt_lt h
theorem fnOf_eq {v:TV T.den} {g:Nat} (h:fnOf T v=some g):v= .k (.func (.func g) #[] #[]):=by
 unfold fnOf at h;split at h
 ·rename_i g' a b;cases hb:Nat.beq a.size 0&&Nat.beq b.size 0 with
  |false=>rw[hb]at h;cases h
  |true=>rw[hb]at h;injection h with h;subst h;simp only[qg]at hb;rw[qbq (nb_eq hb.1),qbq (nb_eq hb.2)]
 ·cases h
theorem cloT_er:∀l:List (Option (Nat×Nat)),(cloT T l).map (er T)=cloV l
 |[]=>rfl
 |none::r=>congrArg (List.cons _) (cloT_er r)
 |some _::r=>congrArg (List.cons _) (cloT_er r)
theorem fnTG_eq {v:TV T.den} {g:Nat} (h:fnTG T v=some g):fnG (er T v)=some g/\∀xs,(fnTA T v xs).map (er T)=fnA (er T v) (xs.map (er T)):=by
 unfold fnTG at h;split at h
 ·rename_i g' fs cs;refine⟨h,fun xs=> ?_⟩;show(cloT T fs++(xs++cloT T cs)).map (er T)=cloV fs++(xs.map (er T)++cloV cs);rw[qbm,qbm,cloT_er,cloT_er]
 ·cases h
theorem kq5 (v:TV T.den):isNilV (er T v)=v.isNil:=by
 cases v with
 |k u=>
  show isNilV (.k u)=isNilK u;unfold isNilV isNilK;cases u<;>first|rfl|skip
  rename_i a b c;cases a with
  |none=>cases b with
   |zero=>cases c<;>rfl
   |succ b=>rfl
  |some a=>rfl
 |d t x=>rfl
 |agg l=>rfl
 |tup l=>rfl
 |_=>rfl
theorem k5s (hT:T.Ok) {t:TypeId} {ti:TI T.den} (hx:TI.Ok P T t ti) {e:Ty} {bt n:Nat} (hel:ti.el=some (e,bt)) {is:List Nat} {vs:List (TV T.den)} {l:List (e.den T.den)} (h1:toEls T e vs=some l)
  (h2:(vs.all (noK T)&&rangeB 0 is&&Nat.beq n is.length&&Nat.ble (n*T.sz e) 16777216)=true) (hl:is.length=vs.length):
  ((rowOf P t).isSome=true/\is=List.range n/\(toDs (vs.map (er T))).isSome=true/\sizesOk (rowD P t).1 ((toDs (vs.map (er T))).getD [])/\n*(rowD P t).1<=16777216)/\
   V.full (rowD P t).1 ((toDs (vs.map (er T))).getD [])=er T (.full e l):=by
 simp only[qg]at h2;obtain⟨⟨⟨k1,k2⟩,k3⟩,k4⟩:=h2;have hrow:=(hx.el _ _ hel).2;have hrd:rowD P t=(T.sz e,bt):=by unfold rowD;rw[hrow];rfl
 obtain⟨g1,g2⟩:=toEls_D hT h1 k1;have hr:=kg3 k2 (nb_eq k3).symm;rw[hrd,g1];refine⟨⟨by rw[hrow];rfl,?_,rfl,kh0 hT l,ble_le k4⟩,rfl⟩;rw[hr];simp
theorem kl9 (hT:T.Ok) (hC:C.Ok P T) {o:Oper} {rw:Bool} {s:TSt T.den} {K:TV T.den->THp T.den->Nat->Prop} (hdB:dstB N o.dst=true) (h:tStep T C rw s K o.op):AOp P N o (Goes T s o.dst K) (erS T s):=by
 have hd:=dstB_ok hdB;clear hdB;obtain⟨dst,op,ty,pos,after,guard⟩:=o;have quiet:∀op,tq T C.ti s (fun v=>K v [] 0) op->avOk P (erS T s).h (erS T s).ev op/\Goes T s dst K ((erS T s).put dst (av P (erS T s).h (erS T s).ev op)):=by intro op h;obtain⟨u,h1,h2,h3⟩:=tq_snd hT hC.ti h;exact⟨h2,by rw[h3];exact Goes.of h1 rfl⟩
 simp only at h hd;cases op with
 |alloc t=>
  simp only[tStep,tOp]at h;split at h
  ·rename_i z hz;obtain⟨q1,q2⟩:=(hC.ti.of t).ze z hz;refine⟨hd,by rw[q1];rfl,Goes.of h ?_⟩;have:zeroD P t=z.map (er1 T):=by unfold zeroD;rw[q1];rfl
   rw[this];rfl
  ·exact h.elim
 |box t x=>simp only[tStep,tOp]at h;obtain⟨h1,h2⟩:=cnd h;obtain⟨c1,c2⟩:=k4n h1;refine⟨hd,⟨_,by rw[ev_er];exact c2⟩,Goes.of h2 ?_⟩;show St.put ⟨_,(s.nx,.cells ((erS T s).ev x).cells)::_,_⟩ dst _=_;rw[ev_er,c1];rfl
 |store t a x=>
  simp only[tStep,tOp]at h;obtain⟨id,off,l,g,n,o,h1,h2,h3,h4,h5,h6,h7⟩:=kdk hT (hC.ti.of t) h;refine⟨hd,?_,?_⟩
  ·show storeOk _ _ ((erS T s).ev x) ((erS T s).ev a);rw[ev_er,ev_er,h2,h4,kn5];show storeO _ _ _ ((erH T s.h).get id);rw[h3];exact⟨h5,h6⟩
  ·show Goes T s dst K (St.put ⟨(erS T s).sl,storeH (erH T s.h) ((erS T s).ev x) ((erS T s).ev a),s.nx⟩ dst .any);rw[ev_er,ev_er,h2,kpu,h3];show Goes T s dst K (St.put ⟨(erS T s).sl,(id,.cells (setAt l off (er T (s.ev x)).cells))::erH T s.h,s.nx⟩ dst .any);rcases h7 with h7|⟨_,B,h7,h8⟩
   ·refine Goes.of h1 ?_;show _=St.put ⟨_,(id,erO T o)::_,_⟩ dst _;rw[h7];rfl
   ·exact Goes.weak h1 rfl h7 h8
 |build t parts=>
  simp only[tStep,tOp]at h;split at h
  ·rename_i z hz;obtain⟨q1,q2⟩:=(hC.ti.of t).ze z hz;cases hp:(TI.of C.ti t).pl.isEmpty with
   |true=>rw[hp]at h;exact h.elim
   |false=>
    rw[hp]at h;have hpl:=(hC.ti.of t).pl (fun e=>by rw[e]at hp;cases hp);obtain⟨l',g1,g2,g3⟩:=kac _ _ h;have e1:zeroD P t=z.map (er1 T):=by unfold zeroD;rw[q1];rfl
    have e2:plD P t=(TI.of C.ti t).pl:=by unfold plD;rw[hpl];rfl
    have e3:(parts.toList.map fun p=>(p.1,(erS T s).ev p.2))=(parts.toList.map fun p=>(p.1,s.ev p.2)).map fun p=>(p.1,er T p.2):=by rw[qbi];exact qar fun p _=>by simp only[Function.comp,ev_er]
    refine⟨hd,by rw[hpl];rfl,by rw[q1];rfl,?_,?_⟩
    ·show fillOk (plD P t) (zeroD P t) (parts.toList.map fun p=>(p.1,(erS T s).ev p.2));rw[e1,e2,e3];exact g2
    ·show Goes T s dst K ((erS T s).put dst (.agg (fillR (plD P t) (zeroD P t) (parts.toList.map fun p=>(p.1,(erS T s).ev p.2)))));rw[e1,e2,e3,g3];exact Goes.of g1 rfl
  ·exact h.elim
 |buildSlice t n parts=>
  simp only[tStep,tOp]at h;split at h
  ·rename_i e bt hel;split at h
   ·rename_i l hl;obtain⟨h1,h2⟩:=cnd h;have e3:(parts.toList.map fun p=>(erS T s).ev p.2)=(parts.toList.map fun p=>s.ev p.2).map (er T):=by rw[qbi];exact qar fun p _=>by simp only[Function.comp,ev_er]
    obtain⟨⟨k1,k2,k3,k4,k5⟩,k6⟩:=k5s hT (hC.ti.of t) hel (is:=parts.toList.map (·.1)) hl (by rw[qm];exact h1) qqs;rw[<-e3]at k3 k4 k6;cases rw with
    |false=>simp only[qbt]at h2;refine⟨hd,k1,k2,k3,k4,k5,.inl ?_⟩;show Goes T s dst K (St.put ⟨_,_,_⟩ dst (V.full (rowD P t).1 _));rw[k6];exact Goes.of h2 rfl
    |true=>
     simp only[qdf]at h2;refine⟨hd,k1,k2,k3,k4,k5,.inr ?_⟩;have k7:V.full (rowD P t).1 ((toDs (parts.toList.map fun p=>(erS T s).ev p.2)).getD [])=V.full (T.sz e) (l.map (T.e e)):=k6;injection k7 with k8 k9;simp only[qg]at h1;have hn:n=l.length:=by rw[nb_eq h1.1.2,(toEls_D hT hl h1.1.1.1).2,qm]
     show Goes T s dst K (St.put ⟨_,(s.nx,.cells _)::_,_⟩ dst (V.row s.nx 0 n (rowD P t).1));rw[k8,k9,hn];exact Goes.of h2 rfl
   ·exact h.elim
  ·exact h.elim
 |makeSlice t l c=>have h:tMake T (TI.of C.ti t) s.nx c (s.ev l) (s.ev c) K:=h;obtain⟨h1,h2⟩:=kmv (d:=dst) (hC.ti.of t) h;rw[<-ev_er,<-ev_er]at h1;rw[<-ev_er]at h2;exact⟨hd,h1,h2⟩
 |binOp op t x y t' =>
  simp only[tStep]at h;show _/\(match isNilV ((erS T s).ev y)with|true=>_|false=>_);rw[ev_er,kq5];refine⟨hd,?_⟩;cases hn:(s.ev y).isNil with
  |true=>rw[hn]at h;obtain⟨_,h2,h3,h4⟩:=kot (hC.ti.of t) h;obtain⟨_,_,h5,_⟩:=h4 false (fun h=>by cases h);refine⟨h5,h2,by rw[ev_er];exact h3,fun b hb=> ?_⟩;obtain⟨u,g1,_,g3⟩:=h4 b (by rw[ev_er]at hb;exact hb);rw[g3];exact Goes.of g1 rfl
  |false=>rw[hn]at h;exact quiet _ h
 |call c=>
  obtain⟨callee,args,argTypes⟩:=c;refine⟨hd,?_⟩;cases callee with
  |builtin b=>
   cases b with
   |append=>
    simp only[tStep,tOp]at h;obtain⟨h1,h2⟩:=cnd h;simp only[qg]at h1;refine⟨⟨nb_eq h1.1.1,nb_eq h1.1.2,nb_eq h1.2⟩,?_⟩;rcases kl3 (d:=dst) hT (hC.ti.of _) h2 with⟨g1,g2⟩|g
    rotate_left
    ·refine .inr ?_;show appRowA P (erS T s) _ ((erS T s).ev _) ((erS T s).ev _) dst _;rw[ev_er,ev_er];exact g
    refine .inl ⟨?_,?_⟩
    ·show appOk P (erS T s) _ ((erS T s).ev _) ((erS T s).ev _);rw[ev_er,ev_er];exact g1
    ·show Goes T s dst K (appS P (erS T s) _ ((erS T s).ev _) ((erS T s).ev _) dst);rw[ev_er,ev_er];exact g2
   |copy=>
    simp only[tStep,tOp]at h;obtain⟨h1,h2⟩:=cnd h;simp only[qg]at h1;obtain⟨g1,g2⟩:=knt (d:=dst) hT (hC.ti.of _) h2;refine⟨⟨nb_eq h1.1,nb_eq h1.2⟩,?_,?_⟩
    ·show copyOk P _ _ ((erS T s).ev _) ((erS T s).ev _);rw[ev_er,ev_er];exact g1
    ·show Goes T s dst K (St.put ⟨_,copyH _ ((erS T s).ev _) ((erS T s).ev _),_⟩ dst (copyN ((erS T s).ev _) ((erS T s).ev _)));rw[ev_er,ev_er];exact g2
   |len=>
    simp only[tStep,tOp]at h;split at h
    ·rename_i id hev;obtain⟨h1,h2⟩:=cnd h;simp only[qg]at h1;exact .inr (kn8 (hC.ti.of _) (nb_eq h1.1) (nb_eq h1.2) hev h2)
    ·exact .inl (quiet _ h)
   |delete=>simp only[tStep,tOp]at h;obtain⟨h1,h2⟩:=cnd h;simp only[qg]at h1;exact kkw hT (hC.ti.of _) h1.1.1.2 (nb_eq h1.1.2) (nb_eq h1.2) h2
   |min=>exact quiet _ h
   |max=>exact quiet _ h
   |_=>exact(show False from h).elim
  |value f=>
   simp only[tStep,tOp]at h;split at h
   ·rename_i g hf;have hev:(erS T s).ev f= .k (.func (.func g) #[] #[]):=by rw[ev_er,fnOf_eq hf];rfl
    have ea:args.toList.map (erS T s).ev=(args.toList.map s.ev).map (er T):=by rw[qbi];exact qar fun p _=>by simp only[Function.comp,ev_er]
    split at h
    ·rename_i x hx;obtain⟨m1,m2⟩:=k95 hx;split at h
     ·rename_i i hi;obtain⟨h1,h2⟩:=h;refine .inl ⟨g,_,hev,?_,Goes.of h2 rfl⟩;have:=tX_snd (hC.xs x m1) hi h1;rw[m2]at this;show SoundX P g (args.toList.map (erS T s).ev) _;rw[ea];exact this
     ·exact h.elim
    ·obtain⟨c,m1,m2,m3⟩:=k2q h;obtain⟨xs,pre,r,post,ids,v,hu,nf,k1,k2,k3,k4,k5,k6,k7,k8,k9,k10,_,kni⟩:=k5r hT (hC.cs c m1) m3;have hcl:=(hC.cs c m1).cl;rw[m2]at hcl k2;refine .inr ⟨g,xs,pre,r,post,ids,by rw[hev];rfl,hcl.1,hcl.2,k2,kni rfl,k3,k4,k5,by rw[hev,ea];exact k6,k7,Goes.of k1 ?_⟩;show St.put ⟨_,hpNew (sgm ids s.nx) 0 post++erH T s.h,s.nx+(post.length-pre.length)⟩ dst (ren (sgm ids s.nx) r)=_;rw[k8,k9,k10]
   ·split at h
    ·rename_i g hg;obtain⟨q1,q2⟩:=fnTG_eq hg;have ea:args.toList.map (erS T s).ev=(args.toList.map s.ev).map (er T):=by rw[qbi];exact qar fun p _=>by simp only[Function.comp,ev_er]
     obtain⟨c,m1,m2,m3⟩:=k2q h;obtain⟨xs,pre,r,post,ids,v,hu,nf,k1,k2,k3,k4,k5,k6,k7,k8,k9,k10,_,kni⟩:=k5r hT (hC.cs c m1) m3;have hcl:=(hC.cs c m1).cl;rw[m2]at hcl k2;refine .inr ⟨g,xs,pre,r,post,ids,by rw[ev_er];exact q1,hcl.1,hcl.2,k2,kni rfl,k3,k4,k5,by rw[ev_er,ea,<-q2];exact k6,k7,Goes.of k1 ?_⟩;show St.put ⟨_,hpNew (sgm ids s.nx) 0 post++erH T s.h,s.nx+(post.length-pre.length)⟩ dst (ren (sgm ids s.nx) r)=_;rw[k8,k9,k10]
    ·exact h.elim
  |_=>exact(show False from h).elim
 |makeMap t r=>simp only[tStep,tOp,qbt]at h;exact⟨hd,kiq rfl (hC.ti.of t) h⟩
 |lookup t x i c=>simp only[tStep,tOp]at h;exact⟨hd,kl1 hT (hC.ti.of t) rfl h⟩
 |mapUpdate t m k v=>simp only[tStep,tOp,qfh]at h;obtain⟨h1,h2⟩:=cnd h;exact⟨hd,klo hT (hC.ti.of t) rfl h1 h2⟩
 |range t x=>simp only[tStep,tOp,qbt]at h;exact⟨hd,kmm (hC.ti.of t) rfl h⟩
 |next x b=>
  simp only[tStep,tOp,qfh]at h;cases b with
  |true=>exact(show False from h).elim
  |false=>exact⟨hd,kno hT rfl h⟩
 |entry x=>simp only[tStep,tOp,qbt]at h;exact⟨hd,km7 hT rfl h⟩
 |makeFunc a b c=>exact⟨hd,quiet _ h⟩
 |move x=>exact⟨hd,quiet _ h⟩
 |assign x=>exact⟨hd,quiet _ h⟩
 |pick c a b=>exact⟨hd,quiet _ h⟩
 |load t a=>exact⟨hd,quiet _ h⟩
 |fieldAddr t x f=>exact⟨hd,quiet _ h⟩
 |field t x f=>exact⟨hd,quiet _ h⟩
 |indexAddr t x i=>exact⟨hd,quiet _ h⟩
 |index t x i=>exact⟨hd,quiet _ h⟩
 |extract x i=>exact⟨hd,quiet _ h⟩
 |unOp op t x=>exact⟨hd,quiet _ h⟩
 |convert a b x=>exact⟨hd,quiet _ h⟩
 |slice t x lo hi mx=>exact⟨hd,quiet _ h⟩
 |nilCheck x=>exact⟨hd,quiet _ h⟩
 |_=>exact(show False from h).elim
end
end Go.Cv
namespace Go.Bv
open Go.RowKit
def Eqv (s s' :St):Prop:=s.h=s'.h/\s.nx=s'.nx/\∀t,getS s.sl t=getS s'.sl t
theorem Eqv.refl (s:St):Eqv s s:=⟨rfl,rfl,fun _=>rfl⟩
theorem Eqv.ev {s s' :St} (h:Eqv s s'):s.ev=s'.ev:=by
 funext x;cases x with
 |tmp t=>exact h.2.2 t
 |_=>rfl
theorem Eqv.put {s s' :St} (h:Eqv s s') (u:Hp) (nf:Nat) (d:Option Nat) (x:V):Eqv (St.put ⟨s.sl,u++s.h,s.nx+nf⟩ d x) (St.put ⟨s'.sl,u++s'.h,s'.nx+nf⟩ d x):=by
 obtain⟨h1,h2,h3⟩:=h;cases d with
 |none=>exact⟨by show u++s.h=u++s'.h;rw[h1],by show s.nx+nf=s'.nx+nf;rw[h2],h3⟩
 | some t=>exact⟨by show u++s.h=u++s'.h;rw[h1],by show s.nx+nf=s'.nx+nf;rw[h2],fun j=>by
   show(if j=t then x else getS s.sl j)=(if j=t then x else getS s'.sl j);rw[h3 j]⟩
theorem Eqv.wk {s s' :St} (h:Eqv s s'):Wk s s' :=by obtain⟨h1,h2,h3⟩:=h;obtain⟨sl,hh,nx⟩:=s;obtain⟨sl',hh',nx'⟩:=s';simp only at h1 h2 h3;subst h1;subst h2;intro T G0 w0 N a G w hR;exact⟨hR.fr,hR.wr,hR.df,hR.sz,fun t=>by have:=hR.sl t;rw[h3 t]at this;exact this,hR.ex⟩
theorem Wk.trans {a b c:St} (h:Wk a b) (h' :Wk b c):Wk a c:=fun T G0 w0 N x G w hR=>h' T G0 w0 N x G w (h T G0 w0 N x G w hR)
theorem kh5 {s:St} {u:Nat} {v:V} (h:getS s.sl u=v):Eqv s ⟨(u,v)::s.sl,s.h,s.nx⟩:=⟨rfl,rfl,fun t=>by
 show getS s.sl t=if t=u then v else getS s.sl t;by_cases e:t=u
 ·rw[qh e,e,h]
 ·rw[qe e]⟩
theorem opD_eqv {P:Program} {nb S k:Nat} {op:Op} {e:Eff} {s s' :St} (h:Eqv s s') (ho:opD P nb S k op e s'):opD P nb S k op e s:=by have e1:=h.ev;have e2:=h.1;unfold opD at ho ⊢;rw[e1,e2];exact ho
theorem k58 {P:Program} {N:Nat} {tb:List (Option Nat)} {nb S:Nat} {K K' :St->Prop} (hK:∀a b,Eqv a b->K b->K' a):∀(l:List Oper) (ws rs:List (Nat×Nat)) (k:Nat) (s s' :St),Eqv s s'->DOps P N tb nb S ws rs k l K s'->DOps P N tb nb S ws rs k l K' s
 |[],_,_,_,s,s',he,h=>hK s s' he h
 |o::l,ws,rs,k,s,s',he,h=>by
  obtain⟨e,h1,⟨h2,h3⟩,h4⟩:=h
  have hg:∀j,guardV s tb j=guardV s' tb j:=fun j=>by
   unfold guardV;split
   ·exact he.2.2 _
   ·rfl
  refine⟨e,⟨h1.1,h1.2.1,?_⟩,⟨by rw[he.1];exact h2,h3⟩,k58 hK l _ _ (k+1) _ _ ?_ h4⟩
  ·have h5:=h1.2.2;split
   ·rename_i hn;rw[hn]at h5;exact opD_eqv he h5
   ·rename_i j b hn;rw[hn]at h5;simp only at h5;rw[hg j];rcases h5 with h5|⟨t,q1,q2,q3⟩
    ·exact .inl h5
    ·exact .inr ⟨t,q1,fun ht=>opD_eqv he (q2 ht),q3⟩
  ·have:=he.put e.hu 0 e.d e.x;exact this
end Go.Bv
namespace Go.Cv
open Go Go.Bv Go.RowKit Go.Md
section
variable {T:Tab} {P:Program} {C:Cx T} {N:Nat}
def Xt (s t:TSt T.den):Prop:=(∃a,t.sl=a++s.sl)/\(∃b,t.h=b++s.h)/\s.nx<=t.nx
theorem Xt.refl (s:TSt T.den):Xt s s:=⟨⟨[],rfl⟩,⟨[],rfl⟩,qt _⟩
theorem Xt.trans {a b c:TSt T.den} (h:Xt a b) (h' :Xt b c):Xt a c:=by obtain⟨⟨x,hx⟩,⟨y,hy⟩,hn⟩:=h;obtain⟨⟨x',hx'⟩,⟨y',hy'⟩,hn'⟩:=h';exact⟨⟨x' ++x,by rw[hx',hx,qx]⟩,⟨y' ++y,by rw[hy',hy,qx]⟩,qbk hn hn'⟩
theorem Xt.put {s0 s:TSt T.den} (h:Xt s0 s) (hu:THp T.den) (nf:Nat) (d:Option Nat) (v:TV T.den):Xt s0 (TSt.put ⟨s.sl,hu++s.h,s.nx+nf⟩ d v):=by
 refine h.trans ?_;cases d with
 |none=>exact⟨⟨[],rfl⟩,⟨hu,rfl⟩,qef _ _⟩
 |some t=>exact⟨⟨[(t,v)],rfl⟩,⟨hu,rfl⟩,qef _ _⟩
theorem kmd {v:Value} (h:isUndef v=true):v=undef:=by
 cases v with
 |tuple a=>have ha:a= #[]:=qbq (nb_eq h);subst ha;rfl
 |_=>cases h
theorem knv {s:TSt T.den} {tb:List (Option Nat)} {j u:Nat} (h:slotOf tb j=some u):guardV (erS T s) tb j=er T (getT s.sl u):=by
 unfold slotOf at h;split at h
 ·rename_i t ht;injection h with h;subst h;unfold guardV;rw[ht];exact getS_er s.sl t
 ·cases h
theorem ke7 {s:TSt T.den} {tb:List (Option Nat)} {g:Option (Nat×Bool)} {run no:TSt T.den->Prop} (h:tGuard T s tb g run no):
  (g=none/\run s)∨∃j b,g=some (j,b)/\((guardV (erS T s) tb j= .k undef/\no s)∨∃(t:Bool) (s' :TSt T.den),guardV (erS T s) tb j= .d (.bool t)/\(Eqv (erS T s) (erS T s')/\Xt s s')/\((t=b/\run s')∨(t≠b/\no s'))):=by
 unfold tGuard at h;split at h
 ·exact .inl ⟨rfl,h⟩
 ·rename_i j b;refine .inr ⟨j,b,rfl,?_⟩;split at h
  ·exact h.elim
  ·rename_i u hu;have hs:=knv (s:=s) hu;split at h
   ·rename_i v hv;obtain⟨h1,h2⟩:=cnd h;rw[hv,kmd h1]at hs;exact .inl ⟨hs,h2⟩
   ·rename_i t hv;rw[hv]at hs;refine .inr ⟨t,s,hs,⟨Eqv.refl _,Xt.refl _⟩,?_⟩;cases ht:(t==b)with
    |true=>rw[ht]at h;exact .inl ⟨by simpa using ht,h⟩
    |false=>rw[ht]at h;exact .inr ⟨by simpa using ht,h⟩
   ·rename_i t hv;rw[hv]at hs;obtain⟨h1,h2⟩:=h;cases t with
    |true=>
     have h1:=h1 rfl;refine .inr ⟨true,⟨(u,.lit true)::s.sl,s.h,s.nx⟩,hs,⟨kh5 (s:=erS T s) (u:=u) (v:=er T (.lit true)) (by rw[show getS (erS T s).sl u=er T (getT s.sl u)from getS_er s.sl u,hv];rfl),⟨[_],rfl⟩,⟨[],rfl⟩,qt _⟩,?_⟩;cases b with
     |true=>exact .inl ⟨rfl,h1⟩
     |false=>exact .inr ⟨qqd,h1⟩
    |false=>
     have h2:=h2 rfl;refine .inr ⟨false,⟨(u,.lit false)::s.sl,s.h,s.nx⟩,hs,⟨kh5 (s:=erS T s) (u:=u) (v:=er T (.lit false)) (by rw[show getS (erS T s).sl u=er T (getT s.sl u)from getS_er s.sl u,hv];rfl),⟨[_],rfl⟩,⟨[],rfl⟩,qt _⟩,?_⟩;cases b with
     |true=>exact .inr ⟨qqd,h2⟩
     |false=>exact .inl ⟨rfl,h2⟩
   ·exact h.elim
theorem k65 (hT:T.Ok) (hC:C.Ok P T) {Tk:Tk} {G0:Gh} {w0:World} {ops:List Oper} {Q:Exit->Act->World->Prop}:∀(l:List Oper) (K:TSt T.den->Prop) (s0 s:TSt T.den) (a:Act) (G:Gh) (w:World),Xt s0 s->R Tk G0 w0 N (erS T s) a G w->tOps T C N (ops.map (·.dst)) l s K->
  (∀s' a' G' w',K s'->Xt s0 s'->R Tk G0 w0 N (erS T s') a' G' w'->Q .normal a' w')->wpList P ops.toArray Q l a w
 |[],K,s0,s,a,G,w,hx,hR,hk,hQ=>hQ _ _ _ _ hk hx hR
 |o::r,K,s0,s,a,G,w,hx,hR,hk,hQ=>by
  refine wpList_step fun K1 hK1=> ?_;simp only[tOps]at hk;obtain⟨hd,hk⟩:=cnd hk;have hdo:=dstB_ok hd;have rest:∀s' a' G' w',tOps T C N (ops.map (·.dst)) r s' K->Xt s0 s'->R Tk G0 w0 N (erS T s') a' G' w'->K1 a' w' :=fun s' a' G' w' h1 hx h2=>hK1 _ _ (k65 hT hC r K s0 s' a' G' w' hx h2 h1 hQ);have run:∀s' :TSt T.den,Xt s0 s'->R Tk G0 w0 N (erS T s') a G w->tStep T C (rwB C.rw o.dst) s' (fun v hu nf=>tOps T C N (ops.map (·.dst)) r (TSt.put ⟨s'.sl,hu++s'.h,s'.nx+nf⟩ o.dst v) K) o.op->o.wp P a w K1 (fun e a w=>Q e a w):=by intro s' hx' hR' hs;refine kpe hR' (kl9 hT hC hd hs) ?_;rintro s1 a' G' w' ⟨v,hu,nf,h1,h2⟩ hR1;exact rest _ a' G' w' h1 (hx'.put _ _ _ _) (h2 _ _ _ _ _ _ _ hR1)
  have no:∀s' :TSt T.den,Xt s0 s'->R Tk G0 w0 N (erS T s') a G w->tOps T C N (ops.map (·.dst)) r (s'.put o.dst (.k undef)) K->K1 (a.put o.dst undef) w:=by intro s' hx' hR' hs;refine rest _ _ G w hs (hx'.put [] 0 _ _) ?_;rw[erS_put];exact hR'.put (.k _) o.dst (fun u hu=>by rw[hu]at hdo;exact hdo)
  rcases ke7 hk with⟨hg,h1⟩|⟨j,b,hg,⟨h1,h2⟩|⟨t,s',h1,he,⟨htb,h2⟩|⟨htb,h2⟩⟩⟩
  ·rw[qh (by simp[Region.wanted,hg])];exact run s hx hR h1
  ·have hy:=ket hR h1;rw[qe (by simp[Region.wanted,hg,hy])];exact no s hx hR h2
  ·have hy:=k6d hR h1;rw[qh (by simp[Region.wanted,hg,hy,htb])];exact run s' (hx.trans he.2) (he.1.wk _ _ _ _ _ _ _ hR) h2
  ·have hy:=k6d hR h1;rw[qe (by simp[Region.wanted,hg,hy,htb])];exact no s' (hx.trans he.2) (he.1.wk _ _ _ _ _ _ _ hR) h2
theorem klq (hT:T.Ok) (hC:C.Ok P T) {Tk:Tk} {G0:Gh} {w0:World} {ops:List Oper} {Q:Exit->Act->World->Prop} (l:List Oper) (K:TSt T.den->Prop) (s:TSt T.den) (a:Act) (G:Gh) (w:World) (hR:R Tk G0 w0 N (erS T s) a G w) (h:tOps T C N (ops.map (·.dst)) l s K)
  (hQ:∀s' a' G' w',K s'->R Tk G0 w0 N (erS T s') a' G' w'->Q .normal a' w'):wpList P ops.toArray Q l a w:=k65 hT hC l K s s a G w (Xt.refl s) hR h fun s' a' G' w' h1 _ h2=>hQ s' a' G' w' h1 h2
theorem knp {k:IntKind} {zs:List V} {e:Ty} (he:e.prim=true) (h:leL zs ((T.e e (T.dflt e)).cells.map .d)):zs=(T.e e (T.dflt e)).cells.map .d:=by
 have key:∀d:D,(∀s l,d≠ .slice s l)->leL zs [.d d]->zs=[.d d]:=by
  clear h;intro d hd hl
  match zs,hl with
  |[z],hl=>
   have h1:le1 z (.d d):=hl.1.1
   have:z= .d d:=by
    unfold le1 at h1;split at h1
    ·rename_i hq;cases hq
    ·rename_i hq;injection hq with hq;exact(hd _ _ hq).elim
    ·rename_i hq;injection hq with hq;exact(hd _ _ hq).elim
    ·rename_i hq;injection hq with hq;exact(hd _ _ hq).elim
    ·rename_i hq;cases hq
    ·rename_i hq;cases hq
    ·exact h1
   rw[this]
  |[],hl=>exact hl.elim
  |_::_::_,hl=>exact hl.2.elim
 cases e with
 |int k=>exact key _ (fun _ _ h=>by cases h) h
 |bool=>exact key _ (fun _ _ h=>by cases h) h
 |str=>exact key _ (fun _ _ h=>by cases h) h
 |_=>cases he
theorem ko7 (hT:T.Ok) (hC:C.Ok P T) {nb S k:Nat} {s:TSt T.den} {K:TV T.den->THp T.den->Nat->Prop} {op:Op} {rw:Bool} (d:Option Nat) (h:tOp T C true rw (frs nb S k) s K op):
  ∃v hu nf,K v hu nf/\(nf<=S->opD P nb S k op ⟨d,er T v,erH T hu,rdT T s op⟩ (erS T s)):=by
 have quiet:∀op,(∀t a,op≠ .load t a)->tq T C.ti s (fun v=>K v [] 0) op->∃v hu nf,K v hu nf/\avOk P [] (erS T s).ev op/\er T v=av P [] (erS T s).ev op/\erH T hu=[]:=by intro op hl h;obtain⟨u,h1,h2,h3⟩:=tq_snd hT hC.ti h;obtain⟨q1,q2⟩:=av_h (P:=P) (ev:=(erS T s).ev) (op:=op) (erS T s).h hl;exact⟨u,[],0,h1,by rw[<-q2];exact h2,by rw[<-q1,h3],rfl⟩
 cases op with
 |alloc t=>
  simp only[tOp]at h;split at h
  ·rename_i z hz;obtain⟨q1,q2⟩:=(hC.ti.of t).ze z hz;refine⟨_,_,_,h,fun hs=>⟨by rw[q1];rfl,by omega,rfl,?_⟩⟩;have:zeroD P t=z.map (er1 T):=by unfold zeroD;rw[q1];rfl
   rw[this];rfl
  ·exact h.elim
 |box t x=>simp only[tOp]at h;obtain⟨h1,h2⟩:=cnd h;obtain⟨c1,c2⟩:=k4n h1;refine⟨_,_,_,h2,fun hs=>⟨⟨_,by rw[ev_er];exact c2⟩,by omega,rfl,?_⟩⟩;rw[ev_er,c1];rfl
 |store t a x=>
  simp only[tOp]at h;obtain⟨id,off,l,g,n,o,h1,h2,h3,h4,h5,h6,h7⟩:=kdk hT (hC.ti.of t) h;rcases h7 with h7|⟨h7,_⟩
  ·refine⟨_,_,_,h1,fun _=>⟨id,off,l,g,n,by rw[ev_er];exact h2,h3,h4,by rw[ev_er];exact h5,h6,rfl,?_⟩⟩;rw[ev_er];show [(id,erO T o)]=_;rw[h7]
  ·cases h7
 |build t parts=>
  simp only[tOp]at h;split at h
  ·rename_i z hz;obtain⟨q1,q2⟩:=(hC.ti.of t).ze z hz;cases hp:(TI.of C.ti t).pl.isEmpty with
   |true=>rw[hp]at h;exact h.elim
   |false=>
    rw[hp]at h;have hpl:=(hC.ti.of t).pl (fun e=>by rw[e]at hp;cases hp);obtain⟨l',g1,g2,g3⟩:=kac _ _ h;have e1:zeroD P t=z.map (er1 T):=by unfold zeroD;rw[q1];rfl
    have e2:plD P t=(TI.of C.ti t).pl:=by unfold plD;rw[hpl];rfl
    have e3:(parts.toList.map fun p=>(p.1,(erS T s).ev p.2))=(parts.toList.map fun p=>(p.1,s.ev p.2)).map fun p=>(p.1,er T p.2):=by rw[qbi];exact qar fun p _=>by simp only[Function.comp,ev_er]
    refine⟨_,_,_,g1,fun _=>⟨by rw[hpl];rfl,by rw[q1];rfl,?_,?_,rfl⟩⟩
    ·rw[e1,e2,e3];exact g2
    ·rw[e1,e2,e3,g3];rfl
  ·exact h.elim
 |buildSlice t n parts=>
  simp only[tOp]at h;split at h
  ·rename_i e bt hel;split at h
   ·rename_i l hl;obtain⟨h1,h2⟩:=cnd h;have e3:(parts.toList.map fun p=>(erS T s).ev p.2)=(parts.toList.map fun p=>s.ev p.2).map (er T):=by rw[qbi];exact qar fun p _=>by simp only[Function.comp,ev_er]
    obtain⟨⟨k1,k2,k3,k4,k5⟩,k6⟩:=k5s hT (hC.ti.of t) hel (is:=parts.toList.map (·.1)) hl (by rw[qm];exact h1) qqs;rw[<-e3]at k3 k4 k6;cases rw with
    |false=>simp only[qbt]at h2;exact⟨_,_,_,h2,fun _=>⟨⟨k1,k2,k3,k4,k5⟩,by omega,.inl ⟨k6.symm,rfl⟩⟩⟩
    |true=>
     simp only[qdf]at h2;refine⟨_,_,_,h2,fun _=>⟨⟨k1,k2,k3,k4,k5⟩,by omega,.inr ?_⟩⟩;have k7:V.full (rowD P t).1 ((toDs (parts.toList.map fun p=>(erS T s).ev p.2)).getD [])=V.full (T.sz e) (l.map (T.e e)):=k6;injection k7 with k8 k9;simp only[qg]at h1;have hn:n=l.length:=by rw[nb_eq h1.1.2,(toEls_D hT hl h1.1.1.1).2,qm]
     rw[k8,k9,hn];exact⟨rfl,rfl⟩
   ·exact h.elim
  ·exact h.elim
 |mapUpdate t m i y=>simp only[tOp]at h;obtain⟨id,o,es',h1,h2,h3⟩:=knd hT (hC.ti.of t) h;refine⟨_,_,_,h1,fun _=>⟨id,es',h3,rfl,?_⟩⟩;show [(id,erO T o)]=_;rw[h2]
 |lookup t x i c=>
  simp only[tOp]at h;obtain⟨v,h1,h2⟩:=kgb hT (hC.ti.of t) h;refine⟨v,[],0,h1,fun _=>⟨h2,fun id hid=> ?_,rfl⟩⟩;rw[ev_er]at hid;show id∈rdT T s (.lookup t x i c);unfold rdT;cases hv:s.ev x with
  |mp id' =>
   rw[hv]at hid;have:id' =id:=by injection hid
   subst this;show id'∈(match s.ev x with| .mp id=>[id]|_=>[]);rw[hv];simp
  |any=>rw[hv]at hid;cases hid
  |k v=>rw[hv]at hid;cases hid
  |lit b=>rw[hv]at hid;cases hid
  |d t y=>rw[hv]at hid;cases hid
  |full e l=>rw[hv]at hid;cases hid
  |own a e l=>rw[hv]at hid;cases hid
  |ptr a b=>rw[hv]at hid;cases hid
  |aptr a b c d=>rw[hv]at hid;cases hid
  |ro l=>rw[hv]at hid;cases hid
  |row a b c=>rw[hv]at hid;cases hid
  |view a b c d=>rw[hv]at hid;cases hid
  |eptr a b c d=>rw[hv]at hid;cases hid
  |clo a b c=>rw[hv]at hid;cases hid
  |agg l=>rw[hv]at hid;cases hid
  |tup l=>rw[hv]at hid;cases hid
 |makeSlice t l c=>
  simp only[tOp,Bool.true_and]at h;cases hb:noPrim (TI.of C.ti t).el with
  |true=>rw[hb]at h;exact h.elim
  |false=>
   rw[hb]at h;simp only[qbt,tMake]at h;split at h
   ·rename_i e bt q n q' m hel hez hxi hyi;rw[hel]at hb;have hpr:e.prim=true:=by simpa[noPrim]using hb
    obtain⟨h1,h2,h3⟩:=h;obtain⟨h3,h4⟩:=ask_and h3;obtain⟨h4,h5⟩:=ask_and h4;have hrow:=((hC.ti.of t).el _ _ hel).2;have hrd:rowD P t=(T.sz e,bt):=by unfold rowD;rw[hrow];rfl
    obtain⟨zs,z1,z2⟩:=(hC.ti.of t).ez hez e bt hel;have hzs:=knp (k:= .i64) hpr z2;have ex:(erS T s).ev l= .d (.int q n):=by rw[ev_er,asI_eq hxi];rfl
    have ey:(erS T s).ev c= .d (.int q' m):=by rw[ev_er,asI_eq hyi];rfl
    refine⟨_,_,_,h5,fun hs=>⟨?_,by omega,?_,?_⟩⟩
    ·rw[ex,ey];exact⟨⟨by rw[hrow];rfl,by rw[z1];rfl⟩,h1,h2,by rw[hrd];exact h3,h4⟩
    ·rw[ex,hrd];rfl
    ·rw[ex];show [(_,Ob.cells _)]=[(_,Ob.cells _)];have:elZD P t=zs:=by unfold elZD;rw[z1];rfl
     rw[this,zrow_eq,k9d,hzs];rfl
   ·exact h.elim
 |call c=>
  obtain⟨callee,args,argTypes⟩:=c;cases callee with
  |builtin b=>
   cases b with
   |append=>
    simp only[tOp]at h;obtain⟨h1,h2⟩:=cnd h;simp only[qg]at h1;rcases k8h (P:=P) hT (hC.ti.of _) h2 with⟨v,hu,hk,ha⟩|⟨e,bt,m,hel,hm,h2⟩
    ·refine⟨v,hu,1,hk,fun hs=>⟨⟨nb_eq h1.1.1,nb_eq h1.1.2,nb_eq h1.2⟩,.inr ⟨by omega,?_,fun id off n z hid=> ?_⟩⟩⟩
     ·show appRowE P _ _ _ ((erS T s).ev _) ((erS T s).ev _) _ _;rw[ev_er,ev_er];exact ha
     ·have hid:(erS T s).ev (args.getD 1 (.const .nilIface))= .row id off n z:=hid;rw[ev_er]at hid;show id∈(match s.ev (args.getD 1 (.const .nilIface))with| .row id _ _=>[id]| .view id _ _ _=>[id]|_=>[]);generalize s.ev (args.getD 1 (.const .nilIface))=y at hid;cases y<;>first|cases hid|skip
      ·simp
      ·simp
    have hrow:=((hC.ti.of _).el _ _ hel).2;obtain⟨y1,y2⟩:=k4p hm;unfold tAppOwn at h2;split at h2
    ·rename_i tok e0 l0 hx;split at h2
     ·rename_i e1 l' hg;split at h2
      ·rename_i l hl;obtain⟨k1,k2,k3,k4⟩:=h2;obtain⟨c1,c2,c3⟩:=km hl;have ex:(erS T s).ev (args.getD 0 (.const .nilIface))= .own tok (T.sz e) (l.map (T.e e)):=by rw[ev_er];have:s.ev (args.getD 0 (.const .nilIface))= .own tok e0 l0:=hx;rw[this];show V.own tok (T.sz e0) (l0.map (T.e e0))=_;rw[c1,c2]
       have ey:((erS T s).ev (args.getD 1 (.const .nilIface))).elsD (T.sz e)=m.map (T.e e):=by rw[ev_er];exact y1
       refine⟨_,_,_,k4,fun _=>⟨⟨nb_eq h1.1.1,nb_eq h1.1.2,nb_eq h1.2⟩,.inl ⟨tok,T.sz e,bt,l.map (T.e e),hrow,ex,?_,by rw[ev_er];exact y2,?_,?_,?_,?_⟩⟩⟩
       ·show(erH T s.h).get tok=_;rw[getH_er,hg,qm,<-k1];rfl
       ·rw[ey];simp only[qm];exact k2
       ·rw[ey];simp only[qm];exact k3
       ·rw[ey,<-qbm];rfl
       ·rw[ey];show [(tok,Ob.tip (l++m).length)]=_;rw[qj,qm,qm]
      ·exact h2.elim
     ·exact h2.elim
    ·split at h2
     ·rename_i hh _;cases hh
     ·exact h2.elim
    ·exact h2.elim
    ·exact h2.elim
   |len=>obtain⟨v,hu,nf,g1,g2,g3,g4⟩:=quiet (.call ⟨.builtin .len,args,argTypes⟩) (fun _ _ h=>by cases h) h;exact⟨v,hu,nf,g1,fun _=>⟨g2,g3,g4⟩⟩
   |min=>obtain⟨v,hu,nf,g1,g2,g3,g4⟩:=quiet (.call ⟨.builtin .min,args,argTypes⟩) (fun _ _ h=>by cases h) h;exact⟨v,hu,nf,g1,fun _=>⟨g2,g3,g4⟩⟩
   |max=>obtain⟨v,hu,nf,g1,g2,g3,g4⟩:=quiet (.call ⟨.builtin .max,args,argTypes⟩) (fun _ _ h=>by cases h) h;exact⟨v,hu,nf,g1,fun _=>⟨g2,g3,g4⟩⟩
   |_=>exact(show False from h).elim
  |value f=>
   simp only[tOp]at h;split at h
   ·rename_i g hf;have hev:(erS T s).ev f= .k (.func (.func g) #[] #[]):=by rw[ev_er,fnOf_eq hf];rfl
    have ea:args.toList.map (erS T s).ev=(args.toList.map s.ev).map (er T):=by rw[qbi];exact qar fun p _=>by simp only[Function.comp,ev_er]
    split at h
    ·rename_i x hx;obtain⟨m1,m2⟩:=k95 hx;split at h
     ·rename_i i hi;obtain⟨h1,h2⟩:=h;have:=tX_snd (hC.xs x m1) hi h1;rw[m2,<-ea]at this;exact⟨_,_,_,h2,fun _=> .inl ⟨g,_,hev,this,rfl,rfl⟩⟩
     ·exact h.elim
    ·obtain⟨c,m1,m2,m3⟩:=k2q h;obtain⟨xs,pre,r,post,ids,v,hu,nf,k1,k2,k3,k4,k5,k6,k7,k8,k9,k10,k11,_⟩:=k5r hT (hC.cs c m1) m3;have hcl:=(hC.cs c m1).cl;rw[m2]at hcl k2;rw[<-ea]at k6;exact⟨v,hu,nf,k1,fun hs=> .inr ⟨g,xs,pre,r,post,ids,by rw[hev];rfl,⟨hcl.1,hcl.2,k2⟩,k3,k4,k5,by rw[hev];exact k6,k7,⟨by omega,k11 rfl⟩,k8,k9⟩⟩
   ·split at h
    ·rename_i g hg;obtain⟨q1,q2⟩:=fnTG_eq hg;have ea:args.toList.map (erS T s).ev=(args.toList.map s.ev).map (er T):=by rw[qbi];exact qar fun p _=>by simp only[Function.comp,ev_er]
     obtain⟨c,m1,m2,m3⟩:=k2q h;obtain⟨xs,pre,r,post,ids,v,hu,nf,k1,k2,k3,k4,k5,k6,k7,k8,k9,k10,k11,_⟩:=k5r hT (hC.cs c m1) m3;have hcl:=(hC.cs c m1).cl;rw[m2]at hcl k2;rw[q2,<-ea,<-ev_er]at k6;exact⟨v,hu,nf,k1,fun hs=> .inr ⟨g,xs,pre,r,post,ids,by rw[ev_er];exact q1,⟨hcl.1,hcl.2,k2⟩,k3,k4,k5,k6,k7,⟨by omega,k11 rfl⟩,k8,k9⟩⟩
    ·exact h.elim
  |_=>exact(show False from h).elim
 |load t a=>
  obtain⟨u,h1,h2,h3⟩:=tq_snd hT hC.ti (op:= .load t a) h;refine⟨u,[],0,h1,fun _=>⟨h2,fun id off he=> ?_,h3.symm,rfl⟩⟩;rw[ev_er]at he;show id∈(match s.ev a with| .ptr id _=>[id]| .aptr id _ _ _=>[id]| .eptr id _ _ _=>[id]|_=>[]);generalize s.ev a=v at he;cases v with
  |ptr i o=>injection he with he;subst he;simp
  |aptr i o n j=>injection he with he;subst he;simp
  |eptr i o n j=>injection he with he;subst he;simp
  |_=>cases he
 |makeFunc a b c=>obtain⟨v,hu,nf,g1,g2,g3,g4⟩:=quiet (.makeFunc a b c) (fun _ _ h=>by cases h) h;exact⟨v,hu,nf,g1,fun _=>⟨g2,g3,g4⟩⟩
 |move x=>obtain⟨v,hu,nf,g1,g2,g3,g4⟩:=quiet (.move x) (fun _ _ h=>by cases h) h;exact⟨v,hu,nf,g1,fun _=>⟨g2,g3,g4⟩⟩
 |assign x=>obtain⟨v,hu,nf,g1,g2,g3,g4⟩:=quiet (.assign x) (fun _ _ h=>by cases h) h;exact⟨v,hu,nf,g1,fun _=>⟨g2,g3,g4⟩⟩
 |pick c a b=>obtain⟨v,hu,nf,g1,g2,g3,g4⟩:=quiet (.pick c a b) (fun _ _ h=>by cases h) h;exact⟨v,hu,nf,g1,fun _=>⟨g2,g3,g4⟩⟩
 |fieldAddr t x f=>obtain⟨v,hu,nf,g1,g2,g3,g4⟩:=quiet (.fieldAddr t x f) (fun _ _ h=>by cases h) h;exact⟨v,hu,nf,g1,fun _=>⟨g2,g3,g4⟩⟩
 |field t x f=>obtain⟨v,hu,nf,g1,g2,g3,g4⟩:=quiet (.field t x f) (fun _ _ h=>by cases h) h;exact⟨v,hu,nf,g1,fun _=>⟨g2,g3,g4⟩⟩
 |indexAddr t x i=>obtain⟨v,hu,nf,g1,g2,g3,g4⟩:=quiet (.indexAddr t x i) (fun _ _ h=>by cases h) h;exact⟨v,hu,nf,g1,fun _=>⟨g2,g3,g4⟩⟩
 |index t x i=>obtain⟨v,hu,nf,g1,g2,g3,g4⟩:=quiet (.index t x i) (fun _ _ h=>by cases h) h;exact⟨v,hu,nf,g1,fun _=>⟨g2,g3,g4⟩⟩
 |extract x i=>obtain⟨v,hu,nf,g1,g2,g3,g4⟩:=quiet (.extract x i) (fun _ _ h=>by cases h) h;exact⟨v,hu,nf,g1,fun _=>⟨g2,g3,g4⟩⟩
 |binOp op t x y t' =>obtain⟨v,hu,nf,g1,g2,g3,g4⟩:=quiet (.binOp op t x y t') (fun _ _ h=>by cases h) h;exact⟨v,hu,nf,g1,fun _=>⟨g2,g3,g4⟩⟩
 |unOp op t x=>obtain⟨v,hu,nf,g1,g2,g3,g4⟩:=quiet (.unOp op t x) (fun _ _ h=>by cases h) h;exact⟨v,hu,nf,g1,fun _=>⟨g2,g3,g4⟩⟩
 |convert a b x=>obtain⟨v,hu,nf,g1,g2,g3,g4⟩:=quiet (.convert a b x) (fun _ _ h=>by cases h) h;exact⟨v,hu,nf,g1,fun _=>⟨g2,g3,g4⟩⟩
 |slice t x lo hi mx=>obtain⟨v,hu,nf,g1,g2,g3,g4⟩:=quiet (.slice t x lo hi mx) (fun _ _ h=>by cases h) h;exact⟨v,hu,nf,g1,fun _=>⟨g2,g3,g4⟩⟩
 |nilCheck x=>obtain⟨v,hu,nf,g1,g2,g3,g4⟩:=quiet (.nilCheck x) (fun _ _ h=>by cases h) h;exact⟨v,hu,nf,g1,fun _=>⟨g2,g3,g4⟩⟩
 |_=>exact(show False from h).elim
theorem k71 {af:Array Edge} {id:Nat}:∀{ws:List (Nat×Nat)},wsB af id ws=true->wsL ws af id
 |[],_,p,hp,_=>by cases hp
 |q::r,h,p,hp,he=>by
  simp only[wsB,qg,qcv,qbe]at h;rcases qam.1 hp with rfl|hp
  ·rcases h.1 with h1|h1
   ·rw[he,nb_self]at h1;cases h1
   ·exact h1
  ·exact k71 h.2 p hp he
theorem kju {ws:List (Nat×Nat)} {af:Array Edge}:∀{ids:List Nat},rdB ws af ids=true->rdOk ws af ids
 |[],_,id,h=>by cases h
 |i::r,h,id,hi=>by
  simp only[rdB,qg]at h;rcases qam.1 hi with rfl|hi
  ·exact k71 h.1
  ·exact kju h.2 id hi
theorem kin {nb S k:Nat} {ws rs:List (Nat×Nat)} {af:Array Edge} {h:THp T.den}:∀{ids:List Nat},wrB T nb S k ws rs af h ids=true->wrOk nb S k ws rs af (erH T h) ids
 |[],_,id,h=>by cases h
 |i::r,hh,id,hi=>by
  simp only[wrB,qg,qcv]at hh;obtain⟨⟨⟨⟨h1,h2⟩,h3⟩,h4⟩,h5⟩:=hh;rcases qam.1 hi with rfl|hi
  ·refine⟨k71 h1,k71 h2,blt_lt h3,?_⟩;rcases h4 with h4|h4
   ·exact .inl (ble_le h4)
   ·refine .inr ?_;rw[getH_er,Option.isSome_map];exact h4
  ·exact kin h5 id hi
theorem keys_er (h:THp T.den):keys (erH T h)=keysT T h:=by unfold keys erH keysT;rw[qbi];rfl
def KE (K:TSt T.den->Prop) (s:St):Prop:=∃t,K t/\Wk s (erS T t)
theorem k4c (hT:T.Ok) (hC:C.Ok P T) {tb:List (Option Nat)} {nb S:Nat} {K:TSt T.den->Prop} {s0:TSt T.den}:∀(l:List Oper) (ws rs:List (Nat×Nat)) (k:Nat) (s:TSt T.den),Xt s0 s->tDs T C N tb nb S l ws rs k s K->DOps P N tb nb S ws rs k l (KE fun t=>K t/\Xt s0 t) (erS T s)
 |[],ws,rs,k,s,hx,h=>⟨s,⟨h,hx⟩,Wk.refl _⟩
 |o::r,ws,rs,k,s,hx,h=>by
  have hcl:∀a b:St,Eqv a b->KE (fun t=>K t/\Xt s0 t) b->KE (fun t=>K t/\Xt s0 t) a:=fun a b he ⟨t,h1,h2⟩=>⟨t,h1,he.wk.trans h2⟩;simp only[tDs]at h;obtain⟨hd,h⟩:=cnd h;have hdo:=dstB_ok hd
  have run:∀s' :TSt T.den,Xt s0 s'->(bif rdB ws o.after (rdT T s' o.op)then tOp T C true (rwB C.rw o.dst) (frs nb S k) s' (fun v hu nf=>bif Nat.ble nf S&&wrB T nb S k ws rs o.after s'.h (keysT T hu)then
     tDs T C N tb nb S r ((keysT T hu).map (·,k)++ws) ((rdT T s' o.op).map (·,k)++rs) (k+1) (TSt.put ⟨s'.sl,hu++s'.h,s'.nx⟩ o.dst v) K else False) o.op else False)->
    ∃e:Eff,(e.d=o.dst/\opD P nb S k o.op e (erS T s'))/\(wrOk nb S k ws rs o.after (erS T s').h (keys e.hu)/\rdOk ws o.after e.rd)/\DOps P N tb nb S ((keys e.hu).map (·,k)++ws) (e.rd.map (·,k)++rs) (k+1) r (KE fun t=>K t/\Xt s0 t) (e.app (erS T s')):=by
   intro s' hx' hr;obtain⟨hr1,hr2⟩:=cnd hr;obtain⟨v,hu,nf,k1,k2⟩:=ko7 hT hC o.dst hr2;obtain⟨k3,k4⟩:=cnd k1;simp only[qg]at k3;refine⟨_,⟨rfl,k2 (ble_le k3.1)⟩,⟨?_,kju hr1⟩,?_⟩
   ·rw[keys_er];exact kin k3.2
   ·have:=k4c hT hC r _ _ (k+1) _ (hx'.put (nf:=0) _ _ _) k4;rw[keys_er];have e:(Eff.app ⟨o.dst,er T v,erH T hu,rdT T s' o.op⟩ (erS T s'))=erS T (TSt.put ⟨s'.sl,hu++s'.h,s'.nx⟩ o.dst v):=by rw[erS_put];show St.put ⟨_,erH T hu++erH T s'.h,_⟩ o.dst _=St.put ⟨_,erH T (hu++s'.h),_⟩ o.dst _;rw[erH_app];rfl
    rw[e];exact this
  have no:∀s' :TSt T.den,Xt s0 s'->tDs T C N tb nb S r ws rs (k+1) (s'.put o.dst (.k undef)) K->∃e:Eff,(e.d=o.dst/\e.x= .k undef/\e.hu=[])/\(wrOk nb S k ws rs o.after (erS T s').h (keys e.hu)/\rdOk ws o.after e.rd)/\DOps P N tb nb S ((keys e.hu).map (·,k)++ws) (e.rd.map (·,k)++rs) (k+1) r (KE fun t=>K t/\Xt s0 t) (e.app (erS T s')):=by intro s' hx' hr;have:=k4c hT hC r _ _ (k+1) _ (hx'.put [] 0 _ _) hr;rw[erS_put]at this;exact⟨⟨o.dst,.k undef,[],[]⟩,⟨rfl,rfl,rfl⟩,⟨fun _ h=>(by cases h),fun _ h=>(by cases h)⟩,this⟩
  have back:∀s' :TSt T.den,Eqv (erS T s) (erS T s')->∀e:Eff,(wrOk nb S k ws rs o.after (erS T s').h (keys e.hu)/\rdOk ws o.after e.rd)/\DOps P N tb nb S ((keys e.hu).map (·,k)++ws) (e.rd.map (·,k)++rs) (k+1) r (KE fun t=>K t/\Xt s0 t) (e.app (erS T s'))->
    (wrOk nb S k ws rs o.after (erS T s).h (keys e.hu)/\rdOk ws o.after e.rd)/\DOps P N tb nb S ((keys e.hu).map (·,k)++ws) (e.rd.map (·,k)++rs) (k+1) r (KE fun t=>K t/\Xt s0 t) (e.app (erS T s)):=by
   rintro s' he e ⟨⟨h1,h2⟩,h3⟩;exact⟨⟨by rw[he.1];exact h1,h2⟩,k58 hcl r _ _ _ _ _ (he.put e.hu 0 e.d e.x) h3⟩
  rcases ke7 h with⟨hg,h1⟩|⟨j,b,hg,⟨h1,h2⟩|⟨t,s',h1,he,⟨htb,h2⟩|⟨htb,h2⟩⟩⟩
  ·obtain⟨e,⟨q1,q2⟩,q3,q4⟩:=run s hx h1;exact⟨e,⟨hdo,q1,by rw[hg];exact q2⟩,q3,q4⟩
  ·obtain⟨e,⟨q1,q2⟩,q3,q4⟩:=no s hx h2;exact⟨e,⟨hdo,q1,by rw[hg];exact .inl ⟨h1,q2⟩⟩,q3,q4⟩
  ·obtain⟨e,⟨q1,q2⟩,q3⟩:=run s' (hx.trans he.2) h2;obtain⟨q4,q5⟩:=back s' he.1 e q3;exact⟨e,⟨hdo,q1,by rw[hg];exact .inr ⟨t,h1,fun _=>opD_eqv he.1 q2,fun hn=>(hn htb).elim⟩⟩,q4,q5⟩
  ·obtain⟨e,⟨q1,q2⟩,q3⟩:=no s' (hx.trans he.2) h2;obtain⟨q4,q5⟩:=back s' he.1 e q3;exact⟨e,⟨hdo,q1,by rw[hg];exact .inr ⟨t,h1,fun hn=>(htb hn).elim,fun _=>q2⟩⟩,q4,q5⟩
theorem kmx (hT:T.Ok) (hC:C.Ok P T) {tb:List (Option Nat)} {nb S:Nat} {K:TSt T.den->Prop} (l:List Oper) (ws rs:List (Nat×Nat)) (k:Nat) (s:TSt T.den) (h:tDs T C N tb nb S l ws rs k s K):DOps P N tb nb S ws rs k l (KE K) (erS T s):=k58 (K:=KE fun t=>K t/\Xt s t) (fun a b he ⟨t,h1,h2⟩=>⟨t,h1.1,he.wk.trans h2⟩) l ws rs k _ _ (Eqv.refl _) (k4c hT hC l ws rs k s (Xt.refl s) h)
end
end Go.Cv
namespace Go.Bv
open Go.RowKit
section
variable {T:Tk} {G0 G:Gh} {w0 w:World} {N:Nat} {s:St} {a:Act}
theorem R.leRen {s' :St} {σ:Nat->Nat} (hR:R T G0 w0 N s a G w) (h0:T.nx<=s'.nx) (hσ0:∀i,i<T.nx->σ i=i) (hσ:∀i,i<s'.nx->σ i<s.nx)
  (hinj:∀i j,live s'.h i->live s'.h j->σ i=σ j->i=j)
  (hid:∀id ob,s'.h.get id=some ob->id<s'.nx/\obLe (s.h.get (σ id)) (renO σ ob)/\okO s'.nx ob)
  (hsl:∀t,getS s'.sl t= .any∨(Bv.le (getS s.sl t) (ren σ (getS s'.sl t))/\ok s'.nx (getS s'.sl t))):
  ∃G',R T G0 w0 N s' a G' w:=by
 have hw:=hR.wr;let G' :Gh:=⟨fun i=>G.loc (σ i),fun i=>G.tloc (σ i),G.lim⟩;have htip:∀i t,i<s'.nx->s'.h.get i=some (.tip t)->s.h.get (σ i)=some (.tip t):=fun i t _ hg=>k3n (hid i _ hg).2.1
 have hlive:∀i,live s'.h i->live s.h (σ i):=by
  intro i l;obtain⟨o,ho,hd⟩:=live_of l;have:=(hid i o ho).2.1;cases o with
  |cells l=>obtain⟨l0,h1,_⟩:=k27 this;exact kh h1
  |tip t=>exact k1b (k3n this)
  |map es=>exact k7u this
  |dead=>exact(hd rfl).elim
 refine⟨G',⟨⟨hR.fr.os,hR.fr.tape,hR.fr.output,hR.fr.size,hR.fr.same,hR.fr.mono⟩,
  ⟨?_,?_,fun id b hi hb=>hw.here (σ id) b (hσ id hi) hb,fun i j b hi hj h1 h2 l1 l2=>hinj i j l1 l2 (hw.inj (σ i) (σ j) b (hσ i hi) (hσ j hj) h1 h2 (hlive i l1) (hlive j l2)),fun id ob hg=>(hid id ob hg).1,hw.lim⟩,hR.df,hR.sz,fun t=> ?_,
  ⟨h0,fun id b hi hl=> ?_,fun tok t' ht hg=> ?_,hR.ex.csz⟩⟩⟩
 ·intro id l hg;obtain⟨g1,g2,g3⟩:=hid id _ hg;obtain⟨l0,hgt,g2⟩:=k27 g2;obtain⟨q1,q2,q3⟩:=k2g g2;rw[qm]at q1;rcases hw.obj (σ id) l0 hgt with⟨z1,z2⟩|⟨b,e,cs,k1,k2,k3,k4,k5,k6⟩
  ·exact .inl ⟨qac (by rw[z1]at q1;simpa using q1.symm),z2⟩
  exact .inr ⟨b,e,cs,k1,k2,k3,by omega,fun x hx=>by rw[<-k3o σ x];exact q2 _ (qag.2 ⟨x,hx,rfl⟩),fun j v x hv hx=>by
   have hj:j<l0.length:=by have:=(qf.1 hx).1;omega
   exact k40 (σ:=σ) (G:=G) (G' :=G') rfl (fun _ _=>rfl) (fun _ _=>rfl) htip ((k6 j v _ hv (qd hj)).le1 (q3 j _ (ren1 σ x) (qd hj) (by rw[ql,hx];rfl))) (k54 g3 j x hx)⟩
 ·intro id es hg;obtain⟨g1,g2,g3⟩:=hid id _ hg;have hr:=hw.mobLe g2
  have tr:∀{ms:List MapEntry} {l:List (D×V)},okM s'.nx l->EntR G w s.h s.nx ms (l.map fun e=>(e.1,ren0 σ e.2))->EntR G' w s'.h s'.nx ms l:=fun ho hl=>hl.tr qqs fun j e e' q1 q2=>by
   rw[ql,q2]at q1;obtain rfl:(e'.1,ren0 σ e'.2)=e:=by simpa using q1
   exact⟨renE_tup',fun _ k v r1 r2=>⟨r1,k24 (σ:=σ) (G:=G) (G' :=G') rfl (fun _ _=>rfl) (fun _ _=>rfl) htip r2 (k4s ho j e' q2)⟩⟩
  cases es with
  |m es=>obtain⟨b,clk,ms,k1,k2,k3,k4⟩:=hr;exact⟨b,clk,ms,k1,k2,tr g3 k3,k4⟩
  |it mid rest last=>obtain⟨b,bm,since,seen,c0,k1,k2,k3,k4,k5,k6⟩:=hr;refine⟨b,bm,since,seen,c0,k1,k2,g3.1,k4,k5,fun es hm=> ?_⟩;obtain⟨clk,ms,q1,q2,q3,q4⟩:=k6 _ (obLe_m (hid mid _ hm).2.1);refine⟨clk,ms,q1,q2,tr g3.2.1 q3,fun e hl=> ?_⟩;obtain⟨n1,m,seen0,n2,n3,n4,n5⟩:=q4 (e.1,ren0 σ e.2) (by rw[hl];rfl);exact⟨fun l hl=>by obtain⟨l',hl'⟩:=renE_tup' (σ:=σ) l hl;exact n1 l' hl',m,seen0,n2,n3,n4,k24 (σ:=σ) (G:=G) (G' :=G') rfl (fun _ _=>rfl) (fun _ _=>rfl) htip n5 (g3.2.2 e hl)⟩
 ·rcases hsl t with g|⟨g1,g2⟩
  ·rw[g];exact .any _
  ·exact kc1 (σ:=σ) (G:=G) (G' :=G') rfl (fun _ _=>rfl) (fun _ _=>rfl) htip ((hR.sl t).le g1) g2
 ·show G.loc (σ id)=some b;rw[hσ0 id hi];exact hR.ex.loc id b hi hl
 ·obtain⟨t,q1,q2,q3⟩:=hR.ex.tok tok t' ht (by have:=htip tok t' qqo hg;rw[hσ0 tok ht]at this;exact this);refine⟨t,q1,q2,fun e b hb=> ?_⟩;obtain⟨r1,r2,r3⟩:=q3 e b hb;exact⟨by show G.tloc (σ tok)=some b;rw[hσ0 tok ht];exact r1,r2,r3⟩
theorem R.trim (hR:R T G0 w0 N s a G w) {id:Nat} {l:List V} (hg:s.h.get id=some (.cells l)) (m:Nat):
  ∃G',R T G0 w0 N ⟨s.sl,(s.nx,.cells (l.take m))::(id,.dead)::s.h,s.nx+1⟩ a G' w/\
   ∀v n sz,RepV G' w ((s.nx,.cells (l.take m))::(id,.dead)::s.h) (s.nx+1) v (.row id 0 n sz)->RepV G' w ((s.nx,.cells (l.take m))::(id,.dead)::s.h) (s.nx+1) v (.row s.nx 0 n sz):=by
 obtain⟨G1,hR1,hG1⟩:=hR.raise 1;have hid:=hR.wr.hid _ _ hg
 have hn:s.h.get s.nx=none:=by
  cases hgn:s.h.get s.nx with
  |none=>rfl
  |some ob=>exact absurd (hR.wr.hid _ _ hgn) qqo
 obtain⟨G',h1,_,h3,_,h5⟩:=hR1.relabel (id:=id) (l:=l) hg m (k:=s.nx) (by show s.nx<s.nx+1;omega) (hG1 _ (qt _)).1 (hG1 _ (qt _)).2 hn;refine⟨G',h1,fun v n sz hv=> ?_⟩;have hl:G'.loc s.nx=G'.loc id:=by rw[h3,(h5 id qqo).1]
 cases hv with
 |row _ _ _ _ b o cap n0 q1 q2 q3 q4 q5 q6 q7=>exact .row _ _ _ _ b o cap n0 qqo (by rw[hl];exact q2) q3 q4 q5 q6 q7
 |rown A _ _ _ q1=>exact .rown A _ _ _ qqo
theorem R.rnil (hR:R T G0 w0 N s a G w):
  ∃G',R T G0 w0 N ⟨s.sl,(s.nx,.cells [])::s.h,s.nx+1⟩ a G' w/\
   ∀v x sz,emptyV sz x->RepV G' w ((s.nx,.cells [])::s.h) (s.nx+1) v x->RepV G' w ((s.nx,.cells [])::s.h) (s.nx+1) v (.row s.nx 0 0 sz):=by
 obtain⟨G1,hR1,hG1⟩:=hR.raise 1
 have hn:s.h.get s.nx=none:=by
  cases hgn:s.h.get s.nx with
  |none=>rfl
  |some ob=>exact absurd (hR.wr.hid _ _ hgn) qqo
 refine⟨G1,hR1.rowNil (k:=s.nx) (by show s.nx<s.nx+1;omega) (hG1 _ (qt _)).1 (hG1 _ (qt _)).2 hn,fun v x sz he hv=> ?_⟩;rcases he with rfl|rfl
 ·rw[hv.k_inv];exact .rown none _ _ _ qqo
 ·cases hv with|full A _ _ _=>exact .rown A _ _ _ qqo
end
end Go.Bv
namespace Go.Cv
open Go Go.Bv Go.RowKit Go.Md
def ups:Nat->Nat->List Nat
 |_,0=>[]
 |k,n+1=>k::ups (k+1) n
structure Dl where
 old:List Nat
 os:List OSh
 ts:List Nat
 ss:List Sh0
 dd:List Nat
abbrev Dl.hs (d:Dl):List Ty:=hsT d.ss (hsOs d.os)
def Dl.n (d:Dl):Nat:=d.os.length-d.old.length
def Dl.ids (d:Dl) (nx:Nat):List Nat:=d.old++ups nx d.n
inductive Nt where
 |no
 |r (n:Nat) (b:Nt)
 |nd (ga:List Gs) (a:Nt) (gb:List Gs) (b:Nt)
 |jn (d:Dl) (ga:List Gs) (a:Nt) (gb:List Gs) (b:Nt)
 |lp (g:List Gs) (d:Dl) (a:Nt)
 |rt (g:List Gs)
def Nt.ga:Nt->List Gs
 | .nd g _ _ _=>g
 | .jn _ g _ _ _=>g
 | .rt g=>g
 |_=>[]
def Nt.gb:Nt->List Gs
 | .nd _ _ g _=>g
 | .jn _ _ _ g _=>g
 |_=>[]
def Nt.a:Nt->Nt
 | .nd _ a _ _=>a
 | .jn _ _ a _ _=>a
 |_=> .no
def Nt.b:Nt->Nt
 | .nd _ _ _ b=>b
 | .jn _ _ _ _ b=>b
 | .r 0 b=>b
 | .r (n+1) b=> .r n b
 |_=> .no
def Ar (S:Nat->Type):List Ty->Type->Type
 |[],α=>α
 |t::r,α=>t.den S->Ar S r α
section
variable {S:Nat->Type}
def apA {α:Type}:(ts:List Ty)->Ar S ts α->HL S ts->α
 |[],f,_=>f
 |_::r,f,x=>apA r (f x.1) x.2
def cuA {α:Type}:(ts:List Ty)->(HL S ts->α)->Ar S ts α
 |[],f=>f ()
 |_::r,f=>fun x=>cuA r fun y=>f (x,y)
def alH:(ts:List Ty)->(HL S ts->Prop)->Prop
 |[],K=>K ()
 |t::r,K=>∀x:t.den S,alH r fun y=>K (x,y)
theorem ap_cu {α:Type}:∀(ts:List Ty) (f:HL S ts->α) (x:HL S ts),apA ts (cuA ts f) x=f x
 |[],_,_=>rfl
 |_::r,f,x=>ap_cu r (fun y=>f (x.1,y)) x.2
theorem alH_iff:∀{ts:List Ty} {K:HL S ts->Prop},alH ts K↔∀x,K x
 |[],_=>⟨fun h _=>h,fun h=>h ()⟩
 |_::r,_=>⟨fun h x=>alH_iff.1 (h x.1) x.2,fun h x=>alH_iff.2 fun y=>h (x,y)⟩
end
section
variable (T:Tab)
def Dl.f (d:Dl) (x:HL T.den d.hs):List (Option (TOb T.den)):=tkB d.os (drC d.os _ (drT d.ss _ x))
def Dl.fill (d:Dl) (s:TSt T.den) (x:HL T.den d.hs):TSt T.den:=⟨zipS T d.ts (tkT (sgs (d.ids s.nx)) (d.f T x) d.ss _ x).1++s.sl,hpN (sgs (d.ids s.nx)) 0 (tkC (sgs (d.ids s.nx)) (d.f T x) 0 d.os _ (drT d.ss _ x)).1++(d.dd.map fun i=>(i,TOb.dead))++s.h,s.nx+d.n⟩
def disB:List Nat->List Nat->Bool
 |[],_=>true
 |x::r,l=> !memB x l&&disB r l
def Dl.okB (d:Dl) (nx:Nat):Bool:=okTB d.os.length d.ss&&okOsB d.os.length d.os&&Nat.ble d.old.length d.os.length&&Nat.beq d.ts.length d.ss.length&&kindTB d.os d.ss&&kindOB d.os d.os&&nodupB (d.ids nx)&&allLt nx d.old&&allLt nx d.dd&&disB d.old d.dd
def pre {α:Type} (a b:List α):List α:=a.take (a.length-b.length)
def hasK:List (Nat×TV T.den)->Nat->Bool
 |[],_=>false
 |p::r,j=>Nat.beq j p.1||hasK r j
def chS (ts:List Nat) (sl:List (Nat×TV T.den)):List (Nat×TV T.den)->Bool
 |[]=>true
 |p::r=>(memB p.1 ts|| !hasK T sl p.1)&&chS ts sl r
def chH (d:Dl) (nx:Nat):THp T.den->Bool
 |[]=>true
 |p::r=>(memB p.1 d.old||memB p.1 d.dd||Nat.ble nx p.1)&&chH d nx r
def fixD (nx:Nat) (dd:List Nat):List Nat->List Nat->Bool
 |i::is,j::js=>(bif Nat.blt i nx then Nat.beq i j else Nat.ble nx j||memB j dd)&&fixD nx dd is js
 |[],[]=>true
 |_,_=>false
def idsO:Nat->List Nat->List (Nat×Nat)
 |_,[]=>[]
 |k,i::r=>(k,i)::idsO (k+1) r
def Dl.at (d:Dl) (nx:Nat) (s:TSt T.den):List Nat:=bdMs T s.h 0 d.os (d.ids nx) (idsO 0 d.old++bdT [] d.ss (d.ts.map (getT s.sl)))
def Dl.mat (d:Dl) (s0 s:TSt T.den) (K:HL T.den d.hs->Prop):Prop:=bif d.okB s0.nx&&chS T d.ts s0.sl (pre s.sl s0.sl)&&chH T d s0.nx (pre s.h s0.h)then
  (fcL (d.at T s0.nx s) fun ids=>bif nodupB ids&&allLt s.nx ids&&fixD s0.nx d.dd (d.ids s0.nx) ids then(match mtB s.h (sgs ids) 0 d.os with
   |some b=>mtC (sgs ids) (tkB d.os b) s.h 0 d.os (hsB d.os) b fun b' =>mtT (sgs ids) (tkB d.os b) d.ss (hsOs d.os) (d.ts.map (getT s.sl)) b' K
   |none=>False)else False)else False
def WQ (C:Cx T) (N:Nat):Code->Nt->TSt T.den->(Exit->TSt T.den->Prop)->Prop
 | .skip,_,s,Q=>Q .normal s
 | .region _ ops dr,_,s,Q=>regW T C N ops dr s (Q .normal)
 | .seq x y,.jn d ga a gb b,s,Q=>ghs T ga s fun s=>∀J:Ar T.den d.hs Prop,alH d.hs (fun i=>(ghs T gb (d.fill T s i) fun s' =>WQ C N y b s' Q)->apA d.hs J i)->WQ C N x a s (thenT T (fun s1=>d.mat T s s1 (apA d.hs J)) Q)
 | .seq x y,an,s,Q=>ghs T an.ga s fun s=>WQ C N x an.a s (thenT T (fun s' =>ghs T an.gb s' fun s' =>WQ C N y an.b s' Q) Q)
 | .cond c x y,an,s,Q=>match s.ev c with
  | .lit true=>ghs T an.ga s fun s=>WQ C N x an.a s Q
  | .lit false=>ghs T an.gb s fun s=>WQ C N y an.b s Q
  | .d .bool t=>(t=true->ghs T an.ga s fun s=>WQ C N x an.a s Q)/\(t=false->ghs T an.gb s fun s=>WQ C N y an.b s Q)
  |_=>False
 | .block id x,an,s,Q=>WQ C N x an s (blockT T id Q)
 | .loop x,.lp g d a,s,Q=>ghs T g s fun s=>d.mat T s s fun i0=>∃(inv:Ar T.den d.hs Prop) (μ:Ar T.den d.hs Nat),apA d.hs inv i0/\alH d.hs fun i=>apA d.hs inv i->WQ C N x a (d.fill T s i) (thenT T (fun s1=>d.mat T s s1 fun j=>apA d.hs inv j/\apA d.hs μ j<apA d.hs μ i) Q)
 | .exit id,_,s,Q=>Q (.exit id) s
 | .ret,an,s,Q=>ghs T an.ga s (Q .ret)
 | .label _,_,s,Q=>Q .normal s
 |_,_,_,_=>False
end
end Go.Cv
end
