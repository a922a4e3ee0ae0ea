/-
  Parts of the proofs that the laws of this seat hold of every input, merged by a program: a machine over pure data that is sound for the model, what each function of the translation does in it, and plain lemmas. No conditions but those in each theorem.
-/
import Derived.Test.YtcghahkoioeddaaGreatDoorProg
import Derived.WalkKit
import Derived.KernelRfl
import Derived.Laws.StructEq
import Derived.Laws.BytesArg
import Derived.MapKept
import Derived.Carry
import Derived.Maps.RangeRun
import Derived.Still
import Derived.IntWalk
import Derived.Laws.Externs
import Derived.Deep.Slices
import Derived.OpenShut
import Derived.ProofKit
import Derived.SizedLaws
import Derived.Sort.AssemblyPlain
import Derived.Deep.RegionLaw
import Derived.LaidMore
import Derived.LaidOnce
import Derived.SevenTiedAt
set_option linter.all false
namespace Go
abbrev qb := @of_decide_eq_true
abbrev qc := @of_decide_eq_false
abbrev qd := @List.getElem?_eq_getElem
abbrev qe := @if_neg
abbrev qf := @List.getElem?_eq_some_iff
abbrev qg := @Bool.and_eq_true
abbrev qh := @if_pos
abbrev qi := @Result.andThen_ok
abbrev qj := @List.length_append
abbrev ql := @List.getElem?_map
abbrev qm := @List.length_map
abbrev qn := @Int.eq_ofNat_of_zero_le
abbrev qo := @List.length_take
abbrev qp := @Sem.run_bind
abbrev qq := @True.intro
abbrev qr := @Int.toNat_natCast
abbrev qt := @Nat.le_refl
abbrev qu := @List.take_of_length_le
abbrev qv := @Option.map_eq_some_iff
abbrev qw := @Sem.run_pure
abbrev qx := @List.append_assoc
abbrev qy := @List.length_set
abbrev qz := @run_underlying
abbrev qaa := @And.intro
abbrev qab := @Option.isSome_iff_exists
abbrev qac := @List.eq_nil_of_length_eq_zero
abbrev qad := @List.length_cons
abbrev qae := @List.map_cons
abbrev qaf := @decide_eq_true_eq
abbrev qag := @List.mem_map
abbrev qah := @Option.some.injEq
abbrev qai := @List.take_succ_eq_append_getElem
abbrev qaj := @Nat.zero_add
abbrev qak := @List.getElem_mem
abbrev qal := @List.mem_append
abbrev qam := @List.mem_cons
abbrev qan := @List.length_drop
abbrev qao := @List.getElem?_cons_succ
abbrev qap := @List.getElem?_append_left
abbrev qaq := @Classical.byContradiction
abbrev qar := @List.map_congr_left
abbrev qas := @Nat.lt_of_lt_of_le
abbrev qat := @List.mem_of_mem_take
abbrev qau := @List.getElem?_take
abbrev qav := @List.mem_singleton
abbrev qaw := @List.getElem?_append_right
abbrev qax := @Option.map_some
abbrev qay := @List.flatMap_cons
abbrev qaz := @Nat.lt_or_ge
abbrev qba := @List.getElem?_drop
abbrev qbb := @List.mem_of_getElem?
abbrev qbc := @Nat.mul_le_mul_right
abbrev qbd := @Bool.false_eq_true
abbrev qbe := @Bool.not_eq_true'
abbrev qbf := @List.length_nil
abbrev qbg := @Nat.zero_le
abbrev qbh := @List.flatMap_append
abbrev qbi := @List.map_map
abbrev qbj := @Nat.add_mul
abbrev qbk := @Nat.le_trans
abbrev qbl := @Option.getD_some
abbrev qbm := @List.map_append
abbrev qbn := @decide_eq_true
abbrev qbo := @List.mem_of_mem_drop
abbrev qbp := @List.drop_eq_nil_of_le
abbrev qbq := @Array.eq_empty_of_size_eq_zero
abbrev qbr := @decide_eq_false
abbrev qbs := @List.take_append_drop
abbrev qbt := @cond_false
abbrev qbu := @List.getElem_of_mem
abbrev qbw := @List.all_eq_true
abbrev qby := @List.map_take
abbrev qbz := @List.size_toArray
abbrev qca := @Int.emod_lt_of_pos
abbrev qcb := @Nat.min_eq_left
abbrev qcc := @List.nil_append
abbrev qcd := @List.getD_eq_getElem?_getD
abbrev qce := @if_true
abbrev qcf := @List.getElem?_of_mem
abbrev qcg := @Nat.two_pow_pos
abbrev qch := @List.drop_eq_getElem_cons
abbrev qci := @Array.length_toList
abbrev qcj := @List.getElem?_set
abbrev qck := @List.nodup_append
abbrev qcl := @List.length_singleton
abbrev qcm := @Int.emod_nonneg
abbrev qcn := @List.take_length
abbrev qco := @List.map_toArray
abbrev qcp := @Nat.pow_le_pow_right
abbrev qcq := @Nat.add_zero
abbrev qcr := @List.map_drop
abbrev qcs := @Nat.one_mul
abbrev qct := @Array.ext'
abbrev qcu := @List.append_nil
abbrev qcv := @Bool.or_eq_true
abbrev qcw := @heap_alloc_new
abbrev qcx := @List.length_eq_zero_iff
abbrev qcy := @List.ext_getElem?
abbrev qcz := @List.nodup_cons
abbrev qda := @List.length_pos_iff
abbrev qdb := @List.map_nil
abbrev qdc := @Int.lt_of_mul_lt_mul_right
abbrev qdd := @List.getElem?_eq_none
abbrev qde := @Int.mul_nonneg
abbrev qdf := @cond_true
abbrev qdg := @Nat.le_succ
abbrev qdh := @List.getElem?_append
abbrev qdi := @Int.natCast_mul
abbrev qdj := @Array.toArray_toList
abbrev qdk := @Int.le_of_lt
abbrev qdl := @if_false
abbrev qdm := @List.all_eq_false
abbrev qdn := @List.getElem?_cons_zero
abbrev qdo := @List.replicate_succ
abbrev qdp := @List.takeWhile_cons
abbrev qdq := @run_firstCells_some
abbrev qdr := @List.mem_flatMap
abbrev qds := @Int.pow_succ
abbrev qdt := @Nat.eq_of_beq_eq_true
abbrev qdu := @Nat.le_of_ble_eq_true
abbrev qdv := @Int.emod_add_mul_ediv
abbrev qdw := @Nat.add_assoc
abbrev qdx := @Array.getElem?_eq_some_iff
abbrev qdy := @Int.emod_eq_of_lt
abbrev qdz := @Bool.or_eq_false_iff
abbrev qea := @Int.emod_emod_of_dvd
abbrev qeb := @List.set_eq_take_append_cons_drop
abbrev qec := @Int.le_refl
abbrev qed := @Nat.succ_mul
abbrev qee := @Nat.mul_comm
abbrev qef := @Nat.le_add_right
abbrev qeg := @Int.ediv_ediv_of_nonneg
abbrev qeh := @List.find?_eq_none
abbrev qei := @Int.ediv_nonneg
abbrev qej := @Int.mul_le_mul_of_nonneg_left
abbrev qek := @List.getElem?_toArray
abbrev qel := @List.mapM_cons
abbrev qem := @Int.mul_le_mul
abbrev qen := @Int.mul_comm
abbrev qeo := @Int.mul_emod
abbrev qep := @Array.getD_eq_getD_getElem?
abbrev qeq := @List.take_append
abbrev qer := @Option.bind_some
abbrev qes := @List.mem_cons_of_mem
abbrev qet := @List.not_mem_nil
abbrev qeu := @List.all_cons
abbrev qev := @List.getElem?_range
abbrev qew := @List.filter_eq_self
abbrev qex := @List.mem_or_eq_of_mem_set
abbrev qey := @Nat.le_of_eq
abbrev qez := @Int.le_trans
abbrev qfa := @List.mem_of_mem_eraseIdx
abbrev qfb := @List.mem_cons_self
abbrev qfc := @List.drop_drop
abbrev qfd := @Nat.le_mul_of_pos_right
abbrev qfe := @List.flatten_cons
abbrev qff := @List.filter_eq_nil_iff
abbrev qfg := @Prod.mk.injEq
abbrev qfh := @Bool.false_or
abbrev qfi := @Nat.div_eq_of_lt
abbrev qfj := @Nat.div_lt_iff_lt_mul
abbrev qfk := @List.mem_append_right
abbrev qfl := @Int.ediv_lt_of_lt_mul
abbrev qfm := @List.take_left'
abbrev qfn := @List.foldl_cons
abbrev qfo := @Int.dvd_refl
abbrev qfp := @List.map_set
abbrev qfq := @List.nodup_nil
abbrev qfr := @List.pairwise_iff_getElem
end Go
namespace Go
theorem qqo{p:Prop}(h:p:=by omega):p:=h
theorem qqk{p:Prop}(h:p:=by kernel_rfl):p:=h
theorem qqs{p:Prop}(h:p:=by simp):p:=h
theorem qqd{p:Prop}(h:p:=by decide):p:=h
theorem qqt{p:Prop}(h:p:=by trivial):p:=h
theorem qqr{p:Prop}(h:p:=by repeat' first|apply And.intro|exact rfl|exact True.intro):p:=h
theorem qqm{p:Prop}(h:p:=by simp;omega):p:=h
theorem qqh{p:Prop}(h:p:=by simpa using h):p:=h
end Go
namespace Go
abbrev lz{α:Type}(l:List α):Prop:=l.length=l.length
end Go
set_option maxRecDepth 100000
noncomputable section
namespace Go.Bv
open Go.RowKit
def iand (k:IntKind) (a b:Int):Int:=k.wrap (BitVec.ofInt k.bits a&&&BitVec.ofInt k.bits b).toNat
def ior (k:IntKind) (a b:Int):Int:=k.wrap (BitVec.ofInt k.bits a|||BitVec.ofInt k.bits b).toNat
def ixor (k:IntKind) (a b:Int):Int:=k.wrap (BitVec.ofInt k.bits a^^^BitVec.ofInt k.bits b).toNat
def ianot (k:IntKind) (a b:Int):Int:=k.wrap (BitVec.ofInt k.bits a&&& ~~~BitVec.ofInt k.bits b).toNat
def ishl (k:IntKind) (a b:Int):Int:=k.wrap (a*2^min b.toNat k.bits)
def ishr (k:IntKind) (a b:Int):Int:=a.fdiv (2^min b.toNat k.bits)
inductive D where
 |int (k:IntKind) (n:Int)
 |bool (b:Bool)
 |str (s:ByteArray)
 |slice (sz:Nat) (l:List D)
 |agg (l:List D)
def D.cells:D->List D
 | .agg l=>l
 |d=>[d]
def D.one:D->Bool
 | .agg _=>false
 |_=>true
inductive RepD (m:Nat->Nat) (w:World):Value->D->Prop
 |int (k:IntKind) (n:Int):RepD m w (.int k n) (.int k n)
 |bool (b:Bool):RepD m w (.bool b) (.bool b)
 |str (s:ByteArray):RepD m w (.string s) (.str s)
 |nil (A:Option Addr) (sz:Nat):RepD m w (.slice A 0 0) (.slice sz [])
 | slice (b off cap sz:Nat) (l:List D) (vs:List Value) (hcap:l.length<=cap) (hmax:cap<=maxLen)
   (hsz:∀d∈l,d.cells.length=sz/\∀c∈d.cells,c.one=true)
   (hlen:vs.length=(l.flatMap D.cells).length)
   (hc:∀(j:Nat) (u:Value),vs[j]? =some u->off+j<m b/\w.cell? ⟨b,off+j,none⟩=some u)
   (hr:∀(j:Nat) (u:Value) (c:D),vs[j]? =some u->(l.flatMap D.cells)[j]? =some c->RepD m w u c):
   RepD m w (.slice (some ⟨b,off,none⟩) l.length cap) (.slice sz l)
def Mono (m:Nat->Nat) (w:World) (m' :Nat->Nat) (w' :World):Prop:=∀b o v,o<m b->w.cell? ⟨b,o,none⟩=some v->o<m' b/\w'.cell? ⟨b,o,none⟩=some v
theorem Mono.refl (m:Nat->Nat) (w:World):Mono m w m w:=fun _ _ _ h1 h2=>⟨h1,h2⟩
theorem Mono.trans {m m1 m2:Nat->Nat} {w w1 w2:World} (h:Mono m w m1 w1) (h' :Mono m1 w1 m2 w2):Mono m w m2 w2:=fun b o v h1 h2=>let⟨a,c⟩:=h b o v h1 h2;h' b o v a c
theorem RepD.mono {m m' :Nat->Nat} {w w' :World} (hm:Mono m w m' w') {v:Value} {d:D} (h:RepD m w v d):RepD m' w' v d:=by
 induction h with
 |int k n=>exact .int k n
 |bool b=>exact .bool b
 |str s=>exact .str s
 |nil A sz=>exact .nil A sz
 |slice b off cap sz l vs hcap hmax hsz hlen hc hr ih=>exact .slice b off cap sz l vs hcap hmax hsz hlen (fun j u hu=>let⟨a,c⟩:=hc j u hu;hm _ _ _ a c) ih
theorem RepD.one {m:Nat->Nat} {w:World} {v:Value} {d:D} (h:RepD m w v d):v.oneCell' =true:=by cases h<;>rfl
theorem RepD.done {m:Nat->Nat} {w:World} {v:Value} {d:D} (h:RepD m w v d):d.one=true:=by cases h<;>rfl
theorem ki {sz:Nat} {l:List D} (h:∀d∈l,d.cells.length=sz/\∀c∈d.cells,c.one=true):(l.flatMap D.cells).length=l.length*sz:=by
 induction l with
 |nil=>simp
 |cons d l ih=>have h1:=(h d qqs).1;have h2:=ih (fun x hx=>h x (by simp[hx]));simp only[qay,qj,qad,h1,h2,qbj,qcs];omega
theorem k7p {sz:Nat} {l:List D} (h:∀d∈l,d.cells.length=sz/\∀c∈d.cells,c.one=true) {i:Nat} {d:D} (hi:l[i]? =some d) (j:Nat) (hj:j<sz):
  (l.flatMap D.cells)[i*sz+j]? =d.cells[j]? :=by
 induction l generalizing i with
 |nil=>simp at hi
 |cons x l ih=>
  have h1:=(h x qqs).1;cases i with
  |zero=>simp at hi;subst hi;simp only[qay,Nat.zero_mul,qaj];rw[qap qqo]
  |succ i=>simp at hi;simp only[qay];rw[qaw (by rw[h1,qbj];omega)];rw[show(i+1)*sz+j-x.cells.length=i*sz+j by rw[h1,qbj];omega];exact ih (fun y hy=>h y (by simp[hy])) hi
inductive V where
 |any
 |k (v:Value)
 |d (x:D)
 |agg (l:List V)
 |tup (l:List V)
 |ptr (id off:Nat)
 |ro (l:List D)
 |own (tok sz:Nat) (l:List D)
 |full (sz:Nat) (l:List D)
 |row (id off len sz:Nat)
 |mp (id:Nat)
 |clo (g:Nat) (fs cs:List (Option (Nat×Nat)))
def V.one:V->Bool
 | .any=>false
 | .agg _=>false
 | .tup _=>false
 | .k v=>v.oneCell'
 | .d x=>x.one
 |_=>true
def V.cells:V->List V
 | .agg l=>l
 |v=>[v]
def V.ofD:D->V
 | .agg l=> .agg (l.map .d)
 |x=> .d x
inductive MO where
 |m (es:List (D×V))
 |it (mid:Nat) (rest:List (D×V)) (last:Option (D×V))
inductive Ob where
 |cells (l:List V)
 |tip (n:Nat)
 |map (x:MO)
 |dead
abbrev Hp:=List (Nat×Ob)
def Hp.get:Hp->Nat->Option Ob
 |[],_=>none
 |(i,o)::r,j=>if j=i then some o else Hp.get r j
def live (h:Hp) (i:Nat):Prop:=match h.get i with
 |none=>False
 |some .dead=>False
 |some _=>True
theorem live_eq {h h' :Hp} {i:Nat} (e:h'.get i=h.get i) (l:live h' i):live h i:=by unfold live at *;rw[e]at l;exact l
theorem kh {h:Hp} {i:Nat} {l:List V} (e:h.get i=some (.cells l)):live h i:=by unfold live;rw[e];trivial
theorem k1b {h:Hp} {i t:Nat} (e:h.get i=some (.tip t)):live h i:=by unfold live;rw[e];trivial
theorem k1g {h:Hp} {i:Nat} {es:MO} (e:h.get i=some (.map es)):live h i:=by unfold live;rw[e];trivial
theorem live_of {h:Hp} {i:Nat} (l:live h i):∃o,h.get i=some o/\o≠ .dead:=by
 unfold live at l;split at l
 ·exact l.elim
 ·exact l.elim
 ·rename_i o hn hg;exact⟨o,hg,fun h=>hn h⟩
theorem k1c {h:Hp} {k i:Nat} {o:Ob} (hk:live h k) (l:live ((k,o)::h) i):live h i:=by
 by_cases e:i=k
 ·subst e;exact hk
 ·exact live_eq (by simp[Hp.get,e]) l
theorem kjf {h:Hp} {k i:Nat} {o:Ob} (e:i≠k) (l:live ((k,o)::h) i):live h i:=live_eq (by simp[Hp.get,e]) l
structure Gh where
 loc:Nat->Option Nat
 tloc:Nat->Option Nat
 lim:Nat->Nat
def csz (w:World) (b:Nat):Option Nat:=match w.heap[b]? with
 |some (.cells c _ (0,0))=>some c.size
 |_=>none
theorem csz_of {w:World} {b:Nat} {c:Array Value} {e:TypeId} (h:w.heap[b]? =some (.cells c e (0,0))):csz w b=some c.size:=by simp[csz,h]
theorem k3h {w w' :World} {b:Nat} (h:w'.heap[b]? =w.heap[b]?):csz w' b=csz w b:=by simp[csz,h]
def Spare (G:Gh) (w:World) (tok sz n:Nat):Value->Prop
 | .slice A _ cap=>cap=n∨∃b off c e,A=some ⟨b,off,none⟩/\G.tloc tok=some b/\w.heap[b]? =some (.cells c e (0,0))/\off+n*sz=G.lim b/\off+cap*sz<=c.size
 |_=>False
def PtrR (G:Gh) (nx:Nat) (p:Option (Nat×Nat)) (v:Value):Prop:=match p with
 |some (id,off)=>id<nx/\∃b,G.loc id=some b/\v= .pointer (some ⟨b,off,none⟩)
 |none=>True
def PtrsR (G:Gh) (nx:Nat):List (Option (Nat×Nat))->List Value->Prop
 |[],[]=>True
 |p::ps,v::vs=>PtrR G nx p v/\PtrsR G nx ps vs
 |_,_=>False
theorem PtrsR.mono {G G' :Gh} {nx nx' :Nat} (h:∀id b,id<nx->G.loc id=some b->id<nx'/\G'.loc id=some b):∀{ps:List (Option (Nat×Nat))} {vs:List Value},PtrsR G nx ps vs->PtrsR G' nx' ps vs
 |[],[],_=>trivial
 |[],_::_,hh=>hh.elim
 |_::_,[],hh=>hh.elim
 |none::_,_::_,hh=>⟨trivial,PtrsR.mono h hh.2⟩
 |some (id,off)::_,_::_,hh=>by obtain⟨⟨h1,b,h2,h3⟩,h4⟩:=hh;obtain⟨q1,q2⟩:=h id b h1 h2;exact⟨⟨q1,b,q2,h3⟩,PtrsR.mono h h4⟩
inductive RepV (G:Gh) (w:World) (h:Hp) (nx:Nat):Value->V->Prop
 |any (v:Value):RepV G w h nx v .any
 |k (v:Value):RepV G w h nx v (.k v)
 |d (v:Value) (x:D) (hd:RepD G.lim w v x):RepV G w h nx v (.d x)
 | agg (vs:List Value) (l:List V) (hlen:vs.length=l.length) (hone:∀x∈l,x.one=true)
   (hr:∀(j:Nat) (v:Value) (x:V),vs[j]? =some v->l[j]? =some x->RepV G w h nx v x):RepV G w h nx (.agg vs.toArray) (.agg l)
 | tup (vs:List Value) (l:List V) (hlen:vs.length=l.length)
   (hr:∀(j:Nat) (v:Value) (x:V),vs[j]? =some v->l[j]? =some x->RepV G w h nx v x):RepV G w h nx (.tuple vs.toArray) (.tup l)
 |ptr (id off b:Nat) (hid:id<nx) (hl:G.loc id=some b):RepV G w h nx (.pointer (some ⟨b,off,none⟩)) (.ptr id off)
 | ro (b off:Nat) (l:List D) (vs:List Value) (hlen:vs.length=l.length) (hone:∀c∈l,c.one=true)
   (hc:∀(j:Nat) (u:Value),vs[j]? =some u->off+j<G.lim b/\w.cell? ⟨b,off+j,none⟩=some u)
   (hr:∀(j:Nat) (u:Value) (c:D),vs[j]? =some u->l[j]? =some c->RepD G.lim w u c):RepV G w h nx (.pointer (some ⟨b,off,none⟩)) (.ro l)
 | own (v:Value) (tok sz:Nat) (l:List D) (hd:RepD G.lim w v (.slice sz l)) (ht:tok<nx)
   (hs:∀t,h.get tok=some (.tip t)->l.length<=t/\(l.length=t->Spare G w tok sz l.length v)):RepV G w h nx v (.own tok sz l)
 |full (A:Option Addr) (sz:Nat) (l:List D) (hd:RepD G.lim w (.slice A l.length l.length) (.slice sz l)):RepV G w h nx (.slice A l.length l.length) (.full sz l)
 |row (id off len sz b o cap n:Nat) (hid:id<nx) (hl:G.loc id=some b) (ho:cap≠0->o=off) (hc:len<=cap) (hm:cap<=maxLen) (hn:csz w b=some n) (hs:off+cap*sz<=n):RepV G w h nx (.slice (some ⟨b,o,none⟩) len cap) (.row id off len sz)
 |rown (A:Option Addr) (id off sz:Nat) (hid:id<nx):RepV G w h nx (.slice A 0 0) (.row id off 0 sz)
 |mp (id b:Nat) (hid:id<nx) (hl:G.loc id=some b):RepV G w h nx (.map (some b)) (.mp id)
 |clo (g:Nat) (fs cs:List (Option (Nat×Nat))) (vs us:List Value) (hf:PtrsR G nx fs vs) (hc:PtrsR G nx cs us):RepV G w h nx (.func (.func g) vs.toArray us.toArray) (.clo g fs cs)
theorem RepV.one {G:Gh} {w:World} {h:Hp} {nx:Nat} {v:Value} {x:V} (hr:RepV G w h nx v x) (h1:x.one=true):v.oneCell' =true:=by cases hr<;>first|(exact RepD.one (by assumption))|exact h1|rfl|cases h1
structure Ext (G:Gh) (w:World) (h:Hp) (nx:Nat) (G' :Gh) (w' :World) (h' :Hp) (nx' :Nat):Prop where
 mono:Mono G.lim w G'.lim w'
 hnx:nx<=nx'
 loc:∀id b,id<nx->G.loc id=some b->G'.loc id=some b
 tok:∀tok t',tok<nx->h'.get tok=some (.tip t')->∃t,h.get tok=some (.tip t)/\t<=t'/\
  (t=t'->∀b,G.tloc tok=some b->G'.tloc tok=some b/\w'.heap[b]? =w.heap[b]? /\G'.lim b=G.lim b)
 csz:∀b n,csz w b=some n->csz w' b=some n
theorem Ext.refl (G:Gh) (w:World) (h:Hp) (nx:Nat):Ext G w h nx G w h nx:=⟨Mono.refl _ _,qt _,fun _ _ _ h=>h,fun _ t' _ h=>⟨t',h,qt _,fun _ _ hb=>⟨hb,rfl,rfl⟩⟩,fun _ _ h=>h⟩
theorem Ext.trans {G G' G2:Gh} {w w' w2:World} {h h' h2:Hp} {nx nx' nx2:Nat} (a:Ext G w h nx G' w' h' nx') (b:Ext G' w' h' nx' G2 w2 h2 nx2):Ext G w h nx G2 w2 h2 nx2:=by have hn:=a.hnx;refine⟨a.mono.trans b.mono,qbk a.hnx b.hnx,fun id k hi hk=>b.loc id k qqo (a.loc id k hi hk),fun tok t2 ht h2=> ?_,fun k n hk=>b.csz k n (a.csz k n hk)⟩;obtain⟨t',g1,g2,g3⟩:=b.tok tok t2 qqo h2;obtain⟨t,f1,f2,f3⟩:=a.tok tok t' ht g1;refine⟨t,f1,by omega,fun htt k hk=> ?_⟩;obtain⟨q1,q2,q3⟩:=f3 qqo k hk;obtain⟨r1,r2,r3⟩:=g3 qqo k q1;exact⟨r1,r2.trans q2,r3.trans q3⟩
theorem RepV.ext {G G' :Gh} {w w' :World} {h h' :Hp} {nx nx' :Nat} (he:Ext G w h nx G' w' h' nx') {v:Value} {x:V} (hr:RepV G w h nx v x):RepV G' w' h' nx' v x:=by
 induction hr with
 |any v=>exact .any v
 |k v=>exact .k v
 |d v x hd=>exact .d v x (hd.mono he.mono)
 |agg vs l hlen hone _ ih=>exact .agg vs l hlen hone ih
 |tup vs l hlen _ ih=>exact .tup vs l hlen ih
 |ptr id off b hid hl=>exact .ptr id off b (qas hid he.hnx) (he.loc id b hid hl)
 |ro b off l vs hlen hone hc hr=>exact .ro b off l vs hlen hone (fun j u hu=>let⟨a,c⟩:=hc j u hu;he.mono _ _ _ a c) (fun j u c h1 h2=>(hr j u c h1 h2).mono he.mono)
 |own v tok sz l hd ht hs=>
  refine .own v tok sz l (hd.mono he.mono) (qas ht he.hnx) fun t' ht' => ?_;obtain⟨t,h1,h2,h3⟩:=he.tok tok t' ht ht';obtain⟨h4,h5⟩:=hs t h1;refine⟨by omega,fun hl=> ?_⟩;have htt:t=t' :=by omega
  have h6:=h5 qqo;have h7:=h3 htt;cases v with
  |slice A n cap=>
   simp only[Spare]at h6 ⊢;rcases h6 with h6|⟨b,off,c,e,hA,hloc,hheap,ho,hc⟩
   ·exact .inl h6
   ·obtain⟨g1,g2,g3⟩:=h7 b hloc;exact .inr ⟨b,off,c,e,hA,g1,g2.trans hheap,by rw[g3];exact ho,hc⟩
  |_=>exact h6
 |full A sz l hd=>exact .full A sz l (hd.mono he.mono)
 |row id off len sz b o cap n hid hl ho hc hm hn hs=>exact .row id off len sz b o cap n (qas hid he.hnx) (he.loc id b hid hl) ho hc hm (he.csz b n hn) hs
 |rown A id off sz hid=>exact .rown A id off sz (qas hid he.hnx)
 |mp id b hid hl=>exact .mp id b (qas hid he.hnx) (he.loc id b hid hl)
 |clo g fs cs vs us hf hc=>exact .clo g fs cs vs us (hf.mono fun id b h1 h2=>⟨qas h1 he.hnx,he.loc id b h1 h2⟩) (hc.mono fun id b h1 h2=>⟨qas h1 he.hnx,he.loc id b h1 h2⟩)
end Go.Bv
namespace Go.Bv
open Go.RowKit
def tyOf (P:Program) (t:TypeId):Option (Bool×Nat):=
 match P.underlying t,P.info? t with
 |some u,some i=>some ((match u with| .struct _| .array _ _=>true|_=>false),i.size)
 |_,_=>none
def fldOf (P:Program) (t:TypeId) (f:Nat):Option (Nat×Bool×Nat):=
 match P.underlying t with
 |some (.struct fs)=>match fs[f]? with
  |some g=>match tyOf P g.type with
   |some (a,n+1)=>some (g.offset,a,n+1)
   |_=>none
  |none=>none
 |_=>none
def elemOf (P:Program) (t:TypeId):Option (Bool×Nat):=
 match P.underlying t with
 |some (.slice e)=>tyOf P e
 |_=>none
def arrOf (P:Program) (t:TypeId):Option (Nat×Bool×Nat):=
 match P.underlying t with
 |some (.array n e)=>(tyOf P e).map fun(a,s)=>(n,a,s)
 |_=>none
def V.ofK1:Value->V
 | .int q n=> .d (.int q n)
 | .bool b=> .d (.bool b)
 | .string s=> .d (.str s)
 |v=>if v.oneCell' then .k v else .any
def V.ofK:Value->V
 | .agg cs=>if cs.all (·.oneCell')then .agg (cs.toList.map V.ofK1)else .any
 |v=>V.ofK1 v
def V.els (sz:Nat):V->Option (List D)
 | .d (.slice s l)=>if s=sz then some l else none
 | .own _ s l=>if s=sz then some l else none
 | .full s l=>if s=sz then some l else none
 | .k (.slice none 0 0)=>some []
 |_=>none
def V.len:V->Option Nat
 | .d (.slice _ l)=>some l.length
 | .own _ _ l=>some l.length
 | .full _ l=>some l.length
 | .k (.slice none 0 0)=>some 0
 | .row _ _ len _=>some len
 |_=>none
section
variable (K:V->Prop)
def partV (a:Bool) (n:Nat) (l:List V) (off:Nat):Prop:=
 if a then off+n<=l.length/\K (.agg ((l.drop off).take n))else
  match l[off]? with
  |some x=>K x
  |none=>False
def loadA (ty:Option (Bool×Nat)) (h:Hp):V->Prop
 | .ptr id off=>match ty,h.get id with
  |some (a,n),some (.cells l)=>partV K a n l off
  |_,_=>False
 | .ro l=>match ty with
  |some (a,n)=>partV K a n (l.map .d) 0
  |none=>False
 |_=>False
def faddrA (fl:Option (Nat×Bool×Nat)):V->Prop
 | .ptr id off=>match fl with
  |some (o,_,_)=>K (.ptr id (off+o))
  |none=>False
 | .ro l=>match fl with
  |some (o,_,_)=>K (.ro (l.drop o))
  |none=>False
 |_=>False
def fieldA (fl:Option (Nat×Bool×Nat)):V->Prop
 | .agg l=>match fl with
  |some (o,a,n)=>partV K a n l o
  |none=>False
 |_=>False
def iaddrA (el:Option (Bool×Nat)) (ar:Option (Nat×Bool×Nat)) (x:V):V->Prop
 | .d (.int _ i)=>match el,ar with
  |some (_,sz),_=>match x.els sz with
   |some l=>0<=i/\∃e,l[i.toNat]? =some e/\K (.ro e.cells)
   |none=>False
  |none,some (n,_,sz)=>match x with
   | .ptr id off=>0<=i/\i<n/\K (.ptr id (off+i.toNat*sz))
   | .ro l=>0<=i/\i<n/\K (.ro (l.drop (i.toNat*sz)))
   |_=>False
  |none,none=>False
 |_=>False
def indexA (ar:Option (Nat×Bool×Nat)):V->V->Prop
 | .agg l,.d (.int _ i)=>match ar with
  |some (n,a,sz)=>0<=i/\i<n/\partV K a sz l (i.toNat*sz)
  |none=>False
 | .d (.str s),.d (.int _ i)=>match ar with
  |none=>0<=i/\∃b,s[i.toNat]? =some b/\K (.d (.int .u8 b.toNat))
  |_=>False
 |_,_=>False
def intA (op:BinOp) (k:IntKind) (a b:Int):Prop:=
 match op with
 | .add=>K (.d (.int k (k.wrap (a+b))))
 | .sub=>K (.d (.int k (k.wrap (a-b))))
 | .mul=>K (.d (.int k (k.wrap (a*b))))
 | .quo=>b≠0/\K (.d (.int k (k.wrap (a.tdiv b))))
 | .rem=>b≠0/\K (.d (.int k (a.tmod b)))
 | .and=>K (.d (.int k (k.wrap (BitVec.ofInt k.bits a&&&BitVec.ofInt k.bits b).toNat)))
 | .or=>K (.d (.int k (k.wrap (BitVec.ofInt k.bits a|||BitVec.ofInt k.bits b).toNat)))
 | .xor=>K (.d (.int k (k.wrap (BitVec.ofInt k.bits a^^^BitVec.ofInt k.bits b).toNat)))
 | .andNot=>K (.d (.int k (k.wrap (BitVec.ofInt k.bits a&&& ~~~BitVec.ofInt k.bits b).toNat)))
 | .eql=>K (.d (.bool (a==b)))
 | .neq=>K (.d (.bool (a !=b)))
 | .lss=>K (.d (.bool (decide (a<b))))
 | .leq=>K (.d (.bool (decide (a<=b))))
 | .gtr=>K (.d (.bool (decide (b<a))))
 | .geq=>K (.d (.bool (decide (b<=a))))
 |_=>False
def shiftA (op:BinOp) (k:IntKind) (a b:Int):Prop:=
 match op with
 | .shl=>0<=b/\K (.d (.int k (k.wrap (a*2^min b.toNat k.bits))))
 | .shr=>0<=b/\K (.d (.int k (a.fdiv (2^min b.toNat k.bits))))
 |_=>False
def binA (op:BinOp):V->V->Prop
 | .d (.int k a),.d (.int k' b)=>match op with
  | .shl=>shiftA K .shl k a b
  | .shr=>shiftA K .shr k a b
  |op=>k=k'/\intA K op k a b
 |_,_=>False
def unA (op:UnOp):V->Prop
 | .d (.bool b)=>match op with
  | .not=>K (.d (.bool (!b)))
  |_=>False
 | .d (.int k n)=>match op with
  | .neg=>K (.d (.int k (k.wrap (0-n))))
  |_=>False
 |_=>False
def convA (d:Option TypeDesc):V->Prop
 | .d (.int _ n)=>match d with
  |some (.int k)=>K (.d (.int k (k.wrap n)))
  |_=>False
 |_=>False
end
end Go.Bv
namespace Go.Bv
open Go.RowKit
theorem add_mk (b o j:Nat):(⟨b,o,none⟩:Addr).add j=⟨b,o+j,none⟩:=by unfold Addr.add;split<;>simp_all
section
variable {P:Program} {G:Gh} {w:World} {h:Hp} {nx:Nat}
def ObjR (G:Gh) (w:World) (h:Hp) (nx:Nat):Prop:=
 ∀id l,h.get id=some (.cells l)->(l=[]/\G.loc id=none)∨∃b e cs,G.loc id=some b/\w.heap[b]? =some (.cells (List.toArray cs) e (0,0))/\G.lim b=0/\l.length<=cs.length/\(∀x∈l,x.one=true)/\
  ∀(j:Nat) (v:Value) (x:V),cs[j]? =some v->l[j]? =some x->RepV G w h nx v x
theorem ku {t:TypeId} {a:Bool} {n:Nat} (ht:tyOf P t=some (a,n)) (w:World):(isAgg t).run P w= .ok a w/\(sizeOf t).run P w= .ok n w:=by
 unfold tyOf at ht;split at ht
 ·rename_i u i hu hi;injection ht with ht;injection ht with h1 h2;constructor
  ·unfold isAgg;simp only[qp,qz hu,qi];subst h1;cases u<;>rfl
  ·simp[sizeOf,typeInfo,hi,h2]
 ·cases ht
theorem k80 {t:TypeId} {a:Bool} {n:Nat} (ht:tyOf P t=some (a,n)) {K:V->Prop} {l:List V} {off:Nat} (hp:partV K a n l off)
  {cs:List Value} (hlen:l.length<=cs.length) (hone:∀x∈l,x.one=true) (hr:∀(j:Nat) (v:Value) (x:V),cs[j]? =some v->l[j]? =some x->RepV G w h nx v x):
  ∃v x,(part t cs.toArray off).run P w= .ok v w/\(a=true->v= .agg ((cs.drop off).take n).toArray/\off+n<=cs.length)/\(a=false->cs[off]? =some v)/\RepV G w h nx v x/\K x:=by
 obtain⟨h1,h2⟩:=ku ht w;unfold partV at hp;cases a with
 |true=>
  simp only[qce]at hp;refine⟨.agg ((cs.drop off).take n).toArray,_,?_,fun _=>⟨rfl,by omega⟩,qqs,?_,hp.2⟩
  ·simp only[part,qp,h1,h2,qi,qce,qw];congr 2;apply qct;rw[Array.toList_extract];simp[List.extract_eq_take_drop]
  ·refine .agg _ _ qqm (fun x hx=>hone x (qbo (qat hx))) fun j v x hv hx=> ?_;rw[qau]at hv hx;split at hv
   ·rename_i hj;rw[qh hj]at hx;rw[qba]at hv hx;exact hr _ _ _ hv hx
   ·cases hv
 |false=>
  simp only[qbd,qdl]at hp;split at hp
  ·rename_i x hx;have hlt:off<l.length:=(qf.1 hx).1;have hv:cs[off]? =some (cs[off]' qqo):=qd qqo;refine⟨_,x,?_,qqs,fun _=>hv,hr _ _ _ hv hx,hp⟩;simp only[part,qp,h1,qi,qbd,qdl];simp[hv]
  ·exact hp.elim
theorem kee {t:TypeId} {a:Bool} {n:Nat} (ht:tyOf P t=some (a,n)) {K:V->Prop} {l:List V} {off b o:Nat} (hp:partV K a n l off)
  {cs:List Value} (hlen:l.length<=cs.length) (hone:∀x∈l,x.one=true) (hr:∀(j:Nat) (v:Value) (x:V),cs[j]? =some v->l[j]? =some x->RepV G w h nx v x)
  (hc:∀(j:Nat) (u:Value),cs[j]? =some u->w.cell? ⟨b,o+j,none⟩=some u):
  ∃v x,(loadVar t ⟨b,o+off,none⟩).run P w= .ok v w/\RepV G w h nx v x/\K x:=by
 obtain⟨v,x,_,ha,hna,hv,hk⟩:=k80 (w:=w) ht hp hlen hone hr;obtain⟨h1,h2⟩:=ku ht w;refine⟨v,x,?_,hv,hk⟩;cases a with
 |true=>
  obtain⟨rfl,hle⟩:=ha rfl
  have hl:(loadCells ⟨b,o+off,none⟩ ((cs.drop off).take n).length).run P w= .ok ((cs.drop off).take n).toArray w:=
   run_loadCells_list (P:=P) w ⟨b,o+off,none⟩ ((cs.drop off).take n) (fun j u hu=>by
    rw[qau]at hu;split at hu
    ·rw[qba]at hu;rw[add_mk,qdw];exact hc _ _ hu
    ·cases hu)
  rw[qo,qan,qcb qqo]at hl;simp only[loadVar,qp,h1,h2,qi,qce,hl,qw]
 |false=>simp only[loadVar,qp,h1,qi,qbd,qdl];simp[hc _ _ (hna rfl)]
theorem els_rep {x:V} {sz:Nat} {l:List D} (he:x.els sz=some l) {v:Value} (hv:RepV G w h nx v x):RepD G.lim w v (.slice sz l):=by
 unfold V.els at he;split at he
 ·split at he
  ·rename_i hs;subst hs;injection he with he;subst he;cases hv;assumption
  ·cases he
 ·split at he
  ·rename_i hs;subst hs;injection he with he;subst he;cases hv;assumption
  ·cases he
 ·split at he
  ·rename_i hs;subst hs;injection he with he;subst he;cases hv;assumption
  ·cases he
 ·injection he with he;subst he;cases hv;exact .nil none sz
 ·cases he
theorem len_rep {x:V} {n:Nat} (he:x.len=some n) {v:Value} (hv:RepV G w h nx v x):∃A c,v= .slice A n c:=by
 unfold V.len at he;split at he
 ·injection he with he;subst he;cases hv with|d _ _ hd=>cases hd<;>exact⟨_,_,rfl⟩
 ·injection he with he;subst he;cases hv with|own _ _ _ _ hd=>cases hd<;>exact⟨_,_,rfl⟩
 ·injection he with he;subst he;cases hv<;>exact⟨_,_,rfl⟩
 ·injection he with he;subst he;cases hv<;>exact⟨_,_,rfl⟩
 ·injection he with he;subst he;cases hv<;>exact⟨_,_,rfl⟩
 ·cases he
theorem kpd {v:Value} {sz:Nat} {l:List D} (hd:RepD G.lim w v (.slice sz l)) {i:Nat} {e:D} (he:l[i]? =some e):
  ∃b off cap,v= .slice (some ⟨b,off,none⟩) l.length cap/\RepV G w h nx (.pointer (some ⟨b,off+i*sz,none⟩)) (.ro e.cells):=by
 have hi:i<l.length:=(qf.1 he).1;have hm:e∈l:=qbb he;cases hd with
 |nil=>simp at hi
 |slice b off cap _ _ vs hcap hmax hsz hlen hc hr=>
  have hfl:=ki hsz;have hesz:=(hsz e hm).1;refine⟨b,off,cap,rfl,.ro b (off+i*sz) e.cells ((vs.drop (i*sz)).take sz) ?_ (hsz e hm).2 ?_ ?_⟩
  ·have:i*sz+sz<=l.length*sz:=by rw[<-qed];exact qbc _ hi
   rw[qo,qan,hlen,hfl,hesz];omega
  ·intro j u hu;rw[qau]at hu;split at hu
   ·rw[qba]at hu;have:=hc _ _ hu
    rwa [<-qdw]at this
   ·cases hu
  ·intro j u c hu hcc;rw[qau]at hu;split at hu
   ·rename_i hj;rw[qba]at hu;exact hr _ _ _ hu (by rw[k7p hsz he j hj];exact hcc)
   ·cases hu
end
end Go.Bv
namespace Go.Bv
open Go.RowKit
section
variable {P:Program} {G:Gh} {w:World} {h:Hp} {nx:Nat}
theorem kn1 {K:V->Prop} {op:BinOp} {x y:V} (hb:binA K op x y) {vx vy:Value} (hx:RepV G w h nx vx x) (hy:RepV G w h nx vy y) (t:TypeId) (ox oy:Operand):
  ∃v z,(do eqGuard op t ox oy vx vy;binOp op t vx vy:Sem Value).run P w= .ok v w/\RepV G w h nx v z/\K z:=by
 unfold binA at hb;split at hb
 ·rename_i k a k' b;cases hx with|d _ _ hd=>
  cases hd;cases hy with|d _ _ hd=>
  cases hd;have h1:(eqGuard op t ox oy (.int k a) (.int k' b)).run P w= .ok () w:=by unfold eqGuard;cases op<;>simp
  simp only[qp,h1,qi]
  have fin:∀(d:D) (v:Value),RepD G.lim w v d->K (.d d)->(binOp op t (.int k a) (.int k' b)).run P w= .ok v w->
    ∃v z,(binOp op t (.int k a) (.int k' b)).run P w= .ok v w/\RepV G w h nx v z/\K z:=fun d v h1 h2 h3=>⟨v,.d d,h3,.d _ _ h1,h2⟩
  cases op
  case shl=>simp only[shiftA]at hb;exact fin _ _ (.int _ _) hb.2 (by have:=hb.1;simp[binOp,Op.shift,show¬b<0 by omega])
  case shr=>simp only[shiftA]at hb;exact fin _ _ (.int _ _) hb.2 (by have:=hb.1;simp[binOp,Op.shift,show¬b<0 by omega])
  case quo=>simp only[intA]at hb;obtain⟨rfl,h2,h3⟩:=hb;exact fin _ _ (.int _ _) h3 (by simp[binOp,Op.intDiv,h2])
  case rem=>simp only[intA]at hb;obtain⟨rfl,h2,h3⟩:=hb;exact fin _ _ (.int _ _) h3 (by simp[binOp,Op.intDiv,h2])
  case eql=>simp only[intA]at hb;obtain⟨rfl,h3⟩:=hb;exact fin _ _ (.bool _) h3 (by simp[binOp,Op.intCmp])
  case neq=>simp only[intA]at hb;obtain⟨rfl,h3⟩:=hb;exact fin _ _ (.bool _) h3 (by simp[binOp,Op.intCmp])
  case lss=>simp only[intA]at hb;obtain⟨rfl,h3⟩:=hb;exact fin _ _ (.bool _) h3 (by simp[binOp,Op.intCmp])
  case leq=>simp only[intA]at hb;obtain⟨rfl,h3⟩:=hb;exact fin _ _ (.bool _) h3 (by simp[binOp,Op.intCmp])
  case gtr=>simp only[intA]at hb;obtain⟨rfl,h3⟩:=hb;exact fin _ _ (.bool _) h3 (by simp[binOp,Op.intCmp])
  case geq=>simp only[intA]at hb;obtain⟨rfl,h3⟩:=hb;exact fin _ _ (.bool _) h3 (by simp[binOp,Op.intCmp])
  case add=>simp only[intA]at hb;obtain⟨rfl,h3⟩:=hb;exact fin _ _ (.int _ _) h3 (by simp[binOp,Op.intArith])
  case sub=>simp only[intA]at hb;obtain⟨rfl,h3⟩:=hb;exact fin _ _ (.int _ _) h3 (by simp[binOp,Op.intArith])
  case mul=>simp only[intA]at hb;obtain⟨rfl,h3⟩:=hb;exact fin _ _ (.int _ _) h3 (by simp[binOp,Op.intArith])
  case and=>simp only[intA]at hb;obtain⟨rfl,h3⟩:=hb;exact fin _ _ (.int _ _) h3 (by simp[binOp,Op.intBits])
  case or=>simp only[intA]at hb;obtain⟨rfl,h3⟩:=hb;exact fin _ _ (.int _ _) h3 (by simp[binOp,Op.intBits])
  case xor=>simp only[intA]at hb;obtain⟨rfl,h3⟩:=hb;exact fin _ _ (.int _ _) h3 (by simp[binOp,Op.intBits])
  case andNot=>simp only[intA]at hb;obtain⟨rfl,h3⟩:=hb;exact fin _ _ (.int _ _) h3 (by simp[binOp,Op.intBits])
 ·exact hb.elim
theorem kpl {K:V->Prop} {op:UnOp} {x:V} (hb:unA K op x) {vx:Value} (hx:RepV G w h nx vx x):
  ∃v z,(Op.unary op vx).run P w= .ok v w/\RepV G w h nx v z/\K z:=by
 unfold unA at hb;split at hb
 ·cases hx with|d _ _ hd=>
  cases hd;split at hb
  ·exact⟨_,_,by simp[Op.unary],.d _ _ (.bool _),hb⟩
  ·exact hb.elim
 ·cases hx with|d _ _ hd=>
  cases hd;split at hb
  ·exact⟨_,_,by simp only[Op.unary,Op.intArith,qw],.d _ _ (.int _ _),hb⟩
  ·exact hb.elim
 ·exact hb.elim
theorem kly {K:V->Prop} {s t:TypeId} {x:V} (hb:convA K (P.underlying t) x) (hs:(P.underlying s).isSome=true) {vx:Value} (hx:RepV G w h nx vx x):
  ∃v z,(convert s t vx).run P w= .ok v w/\RepV G w h nx v z/\K z:=by
 obtain⟨u,hu⟩:=qab.1 hs;unfold convA at hb;split at hb
 ·cases hx with|d _ _ hd=>
  cases hd;split at hb
  ·rename_i k hk;refine⟨_,_,?_,.d _ _ (.int _ _),hb⟩;simp only[convert,qp,qz hu,qz hk,qi];simp[Conv.intToInt]
  ·exact hb.elim
 ·exact hb.elim
theorem kgq {t:TypeId} {f o n:Nat} {a:Bool} (hf:fldOf P t f=some (o,a,n)):
  ∃fs g,P.underlying t=some (.struct fs)/\fs[f]? =some g/\g.offset=o/\tyOf P g.type=some (a,n)/\n≠0:=by
 unfold fldOf at hf;split at hf
 ·rename_i fs hu;split at hf
  ·rename_i g hg;split at hf
   ·rename_i a' n' ht;simp only[qah,qfg]at hf;obtain⟨h1,h2,h3⟩:=hf;subst h2;subst h3;exact⟨fs,g,hu,hg,h1,ht,by omega⟩
   ·cases hf
  ·cases hf
 ·cases hf
theorem klc {K:V->Prop} {t:TypeId} {f:Nat} {x:V} (hb:fieldA K (fldOf P t f) x) {vx:Value} (hx:RepV G w h nx vx x):
  ∃v z,(Instr.field t vx f).run P w= .ok v w/\RepV G w h nx v z/\K z:=by
 unfold fieldA at hb;split at hb
 ·split at hb
  ·rename_i l o a n hf;obtain⟨fs,g,hu,hg,ho,ht,_⟩:=kgq hf;cases hx with|agg vs _ hlen hone hr=>obtain⟨v,z,h1,_,_,h2,h3⟩:=k80 (w:=w) ht hb (qey hlen.symm) hone hr;refine⟨v,z,?_,h2,h3⟩;simp only[Instr.field,qp,qz hu,qi,hg,asAgg,qw,ho];exact h1
  ·exact hb.elim
 ·exact hb.elim
theorem kl0 {K:V->Prop} {t:TypeId} {f:Nat} {x:V} (hb:faddrA K (fldOf P t f) x) {vx:Value} (hx:RepV G w h nx vx x):
  ∃v z,(Instr.fieldAt t vx f).run P w= .ok v w/\RepV G w h nx v z/\K z:=by
 have main:∀(b off o n:Nat) (a:Bool),fldOf P t f=some (o,a,n)->(Instr.fieldAt t (.pointer (some ⟨b,off,none⟩)) f).run P w= .ok (.pointer (some ⟨b,off+o,none⟩)) w:=by intro b off o n a hf;obtain⟨fs,g,hu,hg,ho,ht,hn⟩:=kgq hf;have:=(ku ht w).2;simp only[Instr.fieldAt,qp,qz hu,qi,hg,Instr.sureAddr,qw,fieldPlace,this,qe hn,add_mk,ho]
 unfold faddrA at hb;split at hb
 ·split at hb
  ·rename_i id off _ o a n hf;cases hx with|ptr _ _ b hid hl=>exact⟨_,_,main _ _ _ _ _ hf,.ptr _ _ _ hid hl,hb⟩
  ·exact hb.elim
 ·split at hb
  ·rename_i l _ o a n hf;cases hx with|ro b off _ vs hlen hone hc hr=>
   refine⟨_,_,main _ _ _ _ _ hf,.ro b (off+o) (l.drop o) (vs.drop o) (by simp[hlen]) (fun c hc=>hone c (qbo hc)) ?_ ?_,hb⟩
   ·intro j u hu;rw[qba]at hu;have:=hc _ _ hu
    rwa [<-qdw]at this
   ·intro j u c hu hcc;rw[qba]at hu hcc;exact hr _ _ _ hu hcc
  ·exact hb.elim
 ·exact hb.elim
theorem k4e {t:TypeId} {a:Bool} {n:Nat} (he:elemOf P t=some (a,n)):∃e,P.underlying t=some (.slice e)/\tyOf P e=some (a,n):=by
 unfold elemOf at he;split at he
 ·exact⟨_,by assumption,he⟩
 ·cases he
theorem kgr {t:TypeId} {m n:Nat} {a:Bool} (he:arrOf P t=some (m,a,n)):∃e,P.underlying t=some (.array m e)/\tyOf P e=some (a,n):=by
 unfold arrOf at he;split at he
 ·rename_i m' e hu;cases ht:tyOf P e with
  |none=>simp[ht]at he
  |some p=>obtain⟨a',n'⟩:=p;simp[ht]at he;obtain⟨rfl,rfl,rfl⟩:=he;exact⟨e,hu,ht⟩
 ·cases he
theorem klm {K:V->Prop} {t:TypeId} {x i:V} (hb:iaddrA K (elemOf P t) (arrOf P t) x i) {vx vi:Value} (hx:RepV G w h nx vx x) (hi:RepV G w h nx vi i):
  ∃v z,(Instr.indexAt t vx vi).run P w= .ok v w/\RepV G w h nx v z/\K z:=by
 unfold iaddrA at hb;split at hb
 ·rename_i q i;cases hi with|d _ _ hd=>
  cases hd;split at hb
  ·rename_i a sz hel;obtain⟨e,hu,ht⟩:=k4e hel;split at hb
   ·rename_i l hl;obtain⟨h0,d,hd,hk⟩:=hb;obtain⟨b,off,cap,rfl,hro⟩:=kpd (h:=h) (nx:=nx) (els_rep hl hx) hd;have hlt:i.toNat<l.length:=(qf.1 hd).1;refine⟨_,_,?_,hro,hk⟩;have hs:=(ku ht w).2;simp only[Instr.indexAt,asIntOf,qp,qw,qi,qz hu];rw[qh ⟨h0,by omega⟩];simp only[qp,hs,qi,qw,add_mk]
   ·exact hb.elim
  ·rename_i m a sz _ har;obtain⟨e,hu,ht⟩:=kgr har;have hs:=(ku ht w).2;have main:∀b off:Nat,0<=i->i<m->(Instr.indexAt t (.pointer (some ⟨b,off,none⟩)) (.int q i)).run P w= .ok (.pointer (some ⟨b,off+i.toNat*sz,none⟩)) w:=by intro b off h0 h1;simp only[Instr.indexAt,asIntOf,qp,qw,qi,qz hu,Instr.sureAddr];rw[qh ⟨h0,h1⟩];simp only[qp,hs,qi,qw,add_mk]
   split at hb
   ·obtain⟨h0,h1,hk⟩:=hb;cases hx with|ptr _ _ b hid hl=>exact⟨_,_,main _ _ h0 h1,.ptr _ _ _ hid hl,hk⟩
   ·rename_i l;obtain⟨h0,h1,hk⟩:=hb;cases hx with|ro b off _ vs hlen hone hc hr=>
    refine⟨_,_,main _ _ h0 h1,.ro b _ (l.drop (i.toNat*sz)) (vs.drop (i.toNat*sz)) (by simp[hlen]) (fun c hc=>hone c (qbo hc)) ?_ ?_,hk⟩
    ·intro j u hu;rw[qba]at hu;have:=hc _ _ hu
     rwa [<-qdw]at this
    ·intro j u c hu hcc;rw[qba]at hu hcc;exact hr _ _ _ hu hcc
   ·exact hb.elim
  ·exact hb.elim
 ·exact hb.elim
theorem kl5 {K:V->Prop} {t:TypeId} {x i:V} (hb:indexA K (arrOf P t) x i) (hstr:arrOf P t=none->P.underlying t=some .string) {vx vi:Value} (hx:RepV G w h nx vx x) (hi:RepV G w h nx vi i):
  ∃v z,(Instr.index t vx vi).run P w= .ok v w/\RepV G w h nx v z/\K z:=by
 unfold indexA at hb;split at hb
 ·rename_i l q i;cases hi with|d _ _ hd=>
  cases hd;split at hb
  ·rename_i m a sz har;obtain⟨e,hu,ht⟩:=kgr har;obtain⟨h0,h1,hp⟩:=hb;have hs:=(ku ht w).2;cases hx with|agg vs _ hlen hone hr=>obtain⟨v,z,h3,_,_,h4,h5⟩:=k80 (w:=w) ht hp (qey hlen.symm) hone hr;refine⟨v,z,?_,h4,h5⟩;simp only[Instr.index,asIntOf,qp,qw,qi,qz hu];rw[qh ⟨h0,h1⟩];simp only[qp,hs,qi,h3]
  ·exact hb.elim
 ·rename_i s q i;cases hi with|d _ _ hd=>
  cases hd;split at hb
  ·rename_i har;obtain⟨h0,c,hc,hk⟩:=hb;cases hx with|d _ _ hd=>cases hd;refine⟨_,_,?_,.d _ _ (.int _ _),hk⟩;simp only[Instr.index,asIntOf,qp,qw,qi,qz (hstr har),qh h0,hc]
  ·exact hb.elim
 ·exact hb.elim
end
end Go.Bv
namespace Go.Bv
open Go.RowKit
structure St where
 sl:List (Nat×V)
 h:Hp
 nx:Nat
def getS:List (Nat×V)->Nat->V
 |[],_=> .any
 |(i,x)::r,j=>if j=i then x else getS r j
def St.put (s:St):Option Nat->V->St
 |some t,x=>⟨(t,x)::s.sl,s.h,s.nx⟩
 |none,_=>s
def St.ev (s:St):Operand->V
 | .tmp t=>getS s.sl t
 | .const v=>V.ofK v
 | .global _=> .any
 | .func f=> .k (.func (.func f) #[] #[])
structure Tk where
 p:Nat->Prop
 h:Hp
 nx:Nat
instance:CoeFun Tk (fun _=>Nat->Prop):=⟨Tk.p⟩
def Tk.none:Tk:=⟨fun _=>False,[],0⟩
structure Ex (T:Tk) (G0:Gh) (w0:World) (G:Gh) (w:World) (h:Hp) (nx:Nat):Prop where
 hnx:T.nx<=nx
 loc:∀id b,id<T.nx->G0.loc id=some b->G.loc id=some b
 tok:∀tok t',tok<T.nx->h.get tok=some (.tip t')->∃t,T.h.get tok=some (.tip t)/\t<=t'/\
  (t=t'->∀b,G0.tloc tok=some b->G.tloc tok=some b/\w.heap[b]? =w0.heap[b]? /\G.lim b=G0.lim b)
 csz:∀b n,csz w0 b=some n->csz w b=some n
theorem Ex.ext {T:Tk} {G0 G G' :Gh} {w0 w w' :World} {h h' :Hp} {nx nx' :Nat} (a:Ex T G0 w0 G w h nx) (b:Ext G w h nx G' w' h' nx'):Ex T G0 w0 G' w' h' nx' :=by have hn:=a.hnx;refine⟨qbk a.hnx b.hnx,fun id k hi hk=>b.loc id k qqo (a.loc id k hi hk),fun tok t2 ht h2=> ?_,fun k n hk=>b.csz k n (a.csz k n hk)⟩;obtain⟨t',g1,g2,g3⟩:=b.tok tok t2 qqo h2;obtain⟨t,f1,f2,f3⟩:=a.tok tok t' ht g1;refine⟨t,f1,by omega,fun htt k hk=> ?_⟩;obtain⟨q1,q2,q3⟩:=f3 qqo k hk;obtain⟨r1,r2,r3⟩:=g3 qqo k q1;exact⟨r1,r2.trans q2,r3.trans q3⟩
structure Fr (T:Tk) (G0:Gh) (w0:World) (G:Gh) (w:World):Prop where
 os:w.os=w0.os
 tape:w.tape=w0.tape
 output:w.output=w0.output
 size:w0.heap.size<=w.heap.size
 same:∀b,b<w0.heap.size->¬T b->w.heap[b]? =w0.heap[b]? /\G.lim b=G0.lim b
 mono:Mono G0.lim w0 G.lim w
def EntR (G:Gh) (w:World) (h:Hp) (nx:Nat) (ms:List MapEntry) (es:List (D×V)):Prop:=ms.length=es.length/\(∀e∈es,∀l,e.2≠V.tup l)/\
  ∀(j:Nat) (m:MapEntry) (e:D×V),ms[j]? =some m->es[j]? =some e->RepD G.lim w m.key e.1/\RepV G w h nx m.val e.2
def Stp (ms:List MapEntry) (clk:Nat):Prop:=(∀m∈ms,m.born<clk)/\(ms.map (·.born)).Nodup
def MoR (G:Gh) (w:World) (h:Hp) (nx id:Nat):MO->Prop
 | .m es=>∃b clk ms,G.loc id=some b/\w.heap[b]? =some (.map (List.toArray ms) clk)/\EntR G w h nx ms es/\Stp ms clk
 | .it mid rest last=>∃b bm since seen c0,G.loc id=some b/\w.heap[b]? =some (.mapIter (some bm) since seen c0)/\mid<nx/\G.loc mid=some bm/\since<=c0/\
   ∀es,h.get mid=some (.map (.m es))->∃clk ms,w.heap[bm]? =some (.map (List.toArray ms) clk)/\((∀m∈ms,m.born<since)/\c0=clk)/\EntR G w h nx (ms.filter fun m=> !seen.contains m.born) rest/\
    ∀e,last=some e->(∀l,e.2≠V.tup l)/\∃(m:MapEntry) (seen0:Array Nat),m∈ms/\seen=seen0.push m.born/\RepD G.lim w m.key e.1/\RepV G w h nx m.val e.2
def MapR (G:Gh) (w:World) (h:Hp) (nx:Nat):Prop:=∀id x,h.get id=some (.map x)->MoR G w h nx id x
theorem EntR.tr {G G' :Gh} {w w' :World} {h h' :Hp} {nx nx' :Nat} {ms:List MapEntry} {es es' :List (D×V)} (hr:EntR G w h nx ms es) (hl:es'.length=es.length)
  (he:∀(j:Nat) (e e' :D×V),es[j]? =some e->es'[j]? =some e'->(∀l,e'.2=V.tup l->∃l,e.2=V.tup l)/\((∀l,e.2≠V.tup l)->∀k v,RepD G.lim w k e.1->RepV G w h nx v e.2->RepD G'.lim w' k e'.1/\RepV G' w' h' nx' v e'.2)):EntR G' w' h' nx' ms es' :=by
 obtain⟨h1,h2,h3⟩:=hr;refine⟨by rw[hl];exact h1,fun e' he' l hc=> ?_,fun j m e' hm he' => ?_⟩
 ·obtain⟨j,hj⟩:=qcf he';have hjl:j<es.length:=by have:=(qf.1 hj).1;omega
  obtain⟨l',hl'⟩:=(he j _ _ (qd hjl) hj).1 l hc;exact h2 _ (qak hjl) _ hl'
 ·have hjl:j<es.length:=by have:=(qf.1 he').1;omega
  obtain⟨q1,q2⟩:=h3 j m _ hm (qd hjl);exact(he j _ _ (qd hjl) he').2 (h2 _ (qak hjl)) _ _ q1 q2
theorem MoR.blk {G:Gh} {w:World} {h:Hp} {nx id:Nat} {x:MO} (hr:MoR G w h nx id x):∃b,G.loc id=some b/\∀c e p,w.heap[b]? ≠some (.cells c e p):=by
 cases x with
 |m es=>obtain⟨b,clk,ms,h1,h2,_⟩:=hr;exact⟨b,h1,fun c e p hc=>by rw[h2]at hc;cases hc⟩
 |it mid rest last=>obtain⟨b,bm,since,seen,c0,h1,h2,_⟩:=hr;exact⟨b,h1,fun c e p hc=>by rw[h2]at hc;cases hc⟩
structure WR (T:Tk) (base:Nat) (G:Gh) (w:World) (h:Hp) (nx:Nat):Prop where
 obj:ObjR G w h nx
 mob:MapR G w h nx
 here:∀id b,id<nx->(G.loc id=some b∨G.tloc id=some b)->b<w.heap.size/\(base<=b∨T b)
 inj:∀i j b,i<nx->j<nx->(G.loc i=some b∨G.tloc i=some b)->(G.loc j=some b∨G.tloc j=some b)->live h i->live h j->i=j
 hid:∀id ob,h.get id=some ob->id<nx
 lim:∀b,w.heap.size<=b->G.lim b=0
structure R (T:Tk) (G0:Gh) (w0:World) (N:Nat) (s:St) (a:Act) (G:Gh) (w:World):Prop where
 fr:Fr T G0 w0 G w
 wr:WR T w0.heap.size G w s.h s.nx
 df:a.defers=[]
 sz:a.tmps.size=N
 sl:∀t,RepV G w s.h s.nx (a.tmps.getD t undef) (getS s.sl t)
 ex:Ex T G0 w0 G w s.h s.nx
section
variable {P:Program} {T:Tk} {G0 G:Gh} {w0 w:World} {N:Nat} {s:St} {a:Act} {h:Hp} {nx:Nat}
theorem kco (v:Value):RepV G w h nx v (V.ofK1 v):=by
 unfold V.ofK1;split
 ·exact .d _ _ (.int _ _)
 ·exact .d _ _ (.bool _)
 ·exact .d _ _ (.str _)
 ·split
  ·exact .k _
  ·exact .any _
theorem kk9 {v:Value} (h1:v.oneCell' =true):(V.ofK1 v).one=true:=by
 unfold V.ofK1;split
 ·rfl
 ·rfl
 ·rfl
 ·rw[qh h1];exact h1
theorem kp7 (cs:List Value) (h1:∀c∈cs,c.oneCell' =true):RepV G w h nx (.agg cs.toArray) (.agg (cs.map V.ofK1)):=by
 refine .agg cs (cs.map V.ofK1) qqs (fun x hx=> ?_) (fun j v x hv hx=> ?_)
 ·obtain⟨c,hc,rfl⟩:=qag.1 hx;exact kk9 (h1 c hc)
 ·rw[ql,hv]at hx;injection hx with hx;subst hx;exact kco v
theorem ofK_rep (v:Value):RepV G w h nx v (V.ofK v):=by
 unfold V.ofK;split
 ·split
  ·rename_i cs hall
   have:=kp7 (G:=G) (w:=w) (h:=h) (nx:=nx) cs.toList (fun c hc=>by
    rw[Array.all_eq_true_iff_forall_mem]at hall;exact hall c (by simpa using hc))
   simpa using this
  ·exact .any _
 ·exact kco _
theorem R.ev (hR:R T G0 w0 N s a G w) (x:Operand):RepV G w s.h s.nx (a.eval x) (s.ev x):=by
 cases x with
 |tmp t=>exact hR.sl t
 |const v=>exact ofK_rep v
 |global g=>exact .any _
 |func f=>exact .k _
theorem R.put (hR:R T G0 w0 N s a G w) {v:Value} {x:V} (hv:RepV G w s.h s.nx v x) (d:Option Nat) (hd:∀t,d=some t->t<N):R T G0 w0 N (s.put d x) (a.put d v) G w:=by
 cases d with
 |none=>exact hR
 |some t=>
  refine⟨hR.fr,hR.wr,hR.df,by simpa[Act.put]using hR.sz,fun u=> ?_,hR.ex⟩;have ht:t<a.tmps.size:=by rw[hR.sz];exact hd t rfl
  simp only[St.put,getS,Act.put];by_cases hu:u=t
  ·subst hu;rw[qh rfl];simpa[ht]using hv
  ·rw[qe hu];have:=hR.sl u;have e:(a.tmps.setIfInBounds t v).getD u undef=a.tmps.getD u undef:=by simp[Ne.symm hu]
   rw[e];exact this
theorem Ext.drew (G:Gh) (w:World) (h:Hp) (nx:Nat):Ext G w h nx G w.drew h nx:=⟨fun _ _ _ h1 h2=>⟨h1,h2⟩,qt _,fun _ _ _ h=>h,fun _ t' _ h=>⟨t',h,qt _,fun _ _ hb=>⟨hb,rfl,rfl⟩⟩,fun _ _ h=>h⟩
theorem EntR.ext {G' :Gh} {w' :World} {h' :Hp} {nx' :Nat} {ms:List MapEntry} {es:List (D×V)} (hr:EntR G w h nx ms es) (he:Ext G w h nx G' w' h' nx'):EntR G' w' h' nx' ms es:=
 hr.tr rfl fun j e e' h1 h2=>by
  obtain rfl:e=e' :=by rw[h1]at h2;injection h2
  exact⟨fun l hl=>⟨l,hl⟩,fun _ k v q1 q2=>⟨q1.mono he.mono,q2.ext he⟩⟩
theorem MapR.ext {G' :Gh} {w' :World} {h' :Hp} {nx' :Nat} (hm:MapR G w h nx) (he:Ext G w h nx G' w' h' nx') (hget:∀id x,h'.get id=some (.map x)->h.get id=some (.map x))
  (hid:∀id ob,h.get id=some ob->id<nx) (hheap:∀id b x,h'.get id=some (.map x)->G.loc id=some b->w'.heap[b]? =w.heap[b]?):MapR G' w' h' nx' :=by
 intro id x hes;have hg:=hget id x hes;have hr:=hm id x hg;cases x with
 |m es=>obtain⟨b,clk,ms,h1,h2,h3,h4⟩:=hr;exact⟨b,clk,ms,he.loc id b (hid _ _ hg) h1,(hheap id b _ hes h1).trans h2,h3.ext he,h4⟩
 |it mid rest last=>obtain⟨b,bm,since,seen,c0,h1,h2,h3,h4,h5,h6⟩:=hr;refine⟨b,bm,since,seen,c0,he.loc id b (hid _ _ hg) h1,(hheap id b _ hes h1).trans h2,qas h3 he.hnx,he.loc mid bm h3 h4,h5,fun es hm' => ?_⟩;obtain⟨clk,ms,q1,q2,q3,q4⟩:=h6 es (hget mid _ hm');refine⟨clk,ms,(hheap mid bm _ hm' h4).trans q1,q2,q3.ext he,fun e hl=> ?_⟩;obtain⟨n1,m,seen0,n2,n3,n4,n5⟩:=q4 e hl;exact⟨n1,m,seen0,n2,n3,n4.mono he.mono,n5.ext he⟩
theorem RepV.drew {v:Value} {x:V} (hv:RepV G w h nx v x):RepV G w.drew h nx v x:=RepV.ext (G:=G) (w:=w) (h:=h) (nx:=nx) (G' :=G) (w' :=w.drew) (h' :=h) (nx' :=nx) ⟨fun _ _ _ h1 h2=>⟨h1,h2⟩,qt _,fun _ _ _ h=>h,fun _ t' _ h=>⟨t',h,qt _,fun _ _ hb=>⟨hb,rfl,rfl⟩⟩,fun _ _ h=>h⟩ hv
theorem R.drew (hR:R T G0 w0 N s a G w):R T G0 w0 N s a G w.drew:=
  ⟨⟨hR.fr.os,hR.fr.tape,hR.fr.output,hR.fr.size,hR.fr.same,hR.fr.mono⟩,
   ⟨fun id l hl=>(hR.wr.obj id l hl).imp (fun h=>h) fun⟨b,e,cs,h1,h2,h3,h4,h5,h6⟩=>⟨b,e,cs,h1,h2,h3,h4,h5,fun j v x hv hx=>(h6 j v x hv hx).drew⟩,
    hR.wr.mob.ext (Ext.drew G w s.h s.nx) (fun _ _ h=>h) hR.wr.hid (fun _ _ _ _ _=>rfl),hR.wr.here,hR.wr.inj,hR.wr.hid,hR.wr.lim⟩,
   hR.df,hR.sz,fun t=>(hR.sl t).drew,⟨hR.ex.hnx,hR.ex.loc,hR.ex.tok,hR.ex.csz⟩⟩
theorem csz_lt {b n:Nat} (h:csz w b=some n):b<w.heap.size:=by
 unfold csz at h;split at h
 ·rename_i hb;exact(qdx.1 hb).1
 ·cases h
theorem k2z (hlim:∀b,w.heap.size<=b->G.lim b=0) (o:Obj) {m' :Nat->Nat} (hm:∀b,b≠w.heap.size->m' b=G.lim b):Mono G.lim w m' (w.alloc o):=by
 intro b off v h1 h2
 have hb:b<w.heap.size:=by
  rcases qaz b w.heap.size with h|h
  ·exact h
  ·rw[hlim b h]at h1;omega
 exact⟨by rw[hm b qqo];exact h1,by rw[World.cell?_alloc_lt w o ⟨b,off,none⟩ hb];exact h2⟩
theorem Fr.alloc (hF:Fr T G0 w0 G w) (hlim:∀b,w.heap.size<=b->G.lim b=0) (o:Obj) (G' :Gh) (hm:∀b,b≠w.heap.size->G'.lim b=G.lim b):Fr T G0 w0 G' (w.alloc o):=
 ⟨hF.os,hF.tape,hF.output,by simpa using Nat.le_succ_of_le hF.size,fun b hb hT=>by
  obtain⟨h1,h2⟩:=hF.same b hb hT;have:=hF.size;exact⟨by rw[Below.heap_alloc w o b qqo];exact h1,by rw[hm b qqo];exact h2⟩,hF.mono.trans (k2z hlim o hm)⟩
theorem kgi (hw:WR T w0.heap.size G w h nx) (o:Obj) (G' :Gh) (h' :Hp) (hm:∀b,b≠w.heap.size->G'.lim b=G.lim b) (hl:∀i,i<nx->G'.loc i=G.loc i/\G'.tloc i=G.tloc i)
  (hh:∀i,i<nx->h'.get i=h.get i) {nx' :Nat} (hn:nx<=nx'):Ext G w h nx G' (w.alloc o) h' nx' :=
 ⟨k2z hw.lim o hm,hn,fun id b hi hb=>by rw[(hl id hi).1];exact hb,fun tok t' ht h1=>by
  rw[hh tok ht]at h1;refine⟨t',h1,qt _,fun _ b hb=> ?_⟩;have:=(hw.here tok b ht (.inr hb)).1;exact⟨by rw[(hl tok ht).2];exact hb,Below.heap_alloc w o b qqo,hm b qqo⟩,fun b n hb=>by rw[k3h (Below.heap_alloc w o b (csz_lt hb))];exact hb⟩
theorem k5k (hw:WR T w0.heap.size G w h nx) (o:Obj) {G' :Gh} {h' :Hp} {nx' :Nat} (he:Ext G w h nx G' (w.alloc o) h' nx') (hget:∀id es,h'.get id=some (.map es)->h.get id=some (.map es)):MapR G' (w.alloc o) h' nx' :=hw.mob.ext he hget hw.hid (fun id b es hes hb=>Below.heap_alloc w o b (hw.here id b (hw.hid _ _ (hget id es hes)) (.inl hb)).1)
theorem R.allocP (hR:R T G0 w0 N s a G w) (e:TypeId) (cs:List Value) (l:List V) (hlen:l.length<=cs.length) (hone:∀x∈l,x.one=true)
  (hr:∀(j:Nat) (v:Value) (x:V),cs[j]? =some v->l[j]? =some x->RepV G w s.h s.nx v x):
  ∃G',R T G0 w0 N ⟨s.sl,(s.nx,.cells l)::s.h,s.nx+1⟩ a G' (w.alloc (.cells cs.toArray e))/\RepV G' (w.alloc (.cells cs.toArray e)) ((s.nx,.cells l)::s.h) (s.nx+1) (.pointer (some ⟨w.heap.size,0,none⟩)) (.ptr s.nx 0):=by
 have hw:=hR.wr;let G' :Gh:=⟨fun i=>if i=s.nx then some w.heap.size else G.loc i,fun i=>if i=s.nx then none else G.tloc i,G.lim⟩;have hll:∀i,i<s.nx->G'.loc i=G.loc i/\G'.tloc i=G.tloc i:=fun i hi=>by simp[G',show i≠s.nx by omega]
 have hge:∀i,i<s.nx->Hp.get ((s.nx,.cells l)::s.h) i=s.h.get i:=fun i hi=>by simp[Hp.get,show i≠s.nx by omega]
 have he:=kgi (w0:=w0) hw (.cells cs.toArray e) G' ((s.nx,.cells l)::s.h) (fun _ _=>rfl) hll hge (nx' :=s.nx+1) qqo;refine⟨G',⟨hR.fr.alloc hw.lim _ G' (fun _ _=>rfl),⟨?_,k5k hw _ he (fun id es hg=>by simp only[Hp.get]at hg;split at hg;(· cases hg);exact hg),?_,?_,?_,?_⟩,hR.df,hR.sz,fun t=>(hR.sl t).ext he,hR.ex.ext he⟩,.ptr _ _ _ qqo (by simp[G'])⟩
 ·intro id l' hl';simp only[Hp.get]at hl';split at hl'
  ·rename_i hid;subst hid;injection hl' with hl';injection hl' with hl';subst hl';exact .inr ⟨w.heap.size,e,cs,by simp[G'],qcw w _,hw.lim _ (qt _),hlen,hone,fun j v x hv hx=>(hr j v x hv hx).ext he⟩
  ·have hid:=hw.hid id _ hl';rcases hw.obj id l' hl' with⟨z1,z2⟩|⟨b,e',cs',h1,h2,h3,h4,h5,h6⟩
   ·exact .inl ⟨z1,by rw[(hll id hid).1];exact z2⟩
   have hb:=(hw.here id b hid (.inl h1)).1;exact .inr ⟨b,e',cs',by rw[(hll id hid).1];exact h1,by rw[Below.heap_alloc w _ b hb];exact h2,h3,h4,h5,fun j v x hv hx=>(h6 j v x hv hx).ext he⟩
 ·intro id b hid hb;have hid:id<s.nx+1:=hid;by_cases hi:id=s.nx
  ·subst hi;simp[G']at hb;subst hb;have:=hR.fr.size;exact⟨by simp,.inl this⟩
  ·have h1:=hll id qqo;rw[h1.1,h1.2]at hb;obtain⟨h2,h3⟩:=hw.here id b qqo hb;exact⟨by simp;omega,h3⟩
 ·intro i j b hi hj hbi hbj li lj
  have key:∀i,i<s.nx+1->(G'.loc i=some b∨G'.tloc i=some b)->(i=s.nx/\b=w.heap.size)∨(i<s.nx/\b<w.heap.size/\(G.loc i=some b∨G.tloc i=some b)):=by
   intro i hi hb;by_cases h0:i=s.nx
   ·subst h0;simp[G']at hb;exact .inl ⟨rfl,hb.symm⟩
   ·have h1:=hll i qqo;rw[h1.1,h1.2]at hb;exact .inr ⟨by omega,(hw.here i b qqo hb).1,hb⟩
  rcases key i hi hbi with⟨h1,h2⟩|⟨h1,h2,h3⟩<;>rcases key j hj hbj with⟨h4,h5⟩|⟨h4,h5,h6⟩
  ·omega
  ·omega
  ·omega
  ·exact hw.inj i j b h1 h4 h3 h6 (live_eq (hge i h1) li) (live_eq (hge j h4) lj)
 ·intro id ob hg;show id<s.nx+1;simp only[Hp.get]at hg;split at hg
  ·omega
  ·have:=hw.hid id ob hg;omega
 ·intro b hb;exact hw.lim b (by simp at hb;omega)
theorem R.alloc (hR:R T G0 w0 N s a G w) (e:TypeId) (cs:List Value) (l:List V) (hlen:cs.length=l.length) (hone:∀x∈l,x.one=true)
  (hr:∀(j:Nat) (v:Value) (x:V),cs[j]? =some v->l[j]? =some x->RepV G w s.h s.nx v x):
  ∃G',R T G0 w0 N ⟨s.sl,(s.nx,.cells l)::s.h,s.nx+1⟩ a G' (w.alloc (.cells cs.toArray e))/\RepV G' (w.alloc (.cells cs.toArray e)) ((s.nx,.cells l)::s.h) (s.nx+1) (.pointer (some ⟨w.heap.size,0,none⟩)) (.ptr s.nx 0):=
 hR.allocP e cs l (qey hlen.symm) hone hr
theorem R.allocAtP (hR:R T G0 w0 N s a G w) (k:Nat) (hk:k<s.nx) (hkl:G.loc k=none) (hkt:G.tloc k=none) (hkh:s.h.get k=none) (e:TypeId) (cs:List Value) (l:List V) (hlen:l.length<=cs.length) (hone:∀x∈l,x.one=true)
  (hr:∀(j:Nat) (v:Value) (x:V),cs[j]? =some v->l[j]? =some x->RepV G w s.h s.nx v x):
  ∃G',R T G0 w0 N ⟨s.sl,(k,.cells l)::s.h,s.nx⟩ a G' (w.alloc (.cells cs.toArray e))/\RepV G' (w.alloc (.cells cs.toArray e)) ((k,.cells l)::s.h) s.nx (.pointer (some ⟨w.heap.size,0,none⟩)) (.ptr k 0)/\
   ∀i,i≠k->G'.loc i=G.loc i/\G'.tloc i=G.tloc i:=by
 have hw:=hR.wr;let G' :Gh:=⟨fun i=>if i=k then some w.heap.size else G.loc i,G.tloc,G.lim⟩;have hll:∀i,i≠k->G'.loc i=G.loc i/\G'.tloc i=G.tloc i:=fun i hi=>by simp[G',hi]
 have hge:∀i,i≠k->Hp.get ((k,.cells l)::s.h) i=s.h.get i:=fun i hi=>by simp[Hp.get,hi]
 have he:Ext G w s.h s.nx G' (w.alloc (.cells cs.toArray e)) ((k,.cells l)::s.h) s.nx:=by
  refine⟨k2z hw.lim _ (fun _ _=>rfl),qt _,fun id b hi hb=> ?_,fun tok t' ht h1=> ?_,fun b n hb=> ?_⟩
  ·by_cases hik:id=k
   ·subst hik;rw[hkl]at hb;cases hb
   ·rw[(hll id hik).1];exact hb
  ·by_cases hik:tok=k
   ·subst hik;simp[Hp.get]at h1
   ·rw[hge tok hik]at h1;refine⟨t',h1,qt _,fun _ b hb=> ?_⟩;have:=(hw.here tok b ht (.inr hb)).1;exact⟨hb,Below.heap_alloc w _ b qqo,rfl⟩
  ·rw[k3h (Below.heap_alloc w _ b (csz_lt hb))];exact hb
 refine⟨G',⟨hR.fr.alloc hw.lim _ G' (fun _ _=>rfl),⟨?_,k5k hw _ he (fun id es hg=>by simp only[Hp.get]at hg;split at hg;(· cases hg);exact hg),?_,?_,?_,?_⟩,hR.df,hR.sz,fun t=>(hR.sl t).ext he,hR.ex.ext he⟩,.ptr _ _ _ hk (by simp[G']),hll⟩
 ·intro id l' hl';simp only[Hp.get]at hl';split at hl'
  ·rename_i hid;subst hid;injection hl' with hl';injection hl' with hl';subst hl';exact .inr ⟨w.heap.size,e,cs,by simp[G'],qcw w _,hw.lim _ (qt _),hlen,hone,fun j v x hv hx=>(hr j v x hv hx).ext he⟩
  ·rename_i hne;rcases hw.obj id l' hl' with⟨z1,z2⟩|⟨b,e',cs',h1,h2,h3,h4,h5,h6⟩
   ·exact .inl ⟨z1,by rw[(hll id hne).1];exact z2⟩
   have hid:=hw.hid id _ hl';have hb:=(hw.here id b hid (.inl h1)).1;exact .inr ⟨b,e',cs',by rw[(hll id hne).1];exact h1,by rw[Below.heap_alloc w _ b hb];exact h2,h3,h4,h5,fun j v x hv hx=>(h6 j v x hv hx).ext he⟩
 ·intro id b hid hb;by_cases hi:id=k
  ·subst hi;simp[G',hkt]at hb;subst hb;have:=hR.fr.size;exact⟨by simp,.inl this⟩
  ·have h1:=hll id hi;rw[h1.1,h1.2]at hb;obtain⟨h2,h3⟩:=hw.here id b hid hb;exact⟨by simp;omega,h3⟩
 ·intro i j b hi hj hbi hbj li lj
  have key:∀i,i<s.nx->(G'.loc i=some b∨G'.tloc i=some b)->(i=k/\b=w.heap.size)∨(i≠k/\b<w.heap.size/\(G.loc i=some b∨G.tloc i=some b)):=by
   intro i hi hb;by_cases h0:i=k
   ·subst h0;simp[G',hkt]at hb;exact .inl ⟨rfl,hb.symm⟩
   ·have h1:=hll i h0;rw[h1.1,h1.2]at hb;exact .inr ⟨h0,(hw.here i b hi hb).1,hb⟩
  rcases key i hi hbi with⟨h1,h2⟩|⟨h1,h2,h3⟩<;>rcases key j hj hbj with⟨h4,h5⟩|⟨h4,h5,h6⟩
  ·omega
  ·omega
  ·omega
  ·exact hw.inj i j b hi hj h3 h6 (live_eq (hge i h1) li) (live_eq (hge j h4) lj)
 ·intro id ob hg;simp only[Hp.get]at hg;split at hg
  ·rename_i h;subst h;exact hk
  ·exact hw.hid id ob hg
 ·intro b hb;exact hw.lim b (by simp at hb;omega)
theorem R.allocAt (hR:R T G0 w0 N s a G w) (k:Nat) (hk:k<s.nx) (hkl:G.loc k=none) (hkt:G.tloc k=none) (hkh:s.h.get k=none) (e:TypeId) (cs:List Value) (l:List V) (hlen:cs.length=l.length) (hone:∀x∈l,x.one=true)
  (hr:∀(j:Nat) (v:Value) (x:V),cs[j]? =some v->l[j]? =some x->RepV G w s.h s.nx v x):
  ∃G',R T G0 w0 N ⟨s.sl,(k,.cells l)::s.h,s.nx⟩ a G' (w.alloc (.cells cs.toArray e))/\RepV G' (w.alloc (.cells cs.toArray e)) ((k,.cells l)::s.h) s.nx (.pointer (some ⟨w.heap.size,0,none⟩)) (.ptr k 0)/\
   ∀i,i≠k->G'.loc i=G.loc i/\G'.tloc i=G.tloc i:=hR.allocAtP k hk hkl hkt hkh e cs l (qey hlen.symm) hone hr
theorem R.raise (hR:R T G0 w0 N s a G w) (n:Nat):∃G',R T G0 w0 N ⟨s.sl,s.h,s.nx+n⟩ a G' w/\(∀i,s.nx<=i->G'.loc i=none/\G'.tloc i=none):=by
 have hw:=hR.wr;let G' :Gh:=⟨fun i=>if i<s.nx then G.loc i else none,fun i=>if i<s.nx then G.tloc i else none,G.lim⟩;have hlo:∀i,i<s.nx->G'.loc i=G.loc i/\G'.tloc i=G.tloc i:=fun i hi=>by simp[G',hi]
 have he:Ext G w s.h s.nx G' w s.h (s.nx+n):=⟨Mono.refl _ _,by omega,fun id b hi hb=>by rw[(hlo id hi).1];exact hb,fun tok t' ht h1=>⟨t',h1,qt _,fun _ b hb=>⟨by rw[(hlo tok ht).2];exact hb,rfl,rfl⟩⟩,fun _ _ h=>h⟩
 have hsome:∀i b,(G'.loc i=some b∨G'.tloc i=some b)->i<s.nx/\(G.loc i=some b∨G.tloc i=some b):=by
  intro i b hb;by_cases hin:i<s.nx
  ·rw[(hlo i hin).1,(hlo i hin).2]at hb;exact⟨hin,hb⟩
  ·simp[G',hin]at hb
 refine⟨G',⟨⟨hR.fr.os,hR.fr.tape,hR.fr.output,hR.fr.size,hR.fr.same,hR.fr.mono⟩,⟨?_,hw.mob.ext he (fun _ _ h=>h) hw.hid (fun _ _ _ _ _=>rfl),?_,?_,?_,hw.lim⟩,hR.df,hR.sz,fun t=>(hR.sl t).ext he,hR.ex.ext he⟩,fun i hi=>by simp[G',show¬i<s.nx by omega]⟩
 ·intro id l' hl';have hid:=hw.hid id _ hl';rcases hw.obj id l' hl' with⟨z1,z2⟩|⟨b,e',cs',h1,h2,h3,h4,h5,h6⟩
  ·exact .inl ⟨z1,by rw[(hlo id hid).1];exact z2⟩
  exact .inr ⟨b,e',cs',by rw[(hlo id hid).1];exact h1,h2,h3,h4,h5,fun j v x hv hx=>(h6 j v x hv hx).ext he⟩
 ·intro id b _ hb;obtain⟨h1,h2⟩:=hsome id b hb;exact hw.here id b h1 h2
 ·intro i j b _ _ hbi hbj li lj;obtain⟨h1,h2⟩:=hsome i b hbi;obtain⟨h3,h4⟩:=hsome j b hbj;exact hw.inj i j b h1 h3 h2 h4 li lj
 ·intro id ob hg;have:=hw.hid id ob hg;show id<s.nx+n;omega
theorem R.same {s' :St} (hR:R T G0 w0 N s a G w) (h1:∀t,getS s'.sl t=getS s.sl t) (h2:∀i,s'.h.get i=s.h.get i) (h3:s'.nx=s.nx):R T G0 w0 N s' a G w:=by
 have he:Ext G w s.h s.nx G w s'.h s'.nx:=⟨Mono.refl _ _,by omega,fun _ _ _ h=>h,fun tok t' _ h=>⟨t',by rw[h2]at h;exact h,qt _,fun _ _ hb=>⟨hb,rfl,rfl⟩⟩,fun _ _ h=>h⟩;have hw:=hR.wr;refine⟨hR.fr,⟨?_,hw.mob.ext he (fun id es hg=>by rw[h2]at hg;exact hg) hw.hid (fun _ _ _ _ _=>rfl),?_,?_,?_,hw.lim⟩,hR.df,hR.sz,fun t=>by rw[h1];exact(hR.sl t).ext he,hR.ex.ext he⟩
 ·intro id l hl;rw[h2]at hl;rcases hw.obj id l hl with h0|⟨b,e',cs',k1,k2,k3,k4,k5,k6⟩
  ·exact .inl h0
  exact .inr ⟨b,e',cs',k1,k2,k3,k4,k5,fun j v x hv hx=>(k6 j v x hv hx).ext he⟩
 ·intro id b hi;rw[h3]at hi;exact hw.here id b hi
 ·intro i j b hi hj p q li lj;rw[h3]at hi hj;exact hw.inj i j b hi hj p q (live_eq (h2 i) li) (live_eq (h2 j) lj)
 ·intro id ob hg;rw[h2]at hg;rw[h3];exact hw.hid id ob hg
theorem R.same' (hR:R T G0 w0 N s a G w) {id:Nat} {o:Ob} (hg:s.h.get id=some o):R T G0 w0 N ⟨s.sl,(id,o)::s.h,s.nx⟩ a G w:=
 hR.same (fun _=>rfl) (fun i=>by
  by_cases hi:i=id
  ·subst hi;simp[Hp.get,hg]
  ·simp[Hp.get,hi]) rfl
end
end Go.Bv
namespace Go.Bv
open Go.RowKit
section
variable {P:Program} {T:Tk} {G0 G:Gh} {w0 w:World} {N:Nat} {s:St} {a:Act} {h:Hp} {nx:Nat}
def Gh.setLim (G:Gh) (b m:Nat):Gh:=⟨G.loc,G.tloc,fun i=>if i=b then m else G.lim i⟩
theorem k76 {base:Nat} (hw:WR T base G w h nx) {id b m' :Nat} (hid:id<nx) (hlv:live h id) (hb:G.loc id=some b∨G.tloc id=some b) {cur cs' :Array Value} {e:TypeId}
  (hheap:w.heap[b]? =some (.cells cur e (0,0))) (hm:G.lim b<=m') (hkeep:∀o v,o<G.lim b->cur[o]? =some v->cs'[o]? =some v) (hcs:cs'.size=cur.size) (ob:Ob)
  (hob:∀t',ob= .tip t'->∃t,h.get id=some (.tip t)/\t<t'):Ext G w h nx (G.setLim b m') (w.setRow b cs') ((id,ob)::h) nx:=by
 refine⟨?_,qt _,fun _ _ _ h=>h,?_,?_⟩
 ·intro b' o v h1 h2;by_cases hbb:b' =b
  ·subst hbb;refine⟨by simp only[Gh.setLim,qce];omega,?_⟩;rw[cell_of_row w b' o cur e _ hheap]at h2;rw[cell_of_row _ b' o cs' e _ (setRow_heap w b' cur cs' e _ hheap)];exact hkeep o v h1 h2
  ·refine⟨by simp only[Gh.setLim,qe hbb];exact h1,?_⟩;rw[World.cell?_of_block (w:=w) (a:=⟨b',o,none⟩) (setRow_other w b b' cs' hbb)];exact h2
 ·intro tok t' ht h1;simp only[Hp.get]at h1;split at h1
  ·rename_i hti;subst hti;injection h1 with h1;obtain⟨t,h2,h3⟩:=hob t' h1;exact⟨t,h2,by omega,fun h4=>by omega⟩
  ·rename_i hti;refine⟨t',h1,qt _,fun _ b' hb' => ?_⟩;have hbb:b'≠b:=fun h=>hti (hw.inj tok id b ht hid (.inr (h▸hb')) hb (k1b h1) hlv);exact⟨hb',setRow_other w b b' cs' hbb,by simp only[Gh.setLim,qe hbb]⟩
 ·intro b' n hn;by_cases hbb:b' =b
  ·subst hbb;rw[csz_of hheap]at hn;rw[csz_of (setRow_heap w b' cur cs' e _ hheap),hcs];exact hn
  ·rw[k3h (setRow_other w b b' cs' hbb)];exact hn
theorem Fr.setRow (hF:Fr T G0 w0 G w) (hw:WR T w0.heap.size G w h nx) {id b m' :Nat} (hid:id<nx) (hb:G.loc id=some b∨G.tloc id=some b) {cs' :Array Value}
  (hmono:Mono G.lim w (G.setLim b m').lim (w.setRow b cs')):Fr T G0 w0 (G.setLim b m') (w.setRow b cs'):=by
 refine⟨hF.os,hF.tape,hF.output,by simpa[World.setRow]using hF.size,fun b' hb' hT=> ?_,hF.mono.trans hmono⟩
 have hne:b'≠b:=by
  rintro rfl;rcases(hw.here id b' hid hb).2 with h1|h1
  ·omega
  ·exact hT h1
 obtain⟨h1,h2⟩:=hF.same b' hb' hT;exact⟨by rw[setRow_other w b b' cs' hne];exact h1,by simp only[Gh.setLim,qe hne];exact h2⟩
theorem k7v {base:Nat} (hw:WR T base G w h nx) {id b m' :Nat} (hid:id<nx) (hlv:live h id) (hb:G.loc id=some b∨G.tloc id=some b) {cs' :Array Value} {h' :Hp} {nx' :Nat}
  (he:Ext G w h nx (G.setLim b m') (w.setRow b cs') h' nx') {id' :Nat} (hne:id'≠id) {l:List V} (hl:h.get id' =some (.cells l)):
  (l=[]/\(G.setLim b m').loc id' =none)∨∃b' e cs,(G.setLim b m').loc id' =some b'/\(w.setRow b cs').heap[b']? =some (.cells (List.toArray cs) e (0,0))/\(G.setLim b m').lim b' =0/\l.length<=cs.length/\(∀x∈l,x.one=true)/\
   ∀(j:Nat) (v:Value) (x:V),cs[j]? =some v->l[j]? =some x->RepV (G.setLim b m') (w.setRow b cs') h' nx' v x:=by
 rcases hw.obj id' l hl with⟨z1,z2⟩|⟨b',e,cs,h1,h2,h3,h4,h5,h6⟩
 ·exact .inl ⟨z1,z2⟩
 have hbb:b'≠b:=fun h=>hne (hw.inj id' id b (hw.hid id' _ hl) hid (.inl (h▸h1)) hb (kh hl) hlv);exact .inr ⟨b',e,cs,h1,by rw[setRow_other w b b' cs' hbb];exact h2,by simp only[Gh.setLim,qe hbb];exact h3,h4,h5,fun j v x hv hx=>(h6 j v x hv hx).ext he⟩
theorem k7x {base:Nat} (hw:WR T base G w h nx) {b m' :Nat} {cur cs' :Array Value} {e:TypeId} (hheap:w.heap[b]? =some (.cells cur e (0,0))) {h' :Hp} {nx' :Nat}
  (he:Ext G w h nx (G.setLim b m') (w.setRow b cs') h' nx') (hget:∀id es,h'.get id=some (.map es)->h.get id=some (.map es)):MapR (G.setLim b m') (w.setRow b cs') h' nx' :=
 hw.mob.ext he hget hw.hid (fun id b' es hes hb=>by
  obtain⟨b2,h1,h2⟩:=(hw.mob id es (hget id es hes)).blk;rw[hb]at h1;injection h1 with h1;subst h1;have hbb:b'≠b:=by rintro rfl;exact h2 _ _ _ hheap
  exact setRow_other w b b' cs' hbb)
theorem k3s (G:Gh) (b:Nat):G.setLim b (G.lim b)=G:=by
 unfold Gh.setLim;have:(fun i=>if i=b then G.lim b else G.lim i)=G.lim:=by funext i;split<;>simp_all
 rw[this]
def setAt (l:List V) (off:Nat) (cs:List V):List V:=l.take off++cs++l.drop (off+cs.length)
theorem getElem?_splice {α:Type} (l r:List α) (off j:Nat) (hle:off+r.length<=l.length):(l.take off++r++l.drop (off+r.length))[j]? =if j<off then l[j]? else if j<off+r.length then r[j-off]? else l[j]? :=by
 rw[qx,qdh,qo,qcb qqo];split
 ·rw[qau,qh (by assumption)]
 ·rw[qdh];split
  ·rw[qh qqo]
  ·rw[qe qqo,qba];congr 1;omega
theorem R.storeAt (hR:R T G0 w0 N s a G w) {id off b:Nat} {l:List V} (hl:s.h.get id=some (.cells l)) (hb:G.loc id=some b) {us:List Value} {xs:List V} (hul:us.length=xs.length) (hu1:∀u∈us,u.oneCell' =true)
  (hur:∀(j:Nat) (u:Value) (c:V),us[j]? =some u->xs[j]? =some c->RepV G w s.h s.nx u c) (hone:∀c∈xs,c.one=true) (hfit:off+xs.length<=l.length):
  ∃w',(storeCells ⟨b,off,none⟩ us).run P w= .ok () w'/\R T G0 w0 N ⟨s.sl,(id,.cells (setAt l off xs))::s.h,s.nx⟩ a G w' :=by
 have hw:=hR.wr;have hid:id<s.nx:=hw.hid _ _ hl;rcases hw.obj id l hl with⟨_,z2⟩|⟨b',e,cs,h1,h2,h3,h4,h5,h6⟩
 ·rw[hb]at z2;cases z2
 obtain rfl:b' =b:=by rw[hb]at h1;injection h1 with h1;exact h1.symm
 have hlim:G.lim b' =0:=h3;have hrun:(storeCells ⟨b',off,none⟩ us).run P w= .ok () (w.setRow b' (cs.take off++us++cs.drop (off+us.length)).toArray):=by have:=run_storeCells_at P b' off e us 0 cs.toArray w h2 qqm hu1;simpa using this
 have he:=k76 (m' :=G.lim b') (cs' :=(cs.take off++us++cs.drop (off+us.length)).toArray) hw hid (kh hl) (.inl hb) h2 (qt _) (fun o v ho _=>by rw[hlim]at ho;omega)
  qqm (.cells (setAt l off xs)) (fun t' h=>by cases h)
 have hfr:=Fr.setRow (m' :=G.lim b') hR.fr hw hid (.inl hb) (cs' :=(cs.take off++us++cs.drop (off+us.length)).toArray) he.mono;have hobjo:=fun {id' :Nat} (hne:id'≠id) {l' :List V} (hl' :s.h.get id' =some (.cells l'))=>k7v (m' :=G.lim b') hw hid (kh hl) (.inl hb) he hne hl';have hmob:=k7x (m' :=G.lim b') hw h2 he (fun id es hg=>by simp only[Hp.get]at hg;split at hg;(· cases hg);exact hg);rw[k3s]at he hfr hmob;refine⟨_,hrun,⟨hfr,⟨?_,hmob,?_,fun i j b hi hj h1 h2 l1 l2=>hw.inj i j b hi hj h1 h2 (k1c (kh hl) l1) (k1c (kh hl) l2),?_,?_⟩,hR.df,hR.sz,fun t=>(hR.sl t).ext he,hR.ex.ext he⟩⟩
 ·intro id' l' hl';simp only[Hp.get]at hl';split at hl'
  ·rename_i hid';subst hid';injection hl' with hl';injection hl' with hl';subst hl';refine .inr ⟨b',e,_,hb,setRow_heap w b' cs.toArray _ e _ h2,hlim,?_,?_,?_⟩
   ·simp only[setAt,qj,qo,qan];omega
   ·intro y hy;simp only[setAt,qal]at hy;rcases hy with(hy|hy)|hy
    ·exact h5 y (qat hy)
    ·exact hone y hy
    ·exact h5 y (qbo hy)
   ·intro j v' x' hv' hx';rw[getElem?_splice _ _ _ _ qqo]at hv';unfold setAt at hx';rw[getElem?_splice _ _ _ _ qqo]at hx';rw[hul]at hv';split at hv'
    ·rename_i hj;rw[qh hj]at hx';exact(h6 j v' x' hv' hx').ext he
    ·rename_i hj;rw[qe hj]at hx';split at hv'
     ·rename_i hj2;rw[qh hj2]at hx';exact(hur _ _ _ hv' hx').ext he
     ·rename_i hj2;rw[qe hj2]at hx';exact(h6 j v' x' hv' hx').ext he
  ·rename_i hne;have:=hobjo hne hl'
   rwa [k3s]at this
 ·intro id' b'' hi hb'';have:=hw.here id' b'' hi hb'';exact⟨by simpa[World.setRow]using this.1,this.2⟩
 ·intro id' ob hg;simp only[Hp.get]at hg;split at hg
  ·rename_i h;subst h;exact hid
  ·exact hw.hid id' ob hg
 ·intro b'' hb'';exact hw.lim b'' (by simpa[World.setRow]using hb'')
theorem kp2 {v:Value} {x:V} (hx:RepV G w h nx v x) (hone:∀c∈x.cells,c.one=true):∃us:List Value,v.cells=us.toArray/\us.length=x.cells.length/\(∀u∈us,u.oneCell' =true)/\∀(j:Nat) (u:Value) (c:V),us[j]? =some u->x.cells[j]? =some c->RepV G w h nx u c:=by
 have single:∀(v:Value) (x:V),x.cells=[x]->v.cells= #[v]->x.one=true->RepV G w h nx v x->∃us:List Value,v.cells=us.toArray/\us.length=x.cells.length/\(∀u∈us,u.oneCell' =true)/\∀(j:Nat) (u:Value) (c:V),us[j]? =some u->x.cells[j]? =some c->RepV G w h nx u c:=by
  intro v x e1 e2 e3 e4;refine⟨[v],by rw[e2],by rw[e1];rfl,fun u hu=>by simp at hu;subst hu;exact e4.one e3,fun j u c hu hc=> ?_⟩;rw[e1]at hc;cases j with
  |zero=>simp at hu hc;subst hu;subst hc;exact e4
  |succ j=>simp at hu
 cases x with
 |agg lx=>
  cases hx with|agg vs _ hlen hone' hr=>
  refine⟨vs,rfl,hlen,fun u hu=> ?_,hr⟩;obtain⟨j,hj,rfl⟩:=qbu hu;have hj' :j<lx.length:=by omega
  exact(hr j _ _ (qd hj) (qd hj')).one (hone' _ (qak hj'))
 |_=>have e3:=hone _ (qav.2 rfl);have e5:=hx.one e3;exact single _ _ rfl (by cases v<;>first|rfl|cases e5) e3 hx
theorem R.store (hR:R T G0 w0 N s a G w) {id off:Nat} {l:List V} (hl:s.h.get id=some (.cells l)) {v addr:Value} {x:V} (hx:RepV G w s.h s.nx v x) (ha:RepV G w s.h s.nx addr (.ptr id off))
  (hone:∀c∈x.cells,c.one=true) {t:TypeId} {g:Bool} {n:Nat} (ht:tyOf P t=some (g,n)) (hn:x.cells.length=n) (hfit:off+n<=l.length):
  ∃w',(Instr.storeAt t addr v).run P w= .ok () w'/\R T G0 w0 N ⟨s.sl,(id,.cells (setAt l off x.cells))::s.h,s.nx⟩ a G w' :=by
 cases ha with|ptr _ _ b hid hb=>
 obtain⟨us,hus,hul,hu1,hur⟩:=kp2 hx hone;obtain⟨w',hrun,hR'⟩:=hR.storeAt (P:=P) (off:=off) hl hb hul hu1 hur hone qqo;refine⟨w',?_,hR'⟩;have hsz:=(ku ht w).2;simp only[Instr.storeAt,Instr.sureAddr,storeVar,qp,qw,qi,hsz,hus];rw[qe qqm];simpa using hrun
end
end Go.Bv
namespace Go.Bv
open Go.RowKit
section
variable {P:Program} {T:Tk} {G0 G:Gh} {w0 w:World} {N:Nat} {s:St} {a:Act} {h:Hp} {nx:Nat}
theorem R.newRow (hR:R T G0 w0 N s a G w) (e:TypeId) (cs:List Value) (sz:Nat) (l:List D) (vs:List Value)
  (hsz:∀d∈l,d.cells.length=sz/\∀c∈d.cells,c.one=true) (hlen:vs.length=(l.flatMap D.cells).length) (hpre:cs.take vs.length=vs)
  (hr:∀(j:Nat) (u:Value) (c:D),vs[j]? =some u->(l.flatMap D.cells)[j]? =some c->RepD G.lim w u c)
  (k nx' :Nat) (h' :Hp) (hk:(k=s.nx/\nx' =s.nx+1)∨(k<s.nx/\nx' =s.nx))
  (hh:∀i,i≠k->h'.get i=s.h.get i) (hhk:∀ob,h'.get k=some ob->∃t',ob= .tip t'/\(k<s.nx->∃t,s.h.get k=some (.tip t)/\t<t')):
  ∃G',R T G0 w0 N ⟨s.sl,h',nx'⟩ a G' (w.alloc (.cells cs.toArray e))/\Ext G w s.h s.nx G' (w.alloc (.cells cs.toArray e)) h' nx'/\
   (∀cap,l.length<=cap->cap<=maxLen->RepD G'.lim (w.alloc (.cells cs.toArray e)) (.slice (some ⟨w.heap.size,0,none⟩) l.length cap) (.slice sz l))/\
   G'.tloc k=some w.heap.size/\G'.lim w.heap.size=l.length*sz/\∀i,i≠k->i<s.nx->G'.loc i=G.loc i/\G'.tloc i=G.tloc i:=by
 have hw:=hR.wr;have hvl:vs.length=l.length*sz:=by rw[hlen,ki hsz]
 let G' :Gh:=⟨fun i=>if i=k/\s.nx<=i then none else G.loc i,fun i=>if i=k then some w.heap.size else G.tloc i,fun b=>if b=w.heap.size then vs.length else G.lim b⟩;have hm:∀b,b≠w.heap.size->G'.lim b=G.lim b:=fun b hb=>by simp[G',hb]
 have hloc:∀i,i<s.nx->G'.loc i=G.loc i:=fun i hi=>by simp only[G'];rw[qe qqo]
 have htl:∀i,i≠k->G'.tloc i=G.tloc i:=fun i hi=>by simp[G',hi]
 have hmono:Mono G.lim w G'.lim (w.alloc (.cells cs.toArray e)):=k2z hw.lim _ hm
 have he:Ext G w s.h s.nx G' (w.alloc (.cells cs.toArray e)) h' nx' :=by
  refine⟨hmono,by omega,fun id b hi hb=>by rw[hloc id hi];exact hb,fun tok t' ht h1=> ?_,fun b n hb=>by rw[k3h (Below.heap_alloc w _ b (csz_lt hb))];exact hb⟩;by_cases htk:tok=k
  ·subst htk;obtain⟨t1,e1,h3⟩:=hhk _ h1;injection e1 with e1;subst e1;obtain⟨t,h4,h5⟩:=h3 ht;exact⟨t,h4,by omega,fun h=>by omega⟩
  ·rw[hh tok htk]at h1;refine⟨t',h1,qt _,fun _ b hb=> ?_⟩;have:=(hw.here tok b ht (.inr hb)).1;exact⟨by rw[htl tok htk];exact hb,Below.heap_alloc w _ b qqo,hm b qqo⟩
 have key:∀i b,i<nx'->(G'.loc i=some b∨G'.tloc i=some b)->(i=k/\b=w.heap.size)∨(i<s.nx/\b<w.heap.size/\(G.loc i=some b∨G.tloc i=some b)):=by
  intro i b hi hb;by_cases hik:i=k
  ·subst hik;rcases hb with hb|hb
   ·rcases hk with⟨h1,h2⟩|⟨h1,h2⟩
    ·simp[G',h1]at hb
    ·rw[hloc i h1]at hb;exact .inr ⟨h1,(hw.here i b h1 (.inl hb)).1,.inl hb⟩
   ·simp[G']at hb;exact .inl ⟨rfl,hb.symm⟩
  ·have hi' :i<s.nx:=by omega
   rw[hloc i hi',htl i hik]at hb;exact .inr ⟨hi',(hw.here i b hi' hb).1,hb⟩
 refine⟨G',⟨hR.fr.alloc hw.lim _ G' hm,⟨?_,k5k hw _ he (fun id es hg=>by
   by_cases hik:id=k
   ·subst hik;obtain⟨t1,e1,_⟩:=hhk _ hg;cases e1
   ·rw[hh id hik]at hg;exact hg),?_,?_,?_,?_⟩,hR.df,hR.sz,fun t=>(hR.sl t).ext he,hR.ex.ext he⟩,he,?_,by simp[G'],by simp[G',hvl],fun i hi hi2=>⟨hloc i hi2,htl i hi⟩⟩
 ·intro id l' hl';have hne:id≠k:=by rintro rfl;obtain⟨t1,e1,_⟩:=hhk _ hl';cases e1
  rw[hh id hne]at hl';have hid:=hw.hid id _ hl';rcases hw.obj id l' hl' with⟨z1,z2⟩|⟨b,e',cs',h1,h2,h3,h4,h5,h6⟩
  ·exact .inl ⟨z1,by rw[hloc id hid];exact z2⟩
  have hb:=(hw.here id b hid (.inl h1)).1;exact .inr ⟨b,e',cs',by rw[hloc id hid];exact h1,by rw[Below.heap_alloc w _ b hb];exact h2,by rw[hm b qqo];exact h3,h4,h5,fun j v x hv hx=>(h6 j v x hv hx).ext he⟩
 ·intro id b hid hb;have hs:=hR.fr.size;rcases key id b hid hb with⟨h1,h2⟩|⟨h1,h2,h3⟩
  ·subst h2;exact⟨by simp,.inl hs⟩
  ·exact⟨by simp;omega,(hw.here id b h1 h3).2⟩
 ·intro i j b hi hj hbi hbj li lj
  have lv:∀i,i<s.nx->live h' i->live s.h i:=by
   intro i hi l;by_cases hik:i=k
   ·subst hik;obtain⟨ob,hob,_⟩:=live_of l;obtain⟨t',_,h2⟩:=hhk ob hob;obtain⟨t,h3,_⟩:=h2 hi;exact k1b h3
   ·exact live_eq (hh i hik) l
  rcases key i b hi hbi with⟨h1,h2⟩|⟨h1,h2,h3⟩<;>rcases key j b hj hbj with⟨h4,h5⟩|⟨h4,h5,h6⟩
  ·omega
  ·omega
  ·omega
  ·exact hw.inj i j b h1 h4 h3 h6 (lv i h1 li) (lv j h4 lj)
 ·intro id ob hg;show id<nx';by_cases hik:id=k
  ·omega
  ·rw[hh id hik]at hg;have:=hw.hid id ob hg;omega
 ·intro b hb;simp at hb;rw[hm b qqo];exact hw.lim b qqo
 ·intro cap hc1 hc2
  have hcell:∀(j:Nat) (u:Value),vs[j]? =some u->cs[j]? =some u:=by
   intro j u hu;rw[<-hpre,qau]at hu;split at hu
   ·exact hu
   ·cases hu
  refine .slice w.heap.size 0 cap sz l vs hc1 hc2 hsz hlen (fun j u hu=> ?_) (fun j u c hu hc=>(hr j u c hu hc).mono hmono);have hj:j<vs.length:=(qf.1 hu).1;refine⟨by simp[G'];omega,?_⟩;rw[qaj,cell_of_row _ _ _ cs.toArray e (0,0) (qcw w _)];simpa using hcell j u hu
theorem RepD.flat {m:Nat->Nat} {v:Value} {sz:Nat} {l:List D} (hd:RepD m w v (.slice sz l)):
  ∃(A:Option Addr) (cap:Nat) (vs:List Value),v= .slice A l.length cap/\l.length<=cap/\cap<=maxLen/\(∀d∈l,d.cells.length=sz/\∀c∈d.cells,c.one=true)/\vs.length=(l.flatMap D.cells).length/\
   (A=none->l=[]/\cap=0)/\(∀ad,A=some ad->(cap=0/\l=[])∨∃b off,ad=⟨b,off,none⟩/\∀(j:Nat) (u:Value),vs[j]? =some u->off+j<m b/\w.cell? ⟨b,off+j,none⟩=some u)/\
   ∀(j:Nat) (u:Value) (c:D),vs[j]? =some u->(l.flatMap D.cells)[j]? =some c->RepD m w u c:=by
 cases hd with
 |nil A=>exact⟨A,0,[],rfl,by simp,by simp[maxLen],by simp,by simp,fun _=>⟨rfl,rfl⟩,(fun _ _=> .inl ⟨rfl,rfl⟩),(by intro j u c hu;simp at hu)⟩
 |slice b off cap _ _ vs hcap hmax hsz hlen hc hr=>exact⟨_,cap,vs,rfl,hcap,hmax,hsz,hlen,(by intro h;cases h),(by intro ad h;injection h with h;subst h;exact .inr ⟨b,off,rfl,hc⟩),hr⟩
theorem k7w {l:List D} {m:Nat->Nat} {vs:List Value} (hlen:vs.length=(l.flatMap D.cells).length)
  (hr:∀(j:Nat) (u:Value) (c:D),vs[j]? =some u->(l.flatMap D.cells)[j]? =some c->RepD m w u c):∀u∈vs,u.oneCell' =true:=by
 intro u hu;obtain⟨j,hj,rfl⟩:=qbu hu;exact(hr j _ _ (qd hj) (qd qqo)).one
def rowOf (P:Program) (t:TypeId):Option (Nat×Nat):=
 match P.underlying t with
 |some (.slice e)=>match P.info? e with
  |some i=>match i.zero with
   |some z=>if z.cells.size=i.size/\0<i.size then some (i.size,i.bytes)else none
   |none=>none
  |none=>none
 |_=>none
theorem k1t {t:TypeId} {sz bt:Nat} (hr:rowOf P t=some (sz,bt)):∃e i z,P.underlying t=some (.slice e)/\P.info? e=some i/\i.zero=some z/\z.cells.size=sz/\0<sz/\i.size=sz/\i.bytes=bt:=by
 unfold rowOf at hr;split at hr
 ·rename_i e hu;split at hr
  ·rename_i i hi;split at hr
   ·rename_i z hz;split at hr
    ·rename_i hc;simp only[qah,qfg]at hr;exact⟨e,i,z,hu,hi,hz,by omega,by omega,hr.1,hr.2⟩
    ·cases hr
   ·cases hr
  ·cases hr
 ·cases hr
end
end Go.Bv
namespace Go.Bv
open Go.RowKit
section
variable {P:Program} {T:Tk} {G0 G:Gh} {w0 w:World} {N:Nat} {s:St} {a:Act} {h:Hp} {nx:Nat}
theorem k3w {m:Nat->Nat} {v:Value} {sz:Nat} {l:List D} {A:Option Addr} {cap:Nat} {vs:List Value} (hv:v= .slice A l.length cap)
  (hsz:∀d∈l,d.cells.length=sz/\∀c∈d.cells,c.one=true) (hlen:vs.length=(l.flatMap D.cells).length) (hno:A=none->l=[]/\cap=0)
  (hc:∀ad,A=some ad->(cap=0/\l=[])∨∃b off,ad=⟨b,off,none⟩/\∀(j:Nat) (u:Value),vs[j]? =some u->off+j<m b/\w.cell? ⟨b,off+j,none⟩=some u):
  (Builtin.firstCells sz l.length v).run P w= .ok vs.toArray w:=by
 subst hv;cases A with
 |none=>obtain⟨rfl,_⟩:=hno rfl;have:vs=[]:=qac (by simpa using hlen);subst this;simp[Builtin.firstCells]
 |some ad=>
  rcases hc ad rfl with⟨_,rfl⟩|⟨b,off,rfl,h2⟩
  ·have:vs=[]:=qac (by simpa using hlen);subst this;exact qdq w sz 0 ad 0 cap [] qqs (fun j u hu=>by simp at hu)
  exact qdq w sz l.length ⟨b,off,none⟩ l.length cap vs (by rw[hlen,ki hsz]) (fun j u hu=>by rw[add_mk];exact(h2 j u hu).2)
theorem k4o (t ty e:TypeId) (i:TypeInfo) (ht:P.underlying t=some (.slice e)) (hi:P.info? e=some i)
  (g off n cap m:Nat) (cur:Array Value) (e' :TypeId) (hg:w.heap[g]? =some (.cells cur e' (0,0))) (vx:Value) (hlx:∃A c,vx= .slice A m c) (news:List Value)
  (hf:(Builtin.firstCells i.size m vx).run P w= .ok news.toArray w) (h1:∀u∈news,u.oneCell' =true)
  (hroom:n+m<=cap) (hfit:off+n*i.size+news.length<=cur.size):
  (Builtin.append_ #[t,t] ty #[.slice (some ⟨g,off,none⟩) n cap,vx]).run P w=
   .ok (.slice (some ⟨g,off,none⟩) (n+m) cap) (w.setRow g (cur.toList.take (off+n*i.size)++news++cur.toList.drop (off+n*i.size+news.length)).toArray):=by
 obtain⟨A,c,rfl⟩:=hlx;have hst:=run_storeCells_at P g (off+n*i.size) e' news 0 cur w hg qqo h1;simp only[qcq]at hst;simp[Builtin.append_,qz ht,sizeOf,typeInfo,hi,Builtin.lenOf,hroom,hf,add_mk,hst]
theorem k19 (t ty e:TypeId) (i:TypeInfo) (ht:P.underlying t=some (.slice e)) (hi:P.info? e=some i) (A:Option Addr) (n cap:Nat) (hnc:n<=cap) (vx:Value) (hlx:∃A c,vx= .slice A 0 c)
  (hf:(Builtin.firstCells i.size 0 vx).run P w= .ok #[] w):(Builtin.append_ #[t,t] ty #[.slice A n cap,vx]).run P w= .ok (.slice A n cap) w:=by
 obtain⟨A',c,rfl⟩:=hlx;cases A<;>simp[Builtin.append_,qz ht,sizeOf,typeInfo,hi,Builtin.lenOf,hnc,hf,storeCells]
def growA (s:St) (sz:Nat):V->Option (Nat×Nat×List D)
 | .own tok z l=>if z=sz then(match s.h.get tok with|some (.tip t)=>if t=l.length then some (tok,s.nx,l)else none|_=>none)else none
 | .full z l=>if z=sz then some (s.nx,s.nx+1,l)else none
 | .k (.slice none 0 0)=>some (s.nx,s.nx+1,[])
 |_=>none
theorem R.append (hR:R T G0 w0 N s a G w) {t:TypeId} {sz bt:Nat} (hrow:rowOf P t=some (sz,bt)) {x y:V} {vx vy:Value} (hx:RepV G w s.h s.nx vx x) (hy:RepV G w s.h s.nx vy y)
  {k nx' :Nat} {l l2:List D} (hg:growA s sz x=some (k,nx',l)) (hl2:y.els sz=some l2) (hb:(l.length+l2.length)*bt<=140737488355328) (ty:TypeId) (hmx:l.length+l2.length<=maxLen):
  ∃v' w' G',(Builtin.append_ #[t,t] ty #[vx,vy]).run P w= .ok v' w'/\R T G0 w0 N ⟨s.sl,(k,.tip (l.length+l2.length))::s.h,nx'⟩ a G' w'/\
   RepV G' w' ((k,.tip (l.length+l2.length))::s.h) nx' v' (.own k sz (l++l2))/\∀i,i≠k->i<s.nx->G'.loc i=G.loc i/\G'.tloc i=G.tloc i:=by
 obtain⟨e,i,z,hu,hi,hz,hzs,hsz0,hisz,hibt⟩:=k1t hrow;have hw:=hR.wr
 
 have hfst:RepD G.lim w vx (.slice sz l)/\((k=s.nx/\nx' =s.nx+1/\∃A,vx= .slice A l.length l.length)∨(k<s.nx/\nx' =s.nx/\s.h.get k=some (.tip l.length)/\Spare G w k sz l.length vx)):=by
  unfold growA at hg;split at hg
  ·rename_i tok z' l';split at hg
   ·rename_i hz';subst hz';split at hg
    ·rename_i t ht;split at hg
     ·rename_i htl;simp only[qah,qfg]at hg;obtain⟨rfl,rfl,rfl⟩:=hg;cases hx with|own _ _ _ _ hd htk hs=>exact⟨hd,.inr ⟨htk,rfl,by rw[ht,htl],(hs t ht).2 htl.symm⟩⟩
     ·cases hg
    ·cases hg
   ·cases hg
  ·split at hg
   ·rename_i hz';subst hz';simp only[qah,qfg]at hg;obtain⟨rfl,rfl,rfl⟩:=hg;cases hx with|full A _ _ hd=>exact⟨hd,.inl ⟨rfl,rfl,A,rfl⟩⟩
   ·cases hg
  ·simp only[qah,qfg]at hg;obtain⟨rfl,rfl,rfl⟩:=hg;cases hx;exact⟨.nil none sz,.inl ⟨rfl,rfl,none,rfl⟩⟩
  ·cases hg
 obtain⟨hd1,hform⟩:=hfst;have hd2:=els_rep hl2 hy;obtain⟨A,cap,vs,rfl,hcap,hmax,hsz1,hlen1,hno1,hc1,hr1⟩:=hd1.flat;obtain⟨A2,cap2,vs2,hvy,hcap2,hmax2,hsz2,hlen2,hno2,hc2,hr2⟩:=hd2.flat;have hf2:(Builtin.firstCells i.size l2.length vy).run P w= .ok vs2.toArray w:=by rw[hisz];exact k3w hvy hsz2 hlen2 hno2 hc2
 have hone2:=k7w hlen2 hr2;have hv1:vs.length=l.length*sz:=by rw[hlen1,ki hsz1]
 have hv2:vs2.length=l2.length*sz:=by rw[hlen2,ki hsz2]
 have hkk:(k=s.nx/\nx' =s.nx+1)∨(k<s.nx/\nx' =s.nx):=by rcases hform with⟨h1,h2,_⟩|⟨h1,h2,_⟩<;>omega
 have hh:∀i,i≠k->Hp.get ((k,.tip (l.length+l2.length))::s.h) i=s.h.get i:=fun i hi=>by simp[Hp.get,hi]
 by_cases h0:l2.length=0
 ·
  have hl20:l2=[]:=qac h0;subst hl20
  have hrun:=k19 (P:=P) (w:=w) t ty e i hu hi A l.length cap hcap vy ⟨A2,cap2,hvy⟩ (by
   have:vs2=[]:=qac (by simpa using hv2);rw[this]at hf2;simpa using hf2)
  rcases hform with⟨rfl,rfl,A',hA'⟩|⟨hk1,rfl,hk3,hk4⟩
  ·
   let G' :Gh:=⟨fun i=>if i=s.nx then none else G.loc i,fun i=>if i=s.nx then none else G.tloc i,G.lim⟩;have hlo:∀i,i<s.nx->G'.loc i=G.loc i/\G'.tloc i=G.tloc i:=fun i hi=>by simp[G',show i≠s.nx by omega]
   have he:Ext G w s.h s.nx G' w ((s.nx,.tip (l.length+([]:List D).length))::s.h) (s.nx+1):=
    ⟨Mono.refl _ _,by omega,fun id b hi hb=>by rw[(hlo id hi).1];exact hb,fun tok t' ht h1=>by
     rw[hh tok qqo]at h1;exact⟨t',h1,qt _,fun _ b hb=>⟨by rw[(hlo tok ht).2];exact hb,rfl,rfl⟩⟩,fun _ _ h=>h⟩
   have hsome:∀i b,i<s.nx+1->(G'.loc i=some b∨G'.tloc i=some b)->i<s.nx/\(G.loc i=some b∨G.tloc i=some b):=by
    intro i b hi hb;by_cases hin:i=s.nx
    ·subst hin;simp[G']at hb
    ·have hi' :i<s.nx:=by omega
     rw[(hlo i hi').1,(hlo i hi').2]at hb;exact⟨hi',hb⟩
   refine⟨_,w,G',hrun,⟨⟨hR.fr.os,hR.fr.tape,hR.fr.output,hR.fr.size,hR.fr.same,hR.fr.mono⟩,⟨?_,hw.mob.ext he (fun id es hg=>by simp only[Hp.get]at hg;split at hg;(· cases hg);exact hg) hw.hid (fun _ _ _ _ _=>rfl),?_,?_,?_,hw.lim⟩,hR.df,hR.sz,fun t=>(hR.sl t).ext he,hR.ex.ext he⟩,?_,fun i _ hi2=>hlo i hi2⟩
   ·intro id l' hl';simp only[Hp.get]at hl';split at hl'
    ·cases hl'
    ·have hid:=hw.hid id _ hl';rcases hw.obj id l' hl' with⟨z1,z2⟩|⟨b,e',cs',h1,h2,h3,h4,h5,h6⟩
     ·exact .inl ⟨z1,by rw[(hlo id hid).1];exact z2⟩
     exact .inr ⟨b,e',cs',by rw[(hlo id hid).1];exact h1,h2,h3,h4,h5,fun j v x hv hx=>(h6 j v x hv hx).ext he⟩
   ·intro id b hid hb;obtain⟨h1,h2⟩:=hsome id b hid hb;exact hw.here id b h1 h2
   ·intro i j b hi hj hbi hbj li lj;obtain⟨h1,h2⟩:=hsome i b hi hbi;obtain⟨h3,h4⟩:=hsome j b hj hbj;exact hw.inj i j b h1 h3 h2 h4 (live_eq (hh i qqo) li) (live_eq (hh j qqo) lj)
   ·intro id ob hg;show id<s.nx+1;simp only[Hp.get]at hg;split at hg
    ·omega
    ·have:=hw.hid id ob hg;omega
   ·rw[qcu];refine .own _ _ _ _ hd1 qqo fun t' ht' => ?_;simp only[Hp.get,qce,qah,Ob.tip.injEq]at ht';injection hA' with _ _ hA';exact⟨by simp at ht';omega,fun _=> .inl hA'⟩
  ·
   have hget:∀i,Hp.get ((k,.tip (l.length+([]:List D).length))::s.h) i=s.h.get i:=by
    intro i;by_cases hik:i=k
    ·subst hik;simp[Hp.get,hk3]
    ·exact hh i hik
   have he:Ext G w s.h s.nx G w ((k,.tip (l.length+([]:List D).length))::s.h) s.nx:=⟨Mono.refl _ _,qt _,fun _ _ _ h=>h,fun tok t' _ h1=>⟨t',by rw[hget]at h1;exact h1,qt _,fun _ _ hb=>⟨hb,rfl,rfl⟩⟩,fun _ _ h=>h⟩;refine⟨_,w,G,hrun,⟨hR.fr,⟨?_,hw.mob.ext he (fun id es hg=>by rw[hget]at hg;exact hg) hw.hid (fun _ _ _ _ _=>rfl),hw.here,fun i j b hi hj h1 h2 l1 l2=>hw.inj i j b hi hj h1 h2 (live_eq (hget i) l1) (live_eq (hget j) l2),?_,hw.lim⟩,hR.df,hR.sz,fun t=>(hR.sl t).ext he,hR.ex.ext he⟩,?_,fun _ _ _=>⟨rfl,rfl⟩⟩
   ·intro id l' hl';rw[hget]at hl';rcases hw.obj id l' hl' with h0|⟨b,e',cs',h1,h2,h3,h4,h5,h6⟩
    ·exact .inl h0
    exact .inr ⟨b,e',cs',h1,h2,h3,h4,h5,fun j v x hv hx=>(h6 j v x hv hx).ext he⟩
   ·intro id ob hg;rw[hget]at hg;exact hw.hid id ob hg
   ·rw[qcu];refine .own _ _ _ _ hd1 hk1 fun t' ht' => ?_;rw[hget,hk3]at ht';injection ht' with ht';injection ht' with ht';exact⟨by omega,fun _=>hk4⟩
 ·
  have hszall:∀d∈l++l2,d.cells.length=sz/\∀c∈d.cells,c.one=true:=by
   intro d hd;rcases qal.1 hd with h|h
   ·exact hsz1 d h
   ·exact hsz2 d h
  have hlenall:(vs++vs2).length=((l++l2).flatMap D.cells).length:=by rw[qbh,qj,qj,hlen1,hlen2]
  have hrall:∀(j:Nat) (u:Value) (c:D),(vs++vs2)[j]? =some u->((l++l2).flatMap D.cells)[j]? =some c->RepD G.lim w u c:=by
   intro j u c hj hcj;rw[qbh]at hcj;by_cases hjv:j<vs.length
   ·rw[qap hjv]at hj;rw[qap qqo]at hcj;exact hr1 j u c hj hcj
   ·rw[qaw qqo]at hj;rw[qaw qqo]at hcj;rw[hlen1]at hj;exact hr2 _ u c hj hcj
  have hA2:∃b2 off2,A2=some ⟨b2,off2,none⟩/\∀(j:Nat) (u:Value),vs2[j]? =some u->w.cell? ((⟨b2,off2,none⟩:Addr).add j)=some u:=by
   cases A2 with
   |none=>have:=(hno2 rfl).1;subst this;simp at h0
   |some ad=>
    rcases hc2 ad rfl with⟨_,hz⟩|⟨b2,off2,rfl,h2⟩
    ·subst hz;simp at h0
    exact⟨b2,off2,rfl,fun j u hu=>by rw[add_mk];exact(h2 j u hu).2⟩
  obtain⟨b2,off2,rfl,hcell2⟩:=hA2;by_cases hroom:l.length+l2.length<=cap
  ·
   rcases hform with⟨_,_,A',hA'⟩|⟨hk1,rfl,hk3,hk4⟩
   ·injection hA' with _ _ hA';omega
   ·simp only[Spare]at hk4;rcases hk4 with hk4|⟨b,off,cur,e',rfl,htl,hheap,hoff,hfit⟩
    ·omega
    ·have hcap1:(l.length+l2.length)*sz<=cap*sz:=qbc _ hroom;rw[qbj]at hcap1;have hrun:=k4o (P:=P) (w:=w) t ty e i hu hi b off l.length cap l2.length cur e' hheap vy ⟨_,_,hvy⟩ vs2 hf2 hone2 hroom (by rw[hisz];omega);rw[hisz]at hrun
     have hcl:∃b0 off0,(⟨b,off,none⟩:Addr)=⟨b0,off0,none⟩/\∀(j:Nat) (u:Value),vs[j]? =some u->off0+j<G.lim b0/\w.cell? ⟨b0,off0+j,none⟩=some u:=by
      rcases hc1 _ rfl with⟨hz1,hz2⟩|hcl
      ·exact⟨b,off,rfl,fun j u hu=>by
        have:vs=[]:=qac (by rw[hlen1,hz2];rfl);subst this;simp at hu⟩
      ·exact hcl
     obtain⟨b0,off0,hb0,hcells1⟩:=hcl;injection hb0 with hb1 hb2;subst hb1;subst hb2;have hnew:∀j,(cur.toList.take (off+l.length*sz)++vs2++cur.toList.drop (off+l.length*sz+vs2.length))[j]? =if j<off+l.length*sz then cur.toList[j]? else if j<off+l.length*sz+vs2.length then vs2[j-(off+l.length*sz)]? else cur.toList[j]? :=fun j=>getElem?_splice _ _ _ _ qqm;have hob:∀t',Ob.tip (l.length+l2.length)= .tip t'->∃t,s.h.get k=some (.tip t)/\t<t' :=fun t' h=>by injection h with h;exact⟨_,hk3,by omega⟩
     have he:=k76 (m' :=off+(l.length+l2.length)*sz) (cs' :=(cur.toList.take (off+l.length*sz)++vs2++cur.toList.drop (off+l.length*sz+vs2.length)).toArray) hw hk1 (k1b hk3) (.inr htl) hheap (by rw[<-hoff,qbj];omega)
      (fun o v ho hv=>by
       rw[qek,hnew,qh qqo];simpa using hv) qqm (.tip (l.length+l2.length)) hob
     have hfr:=Fr.setRow (m' :=off+(l.length+l2.length)*sz) hR.fr hw hk1 (.inr htl) (cs' :=(cur.toList.take (off+l.length*sz)++vs2++cur.toList.drop (off+l.length*sz+vs2.length)).toArray) he.mono;have hobjo:=fun {id' :Nat} (hne:id'≠k) {l' :List V} (hl' :s.h.get id' =some (.cells l'))=>k7v (m' :=off+(l.length+l2.length)*sz) hw hk1 (k1b hk3) (.inr htl) he hne hl';have hlimb:((G.setLim b (off+(l.length+l2.length)*sz))).lim b=off+(l.length+l2.length)*sz:=by simp[Gh.setLim]
     have hmob:=k7x (m' :=off+(l.length+l2.length)*sz) hw hheap he (fun id es hg=>by simp only[Hp.get]at hg;split at hg;(· cases hg);exact hg);refine⟨_,_,_,hrun,⟨hfr,⟨?_,hmob,?_,fun i j b hi hj h1 h2 l1 l2=>hw.inj i j b hi hj h1 h2 (k1c (k1b hk3) l1) (k1c (k1b hk3) l2),?_,?_⟩,hR.df,hR.sz,fun t=>(hR.sl t).ext he,hR.ex.ext he⟩,?_,fun _ _ _=>⟨rfl,rfl⟩⟩
     ·intro id' l' hl';simp only[Hp.get]at hl';split at hl'
      ·cases hl'
      ·rename_i hne;exact hobjo hne hl'
     ·intro id' b'' hi' hb'';have:=hw.here id' b'' hi' hb'';exact⟨by simpa[World.setRow]using this.1,this.2⟩
     ·intro id' ob hg';simp only[Hp.get]at hg';split at hg'
      ·rename_i h;subst h;exact hk1
      ·exact hw.hid id' ob hg'
     ·intro b'' hb'';have hb''' :w.heap.size<=b'' :=by simpa[World.setRow]using hb''
      have:b''≠b:=by have:=(hw.here k b hk1 (.inr htl)).1;omega
      simp only[Gh.setLim,qe this];exact hw.lim b'' hb'''
     ·have hrepd:RepD (G.setLim b (off+(l.length+l2.length)*sz)).lim (w.setRow b (cur.toList.take (off+l.length*sz)++vs2++cur.toList.drop (off+l.length*sz+vs2.length)).toArray)
        (.slice (some ⟨b,off,none⟩) (l++l2).length cap) (.slice sz (l++l2)):=by
       refine .slice b off cap sz (l++l2) (vs++vs2) (by simpa using hroom) hmax hszall hlenall (fun j u hj=> ?_) (fun j u c hj hcj=>(hrall j u c hj hcj).mono he.mono);have hjl:j<(vs++vs2).length:=(qf.1 hj).1;rw[qj,hv1,hv2,<-qbj]at hjl;refine⟨by rw[hlimb];omega,?_⟩;rw[cell_of_row _ b _ _ e' (0,0) (setRow_heap w b cur _ e' _ hheap),qek,hnew];by_cases hjv:j<vs.length
       ·rw[qap hjv]at hj;rw[qh qqo];have:=(hcells1 j u hj).2;rw[cell_of_row w b _ cur e' _ hheap]at this;simpa using this
       ·rw[qaw qqo]at hj;rw[qe qqo,qh (by rw[qbj]at hjl;omega),show off+j-(off+l.length*sz)=j-vs.length by omega];exact hj
      rw[qj]at hrepd;refine .own _ _ _ _ hrepd hk1 fun t' ht' => ?_;simp only[Hp.get,qce,qah,Ob.tip.injEq]at ht';refine⟨by simp;omega,fun _=> .inr ⟨b,off,_,e',rfl,htl,setRow_heap w b cur _ e' _ hheap,by rw[hlimb,qj],?_⟩⟩;simp only[qbz,qj,qo,qan,qci];omega
  ·
   have hgc:=grownCap_ge w (l.length+l2.length) cap e;have hgm:=grownCap_le_maxLen w (l.length+l2.length) cap e hmx
   have hrun:(Builtin.append_ #[t,t] ty #[.slice A l.length cap,vy]).run P w=
     .ok (.slice (some ⟨w.heap.size,0,none⟩) (l.length+l2.length) (grownCap w (l.length+l2.length) cap e))
      (w.drew.alloc (.cells (vs++vs2++(Builtin.zeroCells z.cells (grownCap w (l.length+l2.length) cap e-(l.length+l2.length))).toList).toArray e)):=by
    have hmx' :((l.length+l2.length:Nat):Int)<=9223372036854775807:=by simp only[maxLen]at hmx;omega
    have hfitb:Builtin.nextslicecap (l.length+l2.length) cap*i.bytes<=281474976710656:=growslice_fits qqo (by rw[hibt];exact hb);subst hvy;cases A with
    |none=>
     obtain⟨rfl,rfl⟩:=hno1 rfl;have:vs=[]:=qac (by simpa using hv1);subst this
     have:=run_append_nil (P:=P) w t ty e i z hu hi hz ⟨b2,off2,none⟩ l2.length cap2 vs2 (by rw[hv2,hisz]) hcell2 qqo (by simpa using hmx') (by
      rw[hibt];simp at hb;omega)
     simp only[qbf,qaj,qcc];rw[this];congr 3;simp
    |some ad=>
     have hcad:∀(j:Nat) (u:Value),vs[j]? =some u->w.cell? (ad.add j)=some u:=by
      rcases hc1 ad rfl with⟨_,hz2⟩|⟨b,off,rfl,h2⟩
      ·intro j u hu;have:vs=[]:=qac (by rw[hlen1,hz2];rfl);subst this;simp at hu
      ·exact fun j u hj=>by rw[add_mk];exact(h2 j u hj).2
     have:=run_append_grow (P:=P) w t ty e i z hu hi hz ad l.length cap vs (by rw[hv1,hisz]) hcad ⟨b2,off2,none⟩ l2.length cap2 vs2 (by rw[hv2,hisz]) hcell2 qqo hmx' hfitb;rw[this];congr 3;simp
   have hRd:=hR.drew
   obtain⟨G',hR',he,hrep,htl,hlim,hG⟩:=R.newRow hRd e (vs++vs2++(Builtin.zeroCells z.cells (grownCap w (l.length+l2.length) cap e-(l.length+l2.length))).toList) sz (l++l2) (vs++vs2) hszall hlenall
    (by rw[qfm];rfl) (fun j u c hj hcj=>RepD.mono (m:=G.lim) (w:=w) (m' :=G.lim) (w' :=w.drew) (fun _ _ _ h1 h2=>⟨h1,h2⟩) (hrall j u c hj hcj)) k nx' ((k,.tip (l.length+l2.length))::s.h) hkk hh
    (fun ob hob=>by
     simp only[Hp.get,qce,qah]at hob;subst hob;refine⟨_,rfl,fun hks=> ?_⟩;rcases hform with⟨h1,_⟩|⟨_,_,hk3,_⟩
     ·omega
     ·exact⟨_,hk3,by omega⟩)
   have hrep' :=hrep (grownCap w (l.length+l2.length) cap e) (by simpa using hgc) hgm;rw[qj]at hrep' hlim;refine⟨_,_,G',hrun,hR',.own _ _ _ _ hrep' qqo fun t' ht' => ?_,hG⟩;simp only[Hp.get,qce,qah,Ob.tip.injEq]at ht';refine⟨by simp;omega,fun _=> .inr ⟨w.heap.size,0,_,e,rfl,htl,qcw w.drew _,by rw[qj,qaj];exact hlim.symm,?_⟩⟩;simp only[qbz,qj,qci,size_zeroCells,hzs,hv1,hv2,qaj];rw[<-qbj,<-qbj];exact qbc _ qqo
end
end Go.Bv
namespace Go.Bv
open Go.RowKit
section
variable {P:Program} {T:Tk} {G0 G:Gh} {w0 w:World} {N:Nat} {s:St} {a:Act} {h:Hp} {nx:Nat}
theorem RepV.full_inv {v:Value} {sz:Nat} {l:List D} (hv:RepV G w h nx v (.full sz l)):∃A,v= .slice A l.length l.length/\RepD G.lim w v (.slice sz l):=by
 generalize hx:V.full sz l=x at hv;cases hv<;>first|cases hx|skip
 rename_i A hd;exact⟨A,rfl,hd⟩
theorem RepV.k_inv {v u:Value} (hv:RepV G w h nx v (.k u)):v=u:=by generalize hx:V.k u=x at hv;cases hv<;>first|(injection hx with hx;exact hx.symm)|cases hx
def boundA (d:Nat):Option V->Option Int
 |none=>some d
 |some (.d (.int _ n))=>some n
 |some _=>none
def sliceA (K:V->Prop) (el:Option (Bool×Nat)) (x:V) (lo hi:Option V):Prop:=
  match el with
  | some (_,sz)=>match x.els sz with
    | some l=>match boundA 0 lo,boundA l.length hi with
      |some a,some b=>0<=a/\a<=b/\b<=l.length/\
          (match x,hi with
           | .full _ _,none=>K (.full sz (l.drop a.toNat))
           | .k _,_=>K x
           |_,_=>K (.d (.slice sz ((l.take b.toNat).drop a.toNat))))
      |_,_=>False
    |none=>False
  |none=>False
theorem k56 {sz:Nat} {l:List D} (h:∀d∈l,d.cells.length=sz/\∀c∈d.cells,c.one=true) (n:Nat):(l.take n).flatMap D.cells=(l.flatMap D.cells).take (n*sz):=by
 induction l generalizing n with
 |nil=>simp
 |cons d l ih=>
  have h1:=(h d qqs).1;cases n with
  |zero=>simp
  |succ n=>simp only[List.take_succ_cons,qay];rw[ih (fun x hx=>h x (by simp[hx])),qed,qeq,h1,show n*sz+sz-sz=n*sz by omega];rw[qu (l:=d.cells) qqo]
theorem k93 {sz:Nat} {l:List D} (h:∀d∈l,d.cells.length=sz/\∀c∈d.cells,c.one=true) (n:Nat):(l.drop n).flatMap D.cells=(l.flatMap D.cells).drop (n*sz):=by
 induction l generalizing n with
 |nil=>simp
 |cons d l ih=>
  have h1:=(h d qqs).1;cases n with
  |zero=>simp
  |succ n=>simp only[List.drop_succ_cons,qay];rw[ih (fun x hx=>h x (by simp[hx])),qed,List.drop_append,h1,show n*sz+sz-sz=n*sz by omega];rw[@List.drop_eq_nil_of_le _ d.cells _ qqo,qcc]
theorem knq {m:Nat->Nat} {v:Value} {sz:Nat} {l:List D} (hd:RepD m w v (.slice sz l)) {a b:Nat} (hab:a<=b) (hb:b<=l.length):
  ∃A cap,v= .slice A l.length cap/\l.length<=cap/\RepD m w (.slice (if cap=a then A else A.map (·.add (a*sz))) (b-a) (cap-a)) (.slice sz ((l.take b).drop a)):=by
 cases hd with
 |nil A=>
  have:b=0:=by simpa using hb
  subst this;have:a=0:=by omega
  subst this;exact⟨A,0,rfl,by simp,by simpa using RepD.nil (m:=m) (w:=w) A sz⟩
 |slice bk off cap _ _ vs hcap hmax hsz hlen hc hr=>
  have hfl:=ki hsz;refine⟨_,cap,rfl,hcap,?_⟩;have hll:((l.take b).drop a).length=b-a:=by simp;omega
  have hflat:((l.take b).drop a).flatMap D.cells=((l.flatMap D.cells).take (b*sz)).drop (a*sz):=by rw[k93 (fun d hd=>hsz d (qat hd)),k56 hsz]
  have main:∀off',(cap≠a->off' =off+a*sz)->RepD m w (.slice (some ⟨bk,off',none⟩) ((l.take b).drop a).length (cap-a)) (.slice sz ((l.take b).drop a)):=by
   intro off' ho;refine .slice bk off' (cap-a) sz _ ((vs.take (b*sz)).drop (a*sz)) qqo qqo (fun d hd=>hsz d (qat (qbo hd))) (by rw[hflat];simp[hlen]) ?_ ?_
   ·intro j u hu;rw[qba,qau]at hu;split at hu
    ·rename_i hj
     have hca:cap≠a:=by
      rintro rfl;have:b=cap:=by omega
      subst this;omega
     have:=hc _ _ hu;rw[ho hca,qdw];exact this
    ·cases hu
   ·intro j u c hu hcc;rw[hflat,qba,qau]at hcc;rw[qba,qau]at hu;split at hu
    ·rename_i hj;rw[qh hj]at hcc;exact hr _ _ _ hu hcc
    ·cases hu
  rw[hll]at main;by_cases hca:cap=a
  ·rw[qh hca];exact main off (fun h=>absurd hca h)
  ·rw[qe hca];simp only[qax,add_mk];exact main _ (fun _=>rfl)
theorem klk {K:V->Prop} {t:TypeId} {x:V} {lo hi:Option V} (hb:sliceA K (elemOf P t) x lo hi) {vx:Value} (hx:RepV G w h nx vx x) {vlo vhi:Option Value}
  (hlo:∀y,lo=some y->∃v,vlo=some v/\RepV G w h nx v y) (hhi:∀y,hi=some y->∃v,vhi=some v/\RepV G w h nx v y) (hlo' :lo=none->vlo=none) (hhi' :hi=none->vhi=none):
  ∃v z,(Instr.sliceAt t vx vlo vhi none).run P w= .ok v w/\RepV G w h nx v z/\K z:=by
 unfold sliceA at hb;split at hb
 case h_2=>exact hb.elim
 rename_i ag sz hel;obtain⟨e,hu,ht⟩:=k4e hel;split at hb
 case h_2=>exact hb.elim
 rename_i l hl;split at hb
 case h_2=>exact hb.elim
 rename_i a b hba hbb;obtain⟨h0,hab,hbl,hk⟩:=hb;have hd:=els_rep hl hx;obtain⟨a',rfl⟩:=qn h0;obtain⟨b',rfl⟩:=qn (qez h0 hab);have hab' :a'<=b' :=by omega
 have hbl' :b'<=l.length:=by omega
 obtain⟨A,cap,rfl,hcap,hcut⟩:=knq hd hab' hbl';have hsz:=(ku ht w).2
 have bound:∀(d n:Nat) (o:Option V) (vo:Option Value),boundA d o=some (n:Int)->(∀y,o=some y->∃v,vo=some v/\RepV G w h nx v y)->(o=none->vo=none)->(vo=none/\n=d)∨∃q,vo=some (.int q n):=by
  intro d n o vo hbo h1 h2;cases o with
  |none=>simp[boundA]at hbo;exact .inl ⟨h2 rfl,by omega⟩
  |some y=>
   obtain⟨v,hv,hr⟩:=h1 y rfl;unfold boundA at hbo;split at hbo
   ·contradiction
   ·rename_i q n' hy;injection hy with hy;subst hy;injection hbo with hbo;subst hbo;cases hr with|d _ _ hd=>cases hd;exact .inr ⟨q,hv⟩
   ·cases hbo
 have hblo:=bound 0 a' lo vlo hba hlo hlo';have hbhi:=bound l.length b' hi vhi hbb hhi hhi'
 have hrun:(Instr.sliceAt t (.slice A l.length cap) vlo vhi none).run P w= .ok (.slice (if cap=a' then A else A.map (·.add (a' *sz))) (b' -a') (cap-a')) w:=by
  have c1:(0:Int)<=(b' :Int)/\(b' :Int)<=(cap:Int):=by omega
  have c2:(0:Int)<=(a' :Int)/\(a' :Int)<=(b' :Int):=by omega
  clear hk hlo hhi hlo' hhi' bound
  rcases hblo with⟨rfl,rfl⟩|⟨q,rfl⟩<;>rcases hbhi with⟨rfl,rfl⟩|⟨q',rfl⟩<;>
   simp[Instr.sliceAt,qz hu,Instr.slice,Instr.sliceBounds,Instr.sliceBound,asIntOf,hsz]<;>(try simp_all)<;>(intros;exfalso;omega)
 split at hk
 ·
  rename_i z' l';have hll:l' =l/\z' =sz:=by unfold V.els at hl;split at hl<;>simp_all
  obtain⟨rfl,rfl⟩:=hll;obtain⟨A',hA',_⟩:=hx.full_inv;injection hA' with _ _ hA';subst hA';have hbl3:b' =l'.length:=by simp[boundA]at hbb;omega
  subst hbl3;refine⟨_,_,hrun,?_,hk⟩;rw[qcn]at hcut;have hdl:(l'.drop a').length=l'.length-a' :=by simp
  have:=RepV.full (h:=h) (nx:=nx) (G:=G) (w:=w) (if l'.length=a' then A else A.map (·.add (a' *z'))) z' (l'.drop a') (by rw[hdl];exact hcut);rw[hdl]at this;simpa using this
 ·
  rename_i kv _;have hkv:=hx.k_inv;subst hkv;have hl0:l=[]:=by unfold V.els at hl;split at hl<;>simp_all
  subst hl0;have h1:b' =0:=by simpa using hbl'
  subst h1;have h2:a' =0:=by omega
  subst h2;refine⟨_,_,hrun,?_,hk⟩;have hcapz:A=none/\cap=0:=by unfold V.els at hl;split at hl<;>simp_all
  obtain⟨rfl,rfl⟩:=hcapz;exact .k _
 ·exact⟨_,_,hrun,.d _ _ (by simpa using hcut),hk⟩
end
end Go.Bv
namespace Go.Bv
open Go.RowKit
section
variable {P:Program} {T:Tk} {G0 G:Gh} {w0 w:World} {N:Nat} {s:St} {a:Act} {h:Hp} {nx:Nat}
def cellTys (P:Program):Nat->TypeId->List TypeId
 |0,t=>[t]
 |n+1,t=>match P.underlying t with
  |some (.struct fs)=>fs.toList.flatMap fun f=>cellTys P n f.type
  |some (.array m e)=>(List.range m).flatMap fun _=>cellTys P n e
  |_=>[t]
def zcell (P:Program) (v:Value) (ty:TypeId):V:=
 match v,elemOf P ty with
 | .slice none 0 0,some (_,sz)=> .full sz []
 |v,_=>V.ofK1 v
def zeroV (P:Program) (t:TypeId):Option (List V):=
 match P.info? t with
 |some i=>match i.zero with
  |some z=>if z.cells.all (·.oneCell')/\(cellTys P 16 t).length=z.cells.size then some (List.zipWith (zcell P) z.cells.toList (cellTys P 16 t))else none
  |none=>none
 |none=>none
theorem kmw (v:Value) (ty:TypeId):RepV G w h nx v (zcell P v ty):=by
 unfold zcell;split
 ·exact .full none _ [] (.nil none _)
 ·exact kco _
theorem kn7 {v:Value} (ty:TypeId) (h1:v.oneCell' =true):(zcell P v ty).one=true:=by
 unfold zcell;split
 ·rfl
 ·exact kk9 h1
def plOf (P:Program) (t:TypeId):Option (List (Nat×Nat)):=
 match P.underlying t with
 |some (.struct fs)=>fs.toList.mapM fun f=>(tyOf P f.type).map fun x=>(f.offset,x.2)
 |some (.array n e)=>(tyOf P e).map fun x=>(List.range n).map fun i=>(i*x.2,x.2)
 |_=>none
def V.flat (x:V) (n:Nat):Prop:=x.cells.length=n/\∀c∈x.cells,c.one=true
def fillV (pl:Nat->Option (Nat×Nat)) (K:List V->Prop):List V->List (Nat×V)->Prop
 |l,[]=>K l
 |l,(i,x)::r=>match pl i with
  |some (off,n)=>x.flat n/\off+n<=l.length/\fillV pl K (setAt l off x.cells) r
  |none=>False
def rowRep (G:Gh) (w:World) (h:Hp) (nx:Nat) (cs:List Value) (l:List V):Prop:=cs.length=l.length/\(∀x∈l,x.one=true)/\∀(j:Nat) (v:Value) (x:V),cs[j]? =some v->l[j]? =some x->RepV G w h nx v x
theorem k5o {t:TypeId} {l:List V} (hz:zeroV P t=some l):∃i z,P.info? t=some i/\i.zero=some z/\rowRep G w h nx z.cells.toList l:=by
 unfold zeroV at hz;split at hz
 ·rename_i i hi;split at hz
  ·rename_i z hz';split at hz
   ·rename_i hall;injection hz with hz;subst hz;obtain⟨hall,htl⟩:=hall;refine⟨i,z,hi,hz',by simp[htl],fun x hx=> ?_,fun j v x hv hx=> ?_⟩
    ·obtain⟨j,hj,rfl⟩:=qbu hx;rw[List.getElem_zipWith];rw[Array.all_eq_true_iff_forall_mem]at hall;exact kn7 _ (hall _ qqs)
    ·rw[List.getElem?_zipWith]at hx;rw[hv]at hx;cases hty:(cellTys P 16 t)[j]? with
     |none=>simp[hty]at hx
     |some ty=>simp[hty]at hx;subst hx;exact kmw v ty
   ·cases hz
  ·cases hz
 ·cases hz
theorem k98 {v:Value} {x:V} {n:Nat} (hx:RepV G w h nx v x) (hf:x.flat n):v.cells.size=n/\rowRep G w h nx v.cells.toList x.cells:=by
 obtain⟨hlen,hone⟩:=hf
 have single:∀(v:Value) (x:V),x.cells=[x]->v.cells= #[v]->x.one=true->RepV G w h nx v x->v.cells.size=x.cells.length/\rowRep G w h nx v.cells.toList x.cells:=by
  intro v x e1 e2 e3 e4;rw[e1,e2];refine⟨rfl,rfl,fun c hc=>by simp at hc;subst hc;exact e3,fun j u c hu hc=> ?_⟩;cases j with
  |zero=>simp at hu hc;subst hu;subst hc;exact e4
  |succ j=>simp at hu
 rw[<-hlen];cases x with
 |agg lx=>
  cases hx with|agg vs _ hlen' hone' hr=>
  exact⟨by simpa[Value.cells,V.cells]using hlen',hlen',hone',hr⟩
 |_=>have e3:=hone _ (qav.2 rfl);have e5:=hx.one e3;exact single _ _ rfl (by cases v<;>first|rfl|cases e5) e3 hx
theorem rowRep.set {cs us:List Value} {l l2:List V} (hc:rowRep G w h nx cs l) (hu:rowRep G w h nx us l2) {off:Nat} (hfit:off+l2.length<=l.length):
  rowRep G w h nx (cs.take off++us++cs.drop (off+us.length)) (setAt l off l2):=by
 obtain⟨h1,h2,h3⟩:=hc;obtain⟨g1,g2,g3⟩:=hu;refine⟨by simp only[setAt,qj,qo,qan];omega,fun y hy=> ?_,fun j v x hv hx=> ?_⟩
 ·simp only[setAt,qal]at hy;rcases hy with(hy|hy)|hy
  ·exact h2 y (qat hy)
  ·exact g2 y hy
  ·exact h2 y (qbo hy)
 ·rw[getElem?_splice _ _ _ _ qqo]at hv;unfold setAt at hx;rw[getElem?_splice _ _ _ _ qqo]at hx;rw[g1]at hv;split at hv
  ·rename_i hj;rw[qh hj]at hx;exact h3 j v x hv hx
  ·rename_i hj;rw[qe hj]at hx;split at hv
   ·rename_i hj2;rw[qh hj2]at hx;exact g3 _ _ _ hv hx
   ·rename_i hj2;rw[qe hj2]at hx;exact h3 j v x hv hx
theorem ka3 (off:Nat):∀(us:List Value) (k:Nat) (cs:Array Value),off+k+us.length<=cs.size->
  (us.zipIdx k).foldl (fun cs x=>cs.setIfInBounds (off+x.2) x.1) cs=(cs.toList.take (off+k)++us++cs.toList.drop (off+k+us.length)).toArray
 |[],k,cs,_=>by simp
 |u::us,k,cs,hfit=>by
  simp only[List.zipIdx_cons,qfn];rw[ka3 off us (k+1) _ (by simp at hfit ⊢;omega)];apply congrArg List.toArray;apply qcy;intro j;have e1:=getElem?_splice (cs.setIfInBounds (off+k) u).toList us (off+(k+1)) j (by simp at hfit ⊢;omega);have e2:=getElem?_splice cs.toList (u::us) (off+k) j (by simp at hfit ⊢;omega);rw[e1,e2];simp only[Array.toList_setIfInBounds,qad,qcj,qci]at hfit ⊢;by_cases c1:j<off+k
  ·rw[qh qqo,qh c1,qe qqo]
  ·by_cases c2:j=off+k
   ·subst c2;simp[show off+k<off+(k+1)from by omega,show off+k<off+k+(us.length+1)from by omega,show off+k<cs.size from by omega]
   ·rw[qe qqo,qe c1];by_cases c3:j<off+(k+1)+us.length
    ·rw[qh c3,qh qqo,show j-(off+k)=(j-(off+(k+1)))+1 by omega,qao]
    ·rw[qe c3,qe qqo,qe qqo]
theorem kej {pl:Nat->Option (Nat×Nat)} {K:List V->Prop} {ρ:Operand->Value} {ev:Operand->V} (hev:∀x,RepV G w h nx (ρ x) (ev x)):
  ∀(parts:List (Nat×Operand)) (cs:List Value) (l:List V),rowRep G w h nx cs l->fillV pl K l (parts.map fun p=>(p.1,ev p.2))->
   ∃cs' l',Instr.fill pl cs.toArray (parts.map fun p=>(p.1,ρ p.2))=some (List.toArray cs')/\rowRep G w h nx cs' l'/\K l'
 |[],cs,l,hc,hk=>⟨cs,l,rfl,hc,hk⟩
 |(i,x)::parts,cs,l,hc,hk=>by
  simp only[qae,fillV]at hk;split at hk
  ·rename_i off n hp;obtain⟨hf,hfit,hk⟩:=hk;obtain⟨hs,hr⟩:=k98 (hev x) hf;have hn:(ev x).cells.length=n:=hf.1;have hcl:=hc.1;obtain⟨us,hus⟩:∃us:List Value,(ρ x).cells=us.toArray:=⟨(ρ x).cells.toList,by simp⟩;rw[hus]at hs hr;simp only[qbz]at hs hr;have hul:us.length=n:=hs;obtain⟨cs',l',h1,h2,h3⟩:=kej hev parts _ _ (hc.set hr qqo) hk;refine⟨cs',l',?_,h2,h3⟩;simp only[qae,Instr.fill,hp,hus];rw[qe qqm];have hfold:=ka3 off us 0 cs.toArray qqm;simp only[qcq]at hfold;rw[show(List.toArray us).zipIdx=(us.zipIdx 0).toArray by simp];simp only[qbz,List.foldl_toArray'];have hgoal:(us.zipIdx 0).foldl (fun cs x=>match x with|(c,j)=>cs.setIfInBounds (off+j) c) cs.toArray=(cs.take off++us++cs.drop (off+us.length)).toArray:=by simpa using hfold
   rw[hgoal];exact h1
  ·exact hk.elim
theorem k8g {α β:Type} (f:α->Sem β) (g:α->β):∀(l:List α),(∀x∈l,(f x).run P w= .ok (g x) w)->(l.mapM f).run P w= .ok (l.map g) w
 |[],_=>by simp
 |x::l,hx=>by simp only[qel,qp,hx x qqs,qi,k8g f g l (fun y hy=>hx y (by simp[hy])),qw,qae]
theorem k75 {α β:Type} (f:α->Option β):∀(l:List α) (r:List β),l.mapM f=some r->r.length=l.length/\∀(j:Nat) (x:α),l[j]? =some x->∃y,f x=some y/\r[j]? =some y
 |[],r,hr=>by simp at hr;subst hr;exact⟨rfl,fun j x hx=>by simp at hx⟩
 |x::l,r,hr=>by
  simp only[qel,Option.bind_eq_bind,Option.bind_eq_some_iff,Option.pure_def,qah]at hr;obtain⟨y,hy,r',hr',rfl⟩:=hr;obtain⟨h1,h2⟩:=k75 f l r' hr';refine⟨by simp[h1],fun j z hz=> ?_⟩;cases j with
  |zero=>simp at hz;subst hz;exact⟨y,hy,by simp⟩
  |succ j=>simp at hz;simpa using h2 j z hz
theorem kbl {t:TypeId} {pl:List (Nat×Nat)} {l0:List V} {K:V->Prop} {ρ:Operand->Value} {ev:Operand->V} (hev:∀x,RepV G w h nx (ρ x) (ev x)) (parts:List (Nat×Operand))
  (hpl:plOf P t=some pl) (hz:zeroV P t=some l0) (hk:fillV (pl[·]?) (fun l=>K (.agg l)) l0 (parts.map fun p=>(p.1,ev p.2))):
  ∃v z,(Instr.build t (parts.map fun p=>(p.1,ρ p.2)).toArray).run P w= .ok v w/\RepV G w h nx v z/\K z:=by
 obtain⟨i,z,hi,hzz,hrow⟩:=k5o (G:=G) (w:=w) (h:=h) (nx:=nx) hz;obtain⟨cs',l',h1,h2,h3⟩:=kej hev parts _ _ hrow hk;refine⟨.agg cs'.toArray,.agg l',?_,.agg cs' l' h2.1 h2.2.1 h2.2.2,h3⟩;have hzr:(zeroValue t).run P w= .ok z w:=by simp[zeroValue,typeInfo,hi,hzz]
 unfold plOf at hpl;split at hpl
 ·rename_i fs hu;obtain⟨hl,hp⟩:=k75 _ _ _ hpl
  have hmap:(fs.mapM (fun f=>do pure (f.offset,<-sizeOf f.type):Field->Sem (Nat×Nat))).run P w= .ok pl.toArray w:=by
   rw[Array.mapM_eq_mapM_toList]
   have hrun:=k8g (P:=P) (w:=w) (fun f:Field=>(do pure (f.offset,<-sizeOf f.type):Sem (Nat×Nat))) (fun f=>(f.offset,((tyOf P f.type).map (·.2)).getD 0)) fs.toList (fun f hf=>by
    obtain⟨j,hj,rfl⟩:=qbu hf;obtain⟨y,hy,_⟩:=hp j _ (qd hj);cases htf:tyOf P fs.toList[j].type with
    |none=>rw[htf]at hy;cases hy
    |some p=>
     obtain⟨a,n⟩:=p;simp only[qp,(ku htf w).2,qi,qw,qax,qbl])
   simp only[Sem.run_map,hrun,qi];congr 2;apply qcy;intro j;rw[ql];cases hj:fs.toList[j]? with
   |none=>have:fs.toList.length<=j:=List.getElem?_eq_none_iff.1 hj;simp only[Option.map_none];exact(qdd qqo).symm
   |some f=>
    obtain⟨y,hy,hy2⟩:=hp j f hj;rw[hy2];cases htf:tyOf P f.type with
    |none=>simp[htf]at hy
    |some p=>simp[htf]at hy ⊢;exact hy
  simp only[Instr.build,qp,hzr,qi,qz hu];rw[hmap];simp only[qi];have:(fun x:Nat=>pl.toArray[x]?)=(fun x:Nat=>pl[x]?):=by funext x;simp
  rw[this];have h1' :Instr.fill (fun x:Nat=>pl[x]?) z.cells (parts.map fun p=>(p.1,ρ p.2))=some cs'.toArray:=by simpa using h1
  simp only[h1',qw]
 ·rename_i n e hu;cases hte:tyOf P e with
  |none=>simp[hte]at hpl
  |some q=>
   obtain⟨ag,sz⟩:=q;simp[hte]at hpl;subst hpl;simp only[Instr.build,qp,hzr,qi,qz hu,(ku hte w).2]
   have hfill:∀(ps:List (Nat×Value)) (c r:Array Value),Instr.fill (fun x=>(List.map (fun i=>(i*sz,sz)) (List.range n))[x]?) c ps=some r->Instr.fill (fun i=>some (i*sz,sz)) c ps=some r:=by
    intro ps;induction ps with
    |nil=>intro c r hr;exact hr
    |cons p ps ih=>
     intro c r hr;obtain⟨i',v'⟩:=p;simp only[Instr.fill]at hr ⊢;rw[ql]at hr;cases hir:(List.range n)[i']? with
     |none=>simp[hir]at hr
     |some q=>
      have:q=i' :=by rw[qf]at hir;obtain⟨_,hq⟩:=hir;simp at hq;exact hq.symm
      subst this;simp only[hir,qax]at hr;split at hr
      ·cases hr
      ·rename_i hc;rw[qe hc];exact ih _ _ hr
   have:=hfill _ _ _ h1;have h1' :Instr.fill (fun i=>some (i*sz,sz)) z.cells (parts.map fun p=>(p.1,ρ p.2))=some cs'.toArray:=by simpa using this
   simp only[h1',qw]
 ·cases hpl
def V.toD1:V->Option D
 | .d x=>some x
 | .own _ sz l=>some (.slice sz l)
 | .full sz l=>some (.slice sz l)
 |_=>none
def V.toD:V->Option D
 | .agg l=>(l.mapM V.toD1).map .agg
 |x=>x.toD1
theorem kjs {v:Value} {x:V} {d:D} (hd:x.toD1=some d) (hv:RepV G w h nx v x):RepD G.lim w v d:=by
 unfold V.toD1 at hd;split at hd
 ·injection hd with hd;subst hd;cases hv;assumption
 ·injection hd with hd;subst hd;cases hv;assumption
 ·injection hd with hd;subst hd;exact hv.full_inv.elim fun _ h=>h.2
 ·cases hd
theorem toD_rep {v:Value} {x:V} {d:D} (hd:x.toD=some d) (hv:RepV G w h nx v x):v.cells.size=d.cells.length/\(∀c∈d.cells,c.one=true)/\
  ∀(j:Nat) (u:Value) (c:D),v.cells.toList[j]? =some u->d.cells[j]? =some c->RepD G.lim w u c:=by
 unfold V.toD at hd;split at hd
 ·rename_i l;cases hm:l.mapM V.toD1 with
  |none=>simp[hm]at hd
  |some ds=>
   simp[hm]at hd;subst hd;obtain⟨h1,h2⟩:=k75 _ _ _ hm;cases hv with|agg vs _ hlen hone hr=>
   have main:∀(j:Nat) (u:Value) (c:D),vs[j]? =some u->ds[j]? =some c->RepD G.lim w u c:=by
    intro j u c hu hc;have hj:j<l.length:=by have:=(qf.1 hu).1;omega
    obtain⟨y,hy1,hy2⟩:=h2 j _ (qd hj);rw[hc]at hy2;injection hy2 with hy2;subst hy2;exact kjs hy1 (hr j u _ hu (qd hj))
   refine⟨by simp[Value.cells,D.cells,hlen,h1],fun c hc=> ?_,main⟩;obtain⟨j,hj,rfl⟩:=qbu hc;have hj' :j<vs.length:=by simp[D.cells]at hj;omega
   exact(main j _ _ (qd hj') (qd hj)).done
 ·have hr:=kjs hd hv;have h1:=hr.one;have h2:=hr.done;have e1:v.cells= #[v]:=by cases v<;>first|rfl|cases h1
  have e2:d.cells=[d]:=by cases d<;>first|rfl|cases h2
  rw[e1,e2];refine⟨rfl,fun c hc=>by simp at hc;subst hc;exact h2,fun j u c hu hc=> ?_⟩;cases j with
  |zero=>simp at hu hc;subst hu;subst hc;exact hr
  |succ j=>simp at hu
theorem kjv (sz:Nat):∀(ps:List (Nat×Value)) (k:Nat) (cs:Array Value),(∀(j:Nat) (p:Nat×Value),ps[j]? =some p->p.1=k+j/\p.2.cells.size=sz)->cs.size=(k+ps.length)*sz->
  Instr.fill (fun i=>some (i*sz,sz)) cs ps=some (cs.toList.take (k*sz)++ps.flatMap (fun p=>p.2.cells.toList)).toArray
 |[],k,cs,_,hs=>by simp only[Instr.fill,List.flatMap_nil,qcu];rw[qu (by rw[qci,hs];simp)]
 |(i,v)::ps,k,cs,hp,hs=>by
  obtain⟨h1,h2⟩:=hp 0 _ rfl;simp only[qcq]at h1 h2;subst h1;have hle:i*sz+sz<=cs.size:=by rw[hs,<-qed];exact qbc _ qqs
  simp only[Instr.fill,h2];rw[qe qqm];obtain⟨us,hus⟩:∃us:List Value,v.cells=us.toArray:=⟨v.cells.toList,by simp⟩;rw[hus]at h2 ⊢;simp only[qbz]at h2;have hfold:=ka3 (i*sz) us 0 cs qqo;simp only[qcq]at hfold;rw[show(List.toArray us).zipIdx=(us.zipIdx 0).toArray by simp];simp only[qbz,List.foldl_toArray'];have hgoal:(us.zipIdx 0).foldl (fun cs x=>match x with|(c,j)=>cs.setIfInBounds (i*sz+j) c) cs=(cs.toList.take (i*sz)++us++cs.toList.drop (i*sz+us.length)).toArray:=hfold
  rw[hgoal,kjv sz ps (i+1) _ (fun j p hj=>by have:=hp (j+1) p (by simpa using hj);exact⟨by omega,this.2⟩) (by
   simp only[qbz,qj,qo,qan,qci];simp only[qad]at hs;rw[show i+1+ps.length=i+(ps.length+1)by omega,<-hs];omega)]
  congr 2;rw[qed];simp only[qay,List.toList_toArray,hus];rw[<-qx];congr 1;rw[qx,qeq,qu qqm];congr 1;simp only[qo,qci];rw[qcb qqo,show i*sz+sz-i*sz=us.length by omega,qeq,qu (qt _)];simp
theorem R.buildRaw (hR:R T G0 w0 N s a G w) {t:TypeId} {sz bt:Nat} (hrow:rowOf P t=some (sz,bt)) (parts:List (Nat×Operand)) (n:Nat) (hidx:parts.map (·.1)=List.range n)
  {l:List D} (hl:parts.mapM (fun p=>(s.ev p.2).toD)=some l) (hsz:∀d∈l,d.cells.length=sz) (hsm:n*sz<=16777216):
  ∃(e:TypeId) (vs:List Value),(Instr.buildSlice t n (parts.map fun p=>(p.1,a.eval p.2)).toArray).run P w= .ok (.slice (some ⟨w.heap.size,0,none⟩) n n) (w.alloc (.cells vs.toArray e))/\vs.length=n*sz/\
   (∀d∈l,d.cells.length=sz/\∀c∈d.cells,c.one=true)/\(∀(j:Nat) (u:Value) (c:D),vs[j]? =some u->(l.flatMap D.cells)[j]? =some c->RepD G.lim w u c)/\l.length=n/\0<sz:=by
 obtain⟨e,i,z,hu,hi,hz,hzs,hsz0,hisz,hibt⟩:=k1t hrow;obtain⟨hll,hlp⟩:=k75 _ _ _ hl;have hpn:parts.length=n:=by have:=congrArg List.length hidx;simpa using this
 have hln:l.length=n:=by omega
 have each:∀(j:Nat) (p:Nat×Operand),parts[j]? =some p->∃d,l[j]? =some d/\p.1=j/\(a.eval p.2).cells.size=sz/\d.cells.length=sz/\(∀c∈d.cells,c.one=true)/\
   ∀(q:Nat) (u:Value) (c:D),(a.eval p.2).cells.toList[q]? =some u->d.cells[q]? =some c->RepD G.lim w u c:=by
  intro j p hj;obtain⟨d,hd1,hd2⟩:=hlp j p hj;obtain⟨g1,g2,g3⟩:=toD_rep hd1 (hR.ev p.2);have hjn:j<n:=by have:=(qf.1 hj).1;omega
  have hi1:(parts.map (·.1))[j]? =some p.1:=by simp[hj]
  rw[hidx]at hi1;simp[hjn]at hi1;have hds:=hsz d (qbb hd2);exact⟨d,hd2,hi1.symm,by omega,hds,g2,g3⟩
 let ps:List (Nat×Value):=parts.map fun p=>(p.1,a.eval p.2);let vs:List Value:=ps.flatMap fun p=>p.2.cells.toList
 have hfill:∀cs:Array Value,cs.size=n*sz->Instr.fill (fun i=>some (i*sz,sz)) cs ps=some vs.toArray:=by
  intro cs hcs
  have:=kjv sz ps 0 cs (fun j p hj=>by
   simp only[ps,ql,qv]at hj;obtain⟨q,hq,rfl⟩:=hj;obtain⟨d,_,h2,h3,_⟩:=each j q hq;exact⟨by simpa using h2,h3⟩) (by simp[ps,hpn,hcs])
  simpa using this
 have hrun:(Instr.buildSlice t n ps.toArray).run P w= .ok (.slice (some ⟨w.heap.size,0,none⟩) n n) (w.alloc (.cells vs.toArray e)):=by
  have hzr:(zeroValue e).run P w= .ok z w:=by simp[zeroValue,typeInfo,hi,hz]
  have hsr:(sizeOf e).run P w= .ok sz w:=by simp[sizeOf,typeInfo,hi,hisz]
  have h24:¬(2^24<n*sz):=by omega
  simp only[Instr.buildSlice,qp,qz hu,qi,hsr];rw[qe qqo];by_cases h0:n*sz=0
  ·simp only[h0,qce,qw,qi,qp];rw[hfill _ (by simp[h0])];rfl
  ·simp only[qe h0,qp,hzr,qw,qi];rw[hfill _ qqs];rfl
 have hvl:vs.length=n*sz:=by
  have:∀(q:List (Nat×Value)),(∀p∈q,p.2.cells.size=sz)->(q.flatMap fun p=>p.2.cells.toList).length=q.length*sz:=by
   intro q hq;induction q with
   |nil=>simp
   |cons p q ih=>have h1:=hq p qqs;have h2:=ih (fun x hx=>hq x (by simp[hx]));simp only[qay,qj,qci,qad,h1,h2,qed];omega
  rw[this ps (fun p hp=>by
   simp only[ps,qag]at hp;obtain⟨q,hq,rfl⟩:=hp;obtain⟨j,hj,rfl⟩:=qbu hq;exact((each j _ (qd hj)).choose_spec).2.2.1)]
  simp[ps,hpn]
 have hszl:∀d∈l,d.cells.length=sz/\∀c∈d.cells,c.one=true:=by intro d hd;obtain⟨j,hj,rfl⟩:=qbu hd;obtain⟨d',h1,_,_,h4,h5,_⟩:=each j _ (qd qqo);rw[qd hj]at h1;injection h1 with h1;subst h1;exact⟨h4,h5⟩
 have hrep:∀(j:Nat) (u:Value) (c:D),vs[j]? =some u->(l.flatMap D.cells)[j]? =some c->RepD G.lim w u c:=by
  have gen:∀(q:List (Nat×Value)) (m:List D),q.length=m.length->(∀(j:Nat) (p:Nat×Value) (d:D),q[j]? =some p->m[j]? =some d->p.2.cells.size=d.cells.length/\∀(r:Nat) (u:Value) (c:D),p.2.cells.toList[r]? =some u->d.cells[r]? =some c->RepD G.lim w u c)->
    ∀(j:Nat) (u:Value) (c:D),(q.flatMap fun p=>p.2.cells.toList)[j]? =some u->(m.flatMap D.cells)[j]? =some c->RepD G.lim w u c:=by
   intro q;induction q with
   |nil=>intro m _ _ j u c hu;simp at hu
   |cons p q ih=>
    intro m hlen hh j u c hu hc;cases m with
    |nil=>simp at hlen
    |cons d m=>
     obtain⟨k1,k2⟩:=hh 0 p d rfl rfl;simp only[qay]at hu hc;by_cases hj:j<d.cells.length
     ·rw[qap qqm]at hu;rw[qap hj]at hc;exact k2 j u c hu hc
     ·rw[qaw qqm]at hu;rw[qaw qqo]at hc;rw[qci,k1]at hu;exact ih m (by simpa using hlen) (fun j p d hp hd=>hh (j+1) p d (by simpa using hp) (by simpa using hd)) _ u c hu hc
  refine gen ps l (by simp[ps];omega) (fun j p d hp hd=> ?_);simp only[ps,ql,qv]at hp;obtain⟨q,hq,rfl⟩:=hp;obtain⟨d',h1,_,h3,h4,_,h6⟩:=each j q hq;rw[hd]at h1;injection h1 with h1;subst h1;exact⟨by show(a.eval q.2).cells.size=_;omega,h6⟩
 exact⟨e,vs,hrun,hvl,hszl,hrep,hln,hsz0⟩
theorem R.buildRow (hR:R T G0 w0 N s a G w) {t:TypeId} {sz bt:Nat} (hrow:rowOf P t=some (sz,bt)) (parts:List (Nat×Operand)) (n:Nat) (hidx:parts.map (·.1)=List.range n)
  {l:List D} (hl:parts.mapM (fun p=>(s.ev p.2).toD)=some l) (hsz:∀d∈l,d.cells.length=sz) (hsm:n*sz<=16777216):
  ∃v w' G',(Instr.buildSlice t n (parts.map fun p=>(p.1,a.eval p.2)).toArray).run P w= .ok v w'/\R T G0 w0 N ⟨s.sl,(s.nx,.cells ((l.flatMap D.cells).map .d))::s.h,s.nx+1⟩ a G' w'/\
   RepV G' w' ((s.nx,.cells ((l.flatMap D.cells).map .d))::s.h) (s.nx+1) v (.row s.nx 0 n sz):=by
 obtain⟨e,vs,hrun,hvl,hszl,hrep,hln,hsz0⟩:=hR.buildRaw hrow parts n hidx hl hsz hsm
 obtain⟨G',hR',hp⟩:=hR.alloc e vs ((l.flatMap D.cells).map .d) (by rw[hvl,qm,ki hszl,hln]) (fun c hc=>by
   obtain⟨d,hd,rfl⟩:=qag.1 hc;obtain⟨x,hx,hdx⟩:=qdr.1 hd;exact(hszl x hx).2 d hdx) (fun j u c hu hc=>by
   rw[ql,qv]at hc;obtain⟨d,hd,rfl⟩:=hc;exact .d _ _ (hrep j u d hu hd))
 refine⟨_,_,G',hrun,hR',?_⟩;have hmx:n<=maxLen:=by have:n<=n*sz:=qfd _ hsz0;simp only[maxLen];omega
 cases hp with
 |ptr _ _ b hid hl=>refine .row s.nx 0 n sz w.heap.size 0 n _ hid hl (fun _=>rfl) (qt _) hmx (csz_of (qcw w _)) ?_;simp[hvl]
theorem R.buildSlice (hR:R T G0 w0 N s a G w) {t:TypeId} {sz bt:Nat} (hrow:rowOf P t=some (sz,bt)) (parts:List (Nat×Operand)) (n:Nat) (hidx:parts.map (·.1)=List.range n)
  {l:List D} (hl:parts.mapM (fun p=>(s.ev p.2).toD)=some l) (hsz:∀d∈l,d.cells.length=sz) (hsm:n*sz<=16777216) (k nx' :Nat) (hk:(k=s.nx/\nx' =s.nx+1)∨(k<s.nx/\nx' =s.nx)) (hkn:s.h.get k=none):
  ∃v w' G',(Instr.buildSlice t n (parts.map fun p=>(p.1,a.eval p.2)).toArray).run P w= .ok v w'/\R T G0 w0 N ⟨s.sl,s.h,nx'⟩ a G' w'/\RepV G' w' s.h nx' v (.full sz l)/\∀i,i≠k->i<s.nx->G'.loc i=G.loc i/\G'.tloc i=G.tloc i:=by
 obtain⟨e,vs,hrun,hvl,hszl,hrep,hln,hsz0⟩:=hR.buildRaw hrow parts n hidx hl hsz hsm
 obtain⟨G',hR',_,hrd,_,_,hG⟩:=R.newRow hR e vs sz l vs hszl (by rw[hvl,ki hszl,hln]) qqs hrep k nx' s.h hk (fun _ _=>rfl) (fun ob hob=>by
  rw[hkn]at hob;cases hob)
 refine⟨_,_,G',hrun,hR',?_,hG⟩;have hmx:n<=maxLen:=by have:n<=n*sz:=qfd _ hsz0;simp only[maxLen];omega
 have:=hrd n qqo hmx;rw[<-hln]at this ⊢;exact .full _ _ _ this
end
end Go.Bv
namespace Go.Bv
open Go.RowKit
def eqFs (P:Program):Nat->List Field->Option (List TypeDesc)
 |_,[]=>some []
 |k,f::fs=>match(f.name != "_" &&f.offset==k),tyOf P f.type,P.underlying f.type,eqFs P (k+1) fs with
  |true,some (false,1),some u,some r=>some (u::r)
  |_,_,_,_=>none
def eqT (P:Program) (t:TypeId):Option (List TypeDesc):=match P.underlying t with
 |some (.struct fs)=>match P.stoodInHeld t||P.eqGuardType P.depth t with
  |false=>eqFs P 0 fs.toList
  |true=>none
 |some (.array n e)=>match P.eqGuardType P.depth t,tyOf P e,P.underlying e with
  |false,some (false,1),some u=>some (List.replicate n u)
  |_,_,_=>none
 |_=>none
def eqEl (d:Nat) (xs ys:Array Value) (e:TypeId) (n:Nat):List Nat->Sem Bool
 |[]=>pure true
 |i::is=>do
  let a<-part e xs (i*n);let b<-part e ys (i*n);let r<-Op.equalIn d e a b
  if(!r)=true then pure false else eqEl d xs ys e n is
def eqCell:V->V->Bool
 | .d (.int _ a),.d (.int _ b)=>a==b
 | .d (.bool a),.d (.bool b)=>a==b
 | .d (.str a),.d (.str b)=>a==b
 |_,_=>false
def eqCellOk:TypeDesc->V->V->Prop
 | .int _,.d (.int k _),.d (.int k' _)=>k=k'
 | .bool,.d (.bool _),.d (.bool _)=>True
 | .string,.d (.str _),.d (.str _)=>True
 |_,_,_=>False
def eqL:List V->List V->Bool
 |x::xs,y::ys=>eqCell x y&&eqL xs ys
 |_,_=>true
def eqLOk:List TypeDesc->List V->List V->Prop
 |[],[],[]=>True
 |t::ts,x::xs,y::ys=>eqCellOk t x y/\eqLOk ts xs ys
 |_,_,_=>False
section
variable {P:Program} {G:Gh} {w:World} {h:Hp} {nx:Nat}
theorem kek {t:TypeId} {u:TypeDesc} (hu:P.underlying t=some u) {x y:V} (ho:eqCellOk u x y) {v v' :Value} (hv:RepV G w h nx v x) (hv' :RepV G w h nx v' y) (d:Nat):
  (Op.equalIn (d+1) t v v').run P w= .ok (eqCell x y) w:=by
 unfold eqCellOk at ho;split at ho
 ·subst ho;cases hv with|d _ _ hd=>
  cases hd;cases hv' with|d _ _ hd=>
  cases hd;simp[Op.equalIn,qz hu,eqCell]
 ·cases hv with|d _ _ hd=>
  cases hd;cases hv' with|d _ _ hd=>
  cases hd;simp[Op.equalIn,qz hu,eqCell]
 ·cases hv with|d _ _ hd=>
  cases hd;cases hv' with|d _ _ hd=>
  cases hd;simp[Op.equalIn,qz hu,eqCell]
 ·exact ho.elim
theorem kkm (d:Nat) (vs us:List Value) (l m:List V) (hl:vs.length=l.length) (hm:us.length=m.length) (hr:∀(j:Nat) (v:Value) (x:V),vs[j]? =some v->l[j]? =some x->RepV G w h nx v x)
  (hs:∀(j:Nat) (v:Value) (x:V),us[j]? =some v->m[j]? =some x->RepV G w h nx v x):∀(fs:List Field) (k:Nat) (ts:List TypeDesc),eqFs P k fs=some ts->eqLOk ts (l.drop k) (m.drop k)->
   (Op.eqFields (d+1) vs.toArray us.toArray fs).run P w= .ok (eqL (l.drop k) (m.drop k)) w
 |[],k,ts,he,ho=>by
  simp only[eqFs,qah]at he;subst he;unfold eqLOk at ho;split at ho
  ·rename_i h1 h2 h3;simp[h2,Op.eqFields,eqL]
  ·rename_i h1 _ _;cases h1
  ·exact ho.elim
 |f::fs,k,ts,he,ho=>by
  simp only[eqFs]at he;split at he
  ·rename_i u r h1 h2 h3 h4;injection he with he;subst he;simp only[qg,bne_iff_ne,ne_eq,beq_iff_eq]at h1;unfold eqLOk at ho;split at ho
   ·rename_i q _ _;cases q
   ·rename_i t' ts' x xs y ys q1 q2 q3;injection q1 with q1 q1';subst q1 q1';have hxk:l[k]? =some x:=by have:=congrArg (fun l=>l[0]?) q2;simpa using this
    have hyk:m[k]? =some y:=by have:=congrArg (fun l=>l[0]?) q3;simpa using this
    have hl1:l.drop (k+1)=xs:=by have:=congrArg List.tail q2;simpa using this
    have hm1:m.drop (k+1)=ys:=by have:=congrArg List.tail q3;simpa using this
    have hkl:k<l.length:=(qf.1 hxk).1;have hkm:k<m.length:=(qf.1 hyk).1;have part1:∀(ws:List Value),k<ws.length->(part f.type ws.toArray f.offset).run P w= .ok (ws[k]?.getD undef) w:=by intro ws hk;rw[h1.2];simp only[part,qp,(ku h2 w).1,qi,qbd,qdl];simp[hk]
    have e1:vs[k]? =some (vs[k]' qqo):=qd qqo;have e2:us[k]? =some (us[k]' qqo):=qd qqo;simp only[Op.eqFields,h1.1,not_false_eq_true,ne_eq,qce,qp,part1 vs qqo,part1 us qqo,qi];rw[e1,e2,qbl,qbl,kek h3 ho.1 (hr k _ _ e1 hxk) (hs k _ _ e2 hyk) d];have ih:=kkm d vs us l m hl hm hr hs fs (k+1) r h4 (by rw[hl1,hm1];exact ho.2);simp only[qi,Sem.run_ite,q2,q3,eqL];rw[hl1,hm1]at ih;cases hc:eqCell x y with
    |true=>simpa using ih
    |false=>simp
   ·exact ho.elim
  ·cases he
theorem kb5 (w:World) (d:Nat) (t e:TypeId) (len n:Nat) (xs ys:Array Value) (ht:P.underlying t=some (.array len e)) (hs:∀w,(sizeOf e).run P w= .ok n w):
  (Op.equalIn (d+1) t (.agg xs) (.agg ys)).run P w=(eqEl d xs ys e n (List.range' 0 len)).run P w:=by
 simp only[Op.equalIn,qp,qz ht,qi,hs];simp only[Std.Legacy.Range.forIn_eq_forIn_range',Std.Legacy.Range.size,Nat.sub_zero,Nat.add_sub_cancel,Nat.div_one];generalize List.range' 0 len=is;clear ht hs;induction is generalizing w with
 |nil=>simp[eqEl]
 |cons f fs ih=>
  simp only[List.forIn_cons,eqEl,qp,Sem.run_ite];generalize (part e xs (f*n)).run P w=r1;cases r1 with
  |ok a w1=>
   simp only[qi];generalize (part e ys (f*n)).run P w1=r2;cases r2 with
   |ok b w2=>
    simp only[qi];generalize (Op.equalIn d e a b).run P w2=r3;cases r3 with
    |ok r w3=>
     cases r
     ·simp only[qi,Bool.not_false,qce,qw]
     ·simp only[qi,Bool.not_true,qbd,qdl,qw];exact ih w3
    |halt x w3=>simp[Result.andThen]
   |halt x w2=>simp[Result.andThen]
  |halt x w1=>simp[Result.andThen]
theorem kkn (d:Nat) (vs us:List Value) (l m:List V) (hl:vs.length=l.length) (hm:us.length=m.length) (hr:∀(j:Nat) (v:Value) (x:V),vs[j]? =some v->l[j]? =some x->RepV G w h nx v x)
  (hs:∀(j:Nat) (v:Value) (x:V),us[j]? =some v->m[j]? =some x->RepV G w h nx v x) {e:TypeId} {u:TypeDesc} (he:tyOf P e=some (false,1)) (hu:P.underlying e=some u):∀(n k:Nat),eqLOk (List.replicate n u) (l.drop k) (m.drop k)->
   (eqEl (d+1) vs.toArray us.toArray e 1 (List.range' k n)).run P w= .ok (eqL (l.drop k) (m.drop k)) w
 |0,k,ho=>by
  unfold eqLOk at ho;split at ho
  ·rename_i h1 h2 h3;simp[h2,eqEl,eqL]
  ·rename_i h1 _ _;cases h1
  ·exact ho.elim
 |n+1,k,ho=>by
  rw[qdo]at ho;unfold eqLOk at ho;split at ho
  ·rename_i q _ _;cases q
  ·rename_i t' ts' x xs y ys q1 q2 q3;injection q1 with q1 q1';subst q1 q1';have hxk:l[k]? =some x:=by have:=congrArg (fun l=>l[0]?) q2;simpa using this
   have hyk:m[k]? =some y:=by have:=congrArg (fun l=>l[0]?) q3;simpa using this
   have hl1:l.drop (k+1)=xs:=by have:=congrArg List.tail q2;simpa using this
   have hm1:m.drop (k+1)=ys:=by have:=congrArg List.tail q3;simpa using this
   have hkl:k<l.length:=(qf.1 hxk).1;have hkm:k<m.length:=(qf.1 hyk).1;have part1:∀(ws:List Value),k<ws.length->(part e ws.toArray (k*1)).run P w= .ok (ws[k]?.getD undef) w:=by intro ws hk;rw[Nat.mul_one];simp only[part,qp,(ku he w).1,qi,qbd,qdl];simp[hk]
   have e1:vs[k]? =some (vs[k]' qqo):=qd qqo;have e2:us[k]? =some (us[k]' qqo):=qd qqo;rw[List.range'_succ];simp only[eqEl,qp,part1 vs qqo,part1 us qqo,qi];rw[e1,e2,qbl,qbl,kek hu ho.1 (hr k _ _ e1 hxk) (hs k _ _ e2 hyk) d];have ih:=kkn d vs us l m hl hm hr hs he hu n (k+1) (by rw[hl1,hm1];exact ho.2);simp only[qi,Sem.run_ite,q2,q3,eqL];rw[hl1,hm1]at ih;cases hc:eqCell x y with
   |true=>simpa using ih
   |false=>simp
  ·exact ho.elim
theorem eqT_run {t:TypeId} {ts:List TypeDesc} (he:eqT P t=some ts) {l m:List V} (ho:eqLOk ts l m) {v v' :Value} (hv:RepV G w h nx v (.agg l)) (hv' :RepV G w h nx v' (.agg m)) (op:BinOp) (hop:op= .eql∨op= .neq) (ox oy:Operand):
  (do eqGuard op t ox oy v v';binOp op t v v' :Sem Value).run P w= .ok (.bool (if op= .eql then eqL l m else !eqL l m)) w:=by
 generalize hx:V.agg l=x at hv;cases hv<;>first|cases hx|skip
 rename_i vs hlen hone hr;generalize hy:V.agg m=y at hv';cases hv' <;>first|cases hy|skip
 rename_i us hlen' hone' hr';unfold eqT at he;split at he
 ·rename_i fs hu;split at he
  ·rename_i hg;simp only[qdz]at hg;have hf:P.fieldsOf t=fs:=by simp[Program.fieldsOf,hu]
   have key:=kkm (P:=P) (w:=w) 9998 vs us l m hlen hlen' hr hr' fs.toList 0 ts he (by simpa using ho);have h1:(Op.equalIn 10000 t (.agg vs.toArray) (.agg us.toArray)).run P w= .ok (eqL l m) w:=by rw[run_equalIn_struct w 9999 t _ _ (by rw[hf];exact hu) hg.1,hf];simpa using key
   rcases hop with rfl|rfl
   ·simp only[qp,run_eqGuard_agg w _ _ _ _ _ _ hg.2,qi,run_eql_struct,h1,qce]
   ·simp only[qp,run_eqGuard_agg w _ _ _ _ _ _ hg.2,qi,run_neq_struct,h1];simp
  ·cases he
 ·rename_i n e hu;split at he
  ·rename_i u hg hte hue;injection he with he;subst he;have key:=kkn (P:=P) (w:=w) 9998 vs us l m hlen hlen' hr hr' hte hue n 0 (by simpa using ho);have h1:(Op.equalIn 10000 t (.agg vs.toArray) (.agg us.toArray)).run P w= .ok (eqL l m) w:=by rw[kb5 w 9999 t e n 1 _ _ hu (fun w=>(ku hte w).2)];simpa using key
   rcases hop with rfl|rfl
   ·simp only[qp,run_eqGuard_agg w _ _ _ _ _ _ hg,qi,run_eql_struct,h1,qce]
   ·simp only[qp,run_eqGuard_agg w _ _ _ _ _ _ hg,qi,run_neq_struct,h1];simp
  ·cases he
 ·cases he
end
end Go.Bv
namespace Go.Bv
open Go.RowKit
def partOk (a:Bool) (n:Nat) (l:List V) (off:Nat):Prop:=match a with
 |true=>off+n<=l.length
 |false=>off<l.length
def partOf (a:Bool) (n:Nat) (l:List V) (off:Nat):V:=match a with
 |true=> .agg ((l.drop off).take n)
 |false=>(l[off]?).getD .any
def boolOf:V->Option Bool
 | .d (.bool b)=>some b
 |_=>none
def pick2 (t:Bool) (a b:V):Option Bool->Option Bool->V
 |some p,some q=> .d (.bool (bif t then p else q))
 |_,_=>match t with
  |true=>a
  |false=>b
def pickV (c a b:V):V:=match boolOf c with
 |some t=>pick2 t a b (boolOf a) (boolOf b)
 |none=> .any
def pickOk (c:V):Prop:=(boolOf c).isSome=true
theorem k3r {x:V} {b:Bool} (h:boolOf x=some b):x= .d (.bool b):=by
 unfold boolOf at h;split at h
 ·injection h with h;subst h;rfl
 ·cases h
theorem k7r (a b:V):pickV (.d (.bool true)) a b=a:=by
 show pick2 true a b (boolOf a) (boolOf b)=a;cases ha:boolOf a with
 |none=>rfl
 |some p=>
  cases hb:boolOf b with
  |none=>rfl
  |some q=>rw[k3r ha];rfl
theorem k6f (a b:V):pickV (.d (.bool false)) a b=b:=by
 show pick2 false a b (boolOf a) (boolOf b)=b;cases ha:boolOf a with
 |none=>rfl
 |some p=>
  cases hb:boolOf b with
  |none=>rfl
  |some q=>rw[k3r hb];rfl
def loadV (ty:Option (Bool×Nat)) (h:Hp):V->V
 | .ptr id off=>match ty,h.get id with
  |some (a,n),some (.cells l)=>partOf a n l off
  |_,_=> .any
 | .ro l=>match ty with
  |some (a,n)=>partOf a n (l.map .d) 0
  |none=> .any
 |_=> .any
def loadOk (ty:Option (Bool×Nat)) (h:Hp):V->Prop
 | .ptr id off=>match ty,h.get id with
  |some (a,n),some (.cells l)=>partOk a n l off
  |_,_=>False
 | .ro l=>match ty with
  |some (a,n)=>partOk a n (l.map .d) 0
  |none=>False
 |_=>False
def faddrV (fl:Option (Nat×Bool×Nat)):V->V
 | .ptr id off=>match fl with
  |some (o,_,_)=> .ptr id (off+o)
  |none=> .any
 | .ro l=>match fl with
  |some (o,_,_)=> .ro (l.drop o)
  |none=> .any
 |_=> .any
def faddrOk (fl:Option (Nat×Bool×Nat)):V->Prop
 | .ptr _ _=>match fl with
  |some _=>True
  |none=>False
 | .ro _=>match fl with
  |some _=>True
  |none=>False
 |_=>False
def fieldV (fl:Option (Nat×Bool×Nat)):V->V
 | .agg l=>match fl with
  |some (o,a,n)=>partOf a n l o
  |none=> .any
 |_=> .any
def fieldOk (fl:Option (Nat×Bool×Nat)):V->Prop
 | .agg l=>match fl with
  |some (o,a,n)=>partOk a n l o
  |none=>False
 |_=>False
def V.elsD (sz:Nat) (x:V):List D:=(x.els sz).getD []
def isEls (sz:Nat) (x:V):Prop:=(x.els sz).isSome=true
def elt (l:List D) (n:Nat):D:=(l[n]?).getD (.agg [])
def iaddrDV (el:Option (Bool×Nat)) (ar:Option (Nat×Bool×Nat)) (x:V):V->V
 | .d (.int _ i)=>match el with
  |some (_,sz)=> .ro (elt (x.elsD sz) i.toNat).cells
  |none=>match ar with
   |some (_,_,sz)=>match x with
    | .ptr id off=> .ptr id (off+i.toNat*sz)
    | .ro l=> .ro (l.drop (i.toNat*sz))
    |_=> .any
   |none=> .any
 |_=> .any
def iaddrDOk (el:Option (Bool×Nat)) (ar:Option (Nat×Bool×Nat)) (x:V):V->Prop
 | .d (.int _ i)=>match el with
  |some (_,sz)=>isEls sz x/\0<=i/\i<((x.elsD sz).length:Int)
  |none=>match ar with
   |some (n,_,_)=>match x with
    | .ptr _ _=>0<=i/\i<(n:Int)
    | .ro _=>0<=i/\i<(n:Int)
    |_=>False
   |none=>False
 |_=>False
def rowIx (id off sz:Nat):V->V
 | .d (.int _ i)=> .ptr id (off+i.toNat*sz)
 |_=> .any
def elSz (sz:Nat):Option (Bool×Nat)->Prop
 |some (_,s)=>s=sz
 |none=>False
def rowIxOk (el:Option (Bool×Nat)) (len sz:Nat):V->Prop
 | .d (.int _ i)=>elSz sz el/\0<=i/\i<(len:Int)
 |_=>False
def iaddrV (el:Option (Bool×Nat)) (ar:Option (Nat×Bool×Nat)):V->V->V
 | .row id off _ sz,i=>rowIx id off sz i
 |x,i=>iaddrDV el ar x i
def iaddrOk (el:Option (Bool×Nat)) (ar:Option (Nat×Bool×Nat)):V->V->Prop
 | .row _ _ len sz,i=>rowIxOk el len sz i
 |x,i=>iaddrDOk el ar x i
def indexV (ar:Option (Nat×Bool×Nat)):V->V->V
 | .agg l,.d (.int _ i)=>match ar with
  |some (_,a,sz)=>partOf a sz l (i.toNat*sz)
  |none=> .any
 | .d (.str s),.d (.int _ i)=> .d (.int .u8 (((s[i.toNat]?).getD 0).toNat))
 |_,_=> .any
def indexOk (P:Program) (t:TypeId) (ar:Option (Nat×Bool×Nat)):V->V->Prop
 | .agg l,.d (.int _ i)=>match ar with
  |some (n,a,sz)=>0<=i/\i<(n:Int)/\partOk a sz l (i.toNat*sz)
  |none=>False
 | .d (.str s),.d (.int _ i)=>arrOf P t=none/\P.underlying t=some .string/\0<=i/\i<(s.size:Int)
 |_,_=>False
def extV (i:Nat):V->V
 | .tup l=>(l[i]?).getD .any
 |_=> .any
def extOk (i:Nat):V->Prop
 | .tup l=>i<l.length
 |_=>False
def lenV:V->V
 | .d (.str s)=> .d (.int .i64 s.size)
 | .d (.slice _ l)=> .d (.int .i64 l.length)
 | .own _ _ l=> .d (.int .i64 l.length)
 | .full _ l=> .d (.int .i64 l.length)
 | .k (.slice none 0 0)=> .d (.int .i64 0)
 | .row _ _ len _=> .d (.int .i64 len)
 |_=> .any
def isStrT:Option TypeDesc->Prop
 |some .string=>True
 |_=>False
def isSliceT:Option TypeDesc->Prop
 |some (.slice _)=>True
 |_=>False
def lenOk (d:Option TypeDesc):V->Prop
 | .d (.str _)=>isStrT d
 | .d (.slice _ _)=>isSliceT d
 | .own _ _ _=>isSliceT d
 | .full _ _=>isSliceT d
 | .k (.slice none 0 0)=>isSliceT d
 | .row _ _ _ _=>isSliceT d
 |_=>False
def intV (op:BinOp) (k:IntKind) (a b:Int):V:=
 match op with
 | .add=> .d (.int k (k.wrap (a+b)))
 | .sub=> .d (.int k (k.wrap (a-b)))
 | .mul=> .d (.int k (k.wrap (a*b)))
 | .quo=> .d (.int k (k.wrap (a.tdiv b)))
 | .rem=> .d (.int k (a.tmod b))
 | .and=> .d (.int k (k.wrap (BitVec.ofInt k.bits a&&&BitVec.ofInt k.bits b).toNat))
 | .or=> .d (.int k (k.wrap (BitVec.ofInt k.bits a|||BitVec.ofInt k.bits b).toNat))
 | .xor=> .d (.int k (k.wrap (BitVec.ofInt k.bits a^^^BitVec.ofInt k.bits b).toNat))
 | .andNot=> .d (.int k (k.wrap (BitVec.ofInt k.bits a&&& ~~~BitVec.ofInt k.bits b).toNat))
 | .eql=> .d (.bool (a==b))
 | .neq=> .d (.bool (a !=b))
 | .lss=> .d (.bool (decide (a<b)))
 | .leq=> .d (.bool (decide (a<=b)))
 | .gtr=> .d (.bool (decide (b<a)))
 | .geq=> .d (.bool (decide (b<=a)))
 | .shl=> .d (.int k (k.wrap (a*2^min b.toNat k.bits)))
 | .shr=> .d (.int k (a.fdiv (2^min b.toNat k.bits)))
def intOk (op:BinOp) (b:Int):Prop:=
 match op with
 | .quo=>b≠0
 | .rem=>b≠0
 | .shl=>0<=b
 | .shr=>0<=b
 |_=>True
def aggV (op:BinOp) (b:Bool):V:=match op with
 | .eql=> .d (.bool b)
 | .neq=> .d (.bool (!b))
 |_=> .any
def binV (op:BinOp):V->V->V
 | .d (.int k a),.d (.int _ b)=>intV op k a b
 | .agg l,.agg m=>aggV op (eqL l m)
 | .d (.bool a),.d (.bool b)=>aggV op (a==b)
 | .d (.str a),.d (.str b)=>aggV op (a.toList==b.toList)
 | .ptr _ _,.k (.pointer none)=>aggV op false
 | .ro _,.k (.pointer none)=>aggV op false
 | .k (.pointer none),.k (.pointer none)=>aggV op true
 | .mp _,.k (.map none)=>aggV op false
 | .k (.map none),.k (.map none)=>aggV op true
 |_,_=> .any
def sameK (op:BinOp) (k k' :IntKind):Prop:=
 match op with
 | .shl=>True
 | .shr=>True
 |_=>k=k'
def eqTO (et:Option (List TypeDesc)) (l m:List V):Prop:=match et with
 |some ts=>eqLOk ts l m
 |none=>False
def isEq:BinOp->Prop
 | .eql=>True
 | .neq=>True
 |_=>False
def isBoolT:Option TypeDesc->Prop
 |some .bool=>True
 |_=>False
def isPtrT:Option TypeDesc->Prop
 |some (.pointer _)=>True
 |_=>False
def isMapT:Option TypeDesc->Prop
 |some (.map _ _)=>True
 |_=>False
def binOk (et:Option (List TypeDesc)) (ud:Option TypeDesc) (op:BinOp):V->V->Prop
 | .d (.int k _),.d (.int k' b)=>sameK op k k'/\intOk op b
 | .agg l,.agg m=>isEq op/\eqTO et l m
 | .d (.bool _),.d (.bool _)=>isEq op/\isBoolT ud
 | .d (.str _),.d (.str _)=>isEq op
 | .ptr _ _,.k (.pointer none)=>isEq op/\isPtrT ud
 | .ro _,.k (.pointer none)=>isEq op/\isPtrT ud
 | .k (.pointer none),.k (.pointer none)=>isEq op/\isPtrT ud
 | .mp _,.k (.map none)=>isEq op/\isMapT ud
 | .k (.map none),.k (.map none)=>isEq op/\isMapT ud
 |_,_=>False
def nilCkV:V->V
 | .ptr id off=> .ptr id off
 | .ro l=> .ro l
 |_=> .any
def nilCkOk:V->Prop
 | .ptr _ _=>True
 | .ro _=>True
 |_=>False
def minV:V->V->V
 | .d (.int k a),.d (.int _ b)=> .d (.int k (if b<a then b else a))
 |_,_=> .any
def maxV:V->V->V
 | .d (.int k a),.d (.int _ b)=> .d (.int k (if a<b then b else a))
 |_,_=> .any
def twoInts:V->V->Prop
 | .d (.int _ _),.d (.int _ _)=>True
 |_,_=>False
def callV (ev:Operand->V) (c:Call):V:=match c.callee with
 | .builtin .min=>minV (ev (c.args.getD 0 (.const .nilIface))) (ev (c.args.getD 1 (.const .nilIface)))
 | .builtin .max=>maxV (ev (c.args.getD 0 (.const .nilIface))) (ev (c.args.getD 1 (.const .nilIface)))
 |_=>lenV (ev (c.args.getD 0 (.const .nilIface)))
def callVOk (P:Program) (ev:Operand->V) (c:Call):Prop:=match c.callee with
 | .builtin .min=>c.args.size=2/\twoInts (ev (c.args.getD 0 (.const .nilIface))) (ev (c.args.getD 1 (.const .nilIface)))
 | .builtin .max=>c.args.size=2/\twoInts (ev (c.args.getD 0 (.const .nilIface))) (ev (c.args.getD 1 (.const .nilIface)))
 |_=>(c.callee= .builtin .len/\c.args.size=1/\c.argTypes.size=1)/\lenOk (P.underlying (c.argTypes.getD 0 0)) (ev (c.args.getD 0 (.const .nilIface)))
def unV:V->V
 | .d (.bool b)=> .d (.bool (!b))
 | .d (.int k n)=> .d (.int k (k.wrap (0-n)))
 |_=> .any
def unOk:UnOp->V->Prop
 |op,.d (.bool _)=>op= .not
 |op,.d (.int _ _)=>op= .neg
 |_,_=>False
def D.num:D->Int
 | .int _ n=>n
 |_=>0
def D.isB:D->Bool
 | .int .u8 _=>true
 |_=>false
def byStr (l:List D):ByteArray:=strOfNums (l.map D.num)
def isB8 (P:Program) (s:TypeId):Prop:=match P.underlying s with
 |some (.slice e)=>P.underlying e=some (.int .u8)
 |_=>False
def convV (d:Option TypeDesc):V->V
 | .d (.int _ n)=>match d with
  |some (.int k)=> .d (.int k (k.wrap n))
  |_=> .any
 |x=>match x.els 1 with
  |some l=> .d (.str (byStr l))
  |none=> .any
def convOk (P:Program) (s d:TypeId):V->Prop
 | .d (.int _ _)=>(P.underlying s).isSome=true/\match P.underlying d with
  |some (.int _)=>True
  |_=>False
 |x=>isB8 P s/\P.underlying d=some .string/\∃l,x.els 1=some l/\l.all D.isB=true
def sliceDV (el:Option (Bool×Nat)) (x:V) (lo hi:Option V):V:=
 match el with
 |some (_,sz)=>match x,hi with
  | .full _ l,none=> .full sz (l.drop ((boundA 0 lo).getD 0).toNat)
  | .k v,_=> .k v
  |x,hi=> .d (.slice sz (((x.elsD sz).take ((boundA (x.elsD sz).length hi).getD 0).toNat).drop ((boundA 0 lo).getD 0).toNat))
 |none=> .any
def isBnd:Option V->Prop
 |none=>True
 |some (.d (.int _ _))=>True
 |some _=>False
def sliceDOk (el:Option (Bool×Nat)) (x:V) (lo hi:Option V):Prop:=
 match el with
 |some (_,sz)=>isEls sz x/\isBnd lo/\isBnd hi/\0<=(boundA 0 lo).getD 0/\(boundA 0 lo).getD 0<=(boundA (x.elsD sz).length hi).getD 0/\(boundA (x.elsD sz).length hi).getD 0<=((x.elsD sz).length:Int)
 |none=>False
def sliceV (el:Option (Bool×Nat)) (x:V) (lo hi:Option V):V:=match x with
 | .row id off len sz=> .row id (off+((boundA 0 lo).getD 0).toNat*sz) (((boundA len hi).getD 0).toNat-((boundA 0 lo).getD 0).toNat) sz
 |x=>sliceDV el x lo hi
def sliceOk (el:Option (Bool×Nat)) (x:V) (lo hi:Option V):Prop:=match x with
 | .row _ _ len sz=>elSz sz el/\isBnd lo/\isBnd hi/\0<=(boundA 0 lo).getD 0/\(boundA 0 lo).getD 0<=(boundA len hi).getD 0/\(boundA len hi).getD 0<=(len:Int)
 |x=>sliceDOk el x lo hi
theorem k8e {K:V->Prop} {a:Bool} {n:Nat} {l:List V} {off:Nat} (ho:partOk a n l off) (hk:K (partOf a n l off)):partV K a n l off:=by
 unfold partV;cases a with
 |true=>exact⟨ho,hk⟩
 |false=>simp only[partOk]at ho;simp only[partOf]at hk;simp only[qbd,qdl];rw[qd ho]at hk ⊢;exact hk
theorem ko6 {K:V->Prop} {ty:Option (Bool×Nat)} {h:Hp} {x:V} (ho:loadOk ty h x) (hk:K (loadV ty h x)):loadA K ty h x:=by
 cases x with
 |ptr id off=>
  simp only[loadOk,loadV,loadA]at *
  rcases ty with _|⟨a,n⟩
  ·exact ho.elim
  ·cases hg:h.get id with
   |none=>simp only[hg]at ho
   |some ob=>cases ob with
    |cells l=>simp only[hg]at ho hk ⊢;exact k8e ho hk
    |_=>simp only[hg]at ho
 |ro l=>
  simp only[loadOk,loadV,loadA]at *
  rcases ty with _|⟨a,n⟩
  ·exact ho.elim
  ·exact k8e ho hk
 |_=>exact ho.elim
theorem kmo {K:V->Prop} {fl:Option (Nat×Bool×Nat)} {x:V} (ho:faddrOk fl x) (hk:K (faddrV fl x)):faddrA K fl x:=by
 cases x with
 |ptr id off=>rcases fl with _|⟨o,a,n⟩<;>first|exact ho.elim|exact hk
 |ro l=>rcases fl with _|⟨o,a,n⟩<;>first|exact ho.elim|exact hk
 |_=>exact ho.elim
theorem knn {K:V->Prop} {fl:Option (Nat×Bool×Nat)} {x:V} (ho:fieldOk fl x) (hk:K (fieldV fl x)):fieldA K fl x:=by
 cases x with
 |agg l=>rcases fl with _|⟨o,a,n⟩<;>first|exact ho.elim|exact k8e ho hk
 |_=>exact ho.elim
theorem knl {K:V->Prop} {el:Option (Bool×Nat)} {ar:Option (Nat×Bool×Nat)} {x i:V} (ho:iaddrDOk el ar x i) (hk:K (iaddrDV el ar x i)):iaddrA K el ar x i:=by
 cases i with
 |d i=>cases i with
  |int q i=>
   rcases el with _|⟨g,sz⟩
   ·rcases ar with _|⟨n,g,sz⟩
    ·exact ho.elim
    ·cases x with
     |ptr id off=>exact⟨ho.1,ho.2,hk⟩
     |ro l=>exact⟨ho.1,ho.2,hk⟩
     |_=>exact ho.elim
   ·simp only[iaddrDOk,iaddrDV,iaddrA,isEls,V.elsD]at *
    obtain⟨l,hl⟩:=qab.1 ho.1;simp only[hl,qbl]at ho hk ⊢;have hlt:i.toNat<l.length:=by omega
    refine⟨ho.2.1,_,qd hlt,?_⟩;simpa[elt,hlt]using hk
  |_=>exact ho.elim
 |_=>exact ho.elim
def capV:V->Option (Nat×Nat)
 | .ptr id off=>some (id,off)
 |_=>none
def mkFn (fn:Fn) (n:Nat) (cs:List V):V:=match fn with
 | .func g=> .clo g (List.replicate n none) (cs.map capV)
 |_=> .any
def av (P:Program) (h:Hp) (ev:Operand->V):Op->V
 | .move x=>ev x
 | .assign x=>ev x
 | .pick c a b=>pickV (ev c) (ev a) (ev b)
 | .load t a=>loadV (tyOf P t) h (ev a)
 | .fieldAddr t x f=>faddrV (fldOf P t f) (ev x)
 | .field t x f=>fieldV (fldOf P t f) (ev x)
 | .indexAddr t x i=>iaddrV (elemOf P t) (arrOf P t) (ev x) (ev i)
 | .index t x i=>indexV (arrOf P t) (ev x) (ev i)
 | .extract x i=>extV i (ev x)
 | .binOp op _ x y _=>binV op (ev x) (ev y)
 | .unOp _ _ x=>unV (ev x)
 | .convert _ d x=>convV (P.underlying d) (ev x)
 | .slice t x lo hi _=>sliceV (elemOf P t) (ev x) (lo.map ev) (hi.map ev)
 | .call c=>callV ev c
 | .nilCheck x=>nilCkV (ev x)
 | .makeFunc fn fs cs=>mkFn fn fs.size (cs.toList.map ev)
 |_=> .any
def avOk (P:Program) (h:Hp) (ev:Operand->V):Op->Prop
 | .move _=>True
 | .assign _=>True
 | .pick c _ _=>pickOk (ev c)
 | .load t a=>loadOk (tyOf P t) h (ev a)
 | .fieldAddr t x f=>faddrOk (fldOf P t f) (ev x)
 | .field t x f=>fieldOk (fldOf P t f) (ev x)
 | .indexAddr t x i=>iaddrOk (elemOf P t) (arrOf P t) (ev x) (ev i)
 | .index t x i=>indexOk P t (arrOf P t) (ev x) (ev i)
 | .extract x i=>extOk i (ev x)
 | .binOp op t x y _=>binOk (eqT P t) (P.underlying t) op (ev x) (ev y)
 | .unOp op _ x=>unOk op (ev x)
 | .convert s d x=>convOk P s d (ev x)
 | .slice t x lo hi mx=>mx=none/\sliceOk (elemOf P t) (ev x) (lo.map ev) (hi.map ev)
 | .call c=>callVOk P ev c
 | .nilCheck x=>nilCkOk (ev x)
 | .makeFunc _ _ _=>True
 |_=>False
section
variable {P:Program} {G:Gh} {w:World} {h:Hp} {nx:Nat}
theorem RepV.bool_inv {v:Value} {t:Bool} (hv:RepV G w h nx v (.d (.bool t))):v= .bool t:=by
 generalize hx:V.d (.bool t)=x at hv;cases hv<;>first|cases hx|skip
 rename_i hd;cases hd;rfl
theorem RepV.int_inv {v:Value} {k:IntKind} {n:Int} (hv:RepV G w h nx v (.d (.int k n))):v= .int k n:=by
 generalize hx:V.d (.int k n)=x at hv;cases hv<;>first|cases hx|skip
 rename_i hd;cases hd;rfl
theorem RepV.str_inv {v:Value} {s:ByteArray} (hv:RepV G w h nx v (.d (.str s))):v= .string s:=by
 generalize hx:V.d (.str s)=x at hv;cases hv<;>first|cases hx|skip
 rename_i hd;cases hd;rfl
theorem koq {s:TypeId} (h:isB8 P s):∃e,P.underlying s=some (.slice e)/\P.underlying e=some (.int .u8):=by
 unfold isB8 at h;split at h
 ·rename_i e he;exact⟨e,he,h⟩
 ·exact h.elim
theorem isB_num {d:D} (h:d.isB=true):d= .int .u8 d.num:=by
 unfold D.isB at h;split at h
 ·rfl
 ·cases h
theorem kiu:∀{l:List D},l.all D.isB=true->l.flatMap D.cells=l
 |[],_=>rfl
 |d::l,h=>by rw[qeu,qg]at h;rw[qay,kiu h.2,isB_num h.1];rfl
theorem klx {s d e:TypeId} (hs:P.underlying s=some (.slice e)) (he:P.underlying e=some (.int .u8)) (hd:P.underlying d=some .string) {m:Nat->Nat} {v:Value} {l:List D}
  (hv:RepD m w v (.slice 1 l)) (hb:l.all D.isB=true):(convert s d v).run P w= .ok (.string (byStr l)) w:=by
 generalize hx:D.slice 1 l=x at hv;cases hv with
 |int=>cases hx
 |bool=>cases hx
 |str=>cases hx
 |nil A sz=>
  injection hx with h1 h2;subst h2;cases A with
  |none=>exact run_convert_bytes_nil w s e hs he 0 0 d hd
  |some a=>rw[run_convert_bytes_string w s d e _ 0 0 hs he hd,run_bytesToString w a 0 0 [] (by simp[loadCells,loadCellsFrom])];rfl
 |slice b off cap sz l' vs hcap hmax hsz hlen hc hr=>
  injection hx with h1 h2;subst h2;rw[kiu hb]at hlen hr;refine run_convert_bytes_arg w s e hs he b off l.length cap (l.map D.num) qqs (fun i hi=> ?_) d hd;have hv:vs[i]? =some vs[i]:=qd qqo;have hl:l[i]? =some l[i]:=qd hi;obtain⟨q1,q2⟩:=hc i _ hv;have q3:=hr i _ _ hv hl;have q4:=isB_num (qbw.1 hb _ (qak hi));rw[q2];generalize vs[i]=u at q3 ⊢;have e2:(l.map D.num).getD i 0=l[i].num:=by simp[List.getD,hl]
  rw[e2];rw[q4]at q3;cases q3;rfl
def plainPair:Value->Value->Prop
 | .bool _,.bool _=>True
 | .pointer _,.pointer _=>True
 | .map _,.map _=>True
 |_,_=>False
theorem k3j {op:BinOp} {t:TypeId} {x y:Operand} {vx vy:Value} {b:Bool} (hop:isEq op) (hp:plainPair vx vy) (he:(Op.equal t vx vy).run P w= .ok b w):
  ∃v,(do eqGuard op t x y vx vy;binOp op t vx vy:Sem Value).run P w= .ok v w/\RepV G w h nx v (aggV op b):=by
 refine⟨.bool (if op= .eql then b else !b),?_,?_⟩
 ·cases vx<;>cases vy<;>simp only[plainPair]at hp<;>cases op<;>simp only[isEq]at hop<;>simp[eqGuard,binOp,he]
 ·cases op<;>simp only[isEq]at hop<;>exact .d _ _ (.bool _)
theorem eq_deep {t:TypeId} {vx vy:Value} {b:Bool} (h:∀d,(Op.equalIn (d+1) t vx vy).run P w= .ok b w):(Op.equal t vx vy).run P w= .ok b w:=h 9999
theorem RepV.ptr_inv {v:Value} {id off:Nat} (hv:RepV G w h nx v (.ptr id off)):∃a,v= .pointer (some a):=by cases hv;exact⟨_,rfl⟩
theorem RepV.ro_inv {v:Value} {l:List D} (hv:RepV G w h nx v (.ro l)):∃a,v= .pointer (some a):=by cases hv;exact⟨_,rfl⟩
theorem RepV.mp_inv {v:Value} {id:Nat} (hv:RepV G w h nx v (.mp id)):∃a,v= .map (some a):=by cases hv;exact⟨_,rfl⟩
theorem kk0 {ρ:Operand->Value} {ev:Operand->V} (hev:∀x,RepV G w h nx (ρ x) (ev x)):∀l:List Operand,PtrsR G nx ((l.map ev).map capV) (l.map ρ)
 |[]=>trivial
 |x::r=>by
  refine⟨?_,kk0 hev r⟩;have hx:=hev x;unfold capV;split
  ·rename_i id off he;rw[he]at hx;generalize ρ x=v at hx;cases hx with|ptr _ _ b hid hl=>exact⟨hid,b,hl,rfl⟩
  ·trivial
theorem kjx:∀l:List Value,PtrsR G nx (List.replicate l.length none) l
 |[]=>trivial
 |_::r=>⟨trivial,kjx r⟩
theorem kc7 {ρ:Operand->Value} {ev:Operand->V} (hev:∀x,RepV G w h nx (ρ x) (ev x)) (hobj:ObjR G w h nx) {o:Oper} (ha:avOk P h ev o.op):
  ∃v,(execOp ρ o).run P w= .ok (.value v) w/\RepV G w h nx v (av P h ev o.op):=by
 have val:∀(sv:Sem Value) (v:Value),sv.run P w= .ok v w->(do pure (.value (<-sv)):Sem Next).run P w= .ok (.value v) w:=by intro sv v hv;simp only[qp,hv,qi,qw]
 obtain⟨dst,op,ty,pos,after,guard⟩:=o;cases op with
 |makeFunc fn fs cs=>
  refine⟨.func fn (fs.map ρ) (cs.map ρ),rfl,?_⟩;show RepV G w h nx _ (mkFn fn fs.size (cs.toList.map ev));unfold mkFn;cases fn with
  |func g=>have h1:=kjx (G:=G) (nx:=nx) (fs.toList.map ρ);have h2:=kk0 hev cs.toList;have:=RepV.clo (w:=w) (h:=h) g _ _ _ _ h1 h2;rw[show fs.map ρ=(fs.toList.map ρ).toArray from qct qqs,show cs.map ρ=(cs.toList.map ρ).toArray from qct qqs];simpa using this
  |_=>exact .any _
 |move x=>exact⟨_,rfl,hev x⟩
 |assign x=>exact⟨_,rfl,hev x⟩
 |pick c x y=>
  obtain⟨t,ht⟩:=qab.1 (show(boolOf (ev c)).isSome=true from ha);have hc:=hev c;rw[k3r ht]at hc;have hcv:ρ c= .bool t:=hc.bool_inv;refine⟨if t then ρ x else ρ y,?_,?_⟩
  ·simp only[execOp,hcv,asBool,qp,qw,qi]
  ·simp only[av,k3r ht];cases t
   ·rw[k6f];exact hev y
   ·rw[k7r];exact hev x
 |load t x=>
  have hl:=ko6 (K:=fun v=>v=loadV (tyOf P t) h (ev x)) ha rfl;have hx:=hev x
  obtain⟨v,z,h1,h2,h3⟩:∃v z,(Instr.loadAt t (ρ x)).run P w= .ok v w/\RepV G w h nx v z/\z=loadV (tyOf P t) h (ev x):=by
   unfold loadA at hl;split at hl
   ·rename_i id off hxe;rw[hxe]at hx;split at hl
    ·rename_i g n l hty hg;generalize hρ:ρ x=vx at hx ⊢;cases hx with|ptr _ _ b hid hb=>
     rcases hobj id l hg with⟨_,z2⟩|⟨b',e,cs,k1,k2,k3,k4,k5,k6⟩
     ·rw[hb]at z2;cases z2
     obtain rfl:b' =b:=by rw[hb]at k1;injection k1 with k1;exact k1.symm
     obtain⟨v,z,q1,q2,q3⟩:=kee (b:=b') (o:=0) hty hl k4 k5 k6 (fun j u hu=>by
      rw[qaj,cell_of_row w b' j cs.toArray e _ k2];simpa using hu)
     refine⟨v,z,?_,q2,q3⟩;simp only[Instr.loadAt,Instr.sureAddr,qp,qw,qi];rw[qaj]at q1;exact q1
    ·exact hl.elim
   ·rename_i l hxe;rw[hxe]at hx;split at hl
    ·rename_i g n hty;generalize hρ:ρ x=vx at hx ⊢;cases hx with|ro b off _ vs hlen hone hc hr=>
     obtain⟨v,z,q1,q2,q3⟩:=kee (G:=G) (h:=h) (nx:=nx) (b:=b) (o:=off) (cs:=vs) (l:=l.map .d) hty hl (by simpa using qey hlen.symm) (fun y hy=>by
      obtain⟨c,hc,rfl⟩:=qag.1 hy
      exact hone c hc) (fun j u c hu hc' =>by
       rw[ql,qv]at hc';obtain⟨d,hd,rfl⟩:=hc';exact .d _ _ (hr j u d hu hd)) (fun j u hu=>(hc j u hu).2)
     refine⟨v,z,?_,q2,q3⟩;simp only[Instr.loadAt,Instr.sureAddr,qp,qw,qi];rw[qcq]at q1;exact q1
    ·exact hl.elim
   ·exact hl.elim
  subst h3;exact⟨v,val _ _ h1,h2⟩
 |fieldAddr t x f=>obtain⟨v,z,h1,h2,h3⟩:=kl0 (P:=P) (kmo (K:=fun v=>v=faddrV (fldOf P t f) (ev x)) ha rfl) (hev x);subst h3;exact⟨v,val _ _ h1,h2⟩
 |field t x f=>obtain⟨v,z,h1,h2,h3⟩:=klc (P:=P) (knn (K:=fun v=>v=fieldV (fldOf P t f) (ev x)) ha rfl) (hev x);subst h3;exact⟨v,val _ _ h1,h2⟩
 |indexAddr t x i=>
  by_cases hrow:∃id off len sz,ev x= .row id off len sz
  ·obtain⟨id,off,len,sz,hxe⟩:=hrow;have hx:=hev x;have hi:=hev i;simp only[avOk,av,hxe]at ha ⊢;rw[hxe]at hx;simp only[iaddrOk,iaddrV]at ha ⊢;unfold rowIxOk at ha;split at ha
   ·rename_i q n hie;rw[hie]at hi;have hiv:=hi.int_inv;obtain⟨hel,h0,hlt⟩:=ha;generalize hρ:ρ x=vx at hx;cases hx with
    |rown=>omega
    |row _ _ _ _ b o cap m hid hl ho hc hm hn hs=>
    have ho' :o=off:=ho qqo;subst ho';unfold elSz at hel;split at hel
    ·rename_i g s hes;subst hel;obtain⟨e,hu,ht⟩:=k4e hes;have hsz:=(ku ht w).2;rw[hie];refine⟨_,val _ _ ?_,.ptr id (o+n.toNat*s) b hid hl⟩;simp only[hρ,hiv,Instr.indexAt,asIntOf,qp,qw,qi,qz hu];rw[qh ⟨h0,by omega⟩];simp only[qp,hsz,qi,qw,add_mk]
    ·exact hel.elim
   ·exact ha.elim
  have e1:iaddrOk (elemOf P t) (arrOf P t) (ev x) (ev i)=iaddrDOk (elemOf P t) (arrOf P t) (ev x) (ev i)/\iaddrV (elemOf P t) (arrOf P t) (ev x) (ev i)=iaddrDV (elemOf P t) (arrOf P t) (ev x) (ev i):=by generalize ev x=vx at hrow;cases vx<;>first|exact⟨rfl,rfl⟩|exact(hrow ⟨_,_,_,_,rfl⟩).elim
  simp only[avOk,av,e1.1,e1.2]at ha ⊢;obtain⟨v,z,h1,h2,h3⟩:=klm (P:=P) (knl (K:=fun v=>v=iaddrDV (elemOf P t) (arrOf P t) (ev x) (ev i)) ha rfl) (hev x) (hev i);subst h3;exact⟨v,val _ _ h1,h2⟩
 |index t x i=>
  have hi:indexA (fun v=>v=indexV (arrOf P t) (ev x) (ev i)) (arrOf P t) (ev x) (ev i)/\(arrOf P t=none->P.underlying t=some .string):=by
   simp only[avOk]at ha;unfold indexOk at ha;unfold indexA indexV;split at ha
   ·rename_i l q n h1 h2;simp only[h1,h2];split at ha
    ·rename_i m g sz har;simp only[har];exact⟨⟨ha.1,ha.2.1,k8e ha.2.2 rfl⟩,fun h=>by cases h⟩
    ·exact ha.elim
   ·rename_i s q n h1 h2;obtain⟨k1,k2,k3,k4⟩:=ha;simp only[h1,h2,k1];have hlt:n.toNat<s.size:=by omega
    refine⟨⟨k3,s[n.toNat],by simp[hlt],by simp[hlt]⟩,fun _=>k2⟩
   ·exact ha.elim
  obtain⟨v,z,h1,h2,h3⟩:=kl5 (P:=P) hi.1 hi.2 (hev x) (hev i);subst h3;exact⟨v,val _ _ h1,h2⟩
 |extract x i=>
  simp only[avOk]at ha;have hx:=hev x;unfold extOk at ha;split at ha
  ·rename_i l hxe;rw[hxe]at hx;simp only[av,hxe,extV];generalize hρ:ρ x=vx at hx;cases hx with|tup vs _ hlen hr=>
   have hlt:i<vs.length:=by omega
   have h1:(Instr.extract (.tuple vs.toArray) i).run P w= .ok vs[i] w:=by simp[Instr.extract,hlt]
   refine⟨vs[i],?_,?_⟩
   ·simp only[execOp,hρ];exact val _ _ h1
   ·rw[qd ha];exact hr i _ _ (qd hlt) (qd ha)
  ·exact ha.elim
 |binOp op t x y ty2=>
  simp only[avOk]at ha;have hx:=hev x;have hy:=hev y;simp only[av];unfold binOk at ha;split at ha
  ·rename_i k a k' b h1 h2;have hb:binA (fun v=>v=binV op (ev x) (ev y)) op (ev x) (ev y):=by unfold binA binV;simp only[h1,h2];cases op<;>simp only[sameK,intOk,intV,shiftA,intA]at ha ⊢<;>simp_all
   obtain⟨v,z,h1,h2,h3⟩:=kn1 (P:=P) hb (hev x) (hev y) t x y;subst h3;exact⟨v,val _ _ h1,h2⟩
  ·rename_i l m h1 h2;rw[h1]at hx;rw[h2]at hy;obtain⟨ha1,ha2⟩:=ha;unfold eqTO at ha2;split at ha2
   ·rename_i ts he;have hop:op= .eql∨op= .neq:=by cases op<;>simp_all [isEq]
    have hr:=eqT_run (P:=P) he ha2 hx hy op hop x y;refine⟨_,val _ _ hr,?_⟩;rw[h1,h2];rcases hop with rfl|rfl
    ·exact .d _ _ (.bool _)
    ·exact .d _ _ (.bool _)
   ·exact ha2.elim
  all_goals try (exact ha.elim)
  ·
   rename_i a b h1 h2;obtain⟨hop,hT⟩:=ha;rw[h1]at hx;rw[h2]at hy;have hu:P.underlying t=some .bool:=by unfold isBoolT at hT;split at hT;(· assumption);exact hT.elim
   rw[h1,h2];obtain⟨v,g1,g2⟩:=k3j (P:=P) (G:=G) (w:=w) (h:=h) (nx:=nx) (x:=x) (y:=y) (vx:= .bool a) (vy:= .bool b) hop trivial (eq_deep (t:=t) (b:=a==b) (fun d=>by simp[Op.equalIn,qz hu]));exact⟨v,val _ _ (by rw[hx.bool_inv,hy.bool_inv];exact g1),g2⟩
  ·
   rename_i a b h1 h2;rw[h1]at hx;rw[h2]at hy;rw[h1,h2];refine⟨.bool (if op= .eql then(a.toList==b.toList)else !(a.toList==b.toList)),val _ _ ?_,?_⟩
   ·simp only[hx.str_inv,hy.str_inv];cases op<;>simp only[isEq]at ha<;>simp[eqGuard,binOp,Op.stringOp]
   ·cases op<;>simp only[isEq]at ha<;>exact .d _ _ (.bool _)
  ·rename_i h1 h2;obtain⟨hop,hT⟩:=ha;rw[h1]at hx;rw[h2]at hy;obtain⟨e,hu⟩:∃e,P.underlying t=some (.pointer e):=by unfold isPtrT at hT;split at hT;(· exact⟨_,by assumption⟩);exact hT.elim
   obtain⟨ad,hxv⟩:=hx.ptr_inv;rw[h1,h2];obtain⟨v,g1,g2⟩:=k3j (P:=P) (G:=G) (w:=w) (h:=h) (nx:=nx) (x:=x) (y:=y) (vx:= .pointer (some ad)) (vy:= .pointer none) hop trivial (eq_deep (t:=t) (b:=false) (fun d=>by simp[Op.equalIn,qz hu]));exact⟨v,val _ _ (by rw[hxv,hy.k_inv];exact g1),g2⟩
  ·rename_i h1 h2;obtain⟨hop,hT⟩:=ha;rw[h1]at hx;rw[h2]at hy;obtain⟨e,hu⟩:∃e,P.underlying t=some (.pointer e):=by unfold isPtrT at hT;split at hT;(· exact⟨_,by assumption⟩);exact hT.elim
   obtain⟨ad,hxv⟩:=hx.ro_inv;rw[h1,h2];obtain⟨v,g1,g2⟩:=k3j (P:=P) (G:=G) (w:=w) (h:=h) (nx:=nx) (x:=x) (y:=y) (vx:= .pointer (some ad)) (vy:= .pointer none) hop trivial (eq_deep (t:=t) (b:=false) (fun d=>by simp[Op.equalIn,qz hu]));exact⟨v,val _ _ (by rw[hxv,hy.k_inv];exact g1),g2⟩
  ·rename_i h1 h2;obtain⟨hop,hT⟩:=ha;rw[h1]at hx;rw[h2]at hy;obtain⟨e,hu⟩:∃e,P.underlying t=some (.pointer e):=by unfold isPtrT at hT;split at hT;(· exact⟨_,by assumption⟩);exact hT.elim
   rw[h1,h2];obtain⟨v,g1,g2⟩:=k3j (P:=P) (G:=G) (w:=w) (h:=h) (nx:=nx) (x:=x) (y:=y) (vx:= .pointer none) (vy:= .pointer none) hop trivial (eq_deep (t:=t) (b:=true) (fun d=>by simp[Op.equalIn,qz hu]));exact⟨v,val _ _ (by rw[hx.k_inv,hy.k_inv];exact g1),g2⟩
  ·rename_i h1 h2;obtain⟨hop,hT⟩:=ha;rw[h1]at hx;rw[h2]at hy;obtain⟨e,e2,hu⟩:∃e e2,P.underlying t=some (.map e e2):=by unfold isMapT at hT;split at hT;(· exact⟨_,_,by assumption⟩);exact hT.elim
   obtain⟨ad,hxv⟩:=hx.mp_inv;rw[h1,h2];obtain⟨v,g1,g2⟩:=k3j (P:=P) (G:=G) (w:=w) (h:=h) (nx:=nx) (x:=x) (y:=y) (vx:= .map (some ad)) (vy:= .map none) hop trivial (eq_deep (t:=t) (b:=false) (fun d=>by simp[Op.equalIn,qz hu]));exact⟨v,val _ _ (by rw[hxv,hy.k_inv];exact g1),g2⟩
  ·rename_i h1 h2;obtain⟨hop,hT⟩:=ha;rw[h1]at hx;rw[h2]at hy;obtain⟨e,e2,hu⟩:∃e e2,P.underlying t=some (.map e e2):=by unfold isMapT at hT;split at hT;(· exact⟨_,_,by assumption⟩);exact hT.elim
   rw[h1,h2];obtain⟨v,g1,g2⟩:=k3j (P:=P) (G:=G) (w:=w) (h:=h) (nx:=nx) (x:=x) (y:=y) (vx:= .map none) (vy:= .map none) hop trivial (eq_deep (t:=t) (b:=true) (fun d=>by simp[Op.equalIn,qz hu]));exact⟨v,val _ _ (by rw[hx.k_inv,hy.k_inv];exact g1),g2⟩
 |unOp op t x=>
  have hb:unA (fun v=>v=unV (ev x)) op (ev x):=by
   simp only[avOk]at ha;unfold unOk at ha;unfold unA unV;split at ha
   ·rename_i b h1;subst ha;simp only[h1]
   ·rename_i k n h1;subst ha;simp only[h1]
   ·exact ha.elim
  obtain⟨v,z,h1,h2,h3⟩:=kpl (P:=P) hb (hev x);subst h3;exact⟨v,val _ _ h1,h2⟩
 |convert s d x=>
  have hc:convOk P s d (ev x):=ha;unfold convOk at hc;split at hc
  ·rename_i k n h0;obtain⟨hs,hc⟩:=hc
   have hb:convA (fun v=>v=convV (P.underlying d) (ev x)) (P.underlying d) (ev x):=by
    unfold convA convV;simp only[h0];split at hc
    ·rename_i k' h2;simp only[h2]
    ·exact hc.elim
   obtain⟨v,z,h1,h2,h3⟩:=kly (P:=P) hb hs (hev x);subst h3;exact⟨v,val _ _ h1,h2⟩
  ·rename_i hni;obtain⟨g1,g2,l,g3,g4⟩:=hc
   have e:convV (P.underlying d) (ev x)= .d (.str (byStr l)):=by
    unfold convV;split
    ·rename_i k n h0;exact(hni _ _ h0).elim
    ·rw[g3]
   obtain⟨e',he1,he2⟩:=koq g1;refine⟨_,val _ _ (klx he1 he2 g2 (els_rep g3 (hev x)) g4),?_⟩;show RepV G w h nx _ (convV (P.underlying d) (ev x));rw[e];exact .d _ _ (.str _)
 |slice t x lo hi mx=>
  obtain⟨rfl,hc⟩:=ha;by_cases hrow:∃id off len sz,ev x= .row id off len sz
  ·obtain⟨id,off,len,sz,hxe⟩:=hrow;have hx:=hev x;rw[hxe]at hx;simp only[av,hxe,sliceOk,sliceV]at hc ⊢;obtain⟨hel,c2,c3,c4,c5,c6⟩:=hc
   have bs:∀(d:Nat) (o:Option Operand),isBnd (o.map ev)->(o.map ρ=none/\(boundA d (o.map ev)).getD 0=d)∨∃q n,o.map ρ=some (.int q n)/\(boundA d (o.map ev)).getD 0=n:=by
    intro d o ho;cases o with
    |none=>exact .inl ⟨rfl,rfl⟩
    |some y=>
     simp only[qax]at ho ⊢;unfold isBnd at ho;split at ho
     ·contradiction
     ·rename_i q n he;injection he with he;have hy:=hev y;rw[he]at hy;exact .inr ⟨q,n,by rw[hy.int_inv],by rw[he];rfl⟩
     ·exact ho.elim
   have h1:=bs 0 lo c2;have h2:=bs len hi c3;generalize (boundA 0 (lo.map ev)).getD 0=a at *
   generalize (boundA len (hi.map ev)).getD 0=b at *
   obtain⟨a',rfl⟩:=qn c4;obtain⟨b',rfl⟩:=qn (qez c4 c5);generalize hρ:ρ x=vx at hx;unfold elSz at hel;split at hel
   case h_2=>exact hel.elim
   rename_i g s hes;subst hel;obtain⟨e,hu,ht⟩:=k4e hes;have hsz:=(ku ht w).2;cases hx with
   |rown A _ _ _ hid=>
    have ha0:a' =0:=by omega
    have hb0:b' =0:=by omega
    subst ha0;subst hb0
    have hrun:(Instr.sliceAt t (.slice A 0 0) (lo.map ρ) (hi.map ρ) none).run P w= .ok (.slice A 0 0) w:=by
     rcases h1 with⟨e1,_⟩|⟨q,n,e1,e2⟩<;>rcases h2 with⟨e3,_⟩|⟨q',n',e3,e4⟩<;>rw[e1,e3]<;>cases A
     all_goals first
      |simp[Instr.sliceAt,qz hu,Instr.slice,Instr.sliceBounds,Instr.sliceBound,asIntOf,hsz];done
      |(subst e4;simp[Instr.sliceAt,qz hu,Instr.slice,Instr.sliceBounds,Instr.sliceBound,asIntOf,hsz];done)
      |(subst e2;simp[Instr.sliceAt,qz hu,Instr.slice,Instr.sliceBounds,Instr.sliceBound,asIntOf,hsz];done)
      |(subst e2;subst e4;simp[Instr.sliceAt,qz hu,Instr.slice,Instr.sliceBounds,Instr.sliceBound,asIntOf,hsz];done)
    exact⟨_,val _ _ (by simp only[hρ];exact hrun),.rown A id _ s hid⟩
   |row _ _ _ _ bk o cap m hid hl ho hc hm hn hs=>
   have hrun:(Instr.sliceAt t (.slice (some ⟨bk,o,none⟩) len cap) (lo.map ρ) (hi.map ρ) none).run P w= .ok (.slice (if cap=a' then some ⟨bk,o,none⟩else some (Addr.add ⟨bk,o,none⟩ (a' *s))) (b' -a') (cap-a')) w:=by
    have k1:(0:Int)<=(b' :Int)/\(b' :Int)<=(cap:Int):=by omega
    have k2:(0:Int)<=(a' :Int)/\(a' :Int)<=(b' :Int):=by omega
    have h1' :(lo.map ρ=none/\a' =0)∨∃q,lo.map ρ=some (.int q a'):=by
     rcases h1 with⟨e1,e2⟩|⟨q,n,e1,e2⟩
     ·exact .inl ⟨e1,by omega⟩
     ·exact .inr ⟨q,by rw[e1,e2]⟩
    have h2' :(hi.map ρ=none/\b' =len)∨∃q,hi.map ρ=some (.int q b'):=by
     rcases h2 with⟨e1,e2⟩|⟨q,n,e1,e2⟩
     ·exact .inl ⟨e1,by omega⟩
     ·exact .inr ⟨q,by rw[e1,e2]⟩
    clear h1 h2 bs
    rcases h1' with⟨e1,rfl⟩|⟨q,e1⟩<;>rcases h2' with⟨e3,rfl⟩|⟨q',e3⟩<;>rw[e1,e3]<;>
     simp[Instr.sliceAt,qz hu,Instr.slice,Instr.sliceBounds,Instr.sliceBound,asIntOf,hsz]<;>(try simp_all)<;>(intros;exfalso;omega)
   refine⟨_,val _ _ (by simp only[hρ];exact hrun),?_⟩;by_cases hca:cap=a'
   ·rw[qh hca];have:cap-a' =0:=by omega
    rw[this];have hba:b' -a' =0:=by omega
    simp only[qr,hba];exact .row id _ _ s bk o 0 m hid hl (fun h=>(h rfl).elim) (qt _) (qbg _) hn (by rw[hca]at hs;omega)
   ·rw[qe hca,add_mk];simp only[qr];refine .row id _ _ s bk _ (cap-a') m hid hl (fun _=> ?_) qqo qqo hn ?_
    ·rw[ho qqo]
    ·have:a' *s+(cap-a')*s=cap*s:=by rw[<-qbj];congr 1;omega
     omega
  have e0:sliceOk (elemOf P t) (ev x) (lo.map ev) (hi.map ev)=sliceDOk (elemOf P t) (ev x) (lo.map ev) (hi.map ev)/\sliceV (elemOf P t) (ev x) (lo.map ev) (hi.map ev)=sliceDV (elemOf P t) (ev x) (lo.map ev) (hi.map ev):=by generalize ev x=vx at hrow;cases vx<;>first|exact⟨rfl,rfl⟩|exact(hrow ⟨_,_,_,_,rfl⟩).elim
  simp only[av,e0.1,e0.2]at hc ⊢
  have hb:sliceA (fun v=>v=sliceDV (elemOf P t) (ev x) (lo.map ev) (hi.map ev)) (elemOf P t) (ev x) (lo.map ev) (hi.map ev):=by
   unfold sliceDOk at hc;unfold sliceA sliceDV;split at hc
   ·rename_i g sz hel;simp only[hel];obtain⟨c1,c2,c3,c4,c5,c6⟩:=hc;obtain⟨l,hl⟩:=qab.1 (show((ev x).els sz).isSome=true from c1)
    have bs:∀(d:Nat) (o:Option V),isBnd o->∃n,boundA d o=some n:=by
     intro d o ho;unfold isBnd at ho;split at ho
     ·exact⟨_,rfl⟩
     ·exact⟨_,rfl⟩
     ·exact ho.elim
    obtain⟨a,ha⟩:=bs 0 _ c2;obtain⟨b,hb⟩:=bs l.length _ c3;simp only[V.elsD,hl,qbl,ha,hb]at c4 c5 c6 ⊢;refine⟨c4,c5,c6,?_⟩;split
    ·rename_i s' l' hx' hh';have:l' =l:=by rw[hx']at hl;simp only[V.els]at hl;split at hl<;>simp_all
     subst this;simp only[hx',hh']
    ·rename_i v' hx';simp only[hx']
    ·rename_i hn1 hn2;generalize hgx:ev x=vx at *
     generalize hgh:hi.map ev=vh at *
     cases vx with
     |k v=>exact(hn1 _ rfl).elim
     |full s' l' =>cases vh with
      |none=>exact(hn2 _ _ rfl rfl).elim
      |some y=>simp[hl,hb]
     |d x' =>simp[hl,hb]
     |own _ _ _=>simp[hl,hb]
     |_=>cases hl
   ·exact hc.elim
  obtain⟨v,z,h1,h2,h3⟩:=klk (P:=P) hb (hev x) (vlo:=lo.map ρ) (vhi:=hi.map ρ) (fun y hy=>by
    obtain⟨o,rfl,rfl⟩:=qv.1 hy;exact⟨_,rfl,hev o⟩) (fun y hy=>by
    obtain⟨o,rfl,rfl⟩:=qv.1 hy;exact⟨_,rfl,hev o⟩) (fun hn=>by simpa using hn) (fun hn=>by simpa using hn)
  subst h3;exact⟨v,val _ _ h1,h2⟩
 |nilCheck x=>
  have hx:=hev x;simp only[avOk,av]at ha ⊢;generalize hxe:ev x=xv at hx ha;cases xv with
  |ptr id off=>obtain⟨ad,hv⟩:=hx.ptr_inv;exact⟨_,by simp only[execOp,hv];rfl,by rw[<-hv];exact hx⟩
  |ro l=>obtain⟨ad,hv⟩:=hx.ro_inv;exact⟨_,by simp only[execOp,hv];rfl,by rw[<-hv];exact hx⟩
  |_=>exact ha.elim
 |call c=>
  obtain⟨callee,args,argTypes⟩:=c;by_cases hmin:callee= .builtin .min
  ·subst hmin;simp only[avOk,callVOk,av,callV]at ha ⊢;obtain⟨h1,h2⟩:=ha
   obtain⟨x,y,rfl⟩:∃x y,args= #[x,y]:=by
    obtain⟨l⟩:=args
    match l,h1 with
    |[x,y],_=>exact⟨x,y,rfl⟩
   have e0:(#[x,y]:Array Operand).getD 0 (.const .nilIface)=x:=rfl;have e1:(#[x,y]:Array Operand).getD 1 (.const .nilIface)=y:=rfl;rw[e0,e1]at h2 ⊢;have hx:=hev x;have hy:=hev y;unfold twoInts at h2;split at h2
   ·rename_i k a k' b hxe hye;rw[hxe]at hx;rw[hye]at hy;rw[hxe,hye];refine⟨.int k (if b<a then b else a),?_,.d _ _ (.int _ _)⟩;simp only[execOp,resolve,invoke,builtin,qp,qw,qi,qco,qae,qdb,hx.int_inv,hy.int_inv,Builtin.min_,Builtin.min2,List.foldlM_cons,List.foldlM_nil]
   ·exact h2.elim
  by_cases hmax:callee= .builtin .max
  ·subst hmax;simp only[avOk,callVOk,av,callV]at ha ⊢;obtain⟨h1,h2⟩:=ha
   obtain⟨x,y,rfl⟩:∃x y,args= #[x,y]:=by
    obtain⟨l⟩:=args
    match l,h1 with
    |[x,y],_=>exact⟨x,y,rfl⟩
   have e0:(#[x,y]:Array Operand).getD 0 (.const .nilIface)=x:=rfl;have e1:(#[x,y]:Array Operand).getD 1 (.const .nilIface)=y:=rfl;rw[e0,e1]at h2 ⊢;have hx:=hev x;have hy:=hev y;unfold twoInts at h2;split at h2
   ·rename_i k a k' b hxe hye;rw[hxe]at hx;rw[hye]at hy;rw[hxe,hye];refine⟨.int k (if a<b then b else a),?_,.d _ _ (.int _ _)⟩;simp only[execOp,resolve,invoke,builtin,qp,qw,qi,qco,qae,qdb,hx.int_inv,hy.int_inv,Builtin.max_,Builtin.max2,List.foldlM_cons,List.foldlM_nil]
   ·exact h2.elim
  have hold:((callee= .builtin .len/\args.size=1/\argTypes.size=1)/\lenOk (P.underlying (argTypes.getD 0 0)) (ev (args.getD 0 (.const .nilIface))))/\av P h ev (.call ⟨callee,args,argTypes⟩)=lenV (ev (args.getD 0 (.const .nilIface))):=by simp only[avOk,callVOk,av,callV]at ha ⊢;exact⟨ha,trivial⟩
  simp only[hold.2];obtain⟨⟨⟨h1,h2,h3⟩,h6⟩,_⟩:=hold;subst h1
  obtain⟨x,rfl⟩:∃x,args= #[x]:=by
   obtain⟨l⟩:=args
   match l,h2 with
   |[x],_=>exact⟨x,rfl⟩
  obtain⟨t,rfl⟩:∃t,argTypes= #[t]:=by
   obtain⟨l⟩:=argTypes
   match l,h3 with
   |[x],_=>exact⟨x,rfl⟩
  have hx:=hev x;have e0:(#[x]:Array Operand).getD 0 (.const .nilIface)=x:=rfl;have e1:(#[t]:Array TypeId).getD 0 0=t:=rfl;rw[e0,e1]at h6;rw[e0];have fin:∀n:Nat,(Builtin.len_ #[t] ty #[ρ x]).run P w= .ok (goInt n) w->lenV (ev x)= .d (.int .i64 n)->∃v,(execOp ρ ⟨dst,.call ⟨.builtin .len,#[x],#[t]⟩,ty,pos,after,guard⟩).run P w= .ok (.value v) w/\RepV G w h nx v (lenV (ev x)):=by intro n hn hv;refine⟨goInt n,?_,by rw[hv];exact .d _ _ (.int _ _)⟩;simp only[execOp,resolve,invoke,builtin,qp,qw,qi,qco,qae,qdb,hn]
  have hsl:∀n A cc,ρ x= .slice A n cc->isSliceT (P.underlying t)->(Builtin.len_ #[t] ty #[ρ x]).run P w= .ok (goInt n) w:=by
   intro n A cc hr hd;unfold isSliceT at hd;split at hd
   ·rename_i e hu;simp[Builtin.len_,qz hu,hr]
   ·exact hd.elim
  unfold lenOk at h6;split at h6
  ·rename_i s hxe;rw[hxe]at hx;unfold isStrT at h6;split at h6
   ·rename_i hu;have hr:ρ x= .string s:=hx.str_inv;exact fin s.size (by simp[Builtin.len_,qz hu,hr]) (by rw[hxe];rfl)
   ·exact h6.elim
  ·rename_i hxe;rw[hxe]at hx;obtain⟨A,cc,hr⟩:=len_rep rfl hx;exact fin _ (hsl _ A cc hr h6) (by rw[hxe];rfl)
  ·rename_i hxe;rw[hxe]at hx;obtain⟨A,cc,hr⟩:=len_rep rfl hx;exact fin _ (hsl _ A cc hr h6) (by rw[hxe];rfl)
  ·rename_i hxe;rw[hxe]at hx;obtain⟨A,cc,hr⟩:=len_rep rfl hx;exact fin _ (hsl _ A cc hr h6) (by rw[hxe];rfl)
  ·rename_i hxe;rw[hxe]at hx;obtain⟨A,cc,hr⟩:=len_rep rfl hx;exact fin _ (hsl _ A cc hr h6) (by rw[hxe];rfl)
  ·rename_i hxe;rw[hxe]at hx;obtain⟨A,cc,hr⟩:=len_rep rfl hx;exact fin _ (hsl _ A cc hr h6) (by rw[hxe];rfl)
  ·exact h6.elim
 |_=>exact ha.elim
end
end Go.Bv
namespace Go.Bv
open Go.RowKit
def leP:List (Option (Nat×Nat))->List (Option (Nat×Nat))->Prop
 |[],[]=>True
 |_::l,none::m=>leP l m
 |some p::l,some q::m=>p=q/\leP l m
 |_,_=>False
theorem k74:∀l,leP l l
 |[]=>trivial
 |none::l=>k74 l
 |some _::l=>⟨rfl,k74 l⟩
theorem PtrsR.le {G:Gh} {nx:Nat}:∀{ps qs:List (Option (Nat×Nat))} {vs:List Value},PtrsR G nx ps vs->leP ps qs->PtrsR G nx qs vs
 |[],[],[],_,_=>trivial
 |[],[],_::_,h,_=>h.elim
 |[],_::_,_,_,h=>h.elim
 |_::_,[],_,_,h=>by cases h
 |_::_,_::_,[],h,_=>h.elim
 |_::ps,none::qs,_::vs,h,hl=>⟨trivial,PtrsR.le (ps:=ps) (qs:=qs) h.2 (by cases ‹Option (Nat×Nat)›<;>exact hl)⟩
 |none::_,some _::_,_::_,_,hl=>hl.elim
 |some p::ps,some q::qs,_::vs,h,hl=>⟨hl.1▸h.1,PtrsR.le (ps:=ps) (qs:=qs) h.2 hl.2⟩
def le1:V->V->Prop
 |_,.any=>True
 | .own _ s l,.d (.slice s' l')=>s=s'/\l=l'
 | .full s l,.d (.slice s' l')=>s=s'/\l=l'
 | .k (.slice none 0 0),.d (.slice _ l)=>l=[]
 | .k (.slice none 0 0),.full _ l=>l=[]
 | .clo g fs cs,.clo g' fs' cs' =>g=g'/\leP fs fs'/\leP cs cs'
 |x,y=>x=y
def leL:List V->List V->Prop
 |[],[]=>True
 |x::xs,y::ys=>(le1 x y/\y.one=true)/\leL xs ys
 |_,_=>False
def le0:V->V->Prop
 | .agg l,.agg l' =>leL l l'
 |x,y=>le1 x y
def leT:List V->List V->Prop
 |[],[]=>True
 |x::xs,y::ys=>le0 x y/\leT xs ys
 |_,_=>False
def le:V->V->Prop
 | .tup l,.tup l' =>leT l l'
 |x,y=>le0 x y
theorem ka (x:V):le1 x x:=by
 cases x with
 |clo g fs cs=>exact⟨rfl,k74 _,k74 _⟩
 |_=>unfold le1;split<;>first|trivial|rfl|simp_all
def okP (nx:Nat):List (Option (Nat×Nat))->Prop
 |[]=>True
 |some p::r=>p.1<nx/\okP nx r
 |none::r=>okP nx r
def ok1 (nx:Nat):V->Prop
 | .ptr id _=>id<nx
 | .own tok _ _=>tok<nx
 | .row id _ _ _=>id<nx
 | .mp id=>id<nx
 | .clo _ fs cs=>okP nx fs/\okP nx cs
 | .agg _=>False
 | .tup _=>False
 |_=>True
def okL (nx:Nat):List V->Prop
 |[]=>True
 |x::xs=>ok1 nx x/\okL nx xs
def ok0 (nx:Nat):V->Prop
 | .agg l=>okL nx l
 |x=>ok1 nx x
def okT (nx:Nat):List V->Prop
 |[]=>True
 |x::xs=>ok0 nx x/\okT nx xs
def ok (nx:Nat):V->Prop
 | .tup l=>okT nx l
 |x=>ok0 nx x
section
variable {P:Program} {T:Tk} {G0 G:Gh} {w0 w:World} {N:Nat} {s:St} {a:Act} {h h' :Hp} {nx nx' :Nat}
theorem RepV.le1 {v:Value} {x y:V} (hv:RepV G w h nx v x) (hl:Bv.le1 x y):RepV G w h nx v y:=by
 unfold Bv.le1 at hl;split at hl
 ·exact .any _
 ·obtain⟨rfl,rfl⟩:=hl;cases hv;exact .d _ _ (by assumption)
 ·obtain⟨rfl,rfl⟩:=hl;exact .d _ _ (hv.full_inv.elim fun _ h=>h.2)
 ·subst hl;rw[hv.k_inv];exact .d _ _ (.nil none _)
 ·subst hl;rw[hv.k_inv];exact .full none _ [] (.nil none _)
 ·obtain⟨rfl,h1,h2⟩:=hl;cases hv with|clo _ _ _ vs us hf hc=>exact .clo _ _ _ vs us (hf.le h1) (hc.le h2)
 ·subst hl;exact hv
theorem k2g:∀{l l' :List V},leL l l'->l.length=l'.length/\(∀y∈l',y.one=true)/\∀(j:Nat) (x y:V),l[j]? =some x->l'[j]? =some y->Bv.le1 x y
 |[],[],_=>⟨rfl,by simp,by simp⟩
 |x::xs,y::ys,hh=>by
  obtain⟨⟨h1,h2⟩,h3⟩:=hh;obtain⟨g1,g2,g3⟩:=k2g h3;refine⟨by simp[g1],fun z hz=> ?_,fun j a b ha hb=> ?_⟩
  ·rcases qam.1 hz with rfl|hz
   ·exact h2
   ·exact g2 z hz
  ·cases j with
   |zero=>simp at ha hb;subst ha;subst hb;exact h1
   |succ j=>simp at ha hb;exact g3 j a b ha hb
 |[],_::_,hh=>hh.elim
 |_::_,[],hh=>hh.elim
theorem kip:∀{l l' :List V},leT l l'->l.length=l'.length/\∀(j:Nat) (x y:V),l[j]? =some x->l'[j]? =some y->Bv.le0 x y
 |[],[],_=>⟨rfl,by simp⟩
 |x::xs,y::ys,hh=>by
  obtain⟨h1,h3⟩:=hh;obtain⟨g1,g3⟩:=kip h3;refine⟨by simp[g1],fun j a b ha hb=> ?_⟩;cases j with
  |zero=>simp at ha hb;subst ha;subst hb;exact h1
  |succ j=>simp at ha hb;exact g3 j a b ha hb
 |[],_::_,hh=>hh.elim
 |_::_,[],hh=>hh.elim
theorem k54:∀{l:List V},okL nx l->∀(j:Nat) (x:V),l[j]? =some x->ok1 nx x
 |[],_=>by simp
 |x::xs,hh=>by
  intro j y hy;cases j with
  |zero=>simp at hy;subst hy;exact hh.1
  |succ j=>simp at hy;exact k54 hh.2 j y hy
theorem kkt:∀{l:List V},okT nx l->∀(j:Nat) (x:V),l[j]? =some x->ok0 nx x
 |[],_=>by simp
 |x::xs,hh=>by
  intro j y hy;cases j with
  |zero=>simp at hy;subst hy;exact hh.1
  |succ j=>simp at hy;exact kkt hh.2 j y hy
theorem leL_rep {cs:List Value} {l l' :List V} (hlen:cs.length=l.length) (hr:∀(j:Nat) (v:Value) (x:V),cs[j]? =some v->l[j]? =some x->RepV G w h nx v x) (hl:leL l l'):
  cs.length=l'.length/\(∀y∈l',y.one=true)/\∀(j:Nat) (v:Value) (x:V),cs[j]? =some v->l'[j]? =some x->RepV G w h nx v x:=by
 obtain⟨g1,g2,g3⟩:=k2g hl;refine⟨by omega,g2,fun j v y hv hy=> ?_⟩;have hj:j<l.length:=by have:=(qf.1 hv).1;omega
 exact(hr j v _ hv (qd hj)).le1 (g3 j _ y (qd hj) hy)
theorem RepV.agg_inv {v:Value} {l:List V} (hv:RepV G w h nx v (.agg l)):∃vs,v= .agg (List.toArray vs)/\vs.length=l.length/\(∀x∈l,x.one=true)/\∀(j:Nat) (u:Value) (x:V),vs[j]? =some u->l[j]? =some x->RepV G w h nx u x:=by
 generalize hx:V.agg l=x at hv;cases hv<;>first|cases hx|skip
 rename_i vs hlen hone hr;exact⟨vs,rfl,hlen,hone,hr⟩
theorem RepV.tup_inv {v:Value} {l:List V} (hv:RepV G w h nx v (.tup l)):∃vs,v= .tuple (List.toArray vs)/\vs.length=l.length/\∀(j:Nat) (u:Value) (x:V),vs[j]? =some u->l[j]? =some x->RepV G w h nx u x:=by
 generalize hx:V.tup l=x at hv;cases hv<;>first|cases hx|skip
 rename_i vs hlen hr;exact⟨vs,rfl,hlen,hr⟩
theorem RepV.le0 {v:Value} {x y:V} (hv:RepV G w h nx v x) (hl:Bv.le0 x y):RepV G w h nx v y:=by
 unfold Bv.le0 at hl;split at hl
 ·obtain⟨vs,rfl,h1,h2,h3⟩:=hv.agg_inv;obtain⟨g1,g2,g3⟩:=leL_rep h1 h3 hl;exact .agg _ _ g1 g2 g3
 ·exact hv.le1 hl
theorem RepV.le {v:Value} {x y:V} (hv:RepV G w h nx v x) (hl:Bv.le x y):RepV G w h nx v y:=by
 unfold Bv.le at hl;split at hl
 ·rename_i l l';obtain⟨vs,rfl,h1,h3⟩:=hv.tup_inv;obtain⟨g1,g3⟩:=kip hl;refine .tup _ _ qqo fun j v y hv hy=> ?_;have hj:j<l.length:=by have:=(qf.1 hv).1;omega
  exact(h3 j v _ hv (qd hj)).le0 (g3 j _ y (qd hj) hy)
 ·exact hv.le0 hl
def moLe:MO->MO->Prop
 | .it mid rest _,.it mid' rest' none=>mid=mid'/\rest=rest'
 |x,x' =>x=x'
theorem moLe_m {x:MO} {es:List (D×V)} (h:moLe x (.m es)):x= .m es:=by cases x<;>exact h
theorem MoR.le {id:Nat} {x x' :MO} (hr:MoR G w h nx id x) (hl:moLe x x'):MoR G w h nx id x' :=by
 unfold moLe at hl;split at hl
 ·obtain⟨rfl,rfl⟩:=hl;obtain⟨b,bm,since,seen,c0,h1,h2,h3,h4,h5,h6⟩:=hr;refine⟨b,bm,since,seen,c0,h1,h2,h3,h4,h5,fun es hm=> ?_⟩;obtain⟨clk,ms,q1,q2,q3,_⟩:=h6 es hm;exact⟨clk,ms,q1,q2,q3,fun e he=>by cases he⟩
 ·subst hl;exact hr
def obLe:Option Ob->Ob->Prop
 |some (.tip n),.tip n' =>n=n'
 |some (.cells l),.cells l' =>leL l l'
 |some (.map x),.map x' =>moLe x x'
 |_,.dead=>True
 |_,_=>False
def okM (nx:Nat):List (D×V)->Prop
 |[]=>True
 |x::xs=>ok0 nx x.2/\okM nx xs
theorem k4s {nx:Nat}:∀{l:List (D×V)},okM nx l->∀(j:Nat) (x:D×V),l[j]? =some x->ok0 nx x.2
 |[],_=>by simp
 |x::xs,hh=>by
  intro j y hy;cases j with
  |zero=>simp at hy;subst hy;exact hh.1
  |succ j=>simp at hy;exact k4s hh.2 j y hy
def okMO (nx:Nat):MO->Prop
 | .m es=>okM nx es
 | .it mid rest last=>mid<nx/\okM nx rest/\∀e,last=some e->ok0 nx e.2
def okO (nx:Nat):Ob->Prop
 | .tip _=>True
 | .cells l=>okL nx l
 | .map x=>okMO nx x
 | .dead=>True
theorem k3n {o:Option Ob} {t:Nat} (h:obLe o (.tip t)):o=some (.tip t):=by
 cases o with
 |none=>exact h.elim
 |some ob=>cases ob with
  |tip n=>have:n=t:=h;rw[this]
  |_=>exact h.elim
theorem k27 {o:Option Ob} {l:List V} (h:obLe o (.cells l)):∃l0,o=some (.cells l0)/\leL l0 l:=by
 cases o with
 |none=>exact h.elim
 |some ob=>cases ob with
  |cells l0=>exact⟨l0,rfl,h⟩
  |_=>exact h.elim
theorem k82 {o:Option Ob} {x:MO} (h:obLe o (.map x)):∃x0,o=some (.map x0)/\moLe x0 x:=by
 cases o with
 |none=>exact h.elim
 |some ob=>cases ob with
  |map x0=>exact⟨x0,rfl,h⟩
  |_=>exact h.elim
theorem obLe_m {o:Option Ob} {es:List (D×V)} (h:obLe o (.map (.m es))):o=some (.map (.m es)):=by obtain⟨x0,h1,h2⟩:=k82 h;rw[h1,moLe_m h2]
theorem WR.mobLe {base:Nat} (hw:WR T base G w h nx) {id:Nat} {x:MO} (hl:obLe (h.get id) (.map x)):MoR G w h nx id x:=by obtain⟨x0,h1,h2⟩:=k82 hl;exact(hw.mob id x0 h1).le h2
theorem k7u {id:Nat} {x:MO} (hl:obLe (h.get id) (.map x)):live h id:=by obtain⟨x0,h1,h2⟩:=k82 hl;exact k1g h1
end
end Go.Bv
namespace Go.Bv
open Go.RowKit
def renP (σ:Nat->Nat):List (Option (Nat×Nat))->List (Option (Nat×Nat))
 |[]=>[]
 |some (id,off)::r=>some (σ id,off)::renP σ r
 |none::r=>none::renP σ r
def ren1 (σ:Nat->Nat):V->V
 | .ptr id off=> .ptr (σ id) off
 | .own tok sz l=> .own (σ tok) sz l
 | .row id off len sz=> .row (σ id) off len sz
 | .mp id=> .mp (σ id)
 | .clo g fs cs=> .clo g (renP σ fs) (renP σ cs)
 |x=>x
def ren0 (σ:Nat->Nat):V->V
 | .agg l=> .agg (l.map (ren1 σ))
 |x=>ren1 σ x
def ren (σ:Nat->Nat):V->V
 | .tup l=> .tup (l.map (ren0 σ))
 |x=>ren0 σ x
theorem k3o (σ:Nat->Nat) (x:V):(ren1 σ x).one=x.one:=by cases x<;>rfl
def renMO (σ:Nat->Nat):MO->MO
 | .m es=> .m (es.map fun e=>(e.1,ren0 σ e.2))
 | .it mid rest last=> .it (σ mid) (rest.map fun e=>(e.1,ren0 σ e.2)) (last.map fun e=>(e.1,ren0 σ e.2))
def renO (σ:Nat->Nat):Ob->Ob
 | .cells l=> .cells (l.map (ren1 σ))
 | .map x=> .map (renMO σ x)
 | .tip n=> .tip n
 | .dead=> .dead
def hpOf:Nat->List Ob->Hp
 |_,[]=>[]
 |k,o::r=>(k,o)::hpOf (k+1) r
section
variable {P:Program} {T:Tk} {G0 G G' :Gh} {w0 w:World} {N:Nat} {s:St} {a:Act} {h h' :Hp} {nx nx' :Nat}
structure Ren (σ:Nat->Nat) (G:Gh) (h:Hp) (nx:Nat) (G' :Gh) (h' :Hp) (nx' :Nat):Prop where
 lim:G'.lim=G.lim
 lt:∀i,i<nx->σ i<nx'
 loc:∀i,i<nx->G'.loc (σ i)=G.loc i
 tloc:∀i,i<nx->G'.tloc (σ i)=G.tloc i
 tip:∀i t,i<nx->h'.get (σ i)=some (.tip t)->h.get i=some (.tip t)
theorem PtrsR.ren {σ:Nat->Nat} (hσ:Ren σ G h nx G' h' nx'):∀{ps:List (Option (Nat×Nat))} {vs:List Value},PtrsR G nx ps vs->PtrsR G' nx' (renP σ ps) vs
 |[],[],_=>trivial
 |[],_::_,hh=>hh.elim
 |_::_,[],hh=>hh.elim
 |none::_,_::_,hh=>⟨trivial,PtrsR.ren hσ hh.2⟩
 |some (id,off)::_,_::_,hh=>by obtain⟨⟨h1,b,h2,h3⟩,h4⟩:=hh;exact⟨⟨hσ.lt id h1,b,by rw[hσ.loc id h1];exact h2,h3⟩,PtrsR.ren hσ h4⟩
theorem PtrsR.back {σ:Nat->Nat} {nx nx' :Nat} {G G' :Gh} (hloc:∀i,i<nx'->G'.loc i=G.loc (σ i)):∀{ps:List (Option (Nat×Nat))} {vs:List Value},PtrsR G nx (renP σ ps) vs->okP nx' ps->PtrsR G' nx' ps vs
 |[],[],_,_=>trivial
 |[],_::_,hh,_=>hh.elim
 |none::_,[],hh,_=>hh.elim
 |some _::_,[],hh,_=>hh.elim
 |none::_,_::_,hh,ho=>⟨trivial,PtrsR.back hloc hh.2 ho⟩
 |some (id,off)::_,_::_,hh,ho=>by obtain⟨⟨h1,b,h2,h3⟩,h4⟩:=hh;exact⟨⟨ho.1,b,by rw[hloc id ho.1];exact h2,h3⟩,PtrsR.back hloc h4 ho.2⟩
theorem RepV.ren1 {σ:Nat->Nat} (hσ:Ren σ G h nx G' h' nx') {v:Value} {x:V} (hv:RepV G w h nx v x) (hn:∀l,x≠ .agg l) (hn' :∀l,x≠ .tup l):RepV G' w h' nx' v (Bv.ren1 σ x):=by
 cases hv with
 |any=>exact .any _
 |k=>exact .k _
 |d _ _ hd=>exact .d _ _ (by rw[hσ.lim];exact hd)
 |agg _ l=>exact(hn l rfl).elim
 |tup _ l=>exact(hn' l rfl).elim
 |ptr id _ b hid hl=>exact .ptr _ _ b (hσ.lt id hid) (by rw[hσ.loc id hid];exact hl)
 |ro b off l vs h1 h2 h3 h4=>exact .ro b off l vs h1 h2 (by rw[hσ.lim];exact h3) (by rw[hσ.lim];exact h4)
 |own _ tok sz l hd ht hs=>
  refine .own _ _ _ _ (by rw[hσ.lim];exact hd) (hσ.lt tok ht) fun t h1=> ?_;obtain⟨g1,g2⟩:=hs t (hσ.tip tok t ht h1);refine⟨g1,fun e=> ?_⟩;have:=g2 e;cases v with
  |slice A n cap=>
   simp only[Spare]at this ⊢;rcases this with h6|⟨b,off,c,e',hA,hloc,hheap,ho,hc⟩
   ·exact .inl h6
   ·exact .inr ⟨b,off,c,e',hA,by rw[hσ.tloc tok ht];exact hloc,hheap,by rw[hσ.lim];exact ho,hc⟩
  |_=>exact this
 |full A sz l hd=>exact .full A sz l (by rw[hσ.lim];exact hd)
 |row id _ _ _ b o cap n hid hl h1 h2 h3 h4 h5=>exact .row _ _ _ _ b o cap n (hσ.lt id hid) (by rw[hσ.loc id hid];exact hl) h1 h2 h3 h4 h5
 |rown _ id _ _ hid=>exact .rown _ _ _ _ (hσ.lt id hid)
 |mp id b hid hl=>exact .mp _ b (hσ.lt id hid) (by rw[hσ.loc id hid];exact hl)
 |clo g fs cs vs us hf hc=>exact .clo _ _ _ _ _ (hf.ren hσ) (hc.ren hσ)
theorem RepV.ren0 {σ:Nat->Nat} (hσ:Ren σ G h nx G' h' nx') {v:Value} {x:V} (hv:RepV G w h nx v x) (hn' :∀l,x≠ .tup l):RepV G' w h' nx' v (Bv.ren0 σ x):=by
 unfold Bv.ren0;split
 ·obtain⟨vs,rfl,h1,h2,h3⟩:=hv.agg_inv;refine .agg _ _ (by simpa using h1) (fun x hx=> ?_) fun j v x hv hx=> ?_
  ·obtain⟨y,hy,rfl⟩:=qag.1 hx;rw[k3o];exact h2 y hy
  ·rw[ql,qv]at hx;obtain⟨y,hy,rfl⟩:=hx;have ho:=h2 y (qbb hy);exact(h3 j v y hv hy).ren1 hσ (fun l e=>by subst e;cases ho) (fun l e=>by subst e;cases ho)
 ·rename_i hn;exact hv.ren1 hσ hn hn'
theorem RepV.ren {σ:Nat->Nat} (hσ:Ren σ G h nx G' h' nx') {v:Value} {x:V} (hv:RepV G w h nx v x) (hflat:∀l,x= .tup l->∀y∈l,∀l',y≠ .tup l'):RepV G' w h' nx' v (Bv.ren σ x):=by
 unfold Bv.ren;split
 ·rename_i l;obtain⟨vs,rfl,h1,h3⟩:=hv.tup_inv;refine .tup _ _ (by simpa using h1) fun j v x hv hx=> ?_;rw[ql,qv]at hx;obtain⟨y,hy,rfl⟩:=hx;exact(h3 j v y hv hy).ren0 hσ (hflat l rfl y (qbb hy))
 ·rename_i hn;exact hv.ren0 hσ hn
theorem k40 {σ:Nat->Nat} {h h' :Hp} {nx nx' :Nat} {G G' :Gh} {w:World} (hlim:G'.lim=G.lim) (hloc:∀i,i<nx'->G'.loc i=G.loc (σ i)) (htl:∀i,i<nx'->G'.tloc i=G.tloc (σ i))
  (htip:∀i t,i<nx'->h'.get i=some (.tip t)->h.get (σ i)=some (.tip t)) {v:Value} {x:V} (hv:RepV G w h nx v (ren1 σ x)) (ho:ok1 nx' x):RepV G' w h' nx' v x:=by
 cases x with
 |any=>exact .any _
 |k u=>rw[hv.k_inv];exact .k _
 |d y=>cases hv with|d _ _ hd=>exact .d _ _ (by rw[hlim];exact hd)
 |agg l=>exact ho.elim
 |tup l=>exact ho.elim
 |ptr id off=>simp only[Bv.ren1]at hv;cases hv with|ptr _ _ b hid hl=>exact .ptr _ _ b ho (by rw[hloc id ho];exact hl)
 |ro l=>cases hv with|ro b off _ vs h1 h2 h3 h4=>exact .ro b off l vs h1 h2 (by rw[hlim];exact h3) (by rw[hlim];exact h4)
 |own tok sz l=>
  simp only[Bv.ren1]at hv;cases hv with|own _ _ _ _ hd ht hs=>
  refine .own _ _ _ _ (by rw[hlim];exact hd) ho fun t h1=> ?_;obtain⟨g1,g2⟩:=hs t (htip tok t ho h1);refine⟨g1,fun e=> ?_⟩;have:=g2 e;cases v with
  |slice A n cap=>
   simp only[Spare]at this ⊢;rcases this with h6|⟨b,off,c,e',hA,hl,hheap,ho',hc⟩
   ·exact .inl h6
   ·exact .inr ⟨b,off,c,e',hA,by rw[htl tok ho];exact hl,hheap,by rw[hlim];exact ho',hc⟩
  |_=>exact this
 |full sz l=>obtain⟨A,rfl,hd⟩:=hv.full_inv;exact .full A sz l (by rw[hlim];exact hd)
 |row id off len sz=>
  simp only[Bv.ren1]at hv;cases hv with
  |row _ _ _ _ b o cap n hid hl h1 h2 h3 h4 h5=>exact .row _ _ _ _ b o cap n ho (by rw[hloc id ho];exact hl) h1 h2 h3 h4 h5
  |rown _ _ _ _ hid=>exact .rown _ _ _ _ ho
 |mp id=>simp only[Bv.ren1]at hv;cases hv with|mp _ b hid hl=>exact .mp _ b ho (by rw[hloc id ho];exact hl)
 |clo g fs cs=>simp only[Bv.ren1]at hv;cases hv with|clo _ _ _ vs us hf hc=>exact .clo _ _ _ _ _ (hf.back hloc ho.1) (hc.back hloc ho.2)
theorem k24 {σ:Nat->Nat} {h h' :Hp} {nx nx' :Nat} {G G' :Gh} {w:World} (hlim:G'.lim=G.lim) (hloc:∀i,i<nx'->G'.loc i=G.loc (σ i)) (htl:∀i,i<nx'->G'.tloc i=G.tloc (σ i))
  (htip:∀i t,i<nx'->h'.get i=some (.tip t)->h.get (σ i)=some (.tip t)) {v:Value} {x:V} (hv:RepV G w h nx v (ren0 σ x)) (ho:ok0 nx' x):RepV G' w h' nx' v x:=by
 cases x with
 |agg l=>
  simp only[Bv.ren0]at hv;obtain⟨vs,rfl,h1,h2,h3⟩:=hv.agg_inv;refine .agg _ _ (by simpa using h1) (fun y hy=> ?_) fun j u y hu hy=> ?_
  ·rw[<-k3o σ y];exact h2 _ (qag.2 ⟨y,hy,rfl⟩)
  ·exact k40 hlim hloc htl htip (h3 j u (ren1 σ y) hu (by rw[ql,hy];rfl)) (k54 ho j y hy)
 |_=>exact k40 hlim hloc htl htip hv ho
theorem kc1 {σ:Nat->Nat} {h h' :Hp} {nx nx' :Nat} {G G' :Gh} {w:World} (hlim:G'.lim=G.lim) (hloc:∀i,i<nx'->G'.loc i=G.loc (σ i)) (htl:∀i,i<nx'->G'.tloc i=G.tloc (σ i))
  (htip:∀i t,i<nx'->h'.get i=some (.tip t)->h.get (σ i)=some (.tip t)) {v:Value} {x:V} (hv:RepV G w h nx v (ren σ x)) (ho:ok nx' x):RepV G' w h' nx' v x:=by
 cases x with
 |tup l=>simp only[Bv.ren]at hv;obtain⟨vs,rfl,h1,h3⟩:=hv.tup_inv;refine .tup _ _ (by simpa using h1) fun j u y hu hy=> ?_;exact k24 hlim hloc htl htip (h3 j u (ren0 σ y) hu (by rw[ql,hy];rfl)) (kkt ho j y hy)
 |_=>exact k24 hlim hloc htl htip hv ho
theorem ki9:∀(os:List Ob) (k i:Nat),(hpOf k os).get i=if k<=i then os[i-k]? else none
 |[],k,i=>by simp[hpOf,Hp.get]
 |n::r,k,i=>by
  simp only[hpOf,Hp.get];by_cases hi:i=k
  ·subst hi;simp
  ·rw[qe hi,ki9 r (k+1) i];by_cases hk:k<=i
   ·rw[qh hk,qh qqo,show i-k=(i-(k+1))+1 by omega,qao]
   ·rw[qe hk,qe qqo]
theorem ko (os:List Ob) (i:Nat):(hpOf 0 os).get i=os[i]? :=by rw[ki9,qh (qbg _),Nat.sub_zero]
theorem k28:∀(h1 h2:Hp) (i:Nat),Hp.get (h1++h2) i=(match h1.get i with|some o=>some o|none=>h2.get i)
 |[],h2,i=>rfl
 |(j,o)::r,h2,i=>by
  simp only[List.cons_append,Hp.get];split
  ·rfl
  ·exact k28 r h2 i
def tkOf (G:Gh) (pre:List Ob):Tk:=⟨fun b=>∃i,i<pre.length/\(G.loc i=some b∨G.tloc i=some b),hpOf 0 pre,pre.length⟩
def SoundH (P:Program) (f:FuncId) (xs:List V) (pre:List Ob) (r:V) (post:List Ob):Prop:=
 ∀(G:Gh) (w:World) (vs:List Value),vs.length=xs.length->(∀(j:Nat) (v:Value) (x:V),vs[j]? =some v->xs[j]? =some x->RepV G w (hpOf 0 pre) pre.length v x)->
  WR (tkOf G pre) w.heap.size G w (hpOf 0 pre) pre.length->
  Calls P f vs.toArray w fun e w' =>∃v G',e= .returned v/\RepV G' w' (hpOf 0 post) post.length v r/\WR (tkOf G pre) w.heap.size G' w' (hpOf 0 post) post.length/\Fr (tkOf G pre) G w G' w'/\Ex (tkOf G pre) G w G' w' (hpOf 0 post) post.length
def notIt:Ob->Prop
 | .map (.it _ _ _)=>False
 |_=>True
def noIt (h:Hp):Prop:=∀i o,h.get i=some o->notIt o
structure ppOk (pre post:List Ob):Prop where
 l:pre.length<=post.length
 n:∀o∈post,notIt o
theorem klw {σ:Nat->Nat} {o:Ob} (h:notIt o):notIt (renO σ o):=by
 cases o with
 |map x=>cases x with
  |m es=>trivial
  |it=>exact h.elim
 |_=>trivial
def noTup:V->Prop
 | .tup l=>∀y∈l,∀l',y≠ .tup l'
 |_=>True
def sgm (ids:List Nat) (fb i:Nat):Nat:=match ids[i]? with
 |some k=>k
 |none=>fb+(i-ids.length)
def notDead:Ob->Prop
 | .dead=>False
 |_=>True
def hpNew (σ:Nat->Nat):Nat->List Ob->Hp
 |_,[]=>[]
 |k,o::r=>(σ k,renO σ o)::hpNew σ (k+1) r
def preOk (h:Hp) (σ:Nat->Nat) (m fb nx:Nat):List Nat->List Ob->Prop
 |[],[]=>True
 |k::ks,o::os=>(k<fb/\k<nx/\obLe (h.get k) (renO σ o)/\okO m o/\notDead o)/\preOk h σ m fb nx ks os
 |_,_=>False
theorem k7l {σ:Nat->Nat} {m fb:Nat}:∀{ks:List Nat} {os:List Ob},preOk h σ m fb nx ks os->ks.length=os.length/\∀(i k:Nat) (o:Ob),ks[i]? =some k->os[i]? =some o->k<fb/\k<nx/\obLe (h.get k) (renO σ o)/\okO m o/\notDead o
 |[],[],_=>⟨rfl,by simp⟩
 |k::ks,o::os,hh=>by
  obtain⟨h1,h2⟩:=k7l hh.2;refine⟨by simp[h1],fun i k' o' hk ho=> ?_⟩;cases i with
  |zero=>simp at hk ho;subst hk;subst ho;exact hh.1
  |succ i=>simp at hk ho;exact h2 i k' o' hk ho
 |[],_::_,hh=>hh.elim
 |_::_,[],hh=>hh.elim
def notTip:Ob->Prop
 | .tip _=>False
 |_=>True
theorem kg6 {σ:Nat->Nat}:∀(os:List Ob) (k i:Nat) (o:Ob),(∀i j,i<k+os.length->j<k+os.length->σ i=σ j->i=j)->k<=i->os[i-k]? =some o->(hpNew σ k os).get (σ i)=some (renO σ o)
 |[],k,i,o,_,_,ho=>by simp at ho
 |n::r,k,i,o,hinj,hki,ho=>by
  simp only[hpNew,Hp.get];by_cases hi:i=k
  ·subst hi;simp at ho;subst ho;simp
  ·have hlt:i-k<(n::r).length:=(qf.1 ho).1;rw[qe (fun h=>hi (hinj i k qqo qqs h))];refine kg6 r (k+1) i o (fun a b ha hb=>hinj a b (by simp at ha ⊢;omega) (by simp at hb ⊢;omega)) qqo ?_;rw[show i-k=(i-(k+1))+1 by omega,qao]at ho;exact ho
theorem kha {σ:Nat->Nat}:∀(os:List Ob) (k id:Nat),(∀i,k<=i->i<k+os.length->σ i≠id)->(hpNew σ k os).get id=none
 |[],_,_,_=>rfl
 |n::r,k,id,hh=>by simp only[hpNew,Hp.get];rw[qe (fun h=>hh k (qt _) qqs h.symm)];exact kha r (k+1) id (fun i h1 h2=>hh i qqo qqm)
end
end Go.Bv
namespace Go.Bv
open Go.RowKit
section
variable {P:Program} {T:Tk} {G0 G:Gh} {w0 w:World} {N:Nat} {s:St} {a:Act}
theorem kic {σ:Nat->Nat} {o:Ob} {t:Nat} (h:renO σ o= .tip t):o= .tip t:=by cases o<;>simp_all [renO]
theorem kls {σ:Nat->Nat} {o:Ob} {l:List V} (h:renO σ o= .cells l):∃l0,o= .cells l0/\l=l0.map (ren1 σ):=by cases o<;>simp_all [renO]
theorem kqc {σ:Nat->Nat} {o:Ob} {x:MO} (h:renO σ o= .map x):∃x0,o= .map x0/\x=renMO σ x0:=by cases o<;>simp_all [renO]
theorem kpv {σ:Nat->Nat} {v:V} (l:List V) (h:ren0 σ v= .tup l):∃l,v= .tup l:=by cases v<;>first|exact⟨_,rfl⟩|(simp[Bv.ren0,Bv.ren1]at h)
theorem renE_tup' {σ:Nat->Nat} {v:V} (l:List V) (h:v= .tup l):∃l,ren0 σ v= .tup l:=by subst h;exact⟨_,rfl⟩
theorem R.call (hR:R T G0 w0 N s a G w) {f:FuncId} {xs:List V} {pre:List Ob} {r:V} {post:List Ob} (hs:SoundH P f xs pre r post) (hni:noIt s.h) {ids:List Nat} {fb nx' :Nat}
  (hids:preOk s.h (sgm ids fb) pre.length fb s.nx ids pre) (hnd:ids.Nodup) (hpq:ppOk pre post)
  (hfr:(fb=s.nx/\nx' =s.nx+(post.length-pre.length))∨(nx' =s.nx/\∀j,j<post.length-pre.length->fb+j<s.nx/\G.loc (fb+j)=none/\G.tloc (fb+j)=none/\∀o,post[pre.length+j]? =some o->notTip o))
  {vs:List Value} (hlen:vs.length=xs.length)
  (hr:∀(j:Nat) (v:Value) (x:V),vs[j]? =some v->xs[j]? =some x->RepV G w s.h s.nx v (ren (sgm ids fb) x)/\ok pre.length x) (hflat:noTup r):
  Calls P f vs.toArray w fun e w' =>∃v G',e= .returned v/\R T G0 w0 N ⟨s.sl,hpNew (sgm ids fb) 0 post++s.h,nx'⟩ a G' w'/\RepV G' w' (hpNew (sgm ids fb) 0 post++s.h) nx' v (ren (sgm ids fb) r)/\
   ∀i,i<s.nx->(∀k,k<post.length->sgm ids fb k≠i)->G'.loc i=G.loc i/\G'.tloc i=G.tloc i:=by
 have hw:=hR.wr;have hpp:=hpq.l;obtain⟨hil,hpo⟩:=k7l hids;generalize hσ:sgm ids fb=σ at *
 have σlt:∀i,i<pre.length->∃k,ids[i]? =some k/\σ i=k:=fun i hi=>by
  have:i<ids.length:=by omega
  exact⟨ids[i],qd this,by rw[<-hσ];simp[sgm,this]⟩
 have σge:∀i,pre.length<=i->σ i=fb+(i-pre.length):=fun i hi=>by rw[<-hσ];have:ids[i]? =none:=qdd qqo;simp[sgm,this,hil]
 have σob:∀i o,pre[i]? =some o->σ i<fb/\σ i<s.nx/\obLe (s.h.get (σ i)) (renO σ o)/\okO pre.length o/\notDead o:=fun i o ho=>by obtain⟨k,hk,hk2⟩:=σlt i (qf.1 ho).1;rw[hk2];exact hpo i k o hk ho
 have σlo:∀i,i<pre.length->σ i<fb/\σ i<s.nx:=fun i hi=>⟨(σob i _ (qd hi)).1,(σob i _ (qd hi)).2.1⟩
 have σlive:∀i,i<pre.length->live s.h (σ i):=by
  intro i hi;obtain⟨_,_,h1,_,h2⟩:=σob i _ (qd hi);generalize pre[i]=o at h1 h2;cases o with
  |cells l=>obtain⟨l0,h1,_⟩:=k27 h1;exact kh h1
  |tip t=>exact k1b (k3n h1)
  |map es=>exact k7u h1
  |dead=>exact h2.elim
 have σinj:∀i j,σ i=σ j->i=j:=by
  intro i j hij;rcases qaz i pre.length with hi|hi<;>rcases qaz j pre.length with hj|hj
  ·obtain⟨k,hk,hk2⟩:=σlt i hi;obtain⟨k',hk',hk2'⟩:=σlt j hj;have:k=k' :=by omega
   subst this;exact(List.getElem?_inj qqo hnd).1 (hk.trans hk'.symm)
  ·have:=(σlo i hi).1;rw[σge j hj]at hij;omega
  ·have:=(σlo j hj).1;rw[σge i hi]at hij;omega
  ·rw[σge i hi,σge j hj]at hij;omega
 have hnn:s.nx<=nx' :=by rcases hfr with⟨_,h⟩|⟨h,_⟩<;>omega
 have σlt' :∀i,i<post.length->σ i<nx' :=by
  intro i hi;rcases qaz i pre.length with h|h
  ·have:=(σlo i h).2;omega
  ·rw[σge i h];rcases hfr with⟨h1,h2⟩|⟨h1,h2⟩
   ·omega
   ·have:=(h2 (i-pre.length) qqo).1;omega
 
 let G1:Gh:=⟨fun i=>if i<pre.length then G.loc (σ i)else none,fun i=>if i<pre.length then G.tloc (σ i)else none,G.lim⟩;have hl1:∀i,i<pre.length->G1.loc i=G.loc (σ i):=fun i hi=>by simp[G1,hi]
 have ht1:∀i,i<pre.length->G1.tloc i=G.tloc (σ i):=fun i hi=>by simp[G1,hi]
 have htip1:∀i t,i<pre.length->(hpOf 0 pre).get i=some (.tip t)->s.h.get (σ i)=some (.tip t):=by intro i t hi hg;rw[ko]at hg;exact k3n (σob i _ hg).2.2.1
 have hW1:WR (tkOf G1 pre) w.heap.size G1 w (hpOf 0 pre) pre.length:=by
  refine⟨?_,?_,?_,?_,?_,hw.lim⟩
  ·intro id l hg;rw[ko]at hg;obtain⟨_,_,h1,h2,_⟩:=σob id _ hg;have hid:id<pre.length:=(qf.1 hg).1;obtain⟨l0,hgt,hle⟩:=k27 h1;obtain⟨q1,q2,q3⟩:=k2g hle;rw[qm]at q1;rcases hw.obj (σ id) l0 hgt with⟨z1,z2⟩|⟨b,e,cs,k1,k2,k3,k4,k5,k6⟩
   ·exact .inl ⟨qac (by rw[z1]at q1;simpa using q1.symm),by rw[hl1 id hid];exact z2⟩
   refine .inr ⟨b,e,cs,by rw[hl1 id hid];exact k1,k2,k3,by omega,fun x hx=> ?_,fun j v x hv hx=> ?_⟩
   ·rw[<-k3o σ x];exact q2 _ (qag.2 ⟨x,hx,rfl⟩)
   ·have hj:j<l0.length:=by have:=(qf.1 hx).1;omega
    have:=(k6 j v _ hv (qd hj)).le1 (q3 j _ (ren1 σ x) (qd hj) (by rw[ql,hx];rfl));exact k40 (G:=G) (G' :=G1) rfl hl1 ht1 htip1 this (k54 h2 j x hx)
  ·intro id es hg;rw[ko]at hg;obtain⟨_,_,h1,h2,_⟩:=σob id _ hg;have hid:id<pre.length:=(qf.1 hg).1;have hm:=hw.mobLe h1;cases es with
   |m es=>
    obtain⟨b,clk,ms,k1,k2,k3,k4⟩:=hm;refine⟨b,clk,ms,by rw[hl1 id hid];exact k1,k2,k3.tr qqs fun j e e' q1 q2=> ?_,k4⟩;rw[ql,q2]at q1;obtain rfl:(e'.1,ren0 σ e'.2)=e:=by simpa using q1
    exact⟨renE_tup',fun _ k v r1 r2=>⟨r1,k24 (G:=G) (G' :=G1) rfl hl1 ht1 htip1 r2 (k4s h2 j e' q2)⟩⟩
   |it mid rest last=>
    obtain⟨x0,hx1,hx2⟩:=k82 h1;have:=hni (σ id) _ hx1;cases x0 with
    |m es=>simp[renMO,moLe]at hx2
    |it=>exact this.elim
  ·intro id b hid hb;rw[hl1 id hid,ht1 id hid]at hb;exact⟨(hw.here (σ id) b (σlo id hid).2 hb).1,.inr ⟨id,hid,by rw[hl1 id hid,ht1 id hid];exact hb⟩⟩
  ·intro i j b hi hj hbi hbj _ _;rw[hl1 i hi,ht1 i hi]at hbi;rw[hl1 j hj,ht1 j hj]at hbj;exact σinj i j (hw.inj _ _ b (σlo i hi).2 (σlo j hj).2 hbi hbj (σlive i hi) (σlive j hj))
  ·intro id ob hg;rw[ko]at hg;exact(qf.1 hg).1
 refine(hs G1 w vs hlen (fun j v x hv hx=>kc1 (G:=G) (G' :=G1) rfl hl1 ht1 htip1 (hr j v x hv hx).1 (hr j v x hv hx).2) hW1).mono fun e w' ⟨v,G2,he,hv,hW,hF,hE⟩=> ?_
 
 let inv:Nat->Option Nat:=fun k=>(List.range post.length).find? (fun i=>decide (σ i=k))
 have inv_in:∀i,i<post.length->inv (σ i)=some i:=by
  intro i hi;simp only[inv];cases hf:(List.range post.length).find? (fun j=>decide (σ j=σ i))with
  |none=>have:=qeh.1 hf i (List.mem_range.2 hi);simp at this
  |some j=>have:=List.find?_some hf;simp at this;rw[σinj j i this]
 have inv_out:∀k,(∀i,i<post.length->σ i≠k)->inv k=none:=by intro k hk;simp only[inv];rw[qeh];intro i hi;simpa using hk i (List.mem_range.1 hi)
 let G' :Gh:=⟨fun k=>match inv k with|some i=>G2.loc i|none=>G.loc k,fun k=>match inv k with|some i=>G2.tloc i|none=>G.tloc k,G2.lim⟩;have hin:∀i,i<post.length->G'.loc (σ i)=G2.loc i/\G'.tloc (σ i)=G2.tloc i:=fun i hi=>by simp[G',inv_in i hi]
 have hout:∀k,(∀i,i<post.length->σ i≠k)->G'.loc k=G.loc k/\G'.tloc k=G.tloc k:=fun k hk=>by simp[G',inv_out k hk]
 have hgin:∀i o,post[i]? =some o->Hp.get (hpNew σ 0 post++s.h) (σ i)=some (renO σ o):=by intro i o ho;rw[k28,kg6 post 0 i o (fun a b _ _ h=>σinj a b h) (qbg _) (by simpa using ho)]
 have hgout:∀k,(∀i,i<post.length->σ i≠k)->Hp.get (hpNew σ 0 post++s.h) k=s.h.get k:=by intro k hk;rw[k28,kha post 0 k (fun i _ h=>hk i qqo)]
 have cases_k:∀k,(∃i,i<post.length/\σ i=k)∨(∀i,i<post.length->σ i≠k):=by
  intro k;by_cases h:∃i,i<post.length/\σ i=k
  ·exact .inl h
  ·exact .inr (fun i hi he=>h ⟨i,hi,he⟩)
 
 have frame:∀k b,k<s.nx->live s.h k->(∀i,i<post.length->σ i≠k)->(G.loc k=some b∨G.tloc k=some b)->b<w.heap.size/\w'.heap[b]? =w.heap[b]? /\G2.lim b=G.lim b:=by
  intro k b hk hkl hno hb;have hbl:=(hw.here k b hk hb).1;have hnt:¬(tkOf G1 pre) b:=by rintro ⟨i,hi,hbi⟩;rw[hl1 i hi,ht1 i hi]at hbi;exact hno i qqo (hw.inj k (σ i) b hk (σlo i hi).2 hb hbi hkl (σlive i hi)).symm
  exact⟨hbl,hF.same b hbl hnt⟩
 have hext:Ext G w s.h s.nx G' w' (hpNew σ 0 post++s.h) nx' :=by
  refine⟨hF.mono,hnn,fun id b hi hb=> ?_,fun tok t' ht h1=> ?_,hE.csz⟩
  ·rcases cases_k id with⟨i,hi2,rfl⟩|hno
   ·rw[(hin i hi2).1];rcases qaz i pre.length with h|h
    ·exact hE.loc i b h (by rw[hl1 i h];exact hb)
    ·rw[σge i h]at hi hb;rcases hfr with⟨q1,q2⟩|⟨q1,q2⟩
     ·omega
     ·rw[(q2 (i-pre.length) qqo).2.1]at hb;cases hb
   ·rw[(hout id hno).1];exact hb
  ·rcases cases_k tok with⟨i,hi2,rfl⟩|hno
   ·rw[hgin i _ (qd hi2)]at h1;injection h1 with h1;have hpi:=kic h1;rcases qaz i pre.length with h|h
    ·obtain⟨t,g1,g2,g3⟩:=hE.tok i t' h (by rw[ko,qd hi2,hpi]);refine⟨t,htip1 i t h g1,g2,fun htt b hb=> ?_⟩;rw[(hin i hi2).2];exact g3 htt b (by rw[ht1 i h];exact hb)
    ·rw[σge i h]at ht;rcases hfr with⟨q1,q2⟩|⟨q1,q2⟩
     ·omega
     ·have:=(q2 (i-pre.length) qqo).2.2.2 _ (by rw[show pre.length+(i-pre.length)=i by omega];exact qd hi2);rw[hpi]at this;exact this.elim
   ·rw[hgout tok hno]at h1;refine⟨t',h1,qt _,fun _ b hb=> ?_⟩;obtain⟨q0,q1,q2⟩:=frame tok b ht (k1b h1) hno (.inr hb);exact⟨by rw[(hout tok hno).2];exact hb,q1,q2⟩
 have hren:Ren σ G2 (hpOf 0 post) post.length G' (hpNew σ 0 post++s.h) nx' :=
  ⟨rfl,σlt',fun i hi=>(hin i hi).1,fun i hi=>(hin i hi).2,fun i t hi hg=>by
   rw[hgin i _ (qd hi)]at hg;injection hg with hg;rw[ko,qd hi,kic hg]⟩
 have one_not:∀x:V,x.one=true->(∀l,x≠ .agg l)/\∀l,x≠ .tup l:=fun x hx=>⟨fun l h=>(by subst h;cases hx),fun l h=>(by subst h;cases hx)⟩;refine⟨v,G',he,⟨?_,⟨?_,?_,?_,?_,?_,?_⟩,hR.df,hR.sz,fun t=>(hR.sl t).ext hext,hR.ex.ext hext⟩,hv.ren hren (fun l hl y hy l' =>by subst hl;exact hflat y hy l'),fun i _ hno=>hout i (fun k hk=>hno k hk)⟩
 ·have hF0:=hR.fr;refine⟨hF.os.trans hF0.os,hF.tape.trans hF0.tape,hF.output.trans hF0.output,qbk hF0.size hF.size,fun b hb hT=> ?_,hF0.mono.trans hF.mono⟩
  have hnt:¬(tkOf G1 pre) b:=by
   rintro ⟨i,hi,hbi⟩;rw[hl1 i hi,ht1 i hi]at hbi;rcases(hw.here (σ i) b (σlo i hi).2 hbi).2 with h|h
   ·omega
   ·exact hT h
  obtain⟨q1,q2⟩:=hF.same b (qas hb hF0.size) hnt;obtain⟨q3,q4⟩:=hF0.same b hb hT;exact⟨q1.trans q3,q2.trans q4⟩
 ·intro id l hl;rcases cases_k id with⟨i,hi,rfl⟩|hno
  ·have hl' :Hp.get (hpNew σ 0 post++s.h) (σ i)=some (.cells l):=hl;rw[hgin i _ (qd hi)]at hl';injection hl' with hl';obtain⟨l0,hp,rfl⟩:=kls hl';rcases hW.obj i l0 (by rw[ko,qd hi,hp])with⟨z1,z2⟩|⟨b,e',cs,k1,k2,k3,k4,k5,k6⟩
   ·exact .inl ⟨by rw[z1];rfl,by rw[(hin i hi).1];exact z2⟩
   refine .inr ⟨b,e',cs,by rw[(hin i hi).1];exact k1,k2,k3,by simpa using k4,fun x hx=> ?_,fun j u x hu hx=> ?_⟩
   ·obtain⟨y,hy,rfl⟩:=qag.1 hx;rw[k3o];exact k5 y hy
   ·rw[ql,qv]at hx;obtain⟨y,hy,rfl⟩:=hx;have:=one_not y (k5 y (qbb hy));exact(k6 j u y hu hy).ren1 hren this.1 this.2
  ·have hl' :Hp.get (hpNew σ 0 post++s.h) id=some (.cells l):=hl;rw[hgout id hno]at hl';rcases hw.obj id l hl' with⟨z1,z2⟩|⟨b,e',cs,k1,k2,k3,k4,k5,k6⟩
   ·exact .inl ⟨z1,by rw[(hout id hno).1];exact z2⟩
   obtain⟨q0,q1,q2⟩:=frame id b (hw.hid _ _ hl') (kh hl') hno (.inl k1);exact .inr ⟨b,e',cs,by rw[(hout id hno).1];exact k1,q1.trans k2,q2.trans k3,k4,k5,fun j v x hv hx=>(k6 j v x hv hx).ext hext⟩
 ·intro id es hl;rcases cases_k id with⟨i,hi,rfl⟩|hno
  ·have hl' :Hp.get (hpNew σ 0 post++s.h) (σ i)=some (.map es):=hl;rw[hgin i _ (qd hi)]at hl';injection hl' with hl';obtain⟨es0,hp,rfl⟩:=kqc hl';have hm:=hW.mob i es0 (by rw[ko,qd hi,hp]);cases es0 with
   |m es0=>
    obtain⟨b,clk,ms,k1,k2,k3,k4⟩:=hm;refine⟨b,clk,ms,by rw[(hin i hi).1];exact k1,k2,k3.tr qqs fun j e e' q1 q2=> ?_,k4⟩;rw[ql,q1]at q2;obtain rfl:(e.1,ren0 σ e.2)=e' :=by simpa using q2
    exact⟨kpv,fun hn k v r1 r2=>⟨r1,r2.ren0 hren hn⟩⟩
   |it mid rest last=>exact(hpq.n _ (qak hi)|>fun h=>by rw[hp]at h;exact h.elim)
  ·have hl' :Hp.get (hpNew σ 0 post++s.h) id=some (.map es):=hl;rw[hgout id hno]at hl';have hm:=hw.mob id es hl';cases es with
   |m es=>obtain⟨b,clk,ms,k1,k2,k3,k4⟩:=hm;obtain⟨q0,q1,q2⟩:=frame id b (hw.hid _ _ hl') (k1g hl') hno (.inl k1);exact⟨b,clk,ms,by rw[(hout id hno).1];exact k1,q1.trans k2,k3.ext hext,k4⟩
   |it mid rest last=>exact(hni id _ hl').elim
 ·intro id b hid hb;rcases cases_k id with⟨i,hi,rfl⟩|hno
  ·rw[(hin i hi).1,(hin i hi).2]at hb;obtain⟨q1,q2⟩:=hW.here i b hi hb;refine⟨q1,?_⟩;rcases q2 with q2|⟨j,hj,hbj⟩
   ·exact .inl (qbk hR.fr.size q2)
   ·rw[hl1 j hj,ht1 j hj]at hbj;exact(hw.here (σ j) b (σlo j hj).2 hbj).2
  ·rw[(hout id hno).1,(hout id hno).2]at hb;have hid:id<nx' :=hid
   have hid' :id<s.nx:=by
    rcases hfr with⟨h1,h2⟩|⟨h1,h2⟩
    ·rcases qaz id s.nx with h|h
     ·exact h
     ·exact(hno (pre.length+(id-s.nx)) qqo (by rw[σge _ qqo];omega)).elim
    ·omega
   obtain⟨q1,q2⟩:=hw.here id b hid' hb;exact⟨qas q1 hF.size,q2⟩
 ·intro i j b hi hj hbi hbj li lj;have hi:i<nx' :=hi;have hj:j<nx' :=hj
  have low:∀k,k<nx'->(∀i,i<post.length->σ i≠k)->k<s.nx:=by
   intro k hk hno;rcases hfr with⟨h1,h2⟩|⟨h1,h2⟩
   ·rcases qaz k s.nx with h|h
    ·exact h
    ·exact(hno (pre.length+(k-s.nx)) qqo (by rw[σge _ qqo];omega)).elim
   ·omega
  have mixed:∀k b' i',k<s.nx->live s.h k->(∀i,i<post.length->σ i≠k)->(G.loc k=some b'∨G.tloc k=some b')->i' <post.length->(G2.loc i' =some b'∨G2.tloc i' =some b')->False:=by
   intro k b' i' hk hkl hno hb' hi' hb2;have hbl:=(hw.here k b' hk hb').1;rcases(hW.here i' b' hi' hb2).2 with h|⟨j,hj,hbj⟩
   ·omega
   ·rw[hl1 j hj,ht1 j hj]at hbj;exact hno j qqo (hw.inj k (σ j) b' hk (σlo j hj).2 hb' hbj hkl (σlive j hj)).symm
  have lpost:∀i,i<post.length->live (hpNew σ 0 post++s.h) (σ i)->live (hpOf 0 post) i:=by
   intro i hi l;obtain⟨o,ho,hd⟩:=live_of l;rw[hgin i _ (qd hi)]at ho;injection ho with ho;unfold live;rw[ko,qd hi];cases hp:post[i]with
   |dead=>rw[hp]at ho;exact hd ho.symm
   |_=>trivial
  rcases cases_k i with⟨i',hi',rfl⟩|hno<;>rcases cases_k j with⟨j',hj',rfl⟩|hno'
  ·rw[(hin i' hi').1,(hin i' hi').2]at hbi;rw[(hin j' hj').1,(hin j' hj').2]at hbj;rw[hW.inj i' j' b hi' hj' hbi hbj (lpost i' hi' li) (lpost j' hj' lj)]
  ·rw[(hin i' hi').1,(hin i' hi').2]at hbi;rw[(hout j hno').1,(hout j hno').2]at hbj;exact(mixed j b i' (low j hj hno') (live_eq (hgout j hno') lj) hno' hbj hi' hbi).elim
  ·rw[(hin j' hj').1,(hin j' hj').2]at hbj;rw[(hout i hno).1,(hout i hno).2]at hbi;exact(mixed i b j' (low i hi hno) (live_eq (hgout i hno) li) hno hbi hj' hbj).elim
  ·rw[(hout i hno).1,(hout i hno).2]at hbi;rw[(hout j hno').1,(hout j hno').2]at hbj;exact hw.inj i j b (low i hi hno) (low j hj hno') hbi hbj (live_eq (hgout i hno) li) (live_eq (hgout j hno') lj)
 ·intro id ob hg;show id<nx';rcases cases_k id with⟨i,hi,rfl⟩|hno
  ·exact σlt' i hi
  ·have hg' :Hp.get (hpNew σ 0 post++s.h) id=some ob:=hg;rw[hgout id hno]at hg';have:=hw.hid _ _ hg';omega
 ·exact hW.lim
end
end Go.Bv
namespace Go.Bv
open Go.RowKit
section
variable {P:Program} {T:Tk} {G0 G:Gh} {w0 w:World} {N:Nat} {s:St} {a:Act} {h:Hp} {nx:Nat}
def elZ (P:Program) (t:TypeId):Option (List V):=match P.underlying t with
 |some (.slice e)=>zeroV P e
 |_=>none
def zrow (n:Nat):List V->List V
 |[z]=>List.replicate n z
 |zs=>(List.replicate n zs).flatten
theorem koh (n:Nat) (zs:List V) (j:Nat):(zrow n zs)[j]? =if j<n*zs.length then zs[j%zs.length]? else none:=by
 have main:∀n j,((List.replicate n zs).flatten)[j]? =if j<n*zs.length then zs[j%zs.length]? else none:=by
  intro n;induction n with
  |zero=>intro j;simp
  |succ n ih=>
   intro j;rw[qdo,qfe,qdh,qed];split
   ·rename_i hj;rw[qh qqo,Nat.mod_eq_of_lt hj]
   ·rename_i hj;rw[ih];have e:j%zs.length=(j-zs.length)%zs.length:=by rw[Nat.mod_eq_sub_mod qqo]
    rw[e];by_cases h2:j<n*zs.length+zs.length
    ·rw[qh h2,qh qqo]
    ·rw[qe h2,qe qqo]
 unfold zrow;split
 ·rename_i z;rw[List.getElem?_replicate];simp[Nat.mod_one]
 ·exact main n j
theorem kkx (n:Nat) (zs:List V):(zrow n zs).length=n*zs.length:=by
 unfold zrow;split
 ·simp
 ·simp
theorem kop {n:Nat} {zs:List V} {x:V} (hx:x∈zrow n zs):x∈zs:=by
 unfold zrow at hx;split at hx
 ·simp at hx;simp[hx.2]
 ·simp only[List.mem_flatten,List.mem_replicate]at hx;obtain⟨l,⟨_,rfl⟩,h⟩:=hx;exact h
theorem R.make (hR:R T G0 w0 N s a G w) {t:TypeId} {sz bt:Nat} (hrow:rowOf P t=some (sz,bt)) {zs:List V} (hz:elZ P t=some zs) {n c:Nat} {q q' :IntKind} (hnc:n<=c) (hcb:c*bt<=140737488355328) (hcm:c<=maxLen) (k nx' :Nat)
  (hk:(k=s.nx/\nx' =s.nx+1)∨(k<s.nx/\nx' =s.nx/\G.loc k=none/\G.tloc k=none/\s.h.get k=none)):
  ∃v w' G',(Instr.makeSlice t (.int q n) (.int q' c)).run P w= .ok v w'/\R T G0 w0 N ⟨s.sl,(k,.cells (zrow n zs))::s.h,nx'⟩ a G' w'/\RepV G' w' ((k,.cells (zrow n zs))::s.h) nx' v (.row k 0 n sz)/\
   ∀i,i≠k->i<s.nx->G'.loc i=G.loc i/\G'.tloc i=G.tloc i:=by
 obtain⟨e,i,z,hu,hi,hz',hzs,hsz0,hisz,hibt⟩:=k1t hrow;have hze:zeroV P e=some zs:=by unfold elZ at hz;rw[hu]at hz;exact hz
 obtain⟨i2,z2,hi2,hz2,hrep⟩:=k5o (G:=G) (w:=w) (h:=s.h) (nx:=s.nx) hze;rw[hi]at hi2;injection hi2 with hi2;subst hi2;rw[hz']at hz2;injection hz2 with hz2;subst hz2;obtain⟨r1,r2,r3⟩:=hrep;have hzl:zs.length=sz:=by rw[<-r1];simpa using hzs
 let cs:List Value:=(List.range (c*sz)).map fun j=>z.cells[j%z.cells.size]!;have hcsl:cs.length=c*sz:=by simp[cs]
 have hcsg:∀(j:Nat) (v:Value),cs[j]? =some v->z.cells.toList[j%sz]? =some v:=by
  intro j v hv;simp only[cs,ql,qv]at hv;obtain⟨j',hj',rfl⟩:=hv;have:j<c*sz:=by have:=(qf.1 hj').1;simpa using this
  rw[qev this]at hj';injection hj' with hj';subst hj';have hlt:j%sz<z.cells.size:=by rw[hzs];exact Nat.mod_lt _ hsz0
  rw[hzs];simp[getElem!_pos,hlt]
 have hrun:(Instr.makeSlice t (.int q n) (.int q' c)).run P w= .ok (.slice (some ⟨w.heap.size,0,none⟩) n c) (w.alloc (.cells cs.toArray e)):=by
  have hcm' :(c:Int)<=9223372036854775807:=by simp only[maxLen]at hcm;omega
  have w1:IntKind.i64.wrap (n:Int)=n:=IntWalk.i64_in _ ⟨by omega,by omega⟩;have w2:IntKind.i64.wrap (c:Int)=c:=IntWalk.i64_in _ ⟨by omega,by omega⟩
  have hb:((i.bytes:Int)*(c:Int))<=140737488355328:=by
   have:bt*c<=140737488355328:=by rw[qee];exact hcb
   rw[hibt,<-qdi];omega
  have hb' :((i.bytes:Int)*(n:Int))<=140737488355328:=by refine qez ?_ hb;exact qej qqo qqo
  have hroom:¬(c*i.bytes>roomBytes):=by rw[hibt];unfold roomBytes;omega
  have hzr:∀w,(zeroValue e).run P w= .ok z w:=fun w=>by simp[zeroValue,typeInfo,hi,hz']
  have t1:(decide ((c:Int)<0)||decide ((i.bytes:Int)*(c:Int)>2^48))=false:=by simp;omega
  simp only[Instr.makeSlice,qp,qz hu,qi,asInt,asIntOf,qw,typeInfo,run_program,hi,w1,w2,qr];rw[qe (by rw[t1];simp;omega)];simp only[askRoom,qe hroom,qp,qw,qi,sizeOf,typeInfo,run_program,hi,hisz];by_cases h0:c*sz=0
  ·have hcs0:cs=[]:=qac qqo;rw[qh h0];simp only[qw,qi,Go.newRow,Go.newObj,qp,Sem.run,h0,hcs0];rw[show(Array.map (fun x=>(#[]:Array Value)[x%(#[]:Array Value).size]!) (Array.range 0))= #[]from by simp];rfl
  ·rw[qe h0];simp only[qp,hzr,qi,qw,Go.newRow,Go.newObj,Sem.run];have earr:(Array.range (c*sz)).map (fun j=>z.cells[j%z.cells.size]!)=cs.toArray:=by apply qct;simp[cs]
   rw[earr];rfl
 have hw:=hR.wr;let G' :Gh:=⟨fun i=>if i=k then some w.heap.size else G.loc i,fun i=>if i=k then none else G.tloc i,G.lim⟩;have hll:∀i,i≠k->G'.loc i=G.loc i/\G'.tloc i=G.tloc i:=fun i hi=>by simp[G',hi]
 have hge:∀i,i≠k->Hp.get ((k,.cells (zrow n zs))::s.h) i=s.h.get i:=fun i hi=>by simp[Hp.get,hi]
 have hknx:k<nx' :=by rcases hk with h|h<;>omega
 have hnn:s.nx<=nx' :=by rcases hk with h|h<;>omega
 have he:Ext G w s.h s.nx G' (w.alloc (.cells cs.toArray e)) ((k,.cells (zrow n zs))::s.h) nx' :=by
  refine⟨k2z hw.lim _ (fun _ _=>rfl),hnn,fun id b hi hb=> ?_,fun tok t' ht h1=> ?_,fun b n hb=>by rw[k3h (Below.heap_alloc w _ b (csz_lt hb))];exact hb⟩
  ·by_cases hik:id=k
   ·subst hik;rcases hk with⟨h1,_⟩|⟨_,_,h1,_⟩
    ·omega
    ·rw[h1]at hb;cases hb
   ·rw[(hll id hik).1];exact hb
  ·by_cases hik:tok=k
   ·subst hik;simp[Hp.get]at h1
   ·rw[hge tok hik]at h1;refine⟨t',h1,qt _,fun _ b hb=> ?_⟩;have:=(hw.here tok b ht (.inr hb)).1;exact⟨by rw[(hll tok hik).2];exact hb,Below.heap_alloc w _ b qqo,rfl⟩
 have key:∀i b,i<nx'->(G'.loc i=some b∨G'.tloc i=some b)->(i=k/\b=w.heap.size)∨(i<s.nx/\b<w.heap.size/\i≠k/\(G.loc i=some b∨G.tloc i=some b)):=by
  intro i b hi hb;by_cases h0:i=k
  ·subst h0;simp[G']at hb;exact .inl ⟨rfl,hb.symm⟩
  ·rw[(hll i h0).1,(hll i h0).2]at hb;have hi' :i<s.nx:=by rcases hk with h|h<;>omega
   exact .inr ⟨hi',(hw.here i b hi' hb).1,h0,hb⟩
 refine⟨_,_,G',hrun,⟨hR.fr.alloc hw.lim _ G' (fun _ _=>rfl),⟨?_,k5k hw _ he (fun id es hg=>by simp only[Hp.get]at hg;split at hg;(· cases hg);exact hg),?_,?_,?_,?_⟩,hR.df,hR.sz,fun t=>(hR.sl t).ext he,hR.ex.ext he⟩,?_,fun i hi _=>hll i hi⟩
 ·intro id l' hl';simp only[Hp.get]at hl';split at hl'
  ·rename_i hid;subst hid;injection hl' with hl';injection hl' with hl';subst hl';refine .inr ⟨w.heap.size,e,cs,by simp[G'],qcw w _,hw.lim _ (qt _),?_,fun x hx=>r2 x (kop hx),fun j v x hv hx=> ?_⟩
   ·rw[kkx,hcsl,hzl];exact qbc _ hnc
   ·rw[koh]at hx;split at hx
    ·rw[hzl]at hx;exact(r3 (j%sz) v x (hcsg j v hv) hx).ext he
    ·cases hx
  ·rename_i hne;rcases hw.obj id l' hl' with⟨z1,z2⟩|⟨b,e',cs',h1,h2,h3,h4,h5,h6⟩
   ·exact .inl ⟨z1,by rw[(hll id hne).1];exact z2⟩
   have hid:=hw.hid id _ hl';have hb:=(hw.here id b hid (.inl h1)).1;exact .inr ⟨b,e',cs',by rw[(hll id hne).1];exact h1,by rw[Below.heap_alloc w _ b hb];exact h2,h3,h4,h5,fun j v x hv hx=>(h6 j v x hv hx).ext he⟩
 ·intro id b hid hb;have hs:=hR.fr.size;rcases key id b hid hb with⟨h1,h2⟩|⟨h1,h2,_,h3⟩
  ·subst h2;exact⟨by simp,.inl hs⟩
  ·exact⟨by simp;omega,(hw.here id b h1 h3).2⟩
 ·intro i j b hi hj hbi hbj li lj;rcases key i b hi hbi with⟨h1,h2⟩|⟨h1,h2,n1,h3⟩<;>rcases key j b hj hbj with⟨h4,h5⟩|⟨h4,h5,n2,h6⟩
  ·omega
  ·omega
  ·omega
  ·exact hw.inj i j b h1 h4 h3 h6 (kjf n1 li) (kjf n2 lj)
 ·intro id ob hg;show id<nx';simp only[Hp.get]at hg;split at hg
  ·rename_i h;subst h;exact hknx
  ·have:=hw.hid id ob hg;omega
 ·intro b hb;exact hw.lim b (by simp at hb;omega)
 ·refine .row k 0 n sz w.heap.size 0 c (c*sz) hknx (by simp[G']) (fun _=>rfl) hnc hcm ?_ qqo;rw[csz_of (qcw w _)];simp[hcsl]
theorem R.freezeN (hR:R T G0 w0 N s a G w) {id n sz:Nat} {l:List D} (hg:s.h.get id=some (.cells ((l.flatMap D.cells).map .d))) (z1:(l.flatMap D.cells).map V.d=[]) (z2:G.loc id=none)
  (hn:l.length=n) (hsz:∀d∈l,d.cells.length=sz/\∀c∈d.cells,c.one=true):
  ∃G',R T G0 w0 N ⟨s.sl,(s.nx,.tip n)::(id,.dead)::s.h,s.nx+1⟩ a G' w/\Ext G w s.h s.nx G' w ((s.nx,.tip n)::(id,.dead)::s.h) (s.nx+1)/\
   ∀v,RepV G' w ((s.nx,.tip n)::(id,.dead)::s.h) (s.nx+1) v (.row id 0 n sz)->RepV G' w ((s.nx,.tip n)::(id,.dead)::s.h) (s.nx+1) v (.own s.nx sz l):=by
 have hw:=hR.wr;have hid:id<s.nx:=hw.hid _ _ hg;have hlv:=kh hg;let G' :Gh:=⟨fun i=>if i=s.nx then none else G.loc i,fun i=>if i=s.nx then none else G.tloc i,G.lim⟩;have hlo:∀i,i≠s.nx->G'.loc i=G.loc i/\G'.tloc i=G.tloc i:=fun i hi=>by simp[G',hi]
 have hget:∀i,i≠s.nx->i≠id->Hp.get ((s.nx,.tip n)::(id,.dead)::s.h) i=s.h.get i:=fun i k1 k2=>by simp[Hp.get,k1,k2]
 have hgid:Hp.get ((s.nx,.tip n)::(id,.dead)::s.h) id=some .dead:=by simp[Hp.get,show id≠s.nx by omega]
 have old:∀i o,i<s.nx->o≠Ob.dead->Hp.get ((s.nx,.tip n)::(id,.dead)::s.h) i=some o->i≠id/\s.h.get i=some o:=by
  intro i o hi ho hgo;have:i≠id:=by rintro rfl;rw[hgid]at hgo;injection hgo with hgo;exact ho hgo.symm
  exact⟨this,by rw[hget i qqo this]at hgo;exact hgo⟩
 have olive:∀i,i<s.nx->live ((s.nx,.tip n)::(id,.dead)::s.h) i->i≠id/\live s.h i:=by intro i hi l;obtain⟨o,ho,hd⟩:=live_of l;obtain⟨k2,k3⟩:=old i o hi hd ho;exact⟨k2,live_eq (hget i qqo k2) l⟩
 have he:Ext G w s.h s.nx G' w ((s.nx,.tip n)::(id,.dead)::s.h) (s.nx+1):=by refine⟨Mono.refl _ _,by omega,fun i b' hi hb=>by rw[(hlo i qqo).1];exact hb,fun tok t' ht k1=> ?_,fun _ _ h=>h⟩;obtain⟨k2,k3⟩:=old tok _ ht qqs k1;exact⟨t',k3,qt _,fun _ b' hb=>⟨by rw[(hlo tok qqo).2];exact hb,rfl,rfl⟩⟩
 refine⟨G',⟨⟨hR.fr.os,hR.fr.tape,hR.fr.output,hR.fr.size,hR.fr.same,hR.fr.mono⟩,⟨?_,hw.mob.ext he (fun i es hgo=> ?_) hw.hid (fun _ _ _ _ _=>rfl),?_,?_,?_,hw.lim⟩,hR.df,hR.sz,fun t=>(hR.sl t).ext he,hR.ex.ext he⟩,he,?_⟩
 ·intro i l' hgo;have hi:i≠s.nx:=by rintro rfl;simp[Hp.get]at hgo
  have hi' :i<s.nx:=by
   have hgo' :=hgo;simp only[Hp.get,qe hi]at hgo';split at hgo'
   ·cases hgo'
   ·exact hw.hid _ _ hgo'
  obtain⟨k2,k3⟩:=old i _ hi' qqs hgo;rcases hw.obj i l' k3 with⟨z1,z2⟩|⟨b',e',cs',q1,q2,q3,q4,q5,q6⟩
  ·exact .inl ⟨z1,by rw[(hlo i hi).1];exact z2⟩
  exact .inr ⟨b',e',cs',by rw[(hlo i hi).1];exact q1,q2,q3,q4,q5,fun j v x hv hx=>(q6 j v x hv hx).ext he⟩
 ·have hi:i≠s.nx:=by rintro rfl;simp[Hp.get]at hgo
  simp only[Hp.get,qe hi]at hgo;split at hgo
  ·cases hgo
  ·exact hgo
 ·intro i b' hi hb;have hi:i<s.nx+1:=hi;by_cases hin:i=s.nx
  ·subst hin;simp[G']at hb
  ·rw[(hlo i hin).1,(hlo i hin).2]at hb;exact hw.here i b' qqo hb
 ·intro i j b' hi hj hbi hbj li lj;have hi:i<s.nx+1:=hi;have hj:j<s.nx+1:=hj;by_cases hin:i=s.nx
  ·subst hin;simp[G']at hbi
  by_cases hjn:j=s.nx
  ·subst hjn;simp[G']at hbj
  rw[(hlo j hjn).1,(hlo j hjn).2]at hbj;rw[(hlo i hin).1,(hlo i hin).2]at hbi;exact hw.inj i j b' qqo qqo hbi hbj (olive i qqo li).2 (olive j qqo lj).2
 ·intro i ob hgo;show i<s.nx+1;simp only[Hp.get]at hgo;split at hgo
  ·omega
  ·split at hgo
   ·omega
   ·have:=hw.hid _ _ hgo;omega
 ·intro v hv;cases hv with
  |rown _ _ _ _ _=>have hl0:l=[]:=qac hn;subst hl0;exact .own _ _ _ _ (.nil _ sz) qqo fun t ht=>⟨by simp,fun _=> .inl rfl⟩
  |row _ _ _ _ b2 o cap m hid2 hl2 ho hc hmx hcz hs=>rw[(hlo id qqo).1,z2]at hl2;cases hl2
theorem R.freeze (hR:R T G0 w0 N s a G w) {id n sz:Nat} {l:List D} (hg:s.h.get id=some (.cells ((l.flatMap D.cells).map .d))) (hsz:∀d∈l,d.cells.length=sz/\∀c∈d.cells,c.one=true) (hn:l.length=n):
  ∃G',R T G0 w0 N ⟨s.sl,(s.nx,.tip n)::(id,.dead)::s.h,s.nx+1⟩ a G' w/\Ext G w s.h s.nx G' w ((s.nx,.tip n)::(id,.dead)::s.h) (s.nx+1)/\
   ∀v,RepV G' w ((s.nx,.tip n)::(id,.dead)::s.h) (s.nx+1) v (.row id 0 n sz)->RepV G' w ((s.nx,.tip n)::(id,.dead)::s.h) (s.nx+1) v (.own s.nx sz l):=by
 have hw:=hR.wr;have hid:id<s.nx:=hw.hid _ _ hg;have hlv:=kh hg;rcases hw.obj id _ hg with⟨z1,z2⟩|⟨b,e,cs,h1,h2,h3,h4,h5,h6⟩
 ·exact hR.freezeN hg z1 z2 hn (hsz:=hsz)
 have hfl:=ki hsz;have hbs:=(hw.here id b hid (.inl h1));let G' :Gh:=⟨fun i=>if i=s.nx then none else G.loc i,fun i=>if i=s.nx then some b else G.tloc i,fun b' =>if b' =b then n*sz else G.lim b'⟩;have hlo:∀i,i≠s.nx->G'.loc i=G.loc i/\G'.tloc i=G.tloc i:=fun i hi=>by simp[G',hi]
 have hm:∀b',b'≠b->G'.lim b' =G.lim b' :=fun b' hb=>by simp[G',hb]
 have hmono:Mono G.lim w G'.lim w:=by
  intro b' o v k1 k2;have:b'≠b:=by rintro rfl;omega
  exact⟨by rw[hm b' this];exact k1,k2⟩
 have hget:∀i,i≠s.nx->i≠id->Hp.get ((s.nx,.tip n)::(id,.dead)::s.h) i=s.h.get i:=fun i k1 k2=>by simp[Hp.get,k1,k2]
 have hgid:Hp.get ((s.nx,.tip n)::(id,.dead)::s.h) id=some .dead:=by simp[Hp.get,show id≠s.nx by omega]
 have old:∀i o,i<s.nx->o≠Ob.dead->Hp.get ((s.nx,.tip n)::(id,.dead)::s.h) i=some o->i≠id/\s.h.get i=some o:=by
  intro i o hi ho hgo;have:i≠id:=by rintro rfl;rw[hgid]at hgo;injection hgo with hgo;exact ho hgo.symm
  exact⟨this,by rw[hget i qqo this]at hgo;exact hgo⟩
 have apart:∀i b',i<s.nx->i≠id->live s.h i->(G.loc i=some b'∨G.tloc i=some b')->b'≠b:=by rintro i b' hi hne hl hb rfl;exact hne (hw.inj i id b' hi hid hb (.inl h1) hl hlv)
 have he:Ext G w s.h s.nx G' w ((s.nx,.tip n)::(id,.dead)::s.h) (s.nx+1):=by refine⟨hmono,by omega,fun i b' hi hb=>by rw[(hlo i qqo).1];exact hb,fun tok t' ht k1=> ?_,fun _ _ h=>h⟩;obtain⟨k2,k3⟩:=old tok _ ht qqs k1;refine⟨t',k3,qt _,fun _ b' hb=>⟨by rw[(hlo tok qqo).2];exact hb,rfl,?_⟩⟩;exact hm b' (apart tok b' ht k2 (k1b k3) (.inr hb))
 refine⟨G',⟨⟨hR.fr.os,hR.fr.tape,hR.fr.output,hR.fr.size,fun b' hb hT=> ?_,hR.fr.mono.trans hmono⟩,⟨?_,hw.mob.ext he (fun i es hgo=> ?_) hw.hid (fun _ _ _ _ _=>rfl),?_,?_,?_,?_⟩,hR.df,hR.sz,fun t=>(hR.sl t).ext he,hR.ex.ext he⟩,he,?_⟩
 ·obtain⟨q1,q2⟩:=hR.fr.same b' hb hT
  have:b'≠b:=by
   rintro rfl;rcases hbs.2 with h|h
   ·omega
   ·exact hT h
  exact⟨q1,by rw[hm b' this];exact q2⟩
 ·intro i l' hgo;have hi:i≠s.nx:=by rintro rfl;simp[Hp.get]at hgo
  have hi' :i<s.nx:=by
   have hgo' :=hgo;simp only[Hp.get,qe hi]at hgo';split at hgo'
   ·cases hgo'
   ·exact hw.hid _ _ hgo'
  obtain⟨k2,k3⟩:=old i _ hi' qqs hgo;rcases hw.obj i l' k3 with⟨z1,z2⟩|⟨b',e',cs',q1,q2,q3,q4,q5,q6⟩
  ·exact .inl ⟨z1,by rw[(hlo i hi).1];exact z2⟩
  exact .inr ⟨b',e',cs',by rw[(hlo i hi).1];exact q1,q2,by rw[hm b' (apart i b' hi' k2 (kh k3) (.inl q1))];exact q3,q4,q5,fun j v x hv hx=>(q6 j v x hv hx).ext he⟩
 ·have hi:i≠s.nx:=by rintro rfl;simp[Hp.get]at hgo
  simp only[Hp.get,qe hi]at hgo;split at hgo
  ·cases hgo
  ·exact hgo
 ·intro i b' hi hb;have hi:i<s.nx+1:=hi;by_cases hin:i=s.nx
  ·subst hin;simp[G']at hb;subst hb;exact hbs
  ·rw[(hlo i hin).1,(hlo i hin).2]at hb;exact hw.here i b' qqo hb
 ·intro i j b' hi hj hbi hbj li lj;have hi:i<s.nx+1:=hi;have hj:j<s.nx+1:=hj;have olive:∀i,i<s.nx->live ((s.nx,.tip n)::(id,.dead)::s.h) i->i≠id/\live s.h i:=by intro i hi l;obtain⟨o,ho,hd⟩:=live_of l;obtain⟨k2,k3⟩:=old i o hi hd ho;exact⟨k2,live_eq (hget i qqo k2) l⟩
  by_cases hin:i=s.nx<;>by_cases hjn:j=s.nx
  ·omega
  ·subst hin;simp[G']at hbi;rw[(hlo j hjn).1,(hlo j hjn).2]at hbj;obtain⟨q1,q2⟩:=olive j qqo lj;exact(apart j b' qqo q1 q2 hbj hbi.symm).elim
  ·subst hjn;simp[G']at hbj;rw[(hlo i hin).1,(hlo i hin).2]at hbi;obtain⟨q1,q2⟩:=olive i qqo li;exact(apart i b' qqo q1 q2 hbi hbj.symm).elim
  ·rw[(hlo j hjn).1,(hlo j hjn).2]at hbj;rw[(hlo i hin).1,(hlo i hin).2]at hbi;exact hw.inj i j b' qqo qqo hbi hbj (olive i qqo li).2 (olive j qqo lj).2
 ·intro i ob hgo;show i<s.nx+1;simp only[Hp.get]at hgo;split at hgo
  ·omega
  ·split at hgo
   ·omega
   ·have:=hw.hid _ _ hgo;omega
 ·intro b' hb;have:b'≠b:=by omega
  rw[hm b' this];exact hw.lim b' hb
 ·intro v hv;cases hv with
  |rown _ _ _ _ _=>have hl0:l=[]:=qac hn;subst hl0;exact .own _ _ _ _ (.nil _ sz) qqo fun t ht=>⟨by simp,fun _=> .inl rfl⟩
  |row _ _ _ _ b2 o cap m hid2 hl2 ho hc hmx hcz hs=>
  obtain rfl:b2=b:=by rw[(hlo id qqo).1,h1]at hl2;injection hl2 with hl2;exact hl2.symm
  rw[csz_of h2]at hcz;injection hcz with hcz;have hcl:(l.flatMap D.cells).length=n*sz:=by rw[hfl,hn]
  rw[qm,hcl]at h4
  have hrepd:RepD G'.lim w (.slice (some ⟨b2,o,none⟩) l.length cap) (.slice sz l):=by
   refine .slice b2 o cap sz l (cs.take (n*sz)) qqo hmx hsz (by rw[qo,hcl];omega) (fun j u hu=> ?_) (fun j u c hu hc' => ?_)
   ·rw[qau]at hu;split at hu
    ·rename_i hj
     have hcap:cap≠0:=by
      rintro rfl;have:n=0:=by omega
      subst this;omega
     rw[ho hcap,qaj];refine⟨by simp[G'];omega,?_⟩;rw[cell_of_row w b2 j cs.toArray e _ h2];simpa using hu
    ·cases hu
   ·rw[qau]at hu;split at hu
    ·have:=h6 j u (.d c) hu (by rw[ql,hc'];rfl);cases this with|d _ _ hd=>exact hd.mono hmono
    ·cases hu
  rw[hn]at hrepd;refine .own _ _ _ _ hrepd qqo fun t' ht' => ?_;simp only[Hp.get,qce,qah,Ob.tip.injEq]at ht';refine⟨by omega,fun _=> ?_⟩;rw[hn];by_cases hcap:cap=n
  ·exact .inl hcap
  ·refine .inr ⟨b2,o,cs.toArray,e,rfl,by simp[G'],h2,?_,?_⟩
   ·simp only[G',qce];rw[ho qqo];omega
   ·rw[hcz,ho qqo];exact hs
theorem R.copy (hR:R T G0 w0 N s a G w) {t t' ty:TypeId} {sz bt:Nat} (hrow:rowOf P t=some (sz,bt)) {id off len:Nat} {y:V} {vx vy:Value} (hx:RepV G w s.h s.nx vx (.row id off len sz)) (hy:RepV G w s.h s.nx vy y)
  {l2:List D} (hl2:y.els sz=some l2) {l:List V} (hg:s.h.get id=some (.cells l)) (hfit:off+len*sz<=l.length):
  ∃w',(Builtin.copy_ #[t,t'] ty #[vx,vy]).run P w= .ok (goInt (min l2.length len:Nat)) w'/\R T G0 w0 N ⟨s.sl,(id,.cells (setAt l off (((l2.take (min l2.length len)).flatMap D.cells).map .d)))::s.h,s.nx⟩ a G w' :=by
 obtain⟨e,i,z,hu,hi,hz',hzs,hsz0,hisz,hibt⟩:=k1t hrow;have hd2:=els_rep hl2 hy;obtain⟨A2,cap2,vs2,hvy,hcap2,hmax2,hsz2,hlen2,hno2,hc2,hr2⟩:=hd2.flat;have hv2:vs2.length=l2.length*sz:=by rw[hlen2,ki hsz2]
 generalize hn:min l2.length len=n;have hnl:n<=l2.length:=by omega
 have hnn:n<=len:=by omega
 have hns:n*sz<=l2.length*sz:=qbc _ hnl;have hns' :n*sz<=len*sz:=qbc _ hnn;have hflat:(l2.take n).flatMap D.cells=(l2.flatMap D.cells).take (n*sz):=k56 hsz2 n
 have hf:(Builtin.firstCells i.size n vy).run P w= .ok (vs2.take (n*sz)).toArray w:=by
  rw[hisz];subst hvy;cases A2 with
  |none=>
   obtain⟨rfl,_⟩:=hno2 rfl;have:n=0:=by simpa using hnl
   subst this;simp[Builtin.firstCells]
  |some ad=>
   rcases hc2 ad rfl with⟨_,hz⟩|⟨b2,off2,rfl,h2⟩
   ·have hn0:n=0:=by rw[hz]at hnl;simpa using hnl
    rw[hn0];simpa using qdq (P:=P) w sz 0 ad l2.length cap2 [] qqs (fun j u hu=>by simp at hu)
   refine qdq w sz n ⟨b2,off2,none⟩ l2.length cap2 (vs2.take (n*sz)) (by rw[qo,hv2];omega) (fun j u hu=> ?_);rw[qau]at hu;split at hu
   ·rw[add_mk];exact(h2 j u hu).2
   ·cases hu
 have hone2:=k7w hlen2 hr2;cases hx with
 |rown A=>
  have hn0:n=0:=by omega
  subst hn0;refine⟨w,?_,?_⟩
  ·subst hvy;have hmn:Nat.min l2.length 0=0:=hn;have hf0:(Builtin.firstCells i.size 0 (.slice A2 l2.length cap2)).run P w= .ok #[] w:=by simpa using hf
   simp only[Builtin.copy_,qp,qz hu,qi,Builtin.lenOf,qw,sizeOf,typeInfo,run_program,hi,hmn,hf0,qek,qdn,qao];cases A<;>simp[storeCells]
  ·have e0:setAt l off (((l2.take 0).flatMap D.cells).map .d)=l:=by simp[setAt]
   rw[e0];exact hR.same' hg
 |row _ _ _ _ b o cap m hid hl ho hc hmx hcz hs=>
 have main:∀o',(n≠0->o' =off)->∃w',(storeCells ⟨b,o',none⟩ (vs2.take (n*sz))).run P w= .ok () w'/\R T G0 w0 N ⟨s.sl,(id,.cells (setAt l off (((l2.take n).flatMap D.cells).map .d)))::s.h,s.nx⟩ a G w' :=by
  intro o' ho';by_cases hn0:n=0
  ·subst hn0;refine⟨w,by simp[storeCells],?_⟩;have e0:setAt l off (((l2.take 0).flatMap D.cells).map .d)=l:=by simp[setAt]
   rw[e0];exact hR.same' hg
  ·rw[ho' hn0];refine hR.storeAt (P:=P) (off:=off) hg hl ?_ (fun u hu=>hone2 u (qat hu)) (fun j u c hu hc' => ?_) (fun c hc' => ?_) ?_
   ·rw[qm,hflat,qo,qo,hlen2]
   ·rw[ql,hflat,qv]at hc';obtain⟨d,hd,rfl⟩:=hc';rw[qau]at hu hd;split at hu
    ·rename_i hj;rw[qh hj]at hd;exact .d _ _ (hr2 j u d hu hd)
    ·cases hu
   ·obtain⟨d,hd,rfl⟩:=qag.1 hc';obtain⟨x,hx,hdx⟩:=qdr.1 hd;exact(hsz2 x (qat hx)).2 d hdx
   ·rw[qm,hflat,qo,<-hlen2,hv2];omega
 obtain⟨w',hrun,hR'⟩:=main o (fun h=>ho qqo);refine⟨w',?_,hR'⟩;subst hvy;have hmn:Nat.min l2.length len=n:=hn;simp only[Builtin.copy_,qp,qz hu,qi,Builtin.lenOf,qw,sizeOf,typeInfo,run_program,hi,hmn,hf,qek,qdn,qao];simp[hrun]
end
end Go.Bv
end
