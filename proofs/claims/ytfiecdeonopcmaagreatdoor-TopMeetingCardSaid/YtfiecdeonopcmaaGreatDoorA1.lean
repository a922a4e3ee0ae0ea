/- Parts of the proofs, merged by a program. -/
import Derived.Test.YtfiecdeonopcmaaGreatDoorProg
import Derived.WalkKit
import Derived.KernelRfl
import Derived.Laws.StructEq
import Derived.Laws.BytesArg
import Derived.MapKept
import Derived.Carry
import Derived.Maps.RangeRun
import Derived.Still
import Derived.IntWalk
import Derived.Laws.Externs
import Derived.Deep.Slices
import Derived.OpenShut
import Derived.ProofKit
import Derived.SizedLaws
import Derived.Sort.AssemblyPlain
import Derived.LaidMore
import Derived.LaidOnce
import Derived.SevenTiedAt
set_option maxRecDepth 100000
set_option linter.all false
noncomputable section
namespace Go
abbrev qc:=@of_decide_eq_true
abbrev qd:=@of_decide_eq_false
abbrev qe:=@if_neg
abbrev qf:=@List.getElem?_eq_getElem
abbrev qg:=@if_pos
abbrev qh:=@Bool.and_eq_true
abbrev qi:=@List.length_append
abbrev qj:=@Result.andThen_ok
abbrev ql:=@List.take_of_length_le
abbrev qm:=@Int.eq_ofNat_of_zero_le
abbrev qn:=@List.append_assoc
abbrev qo:=@True.intro
abbrev qp:=@List.length_map
abbrev qq:=@List.getElem?_eq_some_iff
abbrev qr:=@List.getElem?_map
abbrev qt:=@List.take_succ_eq_append_getElem
abbrev qu:=@List.length_take
abbrev qv:=@Int.toNat_natCast
abbrev qw:=@Sem.run_bind
abbrev qx:=@List.length_cons
abbrev qy:=@decide_eq_true_eq
abbrev qz:=@List.getElem_mem
abbrev qaa:=@And.intro
abbrev qab:=@List.length_set
abbrev qac:=@Option.map_eq_some_iff
abbrev qad:=@Classical.byContradiction
abbrev qae:=@List.mem_append
abbrev qaf:=@Nat.le_refl
abbrev qag:=@Sem.run_pure
abbrev qah:=@List.mem_singleton
abbrev qai:=@Option.isSome_iff_exists
abbrev qaj:=@List.map_cons
abbrev qak:=@List.mem_cons
abbrev qal:=@List.length_drop
abbrev qam:=@run_underlying
abbrev qan:=@List.length_nil
abbrev qao:=@decide_eq_true
abbrev qap:=@List.mem_map
abbrev qaq:=@Option.some.injEq
abbrev qar:=@List.map_congr_left
abbrev qas:=@List.drop_eq_nil_of_le
abbrev qat:=@decide_eq_false
abbrev qau:=@Nat.lt_of_lt_of_le
abbrev qav:=@Nat.zero_add
abbrev qaw:=@Nat.lt_or_ge
abbrev qax:=@List.eq_nil_of_length_eq_zero
abbrev qay:=@List.getElem?_append_left
abbrev qba:=@List.mem_of_mem_take
abbrev qbb:=@List.drop_eq_getElem_cons
abbrev qbc:=@List.getElem?_cons_succ
abbrev qbd:=@Nat.le_trans
abbrev qbe:=@List.flatMap_cons
abbrev qbf:=@Nat.zero_le
abbrev qbg:=@List.getElem?_drop
abbrev qbh:=@Nat.mul_le_mul_right
abbrev qbi:=@List.take_append_drop
abbrev qbj:=@List.map_append
abbrev qbk:=@List.getElem?_take
abbrev qbl:=@Bool.not_eq_true'
abbrev qbm:=@List.mem_of_getElem?
abbrev qbn:=@Option.map_some
abbrev qbo:=@Bool.false_eq_true
abbrev qbp:=@List.flatMap_append
abbrev qbq:=@List.all_eq_true
abbrev qbr:=@List.map_map
abbrev qbs:=@List.length_singleton
abbrev qbt:=@Option.getD_some
abbrev qbu:=@Int.emod_lt_of_pos
abbrev qbw:=@List.getElem?_append_right
abbrev qby:=@List.getElem_of_mem
abbrev qca:=@Nat.add_mul
abbrev qcb:=@List.take_length
abbrev qcc:=@cond_false
abbrev qcd:=@List.nil_append
abbrev qce:=@Int.emod_nonneg
abbrev qcf:=@Nat.min_eq_left
abbrev qcg:=@Nat.two_pow_pos
abbrev qch:=@List.length_eq_zero_iff
abbrev qci:=@List.nodup_append
abbrev qcj:=@if_true
abbrev qck:=@List.mem_of_mem_drop
abbrev qcl:=@List.getElem?_of_mem
abbrev qcm:=@List.append_nil
abbrev qcn:=@List.nodup_cons
abbrev qco:=@Array.eq_empty_of_size_eq_zero
abbrev qcp:=@Int.pow_succ
abbrev qcq:=@Int.le_of_lt
abbrev qcr:=@Bool.or_eq_true
abbrev qcs:=@Int.ediv_ediv_of_nonneg
abbrev qct:=@List.map_toArray
abbrev qcu:=@Nat.pow_le_pow_right
abbrev qcv:=@List.not_mem_nil
abbrev qcw:=@Nat.one_mul
abbrev qcx:=@Int.mul_nonneg
abbrev qcy:=@List.all_eq_false
abbrev qcz:=@Nat.add_zero
abbrev qda:=@List.map_nil
abbrev qdb:=@Int.mul_emod
abbrev qdc:=@List.map_take
abbrev qdd:=@List.map_drop
abbrev qde:=@Bool.or_eq_false_iff
abbrev qdf:=@List.drop_drop
abbrev qdg:=@List.ext_getElem?
abbrev qdh:=@List.length_pos_iff
abbrev qdi:=@Int.lt_of_mul_lt_mul_right
abbrev qdj:=@heap_alloc_new
abbrev qdk:=@Nat.le_succ
abbrev qdl:=@Int.le_refl
abbrev qdm:=@Int.natCast_mul
abbrev qdn:=@Array.toArray_toList
abbrev qdo:=@Int.emod_emod_of_dvd
abbrev qdp:=@List.size_toArray
abbrev qdq:=@Int.emod_eq_of_lt
abbrev qdr:=@cond_true
abbrev qds:=@List.getElem?_cons_zero
abbrev qdt:=@Array.length_toList
abbrev qdu:=@List.takeWhile_cons
abbrev qdv:=@List.mem_flatMap
abbrev qdw:=@Nat.le_add_right
abbrev qdx:=@Int.mul_le_mul
abbrev qdy:=@Array.ext'
abbrev qdz:=@Nat.eq_of_beq_eq_true
abbrev qea:=@Nat.le_of_ble_eq_true
abbrev qeb:=@Int.emod_add_mul_ediv
abbrev qec:=@Int.ediv_nonneg
abbrev qed:=@Nat.add_assoc
abbrev qee:=@if_false
abbrev qef:=@List.getElem?_set
abbrev qeg:=@List.set_eq_take_append_cons_drop
abbrev qeh:=@Nat.mul_comm
abbrev qei:=@Int.mul_comm
abbrev qej:=@Int.mul_le_mul_of_nonneg_left
abbrev qek:=@Nat.succ_mul
abbrev qel:=@Option.bind_some
abbrev qem:=@List.mem_cons_of_mem
abbrev qen:=@List.all_cons
abbrev qeo:=@List.getD_eq_getElem?_getD
abbrev qep:=@List.replicate_succ
abbrev qeq:=@List.filter_eq_self
abbrev qer:=@run_firstCells_some
abbrev qes:=@Int.le_trans
abbrev qet:=@List.find?_eq_none
abbrev qeu:=@List.mem_of_mem_eraseIdx
abbrev qev:=@List.mem_cons_self
abbrev qew:=@Int.dvd_refl
abbrev qex:=@List.nodup_nil
abbrev qey:=@Nat.le_mul_of_pos_right
abbrev qez:=@List.filter_eq_nil_iff
abbrev qfa:=@Bool.false_or
abbrev qfb:=@List.take_append
abbrev qfc:=@Nat.div_eq_of_lt
abbrev qfd:=@List.getElem?_toArray
abbrev qfe:=@List.getElem?_eq_none
abbrev qff:=@Nat.div_lt_iff_lt_mul
abbrev qfg:=@List.mem_append_right
abbrev qfh:=@Int.ediv_lt_of_lt_mul
abbrev qfi:=@Bool.and_eq_false_iff
abbrev qfj:=@Nat.le_of_eq
abbrev qfk:=@List.getElem?_append
abbrev qfl:=@List.foldl_cons
abbrev qfm:=@List.mapM_cons
abbrev qfn:=@Array.getD_eq_getD_getElem?
abbrev qfo:=@Prod.mk.injEq
abbrev qfp:=@List.flatten_cons
abbrev qfq:=@List.pairwise_iff_getElem
abbrev qfr:=@List.drop_length
abbrev qfs:=@List.take_left'
end Go
namespace Go
theorem qqo{p:Prop}(h:p:=by omega):p:=h
theorem qqk{p:Prop}(h:p:=by kernel_rfl):p:=h
theorem qqs{p:Prop}(h:p:=by simp):p:=h
theorem qqd{p:Prop}(h:p:=by decide):p:=h
theorem qqt{p:Prop}(h:p:=by trivial):p:=h
theorem qqr{p:Prop}(h:p:=by repeat' first|apply And.intro|exact rfl|exact True.intro):p:=h
theorem qqm{p:Prop}(h:p:=by simp;omega):p:=h
theorem qqh{p:Prop}(h:p:=by simpa using h):p:=h
end Go
namespace Go
abbrev Lb:=List ByteArray
abbrev Li:=List Int
abbrev Lo:=List Bool
abbrev Ln:=List Nat
abbrev On:=Option Nat
end Go
namespace Go
abbrev lz{α:Type}(l:List α):Prop:=l.length=l.length
end Go
set_option maxRecDepth 100000
set_option linter.all false
noncomputable section
namespace Go.Bv
open Go.RowKit
def iand(k:IntKind)(a b:Int):Int:=k.wrap (BitVec.ofInt k.bits a&&&BitVec.ofInt k.bits b).toNat
def ior(k:IntKind)(a b:Int):Int:=k.wrap (BitVec.ofInt k.bits a|||BitVec.ofInt k.bits b).toNat
def ixor(k:IntKind)(a b:Int):Int:=k.wrap (BitVec.ofInt k.bits a^^^BitVec.ofInt k.bits b).toNat
def ianot(k:IntKind)(a b:Int):Int:=k.wrap (BitVec.ofInt k.bits a&&&~~~BitVec.ofInt k.bits b).toNat
def ishl(k:IntKind)(a b:Int):Int:=k.wrap (a*2^min b.toNat k.bits)
def ishr(k:IntKind)(a b:Int):Int:=a.fdiv (2^min b.toNat k.bits)
inductive D where|int(k:IntKind)(n:Int)|bool(b:Bool)|str(s:ByteArray)|slice(sz:Nat)(l:List D)|agg(l:List D)
def D.cells:D->List D
 |.agg l=>l|d=>[d]
def D.one:D->Bool
 |.agg _=>false|_=>true
inductive RepD(m:Nat->Nat)(w:World):Value->D->Prop|int(k:IntKind)(n:Int):RepD m w (.int k n) (.int k n)|bool(b:Bool):RepD m w (.bool b) (.bool b)|str(s:ByteArray):RepD m w (.string s) (.str s)|nil(A:Option Addr)(sz:Nat):RepD m w (.slice A 0 0) (.slice sz [])|slice(b off cap sz:Nat)(l:List D)(vs:List Value)(hcap:l.length<=cap)(hmax:cap<=maxLen)(hsz:∀d∈l,d.cells.length=sz/\∀c∈d.cells,c.one=true)(hlen:vs.length=(l.flatMap D.cells).length)(hc:∀(j:Nat)(u:Value),vs[j]?=some u->off+j<m b/\w.cell? ⟨b,off+j,none⟩=some u)(hr:∀(j:Nat)(u:Value)(c:D),vs[j]?=some u->(l.flatMap D.cells)[j]?=some c->RepD m w u c):RepD m w (.slice (some ⟨b,off,none⟩) l.length cap) (.slice sz l)
def Mono(m:Nat->Nat)(w:World)(m':Nat->Nat)(w':World):Prop:=∀b o v,o<m b->w.cell? ⟨b,o,none⟩=some v->o<m' b/\w'.cell? ⟨b,o,none⟩=some v
theorem Mono.refl(m:Nat->Nat)(w:World):Mono m w m w:=λ_ _ _ h1 B=>⟨h1,B⟩
theorem Mono.trans{m B F:Nat->Nat}{w J M:World}(h:Mono m w B J)(h':Mono B J F M):Mono m w F M:=λb o v h1 U=>let⟨a,c⟩:=h b o v h1 U;h' b o v a c
theorem RepD.mono{m m':Nat->Nat}{w w':World}(Y:Mono m w m' w'){v:Value}{d:D}(h:RepD m w v d):RepD m' w' v d:=by induction h with
 |int k n=>exact .int k n|bool b=>exact .bool b|str s=>exact .str s|nil A sz=>exact .nil A sz|slice b off cap sz l vs B F hsz J U Z X=>exact .slice b off cap sz l vs B F hsz J (λj u M=>let⟨a,c⟩:=U j u M;Y _ _ _ a c) X
theorem RepD.one{m:Nat->Nat}{w:World}{v:Value}{d:D}(h:RepD m w v d):v.oneCell'=true:=by cases h<;>rfl
theorem RepD.done{m:Nat->Nat}{w:World}{v:Value}{d:D}(h:RepD m w v d):d.one=true:=by cases h<;>rfl
theorem kp{sz:Nat}{l:List D}(h:∀d∈l,d.cells.length=sz/\∀c∈d.cells,c.one=true):(l.flatMap D.cells).length=l.length*sz:=by induction l with
 |nil=>simp|cons d l J=>have h1:=(h d qqs).1;have B:=J λx F=>h x (by simp[F]);simp only[qbe,qi,qx,qca];omega
theorem k89{sz:Nat}{l:List D}(h:∀d∈l,d.cells.length=sz/\∀c∈d.cells,c.one=true){i:Nat}{d:D}(hi:l[i]?=some d)(j:Nat)(J:j<sz):(l.flatMap D.cells)[i*sz+j]?=d.cells[j]?:=by induction l generalizing i with
 |nil=>simp at hi|cons x l F=>have h1:=(h x qqs).1;cases i with
  |zero=>simp at hi;subst hi;simp;rw[qay qqo]|succ i=>simp;rw[qbw (by rw[h1,qca];omega)];rw[show(i+1)*sz+j-x.cells.length=i*sz+j by rw[h1,qca];omega];exact F (λy B=>h y (by simp[B])) hi
inductive V where|any|k(v:Value)|d(x:D)|agg(l:List V)|tup(l:List V)|ptr(id off:Nat)|ro(l:List D)|own(tok sz:Nat)(l:List D)|full(sz:Nat)(l:List D)|row(id off len sz:Nat)|mp(id:Nat)|clo(g:Nat)(fs cs:List (Option (Nat×Nat)))
def V.one:V->Bool
 |.any=>false|.agg _=>false|.tup _=>false|.k v=>v.oneCell'|.d x=>x.one|_=>true
def V.cells:V->List V
 |.agg l=>l|v=>[v]
def V.ofD:D->V
 |.agg l=>.agg (l.map .d)|x=>.d x
inductive MO where|m(es:List (D×V))|it(mid:Nat)(rest:List (D×V))(last:Option (D×V))
inductive Ob where|cells(l:List V)|tip(n:Nat)|map(x:MO)|dead
abbrev Hp:=List (Nat×Ob)
def Hp.get:Hp->Nat->Option Ob
 |[],_=>none|(i,o)::r,j=>if j=i then some o else Hp.get r j
def live(h:Hp)(i:Nat):Prop:=match h.get i with
 |none=>False|some .dead=>False|some _=>True
theorem live_eq{h h':Hp}{i:Nat}(e:h'.get i=h.get i)(l:live h' i):live h i:=by unfold live at*;rw[e]at l;exact l
theorem ki{h:Hp}{i:Nat}{l:List V}(e:h.get i=some (.cells l)):live h i:=by unfold live;rw[e];trivial
theorem k1i{h:Hp}{i t:Nat}(e:h.get i=some (.tip t)):live h i:=by unfold live;rw[e];trivial
theorem k1r{h:Hp}{i:Nat}{es:MO}(e:h.get i=some (.map es)):live h i:=by unfold live;rw[e];trivial
theorem live_of{h:Hp}{i:Nat}(l:live h i):∃o,h.get i=some o/\o≠.dead:=by
 unfold live at l;split at l;.exact l.elim
 .exact l.elim
 .rename_i o B F;exact⟨o,F,λh=>B h⟩
theorem k1n{h:Hp}{k i:Nat}{o:Ob}(B:live h k)(l:live ((k,o)::h) i):live h i:=by
 by_cases e:i=k;.subst e;exact B
 .exact live_eq (by simp[Hp.get,e]) l
theorem kng{h:Hp}{k i:Nat}{o:Ob}(e:i≠k)(l:live ((k,o)::h) i):live h i:=live_eq (by simp[Hp.get,e]) l
structure Gh where
 loc:Nat->On
 tloc:Nat->On
 lim:Nat->Nat
def csz(w:World)(b:Nat):On:=match w.heap[b]? with
 |some (.cells c _ (0,0))=>some c.size|_=>none
theorem csz_of{w:World}{b:Nat}{c:Array Value}{e:TypeId}(h:w.heap[b]?=some (.cells c e (0,0))):csz w b=some c.size:=by simp[csz,h]
theorem k4b{w w':World}{b:Nat}(h:w'.heap[b]?=w.heap[b]?):csz w' b=csz w b:=by simp[csz,h]
def Spare(G:Gh)(w:World)(tok sz n:Nat):Value->Prop
 |.slice A _ cap=>cap=n∨∃b off c e,A=some ⟨b,off,none⟩/\G.tloc tok=some b/\w.heap[b]?=some (.cells c e (0,0))/\off+n*sz=G.lim b/\off+cap*sz<=c.size|_=>False
def PtrR(G:Gh)(nx:Nat)(p:Option (Nat×Nat))(v:Value):Prop:=match p with
 |some (id,off)=>id<nx/\∃b,G.loc id=some b/\v=.pointer (some ⟨b,off,none⟩)|none=>True
def PtrsR(G:Gh)(nx:Nat):List (Option (Nat×Nat))->List Value->Prop
 |[],[]=>True|p::ps,v::vs=>PtrR G nx p v/\PtrsR G nx ps vs|_,_=>False
theorem PtrsR.mono{G G':Gh}{nx nx':Nat}(h:∀id b,id<nx->G.loc id=some b->id<nx'/\G'.loc id=some b):∀{ps:List (Option (Nat×Nat))}{vs:List Value},PtrsR G nx ps vs->PtrsR G' nx' ps vs
 |[],[],_=>trivial|[],_::_,B=>B.elim|_::_,[],B=>B.elim|none::_,_::_,B=>⟨trivial,PtrsR.mono h B.2⟩|some (id,off)::_,_::_,B=>by obtain⟨⟨h1,b,F,J⟩,M⟩:=B;obtain⟨U,X⟩:=h id b h1 F;exact⟨⟨U,b,X,J⟩,PtrsR.mono h M⟩
inductive RepV(G:Gh)(w:World)(h:Hp)(nx:Nat):Value->V->Prop|any(v:Value):RepV G w h nx v .any|k(v:Value):RepV G w h nx v (.k v)|d(v:Value)(x:D)(hd:RepD G.lim w v x):RepV G w h nx v (.d x)|agg(vs:List Value)(l:List V)(hlen:vs.length=l.length)(hone:∀x∈l,x.one=true)(hr:∀(j:Nat)(v:Value)(x:V),vs[j]?=some v->l[j]?=some x->RepV G w h nx v x):RepV G w h nx (.agg vs.toArray) (.agg l)|tup(vs:List Value)(l:List V)(hlen:vs.length=l.length)(hr:∀(j:Nat)(v:Value)(x:V),vs[j]?=some v->l[j]?=some x->RepV G w h nx v x):RepV G w h nx (.tuple vs.toArray) (.tup l)|ptr(id off b:Nat)(hid:id<nx)(hl:G.loc id=some b):RepV G w h nx (.pointer (some ⟨b,off,none⟩)) (.ptr id off)|ro(b off:Nat)(l:List D)(vs:List Value)(hlen:vs.length=l.length)(hone:∀c∈l,c.one=true)(hc:∀(j:Nat)(u:Value),vs[j]?=some u->off+j<G.lim b/\w.cell? ⟨b,off+j,none⟩=some u)(hr:∀(j:Nat)(u:Value)(c:D),vs[j]?=some u->l[j]?=some c->RepD G.lim w u c):RepV G w h nx (.pointer (some ⟨b,off,none⟩)) (.ro l)|own(v:Value)(tok sz:Nat)(l:List D)(hd:RepD G.lim w v (.slice sz l))(ht:tok<nx)(hs:∀t,h.get tok=some (.tip t)->l.length<=t/\(l.length=t->Spare G w tok sz l.length v)):RepV G w h nx v (.own tok sz l)|full(A:Option Addr)(sz:Nat)(l:List D)(hd:RepD G.lim w (.slice A l.length l.length) (.slice sz l)):RepV G w h nx (.slice A l.length l.length) (.full sz l)|row(id off len sz b o cap n:Nat)(hid:id<nx)(hl:G.loc id=some b)(ho:cap≠0->o=off)(hc:len<=cap)(hm:cap<=maxLen)(hn:csz w b=some n)(hs:off+cap*sz<=n):RepV G w h nx (.slice (some ⟨b,o,none⟩) len cap) (.row id off len sz)|rown(A:Option Addr)(id off sz:Nat)(hid:id<nx):RepV G w h nx (.slice A 0 0) (.row id off 0 sz)|mp(id b:Nat)(hid:id<nx)(hl:G.loc id=some b):RepV G w h nx (.map (some b)) (.mp id)|clo(g:Nat)(fs cs:List (Option (Nat×Nat)))(vs us:List Value)(hf:PtrsR G nx fs vs)(hc:PtrsR G nx cs us):RepV G w h nx (.func (.func g) vs.toArray us.toArray) (.clo g fs cs)
theorem RepV.one{G:Gh}{w:World}{h:Hp}{nx:Nat}{v:Value}{x:V}(B:RepV G w h nx v x)(h1:x.one=true):v.oneCell'=true:=by cases B<;>first|(exact RepD.one (by assumption))|exact h1|rfl|cases h1
structure Ext(G:Gh)(w:World)(h:Hp)(nx:Nat)(G':Gh)(w':World)(h':Hp)(nx':Nat):Prop where
 mono:Mono G.lim w G'.lim w'
 hnx:nx<=nx'
 loc:∀id b,id<nx->G.loc id=some b->G'.loc id=some b
 tok:∀tok t',tok<nx->h'.get tok=some (.tip t')->∃t,h.get tok=some (.tip t)/\t<=t'/\(t=t'->∀b,G.tloc tok=some b->G'.tloc tok=some b/\w'.heap[b]?=w.heap[b]?/\G'.lim b=G.lim b)csz:∀b n,csz w b=some n->csz w' b=some n
theorem Ext.refl(G:Gh)(w:World)(h:Hp)(nx:Nat):Ext G w h nx G w h nx:=⟨Mono.refl _ _,qaf _,λ_ _ _ h=>h,λ_ t' _ h=>⟨t',h,qaf _,λ_ _ B=>⟨B,rfl,rfl⟩⟩,λ_ _ h=>h⟩
theorem Ext.trans{G G' M:Gh}{w w' U:World}{h h' J:Hp}{nx nx' F:Nat}(a:Ext G w h nx G' w' h' nx')(b:Ext G' w' h' nx' M U J F):Ext G w h nx M U J F:=by have hn:=a.hnx;refine⟨a.mono.trans b.mono,qbd a.hnx b.hnx,λid k hi B=>b.loc id k qqo (a.loc id k hi B),λtok X Y J=>?_,λk n B=>b.csz k n (a.csz k n B)⟩;obtain⟨t',Z,g2,g3⟩:=b.tok tok X qqo J;obtain⟨t,f1,f2,f3⟩:=a.tok tok t' Y Z;refine⟨t,f1,by omega,λaa k B=>?_⟩;obtain⟨q1,q2,q3⟩:=f3 qqo k B;obtain⟨r1,r2,r3⟩:=g3 qqo k q1;exact⟨r1,r2.trans q2,r3.trans q3⟩
theorem RepV.ext{G G':Gh}{w w':World}{h h':Hp}{nx nx':Nat}(he:Ext G w h nx G' w' h' nx'){v:Value}{x:V}(hr:RepV G w h nx v x):RepV G' w' h' nx' v x:=by induction hr with
 |any v=>exact .any v|k v=>exact .k v|d v x hd=>exact .d v x (hd.mono he.mono)|agg vs l F J _ ih=>exact .agg vs l F J ih|tup vs l F _ ih=>exact .tup vs l F ih|ptr id off b B Y=>exact .ptr id off b (qau B he.hnx) (he.loc id b B Y)|ro b off l vs F J U hr=>exact .ro b off l vs F J (λj u hu=>let⟨a,c⟩:=U j u hu;he.mono _ _ _ a c) λj u c h1 X=>(hr j u c h1 X).mono he.mono|own v tok sz l hd ht hs=>
  refine .own v tok sz l (hd.mono he.mono) (qau ht he.hnx) λt' ab=>?_;obtain⟨t,h1,X,h3⟩:=he.tok tok t' ht ab;obtain⟨h4,h5⟩:=hs t h1;refine⟨by omega,λY=>?_⟩;have ac:t=t':=by omega
  have Z:=h5 qqo;have h7:=h3 ac;cases v with
  |slice A n cap=>
   rcases Z with Z|⟨b,off,c,e,hA,aa,M,ho,U⟩;.exact .inl Z
   .obtain⟨g1,g2,g3⟩:=h7 b aa;exact .inr ⟨b,off,c,e,hA,g1,g2.trans M,by rw[g3];exact ho,U⟩|_=>exact Z
 |full A sz l hd=>exact .full A sz l (hd.mono he.mono)|row id off len sz b o cap n B Y ho U hm hn hs=>exact .row id off len sz b o cap n (qau B he.hnx) (he.loc id b B Y) ho U hm (he.csz b n hn) hs|rown A id off sz B=>exact .rown A id off sz (qau B he.hnx)|mp id b B Y=>exact .mp id b (qau B he.hnx) (he.loc id b B Y)|clo g fs cs vs us hf U=>exact .clo g fs cs vs us (hf.mono λid b h1 X=>⟨qau h1 he.hnx,he.loc id b h1 X⟩) (U.mono λid b h1 X=>⟨qau h1 he.hnx,he.loc id b h1 X⟩)
end Go.Bv
namespace Go.Bv
open Go.RowKit
def tyOf(P:Program)(t:TypeId):Option (Bool×Nat):=match P.underlying t,P.info? t with
 |some u,some i=>some (match u with|.struct _|.array _ _=>true|_=>false,i.size)|_,_=>none
def fldOf(P:Program)(t:TypeId)(f:Nat):Option (Nat×Bool×Nat):=match P.underlying t with
 |some (.struct B)=>match B[f]? with
  |some g=>match tyOf P g.type with
   |some (a,n+1)=>some (g.offset,a,n+1)|_=>none
  |none=>none
 |_=>none
def elemOf(P:Program)(t:TypeId):Option (Bool×Nat):=match P.underlying t with
 |some (.slice e)=>tyOf P e|_=>none
def arrOf(P:Program)(t:TypeId):Option (Nat×Bool×Nat):=match P.underlying t with
 |some (.array n e)=>(tyOf P e).map λ(a,s)=>(n,a,s)|_=>none
def V.ofK1:Value->V
 |.int q n=>.d (.int q n)|.bool b=>.d (.bool b)|.string s=>.d (.str s)|v=>if v.oneCell' then .k v else .any
def V.ofK:Value->V
 |.agg cs=>if cs.all (·.oneCell')then .agg (cs.toList.map V.ofK1)else .any|v=>V.ofK1 v
def V.els(sz:Nat):V->Option (List D)
 |.d (.slice s l)=>if s=sz then some l else none|.own _ s l=>if s=sz then some l else none|.full s l=>if s=sz then some l else none|.k (.slice none 0 0)=>some []|_=>none
def V.len:V->On
 |.d (.slice _ l)=>some l.length|.own _ _ l=>some l.length|.full _ l=>some l.length|.k (.slice none 0 0)=>some 0|.row _ _ len _=>some len|_=>none
section
variable(K:V->Prop)
def partV(a:Bool)(n:Nat)(l:List V)(off:Nat):Prop:=if a then off+n<=l.length/\K (.agg ((l.drop off).take n))else match l[off]? with
  |some x=>K x|none=>False
def loadA(ty:Option (Bool×Nat))(h:Hp):V->Prop
 |.ptr id off=>match ty,h.get id with
  |some (a,n),some (.cells l)=>partV K a n l off|_,_=>False
 |.ro l=>match ty with
  |some (a,n)=>partV K a n (l.map .d) 0|none=>False
 |_=>False
def faddrA(fl:Option (Nat×Bool×Nat)):V->Prop
 |.ptr id off=>match fl with
  |some (o,_,_)=>K (.ptr id (off+o))|none=>False
 |.ro l=>match fl with
  |some (o,_,_)=>K (.ro (l.drop o))|none=>False
 |_=>False
def fieldA(fl:Option (Nat×Bool×Nat)):V->Prop
 |.agg l=>match fl with
  |some (o,a,n)=>partV K a n l o|none=>False
 |_=>False
def iaddrA(el:Option (Bool×Nat))(ar:Option (Nat×Bool×Nat))(x:V):V->Prop
 |.d (.int _ i)=>match el,ar with
  |some (_,sz),_=>match x.els sz with
   |some l=>0<=i/\∃e,l[i.toNat]?=some e/\K (.ro e.cells)|none=>False
  |none,some (n,_,sz)=>match x with
   |.ptr id off=>0<=i/\i<n/\K (.ptr id (off+i.toNat*sz))|.ro l=>0<=i/\i<n/\K (.ro (l.drop (i.toNat*sz)))|_=>False
  |none,none=>False
 |_=>False
def indexA(ar:Option (Nat×Bool×Nat)):V->V->Prop
 |.agg l,.d (.int _ i)=>match ar with
  |some (n,a,sz)=>0<=i/\i<n/\partV K a sz l (i.toNat*sz)|none=>False
 |.d (.str s),.d (.int _ i)=>match ar with
  |none=>0<=i/\∃b,s[i.toNat]?=some b/\K (.d (.int .u8 b.toNat))|_=>False
 |_,_=>False
def intA(op:BinOp)(k:IntKind)(a b:Int):Prop:=match op with
 |.add=>K (.d (.int k (k.wrap (a+b))))|.sub=>K (.d (.int k (k.wrap (a-b))))|.mul=>K (.d (.int k (k.wrap (a*b))))|.quo=>b≠0/\K (.d (.int k (k.wrap (a.tdiv b))))|.rem=>b≠0/\K (.d (.int k (a.tmod b)))|.and=>K (.d (.int k (k.wrap (BitVec.ofInt k.bits a&&&BitVec.ofInt k.bits b).toNat)))|.or=>K (.d (.int k (k.wrap (BitVec.ofInt k.bits a|||BitVec.ofInt k.bits b).toNat)))|.xor=>K (.d (.int k (k.wrap (BitVec.ofInt k.bits a^^^BitVec.ofInt k.bits b).toNat)))|.andNot=>K (.d (.int k (k.wrap (BitVec.ofInt k.bits a&&&~~~BitVec.ofInt k.bits b).toNat)))|.eql=>K (.d (.bool (a==b)))|.neq=>K (.d (.bool (a !=b)))|.lss=>K (.d (.bool (decide (a<b))))|.leq=>K (.d (.bool (decide (a<=b))))|.gtr=>K (.d (.bool (decide (b<a))))|.geq=>K (.d (.bool (decide (b<=a))))|_=>False
def shiftA(op:BinOp)(k:IntKind)(a b:Int):Prop:=match op with
 |.shl=>0<=b/\K (.d (.int k (k.wrap (a*2^min b.toNat k.bits))))|.shr=>0<=b/\K (.d (.int k (a.fdiv (2^min b.toNat k.bits))))|_=>False
def binA(op:BinOp):V->V->Prop
 |.d (.int k a),.d (.int B b)=>match op with
  |.shl=>shiftA K .shl k a b|.shr=>shiftA K .shr k a b|op=>k=B/\intA K op k a b
 |_,_=>False
def unA(op:UnOp):V->Prop
 |.d (.bool b)=>match op with
  |.not=>K (.d (.bool !b))|_=>False
 |.d (.int k n)=>match op with
  |.neg=>K (.d (.int k (k.wrap (0-n))))|_=>False
 |_=>False
def convA(d:Option TypeDesc):V->Prop
 |.d (.int _ n)=>match d with
  |some (.int k)=>K (.d (.int k (k.wrap n)))|_=>False
 |_=>False
end
theorem add_mk(b o j:Nat):(⟨b,o,none⟩:Addr).add j=⟨b,o+j,none⟩:=by unfold Addr.add;split<;>simp_all
section
variable{P:Program}{G:Gh}{w:World}{h:Hp}{nx:Nat}
def ObjR(G:Gh)(w:World)(h:Hp)(nx:Nat):Prop:=∀id l,h.get id=some (.cells l)->l=[]/\G.loc id=none∨∃b e cs,G.loc id=some b/\w.heap[b]?=some (.cells (List.toArray cs) e (0,0))/\G.lim b=0/\l.length<=cs.length/\(∀x∈l,x.one=true)/\∀(j:Nat)v x,cs[j]?=some v->l[j]?=some x->RepV G w h nx v x
theorem kw{t:TypeId}{a:Bool}{n:Nat}(B:tyOf P t=some (a,n))(w:World):(isAgg t).run P w=.ok a w/\(sizeOf t).run P w=.ok n w:=by
 unfold tyOf at B;split at B
 .rename_i u i F hi;injection B with B;injection B with h1 h2;constructor;.unfold isAgg;simp only[qw,qam F];subst h1;cases u<;>rfl
  .simp[sizeOf,typeInfo,hi,h2]
 .cases B
theorem k9p{t:TypeId}{a:Bool}{n:Nat}(ht:tyOf P t=some (a,n)){K:V->Prop}{l:List V}{off:Nat}(J:partV K a n l off){cs:List Value}(U:l.length<=cs.length)(M:∀x∈l,x.one=true)(X:∀(j:Nat)v x,cs[j]?=some v->l[j]?=some x->RepV G w h nx v x):∃v x,(part t cs.toArray off).run P w=.ok v w/\(a=true->v=.agg ((cs.drop off).take n).toArray/\off+n<=cs.length)/\(a=false->cs[off]?=some v)/\RepV G w h nx v x/\K x:=by obtain⟨h1,Y⟩:=kw ht w;unfold partV at J;cases a with
 |true=>
  simp at J;refine⟨.agg ((cs.drop off).take n).toArray,_,?_,λ_=>⟨rfl,by omega⟩,qqs,?_,J.2⟩;.simp only[part,qw,h1,Y,qj,qcj];simp
  .refine .agg _ _ qqm (λx B=>M x (qck (qba B))) λj v x F B=>?_;rw[qbk]at F B;split at F;.rename_i Z;rw[qg Z]at B;rw[qbg]at F B;exact X _ _ _ F B
   .cases F|false=>
  simp at J;split at J;.rename_i x B;have aa:=(qq.1 B).1;have F:cs[off]?=some (cs[off]' qqo):=qf qqo;refine⟨_,x,?_,qqs,λ_=>F,X _ _ _ F B,J⟩;simp only[part,qw,h1,qee];simp[F]
  .exact J.elim
theorem khe{t:TypeId}{a:Bool}{n:Nat}(X:tyOf P t=some (a,n)){K:V->Prop}{l:List V}{off b o:Nat}(hp:partV K a n l off){cs:List Value}(F:l.length<=cs.length)(J:∀x∈l,x.one=true)(hr:∀(j:Nat)v x,cs[j]?=some v->l[j]?=some x->RepV G w h nx v x)(Y:∀j u,cs[j]?=some u->w.cell? ⟨b,o+j,none⟩=some u):∃v x,(loadVar t ⟨b,o+off,none⟩).run P w=.ok v w/\RepV G w h nx v x/\K x:=by obtain⟨v,x,_,Z,M,hv,hk⟩:=k9p (w:=w) X hp F J hr;obtain⟨h1,h2⟩:=kw X w;refine⟨v,x,?_,hv,hk⟩;cases a with
 |true=>
  obtain⟨rfl,aa⟩:=Z rfl;have U:=run_loadCells_list (P:=P) w ⟨b,o+off,none⟩ ((cs.drop off).take n) λj u B=>by
    rw[qbk]at B;split at B;.rw[qbg]at B;rw[add_mk,qed];exact Y _ _ B
    .cases B
  rw[qu,qal,qcf qqo]at U;simp only[loadVar,qw,h1,h2,qj,qcj,U,qag]|false=>simp only[loadVar,qw,h1,qee];simp[Y _ _ (M rfl)]
theorem els_rep{x:V}{sz:Nat}{l:List D}(he:x.els sz=some l){v:Value}(B:RepV G w h nx v x):RepD G.lim w v (.slice sz l):=by
 unfold V.els at he;split at he
 .split at he;.rename_i hs;subst hs;injection he with he;subst he;cases B;assumption
  .cases he
 .split at he;.rename_i hs;subst hs;injection he with he;subst he;cases B;assumption
  .cases he
 .split at he;.rename_i hs;subst hs;injection he with he;subst he;cases B;assumption
  .cases he
 .injection he with he;subst he;cases B;exact .nil none sz
 .cases he
theorem len_rep{x:V}{n:Nat}(he:x.len=some n){v:Value}(B:RepV G w h nx v x):∃A c,v=.slice A n c:=by
 unfold V.len at he;split at he;.injection he with he;subst he;cases B with|d _ _ hd=>cases hd<;>exact⟨_,_,rfl⟩
 .injection he with he;subst he;cases B with|own _ _ _ _ hd=>cases hd<;>exact⟨_,_,rfl⟩
 .injection he with he;subst he;cases B<;>exact⟨_,_,rfl⟩
 .injection he with he;subst he;cases B<;>exact⟨_,_,rfl⟩
 .injection he with he;subst he;cases B<;>exact⟨_,_,rfl⟩
 .cases he
theorem kwy{v:Value}{sz:Nat}{l:List D}(hd:RepD G.lim w v (.slice sz l)){i:Nat}{e:D}(he:l[i]?=some e):∃b off cap,v=.slice (some ⟨b,off,none⟩) l.length cap/\RepV G w h nx (.pointer (some ⟨b,off+i*sz,none⟩)) (.ro e.cells):=by have hi:=(qq.1 he).1;have X:=qbm he;cases hd with
 |nil=>simp at hi|slice b off cap _ _ vs Y Z hsz J hc hr=>
  have M:=kp hsz;have F:=(hsz e X).1;refine⟨b,off,cap,rfl,.ro b (off+i*sz) e.cells ((vs.drop (i*sz)).take sz) ?_ (hsz e X).2 ?_ ?_⟩
  .have:i*sz+sz<=l.length*sz:=by rw[<-qek];exact qbh _ hi
   rw[qu,qal,J,M,F];omega
  .intro j u B;rw[qbk]at B;split at B
   .rw[qbg]at B;have:=hc _ _ B;rwa[<-qed]at this
   .cases B
  .intro j u c B U;rw[qbk]at B;split at B;.rename_i hj;rw[qbg]at B;exact hr _ _ _ B (by rw[k89 hsz he j hj];exact U)
   .cases B
theorem kt4{K:V->Prop}{op:BinOp}{x y:V}(B:binA K op x y){X Y:Value}(hx:RepV G w h nx X x)(hy:RepV G w h nx Y y)(t:TypeId)(Z oy:Operand):∃v z,(do eqGuard op t Z oy X Y;binOp op t X Y:Sem Value).run P w=.ok v w/\RepV G w h nx v z/\K z:=by
 unfold binA at B;split at B;.rename_i k a U b;cases hx with|d _ _ hd=>cases hd;cases hy with|d _ _ hd=>
  cases hd;have h1:(eqGuard op t Z oy (.int k a) (.int U b)).run P w=.ok () w:=by unfold eqGuard;cases op<;>simp
  have F:∀(d:D)(v:Value),RepD G.lim w v d->K (.d d)->(binOp op t (.int k a) (.int U b)).run P w=.ok v w->∃v z,(binOp op t (.int k a) (.int U b)).run P w=.ok v w/\RepV G w h nx v z/\K z:=λd v h1 M J=>⟨v,.d d,J,.d _ _ h1,M⟩;cases op;case shl=>exact F _ _ (.int _ _) B.2 (by have:=B.1;simp[binOp,Op.shift,show¬b<0 by omega])
  case shr=>exact F _ _ (.int _ _) B.2 (by have:=B.1;simp[binOp,Op.shift,show¬b<0 by omega])
  case quo=>simp only[intA]at B;obtain⟨rfl,M,J⟩:=B;exact F _ _ (.int _ _) J (by simp[binOp,Op.intDiv,M])
  case rem=>simp only[intA]at B;obtain⟨rfl,M,J⟩:=B;exact F _ _ (.int _ _) J (by simp[binOp,Op.intDiv,M])
  case eql=>simp only[intA]at B;obtain⟨rfl,J⟩:=B;exact F _ _ (.bool _) J (by simp[binOp,Op.intCmp])
  case neq=>simp only[intA]at B;obtain⟨rfl,J⟩:=B;exact F _ _ (.bool _) J (by simp[binOp,Op.intCmp])
  case lss=>simp only[intA]at B;obtain⟨rfl,J⟩:=B;exact F _ _ (.bool _) J (by simp[binOp,Op.intCmp])
  case leq=>simp only[intA]at B;obtain⟨rfl,J⟩:=B;exact F _ _ (.bool _) J (by simp[binOp,Op.intCmp])
  case gtr=>simp only[intA]at B;obtain⟨rfl,J⟩:=B;exact F _ _ (.bool _) J (by simp[binOp,Op.intCmp])
  case geq=>simp only[intA]at B;obtain⟨rfl,J⟩:=B;exact F _ _ (.bool _) J (by simp[binOp,Op.intCmp])
  case add=>simp only[intA]at B;obtain⟨rfl,J⟩:=B;exact F _ _ (.int _ _) J (by simp[binOp,Op.intArith])
  case sub=>simp only[intA]at B;obtain⟨rfl,J⟩:=B;exact F _ _ (.int _ _) J (by simp[binOp,Op.intArith])
  case mul=>simp only[intA]at B;obtain⟨rfl,J⟩:=B;exact F _ _ (.int _ _) J (by simp[binOp,Op.intArith])
  case and=>simp only[intA]at B;obtain⟨rfl,J⟩:=B;exact F _ _ (.int _ _) J (by simp[binOp,Op.intBits])
  case or=>simp only[intA]at B;obtain⟨rfl,J⟩:=B;exact F _ _ (.int _ _) J (by simp[binOp,Op.intBits])
  case xor=>simp only[intA]at B;obtain⟨rfl,J⟩:=B;exact F _ _ (.int _ _) J (by simp[binOp,Op.intBits])
  case andNot=>simp only[intA]at B;obtain⟨rfl,J⟩:=B;exact F _ _ (.int _ _) J (by simp[binOp,Op.intBits])
 .exact B.elim
theorem kuh{K:V->Prop}{op:UnOp}{x:V}(B:unA K op x){F:Value}(J:RepV G w h nx F x):∃v z,(Op.unary op F).run P w=.ok v w/\RepV G w h nx v z/\K z:=by
 unfold unA at B;split at B;.cases J with|d _ _ hd=>
  cases hd;split at B;.exact⟨_,_,by simp[Op.unary],.d _ _ (.bool _),B⟩
  .exact B.elim
 .cases J with|d _ _ hd=>
  cases hd;split at B;.exact⟨_,_,by simp only[Op.unary,Op.intArith,qag],.d _ _ (.int _ _),B⟩
  .exact B.elim
 .exact B.elim
theorem kst{K:V->Prop}{s t:TypeId}{x:V}(B:convA K (P.underlying t) x)(hs:(P.underlying s).isSome=true){F:Value}(U:RepV G w h nx F x):∃v z,(convert s t F).run P w=.ok v w/\RepV G w h nx v z/\K z:=by
 obtain⟨u,J⟩:=qai.1 hs;unfold convA at B;split at B;.cases U with|d _ _ hd=>
  cases hd;split at B;.rename_i k M;refine⟨_,_,?_,.d _ _ (.int _ _),B⟩;simp only[convert,qw,qam J,qam M];simp[Conv.intToInt]
  .exact B.elim
 .exact B.elim
theorem kko{t:TypeId}{f o n:Nat}{a:Bool}(B:fldOf P t f=some (o,a,n)):∃F g,P.underlying t=some (.struct F)/\F[f]?=some g/\g.offset=o/\tyOf P g.type=some (a,n)/\n≠0:=by
 unfold fldOf at B;split at B
 .rename_i F J;split at B
  .rename_i g M;split at B;.rename_i Z n' U;simp at B;obtain⟨h1,X,Y⟩:=B;subst X;subst Y;exact⟨F,g,J,M,h1,U,by omega⟩
   .cases B
  .cases B
 .cases B
theorem krf{K:V->Prop}{t:TypeId}{f:Nat}{x:V}(B:fieldA K (fldOf P t f) x){F:Value}(hx:RepV G w h nx F x):∃v z,(Instr.field t F f).run P w=.ok v w/\RepV G w h nx v z/\K z:=by
 unfold fieldA at B;split at B
 .split at B;.rename_i l o a n J;obtain⟨fs,g,M,U,X,Y,_⟩:=kko J;cases hx with|agg vs _ hlen hone hr=>obtain⟨v,z,h1,_,_,Z,h3⟩:=k9p (w:=w) Y B (qfj hlen.symm) hone hr;refine⟨v,z,?_,Z,h3⟩;simp only[Instr.field,qw,qam M,qj,U,X];exact h1
  .exact B.elim
 .exact B.elim
theorem kr8{K:V->Prop}{t:TypeId}{f:Nat}{x:V}(B:faddrA K (fldOf P t f) x){Y:Value}(Z:RepV G w h nx Y x):∃v z,(Instr.fieldAt t Y f).run P w=.ok v w/\RepV G w h nx v z/\K z:=by
 have F:∀b off o n a,fldOf P t f=some (o,a,n)->(Instr.fieldAt t (.pointer (some ⟨b,off,none⟩)) f).run P w=.ok (.pointer (some ⟨b,off+o,none⟩)) w:=by intro b off o n a M;obtain⟨fs,g,J,hg,ho,ht,hn⟩:=kko M;have:=(kw ht w).2;simp only[Instr.fieldAt,qw,qam J,qj,hg,Instr.sureAddr,qag,fieldPlace,this,qe hn,add_mk,ho]
 unfold faddrA at B;split at B
 .split at B;.rename_i id off _ o a n M;cases Z with|ptr _ _ b hid hl=>exact⟨_,_,F _ _ _ _ _ M,.ptr _ _ _ hid hl,B⟩
  .exact B.elim
 .split at B;.rename_i l _ o a n M;cases Z with|ro b off _ vs hlen hone X hr=>
   refine⟨_,_,F _ _ _ _ _ M,.ro b (off+o) (l.drop o) (vs.drop o) (by simp[hlen]) (λc X=>hone c (qck X)) ?_ ?_,B⟩
   .intro j u J;rw[qbg]at J;have:=X _ _ J;rwa[<-qed]at this
   .intro j u c J U;rw[qbg]at J U;exact hr _ _ _ J U
  .exact B.elim
 .exact B.elim
theorem k5a{t:TypeId}{a:Bool}{n:Nat}(he:elemOf P t=some (a,n)):∃e,P.underlying t=some (.slice e)/\tyOf P e=some (a,n):=by
 unfold elemOf at he;split at he;.exact⟨_,by assumption,he⟩
 .cases he
theorem kk5{t:TypeId}{m n:Nat}{a:Bool}(he:arrOf P t=some (m,a,n)):∃e,P.underlying t=some (.array m e)/\tyOf P e=some (a,n):=by
 unfold arrOf at he;split at he;.rename_i m' e F;cases B:tyOf P e with
  |none=>simp[B]at he|some p=>simp[B]at he;obtain⟨rfl,rfl,rfl⟩:=he;exact⟨e,F,B⟩
 .cases he
theorem krg{K:V->Prop}{t:TypeId}{x i:V}(B:iaddrA K (elemOf P t) (arrOf P t) x i){vx vi:Value}(hx:RepV G w h nx vx x)(hi:RepV G w h nx vi i):∃v z,(Instr.indexAt t vx vi).run P w=.ok v w/\RepV G w h nx v z/\K z:=by
 unfold iaddrA at B;split at B;.rename_i q i;cases hi with|d _ _ Y=>
  cases Y;split at B
  .rename_i a sz Z;obtain⟨e,F,ht⟩:=k5a Z;split at B;.rename_i l hl;obtain⟨M,d,Y,U⟩:=B;obtain⟨b,off,cap,rfl,aa⟩:=kwy (h:=h) (nx:=nx) (els_rep hl hx) Y;have ac:=(qq.1 Y).1;refine⟨_,_,?_,aa,U⟩;have hs:=(kw ht w).2;simp only[Instr.indexAt,asIntOf,qw,qag,qj,qam F];rw[qg (by omega)];simp only[qw,hs,qj,qag,add_mk]
   .exact B.elim
  .rename_i m a sz _ ab;obtain⟨e,F,ht⟩:=kk5 ab;have hs:=(kw ht w).2;have J:∀b off,0<=i->i<m->(Instr.indexAt t (.pointer (some ⟨b,off,none⟩)) (.int q i)).run P w=.ok (.pointer (some ⟨b,off+i.toNat*sz,none⟩)) w:=by intro b off M h1;simp only[Instr.indexAt,asIntOf,qw,qag,qj,qam F,Instr.sureAddr];rw[qg ⟨M,h1⟩];simp only[qw,hs,qj,qag,add_mk]
   split at B;.obtain⟨M,h1,U⟩:=B;cases hx with|ptr _ _ b hid hl=>exact⟨_,_,J _ _ M h1,.ptr _ _ _ hid hl,U⟩
   .rename_i l;obtain⟨M,h1,U⟩:=B;cases hx with|ro b off _ vs hlen hone hc hr=>
    refine⟨_,_,J _ _ M h1,.ro b _ (l.drop (i.toNat*sz)) (vs.drop (i.toNat*sz)) (by simp[hlen]) (λc hc=>hone c (qck hc)) ?_ ?_,U⟩
    .intro j u F;rw[qbg]at F;have:=hc _ _ F;rwa[<-qed]at this
    .intro j u c F X;rw[qbg]at F X;exact hr _ _ _ F X
   .exact B.elim
  .exact B.elim
 .exact B.elim
theorem krh{K:V->Prop}{t:TypeId}{x i:V}(B:indexA K (arrOf P t) x i)(J:arrOf P t=none->P.underlying t=some .string){X Y:Value}(Z:RepV G w h nx X x)(hi:RepV G w h nx Y i):∃v z,(Instr.index t X Y).run P w=.ok v w/\RepV G w h nx v z/\K z:=by
 unfold indexA at B;split at B;.cases hi with|d _ _ hd=>
  cases hd;split at B;.rename_i m a sz F;obtain⟨e,hu,U⟩:=kk5 F;obtain⟨M,h1,hp⟩:=B;have hs:=(kw U w).2;cases Z with|agg vs _ hlen hone hr=>obtain⟨v,z,h3,_,_,h4,h5⟩:=k9p (w:=w) U hp (qfj hlen.symm) hone hr;refine⟨v,z,?_,h4,h5⟩;simp only[Instr.index,asIntOf,qw,qag,qj,qam hu];rw[qg ⟨M,h1⟩];simp only[qw,hs,qj,h3]
  .exact B.elim
 .cases hi with|d _ _ hd=>
  cases hd;split at B;.rename_i F;obtain⟨M,c,hc,hk⟩:=B;cases Z with|d _ _ hd=>cases hd;refine⟨_,_,?_,.d _ _ (.int _ _),hk⟩;simp only[Instr.index,asIntOf,qw,qag,qj,qam (J F),qg M,hc]
  .exact B.elim
 .exact B.elim
end
structure St where
 sl:List (Nat×V)h:Hp
 nx:Nat
def getS:List (Nat×V)->Nat->V
 |[],_=>.any|(i,x)::r,j=>if j=i then x else getS r j
def St.put(s:St):On->V->St
 |some t,x=>⟨(t,x)::s.sl,s.h,s.nx⟩|none,_=>s
def St.ev(s:St):Operand->V
 |.tmp t=>getS s.sl t|.const v=>V.ofK v|.global _=>.any|.func f=>.k (.func (.func f) #[] #[])
structure Tk where
 p:Nat->Prop
 h:Hp
 nx:Nat
instance:CoeFun Tk λ_=>Nat->Prop:=⟨Tk.p⟩
structure Ex(T:Tk)(G0:Gh)(w0:World)(G:Gh)(w:World)(h:Hp)(nx:Nat):Prop where
 hnx:T.nx<=nx
 loc:∀id b,id<T.nx->G0.loc id=some b->G.loc id=some b
 tok:∀tok t',tok<T.nx->h.get tok=some (.tip t')->∃t,T.h.get tok=some (.tip t)/\t<=t'/\(t=t'->∀b,G0.tloc tok=some b->G.tloc tok=some b/\w.heap[b]?=w0.heap[b]?/\G.lim b=G0.lim b)csz:∀b n,csz w0 b=some n->csz w b=some n
theorem Ex.ext{T:Tk}{G0 G G':Gh}{w0 w w':World}{h h':Hp}{nx nx':Nat}(a:Ex T G0 w0 G w h nx)(b:Ext G w h nx G' w' h' nx'):Ex T G0 w0 G' w' h' nx':=by have X:=a.hnx;refine⟨qbd a.hnx b.hnx,λid k hi B=>b.loc id k qqo (a.loc id k hi B),λtok F J M=>?_,λk n B=>b.csz k n (a.csz k n B)⟩;obtain⟨t',U,Y,Z⟩:=b.tok tok F qqo M;obtain⟨t,f1,f2,f3⟩:=a.tok tok t' J U;grind
structure Fr(T:Tk)(G0:Gh)(w0:World)(G:Gh)(w:World):Prop where
 os:w.os=w0.os
 tape:w.tape=w0.tape
 output:w.output=w0.output
 size:w0.heap.size<=w.heap.size
 same:∀b,b<w0.heap.size->¬T b->w.heap[b]?=w0.heap[b]?/\G.lim b=G0.lim b
 mono:Mono G0.lim w0 G.lim w
def EntR(G:Gh)(w:World)(h:Hp)(nx:Nat)(B:List MapEntry)(es:List (D×V)):Prop:=B.length=es.length/\(∀e∈es,∀l,e.2≠V.tup l)/\∀(j:Nat)m e,B[j]?=some m->es[j]?=some e->RepD G.lim w m.key e.1/\RepV G w h nx m.val e.2
def Stp(F:List MapEntry)(B:Nat):Prop:=(∀m∈F,m.born<B)/\(F.map (·.born)).Nodup
def MoR(G:Gh)(w:World)(h:Hp)(nx id:Nat):MO->Prop
 |.m es=>∃b clk ms,G.loc id=some b/\w.heap[b]?=some (.map (List.toArray ms) clk)/\EntR G w h nx ms es/\Stp ms clk|.it mid rest F=>∃b bm since seen c0,G.loc id=some b/\w.heap[b]?=some (.mapIter (some bm) since seen c0)/\mid<nx/\G.loc mid=some bm/\since<=c0/\∀es,h.get mid=some (.map (.m es))->∃clk ms,w.heap[bm]?=some (.map (List.toArray ms) clk)/\((∀m∈ms,m.born<since)/\c0=clk)/\EntR G w h nx (ms.filter λm=>!seen.contains m.born) rest/\∀e,F=some e->(∀l,e.2≠V.tup l)/\∃(m:MapEntry)(B:Array Nat),m∈ms/\seen=B.push m.born/\RepD G.lim w m.key e.1/\RepV G w h nx m.val e.2
def MapR(G:Gh)(w:World)(h:Hp)(nx:Nat):Prop:=∀id x,h.get id=some (.map x)->MoR G w h nx id x
theorem EntR.tr{G G':Gh}{w w':World}{h h':Hp}{nx nx':Nat}{J:List MapEntry}{es es':List (D×V)}(M:EntR G w h nx J es)(hl:es'.length=es.length)(he:∀(j:Nat)e B,es[j]?=some e->es'[j]?=some B->(∀l,B.2=V.tup l->∃l,e.2=V.tup l)/\((∀l,e.2≠V.tup l)->∀k v,RepD G.lim w k e.1->RepV G w h nx v e.2->RepD G'.lim w' k B.1/\RepV G' w' h' nx' v B.2)):EntR G' w' h' nx' J es':=by
 obtain⟨h1,U,X⟩:=M;refine⟨by grind,λB F l Y=>?_,λj m B Z F=>?_⟩;.grind[List.getElem?_of_mem]
 grind
theorem MoR.blk{G:Gh}{w:World}{h:Hp}{nx id:Nat}{x:MO}(M:MoR G w h nx id x):∃b,G.loc id=some b/\∀c e p,w.heap[b]?≠some (.cells c e p):=by cases x with
 |m es=>obtain⟨b,U,Y,h1,X,_⟩:=M;grind|it mid rest J=>obtain⟨b,Z,B,F,c0,h1,X,_⟩:=M;grind
structure WR(T:Tk)(base:Nat)(G:Gh)(w:World)(h:Hp)(nx:Nat):Prop where
 obj:ObjR G w h nx
 mob:MapR G w h nx
 here:∀id b,id<nx->G.loc id=some b∨G.tloc id=some b->b<w.heap.size/\(base<=b∨T b)inj:∀i j b,i<nx->j<nx->G.loc i=some b∨G.tloc i=some b->G.loc j=some b∨G.tloc j=some b->live h i->live h j->i=j
 hid:∀id ob,h.get id=some ob->id<nx
 lim:∀b,w.heap.size<=b->G.lim b=0
structure R(T:Tk)(G0:Gh)(w0:World)(N:Nat)(s:St)(a:Act)(G:Gh)(w:World):Prop where
 fr:Fr T G0 w0 G w
 wr:WR T w0.heap.size G w s.h s.nx
 df:a.defers=[]sz:a.tmps.size=N
 sl:∀t,RepV G w s.h s.nx (a.tmps.getD t undef) (getS s.sl t)ex:Ex T G0 w0 G w s.h s.nx
section
variable{P:Program}{T:Tk}{G0 G:Gh}{w0 w:World}{N:Nat}{s:St}{a:Act}{h:Hp}{nx:Nat}
theorem kec(v:Value):RepV G w h nx v (V.ofK1 v):=by
 unfold V.ofK1;split;.exact .d _ _ (.int _ _)
 .exact .d _ _ (.bool _)
 .exact .d _ _ (.str _)
 .split;.exact .k _
  .exact .any _
theorem kod{v:Value}(h1:v.oneCell'=true):(V.ofK1 v).one=true:=by
 unfold V.ofK1;split;.rfl
 .rfl
 .rfl
 .rw[qg h1];exact h1
theorem kug(cs:List Value)(h1:∀c∈cs,c.oneCell'=true):RepV G w h nx (.agg cs.toArray) (.agg (cs.map V.ofK1)):=by
 refine .agg cs (cs.map V.ofK1) qqs (λx B=>?_) λj v x F B=>?_;.grind[kod]
 grind[kec]
theorem ofK_rep(v:Value):RepV G w h nx v (V.ofK v):=by
 unfold V.ofK;split
 .split
  .rename_i cs B;have:=kug (G:=G) (w:=w) (h:=h) (nx:=nx) cs.toList λc F=>by grind[Array.all_eq_true_iff_forall_mem]
   omega
  .exact .any _
 .exact kec _
theorem R.ev(B:R T G0 w0 N s a G w)(x:Operand):RepV G w s.h s.nx (a.eval x) (s.ev x):=by cases x with
 |tmp t=>exact B.sl t|const v=>exact ofK_rep v|global g=>exact .any _|func f=>exact .k _
theorem R.put(B:R T G0 w0 N s a G w){v:Value}{x:V}(M:RepV G w s.h s.nx v x)(d:On)(U:∀t,d=some t->t<N):R T G0 w0 N (s.put d x) (a.put d v) G w:=by cases d with
 |none=>exact B|some t=>
  refine⟨B.fr,B.wr,B.df,by simpa[Act.put]using B.sz,λu=>?_,B.ex⟩;have J:t<a.tmps.size:=by rw[B.sz];grind
  simp only[St.put,getS,Act.put];by_cases F:u=t;.simp_all
  .have:=B.sl u;have e:(a.tmps.setIfInBounds t v).getD u undef=a.tmps.getD u undef:=by simp[Ne.symm F]
   grind
theorem Ext.drew(G:Gh)(w:World)(h:Hp)(nx:Nat):Ext G w h nx G w.drew h nx:=⟨λ_ _ _ h1 B=>⟨h1,B⟩,qaf _,λ_ _ _ h=>h,λ_ t' _ h=>⟨t',h,qaf _,λ_ _ F=>⟨F,rfl,rfl⟩⟩,λ_ _ h=>h⟩
theorem EntR.ext{G':Gh}{w':World}{h':Hp}{nx':Nat}{B:List MapEntry}{es:List (D×V)}(X:EntR G w h nx B es)(he:Ext G w h nx G' w' h' nx'):EntR G' w' h' nx' B es:=X.tr rfl λj e F h1 Y=>by
  obtain rfl:e=F:=by grind
  exact⟨λl J=>⟨l,J⟩,λ_ k v M U=>⟨M.mono he.mono,U.ext he⟩⟩
theorem MapR.ext{G':Gh}{w':World}{h':Hp}{nx':Nat}(hm:MapR G w h nx)(he:Ext G w h nx G' w' h' nx')(B:∀id x,h'.get id=some (.map x)->h.get id=some (.map x))(X:∀id ob,h.get id=some ob->id<nx)(ab:∀id b x,h'.get id=some (.map x)->G.loc id=some b->w'.heap[b]?=w.heap[b]?):MapR G' w' h' nx':=by intro id x Z;have hg:=B id x Z;have hr:=hm id x hg;cases x with
 |m es=>obtain⟨b,F,ms,h1,h2,Y,h4⟩:=hr;exact⟨b,F,ms,he.loc id b (X _ _ hg) h1,by grind,Y.ext he,h4⟩|it mid rest ac=>obtain⟨b,bm,J,U,c0,h1,h2,Y,h4,h5,h6⟩:=hr;refine⟨b,bm,J,U,c0,he.loc id b (X _ _ hg) h1,by grind,qau Y he.hnx,he.loc mid bm Y h4,h5,λes aa=>?_⟩;obtain⟨F,ms,q1,q2,q3,q4⟩:=h6 es (B mid _ aa);refine⟨F,ms,by grind,q2,q3.ext he,λe hl=>?_⟩;obtain⟨n1,m,M,n2,n3,n4,n5⟩:=q4 e hl;exact⟨n1,m,M,n2,n3,n4.mono he.mono,n5.ext he⟩
theorem RepV.drew{v:Value}{x:V}(J:RepV G w h nx v x):RepV G w.drew h nx v x:=RepV.ext (G:=G) (w:=w) (h:=h) (nx:=nx) (G':=G) (w':=w.drew) (h':=h) (nx':=nx) ⟨λ_ _ _ h1 B=>⟨h1,B⟩,qaf _,λ_ _ _ h=>h,λ_ t' _ h=>⟨t',h,qaf _,λ_ _ F=>⟨F,rfl,rfl⟩⟩,λ_ _ h=>h⟩ J
theorem R.drew(B:R T G0 w0 N s a G w):R T G0 w0 N s a G w.drew:=⟨⟨B.fr.os,B.fr.tape,B.fr.output,B.fr.size,B.fr.same,B.fr.mono⟩,⟨λid l F=>(B.wr.obj id l F).imp (λh=>h) λ⟨b,e,cs,h1,J,M,U,X,Y⟩=>⟨b,e,cs,h1,J,M,U,X,λj v x Z hx=>(Y j v x Z hx).drew⟩,B.wr.mob.ext (Ext.drew G w s.h s.nx) (λ_ _ h=>h) B.wr.hid λ_ _ _ _ _=>rfl,B.wr.here,B.wr.inj,B.wr.hid,B.wr.lim⟩,B.df,B.sz,λt=>(B.sl t).drew,⟨B.ex.hnx,B.ex.loc,B.ex.tok,B.ex.csz⟩⟩
theorem csz_lt{b n:Nat}(h:csz w b=some n):b<w.heap.size:=by unfold csz at h;grind
theorem k3r(B:∀b,w.heap.size<=b->G.lim b=0)(o:Obj){m':Nat->Nat}(J:∀b,b≠w.heap.size->m' b=G.lim b):Mono G.lim w m' (w.alloc o):=by intro b off v h1 F;grind[World.cell?_alloc_lt]
theorem Fr.alloc(B:Fr T G0 w0 G w)(F:∀b,w.heap.size<=b->G.lim b=0)(o:Obj)(G':Gh)(U:∀b,b≠w.heap.size->G'.lim b=G.lim b):Fr T G0 w0 G' (w.alloc o):=⟨B.os,B.tape,B.output,by simpa using Nat.le_succ_of_le B.size,λb J M=>by obtain⟨h1,X⟩:=B.same b J M;grind[Below.heap_alloc],B.mono.trans (k3r F o U)⟩
theorem kkt(J:WR T w0.heap.size G w h nx)(o:Obj)(G':Gh)(h':Hp)(M:∀b,b≠w.heap.size->G'.lim b=G.lim b)(Y:∀i,i<nx->G'.loc i=G.loc i/\G'.tloc i=G.tloc i)(U:∀i,i<nx->h'.get i=h.get i){nx':Nat}(X:nx<=nx'):Ext G w h nx G' (w.alloc o) h' nx':=⟨k3r J.lim o M,X,by grind,λtok t' B h1=>by rw[U tok B]at h1;refine⟨t',h1,qaf _,λ_ b F=>?_⟩;have:=(J.here tok b B (.inr F)).1;grind[Below.heap_alloc],λb n F=>by grind[k4b,Below.heap_alloc,csz_lt]⟩
theorem k6m(F:WR T w0.heap.size G w h nx)(o:Obj){G':Gh}{h':Hp}{nx':Nat}(he:Ext G w h nx G' (w.alloc o) h' nx')(B:∀id es,h'.get id=some (.map es)->h.get id=some (.map es)):MapR G' (w.alloc o) h' nx':=F.mob.ext he B F.hid λid b es J M=>Below.heap_alloc w o b (F.here id b (F.hid _ _ (B id es J)) (.inl M)).1
theorem R.allocP(Z:R T G0 w0 N s a G w)(e:TypeId)(cs:List Value)(l:List V)(aa:l.length<=cs.length)(ab:∀x∈l,x.one=true)(hr:∀(j:Nat)v x,cs[j]?=some v->l[j]?=some x->RepV G w s.h s.nx v x):∃G',R T G0 w0 N ⟨s.sl,(s.nx,.cells l)::s.h,s.nx+1⟩ a G' (w.alloc (.cells cs.toArray e))/\RepV G' (w.alloc (.cells cs.toArray e)) ((s.nx,.cells l)::s.h) (s.nx+1) (.pointer (some ⟨w.heap.size,0,none⟩)) (.ptr s.nx 0):=by
 have M:=Z.wr;let G':Gh:=⟨λi=>if i=s.nx then some w.heap.size else G.loc i,λi=>if i=s.nx then none else G.tloc i,G.lim⟩;have U:∀i,i<s.nx->G'.loc i=G.loc i/\G'.tloc i=G.tloc i:=λi hi=>by simp[G',show i≠s.nx by omega]
 have Y:∀i,i<s.nx->Hp.get ((s.nx,.cells l)::s.h) i=s.h.get i:=λi hi=>by simp[Hp.get,show i≠s.nx by omega]
 have he:=kkt (w0:=w0) M (.cells cs.toArray e) G' ((s.nx,.cells l)::s.h) (λ_ _=>rfl) U Y (nx':=s.nx+1) qqo;refine⟨G',⟨Z.fr.alloc M.lim _ G' λ_ _=>rfl,⟨?_,k6m M _ he λid es X=>by simp only[Hp.get]at X;split at X;(. cases X);exact X,?_,?_,?_,?_⟩,Z.df,Z.sz,λt=>(Z.sl t).ext he,Z.ex.ext he⟩,.ptr _ _ _ qqo (by simp[G'])⟩
 .intro id l' B;simp only[Hp.get]at B;split at B;.rename_i F;subst F;injection B with B;injection B with B;subst B;exact .inr ⟨w.heap.size,e,cs,by simp[G'],qdj w _,M.lim _ (qaf _),aa,ab,λj v x hv hx=>(hr j v x hv hx).ext he⟩
  .have F:=M.hid id _ B;rcases M.obj id l' B with⟨z1,z2⟩|⟨b,e',cs',h1,h2,h3,h4,h5,h6⟩;.exact .inl ⟨z1,by rw[(U id F).1];exact z2⟩
   have J:=(M.here id b F (.inl h1)).1;exact .inr ⟨b,e',cs',by rw[(U id F).1];exact h1,by rw[Below.heap_alloc w _ b J];exact h2,h3,h4,h5,λj v x hv hx=>(h6 j v x hv hx).ext he⟩
 .intro id b F J;have F:id<s.nx+1:=F;by_cases hi:id=s.nx;.subst hi;simp[G']at J;subst J;have:=Z.fr.size;exact⟨by simp,.inl this⟩
  .have h1:=U id qqo;rw[h1.1,h1.2]at J;obtain⟨h2,h3⟩:=M.here id b qqo J;exact⟨by simp;omega,h3⟩
 .intro i j b hi hj ac ad li lj;have key:∀i,i<s.nx+1->G'.loc i=some b∨G'.tloc i=some b->i=s.nx/\b=w.heap.size∨i<s.nx/\b<w.heap.size/\(G.loc i=some b∨G.tloc i=some b):=by
   intro i hi J;by_cases h0:i=s.nx;.subst h0;simp[G']at J;exact .inl ⟨rfl,J.symm⟩
   .have h1:=U i qqo;rw[h1.1,h1.2]at J;exact .inr ⟨by omega,(M.here i b qqo J).1,J⟩
  rcases key i hi ac with⟨h1,h2⟩|⟨h1,h2,h3⟩<;>rcases key j hj ad with⟨h4,h5⟩|⟨h4,h5,h6⟩;.omega
  .omega
  .omega
  .exact M.inj i j b h1 h4 h3 h6 (live_eq (Y i h1) li) (live_eq (Y j h4) lj)
 .intro id ob X;show id<s.nx+1;simp only[Hp.get]at X;split at X;.omega
  .have:=M.hid id ob X;omega
 .intro b J;exact M.lim b (by simp at J;omega)
theorem R.alloc(J:R T G0 w0 N s a G w)(e:TypeId)(cs:List Value)(l:List V)(B:cs.length=l.length)(F:∀x∈l,x.one=true)(M:∀(j:Nat)v x,cs[j]?=some v->l[j]?=some x->RepV G w s.h s.nx v x):∃G',R T G0 w0 N ⟨s.sl,(s.nx,.cells l)::s.h,s.nx+1⟩ a G' (w.alloc (.cells cs.toArray e))/\RepV G' (w.alloc (.cells cs.toArray e)) ((s.nx,.cells l)::s.h) (s.nx+1) (.pointer (some ⟨w.heap.size,0,none⟩)) (.ptr s.nx 0):=J.allocP e cs l (qfj B.symm) F M
theorem R.allocAtP(hR:R T G0 w0 N s a G w)(k:Nat)(hk:k<s.nx)(ah:G.loc k=none)(ab:G.tloc k=none)(ai:s.h.get k=none)(e:TypeId)(cs:List Value)(l:List V)(ac:l.length<=cs.length)(ad:∀x∈l,x.one=true)(hr:∀(j:Nat)v x,cs[j]?=some v->l[j]?=some x->RepV G w s.h s.nx v x):∃G',R T G0 w0 N ⟨s.sl,(k,.cells l)::s.h,s.nx⟩ a G' (w.alloc (.cells cs.toArray e))/\RepV G' (w.alloc (.cells cs.toArray e)) ((k,.cells l)::s.h) s.nx (.pointer (some ⟨w.heap.size,0,none⟩)) (.ptr k 0)/\∀i,i≠k->G'.loc i=G.loc i/\G'.tloc i=G.tloc i:=by
 have J:=hR.wr;let G':Gh:=⟨λi=>if i=k then some w.heap.size else G.loc i,G.tloc,G.lim⟩;have M:∀i,i≠k->G'.loc i=G.loc i/\G'.tloc i=G.tloc i:=λi hi=>by simp[G',hi]
 have Z:∀i,i≠k->Hp.get ((k,.cells l)::s.h) i=s.h.get i:=λi hi=>by simp[Hp.get,hi]
 have he:Ext G w s.h s.nx G' (w.alloc (.cells cs.toArray e)) ((k,.cells l)::s.h) s.nx:=by
  refine⟨k3r J.lim _ λ_ _=>rfl,qaf _,λid b hi B=>?_,λtok t' ht h1=>?_,λb n B=>?_⟩
  .by_cases U:id=k;.subst U;rw[ah]at B;cases B
   .rw[(M id U).1];exact B
  .by_cases U:tok=k;.subst U;simp[Hp.get]at h1
   .rw[Z tok U]at h1;refine⟨t',h1,qaf _,λ_ b B=>?_⟩;have:=(J.here tok b ht (.inr B)).1;exact⟨B,Below.heap_alloc w _ b qqo,rfl⟩
  .rw[k4b (Below.heap_alloc w _ b (csz_lt B))];exact B
 refine⟨G',⟨hR.fr.alloc J.lim _ G' λ_ _=>rfl,⟨?_,k6m J _ he λid es Y=>by simp only[Hp.get]at Y;split at Y;(. cases Y);exact Y,?_,?_,?_,?_⟩,hR.df,hR.sz,λt=>(hR.sl t).ext he,hR.ex.ext he⟩,.ptr _ _ _ hk (by simp[G']),M⟩
 .intro id l' F;simp only[Hp.get]at F;split at F;.rename_i X;subst X;injection F with F;injection F with F;subst F;exact .inr ⟨w.heap.size,e,cs,by simp[G'],qdj w _,J.lim _ (qaf _),ac,ad,λj v x hv hx=>(hr j v x hv hx).ext he⟩
  .rename_i aa;rcases J.obj id l' F with⟨z1,z2⟩|⟨b,e',cs',h1,h2,h3,h4,h5,h6⟩;.exact .inl ⟨z1,by rw[(M id aa).1];exact z2⟩
   have X:=J.hid id _ F;have B:=(J.here id b X (.inl h1)).1;exact .inr ⟨b,e',cs',by rw[(M id aa).1];exact h1,by rw[Below.heap_alloc w _ b B];exact h2,h3,h4,h5,λj v x hv hx=>(h6 j v x hv hx).ext he⟩
 .intro id b X B;by_cases hi:id=k;.subst hi;simp[G',ab]at B;subst B;have:=hR.fr.size;exact⟨by simp,.inl this⟩
  .have h1:=M id hi;rw[h1.1,h1.2]at B;obtain⟨h2,h3⟩:=J.here id b X B;exact⟨by simp;omega,h3⟩
 .intro i j b hi hj ae ag li lj;have key:∀i,i<s.nx->G'.loc i=some b∨G'.tloc i=some b->i=k/\b=w.heap.size∨i≠k/\b<w.heap.size/\(G.loc i=some b∨G.tloc i=some b):=by
   intro i hi B;by_cases h0:i=k;.subst h0;simp[G',ab]at B;exact .inl ⟨rfl,B.symm⟩
   .have h1:=M i h0;rw[h1.1,h1.2]at B;exact .inr ⟨h0,(J.here i b hi B).1,B⟩
  rcases key i hi ae with⟨h1,h2⟩|⟨h1,h2,h3⟩<;>rcases key j hj ag with⟨h4,h5⟩|⟨h4,h5,h6⟩;.omega
  .omega
  .omega
  .exact J.inj i j b hi hj h3 h6 (live_eq (Z i h1) li) (live_eq (Z j h4) lj)
 .intro id ob Y;simp only[Hp.get]at Y;split at Y;.rename_i h;subst h;exact hk
  .exact J.hid id ob Y
 .intro b B;exact J.lim b (by simp at B;omega)
theorem R.allocAt(X:R T G0 w0 N s a G w)(k:Nat)(Y:k<s.nx)(J:G.loc k=none)(M:G.tloc k=none)(U:s.h.get k=none)(e:TypeId)(cs:List Value)(l:List V)(B:cs.length=l.length)(F:∀x∈l,x.one=true)(Z:∀(j:Nat)v x,cs[j]?=some v->l[j]?=some x->RepV G w s.h s.nx v x):∃G',R T G0 w0 N ⟨s.sl,(k,.cells l)::s.h,s.nx⟩ a G' (w.alloc (.cells cs.toArray e))/\RepV G' (w.alloc (.cells cs.toArray e)) ((k,.cells l)::s.h) s.nx (.pointer (some ⟨w.heap.size,0,none⟩)) (.ptr k 0)/\∀i,i≠k->G'.loc i=G.loc i/\G'.tloc i=G.tloc i:=X.allocAtP k Y J M U e cs l (qfj B.symm) F Z
theorem R.raise(F:R T G0 w0 N s a G w)(n:Nat):∃G',R T G0 w0 N ⟨s.sl,s.h,s.nx+n⟩ a G' w/\∀i,s.nx<=i->G'.loc i=none/\G'.tloc i=none:=by
 have J:=F.wr;let G':Gh:=⟨λi=>if i<s.nx then G.loc i else none,λi=>if i<s.nx then G.tloc i else none,G.lim⟩;have he:Ext G w s.h s.nx G' w s.h (s.nx+n):=⟨Mono.refl _ _,by omega,by grind,by grind,λ_ _ h=>h⟩;have B:∀i b,G'.loc i=some b∨G'.tloc i=some b->i<s.nx/\(G.loc i=some b∨G.tloc i=some b):=by grind
 refine⟨G',⟨⟨F.fr.os,F.fr.tape,F.fr.output,F.fr.size,F.fr.same,F.fr.mono⟩,⟨?_,J.mob.ext he (λ_ _ h=>h) J.hid λ_ _ _ _ _=>rfl,?_,?_,?_,J.lim⟩,F.df,F.sz,λt=>(F.sl t).ext he,F.ex.ext he⟩,by grind⟩
 .intro id l' M;have ac:=J.hid id _ M;rcases J.obj id l' M with⟨z1,z2⟩|⟨b,e',cs',h1,U,X,Y,h5,h6⟩;.grind
  exact .inr ⟨b,e',cs',by grind,U,X,Y,h5,λj v x hv hx=>(h6 j v x hv hx).ext he⟩
 .intro id b _ hb;obtain⟨h1,U⟩:=B id b hb;exact J.here id b h1 U
 .intro i j b _ _ Z aa li lj;obtain⟨h1,U⟩:=B i b Z;obtain⟨X,Y⟩:=B j b aa;exact J.inj i j b h1 X U Y li lj
 .intro id ob hg;have:=J.hid id ob hg;grind
theorem R.same{s':St}(F:R T G0 w0 N s a G w)(h1:∀t,getS s'.sl t=getS s.sl t)(J:∀i,s'.h.get i=s.h.get i)(M:s'.nx=s.nx):R T G0 w0 N s' a G w:=by
 have he:Ext G w s.h s.nx G w s'.h s'.nx:=⟨Mono.refl _ _,by omega,λ_ _ _ h=>h,by grind,λ_ _ h=>h⟩;have B:=F.wr;refine⟨F.fr,⟨?_,B.mob.ext he (by grind) B.hid λ_ _ _ _ _=>rfl,?_,?_,?_,B.lim⟩,F.df,F.sz,λt=>by rw[h1];exact(F.sl t).ext he,F.ex.ext he⟩
 .intro id l U;rw[J]at U;rcases B.obj id l U with h0|⟨b,Z,cs',k1,k2,k3,k4,k5,k6⟩;.grind
  exact .inr ⟨b,Z,cs',k1,k2,k3,k4,k5,λj v x hv hx=>(k6 j v x hv hx).ext he⟩
 .intro id b hi;rw[M]at hi;exact B.here id b hi
 .intro i j b hi X p q li lj;rw[M]at hi X;exact B.inj i j b hi X p q (live_eq (J i) li) (live_eq (J j) lj)
 .intro id ob Y;rw[J]at Y;rw[M];exact B.hid id ob Y
theorem R.same'(B:R T G0 w0 N s a G w){id:Nat}{o:Ob}(F:s.h.get id=some o):R T G0 w0 N ⟨s.sl,(id,o)::s.h,s.nx⟩ a G w:=B.same (λ_=>rfl) λi=>by
  by_cases hi:i=id;.subst hi;simp[Hp.get,F]
  .simp[Hp.get,hi] rfl
def Gh.setLim(G:Gh)(b m:Nat):Gh:=⟨G.loc,G.tloc,λi=>if i=b then m else G.lim i⟩
theorem k8n{base:Nat}(hw:WR T base G w h nx){id b m':Nat}(Y:id<nx)(Z:live h id)(hb:G.loc id=some b∨G.tloc id=some b){J cs':Array Value}{e:TypeId}(B:w.heap[b]?=some (.cells J e (0,0)))(hm:G.lim b<=m')(aa:∀o v,o<G.lim b->J[o]?=some v->cs'[o]?=some v)(ab:cs'.size=J.size)(ob:Ob)(ac:∀t',ob=.tip t'->∃t,h.get id=some (.tip t)/\t<t'):Ext G w h nx (G.setLim b m') (w.setRow b cs') ((id,ob)::h) nx:=by
 refine⟨?_,qaf _,λ_ _ _ h=>h,?_,?_⟩
 .intro M o v h1 h2;by_cases F:M=b;.subst F;refine⟨by simp only[Gh.setLim,qcj];omega,?_⟩;rw[cell_of_row w M o J e _ B]at h2;rw[cell_of_row _ M o cs' e _ (setRow_heap w M J cs' e _ B)];grind
  .refine⟨by simp only[Gh.setLim,qe F];exact h1,?_⟩;grind[World.cell?_of_block,setRow_other]
 .intro tok t' ht h1;simp only[Hp.get]at h1;split at h1;.grind
  .rename_i X;refine⟨t',h1,qaf _,λ_ M U=>?_⟩;have F:M≠b:=λh=>X (hw.inj tok id b ht Y (.inr (h▸U)) hb (k1i h1) Z);exact⟨U,setRow_other w b M cs' F,by simp only[Gh.setLim,qe F]⟩
 .intro M n hn;by_cases F:M=b;.subst F;rw[csz_of B]at hn;rw[csz_of (setRow_heap w M J cs' e _ B),ab];exact hn
  grind[k4b,setRow_other]
theorem Fr.setRow(F:Fr T G0 w0 G w)(hw:WR T w0.heap.size G w h nx){id b m':Nat}(X:id<nx)(hb:G.loc id=some b∨G.tloc id=some b){cs':Array Value}(B:Mono G.lim w (G.setLim b m').lim (w.setRow b cs')):Fr T G0 w0 (G.setLim b m') (w.setRow b cs'):=by
 refine⟨F.os,F.tape,F.output,by simpa using F.size,λJ M Y=>?_,F.mono.trans B⟩;have U:J≠b:=by
  rintro rfl;rcases(hw.here id J X hb).2 with h1|h1;.omega
  grind
 obtain⟨h1,Z⟩:=F.same J M Y;exact⟨by grind[setRow_other],by simp only[Gh.setLim,qe U];exact Z⟩
theorem k88{base:Nat}(M:WR T base G w h nx){id b m':Nat}(U:id<nx)(X:live h id)(hb:G.loc id=some b∨G.tloc id=some b){cs':Array Value}{h':Hp}{nx':Nat}(he:Ext G w h nx (G.setLim b m') (w.setRow b cs') h' nx'){B:Nat}(Y:B≠id){l:List V}(Z:h.get B=some (.cells l)):l=[]/\(G.setLim b m').loc B=none∨∃F e cs,(G.setLim b m').loc B=some F/\(w.setRow b cs').heap[F]?=some (.cells (List.toArray cs) e (0,0))/\(G.setLim b m').lim F=0/\l.length<=cs.length/\(∀x∈l,x.one=true)/\∀(j:Nat)v x,cs[j]?=some v->l[j]?=some x->RepV (G.setLim b m') (w.setRow b cs') h' nx' v x:=by
 rcases M.obj B l Z with⟨z1,z2⟩|⟨F,e,cs,h1,h2,h3,h4,h5,h6⟩;.exact .inl ⟨z1,z2⟩
 have J:F≠b:=λh=>Y (M.inj B id b (M.hid B _ Z) U (.inl (h▸h1)) hb (ki Z) X);exact .inr ⟨F,e,cs,h1,by grind[setRow_other],by simp only[Gh.setLim,qe J];exact h3,h4,h5,λj v x hv hx=>(h6 j v x hv hx).ext he⟩
theorem k8e{base:Nat}(J:WR T base G w h nx){b m':Nat}{M cs':Array Value}{e:TypeId}(U:w.heap[b]?=some (.cells M e (0,0))){h':Hp}{nx':Nat}(he:Ext G w h nx (G.setLim b m') (w.setRow b cs') h' nx')(B:∀id es,h'.get id=some (.map es)->h.get id=some (.map es)):MapR (G.setLim b m') (w.setRow b cs') h' nx':=J.mob.ext he B J.hid λid X es F Y=>by obtain⟨Z,h1,h2⟩:=(J.mob id es (B id es F)).blk;grind[setRow_other]
theorem k4k(G:Gh)(b:Nat):G.setLim b (G.lim b)=G:=by
 unfold Gh.setLim;have:(λi=>if i=b then G.lim b else G.lim i)=G.lim:=by grind
 rw[this]
def setAt(l:List V)(off:Nat)(cs:List V):List V:=l.take off++cs++l.drop (off+cs.length)
theorem getElem?_splice{α:Type}(l r:List α)(off j:Nat)(B:off+r.length<=l.length):(l.take off++r++l.drop (off+r.length))[j]?=if j<off then l[j]? else if j<off+r.length then r[j-off]? else l[j]?:=by grind
theorem R.storeAt(hR:R T G0 w0 N s a G w){id off b:Nat}{l:List V}(hl:s.h.get id=some (.cells l))(hb:G.loc id=some b){us:List Value}{xs:List V}(ak:us.length=xs.length)(al:∀u∈us,u.oneCell'=true)(am:∀(j:Nat)u c,us[j]?=some u->xs[j]?=some c->RepV G w s.h s.nx u c)(ao:∀c∈xs,c.one=true)(aq:off+xs.length<=l.length):∃w',(storeCells ⟨b,off,none⟩ us).run P w=.ok () w'/\R T G0 w0 N ⟨s.sl,(id,.cells (setAt l off xs))::s.h,s.nx⟩ a G w':=by
 have X:=hR.wr;have aa:=X.hid _ _ hl;rcases X.obj id l hl with⟨_,z2⟩|⟨U,e,cs,h1,h2,h3,h4,h5,h6⟩;.grind
 obtain rfl:U=b:=by grind
 have ad:=h3;have ae:(storeCells ⟨U,off,none⟩ us).run P w=.ok () (w.setRow U (cs.take off++us++cs.drop (off+us.length)).toArray):=by have:=run_storeCells_at P U off e us 0 cs.toArray w h2 qqm al;grind
 have he:=k8n (m':=G.lim U) (cs':=(cs.take off++us++cs.drop (off+us.length)).toArray) X aa (ki hl) (.inl hb) h2 (qaf _) (by grind) qqm (.cells (setAt l off xs)) λt' h=>by cases h
 have ag:=Fr.setRow (m':=G.lim U) hR.fr X aa (.inl hb) (cs':=(cs.take off++us++cs.drop (off+us.length)).toArray) he.mono;have ai:=λ{J:Nat}aj{l':List V}(B:s.h.get J=some (.cells l'))=>k88 (m':=G.lim U) X aa (ki hl) (.inl hb) he aj B;have Y:=k8e (m':=G.lim U) X h2 he (λid es hg=>by simp only[Hp.get]at hg;grind);rw[k4k]at he ag Y;refine⟨_,ae,⟨ag,⟨?_,Y,?_,λi j b hi hj h1 h2 l1 l2=>X.inj i j b hi hj h1 h2 (k1n (ki hl) l1) (k1n (ki hl) l2),?_,?_⟩,hR.df,hR.sz,λt=>(hR.sl t).ext he,hR.ex.ext he⟩⟩
 .intro J l' B;simp only[Hp.get]at B;split at B
  .rename_i ah;subst ah;injection B with B;injection B with B;subst B;refine .inr ⟨U,e,_,hb,setRow_heap w U cs.toArray _ e _ h2,ad,?_,?_,?_⟩;.simp only[setAt,qi,qu,qal];omega
   .intro y hy;simp only[setAt,qae]at hy;grind
   .intro j v' x' M F;rw[getElem?_splice _ _ _ _ qqo]at M;unfold setAt at F;rw[getElem?_splice _ _ _ _ qqo]at F;rw[ak]at M;split at M;.rename_i hj;rw[qg hj]at F;exact(h6 j v' x' M F).ext he
    .rename_i hj;rw[qe hj]at F;split at M;.rename_i ab;rw[qg ab]at F;exact(am _ _ _ M F).ext he
     .rename_i ab;rw[qe ab]at F;exact(h6 j v' x' M F).ext he
  grind[k4k]
 .intro J ac hi Z;have:=X.here J ac hi Z;simp_all
 .intro J ob hg;simp only[Hp.get]at hg;split at hg;.grind
  .exact X.hid J ob hg
 .intro ac Z;exact X.lim ac (by simp_all)
theorem kvo{v:Value}{x:V}(X:RepV G w h nx v x)(J:∀c∈x.cells,c.one=true):∃us:List Value,v.cells=us.toArray/\us.length=x.cells.length/\(∀u∈us,u.oneCell'=true)/\∀(j:Nat)u c,us[j]?=some u->x.cells[j]?=some c->RepV G w h nx u c:=by
 have B:∀v x,x.cells=[x]->v.cells=#[v]->x.one=true->RepV G w h nx v x->∃us:List Value,v.cells=us.toArray/\us.length=x.cells.length/\(∀u∈us,u.oneCell'=true)/\∀(j:Nat)u c,us[j]?=some u->x.cells[j]?=some c->RepV G w h nx u c:=by intro v x Y Z M e4;refine⟨[v],by rw[Z],by rw[Y];rfl,λu F=>by simp at F;subst F;exact e4.one M,λj u c F hc=>?_⟩;grind
 cases x with
 |agg lx=>cases X with|agg vs _ hlen hone' hr=>
  refine⟨vs,rfl,hlen,λu F=>?_,hr⟩;obtain⟨j,hj,rfl⟩:=qby F;have U:j<lx.length:=by omega
  exact(hr j _ _ (by grind) (qf U)).one (by grind)
 |_=>have M:=J _ (qah.2 rfl);have e5:=X.one M;exact B _ _ rfl (by cases v<;>first|rfl|cases e5) M X
theorem R.store(hR:R T G0 w0 N s a G w){id off:Nat}{l:List V}(hl:s.h.get id=some (.cells l)){v B:Value}{x:V}(hx:RepV G w s.h s.nx v x)(ha:RepV G w s.h s.nx B (.ptr id off))(F:∀c∈x.cells,c.one=true){t:TypeId}{g:Bool}{n:Nat}(ht:tyOf P t=some (g,n))(hn:x.cells.length=n)(aa:off+n<=l.length):∃w',(Instr.storeAt t B v).run P w=.ok () w'/\R T G0 w0 N ⟨s.sl,(id,.cells (setAt l off x.cells))::s.h,s.nx⟩ a G w':=by cases ha with|ptr _ _ b hid hb=>obtain⟨us,J,M,U,X⟩:=kvo hx F;obtain⟨w',Z,Y⟩:=hR.storeAt (P:=P) (off:=off) hl hb M U X F qqo;have hsz:=(kw ht w).2;simp only[Instr.storeAt,Instr.sureAddr,storeVar,qw,qag,qj,hsz];grind
theorem R.newRow(hR:R T G0 w0 N s a G w)(e:TypeId)(cs:List Value)(sz:Nat)(l:List D)(vs:List Value)(hsz:∀d∈l,d.cells.length=sz/\∀c∈d.cells,c.one=true)(X:vs.length=(l.flatMap D.cells).length)(ak:cs.take vs.length=vs)(hr:∀(j:Nat)u c,vs[j]?=some u->(l.flatMap D.cells)[j]?=some c->RepD G.lim w u c)(k nx':Nat)(h':Hp)(hk:k=s.nx/\nx'=s.nx+1∨k<s.nx/\nx'=s.nx)(hh:∀i,i≠k->h'.get i=s.h.get i)(am:∀ob,h'.get k=some ob->∃t',ob=.tip t'/\(k<s.nx->∃t,s.h.get k=some (.tip t)/\t<t')):∃G',R T G0 w0 N ⟨s.sl,h',nx'⟩ a G' (w.alloc (.cells cs.toArray e))/\Ext G w s.h s.nx G' (w.alloc (.cells cs.toArray e)) h' nx'/\(∀cap,l.length<=cap->cap<=maxLen->RepD G'.lim (w.alloc (.cells cs.toArray e)) (.slice (some ⟨w.heap.size,0,none⟩) l.length cap) (.slice sz l))/\G'.tloc k=some w.heap.size/\G'.lim w.heap.size=l.length*sz/\∀i,i≠k->i<s.nx->G'.loc i=G.loc i/\G'.tloc i=G.tloc i:=by
 have F:=hR.wr;have al:vs.length=l.length*sz:=by rw[X,kp hsz]
 let G':Gh:=⟨λi=>if i=k/\s.nx<=i then none else G.loc i,λi=>if i=k then some w.heap.size else G.tloc i,λb=>if b=w.heap.size then vs.length else G.lim b⟩;have hm:∀b,b≠w.heap.size->G'.lim b=G.lim b:=λb B=>by grind
 have U:∀i,i<s.nx->G'.loc i=G.loc i:=(by grind);have ab:∀i,i≠k->G'.tloc i=G.tloc i:=λi hi=>by grind
 have J:Mono G.lim w G'.lim (w.alloc (.cells cs.toArray e)):=k3r F.lim _ hm;have he:Ext G w s.h s.nx G' (w.alloc (.cells cs.toArray e)) h' nx':=by
  refine⟨J,by omega,by grind,λtok t' ht h1=>?_,λb n B=>by grind[k4b,Below.heap_alloc,csz_lt]⟩;by_cases ac:tok=k;.grind
  .rw[hh tok ac]at h1;refine⟨t',h1,qaf _,λ_ b B=>?_⟩;have:=(F.here tok b ht (.inr B)).1;grind[Below.heap_alloc]
 have key:∀i b,i<nx'->G'.loc i=some b∨G'.tloc i=some b->i=k/\b=w.heap.size∨i<s.nx/\b<w.heap.size/\(G.loc i=some b∨G.tloc i=some b):=by
  intro i b hi B;by_cases M:i=k
  .subst M;rcases B with B|B
   .rcases hk with⟨h1,h2⟩|⟨h1,h2⟩;.grind
    .rw[U i h1]at B;exact .inr ⟨h1,(F.here i b h1 (.inl B)).1,.inl B⟩
   grind
  .have Y:i<s.nx:=by omega
   rw[U i Y,ab i M]at B;exact .inr ⟨Y,(F.here i b Y B).1,B⟩
 refine⟨G',⟨hR.fr.alloc F.lim _ G' hm,⟨?_,k6m F _ he (by grind),?_,?_,?_,?_⟩,hR.df,hR.sz,λt=>(hR.sl t).ext he,hR.ex.ext he⟩,he,?_,by simp[G'],by grind,by grind⟩
 .intro id l' Z;have ad:id≠k:=by grind
  rw[hh id ad]at Z;have aa:=F.hid id _ Z;rcases F.obj id l' Z with⟨z1,z2⟩|⟨b,e',cs',h1,h2,h3,h4,h5,h6⟩;.grind
  have B:=(F.here id b aa (.inl h1)).1;exact .inr ⟨b,e',cs',by grind,by grind[Below.heap_alloc],by grind,h4,h5,λj v x hv hx=>(h6 j v x hv hx).ext he⟩
 .intro id b aa B;have hs:=hR.fr.size;rcases key id b aa B with⟨h1,h2⟩|⟨h1,h2,h3⟩;.simp_all
  .exact⟨by simp;omega,(F.here id b h1 h3).2⟩
 .intro i j b hi hj ae ag li lj;have lv:∀i,i<s.nx->live h' i->live s.h i:=by grind[live_of,k1i,live_eq]
  rcases key i b hi ae with⟨h1,h2⟩|⟨h1,h2,h3⟩<;>rcases key j b hj ag with⟨h4,h5⟩|⟨h4,h5,h6⟩;.omega
  .omega
  .omega
  .exact F.inj i j b h1 h4 h3 h6 (lv i h1 li) (lv j h4 lj)
 .intro id ob hg;show id<nx';by_cases M:id=k;.omega
  .rw[hh id M]at hg;have:=F.hid id ob hg;omega
 .intro b B;simp at B;rw[hm b qqo];exact F.lim b qqo
 .intro cap ah ai;have aj:∀(j:Nat)u,vs[j]?=some u->cs[j]?=some u:=by grind
  refine .slice w.heap.size 0 cap sz l vs ah ai hsz X (λj u hu=>?_) λj u c hu hc=>(hr j u c hu hc).mono J;have hj:j<vs.length:=(by grind);refine⟨by grind,?_⟩;simp_all
theorem RepD.flat{m:Nat->Nat}{v:Value}{sz:Nat}{l:List D}(U:RepD m w v (.slice sz l)):∃(A:Option Addr)(cap:Nat)(vs:List Value),v=.slice A l.length cap/\l.length<=cap/\cap<=maxLen/\(∀d∈l,d.cells.length=sz/\∀c∈d.cells,c.one=true)/\vs.length=(l.flatMap D.cells).length/\(A=none->l=[]/\cap=0)/\(∀ad,A=some ad->cap=0/\l=[]∨∃b off,ad=⟨b,off,none⟩/\∀j u,vs[j]?=some u->off+j<m b/\w.cell? ⟨b,off+j,none⟩=some u)/\∀(j:Nat)u c,vs[j]?=some u->(l.flatMap D.cells)[j]?=some c->RepD m w u c:=by cases U with
 |nil A=>exact⟨A,0,[],rfl,by simp,by grind,by simp,by simp,λ_=>⟨rfl,rfl⟩,by grind,by grind⟩|slice b off cap _ _ vs B F hsz J X M=>exact⟨_,cap,vs,rfl,B,F,hsz,J,by grind,by grind,M⟩
theorem k8l{l:List D}{m:Nat->Nat}{vs:List Value}(B:vs.length=(l.flatMap D.cells).length)(J:∀(j:Nat)u c,vs[j]?=some u->(l.flatMap D.cells)[j]?=some c->RepD m w u c):∀u∈vs,u.oneCell'=true:=by intro u F;obtain⟨j,M,rfl⟩:=qby F;exact(J j _ _ (by grind) (qf qqo)).one
def rowOf(P:Program)(t:TypeId):Option (Nat×Nat):=match P.underlying t with
 |some (.slice e)=>match P.info? e with
  |some i=>match i.zero with
   |some z=>if z.cells.size=i.size/\0<i.size then some (i.size,i.bytes)else none|none=>none
  |none=>none
 |_=>none
theorem k2d{t:TypeId}{sz B:Nat}(F:rowOf P t=some (sz,B)):∃e i z,P.underlying t=some (.slice e)/\P.info? e=some i/\i.zero=some z/\z.cells.size=sz/\0<sz/\i.size=sz/\i.bytes=B:=by unfold rowOf at F;grind
theorem k4r{m:Nat->Nat}{v:Value}{sz:Nat}{l:List D}{A:Option Addr}{cap:Nat}{vs:List Value}(M:v=.slice A l.length cap)(hsz:∀d∈l,d.cells.length=sz/\∀c∈d.cells,c.one=true)(J:vs.length=(l.flatMap D.cells).length)(F:A=none->l=[]/\cap=0)(U:∀B,A=some B->cap=0/\l=[]∨∃b off,B=⟨b,off,none⟩/\∀j u,vs[j]?=some u->off+j<m b/\w.cell? ⟨b,off+j,none⟩=some u):(Builtin.firstCells sz l.length v).run P w=.ok vs.toArray w:=by subst M;cases A with
 |none=>have:vs=[]:=(by grind);subst this;simp[Builtin.firstCells]|some B=>grind[run_firstCells_some,kp,add_mk]
theorem k5y(t ty e:TypeId)(i:TypeInfo)(ht:P.underlying t=some (.slice e))(hi:P.info? e=some i)(g off n cap m:Nat)(F:Array Value)(Y:TypeId)(hg:w.heap[g]?=some (.cells F Y (0,0)))(U:Value)(X:∃A c,U=.slice A m c)(B:List Value)(hf:(Builtin.firstCells i.size m U).run P w=.ok B.toArray w)(h1:∀u∈B,u.oneCell'=true)(J:n+m<=cap)(Z:off+n*i.size+B.length<=F.size):(Builtin.append_ #[t,t] ty #[.slice (some ⟨g,off,none⟩) n cap,U]).run P w=.ok (.slice (some ⟨g,off,none⟩) (n+m) cap) (w.setRow g (F.toList.take (off+n*i.size)++B++F.toList.drop (off+n*i.size+B.length)).toArray):=by obtain⟨A,c,rfl⟩:=X;have M:=run_storeCells_at P g (off+n*i.size) Y B 0 F w hg qqo h1;simp[Builtin.append_,qam ht,sizeOf,typeInfo,hi,Builtin.lenOf,J,hf,add_mk,M]
theorem k1e(t ty e:TypeId)(i:TypeInfo)(M:P.underlying t=some (.slice e))(hi:P.info? e=some i)(A:Option Addr)(n cap:Nat)(B:n<=cap)(F:Value)(J:∃A c,F=.slice A 0 c)(U:(Builtin.firstCells i.size 0 F).run P w=.ok #[] w):(Builtin.append_ #[t,t] ty #[.slice A n cap,F]).run P w=.ok (.slice A n cap) w:=by obtain⟨X,c,rfl⟩:=J;cases A<;>simp[Builtin.append_,qam M,sizeOf,typeInfo,hi,Builtin.lenOf,B,U,storeCells]
def growA(s:St)(sz:Nat):V->Option (Nat×Nat×List D)
 |.own tok z l=>if z=sz then match s.h.get tok with|some (.tip t)=>if t=l.length then some (tok,s.nx,l)else none|_=>none else none|.full z l=>if z=sz then some (s.nx,s.nx+1,l)else none|.k (.slice none 0 0)=>some (s.nx,s.nx+1,[])|_=>none
theorem R.append(hR:R T G0 w0 N s a G w){t:TypeId}{sz bt:Nat}(cp:rowOf P t=some (sz,bt)){x y:V}{vx vy:Value}(hx:RepV G w s.h s.nx vx x)(hy:RepV G w s.h s.nx vy y){k nx':Nat}{l B:List D}(J:growA s sz x=some (k,nx',l))(du:y.els sz=some B)(hb:(l.length+B.length)*bt<=140737488355328)(ty:TypeId)(cq:l.length+B.length<=maxLen):∃v' w' G',(Builtin.append_ #[t,t] ty #[vx,vy]).run P w=.ok v' w'/\R T G0 w0 N ⟨s.sl,(k,.tip (l.length+B.length))::s.h,nx'⟩ a G' w'/\RepV G' w' ((k,.tip (l.length+B.length))::s.h) nx' v' (.own k sz (l++B))/\∀i,i≠k->i<s.nx->G'.loc i=G.loc i/\G'.tloc i=G.tloc i:=by
 obtain⟨e,i,z,hu,hi,hz,cr,dv,bg,dw⟩:=k2d cp;have X:=hR.wr;have bx:RepD G.lim w vx (.slice sz l)/\((k=s.nx/\nx'=s.nx+1/\∃A,vx=.slice A l.length l.length)∨k<s.nx/\nx'=s.nx/\s.h.get k=some (.tip l.length)/\Spare G w k sz l.length vx):=by
  unfold growA at J;split at J
  .rename_i tok z' l';split at J
   .rename_i bj;subst bj;split at J
    .rename_i t ht;split at J;.rename_i ac;simp only[qaq,qfo]at J;obtain⟨rfl,rfl,rfl⟩:=J;cases hx with|own _ _ _ _ hd htk hs=>grind
     .cases J
    .cases J
   .cases J
  .split at J;.rename_i bj;subst bj;simp only[qaq,qfo]at J;obtain⟨rfl,rfl,rfl⟩:=J;cases hx with|full A _ _ hd=>grind
   .cases J
  .simp only[qaq,qfo]at J;obtain⟨rfl,rfl,rfl⟩:=J;cases hx;exact⟨.nil none sz,.inl ⟨rfl,rfl,none,rfl⟩⟩
  .cases J
 obtain⟨bk,au⟩:=bx;have ct:=els_rep du hy;obtain⟨A,cap,vs,rfl,bz,ca,cb,bm,cc,dz,ea⟩:=bk.flat;obtain⟨A2,aw,F,bc,cu,cv,bh,ae,cd,cw,cx⟩:=ct.flat;have cy:(Builtin.firstCells i.size B.length vy).run P w=.ok F.toArray w:=by rw[bg];exact k4r bc bh ae cd cw
 have bn:=k8l ae cx;have ce:vs.length=l.length*sz:=by rw[bm,kp cb]
 have cf:F.length=B.length*sz:=by rw[ae,kp bh]
 have cz:k=s.nx/\nx'=s.nx+1∨k<s.nx/\nx'=s.nx:=by grind
 have hh:∀i,i≠k->Hp.get ((k,.tip (l.length+B.length))::s.h) i=s.h.get i:=λi hi=>by simp[Hp.get,hi]
 by_cases h0:B.length=0;.
  have cg:B=[]:=(by grind);subst cg;have Y:=k1e (P:=P) (w:=w) t ty e i hu hi A l.length cap bz vy ⟨A2,aw,bc⟩ (by grind);rcases au with⟨rfl,rfl,A',bd⟩|⟨am,rfl,ao,bf⟩;.
   let G':Gh:=⟨λi=>if i=s.nx then none else G.loc i,λi=>if i=s.nx then none else G.tloc i,G.lim⟩;have da:∀i,i<s.nx->G'.loc i=G.loc i/\G'.tloc i=G.tloc i:=(by grind);have he:Ext G w s.h s.nx G' w ((s.nx,.tip (l.length+([]:List D).length))::s.h) (s.nx+1):=⟨Mono.refl _ _,by omega,by grind,by grind,λ_ _ h=>h⟩;have ag:∀i b,i<s.nx+1->G'.loc i=some b∨G'.tloc i=some b->i<s.nx/\(G.loc i=some b∨G.tloc i=some b):=by grind
   refine⟨_,w,G',Y,⟨⟨hR.fr.os,hR.fr.tape,hR.fr.output,hR.fr.size,hR.fr.same,hR.fr.mono⟩,⟨?_,X.mob.ext he λid es J=>by simp only[Hp.get]at J;grind X.hid λ_ _ _ _ _=>rfl,?_,?_,?_,X.lim⟩,hR.df,hR.sz,λt=>(hR.sl t).ext he,hR.ex.ext he⟩,?_,λi _ db=>da i db⟩
   .intro id l' U;simp only[Hp.get]at U;split at U;.cases U
    .have ch:=X.hid id _ U;rcases X.obj id l' U with⟨z1,z2⟩|⟨b,e',cs',h1,h2,h3,h4,h5,h6⟩;.grind
     exact .inr ⟨b,e',cs',by grind,h2,h3,h4,h5,λj v x hv hx=>(h6 j v x hv hx).ext he⟩
   .intro id b ch hb;obtain⟨h1,h2⟩:=ag id b ch hb;exact X.here id b h1 h2
   .intro i j b hi hj dc dd li lj;obtain⟨h1,h2⟩:=ag i b hi dc;obtain⟨h3,h4⟩:=ag j b hj dd;exact X.inj i j b h1 h3 h2 h4 (live_eq (hh i qqo) li) (live_eq (hh j qqo) lj)
   .intro id ob J;show id<s.nx+1;simp only[Hp.get]at J;split at J;.omega
    .have:=X.hid id ob J;omega
   .rw[qcm];refine .own _ _ _ _ bk qqo λt' aq=>?_;simp only[Hp.get,qcj,qaq,Ob.tip.injEq]at aq;injection bd with _ _ bd;exact⟨by grind,λ_=>.inl bd⟩
  .
   have ai:∀i,Hp.get ((k,.tip (l.length+([]:List D).length))::s.h) i=s.h.get i:=by
    intro i;by_cases de:i=k;.subst de;simp[Hp.get,ao]
    grind
   have he:Ext G w s.h s.nx G w ((k,.tip (l.length+([]:List D).length))::s.h) s.nx:=⟨Mono.refl _ _,qaf _,λ_ _ _ h=>h,by grind,λ_ _ h=>h⟩;refine⟨_,w,G,Y,⟨hR.fr,⟨?_,X.mob.ext he (by grind) X.hid λ_ _ _ _ _=>rfl,X.here,λi j b hi hj h1 h2 l1 B=>X.inj i j b hi hj h1 h2 (live_eq (ai i) l1) (live_eq (ai j) B),?_,X.lim⟩,hR.df,hR.sz,λt=>(hR.sl t).ext he,hR.ex.ext he⟩,?_,λ_ _ _=>⟨rfl,rfl⟩⟩
   .intro id l' U;rw[ai]at U;rcases X.obj id l' U with h0|⟨b,e',cs',h1,h2,h3,h4,h5,h6⟩;.grind
    exact .inr ⟨b,e',cs',h1,h2,h3,h4,h5,λj v x hv hx=>(h6 j v x hv hx).ext he⟩
   .intro id ob J;rw[ai]at J;exact X.hid id ob J
   .rw[qcm];refine .own _ _ _ _ bk am λt' aq=>?_;grind
 .
  have aj:∀d∈l++B,d.cells.length=sz/\∀c∈d.cells,c.one=true:=by grind
  have aa:(vs++F).length=((l++B).flatMap D.cells).length:=by grind
  have ax:∀(j:Nat)(u:Value)(c:D),(vs++F)[j]?=some u->((l++B).flatMap D.cells)[j]?=some c->RepD G.lim w u c:=by grind
  have df:∃b2 ab,A2=some ⟨b2,ab,none⟩/\∀(j:Nat)(u:Value),F[j]?=some u->w.cell? ((⟨b2,ab,none⟩:Addr).add j)=some u:=by cases A2 with
   |none=>grind|some ad=>grind[add_mk]
  obtain⟨b2,ab,rfl,ak⟩:=df;by_cases ay:l.length+B.length<=cap;.
   rcases au with⟨_,_,A',bd⟩|⟨am,rfl,ao,bf⟩;.grind
   .simp only[Spare]at bf;rcases bf with bf|⟨b,off,M,e',rfl,ac,Z,dx,dy⟩;.omega
    .have bo:(l.length+B.length)*sz<=cap*sz:=qbh _ ay;rw[qca]at bo;have Y:=k5y (P:=P) (w:=w) t ty e i hu hi b off l.length cap B.length M e' Z vy ⟨_,_,bc⟩ F cy bn ay (by grind);rw[bg]at Y;have dg:∃b0 al,(⟨b,off,none⟩:Addr)=⟨b0,al,none⟩/\∀(j:Nat)(u:Value),vs[j]?=some u->al+j<G.lim b0/\w.cell? ⟨b0,al+j,none⟩=some u:=by grind
     obtain⟨b0,al,dh,ci⟩:=dg;injection dh with hb1 hb2;subst hb1;subst hb2;have cj:∀j,(M.toList.take (off+l.length*sz)++F++M.toList.drop (off+l.length*sz+F.length))[j]?=if j<off+l.length*sz then M.toList[j]? else if j<off+l.length*sz+F.length then F[j-(off+l.length*sz)]? else M.toList[j]?:=λj=>getElem?_splice _ _ _ _ qqm;have bq:∀t',Ob.tip (l.length+B.length)=.tip t'->∃t,s.h.get k=some (.tip t)/\t<t':=by grind
     have he:=k8n (m':=off+(l.length+B.length)*sz) (cs':=(M.toList.take (off+l.length*sz)++F++M.toList.drop (off+l.length*sz+F.length)).toArray) X am (k1i ao) (.inr ac) Z (by grind) (by grind) qqm (.tip (l.length+B.length)) bq;have di:=Fr.setRow (m':=off+(l.length+B.length)*sz) hR.fr X am (.inr ac) (cs':=(M.toList.take (off+l.length*sz)++F++M.toList.drop (off+l.length*sz+F.length)).toArray) he.mono;have dj:=λ{ah:Nat}(dk:ah≠k){l':List V}(U:s.h.get ah=some (.cells l'))=>k88 (m':=off+(l.length+B.length)*sz) X am (k1i ao) (.inr ac) he dk U;have dl:(G.setLim b (off+(l.length+B.length)*sz)).lim b=off+(l.length+B.length)*sz:=by simp[Gh.setLim]
     have ck:=k8e (m':=off+(l.length+B.length)*sz) X Z he (λid es J=>by simp only[Hp.get]at J;grind);refine⟨_,_,_,Y,⟨di,⟨?_,ck,?_,λi j b hi hj h1 h2 l1 B=>X.inj i j b hi hj h1 h2 (k1n (k1i ao) l1) (k1n (k1i ao) B),?_,?_⟩,hR.df,hR.sz,λt=>(hR.sl t).ext he,hR.ex.ext he⟩,?_,λ_ _ _=>⟨rfl,rfl⟩⟩;.intro ah l' U;simp only[Hp.get]at U;grind
     .intro ah az dm bi;have:=X.here ah az dm bi;simp_all
     .intro ah ob bs;simp only[Hp.get]at bs;split at bs;.grind
      .exact X.hid ah ob bs
     .intro az bi;have bu:w.heap.size<=az:=by simp_all
      have:az≠b:=by grind
      simp only[Gh.setLim,qe this];exact X.lim az bu
     .have ba:RepD (G.setLim b (off+(l.length+B.length)*sz)).lim (w.setRow b (M.toList.take (off+l.length*sz)++F++M.toList.drop (off+l.length*sz+F.length)).toArray) (.slice (some ⟨b,off,none⟩) (l++B).length cap) (.slice sz (l++B)):=by
       refine .slice b off cap sz (l++B) (vs++F) (by grind) ca aj aa (λj u hj=>?_) λj u c hj bv=>(ax j u c hj bv).mono he.mono;have dn:j<(vs++F).length:=(by grind);rw[qi,ce,cf,<-qca]at dn;refine⟨by grind,?_⟩;rw[cell_of_row _ b _ _ e' (0,0) (setRow_heap w b M _ e' _ Z),qfd,cj];by_cases dp:j<vs.length;.rw[qay dp]at hj;rw[qg qqo];grind[cell_of_row]
       .rw[qbw qqo]at hj;rw[qe qqo,qg (by grind),show off+j-(off+l.length*sz)=j-vs.length by omega];exact hj
      rw[qi]at ba;refine .own _ _ _ _ ba am λt' aq=>?_;simp only[Hp.get,qcj,qaq,Ob.tip.injEq]at aq;refine⟨by simp;omega,λ_=>.inr ⟨b,off,_,e',rfl,ac,setRow_heap w b M _ e' _ Z,by grind,?_⟩⟩;grind
  .
   have dq:=grownCap_ge w (l.length+B.length) cap e;have dr:=grownCap_le_maxLen w (l.length+B.length) cap e cq;have Y:(Builtin.append_ #[t,t] ty #[.slice A l.length cap,vy]).run P w=.ok (.slice (some ⟨w.heap.size,0,none⟩) (l.length+B.length) (grownCap w (l.length+B.length) cap e)) (w.drew.alloc (.cells (vs++F++(Builtin.zeroCells z.cells (grownCap w (l.length+B.length) cap e-(l.length+B.length))).toList).toArray e)):=by
    have cl:((l.length+B.length:Nat):Int)<=9223372036854775807:=by simp only[maxLen]at cq;omega
    have bw:Builtin.nextslicecap (l.length+B.length) cap*i.bytes<=281474976710656:=growslice_fits qqo (by grind);subst bc;cases A with
    |none=>
     obtain⟨rfl,rfl⟩:=cc rfl;have:vs=[]:=(by grind);subst this;have:=run_append_nil (P:=P) w t ty e i z hu hi hz ⟨b2,ab,none⟩ B.length aw F (by grind) ak qqo (by grind) (by grind);simp only[qan,qav,qcd];rw[this];congr 3;simp|some ad=>
     have cm:∀(j:Nat)(u:Value),vs[j]?=some u->w.cell? (ad.add j)=some u:=by grind[List.eq_nil_of_length_eq_zero,add_mk]
     have:=run_append_grow (P:=P) w t ty e i z hu hi hz ad l.length cap vs (by grind) cm ⟨b2,ab,none⟩ B.length aw F (by grind) ak qqo cl bw;rw[this];congr 3;simp
   have ds:=hR.drew;obtain⟨G',dt,he,cn,ac,co,hG⟩:=R.newRow ds e (vs++F++(Builtin.zeroCells z.cells (grownCap w (l.length+B.length) cap e-(l.length+B.length))).toList) sz (l++B) (vs++F) aj aa (by grind) (λj u c hj bv=>RepD.mono (m:=G.lim) (w:=w) (m':=G.lim) (w':=w.drew) (λ_ _ _ h1 h2=>⟨h1,h2⟩) (ax j u c hj bv)) k nx' ((k,.tip (l.length+B.length))::s.h) cz hh λob bq=>by simp only[Hp.get,qcj,qaq]at bq;grind
   have bb:=cn (grownCap w (l.length+B.length) cap e) (by simpa using dq) dr;rw[qi]at bb co;refine⟨_,_,G',Y,dt,.own _ _ _ _ bb qqo λt' aq=>?_,hG⟩;simp only[Hp.get,qcj,qaq,Ob.tip.injEq]at aq;refine⟨by simp;omega,λ_=>.inr ⟨w.heap.size,0,_,e,rfl,ac,qdj w.drew _,by simp_all,?_⟩⟩;simp only[qdp,qi,qdt,size_zeroCells,cr,ce,cf,qav];rw[<-qca,<-qca];grind
theorem RepV.full_inv{v:Value}{sz:Nat}{l:List D}(B:RepV G w h nx v (.full sz l)):∃A,v=.slice A l.length l.length/\RepD G.lim w v (.slice sz l):=by
 cases B<;>skip;rename_i A J;exact⟨A,rfl,J⟩
theorem RepV.k_inv{v u:Value}(F:RepV G w h nx v (.k u)):v=u:=by generalize B:V.k u=x at F;cases F<;>first|(injection B with B;exact B.symm)|cases B
def boundA(d:Nat):Option V->Option Int
 |none=>some d|some (.d (.int _ n))=>some n|some _=>none
def sliceA(K:V->Prop)(el:Option (Bool×Nat))(x:V)(B hi:Option V):Prop:=match el with
  |some (_,sz)=>match x.els sz with
    |some l=>match boundA 0 B,boundA l.length hi with
      |some a,some b=>0<=a/\a<=b/\b<=l.length/\match x,hi with
           |.full _ _,none=>K (.full sz (l.drop a.toNat))|.k _,_=>K x|_,_=>K (.d (.slice sz ((l.take b.toNat).drop a.toNat)))
      |_,_=>False
    |none=>False
  |none=>False
theorem k5v{sz:Nat}{l:List D}(h:∀d∈l,d.cells.length=sz/\∀c∈d.cells,c.one=true)(n:Nat):(l.take n).flatMap D.cells=(l.flatMap D.cells).take (n*sz):=by induction l generalizing n with
 |nil=>simp|cons d l F=>have h1:=(h d qqs).1;cases n with
  |zero=>simp|succ n=>simp;rw[F λx B=>h x (by simp[B]),qek,qfb,h1,show n*sz+sz-sz=n*sz by omega];rw[ql (l:=d.cells) qqo]
theorem kc4{sz:Nat}{l:List D}(h:∀d∈l,d.cells.length=sz/\∀c∈d.cells,c.one=true)(n:Nat):(l.drop n).flatMap D.cells=(l.flatMap D.cells).drop (n*sz):=by induction l generalizing n with
 |nil=>simp|cons d l F=>have h1:=(h d qqs).1;cases n with
  |zero=>simp|succ n=>simp;rw[F λx B=>h x (by simp[B]),qek,List.drop_append,h1,show n*sz+sz-sz=n*sz by omega];rw[@List.drop_eq_nil_of_le _ d.cells _ qqo,qcd]
theorem kt6{m:Nat->Nat}{v:Value}{sz:Nat}{l:List D}(Y:RepD m w v (.slice sz l)){a b:Nat}(ae:a<=b)(hb:b<=l.length):∃A cap,v=.slice A l.length cap/\l.length<=cap/\RepD m w (.slice (if cap=a then A else A.map (·.add (a*sz))) (b-a) (cap-a)) (.slice sz ((l.take b).drop a)):=by cases Y with
 |nil A=>
  have:b=0:=by simpa using hb
  subst this;have:a=0:=by omega
  subst this;exact⟨A,0,rfl,by simp,by simpa using RepD.nil (m:=m) (w:=w) A sz⟩|slice bk off cap _ _ vs Z ac hsz aa hc hr=>
  refine⟨_,cap,rfl,Z,?_⟩;have ab:((l.take b).drop a).length=b-a:=by simp;omega
  have F:((l.take b).drop a).flatMap D.cells=((l.flatMap D.cells).take (b*sz)).drop (a*sz):=by rw[kc4 λd Y=>hsz d (qba Y),k5v hsz]
  have J:∀B,(cap≠a->B=off+a*sz)->RepD m w (.slice (some ⟨bk,B,none⟩) ((l.take b).drop a).length (cap-a)) (.slice sz ((l.take b).drop a)):=by
   intro B ho;refine .slice bk B (cap-a) sz _ ((vs.take (b*sz)).drop (a*sz)) qqo qqo (λd Y=>hsz d (qba (qck Y))) (by rw[F];simp[aa]) ?_ ?_
   .intro j u U;rw[qbg,qbk]at U;split at U
    .have M:cap≠a:=by
      rintro rfl;have:b=cap:=by omega
      subst this;omega
     have:=hc _ _ U;rw[ho M,qed];exact this
    .cases U
   .intro j u c U X;rw[F,qbg,qbk]at X;rw[qbg,qbk]at U;split at U;.rename_i hj;rw[qg hj]at X;exact hr _ _ _ U X
    .cases U
  rw[ab]at J;by_cases M:cap=a;.rw[qg M];exact J off λh=>absurd M h
  .rw[qe M];simp only[qbn,add_mk];exact J _ λ_=>rfl
theorem kqx{K:V->Prop}{t:TypeId}{x:V}{lo hi:Option V}(Z:sliceA K (elemOf P t) x lo hi){vx:Value}(hx:RepV G w h nx vx x){vlo vhi:Option Value}(am:∀y,lo=some y->∃v,vlo=some v/\RepV G w h nx v y)(ao:∀y,hi=some y->∃v,vhi=some v/\RepV G w h nx v y)(aa:lo=none->vlo=none)(ab:hi=none->vhi=none):∃v z,(Instr.sliceAt t vx vlo vhi none).run P w=.ok v w/\RepV G w h nx v z/\K z:=by
 unfold sliceA at Z;split at Z;case h_2=>exact Z.elim
 rename_i ag sz aq;obtain⟨e,hu,ht⟩:=k5a aq;split at Z;case h_2=>exact Z.elim
 rename_i l hl;split at Z;case h_2=>exact Z.elim
 rename_i a b au ae;obtain⟨h0,aw,bb,hk⟩:=Z;have hd:=els_rep hl hx;obtain⟨J,rfl⟩:=qm h0;obtain⟨X,rfl⟩:=qm (qes h0 aw);have ah:J<=X:=by omega
 have Y:X<=l.length:=by omega
 obtain⟨A,cap,rfl,ba,M⟩:=kt6 hd ah Y;have hsz:=(kw ht w).2;have B:∀(d n:Nat)o vo,boundA d o=some n->(∀y,o=some y->∃v,vo=some v/\RepV G w h nx v y)->(o=none->vo=none)->vo=none/\n=d∨∃q,vo=some (.int q n):=by intro d n o vo F h1 h2;cases o with
  |none=>simp[boundA]at F;exact .inl ⟨h2 rfl,by omega⟩|some y=>
   obtain⟨v,hv,hr⟩:=h1 y rfl;unfold boundA at F;split at F;.contradiction
   .rename_i q n' hy;injection hy with hy;subst hy;injection F with F;subst F;cases hr with|d _ _ hd=>cases hd;exact .inr ⟨q,hv⟩
   .cases F
 have ai:=B 0 J lo vlo au am aa;have aj:=B l.length X hi vhi ae ao ab;have U:(Instr.sliceAt t (.slice A l.length cap) vlo vhi none).run P w=.ok (.slice (if cap=J then A else A.map (·.add (J*sz))) (X-J) (cap-J)) w:=by
  have c1:0<=X/\(X:Int)<=(cap:Int):=by omega
  have c2:(0:Int)<=(J:Int)/\(J:Int)<=(X:Int):=by omega
  clear hk am ao aa ab B;rcases ai with⟨rfl,rfl⟩|⟨q,rfl⟩<;>rcases aj with⟨rfl,rfl⟩|⟨q',rfl⟩<;>simp[Instr.sliceAt,qam hu,Instr.slice,Instr.sliceBounds,Instr.sliceBound,asIntOf,hsz]<;>(try simp_all)<;>(intros;exfalso;omega)
 split at hk;.
  rename_i z' l';have ax:l'=l/\z'=sz:=by unfold V.els at hl;split at hl<;>simp_all
  obtain⟨rfl,rfl⟩:=ax;obtain⟨A',ac,_⟩:=hx.full_inv;injection ac with _ _ ac;subst ac;have ak:X=l'.length:=by simp[boundA]at ae;omega
  subst ak;refine⟨_,_,U,?_,hk⟩;rw[qcb]at M;have al:(l'.drop J).length=l'.length-J:=by simp
  have:=RepV.full (h:=h) (nx:=nx) (G:=G) (w:=w) (if l'.length=J then A else A.map (·.add (J*z'))) z' (l'.drop J) (by rw[al];exact M);rw[al]at this;simpa using this
 .
  rename_i kv _;have ay:=hx.k_inv;subst ay;have az:l=[]:=by unfold V.els at hl;split at hl<;>simp_all
  subst az;have h1:X=0:=by simpa using Y
  subst h1;have h2:J=0:=by omega
  subst h2;refine⟨_,_,U,?_,hk⟩;have ad:A=none/\cap=0:=by unfold V.els at hl;split at hl<;>simp_all
  obtain⟨rfl,rfl⟩:=ad;exact .k _
 .exact⟨_,_,U,.d _ _ (by simpa using M),hk⟩
def cellTys(P:Program):Nat->TypeId->List TypeId
 |0,t=>[t]|n+1,t=>match P.underlying t with
  |some (.struct B)=>B.toList.flatMap λf=>cellTys P n f.type|some (.array m e)=>(List.range m).flatMap λ_=>cellTys P n e|_=>[t]
def zcell(P:Program)(v:Value)(ty:TypeId):V:=match v,elemOf P ty with
 |.slice none 0 0,some (_,sz)=>.full sz []|v,_=>V.ofK1 v
def zeroV(P:Program)(t:TypeId):Option (List V):=match P.info? t with
 |some i=>match i.zero with
  |some z=>if z.cells.all (·.oneCell')/\(cellTys P 16 t).length=z.cells.size then some (List.zipWith (zcell P) z.cells.toList (cellTys P 16 t))else none|none=>none
 |none=>none
theorem kty(v:Value)(ty:TypeId):RepV G w h nx v (zcell P v ty):=by
 unfold zcell;split;.exact .full none _ [] (.nil none _)
 .exact kec _
theorem ktb{v:Value}(ty:TypeId)(h1:v.oneCell'=true):(zcell P v ty).one=true:=by
 unfold zcell;split;.rfl
 .exact kod h1
def plOf(P:Program)(t:TypeId):Option (List (Nat×Nat)):=match P.underlying t with
 |some (.struct B)=>B.toList.mapM λf=>(tyOf P f.type).map λx=>(f.offset,x.2)|some (.array n e)=>(tyOf P e).map λx=>(List.range n).map λi=>(i*x.2,x.2)|_=>none
def V.flat(x:V)(n:Nat):Prop:=x.cells.length=n/\∀c∈x.cells,c.one=true
def fillV(pl:Nat->Option (Nat×Nat))(K:List V->Prop):List V->List (Nat×V)->Prop
 |l,[]=>K l|l,(i,x)::r=>match pl i with
  |some (off,n)=>x.flat n/\off+n<=l.length/\fillV pl K (setAt l off x.cells) r|none=>False
def rowRep(G:Gh)(w:World)(h:Hp)(nx:Nat)(cs:List Value)(l:List V):Prop:=cs.length=l.length/\(∀x∈l,x.one=true)/\∀(j:Nat)v x,cs[j]?=some v->l[j]?=some x->RepV G w h nx v x
theorem k6s{t:TypeId}{l:List V}(B:zeroV P t=some l):∃i z,P.info? t=some i/\i.zero=some z/\rowRep G w h nx z.cells.toList l:=by
 unfold zeroV at B;split at B
 .rename_i i hi;split at B
  .rename_i z J;split at B
   .rename_i F;injection B with B;subst B;obtain⟨F,M⟩:=F;refine⟨i,z,hi,J,by simp[M],λx U=>?_,λj v x X U=>?_⟩;.grind[List.getElem_of_mem,ktb]
    grind[kty]
   .cases B
  .cases B
 .cases B
theorem kbu{v:Value}{x:V}{n:Nat}(U:RepV G w h nx v x)(hf:x.flat n):v.cells.size=n/\rowRep G w h nx v.cells.toList x.cells:=by
 obtain⟨F,J⟩:=hf;have B:∀v x,x.cells=[x]->v.cells=#[v]->x.one=true->RepV G w h nx v x->v.cells.size=x.cells.length/\rowRep G w h nx v.cells.toList x.cells:=by intro v x X Y M e4;rw[X,Y];refine⟨rfl,rfl,by grind,λj u c hu hc=>?_⟩;grind
 rw[<-F];cases x with
 |agg lx=>cases U with|agg vs _ hlen' hone' hr=>exact⟨by simpa[Value.cells,V.cells]using hlen',hlen',hone',hr⟩
 |_=>have M:=J _ (qah.2 rfl);have Z:=U.one M;exact B _ _ rfl (by cases v<;>first|rfl|cases Z) M U
theorem rowRep.set{cs us:List Value}{l B:List V}(X:rowRep G w h nx cs l)(Y:rowRep G w h nx us B){off:Nat}(F:off+B.length<=l.length):rowRep G w h nx (cs.take off++us++cs.drop (off+us.length)) (setAt l off B):=by
 obtain⟨h1,Z,h3⟩:=X;obtain⟨g1,g2,g3⟩:=Y;refine⟨by simp only[setAt,qi,qu,qal];omega,λy J=>?_,λj v x M U=>?_⟩;.simp only[setAt]at J;grind
 .unfold setAt at U;grind
theorem kbo(off:Nat):∀us k(cs:Array Value),off+k+us.length<=cs.size->(us.zipIdx k).foldl (λcs x=>cs.setIfInBounds (off+x.2) x.1) cs=(cs.toList.take (off+k)++us++cs.toList.drop (off+k+us.length)).toArray
 |[],k,cs,_=>by simp|u::us,k,cs,B=>by
  simp only[List.zipIdx_cons,qfl];rw[kbo off us (k+1) _ (by grind)];apply congrArg List.toArray;apply qdg;intro j;have J:=getElem?_splice (cs.setIfInBounds (off+k) u).toList us (off+(k+1)) j (by grind);have M:=getElem?_splice cs.toList (u::us) (off+k) j (by grind);rw[J,M];simp only[Array.toList_setIfInBounds,qx,qef,qdt]at B⊢;by_cases F:j<off+k;.rw[qg qqo,qg F,qe qqo]
  .by_cases U:j=off+k;.subst U;grind
   .rw[qe qqo,qe F];by_cases X:j<off+(k+1)+us.length;.rw[qg X,qg qqo,show j-(off+k)=j-(off+(k+1))+1 by omega,qbc]
    grind
theorem ki4{pl:Nat->Option (Nat×Nat)}{K:List V->Prop}{ρ:Operand->Value}{ev:Operand->V}(M:∀x,RepV G w h nx (ρ x) (ev x)):∀(B:List (Nat×Operand))cs l,rowRep G w h nx cs l->fillV pl K l (B.map λp=>(p.1,ev p.2))->∃cs' U,Instr.fill pl cs.toArray (B.map λp=>(p.1,ρ p.2))=some (List.toArray cs')/\rowRep G w h nx cs' U/\K U
 |[],cs,l,X,F=>⟨cs,l,rfl,X,F⟩|(i,x)::B,cs,l,X,F=>by
  simp only[qaj,fillV]at F;split at F;.rename_i off n hp;obtain⟨hf,aa,F⟩:=F;obtain⟨hs,Y⟩:=kbu (M x) hf;have hn:=hf.1;have ab:=X.1;obtain⟨us,J⟩:∃us:List Value,(ρ x).cells=us.toArray:=(by grind);rw[J]at hs Y;simp at hs Y;obtain⟨cs',U,h1,h2,h3⟩:=ki4 M B _ _ (X.set Y qqo) F;simp only[qaj,Instr.fill];have Z:=kbo off us 0 cs.toArray qqm;grind
  grind
theorem k9r{α β:Type}(f:α->Sem β)(g:α->β):∀(l:List α),(∀x∈l,(f x).run P w=.ok (g x) w)->(l.mapM f).run P w=.ok (l.map g) w
 |[],_=>by simp|x::l,B=>by simp only[qfm,qw,B x qqs,qj,k9r f g l (by grind),qag,qaj]
theorem k8u{α β:Type}(f:α->Option β):∀(l:List α)r,l.mapM f=some r->r.length=l.length/\∀(j:Nat)x,l[j]?=some x->∃y,f x=some y/\r[j]?=some y
 |[],r,B=>by simp at B;subst B;exact⟨rfl,λj x M=>by simp at M⟩|x::l,r,B=>by simp only[qfm,Option.bind_eq_bind,Option.bind_eq_some_iff,Option.pure_def,qaq]at B;obtain⟨y,U,r',J,rfl⟩:=B;obtain⟨h1,X⟩:=k8u f l r' J;refine⟨by simp[h1],λj z F=>?_⟩;cases j with
  |zero=>simp at F;subst F;exact⟨y,U,by simp⟩|succ j=>simpa using X j z F
theorem kds{t:TypeId}{pl:List (Nat×Nat)}{l0:List V}{K:V->Prop}{ρ:Operand->Value}{ev:Operand->V}(ai:∀x,RepV G w h nx (ρ x) (ev x))(B:List (Nat×Operand))(F:plOf P t=some pl)(hz:zeroV P t=some l0)(hk:fillV (pl[·]?) (λl=>K (.agg l)) l0 (B.map λp=>(p.1,ev p.2))):∃v z,(Instr.build t (B.map λp=>(p.1,ρ p.2)).toArray).run P w=.ok v w/\RepV G w h nx v z/\K z:=by
 obtain⟨i,z,hi,ae,aa⟩:=k6s (G:=G) (w:=w) (h:=h) (nx:=nx) hz;obtain⟨cs',l',h1,h2,h3⟩:=ki4 ai B _ _ aa hk;refine⟨.agg cs'.toArray,.agg l',?_,.agg cs' l' h2.1 h2.2.1 h2.2.2,h3⟩;have ab:(zeroValue t).run P w=.ok z w:=by simp[zeroValue,typeInfo,hi,ae]
 unfold plOf at F;split at F
 .rename_i fs hu;obtain⟨hl,hp⟩:=k8u _ _ _ F;have ac:(fs.mapM (λf=>do pure (f.offset,<-sizeOf f.type):Field->Sem (Nat×Nat))).run P w=.ok pl.toArray w:=by
   rw[Array.mapM_eq_mapM_toList];have ad:=k9r (P:=P) (w:=w) (λf:Field=>do pure (f.offset,<-sizeOf f.type)) (λf=>(f.offset,((tyOf P f.type).map (·.2)).getD 0)) fs.toList λf hf=>by obtain⟨j,hj,rfl⟩:=qby hf;obtain⟨y,hy,_⟩:=hp j _ (qf hj);cases J:tyOf P fs.toList[j].type with
    |none=>rw[J]at hy;cases hy|some p=>simp only[qw,(kw J w).2,qj,qag,qbn,qbt]
   simp only[Sem.run_map,ad,qj];congr 2;apply qdg;intro j;rw[qr];cases hj:fs.toList[j]? with
   |none=>have:=List.getElem?_eq_none_iff.1 hj;exact(qfe qqo).symm|some f=>obtain⟨y,hy,ah⟩:=hp j f hj;rw[ah];cases J:tyOf P f.type with
    |none=>simp[J]at hy|some p=>simp[J]at hy⊢;exact hy
  simp only[Instr.build,qw,ab,qj,qam hu];rw[ac];simp only[qj];have:(λx:Nat=>pl.toArray[x]?)=λx:Nat=>pl[x]?:=by funext x;simp
  rw[this];have X:Instr.fill (λx:Nat=>pl[x]?) z.cells (B.map λp=>(p.1,ρ p.2))=some cs'.toArray:=by simpa using h1
  simp only[X,qag]
 .rename_i n e hu;cases Y:tyOf P e with
  |none=>simp[Y]at F|some q=>
   obtain⟨ag,sz⟩:=q;simp[Y]at F;subst F;simp only[Instr.build,qw,ab,qj,qam hu,(kw Y w).2];have Z:∀ps c r,Instr.fill (λx=>(List.map (λi=>(i*sz,sz)) (List.range n))[x]?) c ps=some r->Instr.fill (λi=>some (i*sz,sz)) c ps=some r:=by intro ps;induction ps with
    |nil=>intro c r M;exact M|cons p ps ih=>intro c r M;obtain⟨i',v'⟩:=p;simp only[Instr.fill]at M⊢;rw[qr]at M;cases U:(List.range n)[i']? with
     |none=>simp[U]at M|some q=>
      have:q=i':=by rw[qq]at U;obtain⟨_,hq⟩:=U;simp at hq;exact hq.symm
      subst this;simp only[U,qbn]at M;split at M;.cases M
      .rename_i hc;rw[qe hc];exact ih _ _ M
   have:=Z _ _ _ h1;have X:Instr.fill (λi=>some (i*sz,sz)) z.cells (B.map λp=>(p.1,ρ p.2))=some cs'.toArray:=by simpa using this
   simp only[X,qag]
 .cases F
def V.toD1:V->Option D
 |.d x=>some x|.own _ sz l=>some (.slice sz l)|.full sz l=>some (.slice sz l)|_=>none
def V.toD:V->Option D
 |.agg l=>(l.mapM V.toD1).map .agg|x=>x.toD1
theorem kn1{v:Value}{x:V}{d:D}(B:x.toD1=some d)(F:RepV G w h nx v x):RepD G.lim w v d:=by
 unfold V.toD1 at B;split at B;.injection B with B;subst B;cases F;assumption
 .injection B with B;subst B;cases F;assumption
 .injection B with B;subst B;exact F.full_inv.elim λ_ h=>h.2
 .cases B
theorem toD_rep{v:Value}{x:V}{d:D}(U:x.toD=some d)(hv:RepV G w h nx v x):v.cells.size=d.cells.length/\(∀c∈d.cells,c.one=true)/\∀(j:Nat)u c,v.cells.toList[j]?=some u->d.cells[j]?=some c->RepD G.lim w u c:=by
 unfold V.toD at U;split at U;.rename_i l;cases hm:l.mapM V.toD1 with
  |none=>simp[hm]at U|some ds=>simp[hm]at U;subst U;obtain⟨h1,Z⟩:=k8u _ _ _ hm;cases hv with|agg vs _ hlen hone Y=>
   have J:∀(j:Nat)u c,vs[j]?=some u->ds[j]?=some c->RepD G.lim w u c:=by
    intro j u c M B;have X:j<l.length:=by have:=(qq.1 M).1;omega
    obtain⟨y,aa,F⟩:=Z j _ (qf X);rw[B]at F;injection F with F;subst F;exact kn1 aa (Y j u _ M (qf X))
   refine⟨by simp[Value.cells,D.cells,hlen,h1],λc B=>?_,J⟩;obtain⟨j,X,rfl⟩:=qby B;have ab:j<vs.length:=by simp[D.cells]at X;omega
   exact(J j _ _ (qf ab) (qf X)).done
 .have Y:=kn1 U hv;have h1:=Y.one;have Z:=Y.done;have e1:v.cells=#[v]:=by cases v<;>first|rfl|cases h1
  have e2:d.cells=[d]:=by cases d<;>first|rfl|cases Z
  rw[e1,e2];refine⟨rfl,λc B=>by simp at B;subst B;exact Z,λj u c M B=>?_⟩;cases j with
  |zero=>simp at M B;subst M;subst B;exact Y|succ j=>simp at M
theorem kpp(sz:Nat):∀ps k cs,(∀j p,ps[j]?=some p->p.1=k+j/\p.2.cells.size=sz)->cs.size=(k+ps.length)*sz->Instr.fill (λi=>some (i*sz,sz)) cs ps=some (cs.toList.take (k*sz)++ps.flatMap λp=>p.2.cells.toList).toArray
 |[],k,cs,_,hs=>by simp only[Instr.fill,List.flatMap_nil,qcm];rw[ql (by grind)]|(i,v)::ps,k,cs,U,hs=>by
  obtain⟨h1,M⟩:=U 0 _ rfl;subst h1;have X:i*sz+sz<=cs.size:=by rw[hs,<-qek];exact qbh _ qqs
  simp only[Instr.fill,M];rw[qe qqm];obtain⟨us,J⟩:∃us:List Value,v.cells=us.toArray:=(by grind);rw[J]at M⊢;simp only[qdp]at M;have B:=kbo (i*sz) us 0 cs qqo;simp only[qcz]at B;rw[show(List.toArray us).zipIdx=(us.zipIdx 0).toArray by simp];simp;have F:=B;rw[F,kpp sz ps (i+1) _ λj p Y=>by have:=U (j+1) p (by grind);grind (by grind)];congr 2;rw[qek];simp only[qbe,List.toList_toArray,J];rw[<-qn];congr 1;rw[qn,qfb,ql qqm];congr 1;simp only[qu,qdt];simp_all
theorem R.buildRaw(hR:R T G0 w0 N s a G w){t:TypeId}{sz bt:Nat}(aj:rowOf P t=some (sz,bt))(B:List (Nat×Operand))(n:Nat)(Z:B.map (·.1)=List.range n){l:List D}(hl:B.mapM (λp=>(s.ev p.2).toD)=some l)(hsz:∀d∈l,d.cells.length=sz)(bf:n*sz<=16777216):∃(e:TypeId)(vs:List Value),(Instr.buildSlice t n (B.map λp=>(p.1,a.eval p.2)).toArray).run P w=.ok (.slice (some ⟨w.heap.size,0,none⟩) n n) (w.alloc (.cells vs.toArray e))/\vs.length=n*sz/\(∀d∈l,d.cells.length=sz/\∀c∈d.cells,c.one=true)/\(∀(j:Nat)u c,vs[j]?=some u->(l.flatMap D.cells)[j]?=some c->RepD G.lim w u c)/\l.length=n/\0<sz:=by
 obtain⟨e,i,z,U,hi,hz,bb,ab,ac,ba⟩:=k2d aj;obtain⟨bc,ak⟩:=k8u _ _ _ hl;have ad:B.length=n:=by have:=congrArg List.length Z;simpa using this
 have al:l.length=n:=by omega
 have F:∀j(p:Nat×Operand),B[j]?=some p->∃d,l[j]?=some d/\p.1=j/\(a.eval p.2).cells.size=sz/\d.cells.length=sz/\(∀c∈d.cells,c.one=true)/\∀(q:Nat)u c,(a.eval p.2).cells.toList[q]?=some u->d.cells[q]?=some c->RepD G.lim w u c:=by
  intro j p J;obtain⟨d,am,ae⟩:=ak j p J;obtain⟨g1,g2,g3⟩:=toD_rep am (hR.ev p.2);have ao:j<n:=by have:=(qq.1 J).1;omega
  have aa:(B.map (·.1))[j]?=some p.1:=by simp[J]
  rw[Z]at aa;simp[ao]at aa;have aq:=hsz d (qbm ae);exact⟨d,ae,aa.symm,by omega,aq,g2,g3⟩
 let ps:=B.map λp=>(p.1,a.eval p.2);let vs:=ps.flatMap λp=>p.2.cells.toList;have M:∀cs,cs.size=n*sz->Instr.fill (λi=>some (i*sz,sz)) cs ps=some vs.toArray:=by
  intro cs au;have:=kpp sz ps 0 cs (λj p J=>by simp only[ps,qr,qac]at J;obtain⟨q,X,rfl⟩:=J;obtain⟨d,_,h2,h3,_⟩:=F j q X;exact⟨by simpa using h2,h3⟩) (by simp[ps,ad,au]);simpa using this
 have ag:(Instr.buildSlice t n ps.toArray).run P w=.ok (.slice (some ⟨w.heap.size,0,none⟩) n n) (w.alloc (.cells vs.toArray e)):=by
  have aw:(zeroValue e).run P w=.ok z w:=by simp[zeroValue,typeInfo,hi,hz]
  have ax:(sizeOf e).run P w=.ok sz w:=by simp[sizeOf,typeInfo,hi,ac]
  have bd:¬2^24<n*sz:=by omega
  simp only[Instr.buildSlice,qw,qam U,qj,ax];rw[qe qqo];by_cases h0:n*sz=0;.simp only[h0,qcj,qag,qj,qw];rw[M _ (by simp[h0])];rfl
  .simp only[qe h0,qw,aw,qag,qj];rw[M _ qqs];rfl
 have ay:vs.length=n*sz:=by
  have:∀(q:List (Nat×Value)),(∀p∈q,p.2.cells.size=sz)->(q.flatMap λp=>p.2.cells.toList).length=q.length*sz:=by intro q X;induction q with
   |nil=>simp|cons p q ih=>have h1:=X p qqs;have h2:=ih λx hx=>X x (by simp[hx]);simp only[qbe,qi,qdt,qx,h1,h2,qek];omega
  rw[this ps λp hp=>by simp only[ps,qap]at hp;obtain⟨q,X,rfl⟩:=hp;obtain⟨j,J,rfl⟩:=qby X;exact((F j _ (qf J)).choose_spec).2.2.1];simp[ps,ad]
 have ah:∀d∈l,d.cells.length=sz/\∀c∈d.cells,c.one=true:=by intro d hd;obtain⟨j,J,rfl⟩:=qby hd;obtain⟨d',h1,_,_,h4,h5,_⟩:=F j _ (qf qqo);rw[qf J]at h1;injection h1 with h1;subst h1;exact⟨h4,h5⟩
 have ai:∀(j:Nat)u c,vs[j]?=some u->(l.flatMap D.cells)[j]?=some c->RepD G.lim w u c:=by
  have az:∀(q:List (Nat×Value))(m:List D),q.length=m.length->(∀(j:Nat)(p:Nat×Value)(d:D),q[j]?=some p->m[j]?=some d->p.2.cells.size=d.cells.length/\∀(r:Nat)(u:Value)(c:D),p.2.cells.toList[r]?=some u->d.cells[r]?=some c->RepD G.lim w u c)->∀(j:Nat)(u:Value)(c:D),(q.flatMap λp=>p.2.cells.toList)[j]?=some u->(m.flatMap D.cells)[j]?=some c->RepD G.lim w u c:=by intro q;induction q with
   |nil=>intro m _ _ j u c U;simp at U|cons p q ih=>intro m Y hh j u c U hc;cases m with
    |nil=>simp at Y|cons d m=>
     obtain⟨k1,k2⟩:=hh 0 p d rfl rfl;simp only[qbe]at U hc;by_cases J:j<d.cells.length;.rw[qay qqm]at U;rw[qay J]at hc;exact k2 j u c U hc
     .rw[qbw qqm]at U;rw[qbw qqo]at hc;rw[qdt,k1]at U;exact ih m (by simpa using Y) (λj p d hp hd=>hh (j+1) p d (by simpa using hp) (by simpa using hd)) _ u c U hc
  refine az ps l (by simp[ps];omega) λj p d hp hd=>?_;simp only[ps,qr,qac]at hp;obtain⟨q,X,rfl⟩:=hp;obtain⟨d',h1,_,h3,h4,_,h6⟩:=F j q X;rw[hd]at h1;injection h1 with h1;subst h1;exact⟨by show(a.eval q.2).cells.size=_;omega,h6⟩
 exact⟨e,vs,ag,ay,ah,ai,al,ab⟩
theorem R.buildRow(hR:R T G0 w0 N s a G w){t:TypeId}{sz bt:Nat}(X:rowOf P t=some (sz,bt))(B:List (Nat×Operand))(n:Nat)(Y:B.map (·.1)=List.range n){l:List D}(hl:B.mapM (λp=>(s.ev p.2).toD)=some l)(hsz:∀d∈l,d.cells.length=sz)(ag:n*sz<=16777216):∃v w' G',(Instr.buildSlice t n (B.map λp=>(p.1,a.eval p.2)).toArray).run P w=.ok v w'/\R T G0 w0 N ⟨s.sl,(s.nx,.cells ((l.flatMap D.cells).map .d))::s.h,s.nx+1⟩ a G' w'/\RepV G' w' ((s.nx,.cells ((l.flatMap D.cells).map .d))::s.h) (s.nx+1) v (.row s.nx 0 n sz):=by
 obtain⟨e,vs,F,aa,J,M,ah,U⟩:=hR.buildRaw X B n Y hl hsz ag;obtain⟨G',ab,hp⟩:=hR.alloc e vs ((l.flatMap D.cells).map .d) (by grind[kp]) (λc Z=>by obtain⟨d,hd,rfl⟩:=qap.1 Z;obtain⟨x,hx,ac⟩:=qdv.1 hd;exact(J x hx).2 d ac) λj u c hu Z=>by rw[qr,qac]at Z;obtain⟨d,hd,rfl⟩:=Z;exact .d _ _ (M j u d hu hd)
 refine⟨_,_,G',F,ab,?_⟩;have ad:n<=maxLen:=by have:n<=n*sz:=qey _ U;simp only[maxLen];omega
 cases hp with|ptr _ _ b ae hl=>refine .row s.nx 0 n sz w.heap.size 0 n _ ae hl (λ_=>rfl) (qaf _) ad (csz_of (qdj w _)) ?_;simp[aa]
theorem R.buildSlice(hR:R T G0 w0 N s a G w){t:TypeId}{sz bt:Nat}(X:rowOf P t=some (sz,bt))(B:List (Nat×Operand))(n:Nat)(Y:B.map (·.1)=List.range n){l:List D}(hl:B.mapM (λp=>(s.ev p.2).toD)=some l)(hsz:∀d∈l,d.cells.length=sz)(ad:n*sz<=16777216)(k nx':Nat)(hk:k=s.nx/\nx'=s.nx+1∨k<s.nx/\nx'=s.nx)(ag:s.h.get k=none):∃v w' G',(Instr.buildSlice t n (B.map λp=>(p.1,a.eval p.2)).toArray).run P w=.ok v w'/\R T G0 w0 N ⟨s.sl,s.h,nx'⟩ a G' w'/\RepV G' w' s.h nx' v (.full sz l)/\∀i,i≠k->i<s.nx->G'.loc i=G.loc i/\G'.tloc i=G.tloc i:=by
 obtain⟨e,vs,F,ae,J,M,Z,U⟩:=hR.buildRaw X B n Y hl hsz ad;obtain⟨G',aa,_,ab,_,_,hG⟩:=R.newRow hR e vs sz l vs J (by grind[kp]) qqs M k nx' s.h hk (λ_ _=>rfl) (by grind);refine⟨_,_,G',F,aa,?_,hG⟩;have ac:n<=maxLen:=by have:n<=n*sz:=qey _ U;simp only[maxLen];omega
 have:=ab n qqo ac;rw[<-Z]at this⊢;exact .full _ _ _ this
end
def eqFs1(P:Program):Nat->List Field->Option (List TypeDesc)
 |_,[]=>some []|k,f::B=>match f.name != "_"&&f.offset==k,tyOf P f.type,P.underlying f.type,eqFs1 P (k+1) B with
  |true,some (false,1),some u,some r=>some (u::r)|_,_,_,_=>none
def eqFs(P:Program):Nat->List Field->Option (List TypeDesc)
 |_,[]=>some []|k,f::B=>match f.name != "_"&&f.offset==k,tyOf P f.type,P.underlying f.type with
  |true,some (false,1),some u=>(eqFs P (k+1) B).map (u::·)|true,some (true,n),some (.struct gs)=>match !P.stoodInHeld f.type,eqFs1 P 0 gs.toList,eqFs P (k+n) B with
   |true,some r,some q=>if r.length=n then some (r++q)else none|_,_,_=>none
  |_,_,_=>none
def eqT(P:Program)(t:TypeId):Option (List TypeDesc):=match P.underlying t with
 |some (.struct B)=>match P.stoodInHeld t||P.eqGuardType P.depth t with
  |false=>eqFs P 0 B.toList|true=>none
 |some (.array n e)=>match P.eqGuardType P.depth t,tyOf P e,P.underlying e with
  |false,some (false,1),some u=>some (List.replicate n u)|_,_,_=>none
 |_=>none
def eqEl(d:Nat)(xs B:Array Value)(e:TypeId)(n:Nat):Ln->Sem Bool
 |[]=>pure true|i::is=>do
  let a<-part e xs (i*n);let b<-part e B (i*n);let r<-Op.equalIn d e a b;if(!r)=true then pure false else eqEl d xs B e n is
def eqCell:V->V->Bool
 |.d (.int _ a),.d (.int _ b)=>a==b|.d (.bool a),.d (.bool b)=>a==b|.d (.str a),.d (.str b)=>a==b|_,_=>false
def eqCellOk:TypeDesc->V->V->Prop
 |.int _,.d (.int k _),.d (.int B _)=>k=B|.bool,.d (.bool _),.d (.bool _)=>True|.string,.d (.str _),.d (.str _)=>True|_,_,_=>False
def eqL:List V->List V->Bool
 |x::xs,y::B=>eqCell x y&&eqL xs B|_,_=>true
def eqLOk:List TypeDesc->List V->List V->Prop
 |[],[],[]=>True|t::ts,x::xs,y::B=>eqCellOk t x y/\eqLOk ts xs B|_,_,_=>False
section
variable{P:Program}{G:Gh}{w:World}{h:Hp}{nx:Nat}
theorem k8d{t:TypeId}{u:TypeDesc}(F:P.underlying t=some u){x y:V}(J:eqCellOk u x y){v U:Value}(M:RepV G w h nx v x)(B:RepV G w h nx U y)(d:Nat):(Op.equalIn (d+1) t v U).run P w=.ok (eqCell x y) w:=by
 unfold eqCellOk at J;split at J;.subst J;cases M with|d _ _ hd=>cases hd;cases B with|d _ _ hd=>cases hd;simp[Op.equalIn,qam F,eqCell]
 .cases M with|d _ _ hd=>cases hd;cases B with|d _ _ hd=>cases hd;simp[Op.equalIn,qam F,eqCell]
 .cases M with|d _ _ hd=>cases hd;cases B with|d _ _ hd=>cases hd;simp[Op.equalIn,qam F,eqCell]
 grind
theorem kjx(d:Nat)(vs us:List Value)(l m:List V)(hl:vs.length=l.length)(hm:us.length=m.length)(hr:∀(j:Nat)v x,vs[j]?=some v->l[j]?=some x->RepV G w h nx v x)(hs:∀(j:Nat)v x,us[j]?=some v->m[j]?=some x->RepV G w h nx v x):∀J k ts,eqFs1 P k J=some ts->eqLOk ts (l.drop k) (m.drop k)->(Op.eqFields (d+1) vs.toArray us.toArray J).run P w=.ok (eqL (l.drop k) (m.drop k)) w
 |[],k,ts,he,F=>by
  simp only[eqFs1,qaq]at he;subst he;unfold eqLOk at F;split at F;.rename_i h1 U h3;simp[U,Op.eqFields,eqL]
  .grind
  grind|f::J,k,ts,he,F=>by
  simp only[eqFs1]at he;split at he
  .rename_i u r h1 U h3 h4;injection he with he;subst he;simp at h1;unfold eqLOk at F;split at F;.grind
   .rename_i t' ae x xs y ys X Y Z;injection X with X q1';subst X q1';have aa:l[k]?=some x:=by have:=congrArg (λl=>l[0]?) Y;grind
    have ab:m[k]?=some y:=by have:=congrArg (λl=>l[0]?) Z;grind
    have ac:l.drop (k+1)=xs:=by have:=congrArg List.tail Y;simpa using this
    have ad:m.drop (k+1)=ys:=by have:=congrArg List.tail Z;simpa using this
    have ag:k<l.length:=(by grind);have ah:k<m.length:=(by grind);have B:∀(M:List Value),k<M.length->(part f.type M.toArray f.offset).run P w=.ok (M[k]?.getD undef) w:=by intro M hk;rw[h1.2];simp only[part,qw,(kw U w).1,qj,qbo,qee];simp[hk]
    have e1:vs[k]?=some (vs[k]' qqo):=(by grind);have e2:us[k]?=some (us[k]' qqo):=(by grind);simp only[Op.eqFields,h1.1,not_false_eq_true,ne_eq,qcj,qw,B vs qqo,B us qqo,qj];rw[e1,e2,qbt,qbt,k8d h3 F.1 (hr k _ _ e1 aa) (hs k _ _ e2 ab) d];have ih:=kjx d vs us l m hl hm hr hs J (k+1) r h4 (by grind);simp only[qj,Sem.run_ite,Y,Z,eqL];rw[ac,ad]at ih;cases hc:eqCell x y with
    |true=>grind|false=>simp
   grind
  .cases he
theorem kap:∀r q l m,eqLOk (r++q) l m->eqLOk r (l.take r.length) (m.take r.length)/\eqLOk q (l.drop r.length) (m.drop r.length)/\r.length<=l.length/\r.length<=m.length
 |[],q,l,m,h=>⟨by simp[eqLOk],by simpa using h,by simp,by simp⟩|t::r,q,l,m,h=>by cases l with
  |nil=>simp[eqLOk]at h|cons x l=>cases m with
   |nil=>simp[eqLOk]at h|cons y m=>obtain⟨h1,B⟩:=h;obtain⟨F,J,M,U⟩:=kap r q l m B;exact⟨⟨h1,F⟩,J,by simpa using M,by simpa using U⟩
theorem eqL_app:∀n l m,n<=l.length->n<=m.length->eqL l m=(eqL (l.take n) (m.take n)&&eqL (l.drop n) (m.drop n))
 |0,l,m,_,_=>by simp[eqL]|n+1,[],m,h,_=>by simp at h|n+1,x::l,[],_,h=>by simp at h|n+1,x::l,y::m,h1,B=>by simp only[List.take_succ_cons,List.drop_succ_cons,eqL];rw[eqL_app n l m (by simpa using h1) (by simpa using B),Bool.and_assoc]
theorem kns(d:Nat)(vs us:List Value)(l m:List V)(hl:vs.length=l.length)(hm:us.length=m.length)(hr:∀(j:Nat)v x,vs[j]?=some v->l[j]?=some x->RepV G w h nx v x)(hs:∀(j:Nat)v x,us[j]?=some v->m[j]?=some x->RepV G w h nx v x):∀U k ts,eqFs P k U=some ts->eqLOk ts (l.drop k) (m.drop k)->(Op.eqFields (d+2) vs.toArray us.toArray U).run P w=.ok (eqL (l.drop k) (m.drop k)) w
 |[],k,ts,he,ho=>by
  simp only[eqFs,qaq]at he;subst he;unfold eqLOk at ho;split at ho;.rename_i h1 X h3;simp[X,Op.eqFields,eqL]
  .grind
  grind|f::U,k,ts,he,ho=>by
  have step:∀a b t n q,(f.name != "_")=true->(part f.type vs.toArray f.offset).run P w=.ok a w->(part f.type us.toArray f.offset).run P w=.ok b w->(Op.equalIn (d+2) f.type a b).run P w=.ok t w->eqFs P (k+n) U=some q->eqLOk q (l.drop (k+n)) (m.drop (k+n))->eqL (l.drop k) (m.drop k)=(t&&eqL (l.drop (k+n)) (m.drop (k+n)))->(Op.eqFields (d+2) vs.toArray us.toArray (f::U)).run P w=.ok (eqL (l.drop k) (m.drop k)) w:=by
   intro a b t n q Z pa pb he hq ac hE;have ih:=kns d vs us l m hl hm hr hs U (k+n) q hq ac;have Z:f.name≠ "_":=by simpa using Z
   simp only[Op.eqFields,Z,not_false_eq_true,ne_eq,qcj,qw,pa,pb,he,qj,Sem.run_ite];rw[hE];cases t with
   |true=>simpa using ih|false=>simp
  simp only[eqFs]at he;split at he
  .rename_i u h1 X h3;simp only[qh,beq_iff_eq]at h1;obtain⟨q,hq,rfl⟩:=qac.1 he;obtain⟨Y,o2,o3,o4⟩:=kap [u] q _ _ ho;simp only[qbs,qal,qdf]at Y o2 o3 o4;have aa:k<vs.length:=by omega
   have ab:k<us.length:=by omega
   have J:k<l.length:=by omega
   have M:k<m.length:=by omega
   have B:∀(F:List Value)hk,(part f.type F.toArray f.offset).run P w=.ok F[k] w:=by intro F hk;rw[h1.2];simp only[part,qw,(kw X w).1,qj,qbo,qee];simp[hk]
   rw[qbb J,qbb M]at Y;refine step _ _ _ 1 q h1.1 (B vs aa) (B us ab) (k8d h3 Y.1 (hr k _ _ (qf aa) (qf J)) (hs k _ _ (qf ab) (qf M)) (d+1)) hq o2 ?_;rw[qbb J,qbb M,eqL]
  .rename_i n gs h1 X h3;simp only[qh,beq_iff_eq]at h1;split at he
   .rename_i r q g1 g2 g3;split at he
    .rename_i Z;injection he with he;subst he;subst Z;obtain⟨Y,o2,o3,o4⟩:=kap r q _ _ ho;simp only[qal,qdf]at Y o2 o3 o4;have B:∀(F:List Value),(part f.type F.toArray f.offset).run P w=.ok (.agg ((F.drop k).take r.length).toArray) w:=by intro F;rw[h1.2];simp only[part,qw,(kw X w).1,(kw X w).2,qj,qcj,qag];congr 2;apply qdy;rw[Array.toList_extract];simp[List.extract_eq_take_drop]
     have sub:∀(F:List Value)(l:List V),(∀(j:Nat)v x,F[j]?=some v->l[j]?=some x->RepV G w h nx v x)->∀(j:Nat)v x,((F.drop k).take r.length)[j]?=some v->((l.drop k).take r.length)[j]?=some x->RepV G w h nx v x:=by
      intro F l hh j v x hv hx;rw[qbk]at hv hx;split at hv;.rename_i hj;rw[qg hj,qbg]at hx;rw[qbg]at hv;exact hh _ _ _ hv hx
      .cases hv
     have key:=kjx (P:=P) (w:=w) d ((vs.drop k).take r.length) ((us.drop k).take r.length) ((l.drop k).take r.length) ((m.drop k).take r.length) (by simp[hl]) (by simp[hm]) (sub vs l hr) (sub us m hs) gs.toList 0 r g2 (by simpa using Y);have hf:P.fieldsOf f.type=gs:=by simp[Program.fieldsOf,h3]
     refine step _ _ (eqL ((l.drop k).take r.length) ((m.drop k).take r.length)) r.length q h1.1 (B vs) (B us) ?_ g3 o2 ?_
     .have g1:P.stoodInHeld f.type=false:=by simpa using g1
      grind[run_equalIn_struct]
     .rw[eqL_app r.length (l.drop k) (m.drop k) (by simpa using o3) (by simpa using o4),qdf,qdf]
    .cases he
   .cases he
  .cases he
theorem kcz(w:World)(d:Nat)(t e:TypeId)(len n:Nat)(xs B:Array Value)(M:P.underlying t=some (.array len e))(hs:∀w,(sizeOf e).run P w=.ok n w):(Op.equalIn (d+1) t (.agg xs) (.agg B)).run P w=(eqEl d xs B e n (List.range' 0 len)).run P w:=by simp only[Op.equalIn,qw,qam M,qj,hs];simp;generalize List.range' 0 len=is;induction is generalizing w with
 |nil=>simp[eqEl]|cons f fs ih=>simp only[List.forIn_cons,eqEl,qw];generalize(part e xs (f*n)).run P w=U;cases U with
  |ok a F=>simp;generalize(part e B (f*n)).run P F=X;cases X with
   |ok b J=>simp;generalize(Op.equalIn d e a b).run P J=Y;cases Y with
    |ok r Z=>simp_all|halt x Z=>simp_all
   |halt x J=>simp_all
  |halt x F=>simp_all
theorem knm(d:Nat)(vs us:List Value)(l m:List V)(hl:vs.length=l.length)(hm:us.length=m.length)(hr:∀(j:Nat)v x,vs[j]?=some v->l[j]?=some x->RepV G w h nx v x)(hs:∀(j:Nat)v x,us[j]?=some v->m[j]?=some x->RepV G w h nx v x){e:TypeId}{u:TypeDesc}(he:tyOf P e=some (false,1))(hu:P.underlying e=some u):∀n k,eqLOk (List.replicate n u) (l.drop k) (m.drop k)->(eqEl (d+1) vs.toArray us.toArray e 1 (List.range' k n)).run P w=.ok (eqL (l.drop k) (m.drop k)) w
 |0,k,F=>by
  unfold eqLOk at F;split at F;.rename_i h1 h2 h3;simp[h2,eqEl,eqL]
  .grind
  grind|n+1,k,F=>by
  rw[qep]at F;unfold eqLOk at F;split at F;.grind
  .rename_i t' ac x xs y ys M U X;injection M with M q1';subst M q1';have Y:l[k]?=some x:=by have:=congrArg (λl=>l[0]?) U;grind
   have Z:m[k]?=some y:=by have:=congrArg (λl=>l[0]?) X;grind
   have aa:l.drop (k+1)=xs:=by have:=congrArg List.tail U;simpa using this
   have ab:m.drop (k+1)=ys:=by have:=congrArg List.tail X;simpa using this
   have ad:k<l.length:=(by grind);have ae:k<m.length:=(by grind);have B:∀(J:List Value),k<J.length->(part e J.toArray (k*1)).run P w=.ok (J[k]?.getD undef) w:=by intro J hk;rw[Nat.mul_one];simp only[part,qw,(kw he w).1,qj,qbo,qee];simp[hk]
   have e1:vs[k]?=some (vs[k]' qqo):=(by grind);have e2:us[k]?=some (us[k]' qqo):=(by grind);rw[List.range'_succ];simp only[eqEl,qw,B vs qqo,B us qqo,qj];rw[e1,e2,qbt,qbt,k8d hu F.1 (hr k _ _ e1 Y) (hs k _ _ e2 Z) d];have ih:=knm d vs us l m hl hm hr hs he hu n (k+1) (by grind);simp only[qj,Sem.run_ite,U,X,eqL];rw[aa,ab]at ih;cases hc:eqCell x y with
   |true=>grind|false=>simp
  grind
theorem eqT_run{t:TypeId}{ts:List TypeDesc}(he:eqT P t=some ts){l m:List V}(ho:eqLOk ts l m){v v':Value}(hv:RepV G w h nx v (.agg l))(U:RepV G w h nx v' (.agg m))(op:BinOp)(X:op=.eql∨op=.neq)(ox oy:Operand):(do eqGuard op t ox oy v v';binOp op t v v':Sem Value).run P w=.ok (.bool (if op=.eql then eqL l m else !eqL l m)) w:=by
 cases hv<;>skip;rename_i vs F ab hr;cases U<;>skip;rename_i us B Z J;unfold eqT at he;split at he
 .rename_i fs hu;split at he
  .rename_i Y;simp only[qde]at Y;have hf:P.fieldsOf t=fs:=by simp[Program.fieldsOf,hu]
   have key:=kns (P:=P) (w:=w) 9997 vs us l m F B hr J fs.toList 0 ts he (by grind);have h1:(Op.equalIn 10000 t (.agg vs.toArray) (.agg us.toArray)).run P w=.ok (eqL l m) w:=by grind[run_equalIn_struct]
   rcases X with rfl|rfl;.simp only[qw,run_eqGuard_agg w _ _ _ _ _ _ Y.2,qj,run_eql_struct,h1,qcj]
   grind[Sem.run_bind,run_eqGuard_agg,Result.andThen_ok,run_neq_struct]
  .cases he
 .rename_i n e hu;split at he
  .rename_i u Y M aa;injection he with he;subst he;have key:=knm (P:=P) (w:=w) 9998 vs us l m F B hr J M aa n 0 (by grind);have h1:(Op.equalIn 10000 t (.agg vs.toArray) (.agg us.toArray)).run P w=.ok (eqL l m) w:=by rw[kcz w 9999 t e n 1 _ _ hu λw=>(kw M w).2];grind
   rcases X with rfl|rfl;.simp only[qw,run_eqGuard_agg w _ _ _ _ _ _ Y,qj,run_eql_struct,h1,qcj]
   grind[Sem.run_bind,run_eqGuard_agg,Result.andThen_ok,run_neq_struct]
  .cases he
 .cases he
end
end Go.Bv
end
namespace Go.Bv
open Go.RowKit
def partOk(a:Bool)(n:Nat)(l:List V)(off:Nat):Prop:=match a with
 |true=>off+n<=l.length|false=>off<l.length
def partOf(a:Bool)(n:Nat)(l:List V)(off:Nat):V:=match a with
 |true=>.agg ((l.drop off).take n)|false=>(l[off]?).getD .any
def boolOf:V->Option Bool
 |.d (.bool b)=>some b|_=>none
def pick2(t:Bool)(a b:V):Option Bool->Option Bool->V
 |some p,some q=>.d (.bool (bif t then p else q))|_,_=>match t with
  |true=>a|false=>b
def pickV(c a b:V):V:=match boolOf c with
 |some t=>pick2 t a b (boolOf a) (boolOf b)|none=>.any
def pickOk(c:V):Prop:=(boolOf c).isSome=true
theorem k4j{x:V}{b:Bool}(h:boolOf x=some b):x=.d (.bool b):=by unfold boolOf at h;grind
theorem k9c(a b:V):pickV (.d (.bool true)) a b=a:=by show pick2 true a b (boolOf a) (boolOf b)=a;cases B:boolOf a with
 |none=>rfl|some p=>cases F:boolOf b with
  |none=>rfl|some q=>rw[k4j B];rfl
theorem k78(a b:V):pickV (.d (.bool false)) a b=b:=by show pick2 false a b (boolOf a) (boolOf b)=b;cases F:boolOf a with
 |none=>rfl|some p=>cases B:boolOf b with
  |none=>rfl|some q=>rw[k4j B];rfl
def loadV(ty:Option (Bool×Nat))(h:Hp):V->V
 |.ptr id off=>match ty,h.get id with
  |some (a,n),some (.cells l)=>partOf a n l off|_,_=>.any
 |.ro l=>match ty with
  |some (a,n)=>partOf a n (l.map .d) 0|none=>.any
 |_=>.any
def loadOk(ty:Option (Bool×Nat))(h:Hp):V->Prop
 |.ptr id off=>match ty,h.get id with
  |some (a,n),some (.cells l)=>partOk a n l off|_,_=>False
 |.ro l=>match ty with
  |some (a,n)=>partOk a n (l.map .d) 0|none=>False
 |_=>False
def faddrV(fl:Option (Nat×Bool×Nat)):V->V
 |.ptr id off=>match fl with
  |some (o,_,_)=>.ptr id (off+o)|none=>.any
 |.ro l=>match fl with
  |some (o,_,_)=>.ro (l.drop o)|none=>.any
 |_=>.any
def faddrOk(fl:Option (Nat×Bool×Nat)):V->Prop
 |.ptr _ _=>match fl with
  |some _=>True|none=>False
 |.ro _=>match fl with
  |some _=>True|none=>False
 |_=>False
def fieldV(fl:Option (Nat×Bool×Nat)):V->V
 |.agg l=>match fl with
  |some (o,a,n)=>partOf a n l o|none=>.any
 |_=>.any
def fieldOk(fl:Option (Nat×Bool×Nat)):V->Prop
 |.agg l=>match fl with
  |some (o,a,n)=>partOk a n l o|none=>False
 |_=>False
def V.elsD(sz:Nat)(x:V):List D:=(x.els sz).getD []
def isEls(sz:Nat)(x:V):Prop:=(x.els sz).isSome=true
def elt(l:List D)(n:Nat):D:=(l[n]?).getD (.agg [])
def iaddrDV(el:Option (Bool×Nat))(ar:Option (Nat×Bool×Nat))(x:V):V->V
 |.d (.int _ i)=>match el with
  |some (_,sz)=>.ro (elt (x.elsD sz) i.toNat).cells|none=>match ar with
   |some (_,_,sz)=>match x with
    |.ptr id off=>.ptr id (off+i.toNat*sz)|.ro l=>.ro (l.drop (i.toNat*sz))|_=>.any
   |none=>.any
 |_=>.any
def iaddrDOk(el:Option (Bool×Nat))(ar:Option (Nat×Bool×Nat))(x:V):V->Prop
 |.d (.int _ i)=>match el with
  |some (_,sz)=>isEls sz x/\0<=i/\i<(x.elsD sz).length|none=>match ar with
   |some (n,_,_)=>match x with
    |.ptr _ _=>0<=i/\i<n|.ro _=>0<=i/\i<n|_=>False
   |none=>False
 |_=>False
def rowIx(id off sz:Nat):V->V
 |.d (.int _ i)=>.ptr id (off+i.toNat*sz)|_=>.any
def elSz(sz:Nat):Option (Bool×Nat)->Prop
 |some (_,s)=>s=sz|none=>False
def rowIxOk(el:Option (Bool×Nat))(len sz:Nat):V->Prop
 |.d (.int _ i)=>elSz sz el/\0<=i/\i<len|_=>False
def iaddrV(el:Option (Bool×Nat))(ar:Option (Nat×Bool×Nat)):V->V->V
 |.row id off _ sz,i=>rowIx id off sz i|x,i=>iaddrDV el ar x i
def iaddrOk(el:Option (Bool×Nat))(ar:Option (Nat×Bool×Nat)):V->V->Prop
 |.row _ _ len sz,i=>rowIxOk el len sz i|x,i=>iaddrDOk el ar x i
def indexV(ar:Option (Nat×Bool×Nat)):V->V->V
 |.agg l,.d (.int _ i)=>match ar with
  |some (_,a,sz)=>partOf a sz l (i.toNat*sz)|none=>.any
 |.d (.str s),.d (.int _ i)=>.d (.int .u8 ((s[i.toNat]?).getD 0).toNat)|_,_=>.any
def indexOk(P:Program)(t:TypeId)(ar:Option (Nat×Bool×Nat)):V->V->Prop
 |.agg l,.d (.int _ i)=>match ar with
  |some (n,a,sz)=>0<=i/\i<n/\partOk a sz l (i.toNat*sz)|none=>False
 |.d (.str s),.d (.int _ i)=>arrOf P t=none/\P.underlying t=some .string/\0<=i/\i<s.size|_,_=>False
def extV(i:Nat):V->V
 |.tup l=>(l[i]?).getD .any|_=>.any
def extOk(i:Nat):V->Prop
 |.tup l=>i<l.length|_=>False
def lenV:V->V
 |.d (.str s)=>.d (.int .i64 s.size)|.d (.slice _ l)=>.d (.int .i64 l.length)|.own _ _ l=>.d (.int .i64 l.length)|.full _ l=>.d (.int .i64 l.length)|.k (.slice none 0 0)=>.d (.int .i64 0)|.row _ _ len _=>.d (.int .i64 len)|_=>.any
def isStrT:Option TypeDesc->Prop
 |some .string=>True|_=>False
def isSliceT:Option TypeDesc->Prop
 |some (.slice _)=>True|_=>False
def lenOk(d:Option TypeDesc):V->Prop
 |.d (.str _)=>isStrT d|.d (.slice _ _)=>isSliceT d|.own _ _ _=>isSliceT d|.full _ _=>isSliceT d|.k (.slice none 0 0)=>isSliceT d|.row _ _ _ _=>isSliceT d|_=>False
def intV(op:BinOp)(k:IntKind)(a b:Int):V:=match op with
 |.add=>.d (.int k (k.wrap (a+b)))|.sub=>.d (.int k (k.wrap (a-b)))|.mul=>.d (.int k (k.wrap (a*b)))|.quo=>.d (.int k (k.wrap (a.tdiv b)))|.rem=>.d (.int k (a.tmod b))|.and=>.d (.int k (k.wrap (BitVec.ofInt k.bits a&&&BitVec.ofInt k.bits b).toNat))|.or=>.d (.int k (k.wrap (BitVec.ofInt k.bits a|||BitVec.ofInt k.bits b).toNat))|.xor=>.d (.int k (k.wrap (BitVec.ofInt k.bits a^^^BitVec.ofInt k.bits b).toNat))|.andNot=>.d (.int k (k.wrap (BitVec.ofInt k.bits a&&&~~~BitVec.ofInt k.bits b).toNat))|.eql=>.d (.bool (a==b))|.neq=>.d (.bool (a !=b))|.lss=>.d (.bool (decide (a<b)))|.leq=>.d (.bool (decide (a<=b)))|.gtr=>.d (.bool (decide (b<a)))|.geq=>.d (.bool (decide (b<=a)))|.shl=>.d (.int k (k.wrap (a*2^min b.toNat k.bits)))|.shr=>.d (.int k (a.fdiv (2^min b.toNat k.bits)))
def intOk(op:BinOp)(b:Int):Prop:=match op with
 |.quo=>b≠0|.rem=>b≠0|.shl=>0<=b|.shr=>0<=b|_=>True
def aggV(op:BinOp)(b:Bool):V:=match op with
 |.eql=>.d (.bool b)|.neq=>.d (.bool !b)|_=>.any
def binV(op:BinOp):V->V->V
 |.d (.int k a),.d (.int _ b)=>intV op k a b|.agg l,.agg m=>aggV op (eqL l m)|.d (.bool a),.d (.bool b)=>aggV op (a==b)|.d (.str a),.d (.str b)=>aggV op (a.toList==b.toList)|.ptr _ _,.k (.pointer none)=>aggV op false|.ro _,.k (.pointer none)=>aggV op false|.k (.pointer none),.k (.pointer none)=>aggV op true|.mp _,.k (.map none)=>aggV op false|.k (.map none),.k (.map none)=>aggV op true|_,_=>.any
def sameK(op:BinOp)(k B:IntKind):Prop:=match op with
 |.shl=>True|.shr=>True|_=>k=B
def eqTO(B:Option (List TypeDesc))(l m:List V):Prop:=match B with
 |some ts=>eqLOk ts l m|none=>False
def isEq:BinOp->Prop
 |.eql=>True|.neq=>True|_=>False
def isBoolT:Option TypeDesc->Prop
 |some .bool=>True|_=>False
def isPtrT:Option TypeDesc->Prop
 |some (.pointer _)=>True|_=>False
def isMapT:Option TypeDesc->Prop
 |some (.map _ _)=>True|_=>False
def binOk(J:Option (List TypeDesc))(B:Option TypeDesc)(op:BinOp):V->V->Prop
 |.d (.int k _),.d (.int F b)=>sameK op k F/\intOk op b|.agg l,.agg m=>isEq op/\eqTO J l m|.d (.bool _),.d (.bool _)=>isEq op/\isBoolT B|.d (.str _),.d (.str _)=>isEq op|.ptr _ _,.k (.pointer none)=>isEq op/\isPtrT B|.ro _,.k (.pointer none)=>isEq op/\isPtrT B|.k (.pointer none),.k (.pointer none)=>isEq op/\isPtrT B|.mp _,.k (.map none)=>isEq op/\isMapT B|.k (.map none),.k (.map none)=>isEq op/\isMapT B|_,_=>False
def nilCkV:V->V
 |.ptr id off=>.ptr id off|.ro l=>.ro l|_=>.any
def nilCkOk:V->Prop
 |.ptr _ _=>True|.ro _=>True|_=>False
def minV:V->V->V
 |.d (.int k a),.d (.int _ b)=>.d (.int k (if b<a then b else a))|_,_=>.any
def maxV:V->V->V
 |.d (.int k a),.d (.int _ b)=>.d (.int k (if a<b then b else a))|_,_=>.any
def twoInts:V->V->Prop
 |.d (.int _ _),.d (.int _ _)=>True|_,_=>False
def callV(ev:Operand->V)(c:Call):V:=match c.callee with
 |.builtin .min=>minV (ev (c.args.getD 0 (.const .nilIface))) (ev (c.args.getD 1 (.const .nilIface)))|.builtin .max=>maxV (ev (c.args.getD 0 (.const .nilIface))) (ev (c.args.getD 1 (.const .nilIface)))|_=>lenV (ev (c.args.getD 0 (.const .nilIface)))
def callVOk(P:Program)(ev:Operand->V)(c:Call):Prop:=match c.callee with
 |.builtin .min=>c.args.size=2/\twoInts (ev (c.args.getD 0 (.const .nilIface))) (ev (c.args.getD 1 (.const .nilIface)))|.builtin .max=>c.args.size=2/\twoInts (ev (c.args.getD 0 (.const .nilIface))) (ev (c.args.getD 1 (.const .nilIface)))|_=>(c.callee=.builtin .len/\c.args.size=1/\c.argTypes.size=1)/\lenOk (P.underlying (c.argTypes.getD 0 0)) (ev (c.args.getD 0 (.const .nilIface)))
def unV:V->V
 |.d (.bool b)=>.d (.bool !b)|.d (.int k n)=>.d (.int k (k.wrap (0-n)))|_=>.any
def unOk:UnOp->V->Prop
 |op,.d (.bool _)=>op=.not|op,.d (.int _ _)=>op=.neg|_,_=>False
def D.num:D->Int
 |.int _ n=>n|_=>0
def D.isB:D->Bool
 |.int .u8 _=>true|_=>false
def byStr(l:List D):ByteArray:=strOfNums (l.map D.num)
def isB8(P:Program)(s:TypeId):Prop:=match P.underlying s with
 |some (.slice e)=>P.underlying e=some (.int .u8)|_=>False
def convV(d:Option TypeDesc):V->V
 |.d (.int _ n)=>match d with
  |some (.int k)=>.d (.int k (k.wrap n))|_=>.any
 |x=>match x.els 1 with
  |some l=>.d (.str (byStr l))|none=>.any
def convOk(P:Program)(s d:TypeId):V->Prop
 |.d (.int _ _)=>(P.underlying s).isSome=true/\match P.underlying d with
  |some (.int _)=>True|_=>False
 |x=>isB8 P s/\P.underlying d=some .string/\∃l,x.els 1=some l/\l.all D.isB=true
def sliceDV(el:Option (Bool×Nat))(x:V)(B hi:Option V):V:=match el with
 |some (_,sz)=>match x,hi with
  |.full _ l,none=>.full sz (l.drop ((boundA 0 B).getD 0).toNat)|.k v,_=>.k v|x,hi=>.d (.slice sz (((x.elsD sz).take ((boundA (x.elsD sz).length hi).getD 0).toNat).drop ((boundA 0 B).getD 0).toNat))
 |none=>.any
def isBnd:Option V->Prop
 |none=>True|some (.d (.int _ _))=>True|some _=>False
def sliceDOk(el:Option (Bool×Nat))(x:V)(B hi:Option V):Prop:=match el with
 |some (_,sz)=>isEls sz x/\isBnd B/\isBnd hi/\0<=(boundA 0 B).getD 0/\(boundA 0 B).getD 0<=(boundA (x.elsD sz).length hi).getD 0/\(boundA (x.elsD sz).length hi).getD 0<=(x.elsD sz).length|none=>False
def sliceV(el:Option (Bool×Nat))(x:V)(B hi:Option V):V:=match x with
 |.row id off len sz=>.row id (off+((boundA 0 B).getD 0).toNat*sz) (((boundA len hi).getD 0).toNat-((boundA 0 B).getD 0).toNat) sz|x=>sliceDV el x B hi
def sliceOk(el:Option (Bool×Nat))(x:V)(B hi:Option V):Prop:=match x with
 |.row _ _ len sz=>elSz sz el/\isBnd B/\isBnd hi/\0<=(boundA 0 B).getD 0/\(boundA 0 B).getD 0<=(boundA len hi).getD 0/\(boundA len hi).getD 0<=len|x=>sliceDOk el x B hi
theorem k8x{K:V->Prop}{a:Bool}{n:Nat}{l:List V}{off:Nat}(B:partOk a n l off)(F:K (partOf a n l off)):partV K a n l off:=by unfold partV;cases a with
 |true=>exact⟨B,F⟩|false=>simp only[partOk]at B;simp only[partOf]at F;grind
theorem kw8{K:V->Prop}{ty:Option (Bool×Nat)}{h:Hp}{x:V}(B:loadOk ty h x)(F:K (loadV ty h x)):loadA K ty h x:=by cases x with
 |ptr id off=>
  simp only[loadOk,loadV,loadA]at*;grind[k8x]|ro l=>
  simp only[loadOk,loadV,loadA]at*;grind[k8x]|_=>exact B.elim
theorem ktk{K:V->Prop}{fl:Option (Nat×Bool×Nat)}{x:V}(B:faddrOk fl x)(F:K (faddrV fl x)):faddrA K fl x:=by cases x with
 |ptr id off=>rcases fl with _|⟨o,a,n⟩<;>first|exact B.elim|exact F
 |ro l=>rcases fl with _|⟨o,a,n⟩<;>first|exact B.elim|exact F
 |_=>exact B.elim
theorem kte{K:V->Prop}{fl:Option (Nat×Bool×Nat)}{x:V}(B:fieldOk fl x)(F:K (fieldV fl x)):fieldA K fl x:=by cases x with
 |agg l=>rcases fl with _|⟨o,a,n⟩<;>first|exact B.elim|exact k8x B F
 |_=>exact B.elim
theorem ktc{K:V->Prop}{el:Option (Bool×Nat)}{ar:Option (Nat×Bool×Nat)}{x i:V}(B:iaddrDOk el ar x i)(J:K (iaddrDV el ar x i)):iaddrA K el ar x i:=by cases i with
 |d i=>cases i with
  |int q i=>
   rcases el with _|⟨g,sz⟩
   .rcases ar with _|⟨n,g,sz⟩;.exact B.elim
    .cases x with
     |ptr id off=>exact⟨B.1,B.2,J⟩|ro l=>exact⟨B.1,B.2,J⟩|_=>exact B.elim
   .simp only[iaddrDOk,iaddrDV,iaddrA,V.elsD]at*;obtain⟨l,M⟩:=qai.1 B.1;simp only[M,qbt]at B J⊢;have F:i.toNat<l.length:=by omega
    refine⟨B.2.1,_,qf F,?_⟩;simpa[elt,F]using J|_=>exact B.elim
 |_=>exact B.elim
def capV:V->Option (Nat×Nat)
 |.ptr id off=>some (id,off)|_=>none
def mkFn(fn:Fn)(n:Nat)(cs:List V):V:=match fn with
 |.func g=>.clo g (List.replicate n none) (cs.map capV)|_=>.any
def av(P:Program)(h:Hp)(ev:Operand->V):Op->V
 |.move x=>ev x|.assign x=>ev x|.pick c a b=>pickV (ev c) (ev a) (ev b)|.load t a=>loadV (tyOf P t) h (ev a)|.fieldAddr t x f=>faddrV (fldOf P t f) (ev x)|.field t x f=>fieldV (fldOf P t f) (ev x)|.indexAddr t x i=>iaddrV (elemOf P t) (arrOf P t) (ev x) (ev i)|.index t x i=>indexV (arrOf P t) (ev x) (ev i)|.extract x i=>extV i (ev x)|.binOp op _ x y _=>binV op (ev x) (ev y)|.unOp _ _ x=>unV (ev x)|.convert _ d x=>convV (P.underlying d) (ev x)|.slice t x B hi _=>sliceV (elemOf P t) (ev x) (B.map ev) (hi.map ev)|.call c=>callV ev c|.nilCheck x=>nilCkV (ev x)|.makeFunc fn F cs=>mkFn fn F.size (cs.toList.map ev)|_=>.any
def avOk(P:Program)(h:Hp)(ev:Operand->V):Op->Prop
 |.move _=>True|.assign _=>True|.pick c _ _=>pickOk (ev c)|.load t a=>loadOk (tyOf P t) h (ev a)|.fieldAddr t x f=>faddrOk (fldOf P t f) (ev x)|.field t x f=>fieldOk (fldOf P t f) (ev x)|.indexAddr t x i=>iaddrOk (elemOf P t) (arrOf P t) (ev x) (ev i)|.index t x i=>indexOk P t (arrOf P t) (ev x) (ev i)|.extract x i=>extOk i (ev x)|.binOp op t x y _=>binOk (eqT P t) (P.underlying t) op (ev x) (ev y)|.unOp op _ x=>unOk op (ev x)|.convert s d x=>convOk P s d (ev x)|.slice t x B hi F=>F=none/\sliceOk (elemOf P t) (ev x) (B.map ev) (hi.map ev)|.call c=>callVOk P ev c|.nilCheck x=>nilCkOk (ev x)|.makeFunc _ _ _=>True|_=>False
section
variable{P:Program}{G:Gh}{w:World}{h:Hp}{nx:Nat}
theorem RepV.bool_inv{v:Value}{t:Bool}(B:RepV G w h nx v (.d (.bool t))):v=.bool t:=by
 cases B<;>skip;rename_i J;cases J;rfl
theorem RepV.int_inv{v:Value}{k:IntKind}{n:Int}(B:RepV G w h nx v (.d (.int k n))):v=.int k n:=by
 cases B<;>skip;rename_i J;cases J;rfl
theorem RepV.str_inv{v:Value}{s:ByteArray}(B:RepV G w h nx v (.d (.str s))):v=.string s:=by
 cases B<;>skip;rename_i J;cases J;rfl
theorem kwi{s:TypeId}(h:isB8 P s):∃e,P.underlying s=some (.slice e)/\P.underlying e=some (.int .u8):=by unfold isB8 at h;grind
theorem isB_num{d:D}(h:d.isB=true):d=.int .u8 d.num:=by
 unfold D.isB at h;split at h;.rfl
 .cases h
theorem kpb:∀{l:List D},l.all D.isB=true->l.flatMap D.cells=l
 |[],_=>rfl|d::l,h=>by rw[qen,qh]at h;rw[qbe,kpb h.2,isB_num h.1];rfl
theorem ks3{s d e:TypeId}(hs:P.underlying s=some (.slice e))(he:P.underlying e=some (.int .u8))(U:P.underlying d=some .string){m:Nat->Nat}{v:Value}{l:List D}(F:RepD m w v (.slice 1 l))(hb:l.all D.isB=true):(convert s d v).run P w=.ok (.string (byStr l)) w:=by generalize B:D.slice 1 l=x at F;cases F with
 |int=>cases B|bool=>cases B|str=>cases B|nil A sz=>injection B with h1 h2;subst h2;cases A with
  |none=>exact run_convert_bytes_nil w s e hs he 0 0 d U|some a=>rw[run_convert_bytes_string w s d e _ 0 0 hs he U,run_bytesToString w a 0 0 [] (by simp[loadCells,loadCellsFrom])];rfl
 |slice b off cap sz l' vs Y Z hsz J hc hr=>
  injection B with h1 h2;subst h2;rw[kpb hb]at J hr;refine run_convert_bytes_arg w s e hs he b off l.length cap (l.map D.num) qqs (λi hi=>?_) d U;have F:vs[i]?=some vs[i]:=qf qqo;have X:=qf hi;obtain⟨q1,q2⟩:=hc i _ F;have M:=hr i _ _ F X;have q4:=isB_num (qbq.1 hb _ (qz hi));rw[q2];generalize vs[i]=u at M⊢;have e2:(l.map D.num).getD i 0=l[i].num:=by simp[X]
  rw[e2];rw[q4]at M;cases M;rfl
def plainPair:Value->Value->Prop
 |.bool _,.bool _=>True|.pointer _,.pointer _=>True|.map _,.map _=>True|_,_=>False
theorem kuj{op:BinOp}{t:TypeId}{x y:Operand}{B F:Value}{b:Bool}(J:isEq op)(M:plainPair B F)(he:(Op.equal t B F).run P w=.ok b w):∃v,(do eqGuard op t x y B F;binOp op t B F:Sem Value).run P w=.ok v w/\RepV G w h nx v (aggV op b):=by
 refine⟨.bool (if op=.eql then b else !b),?_,?_⟩;.cases B<;>cases F<;>simp only[plainPair]at M<;>cases op<;>simp only[isEq]at J<;>simp[eqGuard,binOp,he]
 .cases op<;>simp only[isEq]at J<;>exact .d _ _ (.bool _)
theorem eq_deep{t:TypeId}{B F:Value}{b:Bool}(h:∀d,(Op.equalIn (d+1) t B F).run P w=.ok b w):(Op.equal t B F).run P w=.ok b w:=h 9999
theorem RepV.ptr_inv{v:Value}{id off:Nat}(B:RepV G w h nx v (.ptr id off)):∃a,v=.pointer (some a):=by cases B;grind
theorem RepV.ro_inv{v:Value}{l:List D}(B:RepV G w h nx v (.ro l)):∃a,v=.pointer (some a):=by cases B;grind
theorem RepV.mp_inv{v:Value}{id:Nat}(B:RepV G w h nx v (.mp id)):∃a,v=.map (some a):=by cases B;grind
theorem kwg{u:Option TypeDesc}(h:isPtrT u):∃e,u=some (.pointer e):=by unfold isPtrT at h;grind
theorem kvl{u:Option TypeDesc}(h:isMapT u):∃e e2,u=some (.map e e2):=by unfold isMapT at h;grind
theorem knd{ρ:Operand->Value}{ev:Operand->V}(B:∀x,RepV G w h nx (ρ x) (ev x)):∀l:List Operand,PtrsR G nx ((l.map ev).map capV) (l.map ρ)
 |[]=>trivial|x::r=>by
  refine⟨?_,knd B r⟩;have F:=B x;unfold capV;split;.rename_i id off he;rw[he]at F;generalize ρ x=v at F;cases F with|ptr _ _ b hid hl=>exact⟨hid,b,hl,rfl⟩
  .trivial
theorem kpi:∀l,PtrsR G nx (List.replicate l.length none) l
 |[]=>trivial|_::r=>⟨trivial,kpi r⟩
set_option maxHeartbeats 400000 in
theorem kex{ρ:Operand->Value}{ev:Operand->V}(B:∀x,RepV G w h nx (ρ x) (ev x))(bc:ObjR G w h nx){o:Oper}(M:avOk P h ev o.op):∃v,(execOp ρ o).run P w=.ok (.value v) w/\RepV G w h nx v (av P h ev o.op):=by
 have val:∀(sv:Sem Value)(v:Value),sv.run P w=.ok v w->(do pure (.value (<-sv)):Sem Next).run P w=.ok (.value v) w:=by simp_all
 have vl:∀{sv:Sem Value}{Z:V},(∃v z,sv.run P w=.ok v w/\RepV G w h nx v z/\Z=z)->∃v,(do pure (.value (<-sv)):Sem Next).run P w=.ok (.value v) w/\RepV G w h nx v Z:=λ⟨v,_,h1,X,h3⟩=>⟨v,val _ _ h1,h3▸X⟩;obtain⟨aq,op,ty,pos,ae,ag⟩:=o;cases op with
 |makeFunc fn fs cs=>refine⟨.func fn (fs.map ρ) (cs.map ρ),rfl,?_⟩;show RepV G w h nx _ (mkFn fn fs.size (cs.toList.map ev));unfold mkFn;cases fn with
  |func g=>have h1:=kpi (G:=G) (nx:=nx) (fs.toList.map ρ);have X:=knd B cs.toList;have:=RepV.clo (w:=w) (h:=h) g _ _ _ _ h1 X;rw[show fs.map ρ=(fs.toList.map ρ).toArray from qdy qqs,show cs.map ρ=(cs.toList.map ρ).toArray from qdy qqs];grind|_=>exact .any _
 |move x=>exact⟨_,rfl,B x⟩|assign x=>exact⟨_,rfl,B x⟩|pick c x y=>
  obtain⟨t,ht⟩:=qai.1 (show(boolOf (ev c)).isSome=true from M);have hc:=B c;rw[k4j ht]at hc;have bd:ρ c=.bool t:=hc.bool_inv;refine⟨if t then ρ x else ρ y,?_,?_⟩;.simp only[execOp,bd,asBool,qw,qag,qj]
  .simp only[av,k4j ht];grind[k78,k9c]|load t x=>
  have hl:=kw8 (K:=λv=>loadV (tyOf P t) h (ev x)=v) M rfl;have J:=B x;refine vl ?_
  .unfold loadA at hl;split at hl
   .rename_i id off F;rw[F]at J;split at hl;.rename_i g n l aj hg;generalize hρ:ρ x=vx at J⊢;cases J with|ptr _ _ b ac hb=>
     rcases bc id l hg with⟨_,z2⟩|⟨b',e,cs,k1,k2,k3,k4,k5,k6⟩;.grind
     obtain rfl:b'=b:=by grind
     obtain⟨v,z,q1,q2,q3⟩:=khe (b:=b') (o:=0) aj hl k4 k5 k6 λj u hu=>by rw[qav,cell_of_row w b' j cs.toArray e _ k2];grind
     refine⟨v,z,?_,q2,q3⟩;simp only[Instr.loadAt,Instr.sureAddr,qw,qag,qj];grind
    grind
   .rename_i l F;rw[F]at J;split at hl;.rename_i g n aj;generalize hρ:ρ x=vx at J⊢;cases J with|ro b off _ vs hlen hone hc hr=>
     obtain⟨v,z,q1,q2,q3⟩:=khe (G:=G) (h:=h) (nx:=nx) (b:=b) (o:=off) (cs:=vs) (l:=l.map .d) aj hl (by grind) (λy hy=>by
      obtain⟨c,hc,rfl⟩:=qap.1 hy;exact hone c hc) (λj u c hu au=>by rw[qr,qac]at au;obtain⟨d,hd,rfl⟩:=au;exact .d _ _ (hr j u d hu hd)) (by grind);refine⟨v,z,?_,q2,q3⟩;simp only[Instr.loadAt,Instr.sureAddr,qw,qag,qj];grind
    grind
   grind|fieldAddr t x f=>exact vl (kr8 (ktk M rfl) (B x))|field t x f=>exact vl (krf (kte M rfl) (B x))|indexAddr t x i=>
  by_cases ab:∃id off len sz,ev x=.row id off len sz
  .obtain⟨id,off,len,sz,F⟩:=ab;have J:=B x;have hi:=B i;simp only[avOk,av,F]at M⊢;rw[F]at J;simp only[iaddrOk,iaddrV]at M⊢;unfold rowIxOk at M;split at M;.rename_i q n aw;rw[aw]at hi;have bf:=hi.int_inv;obtain⟨aa,h0,ax⟩:=M;generalize hρ:ρ x=vx at J;cases J with
    |rown=>omega|row _ _ _ _ b o cap m ac hl ho hc hm hn hs=>
    have bg:o=off:=ho qqo;subst bg;unfold elSz at aa;split at aa;.rename_i g s ak;subst aa;obtain⟨e,hu,ht⟩:=k5a ak;have hsz:=(kw ht w).2;rw[aw];refine⟨_,val _ _ ?_,.ptr id (o+n.toNat*s) b ac hl⟩;simp only[hρ,bf,Instr.indexAt,asIntOf,qw,qag,qj,qam hu];rw[qg ⟨h0,by omega⟩];grind[Sem.run_bind,Result.andThen_ok,Sem.run_pure,add_mk]
    grind
   grind
  have e1:iaddrOk (elemOf P t) (arrOf P t) (ev x) (ev i)=iaddrDOk (elemOf P t) (arrOf P t) (ev x) (ev i)/\iaddrV (elemOf P t) (arrOf P t) (ev x) (ev i)=iaddrDV (elemOf P t) (arrOf P t) (ev x) (ev i):=by generalize ev x=vx at ab;cases vx<;>first|exact⟨rfl,rfl⟩|grind
  simp only[avOk,av,e1.1,e1.2]at M⊢;exact vl (krg (ktc M rfl) (B x) (B i))|index t x i=>
  have hi:indexA (λv=>indexV (arrOf P t) (ev x) (ev i)=v) (arrOf P t) (ev x) (ev i)/\(arrOf P t=none->P.underlying t=some .string):=by
   simp only[avOk]at M;unfold indexOk at M;unfold indexA indexV;split at M;.grind[k8x]
   .grind
   grind
  exact vl (krh hi.1 hi.2 (B x) (B i))|extract x i=>
  simp only[avOk]at M;have J:=B x;unfold extOk at M;split at M;.rename_i l F;rw[F]at J;simp only[av,F,extV];generalize hρ:ρ x=vx at J;cases J with|tup vs _ hlen hr=>
   have ax:i<vs.length:=by omega
   have h1:(Instr.extract (.tuple vs.toArray) i).run P w=.ok vs[i] w:=by simp[Instr.extract,ax]
   refine⟨vs[i],?_,?_⟩;.simp only[execOp,hρ];grind
   grind
  grind|binOp op t x y bv=>
  simp only[avOk]at M;have J:=B x;have hy:=B y;simp only[av];have ay:∀{vx vy:Value}{b:Bool},isEq op->ρ x=vx->ρ y=vy->plainPair vx vy->(∀d,(Op.equalIn (d+1) t vx vy).run P w=.ok b w)->∃v,(execOp ρ ⟨aq,.binOp op t x y bv,ty,pos,ae,ag⟩).run P w=.ok (.value v) w/\RepV G w h nx v (aggV op b):=λho e1 e2 hp he=>by obtain⟨v,g1,g2⟩:=kuj (x:=x) (y:=y) ho hp (eq_deep he);exact⟨v,val _ _ (by rw[e1,e2];exact g1),g2⟩
  unfold binOk at M;split at M
  .rename_i k a k' b h1 X;have hb:binA (λv=>binV op (ev x) (ev y)=v) op (ev x) (ev y):=by unfold binA binV;simp only[h1,X];cases op<;>simp only[sameK,intOk,intV,shiftA,intA]at M⊢<;>simp_all
   exact vl (kt4 hb (B x) (B y) t x y)
  .rename_i l m h1 X;rw[h1]at J;rw[X]at hy;obtain⟨bz,al⟩:=M;unfold eqTO at al;split at al
   .rename_i ts he;have az:op=.eql∨op=.neq:=by cases op<;>simp_all[isEq]
    have hr:=eqT_run (P:=P) he al J hy op az x y;refine⟨_,val _ _ hr,?_⟩;rw[h1,X];rcases az with rfl|rfl;.exact .d _ _ (.bool _)
    .exact .d _ _ (.bool _)
   grind
  all_goals try(exact M.elim)
  .rename_i a b h1 X;rw[h1]at J;rw[X]at hy;have hu:P.underlying t=some .bool:=by have:=M.2;unfold isBoolT at this;grind
   rw[h1,X];exact ay M.1 J.bool_inv hy.bool_inv trivial λd=>by simp[Op.equalIn,qam hu]
  .
   rename_i a b h1 X;rw[h1]at J;rw[X]at hy;rw[h1,X];refine⟨.bool (if op=.eql then a.toList==b.toList else ! a.toList==b.toList),val _ _ ?_,?_⟩;.simp only[J.str_inv,hy.str_inv];cases op<;>simp only[isEq]at M<;>simp[eqGuard,binOp,Op.stringOp]
   .cases op<;>simp only[isEq]at M<;>exact .d _ _ (.bool _)
  all_goals
   rename_i h1 X;rw[h1]at J;rw[X]at hy;rw[h1,X];have hT:=M.2;first
    |(have hu:=kwg hT;obtain⟨e,hu⟩:=hu)|(have hu:=kvl hT;obtain⟨e,e2,hu⟩:=hu)
   first
    |obtain⟨ad,e1⟩:=J.ptr_inv|obtain⟨ad,e1⟩:=J.ro_inv|obtain⟨ad,e1⟩:=J.mp_inv|have e1:=J.k_inv
   exact ay M.1 e1 hy.k_inv trivial λd=>by simp[Op.equalIn,qam hu]|unOp op t x=>
  have hb:unA (λv=>unV (ev x)=v) op (ev x):=by simp only[avOk]at M;unfold unOk at M;unfold unA unV;grind
  exact vl (kuh hb (B x))|convert s d x=>
  have hc:convOk P s d (ev x):=M;unfold convOk at hc;split at hc
  .rename_i k n h0;obtain⟨hs,hc⟩:=hc;have hb:convA (λv=>convV (P.underlying d) (ev x)=v) (P.underlying d) (ev x):=by unfold convA convV;grind
   exact vl (kst hb hs (B x))
  .rename_i ca;obtain⟨g1,g2,l,g3,g4⟩:=hc;have e:convV (P.underlying d) (ev x)=.d (.str (byStr l)):=by unfold convV;grind
   obtain⟨e',bh,bi⟩:=kwi g1;refine⟨_,val _ _ (ks3 bh bi g2 (els_rep g3 (B x)) g4),?_⟩;show RepV G w h nx _ (convV (P.underlying d) (ev x));rw[e];exact .d _ _ (.str _)|slice t x lo hi mx=>
  obtain⟨rfl,hc⟩:=M;by_cases ab:∃id off len sz,ev x=.row id off len sz
  .obtain⟨id,off,len,sz,F⟩:=ab;have J:=B x;rw[F]at J;simp only[av,F,sliceOk,sliceV]at hc⊢;obtain⟨aa,c2,c3,c4,c5,c6⟩:=hc;have bs:∀(d:Nat)(o:Option Operand),isBnd (o.map ev)->o.map ρ=none/\(boundA d (o.map ev)).getD 0=d∨∃q n,o.map ρ=some (.int q n)/\(boundA d (o.map ev)).getD 0=n:=by intro d o ho;cases o with
    |none=>exact .inl ⟨rfl,rfl⟩|some y=>
     simp only[qbn]at ho⊢;unfold isBnd at ho;split at ho;.grind
     .rename_i q n he;injection he with he;have hy:=B y;rw[he]at hy;exact .inr ⟨q,n,by rw[hy.int_inv],by rw[he];rfl⟩
     grind
   have h1:=bs 0 lo c2;have X:=bs len hi c3;generalize(boundA 0 (lo.map ev)).getD 0=a at*;generalize(boundA len (hi.map ev)).getD 0=b at*;obtain⟨a',rfl⟩:=qm c4;obtain⟨b',rfl⟩:=qm (qes c4 c5);generalize hρ:ρ x=vx at J;unfold elSz at aa;split at aa;case h_2=>grind
   rename_i g s ak;subst aa;obtain⟨e,hu,ht⟩:=k5a ak;have hsz:=(kw ht w).2;cases J with
   |rown A _ _ _ ac=>
    have bj:a'=0:=by omega
    have bm:b'=0:=by omega
    subst bj;subst bm;have ah:(Instr.sliceAt t (.slice A 0 0) (lo.map ρ) (hi.map ρ) none).run P w=.ok (.slice A 0 0) w:=by
     rcases h1 with⟨e1,_⟩|⟨q,n,e1,e2⟩<;>rcases X with⟨e3,_⟩|⟨q',n',e3,e4⟩<;>rw[e1,e3]<;>cases A;all_goals first
      |simp[Instr.sliceAt,qam hu,Instr.slice,Instr.sliceBounds,Instr.sliceBound,asIntOf,hsz];done|(subst e4;simp[Instr.sliceAt,qam hu,Instr.slice,Instr.sliceBounds,Instr.sliceBound,asIntOf,hsz];done)|(subst e2;simp[Instr.sliceAt,qam hu,Instr.slice,Instr.sliceBounds,Instr.sliceBound,asIntOf,hsz];done)|(subst e2;subst e4;simp[Instr.sliceAt,qam hu,Instr.slice,Instr.sliceBounds,Instr.sliceBound,asIntOf,hsz];done)
    exact⟨_,val _ _ (by grind),.rown A id _ s ac⟩|row _ _ _ _ bk o cap m ac hl ho hc hm hn hs=>
   have ah:(Instr.sliceAt t (.slice (some ⟨bk,o,none⟩) len cap) (lo.map ρ) (hi.map ρ) none).run P w=.ok (.slice (if cap=a' then some ⟨bk,o,none⟩else some (Addr.add ⟨bk,o,none⟩ (a'*s))) (b'-a') (cap-a')) w:=by
    have k1:(0:Int)<=(b':Int)/\(b':Int)<=(cap:Int):=by omega
    have k2:(0:Int)<=(a':Int)/\(a':Int)<=(b':Int):=by omega
    have bn:lo.map ρ=none/\a'=0∨∃q,lo.map ρ=some (.int q a'):=by grind
    have bo:hi.map ρ=none/\b'=len∨∃q,hi.map ρ=some (.int q b'):=by grind
    clear h1 X bs;rcases bn with⟨e1,rfl⟩|⟨q,e1⟩<;>rcases bo with⟨e3,rfl⟩|⟨q',e3⟩<;>rw[e1,e3]<;>simp[Instr.sliceAt,qam hu,Instr.slice,Instr.sliceBounds,Instr.sliceBound,asIntOf,hsz]<;>(try simp_all)<;>(grind)
   refine⟨_,val _ _ (by simp only[hρ];exact ah),?_⟩;by_cases ba:cap=a'
   .rw[qg ba];have:cap-a'=0:=by omega
    rw[this];have bq:b'-a'=0:=by omega
    simp only[qv,bq];exact .row id _ _ s bk o 0 m ac hl (λh=>(h rfl).elim) (qaf _) (qbf _) hn (by grind)
   .rw[qe ba,add_mk];simp only[qv];refine .row id _ _ s bk _ (cap-a') m ac hl (λ_=>?_) qqo qqo hn ?_;.grind
    .have:a'*s+(cap-a')*s=cap*s:=by rw[<-qca];grind
     omega
  have e0:sliceOk (elemOf P t) (ev x) (lo.map ev) (hi.map ev)=sliceDOk (elemOf P t) (ev x) (lo.map ev) (hi.map ev)/\sliceV (elemOf P t) (ev x) (lo.map ev) (hi.map ev)=sliceDV (elemOf P t) (ev x) (lo.map ev) (hi.map ev):=by generalize ev x=vx at ab;cases vx<;>first|exact⟨rfl,rfl⟩|grind
  simp only[av,e0.1,e0.2]at hc⊢;have hb:sliceA (λv=>sliceDV (elemOf P t) (ev x) (lo.map ev) (hi.map ev)=v) (elemOf P t) (ev x) (lo.map ev) (hi.map ev):=by
   unfold sliceDOk at hc;unfold sliceA sliceDV;split at hc
   .rename_i g sz aa;simp only[aa];obtain⟨c1,c2,c3,c4,c5,c6⟩:=hc;obtain⟨l,hl⟩:=qai.1 (show((ev x).els sz).isSome=true from c1);have bs:∀(d:Nat)(o:Option V),isBnd o->∃n,boundA d o=some n:=by
     intro d o ho;unfold isBnd at ho;split at ho;.exact⟨_,rfl⟩
     .exact⟨_,rfl⟩
     grind
    obtain⟨a,M⟩:=bs 0 _ c2;obtain⟨b,hb⟩:=bs l.length _ c3;simp only[V.elsD,hl,qbt,M,hb]at c4 c5 c6⊢;refine⟨c4,c5,c6,?_⟩;split
    .rename_i s' l' bt cb;have:l'=l:=by rw[bt]at hl;simp only[V.els]at hl;grind
     grind
    .grind
    grind
   grind
  exact vl (kqx hb (B x) (vlo:=lo.map ρ) (vhi:=hi.map ρ) λy hy=>by obtain⟨o,rfl,rfl⟩:=qac.1 hy;grind λy hy=>by obtain⟨o,rfl,rfl⟩:=qac.1 hy;grind λhn=>by simp_all λhn=>by simp_all)|nilCheck x=>have J:=B x;simp only[avOk,av]at M⊢;generalize F:ev x=xv at J M;cases xv with
  |ptr id off=>obtain⟨ad,hv⟩:=J.ptr_inv;exact⟨_,by simp only[execOp,hv];rfl,by rw[<-hv];exact J⟩|ro l=>obtain⟨ad,hv⟩:=J.ro_inv;exact⟨_,by simp only[execOp,hv];rfl,by rw[<-hv];exact J⟩|_=>exact M.elim
 |call c=>
  obtain⟨Y,args,U⟩:=c;by_cases am:Y=.builtin .min∨Y=.builtin .max
  .have X:args.size=2/\twoInts (ev (args.getD 0 (.const .nilIface))) (ev (args.getD 1 (.const .nilIface))):=by rcases am with rfl|rfl<;>exact M
   obtain⟨h1,X⟩:=X;obtain⟨x,y,rfl⟩:∃x y,args=#[x,y]:=by
    obtain⟨l⟩:=args;match l,h1 with|[x,y],_=>grind
   have J:=B x;have hy:=B y;change twoInts (ev x) (ev y)at X;unfold twoInts at X;split at X
   .rename_i k a k' b F ao;rw[F]at J;rw[ao]at hy;rcases am with rfl|rfl;.refine⟨_,?_,show RepV G w h nx _ (minV (ev x) (ev y))from by rw[F,ao];exact .d _ _ (.int _ _)⟩;simp only[execOp,resolve,invoke,builtin,qw,qag,qj,qct,qaj,qda,J.int_inv,hy.int_inv,Builtin.min_,Builtin.min2,List.foldlM_cons,List.foldlM_nil]
    .refine⟨_,?_,show RepV G w h nx _ (maxV (ev x) (ev y))from by rw[F,ao];exact .d _ _ (.int _ _)⟩;simp only[execOp,resolve,invoke,builtin,qw,qag,qj,qct,qaj,qda,J.int_inv,hy.int_inv,Builtin.max_,Builtin.max2,List.foldlM_cons,List.foldlM_nil]
   grind
  obtain⟨bw,bx⟩:=not_or.1 am;have ai:((Y=.builtin .len/\args.size=1/\U.size=1)/\lenOk (P.underlying (U.getD 0 0)) (ev (args.getD 0 (.const .nilIface))))/\av P h ev (.call ⟨Y,args,U⟩)=lenV (ev (args.getD 0 (.const .nilIface))):=by simp only[avOk,callVOk,av,callV]at M⊢;grind
  simp only[ai.2];obtain⟨⟨⟨h1,X,h3⟩,h6⟩,_⟩:=ai;subst h1;obtain⟨x,rfl⟩:∃x,args=#[x]:=by
   obtain⟨l⟩:=args;match l,X with|[x],_=>grind
  obtain⟨t,rfl⟩:∃t,U=#[t]:=by
   obtain⟨l⟩:=U;match l,h3 with|[x],_=>grind
  have J:=B x;have e0:(#[x]:Array Operand).getD 0 (.const .nilIface)=x:=rfl;have e1:(#[t]:Array TypeId).getD 0 0=t:=rfl;rw[e0,e1]at h6;rw[e0];have bb:∀n:Nat,(Builtin.len_ #[t] ty #[ρ x]).run P w=.ok (goInt n) w->lenV (ev x)=.d (.int .i64 n)->∃v,(execOp ρ ⟨aq,.call ⟨.builtin .len,#[x],#[t]⟩,ty,pos,ae,ag⟩).run P w=.ok (.value v) w/\RepV G w h nx v (lenV (ev x)):=by intro n hn hv;refine⟨goInt n,?_,by rw[hv];exact .d _ _ (.int _ _)⟩;simp only[execOp,resolve,invoke,builtin,qw,qag,qj,qct,qaj,qda,hn]
  have bu:∀n A cc,ρ x=.slice A n cc->isSliceT (P.underlying t)->(Builtin.len_ #[t] ty #[ρ x]).run P w=.ok (goInt n) w:=by
   intro n A cc hr hd;unfold isSliceT at hd;split at hd;.rename_i e hu;simp[Builtin.len_,qam hu,hr]
   grind
  unfold lenOk at h6;split at h6
  .rename_i s F;rw[F]at J;unfold isStrT at h6;split at h6;.rename_i hu;have hr:ρ x=.string s:=J.str_inv;exact bb s.size (by simp[Builtin.len_,qam hu,hr]) (by rw[F];rfl)
   grind
  case h_7=>exact h6.elim
  all_goals rename_i F;rw[F]at J;obtain⟨A,cc,hr⟩:=len_rep rfl J;exact bb _ (bu _ A cc hr h6) (by rw[F];rfl)|_=>exact M.elim
end
def leP:List (Option (Nat×Nat))->List (Option (Nat×Nat))->Prop
 |[],[]=>True|_::l,none::m=>leP l m|some p::l,some q::m=>p=q/\leP l m|_,_=>False
theorem k9a:∀l,leP l l
 |[]=>trivial|none::l=>k9a l|some _::l=>⟨rfl,k9a l⟩
theorem PtrsR.le{G:Gh}{nx:Nat}:∀{ps qs:List (Option (Nat×Nat))}{vs:List Value},PtrsR G nx ps vs->leP ps qs->PtrsR G nx qs vs
 |[],[],[],_,_=>trivial|[],[],_::_,h,_=>h.elim|[],_::_,_,_,h=>h.elim|_::_,[],_,_,h=>by cases h|_::_,_::_,[],h,_=>h.elim|_::ps,none::qs,_::vs,h,B=>⟨trivial,PtrsR.le (ps:=ps) (qs:=qs) h.2 (by cases‹Option (Nat×Nat)›<;>exact B)⟩|none::_,some _::_,_::_,_,B=>B.elim|some p::ps,some q::qs,_::vs,h,B=>⟨B.1▸h.1,PtrsR.le (ps:=ps) (qs:=qs) h.2 B.2⟩
def le1:V->V->Prop
 |_,.any=>True|.own _ s l,.d (.slice s' B)=>s=s'/\l=B|.full s l,.d (.slice s' B)=>s=s'/\l=B|.k (.slice none 0 0),.d (.slice _ l)=>l=[]|.k (.slice none 0 0),.full _ l=>l=[]|.clo g J cs,.clo M F cs'=>g=M/\leP J F/\leP cs cs'|x,y=>x=y
def leL:List V->List V->Prop
 |[],[]=>True|x::xs,y::B=>(le1 x y/\y.one=true)/\leL xs B|_,_=>False
def le0:V->V->Prop
 |.agg l,.agg B=>leL l B|x,y=>le1 x y
def leT:List V->List V->Prop
 |[],[]=>True|x::xs,y::B=>le0 x y/\leT xs B|_,_=>False
def le:V->V->Prop
 |.tup l,.tup B=>leT l B|x,y=>le0 x y
theorem kc(x:V):le1 x x:=by cases x with
 |clo g B cs=>exact⟨rfl,k9a _,k9a _⟩|_=>unfold le1;split<;>simp_all
def okP(nx:Nat):List (Option (Nat×Nat))->Prop
 |[]=>True|some p::r=>p.1<nx/\okP nx r|none::r=>okP nx r
def ok1(nx:Nat):V->Prop
 |.ptr id _=>id<nx|.own tok _ _=>tok<nx|.row id _ _ _=>id<nx|.mp id=>id<nx|.clo _ B cs=>okP nx B/\okP nx cs|.agg _=>False|.tup _=>False|_=>True
def okL(nx:Nat):List V->Prop
 |[]=>True|x::xs=>ok1 nx x/\okL nx xs
def ok0(nx:Nat):V->Prop
 |.agg l=>okL nx l|x=>ok1 nx x
def okT(nx:Nat):List V->Prop
 |[]=>True|x::xs=>ok0 nx x/\okT nx xs
def ok(nx:Nat):V->Prop
 |.tup l=>okT nx l|x=>ok0 nx x
section
variable{P:Program}{T:Tk}{G0 G:Gh}{w0 w:World}{N:Nat}{s:St}{a:Act}{h h':Hp}{nx nx':Nat}
theorem RepV.le1{v:Value}{x y:V}(F:RepV G w h nx v x)(B:Bv.le1 x y):RepV G w h nx v y:=by
 unfold Bv.le1 at B;split at B;.exact .any _
 .obtain⟨rfl,rfl⟩:=B;cases F;exact .d _ _ (by assumption)
 .obtain⟨rfl,rfl⟩:=B;exact .d _ _ (F.full_inv.elim λ_ h=>h.2)
 .subst B;rw[F.k_inv];exact .d _ _ (.nil none _)
 .subst B;rw[F.k_inv];exact .full none _ [] (.nil none _)
 .obtain⟨rfl,h1,J⟩:=B;cases F with|clo _ _ _ vs us hf hc=>exact .clo _ _ _ vs us (hf.le h1) (hc.le J)
 grind
theorem k37:∀{l F:List V},leL l F->l.length=F.length/\(∀y∈F,y.one=true)/\∀(j:Nat)x y,l[j]?=some x->F[j]?=some y->Bv.le1 x y
 |[],[],_=>⟨rfl,by simp,by simp⟩|x::xs,y::ys,B=>by
  obtain⟨⟨h1,X⟩,Y⟩:=B;obtain⟨Z,g2,g3⟩:=k37 Y;refine⟨by simp[Z],λz U=>?_,λj a b J M=>?_⟩
  .rcases qak.1 U with rfl|U;.exact X
   .exact g2 z U
  .cases j with
   |zero=>simp at J M;subst J;subst M;exact h1|succ j=>exact g3 j a b J M
 |[],_::_,B=>B.elim|_::_,[],B=>B.elim
theorem koo:∀{l M:List V},leT l M->l.length=M.length/\∀(j:Nat)x y,l[j]?=some x->M[j]?=some y->Bv.le0 x y
 |[],[],_=>⟨rfl,by simp⟩|x::xs,y::Z,B=>by obtain⟨h1,U⟩:=B;obtain⟨X,Y⟩:=koo U;refine⟨by simp[X],λj a b F J=>?_⟩;cases j with
  |zero=>simp at F J;subst F;subst J;exact h1|succ j=>exact Y j a b F J
 |[],_::_,B=>B.elim|_::_,[],B=>B.elim
theorem k5l:∀{l:List V},okL nx l->∀(j:Nat)x,l[j]?=some x->ok1 nx x
 |[],_=>by simp|x::xs,F=>by intro j y B;cases j with
  |zero=>simp at B;subst B;exact F.1|succ j=>exact k5l F.2 j y B
theorem kp3:∀{l:List V},okT nx l->∀(j:Nat)x,l[j]?=some x->ok0 nx x
 |[],_=>by simp|x::xs,F=>by intro j y B;cases j with
  |zero=>simp at B;subst B;exact F.1|succ j=>exact kp3 F.2 j y B
theorem leL_rep{cs:List Value}{l B:List V}(F:cs.length=l.length)(X:∀(j:Nat)v x,cs[j]?=some v->l[j]?=some x->RepV G w h nx v x)(Y:leL l B):cs.length=B.length/\(∀y∈B,y.one=true)/\∀(j:Nat)v x,cs[j]?=some v->B[j]?=some x->RepV G w h nx v x:=by
 obtain⟨Z,J,g3⟩:=k37 Y;refine⟨by omega,J,λj v y M hy=>?_⟩;have U:j<l.length:=by grind
 exact(X j v _ M (qf U)).le1 (by grind)
theorem RepV.agg_inv{v:Value}{l:List V}(B:RepV G w h nx v (.agg l)):∃vs,v=.agg (List.toArray vs)/\vs.length=l.length/\(∀x∈l,x.one=true)/\∀(j:Nat)u x,vs[j]?=some u->l[j]?=some x->RepV G w h nx u x:=by
 cases B<;>skip;grind
theorem RepV.tup_inv{v:Value}{l:List V}(B:RepV G w h nx v (.tup l)):∃vs,v=.tuple (List.toArray vs)/\vs.length=l.length/\∀(j:Nat)u x,vs[j]?=some u->l[j]?=some x->RepV G w h nx u x:=by
 cases B<;>skip;grind
theorem RepV.le0{v:Value}{x y:V}(F:RepV G w h nx v x)(B:Bv.le0 x y):RepV G w h nx v y:=by
 unfold Bv.le0 at B;split at B;.obtain⟨vs,rfl,h1,Y,J⟩:=F.agg_inv;obtain⟨M,U,X⟩:=leL_rep h1 J B;exact .agg _ _ M U X
 .exact F.le1 B
theorem RepV.le{v:Value}{x y:V}(B:RepV G w h nx v x)(F:Bv.le x y):RepV G w h nx v y:=by
 unfold Bv.le at F;split at F
 .rename_i l U;obtain⟨vs,rfl,h1,J⟩:=B.tup_inv;obtain⟨X,Y⟩:=koo F;refine .tup _ _ qqo λj v y B Z=>?_;have M:j<l.length:=by grind
  exact(J j v _ B (qf M)).le0 (by grind)
 .exact B.le0 F
def moLe:MO->MO->Prop
 |.it mid rest _,.it F B none=>mid=F/\rest=B|x,x'=>x=x'
theorem moLe_m{x:MO}{es:List (D×V)}(h:moLe x (.m es)):x=.m es:=by cases x<;>exact h
theorem MoR.le{id:Nat}{x x':MO}(hr:MoR G w h nx id x)(J:moLe x x'):MoR G w h nx id x':=by
 unfold moLe at J;split at J;.obtain⟨rfl,rfl⟩:=J;obtain⟨b,M,B,F,c0,h1,U,X,Y,Z,h6⟩:=hr;refine⟨b,M,B,F,c0,h1,U,X,Y,Z,λes hm=>?_⟩;grind
 grind
def obLe:Option Ob->Ob->Prop
 |some (.tip n),.tip B=>n=B|some (.cells l),.cells F=>leL l F|some (.map x),.map x'=>moLe x x'|_,.dead=>True|_,_=>False
def okM(nx:Nat):List (D×V)->Prop
 |[]=>True|x::xs=>ok0 nx x.2/\okM nx xs
theorem k64{nx:Nat}:∀{l:List (D×V)},okM nx l->∀(j:Nat)x,l[j]?=some x->ok0 nx x.2
 |[],_=>by simp|x::xs,F=>by intro j y B;cases j with
  |zero=>simp at B;subst B;exact F.1|succ j=>exact k64 F.2 j y B
def okMO(nx:Nat):MO->Prop
 |.m es=>okM nx es|.it mid rest B=>mid<nx/\okM nx rest/\∀e,B=some e->ok0 nx e.2
def okO(nx:Nat):Ob->Prop
 |.tip _=>True|.cells l=>okL nx l|.map x=>okMO nx x|.dead=>True
theorem k48{o:Option Ob}{t:Nat}(h:obLe o (.tip t)):o=some (.tip t):=by cases o with
 |none=>exact h.elim|some B=>cases B with
  |tip n=>have:=h;rw[this]|_=>exact h.elim
theorem k2u{o:Option Ob}{l:List V}(h:obLe o (.cells l)):∃B,o=some (.cells B)/\leL B l:=by cases o with
 |none=>exact h.elim|some F=>cases F with
  |cells B=>exact⟨B,rfl,h⟩|_=>exact h.elim
theorem k9b{o:Option Ob}{x:MO}(h:obLe o (.map x)):∃x0,o=some (.map x0)/\moLe x0 x:=by cases o with
 |none=>exact h.elim|some B=>cases B with
  |map x0=>exact⟨x0,rfl,h⟩|_=>exact h.elim
theorem obLe_m{o:Option Ob}{es:List (D×V)}(h:obLe o (.map (.m es))):o=some (.map (.m es)):=by grind[k9b,moLe_m]
theorem WR.mobLe{base:Nat}(F:WR T base G w h nx){id:Nat}{x:MO}(J:obLe (h.get id) (.map x)):MoR G w h nx id x:=by obtain⟨x0,h1,B⟩:=k9b J;exact(F.mob id x0 h1).le B
theorem k9o{id:Nat}{x:MO}(B:obLe (h.get id) (.map x)):live h id:=by grind[k9b,k1r]
end
def renP(σ:Nat->Nat):List (Option (Nat×Nat))->List (Option (Nat×Nat))
 |[]=>[]|some (id,off)::r=>some (σ id,off)::renP σ r|none::r=>none::renP σ r
def ren1(σ:Nat->Nat):V->V
 |.ptr id off=>.ptr (σ id) off|.own tok sz l=>.own (σ tok) sz l|.row id off len sz=>.row (σ id) off len sz|.mp id=>.mp (σ id)|.clo g B cs=>.clo g (renP σ B) (renP σ cs)|x=>x
def ren0(σ:Nat->Nat):V->V
 |.agg l=>.agg (l.map (ren1 σ))|x=>ren1 σ x
def ren(σ:Nat->Nat):V->V
 |.tup l=>.tup (l.map (ren0 σ))|x=>ren0 σ x
theorem k42(σ:Nat->Nat)(x:V):(ren1 σ x).one=x.one:=by cases x<;>rfl
def renMO(σ:Nat->Nat):MO->MO
 |.m es=>.m (es.map λe=>(e.1,ren0 σ e.2))|.it mid rest B=>.it (σ mid) (rest.map λe=>(e.1,ren0 σ e.2)) (B.map λe=>(e.1,ren0 σ e.2))
def renO(σ:Nat->Nat):Ob->Ob
 |.cells l=>.cells (l.map (ren1 σ))|.map x=>.map (renMO σ x)|.tip n=>.tip n|.dead=>.dead
def hpOf:Nat->List Ob->Hp
 |_,[]=>[]|k,o::r=>(k,o)::hpOf (k+1) r
section
variable{P:Program}{T:Tk}{G0 G G':Gh}{w0 w:World}{N:Nat}{s:St}{a:Act}{h h':Hp}{nx nx':Nat}
structure Ren(σ:Nat->Nat)(G:Gh)(h:Hp)(nx:Nat)(G':Gh)(h':Hp)(nx':Nat):Prop where
 lim:G'.lim=G.lim
 lt:∀i,i<nx->σ i<nx'
 loc:∀i,i<nx->G'.loc (σ i)=G.loc i
 tloc:∀i,i<nx->G'.tloc (σ i)=G.tloc i
 tip:∀i t,i<nx->h'.get (σ i)=some (.tip t)->h.get i=some (.tip t)
theorem PtrsR.ren{σ:Nat->Nat}(F:Ren σ G h nx G' h' nx'):∀{ps:List (Option (Nat×Nat))}{vs:List Value},PtrsR G nx ps vs->PtrsR G' nx' (renP σ ps) vs
 |[],[],_=>trivial|[],_::_,B=>B.elim|_::_,[],B=>B.elim|none::_,_::_,B=>⟨trivial,PtrsR.ren F B.2⟩|some (id,off)::_,_::_,B=>by obtain⟨⟨h1,b,J,M⟩,U⟩:=B;exact⟨⟨F.lt id h1,b,by rw[F.loc id h1];exact J,M⟩,PtrsR.ren F U⟩
theorem PtrsR.back{σ:Nat->Nat}{nx nx':Nat}{G G':Gh}(B:∀i,i<nx'->G'.loc i=G.loc (σ i)):∀{ps:List (Option (Nat×Nat))}{vs:List Value},PtrsR G nx (renP σ ps) vs->okP nx' ps->PtrsR G' nx' ps vs
 |[],[],_,_=>trivial|[],_::_,F,_=>F.elim|none::_,[],F,_=>F.elim|some _::_,[],F,_=>F.elim|none::_,_::_,F,J=>⟨trivial,PtrsR.back B F.2 J⟩|some (id,off)::_,_::_,F,J=>by obtain⟨⟨h1,b,M,U⟩,X⟩:=F;exact⟨⟨J.1,b,by rw[B id J.1];exact M,U⟩,PtrsR.back B X J.2⟩
theorem RepV.ren1{σ:Nat->Nat}(F:Ren σ G h nx G' h' nx'){v:Value}{x:V}(hv:RepV G w h nx v x)(hn:∀l,x≠.agg l)(aa:∀l,x≠.tup l):RepV G' w h' nx' v (Bv.ren1 σ x):=by cases hv with
 |any=>exact .any _|k=>exact .k _|d _ _ U=>exact .d _ _ (by rw[F.lim];exact U)|agg _ l=>grind|tup _ l=>grind|ptr id _ b B X=>exact .ptr _ _ b (F.lt id B) (by rw[F.loc id B];exact X)|ro b off l vs h1 Z h3 h4=>exact .ro b off l vs h1 Z (by rw[F.lim];exact h3) (by rw[F.lim];exact h4)|own _ tok sz l U ht hs=>refine .own _ _ _ _ (by rw[F.lim];exact U) (F.lt tok ht) λt h1=>?_;obtain⟨g1,g2⟩:=hs t (F.tip tok t ht h1);refine⟨g1,λe=>?_⟩;have:=g2 e;cases v with
  |slice A n cap=>
   simp only[Spare]at this⊢;rcases this with h6|⟨b,off,c,e',hA,M,J,ho,Y⟩;.grind
   .exact .inr ⟨b,off,c,e',hA,by rw[F.tloc tok ht];exact M,J,by rw[F.lim];exact ho,Y⟩|_=>exact this
 |full A sz l U=>exact .full A sz l (by rw[F.lim];exact U)|row id _ _ _ b o cap n B X h1 Z h3 h4 h5=>exact .row _ _ _ _ b o cap n (F.lt id B) (by rw[F.loc id B];exact X) h1 Z h3 h4 h5|rown _ id _ _ B=>exact .rown _ _ _ _ (F.lt id B)|mp id b B X=>exact .mp _ b (F.lt id B) (by rw[F.loc id B];exact X)|clo g fs cs vs us hf Y=>exact .clo _ _ _ _ _ (hf.ren F) (Y.ren F)
theorem RepV.ren0{σ:Nat->Nat}(X:Ren σ G h nx G' h' nx'){v:Value}{x:V}(B:RepV G w h nx v x)(J:∀l,x≠.tup l):RepV G' w h' nx' v (Bv.ren0 σ x):=by
 unfold Bv.ren0;split
 .obtain⟨vs,rfl,h1,Y,Z⟩:=B.agg_inv;refine .agg _ _ (by grind) (λx F=>?_) λj v x B F=>?_;.grind[k42]
  .rw[qr,qac]at F;obtain⟨y,M,rfl⟩:=F;have U:=Y y (qbm M);exact(Z j v y B M).ren1 X (λl e=>by subst e;cases U) λl e=>by subst e;cases U
 .rename_i hn;exact B.ren1 X hn J
theorem RepV.ren{σ:Nat->Nat}(M:Ren σ G h nx G' h' nx'){v:Value}{x:V}(B:RepV G w h nx v x)(F:∀l,x=.tup l->∀y∈l,∀l',y≠.tup l'):RepV G' w h' nx' v (Bv.ren σ x):=by
 unfold Bv.ren;split;.obtain⟨vs,rfl,h1,U⟩:=B.tup_inv;refine .tup _ _ (by grind) λj v x B J=>?_;rw[qr,qac]at J;obtain⟨y,X,rfl⟩:=J;exact(U j v y B X).ren0 M (by grind)
 .rename_i Y;exact B.ren0 M Y
theorem k4p{σ:Nat->Nat}{h h':Hp}{nx nx':Nat}{G G':Gh}{w:World}(ab:G'.lim=G.lim)(B:∀i,i<nx'->G'.loc i=G.loc (σ i))(aa:∀i,i<nx'->G'.tloc i=G.tloc (σ i))(Y:∀i t,i<nx'->h'.get i=some (.tip t)->h.get (σ i)=some (.tip t)){v:Value}{x:V}(F:RepV G w h nx v (ren1 σ x))(J:ok1 nx' x):RepV G' w h' nx' v x:=by cases x with
 |any=>exact .any _|k u=>rw[F.k_inv];exact .k _|d y=>cases F with|d _ _ hd=>exact .d _ _ (by grind)
 |agg l=>exact J.elim|tup l=>exact J.elim|ptr id off=>cases F with|ptr _ _ b X M=>exact .ptr _ _ b J (by rw[B id J];exact M)
 |ro l=>cases F with|ro b off _ vs h1 h2 h3 h4=>exact .ro b off l vs h1 h2 (by grind) (by grind)
 |own tok sz l=>cases F with|own _ _ _ _ hd ht hs=>refine .own _ _ _ _ (by grind) J λt h1=>?_;obtain⟨g1,g2⟩:=hs t (Y tok t J h1);refine⟨g1,λe=>?_⟩;have:=g2 e;cases v with
  |slice A n cap=>
   simp only[Spare]at this⊢;rcases this with h6|⟨b,off,c,e',hA,M,U,ac,Z⟩;.grind
   .exact .inr ⟨b,off,c,e',hA,by rw[aa tok J];exact M,U,by grind,Z⟩|_=>exact this
 |full sz l=>obtain⟨A,rfl,hd⟩:=F.full_inv;exact .full A sz l (by grind)|row id off len sz=>cases F with
  |row _ _ _ _ b o cap n X M h1 h2 h3 h4 h5=>exact .row _ _ _ _ b o cap n J (by rw[B id J];exact M) h1 h2 h3 h4 h5|rown _ _ _ _ X=>exact .rown _ _ _ _ J
 |mp id=>cases F with|mp _ b X M=>exact .mp _ b J (by rw[B id J];exact M)
 |clo g fs cs=>cases F with|clo _ _ _ vs us hf Z=>exact .clo _ _ _ _ _ (hf.back B J.1) (Z.back B J.2)
theorem k2n{σ:Nat->Nat}{h h':Hp}{nx nx':Nat}{G G':Gh}{w:World}(B:G'.lim=G.lim)(F:∀i,i<nx'->G'.loc i=G.loc (σ i))(M:∀i,i<nx'->G'.tloc i=G.tloc (σ i))(J:∀i t,i<nx'->h'.get i=some (.tip t)->h.get (σ i)=some (.tip t)){v:Value}{x:V}(X:RepV G w h nx v (ren0 σ x))(Y:ok0 nx' x):RepV G' w h' nx' v x:=by cases x with
 |agg l=>
  obtain⟨vs,rfl,h1,h2,Z⟩:=X.agg_inv;refine .agg _ _ (by grind) (λy U=>?_) λj u y hu U=>?_;.rw[<-k42 σ y];grind
  .exact k4p B F M J (Z j u (ren1 σ y) hu (by rw[qr,U];rfl)) (k5l Y j y U)|_=>exact k4p B F M J X Y
theorem kej{σ:Nat->Nat}{h h':Hp}{nx nx':Nat}{G G':Gh}{w:World}(B:G'.lim=G.lim)(F:∀i,i<nx'->G'.loc i=G.loc (σ i))(M:∀i,i<nx'->G'.tloc i=G.tloc (σ i))(J:∀i t,i<nx'->h'.get i=some (.tip t)->h.get (σ i)=some (.tip t)){v:Value}{x:V}(U:RepV G w h nx v (ren σ x))(Y:ok nx' x):RepV G' w h' nx' v x:=by cases x with
 |tup l=>obtain⟨vs,rfl,h1,Z⟩:=U.tup_inv;refine .tup _ _ (by grind) λj u y hu X=>?_;exact k2n B F M J (Z j u (ren0 σ y) hu (by rw[qr,X];rfl)) (kp3 Y j y X)|_=>exact k2n B F M J U Y
theorem knx:∀os k i,(hpOf k os).get i=if k<=i then os[i-k]? else none
 |[],k,i=>by simp[hpOf,Hp.get]|n::r,k,i=>by
  simp only[hpOf,Hp.get];by_cases hi:i=k;.grind
  .rw[qe hi,knx r (k+1) i];grind
theorem ky(os:List Ob)(i:Nat):(hpOf 0 os).get i=os[i]?:=by rw[knx,qg (qbf _),Nat.sub_zero]
theorem k2t:∀h1 B i,Hp.get (h1++B) i=match h1.get i with|some o=>some o|none=>B.get i
 |[],B,i=>rfl|(j,o)::r,B,i=>by
  simp only[List.cons_append,Hp.get];split;.rfl
  .exact k2t r B i
def tkOf(G:Gh)(pre:List Ob):Tk:=⟨λb=>∃i,i<pre.length/\(G.loc i=some b∨G.tloc i=some b),hpOf 0 pre,pre.length⟩
def SoundH(P:Program)(f:FuncId)(xs:List V)(pre:List Ob)(r:V)(B:List Ob):Prop:=∀G w(vs:List Value),vs.length=xs.length->(∀(j:Nat)v x,vs[j]?=some v->xs[j]?=some x->RepV G w (hpOf 0 pre) pre.length v x)->WR (tkOf G pre) w.heap.size G w (hpOf 0 pre) pre.length->Calls P f vs.toArray w λe w'=>∃v G',e=.returned v/\RepV G' w' (hpOf 0 B) B.length v r/\WR (tkOf G pre) w.heap.size G' w' (hpOf 0 B) B.length/\Fr (tkOf G pre) G w G' w'/\Ex (tkOf G pre) G w G' w' (hpOf 0 B) B.length
def notIt:Ob->Prop
 |.map (.it _ _ _)=>False|_=>True
def noIt(h:Hp):Prop:=∀i o,h.get i=some o->notIt o
structure ppOk(pre post:List Ob):Prop where
 l:pre.length<=post.length
 n:∀o∈post,notIt o
theorem ksr{σ:Nat->Nat}{o:Ob}(h:notIt o):notIt (renO σ o):=by cases o with
 |map x=>cases x with
  |m es=>trivial|it=>exact h.elim
 |_=>trivial
def noTup:V->Prop
 |.tup l=>∀y∈l,∀l',y≠.tup l'|_=>True
def sgm(ids:Ln)(B i:Nat):Nat:=match ids[i]? with
 |some k=>k|none=>B+(i-ids.length)
def notDead:Ob->Prop
 |.dead=>False|_=>True
def hpNew(σ:Nat->Nat):Nat->List Ob->Hp
 |_,[]=>[]|k,o::r=>(σ k,renO σ o)::hpNew σ (k+1) r
def preOk(h:Hp)(σ:Nat->Nat)(m B nx:Nat):Ln->List Ob->Prop
 |[],[]=>True|k::F,o::os=>(k<B/\k<nx/\obLe (h.get k) (renO σ o)/\okO m o/\notDead o)/\preOk h σ m B nx F os|_,_=>False
theorem k9h{σ:Nat->Nat}{m U:Nat}:∀{F:Ln}{os:List Ob},preOk h σ m U nx F os->F.length=os.length/\∀(i k:Nat)o,F[i]?=some k->os[i]?=some o->k<U/\k<nx/\obLe (h.get k) (renO σ o)/\okO m o/\notDead o
 |[],[],_=>⟨rfl,by simp⟩|k::F,o::os,B=>by obtain⟨h1,X⟩:=k9h B.2;refine⟨by simp[h1],λi Y o' J M=>?_⟩;cases i with
  |zero=>simp at J M;subst J;subst M;exact B.1|succ i=>exact X i Y o' J M
 |[],_::_,B=>B.elim|_::_,[],B=>B.elim
def notTip:Ob->Prop
 |.tip _=>False|_=>True
theorem kki{σ:Nat->Nat}:∀os k i o,(∀i j,i<k+os.length->j<k+os.length->σ i=σ j->i=j)->k<=i->os[i-k]?=some o->(hpNew σ k os).get (σ i)=some (renO σ o)
 |[],k,i,o,_,_,B=>by simp at B|n::r,k,i,o,F,M,B=>by
  simp only[hpNew,Hp.get];by_cases hi:i=k;.grind
  .rw[qe (by grind)];refine kki r (k+1) i o (by grind) qqo ?_;grind
theorem kjs{σ:Nat->Nat}:∀os k id,(∀i,k<=i->i<k+os.length->σ i≠id)->(hpNew σ k os).get id=none
 |[],_,_,_=>rfl|n::r,k,id,B=>by simp only[hpNew,Hp.get];rw[qe (by grind)];exact kjs r (k+1) id λi h1 F=>B i qqo qqm
end
section
variable{P:Program}{T:Tk}{G0 G:Gh}{w0 w:World}{N:Nat}{s:St}{a:Act}
theorem ko8{σ:Nat->Nat}{o:Ob}{t:Nat}(h:renO σ o=.tip t):o=.tip t:=by cases o<;>simp_all[renO]
theorem ks4{σ:Nat->Nat}{o:Ob}{l:List V}(h:renO σ o=.cells l):∃l0,o=.cells l0/\l=l0.map (ren1 σ):=by cases o<;>simp_all[renO]
theorem kv5{σ:Nat->Nat}{o:Ob}{x:MO}(h:renO σ o=.map x):∃x0,o=.map x0/\x=renMO σ x0:=by cases o<;>simp_all[renO]
theorem kw5{σ:Nat->Nat}{v:V}(l:List V)(h:ren0 σ v=.tup l):∃l,v=.tup l:=by cases v<;>first|exact⟨_,rfl⟩|(simp[Bv.ren0,Bv.ren1]at h)
theorem renE_tup'{σ:Nat->Nat}{v:V}(l:List V)(h:v=.tup l):∃l,ren0 σ v=.tup l:=by subst h;exact⟨_,rfl⟩
theorem R.call(hR:R T G0 w0 N s a G w){f:FuncId}{xs:List V}{pre:List Ob}{r:V}{B:List Ob}(hs:SoundH P f xs pre r B)(bq:noIt s.h){ids:Ln}{fb nx':Nat}(bs:preOk s.h (sgm ids fb) pre.length fb s.nx ids pre)(ci:ids.Nodup)(bt:ppOk pre B)(bh:fb=s.nx/\nx'=s.nx+(B.length-pre.length)∨nx'=s.nx/\∀j,j<B.length-pre.length->fb+j<s.nx/\G.loc (fb+j)=none/\G.tloc (fb+j)=none/\∀o,B[pre.length+j]?=some o->notTip o){vs:List Value}(bu:vs.length=xs.length)(hr:∀(j:Nat)(v:Value)(x:V),vs[j]?=some v->xs[j]?=some x->RepV G w s.h s.nx v (ren (sgm ids fb) x)/\ok pre.length x)(bi:noTup r):Calls P f vs.toArray w λe w'=>∃v G',e=.returned v/\R T G0 w0 N ⟨s.sl,hpNew (sgm ids fb) 0 B++s.h,nx'⟩ a G' w'/\RepV G' w' (hpNew (sgm ids fb) 0 B++s.h) nx' v (ren (sgm ids fb) r)/\∀i,i<s.nx->(∀k,k<B.length->sgm ids fb k≠i)->G'.loc i=G.loc i/\G'.tloc i=G.tloc i:=by
 have hw:=hR.wr;have cf:=bt.l;obtain⟨bw,cg⟩:=k9h bs;generalize hσ:sgm ids fb=σ at*;have σlt:∀i,i<pre.length->∃k,ids[i]?=some k/\σ i=k:=λi hi=>by
  have:i<ids.length:=by omega
  exact⟨ids[i],by grind,by rw[<-hσ];simp[sgm,this]⟩
 have σge:∀i,pre.length<=i->σ i=fb+(i-pre.length):=λi hi=>by rw[<-hσ];have:ids[i]?=none:=(by grind);simp[sgm,this,bw]
 have σob:∀i o,pre[i]?=some o->σ i<fb/\σ i<s.nx/\obLe (s.h.get (σ i)) (renO σ o)/\okO pre.length o/\notDead o:=(by grind);have σlo:∀i,i<pre.length->σ i<fb/\σ i<s.nx:=λi hi=>⟨(σob i _ (qf hi)).1,(σob i _ (qf hi)).2.1⟩;have σlive:∀i,i<pre.length->live s.h (σ i):=by intro i hi;obtain⟨_,_,h1,_,h2⟩:=σob i _ (qf hi);generalize pre[i]=o at h1 h2;cases o with
  |cells l=>obtain⟨l0,h1,_⟩:=k2u h1;exact ki h1|tip t=>exact k1i (k48 h1)|map es=>exact k9o h1|dead=>exact h2.elim
 have σinj:∀i j,σ i=σ j->i=j:=by grind[Nat.lt_or_ge,List.getElem?_inj]
 have bx:s.nx<=nx':=by grind
 have σlt':∀i,i<B.length->σ i<nx':=by grind
 
 let G1:Gh:=⟨λi=>if i<pre.length then G.loc (σ i)else none,λi=>if i<pre.length then G.tloc (σ i)else none,G.lim⟩;have ac:∀i,i<pre.length->G1.loc i=G.loc (σ i):=λi hi=>by grind
 have ad:∀i,i<pre.length->G1.tloc i=G.tloc (σ i):=λi hi=>by grind
 have ae:∀i t,i<pre.length->(hpOf 0 pre).get i=some (.tip t)->s.h.get (σ i)=some (.tip t):=by intro i t hi hg;rw[ky]at hg;exact k48 (σob i _ hg).2.2.1
 have bz:WR (tkOf G1 pre) w.heap.size G1 w (hpOf 0 pre) pre.length:=by
  refine⟨?_,?_,?_,?_,?_,hw.lim⟩
  .intro id l hg;rw[ky]at hg;obtain⟨_,_,h1,h2,_⟩:=σob id _ hg;have ag:id<pre.length:=(by grind);obtain⟨l0,ca,cb⟩:=k2u h1;obtain⟨q1,q2,q3⟩:=k37 cb;rw[qp]at q1;rcases hw.obj (σ id) l0 ca with⟨z1,z2⟩|⟨b,e,cs,k1,k2,k3,k4,k5,k6⟩;.grind
   refine .inr ⟨b,e,cs,by grind,k2,k3,by omega,λx hx=>?_,λj v x hv hx=>?_⟩;.grind[k42]
   .have hj:j<l0.length:=by grind
    have:=(k6 j v _ hv (qf hj)).le1 (q3 j _ (ren1 σ x) (qf hj) (by rw[qr,hx];rfl));exact k4p (G:=G) (G':=G1) rfl ac ad ae this (k5l h2 j x hx)
  .intro id es hg;rw[ky]at hg;obtain⟨_,_,h1,h2,_⟩:=σob id _ hg;have ag:id<pre.length:=(by grind);have hm:=hw.mobLe h1;cases es with
   |m es=>
    obtain⟨b,ao,ms,k1,k2,k3,k4⟩:=hm;refine⟨b,ao,ms,by grind,k2,k3.tr qqs λj e e' q1 q2=>?_,k4⟩;rw[qr,q2]at q1;obtain rfl:(e'.1,ren0 σ e'.2)=e:=by grind
    exact⟨renE_tup',λ_ k v r1 r2=>⟨r1,k2n (G:=G) (G':=G1) rfl ac ad ae r2 (k64 h2 j e' q2)⟩⟩|it mid rest bb=>obtain⟨x0,cc,cd⟩:=k9b h1;have:=bq (σ id) _ cc;cases x0 with
    |m es=>simp[renMO,moLe]at cd|it=>exact this.elim
  .intro id b ag hb;rw[ac id ag,ad id ag]at hb;exact⟨(hw.here (σ id) b (σlo id ag).2 hb).1,.inr ⟨id,ag,by grind⟩⟩
  .intro i j b hi hj X Y _ _;rw[ac i hi,ad i hi]at X;rw[ac j hj,ad j hj]at Y;exact σinj i j (hw.inj _ _ b (σlo i hi).2 (σlo j hj).2 X Y (σlive i hi) (σlive j hj))
  grind[ky]
 refine(hs G1 w vs bu (λj v x hv hx=>kej (G:=G) (G':=G1) rfl ac ad ae (hr j v x hv hx).1 (hr j v x hv hx).2) bz).mono λe w'⟨v,G2,he,hv,hW,hF,hE⟩=>?_;let aq:Nat->On:=λk=>(List.range B.length).find? λi=>decide (σ i=k);have bv:∀i,i<B.length->aq (σ i)=some i:=by intro i hi;simp only[aq];cases hf:(List.range B.length).find? λj=>decide (σ j=σ i)with
  |none=>grind|some j=>grind
 have bj:∀k,(∀i,i<B.length->σ i≠k)->aq k=none:=by grind
 let G':Gh:=⟨λk=>match aq k with|some i=>G2.loc i|none=>G.loc k,λk=>match aq k with|some i=>G2.tloc i|none=>G.tloc k,G2.lim⟩;have ab:∀i,i<B.length->G'.loc (σ i)=G2.loc i/\G'.tloc (σ i)=G2.tloc i:=(by grind);have M:∀k,(∀i,i<B.length->σ i≠k)->G'.loc k=G.loc k/\G'.tloc k=G.tloc k:=(by grind);have al:∀i o,B[i]?=some o->Hp.get (hpNew σ 0 B++s.h) (σ i)=some (renO σ o):=by intro i o ho;rw[k2t,kki B 0 i o (by grind) (qbf _) (by grind)]
 have Z:∀k,(∀i,i<B.length->σ i≠k)->Hp.get (hpNew σ 0 B++s.h) k=s.h.get k:=by grind[k2t,kjs]
 have J:∀k,(∃i,i<B.length/\σ i=k)∨∀i,i<B.length->σ i≠k:=by grind
 
 have ai:∀k b,k<s.nx->live s.h k->(∀i,i<B.length->σ i≠k)->G.loc k=some b∨G.tloc k=some b->b<w.heap.size/\w'.heap[b]?=w.heap[b]?/\G2.lim b=G.lim b:=by
  intro k b hk bc F hb;have bd:=(hw.here k b hk hb).1;have bf:¬(tkOf G1 pre) b:=by rintro⟨i,hi,X⟩;rw[ac i hi,ad i hi]at X;exact F i qqo (hw.inj k (σ i) b hk (σlo i hi).2 hb X bc (σlive i hi)).symm
  exact⟨bd,hF.same b bd bf⟩
 have am:Ext G w s.h s.nx G' w' (hpNew σ 0 B++s.h) nx':=by
  refine⟨hF.mono,bx,λid b hi hb=>?_,λtok t' ht h1=>?_,hE.csz⟩
  .rcases J id with⟨i,au,rfl⟩|F
   .rw[(ab i au).1];rcases qaw i pre.length with h|h;.exact hE.loc i b h (by grind)
    grind
   grind
  .rcases J tok with⟨i,au,rfl⟩|F
   .rw[al i _ (qf au)]at h1;injection h1 with h1;have bk:=ko8 h1;rcases qaw i pre.length with h|h;.obtain⟨t,g1,g2,g3⟩:=hE.tok i t' h (by rw[ky,qf au,bk]);refine⟨t,ae i t h g1,g2,λch b hb=>?_⟩;grind
    .rw[σge i h]at ht;rcases bh with⟨q1,q2⟩|⟨q1,q2⟩;.omega
     .have:=(q2 (i-pre.length) qqo).2.2.2 _ (by rw[show pre.length+(i-pre.length)=i by omega];exact qf au);rw[bk]at this;exact this.elim
   .rw[Z tok F]at h1;refine⟨t',h1,qaf _,λ_ b hb=>?_⟩;obtain⟨q0,q1,q2⟩:=ai tok b ht (k1i h1) F (.inr hb);exact⟨by rw[(M tok F).2];exact hb,q1,q2⟩
 have aw:Ren σ G2 (hpOf 0 B) B.length G' (hpNew σ 0 B++s.h) nx':=⟨rfl,σlt',λi hi=>(ab i hi).1,λi hi=>(ab i hi).2,λi t hi hg=>by grind[List.getElem?_eq_getElem,ky,ko8]⟩;have ax:∀x:V,x.one=true->(∀l,x≠.agg l)/\∀l,x≠.tup l:=λx hx=>⟨λl h=>(by subst h;cases hx),λl h=>by subst h;cases hx⟩;refine⟨v,G',he,⟨?_,⟨?_,?_,?_,?_,?_,?_⟩,hR.df,hR.sz,λt=>(hR.sl t).ext am,hR.ex.ext am⟩,hv.ren aw λl hl y hy l'=>by subst hl;exact bi y hy l',by grind⟩
 .have aj:=hR.fr;refine⟨hF.os.trans aj.os,hF.tape.trans aj.tape,hF.output.trans aj.output,qbd aj.size hF.size,λb hb hT=>?_,aj.mono.trans hF.mono⟩;have bf:¬(tkOf G1 pre) b:=by
   rintro⟨i,hi,X⟩;rw[ac i hi,ad i hi]at X;rcases(hw.here (σ i) b (σlo i hi).2 X).2 with h|h;.omega
   grind
  obtain⟨q1,q2⟩:=hF.same b (qau hb aj.size) bf;obtain⟨q3,q4⟩:=aj.same b hb hT;grind
 .intro id l hl;rcases J id with⟨i,hi,rfl⟩|F
  .have U:Hp.get (hpNew σ 0 B++s.h) (σ i)=some (.cells l):=hl;rw[al i _ (qf hi)]at U;injection U with U;obtain⟨l0,hp,rfl⟩:=ks4 U;rcases hW.obj i l0 (by rw[ky,qf hi,hp])with⟨z1,z2⟩|⟨b,e',cs,k1,k2,k3,k4,k5,k6⟩;.grind
   refine .inr ⟨b,e',cs,by grind,k2,k3,by grind,λx hx=>?_,λj u x hu hx=>?_⟩;.obtain⟨y,hy,rfl⟩:=qap.1 hx;grind[k42]
   .rw[qr,qac]at hx;obtain⟨y,hy,rfl⟩:=hx;have:=ax y (by grind);exact(k6 j u y hu hy).ren1 aw this.1 this.2
  .have U:Hp.get (hpNew σ 0 B++s.h) id=some (.cells l):=hl;rw[Z id F]at U;rcases hw.obj id l U with⟨z1,z2⟩|⟨b,e',cs,k1,k2,k3,k4,k5,k6⟩;.grind
   obtain⟨q0,q1,q2⟩:=ai id b (hw.hid _ _ U) (ki U) F (.inl k1);exact .inr ⟨b,e',cs,by rw[(M id F).1];exact k1,q1.trans k2,q2.trans k3,k4,k5,λj v x hv hx=>(k6 j v x hv hx).ext am⟩
 .intro id es hl;rcases J id with⟨i,hi,rfl⟩|F;.have U:Hp.get (hpNew σ 0 B++s.h) (σ i)=some (.map es):=hl;rw[al i _ (qf hi)]at U;injection U with U;obtain⟨bg,hp,rfl⟩:=kv5 U;have hm:=hW.mob i bg (by rw[ky,qf hi,hp]);cases bg with
   |m bg=>
    obtain⟨b,ao,ms,k1,k2,k3,k4⟩:=hm;refine⟨b,ao,ms,by grind,k2,k3.tr qqs λj e e' q1 q2=>?_,k4⟩;rw[qr,q1]at q2;obtain rfl:(e.1,ren0 σ e.2)=e':=by grind
    exact⟨kw5,λhn k v r1 r2=>⟨r1,r2.ren0 aw hn⟩⟩|it mid rest bb=>exact bt.n _ (qz hi)|>λh=>by rw[hp]at h;exact h.elim
  .have U:Hp.get (hpNew σ 0 B++s.h) id=some (.map es):=hl;rw[Z id F]at U;have hm:=hw.mob id es U;cases es with
   |m es=>obtain⟨b,ao,ms,k1,k2,k3,k4⟩:=hm;obtain⟨q0,q1,q2⟩:=ai id b (hw.hid _ _ U) (k1r U) F (.inl k1);exact⟨b,ao,ms,by rw[(M id F).1];exact k1,q1.trans k2,k3.ext am,k4⟩|it mid rest bb=>exact(bq id _ U).elim
 .intro id b ag hb;rcases J id with⟨i,hi,rfl⟩|F
  .rw[(ab i hi).1,(ab i hi).2]at hb;obtain⟨q1,q2⟩:=hW.here i b hi hb;refine⟨q1,?_⟩;rcases q2 with q2|⟨j,hj,Y⟩;.exact .inl (qbd hR.fr.size q2)
   .rw[ac j hj,ad j hj]at Y;exact(hw.here (σ j) b (σlo j hj).2 Y).2
  .rw[(M id F).1,(M id F).2]at hb;have ag:id<nx':=ag;have bm:id<s.nx:=by
    rcases bh with⟨h1,h2⟩|⟨h1,h2⟩
    .rcases qaw id s.nx with h|h;.exact h
     .exact(F (pre.length+(id-s.nx)) qqo (by rw[σge _ qqo];omega)).elim
    .omega
   obtain⟨q1,q2⟩:=hw.here id b bm hb;exact⟨qau q1 hF.size,q2⟩
 .intro i j b hi hj X Y li lj;have hi:i<nx':=hi;have hj:j<nx':=hj;have ba:∀k,k<nx'->(∀i,i<B.length->σ i≠k)->k<s.nx:=by
   intro k hk F;rcases bh with⟨h1,h2⟩|⟨h1,h2⟩
   .rcases qaw k s.nx with h|h;.exact h
    .exact(F (pre.length+(k-s.nx)) qqo (by rw[σge _ qqo];omega)).elim
   .omega
  have ay:∀k b' i',k<s.nx->live s.h k->(∀i,i<B.length->σ i≠k)->G.loc k=some b'∨G.tloc k=some b'->i'<B.length->G2.loc i'=some b'∨G2.tloc i'=some b'->False:=by
   intro k b' i' hk bc F bn ah ce;have bd:=(hw.here k b' hk bn).1;rcases(hW.here i' b' ah ce).2 with h|⟨j,hj,Y⟩;.omega
   .rw[ac j hj,ad j hj]at Y;exact F j qqo (hw.inj k (σ j) b' hk (σlo j hj).2 bn Y bc (σlive j hj)).symm
  have az:∀i,i<B.length->live (hpNew σ 0 B++s.h) (σ i)->live (hpOf 0 B) i:=by intro i hi l;obtain⟨o,ho,hd⟩:=live_of l;rw[al i _ (qf hi)]at ho;injection ho with ho;unfold live;rw[ky,qf hi];cases hp:B[i]with
   |dead=>rw[hp]at ho;exact hd ho.symm|_=>trivial
  rcases J i with⟨i',ah,rfl⟩|F<;>rcases J j with⟨j',ak,rfl⟩|aa;.rw[(ab i' ah).1,(ab i' ah).2]at X;rw[(ab j' ak).1,(ab j' ak).2]at Y;rw[hW.inj i' j' b ah ak X Y (az i' ah li) (az j' ak lj)]
  .rw[(ab i' ah).1,(ab i' ah).2]at X;rw[(M j aa).1,(M j aa).2]at Y;exact(ay j b i' (ba j hj aa) (live_eq (Z j aa) lj) aa Y ah X).elim
  .rw[(ab j' ak).1,(ab j' ak).2]at Y;rw[(M i F).1,(M i F).2]at X;exact(ay i b j' (ba i hi F) (live_eq (Z i F) li) F X ak Y).elim
  .rw[(M i F).1,(M i F).2]at X;rw[(M j aa).1,(M j aa).2]at Y;exact hw.inj i j b (ba i hi F) (ba j hj aa) X Y (live_eq (Z i F) li) (live_eq (Z j aa) lj)
 .intro id ob hg;show id<nx';rcases J id with⟨i,hi,rfl⟩|F;.exact σlt' i hi
  .have bo:Hp.get (hpNew σ 0 B++s.h) id=some ob:=hg;rw[Z id F]at bo;have:=hw.hid _ _ bo;omega
 .exact hW.lim
end
section
variable{P:Program}{T:Tk}{G0 G:Gh}{w0 w:World}{N:Nat}{s:St}{a:Act}{h:Hp}{nx:Nat}
def elZ(P:Program)(t:TypeId):Option (List V):=match P.underlying t with
 |some (.slice e)=>zeroV P e|_=>none
def zrow(n:Nat):List V->List V
 |[z]=>List.replicate n z|zs=>(List.replicate n zs).flatten
theorem kwb(n:Nat)(B:List V)(j:Nat):(zrow n B)[j]?=if j<n*B.length then B[j%B.length]? else none:=by
 have F:∀n j,(List.replicate n B).flatten[j]?=if j<n*B.length then B[j%B.length]? else none:=by intro n;induction n with
  |zero=>grind|succ n M=>
   intro j;rw[qep,qfp,qfk,qek];split;.rename_i J;rw[qg qqo,Nat.mod_eq_of_lt J]
   .have e:j%B.length=(j-B.length)%B.length:=by rw[Nat.mod_eq_sub_mod qqo]
    grind
 unfold zrow;grind
theorem krn(n:Nat)(B:List V):(zrow n B).length=n*B.length:=by
 unfold zrow;split;.simp
 .simp
theorem kw4{n:Nat}{B:List V}{x:V}(F:x∈zrow n B):x∈B:=by unfold zrow at F;grind[List.mem_flatten]
theorem R.make(hR:R T G0 w0 N s a G w){t:TypeId}{sz bt:Nat}(ay:rowOf P t=some (sz,bt)){zs:List V}(hz:elZ P t=some zs){n c:Nat}{q q':IntKind}(az:n<=c)(bj:c*bt<=140737488355328)(ba:c<=maxLen)(k nx':Nat)(hk:k=s.nx/\nx'=s.nx+1∨k<s.nx/\nx'=s.nx/\G.loc k=none/\G.tloc k=none/\s.h.get k=none):∃v w' G',(Instr.makeSlice t (.int q n) (.int q' c)).run P w=.ok v w'/\R T G0 w0 N ⟨s.sl,(k,.cells (zrow n zs))::s.h,nx'⟩ a G' w'/\RepV G' w' ((k,.cells (zrow n zs))::s.h) nx' v (.row k 0 n sz)/\∀i,i≠k->i<s.nx->G'.loc i=G.loc i/\G'.tloc i=G.tloc i:=by
 obtain⟨e,i,z,hu,hi,ah,ae,ai,aj,ab⟩:=k2d ay;have bb:zeroV P e=some zs:=by unfold elZ at hz;rw[hu]at hz;exact hz
 obtain⟨i2,z2,Z,aa,ak⟩:=k6s (G:=G) (w:=w) (h:=s.h) (nx:=s.nx) bb;rw[hi]at Z;injection Z with Z;subst Z;rw[ah]at aa;injection aa with aa;subst aa;obtain⟨r1,r2,r3⟩:=ak;have al:zs.length=sz:=by rw[<-r1];simpa using ae
 let cs:=(List.range (c*sz)).map λj=>z.cells[j%z.cells.size]!;have ac:cs.length=c*sz:=by simp[cs]
 have am:∀j v,cs[j]?=some v->z.cells.toList[j%sz]?=some v:=by
  intro j v hv;simp only[cs,qr,qac]at hv;obtain⟨j',X,rfl⟩:=hv;have:j<c*sz:=by have:=(qq.1 X).1;simpa using this
  rw[List.getElem?_range this]at X;injection X with X;subst X;have bc:j%sz<z.cells.size:=by rw[ae];exact Nat.mod_lt _ ai
  rw[ae];simp[getElem!_pos,bc]
 have ao:(Instr.makeSlice t (.int q n) (.int q' c)).run P w=.ok (.slice (some ⟨w.heap.size,0,none⟩) n c) (w.alloc (.cells cs.toArray e)):=by
  have bk:c<=9223372036854775807:=by simp only[maxLen]at ba;omega
  have w1:IntKind.i64.wrap (n:Int)=n:=IntWalk.i64_in _ ⟨by omega,by omega⟩;have w2:IntKind.i64.wrap (c:Int)=c:=IntWalk.i64_in _ ⟨by omega,by omega⟩;have B:i.bytes*(c:Int)<=140737488355328:=by
   have:bt*c<=140737488355328:=by rw[qeh];exact bj
   rw[ab,<-qdm];omega
  have bm:i.bytes*(n:Int)<=140737488355328:=by refine qes ?_ B;exact qej qqo qqo
  have ag:¬c*i.bytes>roomBytes:=by rw[ab];unfold roomBytes;omega
  have bd:∀w,(zeroValue e).run P w=.ok z w:=λw=>by simp[zeroValue,typeInfo,hi,ah]
  have t1:(decide ((c:Int)<0)||decide ((i.bytes:Int)*(c:Int)>2^48))=false:=by simp;omega
  simp only[Instr.makeSlice,qw,qam hu,qj,asInt,asIntOf,qag,typeInfo,run_program,hi,w1,w2,qv];rw[qe (by rw[t1];simp;omega)];simp only[askRoom,qe ag,qw,qag,qj,sizeOf,typeInfo,run_program,hi,aj];by_cases h0:c*sz=0;.have aq:cs=[]:=qax qqo;rw[qg h0];simp only[qag,qj,Go.newRow,Go.newObj,qw,Sem.run,h0,aq];rw[show Array.map (λx=>(#[]:Array Value)[x%(#[]:Array Value).size]!) (Array.range 0)=#[]from by simp];rfl
  .rw[qe h0];simp only[qw,bd,qj,qag,Go.newRow,Go.newObj,Sem.run];have au:(Array.range (c*sz)).map (λj=>z.cells[j%z.cells.size]!)=cs.toArray:=by apply qdy;simp[cs]
   rw[au];rfl
 have M:=hR.wr;let G':Gh:=⟨λi=>if i=k then some w.heap.size else G.loc i,λi=>if i=k then none else G.tloc i,G.lim⟩;have J:∀i,i≠k->G'.loc i=G.loc i/\G'.tloc i=G.tloc i:=λi hi=>by simp[G',hi]
 have bf:∀i,i≠k->Hp.get ((k,.cells (zrow n zs))::s.h) i=s.h.get i:=λi hi=>by simp[Hp.get,hi]
 have ad:k<nx':=by rcases hk with h|h<;>omega
 have bg:s.nx<=nx':=by rcases hk with h|h<;>omega
 have he:Ext G w s.h s.nx G' (w.alloc (.cells cs.toArray e)) ((k,.cells (zrow n zs))::s.h) nx':=by
  refine⟨k3r M.lim _ λ_ _=>rfl,bg,λid b hi B=>?_,λtok t' ht h1=>?_,λb n B=>by rw[k4b (Below.heap_alloc w _ b (csz_lt B))];exact B⟩
  .by_cases U:id=k
   .subst U;rcases hk with⟨h1,_⟩|⟨_,_,h1,_⟩;.omega
    .rw[h1]at B;cases B
   .rw[(J id U).1];exact B
  .by_cases U:tok=k;.subst U;simp[Hp.get]at h1
   .rw[bf tok U]at h1;refine⟨t',h1,qaf _,λ_ b B=>?_⟩;have:=(M.here tok b ht (.inr B)).1;exact⟨by rw[(J tok U).2];exact B,Below.heap_alloc w _ b qqo,rfl⟩
 have key:∀i b,i<nx'->G'.loc i=some b∨G'.tloc i=some b->i=k/\b=w.heap.size∨i<s.nx/\b<w.heap.size/\i≠k/\(G.loc i=some b∨G.tloc i=some b):=by
  intro i b hi B;by_cases h0:i=k;.subst h0;simp[G']at B;exact .inl ⟨rfl,B.symm⟩
  .rw[(J i h0).1,(J i h0).2]at B;have aw:i<s.nx:=by rcases hk with h|h<;>omega
   exact .inr ⟨aw,(M.here i b aw B).1,h0,B⟩
 refine⟨_,_,G',ao,⟨hR.fr.alloc M.lim _ G' λ_ _=>rfl,⟨?_,k6m M _ he λid es hg=>by simp only[Hp.get]at hg;split at hg;(. cases hg);exact hg,?_,?_,?_,?_⟩,hR.df,hR.sz,λt=>(hR.sl t).ext he,hR.ex.ext he⟩,?_,λi hi _=>J i hi⟩
 .intro id l' F;simp only[Hp.get]at F;split at F
  .rename_i Y;subst Y;injection F with F;injection F with F;subst F;refine .inr ⟨w.heap.size,e,cs,by simp[G'],qdj w _,M.lim _ (qaf _),?_,λx hx=>r2 x (kw4 hx),λj v x hv hx=>?_⟩;.rw[krn,ac,al];exact qbh _ az
   .rw[kwb]at hx;split at hx;.rw[al]at hx;exact(r3 (j%sz) v x (am j v hv) hx).ext he
    .cases hx
  .rename_i ax;rcases M.obj id l' F with⟨z1,z2⟩|⟨b,e',cs',h1,h2,h3,h4,h5,h6⟩;.exact .inl ⟨z1,by rw[(J id ax).1];exact z2⟩
   have Y:=M.hid id _ F;have B:=(M.here id b Y (.inl h1)).1;exact .inr ⟨b,e',cs',by rw[(J id ax).1];exact h1,by rw[Below.heap_alloc w _ b B];exact h2,h3,h4,h5,λj v x hv hx=>(h6 j v x hv hx).ext he⟩
 .intro id b Y B;have hs:=hR.fr.size;rcases key id b Y B with⟨h1,h2⟩|⟨h1,h2,_,h3⟩;.subst h2;exact⟨by simp,.inl hs⟩
  .exact⟨by simp;omega,(M.here id b h1 h3).2⟩
 .intro i j b hi hj bh bi li lj;rcases key i b hi bh with⟨h1,h2⟩|⟨h1,h2,n1,h3⟩<;>rcases key j b hj bi with⟨h4,h5⟩|⟨h4,h5,n2,h6⟩;.omega
  .omega
  .omega
  .exact M.inj i j b h1 h4 h3 h6 (kng n1 li) (kng n2 lj)
 .intro id ob hg;show id<nx';simp only[Hp.get]at hg;split at hg;.rename_i h;subst h;exact ad
  .have:=M.hid id ob hg;omega
 .intro b B;exact M.lim b (by simp at B;omega)
 .refine .row k 0 n sz w.heap.size 0 c (c*sz) ad (by simp[G']) (λ_=>rfl) az ba ?_ qqo;rw[csz_of (qdj w _)];simp[ac]
theorem R.freezeN(X:R T G0 w0 N s a G w){id n sz:Nat}{l:List D}(hg:s.h.get id=some (.cells ((l.flatMap D.cells).map .d)))(z1:(l.flatMap D.cells).map V.d=[])(z2:G.loc id=none)(hn:l.length=n)(hsz:∀d∈l,d.cells.length=sz/\∀c∈d.cells,c.one=true):∃G',R T G0 w0 N ⟨s.sl,(s.nx,.tip n)::(id,.dead)::s.h,s.nx+1⟩ a G' w/\Ext G w s.h s.nx G' w ((s.nx,.tip n)::(id,.dead)::s.h) (s.nx+1)/\∀v,RepV G' w ((s.nx,.tip n)::(id,.dead)::s.h) (s.nx+1) v (.row id 0 n sz)->RepV G' w ((s.nx,.tip n)::(id,.dead)::s.h) (s.nx+1) v (.own s.nx sz l):=by
 have Y:=X.wr;have ak:=Y.hid _ _ hg;have al:=ki hg;let G':Gh:=⟨λi=>if i=s.nx then none else G.loc i,λi=>if i=s.nx then none else G.tloc i,G.lim⟩;have J:∀i,i≠s.nx->G'.loc i=G.loc i/\G'.tloc i=G.tloc i:=λi hi=>by grind
 have ah:∀i,i≠s.nx->i≠id->Hp.get ((s.nx,.tip n)::(id,.dead)::s.h) i=s.h.get i:=λi k1 k2=>by simp[Hp.get,k1,k2]
 have ai:Hp.get ((s.nx,.tip n)::(id,.dead)::s.h) id=some .dead:=by simp[Hp.get,show id≠s.nx by omega]
 have ad:∀i o,i<s.nx->o≠Ob.dead->Hp.get ((s.nx,.tip n)::(id,.dead)::s.h) i=some o->i≠id/\s.h.get i=some o:=by grind
 have M:∀i,i<s.nx->live ((s.nx,.tip n)::(id,.dead)::s.h) i->i≠id/\live s.h i:=by grind[live_of,live_eq]
 have he:Ext G w s.h s.nx G' w ((s.nx,.tip n)::(id,.dead)::s.h) (s.nx+1):=by refine⟨Mono.refl _ _,by omega,by grind,λtok t' ht k1=>?_,λ_ _ h=>h⟩;grind
 refine⟨G',⟨⟨X.fr.os,X.fr.tape,X.fr.output,X.fr.size,X.fr.same,X.fr.mono⟩,⟨?_,Y.mob.ext he (λi es B=>?_) Y.hid λ_ _ _ _ _=>rfl,?_,?_,?_,Y.lim⟩,X.df,X.sz,λt=>(X.sl t).ext he,X.ex.ext he⟩,he,?_⟩
 .intro i l' B;have hi:i≠s.nx:=by rintro rfl;simp[Hp.get]at B
  have ae:i<s.nx:=by
   have F:=B;simp only[Hp.get,qe hi]at F;split at F;.cases F
   .exact Y.hid _ _ F
  obtain⟨k2,k3⟩:=ad i _ ae qqs B;rcases Y.obj i l' k3 with⟨z1,z2⟩|⟨Z,e',cs',q1,q2,q3,q4,q5,q6⟩;.grind
  exact .inr ⟨Z,e',cs',by grind,q2,q3,q4,q5,λj v x hv hx=>(q6 j v x hv hx).ext he⟩
 .have hi:i≠s.nx:=by rintro rfl;simp[Hp.get]at B
  grind
 .intro i Z hi hb;have hi:i<s.nx+1:=hi;by_cases U:i=s.nx;.grind
  .rw[(J i U).1,(J i U).2]at hb;exact Y.here i Z qqo hb
 .intro i j Z hi hj aa ab li lj;have hi:i<s.nx+1:=hi;have hj:j<s.nx+1:=hj;by_cases U:i=s.nx;.grind
  by_cases ac:j=s.nx;.grind
  rw[(J j ac).1,(J j ac).2]at ab;rw[(J i U).1,(J i U).2]at aa;exact Y.inj i j Z qqo qqo aa ab (M i qqo li).2 (M j qqo lj).2
 .intro i ob B;show i<s.nx+1;simp only[Hp.get]at B;split at B;.omega
  .split at B;.omega
   .have:=Y.hid _ _ B;omega
 .intro v hv;cases hv with
  |rown _ _ _ _ _=>have ag:l=[]:=(by grind);subst ag;exact .own _ _ _ _ (.nil _ sz) qqo λt ht=>⟨by simp,λ_=>.inl rfl⟩|row _ _ _ _ b2 o cap m aj am ho hc ao aq hs=>grind
theorem R.freeze(Y:R T G0 w0 N s a G w){id n sz:Nat}{l:List D}(hg:s.h.get id=some (.cells ((l.flatMap D.cells).map .d)))(hsz:∀d∈l,d.cells.length=sz/\∀c∈d.cells,c.one=true)(hn:l.length=n):∃G',R T G0 w0 N ⟨s.sl,(s.nx,.tip n)::(id,.dead)::s.h,s.nx+1⟩ a G' w/\Ext G w s.h s.nx G' w ((s.nx,.tip n)::(id,.dead)::s.h) (s.nx+1)/\∀v,RepV G' w ((s.nx,.tip n)::(id,.dead)::s.h) (s.nx+1) v (.row id 0 n sz)->RepV G' w ((s.nx,.tip n)::(id,.dead)::s.h) (s.nx+1) v (.own s.nx sz l):=by
 have X:=Y.wr;have ae:=X.hid _ _ hg;have ak:=ki hg;rcases X.obj id _ hg with⟨z1,z2⟩|⟨b,e,cs,h1,h2,h3,h4,h5,h6⟩;.exact Y.freezeN hg z1 z2 hn (hsz:=hsz)
 have al:=kp hsz;have bc:=X.here id b ae (.inl h1);let G':Gh:=⟨λi=>if i=s.nx then none else G.loc i,λi=>if i=s.nx then some b else G.tloc i,λB=>if B=b then n*sz else G.lim B⟩;have U:∀i,i≠s.nx->G'.loc i=G.loc i/\G'.tloc i=G.tloc i:=λi hi=>by grind
 have hm:∀B,B≠b->G'.lim B=G.lim B:=(by grind);have J:Mono G.lim w G'.lim w:=by intro B o v k1 k2;grind
 have az:∀i,i≠s.nx->i≠id->Hp.get ((s.nx,.tip n)::(id,.dead)::s.h) i=s.h.get i:=λi k1 k2=>by simp[Hp.get,k1,k2]
 have ba:Hp.get ((s.nx,.tip n)::(id,.dead)::s.h) id=some .dead:=by simp[Hp.get,show id≠s.nx by omega]
 have ag:∀i o,i<s.nx->o≠Ob.dead->Hp.get ((s.nx,.tip n)::(id,.dead)::s.h) i=some o->i≠id/\s.h.get i=some o:=by grind
 have am:∀i B,i<s.nx->i≠id->live s.h i->G.loc i=some B∨G.tloc i=some B->B≠b:=by rintro i B hi ao hl hb rfl;exact ao (X.inj i id B hi ae hb (.inl h1) hl ak)
 have he:Ext G w s.h s.nx G' w ((s.nx,.tip n)::(id,.dead)::s.h) (s.nx+1):=by refine⟨J,by omega,by grind,λtok t' ht k1=>?_,λ_ _ h=>h⟩;obtain⟨k2,k3⟩:=ag tok _ ht qqs k1;refine⟨t',k3,qaf _,λ_ B hb=>⟨by grind,rfl,?_⟩⟩;grind[k1i]
 refine⟨G',⟨⟨Y.fr.os,Y.fr.tape,Y.fr.output,Y.fr.size,λB hb hT=>?_,Y.fr.mono.trans J⟩,⟨?_,X.mob.ext he (λi es F=>?_) X.hid λ_ _ _ _ _=>rfl,?_,?_,?_,?_⟩,Y.df,Y.sz,λt=>(Y.sl t).ext he,Y.ex.ext he⟩,he,?_⟩;.obtain⟨q1,q2⟩:=Y.fr.same B hb hT;grind
 .intro i l' F;have hi:i≠s.nx:=by rintro rfl;simp[Hp.get]at F
  have aq:i<s.nx:=by
   have M:=F;simp only[Hp.get,qe hi]at M;split at M;.cases M
   .exact X.hid _ _ M
  obtain⟨k2,k3⟩:=ag i _ aq qqs F;rcases X.obj i l' k3 with⟨z1,z2⟩|⟨B,e',cs',q1,q2,q3,q4,q5,q6⟩;.grind
  exact .inr ⟨B,e',cs',by grind,q2,by grind[ki],q4,q5,λj v x hv hx=>(q6 j v x hv hx).ext he⟩
 .have hi:i≠s.nx:=by rintro rfl;simp[Hp.get]at F
  grind
 .intro i B hi hb;have hi:i<s.nx+1:=hi;by_cases Z:i=s.nx;.grind
  .rw[(U i Z).1,(U i Z).2]at hb;exact X.here i B qqo hb
 .intro i j B hi hj ah ai li lj;have hi:i<s.nx+1:=hi;have hj:j<s.nx+1:=hj;have aa:∀i,i<s.nx->live ((s.nx,.tip n)::(id,.dead)::s.h) i->i≠id/\live s.h i:=by grind[live_of,live_eq]
  by_cases Z:i=s.nx<;>by_cases aj:j=s.nx;.omega
  .grind
  .grind
  .rw[(U j aj).1,(U j aj).2]at ai;rw[(U i Z).1,(U i Z).2]at ah;exact X.inj i j B qqo qqo ah ai (aa i qqo li).2 (aa j qqo lj).2
 .intro i ob F;show i<s.nx+1;simp only[Hp.get]at F;split at F;.omega
  .split at F;.omega
   .have:=X.hid _ _ F;omega
 .intro B hb;have:B≠b:=by omega
  rw[hm B this];exact X.lim B hb
 .intro v hv;cases hv with
  |rown _ _ _ _ _=>have au:l=[]:=(by grind);subst au;exact .own _ _ _ _ (.nil _ sz) qqo λt ht=>⟨by simp,λ_=>.inl rfl⟩|row _ _ _ _ b2 o cap m bb bf ho hc ay ad hs=>
  obtain rfl:b2=b:=by grind
  rw[csz_of h2]at ad;injection ad with ad;have aw:(l.flatMap D.cells).length=n*sz:=by rw[al,hn]
  rw[qp,aw]at h4;have ab:RepD G'.lim w (.slice (some ⟨b2,o,none⟩) l.length cap) (.slice sz l):=by
   refine .slice b2 o cap sz l (cs.take (n*sz)) qqo ay hsz (by grind) (λj u hu=>?_) λj u c hu bd=>?_
   .rw[qbk]at hu;split at hu
    .rename_i hj;have ac:cap≠0:=by grind
     rw[ho ac,qav];refine⟨by grind,?_⟩;rw[cell_of_row w b2 j cs.toArray e _ h2];grind
    .cases hu
   .rw[qbk]at hu;split at hu;.have:=h6 j u (.d c) hu (by grind);cases this with|d _ _ hd=>exact hd.mono J
    .cases hu
  rw[hn]at ab;refine .own _ _ _ _ ab qqo λt' ax=>?_;simp only[Hp.get,qcj,qaq,Ob.tip.injEq]at ax;refine⟨by omega,λ_=>?_⟩;rw[hn];by_cases ac:cap=n;.exact .inl ac
  .refine .inr ⟨b2,o,cs.toArray,e,rfl,by simp[G'],h2,?_,?_⟩;.grind
   grind
theorem R.copy(hR:R T G0 w0 N s a G w){t t' ty:TypeId}{sz bt:Nat}(ak:rowOf P t=some (sz,bt)){id off len:Nat}{y:V}{vx vy:Value}(hx:RepV G w s.h s.nx vx (.row id off len sz))(hy:RepV G w s.h s.nx vy y){B:List D}(bb:y.els sz=some B){l:List V}(hg:s.h.get id=some (.cells l))(bg:off+len*sz<=l.length):∃w',(Builtin.copy_ #[t,t'] ty #[vx,vy]).run P w=.ok (goInt (min B.length len:Nat)) w'/\R T G0 w0 N ⟨s.sl,(id,.cells (setAt l off (((B.take (min B.length len)).flatMap D.cells).map .d)))::s.h,s.nx⟩ a G w':=by
 obtain⟨e,i,z,X,hi,bh,bi,bc,ac,bd⟩:=k2d ak;have al:=els_rep bb hy;obtain⟨A2,ae,Y,Z,am,ao,F,J,ag,bj,ah⟩:=al.flat;have bk:Y.length=B.length*sz:=by rw[J,kp F]
 generalize hn:min B.length len=n;have aq:n<=B.length:=by omega
 have au:n<=len:=by omega
 have bm:n*sz<=B.length*sz:=qbh _ aq;have bf:n*sz<=len*sz:=qbh _ au;have aa:=k5v F n;have hf:(Builtin.firstCells i.size n vy).run P w=.ok (Y.take (n*sz)).toArray w:=by rw[ac];subst Z;cases A2 with
  |none=>
   obtain⟨rfl,_⟩:=ag rfl;have:n=0:=by grind
   subst this;simp[Builtin.firstCells]|some ad=>grind[run_firstCells_some,List.length_take,add_mk]
 have aw:=k8l J ah;cases hx with
 |rown A=>
  have M:n=0:=by omega
  subst M;refine⟨w,?_,?_⟩
  .subst Z;have ab:=hn;have ax:(Builtin.firstCells i.size 0 (.slice A2 B.length ae)).run P w=.ok #[] w:=by grind
   simp only[Builtin.copy_,qw,qam X,qj,Builtin.lenOf,qag,sizeOf,typeInfo,run_program,hi,ab,ax,qfd,qds,qbc];cases A<;>simp[storeCells]
  .have e0:setAt l off (((B.take 0).flatMap D.cells).map .d)=l:=by simp[setAt]
   rw[e0];exact hR.same' hg|row _ _ _ _ b o cap m bn hl ho hc bo bq hs=>
 have ai:∀o',(n≠0->o'=off)->∃w',(storeCells ⟨b,o',none⟩ (Y.take (n*sz))).run P w=.ok () w'/\R T G0 w0 N ⟨s.sl,(id,.cells (setAt l off (((B.take n).flatMap D.cells).map .d)))::s.h,s.nx⟩ a G w':=by
  intro o' ay;by_cases M:n=0
  .subst M;refine⟨w,by simp[storeCells],?_⟩;have e0:setAt l off (((B.take 0).flatMap D.cells).map .d)=l:=by simp[setAt]
   rw[e0];exact hR.same' hg
  .rw[ay M];refine hR.storeAt (P:=P) (off:=off) hg hl ?_ (by grind) (λj u c X U=>?_) (λc U=>?_) ?_;.grind
   .rw[qr,aa,qac]at U;obtain⟨d,hd,rfl⟩:=U;rw[qbk]at X hd;split at X;.rename_i hj;rw[qg hj]at hd;exact .d _ _ (ah j u d X hd)
    .cases X
   .obtain⟨d,hd,rfl⟩:=qap.1 U;obtain⟨x,hx,az⟩:=qdv.1 hd;exact(F x (qba hx)).2 d az
   grind
 obtain⟨w',aj,ba⟩:=ai o λh=>ho qqo;refine⟨w',?_,ba⟩;subst Z;have ab:=hn;simp only[Builtin.copy_,qw,qam X,qj,Builtin.lenOf,qag,sizeOf,typeInfo,run_program,hi,ab,hf,qfd,qds,qbc];simp[aj]
theorem R.kill(U:R T G0 w0 N s a G w){id:Nat}(aa:id<s.nx):R T G0 w0 N ⟨s.sl,(id,.dead)::s.h,s.nx⟩ a G w:=by
 have J:=U.wr;have F:∀i o,o≠Ob.dead->Hp.get ((id,.dead)::s.h) i=some o->i≠id/\s.h.get i=some o:=by intro i o Y M;simp only[Hp.get]at M;grind
 have he:Ext G w s.h s.nx G w ((id,.dead)::s.h) s.nx:=⟨Mono.refl _ _,qaf _,λ_ _ _ h=>h,by grind,λ_ _ h=>h⟩;have B:∀i,live ((id,.dead)::s.h) i->live s.h i:=by intro i l;obtain⟨o,Y,Z⟩:=live_of l;unfold live;grind
 refine⟨U.fr,⟨?_,J.mob.ext he (by grind) J.hid λ_ _ _ _ _=>rfl,J.here,λi j b hi hj h1 X l1 l2=>J.inj i j b hi hj h1 X (B i l1) (B j l2),?_,J.lim⟩,U.df,U.sz,λt=>(U.sl t).ext he,U.ex.ext he⟩
 .intro i l M;rcases J.obj i l (F i _ qqs M).2 with h0|⟨b,e,cs,h1,X,h3,h4,h5,h6⟩;.grind
  exact .inr ⟨b,e,cs,h1,X,h3,h4,h5,λj v x hv hx=>(h6 j v x hv hx).ext he⟩
 .intro i o M;simp only[Hp.get]at M;split at M;.grind
  .exact J.hid i o M
theorem R.relabel(hR:R T G0 w0 N s a G w){id:Nat}{l:List V}(hg:s.h.get id=some (.cells l))(m:Nat){k:Nat}(hk:k<s.nx)(ai:G.loc k=none)(aj:G.tloc k=none)(ak:s.h.get k=none):∃G',R T G0 w0 N ⟨s.sl,(k,.cells (l.take m))::(id,.dead)::s.h,s.nx⟩ a G' w/\Ext G w s.h s.nx G' w ((k,.cells (l.take m))::(id,.dead)::s.h) s.nx/\G'.loc k=G.loc id/\G'.lim=G.lim/\∀i,i≠k->G'.loc i=G.loc i/\G'.tloc i=G.tloc i:=by
 have Z:=hR.wr;have aa:=Z.hid _ _ hg;have ac:id≠k:=by grind
 have ab:=ki hg;let G':Gh:=⟨λi=>if i=k then G.loc id else G.loc i,λi=>if i=k then none else G.tloc i,G.lim⟩;have B:∀i,i≠k->G'.loc i=G.loc i/\G'.tloc i=G.tloc i:=λi hi=>by grind
 have ae:∀i,i≠k->i≠id->Hp.get ((k,.cells (l.take m))::(id,.dead)::s.h) i=s.h.get i:=λi k1 k2=>by simp[Hp.get,k1,k2]
 have ag:Hp.get ((k,.cells (l.take m))::(id,.dead)::s.h) id=some .dead:=by simp[Hp.get,ac]
 have ad:∀i o,i≠k->o≠Ob.dead->Hp.get ((k,.cells (l.take m))::(id,.dead)::s.h) i=some o->i≠id/\s.h.get i=some o:=by grind
 have M:∀i,i≠k->live ((k,.cells (l.take m))::(id,.dead)::s.h) i->i≠id/\live s.h i:=by grind[live_of,live_eq]
 have he:Ext G w s.h s.nx G' w ((k,.cells (l.take m))::(id,.dead)::s.h) s.nx:=by
  refine⟨Mono.refl _ _,qaf _,λi b' hi hb=>?_,λtok t' ht k1=>?_,λ_ _ h=>h⟩;.grind
  .have ah:tok≠k:=by rintro rfl;simp[Hp.get]at k1
   grind
 refine⟨G',⟨⟨hR.fr.os,hR.fr.tape,hR.fr.output,hR.fr.size,hR.fr.same,hR.fr.mono⟩,⟨?_,Z.mob.ext he (λi es J=>?_) Z.hid λ_ _ _ _ _=>rfl,?_,?_,?_,Z.lim⟩,hR.df,hR.sz,λt=>(hR.sl t).ext he,hR.ex.ext he⟩,he,by simp[G'],rfl,B⟩
 .intro i l' J;by_cases hi:i=k
  .subst hi;simp only[Hp.get,qcj,qaq,Ob.cells.injEq]at J;subst J;rcases Z.obj id l hg with⟨z1,z2⟩|⟨b',e',cs',q1,q2,q3,q4,q5,q6⟩;.grind
   .refine .inr ⟨b',e',cs',by grind,q2,q3,by grind,by grind,λj v x hv hx=>?_⟩;rw[qbk]at hx;split at hx;.exact(q6 j v x hv hx).ext he
    .cases hx
  .obtain⟨k2,k3⟩:=ad i _ hi qqs J;rcases Z.obj i l' k3 with⟨z1,z2⟩|⟨b',e',cs',q1,q2,q3,q4,q5,q6⟩;.grind
   exact .inr ⟨b',e',cs',by grind,q2,q3,q4,q5,λj v x hv hx=>(q6 j v x hv hx).ext he⟩
 .have hi:i≠k:=by rintro rfl;simp[Hp.get]at J
  grind
 .intro i b' hi hb;by_cases F:i=k;.subst F;simp[G']at hb;exact Z.here id b' aa (.inl hb)
  .rw[(B i F).1,(B i F).2]at hb;exact Z.here i b' hi hb
 .intro i j b' hi hj X Y li lj;by_cases F:i=k<;>by_cases U:j=k;.omega
  .subst F;simp[G']at X;rw[(B j U).1,(B j U).2]at Y;obtain⟨q1,q2⟩:=M j U lj;exact(q1 (Z.inj j id b' hj aa Y (.inl X) q2 ab)).elim
  .subst U;simp[G']at Y;rw[(B i F).1,(B i F).2]at X;obtain⟨q1,q2⟩:=M i F li;exact(q1 (Z.inj i id b' hi aa X (.inl Y) q2 ab)).elim
  .rw[(B j U).1,(B j U).2]at Y;rw[(B i F).1,(B i F).2]at X;exact Z.inj i j b' hi hj X Y (M i F li).2 (M j U lj).2
 .intro i ob J;show i<s.nx;simp only[Hp.get]at J;split at J;.omega
  .split at J;.omega
   .exact Z.hid _ _ J
theorem R.storeExt(hR:R T G0 w0 N s a G w){id b:Nat}{l:List V}(hl:s.h.get id=some (.cells l))(hb:G.loc id=some b){B:Array Value}{e:TypeId}(M:w.heap[b]?=some (.cells B e (0,0))){us:List Value}{xs:List V}(au:us.length=xs.length)(am:∀(j:Nat)u c,us[j]?=some u->xs[j]?=some c->RepV G w s.h s.nx u c)(ao:∀c∈xs,c.one=true)(aq:l.length+us.length<=B.size)(aw:l.length<=B.size):R T G0 w0 N ⟨s.sl,(id,.cells (l++xs))::s.h,s.nx⟩ a G (w.setRow b (B.toList.take l.length++us++B.toList.drop (l.length+us.length)).toArray):=by
 have U:=hR.wr;have ab:=U.hid _ _ hl;have ae:G.lim b=0:=by
  rcases U.obj id l hl with⟨_,z2⟩|⟨b',e,cs,h1,h2,h3,h4,h5,h6⟩;.grind
  grind
 have he:=k8n (m':=G.lim b) (cs':=(B.toList.take l.length++us++B.toList.drop (l.length+us.length)).toArray) U ab (ki hl) (.inl hb) M (qaf _) (by grind) qqm (.cells (l++xs)) λt' h=>by cases h
 have ag:=Fr.setRow (m':=G.lim b) hR.fr U ab (.inl hb) (cs':=(B.toList.take l.length++us++B.toList.drop (l.length+us.length)).toArray) he.mono;have ai:=λ{J:Nat}aj{l':List V}(F:s.h.get J=some (.cells l'))=>k88 (m':=G.lim b) U ab (ki hl) (.inl hb) he aj F;have Z:=k8e (m':=G.lim b) U M he (λid es hg=>by simp only[Hp.get]at hg;grind);rw[k4k]at he ag Z;refine⟨ag,⟨?_,Z,?_,λi j b hi hj h1 h2 l1 l2=>U.inj i j b hi hj h1 h2 (k1n (ki hl) l1) (k1n (ki hl) l2),?_,?_⟩,hR.df,hR.sz,λt=>(hR.sl t).ext he,hR.ex.ext he⟩
 .intro J l' F;simp only[Hp.get]at F;split at F
  .rename_i ah;subst ah;injection F with F;injection F with F;subst F;rcases U.obj J l hl with⟨_,z2⟩|⟨b',e',cs,h1,h2,h3,h4,h5,h6⟩;.grind
   obtain rfl:b'=b:=by grind
   have ak:B=cs.toArray:=by grind
   subst ak;refine .inr ⟨b',e,_,hb,setRow_heap w b' cs.toArray _ e _ M,ae,?_,?_,?_⟩;.grind
   .grind
   .intro j v' x' X Y;rw[getElem?_splice _ _ _ _ (by grind)]at X;split at X;.rename_i hj;rw[qay hj]at Y;exact(h6 j v' x' (by grind) Y).ext he
    .rename_i hj;rw[qbw qqo]at Y;split at X;.exact(am _ _ _ X Y).ext he
     grind
  grind[k4k]
 .intro J ac al aa;have:=U.here J ac al aa;simp_all
 .intro J ob ad;simp only[Hp.get]at ad;split at ad;.grind
  .exact U.hid J ob ad
 .intro ac aa;exact U.lim ac (by simp_all)
theorem R.rowNil(J:R T G0 w0 N s a G w){k:Nat}(hk:k<s.nx)(aa:G.loc k=none)(ab:G.tloc k=none)(ac:s.h.get k=none):R T G0 w0 N ⟨s.sl,(k,.cells [])::s.h,s.nx⟩ a G w:=by
 have B:=J.wr;have Y:∀i,i≠k->Hp.get ((k,.cells [])::s.h) i=s.h.get i:=λi hi=>by simp[Hp.get,hi]
 have he:Ext G w s.h s.nx G w ((k,.cells [])::s.h) s.nx:=⟨Mono.refl _ _,qaf _,λ_ _ _ h=>h,λtok t' ht h1=>by
   have:tok≠k:=by rintro rfl;simp[Hp.get]at h1
   grind,λ_ _ h=>h⟩;have no:∀i b,G.loc i=some b∨G.tloc i=some b->i≠k:=by grind
 refine⟨J.fr,⟨?_,B.mob.ext he (λi es U=>?_) B.hid λ_ _ _ _ _=>rfl,B.here,λi j b hi Z h1 M l1 l2=>B.inj i j b hi Z h1 M (live_eq (Y i (no i b h1)) l1) (live_eq (Y j (no j b M)) l2),?_,B.lim⟩,J.df,J.sz,λt=>(J.sl t).ext he,J.ex.ext he⟩
 .intro id l' F;simp only[Hp.get]at F;split at F;.grind
  .rcases B.obj id l' F with h0|⟨b,e',cs',h1,M,h3,h4,h5,h6⟩;.grind
   exact .inr ⟨b,e',cs',h1,M,h3,h4,h5,λj v x hv hx=>(h6 j v x hv hx).ext he⟩
 .simp only[Hp.get]at U;grind
 .intro id ob X;simp only[Hp.get]at X;split at X;.grind
  .exact B.hid id ob X
def Src(P:Program)(G:Gh)(w:World)(sz:Nat)(F:Value)(B:List D):Prop:=∃A2 cap2 vs2,F=.slice A2 B.length cap2/\(Builtin.firstCells sz B.length F).run P w=.ok (List.toArray vs2) w/\vs2.length=B.length*sz/\vs2.length=(B.flatMap D.cells).length/\(∀u∈vs2,u.oneCell'=true)/\(∀d∈B,d.cells.length=sz/\∀c∈d.cells,c.one=true)/\(∀(j:Nat)u c,vs2[j]?=some u->(B.flatMap D.cells)[j]?=some c->RepD G.lim w u c)/\(B≠[]->∃b2 off2,A2=some ⟨b2,off2,none⟩/\∀j u,vs2[j]?=some u->w.cell? ((⟨b2,off2,none⟩:Addr).add j)=some u)
theorem src_els{y:V}{vy:Value}{sz:Nat}{l2:List D}(hy:RepV G w h nx vy y)(ae:y.els sz=some l2):Src P G w sz vy l2:=by have Y:=els_rep ae hy;obtain⟨A2,J,Z,M,aa,ab,F,B,U,ac,X⟩:=Y.flat;refine⟨A2,J,Z,M,k4r M F B U ac,by rw[B,kp F],B,k8l B X,F,X,λag=>?_⟩;cases A2 with
 |none=>grind|some ad=>grind[add_mk]
def srcV(h:Hp)(sz:Nat)(y:V)(F:List D):Prop:=y.els sz=some F∨∃(id k n:Nat)(B:List D),y=.row id (k*sz) n sz/\h.get id=some (.cells ((B.flatMap D.cells).map .d))/\(∀d∈B,d.cells.length=sz/\∀c∈d.cells,c.one=true)/\k+n<=B.length/\F=(B.drop k).take n
theorem RepV.d_inv'{v:Value}{x:D}(B:RepV G w h nx v (.d x)):RepD G.lim w v x:=by
 cases B<;>skip;grind
theorem src_of(hw:WR T w0.heap.size G w h nx){y:V}{vy:Value}{sz:Nat}{l2:List D}(hy:RepV G w h nx vy y)(hs:srcV h sz y l2):Src P G w sz vy l2:=by
 rcases hs with hs|⟨id,k,n,X,rfl,hg,hsz,aa,rfl⟩;.exact src_els hy hs
 .have F:((X.drop k).take n).length=n:=by grind
  have J:∀d∈(X.drop k).take n,d.cells.length=sz/\∀c∈d.cells,c.one=true:=(by grind);have ab:((X.drop k).take n).flatMap D.cells=((X.flatMap D.cells).drop (k*sz)).take (n*sz):=by grind[k5v,List.mem_of_mem_drop,kc4]
  cases hy with
  |rown A _ _ _ _=>
   refine⟨A,0,[],by rw[F],?_,by grind,by simp,λu B=>by simp at B,J,by grind,λac=>?_⟩;.rw[F];cases A with
    |none=>simp[Builtin.firstCells]|some ad=>grind[run_firstCells_some]
   grind|row _ _ _ _ b o cap m ai ak ho hc hm hn hs=>
   rcases hw.obj id _ hg with⟨z1,z2⟩|⟨Y,e',cs,g1,g2,g3,g4,g5,g6⟩;.grind
   obtain rfl:Y=b:=by grind
   have ae:=kp hsz;rw[qp,ae]at g4;have Z:(k+n)*sz<=X.length*sz:=qbh _ aa;rw[qca]at Z;have ag:((cs.drop (k*sz)).take (n*sz)).length=n*sz:=by grind
   have ah:n≠0->∀j u,((cs.drop (k*sz)).take (n*sz))[j]?=some u->w.cell? ((⟨Y,o,none⟩:Addr).add j)=some u:=by
    intro aj j u B;rw[qbk]at B;split at B;.rw[qbg]at B;rw[ho qqo,add_mk,cell_of_row w Y _ cs.toArray e' _ g2];grind
    .cases B
   have M:∀(j:Nat)u c,((cs.drop (k*sz)).take (n*sz))[j]?=some u->(((X.drop k).take n).flatMap D.cells)[j]?=some c->RepD G.lim w u c:=by
    intro j u c B U;rw[ab]at U;rw[qbk]at B U;split at B;.rename_i hj;rw[qg hj,qbg]at U;rw[qbg]at B;exact(g6 _ u (.d c) B (by grind)).d_inv'
    .cases B
   refine⟨some ⟨Y,o,none⟩,cap,(cs.drop (k*sz)).take (n*sz),by rw[F],?_,by grind,by grind,k8l (by grind) M,J,M,λac=>?_⟩;.rw[F];refine qer w sz n ⟨Y,o,none⟩ n cap _ (by rw[ag]) λj u B=>?_;grind
   grind
theorem kp4{G:Gh}{w:World}{h:Hp}{nx:Nat}{B:List Value}{J:List D}(X:∀(j:Nat)u c,B[j]?=some u->(J.flatMap D.cells)[j]?=some c->RepD G.lim w u c):∀(j:Nat)u c,B[j]?=some u->((J.flatMap D.cells).map V.d)[j]?=some c->RepV G w h nx u c:=by intro j u c M F;rw[qr,qac]at F;obtain⟨d,U,rfl⟩:=F;exact .d _ _ (X j u d M U)
theorem kjn{F:List D}{sz:Nat}(hsz:∀d∈F,d.cells.length=sz/\∀c∈d.cells,c.one=true):∀c∈(F.flatMap D.cells).map V.d,c.one=true:=by intro c J;obtain⟨d,M,rfl⟩:=qap.1 J;obtain⟨x,U,B⟩:=qdv.1 M;exact(hsz x U).2 d B
theorem R.grownRow(hR:R T G0 w0 N s a G w){t ty e:TypeId}{i:TypeInfo}{z:Value}{sz bt:Nat}(hu:P.underlying t=some (.slice e))(hi:P.info? e=some i)(hz:i.zero=some z)(bh:z.cells.size=sz)(X:i.size=sz)(ae:i.bytes=bt){A:Option Addr}{n cap:Nat}{vs:List Value}{l:List V}(Y:vs.length=n*sz)(ag:l.length=vs.length)(am:∀c∈l,c.one=true)(hr:∀(j:Nat)u c,vs[j]?=some u->l[j]?=some c->RepV G w s.h s.nx u c)(hA:A=none/\n=0/\cap=0∨∃ad,A=some ad/\∀j u,vs[j]?=some u->w.cell? (ad.add j)=some u){vy:Value}{B:List D}(hy:Src P G w sz vy B)(ao:B≠[])(bi:cap<n+B.length)(hb:(n+B.length)*bt<=140737488355328)(aq:n+B.length<=maxLen){k:Nat}(hk:k<s.nx)(bj:G.loc k=none)(bk:G.tloc k=none)(bm:s.h.get k=none):∃v' w' G',(Builtin.append_ #[t,t] ty #[.slice A n cap,vy]).run P w=.ok v' w'/\R T G0 w0 N ⟨s.sl,(k,.cells (l++(B.flatMap D.cells).map .d))::s.h,s.nx⟩ a G' w'/\RepV G' w' ((k,.cells (l++(B.flatMap D.cells).map .d))::s.h) s.nx v' (.row k 0 (n+B.length) sz)/\∀i,i≠k->G'.loc i=G.loc i/\G'.tloc i=G.tloc i:=by
 have bn:=hy;obtain⟨A2,aa,Z,au,bo,J,M,aw,ai,ax,ay⟩:=hy;obtain⟨b2,ab,rfl,F⟩:=ay ao;have az:=grownCap_ge w (n+B.length) cap e;have ba:=grownCap_le_maxLen w (n+B.length) cap e aq;have aj:(Builtin.append_ #[t,t] ty #[.slice A n cap,vy]).run P w=.ok (.slice (some ⟨w.heap.size,0,none⟩) (n+B.length) (grownCap w (n+B.length) cap e)) (w.drew.alloc (.cells (vs++Z++(Builtin.zeroCells z.cells (grownCap w (n+B.length) cap e-(n+B.length))).toList).toArray e)):=by
  have ac:(n+B.length:Int)<=9223372036854775807:=by simp only[maxLen]at aq;omega
  have ah:Builtin.nextslicecap (n+B.length) cap*i.bytes<=281474976710656:=growslice_fits qqo (by rw[ae];exact hb);subst au;rcases hA with⟨rfl,rfl,rfl⟩|⟨ad,rfl,ak⟩
  .have:=qax (by simpa using Y);subst this;have:=run_append_nil (P:=P) w t ty e i z hu hi hz ⟨b2,ab,none⟩ B.length aa Z (by rw[J,X]) F qqo (by simpa using ac) (by rw[ae];simp at hb;omega);simp only[qav,qcd];rw[this];congr 3;simp
  .have:=run_append_grow (P:=P) w t ty e i z hu hi hz ad n cap vs (by rw[Y,X]) ak ⟨b2,ab,none⟩ B.length aa Z (by rw[J,X]) F qqo ac ah;rw[this];congr 3;simp
 have bb:=hR.drew;have al:(l++(B.flatMap D.cells).map V.d).length=n*sz+B.length*sz:=by rw[qi,ag,Y,qp,<-M,J]
 obtain⟨G',bc,hp,bd⟩:=bb.allocAtP k hk bj bk bm e (vs++Z++(Builtin.zeroCells z.cells (grownCap w (n+B.length) cap e-(n+B.length))).toList) (l++(B.flatMap D.cells).map .d) (by rw[al];simp only[qi,Y,J];omega) λx U=>by
   rcases qae.1 U with U|U;.exact am x U
   .exact kjn ai x U
  λj v x hv U=>by
   by_cases hj:j<l.length;.rw[qay hj]at U;rw[qay (by rw[qi];omega),qay qqo]at hv;exact(hr j v x hv U).drew
   .rw[qbw qqo]at U;have bf:=(qq.1 U).1;rw[qp,<-M]at bf;rw[qay (by rw[qi];omega),qbw qqo,<-ag]at hv;exact(kp4 ax (j-l.length) v x hv U).drew
 refine⟨_,_,G',aj,bc,?_,bd⟩;cases hp with|ptr _ _ b bg hl=>refine .row k 0 (n+B.length) sz w.heap.size 0 (grownCap w (n+B.length) cap e) _ bg hl (λ_=>rfl) az ba (csz_of (qdj w.drew _)) ?_;simp only[qdp,qi,qdt,size_zeroCells,bh,Y,J,qav];rw[<-qca,<-qca];exact qbh _ qqo
theorem R.rowAppend(hR:R T G0 w0 N s a G w){t:TypeId}{sz bt:Nat}(bg:rowOf P t=some (sz,bt)){id n:Nat}{vx vy:Value}(hx:RepV G w s.h s.nx vx (.row id 0 n sz)){l:List V}(hg:s.h.get id=some (.cells l))(bx:n*sz<=l.length){F:List D}(hy:Src P G w sz vy F)(hb:(n+F.length)*bt<=140737488355328)(ty:TypeId)(bh:n+F.length<=maxLen){k:Nat}(hk:k<s.nx)(aa:G.loc k=none)(ab:G.tloc k=none)(aq:s.h.get k=none):∃v' w' G',(Builtin.append_ #[t,t] ty #[vx,vy]).run P w=.ok v' w'/\R T G0 w0 N ⟨s.sl,(k,.cells (l.take (n*sz)++(F.flatMap D.cells).map .d))::(id,.dead)::s.h,s.nx⟩ a G' w'/\RepV G' w' ((k,.cells (l.take (n*sz)++(F.flatMap D.cells).map .d))::(id,.dead)::s.h) s.nx v' (.row k 0 (n+F.length) sz)/\∀i,i≠k->G'.loc i=G.loc i/\G'.tloc i=G.tloc i:=by
 obtain⟨e,i,z,J,hi,hz,au,bv,M,ac⟩:=k2d bg;have hw:=hR.wr;have bi:=hw.hid _ _ hg;have bj:id≠k:=by grind
 have aw:=hy;obtain⟨A2,ae,U,aj,bz,ca,bk,ak,ax,bm,cb⟩:=hy;by_cases h0:F=[]
 .subst h0;obtain⟨G',ay,he,bn,az,X⟩:=hR.relabel hg (n*sz) hk aa ab aq;have bw:U=[]:=(by grind);have ba:(Builtin.firstCells i.size 0 vy).run P w=.ok #[] w:=by grind
  cases hx with
  |rown A _ _ _ _=>refine⟨_,w,G',k1e (P:=P) (w:=w) t ty e i J hi A 0 0 (qaf _) vy ⟨A2,ae,aj⟩ ba,by grind,.rown A k 0 sz hk,X⟩|row _ _ _ _ b o cap m bf bu ho hc hm hn hs=>refine⟨_,w,G',k1e (P:=P) (w:=w) t ty e i J hi _ n cap hc vy ⟨A2,ae,aj⟩ ba,by grind,.row k 0 n sz b o cap m hk (by grind) ho hc hm (he.csz b m hn) hs,X⟩
 .have h1:=qdh.2 h0;have bb:=hR.kill bi;have ag:Hp.get ((id,.dead)::s.h) k=none:=by simp[Hp.get,bj.symm,aq]
  have cc:∀{v:Value}{x:V},RepV G w s.h s.nx v x->RepV G w ((id,.dead)::s.h) s.nx v x:=by intro v x hv;refine hv.ext ⟨Mono.refl _ _,qaf _,λ_ _ _ h=>h,λtok t' _ h1=>?_,λ_ _ h=>h⟩;simp only[Hp.get]at h1;grind
  have bo:(l.take (n*sz)).length=n*sz:=by grind
  cases hx with
  |rown A _ _ _ _=>
   have bq:l.take (0*sz)=[]:=by simp
   rw[bq];refine bb.grownRow J hi hz au M ac (A:=A) (n:=0) (cap:=0) (vs:=[]) (l:=[]) qqs rfl (λc hc=>by cases hc) (by grind) ?_ aw h0 qqo hb bh hk aa ab ag;cases A with
   |none=>grind|some ad=>grind
  |row _ _ _ _ b o cap m bf bu ho hc hm hn hs=>
   rcases hw.obj id l hg with⟨_,z2⟩|⟨Y,e',cs,g1,g2,g3,g4,g5,g6⟩;.grind
   obtain rfl:Y=b:=by grind
   rw[csz_of g2]at hn;injection hn with hn;simp only[qdp]at hn;by_cases B:n+F.length<=cap;.
    have bs:=ho qqo;subst bs;have al:(n+F.length)*sz<=cap*sz:=qbh _ B;rw[qca]at al;have am:0+n*i.size+U.length<=cs.toArray.size:=by grind
    have ah:=k5y (P:=P) (w:=w) t ty e i J hi Y 0 n cap F.length cs.toArray e' g2 vy ⟨_,_,aj⟩ U (by grind) ak B am;rw[M,qav]at ah;obtain⟨G',ay,he,bn,az,X⟩:=hR.relabel hg (n*sz) hk aa ab aq;have ai:G'.loc k=some Y:=by grind
    have bc:=ay.storeExt (id:=k) (b:=Y) (l:=l.take (n*sz)) (by simp[Hp.get]) ai g2 (us:=U) (xs:=(F.flatMap D.cells).map .d) (by grind) (λj u c J hc=>(kp4 (h:=s.h) (nx:=s.nx) bm j u c J hc).ext he) (kjn ax) (by grind) (by grind);rw[bo]at bc;have bd:=bc.same (s':=⟨s.sl,(k,.cells (l.take (n*sz)++(F.flatMap D.cells).map .d))::(id,.dead)::s.h,s.nx⟩) (λ_=>rfl) λi=>by
     by_cases hi:i=k;.subst hi;simp[Hp.get]
     .simp[Hp.get,hi] rfl;refine⟨_,_,G',ah,bd,.row k 0 (n+F.length) sz Y 0 cap cs.length hk ai (λ_=>rfl) B hm ?_ qqo,X⟩;rw[csz_of (setRow_heap w Y cs.toArray _ e' _ g2)];grind
   .
    have Z:∀(j:Nat)(u:Value),(cs.take (n*sz))[j]?=some u->w.cell? ((⟨Y,o,none⟩:Addr).add j)=some u:=by
     intro j u J;rw[qbk]at J;split at J
     .rename_i hj;have ao:cap≠0:=by grind
      rw[ho ao,add_mk,qav,cell_of_row w Y j cs.toArray e' _ g2];grind
     .cases J
    exact bb.grownRow J hi hz au M ac (A:=some ⟨Y,o,none⟩) (n:=n) (cap:=cap) (vs:=cs.take (n*sz)) (l:=l.take (n*sz)) (by grind) (by grind) (by grind) (by grind) (.inr ⟨_,rfl,Z⟩) aw h0 qqo hb bh hk aa ab ag
theorem R.rowNew(hR:R T G0 w0 N s a G w){t:TypeId}{sz bt:Nat}(U:rowOf P t=some (sz,bt)){A:Option Addr}{vy:Value}{B:List D}(hy:Src P G w sz vy B)(hb:B.length*bt<=140737488355328)(ty:TypeId)(au:B.length<=maxLen){k:Nat}(hk:k<s.nx)(X:G.loc k=none)(Y:G.tloc k=none)(Z:s.h.get k=none):∃v' w' G',(Builtin.append_ #[t,t] ty #[.slice A 0 0,vy]).run P w=.ok v' w'/\R T G0 w0 N ⟨s.sl,(k,.cells ((B.flatMap D.cells).map .d))::s.h,s.nx⟩ a G' w'/\RepV G' w' ((k,.cells ((B.flatMap D.cells).map .d))::s.h) s.nx v' (.row k 0 B.length sz)/\∀i,i≠k->G'.loc i=G.loc i/\G'.tloc i=G.tloc i:=by
 obtain⟨e,i,z,hu,hi,hz,aa,ai,F,J⟩:=k2d U;by_cases h0:B=[]
 .subst h0;obtain⟨A2,M,ab,ac,al,am,ae,ag,aj,ao,aq⟩:=hy;have ah:(Builtin.firstCells i.size 0 vy).run P w=.ok #[] w:=by grind
  exact⟨_,w,G,k1e (P:=P) (w:=w) t ty e i hu hi A 0 0 (qaf _) vy ⟨A2,M,ac⟩ ah,hR.rowNil hk X Y Z,.rown A k 0 sz hk,λ_ _=>⟨rfl,rfl⟩⟩
 .have:=hR.grownRow hu hi hz aa F J (ty:=ty) (A:=A) (n:=0) (cap:=0) (vs:=[]) (l:=[]) qqs rfl (λc hc=>by cases hc) (by grind) (by cases A with
   |none=>grind|some ad=>grind) hy h0 (by grind) (by grind) (by grind) hk X Y Z;grind
theorem R.appData(hR:R T G0 w0 N s a G w){t:TypeId}{sz bt:Nat}(bd:rowOf P t=some (sz,bt)){A:Option Addr}{l:List D}(hd:RepD G.lim w (.slice A l.length l.length) (.slice sz l)){vy:Value}{B:List D}(hy:Src P G w sz vy B)(hb:(l.length+B.length)*bt<=140737488355328)(ty:TypeId)(bf:l.length+B.length<=maxLen){k:Nat}(hk:k<s.nx)(bv:s.h.get k=none):∃v' w' G',(Builtin.append_ #[t,t] ty #[.slice A l.length l.length,vy]).run P w=.ok v' w'/\R T G0 w0 N ⟨s.sl,s.h,s.nx⟩ a G' w'/\RepD G'.lim w' v' (.slice sz (l++B))/\∀i,i≠k->i<s.nx->G'.loc i=G.loc i/\G'.tloc i=G.tloc i:=by
 obtain⟨e,i,z,hu,hi,hz,ca,bw,U,ac⟩:=k2d bd;obtain⟨A',cap,vs,hA,bx,bz,ae,F,ao,bg,bh⟩:=hd.flat;injection hA with q1 q2 q3;subst q1;subst q3;obtain⟨A2,Y,J,aq,au,ai,aj,bi,aw,bj,bk⟩:=hy;have ax:vs.length=l.length*sz:=by rw[F,kp ae]
 by_cases h0:B=[]
 .subst h0;have ay:=qax (by simpa using ai);have bm:(Builtin.firstCells i.size 0 vy).run P w=.ok #[] w:=by rw[U];rw[ay]at au;simpa using au
  exact⟨_,w,G,k1e (P:=P) (w:=w) t ty e i hu hi A l.length l.length (qaf _) vy ⟨A2,Y,aq⟩ bm,hR,by simpa using hd,λ_ _ _=>⟨rfl,rfl⟩⟩
 .obtain⟨b2,ag,rfl,X⟩:=bk h0;have cb:=qdh.2 h0;have bn:=grownCap_ge w (l.length+B.length) l.length e;have bo:=grownCap_le_maxLen w (l.length+B.length) l.length e bf;have az:(Builtin.append_ #[t,t] ty #[.slice A l.length l.length,vy]).run P w=.ok (.slice (some ⟨w.heap.size,0,none⟩) (l.length+B.length) (grownCap w (l.length+B.length) l.length e)) (w.drew.alloc (.cells (vs++J++(Builtin.zeroCells z.cells (grownCap w (l.length+B.length) l.length e-(l.length+B.length))).toList).toArray e)):=by
   have ah:(l.length+B.length:Int)<=9223372036854775807:=by simp only[maxLen]at bf;omega
   have ak:Builtin.nextslicecap (l.length+B.length) l.length*i.bytes<=281474976710656:=growslice_fits qqo (by rw[ac];exact hb);subst aq;cases A with
   |none=>
    obtain⟨q4,q5⟩:=ao rfl;subst q4;have:=qax (by simpa using ax);subst this;have:=run_append_nil (P:=P) w t ty e i z hu hi hz ⟨b2,ag,none⟩ B.length Y J (by rw[ai,U]) X qqo (by simpa using ah) (by rw[ac];simp at hb;omega);simp only[qan,qav,qcd];rw[this];congr 3;simp|some ad=>
    have ba:∀j u,vs[j]?=some u->w.cell? (ad.add j)=some u:=by
     rcases bg ad rfl with⟨_,bq⟩|⟨b,off,rfl,h2⟩;.intro j u hu;have:=qax (by rw[F,bq];rfl);subst this;simp at hu
     .exactλj u hj=>by rw[add_mk];exact(h2 j u hj).2
    have:=run_append_grow (P:=P) w t ty e i z hu hi hz ad l.length l.length vs (by rw[ax,U]) ba ⟨b2,ag,none⟩ B.length Y J (by rw[ai,U]) X qqo ah ak;rw[this];congr 3;simp
  have ab:=λd hd=>(qae.1 hd).elim (ae d) (aw d);have Z:(vs++J).length=((l++B).flatMap D.cells).length:=by rw[qbp,qi,qi,F,aj]
  have al:∀(j:Nat)u c,(vs++J)[j]?=some u->((l++B).flatMap D.cells)[j]?=some c->RepD G.lim w u c:=by
   intro j u c hj M;rw[qbp,qfk,<-F]at M;rw[qfk]at hj;split at hj;.rename_i am;rw[qg am]at M;exact bh j u c hj M
   .rename_i am;rw[qe am]at M;exact bj _ u c hj M
  have bs:=hR.drew;obtain⟨G',bu,he,bb,_,_,hG⟩:=R.newRow bs e (vs++J++(Builtin.zeroCells z.cells (grownCap w (l.length+B.length) l.length e-(l.length+B.length))).toList) sz (l++B) (vs++J) ab Z (by rw[qfs];rfl) (λj u c hj M=>RepD.mono (m:=G.lim) (w:=w) (m':=G.lim) (w':=w.drew) (λ_ _ _ h1 h2=>⟨h1,h2⟩) (al j u c hj M)) k s.nx s.h (.inr ⟨hk,rfl⟩) (λ_ _=>rfl) λob bc=>by rw[bv]at bc;cases bc
  have aa:=bb (grownCap w (l.length+B.length) l.length e) (by simpa using bn) bo;rw[qi]at aa;exact⟨_,_,G',az,bu,aa,hG⟩
def emptyV(sz:Nat)(x:V):Prop:=x=.k (.slice none 0 0)∨x=.full sz []
def allV(sz:Nat)(x:V)(l:List D):Prop:=x=.k (.slice none 0 0)/\l=[]∨x=.full sz l
def appRowE(P:Program)(h:Hp)(k:Nat)(t:TypeId)(x y r:V)(B:Hp):Prop:=∃sz bt l2,rowOf P t=some (sz,bt)/\srcV h sz y l2/\((∃id n l,x=.row id 0 n sz/\h.get id=some (.cells l)/\n*sz<=l.length/\(n+l2.length)*bt<=140737488355328/\n+l2.length<=maxLen/\B=[(k,.cells (l.take (n*sz)++(l2.flatMap D.cells).map .d)),(id,.dead)]/\r=.row k 0 (n+l2.length) sz)∨emptyV sz x/\l2.length*bt<=140737488355328/\l2.length<=maxLen/\B=[(k,.cells ((l2.flatMap D.cells).map .d))]/\r=.row k 0 l2.length sz∨∃l,allV sz x l/\(l.length+l2.length)*bt<=140737488355328/\l.length+l2.length<=maxLen/\B=[]/\r=.d (.slice sz (l++l2)))
def appRowA(P:Program)(s:St)(t:TypeId)(x y:V)(d:On)(K:St->Prop):Prop:=∃r hu,appRowE P s.h s.nx t x y r hu/\K (St.put ⟨s.sl,hu++s.h,s.nx+1⟩ d r)
theorem R.appRowAt(hR:R T G0 w0 N s a G w){t ty:TypeId}{x y:V}{vx vy:Value}(Y:RepV G w s.h s.nx vx x)(hy:RepV G w s.h s.nx vy y){k:Nat}(hk:k<s.nx)(Z:G.loc k=none)(aa:G.tloc k=none)(J:s.h.get k=none){r:V}{hu:Hp}(h:appRowE P s.h k t x y r hu):∃M w' G',(Builtin.append_ #[t,t] ty #[vx,vy]).run P w=.ok M w'/\R T G0 w0 N ⟨s.sl,hu++s.h,s.nx⟩ a G' w'/\RepV G' w' (hu++s.h) s.nx M r/\∀i,i≠k->i<s.nx->G'.loc i=G.loc i/\G'.tloc i=G.tloc i:=by
 obtain⟨sz,bt,l2,B,hs,h⟩:=h;have F:=src_of (P:=P) hR.wr hy hs;rcases h with⟨id,n,l,rfl,hg,hf,U,X,rfl,rfl⟩|⟨he,U,X,rfl,rfl⟩|⟨l,hl,U,X,rfl,rfl⟩;.obtain⟨M,w',G',h1,h2,h3,h4⟩:=hR.rowAppend B Y hg hf F U ty X hk Z aa J;grind
 .have hA:∃A,vx=.slice A 0 0:=by
   rcases he with rfl|rfl;.exact⟨none,Y.k_inv⟩
   .cases Y with|full A _ _ _=>grind
  obtain⟨A,rfl⟩:=hA;obtain⟨M,w',G',h1,h2,h3,h4⟩:=hR.rowNew (A:=A) B F U ty X hk Z aa J;grind
 .have hA:∃A,vx=.slice A l.length l.length/\RepD G.lim w (.slice A l.length l.length) (.slice sz l):=by
   rcases hl with⟨rfl,rfl⟩|rfl;.exact⟨none,Y.k_inv,.nil none sz⟩
   .cases Y with|full A _ _ hd=>grind
  obtain⟨A,rfl,hd⟩:=hA;obtain⟨M,w',G',h1,h2,h3,h4⟩:=hR.appData B hd F U ty X hk J;exact⟨M,w',G',h1,h2,.d _ _ h3,h4⟩
theorem R.appRow(U:R T G0 w0 N s a G w){t ty:TypeId}{x y:Operand}{d:On}(hd:∀t,d=some t->t<N){K:St->Prop}(h:appRowA P s t (s.ev x) (s.ev y) d K):∃J w' G' s',(Builtin.append_ #[t,t] ty #[a.eval x,a.eval y]).run P w=.ok J w'/\K s'/\R T G0 w0 N s' (a.put d J) G' w':=by
 obtain⟨r,hu,h,X⟩:=h;obtain⟨G1,B,F⟩:=U.raise 1;have Y:s.h.get s.nx=none:=by cases M:s.h.get s.nx with
  |none=>rfl|some ob=>exact absurd (U.wr.hid _ _ M) qqo
 obtain⟨J,w',G',h1,Z,h3,_⟩:=B.appRowAt (ty:=ty) (B.ev x) (B.ev y) (k:=s.nx) (by grind) (F _ (qaf _)).1 (F _ (qaf _)).2 Y h;exact⟨J,w',G',_,h1,X,Z.put h3 d hd⟩
end
end Go.Bv
end
