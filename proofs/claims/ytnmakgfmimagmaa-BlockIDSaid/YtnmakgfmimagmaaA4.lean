/-
  Parts of the proofs that the laws of this seat hold of every input, merged by a program: a machine over pure data that is sound for the model, what each function of the translation does in it, and plain lemmas. No conditions but those in each theorem.
-/
import Derived.Test.YtnmakgfmimagmaaA3
set_option linter.all false
namespace Go.Bv
open Go.RowKit Go.ChangeShapes Go.WideShapes
def G0 (W : World) : Gh := ⟨fun _ => none, fun _ => none, limOf W⟩
def vOf (P : Program) (t : TypeId) (ds : List D) : V := if isAggT P t then .agg (ds.map V.d) else .d (ds.headD (.bool false))
section
variable {H : Type} {enc : TypeId × Value → H} {P : Program} {W : World}
theorem arg_rep {k : Nat} {r : Reach} {base : Nat} {t : TypeId} {v : Value} {d : DataW H} {ps : List MemPlace} {h : Hp} {nx : Nat} (hT : dataT P k t = true) (hval : Value.okWide P W r base t v)
    (hd : DataW.Trod enc P W 0 (fun _ => true) true t v d ps) : ∃ ds, Rel P k t ds d ∧ RepV (G0 W) W h nx v (vOf P t ds) := by
  obtain ⟨n, hn⟩ := hd
  by_cases ha : isAggT P t = true
  · have hval' : ∃ cs, v = .agg cs ∧ cs.size = P.cellsOf t ∧ Row.okWide P W r base t cs := by
      unfold isAggT at ha
      unfold Value.okWide at hval
      split at ha
      · rename_i h1; rw [h1] at hval; exact hval
      · rename_i h1; rw [h1] at hval; exact hval
      · cases ha
    obtain ⟨cs, rfl, _, ts, _, _, hc⟩ := hval'
    obtain ⟨ds, h1, h2⟩ := knm k t hT n cs.toList _ hn
    refine ⟨ds, h2, ?_⟩
    unfold vOf
    rw [if_pos ha]
    have := RepV.agg (G := G0 W) (w := W) (h := h) (nx := nx) cs.toList (ds.map V.d) (by simpa using h1.1.symm) ?_ ?_
    · simpa using this
    · intro x hx
      obtain ⟨c, hcm, rfl⟩ := List.mem_map.1 hx
      obtain ⟨j, hj⟩ := List.getElem?_of_mem hcm
      have hjl : j < cs.toList.length := by have := h1.1; have := (List.getElem?_eq_some_iff.1 hj).1; simp [Value.cells] at *; omega
      exact (h1.2 j _ c (List.getElem?_eq_getElem hjl) hj).done
    · intro j u x hu hx
      rw [List.getElem?_map, Option.map_eq_some_iff] at hx
      obtain ⟨c, hcj, rfl⟩ := hx
      exact .d _ _ (h1.2 j u c hu hcj)
  · have hval' : Cell.okWide P W r base t v := by
      unfold Value.okWide at hval
      split at hval
      · rename_i h1; exact absurd (by simp [isAggT, h1]) ha
      · rename_i h1; exact absurd (by simp [isAggT, h1]) ha
      · exact hval
    have hcs : v.cells.toList = [v] := by
      cases v with
      | agg cs =>
        exfalso
        unfold Cell.okWide Cell.ok at hval'
        split at hval'
        all_goals first | (split at hval'; all_goals simp_all) | simp_all
      | _ => rfl
    rw [hcs] at hn
    obtain ⟨ds, h1, h2⟩ := knm k t hT n _ _ hn
    refine ⟨ds, h2, ?_⟩
    unfold vOf
    rw [if_neg ha]
    have hl := h1.1
    match ds, hl with
    | [c], _ => exact .d _ _ (h1.2 0 v c rfl rfl)
theorem law_of {f : FuncId} {xs : List V} {r : V} (hS : SoundH P f xs [] r []) {vs : List Value} (hlen : vs.length = xs.length)
    (hrep : ∀ (j : Nat) (v : Value) (x : V), vs[j]? = some v → xs[j]? = some x → RepV (G0 W) W [] 0 v x) :
    Calls P f vs.toArray W fun e W' => (∃ v G', e = .returned v ∧ RepV G' W' [] 0 v r) ∧ Below W.heap.size W W' := by
  refine (hS (G0 W) W vs hlen hrep ?_).mono fun e W' hh => ?_
  · refine ⟨?_, ?_, ?_, ?_, ?_, ?_⟩
    · intro id l h; simp [hpOf, Hp.get] at h
    · intro id es h; simp [hpOf, Hp.get] at h
    · intro id b h; simp at h
    · intro i j b h; simp at h
    · intro id ob h; simp [hpOf, Hp.get] at h
    · intro b hb
      show limOf W b = 0
      unfold limOf
      rw [Array.getElem?_eq_none hb]
  · obtain ⟨v, G', rfl, h1, h2, h3, h4⟩ := hh
    refine ⟨⟨v, G', rfl, h1⟩, h3.os, h3.tape, h3.output, h3.size, fun b hb => (h3.same b hb ?_).1⟩
    rintro ⟨i, hi, _⟩
    simp at hi
def typesOk (P : Program) (ts : List TypeId) : Bool := ts.all fun t => P.readableRec t && decide (t < P.types.size)
theorem kun (hl : laidOutB P = true) {W' : World} (hb : Below W.heap.size W W') : ∀ {ts : List TypeId} {vs : List Value} {ds : List (DataW H)} {ps : List MemPlace}, typesOk P ts = true →
    DataW.TrodAll enc P W 0 (fun _ => true) true ts vs ds ps → (∀ x ∈ ps, x.block < W.heap.size) → DataW.TrodAll enc P W' 0 (fun b => decide (b < W.heap.size)) true ts vs ds ps
  | [], [], [], _, _, h, _ => h
  | [], [], _ :: _, _, _, h, _ => h.elim
  | [], _ :: _, _, _, _, h, _ => h.elim
  | _ :: _, [], _, _, _, h, _ => h.elim
  | _ :: _, _ :: _, [], _, _, h, _ => h.elim
  | t :: ts, v :: vs, d :: ds, ps, ht, h, hp => by
    simp only [typesOk, List.all_cons, Bool.and_eq_true, decide_eq_true_eq] at ht
    obtain ⟨p, q, h1, h2, rfl⟩ := h
    exact ⟨p, q, Below.trod hl ht.1.1 ht.1.2 h1 hb (fun x hx => hp x (by simp [hx])), kun hl hb (by simpa [typesOk] using ht.2) h2 (fun x hx => hp x (by simp [hx])), rfl⟩
theorem rel_int {k : Nat} {t : TypeId} {q : IntKind} {ds : List D} {d : DataW H} (hu : P.underlying t = some (.int q)) (h : Rel P (k + 1) t ds d) : ∃ i, ds = [.int q i] ∧ d = .lit (.int q i) ∧ (Lit.int q i).wf = true := by unfold Rel at h; rw [hu] at h; exact h
theorem k1jn {k : Nat} {t : TypeId} {fs : Array Field} {ds : List D} {d : DataW H} (hu : P.underlying t = some (.struct fs)) (h : Rel P (k + 1) t ds d) : ∃ ps, d = .agg ps ∧ RelFs (Rel P k) (fsOf fs) ds ps := by unfold Rel at h; rw [hu] at h; exact h
theorem k1l9 {k : Nat} {t e : TypeId} {n : Nat} {ds : List D} {d : DataW H} (hu : P.underlying t = some (.array n e)) (h : Rel P (k + 1) t ds d) : ∃ ps, d = .agg ps ∧ RelFs (Rel P k) (arOf P n e) ds ps := by unfold Rel at h; rw [hu] at h; exact h
theorem k1l0 {k : Nat} {t e : TypeId} {ds : List D} {d : DataW H} {α : Type} [Inhabited α] (f : α → D) (p : α → Prop) (hu : P.underlying t = some (.slice e)) (h : Rel P (k + 1) t ds d)
    (tp : ∀ (x : List D) (y : DataW H), Rel P k e x y → ∃ a, mkD P e x = f a ∧ p a) :
    ∃ l : List α, ds = [.slice (P.cellsOf e) (l.map f)] ∧ l.length ≤ maxLen ∧ (∀ a ∈ l, p a) ∧ ((l = [] ∧ d = .nil) ∨ ∃ elems spare, d = .slice elems spare ∧ l.length = elems.length) := by
  unfold Rel at h
  rw [hu] at h
  obtain ⟨l, rfl, hmx, h⟩ := h
  rcases h with ⟨rfl, rfl⟩ | ⟨elems, spare, rfl, hlen, hh⟩
  · exact ⟨[], rfl, Nat.zero_le _, by simp, .inl ⟨rfl, rfl⟩⟩
  · have : ∀ i, i < l.length → ∃ a, mkD P e (l.getD i []) = f a ∧ p a := by
      intro i hi
      refine tp _ _ (hh i _ _ ?_ (List.getElem?_eq_getElem (by omega)))
      simp [List.getElem?_eq_getElem hi]
    obtain ⟨g, hg⟩ := Deep.choose_lt this
    refine ⟨(List.range l.length).map g, ?_, by simpa using hmx, ?_, .inr ⟨elems, spare, rfl, by simpa using hlen⟩⟩
    · have : l.map (mkD P e) = ((List.range l.length).map g).map f := by
        rw [Deep.map_by_index l [] (mkD P e), List.map_map]
        refine List.map_congr_left fun i hi => ?_
        exact (hg i (by simpa using hi)).1
      rw [this]
    · intro a ha
      obtain ⟨i, hi, rfl⟩ := List.mem_map.1 ha
      exact (hg i (by simpa using hi)).2
theorem k1fr {fn : Func} {s : ChangeSpec} {W' : World} {args : Array Value} {ds : List (DataW H)} {before : List MemPlace} {tb : TypeId} (hv : s.vars = []) (hW : DataW.Whole enc P fn.params.toList s.vars false W args.toList ds [] before)
    (hl : laidOutB P = true) (hty : typesOk P fn.params.toList = true) (hr : fn.resultTypes = #[tb]) (hub : P.underlying tb = some .bool)
    (h1 : (s.fn H (ds ++ [])).results = [.lit (.bool true)]) (h2 : (s.fn H (ds ++ [])).args = ds) (h3 : (s.fn H (ds ++ [])).vars = []) (hb : Below W.heap.size W W') :
    s.post enc P fn false true false false W args (.bool true) W' := by
  have hW' := hW
  obtain ⟨p, q, hA, hV, rfl, _, _⟩ := hW
  have hq : q = [] := by rw [hv] at hV; exact hV
  subst hq
  refine ⟨ds, [], p ++ [], [], p, [], hW', ?_, ?_, ?_, hb.frame _, fun h => by cases h⟩
  · rw [h1, hr]
    exact trodAll_cons_mk (shut_bool hub _) trodAll_mk0
  · rw [h2]
    exact kun hl hb hty hA (fun x hx => by simpa using hW'.lt x (by simpa using hx))
  · rw [hv, h3]
    rfl
end
structure RelH {H : Type} (P : Program) (k : Nat) (t : TypeId) (ds : List D) (d : DataW H) : Prop where
  h : Rel P k t ds d
section
variable {H : Type} {enc : TypeId × Value → H} {P : Program} {W : World} {k : Nat}
theorem relFs_h : ∀ {L : List (TypeId × Nat)} {ds : List D} {ps : List (DataW H)}, RelFs (Rel P k) L ds ps → RelFs (RelH P k) L ds ps
  | [], _, _, h => h
  | _ :: _, _, _, ⟨d1, d2, p, qs, h1, h2, e1, e2⟩ => ⟨d1, d2, p, qs, ⟨h1⟩, relFs_h h2, e1, e2⟩
theorem k12j {t : TypeId} {q : IntKind} {ds : List D} {d : DataW H} (hu : P.underlying t = some (.int q)) (h : RelH P (k + 1) t ds d) : ∃ i, ds = [.int q i] ∧ d = .lit (.int q i) ∧ (Lit.int q i).wf = true := rel_int hu h.h
theorem kqx {t : TypeId} {fs : Array Field} {ds : List D} {d : DataW H} {L : List (TypeId × Nat)} (hu : P.underlying t = some (.struct fs)) (hf : fsOf fs = L) (h : RelH P (k + 1) t ds d) : ∃ ps, d = .agg ps ∧ RelFs (RelH P k) L ds ps := by
  obtain ⟨ps, h1, h2⟩ := k1jn hu h.h
  rw [hf] at h2
  exact ⟨ps, h1, relFs_h h2⟩
theorem k1ki {t e : TypeId} {n : Nat} {ds : List D} {d : DataW H} {L : List (TypeId × Nat)} (hu : P.underlying t = some (.array n e)) (hf : arOf P n e = L) (h : RelH P (k + 1) t ds d) : ∃ ps, d = .agg ps ∧ RelFs (RelH P k) L ds ps := by
  obtain ⟨ps, h1, h2⟩ := k1l9 hu h.h
  rw [hf] at h2
  exact ⟨ps, h1, relFs_h h2⟩
theorem kmy {t e : TypeId} {ds : List D} {d : DataW H} {α : Type} [Inhabited α] (f : α → D) (p : α → Prop) (sz : Nat) (hu : P.underlying t = some (.slice e)) (hs : P.cellsOf e = sz) (h : RelH P (k + 1) t ds d)
    (tp : ∀ (x : List D) (y : DataW H), RelH P k e x y → ∃ a, mkD P e x = f a ∧ p a) : ∃ l : List α, ds = [.slice sz (l.map f)] ∧ l.length ≤ 9223372036854775807 ∧ ∀ a ∈ l, p a := by
  obtain ⟨l, h1, h2, h3, _⟩ := k1l0 f p hu h.h (fun x y hh => tp x y ⟨hh⟩)
  subst hs
  exact ⟨l, h1, h2, h3⟩
theorem mk_agg {e : TypeId} {ds cs : List D} (ha : isAggT P e = true) (h : ds = (D.agg cs).cells) : mkD P e ds = .agg cs := by subst h; unfold mkD; rw [ha]; rfl
theorem mk_one {e : TypeId} {ds : List D} {x : D} (ha : isAggT P e = false) (h : ds = [x]) : mkD P e ds = x := by subst h; unfold mkD; rw [ha]; rfl
theorem k124 {r : Reach} {base : Nat} {t : TypeId} {v : Value} {d : DataW H} {ps : List MemPlace} {h : Hp} {nx : Nat} (hT : dataT P k t = true) (hval : Value.okWide P W r base t v)
    (hd : DataW.Trod enc P W 0 (fun _ => true) true t v d ps) : ∃ ds, RelH P k t ds d ∧ RepV (G0 W) W h nx v (vOf P t ds) := by
  obtain ⟨ds, h1, h2⟩ := arg_rep hT hval hd
  exact ⟨ds, ⟨h1⟩, h2⟩
end
end Go.Bv
namespace Go.Proofs.Ytnmakgfmimagmaa
open Go Go.Bv Go.Cv Go.Md Go.RowKit Go.ChangeShapes Go.WideShapes
theorem wf_u8 {i : Int} (h : (Lit.int .u8 i).wf = true) : 0 ≤ i ∧ i < 256 := by
  simp only [Lit.wf, IntKind.min, IntKind.max, IntKind.signed, IntKind.bits, Bool.and_eq_true] at h
  simp at h
  omega
theorem wf_u64 {i : Int} (h : (Lit.int .u64 i).wf = true) : 0 ≤ i ∧ i < 18446744073709551616 := by
  simp only [Lit.wf, IntKind.min, IntKind.max, IntKind.signed, IntKind.bits, Bool.and_eq_true] at h
  simp at h
  omega
theorem wf_i64 {i : Int} (h : (Lit.int .i64 i).wf = true) : (-9223372036854775808) ≤ i ∧ i < 9223372036854775808 := by
  simp only [Lit.wf, IntKind.min, IntKind.max, IntKind.signed, IntKind.bits, Bool.and_eq_true] at h
  simp at h
  omega
structure k17e (x : TOut) : Prop where
  Commit : (0 ≤ x.Commit ∧ x.Commit < 18446744073709551616)
  Point_a0 : (0 ≤ x.Point_a0 ∧ x.Point_a0 < 18446744073709551616)
  Point_a1 : (0 ≤ x.Point_a1 ∧ x.Point_a1 < 18446744073709551616)
  Cipher : (x.Cipher.length ≤ 9223372036854775807 ∧ ∀ y ∈ x.Cipher, (0 ≤ y ∧ y < 18446744073709551616))
structure kz7 (x : TTx) : Prop where
  Anchor : (0 ≤ x.Anchor ∧ x.Anchor < 18446744073709551616)
  Marks : (x.Marks.length ≤ 9223372036854775807 ∧ ∀ y ∈ x.Marks, (0 ≤ y ∧ y < 18446744073709551616))
  Outs : (x.Outs.length ≤ 9223372036854775807 ∧ ∀ y ∈ x.Outs, k17e y)
  Deposit : (0 ≤ x.Deposit ∧ x.Deposit < 18446744073709551616)
  Withdraw : (0 ≤ x.Withdraw ∧ x.Withdraw < 18446744073709551616)
  Fee : (0 ≤ x.Fee ∧ x.Fee < 18446744073709551616)
  Account : (0 ≤ x.Account ∧ x.Account < 18446744073709551616)
  Nonce : (0 ≤ x.Nonce ∧ x.Nonce < 18446744073709551616)
  Expiry : ((-9223372036854775808) ≤ x.Expiry ∧ x.Expiry < 9223372036854775808)
  Proof : (x.Proof.length ≤ 9223372036854775807 ∧ ∀ y ∈ x.Proof, (0 ≤ y ∧ y < 256))
structure k8v (x : TBlock) : Prop where
  Parent : (0 ≤ x.Parent ∧ x.Parent < 18446744073709551616)
  Height : ((-9223372036854775808) ≤ x.Height ∧ x.Height < 9223372036854775808)
  Miner : (0 ≤ x.Miner ∧ x.Miner < 18446744073709551616)
  Work : (0 ≤ x.Work ∧ x.Work < 18446744073709551616)
  Nonce : (0 ≤ x.Nonce ∧ x.Nonce < 18446744073709551616)
  Txs : (x.Txs.length ≤ 9223372036854775807 ∧ ∀ y ∈ x.Txs, kz7 y)
theorem op22 {H : Type} {k : Nat} {ds : List D} {d : DataW H} (h : RelH Try.prog (k + 1) 22 ds d) : ∃ x : Int, ds = [D.int .u64 x] ∧ (0 ≤ x ∧ x < 18446744073709551616) := by
  obtain ⟨i, rfl, _, w⟩ := k12j (q := .u64) (show Try.prog.underlying 22 = some (.int .u64) by kernel_rfl) h
  exact ⟨i, rfl, wf_u64 w⟩
theorem op3 {H : Type} {k : Nat} {ds : List D} {d : DataW H} (h : RelH Try.prog (k + 1) 3 ds d) : ∃ x : Int, ds = [D.int .i64 x] ∧ ((-9223372036854775808) ≤ x ∧ x < 9223372036854775808) := by
  obtain ⟨i, rfl, _, w⟩ := k12j (q := .i64) (show Try.prog.underlying 3 = some (.int .i64) by kernel_rfl) h
  exact ⟨i, rfl, wf_i64 w⟩
theorem op30 {H : Type} {k : Nat} {ds : List D} {d : DataW H} (h : RelH Try.prog (k + 2) 30 ds d) : ∃ x : List Int, ds = [D.slice 1 (x.map (D.int .u64))] ∧ (x.length ≤ 9223372036854775807 ∧ ∀ y ∈ x, (0 ≤ y ∧ y < 18446744073709551616)) := by
  obtain ⟨l, rfl, hm, hl⟩ := kmy (D.int .u64) (fun y => (0 ≤ y ∧ y < 18446744073709551616)) 1 (show Try.prog.underlying 30 = some (.slice 22) by kernel_rfl) (by kernel_rfl) h (fun x y hh => by
    obtain ⟨a, e, ha⟩ := op22 (k := k + 0) hh
    exact ⟨a, mk_one (by kernel_rfl) e, ha⟩)
  exact ⟨l, rfl, ⟨hm, hl⟩⟩
structure k1ni (x : TA2) : Prop where
  a0 : (0 ≤ x.a0 ∧ x.a0 < 18446744073709551616)
  a1 : (0 ≤ x.a1 ∧ x.a1 < 18446744073709551616)
theorem op58 {H : Type} {k : Nat} {ds : List D} {d : DataW H} (h : RelH Try.prog (k + 2) 58 ds d) : ∃ x : TA2, ds = (encTA2 x).cells ∧ k1ni x := by
  obtain ⟨ps, rfl, h1⟩ := k1ki (n := 2) (e := 22) (L := [(22, 0), (22, 1)]) (show Try.prog.underlying 58 = some (.array 2 22) by kernel_rfl) (by kernel_rfl) h
  obtain ⟨_, _, _, _, g0, ⟨_, _, _, _, g1, ⟨rfl, rfl⟩, rfl, rfl⟩, rfl, rfl⟩ := h1
  obtain ⟨a0, rfl, r0⟩ := op22 (k := k + 0) g0
  obtain ⟨a1, rfl, r1⟩ := op22 (k := k + 0) g1
  exact ⟨⟨a0, a1⟩, rfl, ⟨r0, r1⟩⟩
theorem op60 {H : Type} {k : Nat} {ds : List D} {d : DataW H} (h : RelH Try.prog (k + 3) 60 ds d) : ∃ x : TOut, ds = (encTOut x).cells ∧ k17e x := by
  obtain ⟨ps, rfl, h1⟩ := kqx (L := [(22, 0), (58, 1), (30, 3)]) (Try.underlying60) (by kernel_rfl) h
  obtain ⟨_, _, _, _, g0, ⟨_, _, _, _, g1, ⟨_, _, _, _, g2, ⟨rfl, rfl⟩, rfl, rfl⟩, rfl, rfl⟩, rfl, rfl⟩ := h1
  obtain ⟨a0, rfl, r0⟩ := op22 (k := k + 1) g0
  obtain ⟨a1, rfl, r1⟩ := op58 (k := k + 0) g1
  obtain ⟨a2, rfl, r2⟩ := op30 (k := k + 0) g2
  exact ⟨⟨a0, a1.a0, a1.a1, a2⟩, rfl, ⟨r0, r1.a0, r1.a1, r2⟩⟩
theorem op31 {H : Type} {k : Nat} {ds : List D} {d : DataW H} (h : RelH Try.prog (k + 4) 31 ds d) : ∃ x : List TOut, ds = [D.slice 4 (x.map encTOut)] ∧ (x.length ≤ 9223372036854775807 ∧ ∀ y ∈ x, k17e y) := by
  obtain ⟨l, rfl, hm, hl⟩ := kmy encTOut (fun y => k17e y) 4 (show Try.prog.underlying 31 = some (.slice 60) by kernel_rfl) (by kernel_rfl) h (fun x y hh => by
    obtain ⟨a, e, ha⟩ := op60 (k := k + 0) hh
    exact ⟨a, mk_agg (by kernel_rfl) e, ha⟩)
  exact ⟨l, rfl, ⟨hm, hl⟩⟩
theorem op5 {H : Type} {k : Nat} {ds : List D} {d : DataW H} (h : RelH Try.prog (k + 1) 5 ds d) : ∃ x : Int, ds = [D.int .u8 x] ∧ (0 ≤ x ∧ x < 256) := by
  obtain ⟨i, rfl, _, w⟩ := k12j (q := .u8) (show Try.prog.underlying 5 = some (.int .u8) by kernel_rfl) h
  exact ⟨i, rfl, wf_u8 w⟩
theorem op32 {H : Type} {k : Nat} {ds : List D} {d : DataW H} (h : RelH Try.prog (k + 2) 32 ds d) : ∃ x : List Int, ds = [D.slice 1 (x.map (D.int .u8))] ∧ (x.length ≤ 9223372036854775807 ∧ ∀ y ∈ x, (0 ≤ y ∧ y < 256)) := by
  obtain ⟨l, rfl, hm, hl⟩ := kmy (D.int .u8) (fun y => (0 ≤ y ∧ y < 256)) 1 (show Try.prog.underlying 32 = some (.slice 5) by kernel_rfl) (by kernel_rfl) h (fun x y hh => by
    obtain ⟨a, e, ha⟩ := op5 (k := k + 0) hh
    exact ⟨a, mk_one (by kernel_rfl) e, ha⟩)
  exact ⟨l, rfl, ⟨hm, hl⟩⟩
theorem op34 {H : Type} {k : Nat} {ds : List D} {d : DataW H} (h : RelH Try.prog (k + 5) 34 ds d) : ∃ x : TTx, ds = (encTTx x).cells ∧ kz7 x := by
  obtain ⟨ps, rfl, h1⟩ := kqx (L := [(22, 0), (30, 1), (31, 2), (22, 3), (22, 4), (22, 5), (22, 6), (22, 7), (3, 8), (32, 9)]) (Try.underlying34) (by kernel_rfl) h
  obtain ⟨_, _, _, _, g0, ⟨_, _, _, _, g1, ⟨_, _, _, _, g2, ⟨_, _, _, _, g3, ⟨_, _, _, _, g4, ⟨_, _, _, _, g5, ⟨_, _, _, _, g6, ⟨_, _, _, _, g7, ⟨_, _, _, _, g8, ⟨_, _, _, _, g9, ⟨rfl, rfl⟩, rfl, rfl⟩, rfl, rfl⟩, rfl, rfl⟩, rfl, rfl⟩, rfl, rfl⟩, rfl, rfl⟩, rfl, rfl⟩, rfl, rfl⟩, rfl, rfl⟩, rfl, rfl⟩ := h1
  obtain ⟨a0, rfl, r0⟩ := op22 (k := k + 3) g0
  obtain ⟨a1, rfl, r1⟩ := op30 (k := k + 2) g1
  obtain ⟨a2, rfl, r2⟩ := op31 (k := k + 0) g2
  obtain ⟨a3, rfl, r3⟩ := op22 (k := k + 3) g3
  obtain ⟨a4, rfl, r4⟩ := op22 (k := k + 3) g4
  obtain ⟨a5, rfl, r5⟩ := op22 (k := k + 3) g5
  obtain ⟨a6, rfl, r6⟩ := op22 (k := k + 3) g6
  obtain ⟨a7, rfl, r7⟩ := op22 (k := k + 3) g7
  obtain ⟨a8, rfl, r8⟩ := op3 (k := k + 3) g8
  obtain ⟨a9, rfl, r9⟩ := op32 (k := k + 2) g9
  exact ⟨⟨a0, a1, a2, a3, a4, a5, a6, a7, a8, a9⟩, rfl, ⟨r0, r1, r2, r3, r4, r5, r6, r7, r8, r9⟩⟩
theorem op23 {H : Type} {k : Nat} {ds : List D} {d : DataW H} (h : RelH Try.prog (k + 6) 23 ds d) : ∃ x : List TTx, ds = [D.slice 10 (x.map encTTx)] ∧ (x.length ≤ 9223372036854775807 ∧ ∀ y ∈ x, kz7 y) := by
  obtain ⟨l, rfl, hm, hl⟩ := kmy encTTx (fun y => kz7 y) 10 (show Try.prog.underlying 23 = some (.slice 34) by kernel_rfl) (by kernel_rfl) h (fun x y hh => by
    obtain ⟨a, e, ha⟩ := op34 (k := k + 0) hh
    exact ⟨a, mk_agg (by kernel_rfl) e, ha⟩)
  exact ⟨l, rfl, ⟨hm, hl⟩⟩
theorem op25 {H : Type} {k : Nat} {ds : List D} {d : DataW H} (h : RelH Try.prog (k + 7) 25 ds d) : ∃ x : TBlock, ds = (encTBlock x).cells ∧ k8v x := by
  obtain ⟨ps, rfl, h1⟩ := kqx (L := [(22, 0), (3, 1), (22, 2), (22, 3), (22, 4), (23, 5)]) (Try.underlying25) (by kernel_rfl) h
  obtain ⟨_, _, _, _, g0, ⟨_, _, _, _, g1, ⟨_, _, _, _, g2, ⟨_, _, _, _, g3, ⟨_, _, _, _, g4, ⟨_, _, _, _, g5, ⟨rfl, rfl⟩, rfl, rfl⟩, rfl, rfl⟩, rfl, rfl⟩, rfl, rfl⟩, rfl, rfl⟩, rfl, rfl⟩ := h1
  obtain ⟨a0, rfl, r0⟩ := op22 (k := k + 5) g0
  obtain ⟨a1, rfl, r1⟩ := op3 (k := k + 5) g1
  obtain ⟨a2, rfl, r2⟩ := op22 (k := k + 5) g2
  obtain ⟨a3, rfl, r3⟩ := op22 (k := k + 5) g3
  obtain ⟨a4, rfl, r4⟩ := op22 (k := k + 5) g4
  obtain ⟨a5, rfl, r5⟩ := op23 (k := k + 0) g5
  exact ⟨⟨a0, a1, a2, a3, a4, a5⟩, rfl, ⟨r0, r1, r2, r3, r4, r5⟩⟩
theorem dt25 : dataT Try.prog 7 25 = true := by kernel_rfl
theorem own : ownKnob Try.prog.godebug = none := by kernel_rfl
theorem laid : laidOutB Try.prog = true := by kernel_rfl
end Go.Proofs.Ytnmakgfmimagmaa
namespace Go.Md
open Go Go.Bv
theorem u64w (n : Int) : IntKind.u64.wrap n = n % 18446744073709551616 := IntKind.wrap_u64 n
theorem u8w (n : Int) : IntKind.u8.wrap n = n % 256 := IntKind.wrap_u8 n
theorem kkl (k : IntKind) (a b : Int) : ishr k a b = a / ((2 ^ min b.toNat k.bits : Nat) : Int) := by
  unfold ishr
  rw [show (2 : Int) ^ min b.toNat k.bits = ((2 ^ min b.toNat k.bits : Nat) : Int) from (Int.natCast_pow 2 _).symm, Int.fdiv_eq_ediv_of_nonneg _ (Int.natCast_nonneg _)]
theorem k1gq (a b : Int) : ishl .u64 a b = (a * ((2 ^ min b.toNat 64 : Nat) : Int)) % 18446744073709551616 := by
  unfold ishl
  rw [u64w, show (2 : Int) ^ min b.toNat IntKind.u64.bits = ((2 ^ min b.toNat 64 : Nat) : Int) by rw [show IntKind.u64.bits = 64 from rfl]; exact (Int.natCast_pow 2 _).symm]
theorem kpk (n : Nat) (h : n < 18446744073709551616) : (BitVec.ofInt 64 (n : Int)).toNat = n := by
  rw [BitVec.toNat_ofInt]
  omega
theorem k1es (a b : Nat) (ha : a < 18446744073709551616) (hb : b < 18446744073709551616) : iand .u64 a b = ((a &&& b : Nat) : Int) := by
  unfold iand
  rw [u64w]
  show (((BitVec.ofInt 64 a &&& BitVec.ofInt 64 b).toNat : Nat) : Int) % _ = _
  rw [BitVec.toNat_and, kpk a ha, kpk b hb]
  have := Nat.and_le_left (n := a) (m := b)
  omega
theorem ior_nat (a b : Nat) (ha : a < 18446744073709551616) (hb : b < 18446744073709551616) : ior .u64 a b = ((a ||| b : Nat) : Int) := by
  unfold ior
  rw [u64w]
  show (((BitVec.ofInt 64 a ||| BitVec.ofInt 64 b).toNat : Nat) : Int) % _ = _
  rw [BitVec.toNat_or, kpk a ha, kpk b hb]
  have := Nat.or_lt_two_pow (x := a) (y := b) (n := 64) (by omega) (by omega)
  omega
theorem kg6 (a : Int) (h : 0 ≤ a ∧ a < 18446744073709551616) : iand .u64 a 4294967295 = a % 4294967296 := by
  obtain ⟨n, rfl⟩ := Int.eq_ofNat_of_zero_le h.1
  have := k1es n 4294967295 (by omega) (by omega)
  rw [show ((4294967295 : Nat) : Int) = 4294967295 from rfl] at this
  rw [this, show (4294967295 : Nat) = 2 ^ 32 - 1 from rfl, Nat.and_two_pow_sub_one_eq_mod]
  exact Int.natCast_emod _ _
theorem k1mf (a : Int) (h : 0 ≤ a ∧ a < 18446744073709551616) : iand .u64 a 1 = a % 2 := by
  obtain ⟨n, rfl⟩ := Int.eq_ofNat_of_zero_le h.1
  have := k1es n 1 (by omega) (by omega)
  rw [show ((1 : Nat) : Int) = 1 from rfl] at this
  rw [this, Nat.and_one_is_mod]
  exact Int.natCast_emod _ _
theorem ior_add (a c : Nat) (k : Nat) (ha : a < 2 ^ k) (h : a + 2 ^ k * c < 18446744073709551616) : ior .u64 a ((2 ^ k * c : Nat) : Int) = ((a + 2 ^ k * c : Nat) : Int) := by
  rw [ior_nat _ _ (by omega) (by omega), Nat.or_comm, ← Nat.two_pow_add_eq_or_of_lt ha, Nat.add_comm]
theorem ior_add' (a c : Nat) (k : Nat) (ha : a < 2 ^ k) (h : a + 2 ^ k * c < 18446744073709551616) : ior .u64 ((2 ^ k * c : Nat) : Int) a = ((a + 2 ^ k * c : Nat) : Int) := by
  rw [ior_nat _ _ (by omega) (by omega), ← Nat.two_pow_add_eq_or_of_lt ha, Nat.add_comm]
theorem ishr32 (a : Int) : ishr .u64 a 32 = a / 4294967296 := kkl _ _ _
theorem ishr16 (a : Int) : ishr .u64 a 16 = a / 65536 := kkl _ _ _
theorem ishr8 (a : Int) : ishr .u64 a 8 = a / 256 := kkl _ _ _
theorem ishr1 (a : Int) : ishr .u64 a 1 = a / 2 := kkl _ _ _
theorem k1m7 (a b : Int) (ha : 0 ≤ a ∧ a < 18446744073709551616) (hb : 0 ≤ b ∧ b < 18446744073709551616) :
    ((a / 4294967296 * (b / 4294967296) + ((a / 4294967296 * (b % 4294967296) + a % 4294967296 * (b % 4294967296) / 4294967296) / 4294967296)) + ((a / 4294967296 * (b % 4294967296) + a % 4294967296 * (b % 4294967296) / 4294967296) % 4294967296 + a % 4294967296 * (b / 4294967296)) / 4294967296) = a * b / 18446744073709551616 ∧
    a % 4294967296 * (b % 4294967296) < 18446744073709551616 ∧ a / 4294967296 * (b % 4294967296) + a % 4294967296 * (b % 4294967296) / 4294967296 < 18446744073709551616 ∧
    a % 4294967296 * (b / 4294967296) < 18446744073709551616 - 4294967296 ∧ a / 4294967296 * (b / 4294967296) < 18446744065119617026 ∧ 0 ≤ a % 4294967296 * (b % 4294967296) ∧ 0 ≤ a / 4294967296 * (b % 4294967296) ∧ 0 ≤ a % 4294967296 * (b / 4294967296) ∧ 0 ≤ a / 4294967296 * (b / 4294967296) := by
  have h1 : ∀ x y : Int, 0 ≤ x → x ≤ 4294967295 → 0 ≤ y → y ≤ 4294967295 → 0 ≤ x * y ∧ x * y ≤ 18446744065119617025 := by
    intro x y h0 h1 h2 h3
    exact ⟨Int.mul_nonneg h0 h2, by have := Int.mul_le_mul h1 h3 h2 (by omega); omega⟩
  have a1 := h1 (a % 4294967296) (b % 4294967296) (by omega) (by omega) (by omega) (by omega)
  have a2 := h1 (a / 4294967296) (b % 4294967296) (by omega) (by omega) (by omega) (by omega)
  have a3 := h1 (a % 4294967296) (b / 4294967296) (by omega) (by omega) (by omega) (by omega)
  have a4 := h1 (a / 4294967296) (b / 4294967296) (by omega) (by omega) (by omega) (by omega)
  have e : a * b = a / 4294967296 * (b / 4294967296) * 18446744073709551616 + (a / 4294967296 * (b % 4294967296) + a % 4294967296 * (b / 4294967296)) * 4294967296 + a % 4294967296 * (b % 4294967296) := by
    have ea : a = a / 4294967296 * 4294967296 + a % 4294967296 := by omega
    have eb : b = b / 4294967296 * 4294967296 + b % 4294967296 := by omega
    conv => lhs; rw [ea, eb]
    generalize a / 4294967296 = x
    generalize a % 4294967296 = y
    generalize b / 4294967296 = z
    generalize b % 4294967296 = t
    grind
  generalize a % 4294967296 * (b % 4294967296) = p0 at *
  generalize a / 4294967296 * (b % 4294967296) = p1 at *
  generalize a % 4294967296 * (b / 4294967296) = p2 at *
  generalize a / 4294967296 * (b / 4294967296) = p3 at *
  generalize a * b = ab at *
  refine ⟨?_, ?_, ?_, ?_, ?_, ?_, ?_, ?_, ?_⟩ <;> omega
structure Half (U x a b Q : Int) : Prop where
  hU : 0 ≤ U
  hUv : U < a * 4294967296 + b
  hx : 0 ≤ x ∧ x < 4294967296
  ha : 2147483648 ≤ a ∧ a < 4294967296
  hb : 0 ≤ b ∧ b < 4294967296
  hQ : Q = (U * 4294967296 + x) / (a * 4294967296 + b)
theorem Half.q {U x a b Q : Int} (h : Half U x a b Q) : 0 ≤ Q ∧ Q < 4294967296 ∧ Q * (a * 4294967296 + b) ≤ U * 4294967296 + x ∧ U * 4294967296 + x < (Q + 1) * (a * 4294967296 + b) := by
  obtain ⟨h1, h2, h3, h4, h5, h6⟩ := h
  have hv : 0 < a * 4294967296 + b := by omega
  have e := Int.emod_add_mul_ediv (U * 4294967296 + x) (a * 4294967296 + b)
  have l := Int.emod_nonneg (U * 4294967296 + x) (by omega : a * 4294967296 + b ≠ 0)
  have r := Int.emod_lt_of_pos (U * 4294967296 + x) hv
  rw [← h6] at e
  generalize hvv : a * 4294967296 + b = v at *
  have e2 : (Q + 1) * v = Q * v + v := by grind
  have e3 : v * Q = Q * v := by grind
  have q0 : 0 ≤ Q := by
    rw [h6]
    exact Int.ediv_nonneg (by omega) (by omega)
  have q1 : Q < 4294967296 := by
    rw [h6]
    exact Int.ediv_lt_of_lt_mul hv (by omega)
  refine ⟨q0, q1, by omega, by omega⟩
theorem Half.exit {U x a b Q q r : Int} (h : Half U x a b Q) (e : q * a + r = U) (hq : Q ≤ q) (h2 : q * b ≤ r * 4294967296 + x) : q = Q := by
  obtain ⟨q0, q1, q2, q3⟩ := h.q
  have h4 := h.ha
  have : q * (a * 4294967296 + b) ≤ U * 4294967296 + x := by
    have : q * (a * 4294967296 + b) = q * a * 4294967296 + q * b := by grind
    rw [this]
    generalize q * a = qa at *
    omega
  have h5 : q < Q + 1 := by
    have hv : 0 < a * 4294967296 + b := by have := h.hb; omega
    exact Int.lt_of_mul_lt_mul_right (by omega) (Int.le_of_lt hv)
  omega
theorem Half.down {U x a b Q q r : Int} (h : Half U x a b Q) (e : q * a + r = U) (h2 : 4294967296 ≤ q ∨ r * 4294967296 + x < q * b) : Q ≤ q - 1 := by
  obtain ⟨q0, q1, q2, q3⟩ := h.q
  rcases h2 with h2 | h2
  · omega
  · have : U * 4294967296 + x < q * (a * 4294967296 + b) := by
      have : q * (a * 4294967296 + b) = q * a * 4294967296 + q * b := by grind
      rw [this]
      generalize q * a = qa at *
      omega
    have h5 : Q < q := by
      have hv : 0 < a * 4294967296 + b := by have := h.hb; have := h.ha; omega
      exact Int.lt_of_mul_lt_mul_right (a := a * 4294967296 + b) (by omega) (Int.le_of_lt hv)
    omega
theorem Half.small {U x a b Q q r : Int} (h : Half U x a b Q) (e : q * a + r = U) (hr : 4294967296 ≤ r) : q < 4294967296 := by
  have h2 := h.hUv
  have h4 := h.ha
  have h5 := h.hb
  have : q * a < 4294967296 * a := by generalize q * a = qa at *; omega
  exact Int.lt_of_mul_lt_mul_right this (by omega)
theorem Half.done {U x a b Q q r : Int} (h : Half U x a b Q) (e : q * a + r = U) (hq : Q ≤ q) (hr : 4294967296 ≤ r) : q = Q := by
  refine h.exit e hq ?_
  have h1 := h.small e hr
  obtain ⟨q0, _⟩ := h.q
  have h5 := h.hb
  have h6 := h.hx
  have : q * b ≤ 4294967296 * 4294967296 := Int.mul_le_mul (by omega) (by omega) (by omega) (by omega)
  omega
theorem Half.rest {U x a b Q : Int} (h : Half U x a b Q) : (U * 4294967296 + x) - Q * (a * 4294967296 + b) = (U * 4294967296 + x) % (a * 4294967296 + b) ∧ 0 ≤ (U * 4294967296 + x) % (a * 4294967296 + b) ∧ (U * 4294967296 + x) % (a * 4294967296 + b) < a * 4294967296 + b := by
  have hv : 0 < a * 4294967296 + b := by have := h.hb; have := h.ha; omega
  have e := Int.emod_add_mul_ediv (U * 4294967296 + x) (a * 4294967296 + b)
  rw [← h.hQ] at e
  have := Int.mul_comm (a * 4294967296 + b) Q
  exact ⟨by omega, Int.emod_nonneg _ (by omega), Int.emod_lt_of_pos _ hv⟩
theorem k1kq {N y p U un1 un0 Q1 R1 Q0 R0 : Int} (hp : 0 < p) (hy : 0 < y) (hN : N * p = U * 18446744073709551616 + un1 * 4294967296 + un0) (h1 : U * 4294967296 + un1 - Q1 * (y * p) = R1) (h0 : R1 * 4294967296 + un0 - Q0 * (y * p) = R0)
    (hr : 0 ≤ R0 ∧ R0 < y * p) : Q1 * 4294967296 + Q0 = N / y ∧ R0 / p = N % y := by
  have e : N * p = (Q1 * 4294967296 + Q0) * (y * p) + R0 := by
    rw [hN]
    have : (Q1 * 4294967296 + Q0) * (y * p) = Q1 * (y * p) * 4294967296 + Q0 * (y * p) := by grind
    rw [this]
    generalize Q1 * (y * p) = a at *
    generalize Q0 * (y * p) = b at *
    omega
  have e2 : R0 = (N - (Q1 * 4294967296 + Q0) * y) * p := by grind
  have h3 : 0 ≤ N - (Q1 * 4294967296 + Q0) * y := by
    rcases Int.lt_or_le (N - (Q1 * 4294967296 + Q0) * y) 0 with h | h
    · exfalso
      have : (N - (Q1 * 4294967296 + Q0) * y) * p < 0 := Int.mul_neg_of_neg_of_pos h hp
      omega
    · exact h
  have h4 : N - (Q1 * 4294967296 + Q0) * y < y := by
    refine Int.lt_of_mul_lt_mul_right (a := p) ?_ (Int.le_of_lt hp)
    omega
  have e3 : N = (N - (Q1 * 4294967296 + Q0) * y) + y * (Q1 * 4294967296 + Q0) := by grind
  constructor
  · conv => rhs; rw [e3]
    rw [Int.add_mul_ediv_left _ _ (by omega), Int.ediv_eq_zero_of_lt h3 h4]
    omega
  · rw [e2, Int.mul_ediv_cancel _ (by omega)]
    conv => rhs; rw [e3]
    rw [Int.add_mul_emod_self_left, Int.emod_eq_of_lt h3 h4]
end Go.Md
namespace Go.Md
open Go Go.Bv
theorem ix_nat {α : Type} [Inhabited α] (l : List α) (i : Int) (h0 : 0 ≤ i) (h1 : i < (l.length : Int)) : ix l i = l[i.toNat]'(by omega) := by
  have : i.toNat < l.length := by omega
  simp [ix, this]
theorem ix_mem {α : Type} [Inhabited α] (l : List α) (i : Int) (h0 : 0 ≤ i) (h1 : i < (l.length : Int)) : ix l i ∈ l := by
  rw [ix_nat l i h0 h1]; exact List.getElem_mem _
theorem inc (i n : Int) (h0 : 0 ≤ i) (h : i < n) (hn : n ≤ 9223372036854775807) : IntKind.i64.wrap (i + 1) = i + 1 := k1ew _ (by omega) (by omega)
theorem wi (n : Int) (h0 : -9223372036854775808 ≤ n) (h : n ≤ 9223372036854775807) : IntKind.i64.wrap n = n := k1ew n h0 (by omega)
theorem wu (n : Int) (h0 : 0 ≤ n) (h : n ≤ 18446744073709551615) : IntKind.u64.wrap n = n := wrap_u64 n h0 (by omega)
theorem tdiv_nn (a b : Int) (h : 0 ≤ a) : Int.tdiv a b = a / b := Int.tdiv_eq_ediv_of_nonneg h
theorem tmod_nn (a b : Int) (h : 0 ≤ a) : Int.tmod a b = a % b := Int.tmod_eq_emod_of_nonneg h
theorem ka {α : Type} [Inhabited α] (l : List α) (i : Int) (h0 : 0 ≤ i) (h1 : i < (l.length : Int)) : l.take (i + 1).toNat = l.take i.toNat ++ [ix l i] := by
  rw [ix_nat l i h0 h1, show (i + 1).toNat = i.toNat + 1 by omega, List.take_succ_eq_append_getElem (by omega)]
theorem drop_ix {α : Type} [Inhabited α] (l : List α) (i : Int) (h0 : 0 ≤ i) (h1 : i < (l.length : Int)) : l.drop i.toNat = ix l i :: l.drop (i + 1).toNat := by
  rw [ix_nat l i h0 h1, show (i + 1).toNat = i.toNat + 1 by omega]
  exact List.drop_eq_getElem_cons (by omega)
theorem k1je {α : Type} (l m : List α) (h : l.length = m.length) : rowOver l m l.length = m := by
  simp [rowOver, h]
theorem kua (a m : Int) : ∀ k : Nat, (a % m) ^ k % m = a ^ k % m
  | 0 => by simp
  | k + 1 => by rw [Int.pow_succ, Int.pow_succ, Int.mul_emod, kua a m k, Int.emod_emod_of_dvd _ (Int.dvd_refl _), ← Int.mul_emod]
abbrev U64 (n : Int) : Prop := 0 ≤ n ∧ n < 18446744073709551616
abbrev By (l : List Int) : Prop := ∀ x ∈ l, 0 ≤ x ∧ x < 256
abbrev Us (l : List Int) : Prop := ∀ x ∈ l, 0 ≤ x ∧ x < 18446744073709551616
def dig : Nat → Int → List Int
  | 0, _ => []
  | k + 1, n => n % 256 :: dig k (n / 256)
def val : List Int → Int
  | [] => 0
  | x :: r => x + 256 * val r
@[simp] theorem k19 : ∀ (k : Nat) (n : Int), (dig k n).length = k
  | 0, _ => rfl
  | k + 1, n => by simp [dig, k19 k]
theorem kcw (k : Nat) : (256 : Int) ^ (k + 1) = 256 * 256 ^ k := by rw [Int.pow_succ, Int.mul_comm]
theorem kf0 (k : Nat) : (0 : Int) < 256 ^ k := Int.pow_pos (by omega)
theorem ku8 : ∀ (k : Nat) (n : Int), dig (k + 1) n = dig k n ++ [n / 256 ^ k % 256]
  | 0, n => by simp [dig]
  | k + 1, n => by
    show n % 256 :: dig (k + 1) (n / 256) = n % 256 :: dig k (n / 256) ++ _
    rw [ku8 k (n / 256), kcw, Int.ediv_ediv_of_nonneg (by omega)]
    rfl
theorem dig_by : ∀ (k : Nat) (n : Int), By (dig k n)
  | 0, _ => by intro x hx; cases hx
  | k + 1, n => by
    intro x hx
    rcases List.mem_cons.1 hx with rfl | hx
    · omega
    · exact dig_by k _ x hx
theorem val_dig : ∀ (k : Nat) (n : Int), 0 ≤ n → n < 256 ^ k → val (dig k n) = n
  | 0, n, h0, h => by simp at h; simp [dig, val]; omega
  | k + 1, n, h0, h => by
    rw [kcw] at h
    simp only [dig, val]
    rw [val_dig k (n / 256) (by omega) (Int.ediv_lt_of_lt_mul (by omega) (by rw [Int.mul_comm]; exact h))]
    omega
theorem kl2 (k : Nat) : (256 : Int) ^ k = ((2 ^ (8 * k) : Nat) : Int) := by rw [Nat.pow_mul, Int.natCast_pow]; rfl
theorem kpj {k m : Nat} (h : k ≤ m) : (256 : Int) ^ k ≤ 256 ^ m := by
  rw [kl2, kl2]
  exact Int.ofNat_le.2 (Nat.pow_le_pow_right (by omega) (by omega))
theorem kpz : ∀ (l : List Int), By l → 0 ≤ val l ∧ val l < 256 ^ l.length
  | [], _ => by simp [val]
  | x :: r, h => by
    have h1 := kpz r (fun y hy => h y (by simp [hy]))
    have h2 := h x (by simp)
    rw [List.length_cons, kcw]
    simp only [val]
    omega
theorem ku9 : ∀ (l : List Int) (x : Int), val (l ++ [x]) = val l + 256 ^ l.length * x
  | [], x => by simp [val]
  | y :: r, x => by
    simp only [List.cons_append, val, ku9 r x, List.length_cons, kcw]
    grind
theorem dig_inj {k : Nat} {a b : Int} (ha : 0 ≤ a ∧ a < 256 ^ k) (hb : 0 ≤ b ∧ b < 256 ^ k) (h : dig k a = dig k b) : a = b := by
  rw [← val_dig k a ha.1 ha.2, h, val_dig k b hb.1 hb.2]
theorem val8 (l : List Int) (h : By l) (hl : l.length ≤ 8) : U64 (val l) := by
  have h1 := kpz l h
  have : (256 : Int) ^ l.length ≤ 256 ^ 8 := kpj hl
  exact ⟨h1.1, by omega⟩
theorem ior_val (l : List Int) (x : Int) (hl : By l) (h8 : l.length < 8) (hx : 0 ≤ x ∧ x < 256) : ior .u64 (val l) (ishl .u64 x (8 * (l.length : Int))) = val (l ++ [x]) := by
  have h1 := kpz l hl
  rw [ku9, k1gq, show min (8 * (l.length : Int)).toNat 64 = 8 * l.length by omega, ← kl2]
  have h2 : x * 256 ^ l.length + 256 ^ l.length ≤ 256 * 256 ^ l.length := by
    have := kf0 l.length
    have : (x + 1) * 256 ^ l.length ≤ 256 * 256 ^ l.length := Int.mul_le_mul_of_nonneg_right (by omega) (by omega)
    grind
  have h3 : (256 : Int) * 256 ^ l.length ≤ 256 ^ 8 := by rw [← kcw]; exact kpj (by omega)
  have h4 : 0 ≤ x * 256 ^ l.length := Int.mul_nonneg hx.1 (Int.le_of_lt (kf0 _))
  rw [Int.emod_eq_of_lt h4 (by omega)]
  obtain ⟨a, ha⟩ := Int.eq_ofNat_of_zero_le h1.1
  obtain ⟨c, hc⟩ := Int.eq_ofNat_of_zero_le hx.1
  have key := ior_add a c (8 * l.length)
  rw [kl2] at h1 h2 h3 h4 ⊢
  generalize 2 ^ (8 * l.length) = P at *
  rw [ha] at h1
  rw [hc] at h2 h4
  have e : (c : Int) * (P : Int) = ((P * c : Nat) : Int) := by rw [Nat.mul_comm]; exact (Int.natCast_mul _ _).symm
  have e' : (P : Int) * (c : Int) = ((P * c : Nat) : Int) := (Int.natCast_mul _ _).symm
  rw [e] at h2 h4
  rw [ha, hc, e, e']
  generalize P * c = R at *
  rw [key (by omega) (by omega)]
  exact Int.natCast_add _ _
def len4 (n : Int) : Int := if n < 0 ∨ 4294967295 < n then 0 else n
theorem len4_in {n : Int} (h : 0 ≤ n ∧ n ≤ 4294967295) : len4 n = n := if_neg (by omega)
def encL (l : List Int) : List Int := dig 4 (len4 l.length) ++ l.flatMap (dig 8)
def encB (l : List Int) : List Int := dig 4 (len4 l.length) ++ l
theorem k63 (l : List Int) : (l.flatMap (dig 8)).length = 8 * l.length := by
  induction l with
  | nil => rfl
  | cons x r ih => rw [List.flatMap_cons, List.length_append, ih, k19, List.length_cons]; omega
@[simp] theorem k88 (l : List Int) : (encL l).length = 4 + 8 * l.length := by rw [encL, List.length_append, k63, k19]
@[simp] theorem kl4 (l : List Int) : (encB l).length = 4 + l.length := by simp [encB]
theorem By.append {a b : List Int} (ha : By a) (hb : By b) : By (a ++ b) := fun x hx => (List.mem_append.1 hx).elim (ha x) (hb x)
theorem k13z (l : List Int) : By (l.flatMap (dig 8)) := fun x hx => by
  obtain ⟨y, _, hy⟩ := List.mem_flatMap.1 hx
  exact dig_by 8 y x hy
theorem encL_by (l : List Int) : By (encL l) := (dig_by _ _).append (k13z l)
theorem encB_by {l : List Int} (h : By l) : By (encB l) := (dig_by _ _).append h
theorem By.take {l : List Int} (h : By l) (n : Nat) : By (l.take n) := fun x hx => h x (List.mem_of_mem_take hx)
theorem By.drop {l : List Int} (h : By l) (n : Nat) : By (l.drop n) := fun x hx => h x (List.mem_of_mem_drop hx)
theorem By.us {l : List Int} (h : By l) : Us l := fun x hx => by have := h x hx; omega
def packN : Nat → List Int → List Int
  | 0, _ => []
  | n + 1, l => match l with
    | [] => []
    | x :: r => val ((x :: r).take 7) :: packN n ((x :: r).drop 7)
def packS (l : List Int) : List Int := (l.length : Int) :: packN l.length l
theorem k16g : ∀ (n m : Nat) (l : List Int), l.length ≤ n → l.length ≤ m → packN n l = packN m l
  | 0, 0, _, _, _ => rfl
  | 0, m + 1, [], _, _ => rfl
  | n + 1, 0, [], _, _ => rfl
  | n + 1, m + 1, [], _, _ => rfl
  | 0, _, _ :: _, h, _ => by simp at h
  | n + 1, 0, _ :: _, _, h => by simp at h
  | n + 1, m + 1, x :: r, h, h' => by
    simp only [packN]
    rw [k16g n m _ (by simp at h ⊢; omega) (by simp at h' ⊢; omega)]
theorem kmv (n : Nat) (l : List Int) (h : l.length ≤ n) (h0 : l ≠ []) : packN n l = val (l.take 7) :: packN n (l.drop 7) := by
  cases l with
  | nil => exact absurd rfl h0
  | cons x r =>
    cases n with
    | zero => simp at h
    | succ n =>
      show val ((x :: r).take 7) :: packN n ((x :: r).drop 7) = _
      rw [k16g n (n + 1) _ (by simp at h ⊢; omega) (by simp at h ⊢; omega)]
theorem k142 : ∀ (n : Nat) (l : List Int), By l → Us (packN n l)
  | 0, _, _ => by intro x hx; cases hx
  | n + 1, [], _ => by intro x hx; cases hx
  | n + 1, x :: r, h => by
    intro y hy
    rcases List.mem_cons.1 hy with rfl | hy
    · exact val8 _ (h.take 7) (by simp; omega)
    · exact k142 n _ (h.drop 7) y hy
theorem khz : ∀ (n : Nat) (l : List Int), (packN n l).length ≤ n
  | 0, _ => by simp [packN]
  | n + 1, [] => by simp [packN]
  | n + 1, x :: r => by simp only [packN, List.length_cons]; have := khz n ((x :: r).drop 7); omega
theorem ba_loop (b : ByteArray) : ∀ (k i : Nat) (r : List UInt8), b.size - i = k → i ≤ b.size → ByteArray.toList.loop b i r = r.reverse ++ b.data.toList.drop i
  | 0, i, r, h, hi => by
    unfold ByteArray.toList.loop
    have hs : b.data.toList.length = b.size := by rw [Array.length_toList]; rfl
    rw [if_neg (by omega), List.drop_eq_nil_of_le (by omega), List.append_nil]
  | k + 1, i, r, h, hi => by
    unfold ByteArray.toList.loop
    have hs : b.data.toList.length = b.size := by rw [Array.length_toList]; rfl
    rw [if_pos (by omega), ba_loop b k (i + 1) _ (by omega) (by omega), List.reverse_cons, List.append_assoc, List.drop_eq_getElem_cons (l := b.data.toList) (i := i) (by omega)]
    have e : b.get! i = b.data.toList[i]'(by omega) := by
      show b.data[i]! = _
      rw [getElem!_pos b.data i (show i < b.size by omega)]
      exact (Array.getElem_toList _).symm
    rw [e]; rfl
theorem k1aw (b : ByteArray) : b.toList = b.data.toList := by
  have := ba_loop b _ 0 [] rfl (by omega)
  simpa [ByteArray.toList] using this
theorem k1ae : ∀ {l m : List Int}, By l → By m → (l.map fun n => UInt8.ofNat n.toNat) = (m.map fun n => UInt8.ofNat n.toNat) → l = m
  | [], [], _, _, _ => rfl
  | [], _ :: _, _, _, h => by cases h
  | _ :: _, [], _, _, h => by cases h
  | x :: l, y :: m, hl, hm, h => by
    rw [List.map_cons, List.map_cons, List.cons.injEq] at h
    have e := k1ae (fun z hz => hl z (by simp [hz])) (fun z hz => hm z (by simp [hz])) h.2
    have h1 := hl x (by simp)
    have h2 := hm y (by simp)
    have h3 := congrArg UInt8.toNat h.1
    simp only [UInt8.toNat_ofNat'] at h3
    rw [e, show x = y by omega]
theorem strEq {l m : List Int} (hl : By l) (hm : By m) : ((strOfNums l).toList == (strOfNums m).toList) = decide (l = m) := by
  rw [k1aw, k1aw, strOfNums_data, strOfNums_data]
  by_cases e : l = m
  · subst e; simp
  · rw [decide_eq_false e]
    rw [beq_eq_false_iff_ne]
    exact fun h => e (k1ae hl hm h)
end Go.Md
namespace Go.Md
open Go Go.Bv
def len64 (x : Int) : Int := if x = 0 then 0 else (Nat.log2 x.toNat + 1 : Nat)
theorem kra (x : Int) (k : Nat) (h : ((2 ^ k : Nat) : Int) ≤ x) : len64 (x / ((2 ^ k : Nat) : Int)) + k = len64 x := by
  obtain ⟨n, rfl⟩ := Int.eq_ofNat_of_zero_le (by have := Nat.two_pow_pos k; omega : 0 ≤ x)
  have hp : 0 < 2 ^ k := Nat.two_pow_pos k
  have hn : 2 ^ k ≤ n := by omega
  have e : ((n : Int) / ((2 ^ k : Nat) : Int)) = ((n / 2 ^ k : Nat) : Int) := (Int.natCast_ediv _ _).symm
  have h1 : 0 < n / 2 ^ k := Nat.div_pos hn hp
  unfold len64
  rw [e, if_neg (by omega), if_neg (by omega), Int.toNat_natCast, Int.toNat_natCast]
  have : Nat.log2 n = Nat.log2 (n / 2 ^ k) + k := by
    rw [Nat.log2_eq_iff (by omega)]
    have a := Nat.log2_self_le (n := n / 2 ^ k) (by omega)
    have b := Nat.lt_log2_self (n := n / 2 ^ k)
    rw [Nat.le_div_iff_mul_le hp] at a
    rw [Nat.div_lt_iff_lt_mul hp] at b
    constructor
    · rw [Nat.pow_add]; exact a
    · rw [show Nat.log2 (n / 2 ^ k) + k + 1 = Nat.log2 (n / 2 ^ k) + 1 + k by omega, Nat.pow_add]; exact b
  omega
theorem k14t (y : Int) (h : 0 < y ∧ y < 18446744073709551616) : ∃ s : Nat, 64 - len64 y = (s : Int) ∧ s ≤ 63 ∧ 9223372036854775808 ≤ y * ((2 ^ s : Nat) : Int) ∧ y * ((2 ^ s : Nat) : Int) < 18446744073709551616 := by
  obtain ⟨n, rfl⟩ := Int.eq_ofNat_of_zero_le (by omega : 0 ≤ y)
  have l : Nat.log2 n < 64 := (Nat.log2_lt (by omega)).2 (by omega)
  have a := Nat.log2_self_le (n := n) (by omega)
  have b := Nat.lt_log2_self (n := n)
  refine ⟨63 - Nat.log2 n, ?_, by omega, ?_, ?_⟩
  · unfold len64
    rw [if_neg (by omega), Int.toNat_natCast]
    omega
  · have : 2 ^ 63 ≤ n * 2 ^ (63 - Nat.log2 n) := by
      rw [show (63 : Nat) = Nat.log2 n + (63 - Nat.log2 n) by omega, Nat.pow_add, show Nat.log2 n + (63 - Nat.log2 n) - Nat.log2 n = 63 - Nat.log2 n by omega]
      exact Nat.mul_le_mul_right _ a
    rw [← Int.natCast_mul]
    generalize n * 2 ^ (63 - Nat.log2 n) = m at *
    omega
  · have : n * 2 ^ (63 - Nat.log2 n) < 2 ^ 64 := by
      rw [show (64 : Nat) = Nat.log2 n + 1 + (63 - Nat.log2 n) by omega, Nat.pow_add]
      exact Nat.mul_lt_mul_of_pos_right b (Nat.two_pow_pos _)
    rw [← Int.natCast_mul]
    generalize n * 2 ^ (63 - Nat.log2 n) = m at *
    omega
def tab8 : ByteArray := ⟨#[0, 1, 2, 2, 3, 3, 3, 3, 4, 4, 4, 4, 4, 4, 4, 4, 5, 5, 5, 5, 5, 5, 5, 5, 5, 5, 5, 5, 5, 5, 5, 5, 6, 6, 6, 6, 6, 6, 6, 6, 6, 6, 6, 6, 6, 6, 6, 6, 6, 6, 6, 6, 6, 6, 6, 6, 6, 6, 6, 6, 6, 6, 6, 6, 7, 7, 7, 7, 7, 7, 7, 7, 7, 7, 7, 7, 7, 7, 7, 7, 7, 7, 7, 7, 7, 7, 7, 7, 7, 7, 7, 7, 7, 7, 7, 7, 7, 7, 7, 7, 7, 7, 7, 7, 7, 7, 7, 7, 7, 7, 7, 7, 7, 7, 7, 7, 7, 7, 7, 7, 7, 7, 7, 7, 7, 7, 7, 7, 8, 8, 8, 8, 8, 8, 8, 8, 8, 8, 8, 8, 8, 8, 8, 8, 8, 8, 8, 8, 8, 8, 8, 8, 8, 8, 8, 8, 8, 8, 8, 8, 8, 8, 8, 8, 8, 8, 8, 8, 8, 8, 8, 8, 8, 8, 8, 8, 8, 8, 8, 8, 8, 8, 8, 8, 8, 8, 8, 8, 8, 8, 8, 8, 8, 8, 8, 8, 8, 8, 8, 8, 8, 8, 8, 8, 8, 8, 8, 8, 8, 8, 8, 8, 8, 8, 8, 8, 8, 8, 8, 8, 8, 8, 8, 8, 8, 8, 8, 8, 8, 8, 8, 8, 8, 8, 8, 8, 8, 8, 8, 8, 8, 8, 8, 8, 8, 8, 8, 8, 8, 8, 8, 8, 8, 8, 8, 8]⟩
theorem k1mm : ∀ b : Nat, b < 256 → Cv.byteAt tab8 (b : Int) = len64 (b : Int) := by decide +kernel
theorem k1fo (x : Int) (h : 0 ≤ x ∧ x < 256) : Cv.byteAt tab8 x = len64 x := by
  obtain ⟨n, rfl⟩ := Int.eq_ofNat_of_zero_le h.1
  exact k1mm n (by omega)
theorem k1iy (x : Int) (h : 0 ≤ x ∧ x < 256) : 0 ≤ len64 x ∧ len64 x ≤ 8 := by
  rw [← k1fo x h]
  obtain ⟨n, rfl⟩ := Int.eq_ofNat_of_zero_le h.1
  have : ∀ b : Nat, b < 256 → 0 ≤ Cv.byteAt tab8 (b : Int) ∧ Cv.byteAt tab8 (b : Int) ≤ 8 := by decide +kernel
  exact this n (by omega)
theorem k1lq : tab8.size = 256 := by decide +kernel
end Go.Md
namespace Go.Md
open Go Go.Bv Go.Cv Go.Md Go.RowKit
section
variable {α β : Type}
def AllI (f : α → Bool) (l : List α) (i : Int) : Prop := 0 ≤ i ∧ i ≤ l.length ∧ ∀ x ∈ l.take i.toNat, f x = true
theorem AllI.start {f : α → Bool} {l : List α} : AllI f l 0 := ⟨by omega, by omega, by simp⟩
theorem AllI.next [Inhabited α] {f : α → Bool} {l : List α} {i : Int} (h : AllI f l i) (hh : i < l.length) (hl : (l.length : Int) ≤ 9223372036854775807) (hf : f (ix l i) = true) :
    AllI f l (IntKind.i64.wrap (i + 1)) ∧ (l.length - IntKind.i64.wrap (i + 1)).toNat < (l.length - i).toNat := by
  obtain ⟨g0, g1, g2⟩ := h
  rw [inc i l.length g0 hh hl]
  refine ⟨⟨by omega, by omega, ?_⟩, by omega⟩
  rw [ka l i g0 hh]
  intro x hx
  rcases List.mem_append.1 hx with hx | hx
  · exact g2 x hx
  · have : x = ix l i := by simpa using hx
    rw [this]; exact hf
theorem AllI.bad [Inhabited α] {f : α → Bool} {l : List α} {i : Int} (h : AllI f l i) (hh : i < l.length) (hf : f (ix l i) = false) : l.all f = false :=
  List.all_eq_false.2 ⟨ix l i, Md.ix_mem l i h.1 hh, by simp [hf]⟩
theorem AllI.done {f : α → Bool} {l : List α} {i : Int} (h : AllI f l i) (hh : ¬ i < l.length) : l.all f = true := by
  obtain ⟨g0, g1, g2⟩ := h
  rw [List.take_of_length_le (by omega)] at g2
  exact List.all_eq_true.2 g2
def FoldI (f : β → α → β) (z : β) (l : List α) (i : Int) (s : β) : Prop := 0 ≤ i ∧ i ≤ l.length ∧ s = (l.take i.toNat).foldl f z
theorem FoldI.start {f : β → α → β} {z : β} {l : List α} : FoldI f z l 0 z := ⟨by omega, by omega, by simp⟩
theorem FoldI.next [Inhabited α] {f : β → α → β} {z : β} {l : List α} {i : Int} {s s' : β} (h : FoldI f z l i s) (hh : i < l.length) (hl : (l.length : Int) ≤ 9223372036854775807) (hs : s' = f s (ix l i)) :
    FoldI f z l (IntKind.i64.wrap (i + 1)) s' ∧ (l.length - IntKind.i64.wrap (i + 1)).toNat < (l.length - i).toNat := by
  obtain ⟨g0, g1, g2⟩ := h
  rw [inc i l.length g0 hh hl]
  refine ⟨⟨by omega, by omega, ?_⟩, by omega⟩
  rw [ka l i g0 hh, List.foldl_append, ← g2, hs]
  rfl
theorem FoldI.done {f : β → α → β} {z : β} {l : List α} {i : Int} {s : β} (h : FoldI f z l i s) (hh : ¬ i < l.length) : s = l.foldl f z := by
  obtain ⟨g0, g1, g2⟩ := h
  rwa [List.take_of_length_le (by omega)] at g2
def FlatI (f : α → List β) (z : List β) (l : List α) (i : Int) (s : List β) : Prop := 0 ≤ i ∧ i ≤ l.length ∧ s = z ++ (l.take i.toNat).flatMap f
theorem FlatI.start {f : α → List β} {z : List β} {l : List α} : FlatI f z l 0 z := ⟨by omega, by omega, by simp⟩
theorem FlatI.next [Inhabited α] {f : α → List β} {z : List β} {l : List α} {i : Int} {s s' : List β} (h : FlatI f z l i s) (hh : i < l.length) (hl : (l.length : Int) ≤ 9223372036854775807) (hs : s' = s ++ f (ix l i)) :
    FlatI f z l (IntKind.i64.wrap (i + 1)) s' ∧ (l.length - IntKind.i64.wrap (i + 1)).toNat < (l.length - i).toNat := by
  obtain ⟨g0, g1, g2⟩ := h
  rw [inc i l.length g0 hh hl]
  refine ⟨⟨by omega, by omega, ?_⟩, by omega⟩
  rw [ka l i g0 hh, List.flatMap_append, hs, g2]
  simp
theorem FlatI.done {f : α → List β} {z : List β} {l : List α} {i : Int} {s : List β} (h : FlatI f z l i s) (hh : ¬ i < l.length) : s = z ++ l.flatMap f := by
  obtain ⟨g0, g1, g2⟩ := h
  rwa [List.take_of_length_le (by omega)] at g2
theorem FlatI.len {f : α → List β} {z : List β} {l : List α} {i : Int} {s : List β} (h : FlatI f z l i s) (k : Nat) (hk : ∀ x ∈ l, (f x).length ≤ k) : s.length ≤ z.length + k * l.length := by
  obtain ⟨g0, g1, g2⟩ := h
  have key : ∀ (m : List α), (∀ x ∈ m, (f x).length ≤ k) → (m.flatMap f).length ≤ k * m.length := by
    intro m
    induction m with
    | nil => simp
    | cons a m ih =>
      intro hm
      have h1 := ih (fun x hx => hm x (by simp [hx]))
      have h2 := hm a (by simp)
      rw [List.flatMap_cons, List.length_append, List.length_cons, Nat.mul_add]
      omega
  have h1 := key (l.take i.toNat) (fun x hx => hk x (List.mem_of_mem_take hx))
  have h2 : k * (l.take i.toNat).length ≤ k * l.length := Nat.mul_le_mul_left _ (by rw [List.length_take]; omega)
  rw [g2, List.length_append]
  omega
def MapI (f : α → β) (l : List α) (i : Int) (s : List β) : Prop := 0 ≤ i ∧ i ≤ l.length ∧ s = (l.take i.toNat).map f
theorem MapI.start {f : α → β} {l : List α} : MapI f l 0 [] := ⟨by omega, by omega, by simp⟩
theorem MapI.next [Inhabited α] {f : α → β} {l : List α} {i : Int} {s s' : List β} (h : MapI f l i s) (hh : i < l.length) (hl : (l.length : Int) ≤ 9223372036854775807) (hs : s' = s ++ [f (ix l i)]) :
    MapI f l (IntKind.i64.wrap (i + 1)) s' ∧ (l.length - IntKind.i64.wrap (i + 1)).toNat < (l.length - i).toNat := by
  obtain ⟨g0, g1, g2⟩ := h
  rw [inc i l.length g0 hh hl]
  refine ⟨⟨by omega, by omega, ?_⟩, by omega⟩
  rw [ka l i g0 hh, List.map_append, hs, g2]
  simp
theorem MapI.done {f : α → β} {l : List α} {i : Int} {s : List β} (h : MapI f l i s) (hh : ¬ i < l.length) : s = l.map f := by
  obtain ⟨g0, g1, g2⟩ := h
  rwa [List.take_of_length_le (by omega)] at g2
theorem MapI.len {f : α → β} {l : List α} {i : Int} {s : List β} (h : MapI f l i s) : s.length = i.toNat := by
  obtain ⟨g0, g1, g2⟩ := h
  rw [g2, List.length_map, List.length_take]; omega
def EqI [Inhabited α] (f : α → α → Bool) (l m : List α) (i : Int) : Prop := 0 ≤ i ∧ i ≤ l.length ∧ ∀ j : Nat, (j : Int) < i → f (ix l j) (ix m j) = true
theorem EqI.start [Inhabited α] {f : α → α → Bool} {l m : List α} : EqI f l m 0 := ⟨by omega, by omega, fun j hj => by omega⟩
theorem EqI.next [Inhabited α] {f : α → α → Bool} {l m : List α} {i : Int} (h : EqI f l m i) (hh : i < l.length) (hl : (l.length : Int) ≤ 9223372036854775807) (hf : f (ix l i) (ix m i) = true) :
    EqI f l m (IntKind.i64.wrap (i + 1)) ∧ (l.length - IntKind.i64.wrap (i + 1)).toNat < (l.length - i).toNat := by
  obtain ⟨g0, g1, g2⟩ := h
  rw [inc i l.length g0 hh hl]
  refine ⟨⟨by omega, by omega, fun j hj => ?_⟩, by omega⟩
  by_cases hji : (j : Int) = i
  · rw [hji]; exact hf
  · exact g2 j (by omega)
def eqB (f : α → α → Bool) : List α → List α → Bool
  | [], [] => true
  | a :: l, b :: m => f a b && eqB f l m
  | _, _ => false
theorem eqB_iff [Inhabited α] {f : α → α → Bool} : ∀ {l m : List α}, eqB f l m = true ↔ l.length = m.length ∧ ∀ j : Nat, j < l.length → f (ix l (j : Int)) (ix m (j : Int)) = true
  | [], [] => by simp [eqB]
  | [], _ :: _ => by simp [eqB]
  | _ :: _, [] => by simp [eqB]
  | a :: l, b :: m => by
    have e : ∀ (a : α) (l : List α) (j : Nat), j < l.length → ix (a :: l) ((j + 1 : Nat) : Int) = ix l (j : Int) := by
      intro a l j hj
      rw [ix_nat _ _ (by omega) (by simp; omega), ix_nat _ _ (by omega) (by omega)]
      rfl
    have e0 : ∀ (a : α) (l : List α), ix (a :: l) ((0 : Nat) : Int) = a := fun a l => by rw [ix_nat _ _ (by omega) (by simp)]; rfl
    simp only [eqB, Bool.and_eq_true, eqB_iff, List.length_cons]
    constructor
    · rintro ⟨h1, h2, h3⟩
      refine ⟨by omega, fun j hj => ?_⟩
      cases j with
      | zero => rw [e0, e0]; exact h1
      | succ j => rw [e a l j (by omega), e b m j (by omega)]; exact h3 j (by omega)
    · rintro ⟨h1, h2⟩
      have h3 := h2 0 (by omega)
      rw [e0, e0] at h3
      refine ⟨h3, by omega, fun j hj => ?_⟩
      have := h2 (j + 1) (by omega)
      rwa [e a l j (by omega), e b m j (by omega)] at this
theorem EqI.bad [Inhabited α] {f : α → α → Bool} {l m : List α} {i : Int} (h : EqI f l m i) (hh : i < l.length) (hf : f (ix l i) (ix m i) = false) : eqB f l m = false := by
  cases hq : eqB f l m with
  | false => rfl
  | true =>
    have h0 := h.1
    have := (eqB_iff.1 hq).2 i.toNat (by omega)
    rw [Int.toNat_of_nonneg h.1, hf] at this
    cases this
theorem EqI.done [Inhabited α] {f : α → α → Bool} {l m : List α} {i : Int} (h : EqI f l m i) (hlm : l.length = m.length) (hh : ¬ i < l.length) : eqB f l m = true :=
  eqB_iff.2 ⟨hlm, fun j hj => h.2.2 j (by omega)⟩
end
@[simp] theorem k1nk {α : Type} (p : α → Bool) : mHas p [] = false := rfl
@[simp] theorem k1nj {α β : Type} (p : α → Bool) (z : β) (vs : List β) : mVal p [] vs z = z := rfl
end Go.Md
namespace Go.Proofs.Ytnmakgfmimagmaa
open Go Go.Bv Go.Cv Go.Md Go.RowKit
def rc (r i : Int) : Int := (3 * r + i + 1) * 11400714819323198485 % 18446744073709551616 % 18446744069414584321
def mixS (s : TA3) : TA3 := ⟨(s.a0 + ((s.a0 + s.a1) % 18446744069414584321 + s.a2) % 18446744069414584321) % 18446744069414584321, (s.a1 + ((s.a0 + s.a1) % 18446744069414584321 + s.a2) % 18446744069414584321) % 18446744069414584321, (s.a2 + ((s.a0 + s.a1) % 18446744069414584321 + s.a2) % 18446744069414584321) % 18446744069414584321⟩
def pw (a e : Int) : Int := a ^ e.toNat % 18446744069414584321
def rnd (s : TA3) (r : Int) : TA3 := mixS ⟨pw ((s.a0 + rc r 0) % 18446744069414584321) 7, pw ((s.a1 + rc r 1) % 18446744069414584321) 7, pw ((s.a2 + rc r 2) % 18446744069414584321) 7⟩
def rnds : Nat → TA3 → TA3
  | 0, s => s
  | n + 1, s => rnd (rnds n s) n
def permS (s : TA3) : TA3 := rnds 8 s
def absL : List Int → TA3 → TA3
  | [], s => s
  | [x], s => permS ⟨(s.a0 + x) % 18446744069414584321, s.a1, s.a2⟩
  | x :: y :: r, s => absL r (permS ⟨(s.a0 + x) % 18446744069414584321, (s.a1 + y) % 18446744069414584321, s.a2⟩)
def absI (label : Int) (l : List Int) : TA3 := ⟨0, 0, (label * 65536 % 18446744069414584321 + (l.length : Int)) % 18446744069414584321⟩
def absS (label : Int) (l : List Int) : TA3 := if l = [] then permS (absI label l) else absL l (absI label l)
def hashS (label : Int) (l : List Int) : Int := (absS label l).a0
def hashB (label : Int) (b : List Int) : Int := hashS label (packS b)
def S3 (s : TA3) : Prop := U64 s.a0 ∧ U64 s.a1 ∧ U64 s.a2
theorem S3m {a b c : Int} (ha : U64 a) (hb : U64 b) (hc : U64 c) : S3 ⟨a, b, c⟩ := ⟨ha, hb, hc⟩
theorem kct (s : TA3) : S3 (permS s) := by
  show S3 (rnd _ _)
  unfold rnd mixS S3
  dsimp only
  omega
theorem k16n : ∀ (l : List Int) (s : TA3), S3 s → S3 (absL l s)
  | [], _, h => h
  | [_], _, _ => kct _
  | _ :: _ :: r, _, _ => k16n r _ (kct _)
theorem k1kw (label : Int) (l : List Int) : U64 (hashS label l) := by
  unfold hashS absS
  split
  · exact (kct _).1
  · rename_i h
    match l, h with
    | [_], _ => exact (kct _).1
    | _ :: _ :: r, _ => exact (k16n r _ (kct _)).1
end Go.Proofs.Ytnmakgfmimagmaa
namespace Go.Proofs.Ytnmakgfmimagmaa
open Go Go.Bv Go.Cv Go.Md Go.RowKit
def idxI (l : List Int) (v : Int) : Int := if v ∈ l then (l.idxOf v : Int) else -1
def vMarks (l : List Int) : Bool := decide (l.length ≤ 4) && l.all (fun x => decide (x < 18446744069414584321)) && decide l.Nodup
def vPoint (a b : Int) : Bool := decide (a < 18446744069414584321) && (decide (b < 18446744069414584321) && (a != 0 || b != 0))
def vOut (x : TOut) : Bool := decide (x.Commit < 18446744069414584321) && vPoint x.Point_a0 x.Point_a1 && decide (x.Cipher.length = 3) && x.Cipher.all (fun n => decide (n < 18446744069414584321))
def vOuts (l : List TOut) : Bool := decide (l.length ≤ 4) && l.all vOut
def vAmounts (t : TTx) : Bool := decide (t.Deposit ≤ 4294967295) && decide (t.Withdraw ≤ 4294967295) && decide (t.Fee ≤ 4294967295) && decide (t.Account < 18446744069414584321) && decide (t.Nonce < 18446744069414584321) &&
  (if 0 < t.Deposit then t.Withdraw == 0 else !t.Marks.isEmpty && t.Nonce == 0 && (decide (0 < t.Withdraw) || t.Account == 0))
def vRest (t : TTx) : Bool := decide (t.Anchor < 18446744069414584321) && decide (0 ≤ t.Expiry) && decide (t.Expiry ≤ 1048576)
def validE (t : TTx) : Int := if vMarks t.Marks && vOuts t.Outs && vAmounts t && vRest t then (if t.Proof.length ≤ 1048576 then 0 else 3) else 1
theorem kav (t : TTx) : vAmounts t = true ↔ t.Deposit ≤ 4294967295 ∧ t.Withdraw ≤ 4294967295 ∧ t.Fee ≤ 4294967295 ∧ t.Account < 18446744069414584321 ∧ t.Nonce < 18446744069414584321 ∧ (0 < t.Deposit → t.Withdraw = 0) ∧ (¬ 0 < t.Deposit → t.Marks ≠ [] ∧ t.Nonce = 0 ∧ (0 < t.Withdraw ∨ t.Account = 0)) := by
  unfold vAmounts
  by_cases h : 0 < t.Deposit
  · simp [h, and_assoc]
  · simp [h, and_assoc]
structure OR (x : TOut) : Prop where
  c : U64 x.Commit
  p0 : U64 x.Point_a0
  p1 : U64 x.Point_a1
  ci : Us x.Cipher
structure TR (t : TTx) : Prop where
  a : U64 t.Anchor
  m : Us t.Marks
  o : ∀ x ∈ t.Outs, OR x
  d : U64 t.Deposit
  w : U64 t.Withdraw
  f : U64 t.Fee
  ac : U64 t.Account
  n : U64 t.Nonce
  e : -9223372036854775808 ≤ t.Expiry ∧ t.Expiry ≤ 9223372036854775807
  p : By t.Proof
def encO (x : TOut) : List Int := dig 8 x.Commit ++ dig 8 x.Point_a0 ++ dig 8 x.Point_a1 ++ encL x.Cipher
def encT (t : TTx) (p : List Int) : List Int := dig 8 t.Anchor ++ encL t.Marks ++ dig 4 (len4 t.Outs.length) ++ t.Outs.flatMap encO ++ dig 8 t.Deposit ++ dig 8 t.Withdraw ++ dig 8 t.Fee ++ dig 8 t.Account ++ dig 8 t.Nonce ++ dig 4 (len4 t.Expiry) ++ encB p
def weightS (t : TTx) : Int := if validE t = 0 then (encT t t.Proof).length else 0
def idS (t : TTx) : Int := if validE t = 0 then hashB 14 (encT t t.Proof) else 0
def smallB (t : TTx) (p : Int) : Bool := decide (t.Marks.length ≤ 10) && decide (t.Outs.length ≤ 10) && t.Outs.all (fun x => decide (x.Cipher.length ≤ 10)) && decide ((t.Proof.length : Int) ≤ p)
structure TL (t : TTx) : Prop where
  m : t.Marks.length ≤ 4294967295
  o : t.Outs.length ≤ 4294967295
  c : ∀ x ∈ t.Outs, x.Cipher.length ≤ 4294967295
  p : t.Proof.length ≤ 4294967295
structure VO (x : TOut) : Prop where
  c : x.Commit < 18446744069414584321
  p : vPoint x.Point_a0 x.Point_a1 = true
  l : x.Cipher.length = 3
  ci : ∀ n ∈ x.Cipher, n < 18446744069414584321
theorem ktd (x : TOut) : vOut x = true ↔ VO x := by
  unfold vOut
  simp only [Bool.and_eq_true, decide_eq_true_eq, List.all_eq_true]
  exact ⟨fun h => ⟨h.1.1.1, h.1.1.2, h.1.2, h.2⟩, fun h => ⟨⟨⟨h.c, h.p⟩, h.l⟩, h.ci⟩⟩
structure VT (t : TTx) : Prop where
  ml : t.Marks.length ≤ 4
  m : ∀ x ∈ t.Marks, x < 18446744069414584321
  mn : t.Marks.Nodup
  ol : t.Outs.length ≤ 4
  o : ∀ x ∈ t.Outs, VO x
  am : vAmounts t = true
  re : vRest t = true
  pl : t.Proof.length ≤ 1048576
theorem k71 (t : TTx) : validE t = 0 ↔ VT t := by
  unfold validE
  constructor
  · intro h
    split at h
    · rename_i h1
      split at h
      · rename_i h2
        simp only [Bool.and_eq_true, vMarks, vOuts, decide_eq_true_eq, List.all_eq_true] at h1
        exact ⟨h1.1.1.1.1.1, h1.1.1.1.1.2, h1.1.1.1.2, h1.1.1.2.1, fun x hx => (ktd x).1 (h1.1.1.2.2 x hx), h1.1.2, h1.2, h2⟩
      · simp at h
    · simp at h
  · intro h
    have : (vMarks t.Marks && vOuts t.Outs && vAmounts t && vRest t) = true := by
      simp only [Bool.and_eq_true, vMarks, vOuts, decide_eq_true_eq, List.all_eq_true]
      exact ⟨⟨⟨⟨⟨h.ml, h.m⟩, h.mn⟩, h.ol, fun x hx => (ktd x).2 (h.o x hx)⟩, h.am⟩, h.re⟩
    rw [if_pos this, if_pos h.pl]
theorem VT.tl {t : TTx} (h : VT t) : TL t := ⟨by have := h.ml; omega, by have := h.ol; omega, fun x hx => by have := (h.o x hx).l; omega, by have := h.pl; omega⟩
theorem encO_by {x : TOut} : By (encO x) := ((((dig_by _ _).append (dig_by _ _)).append (dig_by _ _)).append (encL_by _))
theorem k1n1 (l : List TOut) : By (l.flatMap encO) := fun x hx => by
  obtain ⟨y, _, hy⟩ := List.mem_flatMap.1 hx
  exact encO_by x hy
theorem encT_by {t : TTx} {p : List Int} (h : By p) : By (encT t p) :=
  ((((((((((dig_by _ _).append (encL_by _)).append (dig_by _ _)).append (k1n1 _)).append (dig_by _ _)).append (dig_by _ _)).append (dig_by _ _)).append (dig_by _ _)).append (dig_by _ _)).append (dig_by _ _)).append (encB_by h)
theorem k1iz (x : TOut) : (encO x).length = 28 + 8 * x.Cipher.length := by simp [encO]; omega
theorem kao : ∀ (l : List TOut) (k : Nat), (∀ x ∈ l, x.Cipher.length ≤ k) → (l.flatMap encO).length ≤ (28 + 8 * k) * l.length
  | [], _, _ => by simp
  | x :: r, k, h => by
    have h1 := kao r k (fun y hy => h y (by simp [hy]))
    have h2 := h x (by simp)
    rw [List.flatMap_cons, List.length_append, k1iz, List.length_cons, Nat.mul_add]
    omega
theorem k11n (t : TTx) (p : List Int) : (encT t p).length = 64 + 8 * t.Marks.length + (t.Outs.flatMap encO).length + p.length := by simp only [encT, List.length_append, k19, k88, kl4]; omega
theorem VT.enc_len {t : TTx} (h : VT t) (p : List Int) : (encT t p).length ≤ 304 + p.length := by
  have h1 := h.ml
  have h2 := h.ol
  have h3 := kao t.Outs 3 (fun x hx => by have := (h.o x hx).l; omega)
  rw [k11n]
  omega
theorem k12q {t : TTx} {p : Int} (h : smallB t p = true) (hp : p ≤ 1048576 := by omega) : TL t := by
  unfold smallB at h
  simp only [Bool.and_eq_true, decide_eq_true_eq, List.all_eq_true] at h
  exact ⟨by omega, by omega, fun x hx => by have := h.1.2 x hx; omega, by omega⟩
end Go.Proofs.Ytnmakgfmimagmaa
namespace Go.Proofs.Ytnmakgfmimagmaa
open Go Go.Bv Go.Cv Go.Md Go.RowKit
structure RD where
  n : Int
  ok : Bool
  pos : Int
  fail : Bool
structure RL where
  l : List Int
  pos : Int
  fail : Bool
structure RdOk (b : List Int) (pos : Int) : Prop where
  by_ : By b
  len : b.length ≤ 137438953472
  pos0 : 0 ≤ pos
  pos1 : pos ≤ b.length
def rdD (b : List Int) (pos : Int) (f : Bool) (size : Int) : RD :=
  if f = true ∨ (b.length : Int) - pos < size then ⟨0, false, pos, true⟩ else ⟨val ((b.drop pos.toNat).take size.toNat), true, pos + size, false⟩
def rdI (b : List Int) (pos : Int) (f : Bool) (m : Int) : RD :=
  if (rdD b pos f 4).ok = false ∨ m < (rdD b pos f 4).n then ⟨0, false, (rdD b pos f 4).pos, true⟩ else rdD b pos f 4
def rdB (b : List Int) (pos : Int) (f : Bool) (m : Int) : RL :=
  if (rdI b pos f m).fail = true ∨ (b.length : Int) - (rdI b pos f m).pos < (rdI b pos f m).n then ⟨[], (rdI b pos f m).pos, true⟩ else ⟨(b.take ((rdI b pos f m).pos + (rdI b pos f m).n).toNat).drop (rdI b pos f m).pos.toNat, (rdI b pos f m).pos + (rdI b pos f m).n, false⟩
end Go.Proofs.Ytnmakgfmimagmaa
namespace Go.Proofs.Ytnmakgfmimagmaa
open Go Go.Bv Go.Cv Go.Md Go.RowKit
theorem put_dig {b r : List Int} {k : Nat} {n : Int} (h : b = dig k n ++ r) (h0 : 0 ≤ n) (h1 : n < 256 ^ k) : val (b.take k) = n ∧ b.drop k = r ∧ k ≤ b.length := by
  subst h
  rw [List.take_left' (k19 k n), List.drop_left' (k19 k n), List.length_append, k19]
  exact ⟨val_dig k n h0 h1, rfl, by omega⟩
def nums : Nat → List Int → List Int
  | 0, _ => []
  | k + 1, b => val (b.take 8) :: nums k (b.drop 8)
@[simp] theorem k1i7 : ∀ (k : Nat) (b : List Int), (nums k b).length = k
  | 0, _ => rfl
  | k + 1, b => by simp [nums, k1i7 k]
theorem k11x : ∀ (l : List Int) {b r : List Int}, b = l.flatMap (dig 8) ++ r → Us l → nums l.length b = l ∧ b.drop (8 * l.length) = r ∧ 8 * l.length ≤ b.length
  | [], b, r, h, _ => ⟨rfl, by simpa using h, by simp⟩
  | x :: l, b, r, h, hu => by
    rw [List.flatMap_cons, List.append_assoc] at h
    have hx := hu x (by simp)
    obtain ⟨h1, h2, h3⟩ := put_dig h hx.1 (by omega)
    obtain ⟨g1, g2, g3⟩ := k11x l h2 (fun y hy => hu y (by simp [hy]))
    rw [List.length_drop] at g3
    refine ⟨?_, ?_, ?_⟩
    · simp only [List.length_cons, nums, h1, g1]
    · rw [List.drop_drop, show 8 + 8 * l.length = 8 * (l.length + 1) by omega] at g2
      simpa using g2
    · rw [List.length_cons]; omega
section
variable {b : List Int} {pos m p : Int} {f : Bool}
end
end Go.Proofs.Ytnmakgfmimagmaa
namespace Go.Proofs.Ytnmakgfmimagmaa
open Go Go.Bv Go.Cv Go.Md Go.RowKit
structure Enc (t : TTx) (b : List Int) : Prop where
  r : TR t
  v : VT t
  e : encT t t.Proof = b
open Classical in
theorem Enc.us {t : TTx} {b : List Int} (h : Enc t b) : t.Anchor ≤ 18446744069414584320 ∧ t.Deposit ≤ 4294967295 ∧ t.Withdraw ≤ 4294967295 ∧ t.Fee ≤ 4294967295 ∧ t.Account ≤ 18446744069414584320 ∧ t.Nonce ≤ 18446744069414584320 ∧ 0 ≤ t.Expiry ∧ t.Expiry ≤ 1048576 := by
  have h1 := (kav t).1 h.v.am
  have h2 := h.v.re
  unfold vRest at h2
  simp only [Bool.and_eq_true, decide_eq_true_eq] at h2
  omega
theorem VO.us {x : TOut} (h : VO x) : x.Commit ≤ 18446744069414584320 ∧ x.Point_a0 ≤ 18446744069414584320 ∧ x.Point_a1 ≤ 18446744069414584320 := by
  have h1 := h.c
  have h2 := h.p
  unfold vPoint at h2
  simp only [Bool.and_eq_true, decide_eq_true_eq] at h2
  omega
def encTail (t : TTx) : List Int := dig 8 t.Deposit ++ (dig 8 t.Withdraw ++ (dig 8 t.Fee ++ (dig 8 t.Account ++ (dig 8 t.Nonce ++ (dig 4 (len4 t.Expiry) ++ encB t.Proof)))))
theorem k149 (t : TTx) : encT t t.Proof = dig 8 t.Anchor ++ (encL t.Marks ++ (dig 4 (len4 t.Outs.length) ++ (t.Outs.flatMap encO ++ encTail t))) := by simp [encT, encTail, List.append_assoc]
theorem k177 (x : TOut) (r : List Int) : encO x ++ r = dig 8 x.Commit ++ (dig 8 x.Point_a0 ++ (dig 8 x.Point_a1 ++ (encL x.Cipher ++ r))) := by simp [encO, List.append_assoc]
set_option maxHeartbeats 2000000 in

theorem enc_inj {t u : TTx} {b : List Int} (ht : Enc t b) (hu : Enc u b) : t = u := by
  have h := ht.e.trans hu.e.symm
  rw [k149, k149] at h
  have e1 := List.append_inj h (by simp)
  have a1 := dig_inj (k := 8) ht.r.a hu.r.a e1.1
  have tl := ht.v.ml
  have ul := hu.v.ml
  have tol := ht.v.ol
  have uol := hu.v.ol
  have cut : ∀ {l m : List Int} {x y : List Int}, l.length ≤ 4294967295 → m.length ≤ 4294967295 → Us l → Us m → encL l ++ x = encL m ++ y → l = m ∧ x = y := by
    intro l m x y hl hm hul hum h
    unfold encL at h
    rw [len4_in (by omega), len4_in (by omega), List.append_assoc, List.append_assoc] at h
    have q := List.append_inj h (by simp)
    have q1 := dig_inj (k := 4) ⟨by omega, by omega⟩ ⟨by omega, by omega⟩ q.1
    have q2 := List.append_inj q.2 (by rw [k63, k63]; omega)
    obtain ⟨k1, k2, _⟩ := k11x l (b := l.flatMap (dig 8)) (r := []) (by simp) hul
    obtain ⟨m1, m2, _⟩ := k11x m (b := l.flatMap (dig 8)) (r := []) (by rw [q2.1]; simp) hum
    have : l.length = m.length := by omega
    rw [this] at k1
    exact ⟨k1.symm.trans m1, q2.2⟩
  obtain ⟨a2, e2⟩ := cut (by omega) (by omega) ht.r.m hu.r.m e1.2
  rw [len4_in (by omega), len4_in (by omega)] at e2
  have e3 := List.append_inj e2 (by simp)
  have a3 := dig_inj (k := 4) ⟨by omega, by omega⟩ ⟨by omega, by omega⟩ e3.1
  have outs : ∀ (l m : List TOut) (x y : List Int), l.length = m.length → (∀ o ∈ l, OR o ∧ VO o) → (∀ o ∈ m, OR o ∧ VO o) → l.flatMap encO ++ x = m.flatMap encO ++ y → l = m ∧ x = y := by
    intro l
    induction l with
    | nil =>
      intro m x y hlm _ _ h
      cases m with
      | nil => exact ⟨rfl, h⟩
      | cons o m => simp at hlm
    | cons o l ih =>
      intro m x y hlm hl hm h
      cases m with
      | nil => simp at hlm
      | cons p m =>
        rw [List.flatMap_cons, List.flatMap_cons, List.append_assoc, List.append_assoc, k177, k177] at h
        obtain ⟨or, ov⟩ := hl o (by simp)
        obtain ⟨pr, pv⟩ := hm p (by simp)
        have q1 := List.append_inj h (by simp)
        have q2 := List.append_inj q1.2 (by simp)
        have q3 := List.append_inj q2.2 (by simp)
        obtain ⟨q4, q5⟩ := cut (by rw [ov.l]; omega) (by rw [pv.l]; omega) or.ci pr.ci q3.2
        obtain ⟨q6, q7⟩ := ih m x y (by simpa using hlm) (fun o h => hl o (by simp [h])) (fun o h => hm o (by simp [h])) q5
        refine ⟨?_, q7⟩
        have c1 := dig_inj (k := 8) or.c pr.c q1.1
        have c2 := dig_inj (k := 8) or.p0 pr.p0 q2.1
        have c3 := dig_inj (k := 8) or.p1 pr.p1 q3.1
        rw [q6]
        cases o
        cases p
        simp_all
  obtain ⟨a4, e4⟩ := outs _ _ _ _ (by omega) (fun o h => ⟨ht.r.o o h, ht.v.o o h⟩) (fun o h => ⟨hu.r.o o h, hu.v.o o h⟩) e3.2
  unfold encTail at e4
  have f1 := List.append_inj e4 (by simp)
  have f2 := List.append_inj f1.2 (by simp)
  have f3 := List.append_inj f2.2 (by simp)
  have f4 := List.append_inj f3.2 (by simp)
  have f5 := List.append_inj f4.2 (by simp)
  have f6 := List.append_inj f5.2 (by simp)
  have tus := ht.us
  have uus := hu.us
  rw [len4_in (by omega), len4_in (by omega)] at f6
  have a5 := dig_inj (k := 8) ht.r.d hu.r.d f1.1
  have a6 := dig_inj (k := 8) ht.r.w hu.r.w f2.1
  have a7 := dig_inj (k := 8) ht.r.f hu.r.f f3.1
  have a8 := dig_inj (k := 8) ht.r.ac hu.r.ac f4.1
  have a9 := dig_inj (k := 8) ht.r.n hu.r.n f5.1
  have a10 := dig_inj (k := 4) ⟨by omega, by omega⟩ ⟨by omega, by omega⟩ f6.1
  have a11 : t.Proof = u.Proof := by
    have h7 := f6.2
    unfold encB at h7
    exact (List.append_inj h7 (by simp)).2
  cases t
  cases u
  simp_all
structure TD (t : TTx) : Prop where
  r : TR t
  l : TL t
  o : t.Outs.length ≤ 1048576
  c : ∀ x ∈ t.Outs, x.Cipher.length ≤ 1024
theorem Enc.td {t : TTx} {b : List Int} (h : Enc t b) : TD t := ⟨h.r, h.v.tl, by have := h.v.ol; omega, fun x hx => by have := (h.v.o x hx).l; omega⟩
def sameT (a b : TTx) : Bool := decide (a.Outs.length = b.Outs.length) && a.Expiry == b.Expiry && decide (a.Outs.map (·.Cipher.length) = b.Outs.map (·.Cipher.length)) && decide (encT a a.Proof = encT b b.Proof)
@[simp] theorem k1k1 (a : TTx) : sameT a a = true := by simp [sameT]
structure TK where
  n : Int
  r : List Int
  ok : Bool
structure TKL where
  l : List Int
  r : List Int
  ok : Bool
section
variable {b r : List Int} {n m : Int}
end
end Go.Proofs.Ytnmakgfmimagmaa
namespace Go.Proofs.Ytnmakgfmimagmaa
open Go Go.Bv Go.Cv Go.Md Go.RowKit
def sumW (l : List TTx) : Int := (l.map weightS).sum
theorem k1fk (l : List TTx) (x : TTx) : sumW (l ++ [x]) = sumW l + weightS x := by simp [sumW]
theorem kt1 {t : TTx} (h : validE t = 0) : 0 ≤ weightS t ∧ weightS t ≤ 1048880 := by
  have v := (k71 t).1 h
  have := v.enc_len t.Proof
  have := v.pl
  unfold weightS
  rw [if_pos h]
  omega
theorem sumW_bd : ∀ (l : List TTx), (∀ x ∈ l, validE x = 0) → 0 ≤ sumW l ∧ sumW l ≤ 1048880 * l.length
  | [], _ => by simp [sumW]
  | x :: l, h => by
    have h1 := sumW_bd l (fun y hy => h y (by simp [hy]))
    have h2 := kt1 (h x (by simp))
    have e : sumW (x :: l) = weightS x + sumW l := by simp [sumW]
    rw [e, List.length_cons]
    omega
structure BR (b : TBlock) : Prop where
  p : U64 b.Parent
  m : U64 b.Miner
  w : U64 b.Work
  n : U64 b.Nonce
  h : -9223372036854775808 ≤ b.Height ∧ b.Height ≤ 9223372036854775807
  t : ∀ x ∈ b.Txs, TR x
structure VB0 (b : TBlock) : Prop where
  h0 : 1 ≤ b.Height
  h1 : b.Height ≤ 1048576
  w0 : 1 ≤ b.Work
  w1 : b.Work ≤ 65536
  p : b.Parent < 18446744069414584321
  m : b.Miner < 18446744069414584321
  l : b.Txs.length ≤ 64
def vHead (b : TBlock) : Bool := decide (1 ≤ b.Height) && decide (b.Height ≤ 1048576) && decide (1 ≤ b.Work) && decide (b.Work ≤ 65536) && decide (b.Parent < 18446744069414584321) && decide (b.Miner < 18446744069414584321) && decide (b.Txs.length ≤ 64)
theorem kq0 (b : TBlock) : vHead b = true ↔ VB0 b := by
  unfold vHead
  simp only [Bool.and_eq_true, decide_eq_true_eq]
  constructor
  · rintro ⟨⟨⟨⟨⟨⟨a, b⟩, c⟩, d⟩, e⟩, f⟩, g⟩
    exact ⟨a, b, c, d, e, f, g⟩
  · rintro ⟨a, b, c, d, e, f, g⟩
    exact ⟨⟨⟨⟨⟨⟨a, b⟩, c⟩, d⟩, e⟩, f⟩, g⟩
def validB (b : TBlock) : Int := if vHead b = true ∧ ∀ t ∈ b.Txs, validE t = 0 then (if sumW b.Txs ≤ 2097152 then 0 else 3) else 1
structure VB (b : TBlock) : Prop where
  h : VB0 b
  t : ∀ x ∈ b.Txs, validE x = 0
  s : sumW b.Txs ≤ 2097152
theorem kcv (b : TBlock) : validB b = 0 ↔ VB b := by
  unfold validB
  split
  · rename_i h
    split
    · rename_i hs
      exact ⟨fun _ => ⟨(kq0 b).1 h.1, h.2, hs⟩, fun _ => rfl⟩
    · rename_i hs
      exact ⟨fun e => absurd e (by decide), fun e => absurd e.s hs⟩
  · rename_i h
    exact ⟨fun e => absurd e (by decide), fun e => absurd ⟨(kq0 b).2 e.h, e.t⟩ h⟩
theorem kcu {b : TBlock} (h : ¬ VB0 b) : validB b = 1 := if_neg fun e => h ((kq0 b).1 e.1)
theorem k1am {b : TBlock} {x : TTx} (hx : x ∈ b.Txs) (h : validE x ≠ 0) : validB b = 1 := if_neg fun e => h (e.2 x hx)
theorem k1b1 {b : TBlock} (h : VB0 b) (ht : ∀ x ∈ b.Txs, validE x = 0) : validB b = if sumW b.Txs ≤ 2097152 then 0 else 3 := if_pos ⟨(kq0 b).2 h, ht⟩
def hdrS (b : TBlock) : List Int := dig 8 b.Parent ++ dig 4 (len4 b.Height) ++ dig 8 b.Miner ++ dig 8 b.Work ++ dig 8 b.Nonce ++ dig 4 (len4 (b.Txs.length : Int))
@[simp] theorem kcx (b : TBlock) : (hdrS b).length = 40 := by simp [hdrS]
theorem hdrS_by (b : TBlock) : By (hdrS b) := ((((((dig_by _ _).append (dig_by _ _)).append (dig_by _ _)).append (dig_by _ _)).append (dig_by _ _)).append (dig_by _ _))
def encTx (t : TTx) : List Int := encB (encT t t.Proof)
def encBk (b : TBlock) : List Int := hdrS b ++ b.Txs.flatMap encTx
def namS (b : TBlock) : List Int := hdrS b ++ (b.Txs.map idS).flatMap (dig 8)
def idB (b : TBlock) : Int := if validB b = 0 then hashB 15 (namS b) else 0
def zeroB : TBlock := ⟨0, 0, 0, 0, 0, []⟩
structure MN where
  b : TBlock
  ok : Bool
def mineN : Nat → TBlock → MN
  | 0, _ => ⟨zeroB, false⟩
  | k + 1, b => if Int.tmod (hashB 15 (namS b)) b.Work = 0 then ⟨b, true⟩ else if b.Nonce = 18446744073709551615 then ⟨zeroB, false⟩ else mineN k ⟨b.Parent, b.Height, b.Miner, b.Work, b.Nonce + 1, b.Txs⟩
def mineS (b : TBlock) (k : Int) : MN := if k ≤ 0 ∨ validB b ≠ 0 then ⟨zeroB, false⟩ else mineN k.toNat b
def sameB (a b : TBlock) : Bool := decide (a.Parent = b.Parent ∧ a.Height = b.Height ∧ a.Miner = b.Miner ∧ a.Work = b.Work ∧ a.Nonce = b.Nonce ∧ a.Txs.length = b.Txs.length ∧ ∀ i : Nat, i < a.Txs.length → sameT (ix a.Txs (i : Int)) (ix b.Txs (i : Int)) = true)
def smallBk (b : TBlock) : Bool := decide (b.Txs.length ≤ 6) && b.Txs.all (fun t => smallB t 100)
theorem kt5 {b : TBlock} (h : smallBk b = true) : b.Txs.length ≤ 6 ∧ ∀ t ∈ b.Txs, smallB t 100 = true := by
  unfold smallBk at h
  simp only [Bool.and_eq_true, decide_eq_true_eq, List.all_eq_true] at h
  exact h
theorem k1l6 (label : Int) (l : List Int) : U64 (hashB label l) := k1kw _ _
theorem idS_u64 (t : TTx) : U64 (idS t) := by
  unfold idS
  split
  · exact k1l6 _ _
  · omega
theorem k1ef {t : TTx} (h : validE t = 0) : (encTx t).length ≤ 1048884 := by
  have v := (k71 t).1 h
  have := v.enc_len t.Proof
  have := v.pl
  unfold encTx
  rw [kl4]
  omega
theorem kvx : ∀ (l : List TTx), (∀ x ∈ l, validE x = 0) → (l.flatMap encTx).length ≤ 1048884 * l.length
  | [], _ => by simp
  | x :: l, h => by
    have h1 := kvx l (fun y hy => h y (by simp [hy]))
    have h2 := k1ef (h x (by simp))
    rw [List.flatMap_cons, List.length_append, List.length_cons]
    omega
theorem VT.bl {t : TTx} (h : VT t) (r : TR t) : TR t ∧ TL t ∧ t.Outs.length ≤ 1048576 ∧ ∀ x ∈ t.Outs, x.Cipher.length ≤ 1024 := ⟨r, h.tl, by have := h.ol; omega, fun x hx => by have := (h.o x hx).l; omega⟩
end Go.Proofs.Ytnmakgfmimagmaa
namespace Go.Proofs.Ytnmakgfmimagmaa
open Go Go.Bv Go.Cv Go.Md Go.RowKit
structure EB (x : TBlock) (b : List Int) : Prop where
  r : BR x
  v : VB x
  e : encBk x = b
open Classical in
theorem VB.td {b : TBlock} (h : VB b) (r : ∀ x ∈ b.Txs, TR x) : ∀ x ∈ b.Txs, TD x := fun x hx => Enc.td (b := encT x x.Proof) ⟨r x hx, (k71 x).1 (h.t x hx), rfl⟩
end Go.Proofs.Ytnmakgfmimagmaa
namespace Go.Proofs.Ytnmakgfmimagmaa
open Go Go.Bv Go.Cv Go.Md Go.RowKit
structure RB where
  l : List Int
  b : List Int
  f : Bool
structure RN where
  n : Int
  b : List Int
  f : Bool
def tkB (b : List Int) (f : Bool) (k : Int) : RB := if f = true ∨ (b.length : Int) < k then ⟨[], b, true⟩ else ⟨b.take k.toNat, b.drop k.toNat, false⟩
section
variable {b r : List Int} {f : Bool} {k m n : Int}
end
end Go.Proofs.Ytnmakgfmimagmaa
namespace Go.Proofs.Ytnmakgfmimagmaa
open Go Go.Bv Go.Cv Go.Md Go.RowKit
theorem k1az : ∀ (l m : List Int), l.length = m.length → Us l → Us m → l.flatMap (dig 8) = m.flatMap (dig 8) → l = m
  | [], [], _, _, _, _ => rfl
  | [], _ :: _, h, _, _, _ => by simp at h
  | _ :: _, [], h, _, _, _ => by simp at h
  | x :: l, y :: m, h, hl, hm, e => by
    rw [List.flatMap_cons, List.flatMap_cons] at e
    have e1 := List.append_inj e (by simp)
    have d1 := dig_inj (k := 8) (hl x (by simp)) (hm y (by simp)) e1.1
    rw [d1, k1az l m (by simpa using h) (fun z hz => hl z (by simp [hz])) (fun z hz => hm z (by simp [hz])) e1.2]
theorem idS_us (l : List TTx) : Us (l.map idS) := fun x hx => by
  obtain ⟨t, _, rfl⟩ := List.mem_map.1 hx
  exact idS_u64 t
theorem k1ms {x y : TBlock} (hx : BR x) (vx : VB x) (hy : BR y) (vy : VB y) (h : namS x = namS y) :
    x.Parent = y.Parent ∧ x.Height = y.Height ∧ x.Miner = y.Miner ∧ x.Work = y.Work ∧ x.Nonce = y.Nonce ∧ x.Txs.length = y.Txs.length ∧ x.Txs.map idS = y.Txs.map idS := by
  unfold namS at h
  have e0 := List.append_inj h (by rw [kcx, kcx])
  have h := e0.1
  unfold hdrS at h
  simp only [List.append_assoc] at h
  have x0 := vx.h
  have y0 := vy.h
  have a0 := x0.h0
  have a1 := x0.h1
  have a2 := x0.l
  have c0 := y0.h0
  have c1 := y0.h1
  have c2 := y0.l
  rw [len4_in (by omega), len4_in (by omega), len4_in (by omega), len4_in (by omega)] at h
  have e1 := List.append_inj h (by simp)
  have e2 := List.append_inj e1.2 (by simp)
  have e3 := List.append_inj e2.2 (by simp)
  have e4 := List.append_inj e3.2 (by simp)
  have e5 := List.append_inj e4.2 (by simp)
  have d1 := dig_inj (k := 8) hx.p hy.p e1.1
  have d2 := dig_inj (k := 4) ⟨by omega, by omega⟩ ⟨by omega, by omega⟩ e2.1
  have d3 := dig_inj (k := 8) hx.m hy.m e3.1
  have d4 := dig_inj (k := 8) hx.w hy.w e4.1
  have d5 := dig_inj (k := 8) hx.n hy.n e5.1
  have d6 := dig_inj (k := 4) ⟨by omega, by omega⟩ ⟨by omega, by omega⟩ e5.2
  have d7 : x.Txs.length = y.Txs.length := by omega
  exact ⟨d1, d2, d3, d4, d5, d7, k1az _ _ (by simp [d7]) (idS_us _) (idS_us _) e0.2⟩
theorem namS_by (x : TBlock) : By (namS x) := (hdrS_by x).append (k13z _)
theorem kqs (x : TBlock) : (namS x).length = 40 + 8 * x.Txs.length := by
  unfold namS
  rw [List.length_append, kcx, k63, List.length_map]
def clS (label : Int) (x y : List Int) : Bool := !decide (x = y) && (hashB label x == hashB label y)
theorem VB.vt {x : TBlock} (h : VB x) {t : TTx} (ht : t ∈ x.Txs) : VT t := (k71 t).1 (h.t t ht)
theorem encT_le {t : TTx} (h : VT t) : (encT t t.Proof).length ≤ 1099511627775 := by
  have h1 := h.enc_len t.Proof
  have h2 := h.pl
  omega
end Go.Proofs.Ytnmakgfmimagmaa
namespace Go.Proofs.Ytnmakgfmimagmaa
open Go Go.Bv Go.Cv Go.Md Go.RowKit
theorem kyc : ∀ (q n : Nat) (l m : List Int), l.length = 7 * q → l.length + m.length ≤ n → packN n (l ++ m) = packN n l ++ packN n m
  | 0, n, l, m, h, _ => by
    have : l = [] := List.eq_nil_of_length_eq_zero (by omega)
    subst this
    have : packN n [] = [] := by cases n <;> rfl
    rw [this]; rfl
  | q + 1, n, l, m, h, hn => by
    have hl : l ≠ [] := by rintro rfl; simp at h
    have hlm : l ++ m ≠ [] := by simp [hl]
    rw [kmv n l (by omega) hl, kmv n (l ++ m) (by simp; omega) hlm]
    have e1 : (l ++ m).take 7 = l.take 7 := by rw [List.take_append_of_le_length (by omega)]
    have e2 : (l ++ m).drop 7 = l.drop 7 ++ m := by rw [List.drop_append_of_le_length (by omega)]
    rw [e1, e2, kyc q n (l.drop 7) m (by simp; omega) (by simp; omega)]
    rfl
theorem k1ai {n : Nat} {l : List Int} (h0 : l ≠ []) (h7 : l.length ≤ 7) (hn : l.length ≤ n) : packN n l = [val l] := by
  rw [kmv n l hn h0, List.take_of_length_le h7, List.drop_eq_nil_of_le h7]
  cases n <;> rfl
def pkF (p : List Int) (i : Nat) : List Int := packN p.length (p.take (7 * (i / 7)))
def pkV (p : List Int) (i : Nat) : Int := val ((p.drop (7 * (i / 7))).take (i % 7))
def pkI (p : List Int) (i : Nat) : List Int := if i % 7 = 0 then pkF p i else pkF p i ++ [pkV p i]
theorem k1hq {p : List Int} {i : Nat} (h : i < p.length) (hr : (i + 1) % 7 ≠ 0) : pkF p (i + 1) = pkF p i ∧ pkV p (i + 1) = pkV p i + 256 ^ (i % 7) * p[i] := by
  have e1 : (i + 1) / 7 = i / 7 := by omega
  have e2 : (i + 1) % 7 = i % 7 + 1 := by omega
  refine ⟨by unfold pkF; rw [e1], ?_⟩
  unfold pkV
  rw [e1, e2]
  have hlt : i % 7 < (p.drop (7 * (i / 7))).length := by rw [List.length_drop]; omega
  have e4 : (p.drop (7 * (i / 7)))[i % 7] = p[i] := by
    rw [List.getElem_drop]
    congr 1
    omega
  rw [List.take_succ_eq_append_getElem hlt, ku9, List.length_take, Nat.min_eq_left (by omega), e4]
theorem k1n8 {p : List Int} {i : Nat} (h : i < p.length) (hr : (i + 1) % 7 = 0) : pkF p (i + 1) = pkF p i ++ [pkV p i + 256 ^ (i % 7) * p[i]] := by
  have e1 : (i + 1) / 7 = i / 7 + 1 := by omega
  have e2 : i % 7 = 6 := by omega
  unfold pkF pkV
  rw [e1, show 7 * (i / 7 + 1) = 7 * (i / 7) + 7 by omega, List.take_add]
  have hl1 : (p.take (7 * (i / 7))).length = 7 * (i / 7) := by rw [List.length_take]; omega
  have hl2 : ((p.drop (7 * (i / 7))).take 7).length = 7 := by rw [List.length_take, List.length_drop]; omega
  rw [kyc (i / 7) p.length _ _ hl1 (by rw [hl1, hl2]; omega), k1ai (l := (p.drop (7 * (i / 7))).take 7) (by intro h; rw [h] at hl2; simp at hl2) (by omega) (by omega)]
  have hlt : 6 < (p.drop (7 * (i / 7))).length := by rw [List.length_drop]; omega
  have e4 : (p.drop (7 * (i / 7)))[6] = p[i] := by
    rw [List.getElem_drop]
    congr 1
    omega
  rw [List.take_succ_eq_append_getElem hlt, ku9, List.length_take, Nat.min_eq_left (by omega), e4, e2]
theorem k1m4 {p : List Int} {i : Nat} (h : i < p.length) : pkI p (i + 1) = pkF p i ++ [(if i % 7 = 0 then 0 else pkV p i) + 256 ^ (i % 7) * p[i]] := by
  have hz : i % 7 = 0 → pkV p i = 0 := fun h0 => by unfold pkV; rw [h0]; rfl
  have e : (if i % 7 = 0 then (0 : Int) else pkV p i) = pkV p i := by split <;> simp_all
  rw [e]
  unfold pkI
  by_cases hr : (i + 1) % 7 = 0
  · rw [if_pos hr, k1n8 h hr]
  · rw [if_neg hr, (k1hq h hr).1, (k1hq h hr).2]
theorem k1nc (p : List Int) : pkI p 0 = [] := by
  show packN p.length [] = []
  cases p.length <;> rfl
theorem k1mc (p : List Int) : pkI p p.length = packN p.length p := by
  unfold pkI
  split
  · rename_i h
    unfold pkF
    rw [List.take_of_length_le (by omega)]
  · rename_i h
    unfold pkF pkV
    have hl1 : (p.take (7 * (p.length / 7))).length = 7 * (p.length / 7) := by rw [List.length_take]; omega
    have hl2 : (p.drop (7 * (p.length / 7))).length = p.length % 7 := by rw [List.length_drop]; omega
    have h1 := kyc (p.length / 7) p.length (p.take (7 * (p.length / 7))) (p.drop (7 * (p.length / 7))) hl1 (by rw [hl1, hl2]; omega)
    rw [List.take_append_drop] at h1
    rw [h1, k1ai (l := p.drop (7 * (p.length / 7))) (by intro h2; rw [h2] at hl2; simp at hl2; omega) (by omega) (by omega), List.take_of_length_le (l := p.drop (7 * (p.length / 7))) (by omega)]
theorem k1lk {p : List Int} (hp : By p) (i : Nat) : 0 ≤ pkV p i ∧ pkV p i < 256 ^ (i % 7) := by
  have h := kpz ((p.drop (7 * (i / 7))).take (i % 7)) ((hp.drop _).take _)
  refine ⟨h.1, Int.lt_of_lt_of_le h.2 (kpj ?_)⟩
  rw [List.length_take]; omega
theorem k164 (p : List Int) (i : Nat) : (pkF p i).length ≤ p.length := khz _ _
theorem k1jm (p : List Int) (i : Nat) : (pkI p i).length ≤ p.length + 1 := by
  unfold pkI
  have := k164 p i
  split
  · omega
  · simp; omega
theorem k1m0 (l : List Int) (a b : Int) : (l ++ [a]).set l.length b = l ++ [b] := by simp
end Go.Proofs.Ytnmakgfmimagmaa
namespace Go.Proofs.Ytnmakgfmimagmaa
open Go Go.Bv Go.Cv Go.Md Go.RowKit
theorem kz7.tr {t : TTx} (h : kz7 t) : TR t ∧ t.Outs.length ≤ 9223372036854775807 :=
  ⟨⟨h.Anchor, h.Marks.2, fun x hx => let y := h.Outs.2 x hx; ⟨y.Commit, y.Point_a0, y.Point_a1, y.Cipher.2⟩, h.Deposit, h.Withdraw, h.Fee, h.Account, h.Nonce, by have := h.Expiry; omega, h.Proof.2⟩, h.Outs.1⟩
end Go.Proofs.Ytnmakgfmimagmaa
namespace Go.Proofs.Ytnmakgfmimagmaa
open Go Go.Bv Go.Cv Go.Md Go.RowKit
theorem k8v.tr {b : TBlock} (h : k8v b) : ∀ x ∈ b.Txs, TR x ∧ x.Outs.length ≤ 9223372036854775807 := fun x hx => (h.Txs.2 x hx).tr
theorem k8v.br {b : TBlock} (h : k8v b) : BR b := ⟨h.Parent, h.Miner, h.Work, h.Nonce, by have := h.Height; omega, fun x hx => (h.tr x hx).1⟩
theorem k14v {p0 : TBlock} (h0 : k8v p0) : BR p0 ∧ ∀ x ∈ p0.Txs, x.Outs.length ≤ 9223372036854775807 := ⟨h0.br, fun x hx => (h0.tr x hx).2⟩
theorem kz5 {p0 p1 : TBlock} (h0 : k8v p0) (h1 : k8v p1) : (BR p0 ∧ ∀ x ∈ p0.Txs, x.Outs.length ≤ 9223372036854775807) ∧ BR p1 ∧ ∀ x ∈ p1.Txs, x.Outs.length ≤ 9223372036854775807 := ⟨⟨h0.br, fun x hx => (h0.tr x hx).2⟩, h1.br, fun x hx => (h1.tr x hx).2⟩
end Go.Proofs.Ytnmakgfmimagmaa
namespace Go.Proofs.Ytnmakgfmimagmaa
open Go Go.Bv Go.Cv Go.Md Go.RowKit
def kx : Con TB.den := Con.mk0 60 [.agg [.d (.int .u64), .d (.sl (.int .u64)), .d (.sl (.st 0)), .d (.int .u64), .d (.int .u64), .d (.int .u64), .d (.int .u64), .d (.int .u64), .d (.int .i64), .d (.sl (.int .u8))]] [] (.one (.one (.d (.bool)))) []
abbrev kmc := HL TB.den (hsT kx.ins (hsOs kx.pre))
abbrev kam := HL TB.den (hsV kx.res (hsOs kx.post))
noncomputable def k7e : Cx TB := ⟨inf, [], [], 4, []⟩
noncomputable def kbx : Code := Try.f60.body.getD .skip
noncomputable def kdh : List ResultVar := Try.f60.results.toList
noncomputable def klj (o : kam) : An TB := .no
noncomputable def kc8 (x : kmc) (o : kam) : Prop := WPh TB k7e 47 0 kbx (klj o) (kx.st TB x) (retTQ TB k7e kx kdh o)
set_option maxRecDepth 100000 in
theorem kwi (o : kam) : OblH TB k7e 47 0 kbx (klj o) (retTQ TB k7e kx kdh o) :=
  OblH.of_eq (X := (True ∧ ((True ∧ ((True ∧ True) ∧ True)) ∧ ((True ∧ ((True ∧ True) ∧ True)) ∧ ((True ∧ ((True ∧ True) ∧ True)) ∧ ((True ∧ ((True ∧ True) ∧ True)) ∧ (True ∧ True))))))) (by kernel_rfl) ⟨trivial, ⟨⟨trivial, ⟨⟨trivial, trivial⟩, trivial⟩⟩, ⟨⟨trivial, ⟨⟨trivial, trivial⟩, trivial⟩⟩, ⟨⟨trivial, ⟨⟨trivial, trivial⟩, trivial⟩⟩, ⟨⟨trivial, ⟨⟨trivial, trivial⟩, trivial⟩⟩, ⟨trivial, trivial⟩⟩⟩⟩⟩⟩
set_option maxRecDepth 100000 in
theorem kwg {x : kmc} {o : kam} (h : kc8 x o) : SoundH Try.prog kx.f ((kx.args idf x).map (er TB)) ((kx.obs idf x).map (erO TB)) (er TB (kx.val idf o)) ((kx.ops idf o).map (erO TB)) :=
  Con.soundH (c := kx) (C := k7e) TBok ⟨inf_ok, all_nil, all_nil⟩ mix Try.func60 (show Try.f60.body = some kbx by kernel_rfl) (show Try.f60.ntmps = 47 by kernel_rfl) (show Try.f60.results.toList = kdh by kernel_rfl) rfl h (kwi o)
set_option maxRecDepth 100000 in
theorem kxb {p0 : TTx} {r0 : Bool} (h :
((decide (4294967295 < p0.Deposit) = true →
 false = r0) ∧
(decide (4294967295 < p0.Deposit) = false →
(decide (4294967295 < p0.Withdraw) = true →
 false = r0) ∧
(decide (4294967295 < p0.Withdraw) = false →
(decide (4294967295 < p0.Fee) = true →
 false = r0) ∧
(decide (4294967295 < p0.Fee) = false →
 let v1 : Bool := decide (18446744069414584321 ≤ p0.Account)
(v1 = true →
 false = r0) ∧
(v1 = false →
(decide (18446744069414584321 ≤ p0.Nonce) = true →
 false = r0) ∧
(decide (18446744069414584321 ≤ p0.Nonce) = false →
(decide (0 < p0.Deposit) = true →
(p0.Withdraw == 0) = r0) ∧
(decide (0 < p0.Deposit) = false →
(((p0.Marks.length : Int) == 0) = true →
 false = r0) ∧
(((p0.Marks.length : Int) == 0) = false →
((p0.Nonce != 0) = true →
 false = r0) ∧
((p0.Nonce != 0) = false →
(decide (0 < p0.Withdraw) = true →
 true = r0) ∧
(decide (0 < p0.Withdraw) = false →
(p0.Account == 0) = r0))))))))))) : kc8 (p0.Anchor, p0.Marks, p0.Outs, p0.Deposit, p0.Withdraw, p0.Fee, p0.Account, p0.Nonce, p0.Expiry, p0.Proof, ()) (r0, ()) := WPh.of_eq (by kernel_rfl) h
theorem bd60 : Callable Try.prog 60 := ⟨by rw [Try.func60]; kernel_rfl, by rw [Try.func60]; show some _ ≠ some _; decide⟩
theorem kta (p0 : TTx) : kc8 (p0.Anchor, p0.Marks, p0.Outs, p0.Deposit, p0.Withdraw, p0.Fee, p0.Account, p0.Nonce, p0.Expiry, p0.Proof, ()) (((vAmounts p0) : Bool), ()) := by
  refine kxb ?_
  unfold vAmounts
  try simp only []
  repeat' (apply And.intro <;> intro h)
  all_goals simp only [decide_eq_true_eq, decide_eq_false_iff_not, beq_iff_eq, bne_iff_ne, Bool.not_eq_true, beq_eq_false_iff_ne, bne_eq_false_iff_eq, List.isEmpty_iff, Int.natCast_eq_zero, List.length_eq_zero_iff] at *
  all_goals simp [*]
  all_goals grind
noncomputable def kiz : Con TB.den := kx.totR fun x => ((fun (p0 : TTx) => ((vAmounts p0) : Bool)) (TTx.mk x.1 x.2.1 x.2.2.1 x.2.2.2.1 x.2.2.2.2.1 x.2.2.2.2.2.1 x.2.2.2.2.2.2.1 x.2.2.2.2.2.2.2.1 x.2.2.2.2.2.2.2.2.1 x.2.2.2.2.2.2.2.2.2.1), ())
theorem kxy : kiz.Ok Try.prog TB := Con.ok_tot kx bd60 fun x => kwg (kta (TTx.mk x.1 x.2.1 x.2.2.1 x.2.2.2.1 x.2.2.2.2.1 x.2.2.2.2.2.1 x.2.2.2.2.2.2.1 x.2.2.2.2.2.2.2.1 x.2.2.2.2.2.2.2.2.1 x.2.2.2.2.2.2.2.2.2.1))
end Go.Proofs.Ytnmakgfmimagmaa
namespace Go.Proofs.Ytnmakgfmimagmaa
open Go Go.Bv Go.Cv Go.Md Go.RowKit
def k1a : Con TB.den := Con.mk0 91 [.one (.d (.sl (.int .u64))), .one (.d (.int .u64))] [] (.one (.one (.d (.int .i64)))) []
abbrev ksd := HL TB.den (hsT k1a.ins (hsOs k1a.pre))
abbrev k5y := HL TB.den (hsV k1a.res (hsOs k1a.post))
noncomputable def k4v : Cx TB := ⟨inf, [], [], 4, []⟩
noncomputable def k7z : Code := Try.f91.body.getD .skip
noncomputable def k9o : List ResultVar := Try.f91.results.toList
noncomputable def k14c (o : k5y) : Exit → TSt TB.den → Prop := thenT TB (fun s => ghs TB [] s fun s => WP TB k4v 19 0 (cB (cB k7z)) .no s (retTQ TB k4v k1a k9o o)) (retTQ TB k4v k1a k9o o)
def k6a : Tm := ⟨[], [], [0, 1, 7, 8], [.one (.d (.sl (.int .u64))), .one (.d (.int .u64)), .one (.d (.int .i64)), .one (.d (.int .i64))], 0⟩
noncomputable def k16e (o : k5y) (nx1 : HL TB.den k6a.hs → Prop) : Exit → TSt TB.den → Prop := thenT TB (fun s => k6a.mat TB 0 s nx1) (blockT TB 0 (k14c o))
noncomputable def k9u (o : k5y) (nx1 : HL TB.den k6a.hs → Prop) (i : HL TB.den k6a.hs) : Prop := WP TB k4v 19 0 (cA (cA (cB (cA (cB k7z))))) .no (k6a.fill TB i) (k16e o nx1)
noncomputable def k15o (o : k5y) : An TB := .nd [] .no [] (.lp [] k6a (k9u o) fun nx1 => .no)
noncomputable def kpm (o : k5y) : An TB := .nd [] .no [] (.nd [] (k15o o) [] .no)
noncomputable def kfs (x : ksd) (o : k5y) : Prop := WPh TB k4v 19 0 k7z (kpm o) (k1a.st TB x) (retTQ TB k4v k1a k9o o)
set_option maxRecDepth 100000 in
theorem k140 (o : k5y) : OblH TB k4v 19 0 k7z (kpm o) (retTQ TB k4v k1a k9o o) :=
  OblH.of_eq (X := (True ∧ ((True ∧ ((∀ nx i, (k9u o) nx i = (k9u o) nx i) ∧ ∀ nx1 : HL TB.den k6a.hs → Prop, (True ∧ ((True ∧ True) ∧ ((True ∧ (True ∧ ((True ∧ True) ∧ True))) ∧ True))))) ∧ (True ∧ True)))) (by kernel_rfl) ⟨trivial, ⟨⟨trivial, ⟨fun _ _ => rfl, fun _ => ⟨trivial, ⟨⟨trivial, trivial⟩, ⟨⟨trivial, ⟨trivial, ⟨⟨trivial, trivial⟩, trivial⟩⟩⟩, trivial⟩⟩⟩⟩⟩, ⟨trivial, trivial⟩⟩⟩
set_option maxRecDepth 100000 in
theorem k13r {x : ksd} {o : k5y} (h : kfs x o) : SoundH Try.prog k1a.f ((k1a.args idf x).map (er TB)) ((k1a.obs idf x).map (erO TB)) (er TB (k1a.val idf o)) ((k1a.ops idf o).map (erO TB)) :=
  Con.soundH (c := k1a) (C := k4v) TBok ⟨inf_ok, all_nil, all_nil⟩ mix Try.func91 (show Try.f91.body = some k7z by kernel_rfl) (show Try.f91.ntmps = 19 by kernel_rfl) (show Try.f91.results.toList = k9o by kernel_rfl) rfl h (k140 o)
set_option maxRecDepth 100000 in
theorem k15f {p0 : List Int} {p1 : Int} {r0 : Int} (h :
(Md.Loop (p0, p1, ((p0.length : Int) : Int), (0 : Int), ()) (k9u (r0, ())))) : kfs (p0, p1, ()) (r0, ()) := WPh.of_eq (by kernel_rfl) h
def kpq (r0 : Int) (k1 : Int → Prop) (s0 : List Int) (s1 : Int) (s7 : Int) (s8 : Int) : Prop :=
(decide (s8 < s7) = true →
(0 ≤ s8) ∧ s8 < (s0.length : Int) ∧ ((s1 == (ix s0 s8)) = true →
 s8 = r0) ∧
((s1 == (ix s0 s8)) = false →
 k1 (IntKind.i64.wrap (s8 + 1) : Int))) ∧
(decide (s8 < s7) = false →
(-1) = r0)
set_option maxRecDepth 100000 in
theorem k123 {r0 : Int} {s0 : List Int} {s1 : Int} {s7 : Int} {s8 : Int} (inv : Int → Prop) (μ : Int → Nat) (h0 : inv s8) (hs : ∀ (s8 : Int), inv s8 → kpq r0 (fun s8q => inv s8q ∧ μ s8q < μ s8) s0 s1 s7 s8) : Md.Loop (s0, s1, s7, s8, ()) (k9u (r0, ())) :=
  ⟨⟨fun s : (List Int) × Int × Int × Int × Unit => (s.1 = s0 ∧ s.2.1 = s1 ∧ s.2.2.1 = s7) ∧ inv s.2.2.2.1, fun s : (List Int) × Int × Int × Int × Unit => μ s.2.2.2.1, ⟨⟨rfl, rfl, rfl⟩, h0⟩, fun (s0p, s1p, s7p, s8p, ()) ⟨⟨eq0, eq1, eq2⟩, hi⟩ => by
    have eq0 : s0p = s0 := eq0; subst s0p; have eq1 : s1p = s1 := eq1; subst s1p; have eq2 : s7p = s7 := eq2; subst s7p; exact mpr_of (by kernel_rfl) ((congrArg (fun k => kpq r0 k s0 s1 s7 s8p) (lpk1 (⟨rfl, rfl, rfl⟩ : s0 = s0 ∧ s1 = s1 ∧ s7 = s7) inv (fun s8q => μ s8q < μ s8p))).mpr (hs s8p hi))⟩⟩
theorem bd91 : Callable Try.prog 91 := ⟨by rw [Try.func91]; kernel_rfl, by rw [Try.func91]; show some _ ≠ some _; decide⟩
theorem kzb (p0 : List Int) (p1 : Int) (h : p0.length ≤ 9223372036854775807) : kfs (p0, p1, ()) (((idxI p0 p1) : Int), ()) := by
  refine k15f (k123 (fun i => 0 ≤ i ∧ i ≤ p0.length ∧ p1 ∉ p0.take i.toNat) (fun i => (p0.length - i).toNat) ⟨by omega, by omega, by simp⟩ ?_)
  rintro i ⟨g0, g1, g2⟩
  refine ⟨fun h => ?_, fun h => ?_⟩
  · have h := of_decide_eq_true h
    refine ⟨g0, h, fun e => ?_, fun e => ?_⟩
    · have e : p1 = ix p0 i := by simpa using e
      unfold idxI
      rw [if_pos (by rw [e]; exact ix_mem p0 i g0 h)]
      have : p0.idxOf p1 = i.toNat := by
        conv => lhs; rw [← List.take_append_drop i.toNat p0]
        rw [List.idxOf_append, if_neg g2, drop_ix p0 i g0 h, ← e, List.idxOf_cons_self, List.length_take]
        omega
      rw [this]
      omega
    · have e : ¬ p1 = ix p0 i := by simpa using e
      rw [inc i p0.length g0 h (by omega)]
      refine ⟨⟨by omega, by omega, ?_⟩, by omega⟩
      rw [ka p0 i g0 h]
      simp only [List.mem_append, List.mem_singleton]
      exact fun hh => hh.elim g2 e
  · have h := of_decide_eq_false h
    rw [List.take_of_length_le (by omega)] at g2
    unfold idxI
    rw [if_neg g2]
noncomputable def kof : Con TB.den := k1a.fnR (fun x => (fun (p0 : List Int) (p1 : Int) => p0.length ≤ 9223372036854775807) x.1 x.2.1) fun x => ((fun (p0 : List Int) (p1 : Int) => ((idxI p0 p1) : Int)) x.1 x.2.1, ())
theorem k158 : kof.Ok Try.prog TB := Con.ok_fn k1a bd91 fun x h => k13r (kzb x.1 x.2.1 h)
end Go.Proofs.Ytnmakgfmimagmaa
namespace Go.Proofs.Ytnmakgfmimagmaa
open Go Go.Bv Go.Cv Go.Md Go.RowKit
def k12 : Con TB.den := Con.mk0 83 [.one (.d (.sl (.int .u64))), .one (.d (.int .u64))] [] (.one (.one (.d (.bool)))) []
abbrev kmh := HL TB.den (hsT k12.ins (hsOs k12.pre))
abbrev kal := HL TB.den (hsV k12.res (hsOs k12.post))
noncomputable def k7a : Cx TB := ⟨inf, [kof], [], 4, []⟩
noncomputable def kc4 : Code := Try.f83.body.getD .skip
noncomputable def keg : List ResultVar := Try.f83.results.toList
noncomputable def kli (o : kal) : An TB := .no
noncomputable def kcb (x : kmh) (o : kal) : Prop := WPh TB k7a 9 0 kc4 (kli o) (k12.st TB x) (retTQ TB k7a k12 keg o)
set_option maxRecDepth 100000 in
theorem kw3 (o : kal) : OblH TB k7a 9 0 kc4 (kli o) (retTQ TB k7a k12 keg o) :=
  OblH.of_eq (X := (True ∧ (True ∧ True))) (by kernel_rfl) ⟨trivial, ⟨trivial, trivial⟩⟩
set_option maxRecDepth 100000 in
theorem kwd {x : kmh} {o : kal} (h : kcb x o) : SoundH Try.prog k12.f ((k12.args idf x).map (er TB)) ((k12.obs idf x).map (erO TB)) (er TB (k12.val idf o)) ((k12.ops idf o).map (erO TB)) :=
  Con.soundH (c := k12) (C := k7a) TBok ⟨inf_ok, (all_cons k158 all_nil), all_nil⟩ mix Try.func83 (show Try.f83.body = some kc4 by kernel_rfl) (show Try.f83.ntmps = 9 by kernel_rfl) (show Try.f83.results.toList = keg by kernel_rfl) rfl h (kw3 o)
set_option maxRecDepth 100000 in
theorem kx6 {p0 : List Int} {p1 : Int} {r0 : Bool} (h :
((p0.length ≤ 9223372036854775807) ∧ decide (0 ≤ (idxI p0 p1)) = r0)) : kcb (p0, p1, ()) (r0, ()) := WPh.of_eq (by kernel_rfl) h
theorem bd83 : Callable Try.prog 83 := ⟨by rw [Try.func83]; kernel_rfl, by rw [Try.func83]; show some _ ≠ some _; decide⟩
theorem ktb (p0 : List Int) (p1 : Int) (h : p0.length ≤ 9223372036854775807) : kcb (p0, p1, ()) (((decide (p1 ∈ p0)) : Bool), ()) := by
  refine kx6 ⟨h, ?_⟩
  unfold idxI
  by_cases hm : p1 ∈ p0
  · simp [hm]
  · simp [hm]
noncomputable def kiw : Con TB.den := k12.fnR (fun x => (fun (p0 : List Int) (p1 : Int) => p0.length ≤ 9223372036854775807) x.1 x.2.1) fun x => ((fun (p0 : List Int) (p1 : Int) => ((decide (p1 ∈ p0)) : Bool)) x.1 x.2.1, ())
theorem kyh : kiw.Ok Try.prog TB := Con.ok_fn k12 bd83 fun x h => kwd (ktb x.1 x.2.1 h)
end Go.Proofs.Ytnmakgfmimagmaa
namespace Go.Proofs.Ytnmakgfmimagmaa
open Go Go.Bv Go.Cv Go.Md Go.RowKit
def ky : Con TB.den := Con.mk0 58 [.one (.d (.sl (.int .u64)))] [] (.one (.one (.d (.bool)))) []
abbrev kpu := HL TB.den (hsT ky.ins (hsOs ky.pre))
abbrev k5h := HL TB.den (hsV ky.res (hsOs ky.post))
noncomputable def k4c : Cx TB := ⟨inf, [kiw], [], 4, []⟩
noncomputable def k7c : Code := Try.f58.body.getD .skip
noncomputable def k95 : List ResultVar := Try.f58.results.toList
noncomputable def k12i (o : k5h) : Exit → TSt TB.den → Prop := thenT TB (fun s => ghs TB [] s fun s => WP TB k4c 25 0 (cB (cB (cB k7c))) .no s (retTQ TB k4c ky k95 o)) (retTQ TB k4c ky k95 o)
def k5u : Tm := ⟨[], [], [0, 8, 9, 10], [.one (.d (.sl (.int .u64))), .one (.d (.sl (.int .u64))), .one (.d (.int .i64)), .one (.d (.int .i64))], 0⟩
noncomputable def k13b (o : k5h) (nx1 : HL TB.den k5u.hs → Prop) : Exit → TSt TB.den → Prop := thenT TB (fun s => k5u.mat TB 0 s nx1) (blockT TB 0 (k12i o))
noncomputable def k99 (o : k5h) (nx1 : HL TB.den k5u.hs → Prop) (i : HL TB.den k5u.hs) : Prop := WP TB k4c 25 0 (cA (cA (cB (cA (cB (cB k7c)))))) .no (k5u.fill TB i) (k13b o nx1)
noncomputable def k12t (o : k5h) : An TB := .nd [] .no [] (.lp [] k5u (k99 o) fun nx1 => .no)
noncomputable def kod (o : k5h) : An TB := .nd [] .no [] (.nd [] .no [] (.nd [] (k12t o) [] .no))
noncomputable def kec (x : kpu) (o : k5h) : Prop := WPh TB k4c 25 0 k7c (kod o) (ky.st TB x) (retTQ TB k4c ky k95 o)
set_option maxRecDepth 100000 in
theorem k108 (o : k5h) : OblH TB k4c 25 0 k7c (kod o) (retTQ TB k4c ky k95 o) :=
  OblH.of_eq (X := (True ∧ ((True ∧ ((True ∧ True) ∧ True)) ∧ ((True ∧ ((∀ nx i, (k99 o) nx i = (k99 o) nx i) ∧ ∀ nx1 : HL TB.den k5u.hs → Prop, (True ∧ ((True ∧ True) ∧ ((True ∧ (True ∧ ((True ∧ True) ∧ True))) ∧ True))))) ∧ (True ∧ True))))) (by kernel_rfl) ⟨trivial, ⟨⟨trivial, ⟨⟨trivial, trivial⟩, trivial⟩⟩, ⟨⟨trivial, ⟨fun _ _ => rfl, fun _ => ⟨trivial, ⟨⟨trivial, trivial⟩, ⟨⟨trivial, ⟨trivial, ⟨⟨trivial, trivial⟩, trivial⟩⟩⟩, trivial⟩⟩⟩⟩⟩, ⟨trivial, trivial⟩⟩⟩⟩
set_option maxRecDepth 100000 in
theorem kzw {x : kpu} {o : k5h} (h : kec x o) : SoundH Try.prog ky.f ((ky.args idf x).map (er TB)) ((ky.obs idf x).map (erO TB)) (er TB (ky.val idf o)) ((ky.ops idf o).map (erO TB)) :=
  Con.soundH (c := ky) (C := k4c) TBok ⟨inf_ok, (all_cons kyh all_nil), all_nil⟩ mix Try.func58 (show Try.f58.body = some k7c by kernel_rfl) (show Try.f58.ntmps = 25 by kernel_rfl) (show Try.f58.results.toList = k95 by kernel_rfl) rfl h (k108 o)
set_option maxRecDepth 100000 in
theorem k13n {p0 : List Int} {r0 : Bool} (h :
((decide (4 < (p0.length : Int)) = true →
 false = r0) ∧
(decide (4 < (p0.length : Int)) = false →
 Md.Loop (p0, p0, ((p0.length : Int) : Int), (0 : Int), ()) (k99 (r0, ()))))) : kec (p0, ()) (r0, ()) := WPh.of_eq (by kernel_rfl) h
def knz (r0 : Bool) (k1 : Int → Prop) (s0 : List Int) (s8 : List Int) (s9 : Int) (s10 : Int) : Prop :=
(decide (s10 < s9) = true →
(0 ≤ s10) ∧ s10 < (s8.length : Int) ∧ let v1 : Bool := decide (18446744069414584321 ≤ (ix s8 s10))
(v1 = true →
 false = r0) ∧
(v1 = false →
(0 ≤ s10) ∧ s10 ≤ (s0.length : Int) ∧ ((s0.take s10.toNat).length ≤ 9223372036854775807) ∧ let r2 : Bool := (decide ((ix s8 s10) ∈ (s0.take s10.toNat)))
(r2 = true →
 false = r0) ∧
(r2 = false →
 k1 (IntKind.i64.wrap (s10 + 1) : Int)))) ∧
(decide (s10 < s9) = false →
 true = r0)
set_option maxRecDepth 100000 in
theorem kzd {r0 : Bool} {s0 : List Int} {s8 : List Int} {s9 : Int} {s10 : Int} (inv : Int → Prop) (μ : Int → Nat) (h0 : inv s10) (hs : ∀ (s10 : Int), inv s10 → knz r0 (fun s10q => inv s10q ∧ μ s10q < μ s10) s0 s8 s9 s10) : Md.Loop (s0, s8, s9, s10, ()) (k99 (r0, ())) :=
  ⟨⟨fun s : (List Int) × (List Int) × Int × Int × Unit => (s.1 = s0 ∧ s.2.1 = s8 ∧ s.2.2.1 = s9) ∧ inv s.2.2.2.1, fun s : (List Int) × (List Int) × Int × Int × Unit => μ s.2.2.2.1, ⟨⟨rfl, rfl, rfl⟩, h0⟩, fun (s0p, s8p, s9p, s10p, ()) ⟨⟨eq0, eq1, eq2⟩, hi⟩ => by
    have eq0 : s0p = s0 := eq0; subst s0p; have eq1 : s8p = s8 := eq1; subst s8p; have eq2 : s9p = s9 := eq2; subst s9p; exact mpr_of (by kernel_rfl) ((congrArg (fun k => knz r0 k s0 s8 s9 s10p) (lpk1 (⟨rfl, rfl, rfl⟩ : s0 = s0 ∧ s8 = s8 ∧ s9 = s9) inv (fun s10q => μ s10q < μ s10p))).mpr (hs s10p hi))⟩⟩
theorem bd58 : Callable Try.prog 58 := ⟨by rw [Try.func58]; kernel_rfl, by rw [Try.func58]; show some _ ≠ some _; decide⟩
theorem kww (p0 : List Int) : kec (p0, ()) (((vMarks p0) : Bool), ()) := by
  refine k13n ⟨fun h => ?_, fun h => ?_⟩
  · have h := of_decide_eq_true h
    unfold vMarks
    rw [decide_eq_false (by omega)]
    rfl
  · have h := of_decide_eq_false h
    refine kzd (fun i => 0 ≤ i ∧ i ≤ p0.length ∧ (∀ x ∈ p0.take i.toNat, x < 18446744069414584321) ∧ (p0.take i.toNat).Nodup) (fun i => (p0.length - i).toNat) ⟨by omega, by omega, by simp, by simp⟩ ?_
    rintro i ⟨g0, g1, g2, g3⟩
    refine ⟨fun hh => ?_, fun hh => ?_⟩
    · have hh := of_decide_eq_true hh
      have hm := ix_mem p0 i g0 hh
      refine ⟨g0, hh, fun e => ?_, fun e => ⟨g0, by omega, by simp; omega, fun e2 => ?_, fun e2 => ?_⟩⟩
      · have e := of_decide_eq_true e
        unfold vMarks
        have : p0.all (fun x => decide (x < 18446744069414584321)) = false := List.all_eq_false.2 ⟨_, hm, by simp; omega⟩
        rw [this]
        simp
      · have e2 := of_decide_eq_true e2
        unfold vMarks
        have : ¬ p0.Nodup := by
          intro hn
          rw [← List.take_append_drop i.toNat p0, drop_ix p0 i g0 hh] at hn
          have := (List.nodup_append.1 hn).2.2 _ e2 _ (List.mem_cons_self ..)
          exact this rfl
        rw [decide_eq_false this]
        simp
      · have e := of_decide_eq_false e
        have e2 := of_decide_eq_false e2
        rw [inc i p0.length g0 hh (by omega)]
        refine ⟨⟨by omega, by omega, ?_, ?_⟩, by omega⟩
        · rw [ka p0 i g0 hh]
          intro x hx
          rcases List.mem_append.1 hx with hx | hx
          · exact g2 x hx
          · have : x = ix p0 i := by simpa using hx
            omega
        · rw [ka p0 i g0 hh]
          refine List.nodup_append.2 ⟨g3, by simp, fun a ha b hb => ?_⟩
          have : b = ix p0 i := by simpa using hb
          rintro rfl
          exact e2 (this ▸ ha)
    · have hh := of_decide_eq_false hh
      rw [List.take_of_length_le (by omega)] at g2 g3
      unfold vMarks
      have : p0.all (fun x => decide (x < 18446744069414584321)) = true := by simpa using g2
      rw [this, decide_eq_true g3, decide_eq_true (by omega)]
      rfl
noncomputable def kmm : Con TB.den := ky.totR fun x => ((fun (p0 : List Int) => ((vMarks p0) : Bool)) x.1, ())
theorem k13j : kmm.Ok Try.prog TB := Con.ok_tot ky bd58 fun x => kzw (kww x.1)
end Go.Proofs.Ytnmakgfmimagmaa
namespace Go.Proofs.Ytnmakgfmimagmaa
open Go Go.Bv Go.Cv Go.Md Go.RowKit
def k2d : Con TB.den := Con.mk0 84 [.agg [.d (.int .u64), .d (.int .u64)]] [] (.one (.one (.d (.bool)))) []
abbrev kvv := HL TB.den (hsT k2d.ins (hsOs k2d.pre))
abbrev kgt := HL TB.den (hsV k2d.res (hsOs k2d.post))
noncomputable def kbj : Cx TB := ⟨inf, [], [], 4, []⟩
noncomputable def kh6 : Code := Try.f84.body.getD .skip
noncomputable def kjt : List ResultVar := Try.f84.results.toList
noncomputable def ksi (o : kgt) : An TB := .no
noncomputable def khb (x : kvv) (o : kgt) : Prop := WPh TB kbj 21 0 kh6 (ksi o) (k2d.st TB x) (retTQ TB kbj k2d kjt o)
set_option maxRecDepth 100000 in
theorem k14r (o : kgt) : OblH TB kbj 21 0 kh6 (ksi o) (retTQ TB kbj k2d kjt o) :=
  OblH.of_eq (X := (True ∧ (True ∧ True))) (by kernel_rfl) ⟨trivial, ⟨trivial, trivial⟩⟩
set_option maxRecDepth 100000 in
theorem k15k {x : kvv} {o : kgt} (h : khb x o) : SoundH Try.prog k2d.f ((k2d.args idf x).map (er TB)) ((k2d.obs idf x).map (erO TB)) (er TB (k2d.val idf o)) ((k2d.ops idf o).map (erO TB)) :=
  Con.soundH (c := k2d) (C := kbj) TBok ⟨inf_ok, all_nil, all_nil⟩ mix Try.func84 (show Try.f84.body = some kh6 by kernel_rfl) (show Try.f84.ntmps = 21 by kernel_rfl) (show Try.f84.results.toList = kjt by kernel_rfl) rfl h (k14r o)
set_option maxRecDepth 100000 in
theorem k18t {p0 : TA2} {r0 : Bool} (h :
((decide (p0.a0 < 18446744069414584321) = true →
(decide (p0.a1 < 18446744069414584321) = true →
((p0.a0 != 0) = true →
 true = r0) ∧
((p0.a0 != 0) = false →
(p0.a1 != 0) = r0)) ∧
(decide (p0.a1 < 18446744069414584321) = false →
 false = r0)) ∧
(decide (p0.a0 < 18446744069414584321) = false →
 false = r0))) : khb (p0.a0, p0.a1, ()) (r0, ()) := WPh.of_eq (by kernel_rfl) h
theorem bd84 : Callable Try.prog 84 := ⟨by rw [Try.func84]; kernel_rfl, by rw [Try.func84]; show some _ ≠ some _; decide⟩
theorem k13o (p0 : TA2) : khb (p0.a0, p0.a1, ()) (((vPoint p0.a0 p0.a1) : Bool), ()) := by
  refine k18t ?_
  unfold vPoint
  refine ⟨fun h => ⟨fun h1 => ⟨fun h2 => ?_, fun h2 => ?_⟩, fun h1 => ?_⟩, fun h => ?_⟩ <;> simp_all <;> omega
noncomputable def kqf : Con TB.den := k2d.totR fun x => ((fun (p0 : TA2) => ((vPoint p0.a0 p0.a1) : Bool)) (TA2.mk x.1 x.2.1), ())
theorem k181 : kqf.Ok Try.prog TB := Con.ok_tot k2d bd84 fun x => k15k (k13o (TA2.mk x.1 x.2.1))
end Go.Proofs.Ytnmakgfmimagmaa
namespace Go.Proofs.Ytnmakgfmimagmaa
open Go Go.Bv Go.Cv Go.Md Go.RowKit
def k18 : Con TB.den := Con.mk0 59 [.one (.d (.sl (.st 0)))] [] (.one (.one (.d (.bool)))) []
abbrev krr := HL TB.den (hsT k18.ins (hsOs k18.pre))
abbrev k2e := HL TB.den (hsV k18.res (hsOs k18.post))
noncomputable def k3t : Cx TB := ⟨inf, [kqf], [], 4, []⟩
noncomputable def k5e : Code := Try.f59.body.getD .skip
noncomputable def k9i : List ResultVar := Try.f59.results.toList
noncomputable def k14o (o : k2e) : Exit → TSt TB.den → Prop := thenT TB (fun s => ghs TB [] s fun s => WP TB k3t 42 0 (cB (cB (cB k5e))) .no s (retTQ TB k3t k18 k9i o)) (retTQ TB k3t k18 k9i o)
def k1j : Tm := ⟨[], [], [10, 11, 12], [.one (.d (.sl (.st 0))), .one (.d (.int .i64)), .one (.d (.int .i64))], 0⟩
noncomputable def ki1 (o : k2e) (nx2 : HL TB.den k1j.hs → Prop) : Exit → TSt TB.den → Prop := thenT TB (fun s => k1j.mat TB 0 s nx2) (blockT TB 0 (k14o o))
noncomputable def k175 (o : k2e) (nx2 : HL TB.den k1j.hs → Prop) : Exit → TSt TB.den → Prop := thenT TB (fun s => ghs TB [] s fun s => WP TB k3t 42 0 (cB (cB (cB (cA (cA (cB (cA (cB (cB k5e))))))))) .no s (ki1 o nx2)) (ki1 o nx2)
def k6b : Tm := ⟨[0], [.cells [.d (.int .u64), .d (.int .u64), .d (.int .u64), .d (.sl (.int .u64))]], [10, 11, 12, 20, 21, 22, 23, 26, 27, 28, 29, 32, 33, 34], [.one (.d (.sl (.st 0))), .one (.d (.int .i64)), .one (.d (.int .i64)), .one (.ptr 0 1), .agg [.d (.int .u64), .d (.int .u64)], .one (.d (.bool)), .one (.d (.bool)), .one (.ptr 0 3), .one (.d (.sl (.int .u64))), .one (.d (.int .i64)), .one (.d (.bool)), .one (.d (.sl (.int .u64))), .one (.d (.int .i64)), .one (.d (.int .i64))], 1⟩
noncomputable def k14e (o : k2e) (nx2 : HL TB.den k1j.hs → Prop) (nx1 : HL TB.den k6b.hs → Prop) : Exit → TSt TB.den → Prop := thenT TB (fun s => k6b.mat TB 0 s nx1) (blockT TB 2 (blockT TB 1 (k175 o nx2)))
noncomputable def ka2 (o : k2e) (nx2 : HL TB.den k1j.hs → Prop) (nx1 : HL TB.den k6b.hs → Prop) (i : HL TB.den k6b.hs) : Prop := WP TB k3t 42 0 (cA (cA (cB (cB (cB (cA (cA (cB (cB (cA (cA (cB (cA (cB (cB k5e))))))))))))))) .no (k6b.fill TB i) (k14e o nx2 nx1)
noncomputable def k15i (o : k2e) (nx2 : HL TB.den k1j.hs → Prop) : An TB := .lp [] k6b (ka2 o nx2) fun nx1 => .no
noncomputable def k162 (o : k2e) (nx2 : HL TB.den k1j.hs → Prop) : An TB := .nd [] .no [] (.nd [] .no [] (.nd [] .no [] (k15i o nx2)))
noncomputable def knf (o : k2e) (nx2 : HL TB.den k1j.hs → Prop) : An TB := .nd [] .no [] (.nd [] .no [] (.nd [] (k162 o nx2) [] .no))
noncomputable def ka1 (o : k2e) (nx2 : HL TB.den k1j.hs → Prop) (i : HL TB.den k1j.hs) : Prop := WP TB k3t 42 0 (cA (cA (cB (cA (cB (cB k5e)))))) (knf o nx2) (k1j.fill TB i) (ki1 o nx2)
noncomputable def k146 (o : k2e) : An TB := .lp [] k1j (ka1 o) fun nx2 => (knf o nx2)
noncomputable def k11w (o : k2e) : An TB := .nd [] .no [] (.nd [] (.nd [] .no [] (k146 o)) [] .no)
noncomputable def kph (o : k2e) : An TB := .nd [] .no [] (k11w o)
noncomputable def kfj (x : krr) (o : k2e) : Prop := WPh TB k3t 42 0 k5e (kph o) (k18.st TB x) (retTQ TB k3t k18 k9i o)
set_option maxRecDepth 100000 in
theorem k120 (o : k2e) : OblH TB k3t 42 0 k5e (kph o) (retTQ TB k3t k18 k9i o) :=
  OblH.of_eq (X := (True ∧ ((True ∧ ((True ∧ True) ∧ True)) ∧ ((True ∧ ((∀ nx i, (ka1 o) nx i = (ka1 o) nx i) ∧ ∀ nx2 : HL TB.den k1j.hs → Prop, (True ∧ ((True ∧ True) ∧ ((True ∧ ((True ∧ ((True ∧ True) ∧ True)) ∧ (True ∧ ((∀ nx i, (ka2 o nx2) nx i = (ka2 o nx2) nx i) ∧ ∀ nx1 : HL TB.den k6b.hs → Prop, (True ∧ ((True ∧ True) ∧ ((True ∧ (True ∧ ((True ∧ True) ∧ True))) ∧ True))))))) ∧ True))))) ∧ (True ∧ True))))) (by kernel_rfl) ⟨trivial, ⟨⟨trivial, ⟨⟨trivial, trivial⟩, trivial⟩⟩, ⟨⟨trivial, ⟨fun _ _ => rfl, fun _ => ⟨trivial, ⟨⟨trivial, trivial⟩, ⟨⟨trivial, ⟨⟨trivial, ⟨⟨trivial, trivial⟩, trivial⟩⟩, ⟨trivial, ⟨fun _ _ => rfl, fun _ => ⟨trivial, ⟨⟨trivial, trivial⟩, ⟨⟨trivial, ⟨trivial, ⟨⟨trivial, trivial⟩, trivial⟩⟩⟩, trivial⟩⟩⟩⟩⟩⟩⟩, trivial⟩⟩⟩⟩⟩, ⟨trivial, trivial⟩⟩⟩⟩
set_option maxRecDepth 100000 in
theorem k12a {x : krr} {o : k2e} (h : kfj x o) : SoundH Try.prog k18.f ((k18.args idf x).map (er TB)) ((k18.obs idf x).map (erO TB)) (er TB (k18.val idf o)) ((k18.ops idf o).map (erO TB)) :=
  Con.soundH (c := k18) (C := k3t) TBok ⟨inf_ok, (all_cons k181 all_nil), all_nil⟩ mix Try.func59 (show Try.f59.body = some k5e by kernel_rfl) (show Try.f59.ntmps = 42 by kernel_rfl) (show Try.f59.results.toList = k9i by kernel_rfl) rfl h (k120 o)
set_option maxRecDepth 100000 in
theorem k17l {p0 : List TOut} {r0 : Bool} (h :
((decide (4 < (p0.length : Int)) = true →
 false = r0) ∧
(decide (4 < (p0.length : Int)) = false →
 Md.Loop (p0, ((p0.length : Int) : Int), (0 : Int), ()) (ka1 (r0, ()))))) : kfj (p0, ()) (r0, ()) := WPh.of_eq (by kernel_rfl) h
def kpx (r0 : Bool) (nx2 : HL TB.den k1j.hs → Prop) (k2 : Int → Prop) (s10 : List TOut) (s11 : Int) (s12 : Int) : Prop :=
(decide (s12 < s11) = true →
(0 ≤ s12) ∧ s12 < (s10.length : Int) ∧ let v1 : Bool := decide (18446744069414584321 ≤ ((ix s10 s12).Commit))
(v1 = true →
 false = r0) ∧
(v1 = false →
 let r2 : Bool := (vPoint (TA2.mk ((ix s10 s12).Point_a0) ((ix s10 s12).Point_a1)).a0 (TA2.mk ((ix s10 s12).Point_a0) ((ix s10 s12).Point_a1)).a1)
((!r2) = true →
 false = r0) ∧
((!r2) = false →
 let v3 : Bool := ((((ix s10 s12).Cipher).length : Int) != 3)
(v3 = true →
 false = r0) ∧
(v3 = false →
 Md.Loop (s10, s11, s12, ((ix s10 s12).Point_a0 : Int), ((ix s10 s12).Point_a1 : Int), r2, ((!r2) : Bool), ((ix s10 s12).Cipher : List Int), ((((ix s10 s12).Cipher).length : Int) : Int), v3, ((ix s10 s12).Cipher : List Int), ((((ix s10 s12).Cipher).length : Int) : Int), (0 : Int), ((ix s10 s12).Commit : Int), ((ix s10 s12).Point_a0 : Int), ((ix s10 s12).Point_a1 : Int), ((ix s10 s12).Cipher : List Int), ()) (ka2 (r0, ()) nx2))))) ∧
(decide (s12 < s11) = false →
 true = r0)
set_option maxRecDepth 100000 in
theorem k13l {r0 : Bool} {s10 : List TOut} {s11 : Int} {s12 : Int} (inv : Int → Prop) (μ : Int → Nat) (h0 : inv s12) (hs : ∀ (s12 : Int), inv s12 → kpx r0 (fun s : (List TOut) × Int × Int × Unit => ((s.1 = s10 ∧ s.2.1 = s11) ∧ inv s.2.2.1) ∧ μ s.2.2.1 < μ s12) (fun s12q => inv s12q ∧ μ s12q < μ s12) s10 s11 s12) : Md.Loop (s10, s11, s12, ()) (ka1 (r0, ())) :=
  ⟨⟨fun s : (List TOut) × Int × Int × Unit => (s.1 = s10 ∧ s.2.1 = s11) ∧ inv s.2.2.1, fun s : (List TOut) × Int × Int × Unit => μ s.2.2.1, ⟨⟨rfl, rfl⟩, h0⟩, fun (s10p, s11p, s12p, ()) ⟨⟨eq0, eq1⟩, hi⟩ => by
    have eq0 : s10p = s10 := eq0; subst s10p; have eq1 : s11p = s11 := eq1; subst s11p; exact mpr_of (by kernel_rfl) ((congrArg (fun k => kpx r0 (fun s : (List TOut) × Int × Int × Unit => ((s.1 = s10 ∧ s.2.1 = s11) ∧ inv s.2.2.1) ∧ μ s.2.2.1 < μ s12p) k s10 s11 s12p) (lpk1 (⟨rfl, rfl⟩ : s10 = s10 ∧ s11 = s11) inv (fun s12q => μ s12q < μ s12p))).mpr (hs s12p hi))⟩⟩
def kp7 (r0 : Bool) (nx2 : HL TB.den k1j.hs → Prop) (k1 : Int → Prop) (s10 : List TOut) (s11 : Int) (s12 : Int) (s21_0 : Int) (s21_1 : Int) (s22 : Bool) (s23 : Bool) (s27 : List Int) (s28 : Int) (s29 : Bool) (s32 : List Int) (s33 : Int) (h0_0 : Int) (h0_1 : Int) (h0_2 : Int) (h0_3 : List Int) (s34 : Int) : Prop :=
(decide (s34 < s33) = true →
(0 ≤ s34) ∧ s34 < (s32.length : Int) ∧ let v4 : Bool := decide (18446744069414584321 ≤ (ix s32 s34))
(v4 = true →
 false = r0) ∧
(v4 = false →
 k1 (IntKind.i64.wrap (s34 + 1) : Int))) ∧
(decide (s34 < s33) = false →
 nx2 (s10, s11, (IntKind.i64.wrap (s12 + 1) : Int), ()))
set_option maxRecDepth 100000 in
theorem k12m {r0 : Bool} {nx2 : HL TB.den k1j.hs → Prop} {s10 : List TOut} {s11 : Int} {s12 : Int} {s21_0 : Int} {s21_1 : Int} {s22 : Bool} {s23 : Bool} {s27 : List Int} {s28 : Int} {s29 : Bool} {s32 : List Int} {s33 : Int} {h0_0 : Int} {h0_1 : Int} {h0_2 : Int} {h0_3 : List Int} {s34 : Int} (inv : Int → Prop) (μ : Int → Nat) (h0 : inv s34) (hs : ∀ (s34 : Int), inv s34 → kp7 r0 nx2 (fun s34q => inv s34q ∧ μ s34q < μ s34) s10 s11 s12 s21_0 s21_1 s22 s23 s27 s28 s29 s32 s33 h0_0 h0_1 h0_2 h0_3 s34) : Md.Loop (s10, s11, s12, s21_0, s21_1, s22, s23, s27, s28, s29, s32, s33, s34, h0_0, h0_1, h0_2, h0_3, ()) (ka2 (r0, ()) nx2) :=
  ⟨⟨fun s : (List TOut) × Int × Int × Int × Int × Bool × Bool × (List Int) × Int × Bool × (List Int) × Int × Int × Int × Int × Int × (List Int) × Unit => (s.1 = s10 ∧ s.2.1 = s11 ∧ s.2.2.1 = s12 ∧ s.2.2.2.1 = s21_0 ∧ s.2.2.2.2.1 = s21_1 ∧ s.2.2.2.2.2.1 = s22 ∧ s.2.2.2.2.2.2.1 = s23 ∧ s.2.2.2.2.2.2.2.1 = s27 ∧ s.2.2.2.2.2.2.2.2.1 = s28 ∧ s.2.2.2.2.2.2.2.2.2.1 = s29 ∧ s.2.2.2.2.2.2.2.2.2.2.1 = s32 ∧ s.2.2.2.2.2.2.2.2.2.2.2.1 = s33 ∧ s.2.2.2.2.2.2.2.2.2.2.2.2.2.1 = h0_0 ∧ s.2.2.2.2.2.2.2.2.2.2.2.2.2.2.1 = h0_1 ∧ s.2.2.2.2.2.2.2.2.2.2.2.2.2.2.2.1 = h0_2 ∧ s.2.2.2.2.2.2.2.2.2.2.2.2.2.2.2.2.1 = h0_3) ∧ inv s.2.2.2.2.2.2.2.2.2.2.2.2.1, fun s : (List TOut) × Int × Int × Int × Int × Bool × Bool × (List Int) × Int × Bool × (List Int) × Int × Int × Int × Int × Int × (List Int) × Unit => μ s.2.2.2.2.2.2.2.2.2.2.2.2.1, ⟨⟨rfl, rfl, rfl, rfl, rfl, rfl, rfl, rfl, rfl, rfl, rfl, rfl, rfl, rfl, rfl, rfl⟩, h0⟩, fun (s10p, s11p, s12p, s21_0p, s21_1p, s22p, s23p, s27p, s28p, s29p, s32p, s33p, s34p, h0_0p, h0_1p, h0_2p, h0_3p, ()) ⟨⟨eq0, eq1, eq2, eq3, eq4, eq5, eq6, eq7, eq8, eq9, eq10, eq11, eq12, eq13, eq14, eq15⟩, hi⟩ => by
    have eq0 : s10p = s10 := eq0; subst s10p; have eq1 : s11p = s11 := eq1; subst s11p; have eq2 : s12p = s12 := eq2; subst s12p; have eq3 : s21_0p = s21_0 := eq3; subst s21_0p; have eq4 : s21_1p = s21_1 := eq4; subst s21_1p; have eq5 : s22p = s22 := eq5; subst s22p; have eq6 : s23p = s23 := eq6; subst s23p; have eq7 : s27p = s27 := eq7; subst s27p; have eq8 : s28p = s28 := eq8; subst s28p; have eq9 : s29p = s29 := eq9; subst s29p; have eq10 : s32p = s32 := eq10; subst s32p; have eq11 : s33p = s33 := eq11; subst s33p; have eq12 : h0_0p = h0_0 := eq12; subst h0_0p; have eq13 : h0_1p = h0_1 := eq13; subst h0_1p; have eq14 : h0_2p = h0_2 := eq14; subst h0_2p; have eq15 : h0_3p = h0_3 := eq15; subst h0_3p; exact mpr_of (by kernel_rfl) ((congrArg (fun k => kp7 r0 nx2 k s10 s11 s12 s21_0 s21_1 s22 s23 s27 s28 s29 s32 s33 h0_0 h0_1 h0_2 h0_3 s34p) (lpk1 (⟨rfl, rfl, rfl, rfl, rfl, rfl, rfl, rfl, rfl, rfl, rfl, rfl, rfl, rfl, rfl, rfl⟩ : s10 = s10 ∧ s11 = s11 ∧ s12 = s12 ∧ s21_0 = s21_0 ∧ s21_1 = s21_1 ∧ s22 = s22 ∧ s23 = s23 ∧ s27 = s27 ∧ s28 = s28 ∧ s29 = s29 ∧ s32 = s32 ∧ s33 = s33 ∧ h0_0 = h0_0 ∧ h0_1 = h0_1 ∧ h0_2 = h0_2 ∧ h0_3 = h0_3) inv (fun s34q => μ s34q < μ s34p))).mpr (hs s34p hi))⟩⟩
theorem bd59 : Callable Try.prog 59 := ⟨by rw [Try.func59]; kernel_rfl, by rw [Try.func59]; show some _ ≠ some _; decide⟩
theorem kzc (p0 : List TOut) : kfj (p0, ()) (((vOuts p0) : Bool), ()) := by
  refine k17l ⟨fun h => ?_, fun h => ?_⟩
  · have h := of_decide_eq_true h
    unfold vOuts
    rw [decide_eq_false (by omega)]
    rfl
  · have h := of_decide_eq_false h
    have bad : ∀ i, 0 ≤ i → i < (p0.length : Int) → vOut (ix p0 i) = false → false = vOuts p0 := by
      intro i h0 h1 hb
      unfold vOuts
      have : p0.all vOut = false := List.all_eq_false.2 ⟨_, ix_mem p0 i h0 h1, by simp [hb]⟩
      rw [this]
      simp
    refine k13l (fun i => 0 ≤ i ∧ i ≤ p0.length ∧ ∀ x ∈ p0.take i.toNat, vOut x = true) (fun i => (p0.length - i).toNat) ⟨by omega, by omega, by simp⟩ ?_
    rintro i ⟨g0, g1, g2⟩
    refine ⟨fun hh => ?_, fun hh => ?_⟩
    · have hh := of_decide_eq_true hh
      have bd := bad i g0 hh
      unfold vOut at bd
      refine ⟨g0, hh, fun e => bd ?_, fun e => ⟨fun e2 => bd ?_, fun e2 => ⟨fun e3 => bd ?_, fun e3 => ?_⟩⟩⟩
      · have e := of_decide_eq_true e
        rw [decide_eq_false (by omega)]
        rfl
      · have e2 : vPoint (ix p0 i).Point_a0 (ix p0 i).Point_a1 = false := by simpa using e2
        simp [e2]
      · have e3 : ¬ (ix p0 i).Cipher.length = 3 := by
          have : ¬ ((ix p0 i).Cipher.length : Int) = 3 := by simpa using e3
          omega
        simp [e3]
      · have e := of_decide_eq_false e
        have e2 : vPoint (ix p0 i).Point_a0 (ix p0 i).Point_a1 = true := by simpa using e2
        have e3 : (ix p0 i).Cipher.length = 3 := by
          have : ((ix p0 i).Cipher.length : Int) = 3 := by simpa using e3
          omega
        refine k12m (fun k => 0 ≤ k ∧ k ≤ 3 ∧ ∀ x ∈ (ix p0 i).Cipher.take k.toNat, x < 18446744069414584321) (fun k => (3 - k).toNat) ⟨by omega, by omega, by simp⟩ ?_
        rintro k ⟨k0, k1, k2⟩
        refine ⟨fun hk => ?_, fun hk => ?_⟩
        · have hk := of_decide_eq_true hk
          refine ⟨k0, hk, fun e4 => bd ?_, fun e4 => ?_⟩
          · have e4 := of_decide_eq_true e4
            have : (ix p0 i).Cipher.all (fun n => decide (n < 18446744069414584321)) = false := List.all_eq_false.2 ⟨_, ix_mem _ k k0 hk, by simp; omega⟩
            rw [this]
            simp
          · have e4 := of_decide_eq_false e4
            rw [inc k 3 k0 (by omega) (by omega)]
            refine ⟨⟨by omega, by omega, ?_⟩, by omega⟩
            rw [ka _ k k0 hk]
            intro x hx
            rcases List.mem_append.1 hx with hx | hx
            · exact k2 x hx
            · have : x = ix (ix p0 i).Cipher k := by simpa using hx
              omega
        · have hk := of_decide_eq_false hk
          rw [List.take_of_length_le (by omega)] at k2
          have hv : vOut (ix p0 i) = true := (ktd _).2 ⟨by omega, e2, e3, k2⟩
          have hi := inc i p0.length g0 hh (by omega)
          rw [hi]
          have nxt : (0 ≤ i + 1 ∧ i + 1 ≤ p0.length ∧ ∀ x ∈ p0.take (i + 1).toNat, vOut x = true) ∧ (p0.length - (i + 1)).toNat < (p0.length - i).toNat := by
            refine ⟨⟨by omega, by omega, ?_⟩, by omega⟩
            rw [ka p0 i g0 hh]
            intro x hx
            rcases List.mem_append.1 hx with hx | hx
            · exact g2 x hx
            · have : x = ix p0 i := by simpa using hx
              rw [this]; exact hv
          exact ⟨⟨⟨rfl, rfl⟩, nxt.1⟩, nxt.2⟩
    · have hh := of_decide_eq_false hh
      rw [List.take_of_length_le (by omega)] at g2
      unfold vOuts
      have : p0.all vOut = true := by simpa using g2
      rw [this, decide_eq_true (by omega)]
      rfl
noncomputable def kot : Con TB.den := k18.totR fun x => ((fun (p0 : List TOut) => ((vOuts p0) : Bool)) x.1, ())
theorem k15a : kot.Ok Try.prog TB := Con.ok_tot k18 bd59 fun x => k12a (kzc x.1)
end Go.Proofs.Ytnmakgfmimagmaa
namespace Go.Proofs.Ytnmakgfmimagmaa
open Go Go.Bv Go.Cv Go.Md Go.RowKit
def k42 : Con TB.den := Con.mk0 29 [.agg [.d (.int .u64), .d (.sl (.int .u64)), .d (.sl (.st 0)), .d (.int .u64), .d (.int .u64), .d (.int .u64), .d (.int .u64), .d (.int .u64), .d (.int .i64), .d (.sl (.int .u8))]] [] (.one (.one (.d (.int .i64)))) []
abbrev k15y := HL TB.den (hsT k42.ins (hsOs k42.pre))
abbrev kmp := HL TB.den (hsV k42.res (hsOs k42.post))
noncomputable def kg3 : Cx TB := ⟨inf, [kmm, kot, kiz], [], 4, []⟩
noncomputable def km8 : Code := Try.f29.body.getD .skip
noncomputable def kqp : List ResultVar := Try.f29.results.toList
noncomputable def k11m (o : kmp) : An TB := .no
noncomputable def km4 (x : k15y) (o : kmp) : Prop := WPh TB kg3 35 0 km8 (k11m o) (k42.st TB x) (retTQ TB kg3 k42 kqp o)
set_option maxRecDepth 100000 in
theorem k1e7 (o : kmp) : OblH TB kg3 35 0 km8 (k11m o) (retTQ TB kg3 k42 kqp o) :=
  OblH.of_eq (X := (True ∧ ((True ∧ ((True ∧ True) ∧ True)) ∧ ((True ∧ ((True ∧ True) ∧ True)) ∧ ((True ∧ ((True ∧ True) ∧ True)) ∧ (True ∧ True)))))) (by kernel_rfl) ⟨trivial, ⟨⟨trivial, ⟨⟨trivial, trivial⟩, trivial⟩⟩, ⟨⟨trivial, ⟨⟨trivial, trivial⟩, trivial⟩⟩, ⟨⟨trivial, ⟨⟨trivial, trivial⟩, trivial⟩⟩, ⟨trivial, trivial⟩⟩⟩⟩⟩
set_option maxRecDepth 100000 in
theorem k1fj {x : k15y} {o : kmp} (h : km4 x o) : SoundH Try.prog k42.f ((k42.args idf x).map (er TB)) ((k42.obs idf x).map (erO TB)) (er TB (k42.val idf o)) ((k42.ops idf o).map (erO TB)) :=
  Con.soundH (c := k42) (C := kg3) TBok ⟨inf_ok, (all_cons k13j (all_cons k15a (all_cons kxy all_nil))), all_nil⟩ mix Try.func29 (show Try.f29.body = some km8 by kernel_rfl) (show Try.f29.ntmps = 35 by kernel_rfl) (show Try.f29.results.toList = kqp by kernel_rfl) rfl h (k1e7 o)
set_option maxRecDepth 100000 in
theorem k1i3 {p0 : TTx} {r0 : Int} (h :
(((!(vMarks p0.Marks)) = true →
 1 = r0) ∧
((!(vMarks p0.Marks)) = false →
((!(vOuts p0.Outs)) = true →
 1 = r0) ∧
((!(vOuts p0.Outs)) = false →
((!(vAmounts p0)) = true →
 1 = r0) ∧
((!(vAmounts p0)) = false →
 let v1 : Bool := decide (18446744069414584321 ≤ p0.Anchor)
(v1 = true →
 1 = r0) ∧
(v1 = false →
(decide (p0.Expiry < 0) = true →
 1 = r0) ∧
(decide (p0.Expiry < 0) = false →
(decide (1048576 < p0.Expiry) = true →
 1 = r0) ∧
(decide (1048576 < p0.Expiry) = false →
 let v2 : Bool := decide (1048576 < (p0.Proof.length : Int))
(v2 = true →
 3 = r0) ∧
(v2 = false →
 0 = r0))))))))) : km4 (p0.Anchor, p0.Marks, p0.Outs, p0.Deposit, p0.Withdraw, p0.Fee, p0.Account, p0.Nonce, p0.Expiry, p0.Proof, ()) (r0, ()) := WPh.of_eq (by kernel_rfl) h
theorem bd29 : Callable Try.prog 29 := ⟨by rw [Try.func29]; kernel_rfl, by rw [Try.func29]; show some _ ≠ some _; decide⟩
theorem k1c6 (p0 : TTx) : km4 (p0.Anchor, p0.Marks, p0.Outs, p0.Deposit, p0.Withdraw, p0.Fee, p0.Account, p0.Nonce, p0.Expiry, p0.Proof, ()) (((validE p0) : Int), ()) := by
  refine k1i3 ?_
  unfold validE vRest
  grind
noncomputable def knu : Con TB.den := k42.totR fun x => ((fun (p0 : TTx) => ((validE p0) : Int)) (TTx.mk x.1 x.2.1 x.2.2.1 x.2.2.2.1 x.2.2.2.2.1 x.2.2.2.2.2.1 x.2.2.2.2.2.2.1 x.2.2.2.2.2.2.2.1 x.2.2.2.2.2.2.2.2.1 x.2.2.2.2.2.2.2.2.2.1), ())
theorem k11j : knu.Ok Try.prog TB := Con.ok_tot k42 bd29 fun x => k1fj (k1c6 (TTx.mk x.1 x.2.1 x.2.2.1 x.2.2.2.1 x.2.2.2.2.1 x.2.2.2.2.2.1 x.2.2.2.2.2.2.1 x.2.2.2.2.2.2.2.1 x.2.2.2.2.2.2.2.2.1 x.2.2.2.2.2.2.2.2.2.1))
end Go.Proofs.Ytnmakgfmimagmaa
namespace Go.Proofs.Ytnmakgfmimagmaa
open Go Go.Bv Go.Cv Go.Md Go.RowKit
def kf : Con TB.den := Con.mk0 85 [.one (.own 0), .one (.d (.int .u64)), .one (.d (.int .i64))] [.tip (.int .u8)] (.one (.one (.own 0))) [.tip (.int .u8)]
abbrev kj1 := HL TB.den (hsT kf.ins (hsOs kf.pre))
abbrev k44 := HL TB.den (hsV kf.res (hsOs kf.post))
noncomputable def k30 : Cx TB := ⟨inf, [], [], 4, []⟩
noncomputable def k5n : Code := Try.f85.body.getD .skip
noncomputable def k6h : List ResultVar := Try.f85.results.toList
noncomputable def kt8 (o : k44) : Exit → TSt TB.den → Prop := thenT TB (fun s => ghs TB [] s fun s => WP TB k30 19 1 (cB (cB k5n)) .no s (retTQ TB k30 kf k6h o)) (retTQ TB k30 kf k6h o)
def k4h : Tm := ⟨[0], [.tip (.int .u8)], [0, 1, 7, 8], [.one (.own 0), .one (.d (.int .u64)), .one (.d (.int .i64)), .one (.d (.int .i64))], 1⟩
noncomputable def ktu (o : k44) (nx1 : HL TB.den k4h.hs → Prop) : Exit → TSt TB.den → Prop := thenT TB (fun s => k4h.mat TB 1 s nx1) (blockT TB 0 (kt8 o))
noncomputable def k67 (o : k44) (nx1 : HL TB.den k4h.hs → Prop) (i : HL TB.den k4h.hs) : Prop := WP TB k30 19 1 (cA (cA (cB (cA (cB k5n))))) .no (k4h.fill TB i) (ktu o nx1)
noncomputable def ktj (o : k44) : An TB := .lp [] k4h (k67 o) fun nx1 => .no
noncomputable def kht (o : k44) : An TB := .nd [] .no [] (.nd [] (.nd [] .no [] (ktj o)) [] .no)
noncomputable def kag (x : kj1) (o : k44) : Prop := WPh TB k30 19 1 k5n (kht o) (kf.st TB x) (retTQ TB k30 kf k6h o)
set_option maxRecDepth 100000 in
theorem kse (o : k44) : OblH TB k30 19 1 k5n (kht o) (retTQ TB k30 kf k6h o) :=
  OblH.of_eq (X := (True ∧ ((True ∧ ((∀ nx i, (k67 o) nx i = (k67 o) nx i) ∧ ∀ nx1 : HL TB.den k4h.hs → Prop, (True ∧ ((True ∧ True) ∧ ((True ∧ True) ∧ True))))) ∧ (True ∧ True)))) (by kernel_rfl) ⟨trivial, ⟨⟨trivial, ⟨fun _ _ => rfl, fun _ => ⟨trivial, ⟨⟨trivial, trivial⟩, ⟨⟨trivial, trivial⟩, trivial⟩⟩⟩⟩⟩, ⟨trivial, trivial⟩⟩⟩
set_option maxRecDepth 100000 in
theorem krk {x : kj1} {o : k44} (h : kag x o) : SoundH Try.prog kf.f ((kf.args idf x).map (er TB)) ((kf.obs idf x).map (erO TB)) (er TB (kf.val idf o)) ((kf.ops idf o).map (erO TB)) :=
  Con.soundH (c := kf) (C := k30) TBok ⟨inf_ok, all_nil, all_nil⟩ mix Try.func85 (show Try.f85.body = some k5n by kernel_rfl) (show Try.f85.ntmps = 19 by kernel_rfl) (show Try.f85.results.toList = k6h by kernel_rfl) rfl h (kse o)
set_option maxRecDepth 100000 in
theorem ktq {p1 : Int} {p2 : Int} {w0 : List Int} {e0 : List Int} (h :
((w0 = w0) ∧ Md.Loop (p1, p2, (0 : Int), w0, ()) (k67 (e0, ())))) : kag (p1, p2, w0, ()) (e0, ()) := WPh.of_eq (by kernel_rfl) h
def kic (e0 : List Int) (k1 : Int → Int → List Int → Prop) (s7 : Int) (s1 : Int) (s8 : Int) (g0 : List Int) : Prop :=
(decide (s8 < s7) = true →
 g0.length = g0.length ∧ (g0.length + [IntKind.u8.wrap s1].length) * 1 ≤ 140737488355328 ∧ g0.length + [IntKind.u8.wrap s1].length ≤ maxLen ∧ (g0 ++ [IntKind.u8.wrap s1] = g0 ++ [IntKind.u8.wrap s1]) ∧ k1 (ishr .u64 s1 8 : Int) (IntKind.i64.wrap (s8 + 1) : Int) (g0 ++ [IntKind.u8.wrap s1] : List Int)) ∧
(decide (s8 < s7) = false →
(g0 = g0) ∧ g0 = e0)
set_option maxRecDepth 100000 in
theorem krf {e0 : List Int} {s7 : Int} {s1 : Int} {s8 : Int} {g0 : List Int} (inv : Int → Int → List Int → Prop) (μ : Int → Int → List Int → Nat) (h0 : inv s1 s8 g0) (hs : ∀ (s1 : Int) (s8 : Int) (g0 : List Int), inv s1 s8 g0 → kic e0 (fun s1q s8q g0q => inv s1q s8q g0q ∧ μ s1q s8q g0q < μ s1 s8 g0) s7 s1 s8 g0) : Md.Loop (s1, s7, s8, g0, ()) (k67 (e0, ())) :=
  ⟨⟨fun s : Int × Int × Int × (List Int) × Unit => (s.2.1 = s7) ∧ inv s.1 s.2.2.1 s.2.2.2.1, fun s : Int × Int × Int × (List Int) × Unit => μ s.1 s.2.2.1 s.2.2.2.1, ⟨rfl, h0⟩, fun (s1p, s7p, s8p, g0p, ()) ⟨eq0, hi⟩ => by
    have eq0 : s7p = s7 := eq0; subst s7p; exact mpr_of (by kernel_rfl) ((congrArg (fun k => kic e0 k s7 s1p s8p g0p) (lpk3 (rfl : s7 = s7) inv (fun s1q s8q g0q => μ s1q s8q g0q < μ s1p s8p g0p))).mpr (hs s1p s8p g0p hi))⟩⟩
theorem bd85 : Callable Try.prog 85 := ⟨by rw [Try.func85]; kernel_rfl, by rw [Try.func85]; show some _ ≠ some _; decide⟩
theorem kr0 (p1 : Int) (p2 : Int) (w0 : List Int) (h : U64 p1 ∧ (0 ≤ p2 ∧ p2 ≤ 8) ∧ w0.length ≤ 137438953472) : kag (p1, p2, w0, ()) (((w0 ++ dig p2.toNat p1) : List Int), ()) := by
  obtain ⟨h1, h2, h3⟩ := h
  refine ktq ⟨rfl, krf (fun n i g => 0 ≤ i ∧ i ≤ p2 ∧ U64 n ∧ n = p1 / 256 ^ i.toNat ∧ g = w0 ++ dig i.toNat p1) (fun _ i _ => (p2 - i).toNat) ⟨by omega, by omega, h1, by simp, by simp [dig]⟩ ?_⟩
  rintro n i g ⟨g0, g1, g2, g3, rfl⟩
  refine ⟨fun h => ?_, fun h => ?_⟩
  · have h := of_decide_eq_true h
    rw [inc i p2 g0 h (by omega), ishr8, u8w]
    refine ⟨rfl, ?_, ?_, rfl, ⟨by omega, by omega, ⟨by omega, by omega⟩, ?_, ?_⟩, by omega⟩
    · simp; omega
    · simp; unfold maxLen; omega
    · rw [g3, show (i + 1).toNat = i.toNat + 1 by omega, Int.ediv_ediv_of_nonneg (Int.le_of_lt (kf0 _)), Int.pow_succ]
    · rw [show (i + 1).toNat = i.toNat + 1 by omega, ku8, List.append_assoc, g3]
  · have h := of_decide_eq_false h
    exact ⟨rfl, by rw [show i = p2 by omega]⟩
noncomputable def k7j : Con TB.den := kf.fnR (fun x => (fun (p1 : Int) (p2 : Int) (w0 : List Int) => U64 p1 ∧ (0 ≤ p2 ∧ p2 ≤ 8) ∧ w0.length ≤ 137438953472) x.1 x.2.1 x.2.2.1) fun x => ((fun (p1 : Int) (p2 : Int) (w0 : List Int) => ((w0 ++ dig p2.toNat p1) : List Int)) x.1 x.2.1 x.2.2.1, ())
theorem kca : k7j.Ok Try.prog TB := Con.ok_fn kf bd85 fun x h => krk (kr0 x.1 x.2.1 x.2.2.1 h)
end Go.Proofs.Ytnmakgfmimagmaa
namespace Go.Proofs.Ytnmakgfmimagmaa
open Go Go.Bv Go.Cv Go.Md Go.RowKit
def kk : Con TB.den := Con.mk0 73 [.one (.own 0), .one (.d (.int .i64))] [.tip (.int .u8)] (.one (.one (.own 0))) [.tip (.int .u8)]
abbrev kj3 := HL TB.den (hsT kk.ins (hsOs kk.pre))
abbrev k4s := HL TB.den (hsV kk.res (hsOs kk.post))
noncomputable def k4d : Cx TB := ⟨inf, [k7j], [], 4, []⟩
noncomputable def k73 : Code := Try.f73.body.getD .skip
noncomputable def k85 : List ResultVar := Try.f73.results.toList
def k7i : Tm := ⟨[0], [.tip (.int .u8)], [0, 1], [.one (.own 0), .one (.d (.int .i64))], 1⟩
noncomputable def khk (o : k4s) (i : HL TB.den k7i.hs) : Prop := ghs TB [] (k7i.fill TB i) fun s => WP TB k4d 15 1 (cB (cB k73)) .no s (retTQ TB k4d kk k85 o)
structure k4f (o : k4s) (i : HL TB.den k7i.hs) : Prop where
  h : khk o i
noncomputable def ktt (o : k4s) : An TB := .jn k7i (k4f o) [] .no [] .no
noncomputable def kis (o : k4s) : An TB := .nd [] .no [] (ktt o)
noncomputable def kab (x : kj3) (o : k4s) : Prop := WPh TB k4d 15 1 k73 (kis o) (kk.st TB x) (retTQ TB k4d kk k85 o)
set_option maxRecDepth 100000 in
theorem ksa (o : k4s) : OblH TB k4d 15 1 k73 (kis o) (retTQ TB k4d kk k85 o) :=
  OblH.of_eq (X := (True ∧ ((True ∧ (True ∧ True)) ∧ (∀ i, (k4f o) i = (khk o) i) ∧ (True ∧ True)))) (by kernel_rfl) ⟨trivial, ⟨⟨trivial, ⟨trivial, trivial⟩⟩, fun _ => propext ⟨fun h => h.1, fun h => ⟨h⟩⟩, ⟨trivial, trivial⟩⟩⟩
set_option maxRecDepth 100000 in
theorem ksq {x : kj3} {o : k4s} (h : kab x o) : SoundH Try.prog kk.f ((kk.args idf x).map (er TB)) ((kk.obs idf x).map (erO TB)) (er TB (kk.val idf o)) ((kk.ops idf o).map (erO TB)) :=
  Con.soundH (c := kk) (C := k4d) TBok ⟨inf_ok, (all_cons kca all_nil), all_nil⟩ mix Try.func73 (show Try.f73.body = some k73 by kernel_rfl) (show Try.f73.ntmps = 15 by kernel_rfl) (show Try.f73.results.toList = k85 by kernel_rfl) rfl h (ksa o)
set_option maxRecDepth 100000 in
theorem ktv {p1 : Int} {w0 : List Int} {e0 : List Int} (h :
((decide (p1 < 0) = true →
(w0 = w0) ∧ k4f (e0, ()) ((0 : Int), w0, ())) ∧
(decide (p1 < 0) = false →
(decide (4294967295 < p1) = true →
(w0 = w0) ∧ k4f (e0, ()) ((0 : Int), w0, ())) ∧
(decide (4294967295 < p1) = false →
(w0 = w0) ∧ k4f (e0, ()) (p1, w0, ()))))) : kab (p1, w0, ()) (e0, ()) := WPh.of_eq (by kernel_rfl) h
set_option maxRecDepth 100000 in
theorem kp4 {e0 : List Int} {s1 : Int} {g0 : List Int} (h :
((g0 = g0) ∧ (U64 (IntKind.u64.wrap s1) ∧ (0 ≤ (4 : Int) ∧ (4 : Int) ≤ 8) ∧ g0.length ≤ 137438953472) ∧ let r1 : List Int := (g0 ++ dig (4 : Int).toNat (IntKind.u64.wrap s1))
(r1 = r1) ∧ r1 = e0)) : k4f (e0, ()) (s1, g0, ()) := ⟨mpr_of (by kernel_rfl) h⟩
theorem bd73 : Callable Try.prog 73 := ⟨by rw [Try.func73]; kernel_rfl, by rw [Try.func73]; show some _ ≠ some _; decide⟩
theorem kr9 (p1 : Int) (w0 : List Int) (h : (-9223372036854775808 ≤ p1 ∧ p1 ≤ 9223372036854775807) ∧ w0.length ≤ 137438953472) : kab (p1, w0, ()) (((w0 ++ dig 4 (len4 p1)) : List Int), ()) := by
  obtain ⟨h1, h2⟩ := h
  have j : ∀ n, 0 ≤ n → n ≤ 4294967295 → len4 p1 = n → k4f ((w0 ++ dig 4 (len4 p1) : List Int), ()) (n, w0, ()) := by
    intro n h0 h1 e
    refine kp4 ?_
    rw [wu n (by omega) (by omega), e]
    exact ⟨rfl, ⟨⟨h0, by omega⟩, by omega, h2⟩, by trivial, rfl⟩
  refine ktv ⟨fun h => ⟨rfl, j 0 (by omega) (by omega) ?_⟩, fun h => ⟨fun h' => ⟨rfl, j 0 (by omega) (by omega) ?_⟩, fun h' => ⟨rfl, j p1 ?_ ?_ ?_⟩⟩⟩
  · have h := of_decide_eq_true h; exact if_pos (.inl h)
  · have h' := of_decide_eq_true h'; exact if_pos (.inr h')
  · have h := of_decide_eq_false h; omega
  · have h' := of_decide_eq_false h'; omega
  · have h := of_decide_eq_false h; have h' := of_decide_eq_false h'; exact len4_in ⟨by omega, by omega⟩
noncomputable def k7h : Con TB.den := kk.fnR (fun x => (fun (p1 : Int) (w0 : List Int) => (-9223372036854775808 ≤ p1 ∧ p1 ≤ 9223372036854775807) ∧ w0.length ≤ 137438953472) x.1 x.2.1) fun x => ((fun (p1 : Int) (w0 : List Int) => ((w0 ++ dig 4 (len4 p1)) : List Int)) x.1 x.2.1, ())
theorem kbs : k7h.Ok Try.prog TB := Con.ok_fn kk bd73 fun x h => ksq (kr9 x.1 x.2.1 h)
end Go.Proofs.Ytnmakgfmimagmaa
namespace Go.Proofs.Ytnmakgfmimagmaa
open Go Go.Bv Go.Cv Go.Md Go.RowKit
theorem bd74 : Callable Try.prog 74 := ⟨by rw [Try.func74]; kernel_rfl, by rw [Try.func74]; show some _ ≠ some _; decide⟩
end Go.Proofs.Ytnmakgfmimagmaa
namespace Go.Proofs.Ytnmakgfmimagmaa
open Go Go.Bv Go.Cv Go.Md Go.RowKit
def k2b : Con TB.den := Con.mk0 74 [.one (.d (.sl (.int .u8))), .one (.d (.int .i64))] [] (.one (.one (.own 0))) [.tip (.int .u8)]
abbrev kuo := HL TB.den (hsT k2b.ins (hsOs k2b.pre))
abbrev kcq := HL TB.den (hsV k2b.res (hsOs k2b.post))
noncomputable def kb5 : Cx TB := ⟨inf, [], [], 4, []⟩
noncomputable def kh3 : Code := Try.f74.body.getD .skip
noncomputable def kjm : List ResultVar := Try.f74.results.toList
noncomputable def k19r (o : kcq) : An TB := .nd [] .no [] (.nd [] .no [] (.nd [] .no [] (.rt [.frz 0 [4]])))
noncomputable def krm (o : kcq) : An TB := .nd [] .no [] (k19r o)
noncomputable def kha (x : kuo) (o : kcq) : Prop := WPh TB kb5 17 0 kh3 (krm o) (k2b.st TB x) (retTQ TB kb5 k2b kjm o)
set_option maxRecDepth 100000 in
theorem k156 (o : kcq) : OblH TB kb5 17 0 kh3 (krm o) (retTQ TB kb5 k2b kjm o) :=
  OblH.of_eq (X := (True ∧ (True ∧ (True ∧ (True ∧ True))))) (by kernel_rfl) ⟨trivial, ⟨trivial, ⟨trivial, ⟨trivial, trivial⟩⟩⟩⟩
set_option maxRecDepth 100000 in
theorem k16o {x : kuo} {o : kcq} (h : kha x o) : SoundH Try.prog k2b.f ((k2b.args idf x).map (er TB)) ((k2b.obs idf x).map (erO TB)) (er TB (k2b.val idf o)) ((k2b.ops idf o).map (erO TB)) :=
  Con.soundH (c := k2b) (C := kb5) TBok ⟨inf_ok, all_nil, all_nil⟩ mix Try.func74 (show Try.f74.body = some kh3 by kernel_rfl) (show Try.f74.ntmps = 17 by kernel_rfl) (show Try.f74.results.toList = kjm by kernel_rfl) rfl h (k156 o)
set_option maxRecDepth 100000 in
theorem k18f {p0 : List Int} {p1 : Int} {e0 : List Int} (h :
(let v1 : Int := IntKind.i64.wrap ((p0.length : Int) + p1)
 0 ≤ (p0.length : Int) ∧ (p0.length : Int) ≤ v1 ∧ (v1.toNat * 1 ≤ 140737488355328) ∧ (v1.toNat ≤ maxLen) ∧ (p0.length : Int).toNat = (List.replicate ((p0.length : Int).toNat) (0 : Int)).length ∧ let v2 : Int := ((min p0.length (List.replicate ((p0.length : Int).toNat) (0 : Int)).length : Nat) : Int)
((p0.length : Int).toNat = (rowOver (List.replicate ((p0.length : Int).toNat) (0 : Int)) p0 (List.replicate ((p0.length : Int).toNat) (0 : Int)).length).length) ∧ (rowOver (List.replicate ((p0.length : Int).toNat) (0 : Int)) p0 (List.replicate ((p0.length : Int).toNat) (0 : Int)).length = rowOver (List.replicate ((p0.length : Int).toNat) (0 : Int)) p0 (List.replicate ((p0.length : Int).toNat) (0 : Int)).length) ∧ rowOver (List.replicate ((p0.length : Int).toNat) (0 : Int)) p0 (List.replicate ((p0.length : Int).toNat) (0 : Int)).length = e0)) : kha (p0, p1, ()) (e0, ()) := WPh.of_eq (by kernel_rfl) h
theorem k122 (p0 : List Int) (p1 : Int) (h : 0 ≤ p1 ∧ p0.length + p1 ≤ 140737488355328) : kha (p0, p1, ()) ((p0 : List Int), ()) := by
  obtain ⟨h1, h2⟩ := h
  refine k18f ?_
  rw [wi _ (by omega) (by omega)]
  have e : rowOver (List.replicate ((p0.length : Int).toNat) (0 : Int)) p0 (List.replicate ((p0.length : Int).toNat) (0 : Int)).length = p0 := k1je _ _ (by simp)
  simp only [e]
  exact ⟨by omega, by omega, by omega, by unfold maxLen; omega, by simp, by omega, by trivial, by trivial⟩
noncomputable def k9l : Con TB.den := k2b.fnR (fun x => (fun (p0 : List Int) (p1 : Int) => 0 ≤ p1 ∧ p0.length + p1 ≤ 140737488355328) x.1 x.2.1) fun x => ((fun (p0 : List Int) (p1 : Int) => (p0 : List Int)) x.1 x.2.1, ())
theorem kex : k9l.Ok Try.prog TB := Con.ok_fn k2b bd74 fun x h => k16o (k122 x.1 x.2.1 h)
end Go.Proofs.Ytnmakgfmimagmaa
namespace Go.Proofs.Ytnmakgfmimagmaa
open Go Go.Bv Go.Cv Go.Md Go.RowKit
def k2u : Con TB.den := Con.mk0 46 [.one (.d (.sl (.int .u8))), .one (.d (.sl (.int .u8)))] [] (.one (.one (.d (.sl (.int .u8))))) []
abbrev ky8 := HL TB.den (hsT k2u.ins (hsOs k2u.pre))
abbrev ki8 := HL TB.den (hsV k2u.res (hsOs k2u.post))
noncomputable def kcl : Cx TB := ⟨inf, [k9l, k7h], [], 4, []⟩
noncomputable def ki5 : Code := Try.f46.body.getD .skip
noncomputable def klr : List ResultVar := Try.f46.results.toList
noncomputable def kw0 (o : ki8) : An TB := .no
noncomputable def kie (x : ky8) (o : ki8) : Prop := WPh TB kcl 17 0 ki5 (kw0 o) (k2u.st TB x) (retTQ TB kcl k2u klr o)
set_option maxRecDepth 100000 in
theorem k19n (o : ki8) : OblH TB kcl 17 0 ki5 (kw0 o) (retTQ TB kcl k2u klr o) :=
  OblH.of_eq (X := (True ∧ (True ∧ (True ∧ True)))) (by kernel_rfl) ⟨trivial, ⟨trivial, ⟨trivial, trivial⟩⟩⟩
set_option maxRecDepth 100000 in
theorem k17q {x : ky8} {o : ki8} (h : kie x o) : SoundH Try.prog k2u.f ((k2u.args idf x).map (er TB)) ((k2u.obs idf x).map (erO TB)) (er TB (k2u.val idf o)) ((k2u.ops idf o).map (erO TB)) :=
  Con.soundH (c := k2u) (C := kcl) TBok ⟨inf_ok, (all_cons kex (all_cons kbs all_nil)), all_nil⟩ mix Try.func46 (show Try.f46.body = some ki5 by kernel_rfl) (show Try.f46.ntmps = 17 by kernel_rfl) (show Try.f46.results.toList = klr by kernel_rfl) rfl h (k19n o)
set_option maxRecDepth 100000 in
theorem k1e0 {p0 : List Int} {p1 : List Int} {r0 : List Int} (h :
((0 ≤ (IntKind.i64.wrap (4 + (p1.length : Int))) ∧ p0.length + (IntKind.i64.wrap (4 + (p1.length : Int))) ≤ 140737488355328) ∧ (p0 = p0) ∧ ((-9223372036854775808 ≤ (p1.length : Int) ∧ (p1.length : Int) ≤ 9223372036854775807) ∧ p0.length ≤ 137438953472) ∧ (p0 ++ dig 4 (len4 (p1.length : Int))).length = (p0 ++ dig 4 (len4 (p1.length : Int))).length ∧ ((p0 ++ dig 4 (len4 (p1.length : Int))).length + p1.length) * 1 ≤ 140737488355328 ∧ (p0 ++ dig 4 (len4 (p1.length : Int))).length + p1.length ≤ maxLen ∧ let v1 : List Int := (p0 ++ dig 4 (len4 (p1.length : Int))) ++ p1
 v1 = r0)) : kie (p0, p1, ()) (r0, ()) := WPh.of_eq (by kernel_rfl) h
theorem bd46 : Callable Try.prog 46 := ⟨by rw [Try.func46]; kernel_rfl, by rw [Try.func46]; show some _ ≠ some _; decide⟩
theorem k15w (p0 : List Int) (p1 : List Int) (h : p0.length ≤ 68719476736 ∧ p1.length ≤ 4294967295) : kie (p0, p1, ()) (((p0 ++ encB p1) : List Int), ()) := by
  obtain ⟨h1, h2⟩ := h
  refine k1e0 ?_
  rw [wi (4 + (p1.length : Int)) (by omega) (by omega)]
  refine ⟨⟨by omega, by omega⟩, by trivial, ⟨by omega, by omega⟩, by trivial, ?_, ?_, ?_⟩
  · simp; omega
  · simp; unfold maxLen; omega
  · rw [List.append_assoc]; rfl
noncomputable def kkg : Con TB.den := k2u.fnR (fun x => (fun (p0 : List Int) (p1 : List Int) => p0.length ≤ 68719476736 ∧ p1.length ≤ 4294967295) x.1 x.2.1) fun x => ((fun (p0 : List Int) (p1 : List Int) => ((p0 ++ encB p1) : List Int)) x.1 x.2.1, ())
theorem kvs : kkg.Ok Try.prog TB := Con.ok_fn k2u bd46 fun x h => k17q (k15w x.1 x.2.1 h)
end Go.Proofs.Ytnmakgfmimagmaa
namespace Go.Proofs.Ytnmakgfmimagmaa
open Go Go.Bv Go.Cv Go.Md Go.RowKit
def k40 : Con TB.den := Con.mk0 71 [.one (.d (.sl (.int .u8))), .one (.d (.int .i64))] [] (.one (.one (.d (.sl (.int .u8))))) []
abbrev k16p := HL TB.den (hsT k40.ins (hsOs k40.pre))
abbrev kmr := HL TB.den (hsV k40.res (hsOs k40.post))
noncomputable def kgd : Cx TB := ⟨inf, [k9l, k7h], [], 4, []⟩
noncomputable def klw : Code := Try.f71.body.getD .skip
noncomputable def kqw : List ResultVar := Try.f71.results.toList
noncomputable def k11o (o : kmr) : An TB := .no
noncomputable def klp (x : k16p) (o : kmr) : Prop := WPh TB kgd 9 0 klw (k11o o) (k40.st TB x) (retTQ TB kgd k40 kqw o)
set_option maxRecDepth 100000 in
theorem k1g7 (o : kmr) : OblH TB kgd 9 0 klw (k11o o) (retTQ TB kgd k40 kqw o) :=
  OblH.of_eq (X := (True ∧ (True ∧ True))) (by kernel_rfl) ⟨trivial, ⟨trivial, trivial⟩⟩
set_option maxRecDepth 100000 in
theorem k1e5 {x : k16p} {o : kmr} (h : klp x o) : SoundH Try.prog k40.f ((k40.args idf x).map (er TB)) ((k40.obs idf x).map (erO TB)) (er TB (k40.val idf o)) ((k40.ops idf o).map (erO TB)) :=
  Con.soundH (c := k40) (C := kgd) TBok ⟨inf_ok, (all_cons kex (all_cons kbs all_nil)), all_nil⟩ mix Try.func71 (show Try.f71.body = some klw by kernel_rfl) (show Try.f71.ntmps = 9 by kernel_rfl) (show Try.f71.results.toList = kqw by kernel_rfl) rfl h (k1g7 o)
set_option maxRecDepth 100000 in
theorem k1iu {p0 : List Int} {p1 : Int} {r0 : List Int} (h :
((0 ≤ (4 : Int) ∧ p0.length + (4 : Int) ≤ 140737488355328) ∧ (p0 = p0) ∧ ((-9223372036854775808 ≤ p1 ∧ p1 ≤ 9223372036854775807) ∧ p0.length ≤ 137438953472) ∧ (p0 ++ dig 4 (len4 p1)) = r0)) : klp (p0, p1, ()) (r0, ()) := WPh.of_eq (by kernel_rfl) h
theorem bd71 : Callable Try.prog 71 := ⟨by rw [Try.func71]; kernel_rfl, by rw [Try.func71]; show some _ ≠ some _; decide⟩
theorem k1dt (p0 : List Int) (p1 : Int) (h : (-9223372036854775808 ≤ p1 ∧ p1 ≤ 9223372036854775807) ∧ p0.length ≤ 137438953472) : klp (p0, p1, ()) (((p0 ++ dig 4 (len4 p1)) : List Int), ()) := by
  obtain ⟨h1, h2⟩ := h
  exact k1iu ⟨⟨by omega, by omega⟩, by trivial, ⟨h1, h2⟩, rfl⟩
noncomputable def kn5 : Con TB.den := k40.fnR (fun x => (fun (p0 : List Int) (p1 : Int) => (-9223372036854775808 ≤ p1 ∧ p1 ≤ 9223372036854775807) ∧ p0.length ≤ 137438953472) x.1 x.2.1) fun x => ((fun (p0 : List Int) (p1 : Int) => ((p0 ++ dig 4 (len4 p1)) : List Int)) x.1 x.2.1, ())
theorem k10p : kn5.Ok Try.prog TB := Con.ok_fn k40 bd71 fun x h => k1e5 (k1dt x.1 x.2.1 h)
end Go.Proofs.Ytnmakgfmimagmaa
namespace Go.Proofs.Ytnmakgfmimagmaa
open Go Go.Bv Go.Cv Go.Md Go.RowKit
def k2m : Con TB.den := Con.mk0 90 [.one (.d (.sl (.int .u8))), .one (.d (.sl (.int .u64)))] [] (.one (.one (.d (.sl (.int .u8))))) []
abbrev k10d := HL TB.den (hsT k2m.ins (hsOs k2m.pre))
abbrev k8c := HL TB.den (hsV k2m.res (hsOs k2m.post))
noncomputable def k6f : Cx TB := ⟨inf, [k9l, k7h, k7j], [], 4, []⟩
noncomputable def kb9 : Code := Try.f90.body.getD .skip
noncomputable def ke0 : List ResultVar := Try.f90.results.toList
noncomputable def k1f9 (o : k8c) : Exit → TSt TB.den → Prop := thenT TB (fun s => ghs TB [] s fun s => WP TB k6f 28 0 (cB (cB (cB kb9))) .no s (retTQ TB k6f k2m ke0 o)) (retTQ TB k6f k2m ke0 o)
def k8l : Tm := ⟨[0], [.tip (.int .u8)], [5, 17, 18, 19], [.one (.own 0), .one (.d (.sl (.int .u64))), .one (.d (.int .i64)), .one (.d (.int .i64))], 1⟩
noncomputable def k1fw (o : k8c) (nx1 : HL TB.den k8l.hs → Prop) : Exit → TSt TB.den → Prop := thenT TB (fun s => k8l.mat TB 0 s nx1) (blockT TB 0 (k1f9 o))
noncomputable def ke9 (o : k8c) (nx1 : HL TB.den k8l.hs → Prop) (i : HL TB.den k8l.hs) : Prop := WP TB k6f 28 0 (cA (cA (cB (cA (cB (cB kb9)))))) .no (k8l.fill TB i) (k1fw o nx1)
noncomputable def k1hy (o : k8c) : An TB := .nd [] .no [] (.lp [] k8l (ke9 o) fun nx1 => .no)
noncomputable def kyl (o : k8c) : An TB := .nd [] .no [] (.nd [] .no [] (.nd [] (k1hy o) [] .no))
noncomputable def kke (x : k10d) (o : k8c) : Prop := WPh TB k6f 28 0 kb9 (kyl o) (k2m.st TB x) (retTQ TB k6f k2m ke0 o)
set_option maxRecDepth 100000 in
theorem k1d2 (o : k8c) : OblH TB k6f 28 0 kb9 (kyl o) (retTQ TB k6f k2m ke0 o) :=
  OblH.of_eq (X := (True ∧ (True ∧ ((True ∧ ((∀ nx i, (ke9 o) nx i = (ke9 o) nx i) ∧ ∀ nx1 : HL TB.den k8l.hs → Prop, (True ∧ ((True ∧ True) ∧ ((True ∧ True) ∧ True))))) ∧ (True ∧ True))))) (by kernel_rfl) ⟨trivial, ⟨trivial, ⟨⟨trivial, ⟨fun _ _ => rfl, fun _ => ⟨trivial, ⟨⟨trivial, trivial⟩, ⟨⟨trivial, trivial⟩, trivial⟩⟩⟩⟩⟩, ⟨trivial, trivial⟩⟩⟩⟩
set_option maxRecDepth 100000 in
theorem k1co {x : k10d} {o : k8c} (h : kke x o) : SoundH Try.prog k2m.f ((k2m.args idf x).map (er TB)) ((k2m.obs idf x).map (erO TB)) (er TB (k2m.val idf o)) ((k2m.ops idf o).map (erO TB)) :=
  Con.soundH (c := k2m) (C := k6f) TBok ⟨inf_ok, (all_cons kex (all_cons kbs (all_cons kca all_nil))), all_nil⟩ mix Try.func90 (show Try.f90.body = some kb9 by kernel_rfl) (show Try.f90.ntmps = 28 by kernel_rfl) (show Try.f90.results.toList = ke0 by kernel_rfl) rfl h (k1d2 o)
set_option maxRecDepth 100000 in
theorem k1hn {p0 : List Int} {p1 : List Int} {r0 : List Int} (h :
(let v1 : Int := IntKind.i64.wrap (4 + (IntKind.i64.wrap (8 * (p1.length : Int))))
(0 ≤ v1 ∧ p0.length + v1 ≤ 140737488355328) ∧ (p0 = p0) ∧ ((-9223372036854775808 ≤ (p1.length : Int) ∧ (p1.length : Int) ≤ 9223372036854775807) ∧ p0.length ≤ 137438953472) ∧ ((p0 ++ dig 4 (len4 (p1.length : Int))) = (p0 ++ dig 4 (len4 (p1.length : Int)))) ∧ Md.Loop (p1, ((p1.length : Int) : Int), (0 : Int), ((p0 ++ dig 4 (len4 (p1.length : Int))) : List Int), ()) (ke9 (r0, ())))) : kke (p0, p1, ()) (r0, ()) := WPh.of_eq (by kernel_rfl) h
def kyr (r0 : List Int) (k1 : Int → List Int → Prop) (s17 : List Int) (s18 : Int) (s19 : Int) (g0 : List Int) : Prop :=
(decide (s19 < s18) = true →
(0 ≤ s19) ∧ s19 < (s17.length : Int) ∧ (g0 = g0) ∧ (U64 (ix s17 s19) ∧ (0 ≤ (8 : Int) ∧ (8 : Int) ≤ 8) ∧ g0.length ≤ 137438953472) ∧ ((g0 ++ dig (8 : Int).toNat (ix s17 s19)) = (g0 ++ dig (8 : Int).toNat (ix s17 s19))) ∧ k1 (IntKind.i64.wrap (s19 + 1) : Int) ((g0 ++ dig (8 : Int).toNat (ix s17 s19)) : List Int)) ∧
(decide (s19 < s18) = false →
 g0 = r0)
set_option maxRecDepth 100000 in
theorem k1bf {r0 : List Int} {s17 : List Int} {s18 : Int} {s19 : Int} {g0 : List Int} (inv : Int → List Int → Prop) (μ : Int → List Int → Nat) (h0 : inv s19 g0) (hs : ∀ (s19 : Int) (g0 : List Int), inv s19 g0 → kyr r0 (fun s19q g0q => inv s19q g0q ∧ μ s19q g0q < μ s19 g0) s17 s18 s19 g0) : Md.Loop (s17, s18, s19, g0, ()) (ke9 (r0, ())) :=
  ⟨⟨fun s : (List Int) × Int × Int × (List Int) × Unit => (s.1 = s17 ∧ s.2.1 = s18) ∧ inv s.2.2.1 s.2.2.2.1, fun s : (List Int) × Int × Int × (List Int) × Unit => μ s.2.2.1 s.2.2.2.1, ⟨⟨rfl, rfl⟩, h0⟩, fun (s17p, s18p, s19p, g0p, ()) ⟨⟨eq0, eq1⟩, hi⟩ => by
    have eq0 : s17p = s17 := eq0; subst s17p; have eq1 : s18p = s18 := eq1; subst s18p; exact mpr_of (by kernel_rfl) ((congrArg (fun k => kyr r0 k s17 s18 s19p g0p) (lpk2 (⟨rfl, rfl⟩ : s17 = s17 ∧ s18 = s18) inv (fun s19q g0q => μ s19q g0q < μ s19p g0p))).mpr (hs s19p g0p hi))⟩⟩
theorem bd90 : Callable Try.prog 90 := ⟨by rw [Try.func90]; kernel_rfl, by rw [Try.func90]; show some _ ≠ some _; decide⟩
theorem k19x (p0 : List Int) (p1 : List Int) (h : Us p1 ∧ p0.length ≤ 68719476736 ∧ p1.length ≤ 4294967295) : kke (p0, p1, ()) (((p0 ++ encL p1) : List Int), ()) := by
  obtain ⟨h1, h2, h3⟩ := h
  refine k1hn ?_
  rw [wi (8 * (p1.length : Int)) (by omega) (by omega), wi (4 + 8 * (p1.length : Int)) (by omega) (by omega)]
  refine ⟨⟨by omega, by omega⟩, by trivial, ⟨by omega, by omega⟩, by trivial, ?_⟩
  refine k1bf (fun i g => 0 ≤ i ∧ i ≤ p1.length ∧ g = p0 ++ dig 4 (len4 p1.length) ++ (p1.take i.toNat).flatMap (dig 8)) (fun i _ => (p1.length - i).toNat) ⟨by omega, by omega, by simp⟩ ?_
  rintro i g ⟨g0, g1, rfl⟩
  refine ⟨fun h => ?_, fun h => ?_⟩
  · have h := of_decide_eq_true h
    have hx := h1 _ (ix_mem p1 i g0 h)
    rw [inc i p1.length g0 h (by omega)]
    refine ⟨g0, h, by trivial, ⟨hx, by omega, ?_⟩, by trivial, ⟨by omega, by omega, ?_⟩, by omega⟩
    · simp only [List.length_append, k19, k63, List.length_take]; omega
    · rw [ka p1 i g0 h, List.flatMap_append, List.append_assoc]
      simp
  · have h := of_decide_eq_false h
    rw [List.take_of_length_le (by omega), List.append_assoc]
    rfl
noncomputable def kvd : Con TB.den := k2m.fnR (fun x => (fun (p0 : List Int) (p1 : List Int) => Us p1 ∧ p0.length ≤ 68719476736 ∧ p1.length ≤ 4294967295) x.1 x.2.1) fun x => ((fun (p0 : List Int) (p1 : List Int) => ((p0 ++ encL p1) : List Int)) x.1 x.2.1, ())
theorem k1f5 : kvd.Ok Try.prog TB := Con.ok_fn k2m bd90 fun x h => k1co (k19x x.1 x.2.1 h)
end Go.Proofs.Ytnmakgfmimagmaa
namespace Go.Proofs.Ytnmakgfmimagmaa
open Go Go.Bv Go.Cv Go.Md Go.RowKit
def k3e : Con TB.den := Con.mk0 61 [.one (.d (.sl (.int .u8))), .one (.d (.int .u64))] [] (.one (.one (.d (.sl (.int .u8))))) []
abbrev k11e := HL TB.den (hsT k3e.ins (hsOs k3e.pre))
abbrev kl3 := HL TB.den (hsV k3e.res (hsOs k3e.post))
noncomputable def kdx : Cx TB := ⟨inf, [k9l, k7j], [], 4, []⟩
noncomputable def kkb : Code := Try.f61.body.getD .skip
noncomputable def kna : List ResultVar := Try.f61.results.toList
noncomputable def kwv (o : kl3) : An TB := .no
noncomputable def kju (x : k11e) (o : kl3) : Prop := WPh TB kdx 9 0 kkb (kwv o) (k3e.st TB x) (retTQ TB kdx k3e kna o)
set_option maxRecDepth 100000 in
theorem k1d8 (o : kl3) : OblH TB kdx 9 0 kkb (kwv o) (retTQ TB kdx k3e kna o) :=
  OblH.of_eq (X := (True ∧ (True ∧ True))) (by kernel_rfl) ⟨trivial, ⟨trivial, trivial⟩⟩
set_option maxRecDepth 100000 in
theorem k1ck {x : k11e} {o : kl3} (h : kju x o) : SoundH Try.prog k3e.f ((k3e.args idf x).map (er TB)) ((k3e.obs idf x).map (erO TB)) (er TB (k3e.val idf o)) ((k3e.ops idf o).map (erO TB)) :=
  Con.soundH (c := k3e) (C := kdx) TBok ⟨inf_ok, (all_cons kex (all_cons kca all_nil)), all_nil⟩ mix Try.func61 (show Try.f61.body = some kkb by kernel_rfl) (show Try.f61.ntmps = 9 by kernel_rfl) (show Try.f61.results.toList = kna by kernel_rfl) rfl h (k1d8 o)
set_option maxRecDepth 100000 in
theorem k1gt {p0 : List Int} {p1 : Int} {r0 : List Int} (h :
((0 ≤ (8 : Int) ∧ p0.length + (8 : Int) ≤ 140737488355328) ∧ (p0 = p0) ∧ (U64 p1 ∧ (0 ≤ (8 : Int) ∧ (8 : Int) ≤ 8) ∧ p0.length ≤ 137438953472) ∧ (p0 ++ dig (8 : Int).toNat p1) = r0)) : kju (p0, p1, ()) (r0, ()) := WPh.of_eq (by kernel_rfl) h
theorem bd61 : Callable Try.prog 61 := ⟨by rw [Try.func61]; kernel_rfl, by rw [Try.func61]; show some _ ≠ some _; decide⟩
theorem k18z (p0 : List Int) (p1 : Int) (h : U64 p1 ∧ p0.length ≤ 137438953472) : kju (p0, p1, ()) (((p0 ++ dig 8 p1) : List Int), ()) := by
  obtain ⟨h1, h2⟩ := h
  refine k1gt ⟨⟨by omega, by omega⟩, by trivial, ⟨h1, by omega, h2⟩, rfl⟩
noncomputable def kgu : Con TB.den := k3e.fnR (fun x => (fun (p0 : List Int) (p1 : Int) => U64 p1 ∧ p0.length ≤ 137438953472) x.1 x.2.1) fun x => ((fun (p0 : List Int) (p1 : Int) => ((p0 ++ dig 8 p1) : List Int)) x.1 x.2.1, ())
theorem knc : kgu.Ok Try.prog TB := Con.ok_fn k3e bd61 fun x h => k1ck (k18z x.1 x.2.1 h)
end Go.Proofs.Ytnmakgfmimagmaa
namespace Go.Proofs.Ytnmakgfmimagmaa
open Go Go.Bv Go.Cv Go.Md Go.RowKit
def k2j : Con TB.den := Con.mk0 72 [.agg [.d (.int .u64), .d (.sl (.int .u64)), .d (.sl (.st 0)), .d (.int .u64), .d (.int .u64), .d (.int .u64), .d (.int .u64), .d (.int .u64), .d (.int .i64), .d (.sl (.int .u8))], .one (.d (.sl (.int .u8)))] [] (.one (.one (.d (.sl (.int .u8))))) []
abbrev k10o := HL TB.den (hsT k2j.ins (hsOs k2j.pre))
abbrev k76 := HL TB.den (hsV k2j.res (hsOs k2j.post))
noncomputable def k6d : Cx TB := ⟨inf, [kgu, kvd, kn5, kkg], [], 4, []⟩
noncomputable def kb0 : Code := Try.f72.body.getD .skip
noncomputable def kel : List ResultVar := Try.f72.results.toList
noncomputable def k1gd (o : k76) : Exit → TSt TB.den → Prop := thenT TB (fun s => ghs TB [] s fun s => WP TB k6d 73 0 (cB (cB (cB (cB (cB kb0))))) .no s (retTQ TB k6d k2j kel o)) (retTQ TB k6d k2j kel o)
def k8t : Tm := ⟨[0], [.cells [.d (.int .u64), .d (.sl (.int .u64)), .d (.sl (.st 0)), .d (.int .u64), .d (.int .u64), .d (.int .u64), .d (.int .u64), .d (.int .u64), .d (.int .i64), .d (.sl (.int .u8))]], [1, 2, 5, 21, 22, 23], [.one (.d (.sl (.int .u8))), .one (.ptr 0 0), .one (.d (.sl (.int .u8))), .one (.d (.sl (.st 0))), .one (.d (.int .i64)), .one (.d (.int .i64))], 1⟩
noncomputable def k1ez (o : k76) (nx1 : HL TB.den k8t.hs → Prop) : Exit → TSt TB.den → Prop := thenT TB (fun s => k8t.mat TB 0 s nx1) (blockT TB 0 (k1gd o))
noncomputable def kdt (o : k76) (nx1 : HL TB.den k8t.hs → Prop) (i : HL TB.den k8t.hs) : Prop := WP TB k6d 73 0 (cA (cA (cB (cA (cB (cB (cB (cB kb0)))))))) .no (k8t.fill TB i) (k1ez o nx1)
noncomputable def k1f1 (o : k76) : An TB := .nd [] .no [] (.lp [] k8t (kdt o) fun nx1 => .no)
noncomputable def k1er (o : k76) : An TB := .nd [] .no [] (.nd [] .no [] (.nd [] (k1f1 o) [] .no))
noncomputable def kyk (o : k76) : An TB := .nd [] .no [] (.nd [] .no [] (k1er o))
noncomputable def kjo (x : k10o) (o : k76) : Prop := WPh TB k6d 73 0 kb0 (kyk o) (k2j.st TB x) (retTQ TB k6d k2j kel o)
set_option maxRecDepth 100000 in
theorem k1d7 (o : k76) : OblH TB k6d 73 0 kb0 (kyk o) (retTQ TB k6d k2j kel o) :=
  OblH.of_eq (X := (True ∧ (True ∧ (True ∧ (True ∧ ((True ∧ ((∀ nx i, (kdt o) nx i = (kdt o) nx i) ∧ ∀ nx1 : HL TB.den k8t.hs → Prop, (True ∧ ((True ∧ True) ∧ ((True ∧ (True ∧ (True ∧ (True ∧ True)))) ∧ True))))) ∧ (True ∧ (True ∧ (True ∧ (True ∧ (True ∧ (True ∧ (True ∧ True))))))))))))) (by kernel_rfl) ⟨trivial, ⟨trivial, ⟨trivial, ⟨trivial, ⟨⟨trivial, ⟨fun _ _ => rfl, fun _ => ⟨trivial, ⟨⟨trivial, trivial⟩, ⟨⟨trivial, ⟨trivial, ⟨trivial, ⟨trivial, trivial⟩⟩⟩⟩, trivial⟩⟩⟩⟩⟩, ⟨trivial, ⟨trivial, ⟨trivial, ⟨trivial, ⟨trivial, ⟨trivial, ⟨trivial, trivial⟩⟩⟩⟩⟩⟩⟩⟩⟩⟩⟩⟩
set_option maxRecDepth 100000 in
theorem k1cg {x : k10o} {o : k76} (h : kjo x o) : SoundH Try.prog k2j.f ((k2j.args idf x).map (er TB)) ((k2j.obs idf x).map (erO TB)) (er TB (k2j.val idf o)) ((k2j.ops idf o).map (erO TB)) :=
  Con.soundH (c := k2j) (C := k6d) TBok ⟨inf_ok, (all_cons knc (all_cons k1f5 (all_cons k10p (all_cons kvs all_nil)))), all_nil⟩ mix Try.func72 (show Try.f72.body = some kb0 by kernel_rfl) (show Try.f72.ntmps = 73 by kernel_rfl) (show Try.f72.results.toList = kel by kernel_rfl) rfl h (k1d7 o)
set_option maxRecDepth 100000 in
theorem k1fv {p0 : TTx} {p1 : List Int} {r0 : List Int} (h :
((U64 p0.Anchor ∧ ([] : List Int).length ≤ 137438953472) ∧ (Us p0.Marks ∧ (([] : List Int) ++ dig 8 p0.Anchor).length ≤ 68719476736 ∧ p0.Marks.length ≤ 4294967295) ∧ let r1 : List Int := ((([] : List Int) ++ dig 8 p0.Anchor) ++ encL p0.Marks)
((-9223372036854775808 ≤ (p0.Outs.length : Int) ∧ (p0.Outs.length : Int) ≤ 9223372036854775807) ∧ r1.length ≤ 137438953472) ∧ let r2 : List Int := (r1 ++ dig 4 (len4 (p0.Outs.length : Int)))
 Md.Loop (p1, r2, p0.Outs, ((p0.Outs.length : Int) : Int), (0 : Int), p0.Anchor, p0.Marks, p0.Outs, p0.Deposit, p0.Withdraw, p0.Fee, p0.Account, p0.Nonce, p0.Expiry, p0.Proof, ()) (kdt (r0, ())))) : kjo (p0.Anchor, p0.Marks, p0.Outs, p0.Deposit, p0.Withdraw, p0.Fee, p0.Account, p0.Nonce, p0.Expiry, p0.Proof, p1, ()) (r0, ()) := WPh.of_eq (by kernel_rfl) h
def kwy (r0 : List Int) (k1 : List Int → Int → Prop) (s1 : List Int) (s21 : List TOut) (s22 : Int) (h0_0 : Int) (h0_1 : List Int) (h0_2 : List TOut) (h0_3 : Int) (h0_4 : Int) (h0_5 : Int) (h0_6 : Int) (h0_7 : Int) (h0_8 : Int) (h0_9 : List Int) (s5 : List Int) (s23 : Int) : Prop :=
(decide (s23 < s22) = true →
(0 ≤ s23) ∧ s23 < (s21.length : Int) ∧ (U64 ((ix s21 s23).Commit) ∧ s5.length ≤ 137438953472) ∧ (U64 ((ix s21 s23).Point_a0) ∧ (s5 ++ dig 8 ((ix s21 s23).Commit)).length ≤ 137438953472) ∧ let r3 : List Int := ((s5 ++ dig 8 ((ix s21 s23).Commit)) ++ dig 8 ((ix s21 s23).Point_a0))
(U64 ((ix s21 s23).Point_a1) ∧ r3.length ≤ 137438953472) ∧ (Us ((ix s21 s23).Cipher) ∧ (r3 ++ dig 8 ((ix s21 s23).Point_a1)).length ≤ 68719476736 ∧ ((ix s21 s23).Cipher).length ≤ 4294967295) ∧ let r4 : List Int := ((r3 ++ dig 8 ((ix s21 s23).Point_a1)) ++ encL ((ix s21 s23).Cipher))
 k1 r4 (IntKind.i64.wrap (s23 + 1) : Int)) ∧
(decide (s23 < s22) = false →
(U64 h0_3 ∧ s5.length ≤ 137438953472) ∧ (U64 h0_4 ∧ (s5 ++ dig 8 h0_3).length ≤ 137438953472) ∧ (U64 h0_5 ∧ ((s5 ++ dig 8 h0_3) ++ dig 8 h0_4).length ≤ 137438953472) ∧ let r5 : List Int := (((s5 ++ dig 8 h0_3) ++ dig 8 h0_4) ++ dig 8 h0_5)
(U64 h0_6 ∧ r5.length ≤ 137438953472) ∧ (U64 h0_7 ∧ (r5 ++ dig 8 h0_6).length ≤ 137438953472) ∧ ((-9223372036854775808 ≤ h0_8 ∧ h0_8 ≤ 9223372036854775807) ∧ ((r5 ++ dig 8 h0_6) ++ dig 8 h0_7).length ≤ 137438953472) ∧ let r6 : List Int := (((r5 ++ dig 8 h0_6) ++ dig 8 h0_7) ++ dig 4 (len4 h0_8))
(r6.length ≤ 68719476736 ∧ s1.length ≤ 4294967295) ∧ (r6 ++ encB s1) = r0)
set_option maxRecDepth 100000 in
theorem k1bk {r0 : List Int} {s1 : List Int} {s21 : List TOut} {s22 : Int} {h0_0 : Int} {h0_1 : List Int} {h0_2 : List TOut} {h0_3 : Int} {h0_4 : Int} {h0_5 : Int} {h0_6 : Int} {h0_7 : Int} {h0_8 : Int} {h0_9 : List Int} {s5 : List Int} {s23 : Int} (inv : List Int → Int → Prop) (μ : List Int → Int → Nat) (h0 : inv s5 s23) (hs : ∀ (s5 : List Int) (s23 : Int), inv s5 s23 → kwy r0 (fun s5q s23q => inv s5q s23q ∧ μ s5q s23q < μ s5 s23) s1 s21 s22 h0_0 h0_1 h0_2 h0_3 h0_4 h0_5 h0_6 h0_7 h0_8 h0_9 s5 s23) : Md.Loop (s1, s5, s21, s22, s23, h0_0, h0_1, h0_2, h0_3, h0_4, h0_5, h0_6, h0_7, h0_8, h0_9, ()) (kdt (r0, ())) :=
  ⟨⟨fun s : (List Int) × (List Int) × (List TOut) × Int × Int × Int × (List Int) × (List TOut) × Int × Int × Int × Int × Int × Int × (List Int) × Unit => (s.1 = s1 ∧ s.2.2.1 = s21 ∧ s.2.2.2.1 = s22 ∧ s.2.2.2.2.2.1 = h0_0 ∧ s.2.2.2.2.2.2.1 = h0_1 ∧ s.2.2.2.2.2.2.2.1 = h0_2 ∧ s.2.2.2.2.2.2.2.2.1 = h0_3 ∧ s.2.2.2.2.2.2.2.2.2.1 = h0_4 ∧ s.2.2.2.2.2.2.2.2.2.2.1 = h0_5 ∧ s.2.2.2.2.2.2.2.2.2.2.2.1 = h0_6 ∧ s.2.2.2.2.2.2.2.2.2.2.2.2.1 = h0_7 ∧ s.2.2.2.2.2.2.2.2.2.2.2.2.2.1 = h0_8 ∧ s.2.2.2.2.2.2.2.2.2.2.2.2.2.2.1 = h0_9) ∧ inv s.2.1 s.2.2.2.2.1, fun s : (List Int) × (List Int) × (List TOut) × Int × Int × Int × (List Int) × (List TOut) × Int × Int × Int × Int × Int × Int × (List Int) × Unit => μ s.2.1 s.2.2.2.2.1, ⟨⟨rfl, rfl, rfl, rfl, rfl, rfl, rfl, rfl, rfl, rfl, rfl, rfl, rfl⟩, h0⟩, fun (s1p, s5p, s21p, s22p, s23p, h0_0p, h0_1p, h0_2p, h0_3p, h0_4p, h0_5p, h0_6p, h0_7p, h0_8p, h0_9p, ()) ⟨⟨eq0, eq1, eq2, eq3, eq4, eq5, eq6, eq7, eq8, eq9, eq10, eq11, eq12⟩, hi⟩ => by
    have eq0 : s1p = s1 := eq0; subst s1p; have eq1 : s21p = s21 := eq1; subst s21p; have eq2 : s22p = s22 := eq2; subst s22p; have eq3 : h0_0p = h0_0 := eq3; subst h0_0p; have eq4 : h0_1p = h0_1 := eq4; subst h0_1p; have eq5 : h0_2p = h0_2 := eq5; subst h0_2p; have eq6 : h0_3p = h0_3 := eq6; subst h0_3p; have eq7 : h0_4p = h0_4 := eq7; subst h0_4p; have eq8 : h0_5p = h0_5 := eq8; subst h0_5p; have eq9 : h0_6p = h0_6 := eq9; subst h0_6p; have eq10 : h0_7p = h0_7 := eq10; subst h0_7p; have eq11 : h0_8p = h0_8 := eq11; subst h0_8p; have eq12 : h0_9p = h0_9 := eq12; subst h0_9p; exact mpr_of (by kernel_rfl) ((congrArg (fun k => kwy r0 k s1 s21 s22 h0_0 h0_1 h0_2 h0_3 h0_4 h0_5 h0_6 h0_7 h0_8 h0_9 s5p s23p) (lpk2 (⟨rfl, rfl, rfl, rfl, rfl, rfl, rfl, rfl, rfl, rfl, rfl, rfl, rfl⟩ : s1 = s1 ∧ s21 = s21 ∧ s22 = s22 ∧ h0_0 = h0_0 ∧ h0_1 = h0_1 ∧ h0_2 = h0_2 ∧ h0_3 = h0_3 ∧ h0_4 = h0_4 ∧ h0_5 = h0_5 ∧ h0_6 = h0_6 ∧ h0_7 = h0_7 ∧ h0_8 = h0_8 ∧ h0_9 = h0_9) inv (fun s5q s23q => μ s5q s23q < μ s5p s23p))).mpr (hs s5p s23p hi))⟩⟩
theorem bd72 : Callable Try.prog 72 := ⟨by rw [Try.func72]; kernel_rfl, by rw [Try.func72]; show some _ ≠ some _; decide⟩
theorem k19f (p0 : TTx) (p1 : List Int) (h : TR p0 ∧ TL p0 ∧ p0.Outs.length ≤ 1048576 ∧ (∀ x ∈ p0.Outs, x.Cipher.length ≤ 1024) ∧ p1.length ≤ 4294967295) : kjo (p0.Anchor, p0.Marks, p0.Outs, p0.Deposit, p0.Withdraw, p0.Fee, p0.Account, p0.Nonce, p0.Expiry, p0.Proof, p1, ()) (((encT p0 p1) : List Int), ()) := by
  obtain ⟨hr, hl, ho, hc, hp⟩ := h
  have hm := hl.m
  have hol := kao
  refine k1fv ⟨⟨hr.a, by simp⟩, ⟨hr.m, by simp, hm⟩, ⟨by omega, by simp; omega⟩, ?_⟩
  refine k1bk (fun b i => 0 ≤ i ∧ i ≤ p0.Outs.length ∧ b = dig 8 p0.Anchor ++ encL p0.Marks ++ dig 4 (len4 p0.Outs.length) ++ (p0.Outs.take i.toNat).flatMap encO) (fun _ i => (p0.Outs.length - i).toNat) ⟨by omega, by omega, by simp⟩ ?_
  rintro b i ⟨g0, g1, rfl⟩
  have hb := kao (p0.Outs.take i.toNat) 1024 (fun x hx => hc x (List.mem_of_mem_take hx))
  rw [List.length_take] at hb
  have hb : ((p0.Outs.take i.toNat).flatMap encO).length ≤ 8700000000 := by
    refine Nat.le_trans hb ?_
    have : min i.toNat p0.Outs.length ≤ 1048576 := by omega
    have := Nat.mul_le_mul_left (28 + 8 * 1024) this
    omega
  refine ⟨fun h => ?_, fun h => ?_⟩
  · have h := of_decide_eq_true h
    have hx := hr.o _ (ix_mem p0.Outs i g0 h)
    have hxc := hc _ (ix_mem p0.Outs i g0 h)
    rw [inc i p0.Outs.length g0 h (by omega)]
    refine ⟨g0, h, ⟨hx.c, ?_⟩, ⟨hx.p0, ?_⟩, ⟨hx.p1, ?_⟩, ⟨hx.ci, ?_, by omega⟩, ⟨by omega, by omega, ?_⟩, by omega⟩
    · simp only [List.length_append, k19, k88]; omega
    · simp only [List.length_append, k19, k88]; omega
    · simp only [List.length_append, k19, k88]; omega
    · simp only [List.length_append, k19, k88]; omega
    · rw [ka p0.Outs i g0 h, List.flatMap_append]
      simp [encO, List.append_assoc]
  · have h := of_decide_eq_false h
    rw [List.take_of_length_le (by omega)] at hb ⊢
    refine ⟨⟨hr.d, ?_⟩, ⟨hr.w, ?_⟩, ⟨hr.f, ?_⟩, ⟨hr.ac, ?_⟩, ⟨hr.n, ?_⟩, ⟨hr.e, ?_⟩, ⟨?_, hp⟩, rfl⟩ <;> simp only [List.length_append, k19, k88] <;> omega
noncomputable def kvr : Con TB.den := k2j.fnR (fun x => (fun (p0 : TTx) (p1 : List Int) => TR p0 ∧ TL p0 ∧ p0.Outs.length ≤ 1048576 ∧ (∀ x ∈ p0.Outs, x.Cipher.length ≤ 1024) ∧ p1.length ≤ 4294967295) (TTx.mk x.1 x.2.1 x.2.2.1 x.2.2.2.1 x.2.2.2.2.1 x.2.2.2.2.2.1 x.2.2.2.2.2.2.1 x.2.2.2.2.2.2.2.1 x.2.2.2.2.2.2.2.2.1 x.2.2.2.2.2.2.2.2.2.1) x.2.2.2.2.2.2.2.2.2.2.1) fun x => ((fun (p0 : TTx) (p1 : List Int) => ((encT p0 p1) : List Int)) (TTx.mk x.1 x.2.1 x.2.2.1 x.2.2.2.1 x.2.2.2.2.1 x.2.2.2.2.2.1 x.2.2.2.2.2.2.1 x.2.2.2.2.2.2.2.1 x.2.2.2.2.2.2.2.2.1 x.2.2.2.2.2.2.2.2.2.1) x.2.2.2.2.2.2.2.2.2.2.1, ())
theorem k1fu : kvr.Ok Try.prog TB := Con.ok_fn k2j bd72 fun x h => k1cg (k19f (TTx.mk x.1 x.2.1 x.2.2.1 x.2.2.2.1 x.2.2.2.2.1 x.2.2.2.2.2.1 x.2.2.2.2.2.2.1 x.2.2.2.2.2.2.2.1 x.2.2.2.2.2.2.2.2.1 x.2.2.2.2.2.2.2.2.2.1) x.2.2.2.2.2.2.2.2.2.2.1 h)
end Go.Proofs.Ytnmakgfmimagmaa
namespace Go.Proofs.Ytnmakgfmimagmaa
open Go Go.Bv Go.Cv Go.Md Go.RowKit
def k3i : Con TB.den := Con.mk0 45 [.agg [.d (.int .u64), .d (.sl (.int .u64)), .d (.sl (.st 0)), .d (.int .u64), .d (.int .u64), .d (.int .u64), .d (.int .u64), .d (.int .u64), .d (.int .i64), .d (.sl (.int .u8))]] [] (.tup [.one (.d (.sl (.int .u8))), .one (.d (.int .i64))]) []
abbrev k111 := HL TB.den (hsT k3i.ins (hsOs k3i.pre))
abbrev kku := HL TB.den (hsV k3i.res (hsOs k3i.post))
noncomputable def kdb : Cx TB := ⟨inf, [knu, kvr], [], 4, []⟩
noncomputable def kka : Code := Try.f45.body.getD .skip
noncomputable def ko9 : List ResultVar := Try.f45.results.toList
noncomputable def kx9 (o : kku) : An TB := .no
noncomputable def kjk (x : k111) (o : kku) : Prop := WPh TB kdb 14 0 kka (kx9 o) (k3i.st TB x) (retTQ TB kdb k3i ko9 o)
set_option maxRecDepth 100000 in
theorem k1d6 (o : kku) : OblH TB kdb 14 0 kka (kx9 o) (retTQ TB kdb k3i ko9 o) :=
  OblH.of_eq (X := (True ∧ ((True ∧ (True ∧ ((True ∧ True) ∧ True))) ∧ (True ∧ True)))) (by kernel_rfl) ⟨trivial, ⟨⟨trivial, ⟨trivial, ⟨⟨trivial, trivial⟩, trivial⟩⟩⟩, ⟨trivial, trivial⟩⟩⟩
set_option maxRecDepth 100000 in
theorem k1dy {x : k111} {o : kku} (h : kjk x o) : SoundH Try.prog k3i.f ((k3i.args idf x).map (er TB)) ((k3i.obs idf x).map (erO TB)) (er TB (k3i.val idf o)) ((k3i.ops idf o).map (erO TB)) :=
  Con.soundH (c := k3i) (C := kdb) TBok ⟨inf_ok, (all_cons k11j (all_cons k1fu all_nil)), all_nil⟩ mix Try.func45 (show Try.f45.body = some kka by kernel_rfl) (show Try.f45.ntmps = 14 by kernel_rfl) (show Try.f45.results.toList = ko9 by kernel_rfl) rfl h (k1d6 o)
set_option maxRecDepth 100000 in
theorem k1et {p0 : TTx} {r0 : List Int} {r1 : Int} (h :
((((validE p0) != 0) = true →
([] : List Int) = r0 ∧ (validE p0) = r1) ∧
(((validE p0) != 0) = false →
(TR p0 ∧ TL p0 ∧ p0.Outs.length ≤ 1048576 ∧ (∀ x ∈ p0.Outs, x.Cipher.length ≤ 1024) ∧ p0.Proof.length ≤ 4294967295) ∧ (encT p0 p0.Proof) = r0 ∧ 0 = r1))) : kjk (p0.Anchor, p0.Marks, p0.Outs, p0.Deposit, p0.Withdraw, p0.Fee, p0.Account, p0.Nonce, p0.Expiry, p0.Proof, ()) (r0, r1, ()) := WPh.of_eq (by kernel_rfl) h
theorem bd45 : Callable Try.prog 45 := ⟨by rw [Try.func45]; kernel_rfl, by rw [Try.func45]; show some _ ≠ some _; decide⟩
theorem k18p (p0 : TTx) (h : TR p0) : kjk (p0.Anchor, p0.Marks, p0.Outs, p0.Deposit, p0.Withdraw, p0.Fee, p0.Account, p0.Nonce, p0.Expiry, p0.Proof, ()) (((if validE p0 = 0 then encT p0 p0.Proof else []) : List Int), ((validE p0) : Int), ()) := by
  refine k1et ⟨fun e => ?_, fun e => ?_⟩
  · have e : validE p0 ≠ 0 := by simpa using e
    rw [if_neg e]
    exact ⟨rfl, rfl⟩
  · have e : validE p0 = 0 := by simpa using e
    have v := (k71 p0).1 e
    rw [if_pos e, e]
    exact ⟨⟨h, v.tl, by have := v.ol; omega, fun x hx => by have := (v.o x hx).l; omega, v.tl.p⟩, rfl, rfl⟩
noncomputable def kgr : Con TB.den := k3i.fnR (fun x => (fun (p0 : TTx) => TR p0) (TTx.mk x.1 x.2.1 x.2.2.1 x.2.2.2.1 x.2.2.2.2.1 x.2.2.2.2.2.1 x.2.2.2.2.2.2.1 x.2.2.2.2.2.2.2.1 x.2.2.2.2.2.2.2.2.1 x.2.2.2.2.2.2.2.2.2.1)) fun x => ((fun (p0 : TTx) => ((if validE p0 = 0 then encT p0 p0.Proof else []) : List Int)) (TTx.mk x.1 x.2.1 x.2.2.1 x.2.2.2.1 x.2.2.2.2.1 x.2.2.2.2.2.1 x.2.2.2.2.2.2.1 x.2.2.2.2.2.2.2.1 x.2.2.2.2.2.2.2.2.1 x.2.2.2.2.2.2.2.2.2.1), (fun (p0 : TTx) => ((validE p0) : Int)) (TTx.mk x.1 x.2.1 x.2.2.1 x.2.2.2.1 x.2.2.2.2.1 x.2.2.2.2.2.1 x.2.2.2.2.2.2.1 x.2.2.2.2.2.2.2.1 x.2.2.2.2.2.2.2.2.1 x.2.2.2.2.2.2.2.2.2.1), ())
theorem kop : kgr.Ok Try.prog TB := Con.ok_fn k3i bd45 fun x h => k1dy (k18p (TTx.mk x.1 x.2.1 x.2.2.1 x.2.2.2.1 x.2.2.2.2.1 x.2.2.2.2.2.1 x.2.2.2.2.2.2.1 x.2.2.2.2.2.2.2.1 x.2.2.2.2.2.2.2.2.1 x.2.2.2.2.2.2.2.2.2.1) h)
end Go.Proofs.Ytnmakgfmimagmaa
namespace Go.Proofs.Ytnmakgfmimagmaa
open Go Go.Bv Go.Cv Go.Md Go.RowKit
def k38 : Con TB.den := Con.mk0 30 [.agg [.d (.int .u64), .d (.sl (.int .u64)), .d (.sl (.st 0)), .d (.int .u64), .d (.int .u64), .d (.int .u64), .d (.int .u64), .d (.int .u64), .d (.int .i64), .d (.sl (.int .u8))]] [] (.one (.one (.d (.int .i64)))) []
abbrev k10q := HL TB.den (hsT k38.ins (hsOs k38.pre))
abbrev kl1 := HL TB.den (hsV k38.res (hsOs k38.post))
noncomputable def ker : Cx TB := ⟨inf, [kgr], [], 4, []⟩
noncomputable def kkm : Code := Try.f30.body.getD .skip
noncomputable def kmz : List ResultVar := Try.f30.results.toList
noncomputable def kyd (o : kl1) : An TB := .no
noncomputable def kk8 (x : k10q) (o : kl1) : Prop := WPh TB ker 14 0 kkm (kyd o) (k38.st TB x) (retTQ TB ker k38 kmz o)
set_option maxRecDepth 100000 in
theorem k1bc (o : kl1) : OblH TB ker 14 0 kkm (kyd o) (retTQ TB ker k38 kmz o) :=
  OblH.of_eq (X := (True ∧ (True ∧ ((True ∧ ((True ∧ True) ∧ True)) ∧ (True ∧ True))))) (by kernel_rfl) ⟨trivial, ⟨trivial, ⟨⟨trivial, ⟨⟨trivial, trivial⟩, trivial⟩⟩, ⟨trivial, trivial⟩⟩⟩⟩
set_option maxRecDepth 100000 in
theorem k1c2 {x : k10q} {o : kl1} (h : kk8 x o) : SoundH Try.prog k38.f ((k38.args idf x).map (er TB)) ((k38.obs idf x).map (erO TB)) (er TB (k38.val idf o)) ((k38.ops idf o).map (erO TB)) :=
  Con.soundH (c := k38) (C := ker) TBok ⟨inf_ok, (all_cons kop all_nil), all_nil⟩ mix Try.func30 (show Try.f30.body = some kkm by kernel_rfl) (show Try.f30.ntmps = 14 by kernel_rfl) (show Try.f30.results.toList = kmz by kernel_rfl) rfl h (k1bc o)
set_option maxRecDepth 100000 in
theorem k1fn {p0 : TTx} {r0 : Int} (h :
((TR p0) ∧ let r1 : List Int := (if validE p0 = 0 then encT p0 p0.Proof else [])
(((validE p0) != 0) = true →
 0 = r0) ∧
(((validE p0) != 0) = false →
(r1.length : Int) = r0))) : kk8 (p0.Anchor, p0.Marks, p0.Outs, p0.Deposit, p0.Withdraw, p0.Fee, p0.Account, p0.Nonce, p0.Expiry, p0.Proof, ()) (r0, ()) := WPh.of_eq (by kernel_rfl) h
theorem bd30 : Callable Try.prog 30 := ⟨by rw [Try.func30]; kernel_rfl, by rw [Try.func30]; show some _ ≠ some _; decide⟩
theorem k18o (p0 : TTx) (h : TR p0) : kk8 (p0.Anchor, p0.Marks, p0.Outs, p0.Deposit, p0.Withdraw, p0.Fee, p0.Account, p0.Nonce, p0.Expiry, p0.Proof, ()) (((weightS p0) : Int), ()) := by
  refine k1fn ⟨h, ?_⟩
  unfold weightS
  refine ⟨fun e => ?_, fun e => ?_⟩
  · have e : validE p0 ≠ 0 := by simpa using e
    rw [if_neg e]
  · have e : validE p0 = 0 := by simpa using e
    rw [if_pos e, if_pos e]
noncomputable def kw2 : Con TB.den := k38.fnR (fun x => (fun (p0 : TTx) => TR p0) (TTx.mk x.1 x.2.1 x.2.2.1 x.2.2.2.1 x.2.2.2.2.1 x.2.2.2.2.2.1 x.2.2.2.2.2.2.1 x.2.2.2.2.2.2.2.1 x.2.2.2.2.2.2.2.2.1 x.2.2.2.2.2.2.2.2.2.1)) fun x => ((fun (p0 : TTx) => ((weightS p0) : Int)) (TTx.mk x.1 x.2.1 x.2.2.1 x.2.2.2.1 x.2.2.2.2.1 x.2.2.2.2.2.1 x.2.2.2.2.2.2.1 x.2.2.2.2.2.2.2.1 x.2.2.2.2.2.2.2.2.1 x.2.2.2.2.2.2.2.2.2.1), ())
theorem k1g1 : kw2.Ok Try.prog TB := Con.ok_fn k38 bd30 fun x h => k1c2 (k18o (TTx.mk x.1 x.2.1 x.2.2.1 x.2.2.2.1 x.2.2.2.2.1 x.2.2.2.2.2.1 x.2.2.2.2.2.2.1 x.2.2.2.2.2.2.2.1 x.2.2.2.2.2.2.2.2.1 x.2.2.2.2.2.2.2.2.2.1) h)
end Go.Proofs.Ytnmakgfmimagmaa
namespace Go.Proofs.Ytnmakgfmimagmaa
open Go Go.Bv Go.Cv Go.Md Go.RowKit
def k15 : Con TB.den := Con.mk0 12 [.agg [.d (.int .u64), .d (.int .i64), .d (.int .u64), .d (.int .u64), .d (.int .u64), .d (.sl (.st 1))]] [] (.one (.one (.d (.int .i64)))) []
abbrev kv2 := HL TB.den (hsT k15.ins (hsOs k15.pre))
abbrev kq := HL TB.den (hsV k15.res (hsOs k15.post))
noncomputable def k1z : Cx TB := ⟨inf, [knu, kw2], [], 4, []⟩
noncomputable def k41 : Code := Try.f12.body.getD .skip
noncomputable def k6w : List ResultVar := Try.f12.results.toList
noncomputable def k193 (o : kq) : Exit → TSt TB.den → Prop := thenT TB (fun s => ghs TB [] s fun s => WP TB k1z 52 0 (cB (cB (cB (cB k41)))) .no s (retTQ TB k1z k15 k6w o)) (retTQ TB k1z k15 k6w o)
def k6x : Tm := ⟨[], [], [3, 36, 37, 38], [.one (.d (.int .i64)), .one (.d (.sl (.st 1))), .one (.d (.int .i64)), .one (.d (.int .i64))], 1⟩
noncomputable def k17n (o : kq) (nx1 : HL TB.den k6x.hs → Prop) : Exit → TSt TB.den → Prop := thenT TB (fun s => k6x.mat TB 0 s nx1) (blockT TB 1 (k193 o))
noncomputable def kb1 (o : kq) (nx1 : HL TB.den k6x.hs → Prop) (i : HL TB.den k6x.hs) : Prop := WP TB k1z 52 0 (cA (cA (cB (cA (cB (cB (cB k41))))))) .no (k6x.fill TB i) (k17n o nx1)
noncomputable def ksw (o : kq) : An TB := .nd [] .no [] (.lp [] k6x (kb1 o) fun nx1 => .no)
def k9y : Tm := ⟨[0], [.cells [.d (.int .u64), .d (.int .i64), .d (.int .u64), .d (.int .u64), .d (.int .u64), .d (.sl (.st 1))]], [1], [.one (.ptr 0 0)], 1⟩
noncomputable def kq9 (o : kq) (i : HL TB.den k9y.hs) : Prop := ghs TB [] (k9y.fill TB i) fun s => WP TB k1z 52 0 (cB (cB k41)) (.nd [] .no [] (.nd [] (ksw o) [] .no)) s (retTQ TB k1z k15 k6w o)
structure k57 (o : kq) (i : HL TB.den k9y.hs) : Prop where
  h : kq9 o i
noncomputable def ks6 (o : kq) : Exit → TSt TB.den → Prop := thenT TB (fun s => k9y.mat TB 0 s (k57 o)) (retTQ TB k1z k15 k6w o)
noncomputable def kk9 (o : kq) : Exit → TSt TB.den → Prop := thenT TB (fun s => ghs TB [] s fun s => WP TB k1z 52 0 (cB (cA (cA (cB k41)))) .no s (blockT TB 0 (ks6 o))) (blockT TB 0 (ks6 o))
def kda : Tm := ⟨[0], [.cells [.d (.int .u64), .d (.int .i64), .d (.int .u64), .d (.int .u64), .d (.int .u64), .d (.sl (.st 1))]], [1, 6], [.one (.ptr 0 0), .one (.d (.bool))], 1⟩
noncomputable def kqb (o : kq) (i : HL TB.den kda.hs) : Prop := ghs TB [] (kda.fill TB i) fun s => WP TB k1z 52 0 (cB (cB (cB (cB (cB (cA (cA (cA (cB k41))))))))) .no s (kk9 o)
structure k8g (o : kq) (i : HL TB.den kda.hs) : Prop where
  h : kqb o i
noncomputable def kpg (o : kq) : An TB := .nd [] .no [] (.jn kda (k8g o) [] .no [] .no)
def kd8 : Tm := ⟨[0], [.cells [.d (.int .u64), .d (.int .i64), .d (.int .u64), .d (.int .u64), .d (.int .u64), .d (.sl (.st 1))]], [1, 6], [.one (.ptr 0 0), .one (.d (.bool))], 1⟩
noncomputable def kpv (o : kq) (i : HL TB.den kd8.hs) : Prop := ghs TB [] (kd8.fill TB i) fun s => WP TB k1z 52 0 (cB (cB (cB (cA (cA (cA (cB k41))))))) (kpg o) s (kk9 o)
structure k8h (o : kq) (i : HL TB.den kd8.hs) : Prop where
  h : kpv o i
noncomputable def kpw (o : kq) : An TB := .jn kd8 (k8h o) [] .no [] (kpg o)
def kd6 : Tm := ⟨[0], [.cells [.d (.int .u64), .d (.int .i64), .d (.int .u64), .d (.int .u64), .d (.int .u64), .d (.sl (.st 1))]], [1, 6], [.one (.ptr 0 0), .one (.d (.bool))], 1⟩
noncomputable def kpd (o : kq) (i : HL TB.den kd6.hs) : Prop := ghs TB [] (kd6.fill TB i) fun s => WP TB k1z 52 0 (cB (cA (cA (cA (cB k41))))) (.nd [] .no [] (kpw o)) s (kk9 o)
structure k8d (o : kq) (i : HL TB.den kd6.hs) : Prop where
  h : kpd o i
noncomputable def k17c (o : kq) : An TB := .jn kd6 (k8d o) [] .no [] (.nd [] .no [] (kpw o))
noncomputable def k14q (o : kq) : An TB := .jn k9y (k57 o) [] (.nd [] (k17c o) [] .no) [] (.nd [] .no [] (.nd [] (ksw o) [] .no))
noncomputable def kru (o : kq) : An TB := .nd [] .no [] (k14q o)
noncomputable def kh7 (x : kv2) (o : kq) : Prop := WPh TB k1z 52 0 k41 (kru o) (k15.st TB x) (retTQ TB k1z k15 k6w o)
set_option maxRecDepth 100000 in
theorem k14j (o : kq) : OblH TB k1z 52 0 k41 (kru o) (retTQ TB k1z k15 k6w o) :=
  OblH.of_eq (X := (True ∧ (((True ∧ (∀ i, (k8d o) i = (kpd o) i) ∧ (True ∧ (True ∧ (∀ i, (k8h o) i = (kpv o) i) ∧ (True ∧ (True ∧ (∀ i, (k8g o) i = (kqb o) i) ∧ (True ∧ True)))))) ∧ ((True ∧ True) ∧ True)) ∧ (∀ i, (k57 o) i = (kq9 o) i) ∧ (True ∧ ((True ∧ ((∀ nx i, (kb1 o) nx i = (kb1 o) nx i) ∧ ∀ nx1 : HL TB.den k6x.hs → Prop, (True ∧ ((True ∧ True) ∧ ((True ∧ ((True ∧ ((True ∧ True) ∧ True)) ∧ True)) ∧ True))))) ∧ ((True ∧ ((True ∧ True) ∧ True)) ∧ (True ∧ True))))))) (by kernel_rfl) ⟨trivial, ⟨⟨⟨trivial, fun _ => propext ⟨fun h => h.1, fun h => ⟨h⟩⟩, ⟨trivial, ⟨trivial, fun _ => propext ⟨fun h => h.1, fun h => ⟨h⟩⟩, ⟨trivial, ⟨trivial, fun _ => propext ⟨fun h => h.1, fun h => ⟨h⟩⟩, ⟨trivial, trivial⟩⟩⟩⟩⟩⟩, ⟨⟨trivial, trivial⟩, trivial⟩⟩, fun _ => propext ⟨fun h => h.1, fun h => ⟨h⟩⟩, ⟨trivial, ⟨⟨trivial, ⟨fun _ _ => rfl, fun _ => ⟨trivial, ⟨⟨trivial, trivial⟩, ⟨⟨trivial, ⟨⟨trivial, ⟨⟨trivial, trivial⟩, trivial⟩⟩, trivial⟩⟩, trivial⟩⟩⟩⟩⟩, ⟨⟨trivial, ⟨⟨trivial, trivial⟩, trivial⟩⟩, ⟨trivial, trivial⟩⟩⟩⟩⟩⟩
set_option maxRecDepth 100000 in
theorem k17k {x : kv2} {o : kq} (h : kh7 x o) : SoundH Try.prog k15.f ((k15.args idf x).map (er TB)) ((k15.obs idf x).map (erO TB)) (er TB (k15.val idf o)) ((k15.ops idf o).map (erO TB)) :=
  Con.soundH (c := k15) (C := k1z) TBok ⟨inf_ok, (all_cons k11j (all_cons k1g1 all_nil)), all_nil⟩ mix Try.func12 (show Try.f12.body = some k41 by kernel_rfl) (show Try.f12.ntmps = 52 by kernel_rfl) (show Try.f12.results.toList = k6w by kernel_rfl) rfl h (k14j o)
set_option maxRecDepth 100000 in
theorem k17p {p0 : TBlock} {r0 : Int} (h :
((decide (p0.Height < 1) = true →
 k8d (r0, ()) (true, p0.Parent, p0.Height, p0.Miner, p0.Work, p0.Nonce, p0.Txs, ())) ∧
(decide (p0.Height < 1) = false →
 k8d (r0, ()) ((decide (1048576 < p0.Height) : Bool), p0.Parent, p0.Height, p0.Miner, p0.Work, p0.Nonce, p0.Txs, ())))) : kh7 (p0.Parent, p0.Height, p0.Miner, p0.Work, p0.Nonce, p0.Txs, ()) (r0, ()) := WPh.of_eq (by kernel_rfl) h
set_option maxRecDepth 100000 in
theorem kzu {r0 : Int} {s6 : Bool} {h0_0 : Int} {h0_1 : Int} {h0_2 : Int} {h0_3 : Int} {h0_4 : Int} {h0_5 : List TTx} (h :
((s6 = true →
(s6 = true →
 1 = r0) ∧
(s6 = false →
 k57 (r0, ()) (h0_0, h0_1, h0_2, h0_3, h0_4, h0_5, ()))) ∧
(s6 = false →
(decide (h0_3 < 1) = true →
 k8h (r0, ()) (true, h0_0, h0_1, h0_2, h0_3, h0_4, h0_5, ())) ∧
(decide (h0_3 < 1) = false →
 k8h (r0, ()) ((decide (65536 < h0_3) : Bool), h0_0, h0_1, h0_2, h0_3, h0_4, h0_5, ()))))) : k8d (r0, ()) (s6, h0_0, h0_1, h0_2, h0_3, h0_4, h0_5, ()) := ⟨mpr_of (by kernel_rfl) h⟩
set_option maxRecDepth 100000 in
theorem kzl {r0 : Int} {s6 : Bool} {h0_0 : Int} {h0_1 : Int} {h0_2 : Int} {h0_3 : Int} {h0_4 : Int} {h0_5 : List TTx} (h :
((s6 = true →
(s6 = true →
 1 = r0) ∧
(s6 = false →
 k57 (r0, ()) (h0_0, h0_1, h0_2, h0_3, h0_4, h0_5, ()))) ∧
(s6 = false →
(decide (18446744069414584321 ≤ h0_0) = true →
 k8g (r0, ()) (true, h0_0, h0_1, h0_2, h0_3, h0_4, h0_5, ())) ∧
(decide (18446744069414584321 ≤ h0_0) = false →
 k8g (r0, ()) ((decide (18446744069414584321 ≤ h0_2) : Bool), h0_0, h0_1, h0_2, h0_3, h0_4, h0_5, ()))))) : k8h (r0, ()) (s6, h0_0, h0_1, h0_2, h0_3, h0_4, h0_5, ()) := ⟨mpr_of (by kernel_rfl) h⟩
set_option maxRecDepth 100000 in
theorem k106 {r0 : Int} {s6 : Bool} {h0_0 : Int} {h0_1 : Int} {h0_2 : Int} {h0_3 : Int} {h0_4 : Int} {h0_5 : List TTx} (h :
((s6 = true →
(s6 = true →
 1 = r0) ∧
(s6 = false →
 k57 (r0, ()) (h0_0, h0_1, h0_2, h0_3, h0_4, h0_5, ()))) ∧
(s6 = false →
(decide (64 < (h0_5.length : Int)) = true →
 1 = r0) ∧
(decide (64 < (h0_5.length : Int)) = false →
 k57 (r0, ()) (h0_0, h0_1, h0_2, h0_3, h0_4, h0_5, ()))))) : k8g (r0, ()) (s6, h0_0, h0_1, h0_2, h0_3, h0_4, h0_5, ()) := ⟨mpr_of (by kernel_rfl) h⟩
set_option maxRecDepth 100000 in
theorem k100 {r0 : Int} {h0_0 : Int} {h0_1 : Int} {h0_2 : Int} {h0_3 : Int} {h0_4 : Int} {h0_5 : List TTx} (h :
(Md.Loop ((0 : Int), h0_5, ((h0_5.length : Int) : Int), (0 : Int), ()) (kb1 (r0, ())))) : k57 (r0, ()) (h0_0, h0_1, h0_2, h0_3, h0_4, h0_5, ()) := ⟨mpr_of (by kernel_rfl) h⟩
def ksr (r0 : Int) (k1 : Int → Int → Prop) (s36 : List TTx) (s37 : Int) (s3 : Int) (s38 : Int) : Prop :=
(decide (s38 < s37) = true →
(0 ≤ s38) ∧ s38 < (s36.length : Int) ∧ (((validE (ix s36 s38)) != 0) = true →
 1 = r0) ∧
(((validE (ix s36 s38)) != 0) = false →
(TR (ix s36 s38)) ∧ let v1 : Int := IntKind.i64.wrap (s3 + (weightS (ix s36 s38)))
 k1 v1 (IntKind.i64.wrap (s38 + 1) : Int))) ∧
(decide (s38 < s37) = false →
(decide (2097152 < s3) = true →
 3 = r0) ∧
(decide (2097152 < s3) = false →
 0 = r0))
set_option maxRecDepth 100000 in
theorem k148 {r0 : Int} {s36 : List TTx} {s37 : Int} {s3 : Int} {s38 : Int} (inv : Int → Int → Prop) (μ : Int → Int → Nat) (h0 : inv s3 s38) (hs : ∀ (s3 : Int) (s38 : Int), inv s3 s38 → ksr r0 (fun s3q s38q => inv s3q s38q ∧ μ s3q s38q < μ s3 s38) s36 s37 s3 s38) : Md.Loop (s3, s36, s37, s38, ()) (kb1 (r0, ())) :=
  ⟨⟨fun s : Int × (List TTx) × Int × Int × Unit => (s.2.1 = s36 ∧ s.2.2.1 = s37) ∧ inv s.1 s.2.2.2.1, fun s : Int × (List TTx) × Int × Int × Unit => μ s.1 s.2.2.2.1, ⟨⟨rfl, rfl⟩, h0⟩, fun (s3p, s36p, s37p, s38p, ()) ⟨⟨eq0, eq1⟩, hi⟩ => by
    have eq0 : s36p = s36 := eq0; subst s36p; have eq1 : s37p = s37 := eq1; subst s37p; exact mpr_of (by kernel_rfl) ((congrArg (fun k => ksr r0 k s36 s37 s3p s38p) (lpk2 (⟨rfl, rfl⟩ : s36 = s36 ∧ s37 = s37) inv (fun s3q s38q => μ s3q s38q < μ s3p s38p))).mpr (hs s3p s38p hi))⟩⟩
theorem bd12 : Callable Try.prog 12 := ⟨by rw [Try.func12]; kernel_rfl, by rw [Try.func12]; show some _ ≠ some _; decide⟩
theorem k121 (p0 : TBlock) (h : ∀ x ∈ p0.Txs, TR x) : kh7 (p0.Parent, p0.Height, p0.Miner, p0.Work, p0.Nonce, p0.Txs, ()) (((validB p0) : Int), ()) := by
  have bad : ∀ b : Bool, b = true → ¬ VB0 p0 → (1 : Int) = validB p0 := fun _ _ hn => (kcu hn).symm
  have j4 : VB0 p0 → k57 (validB p0, ()) (p0.Parent, p0.Height, p0.Miner, p0.Work, p0.Nonce, p0.Txs, ()) := by
    intro hc
    have hl := hc.l
    refine k100 (k148 (fun w i => 0 ≤ i ∧ i ≤ p0.Txs.length ∧ w = sumW (p0.Txs.take i.toNat) ∧ ∀ t ∈ p0.Txs.take i.toNat, validE t = 0) (fun _ i => (p0.Txs.length - i).toNat) ⟨by omega, by omega, by simp [sumW], by simp⟩ ?_)
    rintro w i ⟨g0, g1, rfl, g3⟩
    have hb := sumW_bd _ g3
    rw [List.length_take] at hb
    refine ⟨fun hh => ?_, fun hh => ?_⟩
    · have hh := of_decide_eq_true hh
      have hm := ix_mem p0.Txs i g0 hh
      refine ⟨g0, hh, fun e => ?_, fun e => ⟨h _ hm, ?_⟩⟩
      · have e : validE (ix p0.Txs i) ≠ 0 := by simpa using e
        exact (k1am hm e).symm
      · have e : validE (ix p0.Txs i) = 0 := by simpa using e
        have hw := kt1 e
        rw [inc i p0.Txs.length g0 hh (by omega), wi (sumW (p0.Txs.take i.toNat) + weightS (ix p0.Txs i)) (by omega) (by omega)]
        refine ⟨⟨by omega, by omega, ?_, ?_⟩, by omega⟩
        · rw [ka p0.Txs i g0 hh, k1fk]
        · rw [ka p0.Txs i g0 hh]
          intro t ht
          rcases List.mem_append.1 ht with ht | ht
          · exact g3 t ht
          · rw [List.mem_singleton.1 ht]; exact e
    · have hh := of_decide_eq_false hh
      rw [List.take_of_length_le (by omega)] at g3 hb ⊢
      rw [k1b1 hc g3]
      refine ⟨fun e => ?_, fun e => ?_⟩
      · have e := of_decide_eq_true e
        rw [if_neg (by omega)]
      · have e := of_decide_eq_false e
        rw [if_pos (by omega)]
  have j3 : ∀ s, (s = true → ¬ VB0 p0) → (s = false → p0.Txs.length ≤ 64 → VB0 p0) → k8g (validB p0, ()) (s, p0.Parent, p0.Height, p0.Miner, p0.Work, p0.Nonce, p0.Txs, ()) := by
    intro s h1 h2
    refine k106 ⟨fun e => ⟨fun _ => (kcu (h1 e)).symm, fun e2 => by rw [e] at e2; cases e2⟩, fun e => ⟨fun e2 => ?_, fun e2 => ?_⟩⟩
    · have e2 := of_decide_eq_true e2
      exact (kcu fun v => by have := v.l; omega).symm
    · have e2 := of_decide_eq_false e2
      exact j4 (h2 e (by omega))
  have j2 : ∀ s, (s = true → ¬ VB0 p0) → (s = false → p0.Parent < 18446744069414584321 → p0.Miner < 18446744069414584321 → p0.Txs.length ≤ 64 → VB0 p0) → k8h (validB p0, ()) (s, p0.Parent, p0.Height, p0.Miner, p0.Work, p0.Nonce, p0.Txs, ()) := by
    intro s h1 h2
    refine kzl ⟨fun e => ⟨fun _ => (kcu (h1 e)).symm, fun e2 => by rw [e] at e2; cases e2⟩, fun e => ⟨fun e2 => ?_, fun e2 => ?_⟩⟩
    · have e2 := of_decide_eq_true e2
      exact j3 _ (fun _ v => by have := v.p; omega) (fun h => by cases h)
    · have e2 := of_decide_eq_false e2
      exact j3 _ (fun hd v => by have := of_decide_eq_true hd; have := v.m; omega) (fun hd => h2 e (by omega) (by have := of_decide_eq_false hd; omega))
  have j1 : ∀ s, (s = true → ¬ VB0 p0) → (s = false → 1 ≤ p0.Height ∧ p0.Height ≤ 1048576) → k8d (validB p0, ()) (s, p0.Parent, p0.Height, p0.Miner, p0.Work, p0.Nonce, p0.Txs, ()) := by
    intro s h1 h2
    refine kzu ⟨fun e => ⟨fun _ => (kcu (h1 e)).symm, fun e2 => by rw [e] at e2; cases e2⟩, fun e => ⟨fun e2 => ?_, fun e2 => ?_⟩⟩
    · have e2 := of_decide_eq_true e2
      exact j2 _ (fun _ v => by have := v.w0; omega) (fun h => by cases h)
    · have e2 := of_decide_eq_false e2
      obtain ⟨q1, q2⟩ := h2 e
      exact j2 _ (fun hd v => by have := of_decide_eq_true hd; have := v.w1; omega) (fun hd a b c => ⟨q1, q2, by omega, by have := of_decide_eq_false hd; omega, a, b, c⟩)
  refine k17p ⟨fun e => ?_, fun e => ?_⟩
  · have e := of_decide_eq_true e
    exact j1 _ (fun _ v => by have := v.h0; omega) (fun h => by cases h)
  · have e := of_decide_eq_false e
    exact j1 _ (fun hd v => by have := of_decide_eq_true hd; have := v.h1; omega) (fun hd => ⟨by omega, by have := of_decide_eq_false hd; omega⟩)
noncomputable def kd7 : Con TB.den := k15.fnR (fun x => (fun (p0 : TBlock) => ∀ x ∈ p0.Txs, TR x) (TBlock.mk x.1 x.2.1 x.2.2.1 x.2.2.2.1 x.2.2.2.2.1 x.2.2.2.2.2.1)) fun x => ((fun (p0 : TBlock) => ((validB p0) : Int)) (TBlock.mk x.1 x.2.1 x.2.2.1 x.2.2.2.1 x.2.2.2.2.1 x.2.2.2.2.2.1), ())
theorem kjs : kd7.Ok Try.prog TB := Con.ok_fn k15 bd12 fun x h => k17k (k121 (TBlock.mk x.1 x.2.1 x.2.2.1 x.2.2.2.1 x.2.2.2.2.1 x.2.2.2.2.2.1) h)
end Go.Proofs.Ytnmakgfmimagmaa
namespace Go.Proofs.Ytnmakgfmimagmaa
open Go Go.Bv Go.Cv Go.Md Go.RowKit
def k1w : Con TB.den := Con.mk0 44 [.agg [.d (.int .u64), .d (.int .i64), .d (.int .u64), .d (.int .u64), .d (.int .u64), .d (.sl (.st 1))]] [] (.one (.one (.d (.sl (.int .u8))))) []
abbrev kst := HL TB.den (hsT k1w.ins (hsOs k1w.pre))
abbrev kfa := HL TB.den (hsV k1w.res (hsOs k1w.post))
noncomputable def k9v : Cx TB := ⟨inf, [kgu, kn5], [], 4, []⟩
noncomputable def kfk : Code := Try.f44.body.getD .skip
noncomputable def ki7 : List ResultVar := Try.f44.results.toList
noncomputable def kp5 (o : kfa) : An TB := .no
noncomputable def kfm (x : kst) (o : kfa) : Prop := WPh TB k9v 28 0 kfk (kp5 o) (k1w.st TB x) (retTQ TB k9v k1w ki7 o)
set_option maxRecDepth 100000 in
theorem k11y (o : kfa) : OblH TB k9v 28 0 kfk (kp5 o) (retTQ TB k9v k1w ki7 o) :=
  OblH.of_eq (X := (True ∧ (True ∧ (True ∧ (True ∧ (True ∧ (True ∧ (True ∧ True)))))))) (by kernel_rfl) ⟨trivial, ⟨trivial, ⟨trivial, ⟨trivial, ⟨trivial, ⟨trivial, ⟨trivial, trivial⟩⟩⟩⟩⟩⟩⟩
set_option maxRecDepth 100000 in
theorem k12g {x : kst} {o : kfa} (h : kfm x o) : SoundH Try.prog k1w.f ((k1w.args idf x).map (er TB)) ((k1w.obs idf x).map (erO TB)) (er TB (k1w.val idf o)) ((k1w.ops idf o).map (erO TB)) :=
  Con.soundH (c := k1w) (C := k9v) TBok ⟨inf_ok, (all_cons knc (all_cons k10p all_nil)), all_nil⟩ mix Try.func44 (show Try.f44.body = some kfk by kernel_rfl) (show Try.f44.ntmps = 28 by kernel_rfl) (show Try.f44.results.toList = ki7 by kernel_rfl) rfl h (k11y o)
set_option maxRecDepth 100000 in
theorem k174 {p0 : TBlock} {r0 : List Int} (h :
((U64 p0.Parent ∧ ([] : List Int).length ≤ 137438953472) ∧ ((-9223372036854775808 ≤ p0.Height ∧ p0.Height ≤ 9223372036854775807) ∧ (([] : List Int) ++ dig 8 p0.Parent).length ≤ 137438953472) ∧ let r1 : List Int := ((([] : List Int) ++ dig 8 p0.Parent) ++ dig 4 (len4 p0.Height))
(U64 p0.Miner ∧ r1.length ≤ 137438953472) ∧ (U64 p0.Work ∧ (r1 ++ dig 8 p0.Miner).length ≤ 137438953472) ∧ let r2 : List Int := ((r1 ++ dig 8 p0.Miner) ++ dig 8 p0.Work)
(U64 p0.Nonce ∧ r2.length ≤ 137438953472) ∧ ((-9223372036854775808 ≤ (p0.Txs.length : Int) ∧ (p0.Txs.length : Int) ≤ 9223372036854775807) ∧ (r2 ++ dig 8 p0.Nonce).length ≤ 137438953472) ∧ let r3 : List Int := ((r2 ++ dig 8 p0.Nonce) ++ dig 4 (len4 (p0.Txs.length : Int)))
 r3 = r0)) : kfm (p0.Parent, p0.Height, p0.Miner, p0.Work, p0.Nonce, p0.Txs, ()) (r0, ()) := WPh.of_eq (by kernel_rfl) h
theorem bd44 : Callable Try.prog 44 := ⟨by rw [Try.func44]; kernel_rfl, by rw [Try.func44]; show some _ ≠ some _; decide⟩
theorem k102 (p0 : TBlock) (h : BR p0 ∧ p0.Txs.length ≤ 64) : kfm (p0.Parent, p0.Height, p0.Miner, p0.Work, p0.Nonce, p0.Txs, ()) (((hdrS p0) : List Int), ()) := by
  obtain ⟨hr, hl⟩ := h
  refine k174 ⟨⟨hr.p, by simp⟩, ⟨hr.h, by simp⟩, ⟨hr.m, by simp⟩, ⟨hr.w, by simp⟩, ⟨hr.n, by simp⟩, ⟨⟨by omega, by omega⟩, by simp⟩, ?_⟩
  simp [hdrS]
noncomputable def kh9 : Con TB.den := k1w.fnR (fun x => (fun (p0 : TBlock) => BR p0 ∧ p0.Txs.length ≤ 64) (TBlock.mk x.1 x.2.1 x.2.2.1 x.2.2.2.1 x.2.2.2.2.1 x.2.2.2.2.2.1)) fun x => ((fun (p0 : TBlock) => ((hdrS p0) : List Int)) (TBlock.mk x.1 x.2.1 x.2.2.1 x.2.2.2.1 x.2.2.2.2.1 x.2.2.2.2.2.1), ())
theorem kqh : kh9.Ok Try.prog TB := Con.ok_fn k1w bd44 fun x h => k12g (k102 (TBlock.mk x.1 x.2.1 x.2.2.1 x.2.2.2.1 x.2.2.2.2.1 x.2.2.2.2.2.1) h)
end Go.Proofs.Ytnmakgfmimagmaa
namespace Go.Proofs.Ytnmakgfmimagmaa
open Go Go.Bv Go.Cv Go.Md Go.RowKit
def k2a : Con TB.den := Con.mk0 92 [.agg [.d (.int .u64)]] [] (.one (.one (.d (.bool)))) []
abbrev kve := HL TB.den (hsT k2a.ins (hsOs k2a.pre))
abbrev kgv := HL TB.den (hsV k2a.res (hsOs k2a.post))
noncomputable def kb3 : Cx TB := ⟨inf, [], [], 4, []⟩
noncomputable def kh1 : Code := Try.f92.body.getD .skip
noncomputable def kkc : List ResultVar := Try.f92.results.toList
noncomputable def ksy (o : kgv) : An TB := .no
noncomputable def kh8 (x : kve) (o : kgv) : Prop := WPh TB kb3 13 0 kh1 (ksy o) (k2a.st TB x) (retTQ TB kb3 k2a kkc o)
set_option maxRecDepth 100000 in
theorem k168 (o : kgv) : OblH TB kb3 13 0 kh1 (ksy o) (retTQ TB kb3 k2a kkc o) :=
  OblH.of_eq (X := (True ∧ ((True ∧ ((True ∧ (True ∧ (True ∧ (True ∧ (True ∧ (True ∧ (True ∧ (True ∧ (True ∧ (True ∧ (True ∧ (True ∧ True)))))))))))) ∧ ((True ∧ True) ∧ True))) ∧ (True ∧ True)))) (by kernel_rfl) ⟨trivial, ⟨⟨trivial, ⟨⟨trivial, ⟨trivial, ⟨trivial, ⟨trivial, ⟨trivial, ⟨trivial, ⟨trivial, ⟨trivial, ⟨trivial, ⟨trivial, ⟨trivial, ⟨trivial, trivial⟩⟩⟩⟩⟩⟩⟩⟩⟩⟩⟩⟩, ⟨⟨trivial, trivial⟩, trivial⟩⟩⟩, ⟨trivial, trivial⟩⟩⟩
set_option maxRecDepth 100000 in
theorem k171 {x : kve} {o : kgv} (h : kh8 x o) : SoundH Try.prog k2a.f ((k2a.args idf x).map (er TB)) ((k2a.obs idf x).map (erO TB)) (er TB (k2a.val idf o)) ((k2a.ops idf o).map (erO TB)) :=
  Con.soundH (c := k2a) (C := kb3) TBok ⟨inf_ok, all_nil, all_nil⟩ mix Try.func92 (show Try.f92.body = some kh1 by kernel_rfl) (show Try.f92.ntmps = 13 by kernel_rfl) (show Try.f92.results.toList = kkc by kernel_rfl) rfl h (k168 o)
set_option maxRecDepth 100000 in
theorem k17v {p0 : TField} {r0 : Bool} (h :
(((p0.P == 18446744069414584321) = true →
((p0.P == 18446744069414584321) = true →
 true = r0) ∧
((p0.P == 18446744069414584321) = false →
 false = r0)) ∧
((p0.P == 18446744069414584321) = false →
((p0.P == 17) = true →
((p0.P == 17) = true →
 true = r0) ∧
((p0.P == 17) = false →
 false = r0)) ∧
((p0.P == 17) = false →
((p0.P == 97) = true →
((p0.P == 97) = true →
 true = r0) ∧
((p0.P == 97) = false →
 false = r0)) ∧
((p0.P == 97) = false →
((p0.P == 193) = true →
((p0.P == 193) = true →
 true = r0) ∧
((p0.P == 193) = false →
 false = r0)) ∧
((p0.P == 193) = false →
((p0.P == 257) = true →
((p0.P == 257) = true →
 true = r0) ∧
((p0.P == 257) = false →
 false = r0)) ∧
((p0.P == 257) = false →
((p0.P == 12289) = true →
((p0.P == 12289) = true →
 true = r0) ∧
((p0.P == 12289) = false →
 false = r0)) ∧
((p0.P == 12289) = false →
((p0.P == 65537) = true →
 true = r0) ∧
((p0.P == 65537) = false →
 false = r0))))))))) : kh8 (p0.P, ()) (r0, ()) := WPh.of_eq (by kernel_rfl) h
theorem bd92 : Callable Try.prog 92 := ⟨by rw [Try.func92]; kernel_rfl, by rw [Try.func92]; show some _ ≠ some _; decide⟩
theorem k13c (p0 : TField) (h : p0.P = 18446744069414584321) : kh8 (p0.P, ()) ((true : Bool), ()) := by
  refine k17v ?_
  simp [h]
noncomputable def k62 : Con TB.den := k2a.fnR (fun x => (fun (p0 : TField) => p0.P = 18446744069414584321) (TField.mk x.1)) fun x => ((fun (p0 : TField) => (true : Bool)) (TField.mk x.1), ())
theorem k8e : k62.Ok Try.prog TB := Con.ok_fn k2a bd92 fun x h => k171 (k13c (TField.mk x.1) h)
end Go.Proofs.Ytnmakgfmimagmaa
namespace Go.Proofs.Ytnmakgfmimagmaa
open Go Go.Bv Go.Cv Go.Md Go.RowKit
def k2o : Con TB.den := Con.mk0 107 [.agg [.d (.int .u64)], .one (.d (.int .u64)), .one (.d (.int .u64))] [] (.one (.one (.d (.int .u64)))) []
abbrev k10w := HL TB.den (hsT k2o.ins (hsOs k2o.pre))
abbrev k8b := HL TB.den (hsV k2o.res (hsOs k2o.post))
noncomputable def k6c : Cx TB := ⟨inf, [], [x116], 4, []⟩
noncomputable def kbf : Code := Try.f107.body.getD .skip
noncomputable def ke8 : List ResultVar := Try.f107.results.toList
noncomputable def k1hb (o : k8b) : Exit → TSt TB.den → Prop := thenT TB (fun s => ghs TB [] s fun s => WP TB k6c 28 0 (cB (cB (cB kbf))) .no s (retTQ TB k6c k2o ke8 o)) (retTQ TB k6c k2o ke8 o)
def kgn : Tm := ⟨[0], [.cells [.d (.int .u64)]], [3, 7, 22], [.one (.ptr 0 0), .one (.d (.int .u64)), .one (.d (.bool))], 1⟩
noncomputable def kup (o : k8b) (i : HL TB.den kgn.hs) : Prop := ghs TB [] (kgn.fill TB i) fun s => WP TB k6c 28 0 (cB (cA (cB (cB kbf)))) .no s (k1hb o)
structure kde (o : k8b) (i : HL TB.den kgn.hs) : Prop where
  h : kup o i
noncomputable def k1hw (o : k8b) : An TB := .nd [] (.jn kgn (kde o) [] .no [] .no) [] .no
noncomputable def kyf (o : k8b) : An TB := .nd [] .no [] (.nd [] .no [] (k1hw o))
noncomputable def kje (x : k10w) (o : k8b) : Prop := WPh TB k6c 28 0 kbf (kyf o) (k2o.st TB x) (retTQ TB k6c k2o ke8 o)
set_option maxRecDepth 100000 in
theorem k1cx (o : k8b) : OblH TB k6c 28 0 kbf (kyf o) (retTQ TB k6c k2o ke8 o) :=
  OblH.of_eq (X := (True ∧ (True ∧ ((True ∧ (∀ i, (kde o) i = (kup o) i) ∧ (True ∧ True)) ∧ (True ∧ True))))) (by kernel_rfl) ⟨trivial, ⟨trivial, ⟨⟨trivial, fun _ => propext ⟨fun h => h.1, fun h => ⟨h⟩⟩, ⟨trivial, trivial⟩⟩, ⟨trivial, trivial⟩⟩⟩⟩
set_option maxRecDepth 100000 in
theorem k1c5 {x : k10w} {o : k8b} (h : kje x o) : SoundH Try.prog k2o.f ((k2o.args idf x).map (er TB)) ((k2o.obs idf x).map (erO TB)) (er TB (k2o.val idf o)) ((k2o.ops idf o).map (erO TB)) :=
  Con.soundH (c := k2o) (C := k6c) TBok ⟨inf_ok, all_nil, (all_cons x116_ok all_nil)⟩ mix Try.func107 (show Try.f107.body = some kbf by kernel_rfl) (show Try.f107.ntmps = 28 by kernel_rfl) (show Try.f107.results.toList = ke8 by kernel_rfl) rfl h (k1cx o)
set_option maxRecDepth 100000 in
theorem k1hx {p0 : TField} {p1 : Int} {p2 : Int} {r0 : Int} (h :
((0 ≤ p1 ∧ 0 ≤ p2 ∧ 0 ≤ (0 : Int) ∧ (0 : Int) ≤ 1) ∧ let r1 : Int := (p1 + p2 + (0 : Int)) % 18446744073709551616
 let r2 : Int := (p1 + p2 + (0 : Int)) / 18446744073709551616
((r2 != 0) = true →
 kde (r0, ()) (r1, true, p0.P, ())) ∧
((r2 != 0) = false →
 kde (r0, ()) (r1, (decide (p0.P ≤ r1) : Bool), p0.P, ())))) : kje (p0.P, p1, p2, ()) (r0, ()) := WPh.of_eq (by kernel_rfl) h
set_option maxRecDepth 100000 in
theorem kq5 {r0 : Int} {s7 : Int} {s22 : Bool} {h0_0 : Int} (h :
((s22 = true →
 IntKind.u64.wrap (s7 - h0_0) = r0) ∧
(s22 = false →
 s7 = r0))) : kde (r0, ()) (s7, s22, h0_0, ()) := ⟨mpr_of (by kernel_rfl) h⟩
theorem bd107 : Callable Try.prog 107 := ⟨by rw [Try.func107]; kernel_rfl, by rw [Try.func107]; show some _ ≠ some _; decide⟩
theorem k18d (p0 : TField) (p1 : Int) (p2 : Int) (h : p0.P = 18446744069414584321 ∧ (0 ≤ p1 ∧ p1 < 18446744069414584321) ∧ (0 ≤ p2 ∧ p2 < 18446744069414584321)) : kje (p0.P, p1, p2, ()) ((((p1 + p2) % 18446744069414584321) : Int), ()) := by
  obtain ⟨hP, h1, h2⟩ := h
  refine k1hx ⟨by omega, ?_, ?_⟩
  · intro h
    refine kq5 ⟨fun _ => ?_, fun h => by simp at h⟩
    have h : (p1 + p2 + 0) / 18446744073709551616 ≠ 0 := by simpa using h
    rw [hP, u64w]; omega
  · intro h
    have h : (p1 + p2 + 0) / 18446744073709551616 = 0 := by simpa using h
    refine kq5 ⟨fun g => ?_, fun g => ?_⟩
    · have g := of_decide_eq_true g
      rw [hP] at g ⊢
      rw [u64w]; omega
    · have g := of_decide_eq_false g
      rw [hP] at g
      omega
noncomputable def kw1 : Con TB.den := k2o.fnR (fun x => (fun (p0 : TField) (p1 : Int) (p2 : Int) => p0.P = 18446744069414584321 ∧ (0 ≤ p1 ∧ p1 < 18446744069414584321) ∧ (0 ≤ p2 ∧ p2 < 18446744069414584321)) (TField.mk x.1) x.2.1 x.2.2.1) fun x => ((fun (p0 : TField) (p1 : Int) (p2 : Int) => (((p1 + p2) % 18446744069414584321) : Int)) (TField.mk x.1) x.2.1 x.2.2.1, ())
theorem k1ea : kw1.Ok Try.prog TB := Con.ok_fn k2o bd107 fun x h => k1c5 (k18d (TField.mk x.1) x.2.1 x.2.2.1 h)
end Go.Proofs.Ytnmakgfmimagmaa
namespace Go.Proofs.Ytnmakgfmimagmaa
open Go Go.Bv Go.Cv Go.Md Go.RowKit
def k1g : Con TB.den := Con.mk0 108 [.agg [.d (.int .u64)], .one (.d (.int .u64))] [] (.one (.one (.d (.int .u64)))) []
abbrev kpn := HL TB.den (hsT k1g.ins (hsOs k1g.pre))
abbrev kd9 := HL TB.den (hsV k1g.res (hsOs k1g.post))
noncomputable def k8s : Cx TB := ⟨inf, [], [], 4, []⟩
noncomputable def kdz : Code := Try.f108.body.getD .skip
noncomputable def kgz : List ResultVar := Try.f108.results.toList
noncomputable def kn8 (o : kd9) : An TB := .no
noncomputable def ken (x : kpn) (o : kd9) : Prop := WPh TB k8s 14 0 kdz (kn8 o) (k1g.st TB x) (retTQ TB k8s k1g kgz o)
set_option maxRecDepth 100000 in
theorem kz8 (o : kd9) : OblH TB k8s 14 0 kdz (kn8 o) (retTQ TB k8s k1g kgz o) :=
  OblH.of_eq (X := (True ∧ ((True ∧ (True ∧ True)) ∧ (True ∧ True)))) (by kernel_rfl) ⟨trivial, ⟨⟨trivial, ⟨trivial, trivial⟩⟩, ⟨trivial, trivial⟩⟩⟩
set_option maxRecDepth 100000 in
theorem kzx {x : kpn} {o : kd9} (h : ken x o) : SoundH Try.prog k1g.f ((k1g.args idf x).map (er TB)) ((k1g.obs idf x).map (erO TB)) (er TB (k1g.val idf o)) ((k1g.ops idf o).map (erO TB)) :=
  Con.soundH (c := k1g) (C := k8s) TBok ⟨inf_ok, all_nil, all_nil⟩ mix Try.func108 (show Try.f108.body = some kdz by kernel_rfl) (show Try.f108.ntmps = 14 by kernel_rfl) (show Try.f108.results.toList = kgz by kernel_rfl) rfl h (kz8 o)
set_option maxRecDepth 100000 in
theorem k12p {p0 : TField} {p1 : Int} {r0 : Int} (h :
((decide (p0.P ≤ p1) = true →
(p0.P ≠ 0) ∧ Int.tmod p1 p0.P = r0) ∧
(decide (p0.P ≤ p1) = false →
 p1 = r0))) : ken (p0.P, p1, ()) (r0, ()) := WPh.of_eq (by kernel_rfl) h
theorem bd108 : Callable Try.prog 108 := ⟨by rw [Try.func108]; kernel_rfl, by rw [Try.func108]; show some _ ≠ some _; decide⟩
theorem kym (p0 : TField) (p1 : Int) (h : 0 < p0.P ∧ 0 ≤ p1) : ken (p0.P, p1, ()) (((p1 % p0.P) : Int), ()) := by
  refine k12p ⟨fun h1 => ⟨by omega, tmod_nn _ _ h.2⟩, fun h1 => ?_⟩
  simp at h1
  rw [Int.emod_eq_of_lt (by omega) (by omega)]
noncomputable def k7v : Con TB.den := k1g.fnR (fun x => (fun (p0 : TField) (p1 : Int) => 0 < p0.P ∧ 0 ≤ p1) (TField.mk x.1) x.2.1) fun x => ((fun (p0 : TField) (p1 : Int) => ((p1 % p0.P) : Int)) (TField.mk x.1) x.2.1, ())
theorem kc7 : k7v.Ok Try.prog TB := Con.ok_fn k1g bd108 fun x h => kzx (kym (TField.mk x.1) x.2.1 h)
end Go.Proofs.Ytnmakgfmimagmaa
namespace Go.Proofs.Ytnmakgfmimagmaa
open Go Go.Bv Go.Cv Go.Md Go.RowKit
def k36 : Con TB.den := Con.mk0 98 [.agg [.d (.int .u64)], .one (.d (.int .u64)), .one (.d (.int .u64))] [] (.one (.one (.d (.int .u64)))) []
abbrev k117 := HL TB.den (hsT k36.ins (hsOs k36.pre))
abbrev kl5 := HL TB.den (hsV k36.res (hsOs k36.post))
noncomputable def kdp : Cx TB := ⟨inf, [k62, k7v, kw1], [], 4, []⟩
noncomputable def kjh : Code := Try.f98.body.getD .skip
noncomputable def ko2 : List ResultVar := Try.f98.results.toList
noncomputable def kx0 (o : kl5) : An TB := .no
noncomputable def kja (x : k117) (o : kl5) : Prop := WPh TB kdp 18 0 kjh (kx0 o) (k36.st TB x) (retTQ TB kdp k36 ko2 o)
set_option maxRecDepth 100000 in
theorem k1bd (o : kl5) : OblH TB kdp 18 0 kjh (kx0 o) (retTQ TB kdp k36 ko2 o) :=
  OblH.of_eq (X := (True ∧ ((True ∧ ((True ∧ True) ∧ True)) ∧ (True ∧ True)))) (by kernel_rfl) ⟨trivial, ⟨⟨trivial, ⟨⟨trivial, trivial⟩, trivial⟩⟩, ⟨trivial, trivial⟩⟩⟩
set_option maxRecDepth 100000 in
theorem k1bn {x : k117} {o : kl5} (h : kja x o) : SoundH Try.prog k36.f ((k36.args idf x).map (er TB)) ((k36.obs idf x).map (erO TB)) (er TB (k36.val idf o)) ((k36.ops idf o).map (erO TB)) :=
  Con.soundH (c := k36) (C := kdp) TBok ⟨inf_ok, (all_cons k8e (all_cons kc7 (all_cons k1ea all_nil))), all_nil⟩ mix Try.func98 (show Try.f98.body = some kjh by kernel_rfl) (show Try.f98.ntmps = 18 by kernel_rfl) (show Try.f98.results.toList = ko2 by kernel_rfl) rfl h (k1bd o)
set_option maxRecDepth 100000 in
theorem k1ec {p0 : TField} {p1 : Int} {p2 : Int} {r0 : Int} (h :
((p0.P = 18446744069414584321) ∧ ((!true) = true →
 0 = r0) ∧
((!true) = false →
(0 < p0.P ∧ 0 ≤ p1) ∧ (0 < p0.P ∧ 0 ≤ p2) ∧ (p0.P = 18446744069414584321 ∧ (0 ≤ (p1 % p0.P) ∧ (p1 % p0.P) < 18446744069414584321) ∧ (0 ≤ (p2 % p0.P) ∧ (p2 % p0.P) < 18446744069414584321)) ∧ let r1 : Int := (((p1 % p0.P) + (p2 % p0.P)) % 18446744069414584321)
 r1 = r0))) : kja (p0.P, p1, p2, ()) (r0, ()) := WPh.of_eq (by kernel_rfl) h
theorem bd98 : Callable Try.prog 98 := ⟨by rw [Try.func98]; kernel_rfl, by rw [Try.func98]; show some _ ≠ some _; decide⟩
theorem k18g (p0 : TField) (p1 : Int) (p2 : Int) (h : p0.P = 18446744069414584321 ∧ U64 p1 ∧ U64 p2) : kja (p0.P, p1, p2, ()) ((((p1 + p2) % 18446744069414584321) : Int), ()) := by
  obtain ⟨hP, h1, h2⟩ := h
  refine k1ec ⟨hP, ?_⟩
  simp only [hP]
  refine ⟨fun h => by simp at h, fun _ => ⟨by omega, by omega, ⟨by trivial, by omega, by omega⟩, ?_⟩⟩
  omega
noncomputable def kgw : Con TB.den := k36.fnR (fun x => (fun (p0 : TField) (p1 : Int) (p2 : Int) => p0.P = 18446744069414584321 ∧ U64 p1 ∧ U64 p2) (TField.mk x.1) x.2.1 x.2.2.1) fun x => ((fun (p0 : TField) (p1 : Int) (p2 : Int) => (((p1 + p2) % 18446744069414584321) : Int)) (TField.mk x.1) x.2.1 x.2.2.1, ())
theorem knn : kgw.Ok Try.prog TB := Con.ok_fn k36 bd98 fun x h => k1bn (k18g (TField.mk x.1) x.2.1 x.2.2.1 h)
end Go.Proofs.Ytnmakgfmimagmaa
namespace Go.Proofs.Ytnmakgfmimagmaa
open Go Go.Bv Go.Cv Go.Md Go.RowKit
def k1p : Con TB.den := Con.mk0 120 [.one (.d (.int .u64))] [] (.one (.one (.d (.int .i64)))) []
abbrev kyj := HL TB.den (hsT k1p.ins (hsOs k1p.pre))
abbrev k4n := HL TB.den (hsV k1p.res (hsOs k1p.post))
noncomputable def k4j : Cx TB := ⟨inf, [], [], 4, []⟩
noncomputable def k7g : Code := Try.f120.body.getD .skip
noncomputable def k9e : List ResultVar := Try.f120.results.toList
def kba : Tm := ⟨[], [], [0, 2], [.one (.d (.int .u64)), .one (.d (.int .i64))], 0⟩
noncomputable def ks8 (o : k4n) (i : HL TB.den kba.hs) : Prop := ghs TB [] (kba.fill TB i) fun s => WP TB k4j 25 0 (cB (cB (cB (cB k7g)))) .no s (retTQ TB k4j k1p k9e o)
structure k7n (o : k4n) (i : HL TB.den kba.hs) : Prop where
  h : ks8 o i
def kf1 : Tm := ⟨[], [], [0, 2], [.one (.d (.int .u64)), .one (.d (.int .i64))], 0⟩
noncomputable def kss (o : k4n) (i : HL TB.den kf1.hs) : Prop := ghs TB [] (kf1.fill TB i) fun s => WP TB k4j 25 0 (cB (cB (cB k7g))) (.jn kba (k7n o) [] .no [] .no) s (retTQ TB k4j k1p k9e o)
structure k9f (o : k4n) (i : HL TB.den kf1.hs) : Prop where
  h : kss o i
noncomputable def kv6 (o : k4n) : An TB := .jn kf1 (k9f o) [] .no [] (.jn kba (k7n o) [] .no [] .no)
def kfd : Tm := ⟨[], [], [0, 2], [.one (.d (.int .u64)), .one (.d (.int .i64))], 0⟩
noncomputable def kt0 (o : k4n) (i : HL TB.den kfd.hs) : Prop := ghs TB [] (kfd.fill TB i) fun s => WP TB k4j 25 0 (cB (cB k7g)) (kv6 o) s (retTQ TB k4j k1p k9e o)
structure k9h (o : k4n) (i : HL TB.den kfd.hs) : Prop where
  h : kt0 o i
noncomputable def k1bi (o : k4n) : An TB := .jn kfd (k9h o) [] .no [] (kv6 o)
noncomputable def kvu (o : k4n) : An TB := .nd [] .no [] (k1bi o)
noncomputable def kin (x : kyj) (o : k4n) : Prop := WPh TB k4j 25 0 k7g (kvu o) (k1p.st TB x) (retTQ TB k4j k1p k9e o)
set_option maxRecDepth 100000 in
theorem k18r (o : k4n) : OblH TB k4j 25 0 k7g (kvu o) (retTQ TB k4j k1p k9e o) :=
  OblH.of_eq (X := (True ∧ ((True ∧ ((True ∧ True) ∧ True)) ∧ (∀ i, (k9h o) i = (kt0 o) i) ∧ ((True ∧ ((True ∧ True) ∧ True)) ∧ (∀ i, (k9f o) i = (kss o) i) ∧ ((True ∧ ((True ∧ True) ∧ True)) ∧ (∀ i, (k7n o) i = (ks8 o) i) ∧ (True ∧ True)))))) (by kernel_rfl) ⟨trivial, ⟨⟨trivial, ⟨⟨trivial, trivial⟩, trivial⟩⟩, fun _ => propext ⟨fun h => h.1, fun h => ⟨h⟩⟩, ⟨⟨trivial, ⟨⟨trivial, trivial⟩, trivial⟩⟩, fun _ => propext ⟨fun h => h.1, fun h => ⟨h⟩⟩, ⟨⟨trivial, ⟨⟨trivial, trivial⟩, trivial⟩⟩, fun _ => propext ⟨fun h => h.1, fun h => ⟨h⟩⟩, ⟨trivial, trivial⟩⟩⟩⟩⟩
set_option maxRecDepth 100000 in
theorem k188 {x : kyj} {o : k4n} (h : kin x o) : SoundH Try.prog k1p.f ((k1p.args idf x).map (er TB)) ((k1p.obs idf x).map (erO TB)) (er TB (k1p.val idf o)) ((k1p.ops idf o).map (erO TB)) :=
  Con.soundH (c := k1p) (C := k4j) TBok ⟨inf_ok, all_nil, all_nil⟩ mix Try.func120 (show Try.f120.body = some k7g by kernel_rfl) (show Try.f120.ntmps = 25 by kernel_rfl) (show Try.f120.results.toList = k9e by kernel_rfl) rfl h (k18r o)
set_option maxRecDepth 100000 in
theorem k1cb {p0 : Int} {r0 : Int} (h :
((decide (4294967296 ≤ p0) = true →
 k9h (r0, ()) ((ishr .u64 p0 32 : Int), (32 : Int), ())) ∧
(decide (4294967296 ≤ p0) = false →
 k9h (r0, ()) (p0, (0 : Int), ())))) : kin (p0, ()) (r0, ()) := WPh.of_eq (by kernel_rfl) h
set_option maxRecDepth 100000 in
theorem k13h {r0 : Int} {s0 : Int} {s2 : Int} (h :
((decide (65536 ≤ s0) = true →
 k9f (r0, ()) ((ishr .u64 s0 16 : Int), (IntKind.i64.wrap (s2 + 16) : Int), ())) ∧
(decide (65536 ≤ s0) = false →
 k9f (r0, ()) (s0, s2, ())))) : k9h (r0, ()) (s0, s2, ()) := ⟨mpr_of (by kernel_rfl) h⟩
set_option maxRecDepth 100000 in
theorem k127 {r0 : Int} {s0 : Int} {s2 : Int} (h :
((decide (256 ≤ s0) = true →
 k7n (r0, ()) ((ishr .u64 s0 8 : Int), (IntKind.i64.wrap (s2 + 8) : Int), ())) ∧
(decide (256 ≤ s0) = false →
 k7n (r0, ()) (s0, s2, ())))) : k9f (r0, ()) (s0, s2, ()) := ⟨mpr_of (by kernel_rfl) h⟩
set_option maxRecDepth 100000 in
theorem k125 {r0 : Int} {s0 : Int} {s2 : Int} (h :
((0 ≤ IntKind.u8.wrap s0 ∧ IntKind.u8.wrap s0 < ((⟨#[0, 1, 2, 2, 3, 3, 3, 3, 4, 4, 4, 4, 4, 4, 4, 4, 5, 5, 5, 5, 5, 5, 5, 5, 5, 5, 5, 5, 5, 5, 5, 5, 6, 6, 6, 6, 6, 6, 6, 6, 6, 6, 6, 6, 6, 6, 6, 6, 6, 6, 6, 6, 6, 6, 6, 6, 6, 6, 6, 6, 6, 6, 6, 6, 7, 7, 7, 7, 7, 7, 7, 7, 7, 7, 7, 7, 7, 7, 7, 7, 7, 7, 7, 7, 7, 7, 7, 7, 7, 7, 7, 7, 7, 7, 7, 7, 7, 7, 7, 7, 7, 7, 7, 7, 7, 7, 7, 7, 7, 7, 7, 7, 7, 7, 7, 7, 7, 7, 7, 7, 7, 7, 7, 7, 7, 7, 7, 7, 8, 8, 8, 8, 8, 8, 8, 8, 8, 8, 8, 8, 8, 8, 8, 8, 8, 8, 8, 8, 8, 8, 8, 8, 8, 8, 8, 8, 8, 8, 8, 8, 8, 8, 8, 8, 8, 8, 8, 8, 8, 8, 8, 8, 8, 8, 8, 8, 8, 8, 8, 8, 8, 8, 8, 8, 8, 8, 8, 8, 8, 8, 8, 8, 8, 8, 8, 8, 8, 8, 8, 8, 8, 8, 8, 8, 8, 8, 8, 8, 8, 8, 8, 8, 8, 8, 8, 8, 8, 8, 8, 8, 8, 8, 8, 8, 8, 8, 8, 8, 8, 8, 8, 8, 8, 8, 8, 8, 8, 8, 8, 8, 8, 8, 8, 8, 8, 8, 8, 8, 8, 8, 8, 8, 8, 8, 8, 8]⟩ : ByteArray).size : Int)) ∧ let v1 : Int := byteAt (⟨#[0, 1, 2, 2, 3, 3, 3, 3, 4, 4, 4, 4, 4, 4, 4, 4, 5, 5, 5, 5, 5, 5, 5, 5, 5, 5, 5, 5, 5, 5, 5, 5, 6, 6, 6, 6, 6, 6, 6, 6, 6, 6, 6, 6, 6, 6, 6, 6, 6, 6, 6, 6, 6, 6, 6, 6, 6, 6, 6, 6, 6, 6, 6, 6, 7, 7, 7, 7, 7, 7, 7, 7, 7, 7, 7, 7, 7, 7, 7, 7, 7, 7, 7, 7, 7, 7, 7, 7, 7, 7, 7, 7, 7, 7, 7, 7, 7, 7, 7, 7, 7, 7, 7, 7, 7, 7, 7, 7, 7, 7, 7, 7, 7, 7, 7, 7, 7, 7, 7, 7, 7, 7, 7, 7, 7, 7, 7, 7, 8, 8, 8, 8, 8, 8, 8, 8, 8, 8, 8, 8, 8, 8, 8, 8, 8, 8, 8, 8, 8, 8, 8, 8, 8, 8, 8, 8, 8, 8, 8, 8, 8, 8, 8, 8, 8, 8, 8, 8, 8, 8, 8, 8, 8, 8, 8, 8, 8, 8, 8, 8, 8, 8, 8, 8, 8, 8, 8, 8, 8, 8, 8, 8, 8, 8, 8, 8, 8, 8, 8, 8, 8, 8, 8, 8, 8, 8, 8, 8, 8, 8, 8, 8, 8, 8, 8, 8, 8, 8, 8, 8, 8, 8, 8, 8, 8, 8, 8, 8, 8, 8, 8, 8, 8, 8, 8, 8, 8, 8, 8, 8, 8, 8, 8, 8, 8, 8, 8, 8, 8, 8, 8, 8, 8, 8, 8, 8]⟩ : ByteArray) (IntKind.u8.wrap s0)
 let v2 : Int := IntKind.i64.wrap (s2 + (IntKind.i64.wrap v1))
 v2 = r0)) : k7n (r0, ()) (s0, s2, ()) := ⟨mpr_of (by kernel_rfl) h⟩
theorem bd120 : Callable Try.prog 120 := ⟨by rw [Try.func120]; kernel_rfl, by rw [Try.func120]; show some _ ≠ some _; decide⟩
theorem k15t (p0 : Int) (h : U64 p0) : kin (p0, ()) (((len64 p0) : Int), ()) := by
  have j3 : ∀ s0 s2 : Int, 0 ≤ s0 → s0 < 256 → 0 ≤ s2 → s2 ≤ 56 → k7n (s2 + len64 s0, ()) (s0, s2, ()) := fun s0 s2 h0 h1 h2 h3 => by
    refine k125 ?_
    have e : IntKind.u8.wrap s0 = s0 := by rw [u8w]; omega
    have l := k1iy s0 ⟨h0, h1⟩
    show (0 ≤ IntKind.u8.wrap s0 ∧ IntKind.u8.wrap s0 < (tab8.size : Int)) ∧ IntKind.i64.wrap (s2 + IntKind.i64.wrap (byteAt tab8 (IntKind.u8.wrap s0))) = _
    rw [e, k1lq, k1fo s0 ⟨h0, h1⟩, wi (len64 s0) (by omega) (by omega), wi (s2 + len64 s0) (by omega) (by omega)]
    exact ⟨⟨h0, h1⟩, rfl⟩
  have j2 : ∀ s0 s2 : Int, 0 ≤ s0 → s0 < 65536 → 0 ≤ s2 → s2 ≤ 48 → k9f (s2 + len64 s0, ()) (s0, s2, ()) := fun s0 s2 h0 h1 h2 h3 => by
    refine k127 ⟨fun h => ?_, fun h => j3 s0 s2 h0 (by simpa using h) h2 (by omega)⟩
    have h := of_decide_eq_true h
    rw [ishr8, wi _ (by omega) (by omega), ← kra s0 8 (by simpa using h), ← Int.add_assoc, Int.add_right_comm]
    exact j3 _ _ (by omega) (by omega) (by omega) (by omega)
  have j1 : ∀ s0 s2 : Int, 0 ≤ s0 → s0 < 4294967296 → 0 ≤ s2 → s2 ≤ 32 → k9h (s2 + len64 s0, ()) (s0, s2, ()) := fun s0 s2 h0 h1 h2 h3 => by
    refine k13h ⟨fun h => ?_, fun h => j2 s0 s2 h0 (by simpa using h) h2 (by omega)⟩
    have h := of_decide_eq_true h
    rw [ishr16, wi _ (by omega) (by omega), ← kra s0 16 (by simpa using h), ← Int.add_assoc, Int.add_right_comm]
    exact j2 _ _ (by omega) (by omega) (by omega) (by omega)
  refine k1cb ⟨fun h1 => ?_, fun h1 => ?_⟩
  · have h1 := of_decide_eq_true h1
    rw [ishr32, ← kra p0 32 (by simpa using h1), Int.add_comm]
    exact j1 _ _ (by omega) (by omega) (by omega) (by omega)
  · have := j1 p0 0 h.1 (by simpa using h1) (by omega) (by omega)
    rwa [Int.zero_add] at this
noncomputable def ksh : Con TB.den := k1p.fnR (fun x => (fun (p0 : Int) => U64 p0) x.1) fun x => ((fun (p0 : Int) => ((len64 p0) : Int)) x.1, ())
theorem k1bb : ksh.Ok Try.prog TB := Con.ok_fn k1p bd120 fun x h => k188 (k15t x.1 h)
end Go.Proofs.Ytnmakgfmimagmaa
namespace Go.Proofs.Ytnmakgfmimagmaa
open Go Go.Bv Go.Cv Go.Md Go.RowKit
def ki : Con TB.den := Con.mk0 114 [.one (.d (.int .u64))] [] (.one (.one (.d (.int .i64)))) []
abbrev khl := HL TB.den (hsT ki.ins (hsOs ki.pre))
abbrev k7f := HL TB.den (hsV ki.res (hsOs ki.post))
noncomputable def k5m : Cx TB := ⟨inf, [ksh], [], 4, []⟩
noncomputable def k92 : Code := Try.f114.body.getD .skip
noncomputable def kaa : List ResultVar := Try.f114.results.toList
noncomputable def kga (o : k7f) : An TB := .no
noncomputable def k8n (x : khl) (o : k7f) : Prop := WPh TB k5m 6 0 k92 (kga o) (ki.st TB x) (retTQ TB k5m ki kaa o)
set_option maxRecDepth 100000 in
theorem kou (o : k7f) : OblH TB k5m 6 0 k92 (kga o) (retTQ TB k5m ki kaa o) :=
  OblH.of_eq (X := (True ∧ (True ∧ True))) (by kernel_rfl) ⟨trivial, ⟨trivial, trivial⟩⟩
set_option maxRecDepth 100000 in
theorem kox {x : khl} {o : k7f} (h : k8n x o) : SoundH Try.prog ki.f ((ki.args idf x).map (er TB)) ((ki.obs idf x).map (erO TB)) (er TB (ki.val idf o)) ((ki.ops idf o).map (erO TB)) :=
  Con.soundH (c := ki) (C := k5m) TBok ⟨inf_ok, (all_cons k1bb all_nil), all_nil⟩ mix Try.func114 (show Try.f114.body = some k92 by kernel_rfl) (show Try.f114.ntmps = 6 by kernel_rfl) (show Try.f114.results.toList = kaa by kernel_rfl) rfl h (kou o)
set_option maxRecDepth 100000 in
theorem kr3 {p0 : Int} {r0 : Int} (h :
((U64 p0) ∧ IntKind.i64.wrap (64 - (len64 p0)) = r0)) : k8n (p0, ()) (r0, ()) := WPh.of_eq (by kernel_rfl) h
theorem bd114 : Callable Try.prog 114 := ⟨by rw [Try.func114]; kernel_rfl, by rw [Try.func114]; show some _ ≠ some _; decide⟩
theorem kne (p0 : Int) (h : 0 < p0 ∧ p0 < 18446744073709551616) : k8n (p0, ()) (((64 - len64 p0) : Int), ()) := by
  obtain ⟨s, e, h1, _⟩ := k14t p0 h
  refine kr3 ⟨⟨by omega, h.2⟩, ?_⟩
  exact wi _ (by omega) (by omega)
noncomputable def kfg : Con TB.den := ki.fnR (fun x => (fun (p0 : Int) => 0 < p0 ∧ p0 < 18446744073709551616) x.1) fun x => ((fun (p0 : Int) => ((64 - len64 p0) : Int)) x.1, ())
theorem kr2 : kfg.Ok Try.prog TB := Con.ok_fn ki bd114 fun x h => kox (kne x.1 h)
end Go.Proofs.Ytnmakgfmimagmaa
namespace Go.Proofs.Ytnmakgfmimagmaa
open Go Go.Bv Go.Cv Go.Md Go.RowKit
def k1f : Con TB.den := Con.mk0 102 [.one (.d (.int .u64)), .one (.d (.int .u64)), .one (.d (.int .u64))] [] (.tup [.one (.d (.int .u64)), .one (.d (.int .u64))]) []
abbrev kwr := HL TB.den (hsT k1f.ins (hsOs k1f.pre))
abbrev kl := HL TB.den (hsV k1f.res (hsOs k1f.post))
noncomputable def k2w : Cx TB := ⟨inf, [kfg], [], 4, []⟩
noncomputable def k4u : Code := Try.f102.body.getD .skip
noncomputable def k7l : List ResultVar := Try.f102.results.toList
def kar : Tm := ⟨[], [], [2, 8, 14, 15, 17, 18], [.one (.d (.int .u64)), .one (.d (.int .u64)), .one (.d (.int .u64)), .one (.d (.int .u64)), .one (.d (.int .u64)), .one (.d (.int .u64))], 0⟩
noncomputable def ksk (o : kl) (i : HL TB.den kar.hs) : Prop := ghs TB [] (kar.fill TB i) fun s => WP TB k2w 135 0 (cB (cB (cB (cB (cB (cB (cB (cB (cB (cB (cB (cB (cB (cB (cB (cB (cB (cB (cB k4u))))))))))))))))))) .no s (retTQ TB k2w k1f k7l o)
structure k7p (o : kl) (i : HL TB.den kar.hs) : Prop where
  h : ksk o i
noncomputable def k1d0 (o : kl) : Exit → TSt TB.den → Prop := thenT TB (fun s => kar.mat TB 0 s (k7p o)) (retTQ TB k2w k1f k7l o)
def k4m : Tm := ⟨[], [], [2, 8, 9, 10, 14, 15, 16, 17, 18], [.one (.d (.int .u64)), .one (.d (.int .u64)), .one (.d (.int .u64)), .one (.d (.int .u64)), .one (.d (.int .u64)), .one (.d (.int .u64)), .one (.d (.int .u64)), .one (.d (.int .u64)), .one (.d (.int .u64))], 0⟩
noncomputable def kvf (o : kl) (nx2 : HL TB.den k4m.hs → Prop) : Exit → TSt TB.den → Prop := thenT TB (fun s => k4m.mat TB 0 s nx2) (blockT TB 2 (k1d0 o))
def kbg : Tm := ⟨[], [], [2, 8, 9, 10, 14, 15, 16, 17, 18], [.one (.d (.int .u64)), .one (.d (.int .u64)), .one (.d (.int .u64)), .one (.d (.int .u64)), .one (.d (.int .u64)), .one (.d (.int .u64)), .one (.d (.int .u64)), .one (.d (.int .u64)), .one (.d (.int .u64))], 0⟩
noncomputable def krt (o : kl) (nx2 : HL TB.den k4m.hs → Prop) (i : HL TB.den kbg.hs) : Prop := ghs TB [] (kbg.fill TB i) fun s => WP TB k2w 135 0 (cB (cA (cA (cA (cB (cB (cB (cB (cB (cB (cB (cB (cB (cB (cB (cB (cB (cB (cB (cB (cB (cB k4u)))))))))))))))))))))) .no s (kvf o nx2)
structure k7q (o : kl) (nx2 : HL TB.den k4m.hs → Prop) (i : HL TB.den kbg.hs) : Prop where
  h : krt o nx2 i
noncomputable def kcr (o : kl) (nx2 : HL TB.den k4m.hs → Prop) (i : HL TB.den k4m.hs) : Prop := WP TB k2w 135 0 (cA (cA (cA (cB (cB (cB (cB (cB (cB (cB (cB (cB (cB (cB (cB (cB (cB (cB (cB (cB (cB k4u))))))))))))))))))))) (.jn kbg (k7q o nx2) [] .no [] .no) (k4m.fill TB i) (kvf o nx2)
noncomputable def k1ce (o : kl) : An TB := .lp [] k4m (kcr o) fun nx2 => (.jn kbg (k7q o nx2) [] .no [] .no)
noncomputable def k1e1 (o : kl) : An TB := .jn kar (k7p o) [] (k1ce o) [] .no
noncomputable def kvg (o : kl) : An TB := .nd [] .no [] (.nd [] .no [] (.nd [] .no [] (k1e1 o)))
def kbn : Tm := ⟨[], [], [2, 8, 9, 10, 11, 13, 14, 15], [.one (.d (.int .u64)), .one (.d (.int .u64)), .one (.d (.int .u64)), .one (.d (.int .u64)), .one (.d (.int .u64)), .one (.d (.int .u64)), .one (.d (.int .u64)), .one (.d (.int .u64))], 0⟩
noncomputable def ksm (o : kl) (i : HL TB.den kbn.hs) : Prop := ghs TB [] (kbn.fill TB i) fun s => WP TB k2w 135 0 (cB (cB (cB (cB (cB (cB (cB (cB (cB (cB (cB (cB (cB (cB (cB k4u))))))))))))))) (kvg o) s (retTQ TB k2w k1f k7l o)
structure k7u (o : kl) (i : HL TB.den kbn.hs) : Prop where
  h : ksm o i
noncomputable def k1c1 (o : kl) : Exit → TSt TB.den → Prop := thenT TB (fun s => kbn.mat TB 0 s (k7u o)) (retTQ TB k2w k1f k7l o)
def k4o : Tm := ⟨[], [], [2, 8, 9, 10, 11, 13, 14, 15, 16], [.one (.d (.int .u64)), .one (.d (.int .u64)), .one (.d (.int .u64)), .one (.d (.int .u64)), .one (.d (.int .u64)), .one (.d (.int .u64)), .one (.d (.int .u64)), .one (.d (.int .u64)), .one (.d (.int .u64))], 0⟩
noncomputable def kvc (o : kl) (nx1 : HL TB.den k4o.hs → Prop) : Exit → TSt TB.den → Prop := thenT TB (fun s => k4o.mat TB 0 s nx1) (blockT TB 0 (k1c1 o))
def kay : Tm := ⟨[], [], [2, 8, 9, 10, 11, 13, 14, 15, 16], [.one (.d (.int .u64)), .one (.d (.int .u64)), .one (.d (.int .u64)), .one (.d (.int .u64)), .one (.d (.int .u64)), .one (.d (.int .u64)), .one (.d (.int .u64)), .one (.d (.int .u64)), .one (.d (.int .u64))], 0⟩
noncomputable def krq (o : kl) (nx1 : HL TB.den k4o.hs → Prop) (i : HL TB.den kay.hs) : Prop := ghs TB [] (kay.fill TB i) fun s => WP TB k2w 135 0 (cB (cA (cA (cA (cB (cB (cB (cB (cB (cB (cB (cB (cB (cB (cB (cB (cB (cB k4u)))))))))))))))))) .no s (kvc o nx1)
structure k7o (o : kl) (nx1 : HL TB.den k4o.hs → Prop) (i : HL TB.den kay.hs) : Prop where
  h : krq o nx1 i
noncomputable def kco (o : kl) (nx1 : HL TB.den k4o.hs → Prop) (i : HL TB.den k4o.hs) : Prop := WP TB k2w 135 0 (cA (cA (cA (cB (cB (cB (cB (cB (cB (cB (cB (cB (cB (cB (cB (cB (cB k4u))))))))))))))))) (.jn kay (k7o o nx1) [] .no [] .no) (k4o.fill TB i) (kvc o nx1)
noncomputable def k17z (o : kl) : An TB := .lp [] k4o (kco o) fun nx1 => (.jn kay (k7o o nx1) [] .no [] .no)
noncomputable def k19d (o : kl) : An TB := .jn kbn (k7u o) [] (k17z o) [] (kvg o)
noncomputable def k182 (o : kl) : An TB := .nd [] .no [] (.nd [] .no [] (.nd [] .no [] (k19d o)))
noncomputable def k19t (o : kl) : An TB := .nd [] .no [] (.nd [] .no [] (.nd [] .no [] (k182 o)))
noncomputable def k19s (o : kl) : An TB := .nd [] .no [] (.nd [] .no [] (.nd [] .no [] (k19t o)))
noncomputable def k190 (o : kl) : An TB := .nd [] .no [] (.nd [] .no [] (.nd [] .no [] (k19s o)))
noncomputable def kv1 (o : kl) : An TB := .nd [] .no [] (.nd [] .no [] (k190 o))
noncomputable def kir (x : kwr) (o : kl) : Prop := WPh TB k2w 135 0 k4u (kv1 o) (k1f.st TB x) (retTQ TB k2w k1f k7l o)
set_option maxRecDepth 100000 in
theorem k19w (o : kl) : OblH TB k2w 135 0 k4u (kv1 o) (retTQ TB k2w k1f k7l o) :=
  OblH.of_eq (X := (True ∧ ((True ∧ (True ∧ True)) ∧ ((True ∧ (True ∧ True)) ∧ ((True ∧ ((True ∧ True) ∧ True)) ∧ (True ∧ (True ∧ (True ∧ (True ∧ (True ∧ (True ∧ (True ∧ (True ∧ (True ∧ (True ∧ (((∀ nx i, (kco o) nx i = (kco o) nx i) ∧ ∀ nx1 : HL TB.den k4o.hs → Prop, ((True ∧ (True ∧ True)) ∧ (∀ i, (k7o o nx1) i = (krq o nx1) i) ∧ (True ∧ (True ∧ (True ∧ (True ∧ True)))))) ∧ (∀ i, (k7u o) i = (ksm o) i) ∧ (True ∧ (True ∧ (True ∧ (((∀ nx i, (kcr o) nx i = (kcr o) nx i) ∧ ∀ nx2 : HL TB.den k4m.hs → Prop, ((True ∧ (True ∧ True)) ∧ (∀ i, (k7q o nx2) i = (krt o nx2) i) ∧ (True ∧ (True ∧ (True ∧ (True ∧ True)))))) ∧ (∀ i, (k7p o) i = (ksk o) i) ∧ (True ∧ True))))))))))))))))))))) (by kernel_rfl) ⟨trivial, ⟨⟨trivial, ⟨trivial, trivial⟩⟩, ⟨⟨trivial, ⟨trivial, trivial⟩⟩, ⟨⟨trivial, ⟨⟨trivial, trivial⟩, trivial⟩⟩, ⟨trivial, ⟨trivial, ⟨trivial, ⟨trivial, ⟨trivial, ⟨trivial, ⟨trivial, ⟨trivial, ⟨trivial, ⟨trivial, ⟨⟨fun _ _ => rfl, fun _ => ⟨⟨trivial, ⟨trivial, trivial⟩⟩, fun _ => propext ⟨fun h => h.1, fun h => ⟨h⟩⟩, ⟨trivial, ⟨trivial, ⟨trivial, ⟨trivial, trivial⟩⟩⟩⟩⟩⟩, fun _ => propext ⟨fun h => h.1, fun h => ⟨h⟩⟩, ⟨trivial, ⟨trivial, ⟨trivial, ⟨⟨fun _ _ => rfl, fun _ => ⟨⟨trivial, ⟨trivial, trivial⟩⟩, fun _ => propext ⟨fun h => h.1, fun h => ⟨h⟩⟩, ⟨trivial, ⟨trivial, ⟨trivial, ⟨trivial, trivial⟩⟩⟩⟩⟩⟩, fun _ => propext ⟨fun h => h.1, fun h => ⟨h⟩⟩, ⟨trivial, trivial⟩⟩⟩⟩⟩⟩⟩⟩⟩⟩⟩⟩⟩⟩⟩⟩⟩⟩⟩⟩
set_option maxRecDepth 100000 in
theorem k199 {x : kwr} {o : kl} (h : kir x o) : SoundH Try.prog k1f.f ((k1f.args idf x).map (er TB)) ((k1f.obs idf x).map (erO TB)) (er TB (k1f.val idf o)) ((k1f.ops idf o).map (erO TB)) :=
  Con.soundH (c := k1f) (C := k2w) TBok ⟨inf_ok, (all_cons kr2 all_nil), all_nil⟩ mix Try.func102 (show Try.f102.body = some k4u by kernel_rfl) (show Try.f102.ntmps = 135 by kernel_rfl) (show Try.f102.results.toList = k7l by kernel_rfl) rfl h (k19w o)
set_option maxRecDepth 100000 in
theorem k1c7 {p0 : Int} {p1 : Int} {p2 : Int} {r0 : Int} {r1 : Int} (h :
(((p2 == 0) = true →
 False) ∧
((p2 == 0) = false →
(decide (p2 ≤ p0) = true →
 False) ∧
(decide (p2 ≤ p0) = false →
((p0 == 0) = true →
(p2 ≠ 0) ∧ (p2 ≠ 0) ∧ IntKind.u64.wrap (Int.tdiv p1 p2) = r0 ∧ Int.tmod p1 p2 = r1) ∧
((p0 == 0) = false →
(0 < p2 ∧ p2 < 18446744073709551616) ∧ (0 ≤ IntKind.u64.wrap (64 - len64 p2)) ∧ let v2 : Int := ishl .u64 p2 (IntKind.u64.wrap (64 - len64 p2))
(0 ≤ IntKind.u64.wrap (64 - len64 p2)) ∧ let v3 : Int := ishl .u64 p0 (IntKind.u64.wrap (64 - len64 p2))
 let v4 : Int := IntKind.u64.wrap (64 - (IntKind.u64.wrap (64 - len64 p2)))
(0 ≤ v4) ∧ (0 ≤ IntKind.u64.wrap (64 - len64 p2)) ∧ let v5 : Int := ishl .u64 p1 (IntKind.u64.wrap (64 - len64 p2))
(ishr .u64 v2 32 ≠ 0) ∧ let v6 : Int := IntKind.u64.wrap (Int.tdiv (ior .u64 v3 (ishr .u64 p1 v4)) (ishr .u64 v2 32))
 let v7 : Int := IntKind.u64.wrap (v6 * (ishr .u64 v2 32))
 let v8 : Int := IntKind.u64.wrap ((ior .u64 v3 (ishr .u64 p1 v4)) - v7)
 Md.Loop (v2, (IntKind.u64.wrap (64 - len64 p2) : Int), (ishr .u64 v2 32 : Int), (iand .u64 v2 4294967295 : Int), (ior .u64 v3 (ishr .u64 p1 v4) : Int), (ishr .u64 v5 32 : Int), (iand .u64 v5 4294967295 : Int), v6, v8, ()) (kco (r0, r1, ()))))))) : kir (p0, p1, p2, ()) (r0, r1, ()) := WPh.of_eq (by kernel_rfl) h
set_option maxRecDepth 100000 in
theorem k12h {r0 : Int} {r1 : Int} {nx1 : HL TB.den k4o.hs → Prop} {s2 : Int} {s8 : Int} {s9 : Int} {s10 : Int} {s11 : Int} {s13 : Int} {s14 : Int} {s15 : Int} {s16 : Int} (h :
(let v11 : Bool := decide (4294967296 ≤ (IntKind.u64.wrap (s16 + s9)))
(v11 = true →
 k7u (r0, r1, ()) (s2, s8, s9, s10, s11, s13, s14, (IntKind.u64.wrap (s15 - 1) : Int), ())) ∧
(v11 = false →
 nx1 (s2, s8, s9, s10, s11, s13, s14, (IntKind.u64.wrap (s15 - 1) : Int), (IntKind.u64.wrap (s16 + s9) : Int), ())))) : k7o (r0, r1, ()) nx1 (s2, s8, s9, s10, s11, s13, s14, s15, s16, ()) := ⟨mpr_of (by kernel_rfl) h⟩
set_option maxRecDepth 100000 in
theorem k13t {r0 : Int} {r1 : Int} {s2 : Int} {s8 : Int} {s9 : Int} {s10 : Int} {s11 : Int} {s13 : Int} {s14 : Int} {s15 : Int} (h :
(let v12 : Int := IntKind.u64.wrap ((IntKind.u64.wrap (s11 * 4294967296)) + s13)
 let v13 : Int := IntKind.u64.wrap (v12 - (IntKind.u64.wrap (s15 * s2)))
(s9 ≠ 0) ∧ let v14 : Int := IntKind.u64.wrap ((IntKind.u64.wrap (Int.tdiv v13 s9)) * s9)
 Md.Loop (s2, s8, s9, s10, s14, s15, (IntKind.u64.wrap (v13 - v14) : Int), v13, (IntKind.u64.wrap (Int.tdiv v13 s9) : Int), ()) (kcr (r0, r1, ())))) : k7u (r0, r1, ()) (s2, s8, s9, s10, s11, s13, s14, s15, ()) := ⟨mpr_of (by kernel_rfl) h⟩
set_option maxRecDepth 100000 in
theorem k144 {r0 : Int} {r1 : Int} {nx2 : HL TB.den k4m.hs → Prop} {s2 : Int} {s8 : Int} {s9 : Int} {s10 : Int} {s14 : Int} {s15 : Int} {s16 : Int} {s17 : Int} {s18 : Int} (h :
(let v17 : Bool := decide (4294967296 ≤ (IntKind.u64.wrap (s16 + s9)))
(v17 = true →
 k7p (r0, r1, ()) (s2, s8, s14, s15, s17, (IntKind.u64.wrap (s18 - 1) : Int), ())) ∧
(v17 = false →
 nx2 (s2, s8, s9, s10, s14, s15, (IntKind.u64.wrap (s16 + s9) : Int), s17, (IntKind.u64.wrap (s18 - 1) : Int), ())))) : k7q (r0, r1, ()) nx2 (s2, s8, s9, s10, s14, s15, s16, s17, s18, ()) := ⟨mpr_of (by kernel_rfl) h⟩
set_option maxRecDepth 100000 in
theorem k11z {r0 : Int} {r1 : Int} {s2 : Int} {s8 : Int} {s14 : Int} {s15 : Int} {s17 : Int} {s18 : Int} (h :
(let v18 : Int := IntKind.u64.wrap ((IntKind.u64.wrap (s15 * 4294967296)) + s18)
 let v19 : Int := IntKind.u64.wrap ((IntKind.u64.wrap (s17 * 4294967296)) + s14)
 let v20 : Int := IntKind.u64.wrap (v19 - (IntKind.u64.wrap (s18 * s2)))
(0 ≤ s8) ∧ v18 = r0 ∧ ishr .u64 v20 s8 = r1)) : k7p (r0, r1, ()) (s2, s8, s14, s15, s17, s18, ()) := ⟨mpr_of (by kernel_rfl) h⟩
def kul (r0 : Int) (r1 : Int) (nx1 : HL TB.den k4o.hs → Prop) (k1 : Int → Int → Prop) (s2 : Int) (s8 : Int) (s9 : Int) (s10 : Int) (s11 : Int) (s13 : Int) (s14 : Int) (s15 : Int) (s16 : Int) : Prop :=
(decide (4294967296 ≤ s15) = true →
 k7o (r0, r1, ()) nx1 (s2, s8, s9, s10, s11, s13, s14, s15, s16, ())) ∧
(decide (4294967296 ≤ s15) = false →
 let v9 : Int := IntKind.u64.wrap ((IntKind.u64.wrap (4294967296 * s16)) + s13)
 let v10 : Bool := decide (v9 < (IntKind.u64.wrap (s15 * s10)))
(v10 = true →
 k7o (r0, r1, ()) nx1 (s2, s8, s9, s10, s11, s13, s14, s15, s16, ())) ∧
(v10 = false →
 k7u (r0, r1, ()) (s2, s8, s9, s10, s11, s13, s14, s15, ())))
set_option maxRecDepth 100000 in
theorem k198 {r0 : Int} {r1 : Int} {s2 : Int} {s8 : Int} {s9 : Int} {s10 : Int} {s11 : Int} {s13 : Int} {s14 : Int} {s15 : Int} {s16 : Int} (inv : Int → Int → Prop) (μ : Int → Int → Nat) (h0 : inv s15 s16) (hs : ∀ (s15 : Int) (s16 : Int), inv s15 s16 → kul r0 r1 (fun s : Int × Int × Int × Int × Int × Int × Int × Int × Int × Unit => ((s.1 = s2 ∧ s.2.1 = s8 ∧ s.2.2.1 = s9 ∧ s.2.2.2.1 = s10 ∧ s.2.2.2.2.1 = s11 ∧ s.2.2.2.2.2.1 = s13 ∧ s.2.2.2.2.2.2.1 = s14) ∧ inv s.2.2.2.2.2.2.2.1 s.2.2.2.2.2.2.2.2.1) ∧ μ s.2.2.2.2.2.2.2.1 s.2.2.2.2.2.2.2.2.1 < μ s15 s16) (fun s15q s16q => inv s15q s16q ∧ μ s15q s16q < μ s15 s16) s2 s8 s9 s10 s11 s13 s14 s15 s16) : Md.Loop (s2, s8, s9, s10, s11, s13, s14, s15, s16, ()) (kco (r0, r1, ())) :=
  ⟨⟨fun s : Int × Int × Int × Int × Int × Int × Int × Int × Int × Unit => (s.1 = s2 ∧ s.2.1 = s8 ∧ s.2.2.1 = s9 ∧ s.2.2.2.1 = s10 ∧ s.2.2.2.2.1 = s11 ∧ s.2.2.2.2.2.1 = s13 ∧ s.2.2.2.2.2.2.1 = s14) ∧ inv s.2.2.2.2.2.2.2.1 s.2.2.2.2.2.2.2.2.1, fun s : Int × Int × Int × Int × Int × Int × Int × Int × Int × Unit => μ s.2.2.2.2.2.2.2.1 s.2.2.2.2.2.2.2.2.1, ⟨⟨rfl, rfl, rfl, rfl, rfl, rfl, rfl⟩, h0⟩, fun (s2p, s8p, s9p, s10p, s11p, s13p, s14p, s15p, s16p, ()) ⟨⟨eq0, eq1, eq2, eq3, eq4, eq5, eq6⟩, hi⟩ => by
    have eq0 : s2p = s2 := eq0; subst s2p; have eq1 : s8p = s8 := eq1; subst s8p; have eq2 : s9p = s9 := eq2; subst s9p; have eq3 : s10p = s10 := eq3; subst s10p; have eq4 : s11p = s11 := eq4; subst s11p; have eq5 : s13p = s13 := eq5; subst s13p; have eq6 : s14p = s14 := eq6; subst s14p; exact mpr_of (by kernel_rfl) ((congrArg (fun k => kul r0 r1 (fun s : Int × Int × Int × Int × Int × Int × Int × Int × Int × Unit => ((s.1 = s2 ∧ s.2.1 = s8 ∧ s.2.2.1 = s9 ∧ s.2.2.2.1 = s10 ∧ s.2.2.2.2.1 = s11 ∧ s.2.2.2.2.2.1 = s13 ∧ s.2.2.2.2.2.2.1 = s14) ∧ inv s.2.2.2.2.2.2.2.1 s.2.2.2.2.2.2.2.2.1) ∧ μ s.2.2.2.2.2.2.2.1 s.2.2.2.2.2.2.2.2.1 < μ s15p s16p) k s2 s8 s9 s10 s11 s13 s14 s15p s16p) (lpk2 (⟨rfl, rfl, rfl, rfl, rfl, rfl, rfl⟩ : s2 = s2 ∧ s8 = s8 ∧ s9 = s9 ∧ s10 = s10 ∧ s11 = s11 ∧ s13 = s13 ∧ s14 = s14) inv (fun s15q s16q => μ s15q s16q < μ s15p s16p))).mpr (hs s15p s16p hi))⟩⟩
def kv3 (r0 : Int) (r1 : Int) (nx2 : HL TB.den k4m.hs → Prop) (k2 : Int → Int → Prop) (s2 : Int) (s8 : Int) (s9 : Int) (s10 : Int) (s14 : Int) (s15 : Int) (s17 : Int) (s16 : Int) (s18 : Int) : Prop :=
(decide (4294967296 ≤ s18) = true →
 k7q (r0, r1, ()) nx2 (s2, s8, s9, s10, s14, s15, s16, s17, s18, ())) ∧
(decide (4294967296 ≤ s18) = false →
 let v15 : Int := IntKind.u64.wrap ((IntKind.u64.wrap (4294967296 * s16)) + s14)
 let v16 : Bool := decide (v15 < (IntKind.u64.wrap (s18 * s10)))
(v16 = true →
 k7q (r0, r1, ()) nx2 (s2, s8, s9, s10, s14, s15, s16, s17, s18, ())) ∧
(v16 = false →
 k7p (r0, r1, ()) (s2, s8, s14, s15, s17, s18, ())))
set_option maxRecDepth 100000 in
theorem k18q {r0 : Int} {r1 : Int} {s2 : Int} {s8 : Int} {s9 : Int} {s10 : Int} {s14 : Int} {s15 : Int} {s17 : Int} {s16 : Int} {s18 : Int} (inv : Int → Int → Prop) (μ : Int → Int → Nat) (h0 : inv s16 s18) (hs : ∀ (s16 : Int) (s18 : Int), inv s16 s18 → kv3 r0 r1 (fun s : Int × Int × Int × Int × Int × Int × Int × Int × Int × Unit => ((s.1 = s2 ∧ s.2.1 = s8 ∧ s.2.2.1 = s9 ∧ s.2.2.2.1 = s10 ∧ s.2.2.2.2.1 = s14 ∧ s.2.2.2.2.2.1 = s15 ∧ s.2.2.2.2.2.2.2.1 = s17) ∧ inv s.2.2.2.2.2.2.1 s.2.2.2.2.2.2.2.2.1) ∧ μ s.2.2.2.2.2.2.1 s.2.2.2.2.2.2.2.2.1 < μ s16 s18) (fun s16q s18q => inv s16q s18q ∧ μ s16q s18q < μ s16 s18) s2 s8 s9 s10 s14 s15 s17 s16 s18) : Md.Loop (s2, s8, s9, s10, s14, s15, s16, s17, s18, ()) (kcr (r0, r1, ())) :=
  ⟨⟨fun s : Int × Int × Int × Int × Int × Int × Int × Int × Int × Unit => (s.1 = s2 ∧ s.2.1 = s8 ∧ s.2.2.1 = s9 ∧ s.2.2.2.1 = s10 ∧ s.2.2.2.2.1 = s14 ∧ s.2.2.2.2.2.1 = s15 ∧ s.2.2.2.2.2.2.2.1 = s17) ∧ inv s.2.2.2.2.2.2.1 s.2.2.2.2.2.2.2.2.1, fun s : Int × Int × Int × Int × Int × Int × Int × Int × Int × Unit => μ s.2.2.2.2.2.2.1 s.2.2.2.2.2.2.2.2.1, ⟨⟨rfl, rfl, rfl, rfl, rfl, rfl, rfl⟩, h0⟩, fun (s2p, s8p, s9p, s10p, s14p, s15p, s16p, s17p, s18p, ()) ⟨⟨eq0, eq1, eq2, eq3, eq4, eq5, eq6⟩, hi⟩ => by
    have eq0 : s2p = s2 := eq0; subst s2p; have eq1 : s8p = s8 := eq1; subst s8p; have eq2 : s9p = s9 := eq2; subst s9p; have eq3 : s10p = s10 := eq3; subst s10p; have eq4 : s14p = s14 := eq4; subst s14p; have eq5 : s15p = s15 := eq5; subst s15p; have eq6 : s17p = s17 := eq6; subst s17p; exact mpr_of (by kernel_rfl) ((congrArg (fun k => kv3 r0 r1 (fun s : Int × Int × Int × Int × Int × Int × Int × Int × Int × Unit => ((s.1 = s2 ∧ s.2.1 = s8 ∧ s.2.2.1 = s9 ∧ s.2.2.2.1 = s10 ∧ s.2.2.2.2.1 = s14 ∧ s.2.2.2.2.2.1 = s15 ∧ s.2.2.2.2.2.2.2.1 = s17) ∧ inv s.2.2.2.2.2.2.1 s.2.2.2.2.2.2.2.2.1) ∧ μ s.2.2.2.2.2.2.1 s.2.2.2.2.2.2.2.2.1 < μ s16p s18p) k s2 s8 s9 s10 s14 s15 s17 s16p s18p) (lpk2 (⟨rfl, rfl, rfl, rfl, rfl, rfl, rfl⟩ : s2 = s2 ∧ s8 = s8 ∧ s9 = s9 ∧ s10 = s10 ∧ s14 = s14 ∧ s15 = s15 ∧ s17 = s17) inv (fun s16q s18q => μ s16q s18q < μ s16p s18p))).mpr (hs s16p s18p hi))⟩⟩
theorem bd102 : Callable Try.prog 102 := ⟨by rw [Try.func102]; kernel_rfl, by rw [Try.func102]; show some _ ≠ some _; decide⟩
theorem k15n (p0 : Int) (p1 : Int) (p2 : Int) (h : U64 p0 ∧ U64 p1 ∧ U64 p2 ∧ p0 < p2) : kir (p0, p1, p2, ()) ((((p0 * 18446744073709551616 + p1) / p2) : Int), (((p0 * 18446744073709551616 + p1) % p2) : Int), ()) := by
  obtain ⟨h0, h1, h2, hlt⟩ := h
  refine k1c7 ⟨fun e => ?_, fun _ => ⟨fun e => ?_, fun _ => ⟨fun e => ?_, fun _ => ?_⟩⟩⟩
  · simp at e; omega
  · simp at e; omega
  · have e : p0 = 0 := by simpa using e
    subst e
    rw [tdiv_nn _ _ h1.1, tmod_nn _ _ h1.1, Int.zero_mul, Int.zero_add]
    have := Int.ediv_le_self p2 h1.1
    have := Int.ediv_nonneg h1.1 h2.1
    exact ⟨by omega, by omega, wu _ (by omega) (by have := Int.ediv_le_self p2 h1.1; omega), rfl⟩
  obtain ⟨s, e, hs, n1, n2⟩ := k14t p2 ⟨by omega, h2.2⟩
  have ew : IntKind.u64.wrap (64 - len64 p2) = (s : Int) := by rw [e, wu _ (by omega) (by omega)]
  have ew3 : IntKind.u64.wrap (64 - (s : Int)) = ((64 - s : Nat) : Int) := by rw [wu _ (by omega) (by omega)]; omega
  have hp : 0 < 2 ^ s := Nat.two_pow_pos s
  have hp' : 0 < 2 ^ (64 - s) := Nat.two_pow_pos _
  have hpp : 2 ^ s * 2 ^ (64 - s) = 18446744073709551616 := by rw [← Nat.pow_add, show s + (64 - s) = 64 by omega]
  have hP : ((2 ^ s : Nat) : Int) * ((2 ^ (64 - s) : Nat) : Int) = 18446744073709551616 := by rw [← Int.natCast_mul, hpp]; rfl
  have il : ∀ a : Int, ishl .u64 a (s : Int) = a * ((2 ^ s : Nat) : Int) % 18446744073709551616 := fun a => by rw [k1gq, Int.toNat_natCast, Nat.min_eq_left (by omega)]
  have ir : ∀ a : Int, ishr .u64 a (s : Int) = a / ((2 ^ s : Nat) : Int) := fun a => by rw [kkl, Int.toNat_natCast, show min s IntKind.u64.bits = s from Nat.min_eq_left (by show s ≤ 64; omega)]
  have ir' : ∀ a : Int, ishr .u64 a ((64 - s : Nat) : Int) = a / ((2 ^ (64 - s) : Nat) : Int) := fun a => by rw [kkl, Int.toNat_natCast, show min (64 - s) IntKind.u64.bits = 64 - s from Nat.min_eq_left (by show 64 - s ≤ 64; omega)]
  have hor : ∀ c : Int, 0 ≤ c → c < ((2 ^ s : Nat) : Int) → p0 * ((2 ^ s : Nat) : Int) + c < 18446744073709551616 → ior .u64 (p0 * ((2 ^ s : Nat) : Int)) c = p0 * ((2 ^ s : Nat) : Int) + c := by
    intro c hc0 hc1 hc2
    obtain ⟨a, rfl⟩ := Int.eq_ofNat_of_zero_le h0.1
    obtain ⟨c, rfl⟩ := Int.eq_ofNat_of_zero_le hc0
    have key := ior_add' c a s (by omega)
    rw [Int.mul_comm, ← Int.natCast_mul] at hc2 ⊢
    rw [key (by omega)]
    omega
  simp only [ew, ew3, il, ir', ishr32]
  have hP'0 : (0 : Int) < ((2 ^ (64 - s) : Nat) : Int) := by omega
  generalize hPd : ((2 ^ s : Nat) : Int) = P at *
  generalize hPd' : ((2 ^ (64 - s) : Nat) : Int) = P' at *
  have hP0 : 0 < P := by omega
  have hlo : p1 / P' < P := Int.ediv_lt_of_lt_mul hP'0 (by omega)
  have hlo0 : 0 ≤ p1 / P' := Int.ediv_nonneg h1.1 (by omega)
  have hUv : p0 * P + P ≤ p2 * P := by
    have : (p0 + 1) * P ≤ p2 * P := Int.mul_le_mul_of_nonneg_right (by omega) (by omega)
    grind
  have hUp : 0 ≤ p0 * P := Int.mul_nonneg h0.1 (by omega)
  rw [Int.emod_eq_of_lt (a := p2 * P) (by omega) n2, Int.emod_eq_of_lt (a := p0 * P) hUp (by omega), hor _ hlo0 hlo (by omega)]
  have hN : (p0 * 18446744073709551616 + p1) * P = (p0 * P + p1 / P') * 18446744073709551616 + (p1 * P % 18446744073709551616 / 4294967296) * 4294967296 + p1 * P % 18446744073709551616 % 4294967296 := by
    have h5 : p1 * P / 18446744073709551616 = p1 / P' := by
      rw [← hP, Int.mul_comm p1 P, Int.mul_ediv_mul_of_pos _ _ hP0]
    have h6 := Int.emod_add_mul_ediv (p1 * P) 18446744073709551616
    rw [h5] at h6
    have : (p0 * 18446744073709551616 + p1) * P = p0 * P * 18446744073709551616 + p1 * P := by grind
    rw [this]
    generalize p1 * P = w at *
    generalize p0 * P = w' at *
    omega
  have hlb : 0 ≤ p1 * P % 18446744073709551616 ∧ p1 * P % 18446744073709551616 < 18446744073709551616 := ⟨Int.emod_nonneg _ (by omega), Int.emod_lt_of_pos _ (by omega)⟩
  generalize hUd : p0 * P + p1 / P' = U at *
  generalize hLd : p1 * P % 18446744073709551616 = L at *
  have hVd : p2 * P / 4294967296 * 4294967296 + p2 * P % 4294967296 = p2 * P := by omega
  have hw : ∀ {Q R V' : Int} , R - Q = V' → 0 ≤ V' → V' < 18446744073709551616 → ∀ A, R = A * 4294967296 + (R - A * 4294967296) → IntKind.u64.wrap (IntKind.u64.wrap (IntKind.u64.wrap (A * 4294967296) + (R - A * 4294967296)) - IntKind.u64.wrap Q) = V' := by
    intro Q R V' hv h0 h1 A hA
    simp only [u64w]
    omega
  rw [kg6 (p2 * P) (by omega), kg6 L (by omega)]
  generalize ha : p2 * P / 4294967296 = a at *
  generalize hb : p2 * P % 4294967296 = b at *
  have hQ1 : Half U (L / 4294967296) a b ((U * 4294967296 + L / 4294967296) / (a * 4294967296 + b)) := ⟨by omega, by omega, by omega, by omega, by omega, rfl⟩
  have hr1 := hQ1.rest
  have hq1 := hQ1.q
  generalize (U * 4294967296 + L / 4294967296) / (a * 4294967296 + b) = Q1 at *
  generalize (U * 4294967296 + L / 4294967296) % (a * 4294967296 + b) = R1 at *
  have hQ0 : Half R1 (L % 4294967296) a b ((R1 * 4294967296 + L % 4294967296) / (a * 4294967296 + b)) := ⟨by omega, by omega, by omega, by omega, by omega, rfl⟩
  have hr0 := hQ0.rest
  have hq0 := hQ0.q
  generalize (R1 * 4294967296 + L % 4294967296) / (a * 4294967296 + b) = Q0 at *
  generalize (R1 * 4294967296 + L % 4294967296) % (a * 4294967296 + b) = R0 at *
  rw [hVd] at hr1 hr0 hq1 hq0
  have fin := k1kq hP0 (by omega : 0 < p2) hN hr1.1 hr0.1 ⟨hr0.2.1, hr0.2.2⟩
  have j4 : k7p (((p0 * 18446744073709551616 + p1) / p2 : Int), ((p0 * 18446744073709551616 + p1) % p2 : Int), ()) ((p2 * P : Int), (s : Int), (L % 4294967296 : Int), Q1, R1, Q0, ()) := by
    refine k11z ⟨by omega, ?_, ?_⟩
    · rw [wu (Q1 * 4294967296) (by omega) (by omega), wu _ (by omega) (by omega)]
      exact fin.1
    · have := hw (Q := Q0 * (p2 * P)) (R := R1 * 4294967296 + L % 4294967296) hr0.1 hr0.2.1 (by omega) R1 (by omega)
      rw [show R1 * 4294967296 + L % 4294967296 - R1 * 4294967296 = L % 4294967296 by omega] at this
      rw [this, ir]
      exact fin.2
  have aux : ∀ {U x Q q r : Int}, Half U x a b Q → U < 18446744073709551616 → q * a + r = U → Q ≤ q → 0 ≤ r → q ≤ 8589934592 := by
    intro U x Q q r hh hU e hQ hr
    have h1 := hh.ha
    refine Int.le_of_lt_add_one (Int.lt_of_mul_lt_mul_right (a := a) ?_ (by omega))
    generalize q * a = w at *
    omega
  have init : ∀ {U x Q : Int}, Half U x a b Q → Q ≤ U / a := by
    intro U x Q hh
    have h1 := hh.ha
    have h2 := hh.q
    have h3 := hh.hb
    have h4 := hh.hx
    refine (Int.le_ediv_iff_mul_le (by omega)).2 ?_
    have h5 : Q * (a * 4294967296 + b) = Q * a * 4294967296 + Q * b := by grind
    have h6 : 0 ≤ Q * b := Int.mul_nonneg h2.1 h3.1
    generalize Q * a = w at *
    omega
  have j2 : k7u (((p0 * 18446744073709551616 + p1) / p2 : Int), ((p0 * 18446744073709551616 + p1) % p2 : Int), ()) ((p2 * P : Int), (s : Int), a, b, U, (L / 4294967296 : Int), (L % 4294967296 : Int), Q1, ()) := by
    have e1 := hw (Q := Q1 * (p2 * P)) (R := U * 4294967296 + L / 4294967296) hr1.1 hr1.2.1 (by omega) U (by omega)
    rw [show U * 4294967296 + L / 4294967296 - U * 4294967296 = L / 4294967296 by omega] at e1
    refine k13t ?_
    simp only [e1]
    have hd := Int.emod_add_mul_ediv R1 a
    have hd1 := Int.emod_nonneg R1 (by omega : a ≠ 0)
    have hd2 := Int.emod_lt_of_pos R1 (by omega : 0 < a)
    have hd3 : 0 ≤ R1 / a := Int.ediv_nonneg hr1.2.1 (by omega)
    rw [Int.mul_comm] at hd
    have hd5 : 0 ≤ R1 / a * a := Int.mul_nonneg hd3 (by omega)
    have hd4 := aux hQ0 (by omega) (q := R1 / a) (r := R1 % a) (by omega) (init hQ0) hd1
    rw [tdiv_nn _ _ hr1.2.1, wu (R1 / a) (by omega) (by omega), wu (R1 / a * a) (by omega) (by omega), show R1 - R1 / a * a = R1 % a by omega, wu (R1 % a) (by omega) (by omega)]
    refine ⟨by omega, ?_⟩
    refine k18q (fun r q => q * a + r = R1 ∧ Q0 ≤ q ∧ 0 ≤ r ∧ r < 4294967296) (fun r q => q.toNat) ⟨by omega, init hQ0, hd1, by omega⟩ ?_
    rintro r q ⟨g1, g2, g3, g4⟩
    have g5 := aux hQ0 (by omega) g1 g2 g3
    have j3 : ∀ nx, (Q0 ≤ q - 1) → (r + a < 4294967296 → nx ((p2 * P : Int), (s : Int), a, b, (L % 4294967296 : Int), Q1, (r + a : Int), R1, (q - 1 : Int), ())) → k7q (((p0 * 18446744073709551616 + p1) / p2 : Int), ((p0 * 18446744073709551616 + p1) % p2 : Int), ()) nx ((p2 * P : Int), (s : Int), a, b, (L % 4294967296 : Int), Q1, r, R1, q, ()) := by
      intro nx hq hnx
      refine k144 ?_
      rw [wu (q - 1) (by omega) (by omega), wu (r + a) (by omega) (by omega)]
      refine ⟨fun hd => ?_, fun hd => hnx (by simpa using hd)⟩
      have hd : 4294967296 ≤ r + a := of_decide_eq_true hd
      rw [hQ0.done (q := q - 1) (r := r + a) (by grind) hq hd]
      exact j4
    have nxt : Q0 ≤ q - 1 → r + a < 4294967296 → ((q - 1) * a + (r + a) = R1 ∧ Q0 ≤ q - 1 ∧ 0 ≤ r + a ∧ r + a < 4294967296) ∧ (q - 1).toNat < q.toNat := fun h1 h2 => ⟨⟨by grind, h1, by omega, h2⟩, by omega⟩
    refine ⟨fun hd => j3 _ (hQ0.down g1 (.inl (of_decide_eq_true hd))) fun h1 => ?_, fun hd => ?_⟩
    · obtain ⟨n1, n2⟩ := nxt (hQ0.down g1 (.inl (of_decide_eq_true hd))) h1
      exact ⟨⟨⟨rfl, rfl, rfl, rfl, rfl, rfl, rfl⟩, n1⟩, n2⟩
    · have hd : q < 4294967296 := by simpa using hd
      have hqb : 0 ≤ q * b ∧ q * b < 18446744073709551616 := by
        have := hQ0.hb
        have h1 : q * b ≤ 4294967295 * 4294967295 := Int.mul_le_mul (by omega) (by omega) (by omega) (by omega)
        exact ⟨Int.mul_nonneg (by omega) (by omega), by omega⟩
      have := hQ0.hx
      rw [wu (q * b) (by omega) (by omega), wu (4294967296 * r) (by omega) (by omega), wu (4294967296 * r + L % 4294967296) (by omega) (by omega)]
      refine ⟨fun ht => ?_, fun ht => ?_⟩
      · have ht : 4294967296 * r + L % 4294967296 < q * b := of_decide_eq_true ht
        have hdn := hQ0.down g1 (.inr (by omega))
        refine j3 _ hdn fun h1 => ?_
        obtain ⟨n1, n2⟩ := nxt hdn h1
        exact ⟨⟨⟨rfl, rfl, rfl, rfl, rfl, rfl, rfl⟩, n1⟩, n2⟩
      · have ht : ¬ (4294967296 * r + L % 4294967296 < q * b) := of_decide_eq_false ht
        rw [hQ0.exit g1 g2 (by omega)]
        exact j4
  have hd := Int.emod_add_mul_ediv U a
  have hd1 := Int.emod_nonneg U (by omega : a ≠ 0)
  have hd2 := Int.emod_lt_of_pos U (by omega : 0 < a)
  have hd3 : 0 ≤ U / a := Int.ediv_nonneg (by omega) (by omega)
  rw [Int.mul_comm] at hd
  have hd5 : 0 ≤ U / a * a := Int.mul_nonneg hd3 (by omega)
  have hd4 := aux hQ1 (by omega) (q := U / a) (r := U % a) (by omega) (init hQ1) hd1
  rw [tdiv_nn _ _ (by omega), wu (U / a) (by omega) (by omega), wu (U / a * a) (by omega) (by omega), show U - U / a * a = U % a by omega, wu (U % a) (by omega) (by omega)]
  refine ⟨⟨by omega, h2.2⟩, by omega, by omega, by omega, by omega, by omega, ?_⟩
  refine k198 (fun q r => q * a + r = U ∧ Q1 ≤ q ∧ 0 ≤ r ∧ r < 4294967296) (fun q r => q.toNat) ⟨by omega, init hQ1, hd1, by omega⟩ ?_
  rintro q r ⟨g1, g2, g3, g4⟩
  have g5 := aux hQ1 (by omega) g1 g2 g3
  have j1 : ∀ nx, (Q1 ≤ q - 1) → (r + a < 4294967296 → nx ((p2 * P : Int), (s : Int), a, b, U, (L / 4294967296 : Int), (L % 4294967296 : Int), (q - 1 : Int), (r + a : Int), ())) → k7o (((p0 * 18446744073709551616 + p1) / p2 : Int), ((p0 * 18446744073709551616 + p1) % p2 : Int), ()) nx ((p2 * P : Int), (s : Int), a, b, U, (L / 4294967296 : Int), (L % 4294967296 : Int), q, r, ()) := by
    intro nx hq hnx
    refine k12h ?_
    rw [wu (q - 1) (by omega) (by omega), wu (r + a) (by omega) (by omega)]
    refine ⟨fun hd => ?_, fun hd => hnx (by simpa using hd)⟩
    have hd : 4294967296 ≤ r + a := of_decide_eq_true hd
    rw [hQ1.done (q := q - 1) (r := r + a) (by grind) hq hd]
    exact j2
  have nxt : Q1 ≤ q - 1 → r + a < 4294967296 → ((q - 1) * a + (r + a) = U ∧ Q1 ≤ q - 1 ∧ 0 ≤ r + a ∧ r + a < 4294967296) ∧ (q - 1).toNat < q.toNat := fun h1 h2 => ⟨⟨by grind, h1, by omega, h2⟩, by omega⟩
  refine ⟨fun hd => j1 _ (hQ1.down g1 (.inl (of_decide_eq_true hd))) fun h1 => ?_, fun hd => ?_⟩
  · obtain ⟨n1, n2⟩ := nxt (hQ1.down g1 (.inl (of_decide_eq_true hd))) h1
    exact ⟨⟨⟨rfl, rfl, rfl, rfl, rfl, rfl, rfl⟩, n1⟩, n2⟩
  · have hd : q < 4294967296 := by simpa using hd
    have hqb : 0 ≤ q * b ∧ q * b < 18446744073709551616 := by
      have := hQ1.hb
      have h1 : q * b ≤ 4294967295 * 4294967295 := Int.mul_le_mul (by omega) (by omega) (by omega) (by omega)
      exact ⟨Int.mul_nonneg (by omega) (by omega), by omega⟩
    have := hQ1.hx
    rw [wu (q * b) (by omega) (by omega), wu (4294967296 * r) (by omega) (by omega), wu (4294967296 * r + L / 4294967296) (by omega) (by omega)]
    refine ⟨fun ht => ?_, fun ht => ?_⟩
    · have ht : 4294967296 * r + L / 4294967296 < q * b := of_decide_eq_true ht
      have hdn := hQ1.down g1 (.inr (by omega))
      refine j1 _ hdn fun h1 => ?_
      obtain ⟨n1, n2⟩ := nxt hdn h1
      exact ⟨⟨⟨rfl, rfl, rfl, rfl, rfl, rfl, rfl⟩, n1⟩, n2⟩
    · have ht : ¬ (4294967296 * r + L / 4294967296 < q * b) := of_decide_eq_false ht
      rw [hQ1.exit g1 g2 (by omega)]
      exact j2
noncomputable def kjz : Con TB.den := k1f.fnR (fun x => (fun (p0 : Int) (p1 : Int) (p2 : Int) => U64 p0 ∧ U64 p1 ∧ U64 p2 ∧ p0 < p2) x.1 x.2.1 x.2.2.1) fun x => ((fun (p0 : Int) (p1 : Int) (p2 : Int) => (((p0 * 18446744073709551616 + p1) / p2) : Int)) x.1 x.2.1 x.2.2.1, (fun (p0 : Int) (p1 : Int) (p2 : Int) => (((p0 * 18446744073709551616 + p1) % p2) : Int)) x.1 x.2.1 x.2.2.1, ())
theorem kvk : kjz.Ok Try.prog TB := Con.ok_fn k1f bd102 fun x h => k199 (k15n x.1 x.2.1 x.2.2.1 h)
end Go.Proofs.Ytnmakgfmimagmaa
namespace Go.Proofs.Ytnmakgfmimagmaa
open Go Go.Bv Go.Cv Go.Md Go.RowKit
def k2v : Con TB.den := Con.mk0 101 [.one (.d (.int .u64)), .one (.d (.int .u64))] [] (.tup [.one (.d (.int .u64)), .one (.d (.int .u64))]) []
abbrev kyz := HL TB.den (hsT k2v.ins (hsOs k2v.pre))
abbrev khp := HL TB.den (hsV k2v.res (hsOs k2v.post))
noncomputable def kcj : Cx TB := ⟨inf, [], [], 4, []⟩
noncomputable def khv : Code := Try.f101.body.getD .skip
noncomputable def km3 : List ResultVar := Try.f101.results.toList
noncomputable def kv4 (o : khp) : An TB := .no
noncomputable def kig (x : kyz) (o : khp) : Prop := WPh TB kcj 51 0 khv (kv4 o) (k2v.st TB x) (retTQ TB kcj k2v km3 o)
set_option maxRecDepth 100000 in
theorem k18e (o : khp) : OblH TB kcj 51 0 khv (kv4 o) (retTQ TB kcj k2v km3 o) :=
  OblH.of_eq (X := (True ∧ (True ∧ (True ∧ (True ∧ (True ∧ (True ∧ (True ∧ (True ∧ (True ∧ (True ∧ (True ∧ (True ∧ True))))))))))))) (by kernel_rfl) ⟨trivial, ⟨trivial, ⟨trivial, ⟨trivial, ⟨trivial, ⟨trivial, ⟨trivial, ⟨trivial, ⟨trivial, ⟨trivial, ⟨trivial, ⟨trivial, trivial⟩⟩⟩⟩⟩⟩⟩⟩⟩⟩⟩⟩
set_option maxRecDepth 100000 in
theorem k17s {x : kyz} {o : khp} (h : kig x o) : SoundH Try.prog k2v.f ((k2v.args idf x).map (er TB)) ((k2v.obs idf x).map (erO TB)) (er TB (k2v.val idf o)) ((k2v.ops idf o).map (erO TB)) :=
  Con.soundH (c := k2v) (C := kcj) TBok ⟨inf_ok, all_nil, all_nil⟩ mix Try.func101 (show Try.f101.body = some khv by kernel_rfl) (show Try.f101.ntmps = 51 by kernel_rfl) (show Try.f101.results.toList = km3 by kernel_rfl) rfl h (k18e o)
set_option maxRecDepth 100000 in
theorem k1ch {p0 : Int} {p1 : Int} {r0 : Int} {r1 : Int} (h :
(let v2 : Int := IntKind.u64.wrap ((iand .u64 p0 4294967295) * (iand .u64 p1 4294967295))
 let v3 : Int := IntKind.u64.wrap ((ishr .u64 p0 32) * (iand .u64 p1 4294967295))
 let v4 : Int := IntKind.u64.wrap (v3 + (ishr .u64 v2 32))
 let v5 : Int := IntKind.u64.wrap ((iand .u64 p0 4294967295) * (ishr .u64 p1 32))
 let v6 : Int := IntKind.u64.wrap ((iand .u64 v4 4294967295) + v5)
 let v7 : Int := IntKind.u64.wrap ((ishr .u64 p0 32) * (ishr .u64 p1 32))
 let v8 : Int := IntKind.u64.wrap (v7 + (ishr .u64 v4 32))
 let v9 : Int := IntKind.u64.wrap (v8 + (ishr .u64 v6 32))
 v9 = r0 ∧ IntKind.u64.wrap (p0 * p1) = r1)) : kig (p0, p1, ()) (r0, r1, ()) := WPh.of_eq (by kernel_rfl) h
theorem bd101 : Callable Try.prog 101 := ⟨by rw [Try.func101]; kernel_rfl, by rw [Try.func101]; show some _ ≠ some _; decide⟩
theorem k16y (p0 : Int) (p1 : Int) (h : U64 p0 ∧ U64 p1) : kig (p0, p1, ()) (((p0 * p1 / 18446744073709551616) : Int), ((p0 * p1 % 18446744073709551616) : Int), ()) := by
  obtain ⟨h0, h1⟩ := h
  have k := k1m7 p0 p1 h0 h1
  refine k1ch ?_
  simp only [kg6 p0 h0, kg6 p1 h1, ishr32]
  obtain ⟨e, k1, k2, k3, k4, k5, k6, k7, k8⟩ := k
  rw [← e]
  rw [wu (p0 % 4294967296 * (p1 % 4294967296)) (by omega) (by omega), wu (p0 / 4294967296 * (p1 % 4294967296)) (by omega) (by omega), wu (p0 % 4294967296 * (p1 / 4294967296)) (by omega) (by omega), wu (p0 / 4294967296 * (p1 / 4294967296)) (by omega) (by omega)]
  generalize p0 % 4294967296 * (p1 % 4294967296) = a at *
  generalize p0 / 4294967296 * (p1 % 4294967296) = b at *
  generalize p0 % 4294967296 * (p1 / 4294967296) = c at *
  generalize p0 / 4294967296 * (p1 / 4294967296) = d at *
  rw [wu (b + a / 4294967296) (by omega) (by omega), kg6 _ (by omega)]
  simp only [u64w]
  refine ⟨?_, trivial⟩
  omega
noncomputable def kj7 : Con TB.den := k2v.fnR (fun x => (fun (p0 : Int) (p1 : Int) => U64 p0 ∧ U64 p1) x.1 x.2.1) fun x => ((fun (p0 : Int) (p1 : Int) => ((p0 * p1 / 18446744073709551616) : Int)) x.1 x.2.1, (fun (p0 : Int) (p1 : Int) => ((p0 * p1 % 18446744073709551616) : Int)) x.1 x.2.1, ())
theorem kuj : kj7.Ok Try.prog TB := Con.ok_fn k2v bd101 fun x h => k17s (k16y x.1 x.2.1 h)
end Go.Proofs.Ytnmakgfmimagmaa
namespace Go.Proofs.Ytnmakgfmimagmaa
open Go Go.Bv Go.Cv Go.Md Go.RowKit
def k3f : Con TB.den := Con.mk0 109 [.agg [.d (.int .u64)], .one (.d (.int .u64)), .one (.d (.int .u64))] [] (.one (.one (.d (.int .u64)))) []
abbrev k10n := HL TB.den (hsT k3f.ins (hsOs k3f.pre))
abbrev kkv := HL TB.den (hsV k3f.res (hsOs k3f.post))
noncomputable def kdy : Cx TB := ⟨inf, [kj7, kjz], [], 4, []⟩
noncomputable def kkd : Code := Try.f109.body.getD .skip
noncomputable def kon : List ResultVar := Try.f109.results.toList
noncomputable def kxc (o : kkv) : An TB := .no
noncomputable def kkf (x : k10n) (o : kkv) : Prop := WPh TB kdy 26 0 kkd (kxc o) (k3f.st TB x) (retTQ TB kdy k3f kon o)
set_option maxRecDepth 100000 in
theorem k1cz (o : kkv) : OblH TB kdy 26 0 kkd (kxc o) (retTQ TB kdy k3f kon o) :=
  OblH.of_eq (X := (True ∧ (True ∧ (True ∧ (True ∧ True))))) (by kernel_rfl) ⟨trivial, ⟨trivial, ⟨trivial, ⟨trivial, trivial⟩⟩⟩⟩
set_option maxRecDepth 100000 in
theorem k1dw {x : k10n} {o : kkv} (h : kkf x o) : SoundH Try.prog k3f.f ((k3f.args idf x).map (er TB)) ((k3f.obs idf x).map (erO TB)) (er TB (k3f.val idf o)) ((k3f.ops idf o).map (erO TB)) :=
  Con.soundH (c := k3f) (C := kdy) TBok ⟨inf_ok, (all_cons kuj (all_cons kvk all_nil)), all_nil⟩ mix Try.func109 (show Try.f109.body = some kkd by kernel_rfl) (show Try.f109.ntmps = 26 by kernel_rfl) (show Try.f109.results.toList = kon by kernel_rfl) rfl h (k1cz o)
set_option maxRecDepth 100000 in
theorem k1eo {p0 : TField} {p1 : Int} {p2 : Int} {r0 : Int} (h :
((U64 p1 ∧ U64 p2) ∧ (U64 (p1 * p2 / 18446744073709551616) ∧ U64 (p1 * p2 % 18446744073709551616) ∧ U64 p0.P ∧ (p1 * p2 / 18446744073709551616) < p0.P) ∧ let r1 : Int := (((p1 * p2 / 18446744073709551616) * 18446744073709551616 + (p1 * p2 % 18446744073709551616)) / p0.P)
 let r2 : Int := (((p1 * p2 / 18446744073709551616) * 18446744073709551616 + (p1 * p2 % 18446744073709551616)) % p0.P)
 r2 = r0)) : kkf (p0.P, p1, p2, ()) (r0, ()) := WPh.of_eq (by kernel_rfl) h
theorem bd109 : Callable Try.prog 109 := ⟨by rw [Try.func109]; kernel_rfl, by rw [Try.func109]; show some _ ≠ some _; decide⟩
theorem k17x (p0 : TField) (p1 : Int) (p2 : Int) (h : p0.P = 18446744069414584321 ∧ (0 ≤ p1 ∧ p1 < 18446744069414584321) ∧ (0 ≤ p2 ∧ p2 < 18446744069414584321)) : kkf (p0.P, p1, p2, ()) (((p1 * p2 % 18446744069414584321) : Int), ()) := by
  obtain ⟨hP, h1, h2⟩ := h
  have h3 : 0 ≤ p1 * p2 := Int.mul_nonneg h1.1 h2.1
  have h4 : p1 * p2 ≤ 18446744069414584320 * 18446744069414584320 := Int.mul_le_mul (by omega) (by omega) h2.1 (by omega)
  refine k1eo ⟨⟨by omega, by omega⟩, ?_⟩
  simp only [hP]
  generalize p1 * p2 = m at *
  refine ⟨⟨⟨by omega, by omega⟩, ⟨by omega, by omega⟩, by omega, by omega⟩, ?_⟩
  rw [show m / 18446744073709551616 * 18446744073709551616 + m % 18446744073709551616 = m by omega]
noncomputable def km7 : Con TB.den := k3f.fnR (fun x => (fun (p0 : TField) (p1 : Int) (p2 : Int) => p0.P = 18446744069414584321 ∧ (0 ≤ p1 ∧ p1 < 18446744069414584321) ∧ (0 ≤ p2 ∧ p2 < 18446744069414584321)) (TField.mk x.1) x.2.1 x.2.2.1) fun x => ((fun (p0 : TField) (p1 : Int) (p2 : Int) => ((p1 * p2 % 18446744069414584321) : Int)) (TField.mk x.1) x.2.1 x.2.2.1, ())
theorem ky7 : km7.Ok Try.prog TB := Con.ok_fn k3f bd109 fun x h => k1dw (k17x (TField.mk x.1) x.2.1 x.2.2.1 h)
end Go.Proofs.Ytnmakgfmimagmaa
