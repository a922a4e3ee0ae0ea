/-
  Part of a machine over pure data and objects that is sound for the model: what it says of a Go function holds of every call of that function. Conditions: those in each theorem. It speaks of any program.
-/
import Derived.Test.YtjaignojekmfgaaBvDraw2
namespace Go.Bv
open Go.RowKit

theorem stE_prefix (es : List Eff) : ∀ (i k : Nat) (s : St), stE (fun n => decide (n < k + i)) es k s = (es.take i).foldl (fun s e => e.app s) s := by
  induction es with
  | nil => intro i k s; simp [stE]
  | cons e es ih =>
    intro i k s
    rw [stE]
    cases i with
    | zero =>
      simp only [Nat.add_zero, Nat.lt_irrefl, decide_false, Bool.false_eq_true, if_false, List.take_zero, List.foldl_nil]
      have : ∀ (es : List Eff) (k' : Nat), k ≤ k' → ∀ s, stE (fun n => decide (n < k)) es k' s = s := by
        intro es
        induction es with
        | nil => intro _ _ _; rfl
        | cons e es ih =>
          intro k' hk s
          rw [stE, ih (k' + 1) (by omega), if_neg (by simp; omega)]
      exact this es (k + 1) (by omega) s
    | succ i =>
      rw [if_pos (by simp)]
      have := ih i (k + 1) (e.app s)
      rw [show k + 1 + i = k + (i + 1) by omega] at this
      rw [this]
      rfl

theorem cnt_le (p p' : Nat → Bool) (h : ∀ i, p' i = true → p i = true) : ∀ l : List Nat, (l.filter p').length ≤ (l.filter p).length
  | [] => by simp
  | x :: l => by
    have ih := cnt_le p p' h l
    simp only [List.filter_cons]
    by_cases h1 : p' x = true
    · rw [if_pos h1, if_pos (h x h1)]; simp; omega
    · rw [if_neg h1]
      split
      · simp; omega
      · exact ih
theorem cnt_lt (p p' : Nat → Bool) (h : ∀ i, p' i = true → p i = true) (i : Nat) (h1 : p i = true) (h2 : p' i = false) : ∀ l : List Nat, i ∈ l → (l.filter p').length < (l.filter p).length
  | [], hm => by cases hm
  | x :: l, hm => by
    simp only [List.filter_cons]
    rcases List.mem_cons.1 hm with rfl | hm
    · rw [if_neg (by rw [h2]; simp), if_pos h1]
      have := cnt_le p p' h l
      simp; omega
    · have ih := cnt_lt p p' h i h1 h2 l hm
      by_cases h3 : p' x = true
      · rw [if_pos h3, if_pos (h x h3)]; simp; omega
      · rw [if_neg h3]
        split
        · simp; omega
        · exact ih

/-- What the Bool 'lexB' says. -/
theorem lex_spec {ops : Array Oper} : ∀ (fuel k : Nat) (listed : Array Bool), listed.size = ops.size → k + fuel = ops.size → (∀ i, i < ops.size → (listed.getD i true = decide (i < k) ∧ listed.getD i false = decide (i < k))) → Region.lexFrom .any ops fuel k listed = true →
    ∀ i, k ≤ i → i < ops.size → ∀ oi, ops[i]? = some oi → (∀ e ∈ oi.after, Region.binds .any e = true → e.on < i) ∧ (∀ j oj, i < j → ops[j]? = some oj → oi.apart ops oj = true ∨ ∃ e ∈ oj.after, Region.binds .any e = true ∧ e.on = i)
  | 0, k, listed, _, hk, _, _, i, h1, h2, _, _ => by omega
  | fuel + 1, k, listed, hs, hk, hl, hB, i, h1, h2, oi, hoi => by
    simp only [Region.lexFrom, Bool.and_eq_true] at hB
    obtain ⟨⟨hr, hf⟩, hB'⟩ := hB
    rcases Nat.lt_or_ge k i with hki | hki
    · refine lex_spec fuel (k + 1) (listed.setIfInBounds k true) (by simpa using hs) (by omega) (fun n hn => ?_) hB' i hki h2 oi hoi
      by_cases hnk : n = k
      · subst hnk; simp [hs, hn]
      · rw [getD_set_ne true (Ne.symm hnk), getD_set_ne false (Ne.symm hnk), (hl n hn).1, (hl n hn).2]
        have : (n < k) = (n < k + 1) := by apply propext; omega
        simp only [this, and_self]
    · have hik : i = k := by omega
      subst hik
      refine ⟨fun e he hb => ?_, fun j oj hij hoj => ?_⟩
      · have hmem : i ∈ Region.ready .any ops listed := by simpa using hr
        obtain ⟨_, o', ho', hall⟩ := mem_ready.1 hmem
        rw [hoi] at ho'
        injection ho' with ho'
        subst ho'
        have := hall e he hb
        rcases Nat.lt_or_ge e.on ops.size with h3 | h3
        · rw [(hl _ h3).2] at this
          simpa using this
        · have hsz : listed.size ≤ e.on := by omega
          simp [Array.getD, Nat.not_lt.2 hsz] at this
      · by_cases hex : ∃ e ∈ oj.after, Region.binds .any e = true ∧ e.on = i
        · exact .inr hex
        · refine .inl (Region.free_spec hoi hf j oj hoj (by omega) ?_ (fun e he hb heq => hex ⟨e, he, hb, heq⟩))
          have hjs : j < ops.size := (Array.getElem?_eq_some_iff.1 hoj).1
          rw [(hl j hjs).1]
          simp; omega

section
variable {P : Program} {T : Tk} {G0 : Gh} {w0 : World} {N : Nat}

theorem heapE_none {E : Nat → Bool} {id : Nat} : ∀ (es : List Eff) (k : Nat), heapE E id es k none ≠ none → ∃ (j : Nat) (e : Eff), es[j]? = some e ∧ E (k + j) = true ∧ (Hp.get e.hu id).isSome = true := by
  have gen : ∀ (es : List Eff) (k : Nat) (o : Option Ob), heapE E id es k o ≠ none → o ≠ none ∨ ∃ (j : Nat) (e : Eff), es[j]? = some e ∧ E (k + j) = true ∧ (Hp.get e.hu id).isSome = true := by
    intro es
    induction es with
    | nil => intro k o h; exact .inl h
    | cons e es ih =>
      intro k o h
      rw [heapE] at h
      rcases ih (k + 1) _ h with h1 | ⟨j, e', h1, h2, h3⟩
      · split at h1
        · rename_i hc; exact .inr ⟨0, e, rfl, by simpa using hc.1, hc.2⟩
        · exact .inl h1
      · exact .inr ⟨j + 1, e', by simpa using h1, by rw [show k + (j + 1) = k + 1 + j by omega]; exact h2, h3⟩
  intro es k h
  rcases gen es k none h with h1 | h1
  · exact (h1 rfl).elim
  · exact h1
theorem frs_succ (nb S k : Nat) : frs nb S (k + 1) = frs nb S k + S := by unfold frs; rw [Nat.succ_mul]; omega
theorem frs_mono (nb S : Nat) {k j : Nat} (h : k ≤ j) : frs nb S k ≤ frs nb S j := by unfold frs; have := Nat.mul_le_mul_right S h; omega

/-- WHATEVER ORDER IS DRAWN. -/
theorem drawn {l : List Oper} {es : List Eff} {s0 : St} {nb S : Nat} {Q : Exit → Act → World → Prop} (hlen : es.length = l.length) (hnb : s0.nx = frs nb S l.length) (hold : ∀ id, nb ≤ id → s0.h.get id = none)
    (H1 : ∀ (i : Nat) (o : Oper) (e : Eff), l[i]? = some o → es[i]? = some e → stepD P N (l.map (·.dst)) nb S i o e (stE (fun k => decide (k < i)) es 0 s0))
    (H2 : Region.lexB .any l.toArray = true)
    (H3 : ∀ (i j : Nat) (ei ej : Eff) (oj : Oper) (id : Nat), i < j → es[i]? = some ei → es[j]? = some ej → l[j]? = some oj → (((Hp.get ei.hu id).isSome = true ∧ ((Hp.get ej.hu id).isSome = true ∨ id ∈ ej.rd)) ∨ (id ∈ ei.rd ∧ (Hp.get ej.hu id).isSome = true)) → ∃ e ∈ oj.after, Region.binds .any e = true ∧ e.on = i)
    (H4 : ∀ (j : Nat) (e : Eff) (id : Nat), es[j]? = some e → (Hp.get e.hu id).isSome = true → id < frs nb S (j + 1))
    (H5 : ∀ (j : Nat) (e : Eff) (id : Nat), es[j]? = some e → (Hp.get e.hu id).isSome = true → frs nb S j ≤ id ∨ (stE (fun k => decide (k < j)) es 0 s0).h.get id ≠ none)
    (hQ : ∀ a' G' w', R T G0 w0 N (stE (fun _ => true) es 0 s0) a' G' w' → Q .normal a' w') :
    ∀ (fuel : Nat) (listed : Array Bool) (a : Act) (G : Gh) (w : World), listed.size = l.length → (∀ (j : Nat) (oj : Oper), l[j]? = some oj → listed.getD j false = true → ∀ e ∈ oj.after, Region.binds .any e = true → listed.getD e.on false = true) →
      R T G0 w0 N (stE (fun k => listed.getD k false) es 0 s0) a G w → (∀ k, k < l.length → listed.getD k false = false → ∀ id, frs nb S k ≤ id → id < frs nb S k + S → G.loc id = none ∧ G.tloc id = none) →
      ((List.range l.length).filter (fun i => !listed.getD i false)).length ≤ fuel → wpAny P .any l.toArray Q fuel listed a w := by
  -- what is written was made by the one whose number it bears
  have maker : ∀ (j k : Nat) (ej ek : Eff) (id : Nat), es[j]? = some ej → es[k]? = some ek → (Hp.get ej.hu id).isSome = true → frs nb S k ≤ id → id < frs nb S k + S → k ≤ j ∧ (Hp.get ek.hu id).isSome = true := by
    intro j
    induction j using Nat.strongRecOn with
    | _ j ih =>
      intro k ej ek id hj hk hw h1 h2
      have h4 := H4 j ej id hj hw
      have hkj : k ≤ j := by
        rcases Nat.lt_or_ge j k with h | h
        · have := frs_mono nb S (show j + 1 ≤ k by omega); omega
        · exact h
      refine ⟨hkj, ?_⟩
      by_cases hkj' : k = j
      · subst hkj'
        rw [hj] at hk
        injection hk with hk
        subst hk
        exact hw
      · rcases H5 j ej id hj hw with h5 | h5
        · have := frs_mono nb S (show k + 1 ≤ j by omega)
          rw [frs_succ] at this
          omega
        · rw [stE_hget, hold id (by unfold frs at h1; omega)] at h5
          obtain ⟨j', e', g1, g2, g3⟩ := heapE_none es 0 h5
          simp at g2
          exact (ih j' (by omega) k e' ek id g1 hk g3 h1 h2).2
  simp only [Region.lexB, Bool.and_eq_true] at H2
  have hlex := lex_spec (ops := l.toArray) l.toArray.size 0 (Array.replicate l.toArray.size false) (by simp) (by simp) (fun i hi => by simp at hi; simp [hi]) (by simpa using H2.2)
  have hlx : ∀ (i : Nat) (oi : Oper), l[i]? = some oi → (∀ e ∈ oi.after, Region.binds .any e = true → e.on < i) ∧ (∀ j oj, i < j → l[j]? = some oj → oi.apart l.toArray oj = true ∨ ∃ e ∈ oj.after, Region.binds .any e = true ∧ e.on = i) := by
    intro i oi hoi
    have hi : i < l.length := (List.getElem?_eq_some_iff.1 hoi).1
    obtain ⟨h1, h2⟩ := hlex i (Nat.zero_le _) (by simpa using hi) oi (by simpa using hoi)
    exact ⟨h1, fun j oj hij hoj => h2 j oj hij (by simpa using hoj)⟩
  -- all is listed: the end
  have atEnd : ∀ (listed : Array Bool) (a : Act) (G : Gh) (w : World), (∀ k, k < l.length → listed.getD k false = true) → R T G0 w0 N (stE (fun k => listed.getD k false) es 0 s0) a G w → Q .normal a w := by
    intro listed a G w hall hR
    refine hQ a G w (hR.same (fun t => ?_) (fun i => ?_) (by rw [stE_nx, stE_nx]))
    · rw [stE_get, stE_get]
      exact slotE_congr es 0 _ (fun j e he _ => by have : j < es.length := (List.getElem?_eq_some_iff.1 he).1; rw [Nat.zero_add, hall j (by omega)])
    · rw [stE_hget, stE_hget]
      exact heapE_congr es 0 _ (fun j e he _ => by have : j < es.length := (List.getElem?_eq_some_iff.1 he).1; rw [Nat.zero_add, hall j (by omega)])
  -- something is ready, if not all is listed
  have someReady : ∀ (listed : Array Bool), listed.size = l.length → Region.ready .any l.toArray listed = [] → ∀ k, k < l.length → listed.getD k false = true := by
    intro listed hsz hre k
    induction k using Nat.strongRecOn with
    | _ k ih =>
      intro hk
      cases hkl : listed.getD k false with
      | true => rfl
      | false =>
        exfalso
        have hm : k ∈ Region.ready .any l.toArray listed := by
          refine mem_ready.2 ⟨?_, l[k], by simp [hk], fun e he hb => ?_⟩
          · have : k < listed.size := by omega
            simp [this] at hkl ⊢; exact hkl
          · have := (hlx k l[k] (List.getElem?_eq_getElem hk)).1 e he hb
            exact ih e.on this (by omega)
        rw [hre] at hm
        cases hm
  intro fuel
  induction fuel with
  | zero =>
    intro listed a G w hsz _ hR _ hc
    have hall : ∀ k, k < l.length → listed.getD k false = true := by
      intro k hk
      cases hkl : listed.getD k false with
      | true => rfl
      | false =>
        have hm : k ∈ (List.range l.length).filter (fun i => !listed.getD i false) := by simp only [List.mem_filter, List.mem_range, hkl]; exact ⟨hk, rfl⟩
        have : (List.range l.length).filter (fun i => !listed.getD i false) = [] := List.eq_nil_of_length_eq_zero (by omega)
        rw [this] at hm
        cases hm
    refine ⟨?_, atEnd listed a G w hall hR⟩
    apply List.eq_nil_iff_forall_not_mem.2
    intro i hi
    obtain ⟨h1, o, ho, _⟩ := mem_ready.1 hi
    have hil : i < l.length := by have := (Array.getElem?_eq_some_iff.1 ho).1; simpa using this
    have h2 := hall i hil
    have : i < listed.size := by omega
    simp [this] at h1 h2
    rw [h1] at h2
    cases h2
  | succ fuel ih =>
    intro listed a G w hsz hcl hR hfree hc
    refine ⟨fun hre => atEnd listed a G w (someReady listed hsz hre) hR, fun i hi => ?_⟩
    obtain ⟨hun, o, ho, hall⟩ := mem_ready.1 hi
    have ho' : l[i]? = some o := by simpa using ho
    have hil : i < l.length := (List.getElem?_eq_some_iff.1 ho').1
    have hisz : i < listed.size := by omega
    have hun' : listed.getD i false = false := by simp [hisz] at hun ⊢; exact hun
    have hei : es[i]? = some es[i] := List.getElem?_eq_getElem (by omega)
    generalize es[i] = e at hei
    -- who has been carried out, of those that touch what this one touches
    have before : ∀ (j : Nat) (oj : Oper), j ≠ i → l[j]? = some oj → (oj.apart l.toArray o = true → False) → (o.apart l.toArray oj = true → False) → listed.getD j false = decide (j < i) := by
      intro j oj hji hoj hn1 hn2
      rcases Nat.lt_or_ge j i with h | h
      · rcases (hlx j oj hoj).2 i o h ho' with h3 | ⟨ed, he1, he2, he3⟩
        · exact (hn1 h3).elim
        · rw [← he3, hall ed he1 he2]; simp; omega
      · have h : i < j := by omega
        rcases (hlx i o ho').2 j oj h hoj with h3 | ⟨ed, he1, he2, he3⟩
        · exact (hn2 h3).elim
        · cases hj : listed.getD j false with
          | false => simp; omega
          | true =>
            have := hcl j oj hoj hj ed he1 he2
            rw [he3, hun'] at this
            cases this
    have hed : e.d = o.dst := (H1 i o e ho' hei).2.1
    have hedj : ∀ (j : Nat) (ej : Eff) (oj : Oper), es[j]? = some ej → l[j]? = some oj → ej.d = oj.dst := fun j ej oj h1 h2 => (H1 j oj ej h2 h1).2.1
    have slot : ∀ t, t ∈ o.looksAt l.toArray → getS (stE (fun k => listed.getD k false) es 0 s0).sl t = getS (stE (fun k => decide (k < i)) es 0 s0).sl t := by
      intro t ht
      rw [stE_get, stE_get]
      refine slotE_congr es 0 _ (fun j ej hej hd => ?_)
      rw [Nat.zero_add]
      have hjl : j < l.length := by have := (List.getElem?_eq_some_iff.1 hej).1; omega
      have hoj : l[j]? = some l[j] := List.getElem?_eq_getElem hjl
      have hdj : l[j].dst = some t := by rw [← hedj j ej _ hej hoj]; exact hd
      by_cases hji : j = i
      · subst hji; rw [hun']; simp
      · exact before j _ hji hoj (fun h => (Oper.apart_spec h).1 t hdj ht) (fun h => (Oper.apart_spec h).2.2 t hdj ht)
    have hev : ∀ x ∈ o.op.operands, (stE (fun k => decide (k < i)) es 0 s0).ev x = (stE (fun k => listed.getD k false) es 0 s0).ev x := by
      intro x hx
      cases x with
      | tmp t =>
        refine (slot t ?_).symm
        unfold Oper.looksAt
        refine List.mem_append_left _ (List.mem_filterMap.2 ⟨.tmp t, by simpa using hx, rfl⟩)
      | _ => rfl
    have heap : ∀ id, ((Hp.get e.hu id).isSome = true ∨ id ∈ e.rd) → (stE (fun k => decide (k < i)) es 0 s0).h.get id = (stE (fun k => listed.getD k false) es 0 s0).h.get id := by
      intro id hid
      rw [stE_hget, stE_hget]
      refine heapE_congr es 0 _ (fun j ej hej hd => ?_)
      rw [Nat.zero_add]
      have hjl : j < l.length := by have := (List.getElem?_eq_some_iff.1 hej).1; omega
      have hoj : l[j]? = some l[j] := List.getElem?_eq_getElem hjl
      by_cases hji : j = i
      · subst hji; rw [hun']; simp
      · rcases Nat.lt_or_ge j i with h | h
        · obtain ⟨ed, he1, he2, he3⟩ := H3 j i ej e o id h hej hei ho' (.inl ⟨hd, hid⟩)
          rw [← he3, hall ed he1 he2]; simp; omega
        · obtain ⟨ed, he1, he2, he3⟩ := H3 i j e ej _ id (by omega) hei hej hoj (by
            rcases hid with hid | hid
            · exact .inl ⟨hid, .inl hd⟩
            · exact .inr ⟨hid, hd⟩)
          cases hj : listed.getD j false with
          | false => simp; omega
          | true =>
            have := hcl j _ hoj hj ed he1 he2
            rw [he3, hun'] at this
            cases this
    have hstep := H1 i o e ho' hei
    obtain ⟨hd, _, hgd⟩ := hstep
    -- the state behind it
    have next : ∀ (a' : Act) (G' : Gh) (w' : World), R T G0 w0 N (e.app (stE (fun k => listed.getD k false) es 0 s0)) a' G' w' → (∀ n, n < s0.nx → (n < frs nb S i ∨ frs nb S i + S ≤ n) → (Hp.get e.hu n).isSome = false → G'.loc n = G.loc n ∧ G'.tloc n = G.tloc n) →
        wpAny P .any l.toArray Q fuel (listed.setIfInBounds i true) a' w' := by
      intro a' G' w' hR' hG'
      have hE : ∀ k, (listed.setIfInBounds i true).getD k false = if k = 0 + i then true else listed.getD k false := by
        intro k
        rw [Nat.zero_add]
        by_cases hk : k = i
        · subst hk; simp [hisz]
        · rw [getD_set_ne false (Ne.symm hk), if_neg hk]
      refine ih _ a' G' w' (by simpa using hsz) ?_ ?_ ?_ ?_
      · intro j oj hoj hj ed he hb
        rw [hE] at hj ⊢
        split
        · rfl
        · by_cases hji : j = i
          · subst hji
            rw [ho'] at hoj
            injection hoj with hoj
            subst hoj
            exact hall ed he hb
          · rw [if_neg (by omega)] at hj
            exact hcl j oj hoj hj ed he hb
      · refine hR'.same (fun t => ?_) (fun n => ?_) (by rw [stE_nx, app_nx, stE_nx])
        · have e1 : (fun k => (listed.setIfInBounds i true).getD k false) = fun k => if k = 0 + i then true else listed.getD k false := funext hE
          rw [e1, stE_get, slotE_add es 0 _ e hei (by rw [Nat.zero_add]; exact hun') (fun j ej hij hej hEj hdt hdj => ?_), app_get, stE_get]
          rw [Nat.zero_add] at hEj
          have hjl : j < l.length := by have := (List.getElem?_eq_some_iff.1 hej).1; omega
          have hoj : l[j]? = some l[j] := List.getElem?_eq_getElem hjl
          rcases (hlx i o ho').2 j _ hij hoj with h3 | ⟨ed, he1, he2, he3⟩
          · exact (Oper.apart_spec h3).2.1 t (by rw [← hed]; exact hdt) (by rw [← hedj j ej _ hej hoj]; exact hdj)
          · have := hcl j _ hoj hEj ed he1 he2
            rw [he3, hun'] at this
            cases this
        · have e1 : (fun k => (listed.setIfInBounds i true).getD k false) = fun k => if k = 0 + i then true else listed.getD k false := funext hE
          rw [e1, stE_hget, heapE_add es 0 _ e hei (by rw [Nat.zero_add]; exact hun') (fun j ej hij hej hEj hdt hdj => ?_), app_hget, stE_hget]
          rw [Nat.zero_add] at hEj
          have hjl : j < l.length := by have := (List.getElem?_eq_some_iff.1 hej).1; omega
          have hoj : l[j]? = some l[j] := List.getElem?_eq_getElem hjl
          obtain ⟨ed, he1, he2, he3⟩ := H3 i j e ej _ n hij hei hej hoj (.inl ⟨hdt, .inl hdj⟩)
          have := hcl j _ hoj hEj ed he1 he2
          rw [he3, hun'] at this
          cases this
      · intro k hk hkl
        rw [hE] at hkl
        split at hkl
        · cases hkl
        · rename_i hki
          intro id hid1 hid2
          obtain ⟨q1, q2⟩ := hfree k hk hkl id hid1 hid2
          have hki : k ≠ i := by omega
          have hfar : id < frs nb S i ∨ frs nb S i + S ≤ id := by
            rcases Nat.lt_or_ge k i with h | h
            · have := frs_mono nb S (show k + 1 ≤ i by omega); rw [frs_succ] at this; omega
            · have := frs_mono nb S (show i + 1 ≤ k by omega); rw [frs_succ] at this; omega
          have hnx : id < s0.nx := by
            have := frs_mono nb S (show k + 1 ≤ l.length by omega); rw [frs_succ] at this; omega
          have hnw : (Hp.get e.hu id).isSome = false := by
            cases hw : (Hp.get e.hu id).isSome with
            | false => rfl
            | true =>
              exfalso
              obtain ⟨g1, g2⟩ := maker i k e es[k] id hei (List.getElem?_eq_getElem (by omega)) hw hid1 hid2
              obtain ⟨ed, he1, he2, he3⟩ := H3 k i _ e o id (by omega) (List.getElem?_eq_getElem (by omega)) hei ho' (.inl ⟨g2, .inl hw⟩)
              have := hall ed he1 he2
              rw [he3, hkl] at this
              cases this
          obtain ⟨q3, q4⟩ := hG' id hnx hfar hnw
          exact ⟨q3.trans q1, q4.trans q2⟩
      · have := cnt_lt (fun n => !listed.getD n false) (fun n => !(listed.setIfInBounds i true).getD n false) (fun n hn => by
          simp only [Bool.not_eq_true'] at hn ⊢
          rw [hE] at hn
          split at hn
          · cases hn
          · exact hn) i (by simp only [hun']; rfl) (by simp only [hE]; rw [if_pos (by omega)]; rfl) (List.range l.length) (by simpa using hil)
        omega
    have run : opD P nb S i o.op e (stE (fun k => decide (k < i)) es 0 s0) → o.wp P a w (wpAny P .any l.toArray Q fuel (listed.setIfInBounds i true)) Q := by
      intro hop
      have hop' : opD P nb S i o.op e (stE (fun k => listed.getD k false) es 0 s0) := opD_congr hev (fun id h _ => heap id h) (fun id h _ _ => heap id (.inl h)) (fun id h _ => heap id (.inr h)) hop
      refine opD_sound hR hd hed hop' (by rw [stE_nx, hnb, ← frs_succ]; exact frs_mono nb S (by omega)) (fun j hj => ?_) (fun a' G' w' hR' hG' => next a' G' w' hR' (fun n hn1 hn2 hn3 => hG' n (by rw [stE_nx]; exact hn1) hn2 hn3))
      obtain ⟨q1, q2⟩ := hfree i hil hun' (frs nb S i + j) (by omega) (by omega)
      refine ⟨q1, q2, ?_⟩
      cases hg : (stE (fun k => listed.getD k false) es 0 s0).h.get (frs nb S i + j) with
      | none => rfl
      | some ob =>
        exfalso
        have hne : (stE (fun k => listed.getD k false) es 0 s0).h.get (frs nb S i + j) ≠ none := by rw [hg]; simp
        rw [stE_hget, hold _ (by unfold frs; omega)] at hne
        obtain ⟨j', e', g1, g2, g3⟩ := heapE_none es 0 hne
        rw [Nat.zero_add] at g2
        obtain ⟨m1, m2⟩ := maker j' i e' e _ g1 hei g3 (by omega) (by omega)
        have hjl : j' < l.length := by have := (List.getElem?_eq_some_iff.1 g1).1; omega
        have hji : i ≠ j' := by rintro rfl; rw [hun'] at g2; cases g2
        obtain ⟨ed, he1, he2, he3⟩ := H3 i j' e e' _ _ (by omega) hei g1 (List.getElem?_eq_getElem hjl) (.inl ⟨m2, .inl g3⟩)
        have := hcl j' _ (List.getElem?_eq_getElem hjl) g2 ed he1 he2
        rw [he3, hun'] at this
        cases this
    unfold wpOp
    rw [ho]
    simp only
    cases hgo : o.guard with
    | none =>
      rw [hgo] at hgd
      rw [if_pos (by simp [Region.wanted, hgo])]
      exact .inl (run hgd)
    | some g =>
      obtain ⟨j, b⟩ := g
      rw [hgo] at hgd
      have hgs : guardV (stE (fun k => listed.getD k false) es 0 s0) (l.map (·.dst)) j = guardV (stE (fun k => decide (k < i)) es 0 s0) (l.map (·.dst)) j := by
        unfold guardV
        cases hj : (l.map (·.dst))[j]? with
        | none => rfl
        | some od => cases od with
          | none => rfl
          | some u =>
            refine slot u ?_
            unfold Oper.looksAt
            refine List.mem_append_right _ ?_
            rw [hgo]
            rw [List.getElem?_map, Option.map_eq_some_iff] at hj
            obtain ⟨oj, hoj, hdj⟩ := hj
            simp [hoj, hdj]
      have skip : e.x = .k undef → e.hu = [] → wpAny P .any l.toArray Q fuel (listed.setIfInBounds i true) (a.put o.dst undef) w := by
        intro h4 h5
        refine next _ G w ?_ (fun _ _ _ _ => ⟨rfl, rfl⟩)
        have : e.app (stE (fun k => listed.getD k false) es 0 s0) = (stE (fun k => listed.getD k false) es 0 s0).put o.dst (.k undef) := by
          unfold Eff.app
          rw [h4, h5, hed]
          rfl
        rw [this]
        exact hR.put (.k _) o.dst (fun u hu => by rw [hu] at hd; exact hd)
      rcases hgd with ⟨h1, h2, h3⟩ | hgd
      · have hy := guard_none hR (hgs.trans h1)
        rw [if_neg (by simp [Region.wanted, hgo, hy])]
        exact skip h2 h3
      obtain ⟨t, h1, h2, h3⟩ := hgd
      have hy := guard_yield hR (hgs.trans h1)
      by_cases htb : t = b
      · rw [if_pos (by simp [Region.wanted, hgo, hy, htb])]
        exact .inl (run (h2 htb))
      · rw [if_neg (by simp [Region.wanted, hgo, hy, htb])]
        obtain ⟨h4, h5⟩ := h3 htb
        exact skip h4 h5

end
end Go.Bv
