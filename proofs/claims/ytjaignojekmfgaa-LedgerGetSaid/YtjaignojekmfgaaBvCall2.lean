/-
  Part of a machine over pure data and objects that is sound for the model: what it says of a Go function holds of every call of that function. Conditions: those in each theorem. It speaks of any program.
-/
import Derived.Test.YtjaignojekmfgaaBvCall
namespace Go.Bv
open Go.RowKit

section
variable {P : Program} {T : Tk} {G0 G : Gh} {w0 w : World} {N : Nat} {s : St} {a : Act}

theorem renO_tip {σ : Nat → Nat} {o : Ob} {t : Nat} (h : renO σ o = .tip t) : o = .tip t := by cases o <;> simp_all [renO]
theorem renO_cells {σ : Nat → Nat} {o : Ob} {l : List V} (h : renO σ o = .cells l) : ∃ l0, o = .cells l0 ∧ l = l0.map (ren1 σ) := by
  cases o <;> simp_all [renO]
theorem renO_map {σ : Nat → Nat} {o : Ob} {es : List (D × V)} (h : renO σ o = .map es) : ∃ es0, o = .map es0 ∧ es = es0.map fun e => (e.1, ren0 σ e.2) := by
  cases o <;> simp_all [renO]

/-- THE CALL. -/
theorem R.call (hR : R T G0 w0 N s a G w) {f : FuncId} {xs : List V} {pre : List Ob} {r : V} {post : List Ob} (hs : SoundH P f xs pre r post) {ids : List Nat} {fb nx' : Nat}
    (hids : preOk s.h (sgm ids fb) pre.length fb s.nx ids pre) (hnd : ids.Nodup) (hpp : pre.length ≤ post.length)
    (hfr : (fb = s.nx ∧ nx' = s.nx + (post.length - pre.length)) ∨ (nx' = s.nx ∧ ∀ j, j < post.length - pre.length → fb + j < s.nx ∧ G.loc (fb + j) = none ∧ G.tloc (fb + j) = none ∧ ∀ o, post[pre.length + j]? = some o → notTip o))
    {vs : List Value} (hlen : vs.length = xs.length)
    (hr : ∀ (j : Nat) (v : Value) (x : V), vs[j]? = some v → xs[j]? = some x → RepV G w s.h s.nx v (ren (sgm ids fb) x) ∧ ok pre.length x) (hflat : noTup r) :
    Calls P f vs.toArray w fun e w' => ∃ v G', e = .returned v ∧ R T G0 w0 N ⟨s.sl, hpNew (sgm ids fb) 0 post ++ s.h, nx'⟩ a G' w' ∧ RepV G' w' (hpNew (sgm ids fb) 0 post ++ s.h) nx' v (ren (sgm ids fb) r) ∧
      ∀ i, i < s.nx → (∀ k, k < post.length → sgm ids fb k ≠ i) → G'.loc i = G.loc i ∧ G'.tloc i = G.tloc i := by
  have hw := hR.wr
  obtain ⟨hil, hpo⟩ := preOk_spec hids
  generalize hσ : sgm ids fb = σ at *
  have σlt : ∀ i, i < pre.length → ∃ k, ids[i]? = some k ∧ σ i = k := fun i hi => by
    have : i < ids.length := by omega
    exact ⟨ids[i], List.getElem?_eq_getElem this, by rw [← hσ]; simp [sgm, this]⟩
  have σge : ∀ i, pre.length ≤ i → σ i = fb + (i - pre.length) := fun i hi => by
    rw [← hσ]
    have : ids[i]? = none := List.getElem?_eq_none (by omega)
    simp [sgm, this, hil]
  have σob : ∀ i o, pre[i]? = some o → σ i < fb ∧ σ i < s.nx ∧ obLe (s.h.get (σ i)) (renO σ o) ∧ okO pre.length o ∧ notDead o := fun i o ho => by
    obtain ⟨k, hk, hk2⟩ := σlt i (List.getElem?_eq_some_iff.1 ho).1
    rw [hk2]
    exact hpo i k o hk ho
  have σlo : ∀ i, i < pre.length → σ i < fb ∧ σ i < s.nx := fun i hi => ⟨(σob i _ (List.getElem?_eq_getElem hi)).1, (σob i _ (List.getElem?_eq_getElem hi)).2.1⟩
  have σlive : ∀ i, i < pre.length → live s.h (σ i) := by
    intro i hi
    obtain ⟨_, _, h1, _, h2⟩ := σob i _ (List.getElem?_eq_getElem hi)
    generalize pre[i] = o at h1 h2
    cases o with
    | cells l => obtain ⟨l0, h1, _⟩ := obLe_cells h1; exact live_cells h1
    | tip t => exact live_tip (obLe_tip h1)
    | map es => exact live_map (obLe_map h1)
    | dead => exact h2.elim
  have σinj : ∀ i j, σ i = σ j → i = j := by
    intro i j hij
    rcases Nat.lt_or_ge i pre.length with hi | hi <;> rcases Nat.lt_or_ge j pre.length with hj | hj
    · obtain ⟨k, hk, hk2⟩ := σlt i hi
      obtain ⟨k', hk', hk2'⟩ := σlt j hj
      have : k = k' := by omega
      subst this
      exact (List.getElem?_inj (by omega) hnd).1 (hk.trans hk'.symm)
    · have := (σlo i hi).1; rw [σge j hj] at hij; omega
    · have := (σlo j hj).1; rw [σge i hi] at hij; omega
    · rw [σge i hi, σge j hj] at hij; omega
  have hnn : s.nx ≤ nx' := by rcases hfr with ⟨_, h⟩ | ⟨h, _⟩ <;> omega
  have σlt' : ∀ i, i < post.length → σ i < nx' := by
    intro i hi
    rcases Nat.lt_or_ge i pre.length with h | h
    · have := (σlo i h).2; omega
    · rw [σge i h]
      rcases hfr with ⟨h1, h2⟩ | ⟨h1, h2⟩
      · omega
      · have := (h2 (i - pre.length) (by omega)).1; omega
  -- the callee's view of what is there
  let G1 : Gh := ⟨fun i => if i < pre.length then G.loc (σ i) else none, fun i => if i < pre.length then G.tloc (σ i) else none, G.lim⟩
  have hl1 : ∀ i, i < pre.length → G1.loc i = G.loc (σ i) := fun i hi => by simp [G1, hi]
  have ht1 : ∀ i, i < pre.length → G1.tloc i = G.tloc (σ i) := fun i hi => by simp [G1, hi]
  have htip1 : ∀ i t, i < pre.length → (hpOf 0 pre).get i = some (.tip t) → s.h.get (σ i) = some (.tip t) := by
    intro i t hi hg
    rw [hpOf_get0] at hg
    exact obLe_tip (σob i _ hg).2.2.1
  have hW1 : WR (tkOf G1 pre) w.heap.size G1 w (hpOf 0 pre) pre.length := by
    refine ⟨?_, ?_, ?_, ?_, ?_, hw.lim⟩
    · intro id l hg
      rw [hpOf_get0] at hg
      obtain ⟨_, _, h1, h2, _⟩ := σob id _ hg
      have hid : id < pre.length := (List.getElem?_eq_some_iff.1 hg).1
      obtain ⟨l0, hgt, hle⟩ := obLe_cells h1
      obtain ⟨b, e, cs, k1, k2, k3, k4, k5, k6⟩ := hw.obj (σ id) l0 hgt
      obtain ⟨q1, q2, q3⟩ := leL_spec hle
      rw [List.length_map] at q1
      refine ⟨b, e, cs, by rw [hl1 id hid]; exact k1, k2, k3, by omega, fun x hx => ?_, fun j v x hv hx => ?_⟩
      · rw [← ren1_one σ x]; exact q2 _ (List.mem_map.2 ⟨x, hx, rfl⟩)
      · have hj : j < l0.length := by have := (List.getElem?_eq_some_iff.1 hx).1; omega
        have := (k6 j v _ hv (List.getElem?_eq_getElem hj)).le1 (q3 j _ (ren1 σ x) (List.getElem?_eq_getElem hj) (by rw [List.getElem?_map, hx]; rfl))
        exact ren_back1 (G := G) (G' := G1) rfl hl1 ht1 htip1 this (okL_spec h2 j x hx)
    · intro id es hg
      rw [hpOf_get0] at hg
      obtain ⟨_, _, h1, h2, _⟩ := σob id _ hg
      have hid : id < pre.length := (List.getElem?_eq_some_iff.1 hg).1
      obtain ⟨b, clk, ms, k1, k2, k3, k0, k4⟩ := hw.mob (σ id) _ (obLe_map h1)
      refine ⟨b, clk, ms, by rw [hl1 id hid]; exact k1, k2, by simpa using k3, fun e he l hl => ?_, fun j m e hm he => ?_⟩
      · exact k0 (e.1, ren0 σ e.2) (List.mem_map.2 ⟨e, he, rfl⟩) l (by simp only [hl]; rfl)
      obtain ⟨q1, q2⟩ := k4 j m (e.1, ren0 σ e.2) hm (by rw [List.getElem?_map, he]; rfl)
      exact ⟨q1, ren_back0 (G := G) (G' := G1) rfl hl1 ht1 htip1 q2 (okM_spec h2 j e he)⟩
    · intro id b hid hb
      rw [hl1 id hid, ht1 id hid] at hb
      exact ⟨(hw.here (σ id) b (σlo id hid).2 hb).1, .inr ⟨id, hid, by rw [hl1 id hid, ht1 id hid]; exact hb⟩⟩
    · intro i j b hi hj hbi hbj _ _
      rw [hl1 i hi, ht1 i hi] at hbi
      rw [hl1 j hj, ht1 j hj] at hbj
      exact σinj i j (hw.inj _ _ b (σlo i hi).2 (σlo j hj).2 hbi hbj (σlive i hi) (σlive j hj))
    · intro id ob hg
      rw [hpOf_get0] at hg
      exact (List.getElem?_eq_some_iff.1 hg).1
  refine (hs G1 w vs hlen (fun j v x hv hx => ren_back (G := G) (G' := G1) rfl hl1 ht1 htip1 (hr j v x hv hx).1 (hr j v x hv hx).2) hW1).mono fun e w' ⟨v, G2, he, hv, hW, hF, hE⟩ => ?_
  -- the caller's view of what is there now
  let inv : Nat → Option Nat := fun k => (List.range post.length).find? (fun i => decide (σ i = k))
  have inv_in : ∀ i, i < post.length → inv (σ i) = some i := by
    intro i hi
    simp only [inv]
    cases hf : (List.range post.length).find? (fun j => decide (σ j = σ i)) with
    | none =>
      have := List.find?_eq_none.1 hf i (List.mem_range.2 hi)
      simp at this
    | some j =>
      have := List.find?_some hf
      simp at this
      rw [σinj j i this]
  have inv_out : ∀ k, (∀ i, i < post.length → σ i ≠ k) → inv k = none := by
    intro k hk
    simp only [inv]
    rw [List.find?_eq_none]
    intro i hi
    simpa using hk i (List.mem_range.1 hi)
  let G' : Gh := ⟨fun k => match inv k with | some i => G2.loc i | none => G.loc k, fun k => match inv k with | some i => G2.tloc i | none => G.tloc k, G2.lim⟩
  have hin : ∀ i, i < post.length → G'.loc (σ i) = G2.loc i ∧ G'.tloc (σ i) = G2.tloc i := fun i hi => by simp [G', inv_in i hi]
  have hout : ∀ k, (∀ i, i < post.length → σ i ≠ k) → G'.loc k = G.loc k ∧ G'.tloc k = G.tloc k := fun k hk => by simp [G', inv_out k hk]
  have hgin : ∀ i o, post[i]? = some o → Hp.get (hpNew σ 0 post ++ s.h) (σ i) = some (renO σ o) := by
    intro i o ho
    rw [get_append, hpNew_get post 0 i o (fun a b _ _ h => σinj a b h) (Nat.zero_le _) (by simpa using ho)]
  have hgout : ∀ k, (∀ i, i < post.length → σ i ≠ k) → Hp.get (hpNew σ 0 post ++ s.h) k = s.h.get k := by
    intro k hk
    rw [get_append, hpNew_out post 0 k (fun i _ h => hk i (by omega))]
  have cases_k : ∀ k, (∃ i, i < post.length ∧ σ i = k) ∨ (∀ i, i < post.length → σ i ≠ k) := by
    intro k
    by_cases h : ∃ i, i < post.length ∧ σ i = k
    · exact .inl h
    · exact .inr (fun i hi he => h ⟨i, hi, he⟩)
  -- what the callee has not seen is as it was
  have frame : ∀ k b, k < s.nx → live s.h k → (∀ i, i < post.length → σ i ≠ k) → (G.loc k = some b ∨ G.tloc k = some b) → b < w.heap.size ∧ w'.heap[b]? = w.heap[b]? ∧ G2.lim b = G.lim b := by
    intro k b hk hkl hno hb
    have hbl := (hw.here k b hk hb).1
    have hnt : ¬ (tkOf G1 pre) b := by
      rintro ⟨i, hi, hbi⟩
      rw [hl1 i hi, ht1 i hi] at hbi
      exact hno i (by omega) (hw.inj k (σ i) b hk (σlo i hi).2 hb hbi hkl (σlive i hi)).symm
    exact ⟨hbl, hF.same b hbl hnt⟩
  have hext : Ext G w s.h s.nx G' w' (hpNew σ 0 post ++ s.h) nx' := by
    refine ⟨hF.mono, hnn, fun id b hi hb => ?_, fun tok t' ht h1 => ?_, hE.csz⟩
    · rcases cases_k id with ⟨i, hi2, rfl⟩ | hno
      · rw [(hin i hi2).1]
        rcases Nat.lt_or_ge i pre.length with h | h
        · exact hE.loc i b h (by rw [hl1 i h]; exact hb)
        · rw [σge i h] at hi hb
          rcases hfr with ⟨q1, q2⟩ | ⟨q1, q2⟩
          · omega
          · rw [(q2 (i - pre.length) (by omega)).2.1] at hb; cases hb
      · rw [(hout id hno).1]; exact hb
    · rcases cases_k tok with ⟨i, hi2, rfl⟩ | hno
      · rw [hgin i _ (List.getElem?_eq_getElem hi2)] at h1
        injection h1 with h1
        have hpi := renO_tip h1
        rcases Nat.lt_or_ge i pre.length with h | h
        · obtain ⟨t, g1, g2, g3⟩ := hE.tok i t' h (by rw [hpOf_get0, List.getElem?_eq_getElem hi2, hpi])
          refine ⟨t, htip1 i t h g1, g2, fun htt b hb => ?_⟩
          rw [(hin i hi2).2]
          exact g3 htt b (by rw [ht1 i h]; exact hb)
        · rw [σge i h] at ht
          rcases hfr with ⟨q1, q2⟩ | ⟨q1, q2⟩
          · omega
          · have := (q2 (i - pre.length) (by omega)).2.2.2 _ (by rw [show pre.length + (i - pre.length) = i by omega]; exact List.getElem?_eq_getElem hi2)
            rw [hpi] at this
            exact this.elim
      · rw [hgout tok hno] at h1
        refine ⟨t', h1, Nat.le_refl _, fun _ b hb => ?_⟩
        obtain ⟨q0, q1, q2⟩ := frame tok b ht (live_tip h1) hno (.inr hb)
        exact ⟨by rw [(hout tok hno).2]; exact hb, q1, q2⟩
  have hren : Ren σ G2 (hpOf 0 post) post.length G' (hpNew σ 0 post ++ s.h) nx' :=
    ⟨rfl, σlt', fun i hi => (hin i hi).1, fun i hi => (hin i hi).2, fun i t hi hg => by
      rw [hgin i _ (List.getElem?_eq_getElem hi)] at hg
      injection hg with hg
      rw [hpOf_get0, List.getElem?_eq_getElem hi, renO_tip hg]⟩
  have one_not : ∀ x : V, x.one = true → (∀ l, x ≠ .agg l) ∧ ∀ l, x ≠ .tup l := fun x hx => ⟨fun l h => (by subst h; cases hx), fun l h => (by subst h; cases hx)⟩
  refine ⟨v, G', he, ⟨?_, ⟨?_, ?_, ?_, ?_, ?_, ?_⟩, hR.df, hR.sz, fun t => (hR.sl t).ext hext, hR.ex.ext hext⟩, hv.ren hren (fun l hl y hy l' => by subst hl; exact hflat y hy l'), fun i _ hno => hout i (fun k hk => hno k hk)⟩
  · have hF0 := hR.fr
    refine ⟨hF.os.trans hF0.os, hF.tape.trans hF0.tape, hF.output.trans hF0.output, Nat.le_trans hF0.size hF.size, fun b hb hT => ?_, hF0.mono.trans hF.mono⟩
    have hnt : ¬ (tkOf G1 pre) b := by
      rintro ⟨i, hi, hbi⟩
      rw [hl1 i hi, ht1 i hi] at hbi
      rcases (hw.here (σ i) b (σlo i hi).2 hbi).2 with h | h
      · omega
      · exact hT h
    obtain ⟨q1, q2⟩ := hF.same b (Nat.lt_of_lt_of_le hb hF0.size) hnt
    obtain ⟨q3, q4⟩ := hF0.same b hb hT
    exact ⟨q1.trans q3, q2.trans q4⟩
  · intro id l hl
    rcases cases_k id with ⟨i, hi, rfl⟩ | hno
    · have hl' : Hp.get (hpNew σ 0 post ++ s.h) (σ i) = some (.cells l) := hl
      rw [hgin i _ (List.getElem?_eq_getElem hi)] at hl'
      injection hl' with hl'
      obtain ⟨l0, hp, rfl⟩ := renO_cells hl'
      obtain ⟨b, e', cs, k1, k2, k3, k4, k5, k6⟩ := hW.obj i l0 (by rw [hpOf_get0, List.getElem?_eq_getElem hi, hp])
      refine ⟨b, e', cs, by rw [(hin i hi).1]; exact k1, k2, k3, by simpa using k4, fun x hx => ?_, fun j u x hu hx => ?_⟩
      · obtain ⟨y, hy, rfl⟩ := List.mem_map.1 hx
        rw [ren1_one]; exact k5 y hy
      · rw [List.getElem?_map, Option.map_eq_some_iff] at hx
        obtain ⟨y, hy, rfl⟩ := hx
        have := one_not y (k5 y (List.mem_of_getElem? hy))
        exact (k6 j u y hu hy).ren1 hren this.1 this.2
    · have hl' : Hp.get (hpNew σ 0 post ++ s.h) id = some (.cells l) := hl
      rw [hgout id hno] at hl'
      obtain ⟨b, e', cs, k1, k2, k3, k4, k5, k6⟩ := hw.obj id l hl'
      obtain ⟨q0, q1, q2⟩ := frame id b (hw.hid _ _ hl') (live_cells hl') hno (.inl k1)
      exact ⟨b, e', cs, by rw [(hout id hno).1]; exact k1, q1.trans k2, q2.trans k3, k4, k5, fun j v x hv hx => (k6 j v x hv hx).ext hext⟩
  · intro id es hl
    rcases cases_k id with ⟨i, hi, rfl⟩ | hno
    · have hl' : Hp.get (hpNew σ 0 post ++ s.h) (σ i) = some (.map es) := hl
      rw [hgin i _ (List.getElem?_eq_getElem hi)] at hl'
      injection hl' with hl'
      obtain ⟨es0, hp, rfl⟩ := renO_map hl'
      obtain ⟨b, clk, ms, k1, k2, k3, k0, k4⟩ := hW.mob i es0 (by rw [hpOf_get0, List.getElem?_eq_getElem hi, hp])
      refine ⟨b, clk, ms, by rw [(hin i hi).1]; exact k1, k2, by simpa using k3, fun x hx l hl => ?_, fun j m x hm hx => ?_⟩
      · obtain ⟨y, hy, rfl⟩ := List.mem_map.1 hx
        have hy0 := k0 y hy
        generalize y.2 = z at hy0 hl
        cases z <;> first | (exact hy0 _ rfl) | (simp [Bv.ren0, Bv.ren1] at hl)
      rw [List.getElem?_map, Option.map_eq_some_iff] at hx
      obtain ⟨y, hy, rfl⟩ := hx
      obtain ⟨q1, q2⟩ := k4 j m y hm hy
      refine ⟨q1, ?_⟩
      exact q2.ren0 hren (k0 y (List.mem_of_getElem? hy))
    · have hl' : Hp.get (hpNew σ 0 post ++ s.h) id = some (.map es) := hl
      rw [hgout id hno] at hl'
      obtain ⟨b, clk, ms, k1, k2, k3, k0, k4⟩ := hw.mob id es hl'
      obtain ⟨q0, q1, q2⟩ := frame id b (hw.hid _ _ hl') (live_map hl') hno (.inl k1)
      exact ⟨b, clk, ms, by rw [(hout id hno).1]; exact k1, q1.trans k2, k3, k0, fun j m e hm he => ⟨(k4 j m e hm he).1.mono hext.mono, (k4 j m e hm he).2.ext hext⟩⟩
  · intro id b hid hb
    rcases cases_k id with ⟨i, hi, rfl⟩ | hno
    · rw [(hin i hi).1, (hin i hi).2] at hb
      obtain ⟨q1, q2⟩ := hW.here i b hi hb
      refine ⟨q1, ?_⟩
      rcases q2 with q2 | ⟨j, hj, hbj⟩
      · exact .inl (Nat.le_trans hR.fr.size q2)
      · rw [hl1 j hj, ht1 j hj] at hbj
        exact (hw.here (σ j) b (σlo j hj).2 hbj).2
    · rw [(hout id hno).1, (hout id hno).2] at hb
      have hid : id < nx' := hid
      have hid' : id < s.nx := by
        rcases hfr with ⟨h1, h2⟩ | ⟨h1, h2⟩
        · rcases Nat.lt_or_ge id s.nx with h | h
          · exact h
          · exact (hno (pre.length + (id - s.nx)) (by omega) (by rw [σge _ (by omega)]; omega)).elim
        · omega
      obtain ⟨q1, q2⟩ := hw.here id b hid' hb
      exact ⟨Nat.lt_of_lt_of_le q1 hF.size, q2⟩
  · intro i j b hi hj hbi hbj li lj
    have hi : i < nx' := hi
    have hj : j < nx' := hj
    have low : ∀ k, k < nx' → (∀ i, i < post.length → σ i ≠ k) → k < s.nx := by
      intro k hk hno
      rcases hfr with ⟨h1, h2⟩ | ⟨h1, h2⟩
      · rcases Nat.lt_or_ge k s.nx with h | h
        · exact h
        · exact (hno (pre.length + (k - s.nx)) (by omega) (by rw [σge _ (by omega)]; omega)).elim
      · omega
    have mixed : ∀ k b' i', k < s.nx → live s.h k → (∀ i, i < post.length → σ i ≠ k) → (G.loc k = some b' ∨ G.tloc k = some b') → i' < post.length → (G2.loc i' = some b' ∨ G2.tloc i' = some b') → False := by
      intro k b' i' hk hkl hno hb' hi' hb2
      have hbl := (hw.here k b' hk hb').1
      rcases (hW.here i' b' hi' hb2).2 with h | ⟨j, hj, hbj⟩
      · omega
      · rw [hl1 j hj, ht1 j hj] at hbj
        exact hno j (by omega) (hw.inj k (σ j) b' hk (σlo j hj).2 hb' hbj hkl (σlive j hj)).symm
    have lpost : ∀ i, i < post.length → live (hpNew σ 0 post ++ s.h) (σ i) → live (hpOf 0 post) i := by
      intro i hi l
      obtain ⟨o, ho, hd⟩ := live_of l
      rw [hgin i _ (List.getElem?_eq_getElem hi)] at ho
      injection ho with ho
      unfold live
      rw [hpOf_get0, List.getElem?_eq_getElem hi]
      cases hp : post[i] with
      | dead => rw [hp] at ho; exact hd ho.symm
      | _ => trivial
    rcases cases_k i with ⟨i', hi', rfl⟩ | hno <;> rcases cases_k j with ⟨j', hj', rfl⟩ | hno'
    · rw [(hin i' hi').1, (hin i' hi').2] at hbi
      rw [(hin j' hj').1, (hin j' hj').2] at hbj
      rw [hW.inj i' j' b hi' hj' hbi hbj (lpost i' hi' li) (lpost j' hj' lj)]
    · rw [(hin i' hi').1, (hin i' hi').2] at hbi
      rw [(hout j hno').1, (hout j hno').2] at hbj
      exact (mixed j b i' (low j hj hno') (live_eq (hgout j hno') lj) hno' hbj hi' hbi).elim
    · rw [(hin j' hj').1, (hin j' hj').2] at hbj
      rw [(hout i hno).1, (hout i hno).2] at hbi
      exact (mixed i b j' (low i hi hno) (live_eq (hgout i hno) li) hno hbi hj' hbj).elim
    · rw [(hout i hno).1, (hout i hno).2] at hbi
      rw [(hout j hno').1, (hout j hno').2] at hbj
      exact hw.inj i j b (low i hi hno) (low j hj hno') hbi hbj (live_eq (hgout i hno) li) (live_eq (hgout j hno') lj)
  · intro id ob hg
    show id < nx'
    rcases cases_k id with ⟨i, hi, rfl⟩ | hno
    · exact σlt' i hi
    · have hg' : Hp.get (hpNew σ 0 post ++ s.h) id = some ob := hg
      rw [hgout id hno] at hg'
      have := hw.hid _ _ hg'
      omega
  · exact hW.lim

end
end Go.Bv
