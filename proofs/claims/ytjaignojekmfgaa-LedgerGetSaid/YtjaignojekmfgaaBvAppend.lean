/-
  Part of a machine over pure data and objects that is sound for the model: what it says of a Go function holds of every call of that function. Conditions: those in each theorem. It speaks of any program.
-/
import Derived.Test.YtjaignojekmfgaaBvRow
namespace Go.Bv
open Go.RowKit

section
variable {P : Program} {T : Tk} {G0 G : Gh} {w0 w : World} {N : Nat} {s : St} {a : Act} {h : Hp} {nx : Nat}

theorem run_firstCells_rep {m : Nat → Nat} {v : Value} {sz : Nat} {l : List D} {A : Option Addr} {cap : Nat} {vs : List Value} (hv : v = .slice A l.length cap)
    (hsz : ∀ d ∈ l, d.cells.length = sz ∧ ∀ c ∈ d.cells, c.one = true) (hlen : vs.length = (l.flatMap D.cells).length) (hno : A = none → l = [] ∧ cap = 0)
    (hc : ∀ ad, A = some ad → ∃ b off, ad = ⟨b, off, none⟩ ∧ ∀ (j : Nat) (u : Value), vs[j]? = some u → off + j < m b ∧ w.cell? ⟨b, off + j, none⟩ = some u) :
    (Builtin.firstCells sz l.length v).run P w = .ok vs.toArray w := by
  subst hv
  cases A with
  | none =>
    obtain ⟨rfl, _⟩ := hno rfl
    have : vs = [] := List.eq_nil_of_length_eq_zero (by simpa using hlen)
    subst this
    simp [Builtin.firstCells]
  | some ad =>
    obtain ⟨b, off, rfl, h2⟩ := hc ad rfl
    exact run_firstCells_some w sz l.length ⟨b, off, none⟩ l.length cap vs (by rw [hlen, flat_length hsz]) (fun j u hu => by rw [add_mk]; exact (h2 j u hu).2)

/-- Append in place. -/
theorem run_append_spare (t ty e : TypeId) (i : TypeInfo) (ht : P.underlying t = some (.slice e)) (hi : P.info? e = some i)
    (g off n cap m : Nat) (cur : Array Value) (e' : TypeId) (hg : w.heap[g]? = some (.cells cur e' (0, 0))) (vx : Value) (hlx : ∃ A c, vx = .slice A m c) (news : List Value)
    (hf : (Builtin.firstCells i.size m vx).run P w = .ok news.toArray w) (h1 : ∀ u ∈ news, u.oneCell' = true)
    (hroom : n + m ≤ cap) (hfit : off + n * i.size + news.length ≤ cur.size) :
    (Builtin.append_ #[t, t] ty #[.slice (some ⟨g, off, none⟩) n cap, vx]).run P w =
      .ok (.slice (some ⟨g, off, none⟩) (n + m) cap) (w.setRow g (cur.toList.take (off + n * i.size) ++ news ++ cur.toList.drop (off + n * i.size + news.length)).toArray) := by
  obtain ⟨A, c, rfl⟩ := hlx
  have hst := run_storeCells_at P g (off + n * i.size) e' news 0 cur w hg (by omega) h1
  simp only [Nat.add_zero] at hst
  simp [Builtin.append_, run_underlying ht, sizeOf, typeInfo, hi, Builtin.lenOf, hroom, hf, add_mk, hst]

theorem run_append_nothing (t ty e : TypeId) (i : TypeInfo) (ht : P.underlying t = some (.slice e)) (hi : P.info? e = some i) (A : Option Addr) (n cap : Nat) (hnc : n ≤ cap) (vx : Value) (hlx : ∃ A c, vx = .slice A 0 c)
    (hf : (Builtin.firstCells i.size 0 vx).run P w = .ok #[] w) : (Builtin.append_ #[t, t] ty #[.slice A n cap, vx]).run P w = .ok (.slice A n cap) w := by
  obtain ⟨A', c, rfl⟩ := hlx
  cases A <;> simp [Builtin.append_, run_underlying ht, sizeOf, typeInfo, hi, Builtin.lenOf, hnc, hf, storeCells]

/-- The forms of a slice that may grow: its token, its elements. -/
def growA (s : St) (sz : Nat) : V → Option (Nat × Nat × List D)
  | .own tok z l => if z = sz then (match s.h.get tok with | some (.tip t) => if t = l.length then some (tok, s.nx, l) else none | _ => none) else none
  | .full z l => if z = sz then some (s.nx, s.nx + 1, l) else none
  | .k (.slice none 0 0) => some (s.nx, s.nx + 1, [])
  | _ => none

/-- APPEND. -/
theorem R.append (hR : R T G0 w0 N s a G w) {t : TypeId} {sz bt : Nat} (hrow : rowOf P t = some (sz, bt)) {x y : V} {vx vy : Value} (hx : RepV G w s.h s.nx vx x) (hy : RepV G w s.h s.nx vy y)
    {k nx' : Nat} {l l2 : List D} (hg : growA s sz x = some (k, nx', l)) (hl2 : y.els sz = some l2) (hb : (l.length + l2.length) * bt ≤ 140737488355328) (ty : TypeId) (hmx : l.length + l2.length ≤ maxLen) :
    ∃ v' w' G', (Builtin.append_ #[t, t] ty #[vx, vy]).run P w = .ok v' w' ∧ R T G0 w0 N ⟨s.sl, (k, .tip (l.length + l2.length)) :: s.h, nx'⟩ a G' w' ∧
      RepV G' w' ((k, .tip (l.length + l2.length)) :: s.h) nx' v' (.own k sz (l ++ l2)) ∧ ∀ i, i ≠ k → i < s.nx → G'.loc i = G.loc i ∧ G'.tloc i = G.tloc i := by
  obtain ⟨e, i, z, hu, hi, hz, hzs, hsz0, hisz, hibt⟩ := rowOf_spec hrow
  have hw := hR.wr
  -- the first operand
  have hfst : RepD G.lim w vx (.slice sz l) ∧ ((k = s.nx ∧ nx' = s.nx + 1 ∧ ∃ A, vx = .slice A l.length l.length) ∨ (k < s.nx ∧ nx' = s.nx ∧ s.h.get k = some (.tip l.length) ∧ Spare G w k sz l.length vx)) := by
    unfold growA at hg
    split at hg
    · rename_i tok z' l'
      split at hg
      · rename_i hz'
        subst hz'
        split at hg
        · rename_i t ht
          split at hg
          · rename_i htl
            simp only [Option.some.injEq, Prod.mk.injEq] at hg
            obtain ⟨rfl, rfl, rfl⟩ := hg
            cases hx with | own _ _ _ _ hd htk hs =>
            exact ⟨hd, .inr ⟨htk, rfl, by rw [ht, htl], (hs t ht).2 htl.symm⟩⟩
          · cases hg
        · cases hg
      · cases hg
    · split at hg
      · rename_i hz'
        subst hz'
        simp only [Option.some.injEq, Prod.mk.injEq] at hg
        obtain ⟨rfl, rfl, rfl⟩ := hg
        cases hx with | full A _ _ hd =>
        exact ⟨hd, .inl ⟨rfl, rfl, A, rfl⟩⟩
      · cases hg
    · simp only [Option.some.injEq, Prod.mk.injEq] at hg
      obtain ⟨rfl, rfl, rfl⟩ := hg
      cases hx
      exact ⟨.nil sz, .inl ⟨rfl, rfl, none, rfl⟩⟩
    · cases hg
  obtain ⟨hd1, hform⟩ := hfst
  have hd2 := els_rep hl2 hy
  obtain ⟨A, cap, vs, rfl, hcap, hmax, hsz1, hlen1, hno1, hc1, hr1⟩ := hd1.flat
  obtain ⟨A2, cap2, vs2, hvy, hcap2, hmax2, hsz2, hlen2, hno2, hc2, hr2⟩ := hd2.flat
  have hf2 : (Builtin.firstCells i.size l2.length vy).run P w = .ok vs2.toArray w := by rw [hisz]; exact run_firstCells_rep hvy hsz2 hlen2 hno2 hc2
  have hone2 := flat_one hlen2 hr2
  have hv1 : vs.length = l.length * sz := by rw [hlen1, flat_length hsz1]
  have hv2 : vs2.length = l2.length * sz := by rw [hlen2, flat_length hsz2]
  have hkk : (k = s.nx ∧ nx' = s.nx + 1) ∨ (k < s.nx ∧ nx' = s.nx) := by rcases hform with ⟨h1, h2, _⟩ | ⟨h1, h2, _⟩ <;> omega
  have hh : ∀ i, i ≠ k → Hp.get ((k, .tip (l.length + l2.length)) :: s.h) i = s.h.get i := fun i hi => by simp [Hp.get, hi]
  by_cases h0 : l2.length = 0
  · -- nothing is appended
    have hl20 : l2 = [] := List.eq_nil_of_length_eq_zero h0
    subst hl20
    have hrun := run_append_nothing (P := P) (w := w) t ty e i hu hi A l.length cap hcap vy ⟨A2, cap2, hvy⟩ (by
      have : vs2 = [] := List.eq_nil_of_length_eq_zero (by simpa using hv2)
      rw [this] at hf2; simpa using hf2)
    rcases hform with ⟨rfl, rfl, A', hA'⟩ | ⟨hk1, rfl, hk3, hk4⟩
    · -- a new number that speaks of no row
      let G' : Gh := ⟨fun i => if i = s.nx then none else G.loc i, fun i => if i = s.nx then none else G.tloc i, G.lim⟩
      have hlo : ∀ i, i < s.nx → G'.loc i = G.loc i ∧ G'.tloc i = G.tloc i := fun i hi => by simp [G', show i ≠ s.nx by omega]
      have he : Ext G w s.h s.nx G' w ((s.nx, .tip (l.length + ([] : List D).length)) :: s.h) (s.nx + 1) :=
        ⟨Mono.refl _ _, by omega, fun id b hi hb => by rw [(hlo id hi).1]; exact hb, fun tok t' ht h1 => by
          rw [hh tok (by omega)] at h1
          exact ⟨t', h1, Nat.le_refl _, fun _ b hb => ⟨by rw [(hlo tok ht).2]; exact hb, rfl, rfl⟩⟩, fun _ _ h => h⟩
      have hsome : ∀ i b, i < s.nx + 1 → (G'.loc i = some b ∨ G'.tloc i = some b) → i < s.nx ∧ (G.loc i = some b ∨ G.tloc i = some b) := by
        intro i b hi hb
        by_cases hin : i = s.nx
        · subst hin; simp [G'] at hb
        · have hi' : i < s.nx := by omega
          rw [(hlo i hi').1, (hlo i hi').2] at hb
          exact ⟨hi', hb⟩
      refine ⟨_, w, G', hrun, ⟨⟨hR.fr.os, hR.fr.tape, hR.fr.output, hR.fr.size, hR.fr.same, hR.fr.mono⟩, ⟨?_, hw.mob.ext he (fun id es hg => by simp only [Hp.get] at hg; split at hg; (· cases hg); exact hg) hw.hid (fun _ _ _ _ _ => rfl), ?_, ?_, ?_, hw.lim⟩, hR.df, hR.sz, fun t => (hR.sl t).ext he, hR.ex.ext he⟩, ?_, fun i _ hi2 => hlo i hi2⟩
      · intro id l' hl'
        simp only [Hp.get] at hl'
        split at hl'
        · cases hl'
        · obtain ⟨b, e', cs', h1, h2, h3, h4, h5, h6⟩ := hw.obj id l' hl'
          have hid := hw.hid id _ hl'
          exact ⟨b, e', cs', by rw [(hlo id hid).1]; exact h1, h2, h3, h4, h5, fun j v x hv hx => (h6 j v x hv hx).ext he⟩
      · intro id b hid hb
        obtain ⟨h1, h2⟩ := hsome id b hid hb
        exact hw.here id b h1 h2
      · intro i j b hi hj hbi hbj li lj
        obtain ⟨h1, h2⟩ := hsome i b hi hbi
        obtain ⟨h3, h4⟩ := hsome j b hj hbj
        exact hw.inj i j b h1 h3 h2 h4 (live_eq (hh i (by omega)) li) (live_eq (hh j (by omega)) lj)
      · intro id ob hg
        show id < s.nx + 1
        simp only [Hp.get] at hg
        split at hg
        · omega
        · have := hw.hid id ob hg; omega
      · rw [List.append_nil]
        refine .own _ _ _ _ hd1 (by omega) fun t' ht' => ?_
        simp only [Hp.get, if_true, Option.some.injEq, Ob.tip.injEq] at ht'
        injection hA' with _ _ hA'
        exact ⟨by simp at ht'; omega, fun _ => .inl hA'⟩
    · -- as it was
      have hget : ∀ i, Hp.get ((k, .tip (l.length + ([] : List D).length)) :: s.h) i = s.h.get i := by
        intro i
        by_cases hik : i = k
        · subst hik; simp [Hp.get, hk3]
        · exact hh i hik
      have he : Ext G w s.h s.nx G w ((k, .tip (l.length + ([] : List D).length)) :: s.h) s.nx :=
        ⟨Mono.refl _ _, Nat.le_refl _, fun _ _ _ h => h, fun tok t' _ h1 => ⟨t', by rw [hget] at h1; exact h1, Nat.le_refl _, fun _ _ hb => ⟨hb, rfl, rfl⟩⟩, fun _ _ h => h⟩
      refine ⟨_, w, G, hrun, ⟨hR.fr, ⟨?_, hw.mob.ext he (fun id es hg => by rw [hget] at hg; exact hg) hw.hid (fun _ _ _ _ _ => rfl), hw.here, fun i j b hi hj h1 h2 l1 l2 => hw.inj i j b hi hj h1 h2 (live_eq (hget i) l1) (live_eq (hget j) l2), ?_, hw.lim⟩, hR.df, hR.sz, fun t => (hR.sl t).ext he, hR.ex.ext he⟩, ?_, fun _ _ _ => ⟨rfl, rfl⟩⟩
      · intro id l' hl'
        rw [hget] at hl'
        obtain ⟨b, e', cs', h1, h2, h3, h4, h5, h6⟩ := hw.obj id l' hl'
        exact ⟨b, e', cs', h1, h2, h3, h4, h5, fun j v x hv hx => (h6 j v x hv hx).ext he⟩
      · intro id ob hg
        rw [hget] at hg
        exact hw.hid id ob hg
      · rw [List.append_nil]
        refine .own _ _ _ _ hd1 hk1 fun t' ht' => ?_
        rw [hget, hk3] at ht'
        injection ht' with ht'
        injection ht' with ht'
        exact ⟨by omega, fun _ => hk4⟩
  · -- the appended cells, all of them
    have hszall : ∀ d ∈ l ++ l2, d.cells.length = sz ∧ ∀ c ∈ d.cells, c.one = true := by
      intro d hd
      rcases List.mem_append.1 hd with h | h
      · exact hsz1 d h
      · exact hsz2 d h
    have hlenall : (vs ++ vs2).length = ((l ++ l2).flatMap D.cells).length := by rw [List.flatMap_append, List.length_append, List.length_append, hlen1, hlen2]
    have hrall : ∀ (j : Nat) (u : Value) (c : D), (vs ++ vs2)[j]? = some u → ((l ++ l2).flatMap D.cells)[j]? = some c → RepD G.lim w u c := by
      intro j u c hj hcj
      rw [List.flatMap_append] at hcj
      by_cases hjv : j < vs.length
      · rw [List.getElem?_append_left hjv] at hj
        rw [List.getElem?_append_left (by omega)] at hcj
        exact hr1 j u c hj hcj
      · rw [List.getElem?_append_right (by omega)] at hj
        rw [List.getElem?_append_right (by omega)] at hcj
        rw [hlen1] at hj
        exact hr2 _ u c hj hcj
    have hA2 : ∃ b2 off2, A2 = some ⟨b2, off2, none⟩ ∧ ∀ (j : Nat) (u : Value), vs2[j]? = some u → w.cell? ((⟨b2, off2, none⟩ : Addr).add j) = some u := by
      cases A2 with
      | none => have := (hno2 rfl).1; subst this; simp at h0
      | some ad =>
        obtain ⟨b2, off2, rfl, h2⟩ := hc2 ad rfl
        exact ⟨b2, off2, rfl, fun j u hu => by rw [add_mk]; exact (h2 j u hu).2⟩
    obtain ⟨b2, off2, rfl, hcell2⟩ := hA2
    by_cases hroom : l.length + l2.length ≤ cap
    · -- in place
      rcases hform with ⟨_, _, A', hA'⟩ | ⟨hk1, rfl, hk3, hk4⟩
      · injection hA' with _ _ hA'; omega
      · simp only [Spare] at hk4
        rcases hk4 with hk4 | ⟨b, off, cur, e', rfl, htl, hheap, hoff, hfit⟩
        · omega
        · have hcap1 : (l.length + l2.length) * sz ≤ cap * sz := Nat.mul_le_mul_right _ hroom
          rw [Nat.add_mul] at hcap1
          have hrun := run_append_spare (P := P) (w := w) t ty e i hu hi b off l.length cap l2.length cur e' hheap vy ⟨_, _, hvy⟩ vs2 hf2 hone2 hroom (by rw [hisz]; omega)
          rw [hisz] at hrun
          have hcl := (hc1 _ rfl)
          obtain ⟨b0, off0, hb0, hcells1⟩ := hcl
          injection hb0 with hb1 hb2
          subst hb1
          subst hb2
          have hnew : ∀ j, (cur.toList.take (off + l.length * sz) ++ vs2 ++ cur.toList.drop (off + l.length * sz + vs2.length))[j]? = if j < off + l.length * sz then cur.toList[j]? else if j < off + l.length * sz + vs2.length then vs2[j - (off + l.length * sz)]? else cur.toList[j]? :=
            fun j => getElem?_splice _ _ _ _ (by simp; omega)
          have hob : ∀ t', Ob.tip (l.length + l2.length) = .tip t' → ∃ t, s.h.get k = some (.tip t) ∧ t < t' := fun t' h => by injection h with h; exact ⟨_, hk3, by omega⟩
          have he := ext_setRow (m' := off + (l.length + l2.length) * sz) (cs' := (cur.toList.take (off + l.length * sz) ++ vs2 ++ cur.toList.drop (off + l.length * sz + vs2.length)).toArray) hw hk1 (live_tip hk3) (.inr htl) hheap (by rw [← hoff, Nat.add_mul]; omega)
            (fun o v ho hv => by
              rw [List.getElem?_toArray, hnew, if_pos (by omega)]
              simpa using hv) (by simp; omega) (.tip (l.length + l2.length)) hob
          have hfr := Fr.setRow (m' := off + (l.length + l2.length) * sz) hR.fr hw hk1 (.inr htl) (cs' := (cur.toList.take (off + l.length * sz) ++ vs2 ++ cur.toList.drop (off + l.length * sz + vs2.length)).toArray) he.mono
          have hobjo := fun {id' : Nat} (hne : id' ≠ k) {l' : List V} (hl' : s.h.get id' = some (.cells l')) => obj_others (m' := off + (l.length + l2.length) * sz) hw hk1 (live_tip hk3) (.inr htl) he hne hl'
          have hlimb : ((G.setLim b (off + (l.length + l2.length) * sz))).lim b = off + (l.length + l2.length) * sz := by simp [Gh.setLim]
          have hmob := mob_setRow (m' := off + (l.length + l2.length) * sz) hw hheap he (fun id es hg => by simp only [Hp.get] at hg; split at hg; (· cases hg); exact hg)
          refine ⟨_, _, _, hrun, ⟨hfr, ⟨?_, hmob, ?_, fun i j b hi hj h1 h2 l1 l2 => hw.inj i j b hi hj h1 h2 (live_over (live_tip hk3) l1) (live_over (live_tip hk3) l2), ?_, ?_⟩, hR.df, hR.sz, fun t => (hR.sl t).ext he, hR.ex.ext he⟩, ?_, fun _ _ _ => ⟨rfl, rfl⟩⟩
          · intro id' l' hl'
            simp only [Hp.get] at hl'
            split at hl'
            · cases hl'
            · rename_i hne; exact hobjo hne hl'
          · intro id' b'' hi' hb''
            have := hw.here id' b'' hi' hb''
            exact ⟨by simpa [World.setRow] using this.1, this.2⟩
          · intro id' ob hg'
            simp only [Hp.get] at hg'
            split at hg'
            · rename_i h; subst h; exact hk1
            · exact hw.hid id' ob hg'
          · intro b'' hb''
            have hb''' : w.heap.size ≤ b'' := by simpa [World.setRow] using hb''
            have : b'' ≠ b := by have := (hw.here k b hk1 (.inr htl)).1; omega
            simp only [Gh.setLim, if_neg this]
            exact hw.lim b'' hb'''
          · have hrepd : RepD (G.setLim b (off + (l.length + l2.length) * sz)).lim (w.setRow b (cur.toList.take (off + l.length * sz) ++ vs2 ++ cur.toList.drop (off + l.length * sz + vs2.length)).toArray)
                (.slice (some ⟨b, off, none⟩) (l ++ l2).length cap) (.slice sz (l ++ l2)) := by
              refine .slice b off cap sz (l ++ l2) (vs ++ vs2) (by simpa using hroom) hmax hszall hlenall (fun j u hj => ?_) (fun j u c hj hcj => (hrall j u c hj hcj).mono he.mono)
              have hjl : j < (vs ++ vs2).length := (List.getElem?_eq_some_iff.1 hj).1
              rw [List.length_append, hv1, hv2, ← Nat.add_mul] at hjl
              refine ⟨by rw [hlimb]; omega, ?_⟩
              rw [cell_of_row _ b _ _ e' (0, 0) (setRow_heap w b cur _ e' _ hheap), List.getElem?_toArray, hnew]
              by_cases hjv : j < vs.length
              · rw [List.getElem?_append_left hjv] at hj
                rw [if_pos (by omega)]
                have := (hcells1 j u hj).2
                rw [cell_of_row w b _ cur e' _ hheap] at this
                simpa using this
              · rw [List.getElem?_append_right (by omega)] at hj
                rw [if_neg (by omega), if_pos (by rw [Nat.add_mul] at hjl; omega), show off + j - (off + l.length * sz) = j - vs.length by omega]
                exact hj
            rw [List.length_append] at hrepd
            refine .own _ _ _ _ hrepd hk1 fun t' ht' => ?_
            simp only [Hp.get, if_true, Option.some.injEq, Ob.tip.injEq] at ht'
            refine ⟨by simp; omega, fun _ => .inr ⟨b, off, _, e', rfl, htl, setRow_heap w b cur _ e' _ hheap, by rw [hlimb, List.length_append], ?_⟩⟩
            simp only [List.size_toArray, List.length_append, List.length_take, List.length_drop, Array.length_toList]
            omega
    · -- a new row
      have hgc := grownCap_ge w (l.length + l2.length) cap e
      have hgm := grownCap_le_maxLen w (l.length + l2.length) cap e hmx
      have hrun : (Builtin.append_ #[t, t] ty #[.slice A l.length cap, vy]).run P w =
          .ok (.slice (some ⟨w.heap.size, 0, none⟩) (l.length + l2.length) (grownCap w (l.length + l2.length) cap e))
            (w.drew.alloc (.cells (vs ++ vs2 ++ (Builtin.zeroCells z.cells (grownCap w (l.length + l2.length) cap e - (l.length + l2.length))).toList).toArray e)) := by
        have hmx' : ((l.length + l2.length : Nat) : Int) ≤ 9223372036854775807 := by simp only [maxLen] at hmx; omega
        have hfitb : Builtin.nextslicecap (l.length + l2.length) cap * i.bytes ≤ 281474976710656 := growslice_fits (by omega) (by rw [hibt]; exact hb)
        subst hvy
        cases A with
        | none =>
          obtain ⟨rfl, rfl⟩ := hno1 rfl
          have : vs = [] := List.eq_nil_of_length_eq_zero (by simpa using hv1)
          subst this
          have := run_append_nil (P := P) w t ty e i z hu hi hz ⟨b2, off2, none⟩ l2.length cap2 vs2 (by rw [hv2, hisz]) hcell2 (by omega) (by simpa using hmx') (by
            rw [hibt]; simp at hb; omega)
          simp only [List.length_nil, Nat.zero_add, List.nil_append]
          rw [this]
          congr 3
          simp
        | some ad =>
          obtain ⟨b, off, rfl, h2⟩ := hc1 ad rfl
          have := run_append_grow (P := P) w t ty e i z hu hi hz ⟨b, off, none⟩ l.length cap vs (by rw [hv1, hisz]) (fun j u hj => by rw [add_mk]; exact (h2 j u hj).2) ⟨b2, off2, none⟩ l2.length cap2 vs2 (by rw [hv2, hisz]) hcell2 (by omega) hmx' hfitb
          rw [this]
          congr 3
          simp
      have hRd := hR.drew
      obtain ⟨G', hR', he, hrep, htl, hlim, hG⟩ := R.newRow hRd e (vs ++ vs2 ++ (Builtin.zeroCells z.cells (grownCap w (l.length + l2.length) cap e - (l.length + l2.length))).toList) sz (l ++ l2) (vs ++ vs2) hszall hlenall
        (by rw [List.take_left']; rfl) (fun j u c hj hcj => RepD.mono (m := G.lim) (w := w) (m' := G.lim) (w' := w.drew) (fun _ _ _ h1 h2 => ⟨h1, h2⟩) (hrall j u c hj hcj)) k nx' ((k, .tip (l.length + l2.length)) :: s.h) hkk hh
        (fun ob hob => by
          simp only [Hp.get, if_true, Option.some.injEq] at hob
          subst hob
          refine ⟨_, rfl, fun hks => ?_⟩
          rcases hform with ⟨h1, _⟩ | ⟨_, _, hk3, _⟩
          · omega
          · exact ⟨_, hk3, by omega⟩)
      have hrep' := hrep (grownCap w (l.length + l2.length) cap e) (by simpa using hgc) hgm
      rw [List.length_append] at hrep' hlim
      refine ⟨_, _, G', hrun, hR', .own _ _ _ _ hrep' (by omega) fun t' ht' => ?_, hG⟩
      simp only [Hp.get, if_true, Option.some.injEq, Ob.tip.injEq] at ht'
      refine ⟨by simp; omega, fun _ => .inr ⟨w.heap.size, 0, _, e, rfl, htl, heap_alloc_new w.drew _, by rw [List.length_append, Nat.zero_add]; exact hlim.symm, ?_⟩⟩
      simp only [List.size_toArray, List.length_append, Array.length_toList, size_zeroCells, hzs, hv1, hv2, Nat.zero_add]
      rw [← Nat.add_mul, ← Nat.add_mul]
      exact Nat.mul_le_mul_right _ (by omega)

end
end Go.Bv
