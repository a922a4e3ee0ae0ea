/-
  Part of a machine over pure data and objects that is sound for the model: what it says of a Go function holds of every call of that function. Conditions: those in each theorem. It speaks of any program.
-/
import Derived.Test.YtjaignojekmfgaaBvAppend
namespace Go.Bv
open Go.RowKit

section
variable {P : Program} {T : Tk} {G0 G : Gh} {w0 w : World} {N : Nat} {s : St} {a : Act} {h : Hp} {nx : Nat}

theorem RepV.full_inv {v : Value} {sz : Nat} {l : List D} (hv : RepV G w h nx v (.full sz l)) : ∃ A, v = .slice A l.length l.length ∧ RepD G.lim w v (.slice sz l) := by
  generalize hx : V.full sz l = x at hv
  cases hv <;> first | cases hx | skip
  rename_i A hd
  exact ⟨A, rfl, hd⟩
theorem RepV.k_inv {v u : Value} (hv : RepV G w h nx v (.k u)) : v = u := by
  generalize hx : V.k u = x at hv
  cases hv <;> first | (injection hx with hx; exact hx.symm) | cases hx

/-- 'x[lo:hi]' -/
def boundA (d : Nat) : Option V → Option Int
  | none => some d
  | some (.d (.int _ n)) => some n
  | some _ => none
def sliceA (K : V → Prop) (el : Option (Bool × Nat)) (x : V) (lo hi : Option V) : Prop :=
  match el with
  | some (_, sz) => match x.els sz with
    | some l => match boundA 0 lo, boundA l.length hi with
      | some a, some b => 0 ≤ a ∧ a ≤ b ∧ b ≤ l.length ∧
          (match x, hi with
           | .full _ _, none => K (.full sz (l.drop a.toNat))
           | .k _, _ => K x
           | _, _ => K (.d (.slice sz ((l.take b.toNat).drop a.toNat))))
      | _, _ => False
    | none => False
  | none => False

theorem flatMap_take {sz : Nat} {l : List D} (h : ∀ d ∈ l, d.cells.length = sz ∧ ∀ c ∈ d.cells, c.one = true) (n : Nat) : (l.take n).flatMap D.cells = (l.flatMap D.cells).take (n * sz) := by
  induction l generalizing n with
  | nil => simp
  | cons d l ih =>
    have h1 := (h d (by simp)).1
    cases n with
    | zero => simp
    | succ n =>
      simp only [List.take_succ_cons, List.flatMap_cons]
      rw [ih (fun x hx => h x (by simp [hx])), Nat.succ_mul, List.take_append, h1, show n * sz + sz - sz = n * sz by omega]
      rw [List.take_of_length_le (l := d.cells) (by omega)]
theorem flatMap_drop {sz : Nat} {l : List D} (h : ∀ d ∈ l, d.cells.length = sz ∧ ∀ c ∈ d.cells, c.one = true) (n : Nat) : (l.drop n).flatMap D.cells = (l.flatMap D.cells).drop (n * sz) := by
  induction l generalizing n with
  | nil => simp
  | cons d l ih =>
    have h1 := (h d (by simp)).1
    cases n with
    | zero => simp
    | succ n =>
      simp only [List.drop_succ_cons, List.flatMap_cons]
      rw [ih (fun x hx => h x (by simp [hx])), Nat.succ_mul, List.drop_append, h1, show n * sz + sz - sz = n * sz by omega]
      rw [List.drop_eq_nil_of_le (as := d.cells) (by omega), List.nil_append]

/-- A slice's part. -/
theorem slice_cut {m : Nat → Nat} {v : Value} {sz : Nat} {l : List D} (hd : RepD m w v (.slice sz l)) {a b : Nat} (hab : a ≤ b) (hb : b ≤ l.length) :
    ∃ A cap, v = .slice A l.length cap ∧ l.length ≤ cap ∧ RepD m w (.slice (if cap = a then A else A.map (·.add (a * sz))) (b - a) (cap - a)) (.slice sz ((l.take b).drop a)) := by
  cases hd with
  | nil =>
    have : b = 0 := by simpa using hb
    subst this
    have : a = 0 := by omega
    subst this
    exact ⟨none, 0, rfl, by simp, by simpa using RepD.nil (m := m) (w := w) sz⟩
  | slice bk off cap _ _ vs hcap hmax hsz hlen hc hr =>
    have hfl := flat_length hsz
    refine ⟨_, cap, rfl, hcap, ?_⟩
    have hll : ((l.take b).drop a).length = b - a := by simp; omega
    have hflat : ((l.take b).drop a).flatMap D.cells = ((l.flatMap D.cells).take (b * sz)).drop (a * sz) := by
      rw [flatMap_drop (fun d hd => hsz d (List.mem_of_mem_take hd)), flatMap_take hsz]
    have main : ∀ off', (cap ≠ a → off' = off + a * sz) → RepD m w (.slice (some ⟨bk, off', none⟩) ((l.take b).drop a).length (cap - a)) (.slice sz ((l.take b).drop a)) := by
      intro off' ho
      refine .slice bk off' (cap - a) sz _ ((vs.take (b * sz)).drop (a * sz)) (by omega) (by omega) (fun d hd => hsz d (List.mem_of_mem_take (List.mem_of_mem_drop hd))) (by rw [hflat]; simp [hlen]) ?_ ?_
      · intro j u hu
        rw [List.getElem?_drop, List.getElem?_take] at hu
        split at hu
        · rename_i hj
          have hca : cap ≠ a := by
            rintro rfl
            have : b = cap := by omega
            subst this
            omega
          have := hc _ _ hu
          rw [ho hca, Nat.add_assoc]
          exact this
        · cases hu
      · intro j u c hu hcc
        rw [hflat, List.getElem?_drop, List.getElem?_take] at hcc
        rw [List.getElem?_drop, List.getElem?_take] at hu
        split at hu
        · rename_i hj
          rw [if_pos hj] at hcc
          exact hr _ _ _ hu hcc
        · cases hu
    rw [hll] at main
    by_cases hca : cap = a
    · rw [if_pos hca]; exact main off (fun h => absurd hca h)
    · rw [if_neg hca]
      simp only [Option.map_some, add_mk]
      exact main _ (fun _ => rfl)

theorem slice_sound {K : V → Prop} {t : TypeId} {x : V} {lo hi : Option V} (hb : sliceA K (elemOf P t) x lo hi) {vx : Value} (hx : RepV G w h nx vx x) {vlo vhi : Option Value}
    (hlo : ∀ y, lo = some y → ∃ v, vlo = some v ∧ RepV G w h nx v y) (hhi : ∀ y, hi = some y → ∃ v, vhi = some v ∧ RepV G w h nx v y) (hlo' : lo = none → vlo = none) (hhi' : hi = none → vhi = none) :
    ∃ v z, (Instr.sliceAt t vx vlo vhi none).run P w = .ok v w ∧ RepV G w h nx v z ∧ K z := by
  unfold sliceA at hb
  split at hb
  case h_2 => exact hb.elim
  rename_i ag sz hel
  obtain ⟨e, hu, ht⟩ := elemOf_run hel
  split at hb
  case h_2 => exact hb.elim
  rename_i l hl
  split at hb
  case h_2 => exact hb.elim
  rename_i a b hba hbb
  obtain ⟨h0, hab, hbl, hk⟩ := hb
  have hd := els_rep hl hx
  obtain ⟨a', rfl⟩ := Int.eq_ofNat_of_zero_le h0
  obtain ⟨b', rfl⟩ := Int.eq_ofNat_of_zero_le (Int.le_trans h0 hab)
  have hab' : a' ≤ b' := by omega
  have hbl' : b' ≤ l.length := by omega
  obtain ⟨A, cap, rfl, hcap, hcut⟩ := slice_cut hd hab' hbl'
  have hsz := (tyOf_run ht w).2
  have bound : ∀ (d n : Nat) (o : Option V) (vo : Option Value), boundA d o = some (n : Int) → (∀ y, o = some y → ∃ v, vo = some v ∧ RepV G w h nx v y) → (o = none → vo = none) → (vo = none ∧ n = d) ∨ ∃ q, vo = some (.int q n) := by
    intro d n o vo hbo h1 h2
    cases o with
    | none => simp [boundA] at hbo; exact .inl ⟨h2 rfl, by omega⟩
    | some y =>
      obtain ⟨v, hv, hr⟩ := h1 y rfl
      unfold boundA at hbo
      split at hbo
      · contradiction
      · rename_i q n' hy
        injection hy with hy
        subst hy
        injection hbo with hbo
        subst hbo
        cases hr with | d _ _ hd =>
        cases hd
        exact .inr ⟨q, hv⟩
      · cases hbo
  have hblo := bound 0 a' lo vlo hba hlo hlo'
  have hbhi := bound l.length b' hi vhi hbb hhi hhi'
  have hrun : (Instr.sliceAt t (.slice A l.length cap) vlo vhi none).run P w = .ok (.slice (if cap = a' then A else A.map (·.add (a' * sz))) (b' - a') (cap - a')) w := by
    have c1 : (0 : Int) ≤ (b' : Int) ∧ (b' : Int) ≤ (cap : Int) := by omega
    have c2 : (0 : Int) ≤ (a' : Int) ∧ (a' : Int) ≤ (b' : Int) := by omega
    clear hk hlo hhi hlo' hhi' bound
    rcases hblo with ⟨rfl, rfl⟩ | ⟨q, rfl⟩ <;> rcases hbhi with ⟨rfl, rfl⟩ | ⟨q', rfl⟩ <;>
      simp [Instr.sliceAt, run_underlying hu, Instr.slice, Instr.sliceBounds, Instr.sliceBound, asIntOf, hsz] <;> (try simp_all) <;> (intros; exfalso; omega)
  split at hk
  · -- full
    rename_i z' l'
    have hll : l' = l ∧ z' = sz := by
      unfold V.els at hl
      split at hl <;> simp_all
    obtain ⟨rfl, rfl⟩ := hll
    obtain ⟨A', hA', _⟩ := hx.full_inv
    injection hA' with _ _ hA'
    subst hA'
    have hbl3 : b' = l'.length := by simp [boundA] at hbb; omega
    subst hbl3
    refine ⟨_, _, hrun, ?_, hk⟩
    rw [List.take_length] at hcut
    have hdl : (l'.drop a').length = l'.length - a' := by simp
    have := RepV.full (h := h) (nx := nx) (G := G) (w := w) (if l'.length = a' then A else A.map (·.add (a' * z'))) z' (l'.drop a') (by rw [hdl]; exact hcut)
    rw [hdl] at this
    simpa using this
  · -- nil
    rename_i kv _
    have hkv := hx.k_inv
    subst hkv
    have hl0 : l = [] := by
      unfold V.els at hl
      split at hl <;> simp_all
    subst hl0
    have h1 : b' = 0 := by simpa using hbl'
    subst h1
    have h2 : a' = 0 := by omega
    subst h2
    refine ⟨_, _, hrun, ?_, hk⟩
    have hcapz : A = none ∧ cap = 0 := by
      unfold V.els at hl
      split at hl <;> simp_all
    obtain ⟨rfl, rfl⟩ := hcapz
    exact .k _
  · exact ⟨_, _, hrun, .d _ _ (by simpa using hcut), hk⟩

end
end Go.Bv
