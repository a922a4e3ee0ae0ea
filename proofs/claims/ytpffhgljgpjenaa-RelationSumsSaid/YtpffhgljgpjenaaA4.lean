/-
  Parts of the proofs that the laws of this seat hold of every input, merged by a program: a machine over pure data that is sound for the model, what each function of the translation does in it, and plain lemmas. No conditions but those in each theorem.
-/
import Derived.Test.YtpffhgljgpjenaaA3
set_option linter.all false
namespace Go.Md
open Go Go.Bv
def len64 (x : Int) : Int := if x = 0 then 0 else (Nat.log2 x.toNat + 1 : Nat)
theorem kma (x : Int) (k : Nat) (h : ((2 ^ k : Nat) : Int) ≤ x) : len64 (x / ((2 ^ k : Nat) : Int)) + k = len64 x := by
  obtain ⟨n, rfl⟩ := Int.eq_ofNat_of_zero_le (by have := Nat.two_pow_pos k; omega : 0 ≤ x)
  have hp : 0 < 2 ^ k := Nat.two_pow_pos k
  have hn : 2 ^ k ≤ n := by omega
  have e : ((n : Int) / ((2 ^ k : Nat) : Int)) = ((n / 2 ^ k : Nat) : Int) := (Int.natCast_ediv _ _).symm
  have h1 : 0 < n / 2 ^ k := Nat.div_pos hn hp
  unfold len64
  rw [e, if_neg (by omega), if_neg (by omega), Int.toNat_natCast, Int.toNat_natCast]
  have : Nat.log2 n = Nat.log2 (n / 2 ^ k) + k := by
    rw [Nat.log2_eq_iff (by omega)]
    have a := Nat.log2_self_le (n := n / 2 ^ k) (by omega)
    have b := Nat.lt_log2_self (n := n / 2 ^ k)
    rw [Nat.le_div_iff_mul_le hp] at a
    rw [Nat.div_lt_iff_lt_mul hp] at b
    constructor
    · rw [Nat.pow_add]; exact a
    · rw [show Nat.log2 (n / 2 ^ k) + k + 1 = Nat.log2 (n / 2 ^ k) + 1 + k by omega, Nat.pow_add]; exact b
  omega
theorem kyw (y : Int) (h : 0 < y ∧ y < 18446744073709551616) : ∃ s : Nat, 64 - len64 y = (s : Int) ∧ s ≤ 63 ∧ 9223372036854775808 ≤ y * ((2 ^ s : Nat) : Int) ∧ y * ((2 ^ s : Nat) : Int) < 18446744073709551616 := by
  obtain ⟨n, rfl⟩ := Int.eq_ofNat_of_zero_le (by omega : 0 ≤ y)
  have l : Nat.log2 n < 64 := (Nat.log2_lt (by omega)).2 (by omega)
  have a := Nat.log2_self_le (n := n) (by omega)
  have b := Nat.lt_log2_self (n := n)
  refine ⟨63 - Nat.log2 n, ?_, by omega, ?_, ?_⟩
  · unfold len64
    rw [if_neg (by omega), Int.toNat_natCast]
    omega
  · have : 2 ^ 63 ≤ n * 2 ^ (63 - Nat.log2 n) := by
      rw [show (63 : Nat) = Nat.log2 n + (63 - Nat.log2 n) by omega, Nat.pow_add, show Nat.log2 n + (63 - Nat.log2 n) - Nat.log2 n = 63 - Nat.log2 n by omega]
      exact Nat.mul_le_mul_right _ a
    rw [← Int.natCast_mul]
    generalize n * 2 ^ (63 - Nat.log2 n) = m at *
    omega
  · have : n * 2 ^ (63 - Nat.log2 n) < 2 ^ 64 := by
      rw [show (64 : Nat) = Nat.log2 n + 1 + (63 - Nat.log2 n) by omega, Nat.pow_add]
      exact Nat.mul_lt_mul_of_pos_right b (Nat.two_pow_pos _)
    rw [← Int.natCast_mul]
    generalize n * 2 ^ (63 - Nat.log2 n) = m at *
    omega
def tab8 : ByteArray := ⟨#[0, 1, 2, 2, 3, 3, 3, 3, 4, 4, 4, 4, 4, 4, 4, 4, 5, 5, 5, 5, 5, 5, 5, 5, 5, 5, 5, 5, 5, 5, 5, 5, 6, 6, 6, 6, 6, 6, 6, 6, 6, 6, 6, 6, 6, 6, 6, 6, 6, 6, 6, 6, 6, 6, 6, 6, 6, 6, 6, 6, 6, 6, 6, 6, 7, 7, 7, 7, 7, 7, 7, 7, 7, 7, 7, 7, 7, 7, 7, 7, 7, 7, 7, 7, 7, 7, 7, 7, 7, 7, 7, 7, 7, 7, 7, 7, 7, 7, 7, 7, 7, 7, 7, 7, 7, 7, 7, 7, 7, 7, 7, 7, 7, 7, 7, 7, 7, 7, 7, 7, 7, 7, 7, 7, 7, 7, 7, 7, 8, 8, 8, 8, 8, 8, 8, 8, 8, 8, 8, 8, 8, 8, 8, 8, 8, 8, 8, 8, 8, 8, 8, 8, 8, 8, 8, 8, 8, 8, 8, 8, 8, 8, 8, 8, 8, 8, 8, 8, 8, 8, 8, 8, 8, 8, 8, 8, 8, 8, 8, 8, 8, 8, 8, 8, 8, 8, 8, 8, 8, 8, 8, 8, 8, 8, 8, 8, 8, 8, 8, 8, 8, 8, 8, 8, 8, 8, 8, 8, 8, 8, 8, 8, 8, 8, 8, 8, 8, 8, 8, 8, 8, 8, 8, 8, 8, 8, 8, 8, 8, 8, 8, 8, 8, 8, 8, 8, 8, 8, 8, 8, 8, 8, 8, 8, 8, 8, 8, 8, 8, 8, 8, 8, 8, 8, 8, 8]⟩
theorem k190 : ∀ b : Nat, b < 256 → Cv.byteAt tab8 (b : Int) = len64 (b : Int) := by decide +kernel
theorem k14x (x : Int) (h : 0 ≤ x ∧ x < 256) : Cv.byteAt tab8 x = len64 x := by
  obtain ⟨n, rfl⟩ := Int.eq_ofNat_of_zero_le h.1
  exact k190 n (by omega)
theorem k16g (x : Int) (h : 0 ≤ x ∧ x < 256) : 0 ≤ len64 x ∧ len64 x ≤ 8 := by
  rw [← k14x x h]
  obtain ⟨n, rfl⟩ := Int.eq_ofNat_of_zero_le h.1
  have : ∀ b : Nat, b < 256 → 0 ≤ Cv.byteAt tab8 (b : Int) ∧ Cv.byteAt tab8 (b : Int) ≤ 8 := by decide +kernel
  exact this n (by omega)
theorem k18m : tab8.size = 256 := by decide +kernel
end Go.Md
namespace Go.Md
open Go Go.Bv Go.Cv Go.Md Go.RowKit
section
variable {α β : Type}
def AllI (f : α → Bool) (l : List α) (i : Int) : Prop := 0 ≤ i ∧ i ≤ l.length ∧ ∀ x ∈ l.take i.toNat, f x = true
theorem AllI.start {f : α → Bool} {l : List α} : AllI f l 0 := ⟨by omega, by omega, by simp⟩
theorem AllI.next [Inhabited α] {f : α → Bool} {l : List α} {i : Int} (h : AllI f l i) (hh : i < l.length) (hl : (l.length : Int) ≤ 9223372036854775807) (hf : f (ix l i) = true) :
    AllI f l (IntKind.i64.wrap (i + 1)) ∧ (l.length - IntKind.i64.wrap (i + 1)).toNat < (l.length - i).toNat := by
  obtain ⟨g0, g1, g2⟩ := h
  rw [inc i l.length g0 hh hl]
  refine ⟨⟨by omega, by omega, ?_⟩, by omega⟩
  rw [keb l i g0 hh]
  intro x hx
  rcases List.mem_append.1 hx with hx | hx
  · exact g2 x hx
  · have : x = ix l i := by simpa using hx
    rw [this]; exact hf
theorem AllI.bad [Inhabited α] {f : α → Bool} {l : List α} {i : Int} (h : AllI f l i) (hh : i < l.length) (hf : f (ix l i) = false) : l.all f = false :=
  List.all_eq_false.2 ⟨ix l i, Md.ix_mem l i h.1 hh, by simp [hf]⟩
theorem AllI.done {f : α → Bool} {l : List α} {i : Int} (h : AllI f l i) (hh : ¬ i < l.length) : l.all f = true := by
  obtain ⟨g0, g1, g2⟩ := h
  rw [List.take_of_length_le (by omega)] at g2
  exact List.all_eq_true.2 g2
def FoldI (f : β → α → β) (z : β) (l : List α) (i : Int) (s : β) : Prop := 0 ≤ i ∧ i ≤ l.length ∧ s = (l.take i.toNat).foldl f z
theorem FoldI.start {f : β → α → β} {z : β} {l : List α} : FoldI f z l 0 z := ⟨by omega, by omega, by simp⟩
theorem FoldI.next [Inhabited α] {f : β → α → β} {z : β} {l : List α} {i : Int} {s s' : β} (h : FoldI f z l i s) (hh : i < l.length) (hl : (l.length : Int) ≤ 9223372036854775807) (hs : s' = f s (ix l i)) :
    FoldI f z l (IntKind.i64.wrap (i + 1)) s' ∧ (l.length - IntKind.i64.wrap (i + 1)).toNat < (l.length - i).toNat := by
  obtain ⟨g0, g1, g2⟩ := h
  rw [inc i l.length g0 hh hl]
  refine ⟨⟨by omega, by omega, ?_⟩, by omega⟩
  rw [keb l i g0 hh, List.foldl_append, ← g2, hs]
  rfl
theorem FoldI.done {f : β → α → β} {z : β} {l : List α} {i : Int} {s : β} (h : FoldI f z l i s) (hh : ¬ i < l.length) : s = l.foldl f z := by
  obtain ⟨g0, g1, g2⟩ := h
  rwa [List.take_of_length_le (by omega)] at g2
def FlatI (f : α → List β) (z : List β) (l : List α) (i : Int) (s : List β) : Prop := 0 ≤ i ∧ i ≤ l.length ∧ s = z ++ (l.take i.toNat).flatMap f
theorem FlatI.start {f : α → List β} {z : List β} {l : List α} : FlatI f z l 0 z := ⟨by omega, by omega, by simp⟩
theorem FlatI.next [Inhabited α] {f : α → List β} {z : List β} {l : List α} {i : Int} {s s' : List β} (h : FlatI f z l i s) (hh : i < l.length) (hl : (l.length : Int) ≤ 9223372036854775807) (hs : s' = s ++ f (ix l i)) :
    FlatI f z l (IntKind.i64.wrap (i + 1)) s' ∧ (l.length - IntKind.i64.wrap (i + 1)).toNat < (l.length - i).toNat := by
  obtain ⟨g0, g1, g2⟩ := h
  rw [inc i l.length g0 hh hl]
  refine ⟨⟨by omega, by omega, ?_⟩, by omega⟩
  rw [keb l i g0 hh, List.flatMap_append, hs, g2]
  simp
theorem FlatI.done {f : α → List β} {z : List β} {l : List α} {i : Int} {s : List β} (h : FlatI f z l i s) (hh : ¬ i < l.length) : s = z ++ l.flatMap f := by
  obtain ⟨g0, g1, g2⟩ := h
  rwa [List.take_of_length_le (by omega)] at g2
theorem FlatI.len {f : α → List β} {z : List β} {l : List α} {i : Int} {s : List β} (h : FlatI f z l i s) (k : Nat) (hk : ∀ x ∈ l, (f x).length ≤ k) : s.length ≤ z.length + k * l.length := by
  obtain ⟨g0, g1, g2⟩ := h
  have key : ∀ (m : List α), (∀ x ∈ m, (f x).length ≤ k) → (m.flatMap f).length ≤ k * m.length := by
    intro m
    induction m with
    | nil => simp
    | cons a m ih =>
      intro hm
      have h1 := ih (fun x hx => hm x (by simp [hx]))
      have h2 := hm a (by simp)
      rw [List.flatMap_cons, List.length_append, List.length_cons, Nat.mul_add]
      omega
  have h1 := key (l.take i.toNat) (fun x hx => hk x (List.mem_of_mem_take hx))
  have h2 : k * (l.take i.toNat).length ≤ k * l.length := Nat.mul_le_mul_left _ (by rw [List.length_take]; omega)
  rw [g2, List.length_append]
  omega
def MapI (f : α → β) (l : List α) (i : Int) (s : List β) : Prop := 0 ≤ i ∧ i ≤ l.length ∧ s = (l.take i.toNat).map f
theorem MapI.start {f : α → β} {l : List α} : MapI f l 0 [] := ⟨by omega, by omega, by simp⟩
theorem MapI.next [Inhabited α] {f : α → β} {l : List α} {i : Int} {s s' : List β} (h : MapI f l i s) (hh : i < l.length) (hl : (l.length : Int) ≤ 9223372036854775807) (hs : s' = s ++ [f (ix l i)]) :
    MapI f l (IntKind.i64.wrap (i + 1)) s' ∧ (l.length - IntKind.i64.wrap (i + 1)).toNat < (l.length - i).toNat := by
  obtain ⟨g0, g1, g2⟩ := h
  rw [inc i l.length g0 hh hl]
  refine ⟨⟨by omega, by omega, ?_⟩, by omega⟩
  rw [keb l i g0 hh, List.map_append, hs, g2]
  simp
theorem MapI.done {f : α → β} {l : List α} {i : Int} {s : List β} (h : MapI f l i s) (hh : ¬ i < l.length) : s = l.map f := by
  obtain ⟨g0, g1, g2⟩ := h
  rwa [List.take_of_length_le (by omega)] at g2
theorem MapI.len {f : α → β} {l : List α} {i : Int} {s : List β} (h : MapI f l i s) : s.length = i.toNat := by
  obtain ⟨g0, g1, g2⟩ := h
  rw [g2, List.length_map, List.length_take]; omega
def EqI [Inhabited α] (f : α → α → Bool) (l m : List α) (i : Int) : Prop := 0 ≤ i ∧ i ≤ l.length ∧ ∀ j : Nat, (j : Int) < i → f (ix l j) (ix m j) = true
theorem EqI.start [Inhabited α] {f : α → α → Bool} {l m : List α} : EqI f l m 0 := ⟨by omega, by omega, fun j hj => by omega⟩
theorem EqI.next [Inhabited α] {f : α → α → Bool} {l m : List α} {i : Int} (h : EqI f l m i) (hh : i < l.length) (hl : (l.length : Int) ≤ 9223372036854775807) (hf : f (ix l i) (ix m i) = true) :
    EqI f l m (IntKind.i64.wrap (i + 1)) ∧ (l.length - IntKind.i64.wrap (i + 1)).toNat < (l.length - i).toNat := by
  obtain ⟨g0, g1, g2⟩ := h
  rw [inc i l.length g0 hh hl]
  refine ⟨⟨by omega, by omega, fun j hj => ?_⟩, by omega⟩
  by_cases hji : (j : Int) = i
  · rw [hji]; exact hf
  · exact g2 j (by omega)
def eqB (f : α → α → Bool) : List α → List α → Bool
  | [], [] => true
  | a :: l, b :: m => f a b && eqB f l m
  | _, _ => false
theorem eqB_iff [Inhabited α] {f : α → α → Bool} : ∀ {l m : List α}, eqB f l m = true ↔ l.length = m.length ∧ ∀ j : Nat, j < l.length → f (ix l (j : Int)) (ix m (j : Int)) = true
  | [], [] => by simp [eqB]
  | [], _ :: _ => by simp [eqB]
  | _ :: _, [] => by simp [eqB]
  | a :: l, b :: m => by
    have e : ∀ (a : α) (l : List α) (j : Nat), j < l.length → ix (a :: l) ((j + 1 : Nat) : Int) = ix l (j : Int) := by
      intro a l j hj
      rw [ix_nat _ _ (by omega) (by simp; omega), ix_nat _ _ (by omega) (by omega)]
      rfl
    have e0 : ∀ (a : α) (l : List α), ix (a :: l) ((0 : Nat) : Int) = a := fun a l => by rw [ix_nat _ _ (by omega) (by simp)]; rfl
    simp only [eqB, Bool.and_eq_true, eqB_iff, List.length_cons]
    constructor
    · rintro ⟨h1, h2, h3⟩
      refine ⟨by omega, fun j hj => ?_⟩
      cases j with
      | zero => rw [e0, e0]; exact h1
      | succ j => rw [e a l j (by omega), e b m j (by omega)]; exact h3 j (by omega)
    · rintro ⟨h1, h2⟩
      have h3 := h2 0 (by omega)
      rw [e0, e0] at h3
      refine ⟨h3, by omega, fun j hj => ?_⟩
      have := h2 (j + 1) (by omega)
      rwa [e a l j (by omega), e b m j (by omega)] at this
theorem EqI.bad [Inhabited α] {f : α → α → Bool} {l m : List α} {i : Int} (h : EqI f l m i) (hh : i < l.length) (hf : f (ix l i) (ix m i) = false) : eqB f l m = false := by
  cases hq : eqB f l m with
  | false => rfl
  | true =>
    have h0 := h.1
    have := (eqB_iff.1 hq).2 i.toNat (by omega)
    rw [Int.toNat_of_nonneg h.1, hf] at this
    cases this
theorem EqI.done [Inhabited α] {f : α → α → Bool} {l m : List α} {i : Int} (h : EqI f l m i) (hlm : l.length = m.length) (hh : ¬ i < l.length) : eqB f l m = true :=
  eqB_iff.2 ⟨hlm, fun j hj => h.2.2 j (by omega)⟩
end
theorem k11j {α : Type} {p : α → Bool} : ∀ {l : List α} {j : Nat}, mIdx p l = some j → ∃ x, l[j]? = some x ∧ p x = true
  | [], _, h => by cases h
  | x :: l, j, h => by
    cases hp : p x with
    | true => simp only [mIdx, hp, cond_true, Option.some.injEq] at h; subst h; exact ⟨x, rfl, hp⟩
    | false =>
      simp only [mIdx, hp, cond_false, Option.map_eq_some_iff] at h
      obtain ⟨i, h1, rfl⟩ := h
      obtain ⟨y, h2, h3⟩ := k11j h1
      exact ⟨y, by simpa using h2, h3⟩
@[simp] theorem k1ab {α : Type} (p : α → Bool) : mHas p [] = false := rfl
@[simp] theorem k1ac {α β : Type} (p : α → Bool) (z : β) (vs : List β) : mVal p [] vs z = z := rfl
theorem k1a0 {α β : Type} {p : α → Bool} {ks : List α} {vs : List β} {z : β} (h : mHas p ks = true) (hl : ks.length = vs.length) : mVal p ks vs z ∈ vs := by
  unfold mHas at h
  unfold mVal
  cases hm : mIdx p ks with
  | none => rw [hm] at h; cases h
  | some j =>
    obtain ⟨x, h1, h2⟩ := k11j hm
    have hj : j < vs.length := by have := (List.getElem?_eq_some_iff.1 h1).1; omega
    simp only [List.getElem?_eq_getElem hj, Option.getD_some]
    exact List.getElem_mem hj
theorem k153 (a : Int) (h : 0 ≤ a ∧ a < 4611686018427387904) : iand .i64 a 1 = a % 2 := by
  obtain ⟨n, rfl⟩ := Int.eq_ofNat_of_zero_le h.1
  unfold iand
  have e1 : (BitVec.ofInt IntKind.i64.bits (n : Int)).toNat = n := kdt n (by omega)
  have e2 : (BitVec.ofInt IntKind.i64.bits (1 : Int)).toNat = 1 := kdt 1 (by omega)
  rw [BitVec.toNat_and, e1, e2, Nat.and_one_is_mod]
  rw [wi _ (by omega) (by omega)]
  omega
end Go.Md
namespace Go.Proofs.Ytpffhgljgpjenaa
open Go Go.Bv Go.Cv Go.Md Go.RowKit
def rc (r i : Int) : Int := (3 * r + i + 1) * 11400714819323198485 % 18446744073709551616 % 18446744069414584321
def mixS (s : TA3) : TA3 := ⟨(s.a0 + ((s.a0 + s.a1) % 18446744069414584321 + s.a2) % 18446744069414584321) % 18446744069414584321, (s.a1 + ((s.a0 + s.a1) % 18446744069414584321 + s.a2) % 18446744069414584321) % 18446744069414584321, (s.a2 + ((s.a0 + s.a1) % 18446744069414584321 + s.a2) % 18446744069414584321) % 18446744069414584321⟩
def pw (a e : Int) : Int := a ^ e.toNat % 18446744069414584321
def rnd (s : TA3) (r : Int) : TA3 := mixS ⟨pw ((s.a0 + rc r 0) % 18446744069414584321) 7, pw ((s.a1 + rc r 1) % 18446744069414584321) 7, pw ((s.a2 + rc r 2) % 18446744069414584321) 7⟩
def rnds : Nat → TA3 → TA3
  | 0, s => s
  | n + 1, s => rnd (rnds n s) n
def permS (s : TA3) : TA3 := rnds 8 s
def absL : List Int → TA3 → TA3
  | [], s => s
  | [x], s => permS ⟨(s.a0 + x) % 18446744069414584321, s.a1, s.a2⟩
  | x :: y :: r, s => absL r (permS ⟨(s.a0 + x) % 18446744069414584321, (s.a1 + y) % 18446744069414584321, s.a2⟩)
def absI (label : Int) (l : List Int) : TA3 := ⟨0, 0, (label * 65536 % 18446744069414584321 + (l.length : Int)) % 18446744069414584321⟩
def absS (label : Int) (l : List Int) : TA3 := if l = [] then permS (absI label l) else absL l (absI label l)
def hashS (label : Int) (l : List Int) : Int := (absS label l).a0
def S3 (s : TA3) : Prop := U64 s.a0 ∧ U64 s.a1 ∧ U64 s.a2
theorem S3m {a b c : Int} (ha : U64 a) (hb : U64 b) (hc : U64 c) : S3 ⟨a, b, c⟩ := ⟨ha, hb, hc⟩
theorem ka1 (s : TA3) : S3 (permS s) := by
  show S3 (rnd _ _)
  unfold rnd mixS S3
  dsimp only
  omega
theorem kxc : ∀ (l : List Int) (s : TA3), S3 s → S3 (absL l s)
  | [], _, h => h
  | [_], _, _ => ka1 _
  | _ :: _ :: r, _, _ => kxc r _ (ka1 _)
theorem kh5 (label : Int) (l : List Int) : U64 (hashS label l) := by
  unfold hashS absS
  split
  · exact (ka1 _).1
  · rename_i h
    match l, h with
    | [_], _ => exact (ka1 _).1
    | _ :: _ :: r, _ => exact (kxc r _ (ka1 _)).1
theorem kw2 (s : TA3) : (permS s).a0 < 18446744069414584321 := by
  show (rnd _ _).a0 < _
  unfold rnd mixS
  dsimp only
  omega
theorem absL_lt : ∀ (l : List Int) (s : TA3), l ≠ [] → (absL l s).a0 < 18446744069414584321
  | [], _, h => (h rfl).elim
  | [_], _, _ => kw2 _
  | [_, _], _, _ => kw2 _
  | _ :: _ :: x :: r, s, _ => absL_lt (x :: r) _ (by simp)
theorem k146 (label : Int) (l : List Int) : hashS label l < 18446744069414584321 := by
  unfold hashS absS
  split
  · exact kw2 _
  · rename_i h; exact absL_lt _ _ h
end Go.Proofs.Ytpffhgljgpjenaa
namespace Go.Proofs.Ytpffhgljgpjenaa
open Go Go.Bv Go.Cv Go.Md Go.RowKit
structure RD where
  n : Int
  ok : Bool
  pos : Int
  fail : Bool
structure RL where
  l : List Int
  pos : Int
  fail : Bool
structure RdOk (b : List Int) (pos : Int) : Prop where
  by_ : By b
  len : b.length ≤ 137438953472
  pos0 : 0 ≤ pos
  pos1 : pos ≤ b.length
def rdD (b : List Int) (pos : Int) (f : Bool) (size : Int) : RD :=
  if f = true ∨ (b.length : Int) - pos < size then ⟨0, false, pos, true⟩ else ⟨val ((b.drop pos.toNat).take size.toNat), true, pos + size, false⟩
def rdI (b : List Int) (pos : Int) (f : Bool) (m : Int) : RD :=
  if (rdD b pos f 4).ok = false ∨ m < (rdD b pos f 4).n then ⟨0, false, (rdD b pos f 4).pos, true⟩ else rdD b pos f 4
def rdB (b : List Int) (pos : Int) (f : Bool) (m : Int) : RL :=
  if (rdI b pos f m).fail = true ∨ (b.length : Int) - (rdI b pos f m).pos < (rdI b pos f m).n then ⟨[], (rdI b pos f m).pos, true⟩ else ⟨(b.take ((rdI b pos f m).pos + (rdI b pos f m).n).toNat).drop (rdI b pos f m).pos.toNat, (rdI b pos f m).pos + (rdI b pos f m).n, false⟩
end Go.Proofs.Ytpffhgljgpjenaa
namespace Go.Proofs.Ytpffhgljgpjenaa
open Go Go.Bv Go.Cv Go.Md Go.RowKit
def nums : Nat → List Int → List Int
  | 0, _ => []
  | k + 1, b => val (b.take 8) :: nums k (b.drop 8)
@[simp] theorem k16d : ∀ (k : Nat) (b : List Int), (nums k b).length = k
  | 0, _ => rfl
  | k + 1, b => by simp [nums, k16d k]
section
variable {b : List Int} {pos m p : Int} {f : Bool}
end
end Go.Proofs.Ytpffhgljgpjenaa
namespace Go.Proofs.Ytpffhgljgpjenaa
open Go Go.Bv Go.Cv Go.Md Go.RowKit
def allB (l : List Int) : Bool := l.all (fun x => decide (x < 18446744069414584321))
theorem kof {l : List Int} : allB l = true ↔ ∀ x ∈ l, x < 18446744069414584321 := by unfold allB; simp
def keyB (ns l : List Int) : ByteArray := strOfNums (ns.flatMap (dig 8) ++ l.flatMap (dig 8))
structure OrOk (ks : List ByteArray) (vs : List Int) (qs : List TQuestion) : Prop where
  len : ks.length = vs.length
  rng : ∀ v ∈ vs, 0 ≤ v ∧ v < qs.length
def pk (ideal : Bool) (qs : List TQuestion) (ks : List ByteArray) (vs : List Int) (label : Int) (l : List Int) : Option Int :=
  if allB l = true then (if mHas (BEq.beq (keyB [label] l)) ks = true then some (ix qs (mVal (BEq.beq (keyB [label] l)) ks vs 0)).Answer else if ideal = true then none else some (hashS label l)) else none
def pkR (label : Int) (l : List Int) : Option Int := if allB l = true then some (hashS label l) else none
theorem pk_real (qs : List TQuestion) (label : Int) (l : List Int) : pk false qs [] [] label l = pkR label l := by unfold pk pkR; simp
end Go.Proofs.Ytpffhgljgpjenaa
namespace Go.Proofs.Ytpffhgljgpjenaa
open Go Go.Bv Go.Cv Go.Md Go.RowKit
def noteV (n : TNote) : Bool := decide (n.Value ≤ 4294967295) && decide (n.Owner < 18446744069414584321) && decide (n.Rho < 18446744069414584321) && decide (n.Blind < 18446744069414584321)
def noteL (n : TNote) : List Int := [n.Value, n.Owner, n.Rho, n.Blind]
def noteOf (x : TSpent) : TNote := ⟨x.Note_Value, x.Note_Owner, x.Note_Rho, x.Note_Blind⟩
def spendV (x : TSpent) : Bool := noteV (noteOf x) && decide (x.Key < 18446744069414584321) && decide (0 ≤ x.Number) && decide (x.Number < 4) && decide (0 ≤ x.Position) && decide (x.Position ≤ 4095) && decide (x.Path.length ≤ 12) && allB x.Path
def inV (depth : Int) (x : TSpent) : Bool := spendV x && decide ((x.Path.length : Int) = depth) && decide (x.Position < 2 ^ depth.toNat)
def relV (s : TStatement) (w : TWitness) : Bool :=
  decide (1 ≤ s.Depth) && decide (s.Depth ≤ 12) && allB [s.Anchor, s.Account, s.Bind, w.Secret] && decide (s.Deposit ≤ 4294967295) && decide (s.Withdraw ≤ 4294967295) && decide (s.Fee ≤ 4294967295) &&
  allB s.Marks && allB s.Commits && allB s.Rhos && decide (w.Ins.length = s.Marks.length) && decide (w.Ins.length ≤ 4) && decide (w.Outs.length = s.Commits.length) && decide (w.Outs.length = s.Rhos.length) && decide (w.Outs.length ≤ 4) &&
  w.Ins.all (inV s.Depth) && w.Outs.all noteV
def climbL : Int → Int → List Int → Int
  | d, _, [] => d
  | d, p, n :: r => climbL (if p % 2 = 0 then hashS 6 [d, n] else hashS 6 [n, d]) (p / 2) r
def climbS (leaf pos : Int) (path : List Int) : Int := if path.length ≤ 12 ∧ 0 ≤ pos ∧ pos < 2 ^ path.length ∧ leaf < 18446744069414584321 ∧ allB path = true then climbL leaf pos path else 0
def ownerS (key number : Int) : Int := if 0 ≤ number ∧ number < 4 then hashS 1 [key, number] else 0
def acctS (secret : Int) : Int := hashS 7 [secret]
abbrev Ask := Int → List Int → Option Int
def markP (f : Ask) (key rho : Int) : Option Int := if key < 18446744069414584321 ∧ rho < 18446744069414584321 then f 3 [key, rho] else none
def commP (f : Ask) (n : TNote) : Option Int := if noteV n = true then f 2 (noteL n) else none
def inE (f : Ask) (anchor mark : Int) (x : TSpent) : Int :=
  if x.Note_Owner ≠ ownerS x.Key x.Number then 21 else
  if (markP f x.Key x.Note_Rho).isSome = false ∨ (markP f x.Key x.Note_Rho).getD 0 ≠ mark then 12 else
  if x.Dummy = true then (if x.Note_Value ≠ 0 then 13 else 0) else
  if (commP f (noteOf x)).isSome = false ∨ climbS ((commP f (noteOf x)).getD 0) x.Position x.Path ≠ anchor then 11 else 0
def insE (f : Ask) (anchor : Int) : List TSpent → List Int → Int
  | x :: r, m :: ms => if inE f anchor m x ≠ 0 then inE f anchor m x else insE f anchor r ms
  | _, _ => 0
def outB (f : Ask) (n : TNote) (c r : Int) : Bool := (commP f n).isSome && (commP f n).getD 0 == c && n.Rho == r
def outsB (f : Ask) : List TNote → List Int → List Int → Bool
  | n :: l, c :: cs, r :: rs => outB f n c r && outsB f l cs rs
  | _, _, _ => true
def inS (l : List TSpent) : Int := l.foldl (fun s x => (s + x.Note_Value) % 18446744073709551616) 0
def outS (l : List TNote) : Int := l.foldl (fun s x => (s + x.Value) % 18446744073709551616) 0
def checkS (f : Ask) (s : TStatement) (w : TWitness) : Int :=
  if relV s w = false then 1 else
  if insE f s.Anchor w.Ins s.Marks ≠ 0 then insE f s.Anchor w.Ins s.Marks else
  if outsB f w.Outs s.Commits s.Rhos = false then 1 else
  if 0 < s.Deposit ∧ s.Account ≠ acctS w.Secret then 21 else
  if (inS w.Ins + s.Deposit) % 18446744073709551616 ≠ ((outS w.Outs + s.Withdraw) % 18446744073709551616 + s.Fee) % 18446744073709551616 then 13 else 0
structure NR (n : TNote) : Prop where
  v : U64 n.Value
  o : U64 n.Owner
  r : U64 n.Rho
  b : U64 n.Blind
structure PR (x : TSpent) : Prop where
  n : NR (noteOf x)
  k : U64 x.Key
  nu : -9223372036854775808 ≤ x.Number ∧ x.Number ≤ 9223372036854775807
  po : -9223372036854775808 ≤ x.Position ∧ x.Position ≤ 9223372036854775807
  pa : Us x.Path
  pl : x.Path.length ≤ 1073741824
structure WR (w : TWitness) : Prop where
  i : ∀ x ∈ w.Ins, PR x
  il : w.Ins.length ≤ 1073741824
  o : ∀ x ∈ w.Outs, NR x
  ol : w.Outs.length ≤ 1073741824
  s : U64 w.Secret
structure SR (s : TStatement) : Prop where
  d : -9223372036854775808 ≤ s.Depth ∧ s.Depth ≤ 9223372036854775807
  a : U64 s.Anchor
  m : Us s.Marks
  ml : s.Marks.length ≤ 1073741824
  c : Us s.Commits
  cl : s.Commits.length ≤ 1073741824
  r : Us s.Rhos
  rl : s.Rhos.length ≤ 1073741824
  de : U64 s.Deposit
  wi : U64 s.Withdraw
  f : U64 s.Fee
  ac : U64 s.Account
  b : U64 s.Bind
structure PQ (x : TSpent) : Prop where
  n : NR (noteOf x)
  k : U64 x.Key
  nu : -9223372036854775808 ≤ x.Number ∧ x.Number ≤ 9223372036854775807
  po : -9223372036854775808 ≤ x.Position ∧ x.Position ≤ 9223372036854775807
  pa : Us x.Path
  pl : x.Path.length ≤ 9223372036854775807
structure WQ (w : TWitness) : Prop where
  i : ∀ x ∈ w.Ins, PQ x
  il : w.Ins.length ≤ 9223372036854775807
  o : ∀ x ∈ w.Outs, NR x
  ol : w.Outs.length ≤ 9223372036854775807
  s : U64 w.Secret
structure SQ (s : TStatement) : Prop where
  d : -9223372036854775808 ≤ s.Depth ∧ s.Depth ≤ 9223372036854775807
  a : U64 s.Anchor
  m : Us s.Marks
  c : Us s.Commits
  r : Us s.Rhos
  de : U64 s.Deposit
  wi : U64 s.Withdraw
  f : U64 s.Fee
  ac : U64 s.Account
  b : U64 s.Bind
def smallW (s : TStatement) (w : TWitness) : Bool := decide (s.Marks.length ≤ 8) && decide (s.Commits.length ≤ 8) && decide (s.Rhos.length ≤ 8) && decide (w.Ins.length ≤ 8) && decide (w.Outs.length ≤ 8) && w.Ins.all (fun x => decide (x.Path.length ≤ 20))
theorem kiq {s : TStatement} {w : TWitness} : smallW s w = true ↔ s.Marks.length ≤ 8 ∧ s.Commits.length ≤ 8 ∧ s.Rhos.length ≤ 8 ∧ w.Ins.length ≤ 8 ∧ w.Outs.length ≤ 8 ∧ ∀ x ∈ w.Ins, x.Path.length ≤ 20 := by
  unfold smallW
  simp only [Bool.and_eq_true, decide_eq_true_eq, List.all_eq_true, and_assoc]
theorem SQ.sr {s : TStatement} {w : TWitness} (h : SQ s) (hs : smallW s w = true) : SR s := by
  obtain ⟨h1, h2, h3, _⟩ := kiq.1 hs
  exact ⟨h.d, h.a, h.m, by omega, h.c, by omega, h.r, by omega, h.de, h.wi, h.f, h.ac, h.b⟩
theorem WQ.wr {s : TStatement} {w : TWitness} (h : WQ w) (hs : smallW s w = true) : WR w := by
  obtain ⟨_, _, _, h4, h5, h6⟩ := kiq.1 hs
  exact ⟨fun x hx => by have := h.i x hx; have := h6 x hx; exact ⟨(h.i x hx).n, (h.i x hx).k, (h.i x hx).nu, (h.i x hx).po, (h.i x hx).pa, by omega⟩, by omega, h.o, by omega, h.s⟩
theorem kdc {s : TStatement} {w : TWitness} : relV s w = true ↔ (1 ≤ s.Depth ∧ s.Depth ≤ 12 ∧ allB [s.Anchor, s.Account, s.Bind, w.Secret] = true ∧ s.Deposit ≤ 4294967295 ∧ s.Withdraw ≤ 4294967295 ∧ s.Fee ≤ 4294967295 ∧ allB s.Marks = true ∧ allB s.Commits = true ∧ allB s.Rhos = true ∧ w.Ins.length = s.Marks.length ∧ w.Ins.length ≤ 4 ∧ w.Outs.length = s.Commits.length ∧ w.Outs.length = s.Rhos.length ∧ w.Outs.length ≤ 4 ∧ w.Ins.all (inV s.Depth) = true ∧ w.Outs.all noteV = true) := by
  unfold relV
  simp only [Bool.and_eq_true, decide_eq_true_eq, and_assoc]
theorem ka2 {f : Ask} {s : TStatement} {w : TWitness} : checkS f s w = 0 ↔ relV s w = true ∧ insE f s.Anchor w.Ins s.Marks = 0 ∧ outsB f w.Outs s.Commits s.Rhos = true ∧ (0 < s.Deposit → s.Account = acctS w.Secret) ∧
    (inS w.Ins + s.Deposit) % 18446744073709551616 = ((outS w.Outs + s.Withdraw) % 18446744073709551616 + s.Fee) % 18446744073709551616 := by
  unfold checkS
  constructor
  · intro h
    split at h
    · simp at h
    · rename_i h1
      split at h
      · rename_i h2; exact (h2 h).elim
      · rename_i h2
        split at h
        · simp at h
        · rename_i h3
          split at h
          · simp at h
          · rename_i h4
            split at h
            · simp at h
            · rename_i h5
              exact ⟨by simpa using h1, by simpa using h2, by simpa using h3, fun h => by
                by_cases ha : s.Account = acctS w.Secret
                · exact ha
                · exact (h4 ⟨h, ha⟩).elim, by simpa using h5⟩
  · rintro ⟨h1, h2, h3, h4, h5⟩
    rw [if_neg (by simp [h1]), if_neg (by simp [h2]), if_neg (by simp [h3]), if_neg (fun h => h.2 (h4 h.1)), if_neg (fun h => h h5)]
theorem k16o {f : Ask} {s : TStatement} {w : TWitness} (h : checkS f s w = 0) {b : Int} (hb : b < 18446744069414584321) : checkS f ⟨s.Depth, s.Anchor, s.Marks, s.Commits, s.Rhos, s.Deposit, s.Withdraw, s.Fee, s.Account, b⟩ w = 0 := by
  obtain ⟨h1, h2, h3, h4, h5⟩ := ka2.1 h
  refine ka2.2 ⟨?_, h2, h3, h4, h5⟩
  have h1 := kdc.1 h1
  refine kdc.2 ⟨h1.1, h1.2.1, ?_, h1.2.2.2⟩
  have := kof.1 h1.2.2.1
  refine kof.2 fun x hx => ?_
  simp only [List.mem_cons, List.not_mem_nil, or_false] at hx
  rcases hx with rfl | rfl | rfl | rfl
  · exact this _ (by simp)
  · exact this _ (by simp)
  · exact hb
  · exact this _ (by simp)
theorem k17u {f : Ask} {s : TStatement} {w : TWitness} (h : checkS f s w = 0) (hs : U64 s.Fee) {n : Int} (hn : n = (s.Fee + 1) % 4294967296) : checkS f ⟨s.Depth, s.Anchor, s.Marks, s.Commits, s.Rhos, s.Deposit, s.Withdraw, n, s.Account, s.Bind⟩ w = 13 := by
  obtain ⟨h1, h2, h3, h4, h5⟩ := ka2.1 h
  have hf := (kdc.1 h1).2.2.2.2.2.1
  have hr : relV ⟨s.Depth, s.Anchor, s.Marks, s.Commits, s.Rhos, s.Deposit, s.Withdraw, n, s.Account, s.Bind⟩ w = true := by
    have h1 := kdc.1 h1
    exact kdc.2 ⟨h1.1, h1.2.1, h1.2.2.1, h1.2.2.2.1, h1.2.2.2.2.1, by show n ≤ _; omega, h1.2.2.2.2.2.2⟩
  unfold checkS
  rw [if_neg (by simp [hr]), if_neg (by simp [h2]), if_neg (by simp [h3]), if_neg (fun h => h.2 (h4 h.1)), if_pos (fun h6 => ?_)]
  have h6 : (inS w.Ins + s.Deposit) % 18446744073709551616 = ((outS w.Outs + s.Withdraw) % 18446744073709551616 + n) % 18446744073709551616 := h6
  rw [h5] at h6
  omega
theorem pkR_u {l : Int} {a : List Int} : pkR l a = none ∨ ∃ n, pkR l a = some n ∧ U64 n := by
  unfold pkR
  split
  · exact .inr ⟨_, rfl, kh5 _ _⟩
  · exact .inl rfl
theorem kj6 : OrOk [] [] [] := ⟨rfl, fun v hv => by cases hv⟩
theorem pk_nil : pk false [] [] [] = pkR := by funext l a; exact pk_real _ _ _
def exS (fee : Int) : TStatement := ⟨1, 0, [], [hashS 2 [5, 1, 2, 3]], [2], 7, 0, fee, hashS 7 [9], 0⟩
def exW : TWitness := ⟨[], [⟨5, 1, 2, 3⟩], 9⟩
theorem exS_sr (fee : Int) (h : U64 fee) : SR (exS fee) :=
  ⟨(by decide : -9223372036854775808 ≤ (1 : Int) ∧ (1 : Int) ≤ 9223372036854775807), (by decide : U64 0), (by decide : Us []), (by decide : ([] : List Int).length ≤ 1073741824),
   fun x hx => by rw [show x = _ from List.mem_singleton.1 hx]; exact kh5 _ _, by simp [exS], (by decide : Us [2]), (by decide : ([2] : List Int).length ≤ 1073741824), (by decide : U64 7), (by decide : U64 0), h, kh5 _ _, (by decide : U64 0)⟩
theorem exW_wr : WR exW := ⟨by intro x hx; (cases hx), by decide, by intro x hx; rw [show x = _ from List.mem_singleton.1 hx]; exact ⟨by decide, by decide, by decide, by decide⟩, by decide, by decide⟩
theorem kwc (fee : Int) (h : fee ≤ 4294967295) : relV (exS fee) exW = true := by
  refine kdc.2 ⟨(by decide : 1 ≤ (1 : Int)), (by decide : (1 : Int) ≤ 12), kof.2 ?_, (by decide : (7 : Int) ≤ 4294967295), (by decide : (0 : Int) ≤ 4294967295), h, (by decide : allB [] = true), kof.2 ?_, (by decide : allB [2] = true), by simp [exS, exW], (by decide : exW.Ins.length ≤ 4), by simp [exS, exW], by simp [exS, exW], (by decide : exW.Outs.length ≤ 4), by simp [exW], (by decide : exW.Outs.all noteV = true)⟩
  · intro x hx
    simp only [exS, exW, List.mem_cons, List.not_mem_nil, or_false] at hx
    rcases hx with rfl | rfl | rfl | rfl
    · decide
    · exact k146 _ _
    · decide
    · decide
  · intro x hx
    rw [show x = _ from List.mem_singleton.1 hx]
    exact k146 _ _
theorem exS_ok : checkS pkR (exS 2) exW = 0 := by
  refine ka2.2 ⟨kwc 2 (by decide), rfl, ?_, fun _ => rfl, by decide⟩
  have e : commP pkR ⟨5, 1, 2, 3⟩ = some (hashS 2 [5, 1, 2, 3]) := rfl
  show (outB pkR ⟨5, 1, 2, 3⟩ (hashS 2 [5, 1, 2, 3]) 2 && true) = true
  unfold outB
  rw [e]
  simp
theorem exS_not : checkS pkR (exS 1) exW = 13 := by
  unfold checkS
  have e : commP pkR ⟨5, 1, 2, 3⟩ = some (hashS 2 [5, 1, 2, 3]) := rfl
  have eo : outsB pkR exW.Outs (exS 1).Commits (exS 1).Rhos = true := by
    show (outB pkR ⟨5, 1, 2, 3⟩ (hashS 2 [5, 1, 2, 3]) 2 && true) = true
    unfold outB
    rw [e]
    simp
  rw [if_neg (by rw [kwc 1 (by decide)]; simp), if_neg (by show ¬ ((0 : Int) ≠ 0); simp), if_neg (by rw [eo]; simp), if_neg (fun h => h.2 rfl), if_pos (by decide)]
end Go.Proofs.Ytpffhgljgpjenaa
namespace Go.Proofs.Ytpffhgljgpjenaa
open Go Go.Bv Go.Cv Go.Md Go.RowKit
theorem kiw.nr {x : TNote} (h : kiw x) : NR x := ⟨h.Value, h.Owner, h.Rho, h.Blind⟩
theorem kg8.pq {x : TSpent} (h : kg8 x) : PQ x := ⟨⟨h.Note_Value, h.Note_Owner, h.Note_Rho, h.Note_Blind⟩, h.Key, by have := h.Number; omega, by have := h.Position; omega, h.Path.2, h.Path.1⟩
theorem k9l.wq {x : TWitness} (h : k9l x) : WQ x := ⟨fun y hy => (h.Ins.2 y hy).pq, h.Ins.1, fun y hy => (h.Outs.2 y hy).nr, h.Outs.1, h.Secret⟩
theorem kb4.sq {x : TStatement} (h : kb4 x) : SQ x := ⟨by have := h.Depth; omega, h.Anchor, h.Marks.2, h.Commits.2, h.Rhos.2, h.Deposit, h.Withdraw, h.Fee, h.Account, h.Bind⟩
theorem kok {p0 : TWitness} (h0 : k9l p0) : p0.Ins.length ≤ 9223372036854775807 ∧ p0.Outs.length ≤ 9223372036854775807 := ⟨h0.Ins.1, h0.Outs.1⟩
theorem kkf {p0 : TStatement} {p1 : TWitness} {p2 : Int} (h0 : kb4 p0) (h1 : k9l p1) (h2 : 0 ≤ p2 ∧ p2 < 18446744073709551616) : SQ p0 ∧ WQ p1 ∧ U64 p2 := ⟨h0.sq, h1.wq, h2⟩
end Go.Proofs.Ytpffhgljgpjenaa
namespace Go.Proofs.Ytpffhgljgpjenaa
open Go Go.Bv Go.Cv Go.Md Go.RowKit
def k3n : Con TB.den := Con.mk0 113 [.one (.d (.int .u64))] [] (.one (.agg [.d (.int .u64), .d (.int .u64), .d (.int .u64)])) []
abbrev k11e := HL TB.den (hsT k3n.ins (hsOs k3n.pre))
abbrev kkx := HL TB.den (hsV k3n.res (hsOs k3n.post))
noncomputable def kf9 : Cx TB := ⟨inf, [], [], 4⟩
noncomputable def kjn : Code := Try.f113.body.getD .skip
noncomputable def ko7 : List ResultVar := Try.f113.results.toList
noncomputable def kxi (o : kkx) : An TB := .no
noncomputable def kjo (x : k11e) (o : kkx) : Prop := WPh TB kf9 26 0 kjn (kxi o) (k3n.st TB x) (retTQ TB kf9 k3n ko7 o)
set_option maxRecDepth 100000 in
theorem k16z (o : kkx) : OblH TB kf9 26 0 kjn (kxi o) (retTQ TB kf9 k3n ko7 o) :=
  OblH.of_eq (X := (True ∧ ((True ∧ (True ∧ ((True ∧ True) ∧ (True ∧ ((True ∧ True) ∧ (True ∧ ((True ∧ True) ∧ (True ∧ ((True ∧ True) ∧ (True ∧ ((True ∧ True) ∧ (True ∧ ((True ∧ True) ∧ (True ∧ ((True ∧ True) ∧ True))))))))))))))) ∧ (True ∧ True)))) (by kernel_rfl) ⟨trivial, ⟨⟨trivial, ⟨trivial, ⟨⟨trivial, trivial⟩, ⟨trivial, ⟨⟨trivial, trivial⟩, ⟨trivial, ⟨⟨trivial, trivial⟩, ⟨trivial, ⟨⟨trivial, trivial⟩, ⟨trivial, ⟨⟨trivial, trivial⟩, ⟨trivial, ⟨⟨trivial, trivial⟩, ⟨trivial, ⟨⟨trivial, trivial⟩, trivial⟩⟩⟩⟩⟩⟩⟩⟩⟩⟩⟩⟩⟩⟩⟩, ⟨trivial, trivial⟩⟩⟩
set_option maxRecDepth 100000 in
theorem k16f {x : k11e} {o : kkx} (h : kjo x o) : SoundH Try.prog k3n.f ((k3n.args idf x).map (er TB)) ((k3n.obs idf x).map (erO TB)) (er TB (k3n.val idf o)) ((k3n.ops idf o).map (erO TB)) :=
  Con.soundH (c := k3n) (C := kf9) TBok ⟨inf_ok, all_nil, all_nil⟩ mix Try.func113 (show Try.f113.body = some kjn by kernel_rfl) (show Try.f113.ntmps = 26 by kernel_rfl) (show Try.f113.results.toList = ko7 by kernel_rfl) rfl h (k16z o)
set_option maxRecDepth 100000 in
theorem k17s {p0 : Int} {r0 : TA3} (h :
(((p0 == 17) = true →
 3 = r0.a0 ∧ 4 = r0.a1 ∧ 3 = r0.a2) ∧
((p0 == 17) = false →
((p0 == 97) = true →
 5 = r0.a0 ∧ 5 = r0.a1 ∧ 5 = r0.a2) ∧
((p0 == 97) = false →
((p0 == 193) = true →
 5 = r0.a0 ∧ 6 = r0.a1 ∧ 5 = r0.a2) ∧
((p0 == 193) = false →
((p0 == 257) = true →
 3 = r0.a0 ∧ 8 = r0.a1 ∧ 3 = r0.a2) ∧
((p0 == 257) = false →
((p0 == 12289) = true →
 11 = r0.a0 ∧ 12 = r0.a1 ∧ 5 = r0.a2) ∧
((p0 == 12289) = false →
((p0 == 65537) = true →
 3 = r0.a0 ∧ 16 = r0.a1 ∧ 3 = r0.a2) ∧
((p0 == 65537) = false →
((p0 == 18446744069414584321) = true →
 7 = r0.a0 ∧ 32 = r0.a1 ∧ 7 = r0.a2) ∧
((p0 == 18446744069414584321) = false →
 0 = r0.a0 ∧ 0 = r0.a1 ∧ 0 = r0.a2))))))))) : kjo (p0, ()) (r0.a0, r0.a1, r0.a2, ()) := WPh.of_eq (by kernel_rfl) h
theorem bd113 : Callable Try.prog 113 := ⟨by rw [Try.func113]; kernel_rfl, by rw [Try.func113]; show some _ ≠ some _; decide⟩
theorem k14h (p0 : Int) (h : p0 = 18446744069414584321) : kjo (p0, ()) ((7 : Int), (32 : Int), (7 : Int), ()) := by
  refine k17s (r0 := TA3.mk 7 32 7) ?_
  simp [h]
noncomputable def klr : Con TB.den := k3n.fnR (fun x => (fun (p0 : Int) => p0 = 18446744069414584321) x.1) fun x => ((fun (p0 : Int) => (7 : Int)) x.1, (fun (p0 : Int) => (32 : Int)) x.1, (fun (p0 : Int) => (7 : Int)) x.1, ())
theorem kx9 : klr.Ok Try.prog TB := Con.ok_fn k3n bd113 fun x h => k16f (k14h x.1 h)
end Go.Proofs.Ytpffhgljgpjenaa
namespace Go.Proofs.Ytpffhgljgpjenaa
open Go Go.Bv Go.Cv Go.Md Go.RowKit
def k2p : Con TB.den := Con.mk0 106 [.one (.d (.int .u64))] [] (.one (.one (.d (.bool)))) []
abbrev kvh := HL TB.den (hsT k2p.ins (hsOs k2p.pre))
abbrev kgw := HL TB.den (hsV k2p.res (hsOs k2p.post))
noncomputable def kbg : Cx TB := ⟨inf, [klr], [], 4⟩
noncomputable def kg1 : Code := Try.f106.body.getD .skip
noncomputable def kjj : List ResultVar := Try.f106.results.toList
noncomputable def kt8 (o : kgw) : An TB := .no
noncomputable def kg7 (x : kvh) (o : kgw) : Prop := WPh TB kbg 7 0 kg1 (kt8 o) (k2p.st TB x) (retTQ TB kbg k2p kjj o)
set_option maxRecDepth 100000 in
theorem k12p (o : kgw) : OblH TB kbg 7 0 kg1 (kt8 o) (retTQ TB kbg k2p kjj o) :=
  OblH.of_eq (X := (True ∧ (True ∧ True))) (by kernel_rfl) ⟨trivial, ⟨trivial, trivial⟩⟩
set_option maxRecDepth 100000 in
theorem k12g {x : kvh} {o : kgw} (h : kg7 x o) : SoundH Try.prog k2p.f ((k2p.args idf x).map (er TB)) ((k2p.obs idf x).map (erO TB)) (er TB (k2p.val idf o)) ((k2p.ops idf o).map (erO TB)) :=
  Con.soundH (c := k2p) (C := kbg) TBok ⟨inf_ok, (all_cons kx9 all_nil), all_nil⟩ mix Try.func106 (show Try.f106.body = some kg1 by kernel_rfl) (show Try.f106.ntmps = 7 by kernel_rfl) (show Try.f106.results.toList = kjj by kernel_rfl) rfl h (k12p o)
set_option maxRecDepth 100000 in
theorem k14f {p0 : Int} {r0 : Bool} (h :
((p0 = 18446744069414584321) ∧ decide (0 < (7 : Int)) = r0)) : kg7 (p0, ()) (r0, ()) := WPh.of_eq (by kernel_rfl) h
theorem bd106 : Callable Try.prog 106 := ⟨by rw [Try.func106]; kernel_rfl, by rw [Try.func106]; show some _ ≠ some _; decide⟩
theorem k10q (p0 : Int) (h : p0 = 18446744069414584321) : kg7 (p0, ()) ((true : Bool), ()) := by
  exact k14f ⟨h, rfl⟩
noncomputable def k6h : Con TB.den := k2p.fnR (fun x => (fun (p0 : Int) => p0 = 18446744069414584321) x.1) fun x => ((fun (p0 : Int) => (true : Bool)) x.1, ())
theorem k8i : k6h.Ok Try.prog TB := Con.ok_fn k2p bd106 fun x h => k12g (k10q x.1 h)
end Go.Proofs.Ytpffhgljgpjenaa
namespace Go.Proofs.Ytpffhgljgpjenaa
open Go Go.Bv Go.Cv Go.Md Go.RowKit
def k3p : Con TB.den := Con.mk0 114 [.one (.d (.int .u64)), .one (.d (.int .u64)), .one (.d (.int .u64))] [] (.one (.one (.d (.int .u64)))) []
abbrev k11h := HL TB.den (hsT k3p.ins (hsOs k3p.pre))
abbrev kl5 := HL TB.den (hsV k3p.res (hsOs k3p.post))
noncomputable def ke7 : Cx TB := ⟨inf, [k6h], [], 4⟩
noncomputable def kkb : Code := Try.f114.body.getD .skip
noncomputable def kod : List ResultVar := Try.f114.results.toList
noncomputable def kyn (o : kl5) : An TB := .no
noncomputable def kj0 (x : k11h) (o : kl5) : Prop := WPh TB ke7 29 0 kkb (kyn o) (k3p.st TB x) (retTQ TB ke7 k3p kod o)
set_option maxRecDepth 100000 in
theorem k16u (o : kl5) : OblH TB ke7 29 0 kkb (kyn o) (retTQ TB ke7 k3p kod o) :=
  OblH.of_eq (X := (True ∧ ((True ∧ ((True ∧ True) ∧ True)) ∧ (True ∧ ((True ∧ ((True ∧ True) ∧ True)) ∧ (True ∧ True)))))) (by kernel_rfl) ⟨trivial, ⟨⟨trivial, ⟨⟨trivial, trivial⟩, trivial⟩⟩, ⟨trivial, ⟨⟨trivial, ⟨⟨trivial, trivial⟩, trivial⟩⟩, ⟨trivial, trivial⟩⟩⟩⟩⟩
set_option maxRecDepth 100000 in
theorem k165 {x : k11h} {o : kl5} (h : kj0 x o) : SoundH Try.prog k3p.f ((k3p.args idf x).map (er TB)) ((k3p.obs idf x).map (erO TB)) (er TB (k3p.val idf o)) ((k3p.ops idf o).map (erO TB)) :=
  Con.soundH (c := k3p) (C := ke7) TBok ⟨inf_ok, (all_cons k8i all_nil), all_nil⟩ mix Try.func114 (show Try.f114.body = some kkb by kernel_rfl) (show Try.f114.ntmps = 29 by kernel_rfl) (show Try.f114.results.toList = kod by kernel_rfl) rfl h (k16u o)
set_option maxRecDepth 100000 in
theorem k17j {p0 : Int} {p1 : Int} {p2 : Int} {r0 : Int} (h :
((p0 = 18446744069414584321) ∧ ((!true) = true →
 0 = r0) ∧
((!true) = false →
(p0 ≠ 0) ∧ (p0 ≠ 0) ∧ let v1 : Bool := decide ((IntKind.u64.wrap (p0 - (Int.tmod p2 p0))) ≤ (Int.tmod p1 p0))
(v1 = true →
 let v2 : Int := IntKind.u64.wrap ((Int.tmod p1 p0) - (IntKind.u64.wrap (p0 - (Int.tmod p2 p0))))
 v2 = r0) ∧
(v1 = false →
 let v3 : Int := IntKind.u64.wrap ((Int.tmod p1 p0) + (Int.tmod p2 p0))
 v3 = r0)))) : kj0 (p0, p1, p2, ()) (r0, ()) := WPh.of_eq (by kernel_rfl) h
theorem bd114 : Callable Try.prog 114 := ⟨by rw [Try.func114]; kernel_rfl, by rw [Try.func114]; show some _ ≠ some _; decide⟩
theorem k158 (p0 : Int) (p1 : Int) (p2 : Int) (h : p0 = 18446744069414584321 ∧ U64 p1 ∧ U64 p2) : kj0 (p0, p1, p2, ()) ((((p1 + p2) % 18446744069414584321) : Int), ()) := by
  obtain ⟨rfl, h1, h2⟩ := h
  refine k17j ⟨rfl, fun h => by simp at h, fun _ => ?_⟩
  rw [tmod_nn _ _ h1.1, tmod_nn _ _ h2.1]
  simp only [u64w]
  refine ⟨by omega, by omega, fun h => ?_, fun h => ?_⟩
  · have h := of_decide_eq_true h
    omega
  · have h := of_decide_eq_false h
    omega
noncomputable def kce : Con TB.den := k3p.fnR (fun x => (fun (p0 : Int) (p1 : Int) (p2 : Int) => p0 = 18446744069414584321 ∧ U64 p1 ∧ U64 p2) x.1 x.2.1 x.2.2.1) fun x => ((fun (p0 : Int) (p1 : Int) (p2 : Int) => (((p1 + p2) % 18446744069414584321) : Int)) x.1 x.2.1 x.2.2.1, ())
theorem kis : kce.Ok Try.prog TB := Con.ok_fn k3p bd114 fun x h => k165 (k158 x.1 x.2.1 x.2.2.1 h)
end Go.Proofs.Ytpffhgljgpjenaa
namespace Go.Proofs.Ytpffhgljgpjenaa
open Go Go.Bv Go.Cv Go.Md Go.RowKit
def k1k : Con TB.den := Con.mk0 136 [.one (.d (.int .u64))] [] (.one (.one (.d (.int .i64)))) []
abbrev kry := HL TB.den (hsT k1k.ins (hsOs k1k.pre))
abbrev k3u := HL TB.den (hsV k1k.res (hsOs k1k.post))
noncomputable def k3t : Cx TB := ⟨inf, [], [], 4⟩
noncomputable def k65 : Code := Try.f136.body.getD .skip
noncomputable def k7r : List ResultVar := Try.f136.results.toList
def k8x : Tm := ⟨[], [], [0, 2], [.one (.d (.int .u64)), .one (.d (.int .i64))], 0⟩
noncomputable def knn (o : k3u) (i : HL TB.den k8x.hs) : Prop := ghs TB [] (k8x.fill TB i) fun s => WP TB k3t 25 0 (cB (cB (cB (cB k65)))) .no s (retTQ TB k3t k1k k7r o)
structure k67 (o : k3u) (i : HL TB.den k8x.hs) : Prop where
  h : knn o i
def kbr : Tm := ⟨[], [], [0, 2], [.one (.d (.int .u64)), .one (.d (.int .i64))], 0⟩
noncomputable def knl (o : k3u) (i : HL TB.den kbr.hs) : Prop := ghs TB [] (kbr.fill TB i) fun s => WP TB k3t 25 0 (cB (cB (cB k65))) (.jn k8x (k67 o) [] .no [] .no) s (retTQ TB k3t k1k k7r o)
structure k7u (o : k3u) (i : HL TB.den kbr.hs) : Prop where
  h : knl o i
noncomputable def kps (o : k3u) : An TB := .jn kbr (k7u o) [] .no [] (.jn k8x (k67 o) [] .no [] .no)
def kbj : Tm := ⟨[], [], [0, 2], [.one (.d (.int .u64)), .one (.d (.int .i64))], 0⟩
noncomputable def knv (o : k3u) (i : HL TB.den kbj.hs) : Prop := ghs TB [] (kbj.fill TB i) fun s => WP TB k3t 25 0 (cB (cB k65)) (kps o) s (retTQ TB k3t k1k k7r o)
structure k7t (o : k3u) (i : HL TB.den kbj.hs) : Prop where
  h : knv o i
noncomputable def k12d (o : k3u) : An TB := .jn kbj (k7t o) [] .no [] (kps o)
noncomputable def kpd (o : k3u) : An TB := .nd [] .no [] (k12d o)
noncomputable def ket (x : kry) (o : k3u) : Prop := WPh TB k3t 25 0 k65 (kpd o) (k1k.st TB x) (retTQ TB k3t k1k k7r o)
set_option maxRecDepth 100000 in
theorem k106 (o : k3u) : OblH TB k3t 25 0 k65 (kpd o) (retTQ TB k3t k1k k7r o) :=
  OblH.of_eq (X := (True ∧ ((True ∧ ((True ∧ True) ∧ True)) ∧ (∀ i, (k7t o) i = (knv o) i) ∧ ((True ∧ ((True ∧ True) ∧ True)) ∧ (∀ i, (k7u o) i = (knl o) i) ∧ ((True ∧ ((True ∧ True) ∧ True)) ∧ (∀ i, (k67 o) i = (knn o) i) ∧ (True ∧ True)))))) (by kernel_rfl) ⟨trivial, ⟨⟨trivial, ⟨⟨trivial, trivial⟩, trivial⟩⟩, fun _ => propext ⟨fun h => h.1, fun h => ⟨h⟩⟩, ⟨⟨trivial, ⟨⟨trivial, trivial⟩, trivial⟩⟩, fun _ => propext ⟨fun h => h.1, fun h => ⟨h⟩⟩, ⟨⟨trivial, ⟨⟨trivial, trivial⟩, trivial⟩⟩, fun _ => propext ⟨fun h => h.1, fun h => ⟨h⟩⟩, ⟨trivial, trivial⟩⟩⟩⟩⟩
set_option maxRecDepth 100000 in
theorem kzj {x : kry} {o : k3u} (h : ket x o) : SoundH Try.prog k1k.f ((k1k.args idf x).map (er TB)) ((k1k.obs idf x).map (erO TB)) (er TB (k1k.val idf o)) ((k1k.ops idf o).map (erO TB)) :=
  Con.soundH (c := k1k) (C := k3t) TBok ⟨inf_ok, all_nil, all_nil⟩ mix Try.func136 (show Try.f136.body = some k65 by kernel_rfl) (show Try.f136.ntmps = 25 by kernel_rfl) (show Try.f136.results.toList = k7r by kernel_rfl) rfl h (k106 o)
set_option maxRecDepth 100000 in
theorem k13a {p0 : Int} {r0 : Int} (h :
((decide (4294967296 ≤ p0) = true →
 k7t (r0, ()) ((ishr .u64 p0 32 : Int), (32 : Int), ())) ∧
(decide (4294967296 ≤ p0) = false →
 k7t (r0, ()) (p0, (0 : Int), ())))) : ket (p0, ()) (r0, ()) := WPh.of_eq (by kernel_rfl) h
set_option maxRecDepth 100000 in
theorem kwz {r0 : Int} {s0 : Int} {s2 : Int} (h :
((decide (65536 ≤ s0) = true →
 k7u (r0, ()) ((ishr .u64 s0 16 : Int), (IntKind.i64.wrap (s2 + 16) : Int), ())) ∧
(decide (65536 ≤ s0) = false →
 k7u (r0, ()) (s0, s2, ())))) : k7t (r0, ()) (s0, s2, ()) := ⟨mpr_of (by kernel_rfl) h⟩
set_option maxRecDepth 100000 in
theorem kvu {r0 : Int} {s0 : Int} {s2 : Int} (h :
((decide (256 ≤ s0) = true →
 k67 (r0, ()) ((ishr .u64 s0 8 : Int), (IntKind.i64.wrap (s2 + 8) : Int), ())) ∧
(decide (256 ≤ s0) = false →
 k67 (r0, ()) (s0, s2, ())))) : k7u (r0, ()) (s0, s2, ()) := ⟨mpr_of (by kernel_rfl) h⟩
set_option maxRecDepth 100000 in
theorem kx6 {r0 : Int} {s0 : Int} {s2 : Int} (h :
((0 ≤ IntKind.u8.wrap s0 ∧ IntKind.u8.wrap s0 < ((⟨#[0, 1, 2, 2, 3, 3, 3, 3, 4, 4, 4, 4, 4, 4, 4, 4, 5, 5, 5, 5, 5, 5, 5, 5, 5, 5, 5, 5, 5, 5, 5, 5, 6, 6, 6, 6, 6, 6, 6, 6, 6, 6, 6, 6, 6, 6, 6, 6, 6, 6, 6, 6, 6, 6, 6, 6, 6, 6, 6, 6, 6, 6, 6, 6, 7, 7, 7, 7, 7, 7, 7, 7, 7, 7, 7, 7, 7, 7, 7, 7, 7, 7, 7, 7, 7, 7, 7, 7, 7, 7, 7, 7, 7, 7, 7, 7, 7, 7, 7, 7, 7, 7, 7, 7, 7, 7, 7, 7, 7, 7, 7, 7, 7, 7, 7, 7, 7, 7, 7, 7, 7, 7, 7, 7, 7, 7, 7, 7, 8, 8, 8, 8, 8, 8, 8, 8, 8, 8, 8, 8, 8, 8, 8, 8, 8, 8, 8, 8, 8, 8, 8, 8, 8, 8, 8, 8, 8, 8, 8, 8, 8, 8, 8, 8, 8, 8, 8, 8, 8, 8, 8, 8, 8, 8, 8, 8, 8, 8, 8, 8, 8, 8, 8, 8, 8, 8, 8, 8, 8, 8, 8, 8, 8, 8, 8, 8, 8, 8, 8, 8, 8, 8, 8, 8, 8, 8, 8, 8, 8, 8, 8, 8, 8, 8, 8, 8, 8, 8, 8, 8, 8, 8, 8, 8, 8, 8, 8, 8, 8, 8, 8, 8, 8, 8, 8, 8, 8, 8, 8, 8, 8, 8, 8, 8, 8, 8, 8, 8, 8, 8, 8, 8, 8, 8, 8, 8]⟩ : ByteArray).size : Int)) ∧ let v1 : Int := byteAt (⟨#[0, 1, 2, 2, 3, 3, 3, 3, 4, 4, 4, 4, 4, 4, 4, 4, 5, 5, 5, 5, 5, 5, 5, 5, 5, 5, 5, 5, 5, 5, 5, 5, 6, 6, 6, 6, 6, 6, 6, 6, 6, 6, 6, 6, 6, 6, 6, 6, 6, 6, 6, 6, 6, 6, 6, 6, 6, 6, 6, 6, 6, 6, 6, 6, 7, 7, 7, 7, 7, 7, 7, 7, 7, 7, 7, 7, 7, 7, 7, 7, 7, 7, 7, 7, 7, 7, 7, 7, 7, 7, 7, 7, 7, 7, 7, 7, 7, 7, 7, 7, 7, 7, 7, 7, 7, 7, 7, 7, 7, 7, 7, 7, 7, 7, 7, 7, 7, 7, 7, 7, 7, 7, 7, 7, 7, 7, 7, 7, 8, 8, 8, 8, 8, 8, 8, 8, 8, 8, 8, 8, 8, 8, 8, 8, 8, 8, 8, 8, 8, 8, 8, 8, 8, 8, 8, 8, 8, 8, 8, 8, 8, 8, 8, 8, 8, 8, 8, 8, 8, 8, 8, 8, 8, 8, 8, 8, 8, 8, 8, 8, 8, 8, 8, 8, 8, 8, 8, 8, 8, 8, 8, 8, 8, 8, 8, 8, 8, 8, 8, 8, 8, 8, 8, 8, 8, 8, 8, 8, 8, 8, 8, 8, 8, 8, 8, 8, 8, 8, 8, 8, 8, 8, 8, 8, 8, 8, 8, 8, 8, 8, 8, 8, 8, 8, 8, 8, 8, 8, 8, 8, 8, 8, 8, 8, 8, 8, 8, 8, 8, 8, 8, 8, 8, 8, 8, 8]⟩ : ByteArray) (IntKind.u8.wrap s0)
 let v2 : Int := IntKind.i64.wrap (s2 + (IntKind.i64.wrap v1))
 v2 = r0)) : k67 (r0, ()) (s0, s2, ()) := ⟨mpr_of (by kernel_rfl) h⟩
theorem bd136 : Callable Try.prog 136 := ⟨by rw [Try.func136]; kernel_rfl, by rw [Try.func136]; show some _ ≠ some _; decide⟩
theorem kxb (p0 : Int) (h : U64 p0) : ket (p0, ()) (((len64 p0) : Int), ()) := by
  have j3 : ∀ s0 s2 : Int, 0 ≤ s0 → s0 < 256 → 0 ≤ s2 → s2 ≤ 56 → k67 (s2 + len64 s0, ()) (s0, s2, ()) := fun s0 s2 h0 h1 h2 h3 => by
    refine kx6 ?_
    have e : IntKind.u8.wrap s0 = s0 := by rw [u8w]; omega
    have l := k16g s0 ⟨h0, h1⟩
    show (0 ≤ IntKind.u8.wrap s0 ∧ IntKind.u8.wrap s0 < (tab8.size : Int)) ∧ IntKind.i64.wrap (s2 + IntKind.i64.wrap (byteAt tab8 (IntKind.u8.wrap s0))) = _
    rw [e, k18m, k14x s0 ⟨h0, h1⟩, wi (len64 s0) (by omega) (by omega), wi (s2 + len64 s0) (by omega) (by omega)]
    exact ⟨⟨h0, h1⟩, rfl⟩
  have j2 : ∀ s0 s2 : Int, 0 ≤ s0 → s0 < 65536 → 0 ≤ s2 → s2 ≤ 48 → k7u (s2 + len64 s0, ()) (s0, s2, ()) := fun s0 s2 h0 h1 h2 h3 => by
    refine kvu ⟨fun h => ?_, fun h => j3 s0 s2 h0 (by simpa using h) h2 (by omega)⟩
    have h := of_decide_eq_true h
    rw [ishr8, wi _ (by omega) (by omega), ← kma s0 8 (by simpa using h), ← Int.add_assoc, Int.add_right_comm]
    exact j3 _ _ (by omega) (by omega) (by omega) (by omega)
  have j1 : ∀ s0 s2 : Int, 0 ≤ s0 → s0 < 4294967296 → 0 ≤ s2 → s2 ≤ 32 → k7t (s2 + len64 s0, ()) (s0, s2, ()) := fun s0 s2 h0 h1 h2 h3 => by
    refine kwz ⟨fun h => ?_, fun h => j2 s0 s2 h0 (by simpa using h) h2 (by omega)⟩
    have h := of_decide_eq_true h
    rw [ishr16, wi _ (by omega) (by omega), ← kma s0 16 (by simpa using h), ← Int.add_assoc, Int.add_right_comm]
    exact j2 _ _ (by omega) (by omega) (by omega) (by omega)
  refine k13a ⟨fun h1 => ?_, fun h1 => ?_⟩
  · have h1 := of_decide_eq_true h1
    rw [ishr32, ← kma p0 32 (by simpa using h1), Int.add_comm]
    exact j1 _ _ (by omega) (by omega) (by omega) (by omega)
  · have := j1 p0 0 h.1 (by simpa using h1) (by omega) (by omega)
    rwa [Int.zero_add] at this
noncomputable def kn7 : Con TB.den := k1k.fnR (fun x => (fun (p0 : Int) => U64 p0) x.1) fun x => ((fun (p0 : Int) => ((len64 p0) : Int)) x.1, ())
theorem k13t : kn7.Ok Try.prog TB := Con.ok_fn k1k bd136 fun x h => kzj (kxb x.1 h)
end Go.Proofs.Ytpffhgljgpjenaa
namespace Go.Proofs.Ytpffhgljgpjenaa
open Go Go.Bv Go.Cv Go.Md Go.RowKit
def ki : Con TB.den := Con.mk0 134 [.one (.d (.int .u64))] [] (.one (.one (.d (.int .i64)))) []
abbrev kdu := HL TB.den (hsT ki.ins (hsOs ki.pre))
abbrev k64 := HL TB.den (hsV ki.res (hsOs ki.post))
noncomputable def k4o : Cx TB := ⟨inf, [kn7], [], 4⟩
noncomputable def k7a : Code := Try.f134.body.getD .skip
noncomputable def k85 : List ResultVar := Try.f134.results.toList
noncomputable def kcf (o : k64) : An TB := .no
noncomputable def k7e (x : kdu) (o : k64) : Prop := WPh TB k4o 6 0 k7a (kcf o) (ki.st TB x) (retTQ TB k4o ki k85 o)
set_option maxRecDepth 100000 in
theorem kkj (o : k64) : OblH TB k4o 6 0 k7a (kcf o) (retTQ TB k4o ki k85 o) :=
  OblH.of_eq (X := (True ∧ (True ∧ True))) (by kernel_rfl) ⟨trivial, ⟨trivial, trivial⟩⟩
set_option maxRecDepth 100000 in
theorem kkr {x : kdu} {o : k64} (h : k7e x o) : SoundH Try.prog ki.f ((ki.args idf x).map (er TB)) ((ki.obs idf x).map (erO TB)) (er TB (ki.val idf o)) ((ki.ops idf o).map (erO TB)) :=
  Con.soundH (c := ki) (C := k4o) TBok ⟨inf_ok, (all_cons k13t all_nil), all_nil⟩ mix Try.func134 (show Try.f134.body = some k7a by kernel_rfl) (show Try.f134.ntmps = 6 by kernel_rfl) (show Try.f134.results.toList = k85 by kernel_rfl) rfl h (kkj o)
set_option maxRecDepth 100000 in
theorem km1 {p0 : Int} {r0 : Int} (h :
((U64 p0) ∧ IntKind.i64.wrap (64 - (len64 p0)) = r0)) : k7e (p0, ()) (r0, ()) := WPh.of_eq (by kernel_rfl) h
theorem bd134 : Callable Try.prog 134 := ⟨by rw [Try.func134]; kernel_rfl, by rw [Try.func134]; show some _ ≠ some _; decide⟩
theorem kka (p0 : Int) (h : 0 < p0 ∧ p0 < 18446744073709551616) : k7e (p0, ()) (((64 - len64 p0) : Int), ()) := by
  obtain ⟨s, e, h1, _⟩ := kyw p0 h
  refine km1 ⟨⟨by omega, h.2⟩, ?_⟩
  exact wi _ (by omega) (by omega)
noncomputable def kbv : Con TB.den := ki.fnR (fun x => (fun (p0 : Int) => 0 < p0 ∧ p0 < 18446744073709551616) x.1) fun x => ((fun (p0 : Int) => ((64 - len64 p0) : Int)) x.1, ())
theorem kme : kbv.Ok Try.prog TB := Con.ok_fn ki bd134 fun x h => kkr (kka x.1 h)
end Go.Proofs.Ytpffhgljgpjenaa
namespace Go.Proofs.Ytpffhgljgpjenaa
open Go Go.Bv Go.Cv Go.Md Go.RowKit
def k1b : Con TB.den := Con.mk0 125 [.one (.d (.int .u64)), .one (.d (.int .u64)), .one (.d (.int .u64))] [] (.tup [.one (.d (.int .u64)), .one (.d (.int .u64))]) []
abbrev ksi := HL TB.den (hsT k1b.ins (hsOs k1b.pre))
abbrev km := HL TB.den (hsV k1b.res (hsOs k1b.post))
noncomputable def k2g : Cx TB := ⟨inf, [kbv], [], 4⟩
noncomputable def k41 : Code := Try.f125.body.getD .skip
noncomputable def k6a : List ResultVar := Try.f125.results.toList
def k91 : Tm := ⟨[], [], [2, 8, 14, 15, 17, 18], [.one (.d (.int .u64)), .one (.d (.int .u64)), .one (.d (.int .u64)), .one (.d (.int .u64)), .one (.d (.int .u64)), .one (.d (.int .u64))], 0⟩
noncomputable def knk (o : km) (i : HL TB.den k91.hs) : Prop := ghs TB [] (k91.fill TB i) fun s => WP TB k2g 135 0 (cB (cB (cB (cB (cB (cB (cB (cB (cB (cB (cB (cB (cB (cB (cB (cB (cB (cB (cB k41))))))))))))))))))) .no s (retTQ TB k2g k1b k6a o)
structure k69 (o : km) (i : HL TB.den k91.hs) : Prop where
  h : knk o i
noncomputable def k12n (o : km) : Exit → TSt TB.den → Prop := thenT TB (fun s => k91.mat TB 0 s (k69 o)) (retTQ TB k2g k1b k6a o)
def k3q : Tm := ⟨[], [], [2, 8, 9, 10, 14, 15, 16, 17, 18], [.one (.d (.int .u64)), .one (.d (.int .u64)), .one (.d (.int .u64)), .one (.d (.int .u64)), .one (.d (.int .u64)), .one (.d (.int .u64)), .one (.d (.int .u64)), .one (.d (.int .u64)), .one (.d (.int .u64))], 0⟩
noncomputable def kpu (o : km) (nx2 : HL TB.den k3q.hs → Prop) : Exit → TSt TB.den → Prop := thenT TB (fun s => k3q.mat TB 0 s nx2) (blockT TB 2 (k12n o))
def k8n : Tm := ⟨[], [], [2, 8, 9, 10, 14, 15, 16, 17, 18], [.one (.d (.int .u64)), .one (.d (.int .u64)), .one (.d (.int .u64)), .one (.d (.int .u64)), .one (.d (.int .u64)), .one (.d (.int .u64)), .one (.d (.int .u64)), .one (.d (.int .u64)), .one (.d (.int .u64))], 0⟩
noncomputable def kmq (o : km) (nx2 : HL TB.den k3q.hs → Prop) (i : HL TB.den k8n.hs) : Prop := ghs TB [] (k8n.fill TB i) fun s => WP TB k2g 135 0 (cB (cA (cA (cA (cB (cB (cB (cB (cB (cB (cB (cB (cB (cB (cB (cB (cB (cB (cB (cB (cB (cB k41)))))))))))))))))))))) .no s (kpu o nx2)
structure k66 (o : km) (nx2 : HL TB.den k3q.hs → Prop) (i : HL TB.den k8n.hs) : Prop where
  h : kmq o nx2 i
noncomputable def k9w (o : km) (nx2 : HL TB.den k3q.hs → Prop) (i : HL TB.den k3q.hs) : Prop := WP TB k2g 135 0 (cA (cA (cA (cB (cB (cB (cB (cB (cB (cB (cB (cB (cB (cB (cB (cB (cB (cB (cB (cB (cB k41))))))))))))))))))))) (.jn k8n (k66 o nx2) [] .no [] .no) (k3q.fill TB i) (kpu o nx2)
noncomputable def k12r (o : km) : An TB := .lp [] k3q (k9w o) fun nx2 => (.jn k8n (k66 o nx2) [] .no [] .no)
noncomputable def k12f (o : km) : An TB := .jn k91 (k69 o) [] (k12r o) [] .no
noncomputable def kqg (o : km) : An TB := .nd [] .no [] (.nd [] .no [] (.nd [] .no [] (k12f o)))
def k8h : Tm := ⟨[], [], [2, 8, 9, 10, 11, 13, 14, 15], [.one (.d (.int .u64)), .one (.d (.int .u64)), .one (.d (.int .u64)), .one (.d (.int .u64)), .one (.d (.int .u64)), .one (.d (.int .u64)), .one (.d (.int .u64)), .one (.d (.int .u64))], 0⟩
noncomputable def kmz (o : km) (i : HL TB.den k8h.hs) : Prop := ghs TB [] (k8h.fill TB i) fun s => WP TB k2g 135 0 (cB (cB (cB (cB (cB (cB (cB (cB (cB (cB (cB (cB (cB (cB (cB k41))))))))))))))) (kqg o) s (retTQ TB k2g k1b k6a o)
structure k6b (o : km) (i : HL TB.den k8h.hs) : Prop where
  h : kmz o i
noncomputable def k131 (o : km) : Exit → TSt TB.den → Prop := thenT TB (fun s => k8h.mat TB 0 s (k6b o)) (retTQ TB k2g k1b k6a o)
def k3s : Tm := ⟨[], [], [2, 8, 9, 10, 11, 13, 14, 15, 16], [.one (.d (.int .u64)), .one (.d (.int .u64)), .one (.d (.int .u64)), .one (.d (.int .u64)), .one (.d (.int .u64)), .one (.d (.int .u64)), .one (.d (.int .u64)), .one (.d (.int .u64)), .one (.d (.int .u64))], 0⟩
noncomputable def kpg (o : km) (nx1 : HL TB.den k3s.hs → Prop) : Exit → TSt TB.den → Prop := thenT TB (fun s => k3s.mat TB 0 s nx1) (blockT TB 0 (k131 o))
def k8f : Tm := ⟨[], [], [2, 8, 9, 10, 11, 13, 14, 15, 16], [.one (.d (.int .u64)), .one (.d (.int .u64)), .one (.d (.int .u64)), .one (.d (.int .u64)), .one (.d (.int .u64)), .one (.d (.int .u64)), .one (.d (.int .u64)), .one (.d (.int .u64)), .one (.d (.int .u64))], 0⟩
noncomputable def knt (o : km) (nx1 : HL TB.den k3s.hs → Prop) (i : HL TB.den k8f.hs) : Prop := ghs TB [] (k8f.fill TB i) fun s => WP TB k2g 135 0 (cB (cA (cA (cA (cB (cB (cB (cB (cB (cB (cB (cB (cB (cB (cB (cB (cB (cB k41)))))))))))))))))) .no s (kpg o nx1)
structure k6d (o : km) (nx1 : HL TB.den k3s.hs → Prop) (i : HL TB.den k8f.hs) : Prop where
  h : knt o nx1 i
noncomputable def k9n (o : km) (nx1 : HL TB.den k3s.hs → Prop) (i : HL TB.den k3s.hs) : Prop := WP TB k2g 135 0 (cA (cA (cA (cB (cB (cB (cB (cB (cB (cB (cB (cB (cB (cB (cB (cB (cB k41))))))))))))))))) (.jn k8f (k6d o nx1) [] .no [] .no) (k3s.fill TB i) (kpg o nx1)
noncomputable def k100 (o : km) : An TB := .lp [] k3s (k9n o) fun nx1 => (.jn k8f (k6d o nx1) [] .no [] .no)
noncomputable def k119 (o : km) : An TB := .jn k8h (k6b o) [] (k100 o) [] (kqg o)
noncomputable def kzm (o : km) : An TB := .nd [] .no [] (.nd [] .no [] (.nd [] .no [] (k119 o)))
noncomputable def kzy (o : km) : An TB := .nd [] .no [] (.nd [] .no [] (.nd [] .no [] (kzm o)))
noncomputable def k10d (o : km) : An TB := .nd [] .no [] (.nd [] .no [] (.nd [] .no [] (kzy o)))
noncomputable def k101 (o : km) : An TB := .nd [] .no [] (.nd [] .no [] (.nd [] .no [] (k10d o)))
noncomputable def kq9 (o : km) : An TB := .nd [] .no [] (.nd [] .no [] (k101 o))
noncomputable def kf8 (x : ksi) (o : km) : Prop := WPh TB k2g 135 0 k41 (kq9 o) (k1b.st TB x) (retTQ TB k2g k1b k6a o)
set_option maxRecDepth 100000 in
theorem k10e (o : km) : OblH TB k2g 135 0 k41 (kq9 o) (retTQ TB k2g k1b k6a o) :=
  OblH.of_eq (X := (True ∧ ((True ∧ (True ∧ True)) ∧ ((True ∧ (True ∧ True)) ∧ ((True ∧ ((True ∧ True) ∧ True)) ∧ (True ∧ (True ∧ (True ∧ (True ∧ (True ∧ (True ∧ (True ∧ (True ∧ (True ∧ (True ∧ (((∀ nx i, (k9n o) nx i = (k9n o) nx i) ∧ ∀ nx1 : HL TB.den k3s.hs → Prop, ((True ∧ (True ∧ True)) ∧ (∀ i, (k6d o nx1) i = (knt o nx1) i) ∧ (True ∧ (True ∧ (True ∧ (True ∧ True)))))) ∧ (∀ i, (k6b o) i = (kmz o) i) ∧ (True ∧ (True ∧ (True ∧ (((∀ nx i, (k9w o) nx i = (k9w o) nx i) ∧ ∀ nx2 : HL TB.den k3q.hs → Prop, ((True ∧ (True ∧ True)) ∧ (∀ i, (k66 o nx2) i = (kmq o nx2) i) ∧ (True ∧ (True ∧ (True ∧ (True ∧ True)))))) ∧ (∀ i, (k69 o) i = (knk o) i) ∧ (True ∧ True))))))))))))))))))))) (by kernel_rfl) ⟨trivial, ⟨⟨trivial, ⟨trivial, trivial⟩⟩, ⟨⟨trivial, ⟨trivial, trivial⟩⟩, ⟨⟨trivial, ⟨⟨trivial, trivial⟩, trivial⟩⟩, ⟨trivial, ⟨trivial, ⟨trivial, ⟨trivial, ⟨trivial, ⟨trivial, ⟨trivial, ⟨trivial, ⟨trivial, ⟨trivial, ⟨⟨fun _ _ => rfl, fun _ => ⟨⟨trivial, ⟨trivial, trivial⟩⟩, fun _ => propext ⟨fun h => h.1, fun h => ⟨h⟩⟩, ⟨trivial, ⟨trivial, ⟨trivial, ⟨trivial, trivial⟩⟩⟩⟩⟩⟩, fun _ => propext ⟨fun h => h.1, fun h => ⟨h⟩⟩, ⟨trivial, ⟨trivial, ⟨trivial, ⟨⟨fun _ _ => rfl, fun _ => ⟨⟨trivial, ⟨trivial, trivial⟩⟩, fun _ => propext ⟨fun h => h.1, fun h => ⟨h⟩⟩, ⟨trivial, ⟨trivial, ⟨trivial, ⟨trivial, trivial⟩⟩⟩⟩⟩⟩, fun _ => propext ⟨fun h => h.1, fun h => ⟨h⟩⟩, ⟨trivial, trivial⟩⟩⟩⟩⟩⟩⟩⟩⟩⟩⟩⟩⟩⟩⟩⟩⟩⟩⟩⟩
set_option maxRecDepth 100000 in
theorem k116 {x : ksi} {o : km} (h : kf8 x o) : SoundH Try.prog k1b.f ((k1b.args idf x).map (er TB)) ((k1b.obs idf x).map (erO TB)) (er TB (k1b.val idf o)) ((k1b.ops idf o).map (erO TB)) :=
  Con.soundH (c := k1b) (C := k2g) TBok ⟨inf_ok, (all_cons kme all_nil), all_nil⟩ mix Try.func125 (show Try.f125.body = some k41 by kernel_rfl) (show Try.f125.ntmps = 135 by kernel_rfl) (show Try.f125.results.toList = k6a by kernel_rfl) rfl h (k10e o)
set_option maxRecDepth 100000 in
theorem k12y {p0 : Int} {p1 : Int} {p2 : Int} {r0 : Int} {r1 : Int} (h :
(((p2 == 0) = true →
 False) ∧
((p2 == 0) = false →
(decide (p2 ≤ p0) = true →
 False) ∧
(decide (p2 ≤ p0) = false →
((p0 == 0) = true →
(p2 ≠ 0) ∧ (p2 ≠ 0) ∧ IntKind.u64.wrap (Int.tdiv p1 p2) = r0 ∧ Int.tmod p1 p2 = r1) ∧
((p0 == 0) = false →
(0 < p2 ∧ p2 < 18446744073709551616) ∧ (0 ≤ IntKind.u64.wrap (64 - len64 p2)) ∧ let v2 : Int := ishl .u64 p2 (IntKind.u64.wrap (64 - len64 p2))
(0 ≤ IntKind.u64.wrap (64 - len64 p2)) ∧ let v3 : Int := ishl .u64 p0 (IntKind.u64.wrap (64 - len64 p2))
 let v4 : Int := IntKind.u64.wrap (64 - (IntKind.u64.wrap (64 - len64 p2)))
(0 ≤ v4) ∧ (0 ≤ IntKind.u64.wrap (64 - len64 p2)) ∧ let v5 : Int := ishl .u64 p1 (IntKind.u64.wrap (64 - len64 p2))
(ishr .u64 v2 32 ≠ 0) ∧ let v6 : Int := IntKind.u64.wrap (Int.tdiv (ior .u64 v3 (ishr .u64 p1 v4)) (ishr .u64 v2 32))
 let v7 : Int := IntKind.u64.wrap (v6 * (ishr .u64 v2 32))
 let v8 : Int := IntKind.u64.wrap ((ior .u64 v3 (ishr .u64 p1 v4)) - v7)
 Md.Loop (v2, (IntKind.u64.wrap (64 - len64 p2) : Int), (ishr .u64 v2 32 : Int), (iand .u64 v2 4294967295 : Int), (ior .u64 v3 (ishr .u64 p1 v4) : Int), (ishr .u64 v5 32 : Int), (iand .u64 v5 4294967295 : Int), v6, v8, ()) (k9n (r0, r1, ()))))))) : kf8 (p0, p1, p2, ()) (r0, r1, ()) := WPh.of_eq (by kernel_rfl) h
set_option maxRecDepth 100000 in
theorem kws {r0 : Int} {r1 : Int} {nx1 : HL TB.den k3s.hs → Prop} {s2 : Int} {s8 : Int} {s9 : Int} {s10 : Int} {s11 : Int} {s13 : Int} {s14 : Int} {s15 : Int} {s16 : Int} (h :
(let v11 : Bool := decide (4294967296 ≤ (IntKind.u64.wrap (s16 + s9)))
(v11 = true →
 k6b (r0, r1, ()) (s2, s8, s9, s10, s11, s13, s14, (IntKind.u64.wrap (s15 - 1) : Int), ())) ∧
(v11 = false →
 nx1 (s2, s8, s9, s10, s11, s13, s14, (IntKind.u64.wrap (s15 - 1) : Int), (IntKind.u64.wrap (s16 + s9) : Int), ())))) : k6d (r0, r1, ()) nx1 (s2, s8, s9, s10, s11, s13, s14, s15, s16, ()) := ⟨mpr_of (by kernel_rfl) h⟩
set_option maxRecDepth 100000 in
theorem kwr {r0 : Int} {r1 : Int} {s2 : Int} {s8 : Int} {s9 : Int} {s10 : Int} {s11 : Int} {s13 : Int} {s14 : Int} {s15 : Int} (h :
(let v12 : Int := IntKind.u64.wrap ((IntKind.u64.wrap (s11 * 4294967296)) + s13)
 let v13 : Int := IntKind.u64.wrap (v12 - (IntKind.u64.wrap (s15 * s2)))
(s9 ≠ 0) ∧ let v14 : Int := IntKind.u64.wrap ((IntKind.u64.wrap (Int.tdiv v13 s9)) * s9)
 Md.Loop (s2, s8, s9, s10, s14, s15, (IntKind.u64.wrap (v13 - v14) : Int), v13, (IntKind.u64.wrap (Int.tdiv v13 s9) : Int), ()) (k9w (r0, r1, ())))) : k6b (r0, r1, ()) (s2, s8, s9, s10, s11, s13, s14, s15, ()) := ⟨mpr_of (by kernel_rfl) h⟩
set_option maxRecDepth 100000 in
theorem kvy {r0 : Int} {r1 : Int} {nx2 : HL TB.den k3q.hs → Prop} {s2 : Int} {s8 : Int} {s9 : Int} {s10 : Int} {s14 : Int} {s15 : Int} {s16 : Int} {s17 : Int} {s18 : Int} (h :
(let v17 : Bool := decide (4294967296 ≤ (IntKind.u64.wrap (s16 + s9)))
(v17 = true →
 k69 (r0, r1, ()) (s2, s8, s14, s15, s17, (IntKind.u64.wrap (s18 - 1) : Int), ())) ∧
(v17 = false →
 nx2 (s2, s8, s9, s10, s14, s15, (IntKind.u64.wrap (s16 + s9) : Int), s17, (IntKind.u64.wrap (s18 - 1) : Int), ())))) : k66 (r0, r1, ()) nx2 (s2, s8, s9, s10, s14, s15, s16, s17, s18, ()) := ⟨mpr_of (by kernel_rfl) h⟩
set_option maxRecDepth 100000 in
theorem kwf {r0 : Int} {r1 : Int} {s2 : Int} {s8 : Int} {s14 : Int} {s15 : Int} {s17 : Int} {s18 : Int} (h :
(let v18 : Int := IntKind.u64.wrap ((IntKind.u64.wrap (s15 * 4294967296)) + s18)
 let v19 : Int := IntKind.u64.wrap ((IntKind.u64.wrap (s17 * 4294967296)) + s14)
 let v20 : Int := IntKind.u64.wrap (v19 - (IntKind.u64.wrap (s18 * s2)))
(0 ≤ s8) ∧ v18 = r0 ∧ ishr .u64 v20 s8 = r1)) : k69 (r0, r1, ()) (s2, s8, s14, s15, s17, s18, ()) := ⟨mpr_of (by kernel_rfl) h⟩
def kpi (r0 : Int) (r1 : Int) (nx1 : HL TB.den k3s.hs → Prop) (k1 : Int → Int → Prop) (s2 : Int) (s8 : Int) (s9 : Int) (s10 : Int) (s11 : Int) (s13 : Int) (s14 : Int) (s15 : Int) (s16 : Int) : Prop :=
(decide (4294967296 ≤ s15) = true →
 k6d (r0, r1, ()) nx1 (s2, s8, s9, s10, s11, s13, s14, s15, s16, ())) ∧
(decide (4294967296 ≤ s15) = false →
 let v9 : Int := IntKind.u64.wrap ((IntKind.u64.wrap (4294967296 * s16)) + s13)
 let v10 : Bool := decide (v9 < (IntKind.u64.wrap (s15 * s10)))
(v10 = true →
 k6d (r0, r1, ()) nx1 (s2, s8, s9, s10, s11, s13, s14, s15, s16, ())) ∧
(v10 = false →
 k6b (r0, r1, ()) (s2, s8, s9, s10, s11, s13, s14, s15, ())))
set_option maxRecDepth 100000 in
theorem kzq {r0 : Int} {r1 : Int} {s2 : Int} {s8 : Int} {s9 : Int} {s10 : Int} {s11 : Int} {s13 : Int} {s14 : Int} {s15 : Int} {s16 : Int} (inv : Int → Int → Prop) (μ : Int → Int → Nat) (h0 : inv s15 s16) (hs : ∀ (s15 : Int) (s16 : Int), inv s15 s16 → kpi r0 r1 (fun s : Int × Int × Int × Int × Int × Int × Int × Int × Int × Unit => ((s.1 = s2 ∧ s.2.1 = s8 ∧ s.2.2.1 = s9 ∧ s.2.2.2.1 = s10 ∧ s.2.2.2.2.1 = s11 ∧ s.2.2.2.2.2.1 = s13 ∧ s.2.2.2.2.2.2.1 = s14) ∧ inv s.2.2.2.2.2.2.2.1 s.2.2.2.2.2.2.2.2.1) ∧ μ s.2.2.2.2.2.2.2.1 s.2.2.2.2.2.2.2.2.1 < μ s15 s16) (fun s15q s16q => inv s15q s16q ∧ μ s15q s16q < μ s15 s16) s2 s8 s9 s10 s11 s13 s14 s15 s16) : Md.Loop (s2, s8, s9, s10, s11, s13, s14, s15, s16, ()) (k9n (r0, r1, ())) :=
  ⟨⟨fun s : Int × Int × Int × Int × Int × Int × Int × Int × Int × Unit => (s.1 = s2 ∧ s.2.1 = s8 ∧ s.2.2.1 = s9 ∧ s.2.2.2.1 = s10 ∧ s.2.2.2.2.1 = s11 ∧ s.2.2.2.2.2.1 = s13 ∧ s.2.2.2.2.2.2.1 = s14) ∧ inv s.2.2.2.2.2.2.2.1 s.2.2.2.2.2.2.2.2.1, fun s : Int × Int × Int × Int × Int × Int × Int × Int × Int × Unit => μ s.2.2.2.2.2.2.2.1 s.2.2.2.2.2.2.2.2.1, ⟨⟨rfl, rfl, rfl, rfl, rfl, rfl, rfl⟩, h0⟩, fun (s2p, s8p, s9p, s10p, s11p, s13p, s14p, s15p, s16p, ()) ⟨⟨eq0, eq1, eq2, eq3, eq4, eq5, eq6⟩, hi⟩ => by
    have eq0 : s2p = s2 := eq0; subst s2p; have eq1 : s8p = s8 := eq1; subst s8p; have eq2 : s9p = s9 := eq2; subst s9p; have eq3 : s10p = s10 := eq3; subst s10p; have eq4 : s11p = s11 := eq4; subst s11p; have eq5 : s13p = s13 := eq5; subst s13p; have eq6 : s14p = s14 := eq6; subst s14p; exact mpr_of (by kernel_rfl) ((congrArg (fun k => kpi r0 r1 (fun s : Int × Int × Int × Int × Int × Int × Int × Int × Int × Unit => ((s.1 = s2 ∧ s.2.1 = s8 ∧ s.2.2.1 = s9 ∧ s.2.2.2.1 = s10 ∧ s.2.2.2.2.1 = s11 ∧ s.2.2.2.2.2.1 = s13 ∧ s.2.2.2.2.2.2.1 = s14) ∧ inv s.2.2.2.2.2.2.2.1 s.2.2.2.2.2.2.2.2.1) ∧ μ s.2.2.2.2.2.2.2.1 s.2.2.2.2.2.2.2.2.1 < μ s15p s16p) k s2 s8 s9 s10 s11 s13 s14 s15p s16p) (lpk2 (⟨rfl, rfl, rfl, rfl, rfl, rfl, rfl⟩ : s2 = s2 ∧ s8 = s8 ∧ s9 = s9 ∧ s10 = s10 ∧ s11 = s11 ∧ s13 = s13 ∧ s14 = s14) inv (fun s15q s16q => μ s15q s16q < μ s15p s16p))).mpr (hs s15p s16p hi))⟩⟩
def kpz (r0 : Int) (r1 : Int) (nx2 : HL TB.den k3q.hs → Prop) (k2 : Int → Int → Prop) (s2 : Int) (s8 : Int) (s9 : Int) (s10 : Int) (s14 : Int) (s15 : Int) (s17 : Int) (s16 : Int) (s18 : Int) : Prop :=
(decide (4294967296 ≤ s18) = true →
 k66 (r0, r1, ()) nx2 (s2, s8, s9, s10, s14, s15, s16, s17, s18, ())) ∧
(decide (4294967296 ≤ s18) = false →
 let v15 : Int := IntKind.u64.wrap ((IntKind.u64.wrap (4294967296 * s16)) + s14)
 let v16 : Bool := decide (v15 < (IntKind.u64.wrap (s18 * s10)))
(v16 = true →
 k66 (r0, r1, ()) nx2 (s2, s8, s9, s10, s14, s15, s16, s17, s18, ())) ∧
(v16 = false →
 k69 (r0, r1, ()) (s2, s8, s14, s15, s17, s18, ())))
set_option maxRecDepth 100000 in
theorem k107 {r0 : Int} {r1 : Int} {s2 : Int} {s8 : Int} {s9 : Int} {s10 : Int} {s14 : Int} {s15 : Int} {s17 : Int} {s16 : Int} {s18 : Int} (inv : Int → Int → Prop) (μ : Int → Int → Nat) (h0 : inv s16 s18) (hs : ∀ (s16 : Int) (s18 : Int), inv s16 s18 → kpz r0 r1 (fun s : Int × Int × Int × Int × Int × Int × Int × Int × Int × Unit => ((s.1 = s2 ∧ s.2.1 = s8 ∧ s.2.2.1 = s9 ∧ s.2.2.2.1 = s10 ∧ s.2.2.2.2.1 = s14 ∧ s.2.2.2.2.2.1 = s15 ∧ s.2.2.2.2.2.2.2.1 = s17) ∧ inv s.2.2.2.2.2.2.1 s.2.2.2.2.2.2.2.2.1) ∧ μ s.2.2.2.2.2.2.1 s.2.2.2.2.2.2.2.2.1 < μ s16 s18) (fun s16q s18q => inv s16q s18q ∧ μ s16q s18q < μ s16 s18) s2 s8 s9 s10 s14 s15 s17 s16 s18) : Md.Loop (s2, s8, s9, s10, s14, s15, s16, s17, s18, ()) (k9w (r0, r1, ())) :=
  ⟨⟨fun s : Int × Int × Int × Int × Int × Int × Int × Int × Int × Unit => (s.1 = s2 ∧ s.2.1 = s8 ∧ s.2.2.1 = s9 ∧ s.2.2.2.1 = s10 ∧ s.2.2.2.2.1 = s14 ∧ s.2.2.2.2.2.1 = s15 ∧ s.2.2.2.2.2.2.2.1 = s17) ∧ inv s.2.2.2.2.2.2.1 s.2.2.2.2.2.2.2.2.1, fun s : Int × Int × Int × Int × Int × Int × Int × Int × Int × Unit => μ s.2.2.2.2.2.2.1 s.2.2.2.2.2.2.2.2.1, ⟨⟨rfl, rfl, rfl, rfl, rfl, rfl, rfl⟩, h0⟩, fun (s2p, s8p, s9p, s10p, s14p, s15p, s16p, s17p, s18p, ()) ⟨⟨eq0, eq1, eq2, eq3, eq4, eq5, eq6⟩, hi⟩ => by
    have eq0 : s2p = s2 := eq0; subst s2p; have eq1 : s8p = s8 := eq1; subst s8p; have eq2 : s9p = s9 := eq2; subst s9p; have eq3 : s10p = s10 := eq3; subst s10p; have eq4 : s14p = s14 := eq4; subst s14p; have eq5 : s15p = s15 := eq5; subst s15p; have eq6 : s17p = s17 := eq6; subst s17p; exact mpr_of (by kernel_rfl) ((congrArg (fun k => kpz r0 r1 (fun s : Int × Int × Int × Int × Int × Int × Int × Int × Int × Unit => ((s.1 = s2 ∧ s.2.1 = s8 ∧ s.2.2.1 = s9 ∧ s.2.2.2.1 = s10 ∧ s.2.2.2.2.1 = s14 ∧ s.2.2.2.2.2.1 = s15 ∧ s.2.2.2.2.2.2.2.1 = s17) ∧ inv s.2.2.2.2.2.2.1 s.2.2.2.2.2.2.2.2.1) ∧ μ s.2.2.2.2.2.2.1 s.2.2.2.2.2.2.2.2.1 < μ s16p s18p) k s2 s8 s9 s10 s14 s15 s17 s16p s18p) (lpk2 (⟨rfl, rfl, rfl, rfl, rfl, rfl, rfl⟩ : s2 = s2 ∧ s8 = s8 ∧ s9 = s9 ∧ s10 = s10 ∧ s14 = s14 ∧ s15 = s15 ∧ s17 = s17) inv (fun s16q s18q => μ s16q s18q < μ s16p s18p))).mpr (hs s16p s18p hi))⟩⟩
theorem bd125 : Callable Try.prog 125 := ⟨by rw [Try.func125]; kernel_rfl, by rw [Try.func125]; show some _ ≠ some _; decide⟩
theorem ky9 (p0 : Int) (p1 : Int) (p2 : Int) (h : U64 p0 ∧ U64 p1 ∧ U64 p2 ∧ p0 < p2) : kf8 (p0, p1, p2, ()) ((((p0 * 18446744073709551616 + p1) / p2) : Int), (((p0 * 18446744073709551616 + p1) % p2) : Int), ()) := by
  obtain ⟨h0, h1, h2, hlt⟩ := h
  refine k12y ⟨fun e => ?_, fun _ => ⟨fun e => ?_, fun _ => ⟨fun e => ?_, fun _ => ?_⟩⟩⟩
  · simp at e; omega
  · simp at e; omega
  · have e : p0 = 0 := by simpa using e
    subst e
    rw [tdiv_nn _ _ h1.1, tmod_nn _ _ h1.1, Int.zero_mul, Int.zero_add]
    have := Int.ediv_le_self p2 h1.1
    have := Int.ediv_nonneg h1.1 h2.1
    exact ⟨by omega, by omega, wu _ (by omega) (by have := Int.ediv_le_self p2 h1.1; omega), rfl⟩
  obtain ⟨s, e, hs, n1, n2⟩ := kyw p2 ⟨by omega, h2.2⟩
  have ew : IntKind.u64.wrap (64 - len64 p2) = (s : Int) := by rw [e, wu _ (by omega) (by omega)]
  have ew3 : IntKind.u64.wrap (64 - (s : Int)) = ((64 - s : Nat) : Int) := by rw [wu _ (by omega) (by omega)]; omega
  have hp : 0 < 2 ^ s := Nat.two_pow_pos s
  have hp' : 0 < 2 ^ (64 - s) := Nat.two_pow_pos _
  have hpp : 2 ^ s * 2 ^ (64 - s) = 18446744073709551616 := by rw [← Nat.pow_add, show s + (64 - s) = 64 by omega]
  have hP : ((2 ^ s : Nat) : Int) * ((2 ^ (64 - s) : Nat) : Int) = 18446744073709551616 := by rw [← Int.natCast_mul, hpp]; rfl
  have il : ∀ a : Int, ishl .u64 a (s : Int) = a * ((2 ^ s : Nat) : Int) % 18446744073709551616 := fun a => by rw [k19u, Int.toNat_natCast, Nat.min_eq_left (by omega)]
  have ir : ∀ a : Int, ishr .u64 a (s : Int) = a / ((2 ^ s : Nat) : Int) := fun a => by rw [kdo, Int.toNat_natCast, show min s IntKind.u64.bits = s from Nat.min_eq_left (by show s ≤ 64; omega)]
  have ir' : ∀ a : Int, ishr .u64 a ((64 - s : Nat) : Int) = a / ((2 ^ (64 - s) : Nat) : Int) := fun a => by rw [kdo, Int.toNat_natCast, show min (64 - s) IntKind.u64.bits = 64 - s from Nat.min_eq_left (by show 64 - s ≤ 64; omega)]
  have hor : ∀ c : Int, 0 ≤ c → c < ((2 ^ s : Nat) : Int) → p0 * ((2 ^ s : Nat) : Int) + c < 18446744073709551616 → ior .u64 (p0 * ((2 ^ s : Nat) : Int)) c = p0 * ((2 ^ s : Nat) : Int) + c := by
    intro c hc0 hc1 hc2
    obtain ⟨a, rfl⟩ := Int.eq_ofNat_of_zero_le h0.1
    obtain ⟨c, rfl⟩ := Int.eq_ofNat_of_zero_le hc0
    have key := ior_add' c a s (by omega)
    rw [Int.mul_comm, ← Int.natCast_mul] at hc2 ⊢
    rw [key (by omega)]
    omega
  simp only [ew, ew3, il, ir', ishr32]
  have hP'0 : (0 : Int) < ((2 ^ (64 - s) : Nat) : Int) := by omega
  generalize hPd : ((2 ^ s : Nat) : Int) = P at *
  generalize hPd' : ((2 ^ (64 - s) : Nat) : Int) = P' at *
  have hP0 : 0 < P := by omega
  have hlo : p1 / P' < P := Int.ediv_lt_of_lt_mul hP'0 (by omega)
  have hlo0 : 0 ≤ p1 / P' := Int.ediv_nonneg h1.1 (by omega)
  have hUv : p0 * P + P ≤ p2 * P := by
    have : (p0 + 1) * P ≤ p2 * P := Int.mul_le_mul_of_nonneg_right (by omega) (by omega)
    grind
  have hUp : 0 ≤ p0 * P := Int.mul_nonneg h0.1 (by omega)
  rw [Int.emod_eq_of_lt (a := p2 * P) (by omega) n2, Int.emod_eq_of_lt (a := p0 * P) hUp (by omega), hor _ hlo0 hlo (by omega)]
  have hN : (p0 * 18446744073709551616 + p1) * P = (p0 * P + p1 / P') * 18446744073709551616 + (p1 * P % 18446744073709551616 / 4294967296) * 4294967296 + p1 * P % 18446744073709551616 % 4294967296 := by
    have h5 : p1 * P / 18446744073709551616 = p1 / P' := by
      rw [← hP, Int.mul_comm p1 P, Int.mul_ediv_mul_of_pos _ _ hP0]
    have h6 := Int.emod_add_mul_ediv (p1 * P) 18446744073709551616
    rw [h5] at h6
    have : (p0 * 18446744073709551616 + p1) * P = p0 * P * 18446744073709551616 + p1 * P := by grind
    rw [this]
    generalize p1 * P = w at *
    generalize p0 * P = w' at *
    omega
  have hlb : 0 ≤ p1 * P % 18446744073709551616 ∧ p1 * P % 18446744073709551616 < 18446744073709551616 := ⟨Int.emod_nonneg _ (by omega), Int.emod_lt_of_pos _ (by omega)⟩
  generalize hUd : p0 * P + p1 / P' = U at *
  generalize hLd : p1 * P % 18446744073709551616 = L at *
  have hVd : p2 * P / 4294967296 * 4294967296 + p2 * P % 4294967296 = p2 * P := by omega
  have hw : ∀ {Q R V' : Int} , R - Q = V' → 0 ≤ V' → V' < 18446744073709551616 → ∀ A, R = A * 4294967296 + (R - A * 4294967296) → IntKind.u64.wrap (IntKind.u64.wrap (IntKind.u64.wrap (A * 4294967296) + (R - A * 4294967296)) - IntKind.u64.wrap Q) = V' := by
    intro Q R V' hv h0 h1 A hA
    simp only [u64w]
    omega
  rw [kcn (p2 * P) (by omega), kcn L (by omega)]
  generalize ha : p2 * P / 4294967296 = a at *
  generalize hb : p2 * P % 4294967296 = b at *
  have hQ1 : Half U (L / 4294967296) a b ((U * 4294967296 + L / 4294967296) / (a * 4294967296 + b)) := ⟨by omega, by omega, by omega, by omega, by omega, rfl⟩
  have hr1 := hQ1.rest
  have hq1 := hQ1.q
  generalize (U * 4294967296 + L / 4294967296) / (a * 4294967296 + b) = Q1 at *
  generalize (U * 4294967296 + L / 4294967296) % (a * 4294967296 + b) = R1 at *
  have hQ0 : Half R1 (L % 4294967296) a b ((R1 * 4294967296 + L % 4294967296) / (a * 4294967296 + b)) := ⟨by omega, by omega, by omega, by omega, by omega, rfl⟩
  have hr0 := hQ0.rest
  have hq0 := hQ0.q
  generalize (R1 * 4294967296 + L % 4294967296) / (a * 4294967296 + b) = Q0 at *
  generalize (R1 * 4294967296 + L % 4294967296) % (a * 4294967296 + b) = R0 at *
  rw [hVd] at hr1 hr0 hq1 hq0
  have fin := k17r hP0 (by omega : 0 < p2) hN hr1.1 hr0.1 ⟨hr0.2.1, hr0.2.2⟩
  have j4 : k69 (((p0 * 18446744073709551616 + p1) / p2 : Int), ((p0 * 18446744073709551616 + p1) % p2 : Int), ()) ((p2 * P : Int), (s : Int), (L % 4294967296 : Int), Q1, R1, Q0, ()) := by
    refine kwf ⟨by omega, ?_, ?_⟩
    · rw [wu (Q1 * 4294967296) (by omega) (by omega), wu _ (by omega) (by omega)]
      exact fin.1
    · have := hw (Q := Q0 * (p2 * P)) (R := R1 * 4294967296 + L % 4294967296) hr0.1 hr0.2.1 (by omega) R1 (by omega)
      rw [show R1 * 4294967296 + L % 4294967296 - R1 * 4294967296 = L % 4294967296 by omega] at this
      rw [this, ir]
      exact fin.2
  have aux : ∀ {U x Q q r : Int}, Half U x a b Q → U < 18446744073709551616 → q * a + r = U → Q ≤ q → 0 ≤ r → q ≤ 8589934592 := by
    intro U x Q q r hh hU e hQ hr
    have h1 := hh.ha
    refine Int.le_of_lt_add_one (Int.lt_of_mul_lt_mul_right (a := a) ?_ (by omega))
    generalize q * a = w at *
    omega
  have init : ∀ {U x Q : Int}, Half U x a b Q → Q ≤ U / a := by
    intro U x Q hh
    have h1 := hh.ha
    have h2 := hh.q
    have h3 := hh.hb
    have h4 := hh.hx
    refine (Int.le_ediv_iff_mul_le (by omega)).2 ?_
    have h5 : Q * (a * 4294967296 + b) = Q * a * 4294967296 + Q * b := by grind
    have h6 : 0 ≤ Q * b := Int.mul_nonneg h2.1 h3.1
    generalize Q * a = w at *
    omega
  have j2 : k6b (((p0 * 18446744073709551616 + p1) / p2 : Int), ((p0 * 18446744073709551616 + p1) % p2 : Int), ()) ((p2 * P : Int), (s : Int), a, b, U, (L / 4294967296 : Int), (L % 4294967296 : Int), Q1, ()) := by
    have e1 := hw (Q := Q1 * (p2 * P)) (R := U * 4294967296 + L / 4294967296) hr1.1 hr1.2.1 (by omega) U (by omega)
    rw [show U * 4294967296 + L / 4294967296 - U * 4294967296 = L / 4294967296 by omega] at e1
    refine kwr ?_
    simp only [e1]
    have hd := Int.emod_add_mul_ediv R1 a
    have hd1 := Int.emod_nonneg R1 (by omega : a ≠ 0)
    have hd2 := Int.emod_lt_of_pos R1 (by omega : 0 < a)
    have hd3 : 0 ≤ R1 / a := Int.ediv_nonneg hr1.2.1 (by omega)
    rw [Int.mul_comm] at hd
    have hd5 : 0 ≤ R1 / a * a := Int.mul_nonneg hd3 (by omega)
    have hd4 := aux hQ0 (by omega) (q := R1 / a) (r := R1 % a) (by omega) (init hQ0) hd1
    rw [tdiv_nn _ _ hr1.2.1, wu (R1 / a) (by omega) (by omega), wu (R1 / a * a) (by omega) (by omega), show R1 - R1 / a * a = R1 % a by omega, wu (R1 % a) (by omega) (by omega)]
    refine ⟨by omega, ?_⟩
    refine k107 (fun r q => q * a + r = R1 ∧ Q0 ≤ q ∧ 0 ≤ r ∧ r < 4294967296) (fun r q => q.toNat) ⟨by omega, init hQ0, hd1, by omega⟩ ?_
    rintro r q ⟨g1, g2, g3, g4⟩
    have g5 := aux hQ0 (by omega) g1 g2 g3
    have j3 : ∀ nx, (Q0 ≤ q - 1) → (r + a < 4294967296 → nx ((p2 * P : Int), (s : Int), a, b, (L % 4294967296 : Int), Q1, (r + a : Int), R1, (q - 1 : Int), ())) → k66 (((p0 * 18446744073709551616 + p1) / p2 : Int), ((p0 * 18446744073709551616 + p1) % p2 : Int), ()) nx ((p2 * P : Int), (s : Int), a, b, (L % 4294967296 : Int), Q1, r, R1, q, ()) := by
      intro nx hq hnx
      refine kvy ?_
      rw [wu (q - 1) (by omega) (by omega), wu (r + a) (by omega) (by omega)]
      refine ⟨fun hd => ?_, fun hd => hnx (by simpa using hd)⟩
      have hd : 4294967296 ≤ r + a := of_decide_eq_true hd
      rw [hQ0.done (q := q - 1) (r := r + a) (by grind) hq hd]
      exact j4
    have nxt : Q0 ≤ q - 1 → r + a < 4294967296 → ((q - 1) * a + (r + a) = R1 ∧ Q0 ≤ q - 1 ∧ 0 ≤ r + a ∧ r + a < 4294967296) ∧ (q - 1).toNat < q.toNat := fun h1 h2 => ⟨⟨by grind, h1, by omega, h2⟩, by omega⟩
    refine ⟨fun hd => j3 _ (hQ0.down g1 (.inl (of_decide_eq_true hd))) fun h1 => ?_, fun hd => ?_⟩
    · obtain ⟨n1, n2⟩ := nxt (hQ0.down g1 (.inl (of_decide_eq_true hd))) h1
      exact ⟨⟨⟨rfl, rfl, rfl, rfl, rfl, rfl, rfl⟩, n1⟩, n2⟩
    · have hd : q < 4294967296 := by simpa using hd
      have hqb : 0 ≤ q * b ∧ q * b < 18446744073709551616 := by
        have := hQ0.hb
        have h1 : q * b ≤ 4294967295 * 4294967295 := Int.mul_le_mul (by omega) (by omega) (by omega) (by omega)
        exact ⟨Int.mul_nonneg (by omega) (by omega), by omega⟩
      have := hQ0.hx
      rw [wu (q * b) (by omega) (by omega), wu (4294967296 * r) (by omega) (by omega), wu (4294967296 * r + L % 4294967296) (by omega) (by omega)]
      refine ⟨fun ht => ?_, fun ht => ?_⟩
      · have ht : 4294967296 * r + L % 4294967296 < q * b := of_decide_eq_true ht
        have hdn := hQ0.down g1 (.inr (by omega))
        refine j3 _ hdn fun h1 => ?_
        obtain ⟨n1, n2⟩ := nxt hdn h1
        exact ⟨⟨⟨rfl, rfl, rfl, rfl, rfl, rfl, rfl⟩, n1⟩, n2⟩
      · have ht : ¬ (4294967296 * r + L % 4294967296 < q * b) := of_decide_eq_false ht
        rw [hQ0.exit g1 g2 (by omega)]
        exact j4
  have hd := Int.emod_add_mul_ediv U a
  have hd1 := Int.emod_nonneg U (by omega : a ≠ 0)
  have hd2 := Int.emod_lt_of_pos U (by omega : 0 < a)
  have hd3 : 0 ≤ U / a := Int.ediv_nonneg (by omega) (by omega)
  rw [Int.mul_comm] at hd
  have hd5 : 0 ≤ U / a * a := Int.mul_nonneg hd3 (by omega)
  have hd4 := aux hQ1 (by omega) (q := U / a) (r := U % a) (by omega) (init hQ1) hd1
  rw [tdiv_nn _ _ (by omega), wu (U / a) (by omega) (by omega), wu (U / a * a) (by omega) (by omega), show U - U / a * a = U % a by omega, wu (U % a) (by omega) (by omega)]
  refine ⟨⟨by omega, h2.2⟩, by omega, by omega, by omega, by omega, by omega, ?_⟩
  refine kzq (fun q r => q * a + r = U ∧ Q1 ≤ q ∧ 0 ≤ r ∧ r < 4294967296) (fun q r => q.toNat) ⟨by omega, init hQ1, hd1, by omega⟩ ?_
  rintro q r ⟨g1, g2, g3, g4⟩
  have g5 := aux hQ1 (by omega) g1 g2 g3
  have j1 : ∀ nx, (Q1 ≤ q - 1) → (r + a < 4294967296 → nx ((p2 * P : Int), (s : Int), a, b, U, (L / 4294967296 : Int), (L % 4294967296 : Int), (q - 1 : Int), (r + a : Int), ())) → k6d (((p0 * 18446744073709551616 + p1) / p2 : Int), ((p0 * 18446744073709551616 + p1) % p2 : Int), ()) nx ((p2 * P : Int), (s : Int), a, b, U, (L / 4294967296 : Int), (L % 4294967296 : Int), q, r, ()) := by
    intro nx hq hnx
    refine kws ?_
    rw [wu (q - 1) (by omega) (by omega), wu (r + a) (by omega) (by omega)]
    refine ⟨fun hd => ?_, fun hd => hnx (by simpa using hd)⟩
    have hd : 4294967296 ≤ r + a := of_decide_eq_true hd
    rw [hQ1.done (q := q - 1) (r := r + a) (by grind) hq hd]
    exact j2
  have nxt : Q1 ≤ q - 1 → r + a < 4294967296 → ((q - 1) * a + (r + a) = U ∧ Q1 ≤ q - 1 ∧ 0 ≤ r + a ∧ r + a < 4294967296) ∧ (q - 1).toNat < q.toNat := fun h1 h2 => ⟨⟨by grind, h1, by omega, h2⟩, by omega⟩
  refine ⟨fun hd => j1 _ (hQ1.down g1 (.inl (of_decide_eq_true hd))) fun h1 => ?_, fun hd => ?_⟩
  · obtain ⟨n1, n2⟩ := nxt (hQ1.down g1 (.inl (of_decide_eq_true hd))) h1
    exact ⟨⟨⟨rfl, rfl, rfl, rfl, rfl, rfl, rfl⟩, n1⟩, n2⟩
  · have hd : q < 4294967296 := by simpa using hd
    have hqb : 0 ≤ q * b ∧ q * b < 18446744073709551616 := by
      have := hQ1.hb
      have h1 : q * b ≤ 4294967295 * 4294967295 := Int.mul_le_mul (by omega) (by omega) (by omega) (by omega)
      exact ⟨Int.mul_nonneg (by omega) (by omega), by omega⟩
    have := hQ1.hx
    rw [wu (q * b) (by omega) (by omega), wu (4294967296 * r) (by omega) (by omega), wu (4294967296 * r + L / 4294967296) (by omega) (by omega)]
    refine ⟨fun ht => ?_, fun ht => ?_⟩
    · have ht : 4294967296 * r + L / 4294967296 < q * b := of_decide_eq_true ht
      have hdn := hQ1.down g1 (.inr (by omega))
      refine j1 _ hdn fun h1 => ?_
      obtain ⟨n1, n2⟩ := nxt hdn h1
      exact ⟨⟨⟨rfl, rfl, rfl, rfl, rfl, rfl, rfl⟩, n1⟩, n2⟩
    · have ht : ¬ (4294967296 * r + L / 4294967296 < q * b) := of_decide_eq_false ht
      rw [hQ1.exit g1 g2 (by omega)]
      exact j2
noncomputable def kfp : Con TB.den := k1b.fnR (fun x => (fun (p0 : Int) (p1 : Int) (p2 : Int) => U64 p0 ∧ U64 p1 ∧ U64 p2 ∧ p0 < p2) x.1 x.2.1 x.2.2.1) fun x => ((fun (p0 : Int) (p1 : Int) (p2 : Int) => (((p0 * 18446744073709551616 + p1) / p2) : Int)) x.1 x.2.1 x.2.2.1, (fun (p0 : Int) (p1 : Int) (p2 : Int) => (((p0 * 18446744073709551616 + p1) % p2) : Int)) x.1 x.2.1 x.2.2.1, ())
theorem kq1 : kfp.Ok Try.prog TB := Con.ok_fn k1b bd125 fun x h => k116 (ky9 x.1 x.2.1 x.2.2.1 h)
end Go.Proofs.Ytpffhgljgpjenaa
namespace Go.Proofs.Ytpffhgljgpjenaa
open Go Go.Bv Go.Cv Go.Md Go.RowKit
def k2f : Con TB.den := Con.mk0 124 [.one (.d (.int .u64)), .one (.d (.int .u64))] [] (.tup [.one (.d (.int .u64)), .one (.d (.int .u64))]) []
abbrev krx := HL TB.den (hsT k2f.ins (hsOs k2f.pre))
abbrev kf4 := HL TB.den (hsV k2f.res (hsOs k2f.post))
noncomputable def k9u : Cx TB := ⟨inf, [], [], 4⟩
noncomputable def kel : Code := Try.f124.body.getD .skip
noncomputable def khn : List ResultVar := Try.f124.results.toList
noncomputable def kq2 (o : kf4) : An TB := .no
noncomputable def ke4 (x : krx) (o : kf4) : Prop := WPh TB k9u 51 0 kel (kq2 o) (k2f.st TB x) (retTQ TB k9u k2f khn o)
set_option maxRecDepth 100000 in
theorem k114 (o : kf4) : OblH TB k9u 51 0 kel (kq2 o) (retTQ TB k9u k2f khn o) :=
  OblH.of_eq (X := (True ∧ (True ∧ (True ∧ (True ∧ (True ∧ (True ∧ (True ∧ (True ∧ (True ∧ (True ∧ (True ∧ (True ∧ True))))))))))))) (by kernel_rfl) ⟨trivial, ⟨trivial, ⟨trivial, ⟨trivial, ⟨trivial, ⟨trivial, ⟨trivial, ⟨trivial, ⟨trivial, ⟨trivial, ⟨trivial, ⟨trivial, trivial⟩⟩⟩⟩⟩⟩⟩⟩⟩⟩⟩⟩
set_option maxRecDepth 100000 in
theorem kzo {x : krx} {o : kf4} (h : ke4 x o) : SoundH Try.prog k2f.f ((k2f.args idf x).map (er TB)) ((k2f.obs idf x).map (erO TB)) (er TB (k2f.val idf o)) ((k2f.ops idf o).map (erO TB)) :=
  Con.soundH (c := k2f) (C := k9u) TBok ⟨inf_ok, all_nil, all_nil⟩ mix Try.func124 (show Try.f124.body = some kel by kernel_rfl) (show Try.f124.ntmps = 51 by kernel_rfl) (show Try.f124.results.toList = khn by kernel_rfl) rfl h (k114 o)
set_option maxRecDepth 100000 in
theorem k13f {p0 : Int} {p1 : Int} {r0 : Int} {r1 : Int} (h :
(let v2 : Int := IntKind.u64.wrap ((iand .u64 p0 4294967295) * (iand .u64 p1 4294967295))
 let v3 : Int := IntKind.u64.wrap ((ishr .u64 p0 32) * (iand .u64 p1 4294967295))
 let v4 : Int := IntKind.u64.wrap (v3 + (ishr .u64 v2 32))
 let v5 : Int := IntKind.u64.wrap ((iand .u64 p0 4294967295) * (ishr .u64 p1 32))
 let v6 : Int := IntKind.u64.wrap ((iand .u64 v4 4294967295) + v5)
 let v7 : Int := IntKind.u64.wrap ((ishr .u64 p0 32) * (ishr .u64 p1 32))
 let v8 : Int := IntKind.u64.wrap (v7 + (ishr .u64 v4 32))
 let v9 : Int := IntKind.u64.wrap (v8 + (ishr .u64 v6 32))
 v9 = r0 ∧ IntKind.u64.wrap (p0 * p1) = r1)) : ke4 (p0, p1, ()) (r0, r1, ()) := WPh.of_eq (by kernel_rfl) h
theorem bd124 : Callable Try.prog 124 := ⟨by rw [Try.func124]; kernel_rfl, by rw [Try.func124]; show some _ ≠ some _; decide⟩
theorem ky8 (p0 : Int) (p1 : Int) (h : U64 p0 ∧ U64 p1) : ke4 (p0, p1, ()) (((p0 * p1 / 18446744073709551616) : Int), ((p0 * p1 % 18446744073709551616) : Int), ()) := by
  obtain ⟨h0, h1⟩ := h
  have k := k192 p0 p1 h0 h1
  refine k13f ?_
  simp only [kcn p0 h0, kcn p1 h1, ishr32]
  obtain ⟨e, k1, k2, k3, k4, k5, k6, k7, k8⟩ := k
  rw [← e]
  rw [wu (p0 % 4294967296 * (p1 % 4294967296)) (by omega) (by omega), wu (p0 / 4294967296 * (p1 % 4294967296)) (by omega) (by omega), wu (p0 % 4294967296 * (p1 / 4294967296)) (by omega) (by omega), wu (p0 / 4294967296 * (p1 / 4294967296)) (by omega) (by omega)]
  generalize p0 % 4294967296 * (p1 % 4294967296) = a at *
  generalize p0 / 4294967296 * (p1 % 4294967296) = b at *
  generalize p0 % 4294967296 * (p1 / 4294967296) = c at *
  generalize p0 / 4294967296 * (p1 / 4294967296) = d at *
  rw [wu (b + a / 4294967296) (by omega) (by omega), kcn _ (by omega)]
  simp only [u64w]
  refine ⟨?_, trivial⟩
  omega
noncomputable def kfj : Con TB.den := k2f.fnR (fun x => (fun (p0 : Int) (p1 : Int) => U64 p0 ∧ U64 p1) x.1 x.2.1) fun x => ((fun (p0 : Int) (p1 : Int) => ((p0 * p1 / 18446744073709551616) : Int)) x.1 x.2.1, (fun (p0 : Int) (p1 : Int) => ((p0 * p1 % 18446744073709551616) : Int)) x.1 x.2.1, ())
theorem kph : kfj.Ok Try.prog TB := Con.ok_fn k2f bd124 fun x h => kzo (ky8 x.1 x.2.1 h)
end Go.Proofs.Ytpffhgljgpjenaa
namespace Go.Proofs.Ytpffhgljgpjenaa
open Go Go.Bv Go.Cv Go.Md Go.RowKit
def k3m : Con TB.den := Con.mk0 115 [.one (.d (.int .u64)), .one (.d (.int .u64)), .one (.d (.int .u64))] [] (.one (.one (.d (.int .u64)))) []
abbrev k126 := HL TB.den (hsT k3m.ins (hsOs k3m.pre))
abbrev klk := HL TB.den (hsV k3m.res (hsOs k3m.post))
noncomputable def kf5 : Cx TB := ⟨inf, [k6h, kfj, kfp], [], 4⟩
noncomputable def kix : Code := Try.f115.body.getD .skip
noncomputable def ko9 : List ResultVar := Try.f115.results.toList
noncomputable def ky0 (o : klk) : An TB := .no
noncomputable def kjz (x : k126) (o : klk) : Prop := WPh TB kf5 32 0 kix (ky0 o) (k3m.st TB x) (retTQ TB kf5 k3m ko9 o)
set_option maxRecDepth 100000 in
theorem k16r (o : klk) : OblH TB kf5 32 0 kix (ky0 o) (retTQ TB kf5 k3m ko9 o) :=
  OblH.of_eq (X := (True ∧ ((True ∧ ((True ∧ True) ∧ True)) ∧ (True ∧ (True ∧ (True ∧ True)))))) (by kernel_rfl) ⟨trivial, ⟨⟨trivial, ⟨⟨trivial, trivial⟩, trivial⟩⟩, ⟨trivial, ⟨trivial, ⟨trivial, trivial⟩⟩⟩⟩⟩
set_option maxRecDepth 100000 in
theorem k16y {x : k126} {o : klk} (h : kjz x o) : SoundH Try.prog k3m.f ((k3m.args idf x).map (er TB)) ((k3m.obs idf x).map (erO TB)) (er TB (k3m.val idf o)) ((k3m.ops idf o).map (erO TB)) :=
  Con.soundH (c := k3m) (C := kf5) TBok ⟨inf_ok, (all_cons k8i (all_cons kph (all_cons kq1 all_nil))), all_nil⟩ mix Try.func115 (show Try.f115.body = some kix by kernel_rfl) (show Try.f115.ntmps = 32 by kernel_rfl) (show Try.f115.results.toList = ko9 by kernel_rfl) rfl h (k16r o)
set_option maxRecDepth 100000 in
theorem k181 {p0 : Int} {p1 : Int} {p2 : Int} {r0 : Int} (h :
((p0 = 18446744069414584321) ∧ ((!true) = true →
 0 = r0) ∧
((!true) = false →
(p0 ≠ 0) ∧ (p0 ≠ 0) ∧ (U64 (Int.tmod p1 p0) ∧ U64 (Int.tmod p2 p0)) ∧ let r1 : Int := ((Int.tmod p1 p0) * (Int.tmod p2 p0) / 18446744073709551616)
 let r2 : Int := ((Int.tmod p1 p0) * (Int.tmod p2 p0) % 18446744073709551616)
(U64 r1 ∧ U64 r2 ∧ U64 p0 ∧ r1 < p0) ∧ ((r1 * 18446744073709551616 + r2) % p0) = r0))) : kjz (p0, p1, p2, ()) (r0, ()) := WPh.of_eq (by kernel_rfl) h
theorem bd115 : Callable Try.prog 115 := ⟨by rw [Try.func115]; kernel_rfl, by rw [Try.func115]; show some _ ≠ some _; decide⟩
theorem k144 (p0 : Int) (p1 : Int) (p2 : Int) (h : p0 = 18446744069414584321 ∧ U64 p1 ∧ U64 p2) : kjz (p0, p1, p2, ()) (((p1 * p2 % 18446744069414584321) : Int), ()) := by
  obtain ⟨rfl, h1, h2⟩ := h
  refine k181 ⟨rfl, fun h => by simp at h, fun _ => ?_⟩
  rw [tmod_nn _ _ h1.1, tmod_nn _ _ h2.1, Int.mul_emod p1 p2]
  have a1 : 0 ≤ p1 % 18446744069414584321 ∧ p1 % 18446744069414584321 < 18446744069414584321 := by omega
  have a2 : 0 ≤ p2 % 18446744069414584321 ∧ p2 % 18446744069414584321 < 18446744069414584321 := by omega
  generalize p1 % 18446744069414584321 = a at *
  generalize p2 % 18446744069414584321 = b at *
  have h3 : 0 ≤ a * b := Int.mul_nonneg a1.1 a2.1
  have h4 : a * b ≤ 18446744069414584320 * 18446744069414584320 := Int.mul_le_mul (by omega) (by omega) a2.1 (by omega)
  generalize a * b = m at *
  refine ⟨by omega, by omega, ⟨⟨by omega, by omega⟩, ⟨by omega, by omega⟩⟩, ⟨⟨by omega, by omega⟩, ⟨by omega, by omega⟩, ⟨by omega, by omega⟩, by omega⟩, ?_⟩
  rw [show m / 18446744073709551616 * 18446744073709551616 + m % 18446744073709551616 = m by omega]
noncomputable def km3 : Con TB.den := k3m.fnR (fun x => (fun (p0 : Int) (p1 : Int) (p2 : Int) => p0 = 18446744069414584321 ∧ U64 p1 ∧ U64 p2) x.1 x.2.1 x.2.2.1) fun x => ((fun (p0 : Int) (p1 : Int) (p2 : Int) => ((p1 * p2 % 18446744069414584321) : Int)) x.1 x.2.1 x.2.2.1, ())
theorem kxe : km3.Ok Try.prog TB := Con.ok_fn k3m bd115 fun x h => k16y (k144 x.1 x.2.1 x.2.2.1 h)
end Go.Proofs.Ytpffhgljgpjenaa
namespace Go.Proofs.Ytpffhgljgpjenaa
open Go Go.Bv Go.Cv Go.Md Go.RowKit
def k1l : Con TB.den := Con.mk0 128 [.one (.d (.int .u64))] [] (.one (.one (.d (.int .u64)))) []
abbrev knd := HL TB.den (hsT k1l.ins (hsOs k1l.pre))
abbrev kbp := HL TB.den (hsV k1l.res (hsOs k1l.post))
noncomputable def k83 : Cx TB := ⟨inf, [klr], [], 4⟩
noncomputable def kc7 : Code := Try.f128.body.getD .skip
noncomputable def kez : List ResultVar := Try.f128.results.toList
noncomputable def kl3 (o : kbp) : An TB := .no
noncomputable def kc8 (x : knd) (o : kbp) : Prop := WPh TB k83 6 0 kc7 (kl3 o) (k1l.st TB x) (retTQ TB k83 k1l kez o)
set_option maxRecDepth 100000 in
theorem kw8 (o : kbp) : OblH TB k83 6 0 kc7 (kl3 o) (retTQ TB k83 k1l kez o) :=
  OblH.of_eq (X := (True ∧ (True ∧ True))) (by kernel_rfl) ⟨trivial, ⟨trivial, trivial⟩⟩
set_option maxRecDepth 100000 in
theorem kx2 {x : knd} {o : kbp} (h : kc8 x o) : SoundH Try.prog k1l.f ((k1l.args idf x).map (er TB)) ((k1l.obs idf x).map (erO TB)) (er TB (k1l.val idf o)) ((k1l.ops idf o).map (erO TB)) :=
  Con.soundH (c := k1l) (C := k83) TBok ⟨inf_ok, (all_cons kx9 all_nil), all_nil⟩ mix Try.func128 (show Try.f128.body = some kc7 by kernel_rfl) (show Try.f128.ntmps = 6 by kernel_rfl) (show Try.f128.results.toList = kez by kernel_rfl) rfl h (kw8 o)
set_option maxRecDepth 100000 in
theorem kz9 {p0 : Int} {r0 : Int} (h :
((p0 = 18446744069414584321) ∧ 7 = r0)) : kc8 (p0, ()) (r0, ()) := WPh.of_eq (by kernel_rfl) h
theorem bd128 : Callable Try.prog 128 := ⟨by rw [Try.func128]; kernel_rfl, by rw [Try.func128]; show some _ ≠ some _; decide⟩
theorem kuf (p0 : Int) (h : p0 = 18446744069414584321) : kc8 (p0, ()) ((7 : Int), ()) := by
  exact kz9 ⟨h, rfl⟩
noncomputable def kk6 : Con TB.den := k1l.fnR (fun x => (fun (p0 : Int) => p0 = 18446744069414584321) x.1) fun x => ((fun (p0 : Int) => (7 : Int)) x.1, ())
theorem kyk : kk6.Ok Try.prog TB := Con.ok_fn k1l bd128 fun x h => kx2 (kuf x.1 h)
end Go.Proofs.Ytpffhgljgpjenaa
namespace Go.Proofs.Ytpffhgljgpjenaa
open Go Go.Bv Go.Cv Go.Md Go.RowKit
def k36 : Con TB.den := Con.mk0 126 [.one (.d (.int .u64)), .one (.d (.int .u64)), .one (.d (.int .u64))] [] (.one (.one (.d (.int .u64)))) []
abbrev k11f := HL TB.den (hsT k36.ins (hsOs k36.pre))
abbrev k5e := HL TB.den (hsV k36.res (hsOs k36.post))
noncomputable def k5t : Cx TB := ⟨inf, [k6h, km3], [], 4⟩
noncomputable def k8k : Code := Try.f126.body.getD .skip
noncomputable def keo : List ResultVar := Try.f126.results.toList
noncomputable def k17q (o : k5e) : Exit → TSt TB.den → Prop := thenT TB (fun s => ghs TB [] s fun s => WP TB k5t 30 0 (cB (cB (cB (cB (cB k8k))))) .no s (retTQ TB k5t k36 keo o)) (retTQ TB k5t k36 keo o)
def k4y : Tm := ⟨[], [], [0, 1, 2, 7], [.one (.d (.int .u64)), .one (.d (.int .u64)), .one (.d (.int .u64)), .one (.d (.int .u64))], 0⟩
noncomputable def kxm (o : k5e) (nx1 : HL TB.den k4y.hs → Prop) : Exit → TSt TB.den → Prop := thenT TB (fun s => k4y.mat TB 0 s nx1) (blockT TB 0 (k17q o))
def kgn : Tm := ⟨[], [], [0, 1, 2, 7], [.one (.d (.int .u64)), .one (.d (.int .u64)), .one (.d (.int .u64)), .one (.d (.int .u64))], 0⟩
noncomputable def kv1 (o : k5e) (nx1 : HL TB.den k4y.hs → Prop) (i : HL TB.den kgn.hs) : Prop := ghs TB [] (kgn.fill TB i) fun s => WP TB k5t 30 0 (cB (cA (cB (cA (cA (cA (cB (cB (cB (cB k8k)))))))))) .no s (blockT TB 1 (kxm o nx1))
structure kbl (o : k5e) (nx1 : HL TB.den k4y.hs → Prop) (i : HL TB.den kgn.hs) : Prop where
  h : kv1 o nx1 i
noncomputable def kz5 (o : k5e) (nx1 : HL TB.den k4y.hs → Prop) : An TB := .nd [] .no [] (.jn kgn (kbl o nx1) [] .no [] .no)
noncomputable def ke5 (o : k5e) (nx1 : HL TB.den k4y.hs → Prop) (i : HL TB.den k4y.hs) : Prop := WP TB k5t 30 0 (cA (cA (cA (cB (cB (cB (cB k8k))))))) (kz5 o nx1) (k4y.fill TB i) (kxm o nx1)
noncomputable def k17z (o : k5e) : An TB := .lp [] k4y (ke5 o) fun nx1 => (kz5 o nx1)
noncomputable def k17a (o : k5e) : An TB := .nd [] .no [] (.nd [] .no [] (.nd [] .no [] (.nd [] (k17z o) [] .no)))
noncomputable def kz7 (o : k5e) : An TB := .nd [] .no [] (k17a o)
noncomputable def kj7 (x : k11f) (o : k5e) : Prop := WPh TB k5t 30 0 k8k (kz7 o) (k36.st TB x) (retTQ TB k5t k36 keo o)
set_option maxRecDepth 100000 in
theorem k170 (o : k5e) : OblH TB k5t 30 0 k8k (kz7 o) (retTQ TB k5t k36 keo o) :=
  OblH.of_eq (X := (True ∧ ((True ∧ ((True ∧ True) ∧ True)) ∧ (True ∧ (True ∧ (((∀ nx i, (ke5 o) nx i = (ke5 o) nx i) ∧ ∀ nx1 : HL TB.den k4y.hs → Prop, ((True ∧ (True ∧ True)) ∧ ((True ∧ (True ∧ True)) ∧ (∀ i, (kbl o nx1) i = (kv1 o nx1) i) ∧ (True ∧ True)))) ∧ (True ∧ True))))))) (by kernel_rfl) ⟨trivial, ⟨⟨trivial, ⟨⟨trivial, trivial⟩, trivial⟩⟩, ⟨trivial, ⟨trivial, ⟨⟨fun _ _ => rfl, fun _ => ⟨⟨trivial, ⟨trivial, trivial⟩⟩, ⟨⟨trivial, ⟨trivial, trivial⟩⟩, fun _ => propext ⟨fun h => h.1, fun h => ⟨h⟩⟩, ⟨trivial, trivial⟩⟩⟩⟩, ⟨trivial, trivial⟩⟩⟩⟩⟩⟩
set_option maxRecDepth 100000 in
theorem k16s {x : k11f} {o : k5e} (h : kj7 x o) : SoundH Try.prog k36.f ((k36.args idf x).map (er TB)) ((k36.obs idf x).map (erO TB)) (er TB (k36.val idf o)) ((k36.ops idf o).map (erO TB)) :=
  Con.soundH (c := k36) (C := k5t) TBok ⟨inf_ok, (all_cons k8i (all_cons kxe all_nil)), all_nil⟩ mix Try.func126 (show Try.f126.body = some k8k by kernel_rfl) (show Try.f126.ntmps = 30 by kernel_rfl) (show Try.f126.results.toList = keo by kernel_rfl) rfl h (k170 o)
set_option maxRecDepth 100000 in
theorem k174 {p0 : Int} {p1 : Int} {p2 : Int} {r0 : Int} (h :
((p0 = 18446744069414584321) ∧ ((!true) = true →
 0 = r0) ∧
((!true) = false →
(p0 ≠ 0) ∧ Md.Loop (p0, (Int.tmod p1 p0 : Int), p2, (1 : Int), ()) (ke5 (r0, ()))))) : kj7 (p0, p1, p2, ()) (r0, ()) := WPh.of_eq (by kernel_rfl) h
set_option maxRecDepth 100000 in
theorem k135 {r0 : Int} {nx1 : HL TB.den k4y.hs → Prop} {s0 : Int} {s1 : Int} {s2 : Int} {s7 : Int} (h :
((s0 = 18446744069414584321 ∧ U64 s1 ∧ U64 s1) ∧ nx1 (s0, ((s1 * s1 % 18446744069414584321) : Int), (IntKind.u64.wrap (Int.tdiv s2 2) : Int), s7, ()))) : kbl (r0, ()) nx1 (s0, s1, s2, s7, ()) := ⟨mpr_of (by kernel_rfl) h⟩
def kxp (r0 : Int) (nx1 : HL TB.den k4y.hs → Prop) (k1 : Int → Int → Int → Prop) (s0 : Int) (s1 : Int) (s2 : Int) (s7 : Int) : Prop :=
(decide (0 < s2) = true →
(((Int.tmod s2 2) == 1) = true →
(s0 = 18446744069414584321 ∧ U64 s7 ∧ U64 s1) ∧ kbl (r0, ()) nx1 (s0, s1, s2, ((s7 * s1 % 18446744069414584321) : Int), ())) ∧
(((Int.tmod s2 2) == 1) = false →
 kbl (r0, ()) nx1 (s0, s1, s2, s7, ()))) ∧
(decide (0 < s2) = false →
 s7 = r0)
set_option maxRecDepth 100000 in
theorem k16e {r0 : Int} {s0 : Int} {s1 : Int} {s2 : Int} {s7 : Int} (inv : Int → Int → Int → Prop) (μ : Int → Int → Int → Nat) (h0 : inv s1 s2 s7) (hs : ∀ (s1 : Int) (s2 : Int) (s7 : Int), inv s1 s2 s7 → kxp r0 (fun s : Int × Int × Int × Int × Unit => ((s.1 = s0) ∧ inv s.2.1 s.2.2.1 s.2.2.2.1) ∧ μ s.2.1 s.2.2.1 s.2.2.2.1 < μ s1 s2 s7) (fun s1q s2q s7q => inv s1q s2q s7q ∧ μ s1q s2q s7q < μ s1 s2 s7) s0 s1 s2 s7) : Md.Loop (s0, s1, s2, s7, ()) (ke5 (r0, ())) :=
  ⟨⟨fun s : Int × Int × Int × Int × Unit => (s.1 = s0) ∧ inv s.2.1 s.2.2.1 s.2.2.2.1, fun s : Int × Int × Int × Int × Unit => μ s.2.1 s.2.2.1 s.2.2.2.1, ⟨rfl, h0⟩, fun (s0p, s1p, s2p, s7p, ()) ⟨eq0, hi⟩ => by
    have eq0 : s0p = s0 := eq0; subst s0p; exact mpr_of (by kernel_rfl) ((congrArg (fun k => kxp r0 (fun s : Int × Int × Int × Int × Unit => ((s.1 = s0) ∧ inv s.2.1 s.2.2.1 s.2.2.2.1) ∧ μ s.2.1 s.2.2.1 s.2.2.2.1 < μ s1p s2p s7p) k s0 s1p s2p s7p) (lpk3 (rfl : s0 = s0) inv (fun s1q s2q s7q => μ s1q s2q s7q < μ s1p s2p s7p))).mpr (hs s1p s2p s7p hi))⟩⟩
theorem bd126 : Callable Try.prog 126 := ⟨by rw [Try.func126]; kernel_rfl, by rw [Try.func126]; show some _ ≠ some _; decide⟩
theorem k15a (p0 : Int) (p1 : Int) (p2 : Int) (h : p0 = 18446744069414584321 ∧ U64 p1 ∧ U64 p2) : kj7 (p0, p1, p2, ()) (((pw p1 p2) : Int), ()) := by
  obtain ⟨rfl, h1, h2⟩ := h
  refine k174 ⟨rfl, fun h => by simp at h, fun _ => ⟨by omega, ?_⟩⟩
  rw [tmod_nn _ _ h1.1]
  refine k16e (fun a e r => (0 ≤ a ∧ a < 18446744069414584321) ∧ U64 e ∧ (0 ≤ r ∧ r < 18446744069414584321) ∧ (r * a ^ e.toNat) % 18446744069414584321 = pw p1 p2) (fun a e r => e.toNat) ⟨by omega, h2, by omega, by rw [Int.one_mul, kp3]; rfl⟩ ?_
  rintro a e r ⟨ha, he, hr, hv⟩
  have hpow : ∀ k : Nat, a ^ (2 * k) = (a * a) ^ k := fun k => by rw [Int.pow_mul]; congr 1; rw [Int.pow_succ, Int.pow_succ, Int.pow_zero, Int.one_mul]
  have jj : ∀ nx r', (0 ≤ r' ∧ r' < 18446744069414584321) → 0 < e → (r' * (a * a) ^ (e / 2).toNat) % 18446744069414584321 = pw p1 p2 → (∀ a', (0 ≤ a' ∧ a' < 18446744069414584321) → r' * a' ^ (e / 2).toNat % 18446744069414584321 = pw p1 p2 → nx ((18446744069414584321 : Int), a', (e / 2 : Int), r', ())) → kbl ((pw p1 p2 : Int), ()) nx ((18446744069414584321 : Int), a, e, r', ()) := by
    intro nx r' hr' he' hv' hn
    refine k135 ⟨⟨rfl, by omega, by omega⟩, ?_⟩
    rw [tdiv_nn _ _ he.1, wu (e / 2) (by omega) (by omega)]
    refine hn _ ⟨Int.emod_nonneg _ (by omega), Int.emod_lt_of_pos _ (by omega)⟩ ?_
    rw [← hv', Int.mul_emod, Int.mul_emod r' ((a * a) ^ _), kp3]
  refine ⟨fun h => ?_, fun h => ?_⟩
  · have h := of_decide_eq_true h
    rw [tmod_nn _ _ he.1]
    have nxt : ∀ a' r', (0 ≤ a' ∧ a' < 18446744069414584321) → (0 ≤ r' ∧ r' < 18446744069414584321) → r' * a' ^ (e / 2).toNat % 18446744069414584321 = pw p1 p2 → ((0 ≤ a' ∧ a' < 18446744069414584321) ∧ U64 (e / 2) ∧ (0 ≤ r' ∧ r' < 18446744069414584321) ∧ r' * a' ^ (e / 2).toNat % 18446744069414584321 = pw p1 p2) ∧ (e / 2).toNat < e.toNat := fun a' r' h1 h2 h3 => ⟨⟨h1, ⟨by omega, by omega⟩, h2, h3⟩, by omega⟩
    refine ⟨fun h1 => ⟨⟨rfl, by omega, by omega⟩, ?_⟩, fun h1 => ?_⟩
    · have h1 : e % 2 = 1 := by simpa using h1
      refine jj _ _ ⟨Int.emod_nonneg _ (by omega), Int.emod_lt_of_pos _ (by omega)⟩ h ?_ fun a' ha' hv' => ⟨⟨rfl, (nxt a' _ ha' ⟨Int.emod_nonneg _ (by omega), Int.emod_lt_of_pos _ (by omega)⟩ hv').1⟩, (nxt a' _ ha' ⟨Int.emod_nonneg _ (by omega), Int.emod_lt_of_pos _ (by omega)⟩ hv').2⟩
      rw [← hv, show e.toNat = 2 * (e / 2).toNat + 1 by omega, Int.pow_succ, hpow, Int.mul_emod, Int.emod_emod_of_dvd _ (Int.dvd_refl _), ← Int.mul_emod]
      congr 1
      grind
    · have h1 : ¬ e % 2 = 1 := by simpa using h1
      refine jj _ _ hr h ?_ fun a' ha' hv' => ⟨⟨rfl, (nxt a' _ ha' hr hv').1⟩, (nxt a' _ ha' hr hv').2⟩
      rw [← hv, ← hpow, show e.toNat = 2 * (e / 2).toNat by omega]
  · have h : ¬ 0 < e := of_decide_eq_false h
    rw [show e.toNat = 0 by omega, Int.pow_zero, Int.mul_one, Int.emod_eq_of_lt hr.1 hr.2] at hv
    exact hv
noncomputable def kuu : Con TB.den := k36.fnR (fun x => (fun (p0 : Int) (p1 : Int) (p2 : Int) => p0 = 18446744069414584321 ∧ U64 p1 ∧ U64 p2) x.1 x.2.1 x.2.2.1) fun x => ((fun (p0 : Int) (p1 : Int) (p2 : Int) => ((pw p1 p2) : Int)) x.1 x.2.1 x.2.2.1, ())
theorem k17d : kuu.Ok Try.prog TB := Con.ok_fn k36 bd126 fun x h => k16s (k15a x.1 x.2.1 x.2.2.1 h)
end Go.Proofs.Ytpffhgljgpjenaa
namespace Go.Proofs.Ytpffhgljgpjenaa
open Go Go.Bv Go.Cv Go.Md Go.RowKit
def k1m : Con TB.den := Con.mk0 127 [.one (.d (.int .u64)), .one (.d (.int .i64)), .one (.d (.int .i64))] [] (.one (.one (.d (.int .u64)))) []
abbrev kn4 := HL TB.den (hsT k1m.ins (hsOs k1m.pre))
abbrev kbu := HL TB.den (hsV k1m.res (hsOs k1m.post))
noncomputable def k80 : Cx TB := ⟨inf, [k6h], [], 4⟩
noncomputable def kc5 : Code := Try.f127.body.getD .skip
noncomputable def ken : List ResultVar := Try.f127.results.toList
noncomputable def kl2 (o : kbu) : An TB := .no
noncomputable def kc2 (x : kn4) (o : kbu) : Prop := WPh TB k80 35 0 kc5 (kl2 o) (k1m.st TB x) (retTQ TB k80 k1m ken o)
set_option maxRecDepth 100000 in
theorem kw3 (o : kbu) : OblH TB k80 35 0 kc5 (kl2 o) (retTQ TB k80 k1m ken o) :=
  OblH.of_eq (X := (True ∧ ((True ∧ ((True ∧ True) ∧ True)) ∧ (True ∧ True)))) (by kernel_rfl) ⟨trivial, ⟨⟨trivial, ⟨⟨trivial, trivial⟩, trivial⟩⟩, ⟨trivial, trivial⟩⟩⟩
set_option maxRecDepth 100000 in
theorem kx3 {x : kn4} {o : kbu} (h : kc2 x o) : SoundH Try.prog k1m.f ((k1m.args idf x).map (er TB)) ((k1m.obs idf x).map (erO TB)) (er TB (k1m.val idf o)) ((k1m.ops idf o).map (erO TB)) :=
  Con.soundH (c := k1m) (C := k80) TBok ⟨inf_ok, (all_cons k8i all_nil), all_nil⟩ mix Try.func127 (show Try.f127.body = some kc5 by kernel_rfl) (show Try.f127.ntmps = 35 by kernel_rfl) (show Try.f127.results.toList = ken by kernel_rfl) rfl h (kw3 o)
set_option maxRecDepth 100000 in
theorem kxf {p0 : Int} {p1 : Int} {p2 : Int} {r0 : Int} (h :
((p0 = 18446744069414584321) ∧ ((!true) = true →
 0 = r0) ∧
((!true) = false →
(decide (p1 < 0) = true →
 0 = r0) ∧
(decide (p1 < 0) = false →
(decide (7 < p1) = true →
 0 = r0) ∧
(decide (7 < p1) = false →
(decide (p2 < 0) = true →
 0 = r0) ∧
(decide (p2 < 0) = false →
(decide (2 < p2) = true →
 0 = r0) ∧
(decide (2 < p2) = false →
 let v1 : Int := IntKind.i64.wrap ((IntKind.i64.wrap (3 * p1)) + p2)
 let v2 : Int := IntKind.u64.wrap (IntKind.i64.wrap (v1 + 1))
 let v3 : Int := IntKind.u64.wrap (v2 * 11400714819323198485)
(p0 ≠ 0) ∧ Int.tmod v3 p0 = r0))))))) : kc2 (p0, p1, p2, ()) (r0, ()) := WPh.of_eq (by kernel_rfl) h
theorem bd127 : Callable Try.prog 127 := ⟨by rw [Try.func127]; kernel_rfl, by rw [Try.func127]; show some _ ≠ some _; decide⟩
theorem kuk (p0 : Int) (p1 : Int) (p2 : Int) (h : p0 = 18446744069414584321 ∧ (0 ≤ p1 ∧ p1 < 8) ∧ 0 ≤ p2 ∧ p2 < 3) : kc2 (p0, p1, p2, ()) (((rc p1 p2) : Int), ()) := by
  obtain ⟨rfl, h1, h2⟩ := h
  refine kxf ⟨rfl, fun h => by simp at h, fun _ => ⟨fun h => ?_, fun _ => ⟨fun h => ?_, fun _ => ⟨fun h => ?_, fun _ => ⟨fun h => ?_, fun _ => ?_⟩⟩⟩⟩⟩
  · simp at h; omega
  · simp at h; omega
  · simp at h; omega
  · simp at h; omega
  · simp only []
    rw [wi (3 * p1) (by omega) (by omega), wi (3 * p1 + p2) (by omega) (by omega), wi (3 * p1 + p2 + 1) (by omega) (by omega), wu (3 * p1 + p2 + 1) (by omega) (by omega), u64w]
    exact ⟨by omega, by rw [tmod_nn _ _ (by omega)]; rfl⟩
noncomputable def kjx : Con TB.den := k1m.fnR (fun x => (fun (p0 : Int) (p1 : Int) (p2 : Int) => p0 = 18446744069414584321 ∧ (0 ≤ p1 ∧ p1 < 8) ∧ 0 ≤ p2 ∧ p2 < 3) x.1 x.2.1 x.2.2.1) fun x => ((fun (p0 : Int) (p1 : Int) (p2 : Int) => ((rc p1 p2) : Int)) x.1 x.2.1 x.2.2.1, ())
theorem kyg : kjx.Ok Try.prog TB := Con.ok_fn k1m bd127 fun x h => kx3 (kuk x.1 x.2.1 x.2.2.1 h)
end Go.Proofs.Ytpffhgljgpjenaa
namespace Go.Proofs.Ytpffhgljgpjenaa
open Go Go.Bv Go.Cv Go.Md Go.RowKit
def k34 : Con TB.den := Con.mk0 135 [.one (.d (.int .u64)), .one (.d (.sl (.int .u64)))] [] (.one (.one (.d (.int .u64)))) []
abbrev k11m := HL TB.den (hsT k34.ins (hsOs k34.pre))
abbrev k99 := HL TB.den (hsV k34.res (hsOs k34.post))
noncomputable def k71 : Cx TB := ⟨inf, [kce], [], 4⟩
noncomputable def kav : Code := Try.f135.body.getD .skip
noncomputable def kew : List ResultVar := Try.f135.results.toList
noncomputable def k17y (o : k99) : Exit → TSt TB.den → Prop := thenT TB (fun s => ghs TB [] s fun s => WP TB k71 21 0 (cB (cB (cB kav))) .no s (retTQ TB k71 k34 kew o)) (retTQ TB k71 k34 kew o)
def k9g : Tm := ⟨[], [], [0, 1, 5, 6], [.one (.d (.int .u64)), .one (.d (.sl (.int .u64))), .one (.d (.int .u64)), .one (.d (.int .i64))], 0⟩
noncomputable def k175 (o : k99) (nx1 : HL TB.den k9g.hs → Prop) : Exit → TSt TB.den → Prop := thenT TB (fun s => k9g.mat TB 0 s nx1) (blockT TB 0 (k17y o))
noncomputable def ker (o : k99) (nx1 : HL TB.den k9g.hs → Prop) (i : HL TB.den k9g.hs) : Prop := WP TB k71 21 0 (cA (cA (cB (cA (cB (cB kav)))))) .no (k9g.fill TB i) (k175 o nx1)
noncomputable def k17k (o : k99) : An TB := .nd [] .no [] (.lp [] k9g (ker o) fun nx1 => .no)
noncomputable def kxw (o : k99) : An TB := .nd [] .no [] (.nd [] .no [] (.nd [] (k17k o) [] .no))
noncomputable def kjg (x : k11m) (o : k99) : Prop := WPh TB k71 21 0 kav (kxw o) (k34.st TB x) (retTQ TB k71 k34 kew o)
set_option maxRecDepth 100000 in
theorem k16a (o : k99) : OblH TB k71 21 0 kav (kxw o) (retTQ TB k71 k34 kew o) :=
  OblH.of_eq (X := (True ∧ (True ∧ ((True ∧ ((∀ nx i, (ker o) nx i = (ker o) nx i) ∧ ∀ nx1 : HL TB.den k9g.hs → Prop, ((True ∧ (True ∧ True)) ∧ (True ∧ True)))) ∧ (True ∧ True))))) (by kernel_rfl) ⟨trivial, ⟨trivial, ⟨⟨trivial, ⟨fun _ _ => rfl, fun _ => ⟨⟨trivial, ⟨trivial, trivial⟩⟩, ⟨trivial, trivial⟩⟩⟩⟩, ⟨trivial, trivial⟩⟩⟩⟩
set_option maxRecDepth 100000 in
theorem k16i {x : k11m} {o : k99} (h : kjg x o) : SoundH Try.prog k34.f ((k34.args idf x).map (er TB)) ((k34.obs idf x).map (erO TB)) (er TB (k34.val idf o)) ((k34.ops idf o).map (erO TB)) :=
  Con.soundH (c := k34) (C := k71) TBok ⟨inf_ok, (all_cons kis all_nil), all_nil⟩ mix Try.func135 (show Try.f135.body = some kav by kernel_rfl) (show Try.f135.ntmps = 21 by kernel_rfl) (show Try.f135.results.toList = kew by kernel_rfl) rfl h (k16a o)
set_option maxRecDepth 100000 in
theorem k178 {p0 : Int} {p1 : List Int} {r0 : Int} (h :
(Md.Loop (p0, p1, (0 : Int), (0 : Int), ()) (ker (r0, ())))) : kjg (p0, p1, ()) (r0, ()) := WPh.of_eq (by kernel_rfl) h
def kxo (r0 : Int) (k1 : Int → Int → Prop) (s0 : Int) (s1 : List Int) (s5 : Int) (s6 : Int) : Prop :=
(decide (s6 < (s1.length : Int)) = true →
(0 ≤ s6) ∧ s6 < (s1.length : Int) ∧ (s0 = 18446744069414584321 ∧ U64 s5 ∧ U64 (ix s1 s6)) ∧ let r1 : Int := ((s5 + (ix s1 s6)) % 18446744069414584321)
 k1 r1 (IntKind.i64.wrap (s6 + 1) : Int)) ∧
(decide (s6 < (s1.length : Int)) = false →
 s5 = r0)
set_option maxRecDepth 100000 in
theorem k169 {r0 : Int} {s0 : Int} {s1 : List Int} {s5 : Int} {s6 : Int} (inv : Int → Int → Prop) (μ : Int → Int → Nat) (h0 : inv s5 s6) (hs : ∀ (s5 : Int) (s6 : Int), inv s5 s6 → kxo r0 (fun s5q s6q => inv s5q s6q ∧ μ s5q s6q < μ s5 s6) s0 s1 s5 s6) : Md.Loop (s0, s1, s5, s6, ()) (ker (r0, ())) :=
  ⟨⟨fun s : Int × (List Int) × Int × Int × Unit => (s.1 = s0 ∧ s.2.1 = s1) ∧ inv s.2.2.1 s.2.2.2.1, fun s : Int × (List Int) × Int × Int × Unit => μ s.2.2.1 s.2.2.2.1, ⟨⟨rfl, rfl⟩, h0⟩, fun (s0p, s1p, s5p, s6p, ()) ⟨⟨eq0, eq1⟩, hi⟩ => by
    have eq0 : s0p = s0 := eq0; subst s0p; have eq1 : s1p = s1 := eq1; subst s1p; exact mpr_of (by kernel_rfl) ((congrArg (fun k => kxo r0 k s0 s1 s5p s6p) (lpk2 (⟨rfl, rfl⟩ : s0 = s0 ∧ s1 = s1) inv (fun s5q s6q => μ s5q s6q < μ s5p s6p))).mpr (hs s5p s6p hi))⟩⟩
theorem bd135 : Callable Try.prog 135 := ⟨by rw [Try.func135]; kernel_rfl, by rw [Try.func135]; show some _ ≠ some _; decide⟩
theorem k14z (p0 : Int) (p1 : List Int) (h : p0 = 18446744069414584321 ∧ Us p1 ∧ p1.length ≤ 9223372036854775807) : kjg (p0, p1, ()) (((p1.foldl (fun s x => (s + x) % 18446744069414584321) 0) : Int), ()) := by
  obtain ⟨rfl, h1, h2⟩ := h
  refine k178 (k169 (fun s i => FoldI (fun s x => (s + x) % 18446744069414584321) 0 p1 i s ∧ U64 s) (fun s i => (p1.length - i).toNat) ⟨FoldI.start, by omega⟩ ?_)
  rintro s i ⟨hi, hs⟩
  refine ⟨fun hh => ?_, fun hh => hi.done (of_decide_eq_false hh)⟩
  have hh := of_decide_eq_true hh
  have hx := h1 _ (ix_mem p1 i hi.1 hh)
  have nx := hi.next hh (by omega) rfl
  exact ⟨hi.1, hh, ⟨rfl, hs, hx⟩, ⟨nx.1, by omega⟩, nx.2⟩
noncomputable def kv9 : Con TB.den := k34.fnR (fun x => (fun (p0 : Int) (p1 : List Int) => p0 = 18446744069414584321 ∧ Us p1 ∧ p1.length ≤ 9223372036854775807) x.1 x.2.1) fun x => ((fun (p0 : Int) (p1 : List Int) => ((p1.foldl (fun s x => (s + x) % 18446744069414584321) 0) : Int)) x.1 x.2.1, ())
theorem k17m : kv9.Ok Try.prog TB := Con.ok_fn k34 bd135 fun x h => k16i (k14z x.1 x.2.1 h)
end Go.Proofs.Ytpffhgljgpjenaa
namespace Go.Proofs.Ytpffhgljgpjenaa
open Go Go.Bv Go.Cv Go.Md Go.RowKit
def k35 : Con TB.den := Con.mk0 129 [.one (.d (.int .u64)), .agg [.d (.int .u64), .d (.int .u64), .d (.int .u64)]] [] (.one (.agg [.d (.int .u64), .d (.int .u64), .d (.int .u64)])) []
abbrev k11g := HL TB.den (hsT k35.ins (hsOs k35.pre))
abbrev k98 := HL TB.den (hsV k35.res (hsOs k35.post))
noncomputable def k6z : Cx TB := ⟨inf, [kv9, kce], [], 4⟩
noncomputable def kaq : Code := Try.f129.body.getD .skip
noncomputable def ke2 : List ResultVar := Try.f129.results.toList
noncomputable def k173 (o : k98) : Exit → TSt TB.den → Prop := thenT TB (fun s => ghs TB [] s fun s => WP TB k6z 30 0 (cB (cB (cB (cB kaq)))) .no s (retTQ TB k6z k35 ke2 o)) (retTQ TB k6z k35 ke2 o)
def k9i : Tm := ⟨[0, 1, 3], [.cells [.d (.int .u64), .d (.int .u64), .d (.int .u64)], .cells [.d (.int .u64), .d (.int .u64), .d (.int .u64)], .cells [.d (.int .u64), .d (.int .u64), .d (.int .u64)]], [0, 3, 4, 5, 6, 7], [.one (.d (.int .u64)), .one (.ptr 0 0), .one (.ptr 1 0), .one (.d (.int .u64)), .one (.ptr 2 0), .one (.d (.int .i64))], 4⟩
noncomputable def k17i (o : k98) (nx1 : HL TB.den k9i.hs → Prop) : Exit → TSt TB.den → Prop := thenT TB (fun s => k9i.mat TB 0 s nx1) (blockT TB 0 (k173 o))
noncomputable def keh (o : k98) (nx1 : HL TB.den k9i.hs → Prop) (i : HL TB.den k9i.hs) : Prop := WP TB k6z 30 0 (cA (cA (cB (cA (cB (cB (cB kaq))))))) .no (k9i.fill TB i) (k17i o nx1)
noncomputable def k172 (o : k98) : An TB := .nd [] .no [] (.lp [] k9i (keh o) fun nx1 => .no)
noncomputable def kyv (o : k98) : An TB := .nd [] .no [] (.nd [] .no [] (.nd [] .no [] (.nd [] (k172 o) [] .no)))
noncomputable def kjm (x : k11g) (o : k98) : Prop := WPh TB k6z 30 0 kaq (kyv o) (k35.st TB x) (retTQ TB k6z k35 ke2 o)
set_option maxRecDepth 100000 in
theorem k162 (o : k98) : OblH TB k6z 30 0 kaq (kyv o) (retTQ TB k6z k35 ke2 o) :=
  OblH.of_eq (X := (True ∧ (True ∧ (True ∧ ((True ∧ ((∀ nx i, (keh o) nx i = (keh o) nx i) ∧ ∀ nx1 : HL TB.den k9i.hs → Prop, ((True ∧ (True ∧ True)) ∧ (True ∧ True)))) ∧ (True ∧ True)))))) (by kernel_rfl) ⟨trivial, ⟨trivial, ⟨trivial, ⟨⟨trivial, ⟨fun _ _ => rfl, fun _ => ⟨⟨trivial, ⟨trivial, trivial⟩⟩, ⟨trivial, trivial⟩⟩⟩⟩, ⟨trivial, trivial⟩⟩⟩⟩⟩
set_option maxRecDepth 100000 in
theorem k16x {x : k11g} {o : k98} (h : kjm x o) : SoundH Try.prog k35.f ((k35.args idf x).map (er TB)) ((k35.obs idf x).map (erO TB)) (er TB (k35.val idf o)) ((k35.ops idf o).map (erO TB)) :=
  Con.soundH (c := k35) (C := k6z) TBok ⟨inf_ok, (all_cons k17m (all_cons kis all_nil)), all_nil⟩ mix Try.func129 (show Try.f129.body = some kaq by kernel_rfl) (show Try.f129.ntmps = 30 by kernel_rfl) (show Try.f129.results.toList = ke2 by kernel_rfl) rfl h (k162 o)
set_option maxRecDepth 100000 in
theorem k179 {p0 : Int} {p1 : TA3} {r0 : TA3} (h :
((p0 = 18446744069414584321 ∧ Us [p1.a0, p1.a1, p1.a2] ∧ [p1.a0, p1.a1, p1.a2].length ≤ 9223372036854775807) ∧ let r1 : Int := ([p1.a0, p1.a1, p1.a2].foldl (fun s x => (s + x) % 18446744069414584321) 0)
 Md.Loop (p0, r1, (0 : Int), p1.a0, p1.a1, p1.a2, (0 : Int), (0 : Int), (0 : Int), (0 : Int), (0 : Int), (0 : Int), ()) (keh (r0.a0, r0.a1, r0.a2, ())))) : kjm (p0, p1.a0, p1.a1, p1.a2, ()) (r0.a0, r0.a1, r0.a2, ()) := WPh.of_eq (by kernel_rfl) h
def kyb (r0 : TA3) (k1 : Int → Int → Int → Int → Prop) (s0 : Int) (s5 : Int) (h0_0 : Int) (h0_1 : Int) (h0_2 : Int) (h1_0 : Int) (h1_1 : Int) (h1_2 : Int) (s7 : Int) (h3_0 : Int) (h3_1 : Int) (h3_2 : Int) : Prop :=
(decide (s7 < 3) = true →
(0 ≤ s7 ∧ s7 < (3 : Int)) ∧ (0 ≤ s7 ∧ s7 < (3 : Int)) ∧ (s0 = 18446744069414584321 ∧ U64 (ix [h0_0, h0_1, h0_2] s7) ∧ U64 s5) ∧ let r2 : Int := (((ix [h0_0, h0_1, h0_2] s7) + s5) % 18446744069414584321)
(0 ≤ s7 ∧ s7 < (3 : Int)) ∧ (0 ≤ s7 ∧ s7 < (3 : Int)) ∧ k1 (IntKind.i64.wrap (s7 + 1) : Int) ((bif decide (s7 = (0 : Int)) then r2 else h3_0) : Int) ((bif decide (s7 = (1 : Int)) then r2 else h3_1) : Int) ((bif decide (s7 = (2 : Int)) then r2 else h3_2) : Int)) ∧
(decide (s7 < 3) = false →
 h3_0 = r0.a0 ∧ h3_1 = r0.a1 ∧ h3_2 = r0.a2)
set_option maxRecDepth 100000 in
theorem k16v {r0 : TA3} {s0 : Int} {s5 : Int} {h0_0 : Int} {h0_1 : Int} {h0_2 : Int} {h1_0 : Int} {h1_1 : Int} {h1_2 : Int} {s7 : Int} {h3_0 : Int} {h3_1 : Int} {h3_2 : Int} (inv : Int → Int → Int → Int → Prop) (μ : Int → Int → Int → Int → Nat) (h0 : inv s7 h3_0 h3_1 h3_2) (hs : ∀ (s7 : Int) (h3_0 : Int) (h3_1 : Int) (h3_2 : Int), inv s7 h3_0 h3_1 h3_2 → kyb r0 (fun s7q h3_0q h3_1q h3_2q => inv s7q h3_0q h3_1q h3_2q ∧ μ s7q h3_0q h3_1q h3_2q < μ s7 h3_0 h3_1 h3_2) s0 s5 h0_0 h0_1 h0_2 h1_0 h1_1 h1_2 s7 h3_0 h3_1 h3_2) : Md.Loop (s0, s5, s7, h0_0, h0_1, h0_2, h1_0, h1_1, h1_2, h3_0, h3_1, h3_2, ()) (keh (r0.a0, r0.a1, r0.a2, ())) :=
  ⟨⟨fun s : Int × Int × Int × Int × Int × Int × Int × Int × Int × Int × Int × Int × Unit => (s.1 = s0 ∧ s.2.1 = s5 ∧ s.2.2.2.1 = h0_0 ∧ s.2.2.2.2.1 = h0_1 ∧ s.2.2.2.2.2.1 = h0_2 ∧ s.2.2.2.2.2.2.1 = h1_0 ∧ s.2.2.2.2.2.2.2.1 = h1_1 ∧ s.2.2.2.2.2.2.2.2.1 = h1_2) ∧ inv s.2.2.1 s.2.2.2.2.2.2.2.2.2.1 s.2.2.2.2.2.2.2.2.2.2.1 s.2.2.2.2.2.2.2.2.2.2.2.1, fun s : Int × Int × Int × Int × Int × Int × Int × Int × Int × Int × Int × Int × Unit => μ s.2.2.1 s.2.2.2.2.2.2.2.2.2.1 s.2.2.2.2.2.2.2.2.2.2.1 s.2.2.2.2.2.2.2.2.2.2.2.1, ⟨⟨rfl, rfl, rfl, rfl, rfl, rfl, rfl, rfl⟩, h0⟩, fun (s0p, s5p, s7p, h0_0p, h0_1p, h0_2p, h1_0p, h1_1p, h1_2p, h3_0p, h3_1p, h3_2p, ()) ⟨⟨eq0, eq1, eq2, eq3, eq4, eq5, eq6, eq7⟩, hi⟩ => by
    have eq0 : s0p = s0 := eq0; subst s0p; have eq1 : s5p = s5 := eq1; subst s5p; have eq2 : h0_0p = h0_0 := eq2; subst h0_0p; have eq3 : h0_1p = h0_1 := eq3; subst h0_1p; have eq4 : h0_2p = h0_2 := eq4; subst h0_2p; have eq5 : h1_0p = h1_0 := eq5; subst h1_0p; have eq6 : h1_1p = h1_1 := eq6; subst h1_1p; have eq7 : h1_2p = h1_2 := eq7; subst h1_2p; exact mpr_of (by kernel_rfl) ((congrArg (fun k => kyb r0 k s0 s5 h0_0 h0_1 h0_2 h1_0 h1_1 h1_2 s7p h3_0p h3_1p h3_2p) (lpk4 (⟨rfl, rfl, rfl, rfl, rfl, rfl, rfl, rfl⟩ : s0 = s0 ∧ s5 = s5 ∧ h0_0 = h0_0 ∧ h0_1 = h0_1 ∧ h0_2 = h0_2 ∧ h1_0 = h1_0 ∧ h1_1 = h1_1 ∧ h1_2 = h1_2) inv (fun s7q h3_0q h3_1q h3_2q => μ s7q h3_0q h3_1q h3_2q < μ s7p h3_0p h3_1p h3_2p))).mpr (hs s7p h3_0p h3_1p h3_2p hi))⟩⟩
theorem bd129 : Callable Try.prog 129 := ⟨by rw [Try.func129]; kernel_rfl, by rw [Try.func129]; show some _ ≠ some _; decide⟩
theorem k14a (p0 : Int) (p1 : TA3) (h : p0 = 18446744069414584321 ∧ S3 p1) : kjm (p0, p1.a0, p1.a1, p1.a2, ()) (((mixS p1).a0 : Int), ((mixS p1).a1 : Int), ((mixS p1).a2 : Int), ()) := by
  obtain ⟨rfl, h0, h1, h2⟩ := h
  have e : [p1.a0, p1.a1, p1.a2].foldl (fun s x => (s + x) % 18446744069414584321) 0 = ((p1.a0 + p1.a1) % 18446744069414584321 + p1.a2) % 18446744069414584321 := by
    show (((0 + p1.a0) % 18446744069414584321 + p1.a1) % 18446744069414584321 + p1.a2) % 18446744069414584321 = _
    omega
  refine k179 (r0 := mixS p1) ⟨⟨rfl, ?_, by simp⟩, ?_⟩
  · intro x hx
    simp only [List.mem_cons, List.not_mem_nil, or_false] at hx
    rcases hx with rfl | rfl | rfl
    · exact h0
    · exact h1
    · exact h2
  rw [e]
  have hu : U64 (((p1.a0 + p1.a1) % 18446744069414584321 + p1.a2) % 18446744069414584321) := ⟨by omega, by omega⟩
  generalize hg : ((p1.a0 + p1.a1) % 18446744069414584321 + p1.a2) % 18446744069414584321 = t at *
  refine k16v (r0 := mixS p1) (fun i x y z => (i = 0) ∨ (i = 1 ∧ x = (p1.a0 + t) % 18446744069414584321) ∨ (i = 2 ∧ x = (p1.a0 + t) % 18446744069414584321 ∧ y = (p1.a1 + t) % 18446744069414584321) ∨ (i = 3 ∧ x = (p1.a0 + t) % 18446744069414584321 ∧ y = (p1.a1 + t) % 18446744069414584321 ∧ z = (p1.a2 + t) % 18446744069414584321)) (fun i _ _ _ => (3 - i).toNat) (.inl rfl) ?_
  intro i x y z hi
  refine ⟨fun hh => ?_, fun hh => ?_⟩
  · have hh := of_decide_eq_true hh
    rcases hi with rfl | ⟨rfl, rfl⟩ | ⟨rfl, rfl, rfl⟩ | ⟨rfl, _⟩
    · exact ⟨by omega, by omega, ⟨rfl, h0, hu⟩, by omega, by omega, .inr (.inl ⟨rfl, rfl⟩), by decide⟩
    · exact ⟨by omega, by omega, ⟨rfl, h1, hu⟩, by omega, by omega, .inr (.inr (.inl ⟨rfl, rfl, rfl⟩)), by decide⟩
    · exact ⟨by omega, by omega, ⟨rfl, h2, hu⟩, by omega, by omega, .inr (.inr (.inr ⟨rfl, rfl, rfl, rfl⟩)), by decide⟩
    · omega
  · have hh := of_decide_eq_false hh
    rcases hi with rfl | ⟨rfl, rfl⟩ | ⟨rfl, rfl, rfl⟩ | ⟨rfl, rfl, rfl, rfl⟩
    · omega
    · omega
    · omega
    · unfold mixS
      rw [hg]
      exact ⟨rfl, rfl, rfl⟩
noncomputable def kuw : Con TB.den := k35.fnR (fun x => (fun (p0 : Int) (p1 : TA3) => p0 = 18446744069414584321 ∧ S3 p1) x.1 (TA3.mk x.2.1 x.2.2.1 x.2.2.2.1)) fun x => ((fun (p0 : Int) (p1 : TA3) => ((mixS p1).a0 : Int)) x.1 (TA3.mk x.2.1 x.2.2.1 x.2.2.2.1), (fun (p0 : Int) (p1 : TA3) => ((mixS p1).a1 : Int)) x.1 (TA3.mk x.2.1 x.2.2.1 x.2.2.2.1), (fun (p0 : Int) (p1 : TA3) => ((mixS p1).a2 : Int)) x.1 (TA3.mk x.2.1 x.2.2.1 x.2.2.2.1), ())
theorem k180 : kuw.Ok Try.prog TB := Con.ok_fn k35 bd129 fun x h => k16x (k14a x.1 (TA3.mk x.2.1 x.2.2.1 x.2.2.2.1) h)
end Go.Proofs.Ytpffhgljgpjenaa
namespace Go.Proofs.Ytpffhgljgpjenaa
open Go Go.Bv Go.Cv Go.Md Go.RowKit
def k1j : Con TB.den := Con.mk0 116 [.one (.d (.int .u64)), .agg [.d (.int .u64), .d (.int .u64), .d (.int .u64)]] [] (.one (.agg [.d (.int .u64), .d (.int .u64), .d (.int .u64)])) []
abbrev kpo := HL TB.den (hsT k1j.ins (hsOs k1j.pre))
abbrev k2j := HL TB.den (hsV k1j.res (hsOs k1j.post))
noncomputable def k32 : Cx TB := ⟨inf, [k6h, kjx, kce, kk6, kuu, kuw], [], 4⟩
noncomputable def k49 : Code := Try.f116.body.getD .skip
noncomputable def k8l : List ResultVar := Try.f116.results.toList
noncomputable def k11a (o : k2j) : Exit → TSt TB.den → Prop := thenT TB (fun s => ghs TB [] s fun s => WP TB k32 38 0 (cB (cB (cB k49))) .no s (retTQ TB k32 k1j k8l o)) (retTQ TB k32 k1j k8l o)
def k1s : Tm := ⟨[0, 1], [.cells [.d (.int .u64), .d (.int .u64), .d (.int .u64)], .cells [.d (.int .u64), .d (.int .u64), .d (.int .u64)]], [0, 3, 4, 5], [.one (.d (.int .u64)), .one (.ptr 0 0), .one (.ptr 1 0), .one (.d (.int .i64))], 2⟩
noncomputable def kfy (o : k2j) (nx2 : HL TB.den k1s.hs → Prop) : Exit → TSt TB.den → Prop := thenT TB (fun s => k1s.mat TB 0 s nx2) (blockT TB 0 (k11a o))
noncomputable def knf (o : k2j) (nx2 : HL TB.den k1s.hs → Prop) : Exit → TSt TB.den → Prop := thenT TB (fun s => ghs TB [] s fun s => WP TB k32 38 0 (cB (cB (cA (cA (cB (cA (cB (cB k49)))))))) .no s (kfy o nx2)) (kfy o nx2)
noncomputable def kzh (o : k2j) (nx2 : HL TB.den k1s.hs → Prop) : Exit → TSt TB.den → Prop := thenT TB (fun s => ghs TB [] s fun s => WP TB k32 38 0 (cB (cA (cA (cB (cA (cA (cB (cA (cB (cB k49)))))))))) .no s (blockT TB 1 (knf o nx2))) (blockT TB 1 (knf o nx2))
def k5s : Tm := ⟨[0, 1], [.cells [.d (.int .u64), .d (.int .u64), .d (.int .u64)], .cells [.d (.int .u64), .d (.int .u64), .d (.int .u64)]], [0, 3, 4, 5, 6], [.one (.d (.int .u64)), .one (.ptr 0 0), .one (.ptr 1 0), .one (.d (.int .i64)), .one (.d (.int .i64))], 2⟩
noncomputable def k112 (o : k2j) (nx2 : HL TB.den k1s.hs → Prop) (nx1 : HL TB.den k5s.hs → Prop) : Exit → TSt TB.den → Prop := thenT TB (fun s => k5s.mat TB 0 s nx1) (blockT TB 2 (kzh o nx2))
noncomputable def k8g (o : k2j) (nx2 : HL TB.den k1s.hs → Prop) (nx1 : HL TB.den k5s.hs → Prop) (i : HL TB.den k5s.hs) : Prop := WP TB k32 38 0 (cA (cA (cB (cA (cA (cA (cB (cA (cA (cB (cA (cB (cB k49))))))))))))) .no (k5s.fill TB i) (k112 o nx2 nx1)
noncomputable def k10s (o : k2j) (nx2 : HL TB.den k1s.hs → Prop) : An TB := .nd [] .no [] (.lp [] k5s (k8g o nx2) fun nx1 => .no)
noncomputable def kl0 (o : k2j) (nx2 : HL TB.den k1s.hs → Prop) : An TB := .nd [] .no [] (.nd [] (.nd [] (k10s o nx2) [] .no) [] .no)
noncomputable def k8s (o : k2j) (nx2 : HL TB.den k1s.hs → Prop) (i : HL TB.den k1s.hs) : Prop := WP TB k32 38 0 (cA (cA (cB (cA (cB (cB k49)))))) (kl0 o nx2) (k1s.fill TB i) (kfy o nx2)
noncomputable def kxv (o : k2j) : An TB := .lp [] k1s (k8s o) fun nx2 => (kl0 o nx2)
noncomputable def kyi (o : k2j) : An TB := .nd [] .no [] (.nd [] (.nd [] .no [] (kxv o)) [] .no)
noncomputable def kn0 (o : k2j) : An TB := .nd [] .no [] (kyi o)
noncomputable def kdh (x : kpo) (o : k2j) : Prop := WPh TB k32 38 0 k49 (kn0 o) (k1j.st TB x) (retTQ TB k32 k1j k8l o)
set_option maxRecDepth 100000 in
theorem kyq (o : k2j) : OblH TB k32 38 0 k49 (kn0 o) (retTQ TB k32 k1j k8l o) :=
  OblH.of_eq (X := (True ∧ ((True ∧ ((True ∧ True) ∧ True)) ∧ ((True ∧ ((∀ nx i, (k8s o) nx i = (k8s o) nx i) ∧ ∀ nx2 : HL TB.den k1s.hs → Prop, ((True ∧ (True ∧ True)) ∧ (((True ∧ ((∀ nx i, (k8g o nx2) nx i = (k8g o nx2) nx i) ∧ ∀ nx1 : HL TB.den k5s.hs → Prop, ((True ∧ (True ∧ True)) ∧ (True ∧ True)))) ∧ True) ∧ True)))) ∧ (True ∧ True))))) (by kernel_rfl) ⟨trivial, ⟨⟨trivial, ⟨⟨trivial, trivial⟩, trivial⟩⟩, ⟨⟨trivial, ⟨fun _ _ => rfl, fun _ => ⟨⟨trivial, ⟨trivial, trivial⟩⟩, ⟨⟨⟨trivial, ⟨fun _ _ => rfl, fun _ => ⟨⟨trivial, ⟨trivial, trivial⟩⟩, ⟨trivial, trivial⟩⟩⟩⟩, trivial⟩, trivial⟩⟩⟩⟩, ⟨trivial, trivial⟩⟩⟩⟩
set_option maxRecDepth 100000 in
theorem kxz {x : kpo} {o : k2j} (h : kdh x o) : SoundH Try.prog k1j.f ((k1j.args idf x).map (er TB)) ((k1j.obs idf x).map (erO TB)) (er TB (k1j.val idf o)) ((k1j.ops idf o).map (erO TB)) :=
  Con.soundH (c := k1j) (C := k32) TBok ⟨inf_ok, (all_cons k8i (all_cons kyg (all_cons kis (all_cons kyk (all_cons k17d (all_cons k180 all_nil)))))), all_nil⟩ mix Try.func116 (show Try.f116.body = some k49 by kernel_rfl) (show Try.f116.ntmps = 38 by kernel_rfl) (show Try.f116.results.toList = k8l by kernel_rfl) rfl h (kyq o)
set_option maxRecDepth 100000 in
theorem k10x {p0 : Int} {p1 : TA3} {r0 : TA3} (h :
((p0 = 18446744069414584321) ∧ ((!true) = true →
 0 = r0.a0 ∧ 0 = r0.a1 ∧ 0 = r0.a2) ∧
((!true) = false →
 Md.Loop (p0, (0 : Int), p1.a0, p1.a1, p1.a2, (0 : Int), (0 : Int), (0 : Int), ()) (k8s (r0.a0, r0.a1, r0.a2, ()))))) : kdh (p0, p1.a0, p1.a1, p1.a2, ()) (r0.a0, r0.a1, r0.a2, ()) := WPh.of_eq (by kernel_rfl) h
def kmx (r0 : TA3) (nx2 : HL TB.den k1s.hs → Prop) (k2 : Int → Int → Int → Int → Prop) (s0 : Int) (h1_0 : Int) (h1_1 : Int) (h1_2 : Int) (s5 : Int) (h0_0 : Int) (h0_1 : Int) (h0_2 : Int) : Prop :=
(decide (s5 < 8) = true →
 Md.Loop (s0, s5, (0 : Int), h0_0, h0_1, h0_2, h1_0, h1_1, h1_2, ()) (k8g (r0.a0, r0.a1, r0.a2, ()) nx2)) ∧
(decide (s5 < 8) = false →
 h0_0 = r0.a0 ∧ h0_1 = r0.a1 ∧ h0_2 = r0.a2)
set_option maxRecDepth 100000 in
theorem kyo {r0 : TA3} {s0 : Int} {h1_0 : Int} {h1_1 : Int} {h1_2 : Int} {s5 : Int} {h0_0 : Int} {h0_1 : Int} {h0_2 : Int} (inv : Int → Int → Int → Int → Prop) (μ : Int → Int → Int → Int → Nat) (h0 : inv s5 h0_0 h0_1 h0_2) (hs : ∀ (s5 : Int) (h0_0 : Int) (h0_1 : Int) (h0_2 : Int), inv s5 h0_0 h0_1 h0_2 → kmx r0 (fun s : Int × Int × Int × Int × Int × Int × Int × Int × Unit => ((s.1 = s0 ∧ s.2.2.2.2.2.1 = h1_0 ∧ s.2.2.2.2.2.2.1 = h1_1 ∧ s.2.2.2.2.2.2.2.1 = h1_2) ∧ inv s.2.1 s.2.2.1 s.2.2.2.1 s.2.2.2.2.1) ∧ μ s.2.1 s.2.2.1 s.2.2.2.1 s.2.2.2.2.1 < μ s5 h0_0 h0_1 h0_2) (fun s5q h0_0q h0_1q h0_2q => inv s5q h0_0q h0_1q h0_2q ∧ μ s5q h0_0q h0_1q h0_2q < μ s5 h0_0 h0_1 h0_2) s0 h1_0 h1_1 h1_2 s5 h0_0 h0_1 h0_2) : Md.Loop (s0, s5, h0_0, h0_1, h0_2, h1_0, h1_1, h1_2, ()) (k8s (r0.a0, r0.a1, r0.a2, ())) :=
  ⟨⟨fun s : Int × Int × Int × Int × Int × Int × Int × Int × Unit => (s.1 = s0 ∧ s.2.2.2.2.2.1 = h1_0 ∧ s.2.2.2.2.2.2.1 = h1_1 ∧ s.2.2.2.2.2.2.2.1 = h1_2) ∧ inv s.2.1 s.2.2.1 s.2.2.2.1 s.2.2.2.2.1, fun s : Int × Int × Int × Int × Int × Int × Int × Int × Unit => μ s.2.1 s.2.2.1 s.2.2.2.1 s.2.2.2.2.1, ⟨⟨rfl, rfl, rfl, rfl⟩, h0⟩, fun (s0p, s5p, h0_0p, h0_1p, h0_2p, h1_0p, h1_1p, h1_2p, ()) ⟨⟨eq0, eq1, eq2, eq3⟩, hi⟩ => by
    have eq0 : s0p = s0 := eq0; subst s0p; have eq1 : h1_0p = h1_0 := eq1; subst h1_0p; have eq2 : h1_1p = h1_1 := eq2; subst h1_1p; have eq3 : h1_2p = h1_2 := eq3; subst h1_2p; exact mpr_of (by kernel_rfl) ((congrArg (fun k => kmx r0 (fun s : Int × Int × Int × Int × Int × Int × Int × Int × Unit => ((s.1 = s0 ∧ s.2.2.2.2.2.1 = h1_0 ∧ s.2.2.2.2.2.2.1 = h1_1 ∧ s.2.2.2.2.2.2.2.1 = h1_2) ∧ inv s.2.1 s.2.2.1 s.2.2.2.1 s.2.2.2.2.1) ∧ μ s.2.1 s.2.2.1 s.2.2.2.1 s.2.2.2.2.1 < μ s5p h0_0p h0_1p h0_2p) k s0 h1_0 h1_1 h1_2 s5p h0_0p h0_1p h0_2p) (lpk4 (⟨rfl, rfl, rfl, rfl⟩ : s0 = s0 ∧ h1_0 = h1_0 ∧ h1_1 = h1_1 ∧ h1_2 = h1_2) inv (fun s5q h0_0q h0_1q h0_2q => μ s5q h0_0q h0_1q h0_2q < μ s5p h0_0p h0_1p h0_2p))).mpr (hs s5p h0_0p h0_1p h0_2p hi))⟩⟩
def kn1 (r0 : TA3) (nx2 : HL TB.den k1s.hs → Prop) (k1 : Int → Int → Int → Int → Prop) (s0 : Int) (s5 : Int) (h1_0 : Int) (h1_1 : Int) (h1_2 : Int) (s6 : Int) (h0_0 : Int) (h0_1 : Int) (h0_2 : Int) : Prop :=
(decide (s6 < 3) = true →
(0 ≤ s6 ∧ s6 < (3 : Int)) ∧ (0 ≤ s6 ∧ s6 < (3 : Int)) ∧ (s0 = 18446744069414584321 ∧ (0 ≤ s5 ∧ s5 < 8) ∧ 0 ≤ s6 ∧ s6 < 3) ∧ (s0 = 18446744069414584321 ∧ U64 (ix [h0_0, h0_1, h0_2] s6) ∧ U64 (rc s5 s6)) ∧ let r1 : Int := (((ix [h0_0, h0_1, h0_2] s6) + (rc s5 s6)) % 18446744069414584321)
(s0 = 18446744069414584321) ∧ (s0 = 18446744069414584321 ∧ U64 r1 ∧ U64 (7 : Int)) ∧ (0 ≤ s6 ∧ s6 < (3 : Int)) ∧ (0 ≤ s6 ∧ s6 < (3 : Int)) ∧ k1 (IntKind.i64.wrap (s6 + 1) : Int) ((bif decide (s6 = (0 : Int)) then (pw r1 (7 : Int)) else h0_0) : Int) ((bif decide (s6 = (1 : Int)) then (pw r1 (7 : Int)) else h0_1) : Int) ((bif decide (s6 = (2 : Int)) then (pw r1 (7 : Int)) else h0_2) : Int)) ∧
(decide (s6 < 3) = false →
(s0 = 18446744069414584321 ∧ S3 (TA3.mk h0_0 h0_1 h0_2)) ∧ nx2 (s0, (IntKind.i64.wrap (s5 + 1) : Int), ((mixS (TA3.mk h0_0 h0_1 h0_2)).a0 : Int), ((mixS (TA3.mk h0_0 h0_1 h0_2)).a1 : Int), ((mixS (TA3.mk h0_0 h0_1 h0_2)).a2 : Int), h1_0, h1_1, h1_2, ()))
set_option maxRecDepth 100000 in
theorem kys {r0 : TA3} {nx2 : HL TB.den k1s.hs → Prop} {s0 : Int} {s5 : Int} {h1_0 : Int} {h1_1 : Int} {h1_2 : Int} {s6 : Int} {h0_0 : Int} {h0_1 : Int} {h0_2 : Int} (inv : Int → Int → Int → Int → Prop) (μ : Int → Int → Int → Int → Nat) (h0 : inv s6 h0_0 h0_1 h0_2) (hs : ∀ (s6 : Int) (h0_0 : Int) (h0_1 : Int) (h0_2 : Int), inv s6 h0_0 h0_1 h0_2 → kn1 r0 nx2 (fun s6q h0_0q h0_1q h0_2q => inv s6q h0_0q h0_1q h0_2q ∧ μ s6q h0_0q h0_1q h0_2q < μ s6 h0_0 h0_1 h0_2) s0 s5 h1_0 h1_1 h1_2 s6 h0_0 h0_1 h0_2) : Md.Loop (s0, s5, s6, h0_0, h0_1, h0_2, h1_0, h1_1, h1_2, ()) (k8g (r0.a0, r0.a1, r0.a2, ()) nx2) :=
  ⟨⟨fun s : Int × Int × Int × Int × Int × Int × Int × Int × Int × Unit => (s.1 = s0 ∧ s.2.1 = s5 ∧ s.2.2.2.2.2.2.1 = h1_0 ∧ s.2.2.2.2.2.2.2.1 = h1_1 ∧ s.2.2.2.2.2.2.2.2.1 = h1_2) ∧ inv s.2.2.1 s.2.2.2.1 s.2.2.2.2.1 s.2.2.2.2.2.1, fun s : Int × Int × Int × Int × Int × Int × Int × Int × Int × Unit => μ s.2.2.1 s.2.2.2.1 s.2.2.2.2.1 s.2.2.2.2.2.1, ⟨⟨rfl, rfl, rfl, rfl, rfl⟩, h0⟩, fun (s0p, s5p, s6p, h0_0p, h0_1p, h0_2p, h1_0p, h1_1p, h1_2p, ()) ⟨⟨eq0, eq1, eq2, eq3, eq4⟩, hi⟩ => by
    have eq0 : s0p = s0 := eq0; subst s0p; have eq1 : s5p = s5 := eq1; subst s5p; have eq2 : h1_0p = h1_0 := eq2; subst h1_0p; have eq3 : h1_1p = h1_1 := eq3; subst h1_1p; have eq4 : h1_2p = h1_2 := eq4; subst h1_2p; exact mpr_of (by kernel_rfl) ((congrArg (fun k => kn1 r0 nx2 k s0 s5 h1_0 h1_1 h1_2 s6p h0_0p h0_1p h0_2p) (lpk4 (⟨rfl, rfl, rfl, rfl, rfl⟩ : s0 = s0 ∧ s5 = s5 ∧ h1_0 = h1_0 ∧ h1_1 = h1_1 ∧ h1_2 = h1_2) inv (fun s6q h0_0q h0_1q h0_2q => μ s6q h0_0q h0_1q h0_2q < μ s6p h0_0p h0_1p h0_2p))).mpr (hs s6p h0_0p h0_1p h0_2p hi))⟩⟩
theorem bd116 : Callable Try.prog 116 := ⟨by rw [Try.func116]; kernel_rfl, by rw [Try.func116]; show some _ ≠ some _; decide⟩
theorem kvv (p0 : Int) (p1 : TA3) (h : p0 = 18446744069414584321 ∧ S3 p1) : kdh (p0, p1.a0, p1.a1, p1.a2, ()) (((permS p1).a0 : Int), ((permS p1).a1 : Int), ((permS p1).a2 : Int), ()) := by
  obtain ⟨hP, hs⟩ := h
  subst hP
  refine k10x ⟨rfl, fun h => by simp at h, fun _ => ?_⟩
  refine kyo (r0 := permS p1) (fun n a b c => 0 ≤ n ∧ n ≤ 8 ∧ (⟨a, b, c⟩ : TA3) = rnds n.toNat p1 ∧ S3 ⟨a, b, c⟩) (fun n _ _ _ => (8 - n).toNat) ⟨by omega, by omega, rfl, hs⟩ ?_
  rintro n a b c ⟨g0, g1, g2, g3⟩
  refine ⟨fun h => ?_, fun h => ?_⟩
  · have h := of_decide_eq_true h
    refine kys (r0 := permS p1) (fun i x y z => (i = 0 ∧ x = a ∧ y = b ∧ z = c) ∨ (i = 1 ∧ x = pw ((a + rc n 0) % 18446744069414584321) 7 ∧ y = b ∧ z = c) ∨ (i = 2 ∧ x = pw ((a + rc n 0) % 18446744069414584321) 7 ∧ y = pw ((b + rc n 1) % 18446744069414584321) 7 ∧ z = c) ∨ (i = 3 ∧ x = pw ((a + rc n 0) % 18446744069414584321) 7 ∧ y = pw ((b + rc n 1) % 18446744069414584321) 7 ∧ z = pw ((c + rc n 2) % 18446744069414584321) 7)) (fun i _ _ _ => (3 - i).toNat) (.inl ⟨rfl, rfl, rfl, rfl⟩) ?_
    intro i x y z hi
    have hrc : ∀ k, U64 (rc n k) := fun k => by unfold rc; omega
    have hpw : ∀ k e, 0 ≤ pw k e ∧ pw k e < 18446744069414584321 := fun k e => ⟨Int.emod_nonneg _ (by omega), Int.emod_lt_of_pos _ (by omega)⟩
    obtain ⟨h3a, h3b, h3c⟩ := g3
    have u7 : U64 7 := by decide
    have hm : ∀ q : Int, U64 (q % 18446744069414584321) := fun q => ⟨Int.emod_nonneg _ (by omega), Int.lt_trans (Int.emod_lt_of_pos _ (by omega)) (by omega)⟩
    refine ⟨fun hh => ?_, fun hh => ?_⟩
    · have hh := of_decide_eq_true hh
      rcases hi with ⟨rfl, rfl, rfl, rfl⟩ | ⟨rfl, rfl, rfl, rfl⟩ | ⟨rfl, rfl, rfl, rfl⟩ | ⟨rfl, _⟩
      · exact ⟨by omega, by omega, ⟨rfl, by omega, by omega⟩, ⟨rfl, h3a, hrc _⟩, rfl, ⟨rfl, hm _, u7⟩, by omega, by omega, .inr (.inl ⟨rfl, rfl, rfl, rfl⟩), by decide⟩
      · exact ⟨by omega, by omega, ⟨rfl, by omega, by omega⟩, ⟨rfl, h3b, hrc _⟩, rfl, ⟨rfl, hm _, u7⟩, by omega, by omega, .inr (.inr (.inl ⟨rfl, rfl, rfl, rfl⟩)), by decide⟩
      · exact ⟨by omega, by omega, ⟨rfl, by omega, by omega⟩, ⟨rfl, h3c, hrc _⟩, rfl, ⟨rfl, hm _, u7⟩, by omega, by omega, .inr (.inr (.inr ⟨rfl, rfl, rfl, rfl⟩)), by decide⟩
      · omega
    · have hh := of_decide_eq_false hh
      rcases hi with ⟨rfl, _⟩ | ⟨rfl, _⟩ | ⟨rfl, _⟩ | ⟨rfl, rfl, rfl, rfl⟩
      · omega
      · omega
      · omega
      · have e : rnds (n + 1).toNat p1 = rnd ⟨a, b, c⟩ n := by
          rw [show (n + 1).toNat = n.toNat + 1 by omega]
          show rnd (rnds n.toNat p1) (n.toNat : Int) = _
          rw [← g2, show (n.toNat : Int) = n by omega]
        have hS : S3 (rnds (n + 1).toNat p1) := by
          rw [e]
          unfold rnd mixS S3
          dsimp only
          omega
        have hinc : IntKind.i64.wrap (n + 1) = n + 1 := wi _ (by omega) (by omega)
        rw [hinc]
        refine ⟨⟨rfl, by unfold S3; have := hpw ((a + rc n 0) % 18446744069414584321) 7; have := hpw ((b + rc n 1) % 18446744069414584321) 7; have := hpw ((c + rc n 2) % 18446744069414584321) 7; dsimp only; omega⟩, ⟨⟨rfl, rfl, rfl, rfl⟩, (?_ : 0 ≤ n + 1 ∧ n + 1 ≤ 8 ∧ _ ∧ _)⟩, (?_ : (8 - (n + 1)).toNat < (8 - n).toNat)⟩
        · refine ⟨by omega, by omega, e.symm, ?_⟩
          rw [e] at hS
          exact hS
        · omega
  · have h := of_decide_eq_false h
    rw [show n = 8 by omega] at g2
    have g2 : (⟨a, b, c⟩ : TA3) = permS p1 := g2
    rw [← g2]
    exact ⟨rfl, rfl, rfl⟩
noncomputable def klj : Con TB.den := k1j.fnR (fun x => (fun (p0 : Int) (p1 : TA3) => p0 = 18446744069414584321 ∧ S3 p1) x.1 (TA3.mk x.2.1 x.2.2.1 x.2.2.2.1)) fun x => ((fun (p0 : Int) (p1 : TA3) => ((permS p1).a0 : Int)) x.1 (TA3.mk x.2.1 x.2.2.1 x.2.2.2.1), (fun (p0 : Int) (p1 : TA3) => ((permS p1).a1 : Int)) x.1 (TA3.mk x.2.1 x.2.2.1 x.2.2.2.1), (fun (p0 : Int) (p1 : TA3) => ((permS p1).a2 : Int)) x.1 (TA3.mk x.2.1 x.2.2.1 x.2.2.2.1), ())
theorem kzr : klj.Ok Try.prog TB := Con.ok_fn k1j bd116 fun x h => kxz (kvv x.1 (TA3.mk x.2.1 x.2.2.1 x.2.2.2.1) h)
end Go.Proofs.Ytpffhgljgpjenaa
namespace Go.Proofs.Ytpffhgljgpjenaa
open Go Go.Bv Go.Cv Go.Md Go.RowKit
def k1t : Con TB.den := Con.mk0 107 [.one (.d (.int .u64)), .one (.d (.int .u64)), .one (.d (.sl (.int .u64)))] [] (.one (.agg [.d (.int .u64), .d (.int .u64), .d (.int .u64)])) []
abbrev ks1 := HL TB.den (hsT k1t.ins (hsOs k1t.pre))
abbrev k1w := HL TB.den (hsV k1t.res (hsOs k1t.post))
noncomputable def k30 : Cx TB := ⟨inf, [km3, kce, klj], [], 4⟩
noncomputable def k40 : Code := Try.f107.body.getD .skip
noncomputable def ka0 : List ResultVar := Try.f107.results.toList
noncomputable def k12a (o : k1w) : Exit → TSt TB.den → Prop := thenT TB (fun s => ghs TB [] s fun s => WP TB k30 60 0 (cB (cB (cB k40))) .no s (retTQ TB k30 k1t ka0 o)) (retTQ TB k30 k1t ka0 o)
def k15 : Tm := ⟨[0, 1], [.cells [.d (.int .u64), .d (.int .u64), .d (.int .u64)], .cells [.d (.int .u64), .d (.int .u64), .d (.int .u64)]], [0, 2, 6, 7, 8], [.one (.d (.int .u64)), .one (.d (.sl (.int .u64))), .one (.ptr 0 0), .one (.ptr 1 0), .one (.d (.int .i64))], 2⟩
noncomputable def kcx (o : k1w) (nx1 : HL TB.den k15.hs → Prop) : Exit → TSt TB.den → Prop := thenT TB (fun s => k15.mat TB 0 s nx1) (blockT TB 0 (k12a o))
noncomputable def kq4 (o : k1w) (nx1 : HL TB.den k15.hs → Prop) : Exit → TSt TB.den → Prop := thenT TB (fun s => ghs TB [] s fun s => WP TB k30 60 0 (cB (cB (cA (cA (cB (cA (cB (cB k40)))))))) .no s (kcx o nx1)) (kcx o nx1)
def k93 : Tm := ⟨[0, 1], [.cells [.d (.int .u64), .d (.int .u64), .d (.int .u64)], .cells [.d (.int .u64), .d (.int .u64), .d (.int .u64)]], [0, 2, 6, 7, 8], [.one (.d (.int .u64)), .one (.d (.sl (.int .u64))), .one (.ptr 0 0), .one (.ptr 1 0), .one (.d (.int .i64))], 2⟩
noncomputable def kmr (o : k1w) (nx1 : HL TB.den k15.hs → Prop) (i : HL TB.den k93.hs) : Prop := ghs TB [] (k93.fill TB i) fun s => WP TB k30 60 0 (cB (cB (cA (cA (cB (cA (cA (cB (cA (cB (cB k40))))))))))) .no s (blockT TB 1 (kq4 o nx1))
structure k6e (o : k1w) (nx1 : HL TB.den k15.hs → Prop) (i : HL TB.den k93.hs) : Prop where
  h : kmr o nx1 i
def kbq : Tm := ⟨[0, 1], [.cells [.d (.int .u64), .d (.int .u64), .d (.int .u64)], .cells [.d (.int .u64), .d (.int .u64), .d (.int .u64)]], [0, 2, 6, 7, 8], [.one (.d (.int .u64)), .one (.d (.sl (.int .u64))), .one (.ptr 0 0), .one (.ptr 1 0), .one (.d (.int .i64))], 2⟩
noncomputable def kna (o : k1w) (nx1 : HL TB.den k15.hs → Prop) (i : HL TB.den kbq.hs) : Prop := ghs TB [] (kbq.fill TB i) fun s => WP TB k30 60 0 (cB (cA (cA (cB (cA (cA (cB (cA (cB (cB k40)))))))))) (.jn k93 (k6e o nx1) [] .no [] .no) s (blockT TB 1 (kq4 o nx1))
structure k9p (o : k1w) (nx1 : HL TB.den k15.hs → Prop) (i : HL TB.den kbq.hs) : Prop where
  h : kna o nx1 i
noncomputable def kpa (o : k1w) (nx1 : HL TB.den k15.hs → Prop) : An TB := .jn kbq (k9p o nx1) [] .no [] (.jn k93 (k6e o nx1) [] .no [] .no)
def kbt : Tm := ⟨[0, 1], [.cells [.d (.int .u64), .d (.int .u64), .d (.int .u64)], .cells [.d (.int .u64), .d (.int .u64), .d (.int .u64)]], [0, 2, 6, 7, 8], [.one (.d (.int .u64)), .one (.d (.sl (.int .u64))), .one (.ptr 0 0), .one (.ptr 1 0), .one (.d (.int .i64))], 2⟩
noncomputable def knq (o : k1w) (nx1 : HL TB.den k15.hs → Prop) (i : HL TB.den kbt.hs) : Prop := ghs TB [] (kbt.fill TB i) fun s => WP TB k30 60 0 (cB (cA (cA (cB (cA (cB (cB k40))))))) (.nd [] (kpa o nx1) [] .no) s (kcx o nx1)
structure k7s (o : k1w) (nx1 : HL TB.den k15.hs → Prop) (i : HL TB.den kbt.hs) : Prop where
  h : knq o nx1 i
noncomputable def kqb (o : k1w) (nx1 : HL TB.den k15.hs → Prop) : An TB := .jn kbt (k7s o nx1) [] .no [] (.nd [] (kpa o nx1) [] .no)
noncomputable def k9s (o : k1w) (nx1 : HL TB.den k15.hs → Prop) (i : HL TB.den k15.hs) : Prop := WP TB k30 60 0 (cA (cA (cB (cA (cB (cB k40)))))) (kqb o nx1) (k15.fill TB i) (kcx o nx1)
noncomputable def k12s (o : k1w) : An TB := .lp [] k15 (k9s o) fun nx1 => (kqb o nx1)
noncomputable def k10n (o : k1w) : An TB := .nd [] .no [] (.nd [] (.nd [] .no [] (k12s o)) [] .no)
noncomputable def kpr (o : k1w) : An TB := .nd [] .no [] (k10n o)
noncomputable def kex (x : ks1) (o : k1w) : Prop := WPh TB k30 60 0 k40 (kpr o) (k1t.st TB x) (retTQ TB k30 k1t ka0 o)
set_option maxRecDepth 100000 in
theorem k110 (o : k1w) : OblH TB k30 60 0 k40 (kpr o) (retTQ TB k30 k1t ka0 o) :=
  OblH.of_eq (X := (True ∧ (True ∧ ((True ∧ ((∀ nx i, (k9s o) nx i = (k9s o) nx i) ∧ ∀ nx1 : HL TB.den k15.hs → Prop, ((True ∧ (True ∧ True)) ∧ (∀ i, (k7s o nx1) i = (knq o nx1) i) ∧ (((True ∧ (True ∧ True)) ∧ (∀ i, (k9p o nx1) i = (kna o nx1) i) ∧ ((True ∧ (True ∧ True)) ∧ (∀ i, (k6e o nx1) i = (kmr o nx1) i) ∧ True)) ∧ True)))) ∧ (True ∧ True))))) (by kernel_rfl) ⟨trivial, ⟨trivial, ⟨⟨trivial, ⟨fun _ _ => rfl, fun _ => ⟨⟨trivial, ⟨trivial, trivial⟩⟩, fun _ => propext ⟨fun h => h.1, fun h => ⟨h⟩⟩, ⟨⟨⟨trivial, ⟨trivial, trivial⟩⟩, fun _ => propext ⟨fun h => h.1, fun h => ⟨h⟩⟩, ⟨⟨trivial, ⟨trivial, trivial⟩⟩, fun _ => propext ⟨fun h => h.1, fun h => ⟨h⟩⟩, trivial⟩⟩, trivial⟩⟩⟩⟩, ⟨trivial, trivial⟩⟩⟩⟩
set_option maxRecDepth 100000 in
theorem k10a {x : ks1} {o : k1w} (h : kex x o) : SoundH Try.prog k1t.f ((k1t.args idf x).map (er TB)) ((k1t.obs idf x).map (erO TB)) (er TB (k1t.val idf o)) ((k1t.ops idf o).map (erO TB)) :=
  Con.soundH (c := k1t) (C := k30) TBok ⟨inf_ok, (all_cons kxe (all_cons kis (all_cons kzr all_nil))), all_nil⟩ mix Try.func107 (show Try.f107.body = some k40 by kernel_rfl) (show Try.f107.ntmps = 60 by kernel_rfl) (show Try.f107.results.toList = ka0 by kernel_rfl) rfl h (k110 o)
set_option maxRecDepth 100000 in
theorem k13e {p0 : Int} {p1 : Int} {p2 : List Int} {r0 : TA3} (h :
((p0 = 18446744069414584321 ∧ U64 p1 ∧ U64 (65536 : Int)) ∧ let r1 : Int := (p1 * (65536 : Int) % 18446744069414584321)
(p0 = 18446744069414584321 ∧ U64 r1 ∧ U64 (IntKind.u64.wrap (p2.length : Int))) ∧ let r2 : Int := ((r1 + (IntKind.u64.wrap (p2.length : Int))) % 18446744069414584321)
 Md.Loop (p0, p2, (0 : Int), (0 : Int), (0 : Int), (0 : Int), (0 : Int), (0 : Int), r2, ()) (k9s (r0.a0, r0.a1, r0.a2, ())))) : kex (p0, p1, p2, ()) (r0.a0, r0.a1, r0.a2, ()) := WPh.of_eq (by kernel_rfl) h
set_option maxRecDepth 100000 in
theorem kwb {r0 : TA3} {nx1 : HL TB.den k15.hs → Prop} {s0 : Int} {s2 : List Int} {s8 : Int} {h0_0 : Int} {h0_1 : Int} {h0_2 : Int} {h1_0 : Int} {h1_1 : Int} {h1_2 : Int} (h :
((decide (s8 < (s2.length : Int)) = true →
(0 ≤ s8) ∧ s8 < (s2.length : Int) ∧ (s0 = 18446744069414584321 ∧ U64 h1_0 ∧ U64 (ix s2 s8)) ∧ let r3 : Int := ((h1_0 + (ix s2 s8)) % 18446744069414584321)
 k9p (r0.a0, r0.a1, r0.a2, ()) nx1 (s0, s2, s8, h0_0, h0_1, h0_2, r3, h1_1, h1_2, ())) ∧
(decide (s8 < (s2.length : Int)) = false →
 k9p (r0.a0, r0.a1, r0.a2, ()) nx1 (s0, s2, s8, h0_0, h0_1, h0_2, h1_0, h1_1, h1_2, ())))) : k7s (r0.a0, r0.a1, r0.a2, ()) nx1 (s0, s2, s8, h0_0, h0_1, h0_2, h1_0, h1_1, h1_2, ()) := ⟨mpr_of (by kernel_rfl) h⟩
set_option maxRecDepth 100000 in
theorem kj2 {r0 : TA3} {nx1 : HL TB.den k15.hs → Prop} {s0 : Int} {s2 : List Int} {s8 : Int} {h0_0 : Int} {h0_1 : Int} {h0_2 : Int} {h1_0 : Int} {h1_1 : Int} {h1_2 : Int} (h :
(let v4 : Bool := decide ((IntKind.i64.wrap (s8 + 1)) < (s2.length : Int))
(v4 = true →
(0 ≤ IntKind.i64.wrap (s8 + 1)) ∧ IntKind.i64.wrap (s8 + 1) < (s2.length : Int) ∧ (s0 = 18446744069414584321 ∧ U64 h1_1 ∧ U64 (ix s2 (IntKind.i64.wrap (s8 + 1)))) ∧ let r5 : Int := ((h1_1 + (ix s2 (IntKind.i64.wrap (s8 + 1)))) % 18446744069414584321)
 k6e (r0.a0, r0.a1, r0.a2, ()) nx1 (s0, s2, s8, h0_0, h0_1, h0_2, h1_0, r5, h1_2, ())) ∧
(v4 = false →
 k6e (r0.a0, r0.a1, r0.a2, ()) nx1 (s0, s2, s8, h0_0, h0_1, h0_2, h1_0, h1_1, h1_2, ())))) : k9p (r0.a0, r0.a1, r0.a2, ()) nx1 (s0, s2, s8, h0_0, h0_1, h0_2, h1_0, h1_1, h1_2, ()) := ⟨mpr_of (by kernel_rfl) h⟩
set_option maxRecDepth 100000 in
theorem kwa {r0 : TA3} {nx1 : HL TB.den k15.hs → Prop} {s0 : Int} {s2 : List Int} {s8 : Int} {h0_0 : Int} {h0_1 : Int} {h0_2 : Int} {h1_0 : Int} {h1_1 : Int} {h1_2 : Int} (h :
((s0 = 18446744069414584321 ∧ S3 (TA3.mk h1_0 h1_1 h1_2)) ∧ nx1 (s0, s2, (IntKind.i64.wrap (s8 + 2) : Int), h0_0, h0_1, h0_2, ((permS (TA3.mk h1_0 h1_1 h1_2)).a0 : Int), ((permS (TA3.mk h1_0 h1_1 h1_2)).a1 : Int), ((permS (TA3.mk h1_0 h1_1 h1_2)).a2 : Int), ()))) : k6e (r0.a0, r0.a1, r0.a2, ()) nx1 (s0, s2, s8, h0_0, h0_1, h0_2, h1_0, h1_1, h1_2, ()) := ⟨mpr_of (by kernel_rfl) h⟩
def kqe (r0 : TA3) (nx1 : HL TB.den k15.hs → Prop) (k1 : Int → Int → Int → Int → Prop) (s0 : Int) (s2 : List Int) (h0_0 : Int) (h0_1 : Int) (h0_2 : Int) (s8 : Int) (h1_0 : Int) (h1_1 : Int) (h1_2 : Int) : Prop :=
((s8 == 0) = true →
 k7s (r0.a0, r0.a1, r0.a2, ()) nx1 (s0, s2, s8, h0_0, h0_1, h0_2, h1_0, h1_1, h1_2, ())) ∧
((s8 == 0) = false →
(decide (s8 < (s2.length : Int)) = true →
 k7s (r0.a0, r0.a1, r0.a2, ()) nx1 (s0, s2, s8, h0_0, h0_1, h0_2, h1_0, h1_1, h1_2, ())) ∧
(decide (s8 < (s2.length : Int)) = false →
 h1_0 = r0.a0 ∧ h1_1 = r0.a1 ∧ h1_2 = r0.a2))
set_option maxRecDepth 100000 in
theorem k10y {r0 : TA3} {s0 : Int} {s2 : List Int} {h0_0 : Int} {h0_1 : Int} {h0_2 : Int} {s8 : Int} {h1_0 : Int} {h1_1 : Int} {h1_2 : Int} (inv : Int → Int → Int → Int → Prop) (μ : Int → Int → Int → Int → Nat) (h0 : inv s8 h1_0 h1_1 h1_2) (hs : ∀ (s8 : Int) (h1_0 : Int) (h1_1 : Int) (h1_2 : Int), inv s8 h1_0 h1_1 h1_2 → kqe r0 (fun s : Int × (List Int) × Int × Int × Int × Int × Int × Int × Int × Unit => ((s.1 = s0 ∧ s.2.1 = s2 ∧ s.2.2.2.1 = h0_0 ∧ s.2.2.2.2.1 = h0_1 ∧ s.2.2.2.2.2.1 = h0_2) ∧ inv s.2.2.1 s.2.2.2.2.2.2.1 s.2.2.2.2.2.2.2.1 s.2.2.2.2.2.2.2.2.1) ∧ μ s.2.2.1 s.2.2.2.2.2.2.1 s.2.2.2.2.2.2.2.1 s.2.2.2.2.2.2.2.2.1 < μ s8 h1_0 h1_1 h1_2) (fun s8q h1_0q h1_1q h1_2q => inv s8q h1_0q h1_1q h1_2q ∧ μ s8q h1_0q h1_1q h1_2q < μ s8 h1_0 h1_1 h1_2) s0 s2 h0_0 h0_1 h0_2 s8 h1_0 h1_1 h1_2) : Md.Loop (s0, s2, s8, h0_0, h0_1, h0_2, h1_0, h1_1, h1_2, ()) (k9s (r0.a0, r0.a1, r0.a2, ())) :=
  ⟨⟨fun s : Int × (List Int) × Int × Int × Int × Int × Int × Int × Int × Unit => (s.1 = s0 ∧ s.2.1 = s2 ∧ s.2.2.2.1 = h0_0 ∧ s.2.2.2.2.1 = h0_1 ∧ s.2.2.2.2.2.1 = h0_2) ∧ inv s.2.2.1 s.2.2.2.2.2.2.1 s.2.2.2.2.2.2.2.1 s.2.2.2.2.2.2.2.2.1, fun s : Int × (List Int) × Int × Int × Int × Int × Int × Int × Int × Unit => μ s.2.2.1 s.2.2.2.2.2.2.1 s.2.2.2.2.2.2.2.1 s.2.2.2.2.2.2.2.2.1, ⟨⟨rfl, rfl, rfl, rfl, rfl⟩, h0⟩, fun (s0p, s2p, s8p, h0_0p, h0_1p, h0_2p, h1_0p, h1_1p, h1_2p, ()) ⟨⟨eq0, eq1, eq2, eq3, eq4⟩, hi⟩ => by
    have eq0 : s0p = s0 := eq0; subst s0p; have eq1 : s2p = s2 := eq1; subst s2p; have eq2 : h0_0p = h0_0 := eq2; subst h0_0p; have eq3 : h0_1p = h0_1 := eq3; subst h0_1p; have eq4 : h0_2p = h0_2 := eq4; subst h0_2p; exact mpr_of (by kernel_rfl) ((congrArg (fun k => kqe r0 (fun s : Int × (List Int) × Int × Int × Int × Int × Int × Int × Int × Unit => ((s.1 = s0 ∧ s.2.1 = s2 ∧ s.2.2.2.1 = h0_0 ∧ s.2.2.2.2.1 = h0_1 ∧ s.2.2.2.2.2.1 = h0_2) ∧ inv s.2.2.1 s.2.2.2.2.2.2.1 s.2.2.2.2.2.2.2.1 s.2.2.2.2.2.2.2.2.1) ∧ μ s.2.2.1 s.2.2.2.2.2.2.1 s.2.2.2.2.2.2.2.1 s.2.2.2.2.2.2.2.2.1 < μ s8p h1_0p h1_1p h1_2p) k s0 s2 h0_0 h0_1 h0_2 s8p h1_0p h1_1p h1_2p) (lpk4 (⟨rfl, rfl, rfl, rfl, rfl⟩ : s0 = s0 ∧ s2 = s2 ∧ h0_0 = h0_0 ∧ h0_1 = h0_1 ∧ h0_2 = h0_2) inv (fun s8q h1_0q h1_1q h1_2q => μ s8q h1_0q h1_1q h1_2q < μ s8p h1_0p h1_1p h1_2p))).mpr (hs s8p h1_0p h1_1p h1_2p hi))⟩⟩
theorem bd107 : Callable Try.prog 107 := ⟨by rw [Try.func107]; kernel_rfl, by rw [Try.func107]; show some _ ≠ some _; decide⟩
theorem kyt (p0 : Int) (p1 : Int) (p2 : List Int) (h : p0 = 18446744069414584321 ∧ U64 p1 ∧ Us p2 ∧ p2.length ≤ 1099511627776) : kex (p0, p1, p2, ()) (((absS p1 p2).a0 : Int), ((absS p1 p2).a1 : Int), ((absS p1 p2).a2 : Int), ()) := by
  obtain ⟨hP, h1, h2, h3⟩ := h
  subst hP
  have hp := ka1
  have hi : S3 (absI p1 p2) := by unfold absI S3; dsimp only; omega
  have e : IntKind.u64.wrap (p2.length : Int) = p2.length := wu _ (by omega) (by omega)
  have em : (p1 * 65536 % 18446744069414584321 + (p2.length : Int)) % 18446744069414584321 = (absI p1 p2).a2 := rfl
  refine k13e ?_
  rw [e]
  refine ⟨⟨rfl, h1, by omega⟩, ⟨rfl, by omega, by omega⟩, ?_⟩
  rw [em]
  have j3 : ∀ nx (i x y z : Int), 0 ≤ i → i ≤ p2.length → S3 ⟨x, y, z⟩ → nx ((18446744069414584321 : Int), p2, (i + 2 : Int), (0 : Int), (0 : Int), (0 : Int), (permS ⟨x, y, z⟩).a0, (permS ⟨x, y, z⟩).a1, (permS ⟨x, y, z⟩).a2, ()) → k6e ((absS p1 p2).a0, (absS p1 p2).a1, (absS p1 p2).a2, ()) nx ((18446744069414584321 : Int), p2, i, (0 : Int), (0 : Int), (0 : Int), x, y, z, ()) := by
    intro nx i x y z g0 g1 hS hn
    refine kwa (r0 := absS p1 p2) ?_
    rw [wi (i + 2) (by omega) (by omega)]
    exact ⟨⟨rfl, hS⟩, hn⟩
  refine k10y (r0 := absS p1 p2) (fun i a b c => (i = 0 ∧ a = 0 ∧ b = 0 ∧ c = (absI p1 p2).a2) ∨ (0 < i ∧ i ≤ p2.length + 2 ∧ absL (p2.drop i.toNat) ⟨a, b, c⟩ = absS p1 p2 ∧ S3 ⟨a, b, c⟩)) (fun i _ _ _ => (p2.length + 4 - i).toNat) (.inl ⟨rfl, rfl, rfl, rfl⟩) ?_
  intro i a b c hg
  have body : ∀ (i : Int) (a b c : Int), 0 ≤ i → i ≤ p2.length → (i < p2.length → absL (p2.drop i.toNat) ⟨a, b, c⟩ = absS p1 p2) → (¬ i < p2.length → permS ⟨a, b, c⟩ = absS p1 p2) → S3 ⟨a, b, c⟩ → ∀ nx, (∀ x y z, absL (p2.drop (i + 2).toNat) ⟨x, y, z⟩ = absS p1 p2 → S3 ⟨x, y, z⟩ → nx ((18446744069414584321 : Int), p2, (i + 2 : Int), (0 : Int), (0 : Int), (0 : Int), x, y, z, ())) →
      k7s ((absS p1 p2).a0, (absS p1 p2).a1, (absS p1 p2).a2, ()) nx ((18446744069414584321 : Int), p2, i, (0 : Int), (0 : Int), (0 : Int), a, b, c, ()) := by
    intro i a b c g0 g1 hne hnil hS nx hn
    obtain ⟨h3a, h3b, h3c⟩ := hS
    refine kwb (r0 := absS p1 p2) ⟨fun hh => ?_, fun hh => ?_⟩
    · have hh := of_decide_eq_true hh
      have hx := h2 _ (ix_mem p2 i g0 hh)
      have g2 := hne hh
      rw [drop_ix p2 i g0 hh] at g2
      refine ⟨g0, hh, ⟨rfl, h3a, hx⟩, kj2 (r0 := absS p1 p2) ?_⟩
      rw [wi (i + 1) (by omega) (by omega)]
      refine ⟨fun h5 => ?_, fun h5 => ?_⟩
      · have h5 := of_decide_eq_true h5
        have hy := h2 _ (ix_mem p2 (i + 1) (by omega) h5)
        rw [drop_ix p2 (i + 1) (by omega) h5, show i + 1 + 1 = i + 2 by omega] at g2
        exact ⟨by omega, h5, ⟨rfl, h3b, hy⟩, j3 _ _ _ _ _ g0 g1 (S3m (by omega) (by omega) h3c) (hn _ _ _ g2 (hp _))⟩
      · have h5 := of_decide_eq_false h5
        have ed : p2.drop (i + 1).toNat = [] := List.drop_eq_nil_of_le (by omega)
        have ed2 : p2.drop (i + 2).toNat = [] := List.drop_eq_nil_of_le (by omega)
        rw [ed] at g2
        exact j3 _ _ _ _ _ g0 g1 (S3m (by omega) h3b h3c) (hn _ _ _ (by rw [ed2]; exact g2) (hp _))
    · have hh := of_decide_eq_false hh
      refine kj2 (r0 := absS p1 p2) ?_
      rw [wi (i + 1) (by omega) (by omega)]
      refine ⟨fun h5 => ?_, fun h5 => ?_⟩
      · have h5 := of_decide_eq_true h5
        omega
      · have ed2 : p2.drop (i + 2).toNat = [] := List.drop_eq_nil_of_le (by omega)
        exact j3 _ _ _ _ _ g0 g1 (S3m h3a h3b h3c) (hn _ _ _ (by rw [ed2]; exact hnil hh) (hp _))
  refine ⟨fun h0 => ?_, fun h0 => ⟨fun hh => ?_, fun hh => ?_⟩⟩
  · have h0 : i = 0 := by simpa using h0
    rcases hg with ⟨_, rfl, rfl, rfl⟩ | ⟨hp0, _⟩
    · subst h0
      refine body 0 _ _ _ (by omega) (by omega) (fun hl => ?_) (fun hl => ?_) hi _ fun x y z k1 k2 => ⟨⟨⟨rfl, rfl, rfl, rfl, rfl⟩, .inr ⟨(by omega : (0 : Int) < 0 + 2), (by omega : (0 : Int) + 2 ≤ p2.length + 2), k1, k2⟩⟩, (by omega : (p2.length + 4 - ((0 : Int) + 2)).toNat < (p2.length + 4 - 0 : Int).toNat)⟩
      · have hne : p2 ≠ [] := by rintro rfl; simp at hl
        unfold absS
        rw [if_neg hne]
        rfl
      · have hnil : p2 = [] := List.eq_nil_of_length_eq_zero (by omega)
        unfold absS
        rw [if_pos hnil]
        rfl
    · omega
  · have h0 : ¬ i = 0 := by simpa using h0
    have hh := of_decide_eq_true hh
    rcases hg with ⟨h1, _⟩ | ⟨g0, g1, g2, g3⟩
    · omega
    · exact body i _ _ _ (by omega) (by omega) (fun _ => g2) (fun hl => absurd hh hl) g3 _ fun x y z k1 k2 => ⟨⟨⟨rfl, rfl, rfl, rfl, rfl⟩, .inr ⟨(by omega : 0 < i + 2), (by omega : i + 2 ≤ p2.length + 2), k1, k2⟩⟩, (by omega : (p2.length + 4 - (i + 2)).toNat < (p2.length + 4 - i).toNat)⟩
  · have h0 : ¬ i = 0 := by simpa using h0
    have hh := of_decide_eq_false hh
    rcases hg with ⟨h1, _⟩ | ⟨g0, g1, g2, g3⟩
    · omega
    · rw [List.drop_eq_nil_of_le (by omega)] at g2
      have hv : (⟨a, b, c⟩ : TA3) = absS p1 p2 := g2
      rw [← hv]
      exact ⟨rfl, rfl, rfl⟩
noncomputable def kny : Con TB.den := k1t.fnR (fun x => (fun (p0 : Int) (p1 : Int) (p2 : List Int) => p0 = 18446744069414584321 ∧ U64 p1 ∧ Us p2 ∧ p2.length ≤ 1099511627776) x.1 x.2.1 x.2.2.1) fun x => ((fun (p0 : Int) (p1 : Int) (p2 : List Int) => ((absS p1 p2).a0 : Int)) x.1 x.2.1 x.2.2.1, (fun (p0 : Int) (p1 : Int) (p2 : List Int) => ((absS p1 p2).a1 : Int)) x.1 x.2.1 x.2.2.1, (fun (p0 : Int) (p1 : Int) (p2 : List Int) => ((absS p1 p2).a2 : Int)) x.1 x.2.1 x.2.2.1, ())
theorem k13k : kny.Ok Try.prog TB := Con.ok_fn k1t bd107 fun x h => k10a (kyt x.1 x.2.1 x.2.2.1 h)
end Go.Proofs.Ytpffhgljgpjenaa
namespace Go.Proofs.Ytpffhgljgpjenaa
open Go Go.Bv Go.Cv Go.Md Go.RowKit
def k3a : Con TB.den := Con.mk0 87 [.one (.d (.int .u64)), .one (.d (.int .u64)), .one (.d (.sl (.int .u64)))] [] (.one (.one (.d (.int .u64)))) []
abbrev kz0 := HL TB.den (hsT k3a.ins (hsOs k3a.pre))
abbrev kiv := HL TB.den (hsV k3a.res (hsOs k3a.post))
noncomputable def kcd : Cx TB := ⟨inf, [k6h, kny], [], 4⟩
noncomputable def kht : Code := Try.f87.body.getD .skip
noncomputable def klv : List ResultVar := Try.f87.results.toList
noncomputable def kux (o : kiv) : An TB := .no
noncomputable def khq (x : kz0) (o : kiv) : Prop := WPh TB kcd 15 0 kht (kux o) (k3a.st TB x) (retTQ TB kcd k3a klv o)
set_option maxRecDepth 100000 in
theorem k141 (o : kiv) : OblH TB kcd 15 0 kht (kux o) (retTQ TB kcd k3a klv o) :=
  OblH.of_eq (X := (True ∧ ((True ∧ ((True ∧ True) ∧ True)) ∧ (True ∧ True)))) (by kernel_rfl) ⟨trivial, ⟨⟨trivial, ⟨⟨trivial, trivial⟩, trivial⟩⟩, ⟨trivial, trivial⟩⟩⟩
set_option maxRecDepth 100000 in
theorem k14w {x : kz0} {o : kiv} (h : khq x o) : SoundH Try.prog k3a.f ((k3a.args idf x).map (er TB)) ((k3a.obs idf x).map (erO TB)) (er TB (k3a.val idf o)) ((k3a.ops idf o).map (erO TB)) :=
  Con.soundH (c := k3a) (C := kcd) TBok ⟨inf_ok, (all_cons k8i (all_cons k13k all_nil)), all_nil⟩ mix Try.func87 (show Try.f87.body = some kht by kernel_rfl) (show Try.f87.ntmps = 15 by kernel_rfl) (show Try.f87.results.toList = klv by kernel_rfl) rfl h (k141 o)
set_option maxRecDepth 100000 in
theorem k167 {p0 : Int} {p1 : Int} {p2 : List Int} {r0 : Int} (h :
((p0 = 18446744069414584321) ∧ ((!true) = true →
 0 = r0) ∧
((!true) = false →
(p0 = 18446744069414584321 ∧ U64 p1 ∧ Us p2 ∧ p2.length ≤ 1099511627776) ∧ (absS p1 p2).a0 = r0))) : khq (p0, p1, p2, ()) (r0, ()) := WPh.of_eq (by kernel_rfl) h
theorem bd87 : Callable Try.prog 87 := ⟨by rw [Try.func87]; kernel_rfl, by rw [Try.func87]; show some _ ≠ some _; decide⟩
theorem k136 (p0 : Int) (p1 : Int) (p2 : List Int) (h : p0 = 18446744069414584321 ∧ U64 p1 ∧ Us p2 ∧ p2.length ≤ 1099511627776) : khq (p0, p1, p2, ()) (((hashS p1 p2) : Int), ()) := by
  obtain ⟨hP, h1, h2, h3⟩ := h
  subst hP
  exact k167 ⟨rfl, fun h => by simp at h, fun _ => ⟨⟨rfl, h1, h2, h3⟩, rfl⟩⟩
noncomputable def kj1 : Con TB.den := k3a.fnR (fun x => (fun (p0 : Int) (p1 : Int) (p2 : List Int) => p0 = 18446744069414584321 ∧ U64 p1 ∧ Us p2 ∧ p2.length ≤ 1099511627776) x.1 x.2.1 x.2.2.1) fun x => ((fun (p0 : Int) (p1 : Int) (p2 : List Int) => ((hashS p1 p2) : Int)) x.1 x.2.1 x.2.2.1, ())
theorem kvf : kj1.Ok Try.prog TB := Con.ok_fn k3a bd87 fun x h => k14w (k136 x.1 x.2.1 x.2.2.1 h)
end Go.Proofs.Ytpffhgljgpjenaa
namespace Go.Proofs.Ytpffhgljgpjenaa
open Go Go.Bv Go.Cv Go.Md Go.RowKit
def k2l : Con TB.den := Con.mk0 90 [.one (.d (.int .u64)), .one (.d (.sl (.int .u64)))] [] (.one (.one (.d (.int .u64)))) []
abbrev kza := HL TB.den (hsT k2l.ins (hsOs k2l.pre))
abbrev k6x := HL TB.den (hsV k2l.res (hsOs k2l.post))
noncomputable def k5v : Cx TB := ⟨inf, [kj1], [], 4⟩
noncomputable def k9o : Code := Try.f90.body.getD .skip
noncomputable def kci : List ResultVar := Try.f90.results.toList
noncomputable def k16q (o : k6x) : Exit → TSt TB.den → Prop := thenT TB (fun s => ghs TB [] s fun s => WP TB k5v 25 0 (cB (cB (cB k9o))) .no s (retTQ TB k5v k2l kci o)) (retTQ TB k5v k2l kci o)
def k88 : Tm := ⟨[1], [.tip (.int .u64)], [0, 1, 5, 6], [.one (.d (.int .u64)), .one (.d (.sl (.int .u64))), .one (.own 0), .one (.d (.int .i64))], 2⟩
noncomputable def k16l (o : k6x) (nx1 : HL TB.den k88.hs → Prop) : Exit → TSt TB.den → Prop := thenT TB (fun s => k88.mat TB 0 s nx1) (blockT TB 0 (k16q o))
noncomputable def kcg (o : k6x) (nx1 : HL TB.den k88.hs → Prop) (i : HL TB.den k88.hs) : Prop := WP TB k5v 25 0 (cA (cA (cB (cA (cB (cB k9o)))))) .no (k88.fill TB i) (k16l o nx1)
noncomputable def k163 (o : k6x) : An TB := .lp [.tok 5 (.int .u64)] k88 (kcg o) fun nx1 => .no
noncomputable def k16b (o : k6x) : An TB := .nd [] .no [] (.nd [] (.nd [] .no [] (k163 o)) [] .no)
noncomputable def kv2 (o : k6x) : An TB := .nd [] .no [] (k16b o)
noncomputable def khp (x : kza) (o : k6x) : Prop := WPh TB k5v 25 0 k9o (kv2 o) (k2l.st TB x) (retTQ TB k5v k2l kci o)
set_option maxRecDepth 100000 in
theorem k15o (o : k6x) : OblH TB k5v 25 0 k9o (kv2 o) (retTQ TB k5v k2l kci o) :=
  OblH.of_eq (X := (True ∧ (True ∧ ((True ∧ ((∀ nx i, (kcg o) nx i = (kcg o) nx i) ∧ ∀ nx1 : HL TB.den k88.hs → Prop, ((True ∧ (True ∧ True)) ∧ (True ∧ True)))) ∧ (True ∧ True))))) (by kernel_rfl) ⟨trivial, ⟨trivial, ⟨⟨trivial, ⟨fun _ _ => rfl, fun _ => ⟨⟨trivial, ⟨trivial, trivial⟩⟩, ⟨trivial, trivial⟩⟩⟩⟩, ⟨trivial, trivial⟩⟩⟩⟩
set_option maxRecDepth 100000 in
theorem k14s {x : kza} {o : k6x} (h : khp x o) : SoundH Try.prog k2l.f ((k2l.args idf x).map (er TB)) ((k2l.obs idf x).map (erO TB)) (er TB (k2l.val idf o)) ((k2l.ops idf o).map (erO TB)) :=
  Con.soundH (c := k2l) (C := k5v) TBok ⟨inf_ok, (all_cons kvf all_nil), all_nil⟩ mix Try.func90 (show Try.f90.body = some k9o by kernel_rfl) (show Try.f90.ntmps = 25 by kernel_rfl) (show Try.f90.results.toList = kci by kernel_rfl) rfl h (k15o o)
set_option maxRecDepth 100000 in
theorem k16h {p0 : Int} {p1 : List Int} {r0 : Int} (h :
((([] : List Int) = ([] : List Int)) ∧ Md.Loop (p0, p1, (0 : Int), (([] : List Int) : List Int), ()) (kcg (r0, ())))) : khp (p0, p1, ()) (r0, ()) := WPh.of_eq (by kernel_rfl) h
def kuy (r0 : Int) (k1 : Int → List Int → Prop) (s0 : Int) (s1 : List Int) (s6 : Int) (g1 : List Int) : Prop :=
(decide (s6 < (s1.length : Int)) = true →
(0 ≤ s6) ∧ s6 < (s1.length : Int) ∧ g1.length = g1.length ∧ (g1.length + [Int.tmod (ix s1 s6) 18446744069414584321].length) * 8 ≤ 140737488355328 ∧ g1.length + [Int.tmod (ix s1 s6) 18446744069414584321].length ≤ maxLen ∧ let v1 : List Int := g1 ++ [Int.tmod (ix s1 s6) 18446744069414584321]
(v1 = v1) ∧ k1 (IntKind.i64.wrap (s6 + 1) : Int) v1) ∧
(decide (s6 < (s1.length : Int)) = false →
((18446744069414584321 : Int) = 18446744069414584321 ∧ U64 s0 ∧ Us g1 ∧ g1.length ≤ 1099511627776) ∧ (hashS s0 g1) = r0)
set_option maxRecDepth 100000 in
theorem k14v {r0 : Int} {s0 : Int} {s1 : List Int} {s6 : Int} {g1 : List Int} (inv : Int → List Int → Prop) (μ : Int → List Int → Nat) (h0 : inv s6 g1) (hs : ∀ (s6 : Int) (g1 : List Int), inv s6 g1 → kuy r0 (fun s6q g1q => inv s6q g1q ∧ μ s6q g1q < μ s6 g1) s0 s1 s6 g1) : Md.Loop (s0, s1, s6, g1, ()) (kcg (r0, ())) :=
  ⟨⟨fun s : Int × (List Int) × Int × (List Int) × Unit => (s.1 = s0 ∧ s.2.1 = s1) ∧ inv s.2.2.1 s.2.2.2.1, fun s : Int × (List Int) × Int × (List Int) × Unit => μ s.2.2.1 s.2.2.2.1, ⟨⟨rfl, rfl⟩, h0⟩, fun (s0p, s1p, s6p, g1p, ()) ⟨⟨eq0, eq1⟩, hi⟩ => by
    have eq0 : s0p = s0 := eq0; subst s0p; have eq1 : s1p = s1 := eq1; subst s1p; exact mpr_of (by kernel_rfl) ((congrArg (fun k => kuy r0 k s0 s1 s6p g1p) (lpk2 (⟨rfl, rfl⟩ : s0 = s0 ∧ s1 = s1) inv (fun s6q g1q => μ s6q g1q < μ s6p g1p))).mpr (hs s6p g1p hi))⟩⟩
theorem bd90 : Callable Try.prog 90 := ⟨by rw [Try.func90]; kernel_rfl, by rw [Try.func90]; show some _ ≠ some _; decide⟩
theorem k13r (p0 : Int) (p1 : List Int) (h : U64 p0 ∧ Us p1 ∧ (∀ x ∈ p1, x < 18446744069414584321) ∧ p1.length ≤ 1073741824) : khp (p0, p1, ()) (((hashS p0 p1) : Int), ()) := by
  obtain ⟨h0, h1, h2, h3⟩ := h
  refine k16h ⟨by trivial, k14v (fun i g => MapI (fun x => x) p1 i g) (fun i _ => (p1.length - i).toNat) MapI.start ?_⟩
  intro i g hg
  have hl := hg.len
  refine ⟨fun hh => ?_, fun hh => ?_⟩
  · have hh := of_decide_eq_true hh
    have hx := h1 _ (ix_mem p1 i hg.1 hh)
    have hx2 := h2 _ (ix_mem p1 i hg.1 hh)
    have e : Int.tmod (ix p1 i) 18446744069414584321 = ix p1 i := by rw [tmod_nn _ _ hx.1]; omega
    rw [e]
    have := hg.1
    exact ⟨hg.1, hh, rfl, by simp; omega, by simp; unfold maxLen; omega, by trivial, hg.next hh (by omega) rfl⟩
  · have e := hg.done (of_decide_eq_false hh)
    rw [List.map_id'] at e
    subst e
    exact ⟨⟨rfl, h0, h1, by omega⟩, rfl⟩
noncomputable def ktk : Con TB.den := k2l.fnR (fun x => (fun (p0 : Int) (p1 : List Int) => U64 p0 ∧ Us p1 ∧ (∀ x ∈ p1, x < 18446744069414584321) ∧ p1.length ≤ 1073741824) x.1 x.2.1) fun x => ((fun (p0 : Int) (p1 : List Int) => ((hashS p0 p1) : Int)) x.1 x.2.1, ())
theorem k16t : ktk.Ok Try.prog TB := Con.ok_fn k2l bd90 fun x h => k14s (k13r x.1 x.2.1 h)
end Go.Proofs.Ytpffhgljgpjenaa
namespace Go.Proofs.Ytpffhgljgpjenaa
open Go Go.Bv Go.Cv Go.Md Go.RowKit
def k1x : Con TB.den := Con.mk0 45 [.one (.d (.int .u64))] [] (.one (.one (.d (.int .u64)))) []
abbrev kpc := HL TB.den (hsT k1x.ins (hsOs k1x.pre))
abbrev kd0 := HL TB.den (hsV k1x.res (hsOs k1x.post))
noncomputable def k8c : Cx TB := ⟨inf, [ktk], [], 4⟩
noncomputable def kd7 : Code := Try.f45.body.getD .skip
noncomputable def kgi : List ResultVar := Try.f45.results.toList
noncomputable def kmm (o : kd0) : An TB := .no
noncomputable def kda (x : kpc) (o : kd0) : Prop := WPh TB k8c 6 0 kd7 (kmm o) (k1x.st TB x) (retTQ TB k8c k1x kgi o)
set_option maxRecDepth 100000 in
theorem kxk (o : kd0) : OblH TB k8c 6 0 kd7 (kmm o) (retTQ TB k8c k1x kgi o) :=
  OblH.of_eq (X := (True ∧ (True ∧ True))) (by kernel_rfl) ⟨trivial, ⟨trivial, trivial⟩⟩
set_option maxRecDepth 100000 in
theorem kyl {x : kpc} {o : kd0} (h : kda x o) : SoundH Try.prog k1x.f ((k1x.args idf x).map (er TB)) ((k1x.obs idf x).map (erO TB)) (er TB (k1x.val idf o)) ((k1x.ops idf o).map (erO TB)) :=
  Con.soundH (c := k1x) (C := k8c) TBok ⟨inf_ok, (all_cons k16t all_nil), all_nil⟩ mix Try.func45 (show Try.f45.body = some kd7 by kernel_rfl) (show Try.f45.ntmps = 6 by kernel_rfl) (show Try.f45.results.toList = kgi by kernel_rfl) rfl h (kxk o)
set_option maxRecDepth 100000 in
theorem k10v {p0 : Int} {r0 : Int} (h :
((U64 (7 : Int) ∧ Us [p0] ∧ (∀ x ∈ [p0], x < 18446744069414584321) ∧ [p0].length ≤ 1073741824) ∧ (hashS (7 : Int) [p0]) = r0)) : kda (p0, ()) (r0, ()) := WPh.of_eq (by kernel_rfl) h
theorem bd45 : Callable Try.prog 45 := ⟨by rw [Try.func45]; kernel_rfl, by rw [Try.func45]; show some _ ≠ some _; decide⟩
theorem kw4 (p0 : Int) (h : U64 p0 ∧ p0 < 18446744069414584321) : kda (p0, ()) (((acctS p0) : Int), ()) := by
  refine k10v ⟨⟨by decide, ?_, ?_, by simp⟩, rfl⟩
  · intro x hx; rw [List.mem_singleton] at hx; subst hx; exact h.1
  · intro x hx; rw [List.mem_singleton] at hx; subst hx; exact h.2
noncomputable def kkz : Con TB.den := k1x.fnR (fun x => (fun (p0 : Int) => U64 p0 ∧ p0 < 18446744069414584321) x.1) fun x => ((fun (p0 : Int) => ((acctS p0) : Int)) x.1, ())
theorem k10z : kkz.Ok Try.prog TB := Con.ok_fn k1x bd45 fun x h => kyl (kw4 x.1 h)
end Go.Proofs.Ytpffhgljgpjenaa
namespace Go.Proofs.Ytpffhgljgpjenaa
open Go Go.Bv Go.Cv Go.Md Go.RowKit
def k3b : Con TB.den := Con.mk0 19 [.agg [.d (.int .u64), .d (.int .u64), .d (.int .u64), .d (.int .u64)]] [] (.one (.one (.d (.sl (.int .u64))))) []
abbrev kze := HL TB.den (hsT k3b.ins (hsOs k3b.pre))
abbrev kiu := HL TB.den (hsV k3b.res (hsOs k3b.post))
noncomputable def kcq : Cx TB := ⟨inf, [], [], 4⟩
noncomputable def khs : Code := Try.f19.body.getD .skip
noncomputable def kmf : List ResultVar := Try.f19.results.toList
noncomputable def kuz (o : kiu) : An TB := .no
noncomputable def khu (x : kze) (o : kiu) : Prop := WPh TB kcq 12 0 khs (kuz o) (k3b.st TB x) (retTQ TB kcq k3b kmf o)
set_option maxRecDepth 100000 in
theorem k13w (o : kiu) : OblH TB kcq 12 0 khs (kuz o) (retTQ TB kcq k3b kmf o) :=
  OblH.of_eq (X := (True ∧ (True ∧ True))) (by kernel_rfl) ⟨trivial, ⟨trivial, trivial⟩⟩
set_option maxRecDepth 100000 in
theorem k13y {x : kze} {o : kiu} (h : khu x o) : SoundH Try.prog k3b.f ((k3b.args idf x).map (er TB)) ((k3b.obs idf x).map (erO TB)) (er TB (k3b.val idf o)) ((k3b.ops idf o).map (erO TB)) :=
  Con.soundH (c := k3b) (C := kcq) TBok ⟨inf_ok, all_nil, all_nil⟩ mix Try.func19 (show Try.f19.body = some khs by kernel_rfl) (show Try.f19.ntmps = 12 by kernel_rfl) (show Try.f19.results.toList = kmf by kernel_rfl) rfl h (k13w o)
set_option maxRecDepth 100000 in
theorem k16n {p0 : TNote} {r0 : List Int} (h :
([p0.Value, p0.Owner, p0.Rho, p0.Blind] = r0)) : khu (p0.Value, p0.Owner, p0.Rho, p0.Blind, ()) (r0, ()) := WPh.of_eq (by kernel_rfl) h
theorem bd19 : Callable Try.prog 19 := ⟨by rw [Try.func19]; kernel_rfl, by rw [Try.func19]; show some _ ≠ some _; decide⟩
theorem k133 (p0 : TNote) : khu (p0.Value, p0.Owner, p0.Rho, p0.Blind, ()) (((noteL p0) : List Int), ()) := by
  exact k16n rfl
noncomputable def ks0 : Con TB.den := k3b.totR fun x => ((fun (p0 : TNote) => ((noteL p0) : List Int)) (TNote.mk x.1 x.2.1 x.2.2.1 x.2.2.2.1), ())
theorem k16j : ks0.Ok Try.prog TB := Con.ok_tot k3b bd19 fun x => k13y (k133 (TNote.mk x.1 x.2.1 x.2.2.1 x.2.2.2.1))
end Go.Proofs.Ytpffhgljgpjenaa
namespace Go.Proofs.Ytpffhgljgpjenaa
open Go Go.Bv Go.Cv Go.Md Go.RowKit
def k20 : Con TB.den := Con.mk0 52 [.one (.d (.int .u64))] [] (.one (.one (.d (.bool)))) []
abbrev kpl := HL TB.den (hsT k20.ins (hsOs k20.pre))
abbrev kcs := HL TB.den (hsV k20.res (hsOs k20.post))
noncomputable def k8y : Cx TB := ⟨inf, [], [], 4⟩
noncomputable def kdp : Code := Try.f52.body.getD .skip
noncomputable def kfk : List ResultVar := Try.f52.results.toList
noncomputable def kn3 (o : kcs) : An TB := .no
noncomputable def kdg (x : kpl) (o : kcs) : Prop := WPh TB k8y 5 0 kdp (kn3 o) (k20.st TB x) (retTQ TB k8y k20 kfk o)
set_option maxRecDepth 100000 in
theorem kxy (o : kcs) : OblH TB k8y 5 0 kdp (kn3 o) (retTQ TB k8y k20 kfk o) :=
  OblH.of_eq (X := (True ∧ (True ∧ True))) (by kernel_rfl) ⟨trivial, ⟨trivial, trivial⟩⟩
set_option maxRecDepth 100000 in
theorem kz2 {x : kpl} {o : kcs} (h : kdg x o) : SoundH Try.prog k20.f ((k20.args idf x).map (er TB)) ((k20.obs idf x).map (erO TB)) (er TB (k20.val idf o)) ((k20.ops idf o).map (erO TB)) :=
  Con.soundH (c := k20) (C := k8y) TBok ⟨inf_ok, all_nil, all_nil⟩ mix Try.func52 (show Try.f52.body = some kdp by kernel_rfl) (show Try.f52.ntmps = 5 by kernel_rfl) (show Try.f52.results.toList = kfk by kernel_rfl) rfl h (kxy o)
set_option maxRecDepth 100000 in
theorem k10u {p0 : Int} {r0 : Bool} (h :
(decide (p0 < 18446744069414584321) = r0)) : kdg (p0, ()) (r0, ()) := WPh.of_eq (by kernel_rfl) h
theorem bd52 : Callable Try.prog 52 := ⟨by rw [Try.func52]; kernel_rfl, by rw [Try.func52]; show some _ ≠ some _; decide⟩
theorem kvm (p0 : Int) : kdg (p0, ()) (((decide (p0 < 18446744069414584321)) : Bool), ()) := by
  exact k10u rfl
noncomputable def kky : Con TB.den := k20.totR fun x => ((fun (p0 : Int) => ((decide (p0 < 18446744069414584321)) : Bool)) x.1, ())
theorem k10w : kky.Ok Try.prog TB := Con.ok_tot k20 bd52 fun x => kz2 (kvm x.1)
end Go.Proofs.Ytpffhgljgpjenaa
namespace Go.Proofs.Ytpffhgljgpjenaa
open Go Go.Bv Go.Cv Go.Md Go.RowKit
def k19 : Con TB.den := Con.mk0 36 [.one (.d (.sl (.int .u64)))] [] (.one (.one (.d (.bool)))) []
abbrev kmp := HL TB.den (hsT k19.ins (hsOs k19.pre))
abbrev k51 := HL TB.den (hsV k19.res (hsOs k19.post))
noncomputable def k42 : Cx TB := ⟨inf, [kky], [], 4⟩
noncomputable def k6l : Code := Try.f36.body.getD .skip
noncomputable def k84 : List ResultVar := Try.f36.results.toList
noncomputable def ky6 (o : k51) : Exit → TSt TB.den → Prop := thenT TB (fun s => ghs TB [] s fun s => WP TB k42 16 0 (cB (cB k6l)) .no s (retTQ TB k42 k19 k84 o)) (retTQ TB k42 k19 k84 o)
def k5d : Tm := ⟨[], [], [0, 3], [.one (.d (.sl (.int .u64))), .one (.d (.int .i64))], 0⟩
noncomputable def kyj (o : k51) (nx1 : HL TB.den k5d.hs → Prop) : Exit → TSt TB.den → Prop := thenT TB (fun s => k5d.mat TB 0 s nx1) (blockT TB 0 (ky6 o))
noncomputable def k7y (o : k51) (nx1 : HL TB.den k5d.hs → Prop) (i : HL TB.den k5d.hs) : Prop := WP TB k42 16 0 (cA (cA (cB (cA (cB k6l))))) .no (k5d.fill TB i) (kyj o nx1)
noncomputable def kzb (o : k51) : An TB := .nd [] .no [] (.lp [] k5d (k7y o) fun nx1 => .no)
noncomputable def kl8 (o : k51) : An TB := .nd [] .no [] (.nd [] (kzb o) [] .no)
noncomputable def kc6 (x : kmp) (o : k51) : Prop := WPh TB k42 16 0 k6l (kl8 o) (k19.st TB x) (retTQ TB k42 k19 k84 o)
set_option maxRecDepth 100000 in
theorem kwh (o : k51) : OblH TB k42 16 0 k6l (kl8 o) (retTQ TB k42 k19 k84 o) :=
  OblH.of_eq (X := (True ∧ ((True ∧ ((∀ nx i, (k7y o) nx i = (k7y o) nx i) ∧ ∀ nx1 : HL TB.den k5d.hs → Prop, ((True ∧ (True ∧ True)) ∧ ((True ∧ ((True ∧ True) ∧ True)) ∧ True)))) ∧ (True ∧ True)))) (by kernel_rfl) ⟨trivial, ⟨⟨trivial, ⟨fun _ _ => rfl, fun _ => ⟨⟨trivial, ⟨trivial, trivial⟩⟩, ⟨⟨trivial, ⟨⟨trivial, trivial⟩, trivial⟩⟩, trivial⟩⟩⟩⟩, ⟨trivial, trivial⟩⟩⟩
set_option maxRecDepth 100000 in
theorem kvr {x : kmp} {o : k51} (h : kc6 x o) : SoundH Try.prog k19.f ((k19.args idf x).map (er TB)) ((k19.obs idf x).map (erO TB)) (er TB (k19.val idf o)) ((k19.ops idf o).map (erO TB)) :=
  Con.soundH (c := k19) (C := k42) TBok ⟨inf_ok, (all_cons k10w all_nil), all_nil⟩ mix Try.func36 (show Try.f36.body = some k6l by kernel_rfl) (show Try.f36.ntmps = 16 by kernel_rfl) (show Try.f36.results.toList = k84 by kernel_rfl) rfl h (kwh o)
set_option maxRecDepth 100000 in
theorem kyd {p0 : List Int} {r0 : Bool} (h :
(Md.Loop (p0, (0 : Int), ()) (k7y (r0, ())))) : kc6 (p0, ()) (r0, ()) := WPh.of_eq (by kernel_rfl) h
def kl1 (r0 : Bool) (k1 : Int → Prop) (s0 : List Int) (s3 : Int) : Prop :=
(decide (s3 < (s0.length : Int)) = true →
(0 ≤ s3) ∧ s3 < (s0.length : Int) ∧ let r1 : Bool := (decide ((ix s0 s3) < 18446744069414584321))
((!r1) = true →
 false = r0) ∧
((!r1) = false →
 k1 (IntKind.i64.wrap (s3 + 1) : Int))) ∧
(decide (s3 < (s0.length : Int)) = false →
 true = r0)
set_option maxRecDepth 100000 in
theorem kwu {r0 : Bool} {s0 : List Int} {s3 : Int} (inv : Int → Prop) (μ : Int → Nat) (h0 : inv s3) (hs : ∀ (s3 : Int), inv s3 → kl1 r0 (fun s3q => inv s3q ∧ μ s3q < μ s3) s0 s3) : Md.Loop (s0, s3, ()) (k7y (r0, ())) :=
  ⟨⟨fun s : (List Int) × Int × Unit => (s.1 = s0) ∧ inv s.2.1, fun s : (List Int) × Int × Unit => μ s.2.1, ⟨rfl, h0⟩, fun (s0p, s3p, ()) ⟨eq0, hi⟩ => by
    have eq0 : s0p = s0 := eq0; subst s0p; exact mpr_of (by kernel_rfl) ((congrArg (fun k => kl1 r0 k s0 s3p) (lpk1 (rfl : s0 = s0) inv (fun s3q => μ s3q < μ s3p))).mpr (hs s3p hi))⟩⟩
theorem bd36 : Callable Try.prog 36 := ⟨by rw [Try.func36]; kernel_rfl, by rw [Try.func36]; show some _ ≠ some _; decide⟩
theorem ku2 (p0 : List Int) (h : p0.length ≤ 9223372036854775807) : kc6 (p0, ()) (((p0.all (fun x => decide (x < 18446744069414584321))) : Bool), ()) := by
  refine kyd (kwu (AllI (fun x => decide (x < 18446744069414584321)) p0) (fun i => (p0.length - i).toNat) AllI.start ?_)
  intro i hi
  refine ⟨fun hh => ?_, fun hh => (hi.done (of_decide_eq_false hh)).symm⟩
  have hh := of_decide_eq_true hh
  exact ⟨hi.1, hh, fun e => (hi.bad hh (by simpa using e)).symm, fun e => hi.next hh (by omega) (by simpa using e)⟩
noncomputable def kjc : Con TB.den := k19.fnR (fun x => (fun (p0 : List Int) => p0.length ≤ 9223372036854775807) x.1) fun x => ((fun (p0 : List Int) => ((p0.all (fun x => decide (x < 18446744069414584321))) : Bool)) x.1, ())
theorem ky7 : kjc.Ok Try.prog TB := Con.ok_fn k19 bd36 fun x h => kvr (ku2 x.1 h)
end Go.Proofs.Ytpffhgljgpjenaa
namespace Go.Proofs.Ytpffhgljgpjenaa
open Go Go.Bv Go.Cv Go.Md Go.RowKit
def k2n : Con TB.den := Con.mk0 78 [.agg [.d (.int .u64), .d (.int .u64), .d (.int .u64), .d (.int .u64)]] [] (.one (.one (.d (.bool)))) []
abbrev kvi := HL TB.den (hsT k2n.ins (hsOs k2n.pre))
abbrev kgs := HL TB.den (hsV k2n.res (hsOs k2n.post))
noncomputable def kb7 : Cx TB := ⟨inf, [kjc], [], 4⟩
noncomputable def kfq : Code := Try.f78.body.getD .skip
noncomputable def kk1 : List ResultVar := Try.f78.results.toList
noncomputable def krw (o : kgs) : An TB := .no
noncomputable def kfn (x : kvi) (o : kgs) : Prop := WPh TB kb7 16 0 kfq (krw o) (k2n.st TB x) (retTQ TB kb7 k2n kk1 o)
set_option maxRecDepth 100000 in
theorem k12l (o : kgs) : OblH TB kb7 16 0 kfq (krw o) (retTQ TB kb7 k2n kk1 o) :=
  OblH.of_eq (X := (True ∧ (True ∧ True))) (by kernel_rfl) ⟨trivial, ⟨trivial, trivial⟩⟩
set_option maxRecDepth 100000 in
theorem k13d {x : kvi} {o : kgs} (h : kfn x o) : SoundH Try.prog k2n.f ((k2n.args idf x).map (er TB)) ((k2n.obs idf x).map (erO TB)) (er TB (k2n.val idf o)) ((k2n.ops idf o).map (erO TB)) :=
  Con.soundH (c := k2n) (C := kb7) TBok ⟨inf_ok, (all_cons ky7 all_nil), all_nil⟩ mix Try.func78 (show Try.f78.body = some kfq by kernel_rfl) (show Try.f78.ntmps = 16 by kernel_rfl) (show Try.f78.results.toList = kk1 by kernel_rfl) rfl h (k12l o)
set_option maxRecDepth 100000 in
theorem k15s {p0 : TNote} {r0 : Bool} (h :
((decide (p0.Value ≤ 4294967295) = true →
([p0.Owner, p0.Rho, p0.Blind].length ≤ 9223372036854775807) ∧ let r1 : Bool := ([p0.Owner, p0.Rho, p0.Blind].all (fun x => decide (x < 18446744069414584321)))
 r1 = r0) ∧
(decide (p0.Value ≤ 4294967295) = false →
 false = r0))) : kfn (p0.Value, p0.Owner, p0.Rho, p0.Blind, ()) (r0, ()) := WPh.of_eq (by kernel_rfl) h
theorem bd78 : Callable Try.prog 78 := ⟨by rw [Try.func78]; kernel_rfl, by rw [Try.func78]; show some _ ≠ some _; decide⟩
theorem kzg (p0 : TNote) : kfn (p0.Value, p0.Owner, p0.Rho, p0.Blind, ()) (((noteV p0) : Bool), ()) := by
  have e : [p0.Owner, p0.Rho, p0.Blind].all (fun x => decide (x < 18446744069414584321)) = (decide (p0.Owner < 18446744069414584321) && (decide (p0.Rho < 18446744069414584321) && decide (p0.Blind < 18446744069414584321))) := by simp
  refine k15s ⟨fun h => ⟨by simp, ?_⟩, fun h => ?_⟩
  · rw [e]; unfold noteV; rw [h]; simp [Bool.and_assoc]
  · unfold noteV; rw [h]; rfl
noncomputable def kq7 : Con TB.den := k2n.totR fun x => ((fun (p0 : TNote) => ((noteV p0) : Bool)) (TNote.mk x.1 x.2.1 x.2.2.1 x.2.2.2.1), ())
theorem k142 : kq7.Ok Try.prog TB := Con.ok_tot k2n bd78 fun x => k13d (kzg (TNote.mk x.1 x.2.1 x.2.2.1 x.2.2.2.1))
end Go.Proofs.Ytpffhgljgpjenaa
namespace Go.Proofs.Ytpffhgljgpjenaa
open Go Go.Bv Go.Cv Go.Md Go.RowKit
def k2h : Con TB.den := Con.mk0 67 [.agg [.d (.int .u64), .d (.int .u64), .d (.int .u64), .d (.int .u64)]] [] (.one (.one (.d (.int .u64)))) []
abbrev ktl := HL TB.den (hsT k2h.ins (hsOs k2h.pre))
abbrev ke9 := HL TB.den (hsV k2h.res (hsOs k2h.post))
noncomputable def k9x : Cx TB := ⟨inf, [kq7, ks0, kj1], [], 4⟩
noncomputable def kep : Code := Try.f67.body.getD .skip
noncomputable def khm : List ResultVar := Try.f67.results.toList
noncomputable def kqa (o : ke9) : An TB := .no
noncomputable def kf6 (x : ktl) (o : ke9) : Prop := WPh TB k9x 9 0 kep (kqa o) (k2h.st TB x) (retTQ TB k9x k2h khm o)
set_option maxRecDepth 100000 in
theorem k102 (o : ke9) : OblH TB k9x 9 0 kep (kqa o) (retTQ TB k9x k2h khm o) :=
  OblH.of_eq (X := (True ∧ ((True ∧ ((True ∧ True) ∧ True)) ∧ (True ∧ True)))) (by kernel_rfl) ⟨trivial, ⟨⟨trivial, ⟨⟨trivial, trivial⟩, trivial⟩⟩, ⟨trivial, trivial⟩⟩⟩
set_option maxRecDepth 100000 in
theorem k113 {x : ktl} {o : ke9} (h : kf6 x o) : SoundH Try.prog k2h.f ((k2h.args idf x).map (er TB)) ((k2h.obs idf x).map (erO TB)) (er TB (k2h.val idf o)) ((k2h.ops idf o).map (erO TB)) :=
  Con.soundH (c := k2h) (C := k9x) TBok ⟨inf_ok, (all_cons k142 (all_cons k16j (all_cons kvf all_nil))), all_nil⟩ mix Try.func67 (show Try.f67.body = some kep by kernel_rfl) (show Try.f67.ntmps = 9 by kernel_rfl) (show Try.f67.results.toList = khm by kernel_rfl) rfl h (k102 o)
set_option maxRecDepth 100000 in
theorem k130 {p0 : TNote} {r0 : Int} (h :
(((!(noteV p0)) = true →
 0 = r0) ∧
((!(noteV p0)) = false →
((18446744069414584321 : Int) = 18446744069414584321 ∧ U64 (2 : Int) ∧ Us (noteL p0) ∧ (noteL p0).length ≤ 1099511627776) ∧ (hashS (2 : Int) (noteL p0)) = r0))) : kf6 (p0.Value, p0.Owner, p0.Rho, p0.Blind, ()) (r0, ()) := WPh.of_eq (by kernel_rfl) h
theorem bd67 : Callable Try.prog 67 := ⟨by rw [Try.func67]; kernel_rfl, by rw [Try.func67]; show some _ ≠ some _; decide⟩
theorem ky4 (p0 : TNote) (h : NR p0) : kf6 (p0.Value, p0.Owner, p0.Rho, p0.Blind, ()) (((if noteV p0 = true then hashS 2 (noteL p0) else 0) : Int), ()) := by
  have hu : Us (noteL p0) := by
    intro x hx
    simp only [noteL, List.mem_cons, List.not_mem_nil, or_false] at hx
    rcases hx with rfl | rfl | rfl | rfl
    · exact h.v
    · exact h.o
    · exact h.r
    · exact h.b
  refine k130 ?_
  simp only [krs]
  refine ⟨fun e => ?_, fun e => ⟨⟨by trivial, by decide, hu, by simp [noteL]⟩, ?_⟩⟩
  · rw [if_neg (by simpa using e)]
  · rw [if_pos (by simpa using e)]
noncomputable def knj : Con TB.den := k2h.fnR (fun x => (fun (p0 : TNote) => NR p0) (TNote.mk x.1 x.2.1 x.2.2.1 x.2.2.2.1)) fun x => ((fun (p0 : TNote) => ((if noteV p0 = true then hashS 2 (noteL p0) else 0) : Int)) (TNote.mk x.1 x.2.1 x.2.2.1 x.2.2.2.1), ())
theorem k12v : knj.Ok Try.prog TB := Con.ok_fn k2h bd67 fun x h => k113 (ky4 (TNote.mk x.1 x.2.1 x.2.2.1 x.2.2.2.1) h)
end Go.Proofs.Ytpffhgljgpjenaa
namespace Go.Proofs.Ytpffhgljgpjenaa
open Go Go.Bv Go.Cv Go.Md Go.RowKit
def k25 : Con TB.den := Con.mk0 30 [.one (.d (.int .u64))] [] (.tup [.agg [.d (.int .i64), .d (.int .u64), .d (.sl (.int .u64)), .d (.sl (.int .u64)), .d (.sl (.int .u64)), .d (.int .u64), .d (.int .u64), .d (.int .u64), .d (.int .u64), .d (.int .u64)], .agg [.d (.sl (.st 0)), .d (.sl (.st 1)), .d (.int .u64)]]) []
abbrev kpx := HL TB.den (hsT k25.ins (hsOs k25.pre))
abbrev kcv := HL TB.den (hsV k25.res (hsOs k25.post))
noncomputable def k8m : Cx TB := ⟨inf, [knj, kkz], [], 4⟩
noncomputable def kd8 : Code := Try.f30.body.getD .skip
noncomputable def kgj : List ResultVar := Try.f30.results.toList
noncomputable def kno (o : kcv) : An TB := .no
noncomputable def kdi (x : kpx) (o : kcv) : Prop := WPh TB k8m 18 0 kd8 (kno o) (k25.st TB x) (retTQ TB k8m k25 kgj o)
set_option maxRecDepth 100000 in
theorem ky5 (o : kcv) : OblH TB k8m 18 0 kd8 (kno o) (retTQ TB k8m k25 kgj o) :=
  OblH.of_eq (X := (True ∧ (True ∧ (True ∧ (True ∧ True))))) (by kernel_rfl) ⟨trivial, ⟨trivial, ⟨trivial, ⟨trivial, trivial⟩⟩⟩⟩
set_option maxRecDepth 100000 in
theorem kyr {x : kpx} {o : kcv} (h : kdi x o) : SoundH Try.prog k25.f ((k25.args idf x).map (er TB)) ((k25.obs idf x).map (erO TB)) (er TB (k25.val idf o)) ((k25.ops idf o).map (erO TB)) :=
  Con.soundH (c := k25) (C := k8m) TBok ⟨inf_ok, (all_cons k12v (all_cons k10z all_nil)), all_nil⟩ mix Try.func30 (show Try.f30.body = some kd8 by kernel_rfl) (show Try.f30.ntmps = 18 by kernel_rfl) (show Try.f30.results.toList = kgj by kernel_rfl) rfl h (ky5 o)
set_option maxRecDepth 100000 in
theorem k10h {p0 : Int} {r0 : TStatement} {r1 : TWitness} (h :
((NR (TNote.mk 5 1 2 3)) ∧ let r2 : Int := (if noteV (TNote.mk 5 1 2 3) = true then hashS 2 (noteL (TNote.mk 5 1 2 3)) else 0)
(U64 (9 : Int) ∧ (9 : Int) < 18446744069414584321) ∧ 1 = r0.Depth ∧ 0 = r0.Anchor ∧ ([] : List Int) = r0.Marks ∧ [r2] = r0.Commits ∧ [2] = r0.Rhos ∧ 7 = r0.Deposit ∧ 0 = r0.Withdraw ∧ p0 = r0.Fee ∧ (acctS (9 : Int)) = r0.Account ∧ 0 = r0.Bind ∧ ([] : List TSpent) = r1.Ins ∧ [TNote.mk 5 1 2 3] = r1.Outs ∧ 9 = r1.Secret)) : kdi (p0, ()) (r0.Depth, r0.Anchor, r0.Marks, r0.Commits, r0.Rhos, r0.Deposit, r0.Withdraw, r0.Fee, r0.Account, r0.Bind, r1.Ins, r1.Outs, r1.Secret, ()) := WPh.of_eq (by kernel_rfl) h
theorem bd30 : Callable Try.prog 30 := ⟨by rw [Try.func30]; kernel_rfl, by rw [Try.func30]; show some _ ≠ some _; decide⟩
theorem kx4 (p0 : Int) (h : U64 p0) : kdi (p0, ()) (((exS p0).Depth : Int), ((exS p0).Anchor : Int), ((exS p0).Marks : List Int), ((exS p0).Commits : List Int), ((exS p0).Rhos : List Int), ((exS p0).Deposit : Int), ((exS p0).Withdraw : Int), ((exS p0).Fee : Int), ((exS p0).Account : Int), ((exS p0).Bind : Int), (exW.Ins : List TSpent), (exW.Outs : List TNote), (exW.Secret : Int), ()) := by
  refine k10h (r0 := exS p0) (r1 := exW) ⟨⟨by decide, by decide, by decide, by decide⟩, ?_⟩
  exact ⟨⟨by decide, by decide⟩, rfl, rfl, rfl, rfl, rfl, rfl, rfl, rfl, rfl, rfl, rfl, rfl, rfl⟩
noncomputable def klf : Con TB.den := k25.fnR (fun x => (fun (p0 : Int) => U64 p0) x.1) fun x => ((fun (p0 : Int) => ((exS p0).Depth : Int)) x.1, (fun (p0 : Int) => ((exS p0).Anchor : Int)) x.1, (fun (p0 : Int) => ((exS p0).Marks : List Int)) x.1, (fun (p0 : Int) => ((exS p0).Commits : List Int)) x.1, (fun (p0 : Int) => ((exS p0).Rhos : List Int)) x.1, (fun (p0 : Int) => ((exS p0).Deposit : Int)) x.1, (fun (p0 : Int) => ((exS p0).Withdraw : Int)) x.1, (fun (p0 : Int) => ((exS p0).Fee : Int)) x.1, (fun (p0 : Int) => ((exS p0).Account : Int)) x.1, (fun (p0 : Int) => ((exS p0).Bind : Int)) x.1, (fun (p0 : Int) => (exW.Ins : List TSpent)) x.1, (fun (p0 : Int) => (exW.Outs : List TNote)) x.1, (fun (p0 : Int) => (exW.Secret : Int)) x.1, ())
theorem k10b : klf.Ok Try.prog TB := Con.ok_fn k25 bd30 fun x h => kyr (kx4 x.1 h)
end Go.Proofs.Ytpffhgljgpjenaa
namespace Go.Proofs.Ytpffhgljgpjenaa
open Go Go.Bv Go.Cv Go.Md Go.RowKit
def kx : Con TB.den := Con.mk0 32 [] [] (.one (.one (.ptr 0 0))) [.cells [.d (.bool), .d (.int .u64), .d (.int .i64), .d (.sl (.st 3)), .mp 1, .mp 2, .mp 3], .map (.str) (.int .i64), .map (.str) (.sl (.int .u64)), .map (.str) (.bool)]
abbrev khd := HL TB.den (hsT kx.ins (hsOs kx.pre))
abbrev k81 := HL TB.den (hsV kx.res (hsOs kx.post))
noncomputable def k5i : Cx TB := ⟨inf, [], [], 4⟩
noncomputable def k8e : Code := Try.f32.body.getD .skip
noncomputable def ka4 : List ResultVar := Try.f32.results.toList
noncomputable def kfg (o : k81) : An TB := .no
noncomputable def k8r (x : khd) (o : k81) : Prop := WPh TB k5i 6 0 k8e (kfg o) (kx.st TB x) (retTQ TB k5i kx ka4 o)
set_option maxRecDepth 100000 in
theorem koc (o : k81) : OblH TB k5i 6 0 k8e (kfg o) (retTQ TB k5i kx ka4 o) :=
  OblH.of_eq (X := (True ∧ (True ∧ True))) (by kernel_rfl) ⟨trivial, ⟨trivial, trivial⟩⟩
set_option maxRecDepth 100000 in
theorem koy {x : khd} {o : k81} (h : k8r x o) : SoundH Try.prog kx.f ((kx.args idf x).map (er TB)) ((kx.obs idf x).map (erO TB)) (er TB (kx.val idf o)) ((kx.ops idf o).map (erO TB)) :=
  Con.soundH (c := kx) (C := k5i) TBok ⟨inf_ok, all_nil, all_nil⟩ mix Try.func32 (show Try.f32.body = some k8e by kernel_rfl) (show Try.f32.ntmps = 6 by kernel_rfl) (show Try.f32.results.toList = ka4 by kernel_rfl) rfl h (koc o)
set_option maxRecDepth 100000 in
theorem kr4  {d0_0 : Bool} {d0_1 : Int} {d0_2 : Int} {d0_3 : List TQuestion} {e1k : List ByteArray} {e1v : List Int} {e2k : List ByteArray} {e2v : List (List Int)} {e3k : List ByteArray} {e3v : List Bool} (h :
(false = d0_0 ∧ 0 = d0_1 ∧ 0 = d0_2 ∧ ([] : List TQuestion) = d0_3 ∧ ([] : List ByteArray) = e1k ∧ ([] : List Int) = e1v ∧ ([] : List ByteArray) = e2k ∧ ([] : List (List Int)) = e2v ∧ ([] : List ByteArray) = e3k ∧ ([] : List Bool) = e3v)) : k8r (()) (d0_0, d0_1, d0_2, d0_3, e1k, e1v, e2k, e2v, e3k, e3v, ()) := WPh.of_eq (by kernel_rfl) h
theorem bd32 : Callable Try.prog 32 := ⟨by rw [Try.func32]; kernel_rfl, by rw [Try.func32]; show some _ ≠ some _; decide⟩
theorem knx : k8r (()) ((false : Bool), (0 : Int), (0 : Int), ([] : List TQuestion), ([] : List ByteArray), ([] : List Int), ([] : List ByteArray), ([] : List (List Int)), ([] : List ByteArray), ([] : List Bool), ()) := by
  exact kr4 ⟨rfl, rfl, rfl, rfl, rfl, rfl, rfl, rfl, rfl, rfl⟩
noncomputable def keu : Con TB.den := kx.totR fun x => ((false : Bool), (0 : Int), (0 : Int), ([] : List TQuestion), ([] : List ByteArray), ([] : List Int), ([] : List ByteArray), ([] : List (List Int)), ([] : List ByteArray), ([] : List Bool), ())
theorem kqs : keu.Ok Try.prog TB := Con.ok_tot kx bd32 fun x => koy (knx )
end Go.Proofs.Ytpffhgljgpjenaa
namespace Go.Proofs.Ytpffhgljgpjenaa
open Go Go.Bv Go.Cv Go.Md Go.RowKit
def k1y : Con TB.den := Con.mk0 14 [] [] (.one (.one (.ptr 0 0))) [.cells [.d (.bool), .d (.int .u64), .d (.int .i64), .d (.sl (.st 3)), .mp 1, .mp 2, .mp 3], .map (.str) (.int .i64), .map (.str) (.sl (.int .u64)), .map (.str) (.bool)]
abbrev kqi := HL TB.den (hsT k1y.ins (hsOs k1y.pre))
abbrev kcw := HL TB.den (hsV k1y.res (hsOs k1y.post))
noncomputable def k97 : Cx TB := ⟨inf, [keu], [], 4⟩
noncomputable def kd2 : Code := Try.f14.body.getD .skip
noncomputable def kft : List ResultVar := Try.f14.results.toList
noncomputable def kms (o : kcw) : An TB := .no
noncomputable def kdl (x : kqi) (o : kcw) : Prop := WPh TB k97 2 0 kd2 (kms o) (k1y.st TB x) (retTQ TB k97 k1y kft o)
set_option maxRecDepth 100000 in
theorem kya (o : kcw) : OblH TB k97 2 0 kd2 (kms o) (retTQ TB k97 k1y kft o) :=
  OblH.of_eq (X := (True ∧ (True ∧ True))) (by kernel_rfl) ⟨trivial, ⟨trivial, trivial⟩⟩
set_option maxRecDepth 100000 in
theorem kz6 {x : kqi} {o : kcw} (h : kdl x o) : SoundH Try.prog k1y.f ((k1y.args idf x).map (er TB)) ((k1y.obs idf x).map (erO TB)) (er TB (k1y.val idf o)) ((k1y.ops idf o).map (erO TB)) :=
  Con.soundH (c := k1y) (C := k97) TBok ⟨inf_ok, (all_cons kqs all_nil), all_nil⟩ mix Try.func14 (show Try.f14.body = some kd2 by kernel_rfl) (show Try.f14.ntmps = 2 by kernel_rfl) (show Try.f14.results.toList = kft by kernel_rfl) rfl h (kya o)
set_option maxRecDepth 100000 in
theorem kzt  {d0_0 : Bool} {d0_1 : Int} {d0_2 : Int} {d0_3 : List TQuestion} {e1k : List ByteArray} {e1v : List Int} {e2k : List ByteArray} {e2v : List (List Int)} {e3k : List ByteArray} {e3v : List Bool} (h :
(false = d0_0 ∧ 0 = d0_1 ∧ 0 = d0_2 ∧ [] = d0_3 ∧ [] = e1k ∧ [] = e1v ∧ [] = e2k ∧ [] = e2v ∧ [] = e3k ∧ [] = e3v)) : kdl (()) (d0_0, d0_1, d0_2, d0_3, e1k, e1v, e2k, e2v, e3k, e3v, ()) := WPh.of_eq (by kernel_rfl) h
theorem bd14 : Callable Try.prog 14 := ⟨by rw [Try.func14]; kernel_rfl, by rw [Try.func14]; show some _ ≠ some _; decide⟩
theorem kwy : kdl (()) ((false : Bool), (0 : Int), (0 : Int), ([] : List TQuestion), ([] : List ByteArray), ([] : List Int), ([] : List ByteArray), ([] : List (List Int)), ([] : List ByteArray), ([] : List Bool), ()) := by
  exact kzt ⟨rfl, rfl, rfl, rfl, rfl, rfl, rfl, rfl, rfl, rfl⟩
noncomputable def kea : Con TB.den := k1y.totR fun x => ((false : Bool), (0 : Int), (0 : Int), ([] : List TQuestion), ([] : List ByteArray), ([] : List Int), ([] : List ByteArray), ([] : List (List Int)), ([] : List ByteArray), ([] : List Bool), ())
theorem kni : kea.Ok Try.prog TB := Con.ok_tot k1y bd14 fun x => kz6 (kwy )
end Go.Proofs.Ytpffhgljgpjenaa
namespace Go.Proofs.Ytpffhgljgpjenaa
open Go Go.Bv Go.Cv Go.Md Go.RowKit
def k23 : Con TB.den := Con.mk0 103 [.agg [.d (.int .u64)]] [] (.one (.one (.d (.bool)))) []
abbrev kq3 := HL TB.den (hsT k23.ins (hsOs k23.pre))
abbrev kcy := HL TB.den (hsV k23.res (hsOs k23.post))
noncomputable def k94 : Cx TB := ⟨inf, [], [], 4⟩
noncomputable def kdn : Code := Try.f103.body.getD .skip
noncomputable def kfz : List ResultVar := Try.f103.results.toList
noncomputable def knm (o : kcy) : An TB := .no
noncomputable def kdf (x : kq3) (o : kcy) : Prop := WPh TB k94 13 0 kdn (knm o) (k23.st TB x) (retTQ TB k94 k23 kfz o)
set_option maxRecDepth 100000 in
theorem ky2 (o : kcy) : OblH TB k94 13 0 kdn (knm o) (retTQ TB k94 k23 kfz o) :=
  OblH.of_eq (X := (True ∧ ((True ∧ ((True ∧ (True ∧ (True ∧ (True ∧ (True ∧ (True ∧ (True ∧ (True ∧ (True ∧ (True ∧ (True ∧ (True ∧ True)))))))))))) ∧ ((True ∧ True) ∧ True))) ∧ (True ∧ True)))) (by kernel_rfl) ⟨trivial, ⟨⟨trivial, ⟨⟨trivial, ⟨trivial, ⟨trivial, ⟨trivial, ⟨trivial, ⟨trivial, ⟨trivial, ⟨trivial, ⟨trivial, ⟨trivial, ⟨trivial, ⟨trivial, trivial⟩⟩⟩⟩⟩⟩⟩⟩⟩⟩⟩⟩, ⟨⟨trivial, trivial⟩, trivial⟩⟩⟩, ⟨trivial, trivial⟩⟩⟩
set_option maxRecDepth 100000 in
theorem ky3 {x : kq3} {o : kcy} (h : kdf x o) : SoundH Try.prog k23.f ((k23.args idf x).map (er TB)) ((k23.obs idf x).map (erO TB)) (er TB (k23.val idf o)) ((k23.ops idf o).map (erO TB)) :=
  Con.soundH (c := k23) (C := k94) TBok ⟨inf_ok, all_nil, all_nil⟩ mix Try.func103 (show Try.f103.body = some kdn by kernel_rfl) (show Try.f103.ntmps = 13 by kernel_rfl) (show Try.f103.results.toList = kfz by kernel_rfl) rfl h (ky2 o)
set_option maxRecDepth 100000 in
theorem k111 {p0 : TField} {r0 : Bool} (h :
(((p0.P == 18446744069414584321) = true →
((p0.P == 18446744069414584321) = true →
 true = r0) ∧
((p0.P == 18446744069414584321) = false →
 false = r0)) ∧
((p0.P == 18446744069414584321) = false →
((p0.P == 17) = true →
((p0.P == 17) = true →
 true = r0) ∧
((p0.P == 17) = false →
 false = r0)) ∧
((p0.P == 17) = false →
((p0.P == 97) = true →
((p0.P == 97) = true →
 true = r0) ∧
((p0.P == 97) = false →
 false = r0)) ∧
((p0.P == 97) = false →
((p0.P == 193) = true →
((p0.P == 193) = true →
 true = r0) ∧
((p0.P == 193) = false →
 false = r0)) ∧
((p0.P == 193) = false →
((p0.P == 257) = true →
((p0.P == 257) = true →
 true = r0) ∧
((p0.P == 257) = false →
 false = r0)) ∧
((p0.P == 257) = false →
((p0.P == 12289) = true →
((p0.P == 12289) = true →
 true = r0) ∧
((p0.P == 12289) = false →
 false = r0)) ∧
((p0.P == 12289) = false →
((p0.P == 65537) = true →
 true = r0) ∧
((p0.P == 65537) = false →
 false = r0))))))))) : kdf (p0.P, ()) (r0, ()) := WPh.of_eq (by kernel_rfl) h
theorem bd103 : Callable Try.prog 103 := ⟨by rw [Try.func103]; kernel_rfl, by rw [Try.func103]; show some _ ≠ some _; decide⟩
theorem kwe (p0 : TField) (h : p0.P = 18446744069414584321) : kdf (p0.P, ()) ((true : Bool), ()) := by
  refine k111 ?_
  simp [h]
noncomputable def k58 : Con TB.den := k23.fnR (fun x => (fun (p0 : TField) => p0.P = 18446744069414584321) (TField.mk x.1)) fun x => ((fun (p0 : TField) => (true : Bool)) (TField.mk x.1), ())
theorem k76 : k58.Ok Try.prog TB := Con.ok_fn k23 bd103 fun x h => ky3 (kwe (TField.mk x.1) h)
end Go.Proofs.Ytpffhgljgpjenaa
namespace Go.Proofs.Ytpffhgljgpjenaa
open Go Go.Bv Go.Cv Go.Md Go.RowKit
def k2b : Con TB.den := Con.mk0 117 [.agg [.d (.int .u64)], .one (.d (.int .u64)), .one (.d (.int .u64))] [] (.one (.one (.d (.int .u64)))) []
abbrev kv4 := HL TB.den (hsT k2b.ins (hsOs k2b.pre))
abbrev k74 := HL TB.den (hsV k2b.res (hsOs k2b.post))
noncomputable def k5c : Cx TB := ⟨inf, [], [x130], 4⟩
noncomputable def k8z : Code := Try.f117.body.getD .skip
noncomputable def kat : List ResultVar := Try.f117.results.toList
noncomputable def k14l (o : k74) : Exit → TSt TB.den → Prop := thenT TB (fun s => ghs TB [] s fun s => WP TB k5c 28 0 (cB (cB (cB k8z))) .no s (retTQ TB k5c k2b kat o)) (retTQ TB k5c k2b kat o)
def kd1 : Tm := ⟨[0], [.cells [.d (.int .u64)]], [3, 7, 22], [.one (.ptr 0 0), .one (.d (.int .u64)), .one (.d (.bool))], 1⟩
noncomputable def kpy (o : k74) (i : HL TB.den kd1.hs) : Prop := ghs TB [] (kd1.fill TB i) fun s => WP TB k5c 28 0 (cB (cA (cB (cB k8z)))) .no s (k14l o)
structure kau (o : k74) (i : HL TB.den kd1.hs) : Prop where
  h : kpy o i
noncomputable def k140 (o : k74) : An TB := .nd [] (.jn kd1 (kau o) [] .no [] .no) [] .no
noncomputable def ktb (o : k74) : An TB := .nd [] .no [] (.nd [] .no [] (k140 o))
noncomputable def kgg (x : kv4) (o : k74) : Prop := WPh TB k5c 28 0 k8z (ktb o) (k2b.st TB x) (retTQ TB k5c k2b kat o)
set_option maxRecDepth 100000 in
theorem k12i (o : k74) : OblH TB k5c 28 0 k8z (ktb o) (retTQ TB k5c k2b kat o) :=
  OblH.of_eq (X := (True ∧ (True ∧ ((True ∧ (∀ i, (kau o) i = (kpy o) i) ∧ (True ∧ True)) ∧ (True ∧ True))))) (by kernel_rfl) ⟨trivial, ⟨trivial, ⟨⟨trivial, fun _ => propext ⟨fun h => h.1, fun h => ⟨h⟩⟩, ⟨trivial, trivial⟩⟩, ⟨trivial, trivial⟩⟩⟩⟩
set_option maxRecDepth 100000 in
theorem k12k {x : kv4} {o : k74} (h : kgg x o) : SoundH Try.prog k2b.f ((k2b.args idf x).map (er TB)) ((k2b.obs idf x).map (erO TB)) (er TB (k2b.val idf o)) ((k2b.ops idf o).map (erO TB)) :=
  Con.soundH (c := k2b) (C := k5c) TBok ⟨inf_ok, all_nil, (all_cons x130_ok all_nil)⟩ mix Try.func117 (show Try.f117.body = some k8z by kernel_rfl) (show Try.f117.ntmps = 28 by kernel_rfl) (show Try.f117.results.toList = kat by kernel_rfl) rfl h (k12i o)
set_option maxRecDepth 100000 in
theorem k15c {p0 : TField} {p1 : Int} {p2 : Int} {r0 : Int} (h :
((0 ≤ p1 ∧ 0 ≤ p2 ∧ 0 ≤ (0 : Int) ∧ (0 : Int) ≤ 1) ∧ let r1 : Int := (p1 + p2 + (0 : Int)) % 18446744073709551616
 let r2 : Int := (p1 + p2 + (0 : Int)) / 18446744073709551616
((r2 != 0) = true →
 kau (r0, ()) (r1, true, p0.P, ())) ∧
((r2 != 0) = false →
 kau (r0, ()) (r1, (decide (p0.P ≤ r1) : Bool), p0.P, ())))) : kgg (p0.P, p1, p2, ()) (r0, ()) := WPh.of_eq (by kernel_rfl) h
set_option maxRecDepth 100000 in
theorem klc {r0 : Int} {s7 : Int} {s22 : Bool} {h0_0 : Int} (h :
((s22 = true →
 IntKind.u64.wrap (s7 - h0_0) = r0) ∧
(s22 = false →
 s7 = r0))) : kau (r0, ()) (s7, s22, h0_0, ()) := ⟨mpr_of (by kernel_rfl) h⟩
theorem bd117 : Callable Try.prog 117 := ⟨by rw [Try.func117]; kernel_rfl, by rw [Try.func117]; show some _ ≠ some _; decide⟩
theorem k10c (p0 : TField) (p1 : Int) (p2 : Int) (h : p0.P = 18446744069414584321 ∧ (0 ≤ p1 ∧ p1 < 18446744069414584321) ∧ (0 ≤ p2 ∧ p2 < 18446744069414584321)) : kgg (p0.P, p1, p2, ()) ((((p1 + p2) % 18446744069414584321) : Int), ()) := by
  obtain ⟨hP, h1, h2⟩ := h
  refine k15c ⟨by omega, ?_, ?_⟩
  · intro h
    refine klc ⟨fun _ => ?_, fun h => by simp at h⟩
    have h : (p1 + p2 + 0) / 18446744073709551616 ≠ 0 := by simpa using h
    rw [hP, u64w]; omega
  · intro h
    have h : (p1 + p2 + 0) / 18446744073709551616 = 0 := by simpa using h
    refine klc ⟨fun g => ?_, fun g => ?_⟩
    · have g := of_decide_eq_true g
      rw [hP] at g ⊢
      rw [u64w]; omega
    · have g := of_decide_eq_false g
      rw [hP] at g
      omega
noncomputable def kpf : Con TB.den := k2b.fnR (fun x => (fun (p0 : TField) (p1 : Int) (p2 : Int) => p0.P = 18446744069414584321 ∧ (0 ≤ p1 ∧ p1 < 18446744069414584321) ∧ (0 ≤ p2 ∧ p2 < 18446744069414584321)) (TField.mk x.1) x.2.1 x.2.2.1) fun x => ((fun (p0 : TField) (p1 : Int) (p2 : Int) => (((p1 + p2) % 18446744069414584321) : Int)) (TField.mk x.1) x.2.1 x.2.2.1, ())
theorem k13u : kpf.Ok Try.prog TB := Con.ok_fn k2b bd117 fun x h => k12k (k10c (TField.mk x.1) x.2.1 x.2.2.1 h)
end Go.Proofs.Ytpffhgljgpjenaa
namespace Go.Proofs.Ytpffhgljgpjenaa
open Go Go.Bv Go.Cv Go.Md Go.RowKit
def k1f : Con TB.den := Con.mk0 118 [.agg [.d (.int .u64)], .one (.d (.int .u64))] [] (.one (.one (.d (.int .u64)))) []
abbrev klp := HL TB.den (hsT k1f.ins (hsOs k1f.pre))
abbrev kae := HL TB.den (hsV k1f.res (hsOs k1f.post))
noncomputable def k7k : Cx TB := ⟨inf, [], [], 4⟩
noncomputable def kaw : Code := Try.f118.body.getD .skip
noncomputable def kdq : List ResultVar := Try.f118.results.toList
noncomputable def kjs (o : kae) : An TB := .no
noncomputable def kan (x : klp) (o : kae) : Prop := WPh TB k7k 14 0 kaw (kjs o) (k1f.st TB x) (retTQ TB k7k k1f kdq o)
set_option maxRecDepth 100000 in
theorem kuc (o : kae) : OblH TB k7k 14 0 kaw (kjs o) (retTQ TB k7k k1f kdq o) :=
  OblH.of_eq (X := (True ∧ ((True ∧ (True ∧ True)) ∧ (True ∧ True)))) (by kernel_rfl) ⟨trivial, ⟨⟨trivial, ⟨trivial, trivial⟩⟩, ⟨trivial, trivial⟩⟩⟩
set_option maxRecDepth 100000 in
theorem ktu {x : klp} {o : kae} (h : kan x o) : SoundH Try.prog k1f.f ((k1f.args idf x).map (er TB)) ((k1f.obs idf x).map (erO TB)) (er TB (k1f.val idf o)) ((k1f.ops idf o).map (erO TB)) :=
  Con.soundH (c := k1f) (C := k7k) TBok ⟨inf_ok, all_nil, all_nil⟩ mix Try.func118 (show Try.f118.body = some kaw by kernel_rfl) (show Try.f118.ntmps = 14 by kernel_rfl) (show Try.f118.results.toList = kdq by kernel_rfl) rfl h (kuc o)
set_option maxRecDepth 100000 in
theorem kvt {p0 : TField} {p1 : Int} {r0 : Int} (h :
((decide (p0.P ≤ p1) = true →
(p0.P ≠ 0) ∧ Int.tmod p1 p0.P = r0) ∧
(decide (p0.P ≤ p1) = false →
 p1 = r0))) : kan (p0.P, p1, ()) (r0, ()) := WPh.of_eq (by kernel_rfl) h
theorem bd118 : Callable Try.prog 118 := ⟨by rw [Try.func118]; kernel_rfl, by rw [Try.func118]; show some _ ≠ some _; decide⟩
theorem ktc (p0 : TField) (p1 : Int) (h : 0 < p0.P ∧ 0 ≤ p1) : kan (p0.P, p1, ()) (((p1 % p0.P) : Int), ()) := by
  refine kvt ⟨fun h1 => ⟨by omega, tmod_nn _ _ h.2⟩, fun h1 => ?_⟩
  simp at h1
  rw [Int.emod_eq_of_lt (by omega) (by omega)]
noncomputable def k6r : Con TB.den := k1f.fnR (fun x => (fun (p0 : TField) (p1 : Int) => 0 < p0.P ∧ 0 ≤ p1) (TField.mk x.1) x.2.1) fun x => ((fun (p0 : TField) (p1 : Int) => ((p1 % p0.P) : Int)) (TField.mk x.1) x.2.1, ())
theorem k9j : k6r.Ok Try.prog TB := Con.ok_fn k1f bd118 fun x h => ktu (ktc (TField.mk x.1) x.2.1 h)
end Go.Proofs.Ytpffhgljgpjenaa
namespace Go.Proofs.Ytpffhgljgpjenaa
open Go Go.Bv Go.Cv Go.Md Go.RowKit
def k2u : Con TB.den := Con.mk0 110 [.agg [.d (.int .u64)], .one (.d (.int .u64)), .one (.d (.int .u64))] [] (.one (.one (.d (.int .u64)))) []
abbrev kv5 := HL TB.den (hsT k2u.ins (hsOs k2u.pre))
abbrev kgx := HL TB.den (hsV k2u.res (hsOs k2u.post))
noncomputable def kb0 : Cx TB := ⟨inf, [k58, k6r, kpf], [], 4⟩
noncomputable def kg5 : Code := Try.f110.body.getD .skip
noncomputable def kj5 : List ResultVar := Try.f110.results.toList
noncomputable def krp (o : kgx) : An TB := .no
noncomputable def kgh (x : kv5) (o : kgx) : Prop := WPh TB kb0 18 0 kg5 (krp o) (k2u.st TB x) (retTQ TB kb0 k2u kj5 o)
set_option maxRecDepth 100000 in
theorem k13m (o : kgx) : OblH TB kb0 18 0 kg5 (krp o) (retTQ TB kb0 k2u kj5 o) :=
  OblH.of_eq (X := (True ∧ ((True ∧ ((True ∧ True) ∧ True)) ∧ (True ∧ True)))) (by kernel_rfl) ⟨trivial, ⟨⟨trivial, ⟨⟨trivial, trivial⟩, trivial⟩⟩, ⟨trivial, trivial⟩⟩⟩
set_option maxRecDepth 100000 in
theorem k12c {x : kv5} {o : kgx} (h : kgh x o) : SoundH Try.prog k2u.f ((k2u.args idf x).map (er TB)) ((k2u.obs idf x).map (erO TB)) (er TB (k2u.val idf o)) ((k2u.ops idf o).map (erO TB)) :=
  Con.soundH (c := k2u) (C := kb0) TBok ⟨inf_ok, (all_cons k76 (all_cons k9j (all_cons k13u all_nil))), all_nil⟩ mix Try.func110 (show Try.f110.body = some kg5 by kernel_rfl) (show Try.f110.ntmps = 18 by kernel_rfl) (show Try.f110.results.toList = kj5 by kernel_rfl) rfl h (k13m o)
set_option maxRecDepth 100000 in
theorem k14u {p0 : TField} {p1 : Int} {p2 : Int} {r0 : Int} (h :
((p0.P = 18446744069414584321) ∧ ((!true) = true →
 0 = r0) ∧
((!true) = false →
(0 < p0.P ∧ 0 ≤ p1) ∧ (0 < p0.P ∧ 0 ≤ p2) ∧ (p0.P = 18446744069414584321 ∧ (0 ≤ (p1 % p0.P) ∧ (p1 % p0.P) < 18446744069414584321) ∧ (0 ≤ (p2 % p0.P) ∧ (p2 % p0.P) < 18446744069414584321)) ∧ let r1 : Int := (((p1 % p0.P) + (p2 % p0.P)) % 18446744069414584321)
 r1 = r0))) : kgh (p0.P, p1, p2, ()) (r0, ()) := WPh.of_eq (by kernel_rfl) h
theorem bd110 : Callable Try.prog 110 := ⟨by rw [Try.func110]; kernel_rfl, by rw [Try.func110]; show some _ ≠ some _; decide⟩
theorem k10m (p0 : TField) (p1 : Int) (p2 : Int) (h : p0.P = 18446744069414584321 ∧ U64 p1 ∧ U64 p2) : kgh (p0.P, p1, p2, ()) ((((p1 + p2) % 18446744069414584321) : Int), ()) := by
  obtain ⟨hP, h1, h2⟩ := h
  refine k14u ⟨hP, ?_⟩
  simp only [hP]
  refine ⟨fun h => by simp at h, fun _ => ⟨by omega, by omega, ⟨by trivial, by omega, by omega⟩, ?_⟩⟩
  omega
noncomputable def kcu : Con TB.den := k2u.fnR (fun x => (fun (p0 : TField) (p1 : Int) (p2 : Int) => p0.P = 18446744069414584321 ∧ U64 p1 ∧ U64 p2) (TField.mk x.1) x.2.1 x.2.2.1) fun x => ((fun (p0 : TField) (p1 : Int) (p2 : Int) => (((p1 + p2) % 18446744069414584321) : Int)) (TField.mk x.1) x.2.1 x.2.2.1, ())
theorem kkd : kcu.Ok Try.prog TB := Con.ok_fn k2u bd110 fun x h => k12c (k10m (TField.mk x.1) x.2.1 x.2.2.1 h)
end Go.Proofs.Ytpffhgljgpjenaa
namespace Go.Proofs.Ytpffhgljgpjenaa
open Go Go.Bv Go.Cv Go.Md Go.RowKit
def k2q : Con TB.den := Con.mk0 119 [.agg [.d (.int .u64)], .one (.d (.int .u64)), .one (.d (.int .u64))] [] (.one (.one (.d (.int .u64)))) []
abbrev kv0 := HL TB.den (hsT k2q.ins (hsOs k2q.pre))
abbrev kgu := HL TB.den (hsV k2q.res (hsOs k2q.post))
noncomputable def kbb : Cx TB := ⟨inf, [kfj, kfp], [], 4⟩
noncomputable def kge : Code := Try.f119.body.getD .skip
noncomputable def kje : List ResultVar := Try.f119.results.toList
noncomputable def kt2 (o : kgu) : An TB := .no
noncomputable def kfm (x : kv0) (o : kgu) : Prop := WPh TB kbb 26 0 kge (kt2 o) (k2q.st TB x) (retTQ TB kbb k2q kje o)
set_option maxRecDepth 100000 in
theorem k13b (o : kgu) : OblH TB kbb 26 0 kge (kt2 o) (retTQ TB kbb k2q kje o) :=
  OblH.of_eq (X := (True ∧ (True ∧ (True ∧ (True ∧ True))))) (by kernel_rfl) ⟨trivial, ⟨trivial, ⟨trivial, ⟨trivial, trivial⟩⟩⟩⟩
set_option maxRecDepth 100000 in
theorem k13g {x : kv0} {o : kgu} (h : kfm x o) : SoundH Try.prog k2q.f ((k2q.args idf x).map (er TB)) ((k2q.obs idf x).map (erO TB)) (er TB (k2q.val idf o)) ((k2q.ops idf o).map (erO TB)) :=
  Con.soundH (c := k2q) (C := kbb) TBok ⟨inf_ok, (all_cons kph (all_cons kq1 all_nil)), all_nil⟩ mix Try.func119 (show Try.f119.body = some kge by kernel_rfl) (show Try.f119.ntmps = 26 by kernel_rfl) (show Try.f119.results.toList = kje by kernel_rfl) rfl h (k13b o)
set_option maxRecDepth 100000 in
theorem k157 {p0 : TField} {p1 : Int} {p2 : Int} {r0 : Int} (h :
((U64 p1 ∧ U64 p2) ∧ (U64 (p1 * p2 / 18446744073709551616) ∧ U64 (p1 * p2 % 18446744073709551616) ∧ U64 p0.P ∧ (p1 * p2 / 18446744073709551616) < p0.P) ∧ let r1 : Int := (((p1 * p2 / 18446744073709551616) * 18446744073709551616 + (p1 * p2 % 18446744073709551616)) / p0.P)
 let r2 : Int := (((p1 * p2 / 18446744073709551616) * 18446744073709551616 + (p1 * p2 % 18446744073709551616)) % p0.P)
 r2 = r0)) : kfm (p0.P, p1, p2, ()) (r0, ()) := WPh.of_eq (by kernel_rfl) h
theorem bd119 : Callable Try.prog 119 := ⟨by rw [Try.func119]; kernel_rfl, by rw [Try.func119]; show some _ ≠ some _; decide⟩
theorem kzf (p0 : TField) (p1 : Int) (p2 : Int) (h : p0.P = 18446744069414584321 ∧ (0 ≤ p1 ∧ p1 < 18446744069414584321) ∧ (0 ≤ p2 ∧ p2 < 18446744069414584321)) : kfm (p0.P, p1, p2, ()) (((p1 * p2 % 18446744069414584321) : Int), ()) := by
  obtain ⟨hP, h1, h2⟩ := h
  have h3 : 0 ≤ p1 * p2 := Int.mul_nonneg h1.1 h2.1
  have h4 : p1 * p2 ≤ 18446744069414584320 * 18446744069414584320 := Int.mul_le_mul (by omega) (by omega) h2.1 (by omega)
  refine k157 ⟨⟨by omega, by omega⟩, ?_⟩
  simp only [hP]
  generalize p1 * p2 = m at *
  refine ⟨⟨⟨by omega, by omega⟩, ⟨by omega, by omega⟩, by omega, by omega⟩, ?_⟩
  rw [show m / 18446744073709551616 * 18446744073709551616 + m % 18446744073709551616 = m by omega]
noncomputable def khl : Con TB.den := k2q.fnR (fun x => (fun (p0 : TField) (p1 : Int) (p2 : Int) => p0.P = 18446744069414584321 ∧ (0 ≤ p1 ∧ p1 < 18446744069414584321) ∧ (0 ≤ p2 ∧ p2 < 18446744069414584321)) (TField.mk x.1) x.2.1 x.2.2.1) fun x => ((fun (p0 : TField) (p1 : Int) (p2 : Int) => ((p1 * p2 % 18446744069414584321) : Int)) (TField.mk x.1) x.2.1 x.2.2.1, ())
theorem krc : khl.Ok Try.prog TB := Con.ok_fn k2q bd119 fun x h => k13g (kzf (TField.mk x.1) x.2.1 x.2.2.1 h)
end Go.Proofs.Ytpffhgljgpjenaa
namespace Go.Proofs.Ytpffhgljgpjenaa
open Go Go.Bv Go.Cv Go.Md Go.RowKit
def k2s : Con TB.den := Con.mk0 111 [.agg [.d (.int .u64)], .one (.d (.int .u64)), .one (.d (.int .u64))] [] (.one (.one (.d (.int .u64)))) []
abbrev kv8 := HL TB.den (hsT k2s.ins (hsOs k2s.pre))
abbrev kgv := HL TB.den (hsV k2s.res (hsOs k2s.post))
noncomputable def kbh : Cx TB := ⟨inf, [k58, k6r, khl], [], 4⟩
noncomputable def kgk : Code := Try.f111.body.getD .skip
noncomputable def kj8 : List ResultVar := Try.f111.results.toList
noncomputable def ks4 (o : kgv) : An TB := .no
noncomputable def kgl (x : kv8) (o : kgv) : Prop := WPh TB kbh 18 0 kgk (ks4 o) (k2s.st TB x) (retTQ TB kbh k2s kj8 o)
set_option maxRecDepth 100000 in
theorem k12m (o : kgv) : OblH TB kbh 18 0 kgk (ks4 o) (retTQ TB kbh k2s kj8 o) :=
  OblH.of_eq (X := (True ∧ ((True ∧ ((True ∧ True) ∧ True)) ∧ (True ∧ True)))) (by kernel_rfl) ⟨trivial, ⟨⟨trivial, ⟨⟨trivial, trivial⟩, trivial⟩⟩, ⟨trivial, trivial⟩⟩⟩
set_option maxRecDepth 100000 in
theorem k13p {x : kv8} {o : kgv} (h : kgl x o) : SoundH Try.prog k2s.f ((k2s.args idf x).map (er TB)) ((k2s.obs idf x).map (erO TB)) (er TB (k2s.val idf o)) ((k2s.ops idf o).map (erO TB)) :=
  Con.soundH (c := k2s) (C := kbh) TBok ⟨inf_ok, (all_cons k76 (all_cons k9j (all_cons krc all_nil))), all_nil⟩ mix Try.func111 (show Try.f111.body = some kgk by kernel_rfl) (show Try.f111.ntmps = 18 by kernel_rfl) (show Try.f111.results.toList = kj8 by kernel_rfl) rfl h (k12m o)
set_option maxRecDepth 100000 in
theorem k152 {p0 : TField} {p1 : Int} {p2 : Int} {r0 : Int} (h :
((p0.P = 18446744069414584321) ∧ ((!true) = true →
 0 = r0) ∧
((!true) = false →
(0 < p0.P ∧ 0 ≤ p1) ∧ (0 < p0.P ∧ 0 ≤ p2) ∧ (p0.P = 18446744069414584321 ∧ (0 ≤ (p1 % p0.P) ∧ (p1 % p0.P) < 18446744069414584321) ∧ (0 ≤ (p2 % p0.P) ∧ (p2 % p0.P) < 18446744069414584321)) ∧ let r1 : Int := ((p1 % p0.P) * (p2 % p0.P) % 18446744069414584321)
 r1 = r0))) : kgl (p0.P, p1, p2, ()) (r0, ()) := WPh.of_eq (by kernel_rfl) h
theorem bd111 : Callable Try.prog 111 := ⟨by rw [Try.func111]; kernel_rfl, by rw [Try.func111]; show some _ ≠ some _; decide⟩
theorem kzx (p0 : TField) (p1 : Int) (p2 : Int) (h : p0.P = 18446744069414584321 ∧ U64 p1 ∧ U64 p2) : kgl (p0.P, p1, p2, ()) (((p1 * p2 % 18446744069414584321) : Int), ()) := by
  obtain ⟨hP, h1, h2⟩ := h
  refine k152 ⟨hP, ?_⟩
  simp only [hP]
  refine ⟨fun h => by simp at h, fun _ => ⟨by omega, by omega, ⟨by trivial, by omega, by omega⟩, ?_⟩⟩
  exact (Int.mul_emod _ _ _).symm
noncomputable def kpn : Con TB.den := k2s.fnR (fun x => (fun (p0 : TField) (p1 : Int) (p2 : Int) => p0.P = 18446744069414584321 ∧ U64 p1 ∧ U64 p2) (TField.mk x.1) x.2.1 x.2.2.1) fun x => ((fun (p0 : TField) (p1 : Int) (p2 : Int) => ((p1 * p2 % 18446744069414584321) : Int)) (TField.mk x.1) x.2.1 x.2.2.1, ())
theorem k13v : kpn.Ok Try.prog TB := Con.ok_fn k2s bd111 fun x h => k13p (kzx (TField.mk x.1) x.2.1 x.2.2.1 h)
end Go.Proofs.Ytpffhgljgpjenaa
namespace Go.Proofs.Ytpffhgljgpjenaa
open Go Go.Bv Go.Cv Go.Md Go.RowKit
def k1g : Con TB.den := Con.mk0 131 [.agg [.d (.int .u64)]] [] (.tup [.one (.d (.int .u64)), .one (.d (.int .i64)), .one (.d (.int .u64))]) []
abbrev kl9 := HL TB.den (hsT k1g.ins (hsOs k1g.pre))
abbrev kag := HL TB.den (hsV k1g.res (hsOs k1g.post))
noncomputable def k7c : Cx TB := ⟨inf, [], [], 4⟩
noncomputable def kax : Code := Try.f131.body.getD .skip
noncomputable def kd3 : List ResultVar := Try.f131.results.toList
noncomputable def kjt (o : kag) : An TB := .no
noncomputable def kap (x : kl9) (o : kag) : Prop := WPh TB k7c 21 0 kax (kjt o) (k1g.st TB x) (retTQ TB k7c k1g kd3 o)
set_option maxRecDepth 100000 in
theorem kuj (o : kag) : OblH TB k7c 21 0 kax (kjt o) (retTQ TB k7c k1g kd3 o) :=
  OblH.of_eq (X := (True ∧ ((True ∧ (True ∧ ((True ∧ True) ∧ (True ∧ ((True ∧ True) ∧ (True ∧ ((True ∧ True) ∧ (True ∧ ((True ∧ True) ∧ (True ∧ ((True ∧ True) ∧ (True ∧ ((True ∧ True) ∧ (True ∧ ((True ∧ True) ∧ True))))))))))))))) ∧ (True ∧ True)))) (by kernel_rfl) ⟨trivial, ⟨⟨trivial, ⟨trivial, ⟨⟨trivial, trivial⟩, ⟨trivial, ⟨⟨trivial, trivial⟩, ⟨trivial, ⟨⟨trivial, trivial⟩, ⟨trivial, ⟨⟨trivial, trivial⟩, ⟨trivial, ⟨⟨trivial, trivial⟩, ⟨trivial, ⟨⟨trivial, trivial⟩, ⟨trivial, ⟨⟨trivial, trivial⟩, trivial⟩⟩⟩⟩⟩⟩⟩⟩⟩⟩⟩⟩⟩⟩⟩, ⟨trivial, trivial⟩⟩⟩
set_option maxRecDepth 100000 in
theorem kui {x : kl9} {o : kag} (h : kap x o) : SoundH Try.prog k1g.f ((k1g.args idf x).map (er TB)) ((k1g.obs idf x).map (erO TB)) (er TB (k1g.val idf o)) ((k1g.ops idf o).map (erO TB)) :=
  Con.soundH (c := k1g) (C := k7c) TBok ⟨inf_ok, all_nil, all_nil⟩ mix Try.func131 (show Try.f131.body = some kax by kernel_rfl) (show Try.f131.ntmps = 21 by kernel_rfl) (show Try.f131.results.toList = kd3 by kernel_rfl) rfl h (kuj o)
set_option maxRecDepth 100000 in
theorem kwx {p0 : TField} {r0 : Int} {r1 : Int} {r2 : Int} (h :
(((p0.P == 17) = true →
 3 = r0 ∧ 4 = r1 ∧ 3 = r2) ∧
((p0.P == 17) = false →
((p0.P == 97) = true →
 5 = r0 ∧ 5 = r1 ∧ 5 = r2) ∧
((p0.P == 97) = false →
((p0.P == 193) = true →
 5 = r0 ∧ 6 = r1 ∧ 5 = r2) ∧
((p0.P == 193) = false →
((p0.P == 257) = true →
 3 = r0 ∧ 8 = r1 ∧ 3 = r2) ∧
((p0.P == 257) = false →
((p0.P == 12289) = true →
 11 = r0 ∧ 12 = r1 ∧ 5 = r2) ∧
((p0.P == 12289) = false →
((p0.P == 65537) = true →
 3 = r0 ∧ 16 = r1 ∧ 3 = r2) ∧
((p0.P == 65537) = false →
((p0.P == 18446744069414584321) = true →
 7 = r0 ∧ 32 = r1 ∧ 7 = r2) ∧
((p0.P == 18446744069414584321) = false →
 0 = r0 ∧ 0 = r1 ∧ 0 = r2))))))))) : kap (p0.P, ()) (r0, r1, r2, ()) := WPh.of_eq (by kernel_rfl) h
theorem bd131 : Callable Try.prog 131 := ⟨by rw [Try.func131]; kernel_rfl, by rw [Try.func131]; show some _ ≠ some _; decide⟩
theorem ksa (p0 : TField) (h : p0.P = 18446744069414584321) : kap (p0.P, ()) ((7 : Int), (32 : Int), (7 : Int), ()) := by
  refine kwx ?_
  simp [h]
noncomputable def kib : Con TB.den := k1g.fnR (fun x => (fun (p0 : TField) => p0.P = 18446744069414584321) (TField.mk x.1)) fun x => ((fun (p0 : TField) => (7 : Int)) (TField.mk x.1), (fun (p0 : TField) => (32 : Int)) (TField.mk x.1), (fun (p0 : TField) => (7 : Int)) (TField.mk x.1), ())
theorem kwo : kib.Ok Try.prog TB := Con.ok_fn k1g bd131 fun x h => kui (ksa (TField.mk x.1) h)
end Go.Proofs.Ytpffhgljgpjenaa
namespace Go.Proofs.Ytpffhgljgpjenaa
open Go Go.Bv Go.Cv Go.Md Go.RowKit
def k18 : Con TB.den := Con.mk0 120 [.agg [.d (.int .u64)]] [] (.one (.one (.d (.int .u64)))) []
abbrev kk4 := HL TB.den (hsT k18.ins (hsOs k18.pre))
abbrev k9e := HL TB.den (hsV k18.res (hsOs k18.post))
noncomputable def k6o : Cx TB := ⟨inf, [kib], [], 4⟩
noncomputable def ka8 : Code := Try.f120.body.getD .skip
noncomputable def kc9 : List ResultVar := Try.f120.results.toList
noncomputable def kih (o : k9e) : An TB := .no
noncomputable def ka9 (x : kk4) (o : k9e) : Prop := WPh TB k6o 13 0 ka8 (kih o) (k18.st TB x) (retTQ TB k6o k18 kc9 o)
set_option maxRecDepth 100000 in
theorem kt1 (o : k9e) : OblH TB k6o 13 0 ka8 (kih o) (retTQ TB k6o k18 kc9 o) :=
  OblH.of_eq (X := (True ∧ (True ∧ (True ∧ True)))) (by kernel_rfl) ⟨trivial, ⟨trivial, ⟨trivial, trivial⟩⟩⟩
set_option maxRecDepth 100000 in
theorem krk {x : kk4} {o : k9e} (h : ka9 x o) : SoundH Try.prog k18.f ((k18.args idf x).map (er TB)) ((k18.obs idf x).map (erO TB)) (er TB (k18.val idf o)) ((k18.ops idf o).map (erO TB)) :=
  Con.soundH (c := k18) (C := k6o) TBok ⟨inf_ok, (all_cons kwo all_nil), all_nil⟩ mix Try.func120 (show Try.f120.body = some ka8 by kernel_rfl) (show Try.f120.ntmps = 13 by kernel_rfl) (show Try.f120.results.toList = kc9 by kernel_rfl) rfl h (kt1 o)
set_option maxRecDepth 100000 in
theorem ku8 {p0 : TField} {r0 : Int} (h :
((p0.P = 18446744069414584321) ∧ 7 = r0)) : ka9 (p0.P, ()) (r0, ()) := WPh.of_eq (by kernel_rfl) h
theorem bd120 : Callable Try.prog 120 := ⟨by rw [Try.func120]; kernel_rfl, by rw [Try.func120]; show some _ ≠ some _; decide⟩
theorem kqj (p0 : TField) (h : p0.P = 18446744069414584321) : ka9 (p0.P, ()) ((7 : Int), ()) := by
  exact ku8 ⟨h, rfl⟩
noncomputable def khh : Con TB.den := k18.fnR (fun x => (fun (p0 : TField) => p0.P = 18446744069414584321) (TField.mk x.1)) fun x => ((fun (p0 : TField) => (7 : Int)) (TField.mk x.1), ())
theorem kun : khh.Ok Try.prog TB := Con.ok_fn k18 bd120 fun x h => krk (kqj (TField.mk x.1) h)
end Go.Proofs.Ytpffhgljgpjenaa
namespace Go.Proofs.Ytpffhgljgpjenaa
open Go Go.Bv Go.Cv Go.Md Go.RowKit
def k2a : Con TB.den := Con.mk0 132 [.agg [.d (.int .u64)], .one (.d (.int .u64)), .one (.d (.int .u64))] [] (.one (.one (.d (.int .u64)))) []
abbrev kvb := HL TB.den (hsT k2a.ins (hsOs k2a.pre))
abbrev k4t := HL TB.den (hsV k2a.res (hsOs k2a.post))
noncomputable def k4x : Cx TB := ⟨inf, [khl], [], 4⟩
noncomputable def k77 : Code := Try.f132.body.getD .skip
noncomputable def kak : List ResultVar := Try.f132.results.toList
noncomputable def k159 (o : k4t) : Exit → TSt TB.den → Prop := thenT TB (fun s => ghs TB [] s fun s => WP TB k4x 26 0 (cB (cB (cB k77))) .no s (retTQ TB k4x k2a kak o)) (retTQ TB k4x k2a kak o)
def k3r : Tm := ⟨[0], [.cells [.d (.int .u64)]], [1, 2, 3, 7], [.one (.d (.int .u64)), .one (.d (.int .u64)), .one (.ptr 0 0), .one (.d (.int .u64))], 1⟩
noncomputable def kt7 (o : k4t) (nx1 : HL TB.den k3r.hs → Prop) : Exit → TSt TB.den → Prop := thenT TB (fun s => k3r.mat TB 0 s nx1) (blockT TB 0 (k159 o))
def kcr : Tm := ⟨[0], [.cells [.d (.int .u64)]], [1, 2, 3, 7], [.one (.d (.int .u64)), .one (.d (.int .u64)), .one (.ptr 0 0), .one (.d (.int .u64))], 1⟩
noncomputable def kq0 (o : k4t) (nx1 : HL TB.den k3r.hs → Prop) (i : HL TB.den kcr.hs) : Prop := ghs TB [] (kcr.fill TB i) fun s => WP TB k4x 26 0 (cB (cA (cB (cA (cA (cA (cB (cB k77)))))))) .no s (blockT TB 1 (kt7 o nx1))
structure k8p (o : k4t) (nx1 : HL TB.den k3r.hs → Prop) (i : HL TB.den kcr.hs) : Prop where
  h : kq0 o nx1 i
noncomputable def krn (o : k4t) (nx1 : HL TB.den k3r.hs → Prop) : An TB := .nd [] .no [] (.jn kcr (k8p o nx1) [] .no [] .no)
noncomputable def kba (o : k4t) (nx1 : HL TB.den k3r.hs → Prop) (i : HL TB.den k3r.hs) : Prop := WP TB k4x 26 0 (cA (cA (cA (cB (cB k77))))) (krn o nx1) (k3r.fill TB i) (kt7 o nx1)
noncomputable def k14p (o : k4t) : An TB := .lp [] k3r (kba o) fun nx1 => (krn o nx1)
noncomputable def ksq (o : k4t) : An TB := .nd [] .no [] (.nd [] .no [] (.nd [] (k14p o) [] .no))
noncomputable def kg6 (x : kvb) (o : k4t) : Prop := WPh TB k4x 26 0 k77 (ksq o) (k2a.st TB x) (retTQ TB k4x k2a kak o)
set_option maxRecDepth 100000 in
theorem k13l (o : k4t) : OblH TB k4x 26 0 k77 (ksq o) (retTQ TB k4x k2a kak o) :=
  OblH.of_eq (X := (True ∧ (True ∧ (((∀ nx i, (kba o) nx i = (kba o) nx i) ∧ ∀ nx1 : HL TB.den k3r.hs → Prop, ((True ∧ (True ∧ True)) ∧ ((True ∧ (True ∧ True)) ∧ (∀ i, (k8p o nx1) i = (kq0 o nx1) i) ∧ (True ∧ (True ∧ (True ∧ True)))))) ∧ (True ∧ True))))) (by kernel_rfl) ⟨trivial, ⟨trivial, ⟨⟨fun _ _ => rfl, fun _ => ⟨⟨trivial, ⟨trivial, trivial⟩⟩, ⟨⟨trivial, ⟨trivial, trivial⟩⟩, fun _ => propext ⟨fun h => h.1, fun h => ⟨h⟩⟩, ⟨trivial, ⟨trivial, ⟨trivial, trivial⟩⟩⟩⟩⟩⟩, ⟨trivial, trivial⟩⟩⟩⟩
set_option maxRecDepth 100000 in
theorem k12w {x : kvb} {o : k4t} (h : kg6 x o) : SoundH Try.prog k2a.f ((k2a.args idf x).map (er TB)) ((k2a.obs idf x).map (erO TB)) (er TB (k2a.val idf o)) ((k2a.ops idf o).map (erO TB)) :=
  Con.soundH (c := k2a) (C := k4x) TBok ⟨inf_ok, (all_cons krc all_nil), all_nil⟩ mix Try.func132 (show Try.f132.body = some k77 by kernel_rfl) (show Try.f132.ntmps = 26 by kernel_rfl) (show Try.f132.results.toList = kak by kernel_rfl) rfl h (k13l o)
set_option maxRecDepth 100000 in
theorem k143 {p0 : TField} {p1 : Int} {p2 : Int} {r0 : Int} (h :
(Md.Loop (p1, p2, (1 : Int), p0.P, ()) (kba (r0, ())))) : kg6 (p0.P, p1, p2, ()) (r0, ()) := WPh.of_eq (by kernel_rfl) h
set_option maxRecDepth 100000 in
theorem kzc {r0 : Int} {nx1 : HL TB.den k3r.hs → Prop} {s1 : Int} {s2 : Int} {s7 : Int} {h0_0 : Int} (h :
((decide (0 < (ishr .u64 s2 1)) = true →
((TField.mk h0_0).P = 18446744069414584321 ∧ (0 ≤ s1 ∧ s1 < 18446744069414584321) ∧ (0 ≤ s1 ∧ s1 < 18446744069414584321)) ∧ nx1 (((s1 * s1 % 18446744069414584321) : Int), (ishr .u64 s2 1 : Int), s7, h0_0, ())) ∧
(decide (0 < (ishr .u64 s2 1)) = false →
 nx1 (s1, (ishr .u64 s2 1 : Int), s7, h0_0, ())))) : k8p (r0, ()) nx1 (s1, s2, s7, h0_0, ()) := ⟨mpr_of (by kernel_rfl) h⟩
def ksx (r0 : Int) (nx1 : HL TB.den k3r.hs → Prop) (k1 : Int → Int → Int → Prop) (h0_0 : Int) (s1 : Int) (s2 : Int) (s7 : Int) : Prop :=
(decide (0 < s2) = true →
(((iand .u64 s2 1) == 1) = true →
((TField.mk h0_0).P = 18446744069414584321 ∧ (0 ≤ s7 ∧ s7 < 18446744069414584321) ∧ (0 ≤ s1 ∧ s1 < 18446744069414584321)) ∧ k8p (r0, ()) nx1 (s1, s2, ((s7 * s1 % 18446744069414584321) : Int), h0_0, ())) ∧
(((iand .u64 s2 1) == 1) = false →
 k8p (r0, ()) nx1 (s1, s2, s7, h0_0, ()))) ∧
(decide (0 < s2) = false →
 s7 = r0)
set_option maxRecDepth 100000 in
theorem k13n {r0 : Int} {h0_0 : Int} {s1 : Int} {s2 : Int} {s7 : Int} (inv : Int → Int → Int → Prop) (μ : Int → Int → Int → Nat) (h0 : inv s1 s2 s7) (hs : ∀ (s1 : Int) (s2 : Int) (s7 : Int), inv s1 s2 s7 → ksx r0 (fun s : Int × Int × Int × Int × Unit => ((s.2.2.2.1 = h0_0) ∧ inv s.1 s.2.1 s.2.2.1) ∧ μ s.1 s.2.1 s.2.2.1 < μ s1 s2 s7) (fun s1q s2q s7q => inv s1q s2q s7q ∧ μ s1q s2q s7q < μ s1 s2 s7) h0_0 s1 s2 s7) : Md.Loop (s1, s2, s7, h0_0, ()) (kba (r0, ())) :=
  ⟨⟨fun s : Int × Int × Int × Int × Unit => (s.2.2.2.1 = h0_0) ∧ inv s.1 s.2.1 s.2.2.1, fun s : Int × Int × Int × Int × Unit => μ s.1 s.2.1 s.2.2.1, ⟨rfl, h0⟩, fun (s1p, s2p, s7p, h0_0p, ()) ⟨eq0, hi⟩ => by
    have eq0 : h0_0p = h0_0 := eq0; subst h0_0p; exact mpr_of (by kernel_rfl) ((congrArg (fun k => ksx r0 (fun s : Int × Int × Int × Int × Unit => ((s.2.2.2.1 = h0_0) ∧ inv s.1 s.2.1 s.2.2.1) ∧ μ s.1 s.2.1 s.2.2.1 < μ s1p s2p s7p) k h0_0 s1p s2p s7p) (lpk3 (rfl : h0_0 = h0_0) inv (fun s1q s2q s7q => μ s1q s2q s7q < μ s1p s2p s7p))).mpr (hs s1p s2p s7p hi))⟩⟩
theorem bd132 : Callable Try.prog 132 := ⟨by rw [Try.func132]; kernel_rfl, by rw [Try.func132]; show some _ ≠ some _; decide⟩
theorem k108 (p0 : TField) (p1 : Int) (p2 : Int) (h : p0.P = 18446744069414584321 ∧ (0 ≤ p1 ∧ p1 < 18446744069414584321) ∧ U64 p2) : kg6 (p0.P, p1, p2, ()) (((pw p1 p2) : Int), ()) := by
  obtain ⟨hP, h1, h2⟩ := h
  refine k143 ?_
  rw [hP]
  refine k13n (fun a e r => (0 ≤ a ∧ a < 18446744069414584321) ∧ U64 e ∧ (0 ≤ r ∧ r < 18446744069414584321) ∧ (r * a ^ e.toNat) % 18446744069414584321 = pw p1 p2) (fun a e r => e.toNat) ⟨h1, h2, by omega, by rw [Int.one_mul]; rfl⟩ ?_
  rintro a e r ⟨ha, he, hr, hv⟩
  have jj : ∀ nx r', (0 ≤ r' ∧ r' < 18446744069414584321) → 0 < e → (r' * (a * a) ^ (e / 2).toNat) % 18446744069414584321 = pw p1 p2 → (∀ a', (0 ≤ a' ∧ a' < 18446744069414584321) → r' * a' ^ (e / 2).toNat % 18446744069414584321 = pw p1 p2 → nx (a', (e / 2 : Int), r', (18446744069414584321 : Int), ())) → k8p ((pw p1 p2 : Int), ()) nx (a, e, r', (18446744069414584321 : Int), ()) := by
    intro nx r' hr' he' hv' hn
    refine kzc ?_
    rw [ishr1]
    refine ⟨fun h => ⟨⟨rfl, ha, ha⟩, ?_⟩, fun h => ?_⟩
    · refine hn _ ⟨Int.emod_nonneg _ (by omega), Int.emod_lt_of_pos _ (by omega)⟩ ?_
      rw [← hv', Int.mul_emod, Int.mul_emod r' ((a * a) ^ _), kp3]
    · have h : ¬ 0 < e / 2 := of_decide_eq_false h
      refine hn _ ha ?_
      rw [show (e / 2).toNat = 0 by omega] at hv' ⊢
      simpa using hv'
  refine ⟨fun h => ?_, fun h => ?_⟩
  · have h := of_decide_eq_true h
    rw [k19z e he]
    have nxt : ∀ a' r', (0 ≤ a' ∧ a' < 18446744069414584321) → (0 ≤ r' ∧ r' < 18446744069414584321) → r' * a' ^ (e / 2).toNat % 18446744069414584321 = pw p1 p2 → ((0 ≤ a' ∧ a' < 18446744069414584321) ∧ U64 (e / 2) ∧ (0 ≤ r' ∧ r' < 18446744069414584321) ∧ r' * a' ^ (e / 2).toNat % 18446744069414584321 = pw p1 p2) ∧ (e / 2).toNat < e.toNat := fun a' r' h1 h2 h3 => ⟨⟨h1, ⟨by omega, by omega⟩, h2, h3⟩, by omega⟩
    have hpow : ∀ k : Nat, a ^ (2 * k) = (a * a) ^ k := fun k => by rw [Int.pow_mul]; congr 1; rw [Int.pow_succ, Int.pow_succ, Int.pow_zero, Int.one_mul]
    refine ⟨fun h1 => ⟨⟨rfl, hr, ha⟩, ?_⟩, fun h1 => ?_⟩
    · have h1 : e % 2 = 1 := by simpa using h1
      refine jj _ _ ⟨Int.emod_nonneg _ (by omega), Int.emod_lt_of_pos _ (by omega)⟩ h ?_ fun a' ha' hv' => ⟨⟨rfl, (nxt a' _ ha' ⟨Int.emod_nonneg _ (by omega), Int.emod_lt_of_pos _ (by omega)⟩ hv').1⟩, (nxt a' _ ha' ⟨Int.emod_nonneg _ (by omega), Int.emod_lt_of_pos _ (by omega)⟩ hv').2⟩
      rw [← hv, show e.toNat = 2 * (e / 2).toNat + 1 by omega, Int.pow_succ, hpow, Int.mul_emod, Int.emod_emod_of_dvd _ (Int.dvd_refl _), ← Int.mul_emod]
      congr 1
      grind
    · have h1 : ¬ e % 2 = 1 := by simpa using h1
      refine jj _ _ hr h ?_ fun a' ha' hv' => ⟨⟨rfl, (nxt a' _ ha' hr hv').1⟩, (nxt a' _ ha' hr hv').2⟩
      rw [← hv, ← hpow, show e.toNat = 2 * (e / 2).toNat by omega]
  · have h : ¬ 0 < e := of_decide_eq_false h
    rw [show e.toNat = 0 by omega, Int.pow_zero, Int.mul_one, Int.emod_eq_of_lt hr.1 hr.2] at hv
    exact hv
noncomputable def kpv : Con TB.den := k2a.fnR (fun x => (fun (p0 : TField) (p1 : Int) (p2 : Int) => p0.P = 18446744069414584321 ∧ (0 ≤ p1 ∧ p1 < 18446744069414584321) ∧ U64 p2) (TField.mk x.1) x.2.1 x.2.2.1) fun x => ((fun (p0 : TField) (p1 : Int) (p2 : Int) => ((pw p1 p2) : Int)) (TField.mk x.1) x.2.1 x.2.2.1, ())
theorem k14t : kpv.Ok Try.prog TB := Con.ok_fn k2a bd132 fun x h => k12w (k108 (TField.mk x.1) x.2.1 x.2.2.1 h)
end Go.Proofs.Ytpffhgljgpjenaa
namespace Go.Proofs.Ytpffhgljgpjenaa
open Go Go.Bv Go.Cv Go.Md Go.RowKit
def k2o : Con TB.den := Con.mk0 121 [.agg [.d (.int .u64)], .one (.d (.int .u64)), .one (.d (.int .u64))] [] (.one (.one (.d (.int .u64)))) []
abbrev kv6 := HL TB.den (hsT k2o.ins (hsOs k2o.pre))
abbrev kgp := HL TB.den (hsV k2o.res (hsOs k2o.post))
noncomputable def kb6 : Cx TB := ⟨inf, [k58, k6r, kpv], [], 4⟩
noncomputable def kfl : Code := Try.f121.body.getD .skip
noncomputable def kke : List ResultVar := Try.f121.results.toList
noncomputable def ks9 (o : kgp) : An TB := .no
noncomputable def kfi (x : kv6) (o : kgp) : Prop := WPh TB kb6 16 0 kfl (ks9 o) (k2o.st TB x) (retTQ TB kb6 k2o kke o)
set_option maxRecDepth 100000 in
theorem k12t (o : kgp) : OblH TB kb6 16 0 kfl (ks9 o) (retTQ TB kb6 k2o kke o) :=
  OblH.of_eq (X := (True ∧ ((True ∧ ((True ∧ True) ∧ True)) ∧ (True ∧ True)))) (by kernel_rfl) ⟨trivial, ⟨⟨trivial, ⟨⟨trivial, trivial⟩, trivial⟩⟩, ⟨trivial, trivial⟩⟩⟩
set_option maxRecDepth 100000 in
theorem k12e {x : kv6} {o : kgp} (h : kfi x o) : SoundH Try.prog k2o.f ((k2o.args idf x).map (er TB)) ((k2o.obs idf x).map (erO TB)) (er TB (k2o.val idf o)) ((k2o.ops idf o).map (erO TB)) :=
  Con.soundH (c := k2o) (C := kb6) TBok ⟨inf_ok, (all_cons k76 (all_cons k9j (all_cons k14t all_nil))), all_nil⟩ mix Try.func121 (show Try.f121.body = some kfl by kernel_rfl) (show Try.f121.ntmps = 16 by kernel_rfl) (show Try.f121.results.toList = kke by kernel_rfl) rfl h (k12t o)
set_option maxRecDepth 100000 in
theorem k149 {p0 : TField} {p1 : Int} {p2 : Int} {r0 : Int} (h :
((p0.P = 18446744069414584321) ∧ ((!true) = true →
 0 = r0) ∧
((!true) = false →
(0 < p0.P ∧ 0 ≤ p1) ∧ (p0.P = 18446744069414584321 ∧ (0 ≤ (p1 % p0.P) ∧ (p1 % p0.P) < 18446744069414584321) ∧ U64 p2) ∧ (pw (p1 % p0.P) p2) = r0))) : kfi (p0.P, p1, p2, ()) (r0, ()) := WPh.of_eq (by kernel_rfl) h
theorem bd121 : Callable Try.prog 121 := ⟨by rw [Try.func121]; kernel_rfl, by rw [Try.func121]; show some _ ≠ some _; decide⟩
theorem k10k (p0 : TField) (p1 : Int) (p2 : Int) (h : p0.P = 18446744069414584321 ∧ U64 p1 ∧ U64 p2) : kfi (p0.P, p1, p2, ()) (((pw (p1 % 18446744069414584321) p2) : Int), ()) := by
  obtain ⟨hP, h1, h2⟩ := h
  refine k149 ⟨hP, fun h => by simp at h, fun _ => ⟨by omega, ?_⟩⟩
  simp only [hP]
  exact ⟨⟨by trivial, by omega, h2⟩, trivial⟩
noncomputable def kqh : Con TB.den := k2o.fnR (fun x => (fun (p0 : TField) (p1 : Int) (p2 : Int) => p0.P = 18446744069414584321 ∧ U64 p1 ∧ U64 p2) (TField.mk x.1) x.2.1 x.2.2.1) fun x => ((fun (p0 : TField) (p1 : Int) (p2 : Int) => ((pw (p1 % 18446744069414584321) p2) : Int)) (TField.mk x.1) x.2.1 x.2.2.1, ())
theorem k14o : kqh.Ok Try.prog TB := Con.ok_fn k2o bd121 fun x h => k12e (k10k (TField.mk x.1) x.2.1 x.2.2.1 h)
end Go.Proofs.Ytpffhgljgpjenaa
namespace Go.Proofs.Ytpffhgljgpjenaa
open Go Go.Bv Go.Cv Go.Md Go.RowKit
def k1p : Con TB.den := Con.mk0 133 [.agg [.d (.int .u64)], .one (.d (.int .u64))] [] (.one (.one (.d (.int .u64)))) []
abbrev kne := HL TB.den (hsT k1p.ins (hsOs k1p.pre))
abbrev kbs := HL TB.den (hsV k1p.res (hsOs k1p.post))
noncomputable def k7v : Cx TB := ⟨inf, [k58, k6r], [], 4⟩
noncomputable def kc1 : Code := Try.f133.body.getD .skip
noncomputable def ked : List ResultVar := Try.f133.results.toList
noncomputable def klm (o : kbs) : An TB := .no
noncomputable def kca (x : kne) (o : kbs) : Prop := WPh TB k7v 11 0 kc1 (klm o) (k1p.st TB x) (retTQ TB k7v k1p ked o)
set_option maxRecDepth 100000 in
theorem kwm (o : kbs) : OblH TB k7v 11 0 kc1 (klm o) (retTQ TB k7v k1p ked o) :=
  OblH.of_eq (X := (True ∧ ((True ∧ ((True ∧ True) ∧ True)) ∧ (True ∧ True)))) (by kernel_rfl) ⟨trivial, ⟨⟨trivial, ⟨⟨trivial, trivial⟩, trivial⟩⟩, ⟨trivial, trivial⟩⟩⟩
set_option maxRecDepth 100000 in
theorem kwp {x : kne} {o : kbs} (h : kca x o) : SoundH Try.prog k1p.f ((k1p.args idf x).map (er TB)) ((k1p.obs idf x).map (erO TB)) (er TB (k1p.val idf o)) ((k1p.ops idf o).map (erO TB)) :=
  Con.soundH (c := k1p) (C := k7v) TBok ⟨inf_ok, (all_cons k76 (all_cons k9j all_nil)), all_nil⟩ mix Try.func133 (show Try.f133.body = some kc1 by kernel_rfl) (show Try.f133.ntmps = 11 by kernel_rfl) (show Try.f133.results.toList = ked by kernel_rfl) rfl h (kwm o)
set_option maxRecDepth 100000 in
theorem kyc {p0 : TField} {p1 : Int} {r0 : Int} (h :
((p0.P = 18446744069414584321) ∧ ((!true) = true →
 0 = r0) ∧
((!true) = false →
(0 < p0.P ∧ 0 ≤ p1) ∧ (p1 % p0.P) = r0))) : kca (p0.P, p1, ()) (r0, ()) := WPh.of_eq (by kernel_rfl) h
theorem bd133 : Callable Try.prog 133 := ⟨by rw [Try.func133]; kernel_rfl, by rw [Try.func133]; show some _ ≠ some _; decide⟩
theorem ku5 (p0 : TField) (p1 : Int) (h : p0.P = 18446744069414584321 ∧ U64 p1) : kca (p0.P, p1, ()) (((p1 % 18446744069414584321) : Int), ()) := by
  obtain ⟨hP, h1⟩ := h
  refine kyc ⟨hP, fun h => by simp at h, fun _ => ⟨by omega, ?_⟩⟩
  simp only [hP]
noncomputable def kk2 : Con TB.den := k1p.fnR (fun x => (fun (p0 : TField) (p1 : Int) => p0.P = 18446744069414584321 ∧ U64 p1) (TField.mk x.1) x.2.1) fun x => ((fun (p0 : TField) (p1 : Int) => ((p1 % 18446744069414584321) : Int)) (TField.mk x.1) x.2.1, ())
theorem kxl : kk2.Ok Try.prog TB := Con.ok_fn k1p bd133 fun x h => kwp (ku5 (TField.mk x.1) x.2.1 h)
end Go.Proofs.Ytpffhgljgpjenaa
namespace Go.Proofs.Ytpffhgljgpjenaa
open Go Go.Bv Go.Cv Go.Md Go.RowKit
def ke : Con TB.den := Con.mk0 122 [.one (.d (.int .u64)), .one (.d (.int .i64)), .one (.d (.int .i64))] [] (.one (.one (.d (.int .u64)))) []
abbrev kcm := HL TB.den (hsT ke.ins (hsOs ke.pre))
abbrev k5u := HL TB.den (hsV ke.res (hsOs ke.post))
noncomputable def k4d : Cx TB := ⟨inf, [kk2], [], 4⟩
noncomputable def k6v : Code := Try.f122.body.getD .skip
noncomputable def k7q : List ResultVar := Try.f122.results.toList
noncomputable def kbw (o : k5u) : An TB := .no
noncomputable def k6u (x : kcm) (o : k5u) : Prop := WPh TB k4d 31 0 k6v (kbw o) (ke.st TB x) (retTQ TB k4d ke k7q o)
set_option maxRecDepth 100000 in
theorem kjw (o : k5u) : OblH TB k4d 31 0 k6v (kbw o) (retTQ TB k4d ke k7q o) :=
  OblH.of_eq (X := (True ∧ ((True ∧ ((True ∧ True) ∧ True)) ∧ (True ∧ True)))) (by kernel_rfl) ⟨trivial, ⟨⟨trivial, ⟨⟨trivial, trivial⟩, trivial⟩⟩, ⟨trivial, trivial⟩⟩⟩
set_option maxRecDepth 100000 in
theorem kjv {x : kcm} {o : k5u} (h : k6u x o) : SoundH Try.prog ke.f ((ke.args idf x).map (er TB)) ((ke.obs idf x).map (erO TB)) (er TB (ke.val idf o)) ((ke.ops idf o).map (erO TB)) :=
  Con.soundH (c := ke) (C := k4d) TBok ⟨inf_ok, (all_cons kxl all_nil), all_nil⟩ mix Try.func122 (show Try.f122.body = some k6v by kernel_rfl) (show Try.f122.ntmps = 31 by kernel_rfl) (show Try.f122.results.toList = k7q by kernel_rfl) rfl h (kjw o)
set_option maxRecDepth 100000 in
theorem kko {p0 : Int} {p1 : Int} {p2 : Int} {r0 : Int} (h :
((decide (p1 < 0) = true →
 0 = r0) ∧
(decide (p1 < 0) = false →
(decide (8 ≤ p1) = true →
 0 = r0) ∧
(decide (8 ≤ p1) = false →
(decide (p2 < 0) = true →
 0 = r0) ∧
(decide (p2 < 0) = false →
(decide (2 < p2) = true →
 0 = r0) ∧
(decide (2 < p2) = false →
 let v1 : Int := IntKind.i64.wrap ((IntKind.i64.wrap (3 * p1)) + p2)
 let v2 : Int := IntKind.u64.wrap (IntKind.i64.wrap (v1 + 1))
 let v3 : Int := IntKind.u64.wrap (v2 * 11400714819323198485)
((TField.mk p0).P = 18446744069414584321 ∧ U64 v3) ∧ (v3 % 18446744069414584321) = r0)))))) : k6u (p0, p1, p2, ()) (r0, ()) := WPh.of_eq (by kernel_rfl) h
theorem bd122 : Callable Try.prog 122 := ⟨by rw [Try.func122]; kernel_rfl, by rw [Try.func122]; show some _ ≠ some _; decide⟩
theorem kir (p0 : Int) (p1 : Int) (p2 : Int) (h : p0 = 18446744069414584321 ∧ (0 ≤ p1 ∧ p1 < 8) ∧ 0 ≤ p2 ∧ p2 < 3) : k6u (p0, p1, p2, ()) (((rc p1 p2) : Int), ()) := by
  obtain ⟨hP, h1, h2⟩ := h
  refine kko ⟨fun h => ?_, fun _ => ⟨fun h => ?_, fun _ => ⟨fun h => ?_, fun _ => ⟨fun h => ?_, fun _ => ?_⟩⟩⟩⟩
  · simp at h; omega
  · simp at h; omega
  · simp at h; omega
  · simp at h; omega
  · simp only []
    rw [wi (3 * p1) (by omega) (by omega), wi (3 * p1 + p2) (by omega) (by omega), wi (3 * p1 + p2 + 1) (by omega) (by omega), wu (3 * p1 + p2 + 1) (by omega) (by omega), u64w]
    exact ⟨⟨hP, by omega, by omega⟩, rfl⟩
noncomputable def kb1 : Con TB.den := ke.fnR (fun x => (fun (p0 : Int) (p1 : Int) (p2 : Int) => p0 = 18446744069414584321 ∧ (0 ≤ p1 ∧ p1 < 8) ∧ 0 ≤ p2 ∧ p2 < 3) x.1 x.2.1 x.2.2.1) fun x => ((fun (p0 : Int) (p1 : Int) (p2 : Int) => ((rc p1 p2) : Int)) x.1 x.2.1 x.2.2.1, ())
theorem kkv : kb1.Ok Try.prog TB := Con.ok_fn ke bd122 fun x h => kjv (kir x.1 x.2.1 x.2.2.1 h)
end Go.Proofs.Ytpffhgljgpjenaa
namespace Go.Proofs.Ytpffhgljgpjenaa
open Go Go.Bv Go.Cv Go.Md Go.RowKit
def kz : Con TB.den := Con.mk0 123 [.one (.d (.int .u64)), .agg [.d (.int .u64), .d (.int .u64), .d (.int .u64)]] [] (.one (.agg [.d (.int .u64), .d (.int .u64), .d (.int .u64)])) []
abbrev kid := HL TB.den (hsT kz.ins (hsOs kz.pre))
abbrev k8a := HL TB.den (hsV kz.res (hsOs kz.post))
noncomputable def k5x : Cx TB := ⟨inf, [kcu], [], 4⟩
noncomputable def k9h : Code := Try.f123.body.getD .skip
noncomputable def kb2 : List ResultVar := Try.f123.results.toList
noncomputable def kha (o : k8a) : An TB := .no
noncomputable def k9a (x : kid) (o : k8a) : Prop := WPh TB k5x 35 0 k9h (kha o) (kz.st TB x) (retTQ TB k5x kz kb2 o)
set_option maxRecDepth 100000 in
theorem kqp (o : k8a) : OblH TB k5x 35 0 k9h (kha o) (retTQ TB k5x kz kb2 o) :=
  OblH.of_eq (X := (True ∧ (True ∧ (True ∧ (True ∧ True))))) (by kernel_rfl) ⟨trivial, ⟨trivial, ⟨trivial, ⟨trivial, trivial⟩⟩⟩⟩
set_option maxRecDepth 100000 in
theorem kr8 {x : kid} {o : k8a} (h : k9a x o) : SoundH Try.prog kz.f ((kz.args idf x).map (er TB)) ((kz.obs idf x).map (erO TB)) (er TB (kz.val idf o)) ((kz.ops idf o).map (erO TB)) :=
  Con.soundH (c := kz) (C := k5x) TBok ⟨inf_ok, (all_cons kkd all_nil), all_nil⟩ mix Try.func123 (show Try.f123.body = some k9h by kernel_rfl) (show Try.f123.ntmps = 35 by kernel_rfl) (show Try.f123.results.toList = kb2 by kernel_rfl) rfl h (kqp o)
set_option maxRecDepth 100000 in
theorem ks3 {p0 : Int} {p1 : TA3} {r0 : TA3} (h :
(((TField.mk p0).P = 18446744069414584321 ∧ U64 p1.a0 ∧ U64 p1.a1) ∧ ((TField.mk p0).P = 18446744069414584321 ∧ U64 ((p1.a0 + p1.a1) % 18446744069414584321) ∧ U64 p1.a2) ∧ let r1 : Int := ((((p1.a0 + p1.a1) % 18446744069414584321) + p1.a2) % 18446744069414584321)
((TField.mk p0).P = 18446744069414584321 ∧ U64 p1.a0 ∧ U64 r1) ∧ ((TField.mk p0).P = 18446744069414584321 ∧ U64 p1.a1 ∧ U64 r1) ∧ ((TField.mk p0).P = 18446744069414584321 ∧ U64 p1.a2 ∧ U64 r1) ∧ ((p1.a0 + r1) % 18446744069414584321) = r0.a0 ∧ ((p1.a1 + r1) % 18446744069414584321) = r0.a1 ∧ ((p1.a2 + r1) % 18446744069414584321) = r0.a2)) : k9a (p0, p1.a0, p1.a1, p1.a2, ()) (r0.a0, r0.a1, r0.a2, ()) := WPh.of_eq (by kernel_rfl) h
theorem bd123 : Callable Try.prog 123 := ⟨by rw [Try.func123]; kernel_rfl, by rw [Try.func123]; show some _ ≠ some _; decide⟩
theorem ko0 (p0 : Int) (p1 : TA3) (h : p0 = 18446744069414584321 ∧ S3 p1) : k9a (p0, p1.a0, p1.a1, p1.a2, ()) (((mixS p1).a0 : Int), ((mixS p1).a1 : Int), ((mixS p1).a2 : Int), ()) := by
  obtain ⟨hP, h0, h1, h2⟩ := h
  refine ks3 ?_
  simp only [hP]
  exact ⟨⟨by trivial, h0, h1⟩, ⟨by trivial, by omega, h2⟩, ⟨by trivial, h0, by omega⟩, ⟨by trivial, h1, by omega⟩, ⟨by trivial, h2, by omega⟩, rfl, rfl, rfl⟩
noncomputable def kfd : Con TB.den := kz.fnR (fun x => (fun (p0 : Int) (p1 : TA3) => p0 = 18446744069414584321 ∧ S3 p1) x.1 (TA3.mk x.2.1 x.2.2.1 x.2.2.2.1)) fun x => ((fun (p0 : Int) (p1 : TA3) => ((mixS p1).a0 : Int)) x.1 (TA3.mk x.2.1 x.2.2.1 x.2.2.2.1), (fun (p0 : Int) (p1 : TA3) => ((mixS p1).a1 : Int)) x.1 (TA3.mk x.2.1 x.2.2.1 x.2.2.2.1), (fun (p0 : Int) (p1 : TA3) => ((mixS p1).a2 : Int)) x.1 (TA3.mk x.2.1 x.2.2.1 x.2.2.2.1), ())
theorem ks2 : kfd.Ok Try.prog TB := Con.ok_fn kz bd123 fun x h => kr8 (ko0 x.1 (TA3.mk x.2.1 x.2.2.1 x.2.2.2.1) h)
end Go.Proofs.Ytpffhgljgpjenaa
