/-
  Parts of the proofs that the laws of this seat hold of every input, merged by a program: a machine over pure data that is sound for the model, what each function of the translation does in it, and plain lemmas. No conditions but those in each theorem.
-/
import Derived.Test.YtnmakgfmimagmaaA4
set_option linter.all false
namespace Go.Proofs.Ytnmakgfmimagmaa
open Go Go.Bv Go.Cv Go.Md Go.RowKit
def k2l : Con TB.den := Con.mk0 118 [.agg [.d (.int .u64)], .one (.d (.int .u64)), .one (.d (.int .u64))] [] (.one (.one (.d (.int .u64)))) []
abbrev k14u := HL TB.den (hsT k2l.ins (hsOs k2l.pre))
abbrev k5x := HL TB.den (hsV k2l.res (hsOs k2l.post))
noncomputable def k5v : Cx TB := ⟨inf, [ko6], [], 4⟩
noncomputable def k9m : Code := Try.f118.body.getD .skip
noncomputable def kgf : List ResultVar := Try.f118.results.toList
noncomputable def k1l7 (o : k5x) : Exit → TSt TB.den → Prop := thenT TB (fun s => ghs TB [] s fun s => WP TB k5v 26 0 (cB (cB (cB k9m))) .no s (retTQ TB k5v k2l kgf o)) (retTQ TB k5v k2l kgf o)
def k4t : Tm := ⟨[0], [.cells [.d (.int .u64)]], [1, 2, 3, 7], [.one (.d (.int .u64)), .one (.d (.int .u64)), .one (.ptr 0 0), .one (.d (.int .u64))], 1⟩
noncomputable def k11u (o : k5x) (nx1 : HL TB.den k4t.hs → Prop) : Exit → TSt TB.den → Prop := thenT TB (fun s => k4t.mat TB 0 s nx1) (blockT TB 0 (k1l7 o))
def kis : Tm := ⟨[0], [.cells [.d (.int .u64)]], [1, 2, 3, 7], [.one (.d (.int .u64)), .one (.d (.int .u64)), .one (.ptr 0 0), .one (.d (.int .u64))], 1⟩
noncomputable def kxz (o : k5x) (nx1 : HL TB.den k4t.hs → Prop) (i : HL TB.den kis.hs) : Prop := ghs TB [] (kis.fill TB i) fun s => WP TB k5v 26 0 (cB (cA (cB (cA (cA (cA (cB (cB k9m)))))))) .no s (blockT TB 1 (k11u o nx1))
structure kcb (o : k5x) (nx1 : HL TB.den k4t.hs → Prop) (i : HL TB.den kis.hs) : Prop where
  h : kxz o nx1 i
noncomputable def k11n (o : k5x) (nx1 : HL TB.den k4t.hs → Prop) : An TB := .nd [] .no [] (.jn kis (kcb o nx1) [] .no [] .no)
noncomputable def kg2 (o : k5x) (nx1 : HL TB.den k4t.hs → Prop) (i : HL TB.den k4t.hs) : Prop := WP TB k5v 26 0 (cA (cA (cA (cB (cB k9m))))) (k11n o nx1) (k4t.fill TB i) (k11u o nx1)
noncomputable def k1kz (o : k5x) : An TB := .lp [] k4t (kg2 o) fun nx1 => (k11n o nx1)
noncomputable def kzn (o : k5x) : An TB := .nd [] .no [] (.nd [] .no [] (.nd [] (k1kz o) [] .no))
noncomputable def km4 (x : k14u) (o : k5x) : Prop := WPh TB k5v 26 0 k9m (kzn o) (k2l.st TB x) (retTQ TB k5v k2l kgf o)
set_option maxRecDepth 100000 in
theorem k1g7 (o : k5x) : OblH TB k5v 26 0 k9m (kzn o) (retTQ TB k5v k2l kgf o) :=
  OblH.of_eq (X := (True ∧ (True ∧ (((∀ nx i, (kg2 o) nx i = (kg2 o) nx i) ∧ ∀ nx1 : HL TB.den k4t.hs → Prop, ((True ∧ (True ∧ True)) ∧ ((True ∧ (True ∧ True)) ∧ (∀ i, (kcb o nx1) i = (kxz o nx1) i) ∧ (True ∧ (True ∧ (True ∧ True)))))) ∧ (True ∧ True))))) (by kernel_rfl) ⟨trivial, ⟨trivial, ⟨⟨fun _ _ => rfl, fun _ => ⟨⟨trivial, ⟨trivial, trivial⟩⟩, ⟨⟨trivial, ⟨trivial, trivial⟩⟩, fun _ => propext ⟨fun h => h.1, fun h => ⟨h⟩⟩, ⟨trivial, ⟨trivial, ⟨trivial, trivial⟩⟩⟩⟩⟩⟩, ⟨trivial, trivial⟩⟩⟩⟩
set_option maxRecDepth 100000 in
theorem k1fc {x : k14u} {o : k5x} (h : km4 x o) : SoundH Try.prog k2l.f ((k2l.args idf x).map (er TB)) ((k2l.obs idf x).map (erO TB)) (er TB (k2l.val idf o)) ((k2l.ops idf o).map (erO TB)) :=
  Con.soundH (c := k2l) (C := k5v) TBok ⟨inf_ok, (all_cons k100 all_nil), all_nil⟩ mix Try.func118 (show Try.f118.body = some k9m by kernel_rfl) (show Try.f118.ntmps = 26 by kernel_rfl) (show Try.f118.results.toList = kgf by kernel_rfl) rfl h (k1g7 o)
set_option maxRecDepth 100000 in
theorem k1ks {p0 : TField} {p1 : Int} {p2 : Int} {r0 : Int} (h :
(Md.Loop (p1, p2, (1 : Int), p0.P, ()) (kg2 (r0, ())))) : km4 (p0.P, p1, p2, ()) (r0, ()) := WPh.of_eq (by kernel_rfl) h
set_option maxRecDepth 100000 in
theorem k17w {r0 : Int} {nx1 : HL TB.den k4t.hs → Prop} {s1 : Int} {s2 : Int} {s7 : Int} {h0_0 : Int} (h :
((decide (0 < (ishr .u64 s2 1)) = true →
((TField.mk h0_0).P = 18446744069414584321 ∧ (0 ≤ s1 ∧ s1 < 18446744069414584321) ∧ (0 ≤ s1 ∧ s1 < 18446744069414584321)) ∧ nx1 ((s1 * s1 % 18446744069414584321 : Int), (ishr .u64 s2 1 : Int), s7, h0_0, ())) ∧
(decide (0 < (ishr .u64 s2 1)) = false →
 nx1 (s1, (ishr .u64 s2 1 : Int), s7, h0_0, ())))) : kcb (r0, ()) nx1 (s1, s2, s7, h0_0, ()) := ⟨mpr_of (by kernel_rfl) h⟩
def kzs (r0 : Int) (nx1 : HL TB.den k4t.hs → Prop) (k1 : Int → Int → Int → Prop) (h0_0 : Int) (s1 : Int) (s2 : Int) (s7 : Int) : Prop :=
(decide (0 < s2) = true →
(((iand .u64 s2 1) == 1) = true →
((TField.mk h0_0).P = 18446744069414584321 ∧ (0 ≤ s7 ∧ s7 < 18446744069414584321) ∧ (0 ≤ s1 ∧ s1 < 18446744069414584321)) ∧ kcb (r0, ()) nx1 (s1, s2, (s7 * s1 % 18446744069414584321 : Int), h0_0, ())) ∧
(((iand .u64 s2 1) == 1) = false →
 kcb (r0, ()) nx1 (s1, s2, s7, h0_0, ()))) ∧
(decide (0 < s2) = false →
 s7 = r0)
set_option maxRecDepth 100000 in
theorem k1hm {r0 : Int} {h0_0 : Int} {s1 : Int} {s2 : Int} {s7 : Int} (inv : Int → Int → Int → Prop) (μ : Int → Int → Int → Nat) (h0 : inv s1 s2 s7) (hs : ∀ (s1 : Int) (s2 : Int) (s7 : Int), inv s1 s2 s7 → kzs r0 (fun s : Int × Int × Int × Int × Unit => ((s.2.2.2.1 = h0_0) ∧ inv s.1 s.2.1 s.2.2.1) ∧ μ s.1 s.2.1 s.2.2.1 < μ s1 s2 s7) (fun s1q s2q s7q => inv s1q s2q s7q ∧ μ s1q s2q s7q < μ s1 s2 s7) h0_0 s1 s2 s7) : Md.Loop (s1, s2, s7, h0_0, ()) (kg2 (r0, ())) :=
  ⟨⟨fun s : Int × Int × Int × Int × Unit => (s.2.2.2.1 = h0_0) ∧ inv s.1 s.2.1 s.2.2.1, fun s : Int × Int × Int × Int × Unit => μ s.1 s.2.1 s.2.2.1, ⟨rfl, h0⟩, fun (s1p, s2p, s7p, h0_0p, ()) ⟨eq0, hi⟩ => by
    have eq0 : h0_0p = h0_0 := eq0; subst h0_0p; exact mpr_of (by kernel_rfl) ((congrArg (fun k => kzs r0 (fun s : Int × Int × Int × Int × Unit => ((s.2.2.2.1 = h0_0) ∧ inv s.1 s.2.1 s.2.2.1) ∧ μ s.1 s.2.1 s.2.2.1 < μ s1p s2p s7p) k h0_0 s1p s2p s7p) (lpk3 (rfl : h0_0 = h0_0) inv (fun s1q s2q s7q => μ s1q s2q s7q < μ s1p s2p s7p))).mpr (hs s1p s2p s7p hi))⟩⟩
theorem bd118 : Callable Try.prog 118 := ⟨by rw [Try.func118]; kernel_rfl, by rw [Try.func118]; show some _ ≠ some _; decide⟩
theorem k1bv (p0 : TField) (p1 : Int) (p2 : Int) (h : p0.P = 18446744069414584321 ∧ (0 ≤ p1 ∧ p1 < 18446744069414584321) ∧ U64 p2) : km4 (p0.P, p1, p2, ()) ((pw p1 p2 : Int), ()) := by
  obtain ⟨hP, h1, h2⟩ := h
  refine k1ks ?_
  rw [hP]
  refine k1hm (fun a e r => (0 ≤ a ∧ a < 18446744069414584321) ∧ U64 e ∧ (0 ≤ r ∧ r < 18446744069414584321) ∧ (r * a ^ e.toNat) % 18446744069414584321 = pw p1 p2) (fun a e r => e.toNat) ⟨h1, h2, by omega, by rw [Int.one_mul]; rfl⟩ ?_
  rintro a e r ⟨ha, he, hr, hv⟩
  have jj : ∀ nx r', (0 ≤ r' ∧ r' < 18446744069414584321) → 0 < e → (r' * (a * a) ^ (e / 2).toNat) % 18446744069414584321 = pw p1 p2 → (∀ a', (0 ≤ a' ∧ a' < 18446744069414584321) → r' * a' ^ (e / 2).toNat % 18446744069414584321 = pw p1 p2 → nx (a', (e / 2 : Int), r', (18446744069414584321 : Int), ())) → kcb ((pw p1 p2 : Int), ()) nx (a, e, r', (18446744069414584321 : Int), ()) := by
    intro nx r' hr' he' hv' hn
    refine k17w ?_
    rw [ishr1]
    refine ⟨fun h => ⟨⟨rfl, ha, ha⟩, ?_⟩, fun h => ?_⟩
    · refine hn _ ⟨Int.emod_nonneg _ (by omega), Int.emod_lt_of_pos _ (by omega)⟩ ?_
      rw [← hv', Int.mul_emod, Int.mul_emod r' ((a * a) ^ _), k1lm]
    · have h : ¬ 0 < e / 2 := of_decide_eq_false h
      refine hn _ ha ?_
      rw [show (e / 2).toNat = 0 by omega] at hv' ⊢
      simpa using hv'
  refine ⟨fun h => ?_, fun h => ?_⟩
  · have h := of_decide_eq_true h
    rw [k1p5 e he]
    have nxt : ∀ a' r', (0 ≤ a' ∧ a' < 18446744069414584321) → (0 ≤ r' ∧ r' < 18446744069414584321) → r' * a' ^ (e / 2).toNat % 18446744069414584321 = pw p1 p2 → ((0 ≤ a' ∧ a' < 18446744069414584321) ∧ U64 (e / 2) ∧ (0 ≤ r' ∧ r' < 18446744069414584321) ∧ r' * a' ^ (e / 2).toNat % 18446744069414584321 = pw p1 p2) ∧ (e / 2).toNat < e.toNat := fun a' r' h1 h2 h3 => ⟨⟨h1, ⟨by omega, by omega⟩, h2, h3⟩, by omega⟩
    have hpow : ∀ k : Nat, a ^ (2 * k) = (a * a) ^ k := fun k => by rw [Int.pow_mul]; congr 1; rw [Int.pow_succ, Int.pow_succ, Int.pow_zero, Int.one_mul]
    refine ⟨fun h1 => ⟨⟨rfl, hr, ha⟩, ?_⟩, fun h1 => ?_⟩
    · have h1 : e % 2 = 1 := by simpa using h1
      refine jj _ _ ⟨Int.emod_nonneg _ (by omega), Int.emod_lt_of_pos _ (by omega)⟩ h ?_ fun a' ha' hv' => ⟨⟨rfl, (nxt a' _ ha' ⟨Int.emod_nonneg _ (by omega), Int.emod_lt_of_pos _ (by omega)⟩ hv').1⟩, (nxt a' _ ha' ⟨Int.emod_nonneg _ (by omega), Int.emod_lt_of_pos _ (by omega)⟩ hv').2⟩
      rw [← hv, show e.toNat = 2 * (e / 2).toNat + 1 by omega, Int.pow_succ, hpow, Int.mul_emod, Int.emod_emod_of_dvd _ (Int.dvd_refl _), ← Int.mul_emod]
      congr 1
      grind
    · have h1 : ¬ e % 2 = 1 := by simpa using h1
      refine jj _ _ hr h ?_ fun a' ha' hv' => ⟨⟨rfl, (nxt a' _ ha' hr hv').1⟩, (nxt a' _ ha' hr hv').2⟩
      rw [← hv, ← hpow, show e.toNat = 2 * (e / 2).toNat by omega]
  · have h : ¬ 0 < e := of_decide_eq_false h
    rw [show e.toNat = 0 by omega, Int.pow_zero, Int.mul_one, Int.emod_eq_of_lt hr.1 hr.2] at hv
    exact hv
noncomputable def kxi : Con TB.den := k2l.fnR (fun x => (fun (p0 : TField) (p1 : Int) (p2 : Int) => p0.P = 18446744069414584321 ∧ (0 ≤ p1 ∧ p1 < 18446744069414584321) ∧ U64 p2) (TField.mk x.1) x.2.1 x.2.2.1) fun x => ((fun (p0 : TField) (p1 : Int) (p2 : Int) => (pw p1 p2 : Int)) (TField.mk x.1) x.2.1 x.2.2.1, ())
theorem k1k7 : kxi.Ok Try.prog TB := Con.ok_fn k2l bd118 fun x h => k1fc (k1bv (TField.mk x.1) x.2.1 x.2.2.1 h)
end Go.Proofs.Ytnmakgfmimagmaa
namespace Go.Proofs.Ytnmakgfmimagmaa
open Go Go.Bv Go.Cv Go.Md Go.RowKit
def k3i : Con TB.den := Con.mk0 111 [.agg [.d (.int .u64)], .one (.d (.int .u64)), .one (.d (.int .u64))] [] (.one (.one (.d (.int .u64)))) []
abbrev k13r := HL TB.den (hsT k3i.ins (hsOs k3i.pre))
abbrev kn5 := HL TB.den (hsV k3i.res (hsOs k3i.post))
noncomputable def kg7 : Cx TB := ⟨inf, [k73, k95, kxi], [], 4⟩
noncomputable def km6 : Code := Try.f111.body.getD .skip
noncomputable def kpl : List ResultVar := Try.f111.results.toList
noncomputable def kzp (o : kn5) : An TB := .no
noncomputable def km1 (x : k13r) (o : kn5) : Prop := WPh TB kg7 16 0 km6 (kzp o) (k3i.st TB x) (retTQ TB kg7 k3i kpl o)
set_option maxRecDepth 100000 in
theorem k1f7 (o : kn5) : OblH TB kg7 16 0 km6 (kzp o) (retTQ TB kg7 k3i kpl o) :=
  OblH.of_eq (X := (True ∧ ((True ∧ ((True ∧ True) ∧ True)) ∧ (True ∧ True)))) (by kernel_rfl) ⟨trivial, ⟨⟨trivial, ⟨⟨trivial, trivial⟩, trivial⟩⟩, ⟨trivial, trivial⟩⟩⟩
set_option maxRecDepth 100000 in
theorem k1g1 {x : k13r} {o : kn5} (h : km1 x o) : SoundH Try.prog k3i.f ((k3i.args idf x).map (er TB)) ((k3i.obs idf x).map (erO TB)) (er TB (k3i.val idf o)) ((k3i.ops idf o).map (erO TB)) :=
  Con.soundH (c := k3i) (C := kg7) TBok ⟨inf_ok, (all_cons k9k (all_cons kdm (all_cons k1k7 all_nil))), all_nil⟩ mix Try.func111 (show Try.f111.body = some km6 by kernel_rfl) (show Try.f111.ntmps = 16 by kernel_rfl) (show Try.f111.results.toList = kpl by kernel_rfl) rfl h (k1f7 o)
set_option maxRecDepth 100000 in
theorem k1ld {p0 : TField} {p1 : Int} {p2 : Int} {r0 : Int} (h :
((p0.P = 18446744069414584321) ∧ ((!true) = true →
 0 = r0) ∧
((!true) = false →
(0 < p0.P ∧ 0 ≤ p1) ∧ (p0.P = 18446744069414584321 ∧ (0 ≤ (p1 % p0.P) ∧ (p1 % p0.P) < 18446744069414584321) ∧ U64 p2) ∧ pw (p1 % p0.P) p2 = r0))) : km1 (p0.P, p1, p2, ()) (r0, ()) := WPh.of_eq (by kernel_rfl) h
theorem bd111 : Callable Try.prog 111 := ⟨by rw [Try.func111]; kernel_rfl, by rw [Try.func111]; show some _ ≠ some _; decide⟩
theorem k1d9 (p0 : TField) (p1 : Int) (p2 : Int) (h : p0.P = 18446744069414584321 ∧ U64 p1 ∧ U64 p2) : km1 (p0.P, p1, p2, ()) ((pw (p1 % 18446744069414584321) p2 : Int), ()) := by
  obtain ⟨hP, h1, h2⟩ := h
  refine k1ld ⟨hP, fun h => by simp at h, fun _ => ⟨by omega, ?_⟩⟩
  simp only [hP]
  exact ⟨⟨by trivial, by omega, h2⟩, trivial⟩
noncomputable def ky4 : Con TB.den := k3i.fnR (fun x => (fun (p0 : TField) (p1 : Int) (p2 : Int) => p0.P = 18446744069414584321 ∧ U64 p1 ∧ U64 p2) (TField.mk x.1) x.2.1 x.2.2.1) fun x => ((fun (p0 : TField) (p1 : Int) (p2 : Int) => (pw (p1 % 18446744069414584321) p2 : Int)) (TField.mk x.1) x.2.1 x.2.2.1, ())
theorem k1m2 : ky4.Ok Try.prog TB := Con.ok_fn k3i bd111 fun x h => k1g1 (k1d9 (TField.mk x.1) x.2.1 x.2.2.1 h)
end Go.Proofs.Ytnmakgfmimagmaa
namespace Go.Proofs.Ytnmakgfmimagmaa
open Go Go.Bv Go.Cv Go.Md Go.RowKit
def k21 : Con TB.den := Con.mk0 119 [.agg [.d (.int .u64)], .one (.d (.int .u64))] [] (.one (.one (.d (.int .u64)))) []
abbrev kvb := HL TB.den (hsT k21.ins (hsOs k21.pre))
abbrev kh0 := HL TB.den (hsV k21.res (hsOs k21.post))
noncomputable def kbh : Cx TB := ⟨inf, [k73, k95], [], 4⟩
noncomputable def khl : Code := Try.f119.body.getD .skip
noncomputable def kk5 : List ResultVar := Try.f119.results.toList
noncomputable def krj (o : kh0) : An TB := .no
noncomputable def khj (x : kvb) (o : kh0) : Prop := WPh TB kbh 11 0 khl (krj o) (k21.st TB x) (retTQ TB kbh k21 kk5 o)
set_option maxRecDepth 100000 in
theorem k15m (o : kh0) : OblH TB kbh 11 0 khl (krj o) (retTQ TB kbh k21 kk5 o) :=
  OblH.of_eq (X := (True ∧ ((True ∧ ((True ∧ True) ∧ True)) ∧ (True ∧ True)))) (by kernel_rfl) ⟨trivial, ⟨⟨trivial, ⟨⟨trivial, trivial⟩, trivial⟩⟩, ⟨trivial, trivial⟩⟩⟩
set_option maxRecDepth 100000 in
theorem k151 {x : kvb} {o : kh0} (h : khj x o) : SoundH Try.prog k21.f ((k21.args idf x).map (er TB)) ((k21.obs idf x).map (erO TB)) (er TB (k21.val idf o)) ((k21.ops idf o).map (erO TB)) :=
  Con.soundH (c := k21) (C := kbh) TBok ⟨inf_ok, (all_cons k9k (all_cons kdm all_nil)), all_nil⟩ mix Try.func119 (show Try.f119.body = some khl by kernel_rfl) (show Try.f119.ntmps = 11 by kernel_rfl) (show Try.f119.results.toList = kk5 by kernel_rfl) rfl h (k15m o)
set_option maxRecDepth 100000 in
theorem k1a5 {p0 : TField} {p1 : Int} {r0 : Int} (h :
((p0.P = 18446744069414584321) ∧ ((!true) = true →
 0 = r0) ∧
((!true) = false →
(0 < p0.P ∧ 0 ≤ p1) ∧ p1 % p0.P = r0))) : khj (p0.P, p1, ()) (r0, ()) := WPh.of_eq (by kernel_rfl) h
theorem bd119 : Callable Try.prog 119 := ⟨by rw [Try.func119]; kernel_rfl, by rw [Try.func119]; show some _ ≠ some _; decide⟩
theorem k12w (p0 : TField) (p1 : Int) (h : p0.P = 18446744069414584321 ∧ U64 p1) : khj (p0.P, p1, ()) ((p1 % 18446744069414584321 : Int), ()) := by
  obtain ⟨hP, h1⟩ := h
  refine k1a5 ⟨hP, fun h => by simp at h, fun _ => ⟨by omega, ?_⟩⟩
  simp only [hP]
noncomputable def kq2 : Con TB.den := k21.fnR (fun x => (fun (p0 : TField) (p1 : Int) => p0.P = 18446744069414584321 ∧ U64 p1) (TField.mk x.1) x.2.1) fun x => ((fun (p0 : TField) (p1 : Int) => (p1 % 18446744069414584321 : Int)) (TField.mk x.1) x.2.1, ())
theorem k18l : kq2.Ok Try.prog TB := Con.ok_fn k21 bd119 fun x h => k151 (k12w (TField.mk x.1) x.2.1 h)
end Go.Proofs.Ytnmakgfmimagmaa
namespace Go.Proofs.Ytnmakgfmimagmaa
open Go Go.Bv Go.Cv Go.Md Go.RowKit
def kd : Con TB.den := Con.mk0 112 [.one (.d (.int .u64)), .one (.d (.int .i64)), .one (.d (.int .i64))] [] (.one (.one (.d (.int .u64)))) []
abbrev kif := HL TB.den (hsT kd.ins (hsOs kd.pre))
abbrev k80 := HL TB.den (hsV kd.res (hsOs kd.post))
noncomputable def k5k : Cx TB := ⟨inf, [kq2], [], 4⟩
noncomputable def k99 : Code := Try.f112.body.getD .skip
noncomputable def kas : List ResultVar := Try.f112.results.toList
noncomputable def khf (o : k80) : An TB := .no
noncomputable def k98 (x : kif) (o : k80) : Prop := WPh TB k5k 31 0 k99 (khf o) (kd.st TB x) (retTQ TB k5k kd kas o)
set_option maxRecDepth 100000 in
theorem kqd (o : k80) : OblH TB k5k 31 0 k99 (khf o) (retTQ TB k5k kd kas o) :=
  OblH.of_eq (X := (True ∧ ((True ∧ ((True ∧ True) ∧ True)) ∧ (True ∧ True)))) (by kernel_rfl) ⟨trivial, ⟨⟨trivial, ⟨⟨trivial, trivial⟩, trivial⟩⟩, ⟨trivial, trivial⟩⟩⟩
set_option maxRecDepth 100000 in
theorem kpf {x : kif} {o : k80} (h : k98 x o) : SoundH Try.prog kd.f ((kd.args idf x).map (er TB)) ((kd.obs idf x).map (erO TB)) (er TB (kd.val idf o)) ((kd.ops idf o).map (erO TB)) :=
  Con.soundH (c := kd) (C := k5k) TBok ⟨inf_ok, (all_cons k18l all_nil), all_nil⟩ mix Try.func112 (show Try.f112.body = some k99 by kernel_rfl) (show Try.f112.ntmps = 31 by kernel_rfl) (show Try.f112.results.toList = kas by kernel_rfl) rfl h (kqd o)
set_option maxRecDepth 100000 in
theorem kr5 {p0 : Int} {p1 : Int} {p2 : Int} {r0 : Int} (h :
((decide (p1 < 0) = true →
 0 = r0) ∧
(decide (p1 < 0) = false →
(decide (8 ≤ p1) = true →
 0 = r0) ∧
(decide (8 ≤ p1) = false →
(decide (p2 < 0) = true →
 0 = r0) ∧
(decide (p2 < 0) = false →
(decide (2 < p2) = true →
 0 = r0) ∧
(decide (2 < p2) = false →
 let v1 : Int := IntKind.i64.wrap ((IntKind.i64.wrap (3 * p1)) + p2)
 let v2 : Int := IntKind.u64.wrap (IntKind.i64.wrap (v1 + 1))
 let v3 : Int := IntKind.u64.wrap (v2 * 11400714819323198485)
((TField.mk p0).P = 18446744069414584321 ∧ U64 v3) ∧ v3 % 18446744069414584321 = r0)))))) : k98 (p0, p1, p2, ()) (r0, ()) := WPh.of_eq (by kernel_rfl) h
theorem bd112 : Callable Try.prog 112 := ⟨by rw [Try.func112]; kernel_rfl, by rw [Try.func112]; show some _ ≠ some _; decide⟩
theorem kp9 (p0 : Int) (p1 : Int) (p2 : Int) (h : p0 = 18446744069414584321 ∧ (0 ≤ p1 ∧ p1 < 8) ∧ 0 ≤ p2 ∧ p2 < 3) : k98 (p0, p1, p2, ()) ((rc p1 p2 : Int), ()) := by
  obtain ⟨hP, h1, h2⟩ := h
  refine kr5 ⟨fun h => ?_, fun _ => ⟨fun h => ?_, fun _ => ⟨fun h => ?_, fun _ => ⟨fun h => ?_, fun _ => ?_⟩⟩⟩⟩
  · simp at h; omega
  · simp at h; omega
  · simp at h; omega
  · simp at h; omega
  · simp only []
    rw [wi (3 * p1) (by omega) (by omega), wi (3 * p1 + p2) (by omega) (by omega), wi (3 * p1 + p2 + 1) (by omega) (by omega), wu (3 * p1 + p2 + 1) (by omega) (by omega), u64w]
    exact ⟨⟨hP, by omega, by omega⟩, rfl⟩
noncomputable def kfc : Con TB.den := kd.fnR (fun x => (fun (p0 : Int) (p1 : Int) (p2 : Int) => p0 = 18446744069414584321 ∧ (0 ≤ p1 ∧ p1 < 8) ∧ 0 ≤ p2 ∧ p2 < 3) x.1 x.2.1 x.2.2.1) fun x => ((fun (p0 : Int) (p1 : Int) (p2 : Int) => (rc p1 p2 : Int)) x.1 x.2.1 x.2.2.1, ())
theorem kre : kfc.Ok Try.prog TB := Con.ok_fn kd bd112 fun x h => kpf (kp9 x.1 x.2.1 x.2.2.1 h)
end Go.Proofs.Ytnmakgfmimagmaa
namespace Go.Proofs.Ytnmakgfmimagmaa
open Go Go.Bv Go.Cv Go.Md Go.RowKit
def k12 : Con TB.den := Con.mk0 113 [.one (.d (.int .u64)), .agg [.d (.int .u64), .d (.int .u64), .d (.int .u64)]] [] (.one (.agg [.d (.int .u64), .d (.int .u64), .d (.int .u64)])) []
abbrev kp4 := HL TB.den (hsT k12.ins (hsOs k12.pre))
abbrev kc5 := HL TB.den (hsV k12.res (hsOs k12.post))
noncomputable def k84 : Cx TB := ⟨inf, [kiw], [], 4⟩
noncomputable def kdl : Code := Try.f113.body.getD .skip
noncomputable def kgk : List ResultVar := Try.f113.results.toList
noncomputable def knu (o : kc5) : An TB := .no
noncomputable def kdx (x : kp4) (o : kc5) : Prop := WPh TB k84 35 0 kdl (knu o) (k12.st TB x) (retTQ TB k84 k12 kgk o)
set_option maxRecDepth 100000 in
theorem kyq (o : kc5) : OblH TB k84 35 0 kdl (knu o) (retTQ TB k84 k12 kgk o) :=
  OblH.of_eq (X := (True ∧ (True ∧ (True ∧ (True ∧ True))))) (by kernel_rfl) ⟨trivial, ⟨trivial, ⟨trivial, ⟨trivial, trivial⟩⟩⟩⟩
set_option maxRecDepth 100000 in
theorem kz8 {x : kp4} {o : kc5} (h : kdx x o) : SoundH Try.prog k12.f ((k12.args idf x).map (er TB)) ((k12.obs idf x).map (erO TB)) (er TB (k12.val idf o)) ((k12.ops idf o).map (erO TB)) :=
  Con.soundH (c := k12) (C := k84) TBok ⟨inf_ok, (all_cons kq3 all_nil), all_nil⟩ mix Try.func113 (show Try.f113.body = some kdl by kernel_rfl) (show Try.f113.ntmps = 35 by kernel_rfl) (show Try.f113.results.toList = kgk by kernel_rfl) rfl h (kyq o)
set_option maxRecDepth 100000 in
theorem k10c {p0 : Int} {p1 : TA3} {r0 : TA3} (h :
(((TField.mk p0).P = 18446744069414584321 ∧ U64 p1.a0 ∧ U64 p1.a1) ∧ ((TField.mk p0).P = 18446744069414584321 ∧ U64 ((p1.a0 + p1.a1) % 18446744069414584321) ∧ U64 p1.a2) ∧ let r1 : Int := (((p1.a0 + p1.a1) % 18446744069414584321) + p1.a2) % 18446744069414584321
((TField.mk p0).P = 18446744069414584321 ∧ U64 p1.a0 ∧ U64 r1) ∧ ((TField.mk p0).P = 18446744069414584321 ∧ U64 p1.a1 ∧ U64 r1) ∧ ((TField.mk p0).P = 18446744069414584321 ∧ U64 p1.a2 ∧ U64 r1) ∧ (p1.a0 + r1) % 18446744069414584321 = r0.a0 ∧ (p1.a1 + r1) % 18446744069414584321 = r0.a1 ∧ (p1.a2 + r1) % 18446744069414584321 = r0.a2)) : kdx (p0, p1.a0, p1.a1, p1.a2, ()) (r0.a0, r0.a1, r0.a2, ()) := WPh.of_eq (by kernel_rfl) h
theorem bd113 : Callable Try.prog 113 := ⟨by rw [Try.func113]; kernel_rfl, by rw [Try.func113]; show some _ ≠ some _; decide⟩
theorem kw6 (p0 : Int) (p1 : TA3) (h : p0 = 18446744069414584321 ∧ S3 p1) : kdx (p0, p1.a0, p1.a1, p1.a2, ()) (((mixS p1).a0 : Int), ((mixS p1).a1 : Int), ((mixS p1).a2 : Int), ()) := by
  obtain ⟨hP, h0, h1, h2⟩ := h
  refine k10c ?_
  simp only [hP]
  exact ⟨⟨by trivial, h0, h1⟩, ⟨by trivial, by omega, h2⟩, ⟨by trivial, h0, by omega⟩, ⟨by trivial, h1, by omega⟩, ⟨by trivial, h2, by omega⟩, rfl, rfl, rfl⟩
noncomputable def kld : Con TB.den := k12.fnR (fun x => (fun (p0 : Int) (p1 : TA3) => p0 = 18446744069414584321 ∧ S3 p1) x.1 (TA3.mk x.2.1 x.2.2.1 x.2.2.2.1)) fun x => ((fun (p0 : Int) (p1 : TA3) => ((mixS p1).a0 : Int)) x.1 (TA3.mk x.2.1 x.2.2.1 x.2.2.2.1), (fun (p0 : Int) (p1 : TA3) => ((mixS p1).a1 : Int)) x.1 (TA3.mk x.2.1 x.2.2.1 x.2.2.2.1), (fun (p0 : Int) (p1 : TA3) => ((mixS p1).a2 : Int)) x.1 (TA3.mk x.2.1 x.2.2.1 x.2.2.2.1), ())
theorem kzu : kld.Ok Try.prog TB := Con.ok_fn k12 bd113 fun x h => kz8 (kw6 x.1 (TA3.mk x.2.1 x.2.2.1 x.2.2.2.1) h)
end Go.Proofs.Ytnmakgfmimagmaa
namespace Go.Proofs.Ytnmakgfmimagmaa
open Go Go.Bv Go.Cv Go.Md Go.RowKit
def kc : Con TB.den := Con.mk0 100 [.one (.d (.int .u64)), .agg [.d (.int .u64), .d (.int .u64), .d (.int .u64)]] [] (.one (.agg [.d (.int .u64), .d (.int .u64), .d (.int .u64)])) []
abbrev kjs := HL TB.den (hsT kc.ins (hsOs kc.pre))
abbrev kg := HL TB.den (hsV kc.res (hsOs kc.post))
noncomputable def k16 : Cx TB := ⟨inf, [k73, knn, kfc, kiw, ky4, kld], [], 4⟩
noncomputable def k2s : Code := Try.f100.body.getD .skip
noncomputable def k5y : List ResultVar := Try.f100.results.toList
noncomputable def kt6 (o : kg) : Exit → TSt TB.den → Prop := thenT TB (fun s => ghs TB [] s fun s => WP TB k16 43 0 (cB (cB (cB (cB (cB k2s))))) .no s (retTQ TB k16 kc k5y o)) (retTQ TB k16 kc k5y o)
def kb : Tm := ⟨[0, 1, 2], [.cells [.d (.int .u64), .d (.int .u64), .d (.int .u64)], .cells [.d (.int .u64), .d (.int .u64), .d (.int .u64)], .cells [.d (.int .u64)]], [0, 3, 4, 5, 6, 17], [.one (.d (.int .u64)), .one (.ptr 0 0), .one (.ptr 1 0), .one (.ptr 2 0), .one (.d (.int .u64)), .one (.d (.int .i64))], 3⟩
noncomputable def kbu (o : kg) (nx2 : HL TB.den kb.hs → Prop) : Exit → TSt TB.den → Prop := thenT TB (fun s => kb.mat TB 0 s nx2) (blockT TB 0 (kt6 o))
noncomputable def ki9 (o : kg) (nx2 : HL TB.den kb.hs → Prop) : Exit → TSt TB.den → Prop := thenT TB (fun s => ghs TB [] s fun s => WP TB k16 43 0 (cB (cB (cB (cA (cA (cB (cA (cB (cB (cB (cB k2s))))))))))) .no s (kbu o nx2)) (kbu o nx2)
noncomputable def kt1 (o : kg) (nx2 : HL TB.den kb.hs → Prop) : Exit → TSt TB.den → Prop := thenT TB (fun s => ghs TB [] s fun s => WP TB k16 43 0 (cB (cB (cA (cA (cB (cB (cA (cA (cB (cA (cB (cB (cB (cB k2s)))))))))))))) .no s (blockT TB 1 (ki9 o nx2))) (blockT TB 1 (ki9 o nx2))
def k48 : Tm := ⟨[0, 1, 2], [.cells [.d (.int .u64), .d (.int .u64), .d (.int .u64)], .cells [.d (.int .u64), .d (.int .u64), .d (.int .u64)], .cells [.d (.int .u64)]], [0, 3, 4, 5, 6, 7, 17, 20], [.one (.d (.int .u64)), .one (.ptr 0 0), .one (.ptr 1 0), .one (.ptr 2 0), .one (.d (.int .u64)), .one (.d (.int .i64)), .one (.d (.int .i64)), .one (.d (.int .i64))], 3⟩
noncomputable def kt2 (o : kg) (nx2 : HL TB.den kb.hs → Prop) (nx1 : HL TB.den k48.hs → Prop) : Exit → TSt TB.den → Prop := thenT TB (fun s => k48.mat TB 0 s nx1) (blockT TB 2 (kt1 o nx2))
noncomputable def k5w (o : kg) (nx2 : HL TB.den kb.hs → Prop) (nx1 : HL TB.den k48.hs → Prop) (i : HL TB.den k48.hs) : Prop := WP TB k16 43 0 (cA (cA (cB (cA (cB (cA (cA (cB (cB (cA (cA (cB (cA (cB (cB (cB (cB k2s))))))))))))))))) .no (k48.fill TB i) (kt2 o nx2 nx1)
noncomputable def kte (o : kg) (nx2 : HL TB.den kb.hs → Prop) : An TB := .lp [] k48 (k5w o nx2) fun nx1 => .no
noncomputable def kt7 (o : kg) (nx2 : HL TB.den kb.hs → Prop) : An TB := .nd [] .no [] (.nd [] (.nd [] .no [] (kte o nx2)) [] .no)
noncomputable def khe (o : kg) (nx2 : HL TB.den kb.hs → Prop) : An TB := .nd [] .no [] (.nd [] .no [] (.nd [] (kt7 o nx2) [] .no))
noncomputable def k5q (o : kg) (nx2 : HL TB.den kb.hs → Prop) (i : HL TB.den kb.hs) : Prop := WP TB k16 43 0 (cA (cA (cB (cA (cB (cB (cB (cB k2s)))))))) (khe o nx2) (kb.fill TB i) (kbu o nx2)
noncomputable def kra (o : kg) : An TB := .lp [] kb (k5q o) fun nx2 => (khe o nx2)
noncomputable def kr4 (o : kg) : An TB := .nd [] .no [] (.nd [] (.nd [] .no [] (kra o)) [] .no)
noncomputable def kid (o : kg) : An TB := .nd [] .no [] (.nd [] .no [] (.nd [] .no [] (kr4 o)))
noncomputable def k9v (x : kjs) (o : kg) : Prop := WPh TB k16 43 0 k2s (kid o) (kc.st TB x) (retTQ TB k16 kc k5y o)
set_option maxRecDepth 100000 in
theorem krd (o : kg) : OblH TB k16 43 0 k2s (kid o) (retTQ TB k16 kc k5y o) :=
  OblH.of_eq (X := (True ∧ (True ∧ ((True ∧ ((True ∧ True) ∧ True)) ∧ (True ∧ ((True ∧ ((∀ nx i, (k5q o) nx i = (k5q o) nx i) ∧ ∀ nx2 : HL TB.den kb.hs → Prop, (True ∧ ((True ∧ True) ∧ ((True ∧ ((True ∧ ((∀ nx i, (k5w o nx2) nx i = (k5w o nx2) nx i) ∧ ∀ nx1 : HL TB.den k48.hs → Prop, (True ∧ ((True ∧ True) ∧ ((True ∧ True) ∧ True))))) ∧ True)) ∧ True))))) ∧ (True ∧ True))))))) (by kernel_rfl) ⟨trivial, ⟨trivial, ⟨⟨trivial, ⟨⟨trivial, trivial⟩, trivial⟩⟩, ⟨trivial, ⟨⟨trivial, ⟨fun _ _ => rfl, fun _ => ⟨trivial, ⟨⟨trivial, trivial⟩, ⟨⟨trivial, ⟨⟨trivial, ⟨fun _ _ => rfl, fun _ => ⟨trivial, ⟨⟨trivial, trivial⟩, ⟨⟨trivial, trivial⟩, trivial⟩⟩⟩⟩⟩, trivial⟩⟩, trivial⟩⟩⟩⟩⟩, ⟨trivial, trivial⟩⟩⟩⟩⟩⟩
set_option maxRecDepth 100000 in
theorem kr9 {x : kjs} {o : kg} (h : k9v x o) : SoundH Try.prog kc.f ((kc.args idf x).map (er TB)) ((kc.obs idf x).map (erO TB)) (er TB (kc.val idf o)) ((kc.ops idf o).map (erO TB)) :=
  Con.soundH (c := kc) (C := k16) TBok ⟨inf_ok, (all_cons k9k (all_cons k13b (all_cons kre (all_cons kq3 (all_cons k1m2 (all_cons kzu all_nil)))))), all_nil⟩ mix Try.func100 (show Try.f100.body = some k2s by kernel_rfl) (show Try.f100.ntmps = 43 by kernel_rfl) (show Try.f100.results.toList = k5y by kernel_rfl) rfl h (krd o)
set_option maxRecDepth 100000 in
theorem ksx {p0 : Int} {p1 : TA3} {r0 : TA3} (h :
(((TField.mk p0).P = 18446744069414584321) ∧ ((!true) = true →
 0 = r0.a0 ∧ 0 = r0.a1 ∧ 0 = r0.a2) ∧
((!true) = false →
((TField.mk p0).P = 18446744069414584321) ∧ Md.Loop (p0, (7 : Int), (0 : Int), p1.a0, p1.a1, p1.a2, (0 : Int), (0 : Int), (0 : Int), p0, ()) (k5q (r0.a0, r0.a1, r0.a2, ()))))) : k9v (p0, p1.a0, p1.a1, p1.a2, ()) (r0.a0, r0.a1, r0.a2, ()) := WPh.of_eq (by kernel_rfl) h
def ki1 (r0 : TA3) (nx2 : HL TB.den kb.hs → Prop) (k2 : Int → Int → Int → Int → Prop) (s0 : Int) (s6 : Int) (h1_0 : Int) (h1_1 : Int) (h1_2 : Int) (h2_0 : Int) (s17 : Int) (h0_0 : Int) (h0_1 : Int) (h0_2 : Int) : Prop :=
(decide (s17 < 8) = true →
 Md.Loop (s0, s6, s17, s17, (0 : Int), h0_0, h0_1, h0_2, h1_0, h1_1, h1_2, h2_0, ()) (k5w (r0.a0, r0.a1, r0.a2, ()) nx2)) ∧
(decide (s17 < 8) = false →
 h0_0 = r0.a0 ∧ h0_1 = r0.a1 ∧ h0_2 = r0.a2)
set_option maxRecDepth 100000 in
theorem kr6 {r0 : TA3} {s0 : Int} {s6 : Int} {h1_0 : Int} {h1_1 : Int} {h1_2 : Int} {h2_0 : Int} {s17 : Int} {h0_0 : Int} {h0_1 : Int} {h0_2 : Int} (inv : Int → Int → Int → Int → Prop) (μ : Int → Int → Int → Int → Nat) (h0 : inv s17 h0_0 h0_1 h0_2) (hs : ∀ (s17 : Int) (h0_0 : Int) (h0_1 : Int) (h0_2 : Int), inv s17 h0_0 h0_1 h0_2 → ki1 r0 (fun s : Int × Int × Int × Int × Int × Int × Int × Int × Int × Int × Unit => ((s.1 = s0 ∧ s.2.1 = s6 ∧ s.2.2.2.2.2.2.1 = h1_0 ∧ s.2.2.2.2.2.2.2.1 = h1_1 ∧ s.2.2.2.2.2.2.2.2.1 = h1_2 ∧ s.2.2.2.2.2.2.2.2.2.1 = h2_0) ∧ inv s.2.2.1 s.2.2.2.1 s.2.2.2.2.1 s.2.2.2.2.2.1) ∧ μ s.2.2.1 s.2.2.2.1 s.2.2.2.2.1 s.2.2.2.2.2.1 < μ s17 h0_0 h0_1 h0_2) (fun s17q h0_0q h0_1q h0_2q => inv s17q h0_0q h0_1q h0_2q ∧ μ s17q h0_0q h0_1q h0_2q < μ s17 h0_0 h0_1 h0_2) s0 s6 h1_0 h1_1 h1_2 h2_0 s17 h0_0 h0_1 h0_2) : Md.Loop (s0, s6, s17, h0_0, h0_1, h0_2, h1_0, h1_1, h1_2, h2_0, ()) (k5q (r0.a0, r0.a1, r0.a2, ())) :=
  ⟨⟨fun s : Int × Int × Int × Int × Int × Int × Int × Int × Int × Int × Unit => (s.1 = s0 ∧ s.2.1 = s6 ∧ s.2.2.2.2.2.2.1 = h1_0 ∧ s.2.2.2.2.2.2.2.1 = h1_1 ∧ s.2.2.2.2.2.2.2.2.1 = h1_2 ∧ s.2.2.2.2.2.2.2.2.2.1 = h2_0) ∧ inv s.2.2.1 s.2.2.2.1 s.2.2.2.2.1 s.2.2.2.2.2.1, fun s : Int × Int × Int × Int × Int × Int × Int × Int × Int × Int × Unit => μ s.2.2.1 s.2.2.2.1 s.2.2.2.2.1 s.2.2.2.2.2.1, ⟨⟨rfl, rfl, rfl, rfl, rfl, rfl⟩, h0⟩, fun (s0p, s6p, s17p, h0_0p, h0_1p, h0_2p, h1_0p, h1_1p, h1_2p, h2_0p, ()) ⟨⟨eq0, eq1, eq2, eq3, eq4, eq5⟩, hi⟩ => by
    have eq0 : s0p = s0 := eq0; subst s0p; have eq1 : s6p = s6 := eq1; subst s6p; have eq2 : h1_0p = h1_0 := eq2; subst h1_0p; have eq3 : h1_1p = h1_1 := eq3; subst h1_1p; have eq4 : h1_2p = h1_2 := eq4; subst h1_2p; have eq5 : h2_0p = h2_0 := eq5; subst h2_0p; exact mpr_of (by kernel_rfl) ((congrArg (fun k => ki1 r0 (fun s : Int × Int × Int × Int × Int × Int × Int × Int × Int × Int × Unit => ((s.1 = s0 ∧ s.2.1 = s6 ∧ s.2.2.2.2.2.2.1 = h1_0 ∧ s.2.2.2.2.2.2.2.1 = h1_1 ∧ s.2.2.2.2.2.2.2.2.1 = h1_2 ∧ s.2.2.2.2.2.2.2.2.2.1 = h2_0) ∧ inv s.2.2.1 s.2.2.2.1 s.2.2.2.2.1 s.2.2.2.2.2.1) ∧ μ s.2.2.1 s.2.2.2.1 s.2.2.2.2.1 s.2.2.2.2.2.1 < μ s17p h0_0p h0_1p h0_2p) k s0 s6 h1_0 h1_1 h1_2 h2_0 s17p h0_0p h0_1p h0_2p) (lpk4 (⟨rfl, rfl, rfl, rfl, rfl, rfl⟩ : s0 = s0 ∧ s6 = s6 ∧ h1_0 = h1_0 ∧ h1_1 = h1_1 ∧ h1_2 = h1_2 ∧ h2_0 = h2_0) inv (fun s17q h0_0q h0_1q h0_2q => μ s17q h0_0q h0_1q h0_2q < μ s17p h0_0p h0_1p h0_2p))).mpr (hs s17p h0_0p h0_1p h0_2p hi))⟩⟩
def kic (r0 : TA3) (nx2 : HL TB.den kb.hs → Prop) (k1 : Int → Int → Int → Int → Prop) (s0 : Int) (s6 : Int) (s7 : Int) (s17 : Int) (h1_0 : Int) (h1_1 : Int) (h1_2 : Int) (h2_0 : Int) (s20 : Int) (h0_0 : Int) (h0_1 : Int) (h0_2 : Int) : Prop :=
(decide (s20 < 3) = true →
(0 ≤ s20 ∧ s20 < (3 : Int)) ∧ (0 ≤ s20 ∧ s20 < (3 : Int)) ∧ (s0 = 18446744069414584321 ∧ (0 ≤ s7 ∧ s7 < 8) ∧ 0 ≤ s20 ∧ s20 < 3) ∧ ((TField.mk h2_0).P = 18446744069414584321 ∧ U64 (ix [h0_0, h0_1, h0_2] s20) ∧ U64 (rc s7 s20)) ∧ let r1 : Int := ((ix [h0_0, h0_1, h0_2] s20) + (rc s7 s20)) % 18446744069414584321
((TField.mk h2_0).P = 18446744069414584321 ∧ U64 r1 ∧ U64 s6) ∧ (0 ≤ s20 ∧ s20 < (3 : Int)) ∧ (0 ≤ s20 ∧ s20 < (3 : Int)) ∧ k1 (IntKind.i64.wrap (s20 + 1) : Int) ((bif decide (s20 = (0 : Int)) then pw (r1 % 18446744069414584321) s6 else h0_0) : Int) ((bif decide (s20 = (1 : Int)) then pw (r1 % 18446744069414584321) s6 else h0_1) : Int) ((bif decide (s20 = (2 : Int)) then pw (r1 % 18446744069414584321) s6 else h0_2) : Int)) ∧
(decide (s20 < 3) = false →
(s0 = 18446744069414584321 ∧ S3 (TA3.mk h0_0 h0_1 h0_2)) ∧ nx2 (s0, s6, (IntKind.i64.wrap (s17 + 1) : Int), ((mixS (TA3.mk h0_0 h0_1 h0_2)).a0 : Int), ((mixS (TA3.mk h0_0 h0_1 h0_2)).a1 : Int), ((mixS (TA3.mk h0_0 h0_1 h0_2)).a2 : Int), h1_0, h1_1, h1_2, h2_0, ()))
set_option maxRecDepth 100000 in
theorem krb {r0 : TA3} {nx2 : HL TB.den kb.hs → Prop} {s0 : Int} {s6 : Int} {s7 : Int} {s17 : Int} {h1_0 : Int} {h1_1 : Int} {h1_2 : Int} {h2_0 : Int} {s20 : Int} {h0_0 : Int} {h0_1 : Int} {h0_2 : Int} (inv : Int → Int → Int → Int → Prop) (μ : Int → Int → Int → Int → Nat) (h0 : inv s20 h0_0 h0_1 h0_2) (hs : ∀ (s20 : Int) (h0_0 : Int) (h0_1 : Int) (h0_2 : Int), inv s20 h0_0 h0_1 h0_2 → kic r0 nx2 (fun s20q h0_0q h0_1q h0_2q => inv s20q h0_0q h0_1q h0_2q ∧ μ s20q h0_0q h0_1q h0_2q < μ s20 h0_0 h0_1 h0_2) s0 s6 s7 s17 h1_0 h1_1 h1_2 h2_0 s20 h0_0 h0_1 h0_2) : Md.Loop (s0, s6, s7, s17, s20, h0_0, h0_1, h0_2, h1_0, h1_1, h1_2, h2_0, ()) (k5w (r0.a0, r0.a1, r0.a2, ()) nx2) :=
  ⟨⟨fun s : Int × Int × Int × Int × Int × Int × Int × Int × Int × Int × Int × Int × Unit => (s.1 = s0 ∧ s.2.1 = s6 ∧ s.2.2.1 = s7 ∧ s.2.2.2.1 = s17 ∧ s.2.2.2.2.2.2.2.2.1 = h1_0 ∧ s.2.2.2.2.2.2.2.2.2.1 = h1_1 ∧ s.2.2.2.2.2.2.2.2.2.2.1 = h1_2 ∧ s.2.2.2.2.2.2.2.2.2.2.2.1 = h2_0) ∧ inv s.2.2.2.2.1 s.2.2.2.2.2.1 s.2.2.2.2.2.2.1 s.2.2.2.2.2.2.2.1, fun s : Int × Int × Int × Int × Int × Int × Int × Int × Int × Int × Int × Int × Unit => μ s.2.2.2.2.1 s.2.2.2.2.2.1 s.2.2.2.2.2.2.1 s.2.2.2.2.2.2.2.1, ⟨⟨rfl, rfl, rfl, rfl, rfl, rfl, rfl, rfl⟩, h0⟩, fun (s0p, s6p, s7p, s17p, s20p, h0_0p, h0_1p, h0_2p, h1_0p, h1_1p, h1_2p, h2_0p, ()) ⟨⟨eq0, eq1, eq2, eq3, eq4, eq5, eq6, eq7⟩, hi⟩ => by
    have eq0 : s0p = s0 := eq0; subst s0p; have eq1 : s6p = s6 := eq1; subst s6p; have eq2 : s7p = s7 := eq2; subst s7p; have eq3 : s17p = s17 := eq3; subst s17p; have eq4 : h1_0p = h1_0 := eq4; subst h1_0p; have eq5 : h1_1p = h1_1 := eq5; subst h1_1p; have eq6 : h1_2p = h1_2 := eq6; subst h1_2p; have eq7 : h2_0p = h2_0 := eq7; subst h2_0p; exact mpr_of (by kernel_rfl) ((congrArg (fun k => kic r0 nx2 k s0 s6 s7 s17 h1_0 h1_1 h1_2 h2_0 s20p h0_0p h0_1p h0_2p) (lpk4 (⟨rfl, rfl, rfl, rfl, rfl, rfl, rfl, rfl⟩ : s0 = s0 ∧ s6 = s6 ∧ s7 = s7 ∧ s17 = s17 ∧ h1_0 = h1_0 ∧ h1_1 = h1_1 ∧ h1_2 = h1_2 ∧ h2_0 = h2_0) inv (fun s20q h0_0q h0_1q h0_2q => μ s20q h0_0q h0_1q h0_2q < μ s20p h0_0p h0_1p h0_2p))).mpr (hs s20p h0_0p h0_1p h0_2p hi))⟩⟩
theorem bd100 : Callable Try.prog 100 := ⟨by rw [Try.func100]; kernel_rfl, by rw [Try.func100]; show some _ ≠ some _; decide⟩
theorem kpr (p0 : Int) (p1 : TA3) (h : p0 = 18446744069414584321 ∧ S3 p1) : k9v (p0, p1.a0, p1.a1, p1.a2, ()) (((permS p1).a0 : Int), ((permS p1).a1 : Int), ((permS p1).a2 : Int), ()) := by
  obtain ⟨hP, hs⟩ := h
  subst hP
  refine ksx ⟨rfl, fun h => by simp at h, fun _ => ⟨rfl, ?_⟩⟩
  refine kr6 (r0 := permS p1) (fun n a b c => 0 ≤ n ∧ n ≤ 8 ∧ (⟨a, b, c⟩ : TA3) = rnds n.toNat p1 ∧ S3 ⟨a, b, c⟩) (fun n _ _ _ => (8 - n).toNat) ⟨by omega, by omega, rfl, hs⟩ ?_
  rintro n a b c ⟨g0, g1, g2, g3⟩
  refine ⟨fun h => ?_, fun h => ?_⟩
  · have h := of_decide_eq_true h
    refine krb (r0 := permS p1) (fun i x y z => (i = 0 ∧ x = a ∧ y = b ∧ z = c) ∨ (i = 1 ∧ x = pw ((a + rc n 0) % 18446744069414584321) 7 ∧ y = b ∧ z = c) ∨ (i = 2 ∧ x = pw ((a + rc n 0) % 18446744069414584321) 7 ∧ y = pw ((b + rc n 1) % 18446744069414584321) 7 ∧ z = c) ∨ (i = 3 ∧ x = pw ((a + rc n 0) % 18446744069414584321) 7 ∧ y = pw ((b + rc n 1) % 18446744069414584321) 7 ∧ z = pw ((c + rc n 2) % 18446744069414584321) 7)) (fun i _ _ _ => (3 - i).toNat) (.inl ⟨rfl, rfl, rfl, rfl⟩) ?_
    intro i x y z hi
    have hrc : ∀ k, U64 (rc n k) := fun k => by unfold rc; omega
    have hpw : ∀ k e, 0 ≤ pw k e ∧ pw k e < 18446744069414584321 := fun k e => ⟨Int.emod_nonneg _ (by omega), Int.emod_lt_of_pos _ (by omega)⟩
    obtain ⟨h3a, h3b, h3c⟩ := g3
    refine ⟨fun hh => ?_, fun hh => ?_⟩
    · have hh := of_decide_eq_true hh
      rcases hi with ⟨rfl, rfl, rfl, rfl⟩ | ⟨rfl, rfl, rfl, rfl⟩ | ⟨rfl, rfl, rfl, rfl⟩ | ⟨rfl, _⟩
      · refine ⟨by omega, by omega, ⟨rfl, by omega, by omega⟩, ⟨rfl, h3a, hrc _⟩, ⟨rfl, ?_, by omega⟩, by omega, by omega, .inr (.inl ⟨rfl, ?_, rfl, rfl⟩), by decide⟩
        · exact ⟨Int.emod_nonneg _ (by omega), Int.lt_trans (Int.emod_lt_of_pos _ (by omega)) (by omega)⟩
        · show pw ((x + rc n 0) % 18446744069414584321 % 18446744069414584321) 7 = _
          rw [Int.emod_emod_of_dvd _ (Int.dvd_refl _)]
      · refine ⟨by omega, by omega, ⟨rfl, by omega, by omega⟩, ⟨rfl, h3b, hrc _⟩, ⟨rfl, ?_, by omega⟩, by omega, by omega, .inr (.inr (.inl ⟨rfl, rfl, ?_, rfl⟩)), by decide⟩
        · exact ⟨Int.emod_nonneg _ (by omega), Int.lt_trans (Int.emod_lt_of_pos _ (by omega)) (by omega)⟩
        · show pw ((y + rc n 1) % 18446744069414584321 % 18446744069414584321) 7 = _
          rw [Int.emod_emod_of_dvd _ (Int.dvd_refl _)]
      · refine ⟨by omega, by omega, ⟨rfl, by omega, by omega⟩, ⟨rfl, h3c, hrc _⟩, ⟨rfl, ?_, by omega⟩, by omega, by omega, .inr (.inr (.inr ⟨rfl, rfl, rfl, ?_⟩)), by decide⟩
        · exact ⟨Int.emod_nonneg _ (by omega), Int.lt_trans (Int.emod_lt_of_pos _ (by omega)) (by omega)⟩
        · show pw ((z + rc n 2) % 18446744069414584321 % 18446744069414584321) 7 = _
          rw [Int.emod_emod_of_dvd _ (Int.dvd_refl _)]
      · omega
    · have hh := of_decide_eq_false hh
      rcases hi with ⟨rfl, _⟩ | ⟨rfl, _⟩ | ⟨rfl, _⟩ | ⟨rfl, rfl, rfl, rfl⟩
      · omega
      · omega
      · omega
      · have e : rnds (n + 1).toNat p1 = rnd ⟨a, b, c⟩ n := by
          rw [show (n + 1).toNat = n.toNat + 1 by omega]
          show rnd (rnds n.toNat p1) (n.toNat : Int) = _
          rw [← g2, show (n.toNat : Int) = n by omega]
        have hS : S3 (rnds (n + 1).toNat p1) := by
          rw [e]
          unfold rnd mixS S3
          dsimp only
          omega
        have hinc : IntKind.i64.wrap (n + 1) = n + 1 := wi _ (by omega) (by omega)
        rw [hinc]
        refine ⟨⟨rfl, by unfold S3; have := hpw ((a + rc n 0) % 18446744069414584321) 7; have := hpw ((b + rc n 1) % 18446744069414584321) 7; have := hpw ((c + rc n 2) % 18446744069414584321) 7; dsimp only; omega⟩, ⟨⟨rfl, rfl, rfl, rfl, rfl, rfl⟩, (?_ : 0 ≤ n + 1 ∧ n + 1 ≤ 8 ∧ _ ∧ _)⟩, (?_ : (8 - (n + 1)).toNat < (8 - n).toNat)⟩
        · refine ⟨by omega, by omega, e.symm, ?_⟩
          rw [e] at hS
          exact hS
        · omega
  · have h := of_decide_eq_false h
    rw [show n = 8 by omega] at g2
    have g2 : (⟨a, b, c⟩ : TA3) = permS p1 := g2
    rw [← g2]
    exact ⟨rfl, rfl, rfl⟩
noncomputable def khd : Con TB.den := kc.fnR (fun x => (fun (p0 : Int) (p1 : TA3) => p0 = 18446744069414584321 ∧ S3 p1) x.1 (TA3.mk x.2.1 x.2.2.1 x.2.2.2.1)) fun x => ((fun (p0 : Int) (p1 : TA3) => ((permS p1).a0 : Int)) x.1 (TA3.mk x.2.1 x.2.2.1 x.2.2.2.1), (fun (p0 : Int) (p1 : TA3) => ((permS p1).a1 : Int)) x.1 (TA3.mk x.2.1 x.2.2.1 x.2.2.2.1), (fun (p0 : Int) (p1 : TA3) => ((permS p1).a2 : Int)) x.1 (TA3.mk x.2.1 x.2.2.1 x.2.2.2.1), ())
theorem ktd : khd.Ok Try.prog TB := Con.ok_fn kc bd100 fun x h => kr9 (kpr x.1 (TA3.mk x.2.1 x.2.2.1 x.2.2.2.1) h)
end Go.Proofs.Ytnmakgfmimagmaa
namespace Go.Proofs.Ytnmakgfmimagmaa
open Go Go.Bv Go.Cv Go.Md Go.RowKit
def k15 : Con TB.den := Con.mk0 93 [.one (.d (.int .u64)), .one (.d (.int .u64)), .one (.d (.sl (.int .u64)))] [] (.one (.agg [.d (.int .u64), .d (.int .u64), .d (.int .u64)])) []
abbrev kru := HL TB.den (hsT k15.ins (hsOs k15.pre))
abbrev k2v := HL TB.den (hsV k15.res (hsOs k15.post))
noncomputable def k3j : Cx TB := ⟨inf, [kxf, kiw, khd], [], 4⟩
noncomputable def k5a : Code := Try.f93.body.getD .skip
noncomputable def ka2 : List ResultVar := Try.f93.results.toList
noncomputable def k174 (o : k2v) : Exit → TSt TB.den → Prop := thenT TB (fun s => ghs TB [] s fun s => WP TB k3j 61 0 (cB (cB (cB (cB (cB k5a))))) .no s (retTQ TB k3j k15 ka2 o)) (retTQ TB k3j k15 ka2 o)
def k2i : Tm := ⟨[0, 1, 38], [.cells [.d (.int .u64), .d (.int .u64), .d (.int .u64)], .cells [.d (.int .u64)], .cells [.d (.int .u64), .d (.int .u64), .d (.int .u64)]], [0, 2, 6, 7, 8, 9], [.one (.d (.int .u64)), .one (.d (.sl (.int .u64))), .one (.ptr 0 0), .one (.ptr 1 0), .one (.ptr 2 0), .one (.d (.int .i64))], 46⟩
noncomputable def kjd (o : k2v) (nx1 : HL TB.den k2i.hs → Prop) : Exit → TSt TB.den → Prop := thenT TB (fun s => k2i.mat TB 0 s nx1) (blockT TB 0 (k174 o))
noncomputable def k17u (o : k2v) (nx1 : HL TB.den k2i.hs → Prop) : Exit → TSt TB.den → Prop := thenT TB (fun s => ghs TB [] s fun s => WP TB k3j 61 0 (cB (cB (cA (cA (cB (cA (cB (cB (cB (cB k5a)))))))))) .no s (kjd o nx1)) (kjd o nx1)
def kc1 : Tm := ⟨[0, 1, 38], [.cells [.d (.int .u64), .d (.int .u64), .d (.int .u64)], .cells [.d (.int .u64)], .cells [.d (.int .u64), .d (.int .u64), .d (.int .u64)]], [0, 2, 6, 7, 8, 9], [.one (.d (.int .u64)), .one (.d (.sl (.int .u64))), .one (.ptr 0 0), .one (.ptr 1 0), .one (.ptr 2 0), .one (.d (.int .i64))], 86⟩
noncomputable def kov (o : k2v) (nx1 : HL TB.den k2i.hs → Prop) (i : HL TB.den kc1.hs) : Prop := ghs TB [] (kc1.fill TB i) fun s => WP TB k3j 61 0 (cB (cB (cA (cA (cB (cA (cA (cB (cA (cB (cB (cB (cB k5a))))))))))))) .no s (blockT TB 1 (k17u o nx1))
structure k7r (o : k2v) (nx1 : HL TB.den k2i.hs → Prop) (i : HL TB.den kc1.hs) : Prop where
  h : kov o nx1 i
noncomputable def kq8 (o : k2v) (nx1 : HL TB.den k2i.hs → Prop) : An TB := .nd [] .no [] (.jn kc1 (k7r o nx1) [] .no [] .no)
noncomputable def kaa (o : k2v) (nx1 : HL TB.den k2i.hs → Prop) (i : HL TB.den k2i.hs) : Prop := WP TB k3j 61 0 (cA (cA (cB (cA (cB (cB (cB (cB k5a)))))))) (.nd [] .no [] (.nd [] (kq8 o nx1) [] .no)) (k2i.fill TB i) (kjd o nx1)
noncomputable def k15v (o : k2v) : An TB := .lp [] k2i (kaa o) fun nx1 => (.nd [] .no [] (.nd [] (kq8 o nx1) [] .no))
noncomputable def k15d (o : k2v) : An TB := .nd [] .no [] (.nd [] (.nd [] .no [] (k15v o)) [] .no)
noncomputable def kq5 (o : k2v) : An TB := .nd [] .no [] (.nd [] .no [] (.nd [] .no [] (k15d o)))
noncomputable def kfo (x : kru) (o : k2v) : Prop := WPh TB k3j 61 0 k5a (kq5 o) (k15.st TB x) (retTQ TB k3j k15 ka2 o)
set_option maxRecDepth 100000 in
theorem k137 (o : k2v) : OblH TB k3j 61 0 k5a (kq5 o) (retTQ TB k3j k15 ka2 o) :=
  OblH.of_eq (X := (True ∧ (True ∧ (True ∧ ((True ∧ ((True ∧ True) ∧ True)) ∧ ((True ∧ ((∀ nx i, (kaa o) nx i = (kaa o) nx i) ∧ ∀ nx1 : HL TB.den k2i.hs → Prop, ((True ∧ (True ∧ True)) ∧ ((True ∧ ((True ∧ (True ∧ True)) ∧ (∀ i, (k7r o nx1) i = (kov o nx1) i) ∧ True)) ∧ True)))) ∧ (True ∧ True))))))) (by kernel_rfl) ⟨trivial, ⟨trivial, ⟨trivial, ⟨⟨trivial, ⟨⟨trivial, trivial⟩, trivial⟩⟩, ⟨⟨trivial, ⟨fun _ _ => rfl, fun _ => ⟨⟨trivial, ⟨trivial, trivial⟩⟩, ⟨⟨trivial, ⟨⟨trivial, ⟨trivial, trivial⟩⟩, fun _ => propext ⟨fun h => h.1, fun h => ⟨h⟩⟩, trivial⟩⟩, trivial⟩⟩⟩⟩, ⟨trivial, trivial⟩⟩⟩⟩⟩⟩
set_option maxRecDepth 100000 in
theorem k12z {x : kru} {o : k2v} (h : kfo x o) : SoundH Try.prog k15.f ((k15.args idf x).map (er TB)) ((k15.obs idf x).map (erO TB)) (er TB (k15.val idf o)) ((k15.ops idf o).map (erO TB)) :=
  Con.soundH (c := k15) (C := k3j) TBok ⟨inf_ok, (all_cons k1lg (all_cons kq3 (all_cons ktd all_nil))), all_nil⟩ mix Try.func93 (show Try.f93.body = some k5a by kernel_rfl) (show Try.f93.ntmps = 61 by kernel_rfl) (show Try.f93.results.toList = ka2 by kernel_rfl) rfl h (k137 o)
set_option maxRecDepth 100000 in
theorem k159 {p0 : Int} {p1 : Int} {p2 : List Int} {r0 : TA3} (h :
(((TField.mk p0).P = 18446744069414584321 ∧ U64 p1 ∧ U64 (65536 : Int)) ∧ let r1 : Int := p1 * (65536 : Int) % 18446744069414584321
((TField.mk p0).P = 18446744069414584321 ∧ U64 r1 ∧ U64 (IntKind.u64.wrap (p2.length : Int))) ∧ let r2 : Int := (r1 + (IntKind.u64.wrap (p2.length : Int))) % 18446744069414584321
(((p2.length : Int) == 0) = true →
(p0 = 18446744069414584321 ∧ S3 (TA3.mk 0 0 r2)) ∧ (permS (TA3.mk 0 0 r2)).a0 = r0.a0 ∧ (permS (TA3.mk 0 0 r2)).a1 = r0.a1 ∧ (permS (TA3.mk 0 0 r2)).a2 = r0.a2) ∧
(((p2.length : Int) == 0) = false →
 Md.Loop (p0, p2, (0 : Int), (0 : Int), (0 : Int), (0 : Int), p0, (0 : Int), (0 : Int), r2, ()) (kaa (r0.a0, r0.a1, r0.a2, ()))))) : kfo (p0, p1, p2, ()) (r0.a0, r0.a1, r0.a2, ()) := WPh.of_eq (by kernel_rfl) h
set_option maxRecDepth 100000 in
theorem kzf {r0 : TA3} {nx1 : HL TB.den k2i.hs → Prop} {s0 : Int} {s2 : List Int} {s9 : Int} {h0_0 : Int} {h0_1 : Int} {h0_2 : Int} {h1_0 : Int} {h38_0 : Int} {h38_1 : Int} {h38_2 : Int} (h :
((s0 = 18446744069414584321 ∧ S3 (TA3.mk h38_0 h38_1 h38_2)) ∧ nx1 (s0, s2, (IntKind.i64.wrap (s9 + 2) : Int), h0_0, h0_1, h0_2, h1_0, ((permS (TA3.mk h38_0 h38_1 h38_2)).a0 : Int), ((permS (TA3.mk h38_0 h38_1 h38_2)).a1 : Int), ((permS (TA3.mk h38_0 h38_1 h38_2)).a2 : Int), ()))) : k7r (r0.a0, r0.a1, r0.a2, ()) nx1 (s0, s2, s9, h0_0, h0_1, h0_2, h1_0, h38_0, h38_1, h38_2, ()) := ⟨mpr_of (by kernel_rfl) h⟩
def kq6 (r0 : TA3) (nx1 : HL TB.den k2i.hs → Prop) (k1 : Int → Int → Int → Int → Prop) (s0 : Int) (s2 : List Int) (h0_0 : Int) (h0_1 : Int) (h0_2 : Int) (h1_0 : Int) (s9 : Int) (h38_0 : Int) (h38_1 : Int) (h38_2 : Int) : Prop :=
(decide (s9 < (s2.length : Int)) = true →
(0 ≤ s9) ∧ s9 < (s2.length : Int) ∧ ((TField.mk h1_0).P = 18446744069414584321 ∧ U64 h38_0 ∧ U64 (ix s2 s9)) ∧ let r3 : Int := (h38_0 + (ix s2 s9)) % 18446744069414584321
 let v4 : Bool := decide ((IntKind.i64.wrap (s9 + 1)) < (s2.length : Int))
(v4 = true →
(0 ≤ IntKind.i64.wrap (s9 + 1)) ∧ IntKind.i64.wrap (s9 + 1) < (s2.length : Int) ∧ ((TField.mk h1_0).P = 18446744069414584321 ∧ U64 h38_1 ∧ U64 (ix s2 (IntKind.i64.wrap (s9 + 1)))) ∧ let r5 : Int := (h38_1 + (ix s2 (IntKind.i64.wrap (s9 + 1)))) % 18446744069414584321
 k7r (r0.a0, r0.a1, r0.a2, ()) nx1 (s0, s2, s9, h0_0, h0_1, h0_2, h1_0, r3, r5, h38_2, ())) ∧
(v4 = false →
 k7r (r0.a0, r0.a1, r0.a2, ()) nx1 (s0, s2, s9, h0_0, h0_1, h0_2, h1_0, r3, h38_1, h38_2, ()))) ∧
(decide (s9 < (s2.length : Int)) = false →
 h38_0 = r0.a0 ∧ h38_1 = r0.a1 ∧ h38_2 = r0.a2)
set_option maxRecDepth 100000 in
theorem k12q {r0 : TA3} {s0 : Int} {s2 : List Int} {h0_0 : Int} {h0_1 : Int} {h0_2 : Int} {h1_0 : Int} {s9 : Int} {h38_0 : Int} {h38_1 : Int} {h38_2 : Int} (inv : Int → Int → Int → Int → Prop) (μ : Int → Int → Int → Int → Nat) (h0 : inv s9 h38_0 h38_1 h38_2) (hs : ∀ (s9 : Int) (h38_0 : Int) (h38_1 : Int) (h38_2 : Int), inv s9 h38_0 h38_1 h38_2 → kq6 r0 (fun s : Int × (List Int) × Int × Int × Int × Int × Int × Int × Int × Int × Unit => ((s.1 = s0 ∧ s.2.1 = s2 ∧ s.2.2.2.1 = h0_0 ∧ s.2.2.2.2.1 = h0_1 ∧ s.2.2.2.2.2.1 = h0_2 ∧ s.2.2.2.2.2.2.1 = h1_0) ∧ inv s.2.2.1 s.2.2.2.2.2.2.2.1 s.2.2.2.2.2.2.2.2.1 s.2.2.2.2.2.2.2.2.2.1) ∧ μ s.2.2.1 s.2.2.2.2.2.2.2.1 s.2.2.2.2.2.2.2.2.1 s.2.2.2.2.2.2.2.2.2.1 < μ s9 h38_0 h38_1 h38_2) (fun s9q h38_0q h38_1q h38_2q => inv s9q h38_0q h38_1q h38_2q ∧ μ s9q h38_0q h38_1q h38_2q < μ s9 h38_0 h38_1 h38_2) s0 s2 h0_0 h0_1 h0_2 h1_0 s9 h38_0 h38_1 h38_2) : Md.Loop (s0, s2, s9, h0_0, h0_1, h0_2, h1_0, h38_0, h38_1, h38_2, ()) (kaa (r0.a0, r0.a1, r0.a2, ())) :=
  ⟨⟨fun s : Int × (List Int) × Int × Int × Int × Int × Int × Int × Int × Int × Unit => (s.1 = s0 ∧ s.2.1 = s2 ∧ s.2.2.2.1 = h0_0 ∧ s.2.2.2.2.1 = h0_1 ∧ s.2.2.2.2.2.1 = h0_2 ∧ s.2.2.2.2.2.2.1 = h1_0) ∧ inv s.2.2.1 s.2.2.2.2.2.2.2.1 s.2.2.2.2.2.2.2.2.1 s.2.2.2.2.2.2.2.2.2.1, fun s : Int × (List Int) × Int × Int × Int × Int × Int × Int × Int × Int × Unit => μ s.2.2.1 s.2.2.2.2.2.2.2.1 s.2.2.2.2.2.2.2.2.1 s.2.2.2.2.2.2.2.2.2.1, ⟨⟨rfl, rfl, rfl, rfl, rfl, rfl⟩, h0⟩, fun (s0p, s2p, s9p, h0_0p, h0_1p, h0_2p, h1_0p, h38_0p, h38_1p, h38_2p, ()) ⟨⟨eq0, eq1, eq2, eq3, eq4, eq5⟩, hi⟩ => by
    have eq0 : s0p = s0 := eq0; subst s0p; have eq1 : s2p = s2 := eq1; subst s2p; have eq2 : h0_0p = h0_0 := eq2; subst h0_0p; have eq3 : h0_1p = h0_1 := eq3; subst h0_1p; have eq4 : h0_2p = h0_2 := eq4; subst h0_2p; have eq5 : h1_0p = h1_0 := eq5; subst h1_0p; exact mpr_of (by kernel_rfl) ((congrArg (fun k => kq6 r0 (fun s : Int × (List Int) × Int × Int × Int × Int × Int × Int × Int × Int × Unit => ((s.1 = s0 ∧ s.2.1 = s2 ∧ s.2.2.2.1 = h0_0 ∧ s.2.2.2.2.1 = h0_1 ∧ s.2.2.2.2.2.1 = h0_2 ∧ s.2.2.2.2.2.2.1 = h1_0) ∧ inv s.2.2.1 s.2.2.2.2.2.2.2.1 s.2.2.2.2.2.2.2.2.1 s.2.2.2.2.2.2.2.2.2.1) ∧ μ s.2.2.1 s.2.2.2.2.2.2.2.1 s.2.2.2.2.2.2.2.2.1 s.2.2.2.2.2.2.2.2.2.1 < μ s9p h38_0p h38_1p h38_2p) k s0 s2 h0_0 h0_1 h0_2 h1_0 s9p h38_0p h38_1p h38_2p) (lpk4 (⟨rfl, rfl, rfl, rfl, rfl, rfl⟩ : s0 = s0 ∧ s2 = s2 ∧ h0_0 = h0_0 ∧ h0_1 = h0_1 ∧ h0_2 = h0_2 ∧ h1_0 = h1_0) inv (fun s9q h38_0q h38_1q h38_2q => μ s9q h38_0q h38_1q h38_2q < μ s9p h38_0p h38_1p h38_2p))).mpr (hs s9p h38_0p h38_1p h38_2p hi))⟩⟩
theorem bd93 : Callable Try.prog 93 := ⟨by rw [Try.func93]; kernel_rfl, by rw [Try.func93]; show some _ ≠ some _; decide⟩
theorem k11o (p0 : Int) (p1 : Int) (p2 : List Int) (h : p0 = 18446744069414584321 ∧ U64 p1 ∧ Us p2 ∧ p2.length ≤ 1099511627776) : kfo (p0, p1, p2, ()) (((absS p1 p2).a0 : Int), ((absS p1 p2).a1 : Int), ((absS p1 p2).a2 : Int), ()) := by
  obtain ⟨hP, h1, h2, h3⟩ := h
  subst hP
  have hp : ∀ s : TA3, S3 (permS s) := fun s => by
    show S3 (rnd _ _)
    unfold rnd mixS S3
    dsimp only
    omega
  have hi : S3 (absI p1 p2) := by unfold absI S3; dsimp only; omega
  have e : IntKind.u64.wrap (p2.length : Int) = p2.length := wu _ (by omega) (by omega)
  have em : (p1 * 65536 % 18446744069414584321 + (p2.length : Int)) % 18446744069414584321 = (absI p1 p2).a2 := rfl
  refine k159 ?_
  rw [e]
  refine ⟨⟨rfl, h1, by omega⟩, ⟨rfl, by omega, by omega⟩, fun h => ?_, fun h => ?_⟩
  · have h : p2 = [] := by simpa using h
    refine ⟨⟨rfl, ?_⟩, ?_⟩
    · exact hi
    · have : permS ⟨0, 0, (p1 * 65536 % 18446744069414584321 + (p2.length : Int)) % 18446744069414584321⟩ = absS p1 p2 := by unfold absS; rw [if_pos h]; rfl
      rw [this]
      exact ⟨rfl, rfl, rfl⟩
  · have h : p2 ≠ [] := by simpa using h
    have hv : absL p2 (absI p1 p2) = absS p1 p2 := by unfold absS; rw [if_neg h]
    rw [em]
    refine k12q (r0 := absS p1 p2) (fun i a b c => 0 ≤ i ∧ i ≤ p2.length + 1 ∧ absL (p2.drop i.toNat) ⟨a, b, c⟩ = absS p1 p2 ∧ S3 ⟨a, b, c⟩) (fun i _ _ _ => (p2.length + 2 - i).toNat) ⟨by omega, by omega, hv, hi⟩ ?_
    rintro i a b c ⟨g0, g1, g2, g3⟩
    obtain ⟨h3a, h3b, h3c⟩ := g3
    refine ⟨fun hh => ?_, fun hh => ?_⟩
    · have hh := of_decide_eq_true hh
      have hx := h2 _ (ix_mem p2 i g0 hh)
      rw [wi (i + 1) (by omega) (by omega)]
      have fin : ∀ nx x y z, S3 ⟨x, y, z⟩ → absL (p2.drop (i + 2).toNat) (permS ⟨x, y, z⟩) = absS p1 p2 → (0 ≤ i + 2 ∧ i + 2 ≤ p2.length + 1 ∧ absL (p2.drop (i + 2).toNat) (permS ⟨x, y, z⟩) = absS p1 p2 ∧ S3 (permS ⟨x, y, z⟩) → (p2.length + 2 - (i + 2)).toNat < (p2.length + 2 - i).toNat → nx ((18446744069414584321 : Int), p2, (i + 2 : Int), (0 : Int), (0 : Int), (0 : Int), (18446744069414584321 : Int), (permS ⟨x, y, z⟩).a0, (permS ⟨x, y, z⟩).a1, (permS ⟨x, y, z⟩).a2, ())) → k7r ((absS p1 p2).a0, (absS p1 p2).a1, (absS p1 p2).a2, ()) nx ((18446744069414584321 : Int), p2, i, (0 : Int), (0 : Int), (0 : Int), (18446744069414584321 : Int), x, y, z, ()) := by
        intro nx x y z hS hv' hn
        refine kzf (r0 := absS p1 p2) ?_
        rw [wi (i + 2) (by omega) (by omega)]
        exact ⟨⟨rfl, hS⟩, hn ⟨by omega, by omega, hv', hp _⟩ (by omega)⟩
      have hdrop := drop_ix p2 i g0 hh
      rw [hdrop] at g2
      refine ⟨g0, hh, ⟨rfl, h3a, hx⟩, fun h5 => ?_, fun h5 => ?_⟩
      · have h5 := of_decide_eq_true h5
        have hy := h2 _ (ix_mem p2 (i + 1) (by omega) h5)
        rw [drop_ix p2 (i + 1) (by omega) h5, show i + 1 + 1 = i + 2 by omega] at g2
        refine ⟨by omega, h5, ⟨rfl, h3b, hy⟩, fin _ _ _ _ (S3m (by omega) (by omega) h3c) g2 fun k1 k2 => ⟨⟨⟨rfl, rfl, rfl, rfl, rfl, rfl⟩, k1⟩, k2⟩⟩
      · have h5 := of_decide_eq_false h5
        have ed : p2.drop (i + 1).toNat = [] := List.drop_eq_nil_of_le (by omega)
        have ed2 : p2.drop (i + 2).toNat = [] := List.drop_eq_nil_of_le (by omega)
        rw [ed] at g2
        exact fin _ _ _ _ (S3m (by omega) h3b h3c) (by rw [ed2]; exact g2) fun k1 k2 => ⟨⟨⟨rfl, rfl, rfl, rfl, rfl, rfl⟩, k1⟩, k2⟩
    · have hh := of_decide_eq_false hh
      rw [List.drop_eq_nil_of_le (by omega)] at g2
      have g2 : (⟨a, b, c⟩ : TA3) = absS p1 p2 := g2
      rw [← g2]
      exact ⟨rfl, rfl, rfl⟩
noncomputable def kon : Con TB.den := k15.fnR (fun x => (fun (p0 : Int) (p1 : Int) (p2 : List Int) => p0 = 18446744069414584321 ∧ U64 p1 ∧ Us p2 ∧ p2.length ≤ 1099511627776) x.1 x.2.1 x.2.2.1) fun x => ((fun (p0 : Int) (p1 : Int) (p2 : List Int) => ((absS p1 p2).a0 : Int)) x.1 x.2.1 x.2.2.1, (fun (p0 : Int) (p1 : Int) (p2 : List Int) => ((absS p1 p2).a1 : Int)) x.1 x.2.1 x.2.2.1, (fun (p0 : Int) (p1 : Int) (p2 : List Int) => ((absS p1 p2).a2 : Int)) x.1 x.2.1 x.2.2.1, ())
theorem k164 : kon.Ok Try.prog TB := Con.ok_fn k15 bd93 fun x h => k12z (k11o x.1 x.2.1 x.2.2.1 h)
end Go.Proofs.Ytnmakgfmimagmaa
namespace Go.Proofs.Ytnmakgfmimagmaa
open Go Go.Bv Go.Cv Go.Md Go.RowKit
def k2h : Con TB.den := Con.mk0 86 [.one (.d (.int .u64)), .one (.d (.int .u64)), .one (.d (.sl (.int .u64)))] [] (.one (.one (.d (.int .u64)))) []
abbrev kxn := HL TB.den (hsT k2h.ins (hsOs k2h.pre))
abbrev kim := HL TB.den (hsV k2h.res (hsOs k2h.post))
noncomputable def kcd : Cx TB := ⟨inf, [k73, kon], [], 4⟩
noncomputable def kj5 : Code := Try.f86.body.getD .skip
noncomputable def klo : List ResultVar := Try.f86.results.toList
noncomputable def ku2 (o : kim) : An TB := .no
noncomputable def kjh (x : kxn) (o : kim) : Prop := WPh TB kcd 16 0 kj5 (ku2 o) (k2h.st TB x) (retTQ TB kcd k2h klo o)
set_option maxRecDepth 100000 in
theorem k1ae (o : kim) : OblH TB kcd 16 0 kj5 (ku2 o) (retTQ TB kcd k2h klo o) :=
  OblH.of_eq (X := (True ∧ ((True ∧ ((True ∧ True) ∧ True)) ∧ (True ∧ True)))) (by kernel_rfl) ⟨trivial, ⟨⟨trivial, ⟨⟨trivial, trivial⟩, trivial⟩⟩, ⟨trivial, trivial⟩⟩⟩
set_option maxRecDepth 100000 in
theorem k186 {x : kxn} {o : kim} (h : kjh x o) : SoundH Try.prog k2h.f ((k2h.args idf x).map (er TB)) ((k2h.obs idf x).map (erO TB)) (er TB (k2h.val idf o)) ((k2h.ops idf o).map (erO TB)) :=
  Con.soundH (c := k2h) (C := kcd) TBok ⟨inf_ok, (all_cons k9k (all_cons k164 all_nil)), all_nil⟩ mix Try.func86 (show Try.f86.body = some kj5 by kernel_rfl) (show Try.f86.ntmps = 16 by kernel_rfl) (show Try.f86.results.toList = klo by kernel_rfl) rfl h (k1ae o)
set_option maxRecDepth 100000 in
theorem k1cz {p0 : Int} {p1 : Int} {p2 : List Int} {r0 : Int} (h :
(((TField.mk p0).P = 18446744069414584321) ∧ ((!true) = true →
 0 = r0) ∧
((!true) = false →
(p0 = 18446744069414584321 ∧ U64 p1 ∧ Us p2 ∧ p2.length ≤ 1099511627776) ∧ (absS p1 p2).a0 = r0))) : kjh (p0, p1, p2, ()) (r0, ()) := WPh.of_eq (by kernel_rfl) h
theorem bd86 : Callable Try.prog 86 := ⟨by rw [Try.func86]; kernel_rfl, by rw [Try.func86]; show some _ ≠ some _; decide⟩
theorem k16z (p0 : Int) (p1 : Int) (p2 : List Int) (h : p0 = 18446744069414584321 ∧ U64 p1 ∧ Us p2 ∧ p2.length ≤ 1099511627776) : kjh (p0, p1, p2, ()) ((hashS p1 p2 : Int), ()) := by
  obtain ⟨hP, h1, h2, h3⟩ := h
  subst hP
  exact k1cz ⟨rfl, fun h => by simp at h, fun _ => ⟨⟨rfl, h1, h2, h3⟩, rfl⟩⟩
noncomputable def ks9 : Con TB.den := k2h.fnR (fun x => (fun (p0 : Int) (p1 : Int) (p2 : List Int) => p0 = 18446744069414584321 ∧ U64 p1 ∧ Us p2 ∧ p2.length ≤ 1099511627776) x.1 x.2.1 x.2.2.1) fun x => ((fun (p0 : Int) (p1 : Int) (p2 : List Int) => (hashS p1 p2 : Int)) x.1 x.2.1 x.2.2.1, ())
theorem k1ds : ks9.Ok Try.prog TB := Con.ok_fn k2h bd86 fun x h => k186 (k16z x.1 x.2.1 x.2.2.1 h)
end Go.Proofs.Ytnmakgfmimagmaa
namespace Go.Proofs.Ytnmakgfmimagmaa
open Go Go.Bv Go.Cv Go.Md Go.RowKit
def k1u : Con TB.den := Con.mk0 87 [.one (.d (.sl (.int .u8)))] [] (.one (.one (.d (.sl (.int .u64))))) []
abbrev kxr := HL TB.den (hsT k1u.ins (hsOs k1u.pre))
abbrev k2z := HL TB.den (hsV k1u.res (hsOs k1u.post))
noncomputable def k3z : Cx TB := ⟨inf, [], [], 4⟩
noncomputable def k5d : Code := Try.f87.body.getD .skip
noncomputable def kcq : List ResultVar := Try.f87.results.toList
noncomputable def k1bx (o : k2z) : Exit → TSt TB.den → Prop := thenT TB (fun s => ghs TB [] s fun s => WP TB k3z 55 0 (cB (cB (cB (cB k5d)))) .no s (retTQ TB k3z k1u kcq o)) (retTQ TB k3z k1u kcq o)
def k26 : Tm := ⟨[1], [.tip (.int .u64)], [0, 3, 4], [.one (.d (.sl (.int .u8))), .one (.own 0), .one (.d (.int .i64))], 2⟩
noncomputable def klk (o : k2z) (nx2 : HL TB.den k26.hs → Prop) : Exit → TSt TB.den → Prop := thenT TB (fun s => k26.mat TB 0 s nx2) (blockT TB 0 (k1bx o))
noncomputable def kvc (o : k2z) (nx2 : HL TB.den k26.hs → Prop) : Exit → TSt TB.den → Prop := thenT TB (fun s => ghs TB [] s fun s => WP TB k3z 55 0 (cB (cB (cA (cA (cB (cA (cB (cB (cB k5d))))))))) .no s (klk o nx2)) (klk o nx2)
noncomputable def k1d0 (o : k2z) (nx2 : HL TB.den k26.hs → Prop) : Exit → TSt TB.den → Prop := thenT TB (fun s => ghs TB [] s fun s => WP TB k3z 55 0 (cB (cB (cB (cA (cA (cB (cA (cA (cB (cA (cB (cB (cB k5d))))))))))))) .no s (blockT TB 1 (kvc o nx2))) (blockT TB 1 (kvc o nx2))
def k7m : Tm := ⟨[1], [.tip (.int .u64)], [0, 3, 4, 6, 35, 36, 37], [.one (.d (.sl (.int .u8))), .one (.own 0), .one (.d (.int .i64)), .one (.d (.int .u64)), .one (.d (.sl (.int .u8))), .one (.d (.int .i64)), .one (.d (.int .i64))], 2⟩
noncomputable def k1df (o : k2z) (nx2 : HL TB.den k26.hs → Prop) (nx1 : HL TB.den k7m.hs → Prop) : Exit → TSt TB.den → Prop := thenT TB (fun s => k7m.mat TB 0 s nx1) (blockT TB 2 (k1d0 o nx2))
noncomputable def kd1 (o : k2z) (nx2 : HL TB.den k26.hs → Prop) (nx1 : HL TB.den k7m.hs → Prop) (i : HL TB.den k7m.hs) : Prop := WP TB k3z 55 0 (cA (cA (cB (cA (cB (cB (cA (cA (cB (cA (cA (cB (cA (cB (cB (cB k5d)))))))))))))))) .no (k7m.fill TB i) (k1df o nx2 nx1)
noncomputable def k1dd (o : k2z) (nx2 : HL TB.den k26.hs → Prop) : An TB := .nd [] .no [] (.lp [] k7m (kd1 o nx2) fun nx1 => .no)
noncomputable def kuf (o : k2z) (nx2 : HL TB.den k26.hs → Prop) : An TB := .nd [] .no [] (.nd [] .no [] (.nd [] (k1dd o nx2) [] .no))
noncomputable def kd3 (o : k2z) (nx2 : HL TB.den k26.hs → Prop) (i : HL TB.den k26.hs) : Prop := WP TB k3z 55 0 (cA (cA (cB (cA (cB (cB (cB k5d))))))) (.nd [] .no [] (.nd [] (kuf o nx2) [] .no)) (k26.fill TB i) (klk o nx2)
noncomputable def k18k (o : k2z) : An TB := .lp [.frz 0 [3]] k26 (kd3 o) fun nx2 => (.nd [] .no [] (.nd [] (kuf o nx2) [] .no))
noncomputable def k19v (o : k2z) : An TB := .nd [] .no [] (.nd [] (.nd [] .no [] (k18k o)) [] .no)
noncomputable def kvd (o : k2z) : An TB := .nd [] .no [] (.nd [] .no [] (k19v o))
noncomputable def kjf (x : kxr) (o : k2z) : Prop := WPh TB k3z 55 0 k5d (kvd o) (k1u.st TB x) (retTQ TB k3z k1u kcq o)
set_option maxRecDepth 100000 in
theorem k1a4 (o : k2z) : OblH TB k3z 55 0 k5d (kvd o) (retTQ TB k3z k1u kcq o) :=
  OblH.of_eq (X := (True ∧ (True ∧ (True ∧ ((True ∧ ((∀ nx i, (kd3 o) nx i = (kd3 o) nx i) ∧ ∀ nx2 : HL TB.den k26.hs → Prop, ((True ∧ (True ∧ True)) ∧ ((True ∧ (True ∧ ((True ∧ ((∀ nx i, (kd1 o nx2) nx i = (kd1 o nx2) nx i) ∧ ∀ nx1 : HL TB.den k7m.hs → Prop, (True ∧ ((True ∧ True) ∧ ((True ∧ True) ∧ True))))) ∧ True))) ∧ True)))) ∧ (True ∧ True)))))) (by kernel_rfl) ⟨trivial, ⟨trivial, ⟨trivial, ⟨⟨trivial, ⟨fun _ _ => rfl, fun _ => ⟨⟨trivial, ⟨trivial, trivial⟩⟩, ⟨⟨trivial, ⟨trivial, ⟨⟨trivial, ⟨fun _ _ => rfl, fun _ => ⟨trivial, ⟨⟨trivial, trivial⟩, ⟨⟨trivial, trivial⟩, trivial⟩⟩⟩⟩⟩, trivial⟩⟩⟩, trivial⟩⟩⟩⟩, ⟨trivial, trivial⟩⟩⟩⟩⟩
set_option maxRecDepth 100000 in
theorem k18y {x : kxr} {o : k2z} (h : kjf x o) : SoundH Try.prog k1u.f ((k1u.args idf x).map (er TB)) ((k1u.obs idf x).map (erO TB)) (er TB (k1u.val idf o)) ((k1u.ops idf o).map (erO TB)) :=
  Con.soundH (c := k1u) (C := k3z) TBok ⟨inf_ok, all_nil, all_nil⟩ mix Try.func87 (show Try.f87.body = some k5d by kernel_rfl) (show Try.f87.ntmps = 55 by kernel_rfl) (show Try.f87.results.toList = kcq by kernel_rfl) rfl h (k1a4 o)
set_option maxRecDepth 100000 in
theorem k1ck {p0 : List Int} {r0 : List Int} (h :
(let v1 : Int := IntKind.i64.wrap ((IntKind.i64.wrap ((p0.length : Int) + 7)) - 1)
 let v2 : Int := IntKind.i64.wrap (1 + (IntKind.i64.wrap (Int.tdiv v1 7)))
 0 ≤ (1 : Int) ∧ (1 : Int) ≤ v2 ∧ (v2.toNat * 8 ≤ 140737488355328) ∧ (v2.toNat ≤ maxLen) ∧ (0 ≤ (0 : Int) ∧ 0 < (1 : Int)) ∧ (0 ≤ (0 : Int) ∧ 0 < ((List.replicate 1 (0 : Int)).length : Int)) ∧ (1 = ((List.replicate 1 (0 : Int)).set (0 : Int).toNat (IntKind.u64.wrap (p0.length : Int))).length) ∧ ((List.replicate 1 (0 : Int)).set (0 : Int).toNat (IntKind.u64.wrap (p0.length : Int)) = (List.replicate 1 (0 : Int)).set (0 : Int).toNat (IntKind.u64.wrap (p0.length : Int))) ∧ Md.Loop (p0, (0 : Int), ((List.replicate 1 (0 : Int)).set (0 : Int).toNat (IntKind.u64.wrap (p0.length : Int)) : List Int), ()) (kd3 (r0, ())))) : kjf (p0, ()) (r0, ()) := WPh.of_eq (by kernel_rfl) h
def kuk (r0 : List Int) (nx2 : HL TB.den k26.hs → Prop) (k2 : Int → List Int → Prop) (s0 : List Int) (s4 : Int) (g1 : List Int) : Prop :=
(decide (s4 < (s0.length : Int)) = true →
 let v3 : Int := (if (s0.length : Int) < IntKind.i64.wrap (s4 + 7) then (s0.length : Int) else IntKind.i64.wrap (s4 + 7))
(0 ≤ s4) ∧ s4 ≤ v3 ∧ v3 ≤ (s0.length : Int) ∧ let v4 : Int := (((s0.take v3.toNat).drop s4.toNat).length : Int)
(g1 = g1) ∧ Md.Loop (s0, s4, (0 : Int), ((s0.take v3.toNat).drop s4.toNat : List Int), v4, (0 : Int), g1, ()) (kd1 (r0, ()) nx2)) ∧
(decide (s4 < (s0.length : Int)) = false →
 g1 = r0)
set_option maxRecDepth 100000 in
theorem k19e {r0 : List Int} {s0 : List Int} {s4 : Int} {g1 : List Int} (inv : Int → List Int → Prop) (μ : Int → List Int → Nat) (h0 : inv s4 g1) (hs : ∀ (s4 : Int) (g1 : List Int), inv s4 g1 → kuk r0 (fun s : (List Int) × Int × (List Int) × Unit => ((s.1 = s0) ∧ inv s.2.1 s.2.2.1) ∧ μ s.2.1 s.2.2.1 < μ s4 g1) (fun s4q g1q => inv s4q g1q ∧ μ s4q g1q < μ s4 g1) s0 s4 g1) : Md.Loop (s0, s4, g1, ()) (kd3 (r0, ())) :=
  ⟨⟨fun s : (List Int) × Int × (List Int) × Unit => (s.1 = s0) ∧ inv s.2.1 s.2.2.1, fun s : (List Int) × Int × (List Int) × Unit => μ s.2.1 s.2.2.1, ⟨rfl, h0⟩, fun (s0p, s4p, g1p, ()) ⟨eq0, hi⟩ => by
    have eq0 : s0p = s0 := eq0; subst s0p; exact mpr_of (by kernel_rfl) ((congrArg (fun k => kuk r0 (fun s : (List Int) × Int × (List Int) × Unit => ((s.1 = s0) ∧ inv s.2.1 s.2.2.1) ∧ μ s.2.1 s.2.2.1 < μ s4p g1p) k s0 s4p g1p) (lpk2 (rfl : s0 = s0) inv (fun s4q g1q => μ s4q g1q < μ s4p g1p))).mpr (hs s4p g1p hi))⟩⟩
def kv4 (r0 : List Int) (nx2 : HL TB.den k26.hs → Prop) (k1 : Int → Int → Prop) (s0 : List Int) (s4 : Int) (s35 : List Int) (s36 : Int) (g1 : List Int) (s6 : Int) (s37 : Int) : Prop :=
(decide (s37 < s36) = true →
(0 ≤ s37) ∧ s37 < (s35.length : Int) ∧ (0 ≤ IntKind.i64.wrap (8 * s37)) ∧ let v5 : Int := ishl .u64 (IntKind.u64.wrap (ix s35 s37)) (IntKind.i64.wrap (8 * s37))
(g1 = g1) ∧ k1 (ior .u64 s6 v5 : Int) (IntKind.i64.wrap (s37 + 1) : Int)) ∧
(decide (s37 < s36) = false →
 g1.length = g1.length ∧ (g1.length + [s6].length) * 8 ≤ 140737488355328 ∧ g1.length + [s6].length ≤ maxLen ∧ (g1 ++ [s6] = g1 ++ [s6]) ∧ nx2 (s0, (IntKind.i64.wrap (s4 + 7) : Int), (g1 ++ [s6] : List Int), ()))
set_option maxRecDepth 100000 in
theorem k18c {r0 : List Int} {nx2 : HL TB.den k26.hs → Prop} {s0 : List Int} {s4 : Int} {s35 : List Int} {s36 : Int} {g1 : List Int} {s6 : Int} {s37 : Int} (inv : Int → Int → Prop) (μ : Int → Int → Nat) (h0 : inv s6 s37) (hs : ∀ (s6 : Int) (s37 : Int), inv s6 s37 → kv4 r0 nx2 (fun s6q s37q => inv s6q s37q ∧ μ s6q s37q < μ s6 s37) s0 s4 s35 s36 g1 s6 s37) : Md.Loop (s0, s4, s6, s35, s36, s37, g1, ()) (kd1 (r0, ()) nx2) :=
  ⟨⟨fun s : (List Int) × Int × Int × (List Int) × Int × Int × (List Int) × Unit => (s.1 = s0 ∧ s.2.1 = s4 ∧ s.2.2.2.1 = s35 ∧ s.2.2.2.2.1 = s36 ∧ s.2.2.2.2.2.2.1 = g1) ∧ inv s.2.2.1 s.2.2.2.2.2.1, fun s : (List Int) × Int × Int × (List Int) × Int × Int × (List Int) × Unit => μ s.2.2.1 s.2.2.2.2.2.1, ⟨⟨rfl, rfl, rfl, rfl, rfl⟩, h0⟩, fun (s0p, s4p, s6p, s35p, s36p, s37p, g1p, ()) ⟨⟨eq0, eq1, eq2, eq3, eq4⟩, hi⟩ => by
    have eq0 : s0p = s0 := eq0; subst s0p; have eq1 : s4p = s4 := eq1; subst s4p; have eq2 : s35p = s35 := eq2; subst s35p; have eq3 : s36p = s36 := eq3; subst s36p; have eq4 : g1p = g1 := eq4; subst g1p; exact mpr_of (by kernel_rfl) ((congrArg (fun k => kv4 r0 nx2 k s0 s4 s35 s36 g1 s6p s37p) (lpk2 (⟨rfl, rfl, rfl, rfl, rfl⟩ : s0 = s0 ∧ s4 = s4 ∧ s35 = s35 ∧ s36 = s36 ∧ g1 = g1) inv (fun s6q s37q => μ s6q s37q < μ s6p s37p))).mpr (hs s6p s37p hi))⟩⟩
theorem bd87 : Callable Try.prog 87 := ⟨by rw [Try.func87]; kernel_rfl, by rw [Try.func87]; show some _ ≠ some _; decide⟩
theorem k16y (p0 : List Int) (h : By p0 ∧ p0.length ≤ 1099511627776) : kjf (p0, ()) ((packS p0 : List Int), ()) := by
  obtain ⟨hb, hl⟩ := h
  refine k1ck ?_
  rw [wi ((p0.length : Int) + 7) (by omega) (by omega), wi ((p0.length : Int) + 7 - 1) (by omega) (by omega)]
  try simp only []
  rw [tdiv_nn _ _ (by omega), wi (((p0.length : Int) + 7 - 1) / 7) (by omega) (by omega), wi (1 + ((p0.length : Int) + 7 - 1) / 7) (by omega) (by omega), wu (p0.length : Int) (by omega) (by omega)]
  refine ⟨by omega, by omega, by omega, by unfold maxLen; omega, by omega, ⟨by omega, by decide⟩, by trivial, by trivial, ?_⟩
  refine k19e (fun i g => 0 ≤ i ∧ i ≤ p0.length + 7 ∧ g ++ packN p0.length (p0.drop i.toNat) = packS p0 ∧ (g.length : Int) ≤ 1 + i) (fun i _ => (p0.length + 7 - i).toNat) ⟨by omega, by omega, rfl, by show (1 : Int) ≤ _; omega⟩ ?_
  rintro i g ⟨g0, g1, g2, g3⟩
  refine ⟨fun h => ?_, fun h => ?_⟩
  · have h := of_decide_eq_true h
    have h7 : IntKind.i64.wrap (i + 7) = i + 7 := wi (i + 7) (by omega) (by omega)
    rw [h7]
    have ev : ((p0.take (if (p0.length : Int) < i + 7 then (p0.length : Int) else i + 7).toNat).drop i.toNat) = (p0.drop i.toNat).take 7 := by
      split
      · rw [Int.toNat_natCast, List.take_length, List.take_of_length_le (by simp; omega)]
      · rw [List.drop_take, show (i + 7).toNat - i.toNat = 7 by omega]
    simp only [ev]
    refine ⟨g0, by split <;> omega, by split <;> omega, by trivial, ?_⟩
    have hpb : By ((p0.drop i.toNat).take 7) := (hb.drop _).take _
    have hpl : ((p0.drop i.toNat).take 7).length ≤ 7 := by simp; omega
    have hnext : g ++ [val ((p0.drop i.toNat).take 7)] ++ packN p0.length (p0.drop (i + 7).toNat) = packS p0 := by
      rw [← g2, List.append_assoc]
      congr 1
      have h5 : (p0.drop i.toNat).length ≤ p0.length := by simp
      have h6 := k1nr p0.length (p0.drop i.toNat) h5 (by intro h7; have := congrArg List.length h7; simp at this; omega)
      rw [h6, List.drop_drop, show i.toNat + 7 = (i + 7).toNat by omega]
      rfl
    generalize (p0.drop i.toNat).take 7 = part at *
    refine k18c (fun n k => 0 ≤ k ∧ k ≤ part.length ∧ n = val (part.take k.toNat)) (fun _ k => (part.length - k).toNat) ⟨by omega, by omega, rfl⟩ ?_
    rintro n k ⟨k0, k1, rfl⟩
    refine ⟨fun hk => ?_, fun hk => ?_⟩
    · have hk := of_decide_eq_true hk
      have hx := hpb _ (ix_mem part k k0 hk)
      have hlen : ((part.take k.toNat).length : Int) = k := by rw [List.length_take]; omega
      rw [wi (8 * k) (by omega) (by omega), wu (ix part k) (by omega) (by omega), wi (k + 1) (by omega) (by omega)]
      have := ior_val (part.take k.toNat) (ix part k) (hpb.take _) (by omega) hx
      rw [hlen] at this
      simp only [this]
      refine ⟨k0, hk, by omega, by trivial, ⟨by omega, by omega, ?_⟩, by omega⟩
      rw [ka part k k0 hk]
    · have hk := of_decide_eq_false hk
      have e1 : part.take k.toNat = part := List.take_of_length_le (by omega)
      rw [e1, h7]
      refine ⟨by trivial, by simp only [List.length_cons, List.length_nil]; omega, by simp only [List.length_cons, List.length_nil]; unfold maxLen; omega, by trivial, ⟨rfl, (?_ : 0 ≤ i + 7 ∧ i + 7 ≤ p0.length + 7 ∧ _ ∧ _)⟩, (?_ : (p0.length + 7 - (i + 7)).toNat < (p0.length + 7 - i).toNat)⟩
      · exact ⟨by omega, by omega, hnext, by simp only [List.length_append, List.length_cons, List.length_nil]; omega⟩
      · omega
  · have h := of_decide_eq_false h
    rw [List.drop_eq_nil_of_le (by omega)] at g2
    have : packN p0.length ([] : List Int) = [] := by cases p0.length <;> rfl
    rw [this, List.append_nil] at g2
    exact g2
noncomputable def ksf : Con TB.den := k1u.fnR (fun x => (fun (p0 : List Int) => By p0 ∧ p0.length ≤ 1099511627776) x.1) fun x => ((fun (p0 : List Int) => (packS p0 : List Int)) x.1, ())
theorem k1c1 : ksf.Ok Try.prog TB := Con.ok_fn k1u bd87 fun x h => k18y (k16y x.1 h)
end Go.Proofs.Ytnmakgfmimagmaa
namespace Go.Proofs.Ytnmakgfmimagmaa
open Go Go.Bv Go.Cv Go.Md Go.RowKit
def kn : Con TB.den := Con.mk0 62 [.one (.d (.int .u64)), .one (.d (.sl (.int .u8)))] [] (.one (.one (.d (.int .u64)))) []
abbrev knj := HL TB.den (hsT kn.ins (hsOs kn.pre))
abbrev kbi := HL TB.den (hsV kn.res (hsOs kn.post))
noncomputable def k7h : Cx TB := ⟨inf, [ksf, ks9], [], 4⟩
noncomputable def kd4 : Code := Try.f62.body.getD .skip
noncomputable def kex : List ResultVar := Try.f62.results.toList
noncomputable def kl8 (o : kbi) : An TB := .no
noncomputable def kcj (x : knj) (o : kbi) : Prop := WPh TB k7h 9 0 kd4 (kl8 o) (kn.st TB x) (retTQ TB k7h kn kex o)
set_option maxRecDepth 100000 in
theorem kw3 (o : kbi) : OblH TB k7h 9 0 kd4 (kl8 o) (retTQ TB k7h kn kex o) :=
  OblH.of_eq (X := (True ∧ (True ∧ True))) (by kernel_rfl) ⟨trivial, ⟨trivial, trivial⟩⟩
set_option maxRecDepth 100000 in
theorem kvo {x : knj} {o : kbi} (h : kcj x o) : SoundH Try.prog kn.f ((kn.args idf x).map (er TB)) ((kn.obs idf x).map (erO TB)) (er TB (kn.val idf o)) ((kn.ops idf o).map (erO TB)) :=
  Con.soundH (c := kn) (C := k7h) TBok ⟨inf_ok, (all_cons k1c1 (all_cons k1ds all_nil)), all_nil⟩ mix Try.func62 (show Try.f62.body = some kd4 by kernel_rfl) (show Try.f62.ntmps = 9 by kernel_rfl) (show Try.f62.results.toList = kex by kernel_rfl) rfl h (kw3 o)
set_option maxRecDepth 100000 in
theorem kze {p0 : Int} {p1 : List Int} {r0 : Int} (h :
((By p1 ∧ p1.length ≤ 1099511627776) ∧ ((18446744069414584321 : Int) = 18446744069414584321 ∧ U64 p0 ∧ Us (packS p1) ∧ (packS p1).length ≤ 1099511627776) ∧ hashS p0 (packS p1) = r0)) : kcj (p0, p1, ()) (r0, ()) := WPh.of_eq (by kernel_rfl) h
theorem bd62 : Callable Try.prog 62 := ⟨by rw [Try.func62]; kernel_rfl, by rw [Try.func62]; show some _ ≠ some _; decide⟩
theorem kul (p0 : Int) (p1 : List Int) (h : U64 p0 ∧ By p1 ∧ p1.length ≤ 1099511627775) : kcj (p0, p1, ()) ((hashB p0 p1 : Int), ()) := by
  obtain ⟨h1, h2, h3⟩ := h
  refine kze ⟨⟨h2, by omega⟩, ⟨rfl, h1, ?_, ?_⟩, rfl⟩
  · intro x hx
    rcases List.mem_cons.1 hx with rfl | hx
    · omega
    · exact k1lx _ _ h2 x hx
  · have := k12l p1.length p1
    simp only [packS, List.length_cons]
    omega
noncomputable def kdy : Con TB.den := kn.fnR (fun x => (fun (p0 : Int) (p1 : List Int) => U64 p0 ∧ By p1 ∧ p1.length ≤ 1099511627775) x.1 x.2.1) fun x => ((fun (p0 : Int) (p1 : List Int) => (hashB p0 p1 : Int)) x.1 x.2.1, ())
theorem kl7 : kdy.Ok Try.prog TB := Con.ok_fn kn bd62 fun x h => kvo (kul x.1 x.2.1 h)
end Go.Proofs.Ytnmakgfmimagmaa
namespace Go.Proofs.Ytnmakgfmimagmaa
open Go Go.Bv Go.Cv Go.Md Go.RowKit
def ki : Con TB.den := Con.mk0 37 [.agg [.d (.int .u64), .d (.int .i64), .d (.int .u64), .d (.int .u64), .d (.int .u64), .d (.sl (.st 1))], .one (.d (.sl (.int .u64)))] [] (.one (.one (.d (.int .u64)))) []
abbrev knr := HL TB.den (hsT ki.ins (hsOs ki.pre))
abbrev k44 := HL TB.den (hsV ki.res (hsOs ki.post))
noncomputable def k3q : Cx TB := ⟨inf, [kj8, kik, kdy], [], 4⟩
noncomputable def k6b : Code := Try.f37.body.getD .skip
noncomputable def k7d : List ResultVar := Try.f37.results.toList
noncomputable def kz7 (o : k44) : Exit → TSt TB.den → Prop := thenT TB (fun s => ghs TB [] s fun s => WP TB k3q 22 0 (cB (cB (cB k6b))) .no s (retTQ TB k3q ki k7d o)) (retTQ TB k3q ki k7d o)
def k52 : Tm := ⟨[], [], [5, 10, 11, 12], [.one (.d (.sl (.int .u8))), .one (.d (.sl (.int .u64))), .one (.d (.int .i64)), .one (.d (.int .i64))], 1⟩
noncomputable def kyv (o : k44) (nx1 : HL TB.den k52.hs → Prop) : Exit → TSt TB.den → Prop := thenT TB (fun s => k52.mat TB 0 s nx1) (blockT TB 0 (kz7 o))
noncomputable def k7g (o : k44) (nx1 : HL TB.den k52.hs → Prop) (i : HL TB.den k52.hs) : Prop := WP TB k3q 22 0 (cA (cA (cB (cA (cB (cB k6b)))))) .no (k52.fill TB i) (kyv o nx1)
noncomputable def kyn (o : k44) : An TB := .lp [] k52 (k7g o) fun nx1 => .no
noncomputable def kzd (o : k44) : An TB := .nd [] .no [] (.nd [] (.nd [] .no [] (kyn o)) [] .no)
noncomputable def kl2 (o : k44) : An TB := .nd [] .no [] (kzd o)
noncomputable def kck (x : knr) (o : k44) : Prop := WPh TB k3q 22 0 k6b (kl2 o) (ki.st TB x) (retTQ TB k3q ki k7d o)
set_option maxRecDepth 100000 in
theorem kvr (o : k44) : OblH TB k3q 22 0 k6b (kl2 o) (retTQ TB k3q ki k7d o) :=
  OblH.of_eq (X := (True ∧ (True ∧ ((True ∧ ((∀ nx i, (k7g o) nx i = (k7g o) nx i) ∧ ∀ nx1 : HL TB.den k52.hs → Prop, (True ∧ ((True ∧ True) ∧ ((True ∧ True) ∧ True))))) ∧ (True ∧ True))))) (by kernel_rfl) ⟨trivial, ⟨trivial, ⟨⟨trivial, ⟨fun _ _ => rfl, fun _ => ⟨trivial, ⟨⟨trivial, trivial⟩, ⟨⟨trivial, trivial⟩, trivial⟩⟩⟩⟩⟩, ⟨trivial, trivial⟩⟩⟩⟩
set_option maxRecDepth 100000 in
theorem kws {x : knr} {o : k44} (h : kck x o) : SoundH Try.prog ki.f ((ki.args idf x).map (er TB)) ((ki.obs idf x).map (erO TB)) (er TB (ki.val idf o)) ((ki.ops idf o).map (erO TB)) :=
  Con.soundH (c := ki) (C := k3q) TBok ⟨inf_ok, (all_cons kst (all_cons kq1 (all_cons kl7 all_nil))), all_nil⟩ mix Try.func37 (show Try.f37.body = some k6b by kernel_rfl) (show Try.f37.ntmps = 22 by kernel_rfl) (show Try.f37.results.toList = k7d by kernel_rfl) rfl h (kvr o)
set_option maxRecDepth 100000 in
theorem kz6 {p0 : TBlock} {p1 : List Int} {r0 : Int} (h :
((BR p0 ∧ p0.Txs.length ≤ 64) ∧ Md.Loop ((hdrS p0 : List Int), p1, ((p1.length : Int) : Int), (0 : Int), ()) (k7g (r0, ())))) : kck (p0.Parent, p0.Height, p0.Miner, p0.Work, p0.Nonce, p0.Txs, p1, ()) (r0, ()) := WPh.of_eq (by kernel_rfl) h
def kl9 (r0 : Int) (k1 : List Int → Int → Prop) (s10 : List Int) (s11 : Int) (s5 : List Int) (s12 : Int) : Prop :=
(decide (s12 < s11) = true →
(0 ≤ s12) ∧ s12 < (s10.length : Int) ∧ (U64 (ix s10 s12) ∧ s5.length ≤ 137438953472) ∧ k1 (s5 ++ dig 8 (ix s10 s12) : List Int) (IntKind.i64.wrap (s12 + 1) : Int)) ∧
(decide (s12 < s11) = false →
(U64 (15 : Int) ∧ By s5 ∧ s5.length ≤ 1099511627775) ∧ hashB (15 : Int) s5 = r0)
set_option maxRecDepth 100000 in
theorem kvn {r0 : Int} {s10 : List Int} {s11 : Int} {s5 : List Int} {s12 : Int} (inv : List Int → Int → Prop) (μ : List Int → Int → Nat) (h0 : inv s5 s12) (hs : ∀ (s5 : List Int) (s12 : Int), inv s5 s12 → kl9 r0 (fun s5q s12q => inv s5q s12q ∧ μ s5q s12q < μ s5 s12) s10 s11 s5 s12) : Md.Loop (s5, s10, s11, s12, ()) (k7g (r0, ())) :=
  ⟨⟨fun s : (List Int) × (List Int) × Int × Int × Unit => (s.2.1 = s10 ∧ s.2.2.1 = s11) ∧ inv s.1 s.2.2.2.1, fun s : (List Int) × (List Int) × Int × Int × Unit => μ s.1 s.2.2.2.1, ⟨⟨rfl, rfl⟩, h0⟩, fun (s5p, s10p, s11p, s12p, ()) ⟨⟨eq0, eq1⟩, hi⟩ => by
    have eq0 : s10p = s10 := eq0; subst s10p; have eq1 : s11p = s11 := eq1; subst s11p; exact mpr_of (by kernel_rfl) ((congrArg (fun k => kl9 r0 k s10 s11 s5p s12p) (lpk2 (⟨rfl, rfl⟩ : s10 = s10 ∧ s11 = s11) inv (fun s5q s12q => μ s5q s12q < μ s5p s12p))).mpr (hs s5p s12p hi))⟩⟩
theorem bd37 : Callable Try.prog 37 := ⟨by rw [Try.func37]; kernel_rfl, by rw [Try.func37]; show some _ ≠ some _; decide⟩
theorem kv7 (p0 : TBlock) (p1 : List Int) (h : BR p0 ∧ p0.Txs.length ≤ 64 ∧ Us p1 ∧ p1.length ≤ 64) : kck (p0.Parent, p0.Height, p0.Miner, p0.Work, p0.Nonce, p0.Txs, p1, ()) ((hashB 15 (hdrS p0 ++ p1.flatMap (dig 8)) : Int), ()) := by
  obtain ⟨hr, hl, hu, hul⟩ := h
  refine kz6 ⟨⟨hr, hl⟩, kvn (fun l i => 0 ≤ i ∧ i ≤ p1.length ∧ l = hdrS p0 ++ (p1.take i.toNat).flatMap (dig 8)) (fun _ i => (p1.length - i).toNat) ⟨by omega, by omega, by simp⟩ ?_⟩
  rintro l i ⟨g0, g1, rfl⟩
  have hle : (hdrS p0 ++ (p1.take i.toNat).flatMap (dig 8)).length ≤ 1000 := by
    rw [List.length_append, kn1, k87, List.length_take]
    omega
  refine ⟨fun hh => ?_, fun hh => ?_⟩
  · have hh := of_decide_eq_true hh
    have hm := ix_mem p1 i g0 hh
    rw [inc i p1.length g0 hh (by omega)]
    refine ⟨g0, hh, ⟨hu _ hm, by omega⟩, ⟨by omega, by omega, ?_⟩, by omega⟩
    rw [ka p1 i g0 hh, List.flatMap_append, List.append_assoc]
    simp
  · have hh := of_decide_eq_false hh
    rw [List.take_of_length_le (by omega)] at hle ⊢
    exact ⟨⟨by omega, (hdrS_by p0).append (k1m7 p1), by omega⟩, rfl⟩
noncomputable def kkg : Con TB.den := ki.fnR (fun x => (fun (p0 : TBlock) (p1 : List Int) => BR p0 ∧ p0.Txs.length ≤ 64 ∧ Us p1 ∧ p1.length ≤ 64) (TBlock.mk x.1 x.2.1 x.2.2.1 x.2.2.2.1 x.2.2.2.2.1 x.2.2.2.2.2.1) x.2.2.2.2.2.2.1) fun x => ((fun (p0 : TBlock) (p1 : List Int) => (hashB 15 (hdrS p0 ++ p1.flatMap (dig 8)) : Int)) (TBlock.mk x.1 x.2.1 x.2.2.1 x.2.2.2.1 x.2.2.2.2.1 x.2.2.2.2.2.1) x.2.2.2.2.2.2.1, ())
theorem kzg : kkg.Ok Try.prog TB := Con.ok_fn ki bd37 fun x h => kws (kv7 (TBlock.mk x.1 x.2.1 x.2.2.1 x.2.2.2.1 x.2.2.2.2.1 x.2.2.2.2.2.1) x.2.2.2.2.2.2.1 h)
end Go.Proofs.Ytnmakgfmimagmaa
namespace Go.Proofs.Ytnmakgfmimagmaa
open Go Go.Bv Go.Cv Go.Md Go.RowKit
def k64 : Con TB.den := Con.mk0 63 [.agg [.d (.int .u64), .d (.sl (.int .u64)), .d (.sl (.st 0)), .d (.int .u64), .d (.int .u64), .d (.int .u64), .d (.int .u64), .d (.int .u64), .d (.int .i64), .d (.sl (.int .u8))]] [] (.one (.one (.d (.int .u64)))) []
abbrev tx_ID_I := HL TB.den (hsT k64.ins (hsOs k64.pre))
abbrev tx_ID_O := HL TB.den (hsV k64.res (hsOs k64.post))
noncomputable def kqz : Cx TB := ⟨inf, [kit, kdy], [], 4⟩
noncomputable def kwk : Code := Try.f63.body.getD .skip
noncomputable def k176 : List ResultVar := Try.f63.results.toList
noncomputable def k1im (o : tx_ID_O) : An TB := .no
noncomputable def kwr (x : tx_ID_I) (o : tx_ID_O) : Prop := WPh TB kqz 14 0 kwk (k1im o) (k64.st TB x) (retTQ TB kqz k64 k176 o)
set_option maxRecDepth 100000 in
theorem k1o2 (o : tx_ID_O) : OblH TB kqz 14 0 kwk (k1im o) (retTQ TB kqz k64 k176 o) :=
  OblH.of_eq (X := (True ∧ (True ∧ ((True ∧ ((True ∧ True) ∧ True)) ∧ (True ∧ True))))) (by kernel_rfl) ⟨trivial, ⟨trivial, ⟨⟨trivial, ⟨⟨trivial, trivial⟩, trivial⟩⟩, ⟨trivial, trivial⟩⟩⟩⟩
set_option maxRecDepth 100000 in
theorem k1o1 {x : tx_ID_I} {o : tx_ID_O} (h : kwr x o) : SoundH Try.prog k64.f ((k64.args idf x).map (er TB)) ((k64.obs idf x).map (erO TB)) (er TB (k64.val idf o)) ((k64.ops idf o).map (erO TB)) :=
  Con.soundH (c := k64) (C := kqz) TBok ⟨inf_ok, (all_cons kps (all_cons kl7 all_nil)), all_nil⟩ mix Try.func63 (show Try.f63.body = some kwk by kernel_rfl) (show Try.f63.ntmps = 14 by kernel_rfl) (show Try.f63.results.toList = k176 by kernel_rfl) rfl h (k1o2 o)
set_option maxRecDepth 100000 in
theorem k1q0 {p0 : TTx} {r0 : Int} (h :
((TR p0) ∧ let r1 : List Int := (if validE p0 = 0 then encT p0 p0.Proof else [])
(((validE p0) != 0) = true →
 0 = r0) ∧
(((validE p0) != 0) = false →
(U64 (14 : Int) ∧ By r1 ∧ r1.length ≤ 1099511627775) ∧ hashB (14 : Int) r1 = r0))) : kwr (p0.Anchor, p0.Marks, p0.Outs, p0.Deposit, p0.Withdraw, p0.Fee, p0.Account, p0.Nonce, p0.Expiry, p0.Proof, ()) (r0, ()) := WPh.of_eq (by kernel_rfl) h
theorem bd63 : Callable Try.prog 63 := ⟨by rw [Try.func63]; kernel_rfl, by rw [Try.func63]; show some _ ≠ some _; decide⟩
theorem k1nw (p0 : TTx) (h : TR p0) : kwr (p0.Anchor, p0.Marks, p0.Outs, p0.Deposit, p0.Withdraw, p0.Fee, p0.Account, p0.Nonce, p0.Expiry, p0.Proof, ()) ((idS p0 : Int), ()) := by
  refine k1q0 ⟨h, ?_⟩
  unfold idS
  refine ⟨fun e => ?_, fun e => ?_⟩
  · have e : validE p0 ≠ 0 := by simpa using e
    rw [if_neg e]
  · have e : validE p0 = 0 := by simpa using e
    have v := (k3t p0).1 e
    rw [if_pos e, if_pos e]
    exact ⟨⟨by omega, encT_by h.p, by have := v.enc_len p0.Proof; have := v.pl; omega⟩, rfl⟩
noncomputable def k1ee : Con TB.den := k64.fnR (fun x => (fun (p0 : TTx) => TR p0) (TTx.mk x.1 x.2.1 x.2.2.1 x.2.2.2.1 x.2.2.2.2.1 x.2.2.2.2.2.1 x.2.2.2.2.2.2.1 x.2.2.2.2.2.2.2.1 x.2.2.2.2.2.2.2.2.1 x.2.2.2.2.2.2.2.2.2.1)) fun x => ((fun (p0 : TTx) => (idS p0 : Int)) (TTx.mk x.1 x.2.1 x.2.2.1 x.2.2.2.1 x.2.2.2.2.1 x.2.2.2.2.2.1 x.2.2.2.2.2.2.1 x.2.2.2.2.2.2.2.1 x.2.2.2.2.2.2.2.2.1 x.2.2.2.2.2.2.2.2.2.1), ())
theorem k1pa : k1ee.Ok Try.prog TB := Con.ok_fn k64 bd63 fun x h => k1o1 (k1nw (TTx.mk x.1 x.2.1 x.2.2.1 x.2.2.2.1 x.2.2.2.2.1 x.2.2.2.2.2.1 x.2.2.2.2.2.2.1 x.2.2.2.2.2.2.2.1 x.2.2.2.2.2.2.2.2.1 x.2.2.2.2.2.2.2.2.2.1) h)
end Go.Proofs.Ytnmakgfmimagmaa
namespace Go.Proofs.Ytnmakgfmimagmaa
open Go Go.Bv Go.Cv Go.Md Go.RowKit
def kf : Con TB.den := Con.mk0 38 [.agg [.d (.int .u64), .d (.int .i64), .d (.int .u64), .d (.int .u64), .d (.int .u64), .d (.sl (.st 1))]] [] (.one (.one (.d (.sl (.int .u64))))) []
abbrev kl0 := HL TB.den (hsT kf.ins (hsOs kf.pre))
abbrev k3p := HL TB.den (hsV kf.res (hsOs kf.post))
noncomputable def k36 : Cx TB := ⟨inf, [k1ee], [], 4⟩
noncomputable def k5s : Code := Try.f38.body.getD .skip
noncomputable def k6q : List ResultVar := Try.f38.results.toList
noncomputable def kvx (o : k3p) : Exit → TSt TB.den → Prop := thenT TB (fun s => ghs TB [] s fun s => WP TB k36 24 0 (cB (cB (cB k5s))) .no s (retTQ TB k36 kf k6q o)) (retTQ TB k36 kf k6q o)
def k4n : Tm := ⟨[2], [.tip (.int .u64)], [3, 11, 12, 13], [.one (.own 0), .one (.d (.sl (.st 1))), .one (.d (.int .i64)), .one (.d (.int .i64))], 3⟩
noncomputable def kvl (o : k3p) (nx1 : HL TB.den k4n.hs → Prop) : Exit → TSt TB.den → Prop := thenT TB (fun s => k4n.mat TB 0 s nx1) (blockT TB 0 (kvx o))
noncomputable def k78 (o : k3p) (nx1 : HL TB.den k4n.hs → Prop) (i : HL TB.den k4n.hs) : Prop := WP TB k36 24 0 (cA (cA (cB (cA (cB (cB k5s)))))) .no (k4n.fill TB i) (kvl o nx1)
noncomputable def kwh (o : k3p) : An TB := .lp [.frz 1 [3]] k4n (k78 o) fun nx1 => .no
noncomputable def kw7 (o : k3p) : An TB := .nd [] .no [] (.nd [] (.nd [] .no [] (kwh o)) [] .no)
noncomputable def kkp (o : k3p) : An TB := .nd [] .no [] (kw7 o)
noncomputable def kbv (x : kl0) (o : k3p) : Prop := WPh TB k36 24 0 k5s (kkp o) (kf.st TB x) (retTQ TB k36 kf k6q o)
set_option maxRecDepth 100000 in
theorem kvi (o : k3p) : OblH TB k36 24 0 k5s (kkp o) (retTQ TB k36 kf k6q o) :=
  OblH.of_eq (X := (True ∧ (True ∧ ((True ∧ ((∀ nx i, (k78 o) nx i = (k78 o) nx i) ∧ ∀ nx1 : HL TB.den k4n.hs → Prop, (True ∧ ((True ∧ True) ∧ ((True ∧ True) ∧ True))))) ∧ (True ∧ True))))) (by kernel_rfl) ⟨trivial, ⟨trivial, ⟨⟨trivial, ⟨fun _ _ => rfl, fun _ => ⟨trivial, ⟨⟨trivial, trivial⟩, ⟨⟨trivial, trivial⟩, trivial⟩⟩⟩⟩⟩, ⟨trivial, trivial⟩⟩⟩⟩
set_option maxRecDepth 100000 in
theorem kvj {x : kl0} {o : k3p} (h : kbv x o) : SoundH Try.prog kf.f ((kf.args idf x).map (er TB)) ((kf.obs idf x).map (erO TB)) (er TB (kf.val idf o)) ((kf.ops idf o).map (erO TB)) :=
  Con.soundH (c := kf) (C := k36) TBok ⟨inf_ok, (all_cons k1pa all_nil), all_nil⟩ mix Try.func38 (show Try.f38.body = some k5s by kernel_rfl) (show Try.f38.ntmps = 24 by kernel_rfl) (show Try.f38.results.toList = k6q by kernel_rfl) rfl h (kvi o)
set_option maxRecDepth 100000 in
theorem kwa {p0 : TBlock} {r0 : List Int} (h :
(0 ≤ (0 : Int) ∧ (0 : Int) ≤ (p0.Txs.length : Int) ∧ ((p0.Txs.length : Int).toNat * 8 ≤ 140737488355328) ∧ ((p0.Txs.length : Int).toNat ≤ maxLen) ∧ (0 = (List.replicate 0 (0 : Int)).length) ∧ (List.replicate 0 (0 : Int) = List.replicate 0 (0 : Int)) ∧ Md.Loop (p0.Txs, ((p0.Txs.length : Int) : Int), (0 : Int), (List.replicate 0 (0 : Int) : List Int), ()) (k78 (r0, ())))) : kbv (p0.Parent, p0.Height, p0.Miner, p0.Work, p0.Nonce, p0.Txs, ()) (r0, ()) := WPh.of_eq (by kernel_rfl) h
def kks (r0 : List Int) (k1 : Int → List Int → Prop) (s11 : List TTx) (s12 : Int) (s13 : Int) (g2 : List Int) : Prop :=
(decide (s13 < s12) = true →
(0 ≤ s13) ∧ s13 < (s11.length : Int) ∧ (TR (ix s11 s13)) ∧ g2.length = g2.length ∧ (g2.length + [idS (ix s11 s13)].length) * 8 ≤ 140737488355328 ∧ g2.length + [idS (ix s11 s13)].length ≤ maxLen ∧ (g2 ++ [idS (ix s11 s13)] = g2 ++ [idS (ix s11 s13)]) ∧ k1 (IntKind.i64.wrap (s13 + 1) : Int) (g2 ++ [idS (ix s11 s13)] : List Int)) ∧
(decide (s13 < s12) = false →
 g2 = r0)
set_option maxRecDepth 100000 in
theorem ktk {r0 : List Int} {s11 : List TTx} {s12 : Int} {s13 : Int} {g2 : List Int} (inv : Int → List Int → Prop) (μ : Int → List Int → Nat) (h0 : inv s13 g2) (hs : ∀ (s13 : Int) (g2 : List Int), inv s13 g2 → kks r0 (fun s13q g2q => inv s13q g2q ∧ μ s13q g2q < μ s13 g2) s11 s12 s13 g2) : Md.Loop (s11, s12, s13, g2, ()) (k78 (r0, ())) :=
  ⟨⟨fun s : (List TTx) × Int × Int × (List Int) × Unit => (s.1 = s11 ∧ s.2.1 = s12) ∧ inv s.2.2.1 s.2.2.2.1, fun s : (List TTx) × Int × Int × (List Int) × Unit => μ s.2.2.1 s.2.2.2.1, ⟨⟨rfl, rfl⟩, h0⟩, fun (s11p, s12p, s13p, g2p, ()) ⟨⟨eq0, eq1⟩, hi⟩ => by
    have eq0 : s11p = s11 := eq0; subst s11p; have eq1 : s12p = s12 := eq1; subst s12p; exact mpr_of (by kernel_rfl) ((congrArg (fun k => kks r0 k s11 s12 s13p g2p) (lpk2 (⟨rfl, rfl⟩ : s11 = s11 ∧ s12 = s12) inv (fun s13q g2q => μ s13q g2q < μ s13p g2p))).mpr (hs s13p g2p hi))⟩⟩
theorem bd38 : Callable Try.prog 38 := ⟨by rw [Try.func38]; kernel_rfl, by rw [Try.func38]; show some _ ≠ some _; decide⟩
theorem ksv (p0 : TBlock) (h : (∀ x ∈ p0.Txs, TR x) ∧ p0.Txs.length ≤ 64) : kbv (p0.Parent, p0.Height, p0.Miner, p0.Work, p0.Nonce, p0.Txs, ()) ((p0.Txs.map idS : List Int), ()) := by
  obtain ⟨hr, hl⟩ := h
  refine kwa ⟨by omega, by omega, by omega, by unfold maxLen; omega, by simp, rfl, ?_⟩
  refine ktk (fun i g => 0 ≤ i ∧ i ≤ p0.Txs.length ∧ g = (p0.Txs.take i.toNat).map idS) (fun i _ => (p0.Txs.length - i).toNat) ⟨by omega, by omega, by simp⟩ ?_
  rintro i g ⟨g0, g1, rfl⟩
  refine ⟨fun hh => ?_, fun hh => ?_⟩
  · have hh := of_decide_eq_true hh
    have hm := ix_mem p0.Txs i g0 hh
    rw [inc i p0.Txs.length g0 hh (by omega)]
    refine ⟨g0, hh, hr _ hm, rfl, by simp; omega, by simp; unfold maxLen; omega, rfl, ⟨by omega, by omega, ?_⟩, by omega⟩
    rw [ka p0.Txs i g0 hh]
    simp
  · have hh := of_decide_eq_false hh
    rw [List.take_of_length_le (by omega)]
noncomputable def kju : Con TB.den := kf.fnR (fun x => (fun (p0 : TBlock) => (∀ x ∈ p0.Txs, TR x) ∧ p0.Txs.length ≤ 64) (TBlock.mk x.1 x.2.1 x.2.2.1 x.2.2.2.1 x.2.2.2.2.1 x.2.2.2.2.2.1)) fun x => ((fun (p0 : TBlock) => (p0.Txs.map idS : List Int)) (TBlock.mk x.1 x.2.1 x.2.2.1 x.2.2.2.1 x.2.2.2.2.1 x.2.2.2.2.2.1), ())
theorem kwn : kju.Ok Try.prog TB := Con.ok_fn kf bd38 fun x h => kvj (ksv (TBlock.mk x.1 x.2.1 x.2.2.1 x.2.2.2.1 x.2.2.2.2.1 x.2.2.2.2.2.1) h)
end Go.Proofs.Ytnmakgfmimagmaa
namespace Go.Proofs.Ytnmakgfmimagmaa
open Go Go.Bv Go.Cv Go.Md Go.RowKit
def k1j : Con TB.den := Con.mk0 22 [.agg [.d (.int .u64), .d (.int .i64), .d (.int .u64), .d (.int .u64), .d (.int .u64), .d (.sl (.st 1))], .one (.d (.int .i64))] [] (.tup [.agg [.d (.int .u64), .d (.int .i64), .d (.int .u64), .d (.int .u64), .d (.int .u64), .d (.sl (.st 1))], .one (.d (.bool))]) []
abbrev k110 := HL TB.den (hsT k1j.ins (hsOs k1j.pre))
abbrev k4q := HL TB.den (hsV k1j.res (hsOs k1j.post))
noncomputable def k3w : Cx TB := ⟨inf, [kf3, kju, kkg, krh], [], 4⟩
noncomputable def k6h : Code := Try.f22.body.getD .skip
noncomputable def k8s : List ResultVar := Try.f22.results.toList
noncomputable def k1gh (o : k4q) : Exit → TSt TB.den → Prop := thenT TB (fun s => ghs TB [] s fun s => WP TB k3w 38 0 (cB (cB (cB (cB k6h)))) .no s (retTQ TB k3w k1j k8s o)) (retTQ TB k3w k1j k8s o)
def k8z : Tm := ⟨[0, 1], [.cells [.d (.int .u64), .d (.int .i64), .d (.int .u64), .d (.int .u64), .d (.int .u64), .d (.sl (.st 1))], .cells [.d (.int .u64), .d (.int .i64), .d (.int .u64), .d (.int .u64), .d (.int .u64), .full (.st 1)]], [1, 2, 4, 6], [.one (.d (.int .i64)), .one (.ptr 0 0), .one (.ptr 1 0), .one (.d (.sl (.int .u64)))], 2⟩
noncomputable def k1g6 (o : k4q) (nx1 : HL TB.den k8z.hs → Prop) : Exit → TSt TB.den → Prop := thenT TB (fun s => k8z.mat TB 0 s nx1) (blockT TB 0 (k1gh o))
noncomputable def ked (o : k4q) (nx1 : HL TB.den k8z.hs → Prop) (i : HL TB.den k8z.hs) : Prop := WP TB k3w 38 0 (cA (cA (cA (cB (cB (cB k6h)))))) .no (k8z.fill TB i) (k1g6 o nx1)
noncomputable def kwy (o : k4q) : An TB := .nd [] (.lp [] k8z (ked o) fun nx1 => .no) [] .no
noncomputable def k1i2 (o : k4q) : Exit → TSt TB.den → Prop := thenT TB (fun s => ghs TB [] s fun s => WP TB k3w 38 0 (cB (cB k6h)) (.nd [] .no [] (kwy o)) s (retTQ TB k3w k1j k8s o)) (retTQ TB k3w k1j k8s o)
def kh8 : Tm := ⟨[0, 1], [.cells [.d (.int .u64), .d (.int .i64), .d (.int .u64), .d (.int .u64), .d (.int .u64), .d (.sl (.st 1))], .cells [.d (.int .u64), .d (.int .i64), .d (.int .u64), .d (.int .u64), .d (.int .u64), .full (.st 1)]], [1, 2, 4, 13], [.one (.d (.int .i64)), .one (.ptr 0 0), .one (.ptr 1 0), .one (.d (.bool))], 2⟩
noncomputable def kum (o : k4q) (i : HL TB.den kh8.hs) : Prop := ghs TB [] (kh8.fill TB i) fun s => WP TB k3w 38 0 (cB (cA (cB k6h))) .no s (k1i2 o)
structure kat (o : k4q) (i : HL TB.den kh8.hs) : Prop where
  h : kum o i
noncomputable def k1bi (o : k4q) : An TB := .nd [] (.jn kh8 (kat o) [] .no [] .no) [] (.nd [] .no [] (kwy o))
noncomputable def kxq (o : k4q) : An TB := .nd [] .no [] (k1bi o)
noncomputable def kkl (x : k110) (o : k4q) : Prop := WPh TB k3w 38 0 k6h (kxq o) (k1j.st TB x) (retTQ TB k3w k1j k8s o)
set_option maxRecDepth 100000 in
theorem k1bt (o : k4q) : OblH TB k3w 38 0 k6h (kxq o) (retTQ TB k3w k1j k8s o) :=
  OblH.of_eq (X := (True ∧ ((True ∧ (∀ i, (kat o) i = (kum o) i) ∧ ((True ∧ True) ∧ True)) ∧ (True ∧ (((∀ nx i, (ked o) nx i = (ked o) nx i) ∧ ∀ nx1 : HL TB.den k8z.hs → Prop, ((True ∧ (True ∧ True)) ∧ (((True ∧ ((True ∧ True) ∧ True)) ∧ ((True ∧ (True ∧ True)) ∧ True)) ∧ True))) ∧ (True ∧ True)))))) (by kernel_rfl) ⟨trivial, ⟨⟨trivial, fun _ => propext ⟨fun h => h.1, fun h => ⟨h⟩⟩, ⟨⟨trivial, trivial⟩, trivial⟩⟩, ⟨trivial, ⟨⟨fun _ _ => rfl, fun _ => ⟨⟨trivial, ⟨trivial, trivial⟩⟩, ⟨⟨⟨trivial, ⟨⟨trivial, trivial⟩, trivial⟩⟩, ⟨⟨trivial, ⟨trivial, trivial⟩⟩, trivial⟩⟩, trivial⟩⟩⟩, ⟨trivial, trivial⟩⟩⟩⟩⟩
set_option maxRecDepth 100000 in
theorem k1b8 {x : k110} {o : k4q} (h : kkl x o) : SoundH Try.prog k1j.f ((k1j.args idf x).map (er TB)) ((k1j.obs idf x).map (erO TB)) (er TB (k1j.val idf o)) ((k1j.ops idf o).map (erO TB)) :=
  Con.soundH (c := k1j) (C := k3w) TBok ⟨inf_ok, (all_cons klv (all_cons kwn (all_cons kzg (all_cons k1b9 all_nil)))), all_nil⟩ mix Try.func22 (show Try.f22.body = some k6h by kernel_rfl) (show Try.f22.ntmps = 38 by kernel_rfl) (show Try.f22.results.toList = k8s by kernel_rfl) rfl h (k1bt o)
set_option maxRecDepth 100000 in
theorem k1hz {p0 : TBlock} {p1 : Int} {r0 : TBlock} {r1 : Bool} (h :
((decide (p1 ≤ 0) = true →
 kat (r0.Parent, r0.Height, r0.Miner, r0.Work, r0.Nonce, r0.Txs, r1, ()) (p1, true, p0.Parent, p0.Height, p0.Miner, p0.Work, p0.Nonce, p0.Txs, (0 : Int), (0 : Int), (0 : Int), (0 : Int), (0 : Int), (([] : List TTx) : List TTx), ())) ∧
(decide (p1 ≤ 0) = false →
(∀ x ∈ p0.Txs, TR x) ∧ kat (r0.Parent, r0.Height, r0.Miner, r0.Work, r0.Nonce, r0.Txs, r1, ()) (p1, (((validB p0) != 0) : Bool), p0.Parent, p0.Height, p0.Miner, p0.Work, p0.Nonce, p0.Txs, (0 : Int), (0 : Int), (0 : Int), (0 : Int), (0 : Int), (([] : List TTx) : List TTx), ())))) : kkl (p0.Parent, p0.Height, p0.Miner, p0.Work, p0.Nonce, p0.Txs, p1, ()) (r0.Parent, r0.Height, r0.Miner, r0.Work, r0.Nonce, r0.Txs, r1, ()) := WPh.of_eq (by kernel_rfl) h
set_option maxRecDepth 100000 in
theorem k15c {r0 : TBlock} {r1 : Bool} {s1 : Int} {s13 : Bool} {h0_0 : Int} {h0_1 : Int} {h0_2 : Int} {h0_3 : Int} {h0_4 : Int} {h0_5 : List TTx} {h1_0 : Int} {h1_1 : Int} {h1_2 : Int} {h1_3 : Int} {h1_4 : Int} {h1_5 : List TTx} (h :
((s13 = true →
 0 = r0.Parent ∧ 0 = r0.Height ∧ 0 = r0.Miner ∧ 0 = r0.Work ∧ 0 = r0.Nonce ∧ ([] : List TTx) = r0.Txs ∧ false = r1) ∧
(s13 = false →
((∀ x ∈ (TBlock.mk h0_0 h0_1 h0_2 h0_3 h0_4 h0_5).Txs, TR x) ∧ (TBlock.mk h0_0 h0_1 h0_2 h0_3 h0_4 h0_5).Txs.length ≤ 64) ∧ let r2 : List Int := (TBlock.mk h0_0 h0_1 h0_2 h0_3 h0_4 h0_5).Txs.map idS
 Md.Loop (s1, r2, h0_0, h0_1, h0_2, h0_3, h0_4, h0_5, h1_0, h1_1, h1_2, h1_3, h1_4, h1_5, ()) (ked (r0.Parent, r0.Height, r0.Miner, r0.Work, r0.Nonce, r0.Txs, r1, ()))))) : kat (r0.Parent, r0.Height, r0.Miner, r0.Work, r0.Nonce, r0.Txs, r1, ()) (s1, s13, h0_0, h0_1, h0_2, h0_3, h0_4, h0_5, h1_0, h1_1, h1_2, h1_3, h1_4, h1_5, ()) := ⟨mpr_of (by kernel_rfl) h⟩
def ky3 (r0 : TBlock) (r1 : Bool) (k1 : Int → Int → Prop) (s6 : List Int) (h0_0 : Int) (h0_1 : Int) (h0_2 : Int) (h0_3 : Int) (h0_5 : List TTx) (h1_0 : Int) (h1_1 : Int) (h1_2 : Int) (h1_3 : Int) (h1_4 : Int) (h1_5 : List TTx) (s1 : Int) (h0_4 : Int) : Prop :=
(decide (0 < s1) = true →
(BR (TBlock.mk h0_0 h0_1 h0_2 h0_3 h0_4 h0_5) ∧ (TBlock.mk h0_0 h0_1 h0_2 h0_3 h0_4 h0_5).Txs.length ≤ 64 ∧ Us s6 ∧ s6.length ≤ 64) ∧ let r3 : Int := hashB 15 (hdrS (TBlock.mk h0_0 h0_1 h0_2 h0_3 h0_4 h0_5) ++ s6.flatMap (dig 8))
(h0_3 ≠ 0) ∧ (((Int.tmod r3 h0_3) == 0) = true →
((TBlock.mk h0_0 h0_1 h0_2 h0_3 h0_4 h0_5).Txs = []) ∧ h0_0 = r0.Parent ∧ h0_1 = r0.Height ∧ h0_2 = r0.Miner ∧ h0_3 = r0.Work ∧ h0_4 = r0.Nonce ∧ h0_5 = r0.Txs ∧ true = r1) ∧
(((Int.tmod r3 h0_3) == 0) = false →
((h0_4 == 18446744073709551615) = true →
 0 = r0.Parent ∧ 0 = r0.Height ∧ 0 = r0.Miner ∧ 0 = r0.Work ∧ 0 = r0.Nonce ∧ ([] : List TTx) = r0.Txs ∧ false = r1) ∧
((h0_4 == 18446744073709551615) = false →
 k1 (IntKind.i64.wrap (s1 - 1) : Int) (IntKind.u64.wrap (h0_4 + 1) : Int)))) ∧
(decide (0 < s1) = false →
 0 = r0.Parent ∧ 0 = r0.Height ∧ 0 = r0.Miner ∧ 0 = r0.Work ∧ 0 = r0.Nonce ∧ ([] : List TTx) = r0.Txs ∧ false = r1)
set_option maxRecDepth 100000 in
theorem k1b5 {r0 : TBlock} {r1 : Bool} {s6 : List Int} {h0_0 : Int} {h0_1 : Int} {h0_2 : Int} {h0_3 : Int} {h0_5 : List TTx} {h1_0 : Int} {h1_1 : Int} {h1_2 : Int} {h1_3 : Int} {h1_4 : Int} {h1_5 : List TTx} {s1 : Int} {h0_4 : Int} (inv : Int → Int → Prop) (μ : Int → Int → Nat) (h0 : inv s1 h0_4) (hs : ∀ (s1 : Int) (h0_4 : Int), inv s1 h0_4 → ky3 r0 r1 (fun s1q h0_4q => inv s1q h0_4q ∧ μ s1q h0_4q < μ s1 h0_4) s6 h0_0 h0_1 h0_2 h0_3 h0_5 h1_0 h1_1 h1_2 h1_3 h1_4 h1_5 s1 h0_4) : Md.Loop (s1, s6, h0_0, h0_1, h0_2, h0_3, h0_4, h0_5, h1_0, h1_1, h1_2, h1_3, h1_4, h1_5, ()) (ked (r0.Parent, r0.Height, r0.Miner, r0.Work, r0.Nonce, r0.Txs, r1, ())) :=
  ⟨⟨fun s : Int × (List Int) × Int × Int × Int × Int × Int × (List TTx) × Int × Int × Int × Int × Int × (List TTx) × Unit => (s.2.1 = s6 ∧ s.2.2.1 = h0_0 ∧ s.2.2.2.1 = h0_1 ∧ s.2.2.2.2.1 = h0_2 ∧ s.2.2.2.2.2.1 = h0_3 ∧ s.2.2.2.2.2.2.2.1 = h0_5 ∧ s.2.2.2.2.2.2.2.2.1 = h1_0 ∧ s.2.2.2.2.2.2.2.2.2.1 = h1_1 ∧ s.2.2.2.2.2.2.2.2.2.2.1 = h1_2 ∧ s.2.2.2.2.2.2.2.2.2.2.2.1 = h1_3 ∧ s.2.2.2.2.2.2.2.2.2.2.2.2.1 = h1_4 ∧ s.2.2.2.2.2.2.2.2.2.2.2.2.2.1 = h1_5) ∧ inv s.1 s.2.2.2.2.2.2.1, fun s : Int × (List Int) × Int × Int × Int × Int × Int × (List TTx) × Int × Int × Int × Int × Int × (List TTx) × Unit => μ s.1 s.2.2.2.2.2.2.1, ⟨⟨rfl, rfl, rfl, rfl, rfl, rfl, rfl, rfl, rfl, rfl, rfl, rfl⟩, h0⟩, fun (s1p, s6p, h0_0p, h0_1p, h0_2p, h0_3p, h0_4p, h0_5p, h1_0p, h1_1p, h1_2p, h1_3p, h1_4p, h1_5p, ()) ⟨⟨eq0, eq1, eq2, eq3, eq4, eq5, eq6, eq7, eq8, eq9, eq10, eq11⟩, hi⟩ => by
    have eq0 : s6p = s6 := eq0; subst s6p; have eq1 : h0_0p = h0_0 := eq1; subst h0_0p; have eq2 : h0_1p = h0_1 := eq2; subst h0_1p; have eq3 : h0_2p = h0_2 := eq3; subst h0_2p; have eq4 : h0_3p = h0_3 := eq4; subst h0_3p; have eq5 : h0_5p = h0_5 := eq5; subst h0_5p; have eq6 : h1_0p = h1_0 := eq6; subst h1_0p; have eq7 : h1_1p = h1_1 := eq7; subst h1_1p; have eq8 : h1_2p = h1_2 := eq8; subst h1_2p; have eq9 : h1_3p = h1_3 := eq9; subst h1_3p; have eq10 : h1_4p = h1_4 := eq10; subst h1_4p; have eq11 : h1_5p = h1_5 := eq11; subst h1_5p; exact mpr_of (by kernel_rfl) ((congrArg (fun k => ky3 r0 r1 k s6 h0_0 h0_1 h0_2 h0_3 h0_5 h1_0 h1_1 h1_2 h1_3 h1_4 h1_5 s1p h0_4p) (lpk2 (⟨rfl, rfl, rfl, rfl, rfl, rfl, rfl, rfl, rfl, rfl, rfl, rfl⟩ : s6 = s6 ∧ h0_0 = h0_0 ∧ h0_1 = h0_1 ∧ h0_2 = h0_2 ∧ h0_3 = h0_3 ∧ h0_5 = h0_5 ∧ h1_0 = h1_0 ∧ h1_1 = h1_1 ∧ h1_2 = h1_2 ∧ h1_3 = h1_3 ∧ h1_4 = h1_4 ∧ h1_5 = h1_5) inv (fun s1q h0_4q => μ s1q h0_4q < μ s1p h0_4p))).mpr (hs s1p h0_4p hi))⟩⟩
theorem bd22 : Callable Try.prog 22 := ⟨by rw [Try.func22]; kernel_rfl, by rw [Try.func22]; show some _ ≠ some _; decide⟩
theorem k1al (p0 : TBlock) (p1 : Int) (h : BR p0 ∧ p0.Txs = [] ∧ p1 ≤ 9223372036854775807) : kkl (p0.Parent, p0.Height, p0.Miner, p0.Work, p0.Nonce, p0.Txs, p1, ()) ((((mineS p0 p1).b).Parent : Int), (((mineS p0 p1).b).Height : Int), (((mineS p0 p1).b).Miner : Int), (((mineS p0 p1).b).Work : Int), (((mineS p0 p1).b).Nonce : Int), (((mineS p0 p1).b).Txs : List TTx), ((mineS p0 p1).ok : Bool), ()) := by
  obtain ⟨hr, ht, hp⟩ := h
  have j1 : ∀ s, (s = true → mineS p0 p1 = ⟨zeroB, false⟩) → (s = false → 0 < p1 ∧ validB p0 = 0) → kat ((mineS p0 p1).b.Parent, (mineS p0 p1).b.Height, (mineS p0 p1).b.Miner, (mineS p0 p1).b.Work, (mineS p0 p1).b.Nonce, (mineS p0 p1).b.Txs, (mineS p0 p1).ok, ()) (p1, s, p0.Parent, p0.Height, p0.Miner, p0.Work, p0.Nonce, p0.Txs, (0 : Int), (0 : Int), (0 : Int), (0 : Int), (0 : Int), (([] : List TTx) : List TTx), ()) := by
    intro s h1 h2
    refine k15c (r0 := (mineS p0 p1).b) ⟨fun e => ?_, fun e => ?_⟩
    · rw [h1 e]
      exact ⟨rfl, rfl, rfl, rfl, rfl, rfl, rfl⟩
    · obtain ⟨q1, q2⟩ := h2 e
      have v := (k9j p0).1 q2
      have hl := v.h.l
      have hw := v.h.w0
      simp only [k18f]
      refine ⟨⟨hr.t, hl⟩, ?_⟩
      have es : mineS p0 p1 = mineN p1.toNat p0 := if_neg (by omega)
      refine k1b5 (r0 := (mineS p0 p1).b) (fun k n => 0 ≤ k ∧ k ≤ p1 ∧ U64 n ∧ mineS p0 p1 = mineN k.toNat ⟨p0.Parent, p0.Height, p0.Miner, p0.Work, n, p0.Txs⟩) (fun k _ => k.toNat) ⟨by omega, by omega, hr.n, es⟩ ?_
      rintro k n ⟨g0, g1, g2, g3⟩
      refine ⟨fun hh => ?_, fun hh => ?_⟩
      · have hh := of_decide_eq_true hh
        have hb : BR ⟨p0.Parent, p0.Height, p0.Miner, p0.Work, n, p0.Txs⟩ := ⟨hr.p, hr.m, hr.w, g2, hr.h, hr.t⟩
        have hu : Us (p0.Txs.map idS) := fun x hx => by obtain ⟨t, _, rfl⟩ := List.mem_map.1 hx; exact idS_u64 t
        have e1 : k.toNat = (k - 1).toNat + 1 := by omega
        rw [e1] at g3
        refine ⟨⟨hb, hl, hu, by simp; omega⟩, by omega, fun e2 => ?_, fun e2 => ?_⟩
        · have e2 : Int.tmod (hashB 15 (namS ⟨p0.Parent, p0.Height, p0.Miner, p0.Work, n, p0.Txs⟩)) p0.Work = 0 := by simpa [namS] using e2
          have g3 : mineS p0 p1 = ⟨⟨p0.Parent, p0.Height, p0.Miner, p0.Work, n, p0.Txs⟩, true⟩ := by rw [g3]; exact if_pos e2
          rw [g3]
          exact ⟨ht, rfl, rfl, rfl, rfl, rfl, rfl, rfl⟩
        · have e2 : ¬ Int.tmod (hashB 15 (namS ⟨p0.Parent, p0.Height, p0.Miner, p0.Work, n, p0.Txs⟩)) p0.Work = 0 := by simpa [namS] using e2
          refine ⟨fun e3 => ?_, fun e3 => ?_⟩
          · have e3 : n = 18446744073709551615 := by simpa using e3
            have g3 : mineS p0 p1 = ⟨zeroB, false⟩ := by rw [g3]; exact (if_neg e2).trans (if_pos e3)
            rw [g3]
            exact ⟨rfl, rfl, rfl, rfl, rfl, rfl, rfl⟩
          · have e3 : ¬ n = 18446744073709551615 := by simpa using e3
            have g3 : mineS p0 p1 = mineN (k - 1).toNat ⟨p0.Parent, p0.Height, p0.Miner, p0.Work, n + 1, p0.Txs⟩ := by rw [g3]; exact (if_neg e2).trans (if_neg e3)
            rw [wi (k - 1) (by omega) (by omega), wu (n + 1) (by omega) (by omega)]
            exact ⟨⟨by omega, by omega, by omega, g3⟩, by omega⟩
      · have hh := of_decide_eq_false hh
        have g3 : mineS p0 p1 = ⟨zeroB, false⟩ := by rw [g3, show k.toNat = 0 by omega]; rfl
        rw [g3]
        exact ⟨rfl, rfl, rfl, rfl, rfl, rfl, rfl⟩
  refine k1hz (r0 := (mineS p0 p1).b) ⟨fun e => ?_, fun e => ?_⟩
  · have e := of_decide_eq_true e
    exact j1 _ (fun _ => if_pos (.inl e)) (fun h => by cases h)
  · have e := of_decide_eq_false e
    refine ⟨hr.t, j1 _ (fun h => if_pos (.inr (by simpa using h))) (fun h => ⟨by omega, by simpa using h⟩)⟩
noncomputable def kuz : Con TB.den := k1j.fnR (fun x => (fun (p0 : TBlock) (p1 : Int) => BR p0 ∧ p0.Txs = [] ∧ p1 ≤ 9223372036854775807) (TBlock.mk x.1 x.2.1 x.2.2.1 x.2.2.2.1 x.2.2.2.2.1 x.2.2.2.2.2.1) x.2.2.2.2.2.2.1) fun x => ((fun (p0 : TBlock) (p1 : Int) => (((mineS p0 p1).b).Parent : Int)) (TBlock.mk x.1 x.2.1 x.2.2.1 x.2.2.2.1 x.2.2.2.2.1 x.2.2.2.2.2.1) x.2.2.2.2.2.2.1, (fun (p0 : TBlock) (p1 : Int) => (((mineS p0 p1).b).Height : Int)) (TBlock.mk x.1 x.2.1 x.2.2.1 x.2.2.2.1 x.2.2.2.2.1 x.2.2.2.2.2.1) x.2.2.2.2.2.2.1, (fun (p0 : TBlock) (p1 : Int) => (((mineS p0 p1).b).Miner : Int)) (TBlock.mk x.1 x.2.1 x.2.2.1 x.2.2.2.1 x.2.2.2.2.1 x.2.2.2.2.2.1) x.2.2.2.2.2.2.1, (fun (p0 : TBlock) (p1 : Int) => (((mineS p0 p1).b).Work : Int)) (TBlock.mk x.1 x.2.1 x.2.2.1 x.2.2.2.1 x.2.2.2.2.1 x.2.2.2.2.2.1) x.2.2.2.2.2.2.1, (fun (p0 : TBlock) (p1 : Int) => (((mineS p0 p1).b).Nonce : Int)) (TBlock.mk x.1 x.2.1 x.2.2.1 x.2.2.2.1 x.2.2.2.2.1 x.2.2.2.2.2.1) x.2.2.2.2.2.2.1, (fun (p0 : TBlock) (p1 : Int) => (((mineS p0 p1).b).Txs : List TTx)) (TBlock.mk x.1 x.2.1 x.2.2.1 x.2.2.2.1 x.2.2.2.2.1 x.2.2.2.2.2.1) x.2.2.2.2.2.2.1, (fun (p0 : TBlock) (p1 : Int) => ((mineS p0 p1).ok : Bool)) (TBlock.mk x.1 x.2.1 x.2.2.1 x.2.2.2.1 x.2.2.2.2.1 x.2.2.2.2.2.1) x.2.2.2.2.2.2.1, ())
theorem k1ge : kuz.Ok Try.prog TB := Con.ok_fn k1j bd22 fun x h => k1b8 (k1al (TBlock.mk x.1 x.2.1 x.2.2.1 x.2.2.2.1 x.2.2.2.2.1 x.2.2.2.2.2.1) x.2.2.2.2.2.2.1 h)
end Go.Proofs.Ytnmakgfmimagmaa
namespace Go.Proofs.Ytnmakgfmimagmaa
open Go Go.Bv Go.Cv Go.Md Go.RowKit
def k27 : Con TB.den := Con.mk0 33 [.one (.d (.int .u64)), .one (.d (.int .i64))] [] (.one (.one (.d (.sl (.int .u8))))) []
abbrev k11j := HL TB.den (hsT k27.ins (hsOs k27.pre))
abbrev k6o := HL TB.den (hsV k27.res (hsOs k27.post))
noncomputable def k60 : Cx TB := ⟨inf, [], [], 4⟩
noncomputable def kbp : Code := Try.f33.body.getD .skip
noncomputable def kec : List ResultVar := Try.f33.results.toList
noncomputable def k1fl (o : k6o) : Exit → TSt TB.den → Prop := thenT TB (fun s => ghs TB [] s fun s => WP TB k60 21 0 (cB (cB (cB kbp))) .no s (retTQ TB k60 k27 kec o)) (retTQ TB k60 k27 kec o)
def k8p : Tm := ⟨[0], [.tip (.int .u8)], [0, 1, 5, 6], [.one (.d (.int .u64)), .one (.d (.int .i64)), .one (.own 0), .one (.d (.int .i64))], 1⟩
noncomputable def k1hn (o : k6o) (nx1 : HL TB.den k8p.hs → Prop) : Exit → TSt TB.den → Prop := thenT TB (fun s => k8p.mat TB 0 s nx1) (blockT TB 0 (k1fl o))
noncomputable def ke9 (o : k6o) (nx1 : HL TB.den k8p.hs → Prop) (i : HL TB.den k8p.hs) : Prop := WP TB k60 21 0 (cA (cA (cB (cA (cB (cB kbp)))))) .no (k8p.fill TB i) (k1hn o nx1)
noncomputable def k1ez (o : k6o) : An TB := .lp [.tok 5 (.int .u8)] k8p (ke9 o) fun nx1 => .no
noncomputable def k1ff (o : k6o) : An TB := .nd [] .no [] (.nd [] (.nd [] .no [] (k1ez o)) [] .no)
noncomputable def kyj (o : k6o) : An TB := .nd [] .no [] (k1ff o)
noncomputable def kkb (x : k11j) (o : k6o) : Prop := WPh TB k60 21 0 kbp (kyj o) (k27.st TB x) (retTQ TB k60 k27 kec o)
set_option maxRecDepth 100000 in
theorem k1cu (o : k6o) : OblH TB k60 21 0 kbp (kyj o) (retTQ TB k60 k27 kec o) :=
  OblH.of_eq (X := (True ∧ (True ∧ ((True ∧ ((∀ nx i, (ke9 o) nx i = (ke9 o) nx i) ∧ ∀ nx1 : HL TB.den k8p.hs → Prop, ((True ∧ (True ∧ True)) ∧ ((True ∧ True) ∧ True)))) ∧ (True ∧ True))))) (by kernel_rfl) ⟨trivial, ⟨trivial, ⟨⟨trivial, ⟨fun _ _ => rfl, fun _ => ⟨⟨trivial, ⟨trivial, trivial⟩⟩, ⟨⟨trivial, trivial⟩, trivial⟩⟩⟩⟩, ⟨trivial, trivial⟩⟩⟩⟩
set_option maxRecDepth 100000 in
theorem k1bj {x : k11j} {o : k6o} (h : kkb x o) : SoundH Try.prog k27.f ((k27.args idf x).map (er TB)) ((k27.obs idf x).map (erO TB)) (er TB (k27.val idf o)) ((k27.ops idf o).map (erO TB)) :=
  Con.soundH (c := k27) (C := k60) TBok ⟨inf_ok, all_nil, all_nil⟩ mix Try.func33 (show Try.f33.body = some kbp by kernel_rfl) (show Try.f33.ntmps = 21 by kernel_rfl) (show Try.f33.results.toList = kec by kernel_rfl) rfl h (k1cu o)
set_option maxRecDepth 100000 in
theorem k1hr {p0 : Int} {p1 : Int} {r0 : List Int} (h :
((([] : List Int) = ([] : List Int)) ∧ Md.Loop (p0, p1, (0 : Int), (([] : List Int) : List Int), ()) (ke9 (r0, ())))) : kkb (p0, p1, ()) (r0, ()) := WPh.of_eq (by kernel_rfl) h
def kxu (r0 : List Int) (k1 : Int → Int → List Int → Prop) (s1 : Int) (s0 : Int) (s6 : Int) (g0 : List Int) : Prop :=
(decide (s6 < s1) = true →
 g0.length = g0.length ∧ (g0.length + [IntKind.u8.wrap (Int.tmod s0 256)].length) * 1 ≤ 140737488355328 ∧ g0.length + [IntKind.u8.wrap (Int.tmod s0 256)].length ≤ maxLen ∧ let v1 : List Int := g0 ++ [IntKind.u8.wrap (Int.tmod s0 256)]
(v1 = v1) ∧ k1 (IntKind.u64.wrap (Int.tdiv s0 256) : Int) (IntKind.i64.wrap (s6 + 1) : Int) v1) ∧
(decide (s6 < s1) = false →
 g0 = r0)
set_option maxRecDepth 100000 in
theorem k1cg {r0 : List Int} {s1 : Int} {s0 : Int} {s6 : Int} {g0 : List Int} (inv : Int → Int → List Int → Prop) (μ : Int → Int → List Int → Nat) (h0 : inv s0 s6 g0) (hs : ∀ (s0 : Int) (s6 : Int) (g0 : List Int), inv s0 s6 g0 → kxu r0 (fun s0q s6q g0q => inv s0q s6q g0q ∧ μ s0q s6q g0q < μ s0 s6 g0) s1 s0 s6 g0) : Md.Loop (s0, s1, s6, g0, ()) (ke9 (r0, ())) :=
  ⟨⟨fun s : Int × Int × Int × (List Int) × Unit => (s.2.1 = s1) ∧ inv s.1 s.2.2.1 s.2.2.2.1, fun s : Int × Int × Int × (List Int) × Unit => μ s.1 s.2.2.1 s.2.2.2.1, ⟨rfl, h0⟩, fun (s0p, s1p, s6p, g0p, ()) ⟨eq0, hi⟩ => by
    have eq0 : s1p = s1 := eq0; subst s1p; exact mpr_of (by kernel_rfl) ((congrArg (fun k => kxu r0 k s1 s0p s6p g0p) (lpk3 (rfl : s1 = s1) inv (fun s0q s6q g0q => μ s0q s6q g0q < μ s0p s6p g0p))).mpr (hs s0p s6p g0p hi))⟩⟩
theorem bd33 : Callable Try.prog 33 := ⟨by rw [Try.func33]; kernel_rfl, by rw [Try.func33]; show some _ ≠ some _; decide⟩
theorem k1a8 (p0 : Int) (p1 : Int) (h : U64 p0 ∧ 0 ≤ p1 ∧ p1 ≤ 8) : kkb (p0, p1, ()) ((dig p1.toNat p0 : List Int), ()) := by
  obtain ⟨h1, h2, h3⟩ := h
  refine k1hr ⟨rfl, k1cg (fun n i g => 0 ≤ i ∧ i ≤ p1 ∧ U64 n ∧ n = p0 / 256 ^ i.toNat ∧ g = dig i.toNat p0) (fun _ i _ => (p1 - i).toNat) ⟨by omega, by omega, h1, by simp, by simp [dig]⟩ ?_⟩
  rintro n i g ⟨g0, g1, g2, g3, rfl⟩
  refine ⟨fun h => ?_, fun h => ?_⟩
  · have h := of_decide_eq_true h
    rw [inc i p1 g0 h (by omega), tmod_nn _ _ g2.1, tdiv_nn _ _ g2.1, u8w, wu (n / 256) (by omega) (by omega)]
    refine ⟨rfl, ?_, ?_, rfl, ⟨by omega, by omega, ⟨by omega, by omega⟩, ?_, ?_⟩, by omega⟩
    · simp; omega
    · simp; unfold maxLen; omega
    · rw [g3, show (i + 1).toNat = i.toNat + 1 by omega, Int.ediv_ediv_of_nonneg (Int.le_of_lt (kdq _)), Int.pow_succ]
    · rw [show (i + 1).toNat = i.toNat + 1 by omega, kvw, g3]
      congr 2
      omega
  · have h := of_decide_eq_false h
    rw [show i = p1 by omega]
noncomputable def kmp : Con TB.den := k27.fnR (fun x => (fun (p0 : Int) (p1 : Int) => U64 p0 ∧ 0 ≤ p1 ∧ p1 ≤ 8) x.1 x.2.1) fun x => ((fun (p0 : Int) (p1 : Int) => (dig p1.toNat p0 : List Int)) x.1 x.2.1, ())
theorem kyd : kmp.Ok Try.prog TB := Con.ok_fn k27 bd33 fun x h => k1bj (k1a8 x.1 x.2.1 h)
end Go.Proofs.Ytnmakgfmimagmaa
namespace Go.Proofs.Ytnmakgfmimagmaa
open Go Go.Bv Go.Cv Go.Md Go.RowKit
def k1d : Con TB.den := Con.mk0 33 [.one (.d (.int .u64)), .one (.d (.int .i64))] [] (.one (.one (.own 0))) [.tip (.int .u8)]
abbrev ktt := HL TB.den (hsT k1d.ins (hsOs k1d.pre))
abbrev k5i := HL TB.den (hsV k1d.res (hsOs k1d.post))
noncomputable def k59 : Cx TB := ⟨inf, [], [], 4⟩
noncomputable def k96 : Code := Try.f33.body.getD .skip
noncomputable def kbe : List ResultVar := Try.f33.results.toList
noncomputable def k1au (o : k5i) : Exit → TSt TB.den → Prop := thenT TB (fun s => ghs TB [] s fun s => WP TB k59 21 0 (cB (cB (cB k96))) .no s (retTQ TB k59 k1d kbe o)) (retTQ TB k59 k1d kbe o)
def k6w : Tm := ⟨[0], [.tip (.int .u8)], [0, 1, 5, 6], [.one (.d (.int .u64)), .one (.d (.int .i64)), .one (.own 0), .one (.d (.int .i64))], 1⟩
noncomputable def k195 (o : k5i) (nx1 : HL TB.den k6w.hs → Prop) : Exit → TSt TB.den → Prop := thenT TB (fun s => k6w.mat TB 0 s nx1) (blockT TB 0 (k1au o))
noncomputable def kb2 (o : k5i) (nx1 : HL TB.den k6w.hs → Prop) (i : HL TB.den k6w.hs) : Prop := WP TB k59 21 0 (cA (cA (cB (cA (cB (cB k96)))))) .no (k6w.fill TB i) (k195 o nx1)
noncomputable def k1a0 (o : k5i) : An TB := .lp [.tok 5 (.int .u8)] k6w (kb2 o) fun nx1 => .no
noncomputable def k1ab (o : k5i) : An TB := .nd [] .no [] (.nd [] (.nd [] .no [] (k1a0 o)) [] .no)
noncomputable def ksg (o : k5i) : An TB := .nd [] .no [] (k1ab o)
noncomputable def khp (x : ktt) (o : k5i) : Prop := WPh TB k59 21 0 k96 (ksg o) (k1d.st TB x) (retTQ TB k59 k1d kbe o)
set_option maxRecDepth 100000 in
theorem k168 (o : k5i) : OblH TB k59 21 0 k96 (ksg o) (retTQ TB k59 k1d kbe o) :=
  OblH.of_eq (X := (True ∧ (True ∧ ((True ∧ ((∀ nx i, (kb2 o) nx i = (kb2 o) nx i) ∧ ∀ nx1 : HL TB.den k6w.hs → Prop, ((True ∧ (True ∧ True)) ∧ ((True ∧ True) ∧ True)))) ∧ (True ∧ True))))) (by kernel_rfl) ⟨trivial, ⟨trivial, ⟨⟨trivial, ⟨fun _ _ => rfl, fun _ => ⟨⟨trivial, ⟨trivial, trivial⟩⟩, ⟨⟨trivial, trivial⟩, trivial⟩⟩⟩⟩, ⟨trivial, trivial⟩⟩⟩⟩
set_option maxRecDepth 100000 in
theorem k17q {x : ktt} {o : k5i} (h : khp x o) : SoundH Try.prog k1d.f ((k1d.args idf x).map (er TB)) ((k1d.obs idf x).map (erO TB)) (er TB (k1d.val idf o)) ((k1d.ops idf o).map (erO TB)) :=
  Con.soundH (c := k1d) (C := k59) TBok ⟨inf_ok, all_nil, all_nil⟩ mix Try.func33 (show Try.f33.body = some k96 by kernel_rfl) (show Try.f33.ntmps = 21 by kernel_rfl) (show Try.f33.results.toList = kbe by kernel_rfl) rfl h (k168 o)
set_option maxRecDepth 100000 in
theorem k1as {p0 : Int} {p1 : Int} {e0 : List Int} (h :
((([] : List Int) = ([] : List Int)) ∧ Md.Loop (p0, p1, (0 : Int), (([] : List Int) : List Int), ()) (kb2 (e0, ())))) : khp (p0, p1, ()) (e0, ()) := WPh.of_eq (by kernel_rfl) h
def ksp (e0 : List Int) (k1 : Int → Int → List Int → Prop) (s1 : Int) (s0 : Int) (s6 : Int) (g0 : List Int) : Prop :=
(decide (s6 < s1) = true →
 g0.length = g0.length ∧ (g0.length + [IntKind.u8.wrap (Int.tmod s0 256)].length) * 1 ≤ 140737488355328 ∧ g0.length + [IntKind.u8.wrap (Int.tmod s0 256)].length ≤ maxLen ∧ let v1 : List Int := g0 ++ [IntKind.u8.wrap (Int.tmod s0 256)]
(v1 = v1) ∧ k1 (IntKind.u64.wrap (Int.tdiv s0 256) : Int) (IntKind.i64.wrap (s6 + 1) : Int) v1) ∧
(decide (s6 < s1) = false →
(g0 = g0) ∧ g0 = e0)
set_option maxRecDepth 100000 in
theorem k17i {e0 : List Int} {s1 : Int} {s0 : Int} {s6 : Int} {g0 : List Int} (inv : Int → Int → List Int → Prop) (μ : Int → Int → List Int → Nat) (h0 : inv s0 s6 g0) (hs : ∀ (s0 : Int) (s6 : Int) (g0 : List Int), inv s0 s6 g0 → ksp e0 (fun s0q s6q g0q => inv s0q s6q g0q ∧ μ s0q s6q g0q < μ s0 s6 g0) s1 s0 s6 g0) : Md.Loop (s0, s1, s6, g0, ()) (kb2 (e0, ())) :=
  ⟨⟨fun s : Int × Int × Int × (List Int) × Unit => (s.2.1 = s1) ∧ inv s.1 s.2.2.1 s.2.2.2.1, fun s : Int × Int × Int × (List Int) × Unit => μ s.1 s.2.2.1 s.2.2.2.1, ⟨rfl, h0⟩, fun (s0p, s1p, s6p, g0p, ()) ⟨eq0, hi⟩ => by
    have eq0 : s1p = s1 := eq0; subst s1p; exact mpr_of (by kernel_rfl) ((congrArg (fun k => ksp e0 k s1 s0p s6p g0p) (lpk3 (rfl : s1 = s1) inv (fun s0q s6q g0q => μ s0q s6q g0q < μ s0p s6p g0p))).mpr (hs s0p s6p g0p hi))⟩⟩
theorem k12r (p0 : Int) (p1 : Int) (h : U64 p0 ∧ 0 ≤ p1 ∧ p1 ≤ 8) : khp (p0, p1, ()) ((dig p1.toNat p0 : List Int), ()) := by
  obtain ⟨h1, h2, h3⟩ := h
  refine k1as ⟨rfl, k17i (fun n i g => 0 ≤ i ∧ i ≤ p1 ∧ U64 n ∧ n = p0 / 256 ^ i.toNat ∧ g = dig i.toNat p0) (fun _ i _ => (p1 - i).toNat) ⟨by omega, by omega, h1, by simp, by simp [dig]⟩ ?_⟩
  rintro n i g ⟨g0, g1, g2, g3, rfl⟩
  refine ⟨fun h => ?_, fun h => ?_⟩
  · have h := of_decide_eq_true h
    rw [inc i p1 g0 h (by omega), tmod_nn _ _ g2.1, tdiv_nn _ _ g2.1, u8w, wu (n / 256) (by omega) (by omega)]
    refine ⟨rfl, ?_, ?_, rfl, ⟨by omega, by omega, ⟨by omega, by omega⟩, ?_, ?_⟩, by omega⟩
    · simp; omega
    · simp; unfold maxLen; omega
    · rw [g3, show (i + 1).toNat = i.toNat + 1 by omega, Int.ediv_ediv_of_nonneg (Int.le_of_lt (kdq _)), Int.pow_succ]
    · rw [show (i + 1).toNat = i.toNat + 1 by omega, kvw, g3]
      congr 2
      omega
  · have h := of_decide_eq_false h
    exact ⟨rfl, by rw [show i = p1 by omega]⟩
noncomputable def ke4 : Con TB.den := k1d.fnR (fun x => (fun (p0 : Int) (p1 : Int) => U64 p0 ∧ 0 ≤ p1 ∧ p1 ≤ 8) x.1 x.2.1) fun x => ((fun (p0 : Int) (p1 : Int) => (dig p1.toNat p0 : List Int)) x.1 x.2.1, ())
theorem kk2 : ke4.Ok Try.prog TB := Con.ok_fn k1d bd33 fun x h => k17q (k12r x.1 x.2.1 h)
end Go.Proofs.Ytnmakgfmimagmaa
namespace Go.Proofs.Ytnmakgfmimagmaa
open Go Go.Bv Go.Cv Go.Md Go.RowKit
def k4e : Con TB.den := Con.mk0 35 [.one (.d (.int .i64))] [] (.one (.one (.d (.sl (.int .u8))))) []
abbrev k1ef := HL TB.den (hsT k4e.ins (hsOs k4e.pre))
abbrev kjv := HL TB.den (hsV k4e.res (hsOs k4e.post))
noncomputable def kdk : Cx TB := ⟨inf, [kmp], [], 4⟩
noncomputable def kk8 : Code := Try.f35.body.getD .skip
noncomputable def kpd : List ResultVar := Try.f35.results.toList
def kne : Tm := ⟨[], [], [0], [.one (.d (.int .i64))], 0⟩
noncomputable def k14w (o : kjv) (i : HL TB.den kne.hs) : Prop := ghs TB [] (kne.fill TB i) fun s => WP TB kdk 12 0 (cB (cB kk8)) .no s (retTQ TB kdk k4e kpd o)
structure kdv (o : kjv) (i : HL TB.den kne.hs) : Prop where
  h : k14w o i
noncomputable def k19x (o : kjv) : An TB := .nd [] .no [] (.jn kne (kdv o) [] .no [] .no)
noncomputable def kqw (x : k1ef) (o : kjv) : Prop := WPh TB kdk 12 0 kk8 (k19x o) (k4e.st TB x) (retTQ TB kdk k4e kpd o)
set_option maxRecDepth 100000 in
theorem k1mq (o : kjv) : OblH TB kdk 12 0 kk8 (k19x o) (retTQ TB kdk k4e kpd o) :=
  OblH.of_eq (X := (True ∧ ((True ∧ (True ∧ True)) ∧ (∀ i, (kdv o) i = (k14w o) i) ∧ (True ∧ True)))) (by kernel_rfl) ⟨trivial, ⟨⟨trivial, ⟨trivial, trivial⟩⟩, fun _ => propext ⟨fun h => h.1, fun h => ⟨h⟩⟩, ⟨trivial, trivial⟩⟩⟩
set_option maxRecDepth 100000 in
theorem k1mf {x : k1ef} {o : kjv} (h : kqw x o) : SoundH Try.prog k4e.f ((k4e.args idf x).map (er TB)) ((k4e.obs idf x).map (erO TB)) (er TB (k4e.val idf o)) ((k4e.ops idf o).map (erO TB)) :=
  Con.soundH (c := k4e) (C := kdk) TBok ⟨inf_ok, (all_cons kyd all_nil), all_nil⟩ mix Try.func35 (show Try.f35.body = some kk8 by kernel_rfl) (show Try.f35.ntmps = 12 by kernel_rfl) (show Try.f35.results.toList = kpd by kernel_rfl) rfl h (k1mq o)
set_option maxRecDepth 100000 in
theorem k1nl {p0 : Int} {r0 : List Int} (h :
((decide (p0 < 0) = true →
 kdv (r0, ()) ((0 : Int), ())) ∧
(decide (p0 < 0) = false →
(decide (4294967296 ≤ p0) = true →
 kdv (r0, ()) ((0 : Int), ())) ∧
(decide (4294967296 ≤ p0) = false →
 kdv (r0, ()) (p0, ()))))) : kqw (p0, ()) (r0, ()) := WPh.of_eq (by kernel_rfl) h
set_option maxRecDepth 100000 in
theorem k1h5 {r0 : List Int} {s0 : Int} (h :
((U64 (IntKind.u64.wrap s0) ∧ 0 ≤ (4 : Int) ∧ (4 : Int) ≤ 8) ∧ let r1 : List Int := dig (4 : Int).toNat (IntKind.u64.wrap s0)
 r1 = r0)) : kdv (r0, ()) (s0, ()) := ⟨mpr_of (by kernel_rfl) h⟩
theorem bd35 : Callable Try.prog 35 := ⟨by rw [Try.func35]; kernel_rfl, by rw [Try.func35]; show some _ ≠ some _; decide⟩
theorem k1ig (p0 : Int) : kqw (p0, ()) ((dig 4 (len4 p0) : List Int), ()) := by
  have j : ∀ n, 0 ≤ n → n ≤ 4294967295 → len4 p0 = n → kdv ((dig 4 (len4 p0) : List Int), ()) (n, ()) := by
    intro n h0 h1 e
    refine k1h5 ?_
    rw [wu n (by omega) (by omega), e]
    exact ⟨⟨⟨h0, by omega⟩, by omega⟩, rfl⟩
  refine k1nl ⟨fun h => j 0 (by omega) (by omega) ?_, fun h => ⟨fun h' => j 0 (by omega) (by omega) ?_, fun h' => j p0 ?_ ?_ ?_⟩⟩
  · have h := of_decide_eq_true h; exact if_pos (.inl h)
  · have h' := of_decide_eq_true h'; exact if_pos (.inr (by omega))
  · have h := of_decide_eq_false h; omega
  · have h' := of_decide_eq_false h'; omega
  · have h := of_decide_eq_false h; have h' := of_decide_eq_false h'; exact len4_in ⟨by omega, by omega⟩
noncomputable def ktg : Con TB.den := k4e.totR fun x => ((fun (p0 : Int) => (dig 4 (len4 p0) : List Int)) x.1, ())
theorem k17y : ktg.Ok Try.prog TB := Con.ok_tot k4e bd35 fun x => k1mf (k1ig x.1)
end Go.Proofs.Ytnmakgfmimagmaa
namespace Go.Proofs.Ytnmakgfmimagmaa
open Go Go.Bv Go.Cv Go.Md Go.RowKit
def k34 : Con TB.den := Con.mk0 35 [.one (.d (.int .i64))] [] (.one (.one (.own 0))) [.tip (.int .u8)]
abbrev k13z := HL TB.den (hsT k34.ins (hsOs k34.pre))
abbrev keo := HL TB.den (hsV k34.res (hsOs k34.post))
noncomputable def ka4 : Cx TB := ⟨inf, [ke4], [], 4⟩
noncomputable def kh4 : Code := Try.f35.body.getD .skip
noncomputable def kki : List ResultVar := Try.f35.results.toList
def kip : Tm := ⟨[], [], [0], [.one (.d (.int .i64))], 0⟩
noncomputable def kyh (o : keo) (i : HL TB.den kip.hs) : Prop := ghs TB [] (kip.fill TB i) fun s => WP TB ka4 12 0 (cB (cB kh4)) .no s (retTQ TB ka4 k34 kki o)
structure k9y (o : keo) (i : HL TB.den kip.hs) : Prop where
  h : kyh o i
noncomputable def k103 (o : keo) : An TB := .nd [] .no [] (.jn kip (k9y o) [] .no [] .no)
noncomputable def kmq (x : k13z) (o : keo) : Prop := WPh TB ka4 12 0 kh4 (k103 o) (k34.st TB x) (retTQ TB ka4 k34 kki o)
set_option maxRecDepth 100000 in
theorem k1es (o : keo) : OblH TB ka4 12 0 kh4 (k103 o) (retTQ TB ka4 k34 kki o) :=
  OblH.of_eq (X := (True ∧ ((True ∧ (True ∧ True)) ∧ (∀ i, (k9y o) i = (kyh o) i) ∧ (True ∧ True)))) (by kernel_rfl) ⟨trivial, ⟨⟨trivial, ⟨trivial, trivial⟩⟩, fun _ => propext ⟨fun h => h.1, fun h => ⟨h⟩⟩, ⟨trivial, trivial⟩⟩⟩
set_option maxRecDepth 100000 in
theorem k1i4 {x : k13z} {o : keo} (h : kmq x o) : SoundH Try.prog k34.f ((k34.args idf x).map (er TB)) ((k34.obs idf x).map (erO TB)) (er TB (k34.val idf o)) ((k34.ops idf o).map (erO TB)) :=
  Con.soundH (c := k34) (C := ka4) TBok ⟨inf_ok, (all_cons kk2 all_nil), all_nil⟩ mix Try.func35 (show Try.f35.body = some kh4 by kernel_rfl) (show Try.f35.ntmps = 12 by kernel_rfl) (show Try.f35.results.toList = kki by kernel_rfl) rfl h (k1es o)
set_option maxRecDepth 100000 in
theorem k1ic {p0 : Int} {e0 : List Int} (h :
((decide (p0 < 0) = true →
 k9y (e0, ()) ((0 : Int), ())) ∧
(decide (p0 < 0) = false →
(decide (4294967296 ≤ p0) = true →
 k9y (e0, ()) ((0 : Int), ())) ∧
(decide (4294967296 ≤ p0) = false →
 k9y (e0, ()) (p0, ()))))) : kmq (p0, ()) (e0, ()) := WPh.of_eq (by kernel_rfl) h
set_option maxRecDepth 100000 in
theorem k19d {e0 : List Int} {s0 : Int} (h :
((U64 (IntKind.u64.wrap s0) ∧ 0 ≤ (4 : Int) ∧ (4 : Int) ≤ 8) ∧ let r1 : List Int := dig (4 : Int).toNat (IntKind.u64.wrap s0)
(r1 = r1) ∧ r1 = e0)) : k9y (e0, ()) (s0, ()) := ⟨mpr_of (by kernel_rfl) h⟩
theorem k1cv (p0 : Int) : kmq (p0, ()) ((dig 4 (len4 p0) : List Int), ()) := by
  have j : ∀ n, 0 ≤ n → n ≤ 4294967295 → len4 p0 = n → k9y ((dig 4 (len4 p0) : List Int), ()) (n, ()) := by
    intro n h0 h1 e
    refine k19d ?_
    rw [wu n (by omega) (by omega), e]
    exact ⟨⟨⟨h0, by omega⟩, by omega⟩, by trivial, rfl⟩
  refine k1ic ⟨fun h => j 0 (by omega) (by omega) ?_, fun h => ⟨fun h' => j 0 (by omega) (by omega) ?_, fun h' => j p0 ?_ ?_ ?_⟩⟩
  · have h := of_decide_eq_true h; exact if_pos (.inl h)
  · have h' := of_decide_eq_true h'; exact if_pos (.inr (by omega))
  · have h := of_decide_eq_false h; omega
  · have h' := of_decide_eq_false h'; omega
  · have h := of_decide_eq_false h; have h' := of_decide_eq_false h'; exact len4_in ⟨by omega, by omega⟩
noncomputable def kod : Con TB.den := k34.totR fun x => ((fun (p0 : Int) => (dig 4 (len4 p0) : List Int)) x.1, ())
theorem k129 : kod.Ok Try.prog TB := Con.ok_tot k34 bd35 fun x => k1i4 (k1cv x.1)
end Go.Proofs.Ytnmakgfmimagmaa
namespace Go.Proofs.Ytnmakgfmimagmaa
open Go Go.Bv Go.Cv Go.Md Go.RowKit
def k3d : Con TB.den := Con.mk0 36 [.one (.d (.sl (.int .u8)))] [] (.one (.one (.d (.sl (.int .u8))))) []
abbrev k13s := HL TB.den (hsT k3d.ins (hsOs k3d.pre))
abbrev kng := HL TB.den (hsV k3d.res (hsOs k3d.post))
noncomputable def kfq : Cx TB := ⟨inf, [kod], [], 4⟩
noncomputable def kmx : Code := Try.f36.body.getD .skip
noncomputable def kpy : List ResultVar := Try.f36.results.toList
noncomputable def k11d (o : kng) : An TB := .no
noncomputable def kma (x : k13s) (o : kng) : Prop := WPh TB kfq 8 0 kmx (k11d o) (k3d.st TB x) (retTQ TB kfq k3d kpy o)
set_option maxRecDepth 100000 in
theorem k1gd (o : kng) : OblH TB kfq 8 0 kmx (k11d o) (retTQ TB kfq k3d kpy o) :=
  OblH.of_eq (X := (True ∧ (True ∧ True))) (by kernel_rfl) ⟨trivial, ⟨trivial, trivial⟩⟩
set_option maxRecDepth 100000 in
theorem k1f2 {x : k13s} {o : kng} (h : kma x o) : SoundH Try.prog k3d.f ((k3d.args idf x).map (er TB)) ((k3d.obs idf x).map (erO TB)) (er TB (k3d.val idf o)) ((k3d.ops idf o).map (erO TB)) :=
  Con.soundH (c := k3d) (C := kfq) TBok ⟨inf_ok, (all_cons k129 all_nil), all_nil⟩ mix Try.func36 (show Try.f36.body = some kmx by kernel_rfl) (show Try.f36.ntmps = 8 by kernel_rfl) (show Try.f36.results.toList = kpy by kernel_rfl) rfl h (k1gd o)
set_option maxRecDepth 100000 in
theorem k1kf {p0 : List Int} {r0 : List Int} (h :
((dig 4 (len4 (p0.length : Int))).length = (dig 4 (len4 (p0.length : Int))).length ∧ ((dig 4 (len4 (p0.length : Int))).length + p0.length) * 1 ≤ 140737488355328 ∧ (dig 4 (len4 (p0.length : Int))).length + p0.length ≤ maxLen ∧ (dig 4 (len4 (p0.length : Int))) ++ p0 = r0)) : kma (p0, ()) (r0, ()) := WPh.of_eq (by kernel_rfl) h
theorem bd36 : Callable Try.prog 36 := ⟨by rw [Try.func36]; kernel_rfl, by rw [Try.func36]; show some _ ≠ some _; decide⟩
theorem k1cd (p0 : List Int) (h : p0.length ≤ 4294967295) : kma (p0, ()) ((encB p0 : List Int), ()) := by
  refine k1kf ⟨by trivial, ?_, ?_, rfl⟩
  · simp; omega
  · simp; unfold maxLen; omega
noncomputable def ko4 : Con TB.den := k3d.fnR (fun x => (fun (p0 : List Int) => p0.length ≤ 4294967295) x.1) fun x => ((fun (p0 : List Int) => (encB p0 : List Int)) x.1, ())
theorem k10u : ko4.Ok Try.prog TB := Con.ok_fn k3d bd36 fun x h => k1f2 (k1cd x.1 h)
end Go.Proofs.Ytnmakgfmimagmaa
namespace Go.Proofs.Ytnmakgfmimagmaa
open Go Go.Bv Go.Cv Go.Md Go.RowKit
def k3a : Con TB.den := Con.mk0 34 [.one (.d (.sl (.int .u64)))] [] (.one (.one (.d (.sl (.int .u8))))) []
abbrev k19m := HL TB.den (hsT k3a.ins (hsOs k3a.pre))
abbrev kbd := HL TB.den (hsV k3a.res (hsOs k3a.post))
noncomputable def k7z : Cx TB := ⟨inf, [kod, kmp], [], 4⟩
noncomputable def kef : Code := Try.f34.body.getD .skip
noncomputable def ki0 : List ResultVar := Try.f34.results.toList
noncomputable def k1n0 (o : kbd) : Exit → TSt TB.den → Prop := thenT TB (fun s => ghs TB [] s fun s => WP TB k7z 22 0 (cB (cB (cB kef))) .no s (retTQ TB k7z k3a ki0 o)) (retTQ TB k7z k3a ki0 o)
def kbs : Tm := ⟨[0], [.tip (.int .u8)], [0, 3, 4], [.one (.d (.sl (.int .u64))), .one (.own 0), .one (.d (.int .i64))], 1⟩
noncomputable def k1mk (o : kbd) (nx1 : HL TB.den kbs.hs → Prop) : Exit → TSt TB.den → Prop := thenT TB (fun s => kbs.mat TB 0 s nx1) (blockT TB 0 (k1n0 o))
noncomputable def ki5 (o : kbd) (nx1 : HL TB.den kbs.hs → Prop) (i : HL TB.den kbs.hs) : Prop := WP TB k7z 22 0 (cA (cA (cB (cA (cB (cB kef)))))) .no (kbs.fill TB i) (k1mk o nx1)
noncomputable def k1my (o : kbd) : An TB := .nd [] .no [] (.lp [] kbs (ki5 o) fun nx1 => .no)
noncomputable def k14g (o : kbd) : An TB := .nd [] .no [] (.nd [] .no [] (.nd [] (k1my o) [] .no))
noncomputable def knz (x : k19m) (o : kbd) : Prop := WPh TB k7z 22 0 kef (k14g o) (k3a.st TB x) (retTQ TB k7z k3a ki0 o)
set_option maxRecDepth 100000 in
theorem k1k3 (o : kbd) : OblH TB k7z 22 0 kef (k14g o) (retTQ TB k7z k3a ki0 o) :=
  OblH.of_eq (X := (True ∧ (True ∧ ((True ∧ ((∀ nx i, (ki5 o) nx i = (ki5 o) nx i) ∧ ∀ nx1 : HL TB.den kbs.hs → Prop, ((True ∧ (True ∧ True)) ∧ (True ∧ True)))) ∧ (True ∧ True))))) (by kernel_rfl) ⟨trivial, ⟨trivial, ⟨⟨trivial, ⟨fun _ _ => rfl, fun _ => ⟨⟨trivial, ⟨trivial, trivial⟩⟩, ⟨trivial, trivial⟩⟩⟩⟩, ⟨trivial, trivial⟩⟩⟩⟩
set_option maxRecDepth 100000 in
theorem k1lc {x : k19m} {o : kbd} (h : knz x o) : SoundH Try.prog k3a.f ((k3a.args idf x).map (er TB)) ((k3a.obs idf x).map (erO TB)) (er TB (k3a.val idf o)) ((k3a.ops idf o).map (erO TB)) :=
  Con.soundH (c := k3a) (C := k7z) TBok ⟨inf_ok, (all_cons k129 (all_cons kyd all_nil)), all_nil⟩ mix Try.func34 (show Try.f34.body = some kef by kernel_rfl) (show Try.f34.ntmps = 22 by kernel_rfl) (show Try.f34.results.toList = ki0 by kernel_rfl) rfl h (k1k3 o)
set_option maxRecDepth 100000 in
theorem k1mz {p0 : List Int} {r0 : List Int} (h :
((dig 4 (len4 (p0.length : Int)) = dig 4 (len4 (p0.length : Int))) ∧ Md.Loop (p0, (0 : Int), (dig 4 (len4 (p0.length : Int)) : List Int), ()) (ki5 (r0, ())))) : knz (p0, ()) (r0, ()) := WPh.of_eq (by kernel_rfl) h
def k14r (r0 : List Int) (k1 : Int → List Int → Prop) (s0 : List Int) (s4 : Int) (g0 : List Int) : Prop :=
(decide (s4 < (s0.length : Int)) = true →
(0 ≤ s4) ∧ s4 < (s0.length : Int) ∧ (U64 (ix s0 s4) ∧ 0 ≤ (8 : Int) ∧ (8 : Int) ≤ 8) ∧ g0.length = g0.length ∧ (g0.length + (dig (8 : Int).toNat (ix s0 s4)).length) * 1 ≤ 140737488355328 ∧ g0.length + (dig (8 : Int).toNat (ix s0 s4)).length ≤ maxLen ∧ (g0 ++ (dig (8 : Int).toNat (ix s0 s4)) = g0 ++ (dig (8 : Int).toNat (ix s0 s4))) ∧ k1 (IntKind.i64.wrap (s4 + 1) : Int) (g0 ++ (dig (8 : Int).toNat (ix s0 s4)) : List Int)) ∧
(decide (s4 < (s0.length : Int)) = false →
 g0 = r0)
set_option maxRecDepth 100000 in
theorem k1k8 {r0 : List Int} {s0 : List Int} {s4 : Int} {g0 : List Int} (inv : Int → List Int → Prop) (μ : Int → List Int → Nat) (h0 : inv s4 g0) (hs : ∀ (s4 : Int) (g0 : List Int), inv s4 g0 → k14r r0 (fun s4q g0q => inv s4q g0q ∧ μ s4q g0q < μ s4 g0) s0 s4 g0) : Md.Loop (s0, s4, g0, ()) (ki5 (r0, ())) :=
  ⟨⟨fun s : (List Int) × Int × (List Int) × Unit => (s.1 = s0) ∧ inv s.2.1 s.2.2.1, fun s : (List Int) × Int × (List Int) × Unit => μ s.2.1 s.2.2.1, ⟨rfl, h0⟩, fun (s0p, s4p, g0p, ()) ⟨eq0, hi⟩ => by
    have eq0 : s0p = s0 := eq0; subst s0p; exact mpr_of (by kernel_rfl) ((congrArg (fun k => k14r r0 k s0 s4p g0p) (lpk2 (rfl : s0 = s0) inv (fun s4q g0q => μ s4q g0q < μ s4p g0p))).mpr (hs s4p g0p hi))⟩⟩
theorem bd34 : Callable Try.prog 34 := ⟨by rw [Try.func34]; kernel_rfl, by rw [Try.func34]; show some _ ≠ some _; decide⟩
theorem k1i3 (p0 : List Int) (h : Us p0 ∧ p0.length ≤ 4294967295) : knz (p0, ()) ((encL p0 : List Int), ()) := by
  obtain ⟨h1, h2⟩ := h
  refine k1mz ⟨rfl, k1k8 (fun i g => 0 ≤ i ∧ i ≤ p0.length ∧ g = dig 4 (len4 p0.length) ++ (p0.take i.toNat).flatMap (dig 8)) (fun i _ => (p0.length - i).toNat) ⟨by omega, by omega, by simp⟩ ?_⟩
  rintro i g ⟨g0, g1, rfl⟩
  refine ⟨fun h => ?_, fun h => ?_⟩
  · have h := of_decide_eq_true h
    have hx := h1 _ (ix_mem p0 i g0 h)
    rw [inc i p0.length g0 h (by omega)]
    have hlen : (dig 4 (len4 p0.length) ++ (p0.take i.toNat).flatMap (dig 8)).length ≤ 4 + 8 * p0.length := by simp only [List.length_append, k1i, k87, List.length_take]; omega
    refine ⟨g0, h, ⟨hx, by omega⟩, rfl, ?_, ?_, rfl, ⟨by omega, by omega, ?_⟩, by omega⟩
    · rw [k1i]; omega
    · rw [k1i]; unfold maxLen; omega
    · rw [ka p0 i g0 h, List.flatMap_append, List.append_assoc]
      simp
  · have h := of_decide_eq_false h
    rw [List.take_of_length_le (by omega)]
    rfl
noncomputable def k10p : Con TB.den := k3a.fnR (fun x => (fun (p0 : List Int) => Us p0 ∧ p0.length ≤ 4294967295) x.1) fun x => ((fun (p0 : List Int) => (encL p0 : List Int)) x.1, ())
theorem k1n1 : k10p.Ok Try.prog TB := Con.ok_fn k3a bd34 fun x h => k1lc (k1i3 x.1 h)
end Go.Proofs.Ytnmakgfmimagmaa
namespace Go.Proofs.Ytnmakgfmimagmaa
open Go Go.Bv Go.Cv Go.Md Go.RowKit
def k1z : Con TB.den := Con.mk0 16 [.agg [.d (.int .u64), .d (.sl (.int .u64)), .d (.sl (.st 0)), .d (.int .u64), .d (.int .u64), .d (.int .u64), .d (.int .u64), .d (.int .u64), .d (.int .i64), .d (.sl (.int .u8))]] [] (.one (.one (.d (.sl (.int .u8))))) []
abbrev k14k := HL TB.den (hsT k1z.ins (hsOs k1z.pre))
abbrev k28 := HL TB.den (hsV k1z.res (hsOs k1z.post))
noncomputable def k35 : Cx TB := ⟨inf, [ke4, k10p, ktg, ko4], [], 4⟩
noncomputable def k4x : Code := Try.f16.body.getD .skip
noncomputable def k9s : List ResultVar := Try.f16.results.toList
noncomputable def k1ly (o : k28) : Exit → TSt TB.den → Prop := thenT TB (fun s => ghs TB [] s fun s => WP TB k35 97 0 (cB (cB (cB (cB (cB (cB (cB k4x))))))) .no s (retTQ TB k35 k1z k9s o)) (retTQ TB k35 k1z k9s o)
def kai : Tm := ⟨[0, 1], [.cells [.d (.int .u64), .d (.sl (.int .u64)), .d (.sl (.st 0)), .d (.int .u64), .d (.int .u64), .d (.int .u64), .d (.int .u64), .d (.int .u64), .d (.int .i64), .d (.sl (.int .u8))], .tip (.int .u8)], [1, 3, 8, 9], [.one (.ptr 0 0), .one (.own 1), .one (.full (.int .u64)), .one (.d (.int .i64))], 3⟩
noncomputable def k1jq (o : k28) (nx3 : HL TB.den kai.hs → Prop) : Exit → TSt TB.den → Prop := thenT TB (fun s => kai.mat TB 0 s nx3) (blockT TB 4 (k1ly o))
noncomputable def kfl (o : k28) (nx3 : HL TB.den kai.hs → Prop) (i : HL TB.den kai.hs) : Prop := WP TB k35 97 0 (cA (cA (cB (cA (cB (cB (cB (cB (cB (cB k4x)))))))))) .no (kai.fill TB i) (k1jq o nx3)
noncomputable def k10z (o : k28) : An TB := .nd [] .no [] (.lp [] kai (kfl o) fun nx3 => .no)
noncomputable def k1kk (o : k28) : Exit → TSt TB.den → Prop := thenT TB (fun s => ghs TB [] s fun s => WP TB k35 97 0 (cB (cB (cB (cB (cB k4x))))) (.nd [] .no [] (.nd [] (k10z o) [] .no)) s (retTQ TB k35 k1z k9s o)) (retTQ TB k35 k1z k9s o)
def k32 : Tm := ⟨[0, 1], [.cells [.d (.int .u64), .d (.sl (.int .u64)), .d (.sl (.st 0)), .d (.int .u64), .d (.int .u64), .d (.int .u64), .d (.int .u64), .d (.int .u64), .d (.int .i64), .d (.sl (.int .u8))], .tip (.int .u8)], [1, 3, 4], [.one (.ptr 0 0), .one (.own 1), .one (.d (.int .i64))], 2⟩
noncomputable def kqn (o : k28) (nx2 : HL TB.den k32.hs → Prop) : Exit → TSt TB.den → Prop := thenT TB (fun s => k32.mat TB 0 s nx2) (blockT TB 0 (k1kk o))
noncomputable def k10o (o : k28) (nx2 : HL TB.den k32.hs → Prop) : Exit → TSt TB.den → Prop := thenT TB (fun s => ghs TB [] s fun s => WP TB k35 97 0 (cB (cB (cA (cA (cB (cA (cB (cB (cB (cB k4x)))))))))) .no s (kqn o nx2)) (kqn o nx2)
noncomputable def k1k9 (o : k28) (nx2 : HL TB.den k32.hs → Prop) : Exit → TSt TB.den → Prop := thenT TB (fun s => ghs TB [] s fun s => WP TB k35 97 0 (cB (cB (cB (cA (cA (cB (cA (cA (cB (cA (cB (cB (cB (cB k4x)))))))))))))) .no s (blockT TB 1 (k10o o nx2))) (blockT TB 1 (k10o o nx2))
def k9w : Tm := ⟨[0, 1, 2], [.cells [.d (.int .u64), .d (.sl (.int .u64)), .d (.sl (.st 0)), .d (.int .u64), .d (.int .u64), .d (.int .u64), .d (.int .u64), .d (.int .u64), .d (.int .i64), .d (.sl (.int .u8))], .tip (.int .u8), .cells [.d (.int .u64), .d (.int .u64), .d (.int .u64), .d (.sl (.int .u64))]], [1, 3, 4, 5, 6, 7], [.one (.ptr 0 0), .one (.own 1), .one (.d (.int .i64)), .one (.ptr 2 0), .one (.full (.int .u64)), .one (.d (.int .i64))], 4⟩
noncomputable def k1g0 (o : k28) (nx2 : HL TB.den k32.hs → Prop) (nx1 : HL TB.den k9w.hs → Prop) : Exit → TSt TB.den → Prop := thenT TB (fun s => k9w.mat TB 0 s nx1) (blockT TB 2 (k1k9 o nx2))
noncomputable def kgp (o : k28) (nx2 : HL TB.den k32.hs → Prop) (nx1 : HL TB.den k9w.hs → Prop) (i : HL TB.den k9w.hs) : Prop := WP TB k35 97 0 (cA (cA (cB (cA (cB (cB (cA (cA (cB (cA (cA (cB (cA (cB (cB (cB (cB k4x))))))))))))))))) .no (k9w.fill TB i) (k1g0 o nx2 nx1)
noncomputable def k1fg (o : k28) (nx2 : HL TB.den k32.hs → Prop) : An TB := .nd [] .no [] (.lp [] k9w (kgp o nx2) fun nx1 => .no)
noncomputable def kxt (o : k28) (nx2 : HL TB.den k32.hs → Prop) : An TB := .nd [] .no [] (.nd [] .no [] (.nd [] (k1fg o nx2) [] .no))
noncomputable def kfw (o : k28) (nx2 : HL TB.den k32.hs → Prop) (i : HL TB.den k32.hs) : Prop := WP TB k35 97 0 (cA (cA (cB (cA (cB (cB (cB (cB k4x)))))))) (.nd [] .no [] (.nd [] (kxt o nx2) [] .no)) (k32.fill TB i) (kqn o nx2)
noncomputable def k1fh (o : k28) : An TB := .lp [] k32 (kfw o) fun nx2 => (.nd [] .no [] (.nd [] (kxt o nx2) [] .no))
noncomputable def k1et (o : k28) : An TB := .nd [] (.nd [] .no [] (k1fh o)) [] (.nd [] .no [] (.nd [] (k10z o) [] .no))
noncomputable def k1gg (o : k28) : An TB := .nd [] .no [] (.nd [] .no [] (.nd [] .no [] (k1et o)))
noncomputable def k10y (o : k28) : An TB := .nd [] .no [] (k1gg o)
noncomputable def kmw (x : k14k) (o : k28) : Prop := WPh TB k35 97 0 k4x (k10y o) (k1z.st TB x) (retTQ TB k35 k1z k9s o)
set_option maxRecDepth 100000 in
theorem k1hi (o : k28) : OblH TB k35 97 0 k4x (k10y o) (retTQ TB k35 k1z k9s o) :=
  OblH.of_eq (X := (True ∧ (True ∧ (True ∧ (True ∧ ((True ∧ ((∀ nx i, (kfw o) nx i = (kfw o) nx i) ∧ ∀ nx2 : HL TB.den k32.hs → Prop, ((True ∧ (True ∧ True)) ∧ ((True ∧ (True ∧ ((True ∧ ((∀ nx i, (kgp o nx2) nx i = (kgp o nx2) nx i) ∧ ∀ nx1 : HL TB.den k9w.hs → Prop, ((True ∧ (True ∧ True)) ∧ (True ∧ True)))) ∧ True))) ∧ True)))) ∧ (True ∧ ((True ∧ ((∀ nx i, (kfl o) nx i = (kfl o) nx i) ∧ ∀ nx3 : HL TB.den kai.hs → Prop, ((True ∧ (True ∧ True)) ∧ (True ∧ True)))) ∧ (True ∧ (True ∧ True)))))))))) (by kernel_rfl) ⟨trivial, ⟨trivial, ⟨trivial, ⟨trivial, ⟨⟨trivial, ⟨fun _ _ => rfl, fun _ => ⟨⟨trivial, ⟨trivial, trivial⟩⟩, ⟨⟨trivial, ⟨trivial, ⟨⟨trivial, ⟨fun _ _ => rfl, fun _ => ⟨⟨trivial, ⟨trivial, trivial⟩⟩, ⟨trivial, trivial⟩⟩⟩⟩, trivial⟩⟩⟩, trivial⟩⟩⟩⟩, ⟨trivial, ⟨⟨trivial, ⟨fun _ _ => rfl, fun _ => ⟨⟨trivial, ⟨trivial, trivial⟩⟩, ⟨trivial, trivial⟩⟩⟩⟩, ⟨trivial, ⟨trivial, trivial⟩⟩⟩⟩⟩⟩⟩⟩⟩
set_option maxRecDepth 100000 in
theorem k1gf {x : k14k} {o : k28} (h : kmw x o) : SoundH Try.prog k1z.f ((k1z.args idf x).map (er TB)) ((k1z.obs idf x).map (erO TB)) (er TB (k1z.val idf o)) ((k1z.ops idf o).map (erO TB)) :=
  Con.soundH (c := k1z) (C := k35) TBok ⟨inf_ok, (all_cons kk2 (all_cons k1n1 (all_cons k17y (all_cons k10u all_nil)))), all_nil⟩ mix Try.func16 (show Try.f16.body = some k4x by kernel_rfl) (show Try.f16.ntmps = 97 by kernel_rfl) (show Try.f16.results.toList = k9s by kernel_rfl) rfl h (k1hi o)
set_option maxRecDepth 100000 in
theorem k1ib {p0 : TTx} {r0 : List Int} (h :
((U64 p0.Anchor ∧ 0 ≤ (8 : Int) ∧ (8 : Int) ≤ 8) ∧ (Us p0.Marks ∧ p0.Marks.length ≤ 4294967295) ∧ (dig (8 : Int).toNat p0.Anchor).length = (dig (8 : Int).toNat p0.Anchor).length ∧ ((dig (8 : Int).toNat p0.Anchor).length + (encL p0.Marks).length) * 1 ≤ 140737488355328 ∧ (dig (8 : Int).toNat p0.Anchor).length + (encL p0.Marks).length ≤ maxLen ∧ let v1 : List Int := (dig (8 : Int).toNat p0.Anchor) ++ (encL p0.Marks)
 v1.length = v1.length ∧ (v1.length + (dig 4 (len4 (p0.Outs.length : Int))).length) * 1 ≤ 140737488355328 ∧ v1.length + (dig 4 (len4 (p0.Outs.length : Int))).length ≤ maxLen ∧ let v2 : List Int := v1 ++ (dig 4 (len4 (p0.Outs.length : Int)))
(v2 = v2) ∧ Md.Loop ((0 : Int), p0.Anchor, p0.Marks, p0.Outs, p0.Deposit, p0.Withdraw, p0.Fee, p0.Account, p0.Nonce, p0.Expiry, p0.Proof, v2, ()) (kfw (r0, ())))) : kmw (p0.Anchor, p0.Marks, p0.Outs, p0.Deposit, p0.Withdraw, p0.Fee, p0.Account, p0.Nonce, p0.Expiry, p0.Proof, ()) (r0, ()) := WPh.of_eq (by kernel_rfl) h
def k128 (r0 : List Int) (nx2 : HL TB.den k32.hs → Prop) (k2 : Int → List Int → Prop) (h0_0 : Int) (h0_1 : List Int) (h0_2 : List TOut) (h0_3 : Int) (h0_4 : Int) (h0_5 : Int) (h0_6 : Int) (h0_7 : Int) (h0_8 : Int) (h0_9 : List Int) (s4 : Int) (g1 : List Int) : Prop :=
(decide (s4 < (h0_2.length : Int)) = true →
(0 ≤ s4) ∧ s4 < (h0_2.length : Int) ∧ let v3 : List Int := [(ix h0_2 s4).Commit, (ix h0_2 s4).Point_a0, (ix h0_2 s4).Point_a1]
(g1 = g1) ∧ Md.Loop (s4, v3, (0 : Int), h0_0, h0_1, h0_2, h0_3, h0_4, h0_5, h0_6, h0_7, h0_8, h0_9, ((ix h0_2 s4).Commit : Int), ((ix h0_2 s4).Point_a0 : Int), ((ix h0_2 s4).Point_a1 : Int), ((ix h0_2 s4).Cipher : List Int), g1, ()) (kgp (r0, ()) nx2)) ∧
(decide (s4 < (h0_2.length : Int)) = false →
(g1 = g1) ∧ Md.Loop (([h0_3, h0_4, h0_5, h0_6, h0_7] : List Int), (0 : Int), h0_0, h0_1, h0_2, h0_3, h0_4, h0_5, h0_6, h0_7, h0_8, h0_9, g1, ()) (kfl (r0, ())))
set_option maxRecDepth 100000 in
theorem k1hy {r0 : List Int} {h0_0 : Int} {h0_1 : List Int} {h0_2 : List TOut} {h0_3 : Int} {h0_4 : Int} {h0_5 : Int} {h0_6 : Int} {h0_7 : Int} {h0_8 : Int} {h0_9 : List Int} {s4 : Int} {g1 : List Int} (inv : Int → List Int → Prop) (μ : Int → List Int → Nat) (h0 : inv s4 g1) (hs : ∀ (s4 : Int) (g1 : List Int), inv s4 g1 → k128 r0 (fun s : Int × Int × (List Int) × (List TOut) × Int × Int × Int × Int × Int × Int × (List Int) × (List Int) × Unit => ((s.2.1 = h0_0 ∧ s.2.2.1 = h0_1 ∧ s.2.2.2.1 = h0_2 ∧ s.2.2.2.2.1 = h0_3 ∧ s.2.2.2.2.2.1 = h0_4 ∧ s.2.2.2.2.2.2.1 = h0_5 ∧ s.2.2.2.2.2.2.2.1 = h0_6 ∧ s.2.2.2.2.2.2.2.2.1 = h0_7 ∧ s.2.2.2.2.2.2.2.2.2.1 = h0_8 ∧ s.2.2.2.2.2.2.2.2.2.2.1 = h0_9) ∧ inv s.1 s.2.2.2.2.2.2.2.2.2.2.2.1) ∧ μ s.1 s.2.2.2.2.2.2.2.2.2.2.2.1 < μ s4 g1) (fun s4q g1q => inv s4q g1q ∧ μ s4q g1q < μ s4 g1) h0_0 h0_1 h0_2 h0_3 h0_4 h0_5 h0_6 h0_7 h0_8 h0_9 s4 g1) : Md.Loop (s4, h0_0, h0_1, h0_2, h0_3, h0_4, h0_5, h0_6, h0_7, h0_8, h0_9, g1, ()) (kfw (r0, ())) :=
  ⟨⟨fun s : Int × Int × (List Int) × (List TOut) × Int × Int × Int × Int × Int × Int × (List Int) × (List Int) × Unit => (s.2.1 = h0_0 ∧ s.2.2.1 = h0_1 ∧ s.2.2.2.1 = h0_2 ∧ s.2.2.2.2.1 = h0_3 ∧ s.2.2.2.2.2.1 = h0_4 ∧ s.2.2.2.2.2.2.1 = h0_5 ∧ s.2.2.2.2.2.2.2.1 = h0_6 ∧ s.2.2.2.2.2.2.2.2.1 = h0_7 ∧ s.2.2.2.2.2.2.2.2.2.1 = h0_8 ∧ s.2.2.2.2.2.2.2.2.2.2.1 = h0_9) ∧ inv s.1 s.2.2.2.2.2.2.2.2.2.2.2.1, fun s : Int × Int × (List Int) × (List TOut) × Int × Int × Int × Int × Int × Int × (List Int) × (List Int) × Unit => μ s.1 s.2.2.2.2.2.2.2.2.2.2.2.1, ⟨⟨rfl, rfl, rfl, rfl, rfl, rfl, rfl, rfl, rfl, rfl⟩, h0⟩, fun (s4p, h0_0p, h0_1p, h0_2p, h0_3p, h0_4p, h0_5p, h0_6p, h0_7p, h0_8p, h0_9p, g1p, ()) ⟨⟨eq0, eq1, eq2, eq3, eq4, eq5, eq6, eq7, eq8, eq9⟩, hi⟩ => by
    have eq0 : h0_0p = h0_0 := eq0; subst h0_0p; have eq1 : h0_1p = h0_1 := eq1; subst h0_1p; have eq2 : h0_2p = h0_2 := eq2; subst h0_2p; have eq3 : h0_3p = h0_3 := eq3; subst h0_3p; have eq4 : h0_4p = h0_4 := eq4; subst h0_4p; have eq5 : h0_5p = h0_5 := eq5; subst h0_5p; have eq6 : h0_6p = h0_6 := eq6; subst h0_6p; have eq7 : h0_7p = h0_7 := eq7; subst h0_7p; have eq8 : h0_8p = h0_8 := eq8; subst h0_8p; have eq9 : h0_9p = h0_9 := eq9; subst h0_9p; exact mpr_of (by kernel_rfl) ((congrArg (fun k => k128 r0 (fun s : Int × Int × (List Int) × (List TOut) × Int × Int × Int × Int × Int × Int × (List Int) × (List Int) × Unit => ((s.2.1 = h0_0 ∧ s.2.2.1 = h0_1 ∧ s.2.2.2.1 = h0_2 ∧ s.2.2.2.2.1 = h0_3 ∧ s.2.2.2.2.2.1 = h0_4 ∧ s.2.2.2.2.2.2.1 = h0_5 ∧ s.2.2.2.2.2.2.2.1 = h0_6 ∧ s.2.2.2.2.2.2.2.2.1 = h0_7 ∧ s.2.2.2.2.2.2.2.2.2.1 = h0_8 ∧ s.2.2.2.2.2.2.2.2.2.2.1 = h0_9) ∧ inv s.1 s.2.2.2.2.2.2.2.2.2.2.2.1) ∧ μ s.1 s.2.2.2.2.2.2.2.2.2.2.2.1 < μ s4p g1p) k h0_0 h0_1 h0_2 h0_3 h0_4 h0_5 h0_6 h0_7 h0_8 h0_9 s4p g1p) (lpk2 (⟨rfl, rfl, rfl, rfl, rfl, rfl, rfl, rfl, rfl, rfl⟩ : h0_0 = h0_0 ∧ h0_1 = h0_1 ∧ h0_2 = h0_2 ∧ h0_3 = h0_3 ∧ h0_4 = h0_4 ∧ h0_5 = h0_5 ∧ h0_6 = h0_6 ∧ h0_7 = h0_7 ∧ h0_8 = h0_8 ∧ h0_9 = h0_9) inv (fun s4q g1q => μ s4q g1q < μ s4p g1p))).mpr (hs s4p g1p hi))⟩⟩
def k12m (r0 : List Int) (nx2 : HL TB.den k32.hs → Prop) (k1 : Int → List Int → Prop) (s4 : Int) (s6 : List Int) (h0_0 : Int) (h0_1 : List Int) (h0_2 : List TOut) (h0_3 : Int) (h0_4 : Int) (h0_5 : Int) (h0_6 : Int) (h0_7 : Int) (h0_8 : Int) (h0_9 : List Int) (h2_0 : Int) (h2_1 : Int) (h2_2 : Int) (h2_3 : List Int) (s7 : Int) (g1 : List Int) : Prop :=
(decide (s7 < (s6.length : Int)) = true →
(0 ≤ s7) ∧ s7 < (s6.length : Int) ∧ (U64 (ix s6 s7) ∧ 0 ≤ (8 : Int) ∧ (8 : Int) ≤ 8) ∧ g1.length = g1.length ∧ (g1.length + (dig (8 : Int).toNat (ix s6 s7)).length) * 1 ≤ 140737488355328 ∧ g1.length + (dig (8 : Int).toNat (ix s6 s7)).length ≤ maxLen ∧ (g1 ++ (dig (8 : Int).toNat (ix s6 s7)) = g1 ++ (dig (8 : Int).toNat (ix s6 s7))) ∧ k1 (IntKind.i64.wrap (s7 + 1) : Int) (g1 ++ (dig (8 : Int).toNat (ix s6 s7)) : List Int)) ∧
(decide (s7 < (s6.length : Int)) = false →
(Us h2_3 ∧ h2_3.length ≤ 4294967295) ∧ g1.length = g1.length ∧ (g1.length + (encL h2_3).length) * 1 ≤ 140737488355328 ∧ g1.length + (encL h2_3).length ≤ maxLen ∧ (g1 ++ (encL h2_3) = g1 ++ (encL h2_3)) ∧ nx2 ((IntKind.i64.wrap (s4 + 1) : Int), h0_0, h0_1, h0_2, h0_3, h0_4, h0_5, h0_6, h0_7, h0_8, h0_9, (g1 ++ (encL h2_3) : List Int), ()))
set_option maxRecDepth 100000 in
theorem k1hj {r0 : List Int} {nx2 : HL TB.den k32.hs → Prop} {s4 : Int} {s6 : List Int} {h0_0 : Int} {h0_1 : List Int} {h0_2 : List TOut} {h0_3 : Int} {h0_4 : Int} {h0_5 : Int} {h0_6 : Int} {h0_7 : Int} {h0_8 : Int} {h0_9 : List Int} {h2_0 : Int} {h2_1 : Int} {h2_2 : Int} {h2_3 : List Int} {s7 : Int} {g1 : List Int} (inv : Int → List Int → Prop) (μ : Int → List Int → Nat) (h0 : inv s7 g1) (hs : ∀ (s7 : Int) (g1 : List Int), inv s7 g1 → k12m r0 nx2 (fun s7q g1q => inv s7q g1q ∧ μ s7q g1q < μ s7 g1) s4 s6 h0_0 h0_1 h0_2 h0_3 h0_4 h0_5 h0_6 h0_7 h0_8 h0_9 h2_0 h2_1 h2_2 h2_3 s7 g1) : Md.Loop (s4, s6, s7, h0_0, h0_1, h0_2, h0_3, h0_4, h0_5, h0_6, h0_7, h0_8, h0_9, h2_0, h2_1, h2_2, h2_3, g1, ()) (kgp (r0, ()) nx2) :=
  ⟨⟨fun s : Int × (List Int) × Int × Int × (List Int) × (List TOut) × Int × Int × Int × Int × Int × Int × (List Int) × Int × Int × Int × (List Int) × (List Int) × Unit => (s.1 = s4 ∧ s.2.1 = s6 ∧ s.2.2.2.1 = h0_0 ∧ s.2.2.2.2.1 = h0_1 ∧ s.2.2.2.2.2.1 = h0_2 ∧ s.2.2.2.2.2.2.1 = h0_3 ∧ s.2.2.2.2.2.2.2.1 = h0_4 ∧ s.2.2.2.2.2.2.2.2.1 = h0_5 ∧ s.2.2.2.2.2.2.2.2.2.1 = h0_6 ∧ s.2.2.2.2.2.2.2.2.2.2.1 = h0_7 ∧ s.2.2.2.2.2.2.2.2.2.2.2.1 = h0_8 ∧ s.2.2.2.2.2.2.2.2.2.2.2.2.1 = h0_9 ∧ s.2.2.2.2.2.2.2.2.2.2.2.2.2.1 = h2_0 ∧ s.2.2.2.2.2.2.2.2.2.2.2.2.2.2.1 = h2_1 ∧ s.2.2.2.2.2.2.2.2.2.2.2.2.2.2.2.1 = h2_2 ∧ s.2.2.2.2.2.2.2.2.2.2.2.2.2.2.2.2.1 = h2_3) ∧ inv s.2.2.1 s.2.2.2.2.2.2.2.2.2.2.2.2.2.2.2.2.2.1, fun s : Int × (List Int) × Int × Int × (List Int) × (List TOut) × Int × Int × Int × Int × Int × Int × (List Int) × Int × Int × Int × (List Int) × (List Int) × Unit => μ s.2.2.1 s.2.2.2.2.2.2.2.2.2.2.2.2.2.2.2.2.2.1, ⟨⟨rfl, rfl, rfl, rfl, rfl, rfl, rfl, rfl, rfl, rfl, rfl, rfl, rfl, rfl, rfl, rfl⟩, h0⟩, fun (s4p, s6p, s7p, h0_0p, h0_1p, h0_2p, h0_3p, h0_4p, h0_5p, h0_6p, h0_7p, h0_8p, h0_9p, h2_0p, h2_1p, h2_2p, h2_3p, g1p, ()) ⟨⟨eq0, eq1, eq2, eq3, eq4, eq5, eq6, eq7, eq8, eq9, eq10, eq11, eq12, eq13, eq14, eq15⟩, hi⟩ => by
    have eq0 : s4p = s4 := eq0; subst s4p; have eq1 : s6p = s6 := eq1; subst s6p; have eq2 : h0_0p = h0_0 := eq2; subst h0_0p; have eq3 : h0_1p = h0_1 := eq3; subst h0_1p; have eq4 : h0_2p = h0_2 := eq4; subst h0_2p; have eq5 : h0_3p = h0_3 := eq5; subst h0_3p; have eq6 : h0_4p = h0_4 := eq6; subst h0_4p; have eq7 : h0_5p = h0_5 := eq7; subst h0_5p; have eq8 : h0_6p = h0_6 := eq8; subst h0_6p; have eq9 : h0_7p = h0_7 := eq9; subst h0_7p; have eq10 : h0_8p = h0_8 := eq10; subst h0_8p; have eq11 : h0_9p = h0_9 := eq11; subst h0_9p; have eq12 : h2_0p = h2_0 := eq12; subst h2_0p; have eq13 : h2_1p = h2_1 := eq13; subst h2_1p; have eq14 : h2_2p = h2_2 := eq14; subst h2_2p; have eq15 : h2_3p = h2_3 := eq15; subst h2_3p; exact mpr_of (by kernel_rfl) ((congrArg (fun k => k12m r0 nx2 k s4 s6 h0_0 h0_1 h0_2 h0_3 h0_4 h0_5 h0_6 h0_7 h0_8 h0_9 h2_0 h2_1 h2_2 h2_3 s7p g1p) (lpk2 (⟨rfl, rfl, rfl, rfl, rfl, rfl, rfl, rfl, rfl, rfl, rfl, rfl, rfl, rfl, rfl, rfl⟩ : s4 = s4 ∧ s6 = s6 ∧ h0_0 = h0_0 ∧ h0_1 = h0_1 ∧ h0_2 = h0_2 ∧ h0_3 = h0_3 ∧ h0_4 = h0_4 ∧ h0_5 = h0_5 ∧ h0_6 = h0_6 ∧ h0_7 = h0_7 ∧ h0_8 = h0_8 ∧ h0_9 = h0_9 ∧ h2_0 = h2_0 ∧ h2_1 = h2_1 ∧ h2_2 = h2_2 ∧ h2_3 = h2_3) inv (fun s7q g1q => μ s7q g1q < μ s7p g1p))).mpr (hs s7p g1p hi))⟩⟩
def kzh (r0 : List Int) (k3 : Int → List Int → Prop) (s8 : List Int) (h0_0 : Int) (h0_1 : List Int) (h0_2 : List TOut) (h0_3 : Int) (h0_4 : Int) (h0_5 : Int) (h0_6 : Int) (h0_7 : Int) (h0_8 : Int) (h0_9 : List Int) (s9 : Int) (g1 : List Int) : Prop :=
(decide (s9 < (s8.length : Int)) = true →
(0 ≤ s9) ∧ s9 < (s8.length : Int) ∧ (U64 (ix s8 s9) ∧ 0 ≤ (8 : Int) ∧ (8 : Int) ≤ 8) ∧ g1.length = g1.length ∧ (g1.length + (dig (8 : Int).toNat (ix s8 s9)).length) * 1 ≤ 140737488355328 ∧ g1.length + (dig (8 : Int).toNat (ix s8 s9)).length ≤ maxLen ∧ (g1 ++ (dig (8 : Int).toNat (ix s8 s9)) = g1 ++ (dig (8 : Int).toNat (ix s8 s9))) ∧ k3 (IntKind.i64.wrap (s9 + 1) : Int) (g1 ++ (dig (8 : Int).toNat (ix s8 s9)) : List Int)) ∧
(decide (s9 < (s8.length : Int)) = false →
 g1.length = g1.length ∧ (g1.length + (dig 4 (len4 h0_8)).length) * 1 ≤ 140737488355328 ∧ g1.length + (dig 4 (len4 h0_8)).length ≤ maxLen ∧ (h0_9.length ≤ 4294967295) ∧ (g1 ++ (dig 4 (len4 h0_8))).length = (g1 ++ (dig 4 (len4 h0_8))).length ∧ ((g1 ++ (dig 4 (len4 h0_8))).length + (encB h0_9).length) * 1 ≤ 140737488355328 ∧ (g1 ++ (dig 4 (len4 h0_8))).length + (encB h0_9).length ≤ maxLen ∧ let v4 : List Int := (g1 ++ (dig 4 (len4 h0_8))) ++ (encB h0_9)
 v4 = r0)
set_option maxRecDepth 100000 in
theorem k1fd {r0 : List Int} {s8 : List Int} {h0_0 : Int} {h0_1 : List Int} {h0_2 : List TOut} {h0_3 : Int} {h0_4 : Int} {h0_5 : Int} {h0_6 : Int} {h0_7 : Int} {h0_8 : Int} {h0_9 : List Int} {s9 : Int} {g1 : List Int} (inv : Int → List Int → Prop) (μ : Int → List Int → Nat) (h0 : inv s9 g1) (hs : ∀ (s9 : Int) (g1 : List Int), inv s9 g1 → kzh r0 (fun s9q g1q => inv s9q g1q ∧ μ s9q g1q < μ s9 g1) s8 h0_0 h0_1 h0_2 h0_3 h0_4 h0_5 h0_6 h0_7 h0_8 h0_9 s9 g1) : Md.Loop (s8, s9, h0_0, h0_1, h0_2, h0_3, h0_4, h0_5, h0_6, h0_7, h0_8, h0_9, g1, ()) (kfl (r0, ())) :=
  ⟨⟨fun s : (List Int) × Int × Int × (List Int) × (List TOut) × Int × Int × Int × Int × Int × Int × (List Int) × (List Int) × Unit => (s.1 = s8 ∧ s.2.2.1 = h0_0 ∧ s.2.2.2.1 = h0_1 ∧ s.2.2.2.2.1 = h0_2 ∧ s.2.2.2.2.2.1 = h0_3 ∧ s.2.2.2.2.2.2.1 = h0_4 ∧ s.2.2.2.2.2.2.2.1 = h0_5 ∧ s.2.2.2.2.2.2.2.2.1 = h0_6 ∧ s.2.2.2.2.2.2.2.2.2.1 = h0_7 ∧ s.2.2.2.2.2.2.2.2.2.2.1 = h0_8 ∧ s.2.2.2.2.2.2.2.2.2.2.2.1 = h0_9) ∧ inv s.2.1 s.2.2.2.2.2.2.2.2.2.2.2.2.1, fun s : (List Int) × Int × Int × (List Int) × (List TOut) × Int × Int × Int × Int × Int × Int × (List Int) × (List Int) × Unit => μ s.2.1 s.2.2.2.2.2.2.2.2.2.2.2.2.1, ⟨⟨rfl, rfl, rfl, rfl, rfl, rfl, rfl, rfl, rfl, rfl, rfl⟩, h0⟩, fun (s8p, s9p, h0_0p, h0_1p, h0_2p, h0_3p, h0_4p, h0_5p, h0_6p, h0_7p, h0_8p, h0_9p, g1p, ()) ⟨⟨eq0, eq1, eq2, eq3, eq4, eq5, eq6, eq7, eq8, eq9, eq10⟩, hi⟩ => by
    have eq0 : s8p = s8 := eq0; subst s8p; have eq1 : h0_0p = h0_0 := eq1; subst h0_0p; have eq2 : h0_1p = h0_1 := eq2; subst h0_1p; have eq3 : h0_2p = h0_2 := eq3; subst h0_2p; have eq4 : h0_3p = h0_3 := eq4; subst h0_3p; have eq5 : h0_4p = h0_4 := eq5; subst h0_4p; have eq6 : h0_5p = h0_5 := eq6; subst h0_5p; have eq7 : h0_6p = h0_6 := eq7; subst h0_6p; have eq8 : h0_7p = h0_7 := eq8; subst h0_7p; have eq9 : h0_8p = h0_8 := eq9; subst h0_8p; have eq10 : h0_9p = h0_9 := eq10; subst h0_9p; exact mpr_of (by kernel_rfl) ((congrArg (fun k => kzh r0 k s8 h0_0 h0_1 h0_2 h0_3 h0_4 h0_5 h0_6 h0_7 h0_8 h0_9 s9p g1p) (lpk2 (⟨rfl, rfl, rfl, rfl, rfl, rfl, rfl, rfl, rfl, rfl, rfl⟩ : s8 = s8 ∧ h0_0 = h0_0 ∧ h0_1 = h0_1 ∧ h0_2 = h0_2 ∧ h0_3 = h0_3 ∧ h0_4 = h0_4 ∧ h0_5 = h0_5 ∧ h0_6 = h0_6 ∧ h0_7 = h0_7 ∧ h0_8 = h0_8 ∧ h0_9 = h0_9) inv (fun s9q g1q => μ s9q g1q < μ s9p g1p))).mpr (hs s9p g1p hi))⟩⟩
theorem bd16 : Callable Try.prog 16 := ⟨by rw [Try.func16]; kernel_rfl, by rw [Try.func16]; show some _ ≠ some _; decide⟩
theorem k1bp (p0 : TTx) (h : TR p0 ∧ TL p0 ∧ p0.Outs.length ≤ 1048576 ∧ (∀ x ∈ p0.Outs, x.Cipher.length ≤ 1024)) : kmw (p0.Anchor, p0.Marks, p0.Outs, p0.Deposit, p0.Withdraw, p0.Fee, p0.Account, p0.Nonce, p0.Expiry, p0.Proof, ()) ((encT p0 p0.Proof : List Int), ()) := by
  obtain ⟨hr, hl, ho, hc⟩ := h
  have hm := hl.m
  have hpl := hl.p
  refine k1ib ⟨⟨hr.a, by omega⟩, ⟨hr.m, hm⟩, rfl, ?_, ?_, rfl, ?_, ?_, rfl, ?_⟩
  · simp; omega
  · simp; unfold maxLen; omega
  · simp; omega
  · simp; unfold maxLen; omega
  have hb := fun i : Int => kcu (p0.Outs.take i.toNat) 1024 (fun x hx => hc x (List.mem_of_mem_take hx))
  have hb : ∀ i : Int, ((p0.Outs.take i.toNat).flatMap encO).length ≤ 8700000000 := by
    intro i
    have := hb i
    rw [List.length_take] at this
    refine Nat.le_trans this ?_
    have : min i.toNat p0.Outs.length ≤ 1048576 := by omega
    have := Nat.mul_le_mul_left (28 + 8 * 1024) this
    omega
  have hpre : (dig 8 p0.Anchor ++ encL p0.Marks ++ dig 4 (len4 p0.Outs.length)).length ≤ 40000000000 := by simp; omega
  generalize hP : dig 8 p0.Anchor ++ encL p0.Marks ++ dig 4 (len4 p0.Outs.length) = P at *
  refine k1hy (fun i g => 0 ≤ i ∧ i ≤ p0.Outs.length ∧ g = P ++ (p0.Outs.take i.toNat).flatMap encO) (fun i _ => (p0.Outs.length - i).toNat) ⟨by omega, by omega, by rw [← hP]; simp⟩ ?_
  rintro i g ⟨g0, g1, rfl⟩
  have hbi := hb i
  generalize hB : P ++ (p0.Outs.take i.toNat).flatMap encO = B at *
  have hBl : B.length ≤ 50000000000 := by rw [← hB, List.length_append]; omega
  refine ⟨fun h => ?_, fun h => ?_⟩
  · have h := of_decide_eq_true h
    have hx := hr.o _ (ix_mem p0.Outs i g0 h)
    have hxc := hc _ (ix_mem p0.Outs i g0 h)
    refine ⟨g0, h, rfl, ?_⟩
    refine k1hj (fun k g => 0 ≤ k ∧ k ≤ 3 ∧ g = B ++ ([(ix p0.Outs i).Commit, (ix p0.Outs i).Point_a0, (ix p0.Outs i).Point_a1].take k.toNat).flatMap (dig 8)) (fun k _ => (3 - k).toNat) ⟨by omega, by omega, by simp⟩ ?_
    rintro k g ⟨k0, k1, rfl⟩
    have hul : Us [(ix p0.Outs i).Commit, (ix p0.Outs i).Point_a0, (ix p0.Outs i).Point_a1] := by
      intro x hx'
      simp only [List.mem_cons, List.not_mem_nil, or_false] at hx'
      rcases hx' with rfl | rfl | rfl
      · exact hx.c
      · exact hx.p0
      · exact hx.p1
    have hll : ([(ix p0.Outs i).Commit, (ix p0.Outs i).Point_a0, (ix p0.Outs i).Point_a1].length : Int) = 3 := rfl
    generalize hLd : [(ix p0.Outs i).Commit, (ix p0.Outs i).Point_a0, (ix p0.Outs i).Point_a1] = Lc at *
    have hgl : (B ++ (Lc.take k.toNat).flatMap (dig 8)).length ≤ 50000000024 := by simp only [List.length_append, k87, List.length_take]; omega
    refine ⟨fun hk => ?_, fun hk => ?_⟩
    · have hk := of_decide_eq_true hk
      rw [inc k 3 k0 (by omega) (by omega)]
      refine ⟨k0, hk, ⟨hul _ (ix_mem Lc k k0 hk), by omega⟩, rfl, ?_, ?_, rfl, ⟨by omega, by omega, ?_⟩, by omega⟩
      · rw [k1i]; omega
      · rw [k1i]; unfold maxLen; omega
      · rw [ka Lc k k0 hk, List.flatMap_append, List.append_assoc]
        simp
    · have hk := of_decide_eq_false hk
      rw [List.take_of_length_le (by omega)] at hgl ⊢
      have hi := inc i p0.Outs.length g0 h (by omega)
      rw [hi]
      have nxt : (0 ≤ i + 1 ∧ i + 1 ≤ p0.Outs.length ∧ B ++ Lc.flatMap (dig 8) ++ encL (ix p0.Outs i).Cipher = P ++ (p0.Outs.take (i + 1).toNat).flatMap encO) ∧ (p0.Outs.length - (i + 1)).toNat < (p0.Outs.length - i).toNat := by
        refine ⟨⟨by omega, by omega, ?_⟩, by omega⟩
        rw [ka p0.Outs i g0 h, List.flatMap_append, ← List.append_assoc, hB, ← hLd]
        simp [encO, List.append_assoc]
      refine ⟨⟨hx.ci, by omega⟩, rfl, ?_, ?_, rfl, ⟨⟨rfl, rfl, rfl, rfl, rfl, rfl, rfl, rfl, rfl, rfl⟩, nxt.1⟩, nxt.2⟩
      · rw [k9e]; omega
      · rw [k9e]; unfold maxLen; omega
  · have h := of_decide_eq_false h
    refine ⟨rfl, ?_⟩
    have hul : Us [p0.Deposit, p0.Withdraw, p0.Fee, p0.Account, p0.Nonce] := by
      intro x hx'
      simp only [List.mem_cons, List.not_mem_nil, or_false] at hx'
      rcases hx' with rfl | rfl | rfl | rfl | rfl
      · exact hr.d
      · exact hr.w
      · exact hr.f
      · exact hr.ac
      · exact hr.n
    have hll : ([p0.Deposit, p0.Withdraw, p0.Fee, p0.Account, p0.Nonce].length : Int) = 5 := rfl
    refine k1fd (fun k g => 0 ≤ k ∧ k ≤ 5 ∧ g = B ++ ([p0.Deposit, p0.Withdraw, p0.Fee, p0.Account, p0.Nonce].take k.toNat).flatMap (dig 8)) (fun k _ => (5 - k).toNat) ⟨by omega, by omega, by simp⟩ ?_
    rintro k g ⟨k0, k1, rfl⟩
    generalize hLd : [p0.Deposit, p0.Withdraw, p0.Fee, p0.Account, p0.Nonce] = Lc at *
    have hgl : (B ++ (Lc.take k.toNat).flatMap (dig 8)).length ≤ 50000000040 := by simp only [List.length_append, k87, List.length_take]; omega
    refine ⟨fun hk => ?_, fun hk => ?_⟩
    · have hk := of_decide_eq_true hk
      rw [inc k 5 k0 (by omega) (by omega)]
      refine ⟨k0, hk, ⟨hul _ (ix_mem Lc k k0 hk), by omega⟩, rfl, ?_, ?_, rfl, ⟨by omega, by omega, ?_⟩, by omega⟩
      · rw [k1i]; omega
      · rw [k1i]; unfold maxLen; omega
      · rw [ka Lc k k0 hk, List.flatMap_append, List.append_assoc]
        simp
    · have hk := of_decide_eq_false hk
      rw [List.take_of_length_le (by omega)] at hgl ⊢
      refine ⟨rfl, ?_, ?_, hpl, by trivial, ?_, ?_, ?_⟩
      · rw [k1i]; omega
      · rw [k1i]; unfold maxLen; omega
      · rw [List.length_append, k1i, keq]; omega
      · rw [List.length_append, k1i, keq]; unfold maxLen; omega
      · rw [← hB, ← hLd, ← hP, List.take_of_length_le (by omega)]
        simp [encT, List.append_assoc]
noncomputable def kiq : Con TB.den := k1z.fnR (fun x => (fun (p0 : TTx) => TR p0 ∧ TL p0 ∧ p0.Outs.length ≤ 1048576 ∧ (∀ x ∈ p0.Outs, x.Cipher.length ≤ 1024)) (TTx.mk x.1 x.2.1 x.2.2.1 x.2.2.2.1 x.2.2.2.2.1 x.2.2.2.2.2.1 x.2.2.2.2.2.2.1 x.2.2.2.2.2.2.2.1 x.2.2.2.2.2.2.2.2.1 x.2.2.2.2.2.2.2.2.2.1)) fun x => ((fun (p0 : TTx) => (encT p0 p0.Proof : List Int)) (TTx.mk x.1 x.2.1 x.2.2.1 x.2.2.2.1 x.2.2.2.2.1 x.2.2.2.2.2.1 x.2.2.2.2.2.2.1 x.2.2.2.2.2.2.2.1 x.2.2.2.2.2.2.2.2.1 x.2.2.2.2.2.2.2.2.2.1), ())
theorem kqm : kiq.Ok Try.prog TB := Con.ok_fn k1z bd16 fun x h => k1gf (k1bp (TTx.mk x.1 x.2.1 x.2.2.1 x.2.2.2.1 x.2.2.2.2.1 x.2.2.2.2.2.1 x.2.2.2.2.2.2.1 x.2.2.2.2.2.2.2.1 x.2.2.2.2.2.2.2.2.1 x.2.2.2.2.2.2.2.2.2.1) h)
end Go.Proofs.Ytnmakgfmimagmaa
namespace Go.Proofs.Ytnmakgfmimagmaa
open Go Go.Bv Go.Cv Go.Md Go.RowKit
def k13 : Con TB.den := Con.mk0 66 [.one (.d (.sl (.int .u8))), .one (.d (.sl (.int .u8)))] [] (.one (.one (.d (.bool)))) []
abbrev krt := HL TB.den (hsT k13.ins (hsOs k13.pre))
abbrev k5n := HL TB.den (hsV k13.res (hsOs k13.post))
noncomputable def k4p : Cx TB := ⟨inf, [], [], 4⟩
noncomputable def k88 : Code := Try.f66.body.getD .skip
noncomputable def kaj : List ResultVar := Try.f66.results.toList
noncomputable def k15f (o : k5n) : Exit → TSt TB.den → Prop := thenT TB (fun s => ghs TB [] s fun s => WP TB k4p 26 0 (cB (cB (cB k88))) .no s (retTQ TB k4p k13 kaj o)) (retTQ TB k4p k13 kaj o)
def k65 : Tm := ⟨[], [], [0, 1, 5], [.one (.d (.sl (.int .u8))), .one (.d (.sl (.int .u8))), .one (.d (.int .i64))], 0⟩
noncomputable def k17r (o : k5n) (nx1 : HL TB.den k65.hs → Prop) : Exit → TSt TB.den → Prop := thenT TB (fun s => k65.mat TB 0 s nx1) (blockT TB 0 (k15f o))
noncomputable def k9x (o : k5n) (nx1 : HL TB.den k65.hs → Prop) (i : HL TB.den k65.hs) : Prop := WP TB k4p 26 0 (cA (cA (cB (cA (cB (cB k88)))))) .no (k65.fill TB i) (k17r o nx1)
noncomputable def k172 (o : k5n) : An TB := .nd [] .no [] (.lp [] k65 (k9x o) fun nx1 => .no)
noncomputable def kqg (o : k5n) : An TB := .nd [] .no [] (.nd [] .no [] (.nd [] (k172 o) [] .no))
noncomputable def kgl (x : krt) (o : k5n) : Prop := WPh TB k4p 26 0 k88 (kqg o) (k13.st TB x) (retTQ TB k4p k13 kaj o)
set_option maxRecDepth 100000 in
theorem k13f (o : k5n) : OblH TB k4p 26 0 k88 (kqg o) (retTQ TB k4p k13 kaj o) :=
  OblH.of_eq (X := (True ∧ ((True ∧ ((True ∧ True) ∧ True)) ∧ ((True ∧ ((∀ nx i, (k9x o) nx i = (k9x o) nx i) ∧ ∀ nx1 : HL TB.den k65.hs → Prop, ((True ∧ (True ∧ True)) ∧ ((True ∧ ((True ∧ True) ∧ True)) ∧ True)))) ∧ (True ∧ True))))) (by kernel_rfl) ⟨trivial, ⟨⟨trivial, ⟨⟨trivial, trivial⟩, trivial⟩⟩, ⟨⟨trivial, ⟨fun _ _ => rfl, fun _ => ⟨⟨trivial, ⟨trivial, trivial⟩⟩, ⟨⟨trivial, ⟨⟨trivial, trivial⟩, trivial⟩⟩, trivial⟩⟩⟩⟩, ⟨trivial, trivial⟩⟩⟩⟩
set_option maxRecDepth 100000 in
theorem k12v {x : krt} {o : k5n} (h : kgl x o) : SoundH Try.prog k13.f ((k13.args idf x).map (er TB)) ((k13.obs idf x).map (erO TB)) (er TB (k13.val idf o)) ((k13.ops idf o).map (erO TB)) :=
  Con.soundH (c := k13) (C := k4p) TBok ⟨inf_ok, all_nil, all_nil⟩ mix Try.func66 (show Try.f66.body = some k88 by kernel_rfl) (show Try.f66.ntmps = 26 by kernel_rfl) (show Try.f66.results.toList = kaj by kernel_rfl) rfl h (k13f o)
set_option maxRecDepth 100000 in
theorem k17g {p0 : List Int} {p1 : List Int} {r0 : Bool} (h :
((((p0.length : Int) != (p1.length : Int)) = true →
 false = r0) ∧
(((p0.length : Int) != (p1.length : Int)) = false →
 Md.Loop (p0, p1, (0 : Int), ()) (k9x (r0, ()))))) : kgl (p0, p1, ()) (r0, ()) := WPh.of_eq (by kernel_rfl) h
def kqx (r0 : Bool) (k1 : Int → Prop) (s0 : List Int) (s1 : List Int) (s5 : Int) : Prop :=
(decide (s5 < (s0.length : Int)) = true →
(0 ≤ s5) ∧ s5 < (s0.length : Int) ∧ (0 ≤ s5) ∧ s5 < (s1.length : Int) ∧ (((ix s0 s5) != (ix s1 s5)) = true →
 false = r0) ∧
(((ix s0 s5) != (ix s1 s5)) = false →
 k1 (IntKind.i64.wrap (s5 + 1) : Int))) ∧
(decide (s5 < (s0.length : Int)) = false →
 true = r0)
set_option maxRecDepth 100000 in
theorem k136 {r0 : Bool} {s0 : List Int} {s1 : List Int} {s5 : Int} (inv : Int → Prop) (μ : Int → Nat) (h0 : inv s5) (hs : ∀ (s5 : Int), inv s5 → kqx r0 (fun s5q => inv s5q ∧ μ s5q < μ s5) s0 s1 s5) : Md.Loop (s0, s1, s5, ()) (k9x (r0, ())) :=
  ⟨⟨fun s : (List Int) × (List Int) × Int × Unit => (s.1 = s0 ∧ s.2.1 = s1) ∧ inv s.2.2.1, fun s : (List Int) × (List Int) × Int × Unit => μ s.2.2.1, ⟨⟨rfl, rfl⟩, h0⟩, fun (s0p, s1p, s5p, ()) ⟨⟨eq0, eq1⟩, hi⟩ => by
    have eq0 : s0p = s0 := eq0; subst s0p; have eq1 : s1p = s1 := eq1; subst s1p; exact mpr_of (by kernel_rfl) ((congrArg (fun k => kqx r0 k s0 s1 s5p) (lpk1 (⟨rfl, rfl⟩ : s0 = s0 ∧ s1 = s1) inv (fun s5q => μ s5q < μ s5p))).mpr (hs s5p hi))⟩⟩
theorem bd66 : Callable Try.prog 66 := ⟨by rw [Try.func66]; kernel_rfl, by rw [Try.func66]; show some _ ≠ some _; decide⟩
theorem k12e (p0 : List Int) (p1 : List Int) (h : p0.length ≤ 9223372036854775807) : kgl (p0, p1, ()) ((decide (p0 = p1) : Bool), ()) := by
  refine k17g ⟨fun e => ?_, fun e => ?_⟩
  · have e : ¬ (p0.length : Int) = p1.length := by simpa using e
    rw [decide_eq_false (by rintro rfl; exact e rfl)]
  · have e : (p0.length : Int) = p1.length := by simpa using e
    refine k136 (fun i => 0 ≤ i ∧ i ≤ p0.length ∧ p0.take i.toNat = p1.take i.toNat) (fun i => (p0.length - i).toNat) ⟨by omega, by omega, by simp⟩ ?_
    rintro i ⟨g0, g1, g2⟩
    refine ⟨fun hh => ?_, fun hh => ?_⟩
    · have hh := of_decide_eq_true hh
      refine ⟨g0, hh, g0, by omega, fun e2 => ?_, fun e2 => ?_⟩
      · have e2 : ¬ ix p0 i = ix p1 i := by simpa using e2
        rw [decide_eq_false (by rintro rfl; exact e2 rfl)]
      · have e2 : ix p0 i = ix p1 i := by simpa using e2
        rw [inc i p0.length g0 hh (by omega)]
        refine ⟨⟨by omega, by omega, ?_⟩, by omega⟩
        rw [ka p0 i g0 hh, ka p1 i g0 (by omega), g2, e2]
    · have hh := of_decide_eq_false hh
      rw [List.take_of_length_le (by omega), List.take_of_length_le (by omega)] at g2
      rw [decide_eq_true g2]
noncomputable def kp3 : Con TB.den := k13.fnR (fun x => (fun (p0 : List Int) (p1 : List Int) => p0.length ≤ 9223372036854775807) x.1 x.2.1) fun x => ((fun (p0 : List Int) (p1 : List Int) => (decide (p0 = p1) : Bool)) x.1 x.2.1, ())
theorem k15g : kp3.Ok Try.prog TB := Con.ok_fn k13 bd66 fun x h => k12v (k12e x.1 x.2.1 h)
end Go.Proofs.Ytnmakgfmimagmaa
namespace Go.Proofs.Ytnmakgfmimagmaa
open Go Go.Bv Go.Cv Go.Md Go.RowKit
def k39 : Con TB.den := Con.mk0 40 [.agg [.d (.int .u64), .d (.sl (.int .u64)), .d (.sl (.st 0)), .d (.int .u64), .d (.int .u64), .d (.int .u64), .d (.int .u64), .d (.int .u64), .d (.int .i64), .d (.sl (.int .u8))], .agg [.d (.int .u64), .d (.sl (.int .u64)), .d (.sl (.st 0)), .d (.int .u64), .d (.int .u64), .d (.int .u64), .d (.int .u64), .d (.int .u64), .d (.int .i64), .d (.sl (.int .u8))]] [] (.one (.one (.d (.bool)))) []
abbrev k19l := HL TB.den (hsT k39.ins (hsOs k39.pre))
abbrev kbm := HL TB.den (hsV k39.res (hsOs k39.post))
noncomputable def k7t : Cx TB := ⟨inf, [kiq, kp3], [], 4⟩
noncomputable def keg : Code := Try.f40.body.getD .skip
noncomputable def ki7 : List ResultVar := Try.f40.results.toList
noncomputable def k1n6 (o : kbm) : Exit → TSt TB.den → Prop := thenT TB (fun s => ghs TB [] s fun s => WP TB k7t 47 0 (cB (cB (cB keg))) .no s (retTQ TB k7t k39 ki7 o)) (retTQ TB k7t k39 ki7 o)
def kbt : Tm := ⟨[0, 1], [.cells [.d (.int .u64), .d (.sl (.int .u64)), .d (.sl (.st 0)), .d (.int .u64), .d (.int .u64), .d (.int .u64), .d (.int .u64), .d (.int .u64), .d (.int .i64), .d (.sl (.int .u8))], .cells [.d (.int .u64), .d (.sl (.int .u64)), .d (.sl (.st 0)), .d (.int .u64), .d (.int .u64), .d (.int .u64), .d (.int .u64), .d (.int .u64), .d (.int .i64), .d (.sl (.int .u8))]], [2, 3, 5], [.one (.ptr 0 0), .one (.ptr 1 0), .one (.d (.int .i64))], 2⟩
noncomputable def k1mh (o : kbm) (nx1 : HL TB.den kbt.hs → Prop) : Exit → TSt TB.den → Prop := thenT TB (fun s => kbt.mat TB 0 s nx1) (blockT TB 0 (k1n6 o))
noncomputable def kih (o : kbm) (nx1 : HL TB.den kbt.hs → Prop) (i : HL TB.den kbt.hs) : Prop := WP TB k7t 47 0 (cA (cA (cB (cA (cB (cB keg)))))) .no (kbt.fill TB i) (k1mh o nx1)
noncomputable def k1n5 (o : kbm) : An TB := .nd [] .no [] (.lp [] kbt (kih o) fun nx1 => .no)
noncomputable def k14x (o : kbm) : An TB := .nd [] .no [] (.nd [] .no [] (.nd [] (k1n5 o) [] .no))
noncomputable def koh (x : k19l) (o : kbm) : Prop := WPh TB k7t 47 0 keg (k14x o) (k39.st TB x) (retTQ TB k7t k39 ki7 o)
set_option maxRecDepth 100000 in
theorem k1kp (o : kbm) : OblH TB k7t 47 0 keg (k14x o) (retTQ TB k7t k39 ki7 o) :=
  OblH.of_eq (X := (True ∧ ((True ∧ ((True ∧ True) ∧ True)) ∧ ((True ∧ ((∀ nx i, (kih o) nx i = (kih o) nx i) ∧ ∀ nx1 : HL TB.den kbt.hs → Prop, ((True ∧ (True ∧ True)) ∧ ((True ∧ ((True ∧ True) ∧ True)) ∧ True)))) ∧ (True ∧ True))))) (by kernel_rfl) ⟨trivial, ⟨⟨trivial, ⟨⟨trivial, trivial⟩, trivial⟩⟩, ⟨⟨trivial, ⟨fun _ _ => rfl, fun _ => ⟨⟨trivial, ⟨trivial, trivial⟩⟩, ⟨⟨trivial, ⟨⟨trivial, trivial⟩, trivial⟩⟩, trivial⟩⟩⟩⟩, ⟨trivial, trivial⟩⟩⟩⟩
set_option maxRecDepth 100000 in
theorem k1lq {x : k19l} {o : kbm} (h : koh x o) : SoundH Try.prog k39.f ((k39.args idf x).map (er TB)) ((k39.obs idf x).map (erO TB)) (er TB (k39.val idf o)) ((k39.ops idf o).map (erO TB)) :=
  Con.soundH (c := k39) (C := k7t) TBok ⟨inf_ok, (all_cons kqm (all_cons k15g all_nil)), all_nil⟩ mix Try.func40 (show Try.f40.body = some keg by kernel_rfl) (show Try.f40.ntmps = 47 by kernel_rfl) (show Try.f40.results.toList = ki7 by kernel_rfl) rfl h (k1kp o)
set_option maxRecDepth 100000 in
theorem k1n3 {p0 : TTx} {p1 : TTx} {r0 : Bool} (h :
(let v1 : Bool := ((p0.Outs.length : Int) != (p1.Outs.length : Int))
(v1 = true →
 false = r0) ∧
(v1 = false →
((p0.Expiry != p1.Expiry) = true →
 false = r0) ∧
((p0.Expiry != p1.Expiry) = false →
 Md.Loop ((0 : Int), p0.Anchor, p0.Marks, p0.Outs, p0.Deposit, p0.Withdraw, p0.Fee, p0.Account, p0.Nonce, p0.Expiry, p0.Proof, p1.Anchor, p1.Marks, p1.Outs, p1.Deposit, p1.Withdraw, p1.Fee, p1.Account, p1.Nonce, p1.Expiry, p1.Proof, ()) (kih (r0, ())))))) : koh (p0.Anchor, p0.Marks, p0.Outs, p0.Deposit, p0.Withdraw, p0.Fee, p0.Account, p0.Nonce, p0.Expiry, p0.Proof, p1.Anchor, p1.Marks, p1.Outs, p1.Deposit, p1.Withdraw, p1.Fee, p1.Account, p1.Nonce, p1.Expiry, p1.Proof, ()) (r0, ()) := WPh.of_eq (by kernel_rfl) h
def k141 (r0 : Bool) (k1 : Int → Prop) (h0_0 : Int) (h0_1 : List Int) (h0_2 : List TOut) (h0_3 : Int) (h0_4 : Int) (h0_5 : Int) (h0_6 : Int) (h0_7 : Int) (h0_8 : Int) (h0_9 : List Int) (h1_0 : Int) (h1_1 : List Int) (h1_2 : List TOut) (h1_3 : Int) (h1_4 : Int) (h1_5 : Int) (h1_6 : Int) (h1_7 : Int) (h1_8 : Int) (h1_9 : List Int) (s5 : Int) : Prop :=
(decide (s5 < (h0_2.length : Int)) = true →
(0 ≤ s5) ∧ s5 < (h0_2.length : Int) ∧ (0 ≤ s5) ∧ s5 < (h1_2.length : Int) ∧ let v2 : Bool := ((((ix h0_2 s5).Cipher).length : Int) != (((ix h1_2 s5).Cipher).length : Int))
(v2 = true →
 false = r0) ∧
(v2 = false →
 k1 (IntKind.i64.wrap (s5 + 1) : Int))) ∧
(decide (s5 < (h0_2.length : Int)) = false →
(TR (TTx.mk h0_0 h0_1 h0_2 h0_3 h0_4 h0_5 h0_6 h0_7 h0_8 h0_9) ∧ TL (TTx.mk h0_0 h0_1 h0_2 h0_3 h0_4 h0_5 h0_6 h0_7 h0_8 h0_9) ∧ (TTx.mk h0_0 h0_1 h0_2 h0_3 h0_4 h0_5 h0_6 h0_7 h0_8 h0_9).Outs.length ≤ 1048576 ∧ (∀ x ∈ (TTx.mk h0_0 h0_1 h0_2 h0_3 h0_4 h0_5 h0_6 h0_7 h0_8 h0_9).Outs, x.Cipher.length ≤ 1024)) ∧ let r3 : List Int := encT (TTx.mk h0_0 h0_1 h0_2 h0_3 h0_4 h0_5 h0_6 h0_7 h0_8 h0_9) (TTx.mk h0_0 h0_1 h0_2 h0_3 h0_4 h0_5 h0_6 h0_7 h0_8 h0_9).Proof
(TR (TTx.mk h1_0 h1_1 h1_2 h1_3 h1_4 h1_5 h1_6 h1_7 h1_8 h1_9) ∧ TL (TTx.mk h1_0 h1_1 h1_2 h1_3 h1_4 h1_5 h1_6 h1_7 h1_8 h1_9) ∧ (TTx.mk h1_0 h1_1 h1_2 h1_3 h1_4 h1_5 h1_6 h1_7 h1_8 h1_9).Outs.length ≤ 1048576 ∧ (∀ x ∈ (TTx.mk h1_0 h1_1 h1_2 h1_3 h1_4 h1_5 h1_6 h1_7 h1_8 h1_9).Outs, x.Cipher.length ≤ 1024)) ∧ let r4 : List Int := encT (TTx.mk h1_0 h1_1 h1_2 h1_3 h1_4 h1_5 h1_6 h1_7 h1_8 h1_9) (TTx.mk h1_0 h1_1 h1_2 h1_3 h1_4 h1_5 h1_6 h1_7 h1_8 h1_9).Proof
(r3.length ≤ 9223372036854775807) ∧ decide (r3 = r4) = r0)
set_option maxRecDepth 100000 in
theorem k1iu {r0 : Bool} {h0_0 : Int} {h0_1 : List Int} {h0_2 : List TOut} {h0_3 : Int} {h0_4 : Int} {h0_5 : Int} {h0_6 : Int} {h0_7 : Int} {h0_8 : Int} {h0_9 : List Int} {h1_0 : Int} {h1_1 : List Int} {h1_2 : List TOut} {h1_3 : Int} {h1_4 : Int} {h1_5 : Int} {h1_6 : Int} {h1_7 : Int} {h1_8 : Int} {h1_9 : List Int} {s5 : Int} (inv : Int → Prop) (μ : Int → Nat) (h0 : inv s5) (hs : ∀ (s5 : Int), inv s5 → k141 r0 (fun s5q => inv s5q ∧ μ s5q < μ s5) h0_0 h0_1 h0_2 h0_3 h0_4 h0_5 h0_6 h0_7 h0_8 h0_9 h1_0 h1_1 h1_2 h1_3 h1_4 h1_5 h1_6 h1_7 h1_8 h1_9 s5) : Md.Loop (s5, h0_0, h0_1, h0_2, h0_3, h0_4, h0_5, h0_6, h0_7, h0_8, h0_9, h1_0, h1_1, h1_2, h1_3, h1_4, h1_5, h1_6, h1_7, h1_8, h1_9, ()) (kih (r0, ())) :=
  ⟨⟨fun s : Int × Int × (List Int) × (List TOut) × Int × Int × Int × Int × Int × Int × (List Int) × Int × (List Int) × (List TOut) × Int × Int × Int × Int × Int × Int × (List Int) × Unit => (s.2.1 = h0_0 ∧ s.2.2.1 = h0_1 ∧ s.2.2.2.1 = h0_2 ∧ s.2.2.2.2.1 = h0_3 ∧ s.2.2.2.2.2.1 = h0_4 ∧ s.2.2.2.2.2.2.1 = h0_5 ∧ s.2.2.2.2.2.2.2.1 = h0_6 ∧ s.2.2.2.2.2.2.2.2.1 = h0_7 ∧ s.2.2.2.2.2.2.2.2.2.1 = h0_8 ∧ s.2.2.2.2.2.2.2.2.2.2.1 = h0_9 ∧ s.2.2.2.2.2.2.2.2.2.2.2.1 = h1_0 ∧ s.2.2.2.2.2.2.2.2.2.2.2.2.1 = h1_1 ∧ s.2.2.2.2.2.2.2.2.2.2.2.2.2.1 = h1_2 ∧ s.2.2.2.2.2.2.2.2.2.2.2.2.2.2.1 = h1_3 ∧ s.2.2.2.2.2.2.2.2.2.2.2.2.2.2.2.1 = h1_4 ∧ s.2.2.2.2.2.2.2.2.2.2.2.2.2.2.2.2.1 = h1_5 ∧ s.2.2.2.2.2.2.2.2.2.2.2.2.2.2.2.2.2.1 = h1_6 ∧ s.2.2.2.2.2.2.2.2.2.2.2.2.2.2.2.2.2.2.1 = h1_7 ∧ s.2.2.2.2.2.2.2.2.2.2.2.2.2.2.2.2.2.2.2.1 = h1_8 ∧ s.2.2.2.2.2.2.2.2.2.2.2.2.2.2.2.2.2.2.2.2.1 = h1_9) ∧ inv s.1, fun s : Int × Int × (List Int) × (List TOut) × Int × Int × Int × Int × Int × Int × (List Int) × Int × (List Int) × (List TOut) × Int × Int × Int × Int × Int × Int × (List Int) × Unit => μ s.1, ⟨⟨rfl, rfl, rfl, rfl, rfl, rfl, rfl, rfl, rfl, rfl, rfl, rfl, rfl, rfl, rfl, rfl, rfl, rfl, rfl, rfl⟩, h0⟩, fun (s5p, h0_0p, h0_1p, h0_2p, h0_3p, h0_4p, h0_5p, h0_6p, h0_7p, h0_8p, h0_9p, h1_0p, h1_1p, h1_2p, h1_3p, h1_4p, h1_5p, h1_6p, h1_7p, h1_8p, h1_9p, ()) ⟨⟨eq0, eq1, eq2, eq3, eq4, eq5, eq6, eq7, eq8, eq9, eq10, eq11, eq12, eq13, eq14, eq15, eq16, eq17, eq18, eq19⟩, hi⟩ => by
    have eq0 : h0_0p = h0_0 := eq0; subst h0_0p; have eq1 : h0_1p = h0_1 := eq1; subst h0_1p; have eq2 : h0_2p = h0_2 := eq2; subst h0_2p; have eq3 : h0_3p = h0_3 := eq3; subst h0_3p; have eq4 : h0_4p = h0_4 := eq4; subst h0_4p; have eq5 : h0_5p = h0_5 := eq5; subst h0_5p; have eq6 : h0_6p = h0_6 := eq6; subst h0_6p; have eq7 : h0_7p = h0_7 := eq7; subst h0_7p; have eq8 : h0_8p = h0_8 := eq8; subst h0_8p; have eq9 : h0_9p = h0_9 := eq9; subst h0_9p; have eq10 : h1_0p = h1_0 := eq10; subst h1_0p; have eq11 : h1_1p = h1_1 := eq11; subst h1_1p; have eq12 : h1_2p = h1_2 := eq12; subst h1_2p; have eq13 : h1_3p = h1_3 := eq13; subst h1_3p; have eq14 : h1_4p = h1_4 := eq14; subst h1_4p; have eq15 : h1_5p = h1_5 := eq15; subst h1_5p; have eq16 : h1_6p = h1_6 := eq16; subst h1_6p; have eq17 : h1_7p = h1_7 := eq17; subst h1_7p; have eq18 : h1_8p = h1_8 := eq18; subst h1_8p; have eq19 : h1_9p = h1_9 := eq19; subst h1_9p; exact mpr_of (by kernel_rfl) ((congrArg (fun k => k141 r0 k h0_0 h0_1 h0_2 h0_3 h0_4 h0_5 h0_6 h0_7 h0_8 h0_9 h1_0 h1_1 h1_2 h1_3 h1_4 h1_5 h1_6 h1_7 h1_8 h1_9 s5p) (lpk1 (⟨rfl, rfl, rfl, rfl, rfl, rfl, rfl, rfl, rfl, rfl, rfl, rfl, rfl, rfl, rfl, rfl, rfl, rfl, rfl, rfl⟩ : h0_0 = h0_0 ∧ h0_1 = h0_1 ∧ h0_2 = h0_2 ∧ h0_3 = h0_3 ∧ h0_4 = h0_4 ∧ h0_5 = h0_5 ∧ h0_6 = h0_6 ∧ h0_7 = h0_7 ∧ h0_8 = h0_8 ∧ h0_9 = h0_9 ∧ h1_0 = h1_0 ∧ h1_1 = h1_1 ∧ h1_2 = h1_2 ∧ h1_3 = h1_3 ∧ h1_4 = h1_4 ∧ h1_5 = h1_5 ∧ h1_6 = h1_6 ∧ h1_7 = h1_7 ∧ h1_8 = h1_8 ∧ h1_9 = h1_9) inv (fun s5q => μ s5q < μ s5p))).mpr (hs s5p hi))⟩⟩
theorem bd40 : Callable Try.prog 40 := ⟨by rw [Try.func40]; kernel_rfl, by rw [Try.func40]; show some _ ≠ some _; decide⟩
theorem k1eu (p0 : TTx) (p1 : TTx) (h : TD p0 ∧ TD p1) : koh (p0.Anchor, p0.Marks, p0.Outs, p0.Deposit, p0.Withdraw, p0.Fee, p0.Account, p0.Nonce, p0.Expiry, p0.Proof, p1.Anchor, p1.Marks, p1.Outs, p1.Deposit, p1.Withdraw, p1.Fee, p1.Account, p1.Nonce, p1.Expiry, p1.Proof, ()) ((sameT p0 p1 : Bool), ()) := by
  obtain ⟨⟨hr, hl, ho, hc⟩, hr', hl', ho', hc'⟩ := h
  refine k1n3 ⟨fun e => ?_, fun e => ⟨fun e2 => ?_, fun e2 => ?_⟩⟩
  · have e : ¬ ((p0.Outs.length : Int) = p1.Outs.length) := by simpa using e
    unfold sameT
    rw [decide_eq_false (by omega)]
    rfl
  · have e2 : ¬ p0.Expiry = p1.Expiry := by simpa using e2
    unfold sameT
    simp [e2]
  have e : (p0.Outs.length : Int) = p1.Outs.length := by simpa using e
  have e2 : p0.Expiry = p1.Expiry := by simpa using e2
  refine k1iu (fun i => 0 ≤ i ∧ i ≤ p0.Outs.length ∧ (p0.Outs.take i.toNat).map (·.Cipher.length) = (p1.Outs.take i.toNat).map (·.Cipher.length)) (fun i => (p0.Outs.length - i).toNat) ⟨by omega, by omega, by simp⟩ ?_
  rintro i ⟨g0, g1, g2⟩
  refine ⟨fun hh => ?_, fun hh => ?_⟩
  · have hh := of_decide_eq_true hh
    refine ⟨g0, hh, g0, by omega, fun e3 => ?_, fun e3 => ?_⟩
    · have e3 : ¬ (((ix p0.Outs i).Cipher.length : Int) = (ix p1.Outs i).Cipher.length) := by simpa using e3
      unfold sameT
      rw [decide_eq_false (p := p0.Outs.map _ = p1.Outs.map _)]
      · simp
      · intro h
        have h2 := congrArg (fun l => l[i.toNat]?) h
        simp only [List.getElem?_map] at h2
        rw [List.getElem?_eq_getElem (by omega), List.getElem?_eq_getElem (by omega)] at h2
        rw [ix_nat _ i g0 hh, ix_nat _ i g0 (by omega)] at e3
        simp at h2
        omega
    · have e3 : (((ix p0.Outs i).Cipher.length : Int) = (ix p1.Outs i).Cipher.length) := by simpa using e3
      rw [inc i p0.Outs.length g0 hh (by omega)]
      refine ⟨⟨by omega, by omega, ?_⟩, by omega⟩
      rw [ka _ i g0 hh, ka _ i g0 (by omega), List.map_append, List.map_append, g2]
      simp
      omega
  · have hh := of_decide_eq_false hh
    rw [List.take_of_length_le (by omega), List.take_of_length_le (by omega)] at g2
    simp only [TTx_eta]
    have hlen := kcu p0.Outs 1024 hc
    refine ⟨⟨hr, hl, ho, hc⟩, ⟨hr', hl', ho', hc'⟩, ?_, ?_⟩
    · rw [k14c]
      have := hl.m
      have := hl.p
      have : (28 + 8 * 1024) * p0.Outs.length ≤ (28 + 8 * 1024) * 1048576 := Nat.mul_le_mul_left _ ho
      omega
    · unfold sameT
      rw [decide_eq_true (p := p0.Outs.length = p1.Outs.length) (by omega), decide_eq_true g2, beq_iff_eq.2 e2]
      simp
noncomputable def k102 : Con TB.den := k39.fnR (fun x => (fun (p0 : TTx) (p1 : TTx) => TD p0 ∧ TD p1) (TTx.mk x.1 x.2.1 x.2.2.1 x.2.2.2.1 x.2.2.2.2.1 x.2.2.2.2.2.1 x.2.2.2.2.2.2.1 x.2.2.2.2.2.2.2.1 x.2.2.2.2.2.2.2.2.1 x.2.2.2.2.2.2.2.2.2.1) (TTx.mk x.2.2.2.2.2.2.2.2.2.2.1 x.2.2.2.2.2.2.2.2.2.2.2.1 x.2.2.2.2.2.2.2.2.2.2.2.2.1 x.2.2.2.2.2.2.2.2.2.2.2.2.2.1 x.2.2.2.2.2.2.2.2.2.2.2.2.2.2.1 x.2.2.2.2.2.2.2.2.2.2.2.2.2.2.2.1 x.2.2.2.2.2.2.2.2.2.2.2.2.2.2.2.2.1 x.2.2.2.2.2.2.2.2.2.2.2.2.2.2.2.2.2.1 x.2.2.2.2.2.2.2.2.2.2.2.2.2.2.2.2.2.2.1 x.2.2.2.2.2.2.2.2.2.2.2.2.2.2.2.2.2.2.2.1)) fun x => ((fun (p0 : TTx) (p1 : TTx) => (sameT p0 p1 : Bool)) (TTx.mk x.1 x.2.1 x.2.2.1 x.2.2.2.1 x.2.2.2.2.1 x.2.2.2.2.2.1 x.2.2.2.2.2.2.1 x.2.2.2.2.2.2.2.1 x.2.2.2.2.2.2.2.2.1 x.2.2.2.2.2.2.2.2.2.1) (TTx.mk x.2.2.2.2.2.2.2.2.2.2.1 x.2.2.2.2.2.2.2.2.2.2.2.1 x.2.2.2.2.2.2.2.2.2.2.2.2.1 x.2.2.2.2.2.2.2.2.2.2.2.2.2.1 x.2.2.2.2.2.2.2.2.2.2.2.2.2.2.1 x.2.2.2.2.2.2.2.2.2.2.2.2.2.2.2.1 x.2.2.2.2.2.2.2.2.2.2.2.2.2.2.2.2.1 x.2.2.2.2.2.2.2.2.2.2.2.2.2.2.2.2.2.1 x.2.2.2.2.2.2.2.2.2.2.2.2.2.2.2.2.2.2.1 x.2.2.2.2.2.2.2.2.2.2.2.2.2.2.2.2.2.2.2.1), ())
theorem k1n9 : k102.Ok Try.prog TB := Con.ok_fn k39 bd40 fun x h => k1lq (k1eu (TTx.mk x.1 x.2.1 x.2.2.1 x.2.2.2.1 x.2.2.2.2.1 x.2.2.2.2.2.1 x.2.2.2.2.2.2.1 x.2.2.2.2.2.2.2.1 x.2.2.2.2.2.2.2.2.1 x.2.2.2.2.2.2.2.2.2.1) (TTx.mk x.2.2.2.2.2.2.2.2.2.2.1 x.2.2.2.2.2.2.2.2.2.2.2.1 x.2.2.2.2.2.2.2.2.2.2.2.2.1 x.2.2.2.2.2.2.2.2.2.2.2.2.2.1 x.2.2.2.2.2.2.2.2.2.2.2.2.2.2.1 x.2.2.2.2.2.2.2.2.2.2.2.2.2.2.2.1 x.2.2.2.2.2.2.2.2.2.2.2.2.2.2.2.2.1 x.2.2.2.2.2.2.2.2.2.2.2.2.2.2.2.2.2.1 x.2.2.2.2.2.2.2.2.2.2.2.2.2.2.2.2.2.2.1 x.2.2.2.2.2.2.2.2.2.2.2.2.2.2.2.2.2.2.2.1) h)
end Go.Proofs.Ytnmakgfmimagmaa
namespace Go.Proofs.Ytnmakgfmimagmaa
open Go Go.Bv Go.Cv Go.Md Go.RowKit
def k38 : Con TB.den := Con.mk0 19 [.agg [.d (.int .u64), .d (.int .i64), .d (.int .u64), .d (.int .u64), .d (.int .u64), .d (.sl (.st 1))], .agg [.d (.int .u64), .d (.int .i64), .d (.int .u64), .d (.int .u64), .d (.int .u64), .d (.sl (.st 1))]] [] (.one (.one (.d (.bool)))) []
abbrev k19u := HL TB.den (hsT k38.ins (hsOs k38.pre))
abbrev kbo := HL TB.den (hsV k38.res (hsOs k38.post))
noncomputable def k7u : Cx TB := ⟨inf, [k102], [], 4⟩
noncomputable def kei : Code := Try.f19.body.getD .skip
noncomputable def khx : List ResultVar := Try.f19.results.toList
noncomputable def k1mj (o : kbo) : Exit → TSt TB.den → Prop := thenT TB (fun s => ghs TB [] s fun s => WP TB k7u 67 0 (cB (cB (cB kei))) .no s (retTQ TB k7u k38 khx o)) (retTQ TB k7u k38 khx o)
def kbx : Tm := ⟨[0, 1], [.cells [.d (.int .u64), .d (.int .i64), .d (.int .u64), .d (.int .u64), .d (.int .u64), .d (.sl (.st 1))], .cells [.d (.int .u64), .d (.int .i64), .d (.int .u64), .d (.int .u64), .d (.int .u64), .d (.sl (.st 1))]], [2, 3, 5], [.one (.ptr 0 0), .one (.ptr 1 0), .one (.d (.int .i64))], 2⟩
noncomputable def k1mg (o : kbo) (nx1 : HL TB.den kbx.hs → Prop) : Exit → TSt TB.den → Prop := thenT TB (fun s => kbx.mat TB 0 s nx1) (blockT TB 0 (k1mj o))
noncomputable def ki3 (o : kbo) (nx1 : HL TB.den kbx.hs → Prop) (i : HL TB.den kbx.hs) : Prop := WP TB k7u 67 0 (cA (cA (cB (cA (cB (cB kei)))))) .no (kbx.fill TB i) (k1mg o nx1)
noncomputable def k1n7 (o : kbo) : An TB := .nd [] .no [] (.lp [] kbx (ki3 o) fun nx1 => .no)
noncomputable def k13y (o : kbo) : An TB := .nd [] .no [] (.nd [] .no [] (.nd [] (k1n7 o) [] .no))
noncomputable def ko1 (x : k19u) (o : kbo) : Prop := WPh TB k7u 67 0 kei (k13y o) (k38.st TB x) (retTQ TB k7u k38 khx o)
set_option maxRecDepth 100000 in
theorem k1ii (o : kbo) : OblH TB k7u 67 0 kei (k13y o) (retTQ TB k7u k38 khx o) :=
  OblH.of_eq (X := (True ∧ ((True ∧ ((True ∧ True) ∧ True)) ∧ ((True ∧ ((∀ nx i, (ki3 o) nx i = (ki3 o) nx i) ∧ ∀ nx1 : HL TB.den kbx.hs → Prop, ((True ∧ (True ∧ True)) ∧ ((True ∧ ((True ∧ True) ∧ True)) ∧ True)))) ∧ (True ∧ True))))) (by kernel_rfl) ⟨trivial, ⟨⟨trivial, ⟨⟨trivial, trivial⟩, trivial⟩⟩, ⟨⟨trivial, ⟨fun _ _ => rfl, fun _ => ⟨⟨trivial, ⟨trivial, trivial⟩⟩, ⟨⟨trivial, ⟨⟨trivial, trivial⟩, trivial⟩⟩, trivial⟩⟩⟩⟩, ⟨trivial, trivial⟩⟩⟩⟩
set_option maxRecDepth 100000 in
theorem k1lh {x : k19u} {o : kbo} (h : ko1 x o) : SoundH Try.prog k38.f ((k38.args idf x).map (er TB)) ((k38.obs idf x).map (erO TB)) (er TB (k38.val idf o)) ((k38.ops idf o).map (erO TB)) :=
  Con.soundH (c := k38) (C := k7u) TBok ⟨inf_ok, (all_cons k1n9 all_nil), all_nil⟩ mix Try.func19 (show Try.f19.body = some kei by kernel_rfl) (show Try.f19.ntmps = 67 by kernel_rfl) (show Try.f19.results.toList = khx by kernel_rfl) rfl h (k1ii o)
set_option maxRecDepth 100000 in
theorem k1mo {p0 : TBlock} {p1 : TBlock} {r0 : Bool} (h :
(((p0.Parent != p1.Parent) = true →
 false = r0) ∧
((p0.Parent != p1.Parent) = false →
((p0.Height != p1.Height) = true →
 false = r0) ∧
((p0.Height != p1.Height) = false →
((p0.Miner != p1.Miner) = true →
 false = r0) ∧
((p0.Miner != p1.Miner) = false →
((p0.Work != p1.Work) = true →
 false = r0) ∧
((p0.Work != p1.Work) = false →
((p0.Nonce != p1.Nonce) = true →
 false = r0) ∧
((p0.Nonce != p1.Nonce) = false →
 let v1 : Bool := ((p0.Txs.length : Int) != (p1.Txs.length : Int))
(v1 = true →
 false = r0) ∧
(v1 = false →
 Md.Loop ((0 : Int), p0.Parent, p0.Height, p0.Miner, p0.Work, p0.Nonce, p0.Txs, p1.Parent, p1.Height, p1.Miner, p1.Work, p1.Nonce, p1.Txs, ()) (ki3 (r0, ())))))))))) : ko1 (p0.Parent, p0.Height, p0.Miner, p0.Work, p0.Nonce, p0.Txs, p1.Parent, p1.Height, p1.Miner, p1.Work, p1.Nonce, p1.Txs, ()) (r0, ()) := WPh.of_eq (by kernel_rfl) h
def k145 (r0 : Bool) (k1 : Int → Prop) (h0_0 : Int) (h0_1 : Int) (h0_2 : Int) (h0_3 : Int) (h0_4 : Int) (h0_5 : List TTx) (h1_0 : Int) (h1_1 : Int) (h1_2 : Int) (h1_3 : Int) (h1_4 : Int) (h1_5 : List TTx) (s5 : Int) : Prop :=
(decide (s5 < (h0_5.length : Int)) = true →
(0 ≤ s5) ∧ s5 < (h0_5.length : Int) ∧ (0 ≤ s5) ∧ s5 < (h1_5.length : Int) ∧ (TD (ix h0_5 s5) ∧ TD (ix h1_5 s5)) ∧ ((!sameT (ix h0_5 s5) (ix h1_5 s5)) = true →
 false = r0) ∧
((!sameT (ix h0_5 s5) (ix h1_5 s5)) = false →
 k1 (IntKind.i64.wrap (s5 + 1) : Int))) ∧
(decide (s5 < (h0_5.length : Int)) = false →
 true = r0)
set_option maxRecDepth 100000 in
theorem k1k1 {r0 : Bool} {h0_0 : Int} {h0_1 : Int} {h0_2 : Int} {h0_3 : Int} {h0_4 : Int} {h0_5 : List TTx} {h1_0 : Int} {h1_1 : Int} {h1_2 : Int} {h1_3 : Int} {h1_4 : Int} {h1_5 : List TTx} {s5 : Int} (inv : Int → Prop) (μ : Int → Nat) (h0 : inv s5) (hs : ∀ (s5 : Int), inv s5 → k145 r0 (fun s5q => inv s5q ∧ μ s5q < μ s5) h0_0 h0_1 h0_2 h0_3 h0_4 h0_5 h1_0 h1_1 h1_2 h1_3 h1_4 h1_5 s5) : Md.Loop (s5, h0_0, h0_1, h0_2, h0_3, h0_4, h0_5, h1_0, h1_1, h1_2, h1_3, h1_4, h1_5, ()) (ki3 (r0, ())) :=
  ⟨⟨fun s : Int × Int × Int × Int × Int × Int × (List TTx) × Int × Int × Int × Int × Int × (List TTx) × Unit => (s.2.1 = h0_0 ∧ s.2.2.1 = h0_1 ∧ s.2.2.2.1 = h0_2 ∧ s.2.2.2.2.1 = h0_3 ∧ s.2.2.2.2.2.1 = h0_4 ∧ s.2.2.2.2.2.2.1 = h0_5 ∧ s.2.2.2.2.2.2.2.1 = h1_0 ∧ s.2.2.2.2.2.2.2.2.1 = h1_1 ∧ s.2.2.2.2.2.2.2.2.2.1 = h1_2 ∧ s.2.2.2.2.2.2.2.2.2.2.1 = h1_3 ∧ s.2.2.2.2.2.2.2.2.2.2.2.1 = h1_4 ∧ s.2.2.2.2.2.2.2.2.2.2.2.2.1 = h1_5) ∧ inv s.1, fun s : Int × Int × Int × Int × Int × Int × (List TTx) × Int × Int × Int × Int × Int × (List TTx) × Unit => μ s.1, ⟨⟨rfl, rfl, rfl, rfl, rfl, rfl, rfl, rfl, rfl, rfl, rfl, rfl⟩, h0⟩, fun (s5p, h0_0p, h0_1p, h0_2p, h0_3p, h0_4p, h0_5p, h1_0p, h1_1p, h1_2p, h1_3p, h1_4p, h1_5p, ()) ⟨⟨eq0, eq1, eq2, eq3, eq4, eq5, eq6, eq7, eq8, eq9, eq10, eq11⟩, hi⟩ => by
    have eq0 : h0_0p = h0_0 := eq0; subst h0_0p; have eq1 : h0_1p = h0_1 := eq1; subst h0_1p; have eq2 : h0_2p = h0_2 := eq2; subst h0_2p; have eq3 : h0_3p = h0_3 := eq3; subst h0_3p; have eq4 : h0_4p = h0_4 := eq4; subst h0_4p; have eq5 : h0_5p = h0_5 := eq5; subst h0_5p; have eq6 : h1_0p = h1_0 := eq6; subst h1_0p; have eq7 : h1_1p = h1_1 := eq7; subst h1_1p; have eq8 : h1_2p = h1_2 := eq8; subst h1_2p; have eq9 : h1_3p = h1_3 := eq9; subst h1_3p; have eq10 : h1_4p = h1_4 := eq10; subst h1_4p; have eq11 : h1_5p = h1_5 := eq11; subst h1_5p; exact mpr_of (by kernel_rfl) ((congrArg (fun k => k145 r0 k h0_0 h0_1 h0_2 h0_3 h0_4 h0_5 h1_0 h1_1 h1_2 h1_3 h1_4 h1_5 s5p) (lpk1 (⟨rfl, rfl, rfl, rfl, rfl, rfl, rfl, rfl, rfl, rfl, rfl, rfl⟩ : h0_0 = h0_0 ∧ h0_1 = h0_1 ∧ h0_2 = h0_2 ∧ h0_3 = h0_3 ∧ h0_4 = h0_4 ∧ h0_5 = h0_5 ∧ h1_0 = h1_0 ∧ h1_1 = h1_1 ∧ h1_2 = h1_2 ∧ h1_3 = h1_3 ∧ h1_4 = h1_4 ∧ h1_5 = h1_5) inv (fun s5q => μ s5q < μ s5p))).mpr (hs s5p hi))⟩⟩
theorem bd19 : Callable Try.prog 19 := ⟨by rw [Try.func19]; kernel_rfl, by rw [Try.func19]; show some _ ≠ some _; decide⟩
theorem k1f3 (p0 : TBlock) (p1 : TBlock) (h : p0.Txs.length ≤ 9223372036854775807 ∧ (∀ x ∈ p0.Txs, TD x) ∧ (∀ x ∈ p1.Txs, TD x)) : ko1 (p0.Parent, p0.Height, p0.Miner, p0.Work, p0.Nonce, p0.Txs, p1.Parent, p1.Height, p1.Miner, p1.Work, p1.Nonce, p1.Txs, ()) ((sameB p0 p1 : Bool), ()) := by
  obtain ⟨hl, ha, hb⟩ := h
  have no : ∀ {P : Prop}, ¬ P → (P → False) := fun h => h
  have nf : (¬ (p0.Parent = p1.Parent ∧ p0.Height = p1.Height ∧ p0.Miner = p1.Miner ∧ p0.Work = p1.Work ∧ p0.Nonce = p1.Nonce ∧ p0.Txs.length = p1.Txs.length ∧ ∀ i : Nat, i < p0.Txs.length → sameT (ix p0.Txs (i : Int)) (ix p1.Txs (i : Int)) = true)) → false = sameB p0 p1 := fun h => (decide_eq_false h).symm
  refine k1mo ⟨fun e => nf fun q => ?_, fun e1 => ⟨fun e => nf fun q => ?_, fun e2 => ⟨fun e => nf fun q => ?_, fun e3 => ⟨fun e => nf fun q => ?_, fun e4 => ⟨fun e => nf fun q => ?_, fun e5 => ⟨fun e => nf fun q => ?_, fun e6 => ?_⟩⟩⟩⟩⟩⟩
  · simp [q.1] at e
  · simp [q.2.1] at e
  · simp [q.2.2.1] at e
  · simp [q.2.2.2.1] at e
  · simp [q.2.2.2.2.1] at e
  · simp [q.2.2.2.2.2.1] at e
  simp only [bne_eq_false_iff_eq] at e1 e2 e3 e4 e5 e6
  have e6 : p0.Txs.length = p1.Txs.length := by omega
  refine k1k1 (fun i => 0 ≤ i ∧ i ≤ p0.Txs.length ∧ ∀ j : Nat, (j : Int) < i → sameT (ix p0.Txs (j : Int)) (ix p1.Txs (j : Int)) = true) (fun i => (p0.Txs.length - i).toNat) ⟨by omega, by omega, fun j hj => by omega⟩ ?_
  rintro i ⟨g0, g1, g2⟩
  refine ⟨fun hh => ?_, fun hh => ?_⟩
  · have hh := of_decide_eq_true hh
    rw [inc i p0.Txs.length g0 hh (by omega)]
    refine ⟨g0, hh, g0, by omega, ⟨ha _ (ix_mem _ i g0 hh), hb _ (ix_mem _ i g0 (by omega))⟩, fun e => nf fun q => ?_, fun e => ⟨⟨by omega, by omega, fun j hj => ?_⟩, by omega⟩⟩
    · have := q.2.2.2.2.2.2 i.toNat (by omega)
      rw [show ((i.toNat : Nat) : Int) = i by omega] at this
      rw [this] at e
      cases e
    · rcases Int.lt_or_eq_of_le (Int.le_of_lt_add_one hj) with h | h
      · exact g2 j h
      · rw [h]; simpa using e
  · have hh := of_decide_eq_false hh
    exact (decide_eq_true ⟨e1, e2, e3, e4, e5, e6, fun j hj => g2 j (by omega)⟩).symm
noncomputable def kk9 : Con TB.den := k38.fnR (fun x => (fun (p0 : TBlock) (p1 : TBlock) => p0.Txs.length ≤ 9223372036854775807 ∧ (∀ x ∈ p0.Txs, TD x) ∧ (∀ x ∈ p1.Txs, TD x)) (TBlock.mk x.1 x.2.1 x.2.2.1 x.2.2.2.1 x.2.2.2.2.1 x.2.2.2.2.2.1) (TBlock.mk x.2.2.2.2.2.2.1 x.2.2.2.2.2.2.2.1 x.2.2.2.2.2.2.2.2.1 x.2.2.2.2.2.2.2.2.2.1 x.2.2.2.2.2.2.2.2.2.2.1 x.2.2.2.2.2.2.2.2.2.2.2.1)) fun x => ((fun (p0 : TBlock) (p1 : TBlock) => (sameB p0 p1 : Bool)) (TBlock.mk x.1 x.2.1 x.2.2.1 x.2.2.2.1 x.2.2.2.2.1 x.2.2.2.2.2.1) (TBlock.mk x.2.2.2.2.2.2.1 x.2.2.2.2.2.2.2.1 x.2.2.2.2.2.2.2.2.1 x.2.2.2.2.2.2.2.2.2.1 x.2.2.2.2.2.2.2.2.2.2.1 x.2.2.2.2.2.2.2.2.2.2.2.1), ())
theorem kt5 : kk9.Ok Try.prog TB := Con.ok_fn k38 bd19 fun x h => k1lh (k1f3 (TBlock.mk x.1 x.2.1 x.2.2.1 x.2.2.2.1 x.2.2.2.2.1 x.2.2.2.2.2.1) (TBlock.mk x.2.2.2.2.2.2.1 x.2.2.2.2.2.2.2.1 x.2.2.2.2.2.2.2.2.1 x.2.2.2.2.2.2.2.2.2.1 x.2.2.2.2.2.2.2.2.2.2.1 x.2.2.2.2.2.2.2.2.2.2.2.1) h)
end Go.Proofs.Ytnmakgfmimagmaa
namespace Go.Proofs.Ytnmakgfmimagmaa
open Go Go.Bv Go.Cv Go.Md Go.RowKit
def k3k : Con TB.den := Con.mk0 10 [] [] (.one (.one (.d (.bool)))) []
abbrev k140 := HL TB.den (hsT k3k.ins (hsOs k3k.pre))
abbrev kn9 := HL TB.den (hsV k3k.res (hsOs k3k.post))
noncomputable def kgs : Cx TB := ⟨inf, [kdt, kuz, kk9], [], 4⟩
noncomputable def klx : Code := Try.f10.body.getD .skip
noncomputable def kpo : List ResultVar := Try.f10.results.toList
noncomputable def kzt (o : kn9) : An TB := .no
noncomputable def kmg (x : k140) (o : kn9) : Prop := WPh TB kgs 32 0 klx (kzt o) (k3k.st TB x) (retTQ TB kgs k3k kpo o)
set_option maxRecDepth 100000 in
theorem k1go (o : kn9) : OblH TB kgs 32 0 klx (kzt o) (retTQ TB kgs k3k kpo o) :=
  OblH.of_eq (X := (True ∧ (True ∧ (True ∧ (True ∧ (True ∧ True)))))) (by kernel_rfl) ⟨trivial, ⟨trivial, ⟨trivial, ⟨trivial, ⟨trivial, trivial⟩⟩⟩⟩⟩
set_option maxRecDepth 100000 in
theorem k1gb {x : k140} {o : kn9} (h : kmg x o) : SoundH Try.prog k3k.f ((k3k.args idf x).map (er TB)) ((k3k.obs idf x).map (erO TB)) (er TB (k3k.val idf o)) ((k3k.ops idf o).map (erO TB)) :=
  Con.soundH (c := k3k) (C := kgs) TBok ⟨inf_ok, (all_cons kkf (all_cons k1ge (all_cons kt5 all_nil))), all_nil⟩ mix Try.func10 (show Try.f10.body = some klx by kernel_rfl) (show Try.f10.ntmps = 32 by kernel_rfl) (show Try.f10.results.toList = kpo by kernel_rfl) rfl h (k1go o)
set_option maxRecDepth 100000 in
theorem k1km  {r0 : Bool} (h :
((BR (TBlock.mk 0 1 0 1 0 ([] : List TTx))) ∧ let r1 : List Int := if validB (TBlock.mk 0 1 0 1 0 ([] : List TTx)) = 0 then encBk (TBlock.mk 0 1 0 1 0 ([] : List TTx)) else []
 let r2 : Int := validB (TBlock.mk 0 1 0 1 0 ([] : List TTx))
(BR (TBlock.mk 0 1 0 1 0 ([] : List TTx)) ∧ (TBlock.mk 0 1 0 1 0 ([] : List TTx)).Txs = [] ∧ (1 : Int) ≤ 9223372036854775807) ∧ let r3 : Int := ((mineS (TBlock.mk 0 1 0 1 0 ([] : List TTx)) (1 : Int)).b).Parent
 let r4 : Int := ((mineS (TBlock.mk 0 1 0 1 0 ([] : List TTx)) (1 : Int)).b).Height
 let r5 : Int := ((mineS (TBlock.mk 0 1 0 1 0 ([] : List TTx)) (1 : Int)).b).Miner
 let r6 : Int := ((mineS (TBlock.mk 0 1 0 1 0 ([] : List TTx)) (1 : Int)).b).Work
 let r7 : Int := ((mineS (TBlock.mk 0 1 0 1 0 ([] : List TTx)) (1 : Int)).b).Nonce
 let r8 : List TTx := ((mineS (TBlock.mk 0 1 0 1 0 ([] : List TTx)) (1 : Int)).b).Txs
 let r9 : Bool := (mineS (TBlock.mk 0 1 0 1 0 ([] : List TTx)) (1 : Int)).ok
(((r1.length : Int) == 40) = true →
((r2 == 0) = true →
(r9 = true →
((TBlock.mk 0 1 0 1 0 ([] : List TTx)).Txs.length ≤ 9223372036854775807 ∧ (∀ x ∈ (TBlock.mk 0 1 0 1 0 ([] : List TTx)).Txs, TD x) ∧ (∀ x ∈ (TBlock.mk r3 r4 r5 r6 r7 r8).Txs, TD x)) ∧ let r10 : Bool := sameB (TBlock.mk 0 1 0 1 0 ([] : List TTx)) (TBlock.mk r3 r4 r5 r6 r7 r8)
 r10 = r0) ∧
(r9 = false →
 false = r0)) ∧
((r2 == 0) = false →
 false = r0)) ∧
(((r1.length : Int) == 40) = false →
 false = r0))) : kmg (()) (r0, ()) := WPh.of_eq (by kernel_rfl) h
theorem bd10 : Callable Try.prog 10 := ⟨by rw [Try.func10]; kernel_rfl, by rw [Try.func10]; show some _ ≠ some _; decide⟩
theorem k1bm : kmg (()) ((true : Bool), ()) := by
  have r1 : BR ⟨0, 1, 0, 1, 0, []⟩ := ⟨by decide, by decide, by decide, by decide, by decide, (by intro x hx; cases hx)⟩
  have v1 : validB ⟨0, 1, 0, 1, 0, []⟩ = 0 := by decide +kernel
  have m1 : mineS ⟨0, 1, 0, 1, 0, []⟩ 1 = ⟨⟨0, 1, 0, 1, 0, []⟩, true⟩ := by
    unfold mineS
    rw [if_neg (by rw [v1]; decide)]
    exact if_pos (Int.tmod_one _)
  have l1 : (encBk ⟨0, 1, 0, 1, 0, []⟩).length = 40 := by simp [encBk]
  have s1 : sameB ⟨0, 1, 0, 1, 0, []⟩ ⟨0, 1, 0, 1, 0, []⟩ = true := decide_eq_true ⟨rfl, rfl, rfl, rfl, rfl, rfl, fun i hi => absurd hi (Nat.not_lt_zero i)⟩
  refine k1km ?_
  simp [r1, v1, m1, l1, s1]
noncomputable def koi : Con TB.den := k3k.totR fun x => ((true : Bool), ())
theorem k106 : koi.Ok Try.prog TB := Con.ok_tot k3k bd10 fun x => k1gb (k1bm )
end Go.Proofs.Ytnmakgfmimagmaa
namespace Go.Proofs.Ytnmakgfmimagmaa
open Go Go.Bv Go.Cv Go.Md Go.RowKit
theorem bd41 : Callable Try.prog 41 := ⟨by rw [Try.func41]; kernel_rfl, by rw [Try.func41]; show some _ ≠ some _; decide⟩
end Go.Proofs.Ytnmakgfmimagmaa
namespace Go.Proofs.Ytnmakgfmimagmaa
open Go Go.Bv Go.Cv Go.Md Go.RowKit
def k23 : Con TB.den := Con.mk0 41 [.agg [.d (.int .u64), .d (.int .i64), .d (.int .u64), .d (.int .u64), .d (.int .u64), .d (.sl (.st 1))]] [] (.one (.one (.own 0))) [.tip (.int .u8)]
abbrev kui := HL TB.den (hsT k23.ins (hsOs k23.pre))
abbrev kh5 := HL TB.den (hsV k23.res (hsOs k23.post))
noncomputable def kbl : Cx TB := ⟨inf, [ke4, ktg], [], 4⟩
noncomputable def khk : Code := Try.f41.body.getD .skip
noncomputable def kkd : List ResultVar := Try.f41.results.toList
noncomputable def ks6 (o : kh5) : An TB := .no
noncomputable def kho (x : kui) (o : kh5) : Prop := WPh TB kbl 33 0 khk (ks6 o) (k23.st TB x) (retTQ TB kbl k23 kkd o)
set_option maxRecDepth 100000 in
theorem k16g (o : kh5) : OblH TB kbl 33 0 khk (ks6 o) (retTQ TB kbl k23 kkd o) :=
  OblH.of_eq (X := (True ∧ (True ∧ (True ∧ (True ∧ (True ∧ (True ∧ (True ∧ True)))))))) (by kernel_rfl) ⟨trivial, ⟨trivial, ⟨trivial, ⟨trivial, ⟨trivial, ⟨trivial, ⟨trivial, trivial⟩⟩⟩⟩⟩⟩⟩
set_option maxRecDepth 100000 in
theorem k16m {x : kui} {o : kh5} (h : kho x o) : SoundH Try.prog k23.f ((k23.args idf x).map (er TB)) ((k23.obs idf x).map (erO TB)) (er TB (k23.val idf o)) ((k23.ops idf o).map (erO TB)) :=
  Con.soundH (c := k23) (C := kbl) TBok ⟨inf_ok, (all_cons kk2 (all_cons k17y all_nil)), all_nil⟩ mix Try.func41 (show Try.f41.body = some khk by kernel_rfl) (show Try.f41.ntmps = 33 by kernel_rfl) (show Try.f41.results.toList = kkd by kernel_rfl) rfl h (k16g o)
set_option maxRecDepth 100000 in
theorem k184 {p0 : TBlock} {e0 : List Int} (h :
((U64 p0.Parent ∧ 0 ≤ (8 : Int) ∧ (8 : Int) ≤ 8) ∧ (dig (8 : Int).toNat p0.Parent).length = (dig (8 : Int).toNat p0.Parent).length ∧ ((dig (8 : Int).toNat p0.Parent).length + (dig 4 (len4 p0.Height)).length) * 1 ≤ 140737488355328 ∧ (dig (8 : Int).toNat p0.Parent).length + (dig 4 (len4 p0.Height)).length ≤ maxLen ∧ let v1 : List Int := (dig (8 : Int).toNat p0.Parent) ++ (dig 4 (len4 p0.Height))
(U64 p0.Miner ∧ 0 ≤ (8 : Int) ∧ (8 : Int) ≤ 8) ∧ v1.length = v1.length ∧ (v1.length + (dig (8 : Int).toNat p0.Miner).length) * 1 ≤ 140737488355328 ∧ v1.length + (dig (8 : Int).toNat p0.Miner).length ≤ maxLen ∧ (U64 p0.Work ∧ 0 ≤ (8 : Int) ∧ (8 : Int) ≤ 8) ∧ (v1 ++ (dig (8 : Int).toNat p0.Miner)).length = (v1 ++ (dig (8 : Int).toNat p0.Miner)).length ∧ ((v1 ++ (dig (8 : Int).toNat p0.Miner)).length + (dig (8 : Int).toNat p0.Work).length) * 1 ≤ 140737488355328 ∧ (v1 ++ (dig (8 : Int).toNat p0.Miner)).length + (dig (8 : Int).toNat p0.Work).length ≤ maxLen ∧ let v2 : List Int := (v1 ++ (dig (8 : Int).toNat p0.Miner)) ++ (dig (8 : Int).toNat p0.Work)
(U64 p0.Nonce ∧ 0 ≤ (8 : Int) ∧ (8 : Int) ≤ 8) ∧ v2.length = v2.length ∧ (v2.length + (dig (8 : Int).toNat p0.Nonce).length) * 1 ≤ 140737488355328 ∧ v2.length + (dig (8 : Int).toNat p0.Nonce).length ≤ maxLen ∧ (v2 ++ (dig (8 : Int).toNat p0.Nonce)).length = (v2 ++ (dig (8 : Int).toNat p0.Nonce)).length ∧ ((v2 ++ (dig (8 : Int).toNat p0.Nonce)).length + (dig 4 (len4 (p0.Txs.length : Int))).length) * 1 ≤ 140737488355328 ∧ (v2 ++ (dig (8 : Int).toNat p0.Nonce)).length + (dig 4 (len4 (p0.Txs.length : Int))).length ≤ maxLen ∧ let v3 : List Int := (v2 ++ (dig (8 : Int).toNat p0.Nonce)) ++ (dig 4 (len4 (p0.Txs.length : Int)))
(v3 = v3) ∧ v3 = e0)) : kho (p0.Parent, p0.Height, p0.Miner, p0.Work, p0.Nonce, p0.Txs, ()) (e0, ()) := WPh.of_eq (by kernel_rfl) h
theorem k12s (p0 : TBlock) (h : BR p0 ∧ p0.Txs.length ≤ 64) : kho (p0.Parent, p0.Height, p0.Miner, p0.Work, p0.Nonce, p0.Txs, ()) ((hdrS p0 : List Int), ()) := by
  obtain ⟨hr, hl⟩ := h
  refine k184 ?_
  have e8 : (8 : Int).toNat = 8 := rfl
  simp [maxLen, hdrS, e8]
  exact ⟨hr.p, hr.m, hr.w, hr.n⟩
noncomputable def kqo : Con TB.den := k23.fnR (fun x => (fun (p0 : TBlock) => BR p0 ∧ p0.Txs.length ≤ 64) (TBlock.mk x.1 x.2.1 x.2.2.1 x.2.2.2.1 x.2.2.2.2.1 x.2.2.2.2.2.1)) fun x => ((fun (p0 : TBlock) => (hdrS p0 : List Int)) (TBlock.mk x.1 x.2.1 x.2.2.1 x.2.2.2.1 x.2.2.2.2.1 x.2.2.2.2.2.1), ())
theorem k199 : kqo.Ok Try.prog TB := Con.ok_fn k23 bd41 fun x h => k16m (k12s (TBlock.mk x.1 x.2.1 x.2.2.1 x.2.2.2.1 x.2.2.2.2.1 x.2.2.2.2.2.1) h)
end Go.Proofs.Ytnmakgfmimagmaa
namespace Go.Proofs.Ytnmakgfmimagmaa
open Go Go.Bv Go.Cv Go.Md Go.RowKit
def k2m : Con TB.den := Con.mk0 27 [.agg [.d (.int .u64), .d (.int .i64), .d (.int .u64), .d (.int .u64), .d (.int .u64), .d (.sl (.st 1))]] [] (.one (.one (.d (.sl (.int .u8))))) []
abbrev k14j := HL TB.den (hsT k2m.ins (hsOs k2m.pre))
abbrev k9f := HL TB.den (hsV k2m.res (hsOs k2m.post))
noncomputable def k72 : Cx TB := ⟨inf, [kqo, kiq, ko4], [], 4⟩
noncomputable def kd6 : Code := Try.f27.body.getD .skip
noncomputable def kff : List ResultVar := Try.f27.results.toList
noncomputable def k1m1 (o : k9f) : Exit → TSt TB.den → Prop := thenT TB (fun s => ghs TB [] s fun s => WP TB k72 24 0 (cB (cB (cB kd6))) .no s (retTQ TB k72 k2m kff o)) (retTQ TB k72 k2m kff o)
def k9r : Tm := ⟨[0, 1], [.cells [.d (.int .u64), .d (.int .i64), .d (.int .u64), .d (.int .u64), .d (.int .u64), .d (.sl (.st 1))], .tip (.int .u8)], [1, 3, 4], [.one (.ptr 0 0), .one (.own 1), .one (.d (.int .i64))], 2⟩
noncomputable def k1il (o : k9f) (nx1 : HL TB.den k9r.hs → Prop) : Exit → TSt TB.den → Prop := thenT TB (fun s => k9r.mat TB 0 s nx1) (blockT TB 0 (k1m1 o))
noncomputable def kg6 (o : k9f) (nx1 : HL TB.den k9r.hs → Prop) (i : HL TB.den k9r.hs) : Prop := WP TB k72 24 0 (cA (cA (cB (cA (cB (cB kd6)))))) .no (k9r.fill TB i) (k1il o nx1)
noncomputable def k1jg (o : k9f) : An TB := .nd [] .no [] (.lp [] k9r (kg6 o) fun nx1 => .no)
noncomputable def kzz (o : k9f) : An TB := .nd [] .no [] (.nd [] .no [] (.nd [] (k1jg o) [] .no))
noncomputable def km9 (x : k14j) (o : k9f) : Prop := WPh TB k72 24 0 kd6 (kzz o) (k2m.st TB x) (retTQ TB k72 k2m kff o)
set_option maxRecDepth 100000 in
theorem k1i6 (o : k9f) : OblH TB k72 24 0 kd6 (kzz o) (retTQ TB k72 k2m kff o) :=
  OblH.of_eq (X := (True ∧ (True ∧ ((True ∧ ((∀ nx i, (kg6 o) nx i = (kg6 o) nx i) ∧ ∀ nx1 : HL TB.den k9r.hs → Prop, ((True ∧ (True ∧ True)) ∧ (True ∧ True)))) ∧ (True ∧ True))))) (by kernel_rfl) ⟨trivial, ⟨trivial, ⟨⟨trivial, ⟨fun _ _ => rfl, fun _ => ⟨⟨trivial, ⟨trivial, trivial⟩⟩, ⟨trivial, trivial⟩⟩⟩⟩, ⟨trivial, trivial⟩⟩⟩⟩
set_option maxRecDepth 100000 in
theorem k1fu {x : k14j} {o : k9f} (h : km9 x o) : SoundH Try.prog k2m.f ((k2m.args idf x).map (er TB)) ((k2m.obs idf x).map (erO TB)) (er TB (k2m.val idf o)) ((k2m.ops idf o).map (erO TB)) :=
  Con.soundH (c := k2m) (C := k72) TBok ⟨inf_ok, (all_cons k199 (all_cons kqm (all_cons k10u all_nil))), all_nil⟩ mix Try.func27 (show Try.f27.body = some kd6 by kernel_rfl) (show Try.f27.ntmps = 24 by kernel_rfl) (show Try.f27.results.toList = kff by kernel_rfl) rfl h (k1i6 o)
set_option maxRecDepth 100000 in
theorem k1iw {p0 : TBlock} {r0 : List Int} (h :
((BR p0 ∧ p0.Txs.length ≤ 64) ∧ (hdrS p0 = hdrS p0) ∧ Md.Loop ((0 : Int), p0.Parent, p0.Height, p0.Miner, p0.Work, p0.Nonce, p0.Txs, (hdrS p0 : List Int), ()) (kg6 (r0, ())))) : km9 (p0.Parent, p0.Height, p0.Miner, p0.Work, p0.Nonce, p0.Txs, ()) (r0, ()) := WPh.of_eq (by kernel_rfl) h
def k12j (r0 : List Int) (k1 : Int → List Int → Prop) (h0_0 : Int) (h0_1 : Int) (h0_2 : Int) (h0_3 : Int) (h0_4 : Int) (h0_5 : List TTx) (s4 : Int) (g1 : List Int) : Prop :=
(decide (s4 < (h0_5.length : Int)) = true →
(0 ≤ s4) ∧ s4 < (h0_5.length : Int) ∧ (TR (ix h0_5 s4) ∧ TL (ix h0_5 s4) ∧ (ix h0_5 s4).Outs.length ≤ 1048576 ∧ (∀ x ∈ (ix h0_5 s4).Outs, x.Cipher.length ≤ 1024)) ∧ ((encT (ix h0_5 s4) (ix h0_5 s4).Proof).length ≤ 4294967295) ∧ let r1 : List Int := encB (encT (ix h0_5 s4) (ix h0_5 s4).Proof)
 g1.length = g1.length ∧ (g1.length + r1.length) * 1 ≤ 140737488355328 ∧ g1.length + r1.length ≤ maxLen ∧ (g1 ++ r1 = g1 ++ r1) ∧ k1 (IntKind.i64.wrap (s4 + 1) : Int) (g1 ++ r1 : List Int)) ∧
(decide (s4 < (h0_5.length : Int)) = false →
 g1 = r0)
set_option maxRecDepth 100000 in
theorem k1g8 {r0 : List Int} {h0_0 : Int} {h0_1 : Int} {h0_2 : Int} {h0_3 : Int} {h0_4 : Int} {h0_5 : List TTx} {s4 : Int} {g1 : List Int} (inv : Int → List Int → Prop) (μ : Int → List Int → Nat) (h0 : inv s4 g1) (hs : ∀ (s4 : Int) (g1 : List Int), inv s4 g1 → k12j r0 (fun s4q g1q => inv s4q g1q ∧ μ s4q g1q < μ s4 g1) h0_0 h0_1 h0_2 h0_3 h0_4 h0_5 s4 g1) : Md.Loop (s4, h0_0, h0_1, h0_2, h0_3, h0_4, h0_5, g1, ()) (kg6 (r0, ())) :=
  ⟨⟨fun s : Int × Int × Int × Int × Int × Int × (List TTx) × (List Int) × Unit => (s.2.1 = h0_0 ∧ s.2.2.1 = h0_1 ∧ s.2.2.2.1 = h0_2 ∧ s.2.2.2.2.1 = h0_3 ∧ s.2.2.2.2.2.1 = h0_4 ∧ s.2.2.2.2.2.2.1 = h0_5) ∧ inv s.1 s.2.2.2.2.2.2.2.1, fun s : Int × Int × Int × Int × Int × Int × (List TTx) × (List Int) × Unit => μ s.1 s.2.2.2.2.2.2.2.1, ⟨⟨rfl, rfl, rfl, rfl, rfl, rfl⟩, h0⟩, fun (s4p, h0_0p, h0_1p, h0_2p, h0_3p, h0_4p, h0_5p, g1p, ()) ⟨⟨eq0, eq1, eq2, eq3, eq4, eq5⟩, hi⟩ => by
    have eq0 : h0_0p = h0_0 := eq0; subst h0_0p; have eq1 : h0_1p = h0_1 := eq1; subst h0_1p; have eq2 : h0_2p = h0_2 := eq2; subst h0_2p; have eq3 : h0_3p = h0_3 := eq3; subst h0_3p; have eq4 : h0_4p = h0_4 := eq4; subst h0_4p; have eq5 : h0_5p = h0_5 := eq5; subst h0_5p; exact mpr_of (by kernel_rfl) ((congrArg (fun k => k12j r0 k h0_0 h0_1 h0_2 h0_3 h0_4 h0_5 s4p g1p) (lpk2 (⟨rfl, rfl, rfl, rfl, rfl, rfl⟩ : h0_0 = h0_0 ∧ h0_1 = h0_1 ∧ h0_2 = h0_2 ∧ h0_3 = h0_3 ∧ h0_4 = h0_4 ∧ h0_5 = h0_5) inv (fun s4q g1q => μ s4q g1q < μ s4p g1p))).mpr (hs s4p g1p hi))⟩⟩
theorem bd27 : Callable Try.prog 27 := ⟨by rw [Try.func27]; kernel_rfl, by rw [Try.func27]; show some _ ≠ some _; decide⟩
theorem k1bb (p0 : TBlock) (h : BR p0 ∧ VB p0) : km9 (p0.Parent, p0.Height, p0.Miner, p0.Work, p0.Nonce, p0.Txs, ()) ((encBk p0 : List Int), ()) := by
  obtain ⟨hr, v⟩ := h
  have hl := v.h.l
  refine k1iw ⟨⟨hr, hl⟩, rfl, ?_⟩
  refine k1g8 (fun i g => 0 ≤ i ∧ i ≤ p0.Txs.length ∧ g = hdrS p0 ++ (p0.Txs.take i.toNat).flatMap encTx) (fun i _ => (p0.Txs.length - i).toNat) ⟨by omega, by omega, by simp⟩ ?_
  rintro i g ⟨g0, g1, rfl⟩
  have hle := kin (p0.Txs.take i.toNat) (fun x hx => v.t x (List.mem_of_mem_take hx))
  rw [List.length_take] at hle
  have hgl : (hdrS p0 ++ (p0.Txs.take i.toNat).flatMap encTx).length = 40 + ((p0.Txs.take i.toNat).flatMap encTx).length := by rw [List.length_append, kn1]
  refine ⟨fun hh => ?_, fun hh => ?_⟩
  · have hh := of_decide_eq_true hh
    have hm := ix_mem p0.Txs i g0 hh
    have vt := (k3t _).1 (v.t _ hm)
    have h3 := vt.enc_len (ix p0.Txs i).Proof
    have h4 := vt.pl
    rw [inc i p0.Txs.length g0 hh (by omega)]
    refine ⟨g0, hh, vt.bl (hr.t _ hm), by omega, rfl, by rw [keq]; omega, by rw [keq]; unfold maxLen; omega, rfl, ⟨by omega, by omega, ?_⟩, by omega⟩
    rw [ka p0.Txs i g0 hh, List.flatMap_append, List.append_assoc]
    simp [encTx]
  · have hh := of_decide_eq_false hh
    rw [List.take_of_length_le (by omega)]
    rfl
noncomputable def kya : Con TB.den := k2m.fnR (fun x => (fun (p0 : TBlock) => BR p0 ∧ VB p0) (TBlock.mk x.1 x.2.1 x.2.2.1 x.2.2.2.1 x.2.2.2.2.1 x.2.2.2.2.2.1)) fun x => ((fun (p0 : TBlock) => (encBk p0 : List Int)) (TBlock.mk x.1 x.2.1 x.2.2.1 x.2.2.2.1 x.2.2.2.2.1 x.2.2.2.2.2.1), ())
theorem k1ln : kya.Ok Try.prog TB := Con.ok_fn k2m bd27 fun x h => k1fu (k1bb (TBlock.mk x.1 x.2.1 x.2.2.1 x.2.2.2.1 x.2.2.2.2.1 x.2.2.2.2.2.1) h)
end Go.Proofs.Ytnmakgfmimagmaa
namespace Go.Proofs.Ytnmakgfmimagmaa
open Go Go.Bv Go.Cv Go.Md Go.RowKit
def k2n : Con TB.den := Con.mk0 14 [.agg [.d (.int .u64), .d (.sl (.int .u64)), .d (.sl (.st 0)), .d (.int .u64), .d (.int .u64), .d (.int .u64), .d (.int .u64), .d (.int .u64), .d (.int .i64), .d (.sl (.int .u8))], .one (.d (.int .i64))] [] (.one (.one (.d (.bool)))) []
abbrev k13w := HL TB.den (hsT k2n.ins (hsOs k2n.pre))
abbrev k9i := HL TB.den (hsV k2n.res (hsOs k2n.post))
noncomputable def k6u : Cx TB := ⟨inf, [], [], 4⟩
noncomputable def kda : Code := Try.f14.body.getD .skip
noncomputable def kg9 : List ResultVar := Try.f14.results.toList
noncomputable def k1i9 (o : k9i) : Exit → TSt TB.den → Prop := thenT TB (fun s => ghs TB [] s fun s => WP TB k6u 38 0 (cB (cB kda)) .no s (retTQ TB k6u k2n kg9 o)) (retTQ TB k6u k2n kg9 o)
def ka9 : Tm := ⟨[0], [.cells [.d (.int .u64), .d (.sl (.int .u64)), .d (.sl (.st 0)), .d (.int .u64), .d (.int .u64), .d (.int .u64), .d (.int .u64), .d (.int .u64), .d (.int .i64), .d (.sl (.int .u8))]], [1, 2, 5], [.one (.d (.int .i64)), .one (.ptr 0 0), .one (.d (.int .i64))], 1⟩
noncomputable def k1m4 (o : k9i) (nx1 : HL TB.den ka9.hs → Prop) : Exit → TSt TB.den → Prop := thenT TB (fun s => ka9.mat TB 0 s nx1) (blockT TB 0 (k1i9 o))
noncomputable def kge (o : k9i) (nx1 : HL TB.den ka9.hs → Prop) (i : HL TB.den ka9.hs) : Prop := WP TB k6u 38 0 (cA (cA (cB (cA (cB kda))))) .no (ka9.fill TB i) (k1m4 o nx1)
noncomputable def k1ij (o : k9i) : An TB := .nd [] .no [] (.lp [] ka9 (kge o) fun nx1 => .no)
noncomputable def k10n (o : k9i) : An TB := .nd [] .no [] (.nd [] (k1ij o) [] .no)
noncomputable def kmm (x : k13w) (o : k9i) : Prop := WPh TB k6u 38 0 kda (k10n o) (k2n.st TB x) (retTQ TB k6u k2n kg9 o)
set_option maxRecDepth 100000 in
theorem k1fp (o : k9i) : OblH TB k6u 38 0 kda (k10n o) (retTQ TB k6u k2n kg9 o) :=
  OblH.of_eq (X := (True ∧ ((True ∧ ((∀ nx i, (kge o) nx i = (kge o) nx i) ∧ ∀ nx1 : HL TB.den ka9.hs → Prop, ((True ∧ (True ∧ True)) ∧ ((True ∧ ((True ∧ True) ∧ True)) ∧ True)))) ∧ (True ∧ True)))) (by kernel_rfl) ⟨trivial, ⟨⟨trivial, ⟨fun _ _ => rfl, fun _ => ⟨⟨trivial, ⟨trivial, trivial⟩⟩, ⟨⟨trivial, ⟨⟨trivial, trivial⟩, trivial⟩⟩, trivial⟩⟩⟩⟩, ⟨trivial, trivial⟩⟩⟩
set_option maxRecDepth 100000 in
theorem k1f1 {x : k13w} {o : k9i} (h : kmm x o) : SoundH Try.prog k2n.f ((k2n.args idf x).map (er TB)) ((k2n.obs idf x).map (erO TB)) (er TB (k2n.val idf o)) ((k2n.ops idf o).map (erO TB)) :=
  Con.soundH (c := k2n) (C := k6u) TBok ⟨inf_ok, all_nil, all_nil⟩ mix Try.func14 (show Try.f14.body = some kda by kernel_rfl) (show Try.f14.ntmps = 38 by kernel_rfl) (show Try.f14.results.toList = kg9 by kernel_rfl) rfl h (k1fp o)
set_option maxRecDepth 100000 in
theorem k1l8 {p0 : TTx} {p1 : Int} {r0 : Bool} (h :
(Md.Loop (p1, (0 : Int), p0.Anchor, p0.Marks, p0.Outs, p0.Deposit, p0.Withdraw, p0.Fee, p0.Account, p0.Nonce, p0.Expiry, p0.Proof, ()) (kge (r0, ())))) : kmm (p0.Anchor, p0.Marks, p0.Outs, p0.Deposit, p0.Withdraw, p0.Fee, p0.Account, p0.Nonce, p0.Expiry, p0.Proof, p1, ()) (r0, ()) := WPh.of_eq (by kernel_rfl) h
def k11f (r0 : Bool) (k1 : Int → Prop) (s1 : Int) (h0_0 : Int) (h0_1 : List Int) (h0_2 : List TOut) (h0_3 : Int) (h0_4 : Int) (h0_5 : Int) (h0_6 : Int) (h0_7 : Int) (h0_8 : Int) (h0_9 : List Int) (s5 : Int) : Prop :=
(decide (s5 < (h0_2.length : Int)) = true →
(0 ≤ s5) ∧ s5 < (h0_2.length : Int) ∧ let v1 : Bool := decide (10 < (((ix h0_2 s5).Cipher).length : Int))
(v1 = true →
 false = r0) ∧
(v1 = false →
 k1 (IntKind.i64.wrap (s5 + 1) : Int))) ∧
(decide (s5 < (h0_2.length : Int)) = false →
(decide ((h0_1.length : Int) ≤ 10) = true →
(decide ((h0_2.length : Int) ≤ 10) = true →
 decide ((h0_9.length : Int) ≤ s1) = r0) ∧
(decide ((h0_2.length : Int) ≤ 10) = false →
 false = r0)) ∧
(decide ((h0_1.length : Int) ≤ 10) = false →
 false = r0))
set_option maxRecDepth 100000 in
theorem k1fy {r0 : Bool} {s1 : Int} {h0_0 : Int} {h0_1 : List Int} {h0_2 : List TOut} {h0_3 : Int} {h0_4 : Int} {h0_5 : Int} {h0_6 : Int} {h0_7 : Int} {h0_8 : Int} {h0_9 : List Int} {s5 : Int} (inv : Int → Prop) (μ : Int → Nat) (h0 : inv s5) (hs : ∀ (s5 : Int), inv s5 → k11f r0 (fun s5q => inv s5q ∧ μ s5q < μ s5) s1 h0_0 h0_1 h0_2 h0_3 h0_4 h0_5 h0_6 h0_7 h0_8 h0_9 s5) : Md.Loop (s1, s5, h0_0, h0_1, h0_2, h0_3, h0_4, h0_5, h0_6, h0_7, h0_8, h0_9, ()) (kge (r0, ())) :=
  ⟨⟨fun s : Int × Int × Int × (List Int) × (List TOut) × Int × Int × Int × Int × Int × Int × (List Int) × Unit => (s.1 = s1 ∧ s.2.2.1 = h0_0 ∧ s.2.2.2.1 = h0_1 ∧ s.2.2.2.2.1 = h0_2 ∧ s.2.2.2.2.2.1 = h0_3 ∧ s.2.2.2.2.2.2.1 = h0_4 ∧ s.2.2.2.2.2.2.2.1 = h0_5 ∧ s.2.2.2.2.2.2.2.2.1 = h0_6 ∧ s.2.2.2.2.2.2.2.2.2.1 = h0_7 ∧ s.2.2.2.2.2.2.2.2.2.2.1 = h0_8 ∧ s.2.2.2.2.2.2.2.2.2.2.2.1 = h0_9) ∧ inv s.2.1, fun s : Int × Int × Int × (List Int) × (List TOut) × Int × Int × Int × Int × Int × Int × (List Int) × Unit => μ s.2.1, ⟨⟨rfl, rfl, rfl, rfl, rfl, rfl, rfl, rfl, rfl, rfl, rfl⟩, h0⟩, fun (s1p, s5p, h0_0p, h0_1p, h0_2p, h0_3p, h0_4p, h0_5p, h0_6p, h0_7p, h0_8p, h0_9p, ()) ⟨⟨eq0, eq1, eq2, eq3, eq4, eq5, eq6, eq7, eq8, eq9, eq10⟩, hi⟩ => by
    have eq0 : s1p = s1 := eq0; subst s1p; have eq1 : h0_0p = h0_0 := eq1; subst h0_0p; have eq2 : h0_1p = h0_1 := eq2; subst h0_1p; have eq3 : h0_2p = h0_2 := eq3; subst h0_2p; have eq4 : h0_3p = h0_3 := eq4; subst h0_3p; have eq5 : h0_4p = h0_4 := eq5; subst h0_4p; have eq6 : h0_5p = h0_5 := eq6; subst h0_5p; have eq7 : h0_6p = h0_6 := eq7; subst h0_6p; have eq8 : h0_7p = h0_7 := eq8; subst h0_7p; have eq9 : h0_8p = h0_8 := eq9; subst h0_8p; have eq10 : h0_9p = h0_9 := eq10; subst h0_9p; exact mpr_of (by kernel_rfl) ((congrArg (fun k => k11f r0 k s1 h0_0 h0_1 h0_2 h0_3 h0_4 h0_5 h0_6 h0_7 h0_8 h0_9 s5p) (lpk1 (⟨rfl, rfl, rfl, rfl, rfl, rfl, rfl, rfl, rfl, rfl, rfl⟩ : s1 = s1 ∧ h0_0 = h0_0 ∧ h0_1 = h0_1 ∧ h0_2 = h0_2 ∧ h0_3 = h0_3 ∧ h0_4 = h0_4 ∧ h0_5 = h0_5 ∧ h0_6 = h0_6 ∧ h0_7 = h0_7 ∧ h0_8 = h0_8 ∧ h0_9 = h0_9) inv (fun s5q => μ s5q < μ s5p))).mpr (hs s5p hi))⟩⟩
theorem bd14 : Callable Try.prog 14 := ⟨by rw [Try.func14]; kernel_rfl, by rw [Try.func14]; show some _ ≠ some _; decide⟩
theorem k1b2 (p0 : TTx) (p1 : Int) (h : p0.Outs.length ≤ 9223372036854775807) : kmm (p0.Anchor, p0.Marks, p0.Outs, p0.Deposit, p0.Withdraw, p0.Fee, p0.Account, p0.Nonce, p0.Expiry, p0.Proof, p1, ()) ((smallB p0 p1 : Bool), ()) := by
  refine k1l8 (k1fy (fun i => 0 ≤ i ∧ i ≤ p0.Outs.length ∧ ∀ x ∈ p0.Outs.take i.toNat, x.Cipher.length ≤ 10) (fun i => (p0.Outs.length - i).toNat) ⟨by omega, by omega, by simp⟩ ?_)
  rintro i ⟨g0, g1, g2⟩
  refine ⟨fun hh => ?_, fun hh => ?_⟩
  · have hh := of_decide_eq_true hh
    refine ⟨g0, hh, fun e => ?_, fun e => ?_⟩
    · have e := of_decide_eq_true e
      unfold smallB
      have : p0.Outs.all (fun x => decide (x.Cipher.length ≤ 10)) = false := List.all_eq_false.2 ⟨_, ix_mem p0.Outs i g0 hh, by simp; omega⟩
      rw [this]
      simp
    · have e := of_decide_eq_false e
      rw [inc i p0.Outs.length g0 hh (by omega)]
      refine ⟨⟨by omega, by omega, ?_⟩, by omega⟩
      rw [ka p0.Outs i g0 hh]
      intro x hx
      rcases List.mem_append.1 hx with hx | hx
      · exact g2 x hx
      · have : x = ix p0.Outs i := by simpa using hx
        rw [this]; omega
  · have hh := of_decide_eq_false hh
    rw [List.take_of_length_le (by omega)] at g2
    unfold smallB
    have : p0.Outs.all (fun x => decide (x.Cipher.length ≤ 10)) = true := by simpa using g2
    rw [this]
    refine ⟨fun h1 => ⟨fun h2 => ?_, fun h2 => ?_⟩, fun h1 => ?_⟩
    · have h1 := of_decide_eq_true h1
      have h2 := of_decide_eq_true h2
      rw [decide_eq_true (p := p0.Marks.length ≤ 10) (by omega), decide_eq_true (p := p0.Outs.length ≤ 10) (by omega)]
      simp
    · have h2 := of_decide_eq_false h2
      rw [decide_eq_false (p := p0.Outs.length ≤ 10) (by omega)]
      simp
    · have h1 := of_decide_eq_false h1
      rw [decide_eq_false (p := p0.Marks.length ≤ 10) (by omega)]
      simp
noncomputable def kxv : Con TB.den := k2n.fnR (fun x => (fun (p0 : TTx) (p1 : Int) => p0.Outs.length ≤ 9223372036854775807) (TTx.mk x.1 x.2.1 x.2.2.1 x.2.2.2.1 x.2.2.2.2.1 x.2.2.2.2.2.1 x.2.2.2.2.2.2.1 x.2.2.2.2.2.2.2.1 x.2.2.2.2.2.2.2.2.1 x.2.2.2.2.2.2.2.2.2.1) x.2.2.2.2.2.2.2.2.2.2.1) fun x => ((fun (p0 : TTx) (p1 : Int) => (smallB p0 p1 : Bool)) (TTx.mk x.1 x.2.1 x.2.2.1 x.2.2.2.1 x.2.2.2.2.1 x.2.2.2.2.2.1 x.2.2.2.2.2.2.1 x.2.2.2.2.2.2.2.1 x.2.2.2.2.2.2.2.2.1 x.2.2.2.2.2.2.2.2.2.1) x.2.2.2.2.2.2.2.2.2.2.1, ())
theorem k1jx : kxv.Ok Try.prog TB := Con.ok_fn k2n bd14 fun x h => k1f1 (k1b2 (TTx.mk x.1 x.2.1 x.2.2.1 x.2.2.2.1 x.2.2.2.2.1 x.2.2.2.2.2.1 x.2.2.2.2.2.2.1 x.2.2.2.2.2.2.2.1 x.2.2.2.2.2.2.2.2.1 x.2.2.2.2.2.2.2.2.2.1) x.2.2.2.2.2.2.2.2.2.2.1 h)
end Go.Proofs.Ytnmakgfmimagmaa
namespace Go.Proofs.Ytnmakgfmimagmaa
open Go Go.Bv Go.Cv Go.Md Go.RowKit
def k2p : Con TB.den := Con.mk0 11 [.agg [.d (.int .u64), .d (.int .i64), .d (.int .u64), .d (.int .u64), .d (.int .u64), .d (.sl (.st 1))]] [] (.one (.one (.d (.bool)))) []
abbrev k14d := HL TB.den (hsT k2p.ins (hsOs k2p.pre))
abbrev k9h := HL TB.den (hsV k2p.res (hsOs k2p.post))
noncomputable def k6j : Cx TB := ⟨inf, [kxv], [], 4⟩
noncomputable def kd7 : Code := Try.f11.body.getD .skip
noncomputable def kfk : List ResultVar := Try.f11.results.toList
noncomputable def k1jl (o : k9h) : Exit → TSt TB.den → Prop := thenT TB (fun s => ghs TB [] s fun s => WP TB k6j 22 0 (cB (cB (cB kd7))) .no s (retTQ TB k6j k2p kfk o)) (retTQ TB k6j k2p kfk o)
def k9p : Tm := ⟨[0], [.cells [.d (.int .u64), .d (.int .i64), .d (.int .u64), .d (.int .u64), .d (.int .u64), .d (.sl (.st 1))]], [1, 3], [.one (.ptr 0 0), .one (.d (.int .i64))], 1⟩
noncomputable def k1j4 (o : k9h) (nx1 : HL TB.den k9p.hs → Prop) : Exit → TSt TB.den → Prop := thenT TB (fun s => k9p.mat TB 0 s nx1) (blockT TB 0 (k1jl o))
noncomputable def kfh (o : k9h) (nx1 : HL TB.den k9p.hs → Prop) (i : HL TB.den k9p.hs) : Prop := WP TB k6j 22 0 (cA (cA (cB (cA (cB (cB kd7)))))) .no (k9p.fill TB i) (k1j4 o nx1)
noncomputable def k1kg (o : k9h) : An TB := .nd [] .no [] (.lp [] k9p (kfh o) fun nx1 => .no)
noncomputable def k126 (o : k9h) : An TB := .nd [] .no [] (.nd [] .no [] (.nd [] (k1kg o) [] .no))
noncomputable def km7 (x : k14d) (o : k9h) : Prop := WPh TB k6j 22 0 kd7 (k126 o) (k2p.st TB x) (retTQ TB k6j k2p kfk o)
set_option maxRecDepth 100000 in
theorem k1fx (o : k9h) : OblH TB k6j 22 0 kd7 (k126 o) (retTQ TB k6j k2p kfk o) :=
  OblH.of_eq (X := (True ∧ ((True ∧ ((True ∧ True) ∧ True)) ∧ ((True ∧ ((∀ nx i, (kfh o) nx i = (kfh o) nx i) ∧ ∀ nx1 : HL TB.den k9p.hs → Prop, ((True ∧ (True ∧ True)) ∧ ((True ∧ ((True ∧ True) ∧ True)) ∧ True)))) ∧ (True ∧ True))))) (by kernel_rfl) ⟨trivial, ⟨⟨trivial, ⟨⟨trivial, trivial⟩, trivial⟩⟩, ⟨⟨trivial, ⟨fun _ _ => rfl, fun _ => ⟨⟨trivial, ⟨trivial, trivial⟩⟩, ⟨⟨trivial, ⟨⟨trivial, trivial⟩, trivial⟩⟩, trivial⟩⟩⟩⟩, ⟨trivial, trivial⟩⟩⟩⟩
set_option maxRecDepth 100000 in
theorem k1g2 {x : k14d} {o : k9h} (h : km7 x o) : SoundH Try.prog k2p.f ((k2p.args idf x).map (er TB)) ((k2p.obs idf x).map (erO TB)) (er TB (k2p.val idf o)) ((k2p.ops idf o).map (erO TB)) :=
  Con.soundH (c := k2p) (C := k6j) TBok ⟨inf_ok, (all_cons k1jx all_nil), all_nil⟩ mix Try.func11 (show Try.f11.body = some kd7 by kernel_rfl) (show Try.f11.ntmps = 22 by kernel_rfl) (show Try.f11.results.toList = kfk by kernel_rfl) rfl h (k1fx o)
set_option maxRecDepth 100000 in
theorem k1iz {p0 : TBlock} {r0 : Bool} (h :
((decide (6 < (p0.Txs.length : Int)) = true →
 false = r0) ∧
(decide (6 < (p0.Txs.length : Int)) = false →
 Md.Loop ((0 : Int), p0.Parent, p0.Height, p0.Miner, p0.Work, p0.Nonce, p0.Txs, ()) (kfh (r0, ()))))) : km7 (p0.Parent, p0.Height, p0.Miner, p0.Work, p0.Nonce, p0.Txs, ()) (r0, ()) := WPh.of_eq (by kernel_rfl) h
def k11y (r0 : Bool) (k1 : Int → Prop) (h0_0 : Int) (h0_1 : Int) (h0_2 : Int) (h0_3 : Int) (h0_4 : Int) (h0_5 : List TTx) (s3 : Int) : Prop :=
(decide (s3 < (h0_5.length : Int)) = true →
(0 ≤ s3) ∧ s3 < (h0_5.length : Int) ∧ ((ix h0_5 s3).Outs.length ≤ 9223372036854775807) ∧ ((!smallB (ix h0_5 s3) (100 : Int)) = true →
 false = r0) ∧
((!smallB (ix h0_5 s3) (100 : Int)) = false →
 k1 (IntKind.i64.wrap (s3 + 1) : Int))) ∧
(decide (s3 < (h0_5.length : Int)) = false →
 true = r0)
set_option maxRecDepth 100000 in
theorem k1f6 {r0 : Bool} {h0_0 : Int} {h0_1 : Int} {h0_2 : Int} {h0_3 : Int} {h0_4 : Int} {h0_5 : List TTx} {s3 : Int} (inv : Int → Prop) (μ : Int → Nat) (h0 : inv s3) (hs : ∀ (s3 : Int), inv s3 → k11y r0 (fun s3q => inv s3q ∧ μ s3q < μ s3) h0_0 h0_1 h0_2 h0_3 h0_4 h0_5 s3) : Md.Loop (s3, h0_0, h0_1, h0_2, h0_3, h0_4, h0_5, ()) (kfh (r0, ())) :=
  ⟨⟨fun s : Int × Int × Int × Int × Int × Int × (List TTx) × Unit => (s.2.1 = h0_0 ∧ s.2.2.1 = h0_1 ∧ s.2.2.2.1 = h0_2 ∧ s.2.2.2.2.1 = h0_3 ∧ s.2.2.2.2.2.1 = h0_4 ∧ s.2.2.2.2.2.2.1 = h0_5) ∧ inv s.1, fun s : Int × Int × Int × Int × Int × Int × (List TTx) × Unit => μ s.1, ⟨⟨rfl, rfl, rfl, rfl, rfl, rfl⟩, h0⟩, fun (s3p, h0_0p, h0_1p, h0_2p, h0_3p, h0_4p, h0_5p, ()) ⟨⟨eq0, eq1, eq2, eq3, eq4, eq5⟩, hi⟩ => by
    have eq0 : h0_0p = h0_0 := eq0; subst h0_0p; have eq1 : h0_1p = h0_1 := eq1; subst h0_1p; have eq2 : h0_2p = h0_2 := eq2; subst h0_2p; have eq3 : h0_3p = h0_3 := eq3; subst h0_3p; have eq4 : h0_4p = h0_4 := eq4; subst h0_4p; have eq5 : h0_5p = h0_5 := eq5; subst h0_5p; exact mpr_of (by kernel_rfl) ((congrArg (fun k => k11y r0 k h0_0 h0_1 h0_2 h0_3 h0_4 h0_5 s3p) (lpk1 (⟨rfl, rfl, rfl, rfl, rfl, rfl⟩ : h0_0 = h0_0 ∧ h0_1 = h0_1 ∧ h0_2 = h0_2 ∧ h0_3 = h0_3 ∧ h0_4 = h0_4 ∧ h0_5 = h0_5) inv (fun s3q => μ s3q < μ s3p))).mpr (hs s3p hi))⟩⟩
theorem bd11 : Callable Try.prog 11 := ⟨by rw [Try.func11]; kernel_rfl, by rw [Try.func11]; show some _ ≠ some _; decide⟩
theorem k1d7 (p0 : TBlock) (h : ∀ x ∈ p0.Txs, x.Outs.length ≤ 9223372036854775807) : km7 (p0.Parent, p0.Height, p0.Miner, p0.Work, p0.Nonce, p0.Txs, ()) ((smallBk p0 : Bool), ()) := by
  refine k1iz ⟨fun e => ?_, fun e => ?_⟩
  · have e := of_decide_eq_true e
    unfold smallBk
    rw [decide_eq_false (p := p0.Txs.length ≤ 6) (by omega)]
    rfl
  · have e := of_decide_eq_false e
    refine k1f6 (fun i => 0 ≤ i ∧ i ≤ p0.Txs.length ∧ ∀ x ∈ p0.Txs.take i.toNat, smallB x 100 = true) (fun i => (p0.Txs.length - i).toNat) ⟨by omega, by omega, by simp⟩ ?_
    rintro i ⟨g0, g1, g2⟩
    refine ⟨fun hh => ?_, fun hh => ?_⟩
    · have hh := of_decide_eq_true hh
      have hm := ix_mem p0.Txs i g0 hh
      rw [inc i p0.Txs.length g0 hh (by omega)]
      refine ⟨g0, hh, h _ hm, fun e2 => ?_, fun e2 => ⟨⟨by omega, by omega, ?_⟩, by omega⟩⟩
      · have e2 : smallB (ix p0.Txs i) 100 = false := by simpa using e2
        unfold smallBk
        have : p0.Txs.all (fun t => smallB t 100) = false := List.all_eq_false.2 ⟨_, hm, by simp [e2]⟩
        rw [this]
        simp
      · rw [ka p0.Txs i g0 hh]
        intro t ht
        rcases List.mem_append.1 ht with ht | ht
        · exact g2 t ht
        · rw [List.mem_singleton.1 ht]; simpa using e2
    · have hh := of_decide_eq_false hh
      rw [List.take_of_length_le (by omega)] at g2
      unfold smallBk
      rw [decide_eq_true (p := p0.Txs.length ≤ 6) (by omega), List.all_eq_true.2 g2]
      rfl
noncomputable def ky0 : Con TB.den := k2p.fnR (fun x => (fun (p0 : TBlock) => ∀ x ∈ p0.Txs, x.Outs.length ≤ 9223372036854775807) (TBlock.mk x.1 x.2.1 x.2.2.1 x.2.2.2.1 x.2.2.2.2.1 x.2.2.2.2.2.1)) fun x => ((fun (p0 : TBlock) => (smallBk p0 : Bool)) (TBlock.mk x.1 x.2.1 x.2.2.1 x.2.2.2.1 x.2.2.2.2.1 x.2.2.2.2.2.1), ())
theorem k1lu : ky0.Ok Try.prog TB := Con.ok_fn k2p bd11 fun x h => k1g2 (k1d7 (TBlock.mk x.1 x.2.1 x.2.2.1 x.2.2.2.1 x.2.2.2.2.1 x.2.2.2.2.2.1) h)
end Go.Proofs.Ytnmakgfmimagmaa
namespace Go.Proofs.Ytnmakgfmimagmaa
open Go Go.Bv Go.Cv Go.Md Go.RowKit
def k3o : Con TB.den := Con.mk0 32 [.agg [.d (.int .u64), .d (.int .u64)]] [] (.one (.one (.d (.bool)))) []
abbrev k14h := HL TB.den (hsT k3o.ins (hsOs k3o.pre))
abbrev knh := HL TB.den (hsV k3o.res (hsOs k3o.post))
noncomputable def kfx : Cx TB := ⟨inf, [], [], 4⟩
noncomputable def kmo : Code := Try.f32.body.getD .skip
noncomputable def kq7 : List ResultVar := Try.f32.results.toList
noncomputable def k109 (o : knh) : An TB := .no
noncomputable def kmz (x : k14h) (o : knh) : Prop := WPh TB kfx 21 0 kmo (k109 o) (k3o.st TB x) (retTQ TB kfx k3o kq7 o)
set_option maxRecDepth 100000 in
theorem k1fj (o : knh) : OblH TB kfx 21 0 kmo (k109 o) (retTQ TB kfx k3o kq7 o) :=
  OblH.of_eq (X := (True ∧ (True ∧ True))) (by kernel_rfl) ⟨trivial, ⟨trivial, trivial⟩⟩
set_option maxRecDepth 100000 in
theorem k1fv {x : k14h} {o : knh} (h : kmz x o) : SoundH Try.prog k3o.f ((k3o.args idf x).map (er TB)) ((k3o.obs idf x).map (erO TB)) (er TB (k3o.val idf o)) ((k3o.ops idf o).map (erO TB)) :=
  Con.soundH (c := k3o) (C := kfx) TBok ⟨inf_ok, all_nil, all_nil⟩ mix Try.func32 (show Try.f32.body = some kmo by kernel_rfl) (show Try.f32.ntmps = 21 by kernel_rfl) (show Try.f32.results.toList = kq7 by kernel_rfl) rfl h (k1fj o)
set_option maxRecDepth 100000 in
theorem k1is {p0 : TA2} {r0 : Bool} (h :
((decide (p0.a0 < 18446744069414584321) = true →
(decide (p0.a1 < 18446744069414584321) = true →
(decide (0 < p0.a0) = true →
 true = r0) ∧
(decide (0 < p0.a0) = false →
 decide (0 < p0.a1) = r0)) ∧
(decide (p0.a1 < 18446744069414584321) = false →
 false = r0)) ∧
(decide (p0.a0 < 18446744069414584321) = false →
 false = r0))) : kmz (p0.a0, p0.a1, ()) (r0, ()) := WPh.of_eq (by kernel_rfl) h
theorem bd32 : Callable Try.prog 32 := ⟨by rw [Try.func32]; kernel_rfl, by rw [Try.func32]; show some _ ≠ some _; decide⟩
theorem k1cj (p0 : TA2) (h : 0 ≤ p0.a0 ∧ 0 ≤ p0.a1) : kmz (p0.a0, p0.a1, ()) ((vPoint p0.a0 p0.a1 : Bool), ()) := by
  refine k1is ?_
  unfold vPoint
  repeat' (apply And.intro <;> intro h)
  all_goals grind
noncomputable def kxh : Con TB.den := k3o.fnR (fun x => (fun (p0 : TA2) => 0 ≤ p0.a0 ∧ 0 ≤ p0.a1) (TA2.mk x.1 x.2.1)) fun x => ((fun (p0 : TA2) => (vPoint p0.a0 p0.a1 : Bool)) (TA2.mk x.1 x.2.1), ())
theorem k1kd : kxh.Ok Try.prog TB := Con.ok_fn k3o bd32 fun x h => k1fv (k1cj (TA2.mk x.1 x.2.1) h)
end Go.Proofs.Ytnmakgfmimagmaa
namespace Go.Proofs.Ytnmakgfmimagmaa
open Go Go.Bv Go.Cv Go.Md Go.RowKit
def k1t : Con TB.den := Con.mk0 31 [.one (.d (.sl (.int .u64)))] [] (.one (.one (.d (.bool)))) []
abbrev kyi := HL TB.den (hsT k1t.ins (hsOs k1t.pre))
abbrev k7a := HL TB.den (hsV k1t.res (hsOs k1t.post))
noncomputable def k5g : Cx TB := ⟨inf, [], [], 4⟩
noncomputable def ka7 : Code := Try.f31.body.getD .skip
noncomputable def kcc : List ResultVar := Try.f31.results.toList
noncomputable def k1cc (o : k7a) : Exit → TSt TB.den → Prop := thenT TB (fun s => ghs TB [] s fun s => WP TB k5g 15 0 (cB (cB ka7)) .no s (retTQ TB k5g k1t kcc o)) (retTQ TB k5g k1t kcc o)
def k7o : Tm := ⟨[], [], [0, 3], [.one (.d (.sl (.int .u64))), .one (.d (.int .i64))], 0⟩
noncomputable def k1dr (o : k7a) (nx1 : HL TB.den k7o.hs → Prop) : Exit → TSt TB.den → Prop := thenT TB (fun s => k7o.mat TB 0 s nx1) (blockT TB 0 (k1cc o))
noncomputable def kcy (o : k7a) (nx1 : HL TB.den k7o.hs → Prop) (i : HL TB.den k7o.hs) : Prop := WP TB k5g 15 0 (cA (cA (cB (cA (cB ka7))))) .no (k7o.fill TB i) (k1dr o nx1)
noncomputable def k1d4 (o : k7a) : An TB := .nd [] .no [] (.lp [] k7o (kcy o) fun nx1 => .no)
noncomputable def kuq (o : k7a) : An TB := .nd [] .no [] (.nd [] (k1d4 o) [] .no)
noncomputable def kiy (x : kyi) (o : k7a) : Prop := WPh TB k5g 15 0 ka7 (kuq o) (k1t.st TB x) (retTQ TB k5g k1t kcc o)
set_option maxRecDepth 100000 in
theorem k188 (o : k7a) : OblH TB k5g 15 0 ka7 (kuq o) (retTQ TB k5g k1t kcc o) :=
  OblH.of_eq (X := (True ∧ ((True ∧ ((∀ nx i, (kcy o) nx i = (kcy o) nx i) ∧ ∀ nx1 : HL TB.den k7o.hs → Prop, ((True ∧ (True ∧ True)) ∧ ((True ∧ ((True ∧ True) ∧ True)) ∧ True)))) ∧ (True ∧ True)))) (by kernel_rfl) ⟨trivial, ⟨⟨trivial, ⟨fun _ _ => rfl, fun _ => ⟨⟨trivial, ⟨trivial, trivial⟩⟩, ⟨⟨trivial, ⟨⟨trivial, trivial⟩, trivial⟩⟩, trivial⟩⟩⟩⟩, ⟨trivial, trivial⟩⟩⟩
set_option maxRecDepth 100000 in
theorem k1ag {x : kyi} {o : k7a} (h : kiy x o) : SoundH Try.prog k1t.f ((k1t.args idf x).map (er TB)) ((k1t.obs idf x).map (erO TB)) (er TB (k1t.val idf o)) ((k1t.ops idf o).map (erO TB)) :=
  Con.soundH (c := k1t) (C := k5g) TBok ⟨inf_ok, all_nil, all_nil⟩ mix Try.func31 (show Try.f31.body = some ka7 by kernel_rfl) (show Try.f31.ntmps = 15 by kernel_rfl) (show Try.f31.results.toList = kcc by kernel_rfl) rfl h (k188 o)
set_option maxRecDepth 100000 in
theorem k1cp {p0 : List Int} {r0 : Bool} (h :
(Md.Loop (p0, (0 : Int), ()) (kcy (r0, ())))) : kiy (p0, ()) (r0, ()) := WPh.of_eq (by kernel_rfl) h
def ktl (r0 : Bool) (k1 : Int → Prop) (s0 : List Int) (s3 : Int) : Prop :=
(decide (s3 < (s0.length : Int)) = true →
(0 ≤ s3) ∧ s3 < (s0.length : Int) ∧ let v1 : Bool := decide (18446744069414584321 ≤ (ix s0 s3))
(v1 = true →
 false = r0) ∧
(v1 = false →
 k1 (IntKind.i64.wrap (s3 + 1) : Int))) ∧
(decide (s3 < (s0.length : Int)) = false →
 true = r0)
set_option maxRecDepth 100000 in
theorem k18w {r0 : Bool} {s0 : List Int} {s3 : Int} (inv : Int → Prop) (μ : Int → Nat) (h0 : inv s3) (hs : ∀ (s3 : Int), inv s3 → ktl r0 (fun s3q => inv s3q ∧ μ s3q < μ s3) s0 s3) : Md.Loop (s0, s3, ()) (kcy (r0, ())) :=
  ⟨⟨fun s : (List Int) × Int × Unit => (s.1 = s0) ∧ inv s.2.1, fun s : (List Int) × Int × Unit => μ s.2.1, ⟨rfl, h0⟩, fun (s0p, s3p, ()) ⟨eq0, hi⟩ => by
    have eq0 : s0p = s0 := eq0; subst s0p; exact mpr_of (by kernel_rfl) ((congrArg (fun k => ktl r0 k s0 s3p) (lpk1 (rfl : s0 = s0) inv (fun s3q => μ s3q < μ s3p))).mpr (hs s3p hi))⟩⟩
theorem bd31 : Callable Try.prog 31 := ⟨by rw [Try.func31]; kernel_rfl, by rw [Try.func31]; show some _ ≠ some _; decide⟩
theorem k17s (p0 : List Int) (h : p0.length ≤ 9223372036854775807) : kiy (p0, ()) ((p0.all (fun x => decide (x < 18446744069414584321)) : Bool), ()) := by
  refine k1cp (k18w (fun i => 0 ≤ i ∧ i ≤ p0.length ∧ ∀ x ∈ p0.take i.toNat, x < 18446744069414584321) (fun i => (p0.length - i).toNat) ⟨by omega, by omega, by simp⟩ ?_)
  rintro i ⟨g0, g1, g2⟩
  refine ⟨fun hh => ?_, fun hh => ?_⟩
  · have hh := of_decide_eq_true hh
    refine ⟨g0, hh, fun e => ?_, fun e => ?_⟩
    · have e := of_decide_eq_true e
      exact (List.all_eq_false.2 ⟨_, ix_mem p0 i g0 hh, by simp; omega⟩).symm
    · have e := of_decide_eq_false e
      rw [inc i p0.length g0 hh (by omega)]
      refine ⟨⟨by omega, by omega, ?_⟩, by omega⟩
      rw [ka p0 i g0 hh]
      intro x hx
      rcases List.mem_append.1 hx with hx | hx
      · exact g2 x hx
      · have : x = ix p0 i := by simpa using hx
        omega
  · have hh := of_decide_eq_false hh
    rw [List.take_of_length_le (by omega)] at g2
    symm
    simpa using g2
noncomputable def ks7 : Con TB.den := k1t.fnR (fun x => (fun (p0 : List Int) => p0.length ≤ 9223372036854775807) x.1) fun x => ((fun (p0 : List Int) => (p0.all (fun x => decide (x < 18446744069414584321)) : Bool)) x.1, ())
theorem k1b6 : ks7.Ok Try.prog TB := Con.ok_fn k1t bd31 fun x h => k1ag (k17s x.1 h)
end Go.Proofs.Ytnmakgfmimagmaa
