/-
  Parts of the proofs that the laws of this seat hold of every input, merged by a program: a machine over pure data that is sound for the model, what each function of the translation does in it, and plain lemmas. No conditions but those in each theorem.
-/
import Derived.Test.YtnmakgfmimagmaaA5
set_option linter.all false
namespace Go.Proofs.Ytnmakgfmimagmaa
open Go Go.Bv Go.Cv Go.Md Go.RowKit
def k3s : Con TB.den := Con.mk0 103 [.one (.d (.int .u64)), .one (.d (.int .u64)), .one (.d (.int .u64))] [] (.one (.one (.d (.int .u64)))) []
abbrev k1a3 := HL TB.den (hsT k3s.ins (hsOs k3s.pre))
abbrev k6m := HL TB.den (hsV k3s.res (hsOs k3s.post))
noncomputable def k70 : Cx TB := ⟨inf, [k7k, krd], [], 4, []⟩
noncomputable def kbh : Code := Try.f103.body.getD .skip
noncomputable def kij : List ResultVar := Try.f103.results.toList
noncomputable def k1jy (o : k6m) : Exit → TSt TB.den → Prop := thenT TB (fun s => ghs TB [] s fun s => WP TB k70 30 0 (cB (cB (cB (cB (cB kbh))))) .no s (retTQ TB k70 k3s kij o)) (retTQ TB k70 k3s kij o)
def k5r : Tm := ⟨[], [], [0, 1, 2, 7], [.one (.d (.int .u64)), .one (.d (.int .u64)), .one (.d (.int .u64)), .one (.d (.int .u64))], 0⟩
noncomputable def k14n (o : k6m) (nx1 : HL TB.den k5r.hs → Prop) : Exit → TSt TB.den → Prop := thenT TB (fun s => k5r.mat TB 0 s nx1) (blockT TB 0 (k1jy o))
def kkt : Tm := ⟨[], [], [0, 1, 2, 7], [.one (.d (.int .u64)), .one (.d (.int .u64)), .one (.d (.int .u64)), .one (.d (.int .u64))], 0⟩
noncomputable def k10v (o : k6m) (nx1 : HL TB.den k5r.hs → Prop) (i : HL TB.den kkt.hs) : Prop := ghs TB [] (kkt.fill TB i) fun s => WP TB k70 30 0 (cB (cA (cB (cA (cA (cA (cB (cB (cB (cB kbh)))))))))) .no s (blockT TB 1 (k14n o nx1))
structure kfb (o : k6m) (nx1 : HL TB.den k5r.hs → Prop) (i : HL TB.den kkt.hs) : Prop where
  h : k10v o nx1 i
noncomputable def k16q (o : k6m) (nx1 : HL TB.den k5r.hs → Prop) : An TB := .nd [] .no [] (.jn kkt (kfb o nx1) [] .no [] .no)
noncomputable def kif (o : k6m) (nx1 : HL TB.den k5r.hs → Prop) (i : HL TB.den k5r.hs) : Prop := WP TB k70 30 0 (cA (cA (cA (cB (cB (cB (cB kbh))))))) (k16q o nx1) (k5r.fill TB i) (k14n o nx1)
noncomputable def k1km (o : k6m) : An TB := .lp [] k5r (kif o) fun nx1 => (k16q o nx1)
noncomputable def k1kp (o : k6m) : An TB := .nd [] .no [] (.nd [] .no [] (.nd [] .no [] (.nd [] (k1km o) [] .no)))
noncomputable def k15m (o : k6m) : An TB := .nd [] .no [] (k1kp o)
noncomputable def ko4 (x : k1a3) (o : k6m) : Prop := WPh TB k70 30 0 kbh (k15m o) (k3s.st TB x) (retTQ TB k70 k3s kij o)
set_option maxRecDepth 100000 in
theorem k1ie (o : k6m) : OblH TB k70 30 0 kbh (k15m o) (retTQ TB k70 k3s kij o) :=
  OblH.of_eq (X := (True ∧ ((True ∧ ((True ∧ True) ∧ True)) ∧ (True ∧ (True ∧ (((∀ nx i, (kif o) nx i = (kif o) nx i) ∧ ∀ nx1 : HL TB.den k5r.hs → Prop, ((True ∧ (True ∧ True)) ∧ ((True ∧ (True ∧ True)) ∧ (∀ i, (kfb o nx1) i = (k10v o nx1) i) ∧ (True ∧ True)))) ∧ (True ∧ True))))))) (by kernel_rfl) ⟨trivial, ⟨⟨trivial, ⟨⟨trivial, trivial⟩, trivial⟩⟩, ⟨trivial, ⟨trivial, ⟨⟨fun _ _ => rfl, fun _ => ⟨⟨trivial, ⟨trivial, trivial⟩⟩, ⟨⟨trivial, ⟨trivial, trivial⟩⟩, fun _ => propext ⟨fun h => h.1, fun h => ⟨h⟩⟩, ⟨trivial, trivial⟩⟩⟩⟩, ⟨trivial, trivial⟩⟩⟩⟩⟩⟩
set_option maxRecDepth 100000 in
theorem k1j2 {x : k1a3} {o : k6m} (h : ko4 x o) : SoundH Try.prog k3s.f ((k3s.args idf x).map (er TB)) ((k3s.obs idf x).map (erO TB)) (er TB (k3s.val idf o)) ((k3s.ops idf o).map (erO TB)) :=
  Con.soundH (c := k3s) (C := k70) TBok ⟨inf_ok, (all_cons kau (all_cons k17i all_nil)), all_nil⟩ mix Try.func103 (show Try.f103.body = some kbh by kernel_rfl) (show Try.f103.ntmps = 30 by kernel_rfl) (show Try.f103.results.toList = kij by kernel_rfl) rfl h (k1ie o)
set_option maxRecDepth 100000 in
theorem k1kf {p0 : Int} {p1 : Int} {p2 : Int} {r0 : Int} (h :
((p0 = 18446744069414584321) ∧ ((!true) = true →
 0 = r0) ∧
((!true) = false →
(p0 ≠ 0) ∧ Md.Loop (p0, (Int.tmod p1 p0 : Int), p2, (1 : Int), ()) (kif (r0, ()))))) : ko4 (p0, p1, p2, ()) (r0, ()) := WPh.of_eq (by kernel_rfl) h
set_option maxRecDepth 100000 in
theorem k1bx {r0 : Int} {nx1 : HL TB.den k5r.hs → Prop} {s0 : Int} {s1 : Int} {s2 : Int} {s7 : Int} (h :
((s0 = 18446744069414584321 ∧ U64 s1 ∧ U64 s1) ∧ nx1 (s0, ((s1 * s1 % 18446744069414584321) : Int), (IntKind.u64.wrap (Int.tdiv s2 2) : Int), s7, ()))) : kfb (r0, ()) nx1 (s0, s1, s2, s7, ()) := ⟨mpr_of (by kernel_rfl) h⟩
def k172 (r0 : Int) (nx1 : HL TB.den k5r.hs → Prop) (k1 : Int → Int → Int → Prop) (s0 : Int) (s1 : Int) (s2 : Int) (s7 : Int) : Prop :=
(decide (0 < s2) = true →
(((Int.tmod s2 2) == 1) = true →
(s0 = 18446744069414584321 ∧ U64 s7 ∧ U64 s1) ∧ kfb (r0, ()) nx1 (s0, s1, s2, ((s7 * s1 % 18446744069414584321) : Int), ())) ∧
(((Int.tmod s2 2) == 1) = false →
 kfb (r0, ()) nx1 (s0, s1, s2, s7, ()))) ∧
(decide (0 < s2) = false →
 s7 = r0)
set_option maxRecDepth 100000 in
theorem k1i2 {r0 : Int} {s0 : Int} {s1 : Int} {s2 : Int} {s7 : Int} (inv : Int → Int → Int → Prop) (μ : Int → Int → Int → Nat) (h0 : inv s1 s2 s7) (hs : ∀ (s1 : Int) (s2 : Int) (s7 : Int), inv s1 s2 s7 → k172 r0 (fun s : Int × Int × Int × Int × Unit => ((s.1 = s0) ∧ inv s.2.1 s.2.2.1 s.2.2.2.1) ∧ μ s.2.1 s.2.2.1 s.2.2.2.1 < μ s1 s2 s7) (fun s1q s2q s7q => inv s1q s2q s7q ∧ μ s1q s2q s7q < μ s1 s2 s7) s0 s1 s2 s7) : Md.Loop (s0, s1, s2, s7, ()) (kif (r0, ())) :=
  ⟨⟨fun s : Int × Int × Int × Int × Unit => (s.1 = s0) ∧ inv s.2.1 s.2.2.1 s.2.2.2.1, fun s : Int × Int × Int × Int × Unit => μ s.2.1 s.2.2.1 s.2.2.2.1, ⟨rfl, h0⟩, fun (s0p, s1p, s2p, s7p, ()) ⟨eq0, hi⟩ => by
    have eq0 : s0p = s0 := eq0; subst s0p; exact mpr_of (by kernel_rfl) ((congrArg (fun k => k172 r0 (fun s : Int × Int × Int × Int × Unit => ((s.1 = s0) ∧ inv s.2.1 s.2.2.1 s.2.2.2.1) ∧ μ s.2.1 s.2.2.1 s.2.2.2.1 < μ s1p s2p s7p) k s0 s1p s2p s7p) (lpk3 (rfl : s0 = s0) inv (fun s1q s2q s7q => μ s1q s2q s7q < μ s1p s2p s7p))).mpr (hs s1p s2p s7p hi))⟩⟩
theorem bd103 : Callable Try.prog 103 := ⟨by rw [Try.func103]; kernel_rfl, by rw [Try.func103]; show some _ ≠ some _; decide⟩
theorem k1fa (p0 : Int) (p1 : Int) (p2 : Int) (h : p0 = 18446744069414584321 ∧ U64 p1 ∧ U64 p2) : ko4 (p0, p1, p2, ()) (((pw p1 p2) : Int), ()) := by
  obtain ⟨rfl, h1, h2⟩ := h
  refine k1kf ⟨rfl, fun h => by simp at h, fun _ => ⟨by omega, ?_⟩⟩
  rw [tmod_nn _ _ h1.1]
  refine k1i2 (fun a e r => (0 ≤ a ∧ a < 18446744069414584321) ∧ U64 e ∧ (0 ≤ r ∧ r < 18446744069414584321) ∧ (r * a ^ e.toNat) % 18446744069414584321 = pw p1 p2) (fun a e r => e.toNat) ⟨by omega, h2, by omega, by rw [Int.one_mul, kua]; rfl⟩ ?_
  rintro a e r ⟨ha, he, hr, hv⟩
  have hpow : ∀ k : Nat, a ^ (2 * k) = (a * a) ^ k := fun k => by rw [Int.pow_mul]; congr 1; rw [Int.pow_succ, Int.pow_succ, Int.pow_zero, Int.one_mul]
  have jj : ∀ nx r', (0 ≤ r' ∧ r' < 18446744069414584321) → 0 < e → (r' * (a * a) ^ (e / 2).toNat) % 18446744069414584321 = pw p1 p2 → (∀ a', (0 ≤ a' ∧ a' < 18446744069414584321) → r' * a' ^ (e / 2).toNat % 18446744069414584321 = pw p1 p2 → nx ((18446744069414584321 : Int), a', (e / 2 : Int), r', ())) → kfb ((pw p1 p2 : Int), ()) nx ((18446744069414584321 : Int), a, e, r', ()) := by
    intro nx r' hr' he' hv' hn
    refine k1bx ⟨⟨rfl, by omega, by omega⟩, ?_⟩
    rw [tdiv_nn _ _ he.1, wu (e / 2) (by omega) (by omega)]
    refine hn _ ⟨Int.emod_nonneg _ (by omega), Int.emod_lt_of_pos _ (by omega)⟩ ?_
    rw [← hv', Int.mul_emod, Int.mul_emod r' ((a * a) ^ _), kua]
  refine ⟨fun h => ?_, fun h => ?_⟩
  · have h := of_decide_eq_true h
    rw [tmod_nn _ _ he.1]
    have nxt : ∀ a' r', (0 ≤ a' ∧ a' < 18446744069414584321) → (0 ≤ r' ∧ r' < 18446744069414584321) → r' * a' ^ (e / 2).toNat % 18446744069414584321 = pw p1 p2 → ((0 ≤ a' ∧ a' < 18446744069414584321) ∧ U64 (e / 2) ∧ (0 ≤ r' ∧ r' < 18446744069414584321) ∧ r' * a' ^ (e / 2).toNat % 18446744069414584321 = pw p1 p2) ∧ (e / 2).toNat < e.toNat := fun a' r' h1 h2 h3 => ⟨⟨h1, ⟨by omega, by omega⟩, h2, h3⟩, by omega⟩
    refine ⟨fun h1 => ⟨⟨rfl, by omega, by omega⟩, ?_⟩, fun h1 => ?_⟩
    · have h1 : e % 2 = 1 := by simpa using h1
      refine jj _ _ ⟨Int.emod_nonneg _ (by omega), Int.emod_lt_of_pos _ (by omega)⟩ h ?_ fun a' ha' hv' => ⟨⟨rfl, (nxt a' _ ha' ⟨Int.emod_nonneg _ (by omega), Int.emod_lt_of_pos _ (by omega)⟩ hv').1⟩, (nxt a' _ ha' ⟨Int.emod_nonneg _ (by omega), Int.emod_lt_of_pos _ (by omega)⟩ hv').2⟩
      rw [← hv, show e.toNat = 2 * (e / 2).toNat + 1 by omega, Int.pow_succ, hpow, Int.mul_emod, Int.emod_emod_of_dvd _ (Int.dvd_refl _), ← Int.mul_emod]
      congr 1
      grind
    · have h1 : ¬ e % 2 = 1 := by simpa using h1
      refine jj _ _ hr h ?_ fun a' ha' hv' => ⟨⟨rfl, (nxt a' _ ha' hr hv').1⟩, (nxt a' _ ha' hr hv').2⟩
      rw [← hv, ← hpow, show e.toNat = 2 * (e / 2).toNat by omega]
  · have h : ¬ 0 < e := of_decide_eq_false h
    rw [show e.toNat = 0 by omega, Int.pow_zero, Int.mul_one, Int.emod_eq_of_lt hr.1 hr.2] at hv
    exact hv
noncomputable def k109 : Con TB.den := k3s.fnR (fun x => (fun (p0 : Int) (p1 : Int) (p2 : Int) => p0 = 18446744069414584321 ∧ U64 p1 ∧ U64 p2) x.1 x.2.1 x.2.2.1) fun x => ((fun (p0 : Int) (p1 : Int) (p2 : Int) => ((pw p1 p2) : Int)) x.1 x.2.1 x.2.2.1, ())
theorem k1kt : k109.Ok Try.prog TB := Con.ok_fn k3s bd103 fun x h => k1j2 (k1fa x.1 x.2.1 x.2.2.1 h)
end Go.Proofs.Ytnmakgfmimagmaa
namespace Go.Proofs.Ytnmakgfmimagmaa
open Go Go.Bv Go.Cv Go.Md Go.RowKit
def k1v : Con TB.den := Con.mk0 104 [.one (.d (.int .u64)), .one (.d (.int .i64)), .one (.d (.int .i64))] [] (.one (.one (.d (.int .u64)))) []
abbrev ks5 := HL TB.den (hsT k1v.ins (hsOs k1v.pre))
abbrev kfe := HL TB.den (hsV k1v.res (hsOs k1v.post))
noncomputable def k9p : Cx TB := ⟨inf, [k7k], [], 4, []⟩
noncomputable def kfz : Code := Try.f104.body.getD .skip
noncomputable def ki4 : List ResultVar := Try.f104.results.toList
noncomputable def kq8 (o : kfe) : An TB := .no
noncomputable def kfu (x : ks5) (o : kfe) : Prop := WPh TB k9p 35 0 kfz (kq8 o) (k1v.st TB x) (retTQ TB k9p k1v ki4 o)
set_option maxRecDepth 100000 in
theorem k13x (o : kfe) : OblH TB k9p 35 0 kfz (kq8 o) (retTQ TB k9p k1v ki4 o) :=
  OblH.of_eq (X := (True ∧ ((True ∧ ((True ∧ True) ∧ True)) ∧ (True ∧ True)))) (by kernel_rfl) ⟨trivial, ⟨⟨trivial, ⟨⟨trivial, trivial⟩, trivial⟩⟩, ⟨trivial, trivial⟩⟩⟩
set_option maxRecDepth 100000 in
theorem k11t {x : ks5} {o : kfe} (h : kfu x o) : SoundH Try.prog k1v.f ((k1v.args idf x).map (er TB)) ((k1v.obs idf x).map (erO TB)) (er TB (k1v.val idf o)) ((k1v.ops idf o).map (erO TB)) :=
  Con.soundH (c := k1v) (C := k9p) TBok ⟨inf_ok, (all_cons kau all_nil), all_nil⟩ mix Try.func104 (show Try.f104.body = some kfz by kernel_rfl) (show Try.f104.ntmps = 35 by kernel_rfl) (show Try.f104.results.toList = ki4 by kernel_rfl) rfl h (k13x o)
set_option maxRecDepth 100000 in
theorem k15c {p0 : Int} {p1 : Int} {p2 : Int} {r0 : Int} (h :
((p0 = 18446744069414584321) ∧ ((!true) = true →
 0 = r0) ∧
((!true) = false →
(decide (p1 < 0) = true →
 0 = r0) ∧
(decide (p1 < 0) = false →
(decide (7 < p1) = true →
 0 = r0) ∧
(decide (7 < p1) = false →
(decide (p2 < 0) = true →
 0 = r0) ∧
(decide (p2 < 0) = false →
(decide (2 < p2) = true →
 0 = r0) ∧
(decide (2 < p2) = false →
 let v1 : Int := IntKind.i64.wrap ((IntKind.i64.wrap (3 * p1)) + p2)
 let v2 : Int := IntKind.u64.wrap (IntKind.i64.wrap (v1 + 1))
 let v3 : Int := IntKind.u64.wrap (v2 * 11400714819323198485)
(p0 ≠ 0) ∧ Int.tmod v3 p0 = r0))))))) : kfu (p0, p1, p2, ()) (r0, ()) := WPh.of_eq (by kernel_rfl) h
theorem bd104 : Callable Try.prog 104 := ⟨by rw [Try.func104]; kernel_rfl, by rw [Try.func104]; show some _ ≠ some _; decide⟩
theorem kzh (p0 : Int) (p1 : Int) (p2 : Int) (h : p0 = 18446744069414584321 ∧ (0 ≤ p1 ∧ p1 < 8) ∧ 0 ≤ p2 ∧ p2 < 3) : kfu (p0, p1, p2, ()) (((rc p1 p2) : Int), ()) := by
  obtain ⟨rfl, h1, h2⟩ := h
  refine k15c ⟨rfl, fun h => by simp at h, fun _ => ⟨fun h => ?_, fun _ => ⟨fun h => ?_, fun _ => ⟨fun h => ?_, fun _ => ⟨fun h => ?_, fun _ => ?_⟩⟩⟩⟩⟩
  · simp at h; omega
  · simp at h; omega
  · simp at h; omega
  · simp at h; omega
  · simp only []
    rw [wi (3 * p1) (by omega) (by omega), wi (3 * p1 + p2) (by omega) (by omega), wi (3 * p1 + p2 + 1) (by omega) (by omega), wu (3 * p1 + p2 + 1) (by omega) (by omega), u64w]
    exact ⟨by omega, by rw [tmod_nn _ _ (by omega)]; rfl⟩
noncomputable def knb : Con TB.den := k1v.fnR (fun x => (fun (p0 : Int) (p1 : Int) (p2 : Int) => p0 = 18446744069414584321 ∧ (0 ≤ p1 ∧ p1 < 8) ∧ 0 ≤ p2 ∧ p2 < 3) x.1 x.2.1 x.2.2.1) fun x => ((fun (p0 : Int) (p1 : Int) (p2 : Int) => ((rc p1 p2) : Int)) x.1 x.2.1 x.2.2.1, ())
theorem k154 : knb.Ok Try.prog TB := Con.ok_fn k1v bd104 fun x h => k11t (kzh x.1 x.2.1 x.2.2.1 h)
end Go.Proofs.Ytnmakgfmimagmaa
namespace Go.Proofs.Ytnmakgfmimagmaa
open Go Go.Bv Go.Cv Go.Md Go.RowKit
def k3v : Con TB.den := Con.mk0 115 [.one (.d (.int .u64)), .one (.d (.sl (.int .u64)))] [] (.one (.one (.d (.int .u64)))) []
abbrev k1al := HL TB.den (hsT k3v.ins (hsOs k3v.pre))
abbrev kbq := HL TB.den (hsV k3v.res (hsOs k3v.post))
noncomputable def k83 : Cx TB := ⟨inf, [kg7], [], 4, []⟩
noncomputable def kee : Code := Try.f115.body.getD .skip
noncomputable def kid : List ResultVar := Try.f115.results.toList
noncomputable def k1k5 (o : kbq) : Exit → TSt TB.den → Prop := thenT TB (fun s => ghs TB [] s fun s => WP TB k83 21 0 (cB (cB (cB kee))) .no s (retTQ TB k83 k3v kid o)) (retTQ TB k83 k3v kid o)
def kc5 : Tm := ⟨[], [], [0, 1, 5, 6], [.one (.d (.int .u64)), .one (.d (.sl (.int .u64))), .one (.d (.int .u64)), .one (.d (.int .i64))], 0⟩
noncomputable def k1ko (o : kbq) (nx1 : HL TB.den kc5.hs → Prop) : Exit → TSt TB.den → Prop := thenT TB (fun s => kc5.mat TB 0 s nx1) (blockT TB 0 (k1k5 o))
noncomputable def kiq (o : kbq) (nx1 : HL TB.den kc5.hs → Prop) (i : HL TB.den kc5.hs) : Prop := WP TB k83 21 0 (cA (cA (cB (cA (cB (cB kee)))))) .no (kc5.fill TB i) (k1ko o nx1)
noncomputable def k1jr (o : kbq) : An TB := .nd [] .no [] (.lp [] kc5 (kiq o) fun nx1 => .no)
noncomputable def k157 (o : kbq) : An TB := .nd [] .no [] (.nd [] .no [] (.nd [] (k1jr o) [] .no))
noncomputable def kn9 (x : k1al) (o : kbq) : Prop := WPh TB k83 21 0 kee (k157 o) (k3v.st TB x) (retTQ TB k83 k3v kid o)
set_option maxRecDepth 100000 in
theorem k1ij (o : kbq) : OblH TB k83 21 0 kee (k157 o) (retTQ TB k83 k3v kid o) :=
  OblH.of_eq (X := (True ∧ (True ∧ ((True ∧ ((∀ nx i, (kiq o) nx i = (kiq o) nx i) ∧ ∀ nx1 : HL TB.den kc5.hs → Prop, ((True ∧ (True ∧ True)) ∧ (True ∧ True)))) ∧ (True ∧ True))))) (by kernel_rfl) ⟨trivial, ⟨trivial, ⟨⟨trivial, ⟨fun _ _ => rfl, fun _ => ⟨⟨trivial, ⟨trivial, trivial⟩⟩, ⟨trivial, trivial⟩⟩⟩⟩, ⟨trivial, trivial⟩⟩⟩⟩
set_option maxRecDepth 100000 in
theorem k1ja {x : k1al} {o : kbq} (h : kn9 x o) : SoundH Try.prog k3v.f ((k3v.args idf x).map (er TB)) ((k3v.obs idf x).map (erO TB)) (er TB (k3v.val idf o)) ((k3v.ops idf o).map (erO TB)) :=
  Con.soundH (c := k3v) (C := k83) TBok ⟨inf_ok, (all_cons kmo all_nil), all_nil⟩ mix Try.func115 (show Try.f115.body = some kee by kernel_rfl) (show Try.f115.ntmps = 21 by kernel_rfl) (show Try.f115.results.toList = kid by kernel_rfl) rfl h (k1ij o)
set_option maxRecDepth 100000 in
theorem k1k7 {p0 : Int} {p1 : List Int} {r0 : Int} (h :
(Md.Loop (p0, p1, (0 : Int), (0 : Int), ()) (kiq (r0, ())))) : kn9 (p0, p1, ()) (r0, ()) := WPh.of_eq (by kernel_rfl) h
def k14m (r0 : Int) (k1 : Int → Int → Prop) (s0 : Int) (s1 : List Int) (s5 : Int) (s6 : Int) : Prop :=
(decide (s6 < (s1.length : Int)) = true →
(0 ≤ s6) ∧ s6 < (s1.length : Int) ∧ (s0 = 18446744069414584321 ∧ U64 s5 ∧ U64 (ix s1 s6)) ∧ let r1 : Int := ((s5 + (ix s1 s6)) % 18446744069414584321)
 k1 r1 (IntKind.i64.wrap (s6 + 1) : Int)) ∧
(decide (s6 < (s1.length : Int)) = false →
 s5 = r0)
set_option maxRecDepth 100000 in
theorem k1ic {r0 : Int} {s0 : Int} {s1 : List Int} {s5 : Int} {s6 : Int} (inv : Int → Int → Prop) (μ : Int → Int → Nat) (h0 : inv s5 s6) (hs : ∀ (s5 : Int) (s6 : Int), inv s5 s6 → k14m r0 (fun s5q s6q => inv s5q s6q ∧ μ s5q s6q < μ s5 s6) s0 s1 s5 s6) : Md.Loop (s0, s1, s5, s6, ()) (kiq (r0, ())) :=
  ⟨⟨fun s : Int × (List Int) × Int × Int × Unit => (s.1 = s0 ∧ s.2.1 = s1) ∧ inv s.2.2.1 s.2.2.2.1, fun s : Int × (List Int) × Int × Int × Unit => μ s.2.2.1 s.2.2.2.1, ⟨⟨rfl, rfl⟩, h0⟩, fun (s0p, s1p, s5p, s6p, ()) ⟨⟨eq0, eq1⟩, hi⟩ => by
    have eq0 : s0p = s0 := eq0; subst s0p; have eq1 : s1p = s1 := eq1; subst s1p; exact mpr_of (by kernel_rfl) ((congrArg (fun k => k14m r0 k s0 s1 s5p s6p) (lpk2 (⟨rfl, rfl⟩ : s0 = s0 ∧ s1 = s1) inv (fun s5q s6q => μ s5q s6q < μ s5p s6p))).mpr (hs s5p s6p hi))⟩⟩
theorem bd115 : Callable Try.prog 115 := ⟨by rw [Try.func115]; kernel_rfl, by rw [Try.func115]; show some _ ≠ some _; decide⟩
theorem k1el (p0 : Int) (p1 : List Int) (h : p0 = 18446744069414584321 ∧ Us p1 ∧ p1.length ≤ 9223372036854775807) : kn9 (p0, p1, ()) (((p1.foldl (fun s x => (s + x) % 18446744069414584321) 0) : Int), ()) := by
  obtain ⟨rfl, h1, h2⟩ := h
  refine k1k7 (k1ic (fun s i => FoldI (fun s x => (s + x) % 18446744069414584321) 0 p1 i s ∧ U64 s) (fun s i => (p1.length - i).toNat) ⟨FoldI.start, by omega⟩ ?_)
  rintro s i ⟨hi, hs⟩
  refine ⟨fun hh => ?_, fun hh => hi.done (of_decide_eq_false hh)⟩
  have hh := of_decide_eq_true hh
  have hx := h1 _ (ix_mem p1 i hi.1 hh)
  have nx := hi.next hh (by omega) rfl
  exact ⟨hi.1, hh, ⟨rfl, hs, hx⟩, ⟨nx.1, by omega⟩, nx.2⟩
noncomputable def k10f : Con TB.den := k3v.fnR (fun x => (fun (p0 : Int) (p1 : List Int) => p0 = 18446744069414584321 ∧ Us p1 ∧ p1.length ≤ 9223372036854775807) x.1 x.2.1) fun x => ((fun (p0 : Int) (p1 : List Int) => ((p1.foldl (fun s x => (s + x) % 18446744069414584321) 0) : Int)) x.1 x.2.1, ())
theorem k1jq : k10f.Ok Try.prog TB := Con.ok_fn k3v bd115 fun x h => k1ja (k1el x.1 x.2.1 h)
end Go.Proofs.Ytnmakgfmimagmaa
namespace Go.Proofs.Ytnmakgfmimagmaa
open Go Go.Bv Go.Cv Go.Md Go.RowKit
def k3u : Con TB.den := Con.mk0 106 [.one (.d (.int .u64)), .agg [.d (.int .u64), .d (.int .u64), .d (.int .u64)]] [] (.one (.agg [.d (.int .u64), .d (.int .u64), .d (.int .u64)])) []
abbrev k1ay := HL TB.den (hsT k3u.ins (hsOs k3u.pre))
abbrev kbr := HL TB.den (hsV k3u.res (hsOs k3u.post))
noncomputable def k82 : Cx TB := ⟨inf, [k10f, kg7], [], 4, []⟩
noncomputable def kdl : Code := Try.f106.body.getD .skip
noncomputable def kio : List ResultVar := Try.f106.results.toList
noncomputable def k1k0 (o : kbr) : Exit → TSt TB.den → Prop := thenT TB (fun s => ghs TB [] s fun s => WP TB k82 30 0 (cB (cB (cB (cB kdl)))) .no s (retTQ TB k82 k3u kio o)) (retTQ TB k82 k3u kio o)
def kbu : Tm := ⟨[0, 1, 3], [.cells [.d (.int .u64), .d (.int .u64), .d (.int .u64)], .cells [.d (.int .u64), .d (.int .u64), .d (.int .u64)], .cells [.d (.int .u64), .d (.int .u64), .d (.int .u64)]], [0, 3, 4, 5, 6, 7], [.one (.d (.int .u64)), .one (.ptr 0 0), .one (.ptr 1 0), .one (.d (.int .u64)), .one (.ptr 2 0), .one (.d (.int .i64))], 4⟩
noncomputable def k1kr (o : kbr) (nx1 : HL TB.den kbu.hs → Prop) : Exit → TSt TB.den → Prop := thenT TB (fun s => kbu.mat TB 0 s nx1) (blockT TB 0 (k1k0 o))
noncomputable def kib (o : kbr) (nx1 : HL TB.den kbu.hs → Prop) (i : HL TB.den kbu.hs) : Prop := WP TB k82 30 0 (cA (cA (cB (cA (cB (cB (cB kdl))))))) .no (kbu.fill TB i) (k1kr o nx1)
noncomputable def k1kl (o : kbr) : An TB := .nd [] .no [] (.lp [] kbu (kib o) fun nx1 => .no)
noncomputable def k166 (o : kbr) : An TB := .nd [] .no [] (.nd [] .no [] (.nd [] .no [] (.nd [] (k1kl o) [] .no)))
noncomputable def kob (x : k1ay) (o : kbr) : Prop := WPh TB k82 30 0 kdl (k166 o) (k3u.st TB x) (retTQ TB k82 k3u kio o)
set_option maxRecDepth 100000 in
theorem k1ih (o : kbr) : OblH TB k82 30 0 kdl (k166 o) (retTQ TB k82 k3u kio o) :=
  OblH.of_eq (X := (True ∧ (True ∧ (True ∧ ((True ∧ ((∀ nx i, (kib o) nx i = (kib o) nx i) ∧ ∀ nx1 : HL TB.den kbu.hs → Prop, ((True ∧ (True ∧ True)) ∧ (True ∧ True)))) ∧ (True ∧ True)))))) (by kernel_rfl) ⟨trivial, ⟨trivial, ⟨trivial, ⟨⟨trivial, ⟨fun _ _ => rfl, fun _ => ⟨⟨trivial, ⟨trivial, trivial⟩⟩, ⟨trivial, trivial⟩⟩⟩⟩, ⟨trivial, trivial⟩⟩⟩⟩⟩
set_option maxRecDepth 100000 in
theorem k1ik {x : k1ay} {o : kbr} (h : kob x o) : SoundH Try.prog k3u.f ((k3u.args idf x).map (er TB)) ((k3u.obs idf x).map (erO TB)) (er TB (k3u.val idf o)) ((k3u.ops idf o).map (erO TB)) :=
  Con.soundH (c := k3u) (C := k82) TBok ⟨inf_ok, (all_cons k1jq (all_cons kmo all_nil)), all_nil⟩ mix Try.func106 (show Try.f106.body = some kdl by kernel_rfl) (show Try.f106.ntmps = 30 by kernel_rfl) (show Try.f106.results.toList = kio by kernel_rfl) rfl h (k1ih o)
set_option maxRecDepth 100000 in
theorem k1jv {p0 : Int} {p1 : TA3} {r0 : TA3} (h :
((p0 = 18446744069414584321 ∧ Us [p1.a0, p1.a1, p1.a2] ∧ [p1.a0, p1.a1, p1.a2].length ≤ 9223372036854775807) ∧ let r1 : Int := ([p1.a0, p1.a1, p1.a2].foldl (fun s x => (s + x) % 18446744069414584321) 0)
 Md.Loop (p0, r1, (0 : Int), p1.a0, p1.a1, p1.a2, (0 : Int), (0 : Int), (0 : Int), (0 : Int), (0 : Int), (0 : Int), ()) (kib (r0.a0, r0.a1, r0.a2, ())))) : kob (p0, p1.a0, p1.a1, p1.a2, ()) (r0.a0, r0.a1, r0.a2, ()) := WPh.of_eq (by kernel_rfl) h
def k16j (r0 : TA3) (k1 : Int → Int → Int → Int → Prop) (s0 : Int) (s5 : Int) (h0_0 : Int) (h0_1 : Int) (h0_2 : Int) (h1_0 : Int) (h1_1 : Int) (h1_2 : Int) (s7 : Int) (h3_0 : Int) (h3_1 : Int) (h3_2 : Int) : Prop :=
(decide (s7 < 3) = true →
(0 ≤ s7 ∧ s7 < (3 : Int)) ∧ (0 ≤ s7 ∧ s7 < (3 : Int)) ∧ (s0 = 18446744069414584321 ∧ U64 (ix [h0_0, h0_1, h0_2] s7) ∧ U64 s5) ∧ let r2 : Int := (((ix [h0_0, h0_1, h0_2] s7) + s5) % 18446744069414584321)
(0 ≤ s7 ∧ s7 < (3 : Int)) ∧ (0 ≤ s7 ∧ s7 < (3 : Int)) ∧ k1 (IntKind.i64.wrap (s7 + 1) : Int) ((bif decide (s7 = (0 : Int)) then r2 else h3_0) : Int) ((bif decide (s7 = (1 : Int)) then r2 else h3_1) : Int) ((bif decide (s7 = (2 : Int)) then r2 else h3_2) : Int)) ∧
(decide (s7 < 3) = false →
 h3_0 = r0.a0 ∧ h3_1 = r0.a1 ∧ h3_2 = r0.a2)
set_option maxRecDepth 100000 in
theorem k1j6 {r0 : TA3} {s0 : Int} {s5 : Int} {h0_0 : Int} {h0_1 : Int} {h0_2 : Int} {h1_0 : Int} {h1_1 : Int} {h1_2 : Int} {s7 : Int} {h3_0 : Int} {h3_1 : Int} {h3_2 : Int} (inv : Int → Int → Int → Int → Prop) (μ : Int → Int → Int → Int → Nat) (h0 : inv s7 h3_0 h3_1 h3_2) (hs : ∀ (s7 : Int) (h3_0 : Int) (h3_1 : Int) (h3_2 : Int), inv s7 h3_0 h3_1 h3_2 → k16j r0 (fun s7q h3_0q h3_1q h3_2q => inv s7q h3_0q h3_1q h3_2q ∧ μ s7q h3_0q h3_1q h3_2q < μ s7 h3_0 h3_1 h3_2) s0 s5 h0_0 h0_1 h0_2 h1_0 h1_1 h1_2 s7 h3_0 h3_1 h3_2) : Md.Loop (s0, s5, s7, h0_0, h0_1, h0_2, h1_0, h1_1, h1_2, h3_0, h3_1, h3_2, ()) (kib (r0.a0, r0.a1, r0.a2, ())) :=
  ⟨⟨fun s : Int × Int × Int × Int × Int × Int × Int × Int × Int × Int × Int × Int × Unit => (s.1 = s0 ∧ s.2.1 = s5 ∧ s.2.2.2.1 = h0_0 ∧ s.2.2.2.2.1 = h0_1 ∧ s.2.2.2.2.2.1 = h0_2 ∧ s.2.2.2.2.2.2.1 = h1_0 ∧ s.2.2.2.2.2.2.2.1 = h1_1 ∧ s.2.2.2.2.2.2.2.2.1 = h1_2) ∧ inv s.2.2.1 s.2.2.2.2.2.2.2.2.2.1 s.2.2.2.2.2.2.2.2.2.2.1 s.2.2.2.2.2.2.2.2.2.2.2.1, fun s : Int × Int × Int × Int × Int × Int × Int × Int × Int × Int × Int × Int × Unit => μ s.2.2.1 s.2.2.2.2.2.2.2.2.2.1 s.2.2.2.2.2.2.2.2.2.2.1 s.2.2.2.2.2.2.2.2.2.2.2.1, ⟨⟨rfl, rfl, rfl, rfl, rfl, rfl, rfl, rfl⟩, h0⟩, fun (s0p, s5p, s7p, h0_0p, h0_1p, h0_2p, h1_0p, h1_1p, h1_2p, h3_0p, h3_1p, h3_2p, ()) ⟨⟨eq0, eq1, eq2, eq3, eq4, eq5, eq6, eq7⟩, hi⟩ => by
    have eq0 : s0p = s0 := eq0; subst s0p; have eq1 : s5p = s5 := eq1; subst s5p; have eq2 : h0_0p = h0_0 := eq2; subst h0_0p; have eq3 : h0_1p = h0_1 := eq3; subst h0_1p; have eq4 : h0_2p = h0_2 := eq4; subst h0_2p; have eq5 : h1_0p = h1_0 := eq5; subst h1_0p; have eq6 : h1_1p = h1_1 := eq6; subst h1_1p; have eq7 : h1_2p = h1_2 := eq7; subst h1_2p; exact mpr_of (by kernel_rfl) ((congrArg (fun k => k16j r0 k s0 s5 h0_0 h0_1 h0_2 h1_0 h1_1 h1_2 s7p h3_0p h3_1p h3_2p) (lpk4 (⟨rfl, rfl, rfl, rfl, rfl, rfl, rfl, rfl⟩ : s0 = s0 ∧ s5 = s5 ∧ h0_0 = h0_0 ∧ h0_1 = h0_1 ∧ h0_2 = h0_2 ∧ h1_0 = h1_0 ∧ h1_1 = h1_1 ∧ h1_2 = h1_2) inv (fun s7q h3_0q h3_1q h3_2q => μ s7q h3_0q h3_1q h3_2q < μ s7p h3_0p h3_1p h3_2p))).mpr (hs s7p h3_0p h3_1p h3_2p hi))⟩⟩
theorem bd106 : Callable Try.prog 106 := ⟨by rw [Try.func106]; kernel_rfl, by rw [Try.func106]; show some _ ≠ some _; decide⟩
theorem k1hr (p0 : Int) (p1 : TA3) (h : p0 = 18446744069414584321 ∧ S3 p1) : kob (p0, p1.a0, p1.a1, p1.a2, ()) (((mixS p1).a0 : Int), ((mixS p1).a1 : Int), ((mixS p1).a2 : Int), ()) := by
  obtain ⟨rfl, h0, h1, h2⟩ := h
  have e : [p1.a0, p1.a1, p1.a2].foldl (fun s x => (s + x) % 18446744069414584321) 0 = ((p1.a0 + p1.a1) % 18446744069414584321 + p1.a2) % 18446744069414584321 := by
    show (((0 + p1.a0) % 18446744069414584321 + p1.a1) % 18446744069414584321 + p1.a2) % 18446744069414584321 = _
    omega
  refine k1jv (r0 := mixS p1) ⟨⟨rfl, ?_, by simp⟩, ?_⟩
  · intro x hx
    simp only [List.mem_cons, List.not_mem_nil, or_false] at hx
    rcases hx with rfl | rfl | rfl
    · exact h0
    · exact h1
    · exact h2
  rw [e]
  have hu : U64 (((p1.a0 + p1.a1) % 18446744069414584321 + p1.a2) % 18446744069414584321) := ⟨by omega, by omega⟩
  generalize hg : ((p1.a0 + p1.a1) % 18446744069414584321 + p1.a2) % 18446744069414584321 = t at *
  refine k1j6 (r0 := mixS p1) (fun i x y z => (i = 0) ∨ (i = 1 ∧ x = (p1.a0 + t) % 18446744069414584321) ∨ (i = 2 ∧ x = (p1.a0 + t) % 18446744069414584321 ∧ y = (p1.a1 + t) % 18446744069414584321) ∨ (i = 3 ∧ x = (p1.a0 + t) % 18446744069414584321 ∧ y = (p1.a1 + t) % 18446744069414584321 ∧ z = (p1.a2 + t) % 18446744069414584321)) (fun i _ _ _ => (3 - i).toNat) (.inl rfl) ?_
  intro i x y z hi
  refine ⟨fun hh => ?_, fun hh => ?_⟩
  · have hh := of_decide_eq_true hh
    rcases hi with rfl | ⟨rfl, rfl⟩ | ⟨rfl, rfl, rfl⟩ | ⟨rfl, _⟩
    · exact ⟨by omega, by omega, ⟨rfl, h0, hu⟩, by omega, by omega, .inr (.inl ⟨rfl, rfl⟩), by decide⟩
    · exact ⟨by omega, by omega, ⟨rfl, h1, hu⟩, by omega, by omega, .inr (.inr (.inl ⟨rfl, rfl, rfl⟩)), by decide⟩
    · exact ⟨by omega, by omega, ⟨rfl, h2, hu⟩, by omega, by omega, .inr (.inr (.inr ⟨rfl, rfl, rfl, rfl⟩)), by decide⟩
    · omega
  · have hh := of_decide_eq_false hh
    rcases hi with rfl | ⟨rfl, rfl⟩ | ⟨rfl, rfl, rfl⟩ | ⟨rfl, rfl, rfl, rfl⟩
    · omega
    · omega
    · omega
    · unfold mixS
      rw [hg]
      exact ⟨rfl, rfl, rfl⟩
noncomputable def k10g : Con TB.den := k3u.fnR (fun x => (fun (p0 : Int) (p1 : TA3) => p0 = 18446744069414584321 ∧ S3 p1) x.1 (TA3.mk x.2.1 x.2.2.1 x.2.2.2.1)) fun x => ((fun (p0 : Int) (p1 : TA3) => ((mixS p1).a0 : Int)) x.1 (TA3.mk x.2.1 x.2.2.1 x.2.2.2.1), (fun (p0 : Int) (p1 : TA3) => ((mixS p1).a1 : Int)) x.1 (TA3.mk x.2.1 x.2.2.1 x.2.2.2.1), (fun (p0 : Int) (p1 : TA3) => ((mixS p1).a2 : Int)) x.1 (TA3.mk x.2.1 x.2.2.1 x.2.2.2.1), ())
theorem k1jz : k10g.Ok Try.prog TB := Con.ok_fn k3u bd106 fun x h => k1ik (k1hr x.1 (TA3.mk x.2.1 x.2.2.1 x.2.2.2.1) h)
end Go.Proofs.Ytnmakgfmimagmaa
namespace Go.Proofs.Ytnmakgfmimagmaa
open Go Go.Bv Go.Cv Go.Md Go.RowKit
def k1l : Con TB.den := Con.mk0 97 [.one (.d (.int .u64)), .agg [.d (.int .u64), .d (.int .u64), .d (.int .u64)]] [] (.one (.agg [.d (.int .u64), .d (.int .u64), .d (.int .u64)])) []
abbrev kvy := HL TB.den (hsT k1l.ins (hsOs k1l.pre))
abbrev k2t := HL TB.den (hsV k1l.res (hsOs k1l.post))
noncomputable def k3o : Cx TB := ⟨inf, [k7k, knb, kg7, koj, k109, k10g], [], 4, []⟩
noncomputable def k4z : Code := Try.f97.body.getD .skip
noncomputable def kas : List ResultVar := Try.f97.results.toList
noncomputable def k18w (o : k2t) : Exit → TSt TB.den → Prop := thenT TB (fun s => ghs TB [] s fun s => WP TB k3o 38 0 (cB (cB (cB k4z))) .no s (retTQ TB k3o k1l kas o)) (retTQ TB k3o k1l kas o)
def k22 : Tm := ⟨[0, 1], [.cells [.d (.int .u64), .d (.int .u64), .d (.int .u64)], .cells [.d (.int .u64), .d (.int .u64), .d (.int .u64)]], [0, 3, 4, 5], [.one (.d (.int .u64)), .one (.ptr 0 0), .one (.ptr 1 0), .one (.d (.int .i64))], 2⟩
noncomputable def kjn (o : k2t) (nx2 : HL TB.den k22.hs → Prop) : Exit → TSt TB.den → Prop := thenT TB (fun s => k22.mat TB 0 s nx2) (blockT TB 0 (k18w o))
noncomputable def krs (o : k2t) (nx2 : HL TB.den k22.hs → Prop) : Exit → TSt TB.den → Prop := thenT TB (fun s => ghs TB [] s fun s => WP TB k3o 38 0 (cB (cB (cA (cA (cB (cA (cB (cB k4z)))))))) .no s (kjn o nx2)) (kjn o nx2)
noncomputable def k19u (o : k2t) (nx2 : HL TB.den k22.hs → Prop) : Exit → TSt TB.den → Prop := thenT TB (fun s => ghs TB [] s fun s => WP TB k3o 38 0 (cB (cA (cA (cB (cA (cA (cB (cA (cB (cB k4z)))))))))) .no s (blockT TB 1 (krs o nx2))) (blockT TB 1 (krs o nx2))
def k6y : Tm := ⟨[0, 1], [.cells [.d (.int .u64), .d (.int .u64), .d (.int .u64)], .cells [.d (.int .u64), .d (.int .u64), .d (.int .u64)]], [0, 3, 4, 5, 6], [.one (.d (.int .u64)), .one (.ptr 0 0), .one (.ptr 1 0), .one (.d (.int .i64)), .one (.d (.int .i64))], 2⟩
noncomputable def k180 (o : k2t) (nx2 : HL TB.den k22.hs → Prop) (nx1 : HL TB.den k6y.hs → Prop) : Exit → TSt TB.den → Prop := thenT TB (fun s => k6y.mat TB 0 s nx1) (blockT TB 2 (k19u o nx2))
noncomputable def kb6 (o : k2t) (nx2 : HL TB.den k22.hs → Prop) (nx1 : HL TB.den k6y.hs → Prop) (i : HL TB.den k6y.hs) : Prop := WP TB k3o 38 0 (cA (cA (cB (cA (cA (cA (cB (cA (cA (cB (cA (cB (cB k4z))))))))))))) .no (k6y.fill TB i) (k180 o nx2 nx1)
noncomputable def k18k (o : k2t) (nx2 : HL TB.den k22.hs → Prop) : An TB := .nd [] .no [] (.lp [] k6y (kb6 o nx2) fun nx1 => .no)
noncomputable def kpb (o : k2t) (nx2 : HL TB.den k22.hs → Prop) : An TB := .nd [] .no [] (.nd [] (.nd [] (k18k o nx2) [] .no) [] .no)
noncomputable def kbd (o : k2t) (nx2 : HL TB.den k22.hs → Prop) (i : HL TB.den k22.hs) : Prop := WP TB k3o 38 0 (cA (cA (cB (cA (cB (cB k4z)))))) (kpb o nx2) (k22.fill TB i) (kjn o nx2)
noncomputable def k16s (o : k2t) : An TB := .lp [] k22 (kbd o) fun nx2 => (kpb o nx2)
noncomputable def k161 (o : k2t) : An TB := .nd [] .no [] (.nd [] (.nd [] .no [] (k16s o)) [] .no)
noncomputable def krg (o : k2t) : An TB := .nd [] .no [] (k161 o)
noncomputable def kgy (x : kvy) (o : k2t) : Prop := WPh TB k3o 38 0 k4z (krg o) (k1l.st TB x) (retTQ TB k3o k1l kas o)
set_option maxRecDepth 100000 in
theorem k15v (o : k2t) : OblH TB k3o 38 0 k4z (krg o) (retTQ TB k3o k1l kas o) :=
  OblH.of_eq (X := (True ∧ ((True ∧ ((True ∧ True) ∧ True)) ∧ ((True ∧ ((∀ nx i, (kbd o) nx i = (kbd o) nx i) ∧ ∀ nx2 : HL TB.den k22.hs → Prop, ((True ∧ (True ∧ True)) ∧ (((True ∧ ((∀ nx i, (kb6 o nx2) nx i = (kb6 o nx2) nx i) ∧ ∀ nx1 : HL TB.den k6y.hs → Prop, ((True ∧ (True ∧ True)) ∧ (True ∧ True)))) ∧ True) ∧ True)))) ∧ (True ∧ True))))) (by kernel_rfl) ⟨trivial, ⟨⟨trivial, ⟨⟨trivial, trivial⟩, trivial⟩⟩, ⟨⟨trivial, ⟨fun _ _ => rfl, fun _ => ⟨⟨trivial, ⟨trivial, trivial⟩⟩, ⟨⟨⟨trivial, ⟨fun _ _ => rfl, fun _ => ⟨⟨trivial, ⟨trivial, trivial⟩⟩, ⟨trivial, trivial⟩⟩⟩⟩, trivial⟩, trivial⟩⟩⟩⟩, ⟨trivial, trivial⟩⟩⟩⟩
set_option maxRecDepth 100000 in
theorem k15h {x : kvy} {o : k2t} (h : kgy x o) : SoundH Try.prog k1l.f ((k1l.args idf x).map (er TB)) ((k1l.obs idf x).map (erO TB)) (er TB (k1l.val idf o)) ((k1l.ops idf o).map (erO TB)) :=
  Con.soundH (c := k1l) (C := k3o) TBok ⟨inf_ok, (all_cons kau (all_cons k154 (all_cons kmo (all_cons k152 (all_cons k1kt (all_cons k1jz all_nil)))))), all_nil⟩ mix Try.func97 (show Try.f97.body = some k4z by kernel_rfl) (show Try.f97.ntmps = 38 by kernel_rfl) (show Try.f97.results.toList = kas by kernel_rfl) rfl h (k15v o)
set_option maxRecDepth 100000 in
theorem k19k {p0 : Int} {p1 : TA3} {r0 : TA3} (h :
((p0 = 18446744069414584321) ∧ ((!true) = true →
 0 = r0.a0 ∧ 0 = r0.a1 ∧ 0 = r0.a2) ∧
((!true) = false →
 Md.Loop (p0, (0 : Int), p1.a0, p1.a1, p1.a2, (0 : Int), (0 : Int), (0 : Int), ()) (kbd (r0.a0, r0.a1, r0.a2, ()))))) : kgy (p0, p1.a0, p1.a1, p1.a2, ()) (r0.a0, r0.a1, r0.a2, ()) := WPh.of_eq (by kernel_rfl) h
def krv (r0 : TA3) (nx2 : HL TB.den k22.hs → Prop) (k2 : Int → Int → Int → Int → Prop) (s0 : Int) (h1_0 : Int) (h1_1 : Int) (h1_2 : Int) (s5 : Int) (h0_0 : Int) (h0_1 : Int) (h0_2 : Int) : Prop :=
(decide (s5 < 8) = true →
 Md.Loop (s0, s5, (0 : Int), h0_0, h0_1, h0_2, h1_0, h1_1, h1_2, ()) (kb6 (r0.a0, r0.a1, r0.a2, ()) nx2)) ∧
(decide (s5 < 8) = false →
 h0_0 = r0.a0 ∧ h0_1 = r0.a1 ∧ h0_2 = r0.a2)
set_option maxRecDepth 100000 in
theorem k16z {r0 : TA3} {s0 : Int} {h1_0 : Int} {h1_1 : Int} {h1_2 : Int} {s5 : Int} {h0_0 : Int} {h0_1 : Int} {h0_2 : Int} (inv : Int → Int → Int → Int → Prop) (μ : Int → Int → Int → Int → Nat) (h0 : inv s5 h0_0 h0_1 h0_2) (hs : ∀ (s5 : Int) (h0_0 : Int) (h0_1 : Int) (h0_2 : Int), inv s5 h0_0 h0_1 h0_2 → krv r0 (fun s : Int × Int × Int × Int × Int × Int × Int × Int × Unit => ((s.1 = s0 ∧ s.2.2.2.2.2.1 = h1_0 ∧ s.2.2.2.2.2.2.1 = h1_1 ∧ s.2.2.2.2.2.2.2.1 = h1_2) ∧ inv s.2.1 s.2.2.1 s.2.2.2.1 s.2.2.2.2.1) ∧ μ s.2.1 s.2.2.1 s.2.2.2.1 s.2.2.2.2.1 < μ s5 h0_0 h0_1 h0_2) (fun s5q h0_0q h0_1q h0_2q => inv s5q h0_0q h0_1q h0_2q ∧ μ s5q h0_0q h0_1q h0_2q < μ s5 h0_0 h0_1 h0_2) s0 h1_0 h1_1 h1_2 s5 h0_0 h0_1 h0_2) : Md.Loop (s0, s5, h0_0, h0_1, h0_2, h1_0, h1_1, h1_2, ()) (kbd (r0.a0, r0.a1, r0.a2, ())) :=
  ⟨⟨fun s : Int × Int × Int × Int × Int × Int × Int × Int × Unit => (s.1 = s0 ∧ s.2.2.2.2.2.1 = h1_0 ∧ s.2.2.2.2.2.2.1 = h1_1 ∧ s.2.2.2.2.2.2.2.1 = h1_2) ∧ inv s.2.1 s.2.2.1 s.2.2.2.1 s.2.2.2.2.1, fun s : Int × Int × Int × Int × Int × Int × Int × Int × Unit => μ s.2.1 s.2.2.1 s.2.2.2.1 s.2.2.2.2.1, ⟨⟨rfl, rfl, rfl, rfl⟩, h0⟩, fun (s0p, s5p, h0_0p, h0_1p, h0_2p, h1_0p, h1_1p, h1_2p, ()) ⟨⟨eq0, eq1, eq2, eq3⟩, hi⟩ => by
    have eq0 : s0p = s0 := eq0; subst s0p; have eq1 : h1_0p = h1_0 := eq1; subst h1_0p; have eq2 : h1_1p = h1_1 := eq2; subst h1_1p; have eq3 : h1_2p = h1_2 := eq3; subst h1_2p; exact mpr_of (by kernel_rfl) ((congrArg (fun k => krv r0 (fun s : Int × Int × Int × Int × Int × Int × Int × Int × Unit => ((s.1 = s0 ∧ s.2.2.2.2.2.1 = h1_0 ∧ s.2.2.2.2.2.2.1 = h1_1 ∧ s.2.2.2.2.2.2.2.1 = h1_2) ∧ inv s.2.1 s.2.2.1 s.2.2.2.1 s.2.2.2.2.1) ∧ μ s.2.1 s.2.2.1 s.2.2.2.1 s.2.2.2.2.1 < μ s5p h0_0p h0_1p h0_2p) k s0 h1_0 h1_1 h1_2 s5p h0_0p h0_1p h0_2p) (lpk4 (⟨rfl, rfl, rfl, rfl⟩ : s0 = s0 ∧ h1_0 = h1_0 ∧ h1_1 = h1_1 ∧ h1_2 = h1_2) inv (fun s5q h0_0q h0_1q h0_2q => μ s5q h0_0q h0_1q h0_2q < μ s5p h0_0p h0_1p h0_2p))).mpr (hs s5p h0_0p h0_1p h0_2p hi))⟩⟩
def krz (r0 : TA3) (nx2 : HL TB.den k22.hs → Prop) (k1 : Int → Int → Int → Int → Prop) (s0 : Int) (s5 : Int) (h1_0 : Int) (h1_1 : Int) (h1_2 : Int) (s6 : Int) (h0_0 : Int) (h0_1 : Int) (h0_2 : Int) : Prop :=
(decide (s6 < 3) = true →
(0 ≤ s6 ∧ s6 < (3 : Int)) ∧ (0 ≤ s6 ∧ s6 < (3 : Int)) ∧ (s0 = 18446744069414584321 ∧ (0 ≤ s5 ∧ s5 < 8) ∧ 0 ≤ s6 ∧ s6 < 3) ∧ (s0 = 18446744069414584321 ∧ U64 (ix [h0_0, h0_1, h0_2] s6) ∧ U64 (rc s5 s6)) ∧ let r1 : Int := (((ix [h0_0, h0_1, h0_2] s6) + (rc s5 s6)) % 18446744069414584321)
(s0 = 18446744069414584321) ∧ (s0 = 18446744069414584321 ∧ U64 r1 ∧ U64 (7 : Int)) ∧ (0 ≤ s6 ∧ s6 < (3 : Int)) ∧ (0 ≤ s6 ∧ s6 < (3 : Int)) ∧ k1 (IntKind.i64.wrap (s6 + 1) : Int) ((bif decide (s6 = (0 : Int)) then (pw r1 (7 : Int)) else h0_0) : Int) ((bif decide (s6 = (1 : Int)) then (pw r1 (7 : Int)) else h0_1) : Int) ((bif decide (s6 = (2 : Int)) then (pw r1 (7 : Int)) else h0_2) : Int)) ∧
(decide (s6 < 3) = false →
(s0 = 18446744069414584321 ∧ S3 (TA3.mk h0_0 h0_1 h0_2)) ∧ nx2 (s0, (IntKind.i64.wrap (s5 + 1) : Int), ((mixS (TA3.mk h0_0 h0_1 h0_2)).a0 : Int), ((mixS (TA3.mk h0_0 h0_1 h0_2)).a1 : Int), ((mixS (TA3.mk h0_0 h0_1 h0_2)).a2 : Int), h1_0, h1_1, h1_2, ()))
set_option maxRecDepth 100000 in
theorem k16f {r0 : TA3} {nx2 : HL TB.den k22.hs → Prop} {s0 : Int} {s5 : Int} {h1_0 : Int} {h1_1 : Int} {h1_2 : Int} {s6 : Int} {h0_0 : Int} {h0_1 : Int} {h0_2 : Int} (inv : Int → Int → Int → Int → Prop) (μ : Int → Int → Int → Int → Nat) (h0 : inv s6 h0_0 h0_1 h0_2) (hs : ∀ (s6 : Int) (h0_0 : Int) (h0_1 : Int) (h0_2 : Int), inv s6 h0_0 h0_1 h0_2 → krz r0 nx2 (fun s6q h0_0q h0_1q h0_2q => inv s6q h0_0q h0_1q h0_2q ∧ μ s6q h0_0q h0_1q h0_2q < μ s6 h0_0 h0_1 h0_2) s0 s5 h1_0 h1_1 h1_2 s6 h0_0 h0_1 h0_2) : Md.Loop (s0, s5, s6, h0_0, h0_1, h0_2, h1_0, h1_1, h1_2, ()) (kb6 (r0.a0, r0.a1, r0.a2, ()) nx2) :=
  ⟨⟨fun s : Int × Int × Int × Int × Int × Int × Int × Int × Int × Unit => (s.1 = s0 ∧ s.2.1 = s5 ∧ s.2.2.2.2.2.2.1 = h1_0 ∧ s.2.2.2.2.2.2.2.1 = h1_1 ∧ s.2.2.2.2.2.2.2.2.1 = h1_2) ∧ inv s.2.2.1 s.2.2.2.1 s.2.2.2.2.1 s.2.2.2.2.2.1, fun s : Int × Int × Int × Int × Int × Int × Int × Int × Int × Unit => μ s.2.2.1 s.2.2.2.1 s.2.2.2.2.1 s.2.2.2.2.2.1, ⟨⟨rfl, rfl, rfl, rfl, rfl⟩, h0⟩, fun (s0p, s5p, s6p, h0_0p, h0_1p, h0_2p, h1_0p, h1_1p, h1_2p, ()) ⟨⟨eq0, eq1, eq2, eq3, eq4⟩, hi⟩ => by
    have eq0 : s0p = s0 := eq0; subst s0p; have eq1 : s5p = s5 := eq1; subst s5p; have eq2 : h1_0p = h1_0 := eq2; subst h1_0p; have eq3 : h1_1p = h1_1 := eq3; subst h1_1p; have eq4 : h1_2p = h1_2 := eq4; subst h1_2p; exact mpr_of (by kernel_rfl) ((congrArg (fun k => krz r0 nx2 k s0 s5 h1_0 h1_1 h1_2 s6p h0_0p h0_1p h0_2p) (lpk4 (⟨rfl, rfl, rfl, rfl, rfl⟩ : s0 = s0 ∧ s5 = s5 ∧ h1_0 = h1_0 ∧ h1_1 = h1_1 ∧ h1_2 = h1_2) inv (fun s6q h0_0q h0_1q h0_2q => μ s6q h0_0q h0_1q h0_2q < μ s6p h0_0p h0_1p h0_2p))).mpr (hs s6p h0_0p h0_1p h0_2p hi))⟩⟩
theorem bd97 : Callable Try.prog 97 := ⟨by rw [Try.func97]; kernel_rfl, by rw [Try.func97]; show some _ ≠ some _; decide⟩
theorem k11r (p0 : Int) (p1 : TA3) (h : p0 = 18446744069414584321 ∧ S3 p1) : kgy (p0, p1.a0, p1.a1, p1.a2, ()) (((permS p1).a0 : Int), ((permS p1).a1 : Int), ((permS p1).a2 : Int), ()) := by
  obtain ⟨hP, hs⟩ := h
  subst hP
  refine k19k ⟨rfl, fun h => by simp at h, fun _ => ?_⟩
  refine k16z (r0 := permS p1) (fun n a b c => 0 ≤ n ∧ n ≤ 8 ∧ (⟨a, b, c⟩ : TA3) = rnds n.toNat p1 ∧ S3 ⟨a, b, c⟩) (fun n _ _ _ => (8 - n).toNat) ⟨by omega, by omega, rfl, hs⟩ ?_
  rintro n a b c ⟨g0, g1, g2, g3⟩
  refine ⟨fun h => ?_, fun h => ?_⟩
  · have h := of_decide_eq_true h
    refine k16f (r0 := permS p1) (fun i x y z => (i = 0 ∧ x = a ∧ y = b ∧ z = c) ∨ (i = 1 ∧ x = pw ((a + rc n 0) % 18446744069414584321) 7 ∧ y = b ∧ z = c) ∨ (i = 2 ∧ x = pw ((a + rc n 0) % 18446744069414584321) 7 ∧ y = pw ((b + rc n 1) % 18446744069414584321) 7 ∧ z = c) ∨ (i = 3 ∧ x = pw ((a + rc n 0) % 18446744069414584321) 7 ∧ y = pw ((b + rc n 1) % 18446744069414584321) 7 ∧ z = pw ((c + rc n 2) % 18446744069414584321) 7)) (fun i _ _ _ => (3 - i).toNat) (.inl ⟨rfl, rfl, rfl, rfl⟩) ?_
    intro i x y z hi
    have hrc : ∀ k, U64 (rc n k) := fun k => by unfold rc; omega
    have hpw : ∀ k e, 0 ≤ pw k e ∧ pw k e < 18446744069414584321 := fun k e => ⟨Int.emod_nonneg _ (by omega), Int.emod_lt_of_pos _ (by omega)⟩
    obtain ⟨h3a, h3b, h3c⟩ := g3
    have u7 : U64 7 := by decide
    have hm : ∀ q : Int, U64 (q % 18446744069414584321) := fun q => ⟨Int.emod_nonneg _ (by omega), Int.lt_trans (Int.emod_lt_of_pos _ (by omega)) (by omega)⟩
    refine ⟨fun hh => ?_, fun hh => ?_⟩
    · have hh := of_decide_eq_true hh
      rcases hi with ⟨rfl, rfl, rfl, rfl⟩ | ⟨rfl, rfl, rfl, rfl⟩ | ⟨rfl, rfl, rfl, rfl⟩ | ⟨rfl, _⟩
      · exact ⟨by omega, by omega, ⟨rfl, by omega, by omega⟩, ⟨rfl, h3a, hrc _⟩, rfl, ⟨rfl, hm _, u7⟩, by omega, by omega, .inr (.inl ⟨rfl, rfl, rfl, rfl⟩), by decide⟩
      · exact ⟨by omega, by omega, ⟨rfl, by omega, by omega⟩, ⟨rfl, h3b, hrc _⟩, rfl, ⟨rfl, hm _, u7⟩, by omega, by omega, .inr (.inr (.inl ⟨rfl, rfl, rfl, rfl⟩)), by decide⟩
      · exact ⟨by omega, by omega, ⟨rfl, by omega, by omega⟩, ⟨rfl, h3c, hrc _⟩, rfl, ⟨rfl, hm _, u7⟩, by omega, by omega, .inr (.inr (.inr ⟨rfl, rfl, rfl, rfl⟩)), by decide⟩
      · omega
    · have hh := of_decide_eq_false hh
      rcases hi with ⟨rfl, _⟩ | ⟨rfl, _⟩ | ⟨rfl, _⟩ | ⟨rfl, rfl, rfl, rfl⟩
      · omega
      · omega
      · omega
      · have e : rnds (n + 1).toNat p1 = rnd ⟨a, b, c⟩ n := by
          rw [show (n + 1).toNat = n.toNat + 1 by omega]
          show rnd (rnds n.toNat p1) (n.toNat : Int) = _
          rw [← g2, show (n.toNat : Int) = n by omega]
        have hS : S3 (rnds (n + 1).toNat p1) := by
          rw [e]
          unfold rnd mixS S3
          dsimp only
          omega
        have hinc : IntKind.i64.wrap (n + 1) = n + 1 := wi _ (by omega) (by omega)
        rw [hinc]
        refine ⟨⟨rfl, by unfold S3; have := hpw ((a + rc n 0) % 18446744069414584321) 7; have := hpw ((b + rc n 1) % 18446744069414584321) 7; have := hpw ((c + rc n 2) % 18446744069414584321) 7; dsimp only; omega⟩, ⟨⟨rfl, rfl, rfl, rfl⟩, (?_ : 0 ≤ n + 1 ∧ n + 1 ≤ 8 ∧ _ ∧ _)⟩, (?_ : (8 - (n + 1)).toNat < (8 - n).toNat)⟩
        · refine ⟨by omega, by omega, e.symm, ?_⟩
          rw [e] at hS
          exact hS
        · omega
  · have h := of_decide_eq_false h
    rw [show n = 8 by omega] at g2
    have g2 : (⟨a, b, c⟩ : TA3) = permS p1 := g2
    rw [← g2]
    exact ⟨rfl, rfl, rfl⟩
noncomputable def kpe : Con TB.den := k1l.fnR (fun x => (fun (p0 : Int) (p1 : TA3) => p0 = 18446744069414584321 ∧ S3 p1) x.1 (TA3.mk x.2.1 x.2.2.1 x.2.2.2.1)) fun x => ((fun (p0 : Int) (p1 : TA3) => ((permS p1).a0 : Int)) x.1 (TA3.mk x.2.1 x.2.2.1 x.2.2.2.1), (fun (p0 : Int) (p1 : TA3) => ((permS p1).a1 : Int)) x.1 (TA3.mk x.2.1 x.2.2.1 x.2.2.2.1), (fun (p0 : Int) (p1 : TA3) => ((permS p1).a2 : Int)) x.1 (TA3.mk x.2.1 x.2.2.1 x.2.2.2.1), ())
theorem k18v : kpe.Ok Try.prog TB := Con.ok_fn k1l bd97 fun x h => k15h (k11r x.1 (TA3.mk x.2.1 x.2.2.1 x.2.2.2.1) h)
end Go.Proofs.Ytnmakgfmimagmaa
namespace Go.Proofs.Ytnmakgfmimagmaa
open Go Go.Bv Go.Cv Go.Md Go.RowKit
def k24 : Con TB.den := Con.mk0 89 [.one (.d (.int .u64)), .one (.d (.int .u64)), .one (.d (.sl (.int .u64)))] [] (.one (.agg [.d (.int .u64), .d (.int .u64), .d (.int .u64)])) []
abbrev kyq := HL TB.den (hsT k24.ins (hsOs k24.pre))
abbrev k27 := HL TB.den (hsV k24.res (hsOs k24.post))
noncomputable def k3m : Cx TB := ⟨inf, [krd, kg7, kpe], [], 4, []⟩
noncomputable def k4x : Code := Try.f89.body.getD .skip
noncomputable def kcm : List ResultVar := Try.f89.results.toList
noncomputable def k1c4 (o : k27) : Exit → TSt TB.den → Prop := thenT TB (fun s => ghs TB [] s fun s => WP TB k3m 60 0 (cB (cB (cB k4x))) .no s (retTQ TB k3m k24 kcm o)) (retTQ TB k3m k24 kcm o)
def k16 : Tm := ⟨[0, 1], [.cells [.d (.int .u64), .d (.int .u64), .d (.int .u64)], .cells [.d (.int .u64), .d (.int .u64), .d (.int .u64)]], [0, 2, 6, 7, 8], [.one (.d (.int .u64)), .one (.d (.sl (.int .u64))), .one (.ptr 0 0), .one (.ptr 1 0), .one (.d (.int .i64))], 2⟩
noncomputable def kgm (o : k27) (nx1 : HL TB.den k16.hs → Prop) : Exit → TSt TB.den → Prop := thenT TB (fun s => k16.mat TB 0 s nx1) (blockT TB 0 (k1c4 o))
noncomputable def kut (o : k27) (nx1 : HL TB.den k16.hs → Prop) : Exit → TSt TB.den → Prop := thenT TB (fun s => ghs TB [] s fun s => WP TB k3m 60 0 (cB (cB (cA (cA (cB (cA (cB (cB k4x)))))))) .no s (kgm o nx1)) (kgm o nx1)
def kbo : Tm := ⟨[0, 1], [.cells [.d (.int .u64), .d (.int .u64), .d (.int .u64)], .cells [.d (.int .u64), .d (.int .u64), .d (.int .u64)]], [0, 2, 6, 7, 8], [.one (.d (.int .u64)), .one (.d (.sl (.int .u64))), .one (.ptr 0 0), .one (.ptr 1 0), .one (.d (.int .i64))], 2⟩
noncomputable def kri (o : k27) (nx1 : HL TB.den k16.hs → Prop) (i : HL TB.den kbo.hs) : Prop := ghs TB [] (kbo.fill TB i) fun s => WP TB k3m 60 0 (cB (cB (cA (cA (cB (cA (cA (cB (cA (cB (cB k4x))))))))))) .no s (blockT TB 1 (kut o nx1))
structure k7s (o : k27) (nx1 : HL TB.den k16.hs → Prop) (i : HL TB.den kbo.hs) : Prop where
  h : kri o nx1 i
def kez : Tm := ⟨[0, 1], [.cells [.d (.int .u64), .d (.int .u64), .d (.int .u64)], .cells [.d (.int .u64), .d (.int .u64), .d (.int .u64)]], [0, 2, 6, 7, 8], [.one (.d (.int .u64)), .one (.d (.sl (.int .u64))), .one (.ptr 0 0), .one (.ptr 1 0), .one (.d (.int .i64))], 2⟩
noncomputable def ksz (o : k27) (nx1 : HL TB.den k16.hs → Prop) (i : HL TB.den kez.hs) : Prop := ghs TB [] (kez.fill TB i) fun s => WP TB k3m 60 0 (cB (cA (cA (cB (cA (cA (cB (cA (cB (cB k4x)))))))))) (.jn kbo (k7s o nx1) [] .no [] .no) s (blockT TB 1 (kut o nx1))
structure kcc (o : k27) (nx1 : HL TB.den k16.hs → Prop) (i : HL TB.den kez.hs) : Prop where
  h : ksz o nx1 i
noncomputable def kvh (o : k27) (nx1 : HL TB.den k16.hs → Prop) : An TB := .jn kez (kcc o nx1) [] .no [] (.jn kbo (k7s o nx1) [] .no [] .no)
def kfc : Tm := ⟨[0, 1], [.cells [.d (.int .u64), .d (.int .u64), .d (.int .u64)], .cells [.d (.int .u64), .d (.int .u64), .d (.int .u64)]], [0, 2, 6, 7, 8], [.one (.d (.int .u64)), .one (.d (.sl (.int .u64))), .one (.ptr 0 0), .one (.ptr 1 0), .one (.d (.int .i64))], 2⟩
noncomputable def kro (o : k27) (nx1 : HL TB.den k16.hs → Prop) (i : HL TB.den kfc.hs) : Prop := ghs TB [] (kfc.fill TB i) fun s => WP TB k3m 60 0 (cB (cA (cA (cB (cA (cB (cB k4x))))))) (.nd [] (kvh o nx1) [] .no) s (kgm o nx1)
structure k9g (o : k27) (nx1 : HL TB.den k16.hs → Prop) (i : HL TB.den kfc.hs) : Prop where
  h : kro o nx1 i
noncomputable def kuk (o : k27) (nx1 : HL TB.den k16.hs → Prop) : An TB := .jn kfc (k9g o nx1) [] .no [] (.nd [] (kvh o nx1) [] .no)
noncomputable def kcp (o : k27) (nx1 : HL TB.den k16.hs → Prop) (i : HL TB.den k16.hs) : Prop := WP TB k3m 60 0 (cA (cA (cB (cA (cB (cB k4x)))))) (kuk o nx1) (k16.fill TB i) (kgm o nx1)
noncomputable def k1d4 (o : k27) : An TB := .lp [] k16 (kcp o) fun nx1 => (kuk o nx1)
noncomputable def k19i (o : k27) : An TB := .nd [] .no [] (.nd [] (.nd [] .no [] (k1d4 o)) [] .no)
noncomputable def kvn (o : k27) : An TB := .nd [] .no [] (k19i o)
noncomputable def kih (x : kyq) (o : k27) : Prop := WPh TB k3m 60 0 k4x (kvn o) (k24.st TB x) (retTQ TB k3m k24 kcm o)
set_option maxRecDepth 100000 in
theorem k186 (o : k27) : OblH TB k3m 60 0 k4x (kvn o) (retTQ TB k3m k24 kcm o) :=
  OblH.of_eq (X := (True ∧ (True ∧ ((True ∧ ((∀ nx i, (kcp o) nx i = (kcp o) nx i) ∧ ∀ nx1 : HL TB.den k16.hs → Prop, ((True ∧ (True ∧ True)) ∧ (∀ i, (k9g o nx1) i = (kro o nx1) i) ∧ (((True ∧ (True ∧ True)) ∧ (∀ i, (kcc o nx1) i = (ksz o nx1) i) ∧ ((True ∧ (True ∧ True)) ∧ (∀ i, (k7s o nx1) i = (kri o nx1) i) ∧ True)) ∧ True)))) ∧ (True ∧ True))))) (by kernel_rfl) ⟨trivial, ⟨trivial, ⟨⟨trivial, ⟨fun _ _ => rfl, fun _ => ⟨⟨trivial, ⟨trivial, trivial⟩⟩, fun _ => propext ⟨fun h => h.1, fun h => ⟨h⟩⟩, ⟨⟨⟨trivial, ⟨trivial, trivial⟩⟩, fun _ => propext ⟨fun h => h.1, fun h => ⟨h⟩⟩, ⟨⟨trivial, ⟨trivial, trivial⟩⟩, fun _ => propext ⟨fun h => h.1, fun h => ⟨h⟩⟩, trivial⟩⟩, trivial⟩⟩⟩⟩, ⟨trivial, trivial⟩⟩⟩⟩
set_option maxRecDepth 100000 in
theorem k192 {x : kyq} {o : k27} (h : kih x o) : SoundH Try.prog k24.f ((k24.args idf x).map (er TB)) ((k24.obs idf x).map (erO TB)) (er TB (k24.val idf o)) ((k24.ops idf o).map (erO TB)) :=
  Con.soundH (c := k24) (C := k3m) TBok ⟨inf_ok, (all_cons k17i (all_cons kmo (all_cons k18v all_nil))), all_nil⟩ mix Try.func89 (show Try.f89.body = some k4x by kernel_rfl) (show Try.f89.ntmps = 60 by kernel_rfl) (show Try.f89.results.toList = kcm by kernel_rfl) rfl h (k186 o)
set_option maxRecDepth 100000 in
theorem k1b9 {p0 : Int} {p1 : Int} {p2 : List Int} {r0 : TA3} (h :
((p0 = 18446744069414584321 ∧ U64 p1 ∧ U64 (65536 : Int)) ∧ let r1 : Int := (p1 * (65536 : Int) % 18446744069414584321)
(p0 = 18446744069414584321 ∧ U64 r1 ∧ U64 (IntKind.u64.wrap (p2.length : Int))) ∧ let r2 : Int := ((r1 + (IntKind.u64.wrap (p2.length : Int))) % 18446744069414584321)
 Md.Loop (p0, p2, (0 : Int), (0 : Int), (0 : Int), (0 : Int), (0 : Int), (0 : Int), r2, ()) (kcp (r0.a0, r0.a1, r0.a2, ())))) : kih (p0, p1, p2, ()) (r0.a0, r0.a1, r0.a2, ()) := WPh.of_eq (by kernel_rfl) h
set_option maxRecDepth 100000 in
theorem k12o {r0 : TA3} {nx1 : HL TB.den k16.hs → Prop} {s0 : Int} {s2 : List Int} {s8 : Int} {h0_0 : Int} {h0_1 : Int} {h0_2 : Int} {h1_0 : Int} {h1_1 : Int} {h1_2 : Int} (h :
((decide (s8 < (s2.length : Int)) = true →
(0 ≤ s8) ∧ s8 < (s2.length : Int) ∧ (s0 = 18446744069414584321 ∧ U64 h1_0 ∧ U64 (ix s2 s8)) ∧ let r3 : Int := ((h1_0 + (ix s2 s8)) % 18446744069414584321)
 kcc (r0.a0, r0.a1, r0.a2, ()) nx1 (s0, s2, s8, h0_0, h0_1, h0_2, r3, h1_1, h1_2, ())) ∧
(decide (s8 < (s2.length : Int)) = false →
 kcc (r0.a0, r0.a1, r0.a2, ()) nx1 (s0, s2, s8, h0_0, h0_1, h0_2, h1_0, h1_1, h1_2, ())))) : k9g (r0.a0, r0.a1, r0.a2, ()) nx1 (s0, s2, s8, h0_0, h0_1, h0_2, h1_0, h1_1, h1_2, ()) := ⟨mpr_of (by kernel_rfl) h⟩
set_option maxRecDepth 100000 in
theorem knt {r0 : TA3} {nx1 : HL TB.den k16.hs → Prop} {s0 : Int} {s2 : List Int} {s8 : Int} {h0_0 : Int} {h0_1 : Int} {h0_2 : Int} {h1_0 : Int} {h1_1 : Int} {h1_2 : Int} (h :
(let v4 : Bool := decide ((IntKind.i64.wrap (s8 + 1)) < (s2.length : Int))
(v4 = true →
(0 ≤ IntKind.i64.wrap (s8 + 1)) ∧ IntKind.i64.wrap (s8 + 1) < (s2.length : Int) ∧ (s0 = 18446744069414584321 ∧ U64 h1_1 ∧ U64 (ix s2 (IntKind.i64.wrap (s8 + 1)))) ∧ let r5 : Int := ((h1_1 + (ix s2 (IntKind.i64.wrap (s8 + 1)))) % 18446744069414584321)
 k7s (r0.a0, r0.a1, r0.a2, ()) nx1 (s0, s2, s8, h0_0, h0_1, h0_2, h1_0, r5, h1_2, ())) ∧
(v4 = false →
 k7s (r0.a0, r0.a1, r0.a2, ()) nx1 (s0, s2, s8, h0_0, h0_1, h0_2, h1_0, h1_1, h1_2, ())))) : kcc (r0.a0, r0.a1, r0.a2, ()) nx1 (s0, s2, s8, h0_0, h0_1, h0_2, h1_0, h1_1, h1_2, ()) := ⟨mpr_of (by kernel_rfl) h⟩
set_option maxRecDepth 100000 in
theorem k12w {r0 : TA3} {nx1 : HL TB.den k16.hs → Prop} {s0 : Int} {s2 : List Int} {s8 : Int} {h0_0 : Int} {h0_1 : Int} {h0_2 : Int} {h1_0 : Int} {h1_1 : Int} {h1_2 : Int} (h :
((s0 = 18446744069414584321 ∧ S3 (TA3.mk h1_0 h1_1 h1_2)) ∧ nx1 (s0, s2, (IntKind.i64.wrap (s8 + 2) : Int), h0_0, h0_1, h0_2, ((permS (TA3.mk h1_0 h1_1 h1_2)).a0 : Int), ((permS (TA3.mk h1_0 h1_1 h1_2)).a1 : Int), ((permS (TA3.mk h1_0 h1_1 h1_2)).a2 : Int), ()))) : k7s (r0.a0, r0.a1, r0.a2, ()) nx1 (s0, s2, s8, h0_0, h0_1, h0_2, h1_0, h1_1, h1_2, ()) := ⟨mpr_of (by kernel_rfl) h⟩
def kvj (r0 : TA3) (nx1 : HL TB.den k16.hs → Prop) (k1 : Int → Int → Int → Int → Prop) (s0 : Int) (s2 : List Int) (h0_0 : Int) (h0_1 : Int) (h0_2 : Int) (s8 : Int) (h1_0 : Int) (h1_1 : Int) (h1_2 : Int) : Prop :=
((s8 == 0) = true →
 k9g (r0.a0, r0.a1, r0.a2, ()) nx1 (s0, s2, s8, h0_0, h0_1, h0_2, h1_0, h1_1, h1_2, ())) ∧
((s8 == 0) = false →
(decide (s8 < (s2.length : Int)) = true →
 k9g (r0.a0, r0.a1, r0.a2, ()) nx1 (s0, s2, s8, h0_0, h0_1, h0_2, h1_0, h1_1, h1_2, ())) ∧
(decide (s8 < (s2.length : Int)) = false →
 h1_0 = r0.a0 ∧ h1_1 = r0.a1 ∧ h1_2 = r0.a2))
set_option maxRecDepth 100000 in
theorem k18l {r0 : TA3} {s0 : Int} {s2 : List Int} {h0_0 : Int} {h0_1 : Int} {h0_2 : Int} {s8 : Int} {h1_0 : Int} {h1_1 : Int} {h1_2 : Int} (inv : Int → Int → Int → Int → Prop) (μ : Int → Int → Int → Int → Nat) (h0 : inv s8 h1_0 h1_1 h1_2) (hs : ∀ (s8 : Int) (h1_0 : Int) (h1_1 : Int) (h1_2 : Int), inv s8 h1_0 h1_1 h1_2 → kvj r0 (fun s : Int × (List Int) × Int × Int × Int × Int × Int × Int × Int × Unit => ((s.1 = s0 ∧ s.2.1 = s2 ∧ s.2.2.2.1 = h0_0 ∧ s.2.2.2.2.1 = h0_1 ∧ s.2.2.2.2.2.1 = h0_2) ∧ inv s.2.2.1 s.2.2.2.2.2.2.1 s.2.2.2.2.2.2.2.1 s.2.2.2.2.2.2.2.2.1) ∧ μ s.2.2.1 s.2.2.2.2.2.2.1 s.2.2.2.2.2.2.2.1 s.2.2.2.2.2.2.2.2.1 < μ s8 h1_0 h1_1 h1_2) (fun s8q h1_0q h1_1q h1_2q => inv s8q h1_0q h1_1q h1_2q ∧ μ s8q h1_0q h1_1q h1_2q < μ s8 h1_0 h1_1 h1_2) s0 s2 h0_0 h0_1 h0_2 s8 h1_0 h1_1 h1_2) : Md.Loop (s0, s2, s8, h0_0, h0_1, h0_2, h1_0, h1_1, h1_2, ()) (kcp (r0.a0, r0.a1, r0.a2, ())) :=
  ⟨⟨fun s : Int × (List Int) × Int × Int × Int × Int × Int × Int × Int × Unit => (s.1 = s0 ∧ s.2.1 = s2 ∧ s.2.2.2.1 = h0_0 ∧ s.2.2.2.2.1 = h0_1 ∧ s.2.2.2.2.2.1 = h0_2) ∧ inv s.2.2.1 s.2.2.2.2.2.2.1 s.2.2.2.2.2.2.2.1 s.2.2.2.2.2.2.2.2.1, fun s : Int × (List Int) × Int × Int × Int × Int × Int × Int × Int × Unit => μ s.2.2.1 s.2.2.2.2.2.2.1 s.2.2.2.2.2.2.2.1 s.2.2.2.2.2.2.2.2.1, ⟨⟨rfl, rfl, rfl, rfl, rfl⟩, h0⟩, fun (s0p, s2p, s8p, h0_0p, h0_1p, h0_2p, h1_0p, h1_1p, h1_2p, ()) ⟨⟨eq0, eq1, eq2, eq3, eq4⟩, hi⟩ => by
    have eq0 : s0p = s0 := eq0; subst s0p; have eq1 : s2p = s2 := eq1; subst s2p; have eq2 : h0_0p = h0_0 := eq2; subst h0_0p; have eq3 : h0_1p = h0_1 := eq3; subst h0_1p; have eq4 : h0_2p = h0_2 := eq4; subst h0_2p; exact mpr_of (by kernel_rfl) ((congrArg (fun k => kvj r0 (fun s : Int × (List Int) × Int × Int × Int × Int × Int × Int × Int × Unit => ((s.1 = s0 ∧ s.2.1 = s2 ∧ s.2.2.2.1 = h0_0 ∧ s.2.2.2.2.1 = h0_1 ∧ s.2.2.2.2.2.1 = h0_2) ∧ inv s.2.2.1 s.2.2.2.2.2.2.1 s.2.2.2.2.2.2.2.1 s.2.2.2.2.2.2.2.2.1) ∧ μ s.2.2.1 s.2.2.2.2.2.2.1 s.2.2.2.2.2.2.2.1 s.2.2.2.2.2.2.2.2.1 < μ s8p h1_0p h1_1p h1_2p) k s0 s2 h0_0 h0_1 h0_2 s8p h1_0p h1_1p h1_2p) (lpk4 (⟨rfl, rfl, rfl, rfl, rfl⟩ : s0 = s0 ∧ s2 = s2 ∧ h0_0 = h0_0 ∧ h0_1 = h0_1 ∧ h0_2 = h0_2) inv (fun s8q h1_0q h1_1q h1_2q => μ s8q h1_0q h1_1q h1_2q < μ s8p h1_0p h1_1p h1_2p))).mpr (hs s8p h1_0p h1_1p h1_2p hi))⟩⟩
theorem bd89 : Callable Try.prog 89 := ⟨by rw [Try.func89]; kernel_rfl, by rw [Try.func89]; show some _ ≠ some _; decide⟩
theorem k15r (p0 : Int) (p1 : Int) (p2 : List Int) (h : p0 = 18446744069414584321 ∧ U64 p1 ∧ Us p2 ∧ p2.length ≤ 1099511627776) : kih (p0, p1, p2, ()) (((absS p1 p2).a0 : Int), ((absS p1 p2).a1 : Int), ((absS p1 p2).a2 : Int), ()) := by
  obtain ⟨hP, h1, h2, h3⟩ := h
  subst hP
  have hp := kct
  have hi : S3 (absI p1 p2) := by unfold absI S3; dsimp only; omega
  have e : IntKind.u64.wrap (p2.length : Int) = p2.length := wu _ (by omega) (by omega)
  have em : (p1 * 65536 % 18446744069414584321 + (p2.length : Int)) % 18446744069414584321 = (absI p1 p2).a2 := rfl
  refine k1b9 ?_
  rw [e]
  refine ⟨⟨rfl, h1, by omega⟩, ⟨rfl, by omega, by omega⟩, ?_⟩
  rw [em]
  have j3 : ∀ nx (i x y z : Int), 0 ≤ i → i ≤ p2.length → S3 ⟨x, y, z⟩ → nx ((18446744069414584321 : Int), p2, (i + 2 : Int), (0 : Int), (0 : Int), (0 : Int), (permS ⟨x, y, z⟩).a0, (permS ⟨x, y, z⟩).a1, (permS ⟨x, y, z⟩).a2, ()) → k7s ((absS p1 p2).a0, (absS p1 p2).a1, (absS p1 p2).a2, ()) nx ((18446744069414584321 : Int), p2, i, (0 : Int), (0 : Int), (0 : Int), x, y, z, ()) := by
    intro nx i x y z g0 g1 hS hn
    refine k12w (r0 := absS p1 p2) ?_
    rw [wi (i + 2) (by omega) (by omega)]
    exact ⟨⟨rfl, hS⟩, hn⟩
  refine k18l (r0 := absS p1 p2) (fun i a b c => (i = 0 ∧ a = 0 ∧ b = 0 ∧ c = (absI p1 p2).a2) ∨ (0 < i ∧ i ≤ p2.length + 2 ∧ absL (p2.drop i.toNat) ⟨a, b, c⟩ = absS p1 p2 ∧ S3 ⟨a, b, c⟩)) (fun i _ _ _ => (p2.length + 4 - i).toNat) (.inl ⟨rfl, rfl, rfl, rfl⟩) ?_
  intro i a b c hg
  have body : ∀ (i : Int) (a b c : Int), 0 ≤ i → i ≤ p2.length → (i < p2.length → absL (p2.drop i.toNat) ⟨a, b, c⟩ = absS p1 p2) → (¬ i < p2.length → permS ⟨a, b, c⟩ = absS p1 p2) → S3 ⟨a, b, c⟩ → ∀ nx, (∀ x y z, absL (p2.drop (i + 2).toNat) ⟨x, y, z⟩ = absS p1 p2 → S3 ⟨x, y, z⟩ → nx ((18446744069414584321 : Int), p2, (i + 2 : Int), (0 : Int), (0 : Int), (0 : Int), x, y, z, ())) →
      k9g ((absS p1 p2).a0, (absS p1 p2).a1, (absS p1 p2).a2, ()) nx ((18446744069414584321 : Int), p2, i, (0 : Int), (0 : Int), (0 : Int), a, b, c, ()) := by
    intro i a b c g0 g1 hne hnil hS nx hn
    obtain ⟨h3a, h3b, h3c⟩ := hS
    refine k12o (r0 := absS p1 p2) ⟨fun hh => ?_, fun hh => ?_⟩
    · have hh := of_decide_eq_true hh
      have hx := h2 _ (ix_mem p2 i g0 hh)
      have g2 := hne hh
      rw [drop_ix p2 i g0 hh] at g2
      refine ⟨g0, hh, ⟨rfl, h3a, hx⟩, knt (r0 := absS p1 p2) ?_⟩
      rw [wi (i + 1) (by omega) (by omega)]
      refine ⟨fun h5 => ?_, fun h5 => ?_⟩
      · have h5 := of_decide_eq_true h5
        have hy := h2 _ (ix_mem p2 (i + 1) (by omega) h5)
        rw [drop_ix p2 (i + 1) (by omega) h5, show i + 1 + 1 = i + 2 by omega] at g2
        exact ⟨by omega, h5, ⟨rfl, h3b, hy⟩, j3 _ _ _ _ _ g0 g1 (S3m (by omega) (by omega) h3c) (hn _ _ _ g2 (hp _))⟩
      · have h5 := of_decide_eq_false h5
        have ed : p2.drop (i + 1).toNat = [] := List.drop_eq_nil_of_le (by omega)
        have ed2 : p2.drop (i + 2).toNat = [] := List.drop_eq_nil_of_le (by omega)
        rw [ed] at g2
        exact j3 _ _ _ _ _ g0 g1 (S3m (by omega) h3b h3c) (hn _ _ _ (by rw [ed2]; exact g2) (hp _))
    · have hh := of_decide_eq_false hh
      refine knt (r0 := absS p1 p2) ?_
      rw [wi (i + 1) (by omega) (by omega)]
      refine ⟨fun h5 => ?_, fun h5 => ?_⟩
      · have h5 := of_decide_eq_true h5
        omega
      · have ed2 : p2.drop (i + 2).toNat = [] := List.drop_eq_nil_of_le (by omega)
        exact j3 _ _ _ _ _ g0 g1 (S3m h3a h3b h3c) (hn _ _ _ (by rw [ed2]; exact hnil hh) (hp _))
  refine ⟨fun h0 => ?_, fun h0 => ⟨fun hh => ?_, fun hh => ?_⟩⟩
  · have h0 : i = 0 := by simpa using h0
    rcases hg with ⟨_, rfl, rfl, rfl⟩ | ⟨hp0, _⟩
    · subst h0
      refine body 0 _ _ _ (by omega) (by omega) (fun hl => ?_) (fun hl => ?_) hi _ fun x y z k1 k2 => ⟨⟨⟨rfl, rfl, rfl, rfl, rfl⟩, .inr ⟨(by omega : (0 : Int) < 0 + 2), (by omega : (0 : Int) + 2 ≤ p2.length + 2), k1, k2⟩⟩, (by omega : (p2.length + 4 - ((0 : Int) + 2)).toNat < (p2.length + 4 - 0 : Int).toNat)⟩
      · have hne : p2 ≠ [] := by rintro rfl; simp at hl
        unfold absS
        rw [if_neg hne]
        rfl
      · have hnil : p2 = [] := List.eq_nil_of_length_eq_zero (by omega)
        unfold absS
        rw [if_pos hnil]
        rfl
    · omega
  · have h0 : ¬ i = 0 := by simpa using h0
    have hh := of_decide_eq_true hh
    rcases hg with ⟨h1, _⟩ | ⟨g0, g1, g2, g3⟩
    · omega
    · exact body i _ _ _ (by omega) (by omega) (fun _ => g2) (fun hl => absurd hh hl) g3 _ fun x y z k1 k2 => ⟨⟨⟨rfl, rfl, rfl, rfl, rfl⟩, .inr ⟨(by omega : 0 < i + 2), (by omega : i + 2 ≤ p2.length + 2), k1, k2⟩⟩, (by omega : (p2.length + 4 - (i + 2)).toNat < (p2.length + 4 - i).toNat)⟩
  · have h0 : ¬ i = 0 := by simpa using h0
    have hh := of_decide_eq_false hh
    rcases hg with ⟨h1, _⟩ | ⟨g0, g1, g2, g3⟩
    · omega
    · rw [List.drop_eq_nil_of_le (by omega)] at g2
      have hv : (⟨a, b, c⟩ : TA3) = absS p1 p2 := g2
      rw [← hv]
      exact ⟨rfl, rfl, rfl⟩
noncomputable def kso : Con TB.den := k24.fnR (fun x => (fun (p0 : Int) (p1 : Int) (p2 : List Int) => p0 = 18446744069414584321 ∧ U64 p1 ∧ Us p2 ∧ p2.length ≤ 1099511627776) x.1 x.2.1 x.2.2.1) fun x => ((fun (p0 : Int) (p1 : Int) (p2 : List Int) => ((absS p1 p2).a0 : Int)) x.1 x.2.1 x.2.2.1, (fun (p0 : Int) (p1 : Int) (p2 : List Int) => ((absS p1 p2).a1 : Int)) x.1 x.2.1 x.2.2.1, (fun (p0 : Int) (p1 : Int) (p2 : List Int) => ((absS p1 p2).a2 : Int)) x.1 x.2.1 x.2.2.1, ())
theorem k1c9 : kso.Ok Try.prog TB := Con.ok_fn k24 bd89 fun x h => k192 (k15r x.1 x.2.1 x.2.2.1 h)
end Go.Proofs.Ytnmakgfmimagmaa
namespace Go.Proofs.Ytnmakgfmimagmaa
open Go Go.Bv Go.Cv Go.Md Go.RowKit
def k3x : Con TB.den := Con.mk0 64 [.one (.d (.int .u64)), .one (.d (.int .u64)), .one (.d (.sl (.int .u64)))] [] (.one (.one (.d (.int .u64)))) []
abbrev k17b := HL TB.den (hsT k3x.ins (hsOs k3x.pre))
abbrev kmq := HL TB.den (hsV k3x.res (hsOs k3x.post))
noncomputable def kge : Cx TB := ⟨inf, [k7k, kso], [], 4, []⟩
noncomputable def km1 : Code := Try.f64.body.getD .skip
noncomputable def kqy : List ResultVar := Try.f64.results.toList
noncomputable def k10j (o : kmq) : An TB := .no
noncomputable def klu (x : k17b) (o : kmq) : Prop := WPh TB kge 15 0 km1 (k10j o) (k3x.st TB x) (retTQ TB kge k3x kqy o)
set_option maxRecDepth 100000 in
theorem k1fs (o : kmq) : OblH TB kge 15 0 km1 (k10j o) (retTQ TB kge k3x kqy o) :=
  OblH.of_eq (X := (True ∧ ((True ∧ ((True ∧ True) ∧ True)) ∧ (True ∧ True)))) (by kernel_rfl) ⟨trivial, ⟨⟨trivial, ⟨⟨trivial, trivial⟩, trivial⟩⟩, ⟨trivial, trivial⟩⟩⟩
set_option maxRecDepth 100000 in
theorem k1g9 {x : k17b} {o : kmq} (h : klu x o) : SoundH Try.prog k3x.f ((k3x.args idf x).map (er TB)) ((k3x.obs idf x).map (erO TB)) (er TB (k3x.val idf o)) ((k3x.ops idf o).map (erO TB)) :=
  Con.soundH (c := k3x) (C := kge) TBok ⟨inf_ok, (all_cons kau (all_cons k1c9 all_nil)), all_nil⟩ mix Try.func64 (show Try.f64.body = some km1 by kernel_rfl) (show Try.f64.ntmps = 15 by kernel_rfl) (show Try.f64.results.toList = kqy by kernel_rfl) rfl h (k1fs o)
set_option maxRecDepth 100000 in
theorem k1il {p0 : Int} {p1 : Int} {p2 : List Int} {r0 : Int} (h :
((p0 = 18446744069414584321) ∧ ((!true) = true →
 0 = r0) ∧
((!true) = false →
(p0 = 18446744069414584321 ∧ U64 p1 ∧ Us p2 ∧ p2.length ≤ 1099511627776) ∧ (absS p1 p2).a0 = r0))) : klu (p0, p1, p2, ()) (r0, ()) := WPh.of_eq (by kernel_rfl) h
theorem bd64 : Callable Try.prog 64 := ⟨by rw [Try.func64]; kernel_rfl, by rw [Try.func64]; show some _ ≠ some _; decide⟩
theorem k1dx (p0 : Int) (p1 : Int) (p2 : List Int) (h : p0 = 18446744069414584321 ∧ U64 p1 ∧ Us p2 ∧ p2.length ≤ 1099511627776) : klu (p0, p1, p2, ()) (((hashS p1 p2) : Int), ()) := by
  obtain ⟨hP, h1, h2, h3⟩ := h
  subst hP
  exact k1il ⟨rfl, fun h => by simp at h, fun _ => ⟨⟨rfl, h1, h2, h3⟩, rfl⟩⟩
noncomputable def kxk : Con TB.den := k3x.fnR (fun x => (fun (p0 : Int) (p1 : Int) (p2 : List Int) => p0 = 18446744069414584321 ∧ U64 p1 ∧ Us p2 ∧ p2.length ≤ 1099511627776) x.1 x.2.1 x.2.2.1) fun x => ((fun (p0 : Int) (p1 : Int) (p2 : List Int) => ((hashS p1 p2) : Int)) x.1 x.2.1 x.2.2.1, ())
theorem k1jd : kxk.Ok Try.prog TB := Con.ok_fn k3x bd64 fun x h => k1g9 (k1dx x.1 x.2.1 x.2.2.1 h)
end Go.Proofs.Ytnmakgfmimagmaa
namespace Go.Proofs.Ytnmakgfmimagmaa
open Go Go.Bv Go.Cv Go.Md Go.RowKit
def k34 : Con TB.den := Con.mk0 65 [.one (.d (.sl (.int .u8)))] [] (.one (.one (.d (.sl (.int .u64))))) []
abbrev k14a := HL TB.den (hsT k34.ins (hsOs k34.pre))
abbrev k3w := HL TB.den (hsV k34.res (hsOs k34.post))
noncomputable def k4p : Cx TB := ⟨inf, [], [], 4, [10, 21, 22]⟩
noncomputable def k5q : Code := Try.f65.body.getD .skip
noncomputable def kgk : List ResultVar := Try.f65.results.toList
noncomputable def k1iw (o : k3w) : Exit → TSt TB.den → Prop := thenT TB (fun s => ghs TB [] s fun s => WP TB k4p 46 0 (cB (cB (cB k5q))) (.nd [] .no [] (.rt [.frz 0 [2]])) s (retTQ TB k4p k34 kgk o)) (retTQ TB k4p k34 kgk o)
def k26 : Tm := ⟨[0], [.vec (.int .u64)], [0, 3, 4], [.one (.d (.sl (.int .u8))), .one (.row 0), .one (.d (.int .i64))], 1⟩
noncomputable def kr8 (o : k3w) (nx1 : HL TB.den k26.hs → Prop) : Exit → TSt TB.den → Prop := thenT TB (fun s => k26.mat TB 0 s nx1) (blockT TB 0 (k1iw o))
noncomputable def kr7 (o : k3w) (nx1 : HL TB.den k26.hs → Prop) : Exit → TSt TB.den → Prop := thenT TB (fun s => ghs TB [] s fun s => WP TB k4p 46 0 (cB (cB (cA (cA (cB (cA (cB (cB k5q)))))))) .no s (kr8 o nx1)) (kr8 o nx1)
noncomputable def k1j8 (o : k3w) (nx1 : HL TB.den k26.hs → Prop) : Exit → TSt TB.den → Prop := thenT TB (fun s => ghs TB [] s fun s => WP TB k4p 46 0 (cB (cB (cB (cA (cA (cB (cA (cA (cB (cA (cB (cB k5q)))))))))))) .no s (blockT TB 1 (kr7 o nx1))) (blockT TB 1 (kr7 o nx1))
def kac : Tm := ⟨[0], [.vec (.int .u64)], [0, 3, 4, 5, 6], [.one (.d (.sl (.int .u8))), .one (.row 0), .one (.d (.int .i64)), .one (.d (.int .u64)), .one (.d (.int .i64))], 1⟩
noncomputable def k1in (o : k3w) (nx1 : HL TB.den k26.hs → Prop) (nx2 : HL TB.den kac.hs → Prop) : Exit → TSt TB.den → Prop := thenT TB (fun s => kac.mat TB 0 s nx2) (blockT TB 2 (k1j8 o nx1))
noncomputable def kgf (o : k3w) (nx1 : HL TB.den k26.hs → Prop) (nx2 : HL TB.den kac.hs → Prop) (i : HL TB.den kac.hs) : Prop := WP TB k4p 46 0 (cA (cA (cB (cA (cB (cB (cA (cA (cB (cA (cA (cB (cA (cB (cB k5q))))))))))))))) .no (kac.fill TB i) (k1in o nx1 nx2)
noncomputable def k10m (o : k3w) (nx1 : HL TB.den k26.hs → Prop) : An TB := .nd [] .no [] (.lp [] kac (kgf o nx1) fun nx2 => .no)
def ki6 : Tm := ⟨[0], [.vec (.int .u64)], [0, 3, 4], [.one (.d (.sl (.int .u8))), .one (.row 0), .one (.d (.int .i64))], 1⟩
noncomputable def kxz (o : k3w) (nx1 : HL TB.den k26.hs → Prop) (i : HL TB.den ki6.hs) : Prop := ghs TB [] (ki6.fill TB i) fun s => WP TB k4p 46 0 (cB (cA (cA (cB (cA (cA (cB (cA (cB (cB k5q)))))))))) (.nd [] .no [] (.nd [] (k10m o nx1) [] .no)) s (blockT TB 1 (kr7 o nx1))
structure kcs (o : k3w) (nx1 : HL TB.den k26.hs → Prop) (i : HL TB.den ki6.hs) : Prop where
  h : kxz o nx1 i
noncomputable def kxs (o : k3w) (nx1 : HL TB.den k26.hs → Prop) : An TB := .jn ki6 (kcs o nx1) [] .no [] (.nd [] .no [] (.nd [] (k10m o nx1) [] .no))
noncomputable def kg2 (o : k3w) (nx1 : HL TB.den k26.hs → Prop) (i : HL TB.den k26.hs) : Prop := WP TB k4p 46 0 (cA (cA (cB (cA (cB (cB k5q)))))) (.nd [] .no [] (.nd [] (kxs o nx1) [] .no)) (k26.fill TB i) (kr8 o nx1)
noncomputable def k1e8 (o : k3w) : An TB := .lp [] k26 (kg2 o) fun nx1 => (.nd [] .no [] (.nd [] (kxs o nx1) [] .no))
noncomputable def k1en (o : k3w) : An TB := .nd [] (.nd [] .no [] (k1e8 o)) [] (.nd [] .no [] (.rt [.frz 0 [2]]))
noncomputable def k116 (o : k3w) : An TB := .nd [] .no [] (.nd [] .no [] (k1en o))
noncomputable def klo (x : k14a) (o : k3w) : Prop := WPh TB k4p 46 0 k5q (k116 o) (k34.st TB x) (retTQ TB k4p k34 kgk o)
set_option maxRecDepth 100000 in
theorem k1hl (o : k3w) : OblH TB k4p 46 0 k5q (k116 o) (retTQ TB k4p k34 kgk o) :=
  OblH.of_eq (X := (True ∧ (True ∧ ((True ∧ ((∀ nx i, (kg2 o) nx i = (kg2 o) nx i) ∧ ∀ nx1 : HL TB.den k26.hs → Prop, ((True ∧ (True ∧ True)) ∧ (((True ∧ (True ∧ True)) ∧ (∀ i, (kcs o nx1) i = (kxz o nx1) i) ∧ (True ∧ ((True ∧ ((∀ nx i, (kgf o nx1) nx i = (kgf o nx1) nx i) ∧ ∀ nx2 : HL TB.den kac.hs → Prop, ((True ∧ (True ∧ True)) ∧ (True ∧ True)))) ∧ True))) ∧ True)))) ∧ (True ∧ True))))) (by kernel_rfl) ⟨trivial, ⟨trivial, ⟨⟨trivial, ⟨fun _ _ => rfl, fun _ => ⟨⟨trivial, ⟨trivial, trivial⟩⟩, ⟨⟨⟨trivial, ⟨trivial, trivial⟩⟩, fun _ => propext ⟨fun h => h.1, fun h => ⟨h⟩⟩, ⟨trivial, ⟨⟨trivial, ⟨fun _ _ => rfl, fun _ => ⟨⟨trivial, ⟨trivial, trivial⟩⟩, ⟨trivial, trivial⟩⟩⟩⟩, trivial⟩⟩⟩, trivial⟩⟩⟩⟩, ⟨trivial, trivial⟩⟩⟩⟩
set_option maxRecDepth 100000 in
theorem k1gh {x : k14a} {o : k3w} (h : klo x o) : SoundH Try.prog k34.f ((k34.args idf x).map (er TB)) ((k34.obs idf x).map (erO TB)) (er TB (k34.val idf o)) ((k34.ops idf o).map (erO TB)) :=
  Con.soundH (c := k34) (C := k4p) TBok ⟨inf_ok, all_nil, all_nil⟩ mix Try.func65 (show Try.f65.body = some k5q by kernel_rfl) (show Try.f65.ntmps = 46 by kernel_rfl) (show Try.f65.results.toList = kgk by kernel_rfl) rfl h (k1hl o)
set_option maxRecDepth 100000 in
theorem k1it {p0 : List Int} {r0 : List Int} (h :
(([IntKind.u64.wrap (p0.length : Int)].length = [IntKind.u64.wrap (p0.length : Int)].length) ∧ Md.Loop (p0, (0 : Int), ([IntKind.u64.wrap (p0.length : Int)] : List Int), ()) (kg2 (r0, ())))) : klo (p0, ()) (r0, ()) := WPh.of_eq (by kernel_rfl) h
set_option maxRecDepth 100000 in
theorem k17r {r0 : List Int} {nx1 : HL TB.den k26.hs → Prop} {s0 : List Int} {s4 : Int} {g0 : List Int} (h :
((0 ≤ s4) ∧ s4 < (s0.length : Int) ∧ (g0.length = g0.length) ∧ Md.Loop (s0, s4, (IntKind.u64.wrap (ix s0 s4) : Int), (0 : Int), g0, ()) (kgf (r0, ()) nx1))) : kcs (r0, ()) nx1 (s0, s4, g0, ()) := ⟨mpr_of (by kernel_rfl) h⟩
def k10t (r0 : List Int) (nx1 : HL TB.den k26.hs → Prop) (k1 : Int → List Int → Prop) (s0 : List Int) (s4 : Int) (g0 : List Int) : Prop :=
(decide (s4 < (s0.length : Int)) = true →
(((Int.tmod s4 7) == 0) = true →
 g0.length = g0.length ∧ [0].length = [0].length ∧ (g0.length + [0].length) * 8 ≤ 140737488355328 ∧ g0.length + [0].length ≤ maxLen ∧ ((g0 ++ [0]).length = (g0 ++ [0]).length) ∧ kcs (r0, ()) nx1 (s0, s4, (g0 ++ [0] : List Int), ())) ∧
(((Int.tmod s4 7) == 0) = false →
(g0.length = g0.length) ∧ kcs (r0, ()) nx1 (s0, s4, g0, ()))) ∧
(decide (s4 < (s0.length : Int)) = false →
(g0.length = g0.length) ∧ g0 = r0)
set_option maxRecDepth 100000 in
theorem k1f3 {r0 : List Int} {s0 : List Int} {s4 : Int} {g0 : List Int} (inv : Int → List Int → Prop) (μ : Int → List Int → Nat) (h0 : inv s4 g0) (hs : ∀ (s4 : Int) (g0 : List Int), inv s4 g0 → k10t r0 (fun s : (List Int) × Int × (List Int) × Unit => ((s.1 = s0) ∧ inv s.2.1 s.2.2.1) ∧ μ s.2.1 s.2.2.1 < μ s4 g0) (fun s4q g0q => inv s4q g0q ∧ μ s4q g0q < μ s4 g0) s0 s4 g0) : Md.Loop (s0, s4, g0, ()) (kg2 (r0, ())) :=
  ⟨⟨fun s : (List Int) × Int × (List Int) × Unit => (s.1 = s0) ∧ inv s.2.1 s.2.2.1, fun s : (List Int) × Int × (List Int) × Unit => μ s.2.1 s.2.2.1, ⟨rfl, h0⟩, fun (s0p, s4p, g0p, ()) ⟨eq0, hi⟩ => by
    have eq0 : s0p = s0 := eq0; subst s0p; exact mpr_of (by kernel_rfl) ((congrArg (fun k => k10t r0 (fun s : (List Int) × Int × (List Int) × Unit => ((s.1 = s0) ∧ inv s.2.1 s.2.2.1) ∧ μ s.2.1 s.2.2.1 < μ s4p g0p) k s0 s4p g0p) (lpk2 (rfl : s0 = s0) inv (fun s4q g0q => μ s4q g0q < μ s4p g0p))).mpr (hs s4p g0p hi))⟩⟩
def k10c (r0 : List Int) (nx1 : HL TB.den k26.hs → Prop) (k2 : Int → Int → Prop) (s0 : List Int) (s4 : Int) (g0 : List Int) (s5 : Int) (s6 : Int) : Prop :=
(decide (s6 < (Int.tmod s4 7)) = true →
(g0.length = g0.length) ∧ k2 (IntKind.u64.wrap (s5 * 256) : Int) (IntKind.i64.wrap (s6 + 1) : Int)) ∧
(decide (s6 < (Int.tmod s4 7)) = false →
(0 ≤ IntKind.i64.wrap ((g0.length : Int) - 1) ∧ IntKind.i64.wrap ((g0.length : Int) - 1) < (g0.length : Int)) ∧ (0 ≤ IntKind.i64.wrap ((g0.length : Int) - 1) ∧ IntKind.i64.wrap ((g0.length : Int) - 1) < (g0.length : Int)) ∧ let v1 : Int := ix g0 (IntKind.i64.wrap ((g0.length : Int) - 1))
(0 ≤ IntKind.i64.wrap ((g0.length : Int) - 1) ∧ IntKind.i64.wrap ((g0.length : Int) - 1) < (g0.length : Int)) ∧ (0 ≤ IntKind.i64.wrap ((g0.length : Int) - 1) ∧ IntKind.i64.wrap ((g0.length : Int) - 1) < (g0.length : Int)) ∧ (g0.length = (g0.set (IntKind.i64.wrap ((g0.length : Int) - 1)).toNat (IntKind.u64.wrap (v1 + s5))).length) ∧ nx1 (s0, (IntKind.i64.wrap (s4 + 1) : Int), (g0.set (IntKind.i64.wrap ((g0.length : Int) - 1)).toNat (IntKind.u64.wrap (v1 + s5)) : List Int), ()))
set_option maxRecDepth 100000 in
theorem k1fx {r0 : List Int} {nx1 : HL TB.den k26.hs → Prop} {s0 : List Int} {s4 : Int} {g0 : List Int} {s5 : Int} {s6 : Int} (inv : Int → Int → Prop) (μ : Int → Int → Nat) (h0 : inv s5 s6) (hs : ∀ (s5 : Int) (s6 : Int), inv s5 s6 → k10c r0 nx1 (fun s5q s6q => inv s5q s6q ∧ μ s5q s6q < μ s5 s6) s0 s4 g0 s5 s6) : Md.Loop (s0, s4, s5, s6, g0, ()) (kgf (r0, ()) nx1) :=
  ⟨⟨fun s : (List Int) × Int × Int × Int × (List Int) × Unit => (s.1 = s0 ∧ s.2.1 = s4 ∧ s.2.2.2.2.1 = g0) ∧ inv s.2.2.1 s.2.2.2.1, fun s : (List Int) × Int × Int × Int × (List Int) × Unit => μ s.2.2.1 s.2.2.2.1, ⟨⟨rfl, rfl, rfl⟩, h0⟩, fun (s0p, s4p, s5p, s6p, g0p, ()) ⟨⟨eq0, eq1, eq2⟩, hi⟩ => by
    have eq0 : s0p = s0 := eq0; subst s0p; have eq1 : s4p = s4 := eq1; subst s4p; have eq2 : g0p = g0 := eq2; subst g0p; exact mpr_of (by kernel_rfl) ((congrArg (fun k => k10c r0 nx1 k s0 s4 g0 s5p s6p) (lpk2 (⟨rfl, rfl, rfl⟩ : s0 = s0 ∧ s4 = s4 ∧ g0 = g0) inv (fun s5q s6q => μ s5q s6q < μ s5p s6p))).mpr (hs s5p s6p hi))⟩⟩
theorem bd65 : Callable Try.prog 65 := ⟨by rw [Try.func65]; kernel_rfl, by rw [Try.func65]; show some _ ≠ some _; decide⟩
theorem k1d9 (p0 : List Int) (h : By p0 ∧ p0.length ≤ 1099511627776) : klo (p0, ()) (((packS p0) : List Int), ()) := by
  obtain ⟨hb, hl⟩ := h
  refine k1it ⟨rfl, ?_⟩
  have e0 : IntKind.u64.wrap (p0.length : Int) = p0.length := wu _ (by omega) (by omega)
  rw [e0]
  refine k1f3 (fun i g => 0 ≤ i ∧ i ≤ p0.length ∧ g = (p0.length : Int) :: pkI p0 i.toNat) (fun i _ => (p0.length - i).toNat) ⟨by omega, by omega, by rw [show (0 : Int).toNat = 0 from rfl, k1nc]⟩ ?_
  rintro i g ⟨g0, g1, rfl⟩
  have hlen := k1jm p0 i.toNat
  have em : Int.tmod i 7 = i % 7 := tmod_nn _ _ g0
  
  have rest : ∀ (nx : HL TB.den k26.hs → Prop), nx (p0, (i + 1 : Int), ((p0.length : Int) :: pkI p0 (i + 1).toNat : List Int), ()) → i < p0.length → kcs (packS p0, ()) nx (p0, i, ((p0.length : Int) :: (pkF p0 i.toNat ++ [if i.toNat % 7 = 0 then 0 else pkV p0 i.toNat]) : List Int), ()) := by
    intro nx hnx hh
    have hb1 := hb _ (ix_mem p0 i g0 hh)
    have hF := k164 p0 i.toNat
    refine k17r ⟨g0, hh, rfl, ?_⟩
    rw [wu (ix p0 i) (by omega) (by omega)]
    have hp6 : ∀ k : Nat, k ≤ 6 → (256 : Int) ^ k ≤ 281474976710656 := fun k hk => kpj (m := 6) hk
    refine k1fx (fun n k => 0 ≤ k ∧ k ≤ i % 7 ∧ n = 256 ^ k.toNat * ix p0 i) (fun _ k => (i % 7 - k).toNat) ⟨by omega, by omega, by rw [show (0 : Int).toNat = 0 from rfl, Int.pow_zero, Int.one_mul]⟩ ?_
    rintro n k ⟨k0, k1, rfl⟩
    have hpk := hp6 k.toNat (by omega)
    have hpp := kf0 k.toNat
    have hb2 : 256 ^ k.toNat * ix p0 i ≤ 281474976710656 * 255 := Int.mul_le_mul hpk (by omega) (by omega) (by omega)
    have hb3 : 0 ≤ 256 ^ k.toNat * ix p0 i := Int.mul_nonneg (by omega) (by omega)
    refine ⟨fun h2 => ?_, fun h2 => ?_⟩
    · have h2 := of_decide_eq_true h2
      rw [em] at h2
      rw [wi (k + 1) (by omega) (by omega), wu _ (by omega) (by omega)]
      refine ⟨rfl, ⟨by omega, by omega, ?_⟩, by omega⟩
      rw [show (k + 1).toNat = k.toNat + 1 by omega, kcw, Int.mul_comm, Int.mul_assoc]
    · have h2 := of_decide_eq_false h2
      rw [em] at h2
      have hk : k.toNat = i.toNat % 7 := by omega
      have hl1 : (((p0.length : Int) :: (pkF p0 i.toNat ++ [if i.toNat % 7 = 0 then 0 else pkV p0 i.toNat])).length : Int) = (pkF p0 i.toNat).length + 2 := by simp; omega
      have hix : ix ((p0.length : Int) :: (pkF p0 i.toNat ++ [if i.toNat % 7 = 0 then 0 else pkV p0 i.toNat])) ((pkF p0 i.toNat).length + 1) = if i.toNat % 7 = 0 then 0 else pkV p0 i.toNat := by
        rw [ix_nat _ _ (by omega) (by omega)]
        have : ((pkF p0 i.toNat).length + 1 : Int).toNat = (pkF p0 i.toNat).length + 1 := by omega
        simp [this]
      have hv := k1lk hb i.toNat
      have hv2 : (256 : Int) ^ (i.toNat % 7) ≤ 281474976710656 := hp6 _ (by omega)
      rw [hl1, show ((pkF p0 i.toNat).length : Int) + 2 - 1 = (pkF p0 i.toNat).length + 1 by omega, wi ((pkF p0 i.toNat).length + 1) (by omega) (by omega)]
      refine ⟨⟨by omega, by omega⟩, ⟨by omega, by omega⟩, ?_⟩
      dsimp only
      refine ⟨⟨by omega, by omega⟩, ⟨by omega, by omega⟩, by rw [List.length_set], ?_⟩
      rw [hix, wi (i + 1) (by omega) (by omega), wu _ (by split <;> omega) (by split <;> omega)]
      have e5 : ((pkF p0 i.toNat).length + 1 : Int).toNat = (pkF p0 i.toNat).length + 1 := by omega
      have e6 : (i + 1).toNat = i.toNat + 1 := by omega
      rw [e6, k1m4 (by omega)] at hnx
      rw [e5, List.set_cons_succ, k1m0, hk, ix_nat p0 i g0 hh]
      exact hnx
  refine ⟨fun hh => ?_, fun hh => ?_⟩
  · have hh := of_decide_eq_true hh
    have a1 : (0 : Int) ≤ i + 1 := by omega
    have a2 : i + 1 ≤ p0.length := by omega
    have a3 : ((p0.length : Int) - (i + 1)).toNat < ((p0.length : Int) - i).toNat := by omega
    refine ⟨fun h7 => ?_, fun h7 => ?_⟩
    · have h7 : i % 7 = 0 := by rw [em] at h7; simpa using h7
      have e1 : pkI p0 i.toNat = pkF p0 i.toNat := if_pos (by omega)
      have e2 : (if i.toNat % 7 = 0 then (0 : Int) else pkV p0 i.toNat) = 0 := if_pos (by omega)
      have h1 : ∀ nx, _ := rest
      rw [e2] at h1
      refine ⟨rfl, rfl, by simp; omega, by simp; unfold maxLen; omega, rfl, ?_⟩
      rw [List.cons_append, e1]
      exact h1 _ ⟨⟨rfl, a1, a2, rfl⟩, a3⟩ hh
    · have h7 : ¬ i % 7 = 0 := by rw [em] at h7; simpa using h7
      have e1 : pkI p0 i.toNat = pkF p0 i.toNat ++ [pkV p0 i.toNat] := if_neg (by omega)
      have e2 : (if i.toNat % 7 = 0 then (0 : Int) else pkV p0 i.toNat) = pkV p0 i.toNat := if_neg (by omega)
      have h1 : ∀ nx, _ := rest
      rw [e2] at h1
      refine ⟨rfl, ?_⟩
      rw [e1]
      exact h1 _ ⟨⟨rfl, a1, a2, rfl⟩, a3⟩ hh
  · have hh := of_decide_eq_false hh
    refine ⟨rfl, ?_⟩
    show _ = packS p0
    rw [show i.toNat = p0.length by omega, k1mc]
    rfl
noncomputable def kyy : Con TB.den := k34.fnR (fun x => (fun (p0 : List Int) => By p0 ∧ p0.length ≤ 1099511627776) x.1) fun x => ((fun (p0 : List Int) => ((packS p0) : List Int)) x.1, ())
theorem k1j1 : kyy.Ok Try.prog TB := Con.ok_fn k34 bd65 fun x h => k1gh (k1d9 x.1 h)
end Go.Proofs.Ytnmakgfmimagmaa
namespace Go.Proofs.Ytnmakgfmimagmaa
open Go Go.Bv Go.Cv Go.Md Go.RowKit
def k1h : Con TB.den := Con.mk0 39 [.one (.d (.int .u64)), .one (.d (.sl (.int .u8)))] [] (.one (.one (.d (.int .u64)))) []
abbrev kpy := HL TB.den (hsT k1h.ins (hsOs k1h.pre))
abbrev kd4 := HL TB.den (hsV k1h.res (hsOs k1h.post))
noncomputable def k8u : Cx TB := ⟨inf, [kyy, kxk], [], 4, []⟩
noncomputable def kdk : Code := Try.f39.body.getD .skip
noncomputable def khi : List ResultVar := Try.f39.results.toList
noncomputable def kn7 (o : kd4) : An TB := .no
noncomputable def ked (x : kpy) (o : kd4) : Prop := WPh TB k8u 9 0 kdk (kn7 o) (k1h.st TB x) (retTQ TB k8u k1h khi o)
set_option maxRecDepth 100000 in
theorem kzk (o : kd4) : OblH TB k8u 9 0 kdk (kn7 o) (retTQ TB k8u k1h khi o) :=
  OblH.of_eq (X := (True ∧ (True ∧ True))) (by kernel_rfl) ⟨trivial, ⟨trivial, trivial⟩⟩
set_option maxRecDepth 100000 in
theorem kza {x : kpy} {o : kd4} (h : ked x o) : SoundH Try.prog k1h.f ((k1h.args idf x).map (er TB)) ((k1h.obs idf x).map (erO TB)) (er TB (k1h.val idf o)) ((k1h.ops idf o).map (erO TB)) :=
  Con.soundH (c := k1h) (C := k8u) TBok ⟨inf_ok, (all_cons k1j1 (all_cons k1jd all_nil)), all_nil⟩ mix Try.func39 (show Try.f39.body = some kdk by kernel_rfl) (show Try.f39.ntmps = 9 by kernel_rfl) (show Try.f39.results.toList = khi by kernel_rfl) rfl h (kzk o)
set_option maxRecDepth 100000 in
theorem k12d {p0 : Int} {p1 : List Int} {r0 : Int} (h :
((By p1 ∧ p1.length ≤ 1099511627776) ∧ ((18446744069414584321 : Int) = 18446744069414584321 ∧ U64 p0 ∧ Us (packS p1) ∧ (packS p1).length ≤ 1099511627776) ∧ (hashS p0 (packS p1)) = r0)) : ked (p0, p1, ()) (r0, ()) := WPh.of_eq (by kernel_rfl) h
theorem bd39 : Callable Try.prog 39 := ⟨by rw [Try.func39]; kernel_rfl, by rw [Try.func39]; show some _ ≠ some _; decide⟩
theorem kxd (p0 : Int) (p1 : List Int) (h : U64 p0 ∧ By p1 ∧ p1.length ≤ 1099511627775) : ked (p0, p1, ()) (((hashB p0 p1) : Int), ()) := by
  obtain ⟨h1, h2, h3⟩ := h
  refine k12d ⟨⟨h2, by omega⟩, ⟨rfl, h1, ?_, ?_⟩, rfl⟩
  · intro x hx
    rcases List.mem_cons.1 hx with rfl | hx
    · omega
    · exact k142 _ _ h2 x hx
  · have := khz p1.length p1
    simp only [packS, List.length_cons]
    omega
noncomputable def kah : Con TB.den := k1h.fnR (fun x => (fun (p0 : Int) (p1 : List Int) => U64 p0 ∧ By p1 ∧ p1.length ≤ 1099511627775) x.1 x.2.1) fun x => ((fun (p0 : Int) (p1 : List Int) => ((hashB p0 p1) : Int)) x.1 x.2.1, ())
theorem kgx : kah.Ok Try.prog TB := Con.ok_fn k1h bd39 fun x h => kza (kxd x.1 x.2.1 h)
end Go.Proofs.Ytnmakgfmimagmaa
namespace Go.Proofs.Ytnmakgfmimagmaa
open Go Go.Bv Go.Cv Go.Md Go.RowKit
def k37 : Con TB.den := Con.mk0 32 [.agg [.d (.int .u64), .d (.int .u64)]] [] (.one (.one (.d (.bool)))) []
abbrev k11l := HL TB.den (hsT k37.ins (hsOs k37.pre))
abbrev kkp := HL TB.den (hsV k37.res (hsOs k37.post))
noncomputable def kep : Cx TB := ⟨inf, [], [], 4, []⟩
noncomputable def kj6 : Code := Try.f32.body.getD .skip
noncomputable def kol : List ResultVar := Try.f32.results.toList
noncomputable def ky2 (o : kkp) : An TB := .no
noncomputable def kk6 (x : k11l) (o : kkp) : Prop := WPh TB kep 21 0 kj6 (ky2 o) (k37.st TB x) (retTQ TB kep k37 kol o)
set_option maxRecDepth 100000 in
theorem k1bu (o : kkp) : OblH TB kep 21 0 kj6 (ky2 o) (retTQ TB kep k37 kol o) :=
  OblH.of_eq (X := (True ∧ (True ∧ True))) (by kernel_rfl) ⟨trivial, ⟨trivial, trivial⟩⟩
set_option maxRecDepth 100000 in
theorem k1ca {x : k11l} {o : kkp} (h : kk6 x o) : SoundH Try.prog k37.f ((k37.args idf x).map (er TB)) ((k37.obs idf x).map (erO TB)) (er TB (k37.val idf o)) ((k37.ops idf o).map (erO TB)) :=
  Con.soundH (c := k37) (C := kep) TBok ⟨inf_ok, all_nil, all_nil⟩ mix Try.func32 (show Try.f32.body = some kj6 by kernel_rfl) (show Try.f32.ntmps = 21 by kernel_rfl) (show Try.f32.results.toList = kol by kernel_rfl) rfl h (k1bu o)
set_option maxRecDepth 100000 in
theorem k1h5 {p0 : TA2} {r0 : Bool} (h :
((decide (p0.a0 < 18446744069414584321) = true →
(decide (p0.a1 < 18446744069414584321) = true →
(decide (0 < p0.a0) = true →
 true = r0) ∧
(decide (0 < p0.a0) = false →
 decide (0 < p0.a1) = r0)) ∧
(decide (p0.a1 < 18446744069414584321) = false →
 false = r0)) ∧
(decide (p0.a0 < 18446744069414584321) = false →
 false = r0))) : kk6 (p0.a0, p0.a1, ()) (r0, ()) := WPh.of_eq (by kernel_rfl) h
theorem bd32 : Callable Try.prog 32 := ⟨by rw [Try.func32]; kernel_rfl, by rw [Try.func32]; show some _ ≠ some _; decide⟩
theorem k184 (p0 : TA2) (h : 0 ≤ p0.a0 ∧ 0 ≤ p0.a1) : kk6 (p0.a0, p0.a1, ()) (((vPoint p0.a0 p0.a1) : Bool), ()) := by
  refine k1h5 ?_
  unfold vPoint
  repeat' (apply And.intro <;> intro h)
  all_goals grind
noncomputable def kuw : Con TB.den := k37.fnR (fun x => (fun (p0 : TA2) => 0 ≤ p0.a0 ∧ 0 ≤ p0.a1) (TA2.mk x.1 x.2.1)) fun x => ((fun (p0 : TA2) => ((vPoint p0.a0 p0.a1) : Bool)) (TA2.mk x.1 x.2.1), ())
theorem k1i0 : kuw.Ok Try.prog TB := Con.ok_fn k37 bd32 fun x h => k1ca (k184 (TA2.mk x.1 x.2.1) h)
end Go.Proofs.Ytnmakgfmimagmaa
namespace Go.Proofs.Ytnmakgfmimagmaa
open Go Go.Bv Go.Cv Go.Md Go.RowKit
def k1m : Con TB.den := Con.mk0 31 [.one (.d (.sl (.int .u64)))] [] (.one (.one (.d (.bool)))) []
abbrev kva := HL TB.den (hsT k1m.ins (hsOs k1m.pre))
abbrev k6j := HL TB.den (hsV k1m.res (hsOs k1m.post))
noncomputable def k59 : Cx TB := ⟨inf, [], [], 4, []⟩
noncomputable def k8q : Code := Try.f31.body.getD .skip
noncomputable def kaz : List ResultVar := Try.f31.results.toList
noncomputable def k19z (o : k6j) : Exit → TSt TB.den → Prop := thenT TB (fun s => ghs TB [] s fun s => WP TB k59 15 0 (cB (cB k8q)) .no s (retTQ TB k59 k1m kaz o)) (retTQ TB k59 k1m kaz o)
def k6t : Tm := ⟨[], [], [0, 3], [.one (.d (.sl (.int .u64))), .one (.d (.int .i64))], 0⟩
noncomputable def k18n (o : k6j) (nx1 : HL TB.den k6t.hs → Prop) : Exit → TSt TB.den → Prop := thenT TB (fun s => k6t.mat TB 0 s nx1) (blockT TB 0 (k19z o))
noncomputable def kbi (o : k6j) (nx1 : HL TB.den k6t.hs → Prop) (i : HL TB.den k6t.hs) : Prop := WP TB k59 15 0 (cA (cA (cB (cA (cB k8q))))) .no (k6t.fill TB i) (k18n o nx1)
noncomputable def k18i (o : k6j) : An TB := .nd [] .no [] (.lp [] k6t (kbi o) fun nx1 => .no)
noncomputable def ks9 (o : k6j) : An TB := .nd [] .no [] (.nd [] (k18i o) [] .no)
noncomputable def khc (x : kva) (o : k6j) : Prop := WPh TB k59 15 0 k8q (ks9 o) (k1m.st TB x) (retTQ TB k59 k1m kaz o)
set_option maxRecDepth 100000 in
theorem k173 (o : k6j) : OblH TB k59 15 0 k8q (ks9 o) (retTQ TB k59 k1m kaz o) :=
  OblH.of_eq (X := (True ∧ ((True ∧ ((∀ nx i, (kbi o) nx i = (kbi o) nx i) ∧ ∀ nx1 : HL TB.den k6t.hs → Prop, ((True ∧ (True ∧ True)) ∧ ((True ∧ ((True ∧ True) ∧ True)) ∧ True)))) ∧ (True ∧ True)))) (by kernel_rfl) ⟨trivial, ⟨⟨trivial, ⟨fun _ _ => rfl, fun _ => ⟨⟨trivial, ⟨trivial, trivial⟩⟩, ⟨⟨trivial, ⟨⟨trivial, trivial⟩, trivial⟩⟩, trivial⟩⟩⟩⟩, ⟨trivial, trivial⟩⟩⟩
set_option maxRecDepth 100000 in
theorem k179 {x : kva} {o : k6j} (h : khc x o) : SoundH Try.prog k1m.f ((k1m.args idf x).map (er TB)) ((k1m.obs idf x).map (erO TB)) (er TB (k1m.val idf o)) ((k1m.ops idf o).map (erO TB)) :=
  Con.soundH (c := k1m) (C := k59) TBok ⟨inf_ok, all_nil, all_nil⟩ mix Try.func31 (show Try.f31.body = some k8q by kernel_rfl) (show Try.f31.ntmps = 15 by kernel_rfl) (show Try.f31.results.toList = kaz by kernel_rfl) rfl h (k173 o)
set_option maxRecDepth 100000 in
theorem k18x {p0 : List Int} {r0 : Bool} (h :
(Md.Loop (p0, (0 : Int), ()) (kbi (r0, ())))) : khc (p0, ()) (r0, ()) := WPh.of_eq (by kernel_rfl) h
def ksb (r0 : Bool) (k1 : Int → Prop) (s0 : List Int) (s3 : Int) : Prop :=
(decide (s3 < (s0.length : Int)) = true →
(0 ≤ s3) ∧ s3 < (s0.length : Int) ∧ let v1 : Bool := decide (18446744069414584321 ≤ (ix s0 s3))
(v1 = true →
 false = r0) ∧
(v1 = false →
 k1 (IntKind.i64.wrap (s3 + 1) : Int))) ∧
(decide (s3 < (s0.length : Int)) = false →
 true = r0)
set_option maxRecDepth 100000 in
theorem k16u {r0 : Bool} {s0 : List Int} {s3 : Int} (inv : Int → Prop) (μ : Int → Nat) (h0 : inv s3) (hs : ∀ (s3 : Int), inv s3 → ksb r0 (fun s3q => inv s3q ∧ μ s3q < μ s3) s0 s3) : Md.Loop (s0, s3, ()) (kbi (r0, ())) :=
  ⟨⟨fun s : (List Int) × Int × Unit => (s.1 = s0) ∧ inv s.2.1, fun s : (List Int) × Int × Unit => μ s.2.1, ⟨rfl, h0⟩, fun (s0p, s3p, ()) ⟨eq0, hi⟩ => by
    have eq0 : s0p = s0 := eq0; subst s0p; exact mpr_of (by kernel_rfl) ((congrArg (fun k => ksb r0 k s0 s3p) (lpk1 (rfl : s0 = s0) inv (fun s3q => μ s3q < μ s3p))).mpr (hs s3p hi))⟩⟩
theorem bd31 : Callable Try.prog 31 := ⟨by rw [Try.func31]; kernel_rfl, by rw [Try.func31]; show some _ ≠ some _; decide⟩
theorem k130 (p0 : List Int) (h : p0.length ≤ 9223372036854775807) : khc (p0, ()) (((p0.all (fun x => decide (x < 18446744069414584321))) : Bool), ()) := by
  refine k18x (k16u (fun i => 0 ≤ i ∧ i ≤ p0.length ∧ ∀ x ∈ p0.take i.toNat, x < 18446744069414584321) (fun i => (p0.length - i).toNat) ⟨by omega, by omega, by simp⟩ ?_)
  rintro i ⟨g0, g1, g2⟩
  refine ⟨fun hh => ?_, fun hh => ?_⟩
  · have hh := of_decide_eq_true hh
    refine ⟨g0, hh, fun e => ?_, fun e => ?_⟩
    · have e := of_decide_eq_true e
      exact (List.all_eq_false.2 ⟨_, ix_mem p0 i g0 hh, by simp; omega⟩).symm
    · have e := of_decide_eq_false e
      rw [inc i p0.length g0 hh (by omega)]
      refine ⟨⟨by omega, by omega, ?_⟩, by omega⟩
      rw [ka p0 i g0 hh]
      intro x hx
      rcases List.mem_append.1 hx with hx | hx
      · exact g2 x hx
      · have : x = ix p0 i := by simpa using hx
        omega
  · have hh := of_decide_eq_false hh
    rw [List.take_of_length_le (by omega)] at g2
    symm
    simpa using g2
noncomputable def kpa : Con TB.den := k1m.fnR (fun x => (fun (p0 : List Int) => p0.length ≤ 9223372036854775807) x.1) fun x => ((fun (p0 : List Int) => ((p0.all (fun x => decide (x < 18446744069414584321))) : Bool)) x.1, ())
theorem k19h : kpa.Ok Try.prog TB := Con.ok_fn k1m bd31 fun x h => k179 (k130 x.1 h)
end Go.Proofs.Ytnmakgfmimagmaa
namespace Go.Proofs.Ytnmakgfmimagmaa
open Go Go.Bv Go.Cv Go.Md Go.RowKit
def k1d : Con TB.den := Con.mk0 15 [.agg [.d (.int .u64), .d (.sl (.int .u64)), .d (.sl (.st 0)), .d (.int .u64), .d (.int .u64), .d (.int .u64), .d (.int .u64), .d (.int .u64), .d (.int .i64), .d (.sl (.int .u8))]] [] (.one (.one (.d (.int .i64)))) []
abbrev k119 := HL TB.den (hsT k1d.ins (hsOs k1d.pre))
abbrev k1k := HL TB.den (hsV k1d.res (hsOs k1d.post))
noncomputable def k1s : Cx TB := ⟨inf, [kpa, kuw], [], 4, []⟩
noncomputable def k49 : Code := Try.f15.body.getD .skip
noncomputable def k6g : List ResultVar := Try.f15.results.toList
def kci : Tm := ⟨[0], [.cells [.d (.int .u64), .d (.sl (.int .u64)), .d (.sl (.st 0)), .d (.int .u64), .d (.int .u64), .d (.int .u64), .d (.int .u64), .d (.int .u64), .d (.int .i64), .d (.sl (.int .u8))]], [1], [.one (.ptr 0 0)], 2⟩
noncomputable def kvp (o : k1k) (i : HL TB.den kci.hs) : Prop := ghs TB [] (kci.fill TB i) fun s => WP TB k1s 149 0 (cB (cB (cB (cB (cB (cB k49)))))) .no s (retTQ TB k1s k1d k6g o)
structure k7d (o : k1k) (i : HL TB.den kci.hs) : Prop where
  h : kvp o i
def kgs : Tm := ⟨[0], [.cells [.d (.int .u64), .d (.sl (.int .u64)), .d (.sl (.st 0)), .d (.int .u64), .d (.int .u64), .d (.int .u64), .d (.int .u64), .d (.int .u64), .d (.int .i64), .d (.sl (.int .u8))]], [1], [.one (.ptr 0 0)], 2⟩
noncomputable def kuq (o : k1k) (i : HL TB.den kgs.hs) : Prop := ghs TB [] (kgs.fill TB i) fun s => WP TB k1s 149 0 (cB (cB (cB (cB (cB k49))))) (.jn kci (k7d o) [] .no [] .no) s (retTQ TB k1s k1d k6g o)
structure kbb (o : k1k) (i : HL TB.den kgs.hs) : Prop where
  h : kuq o i
noncomputable def koe (o : k1k) : An TB := .jn kgs (kbb o) [] .no [] (.jn kci (k7d o) [] .no [] .no)
noncomputable def k1ev (o : k1k) : Exit → TSt TB.den → Prop := thenT TB (fun s => ghs TB [] s fun s => WP TB k1s 149 0 (cB (cB (cB (cB k49)))) (koe o) s (retTQ TB k1s k1d k6g o)) (retTQ TB k1s k1d k6g o)
def k8k : Tm := ⟨[0], [.cells [.d (.int .u64), .d (.sl (.int .u64)), .d (.sl (.st 0)), .d (.int .u64), .d (.int .u64), .d (.int .u64), .d (.int .u64), .d (.int .u64), .d (.int .i64), .d (.sl (.int .u8))]], [1, 5], [.one (.ptr 0 0), .one (.d (.int .i64))], 2⟩
noncomputable def k1f4 (o : k1k) (nx3 : HL TB.den k8k.hs → Prop) : Exit → TSt TB.den → Prop := thenT TB (fun s => k8k.mat TB 0 s nx3) (blockT TB 4 (k1ev o))
noncomputable def kes (o : k1k) (nx3 : HL TB.den k8k.hs → Prop) (i : HL TB.den k8k.hs) : Prop := WP TB k1s 149 0 (cA (cA (cB (cA (cB (cB (cB k49))))))) .no (k8k.fill TB i) (k1f4 o nx3)
noncomputable def kvw (o : k1k) : An TB := .nd [] .no [] (.lp [] k8k (kes o) fun nx3 => .no)
noncomputable def k1cy (o : k1k) : Exit → TSt TB.den → Prop := thenT TB (fun s => ghs TB [] s fun s => WP TB k1s 149 0 (cB (cB (cB k49))) (.nd [] (kvw o) [] (koe o)) s (retTQ TB k1s k1d k6g o)) (retTQ TB k1s k1d k6g o)
def k3q : Tm := ⟨[0], [.cells [.d (.int .u64), .d (.sl (.int .u64)), .d (.sl (.st 0)), .d (.int .u64), .d (.int .u64), .d (.int .u64), .d (.int .u64), .d (.int .u64), .d (.int .i64), .d (.sl (.int .u8))]], [1, 3], [.one (.ptr 0 0), .one (.d (.int .i64))], 2⟩
noncomputable def km6 (o : k1k) (nx2 : HL TB.den k3q.hs → Prop) : Exit → TSt TB.den → Prop := thenT TB (fun s => k3q.mat TB 0 s nx2) (blockT TB 0 (k1cy o))
noncomputable def k1da (o : k1k) (nx2 : HL TB.den k3q.hs → Prop) : Exit → TSt TB.den → Prop := thenT TB (fun s => ghs TB [] s fun s => WP TB k1s 149 0 (cB (cB (cA (cA (cB (cA (cB (cB k49)))))))) .no s (km6 o nx2)) (km6 o nx2)
def k94 : Tm := ⟨[0], [.cells [.d (.int .u64), .d (.sl (.int .u64)), .d (.sl (.st 0)), .d (.int .u64), .d (.int .u64), .d (.int .u64), .d (.int .u64), .d (.int .u64), .d (.int .i64), .d (.sl (.int .u8))]], [1, 3, 4], [.one (.ptr 0 0), .one (.d (.int .i64)), .one (.d (.int .i64))], 2⟩
noncomputable def k1d5 (o : k1k) (nx2 : HL TB.den k3q.hs → Prop) (nx1 : HL TB.den k94.hs → Prop) : Exit → TSt TB.den → Prop := thenT TB (fun s => k94.mat TB 0 s nx1) (blockT TB 2 (blockT TB 1 (k1da o nx2)))
noncomputable def kew (o : k1k) (nx2 : HL TB.den k3q.hs → Prop) (nx1 : HL TB.den k94.hs → Prop) (i : HL TB.den k94.hs) : Prop := WP TB k1s 149 0 (cA (cA (cB (cA (cA (cB (cA (cA (cB (cA (cB (cB k49)))))))))))) .no (k94.fill TB i) (k1d5 o nx2 nx1)
noncomputable def kv7 (o : k1k) (nx2 : HL TB.den k3q.hs → Prop) : An TB := .nd [] .no [] (.lp [] k94 (kew o nx2) fun nx1 => .no)
noncomputable def keo (o : k1k) (nx2 : HL TB.den k3q.hs → Prop) (i : HL TB.den k3q.hs) : Prop := WP TB k1s 149 0 (cA (cA (cB (cA (cB (cB k49)))))) (.nd [] .no [] (.nd [] (kv7 o nx2) [] .no)) (k3q.fill TB i) (km6 o nx2)
noncomputable def k1dg (o : k1k) : An TB := .lp [] k3q (keo o) fun nx2 => (.nd [] .no [] (.nd [] (kv7 o nx2) [] .no))
noncomputable def k1dj (o : k1k) : An TB := .nd [] (.nd [] .no [] (k1dg o)) [] (.nd [] (kvw o) [] (koe o))
noncomputable def kxv (o : k1k) : An TB := .nd [] .no [] (.nd [] .no [] (k1dj o))
noncomputable def kjj (x : k119) (o : k1k) : Prop := WPh TB k1s 149 0 k49 (kxv o) (k1d.st TB x) (retTQ TB k1s k1d k6g o)
set_option maxRecDepth 100000 in
theorem k1ci (o : k1k) : OblH TB k1s 149 0 k49 (kxv o) (retTQ TB k1s k1d k6g o) :=
  OblH.of_eq (X := (True ∧ ((True ∧ ((True ∧ True) ∧ True)) ∧ ((True ∧ ((∀ nx i, (keo o) nx i = (keo o) nx i) ∧ ∀ nx2 : HL TB.den k3q.hs → Prop, ((True ∧ (True ∧ True)) ∧ ((True ∧ ((∀ nx i, (kew o nx2) nx i = (kew o nx2) nx i) ∧ ∀ nx1 : HL TB.den k94.hs → Prop, ((True ∧ (True ∧ True)) ∧ ((True ∧ ((True ∧ True) ∧ True)) ∧ True)))) ∧ True)))) ∧ ((True ∧ ((∀ nx i, (kes o) nx i = (kes o) nx i) ∧ ∀ nx3 : HL TB.den k8k.hs → Prop, ((True ∧ (True ∧ True)) ∧ ((True ∧ (True ∧ ((True ∧ True) ∧ True))) ∧ True)))) ∧ ((True ∧ ((True ∧ True) ∧ True)) ∧ (∀ i, (kbb o) i = (kuq o) i) ∧ ((True ∧ ((True ∧ True) ∧ True)) ∧ (∀ i, (k7d o) i = (kvp o) i) ∧ ((True ∧ ((True ∧ True) ∧ True)) ∧ ((True ∧ ((True ∧ True) ∧ True)) ∧ (True ∧ True)))))))))) (by kernel_rfl) ⟨trivial, ⟨⟨trivial, ⟨⟨trivial, trivial⟩, trivial⟩⟩, ⟨⟨trivial, ⟨fun _ _ => rfl, fun _ => ⟨⟨trivial, ⟨trivial, trivial⟩⟩, ⟨⟨trivial, ⟨fun _ _ => rfl, fun _ => ⟨⟨trivial, ⟨trivial, trivial⟩⟩, ⟨⟨trivial, ⟨⟨trivial, trivial⟩, trivial⟩⟩, trivial⟩⟩⟩⟩, trivial⟩⟩⟩⟩, ⟨⟨trivial, ⟨fun _ _ => rfl, fun _ => ⟨⟨trivial, ⟨trivial, trivial⟩⟩, ⟨⟨trivial, ⟨trivial, ⟨⟨trivial, trivial⟩, trivial⟩⟩⟩, trivial⟩⟩⟩⟩, ⟨⟨trivial, ⟨⟨trivial, trivial⟩, trivial⟩⟩, fun _ => propext ⟨fun h => h.1, fun h => ⟨h⟩⟩, ⟨⟨trivial, ⟨⟨trivial, trivial⟩, trivial⟩⟩, fun _ => propext ⟨fun h => h.1, fun h => ⟨h⟩⟩, ⟨⟨trivial, ⟨⟨trivial, trivial⟩, trivial⟩⟩, ⟨⟨trivial, ⟨⟨trivial, trivial⟩, trivial⟩⟩, ⟨trivial, trivial⟩⟩⟩⟩⟩⟩⟩⟩⟩
set_option maxRecDepth 100000 in
theorem k1e4 {x : k119} {o : k1k} (h : kjj x o) : SoundH Try.prog k1d.f ((k1d.args idf x).map (er TB)) ((k1d.obs idf x).map (erO TB)) (er TB (k1d.val idf o)) ((k1d.ops idf o).map (erO TB)) :=
  Con.soundH (c := k1d) (C := k1s) TBok ⟨inf_ok, (all_cons k19h (all_cons k1i0 all_nil)), all_nil⟩ mix Try.func15 (show Try.f15.body = some k49 by kernel_rfl) (show Try.f15.ntmps = 149 by kernel_rfl) (show Try.f15.results.toList = k6g by kernel_rfl) rfl h (k1ci o)
set_option maxRecDepth 100000 in
theorem k1fi {p0 : TTx} {r0 : Int} (h :
((decide (4 < (p0.Marks.length : Int)) = true →
 1 = r0) ∧
(decide (4 < (p0.Marks.length : Int)) = false →
(decide (4 < (p0.Outs.length : Int)) = true →
 1 = r0) ∧
(decide (4 < (p0.Outs.length : Int)) = false →
(p0.Marks.length ≤ 9223372036854775807) ∧ let r1 : Bool := (p0.Marks.all (fun x => decide (x < 18446744069414584321)))
((!r1) = true →
 1 = r0) ∧
((!r1) = false →
([p0.Anchor, p0.Account, p0.Nonce].length ≤ 9223372036854775807) ∧ let r2 : Bool := ([p0.Anchor, p0.Account, p0.Nonce].all (fun x => decide (x < 18446744069414584321)))
((!r2) = true →
 1 = r0) ∧
((!r2) = false →
 Md.Loop ((0 : Int), p0.Anchor, p0.Marks, p0.Outs, p0.Deposit, p0.Withdraw, p0.Fee, p0.Account, p0.Nonce, p0.Expiry, p0.Proof, ()) (keo (r0, ())))))))) : kjj (p0.Anchor, p0.Marks, p0.Outs, p0.Deposit, p0.Withdraw, p0.Fee, p0.Account, p0.Nonce, p0.Expiry, p0.Proof, ()) (r0, ()) := WPh.of_eq (by kernel_rfl) h
set_option maxRecDepth 100000 in
theorem k16b {r0 : Int} {h0_0 : Int} {h0_1 : List Int} {h0_2 : List TOut} {h0_3 : Int} {h0_4 : Int} {h0_5 : Int} {h0_6 : Int} {h0_7 : Int} {h0_8 : Int} {h0_9 : List Int} (h :
(((h0_3 == 0) = true →
((h0_7 != 0) = true →
 1 = r0) ∧
((h0_7 != 0) = false →
(((h0_1.length : Int) == 0) = true →
 1 = r0) ∧
(((h0_1.length : Int) == 0) = false →
((h0_4 == 0) = true →
((h0_6 != 0) = true →
 1 = r0) ∧
((h0_6 != 0) = false →
 k7d (r0, ()) (h0_0, h0_1, h0_2, h0_3, h0_4, h0_5, h0_6, h0_7, h0_8, h0_9, ()))) ∧
((h0_4 == 0) = false →
 k7d (r0, ()) (h0_0, h0_1, h0_2, h0_3, h0_4, h0_5, h0_6, h0_7, h0_8, h0_9, ()))))) ∧
((h0_3 == 0) = false →
 k7d (r0, ()) (h0_0, h0_1, h0_2, h0_3, h0_4, h0_5, h0_6, h0_7, h0_8, h0_9, ())))) : kbb (r0, ()) (h0_0, h0_1, h0_2, h0_3, h0_4, h0_5, h0_6, h0_7, h0_8, h0_9, ()) := ⟨mpr_of (by kernel_rfl) h⟩
set_option maxRecDepth 100000 in
theorem k14y {r0 : Int} {h0_0 : Int} {h0_1 : List Int} {h0_2 : List TOut} {h0_3 : Int} {h0_4 : Int} {h0_5 : Int} {h0_6 : Int} {h0_7 : Int} {h0_8 : Int} {h0_9 : List Int} (h :
((decide (h0_8 < 0) = true →
 1 = r0) ∧
(decide (h0_8 < 0) = false →
(decide (1048576 < h0_8) = true →
 1 = r0) ∧
(decide (1048576 < h0_8) = false →
(decide (1048576 < (h0_9.length : Int)) = true →
 3 = r0) ∧
(decide (1048576 < (h0_9.length : Int)) = false →
 0 = r0))))) : k7d (r0, ()) (h0_0, h0_1, h0_2, h0_3, h0_4, h0_5, h0_6, h0_7, h0_8, h0_9, ()) := ⟨mpr_of (by kernel_rfl) h⟩
def kxe (r0 : Int) (nx2 : HL TB.den k3q.hs → Prop) (k2 : Int → Prop) (h0_0 : Int) (h0_1 : List Int) (h0_2 : List TOut) (h0_3 : Int) (h0_4 : Int) (h0_5 : Int) (h0_6 : Int) (h0_7 : Int) (h0_8 : Int) (h0_9 : List Int) (s3 : Int) : Prop :=
(decide (s3 < (h0_1.length : Int)) = true →
 Md.Loop (s3, (0 : Int), h0_0, h0_1, h0_2, h0_3, h0_4, h0_5, h0_6, h0_7, h0_8, h0_9, ()) (kew (r0, ()) nx2)) ∧
(decide (s3 < (h0_1.length : Int)) = false →
 Md.Loop ((0 : Int), h0_0, h0_1, h0_2, h0_3, h0_4, h0_5, h0_6, h0_7, h0_8, h0_9, ()) (kes (r0, ())))
set_option maxRecDepth 100000 in
theorem k1du {r0 : Int} {h0_0 : Int} {h0_1 : List Int} {h0_2 : List TOut} {h0_3 : Int} {h0_4 : Int} {h0_5 : Int} {h0_6 : Int} {h0_7 : Int} {h0_8 : Int} {h0_9 : List Int} {s3 : Int} (inv : Int → Prop) (μ : Int → Nat) (h0 : inv s3) (hs : ∀ (s3 : Int), inv s3 → kxe r0 (fun s : Int × Int × (List Int) × (List TOut) × Int × Int × Int × Int × Int × Int × (List Int) × Unit => ((s.2.1 = h0_0 ∧ s.2.2.1 = h0_1 ∧ s.2.2.2.1 = h0_2 ∧ s.2.2.2.2.1 = h0_3 ∧ s.2.2.2.2.2.1 = h0_4 ∧ s.2.2.2.2.2.2.1 = h0_5 ∧ s.2.2.2.2.2.2.2.1 = h0_6 ∧ s.2.2.2.2.2.2.2.2.1 = h0_7 ∧ s.2.2.2.2.2.2.2.2.2.1 = h0_8 ∧ s.2.2.2.2.2.2.2.2.2.2.1 = h0_9) ∧ inv s.1) ∧ μ s.1 < μ s3) (fun s3q => inv s3q ∧ μ s3q < μ s3) h0_0 h0_1 h0_2 h0_3 h0_4 h0_5 h0_6 h0_7 h0_8 h0_9 s3) : Md.Loop (s3, h0_0, h0_1, h0_2, h0_3, h0_4, h0_5, h0_6, h0_7, h0_8, h0_9, ()) (keo (r0, ())) :=
  ⟨⟨fun s : Int × Int × (List Int) × (List TOut) × Int × Int × Int × Int × Int × Int × (List Int) × Unit => (s.2.1 = h0_0 ∧ s.2.2.1 = h0_1 ∧ s.2.2.2.1 = h0_2 ∧ s.2.2.2.2.1 = h0_3 ∧ s.2.2.2.2.2.1 = h0_4 ∧ s.2.2.2.2.2.2.1 = h0_5 ∧ s.2.2.2.2.2.2.2.1 = h0_6 ∧ s.2.2.2.2.2.2.2.2.1 = h0_7 ∧ s.2.2.2.2.2.2.2.2.2.1 = h0_8 ∧ s.2.2.2.2.2.2.2.2.2.2.1 = h0_9) ∧ inv s.1, fun s : Int × Int × (List Int) × (List TOut) × Int × Int × Int × Int × Int × Int × (List Int) × Unit => μ s.1, ⟨⟨rfl, rfl, rfl, rfl, rfl, rfl, rfl, rfl, rfl, rfl⟩, h0⟩, fun (s3p, h0_0p, h0_1p, h0_2p, h0_3p, h0_4p, h0_5p, h0_6p, h0_7p, h0_8p, h0_9p, ()) ⟨⟨eq0, eq1, eq2, eq3, eq4, eq5, eq6, eq7, eq8, eq9⟩, hi⟩ => by
    have eq0 : h0_0p = h0_0 := eq0; subst h0_0p; have eq1 : h0_1p = h0_1 := eq1; subst h0_1p; have eq2 : h0_2p = h0_2 := eq2; subst h0_2p; have eq3 : h0_3p = h0_3 := eq3; subst h0_3p; have eq4 : h0_4p = h0_4 := eq4; subst h0_4p; have eq5 : h0_5p = h0_5 := eq5; subst h0_5p; have eq6 : h0_6p = h0_6 := eq6; subst h0_6p; have eq7 : h0_7p = h0_7 := eq7; subst h0_7p; have eq8 : h0_8p = h0_8 := eq8; subst h0_8p; have eq9 : h0_9p = h0_9 := eq9; subst h0_9p; exact mpr_of (by kernel_rfl) ((congrArg (fun k => kxe r0 (fun s : Int × Int × (List Int) × (List TOut) × Int × Int × Int × Int × Int × Int × (List Int) × Unit => ((s.2.1 = h0_0 ∧ s.2.2.1 = h0_1 ∧ s.2.2.2.1 = h0_2 ∧ s.2.2.2.2.1 = h0_3 ∧ s.2.2.2.2.2.1 = h0_4 ∧ s.2.2.2.2.2.2.1 = h0_5 ∧ s.2.2.2.2.2.2.2.1 = h0_6 ∧ s.2.2.2.2.2.2.2.2.1 = h0_7 ∧ s.2.2.2.2.2.2.2.2.2.1 = h0_8 ∧ s.2.2.2.2.2.2.2.2.2.2.1 = h0_9) ∧ inv s.1) ∧ μ s.1 < μ s3p) k h0_0 h0_1 h0_2 h0_3 h0_4 h0_5 h0_6 h0_7 h0_8 h0_9 s3p) (lpk1 (⟨rfl, rfl, rfl, rfl, rfl, rfl, rfl, rfl, rfl, rfl⟩ : h0_0 = h0_0 ∧ h0_1 = h0_1 ∧ h0_2 = h0_2 ∧ h0_3 = h0_3 ∧ h0_4 = h0_4 ∧ h0_5 = h0_5 ∧ h0_6 = h0_6 ∧ h0_7 = h0_7 ∧ h0_8 = h0_8 ∧ h0_9 = h0_9) inv (fun s3q => μ s3q < μ s3p))).mpr (hs s3p hi))⟩⟩
def kxg (r0 : Int) (nx2 : HL TB.den k3q.hs → Prop) (k1 : Int → Prop) (s3 : Int) (h0_0 : Int) (h0_1 : List Int) (h0_2 : List TOut) (h0_3 : Int) (h0_4 : Int) (h0_5 : Int) (h0_6 : Int) (h0_7 : Int) (h0_8 : Int) (h0_9 : List Int) (s4 : Int) : Prop :=
(decide (s4 < s3) = true →
(0 ≤ s3) ∧ s3 < (h0_1.length : Int) ∧ (0 ≤ s4) ∧ s4 < (h0_1.length : Int) ∧ (((ix h0_1 s3) == (ix h0_1 s4)) = true →
 1 = r0) ∧
(((ix h0_1 s3) == (ix h0_1 s4)) = false →
 k1 (IntKind.i64.wrap (s4 + 1) : Int))) ∧
(decide (s4 < s3) = false →
 nx2 ((IntKind.i64.wrap (s3 + 1) : Int), h0_0, h0_1, h0_2, h0_3, h0_4, h0_5, h0_6, h0_7, h0_8, h0_9, ()))
set_option maxRecDepth 100000 in
theorem k1bq {r0 : Int} {nx2 : HL TB.den k3q.hs → Prop} {s3 : Int} {h0_0 : Int} {h0_1 : List Int} {h0_2 : List TOut} {h0_3 : Int} {h0_4 : Int} {h0_5 : Int} {h0_6 : Int} {h0_7 : Int} {h0_8 : Int} {h0_9 : List Int} {s4 : Int} (inv : Int → Prop) (μ : Int → Nat) (h0 : inv s4) (hs : ∀ (s4 : Int), inv s4 → kxg r0 nx2 (fun s4q => inv s4q ∧ μ s4q < μ s4) s3 h0_0 h0_1 h0_2 h0_3 h0_4 h0_5 h0_6 h0_7 h0_8 h0_9 s4) : Md.Loop (s3, s4, h0_0, h0_1, h0_2, h0_3, h0_4, h0_5, h0_6, h0_7, h0_8, h0_9, ()) (kew (r0, ()) nx2) :=
  ⟨⟨fun s : Int × Int × Int × (List Int) × (List TOut) × Int × Int × Int × Int × Int × Int × (List Int) × Unit => (s.1 = s3 ∧ s.2.2.1 = h0_0 ∧ s.2.2.2.1 = h0_1 ∧ s.2.2.2.2.1 = h0_2 ∧ s.2.2.2.2.2.1 = h0_3 ∧ s.2.2.2.2.2.2.1 = h0_4 ∧ s.2.2.2.2.2.2.2.1 = h0_5 ∧ s.2.2.2.2.2.2.2.2.1 = h0_6 ∧ s.2.2.2.2.2.2.2.2.2.1 = h0_7 ∧ s.2.2.2.2.2.2.2.2.2.2.1 = h0_8 ∧ s.2.2.2.2.2.2.2.2.2.2.2.1 = h0_9) ∧ inv s.2.1, fun s : Int × Int × Int × (List Int) × (List TOut) × Int × Int × Int × Int × Int × Int × (List Int) × Unit => μ s.2.1, ⟨⟨rfl, rfl, rfl, rfl, rfl, rfl, rfl, rfl, rfl, rfl, rfl⟩, h0⟩, fun (s3p, s4p, h0_0p, h0_1p, h0_2p, h0_3p, h0_4p, h0_5p, h0_6p, h0_7p, h0_8p, h0_9p, ()) ⟨⟨eq0, eq1, eq2, eq3, eq4, eq5, eq6, eq7, eq8, eq9, eq10⟩, hi⟩ => by
    have eq0 : s3p = s3 := eq0; subst s3p; have eq1 : h0_0p = h0_0 := eq1; subst h0_0p; have eq2 : h0_1p = h0_1 := eq2; subst h0_1p; have eq3 : h0_2p = h0_2 := eq3; subst h0_2p; have eq4 : h0_3p = h0_3 := eq4; subst h0_3p; have eq5 : h0_4p = h0_4 := eq5; subst h0_4p; have eq6 : h0_5p = h0_5 := eq6; subst h0_5p; have eq7 : h0_6p = h0_6 := eq7; subst h0_6p; have eq8 : h0_7p = h0_7 := eq8; subst h0_7p; have eq9 : h0_8p = h0_8 := eq9; subst h0_8p; have eq10 : h0_9p = h0_9 := eq10; subst h0_9p; exact mpr_of (by kernel_rfl) ((congrArg (fun k => kxg r0 nx2 k s3 h0_0 h0_1 h0_2 h0_3 h0_4 h0_5 h0_6 h0_7 h0_8 h0_9 s4p) (lpk1 (⟨rfl, rfl, rfl, rfl, rfl, rfl, rfl, rfl, rfl, rfl, rfl⟩ : s3 = s3 ∧ h0_0 = h0_0 ∧ h0_1 = h0_1 ∧ h0_2 = h0_2 ∧ h0_3 = h0_3 ∧ h0_4 = h0_4 ∧ h0_5 = h0_5 ∧ h0_6 = h0_6 ∧ h0_7 = h0_7 ∧ h0_8 = h0_8 ∧ h0_9 = h0_9) inv (fun s4q => μ s4q < μ s4p))).mpr (hs s4p hi))⟩⟩
def kxf (r0 : Int) (k3 : Int → Prop) (h0_0 : Int) (h0_1 : List Int) (h0_2 : List TOut) (h0_3 : Int) (h0_4 : Int) (h0_5 : Int) (h0_6 : Int) (h0_7 : Int) (h0_8 : Int) (h0_9 : List Int) (s5 : Int) : Prop :=
(decide (s5 < (h0_2.length : Int)) = true →
(0 ≤ s5) ∧ s5 < (h0_2.length : Int) ∧ let v3 : Bool := decide (18446744069414584321 ≤ ((ix h0_2 s5).Commit))
(v3 = true →
 1 = r0) ∧
(v3 = false →
(0 ≤ (TA2.mk ((ix h0_2 s5).Point_a0) ((ix h0_2 s5).Point_a1)).a0 ∧ 0 ≤ (TA2.mk ((ix h0_2 s5).Point_a0) ((ix h0_2 s5).Point_a1)).a1) ∧ let r4 : Bool := (vPoint (TA2.mk ((ix h0_2 s5).Point_a0) ((ix h0_2 s5).Point_a1)).a0 (TA2.mk ((ix h0_2 s5).Point_a0) ((ix h0_2 s5).Point_a1)).a1)
((!r4) = true →
 1 = r0) ∧
((!r4) = false →
 let v5 : Bool := ((((ix h0_2 s5).Cipher).length : Int) != 3)
(v5 = true →
 1 = r0) ∧
(v5 = false →
(((ix h0_2 s5).Cipher).length ≤ 9223372036854775807) ∧ let r6 : Bool := (((ix h0_2 s5).Cipher).all (fun x => decide (x < 18446744069414584321)))
((!r6) = true →
 1 = r0) ∧
((!r6) = false →
 k3 (IntKind.i64.wrap (s5 + 1) : Int)))))) ∧
(decide (s5 < (h0_2.length : Int)) = false →
(decide (4294967295 < h0_3) = true →
 1 = r0) ∧
(decide (4294967295 < h0_3) = false →
(decide (4294967295 < h0_4) = true →
 1 = r0) ∧
(decide (4294967295 < h0_4) = false →
(decide (4294967295 < h0_5) = true →
 1 = r0) ∧
(decide (4294967295 < h0_5) = false →
(decide (0 < h0_3) = true →
(decide (0 < h0_4) = true →
 1 = r0) ∧
(decide (0 < h0_4) = false →
 kbb (r0, ()) (h0_0, h0_1, h0_2, h0_3, h0_4, h0_5, h0_6, h0_7, h0_8, h0_9, ()))) ∧
(decide (0 < h0_3) = false →
 kbb (r0, ()) (h0_0, h0_1, h0_2, h0_3, h0_4, h0_5, h0_6, h0_7, h0_8, h0_9, ()))))))
set_option maxRecDepth 100000 in
theorem k1dp {r0 : Int} {h0_0 : Int} {h0_1 : List Int} {h0_2 : List TOut} {h0_3 : Int} {h0_4 : Int} {h0_5 : Int} {h0_6 : Int} {h0_7 : Int} {h0_8 : Int} {h0_9 : List Int} {s5 : Int} (inv : Int → Prop) (μ : Int → Nat) (h0 : inv s5) (hs : ∀ (s5 : Int), inv s5 → kxf r0 (fun s5q => inv s5q ∧ μ s5q < μ s5) h0_0 h0_1 h0_2 h0_3 h0_4 h0_5 h0_6 h0_7 h0_8 h0_9 s5) : Md.Loop (s5, h0_0, h0_1, h0_2, h0_3, h0_4, h0_5, h0_6, h0_7, h0_8, h0_9, ()) (kes (r0, ())) :=
  ⟨⟨fun s : Int × Int × (List Int) × (List TOut) × Int × Int × Int × Int × Int × Int × (List Int) × Unit => (s.2.1 = h0_0 ∧ s.2.2.1 = h0_1 ∧ s.2.2.2.1 = h0_2 ∧ s.2.2.2.2.1 = h0_3 ∧ s.2.2.2.2.2.1 = h0_4 ∧ s.2.2.2.2.2.2.1 = h0_5 ∧ s.2.2.2.2.2.2.2.1 = h0_6 ∧ s.2.2.2.2.2.2.2.2.1 = h0_7 ∧ s.2.2.2.2.2.2.2.2.2.1 = h0_8 ∧ s.2.2.2.2.2.2.2.2.2.2.1 = h0_9) ∧ inv s.1, fun s : Int × Int × (List Int) × (List TOut) × Int × Int × Int × Int × Int × Int × (List Int) × Unit => μ s.1, ⟨⟨rfl, rfl, rfl, rfl, rfl, rfl, rfl, rfl, rfl, rfl⟩, h0⟩, fun (s5p, h0_0p, h0_1p, h0_2p, h0_3p, h0_4p, h0_5p, h0_6p, h0_7p, h0_8p, h0_9p, ()) ⟨⟨eq0, eq1, eq2, eq3, eq4, eq5, eq6, eq7, eq8, eq9⟩, hi⟩ => by
    have eq0 : h0_0p = h0_0 := eq0; subst h0_0p; have eq1 : h0_1p = h0_1 := eq1; subst h0_1p; have eq2 : h0_2p = h0_2 := eq2; subst h0_2p; have eq3 : h0_3p = h0_3 := eq3; subst h0_3p; have eq4 : h0_4p = h0_4 := eq4; subst h0_4p; have eq5 : h0_5p = h0_5 := eq5; subst h0_5p; have eq6 : h0_6p = h0_6 := eq6; subst h0_6p; have eq7 : h0_7p = h0_7 := eq7; subst h0_7p; have eq8 : h0_8p = h0_8 := eq8; subst h0_8p; have eq9 : h0_9p = h0_9 := eq9; subst h0_9p; exact mpr_of (by kernel_rfl) ((congrArg (fun k => kxf r0 k h0_0 h0_1 h0_2 h0_3 h0_4 h0_5 h0_6 h0_7 h0_8 h0_9 s5p) (lpk1 (⟨rfl, rfl, rfl, rfl, rfl, rfl, rfl, rfl, rfl, rfl⟩ : h0_0 = h0_0 ∧ h0_1 = h0_1 ∧ h0_2 = h0_2 ∧ h0_3 = h0_3 ∧ h0_4 = h0_4 ∧ h0_5 = h0_5 ∧ h0_6 = h0_6 ∧ h0_7 = h0_7 ∧ h0_8 = h0_8 ∧ h0_9 = h0_9) inv (fun s5q => μ s5q < μ s5p))).mpr (hs s5p hi))⟩⟩
theorem bd15 : Callable Try.prog 15 := ⟨by rw [Try.func15]; kernel_rfl, by rw [Try.func15]; show some _ ≠ some _; decide⟩
theorem k1a0 (p0 : TTx) (h : TR p0 ∧ TL p0) : kjj (p0.Anchor, p0.Marks, p0.Outs, p0.Deposit, p0.Withdraw, p0.Fee, p0.Account, p0.Nonce, p0.Expiry, p0.Proof, ()) (((validE p0) : Int), ()) := by
  obtain ⟨hr, hl⟩ := h
  have e3 : [p0.Anchor, p0.Account, p0.Nonce].all (fun x => decide (x < 18446744069414584321)) = (decide (p0.Anchor < 18446744069414584321) && (decide (p0.Account < 18446744069414584321) && decide (p0.Nonce < 18446744069414584321))) := by simp
  have bad : (vMarks p0.Marks && vOuts p0.Outs && vAmounts p0 && vRest p0) = false → 1 = validE p0 := by intro h; unfold validE; rw [h]; rfl
  have badM : vMarks p0.Marks = false → 1 = validE p0 := fun h => bad (by rw [h]; rfl)
  have badO : vOuts p0.Outs = false → 1 = validE p0 := fun h => bad (by rw [h]; simp)
  have badA : vAmounts p0 = false → 1 = validE p0 := fun h => bad (by rw [h]; simp)
  have badR : vRest p0 = false → 1 = validE p0 := fun h => bad (by rw [h]; simp)
  refine k1fi ⟨fun h => badM ?_, fun h => ⟨fun h2 => badO ?_, fun h2 => ⟨by have := hl.m; omega, fun h3 => badM ?_, fun h3 => ⟨by simp, fun h4 => ?_, fun h4 => ?_⟩⟩⟩⟩
  · have h := of_decide_eq_true h
    unfold vMarks
    rw [decide_eq_false (by omega)]
    rfl
  · have h2 := of_decide_eq_true h2
    unfold vOuts
    rw [decide_eq_false (by omega)]
    rfl
  · have h3 : p0.Marks.all (fun x => decide (x < 18446744069414584321)) = false := by simpa using h3
    unfold vMarks
    rw [h3]
    simp
  · rw [e3] at h4
    have : vAmounts p0 = false ∨ vRest p0 = false := by
      unfold vAmounts vRest
      grind
    exact this.elim badA badR
  have h := of_decide_eq_false h
  have h2 := of_decide_eq_false h2
  have h3 : p0.Marks.all (fun x => decide (x < 18446744069414584321)) = true := by simpa using h3
  have h4 : [p0.Anchor, p0.Account, p0.Nonce].all (fun x => decide (x < 18446744069414584321)) = true := by
    cases hq : [p0.Anchor, p0.Account, p0.Nonce].all (fun x => decide (x < 18446744069414584321))
    · rw [hq] at h4; simp at h4
    · rfl
  rw [e3] at h4
  simp only [Bool.and_eq_true, decide_eq_true_eq] at h4
  obtain ⟨a1, a2, a3⟩ := h4
  refine k1du (fun i => 0 ≤ i ∧ i ≤ p0.Marks.length ∧ (p0.Marks.take i.toNat).Nodup) (fun i => (p0.Marks.length - i).toNat) ⟨by omega, by omega, by simp⟩ ?_
  rintro i ⟨g0, g1, g2⟩
  refine ⟨fun hh => ?_, fun hh => ?_⟩
  · have hh := of_decide_eq_true hh
    refine k1bq (fun k => 0 ≤ k ∧ k ≤ i ∧ ∀ x ∈ p0.Marks.take k.toNat, x ≠ ix p0.Marks i) (fun k => (i - k).toNat) ⟨by omega, by omega, by simp⟩ ?_
    rintro k ⟨k0, k1, k2⟩
    refine ⟨fun hk => ?_, fun hk => ?_⟩
    · have hk := of_decide_eq_true hk
      refine ⟨g0, hh, k0, by omega, fun e => badM ?_, fun e => ?_⟩
      · have e : ix p0.Marks i = ix p0.Marks k := by simpa using e
        have : ¬ p0.Marks.Nodup := by
          intro hn
          rw [ix_nat _ i g0 hh, ix_nat _ k k0 (by omega)] at e
          have := (List.getElem_inj hn).1 e
          omega
        unfold vMarks
        rw [decide_eq_false this]
        simp
      · have e : ¬ ix p0.Marks i = ix p0.Marks k := by simpa using e
        rw [inc k i k0 hk (by omega)]
        refine ⟨⟨by omega, by omega, ?_⟩, by omega⟩
        rw [ka p0.Marks k k0 (by omega)]
        intro x hx
        rcases List.mem_append.1 hx with hx | hx
        · exact k2 x hx
        · have : x = ix p0.Marks k := by simpa using hx
          rw [this]; exact fun e' => e e'.symm
    · have hk := of_decide_eq_false hk
      have hki : k = i := by omega
      subst hki
      have nxt : (0 ≤ k + 1 ∧ k + 1 ≤ p0.Marks.length ∧ (p0.Marks.take (k + 1).toNat).Nodup) ∧ (p0.Marks.length - (k + 1)).toNat < (p0.Marks.length - k).toNat := by
        refine ⟨⟨by omega, by omega, ?_⟩, by omega⟩
        rw [ka p0.Marks k g0 hh]
        refine List.nodup_append.2 ⟨g2, by simp, fun a ha b hb => ?_⟩
        have : b = ix p0.Marks k := by simpa using hb
        rw [this]; exact k2 a ha
      have hi := inc k p0.Marks.length g0 hh (by omega)
      rw [hi]
      exact ⟨⟨⟨rfl, rfl, rfl, rfl, rfl, rfl, rfl, rfl, rfl, rfl⟩, nxt.1⟩, nxt.2⟩
  · have hh := of_decide_eq_false hh
    rw [List.take_of_length_le (by omega)] at g2
    have vm : vMarks p0.Marks = true := by
      unfold vMarks
      rw [h3, decide_eq_true g2, decide_eq_true (by omega)]
      rfl
    have j2 : vOuts p0.Outs = true → vAmounts p0 = true → k7d ((validE p0 : Int), ()) (p0.Anchor, p0.Marks, p0.Outs, p0.Deposit, p0.Withdraw, p0.Fee, p0.Account, p0.Nonce, p0.Expiry, p0.Proof, ()) := by
      intro vo va
      refine k14y ⟨fun e => badR ?_, fun e => ⟨fun e2 => badR ?_, fun e2 => ?_⟩⟩
      · have e := of_decide_eq_true e
        unfold vRest
        rw [decide_eq_false (p := 0 ≤ p0.Expiry) (by omega)]
        simp
      · have e2 := of_decide_eq_true e2
        unfold vRest
        rw [decide_eq_false (p := p0.Expiry ≤ 1048576) (by omega)]
        simp
      · have e := of_decide_eq_false e
        have e2 := of_decide_eq_false e2
        have vr : vRest p0 = true := by
          unfold vRest
          rw [decide_eq_true a1, decide_eq_true (p := 0 ≤ p0.Expiry) (by omega), decide_eq_true (p := p0.Expiry ≤ 1048576) (by omega)]
          rfl
        unfold validE
        rw [vm, vo, va, vr]
        refine ⟨fun e => ?_, fun e => ?_⟩
        · have e := of_decide_eq_true e
          simp; omega
        · have e := of_decide_eq_false e
          simp; omega
    have j1 : vOuts p0.Outs = true → p0.Deposit ≤ 4294967295 → p0.Withdraw ≤ 4294967295 → p0.Fee ≤ 4294967295 → (0 < p0.Deposit → p0.Withdraw = 0) → kbb ((validE p0 : Int), ()) (p0.Anchor, p0.Marks, p0.Outs, p0.Deposit, p0.Withdraw, p0.Fee, p0.Account, p0.Nonce, p0.Expiry, p0.Proof, ()) := by
      intro vo d1 d2 d3 d4
      have hd := hr.d
      have hw := hr.w
      have fA : ¬ (p0.Deposit ≤ 4294967295 ∧ p0.Withdraw ≤ 4294967295 ∧ p0.Fee ≤ 4294967295 ∧ p0.Account < 18446744069414584321 ∧ p0.Nonce < 18446744069414584321 ∧ (0 < p0.Deposit → p0.Withdraw = 0) ∧ (¬ 0 < p0.Deposit → p0.Marks ≠ [] ∧ p0.Nonce = 0 ∧ (0 < p0.Withdraw ∨ p0.Account = 0))) → 1 = validE p0 := fun h => badA (Bool.eq_false_iff.2 fun h' => h ((kav p0).1 h'))
      refine k16b ⟨fun e => ⟨fun e2 => fA ?_, fun e2 => ⟨fun e3 => fA ?_, fun e3 => ⟨fun e4 => ⟨fun e5 => fA ?_, fun e5 => j2 vo ((kav p0).2 ?_)⟩, fun e4 => j2 vo ((kav p0).2 ?_)⟩⟩⟩, fun e => j2 vo ((kav p0).2 ?_)⟩
      all_goals simp only [beq_iff_eq, bne_iff_ne, beq_eq_false_iff_ne, bne_eq_false_iff_eq, Int.natCast_eq_zero, List.length_eq_zero_iff] at *
      · exact fun h => by have := h.2.2.2.2.2.2 (by omega); omega
      · exact fun h => (h.2.2.2.2.2.2 (by omega)).1 e3
      · exact fun h => by have := (h.2.2.2.2.2.2 (by omega)).2.2; omega
      · exact ⟨d1, d2, d3, a2, a3, d4, fun _ => ⟨fun hq => e3 (by rw [hq]; rfl), e2, .inr e5⟩⟩
      · exact ⟨d1, d2, d3, a2, a3, d4, fun _ => ⟨fun hq => e3 (by rw [hq]; rfl), e2, .inl (by omega)⟩⟩
      · exact ⟨d1, d2, d3, a2, a3, d4, fun h => by omega⟩
    refine k1dp (fun i => 0 ≤ i ∧ i ≤ p0.Outs.length ∧ ∀ x ∈ p0.Outs.take i.toNat, vOut x = true) (fun i => (p0.Outs.length - i).toNat) ⟨by omega, by omega, by simp⟩ ?_
    rintro i ⟨g0, g1, g2⟩
    refine ⟨fun hh => ?_, fun hh => ?_⟩
    · have hh := of_decide_eq_true hh
      have hx := hr.o _ (ix_mem p0.Outs i g0 hh)
      have hlc := hl.c _ (ix_mem p0.Outs i g0 hh)
      have bd : vOut (ix p0.Outs i) = false → 1 = validE p0 := by
        intro hb
        refine badO ?_
        unfold vOuts
        have : p0.Outs.all vOut = false := List.all_eq_false.2 ⟨_, ix_mem p0.Outs i g0 hh, by simp [hb]⟩
        rw [this]
        simp
      unfold vOut at bd
      refine ⟨g0, hh, fun e => bd ?_, fun e => ⟨⟨hx.p0.1, hx.p1.1⟩, fun e2 => bd ?_, fun e2 => ⟨fun e3 => bd ?_, fun e3 => ⟨by omega, fun e4 => bd ?_, fun e4 => ?_⟩⟩⟩⟩
      · have e := of_decide_eq_true e
        rw [decide_eq_false (by omega)]
        rfl
      · have e2 : vPoint (ix p0.Outs i).Point_a0 (ix p0.Outs i).Point_a1 = false := by simpa using e2
        simp [e2]
      · have e3 : ¬ ((ix p0.Outs i).Cipher.length : Int) = 3 := by simpa using e3
        have e3 : ¬ (ix p0.Outs i).Cipher.length = 3 := by omega
        simp [e3]
      · have e4 : (ix p0.Outs i).Cipher.all (fun x => decide (x < 18446744069414584321)) = false := by
          cases hq : (ix p0.Outs i).Cipher.all (fun x => decide (x < 18446744069414584321))
          · rfl
          · rw [hq] at e4; simp at e4
        rw [e4]
        simp
      · have e := of_decide_eq_false e
        have e2 : vPoint (ix p0.Outs i).Point_a0 (ix p0.Outs i).Point_a1 = true := by simpa using e2
        have e3 : ((ix p0.Outs i).Cipher.length : Int) = 3 := by simpa using e3
        have e4 : (ix p0.Outs i).Cipher.all (fun x => decide (x < 18446744069414584321)) = true := by
          cases hq : (ix p0.Outs i).Cipher.all (fun x => decide (x < 18446744069414584321))
          · rw [hq] at e4; simp at e4
          · rfl
        have hv : vOut (ix p0.Outs i) = true := (ktd _).2 ⟨by omega, e2, by omega, by simpa using e4⟩
        rw [inc i p0.Outs.length g0 hh (by omega)]
        refine ⟨⟨by omega, by omega, ?_⟩, by omega⟩
        rw [ka p0.Outs i g0 hh]
        intro x hx
        rcases List.mem_append.1 hx with hx | hx
        · exact g2 x hx
        · have : x = ix p0.Outs i := by simpa using hx
          rw [this]; exact hv
    · have hh := of_decide_eq_false hh
      rw [List.take_of_length_le (by omega)] at g2
      have vo : vOuts p0.Outs = true := by
        unfold vOuts
        have : p0.Outs.all vOut = true := by simpa using g2
        rw [this, decide_eq_true (by omega)]
        rfl
      have hd := hr.d
      have hw := hr.w
      have fA : ¬ (p0.Deposit ≤ 4294967295 ∧ p0.Withdraw ≤ 4294967295 ∧ p0.Fee ≤ 4294967295 ∧ (0 < p0.Deposit → p0.Withdraw = 0)) → 1 = validE p0 := fun h => badA (Bool.eq_false_iff.2 fun h' => h (by have := (kav p0).1 h'; exact ⟨this.1, this.2.1, this.2.2.1, this.2.2.2.2.2.1⟩))
      refine ⟨fun e => fA ?_, fun e => ⟨fun e2 => fA ?_, fun e2 => ⟨fun e3 => fA ?_, fun e3 => ⟨fun e4 => ⟨fun e5 => fA ?_, fun e5 => j1 vo ?_ ?_ ?_ ?_⟩, fun e4 => j1 vo ?_ ?_ ?_ ?_⟩⟩⟩⟩
      all_goals simp only [decide_eq_true_eq, decide_eq_false_iff_not] at *
      all_goals omega
noncomputable def kls : Con TB.den := k1d.fnR (fun x => (fun (p0 : TTx) => TR p0 ∧ TL p0) (TTx.mk x.1 x.2.1 x.2.2.1 x.2.2.2.1 x.2.2.2.2.1 x.2.2.2.2.2.1 x.2.2.2.2.2.2.1 x.2.2.2.2.2.2.2.1 x.2.2.2.2.2.2.2.2.1 x.2.2.2.2.2.2.2.2.2.1)) fun x => ((fun (p0 : TTx) => ((validE p0) : Int)) (TTx.mk x.1 x.2.1 x.2.2.1 x.2.2.2.1 x.2.2.2.2.1 x.2.2.2.2.2.1 x.2.2.2.2.2.2.1 x.2.2.2.2.2.2.2.1 x.2.2.2.2.2.2.2.2.1 x.2.2.2.2.2.2.2.2.2.1), ())
theorem kxt : kls.Ok Try.prog TB := Con.ok_fn k1d bd15 fun x h => k1e4 (k1a0 (TTx.mk x.1 x.2.1 x.2.2.1 x.2.2.2.1 x.2.2.2.2.1 x.2.2.2.2.2.1 x.2.2.2.2.2.2.1 x.2.2.2.2.2.2.2.1 x.2.2.2.2.2.2.2.2.1 x.2.2.2.2.2.2.2.2.2.1) h)
end Go.Proofs.Ytnmakgfmimagmaa
namespace Go.Proofs.Ytnmakgfmimagmaa
open Go Go.Bv Go.Cv Go.Md Go.RowKit
def k54 : Con TB.den := Con.mk0 42 [.agg [.d (.int .u64), .d (.sl (.int .u64)), .d (.sl (.st 0)), .d (.int .u64), .d (.int .u64), .d (.int .u64), .d (.int .u64), .d (.int .u64), .d (.int .i64), .d (.sl (.int .u8))]] [] (.one (.one (.d (.int .u64)))) []
abbrev k1ha := HL TB.den (hsT k54.ins (hsOs k54.pre))
abbrev kti := HL TB.den (hsV k54.res (hsOs k54.post))
noncomputable def klk : Cx TB := ⟨inf, [kls, kch, kah], [], 4, []⟩
noncomputable def kqm : Code := Try.f42.body.getD .skip
noncomputable def kyx : List ResultVar := Try.f42.results.toList
noncomputable def k1at (o : kti) : An TB := .no
noncomputable def kql (x : k1ha) (o : kti) : Prop := WPh TB klk 9 0 kqm (k1at o) (k54.st TB x) (retTQ TB klk k54 kyx o)
set_option maxRecDepth 100000 in
theorem k1kc (o : kti) : OblH TB klk 9 0 kqm (k1at o) (retTQ TB klk k54 kyx o) :=
  OblH.of_eq (X := (True ∧ ((True ∧ ((True ∧ True) ∧ True)) ∧ (True ∧ True)))) (by kernel_rfl) ⟨trivial, ⟨⟨trivial, ⟨⟨trivial, trivial⟩, trivial⟩⟩, ⟨trivial, trivial⟩⟩⟩
set_option maxRecDepth 100000 in
theorem k1jw {x : k1ha} {o : kti} (h : kql x o) : SoundH Try.prog k54.f ((k54.args idf x).map (er TB)) ((k54.obs idf x).map (erO TB)) (er TB (k54.val idf o)) ((k54.ops idf o).map (erO TB)) :=
  Con.soundH (c := k54) (C := klk) TBok ⟨inf_ok, (all_cons kxt (all_cons khs (all_cons kgx all_nil))), all_nil⟩ mix Try.func42 (show Try.f42.body = some kqm by kernel_rfl) (show Try.f42.ntmps = 9 by kernel_rfl) (show Try.f42.results.toList = kyx by kernel_rfl) rfl h (k1kc o)
set_option maxRecDepth 100000 in
theorem k1la {p0 : TTx} {r0 : Int} (h :
((TR p0 ∧ TL p0) ∧ (((validE p0) != 0) = true →
 0 = r0) ∧
(((validE p0) != 0) = false →
(TR p0 ∧ TL p0 ∧ p0.Outs.length ≤ 1048576 ∧ (∀ x ∈ p0.Outs, x.Cipher.length ≤ 1024)) ∧ (U64 (14 : Int) ∧ By (encT p0 p0.Proof) ∧ (encT p0 p0.Proof).length ≤ 1099511627775) ∧ (hashB (14 : Int) (encT p0 p0.Proof)) = r0))) : kql (p0.Anchor, p0.Marks, p0.Outs, p0.Deposit, p0.Withdraw, p0.Fee, p0.Account, p0.Nonce, p0.Expiry, p0.Proof, ()) (r0, ()) := WPh.of_eq (by kernel_rfl) h
theorem bd42 : Callable Try.prog 42 := ⟨by rw [Try.func42]; kernel_rfl, by rw [Try.func42]; show some _ ≠ some _; decide⟩
theorem k1is (p0 : TTx) (h : TR p0 ∧ TL p0) : kql (p0.Anchor, p0.Marks, p0.Outs, p0.Deposit, p0.Withdraw, p0.Fee, p0.Account, p0.Nonce, p0.Expiry, p0.Proof, ()) (((idS p0) : Int), ()) := by
  obtain ⟨hr, hl⟩ := h
  refine k1la ⟨⟨hr, hl⟩, fun e => ?_, fun e => ?_⟩
  · have e : ¬ validE p0 = 0 := by simpa using e
    unfold idS
    rw [if_neg e]
  · have e : validE p0 = 0 := by simpa using e
    have v := (k71 p0).1 e
    unfold idS
    rw [if_pos e]
    exact ⟨v.bl hr, ⟨by decide, encT_by hr.p, encT_le v⟩, rfl⟩
noncomputable def k170 : Con TB.den := k54.fnR (fun x => (fun (p0 : TTx) => TR p0 ∧ TL p0) (TTx.mk x.1 x.2.1 x.2.2.1 x.2.2.2.1 x.2.2.2.2.1 x.2.2.2.2.2.1 x.2.2.2.2.2.2.1 x.2.2.2.2.2.2.2.1 x.2.2.2.2.2.2.2.2.1 x.2.2.2.2.2.2.2.2.2.1)) fun x => ((fun (p0 : TTx) => ((idS p0) : Int)) (TTx.mk x.1 x.2.1 x.2.2.1 x.2.2.2.1 x.2.2.2.2.1 x.2.2.2.2.2.1 x.2.2.2.2.2.2.1 x.2.2.2.2.2.2.2.1 x.2.2.2.2.2.2.2.2.1 x.2.2.2.2.2.2.2.2.2.1), ())
theorem k1lg : k170.Ok Try.prog TB := Con.ok_fn k54 bd42 fun x h => k1jw (k1is (TTx.mk x.1 x.2.1 x.2.2.1 x.2.2.2.1 x.2.2.2.2.1 x.2.2.2.2.2.1 x.2.2.2.2.2.2.1 x.2.2.2.2.2.2.2.1 x.2.2.2.2.2.2.2.2.1 x.2.2.2.2.2.2.2.2.2.1) h)
end Go.Proofs.Ytnmakgfmimagmaa
namespace Go.Proofs.Ytnmakgfmimagmaa
open Go Go.Bv Go.Cv Go.Md Go.RowKit
theorem bd41 : Callable Try.prog 41 := ⟨by rw [Try.func41]; kernel_rfl, by rw [Try.func41]; show some _ ≠ some _; decide⟩
end Go.Proofs.Ytnmakgfmimagmaa
namespace Go.Proofs.Ytnmakgfmimagmaa
open Go Go.Bv Go.Cv Go.Md Go.RowKit
def k1x : Con TB.den := Con.mk0 41 [.agg [.d (.int .u64), .d (.int .i64), .d (.int .u64), .d (.int .u64), .d (.int .u64), .d (.sl (.st 1))]] [] (.one (.one (.own 0))) [.tip (.int .u8)]
abbrev krw := HL TB.den (hsT k1x.ins (hsOs k1x.pre))
abbrev kf5 := HL TB.den (hsV k1x.res (hsOs k1x.post))
noncomputable def k9j : Cx TB := ⟨inf, [kbz, kqj], [], 4, []⟩
noncomputable def kfn : Code := Try.f41.body.getD .skip
noncomputable def khq : List ResultVar := Try.f41.results.toList
noncomputable def kq7 (o : kf5) : An TB := .no
noncomputable def kfw (x : krw) (o : kf5) : Prop := WPh TB k9j 33 0 kfn (kq7 o) (k1x.st TB x) (retTQ TB k9j k1x khq o)
set_option maxRecDepth 100000 in
theorem k131 (o : kf5) : OblH TB k9j 33 0 kfn (kq7 o) (retTQ TB k9j k1x khq o) :=
  OblH.of_eq (X := (True ∧ (True ∧ (True ∧ (True ∧ (True ∧ (True ∧ (True ∧ True)))))))) (by kernel_rfl) ⟨trivial, ⟨trivial, ⟨trivial, ⟨trivial, ⟨trivial, ⟨trivial, ⟨trivial, trivial⟩⟩⟩⟩⟩⟩⟩
set_option maxRecDepth 100000 in
theorem k12e {x : krw} {o : kf5} (h : kfw x o) : SoundH Try.prog k1x.f ((k1x.args idf x).map (er TB)) ((k1x.obs idf x).map (erO TB)) (er TB (k1x.val idf o)) ((k1x.ops idf o).map (erO TB)) :=
  Con.soundH (c := k1x) (C := k9j) TBok ⟨inf_ok, (all_cons kii (all_cons k169 all_nil)), all_nil⟩ mix Try.func41 (show Try.f41.body = some kfn by kernel_rfl) (show Try.f41.ntmps = 33 by kernel_rfl) (show Try.f41.results.toList = khq by kernel_rfl) rfl h (k131 o)
set_option maxRecDepth 100000 in
theorem k16l {p0 : TBlock} {e0 : List Int} (h :
((U64 p0.Parent ∧ 0 ≤ (8 : Int) ∧ (8 : Int) ≤ 8) ∧ (dig (8 : Int).toNat p0.Parent).length = (dig (8 : Int).toNat p0.Parent).length ∧ ((dig (8 : Int).toNat p0.Parent).length + (dig 4 (len4 p0.Height)).length) * 1 ≤ 140737488355328 ∧ (dig (8 : Int).toNat p0.Parent).length + (dig 4 (len4 p0.Height)).length ≤ maxLen ∧ let v1 : List Int := (dig (8 : Int).toNat p0.Parent) ++ (dig 4 (len4 p0.Height))
(U64 p0.Miner ∧ 0 ≤ (8 : Int) ∧ (8 : Int) ≤ 8) ∧ v1.length = v1.length ∧ (v1.length + (dig (8 : Int).toNat p0.Miner).length) * 1 ≤ 140737488355328 ∧ v1.length + (dig (8 : Int).toNat p0.Miner).length ≤ maxLen ∧ (U64 p0.Work ∧ 0 ≤ (8 : Int) ∧ (8 : Int) ≤ 8) ∧ (v1 ++ (dig (8 : Int).toNat p0.Miner)).length = (v1 ++ (dig (8 : Int).toNat p0.Miner)).length ∧ ((v1 ++ (dig (8 : Int).toNat p0.Miner)).length + (dig (8 : Int).toNat p0.Work).length) * 1 ≤ 140737488355328 ∧ (v1 ++ (dig (8 : Int).toNat p0.Miner)).length + (dig (8 : Int).toNat p0.Work).length ≤ maxLen ∧ let v2 : List Int := (v1 ++ (dig (8 : Int).toNat p0.Miner)) ++ (dig (8 : Int).toNat p0.Work)
(U64 p0.Nonce ∧ 0 ≤ (8 : Int) ∧ (8 : Int) ≤ 8) ∧ v2.length = v2.length ∧ (v2.length + (dig (8 : Int).toNat p0.Nonce).length) * 1 ≤ 140737488355328 ∧ v2.length + (dig (8 : Int).toNat p0.Nonce).length ≤ maxLen ∧ (v2 ++ (dig (8 : Int).toNat p0.Nonce)).length = (v2 ++ (dig (8 : Int).toNat p0.Nonce)).length ∧ ((v2 ++ (dig (8 : Int).toNat p0.Nonce)).length + (dig 4 (len4 (p0.Txs.length : Int))).length) * 1 ≤ 140737488355328 ∧ (v2 ++ (dig (8 : Int).toNat p0.Nonce)).length + (dig 4 (len4 (p0.Txs.length : Int))).length ≤ maxLen ∧ let v3 : List Int := (v2 ++ (dig (8 : Int).toNat p0.Nonce)) ++ (dig 4 (len4 (p0.Txs.length : Int)))
(v3 = v3) ∧ v3 = e0)) : kfw (p0.Parent, p0.Height, p0.Miner, p0.Work, p0.Nonce, p0.Txs, ()) (e0, ()) := WPh.of_eq (by kernel_rfl) h
theorem kze (p0 : TBlock) (h : BR p0 ∧ p0.Txs.length ≤ 64) : kfw (p0.Parent, p0.Height, p0.Miner, p0.Work, p0.Nonce, p0.Txs, ()) (((hdrS p0) : List Int), ()) := by
  obtain ⟨hr, hl⟩ := h
  refine k16l ?_
  have e8 : (8 : Int).toNat = 8 := rfl
  simp [maxLen, hdrS, e8]
  exact ⟨hr.p, hr.m, hr.w, hr.n⟩
noncomputable def knj : Con TB.den := k1x.fnR (fun x => (fun (p0 : TBlock) => BR p0 ∧ p0.Txs.length ≤ 64) (TBlock.mk x.1 x.2.1 x.2.2.1 x.2.2.2.1 x.2.2.2.2.1 x.2.2.2.2.2.1)) fun x => ((fun (p0 : TBlock) => ((hdrS p0) : List Int)) (TBlock.mk x.1 x.2.1 x.2.2.1 x.2.2.2.1 x.2.2.2.2.1 x.2.2.2.2.2.1), ())
theorem k16r : knj.Ok Try.prog TB := Con.ok_fn k1x bd41 fun x h => k12e (kze (TBlock.mk x.1 x.2.1 x.2.2.1 x.2.2.2.1 x.2.2.2.2.1 x.2.2.2.2.2.1) h)
end Go.Proofs.Ytnmakgfmimagmaa
namespace Go.Proofs.Ytnmakgfmimagmaa
open Go Go.Bv Go.Cv Go.Md Go.RowKit
def k2i : Con TB.den := Con.mk0 21 [.agg [.d (.int .u64), .d (.int .i64), .d (.int .u64), .d (.int .u64), .d (.int .u64), .d (.sl (.st 1))]] [] (.one (.one (.d (.sl (.int .u8))))) []
abbrev k114 := HL TB.den (hsT k2i.ins (hsOs k2i.pre))
abbrev k86 := HL TB.den (hsV k2i.res (hsOs k2i.post))
noncomputable def k6i : Cx TB := ⟨inf, [knj, k170, kf8], [], 4, []⟩
noncomputable def kax : Code := Try.f21.body.getD .skip
noncomputable def kdm : List ResultVar := Try.f21.results.toList
noncomputable def k1hi (o : k86) : Exit → TSt TB.den → Prop := thenT TB (fun s => ghs TB [] s fun s => WP TB k6i 24 0 (cB (cB (cB kax))) .no s (retTQ TB k6i k2i kdm o)) (retTQ TB k6i k2i kdm o)
def k9a : Tm := ⟨[0, 1], [.cells [.d (.int .u64), .d (.int .i64), .d (.int .u64), .d (.int .u64), .d (.int .u64), .d (.sl (.st 1))], .tip (.int .u8)], [1, 3, 4], [.one (.ptr 0 0), .one (.own 1), .one (.d (.int .i64))], 2⟩
noncomputable def k1h1 (o : k86) (nx1 : HL TB.den k9a.hs → Prop) : Exit → TSt TB.den → Prop := thenT TB (fun s => k9a.mat TB 0 s nx1) (blockT TB 0 (k1hi o))
noncomputable def kdo (o : k86) (nx1 : HL TB.den k9a.hs → Prop) (i : HL TB.den k9a.hs) : Prop := WP TB k6i 24 0 (cA (cA (cB (cA (cB (cB kax)))))) .no (k9a.fill TB i) (k1h1 o nx1)
noncomputable def k1g5 (o : k86) : An TB := .nd [] .no [] (.lp [] k9a (kdo o) fun nx1 => .no)
noncomputable def kz1 (o : k86) : An TB := .nd [] .no [] (.nd [] .no [] (.nd [] (k1g5 o) [] .no))
noncomputable def kk5 (x : k114) (o : k86) : Prop := WPh TB k6i 24 0 kax (kz1 o) (k2i.st TB x) (retTQ TB k6i k2i kdm o)
set_option maxRecDepth 100000 in
theorem k1bl (o : k86) : OblH TB k6i 24 0 kax (kz1 o) (retTQ TB k6i k2i kdm o) :=
  OblH.of_eq (X := (True ∧ (True ∧ ((True ∧ ((∀ nx i, (kdo o) nx i = (kdo o) nx i) ∧ ∀ nx1 : HL TB.den k9a.hs → Prop, ((True ∧ (True ∧ True)) ∧ (True ∧ True)))) ∧ (True ∧ True))))) (by kernel_rfl) ⟨trivial, ⟨trivial, ⟨⟨trivial, ⟨fun _ _ => rfl, fun _ => ⟨⟨trivial, ⟨trivial, trivial⟩⟩, ⟨trivial, trivial⟩⟩⟩⟩, ⟨trivial, trivial⟩⟩⟩⟩
set_option maxRecDepth 100000 in
theorem k1dk {x : k114} {o : k86} (h : kk5 x o) : SoundH Try.prog k2i.f ((k2i.args idf x).map (er TB)) ((k2i.obs idf x).map (erO TB)) (er TB (k2i.val idf o)) ((k2i.ops idf o).map (erO TB)) :=
  Con.soundH (c := k2i) (C := k6i) TBok ⟨inf_ok, (all_cons k16r (all_cons k1lg (all_cons klx all_nil))), all_nil⟩ mix Try.func21 (show Try.f21.body = some kax by kernel_rfl) (show Try.f21.ntmps = 24 by kernel_rfl) (show Try.f21.results.toList = kdm by kernel_rfl) rfl h (k1bl o)
set_option maxRecDepth 100000 in
theorem k1gu {p0 : TBlock} {r0 : List Int} (h :
((BR p0 ∧ p0.Txs.length ≤ 64) ∧ ((hdrS p0) = (hdrS p0)) ∧ Md.Loop ((0 : Int), p0.Parent, p0.Height, p0.Miner, p0.Work, p0.Nonce, p0.Txs, ((hdrS p0) : List Int), ()) (kdo (r0, ())))) : kk5 (p0.Parent, p0.Height, p0.Miner, p0.Work, p0.Nonce, p0.Txs, ()) (r0, ()) := WPh.of_eq (by kernel_rfl) h
def kyv (r0 : List Int) (k1 : Int → List Int → Prop) (h0_0 : Int) (h0_1 : Int) (h0_2 : Int) (h0_3 : Int) (h0_4 : Int) (h0_5 : List TTx) (s4 : Int) (g1 : List Int) : Prop :=
(decide (s4 < (h0_5.length : Int)) = true →
(0 ≤ s4) ∧ s4 < (h0_5.length : Int) ∧ (TR (ix h0_5 s4) ∧ TL (ix h0_5 s4)) ∧ (U64 (idS (ix h0_5 s4)) ∧ 0 ≤ (8 : Int) ∧ (8 : Int) ≤ 8) ∧ g1.length = g1.length ∧ (g1.length + (dig (8 : Int).toNat (idS (ix h0_5 s4))).length) * 1 ≤ 140737488355328 ∧ g1.length + (dig (8 : Int).toNat (idS (ix h0_5 s4))).length ≤ maxLen ∧ let v1 : List Int := g1 ++ (dig (8 : Int).toNat (idS (ix h0_5 s4)))
(v1 = v1) ∧ k1 (IntKind.i64.wrap (s4 + 1) : Int) v1) ∧
(decide (s4 < (h0_5.length : Int)) = false →
 g1 = r0)
set_option maxRecDepth 100000 in
theorem k1bt {r0 : List Int} {h0_0 : Int} {h0_1 : Int} {h0_2 : Int} {h0_3 : Int} {h0_4 : Int} {h0_5 : List TTx} {s4 : Int} {g1 : List Int} (inv : Int → List Int → Prop) (μ : Int → List Int → Nat) (h0 : inv s4 g1) (hs : ∀ (s4 : Int) (g1 : List Int), inv s4 g1 → kyv r0 (fun s4q g1q => inv s4q g1q ∧ μ s4q g1q < μ s4 g1) h0_0 h0_1 h0_2 h0_3 h0_4 h0_5 s4 g1) : Md.Loop (s4, h0_0, h0_1, h0_2, h0_3, h0_4, h0_5, g1, ()) (kdo (r0, ())) :=
  ⟨⟨fun s : Int × Int × Int × Int × Int × Int × (List TTx) × (List Int) × Unit => (s.2.1 = h0_0 ∧ s.2.2.1 = h0_1 ∧ s.2.2.2.1 = h0_2 ∧ s.2.2.2.2.1 = h0_3 ∧ s.2.2.2.2.2.1 = h0_4 ∧ s.2.2.2.2.2.2.1 = h0_5) ∧ inv s.1 s.2.2.2.2.2.2.2.1, fun s : Int × Int × Int × Int × Int × Int × (List TTx) × (List Int) × Unit => μ s.1 s.2.2.2.2.2.2.2.1, ⟨⟨rfl, rfl, rfl, rfl, rfl, rfl⟩, h0⟩, fun (s4p, h0_0p, h0_1p, h0_2p, h0_3p, h0_4p, h0_5p, g1p, ()) ⟨⟨eq0, eq1, eq2, eq3, eq4, eq5⟩, hi⟩ => by
    have eq0 : h0_0p = h0_0 := eq0; subst h0_0p; have eq1 : h0_1p = h0_1 := eq1; subst h0_1p; have eq2 : h0_2p = h0_2 := eq2; subst h0_2p; have eq3 : h0_3p = h0_3 := eq3; subst h0_3p; have eq4 : h0_4p = h0_4 := eq4; subst h0_4p; have eq5 : h0_5p = h0_5 := eq5; subst h0_5p; exact mpr_of (by kernel_rfl) ((congrArg (fun k => kyv r0 k h0_0 h0_1 h0_2 h0_3 h0_4 h0_5 s4p g1p) (lpk2 (⟨rfl, rfl, rfl, rfl, rfl, rfl⟩ : h0_0 = h0_0 ∧ h0_1 = h0_1 ∧ h0_2 = h0_2 ∧ h0_3 = h0_3 ∧ h0_4 = h0_4 ∧ h0_5 = h0_5) inv (fun s4q g1q => μ s4q g1q < μ s4p g1p))).mpr (hs s4p g1p hi))⟩⟩
theorem bd21 : Callable Try.prog 21 := ⟨by rw [Try.func21]; kernel_rfl, by rw [Try.func21]; show some _ ≠ some _; decide⟩
theorem k17t (p0 : TBlock) (h : BR p0 ∧ VB p0) : kk5 (p0.Parent, p0.Height, p0.Miner, p0.Work, p0.Nonce, p0.Txs, ()) (((namS p0) : List Int), ()) := by
  obtain ⟨hr, v⟩ := h
  have hl := v.h.l
  refine k1gu ⟨⟨hr, hl⟩, rfl, ?_⟩
  refine k1bt (FlatI (fun t => dig 8 (idS t)) (hdrS p0) p0.Txs) (fun i _ => (p0.Txs.length - i).toNat) FlatI.start ?_
  rintro i g hi
  have g0 := hi.1
  have hgl := hi.len 8 (fun _ _ => by simp)
  rw [kcx] at hgl
  refine ⟨fun hh => ?_, fun hh => ?_⟩
  · have hh := of_decide_eq_true hh
    have hm := ix_mem p0.Txs i g0 hh
    have hn := hi.next hh (by omega) rfl
    refine ⟨g0, hh, ⟨hr.t _ hm, (v.vt hm).tl⟩, ⟨idS_u64 _, by omega, by omega⟩, rfl, ?_, ?_, rfl, hn⟩
    · rw [k19]; show (g.length + 8) * 1 ≤ _; omega
    · rw [k19]; show g.length + 8 ≤ maxLen; unfold maxLen; omega
  · have hh := of_decide_eq_false hh
    rw [hi.done hh]
    unfold namS
    rw [List.flatMap_map]
noncomputable def klv : Con TB.den := k2i.fnR (fun x => (fun (p0 : TBlock) => BR p0 ∧ VB p0) (TBlock.mk x.1 x.2.1 x.2.2.1 x.2.2.2.1 x.2.2.2.2.1 x.2.2.2.2.2.1)) fun x => ((fun (p0 : TBlock) => ((namS p0) : List Int)) (TBlock.mk x.1 x.2.1 x.2.2.1 x.2.2.2.1 x.2.2.2.2.1 x.2.2.2.2.2.1), ())
theorem kxx : klv.Ok Try.prog TB := Con.ok_fn k2i bd21 fun x h => k1dk (k17t (TBlock.mk x.1 x.2.1 x.2.2.1 x.2.2.2.1 x.2.2.2.2.1 x.2.2.2.2.2.1) h)
end Go.Proofs.Ytnmakgfmimagmaa
namespace Go.Proofs.Ytnmakgfmimagmaa
open Go Go.Bv Go.Cv Go.Md Go.RowKit
def k2k : Con TB.den := Con.mk0 13 [.agg [.d (.int .u64), .d (.int .i64), .d (.int .u64), .d (.int .u64), .d (.int .u64), .d (.sl (.st 1))]] [] (.one (.one (.d (.int .i64)))) []
abbrev k110 := HL TB.den (hsT k2k.ins (hsOs k2k.pre))
abbrev k75 := HL TB.den (hsV k2k.res (hsOs k2k.post))
noncomputable def k69 : Cx TB := ⟨inf, [kls, kch], [], 4, []⟩
noncomputable def kap : Code := Try.f13.body.getD .skip
noncomputable def kdu : List ResultVar := Try.f13.results.toList
noncomputable def k1gl (o : k75) : Exit → TSt TB.den → Prop := thenT TB (fun s => ghs TB [] s fun s => WP TB k69 64 0 (cB (cB (cB (cB kap)))) .no s (retTQ TB k69 k2k kdu o)) (retTQ TB k69 k2k kdu o)
def k8y : Tm := ⟨[0], [.cells [.d (.int .u64), .d (.int .i64), .d (.int .u64), .d (.int .u64), .d (.int .u64), .d (.sl (.st 1))]], [1, 3, 4], [.one (.ptr 0 0), .one (.d (.int .i64)), .one (.d (.int .i64))], 1⟩
noncomputable def k1hp (o : k75) (nx1 : HL TB.den k8y.hs → Prop) : Exit → TSt TB.den → Prop := thenT TB (fun s => k8y.mat TB 0 s nx1) (blockT TB 0 (k1gl o))
noncomputable def kdq (o : k75) (nx1 : HL TB.den k8y.hs → Prop) (i : HL TB.den k8y.hs) : Prop := WP TB k69 64 0 (cA (cA (cB (cA (cB (cB (cB kap))))))) .no (k8y.fill TB i) (k1hp o nx1)
noncomputable def k1ht (o : k75) : An TB := .nd [] .no [] (.lp [] k8y (kdq o) fun nx1 => .no)
noncomputable def k1hv (o : k75) : An TB := .nd [] .no [] (.nd [] .no [] (.nd [] (k1ht o) [] .no))
noncomputable def kys (o : k75) : An TB := .nd [] .no [] (k1hv o)
noncomputable def kjc (x : k110) (o : k75) : Prop := WPh TB k69 64 0 kap (kys o) (k2k.st TB x) (retTQ TB k69 k2k kdu o)
set_option maxRecDepth 100000 in
theorem k1de (o : k75) : OblH TB k69 64 0 kap (kys o) (retTQ TB k69 k2k kdu o) :=
  OblH.of_eq (X := (True ∧ ((True ∧ ((True ∧ True) ∧ True)) ∧ (True ∧ ((True ∧ ((∀ nx i, (kdq o) nx i = (kdq o) nx i) ∧ ∀ nx1 : HL TB.den k8y.hs → Prop, ((True ∧ (True ∧ True)) ∧ (((True ∧ ((True ∧ True) ∧ True)) ∧ True) ∧ True)))) ∧ ((True ∧ ((True ∧ True) ∧ True)) ∧ (True ∧ True))))))) (by kernel_rfl) ⟨trivial, ⟨⟨trivial, ⟨⟨trivial, trivial⟩, trivial⟩⟩, ⟨trivial, ⟨⟨trivial, ⟨fun _ _ => rfl, fun _ => ⟨⟨trivial, ⟨trivial, trivial⟩⟩, ⟨⟨⟨trivial, ⟨⟨trivial, trivial⟩, trivial⟩⟩, trivial⟩, trivial⟩⟩⟩⟩, ⟨⟨trivial, ⟨⟨trivial, trivial⟩, trivial⟩⟩, ⟨trivial, trivial⟩⟩⟩⟩⟩⟩
set_option maxRecDepth 100000 in
theorem k1cn {x : k110} {o : k75} (h : kjc x o) : SoundH Try.prog k2k.f ((k2k.args idf x).map (er TB)) ((k2k.obs idf x).map (erO TB)) (er TB (k2k.val idf o)) ((k2k.ops idf o).map (erO TB)) :=
  Con.soundH (c := k2k) (C := k69) TBok ⟨inf_ok, (all_cons kxt (all_cons khs all_nil)), all_nil⟩ mix Try.func13 (show Try.f13.body = some kap by kernel_rfl) (show Try.f13.ntmps = 64 by kernel_rfl) (show Try.f13.results.toList = kdu by kernel_rfl) rfl h (k1de o)
set_option maxRecDepth 100000 in
theorem k1ej {p0 : TBlock} {r0 : Int} (h :
((decide (p0.Height < 1) = true →
 1 = r0) ∧
(decide (p0.Height < 1) = false →
(decide (1048576 < p0.Height) = true →
 1 = r0) ∧
(decide (1048576 < p0.Height) = false →
(decide (p0.Work < 1) = true →
 1 = r0) ∧
(decide (p0.Work < 1) = false →
(decide (65536 < p0.Work) = true →
 1 = r0) ∧
(decide (65536 < p0.Work) = false →
 let v1 : Bool := decide (18446744069414584321 ≤ p0.Parent)
(v1 = true →
 1 = r0) ∧
(v1 = false →
(decide (18446744069414584321 ≤ p0.Miner) = true →
 1 = r0) ∧
(decide (18446744069414584321 ≤ p0.Miner) = false →
(decide (64 < (p0.Txs.length : Int)) = true →
 1 = r0) ∧
(decide (64 < (p0.Txs.length : Int)) = false →
 Md.Loop ((0 : Int), (0 : Int), p0.Parent, p0.Height, p0.Miner, p0.Work, p0.Nonce, p0.Txs, ()) (kdq (r0, ()))))))))))) : kjc (p0.Parent, p0.Height, p0.Miner, p0.Work, p0.Nonce, p0.Txs, ()) (r0, ()) := WPh.of_eq (by kernel_rfl) h
def kxl (r0 : Int) (k1 : Int → Int → Prop) (h0_0 : Int) (h0_1 : Int) (h0_2 : Int) (h0_3 : Int) (h0_4 : Int) (h0_5 : List TTx) (s3 : Int) (s4 : Int) : Prop :=
(decide (s4 < (h0_5.length : Int)) = true →
(0 ≤ s4) ∧ s4 < (h0_5.length : Int) ∧ (TR (ix h0_5 s4) ∧ TL (ix h0_5 s4)) ∧ (((validE (ix h0_5 s4)) != 0) = true →
 1 = r0) ∧
(((validE (ix h0_5 s4)) != 0) = false →
(0 ≤ s4) ∧ s4 < (h0_5.length : Int) ∧ (TR (ix h0_5 s4) ∧ TL (ix h0_5 s4) ∧ (ix h0_5 s4).Outs.length ≤ 1048576 ∧ (∀ x ∈ (ix h0_5 s4).Outs, x.Cipher.length ≤ 1024)) ∧ let v2 : Int := ((encT (ix h0_5 s4) (ix h0_5 s4).Proof).length : Int)
 k1 (IntKind.i64.wrap (s3 + v2) : Int) (IntKind.i64.wrap (s4 + 1) : Int))) ∧
(decide (s4 < (h0_5.length : Int)) = false →
(decide (2097152 < s3) = true →
 3 = r0) ∧
(decide (2097152 < s3) = false →
 0 = r0))
set_option maxRecDepth 100000 in
theorem k1c8 {r0 : Int} {h0_0 : Int} {h0_1 : Int} {h0_2 : Int} {h0_3 : Int} {h0_4 : Int} {h0_5 : List TTx} {s3 : Int} {s4 : Int} (inv : Int → Int → Prop) (μ : Int → Int → Nat) (h0 : inv s3 s4) (hs : ∀ (s3 : Int) (s4 : Int), inv s3 s4 → kxl r0 (fun s3q s4q => inv s3q s4q ∧ μ s3q s4q < μ s3 s4) h0_0 h0_1 h0_2 h0_3 h0_4 h0_5 s3 s4) : Md.Loop (s3, s4, h0_0, h0_1, h0_2, h0_3, h0_4, h0_5, ()) (kdq (r0, ())) :=
  ⟨⟨fun s : Int × Int × Int × Int × Int × Int × Int × (List TTx) × Unit => (s.2.2.1 = h0_0 ∧ s.2.2.2.1 = h0_1 ∧ s.2.2.2.2.1 = h0_2 ∧ s.2.2.2.2.2.1 = h0_3 ∧ s.2.2.2.2.2.2.1 = h0_4 ∧ s.2.2.2.2.2.2.2.1 = h0_5) ∧ inv s.1 s.2.1, fun s : Int × Int × Int × Int × Int × Int × Int × (List TTx) × Unit => μ s.1 s.2.1, ⟨⟨rfl, rfl, rfl, rfl, rfl, rfl⟩, h0⟩, fun (s3p, s4p, h0_0p, h0_1p, h0_2p, h0_3p, h0_4p, h0_5p, ()) ⟨⟨eq0, eq1, eq2, eq3, eq4, eq5⟩, hi⟩ => by
    have eq0 : h0_0p = h0_0 := eq0; subst h0_0p; have eq1 : h0_1p = h0_1 := eq1; subst h0_1p; have eq2 : h0_2p = h0_2 := eq2; subst h0_2p; have eq3 : h0_3p = h0_3 := eq3; subst h0_3p; have eq4 : h0_4p = h0_4 := eq4; subst h0_4p; have eq5 : h0_5p = h0_5 := eq5; subst h0_5p; exact mpr_of (by kernel_rfl) ((congrArg (fun k => kxl r0 k h0_0 h0_1 h0_2 h0_3 h0_4 h0_5 s3p s4p) (lpk2 (⟨rfl, rfl, rfl, rfl, rfl, rfl⟩ : h0_0 = h0_0 ∧ h0_1 = h0_1 ∧ h0_2 = h0_2 ∧ h0_3 = h0_3 ∧ h0_4 = h0_4 ∧ h0_5 = h0_5) inv (fun s3q s4q => μ s3q s4q < μ s3p s4p))).mpr (hs s3p s4p hi))⟩⟩
theorem bd13 : Callable Try.prog 13 := ⟨by rw [Try.func13]; kernel_rfl, by rw [Try.func13]; show some _ ≠ some _; decide⟩
theorem k195 (p0 : TBlock) (h : ∀ x ∈ p0.Txs, TR x ∧ TL x) : kjc (p0.Parent, p0.Height, p0.Miner, p0.Work, p0.Nonce, p0.Txs, ()) (((validB p0) : Int), ()) := by
  have nv : ¬ VB0 p0 → 1 = validB p0 := fun h => (kcu h).symm
  refine k1ej ⟨fun e => nv fun v => ?_, fun e1 => ⟨fun e => nv fun v => ?_, fun e2 => ⟨fun e => nv fun v => ?_, fun e3 => ⟨fun e => nv fun v => ?_, fun e4 => ⟨fun e => nv fun v => ?_, fun e5 => ⟨fun e => nv fun v => ?_, fun e6 => ⟨fun e => nv fun v => ?_, fun e7 => ?_⟩⟩⟩⟩⟩⟩⟩
  · have := of_decide_eq_true e; have := v.h0; omega
  · have := of_decide_eq_true e; have := v.h1; omega
  · have := of_decide_eq_true e; have := v.w0; omega
  · have := of_decide_eq_true e; have := v.w1; omega
  · have := of_decide_eq_true e; have := v.p; omega
  · have := of_decide_eq_true e; have := v.m; omega
  · have := of_decide_eq_true e; have := v.l; omega
  have e1 := of_decide_eq_false e1
  have e2 := of_decide_eq_false e2
  have e3 := of_decide_eq_false e3
  have e4 := of_decide_eq_false e4
  have e5 := of_decide_eq_false e5
  have e6 := of_decide_eq_false e6
  have e7 := of_decide_eq_false e7
  have hc : VB0 p0 := ⟨by omega, by omega, by omega, by omega, by omega, by omega, by omega⟩
  refine k1c8 (fun w i => 0 ≤ i ∧ i ≤ p0.Txs.length ∧ w = sumW (p0.Txs.take i.toNat) ∧ ∀ t ∈ p0.Txs.take i.toNat, validE t = 0) (fun _ i => (p0.Txs.length - i).toNat) ⟨by omega, by omega, by simp [sumW], by simp⟩ ?_
  rintro w i ⟨g0, g1, rfl, g3⟩
  have hb := sumW_bd _ g3
  rw [List.length_take] at hb
  refine ⟨fun hh => ?_, fun hh => ?_⟩
  · have hh := of_decide_eq_true hh
    have hm := ix_mem p0.Txs i g0 hh
    refine ⟨g0, hh, h _ hm, fun e => ?_, fun e => ?_⟩
    · have e : validE (ix p0.Txs i) ≠ 0 := by simpa using e
      exact (k1am hm e).symm
    · have e : validE (ix p0.Txs i) = 0 := by simpa using e
      have hw := kt1 e
      have ew : weightS (ix p0.Txs i) = ((encT (ix p0.Txs i) (ix p0.Txs i).Proof).length : Int) := if_pos e
      refine ⟨g0, hh, ((k71 _).1 e).bl (h _ hm).1, ?_⟩
      rw [← ew]
      try simp only []
      rw [inc i p0.Txs.length g0 hh (by omega), wi (sumW (p0.Txs.take i.toNat) + weightS (ix p0.Txs i)) (by omega) (by omega)]
      refine ⟨⟨by omega, by omega, ?_, ?_⟩, by omega⟩
      · rw [ka p0.Txs i g0 hh, k1fk]
      · rw [ka p0.Txs i g0 hh]
        intro t ht
        rcases List.mem_append.1 ht with ht | ht
        · exact g3 t ht
        · rw [List.mem_singleton.1 ht]; exact e
  · have hh := of_decide_eq_false hh
    rw [List.take_of_length_le (by omega)] at g3 hb ⊢
    rw [k1b1 hc g3]
    refine ⟨fun e => ?_, fun e => ?_⟩
    · have e := of_decide_eq_true e
      rw [if_neg (by omega)]
    · have e := of_decide_eq_false e
      rw [if_pos (by omega)]
noncomputable def klt : Con TB.den := k2k.fnR (fun x => (fun (p0 : TBlock) => ∀ x ∈ p0.Txs, TR x ∧ TL x) (TBlock.mk x.1 x.2.1 x.2.2.1 x.2.2.2.1 x.2.2.2.2.1 x.2.2.2.2.2.1)) fun x => ((fun (p0 : TBlock) => ((validB p0) : Int)) (TBlock.mk x.1 x.2.1 x.2.2.1 x.2.2.2.1 x.2.2.2.2.1 x.2.2.2.2.2.1), ())
theorem kx1 : klt.Ok Try.prog TB := Con.ok_fn k2k bd13 fun x h => k1cn (k195 (TBlock.mk x.1 x.2.1 x.2.2.1 x.2.2.2.1 x.2.2.2.2.1 x.2.2.2.2.2.1) h)
end Go.Proofs.Ytnmakgfmimagmaa
namespace Go.Proofs.Ytnmakgfmimagmaa
open Go Go.Bv Go.Cv Go.Md Go.RowKit
def k53 : Con TB.den := Con.mk0 18 [.agg [.d (.int .u64), .d (.int .i64), .d (.int .u64), .d (.int .u64), .d (.int .u64), .d (.sl (.st 1))]] [] (.one (.one (.d (.int .u64)))) []
abbrev k1fy := HL TB.den (hsT k53.ins (hsOs k53.pre))
abbrev ktn := HL TB.den (hsV k53.res (hsOs k53.post))
noncomputable def klg : Cx TB := ⟨inf, [klt, klv, kah], [], 4, []⟩
noncomputable def kqv : Code := Try.f18.body.getD .skip
noncomputable def kwk : List ResultVar := Try.f18.results.toList
noncomputable def k1b7 (o : ktn) : An TB := .no
noncomputable def kr1 (x : k1fy) (o : ktn) : Prop := WPh TB klg 9 0 kqv (k1b7 o) (k53.st TB x) (retTQ TB klg k53 kwk o)
set_option maxRecDepth 100000 in
theorem k1kh (o : ktn) : OblH TB klg 9 0 kqv (k1b7 o) (retTQ TB klg k53 kwk o) :=
  OblH.of_eq (X := (True ∧ ((True ∧ ((True ∧ True) ∧ True)) ∧ (True ∧ True)))) (by kernel_rfl) ⟨trivial, ⟨⟨trivial, ⟨⟨trivial, trivial⟩, trivial⟩⟩, ⟨trivial, trivial⟩⟩⟩
set_option maxRecDepth 100000 in
theorem k1jx {x : k1fy} {o : ktn} (h : kr1 x o) : SoundH Try.prog k53.f ((k53.args idf x).map (er TB)) ((k53.obs idf x).map (erO TB)) (er TB (k53.val idf o)) ((k53.ops idf o).map (erO TB)) :=
  Con.soundH (c := k53) (C := klg) TBok ⟨inf_ok, (all_cons kx1 (all_cons kxx (all_cons kgx all_nil))), all_nil⟩ mix Try.func18 (show Try.f18.body = some kqv by kernel_rfl) (show Try.f18.ntmps = 9 by kernel_rfl) (show Try.f18.results.toList = kwk by kernel_rfl) rfl h (k1kh o)
set_option maxRecDepth 100000 in
theorem k1ls {p0 : TBlock} {r0 : Int} (h :
((∀ x ∈ p0.Txs, TR x ∧ TL x) ∧ (((validB p0) != 0) = true →
 0 = r0) ∧
(((validB p0) != 0) = false →
(BR p0 ∧ VB p0) ∧ (U64 (15 : Int) ∧ By (namS p0) ∧ (namS p0).length ≤ 1099511627775) ∧ (hashB (15 : Int) (namS p0)) = r0))) : kr1 (p0.Parent, p0.Height, p0.Miner, p0.Work, p0.Nonce, p0.Txs, ()) (r0, ()) := WPh.of_eq (by kernel_rfl) h
theorem bd18 : Callable Try.prog 18 := ⟨by rw [Try.func18]; kernel_rfl, by rw [Try.func18]; show some _ ≠ some _; decide⟩
theorem k1j9 (p0 : TBlock) (h : BR p0 ∧ ∀ x ∈ p0.Txs, TL x) : kr1 (p0.Parent, p0.Height, p0.Miner, p0.Work, p0.Nonce, p0.Txs, ()) (((idB p0) : Int), ()) := by
  obtain ⟨hr, hl⟩ := h
  refine k1ls ⟨fun x hx => ⟨hr.t x hx, hl x hx⟩, fun e => ?_, fun e => ?_⟩
  · have e : ¬ validB p0 = 0 := by simpa using e
    unfold idB
    rw [if_neg e]
  · have e : validB p0 = 0 := by simpa using e
    have v := (kcv p0).1 e
    have hl := v.h.l
    unfold idB
    rw [if_pos e]
    exact ⟨⟨hr, v⟩, ⟨by decide, namS_by p0, by rw [kqs]; omega⟩, rfl⟩
noncomputable def k14d : Con TB.den := k53.fnR (fun x => (fun (p0 : TBlock) => BR p0 ∧ ∀ x ∈ p0.Txs, TL x) (TBlock.mk x.1 x.2.1 x.2.2.1 x.2.2.2.1 x.2.2.2.2.1 x.2.2.2.2.2.1)) fun x => ((fun (p0 : TBlock) => ((idB p0) : Int)) (TBlock.mk x.1 x.2.1 x.2.2.1 x.2.2.2.1 x.2.2.2.2.1 x.2.2.2.2.2.1), ())
theorem k1li : k14d.Ok Try.prog TB := Con.ok_fn k53 bd18 fun x h => k1jx (k1j9 (TBlock.mk x.1 x.2.1 x.2.2.1 x.2.2.2.1 x.2.2.2.2.1 x.2.2.2.2.2.1) h)
end Go.Proofs.Ytnmakgfmimagmaa
namespace Go.Proofs.Ytnmakgfmimagmaa
open Go Go.Bv Go.Cv Go.Md Go.RowKit
def k2n : Con TB.den := Con.mk0 14 [.agg [.d (.int .u64), .d (.sl (.int .u64)), .d (.sl (.st 0)), .d (.int .u64), .d (.int .u64), .d (.int .u64), .d (.int .u64), .d (.int .u64), .d (.int .i64), .d (.sl (.int .u8))], .one (.d (.int .i64))] [] (.one (.one (.d (.bool)))) []
abbrev k10l := HL TB.den (hsT k2n.ins (hsOs k2n.pre))
abbrev k87 := HL TB.den (hsV k2n.res (hsOs k2n.post))
noncomputable def k68 : Cx TB := ⟨inf, [], [], 4, []⟩
noncomputable def kb4 : Code := Try.f14.body.getD .skip
noncomputable def kds : List ResultVar := Try.f14.results.toList
noncomputable def k1gm (o : k87) : Exit → TSt TB.den → Prop := thenT TB (fun s => ghs TB [] s fun s => WP TB k68 38 0 (cB (cB kb4)) .no s (retTQ TB k68 k2n kds o)) (retTQ TB k68 k2n kds o)
def k8j : Tm := ⟨[0], [.cells [.d (.int .u64), .d (.sl (.int .u64)), .d (.sl (.st 0)), .d (.int .u64), .d (.int .u64), .d (.int .u64), .d (.int .u64), .d (.int .u64), .d (.int .i64), .d (.sl (.int .u8))]], [1, 2, 5], [.one (.d (.int .i64)), .one (.ptr 0 0), .one (.d (.int .i64))], 1⟩
noncomputable def k1go (o : k87) (nx1 : HL TB.den k8j.hs → Prop) : Exit → TSt TB.den → Prop := thenT TB (fun s => k8j.mat TB 0 s nx1) (blockT TB 0 (k1gm o))
noncomputable def kea (o : k87) (nx1 : HL TB.den k8j.hs → Prop) (i : HL TB.den k8j.hs) : Prop := WP TB k68 38 0 (cA (cA (cB (cA (cB kb4))))) .no (k8j.fill TB i) (k1go o nx1)
noncomputable def k1gb (o : k87) : An TB := .nd [] .no [] (.lp [] k8j (kea o) fun nx1 => .no)
noncomputable def kwu (o : k87) : An TB := .nd [] .no [] (.nd [] (k1gb o) [] .no)
noncomputable def kjr (x : k10l) (o : k87) : Prop := WPh TB k68 38 0 kb4 (kwu o) (k2n.st TB x) (retTQ TB k68 k2n kds o)
set_option maxRecDepth 100000 in
theorem k1cl (o : k87) : OblH TB k68 38 0 kb4 (kwu o) (retTQ TB k68 k2n kds o) :=
  OblH.of_eq (X := (True ∧ ((True ∧ ((∀ nx i, (kea o) nx i = (kea o) nx i) ∧ ∀ nx1 : HL TB.den k8j.hs → Prop, ((True ∧ (True ∧ True)) ∧ ((True ∧ ((True ∧ True) ∧ True)) ∧ True)))) ∧ (True ∧ True)))) (by kernel_rfl) ⟨trivial, ⟨⟨trivial, ⟨fun _ _ => rfl, fun _ => ⟨⟨trivial, ⟨trivial, trivial⟩⟩, ⟨⟨trivial, ⟨⟨trivial, trivial⟩, trivial⟩⟩, trivial⟩⟩⟩⟩, ⟨trivial, trivial⟩⟩⟩
set_option maxRecDepth 100000 in
theorem k1cj {x : k10l} {o : k87} (h : kjr x o) : SoundH Try.prog k2n.f ((k2n.args idf x).map (er TB)) ((k2n.obs idf x).map (erO TB)) (er TB (k2n.val idf o)) ((k2n.ops idf o).map (erO TB)) :=
  Con.soundH (c := k2n) (C := k68) TBok ⟨inf_ok, all_nil, all_nil⟩ mix Try.func14 (show Try.f14.body = some kb4 by kernel_rfl) (show Try.f14.ntmps = 38 by kernel_rfl) (show Try.f14.results.toList = kds by kernel_rfl) rfl h (k1cl o)
set_option maxRecDepth 100000 in
theorem k1gr {p0 : TTx} {p1 : Int} {r0 : Bool} (h :
(Md.Loop (p1, (0 : Int), p0.Anchor, p0.Marks, p0.Outs, p0.Deposit, p0.Withdraw, p0.Fee, p0.Account, p0.Nonce, p0.Expiry, p0.Proof, ()) (kea (r0, ())))) : kjr (p0.Anchor, p0.Marks, p0.Outs, p0.Deposit, p0.Withdraw, p0.Fee, p0.Account, p0.Nonce, p0.Expiry, p0.Proof, p1, ()) (r0, ()) := WPh.of_eq (by kernel_rfl) h
def kyb (r0 : Bool) (k1 : Int → Prop) (s1 : Int) (h0_0 : Int) (h0_1 : List Int) (h0_2 : List TOut) (h0_3 : Int) (h0_4 : Int) (h0_5 : Int) (h0_6 : Int) (h0_7 : Int) (h0_8 : Int) (h0_9 : List Int) (s5 : Int) : Prop :=
(decide (s5 < (h0_2.length : Int)) = true →
(0 ≤ s5) ∧ s5 < (h0_2.length : Int) ∧ let v1 : Bool := decide (10 < (((ix h0_2 s5).Cipher).length : Int))
(v1 = true →
 false = r0) ∧
(v1 = false →
 k1 (IntKind.i64.wrap (s5 + 1) : Int))) ∧
(decide (s5 < (h0_2.length : Int)) = false →
(decide ((h0_1.length : Int) ≤ 10) = true →
(decide ((h0_2.length : Int) ≤ 10) = true →
 decide ((h0_9.length : Int) ≤ s1) = r0) ∧
(decide ((h0_2.length : Int) ≤ 10) = false →
 false = r0)) ∧
(decide ((h0_1.length : Int) ≤ 10) = false →
 false = r0))
set_option maxRecDepth 100000 in
theorem k1bg {r0 : Bool} {s1 : Int} {h0_0 : Int} {h0_1 : List Int} {h0_2 : List TOut} {h0_3 : Int} {h0_4 : Int} {h0_5 : Int} {h0_6 : Int} {h0_7 : Int} {h0_8 : Int} {h0_9 : List Int} {s5 : Int} (inv : Int → Prop) (μ : Int → Nat) (h0 : inv s5) (hs : ∀ (s5 : Int), inv s5 → kyb r0 (fun s5q => inv s5q ∧ μ s5q < μ s5) s1 h0_0 h0_1 h0_2 h0_3 h0_4 h0_5 h0_6 h0_7 h0_8 h0_9 s5) : Md.Loop (s1, s5, h0_0, h0_1, h0_2, h0_3, h0_4, h0_5, h0_6, h0_7, h0_8, h0_9, ()) (kea (r0, ())) :=
  ⟨⟨fun s : Int × Int × Int × (List Int) × (List TOut) × Int × Int × Int × Int × Int × Int × (List Int) × Unit => (s.1 = s1 ∧ s.2.2.1 = h0_0 ∧ s.2.2.2.1 = h0_1 ∧ s.2.2.2.2.1 = h0_2 ∧ s.2.2.2.2.2.1 = h0_3 ∧ s.2.2.2.2.2.2.1 = h0_4 ∧ s.2.2.2.2.2.2.2.1 = h0_5 ∧ s.2.2.2.2.2.2.2.2.1 = h0_6 ∧ s.2.2.2.2.2.2.2.2.2.1 = h0_7 ∧ s.2.2.2.2.2.2.2.2.2.2.1 = h0_8 ∧ s.2.2.2.2.2.2.2.2.2.2.2.1 = h0_9) ∧ inv s.2.1, fun s : Int × Int × Int × (List Int) × (List TOut) × Int × Int × Int × Int × Int × Int × (List Int) × Unit => μ s.2.1, ⟨⟨rfl, rfl, rfl, rfl, rfl, rfl, rfl, rfl, rfl, rfl, rfl⟩, h0⟩, fun (s1p, s5p, h0_0p, h0_1p, h0_2p, h0_3p, h0_4p, h0_5p, h0_6p, h0_7p, h0_8p, h0_9p, ()) ⟨⟨eq0, eq1, eq2, eq3, eq4, eq5, eq6, eq7, eq8, eq9, eq10⟩, hi⟩ => by
    have eq0 : s1p = s1 := eq0; subst s1p; have eq1 : h0_0p = h0_0 := eq1; subst h0_0p; have eq2 : h0_1p = h0_1 := eq2; subst h0_1p; have eq3 : h0_2p = h0_2 := eq3; subst h0_2p; have eq4 : h0_3p = h0_3 := eq4; subst h0_3p; have eq5 : h0_4p = h0_4 := eq5; subst h0_4p; have eq6 : h0_5p = h0_5 := eq6; subst h0_5p; have eq7 : h0_6p = h0_6 := eq7; subst h0_6p; have eq8 : h0_7p = h0_7 := eq8; subst h0_7p; have eq9 : h0_8p = h0_8 := eq9; subst h0_8p; have eq10 : h0_9p = h0_9 := eq10; subst h0_9p; exact mpr_of (by kernel_rfl) ((congrArg (fun k => kyb r0 k s1 h0_0 h0_1 h0_2 h0_3 h0_4 h0_5 h0_6 h0_7 h0_8 h0_9 s5p) (lpk1 (⟨rfl, rfl, rfl, rfl, rfl, rfl, rfl, rfl, rfl, rfl, rfl⟩ : s1 = s1 ∧ h0_0 = h0_0 ∧ h0_1 = h0_1 ∧ h0_2 = h0_2 ∧ h0_3 = h0_3 ∧ h0_4 = h0_4 ∧ h0_5 = h0_5 ∧ h0_6 = h0_6 ∧ h0_7 = h0_7 ∧ h0_8 = h0_8 ∧ h0_9 = h0_9) inv (fun s5q => μ s5q < μ s5p))).mpr (hs s5p hi))⟩⟩
theorem bd14 : Callable Try.prog 14 := ⟨by rw [Try.func14]; kernel_rfl, by rw [Try.func14]; show some _ ≠ some _; decide⟩
theorem k18c (p0 : TTx) (p1 : Int) (h : p0.Outs.length ≤ 9223372036854775807) : kjr (p0.Anchor, p0.Marks, p0.Outs, p0.Deposit, p0.Withdraw, p0.Fee, p0.Account, p0.Nonce, p0.Expiry, p0.Proof, p1, ()) (((smallB p0 p1) : Bool), ()) := by
  refine k1gr (k1bg (fun i => 0 ≤ i ∧ i ≤ p0.Outs.length ∧ ∀ x ∈ p0.Outs.take i.toNat, x.Cipher.length ≤ 10) (fun i => (p0.Outs.length - i).toNat) ⟨by omega, by omega, by simp⟩ ?_)
  rintro i ⟨g0, g1, g2⟩
  refine ⟨fun hh => ?_, fun hh => ?_⟩
  · have hh := of_decide_eq_true hh
    refine ⟨g0, hh, fun e => ?_, fun e => ?_⟩
    · have e := of_decide_eq_true e
      unfold smallB
      have : p0.Outs.all (fun x => decide (x.Cipher.length ≤ 10)) = false := List.all_eq_false.2 ⟨_, ix_mem p0.Outs i g0 hh, by simp; omega⟩
      rw [this]
      simp
    · have e := of_decide_eq_false e
      rw [inc i p0.Outs.length g0 hh (by omega)]
      refine ⟨⟨by omega, by omega, ?_⟩, by omega⟩
      rw [ka p0.Outs i g0 hh]
      intro x hx
      rcases List.mem_append.1 hx with hx | hx
      · exact g2 x hx
      · have : x = ix p0.Outs i := by simpa using hx
        rw [this]; omega
  · have hh := of_decide_eq_false hh
    rw [List.take_of_length_le (by omega)] at g2
    unfold smallB
    have : p0.Outs.all (fun x => decide (x.Cipher.length ≤ 10)) = true := by simpa using g2
    rw [this]
    refine ⟨fun h1 => ⟨fun h2 => ?_, fun h2 => ?_⟩, fun h1 => ?_⟩
    · have h1 := of_decide_eq_true h1
      have h2 := of_decide_eq_true h2
      rw [decide_eq_true (p := p0.Marks.length ≤ 10) (by omega), decide_eq_true (p := p0.Outs.length ≤ 10) (by omega)]
      simp
    · have h2 := of_decide_eq_false h2
      rw [decide_eq_false (p := p0.Outs.length ≤ 10) (by omega)]
      simp
    · have h1 := of_decide_eq_false h1
      rw [decide_eq_false (p := p0.Marks.length ≤ 10) (by omega)]
      simp
noncomputable def kux : Con TB.den := k2n.fnR (fun x => (fun (p0 : TTx) (p1 : Int) => p0.Outs.length ≤ 9223372036854775807) (TTx.mk x.1 x.2.1 x.2.2.1 x.2.2.2.1 x.2.2.2.2.1 x.2.2.2.2.2.1 x.2.2.2.2.2.2.1 x.2.2.2.2.2.2.2.1 x.2.2.2.2.2.2.2.2.1 x.2.2.2.2.2.2.2.2.2.1) x.2.2.2.2.2.2.2.2.2.2.1) fun x => ((fun (p0 : TTx) (p1 : Int) => ((smallB p0 p1) : Bool)) (TTx.mk x.1 x.2.1 x.2.2.1 x.2.2.2.1 x.2.2.2.2.1 x.2.2.2.2.2.1 x.2.2.2.2.2.2.1 x.2.2.2.2.2.2.2.1 x.2.2.2.2.2.2.2.2.1 x.2.2.2.2.2.2.2.2.2.1) x.2.2.2.2.2.2.2.2.2.2.1, ())
theorem k1hu : kux.Ok Try.prog TB := Con.ok_fn k2n bd14 fun x h => k1cj (k18c (TTx.mk x.1 x.2.1 x.2.2.1 x.2.2.2.1 x.2.2.2.2.1 x.2.2.2.2.2.1 x.2.2.2.2.2.2.1 x.2.2.2.2.2.2.2.1 x.2.2.2.2.2.2.2.2.1 x.2.2.2.2.2.2.2.2.2.1) x.2.2.2.2.2.2.2.2.2.2.1 h)
end Go.Proofs.Ytnmakgfmimagmaa
namespace Go.Proofs.Ytnmakgfmimagmaa
open Go Go.Bv Go.Cv Go.Md Go.RowKit
def k2p : Con TB.den := Con.mk0 11 [.agg [.d (.int .u64), .d (.int .i64), .d (.int .u64), .d (.int .u64), .d (.int .u64), .d (.sl (.st 1))]] [] (.one (.one (.d (.bool)))) []
abbrev k10r := HL TB.den (hsT k2p.ins (hsOs k2p.pre))
abbrev k89 := HL TB.den (hsV k2p.res (hsOs k2p.post))
noncomputable def k64 : Cx TB := ⟨inf, [kux], [], 4, []⟩
noncomputable def kbc : Code := Try.f11.body.getD .skip
noncomputable def ke6 : List ResultVar := Try.f11.results.toList
noncomputable def k1hc (o : k89) : Exit → TSt TB.den → Prop := thenT TB (fun s => ghs TB [] s fun s => WP TB k64 22 0 (cB (cB (cB kbc))) .no s (retTQ TB k64 k2p ke6 o)) (retTQ TB k64 k2p ke6 o)
def k90 : Tm := ⟨[0], [.cells [.d (.int .u64), .d (.int .i64), .d (.int .u64), .d (.int .u64), .d (.int .u64), .d (.sl (.st 1))]], [1, 3], [.one (.ptr 0 0), .one (.d (.int .i64))], 1⟩
noncomputable def k1g0 (o : k89) (nx1 : HL TB.den k90.hs → Prop) : Exit → TSt TB.den → Prop := thenT TB (fun s => k90.mat TB 0 s nx1) (blockT TB 0 (k1hc o))
noncomputable def keh (o : k89) (nx1 : HL TB.den k90.hs → Prop) (i : HL TB.den k90.hs) : Prop := WP TB k64 22 0 (cA (cA (cB (cA (cB (cB kbc)))))) .no (k90.fill TB i) (k1g0 o nx1)
noncomputable def k1gs (o : k89) : An TB := .nd [] .no [] (.lp [] k90 (keh o) fun nx1 => .no)
noncomputable def kyp (o : k89) : An TB := .nd [] .no [] (.nd [] .no [] (.nd [] (k1gs o) [] .no))
noncomputable def kkn (x : k10r) (o : k89) : Prop := WPh TB k64 22 0 kbc (kyp o) (k2p.st TB x) (retTQ TB k64 k2p ke6 o)
set_option maxRecDepth 100000 in
theorem k1d1 (o : k89) : OblH TB k64 22 0 kbc (kyp o) (retTQ TB k64 k2p ke6 o) :=
  OblH.of_eq (X := (True ∧ ((True ∧ ((True ∧ True) ∧ True)) ∧ ((True ∧ ((∀ nx i, (keh o) nx i = (keh o) nx i) ∧ ∀ nx1 : HL TB.den k90.hs → Prop, ((True ∧ (True ∧ True)) ∧ ((True ∧ ((True ∧ True) ∧ True)) ∧ True)))) ∧ (True ∧ True))))) (by kernel_rfl) ⟨trivial, ⟨⟨trivial, ⟨⟨trivial, trivial⟩, trivial⟩⟩, ⟨⟨trivial, ⟨fun _ _ => rfl, fun _ => ⟨⟨trivial, ⟨trivial, trivial⟩⟩, ⟨⟨trivial, ⟨⟨trivial, trivial⟩, trivial⟩⟩, trivial⟩⟩⟩⟩, ⟨trivial, trivial⟩⟩⟩⟩
set_option maxRecDepth 100000 in
theorem k1e2 {x : k10r} {o : k89} (h : kkn x o) : SoundH Try.prog k2p.f ((k2p.args idf x).map (er TB)) ((k2p.obs idf x).map (erO TB)) (er TB (k2p.val idf o)) ((k2p.ops idf o).map (erO TB)) :=
  Con.soundH (c := k2p) (C := k64) TBok ⟨inf_ok, (all_cons k1hu all_nil), all_nil⟩ mix Try.func11 (show Try.f11.body = some kbc by kernel_rfl) (show Try.f11.ntmps = 22 by kernel_rfl) (show Try.f11.results.toList = ke6 by kernel_rfl) rfl h (k1d1 o)
set_option maxRecDepth 100000 in
theorem k1ep {p0 : TBlock} {r0 : Bool} (h :
((decide (6 < (p0.Txs.length : Int)) = true →
 false = r0) ∧
(decide (6 < (p0.Txs.length : Int)) = false →
 Md.Loop ((0 : Int), p0.Parent, p0.Height, p0.Miner, p0.Work, p0.Nonce, p0.Txs, ()) (keh (r0, ()))))) : kkn (p0.Parent, p0.Height, p0.Miner, p0.Work, p0.Nonce, p0.Txs, ()) (r0, ()) := WPh.of_eq (by kernel_rfl) h
def kyt (r0 : Bool) (k1 : Int → Prop) (h0_0 : Int) (h0_1 : Int) (h0_2 : Int) (h0_3 : Int) (h0_4 : Int) (h0_5 : List TTx) (s3 : Int) : Prop :=
(decide (s3 < (h0_5.length : Int)) = true →
(0 ≤ s3) ∧ s3 < (h0_5.length : Int) ∧ ((ix h0_5 s3).Outs.length ≤ 9223372036854775807) ∧ ((!(smallB (ix h0_5 s3) (100 : Int))) = true →
 false = r0) ∧
((!(smallB (ix h0_5 s3) (100 : Int))) = false →
 k1 (IntKind.i64.wrap (s3 + 1) : Int))) ∧
(decide (s3 < (h0_5.length : Int)) = false →
 true = r0)
set_option maxRecDepth 100000 in
theorem k1dq {r0 : Bool} {h0_0 : Int} {h0_1 : Int} {h0_2 : Int} {h0_3 : Int} {h0_4 : Int} {h0_5 : List TTx} {s3 : Int} (inv : Int → Prop) (μ : Int → Nat) (h0 : inv s3) (hs : ∀ (s3 : Int), inv s3 → kyt r0 (fun s3q => inv s3q ∧ μ s3q < μ s3) h0_0 h0_1 h0_2 h0_3 h0_4 h0_5 s3) : Md.Loop (s3, h0_0, h0_1, h0_2, h0_3, h0_4, h0_5, ()) (keh (r0, ())) :=
  ⟨⟨fun s : Int × Int × Int × Int × Int × Int × (List TTx) × Unit => (s.2.1 = h0_0 ∧ s.2.2.1 = h0_1 ∧ s.2.2.2.1 = h0_2 ∧ s.2.2.2.2.1 = h0_3 ∧ s.2.2.2.2.2.1 = h0_4 ∧ s.2.2.2.2.2.2.1 = h0_5) ∧ inv s.1, fun s : Int × Int × Int × Int × Int × Int × (List TTx) × Unit => μ s.1, ⟨⟨rfl, rfl, rfl, rfl, rfl, rfl⟩, h0⟩, fun (s3p, h0_0p, h0_1p, h0_2p, h0_3p, h0_4p, h0_5p, ()) ⟨⟨eq0, eq1, eq2, eq3, eq4, eq5⟩, hi⟩ => by
    have eq0 : h0_0p = h0_0 := eq0; subst h0_0p; have eq1 : h0_1p = h0_1 := eq1; subst h0_1p; have eq2 : h0_2p = h0_2 := eq2; subst h0_2p; have eq3 : h0_3p = h0_3 := eq3; subst h0_3p; have eq4 : h0_4p = h0_4 := eq4; subst h0_4p; have eq5 : h0_5p = h0_5 := eq5; subst h0_5p; exact mpr_of (by kernel_rfl) ((congrArg (fun k => kyt r0 k h0_0 h0_1 h0_2 h0_3 h0_4 h0_5 s3p) (lpk1 (⟨rfl, rfl, rfl, rfl, rfl, rfl⟩ : h0_0 = h0_0 ∧ h0_1 = h0_1 ∧ h0_2 = h0_2 ∧ h0_3 = h0_3 ∧ h0_4 = h0_4 ∧ h0_5 = h0_5) inv (fun s3q => μ s3q < μ s3p))).mpr (hs s3p hi))⟩⟩
theorem bd11 : Callable Try.prog 11 := ⟨by rw [Try.func11]; kernel_rfl, by rw [Try.func11]; show some _ ≠ some _; decide⟩
theorem k19v (p0 : TBlock) (h : ∀ x ∈ p0.Txs, x.Outs.length ≤ 9223372036854775807) : kkn (p0.Parent, p0.Height, p0.Miner, p0.Work, p0.Nonce, p0.Txs, ()) (((smallBk p0) : Bool), ()) := by
  refine k1ep ⟨fun e => ?_, fun e => ?_⟩
  · have e := of_decide_eq_true e
    unfold smallBk
    rw [decide_eq_false (p := p0.Txs.length ≤ 6) (by omega)]
    rfl
  · have e := of_decide_eq_false e
    refine k1dq (fun i => 0 ≤ i ∧ i ≤ p0.Txs.length ∧ ∀ x ∈ p0.Txs.take i.toNat, smallB x 100 = true) (fun i => (p0.Txs.length - i).toNat) ⟨by omega, by omega, by simp⟩ ?_
    rintro i ⟨g0, g1, g2⟩
    refine ⟨fun hh => ?_, fun hh => ?_⟩
    · have hh := of_decide_eq_true hh
      have hm := ix_mem p0.Txs i g0 hh
      rw [inc i p0.Txs.length g0 hh (by omega)]
      refine ⟨g0, hh, h _ hm, fun e2 => ?_, fun e2 => ⟨⟨by omega, by omega, ?_⟩, by omega⟩⟩
      · have e2 : smallB (ix p0.Txs i) 100 = false := by simpa using e2
        unfold smallBk
        have : p0.Txs.all (fun t => smallB t 100) = false := List.all_eq_false.2 ⟨_, hm, by simp [e2]⟩
        rw [this]
        simp
      · rw [ka p0.Txs i g0 hh]
        intro t ht
        rcases List.mem_append.1 ht with ht | ht
        · exact g2 t ht
        · rw [List.mem_singleton.1 ht]; simpa using e2
    · have hh := of_decide_eq_false hh
      rw [List.take_of_length_le (by omega)] at g2
      unfold smallBk
      rw [decide_eq_true (p := p0.Txs.length ≤ 6) (by omega), List.all_eq_true.2 g2]
      rfl
noncomputable def km5 : Con TB.den := k2p.fnR (fun x => (fun (p0 : TBlock) => ∀ x ∈ p0.Txs, x.Outs.length ≤ 9223372036854775807) (TBlock.mk x.1 x.2.1 x.2.2.1 x.2.2.2.1 x.2.2.2.2.1 x.2.2.2.2.2.1)) fun x => ((fun (p0 : TBlock) => ((smallBk p0) : Bool)) (TBlock.mk x.1 x.2.1 x.2.2.1 x.2.2.2.1 x.2.2.2.2.1 x.2.2.2.2.2.1), ())
theorem kx5 : km5.Ok Try.prog TB := Con.ok_fn k2p bd11 fun x h => k1e2 (k19v (TBlock.mk x.1 x.2.1 x.2.2.1 x.2.2.2.1 x.2.2.2.2.1 x.2.2.2.2.2.1) h)
end Go.Proofs.Ytnmakgfmimagmaa
namespace Go.Proofs.Ytnmakgfmimagmaa
open Go Go.Bv Go.Cv Go.Md Go.RowKit
def k2f : Con TB.den := Con.mk0 5 [.agg [.d (.int .u64), .d (.int .i64), .d (.int .u64), .d (.int .u64), .d (.int .u64), .d (.sl (.st 1))]] [] (.one (.one (.d (.bool)))) []
abbrev kvl := HL TB.den (hsT k2f.ins (hsOs k2f.pre))
abbrev k6k := HL TB.den (hsV k2f.res (hsOs k2f.post))
noncomputable def k56 : Cx TB := ⟨inf, [kln, km5, kn2, k14d], [], 4, []⟩
noncomputable def k8m : Code := Try.f5.body.getD .skip
noncomputable def kaw : List ResultVar := Try.f5.results.toList
noncomputable def k18j (o : k6k) : Exit → TSt TB.den → Prop := thenT TB (fun s => ghs TB [] s fun s => WP TB k56 16 0 (cB (cB k8m)) .no s (retTQ TB k56 k2f kaw o)) (retTQ TB k56 k2f kaw o)
def kd3 : Tm := ⟨[0], [.cells [.d (.int .u64), .d (.int .i64), .d (.int .u64), .d (.int .u64), .d (.int .u64), .d (.sl (.st 1))]], [1, 9], [.one (.ptr 0 0), .one (.d (.bool))], 1⟩
noncomputable def kqg (o : k6k) (i : HL TB.den kd3.hs) : Prop := ghs TB [] (kd3.fill TB i) fun s => WP TB k56 16 0 (cB (cA (cB k8m))) .no s (k18j o)
structure k8i (o : k6k) (i : HL TB.den kd3.hs) : Prop where
  h : kqg o i
noncomputable def k18h (o : k6k) : An TB := .nd [] (.jn kd3 (k8i o) [] .no [] .no) [] .no
noncomputable def krj (o : k6k) : An TB := .nd [] .no [] (k18h o)
noncomputable def khf (x : kvl) (o : k6k) : Prop := WPh TB k56 16 0 k8m (krj o) (k2f.st TB x) (retTQ TB k56 k2f kaw o)
set_option maxRecDepth 100000 in
theorem k14z (o : k6k) : OblH TB k56 16 0 k8m (krj o) (retTQ TB k56 k2f kaw o) :=
  OblH.of_eq (X := (True ∧ ((True ∧ (∀ i, (k8i o) i = (kqg o) i) ∧ ((True ∧ True) ∧ True)) ∧ (True ∧ True)))) (by kernel_rfl) ⟨trivial, ⟨⟨trivial, fun _ => propext ⟨fun h => h.1, fun h => ⟨h⟩⟩, ⟨⟨trivial, trivial⟩, trivial⟩⟩, ⟨trivial, trivial⟩⟩⟩
set_option maxRecDepth 100000 in
theorem k14f {x : kvl} {o : k6k} (h : khf x o) : SoundH Try.prog k2f.f ((k2f.args idf x).map (er TB)) ((k2f.obs idf x).map (erO TB)) (er TB (k2f.val idf o)) ((k2f.ops idf o).map (erO TB)) :=
  Con.soundH (c := k2f) (C := k56) TBok ⟨inf_ok, (all_cons kwx (all_cons kx5 (all_cons k11a (all_cons k1li all_nil)))), all_nil⟩ mix Try.func5 (show Try.f5.body = some k8m by kernel_rfl) (show Try.f5.ntmps = 16 by kernel_rfl) (show Try.f5.results.toList = kaw by kernel_rfl) rfl h (k14z o)
set_option maxRecDepth 100000 in
theorem k19j {p0 : TBlock} {r0 : Bool} (h :
(((!true) = true →
 k8i (r0, ()) (true, p0.Parent, p0.Height, p0.Miner, p0.Work, p0.Nonce, p0.Txs, ())) ∧
((!true) = false →
(∀ x ∈ p0.Txs, x.Outs.length ≤ 9223372036854775807) ∧ k8i (r0, ()) (((!(smallBk p0)) : Bool), p0.Parent, p0.Height, p0.Miner, p0.Work, p0.Nonce, p0.Txs, ())))) : khf (p0.Parent, p0.Height, p0.Miner, p0.Work, p0.Nonce, p0.Txs, ()) (r0, ()) := WPh.of_eq (by kernel_rfl) h
set_option maxRecDepth 100000 in
theorem k101 {r0 : Bool} {s9 : Bool} {h0_0 : Int} {h0_1 : Int} {h0_2 : Int} {h0_3 : Int} {h0_4 : Int} {h0_5 : List TTx} (h :
((s9 = true →
 true = r0) ∧
(s9 = false →
(BR (TBlock.mk h0_0 h0_1 h0_2 h0_3 h0_4 h0_5)) ∧ let r1 : Int := (idB (TBlock.mk h0_0 h0_1 h0_2 h0_3 h0_4 h0_5))
(BR (TBlock.mk h0_0 h0_1 h0_2 h0_3 h0_4 h0_5) ∧ ∀ x ∈ (TBlock.mk h0_0 h0_1 h0_2 h0_3 h0_4 h0_5).Txs, TL x) ∧ let r2 : Int := (idB (TBlock.mk h0_0 h0_1 h0_2 h0_3 h0_4 h0_5))
(r1 == r2) = r0))) : k8i (r0, ()) (s9, h0_0, h0_1, h0_2, h0_3, h0_4, h0_5, ()) := ⟨mpr_of (by kernel_rfl) h⟩
theorem k13v (p0 : TBlock) (h : BR p0 ∧ ∀ x ∈ p0.Txs, x.Outs.length ≤ 9223372036854775807) : khf (p0.Parent, p0.Height, p0.Miner, p0.Work, p0.Nonce, p0.Txs, ()) ((true : Bool), ()) := by
  obtain ⟨hr, ho⟩ := h
  have j1 : ∀ s, (s = false → smallBk p0 = true) → k8i (true, ()) (s, p0.Parent, p0.Height, p0.Miner, p0.Work, p0.Nonce, p0.Txs, ()) := by
    intro s hs
    refine k101 ⟨fun _ => rfl, fun e => ?_⟩
    obtain ⟨h1, h2⟩ := kt5 (hs e)
    simp only [ku5]
    exact ⟨hr, ⟨hr, fun x hx => k12q (h2 x hx)⟩, by simp⟩
  refine k19j ⟨fun h => by simp at h, fun _ => ⟨ho, j1 _ fun e => by simpa using e⟩⟩
end Go.Proofs.Ytnmakgfmimagmaa
namespace Go.Proofs.Ytnmakgfmimagmaa
open Go Go.Bv Go.Cv Go.Md Go.RowKit
def k3c : Con TB.den := Con.mk0 20 [.one (.d (.int .u64)), .one (.d (.sl (.int .u8))), .one (.d (.sl (.int .u8)))] [] (.one (.one (.d (.bool)))) []
abbrev k10x := HL TB.den (hsT k3c.ins (hsOs k3c.pre))
abbrev kkw := HL TB.den (hsV k3c.res (hsOs k3c.post))
noncomputable def kek : Cx TB := ⟨inf, [kah], [], 4, []⟩
noncomputable def kki : Code := Try.f20.body.getD .skip
noncomputable def knw : List ResultVar := Try.f20.results.toList
noncomputable def kxq (o : kkw) : An TB := .no
noncomputable def kkk (x : k10x) (o : kkw) : Prop := WPh TB kek 21 0 kki (kxq o) (k3c.st TB x) (retTQ TB kek k3c knw o)
set_option maxRecDepth 100000 in
theorem k1bw (o : kkw) : OblH TB kek 21 0 kki (kxq o) (retTQ TB kek k3c knw o) :=
  OblH.of_eq (X := (True ∧ (True ∧ True))) (by kernel_rfl) ⟨trivial, ⟨trivial, trivial⟩⟩
set_option maxRecDepth 100000 in
theorem k1bh {x : k10x} {o : kkw} (h : kkk x o) : SoundH Try.prog k3c.f ((k3c.args idf x).map (er TB)) ((k3c.obs idf x).map (erO TB)) (er TB (k3c.val idf o)) ((k3c.ops idf o).map (erO TB)) :=
  Con.soundH (c := k3c) (C := kek) TBok ⟨inf_ok, (all_cons kgx all_nil), all_nil⟩ mix Try.func20 (show Try.f20.body = some kki by kernel_rfl) (show Try.f20.ntmps = 21 by kernel_rfl) (show Try.f20.results.toList = knw by kernel_rfl) rfl h (k1bw o)
set_option maxRecDepth 100000 in
theorem k1gx {p0 : Int} {p1 : List Int} {p2 : List Int} {r0 : Bool} (h :
(let v1 : Bool := (!((strOfNums p1).toList == (strOfNums p2).toList))
(v1 = true →
(U64 p0 ∧ By p1 ∧ p1.length ≤ 1099511627775) ∧ (U64 p0 ∧ By p2 ∧ p2.length ≤ 1099511627775) ∧ ((hashB p0 p1) == (hashB p0 p2)) = r0) ∧
(v1 = false →
 false = r0))) : kkk (p0, p1, p2, ()) (r0, ()) := WPh.of_eq (by kernel_rfl) h
theorem bd20 : Callable Try.prog 20 := ⟨by rw [Try.func20]; kernel_rfl, by rw [Try.func20]; show some _ ≠ some _; decide⟩
theorem k19c (p0 : Int) (p1 : List Int) (p2 : List Int) (h : U64 p0 ∧ (By p1 ∧ p1.length ≤ 1099511627775) ∧ By p2 ∧ p2.length ≤ 1099511627775) : kkk (p0, p1, p2, ()) (((clS p0 p1 p2) : Bool), ()) := by
  obtain ⟨hu, ⟨b1, l1⟩, b2, l2⟩ := h
  refine k1gx ?_
  dsimp only
  rw [strEq b1 b2]
  refine ⟨fun e => ⟨⟨hu, b1, l1⟩, ⟨hu, b2, l2⟩, ?_⟩, fun e => ?_⟩
  · unfold clS
    rw [e, Bool.true_and]
  · unfold clS
    rw [e, Bool.false_and]
noncomputable def kvi : Con TB.den := k3c.fnR (fun x => (fun (p0 : Int) (p1 : List Int) (p2 : List Int) => U64 p0 ∧ (By p1 ∧ p1.length ≤ 1099511627775) ∧ By p2 ∧ p2.length ≤ 1099511627775) x.1 x.2.1 x.2.2.1) fun x => ((fun (p0 : Int) (p1 : List Int) (p2 : List Int) => ((clS p0 p1 p2) : Bool)) x.1 x.2.1 x.2.2.1, ())
theorem k1gn : kvi.Ok Try.prog TB := Con.ok_fn k3c bd20 fun x h => k1bh (k19c x.1 x.2.1 x.2.2.1 h)
end Go.Proofs.Ytnmakgfmimagmaa
namespace Go.Proofs.Ytnmakgfmimagmaa
open Go Go.Bv Go.Cv Go.Md Go.RowKit
def kn : Con TB.den := Con.mk0 6 [.agg [.d (.int .u64), .d (.int .i64), .d (.int .u64), .d (.int .u64), .d (.int .u64), .d (.sl (.st 1))], .agg [.d (.int .u64), .d (.int .i64), .d (.int .u64), .d (.int .u64), .d (.int .u64), .d (.sl (.st 1))]] [] (.one (.one (.d (.bool)))) []
abbrev knh := HL TB.den (hsT kn.ins (hsOs kn.pre))
abbrev k28 := HL TB.den (hsV kn.res (hsOs kn.post))
noncomputable def k20 : Cx TB := ⟨inf, [kln, km5, klt, kn2, knd, klv, kvi, kch], [], 4, []⟩
noncomputable def k4t : Code := Try.f6.body.getD .skip
noncomputable def k5c : List ResultVar := Try.f6.results.toList
noncomputable def kzt (o : k28) : Exit → TSt TB.den → Prop := thenT TB (fun s => ghs TB [] s fun s => WP TB k20 71 0 (cB (cB (cB (cB (cB k4t))))) .no s (retTQ TB k20 kn k5c o)) (retTQ TB k20 kn k5c o)
def k5d : Tm := ⟨[0, 1], [.cells [.d (.int .u64), .d (.int .i64), .d (.int .u64), .d (.int .u64), .d (.int .u64), .d (.sl (.st 1))], .cells [.d (.int .u64), .d (.int .i64), .d (.int .u64), .d (.int .u64), .d (.int .u64), .d (.sl (.st 1))]], [2, 3, 46, 47], [.one (.ptr 0 0), .one (.ptr 1 0), .one (.d (.int .i64)), .one (.d (.int .i64))], 62⟩
noncomputable def k107 (o : k28) (nx1 : HL TB.den k5d.hs → Prop) : Exit → TSt TB.den → Prop := thenT TB (fun s => k5d.mat TB 0 s nx1) (blockT TB 0 (kzt o))
noncomputable def k7w (o : k28) (nx1 : HL TB.den k5d.hs → Prop) (i : HL TB.den k5d.hs) : Prop := WP TB k20 71 0 (cA (cA (cB (cA (cB (cB (cB (cB k4t)))))))) .no (k5d.fill TB i) (k107 o nx1)
noncomputable def kzq (o : k28) : An TB := .lp [] k5d (k7w o) fun nx1 => .no
noncomputable def kml (o : k28) : An TB := .nd [] .no [] (.nd [] (.nd [] .no [] (kzq o)) [] .no)
noncomputable def kzv (o : k28) : Exit → TSt TB.den → Prop := thenT TB (fun s => ghs TB [] s fun s => WP TB k20 71 0 (cB (cB k4t)) (.nd [] .no [] (kml o)) s (retTQ TB k20 kn k5c o)) (retTQ TB k20 kn k5c o)
def k9z : Tm := ⟨[0, 1], [.cells [.d (.int .u64), .d (.int .i64), .d (.int .u64), .d (.int .u64), .d (.int .u64), .d (.sl (.st 1))], .cells [.d (.int .u64), .d (.int .i64), .d (.int .u64), .d (.int .u64), .d (.int .u64), .d (.sl (.st 1))]], [2, 3, 27], [.one (.ptr 0 0), .one (.ptr 1 0), .one (.d (.bool))], 2⟩
noncomputable def kll (o : k28) (i : HL TB.den k9z.hs) : Prop := ghs TB [] (k9z.fill TB i) fun s => WP TB k20 71 0 (cB (cA (cB k4t))) .no s (kzv o)
structure k46 (o : k28) (i : HL TB.den k9z.hs) : Prop where
  h : kll o i
noncomputable def kyo (o : k28) : An TB := .nd [] (.jn k9z (k46 o) [] .no [] .no) [] (.nd [] .no [] (kml o))
noncomputable def kma (o : k28) : An TB := .nd [] .no [] (kyo o)
noncomputable def kd1 (x : knh) (o : k28) : Prop := WPh TB k20 71 0 k4t (kma o) (kn.st TB x) (retTQ TB k20 kn k5c o)
set_option maxRecDepth 100000 in
theorem kxw (o : k28) : OblH TB k20 71 0 k4t (kma o) (retTQ TB k20 kn k5c o) :=
  OblH.of_eq (X := (True ∧ ((True ∧ (∀ i, (k46 o) i = (kll o) i) ∧ ((True ∧ True) ∧ True)) ∧ ((True ∧ ((True ∧ True) ∧ True)) ∧ ((True ∧ ((True ∧ True) ∧ True)) ∧ ((True ∧ ((∀ nx i, (k7w o) nx i = (k7w o) nx i) ∧ ∀ nx1 : HL TB.den k5d.hs → Prop, (True ∧ ((True ∧ True) ∧ ((True ∧ (True ∧ ((True ∧ True) ∧ True))) ∧ True))))) ∧ (True ∧ True))))))) (by kernel_rfl) ⟨trivial, ⟨⟨trivial, fun _ => propext ⟨fun h => h.1, fun h => ⟨h⟩⟩, ⟨⟨trivial, trivial⟩, trivial⟩⟩, ⟨⟨trivial, ⟨⟨trivial, trivial⟩, trivial⟩⟩, ⟨⟨trivial, ⟨⟨trivial, trivial⟩, trivial⟩⟩, ⟨⟨trivial, ⟨fun _ _ => rfl, fun _ => ⟨trivial, ⟨⟨trivial, trivial⟩, ⟨⟨trivial, ⟨trivial, ⟨⟨trivial, trivial⟩, trivial⟩⟩⟩, trivial⟩⟩⟩⟩⟩, ⟨trivial, trivial⟩⟩⟩⟩⟩⟩
set_option maxRecDepth 100000 in
theorem kwq {x : knh} {o : k28} (h : kd1 x o) : SoundH Try.prog kn.f ((kn.args idf x).map (er TB)) ((kn.obs idf x).map (erO TB)) (er TB (kn.val idf o)) ((kn.ops idf o).map (erO TB)) :=
  Con.soundH (c := kn) (C := k20) TBok ⟨inf_ok, (all_cons kwx (all_cons kx5 (all_cons kx1 (all_cons k11a (all_cons k113 (all_cons kxx (all_cons k1gn (all_cons khs all_nil)))))))), all_nil⟩ mix Try.func6 (show Try.f6.body = some k4t by kernel_rfl) (show Try.f6.ntmps = 71 by kernel_rfl) (show Try.f6.results.toList = k5c by kernel_rfl) rfl h (kxw o)
set_option maxRecDepth 100000 in
theorem kzo {p0 : TBlock} {p1 : TBlock} {r0 : Bool} (h :
(((!true) = true →
 k46 (r0, ()) (true, p0.Parent, p0.Height, p0.Miner, p0.Work, p0.Nonce, p0.Txs, p1.Parent, p1.Height, p1.Miner, p1.Work, p1.Nonce, p1.Txs, ())) ∧
((!true) = false →
(∀ x ∈ p0.Txs, x.Outs.length ≤ 9223372036854775807) ∧ ((!(smallBk p0)) = true →
 k46 (r0, ()) (true, p0.Parent, p0.Height, p0.Miner, p0.Work, p0.Nonce, p0.Txs, p1.Parent, p1.Height, p1.Miner, p1.Work, p1.Nonce, p1.Txs, ())) ∧
((!(smallBk p0)) = false →
(∀ x ∈ p1.Txs, x.Outs.length ≤ 9223372036854775807) ∧ ((!(smallBk p1)) = true →
 k46 (r0, ()) (true, p0.Parent, p0.Height, p0.Miner, p0.Work, p0.Nonce, p0.Txs, p1.Parent, p1.Height, p1.Miner, p1.Work, p1.Nonce, p1.Txs, ())) ∧
((!(smallBk p1)) = false →
(∀ x ∈ p0.Txs, TR x ∧ TL x) ∧ (((validB p0) != 0) = true →
 k46 (r0, ()) (true, p0.Parent, p0.Height, p0.Miner, p0.Work, p0.Nonce, p0.Txs, p1.Parent, p1.Height, p1.Miner, p1.Work, p1.Nonce, p1.Txs, ())) ∧
(((validB p0) != 0) = false →
(∀ x ∈ p1.Txs, TR x ∧ TL x) ∧ k46 (r0, ()) ((((validB p1) != 0) : Bool), p0.Parent, p0.Height, p0.Miner, p0.Work, p0.Nonce, p0.Txs, p1.Parent, p1.Height, p1.Miner, p1.Work, p1.Nonce, p1.Txs, ()))))))) : kd1 (p0.Parent, p0.Height, p0.Miner, p0.Work, p0.Nonce, p0.Txs, p1.Parent, p1.Height, p1.Miner, p1.Work, p1.Nonce, p1.Txs, ()) (r0, ()) := WPh.of_eq (by kernel_rfl) h
set_option maxRecDepth 100000 in
theorem kt2 {r0 : Bool} {s27 : Bool} {h0_0 : Int} {h0_1 : Int} {h0_2 : Int} {h0_3 : Int} {h0_4 : Int} {h0_5 : List TTx} {h1_0 : Int} {h1_1 : Int} {h1_2 : Int} {h1_3 : Int} {h1_4 : Int} {h1_5 : List TTx} (h :
((s27 = true →
 true = r0) ∧
(s27 = false →
(BR (TBlock.mk h0_0 h0_1 h0_2 h0_3 h0_4 h0_5)) ∧ let r1 : Int := (idB (TBlock.mk h0_0 h0_1 h0_2 h0_3 h0_4 h0_5))
(BR (TBlock.mk h1_0 h1_1 h1_2 h1_3 h1_4 h1_5)) ∧ let r2 : Int := (idB (TBlock.mk h1_0 h1_1 h1_2 h1_3 h1_4 h1_5))
((r1 != r2) = true →
 true = r0) ∧
((r1 != r2) = false →
((TBlock.mk h0_0 h0_1 h0_2 h0_3 h0_4 h0_5).Txs.length ≤ 9223372036854775807 ∧ (∀ x ∈ (TBlock.mk h0_0 h0_1 h0_2 h0_3 h0_4 h0_5).Txs, TD x) ∧ (∀ x ∈ (TBlock.mk h1_0 h1_1 h1_2 h1_3 h1_4 h1_5).Txs, TD x)) ∧ let r3 : Bool := (sameB (TBlock.mk h0_0 h0_1 h0_2 h0_3 h0_4 h0_5) (TBlock.mk h1_0 h1_1 h1_2 h1_3 h1_4 h1_5))
(r3 = true →
 true = r0) ∧
(r3 = false →
(BR (TBlock.mk h0_0 h0_1 h0_2 h0_3 h0_4 h0_5) ∧ VB (TBlock.mk h0_0 h0_1 h0_2 h0_3 h0_4 h0_5)) ∧ let r4 : List Int := (namS (TBlock.mk h0_0 h0_1 h0_2 h0_3 h0_4 h0_5))
(BR (TBlock.mk h1_0 h1_1 h1_2 h1_3 h1_4 h1_5) ∧ VB (TBlock.mk h1_0 h1_1 h1_2 h1_3 h1_4 h1_5)) ∧ let r5 : List Int := (namS (TBlock.mk h1_0 h1_1 h1_2 h1_3 h1_4 h1_5))
(U64 (15 : Int) ∧ (By r4 ∧ r4.length ≤ 1099511627775) ∧ By r5 ∧ r5.length ≤ 1099511627775) ∧ ((clS (15 : Int) r4 r5) = true →
 true = r0) ∧
((clS (15 : Int) r4 r5) = false →
 Md.Loop (((h0_5.length : Int) : Int), (0 : Int), h0_0, h0_1, h0_2, h0_3, h0_4, h0_5, h1_0, h1_1, h1_2, h1_3, h1_4, h1_5, ()) (k7w (r0, ())))))))) : k46 (r0, ()) (s27, h0_0, h0_1, h0_2, h0_3, h0_4, h0_5, h1_0, h1_1, h1_2, h1_3, h1_4, h1_5, ()) := ⟨mpr_of (by kernel_rfl) h⟩
def kmj (r0 : Bool) (k1 : Int → Prop) (s46 : Int) (h0_0 : Int) (h0_1 : Int) (h0_2 : Int) (h0_3 : Int) (h0_4 : Int) (h0_5 : List TTx) (h1_0 : Int) (h1_1 : Int) (h1_2 : Int) (h1_3 : Int) (h1_4 : Int) (h1_5 : List TTx) (s47 : Int) : Prop :=
(decide (s47 < s46) = true →
(decide (s47 < (h1_5.length : Int)) = true →
(0 ≤ s47) ∧ s47 < (h0_5.length : Int) ∧ (TR (ix h0_5 s47) ∧ TL (ix h0_5 s47) ∧ (ix h0_5 s47).Outs.length ≤ 1048576 ∧ (∀ x ∈ (ix h0_5 s47).Outs, x.Cipher.length ≤ 1024)) ∧ (0 ≤ s47) ∧ s47 < (h1_5.length : Int) ∧ (TR (ix h1_5 s47) ∧ TL (ix h1_5 s47) ∧ (ix h1_5 s47).Outs.length ≤ 1048576 ∧ (∀ x ∈ (ix h1_5 s47).Outs, x.Cipher.length ≤ 1024)) ∧ (U64 (14 : Int) ∧ (By (encT (ix h0_5 s47) (ix h0_5 s47).Proof) ∧ (encT (ix h0_5 s47) (ix h0_5 s47).Proof).length ≤ 1099511627775) ∧ By (encT (ix h1_5 s47) (ix h1_5 s47).Proof) ∧ (encT (ix h1_5 s47) (ix h1_5 s47).Proof).length ≤ 1099511627775) ∧ let r6 : Bool := (clS (14 : Int) (encT (ix h0_5 s47) (ix h0_5 s47).Proof) (encT (ix h1_5 s47) (ix h1_5 s47).Proof))
(r6 = true →
 true = r0) ∧
(r6 = false →
 k1 (IntKind.i64.wrap (s47 + 1) : Int))) ∧
(decide (s47 < (h1_5.length : Int)) = false →
 k1 (IntKind.i64.wrap (s47 + 1) : Int))) ∧
(decide (s47 < s46) = false →
 false = r0)
set_option maxRecDepth 100000 in
theorem kz4 {r0 : Bool} {s46 : Int} {h0_0 : Int} {h0_1 : Int} {h0_2 : Int} {h0_3 : Int} {h0_4 : Int} {h0_5 : List TTx} {h1_0 : Int} {h1_1 : Int} {h1_2 : Int} {h1_3 : Int} {h1_4 : Int} {h1_5 : List TTx} {s47 : Int} (inv : Int → Prop) (μ : Int → Nat) (h0 : inv s47) (hs : ∀ (s47 : Int), inv s47 → kmj r0 (fun s47q => inv s47q ∧ μ s47q < μ s47) s46 h0_0 h0_1 h0_2 h0_3 h0_4 h0_5 h1_0 h1_1 h1_2 h1_3 h1_4 h1_5 s47) : Md.Loop (s46, s47, h0_0, h0_1, h0_2, h0_3, h0_4, h0_5, h1_0, h1_1, h1_2, h1_3, h1_4, h1_5, ()) (k7w (r0, ())) :=
  ⟨⟨fun s : Int × Int × Int × Int × Int × Int × Int × (List TTx) × Int × Int × Int × Int × Int × (List TTx) × Unit => (s.1 = s46 ∧ s.2.2.1 = h0_0 ∧ s.2.2.2.1 = h0_1 ∧ s.2.2.2.2.1 = h0_2 ∧ s.2.2.2.2.2.1 = h0_3 ∧ s.2.2.2.2.2.2.1 = h0_4 ∧ s.2.2.2.2.2.2.2.1 = h0_5 ∧ s.2.2.2.2.2.2.2.2.1 = h1_0 ∧ s.2.2.2.2.2.2.2.2.2.1 = h1_1 ∧ s.2.2.2.2.2.2.2.2.2.2.1 = h1_2 ∧ s.2.2.2.2.2.2.2.2.2.2.2.1 = h1_3 ∧ s.2.2.2.2.2.2.2.2.2.2.2.2.1 = h1_4 ∧ s.2.2.2.2.2.2.2.2.2.2.2.2.2.1 = h1_5) ∧ inv s.2.1, fun s : Int × Int × Int × Int × Int × Int × Int × (List TTx) × Int × Int × Int × Int × Int × (List TTx) × Unit => μ s.2.1, ⟨⟨rfl, rfl, rfl, rfl, rfl, rfl, rfl, rfl, rfl, rfl, rfl, rfl, rfl⟩, h0⟩, fun (s46p, s47p, h0_0p, h0_1p, h0_2p, h0_3p, h0_4p, h0_5p, h1_0p, h1_1p, h1_2p, h1_3p, h1_4p, h1_5p, ()) ⟨⟨eq0, eq1, eq2, eq3, eq4, eq5, eq6, eq7, eq8, eq9, eq10, eq11, eq12⟩, hi⟩ => by
    have eq0 : s46p = s46 := eq0; subst s46p; have eq1 : h0_0p = h0_0 := eq1; subst h0_0p; have eq2 : h0_1p = h0_1 := eq2; subst h0_1p; have eq3 : h0_2p = h0_2 := eq3; subst h0_2p; have eq4 : h0_3p = h0_3 := eq4; subst h0_3p; have eq5 : h0_4p = h0_4 := eq5; subst h0_4p; have eq6 : h0_5p = h0_5 := eq6; subst h0_5p; have eq7 : h1_0p = h1_0 := eq7; subst h1_0p; have eq8 : h1_1p = h1_1 := eq8; subst h1_1p; have eq9 : h1_2p = h1_2 := eq9; subst h1_2p; have eq10 : h1_3p = h1_3 := eq10; subst h1_3p; have eq11 : h1_4p = h1_4 := eq11; subst h1_4p; have eq12 : h1_5p = h1_5 := eq12; subst h1_5p; exact mpr_of (by kernel_rfl) ((congrArg (fun k => kmj r0 k s46 h0_0 h0_1 h0_2 h0_3 h0_4 h0_5 h1_0 h1_1 h1_2 h1_3 h1_4 h1_5 s47p) (lpk1 (⟨rfl, rfl, rfl, rfl, rfl, rfl, rfl, rfl, rfl, rfl, rfl, rfl, rfl⟩ : s46 = s46 ∧ h0_0 = h0_0 ∧ h0_1 = h0_1 ∧ h0_2 = h0_2 ∧ h0_3 = h0_3 ∧ h0_4 = h0_4 ∧ h0_5 = h0_5 ∧ h1_0 = h1_0 ∧ h1_1 = h1_1 ∧ h1_2 = h1_2 ∧ h1_3 = h1_3 ∧ h1_4 = h1_4 ∧ h1_5 = h1_5) inv (fun s47q => μ s47q < μ s47p))).mpr (hs s47p hi))⟩⟩
theorem kwa (p0 : TBlock) (p1 : TBlock) (h : (BR p0 ∧ ∀ x ∈ p0.Txs, x.Outs.length ≤ 9223372036854775807) ∧ BR p1 ∧ ∀ x ∈ p1.Txs, x.Outs.length ≤ 9223372036854775807) : kd1 (p0.Parent, p0.Height, p0.Miner, p0.Work, p0.Nonce, p0.Txs, p1.Parent, p1.Height, p1.Miner, p1.Work, p1.Nonce, p1.Txs, ()) ((true : Bool), ()) := by
  obtain ⟨⟨hr, ho⟩, kr, ko⟩ := h
  have j1 : ∀ s, (s = false → (smallBk p0 = true ∧ smallBk p1 = true) ∧ validB p0 = 0 ∧ validB p1 = 0) → k46 (true, ()) (s, p0.Parent, p0.Height, p0.Miner, p0.Work, p0.Nonce, p0.Txs, p1.Parent, p1.Height, p1.Miner, p1.Work, p1.Nonce, p1.Txs, ()) := by
    intro s hs
    refine kt2 ⟨fun _ => rfl, fun e => ?_⟩
    obtain ⟨⟨s0, s1⟩, v0, v1⟩ := hs e
    have w0 := (kcv p0).1 v0
    have w1 := (kcv p1).1 v1
    have l0 := w0.h.l
    have l1 := w1.h.l
    have td : ∀ {b : TBlock}, BR b → VB b → ∀ x ∈ b.Txs, TD x := fun r w x hx => ⟨r.t x hx, (w.vt hx).tl, ((w.vt hx).bl (r.t x hx)).2.2.1, ((w.vt hx).bl (r.t x hx)).2.2.2⟩
    simp only [ku5]
    refine ⟨hr, kr, fun _ => by simp, fun e => ?_⟩
    have e : idB p0 = idB p1 := by simpa using e
    unfold idB at e
    rw [if_pos v0, if_pos v1] at e
    refine ⟨⟨by omega, td hr w0, td kr w1⟩, ?_⟩
    try dsimp only
    refine ⟨fun _ => by simp, fun e2 => ⟨⟨hr, w0⟩, ⟨kr, w1⟩, ⟨by decide, ⟨namS_by _, by rw [kqs]; omega⟩, namS_by _, by rw [kqs]; omega⟩, fun _ => by simp, fun e3 => ?_⟩⟩
    have e4 : namS p0 = namS p1 := by
      unfold clS at e3
      rw [e] at e3
      simpa using e3
    obtain ⟨d1, d2, d3, d4, d5, d6, d7⟩ := k1ms hr w0 kr w1 e4
    refine kz4 (fun i => 0 ≤ i ∧ i ≤ p0.Txs.length ∧ ∀ j : Nat, (j : Int) < i → ix p0.Txs j = ix p1.Txs j) (fun i => (p0.Txs.length - i).toNat) ⟨by omega, by omega, fun j hj => by omega⟩ ?_
    rintro i ⟨g0, g1, g2⟩
    refine ⟨fun hh => ?_, fun hh => ?_⟩
    · have hh := of_decide_eq_true hh
      have hh2 : i < p1.Txs.length := by omega
      have hm := ix_mem p0.Txs i g0 hh
      have km := ix_mem p1.Txs i g0 hh2
      refine ⟨fun _ => ⟨g0, hh, (w0.vt hm).bl (hr.t _ hm), g0, hh2, (w1.vt km).bl (kr.t _ km), ⟨by decide, ⟨encT_by (hr.t _ hm).p, encT_le (w0.vt hm)⟩, encT_by (kr.t _ km).p, encT_le (w1.vt km)⟩, fun _ => by simp, fun e5 => ?_⟩, fun h3 => absurd hh2 (of_decide_eq_false h3)⟩
      rw [inc i p0.Txs.length g0 hh (by omega)]
      have e6 : idS (ix p0.Txs i) = idS (ix p1.Txs i) := by
        have := congrArg (fun l => l[i.toNat]?) d7
        simp only [List.getElem?_map] at this
        rw [ix_nat _ i g0 hh, ix_nat _ i g0 hh2]
        rw [List.getElem?_eq_getElem (show i.toNat < p0.Txs.length by omega), List.getElem?_eq_getElem (show i.toNat < p1.Txs.length by omega)] at this
        simpa using this
      unfold idS at e6
      rw [if_pos (w0.t _ hm), if_pos (w1.t _ km)] at e6
      have e7 : encT (ix p0.Txs i) (ix p0.Txs i).Proof = encT (ix p1.Txs i) (ix p1.Txs i).Proof := by
        unfold clS at e5
        rw [e6] at e5
        simpa using e5
      have e8 := enc_inj ⟨hr.t _ hm, w0.vt hm, e7⟩ ⟨kr.t _ km, w1.vt km, rfl⟩
      refine ⟨⟨by omega, by omega, fun j hj => ?_⟩, by omega⟩
      by_cases hji : (j : Int) = i
      · rw [hji]; exact e8
      · exact g2 j (by omega)
    · have hh := of_decide_eq_false hh
      exfalso
      have : sameB p0 p1 = true := decide_eq_true ⟨d1, d2, d3, d4, d5, d6, fun j hj => by rw [g2 j (by omega)]; exact k1k1 _⟩
      rw [this] at e2
      cases e2
  refine kzo ⟨fun h => by simp at h, fun _ => ⟨ho, fun _ => j1 _ (fun h => by cases h), fun e1 => ⟨ko, fun _ => j1 _ (fun h => by cases h), fun e2 => ?_⟩⟩⟩
  have s0 : smallBk p0 = true := by simpa using e1
  have s1 : smallBk p1 = true := by simpa using e2
  have t0 := fun x hx => k12q ((kt5 s0).2 x hx)
  have t1 := fun x hx => k12q ((kt5 s1).2 x hx)
  refine ⟨fun x hx => ⟨hr.t x hx, t0 x hx⟩, fun _ => j1 _ (fun h => by cases h), fun e3 => ⟨fun x hx => ⟨kr.t x hx, t1 x hx⟩, j1 _ fun e4 => ⟨⟨s0, s1⟩, by simpa using e3, by simpa using e4⟩⟩⟩
end Go.Proofs.Ytnmakgfmimagmaa
