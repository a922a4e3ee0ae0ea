/-
  Parts of the proofs that the laws of this seat hold of every input, merged by a program: a machine over pure data that is sound for the model, what each function of the translation does in it, and plain lemmas. No conditions but those in each theorem.
-/
import Derived.Test.YtnmakgfmimagmaaA3
set_option linter.all false
namespace Go.Proofs.Ytnmakgfmimagmaa
open Go Go.Bv Go.Cv Go.Md Go.RowKit
def k1c : Con TB.den := Con.mk0 59 [.one (.d (.sl (.st 0)))] [] (.one (.one (.d (.bool)))) []
abbrev kva := HL TB.den (hsT k1c.ins (hsOs k1c.pre))
abbrev k2c := HL TB.den (hsV k1c.res (hsOs k1c.post))
noncomputable def k46 : Cx TB := ⟨inf, [ksc], [], 4⟩
noncomputable def k5m : Code := Try.f59.body.getD .skip
noncomputable def kb0 : List ResultVar := Try.f59.results.toList
noncomputable def k191 (o : k2c) : Exit → TSt TB.den → Prop := thenT TB (fun s => ghs TB [] s fun s => WP TB k46 42 0 (cB (cB (cB k5m))) .no s (retTQ TB k46 k1c kb0 o)) (retTQ TB k46 k1c kb0 o)
def k1p : Tm := ⟨[], [], [10, 11, 12], [.one (.d (.sl (.st 0))), .one (.d (.int .i64)), .one (.d (.int .i64))], 0⟩
noncomputable def kkq (o : k2c) (nx2 : HL TB.den k1p.hs → Prop) : Exit → TSt TB.den → Prop := thenT TB (fun s => k1p.mat TB 0 s nx2) (blockT TB 0 (k191 o))
noncomputable def k1a9 (o : k2c) (nx2 : HL TB.den k1p.hs → Prop) : Exit → TSt TB.den → Prop := thenT TB (fun s => ghs TB [] s fun s => WP TB k46 42 0 (cB (cB (cB (cA (cA (cB (cA (cB (cB k5m))))))))) .no s (kkq o nx2)) (kkq o nx2)
def k6p : Tm := ⟨[0], [.cells [.d (.int .u64), .d (.int .u64), .d (.int .u64), .d (.sl (.int .u64))]], [10, 11, 12, 20, 21, 22, 23, 26, 27, 28, 29, 32, 33, 34], [.one (.d (.sl (.st 0))), .one (.d (.int .i64)), .one (.d (.int .i64)), .one (.ptr 0 1), .agg [.d (.int .u64), .d (.int .u64)], .one (.d (.bool)), .one (.d (.bool)), .one (.ptr 0 3), .one (.d (.sl (.int .u64))), .one (.d (.int .i64)), .one (.d (.bool)), .one (.d (.sl (.int .u64))), .one (.d (.int .i64)), .one (.d (.int .i64))], 1⟩
noncomputable def k196 (o : k2c) (nx2 : HL TB.den k1p.hs → Prop) (nx1 : HL TB.den k6p.hs → Prop) : Exit → TSt TB.den → Prop := thenT TB (fun s => k6p.mat TB 0 s nx1) (blockT TB 2 (blockT TB 1 (k1a9 o nx2)))
noncomputable def kbf (o : k2c) (nx2 : HL TB.den k1p.hs → Prop) (nx1 : HL TB.den k6p.hs → Prop) (i : HL TB.den k6p.hs) : Prop := WP TB k46 42 0 (cA (cA (cB (cB (cB (cA (cA (cB (cB (cA (cA (cB (cA (cB (cB k5m))))))))))))))) .no (k6p.fill TB i) (k196 o nx2 nx1)
noncomputable def k19h (o : k2c) (nx2 : HL TB.den k1p.hs → Prop) : An TB := .lp [] k6p (kbf o nx2) fun nx1 => .no
noncomputable def k18j (o : k2c) (nx2 : HL TB.den k1p.hs → Prop) : An TB := .nd [] .no [] (.nd [] .no [] (.nd [] .no [] (k19h o nx2)))
noncomputable def kq4 (o : k2c) (nx2 : HL TB.den k1p.hs → Prop) : An TB := .nd [] .no [] (.nd [] .no [] (.nd [] (k18j o nx2) [] .no))
noncomputable def kb4 (o : k2c) (nx2 : HL TB.den k1p.hs → Prop) (i : HL TB.den k1p.hs) : Prop := WP TB k46 42 0 (cA (cA (cB (cA (cB (cB k5m)))))) (kq4 o nx2) (k1p.fill TB i) (kkq o nx2)
noncomputable def k16j (o : k2c) : An TB := .lp [] k1p (kb4 o) fun nx2 => (kq4 o nx2)
noncomputable def k15s (o : k2c) : An TB := .nd [] .no [] (.nd [] (.nd [] .no [] (k16j o)) [] .no)
noncomputable def krx (o : k2c) : An TB := .nd [] .no [] (k15s o)
noncomputable def khu (x : kva) (o : k2c) : Prop := WPh TB k46 42 0 k5m (krx o) (k1c.st TB x) (retTQ TB k46 k1c kb0 o)
set_option maxRecDepth 100000 in
theorem k16w (o : k2c) : OblH TB k46 42 0 k5m (krx o) (retTQ TB k46 k1c kb0 o) :=
  OblH.of_eq (X := (True ∧ ((True ∧ ((True ∧ True) ∧ True)) ∧ ((True ∧ ((∀ nx i, (kb4 o) nx i = (kb4 o) nx i) ∧ ∀ nx2 : HL TB.den k1p.hs → Prop, (True ∧ ((True ∧ True) ∧ ((True ∧ ((True ∧ ((True ∧ True) ∧ True)) ∧ (True ∧ ((∀ nx i, (kbf o nx2) nx i = (kbf o nx2) nx i) ∧ ∀ nx1 : HL TB.den k6p.hs → Prop, (True ∧ ((True ∧ True) ∧ ((True ∧ (True ∧ ((True ∧ True) ∧ True))) ∧ True))))))) ∧ True))))) ∧ (True ∧ True))))) (by kernel_rfl) ⟨trivial, ⟨⟨trivial, ⟨⟨trivial, trivial⟩, trivial⟩⟩, ⟨⟨trivial, ⟨fun _ _ => rfl, fun _ => ⟨trivial, ⟨⟨trivial, trivial⟩, ⟨⟨trivial, ⟨⟨trivial, ⟨⟨trivial, trivial⟩, trivial⟩⟩, ⟨trivial, ⟨fun _ _ => rfl, fun _ => ⟨trivial, ⟨⟨trivial, trivial⟩, ⟨⟨trivial, ⟨trivial, ⟨⟨trivial, trivial⟩, trivial⟩⟩⟩, trivial⟩⟩⟩⟩⟩⟩⟩, trivial⟩⟩⟩⟩⟩, ⟨trivial, trivial⟩⟩⟩⟩
set_option maxRecDepth 100000 in
theorem k154 {x : kva} {o : k2c} (h : khu x o) : SoundH Try.prog k1c.f ((k1c.args idf x).map (er TB)) ((k1c.obs idf x).map (erO TB)) (er TB (k1c.val idf o)) ((k1c.ops idf o).map (erO TB)) :=
  Con.soundH (c := k1c) (C := k46) TBok ⟨inf_ok, (all_cons k1b1 all_nil), all_nil⟩ mix Try.func59 (show Try.f59.body = some k5m by kernel_rfl) (show Try.f59.ntmps = 42 by kernel_rfl) (show Try.f59.results.toList = kb0 by kernel_rfl) rfl h (k16w o)
set_option maxRecDepth 100000 in
theorem k1ai {p0 : List TOut} {r0 : Bool} (h :
((decide (4 < (p0.length : Int)) = true →
 false = r0) ∧
(decide (4 < (p0.length : Int)) = false →
 Md.Loop (p0, ((p0.length : Int) : Int), (0 : Int), ()) (kb4 (r0, ()))))) : khu (p0, ()) (r0, ()) := WPh.of_eq (by kernel_rfl) h
def kss (r0 : Bool) (nx2 : HL TB.den k1p.hs → Prop) (k2 : Int → Prop) (s10 : List TOut) (s11 : Int) (s12 : Int) : Prop :=
(decide (s12 < s11) = true →
(0 ≤ s12) ∧ s12 < (s10.length : Int) ∧ let v1 : Bool := decide (18446744069414584321 ≤ ((ix s10 s12).Commit))
(v1 = true →
 false = r0) ∧
(v1 = false →
 let r2 : Bool := vPoint (TA2.mk ((ix s10 s12).Point_a0) ((ix s10 s12).Point_a1)).a0 (TA2.mk ((ix s10 s12).Point_a0) ((ix s10 s12).Point_a1)).a1
((!r2) = true →
 false = r0) ∧
((!r2) = false →
 let v3 : Bool := ((((ix s10 s12).Cipher).length : Int) != 3)
(v3 = true →
 false = r0) ∧
(v3 = false →
 Md.Loop (s10, s11, s12, ((ix s10 s12).Point_a0 : Int), ((ix s10 s12).Point_a1 : Int), r2, ((!r2) : Bool), ((ix s10 s12).Cipher : List Int), ((((ix s10 s12).Cipher).length : Int) : Int), v3, ((ix s10 s12).Cipher : List Int), ((((ix s10 s12).Cipher).length : Int) : Int), (0 : Int), ((ix s10 s12).Commit : Int), ((ix s10 s12).Point_a0 : Int), ((ix s10 s12).Point_a1 : Int), ((ix s10 s12).Cipher : List Int), ()) (kbf (r0, ()) nx2))))) ∧
(decide (s12 < s11) = false →
 true = r0)
set_option maxRecDepth 100000 in
theorem k162 {r0 : Bool} {s10 : List TOut} {s11 : Int} {s12 : Int} (inv : Int → Prop) (μ : Int → Nat) (h0 : inv s12) (hs : ∀ (s12 : Int), inv s12 → kss r0 (fun s : (List TOut) × Int × Int × Unit => ((s.1 = s10 ∧ s.2.1 = s11) ∧ inv s.2.2.1) ∧ μ s.2.2.1 < μ s12) (fun s12q => inv s12q ∧ μ s12q < μ s12) s10 s11 s12) : Md.Loop (s10, s11, s12, ()) (kb4 (r0, ())) :=
  ⟨⟨fun s : (List TOut) × Int × Int × Unit => (s.1 = s10 ∧ s.2.1 = s11) ∧ inv s.2.2.1, fun s : (List TOut) × Int × Int × Unit => μ s.2.2.1, ⟨⟨rfl, rfl⟩, h0⟩, fun (s10p, s11p, s12p, ()) ⟨⟨eq0, eq1⟩, hi⟩ => by
    have eq0 : s10p = s10 := eq0; subst s10p; have eq1 : s11p = s11 := eq1; subst s11p; exact mpr_of (by kernel_rfl) ((congrArg (fun k => kss r0 (fun s : (List TOut) × Int × Int × Unit => ((s.1 = s10 ∧ s.2.1 = s11) ∧ inv s.2.2.1) ∧ μ s.2.2.1 < μ s12p) k s10 s11 s12p) (lpk1 (⟨rfl, rfl⟩ : s10 = s10 ∧ s11 = s11) inv (fun s12q => μ s12q < μ s12p))).mpr (hs s12p hi))⟩⟩
def ksa (r0 : Bool) (nx2 : HL TB.den k1p.hs → Prop) (k1 : Int → Prop) (s10 : List TOut) (s11 : Int) (s12 : Int) (s21_0 : Int) (s21_1 : Int) (s22 : Bool) (s23 : Bool) (s27 : List Int) (s28 : Int) (s29 : Bool) (s32 : List Int) (s33 : Int) (h0_0 : Int) (h0_1 : Int) (h0_2 : Int) (h0_3 : List Int) (s34 : Int) : Prop :=
(decide (s34 < s33) = true →
(0 ≤ s34) ∧ s34 < (s32.length : Int) ∧ let v4 : Bool := decide (18446744069414584321 ≤ (ix s32 s34))
(v4 = true →
 false = r0) ∧
(v4 = false →
 k1 (IntKind.i64.wrap (s34 + 1) : Int))) ∧
(decide (s34 < s33) = false →
 nx2 (s10, s11, (IntKind.i64.wrap (s12 + 1) : Int), ()))
set_option maxRecDepth 100000 in
theorem k15h {r0 : Bool} {nx2 : HL TB.den k1p.hs → Prop} {s10 : List TOut} {s11 : Int} {s12 : Int} {s21_0 : Int} {s21_1 : Int} {s22 : Bool} {s23 : Bool} {s27 : List Int} {s28 : Int} {s29 : Bool} {s32 : List Int} {s33 : Int} {h0_0 : Int} {h0_1 : Int} {h0_2 : Int} {h0_3 : List Int} {s34 : Int} (inv : Int → Prop) (μ : Int → Nat) (h0 : inv s34) (hs : ∀ (s34 : Int), inv s34 → ksa r0 nx2 (fun s34q => inv s34q ∧ μ s34q < μ s34) s10 s11 s12 s21_0 s21_1 s22 s23 s27 s28 s29 s32 s33 h0_0 h0_1 h0_2 h0_3 s34) : Md.Loop (s10, s11, s12, s21_0, s21_1, s22, s23, s27, s28, s29, s32, s33, s34, h0_0, h0_1, h0_2, h0_3, ()) (kbf (r0, ()) nx2) :=
  ⟨⟨fun s : (List TOut) × Int × Int × Int × Int × Bool × Bool × (List Int) × Int × Bool × (List Int) × Int × Int × Int × Int × Int × (List Int) × Unit => (s.1 = s10 ∧ s.2.1 = s11 ∧ s.2.2.1 = s12 ∧ s.2.2.2.1 = s21_0 ∧ s.2.2.2.2.1 = s21_1 ∧ s.2.2.2.2.2.1 = s22 ∧ s.2.2.2.2.2.2.1 = s23 ∧ s.2.2.2.2.2.2.2.1 = s27 ∧ s.2.2.2.2.2.2.2.2.1 = s28 ∧ s.2.2.2.2.2.2.2.2.2.1 = s29 ∧ s.2.2.2.2.2.2.2.2.2.2.1 = s32 ∧ s.2.2.2.2.2.2.2.2.2.2.2.1 = s33 ∧ s.2.2.2.2.2.2.2.2.2.2.2.2.2.1 = h0_0 ∧ s.2.2.2.2.2.2.2.2.2.2.2.2.2.2.1 = h0_1 ∧ s.2.2.2.2.2.2.2.2.2.2.2.2.2.2.2.1 = h0_2 ∧ s.2.2.2.2.2.2.2.2.2.2.2.2.2.2.2.2.1 = h0_3) ∧ inv s.2.2.2.2.2.2.2.2.2.2.2.2.1, fun s : (List TOut) × Int × Int × Int × Int × Bool × Bool × (List Int) × Int × Bool × (List Int) × Int × Int × Int × Int × Int × (List Int) × Unit => μ s.2.2.2.2.2.2.2.2.2.2.2.2.1, ⟨⟨rfl, rfl, rfl, rfl, rfl, rfl, rfl, rfl, rfl, rfl, rfl, rfl, rfl, rfl, rfl, rfl⟩, h0⟩, fun (s10p, s11p, s12p, s21_0p, s21_1p, s22p, s23p, s27p, s28p, s29p, s32p, s33p, s34p, h0_0p, h0_1p, h0_2p, h0_3p, ()) ⟨⟨eq0, eq1, eq2, eq3, eq4, eq5, eq6, eq7, eq8, eq9, eq10, eq11, eq12, eq13, eq14, eq15⟩, hi⟩ => by
    have eq0 : s10p = s10 := eq0; subst s10p; have eq1 : s11p = s11 := eq1; subst s11p; have eq2 : s12p = s12 := eq2; subst s12p; have eq3 : s21_0p = s21_0 := eq3; subst s21_0p; have eq4 : s21_1p = s21_1 := eq4; subst s21_1p; have eq5 : s22p = s22 := eq5; subst s22p; have eq6 : s23p = s23 := eq6; subst s23p; have eq7 : s27p = s27 := eq7; subst s27p; have eq8 : s28p = s28 := eq8; subst s28p; have eq9 : s29p = s29 := eq9; subst s29p; have eq10 : s32p = s32 := eq10; subst s32p; have eq11 : s33p = s33 := eq11; subst s33p; have eq12 : h0_0p = h0_0 := eq12; subst h0_0p; have eq13 : h0_1p = h0_1 := eq13; subst h0_1p; have eq14 : h0_2p = h0_2 := eq14; subst h0_2p; have eq15 : h0_3p = h0_3 := eq15; subst h0_3p; exact mpr_of (by kernel_rfl) ((congrArg (fun k => ksa r0 nx2 k s10 s11 s12 s21_0 s21_1 s22 s23 s27 s28 s29 s32 s33 h0_0 h0_1 h0_2 h0_3 s34p) (lpk1 (⟨rfl, rfl, rfl, rfl, rfl, rfl, rfl, rfl, rfl, rfl, rfl, rfl, rfl, rfl, rfl, rfl⟩ : s10 = s10 ∧ s11 = s11 ∧ s12 = s12 ∧ s21_0 = s21_0 ∧ s21_1 = s21_1 ∧ s22 = s22 ∧ s23 = s23 ∧ s27 = s27 ∧ s28 = s28 ∧ s29 = s29 ∧ s32 = s32 ∧ s33 = s33 ∧ h0_0 = h0_0 ∧ h0_1 = h0_1 ∧ h0_2 = h0_2 ∧ h0_3 = h0_3) inv (fun s34q => μ s34q < μ s34p))).mpr (hs s34p hi))⟩⟩
theorem bd59 : Callable Try.prog 59 := ⟨by rw [Try.func59]; kernel_rfl, by rw [Try.func59]; show some _ ≠ some _; decide⟩
theorem k134 (p0 : List TOut) : khu (p0, ()) ((vOuts p0 : Bool), ()) := by
  refine k1ai ⟨fun h => ?_, fun h => ?_⟩
  · have h := of_decide_eq_true h
    unfold vOuts
    rw [decide_eq_false (by omega)]
    rfl
  · have h := of_decide_eq_false h
    have bad : ∀ i, 0 ≤ i → i < (p0.length : Int) → vOut (ix p0 i) = false → false = vOuts p0 := by
      intro i h0 h1 hb
      unfold vOuts
      have : p0.all vOut = false := List.all_eq_false.2 ⟨_, ix_mem p0 i h0 h1, by simp [hb]⟩
      rw [this]
      simp
    refine k162 (fun i => 0 ≤ i ∧ i ≤ p0.length ∧ ∀ x ∈ p0.take i.toNat, vOut x = true) (fun i => (p0.length - i).toNat) ⟨by omega, by omega, by simp⟩ ?_
    rintro i ⟨g0, g1, g2⟩
    refine ⟨fun hh => ?_, fun hh => ?_⟩
    · have hh := of_decide_eq_true hh
      have bd := bad i g0 hh
      unfold vOut at bd
      refine ⟨g0, hh, fun e => bd ?_, fun e => ⟨fun e2 => bd ?_, fun e2 => ⟨fun e3 => bd ?_, fun e3 => ?_⟩⟩⟩
      · have e := of_decide_eq_true e
        rw [decide_eq_false (by omega)]
        rfl
      · have e2 : vPoint (ix p0 i).Point_a0 (ix p0 i).Point_a1 = false := by simpa using e2
        simp [e2]
      · have e3 : ¬ (ix p0 i).Cipher.length = 3 := by
          have : ¬ ((ix p0 i).Cipher.length : Int) = 3 := by simpa using e3
          omega
        simp [e3]
      · have e := of_decide_eq_false e
        have e2 : vPoint (ix p0 i).Point_a0 (ix p0 i).Point_a1 = true := by simpa using e2
        have e3 : (ix p0 i).Cipher.length = 3 := by
          have : ((ix p0 i).Cipher.length : Int) = 3 := by simpa using e3
          omega
        refine k15h (fun k => 0 ≤ k ∧ k ≤ 3 ∧ ∀ x ∈ (ix p0 i).Cipher.take k.toNat, x < 18446744069414584321) (fun k => (3 - k).toNat) ⟨by omega, by omega, by simp⟩ ?_
        rintro k ⟨k0, k1, k2⟩
        refine ⟨fun hk => ?_, fun hk => ?_⟩
        · have hk := of_decide_eq_true hk
          refine ⟨k0, hk, fun e4 => bd ?_, fun e4 => ?_⟩
          · have e4 := of_decide_eq_true e4
            have : (ix p0 i).Cipher.all (fun n => decide (n < 18446744069414584321)) = false := List.all_eq_false.2 ⟨_, ix_mem _ k k0 hk, by simp; omega⟩
            rw [this]
            simp
          · have e4 := of_decide_eq_false e4
            rw [inc k 3 k0 (by omega) (by omega)]
            refine ⟨⟨by omega, by omega, ?_⟩, by omega⟩
            rw [ka _ k k0 hk]
            intro x hx
            rcases List.mem_append.1 hx with hx | hx
            · exact k2 x hx
            · have : x = ix (ix p0 i).Cipher k := by simpa using hx
              omega
        · have hk := of_decide_eq_false hk
          rw [List.take_of_length_le (by omega)] at k2
          have hv : vOut (ix p0 i) = true := (kwv _).2 ⟨by omega, e2, e3, k2⟩
          have hi := inc i p0.length g0 hh (by omega)
          rw [hi]
          have nxt : (0 ≤ i + 1 ∧ i + 1 ≤ p0.length ∧ ∀ x ∈ p0.take (i + 1).toNat, vOut x = true) ∧ (p0.length - (i + 1)).toNat < (p0.length - i).toNat := by
            refine ⟨⟨by omega, by omega, ?_⟩, by omega⟩
            rw [ka p0 i g0 hh]
            intro x hx
            rcases List.mem_append.1 hx with hx | hx
            · exact g2 x hx
            · have : x = ix p0 i := by simpa using hx
              rw [this]; exact hv
          exact ⟨⟨⟨rfl, rfl⟩, nxt.1⟩, nxt.2⟩
    · have hh := of_decide_eq_false hh
      rw [List.take_of_length_le (by omega)] at g2
      unfold vOuts
      have : p0.all vOut = true := by simpa using g2
      rw [this, decide_eq_true (by omega)]
      rfl
noncomputable def kpg : Con TB.den := k1c.totR fun x => ((fun (p0 : List TOut) => (vOuts p0 : Bool)) x.1, ())
theorem k19i : kpg.Ok Try.prog TB := Con.ok_tot k1c bd59 fun x => k154 (k134 x.1)
end Go.Proofs.Ytnmakgfmimagmaa
namespace Go.Proofs.Ytnmakgfmimagmaa
open Go Go.Bv Go.Cv Go.Md Go.RowKit
def k49 : Con TB.den := Con.mk0 29 [.agg [.d (.int .u64), .d (.sl (.int .u64)), .d (.sl (.st 0)), .d (.int .u64), .d (.int .u64), .d (.int .u64), .d (.int .u64), .d (.int .u64), .d (.int .i64), .d (.sl (.int .u8))]] [] (.one (.one (.d (.int .i64)))) []
abbrev k194 := HL TB.den (hsT k49.ins (hsOs k49.pre))
abbrev kp6 := HL TB.den (hsV k49.res (hsOs k49.post))
noncomputable def ki4 : Cx TB := ⟨inf, [koy, kpg, kla], [], 4⟩
noncomputable def kny : Code := Try.f29.body.getD .skip
noncomputable def ksy : List ResultVar := Try.f29.results.toList
noncomputable def k14n (o : kp6) : An TB := .no
noncomputable def ko2 (x : k194) (o : kp6) : Prop := WPh TB ki4 35 0 kny (k14n o) (k49.st TB x) (retTQ TB ki4 k49 ksy o)
set_option maxRecDepth 100000 in
theorem k1ji (o : kp6) : OblH TB ki4 35 0 kny (k14n o) (retTQ TB ki4 k49 ksy o) :=
  OblH.of_eq (X := (True ∧ ((True ∧ ((True ∧ True) ∧ True)) ∧ ((True ∧ ((True ∧ True) ∧ True)) ∧ ((True ∧ ((True ∧ True) ∧ True)) ∧ (True ∧ True)))))) (by kernel_rfl) ⟨trivial, ⟨⟨trivial, ⟨⟨trivial, trivial⟩, trivial⟩⟩, ⟨⟨trivial, ⟨⟨trivial, trivial⟩, trivial⟩⟩, ⟨⟨trivial, ⟨⟨trivial, trivial⟩, trivial⟩⟩, ⟨trivial, trivial⟩⟩⟩⟩⟩
set_option maxRecDepth 100000 in
theorem k1kc {x : k194} {o : kp6} (h : ko2 x o) : SoundH Try.prog k49.f ((k49.args idf x).map (er TB)) ((k49.obs idf x).map (erO TB)) (er TB (k49.val idf o)) ((k49.ops idf o).map (erO TB)) :=
  Con.soundH (c := k49) (C := ki4) TBok ⟨inf_ok, (all_cons k15t (all_cons k19i (all_cons k11q all_nil))), all_nil⟩ mix Try.func29 (show Try.f29.body = some kny by kernel_rfl) (show Try.f29.ntmps = 35 by kernel_rfl) (show Try.f29.results.toList = ksy by kernel_rfl) rfl h (k1ji o)
set_option maxRecDepth 100000 in
theorem k1ma {p0 : TTx} {r0 : Int} (h :
(((!vMarks p0.Marks) = true →
 1 = r0) ∧
((!vMarks p0.Marks) = false →
((!vOuts p0.Outs) = true →
 1 = r0) ∧
((!vOuts p0.Outs) = false →
((!vAmounts p0) = true →
 1 = r0) ∧
((!vAmounts p0) = false →
 let v1 : Bool := decide (18446744069414584321 ≤ p0.Anchor)
(v1 = true →
 1 = r0) ∧
(v1 = false →
(decide (p0.Expiry < 0) = true →
 1 = r0) ∧
(decide (p0.Expiry < 0) = false →
(decide (1048576 < p0.Expiry) = true →
 1 = r0) ∧
(decide (1048576 < p0.Expiry) = false →
 let v2 : Bool := decide (1048576 < (p0.Proof.length : Int))
(v2 = true →
 3 = r0) ∧
(v2 = false →
 0 = r0))))))))) : ko2 (p0.Anchor, p0.Marks, p0.Outs, p0.Deposit, p0.Withdraw, p0.Fee, p0.Account, p0.Nonce, p0.Expiry, p0.Proof, ()) (r0, ()) := WPh.of_eq (by kernel_rfl) h
theorem bd29 : Callable Try.prog 29 := ⟨by rw [Try.func29]; kernel_rfl, by rw [Try.func29]; show some _ ≠ some _; decide⟩
theorem k1hl (p0 : TTx) : ko2 (p0.Anchor, p0.Marks, p0.Outs, p0.Deposit, p0.Withdraw, p0.Fee, p0.Account, p0.Nonce, p0.Expiry, p0.Proof, ()) ((validE p0 : Int), ()) := by
  refine k1ma ?_
  unfold validE vRest
  grind
noncomputable def kkh : Con TB.den := k49.totR fun x => ((fun (p0 : TTx) => (validE p0 : Int)) (TTx.mk x.1 x.2.1 x.2.2.1 x.2.2.2.1 x.2.2.2.2.1 x.2.2.2.2.2.1 x.2.2.2.2.2.2.1 x.2.2.2.2.2.2.2.1 x.2.2.2.2.2.2.2.2.1 x.2.2.2.2.2.2.2.2.2.1), ())
theorem kth : kkh.Ok Try.prog TB := Con.ok_tot k49 bd29 fun x => k1kc (k1hl (TTx.mk x.1 x.2.1 x.2.2.1 x.2.2.2.1 x.2.2.2.2.1 x.2.2.2.2.2.1 x.2.2.2.2.2.2.1 x.2.2.2.2.2.2.2.1 x.2.2.2.2.2.2.2.2.1 x.2.2.2.2.2.2.2.2.2.1))
end Go.Proofs.Ytnmakgfmimagmaa
namespace Go.Proofs.Ytnmakgfmimagmaa
open Go Go.Bv Go.Cv Go.Md Go.RowKit
def ke : Con TB.den := Con.mk0 85 [.one (.own 0), .one (.d (.int .u64)), .one (.d (.int .i64))] [.tip (.int .u8)] (.one (.one (.own 0))) [.tip (.int .u8)]
abbrev kl4 := HL TB.den (hsT ke.ins (hsOs ke.pre))
abbrev k4d := HL TB.den (hsV ke.res (hsOs ke.post))
noncomputable def k37 : Cx TB := ⟨inf, [], [], 4⟩
noncomputable def k5t : Code := Try.f85.body.getD .skip
noncomputable def k6k : List ResultVar := Try.f85.results.toList
noncomputable def kw2 (o : k4d) : Exit → TSt TB.den → Prop := thenT TB (fun s => ghs TB [] s fun s => WP TB k37 19 1 (cB (cB k5t)) .no s (retTQ TB k37 ke k6k o)) (retTQ TB k37 ke k6k o)
def k4m : Tm := ⟨[0], [.tip (.int .u8)], [0, 1, 7, 8], [.one (.own 0), .one (.d (.int .u64)), .one (.d (.int .i64)), .one (.d (.int .i64))], 1⟩
noncomputable def kwg (o : k4d) (nx1 : HL TB.den k4m.hs → Prop) : Exit → TSt TB.den → Prop := thenT TB (fun s => k4m.mat TB 1 s nx1) (blockT TB 0 (kw2 o))
noncomputable def k6r (o : k4d) (nx1 : HL TB.den k4m.hs → Prop) (i : HL TB.den k4m.hs) : Prop := WP TB k37 19 1 (cA (cA (cB (cA (cB k5t))))) .no (k4m.fill TB i) (kwg o nx1)
noncomputable def kww (o : k4d) : An TB := .lp [] k4m (k6r o) fun nx1 => .no
noncomputable def kk4 (o : k4d) : An TB := .nd [] .no [] (.nd [] (.nd [] .no [] (kww o)) [] .no)
noncomputable def kbw (x : kl4) (o : k4d) : Prop := WPh TB k37 19 1 k5t (kk4 o) (ke.st TB x) (retTQ TB k37 ke k6k o)
set_option maxRecDepth 100000 in
theorem kv9 (o : k4d) : OblH TB k37 19 1 k5t (kk4 o) (retTQ TB k37 ke k6k o) :=
  OblH.of_eq (X := (True ∧ ((True ∧ ((∀ nx i, (k6r o) nx i = (k6r o) nx i) ∧ ∀ nx1 : HL TB.den k4m.hs → Prop, (True ∧ ((True ∧ True) ∧ ((True ∧ True) ∧ True))))) ∧ (True ∧ True)))) (by kernel_rfl) ⟨trivial, ⟨⟨trivial, ⟨fun _ _ => rfl, fun _ => ⟨trivial, ⟨⟨trivial, trivial⟩, ⟨⟨trivial, trivial⟩, trivial⟩⟩⟩⟩⟩, ⟨trivial, trivial⟩⟩⟩
set_option maxRecDepth 100000 in
theorem ku0 {x : kl4} {o : k4d} (h : kbw x o) : SoundH Try.prog ke.f ((ke.args idf x).map (er TB)) ((ke.obs idf x).map (erO TB)) (er TB (ke.val idf o)) ((ke.ops idf o).map (erO TB)) :=
  Con.soundH (c := ke) (C := k37) TBok ⟨inf_ok, all_nil, all_nil⟩ mix Try.func85 (show Try.f85.body = some k5t by kernel_rfl) (show Try.f85.ntmps = 19 by kernel_rfl) (show Try.f85.results.toList = k6k by kernel_rfl) rfl h (kv9 o)
set_option maxRecDepth 100000 in
theorem kvq {p1 : Int} {p2 : Int} {w0 : List Int} {e0 : List Int} (h :
((w0 = w0) ∧ Md.Loop (p1, p2, (0 : Int), w0, ()) (k6r (e0, ())))) : kbw (p1, p2, w0, ()) (e0, ()) := WPh.of_eq (by kernel_rfl) h
def kkw (e0 : List Int) (k1 : Int → Int → List Int → Prop) (s7 : Int) (s1 : Int) (s8 : Int) (g0 : List Int) : Prop :=
(decide (s8 < s7) = true →
 g0.length = g0.length ∧ (g0.length + [IntKind.u8.wrap s1].length) * 1 ≤ 140737488355328 ∧ g0.length + [IntKind.u8.wrap s1].length ≤ maxLen ∧ (g0 ++ [IntKind.u8.wrap s1] = g0 ++ [IntKind.u8.wrap s1]) ∧ k1 (ishr .u64 s1 8 : Int) (IntKind.i64.wrap (s8 + 1) : Int) (g0 ++ [IntKind.u8.wrap s1] : List Int)) ∧
(decide (s8 < s7) = false →
(g0 = g0) ∧ g0 = e0)
set_option maxRecDepth 100000 in
theorem kub {e0 : List Int} {s7 : Int} {s1 : Int} {s8 : Int} {g0 : List Int} (inv : Int → Int → List Int → Prop) (μ : Int → Int → List Int → Nat) (h0 : inv s1 s8 g0) (hs : ∀ (s1 : Int) (s8 : Int) (g0 : List Int), inv s1 s8 g0 → kkw e0 (fun s1q s8q g0q => inv s1q s8q g0q ∧ μ s1q s8q g0q < μ s1 s8 g0) s7 s1 s8 g0) : Md.Loop (s1, s7, s8, g0, ()) (k6r (e0, ())) :=
  ⟨⟨fun s : Int × Int × Int × (List Int) × Unit => (s.2.1 = s7) ∧ inv s.1 s.2.2.1 s.2.2.2.1, fun s : Int × Int × Int × (List Int) × Unit => μ s.1 s.2.2.1 s.2.2.2.1, ⟨rfl, h0⟩, fun (s1p, s7p, s8p, g0p, ()) ⟨eq0, hi⟩ => by
    have eq0 : s7p = s7 := eq0; subst s7p; exact mpr_of (by kernel_rfl) ((congrArg (fun k => kkw e0 k s7 s1p s8p g0p) (lpk3 (rfl : s7 = s7) inv (fun s1q s8q g0q => μ s1q s8q g0q < μ s1p s8p g0p))).mpr (hs s1p s8p g0p hi))⟩⟩
theorem bd85 : Callable Try.prog 85 := ⟨by rw [Try.func85]; kernel_rfl, by rw [Try.func85]; show some _ ≠ some _; decide⟩
theorem ksz (p1 : Int) (p2 : Int) (w0 : List Int) (h : U64 p1 ∧ (0 ≤ p2 ∧ p2 ≤ 8) ∧ w0.length ≤ 137438953472) : kbw (p1, p2, w0, ()) ((w0 ++ dig p2.toNat p1 : List Int), ()) := by
  obtain ⟨h1, h2, h3⟩ := h
  refine kvq ⟨rfl, kub (fun n i g => 0 ≤ i ∧ i ≤ p2 ∧ U64 n ∧ n = p1 / 256 ^ i.toNat ∧ g = w0 ++ dig i.toNat p1) (fun _ i _ => (p2 - i).toNat) ⟨by omega, by omega, h1, by simp, by simp [dig]⟩ ?_⟩
  rintro n i g ⟨g0, g1, g2, g3, rfl⟩
  refine ⟨fun h => ?_, fun h => ?_⟩
  · have h := of_decide_eq_true h
    rw [inc i p2 g0 h (by omega), ishr8, u8w]
    refine ⟨rfl, ?_, ?_, rfl, ⟨by omega, by omega, ⟨by omega, by omega⟩, ?_, ?_⟩, by omega⟩
    · simp; omega
    · simp; unfold maxLen; omega
    · rw [g3, show (i + 1).toNat = i.toNat + 1 by omega, Int.ediv_ediv_of_nonneg (Int.le_of_lt (kdq _)), Int.pow_succ]
    · rw [show (i + 1).toNat = i.toNat + 1 by omega, kvw, List.append_assoc, g3]
  · have h := of_decide_eq_false h
    exact ⟨rfl, by rw [show i = p2 by omega]⟩
noncomputable def k8i : Con TB.den := ke.fnR (fun x => (fun (p1 : Int) (p2 : Int) (w0 : List Int) => U64 p1 ∧ (0 ≤ p2 ∧ p2 ≤ 8) ∧ w0.length ≤ 137438953472) x.1 x.2.1 x.2.2.1) fun x => ((fun (p1 : Int) (p2 : Int) (w0 : List Int) => (w0 ++ dig p2.toNat p1 : List Int)) x.1 x.2.1 x.2.2.1, ())
theorem kdh : k8i.Ok Try.prog TB := Con.ok_fn ke bd85 fun x h => ku0 (ksz x.1 x.2.1 x.2.2.1 h)
end Go.Proofs.Ytnmakgfmimagmaa
namespace Go.Proofs.Ytnmakgfmimagmaa
open Go Go.Bv Go.Cv Go.Md Go.RowKit
def kj : Con TB.den := Con.mk0 73 [.one (.own 0), .one (.d (.int .i64))] [.tip (.int .u8)] (.one (.one (.own 0))) [.tip (.int .u8)]
abbrev kl5 := HL TB.den (hsT kj.ins (hsOs kj.pre))
abbrev k53 := HL TB.den (hsV kj.res (hsOs kj.post))
noncomputable def k4l : Cx TB := ⟨inf, [k8i], [], 4⟩
noncomputable def k7x : Code := Try.f73.body.getD .skip
noncomputable def k9a : List ResultVar := Try.f73.results.toList
def k8j : Tm := ⟨[0], [.tip (.int .u8)], [0, 1], [.one (.own 0), .one (.d (.int .i64))], 1⟩
noncomputable def kjr (o : k53) (i : HL TB.den k8j.hs) : Prop := ghs TB [] (k8j.fill TB i) fun s => WP TB k4l 15 1 (cB (cB k7x)) .no s (retTQ TB k4l kj k9a o)
structure k4k (o : k53) (i : HL TB.den k8j.hs) : Prop where
  h : kjr o i
noncomputable def kw1 (o : k53) : An TB := .jn k8j (k4k o) [] .no [] .no
noncomputable def kkv (o : k53) : An TB := .nd [] .no [] (kw1 o)
noncomputable def kbr (x : kl5) (o : k53) : Prop := WPh TB k4l 15 1 k7x (kkv o) (kj.st TB x) (retTQ TB k4l kj k9a o)
set_option maxRecDepth 100000 in
theorem ktn (o : k53) : OblH TB k4l 15 1 k7x (kkv o) (retTQ TB k4l kj k9a o) :=
  OblH.of_eq (X := (True ∧ ((True ∧ (True ∧ True)) ∧ (∀ i, (k4k o) i = (kjr o) i) ∧ (True ∧ True)))) (by kernel_rfl) ⟨trivial, ⟨⟨trivial, ⟨trivial, trivial⟩⟩, fun _ => propext ⟨fun h => h.1, fun h => ⟨h⟩⟩, ⟨trivial, trivial⟩⟩⟩
set_option maxRecDepth 100000 in
theorem ktw {x : kl5} {o : k53} (h : kbr x o) : SoundH Try.prog kj.f ((kj.args idf x).map (er TB)) ((kj.obs idf x).map (erO TB)) (er TB (kj.val idf o)) ((kj.ops idf o).map (erO TB)) :=
  Con.soundH (c := kj) (C := k4l) TBok ⟨inf_ok, (all_cons kdh all_nil), all_nil⟩ mix Try.func73 (show Try.f73.body = some k7x by kernel_rfl) (show Try.f73.ntmps = 15 by kernel_rfl) (show Try.f73.results.toList = k9a by kernel_rfl) rfl h (ktn o)
set_option maxRecDepth 100000 in
theorem kwc {p1 : Int} {w0 : List Int} {e0 : List Int} (h :
((decide (p1 < 0) = true →
(w0 = w0) ∧ k4k (e0, ()) ((0 : Int), w0, ())) ∧
(decide (p1 < 0) = false →
(decide (4294967295 < p1) = true →
(w0 = w0) ∧ k4k (e0, ()) ((0 : Int), w0, ())) ∧
(decide (4294967295 < p1) = false →
(w0 = w0) ∧ k4k (e0, ()) (p1, w0, ()))))) : kbr (p1, w0, ()) (e0, ()) := WPh.of_eq (by kernel_rfl) h
set_option maxRecDepth 100000 in
theorem kr7 {e0 : List Int} {s1 : Int} {g0 : List Int} (h :
((g0 = g0) ∧ (U64 (IntKind.u64.wrap s1) ∧ (0 ≤ (4 : Int) ∧ (4 : Int) ≤ 8) ∧ g0.length ≤ 137438953472) ∧ let r1 : List Int := g0 ++ dig (4 : Int).toNat (IntKind.u64.wrap s1)
(r1 = r1) ∧ r1 = e0)) : k4k (e0, ()) (s1, g0, ()) := ⟨mpr_of (by kernel_rfl) h⟩
theorem bd73 : Callable Try.prog 73 := ⟨by rw [Try.func73]; kernel_rfl, by rw [Try.func73]; show some _ ≠ some _; decide⟩
theorem ktc (p1 : Int) (w0 : List Int) (h : (-9223372036854775808 ≤ p1 ∧ p1 ≤ 9223372036854775807) ∧ w0.length ≤ 137438953472) : kbr (p1, w0, ()) ((w0 ++ dig 4 (len4 p1) : List Int), ()) := by
  obtain ⟨h1, h2⟩ := h
  have j : ∀ n, 0 ≤ n → n ≤ 4294967295 → len4 p1 = n → k4k ((w0 ++ dig 4 (len4 p1) : List Int), ()) (n, w0, ()) := by
    intro n h0 h1 e
    refine kr7 ?_
    rw [wu n (by omega) (by omega), e]
    exact ⟨rfl, ⟨⟨h0, by omega⟩, by omega, h2⟩, by trivial, rfl⟩
  refine kwc ⟨fun h => ⟨rfl, j 0 (by omega) (by omega) ?_⟩, fun h => ⟨fun h' => ⟨rfl, j 0 (by omega) (by omega) ?_⟩, fun h' => ⟨rfl, j p1 ?_ ?_ ?_⟩⟩⟩
  · have h := of_decide_eq_true h; exact if_pos (.inl h)
  · have h' := of_decide_eq_true h'; exact if_pos (.inr h')
  · have h := of_decide_eq_false h; omega
  · have h' := of_decide_eq_false h'; omega
  · have h := of_decide_eq_false h; have h' := of_decide_eq_false h'; exact len4_in ⟨by omega, by omega⟩
noncomputable def k8g : Con TB.den := kj.fnR (fun x => (fun (p1 : Int) (w0 : List Int) => (-9223372036854775808 ≤ p1 ∧ p1 ≤ 9223372036854775807) ∧ w0.length ≤ 137438953472) x.1 x.2.1) fun x => ((fun (p1 : Int) (w0 : List Int) => (w0 ++ dig 4 (len4 p1) : List Int)) x.1 x.2.1, ())
theorem ke3 : k8g.Ok Try.prog TB := Con.ok_fn kj bd73 fun x h => ktw (ktc x.1 x.2.1 h)
end Go.Proofs.Ytnmakgfmimagmaa
namespace Go.Proofs.Ytnmakgfmimagmaa
open Go Go.Bv Go.Cv Go.Md Go.RowKit
def k2e : Con TB.den := Con.mk0 74 [.one (.d (.sl (.int .u8))), .one (.d (.int .i64))] [] (.one (.one (.own 0))) [.tip (.int .u8)]
abbrev kx5 := HL TB.den (hsT k2e.ins (hsOs k2e.pre))
abbrev keh := HL TB.den (hsV k2e.res (hsOs k2e.post))
noncomputable def kd2 : Cx TB := ⟨inf, [], [], 4⟩
noncomputable def kiz : Code := Try.f74.body.getD .skip
noncomputable def klm : List ResultVar := Try.f74.results.toList
noncomputable def k1c8 (o : keh) : An TB := .nd [] .no [] (.nd [] .no [] (.nd [] .no [] (.rt [.frz 0 [4]])))
noncomputable def kto (o : keh) : An TB := .nd [] .no [] (k1c8 o)
noncomputable def kjc (x : kx5) (o : keh) : Prop := WPh TB kd2 17 0 kiz (kto o) (k2e.st TB x) (retTQ TB kd2 k2e klm o)
set_option maxRecDepth 100000 in
theorem k1at (o : keh) : OblH TB kd2 17 0 kiz (kto o) (retTQ TB kd2 k2e klm o) :=
  OblH.of_eq (X := (True ∧ (True ∧ (True ∧ (True ∧ True))))) (by kernel_rfl) ⟨trivial, ⟨trivial, ⟨trivial, ⟨trivial, trivial⟩⟩⟩⟩
set_option maxRecDepth 100000 in
theorem k18m {x : kx5} {o : keh} (h : kjc x o) : SoundH Try.prog k2e.f ((k2e.args idf x).map (er TB)) ((k2e.obs idf x).map (erO TB)) (er TB (k2e.val idf o)) ((k2e.ops idf o).map (erO TB)) :=
  Con.soundH (c := k2e) (C := kd2) TBok ⟨inf_ok, all_nil, all_nil⟩ mix Try.func74 (show Try.f74.body = some kiz by kernel_rfl) (show Try.f74.ntmps = 17 by kernel_rfl) (show Try.f74.results.toList = klm by kernel_rfl) rfl h (k1at o)
set_option maxRecDepth 100000 in
theorem k1dm {p0 : List Int} {p1 : Int} {e0 : List Int} (h :
(let v1 : Int := IntKind.i64.wrap ((p0.length : Int) + p1)
 0 ≤ (p0.length : Int) ∧ (p0.length : Int) ≤ v1 ∧ (v1.toNat * 1 ≤ 140737488355328) ∧ (v1.toNat ≤ maxLen) ∧ (p0.length : Int).toNat = (List.replicate ((p0.length : Int).toNat) (0 : Int)).length ∧ let v2 : Int := ((min p0.length (List.replicate ((p0.length : Int).toNat) (0 : Int)).length : Nat) : Int)
((p0.length : Int).toNat = (rowOver (List.replicate ((p0.length : Int).toNat) (0 : Int)) p0 (List.replicate ((p0.length : Int).toNat) (0 : Int)).length).length) ∧ (rowOver (List.replicate ((p0.length : Int).toNat) (0 : Int)) p0 (List.replicate ((p0.length : Int).toNat) (0 : Int)).length = rowOver (List.replicate ((p0.length : Int).toNat) (0 : Int)) p0 (List.replicate ((p0.length : Int).toNat) (0 : Int)).length) ∧ rowOver (List.replicate ((p0.length : Int).toNat) (0 : Int)) p0 (List.replicate ((p0.length : Int).toNat) (0 : Int)).length = e0)) : kjc (p0, p1, ()) (e0, ()) := WPh.of_eq (by kernel_rfl) h
theorem k17h (p0 : List Int) (p1 : Int) (h : 0 ≤ p1 ∧ p0.length + p1 ≤ 140737488355328) : kjc (p0, p1, ()) ((p0 : List Int), ()) := by
  obtain ⟨h1, h2⟩ := h
  refine k1dm ?_
  rw [wi _ (by omega) (by omega)]
  have e : rowOver (List.replicate ((p0.length : Int).toNat) (0 : Int)) p0 (List.replicate ((p0.length : Int).toNat) (0 : Int)).length = p0 := k14o _ _ (by simp)
  simp only [e]
  exact ⟨by omega, by omega, by omega, by unfold maxLen; omega, by simp, by omega, by trivial, by trivial⟩
noncomputable def kba : Con TB.den := k2e.fnR (fun x => (fun (p0 : List Int) (p1 : Int) => 0 ≤ p1 ∧ p0.length + p1 ≤ 140737488355328) x.1 x.2.1) fun x => ((fun (p0 : List Int) (p1 : Int) => (p0 : List Int)) x.1 x.2.1, ())
theorem kh3 : kba.Ok Try.prog TB := Con.ok_fn k2e bd74 fun x h => k18m (k17h x.1 x.2.1 h)
end Go.Proofs.Ytnmakgfmimagmaa
namespace Go.Proofs.Ytnmakgfmimagmaa
open Go Go.Bv Go.Cv Go.Md Go.RowKit
def k2x : Con TB.den := Con.mk0 46 [.one (.d (.sl (.int .u8))), .one (.d (.sl (.int .u8)))] [] (.one (.one (.d (.sl (.int .u8))))) []
abbrev k11i := HL TB.den (hsT k2x.ins (hsOs k2x.pre))
abbrev kkt := HL TB.den (hsV k2x.res (hsOs k2x.post))
noncomputable def ke7 : Cx TB := ⟨inf, [kba, k8g], [], 4⟩
noncomputable def kk0 : Code := Try.f46.body.getD .skip
noncomputable def kob : List ResultVar := Try.f46.results.toList
noncomputable def kxb (o : kkt) : An TB := .no
noncomputable def kk7 (x : k11i) (o : kkt) : Prop := WPh TB ke7 17 0 kk0 (kxb o) (k2x.st TB x) (retTQ TB ke7 k2x kob o)
set_option maxRecDepth 100000 in
theorem k1ce (o : kkt) : OblH TB ke7 17 0 kk0 (kxb o) (retTQ TB ke7 k2x kob o) :=
  OblH.of_eq (X := (True ∧ (True ∧ (True ∧ True)))) (by kernel_rfl) ⟨trivial, ⟨trivial, ⟨trivial, trivial⟩⟩⟩
set_option maxRecDepth 100000 in
theorem k1bl {x : k11i} {o : kkt} (h : kk7 x o) : SoundH Try.prog k2x.f ((k2x.args idf x).map (er TB)) ((k2x.obs idf x).map (erO TB)) (er TB (k2x.val idf o)) ((k2x.ops idf o).map (erO TB)) :=
  Con.soundH (c := k2x) (C := ke7) TBok ⟨inf_ok, (all_cons kh3 (all_cons ke3 all_nil)), all_nil⟩ mix Try.func46 (show Try.f46.body = some kk0 by kernel_rfl) (show Try.f46.ntmps = 17 by kernel_rfl) (show Try.f46.results.toList = kob by kernel_rfl) rfl h (k1ce o)
set_option maxRecDepth 100000 in
theorem k1f4 {p0 : List Int} {p1 : List Int} {r0 : List Int} (h :
((0 ≤ (IntKind.i64.wrap (4 + (p1.length : Int))) ∧ p0.length + (IntKind.i64.wrap (4 + (p1.length : Int))) ≤ 140737488355328) ∧ (p0 = p0) ∧ ((-9223372036854775808 ≤ (p1.length : Int) ∧ (p1.length : Int) ≤ 9223372036854775807) ∧ p0.length ≤ 137438953472) ∧ (p0 ++ dig 4 (len4 (p1.length : Int))).length = (p0 ++ dig 4 (len4 (p1.length : Int))).length ∧ ((p0 ++ dig 4 (len4 (p1.length : Int))).length + p1.length) * 1 ≤ 140737488355328 ∧ (p0 ++ dig 4 (len4 (p1.length : Int))).length + p1.length ≤ maxLen ∧ let v1 : List Int := (p0 ++ dig 4 (len4 (p1.length : Int))) ++ p1
 v1 = r0)) : kk7 (p0, p1, ()) (r0, ()) := WPh.of_eq (by kernel_rfl) h
theorem bd46 : Callable Try.prog 46 := ⟨by rw [Try.func46]; kernel_rfl, by rw [Try.func46]; show some _ ≠ some _; decide⟩
theorem k18h (p0 : List Int) (p1 : List Int) (h : p0.length ≤ 68719476736 ∧ p1.length ≤ 4294967295) : kk7 (p0, p1, ()) ((p0 ++ encB p1 : List Int), ()) := by
  obtain ⟨h1, h2⟩ := h
  refine k1f4 ?_
  rw [wi (4 + (p1.length : Int)) (by omega) (by omega)]
  refine ⟨⟨by omega, by omega⟩, by trivial, ⟨by omega, by omega⟩, by trivial, ?_, ?_, ?_⟩
  · simp; omega
  · simp; unfold maxLen; omega
  · rw [List.append_assoc]; rfl
noncomputable def kln : Con TB.den := k2x.fnR (fun x => (fun (p0 : List Int) (p1 : List Int) => p0.length ≤ 68719476736 ∧ p1.length ≤ 4294967295) x.1 x.2.1) fun x => ((fun (p0 : List Int) (p1 : List Int) => (p0 ++ encB p1 : List Int)) x.1 x.2.1, ())
theorem kxp : kln.Ok Try.prog TB := Con.ok_fn k2x bd46 fun x h => k1bl (k18h x.1 x.2.1 h)
end Go.Proofs.Ytnmakgfmimagmaa
namespace Go.Proofs.Ytnmakgfmimagmaa
open Go Go.Bv Go.Cv Go.Md Go.RowKit
def k4c : Con TB.den := Con.mk0 71 [.one (.d (.sl (.int .u8))), .one (.d (.int .i64))] [] (.one (.one (.d (.sl (.int .u8))))) []
abbrev k18q := HL TB.den (hsT k4c.ins (hsOs k4c.pre))
abbrev kp5 := HL TB.den (hsV k4c.res (hsOs k4c.post))
noncomputable def ki8 : Cx TB := ⟨inf, [kba, k8g], [], 4⟩
noncomputable def ko8 : Code := Try.f71.body.getD .skip
noncomputable def ktb : List ResultVar := Try.f71.results.toList
noncomputable def k147 (o : kp5) : An TB := .no
noncomputable def ko5 (x : k18q) (o : kp5) : Prop := WPh TB ki8 9 0 ko8 (k147 o) (k4c.st TB x) (retTQ TB ki8 k4c ktb o)
set_option maxRecDepth 100000 in
theorem k1jt (o : kp5) : OblH TB ki8 9 0 ko8 (k147 o) (retTQ TB ki8 k4c ktb o) :=
  OblH.of_eq (X := (True ∧ (True ∧ True))) (by kernel_rfl) ⟨trivial, ⟨trivial, trivial⟩⟩
set_option maxRecDepth 100000 in
theorem k1kh {x : k18q} {o : kp5} (h : ko5 x o) : SoundH Try.prog k4c.f ((k4c.args idf x).map (er TB)) ((k4c.obs idf x).map (erO TB)) (er TB (k4c.val idf o)) ((k4c.ops idf o).map (erO TB)) :=
  Con.soundH (c := k4c) (C := ki8) TBok ⟨inf_ok, (all_cons kh3 (all_cons ke3 all_nil)), all_nil⟩ mix Try.func71 (show Try.f71.body = some ko8 by kernel_rfl) (show Try.f71.ntmps = 9 by kernel_rfl) (show Try.f71.results.toList = ktb by kernel_rfl) rfl h (k1jt o)
set_option maxRecDepth 100000 in
theorem k1mw {p0 : List Int} {p1 : Int} {r0 : List Int} (h :
((0 ≤ (4 : Int) ∧ p0.length + (4 : Int) ≤ 140737488355328) ∧ (p0 = p0) ∧ ((-9223372036854775808 ≤ p1 ∧ p1 ≤ 9223372036854775807) ∧ p0.length ≤ 137438953472) ∧ p0 ++ dig 4 (len4 p1) = r0)) : ko5 (p0, p1, ()) (r0, ()) := WPh.of_eq (by kernel_rfl) h
theorem bd71 : Callable Try.prog 71 := ⟨by rw [Try.func71]; kernel_rfl, by rw [Try.func71]; show some _ ≠ some _; decide⟩
theorem k1hh (p0 : List Int) (p1 : Int) (h : (-9223372036854775808 ≤ p1 ∧ p1 ≤ 9223372036854775807) ∧ p0.length ≤ 137438953472) : ko5 (p0, p1, ()) ((p0 ++ dig 4 (len4 p1) : List Int), ()) := by
  obtain ⟨h1, h2⟩ := h
  exact k1mw ⟨⟨by omega, by omega⟩, by trivial, ⟨h1, h2⟩, rfl⟩
noncomputable def kqt : Con TB.den := k4c.fnR (fun x => (fun (p0 : List Int) (p1 : Int) => (-9223372036854775808 ≤ p1 ∧ p1 ≤ 9223372036854775807) ∧ p0.length ≤ 137438953472) x.1 x.2.1) fun x => ((fun (p0 : List Int) (p1 : Int) => (p0 ++ dig 4 (len4 p1) : List Int)) x.1 x.2.1, ())
theorem k146 : kqt.Ok Try.prog TB := Con.ok_fn k4c bd71 fun x h => k1kh (k1hh x.1 x.2.1 h)
end Go.Proofs.Ytnmakgfmimagmaa
namespace Go.Proofs.Ytnmakgfmimagmaa
open Go Go.Bv Go.Cv Go.Md Go.RowKit
def k2k : Con TB.den := Con.mk0 90 [.one (.d (.sl (.int .u8))), .one (.d (.sl (.int .u64)))] [] (.one (.one (.d (.sl (.int .u8))))) []
abbrev k14b := HL TB.den (hsT k2k.ins (hsOs k2k.pre))
abbrev k9d := HL TB.den (hsV k2k.res (hsOs k2k.post))
noncomputable def k74 : Cx TB := ⟨inf, [kba, k8g, k8i], [], 4⟩
noncomputable def kch : Code := Try.f90.body.getD .skip
noncomputable def kfe : List ResultVar := Try.f90.results.toList
noncomputable def k1k5 (o : k9d) : Exit → TSt TB.den → Prop := thenT TB (fun s => ghs TB [] s fun s => WP TB k74 28 0 (cB (cB (cB kch))) .no s (retTQ TB k74 k2k kfe o)) (retTQ TB k74 k2k kfe o)
def kad : Tm := ⟨[0], [.tip (.int .u8)], [5, 17, 18, 19], [.one (.own 0), .one (.d (.sl (.int .u64))), .one (.d (.int .i64)), .one (.d (.int .i64))], 1⟩
noncomputable def k1ip (o : k9d) (nx1 : HL TB.den kad.hs → Prop) : Exit → TSt TB.den → Prop := thenT TB (fun s => kad.mat TB 0 s nx1) (blockT TB 0 (k1k5 o))
noncomputable def kfa (o : k9d) (nx1 : HL TB.den kad.hs → Prop) (i : HL TB.den kad.hs) : Prop := WP TB k74 28 0 (cA (cA (cB (cA (cB (cB kch)))))) .no (kad.fill TB i) (k1ip o nx1)
noncomputable def k1js (o : k9d) : An TB := .nd [] .no [] (.lp [] kad (kfa o) fun nx1 => .no)
noncomputable def k11z (o : k9d) : An TB := .nd [] .no [] (.nd [] .no [] (.nd [] (k1js o) [] .no))
noncomputable def klt (x : k14b) (o : k9d) : Prop := WPh TB k74 28 0 kch (k11z o) (k2k.st TB x) (retTQ TB k74 k2k kfe o)
set_option maxRecDepth 100000 in
theorem k1hb (o : k9d) : OblH TB k74 28 0 kch (k11z o) (retTQ TB k74 k2k kfe o) :=
  OblH.of_eq (X := (True ∧ (True ∧ ((True ∧ ((∀ nx i, (kfa o) nx i = (kfa o) nx i) ∧ ∀ nx1 : HL TB.den kad.hs → Prop, (True ∧ ((True ∧ True) ∧ ((True ∧ True) ∧ True))))) ∧ (True ∧ True))))) (by kernel_rfl) ⟨trivial, ⟨trivial, ⟨⟨trivial, ⟨fun _ _ => rfl, fun _ => ⟨trivial, ⟨⟨trivial, trivial⟩, ⟨⟨trivial, trivial⟩, trivial⟩⟩⟩⟩⟩, ⟨trivial, trivial⟩⟩⟩⟩
set_option maxRecDepth 100000 in
theorem k1hq {x : k14b} {o : k9d} (h : klt x o) : SoundH Try.prog k2k.f ((k2k.args idf x).map (er TB)) ((k2k.obs idf x).map (erO TB)) (er TB (k2k.val idf o)) ((k2k.ops idf o).map (erO TB)) :=
  Con.soundH (c := k2k) (C := k74) TBok ⟨inf_ok, (all_cons kh3 (all_cons ke3 (all_cons kdh all_nil))), all_nil⟩ mix Try.func90 (show Try.f90.body = some kch by kernel_rfl) (show Try.f90.ntmps = 28 by kernel_rfl) (show Try.f90.results.toList = kfe by kernel_rfl) rfl h (k1hb o)
set_option maxRecDepth 100000 in
theorem k1l4 {p0 : List Int} {p1 : List Int} {r0 : List Int} (h :
(let v1 : Int := IntKind.i64.wrap (4 + (IntKind.i64.wrap (8 * (p1.length : Int))))
(0 ≤ v1 ∧ p0.length + v1 ≤ 140737488355328) ∧ (p0 = p0) ∧ ((-9223372036854775808 ≤ (p1.length : Int) ∧ (p1.length : Int) ≤ 9223372036854775807) ∧ p0.length ≤ 137438953472) ∧ (p0 ++ dig 4 (len4 (p1.length : Int)) = p0 ++ dig 4 (len4 (p1.length : Int))) ∧ Md.Loop (p1, ((p1.length : Int) : Int), (0 : Int), (p0 ++ dig 4 (len4 (p1.length : Int)) : List Int), ()) (kfa (r0, ())))) : klt (p0, p1, ()) (r0, ()) := WPh.of_eq (by kernel_rfl) h
def k120 (r0 : List Int) (k1 : Int → List Int → Prop) (s17 : List Int) (s18 : Int) (s19 : Int) (g0 : List Int) : Prop :=
(decide (s19 < s18) = true →
(0 ≤ s19) ∧ s19 < (s17.length : Int) ∧ (g0 = g0) ∧ (U64 (ix s17 s19) ∧ (0 ≤ (8 : Int) ∧ (8 : Int) ≤ 8) ∧ g0.length ≤ 137438953472) ∧ (g0 ++ dig (8 : Int).toNat (ix s17 s19) = g0 ++ dig (8 : Int).toNat (ix s17 s19)) ∧ k1 (IntKind.i64.wrap (s19 + 1) : Int) (g0 ++ dig (8 : Int).toNat (ix s17 s19) : List Int)) ∧
(decide (s19 < s18) = false →
 g0 = r0)
set_option maxRecDepth 100000 in
theorem k1gl {r0 : List Int} {s17 : List Int} {s18 : Int} {s19 : Int} {g0 : List Int} (inv : Int → List Int → Prop) (μ : Int → List Int → Nat) (h0 : inv s19 g0) (hs : ∀ (s19 : Int) (g0 : List Int), inv s19 g0 → k120 r0 (fun s19q g0q => inv s19q g0q ∧ μ s19q g0q < μ s19 g0) s17 s18 s19 g0) : Md.Loop (s17, s18, s19, g0, ()) (kfa (r0, ())) :=
  ⟨⟨fun s : (List Int) × Int × Int × (List Int) × Unit => (s.1 = s17 ∧ s.2.1 = s18) ∧ inv s.2.2.1 s.2.2.2.1, fun s : (List Int) × Int × Int × (List Int) × Unit => μ s.2.2.1 s.2.2.2.1, ⟨⟨rfl, rfl⟩, h0⟩, fun (s17p, s18p, s19p, g0p, ()) ⟨⟨eq0, eq1⟩, hi⟩ => by
    have eq0 : s17p = s17 := eq0; subst s17p; have eq1 : s18p = s18 := eq1; subst s18p; exact mpr_of (by kernel_rfl) ((congrArg (fun k => k120 r0 k s17 s18 s19p g0p) (lpk2 (⟨rfl, rfl⟩ : s17 = s17 ∧ s18 = s18) inv (fun s19q g0q => μ s19q g0q < μ s19p g0p))).mpr (hs s19p g0p hi))⟩⟩
theorem bd90 : Callable Try.prog 90 := ⟨by rw [Try.func90]; kernel_rfl, by rw [Try.func90]; show some _ ≠ some _; decide⟩
theorem k1dt (p0 : List Int) (p1 : List Int) (h : Us p1 ∧ p0.length ≤ 68719476736 ∧ p1.length ≤ 4294967295) : klt (p0, p1, ()) ((p0 ++ encL p1 : List Int), ()) := by
  obtain ⟨h1, h2, h3⟩ := h
  refine k1l4 ?_
  rw [wi (8 * (p1.length : Int)) (by omega) (by omega), wi (4 + 8 * (p1.length : Int)) (by omega) (by omega)]
  refine ⟨⟨by omega, by omega⟩, by trivial, ⟨by omega, by omega⟩, by trivial, ?_⟩
  refine k1gl (fun i g => 0 ≤ i ∧ i ≤ p1.length ∧ g = p0 ++ dig 4 (len4 p1.length) ++ (p1.take i.toNat).flatMap (dig 8)) (fun i _ => (p1.length - i).toNat) ⟨by omega, by omega, by simp⟩ ?_
  rintro i g ⟨g0, g1, rfl⟩
  refine ⟨fun h => ?_, fun h => ?_⟩
  · have h := of_decide_eq_true h
    have hx := h1 _ (ix_mem p1 i g0 h)
    rw [inc i p1.length g0 h (by omega)]
    refine ⟨g0, h, by trivial, ⟨hx, by omega, ?_⟩, by trivial, ⟨by omega, by omega, ?_⟩, by omega⟩
    · simp only [List.length_append, k1i, k87, List.length_take]; omega
    · rw [ka p1 i g0 h, List.flatMap_append, List.append_assoc]
      simp
  · have h := of_decide_eq_false h
    rw [List.take_of_length_le (by omega), List.append_assoc]
    rfl
noncomputable def kxm : Con TB.den := k2k.fnR (fun x => (fun (p0 : List Int) (p1 : List Int) => Us p1 ∧ p0.length ≤ 68719476736 ∧ p1.length ≤ 4294967295) x.1 x.2.1) fun x => ((fun (p0 : List Int) (p1 : List Int) => (p0 ++ encL p1 : List Int)) x.1 x.2.1, ())
theorem k1jy : kxm.Ok Try.prog TB := Con.ok_fn k2k bd90 fun x h => k1hq (k1dt x.1 x.2.1 h)
end Go.Proofs.Ytnmakgfmimagmaa
namespace Go.Proofs.Ytnmakgfmimagmaa
open Go Go.Bv Go.Cv Go.Md Go.RowKit
def k3m : Con TB.den := Con.mk0 61 [.one (.d (.sl (.int .u8))), .one (.d (.int .u64))] [] (.one (.one (.d (.sl (.int .u8))))) []
abbrev k143 := HL TB.den (hsT k3m.ins (hsOs k3m.pre))
abbrev knb := HL TB.den (hsV k3m.res (hsOs k3m.post))
noncomputable def kgn : Cx TB := ⟨inf, [kba, k8i], [], 4⟩
noncomputable def klj : Code := Try.f61.body.getD .skip
noncomputable def kpx : List ResultVar := Try.f61.results.toList
noncomputable def k12n (o : knb) : An TB := .no
noncomputable def km0 (x : k143) (o : knb) : Prop := WPh TB kgn 9 0 klj (k12n o) (k3m.st TB x) (retTQ TB kgn k3m kpx o)
set_option maxRecDepth 100000 in
theorem k1hv (o : knb) : OblH TB kgn 9 0 klj (k12n o) (retTQ TB kgn k3m kpx o) :=
  OblH.of_eq (X := (True ∧ (True ∧ True))) (by kernel_rfl) ⟨trivial, ⟨trivial, trivial⟩⟩
set_option maxRecDepth 100000 in
theorem k1hx {x : k143} {o : knb} (h : km0 x o) : SoundH Try.prog k3m.f ((k3m.args idf x).map (er TB)) ((k3m.obs idf x).map (erO TB)) (er TB (k3m.val idf o)) ((k3m.ops idf o).map (erO TB)) :=
  Con.soundH (c := k3m) (C := kgn) TBok ⟨inf_ok, (all_cons kh3 (all_cons kdh all_nil)), all_nil⟩ mix Try.func61 (show Try.f61.body = some klj by kernel_rfl) (show Try.f61.ntmps = 9 by kernel_rfl) (show Try.f61.results.toList = kpx by kernel_rfl) rfl h (k1hv o)
set_option maxRecDepth 100000 in
theorem k1lj {p0 : List Int} {p1 : Int} {r0 : List Int} (h :
((0 ≤ (8 : Int) ∧ p0.length + (8 : Int) ≤ 140737488355328) ∧ (p0 = p0) ∧ (U64 p1 ∧ (0 ≤ (8 : Int) ∧ (8 : Int) ≤ 8) ∧ p0.length ≤ 137438953472) ∧ p0 ++ dig (8 : Int).toNat p1 = r0)) : km0 (p0, p1, ()) (r0, ()) := WPh.of_eq (by kernel_rfl) h
theorem bd61 : Callable Try.prog 61 := ⟨by rw [Try.func61]; kernel_rfl, by rw [Try.func61]; show some _ ≠ some _; decide⟩
theorem k1d5 (p0 : List Int) (p1 : Int) (h : U64 p1 ∧ p0.length ≤ 137438953472) : km0 (p0, p1, ()) ((p0 ++ dig 8 p1 : List Int), ()) := by
  obtain ⟨h1, h2⟩ := h
  refine k1lj ⟨⟨by omega, by omega⟩, by trivial, ⟨h1, by omega, h2⟩, rfl⟩
noncomputable def kik : Con TB.den := k3m.fnR (fun x => (fun (p0 : List Int) (p1 : Int) => U64 p1 ∧ p0.length ≤ 137438953472) x.1 x.2.1) fun x => ((fun (p0 : List Int) (p1 : Int) => (p0 ++ dig 8 p1 : List Int)) x.1 x.2.1, ())
theorem kq1 : kik.Ok Try.prog TB := Con.ok_fn k3m bd61 fun x h => k1hx (k1d5 x.1 x.2.1 h)
end Go.Proofs.Ytnmakgfmimagmaa
namespace Go.Proofs.Ytnmakgfmimagmaa
open Go Go.Bv Go.Cv Go.Md Go.RowKit
def k2t : Con TB.den := Con.mk0 72 [.agg [.d (.int .u64), .d (.sl (.int .u64)), .d (.sl (.st 0)), .d (.int .u64), .d (.int .u64), .d (.int .u64), .d (.int .u64), .d (.int .u64), .d (.int .i64), .d (.sl (.int .u8))], .one (.d (.sl (.int .u8)))] [] (.one (.one (.d (.sl (.int .u8))))) []
abbrev k14a := HL TB.den (hsT k2t.ins (hsOs k2t.pre))
abbrev k7w := HL TB.den (hsV k2t.res (hsOs k2t.post))
noncomputable def k6g : Cx TB := ⟨inf, [kik, kxm, kqt, kln], [], 4⟩
noncomputable def kd8 : Code := Try.f72.body.getD .skip
noncomputable def kgq : List ResultVar := Try.f72.results.toList
noncomputable def k1jc (o : k7w) : Exit → TSt TB.den → Prop := thenT TB (fun s => ghs TB [] s fun s => WP TB k6g 73 0 (cB (cB (cB (cB (cB kd8))))) .no s (retTQ TB k6g k2t kgq o)) (retTQ TB k6g k2t kgq o)
def kab : Tm := ⟨[0], [.cells [.d (.int .u64), .d (.sl (.int .u64)), .d (.sl (.st 0)), .d (.int .u64), .d (.int .u64), .d (.int .u64), .d (.int .u64), .d (.int .u64), .d (.int .i64), .d (.sl (.int .u8))]], [1, 2, 5, 21, 22, 23], [.one (.d (.sl (.int .u8))), .one (.ptr 0 0), .one (.d (.sl (.int .u8))), .one (.d (.sl (.st 0))), .one (.d (.int .i64)), .one (.d (.int .i64))], 1⟩
noncomputable def k1m8 (o : k7w) (nx1 : HL TB.den kab.hs → Prop) : Exit → TSt TB.den → Prop := thenT TB (fun s => kab.mat TB 0 s nx1) (blockT TB 0 (k1jc o))
noncomputable def kgb (o : k7w) (nx1 : HL TB.den kab.hs → Prop) (i : HL TB.den kab.hs) : Prop := WP TB k6g 73 0 (cA (cA (cB (cA (cB (cB (cB (cB kd8)))))))) .no (kab.fill TB i) (k1m8 o nx1)
noncomputable def k1ke (o : k7w) : An TB := .nd [] .no [] (.lp [] kab (kgb o) fun nx1 => .no)
noncomputable def k1lp (o : k7w) : An TB := .nd [] .no [] (.nd [] .no [] (.nd [] (k1ke o) [] .no))
noncomputable def k10m (o : k7w) : An TB := .nd [] .no [] (.nd [] .no [] (k1lp o))
noncomputable def kmi (x : k14a) (o : k7w) : Prop := WPh TB k6g 73 0 kd8 (k10m o) (k2t.st TB x) (retTQ TB k6g k2t kgq o)
set_option maxRecDepth 100000 in
theorem k1gk (o : k7w) : OblH TB k6g 73 0 kd8 (k10m o) (retTQ TB k6g k2t kgq o) :=
  OblH.of_eq (X := (True ∧ (True ∧ (True ∧ (True ∧ ((True ∧ ((∀ nx i, (kgb o) nx i = (kgb o) nx i) ∧ ∀ nx1 : HL TB.den kab.hs → Prop, (True ∧ ((True ∧ True) ∧ ((True ∧ (True ∧ (True ∧ (True ∧ True)))) ∧ True))))) ∧ (True ∧ (True ∧ (True ∧ (True ∧ (True ∧ (True ∧ (True ∧ True))))))))))))) (by kernel_rfl) ⟨trivial, ⟨trivial, ⟨trivial, ⟨trivial, ⟨⟨trivial, ⟨fun _ _ => rfl, fun _ => ⟨trivial, ⟨⟨trivial, trivial⟩, ⟨⟨trivial, ⟨trivial, ⟨trivial, ⟨trivial, trivial⟩⟩⟩⟩, trivial⟩⟩⟩⟩⟩, ⟨trivial, ⟨trivial, ⟨trivial, ⟨trivial, ⟨trivial, ⟨trivial, ⟨trivial, trivial⟩⟩⟩⟩⟩⟩⟩⟩⟩⟩⟩⟩
set_option maxRecDepth 100000 in
theorem k1h8 {x : k14a} {o : k7w} (h : kmi x o) : SoundH Try.prog k2t.f ((k2t.args idf x).map (er TB)) ((k2t.obs idf x).map (erO TB)) (er TB (k2t.val idf o)) ((k2t.ops idf o).map (erO TB)) :=
  Con.soundH (c := k2t) (C := k6g) TBok ⟨inf_ok, (all_cons kq1 (all_cons k1jy (all_cons k146 (all_cons kxp all_nil)))), all_nil⟩ mix Try.func72 (show Try.f72.body = some kd8 by kernel_rfl) (show Try.f72.ntmps = 73 by kernel_rfl) (show Try.f72.results.toList = kgq by kernel_rfl) rfl h (k1gk o)
set_option maxRecDepth 100000 in
theorem k1jv {p0 : TTx} {p1 : List Int} {r0 : List Int} (h :
((U64 p0.Anchor ∧ ([] : List Int).length ≤ 137438953472) ∧ (Us p0.Marks ∧ (([] : List Int) ++ dig 8 p0.Anchor).length ≤ 68719476736 ∧ p0.Marks.length ≤ 4294967295) ∧ let r1 : List Int := (([] : List Int) ++ dig 8 p0.Anchor) ++ encL p0.Marks
((-9223372036854775808 ≤ (p0.Outs.length : Int) ∧ (p0.Outs.length : Int) ≤ 9223372036854775807) ∧ r1.length ≤ 137438953472) ∧ let r2 : List Int := r1 ++ dig 4 (len4 (p0.Outs.length : Int))
 Md.Loop (p1, r2, p0.Outs, ((p0.Outs.length : Int) : Int), (0 : Int), p0.Anchor, p0.Marks, p0.Outs, p0.Deposit, p0.Withdraw, p0.Fee, p0.Account, p0.Nonce, p0.Expiry, p0.Proof, ()) (kgb (r0, ())))) : kmi (p0.Anchor, p0.Marks, p0.Outs, p0.Deposit, p0.Withdraw, p0.Fee, p0.Account, p0.Nonce, p0.Expiry, p0.Proof, p1, ()) (r0, ()) := WPh.of_eq (by kernel_rfl) h
def k114 (r0 : List Int) (k1 : List Int → Int → Prop) (s1 : List Int) (s21 : List TOut) (s22 : Int) (h0_0 : Int) (h0_1 : List Int) (h0_2 : List TOut) (h0_3 : Int) (h0_4 : Int) (h0_5 : Int) (h0_6 : Int) (h0_7 : Int) (h0_8 : Int) (h0_9 : List Int) (s5 : List Int) (s23 : Int) : Prop :=
(decide (s23 < s22) = true →
(0 ≤ s23) ∧ s23 < (s21.length : Int) ∧ (U64 ((ix s21 s23).Commit) ∧ s5.length ≤ 137438953472) ∧ (U64 ((ix s21 s23).Point_a0) ∧ (s5 ++ dig 8 ((ix s21 s23).Commit)).length ≤ 137438953472) ∧ let r3 : List Int := (s5 ++ dig 8 ((ix s21 s23).Commit)) ++ dig 8 ((ix s21 s23).Point_a0)
(U64 ((ix s21 s23).Point_a1) ∧ r3.length ≤ 137438953472) ∧ (Us ((ix s21 s23).Cipher) ∧ (r3 ++ dig 8 ((ix s21 s23).Point_a1)).length ≤ 68719476736 ∧ ((ix s21 s23).Cipher).length ≤ 4294967295) ∧ let r4 : List Int := (r3 ++ dig 8 ((ix s21 s23).Point_a1)) ++ encL ((ix s21 s23).Cipher)
 k1 r4 (IntKind.i64.wrap (s23 + 1) : Int)) ∧
(decide (s23 < s22) = false →
(U64 h0_3 ∧ s5.length ≤ 137438953472) ∧ (U64 h0_4 ∧ (s5 ++ dig 8 h0_3).length ≤ 137438953472) ∧ (U64 h0_5 ∧ ((s5 ++ dig 8 h0_3) ++ dig 8 h0_4).length ≤ 137438953472) ∧ let r5 : List Int := ((s5 ++ dig 8 h0_3) ++ dig 8 h0_4) ++ dig 8 h0_5
(U64 h0_6 ∧ r5.length ≤ 137438953472) ∧ (U64 h0_7 ∧ (r5 ++ dig 8 h0_6).length ≤ 137438953472) ∧ ((-9223372036854775808 ≤ h0_8 ∧ h0_8 ≤ 9223372036854775807) ∧ ((r5 ++ dig 8 h0_6) ++ dig 8 h0_7).length ≤ 137438953472) ∧ let r6 : List Int := ((r5 ++ dig 8 h0_6) ++ dig 8 h0_7) ++ dig 4 (len4 h0_8)
(r6.length ≤ 68719476736 ∧ s1.length ≤ 4294967295) ∧ r6 ++ encB s1 = r0)
set_option maxRecDepth 100000 in
theorem k1ha {r0 : List Int} {s1 : List Int} {s21 : List TOut} {s22 : Int} {h0_0 : Int} {h0_1 : List Int} {h0_2 : List TOut} {h0_3 : Int} {h0_4 : Int} {h0_5 : Int} {h0_6 : Int} {h0_7 : Int} {h0_8 : Int} {h0_9 : List Int} {s5 : List Int} {s23 : Int} (inv : List Int → Int → Prop) (μ : List Int → Int → Nat) (h0 : inv s5 s23) (hs : ∀ (s5 : List Int) (s23 : Int), inv s5 s23 → k114 r0 (fun s5q s23q => inv s5q s23q ∧ μ s5q s23q < μ s5 s23) s1 s21 s22 h0_0 h0_1 h0_2 h0_3 h0_4 h0_5 h0_6 h0_7 h0_8 h0_9 s5 s23) : Md.Loop (s1, s5, s21, s22, s23, h0_0, h0_1, h0_2, h0_3, h0_4, h0_5, h0_6, h0_7, h0_8, h0_9, ()) (kgb (r0, ())) :=
  ⟨⟨fun s : (List Int) × (List Int) × (List TOut) × Int × Int × Int × (List Int) × (List TOut) × Int × Int × Int × Int × Int × Int × (List Int) × Unit => (s.1 = s1 ∧ s.2.2.1 = s21 ∧ s.2.2.2.1 = s22 ∧ s.2.2.2.2.2.1 = h0_0 ∧ s.2.2.2.2.2.2.1 = h0_1 ∧ s.2.2.2.2.2.2.2.1 = h0_2 ∧ s.2.2.2.2.2.2.2.2.1 = h0_3 ∧ s.2.2.2.2.2.2.2.2.2.1 = h0_4 ∧ s.2.2.2.2.2.2.2.2.2.2.1 = h0_5 ∧ s.2.2.2.2.2.2.2.2.2.2.2.1 = h0_6 ∧ s.2.2.2.2.2.2.2.2.2.2.2.2.1 = h0_7 ∧ s.2.2.2.2.2.2.2.2.2.2.2.2.2.1 = h0_8 ∧ s.2.2.2.2.2.2.2.2.2.2.2.2.2.2.1 = h0_9) ∧ inv s.2.1 s.2.2.2.2.1, fun s : (List Int) × (List Int) × (List TOut) × Int × Int × Int × (List Int) × (List TOut) × Int × Int × Int × Int × Int × Int × (List Int) × Unit => μ s.2.1 s.2.2.2.2.1, ⟨⟨rfl, rfl, rfl, rfl, rfl, rfl, rfl, rfl, rfl, rfl, rfl, rfl, rfl⟩, h0⟩, fun (s1p, s5p, s21p, s22p, s23p, h0_0p, h0_1p, h0_2p, h0_3p, h0_4p, h0_5p, h0_6p, h0_7p, h0_8p, h0_9p, ()) ⟨⟨eq0, eq1, eq2, eq3, eq4, eq5, eq6, eq7, eq8, eq9, eq10, eq11, eq12⟩, hi⟩ => by
    have eq0 : s1p = s1 := eq0; subst s1p; have eq1 : s21p = s21 := eq1; subst s21p; have eq2 : s22p = s22 := eq2; subst s22p; have eq3 : h0_0p = h0_0 := eq3; subst h0_0p; have eq4 : h0_1p = h0_1 := eq4; subst h0_1p; have eq5 : h0_2p = h0_2 := eq5; subst h0_2p; have eq6 : h0_3p = h0_3 := eq6; subst h0_3p; have eq7 : h0_4p = h0_4 := eq7; subst h0_4p; have eq8 : h0_5p = h0_5 := eq8; subst h0_5p; have eq9 : h0_6p = h0_6 := eq9; subst h0_6p; have eq10 : h0_7p = h0_7 := eq10; subst h0_7p; have eq11 : h0_8p = h0_8 := eq11; subst h0_8p; have eq12 : h0_9p = h0_9 := eq12; subst h0_9p; exact mpr_of (by kernel_rfl) ((congrArg (fun k => k114 r0 k s1 s21 s22 h0_0 h0_1 h0_2 h0_3 h0_4 h0_5 h0_6 h0_7 h0_8 h0_9 s5p s23p) (lpk2 (⟨rfl, rfl, rfl, rfl, rfl, rfl, rfl, rfl, rfl, rfl, rfl, rfl, rfl⟩ : s1 = s1 ∧ s21 = s21 ∧ s22 = s22 ∧ h0_0 = h0_0 ∧ h0_1 = h0_1 ∧ h0_2 = h0_2 ∧ h0_3 = h0_3 ∧ h0_4 = h0_4 ∧ h0_5 = h0_5 ∧ h0_6 = h0_6 ∧ h0_7 = h0_7 ∧ h0_8 = h0_8 ∧ h0_9 = h0_9) inv (fun s5q s23q => μ s5q s23q < μ s5p s23p))).mpr (hs s5p s23p hi))⟩⟩
theorem bd72 : Callable Try.prog 72 := ⟨by rw [Try.func72]; kernel_rfl, by rw [Try.func72]; show some _ ≠ some _; decide⟩
theorem k1dj (p0 : TTx) (p1 : List Int) (h : TR p0 ∧ TL p0 ∧ p0.Outs.length ≤ 1048576 ∧ (∀ x ∈ p0.Outs, x.Cipher.length ≤ 1024) ∧ p1.length ≤ 4294967295) : kmi (p0.Anchor, p0.Marks, p0.Outs, p0.Deposit, p0.Withdraw, p0.Fee, p0.Account, p0.Nonce, p0.Expiry, p0.Proof, p1, ()) ((encT p0 p1 : List Int), ()) := by
  obtain ⟨hr, hl, ho, hc, hp⟩ := h
  have hm := hl.m
  have hol := kcu
  refine k1jv ⟨⟨hr.a, by simp⟩, ⟨hr.m, by simp, hm⟩, ⟨by omega, by simp; omega⟩, ?_⟩
  refine k1ha (fun b i => 0 ≤ i ∧ i ≤ p0.Outs.length ∧ b = dig 8 p0.Anchor ++ encL p0.Marks ++ dig 4 (len4 p0.Outs.length) ++ (p0.Outs.take i.toNat).flatMap encO) (fun _ i => (p0.Outs.length - i).toNat) ⟨by omega, by omega, by simp⟩ ?_
  rintro b i ⟨g0, g1, rfl⟩
  have hb := kcu (p0.Outs.take i.toNat) 1024 (fun x hx => hc x (List.mem_of_mem_take hx))
  rw [List.length_take] at hb
  have hb : ((p0.Outs.take i.toNat).flatMap encO).length ≤ 8700000000 := by
    refine Nat.le_trans hb ?_
    have : min i.toNat p0.Outs.length ≤ 1048576 := by omega
    have := Nat.mul_le_mul_left (28 + 8 * 1024) this
    omega
  refine ⟨fun h => ?_, fun h => ?_⟩
  · have h := of_decide_eq_true h
    have hx := hr.o _ (ix_mem p0.Outs i g0 h)
    have hxc := hc _ (ix_mem p0.Outs i g0 h)
    rw [inc i p0.Outs.length g0 h (by omega)]
    refine ⟨g0, h, ⟨hx.c, ?_⟩, ⟨hx.p0, ?_⟩, ⟨hx.p1, ?_⟩, ⟨hx.ci, ?_, by omega⟩, ⟨by omega, by omega, ?_⟩, by omega⟩
    · simp only [List.length_append, k1i, k9e]; omega
    · simp only [List.length_append, k1i, k9e]; omega
    · simp only [List.length_append, k1i, k9e]; omega
    · simp only [List.length_append, k1i, k9e]; omega
    · rw [ka p0.Outs i g0 h, List.flatMap_append]
      simp [encO, List.append_assoc]
  · have h := of_decide_eq_false h
    rw [List.take_of_length_le (by omega)] at hb ⊢
    refine ⟨⟨hr.d, ?_⟩, ⟨hr.w, ?_⟩, ⟨hr.f, ?_⟩, ⟨hr.ac, ?_⟩, ⟨hr.n, ?_⟩, ⟨hr.e, ?_⟩, ⟨?_, hp⟩, rfl⟩ <;> simp only [List.length_append, k1i, k9e] <;> omega
noncomputable def kx0 : Con TB.den := k2t.fnR (fun x => (fun (p0 : TTx) (p1 : List Int) => TR p0 ∧ TL p0 ∧ p0.Outs.length ≤ 1048576 ∧ (∀ x ∈ p0.Outs, x.Cipher.length ≤ 1024) ∧ p1.length ≤ 4294967295) (TTx.mk x.1 x.2.1 x.2.2.1 x.2.2.2.1 x.2.2.2.2.1 x.2.2.2.2.2.1 x.2.2.2.2.2.2.1 x.2.2.2.2.2.2.2.1 x.2.2.2.2.2.2.2.2.1 x.2.2.2.2.2.2.2.2.2.1) x.2.2.2.2.2.2.2.2.2.2.1) fun x => ((fun (p0 : TTx) (p1 : List Int) => (encT p0 p1 : List Int)) (TTx.mk x.1 x.2.1 x.2.2.1 x.2.2.2.1 x.2.2.2.2.1 x.2.2.2.2.2.1 x.2.2.2.2.2.2.1 x.2.2.2.2.2.2.2.1 x.2.2.2.2.2.2.2.2.1 x.2.2.2.2.2.2.2.2.2.1) x.2.2.2.2.2.2.2.2.2.2.1, ())
theorem k1jz : kx0.Ok Try.prog TB := Con.ok_fn k2t bd72 fun x h => k1h8 (k1dj (TTx.mk x.1 x.2.1 x.2.2.1 x.2.2.2.1 x.2.2.2.2.1 x.2.2.2.2.2.1 x.2.2.2.2.2.2.1 x.2.2.2.2.2.2.2.1 x.2.2.2.2.2.2.2.2.1 x.2.2.2.2.2.2.2.2.2.1) x.2.2.2.2.2.2.2.2.2.2.1 h)
end Go.Proofs.Ytnmakgfmimagmaa
namespace Go.Proofs.Ytnmakgfmimagmaa
open Go Go.Bv Go.Cv Go.Md Go.RowKit
def k3e : Con TB.den := Con.mk0 45 [.agg [.d (.int .u64), .d (.sl (.int .u64)), .d (.sl (.st 0)), .d (.int .u64), .d (.int .u64), .d (.int .u64), .d (.int .u64), .d (.int .u64), .d (.int .i64), .d (.sl (.int .u8))]] [] (.tup [.one (.d (.sl (.int .u8))), .one (.d (.int .i64))]) []
abbrev k142 := HL TB.den (hsT k3e.ins (hsOs k3e.pre))
abbrev knf := HL TB.den (hsV k3e.res (hsOs k3e.post))
noncomputable def kg5 : Cx TB := ⟨inf, [kkh, kx0], [], 4⟩
noncomputable def kmf : Code := Try.f45.body.getD .skip
noncomputable def kqs : List ResultVar := Try.f45.results.toList
noncomputable def kzx (o : knf) : An TB := .no
noncomputable def kmt (x : k142) (o : knf) : Prop := WPh TB kg5 14 0 kmf (kzx o) (k3e.st TB x) (retTQ TB kg5 k3e kqs o)
set_option maxRecDepth 100000 in
theorem k1g9 (o : knf) : OblH TB kg5 14 0 kmf (kzx o) (retTQ TB kg5 k3e kqs o) :=
  OblH.of_eq (X := (True ∧ ((True ∧ (True ∧ ((True ∧ True) ∧ True))) ∧ (True ∧ True)))) (by kernel_rfl) ⟨trivial, ⟨⟨trivial, ⟨trivial, ⟨⟨trivial, trivial⟩, trivial⟩⟩⟩, ⟨trivial, trivial⟩⟩⟩
set_option maxRecDepth 100000 in
theorem k1gu {x : k142} {o : knf} (h : kmt x o) : SoundH Try.prog k3e.f ((k3e.args idf x).map (er TB)) ((k3e.obs idf x).map (erO TB)) (er TB (k3e.val idf o)) ((k3e.ops idf o).map (erO TB)) :=
  Con.soundH (c := k3e) (C := kg5) TBok ⟨inf_ok, (all_cons kth (all_cons k1jz all_nil)), all_nil⟩ mix Try.func45 (show Try.f45.body = some kmf by kernel_rfl) (show Try.f45.ntmps = 14 by kernel_rfl) (show Try.f45.results.toList = kqs by kernel_rfl) rfl h (k1g9 o)
set_option maxRecDepth 100000 in
theorem k1in {p0 : TTx} {r0 : List Int} {r1 : Int} (h :
((((validE p0) != 0) = true →
([] : List Int) = r0 ∧ validE p0 = r1) ∧
(((validE p0) != 0) = false →
(TR p0 ∧ TL p0 ∧ p0.Outs.length ≤ 1048576 ∧ (∀ x ∈ p0.Outs, x.Cipher.length ≤ 1024) ∧ p0.Proof.length ≤ 4294967295) ∧ encT p0 p0.Proof = r0 ∧ 0 = r1))) : kmt (p0.Anchor, p0.Marks, p0.Outs, p0.Deposit, p0.Withdraw, p0.Fee, p0.Account, p0.Nonce, p0.Expiry, p0.Proof, ()) (r0, r1, ()) := WPh.of_eq (by kernel_rfl) h
theorem bd45 : Callable Try.prog 45 := ⟨by rw [Try.func45]; kernel_rfl, by rw [Try.func45]; show some _ ≠ some _; decide⟩
theorem k1bs (p0 : TTx) (h : TR p0) : kmt (p0.Anchor, p0.Marks, p0.Outs, p0.Deposit, p0.Withdraw, p0.Fee, p0.Account, p0.Nonce, p0.Expiry, p0.Proof, ()) (((if validE p0 = 0 then encT p0 p0.Proof else []) : List Int), (validE p0 : Int), ()) := by
  refine k1in ⟨fun e => ?_, fun e => ?_⟩
  · have e : validE p0 ≠ 0 := by simpa using e
    rw [if_neg e]
    exact ⟨rfl, rfl⟩
  · have e : validE p0 = 0 := by simpa using e
    have v := (k3t p0).1 e
    rw [if_pos e, e]
    exact ⟨⟨h, v.tl, by have := v.ol; omega, fun x hx => by have := (v.o x hx).l; omega, v.tl.p⟩, rfl, rfl⟩
noncomputable def kit : Con TB.den := k3e.fnR (fun x => (fun (p0 : TTx) => TR p0) (TTx.mk x.1 x.2.1 x.2.2.1 x.2.2.2.1 x.2.2.2.2.1 x.2.2.2.2.2.1 x.2.2.2.2.2.2.1 x.2.2.2.2.2.2.2.1 x.2.2.2.2.2.2.2.2.1 x.2.2.2.2.2.2.2.2.2.1)) fun x => ((fun (p0 : TTx) => ((if validE p0 = 0 then encT p0 p0.Proof else []) : List Int)) (TTx.mk x.1 x.2.1 x.2.2.1 x.2.2.2.1 x.2.2.2.2.1 x.2.2.2.2.2.1 x.2.2.2.2.2.2.1 x.2.2.2.2.2.2.2.1 x.2.2.2.2.2.2.2.2.1 x.2.2.2.2.2.2.2.2.2.1), (fun (p0 : TTx) => (validE p0 : Int)) (TTx.mk x.1 x.2.1 x.2.2.1 x.2.2.2.1 x.2.2.2.2.1 x.2.2.2.2.2.1 x.2.2.2.2.2.2.1 x.2.2.2.2.2.2.2.1 x.2.2.2.2.2.2.2.2.1 x.2.2.2.2.2.2.2.2.2.1), ())
theorem kps : kit.Ok Try.prog TB := Con.ok_fn k3e bd45 fun x h => k1gu (k1bs (TTx.mk x.1 x.2.1 x.2.2.1 x.2.2.2.1 x.2.2.2.2.1 x.2.2.2.2.2.1 x.2.2.2.2.2.2.1 x.2.2.2.2.2.2.2.1 x.2.2.2.2.2.2.2.2.1 x.2.2.2.2.2.2.2.2.2.1) h)
end Go.Proofs.Ytnmakgfmimagmaa
namespace Go.Proofs.Ytnmakgfmimagmaa
open Go Go.Bv Go.Cv Go.Md Go.RowKit
def k3n : Con TB.den := Con.mk0 30 [.agg [.d (.int .u64), .d (.sl (.int .u64)), .d (.sl (.st 0)), .d (.int .u64), .d (.int .u64), .d (.int .u64), .d (.int .u64), .d (.int .u64), .d (.int .i64), .d (.sl (.int .u8))]] [] (.one (.one (.d (.int .i64)))) []
abbrev k144 := HL TB.den (hsT k3n.ins (hsOs k3n.pre))
abbrev kn4 := HL TB.den (hsV k3n.res (hsOs k3n.post))
noncomputable def kfb : Cx TB := ⟨inf, [kit], [], 4⟩
noncomputable def kmv : Code := Try.f30.body.getD .skip
noncomputable def kr1 : List ResultVar := Try.f30.results.toList
noncomputable def k10t (o : kn4) : An TB := .no
noncomputable def kmj (x : k144) (o : kn4) : Prop := WPh TB kfb 14 0 kmv (k10t o) (k3n.st TB x) (retTQ TB kfb k3n kr1 o)
set_option maxRecDepth 100000 in
theorem k1fa (o : kn4) : OblH TB kfb 14 0 kmv (k10t o) (retTQ TB kfb k3n kr1 o) :=
  OblH.of_eq (X := (True ∧ (True ∧ ((True ∧ ((True ∧ True) ∧ True)) ∧ (True ∧ True))))) (by kernel_rfl) ⟨trivial, ⟨trivial, ⟨⟨trivial, ⟨⟨trivial, trivial⟩, trivial⟩⟩, ⟨trivial, trivial⟩⟩⟩⟩
set_option maxRecDepth 100000 in
theorem k1fz {x : k144} {o : kn4} (h : kmj x o) : SoundH Try.prog k3n.f ((k3n.args idf x).map (er TB)) ((k3n.obs idf x).map (erO TB)) (er TB (k3n.val idf o)) ((k3n.ops idf o).map (erO TB)) :=
  Con.soundH (c := k3n) (C := kfb) TBok ⟨inf_ok, (all_cons kps all_nil), all_nil⟩ mix Try.func30 (show Try.f30.body = some kmv by kernel_rfl) (show Try.f30.ntmps = 14 by kernel_rfl) (show Try.f30.results.toList = kr1 by kernel_rfl) rfl h (k1fa o)
set_option maxRecDepth 100000 in
theorem k1l0 {p0 : TTx} {r0 : Int} (h :
((TR p0) ∧ let r1 : List Int := (if validE p0 = 0 then encT p0 p0.Proof else [])
(((validE p0) != 0) = true →
 0 = r0) ∧
(((validE p0) != 0) = false →
(r1.length : Int) = r0))) : kmj (p0.Anchor, p0.Marks, p0.Outs, p0.Deposit, p0.Withdraw, p0.Fee, p0.Account, p0.Nonce, p0.Expiry, p0.Proof, ()) (r0, ()) := WPh.of_eq (by kernel_rfl) h
theorem bd30 : Callable Try.prog 30 := ⟨by rw [Try.func30]; kernel_rfl, by rw [Try.func30]; show some _ ≠ some _; decide⟩
theorem k1d1 (p0 : TTx) (h : TR p0) : kmj (p0.Anchor, p0.Marks, p0.Outs, p0.Deposit, p0.Withdraw, p0.Fee, p0.Account, p0.Nonce, p0.Expiry, p0.Proof, ()) ((weightS p0 : Int), ()) := by
  refine k1l0 ⟨h, ?_⟩
  unfold weightS
  refine ⟨fun e => ?_, fun e => ?_⟩
  · have e : validE p0 ≠ 0 := by simpa using e
    rw [if_neg e]
  · have e : validE p0 = 0 := by simpa using e
    rw [if_pos e, if_pos e]
noncomputable def kxa : Con TB.den := k3n.fnR (fun x => (fun (p0 : TTx) => TR p0) (TTx.mk x.1 x.2.1 x.2.2.1 x.2.2.2.1 x.2.2.2.2.1 x.2.2.2.2.2.1 x.2.2.2.2.2.2.1 x.2.2.2.2.2.2.2.1 x.2.2.2.2.2.2.2.2.1 x.2.2.2.2.2.2.2.2.2.1)) fun x => ((fun (p0 : TTx) => (weightS p0 : Int)) (TTx.mk x.1 x.2.1 x.2.2.1 x.2.2.2.1 x.2.2.2.2.1 x.2.2.2.2.2.1 x.2.2.2.2.2.2.1 x.2.2.2.2.2.2.2.1 x.2.2.2.2.2.2.2.2.1 x.2.2.2.2.2.2.2.2.2.1), ())
theorem k1jn : kxa.Ok Try.prog TB := Con.ok_fn k3n bd30 fun x h => k1fz (k1d1 (TTx.mk x.1 x.2.1 x.2.2.1 x.2.2.2.1 x.2.2.2.2.1 x.2.2.2.2.2.1 x.2.2.2.2.2.2.1 x.2.2.2.2.2.2.2.1 x.2.2.2.2.2.2.2.2.1 x.2.2.2.2.2.2.2.2.2.1) h)
end Go.Proofs.Ytnmakgfmimagmaa
namespace Go.Proofs.Ytnmakgfmimagmaa
open Go Go.Bv Go.Cv Go.Md Go.RowKit
def k1a : Con TB.den := Con.mk0 12 [.agg [.d (.int .u64), .d (.int .i64), .d (.int .u64), .d (.int .u64), .d (.int .u64), .d (.sl (.st 1))]] [] (.one (.one (.d (.int .i64)))) []
abbrev kx1 := HL TB.den (hsT k1a.ins (hsOs k1a.pre))
abbrev kr := HL TB.den (hsV k1a.res (hsOs k1a.post))
noncomputable def k25 : Cx TB := ⟨inf, [kkh, kxa], [], 4⟩
noncomputable def k4a : Code := Try.f12.body.getD .skip
noncomputable def k7k : List ResultVar := Try.f12.results.toList
noncomputable def k1ct (o : kr) : Exit → TSt TB.den → Prop := thenT TB (fun s => ghs TB [] s fun s => WP TB k25 52 0 (cB (cB (cB (cB k4a)))) .no s (retTQ TB k25 k1a k7k o)) (retTQ TB k25 k1a k7k o)
def k7n : Tm := ⟨[], [], [3, 36, 37, 38], [.one (.d (.int .i64)), .one (.d (.sl (.st 1))), .one (.d (.int .i64)), .one (.d (.int .i64))], 1⟩
noncomputable def k1bd (o : kr) (nx1 : HL TB.den k7n.hs → Prop) : Exit → TSt TB.den → Prop := thenT TB (fun s => k7n.mat TB 0 s nx1) (blockT TB 1 (k1ct o))
noncomputable def kct (o : kr) (nx1 : HL TB.den k7n.hs → Prop) (i : HL TB.den k7n.hs) : Prop := WP TB k25 52 0 (cA (cA (cB (cA (cB (cB (cB k4a))))))) .no (k7n.fill TB i) (k1bd o nx1)
noncomputable def kux (o : kr) : An TB := .nd [] .no [] (.lp [] k7n (kct o) fun nx1 => .no)
def kb9 : Tm := ⟨[0], [.cells [.d (.int .u64), .d (.int .i64), .d (.int .u64), .d (.int .u64), .d (.int .u64), .d (.sl (.st 1))]], [1], [.one (.ptr 0 0)], 1⟩
noncomputable def ksu (o : kr) (i : HL TB.den kb9.hs) : Prop := ghs TB [] (kb9.fill TB i) fun s => WP TB k25 52 0 (cB (cB k4a)) (.nd [] .no [] (.nd [] (kux o) [] .no)) s (retTQ TB k25 k1a k7k o)
structure k5e (o : kr) (i : HL TB.den kb9.hs) : Prop where
  h : ksu o i
noncomputable def ktj (o : kr) : Exit → TSt TB.den → Prop := thenT TB (fun s => kb9.mat TB 0 s (k5e o)) (retTQ TB k25 k1a k7k o)
noncomputable def klw (o : kr) : Exit → TSt TB.den → Prop := thenT TB (fun s => ghs TB [] s fun s => WP TB k25 52 0 (cB (cA (cA (cB k4a)))) .no s (blockT TB 0 (ktj o))) (blockT TB 0 (ktj o))
def kf7 : Tm := ⟨[0], [.cells [.d (.int .u64), .d (.int .i64), .d (.int .u64), .d (.int .u64), .d (.int .u64), .d (.sl (.st 1))]], [1, 6], [.one (.ptr 0 0), .one (.d (.bool))], 1⟩
noncomputable def kri (o : kr) (i : HL TB.den kf7.hs) : Prop := ghs TB [] (kf7.fill TB i) fun s => WP TB k25 52 0 (cB (cB (cB (cB (cB (cA (cA (cA (cB k4a))))))))) .no s (klw o)
structure k9n (o : kr) (i : HL TB.den kf7.hs) : Prop where
  h : kri o i
noncomputable def ks8 (o : kr) : An TB := .nd [] .no [] (.jn kf7 (k9n o) [] .no [] .no)
def kf0 : Tm := ⟨[0], [.cells [.d (.int .u64), .d (.int .i64), .d (.int .u64), .d (.int .u64), .d (.int .u64), .d (.sl (.st 1))]], [1, 6], [.one (.ptr 0 0), .one (.d (.bool))], 1⟩
noncomputable def ksm (o : kr) (i : HL TB.den kf0.hs) : Prop := ghs TB [] (kf0.fill TB i) fun s => WP TB k25 52 0 (cB (cB (cB (cA (cA (cA (cB k4a))))))) (ks8 o) s (klw o)
structure k9o (o : kr) (i : HL TB.den kf0.hs) : Prop where
  h : ksm o i
noncomputable def krn (o : kr) : An TB := .jn kf0 (k9o o) [] .no [] (ks8 o)
def kf4 : Tm := ⟨[0], [.cells [.d (.int .u64), .d (.int .i64), .d (.int .u64), .d (.int .u64), .d (.int .u64), .d (.sl (.st 1))]], [1, 6], [.one (.ptr 0 0), .one (.d (.bool))], 1⟩
noncomputable def ksi (o : kr) (i : HL TB.den kf4.hs) : Prop := ghs TB [] (kf4.fill TB i) fun s => WP TB k25 52 0 (cB (cA (cA (cA (cB k4a))))) (.nd [] .no [] (krn o)) s (klw o)
structure k9l (o : kr) (i : HL TB.den kf4.hs) : Prop where
  h : ksi o i
noncomputable def k19r (o : kr) : An TB := .jn kf4 (k9l o) [] .no [] (.nd [] .no [] (krn o))
noncomputable def k19y (o : kr) : An TB := .jn kb9 (k5e o) [] (.nd [] (k19r o) [] .no) [] (.nd [] .no [] (.nd [] (kux o) [] .no))
noncomputable def kut (o : kr) : An TB := .nd [] .no [] (k19y o)
noncomputable def kj4 (x : kx1) (o : kr) : Prop := WPh TB k25 52 0 k4a (kut o) (k1a.st TB x) (retTQ TB k25 k1a k7k o)
set_option maxRecDepth 100000 in
theorem k18a (o : kr) : OblH TB k25 52 0 k4a (kut o) (retTQ TB k25 k1a k7k o) :=
  OblH.of_eq (X := (True ∧ (((True ∧ (∀ i, (k9l o) i = (ksi o) i) ∧ (True ∧ (True ∧ (∀ i, (k9o o) i = (ksm o) i) ∧ (True ∧ (True ∧ (∀ i, (k9n o) i = (kri o) i) ∧ (True ∧ True)))))) ∧ ((True ∧ True) ∧ True)) ∧ (∀ i, (k5e o) i = (ksu o) i) ∧ (True ∧ ((True ∧ ((∀ nx i, (kct o) nx i = (kct o) nx i) ∧ ∀ nx1 : HL TB.den k7n.hs → Prop, (True ∧ ((True ∧ True) ∧ ((True ∧ ((True ∧ ((True ∧ True) ∧ True)) ∧ True)) ∧ True))))) ∧ ((True ∧ ((True ∧ True) ∧ True)) ∧ (True ∧ True))))))) (by kernel_rfl) ⟨trivial, ⟨⟨⟨trivial, fun _ => propext ⟨fun h => h.1, fun h => ⟨h⟩⟩, ⟨trivial, ⟨trivial, fun _ => propext ⟨fun h => h.1, fun h => ⟨h⟩⟩, ⟨trivial, ⟨trivial, fun _ => propext ⟨fun h => h.1, fun h => ⟨h⟩⟩, ⟨trivial, trivial⟩⟩⟩⟩⟩⟩, ⟨⟨trivial, trivial⟩, trivial⟩⟩, fun _ => propext ⟨fun h => h.1, fun h => ⟨h⟩⟩, ⟨trivial, ⟨⟨trivial, ⟨fun _ _ => rfl, fun _ => ⟨trivial, ⟨⟨trivial, trivial⟩, ⟨⟨trivial, ⟨⟨trivial, ⟨⟨trivial, trivial⟩, trivial⟩⟩, trivial⟩⟩, trivial⟩⟩⟩⟩⟩, ⟨⟨trivial, ⟨⟨trivial, trivial⟩, trivial⟩⟩, ⟨trivial, trivial⟩⟩⟩⟩⟩⟩
set_option maxRecDepth 100000 in
theorem k189 {x : kx1} {o : kr} (h : kj4 x o) : SoundH Try.prog k1a.f ((k1a.args idf x).map (er TB)) ((k1a.obs idf x).map (erO TB)) (er TB (k1a.val idf o)) ((k1a.ops idf o).map (erO TB)) :=
  Con.soundH (c := k1a) (C := k25) TBok ⟨inf_ok, (all_cons kth (all_cons k1jn all_nil)), all_nil⟩ mix Try.func12 (show Try.f12.body = some k4a by kernel_rfl) (show Try.f12.ntmps = 52 by kernel_rfl) (show Try.f12.results.toList = k7k by kernel_rfl) rfl h (k18a o)
set_option maxRecDepth 100000 in
theorem k1dp {p0 : TBlock} {r0 : Int} (h :
((decide (p0.Height < 1) = true →
 k9l (r0, ()) (true, p0.Parent, p0.Height, p0.Miner, p0.Work, p0.Nonce, p0.Txs, ())) ∧
(decide (p0.Height < 1) = false →
 k9l (r0, ()) ((decide (1048576 < p0.Height) : Bool), p0.Parent, p0.Height, p0.Miner, p0.Work, p0.Nonce, p0.Txs, ())))) : kj4 (p0.Parent, p0.Height, p0.Miner, p0.Work, p0.Nonce, p0.Txs, ()) (r0, ()) := WPh.of_eq (by kernel_rfl) h
set_option maxRecDepth 100000 in
theorem k132 {r0 : Int} {s6 : Bool} {h0_0 : Int} {h0_1 : Int} {h0_2 : Int} {h0_3 : Int} {h0_4 : Int} {h0_5 : List TTx} (h :
((s6 = true →
(s6 = true →
 1 = r0) ∧
(s6 = false →
 k5e (r0, ()) (h0_0, h0_1, h0_2, h0_3, h0_4, h0_5, ()))) ∧
(s6 = false →
(decide (h0_3 < 1) = true →
 k9o (r0, ()) (true, h0_0, h0_1, h0_2, h0_3, h0_4, h0_5, ())) ∧
(decide (h0_3 < 1) = false →
 k9o (r0, ()) ((decide (65536 < h0_3) : Bool), h0_0, h0_1, h0_2, h0_3, h0_4, h0_5, ()))))) : k9l (r0, ()) (s6, h0_0, h0_1, h0_2, h0_3, h0_4, h0_5, ()) := ⟨mpr_of (by kernel_rfl) h⟩
set_option maxRecDepth 100000 in
theorem k12x {r0 : Int} {s6 : Bool} {h0_0 : Int} {h0_1 : Int} {h0_2 : Int} {h0_3 : Int} {h0_4 : Int} {h0_5 : List TTx} (h :
((s6 = true →
(s6 = true →
 1 = r0) ∧
(s6 = false →
 k5e (r0, ()) (h0_0, h0_1, h0_2, h0_3, h0_4, h0_5, ()))) ∧
(s6 = false →
(decide (18446744069414584321 ≤ h0_0) = true →
 k9n (r0, ()) (true, h0_0, h0_1, h0_2, h0_3, h0_4, h0_5, ())) ∧
(decide (18446744069414584321 ≤ h0_0) = false →
 k9n (r0, ()) ((decide (18446744069414584321 ≤ h0_2) : Bool), h0_0, h0_1, h0_2, h0_3, h0_4, h0_5, ()))))) : k9o (r0, ()) (s6, h0_0, h0_1, h0_2, h0_3, h0_4, h0_5, ()) := ⟨mpr_of (by kernel_rfl) h⟩
set_option maxRecDepth 100000 in
theorem k13l {r0 : Int} {s6 : Bool} {h0_0 : Int} {h0_1 : Int} {h0_2 : Int} {h0_3 : Int} {h0_4 : Int} {h0_5 : List TTx} (h :
((s6 = true →
(s6 = true →
 1 = r0) ∧
(s6 = false →
 k5e (r0, ()) (h0_0, h0_1, h0_2, h0_3, h0_4, h0_5, ()))) ∧
(s6 = false →
(decide (64 < (h0_5.length : Int)) = true →
 1 = r0) ∧
(decide (64 < (h0_5.length : Int)) = false →
 k5e (r0, ()) (h0_0, h0_1, h0_2, h0_3, h0_4, h0_5, ()))))) : k9n (r0, ()) (s6, h0_0, h0_1, h0_2, h0_3, h0_4, h0_5, ()) := ⟨mpr_of (by kernel_rfl) h⟩
set_option maxRecDepth 100000 in
theorem k13a {r0 : Int} {h0_0 : Int} {h0_1 : Int} {h0_2 : Int} {h0_3 : Int} {h0_4 : Int} {h0_5 : List TTx} (h :
(Md.Loop ((0 : Int), h0_5, ((h0_5.length : Int) : Int), (0 : Int), ()) (kct (r0, ())))) : k5e (r0, ()) (h0_0, h0_1, h0_2, h0_3, h0_4, h0_5, ()) := ⟨mpr_of (by kernel_rfl) h⟩
def kuc (r0 : Int) (k1 : Int → Int → Prop) (s36 : List TTx) (s37 : Int) (s3 : Int) (s38 : Int) : Prop :=
(decide (s38 < s37) = true →
(0 ≤ s38) ∧ s38 < (s36.length : Int) ∧ (((validE (ix s36 s38)) != 0) = true →
 1 = r0) ∧
(((validE (ix s36 s38)) != 0) = false →
(TR (ix s36 s38)) ∧ let v1 : Int := IntKind.i64.wrap (s3 + (weightS (ix s36 s38)))
 k1 v1 (IntKind.i64.wrap (s38 + 1) : Int))) ∧
(decide (s38 < s37) = false →
(decide (2097152 < s3) = true →
 3 = r0) ∧
(decide (2097152 < s3) = false →
 0 = r0))
set_option maxRecDepth 100000 in
theorem k185 {r0 : Int} {s36 : List TTx} {s37 : Int} {s3 : Int} {s38 : Int} (inv : Int → Int → Prop) (μ : Int → Int → Nat) (h0 : inv s3 s38) (hs : ∀ (s3 : Int) (s38 : Int), inv s3 s38 → kuc r0 (fun s3q s38q => inv s3q s38q ∧ μ s3q s38q < μ s3 s38) s36 s37 s3 s38) : Md.Loop (s3, s36, s37, s38, ()) (kct (r0, ())) :=
  ⟨⟨fun s : Int × (List TTx) × Int × Int × Unit => (s.2.1 = s36 ∧ s.2.2.1 = s37) ∧ inv s.1 s.2.2.2.1, fun s : Int × (List TTx) × Int × Int × Unit => μ s.1 s.2.2.2.1, ⟨⟨rfl, rfl⟩, h0⟩, fun (s3p, s36p, s37p, s38p, ()) ⟨⟨eq0, eq1⟩, hi⟩ => by
    have eq0 : s36p = s36 := eq0; subst s36p; have eq1 : s37p = s37 := eq1; subst s37p; exact mpr_of (by kernel_rfl) ((congrArg (fun k => kuc r0 k s36 s37 s3p s38p) (lpk2 (⟨rfl, rfl⟩ : s36 = s36 ∧ s37 = s37) inv (fun s3q s38q => μ s3q s38q < μ s3p s38p))).mpr (hs s3p s38p hi))⟩⟩
theorem bd12 : Callable Try.prog 12 := ⟨by rw [Try.func12]; kernel_rfl, by rw [Try.func12]; show some _ ≠ some _; decide⟩
theorem k15u (p0 : TBlock) (h : ∀ x ∈ p0.Txs, TR x) : kj4 (p0.Parent, p0.Height, p0.Miner, p0.Work, p0.Nonce, p0.Txs, ()) ((validB p0 : Int), ()) := by
  have bad : ∀ b : Bool, b = true → ¬ VB0 p0 → (1 : Int) = validB p0 := fun _ _ hn => (ken hn).symm
  have j4 : VB0 p0 → k5e (validB p0, ()) (p0.Parent, p0.Height, p0.Miner, p0.Work, p0.Nonce, p0.Txs, ()) := by
    intro hc
    have hl := hc.l
    refine k13a (k185 (fun w i => 0 ≤ i ∧ i ≤ p0.Txs.length ∧ w = sumW (p0.Txs.take i.toNat) ∧ ∀ t ∈ p0.Txs.take i.toNat, validE t = 0) (fun _ i => (p0.Txs.length - i).toNat) ⟨by omega, by omega, by simp [sumW], by simp⟩ ?_)
    rintro w i ⟨g0, g1, rfl, g3⟩
    have hb := sumW_bd _ g3
    rw [List.length_take] at hb
    refine ⟨fun hh => ?_, fun hh => ?_⟩
    · have hh := of_decide_eq_true hh
      have hm := ix_mem p0.Txs i g0 hh
      refine ⟨g0, hh, fun e => ?_, fun e => ⟨h _ hm, ?_⟩⟩
      · have e : validE (ix p0.Txs i) ≠ 0 := by simpa using e
        exact (k1ea hm e).symm
      · have e : validE (ix p0.Txs i) = 0 := by simpa using e
        have hw := kwx e
        rw [inc i p0.Txs.length g0 hh (by omega), wi (sumW (p0.Txs.take i.toNat) + weightS (ix p0.Txs i)) (by omega) (by omega)]
        refine ⟨⟨by omega, by omega, ?_, ?_⟩, by omega⟩
        · rw [ka p0.Txs i g0 hh, k1iq]
        · rw [ka p0.Txs i g0 hh]
          intro t ht
          rcases List.mem_append.1 ht with ht | ht
          · exact g3 t ht
          · rw [List.mem_singleton.1 ht]; exact e
    · have hh := of_decide_eq_false hh
      rw [List.take_of_length_le (by omega)] at g3 hb ⊢
      rw [k1e1 hc g3]
      refine ⟨fun e => ?_, fun e => ?_⟩
      · have e := of_decide_eq_true e
        rw [if_neg (by omega)]
      · have e := of_decide_eq_false e
        rw [if_pos (by omega)]
  have j3 : ∀ s, (s = true → ¬ VB0 p0) → (s = false → p0.Txs.length ≤ 64 → VB0 p0) → k9n (validB p0, ()) (s, p0.Parent, p0.Height, p0.Miner, p0.Work, p0.Nonce, p0.Txs, ()) := by
    intro s h1 h2
    refine k13l ⟨fun e => ⟨fun _ => (ken (h1 e)).symm, fun e2 => by rw [e] at e2; cases e2⟩, fun e => ⟨fun e2 => ?_, fun e2 => ?_⟩⟩
    · have e2 := of_decide_eq_true e2
      exact (ken fun v => by have := v.l; omega).symm
    · have e2 := of_decide_eq_false e2
      exact j4 (h2 e (by omega))
  have j2 : ∀ s, (s = true → ¬ VB0 p0) → (s = false → p0.Parent < 18446744069414584321 → p0.Miner < 18446744069414584321 → p0.Txs.length ≤ 64 → VB0 p0) → k9o (validB p0, ()) (s, p0.Parent, p0.Height, p0.Miner, p0.Work, p0.Nonce, p0.Txs, ()) := by
    intro s h1 h2
    refine k12x ⟨fun e => ⟨fun _ => (ken (h1 e)).symm, fun e2 => by rw [e] at e2; cases e2⟩, fun e => ⟨fun e2 => ?_, fun e2 => ?_⟩⟩
    · have e2 := of_decide_eq_true e2
      exact j3 _ (fun _ v => by have := v.p; omega) (fun h => by cases h)
    · have e2 := of_decide_eq_false e2
      exact j3 _ (fun hd v => by have := of_decide_eq_true hd; have := v.m; omega) (fun hd => h2 e (by omega) (by have := of_decide_eq_false hd; omega))
  have j1 : ∀ s, (s = true → ¬ VB0 p0) → (s = false → 1 ≤ p0.Height ∧ p0.Height ≤ 1048576) → k9l (validB p0, ()) (s, p0.Parent, p0.Height, p0.Miner, p0.Work, p0.Nonce, p0.Txs, ()) := by
    intro s h1 h2
    refine k132 ⟨fun e => ⟨fun _ => (ken (h1 e)).symm, fun e2 => by rw [e] at e2; cases e2⟩, fun e => ⟨fun e2 => ?_, fun e2 => ?_⟩⟩
    · have e2 := of_decide_eq_true e2
      exact j2 _ (fun _ v => by have := v.w0; omega) (fun h => by cases h)
    · have e2 := of_decide_eq_false e2
      obtain ⟨q1, q2⟩ := h2 e
      exact j2 _ (fun hd v => by have := of_decide_eq_true hd; have := v.w1; omega) (fun hd a b c => ⟨q1, q2, by omega, by have := of_decide_eq_false hd; omega, a, b, c⟩)
  refine k1dp ⟨fun e => ?_, fun e => ?_⟩
  · have e := of_decide_eq_true e
    exact j1 _ (fun _ v => by have := v.h0; omega) (fun h => by cases h)
  · have e := of_decide_eq_false e
    exact j1 _ (fun hd v => by have := of_decide_eq_true hd; have := v.h1; omega) (fun hd => ⟨by omega, by have := of_decide_eq_false hd; omega⟩)
noncomputable def kf3 : Con TB.den := k1a.fnR (fun x => (fun (p0 : TBlock) => ∀ x ∈ p0.Txs, TR x) (TBlock.mk x.1 x.2.1 x.2.2.1 x.2.2.2.1 x.2.2.2.2.1 x.2.2.2.2.2.1)) fun x => ((fun (p0 : TBlock) => (validB p0 : Int)) (TBlock.mk x.1 x.2.1 x.2.2.1 x.2.2.2.1 x.2.2.2.2.1 x.2.2.2.2.2.1), ())
theorem klv : kf3.Ok Try.prog TB := Con.ok_fn k1a bd12 fun x h => k189 (k15u (TBlock.mk x.1 x.2.1 x.2.2.1 x.2.2.2.1 x.2.2.2.2.1 x.2.2.2.2.2.1) h)
end Go.Proofs.Ytnmakgfmimagmaa
namespace Go.Proofs.Ytnmakgfmimagmaa
open Go Go.Bv Go.Cv Go.Md Go.RowKit
def k1g : Con TB.den := Con.mk0 77 [.one (.ptr 0 0), .one (.d (.int .i64)), .one (.d (.int .u64))] [.cells [.d (.sl (.int .u8)), .d (.int .i64), .d (.bool)]] (.one (.one (.d (.sl (.int .u64))))) [.cells [.d (.sl (.int .u8)), .d (.int .i64), .d (.bool)]]
abbrev ky8 := HL TB.den (hsT k1g.ins (hsOs k1g.pre))
abbrev k3y := HL TB.den (hsV k1g.res (hsOs k1g.post))
noncomputable def k3b : Cx TB := ⟨inf, [kd5, kf6, kc3], [], 4⟩
noncomputable def k66 : Code := Try.f77.body.getD .skip
noncomputable def k7l : List ResultVar := Try.f77.results.toList
noncomputable def k1dq (o : k3y) : Exit → TSt TB.den → Prop := thenT TB (fun s => ghs TB [] s fun s => WP TB k3b 53 1 (cB (cB (cB (cB (cB k66))))) (.nd [] .no [] (.rt [.frz 1 [6]])) s (retTQ TB k3b k1g k7l o)) (retTQ TB k3b k1g k7l o)
def k7q : Tm := ⟨[0, 1], [.cells [.d (.sl (.int .u8)), .d (.int .i64), .d (.bool)], .vec (.int .u64)], [0, 2, 8, 30, 31], [.one (.ptr 0 0), .one (.d (.int .u64)), .one (.row 1), .one (.d (.int .i64)), .one (.d (.int .i64))], 2⟩
noncomputable def k1ba (o : k3y) (nx1 : HL TB.den k7q.hs → Prop) : Exit → TSt TB.den → Prop := thenT TB (fun s => k7q.mat TB 1 s nx1) (blockT TB 0 (k1dq o))
noncomputable def kci (o : k3y) (nx1 : HL TB.den k7q.hs → Prop) (i : HL TB.den k7q.hs) : Prop := WP TB k3b 53 1 (cA (cA (cB (cA (cB (cB (cB (cB k66)))))))) .no (k7q.fill TB i) (k1ba o nx1)
noncomputable def k1bg (o : k3y) : An TB := .nd [] .no [] (.lp [] k7q (kci o) fun nx1 => .no)
noncomputable def ktr (o : k3y) : An TB := .nd [] (k1bg o) [] (.nd [] .no [] (.rt [.frz 1 [6]]))
noncomputable def k1bq (o : k3y) : Exit → TSt TB.den → Prop := thenT TB (fun s => ghs TB [] s fun s => WP TB k3b 53 1 (cB (cB (cB k66))) (.nd [] .no [] (ktr o)) s (retTQ TB k3b k1g k7l o)) (retTQ TB k3b k1g k7l o)
def kf9 : Tm := ⟨[0], [.cells [.d (.sl (.int .u8)), .d (.int .i64), .d (.bool)]], [0, 2, 7, 23], [.one (.ptr 0 0), .one (.d (.int .u64)), .one (.d (.int .i64)), .one (.d (.bool))], 1⟩
noncomputable def ks1 (o : k3y) (i : HL TB.den kf9.hs) : Prop := ghs TB [] (kf9.fill TB i) fun s => WP TB k3b 53 1 (cB (cA (cB (cB k66)))) .no s (k1bq o)
structure k7j (o : k3y) (i : HL TB.den kf9.hs) : Prop where
  h : ks1 o i
noncomputable def k1db (o : k3y) : An TB := .nd [] (.jn kf9 (k7j o) [] .no [] .no) [] (.nd [] .no [] (ktr o))
noncomputable def kuo (o : k3y) : An TB := .nd [] .no [] (.nd [] .no [] (k1db o))
noncomputable def kjo (x : ky8) (o : k3y) : Prop := WPh TB k3b 53 1 k66 (kuo o) (k1g.st TB x) (retTQ TB k3b k1g k7l o)
set_option maxRecDepth 100000 in
theorem k198 (o : k3y) : OblH TB k3b 53 1 k66 (kuo o) (retTQ TB k3b k1g k7l o) :=
  OblH.of_eq (X := (True ∧ (True ∧ ((True ∧ (∀ i, (k7j o) i = (ks1 o) i) ∧ ((True ∧ (True ∧ True)) ∧ True)) ∧ (True ∧ ((True ∧ ((∀ nx i, (kci o) nx i = (kci o) nx i) ∧ ∀ nx1 : HL TB.den k7q.hs → Prop, (True ∧ ((True ∧ True) ∧ ((True ∧ (True ∧ (True ∧ ((True ∧ (True ∧ True)) ∧ True)))) ∧ True))))) ∧ (True ∧ True))))))) (by kernel_rfl) ⟨trivial, ⟨trivial, ⟨⟨trivial, fun _ => propext ⟨fun h => h.1, fun h => ⟨h⟩⟩, ⟨⟨trivial, ⟨trivial, trivial⟩⟩, trivial⟩⟩, ⟨trivial, ⟨⟨trivial, ⟨fun _ _ => rfl, fun _ => ⟨trivial, ⟨⟨trivial, trivial⟩, ⟨⟨trivial, ⟨trivial, ⟨trivial, ⟨⟨trivial, ⟨trivial, trivial⟩⟩, trivial⟩⟩⟩⟩, trivial⟩⟩⟩⟩⟩, ⟨trivial, trivial⟩⟩⟩⟩⟩⟩
set_option maxRecDepth 100000 in
theorem k19n {x : ky8} {o : k3y} (h : kjo x o) : SoundH Try.prog k1g.f ((k1g.args idf x).map (er TB)) ((k1g.obs idf x).map (erO TB)) (er TB (k1g.val idf o)) ((k1g.ops idf o).map (erO TB)) :=
  Con.soundH (c := k1g) (C := k3b) TBok ⟨inf_ok, (all_cons kil (all_cons kli (all_cons kjj all_nil))), all_nil⟩ mix Try.func77 (show Try.f77.body = some k66 by kernel_rfl) (show Try.f77.ntmps = 53 by kernel_rfl) (show Try.f77.results.toList = k7l by kernel_rfl) rfl h (k198 o)
set_option maxRecDepth 100000 in
theorem k1d6 {p1 : Int} {p2 : Int} {c0_0 : List Int} {c0_1 : Int} {c0_2 : Bool} {r0 : List Int} {d0_0 : List Int} {d0_1 : Int} {d0_2 : Bool} (h :
((RdOk c0_0 c0_1) ∧ ∀ (r4 : Int) (r5 : Int) (r6 : Bool), (r4 = (rdI c0_0 c0_1 c0_2 p1).n ∧ r5 = (rdI c0_0 c0_1 c0_2 p1).pos ∧ r6 = (rdI c0_0 c0_1 c0_2 p1).fail) → (r6 = true →
 k7j (r0, d0_0, d0_1, d0_2, ()) (p2, r4, true, c0_0, r5, r6, ())) ∧
(r6 = false →
((0 ≤ r5 ∧ r5 ≤ c0_0.length) ∧ c0_0.length ≤ 137438953472) ∧ let v7 : Int := IntKind.i64.wrap (Int.tdiv ((c0_0.length : Int) - r5) 8)
 k7j (r0, d0_0, d0_1, d0_2, ()) (p2, r4, (decide (v7 < r4) : Bool), c0_0, r5, r6, ())))) : kjo (p1, p2, c0_0, c0_1, c0_2, ()) (r0, d0_0, d0_1, d0_2, ()) := WPh.of_eq (by kernel_rfl) h
set_option maxRecDepth 100000 in
theorem kox {r0 : List Int} {d0_0 : List Int} {d0_1 : Int} {d0_2 : Bool} {s2 : Int} {s7 : Int} {s23 : Bool} {h0_0 : List Int} {h0_1 : Int} {h0_2 : Bool} (h :
((s23 = true →
([] : List Int) = r0 ∧ h0_0 = d0_0 ∧ h0_1 = d0_1 ∧ true = d0_2) ∧
(s23 = false →
 0 ≤ s7 ∧ s7 ≤ s7 ∧ (s7.toNat * 8 ≤ 140737488355328) ∧ (s7.toNat ≤ maxLen) ∧ (s7.toNat = (List.replicate s7.toNat (0 : Int)).length) ∧ Md.Loop (s2, ((s7.toNat : Int) : Int), (0 : Int), h0_0, h0_1, h0_2, (List.replicate s7.toNat (0 : Int) : List Int), ()) (kci (r0, d0_0, d0_1, d0_2, ()))))) : k7j (r0, d0_0, d0_1, d0_2, ()) (s2, s7, s23, h0_0, h0_1, h0_2, ()) := ⟨mpr_of (by kernel_rfl) h⟩
def kv2 (r0 : List Int) (d0_0 : List Int) (d0_1 : Int) (d0_2 : Bool) (k1 : Int → Int → Bool → List Int → Prop) (s2 : Int) (s30 : Int) (h0_0 : List Int) (s31 : Int) (h0_1 : Int) (h0_2 : Bool) (g1 : List Int) : Prop :=
(decide (s31 < s30) = true →
(RdOk h0_0 h0_1 ∧ 1 ≤ (8 : Int) ∧ (8 : Int) ≤ 8) ∧ ∀ (r36 : Int) (r37 : Bool) (r38 : Int) (r39 : Bool), (r36 = (rdD h0_0 h0_1 h0_2 (8 : Int)).n ∧ r37 = (rdD h0_0 h0_1 h0_2 (8 : Int)).ok ∧ r38 = (rdD h0_0 h0_1 h0_2 (8 : Int)).pos ∧ r39 = (rdD h0_0 h0_1 h0_2 (8 : Int)).fail) → (0 ≤ s31 ∧ s31 < (g1.length : Int)) ∧ (0 ≤ s31 ∧ s31 < (g1.length : Int)) ∧ (0 ≤ s31 ∧ s31 < (g1.length : Int)) ∧ (0 ≤ s31 ∧ s31 < ((g1.set s31.toNat r36).length : Int)) ∧ let v40 : Bool := decide (s2 ≤ (ix (g1.set s31.toNat r36) s31))
(v40 = true →
([] : List Int) = r0 ∧ h0_0 = d0_0 ∧ r38 = d0_1 ∧ true = d0_2) ∧
(v40 = false →
(g1.length = (g1.set s31.toNat r36).length) ∧ k1 (IntKind.i64.wrap (s31 + 1) : Int) r38 r39 (g1.set s31.toNat r36 : List Int))) ∧
(decide (s31 < s30) = false →
(g1.length = g1.length) ∧ g1 = r0 ∧ h0_0 = d0_0 ∧ h0_1 = d0_1 ∧ h0_2 = d0_2)
set_option maxRecDepth 100000 in
theorem k190 {r0 : List Int} {d0_0 : List Int} {d0_1 : Int} {d0_2 : Bool} {s2 : Int} {s30 : Int} {h0_0 : List Int} {s31 : Int} {h0_1 : Int} {h0_2 : Bool} {g1 : List Int} (inv : Int → Int → Bool → List Int → Prop) (μ : Int → Int → Bool → List Int → Nat) (h0 : inv s31 h0_1 h0_2 g1) (hs : ∀ (s31 : Int) (h0_1 : Int) (h0_2 : Bool) (g1 : List Int), inv s31 h0_1 h0_2 g1 → kv2 r0 d0_0 d0_1 d0_2 (fun s31q h0_1q h0_2q g1q => inv s31q h0_1q h0_2q g1q ∧ μ s31q h0_1q h0_2q g1q < μ s31 h0_1 h0_2 g1) s2 s30 h0_0 s31 h0_1 h0_2 g1) : Md.Loop (s2, s30, s31, h0_0, h0_1, h0_2, g1, ()) (kci (r0, d0_0, d0_1, d0_2, ())) :=
  ⟨⟨fun s : Int × Int × Int × (List Int) × Int × Bool × (List Int) × Unit => (s.1 = s2 ∧ s.2.1 = s30 ∧ s.2.2.2.1 = h0_0) ∧ inv s.2.2.1 s.2.2.2.2.1 s.2.2.2.2.2.1 s.2.2.2.2.2.2.1, fun s : Int × Int × Int × (List Int) × Int × Bool × (List Int) × Unit => μ s.2.2.1 s.2.2.2.2.1 s.2.2.2.2.2.1 s.2.2.2.2.2.2.1, ⟨⟨rfl, rfl, rfl⟩, h0⟩, fun (s2p, s30p, s31p, h0_0p, h0_1p, h0_2p, g1p, ()) ⟨⟨eq0, eq1, eq2⟩, hi⟩ => by
    have eq0 : s2p = s2 := eq0; subst s2p; have eq1 : s30p = s30 := eq1; subst s30p; have eq2 : h0_0p = h0_0 := eq2; subst h0_0p; exact mpr_of (by kernel_rfl) ((congrArg (fun k => kv2 r0 d0_0 d0_1 d0_2 k s2 s30 h0_0 s31p h0_1p h0_2p g1p) (lpk4 (⟨rfl, rfl, rfl⟩ : s2 = s2 ∧ s30 = s30 ∧ h0_0 = h0_0) inv (fun s31q h0_1q h0_2q g1q => μ s31q h0_1q h0_2q g1q < μ s31p h0_1p h0_2p g1p))).mpr (hs s31p h0_1p h0_2p g1p hi))⟩⟩
theorem bd77 : Callable Try.prog 77 := ⟨by rw [Try.func77]; kernel_rfl, by rw [Try.func77]; show some _ ≠ some _; decide⟩
theorem k173 (p1 : Int) (p2 : Int) (c0_0 : List Int) (c0_1 : Int) (c0_2 : Bool) (h : RdOk c0_0 c0_1 ∧ (0 ≤ p1 ∧ p1 ≤ 4096)) : kjo (p1, p2, c0_0, c0_1, c0_2, ()) (((rdL c0_0 c0_1 c0_2 p1 p2).l : List Int), (c0_0 : List Int), ((rdL c0_0 c0_1 c0_2 p1 p2).pos : Int), ((rdL c0_0 c0_1 c0_2 p1 p2).fail : Bool), ()) := by
  obtain ⟨h, hp0, hp1⟩ := h
  have hI := rdI_ok h (f := c0_2) (m := p1)
  have hIn := rdI_n h (f := c0_2) (m := p1) hp0
  have hb := h.by_
  have hl := h.len
  generalize hX : rdI c0_0 c0_1 c0_2 p1 = X at *
  have jf : (X.fail = true ∨ ((c0_0.length : Int) - X.pos) / 8 < X.n) → k7j ((rdL c0_0 c0_1 c0_2 p1 p2).l, c0_0, (rdL c0_0 c0_1 c0_2 p1 p2).pos, (rdL c0_0 c0_1 c0_2 p1 p2).fail, ()) (p2, X.n, true, c0_0, X.pos, X.fail, ()) := by
    intro hf
    refine kox ⟨fun _ => ?_, fun h => by simp at h⟩
    unfold rdL
    rw [hX, if_pos hf]
    exact ⟨rfl, rfl, rfl, rfl⟩
  have jt : ¬ (X.fail = true ∨ ((c0_0.length : Int) - X.pos) / 8 < X.n) → k7j ((rdL c0_0 c0_1 c0_2 p1 p2).l, c0_0, (rdL c0_0 c0_1 c0_2 p1 p2).pos, (rdL c0_0 c0_1 c0_2 p1 p2).fail, ()) (p2, X.n, false, c0_0, X.pos, X.fail, ()) := by
    intro hf
    have hff : X.fail = false := by
      cases hc : X.fail
      · rfl
      · exact absurd (.inl hc) hf
    have hle : X.n * 8 ≤ (c0_0.length : Int) - X.pos := by
      have : ¬ ((c0_0.length : Int) - X.pos) / 8 < X.n := fun h => hf (.inr h)
      omega
    refine kox ⟨fun h => by simp at h, fun _ => ⟨hIn.1, by omega, by have := hIn.2; omega, by have := hIn.2; unfold maxLen; omega, by simp, ?_⟩⟩
    have hL : rdL c0_0 c0_1 c0_2 p1 p2 = rdLs c0_0 p2 X.n.toNat X.pos [] := by unfold rdL; rw [hX, if_neg hf]
    rw [hff]
    have hnn : ((X.n.toNat : Int)) = X.n := by have := hIn.1; omega
    rw [hnn, hL]
    refine k190 (fun i pos f g => 0 ≤ i ∧ i ≤ X.n ∧ f = false ∧ 0 ≤ pos ∧ pos + (X.n - i) * 8 ≤ c0_0.length ∧ (g.length : Int) = X.n ∧ rdLs c0_0 p2 (X.n - i).toNat pos (g.take i.toNat) = rdLs c0_0 p2 X.n.toNat X.pos []) (fun i _ _ _ => (X.n - i).toNat) ⟨by omega, hIn.1, rfl, hI.pos0, by omega, by simp; have := hIn.1; omega, by simp⟩ ?_
    rintro i pos f g ⟨g0, g1, rfl, g2, g3, g4, g5⟩
    have hok : RdOk c0_0 pos := ⟨hb, hl, g2, by omega⟩
    refine ⟨fun hh => ?_, fun hh => ?_⟩
    · have hh := of_decide_eq_true hh
      have hD : rdD c0_0 pos false 8 = ⟨val ((c0_0.drop pos.toNat).take 8), true, pos + 8, false⟩ := by unfold rdD; rw [if_neg (by simp; omega)]; rfl
      have hset : ix (g.set i.toNat (val ((c0_0.drop pos.toNat).take 8))) i = val ((c0_0.drop pos.toNat).take 8) := by
        rw [ix_nat _ i g0 (by rw [List.length_set]; omega)]
        simp
      have hstep : rdLs c0_0 p2 (X.n - i).toNat pos (g.take i.toNat) = if p2 ≤ val ((c0_0.drop pos.toNat).take 8) then ⟨[], pos + 8, true⟩ else rdLs c0_0 p2 (X.n - (i + 1)).toNat (pos + 8) (g.take i.toNat ++ [val ((c0_0.drop pos.toNat).take 8)]) := by
        rw [show (X.n - i).toNat = (X.n - (i + 1)).toNat + 1 by omega]
        rfl
      refine ⟨⟨hok, by omega, by omega⟩, fun n1 n2 n3 n4 e => ?_⟩
      rw [hD] at e
      obtain ⟨rfl, rfl, rfl, rfl⟩ := e
      refine ⟨by omega, by omega, by omega, by rw [List.length_set]; omega, fun e => ?_, fun e => ⟨by rw [List.length_set], ?_⟩⟩
      · have e := of_decide_eq_true e
        rw [hset] at e
        rw [← g5, hstep, if_pos e]
        exact ⟨rfl, rfl, rfl, rfl⟩
      · have e := of_decide_eq_false e
        rw [hset] at e
        rw [inc i X.n g0 hh (by have := hIn.2; omega)]
        refine ⟨⟨by omega, by omega, rfl, by show 0 ≤ pos + 8; omega, by show pos + 8 + (X.n - (i + 1)) * 8 ≤ _; omega, by rw [List.length_set]; exact g4, ?_⟩, by omega⟩
        rw [← g5, hstep, if_neg e]
        congr 1
        rw [ka _ i g0 (by rw [List.length_set]; omega), hset]
        congr 1
        rw [List.take_set_of_le (by omega)]
    · have hh := of_decide_eq_false hh
      have hi : i = X.n := by omega
      subst hi
      rw [Int.sub_self, List.take_of_length_le (by omega)] at g5
      rw [← g5]
      exact ⟨rfl, rfl, rfl, rfl, rfl⟩
  refine k1d6 ⟨h, ?_⟩
  rintro _ _ _ ⟨rfl, rfl, rfl⟩
  rw [hX]
  refine ⟨fun e => jf (.inl e), fun e => ⟨⟨⟨hI.pos0, hI.pos1⟩, hl⟩, ?_⟩⟩
  have := hI.pos0
  have := hI.pos1
  try simp only []
  rw [tdiv_nn _ _ (by omega), wi _ (by omega) (by omega)]
  by_cases hq : ((c0_0.length : Int) - X.pos) / 8 < X.n
  · rw [decide_eq_true hq]; exact jf (.inr hq)
  · rw [decide_eq_false hq]; exact jt (by rw [e]; simpa using hq)
noncomputable def ks0 : Con TB.den := { k1g with R := fun x K => (fun (p1 : Int) (p2 : Int) (c0_0 : List Int) (c0_1 : Int) (c0_2 : Bool) => ((RdOk c0_0 c0_1 ∧ (0 ≤ p1 ∧ p1 ≤ 4096)) ∧ ∀ (v0 : List Int) (v2 : Int) (v3 : Bool), (v0 = ((rdL c0_0 c0_1 c0_2 p1 p2).l) ∧ v2 = ((rdL c0_0 c0_1 c0_2 p1 p2).pos) ∧ v3 = ((rdL c0_0 c0_1 c0_2 p1 p2).fail)) → K (v0, (c0_0 : List Int), v2, v3, ()) : Prop)) x.1 x.2.1 x.2.2.1 x.2.2.2.1 x.2.2.2.2.1 }
theorem k1cr : ks0.Ok Try.prog TB := ⟨bd77, fun x K hx => ⟨((fun (p1 : Int) (p2 : Int) (c0_0 : List Int) (c0_1 : Int) (c0_2 : Bool) => ((rdL c0_0 c0_1 c0_2 p1 p2).l : List Int)) x.1 x.2.1 x.2.2.1 x.2.2.2.1 x.2.2.2.2.1, (fun (p1 : Int) (p2 : Int) (c0_0 : List Int) (c0_1 : Int) (c0_2 : Bool) => (c0_0 : List Int)) x.1 x.2.1 x.2.2.1 x.2.2.2.1 x.2.2.2.2.1, (fun (p1 : Int) (p2 : Int) (c0_0 : List Int) (c0_1 : Int) (c0_2 : Bool) => ((rdL c0_0 c0_1 c0_2 p1 p2).pos : Int)) x.1 x.2.1 x.2.2.1 x.2.2.2.1 x.2.2.2.2.1, (fun (p1 : Int) (p2 : Int) (c0_0 : List Int) (c0_1 : Int) (c0_2 : Bool) => ((rdL c0_0 c0_1 c0_2 p1 p2).fail : Bool)) x.1 x.2.1 x.2.2.1 x.2.2.2.1 x.2.2.2.2.1, ()), hx.2 ((fun (p1 : Int) (p2 : Int) (c0_0 : List Int) (c0_1 : Int) (c0_2 : Bool) => (((rdL c0_0 c0_1 c0_2 p1 p2).l))) x.1 x.2.1 x.2.2.1 x.2.2.2.1 x.2.2.2.2.1) ((fun (p1 : Int) (p2 : Int) (c0_0 : List Int) (c0_1 : Int) (c0_2 : Bool) => (((rdL c0_0 c0_1 c0_2 p1 p2).pos))) x.1 x.2.1 x.2.2.1 x.2.2.2.1 x.2.2.2.2.1) ((fun (p1 : Int) (p2 : Int) (c0_0 : List Int) (c0_1 : Int) (c0_2 : Bool) => (((rdL c0_0 c0_1 c0_2 p1 p2).fail))) x.1 x.2.1 x.2.2.1 x.2.2.2.1 x.2.2.2.2.1) ⟨rfl, rfl, rfl⟩, k19n (k173 x.1 x.2.1 x.2.2.1 x.2.2.2.1 x.2.2.2.2.1 hx.1)⟩⟩
end Go.Proofs.Ytnmakgfmimagmaa
namespace Go.Proofs.Ytnmakgfmimagmaa
open Go Go.Bv Go.Cv Go.Md Go.RowKit
def k1q : Con TB.den := Con.mk0 47 [.one (.d (.sl (.int .u8)))] [] (.one (.one (.ptr 0 0))) [.cells [.d (.sl (.int .u8)), .d (.int .i64), .d (.bool)]]
abbrev kpe := HL TB.den (hsT k1q.ins (hsOs k1q.pre))
abbrev kdj := HL TB.den (hsV k1q.res (hsOs k1q.post))
noncomputable def k97 : Cx TB := ⟨inf, [kog], [], 4⟩
noncomputable def keu : Code := Try.f47.body.getD .skip
noncomputable def khi : List ResultVar := Try.f47.results.toList
noncomputable def koq (o : kdj) : An TB := .no
noncomputable def kev (x : kpe) (o : kdj) : Prop := WPh TB k97 7 0 keu (koq o) (k1q.st TB x) (retTQ TB k97 k1q khi o)
set_option maxRecDepth 100000 in
theorem k12b (o : kdj) : OblH TB k97 7 0 keu (koq o) (retTQ TB k97 k1q khi o) :=
  OblH.of_eq (X := (True ∧ (True ∧ True))) (by kernel_rfl) ⟨trivial, ⟨trivial, trivial⟩⟩
set_option maxRecDepth 100000 in
theorem k11e {x : kpe} {o : kdj} (h : kev x o) : SoundH Try.prog k1q.f ((k1q.args idf x).map (er TB)) ((k1q.obs idf x).map (erO TB)) (er TB (k1q.val idf o)) ((k1q.ops idf o).map (erO TB)) :=
  Con.soundH (c := k1q) (C := k97) TBok ⟨inf_ok, (all_cons k10v all_nil), all_nil⟩ mix Try.func47 (show Try.f47.body = some keu by kernel_rfl) (show Try.f47.ntmps = 7 by kernel_rfl) (show Try.f47.results.toList = khi by kernel_rfl) rfl h (k12b o)
set_option maxRecDepth 100000 in
theorem k13d {p0 : List Int} {d0_0 : List Int} {d0_1 : Int} {d0_2 : Bool} (h :
((0 ≤ (0 : Int) ∧ p0.length + (0 : Int) ≤ 140737488355328) ∧ p0 = d0_0 ∧ 0 = d0_1 ∧ false = d0_2)) : kev (p0, ()) (d0_0, d0_1, d0_2, ()) := WPh.of_eq (by kernel_rfl) h
theorem bd47 : Callable Try.prog 47 := ⟨by rw [Try.func47]; kernel_rfl, by rw [Try.func47]; show some _ ≠ some _; decide⟩
theorem kzc (p0 : List Int) (h : p0.length ≤ 137438953472) : kev (p0, ()) ((p0 : List Int), (0 : Int), (false : Bool), ()) := by
  exact k13d ⟨⟨by omega, by omega⟩, rfl, rfl, rfl⟩
noncomputable def kfn : Con TB.den := { k1q with R := fun x K => (fun (p0 : List Int) => ((p0.length ≤ 137438953472) ∧ K ((p0 : List Int), (0 : Int), (false : Bool), ()) : Prop)) x.1 }
theorem kou : kfn.Ok Try.prog TB := ⟨bd47, fun x K hx => ⟨((fun (p0 : List Int) => (p0 : List Int)) x.1, (fun (p0 : List Int) => (0 : Int)) x.1, (fun (p0 : List Int) => (false : Bool)) x.1, ()), hx.2, k11e (kzc x.1 hx.1)⟩⟩
end Go.Proofs.Ytnmakgfmimagmaa
namespace Go.Proofs.Ytnmakgfmimagmaa
open Go Go.Bv Go.Cv Go.Md Go.RowKit
def k29 : Con TB.den := Con.mk0 52 [.one (.d (.sl (.int .u8)))] [] (.tup [.agg [.d (.int .u64), .d (.sl (.int .u64)), .d (.sl (.st 0)), .d (.int .u64), .d (.int .u64), .d (.int .u64), .d (.int .u64), .d (.int .u64), .d (.int .i64), .d (.sl (.int .u8))], .one (.d (.int .i64))]) []
abbrev k14l := HL TB.den (hsT k29.ins (hsOs k29.pre))
abbrev k3s := HL TB.den (hsV k29.res (hsOs k29.post))
noncomputable def k4g : Cx TB := ⟨inf, [kfn, kk6, ks0, kd5, kjp, kkc, kkh], [], 4⟩
noncomputable def k7i : Code := Try.f52.body.getD .skip
noncomputable def k9u : List ResultVar := Try.f52.results.toList
noncomputable def k1j0 (o : k3s) : Exit → TSt TB.den → Prop := thenT TB (fun s => ghs TB [] s fun s => WP TB k4g 71 0 (cB (cB (cB (cB (cB (cB (cB (cB (cB (cB (cB (cB (cB (cB k7i)))))))))))))) .no s (retTQ TB k4g k29 k9u o)) (retTQ TB k4g k29 k9u o)
def kiu : Tm := ⟨[0, 2, 3], [.cells [.d (.int .u64), .full (.int .u64), .full (.st 0), .d (.int .u64), .d (.int .u64), .d (.int .u64), .d (.int .u64), .d (.int .u64), .d (.int .i64), .full (.int .u8)], .cells [.d (.int .u64), .d (.sl (.int .u64)), .own 2, .d (.int .u64), .d (.int .u64), .d (.int .u64), .d (.int .u64), .d (.int .u64), .d (.int .i64), .d (.sl (.int .u8))], .tip (.st 0)], [2, 5, 68], [.one (.ptr 0 0), .one (.ptr 1 0), .one (.d (.bool))], 4⟩
noncomputable def kyk (o : k3s) (i : HL TB.den kiu.hs) : Prop := ghs TB [] (kiu.fill TB i) fun s => WP TB k4g 71 0 (cB (cA (cB (cB (cB (cB (cB (cB (cB (cB (cB (cB (cB (cB (cB k7i))))))))))))))) .no s (k1j0 o)
structure kcg (o : k3s) (i : HL TB.den kiu.hs) : Prop where
  h : kyk o i
noncomputable def k1lt (o : k3s) : An TB := .nd [] (.jn kiu (kcg o) [] .no [] .no) [] .no
noncomputable def k1jw (o : k3s) : An TB := .nd [] .no [] (.nd [] .no [] (.nd [] .no [] (k1lt o)))
noncomputable def k127 (o : k3s) : An TB := .nd [] .no [] (.nd [] .no [] (.nd [] .no [] (k1jw o)))
noncomputable def k1m6 (o : k3s) : Exit → TSt TB.den → Prop := thenT TB (fun s => ghs TB [] s fun s => WP TB k4g 71 0 (cB (cB (cB (cB (cB (cB k7i)))))) (.nd [] .no [] (k127 o)) s (retTQ TB k4g k29 k9u o)) (retTQ TB k4g k29 k9u o)
def kak : Tm := ⟨[0, 1, 2, 3], [.cells [.d (.int .u64), .full (.int .u64), .full (.st 0), .d (.int .u64), .d (.int .u64), .d (.int .u64), .d (.int .u64), .d (.int .u64), .d (.int .i64), .full (.int .u8)], .cells [.d (.sl (.int .u8)), .d (.int .i64), .d (.bool)], .cells [.d (.int .u64), .d (.sl (.int .u64)), .own 3, .d (.int .u64), .d (.int .u64), .d (.int .u64), .d (.int .u64), .d (.int .u64), .d (.int .i64), .full (.int .u8)], .tip (.st 0)], [2, 4, 5, 16, 17], [.one (.ptr 0 0), .one (.ptr 1 0), .one (.ptr 2 0), .one (.d (.int .i64)), .one (.d (.int .i64))], 4⟩
noncomputable def k1lf (o : k3s) (nx1 : HL TB.den kak.hs → Prop) : Exit → TSt TB.den → Prop := thenT TB (fun s => kak.mat TB 0 s nx1) (blockT TB 0 (k1m6 o))
noncomputable def kfu (o : k3s) (nx1 : HL TB.den kak.hs → Prop) (i : HL TB.den kak.hs) : Prop := WP TB k4g 71 0 (cA (cA (cB (cA (cB (cB (cB (cB (cB k7i))))))))) .no (kak.fill TB i) (k1lf o nx1)
noncomputable def k1he (o : k3s) : An TB := .lp [.tokc 2 2 (.st 0)] kak (kfu o) fun nx1 => .no
noncomputable def k1fs (o : k3s) : An TB := .nd [] (.nd [] .no [] (k1he o)) [] (.nd [] .no [] (k127 o))
noncomputable def k1ht (o : k3s) : An TB := .nd [] .no [] (.nd [] .no [] (.nd [] .no [] (k1fs o)))
noncomputable def k12c (o : k3s) : An TB := .nd [] .no [] (.nd [] .no [] (k1ht o))
noncomputable def kmh (x : k14l) (o : k3s) : Prop := WPh TB k4g 71 0 k7i (k12c o) (k29.st TB x) (retTQ TB k4g k29 k9u o)
set_option maxRecDepth 100000 in
theorem k1ev (o : k3s) : OblH TB k4g 71 0 k7i (k12c o) (retTQ TB k4g k29 k9u o) :=
  OblH.of_eq (X := (True ∧ (True ∧ (True ∧ (True ∧ (True ∧ ((True ∧ ((∀ nx i, (kfu o) nx i = (kfu o) nx i) ∧ ∀ nx1 : HL TB.den kak.hs → Prop, (True ∧ ((True ∧ True) ∧ ((True ∧ (True ∧ (True ∧ (True ∧ (True ∧ True))))) ∧ True))))) ∧ (True ∧ (True ∧ (True ∧ (True ∧ (True ∧ (True ∧ (True ∧ ((True ∧ (∀ i, (kcg o) i = (kyk o) i) ∧ ((True ∧ True) ∧ True)) ∧ (True ∧ True)))))))))))))))) (by kernel_rfl) ⟨trivial, ⟨trivial, ⟨trivial, ⟨trivial, ⟨trivial, ⟨⟨trivial, ⟨fun _ _ => rfl, fun _ => ⟨trivial, ⟨⟨trivial, trivial⟩, ⟨⟨trivial, ⟨trivial, ⟨trivial, ⟨trivial, ⟨trivial, trivial⟩⟩⟩⟩⟩, trivial⟩⟩⟩⟩⟩, ⟨trivial, ⟨trivial, ⟨trivial, ⟨trivial, ⟨trivial, ⟨trivial, ⟨trivial, ⟨⟨trivial, fun _ => propext ⟨fun h => h.1, fun h => ⟨h⟩⟩, ⟨⟨trivial, trivial⟩, trivial⟩⟩, ⟨trivial, trivial⟩⟩⟩⟩⟩⟩⟩⟩⟩⟩⟩⟩⟩⟩⟩
set_option maxRecDepth 100000 in
theorem k1ew {x : k14l} {o : k3s} (h : kmh x o) : SoundH Try.prog k29.f ((k29.args idf x).map (er TB)) ((k29.obs idf x).map (erO TB)) (er TB (k29.val idf o)) ((k29.ops idf o).map (erO TB)) :=
  Con.soundH (c := k29) (C := k4g) TBok ⟨inf_ok, (all_cons kou (all_cons ku4 (all_cons k1cr (all_cons kil (all_cons krw (all_cons kud (all_cons kth all_nil))))))), all_nil⟩ mix Try.func52 (show Try.f52.body = some k7i by kernel_rfl) (show Try.f52.ntmps = 71 by kernel_rfl) (show Try.f52.results.toList = k9u by kernel_rfl) rfl h (k1ev o)
set_option maxRecDepth 100000 in
theorem k1jf {p0 : List Int} {r0 : TTx} {r1 : Int} (h :
((p0.length ≤ 137438953472) ∧ (RdOk p0 (0 : Int)) ∧ ∀ (r5 : Int) (r6 : Int) (r7 : Bool), (r5 = (rdU p0 (0 : Int) false (18446744069414584320 : Int)).n ∧ r6 = (rdU p0 (0 : Int) false (18446744069414584320 : Int)).pos ∧ r7 = (rdU p0 (0 : Int) false (18446744069414584320 : Int)).fail) → (RdOk p0 r6 ∧ (0 ≤ (4 : Int) ∧ (4 : Int) ≤ 4096)) ∧ ∀ (r11 : List Int) (r12 : Int) (r13 : Bool), (r11 = (rdL p0 r6 r7 (4 : Int) (18446744069414584321 : Int)).l ∧ r12 = (rdL p0 r6 r7 (4 : Int) (18446744069414584321 : Int)).pos ∧ r13 = (rdL p0 r6 r7 (4 : Int) (18446744069414584321 : Int)).fail) → (RdOk p0 r12) ∧ ∀ (r71 : Int) (r72 : Int) (r73 : Bool), (r71 = (rdI p0 r12 r13 (4 : Int)).n ∧ r72 = (rdI p0 r12 r13 (4 : Int)).pos ∧ r73 = (rdI p0 r12 r13 (4 : Int)).fail) → (([] : List TOut) = ([] : List TOut)) ∧ Md.Loop (r71, (0 : Int), (0 : Int), (([] : List Int) : List Int), (([] : List TOut) : List TOut), (0 : Int), (0 : Int), (0 : Int), (0 : Int), (0 : Int), (0 : Int), (([] : List Int) : List Int), p0, r72, r73, r5, r11, (0 : Int), (0 : Int), (0 : Int), (0 : Int), (0 : Int), (0 : Int), (([] : List Int) : List Int), (([] : List TOut) : List TOut), ()) (kfu (r0.Anchor, r0.Marks, r0.Outs, r0.Deposit, r0.Withdraw, r0.Fee, r0.Account, r0.Nonce, r0.Expiry, r0.Proof, r1, ())))) : kmh (p0, ()) (r0.Anchor, r0.Marks, r0.Outs, r0.Deposit, r0.Withdraw, r0.Fee, r0.Account, r0.Nonce, r0.Expiry, r0.Proof, r1, ()) := WPh.of_eq (by kernel_rfl) h
set_option maxRecDepth 100000 in
theorem krg {r0 : TTx} {r1 : Int} {s68 : Bool} {h0_0 : Int} {h0_1 : List Int} {h0_2 : List TOut} {h0_3 : Int} {h0_4 : Int} {h0_5 : Int} {h0_6 : Int} {h0_7 : Int} {h0_8 : Int} {h0_9 : List Int} {h2_0 : Int} {h2_1 : List Int} {h2_3 : Int} {h2_4 : Int} {h2_5 : Int} {h2_6 : Int} {h2_7 : Int} {h2_8 : Int} {h2_9 : List Int} {g3 : List TOut} (h :
((s68 = true →
 0 = r0.Anchor ∧ ([] : List Int) = r0.Marks ∧ ([] : List TOut) = r0.Outs ∧ 0 = r0.Deposit ∧ 0 = r0.Withdraw ∧ 0 = r0.Fee ∧ 0 = r0.Account ∧ 0 = r0.Nonce ∧ 0 = r0.Expiry ∧ ([] : List Int) = r0.Proof ∧ 2 = r1) ∧
(s68 = false →
 h2_0 = r0.Anchor ∧ h2_1 = r0.Marks ∧ g3 = r0.Outs ∧ h2_3 = r0.Deposit ∧ h2_4 = r0.Withdraw ∧ h2_5 = r0.Fee ∧ h2_6 = r0.Account ∧ h2_7 = r0.Nonce ∧ h2_8 = r0.Expiry ∧ h2_9 = r0.Proof ∧ 0 = r1))) : kcg (r0.Anchor, r0.Marks, r0.Outs, r0.Deposit, r0.Withdraw, r0.Fee, r0.Account, r0.Nonce, r0.Expiry, r0.Proof, r1, ()) (s68, h0_0, h0_1, h0_2, h0_3, h0_4, h0_5, h0_6, h0_7, h0_8, h0_9, h2_0, h2_1, h2_3, h2_4, h2_5, h2_6, h2_7, h2_8, h2_9, g3, ()) := ⟨mpr_of (by kernel_rfl) h⟩
def k113 (r0 : TTx) (r1 : Int) (k1 : Int → Int → Bool → List TOut → Prop) (s16 : Int) (h0_0 : Int) (h0_1 : List Int) (h0_2 : List TOut) (h0_3 : Int) (h0_4 : Int) (h0_5 : Int) (h0_6 : Int) (h0_7 : Int) (h0_8 : Int) (h0_9 : List Int) (h1_0 : List Int) (h2_0 : Int) (h2_1 : List Int) (h2_3 : Int) (h2_4 : Int) (h2_5 : Int) (h2_6 : Int) (h2_7 : Int) (h2_8 : Int) (h2_9 : List Int) (s17 : Int) (h1_1 : Int) (h1_2 : Bool) (g3 : List TOut) : Prop :=
(decide (s17 < s16) = true →
(RdOk h1_0 h1_1) ∧ ∀ (r101 : Int) (r102 : Int) (r103 : Bool), (r101 = (rdU h1_0 h1_1 h1_2 (18446744069414584320 : Int)).n ∧ r102 = (rdU h1_0 h1_1 h1_2 (18446744069414584320 : Int)).pos ∧ r103 = (rdU h1_0 h1_1 h1_2 (18446744069414584320 : Int)).fail) → (RdOk h1_0 r102) ∧ ∀ (r107 : Int) (r108 : Int) (r109 : Bool), (r107 = (rdU h1_0 r102 r103 (18446744069414584320 : Int)).n ∧ r108 = (rdU h1_0 r102 r103 (18446744069414584320 : Int)).pos ∧ r109 = (rdU h1_0 r102 r103 (18446744069414584320 : Int)).fail) → (RdOk h1_0 r108) ∧ ∀ (r113 : Int) (r114 : Int) (r115 : Bool), (r113 = (rdU h1_0 r108 r109 (18446744069414584320 : Int)).n ∧ r114 = (rdU h1_0 r108 r109 (18446744069414584320 : Int)).pos ∧ r115 = (rdU h1_0 r108 r109 (18446744069414584320 : Int)).fail) → (RdOk h1_0 r114 ∧ (0 ≤ (3 : Int) ∧ (3 : Int) ≤ 4096)) ∧ ∀ (r119 : List Int) (r120 : Int) (r121 : Bool), (r119 = (rdL h1_0 r114 r115 (3 : Int) (18446744069414584321 : Int)).l ∧ r120 = (rdL h1_0 r114 r115 (3 : Int) (18446744069414584321 : Int)).pos ∧ r121 = (rdL h1_0 r114 r115 (3 : Int) (18446744069414584321 : Int)).fail) → g3.length = g3.length ∧ (g3.length + [TOut.mk r101 r107 r113 r119].length) * 48 ≤ 140737488355328 ∧ g3.length + [TOut.mk r101 r107 r113 r119].length ≤ maxLen ∧ (g3 ++ [TOut.mk r101 r107 r113 r119] = g3 ++ [TOut.mk r101 r107 r113 r119]) ∧ k1 (IntKind.i64.wrap (s17 + 1) : Int) r120 r121 (g3 ++ [TOut.mk r101 r107 r113 r119] : List TOut)) ∧
(decide (s17 < s16) = false →
(RdOk h1_0 h1_1) ∧ ∀ (r125 : Int) (r126 : Int) (r127 : Bool), (r125 = (rdU h1_0 h1_1 h1_2 (4294967295 : Int)).n ∧ r126 = (rdU h1_0 h1_1 h1_2 (4294967295 : Int)).pos ∧ r127 = (rdU h1_0 h1_1 h1_2 (4294967295 : Int)).fail) → (RdOk h1_0 r126) ∧ ∀ (r131 : Int) (r132 : Int) (r133 : Bool), (r131 = (rdU h1_0 r126 r127 (4294967295 : Int)).n ∧ r132 = (rdU h1_0 r126 r127 (4294967295 : Int)).pos ∧ r133 = (rdU h1_0 r126 r127 (4294967295 : Int)).fail) → (RdOk h1_0 r132) ∧ ∀ (r137 : Int) (r138 : Int) (r139 : Bool), (r137 = (rdU h1_0 r132 r133 (4294967295 : Int)).n ∧ r138 = (rdU h1_0 r132 r133 (4294967295 : Int)).pos ∧ r139 = (rdU h1_0 r132 r133 (4294967295 : Int)).fail) → (RdOk h1_0 r138) ∧ ∀ (r143 : Int) (r144 : Int) (r145 : Bool), (r143 = (rdU h1_0 r138 r139 (18446744069414584320 : Int)).n ∧ r144 = (rdU h1_0 r138 r139 (18446744069414584320 : Int)).pos ∧ r145 = (rdU h1_0 r138 r139 (18446744069414584320 : Int)).fail) → (RdOk h1_0 r144) ∧ ∀ (r149 : Int) (r150 : Int) (r151 : Bool), (r149 = (rdU h1_0 r144 r145 (18446744069414584320 : Int)).n ∧ r150 = (rdU h1_0 r144 r145 (18446744069414584320 : Int)).pos ∧ r151 = (rdU h1_0 r144 r145 (18446744069414584320 : Int)).fail) → (RdOk h1_0 r150) ∧ ∀ (r155 : Int) (r156 : Int) (r157 : Bool), (r155 = (rdI h1_0 r150 r151 (1048576 : Int)).n ∧ r156 = (rdI h1_0 r150 r151 (1048576 : Int)).pos ∧ r157 = (rdI h1_0 r150 r151 (1048576 : Int)).fail) → (RdOk h1_0 r156 ∧ (0 ≤ (1048576 : Int) ∧ (1048576 : Int) ≤ 4294967296)) ∧ ∀ (r161 : List Int) (r162 : Int) (r163 : Bool), (r161 = (rdB h1_0 r156 r157 (1048576 : Int)).l ∧ r162 = (rdB h1_0 r156 r157 (1048576 : Int)).pos ∧ r163 = (rdB h1_0 r156 r157 (1048576 : Int)).fail) → let v164 : Bool := (!(!r163 && r162 == (h1_0.length : Int)))
(v164 = true →
(g3 = g3) ∧ kcg (r0.Anchor, r0.Marks, r0.Outs, r0.Deposit, r0.Withdraw, r0.Fee, r0.Account, r0.Nonce, r0.Expiry, r0.Proof, r1, ()) (true, h0_0, h0_1, h0_2, h0_3, h0_4, h0_5, h0_6, h0_7, h0_8, h0_9, h2_0, h2_1, r125, r131, r137, r143, r149, r155, r161, g3, ())) ∧
(v164 = false →
 let r165 : Int := validE (TTx.mk h2_0 h2_1 g3 r125 r131 r137 r143 r149 r155 r161)
(g3 = g3) ∧ kcg (r0.Anchor, r0.Marks, r0.Outs, r0.Deposit, r0.Withdraw, r0.Fee, r0.Account, r0.Nonce, r0.Expiry, r0.Proof, r1, ()) (((r165 != 0) : Bool), h0_0, h0_1, h0_2, h0_3, h0_4, h0_5, h0_6, h0_7, h0_8, h0_9, h2_0, h2_1, r125, r131, r137, r143, r149, r155, r161, g3, ())))
set_option maxRecDepth 100000 in
theorem k1hs {r0 : TTx} {r1 : Int} {s16 : Int} {h0_0 : Int} {h0_1 : List Int} {h0_2 : List TOut} {h0_3 : Int} {h0_4 : Int} {h0_5 : Int} {h0_6 : Int} {h0_7 : Int} {h0_8 : Int} {h0_9 : List Int} {h1_0 : List Int} {h2_0 : Int} {h2_1 : List Int} {h2_3 : Int} {h2_4 : Int} {h2_5 : Int} {h2_6 : Int} {h2_7 : Int} {h2_8 : Int} {h2_9 : List Int} {s17 : Int} {h1_1 : Int} {h1_2 : Bool} {g3 : List TOut} (inv : Int → Int → Bool → List TOut → Prop) (μ : Int → Int → Bool → List TOut → Nat) (h0 : inv s17 h1_1 h1_2 g3) (hs : ∀ (s17 : Int) (h1_1 : Int) (h1_2 : Bool) (g3 : List TOut), inv s17 h1_1 h1_2 g3 → k113 r0 r1 (fun s17q h1_1q h1_2q g3q => inv s17q h1_1q h1_2q g3q ∧ μ s17q h1_1q h1_2q g3q < μ s17 h1_1 h1_2 g3) s16 h0_0 h0_1 h0_2 h0_3 h0_4 h0_5 h0_6 h0_7 h0_8 h0_9 h1_0 h2_0 h2_1 h2_3 h2_4 h2_5 h2_6 h2_7 h2_8 h2_9 s17 h1_1 h1_2 g3) : Md.Loop (s16, s17, h0_0, h0_1, h0_2, h0_3, h0_4, h0_5, h0_6, h0_7, h0_8, h0_9, h1_0, h1_1, h1_2, h2_0, h2_1, h2_3, h2_4, h2_5, h2_6, h2_7, h2_8, h2_9, g3, ()) (kfu (r0.Anchor, r0.Marks, r0.Outs, r0.Deposit, r0.Withdraw, r0.Fee, r0.Account, r0.Nonce, r0.Expiry, r0.Proof, r1, ())) :=
  ⟨⟨fun s : Int × Int × Int × (List Int) × (List TOut) × Int × Int × Int × Int × Int × Int × (List Int) × (List Int) × Int × Bool × Int × (List Int) × Int × Int × Int × Int × Int × Int × (List Int) × (List TOut) × Unit => (s.1 = s16 ∧ s.2.2.1 = h0_0 ∧ s.2.2.2.1 = h0_1 ∧ s.2.2.2.2.1 = h0_2 ∧ s.2.2.2.2.2.1 = h0_3 ∧ s.2.2.2.2.2.2.1 = h0_4 ∧ s.2.2.2.2.2.2.2.1 = h0_5 ∧ s.2.2.2.2.2.2.2.2.1 = h0_6 ∧ s.2.2.2.2.2.2.2.2.2.1 = h0_7 ∧ s.2.2.2.2.2.2.2.2.2.2.1 = h0_8 ∧ s.2.2.2.2.2.2.2.2.2.2.2.1 = h0_9 ∧ s.2.2.2.2.2.2.2.2.2.2.2.2.1 = h1_0 ∧ s.2.2.2.2.2.2.2.2.2.2.2.2.2.2.2.1 = h2_0 ∧ s.2.2.2.2.2.2.2.2.2.2.2.2.2.2.2.2.1 = h2_1 ∧ s.2.2.2.2.2.2.2.2.2.2.2.2.2.2.2.2.2.1 = h2_3 ∧ s.2.2.2.2.2.2.2.2.2.2.2.2.2.2.2.2.2.2.1 = h2_4 ∧ s.2.2.2.2.2.2.2.2.2.2.2.2.2.2.2.2.2.2.2.1 = h2_5 ∧ s.2.2.2.2.2.2.2.2.2.2.2.2.2.2.2.2.2.2.2.2.1 = h2_6 ∧ s.2.2.2.2.2.2.2.2.2.2.2.2.2.2.2.2.2.2.2.2.2.1 = h2_7 ∧ s.2.2.2.2.2.2.2.2.2.2.2.2.2.2.2.2.2.2.2.2.2.2.1 = h2_8 ∧ s.2.2.2.2.2.2.2.2.2.2.2.2.2.2.2.2.2.2.2.2.2.2.2.1 = h2_9) ∧ inv s.2.1 s.2.2.2.2.2.2.2.2.2.2.2.2.2.1 s.2.2.2.2.2.2.2.2.2.2.2.2.2.2.1 s.2.2.2.2.2.2.2.2.2.2.2.2.2.2.2.2.2.2.2.2.2.2.2.2.1, fun s : Int × Int × Int × (List Int) × (List TOut) × Int × Int × Int × Int × Int × Int × (List Int) × (List Int) × Int × Bool × Int × (List Int) × Int × Int × Int × Int × Int × Int × (List Int) × (List TOut) × Unit => μ s.2.1 s.2.2.2.2.2.2.2.2.2.2.2.2.2.1 s.2.2.2.2.2.2.2.2.2.2.2.2.2.2.1 s.2.2.2.2.2.2.2.2.2.2.2.2.2.2.2.2.2.2.2.2.2.2.2.2.1, ⟨⟨rfl, rfl, rfl, rfl, rfl, rfl, rfl, rfl, rfl, rfl, rfl, rfl, rfl, rfl, rfl, rfl, rfl, rfl, rfl, rfl, rfl⟩, h0⟩, fun (s16p, s17p, h0_0p, h0_1p, h0_2p, h0_3p, h0_4p, h0_5p, h0_6p, h0_7p, h0_8p, h0_9p, h1_0p, h1_1p, h1_2p, h2_0p, h2_1p, h2_3p, h2_4p, h2_5p, h2_6p, h2_7p, h2_8p, h2_9p, g3p, ()) ⟨⟨eq0, eq1, eq2, eq3, eq4, eq5, eq6, eq7, eq8, eq9, eq10, eq11, eq12, eq13, eq14, eq15, eq16, eq17, eq18, eq19, eq20⟩, hi⟩ => by
    have eq0 : s16p = s16 := eq0; subst s16p; have eq1 : h0_0p = h0_0 := eq1; subst h0_0p; have eq2 : h0_1p = h0_1 := eq2; subst h0_1p; have eq3 : h0_2p = h0_2 := eq3; subst h0_2p; have eq4 : h0_3p = h0_3 := eq4; subst h0_3p; have eq5 : h0_4p = h0_4 := eq5; subst h0_4p; have eq6 : h0_5p = h0_5 := eq6; subst h0_5p; have eq7 : h0_6p = h0_6 := eq7; subst h0_6p; have eq8 : h0_7p = h0_7 := eq8; subst h0_7p; have eq9 : h0_8p = h0_8 := eq9; subst h0_8p; have eq10 : h0_9p = h0_9 := eq10; subst h0_9p; have eq11 : h1_0p = h1_0 := eq11; subst h1_0p; have eq12 : h2_0p = h2_0 := eq12; subst h2_0p; have eq13 : h2_1p = h2_1 := eq13; subst h2_1p; have eq14 : h2_3p = h2_3 := eq14; subst h2_3p; have eq15 : h2_4p = h2_4 := eq15; subst h2_4p; have eq16 : h2_5p = h2_5 := eq16; subst h2_5p; have eq17 : h2_6p = h2_6 := eq17; subst h2_6p; have eq18 : h2_7p = h2_7 := eq18; subst h2_7p; have eq19 : h2_8p = h2_8 := eq19; subst h2_8p; have eq20 : h2_9p = h2_9 := eq20; subst h2_9p; exact mpr_of (by kernel_rfl) ((congrArg (fun k => k113 r0 r1 k s16 h0_0 h0_1 h0_2 h0_3 h0_4 h0_5 h0_6 h0_7 h0_8 h0_9 h1_0 h2_0 h2_1 h2_3 h2_4 h2_5 h2_6 h2_7 h2_8 h2_9 s17p h1_1p h1_2p g3p) (lpk4 (⟨rfl, rfl, rfl, rfl, rfl, rfl, rfl, rfl, rfl, rfl, rfl, rfl, rfl, rfl, rfl, rfl, rfl, rfl, rfl, rfl, rfl⟩ : s16 = s16 ∧ h0_0 = h0_0 ∧ h0_1 = h0_1 ∧ h0_2 = h0_2 ∧ h0_3 = h0_3 ∧ h0_4 = h0_4 ∧ h0_5 = h0_5 ∧ h0_6 = h0_6 ∧ h0_7 = h0_7 ∧ h0_8 = h0_8 ∧ h0_9 = h0_9 ∧ h1_0 = h1_0 ∧ h2_0 = h2_0 ∧ h2_1 = h2_1 ∧ h2_3 = h2_3 ∧ h2_4 = h2_4 ∧ h2_5 = h2_5 ∧ h2_6 = h2_6 ∧ h2_7 = h2_7 ∧ h2_8 = h2_8 ∧ h2_9 = h2_9) inv (fun s17q h1_1q h1_2q g3q => μ s17q h1_1q h1_2q g3q < μ s17p h1_1p h1_2p g3p))).mpr (hs s17p h1_1p h1_2p g3p hi))⟩⟩
theorem bd52 : Callable Try.prog 52 := ⟨by rw [Try.func52]; kernel_rfl, by rw [Try.func52]; show some _ ≠ some _; decide⟩
theorem k1d3 (p0 : List Int) (h : By p0 ∧ p0.length ≤ 137438953472) : kmh (p0, ()) ((((decS p0).1).Anchor : Int), (((decS p0).1).Marks : List Int), (((decS p0).1).Outs : List TOut), (((decS p0).1).Deposit : Int), (((decS p0).1).Withdraw : Int), (((decS p0).1).Fee : Int), (((decS p0).1).Account : Int), (((decS p0).1).Nonce : Int), (((decS p0).1).Expiry : Int), (((decS p0).1).Proof : List Int), ((decS p0).2 : Int), ()) := by
  obtain ⟨hb, hl⟩ := h
  have h0 : RdOk p0 0 := ⟨hb, hl, by omega, by omega⟩
  refine k1jf ⟨hl, h0, ?_⟩
  rintro _ _ _ ⟨rfl, rfl, rfl⟩
  have hA := rdU_ok (m := 18446744069414584320) (f := false) h0
  have sA := rdU_snd (m := 18446744069414584320) (f := false) h0
  have cA := fun n r => rdU_cpl (m := 18446744069414584320) (f := false) (n := n) (r := r) h0 rfl
  have nA := rdU_n (m := 18446744069414584320) (f := false) h0
  refine ⟨⟨hA, by omega⟩, ?_⟩
  rintro _ _ _ ⟨rfl, rfl, rfl⟩
  generalize rdU p0 0 false 18446744069414584320 = A at *
  have hM := rdL_ok (m := 4) (p := 18446744069414584321) (f := A.fail) hA (by omega)
  have sM := rdL_snd (m := 4) (p := 18446744069414584321) (f := A.fail) hA (by omega)
  have cM := fun n r => rdL_cpl (m := 4) (p := 18446744069414584321) (f := A.fail) (l := n) (r := r) hA (by omega)
  refine ⟨hM, ?_⟩
  rintro _ _ _ ⟨rfl, rfl, rfl⟩
  generalize rdL p0 A.pos A.fail 4 18446744069414584321 = M at *
  have hC := rdI_ok (m := 4) (f := M.fail) hM
  have sC := rdI_snd (m := 4) (f := M.fail) hM
  have cC := fun n r => rdI_cpl (m := 4) (f := M.fail) (n := n) (r := r) hM
  have nC := rdI_n (m := 4) (f := M.fail) hM (by omega)
  generalize rdI p0 M.pos M.fail 4 = C at *
  refine ⟨rfl, ?_⟩
  refine k1hs (r0 := (decS p0).1) (fun i pos f g => 0 ≤ i ∧ i ≤ C.n ∧ RdOk p0 pos ∧ (g.length : Int) = i ∧
    (f = false → p0 = dig 8 A.n ++ (encL M.l ++ (dig 4 C.n ++ (g.flatMap encO ++ p0.drop pos.toNat))) ∧ Us M.l ∧ ∀ x ∈ g, OR x) ∧
    (∀ t, Enc t p0 → f = false ∧ A.n = t.Anchor ∧ M.l = t.Marks ∧ C.n = t.Outs.length ∧ g = t.Outs.take i.toNat ∧ p0.drop pos.toNat = (t.Outs.drop i.toNat).flatMap encO ++ encTail t)) (fun i _ _ _ => (C.n - i).toNat) ⟨by omega, nC.1, hC, rfl, ?_, ?_⟩ ?_
  · intro hf
    obtain ⟨k1, k2, k3⟩ := sC hf
    obtain ⟨j1, j2, j3, j4, j5⟩ := sM k1
    obtain ⟨i1, i2, i3⟩ := sA j1
    refine ⟨?_, j5, by intro x hx; cases hx⟩
    show p0 = dig 8 A.n ++ (encL M.l ++ (dig 4 C.n ++ ([] ++ p0.drop C.pos.toNat)))
    rw [List.nil_append, ← k2, ← j2]
    exact i2
  · intro t ht
    have hu := ht.us
    have he := ht.e
    rw [kh2] at he
    obtain ⟨i1, i2, i3⟩ := cA t.Anchor _ he.symm ht.r.a hu.1
    obtain ⟨j1, j2, j3⟩ := cM t.Marks _ i1 i3 (by have := ht.v.ml; omega) ht.v.m ht.r.m
    have hol := ht.v.ol
    obtain ⟨k1, k2, k3⟩ := cC (len4 t.Outs.length) _ j1 j3 (len4_bd _).1 (len4_bd _).2 (by rw [len4_in (by omega)]; omega)
    rw [len4_in (by omega)] at k2
    exact ⟨k1, i2, j2, k2, by simp, by simpa using k3⟩
  rintro i pos f g ⟨g0, g1, hp, g2, gs, gc⟩
  refine ⟨fun hh => ?_, fun hh => ?_⟩
  · have hh := of_decide_eq_true hh
    refine ⟨hp, ?_⟩
    rintro _ _ _ ⟨rfl, rfl, rfl⟩
    have h1 := rdU_ok (m := 18446744069414584320) (f := f) hp
    have s1 := rdU_snd (m := 18446744069414584320) (f := f) hp
    have c1 := fun n r => rdU_cpl (m := 18446744069414584320) (f := f) (n := n) (r := r) hp
    have n1 := rdU_n (m := 18446744069414584320) (f := f) hp
    refine ⟨h1, ?_⟩
    rintro _ _ _ ⟨rfl, rfl, rfl⟩
    generalize rdU p0 pos f 18446744069414584320 = X1 at *
    have h2 := rdU_ok (m := 18446744069414584320) (f := X1.fail) h1
    have s2 := rdU_snd (m := 18446744069414584320) (f := X1.fail) h1
    have c2 := fun n r => rdU_cpl (m := 18446744069414584320) (f := X1.fail) (n := n) (r := r) h1
    have n2 := rdU_n (m := 18446744069414584320) (f := X1.fail) h1
    refine ⟨h2, ?_⟩
    rintro _ _ _ ⟨rfl, rfl, rfl⟩
    generalize rdU p0 X1.pos X1.fail 18446744069414584320 = X2 at *
    have h3 := rdU_ok (m := 18446744069414584320) (f := X2.fail) h2
    have s3 := rdU_snd (m := 18446744069414584320) (f := X2.fail) h2
    have c3 := fun n r => rdU_cpl (m := 18446744069414584320) (f := X2.fail) (n := n) (r := r) h2
    have n3 := rdU_n (m := 18446744069414584320) (f := X2.fail) h2
    refine ⟨⟨h3, by omega⟩, ?_⟩
    rintro _ _ _ ⟨rfl, rfl, rfl⟩
    generalize rdU p0 X2.pos X2.fail 18446744069414584320 = X3 at *
    have h4 := rdL_ok (m := 3) (p := 18446744069414584321) (f := X3.fail) h3 (by omega)
    have s4 := rdL_snd (m := 3) (p := 18446744069414584321) (f := X3.fail) h3 (by omega)
    have c4 := fun n r => rdL_cpl (m := 3) (p := 18446744069414584321) (f := X3.fail) (l := n) (r := r) h3 (by omega)
    generalize rdL p0 X3.pos X3.fail 3 18446744069414584321 = X4 at *
    rw [inc i C.n g0 hh (by omega)]
    refine ⟨rfl, by simp; omega, by simp; unfold maxLen; omega, rfl, ⟨by omega, by omega, h4, by simp; omega, ?_, ?_⟩, by omega⟩
    · intro hf
      obtain ⟨q1, q2, q3, q4, q5⟩ := s4 hf
      obtain ⟨p1, p2, p3⟩ := s3 q1
      obtain ⟨o1, o2, o3⟩ := s2 p1
      obtain ⟨m1, m2, m3⟩ := s1 o1
      obtain ⟨w1, w2, w3⟩ := gs m1
      refine ⟨?_, w2, ?_⟩
      · rw [List.flatMap_append]
        simp only [List.flatMap_cons, List.flatMap_nil, List.append_nil, List.append_assoc]
        rw [kgx, ← q2, ← p2, ← o2, ← m2]
        exact w1
      · intro x hx
        rcases List.mem_append.1 hx with hx | hx
        · exact w3 x hx
        · rw [List.mem_singleton.1 hx]
          exact ⟨n1, n2, n3, q5⟩
    · intro t ht
      obtain ⟨t1, t2, t3, t4, t5, t6⟩ := gc t ht
      have hit : i < (t.Outs.length : Int) := by omega
      have hxm := ix_mem t.Outs i g0 hit
      have hxo := ht.r.o _ hxm
      have hxv := ht.v.o _ hxm
      have hxu := hxv.us
      rw [drop_ix t.Outs i g0 hit, List.flatMap_cons, List.append_assoc, kgx] at t6
      obtain ⟨m1, m2, m3⟩ := c1 _ _ t1 t6 hxo.c hxu.1
      obtain ⟨o1, o2, o3⟩ := c2 _ _ m1 m3 hxo.p0 hxu.2.1
      obtain ⟨p1, p2, p3⟩ := c3 _ _ o1 o3 hxo.p1 hxu.2.2
      obtain ⟨q1, q2, q3⟩ := c4 _ _ p1 p3 (by rw [hxv.l]; omega) hxv.ci hxo.ci
      refine ⟨q1, t2, t3, t4, ?_, q3⟩
      rw [ka t.Outs i g0 hit, t5, m2, o2, p2, q2]
  · have hh := of_decide_eq_false hh
    have hiC : i = C.n := by omega
    subst hiC
    have h1 := rdU_ok (m := 4294967295) (f := f) hp
    have s1 := rdU_snd (m := 4294967295) (f := f) hp
    have c1 := fun n r => rdU_cpl (m := 4294967295) (f := f) (n := n) (r := r) hp
    have n1 := rdU_n (m := 4294967295) (f := f) hp
    refine ⟨hp, ?_⟩
    rintro _ _ _ ⟨rfl, rfl, rfl⟩
    refine ⟨h1, ?_⟩
    rintro _ _ _ ⟨rfl, rfl, rfl⟩
    generalize rdU p0 pos f 4294967295 = X1 at *
    have h2 := rdU_ok (m := 4294967295) (f := X1.fail) h1
    have s2 := rdU_snd (m := 4294967295) (f := X1.fail) h1
    have c2 := fun n r => rdU_cpl (m := 4294967295) (f := X1.fail) (n := n) (r := r) h1
    have n2 := rdU_n (m := 4294967295) (f := X1.fail) h1
    refine ⟨h2, ?_⟩
    rintro _ _ _ ⟨rfl, rfl, rfl⟩
    generalize rdU p0 X1.pos X1.fail 4294967295 = X2 at *
    have h3 := rdU_ok (m := 4294967295) (f := X2.fail) h2
    have s3 := rdU_snd (m := 4294967295) (f := X2.fail) h2
    have c3 := fun n r => rdU_cpl (m := 4294967295) (f := X2.fail) (n := n) (r := r) h2
    have n3 := rdU_n (m := 4294967295) (f := X2.fail) h2
    refine ⟨h3, ?_⟩
    rintro _ _ _ ⟨rfl, rfl, rfl⟩
    generalize rdU p0 X2.pos X2.fail 4294967295 = X3 at *
    have h4 := rdU_ok (m := 18446744069414584320) (f := X3.fail) h3
    have s4 := rdU_snd (m := 18446744069414584320) (f := X3.fail) h3
    have c4 := fun n r => rdU_cpl (m := 18446744069414584320) (f := X3.fail) (n := n) (r := r) h3
    have n4 := rdU_n (m := 18446744069414584320) (f := X3.fail) h3
    refine ⟨h4, ?_⟩
    rintro _ _ _ ⟨rfl, rfl, rfl⟩
    generalize rdU p0 X3.pos X3.fail 18446744069414584320 = X4 at *
    have h5 := rdU_ok (m := 18446744069414584320) (f := X4.fail) h4
    have s5 := rdU_snd (m := 18446744069414584320) (f := X4.fail) h4
    have c5 := fun n r => rdU_cpl (m := 18446744069414584320) (f := X4.fail) (n := n) (r := r) h4
    have n5 := rdU_n (m := 18446744069414584320) (f := X4.fail) h4
    refine ⟨h5, ?_⟩
    rintro _ _ _ ⟨rfl, rfl, rfl⟩
    generalize rdU p0 X4.pos X4.fail 18446744069414584320 = X5 at *
    have h6 := rdI_ok (m := 1048576) (f := X5.fail) h5
    have s6 := rdI_snd (m := 1048576) (f := X5.fail) h5
    have c6 := fun n r => rdI_cpl (m := 1048576) (f := X5.fail) (n := n) (r := r) h5
    have n6 := rdI_n (m := 1048576) (f := X5.fail) h5 (by omega)
    refine ⟨⟨h6, by omega⟩, ?_⟩
    rintro _ _ _ ⟨rfl, rfl, rfl⟩
    generalize rdI p0 X5.pos X5.fail 1048576 = X6 at *
    have h7 := rdB_ok (m := 1048576) (f := X6.fail) h6 (by omega)
    have s7 := rdB_snd (m := 1048576) (f := X6.fail) h6 (by omega)
    have c7 := fun n r => rdB_cpl (m := 1048576) (f := X6.fail) (l := n) (r := r) h6 (by omega)
    generalize rdB p0 X6.pos X6.fail 1048576 = X7 at *
    have cpl : ∀ t, Enc t p0 → X7.fail = false ∧ X7.pos = p0.length ∧ (⟨A.n, M.l, g, X1.n, X2.n, X3.n, X4.n, X5.n, X6.n, X7.l⟩ : TTx) = t := by
      intro t ht
      have hu := ht.us
      obtain ⟨t1, t2, t3, t4, t5, t6⟩ := gc t ht
      rw [show t.Outs.drop C.n.toNat = [] from List.drop_eq_nil_of_le (by omega), List.flatMap_nil, List.nil_append] at t6
      rw [List.take_of_length_le (by omega)] at t5
      unfold encTail at t6
      obtain ⟨a1, a2, a3⟩ := c1 _ _ t1 t6 ht.r.d hu.2.1
      obtain ⟨b1, b2, b3⟩ := c2 _ _ a1 a3 ht.r.w hu.2.2.1
      obtain ⟨c1, c2, c3⟩ := c3 _ _ b1 b3 ht.r.f hu.2.2.2.1
      obtain ⟨d1, d2, d3⟩ := c4 _ _ c1 c3 ht.r.ac hu.2.2.2.2.1
      obtain ⟨e1, e2, e3⟩ := c5 _ _ d1 d3 ht.r.n hu.2.2.2.2.2.1
      obtain ⟨f1, f2, f3⟩ := c6 _ _ e1 e3 (len4_bd _).1 (len4_bd _).2 (by rw [len4_in (by omega)]; omega)
      rw [← List.append_nil (encB t.Proof)] at f3
      obtain ⟨k1, k2, k3⟩ := c7 _ _ f1 f3 (by have := ht.v.pl; omega)
      have k4 := congrArg List.length k3
      rw [List.length_drop, List.length_nil] at k4
      rw [len4_in (by omega)] at f2
      refine ⟨k1, by have := h7.pos0; have := h7.pos1; omega, ?_⟩
      rw [t2, t3, t5, a2, b2, c2, d2, e2, f2, k2]
    have snd : X7.fail = false → X7.pos = p0.length → validE ⟨A.n, M.l, g, X1.n, X2.n, X3.n, X4.n, X5.n, X6.n, X7.l⟩ = 0 → Enc ⟨A.n, M.l, g, X1.n, X2.n, X3.n, X4.n, X5.n, X6.n, X7.l⟩ p0 := by
      intro hf hpos hv
      obtain ⟨g1, g2, g3, g4⟩ := s7 hf
      obtain ⟨f1, f2, f3⟩ := s6 g1
      obtain ⟨e1, e2, e3⟩ := s5 f1
      obtain ⟨d1, d2, d3⟩ := s4 e1
      obtain ⟨c1, c2, c3⟩ := s3 d1
      obtain ⟨b1, b2, b3⟩ := s2 c1
      obtain ⟨a1, a2, a3⟩ := s1 b1
      obtain ⟨w1, w2, w3⟩ := gs a1
      rw [hpos, Int.toNat_natCast, List.drop_length, List.append_nil] at g2
      refine ⟨⟨nA, w2, w3, n1, n2, n3, n4, n5, by show _ ≤ X6.n ∧ X6.n ≤ _; omega, g4⟩, (k3t _).1 hv, ?_⟩
      rw [kh2]
      unfold encTail
      show dig 8 A.n ++ (encL M.l ++ (dig 4 (len4 g.length) ++ (g.flatMap encO ++ (dig 8 X1.n ++ (dig 8 X2.n ++ (dig 8 X3.n ++ (dig 8 X4.n ++ (dig 8 X5.n ++ (dig 4 (len4 X6.n) ++ encB X7.l))))))))) = p0
      rw [len4_in (n := X6.n) (by omega), ← g2, ← f2, ← e2, ← d2, ← c2, ← b2, ← a2, len4_in (by omega), show ((g.length : Nat) : Int) = C.n by omega]
      exact w1.symm
    have jn : (∀ t, ¬ Enc t p0) → kcg ((decS p0).1.Anchor, (decS p0).1.Marks, (decS p0).1.Outs, (decS p0).1.Deposit, (decS p0).1.Withdraw, (decS p0).1.Fee, (decS p0).1.Account, (decS p0).1.Nonce, (decS p0).1.Expiry, (decS p0).1.Proof, (decS p0).2, ()) (true, (0 : Int), ([] : List Int), ([] : List TOut), (0 : Int), (0 : Int), (0 : Int), (0 : Int), (0 : Int), (0 : Int), ([] : List Int), A.n, M.l, X1.n, X2.n, X3.n, X4.n, X5.n, X6.n, X7.l, g, ()) := by
      intro hn
      refine krg (r0 := (decS p0).1) ⟨fun _ => ?_, fun h => by simp at h⟩
      rw [decS_no hn]
      exact ⟨rfl, rfl, rfl, rfl, rfl, rfl, rfl, rfl, rfl, rfl, rfl⟩
    refine ⟨fun e => ⟨rfl, jn fun t ht => ?_⟩, fun e => ⟨rfl, ?_⟩⟩
    · obtain ⟨q1, q2, q3⟩ := cpl t ht
      simp [q1, q2] at e
    · have e : X7.fail = false ∧ X7.pos = p0.length := by simpa using e
      by_cases hv : validE ⟨A.n, M.l, g, X1.n, X2.n, X3.n, X4.n, X5.n, X6.n, X7.l⟩ = 0
      · have hE := snd e.1 e.2 hv
        rw [hv]
        refine krg (r0 := (decS p0).1) ⟨fun h => by simp at h, fun _ => ?_⟩
        rw [k16u hE fun u hu => (cpl u hu).2.2]
        exact ⟨rfl, rfl, rfl, rfl, rfl, rfl, rfl, rfl, rfl, rfl, rfl⟩
      · rw [show (validE ⟨A.n, M.l, g, X1.n, X2.n, X3.n, X4.n, X5.n, X6.n, X7.l⟩ != 0) = true by simpa using hv]
        refine jn fun t ht => hv ?_
        rw [(cpl t ht).2.2]
        exact (k3t _).2 ht.v
noncomputable def ky7 : Con TB.den := { k29 with R := fun x K => (fun (p0 : List Int) => ((By p0 ∧ p0.length ≤ 137438953472) ∧ ∀ (v0 : TTx) (v1 : Int), (v0 = ((decS p0).1) ∧ v1 = ((decS p0).2)) → K (v0.Anchor, v0.Marks, v0.Outs, v0.Deposit, v0.Withdraw, v0.Fee, v0.Account, v0.Nonce, v0.Expiry, v0.Proof, v1, ()) : Prop)) x.1 }
theorem k1kx : ky7.Ok Try.prog TB := ⟨bd52, fun x K hx => ⟨((fun (p0 : List Int) => (((decS p0).1).Anchor : Int)) x.1, (fun (p0 : List Int) => (((decS p0).1).Marks : List Int)) x.1, (fun (p0 : List Int) => (((decS p0).1).Outs : List TOut)) x.1, (fun (p0 : List Int) => (((decS p0).1).Deposit : Int)) x.1, (fun (p0 : List Int) => (((decS p0).1).Withdraw : Int)) x.1, (fun (p0 : List Int) => (((decS p0).1).Fee : Int)) x.1, (fun (p0 : List Int) => (((decS p0).1).Account : Int)) x.1, (fun (p0 : List Int) => (((decS p0).1).Nonce : Int)) x.1, (fun (p0 : List Int) => (((decS p0).1).Expiry : Int)) x.1, (fun (p0 : List Int) => (((decS p0).1).Proof : List Int)) x.1, (fun (p0 : List Int) => ((decS p0).2 : Int)) x.1, ()), hx.2 ((fun (p0 : List Int) => (((decS p0).1))) x.1) ((fun (p0 : List Int) => (((decS p0).2))) x.1) ⟨rfl, rfl⟩, k1ew (k1d3 x.1 hx.1)⟩⟩
end Go.Proofs.Ytnmakgfmimagmaa
namespace Go.Proofs.Ytnmakgfmimagmaa
open Go Go.Bv Go.Cv Go.Md Go.RowKit
def k18 : Con TB.den := Con.mk0 26 [.one (.d (.sl (.int .u8)))] [] (.tup [.agg [.d (.int .u64), .d (.int .i64), .d (.int .u64), .d (.int .u64), .d (.int .u64), .d (.sl (.st 1))], .one (.d (.int .i64))]) []
abbrev kue := HL TB.den (hsT k18.ins (hsOs k18.pre))
abbrev k2w := HL TB.den (hsV k18.res (hsOs k18.post))
noncomputable def k2u : Cx TB := ⟨inf, [kfn, kk6, kd5, kjp, kok, ky7, kkc, kf3], [], 4⟩
noncomputable def k5l : Code := Try.f26.body.getD .skip
noncomputable def k70 : List ResultVar := Try.f26.results.toList
noncomputable def k18s (o : k2w) : Exit → TSt TB.den → Prop := thenT TB (fun s => ghs TB [] s fun s => WP TB k2u 58 0 (cB (cB (cB (cB (cB (cB k5l)))))) .no s (retTQ TB k2u k18 k70 o)) (retTQ TB k2u k18 k70 o)
def kdi : Tm := ⟨[0, 2, 3], [.cells [.d (.int .u64), .d (.int .i64), .d (.int .u64), .d (.int .u64), .d (.int .u64), .full (.st 1)], .cells [.d (.int .u64), .d (.int .i64), .d (.int .u64), .d (.int .u64), .d (.int .u64), .own 2], .tip (.st 1)], [2, 5, 55], [.one (.ptr 0 0), .one (.ptr 1 0), .one (.d (.bool))], 4⟩
noncomputable def kpn (o : k2w) (i : HL TB.den kdi.hs) : Prop := ghs TB [] (kdi.fill TB i) fun s => WP TB k2u 58 0 (cB (cA (cB (cB (cB (cB (cB k5l))))))) .no s (k18s o)
structure k8h (o : k2w) (i : HL TB.den kdi.hs) : Prop where
  h : kpn o i
noncomputable def ksd (o : k2w) : An TB := .nd [] (.jn kdi (k8h o) [] .no [] .no) [] .no
noncomputable def k1am (o : k2w) : Exit → TSt TB.den → Prop := thenT TB (fun s => ghs TB [] s fun s => WP TB k2u 58 0 (cB (cB (cB (cB (cB k5l))))) (ksd o) s (retTQ TB k2u k18 k70 o)) (retTQ TB k2u k18 k70 o)
def k6s : Tm := ⟨[0, 1, 2, 3], [.cells [.d (.int .u64), .d (.int .i64), .d (.int .u64), .d (.int .u64), .d (.int .u64), .full (.st 1)], .cells [.d (.sl (.int .u8)), .d (.int .i64), .d (.bool)], .cells [.d (.int .u64), .d (.int .i64), .d (.int .u64), .d (.int .u64), .d (.int .u64), .own 3], .tip (.st 1)], [2, 4, 5, 25, 26], [.one (.ptr 0 0), .one (.ptr 1 0), .one (.ptr 2 0), .one (.d (.int .i64)), .one (.d (.int .i64))], 4⟩
noncomputable def k1ac (o : k2w) (nx1 : HL TB.den k6s.hs → Prop) : Exit → TSt TB.den → Prop := thenT TB (fun s => k6s.mat TB 0 s nx1) (blockT TB 0 (k1am o))
noncomputable def kb8 (o : k2w) (nx1 : HL TB.den k6s.hs → Prop) (i : HL TB.den k6s.hs) : Prop := WP TB k2u 58 0 (cA (cA (cB (cA (cB (cB (cB (cB k5l)))))))) .no (k6s.fill TB i) (k1ac o nx1)
noncomputable def k17e (o : k2w) : An TB := .lp [.tokc 2 5 (.st 1)] k6s (kb8 o) fun nx1 => .no
noncomputable def k15k (o : k2w) : An TB := .nd [] (.nd [] .no [] (k17e o)) [] (ksd o)
noncomputable def k157 (o : k2w) : An TB := .nd [] .no [] (.nd [] .no [] (.nd [] .no [] (k15k o)))
noncomputable def ks3 (o : k2w) : An TB := .nd [] .no [] (k157 o)
noncomputable def khq (x : kue) (o : k2w) : Prop := WPh TB k2u 58 0 k5l (ks3 o) (k18.st TB x) (retTQ TB k2u k18 k70 o)
set_option maxRecDepth 100000 in
theorem k16v (o : k2w) : OblH TB k2u 58 0 k5l (ks3 o) (retTQ TB k2u k18 k70 o) :=
  OblH.of_eq (X := (True ∧ (True ∧ (True ∧ (True ∧ ((True ∧ ((∀ nx i, (kb8 o) nx i = (kb8 o) nx i) ∧ ∀ nx1 : HL TB.den k6s.hs → Prop, (True ∧ ((True ∧ True) ∧ ((True ∧ ((True ∧ ((True ∧ True) ∧ True)) ∧ (True ∧ ((True ∧ ((True ∧ True) ∧ True)) ∧ True)))) ∧ True))))) ∧ ((True ∧ (∀ i, (k8h o) i = (kpn o) i) ∧ ((True ∧ True) ∧ True)) ∧ (True ∧ True)))))))) (by kernel_rfl) ⟨trivial, ⟨trivial, ⟨trivial, ⟨trivial, ⟨⟨trivial, ⟨fun _ _ => rfl, fun _ => ⟨trivial, ⟨⟨trivial, trivial⟩, ⟨⟨trivial, ⟨⟨trivial, ⟨⟨trivial, trivial⟩, trivial⟩⟩, ⟨trivial, ⟨⟨trivial, ⟨⟨trivial, trivial⟩, trivial⟩⟩, trivial⟩⟩⟩⟩, trivial⟩⟩⟩⟩⟩, ⟨⟨trivial, fun _ => propext ⟨fun h => h.1, fun h => ⟨h⟩⟩, ⟨⟨trivial, trivial⟩, trivial⟩⟩, ⟨trivial, trivial⟩⟩⟩⟩⟩⟩⟩
set_option maxRecDepth 100000 in
theorem k15o {x : kue} {o : k2w} (h : khq x o) : SoundH Try.prog k18.f ((k18.args idf x).map (er TB)) ((k18.obs idf x).map (erO TB)) (er TB (k18.val idf o)) ((k18.ops idf o).map (erO TB)) :=
  Con.soundH (c := k18) (C := k2u) TBok ⟨inf_ok, (all_cons kou (all_cons ku4 (all_cons kil (all_cons krw (all_cons k177 (all_cons k1kx (all_cons kud (all_cons klv all_nil)))))))), all_nil⟩ mix Try.func26 (show Try.f26.body = some k5l by kernel_rfl) (show Try.f26.ntmps = 58 by kernel_rfl) (show Try.f26.results.toList = k70 by kernel_rfl) rfl h (k16v o)
set_option maxRecDepth 100000 in
theorem k17z {p0 : List Int} {r0 : TBlock} {r1 : Int} (h :
((p0.length ≤ 137438953472) ∧ (RdOk p0 (0 : Int)) ∧ ∀ (r17 : Int) (r18 : Int) (r19 : Bool), (r17 = (rdU p0 (0 : Int) false (18446744069414584320 : Int)).n ∧ r18 = (rdU p0 (0 : Int) false (18446744069414584320 : Int)).pos ∧ r19 = (rdU p0 (0 : Int) false (18446744069414584320 : Int)).fail) → (RdOk p0 r18) ∧ ∀ (r20 : Int) (r21 : Int) (r22 : Bool), (r20 = (rdI p0 r18 r19 (1048576 : Int)).n ∧ r21 = (rdI p0 r18 r19 (1048576 : Int)).pos ∧ r22 = (rdI p0 r18 r19 (1048576 : Int)).fail) → (RdOk p0 r21) ∧ ∀ (r23 : Int) (r24 : Int) (r25 : Bool), (r23 = (rdU p0 r21 r22 (18446744069414584320 : Int)).n ∧ r24 = (rdU p0 r21 r22 (18446744069414584320 : Int)).pos ∧ r25 = (rdU p0 r21 r22 (18446744069414584320 : Int)).fail) → (RdOk p0 r24) ∧ ∀ (r26 : Int) (r27 : Int) (r28 : Bool), (r26 = (rdU p0 r24 r25 (65536 : Int)).n ∧ r27 = (rdU p0 r24 r25 (65536 : Int)).pos ∧ r28 = (rdU p0 r24 r25 (65536 : Int)).fail) → (RdOk p0 r27) ∧ ∀ (r29 : Int) (r30 : Int) (r31 : Bool), (r29 = (rdU p0 r27 r28 (18446744073709551615 : Int)).n ∧ r30 = (rdU p0 r27 r28 (18446744073709551615 : Int)).pos ∧ r31 = (rdU p0 r27 r28 (18446744073709551615 : Int)).fail) → (RdOk p0 r30) ∧ ∀ (r35 : Int) (r36 : Int) (r37 : Bool), (r35 = (rdI p0 r30 r31 (64 : Int)).n ∧ r36 = (rdI p0 r30 r31 (64 : Int)).pos ∧ r37 = (rdI p0 r30 r31 (64 : Int)).fail) → (([] : List TTx) = ([] : List TTx)) ∧ Md.Loop (r35, (0 : Int), (0 : Int), (0 : Int), (0 : Int), (0 : Int), (0 : Int), (([] : List TTx) : List TTx), p0, r36, r37, r17, r20, r23, r26, r29, (([] : List TTx) : List TTx), ()) (kb8 (r0.Parent, r0.Height, r0.Miner, r0.Work, r0.Nonce, r0.Txs, r1, ())))) : khq (p0, ()) (r0.Parent, r0.Height, r0.Miner, r0.Work, r0.Nonce, r0.Txs, r1, ()) := WPh.of_eq (by kernel_rfl) h
set_option maxRecDepth 100000 in
theorem knt {r0 : TBlock} {r1 : Int} {s55 : Bool} {h0_0 : Int} {h0_1 : Int} {h0_2 : Int} {h0_3 : Int} {h0_4 : Int} {h0_5 : List TTx} {h2_0 : Int} {h2_1 : Int} {h2_2 : Int} {h2_3 : Int} {h2_4 : Int} {g3 : List TTx} (h :
((s55 = true →
 0 = r0.Parent ∧ 0 = r0.Height ∧ 0 = r0.Miner ∧ 0 = r0.Work ∧ 0 = r0.Nonce ∧ ([] : List TTx) = r0.Txs ∧ 2 = r1) ∧
(s55 = false →
 h2_0 = r0.Parent ∧ h2_1 = r0.Height ∧ h2_2 = r0.Miner ∧ h2_3 = r0.Work ∧ h2_4 = r0.Nonce ∧ g3 = r0.Txs ∧ 0 = r1))) : k8h (r0.Parent, r0.Height, r0.Miner, r0.Work, r0.Nonce, r0.Txs, r1, ()) (s55, h0_0, h0_1, h0_2, h0_3, h0_4, h0_5, h2_0, h2_1, h2_2, h2_3, h2_4, g3, ()) := ⟨mpr_of (by kernel_rfl) h⟩
def ks4 (r0 : TBlock) (r1 : Int) (k1 : Int → Int → Bool → List TTx → Prop) (s25 : Int) (h0_0 : Int) (h0_1 : Int) (h0_2 : Int) (h0_3 : Int) (h0_4 : Int) (h0_5 : List TTx) (h1_0 : List Int) (h2_0 : Int) (h2_1 : Int) (h2_2 : Int) (h2_3 : Int) (h2_4 : Int) (s26 : Int) (h1_1 : Int) (h1_2 : Bool) (g3 : List TTx) : Prop :=
(decide (s26 < s25) = true →
(RdOk h1_0 h1_1 ∧ (0 ≤ (2097152 : Int) ∧ (2097152 : Int) ≤ 4294967296)) ∧ ∀ (r71 : List Int) (r72 : Int) (r73 : Bool), (r71 = (rdB h1_0 h1_1 h1_2 (2097152 : Int)).l ∧ r72 = (rdB h1_0 h1_1 h1_2 (2097152 : Int)).pos ∧ r73 = (rdB h1_0 h1_1 h1_2 (2097152 : Int)).fail) → (r73 = true →
 0 = r0.Parent ∧ 0 = r0.Height ∧ 0 = r0.Miner ∧ 0 = r0.Work ∧ 0 = r0.Nonce ∧ ([] : List TTx) = r0.Txs ∧ 2 = r1) ∧
(r73 = false →
(By r71 ∧ r71.length ≤ 137438953472) ∧ ∀ (r76 : TTx) (r77 : Int), (r76 = (decS r71).1 ∧ r77 = (decS r71).2) → ((r77 != 0) = true →
 0 = r0.Parent ∧ 0 = r0.Height ∧ 0 = r0.Miner ∧ 0 = r0.Work ∧ 0 = r0.Nonce ∧ ([] : List TTx) = r0.Txs ∧ 2 = r1) ∧
((r77 != 0) = false →
 g3.length = g3.length ∧ (g3.length + [r76].length) * 128 ≤ 140737488355328 ∧ g3.length + [r76].length ≤ maxLen ∧ (g3 ++ [r76] = g3 ++ [r76]) ∧ k1 (IntKind.i64.wrap (s26 + 1) : Int) r72 r73 (g3 ++ [r76] : List TTx)))) ∧
(decide (s26 < s25) = false →
 let v78 : Bool := (!(!h1_2 && h1_1 == (h1_0.length : Int)))
(v78 = true →
(g3 = g3) ∧ k8h (r0.Parent, r0.Height, r0.Miner, r0.Work, r0.Nonce, r0.Txs, r1, ()) (true, h0_0, h0_1, h0_2, h0_3, h0_4, h0_5, h2_0, h2_1, h2_2, h2_3, h2_4, g3, ())) ∧
(v78 = false →
(∀ x ∈ (TBlock.mk h2_0 h2_1 h2_2 h2_3 h2_4 g3).Txs, TR x) ∧ let r79 : Int := validB (TBlock.mk h2_0 h2_1 h2_2 h2_3 h2_4 g3)
(g3 = g3) ∧ k8h (r0.Parent, r0.Height, r0.Miner, r0.Work, r0.Nonce, r0.Txs, r1, ()) (((r79 != 0) : Bool), h0_0, h0_1, h0_2, h0_3, h0_4, h0_5, h2_0, h2_1, h2_2, h2_3, h2_4, g3, ())))
set_option maxRecDepth 100000 in
theorem k17c {r0 : TBlock} {r1 : Int} {s25 : Int} {h0_0 : Int} {h0_1 : Int} {h0_2 : Int} {h0_3 : Int} {h0_4 : Int} {h0_5 : List TTx} {h1_0 : List Int} {h2_0 : Int} {h2_1 : Int} {h2_2 : Int} {h2_3 : Int} {h2_4 : Int} {s26 : Int} {h1_1 : Int} {h1_2 : Bool} {g3 : List TTx} (inv : Int → Int → Bool → List TTx → Prop) (μ : Int → Int → Bool → List TTx → Nat) (h0 : inv s26 h1_1 h1_2 g3) (hs : ∀ (s26 : Int) (h1_1 : Int) (h1_2 : Bool) (g3 : List TTx), inv s26 h1_1 h1_2 g3 → ks4 r0 r1 (fun s26q h1_1q h1_2q g3q => inv s26q h1_1q h1_2q g3q ∧ μ s26q h1_1q h1_2q g3q < μ s26 h1_1 h1_2 g3) s25 h0_0 h0_1 h0_2 h0_3 h0_4 h0_5 h1_0 h2_0 h2_1 h2_2 h2_3 h2_4 s26 h1_1 h1_2 g3) : Md.Loop (s25, s26, h0_0, h0_1, h0_2, h0_3, h0_4, h0_5, h1_0, h1_1, h1_2, h2_0, h2_1, h2_2, h2_3, h2_4, g3, ()) (kb8 (r0.Parent, r0.Height, r0.Miner, r0.Work, r0.Nonce, r0.Txs, r1, ())) :=
  ⟨⟨fun s : Int × Int × Int × Int × Int × Int × Int × (List TTx) × (List Int) × Int × Bool × Int × Int × Int × Int × Int × (List TTx) × Unit => (s.1 = s25 ∧ s.2.2.1 = h0_0 ∧ s.2.2.2.1 = h0_1 ∧ s.2.2.2.2.1 = h0_2 ∧ s.2.2.2.2.2.1 = h0_3 ∧ s.2.2.2.2.2.2.1 = h0_4 ∧ s.2.2.2.2.2.2.2.1 = h0_5 ∧ s.2.2.2.2.2.2.2.2.1 = h1_0 ∧ s.2.2.2.2.2.2.2.2.2.2.2.1 = h2_0 ∧ s.2.2.2.2.2.2.2.2.2.2.2.2.1 = h2_1 ∧ s.2.2.2.2.2.2.2.2.2.2.2.2.2.1 = h2_2 ∧ s.2.2.2.2.2.2.2.2.2.2.2.2.2.2.1 = h2_3 ∧ s.2.2.2.2.2.2.2.2.2.2.2.2.2.2.2.1 = h2_4) ∧ inv s.2.1 s.2.2.2.2.2.2.2.2.2.1 s.2.2.2.2.2.2.2.2.2.2.1 s.2.2.2.2.2.2.2.2.2.2.2.2.2.2.2.2.1, fun s : Int × Int × Int × Int × Int × Int × Int × (List TTx) × (List Int) × Int × Bool × Int × Int × Int × Int × Int × (List TTx) × Unit => μ s.2.1 s.2.2.2.2.2.2.2.2.2.1 s.2.2.2.2.2.2.2.2.2.2.1 s.2.2.2.2.2.2.2.2.2.2.2.2.2.2.2.2.1, ⟨⟨rfl, rfl, rfl, rfl, rfl, rfl, rfl, rfl, rfl, rfl, rfl, rfl, rfl⟩, h0⟩, fun (s25p, s26p, h0_0p, h0_1p, h0_2p, h0_3p, h0_4p, h0_5p, h1_0p, h1_1p, h1_2p, h2_0p, h2_1p, h2_2p, h2_3p, h2_4p, g3p, ()) ⟨⟨eq0, eq1, eq2, eq3, eq4, eq5, eq6, eq7, eq8, eq9, eq10, eq11, eq12⟩, hi⟩ => by
    have eq0 : s25p = s25 := eq0; subst s25p; have eq1 : h0_0p = h0_0 := eq1; subst h0_0p; have eq2 : h0_1p = h0_1 := eq2; subst h0_1p; have eq3 : h0_2p = h0_2 := eq3; subst h0_2p; have eq4 : h0_3p = h0_3 := eq4; subst h0_3p; have eq5 : h0_4p = h0_4 := eq5; subst h0_4p; have eq6 : h0_5p = h0_5 := eq6; subst h0_5p; have eq7 : h1_0p = h1_0 := eq7; subst h1_0p; have eq8 : h2_0p = h2_0 := eq8; subst h2_0p; have eq9 : h2_1p = h2_1 := eq9; subst h2_1p; have eq10 : h2_2p = h2_2 := eq10; subst h2_2p; have eq11 : h2_3p = h2_3 := eq11; subst h2_3p; have eq12 : h2_4p = h2_4 := eq12; subst h2_4p; exact mpr_of (by kernel_rfl) ((congrArg (fun k => ks4 r0 r1 k s25 h0_0 h0_1 h0_2 h0_3 h0_4 h0_5 h1_0 h2_0 h2_1 h2_2 h2_3 h2_4 s26p h1_1p h1_2p g3p) (lpk4 (⟨rfl, rfl, rfl, rfl, rfl, rfl, rfl, rfl, rfl, rfl, rfl, rfl, rfl⟩ : s25 = s25 ∧ h0_0 = h0_0 ∧ h0_1 = h0_1 ∧ h0_2 = h0_2 ∧ h0_3 = h0_3 ∧ h0_4 = h0_4 ∧ h0_5 = h0_5 ∧ h1_0 = h1_0 ∧ h2_0 = h2_0 ∧ h2_1 = h2_1 ∧ h2_2 = h2_2 ∧ h2_3 = h2_3 ∧ h2_4 = h2_4) inv (fun s26q h1_1q h1_2q g3q => μ s26q h1_1q h1_2q g3q < μ s26p h1_1p h1_2p g3p))).mpr (hs s26p h1_1p h1_2p g3p hi))⟩⟩
theorem bd26 : Callable Try.prog 26 := ⟨by rw [Try.func26]; kernel_rfl, by rw [Try.func26]; show some _ ≠ some _; decide⟩
theorem k13i (p0 : List Int) (h : By p0 ∧ p0.length ≤ 137438953472) : khq (p0, ()) ((((decB p0).1).Parent : Int), (((decB p0).1).Height : Int), (((decB p0).1).Miner : Int), (((decB p0).1).Work : Int), (((decB p0).1).Nonce : Int), (((decB p0).1).Txs : List TTx), ((decB p0).2 : Int), ()) := by
  obtain ⟨hb, hl⟩ := h
  have h0 : RdOk p0 0 := ⟨hb, hl, by omega, by omega⟩
  have zn : (∀ t, ¬ EB t p0) → 0 = (decB p0).1.Parent ∧ 0 = (decB p0).1.Height ∧ 0 = (decB p0).1.Miner ∧ 0 = (decB p0).1.Work ∧ 0 = (decB p0).1.Nonce ∧ ([] : List TTx) = (decB p0).1.Txs ∧ 2 = (decB p0).2 := by
    intro hn
    rw [decB_no hn]
    exact ⟨rfl, rfl, rfl, rfl, rfl, rfl, rfl⟩
  refine k17z (r0 := (decB p0).1) ⟨hl, h0, ?_⟩
  rintro _ _ _ ⟨rfl, rfl, rfl⟩
  have hA := rdU_ok (m := 18446744069414584320) (f := false) h0
  have sA := rdU_snd (m := 18446744069414584320) (f := false) h0
  have cA := fun n r => rdU_cpl (m := 18446744069414584320) (f := false) (n := n) (r := r) h0 rfl
  have nA := rdU_n (m := 18446744069414584320) (f := false) h0
  generalize rdU p0 0 false 18446744069414584320 = A at *
  refine ⟨hA, ?_⟩
  rintro _ _ _ ⟨rfl, rfl, rfl⟩
  have hH := rdI_ok (m := 1048576) (f := A.fail) hA
  have sH := rdI_snd (m := 1048576) (f := A.fail) hA
  have cH := fun n r => rdI_cpl (m := 1048576) (f := A.fail) (n := n) (r := r) hA
  have nH := rdI_n (m := 1048576) (f := A.fail) hA (by omega)
  generalize rdI p0 A.pos A.fail 1048576 = H at *
  refine ⟨hH, ?_⟩
  rintro _ _ _ ⟨rfl, rfl, rfl⟩
  have hM := rdU_ok (m := 18446744069414584320) (f := H.fail) hH
  have sM := rdU_snd (m := 18446744069414584320) (f := H.fail) hH
  have cM := fun n r => rdU_cpl (m := 18446744069414584320) (f := H.fail) (n := n) (r := r) hH
  have nM := rdU_n (m := 18446744069414584320) (f := H.fail) hH
  generalize rdU p0 H.pos H.fail 18446744069414584320 = M at *
  refine ⟨hM, ?_⟩
  rintro _ _ _ ⟨rfl, rfl, rfl⟩
  have hW := rdU_ok (m := 65536) (f := M.fail) hM
  have sW := rdU_snd (m := 65536) (f := M.fail) hM
  have cW := fun n r => rdU_cpl (m := 65536) (f := M.fail) (n := n) (r := r) hM
  have nW := rdU_n (m := 65536) (f := M.fail) hM
  generalize rdU p0 M.pos M.fail 65536 = W at *
  refine ⟨hW, ?_⟩
  rintro _ _ _ ⟨rfl, rfl, rfl⟩
  have hO := rdU_ok (m := 18446744073709551615) (f := W.fail) hW
  have sO := rdU_snd (m := 18446744073709551615) (f := W.fail) hW
  have cO := fun n r => rdU_cpl (m := 18446744073709551615) (f := W.fail) (n := n) (r := r) hW
  have nO := rdU_n (m := 18446744073709551615) (f := W.fail) hW
  generalize rdU p0 W.pos W.fail 18446744073709551615 = O at *
  refine ⟨hO, ?_⟩
  rintro _ _ _ ⟨rfl, rfl, rfl⟩
  have hC := rdI_ok (m := 64) (f := O.fail) hO
  have sC := rdI_snd (m := 64) (f := O.fail) hO
  have cC := fun n r => rdI_cpl (m := 64) (f := O.fail) (n := n) (r := r) hO
  have nC := rdI_n (m := 64) (f := O.fail) hO (by omega)
  generalize rdI p0 O.pos O.fail 64 = C at *
  refine ⟨by trivial, ?_⟩
  refine k17c (r0 := (decB p0).1) (fun i pos f g => 0 ≤ i ∧ i ≤ C.n ∧ RdOk p0 pos ∧ (g.length : Int) = i ∧
    (f = false → p0 = dig 8 A.n ++ (dig 4 H.n ++ (dig 8 M.n ++ (dig 8 W.n ++ (dig 8 O.n ++ (dig 4 C.n ++ (g.flatMap encTx ++ p0.drop pos.toNat)))))) ∧ ∀ x ∈ g, TR x) ∧
    (∀ t, EB t p0 → f = false ∧ A.n = t.Parent ∧ H.n = t.Height ∧ M.n = t.Miner ∧ W.n = t.Work ∧ O.n = t.Nonce ∧ C.n = t.Txs.length ∧ g = t.Txs.take i.toNat ∧ p0.drop pos.toNat = (t.Txs.drop i.toNat).flatMap encTx)) (fun i _ _ _ => (C.n - i).toNat) ⟨by omega, nC.1, hC, rfl, ?_, ?_⟩ ?_
  · intro hf
    obtain ⟨a1, a2, a3⟩ := sC hf
    obtain ⟨b1, b2, b3⟩ := sO a1
    obtain ⟨c1, c2, c3⟩ := sW b1
    obtain ⟨d1, d2, d3⟩ := sM c1
    obtain ⟨e1, e2, e3⟩ := sH d1
    obtain ⟨f1, f2, f3⟩ := sA e1
    refine ⟨?_, by intro x hx; cases hx⟩
    show p0 = dig 8 A.n ++ (dig 4 H.n ++ (dig 8 M.n ++ (dig 8 W.n ++ (dig 8 O.n ++ (dig 4 C.n ++ ([] ++ p0.drop C.pos.toNat))))))
    rw [List.nil_append, ← a2, ← b2, ← c2, ← d2, ← e2]
    exact f2
  · intro t ht
    have v := ht.v.h
    have v0 := v.h0
    have v1 := v.h1
    have v2 := v.l
    have he := ht.e
    rw [kep, len4_in (n := t.Height) (by omega), len4_in (n := (t.Txs.length : Int)) (by omega)] at he
    obtain ⟨a1, a2, a3⟩ := cA t.Parent _ he.symm ht.r.p (by have := v.p; omega)
    obtain ⟨b1, b2, b3⟩ := cH t.Height _ a1 a3 (by omega) (by omega) (by omega)
    obtain ⟨c1, c2, c3⟩ := cM t.Miner _ b1 b3 ht.r.m (by have := v.m; omega)
    obtain ⟨d1, d2, d3⟩ := cW t.Work _ c1 c3 ht.r.w (by have := v.w1; omega)
    obtain ⟨e1, e2, e3⟩ := cO t.Nonce _ d1 d3 ht.r.n (by have := ht.r.n; omega)
    obtain ⟨f1, f2, f3⟩ := cC (t.Txs.length : Int) _ e1 e3 (by omega) (by omega) (by omega)
    exact ⟨f1, a2, b2, c2, d2, e2, f2, by simp, by simpa using f3⟩
  rintro i pos f g ⟨g0, g1, hp, g2, gs, gc⟩
  refine ⟨fun hh => ?_, fun hh => ?_⟩
  · have hh := of_decide_eq_true hh
    refine ⟨⟨hp, by omega, by omega⟩, ?_⟩
    rintro _ _ _ ⟨rfl, rfl, rfl⟩
    have h7 := rdB_ok (m := 2097152) (f := f) hp (by omega)
    have s7 := rdB_snd (m := 2097152) (f := f) hp (by omega)
    have c7 := fun n r => rdB_cpl (m := 2097152) (f := f) (l := n) (r := r) hp (by omega)
    generalize rdB p0 pos f 2097152 = X at *
    have cx : ∀ t, EB t p0 → X.fail = false ∧ X.l = encT (ix t.Txs i) (ix t.Txs i).Proof ∧ p0.drop X.pos.toNat = (t.Txs.drop (i + 1).toNat).flatMap encTx ∧ Enc (ix t.Txs i) X.l ∧ i < (t.Txs.length : Int) := by
      intro t ht
      obtain ⟨t1, t2, t3, t4, t5, t6, t7, t8, t9⟩ := gc t ht
      have hit : i < (t.Txs.length : Int) := by omega
      have hxm := ix_mem t.Txs i g0 hit
      have hxr := ht.r.t _ hxm
      have hxv := (k3t _).1 (ht.v.t _ hxm)
      have hxl := hxv.enc_len (ix t.Txs i).Proof
      have hxp := hxv.pl
      rw [drop_ix t.Txs i g0 hit, List.flatMap_cons] at t9
      obtain ⟨q1, q2, q3⟩ := c7 _ _ t1 t9 (by omega)
      exact ⟨q1, q2, q3, ⟨hxr, hxv, q2.symm⟩, hit⟩
    refine ⟨fun e => zn fun t ht => ?_, fun e => ?_⟩
    · rw [(cx t ht).1] at e; cases e
    · obtain ⟨q1, q2, q3, q4⟩ := s7 e
      refine ⟨⟨q4, by omega⟩, ?_⟩
      rintro _ _ ⟨rfl, rfl⟩
      refine ⟨fun e2 => zn fun t ht => ?_, fun e2 => ?_⟩
      · rw [kwe (cx t ht).2.2.2.1] at e2
        simp at e2
      · have e2 : (decS X.l).2 = 0 := by simpa using e2
        have hE := k1e3 e2
        have cy : ∀ t, EB t p0 → (decS X.l).1 = ix t.Txs i := fun t ht => by rw [kwe (cx t ht).2.2.2.1]
        generalize (decS X.l).1 = y at *
        rw [inc i C.n g0 hh (by omega)]
        refine ⟨rfl, by simp; omega, by simp; unfold maxLen; omega, (by trivial), ⟨by omega, by omega, h7, by simp; omega, ?_, ?_⟩, by omega⟩
        · intro _
          obtain ⟨w1, w2⟩ := gs q1
          refine ⟨?_, ?_⟩
          · rw [List.flatMap_append, List.append_assoc]
            simp only [List.flatMap_cons, List.flatMap_nil, List.append_nil]
            unfold encTx at *
            rw [hE.e, ← q2]
            exact w1
          · intro x hx
            rcases List.mem_append.1 hx with hx | hx
            · exact w2 x hx
            · rw [List.mem_singleton.1 hx]; exact hE.r
        · intro t ht
          obtain ⟨t1, t2, t3, t4, t5, t6, t7, t8, t9⟩ := gc t ht
          obtain ⟨x1, x2, x3, x4, x5⟩ := cx t ht
          refine ⟨x1, t2, t3, t4, t5, t6, t7, ?_, x3⟩
          rw [ka t.Txs i g0 x5, t8, cy t ht]
  · have hh := of_decide_eq_false hh
    have hiC : i = C.n := by omega
    subst hiC
    have cpl : ∀ t, EB t p0 → f = false ∧ pos = p0.length ∧ (⟨A.n, H.n, M.n, W.n, O.n, g⟩ : TBlock) = t := by
      intro t ht
      obtain ⟨t1, t2, t3, t4, t5, t6, t7, t8, t9⟩ := gc t ht
      rw [show t.Txs.drop C.n.toNat = [] from List.drop_eq_nil_of_le (by omega), List.flatMap_nil] at t9
      rw [List.take_of_length_le (by omega)] at t8
      have k4 := congrArg List.length t9
      rw [List.length_drop, List.length_nil] at k4
      refine ⟨t1, by have := hp.pos0; have := hp.pos1; omega, ?_⟩
      rw [t2, t3, t4, t5, t6, t8]
    have jn : (∀ t, ¬ EB t p0) → ∀ s, s = true → k8h ((decB p0).1.Parent, (decB p0).1.Height, (decB p0).1.Miner, (decB p0).1.Work, (decB p0).1.Nonce, (decB p0).1.Txs, (decB p0).2, ()) (s, (0 : Int), (0 : Int), (0 : Int), (0 : Int), (0 : Int), ([] : List TTx), A.n, H.n, M.n, W.n, O.n, g, ()) := by
      intro hn s hs
      refine knt (r0 := (decB p0).1) ⟨fun _ => zn hn, fun h => by rw [hs] at h; cases h⟩
    try simp only []
    refine ⟨fun e => ⟨(by trivial), jn (fun t ht => ?_) _ rfl⟩, fun e => ?_⟩
    · obtain ⟨k1, k2, _⟩ := cpl t ht
      rw [k1, k2] at e
      simp at e
    · have e : f = false ∧ pos = (p0.length : Int) := by simpa using e
      obtain ⟨w1, w2⟩ := gs e.1
      refine ⟨w2, (by trivial), ?_⟩
      by_cases hv : validB ⟨A.n, H.n, M.n, W.n, O.n, g⟩ = 0
      · have hE : EB ⟨A.n, H.n, M.n, W.n, O.n, g⟩ p0 := by
          refine ⟨⟨nA, nM, nW, nO, by show -9223372036854775808 ≤ H.n ∧ H.n ≤ _; omega, w2⟩, (k9j _).1 hv, ?_⟩
          rw [kep]
          show dig 8 A.n ++ (dig 4 (len4 H.n) ++ (dig 8 M.n ++ (dig 8 W.n ++ (dig 8 O.n ++ (dig 4 (len4 (g.length : Int)) ++ g.flatMap encTx))))) = p0
          rw [len4_in (n := H.n) (by omega), len4_in (n := (g.length : Int)) (by omega), g2]
          rw [e.2, Int.toNat_natCast, List.drop_length, List.append_nil] at w1
          exact w1.symm
        refine knt (r0 := (decB p0).1) ⟨fun h => ?_, fun _ => ?_⟩
        · rw [hv] at h; simp at h
        · rw [decB_eb hE]
          exact ⟨rfl, rfl, rfl, rfl, rfl, rfl, rfl⟩
      · refine jn (fun t ht => ?_) _ (by simpa using hv)
        obtain ⟨_, _, k3⟩ := cpl t ht
        rw [k3] at hv
        exact hv ((k9j t).2 ht.v)
noncomputable def kj7 : Con TB.den := { k18 with R := fun x K => (fun (p0 : List Int) => ((By p0 ∧ p0.length ≤ 137438953472) ∧ ∀ (v0 : TBlock) (v1 : Int), (v0 = ((decB p0).1) ∧ v1 = ((decB p0).2)) → K (v0.Parent, v0.Height, v0.Miner, v0.Work, v0.Nonce, v0.Txs, v1, ()) : Prop)) x.1 }
theorem ksj : kj7.Ok Try.prog TB := ⟨bd26, fun x K hx => ⟨((fun (p0 : List Int) => (((decB p0).1).Parent : Int)) x.1, (fun (p0 : List Int) => (((decB p0).1).Height : Int)) x.1, (fun (p0 : List Int) => (((decB p0).1).Miner : Int)) x.1, (fun (p0 : List Int) => (((decB p0).1).Work : Int)) x.1, (fun (p0 : List Int) => (((decB p0).1).Nonce : Int)) x.1, (fun (p0 : List Int) => (((decB p0).1).Txs : List TTx)) x.1, (fun (p0 : List Int) => ((decB p0).2 : Int)) x.1, ()), hx.2 ((fun (p0 : List Int) => (((decB p0).1))) x.1) ((fun (p0 : List Int) => (((decB p0).2))) x.1) ⟨rfl, rfl⟩, k15o (k13i x.1 hx.1)⟩⟩
end Go.Proofs.Ytnmakgfmimagmaa
namespace Go.Proofs.Ytnmakgfmimagmaa
open Go Go.Bv Go.Cv Go.Md Go.RowKit
def k20 : Con TB.den := Con.mk0 44 [.agg [.d (.int .u64), .d (.int .i64), .d (.int .u64), .d (.int .u64), .d (.int .u64), .d (.sl (.st 1))]] [] (.one (.one (.d (.sl (.int .u8))))) []
abbrev ku6 := HL TB.den (hsT k20.ins (hsOs k20.pre))
abbrev kha := HL TB.den (hsV k20.res (hsOs k20.post))
noncomputable def kbc : Cx TB := ⟨inf, [kik, kqt], [], 4⟩
noncomputable def khm : Code := Try.f44.body.getD .skip
noncomputable def kka : List ResultVar := Try.f44.results.toList
noncomputable def krz (o : kha) : An TB := .no
noncomputable def khn (x : ku6) (o : kha) : Prop := WPh TB kbc 28 0 khm (krz o) (k20.st TB x) (retTQ TB kbc k20 kka o)
set_option maxRecDepth 100000 in
theorem k170 (o : kha) : OblH TB kbc 28 0 khm (krz o) (retTQ TB kbc k20 kka o) :=
  OblH.of_eq (X := (True ∧ (True ∧ (True ∧ (True ∧ (True ∧ (True ∧ (True ∧ True)))))))) (by kernel_rfl) ⟨trivial, ⟨trivial, ⟨trivial, ⟨trivial, ⟨trivial, ⟨trivial, ⟨trivial, trivial⟩⟩⟩⟩⟩⟩⟩
set_option maxRecDepth 100000 in
theorem k17b {x : ku6} {o : kha} (h : khn x o) : SoundH Try.prog k20.f ((k20.args idf x).map (er TB)) ((k20.obs idf x).map (erO TB)) (er TB (k20.val idf o)) ((k20.ops idf o).map (erO TB)) :=
  Con.soundH (c := k20) (C := kbc) TBok ⟨inf_ok, (all_cons kq1 (all_cons k146 all_nil)), all_nil⟩ mix Try.func44 (show Try.f44.body = some khm by kernel_rfl) (show Try.f44.ntmps = 28 by kernel_rfl) (show Try.f44.results.toList = kka by kernel_rfl) rfl h (k170 o)
set_option maxRecDepth 100000 in
theorem k1aq {p0 : TBlock} {r0 : List Int} (h :
((U64 p0.Parent ∧ ([] : List Int).length ≤ 137438953472) ∧ ((-9223372036854775808 ≤ p0.Height ∧ p0.Height ≤ 9223372036854775807) ∧ (([] : List Int) ++ dig 8 p0.Parent).length ≤ 137438953472) ∧ let r1 : List Int := (([] : List Int) ++ dig 8 p0.Parent) ++ dig 4 (len4 p0.Height)
(U64 p0.Miner ∧ r1.length ≤ 137438953472) ∧ (U64 p0.Work ∧ (r1 ++ dig 8 p0.Miner).length ≤ 137438953472) ∧ (U64 p0.Nonce ∧ ((r1 ++ dig 8 p0.Miner) ++ dig 8 p0.Work).length ≤ 137438953472) ∧ let r2 : List Int := ((r1 ++ dig 8 p0.Miner) ++ dig 8 p0.Work) ++ dig 8 p0.Nonce
((-9223372036854775808 ≤ (p0.Txs.length : Int) ∧ (p0.Txs.length : Int) ≤ 9223372036854775807) ∧ r2.length ≤ 137438953472) ∧ r2 ++ dig 4 (len4 (p0.Txs.length : Int)) = r0)) : khn (p0.Parent, p0.Height, p0.Miner, p0.Work, p0.Nonce, p0.Txs, ()) (r0, ()) := WPh.of_eq (by kernel_rfl) h
theorem bd44 : Callable Try.prog 44 := ⟨by rw [Try.func44]; kernel_rfl, by rw [Try.func44]; show some _ ≠ some _; decide⟩
theorem k13q (p0 : TBlock) (h : BR p0 ∧ p0.Txs.length ≤ 64) : khn (p0.Parent, p0.Height, p0.Miner, p0.Work, p0.Nonce, p0.Txs, ()) ((hdrS p0 : List Int), ()) := by
  obtain ⟨hr, hl⟩ := h
  refine k1aq ⟨⟨hr.p, by simp⟩, ⟨hr.h, by simp⟩, ⟨hr.m, by simp⟩, ⟨hr.w, by simp⟩, ⟨hr.n, by simp⟩, ⟨⟨by omega, by omega⟩, by simp⟩, ?_⟩
  simp [hdrS]
noncomputable def kj8 : Con TB.den := k20.fnR (fun x => (fun (p0 : TBlock) => BR p0 ∧ p0.Txs.length ≤ 64) (TBlock.mk x.1 x.2.1 x.2.2.1 x.2.2.2.1 x.2.2.2.2.1 x.2.2.2.2.2.1)) fun x => ((fun (p0 : TBlock) => (hdrS p0 : List Int)) (TBlock.mk x.1 x.2.1 x.2.2.1 x.2.2.2.1 x.2.2.2.2.1 x.2.2.2.2.2.1), ())
theorem kst : kj8.Ok Try.prog TB := Con.ok_fn k20 bd44 fun x h => k17b (k13q (TBlock.mk x.1 x.2.1 x.2.2.1 x.2.2.2.1 x.2.2.2.2.1 x.2.2.2.2.2.1) h)
end Go.Proofs.Ytnmakgfmimagmaa
namespace Go.Proofs.Ytnmakgfmimagmaa
open Go Go.Bv Go.Cv Go.Md Go.RowKit
def k1f : Con TB.den := Con.mk0 25 [.agg [.d (.int .u64), .d (.int .i64), .d (.int .u64), .d (.int .u64), .d (.int .u64), .d (.sl (.st 1))]] [] (.tup [.one (.d (.sl (.int .u8))), .one (.d (.int .i64))]) []
abbrev kty := HL TB.den (hsT k1f.ins (hsOs k1f.pre))
abbrev k5j := HL TB.den (hsV k1f.res (hsOs k1f.post))
noncomputable def k56 : Cx TB := ⟨inf, [kf3, kj8, kit, kln], [], 4⟩
noncomputable def k91 : Code := Try.f25.body.getD .skip
noncomputable def kbj : List ResultVar := Try.f25.results.toList
noncomputable def k1ad (o : k5j) : Exit → TSt TB.den → Prop := thenT TB (fun s => ghs TB [] s fun s => WP TB k56 37 0 (cB (cB (cB (cB k91)))) .no s (retTQ TB k56 k1f kbj o)) (retTQ TB k56 k1f kbj o)
def k6m : Tm := ⟨[], [], [5, 18, 19, 20], [.one (.d (.sl (.int .u8))), .one (.d (.sl (.st 1))), .one (.d (.int .i64)), .one (.d (.int .i64))], 1⟩
noncomputable def k18z (o : k5j) (nx1 : HL TB.den k6m.hs → Prop) : Exit → TSt TB.den → Prop := thenT TB (fun s => k6m.mat TB 0 s nx1) (blockT TB 0 (k1ad o))
noncomputable def kbk (o : k5j) (nx1 : HL TB.den k6m.hs → Prop) (i : HL TB.den k6m.hs) : Prop := WP TB k56 37 0 (cA (cA (cB (cA (cB (cB (cB k91))))))) .no (k6m.fill TB i) (k18z o nx1)
noncomputable def k181 (o : k5j) : An TB := .nd [] .no [] (.lp [] k6m (kbk o) fun nx1 => .no)
noncomputable def k19o (o : k5j) : An TB := .nd [] .no [] (.nd [] .no [] (.nd [] (k181 o) [] .no))
noncomputable def kse (o : k5j) : An TB := .nd [] .no [] (k19o o)
noncomputable def khv (x : kty) (o : k5j) : Prop := WPh TB k56 37 0 k91 (kse o) (k1f.st TB x) (retTQ TB k56 k1f kbj o)
set_option maxRecDepth 100000 in
theorem k15l (o : k5j) : OblH TB k56 37 0 k91 (kse o) (retTQ TB k56 k1f kbj o) :=
  OblH.of_eq (X := (True ∧ ((True ∧ (True ∧ ((True ∧ True) ∧ True))) ∧ (True ∧ ((True ∧ ((∀ nx i, (kbk o) nx i = (kbk o) nx i) ∧ ∀ nx1 : HL TB.den k6m.hs → Prop, (True ∧ ((True ∧ True) ∧ ((True ∧ (True ∧ ((True ∧ ((True ∧ True) ∧ True)) ∧ True))) ∧ True))))) ∧ (True ∧ True)))))) (by kernel_rfl) ⟨trivial, ⟨⟨trivial, ⟨trivial, ⟨⟨trivial, trivial⟩, trivial⟩⟩⟩, ⟨trivial, ⟨⟨trivial, ⟨fun _ _ => rfl, fun _ => ⟨trivial, ⟨⟨trivial, trivial⟩, ⟨⟨trivial, ⟨trivial, ⟨⟨trivial, ⟨⟨trivial, trivial⟩, trivial⟩⟩, trivial⟩⟩⟩, trivial⟩⟩⟩⟩⟩, ⟨trivial, trivial⟩⟩⟩⟩⟩
set_option maxRecDepth 100000 in
theorem k161 {x : kty} {o : k5j} (h : khv x o) : SoundH Try.prog k1f.f ((k1f.args idf x).map (er TB)) ((k1f.obs idf x).map (erO TB)) (er TB (k1f.val idf o)) ((k1f.ops idf o).map (erO TB)) :=
  Con.soundH (c := k1f) (C := k56) TBok ⟨inf_ok, (all_cons klv (all_cons kst (all_cons kps (all_cons kxp all_nil)))), all_nil⟩ mix Try.func25 (show Try.f25.body = some k91 by kernel_rfl) (show Try.f25.ntmps = 37 by kernel_rfl) (show Try.f25.results.toList = kbj by kernel_rfl) rfl h (k15l o)
set_option maxRecDepth 100000 in
theorem k19p {p0 : TBlock} {r0 : List Int} {r1 : Int} (h :
((∀ x ∈ p0.Txs, TR x) ∧ (((validB p0) != 0) = true →
([] : List Int) = r0 ∧ validB p0 = r1) ∧
(((validB p0) != 0) = false →
(BR p0 ∧ p0.Txs.length ≤ 64) ∧ Md.Loop ((hdrS p0 : List Int), p0.Txs, ((p0.Txs.length : Int) : Int), (0 : Int), ()) (kbk (r0, r1, ()))))) : khv (p0.Parent, p0.Height, p0.Miner, p0.Work, p0.Nonce, p0.Txs, ()) (r0, r1, ()) := WPh.of_eq (by kernel_rfl) h
def ks2 (r0 : List Int) (r1 : Int) (k1 : List Int → Int → Prop) (s18 : List TTx) (s19 : Int) (s5 : List Int) (s20 : Int) : Prop :=
(decide (s20 < s19) = true →
(0 ≤ s20) ∧ s20 < (s18.length : Int) ∧ (TR (ix s18 s20)) ∧ let r2 : List Int := (if validE (ix s18 s20) = 0 then encT (ix s18 s20) (ix s18 s20).Proof else [])
(((validE (ix s18 s20)) != 0) = true →
([] : List Int) = r0 ∧ validE (ix s18 s20) = r1) ∧
(((validE (ix s18 s20)) != 0) = false →
(s5.length ≤ 68719476736 ∧ r2.length ≤ 4294967295) ∧ k1 (s5 ++ encB r2 : List Int) (IntKind.i64.wrap (s20 + 1) : Int))) ∧
(decide (s20 < s19) = false →
 s5 = r0 ∧ 0 = r1)
set_option maxRecDepth 100000 in
theorem k16i {r0 : List Int} {r1 : Int} {s18 : List TTx} {s19 : Int} {s5 : List Int} {s20 : Int} (inv : List Int → Int → Prop) (μ : List Int → Int → Nat) (h0 : inv s5 s20) (hs : ∀ (s5 : List Int) (s20 : Int), inv s5 s20 → ks2 r0 r1 (fun s5q s20q => inv s5q s20q ∧ μ s5q s20q < μ s5 s20) s18 s19 s5 s20) : Md.Loop (s5, s18, s19, s20, ()) (kbk (r0, r1, ())) :=
  ⟨⟨fun s : (List Int) × (List TTx) × Int × Int × Unit => (s.2.1 = s18 ∧ s.2.2.1 = s19) ∧ inv s.1 s.2.2.2.1, fun s : (List Int) × (List TTx) × Int × Int × Unit => μ s.1 s.2.2.2.1, ⟨⟨rfl, rfl⟩, h0⟩, fun (s5p, s18p, s19p, s20p, ()) ⟨⟨eq0, eq1⟩, hi⟩ => by
    have eq0 : s18p = s18 := eq0; subst s18p; have eq1 : s19p = s19 := eq1; subst s19p; exact mpr_of (by kernel_rfl) ((congrArg (fun k => ks2 r0 r1 k s18 s19 s5p s20p) (lpk2 (⟨rfl, rfl⟩ : s18 = s18 ∧ s19 = s19) inv (fun s5q s20q => μ s5q s20q < μ s5p s20p))).mpr (hs s5p s20p hi))⟩⟩
theorem bd25 : Callable Try.prog 25 := ⟨by rw [Try.func25]; kernel_rfl, by rw [Try.func25]; show some _ ≠ some _; decide⟩
theorem k135 (p0 : TBlock) (h : BR p0) : khv (p0.Parent, p0.Height, p0.Miner, p0.Work, p0.Nonce, p0.Txs, ()) ((if validB p0 = 0 then encBk p0 else [] : List Int), (validB p0 : Int), ()) := by
  refine k19p ⟨h.t, fun e => ?_, fun e => ?_⟩
  · have e : validB p0 ≠ 0 := by simpa using e
    rw [if_neg e]
    exact ⟨rfl, rfl⟩
  · have e : validB p0 = 0 := by simpa using e
    have v := (k9j p0).1 e
    have hl := v.h.l
    rw [if_pos e]
    refine ⟨⟨h, hl⟩, k16i (fun l i => 0 ≤ i ∧ i ≤ p0.Txs.length ∧ l = hdrS p0 ++ (p0.Txs.take i.toNat).flatMap encTx) (fun _ i => (p0.Txs.length - i).toNat) ⟨by omega, by omega, by simp⟩ ?_⟩
    rintro l i ⟨g0, g1, rfl⟩
    refine ⟨fun hh => ?_, fun hh => ?_⟩
    · have hh := of_decide_eq_true hh
      have hm := ix_mem p0.Txs i g0 hh
      have hv := v.t _ hm
      have vt := (k3t _).1 hv
      have hle := kin (p0.Txs.take i.toNat) (fun x hx => v.t x (List.mem_of_mem_take hx))
      rw [List.length_take] at hle
      have h3 := vt.enc_len (ix p0.Txs i).Proof
      have h4 := vt.pl
      refine ⟨g0, hh, h.t _ hm, ?_⟩
      rw [if_pos hv]
      refine ⟨fun e2 => ?_, fun _ => ?_⟩
      · rw [hv] at e2; cases e2
      · rw [inc i p0.Txs.length g0 hh (by omega)]
        refine ⟨⟨by rw [List.length_append, kn1]; omega, by omega⟩, ⟨by omega, by omega, ?_⟩, by omega⟩
        rw [ka p0.Txs i g0 hh, List.flatMap_append, List.append_assoc]
        simp [encTx]
    · have hh := of_decide_eq_false hh
      rw [List.take_of_length_le (by omega), e]
      exact ⟨rfl, rfl⟩
noncomputable def kdt : Con TB.den := k1f.fnR (fun x => (fun (p0 : TBlock) => BR p0) (TBlock.mk x.1 x.2.1 x.2.2.1 x.2.2.2.1 x.2.2.2.2.1 x.2.2.2.2.2.1)) fun x => ((fun (p0 : TBlock) => (if validB p0 = 0 then encBk p0 else [] : List Int)) (TBlock.mk x.1 x.2.1 x.2.2.1 x.2.2.2.1 x.2.2.2.2.1 x.2.2.2.2.2.1), (fun (p0 : TBlock) => (validB p0 : Int)) (TBlock.mk x.1 x.2.1 x.2.2.1 x.2.2.2.1 x.2.2.2.2.1 x.2.2.2.2.2.1), ())
theorem kkf : kdt.Ok Try.prog TB := Con.ok_fn k1f bd25 fun x h => k161 (k135 (TBlock.mk x.1 x.2.1 x.2.2.1 x.2.2.2.1 x.2.2.2.2.1 x.2.2.2.2.2.1) h)
end Go.Proofs.Ytnmakgfmimagmaa
namespace Go.Proofs.Ytnmakgfmimagmaa
open Go Go.Bv Go.Cv Go.Md Go.RowKit
def k1x : Con TB.den := Con.mk0 68 [.one (.d (.sl (.int .u64)))] [] (.one (.one (.d (.sl (.int .u64))))) []
abbrev kuh := HL TB.den (hsT k1x.ins (hsOs k1x.pre))
abbrev kh1 := HL TB.den (hsV k1x.res (hsOs k1x.post))
noncomputable def kb1 : Cx TB := ⟨inf, [], [], 4⟩
noncomputable def kht : Code := Try.f68.body.getD .skip
noncomputable def kku : List ResultVar := Try.f68.results.toList
noncomputable def krp (o : kh1) : An TB := .no
noncomputable def khw (x : kuh) (o : kh1) : Prop := WPh TB kb1 8 0 kht (krp o) (k1x.st TB x) (retTQ TB kb1 k1x kku o)
set_option maxRecDepth 100000 in
theorem k15n (o : kh1) : OblH TB kb1 8 0 kht (krp o) (retTQ TB kb1 k1x kku o) :=
  OblH.of_eq (X := (True ∧ ((True ∧ ((True ∧ True) ∧ True)) ∧ (True ∧ True)))) (by kernel_rfl) ⟨trivial, ⟨⟨trivial, ⟨⟨trivial, trivial⟩, trivial⟩⟩, ⟨trivial, trivial⟩⟩⟩
set_option maxRecDepth 100000 in
theorem k150 {x : kuh} {o : kh1} (h : khw x o) : SoundH Try.prog k1x.f ((k1x.args idf x).map (er TB)) ((k1x.obs idf x).map (erO TB)) (er TB (k1x.val idf o)) ((k1x.ops idf o).map (erO TB)) :=
  Con.soundH (c := k1x) (C := kb1) TBok ⟨inf_ok, all_nil, all_nil⟩ mix Try.func68 (show Try.f68.body = some kht by kernel_rfl) (show Try.f68.ntmps = 8 by kernel_rfl) (show Try.f68.results.toList = kku by kernel_rfl) rfl h (k15n o)
set_option maxRecDepth 100000 in
theorem k192 {p0 : List Int} {r0 : List Int} (h :
(∀ z4 : Bool, (z4 = true → p0 = []) → (z4 = true →
([] : List Int) = r0) ∧
(z4 = false →
(([] : List Int).length + p0.length) * 8 ≤ 140737488355328 ∧ ([] : List Int).length + p0.length ≤ maxLen ∧ ([] : List Int) ++ p0 = r0))) : khw (p0, ()) (r0, ()) := WPh.of_eq (by kernel_rfl) h
theorem bd68 : Callable Try.prog 68 := ⟨by rw [Try.func68]; kernel_rfl, by rw [Try.func68]; show some _ ≠ some _; decide⟩
theorem k12p (p0 : List Int) (h : p0.length ≤ 4294967295) : khw (p0, ()) ((p0 : List Int), ()) := by
  refine k192 fun z hz => ⟨fun h => (hz h).symm, fun h => ⟨by simp; omega, by simp; unfold maxLen; omega, rfl⟩⟩
noncomputable def kqq : Con TB.den := k1x.fnR (fun x => (fun (p0 : List Int) => p0.length ≤ 4294967295) x.1) fun x => ((fun (p0 : List Int) => (p0 : List Int)) x.1, ())
theorem k18t : kqq.Ok Try.prog TB := Con.ok_fn k1x bd68 fun x h => k150 (k12p x.1 h)
end Go.Proofs.Ytnmakgfmimagmaa
namespace Go.Proofs.Ytnmakgfmimagmaa
open Go Go.Bv Go.Cv Go.Md Go.RowKit
def k14 : Con TB.den := Con.mk0 67 [.one (.d (.sl (.st 1)))] [] (.one (.one (.d (.sl (.st 1))))) []
abbrev kol := HL TB.den (hsT k14.ins (hsOs k14.pre))
abbrev kc0 := HL TB.den (hsV k14.res (hsOs k14.post))
noncomputable def k85 : Cx TB := ⟨inf, [], [], 4⟩
noncomputable def kdz : Code := Try.f67.body.getD .skip
noncomputable def kgv : List ResultVar := Try.f67.results.toList
noncomputable def knm (o : kc0) : An TB := .no
noncomputable def kdw (x : kol) (o : kc0) : Prop := WPh TB k85 8 0 kdz (knm o) (k14.st TB x) (retTQ TB k85 k14 kgv o)
set_option maxRecDepth 100000 in
theorem kz2 (o : kc0) : OblH TB k85 8 0 kdz (knm o) (retTQ TB k85 k14 kgv o) :=
  OblH.of_eq (X := (True ∧ ((True ∧ ((True ∧ True) ∧ True)) ∧ (True ∧ True)))) (by kernel_rfl) ⟨trivial, ⟨⟨trivial, ⟨⟨trivial, trivial⟩, trivial⟩⟩, ⟨trivial, trivial⟩⟩⟩
set_option maxRecDepth 100000 in
theorem kyo {x : kol} {o : kc0} (h : kdw x o) : SoundH Try.prog k14.f ((k14.args idf x).map (er TB)) ((k14.obs idf x).map (erO TB)) (er TB (k14.val idf o)) ((k14.ops idf o).map (erO TB)) :=
  Con.soundH (c := k14) (C := k85) TBok ⟨inf_ok, all_nil, all_nil⟩ mix Try.func67 (show Try.f67.body = some kdz by kernel_rfl) (show Try.f67.ntmps = 8 by kernel_rfl) (show Try.f67.results.toList = kgv by kernel_rfl) rfl h (kz2 o)
set_option maxRecDepth 100000 in
theorem kzj {p0 : List TTx} {r0 : List TTx} (h :
(∀ z4 : Bool, (z4 = true → p0 = []) → (z4 = true →
([] : List TTx) = r0) ∧
(z4 = false →
(([] : List TTx).length + p0.length) * 128 ≤ 140737488355328 ∧ ([] : List TTx).length + p0.length ≤ maxLen ∧ ([] : List TTx) ++ p0 = r0))) : kdw (p0, ()) (r0, ()) := WPh.of_eq (by kernel_rfl) h
theorem bd67 : Callable Try.prog 67 := ⟨by rw [Try.func67]; kernel_rfl, by rw [Try.func67]; show some _ ≠ some _; decide⟩
theorem kwb (p0 : List TTx) (h : p0.length ≤ 4294967295) : kdw (p0, ()) ((p0 : List TTx), ()) := by
  refine kzj fun z hz => ⟨fun h => (hz h).symm, fun h => ⟨by simp; omega, by simp; unfold maxLen; omega, rfl⟩⟩
noncomputable def kl6 : Con TB.den := k14.fnR (fun x => (fun (p0 : List TTx) => p0.length ≤ 4294967295) x.1) fun x => ((fun (p0 : List TTx) => (p0 : List TTx)) x.1, ())
theorem kzw : kl6.Ok Try.prog TB := Con.ok_fn k14 bd67 fun x h => kyo (kwb x.1 h)
end Go.Proofs.Ytnmakgfmimagmaa
namespace Go.Proofs.Ytnmakgfmimagmaa
open Go Go.Bv Go.Cv Go.Md Go.RowKit
def k1s : Con TB.den := Con.mk0 43 [.agg [.d (.int .u64), .d (.int .i64), .d (.int .u64), .d (.int .u64), .d (.int .u64), .d (.sl (.st 1))]] [] (.one (.agg [.d (.int .u64), .d (.int .i64), .d (.int .u64), .d (.int .u64), .d (.int .u64), .d (.sl (.st 1))])) []
abbrev kxw := HL TB.den (hsT k1s.ins (hsOs k1s.pre))
abbrev k7c := HL TB.den (hsV k1s.res (hsOs k1s.post))
noncomputable def k5f : Cx TB := ⟨inf, [kl6, kqq], [], 4⟩
noncomputable def k9t : Code := Try.f43.body.getD .skip
noncomputable def kcp : List ResultVar := Try.f43.results.toList
noncomputable def k1be (o : k7c) : Exit → TSt TB.den → Prop := thenT TB (fun s => ghs TB [] s fun s => WP TB k5f 71 0 (cB (cB (cB k9t))) .no s (retTQ TB k5f k1s kcp o)) (retTQ TB k5f k1s kcp o)
def k7p : Tm := ⟨[0, 1], [.cells [.d (.int .u64), .d (.int .i64), .d (.int .u64), .d (.int .u64), .d (.int .u64), .d (.sl (.st 1))], .cells [.d (.int .u64), .d (.int .i64), .d (.int .u64), .d (.int .u64), .d (.int .u64), .full (.st 1)]], [1, 2, 12, 13], [.one (.ptr 0 0), .one (.ptr 1 0), .one (.d (.int .i64)), .one (.d (.int .i64))], 2⟩
noncomputable def k1b3 (o : k7c) (nx1 : HL TB.den k7p.hs → Prop) : Exit → TSt TB.den → Prop := thenT TB (fun s => k7p.mat TB 0 s nx1) (blockT TB 0 (k1be o))
noncomputable def kdc (o : k7c) (nx1 : HL TB.den k7p.hs → Prop) (i : HL TB.den k7p.hs) : Prop := WP TB k5f 71 0 (cA (cA (cB (cA (cB (cB k9t)))))) .no (k7p.fill TB i) (k1b3 o nx1)
noncomputable def k1bk (o : k7c) : An TB := .nd [] .no [] (.lp [] k7p (kdc o) fun nx1 => .no)
noncomputable def ku9 (o : k7c) : An TB := .nd [] .no [] (.nd [] .no [] (.nd [] (k1bk o) [] .no))
noncomputable def kj1 (x : kxw) (o : k7c) : Prop := WPh TB k5f 71 0 k9t (ku9 o) (k1s.st TB x) (retTQ TB k5f k1s kcp o)
set_option maxRecDepth 100000 in
theorem k18i (o : k7c) : OblH TB k5f 71 0 k9t (ku9 o) (retTQ TB k5f k1s kcp o) :=
  OblH.of_eq (X := (True ∧ (True ∧ ((True ∧ ((∀ nx i, (kdc o) nx i = (kdc o) nx i) ∧ ∀ nx1 : HL TB.den k7p.hs → Prop, (True ∧ ((True ∧ True) ∧ ((True ∧ (True ∧ (True ∧ (True ∧ ((True ∧ True) ∧ True))))) ∧ True))))) ∧ (True ∧ True))))) (by kernel_rfl) ⟨trivial, ⟨trivial, ⟨⟨trivial, ⟨fun _ _ => rfl, fun _ => ⟨trivial, ⟨⟨trivial, trivial⟩, ⟨⟨trivial, ⟨trivial, ⟨trivial, ⟨trivial, ⟨⟨trivial, trivial⟩, trivial⟩⟩⟩⟩⟩, trivial⟩⟩⟩⟩⟩, ⟨trivial, trivial⟩⟩⟩⟩
set_option maxRecDepth 100000 in
theorem k1ax {x : kxw} {o : k7c} (h : kj1 x o) : SoundH Try.prog k1s.f ((k1s.args idf x).map (er TB)) ((k1s.obs idf x).map (erO TB)) (er TB (k1s.val idf o)) ((k1s.ops idf o).map (erO TB)) :=
  Con.soundH (c := k1s) (C := k5f) TBok ⟨inf_ok, (all_cons kzw (all_cons k18t all_nil)), all_nil⟩ mix Try.func43 (show Try.f43.body = some k9t by kernel_rfl) (show Try.f43.ntmps = 71 by kernel_rfl) (show Try.f43.results.toList = kcp by kernel_rfl) rfl h (k18i o)
set_option maxRecDepth 100000 in
theorem k1ca {p0 : TBlock} {r0 : TBlock} (h :
((p0.Txs.length ≤ 4294967295) ∧ Md.Loop (((p0.Txs.length : Int) : Int), (0 : Int), p0.Parent, p0.Height, p0.Miner, p0.Work, p0.Nonce, p0.Txs, (0 : Int), (0 : Int), (0 : Int), (0 : Int), (0 : Int), (([] : List TTx) : List TTx), ()) (kdc (r0.Parent, r0.Height, r0.Miner, r0.Work, r0.Nonce, r0.Txs, ())))) : kj1 (p0.Parent, p0.Height, p0.Miner, p0.Work, p0.Nonce, p0.Txs, ()) (r0.Parent, r0.Height, r0.Miner, r0.Work, r0.Nonce, r0.Txs, ()) := WPh.of_eq (by kernel_rfl) h
def kv8 (r0 : TBlock) (k1 : Prop) (s12 : Int) (s13 : Int) (h0_0 : Int) (h0_1 : Int) (h0_2 : Int) (h0_3 : Int) (h0_4 : Int) (h0_5 : List TTx) (h1_0 : Int) (h1_1 : Int) (h1_2 : Int) (h1_3 : Int) (h1_4 : Int) (h1_5 : List TTx) : Prop :=
(decide (s13 < s12) = true →
(0 ≤ s13) ∧ s13 < (h0_5.length : Int) ∧ (((ix h0_5 s13).Marks).length ≤ 4294967295) ∧ False) ∧
(decide (s13 < s12) = false →
 h0_0 = r0.Parent ∧ h0_1 = r0.Height ∧ h0_2 = r0.Miner ∧ h0_3 = r0.Work ∧ h0_4 = r0.Nonce ∧ h0_5 = r0.Txs)
set_option maxRecDepth 100000 in
theorem k1a3 {r0 : TBlock} {s12 : Int} {s13 : Int} {h0_0 : Int} {h0_1 : Int} {h0_2 : Int} {h0_3 : Int} {h0_4 : Int} {h0_5 : List TTx} {h1_0 : Int} {h1_1 : Int} {h1_2 : Int} {h1_3 : Int} {h1_4 : Int} {h1_5 : List TTx} (inv : Prop) (μ : Nat) (h0 : inv) (hs : inv → kv8 r0 (inv ∧ μ < μ) s12 s13 h0_0 h0_1 h0_2 h0_3 h0_4 h0_5 h1_0 h1_1 h1_2 h1_3 h1_4 h1_5) : Md.Loop (s12, s13, h0_0, h0_1, h0_2, h0_3, h0_4, h0_5, h1_0, h1_1, h1_2, h1_3, h1_4, h1_5, ()) (kdc (r0.Parent, r0.Height, r0.Miner, r0.Work, r0.Nonce, r0.Txs, ())) :=
  ⟨⟨fun s : Int × Int × Int × Int × Int × Int × Int × (List TTx) × Int × Int × Int × Int × Int × (List TTx) × Unit => (s.1 = s12 ∧ s.2.1 = s13 ∧ s.2.2.1 = h0_0 ∧ s.2.2.2.1 = h0_1 ∧ s.2.2.2.2.1 = h0_2 ∧ s.2.2.2.2.2.1 = h0_3 ∧ s.2.2.2.2.2.2.1 = h0_4 ∧ s.2.2.2.2.2.2.2.1 = h0_5 ∧ s.2.2.2.2.2.2.2.2.1 = h1_0 ∧ s.2.2.2.2.2.2.2.2.2.1 = h1_1 ∧ s.2.2.2.2.2.2.2.2.2.2.1 = h1_2 ∧ s.2.2.2.2.2.2.2.2.2.2.2.1 = h1_3 ∧ s.2.2.2.2.2.2.2.2.2.2.2.2.1 = h1_4 ∧ s.2.2.2.2.2.2.2.2.2.2.2.2.2.1 = h1_5) ∧ inv, fun s : Int × Int × Int × Int × Int × Int × Int × (List TTx) × Int × Int × Int × Int × Int × (List TTx) × Unit => μ, ⟨⟨rfl, rfl, rfl, rfl, rfl, rfl, rfl, rfl, rfl, rfl, rfl, rfl, rfl, rfl⟩, h0⟩, fun (s12p, s13p, h0_0p, h0_1p, h0_2p, h0_3p, h0_4p, h0_5p, h1_0p, h1_1p, h1_2p, h1_3p, h1_4p, h1_5p, ()) ⟨⟨eq0, eq1, eq2, eq3, eq4, eq5, eq6, eq7, eq8, eq9, eq10, eq11, eq12, eq13⟩, hi⟩ => by
    have eq0 : s12p = s12 := eq0; subst s12p; have eq1 : s13p = s13 := eq1; subst s13p; have eq2 : h0_0p = h0_0 := eq2; subst h0_0p; have eq3 : h0_1p = h0_1 := eq3; subst h0_1p; have eq4 : h0_2p = h0_2 := eq4; subst h0_2p; have eq5 : h0_3p = h0_3 := eq5; subst h0_3p; have eq6 : h0_4p = h0_4 := eq6; subst h0_4p; have eq7 : h0_5p = h0_5 := eq7; subst h0_5p; have eq8 : h1_0p = h1_0 := eq8; subst h1_0p; have eq9 : h1_1p = h1_1 := eq9; subst h1_1p; have eq10 : h1_2p = h1_2 := eq10; subst h1_2p; have eq11 : h1_3p = h1_3 := eq11; subst h1_3p; have eq12 : h1_4p = h1_4 := eq12; subst h1_4p; have eq13 : h1_5p = h1_5 := eq13; subst h1_5p; exact mpr_of (by kernel_rfl) ((congrArg (fun k => kv8 r0 k s12 s13 h0_0 h0_1 h0_2 h0_3 h0_4 h0_5 h1_0 h1_1 h1_2 h1_3 h1_4 h1_5) (lpk0 (⟨rfl, rfl, rfl, rfl, rfl, rfl, rfl, rfl, rfl, rfl, rfl, rfl, rfl, rfl⟩ : s12 = s12 ∧ s13 = s13 ∧ h0_0 = h0_0 ∧ h0_1 = h0_1 ∧ h0_2 = h0_2 ∧ h0_3 = h0_3 ∧ h0_4 = h0_4 ∧ h0_5 = h0_5 ∧ h1_0 = h1_0 ∧ h1_1 = h1_1 ∧ h1_2 = h1_2 ∧ h1_3 = h1_3 ∧ h1_4 = h1_4 ∧ h1_5 = h1_5) inv (μ < μ))).mpr (hs hi))⟩⟩
theorem bd43 : Callable Try.prog 43 := ⟨by rw [Try.func43]; kernel_rfl, by rw [Try.func43]; show some _ ≠ some _; decide⟩
theorem k155 (p0 : TBlock) (h : p0.Txs = []) : kj1 (p0.Parent, p0.Height, p0.Miner, p0.Work, p0.Nonce, p0.Txs, ()) ((p0.Parent : Int), (p0.Height : Int), (p0.Miner : Int), (p0.Work : Int), (p0.Nonce : Int), (p0.Txs : List TTx), ()) := by
  refine k1ca ⟨by rw [h]; decide, k1a3 True 0 trivial fun _ => ⟨fun hh => ?_, fun _ => ⟨rfl, rfl, rfl, rfl, rfl, rfl⟩⟩⟩
  have hh := of_decide_eq_true hh
  rw [h] at hh
  exact absurd hh (by decide)
noncomputable def krh : Con TB.den := k1s.fnR (fun x => (fun (p0 : TBlock) => p0.Txs = []) (TBlock.mk x.1 x.2.1 x.2.2.1 x.2.2.2.1 x.2.2.2.2.1 x.2.2.2.2.2.1)) fun x => ((fun (p0 : TBlock) => (p0.Parent : Int)) (TBlock.mk x.1 x.2.1 x.2.2.1 x.2.2.2.1 x.2.2.2.2.1 x.2.2.2.2.2.1), (fun (p0 : TBlock) => (p0.Height : Int)) (TBlock.mk x.1 x.2.1 x.2.2.1 x.2.2.2.1 x.2.2.2.2.1 x.2.2.2.2.2.1), (fun (p0 : TBlock) => (p0.Miner : Int)) (TBlock.mk x.1 x.2.1 x.2.2.1 x.2.2.2.1 x.2.2.2.2.1 x.2.2.2.2.2.1), (fun (p0 : TBlock) => (p0.Work : Int)) (TBlock.mk x.1 x.2.1 x.2.2.1 x.2.2.2.1 x.2.2.2.2.1 x.2.2.2.2.2.1), (fun (p0 : TBlock) => (p0.Nonce : Int)) (TBlock.mk x.1 x.2.1 x.2.2.1 x.2.2.2.1 x.2.2.2.2.1 x.2.2.2.2.2.1), (fun (p0 : TBlock) => (p0.Txs : List TTx)) (TBlock.mk x.1 x.2.1 x.2.2.1 x.2.2.2.1 x.2.2.2.2.1 x.2.2.2.2.2.1), ())
theorem k1b9 : krh.Ok Try.prog TB := Con.ok_fn k1s bd43 fun x h => k1ax (k155 (TBlock.mk x.1 x.2.1 x.2.2.1 x.2.2.2.1 x.2.2.2.2.1 x.2.2.2.2.2.1) h)
end Go.Proofs.Ytnmakgfmimagmaa
namespace Go.Proofs.Ytnmakgfmimagmaa
open Go Go.Bv Go.Cv Go.Md Go.RowKit
def k2b : Con TB.den := Con.mk0 92 [.agg [.d (.int .u64)]] [] (.one (.one (.d (.bool)))) []
abbrev kyf := HL TB.den (hsT k2b.ins (hsOs k2b.pre))
abbrev kiv := HL TB.den (hsV k2b.res (hsOs k2b.post))
noncomputable def kcx : Cx TB := ⟨inf, [], [], 4⟩
noncomputable def kji : Code := Try.f92.body.getD .skip
noncomputable def kme : List ResultVar := Try.f92.results.toList
noncomputable def kve (o : kiv) : An TB := .no
noncomputable def kj9 (x : kyf) (o : kiv) : Prop := WPh TB kcx 13 0 kji (kve o) (k2b.st TB x) (retTQ TB kcx k2b kme o)
set_option maxRecDepth 100000 in
theorem k183 (o : kiv) : OblH TB kcx 13 0 kji (kve o) (retTQ TB kcx k2b kme o) :=
  OblH.of_eq (X := (True ∧ ((True ∧ ((True ∧ (True ∧ (True ∧ (True ∧ (True ∧ (True ∧ (True ∧ (True ∧ (True ∧ (True ∧ (True ∧ (True ∧ True)))))))))))) ∧ ((True ∧ True) ∧ True))) ∧ (True ∧ True)))) (by kernel_rfl) ⟨trivial, ⟨⟨trivial, ⟨⟨trivial, ⟨trivial, ⟨trivial, ⟨trivial, ⟨trivial, ⟨trivial, ⟨trivial, ⟨trivial, ⟨trivial, ⟨trivial, ⟨trivial, ⟨trivial, trivial⟩⟩⟩⟩⟩⟩⟩⟩⟩⟩⟩⟩, ⟨⟨trivial, trivial⟩, trivial⟩⟩⟩, ⟨trivial, trivial⟩⟩⟩
set_option maxRecDepth 100000 in
theorem k19b {x : kyf} {o : kiv} (h : kj9 x o) : SoundH Try.prog k2b.f ((k2b.args idf x).map (er TB)) ((k2b.obs idf x).map (erO TB)) (er TB (k2b.val idf o)) ((k2b.ops idf o).map (erO TB)) :=
  Con.soundH (c := k2b) (C := kcx) TBok ⟨inf_ok, all_nil, all_nil⟩ mix Try.func92 (show Try.f92.body = some kji by kernel_rfl) (show Try.f92.ntmps = 13 by kernel_rfl) (show Try.f92.results.toList = kme by kernel_rfl) rfl h (k183 o)
set_option maxRecDepth 100000 in
theorem k1c4 {p0 : TField} {r0 : Bool} (h :
(((p0.P == 18446744069414584321) = true →
((p0.P == 18446744069414584321) = true →
 true = r0) ∧
((p0.P == 18446744069414584321) = false →
 false = r0)) ∧
((p0.P == 18446744069414584321) = false →
((p0.P == 17) = true →
((p0.P == 17) = true →
 true = r0) ∧
((p0.P == 17) = false →
 false = r0)) ∧
((p0.P == 17) = false →
((p0.P == 97) = true →
((p0.P == 97) = true →
 true = r0) ∧
((p0.P == 97) = false →
 false = r0)) ∧
((p0.P == 97) = false →
((p0.P == 193) = true →
((p0.P == 193) = true →
 true = r0) ∧
((p0.P == 193) = false →
 false = r0)) ∧
((p0.P == 193) = false →
((p0.P == 257) = true →
((p0.P == 257) = true →
 true = r0) ∧
((p0.P == 257) = false →
 false = r0)) ∧
((p0.P == 257) = false →
((p0.P == 12289) = true →
((p0.P == 12289) = true →
 true = r0) ∧
((p0.P == 12289) = false →
 false = r0)) ∧
((p0.P == 12289) = false →
((p0.P == 65537) = true →
 true = r0) ∧
((p0.P == 65537) = false →
 false = r0))))))))) : kj9 (p0.P, ()) (r0, ()) := WPh.of_eq (by kernel_rfl) h
theorem bd92 : Callable Try.prog 92 := ⟨by rw [Try.func92]; kernel_rfl, by rw [Try.func92]; show some _ ≠ some _; decide⟩
theorem k160 (p0 : TField) (h : p0.P = 18446744069414584321) : kj9 (p0.P, ()) ((true : Bool), ()) := by
  refine k1c4 ?_
  simp [h]
noncomputable def k73 : Con TB.den := k2b.fnR (fun x => (fun (p0 : TField) => p0.P = 18446744069414584321) (TField.mk x.1)) fun x => ((fun (p0 : TField) => (true : Bool)) (TField.mk x.1), ())
theorem k9k : k73.Ok Try.prog TB := Con.ok_fn k2b bd92 fun x h => k19b (k160 (TField.mk x.1) h)
end Go.Proofs.Ytnmakgfmimagmaa
namespace Go.Proofs.Ytnmakgfmimagmaa
open Go Go.Bv Go.Cv Go.Md Go.RowKit
def k2o : Con TB.den := Con.mk0 107 [.agg [.d (.int .u64)], .one (.d (.int .u64)), .one (.d (.int .u64))] [] (.one (.one (.d (.int .u64)))) []
abbrev k13t := HL TB.den (hsT k2o.ins (hsOs k2o.pre))
abbrev k9c := HL TB.den (hsV k2o.res (hsOs k2o.post))
noncomputable def k6x : Cx TB := ⟨inf, [], [x116], 4⟩
noncomputable def kcl : Code := Try.f107.body.getD .skip
noncomputable def kgo : List ResultVar := Try.f107.results.toList
noncomputable def k1iy (o : k9c) : Exit → TSt TB.den → Prop := thenT TB (fun s => ghs TB [] s fun s => WP TB k6x 28 0 (cB (cB (cB kcl))) .no s (retTQ TB k6x k2o kgo o)) (retTQ TB k6x k2o kgo o)
def kij : Tm := ⟨[0], [.cells [.d (.int .u64)]], [3, 7, 22], [.one (.ptr 0 0), .one (.d (.int .u64)), .one (.d (.bool))], 1⟩
noncomputable def kxd (o : k9c) (i : HL TB.den kij.hs) : Prop := ghs TB [] (kij.fill TB i) fun s => WP TB k6x 28 0 (cB (cA (cB (cB kcl)))) .no s (k1iy o)
structure kgd (o : k9c) (i : HL TB.den kij.hs) : Prop where
  h : kxd o i
noncomputable def k1lw (o : k9c) : An TB := .nd [] (.jn kij (kgd o) [] .no [] .no) [] .no
noncomputable def k10k (o : k9c) : An TB := .nd [] .no [] (.nd [] .no [] (k1lw o))
noncomputable def kmu (x : k13t) (o : k9c) : Prop := WPh TB k6x 28 0 kcl (k10k o) (k2o.st TB x) (retTQ TB k6x k2o kgo o)
set_option maxRecDepth 100000 in
theorem k1i1 (o : k9c) : OblH TB k6x 28 0 kcl (k10k o) (retTQ TB k6x k2o kgo o) :=
  OblH.of_eq (X := (True ∧ (True ∧ ((True ∧ (∀ i, (kgd o) i = (kxd o) i) ∧ (True ∧ True)) ∧ (True ∧ True))))) (by kernel_rfl) ⟨trivial, ⟨trivial, ⟨⟨trivial, fun _ => propext ⟨fun h => h.1, fun h => ⟨h⟩⟩, ⟨trivial, trivial⟩⟩, ⟨trivial, trivial⟩⟩⟩⟩
set_option maxRecDepth 100000 in
theorem k1gx {x : k13t} {o : k9c} (h : kmu x o) : SoundH Try.prog k2o.f ((k2o.args idf x).map (er TB)) ((k2o.obs idf x).map (erO TB)) (er TB (k2o.val idf o)) ((k2o.ops idf o).map (erO TB)) :=
  Con.soundH (c := k2o) (C := k6x) TBok ⟨inf_ok, all_nil, (all_cons x116_ok all_nil)⟩ mix Try.func107 (show Try.f107.body = some kcl by kernel_rfl) (show Try.f107.ntmps = 28 by kernel_rfl) (show Try.f107.results.toList = kgo by kernel_rfl) rfl h (k1i1 o)
set_option maxRecDepth 100000 in
theorem k1kr {p0 : TField} {p1 : Int} {p2 : Int} {r0 : Int} (h :
((0 ≤ p1 ∧ 0 ≤ p2 ∧ 0 ≤ (0 : Int) ∧ (0 : Int) ≤ 1) ∧ let r1 : Int := (p1 + p2 + (0 : Int)) % 18446744073709551616
 let r2 : Int := (p1 + p2 + (0 : Int)) / 18446744073709551616
((r2 != 0) = true →
 kgd (r0, ()) (r1, true, p0.P, ())) ∧
((r2 != 0) = false →
 kgd (r0, ()) (r1, (decide (p0.P ≤ r1) : Bool), p0.P, ())))) : kmu (p0.P, p1, p2, ()) (r0, ()) := WPh.of_eq (by kernel_rfl) h
set_option maxRecDepth 100000 in
theorem ksr {r0 : Int} {s7 : Int} {s22 : Bool} {h0_0 : Int} (h :
((s22 = true →
 IntKind.u64.wrap (s7 - h0_0) = r0) ∧
(s22 = false →
 s7 = r0))) : kgd (r0, ()) (s7, s22, h0_0, ()) := ⟨mpr_of (by kernel_rfl) h⟩
theorem bd107 : Callable Try.prog 107 := ⟨by rw [Try.func107]; kernel_rfl, by rw [Try.func107]; show some _ ≠ some _; decide⟩
theorem k1bo (p0 : TField) (p1 : Int) (p2 : Int) (h : p0.P = 18446744069414584321 ∧ (0 ≤ p1 ∧ p1 < 18446744069414584321) ∧ (0 ≤ p2 ∧ p2 < 18446744069414584321)) : kmu (p0.P, p1, p2, ()) (((p1 + p2) % 18446744069414584321 : Int), ()) := by
  obtain ⟨hP, h1, h2⟩ := h
  refine k1kr ⟨by omega, ?_, ?_⟩
  · intro h
    refine ksr ⟨fun _ => ?_, fun h => by simp at h⟩
    have h : (p1 + p2 + 0) / 18446744073709551616 ≠ 0 := by simpa using h
    rw [hP, u64w]; omega
  · intro h
    have h : (p1 + p2 + 0) / 18446744073709551616 = 0 := by simpa using h
    refine ksr ⟨fun g => ?_, fun g => ?_⟩
    · have g := of_decide_eq_true g
      rw [hP] at g ⊢
      rw [u64w]; omega
    · have g := of_decide_eq_false g
      rw [hP] at g
      omega
noncomputable def kx8 : Con TB.den := k2o.fnR (fun x => (fun (p0 : TField) (p1 : Int) (p2 : Int) => p0.P = 18446744069414584321 ∧ (0 ≤ p1 ∧ p1 < 18446744069414584321) ∧ (0 ≤ p2 ∧ p2 < 18446744069414584321)) (TField.mk x.1) x.2.1 x.2.2.1) fun x => ((fun (p0 : TField) (p1 : Int) (p2 : Int) => ((p1 + p2) % 18446744069414584321 : Int)) (TField.mk x.1) x.2.1 x.2.2.1, ())
theorem k1jj : kx8.Ok Try.prog TB := Con.ok_fn k2o bd107 fun x h => k1gx (k1bo (TField.mk x.1) x.2.1 x.2.2.1 h)
end Go.Proofs.Ytnmakgfmimagmaa
namespace Go.Proofs.Ytnmakgfmimagmaa
open Go Go.Bv Go.Cv Go.Md Go.RowKit
def k1n : Con TB.den := Con.mk0 108 [.agg [.d (.int .u64)], .one (.d (.int .u64))] [] (.one (.one (.d (.int .u64)))) []
abbrev kso := HL TB.den (hsT k1n.ins (hsOs k1n.pre))
abbrev kf1 := HL TB.den (hsV k1n.res (hsOs k1n.post))
noncomputable def k9z : Cx TB := ⟨inf, [], [], 4⟩
noncomputable def kgi : Code := Try.f108.body.getD .skip
noncomputable def kjn : List ResultVar := Try.f108.results.toList
noncomputable def kqv (o : kf1) : An TB := .no
noncomputable def kgh (x : kso) (o : kf1) : Prop := WPh TB k9z 14 0 kgi (kqv o) (k1n.st TB x) (retTQ TB k9z k1n kjn o)
set_option maxRecDepth 100000 in
theorem k131 (o : kf1) : OblH TB k9z 14 0 kgi (kqv o) (retTQ TB k9z k1n kjn o) :=
  OblH.of_eq (X := (True ∧ ((True ∧ (True ∧ True)) ∧ (True ∧ True)))) (by kernel_rfl) ⟨trivial, ⟨⟨trivial, ⟨trivial, trivial⟩⟩, ⟨trivial, trivial⟩⟩⟩
set_option maxRecDepth 100000 in
theorem k13o {x : kso} {o : kf1} (h : kgh x o) : SoundH Try.prog k1n.f ((k1n.args idf x).map (er TB)) ((k1n.obs idf x).map (erO TB)) (er TB (k1n.val idf o)) ((k1n.ops idf o).map (erO TB)) :=
  Con.soundH (c := k1n) (C := k9z) TBok ⟨inf_ok, all_nil, all_nil⟩ mix Try.func108 (show Try.f108.body = some kgi by kernel_rfl) (show Try.f108.ntmps = 14 by kernel_rfl) (show Try.f108.results.toList = kjn by kernel_rfl) rfl h (k131 o)
set_option maxRecDepth 100000 in
theorem k17l {p0 : TField} {p1 : Int} {r0 : Int} (h :
((decide (p0.P ≤ p1) = true →
(p0.P ≠ 0) ∧ Int.tmod p1 p0.P = r0) ∧
(decide (p0.P ≤ p1) = false →
 p1 = r0))) : kgh (p0.P, p1, ()) (r0, ()) := WPh.of_eq (by kernel_rfl) h
theorem bd108 : Callable Try.prog 108 := ⟨by rw [Try.func108]; kernel_rfl, by rw [Try.func108]; show some _ ≠ some _; decide⟩
theorem k117 (p0 : TField) (p1 : Int) (h : 0 < p0.P ∧ 0 ≤ p1) : kgh (p0.P, p1, ()) ((p1 % p0.P : Int), ()) := by
  refine k17l ⟨fun h1 => ⟨by omega, tmod_nn _ _ h.2⟩, fun h1 => ?_⟩
  simp at h1
  rw [Int.emod_eq_of_lt (by omega) (by omega)]
noncomputable def k95 : Con TB.den := k1n.fnR (fun x => (fun (p0 : TField) (p1 : Int) => 0 < p0.P ∧ 0 ≤ p1) (TField.mk x.1) x.2.1) fun x => ((fun (p0 : TField) (p1 : Int) => (p1 % p0.P : Int)) (TField.mk x.1) x.2.1, ())
theorem kdm : k95.Ok Try.prog TB := Con.ok_fn k1n bd108 fun x h => k13o (k117 (TField.mk x.1) x.2.1 h)
end Go.Proofs.Ytnmakgfmimagmaa
namespace Go.Proofs.Ytnmakgfmimagmaa
open Go Go.Bv Go.Cv Go.Md Go.RowKit
def k3l : Con TB.den := Con.mk0 98 [.agg [.d (.int .u64)], .one (.d (.int .u64)), .one (.d (.int .u64))] [] (.one (.one (.d (.int .u64)))) []
abbrev k14s := HL TB.den (hsT k3l.ins (hsOs k3l.pre))
abbrev kna := HL TB.den (hsV k3l.res (hsOs k3l.post))
noncomputable def kgm : Cx TB := ⟨inf, [k73, k95, kx8], [], 4⟩
noncomputable def kly : Code := Try.f98.body.getD .skip
noncomputable def kqi : List ResultVar := Try.f98.results.toList
noncomputable def kzv (o : kna) : An TB := .no
noncomputable def kmr (x : k14s) (o : kna) : Prop := WPh TB kgm 18 0 kly (kzv o) (k3l.st TB x) (retTQ TB kgm k3l kqi o)
set_option maxRecDepth 100000 in
theorem k1gw (o : kna) : OblH TB kgm 18 0 kly (kzv o) (retTQ TB kgm k3l kqi o) :=
  OblH.of_eq (X := (True ∧ ((True ∧ ((True ∧ True) ∧ True)) ∧ (True ∧ True)))) (by kernel_rfl) ⟨trivial, ⟨⟨trivial, ⟨⟨trivial, trivial⟩, trivial⟩⟩, ⟨trivial, trivial⟩⟩⟩
set_option maxRecDepth 100000 in
theorem k1h6 {x : k14s} {o : kna} (h : kmr x o) : SoundH Try.prog k3l.f ((k3l.args idf x).map (er TB)) ((k3l.obs idf x).map (erO TB)) (er TB (k3l.val idf o)) ((k3l.ops idf o).map (erO TB)) :=
  Con.soundH (c := k3l) (C := kgm) TBok ⟨inf_ok, (all_cons k9k (all_cons kdm (all_cons k1jj all_nil))), all_nil⟩ mix Try.func98 (show Try.f98.body = some kly by kernel_rfl) (show Try.f98.ntmps = 18 by kernel_rfl) (show Try.f98.results.toList = kqi by kernel_rfl) rfl h (k1gw o)
set_option maxRecDepth 100000 in
theorem k1iv {p0 : TField} {p1 : Int} {p2 : Int} {r0 : Int} (h :
((p0.P = 18446744069414584321) ∧ ((!true) = true →
 0 = r0) ∧
((!true) = false →
(0 < p0.P ∧ 0 ≤ p1) ∧ (0 < p0.P ∧ 0 ≤ p2) ∧ (p0.P = 18446744069414584321 ∧ (0 ≤ (p1 % p0.P) ∧ (p1 % p0.P) < 18446744069414584321) ∧ (0 ≤ (p2 % p0.P) ∧ (p2 % p0.P) < 18446744069414584321)) ∧ let r1 : Int := ((p1 % p0.P) + (p2 % p0.P)) % 18446744069414584321
 r1 = r0))) : kmr (p0.P, p1, p2, ()) (r0, ()) := WPh.of_eq (by kernel_rfl) h
theorem bd98 : Callable Try.prog 98 := ⟨by rw [Try.func98]; kernel_rfl, by rw [Try.func98]; show some _ ≠ some _; decide⟩
theorem k1c7 (p0 : TField) (p1 : Int) (p2 : Int) (h : p0.P = 18446744069414584321 ∧ U64 p1 ∧ U64 p2) : kmr (p0.P, p1, p2, ()) (((p1 + p2) % 18446744069414584321 : Int), ()) := by
  obtain ⟨hP, h1, h2⟩ := h
  refine k1iv ⟨hP, ?_⟩
  simp only [hP]
  refine ⟨fun h => by simp at h, fun _ => ⟨by omega, by omega, ⟨by trivial, by omega, by omega⟩, ?_⟩⟩
  omega
noncomputable def kiw : Con TB.den := k3l.fnR (fun x => (fun (p0 : TField) (p1 : Int) (p2 : Int) => p0.P = 18446744069414584321 ∧ U64 p1 ∧ U64 p2) (TField.mk x.1) x.2.1 x.2.2.1) fun x => ((fun (p0 : TField) (p1 : Int) (p2 : Int) => ((p1 + p2) % 18446744069414584321 : Int)) (TField.mk x.1) x.2.1 x.2.2.1, ())
theorem kq3 : kiw.Ok Try.prog TB := Con.ok_fn k3l bd98 fun x h => k1h6 (k1c7 (TField.mk x.1) x.2.1 x.2.2.1 h)
end Go.Proofs.Ytnmakgfmimagmaa
namespace Go.Proofs.Ytnmakgfmimagmaa
open Go Go.Bv Go.Cv Go.Md Go.RowKit
def k1v : Con TB.den := Con.mk0 120 [.one (.d (.int .u64))] [] (.one (.one (.d (.int .i64)))) []
abbrev k10q := HL TB.den (hsT k1v.ins (hsOs k1v.pre))
abbrev k4s := HL TB.den (hsV k1v.res (hsOs k1v.post))
noncomputable def k4w : Cx TB := ⟨inf, [], [], 4⟩
noncomputable def k8l : Code := Try.f120.body.getD .skip
noncomputable def kaw : List ResultVar := Try.f120.results.toList
def kcs : Tm := ⟨[], [], [0, 2], [.one (.d (.int .u64)), .one (.d (.int .i64))], 0⟩
noncomputable def kvg (o : k4s) (i : HL TB.den kcs.hs) : Prop := ghs TB [] (kcs.fill TB i) fun s => WP TB k4w 25 0 (cB (cB (cB (cB k8l)))) .no s (retTQ TB k4w k1v kaw o)
structure k8y (o : k4s) (i : HL TB.den kcs.hs) : Prop where
  h : kvg o i
def kh9 : Tm := ⟨[], [], [0, 2], [.one (.d (.int .u64)), .one (.d (.int .i64))], 0⟩
noncomputable def ktp (o : k4s) (i : HL TB.den kh9.hs) : Prop := ghs TB [] (kh9.fill TB i) fun s => WP TB k4w 25 0 (cB (cB (cB k8l))) (.jn kcs (k8y o) [] .no [] .no) s (retTQ TB k4w k1v kaw o)
structure kau (o : k4s) (i : HL TB.den kh9.hs) : Prop where
  h : ktp o i
noncomputable def ky9 (o : k4s) : An TB := .jn kh9 (kau o) [] .no [] (.jn kcs (k8y o) [] .no [] .no)
def khb : Tm := ⟨[], [], [0, 2], [.one (.d (.int .u64)), .one (.d (.int .i64))], 0⟩
noncomputable def kvh (o : k4s) (i : HL TB.den khb.hs) : Prop := ghs TB [] (khb.fill TB i) fun s => WP TB k4w 25 0 (cB (cB k8l)) (ky9 o) s (retTQ TB k4w k1v kaw o)
structure kaz (o : k4s) (i : HL TB.den khb.hs) : Prop where
  h : kvh o i
noncomputable def k1h9 (o : k4s) : An TB := .jn khb (kaz o) [] .no [] (ky9 o)
noncomputable def kx2 (o : k4s) : An TB := .nd [] .no [] (k1h9 o)
noncomputable def kkk (x : k10q) (o : k4s) : Prop := WPh TB k4w 25 0 k8l (kx2 o) (k1v.st TB x) (retTQ TB k4w k1v kaw o)
set_option maxRecDepth 100000 in
theorem k1c5 (o : k4s) : OblH TB k4w 25 0 k8l (kx2 o) (retTQ TB k4w k1v kaw o) :=
  OblH.of_eq (X := (True ∧ ((True ∧ ((True ∧ True) ∧ True)) ∧ (∀ i, (kaz o) i = (kvh o) i) ∧ ((True ∧ ((True ∧ True) ∧ True)) ∧ (∀ i, (kau o) i = (ktp o) i) ∧ ((True ∧ ((True ∧ True) ∧ True)) ∧ (∀ i, (k8y o) i = (kvg o) i) ∧ (True ∧ True)))))) (by kernel_rfl) ⟨trivial, ⟨⟨trivial, ⟨⟨trivial, trivial⟩, trivial⟩⟩, fun _ => propext ⟨fun h => h.1, fun h => ⟨h⟩⟩, ⟨⟨trivial, ⟨⟨trivial, trivial⟩, trivial⟩⟩, fun _ => propext ⟨fun h => h.1, fun h => ⟨h⟩⟩, ⟨⟨trivial, ⟨⟨trivial, trivial⟩, trivial⟩⟩, fun _ => propext ⟨fun h => h.1, fun h => ⟨h⟩⟩, ⟨trivial, trivial⟩⟩⟩⟩⟩
set_option maxRecDepth 100000 in
theorem k1c2 {x : k10q} {o : k4s} (h : kkk x o) : SoundH Try.prog k1v.f ((k1v.args idf x).map (er TB)) ((k1v.obs idf x).map (erO TB)) (er TB (k1v.val idf o)) ((k1v.ops idf o).map (erO TB)) :=
  Con.soundH (c := k1v) (C := k4w) TBok ⟨inf_ok, all_nil, all_nil⟩ mix Try.func120 (show Try.f120.body = some k8l by kernel_rfl) (show Try.f120.ntmps = 25 by kernel_rfl) (show Try.f120.results.toList = kaw by kernel_rfl) rfl h (k1c5 o)
set_option maxRecDepth 100000 in
theorem k1ft {p0 : Int} {r0 : Int} (h :
((decide (4294967296 ≤ p0) = true →
 kaz (r0, ()) ((ishr .u64 p0 32 : Int), (32 : Int), ())) ∧
(decide (4294967296 ≤ p0) = false →
 kaz (r0, ()) (p0, (0 : Int), ())))) : kkk (p0, ()) (r0, ()) := WPh.of_eq (by kernel_rfl) h
set_option maxRecDepth 100000 in
theorem k15r {r0 : Int} {s0 : Int} {s2 : Int} (h :
((decide (65536 ≤ s0) = true →
 kau (r0, ()) ((ishr .u64 s0 16 : Int), (IntKind.i64.wrap (s2 + 16) : Int), ())) ∧
(decide (65536 ≤ s0) = false →
 kau (r0, ()) (s0, s2, ())))) : kaz (r0, ()) (s0, s2, ()) := ⟨mpr_of (by kernel_rfl) h⟩
set_option maxRecDepth 100000 in
theorem k16c {r0 : Int} {s0 : Int} {s2 : Int} (h :
((decide (256 ≤ s0) = true →
 k8y (r0, ()) ((ishr .u64 s0 8 : Int), (IntKind.i64.wrap (s2 + 8) : Int), ())) ∧
(decide (256 ≤ s0) = false →
 k8y (r0, ()) (s0, s2, ())))) : kau (r0, ()) (s0, s2, ()) := ⟨mpr_of (by kernel_rfl) h⟩
set_option maxRecDepth 100000 in
theorem k17p {r0 : Int} {s0 : Int} {s2 : Int} (h :
((0 ≤ IntKind.u8.wrap s0 ∧ IntKind.u8.wrap s0 < ((⟨#[0, 1, 2, 2, 3, 3, 3, 3, 4, 4, 4, 4, 4, 4, 4, 4, 5, 5, 5, 5, 5, 5, 5, 5, 5, 5, 5, 5, 5, 5, 5, 5, 6, 6, 6, 6, 6, 6, 6, 6, 6, 6, 6, 6, 6, 6, 6, 6, 6, 6, 6, 6, 6, 6, 6, 6, 6, 6, 6, 6, 6, 6, 6, 6, 7, 7, 7, 7, 7, 7, 7, 7, 7, 7, 7, 7, 7, 7, 7, 7, 7, 7, 7, 7, 7, 7, 7, 7, 7, 7, 7, 7, 7, 7, 7, 7, 7, 7, 7, 7, 7, 7, 7, 7, 7, 7, 7, 7, 7, 7, 7, 7, 7, 7, 7, 7, 7, 7, 7, 7, 7, 7, 7, 7, 7, 7, 7, 7, 8, 8, 8, 8, 8, 8, 8, 8, 8, 8, 8, 8, 8, 8, 8, 8, 8, 8, 8, 8, 8, 8, 8, 8, 8, 8, 8, 8, 8, 8, 8, 8, 8, 8, 8, 8, 8, 8, 8, 8, 8, 8, 8, 8, 8, 8, 8, 8, 8, 8, 8, 8, 8, 8, 8, 8, 8, 8, 8, 8, 8, 8, 8, 8, 8, 8, 8, 8, 8, 8, 8, 8, 8, 8, 8, 8, 8, 8, 8, 8, 8, 8, 8, 8, 8, 8, 8, 8, 8, 8, 8, 8, 8, 8, 8, 8, 8, 8, 8, 8, 8, 8, 8, 8, 8, 8, 8, 8, 8, 8, 8, 8, 8, 8, 8, 8, 8, 8, 8, 8, 8, 8, 8, 8, 8, 8, 8, 8]⟩ : ByteArray).size : Int)) ∧ let v1 : Int := byteAt (⟨#[0, 1, 2, 2, 3, 3, 3, 3, 4, 4, 4, 4, 4, 4, 4, 4, 5, 5, 5, 5, 5, 5, 5, 5, 5, 5, 5, 5, 5, 5, 5, 5, 6, 6, 6, 6, 6, 6, 6, 6, 6, 6, 6, 6, 6, 6, 6, 6, 6, 6, 6, 6, 6, 6, 6, 6, 6, 6, 6, 6, 6, 6, 6, 6, 7, 7, 7, 7, 7, 7, 7, 7, 7, 7, 7, 7, 7, 7, 7, 7, 7, 7, 7, 7, 7, 7, 7, 7, 7, 7, 7, 7, 7, 7, 7, 7, 7, 7, 7, 7, 7, 7, 7, 7, 7, 7, 7, 7, 7, 7, 7, 7, 7, 7, 7, 7, 7, 7, 7, 7, 7, 7, 7, 7, 7, 7, 7, 7, 8, 8, 8, 8, 8, 8, 8, 8, 8, 8, 8, 8, 8, 8, 8, 8, 8, 8, 8, 8, 8, 8, 8, 8, 8, 8, 8, 8, 8, 8, 8, 8, 8, 8, 8, 8, 8, 8, 8, 8, 8, 8, 8, 8, 8, 8, 8, 8, 8, 8, 8, 8, 8, 8, 8, 8, 8, 8, 8, 8, 8, 8, 8, 8, 8, 8, 8, 8, 8, 8, 8, 8, 8, 8, 8, 8, 8, 8, 8, 8, 8, 8, 8, 8, 8, 8, 8, 8, 8, 8, 8, 8, 8, 8, 8, 8, 8, 8, 8, 8, 8, 8, 8, 8, 8, 8, 8, 8, 8, 8, 8, 8, 8, 8, 8, 8, 8, 8, 8, 8, 8, 8, 8, 8, 8, 8, 8, 8]⟩ : ByteArray) (IntKind.u8.wrap s0)
 let v2 : Int := IntKind.i64.wrap (s2 + (IntKind.i64.wrap v1))
 v2 = r0)) : k8y (r0, ()) (s0, s2, ()) := ⟨mpr_of (by kernel_rfl) h⟩
theorem bd120 : Callable Try.prog 120 := ⟨by rw [Try.func120]; kernel_rfl, by rw [Try.func120]; show some _ ≠ some _; decide⟩
theorem k19a (p0 : Int) (h : U64 p0) : kkk (p0, ()) ((len64 p0 : Int), ()) := by
  have j3 : ∀ s0 s2 : Int, 0 ≤ s0 → s0 < 256 → 0 ≤ s2 → s2 ≤ 56 → k8y (s2 + len64 s0, ()) (s0, s2, ()) := fun s0 s2 h0 h1 h2 h3 => by
    refine k17p ?_
    have e : IntKind.u8.wrap s0 = s0 := by rw [u8w]; omega
    have l := k1n8 s0 ⟨h0, h1⟩
    show (0 ≤ IntKind.u8.wrap s0 ∧ IntKind.u8.wrap s0 < (tab8.size : Int)) ∧ IntKind.i64.wrap (s2 + IntKind.i64.wrap (byteAt tab8 (IntKind.u8.wrap s0))) = _
    rw [e, k1o7, k1l6 s0 ⟨h0, h1⟩, wi (len64 s0) (by omega) (by omega), wi (s2 + len64 s0) (by omega) (by omega)]
    exact ⟨⟨h0, h1⟩, rfl⟩
  have j2 : ∀ s0 s2 : Int, 0 ≤ s0 → s0 < 65536 → 0 ≤ s2 → s2 ≤ 48 → kau (s2 + len64 s0, ()) (s0, s2, ()) := fun s0 s2 h0 h1 h2 h3 => by
    refine k16c ⟨fun h => ?_, fun h => j3 s0 s2 h0 (by simpa using h) h2 (by omega)⟩
    have h := of_decide_eq_true h
    rw [ishr8, wi _ (by omega) (by omega), ← ksw s0 8 (by simpa using h), ← Int.add_assoc, Int.add_right_comm]
    exact j3 _ _ (by omega) (by omega) (by omega) (by omega)
  have j1 : ∀ s0 s2 : Int, 0 ≤ s0 → s0 < 4294967296 → 0 ≤ s2 → s2 ≤ 32 → kaz (s2 + len64 s0, ()) (s0, s2, ()) := fun s0 s2 h0 h1 h2 h3 => by
    refine k15r ⟨fun h => ?_, fun h => j2 s0 s2 h0 (by simpa using h) h2 (by omega)⟩
    have h := of_decide_eq_true h
    rw [ishr16, wi _ (by omega) (by omega), ← ksw s0 16 (by simpa using h), ← Int.add_assoc, Int.add_right_comm]
    exact j2 _ _ (by omega) (by omega) (by omega) (by omega)
  refine k1ft ⟨fun h1 => ?_, fun h1 => ?_⟩
  · have h1 := of_decide_eq_true h1
    rw [ishr32, ← ksw p0 32 (by simpa using h1), Int.add_comm]
    exact j1 _ _ (by omega) (by omega) (by omega) (by omega)
  · have := j1 p0 0 h.1 (by simpa using h1) (by omega) (by omega)
    rwa [Int.zero_add] at this
noncomputable def kv6 : Con TB.den := k1v.fnR (fun x => (fun (p0 : Int) => U64 p0) x.1) fun x => ((fun (p0 : Int) => (len64 p0 : Int)) x.1, ())
theorem k1ex : kv6.Ok Try.prog TB := Con.ok_fn k1v bd120 fun x h => k1c2 (k19a x.1 h)
end Go.Proofs.Ytnmakgfmimagmaa
namespace Go.Proofs.Ytnmakgfmimagmaa
open Go Go.Bv Go.Cv Go.Md Go.RowKit
def kh : Con TB.den := Con.mk0 114 [.one (.d (.int .u64))] [] (.one (.one (.d (.int .i64)))) []
abbrev kjy := HL TB.den (hsT kh.ins (hsOs kh.pre))
abbrev k8k := HL TB.den (hsV kh.res (hsOs kh.post))
noncomputable def k5r : Cx TB := ⟨inf, [kv6], [], 4⟩
noncomputable def ka6 : Code := Try.f114.body.getD .skip
noncomputable def kby : List ResultVar := Try.f114.results.toList
noncomputable def ki6 (o : k8k) : An TB := .no
noncomputable def k9q (x : kjy) (o : k8k) : Prop := WPh TB k5r 6 0 ka6 (ki6 o) (kh.st TB x) (retTQ TB k5r kh kby o)
set_option maxRecDepth 100000 in
theorem kr8 (o : k8k) : OblH TB k5r 6 0 ka6 (ki6 o) (retTQ TB k5r kh kby o) :=
  OblH.of_eq (X := (True ∧ (True ∧ True))) (by kernel_rfl) ⟨trivial, ⟨trivial, trivial⟩⟩
set_option maxRecDepth 100000 in
theorem krc {x : kjy} {o : k8k} (h : k9q x o) : SoundH Try.prog kh.f ((kh.args idf x).map (er TB)) ((kh.obs idf x).map (erO TB)) (er TB (kh.val idf o)) ((kh.ops idf o).map (erO TB)) :=
  Con.soundH (c := kh) (C := k5r) TBok ⟨inf_ok, (all_cons k1ex all_nil), all_nil⟩ mix Try.func114 (show Try.f114.body = some ka6 by kernel_rfl) (show Try.f114.ntmps = 6 by kernel_rfl) (show Try.f114.results.toList = kby by kernel_rfl) rfl h (kr8 o)
set_option maxRecDepth 100000 in
theorem kt3 {p0 : Int} {r0 : Int} (h :
((U64 p0) ∧ IntKind.i64.wrap (64 - (len64 p0)) = r0)) : k9q (p0, ()) (r0, ()) := WPh.of_eq (by kernel_rfl) h
theorem bd114 : Callable Try.prog 114 := ⟨by rw [Try.func114]; kernel_rfl, by rw [Try.func114]; show some _ ≠ some _; decide⟩
theorem kqc (p0 : Int) (h : 0 < p0 ∧ p0 < 18446744073709551616) : k9q (p0, ()) ((64 - len64 p0 : Int), ()) := by
  obtain ⟨s, e, h1, _⟩ := k1ah p0 h
  refine kt3 ⟨⟨by omega, h.2⟩, ?_⟩
  exact wi _ (by omega) (by omega)
noncomputable def khg : Con TB.den := kh.fnR (fun x => (fun (p0 : Int) => 0 < p0 ∧ p0 < 18446744073709551616) x.1) fun x => ((fun (p0 : Int) => (64 - len64 p0 : Int)) x.1, ())
theorem kt4 : khg.Ok Try.prog TB := Con.ok_fn kh bd114 fun x h => krc (kqc x.1 h)
end Go.Proofs.Ytnmakgfmimagmaa
namespace Go.Proofs.Ytnmakgfmimagmaa
open Go Go.Bv Go.Cv Go.Md Go.RowKit
def k1k : Con TB.den := Con.mk0 102 [.one (.d (.int .u64)), .one (.d (.int .u64)), .one (.d (.int .u64))] [] (.tup [.one (.d (.int .u64)), .one (.d (.int .u64))]) []
abbrev k11v := HL TB.den (hsT k1k.ins (hsOs k1k.pre))
abbrev kk := HL TB.den (hsV k1k.res (hsOs k1k.post))
noncomputable def k2y : Cx TB := ⟨inf, [khg], [], 4⟩
noncomputable def k58 : Code := Try.f102.body.getD .skip
noncomputable def k8r : List ResultVar := Try.f102.results.toList
def kca : Tm := ⟨[], [], [2, 8, 14, 15, 17, 18], [.one (.d (.int .u64)), .one (.d (.int .u64)), .one (.d (.int .u64)), .one (.d (.int .u64)), .one (.d (.int .u64)), .one (.d (.int .u64))], 0⟩
noncomputable def ktq (o : kk) (i : HL TB.den kca.hs) : Prop := ghs TB [] (kca.fill TB i) fun s => WP TB k2y 135 0 (cB (cB (cB (cB (cB (cB (cB (cB (cB (cB (cB (cB (cB (cB (cB (cB (cB (cB (cB k58))))))))))))))))))) .no s (retTQ TB k2y k1k k8r o)
structure k8x (o : kk) (i : HL TB.den kca.hs) : Prop where
  h : ktq o i
noncomputable def k1gt (o : kk) : Exit → TSt TB.den → Prop := thenT TB (fun s => kca.mat TB 0 s (k8x o)) (retTQ TB k2y k1k k8r o)
def k4r : Tm := ⟨[], [], [2, 8, 9, 10, 14, 15, 16, 17, 18], [.one (.d (.int .u64)), .one (.d (.int .u64)), .one (.d (.int .u64)), .one (.d (.int .u64)), .one (.d (.int .u64)), .one (.d (.int .u64)), .one (.d (.int .u64)), .one (.d (.int .u64)), .one (.d (.int .u64))], 0⟩
noncomputable def kx9 (o : kk) (nx2 : HL TB.den k4r.hs → Prop) : Exit → TSt TB.den → Prop := thenT TB (fun s => k4r.mat TB 0 s nx2) (blockT TB 2 (k1gt o))
def kcz : Tm := ⟨[], [], [2, 8, 9, 10, 14, 15, 16, 17, 18], [.one (.d (.int .u64)), .one (.d (.int .u64)), .one (.d (.int .u64)), .one (.d (.int .u64)), .one (.d (.int .u64)), .one (.d (.int .u64)), .one (.d (.int .u64)), .one (.d (.int .u64)), .one (.d (.int .u64))], 0⟩
noncomputable def ku1 (o : kk) (nx2 : HL TB.den k4r.hs → Prop) (i : HL TB.den kcz.hs) : Prop := ghs TB [] (kcz.fill TB i) fun s => WP TB k2y 135 0 (cB (cA (cA (cA (cB (cB (cB (cB (cB (cB (cB (cB (cB (cB (cB (cB (cB (cB (cB (cB (cB (cB k58)))))))))))))))))))))) .no s (kx9 o nx2)
structure k8n (o : kk) (nx2 : HL TB.den k4r.hs → Prop) (i : HL TB.den kcz.hs) : Prop where
  h : ku1 o nx2 i
noncomputable def kej (o : kk) (nx2 : HL TB.den k4r.hs → Prop) (i : HL TB.den k4r.hs) : Prop := WP TB k2y 135 0 (cA (cA (cA (cB (cB (cB (cB (cB (cB (cB (cB (cB (cB (cB (cB (cB (cB (cB (cB (cB (cB k58))))))))))))))))))))) (.jn kcz (k8n o nx2) [] .no [] .no) (k4r.fill TB i) (kx9 o nx2)
noncomputable def k1fn (o : kk) : An TB := .lp [] k4r (kej o) fun nx2 => (.jn kcz (k8n o nx2) [] .no [] .no)
noncomputable def k1hp (o : kk) : An TB := .jn kca (k8x o) [] (k1fn o) [] .no
noncomputable def kxc (o : kk) : An TB := .nd [] .no [] (.nd [] .no [] (.nd [] .no [] (k1hp o)))
def kcr : Tm := ⟨[], [], [2, 8, 9, 10, 11, 13, 14, 15], [.one (.d (.int .u64)), .one (.d (.int .u64)), .one (.d (.int .u64)), .one (.d (.int .u64)), .one (.d (.int .u64)), .one (.d (.int .u64)), .one (.d (.int .u64)), .one (.d (.int .u64))], 0⟩
noncomputable def kup (o : kk) (i : HL TB.den kcr.hs) : Prop := ghs TB [] (kcr.fill TB i) fun s => WP TB k2y 135 0 (cB (cB (cB (cB (cB (cB (cB (cB (cB (cB (cB (cB (cB (cB (cB k58))))))))))))))) (kxc o) s (retTQ TB k2y k1k k8r o)
structure k8m (o : kk) (i : HL TB.den kcr.hs) : Prop where
  h : kup o i
noncomputable def k1hg (o : kk) : Exit → TSt TB.den → Prop := thenT TB (fun s => kcr.mat TB 0 s (k8m o)) (retTQ TB k2y k1k k8r o)
def k4v : Tm := ⟨[], [], [2, 8, 9, 10, 11, 13, 14, 15, 16], [.one (.d (.int .u64)), .one (.d (.int .u64)), .one (.d (.int .u64)), .one (.d (.int .u64)), .one (.d (.int .u64)), .one (.d (.int .u64)), .one (.d (.int .u64)), .one (.d (.int .u64)), .one (.d (.int .u64))], 0⟩
noncomputable def kxy (o : kk) (nx1 : HL TB.den k4v.hs → Prop) : Exit → TSt TB.den → Prop := thenT TB (fun s => k4v.mat TB 0 s nx1) (blockT TB 0 (k1hg o))
def kc8 : Tm := ⟨[], [], [2, 8, 9, 10, 11, 13, 14, 15, 16], [.one (.d (.int .u64)), .one (.d (.int .u64)), .one (.d (.int .u64)), .one (.d (.int .u64)), .one (.d (.int .u64)), .one (.d (.int .u64)), .one (.d (.int .u64)), .one (.d (.int .u64)), .one (.d (.int .u64))], 0⟩
noncomputable def kv5 (o : kk) (nx1 : HL TB.den k4v.hs → Prop) (i : HL TB.den kc8.hs) : Prop := ghs TB [] (kc8.fill TB i) fun s => WP TB k2y 135 0 (cB (cA (cA (cA (cB (cB (cB (cB (cB (cB (cB (cB (cB (cB (cB (cB (cB (cB k58)))))))))))))))))) .no s (kxy o nx1)
structure k8u (o : kk) (nx1 : HL TB.den k4v.hs → Prop) (i : HL TB.den kc8.hs) : Prop where
  h : kv5 o nx1 i
noncomputable def kem (o : kk) (nx1 : HL TB.den k4v.hs → Prop) (i : HL TB.den k4v.hs) : Prop := WP TB k2y 135 0 (cA (cA (cA (cB (cB (cB (cB (cB (cB (cB (cB (cB (cB (cB (cB (cB (cB k58))))))))))))))))) (.jn kc8 (k8u o nx1) [] .no [] .no) (k4v.fill TB i) (kxy o nx1)
noncomputable def k1bw (o : kk) : An TB := .lp [] k4v (kem o) fun nx1 => (.jn kc8 (k8u o nx1) [] .no [] .no)
noncomputable def k1cn (o : kk) : An TB := .jn kcr (k8m o) [] (k1bw o) [] (kxc o)
noncomputable def k1cf (o : kk) : An TB := .nd [] .no [] (.nd [] .no [] (.nd [] .no [] (k1cn o)))
noncomputable def k1d2 (o : kk) : An TB := .nd [] .no [] (.nd [] .no [] (.nd [] .no [] (k1cf o)))
noncomputable def k1c6 (o : kk) : An TB := .nd [] .no [] (.nd [] .no [] (.nd [] .no [] (k1d2 o)))
noncomputable def k1cq (o : kk) : An TB := .nd [] .no [] (.nd [] .no [] (.nd [] .no [] (k1c6 o)))
noncomputable def ky2 (o : kk) : An TB := .nd [] .no [] (.nd [] .no [] (k1cq o))
noncomputable def kkn (x : k11v) (o : kk) : Prop := WPh TB k2y 135 0 k58 (ky2 o) (k1k.st TB x) (retTQ TB k2y k1k k8r o)
set_option maxRecDepth 100000 in
theorem k1bh (o : kk) : OblH TB k2y 135 0 k58 (ky2 o) (retTQ TB k2y k1k k8r o) :=
  OblH.of_eq (X := (True ∧ ((True ∧ (True ∧ True)) ∧ ((True ∧ (True ∧ True)) ∧ ((True ∧ ((True ∧ True) ∧ True)) ∧ (True ∧ (True ∧ (True ∧ (True ∧ (True ∧ (True ∧ (True ∧ (True ∧ (True ∧ (True ∧ (((∀ nx i, (kem o) nx i = (kem o) nx i) ∧ ∀ nx1 : HL TB.den k4v.hs → Prop, ((True ∧ (True ∧ True)) ∧ (∀ i, (k8u o nx1) i = (kv5 o nx1) i) ∧ (True ∧ (True ∧ (True ∧ (True ∧ True)))))) ∧ (∀ i, (k8m o) i = (kup o) i) ∧ (True ∧ (True ∧ (True ∧ (((∀ nx i, (kej o) nx i = (kej o) nx i) ∧ ∀ nx2 : HL TB.den k4r.hs → Prop, ((True ∧ (True ∧ True)) ∧ (∀ i, (k8n o nx2) i = (ku1 o nx2) i) ∧ (True ∧ (True ∧ (True ∧ (True ∧ True)))))) ∧ (∀ i, (k8x o) i = (ktq o) i) ∧ (True ∧ True))))))))))))))))))))) (by kernel_rfl) ⟨trivial, ⟨⟨trivial, ⟨trivial, trivial⟩⟩, ⟨⟨trivial, ⟨trivial, trivial⟩⟩, ⟨⟨trivial, ⟨⟨trivial, trivial⟩, trivial⟩⟩, ⟨trivial, ⟨trivial, ⟨trivial, ⟨trivial, ⟨trivial, ⟨trivial, ⟨trivial, ⟨trivial, ⟨trivial, ⟨trivial, ⟨⟨fun _ _ => rfl, fun _ => ⟨⟨trivial, ⟨trivial, trivial⟩⟩, fun _ => propext ⟨fun h => h.1, fun h => ⟨h⟩⟩, ⟨trivial, ⟨trivial, ⟨trivial, ⟨trivial, trivial⟩⟩⟩⟩⟩⟩, fun _ => propext ⟨fun h => h.1, fun h => ⟨h⟩⟩, ⟨trivial, ⟨trivial, ⟨trivial, ⟨⟨fun _ _ => rfl, fun _ => ⟨⟨trivial, ⟨trivial, trivial⟩⟩, fun _ => propext ⟨fun h => h.1, fun h => ⟨h⟩⟩, ⟨trivial, ⟨trivial, ⟨trivial, ⟨trivial, trivial⟩⟩⟩⟩⟩⟩, fun _ => propext ⟨fun h => h.1, fun h => ⟨h⟩⟩, ⟨trivial, trivial⟩⟩⟩⟩⟩⟩⟩⟩⟩⟩⟩⟩⟩⟩⟩⟩⟩⟩⟩⟩
set_option maxRecDepth 100000 in
theorem k1co {x : k11v} {o : kk} (h : kkn x o) : SoundH Try.prog k1k.f ((k1k.args idf x).map (er TB)) ((k1k.obs idf x).map (erO TB)) (er TB (k1k.val idf o)) ((k1k.ops idf o).map (erO TB)) :=
  Con.soundH (c := k1k) (C := k2y) TBok ⟨inf_ok, (all_cons kt4 all_nil), all_nil⟩ mix Try.func102 (show Try.f102.body = some k58 by kernel_rfl) (show Try.f102.ntmps = 135 by kernel_rfl) (show Try.f102.results.toList = k8r by kernel_rfl) rfl h (k1bh o)
set_option maxRecDepth 100000 in
theorem k1gy {p0 : Int} {p1 : Int} {p2 : Int} {r0 : Int} {r1 : Int} (h :
(((p2 == 0) = true →
 False) ∧
((p2 == 0) = false →
(decide (p2 ≤ p0) = true →
 False) ∧
(decide (p2 ≤ p0) = false →
((p0 == 0) = true →
(p2 ≠ 0) ∧ (p2 ≠ 0) ∧ IntKind.u64.wrap (Int.tdiv p1 p2) = r0 ∧ Int.tmod p1 p2 = r1) ∧
((p0 == 0) = false →
(0 < p2 ∧ p2 < 18446744073709551616) ∧ (0 ≤ IntKind.u64.wrap (64 - len64 p2)) ∧ let v2 : Int := ishl .u64 p2 (IntKind.u64.wrap (64 - len64 p2))
(0 ≤ IntKind.u64.wrap (64 - len64 p2)) ∧ let v3 : Int := ishl .u64 p0 (IntKind.u64.wrap (64 - len64 p2))
 let v4 : Int := IntKind.u64.wrap (64 - (IntKind.u64.wrap (64 - len64 p2)))
(0 ≤ v4) ∧ (0 ≤ IntKind.u64.wrap (64 - len64 p2)) ∧ let v5 : Int := ishl .u64 p1 (IntKind.u64.wrap (64 - len64 p2))
(ishr .u64 v2 32 ≠ 0) ∧ let v6 : Int := IntKind.u64.wrap (Int.tdiv (ior .u64 v3 (ishr .u64 p1 v4)) (ishr .u64 v2 32))
 let v7 : Int := IntKind.u64.wrap (v6 * (ishr .u64 v2 32))
 let v8 : Int := IntKind.u64.wrap ((ior .u64 v3 (ishr .u64 p1 v4)) - v7)
 Md.Loop (v2, (IntKind.u64.wrap (64 - len64 p2) : Int), (ishr .u64 v2 32 : Int), (iand .u64 v2 4294967295 : Int), (ior .u64 v3 (ishr .u64 p1 v4) : Int), (ishr .u64 v5 32 : Int), (iand .u64 v5 4294967295 : Int), v6, v8, ()) (kem (r0, r1, ()))))))) : kkn (p0, p1, p2, ()) (r0, r1, ()) := WPh.of_eq (by kernel_rfl) h
set_option maxRecDepth 100000 in
theorem k163 {r0 : Int} {r1 : Int} {nx1 : HL TB.den k4v.hs → Prop} {s2 : Int} {s8 : Int} {s9 : Int} {s10 : Int} {s11 : Int} {s13 : Int} {s14 : Int} {s15 : Int} {s16 : Int} (h :
(let v11 : Bool := decide (4294967296 ≤ (IntKind.u64.wrap (s16 + s9)))
(v11 = true →
 k8m (r0, r1, ()) (s2, s8, s9, s10, s11, s13, s14, (IntKind.u64.wrap (s15 - 1) : Int), ())) ∧
(v11 = false →
 nx1 (s2, s8, s9, s10, s11, s13, s14, (IntKind.u64.wrap (s15 - 1) : Int), (IntKind.u64.wrap (s16 + s9) : Int), ())))) : k8u (r0, r1, ()) nx1 (s2, s8, s9, s10, s11, s13, s14, s15, s16, ()) := ⟨mpr_of (by kernel_rfl) h⟩
set_option maxRecDepth 100000 in
theorem k16n {r0 : Int} {r1 : Int} {s2 : Int} {s8 : Int} {s9 : Int} {s10 : Int} {s11 : Int} {s13 : Int} {s14 : Int} {s15 : Int} (h :
(let v12 : Int := IntKind.u64.wrap ((IntKind.u64.wrap (s11 * 4294967296)) + s13)
 let v13 : Int := IntKind.u64.wrap (v12 - (IntKind.u64.wrap (s15 * s2)))
(s9 ≠ 0) ∧ let v14 : Int := IntKind.u64.wrap ((IntKind.u64.wrap (Int.tdiv v13 s9)) * s9)
 Md.Loop (s2, s8, s9, s10, s14, s15, (IntKind.u64.wrap (v13 - v14) : Int), v13, (IntKind.u64.wrap (Int.tdiv v13 s9) : Int), ()) (kej (r0, r1, ())))) : k8m (r0, r1, ()) (s2, s8, s9, s10, s11, s13, s14, s15, ()) := ⟨mpr_of (by kernel_rfl) h⟩
set_option maxRecDepth 100000 in
theorem k15w {r0 : Int} {r1 : Int} {nx2 : HL TB.den k4r.hs → Prop} {s2 : Int} {s8 : Int} {s9 : Int} {s10 : Int} {s14 : Int} {s15 : Int} {s16 : Int} {s17 : Int} {s18 : Int} (h :
(let v17 : Bool := decide (4294967296 ≤ (IntKind.u64.wrap (s16 + s9)))
(v17 = true →
 k8x (r0, r1, ()) (s2, s8, s14, s15, s17, (IntKind.u64.wrap (s18 - 1) : Int), ())) ∧
(v17 = false →
 nx2 (s2, s8, s9, s10, s14, s15, (IntKind.u64.wrap (s16 + s9) : Int), s17, (IntKind.u64.wrap (s18 - 1) : Int), ())))) : k8n (r0, r1, ()) nx2 (s2, s8, s9, s10, s14, s15, s16, s17, s18, ()) := ⟨mpr_of (by kernel_rfl) h⟩
set_option maxRecDepth 100000 in
theorem k16l {r0 : Int} {r1 : Int} {s2 : Int} {s8 : Int} {s14 : Int} {s15 : Int} {s17 : Int} {s18 : Int} (h :
(let v18 : Int := IntKind.u64.wrap ((IntKind.u64.wrap (s15 * 4294967296)) + s18)
 let v19 : Int := IntKind.u64.wrap ((IntKind.u64.wrap (s17 * 4294967296)) + s14)
 let v20 : Int := IntKind.u64.wrap (v19 - (IntKind.u64.wrap (s18 * s2)))
(0 ≤ s8) ∧ v18 = r0 ∧ ishr .u64 v20 s8 = r1)) : k8x (r0, r1, ()) (s2, s8, s14, s15, s17, s18, ()) := ⟨mpr_of (by kernel_rfl) h⟩
def kye (r0 : Int) (r1 : Int) (nx1 : HL TB.den k4v.hs → Prop) (k1 : Int → Int → Prop) (s2 : Int) (s8 : Int) (s9 : Int) (s10 : Int) (s11 : Int) (s13 : Int) (s14 : Int) (s15 : Int) (s16 : Int) : Prop :=
(decide (4294967296 ≤ s15) = true →
 k8u (r0, r1, ()) nx1 (s2, s8, s9, s10, s11, s13, s14, s15, s16, ())) ∧
(decide (4294967296 ≤ s15) = false →
 let v9 : Int := IntKind.u64.wrap ((IntKind.u64.wrap (4294967296 * s16)) + s13)
 let v10 : Bool := decide (v9 < (IntKind.u64.wrap (s15 * s10)))
(v10 = true →
 k8u (r0, r1, ()) nx1 (s2, s8, s9, s10, s11, s13, s14, s15, s16, ())) ∧
(v10 = false →
 k8m (r0, r1, ()) (s2, s8, s9, s10, s11, s13, s14, s15, ())))
set_option maxRecDepth 100000 in
theorem k1dc {r0 : Int} {r1 : Int} {s2 : Int} {s8 : Int} {s9 : Int} {s10 : Int} {s11 : Int} {s13 : Int} {s14 : Int} {s15 : Int} {s16 : Int} (inv : Int → Int → Prop) (μ : Int → Int → Nat) (h0 : inv s15 s16) (hs : ∀ (s15 : Int) (s16 : Int), inv s15 s16 → kye r0 r1 (fun s : Int × Int × Int × Int × Int × Int × Int × Int × Int × Unit => ((s.1 = s2 ∧ s.2.1 = s8 ∧ s.2.2.1 = s9 ∧ s.2.2.2.1 = s10 ∧ s.2.2.2.2.1 = s11 ∧ s.2.2.2.2.2.1 = s13 ∧ s.2.2.2.2.2.2.1 = s14) ∧ inv s.2.2.2.2.2.2.2.1 s.2.2.2.2.2.2.2.2.1) ∧ μ s.2.2.2.2.2.2.2.1 s.2.2.2.2.2.2.2.2.1 < μ s15 s16) (fun s15q s16q => inv s15q s16q ∧ μ s15q s16q < μ s15 s16) s2 s8 s9 s10 s11 s13 s14 s15 s16) : Md.Loop (s2, s8, s9, s10, s11, s13, s14, s15, s16, ()) (kem (r0, r1, ())) :=
  ⟨⟨fun s : Int × Int × Int × Int × Int × Int × Int × Int × Int × Unit => (s.1 = s2 ∧ s.2.1 = s8 ∧ s.2.2.1 = s9 ∧ s.2.2.2.1 = s10 ∧ s.2.2.2.2.1 = s11 ∧ s.2.2.2.2.2.1 = s13 ∧ s.2.2.2.2.2.2.1 = s14) ∧ inv s.2.2.2.2.2.2.2.1 s.2.2.2.2.2.2.2.2.1, fun s : Int × Int × Int × Int × Int × Int × Int × Int × Int × Unit => μ s.2.2.2.2.2.2.2.1 s.2.2.2.2.2.2.2.2.1, ⟨⟨rfl, rfl, rfl, rfl, rfl, rfl, rfl⟩, h0⟩, fun (s2p, s8p, s9p, s10p, s11p, s13p, s14p, s15p, s16p, ()) ⟨⟨eq0, eq1, eq2, eq3, eq4, eq5, eq6⟩, hi⟩ => by
    have eq0 : s2p = s2 := eq0; subst s2p; have eq1 : s8p = s8 := eq1; subst s8p; have eq2 : s9p = s9 := eq2; subst s9p; have eq3 : s10p = s10 := eq3; subst s10p; have eq4 : s11p = s11 := eq4; subst s11p; have eq5 : s13p = s13 := eq5; subst s13p; have eq6 : s14p = s14 := eq6; subst s14p; exact mpr_of (by kernel_rfl) ((congrArg (fun k => kye r0 r1 (fun s : Int × Int × Int × Int × Int × Int × Int × Int × Int × Unit => ((s.1 = s2 ∧ s.2.1 = s8 ∧ s.2.2.1 = s9 ∧ s.2.2.2.1 = s10 ∧ s.2.2.2.2.1 = s11 ∧ s.2.2.2.2.2.1 = s13 ∧ s.2.2.2.2.2.2.1 = s14) ∧ inv s.2.2.2.2.2.2.2.1 s.2.2.2.2.2.2.2.2.1) ∧ μ s.2.2.2.2.2.2.2.1 s.2.2.2.2.2.2.2.2.1 < μ s15p s16p) k s2 s8 s9 s10 s11 s13 s14 s15p s16p) (lpk2 (⟨rfl, rfl, rfl, rfl, rfl, rfl, rfl⟩ : s2 = s2 ∧ s8 = s8 ∧ s9 = s9 ∧ s10 = s10 ∧ s11 = s11 ∧ s13 = s13 ∧ s14 = s14) inv (fun s15q s16q => μ s15q s16q < μ s15p s16p))).mpr (hs s15p s16p hi))⟩⟩
def kx4 (r0 : Int) (r1 : Int) (nx2 : HL TB.den k4r.hs → Prop) (k2 : Int → Int → Prop) (s2 : Int) (s8 : Int) (s9 : Int) (s10 : Int) (s14 : Int) (s15 : Int) (s17 : Int) (s16 : Int) (s18 : Int) : Prop :=
(decide (4294967296 ≤ s18) = true →
 k8n (r0, r1, ()) nx2 (s2, s8, s9, s10, s14, s15, s16, s17, s18, ())) ∧
(decide (4294967296 ≤ s18) = false →
 let v15 : Int := IntKind.u64.wrap ((IntKind.u64.wrap (4294967296 * s16)) + s14)
 let v16 : Bool := decide (v15 < (IntKind.u64.wrap (s18 * s10)))
(v16 = true →
 k8n (r0, r1, ()) nx2 (s2, s8, s9, s10, s14, s15, s16, s17, s18, ())) ∧
(v16 = false →
 k8x (r0, r1, ()) (s2, s8, s14, s15, s17, s18, ())))
set_option maxRecDepth 100000 in
theorem k1do {r0 : Int} {r1 : Int} {s2 : Int} {s8 : Int} {s9 : Int} {s10 : Int} {s14 : Int} {s15 : Int} {s17 : Int} {s16 : Int} {s18 : Int} (inv : Int → Int → Prop) (μ : Int → Int → Nat) (h0 : inv s16 s18) (hs : ∀ (s16 : Int) (s18 : Int), inv s16 s18 → kx4 r0 r1 (fun s : Int × Int × Int × Int × Int × Int × Int × Int × Int × Unit => ((s.1 = s2 ∧ s.2.1 = s8 ∧ s.2.2.1 = s9 ∧ s.2.2.2.1 = s10 ∧ s.2.2.2.2.1 = s14 ∧ s.2.2.2.2.2.1 = s15 ∧ s.2.2.2.2.2.2.2.1 = s17) ∧ inv s.2.2.2.2.2.2.1 s.2.2.2.2.2.2.2.2.1) ∧ μ s.2.2.2.2.2.2.1 s.2.2.2.2.2.2.2.2.1 < μ s16 s18) (fun s16q s18q => inv s16q s18q ∧ μ s16q s18q < μ s16 s18) s2 s8 s9 s10 s14 s15 s17 s16 s18) : Md.Loop (s2, s8, s9, s10, s14, s15, s16, s17, s18, ()) (kej (r0, r1, ())) :=
  ⟨⟨fun s : Int × Int × Int × Int × Int × Int × Int × Int × Int × Unit => (s.1 = s2 ∧ s.2.1 = s8 ∧ s.2.2.1 = s9 ∧ s.2.2.2.1 = s10 ∧ s.2.2.2.2.1 = s14 ∧ s.2.2.2.2.2.1 = s15 ∧ s.2.2.2.2.2.2.2.1 = s17) ∧ inv s.2.2.2.2.2.2.1 s.2.2.2.2.2.2.2.2.1, fun s : Int × Int × Int × Int × Int × Int × Int × Int × Int × Unit => μ s.2.2.2.2.2.2.1 s.2.2.2.2.2.2.2.2.1, ⟨⟨rfl, rfl, rfl, rfl, rfl, rfl, rfl⟩, h0⟩, fun (s2p, s8p, s9p, s10p, s14p, s15p, s16p, s17p, s18p, ()) ⟨⟨eq0, eq1, eq2, eq3, eq4, eq5, eq6⟩, hi⟩ => by
    have eq0 : s2p = s2 := eq0; subst s2p; have eq1 : s8p = s8 := eq1; subst s8p; have eq2 : s9p = s9 := eq2; subst s9p; have eq3 : s10p = s10 := eq3; subst s10p; have eq4 : s14p = s14 := eq4; subst s14p; have eq5 : s15p = s15 := eq5; subst s15p; have eq6 : s17p = s17 := eq6; subst s17p; exact mpr_of (by kernel_rfl) ((congrArg (fun k => kx4 r0 r1 (fun s : Int × Int × Int × Int × Int × Int × Int × Int × Int × Unit => ((s.1 = s2 ∧ s.2.1 = s8 ∧ s.2.2.1 = s9 ∧ s.2.2.2.1 = s10 ∧ s.2.2.2.2.1 = s14 ∧ s.2.2.2.2.2.1 = s15 ∧ s.2.2.2.2.2.2.2.1 = s17) ∧ inv s.2.2.2.2.2.2.1 s.2.2.2.2.2.2.2.2.1) ∧ μ s.2.2.2.2.2.2.1 s.2.2.2.2.2.2.2.2.1 < μ s16p s18p) k s2 s8 s9 s10 s14 s15 s17 s16p s18p) (lpk2 (⟨rfl, rfl, rfl, rfl, rfl, rfl, rfl⟩ : s2 = s2 ∧ s8 = s8 ∧ s9 = s9 ∧ s10 = s10 ∧ s14 = s14 ∧ s15 = s15 ∧ s17 = s17) inv (fun s16q s18q => μ s16q s18q < μ s16p s18p))).mpr (hs s16p s18p hi))⟩⟩
theorem bd102 : Callable Try.prog 102 := ⟨by rw [Try.func102]; kernel_rfl, by rw [Try.func102]; show some _ ≠ some _; decide⟩
theorem k1aw (p0 : Int) (p1 : Int) (p2 : Int) (h : U64 p0 ∧ U64 p1 ∧ U64 p2 ∧ p0 < p2) : kkn (p0, p1, p2, ()) (((p0 * 18446744073709551616 + p1) / p2 : Int), ((p0 * 18446744073709551616 + p1) % p2 : Int), ()) := by
  obtain ⟨h0, h1, h2, hlt⟩ := h
  refine k1gy ⟨fun e => ?_, fun _ => ⟨fun e => ?_, fun _ => ⟨fun e => ?_, fun _ => ?_⟩⟩⟩
  · simp at e; omega
  · simp at e; omega
  · have e : p0 = 0 := by simpa using e
    subst e
    rw [tdiv_nn _ _ h1.1, tmod_nn _ _ h1.1, Int.zero_mul, Int.zero_add]
    have := Int.ediv_le_self p2 h1.1
    have := Int.ediv_nonneg h1.1 h2.1
    exact ⟨by omega, by omega, wu _ (by omega) (by have := Int.ediv_le_self p2 h1.1; omega), rfl⟩
  obtain ⟨s, e, hs, n1, n2⟩ := k1ah p2 ⟨by omega, h2.2⟩
  have ew : IntKind.u64.wrap (64 - len64 p2) = (s : Int) := by rw [e, wu _ (by omega) (by omega)]
  have ew3 : IntKind.u64.wrap (64 - (s : Int)) = ((64 - s : Nat) : Int) := by rw [wu _ (by omega) (by omega)]; omega
  have hp : 0 < 2 ^ s := Nat.two_pow_pos s
  have hp' : 0 < 2 ^ (64 - s) := Nat.two_pow_pos _
  have hpp : 2 ^ s * 2 ^ (64 - s) = 18446744073709551616 := by rw [← Nat.pow_add, show s + (64 - s) = 64 by omega]
  have hP : ((2 ^ s : Nat) : Int) * ((2 ^ (64 - s) : Nat) : Int) = 18446744073709551616 := by rw [← Int.natCast_mul, hpp]; rfl
  have il : ∀ a : Int, ishl .u64 a (s : Int) = a * ((2 ^ s : Nat) : Int) % 18446744073709551616 := fun a => by rw [k1ik, Int.toNat_natCast, Nat.min_eq_left (by omega)]
  have ir : ∀ a : Int, ishr .u64 a (s : Int) = a / ((2 ^ s : Nat) : Int) := fun a => by rw [klq, Int.toNat_natCast, show min s IntKind.u64.bits = s from Nat.min_eq_left (by show s ≤ 64; omega)]
  have ir' : ∀ a : Int, ishr .u64 a ((64 - s : Nat) : Int) = a / ((2 ^ (64 - s) : Nat) : Int) := fun a => by rw [klq, Int.toNat_natCast, show min (64 - s) IntKind.u64.bits = 64 - s from Nat.min_eq_left (by show 64 - s ≤ 64; omega)]
  have hor : ∀ c : Int, 0 ≤ c → c < ((2 ^ s : Nat) : Int) → p0 * ((2 ^ s : Nat) : Int) + c < 18446744073709551616 → ior .u64 (p0 * ((2 ^ s : Nat) : Int)) c = p0 * ((2 ^ s : Nat) : Int) + c := by
    intro c hc0 hc1 hc2
    obtain ⟨a, rfl⟩ := Int.eq_ofNat_of_zero_le h0.1
    obtain ⟨c, rfl⟩ := Int.eq_ofNat_of_zero_le hc0
    have key := ior_add' c a s (by omega)
    rw [Int.mul_comm, ← Int.natCast_mul] at hc2 ⊢
    rw [key (by omega)]
    omega
  simp only [ew, ew3, il, ir', ishr32]
  have hP'0 : (0 : Int) < ((2 ^ (64 - s) : Nat) : Int) := by omega
  generalize hPd : ((2 ^ s : Nat) : Int) = P at *
  generalize hPd' : ((2 ^ (64 - s) : Nat) : Int) = P' at *
  have hP0 : 0 < P := by omega
  have hlo : p1 / P' < P := Int.ediv_lt_of_lt_mul hP'0 (by omega)
  have hlo0 : 0 ≤ p1 / P' := Int.ediv_nonneg h1.1 (by omega)
  have hUv : p0 * P + P ≤ p2 * P := by
    have : (p0 + 1) * P ≤ p2 * P := Int.mul_le_mul_of_nonneg_right (by omega) (by omega)
    grind
  have hUp : 0 ≤ p0 * P := Int.mul_nonneg h0.1 (by omega)
  rw [Int.emod_eq_of_lt (a := p2 * P) (by omega) n2, Int.emod_eq_of_lt (a := p0 * P) hUp (by omega), hor _ hlo0 hlo (by omega)]
  have hN : (p0 * 18446744073709551616 + p1) * P = (p0 * P + p1 / P') * 18446744073709551616 + (p1 * P % 18446744073709551616 / 4294967296) * 4294967296 + p1 * P % 18446744073709551616 % 4294967296 := by
    have h5 : p1 * P / 18446744073709551616 = p1 / P' := by
      rw [← hP, Int.mul_comm p1 P, Int.mul_ediv_mul_of_pos _ _ hP0]
    have h6 := Int.emod_add_mul_ediv (p1 * P) 18446744073709551616
    rw [h5] at h6
    have : (p0 * 18446744073709551616 + p1) * P = p0 * P * 18446744073709551616 + p1 * P := by grind
    rw [this]
    generalize p1 * P = w at *
    generalize p0 * P = w' at *
    omega
  have hlb : 0 ≤ p1 * P % 18446744073709551616 ∧ p1 * P % 18446744073709551616 < 18446744073709551616 := ⟨Int.emod_nonneg _ (by omega), Int.emod_lt_of_pos _ (by omega)⟩
  generalize hUd : p0 * P + p1 / P' = U at *
  generalize hLd : p1 * P % 18446744073709551616 = L at *
  have hVd : p2 * P / 4294967296 * 4294967296 + p2 * P % 4294967296 = p2 * P := by omega
  have hw : ∀ {Q R V' : Int} , R - Q = V' → 0 ≤ V' → V' < 18446744073709551616 → ∀ A, R = A * 4294967296 + (R - A * 4294967296) → IntKind.u64.wrap (IntKind.u64.wrap (IntKind.u64.wrap (A * 4294967296) + (R - A * 4294967296)) - IntKind.u64.wrap Q) = V' := by
    intro Q R V' hv h0 h1 A hA
    simp only [u64w]
    omega
  rw [kie (p2 * P) (by omega), kie L (by omega)]
  generalize ha : p2 * P / 4294967296 = a at *
  generalize hb : p2 * P % 4294967296 = b at *
  have hQ1 : Half U (L / 4294967296) a b ((U * 4294967296 + L / 4294967296) / (a * 4294967296 + b)) := ⟨by omega, by omega, by omega, by omega, by omega, rfl⟩
  have hr1 := hQ1.rest
  have hq1 := hQ1.q
  generalize (U * 4294967296 + L / 4294967296) / (a * 4294967296 + b) = Q1 at *
  generalize (U * 4294967296 + L / 4294967296) % (a * 4294967296 + b) = R1 at *
  have hQ0 : Half R1 (L % 4294967296) a b ((R1 * 4294967296 + L % 4294967296) / (a * 4294967296 + b)) := ⟨by omega, by omega, by omega, by omega, by omega, rfl⟩
  have hr0 := hQ0.rest
  have hq0 := hQ0.q
  generalize (R1 * 4294967296 + L % 4294967296) / (a * 4294967296 + b) = Q0 at *
  generalize (R1 * 4294967296 + L % 4294967296) % (a * 4294967296 + b) = R0 at *
  rw [hVd] at hr1 hr0 hq1 hq0
  have fin := k1nn hP0 (by omega : 0 < p2) hN hr1.1 hr0.1 ⟨hr0.2.1, hr0.2.2⟩
  have j4 : k8x (((p0 * 18446744073709551616 + p1) / p2 : Int), ((p0 * 18446744073709551616 + p1) % p2 : Int), ()) ((p2 * P : Int), (s : Int), (L % 4294967296 : Int), Q1, R1, Q0, ()) := by
    refine k16l ⟨by omega, ?_, ?_⟩
    · rw [wu (Q1 * 4294967296) (by omega) (by omega), wu _ (by omega) (by omega)]
      exact fin.1
    · have := hw (Q := Q0 * (p2 * P)) (R := R1 * 4294967296 + L % 4294967296) hr0.1 hr0.2.1 (by omega) R1 (by omega)
      rw [show R1 * 4294967296 + L % 4294967296 - R1 * 4294967296 = L % 4294967296 by omega] at this
      rw [this, ir]
      exact fin.2
  have aux : ∀ {U x Q q r : Int}, Half U x a b Q → U < 18446744073709551616 → q * a + r = U → Q ≤ q → 0 ≤ r → q ≤ 8589934592 := by
    intro U x Q q r hh hU e hQ hr
    have h1 := hh.ha
    refine Int.le_of_lt_add_one (Int.lt_of_mul_lt_mul_right (a := a) ?_ (by omega))
    generalize q * a = w at *
    omega
  have init : ∀ {U x Q : Int}, Half U x a b Q → Q ≤ U / a := by
    intro U x Q hh
    have h1 := hh.ha
    have h2 := hh.q
    have h3 := hh.hb
    have h4 := hh.hx
    refine (Int.le_ediv_iff_mul_le (by omega)).2 ?_
    have h5 : Q * (a * 4294967296 + b) = Q * a * 4294967296 + Q * b := by grind
    have h6 : 0 ≤ Q * b := Int.mul_nonneg h2.1 h3.1
    generalize Q * a = w at *
    omega
  have j2 : k8m (((p0 * 18446744073709551616 + p1) / p2 : Int), ((p0 * 18446744073709551616 + p1) % p2 : Int), ()) ((p2 * P : Int), (s : Int), a, b, U, (L / 4294967296 : Int), (L % 4294967296 : Int), Q1, ()) := by
    have e1 := hw (Q := Q1 * (p2 * P)) (R := U * 4294967296 + L / 4294967296) hr1.1 hr1.2.1 (by omega) U (by omega)
    rw [show U * 4294967296 + L / 4294967296 - U * 4294967296 = L / 4294967296 by omega] at e1
    refine k16n ?_
    simp only [e1]
    have hd := Int.emod_add_mul_ediv R1 a
    have hd1 := Int.emod_nonneg R1 (by omega : a ≠ 0)
    have hd2 := Int.emod_lt_of_pos R1 (by omega : 0 < a)
    have hd3 : 0 ≤ R1 / a := Int.ediv_nonneg hr1.2.1 (by omega)
    rw [Int.mul_comm] at hd
    have hd5 : 0 ≤ R1 / a * a := Int.mul_nonneg hd3 (by omega)
    have hd4 := aux hQ0 (by omega) (q := R1 / a) (r := R1 % a) (by omega) (init hQ0) hd1
    rw [tdiv_nn _ _ hr1.2.1, wu (R1 / a) (by omega) (by omega), wu (R1 / a * a) (by omega) (by omega), show R1 - R1 / a * a = R1 % a by omega, wu (R1 % a) (by omega) (by omega)]
    refine ⟨by omega, ?_⟩
    refine k1do (fun r q => q * a + r = R1 ∧ Q0 ≤ q ∧ 0 ≤ r ∧ r < 4294967296) (fun r q => q.toNat) ⟨by omega, init hQ0, hd1, by omega⟩ ?_
    rintro r q ⟨g1, g2, g3, g4⟩
    have g5 := aux hQ0 (by omega) g1 g2 g3
    have j3 : ∀ nx, (Q0 ≤ q - 1) → (r + a < 4294967296 → nx ((p2 * P : Int), (s : Int), a, b, (L % 4294967296 : Int), Q1, (r + a : Int), R1, (q - 1 : Int), ())) → k8n (((p0 * 18446744073709551616 + p1) / p2 : Int), ((p0 * 18446744073709551616 + p1) % p2 : Int), ()) nx ((p2 * P : Int), (s : Int), a, b, (L % 4294967296 : Int), Q1, r, R1, q, ()) := by
      intro nx hq hnx
      refine k15w ?_
      rw [wu (q - 1) (by omega) (by omega), wu (r + a) (by omega) (by omega)]
      refine ⟨fun hd => ?_, fun hd => hnx (by simpa using hd)⟩
      have hd : 4294967296 ≤ r + a := of_decide_eq_true hd
      rw [hQ0.done (q := q - 1) (r := r + a) (by grind) hq hd]
      exact j4
    have nxt : Q0 ≤ q - 1 → r + a < 4294967296 → ((q - 1) * a + (r + a) = R1 ∧ Q0 ≤ q - 1 ∧ 0 ≤ r + a ∧ r + a < 4294967296) ∧ (q - 1).toNat < q.toNat := fun h1 h2 => ⟨⟨by grind, h1, by omega, h2⟩, by omega⟩
    refine ⟨fun hd => j3 _ (hQ0.down g1 (.inl (of_decide_eq_true hd))) fun h1 => ?_, fun hd => ?_⟩
    · obtain ⟨n1, n2⟩ := nxt (hQ0.down g1 (.inl (of_decide_eq_true hd))) h1
      exact ⟨⟨⟨rfl, rfl, rfl, rfl, rfl, rfl, rfl⟩, n1⟩, n2⟩
    · have hd : q < 4294967296 := by simpa using hd
      have hqb : 0 ≤ q * b ∧ q * b < 18446744073709551616 := by
        have := hQ0.hb
        have h1 : q * b ≤ 4294967295 * 4294967295 := Int.mul_le_mul (by omega) (by omega) (by omega) (by omega)
        exact ⟨Int.mul_nonneg (by omega) (by omega), by omega⟩
      have := hQ0.hx
      rw [wu (q * b) (by omega) (by omega), wu (4294967296 * r) (by omega) (by omega), wu (4294967296 * r + L % 4294967296) (by omega) (by omega)]
      refine ⟨fun ht => ?_, fun ht => ?_⟩
      · have ht : 4294967296 * r + L % 4294967296 < q * b := of_decide_eq_true ht
        have hdn := hQ0.down g1 (.inr (by omega))
        refine j3 _ hdn fun h1 => ?_
        obtain ⟨n1, n2⟩ := nxt hdn h1
        exact ⟨⟨⟨rfl, rfl, rfl, rfl, rfl, rfl, rfl⟩, n1⟩, n2⟩
      · have ht : ¬ (4294967296 * r + L % 4294967296 < q * b) := of_decide_eq_false ht
        rw [hQ0.exit g1 g2 (by omega)]
        exact j4
  have hd := Int.emod_add_mul_ediv U a
  have hd1 := Int.emod_nonneg U (by omega : a ≠ 0)
  have hd2 := Int.emod_lt_of_pos U (by omega : 0 < a)
  have hd3 : 0 ≤ U / a := Int.ediv_nonneg (by omega) (by omega)
  rw [Int.mul_comm] at hd
  have hd5 : 0 ≤ U / a * a := Int.mul_nonneg hd3 (by omega)
  have hd4 := aux hQ1 (by omega) (q := U / a) (r := U % a) (by omega) (init hQ1) hd1
  rw [tdiv_nn _ _ (by omega), wu (U / a) (by omega) (by omega), wu (U / a * a) (by omega) (by omega), show U - U / a * a = U % a by omega, wu (U % a) (by omega) (by omega)]
  refine ⟨⟨by omega, h2.2⟩, by omega, by omega, by omega, by omega, by omega, ?_⟩
  refine k1dc (fun q r => q * a + r = U ∧ Q1 ≤ q ∧ 0 ≤ r ∧ r < 4294967296) (fun q r => q.toNat) ⟨by omega, init hQ1, hd1, by omega⟩ ?_
  rintro q r ⟨g1, g2, g3, g4⟩
  have g5 := aux hQ1 (by omega) g1 g2 g3
  have j1 : ∀ nx, (Q1 ≤ q - 1) → (r + a < 4294967296 → nx ((p2 * P : Int), (s : Int), a, b, U, (L / 4294967296 : Int), (L % 4294967296 : Int), (q - 1 : Int), (r + a : Int), ())) → k8u (((p0 * 18446744073709551616 + p1) / p2 : Int), ((p0 * 18446744073709551616 + p1) % p2 : Int), ()) nx ((p2 * P : Int), (s : Int), a, b, U, (L / 4294967296 : Int), (L % 4294967296 : Int), q, r, ()) := by
    intro nx hq hnx
    refine k163 ?_
    rw [wu (q - 1) (by omega) (by omega), wu (r + a) (by omega) (by omega)]
    refine ⟨fun hd => ?_, fun hd => hnx (by simpa using hd)⟩
    have hd : 4294967296 ≤ r + a := of_decide_eq_true hd
    rw [hQ1.done (q := q - 1) (r := r + a) (by grind) hq hd]
    exact j2
  have nxt : Q1 ≤ q - 1 → r + a < 4294967296 → ((q - 1) * a + (r + a) = U ∧ Q1 ≤ q - 1 ∧ 0 ≤ r + a ∧ r + a < 4294967296) ∧ (q - 1).toNat < q.toNat := fun h1 h2 => ⟨⟨by grind, h1, by omega, h2⟩, by omega⟩
  refine ⟨fun hd => j1 _ (hQ1.down g1 (.inl (of_decide_eq_true hd))) fun h1 => ?_, fun hd => ?_⟩
  · obtain ⟨n1, n2⟩ := nxt (hQ1.down g1 (.inl (of_decide_eq_true hd))) h1
    exact ⟨⟨⟨rfl, rfl, rfl, rfl, rfl, rfl, rfl⟩, n1⟩, n2⟩
  · have hd : q < 4294967296 := by simpa using hd
    have hqb : 0 ≤ q * b ∧ q * b < 18446744073709551616 := by
      have := hQ1.hb
      have h1 : q * b ≤ 4294967295 * 4294967295 := Int.mul_le_mul (by omega) (by omega) (by omega) (by omega)
      exact ⟨Int.mul_nonneg (by omega) (by omega), by omega⟩
    have := hQ1.hx
    rw [wu (q * b) (by omega) (by omega), wu (4294967296 * r) (by omega) (by omega), wu (4294967296 * r + L / 4294967296) (by omega) (by omega)]
    refine ⟨fun ht => ?_, fun ht => ?_⟩
    · have ht : 4294967296 * r + L / 4294967296 < q * b := of_decide_eq_true ht
      have hdn := hQ1.down g1 (.inr (by omega))
      refine j1 _ hdn fun h1 => ?_
      obtain ⟨n1, n2⟩ := nxt hdn h1
      exact ⟨⟨⟨rfl, rfl, rfl, rfl, rfl, rfl, rfl⟩, n1⟩, n2⟩
    · have ht : ¬ (4294967296 * r + L / 4294967296 < q * b) := of_decide_eq_false ht
      rw [hQ1.exit g1 g2 (by omega)]
      exact j2
noncomputable def kts : Con TB.den := k1k.fnR (fun x => (fun (p0 : Int) (p1 : Int) (p2 : Int) => U64 p0 ∧ U64 p1 ∧ U64 p2 ∧ p0 < p2) x.1 x.2.1 x.2.2.1) fun x => ((fun (p0 : Int) (p1 : Int) (p2 : Int) => ((p0 * 18446744073709551616 + p1) / p2 : Int)) x.1 x.2.1 x.2.2.1, (fun (p0 : Int) (p1 : Int) (p2 : Int) => ((p0 * 18446744073709551616 + p1) % p2 : Int)) x.1 x.2.1 x.2.2.1, ())
theorem k1h2 : kts.Ok Try.prog TB := Con.ok_fn k1k bd102 fun x h => k1co (k1aw x.1 x.2.1 x.2.2.1 h)
end Go.Proofs.Ytnmakgfmimagmaa
namespace Go.Proofs.Ytnmakgfmimagmaa
open Go Go.Bv Go.Cv Go.Md Go.RowKit
def k30 : Con TB.den := Con.mk0 101 [.one (.d (.int .u64)), .one (.d (.int .u64))] [] (.tup [.one (.d (.int .u64)), .one (.d (.int .u64))]) []
abbrev kzi := HL TB.den (hsT k30.ins (hsOs k30.pre))
abbrev kkj := HL TB.den (hsV k30.res (hsOs k30.post))
noncomputable def keb : Cx TB := ⟨inf, [], [], 4⟩
noncomputable def kke : Code := Try.f101.body.getD .skip
noncomputable def ko3 : List ResultVar := Try.f101.results.toList
noncomputable def kxk (o : kkj) : An TB := .no
noncomputable def kkm (x : kzi) (o : kkj) : Prop := WPh TB keb 51 0 kke (kxk o) (k30.st TB x) (retTQ TB keb k30 ko3 o)
set_option maxRecDepth 100000 in
theorem k1dl (o : kkj) : OblH TB keb 51 0 kke (kxk o) (retTQ TB keb k30 ko3 o) :=
  OblH.of_eq (X := (True ∧ (True ∧ (True ∧ (True ∧ (True ∧ (True ∧ (True ∧ (True ∧ (True ∧ (True ∧ (True ∧ (True ∧ True))))))))))))) (by kernel_rfl) ⟨trivial, ⟨trivial, ⟨trivial, ⟨trivial, ⟨trivial, ⟨trivial, ⟨trivial, ⟨trivial, ⟨trivial, ⟨trivial, ⟨trivial, ⟨trivial, trivial⟩⟩⟩⟩⟩⟩⟩⟩⟩⟩⟩⟩
set_option maxRecDepth 100000 in
theorem k1b4 {x : kzi} {o : kkj} (h : kkm x o) : SoundH Try.prog k30.f ((k30.args idf x).map (er TB)) ((k30.obs idf x).map (erO TB)) (er TB (k30.val idf o)) ((k30.ops idf o).map (erO TB)) :=
  Con.soundH (c := k30) (C := keb) TBok ⟨inf_ok, all_nil, all_nil⟩ mix Try.func101 (show Try.f101.body = some kke by kernel_rfl) (show Try.f101.ntmps = 51 by kernel_rfl) (show Try.f101.results.toList = ko3 by kernel_rfl) rfl h (k1dl o)
set_option maxRecDepth 100000 in
theorem k1fi {p0 : Int} {p1 : Int} {r0 : Int} {r1 : Int} (h :
(let v2 : Int := IntKind.u64.wrap ((iand .u64 p0 4294967295) * (iand .u64 p1 4294967295))
 let v3 : Int := IntKind.u64.wrap ((ishr .u64 p0 32) * (iand .u64 p1 4294967295))
 let v4 : Int := IntKind.u64.wrap (v3 + (ishr .u64 v2 32))
 let v5 : Int := IntKind.u64.wrap ((iand .u64 p0 4294967295) * (ishr .u64 p1 32))
 let v6 : Int := IntKind.u64.wrap ((iand .u64 v4 4294967295) + v5)
 let v7 : Int := IntKind.u64.wrap ((ishr .u64 p0 32) * (ishr .u64 p1 32))
 let v8 : Int := IntKind.u64.wrap (v7 + (ishr .u64 v4 32))
 let v9 : Int := IntKind.u64.wrap (v8 + (ishr .u64 v6 32))
 v9 = r0 ∧ IntKind.u64.wrap (p0 * p1) = r1)) : kkm (p0, p1, ()) (r0, r1, ()) := WPh.of_eq (by kernel_rfl) h
theorem bd101 : Callable Try.prog 101 := ⟨by rw [Try.func101]; kernel_rfl, by rw [Try.func101]; show some _ ≠ some _; decide⟩
theorem k18n (p0 : Int) (p1 : Int) (h : U64 p0 ∧ U64 p1) : kkm (p0, p1, ()) ((p0 * p1 / 18446744073709551616 : Int), (p0 * p1 % 18446744073709551616 : Int), ()) := by
  obtain ⟨h0, h1⟩ := h
  have k := k1p8 p0 p1 h0 h1
  refine k1fi ?_
  simp only [kie p0 h0, kie p1 h1, ishr32]
  obtain ⟨e, k1, k2, k3, k4, k5, k6, k7, k8⟩ := k
  rw [← e]
  rw [wu (p0 % 4294967296 * (p1 % 4294967296)) (by omega) (by omega), wu (p0 / 4294967296 * (p1 % 4294967296)) (by omega) (by omega), wu (p0 % 4294967296 * (p1 / 4294967296)) (by omega) (by omega), wu (p0 / 4294967296 * (p1 / 4294967296)) (by omega) (by omega)]
  generalize p0 % 4294967296 * (p1 % 4294967296) = a at *
  generalize p0 / 4294967296 * (p1 % 4294967296) = b at *
  generalize p0 % 4294967296 * (p1 / 4294967296) = c at *
  generalize p0 / 4294967296 * (p1 / 4294967296) = d at *
  rw [wu (b + a / 4294967296) (by omega) (by omega), kie _ (by omega)]
  simp only [u64w]
  refine ⟨?_, trivial⟩
  omega
noncomputable def ku3 : Con TB.den := k30.fnR (fun x => (fun (p0 : Int) (p1 : Int) => U64 p0 ∧ U64 p1) x.1 x.2.1) fun x => ((fun (p0 : Int) (p1 : Int) => (p0 * p1 / 18446744073709551616 : Int)) x.1 x.2.1, (fun (p0 : Int) (p1 : Int) => (p0 * p1 % 18446744073709551616 : Int)) x.1 x.2.1, ())
theorem k1h7 : ku3.Ok Try.prog TB := Con.ok_fn k30 bd101 fun x h => k1b4 (k18n x.1 x.2.1 h)
end Go.Proofs.Ytnmakgfmimagmaa
namespace Go.Proofs.Ytnmakgfmimagmaa
open Go Go.Bv Go.Cv Go.Md Go.RowKit
def k3g : Con TB.den := Con.mk0 109 [.agg [.d (.int .u64)], .one (.d (.int .u64)), .one (.d (.int .u64))] [] (.one (.one (.d (.int .u64)))) []
abbrev k14z := HL TB.den (hsT k3g.ins (hsOs k3g.pre))
abbrev kn6 := HL TB.den (hsV k3g.res (hsOs k3g.post))
noncomputable def kg1 : Cx TB := ⟨inf, [ku3, kts], [], 4⟩
noncomputable def kmk : Code := Try.f109.body.getD .skip
noncomputable def kpz : List ResultVar := Try.f109.results.toList
noncomputable def k11b (o : kn6) : An TB := .no
noncomputable def km3 (x : k14z) (o : kn6) : Prop := WPh TB kg1 26 0 kmk (k11b o) (k3g.st TB x) (retTQ TB kg1 k3g kpz o)
set_option maxRecDepth 100000 in
theorem k1gr (o : kn6) : OblH TB kg1 26 0 kmk (k11b o) (retTQ TB kg1 k3g kpz o) :=
  OblH.of_eq (X := (True ∧ (True ∧ (True ∧ (True ∧ True))))) (by kernel_rfl) ⟨trivial, ⟨trivial, ⟨trivial, ⟨trivial, trivial⟩⟩⟩⟩
set_option maxRecDepth 100000 in
theorem k1h1 {x : k14z} {o : kn6} (h : km3 x o) : SoundH Try.prog k3g.f ((k3g.args idf x).map (er TB)) ((k3g.obs idf x).map (erO TB)) (er TB (k3g.val idf o)) ((k3g.ops idf o).map (erO TB)) :=
  Con.soundH (c := k3g) (C := kg1) TBok ⟨inf_ok, (all_cons k1h7 (all_cons k1h2 all_nil)), all_nil⟩ mix Try.func109 (show Try.f109.body = some kmk by kernel_rfl) (show Try.f109.ntmps = 26 by kernel_rfl) (show Try.f109.results.toList = kpz by kernel_rfl) rfl h (k1gr o)
set_option maxRecDepth 100000 in
theorem k1jm {p0 : TField} {p1 : Int} {p2 : Int} {r0 : Int} (h :
((U64 p1 ∧ U64 p2) ∧ (U64 (p1 * p2 / 18446744073709551616) ∧ U64 (p1 * p2 % 18446744073709551616) ∧ U64 p0.P ∧ (p1 * p2 / 18446744073709551616) < p0.P) ∧ let r1 : Int := ((p1 * p2 / 18446744073709551616) * 18446744073709551616 + (p1 * p2 % 18446744073709551616)) / p0.P
 let r2 : Int := ((p1 * p2 / 18446744073709551616) * 18446744073709551616 + (p1 * p2 % 18446744073709551616)) % p0.P
 r2 = r0)) : km3 (p0.P, p1, p2, ()) (r0, ()) := WPh.of_eq (by kernel_rfl) h
theorem bd109 : Callable Try.prog 109 := ⟨by rw [Try.func109]; kernel_rfl, by rw [Try.func109]; show some _ ≠ some _; decide⟩
theorem k1c3 (p0 : TField) (p1 : Int) (p2 : Int) (h : p0.P = 18446744069414584321 ∧ (0 ≤ p1 ∧ p1 < 18446744069414584321) ∧ (0 ≤ p2 ∧ p2 < 18446744069414584321)) : km3 (p0.P, p1, p2, ()) ((p1 * p2 % 18446744069414584321 : Int), ()) := by
  obtain ⟨hP, h1, h2⟩ := h
  have h3 : 0 ≤ p1 * p2 := Int.mul_nonneg h1.1 h2.1
  have h4 : p1 * p2 ≤ 18446744069414584320 * 18446744069414584320 := Int.mul_le_mul (by omega) (by omega) h2.1 (by omega)
  refine k1jm ⟨⟨by omega, by omega⟩, ?_⟩
  simp only [hP]
  generalize p1 * p2 = m at *
  refine ⟨⟨⟨by omega, by omega⟩, ⟨by omega, by omega⟩, by omega, by omega⟩, ?_⟩
  rw [show m / 18446744073709551616 * 18446744073709551616 + m % 18446744073709551616 = m by omega]
noncomputable def ko6 : Con TB.den := k3g.fnR (fun x => (fun (p0 : TField) (p1 : Int) (p2 : Int) => p0.P = 18446744069414584321 ∧ (0 ≤ p1 ∧ p1 < 18446744069414584321) ∧ (0 ≤ p2 ∧ p2 < 18446744069414584321)) (TField.mk x.1) x.2.1 x.2.2.1) fun x => ((fun (p0 : TField) (p1 : Int) (p2 : Int) => (p1 * p2 % 18446744069414584321 : Int)) (TField.mk x.1) x.2.1 x.2.2.1, ())
theorem k100 : ko6.Ok Try.prog TB := Con.ok_fn k3g bd109 fun x h => k1h1 (k1c3 (TField.mk x.1) x.2.1 x.2.2.1 h)
end Go.Proofs.Ytnmakgfmimagmaa
namespace Go.Proofs.Ytnmakgfmimagmaa
open Go Go.Bv Go.Cv Go.Md Go.RowKit
def k3f : Con TB.den := Con.mk0 99 [.agg [.d (.int .u64)], .one (.d (.int .u64)), .one (.d (.int .u64))] [] (.one (.one (.d (.int .u64)))) []
abbrev k14v := HL TB.den (hsT k3f.ins (hsOs k3f.pre))
abbrev kn7 := HL TB.den (hsV k3f.res (hsOs k3f.post))
noncomputable def kgc : Cx TB := ⟨inf, [k73, k95, ko6], [], 4⟩
noncomputable def klz : Code := Try.f99.body.getD .skip
noncomputable def kr2 : List ResultVar := Try.f99.results.toList
noncomputable def k10e (o : kn7) : An TB := .no
noncomputable def klu (x : k14v) (o : kn7) : Prop := WPh TB kgc 18 0 klz (k10e o) (k3f.st TB x) (retTQ TB kgc k3f kr2 o)
set_option maxRecDepth 100000 in
theorem k1hd (o : kn7) : OblH TB kgc 18 0 klz (k10e o) (retTQ TB kgc k3f kr2 o) :=
  OblH.of_eq (X := (True ∧ ((True ∧ ((True ∧ True) ∧ True)) ∧ (True ∧ True)))) (by kernel_rfl) ⟨trivial, ⟨⟨trivial, ⟨⟨trivial, trivial⟩, trivial⟩⟩, ⟨trivial, trivial⟩⟩⟩
set_option maxRecDepth 100000 in
theorem k1hf {x : k14v} {o : kn7} (h : klu x o) : SoundH Try.prog k3f.f ((k3f.args idf x).map (er TB)) ((k3f.obs idf x).map (erO TB)) (er TB (k3f.val idf o)) ((k3f.ops idf o).map (erO TB)) :=
  Con.soundH (c := k3f) (C := kgc) TBok ⟨inf_ok, (all_cons k9k (all_cons kdm (all_cons k100 all_nil))), all_nil⟩ mix Try.func99 (show Try.f99.body = some klz by kernel_rfl) (show Try.f99.ntmps = 18 by kernel_rfl) (show Try.f99.results.toList = kr2 by kernel_rfl) rfl h (k1hd o)
set_option maxRecDepth 100000 in
theorem k1ih {p0 : TField} {p1 : Int} {p2 : Int} {r0 : Int} (h :
((p0.P = 18446744069414584321) ∧ ((!true) = true →
 0 = r0) ∧
((!true) = false →
(0 < p0.P ∧ 0 ≤ p1) ∧ (0 < p0.P ∧ 0 ≤ p2) ∧ (p0.P = 18446744069414584321 ∧ (0 ≤ (p1 % p0.P) ∧ (p1 % p0.P) < 18446744069414584321) ∧ (0 ≤ (p2 % p0.P) ∧ (p2 % p0.P) < 18446744069414584321)) ∧ let r1 : Int := (p1 % p0.P) * (p2 % p0.P) % 18446744069414584321
 r1 = r0))) : klu (p0.P, p1, p2, ()) (r0, ()) := WPh.of_eq (by kernel_rfl) h
theorem bd99 : Callable Try.prog 99 := ⟨by rw [Try.func99]; kernel_rfl, by rw [Try.func99]; show some _ ≠ some _; decide⟩
theorem k1bn (p0 : TField) (p1 : Int) (p2 : Int) (h : p0.P = 18446744069414584321 ∧ U64 p1 ∧ U64 p2) : klu (p0.P, p1, p2, ()) ((p1 * p2 % 18446744069414584321 : Int), ()) := by
  obtain ⟨hP, h1, h2⟩ := h
  refine k1ih ⟨hP, ?_⟩
  simp only [hP]
  refine ⟨fun h => by simp at h, fun _ => ⟨by omega, by omega, ⟨by trivial, by omega, by omega⟩, ?_⟩⟩
  exact (Int.mul_emod _ _ _).symm
noncomputable def kxf : Con TB.den := k3f.fnR (fun x => (fun (p0 : TField) (p1 : Int) (p2 : Int) => p0.P = 18446744069414584321 ∧ U64 p1 ∧ U64 p2) (TField.mk x.1) x.2.1 x.2.2.1) fun x => ((fun (p0 : TField) (p1 : Int) (p2 : Int) => (p1 * p2 % 18446744069414584321 : Int)) (TField.mk x.1) x.2.1 x.2.2.1, ())
theorem k1lg : kxf.Ok Try.prog TB := Con.ok_fn k3f bd99 fun x h => k1hf (k1bn (TField.mk x.1) x.2.1 x.2.2.1 h)
end Go.Proofs.Ytnmakgfmimagmaa
namespace Go.Proofs.Ytnmakgfmimagmaa
open Go Go.Bv Go.Cv Go.Md Go.RowKit
def k1l : Con TB.den := Con.mk0 117 [.agg [.d (.int .u64)]] [] (.tup [.one (.d (.int .u64)), .one (.d (.int .i64)), .one (.d (.int .u64))]) []
abbrev ksn := HL TB.den (hsT k1l.ins (hsOs k1l.pre))
abbrev kf2 := HL TB.den (hsV k1l.res (hsOs k1l.post))
noncomputable def kae : Cx TB := ⟨inf, [], [], 4⟩
noncomputable def kg3 : Code := Try.f117.body.getD .skip
noncomputable def kj2 : List ResultVar := Try.f117.results.toList
noncomputable def kpq (o : kf2) : An TB := .no
noncomputable def kfv (x : ksn) (o : kf2) : Prop := WPh TB kae 21 0 kg3 (kpq o) (k1l.st TB x) (retTQ TB kae k1l kj2 o)
set_option maxRecDepth 100000 in
theorem k130 (o : kf2) : OblH TB kae 21 0 kg3 (kpq o) (retTQ TB kae k1l kj2 o) :=
  OblH.of_eq (X := (True ∧ ((True ∧ (True ∧ ((True ∧ True) ∧ (True ∧ ((True ∧ True) ∧ (True ∧ ((True ∧ True) ∧ (True ∧ ((True ∧ True) ∧ (True ∧ ((True ∧ True) ∧ (True ∧ ((True ∧ True) ∧ (True ∧ ((True ∧ True) ∧ True))))))))))))))) ∧ (True ∧ True)))) (by kernel_rfl) ⟨trivial, ⟨⟨trivial, ⟨trivial, ⟨⟨trivial, trivial⟩, ⟨trivial, ⟨⟨trivial, trivial⟩, ⟨trivial, ⟨⟨trivial, trivial⟩, ⟨trivial, ⟨⟨trivial, trivial⟩, ⟨trivial, ⟨⟨trivial, trivial⟩, ⟨trivial, ⟨⟨trivial, trivial⟩, ⟨trivial, ⟨⟨trivial, trivial⟩, trivial⟩⟩⟩⟩⟩⟩⟩⟩⟩⟩⟩⟩⟩⟩⟩, ⟨trivial, trivial⟩⟩⟩
set_option maxRecDepth 100000 in
theorem k12u {x : ksn} {o : kf2} (h : kfv x o) : SoundH Try.prog k1l.f ((k1l.args idf x).map (er TB)) ((k1l.obs idf x).map (erO TB)) (er TB (k1l.val idf o)) ((k1l.ops idf o).map (erO TB)) :=
  Con.soundH (c := k1l) (C := kae) TBok ⟨inf_ok, all_nil, all_nil⟩ mix Try.func117 (show Try.f117.body = some kg3 by kernel_rfl) (show Try.f117.ntmps = 21 by kernel_rfl) (show Try.f117.results.toList = kj2 by kernel_rfl) rfl h (k130 o)
set_option maxRecDepth 100000 in
theorem k17d {p0 : TField} {r0 : Int} {r1 : Int} {r2 : Int} (h :
(((p0.P == 17) = true →
 3 = r0 ∧ 4 = r1 ∧ 3 = r2) ∧
((p0.P == 17) = false →
((p0.P == 97) = true →
 5 = r0 ∧ 5 = r1 ∧ 5 = r2) ∧
((p0.P == 97) = false →
((p0.P == 193) = true →
 5 = r0 ∧ 6 = r1 ∧ 5 = r2) ∧
((p0.P == 193) = false →
((p0.P == 257) = true →
 3 = r0 ∧ 8 = r1 ∧ 3 = r2) ∧
((p0.P == 257) = false →
((p0.P == 12289) = true →
 11 = r0 ∧ 12 = r1 ∧ 5 = r2) ∧
((p0.P == 12289) = false →
((p0.P == 65537) = true →
 3 = r0 ∧ 16 = r1 ∧ 3 = r2) ∧
((p0.P == 65537) = false →
((p0.P == 18446744069414584321) = true →
 7 = r0 ∧ 32 = r1 ∧ 7 = r2) ∧
((p0.P == 18446744069414584321) = false →
 0 = r0 ∧ 0 = r1 ∧ 0 = r2))))))))) : kfv (p0.P, ()) (r0, r1, r2, ()) := WPh.of_eq (by kernel_rfl) h
theorem bd117 : Callable Try.prog 117 := ⟨by rw [Try.func117]; kernel_rfl, by rw [Try.func117]; show some _ ≠ some _; decide⟩
theorem k107 (p0 : TField) (h : p0.P = 18446744069414584321) : kfv (p0.P, ()) ((7 : Int), (32 : Int), (7 : Int), ()) := by
  refine k17d ?_
  simp [h]
noncomputable def kow : Con TB.den := k1l.fnR (fun x => (fun (p0 : TField) => p0.P = 18446744069414584321) (TField.mk x.1)) fun x => ((fun (p0 : TField) => (7 : Int)) (TField.mk x.1), (fun (p0 : TField) => (32 : Int)) (TField.mk x.1), (fun (p0 : TField) => (7 : Int)) (TField.mk x.1), ())
theorem k16e : kow.Ok Try.prog TB := Con.ok_fn k1l bd117 fun x h => k12u (k107 (TField.mk x.1) h)
end Go.Proofs.Ytnmakgfmimagmaa
namespace Go.Proofs.Ytnmakgfmimagmaa
open Go Go.Bv Go.Cv Go.Md Go.RowKit
def k1b : Con TB.den := Con.mk0 110 [.agg [.d (.int .u64)]] [] (.one (.one (.d (.int .u64)))) []
abbrev kph := HL TB.den (hsT k1b.ins (hsOs k1b.pre))
abbrev kdf := HL TB.den (hsV k1b.res (hsOs k1b.post))
noncomputable def k92 : Cx TB := ⟨inf, [kow], [], 4⟩
noncomputable def ket : Code := Try.f110.body.getD .skip
noncomputable def khh : List ResultVar := Try.f110.results.toList
noncomputable def koj (o : kdf) : An TB := .no
noncomputable def kes (x : kph) (o : kdf) : Prop := WPh TB k92 13 0 ket (koj o) (k1b.st TB x) (retTQ TB k92 k1b khh o)
set_option maxRecDepth 100000 in
theorem k10h (o : kdf) : OblH TB k92 13 0 ket (koj o) (retTQ TB k92 k1b khh o) :=
  OblH.of_eq (X := (True ∧ (True ∧ (True ∧ True)))) (by kernel_rfl) ⟨trivial, ⟨trivial, ⟨trivial, trivial⟩⟩⟩
set_option maxRecDepth 100000 in
theorem k11w {x : kph} {o : kdf} (h : kes x o) : SoundH Try.prog k1b.f ((k1b.args idf x).map (er TB)) ((k1b.obs idf x).map (erO TB)) (er TB (k1b.val idf o)) ((k1b.ops idf o).map (erO TB)) :=
  Con.soundH (c := k1b) (C := k92) TBok ⟨inf_ok, (all_cons k16e all_nil), all_nil⟩ mix Try.func110 (show Try.f110.body = some ket by kernel_rfl) (show Try.f110.ntmps = 13 by kernel_rfl) (show Try.f110.results.toList = khh by kernel_rfl) rfl h (k10h o)
set_option maxRecDepth 100000 in
theorem k13n {p0 : TField} {r0 : Int} (h :
((p0.P = 18446744069414584321) ∧ 7 = r0)) : kes (p0.P, ()) (r0, ()) := WPh.of_eq (by kernel_rfl) h
theorem bd110 : Callable Try.prog 110 := ⟨by rw [Try.func110]; kernel_rfl, by rw [Try.func110]; show some _ ≠ some _; decide⟩
theorem kyw (p0 : TField) (h : p0.P = 18446744069414584321) : kes (p0.P, ()) ((7 : Int), ()) := by
  exact k13n ⟨h, rfl⟩
noncomputable def knn : Con TB.den := k1b.fnR (fun x => (fun (p0 : TField) => p0.P = 18446744069414584321) (TField.mk x.1)) fun x => ((fun (p0 : TField) => (7 : Int)) (TField.mk x.1), ())
theorem k13b : knn.Ok Try.prog TB := Con.ok_fn k1b bd110 fun x h => k11w (kyw (TField.mk x.1) h)
end Go.Proofs.Ytnmakgfmimagmaa
