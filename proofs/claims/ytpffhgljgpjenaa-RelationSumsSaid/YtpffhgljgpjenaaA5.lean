/-
  Parts of the proofs that the laws of this seat hold of every input, merged by a program: a machine over pure data that is sound for the model, what each function of the translation does in it, and plain lemmas. No conditions but those in each theorem.
-/
import Derived.Test.YtpffhgljgpjenaaA4
set_option linter.all false
namespace Go.Proofs.Ytpffhgljgpjenaa
open Go Go.Bv Go.Cv Go.Md Go.RowKit
def kc : Con TB.den := Con.mk0 112 [.one (.d (.int .u64)), .agg [.d (.int .u64), .d (.int .u64), .d (.int .u64)]] [] (.one (.agg [.d (.int .u64), .d (.int .u64), .d (.int .u64)])) []
abbrev kdz := HL TB.den (hsT kc.ins (hsOs kc.pre))
abbrev kh := HL TB.den (hsV kc.res (hsOs kc.post))
noncomputable def k14 : Cx TB := ⟨inf, [k58, khh, kb1, kcu, kqh, kfd], [], 4⟩
noncomputable def k29 : Code := Try.f112.body.getD .skip
noncomputable def k4u : List ResultVar := Try.f112.results.toList
noncomputable def kmi (o : kh) : Exit → TSt TB.den → Prop := thenT TB (fun s => ghs TB [] s fun s => WP TB k14 43 0 (cB (cB (cB (cB (cB k29))))) .no s (retTQ TB k14 kc k4u o)) (retTQ TB k14 kc k4u o)
def ka : Tm := ⟨[0, 1, 2], [.cells [.d (.int .u64), .d (.int .u64), .d (.int .u64)], .cells [.d (.int .u64), .d (.int .u64), .d (.int .u64)], .cells [.d (.int .u64)]], [0, 3, 4, 5, 6, 17], [.one (.d (.int .u64)), .one (.ptr 0 0), .one (.ptr 1 0), .one (.ptr 2 0), .one (.d (.int .u64)), .one (.d (.int .i64))], 3⟩
noncomputable def k86 (o : kh) (nx2 : HL TB.den ka.hs → Prop) : Exit → TSt TB.den → Prop := thenT TB (fun s => ka.mat TB 0 s nx2) (blockT TB 0 (kmi o))
noncomputable def kcc (o : kh) (nx2 : HL TB.den ka.hs → Prop) : Exit → TSt TB.den → Prop := thenT TB (fun s => ghs TB [] s fun s => WP TB k14 43 0 (cB (cB (cB (cA (cA (cB (cA (cB (cB (cB (cB k29))))))))))) .no s (k86 o nx2)) (k86 o nx2)
noncomputable def km8 (o : kh) (nx2 : HL TB.den ka.hs → Prop) : Exit → TSt TB.den → Prop := thenT TB (fun s => ghs TB [] s fun s => WP TB k14 43 0 (cB (cB (cA (cA (cB (cB (cA (cA (cB (cA (cB (cB (cB (cB k29)))))))))))))) .no s (blockT TB 1 (kcc o nx2))) (blockT TB 1 (kcc o nx2))
def k39 : Tm := ⟨[0, 1, 2], [.cells [.d (.int .u64), .d (.int .u64), .d (.int .u64)], .cells [.d (.int .u64), .d (.int .u64), .d (.int .u64)], .cells [.d (.int .u64)]], [0, 3, 4, 5, 6, 7, 17, 20], [.one (.d (.int .u64)), .one (.ptr 0 0), .one (.ptr 1 0), .one (.ptr 2 0), .one (.d (.int .u64)), .one (.d (.int .i64)), .one (.d (.int .i64)), .one (.d (.int .i64))], 3⟩
noncomputable def kmd (o : kh) (nx2 : HL TB.den ka.hs → Prop) (nx1 : HL TB.den k39.hs → Prop) : Exit → TSt TB.den → Prop := thenT TB (fun s => k39.mat TB 0 s nx1) (blockT TB 2 (km8 o nx2))
noncomputable def k4v (o : kh) (nx2 : HL TB.den ka.hs → Prop) (nx1 : HL TB.den k39.hs → Prop) (i : HL TB.den k39.hs) : Prop := WP TB k14 43 0 (cA (cA (cB (cA (cB (cA (cA (cB (cB (cA (cA (cB (cA (cB (cB (cB (cB k29))))))))))))))))) .no (k39.fill TB i) (kmd o nx2 nx1)
noncomputable def km4 (o : kh) (nx2 : HL TB.den ka.hs → Prop) : An TB := .lp [] k39 (k4v o nx2) fun nx1 => .no
noncomputable def kly (o : kh) (nx2 : HL TB.den ka.hs → Prop) : An TB := .nd [] .no [] (.nd [] (.nd [] .no [] (km4 o nx2)) [] .no)
noncomputable def kbx (o : kh) (nx2 : HL TB.den ka.hs → Prop) : An TB := .nd [] .no [] (.nd [] .no [] (.nd [] (kly o nx2) [] .no))
noncomputable def k4s (o : kh) (nx2 : HL TB.den ka.hs → Prop) (i : HL TB.den ka.hs) : Prop := WP TB k14 43 0 (cA (cA (cB (cA (cB (cB (cB (cB k29)))))))) (kbx o nx2) (ka.fill TB i) (k86 o nx2)
noncomputable def kkn (o : kh) : An TB := .lp [] ka (k4s o) fun nx2 => (kbx o nx2)
noncomputable def kkt (o : kh) : An TB := .nd [] .no [] (.nd [] (.nd [] .no [] (kkn o)) [] .no)
noncomputable def kcj (o : kh) : An TB := .nd [] .no [] (.nd [] .no [] (.nd [] .no [] (kkt o)))
noncomputable def k79 (x : kdz) (o : kh) : Prop := WPh TB k14 43 0 k29 (kcj o) (kc.st TB x) (retTQ TB k14 kc k4u o)
set_option maxRecDepth 100000 in
theorem kku (o : kh) : OblH TB k14 43 0 k29 (kcj o) (retTQ TB k14 kc k4u o) :=
  OblH.of_eq (X := (True ∧ (True ∧ ((True ∧ ((True ∧ True) ∧ True)) ∧ (True ∧ ((True ∧ ((∀ nx i, (k4s o) nx i = (k4s o) nx i) ∧ ∀ nx2 : HL TB.den ka.hs → Prop, (True ∧ ((True ∧ True) ∧ ((True ∧ ((True ∧ ((∀ nx i, (k4v o nx2) nx i = (k4v o nx2) nx i) ∧ ∀ nx1 : HL TB.den k39.hs → Prop, (True ∧ ((True ∧ True) ∧ ((True ∧ True) ∧ True))))) ∧ True)) ∧ True))))) ∧ (True ∧ True))))))) (by kernel_rfl) ⟨trivial, ⟨trivial, ⟨⟨trivial, ⟨⟨trivial, trivial⟩, trivial⟩⟩, ⟨trivial, ⟨⟨trivial, ⟨fun _ _ => rfl, fun _ => ⟨trivial, ⟨⟨trivial, trivial⟩, ⟨⟨trivial, ⟨⟨trivial, ⟨fun _ _ => rfl, fun _ => ⟨trivial, ⟨⟨trivial, trivial⟩, ⟨⟨trivial, trivial⟩, trivial⟩⟩⟩⟩⟩, trivial⟩⟩, trivial⟩⟩⟩⟩⟩, ⟨trivial, trivial⟩⟩⟩⟩⟩⟩
set_option maxRecDepth 100000 in
theorem kki {x : kdz} {o : kh} (h : k79 x o) : SoundH Try.prog kc.f ((kc.args idf x).map (er TB)) ((kc.obs idf x).map (erO TB)) (er TB (kc.val idf o)) ((kc.ops idf o).map (erO TB)) :=
  Con.soundH (c := kc) (C := k14) TBok ⟨inf_ok, (all_cons k76 (all_cons kun (all_cons kkv (all_cons kkd (all_cons k14o (all_cons ks2 all_nil)))))), all_nil⟩ mix Try.func112 (show Try.f112.body = some k29 by kernel_rfl) (show Try.f112.ntmps = 43 by kernel_rfl) (show Try.f112.results.toList = k4u by kernel_rfl) rfl h (kku o)
set_option maxRecDepth 100000 in
theorem kmk {p0 : Int} {p1 : TA3} {r0 : TA3} (h :
(((TField.mk p0).P = 18446744069414584321) ∧ ((!true) = true →
 0 = r0.a0 ∧ 0 = r0.a1 ∧ 0 = r0.a2) ∧
((!true) = false →
((TField.mk p0).P = 18446744069414584321) ∧ Md.Loop (p0, (7 : Int), (0 : Int), p1.a0, p1.a1, p1.a2, (0 : Int), (0 : Int), (0 : Int), p0, ()) (k4s (r0.a0, r0.a1, r0.a2, ()))))) : k79 (p0, p1.a0, p1.a1, p1.a2, ()) (r0.a0, r0.a1, r0.a2, ()) := WPh.of_eq (by kernel_rfl) h
def kck (r0 : TA3) (nx2 : HL TB.den ka.hs → Prop) (k2 : Int → Int → Int → Int → Prop) (s0 : Int) (s6 : Int) (h1_0 : Int) (h1_1 : Int) (h1_2 : Int) (h2_0 : Int) (s17 : Int) (h0_0 : Int) (h0_1 : Int) (h0_2 : Int) : Prop :=
(decide (s17 < 8) = true →
 Md.Loop (s0, s6, s17, s17, (0 : Int), h0_0, h0_1, h0_2, h1_0, h1_1, h1_2, h2_0, ()) (k4v (r0.a0, r0.a1, r0.a2, ()) nx2)) ∧
(decide (s17 < 8) = false →
 h0_0 = r0.a0 ∧ h0_1 = r0.a1 ∧ h0_2 = r0.a2)
set_option maxRecDepth 100000 in
theorem kkl {r0 : TA3} {s0 : Int} {s6 : Int} {h1_0 : Int} {h1_1 : Int} {h1_2 : Int} {h2_0 : Int} {s17 : Int} {h0_0 : Int} {h0_1 : Int} {h0_2 : Int} (inv : Int → Int → Int → Int → Prop) (μ : Int → Int → Int → Int → Nat) (h0 : inv s17 h0_0 h0_1 h0_2) (hs : ∀ (s17 : Int) (h0_0 : Int) (h0_1 : Int) (h0_2 : Int), inv s17 h0_0 h0_1 h0_2 → kck r0 (fun s : Int × Int × Int × Int × Int × Int × Int × Int × Int × Int × Unit => ((s.1 = s0 ∧ s.2.1 = s6 ∧ s.2.2.2.2.2.2.1 = h1_0 ∧ s.2.2.2.2.2.2.2.1 = h1_1 ∧ s.2.2.2.2.2.2.2.2.1 = h1_2 ∧ s.2.2.2.2.2.2.2.2.2.1 = h2_0) ∧ inv s.2.2.1 s.2.2.2.1 s.2.2.2.2.1 s.2.2.2.2.2.1) ∧ μ s.2.2.1 s.2.2.2.1 s.2.2.2.2.1 s.2.2.2.2.2.1 < μ s17 h0_0 h0_1 h0_2) (fun s17q h0_0q h0_1q h0_2q => inv s17q h0_0q h0_1q h0_2q ∧ μ s17q h0_0q h0_1q h0_2q < μ s17 h0_0 h0_1 h0_2) s0 s6 h1_0 h1_1 h1_2 h2_0 s17 h0_0 h0_1 h0_2) : Md.Loop (s0, s6, s17, h0_0, h0_1, h0_2, h1_0, h1_1, h1_2, h2_0, ()) (k4s (r0.a0, r0.a1, r0.a2, ())) :=
  ⟨⟨fun s : Int × Int × Int × Int × Int × Int × Int × Int × Int × Int × Unit => (s.1 = s0 ∧ s.2.1 = s6 ∧ s.2.2.2.2.2.2.1 = h1_0 ∧ s.2.2.2.2.2.2.2.1 = h1_1 ∧ s.2.2.2.2.2.2.2.2.1 = h1_2 ∧ s.2.2.2.2.2.2.2.2.2.1 = h2_0) ∧ inv s.2.2.1 s.2.2.2.1 s.2.2.2.2.1 s.2.2.2.2.2.1, fun s : Int × Int × Int × Int × Int × Int × Int × Int × Int × Int × Unit => μ s.2.2.1 s.2.2.2.1 s.2.2.2.2.1 s.2.2.2.2.2.1, ⟨⟨rfl, rfl, rfl, rfl, rfl, rfl⟩, h0⟩, fun (s0p, s6p, s17p, h0_0p, h0_1p, h0_2p, h1_0p, h1_1p, h1_2p, h2_0p, ()) ⟨⟨eq0, eq1, eq2, eq3, eq4, eq5⟩, hi⟩ => by
    have eq0 : s0p = s0 := eq0; subst s0p; have eq1 : s6p = s6 := eq1; subst s6p; have eq2 : h1_0p = h1_0 := eq2; subst h1_0p; have eq3 : h1_1p = h1_1 := eq3; subst h1_1p; have eq4 : h1_2p = h1_2 := eq4; subst h1_2p; have eq5 : h2_0p = h2_0 := eq5; subst h2_0p; exact mpr_of (by kernel_rfl) ((congrArg (fun k => kck r0 (fun s : Int × Int × Int × Int × Int × Int × Int × Int × Int × Int × Unit => ((s.1 = s0 ∧ s.2.1 = s6 ∧ s.2.2.2.2.2.2.1 = h1_0 ∧ s.2.2.2.2.2.2.2.1 = h1_1 ∧ s.2.2.2.2.2.2.2.2.1 = h1_2 ∧ s.2.2.2.2.2.2.2.2.2.1 = h2_0) ∧ inv s.2.2.1 s.2.2.2.1 s.2.2.2.2.1 s.2.2.2.2.2.1) ∧ μ s.2.2.1 s.2.2.2.1 s.2.2.2.2.1 s.2.2.2.2.2.1 < μ s17p h0_0p h0_1p h0_2p) k s0 s6 h1_0 h1_1 h1_2 h2_0 s17p h0_0p h0_1p h0_2p) (lpk4 (⟨rfl, rfl, rfl, rfl, rfl, rfl⟩ : s0 = s0 ∧ s6 = s6 ∧ h1_0 = h1_0 ∧ h1_1 = h1_1 ∧ h1_2 = h1_2 ∧ h2_0 = h2_0) inv (fun s17q h0_0q h0_1q h0_2q => μ s17q h0_0q h0_1q h0_2q < μ s17p h0_0p h0_1p h0_2p))).mpr (hs s17p h0_0p h0_1p h0_2p hi))⟩⟩
def kcb (r0 : TA3) (nx2 : HL TB.den ka.hs → Prop) (k1 : Int → Int → Int → Int → Prop) (s0 : Int) (s6 : Int) (s7 : Int) (s17 : Int) (h1_0 : Int) (h1_1 : Int) (h1_2 : Int) (h2_0 : Int) (s20 : Int) (h0_0 : Int) (h0_1 : Int) (h0_2 : Int) : Prop :=
(decide (s20 < 3) = true →
(0 ≤ s20 ∧ s20 < (3 : Int)) ∧ (0 ≤ s20 ∧ s20 < (3 : Int)) ∧ (s0 = 18446744069414584321 ∧ (0 ≤ s7 ∧ s7 < 8) ∧ 0 ≤ s20 ∧ s20 < 3) ∧ ((TField.mk h2_0).P = 18446744069414584321 ∧ U64 (ix [h0_0, h0_1, h0_2] s20) ∧ U64 (rc s7 s20)) ∧ let r1 : Int := (((ix [h0_0, h0_1, h0_2] s20) + (rc s7 s20)) % 18446744069414584321)
((TField.mk h2_0).P = 18446744069414584321 ∧ U64 r1 ∧ U64 s6) ∧ (0 ≤ s20 ∧ s20 < (3 : Int)) ∧ (0 ≤ s20 ∧ s20 < (3 : Int)) ∧ k1 (IntKind.i64.wrap (s20 + 1) : Int) ((bif decide (s20 = (0 : Int)) then (pw (r1 % 18446744069414584321) s6) else h0_0) : Int) ((bif decide (s20 = (1 : Int)) then (pw (r1 % 18446744069414584321) s6) else h0_1) : Int) ((bif decide (s20 = (2 : Int)) then (pw (r1 % 18446744069414584321) s6) else h0_2) : Int)) ∧
(decide (s20 < 3) = false →
(s0 = 18446744069414584321 ∧ S3 (TA3.mk h0_0 h0_1 h0_2)) ∧ nx2 (s0, s6, (IntKind.i64.wrap (s17 + 1) : Int), ((mixS (TA3.mk h0_0 h0_1 h0_2)).a0 : Int), ((mixS (TA3.mk h0_0 h0_1 h0_2)).a1 : Int), ((mixS (TA3.mk h0_0 h0_1 h0_2)).a2 : Int), h1_0, h1_1, h1_2, h2_0, ()))
set_option maxRecDepth 100000 in
theorem kks {r0 : TA3} {nx2 : HL TB.den ka.hs → Prop} {s0 : Int} {s6 : Int} {s7 : Int} {s17 : Int} {h1_0 : Int} {h1_1 : Int} {h1_2 : Int} {h2_0 : Int} {s20 : Int} {h0_0 : Int} {h0_1 : Int} {h0_2 : Int} (inv : Int → Int → Int → Int → Prop) (μ : Int → Int → Int → Int → Nat) (h0 : inv s20 h0_0 h0_1 h0_2) (hs : ∀ (s20 : Int) (h0_0 : Int) (h0_1 : Int) (h0_2 : Int), inv s20 h0_0 h0_1 h0_2 → kcb r0 nx2 (fun s20q h0_0q h0_1q h0_2q => inv s20q h0_0q h0_1q h0_2q ∧ μ s20q h0_0q h0_1q h0_2q < μ s20 h0_0 h0_1 h0_2) s0 s6 s7 s17 h1_0 h1_1 h1_2 h2_0 s20 h0_0 h0_1 h0_2) : Md.Loop (s0, s6, s7, s17, s20, h0_0, h0_1, h0_2, h1_0, h1_1, h1_2, h2_0, ()) (k4v (r0.a0, r0.a1, r0.a2, ()) nx2) :=
  ⟨⟨fun s : Int × Int × Int × Int × Int × Int × Int × Int × Int × Int × Int × Int × Unit => (s.1 = s0 ∧ s.2.1 = s6 ∧ s.2.2.1 = s7 ∧ s.2.2.2.1 = s17 ∧ s.2.2.2.2.2.2.2.2.1 = h1_0 ∧ s.2.2.2.2.2.2.2.2.2.1 = h1_1 ∧ s.2.2.2.2.2.2.2.2.2.2.1 = h1_2 ∧ s.2.2.2.2.2.2.2.2.2.2.2.1 = h2_0) ∧ inv s.2.2.2.2.1 s.2.2.2.2.2.1 s.2.2.2.2.2.2.1 s.2.2.2.2.2.2.2.1, fun s : Int × Int × Int × Int × Int × Int × Int × Int × Int × Int × Int × Int × Unit => μ s.2.2.2.2.1 s.2.2.2.2.2.1 s.2.2.2.2.2.2.1 s.2.2.2.2.2.2.2.1, ⟨⟨rfl, rfl, rfl, rfl, rfl, rfl, rfl, rfl⟩, h0⟩, fun (s0p, s6p, s7p, s17p, s20p, h0_0p, h0_1p, h0_2p, h1_0p, h1_1p, h1_2p, h2_0p, ()) ⟨⟨eq0, eq1, eq2, eq3, eq4, eq5, eq6, eq7⟩, hi⟩ => by
    have eq0 : s0p = s0 := eq0; subst s0p; have eq1 : s6p = s6 := eq1; subst s6p; have eq2 : s7p = s7 := eq2; subst s7p; have eq3 : s17p = s17 := eq3; subst s17p; have eq4 : h1_0p = h1_0 := eq4; subst h1_0p; have eq5 : h1_1p = h1_1 := eq5; subst h1_1p; have eq6 : h1_2p = h1_2 := eq6; subst h1_2p; have eq7 : h2_0p = h2_0 := eq7; subst h2_0p; exact mpr_of (by kernel_rfl) ((congrArg (fun k => kcb r0 nx2 k s0 s6 s7 s17 h1_0 h1_1 h1_2 h2_0 s20p h0_0p h0_1p h0_2p) (lpk4 (⟨rfl, rfl, rfl, rfl, rfl, rfl, rfl, rfl⟩ : s0 = s0 ∧ s6 = s6 ∧ s7 = s7 ∧ s17 = s17 ∧ h1_0 = h1_0 ∧ h1_1 = h1_1 ∧ h1_2 = h1_2 ∧ h2_0 = h2_0) inv (fun s20q h0_0q h0_1q h0_2q => μ s20q h0_0q h0_1q h0_2q < μ s20p h0_0p h0_1p h0_2p))).mpr (hs s20p h0_0p h0_1p h0_2p hi))⟩⟩
theorem bd112 : Callable Try.prog 112 := ⟨by rw [Try.func112]; kernel_rfl, by rw [Try.func112]; show some _ ≠ some _; decide⟩
theorem kjl (p0 : Int) (p1 : TA3) (h : p0 = 18446744069414584321 ∧ S3 p1) : k79 (p0, p1.a0, p1.a1, p1.a2, ()) (((permS p1).a0 : Int), ((permS p1).a1 : Int), ((permS p1).a2 : Int), ()) := by
  obtain ⟨hP, hs⟩ := h
  subst hP
  refine kmk ⟨rfl, fun h => by simp at h, fun _ => ⟨rfl, ?_⟩⟩
  refine kkl (r0 := permS p1) (fun n a b c => 0 ≤ n ∧ n ≤ 8 ∧ (⟨a, b, c⟩ : TA3) = rnds n.toNat p1 ∧ S3 ⟨a, b, c⟩) (fun n _ _ _ => (8 - n).toNat) ⟨by omega, by omega, rfl, hs⟩ ?_
  rintro n a b c ⟨g0, g1, g2, g3⟩
  refine ⟨fun h => ?_, fun h => ?_⟩
  · have h := of_decide_eq_true h
    refine kks (r0 := permS p1) (fun i x y z => (i = 0 ∧ x = a ∧ y = b ∧ z = c) ∨ (i = 1 ∧ x = pw ((a + rc n 0) % 18446744069414584321) 7 ∧ y = b ∧ z = c) ∨ (i = 2 ∧ x = pw ((a + rc n 0) % 18446744069414584321) 7 ∧ y = pw ((b + rc n 1) % 18446744069414584321) 7 ∧ z = c) ∨ (i = 3 ∧ x = pw ((a + rc n 0) % 18446744069414584321) 7 ∧ y = pw ((b + rc n 1) % 18446744069414584321) 7 ∧ z = pw ((c + rc n 2) % 18446744069414584321) 7)) (fun i _ _ _ => (3 - i).toNat) (.inl ⟨rfl, rfl, rfl, rfl⟩) ?_
    intro i x y z hi
    have hrc : ∀ k, U64 (rc n k) := fun k => by unfold rc; omega
    have hpw : ∀ k e, 0 ≤ pw k e ∧ pw k e < 18446744069414584321 := fun k e => ⟨Int.emod_nonneg _ (by omega), Int.emod_lt_of_pos _ (by omega)⟩
    obtain ⟨h3a, h3b, h3c⟩ := g3
    refine ⟨fun hh => ?_, fun hh => ?_⟩
    · have hh := of_decide_eq_true hh
      rcases hi with ⟨rfl, rfl, rfl, rfl⟩ | ⟨rfl, rfl, rfl, rfl⟩ | ⟨rfl, rfl, rfl, rfl⟩ | ⟨rfl, _⟩
      · refine ⟨by omega, by omega, ⟨rfl, by omega, by omega⟩, ⟨rfl, h3a, hrc _⟩, ⟨rfl, ?_, by omega⟩, by omega, by omega, .inr (.inl ⟨rfl, ?_, rfl, rfl⟩), by decide⟩
        · exact ⟨Int.emod_nonneg _ (by omega), Int.lt_trans (Int.emod_lt_of_pos _ (by omega)) (by omega)⟩
        · show pw ((x + rc n 0) % 18446744069414584321 % 18446744069414584321) 7 = _
          rw [Int.emod_emod_of_dvd _ (Int.dvd_refl _)]
      · refine ⟨by omega, by omega, ⟨rfl, by omega, by omega⟩, ⟨rfl, h3b, hrc _⟩, ⟨rfl, ?_, by omega⟩, by omega, by omega, .inr (.inr (.inl ⟨rfl, rfl, ?_, rfl⟩)), by decide⟩
        · exact ⟨Int.emod_nonneg _ (by omega), Int.lt_trans (Int.emod_lt_of_pos _ (by omega)) (by omega)⟩
        · show pw ((y + rc n 1) % 18446744069414584321 % 18446744069414584321) 7 = _
          rw [Int.emod_emod_of_dvd _ (Int.dvd_refl _)]
      · refine ⟨by omega, by omega, ⟨rfl, by omega, by omega⟩, ⟨rfl, h3c, hrc _⟩, ⟨rfl, ?_, by omega⟩, by omega, by omega, .inr (.inr (.inr ⟨rfl, rfl, rfl, ?_⟩)), by decide⟩
        · exact ⟨Int.emod_nonneg _ (by omega), Int.lt_trans (Int.emod_lt_of_pos _ (by omega)) (by omega)⟩
        · show pw ((z + rc n 2) % 18446744069414584321 % 18446744069414584321) 7 = _
          rw [Int.emod_emod_of_dvd _ (Int.dvd_refl _)]
      · omega
    · have hh := of_decide_eq_false hh
      rcases hi with ⟨rfl, _⟩ | ⟨rfl, _⟩ | ⟨rfl, _⟩ | ⟨rfl, rfl, rfl, rfl⟩
      · omega
      · omega
      · omega
      · have e : rnds (n + 1).toNat p1 = rnd ⟨a, b, c⟩ n := by
          rw [show (n + 1).toNat = n.toNat + 1 by omega]
          show rnd (rnds n.toNat p1) (n.toNat : Int) = _
          rw [← g2, show (n.toNat : Int) = n by omega]
        have hS : S3 (rnds (n + 1).toNat p1) := by
          rw [e]
          unfold rnd mixS S3
          dsimp only
          omega
        have hinc : IntKind.i64.wrap (n + 1) = n + 1 := wi _ (by omega) (by omega)
        rw [hinc]
        refine ⟨⟨rfl, by unfold S3; have := hpw ((a + rc n 0) % 18446744069414584321) 7; have := hpw ((b + rc n 1) % 18446744069414584321) 7; have := hpw ((c + rc n 2) % 18446744069414584321) 7; dsimp only; omega⟩, ⟨⟨rfl, rfl, rfl, rfl, rfl, rfl⟩, (?_ : 0 ≤ n + 1 ∧ n + 1 ≤ 8 ∧ _ ∧ _)⟩, (?_ : (8 - (n + 1)).toNat < (8 - n).toNat)⟩
        · refine ⟨by omega, by omega, e.symm, ?_⟩
          rw [e] at hS
          exact hS
        · omega
  · have h := of_decide_eq_false h
    rw [show n = 8 by omega] at g2
    have g2 : (⟨a, b, c⟩ : TA3) = permS p1 := g2
    rw [← g2]
    exact ⟨rfl, rfl, rfl⟩
noncomputable def kc0 : Con TB.den := kc.fnR (fun x => (fun (p0 : Int) (p1 : TA3) => p0 = 18446744069414584321 ∧ S3 p1) x.1 (TA3.mk x.2.1 x.2.2.1 x.2.2.2.1)) fun x => ((fun (p0 : Int) (p1 : TA3) => ((permS p1).a0 : Int)) x.1 (TA3.mk x.2.1 x.2.2.1 x.2.2.2.1), (fun (p0 : Int) (p1 : TA3) => ((permS p1).a1 : Int)) x.1 (TA3.mk x.2.1 x.2.2.1 x.2.2.2.1), (fun (p0 : Int) (p1 : TA3) => ((permS p1).a2 : Int)) x.1 (TA3.mk x.2.1 x.2.2.1 x.2.2.2.1), ())
theorem kls : kc0.Ok Try.prog TB := Con.ok_fn kc bd112 fun x h => kki (kjl x.1 (TA3.mk x.2.1 x.2.2.1 x.2.2.2.1) h)
end Go.Proofs.Ytpffhgljgpjenaa
namespace Go.Proofs.Ytpffhgljgpjenaa
open Go Go.Bv Go.Cv Go.Md Go.RowKit
def k13 : Con TB.den := Con.mk0 104 [.one (.d (.int .u64)), .one (.d (.int .u64)), .one (.d (.sl (.int .u64)))] [] (.one (.agg [.d (.int .u64), .d (.int .u64), .d (.int .u64)])) []
abbrev kl7 := HL TB.den (hsT k13.ins (hsOs k13.pre))
abbrev k2d := HL TB.den (hsV k13.res (hsOs k13.post))
noncomputable def k2r : Cx TB := ⟨inf, [kpn, kcu, kc0], [], 4⟩
noncomputable def k46 : Code := Try.f104.body.getD .skip
noncomputable def k7b : List ResultVar := Try.f104.results.toList
noncomputable def kwg (o : k2d) : Exit → TSt TB.den → Prop := thenT TB (fun s => ghs TB [] s fun s => WP TB k2r 61 0 (cB (cB (cB (cB (cB k46))))) .no s (retTQ TB k2r k13 k7b o)) (retTQ TB k2r k13 k7b o)
def k1z : Tm := ⟨[0, 1, 38], [.cells [.d (.int .u64), .d (.int .u64), .d (.int .u64)], .cells [.d (.int .u64)], .cells [.d (.int .u64), .d (.int .u64), .d (.int .u64)]], [0, 2, 6, 7, 8, 9], [.one (.d (.int .u64)), .one (.d (.sl (.int .u64))), .one (.ptr 0 0), .one (.ptr 1 0), .one (.ptr 2 0), .one (.d (.int .i64))], 46⟩
noncomputable def kd4 (o : k2d) (nx1 : HL TB.den k1z.hs → Prop) : Exit → TSt TB.den → Prop := thenT TB (fun s => k1z.mat TB 0 s nx1) (blockT TB 0 (kwg o))
noncomputable def kvs (o : k2d) (nx1 : HL TB.den k1z.hs → Prop) : Exit → TSt TB.den → Prop := thenT TB (fun s => ghs TB [] s fun s => WP TB k2r 61 0 (cB (cB (cA (cA (cB (cA (cB (cB (cB (cB k46)))))))))) .no s (kd4 o nx1)) (kd4 o nx1)
def k8b : Tm := ⟨[0, 1, 38], [.cells [.d (.int .u64), .d (.int .u64), .d (.int .u64)], .cells [.d (.int .u64)], .cells [.d (.int .u64), .d (.int .u64), .d (.int .u64)]], [0, 2, 6, 7, 8, 9], [.one (.d (.int .u64)), .one (.d (.sl (.int .u64))), .one (.ptr 0 0), .one (.ptr 1 0), .one (.ptr 2 0), .one (.d (.int .i64))], 86⟩
noncomputable def ki5 (o : k2d) (nx1 : HL TB.den k1z.hs → Prop) (i : HL TB.den k8b.hs) : Prop := ghs TB [] (k8b.fill TB i) fun s => WP TB k2r 61 0 (cB (cB (cA (cA (cB (cA (cA (cB (cA (cB (cB (cB (cB k46))))))))))))) .no s (blockT TB 1 (kvs o nx1))
structure k5p (o : k2d) (nx1 : HL TB.den k1z.hs → Prop) (i : HL TB.den k8b.hs) : Prop where
  h : ki5 o nx1 i
noncomputable def kjk (o : k2d) (nx1 : HL TB.den k1z.hs → Prop) : An TB := .nd [] .no [] (.jn k8b (k5p o nx1) [] .no [] .no)
noncomputable def k7m (o : k2d) (nx1 : HL TB.den k1z.hs → Prop) (i : HL TB.den k1z.hs) : Prop := WP TB k2r 61 0 (cA (cA (cB (cA (cB (cB (cB (cB k46)))))))) (.nd [] .no [] (.nd [] (kjk o nx1) [] .no)) (k1z.fill TB i) (kd4 o nx1)
noncomputable def kww (o : k2d) : An TB := .lp [] k1z (k7m o) fun nx1 => (.nd [] .no [] (.nd [] (kjk o nx1) [] .no))
noncomputable def kx7 (o : k2d) : An TB := .nd [] .no [] (.nd [] (.nd [] .no [] (kww o)) [] .no)
noncomputable def kj3 (o : k2d) : An TB := .nd [] .no [] (.nd [] .no [] (.nd [] .no [] (kx7 o)))
noncomputable def kbc (x : kl7) (o : k2d) : Prop := WPh TB k2r 61 0 k46 (kj3 o) (k13.st TB x) (retTQ TB k2r k13 k7b o)
set_option maxRecDepth 100000 in
theorem ktp (o : k2d) : OblH TB k2r 61 0 k46 (kj3 o) (retTQ TB k2r k13 k7b o) :=
  OblH.of_eq (X := (True ∧ (True ∧ (True ∧ ((True ∧ ((True ∧ True) ∧ True)) ∧ ((True ∧ ((∀ nx i, (k7m o) nx i = (k7m o) nx i) ∧ ∀ nx1 : HL TB.den k1z.hs → Prop, ((True ∧ (True ∧ True)) ∧ ((True ∧ ((True ∧ (True ∧ True)) ∧ (∀ i, (k5p o nx1) i = (ki5 o nx1) i) ∧ True)) ∧ True)))) ∧ (True ∧ True))))))) (by kernel_rfl) ⟨trivial, ⟨trivial, ⟨trivial, ⟨⟨trivial, ⟨⟨trivial, trivial⟩, trivial⟩⟩, ⟨⟨trivial, ⟨fun _ _ => rfl, fun _ => ⟨⟨trivial, ⟨trivial, trivial⟩⟩, ⟨⟨trivial, ⟨⟨trivial, ⟨trivial, trivial⟩⟩, fun _ => propext ⟨fun h => h.1, fun h => ⟨h⟩⟩, trivial⟩⟩, trivial⟩⟩⟩⟩, ⟨trivial, trivial⟩⟩⟩⟩⟩⟩
set_option maxRecDepth 100000 in
theorem kua {x : kl7} {o : k2d} (h : kbc x o) : SoundH Try.prog k13.f ((k13.args idf x).map (er TB)) ((k13.obs idf x).map (erO TB)) (er TB (k13.val idf o)) ((k13.ops idf o).map (erO TB)) :=
  Con.soundH (c := k13) (C := k2r) TBok ⟨inf_ok, (all_cons k13v (all_cons kkd (all_cons kls all_nil))), all_nil⟩ mix Try.func104 (show Try.f104.body = some k46 by kernel_rfl) (show Try.f104.ntmps = 61 by kernel_rfl) (show Try.f104.results.toList = k7b by kernel_rfl) rfl h (ktp o)
set_option maxRecDepth 100000 in
theorem kw9 {p0 : Int} {p1 : Int} {p2 : List Int} {r0 : TA3} (h :
(((TField.mk p0).P = 18446744069414584321 ∧ U64 p1 ∧ U64 (65536 : Int)) ∧ let r1 : Int := (p1 * (65536 : Int) % 18446744069414584321)
((TField.mk p0).P = 18446744069414584321 ∧ U64 r1 ∧ U64 (IntKind.u64.wrap (p2.length : Int))) ∧ let r2 : Int := ((r1 + (IntKind.u64.wrap (p2.length : Int))) % 18446744069414584321)
(((p2.length : Int) == 0) = true →
(p0 = 18446744069414584321 ∧ S3 (TA3.mk 0 0 r2)) ∧ (permS (TA3.mk 0 0 r2)).a0 = r0.a0 ∧ (permS (TA3.mk 0 0 r2)).a1 = r0.a1 ∧ (permS (TA3.mk 0 0 r2)).a2 = r0.a2) ∧
(((p2.length : Int) == 0) = false →
 Md.Loop (p0, p2, (0 : Int), (0 : Int), (0 : Int), (0 : Int), p0, (0 : Int), (0 : Int), r2, ()) (k7m (r0.a0, r0.a1, r0.a2, ()))))) : kbc (p0, p1, p2, ()) (r0.a0, r0.a1, r0.a2, ()) := WPh.of_eq (by kernel_rfl) h
set_option maxRecDepth 100000 in
theorem kqz {r0 : TA3} {nx1 : HL TB.den k1z.hs → Prop} {s0 : Int} {s2 : List Int} {s9 : Int} {h0_0 : Int} {h0_1 : Int} {h0_2 : Int} {h1_0 : Int} {h38_0 : Int} {h38_1 : Int} {h38_2 : Int} (h :
((s0 = 18446744069414584321 ∧ S3 (TA3.mk h38_0 h38_1 h38_2)) ∧ nx1 (s0, s2, (IntKind.i64.wrap (s9 + 2) : Int), h0_0, h0_1, h0_2, h1_0, ((permS (TA3.mk h38_0 h38_1 h38_2)).a0 : Int), ((permS (TA3.mk h38_0 h38_1 h38_2)).a1 : Int), ((permS (TA3.mk h38_0 h38_1 h38_2)).a2 : Int), ()))) : k5p (r0.a0, r0.a1, r0.a2, ()) nx1 (s0, s2, s9, h0_0, h0_1, h0_2, h1_0, h38_0, h38_1, h38_2, ()) := ⟨mpr_of (by kernel_rfl) h⟩
def kj9 (r0 : TA3) (nx1 : HL TB.den k1z.hs → Prop) (k1 : Int → Int → Int → Int → Prop) (s0 : Int) (s2 : List Int) (h0_0 : Int) (h0_1 : Int) (h0_2 : Int) (h1_0 : Int) (s9 : Int) (h38_0 : Int) (h38_1 : Int) (h38_2 : Int) : Prop :=
(decide (s9 < (s2.length : Int)) = true →
(0 ≤ s9) ∧ s9 < (s2.length : Int) ∧ ((TField.mk h1_0).P = 18446744069414584321 ∧ U64 h38_0 ∧ U64 (ix s2 s9)) ∧ let r3 : Int := ((h38_0 + (ix s2 s9)) % 18446744069414584321)
 let v4 : Bool := decide ((IntKind.i64.wrap (s9 + 1)) < (s2.length : Int))
(v4 = true →
(0 ≤ IntKind.i64.wrap (s9 + 1)) ∧ IntKind.i64.wrap (s9 + 1) < (s2.length : Int) ∧ ((TField.mk h1_0).P = 18446744069414584321 ∧ U64 h38_1 ∧ U64 (ix s2 (IntKind.i64.wrap (s9 + 1)))) ∧ let r5 : Int := ((h38_1 + (ix s2 (IntKind.i64.wrap (s9 + 1)))) % 18446744069414584321)
 k5p (r0.a0, r0.a1, r0.a2, ()) nx1 (s0, s2, s9, h0_0, h0_1, h0_2, h1_0, r3, r5, h38_2, ())) ∧
(v4 = false →
 k5p (r0.a0, r0.a1, r0.a2, ()) nx1 (s0, s2, s9, h0_0, h0_1, h0_2, h1_0, r3, h38_1, h38_2, ()))) ∧
(decide (s9 < (s2.length : Int)) = false →
 h38_0 = r0.a0 ∧ h38_1 = r0.a1 ∧ h38_2 = r0.a2)
set_option maxRecDepth 100000 in
theorem ku0 {r0 : TA3} {s0 : Int} {s2 : List Int} {h0_0 : Int} {h0_1 : Int} {h0_2 : Int} {h1_0 : Int} {s9 : Int} {h38_0 : Int} {h38_1 : Int} {h38_2 : Int} (inv : Int → Int → Int → Int → Prop) (μ : Int → Int → Int → Int → Nat) (h0 : inv s9 h38_0 h38_1 h38_2) (hs : ∀ (s9 : Int) (h38_0 : Int) (h38_1 : Int) (h38_2 : Int), inv s9 h38_0 h38_1 h38_2 → kj9 r0 (fun s : Int × (List Int) × Int × Int × Int × Int × Int × Int × Int × Int × Unit => ((s.1 = s0 ∧ s.2.1 = s2 ∧ s.2.2.2.1 = h0_0 ∧ s.2.2.2.2.1 = h0_1 ∧ s.2.2.2.2.2.1 = h0_2 ∧ s.2.2.2.2.2.2.1 = h1_0) ∧ inv s.2.2.1 s.2.2.2.2.2.2.2.1 s.2.2.2.2.2.2.2.2.1 s.2.2.2.2.2.2.2.2.2.1) ∧ μ s.2.2.1 s.2.2.2.2.2.2.2.1 s.2.2.2.2.2.2.2.2.1 s.2.2.2.2.2.2.2.2.2.1 < μ s9 h38_0 h38_1 h38_2) (fun s9q h38_0q h38_1q h38_2q => inv s9q h38_0q h38_1q h38_2q ∧ μ s9q h38_0q h38_1q h38_2q < μ s9 h38_0 h38_1 h38_2) s0 s2 h0_0 h0_1 h0_2 h1_0 s9 h38_0 h38_1 h38_2) : Md.Loop (s0, s2, s9, h0_0, h0_1, h0_2, h1_0, h38_0, h38_1, h38_2, ()) (k7m (r0.a0, r0.a1, r0.a2, ())) :=
  ⟨⟨fun s : Int × (List Int) × Int × Int × Int × Int × Int × Int × Int × Int × Unit => (s.1 = s0 ∧ s.2.1 = s2 ∧ s.2.2.2.1 = h0_0 ∧ s.2.2.2.2.1 = h0_1 ∧ s.2.2.2.2.2.1 = h0_2 ∧ s.2.2.2.2.2.2.1 = h1_0) ∧ inv s.2.2.1 s.2.2.2.2.2.2.2.1 s.2.2.2.2.2.2.2.2.1 s.2.2.2.2.2.2.2.2.2.1, fun s : Int × (List Int) × Int × Int × Int × Int × Int × Int × Int × Int × Unit => μ s.2.2.1 s.2.2.2.2.2.2.2.1 s.2.2.2.2.2.2.2.2.1 s.2.2.2.2.2.2.2.2.2.1, ⟨⟨rfl, rfl, rfl, rfl, rfl, rfl⟩, h0⟩, fun (s0p, s2p, s9p, h0_0p, h0_1p, h0_2p, h1_0p, h38_0p, h38_1p, h38_2p, ()) ⟨⟨eq0, eq1, eq2, eq3, eq4, eq5⟩, hi⟩ => by
    have eq0 : s0p = s0 := eq0; subst s0p; have eq1 : s2p = s2 := eq1; subst s2p; have eq2 : h0_0p = h0_0 := eq2; subst h0_0p; have eq3 : h0_1p = h0_1 := eq3; subst h0_1p; have eq4 : h0_2p = h0_2 := eq4; subst h0_2p; have eq5 : h1_0p = h1_0 := eq5; subst h1_0p; exact mpr_of (by kernel_rfl) ((congrArg (fun k => kj9 r0 (fun s : Int × (List Int) × Int × Int × Int × Int × Int × Int × Int × Int × Unit => ((s.1 = s0 ∧ s.2.1 = s2 ∧ s.2.2.2.1 = h0_0 ∧ s.2.2.2.2.1 = h0_1 ∧ s.2.2.2.2.2.1 = h0_2 ∧ s.2.2.2.2.2.2.1 = h1_0) ∧ inv s.2.2.1 s.2.2.2.2.2.2.2.1 s.2.2.2.2.2.2.2.2.1 s.2.2.2.2.2.2.2.2.2.1) ∧ μ s.2.2.1 s.2.2.2.2.2.2.2.1 s.2.2.2.2.2.2.2.2.1 s.2.2.2.2.2.2.2.2.2.1 < μ s9p h38_0p h38_1p h38_2p) k s0 s2 h0_0 h0_1 h0_2 h1_0 s9p h38_0p h38_1p h38_2p) (lpk4 (⟨rfl, rfl, rfl, rfl, rfl, rfl⟩ : s0 = s0 ∧ s2 = s2 ∧ h0_0 = h0_0 ∧ h0_1 = h0_1 ∧ h0_2 = h0_2 ∧ h1_0 = h1_0) inv (fun s9q h38_0q h38_1q h38_2q => μ s9q h38_0q h38_1q h38_2q < μ s9p h38_0p h38_1p h38_2p))).mpr (hs s9p h38_0p h38_1p h38_2p hi))⟩⟩
theorem bd104 : Callable Try.prog 104 := ⟨by rw [Try.func104]; kernel_rfl, by rw [Try.func104]; show some _ ≠ some _; decide⟩
theorem ktd (p0 : Int) (p1 : Int) (p2 : List Int) (h : p0 = 18446744069414584321 ∧ U64 p1 ∧ Us p2 ∧ p2.length ≤ 1099511627776) : kbc (p0, p1, p2, ()) (((absS p1 p2).a0 : Int), ((absS p1 p2).a1 : Int), ((absS p1 p2).a2 : Int), ()) := by
  obtain ⟨hP, h1, h2, h3⟩ := h
  subst hP
  have hp : ∀ s : TA3, S3 (permS s) := fun s => by
    show S3 (rnd _ _)
    unfold rnd mixS S3
    dsimp only
    omega
  have hi : S3 (absI p1 p2) := by unfold absI S3; dsimp only; omega
  have e : IntKind.u64.wrap (p2.length : Int) = p2.length := wu _ (by omega) (by omega)
  have em : (p1 * 65536 % 18446744069414584321 + (p2.length : Int)) % 18446744069414584321 = (absI p1 p2).a2 := rfl
  refine kw9 ?_
  rw [e]
  refine ⟨⟨rfl, h1, by omega⟩, ⟨rfl, by omega, by omega⟩, fun h => ?_, fun h => ?_⟩
  · have h : p2 = [] := by simpa using h
    refine ⟨⟨rfl, ?_⟩, ?_⟩
    · exact hi
    · have : permS ⟨0, 0, (p1 * 65536 % 18446744069414584321 + (p2.length : Int)) % 18446744069414584321⟩ = absS p1 p2 := by unfold absS; rw [if_pos h]; rfl
      rw [this]
      exact ⟨rfl, rfl, rfl⟩
  · have h : p2 ≠ [] := by simpa using h
    have hv : absL p2 (absI p1 p2) = absS p1 p2 := by unfold absS; rw [if_neg h]
    rw [em]
    refine ku0 (r0 := absS p1 p2) (fun i a b c => 0 ≤ i ∧ i ≤ p2.length + 1 ∧ absL (p2.drop i.toNat) ⟨a, b, c⟩ = absS p1 p2 ∧ S3 ⟨a, b, c⟩) (fun i _ _ _ => (p2.length + 2 - i).toNat) ⟨by omega, by omega, hv, hi⟩ ?_
    rintro i a b c ⟨g0, g1, g2, g3⟩
    obtain ⟨h3a, h3b, h3c⟩ := g3
    refine ⟨fun hh => ?_, fun hh => ?_⟩
    · have hh := of_decide_eq_true hh
      have hx := h2 _ (ix_mem p2 i g0 hh)
      rw [wi (i + 1) (by omega) (by omega)]
      have fin : ∀ nx x y z, S3 ⟨x, y, z⟩ → absL (p2.drop (i + 2).toNat) (permS ⟨x, y, z⟩) = absS p1 p2 → (0 ≤ i + 2 ∧ i + 2 ≤ p2.length + 1 ∧ absL (p2.drop (i + 2).toNat) (permS ⟨x, y, z⟩) = absS p1 p2 ∧ S3 (permS ⟨x, y, z⟩) → (p2.length + 2 - (i + 2)).toNat < (p2.length + 2 - i).toNat → nx ((18446744069414584321 : Int), p2, (i + 2 : Int), (0 : Int), (0 : Int), (0 : Int), (18446744069414584321 : Int), (permS ⟨x, y, z⟩).a0, (permS ⟨x, y, z⟩).a1, (permS ⟨x, y, z⟩).a2, ())) → k5p ((absS p1 p2).a0, (absS p1 p2).a1, (absS p1 p2).a2, ()) nx ((18446744069414584321 : Int), p2, i, (0 : Int), (0 : Int), (0 : Int), (18446744069414584321 : Int), x, y, z, ()) := by
        intro nx x y z hS hv' hn
        refine kqz (r0 := absS p1 p2) ?_
        rw [wi (i + 2) (by omega) (by omega)]
        exact ⟨⟨rfl, hS⟩, hn ⟨by omega, by omega, hv', hp _⟩ (by omega)⟩
      have hdrop := drop_ix p2 i g0 hh
      rw [hdrop] at g2
      refine ⟨g0, hh, ⟨rfl, h3a, hx⟩, fun h5 => ?_, fun h5 => ?_⟩
      · have h5 := of_decide_eq_true h5
        have hy := h2 _ (ix_mem p2 (i + 1) (by omega) h5)
        rw [drop_ix p2 (i + 1) (by omega) h5, show i + 1 + 1 = i + 2 by omega] at g2
        refine ⟨by omega, h5, ⟨rfl, h3b, hy⟩, fin _ _ _ _ (S3m (by omega) (by omega) h3c) g2 fun k1 k2 => ⟨⟨⟨rfl, rfl, rfl, rfl, rfl, rfl⟩, k1⟩, k2⟩⟩
      · have h5 := of_decide_eq_false h5
        have ed : p2.drop (i + 1).toNat = [] := List.drop_eq_nil_of_le (by omega)
        have ed2 : p2.drop (i + 2).toNat = [] := List.drop_eq_nil_of_le (by omega)
        rw [ed] at g2
        exact fin _ _ _ _ (S3m (by omega) h3b h3c) (by rw [ed2]; exact g2) fun k1 k2 => ⟨⟨⟨rfl, rfl, rfl, rfl, rfl, rfl⟩, k1⟩, k2⟩
    · have hh := of_decide_eq_false hh
      rw [List.drop_eq_nil_of_le (by omega)] at g2
      have g2 : (⟨a, b, c⟩ : TA3) = absS p1 p2 := g2
      rw [← g2]
      exact ⟨rfl, rfl, rfl⟩
noncomputable def khy : Con TB.den := k13.fnR (fun x => (fun (p0 : Int) (p1 : Int) (p2 : List Int) => p0 = 18446744069414584321 ∧ U64 p1 ∧ Us p2 ∧ p2.length ≤ 1099511627776) x.1 x.2.1 x.2.2.1) fun x => ((fun (p0 : Int) (p1 : Int) (p2 : List Int) => ((absS p1 p2).a0 : Int)) x.1 x.2.1 x.2.2.1, (fun (p0 : Int) (p1 : Int) (p2 : List Int) => ((absS p1 p2).a1 : Int)) x.1 x.2.1 x.2.2.1, (fun (p0 : Int) (p1 : Int) (p2 : List Int) => ((absS p1 p2).a2 : Int)) x.1 x.2.1 x.2.2.1, ())
theorem kw1 : khy.Ok Try.prog TB := Con.ok_fn k13 bd104 fun x h => kua (ktd x.1 x.2.1 x.2.2.1 h)
end Go.Proofs.Ytpffhgljgpjenaa
namespace Go.Proofs.Ytpffhgljgpjenaa
open Go Go.Bv Go.Cv Go.Md Go.RowKit
def k24 : Con TB.den := Con.mk0 82 [.one (.d (.int .u64)), .one (.d (.int .u64)), .one (.d (.sl (.int .u64)))] [] (.one (.one (.d (.int .u64)))) []
abbrev kqc := HL TB.den (hsT k24.ins (hsOs k24.pre))
abbrev kcz := HL TB.den (hsV k24.res (hsOs k24.post))
noncomputable def k92 : Cx TB := ⟨inf, [k58, khy], [], 4⟩
noncomputable def kd9 : Code := Try.f82.body.getD .skip
noncomputable def kgd : List ResultVar := Try.f82.results.toList
noncomputable def kn8 (o : kcz) : An TB := .no
noncomputable def kde (x : kqc) (o : kcz) : Prop := WPh TB k92 16 0 kd9 (kn8 o) (k24.st TB x) (retTQ TB k92 k24 kgd o)
set_option maxRecDepth 100000 in
theorem kym (o : kcz) : OblH TB k92 16 0 kd9 (kn8 o) (retTQ TB k92 k24 kgd o) :=
  OblH.of_eq (X := (True ∧ ((True ∧ ((True ∧ True) ∧ True)) ∧ (True ∧ True)))) (by kernel_rfl) ⟨trivial, ⟨⟨trivial, ⟨⟨trivial, trivial⟩, trivial⟩⟩, ⟨trivial, trivial⟩⟩⟩
set_option maxRecDepth 100000 in
theorem kz4 {x : kqc} {o : kcz} (h : kde x o) : SoundH Try.prog k24.f ((k24.args idf x).map (er TB)) ((k24.obs idf x).map (erO TB)) (er TB (k24.val idf o)) ((k24.ops idf o).map (erO TB)) :=
  Con.soundH (c := k24) (C := k92) TBok ⟨inf_ok, (all_cons k76 (all_cons kw1 all_nil)), all_nil⟩ mix Try.func82 (show Try.f82.body = some kd9 by kernel_rfl) (show Try.f82.ntmps = 16 by kernel_rfl) (show Try.f82.results.toList = kgd by kernel_rfl) rfl h (kym o)
set_option maxRecDepth 100000 in
theorem kzz {p0 : Int} {p1 : Int} {p2 : List Int} {r0 : Int} (h :
(((TField.mk p0).P = 18446744069414584321) ∧ ((!true) = true →
 0 = r0) ∧
((!true) = false →
(p0 = 18446744069414584321 ∧ U64 p1 ∧ Us p2 ∧ p2.length ≤ 1099511627776) ∧ (absS p1 p2).a0 = r0))) : kde (p0, p1, p2, ()) (r0, ()) := WPh.of_eq (by kernel_rfl) h
theorem bd82 : Callable Try.prog 82 := ⟨by rw [Try.func82]; kernel_rfl, by rw [Try.func82]; show some _ ≠ some _; decide⟩
theorem kwj (p0 : Int) (p1 : Int) (p2 : List Int) (h : p0 = 18446744069414584321 ∧ U64 p1 ∧ Us p2 ∧ p2.length ≤ 1099511627776) : kde (p0, p1, p2, ()) (((hashS p1 p2) : Int), ()) := by
  obtain ⟨hP, h1, h2, h3⟩ := h
  subst hP
  exact kzz ⟨rfl, fun h => by simp at h, fun _ => ⟨⟨rfl, h1, h2, h3⟩, rfl⟩⟩
noncomputable def kaj : Con TB.den := k24.fnR (fun x => (fun (p0 : Int) (p1 : Int) (p2 : List Int) => p0 = 18446744069414584321 ∧ U64 p1 ∧ Us p2 ∧ p2.length ≤ 1099511627776) x.1 x.2.1 x.2.2.1) fun x => ((fun (p0 : Int) (p1 : Int) (p2 : List Int) => ((hashS p1 p2) : Int)) x.1 x.2.1 x.2.2.1, ())
theorem kga : kaj.Ok Try.prog TB := Con.ok_fn k24 bd82 fun x h => kz4 (kwj x.1 x.2.1 x.2.2.1 h)
end Go.Proofs.Ytpffhgljgpjenaa
namespace Go.Proofs.Ytpffhgljgpjenaa
open Go Go.Bv Go.Cv Go.Md Go.RowKit
def k2t : Con TB.den := Con.mk0 77 [.one (.d (.int .u64)), .one (.d (.sl (.int .u64)))] [] (.one (.one (.d (.int .u64)))) []
abbrev kuv := HL TB.den (hsT k2t.ins (hsOs k2t.pre))
abbrev kgo := HL TB.den (hsV k2t.res (hsOs k2t.post))
noncomputable def kbe : Cx TB := ⟨inf, [kaj], [], 4⟩
noncomputable def kfu : Code := Try.f77.body.getD .skip
noncomputable def kk0 : List ResultVar := Try.f77.results.toList
noncomputable def kte (o : kgo) : An TB := .no
noncomputable def kgc (x : kuv) (o : kgo) : Prop := WPh TB kbe 8 0 kfu (kte o) (k2t.st TB x) (retTQ TB kbe k2t kk0 o)
set_option maxRecDepth 100000 in
theorem k13s (o : kgo) : OblH TB kbe 8 0 kfu (kte o) (retTQ TB kbe k2t kk0 o) :=
  OblH.of_eq (X := (True ∧ (True ∧ True))) (by kernel_rfl) ⟨trivial, ⟨trivial, trivial⟩⟩
set_option maxRecDepth 100000 in
theorem k132 {x : kuv} {o : kgo} (h : kgc x o) : SoundH Try.prog k2t.f ((k2t.args idf x).map (er TB)) ((k2t.obs idf x).map (erO TB)) (er TB (k2t.val idf o)) ((k2t.ops idf o).map (erO TB)) :=
  Con.soundH (c := k2t) (C := kbe) TBok ⟨inf_ok, (all_cons kga all_nil), all_nil⟩ mix Try.func77 (show Try.f77.body = some kfu by kernel_rfl) (show Try.f77.ntmps = 8 by kernel_rfl) (show Try.f77.results.toList = kk0 by kernel_rfl) rfl h (k13s o)
set_option maxRecDepth 100000 in
theorem k15u {p0 : Int} {p1 : List Int} {r0 : Int} (h :
(((18446744069414584321 : Int) = 18446744069414584321 ∧ U64 p0 ∧ Us p1 ∧ p1.length ≤ 1099511627776) ∧ (hashS p0 p1) = r0)) : kgc (p0, p1, ()) (r0, ()) := WPh.of_eq (by kernel_rfl) h
theorem bd77 : Callable Try.prog 77 := ⟨by rw [Try.func77]; kernel_rfl, by rw [Try.func77]; show some _ ≠ some _; decide⟩
theorem k10l (p0 : Int) (p1 : List Int) (h : U64 p0 ∧ Us p1 ∧ p1.length ≤ 1099511627776) : kgc (p0, p1, ()) (((hashS p0 p1) : Int), ()) := by
  exact k15u ⟨⟨rfl, h.1, h.2.1, h.2.2⟩, rfl⟩
noncomputable def kho : Con TB.den := k2t.fnR (fun x => (fun (p0 : Int) (p1 : List Int) => U64 p0 ∧ Us p1 ∧ p1.length ≤ 1099511627776) x.1 x.2.1) fun x => ((fun (p0 : Int) (p1 : List Int) => ((hashS p0 p1) : Int)) x.1 x.2.1, ())
theorem ksd : kho.Ok Try.prog TB := Con.ok_fn k2t bd77 fun x h => k132 (k10l x.1 x.2.1 h)
end Go.Proofs.Ytpffhgljgpjenaa
namespace Go.Proofs.Ytpffhgljgpjenaa
open Go Go.Bv Go.Cv Go.Md Go.RowKit
def k1n : Con TB.den := Con.mk0 35 [.one (.d (.int .u64))] [] (.one (.one (.d (.int .u64)))) []
abbrev kmu := HL TB.den (hsT k1n.ins (hsOs k1n.pre))
abbrev kbk := HL TB.den (hsV k1n.res (hsOs k1n.post))
noncomputable def k7z : Cx TB := ⟨inf, [kho], [], 4⟩
noncomputable def kc4 : Code := Try.f35.body.getD .skip
noncomputable def keg : List ResultVar := Try.f35.results.toList
noncomputable def kkw (o : kbk) : An TB := .no
noncomputable def kc3 (x : kmu) (o : kbk) : Prop := WPh TB k7z 6 0 kc4 (kkw o) (k1n.st TB x) (retTQ TB k7z k1n keg o)
set_option maxRecDepth 100000 in
theorem kwk (o : kbk) : OblH TB k7z 6 0 kc4 (kkw o) (retTQ TB k7z k1n keg o) :=
  OblH.of_eq (X := (True ∧ (True ∧ True))) (by kernel_rfl) ⟨trivial, ⟨trivial, trivial⟩⟩
set_option maxRecDepth 100000 in
theorem kvz {x : kmu} {o : kbk} (h : kc3 x o) : SoundH Try.prog k1n.f ((k1n.args idf x).map (er TB)) ((k1n.obs idf x).map (erO TB)) (er TB (k1n.val idf o)) ((k1n.ops idf o).map (erO TB)) :=
  Con.soundH (c := k1n) (C := k7z) TBok ⟨inf_ok, (all_cons ksd all_nil), all_nil⟩ mix Try.func35 (show Try.f35.body = some kc4 by kernel_rfl) (show Try.f35.ntmps = 6 by kernel_rfl) (show Try.f35.results.toList = keg by kernel_rfl) rfl h (kwk o)
set_option maxRecDepth 100000 in
theorem kzd {p0 : Int} {r0 : Int} (h :
((U64 (7 : Int) ∧ Us [p0] ∧ [p0].length ≤ 1099511627776) ∧ (hashS (7 : Int) [p0]) = r0)) : kc3 (p0, ()) (r0, ()) := WPh.of_eq (by kernel_rfl) h
theorem bd35 : Callable Try.prog 35 := ⟨by rw [Try.func35]; kernel_rfl, by rw [Try.func35]; show some _ ≠ some _; decide⟩
theorem ktr (p0 : Int) (h : U64 p0) : kc3 (p0, ()) (((acctS p0) : Int), ()) := by
  exact kzd ⟨⟨by decide, (by intro x hx; rw [List.mem_singleton] at hx; subst hx; exact h), by simp⟩, rfl⟩
noncomputable def kja : Con TB.den := k1n.fnR (fun x => (fun (p0 : Int) => U64 p0) x.1) fun x => ((fun (p0 : Int) => ((acctS p0) : Int)) x.1, ())
theorem kxx : kja.Ok Try.prog TB := Con.ok_fn k1n bd35 fun x h => kvz (ktr x.1 h)
end Go.Proofs.Ytpffhgljgpjenaa
namespace Go.Proofs.Ytpffhgljgpjenaa
open Go Go.Bv Go.Cv Go.Md Go.RowKit
def kp : Con TB.den := Con.mk0 79 [.one (.d (.sl (.int .u64)))] [] (.one (.one (.d (.bool)))) []
abbrev ki6 := HL TB.den (hsT kp.ins (hsOs kp.pre))
abbrev k3w := HL TB.den (hsV kp.res (hsOs kp.post))
noncomputable def k33 : Cx TB := ⟨inf, [], [], 4⟩
noncomputable def k55 : Code := Try.f79.body.getD .skip
noncomputable def k62 : List ResultVar := Try.f79.results.toList
noncomputable def kse (o : k3w) : Exit → TSt TB.den → Prop := thenT TB (fun s => ghs TB [] s fun s => WP TB k33 14 0 (cB (cB k55)) .no s (retTQ TB k33 kp k62 o)) (retTQ TB k33 kp k62 o)
def k44 : Tm := ⟨[], [], [5, 6, 7], [.one (.d (.sl (.int .u64))), .one (.d (.int .i64)), .one (.d (.int .i64))], 0⟩
noncomputable def ktm (o : k3w) (nx1 : HL TB.den k44.hs → Prop) : Exit → TSt TB.den → Prop := thenT TB (fun s => k44.mat TB 0 s nx1) (blockT TB 0 (kse o))
noncomputable def k63 (o : k3w) (nx1 : HL TB.den k44.hs → Prop) (i : HL TB.den k44.hs) : Prop := WP TB k33 14 0 (cA (cA (cB (cA (cB k55))))) .no (k44.fill TB i) (ktm o nx1)
noncomputable def ksb (o : k3w) : An TB := .lp [] k44 (k63 o) fun nx1 => .no
noncomputable def khe (o : k3w) : An TB := .nd [] .no [] (.nd [] (.nd [] .no [] (ksb o)) [] .no)
noncomputable def k9f (x : ki6) (o : k3w) : Prop := WPh TB k33 14 0 k55 (khe o) (kp.st TB x) (retTQ TB k33 kp k62 o)
set_option maxRecDepth 100000 in
theorem kr0 (o : k3w) : OblH TB k33 14 0 k55 (khe o) (retTQ TB k33 kp k62 o) :=
  OblH.of_eq (X := (True ∧ ((True ∧ ((∀ nx i, (k63 o) nx i = (k63 o) nx i) ∧ ∀ nx1 : HL TB.den k44.hs → Prop, (True ∧ ((True ∧ True) ∧ ((True ∧ (True ∧ ((True ∧ True) ∧ True))) ∧ True))))) ∧ (True ∧ True)))) (by kernel_rfl) ⟨trivial, ⟨⟨trivial, ⟨fun _ _ => rfl, fun _ => ⟨trivial, ⟨⟨trivial, trivial⟩, ⟨⟨trivial, ⟨trivial, ⟨⟨trivial, trivial⟩, trivial⟩⟩⟩, trivial⟩⟩⟩⟩⟩, ⟨trivial, trivial⟩⟩⟩
set_option maxRecDepth 100000 in
theorem kqq {x : ki6} {o : k3w} (h : k9f x o) : SoundH Try.prog kp.f ((kp.args idf x).map (er TB)) ((kp.obs idf x).map (erO TB)) (er TB (kp.val idf o)) ((kp.ops idf o).map (erO TB)) :=
  Con.soundH (c := kp) (C := k33) TBok ⟨inf_ok, all_nil, all_nil⟩ mix Try.func79 (show Try.f79.body = some k55 by kernel_rfl) (show Try.f79.ntmps = 14 by kernel_rfl) (show Try.f79.results.toList = k62 by kernel_rfl) rfl h (kr0 o)
set_option maxRecDepth 100000 in
theorem ksw {p0 : List Int} {r0 : Bool} (h :
(Md.Loop (p0, ((p0.length : Int) : Int), (0 : Int), ()) (k63 (r0, ())))) : k9f (p0, ()) (r0, ()) := WPh.of_eq (by kernel_rfl) h
def kh6 (r0 : Bool) (k1 : Int → Prop) (s5 : List Int) (s6 : Int) (s7 : Int) : Prop :=
(decide (s7 < s6) = true →
(0 ≤ s7) ∧ s7 < (s5.length : Int) ∧ let v1 : Bool := decide (18446744069414584321 ≤ (ix s5 s7))
(v1 = true →
 false = r0) ∧
(v1 = false →
 k1 (IntKind.i64.wrap (s7 + 1) : Int))) ∧
(decide (s7 < s6) = false →
 true = r0)
set_option maxRecDepth 100000 in
theorem kr2 {r0 : Bool} {s5 : List Int} {s6 : Int} {s7 : Int} (inv : Int → Prop) (μ : Int → Nat) (h0 : inv s7) (hs : ∀ (s7 : Int), inv s7 → kh6 r0 (fun s7q => inv s7q ∧ μ s7q < μ s7) s5 s6 s7) : Md.Loop (s5, s6, s7, ()) (k63 (r0, ())) :=
  ⟨⟨fun s : (List Int) × Int × Int × Unit => (s.1 = s5 ∧ s.2.1 = s6) ∧ inv s.2.2.1, fun s : (List Int) × Int × Int × Unit => μ s.2.2.1, ⟨⟨rfl, rfl⟩, h0⟩, fun (s5p, s6p, s7p, ()) ⟨⟨eq0, eq1⟩, hi⟩ => by
    have eq0 : s5p = s5 := eq0; subst s5p; have eq1 : s6p = s6 := eq1; subst s6p; exact mpr_of (by kernel_rfl) ((congrArg (fun k => kh6 r0 k s5 s6 s7p) (lpk1 (⟨rfl, rfl⟩ : s5 = s5 ∧ s6 = s6) inv (fun s7q => μ s7q < μ s7p))).mpr (hs s7p hi))⟩⟩
theorem bd79 : Callable Try.prog 79 := ⟨by rw [Try.func79]; kernel_rfl, by rw [Try.func79]; show some _ ≠ some _; decide⟩
theorem ko2 (p0 : List Int) (h : p0.length ≤ 9223372036854775807) : k9f (p0, ()) (((allB p0) : Bool), ()) := by
  refine ksw (kr2 (AllI (fun x => decide (x < 18446744069414584321)) p0) (fun i => (p0.length - i).toNat) AllI.start ?_)
  intro i hi
  refine ⟨fun hh => ?_, fun hh => (hi.done (of_decide_eq_false hh)).symm⟩
  have hh := of_decide_eq_true hh
  exact ⟨hi.1, hh, fun e => (hi.bad hh (by simpa using e)).symm, fun e => hi.next hh (by omega) (by simpa using e)⟩
noncomputable def kfh : Con TB.den := kp.fnR (fun x => (fun (p0 : List Int) => p0.length ≤ 9223372036854775807) x.1) fun x => ((fun (p0 : List Int) => ((allB p0) : Bool)) x.1, ())
theorem ksv : kfh.Ok Try.prog TB := Con.ok_fn kp bd79 fun x h => kqq (ko2 x.1 h)
end Go.Proofs.Ytpffhgljgpjenaa
namespace Go.Proofs.Ytpffhgljgpjenaa
open Go Go.Bv Go.Cv Go.Md Go.RowKit
def kb : Con TB.den := Con.mk0 102 [.one (.own 0), .one (.d (.int .u64))] [.tip (.int .u8)] (.one (.one (.own 0))) [.tip (.int .u8)]
abbrev kdv := HL TB.den (hsT kb.ins (hsOs kb.pre))
abbrev k2x := HL TB.den (hsV kb.res (hsOs kb.post))
noncomputable def k27 : Cx TB := ⟨inf, [], [], 4⟩
noncomputable def k45 : Code := Try.f102.body.getD .skip
noncomputable def k4p : List ResultVar := Try.f102.results.toList
noncomputable def km5 (o : k2x) : Exit → TSt TB.den → Prop := thenT TB (fun s => ghs TB [] s fun s => WP TB k27 16 1 (cB (cB k45)) .no s (retTQ TB k27 kb k4p o)) (retTQ TB k27 kb k4p o)
def k3d : Tm := ⟨[0], [.tip (.int .u8)], [0, 1, 5], [.one (.own 0), .one (.d (.int .u64)), .one (.d (.int .i64))], 1⟩
noncomputable def kmb (o : k2x) (nx1 : HL TB.den k3d.hs → Prop) : Exit → TSt TB.den → Prop := thenT TB (fun s => k3d.mat TB 1 s nx1) (blockT TB 0 (km5 o))
noncomputable def k4w (o : k2x) (nx1 : HL TB.den k3d.hs → Prop) (i : HL TB.den k3d.hs) : Prop := WP TB k27 16 1 (cA (cA (cB (cA (cB k45))))) .no (k3d.fill TB i) (kmb o nx1)
noncomputable def klu (o : k2x) : An TB := .lp [] k3d (k4w o) fun nx1 => .no
noncomputable def kch (o : k2x) : An TB := .nd [] .no [] (.nd [] (.nd [] .no [] (klu o)) [] .no)
noncomputable def k7h (x : kdv) (o : k2x) : Prop := WPh TB k27 16 1 k45 (kch o) (kb.st TB x) (retTQ TB k27 kb k4p o)
set_option maxRecDepth 100000 in
theorem kkk (o : k2x) : OblH TB k27 16 1 k45 (kch o) (retTQ TB k27 kb k4p o) :=
  OblH.of_eq (X := (True ∧ ((True ∧ ((∀ nx i, (k4w o) nx i = (k4w o) nx i) ∧ ∀ nx1 : HL TB.den k3d.hs → Prop, (True ∧ ((True ∧ True) ∧ ((True ∧ True) ∧ True))))) ∧ (True ∧ True)))) (by kernel_rfl) ⟨trivial, ⟨⟨trivial, ⟨fun _ _ => rfl, fun _ => ⟨trivial, ⟨⟨trivial, trivial⟩, ⟨⟨trivial, trivial⟩, trivial⟩⟩⟩⟩⟩, ⟨trivial, trivial⟩⟩⟩
set_option maxRecDepth 100000 in
theorem kkp {x : kdv} {o : k2x} (h : k7h x o) : SoundH Try.prog kb.f ((kb.args idf x).map (er TB)) ((kb.obs idf x).map (erO TB)) (er TB (kb.val idf o)) ((kb.ops idf o).map (erO TB)) :=
  Con.soundH (c := kb) (C := k27) TBok ⟨inf_ok, all_nil, all_nil⟩ mix Try.func102 (show Try.f102.body = some k45 by kernel_rfl) (show Try.f102.ntmps = 16 by kernel_rfl) (show Try.f102.results.toList = k4p by kernel_rfl) rfl h (kkk o)
set_option maxRecDepth 100000 in
theorem kmj {p1 : Int} {w0 : List Int} {e0 : List Int} (h :
((w0 = w0) ∧ Md.Loop (p1, (0 : Int), w0, ()) (k4w (e0, ())))) : k7h (p1, w0, ()) (e0, ()) := WPh.of_eq (by kernel_rfl) h
def kcl (e0 : List Int) (k1 : Int → Int → List Int → Prop) (s1 : Int) (s5 : Int) (g0 : List Int) : Prop :=
(decide (s5 < 8) = true →
 g0.length = g0.length ∧ (g0.length + [IntKind.u8.wrap s1].length) * 1 ≤ 140737488355328 ∧ g0.length + [IntKind.u8.wrap s1].length ≤ maxLen ∧ (g0 ++ [IntKind.u8.wrap s1] = g0 ++ [IntKind.u8.wrap s1]) ∧ k1 (ishr .u64 s1 8 : Int) (IntKind.i64.wrap (s5 + 1) : Int) (g0 ++ [IntKind.u8.wrap s1] : List Int)) ∧
(decide (s5 < 8) = false →
(g0 = g0) ∧ g0 = e0)
set_option maxRecDepth 100000 in
theorem kkq {e0 : List Int} {s1 : Int} {s5 : Int} {g0 : List Int} (inv : Int → Int → List Int → Prop) (μ : Int → Int → List Int → Nat) (h0 : inv s1 s5 g0) (hs : ∀ (s1 : Int) (s5 : Int) (g0 : List Int), inv s1 s5 g0 → kcl e0 (fun s1q s5q g0q => inv s1q s5q g0q ∧ μ s1q s5q g0q < μ s1 s5 g0) s1 s5 g0) : Md.Loop (s1, s5, g0, ()) (k4w (e0, ())) :=
  ⟨⟨fun s : Int × Int × (List Int) × Unit => (True) ∧ inv s.1 s.2.1 s.2.2.1, fun s : Int × Int × (List Int) × Unit => μ s.1 s.2.1 s.2.2.1, ⟨trivial, h0⟩, fun (s1p, s5p, g0p, ()) ⟨_, hi⟩ => by
    exact mpr_of (by kernel_rfl) ((congrArg (fun k => kcl e0 k s1p s5p g0p) (lpk3 (trivial : True) inv (fun s1q s5q g0q => μ s1q s5q g0q < μ s1p s5p g0p))).mpr (hs s1p s5p g0p hi))⟩⟩
theorem bd102 : Callable Try.prog 102 := ⟨by rw [Try.func102]; kernel_rfl, by rw [Try.func102]; show some _ ≠ some _; decide⟩
theorem kiz (p1 : Int) (w0 : List Int) (h : U64 p1 ∧ w0.length ≤ 137438953472) : k7h (p1, w0, ()) (((w0 ++ dig 8 p1) : List Int), ()) := by
  obtain ⟨h1, h2⟩ := h
  refine kmj ⟨rfl, kkq (fun n i g => 0 ≤ i ∧ i ≤ 8 ∧ U64 n ∧ n = p1 / 256 ^ i.toNat ∧ g = w0 ++ dig i.toNat p1) (fun _ i _ => (8 - i).toNat) ⟨by omega, by omega, h1, by simp, by simp [dig]⟩ ?_⟩
  rintro n i g ⟨g0, g1, g2, g3, rfl⟩
  refine ⟨fun h => ?_, fun h => ?_⟩
  · have h := of_decide_eq_true h
    rw [inc i 8 g0 h (by omega), ishr8, u8w]
    refine ⟨rfl, ?_, ?_, rfl, ⟨by omega, by omega, ⟨by omega, by omega⟩, ?_, ?_⟩, by omega⟩
    · simp; omega
    · simp; unfold maxLen; omega
    · rw [g3, show (i + 1).toNat = i.toNat + 1 by omega, Int.ediv_ediv_of_nonneg (Int.le_of_lt (k17p _)), Int.pow_succ]
    · rw [show (i + 1).toNat = i.toNat + 1 by omega, k15i, List.append_assoc, g3]
  · have h := of_decide_eq_false h
    exact ⟨rfl, by rw [show i = 8 by omega]; rfl⟩
noncomputable def kbz : Con TB.den := kb.fnR (fun x => (fun (p1 : Int) (w0 : List Int) => U64 p1 ∧ w0.length ≤ 137438953472) x.1 x.2.1) fun x => ((fun (p1 : Int) (w0 : List Int) => ((w0 ++ dig 8 p1) : List Int)) x.1 x.2.1, ())
theorem kml : kbz.Ok Try.prog TB := Con.ok_fn kb bd102 fun x h => kkp (kiz x.1 x.2.1 h)
end Go.Proofs.Ytpffhgljgpjenaa
namespace Go.Proofs.Ytpffhgljgpjenaa
open Go Go.Bv Go.Cv Go.Md Go.RowKit
def k1a : Con TB.den := Con.mk0 80 [.one (.d (.sl (.int .u64))), .one (.d (.sl (.int .u64)))] [] (.one (.one (.d (.str)))) []
abbrev kt6 := HL TB.den (hsT k1a.ins (hsOs k1a.pre))
abbrev k3j := HL TB.den (hsV k1a.res (hsOs k1a.post))
noncomputable def k31 : Cx TB := ⟨inf, [kbz], [], 4⟩
noncomputable def k59 : Code := Try.f80.body.getD .skip
noncomputable def k6i : List ResultVar := Try.f80.results.toList
noncomputable def k13h (o : k3j) : Exit → TSt TB.den → Prop := thenT TB (fun s => ghs TB [] s fun s => WP TB k31 39 0 (cB (cB (cB (cB k59)))) .no s (retTQ TB k31 k1a k6i o)) (retTQ TB k31 k1a k6i o)
def k68 : Tm := ⟨[1], [.tip (.int .u8)], [5, 27, 28, 29], [.one (.own 0), .one (.d (.sl (.int .u64))), .one (.d (.int .i64)), .one (.d (.int .i64))], 2⟩
noncomputable def k12j (o : k3j) (nx2 : HL TB.den k68.hs → Prop) : Exit → TSt TB.den → Prop := thenT TB (fun s => k68.mat TB 0 s nx2) (blockT TB 2 (k13h o))
noncomputable def k9v (o : k3j) (nx2 : HL TB.den k68.hs → Prop) (i : HL TB.den k68.hs) : Prop := WP TB k31 39 0 (cA (cA (cB (cA (cB (cB (cB k59))))))) .no (k68.fill TB i) (k12j o nx2)
noncomputable def kpp (o : k3j) : An TB := .nd [] .no [] (.lp [] k68 (k9v o) fun nx2 => .no)
noncomputable def k12x (o : k3j) : Exit → TSt TB.den → Prop := thenT TB (fun s => ghs TB [] s fun s => WP TB k31 39 0 (cB (cB (cB k59))) (.nd [] (kpp o) [] .no) s (retTQ TB k31 k1a k6i o)) (retTQ TB k31 k1a k6i o)
def k6c : Tm := ⟨[1], [.tip (.int .u8)], [0, 5, 17, 18, 19], [.one (.d (.sl (.int .u64))), .one (.own 0), .one (.d (.sl (.int .u64))), .one (.d (.int .i64)), .one (.d (.int .i64))], 2⟩
noncomputable def k12q (o : k3j) (nx1 : HL TB.den k6c.hs → Prop) : Exit → TSt TB.den → Prop := thenT TB (fun s => k6c.mat TB 0 s nx1) (blockT TB 0 (k12x o))
noncomputable def k9q (o : k3j) (nx1 : HL TB.den k6c.hs → Prop) (i : HL TB.den k6c.hs) : Prop := WP TB k31 39 0 (cA (cA (cB (cA (cB (cB k59)))))) .no (k6c.fill TB i) (k12q o nx1)
noncomputable def k10f (o : k3j) : An TB := .lp [.frz 0 [5]] k6c (k9q o) fun nx1 => .no
noncomputable def k104 (o : k3j) : An TB := .nd [] (.nd [] .no [] (k10f o)) [] (.nd [] (kpp o) [] .no)
noncomputable def kpb (o : k3j) : An TB := .nd [] .no [] (.nd [] .no [] (k104 o))
noncomputable def ke1 (x : kt6) (o : k3j) : Prop := WPh TB k31 39 0 k59 (kpb o) (k1a.st TB x) (retTQ TB k31 k1a k6i o)
set_option maxRecDepth 100000 in
theorem kzp (o : k3j) : OblH TB k31 39 0 k59 (kpb o) (retTQ TB k31 k1a k6i o) :=
  OblH.of_eq (X := (True ∧ (True ∧ ((True ∧ ((∀ nx i, (k9q o) nx i = (k9q o) nx i) ∧ ∀ nx1 : HL TB.den k6c.hs → Prop, (True ∧ ((True ∧ True) ∧ ((True ∧ True) ∧ True))))) ∧ ((True ∧ ((∀ nx i, (k9v o) nx i = (k9v o) nx i) ∧ ∀ nx2 : HL TB.den k68.hs → Prop, (True ∧ ((True ∧ True) ∧ ((True ∧ True) ∧ True))))) ∧ (True ∧ True)))))) (by kernel_rfl) ⟨trivial, ⟨trivial, ⟨⟨trivial, ⟨fun _ _ => rfl, fun _ => ⟨trivial, ⟨⟨trivial, trivial⟩, ⟨⟨trivial, trivial⟩, trivial⟩⟩⟩⟩⟩, ⟨⟨trivial, ⟨fun _ _ => rfl, fun _ => ⟨trivial, ⟨⟨trivial, trivial⟩, ⟨⟨trivial, trivial⟩, trivial⟩⟩⟩⟩⟩, ⟨trivial, trivial⟩⟩⟩⟩⟩
set_option maxRecDepth 100000 in
theorem k10j {x : kt6} {o : k3j} (h : ke1 x o) : SoundH Try.prog k1a.f ((k1a.args idf x).map (er TB)) ((k1a.obs idf x).map (erO TB)) (er TB (k1a.val idf o)) ((k1a.ops idf o).map (erO TB)) :=
  Con.soundH (c := k1a) (C := k31) TBok ⟨inf_ok, (all_cons kml all_nil), all_nil⟩ mix Try.func80 (show Try.f80.body = some k59 by kernel_rfl) (show Try.f80.ntmps = 39 by kernel_rfl) (show Try.f80.results.toList = k6i by kernel_rfl) rfl h (kzp o)
set_option maxRecDepth 100000 in
theorem k12b {p0 : List Int} {p1 : List Int} {r0 : ByteArray} (h :
(let v1 : Int := IntKind.i64.wrap ((p1.length : Int) + (p0.length : Int))
 0 ≤ (0 : Int) ∧ (0 : Int) ≤ IntKind.i64.wrap (8 * v1) ∧ ((IntKind.i64.wrap (8 * v1)).toNat * 1 ≤ 140737488355328) ∧ ((IntKind.i64.wrap (8 * v1)).toNat ≤ maxLen) ∧ (0 = (List.replicate 0 (0 : Int)).length) ∧ (List.replicate 0 (0 : Int) = List.replicate 0 (0 : Int)) ∧ Md.Loop (p0, p1, ((p1.length : Int) : Int), (0 : Int), (List.replicate 0 (0 : Int) : List Int), ()) (k9q (r0, ())))) : ke1 (p0, p1, ()) (r0, ()) := WPh.of_eq (by kernel_rfl) h
def kq6 (r0 : ByteArray) (k1 : Int → List Int → Prop) (s0 : List Int) (s17 : List Int) (s18 : Int) (s19 : Int) (g1 : List Int) : Prop :=
(decide (s19 < s18) = true →
(0 ≤ s19) ∧ s19 < (s17.length : Int) ∧ (g1 = g1) ∧ (U64 (ix s17 s19) ∧ g1.length ≤ 137438953472) ∧ ((g1 ++ dig 8 (ix s17 s19)) = (g1 ++ dig 8 (ix s17 s19))) ∧ k1 (IntKind.i64.wrap (s19 + 1) : Int) ((g1 ++ dig 8 (ix s17 s19)) : List Int)) ∧
(decide (s19 < s18) = false →
(g1 = g1) ∧ Md.Loop (s0, ((s0.length : Int) : Int), (0 : Int), g1, ()) (k9v (r0, ())))
set_option maxRecDepth 100000 in
theorem kzs {r0 : ByteArray} {s0 : List Int} {s17 : List Int} {s18 : Int} {s19 : Int} {g1 : List Int} (inv : Int → List Int → Prop) (μ : Int → List Int → Nat) (h0 : inv s19 g1) (hs : ∀ (s19 : Int) (g1 : List Int), inv s19 g1 → kq6 r0 (fun s19q g1q => inv s19q g1q ∧ μ s19q g1q < μ s19 g1) s0 s17 s18 s19 g1) : Md.Loop (s0, s17, s18, s19, g1, ()) (k9q (r0, ())) :=
  ⟨⟨fun s : (List Int) × (List Int) × Int × Int × (List Int) × Unit => (s.1 = s0 ∧ s.2.1 = s17 ∧ s.2.2.1 = s18) ∧ inv s.2.2.2.1 s.2.2.2.2.1, fun s : (List Int) × (List Int) × Int × Int × (List Int) × Unit => μ s.2.2.2.1 s.2.2.2.2.1, ⟨⟨rfl, rfl, rfl⟩, h0⟩, fun (s0p, s17p, s18p, s19p, g1p, ()) ⟨⟨eq0, eq1, eq2⟩, hi⟩ => by
    have eq0 : s0p = s0 := eq0; subst s0p; have eq1 : s17p = s17 := eq1; subst s17p; have eq2 : s18p = s18 := eq2; subst s18p; exact mpr_of (by kernel_rfl) ((congrArg (fun k => kq6 r0 k s0 s17 s18 s19p g1p) (lpk2 (⟨rfl, rfl, rfl⟩ : s0 = s0 ∧ s17 = s17 ∧ s18 = s18) inv (fun s19q g1q => μ s19q g1q < μ s19p g1p))).mpr (hs s19p g1p hi))⟩⟩
def kpq (r0 : ByteArray) (k2 : Int → List Int → Prop) (s27 : List Int) (s28 : Int) (s29 : Int) (g1 : List Int) : Prop :=
(decide (s29 < s28) = true →
(0 ≤ s29) ∧ s29 < (s27.length : Int) ∧ (g1 = g1) ∧ (U64 (ix s27 s29) ∧ g1.length ≤ 137438953472) ∧ ((g1 ++ dig 8 (ix s27 s29)) = (g1 ++ dig 8 (ix s27 s29))) ∧ k2 (IntKind.i64.wrap (s29 + 1) : Int) ((g1 ++ dig 8 (ix s27 s29)) : List Int)) ∧
(decide (s29 < s28) = false →
 strOfNums g1 = r0)
set_option maxRecDepth 100000 in
theorem k10p {r0 : ByteArray} {s27 : List Int} {s28 : Int} {s29 : Int} {g1 : List Int} (inv : Int → List Int → Prop) (μ : Int → List Int → Nat) (h0 : inv s29 g1) (hs : ∀ (s29 : Int) (g1 : List Int), inv s29 g1 → kpq r0 (fun s29q g1q => inv s29q g1q ∧ μ s29q g1q < μ s29 g1) s27 s28 s29 g1) : Md.Loop (s27, s28, s29, g1, ()) (k9v (r0, ())) :=
  ⟨⟨fun s : (List Int) × Int × Int × (List Int) × Unit => (s.1 = s27 ∧ s.2.1 = s28) ∧ inv s.2.2.1 s.2.2.2.1, fun s : (List Int) × Int × Int × (List Int) × Unit => μ s.2.2.1 s.2.2.2.1, ⟨⟨rfl, rfl⟩, h0⟩, fun (s27p, s28p, s29p, g1p, ()) ⟨⟨eq0, eq1⟩, hi⟩ => by
    have eq0 : s27p = s27 := eq0; subst s27p; have eq1 : s28p = s28 := eq1; subst s28p; exact mpr_of (by kernel_rfl) ((congrArg (fun k => kpq r0 k s27 s28 s29p g1p) (lpk2 (⟨rfl, rfl⟩ : s27 = s27 ∧ s28 = s28) inv (fun s29q g1q => μ s29q g1q < μ s29p g1p))).mpr (hs s29p g1p hi))⟩⟩
theorem bd80 : Callable Try.prog 80 := ⟨by rw [Try.func80]; kernel_rfl, by rw [Try.func80]; show some _ ≠ some _; decide⟩
theorem kyh (p0 : List Int) (p1 : List Int) (h : Us p0 ∧ Us p1 ∧ p0.length ≤ 1073741824 ∧ p1.length ≤ 1073741824) : ke1 (p0, p1, ()) (((keyB p1 p0) : ByteArray), ()) := by
  obtain ⟨h0, h1, h2, h3⟩ := h
  refine k12b ?_
  rw [wi ((p1.length : Int) + p0.length) (by omega) (by omega)]
  simp only []
  rw [wi (8 * ((p1.length : Int) + p0.length)) (by omega) (by omega)]
  refine ⟨by omega, by omega, by omega, by unfold maxLen; omega, by trivial, by trivial, ?_⟩
  refine kzs (fun i g => FlatI (dig 8) [] p1 i g) (fun i _ => (p1.length - i).toNat) FlatI.start ?_
  intro i g hg
  have hl := hg.len 8 (fun x _ => by simp)
  refine ⟨fun hh => ?_, fun hh => ?_⟩
  · have hh := of_decide_eq_true hh
    exact ⟨hg.1, hh, rfl, ⟨h1 _ (ix_mem p1 i hg.1 hh), by simp at hl; omega⟩, by trivial, hg.next hh (by omega) rfl⟩
  · have hh := of_decide_eq_false hh
    have e := hg.done hh
    refine ⟨rfl, k10p (fun j g => FlatI (dig 8) (p1.flatMap (dig 8)) p0 j g) (fun j _ => (p0.length - j).toNat) (by rw [e]; exact FlatI.start) ?_⟩
    intro j g2 hg2
    have hl2 := hg2.len 8 (fun x _ => by simp)
    have hl3 := ksy p1
    refine ⟨fun hh2 => ?_, fun hh2 => ?_⟩
    · have hh2 := of_decide_eq_true hh2
      exact ⟨hg2.1, hh2, rfl, ⟨h0 _ (ix_mem p0 j hg2.1 hh2), by omega⟩, by trivial, hg2.next hh2 (by omega) rfl⟩
    · rw [hg2.done (of_decide_eq_false hh2)]; rfl
noncomputable def kn9 : Con TB.den := k1a.fnR (fun x => (fun (p0 : List Int) (p1 : List Int) => Us p0 ∧ Us p1 ∧ p0.length ≤ 1073741824 ∧ p1.length ≤ 1073741824) x.1 x.2.1) fun x => ((fun (p0 : List Int) (p1 : List Int) => ((keyB p1 p0) : ByteArray)) x.1 x.2.1, ())
theorem k13c : kn9.Ok Try.prog TB := Con.ok_fn k1a bd80 fun x h => k10j (kyh x.1 x.2.1 h)
end Go.Proofs.Ytpffhgljgpjenaa
namespace Go.Proofs.Ytpffhgljgpjenaa
open Go Go.Bv Go.Cv Go.Md Go.RowKit
def k22 : Con TB.den := Con.mk0 75 [.one (.ptr 0 0), .one (.d (.int .u64)), .one (.d (.sl (.int .u64)))] [.cells [.d (.bool), .d (.int .u64), .d (.int .i64), .d (.sl (.st 3)), .mp 1, .mp 2, .mp 3], .map (.str) (.int .i64), .map (.str) (.sl (.int .u64)), .map (.str) (.bool)] (.tup [.one (.d (.int .u64)), .one (.d (.bool))]) [.cells [.d (.bool), .d (.int .u64), .d (.int .i64), .d (.sl (.st 3)), .mp 1, .mp 2, .mp 3], .map (.str) (.int .i64), .map (.str) (.sl (.int .u64)), .map (.str) (.bool)]
abbrev kpm := HL TB.den (hsT k22.ins (hsOs k22.pre))
abbrev kct := HL TB.den (hsV k22.res (hsOs k22.post))
noncomputable def k8w : Cx TB := ⟨inf, [kfh, kn9, kaj], [], 4⟩
noncomputable def kd5 : Code := Try.f75.body.getD .skip
noncomputable def kfr : List ResultVar := Try.f75.results.toList
noncomputable def knp (o : kct) : An TB := .no
noncomputable def kdd (x : kpm) (o : kct) : Prop := WPh TB k8w 41 4 kd5 (knp o) (k22.st TB x) (retTQ TB k8w k22 kfr o)
set_option maxRecDepth 100000 in
theorem kz8 (o : kct) : OblH TB k8w 41 4 kd5 (knp o) (retTQ TB k8w k22 kfr o) :=
  OblH.of_eq (X := (True ∧ ((True ∧ ((True ∧ True) ∧ True)) ∧ ((True ∧ (True ∧ ((True ∧ True) ∧ True))) ∧ ((True ∧ ((True ∧ True) ∧ True)) ∧ (True ∧ True)))))) (by kernel_rfl) ⟨trivial, ⟨⟨trivial, ⟨⟨trivial, trivial⟩, trivial⟩⟩, ⟨⟨trivial, ⟨trivial, ⟨⟨trivial, trivial⟩, trivial⟩⟩⟩, ⟨⟨trivial, ⟨⟨trivial, trivial⟩, trivial⟩⟩, ⟨trivial, trivial⟩⟩⟩⟩⟩
set_option maxRecDepth 100000 in
theorem kyy {x : kpm} {o : kct} (h : kdd x o) : SoundH Try.prog k22.f ((k22.args idf x).map (er TB)) ((k22.obs idf x).map (erO TB)) (er TB (k22.val idf o)) ((k22.ops idf o).map (erO TB)) :=
  Con.soundH (c := k22) (C := k8w) TBok ⟨inf_ok, (all_cons ksv (all_cons k13c (all_cons kga all_nil))), all_nil⟩ mix Try.func75 (show Try.f75.body = some kd5 by kernel_rfl) (show Try.f75.ntmps = 41 by kernel_rfl) (show Try.f75.results.toList = kfr by kernel_rfl) rfl h (kz8 o)
set_option maxRecDepth 100000 in
theorem k117 {p1 : Int} {p2 : List Int} {c0_0 : Bool} {c0_1 : Int} {c0_2 : Int} {c0_3 : List TQuestion} {w1k : List ByteArray} {w1v : List Int} {w2k : List ByteArray} {w2v : List (List Int)} {w3k : List ByteArray} {w3v : List Bool} {r0 : Int} {r1 : Bool} {d0_0 : Bool} {d0_1 : Int} {d0_2 : Int} {d0_3 : List TQuestion} {e1k : List ByteArray} {e1v : List Int} {e2k : List ByteArray} {e2v : List (List Int)} {e3k : List ByteArray} {e3v : List Bool} (h :
((p2.length ≤ 9223372036854775807) ∧ ((!(allB p2)) = true →
 0 = r0 ∧ false = r1 ∧ c0_0 = d0_0 ∧ c0_1 = d0_1 ∧ c0_2 = d0_2 ∧ c0_3 = d0_3 ∧ w1k = e1k ∧ w1v = e1v ∧ w2k = e2k ∧ w2v = e2v ∧ w3k = e3k ∧ w3v = e3v) ∧
((!(allB p2)) = false →
(Us p2 ∧ Us [p1] ∧ p2.length ≤ 1073741824 ∧ [p1].length ≤ 1073741824) ∧ w1k.length = w1v.length ∧ let v2 : Int := mVal (BEq.beq (keyB [p1] p2)) w1k w1v (0 : Int)
(mHas (BEq.beq (keyB [p1] p2)) w1k = true →
(0 ≤ v2) ∧ v2 < (c0_3.length : Int) ∧ (ix c0_3 v2).Answer = r0 ∧ true = r1 ∧ c0_0 = d0_0 ∧ c0_1 = d0_1 ∧ c0_2 = d0_2 ∧ c0_3 = d0_3 ∧ w1k = e1k ∧ w1v = e1v ∧ w2k = e2k ∧ w2v = e2v ∧ w3k = e3k ∧ w3v = e3v) ∧
(mHas (BEq.beq (keyB [p1] p2)) w1k = false →
(c0_0 = true →
 0 = r0 ∧ false = r1 ∧ c0_0 = d0_0 ∧ c0_1 = d0_1 ∧ c0_2 = d0_2 ∧ c0_3 = d0_3 ∧ w1k = e1k ∧ w1v = e1v ∧ w2k = e2k ∧ w2v = e2v ∧ w3k = e3k ∧ w3v = e3v) ∧
(c0_0 = false →
((18446744069414584321 : Int) = 18446744069414584321 ∧ U64 p1 ∧ Us p2 ∧ p2.length ≤ 1099511627776) ∧ (hashS p1 p2) = r0 ∧ true = r1 ∧ c0_0 = d0_0 ∧ c0_1 = d0_1 ∧ c0_2 = d0_2 ∧ c0_3 = d0_3 ∧ w1k = e1k ∧ w1v = e1v ∧ w2k = e2k ∧ w2v = e2v ∧ w3k = e3k ∧ w3v = e3v))))) : kdd (p1, p2, c0_0, c0_1, c0_2, c0_3, w1k, w1v, w2k, w2v, w3k, w3v, ()) (r0, r1, d0_0, d0_1, d0_2, d0_3, e1k, e1v, e2k, e2v, e3k, e3v, ()) := WPh.of_eq (by kernel_rfl) h
theorem bd75 : Callable Try.prog 75 := ⟨by rw [Try.func75]; kernel_rfl, by rw [Try.func75]; show some _ ≠ some _; decide⟩
theorem kwl (p1 : Int) (p2 : List Int) (c0_0 : Bool) (c0_1 : Int) (c0_2 : Int) (c0_3 : List TQuestion) (w1k : List ByteArray) (w1v : List Int) (w2k : List ByteArray) (w2v : List (List Int)) (w3k : List ByteArray) (w3v : List Bool) (h : U64 p1 ∧ Us p2 ∧ p2.length ≤ 1073741824 ∧ OrOk w1k w1v c0_3) : kdd (p1, p2, c0_0, c0_1, c0_2, c0_3, w1k, w1v, w2k, w2v, w3k, w3v, ()) ((((pk c0_0 c0_3 w1k w1v p1 p2).getD 0) : Int), (((pk c0_0 c0_3 w1k w1v p1 p2).isSome) : Bool), (c0_0 : Bool), (c0_1 : Int), (c0_2 : Int), (c0_3 : List TQuestion), (w1k : List ByteArray), (w1v : List Int), (w2k : List ByteArray), (w2v : List (List Int)), (w3k : List ByteArray), (w3v : List Bool), ()) := by
  obtain ⟨h1, h2, h3, ho⟩ := h
  have hu : Us [p1] := by intro x hx; rw [List.mem_singleton] at hx; subst hx; exact h1
  refine k117 ⟨by omega, fun e => ?_, fun e => ⟨⟨h2, hu, h3, by simp⟩, ho.len, fun hm => ?_, fun hm => ⟨fun hi => ?_, fun hi => ⟨⟨rfl, h1, h2, by omega⟩, ?_⟩⟩⟩⟩
  · have e : allB p2 = false := by simpa using e
    simp [pk, e]
  · have e : allB p2 = true := by simpa using e
    have hv := ho.rng _ (k1a0 (z := (0 : Int)) hm ho.len)
    refine ⟨hv.1, hv.2, ?_⟩
    simp [pk, e, hm]
  · have e : allB p2 = true := by simpa using e
    simp [pk, e, hm, hi]
  · have e : allB p2 = true := by simpa using e
    simp [pk, e, hm, hi]
noncomputable def ke3 : Con TB.den := k22.fnR (fun x => (fun (p1 : Int) (p2 : List Int) (c0_0 : Bool) (c0_1 : Int) (c0_2 : Int) (c0_3 : List TQuestion) (w1k : List ByteArray) (w1v : List Int) (w2k : List ByteArray) (w2v : List (List Int)) (w3k : List ByteArray) (w3v : List Bool) => U64 p1 ∧ Us p2 ∧ p2.length ≤ 1073741824 ∧ OrOk w1k w1v c0_3) x.1 x.2.1 x.2.2.1 x.2.2.2.1 x.2.2.2.2.1 x.2.2.2.2.2.1 x.2.2.2.2.2.2.1 x.2.2.2.2.2.2.2.1 x.2.2.2.2.2.2.2.2.1 x.2.2.2.2.2.2.2.2.2.1 x.2.2.2.2.2.2.2.2.2.2.1 x.2.2.2.2.2.2.2.2.2.2.2.1) fun x => ((fun (p1 : Int) (p2 : List Int) (c0_0 : Bool) (c0_1 : Int) (c0_2 : Int) (c0_3 : List TQuestion) (w1k : List ByteArray) (w1v : List Int) (w2k : List ByteArray) (w2v : List (List Int)) (w3k : List ByteArray) (w3v : List Bool) => (((pk c0_0 c0_3 w1k w1v p1 p2).getD 0) : Int)) x.1 x.2.1 x.2.2.1 x.2.2.2.1 x.2.2.2.2.1 x.2.2.2.2.2.1 x.2.2.2.2.2.2.1 x.2.2.2.2.2.2.2.1 x.2.2.2.2.2.2.2.2.1 x.2.2.2.2.2.2.2.2.2.1 x.2.2.2.2.2.2.2.2.2.2.1 x.2.2.2.2.2.2.2.2.2.2.2.1, (fun (p1 : Int) (p2 : List Int) (c0_0 : Bool) (c0_1 : Int) (c0_2 : Int) (c0_3 : List TQuestion) (w1k : List ByteArray) (w1v : List Int) (w2k : List ByteArray) (w2v : List (List Int)) (w3k : List ByteArray) (w3v : List Bool) => (((pk c0_0 c0_3 w1k w1v p1 p2).isSome) : Bool)) x.1 x.2.1 x.2.2.1 x.2.2.2.1 x.2.2.2.2.1 x.2.2.2.2.2.1 x.2.2.2.2.2.2.1 x.2.2.2.2.2.2.2.1 x.2.2.2.2.2.2.2.2.1 x.2.2.2.2.2.2.2.2.2.1 x.2.2.2.2.2.2.2.2.2.2.1 x.2.2.2.2.2.2.2.2.2.2.2.1, (fun (p1 : Int) (p2 : List Int) (c0_0 : Bool) (c0_1 : Int) (c0_2 : Int) (c0_3 : List TQuestion) (w1k : List ByteArray) (w1v : List Int) (w2k : List ByteArray) (w2v : List (List Int)) (w3k : List ByteArray) (w3v : List Bool) => (c0_0 : Bool)) x.1 x.2.1 x.2.2.1 x.2.2.2.1 x.2.2.2.2.1 x.2.2.2.2.2.1 x.2.2.2.2.2.2.1 x.2.2.2.2.2.2.2.1 x.2.2.2.2.2.2.2.2.1 x.2.2.2.2.2.2.2.2.2.1 x.2.2.2.2.2.2.2.2.2.2.1 x.2.2.2.2.2.2.2.2.2.2.2.1, (fun (p1 : Int) (p2 : List Int) (c0_0 : Bool) (c0_1 : Int) (c0_2 : Int) (c0_3 : List TQuestion) (w1k : List ByteArray) (w1v : List Int) (w2k : List ByteArray) (w2v : List (List Int)) (w3k : List ByteArray) (w3v : List Bool) => (c0_1 : Int)) x.1 x.2.1 x.2.2.1 x.2.2.2.1 x.2.2.2.2.1 x.2.2.2.2.2.1 x.2.2.2.2.2.2.1 x.2.2.2.2.2.2.2.1 x.2.2.2.2.2.2.2.2.1 x.2.2.2.2.2.2.2.2.2.1 x.2.2.2.2.2.2.2.2.2.2.1 x.2.2.2.2.2.2.2.2.2.2.2.1, (fun (p1 : Int) (p2 : List Int) (c0_0 : Bool) (c0_1 : Int) (c0_2 : Int) (c0_3 : List TQuestion) (w1k : List ByteArray) (w1v : List Int) (w2k : List ByteArray) (w2v : List (List Int)) (w3k : List ByteArray) (w3v : List Bool) => (c0_2 : Int)) x.1 x.2.1 x.2.2.1 x.2.2.2.1 x.2.2.2.2.1 x.2.2.2.2.2.1 x.2.2.2.2.2.2.1 x.2.2.2.2.2.2.2.1 x.2.2.2.2.2.2.2.2.1 x.2.2.2.2.2.2.2.2.2.1 x.2.2.2.2.2.2.2.2.2.2.1 x.2.2.2.2.2.2.2.2.2.2.2.1, (fun (p1 : Int) (p2 : List Int) (c0_0 : Bool) (c0_1 : Int) (c0_2 : Int) (c0_3 : List TQuestion) (w1k : List ByteArray) (w1v : List Int) (w2k : List ByteArray) (w2v : List (List Int)) (w3k : List ByteArray) (w3v : List Bool) => (c0_3 : List TQuestion)) x.1 x.2.1 x.2.2.1 x.2.2.2.1 x.2.2.2.2.1 x.2.2.2.2.2.1 x.2.2.2.2.2.2.1 x.2.2.2.2.2.2.2.1 x.2.2.2.2.2.2.2.2.1 x.2.2.2.2.2.2.2.2.2.1 x.2.2.2.2.2.2.2.2.2.2.1 x.2.2.2.2.2.2.2.2.2.2.2.1, (fun (p1 : Int) (p2 : List Int) (c0_0 : Bool) (c0_1 : Int) (c0_2 : Int) (c0_3 : List TQuestion) (w1k : List ByteArray) (w1v : List Int) (w2k : List ByteArray) (w2v : List (List Int)) (w3k : List ByteArray) (w3v : List Bool) => (w1k : List ByteArray)) x.1 x.2.1 x.2.2.1 x.2.2.2.1 x.2.2.2.2.1 x.2.2.2.2.2.1 x.2.2.2.2.2.2.1 x.2.2.2.2.2.2.2.1 x.2.2.2.2.2.2.2.2.1 x.2.2.2.2.2.2.2.2.2.1 x.2.2.2.2.2.2.2.2.2.2.1 x.2.2.2.2.2.2.2.2.2.2.2.1, (fun (p1 : Int) (p2 : List Int) (c0_0 : Bool) (c0_1 : Int) (c0_2 : Int) (c0_3 : List TQuestion) (w1k : List ByteArray) (w1v : List Int) (w2k : List ByteArray) (w2v : List (List Int)) (w3k : List ByteArray) (w3v : List Bool) => (w1v : List Int)) x.1 x.2.1 x.2.2.1 x.2.2.2.1 x.2.2.2.2.1 x.2.2.2.2.2.1 x.2.2.2.2.2.2.1 x.2.2.2.2.2.2.2.1 x.2.2.2.2.2.2.2.2.1 x.2.2.2.2.2.2.2.2.2.1 x.2.2.2.2.2.2.2.2.2.2.1 x.2.2.2.2.2.2.2.2.2.2.2.1, (fun (p1 : Int) (p2 : List Int) (c0_0 : Bool) (c0_1 : Int) (c0_2 : Int) (c0_3 : List TQuestion) (w1k : List ByteArray) (w1v : List Int) (w2k : List ByteArray) (w2v : List (List Int)) (w3k : List ByteArray) (w3v : List Bool) => (w2k : List ByteArray)) x.1 x.2.1 x.2.2.1 x.2.2.2.1 x.2.2.2.2.1 x.2.2.2.2.2.1 x.2.2.2.2.2.2.1 x.2.2.2.2.2.2.2.1 x.2.2.2.2.2.2.2.2.1 x.2.2.2.2.2.2.2.2.2.1 x.2.2.2.2.2.2.2.2.2.2.1 x.2.2.2.2.2.2.2.2.2.2.2.1, (fun (p1 : Int) (p2 : List Int) (c0_0 : Bool) (c0_1 : Int) (c0_2 : Int) (c0_3 : List TQuestion) (w1k : List ByteArray) (w1v : List Int) (w2k : List ByteArray) (w2v : List (List Int)) (w3k : List ByteArray) (w3v : List Bool) => (w2v : List (List Int))) x.1 x.2.1 x.2.2.1 x.2.2.2.1 x.2.2.2.2.1 x.2.2.2.2.2.1 x.2.2.2.2.2.2.1 x.2.2.2.2.2.2.2.1 x.2.2.2.2.2.2.2.2.1 x.2.2.2.2.2.2.2.2.2.1 x.2.2.2.2.2.2.2.2.2.2.1 x.2.2.2.2.2.2.2.2.2.2.2.1, (fun (p1 : Int) (p2 : List Int) (c0_0 : Bool) (c0_1 : Int) (c0_2 : Int) (c0_3 : List TQuestion) (w1k : List ByteArray) (w1v : List Int) (w2k : List ByteArray) (w2v : List (List Int)) (w3k : List ByteArray) (w3v : List Bool) => (w3k : List ByteArray)) x.1 x.2.1 x.2.2.1 x.2.2.2.1 x.2.2.2.2.1 x.2.2.2.2.2.1 x.2.2.2.2.2.2.1 x.2.2.2.2.2.2.2.1 x.2.2.2.2.2.2.2.2.1 x.2.2.2.2.2.2.2.2.2.1 x.2.2.2.2.2.2.2.2.2.2.1 x.2.2.2.2.2.2.2.2.2.2.2.1, (fun (p1 : Int) (p2 : List Int) (c0_0 : Bool) (c0_1 : Int) (c0_2 : Int) (c0_3 : List TQuestion) (w1k : List ByteArray) (w1v : List Int) (w2k : List ByteArray) (w2v : List (List Int)) (w3k : List ByteArray) (w3v : List Bool) => (w3v : List Bool)) x.1 x.2.1 x.2.2.1 x.2.2.2.1 x.2.2.2.2.1 x.2.2.2.2.2.1 x.2.2.2.2.2.2.1 x.2.2.2.2.2.2.2.1 x.2.2.2.2.2.2.2.2.1 x.2.2.2.2.2.2.2.2.2.1 x.2.2.2.2.2.2.2.2.2.2.1 x.2.2.2.2.2.2.2.2.2.2.2.1, ())
theorem kmn : ke3.Ok Try.prog TB := Con.ok_fn k22 bd75 fun x h => kyy (kwl x.1 x.2.1 x.2.2.1 x.2.2.2.1 x.2.2.2.2.1 x.2.2.2.2.2.1 x.2.2.2.2.2.2.1 x.2.2.2.2.2.2.2.1 x.2.2.2.2.2.2.2.2.1 x.2.2.2.2.2.2.2.2.2.1 x.2.2.2.2.2.2.2.2.2.2.1 x.2.2.2.2.2.2.2.2.2.2.2.1 h)
end Go.Proofs.Ytpffhgljgpjenaa
namespace Go.Proofs.Ytpffhgljgpjenaa
open Go Go.Bv Go.Cv Go.Md Go.RowKit
def k2e : Con TB.den := Con.mk0 74 [.agg [.d (.int .u64), .d (.int .u64), .d (.int .u64), .d (.int .u64)]] [] (.one (.one (.d (.bool)))) []
abbrev kt0 := HL TB.den (hsT k2e.ins (hsOs k2e.pre))
abbrev kee := HL TB.den (hsV k2e.res (hsOs k2e.post))
noncomputable def k9y : Cx TB := ⟨inf, [], [], 4⟩
noncomputable def ke8 : Code := Try.f74.body.getD .skip
noncomputable def khr : List ResultVar := Try.f74.results.toList
noncomputable def kq8 (o : kee) : An TB := .no
noncomputable def kei (x : kt0) (o : kee) : Prop := WPh TB k9y 21 0 ke8 (kq8 o) (k2e.st TB x) (retTQ TB k9y k2e khr o)
set_option maxRecDepth 100000 in
theorem k10g (o : kee) : OblH TB k9y 21 0 ke8 (kq8 o) (retTQ TB k9y k2e khr o) :=
  OblH.of_eq (X := (True ∧ (True ∧ True))) (by kernel_rfl) ⟨trivial, ⟨trivial, trivial⟩⟩
set_option maxRecDepth 100000 in
theorem k10o {x : kt0} {o : kee} (h : kei x o) : SoundH Try.prog k2e.f ((k2e.args idf x).map (er TB)) ((k2e.obs idf x).map (erO TB)) (er TB (k2e.val idf o)) ((k2e.ops idf o).map (erO TB)) :=
  Con.soundH (c := k2e) (C := k9y) TBok ⟨inf_ok, all_nil, all_nil⟩ mix Try.func74 (show Try.f74.body = some ke8 by kernel_rfl) (show Try.f74.ntmps = 21 by kernel_rfl) (show Try.f74.results.toList = khr by kernel_rfl) rfl h (k10g o)
set_option maxRecDepth 100000 in
theorem k12z {p0 : TNote} {r0 : Bool} (h :
((decide (p0.Value ≤ 4294967295) = true →
(decide (p0.Owner < 18446744069414584321) = true →
(decide (p0.Rho < 18446744069414584321) = true →
 decide (p0.Blind < 18446744069414584321) = r0) ∧
(decide (p0.Rho < 18446744069414584321) = false →
 false = r0)) ∧
(decide (p0.Owner < 18446744069414584321) = false →
 false = r0)) ∧
(decide (p0.Value ≤ 4294967295) = false →
 false = r0))) : kei (p0.Value, p0.Owner, p0.Rho, p0.Blind, ()) (r0, ()) := WPh.of_eq (by kernel_rfl) h
theorem bd74 : Callable Try.prog 74 := ⟨by rw [Try.func74]; kernel_rfl, by rw [Try.func74]; show some _ ≠ some _; decide⟩
theorem kyp (p0 : TNote) : kei (p0.Value, p0.Owner, p0.Rho, p0.Blind, ()) (((noteV p0) : Bool), ()) := by
  refine k12z ?_
  unfold noteV
  grind
noncomputable def kbo : Con TB.den := k2e.totR fun x => ((fun (p0 : TNote) => ((noteV p0) : Bool)) (TNote.mk x.1 x.2.1 x.2.2.1 x.2.2.2.1), ())
theorem khj : kbo.Ok Try.prog TB := Con.ok_tot k2e bd74 fun x => k10o (kyp (TNote.mk x.1 x.2.1 x.2.2.1 x.2.2.2.1))
end Go.Proofs.Ytpffhgljgpjenaa
namespace Go.Proofs.Ytpffhgljgpjenaa
open Go Go.Bv Go.Cv Go.Md Go.RowKit
def k1c : Con TB.den := Con.mk0 76 [.agg [.d (.int .u64), .d (.int .u64), .d (.int .u64), .d (.int .u64)]] [] (.one (.one (.d (.sl (.int .u64))))) []
abbrev klo := HL TB.den (hsT k1c.ins (hsOs k1c.pre))
abbrev kai := HL TB.den (hsV k1c.res (hsOs k1c.post))
noncomputable def k7l : Cx TB := ⟨inf, [], [], 4⟩
noncomputable def kal : Code := Try.f76.body.getD .skip
noncomputable def kdb : List ResultVar := Try.f76.results.toList
noncomputable def kju (o : kai) : An TB := .no
noncomputable def kbi (x : klo) (o : kai) : Prop := WPh TB k7l 12 0 kal (kju o) (k1c.st TB x) (retTQ TB k7l k1c kdb o)
set_option maxRecDepth 100000 in
theorem ktx (o : kai) : OblH TB k7l 12 0 kal (kju o) (retTQ TB k7l k1c kdb o) :=
  OblH.of_eq (X := (True ∧ (True ∧ True))) (by kernel_rfl) ⟨trivial, ⟨trivial, trivial⟩⟩
set_option maxRecDepth 100000 in
theorem ku7 {x : klo} {o : kai} (h : kbi x o) : SoundH Try.prog k1c.f ((k1c.args idf x).map (er TB)) ((k1c.obs idf x).map (erO TB)) (er TB (k1c.val idf o)) ((k1c.ops idf o).map (erO TB)) :=
  Con.soundH (c := k1c) (C := k7l) TBok ⟨inf_ok, all_nil, all_nil⟩ mix Try.func76 (show Try.f76.body = some kal by kernel_rfl) (show Try.f76.ntmps = 12 by kernel_rfl) (show Try.f76.results.toList = kdb by kernel_rfl) rfl h (ktx o)
set_option maxRecDepth 100000 in
theorem kw6 {p0 : TNote} {r0 : List Int} (h :
([p0.Value, p0.Owner, p0.Rho, p0.Blind] = r0)) : kbi (p0.Value, p0.Owner, p0.Rho, p0.Blind, ()) (r0, ()) := WPh.of_eq (by kernel_rfl) h
theorem bd76 : Callable Try.prog 76 := ⟨by rw [Try.func76]; kernel_rfl, by rw [Try.func76]; show some _ ≠ some _; decide⟩
theorem ksg (p0 : TNote) : kbi (p0.Value, p0.Owner, p0.Rho, p0.Blind, ()) (((noteL p0) : List Int), ()) := by
  exact kw6 rfl
noncomputable def khz : Con TB.den := k1c.totR fun x => ((fun (p0 : TNote) => ((noteL p0) : List Int)) (TNote.mk x.1 x.2.1 x.2.2.1 x.2.2.2.1), ())
theorem kvx : khz.Ok Try.prog TB := Con.ok_tot k1c bd76 fun x => ku7 (ksg (TNote.mk x.1 x.2.1 x.2.2.1 x.2.2.2.1))
end Go.Proofs.Ytpffhgljgpjenaa
namespace Go.Proofs.Ytpffhgljgpjenaa
open Go Go.Bv Go.Cv Go.Md Go.RowKit
def k12 : Con TB.den := Con.mk0 34 [.one (.ptr 0 0), .agg [.d (.int .u64), .d (.int .u64), .d (.int .u64), .d (.int .u64)]] [.cells [.d (.bool), .d (.int .u64), .d (.int .i64), .d (.sl (.st 3)), .mp 1, .mp 2, .mp 3], .map (.str) (.int .i64), .map (.str) (.sl (.int .u64)), .map (.str) (.bool)] (.tup [.one (.d (.int .u64)), .one (.d (.bool))]) [.cells [.d (.bool), .d (.int .u64), .d (.int .i64), .d (.sl (.st 3)), .mp 1, .mp 2, .mp 3], .map (.str) (.int .i64), .map (.str) (.sl (.int .u64)), .map (.str) (.bool)]
abbrev kil := HL TB.den (hsT k12.ins (hsOs k12.pre))
abbrev k89 := HL TB.den (hsV k12.res (hsOs k12.post))
noncomputable def k60 : Cx TB := ⟨inf, [kbo, khz, ke3], [], 4⟩
noncomputable def k9k : Code := Try.f34.body.getD .skip
noncomputable def kay : List ResultVar := Try.f34.results.toList
noncomputable def khg (o : k89) : An TB := .no
noncomputable def k9m (x : kil) (o : k89) : Prop := WPh TB k60 15 4 k9k (khg o) (k12.st TB x) (retTQ TB k60 k12 kay o)
set_option maxRecDepth 100000 in
theorem kr7 (o : k89) : OblH TB k60 15 4 k9k (khg o) (retTQ TB k60 k12 kay o) :=
  OblH.of_eq (X := (True ∧ ((True ∧ ((True ∧ True) ∧ True)) ∧ (True ∧ True)))) (by kernel_rfl) ⟨trivial, ⟨⟨trivial, ⟨⟨trivial, trivial⟩, trivial⟩⟩, ⟨trivial, trivial⟩⟩⟩
set_option maxRecDepth 100000 in
theorem kql {x : kil} {o : k89} (h : k9m x o) : SoundH Try.prog k12.f ((k12.args idf x).map (er TB)) ((k12.obs idf x).map (erO TB)) (er TB (k12.val idf o)) ((k12.ops idf o).map (erO TB)) :=
  Con.soundH (c := k12) (C := k60) TBok ⟨inf_ok, (all_cons khj (all_cons kvx (all_cons kmn all_nil))), all_nil⟩ mix Try.func34 (show Try.f34.body = some k9k by kernel_rfl) (show Try.f34.ntmps = 15 by kernel_rfl) (show Try.f34.results.toList = kay by kernel_rfl) rfl h (kr7 o)
set_option maxRecDepth 100000 in
theorem krf {p1 : TNote} {c0_0 : Bool} {c0_1 : Int} {c0_2 : Int} {c0_3 : List TQuestion} {w1k : List ByteArray} {w1v : List Int} {w2k : List ByteArray} {w2v : List (List Int)} {w3k : List ByteArray} {w3v : List Bool} {r0 : Int} {r1 : Bool} {d0_0 : Bool} {d0_1 : Int} {d0_2 : Int} {d0_3 : List TQuestion} {e1k : List ByteArray} {e1v : List Int} {e2k : List ByteArray} {e2v : List (List Int)} {e3k : List ByteArray} {e3v : List Bool} (h :
(((!(noteV p1)) = true →
 0 = r0 ∧ false = r1 ∧ c0_0 = d0_0 ∧ c0_1 = d0_1 ∧ c0_2 = d0_2 ∧ c0_3 = d0_3 ∧ w1k = e1k ∧ w1v = e1v ∧ w2k = e2k ∧ w2v = e2v ∧ w3k = e3k ∧ w3v = e3v) ∧
((!(noteV p1)) = false →
(U64 (2 : Int) ∧ Us (noteL p1) ∧ (noteL p1).length ≤ 1073741824 ∧ OrOk w1k w1v c0_3) ∧ let r2 : Int := ((pk c0_0 c0_3 w1k w1v (2 : Int) (noteL p1)).getD 0)
 let r3 : Bool := ((pk c0_0 c0_3 w1k w1v (2 : Int) (noteL p1)).isSome)
 r2 = r0 ∧ r3 = r1 ∧ c0_0 = d0_0 ∧ c0_1 = d0_1 ∧ c0_2 = d0_2 ∧ c0_3 = d0_3 ∧ w1k = e1k ∧ w1v = e1v ∧ w2k = e2k ∧ w2v = e2v ∧ w3k = e3k ∧ w3v = e3v))) : k9m (p1.Value, p1.Owner, p1.Rho, p1.Blind, c0_0, c0_1, c0_2, c0_3, w1k, w1v, w2k, w2v, w3k, w3v, ()) (r0, r1, d0_0, d0_1, d0_2, d0_3, e1k, e1v, e2k, e2v, e3k, e3v, ()) := WPh.of_eq (by kernel_rfl) h
theorem bd34 : Callable Try.prog 34 := ⟨by rw [Try.func34]; kernel_rfl, by rw [Try.func34]; show some _ ≠ some _; decide⟩
theorem kow (p1 : TNote) (c0_0 : Bool) (c0_1 : Int) (c0_2 : Int) (c0_3 : List TQuestion) (w1k : List ByteArray) (w1v : List Int) (w2k : List ByteArray) (w2v : List (List Int)) (w3k : List ByteArray) (w3v : List Bool) (h : NR p1 ∧ OrOk w1k w1v c0_3) : k9m (p1.Value, p1.Owner, p1.Rho, p1.Blind, c0_0, c0_1, c0_2, c0_3, w1k, w1v, w2k, w2v, w3k, w3v, ()) ((((commP (pk c0_0 c0_3 w1k w1v) p1).getD 0) : Int), (((commP (pk c0_0 c0_3 w1k w1v) p1).isSome) : Bool), (c0_0 : Bool), (c0_1 : Int), (c0_2 : Int), (c0_3 : List TQuestion), (w1k : List ByteArray), (w1v : List Int), (w2k : List ByteArray), (w2v : List (List Int)), (w3k : List ByteArray), (w3v : List Bool), ()) := by
  obtain ⟨h1, ho⟩ := h
  have hu : Us (noteL p1) := by
    intro x hx
    simp only [noteL, List.mem_cons, List.not_mem_nil, or_false] at hx
    rcases hx with rfl | rfl | rfl | rfl
    · exact h1.v
    · exact h1.o
    · exact h1.r
    · exact h1.b
  refine krf ?_
  simp only [krs]
  unfold commP
  refine ⟨fun e => ?_, fun e => ⟨⟨by decide, hu, by simp [noteL], ho⟩, ?_⟩⟩
  · have e : noteV p1 = false := by simpa using e
    simp [e]
  · have e : noteV p1 = true := by simpa using e
    simp [e]
noncomputable def ka3 : Con TB.den := k12.fnR (fun x => (fun (p1 : TNote) (c0_0 : Bool) (c0_1 : Int) (c0_2 : Int) (c0_3 : List TQuestion) (w1k : List ByteArray) (w1v : List Int) (w2k : List ByteArray) (w2v : List (List Int)) (w3k : List ByteArray) (w3v : List Bool) => NR p1 ∧ OrOk w1k w1v c0_3) (TNote.mk x.1 x.2.1 x.2.2.1 x.2.2.2.1) x.2.2.2.2.1 x.2.2.2.2.2.1 x.2.2.2.2.2.2.1 x.2.2.2.2.2.2.2.1 x.2.2.2.2.2.2.2.2.1 x.2.2.2.2.2.2.2.2.2.1 x.2.2.2.2.2.2.2.2.2.2.1 x.2.2.2.2.2.2.2.2.2.2.2.1 x.2.2.2.2.2.2.2.2.2.2.2.2.1 x.2.2.2.2.2.2.2.2.2.2.2.2.2.1) fun x => ((fun (p1 : TNote) (c0_0 : Bool) (c0_1 : Int) (c0_2 : Int) (c0_3 : List TQuestion) (w1k : List ByteArray) (w1v : List Int) (w2k : List ByteArray) (w2v : List (List Int)) (w3k : List ByteArray) (w3v : List Bool) => (((commP (pk c0_0 c0_3 w1k w1v) p1).getD 0) : Int)) (TNote.mk x.1 x.2.1 x.2.2.1 x.2.2.2.1) x.2.2.2.2.1 x.2.2.2.2.2.1 x.2.2.2.2.2.2.1 x.2.2.2.2.2.2.2.1 x.2.2.2.2.2.2.2.2.1 x.2.2.2.2.2.2.2.2.2.1 x.2.2.2.2.2.2.2.2.2.2.1 x.2.2.2.2.2.2.2.2.2.2.2.1 x.2.2.2.2.2.2.2.2.2.2.2.2.1 x.2.2.2.2.2.2.2.2.2.2.2.2.2.1, (fun (p1 : TNote) (c0_0 : Bool) (c0_1 : Int) (c0_2 : Int) (c0_3 : List TQuestion) (w1k : List ByteArray) (w1v : List Int) (w2k : List ByteArray) (w2v : List (List Int)) (w3k : List ByteArray) (w3v : List Bool) => (((commP (pk c0_0 c0_3 w1k w1v) p1).isSome) : Bool)) (TNote.mk x.1 x.2.1 x.2.2.1 x.2.2.2.1) x.2.2.2.2.1 x.2.2.2.2.2.1 x.2.2.2.2.2.2.1 x.2.2.2.2.2.2.2.1 x.2.2.2.2.2.2.2.2.1 x.2.2.2.2.2.2.2.2.2.1 x.2.2.2.2.2.2.2.2.2.2.1 x.2.2.2.2.2.2.2.2.2.2.2.1 x.2.2.2.2.2.2.2.2.2.2.2.2.1 x.2.2.2.2.2.2.2.2.2.2.2.2.2.1, (fun (p1 : TNote) (c0_0 : Bool) (c0_1 : Int) (c0_2 : Int) (c0_3 : List TQuestion) (w1k : List ByteArray) (w1v : List Int) (w2k : List ByteArray) (w2v : List (List Int)) (w3k : List ByteArray) (w3v : List Bool) => (c0_0 : Bool)) (TNote.mk x.1 x.2.1 x.2.2.1 x.2.2.2.1) x.2.2.2.2.1 x.2.2.2.2.2.1 x.2.2.2.2.2.2.1 x.2.2.2.2.2.2.2.1 x.2.2.2.2.2.2.2.2.1 x.2.2.2.2.2.2.2.2.2.1 x.2.2.2.2.2.2.2.2.2.2.1 x.2.2.2.2.2.2.2.2.2.2.2.1 x.2.2.2.2.2.2.2.2.2.2.2.2.1 x.2.2.2.2.2.2.2.2.2.2.2.2.2.1, (fun (p1 : TNote) (c0_0 : Bool) (c0_1 : Int) (c0_2 : Int) (c0_3 : List TQuestion) (w1k : List ByteArray) (w1v : List Int) (w2k : List ByteArray) (w2v : List (List Int)) (w3k : List ByteArray) (w3v : List Bool) => (c0_1 : Int)) (TNote.mk x.1 x.2.1 x.2.2.1 x.2.2.2.1) x.2.2.2.2.1 x.2.2.2.2.2.1 x.2.2.2.2.2.2.1 x.2.2.2.2.2.2.2.1 x.2.2.2.2.2.2.2.2.1 x.2.2.2.2.2.2.2.2.2.1 x.2.2.2.2.2.2.2.2.2.2.1 x.2.2.2.2.2.2.2.2.2.2.2.1 x.2.2.2.2.2.2.2.2.2.2.2.2.1 x.2.2.2.2.2.2.2.2.2.2.2.2.2.1, (fun (p1 : TNote) (c0_0 : Bool) (c0_1 : Int) (c0_2 : Int) (c0_3 : List TQuestion) (w1k : List ByteArray) (w1v : List Int) (w2k : List ByteArray) (w2v : List (List Int)) (w3k : List ByteArray) (w3v : List Bool) => (c0_2 : Int)) (TNote.mk x.1 x.2.1 x.2.2.1 x.2.2.2.1) x.2.2.2.2.1 x.2.2.2.2.2.1 x.2.2.2.2.2.2.1 x.2.2.2.2.2.2.2.1 x.2.2.2.2.2.2.2.2.1 x.2.2.2.2.2.2.2.2.2.1 x.2.2.2.2.2.2.2.2.2.2.1 x.2.2.2.2.2.2.2.2.2.2.2.1 x.2.2.2.2.2.2.2.2.2.2.2.2.1 x.2.2.2.2.2.2.2.2.2.2.2.2.2.1, (fun (p1 : TNote) (c0_0 : Bool) (c0_1 : Int) (c0_2 : Int) (c0_3 : List TQuestion) (w1k : List ByteArray) (w1v : List Int) (w2k : List ByteArray) (w2v : List (List Int)) (w3k : List ByteArray) (w3v : List Bool) => (c0_3 : List TQuestion)) (TNote.mk x.1 x.2.1 x.2.2.1 x.2.2.2.1) x.2.2.2.2.1 x.2.2.2.2.2.1 x.2.2.2.2.2.2.1 x.2.2.2.2.2.2.2.1 x.2.2.2.2.2.2.2.2.1 x.2.2.2.2.2.2.2.2.2.1 x.2.2.2.2.2.2.2.2.2.2.1 x.2.2.2.2.2.2.2.2.2.2.2.1 x.2.2.2.2.2.2.2.2.2.2.2.2.1 x.2.2.2.2.2.2.2.2.2.2.2.2.2.1, (fun (p1 : TNote) (c0_0 : Bool) (c0_1 : Int) (c0_2 : Int) (c0_3 : List TQuestion) (w1k : List ByteArray) (w1v : List Int) (w2k : List ByteArray) (w2v : List (List Int)) (w3k : List ByteArray) (w3v : List Bool) => (w1k : List ByteArray)) (TNote.mk x.1 x.2.1 x.2.2.1 x.2.2.2.1) x.2.2.2.2.1 x.2.2.2.2.2.1 x.2.2.2.2.2.2.1 x.2.2.2.2.2.2.2.1 x.2.2.2.2.2.2.2.2.1 x.2.2.2.2.2.2.2.2.2.1 x.2.2.2.2.2.2.2.2.2.2.1 x.2.2.2.2.2.2.2.2.2.2.2.1 x.2.2.2.2.2.2.2.2.2.2.2.2.1 x.2.2.2.2.2.2.2.2.2.2.2.2.2.1, (fun (p1 : TNote) (c0_0 : Bool) (c0_1 : Int) (c0_2 : Int) (c0_3 : List TQuestion) (w1k : List ByteArray) (w1v : List Int) (w2k : List ByteArray) (w2v : List (List Int)) (w3k : List ByteArray) (w3v : List Bool) => (w1v : List Int)) (TNote.mk x.1 x.2.1 x.2.2.1 x.2.2.2.1) x.2.2.2.2.1 x.2.2.2.2.2.1 x.2.2.2.2.2.2.1 x.2.2.2.2.2.2.2.1 x.2.2.2.2.2.2.2.2.1 x.2.2.2.2.2.2.2.2.2.1 x.2.2.2.2.2.2.2.2.2.2.1 x.2.2.2.2.2.2.2.2.2.2.2.1 x.2.2.2.2.2.2.2.2.2.2.2.2.1 x.2.2.2.2.2.2.2.2.2.2.2.2.2.1, (fun (p1 : TNote) (c0_0 : Bool) (c0_1 : Int) (c0_2 : Int) (c0_3 : List TQuestion) (w1k : List ByteArray) (w1v : List Int) (w2k : List ByteArray) (w2v : List (List Int)) (w3k : List ByteArray) (w3v : List Bool) => (w2k : List ByteArray)) (TNote.mk x.1 x.2.1 x.2.2.1 x.2.2.2.1) x.2.2.2.2.1 x.2.2.2.2.2.1 x.2.2.2.2.2.2.1 x.2.2.2.2.2.2.2.1 x.2.2.2.2.2.2.2.2.1 x.2.2.2.2.2.2.2.2.2.1 x.2.2.2.2.2.2.2.2.2.2.1 x.2.2.2.2.2.2.2.2.2.2.2.1 x.2.2.2.2.2.2.2.2.2.2.2.2.1 x.2.2.2.2.2.2.2.2.2.2.2.2.2.1, (fun (p1 : TNote) (c0_0 : Bool) (c0_1 : Int) (c0_2 : Int) (c0_3 : List TQuestion) (w1k : List ByteArray) (w1v : List Int) (w2k : List ByteArray) (w2v : List (List Int)) (w3k : List ByteArray) (w3v : List Bool) => (w2v : List (List Int))) (TNote.mk x.1 x.2.1 x.2.2.1 x.2.2.2.1) x.2.2.2.2.1 x.2.2.2.2.2.1 x.2.2.2.2.2.2.1 x.2.2.2.2.2.2.2.1 x.2.2.2.2.2.2.2.2.1 x.2.2.2.2.2.2.2.2.2.1 x.2.2.2.2.2.2.2.2.2.2.1 x.2.2.2.2.2.2.2.2.2.2.2.1 x.2.2.2.2.2.2.2.2.2.2.2.2.1 x.2.2.2.2.2.2.2.2.2.2.2.2.2.1, (fun (p1 : TNote) (c0_0 : Bool) (c0_1 : Int) (c0_2 : Int) (c0_3 : List TQuestion) (w1k : List ByteArray) (w1v : List Int) (w2k : List ByteArray) (w2v : List (List Int)) (w3k : List ByteArray) (w3v : List Bool) => (w3k : List ByteArray)) (TNote.mk x.1 x.2.1 x.2.2.1 x.2.2.2.1) x.2.2.2.2.1 x.2.2.2.2.2.1 x.2.2.2.2.2.2.1 x.2.2.2.2.2.2.2.1 x.2.2.2.2.2.2.2.2.1 x.2.2.2.2.2.2.2.2.2.1 x.2.2.2.2.2.2.2.2.2.2.1 x.2.2.2.2.2.2.2.2.2.2.2.1 x.2.2.2.2.2.2.2.2.2.2.2.2.1 x.2.2.2.2.2.2.2.2.2.2.2.2.2.1, (fun (p1 : TNote) (c0_0 : Bool) (c0_1 : Int) (c0_2 : Int) (c0_3 : List TQuestion) (w1k : List ByteArray) (w1v : List Int) (w2k : List ByteArray) (w2v : List (List Int)) (w3k : List ByteArray) (w3v : List Bool) => (w3v : List Bool)) (TNote.mk x.1 x.2.1 x.2.2.1 x.2.2.2.1) x.2.2.2.2.1 x.2.2.2.2.2.1 x.2.2.2.2.2.2.1 x.2.2.2.2.2.2.2.1 x.2.2.2.2.2.2.2.2.1 x.2.2.2.2.2.2.2.2.2.1 x.2.2.2.2.2.2.2.2.2.2.1 x.2.2.2.2.2.2.2.2.2.2.2.1 x.2.2.2.2.2.2.2.2.2.2.2.2.1 x.2.2.2.2.2.2.2.2.2.2.2.2.2.1, ())
theorem kh4 : ka3.Ok Try.prog TB := Con.ok_fn k12 bd34 fun x h => kql (kow (TNote.mk x.1 x.2.1 x.2.2.1 x.2.2.2.1) x.2.2.2.2.1 x.2.2.2.2.2.1 x.2.2.2.2.2.2.1 x.2.2.2.2.2.2.2.1 x.2.2.2.2.2.2.2.2.1 x.2.2.2.2.2.2.2.2.2.1 x.2.2.2.2.2.2.2.2.2.2.1 x.2.2.2.2.2.2.2.2.2.2.2.1 x.2.2.2.2.2.2.2.2.2.2.2.2.1 x.2.2.2.2.2.2.2.2.2.2.2.2.2.1 h)
end Go.Proofs.Ytpffhgljgpjenaa
namespace Go.Proofs.Ytpffhgljgpjenaa
open Go Go.Bv Go.Cv Go.Md Go.RowKit
def ko : Con TB.den := Con.mk0 10 [.agg [.d (.sl (.st 0)), .d (.sl (.st 1)), .d (.int .u64)]] [] (.one (.one (.d (.int .u64)))) []
abbrev ki9 := HL TB.den (hsT ko.ins (hsOs ko.pre))
abbrev k3i := HL TB.den (hsV ko.res (hsOs ko.post))
noncomputable def k37 : Cx TB := ⟨inf, [], [], 4⟩
noncomputable def k56 : Code := Try.f10.body.getD .skip
noncomputable def k5y : List ResultVar := Try.f10.results.toList
noncomputable def ksh (o : k3i) : Exit → TSt TB.den → Prop := thenT TB (fun s => ghs TB [] s fun s => WP TB k37 20 0 (cB (cB (cB k56))) .no s (retTQ TB k37 ko k5y o)) (retTQ TB k37 ko k5y o)
def k4a : Tm := ⟨[], [], [3, 7, 8, 9], [.one (.d (.int .u64)), .one (.d (.sl (.st 0))), .one (.d (.int .i64)), .one (.d (.int .i64))], 1⟩
noncomputable def ksp (o : k3i) (nx1 : HL TB.den k4a.hs → Prop) : Exit → TSt TB.den → Prop := thenT TB (fun s => k4a.mat TB 0 s nx1) (blockT TB 0 (ksh o))
noncomputable def k61 (o : k3i) (nx1 : HL TB.den k4a.hs → Prop) (i : HL TB.den k4a.hs) : Prop := WP TB k37 20 0 (cA (cA (cB (cA (cB (cB k56)))))) .no (k4a.fill TB i) (ksp o nx1)
noncomputable def kt4 (o : k3i) : An TB := .lp [] k4a (k61 o) fun nx1 => .no
noncomputable def kth (o : k3i) : An TB := .nd [] .no [] (.nd [] (.nd [] .no [] (kt4 o)) [] .no)
noncomputable def khi (o : k3i) : An TB := .nd [] .no [] (kth o)
noncomputable def k9c (x : ki9) (o : k3i) : Prop := WPh TB k37 20 0 k56 (khi o) (ko.st TB x) (retTQ TB k37 ko k5y o)
set_option maxRecDepth 100000 in
theorem kqt (o : k3i) : OblH TB k37 20 0 k56 (khi o) (retTQ TB k37 ko k5y o) :=
  OblH.of_eq (X := (True ∧ (True ∧ ((True ∧ ((∀ nx i, (k61 o) nx i = (k61 o) nx i) ∧ ∀ nx1 : HL TB.den k4a.hs → Prop, (True ∧ ((True ∧ True) ∧ ((True ∧ True) ∧ True))))) ∧ (True ∧ True))))) (by kernel_rfl) ⟨trivial, ⟨trivial, ⟨⟨trivial, ⟨fun _ _ => rfl, fun _ => ⟨trivial, ⟨⟨trivial, trivial⟩, ⟨⟨trivial, trivial⟩, trivial⟩⟩⟩⟩⟩, ⟨trivial, trivial⟩⟩⟩⟩
set_option maxRecDepth 100000 in
theorem kqo {x : ki9} {o : k3i} (h : k9c x o) : SoundH Try.prog ko.f ((ko.args idf x).map (er TB)) ((ko.obs idf x).map (erO TB)) (er TB (ko.val idf o)) ((ko.ops idf o).map (erO TB)) :=
  Con.soundH (c := ko) (C := k37) TBok ⟨inf_ok, all_nil, all_nil⟩ mix Try.func10 (show Try.f10.body = some k56 by kernel_rfl) (show Try.f10.ntmps = 20 by kernel_rfl) (show Try.f10.results.toList = k5y by kernel_rfl) rfl h (kqt o)
set_option maxRecDepth 100000 in
theorem ksc {p0 : TWitness} {r0 : Int} (h :
(Md.Loop ((0 : Int), p0.Ins, ((p0.Ins.length : Int) : Int), (0 : Int), ()) (k61 (r0, ())))) : k9c (p0.Ins, p0.Outs, p0.Secret, ()) (r0, ()) := WPh.of_eq (by kernel_rfl) h
def khf (r0 : Int) (k1 : Int → Int → Prop) (s7 : List TSpent) (s8 : Int) (s3 : Int) (s9 : Int) : Prop :=
(decide (s9 < s8) = true →
(0 ≤ s9) ∧ s9 < (s7.length : Int) ∧ let v1 : Int := IntKind.u64.wrap (s3 + ((ix s7 s9).Note_Value))
 k1 v1 (IntKind.i64.wrap (s9 + 1) : Int)) ∧
(decide (s9 < s8) = false →
 s3 = r0)
set_option maxRecDepth 100000 in
theorem kqu {r0 : Int} {s7 : List TSpent} {s8 : Int} {s3 : Int} {s9 : Int} (inv : Int → Int → Prop) (μ : Int → Int → Nat) (h0 : inv s3 s9) (hs : ∀ (s3 : Int) (s9 : Int), inv s3 s9 → khf r0 (fun s3q s9q => inv s3q s9q ∧ μ s3q s9q < μ s3 s9) s7 s8 s3 s9) : Md.Loop (s3, s7, s8, s9, ()) (k61 (r0, ())) :=
  ⟨⟨fun s : Int × (List TSpent) × Int × Int × Unit => (s.2.1 = s7 ∧ s.2.2.1 = s8) ∧ inv s.1 s.2.2.2.1, fun s : Int × (List TSpent) × Int × Int × Unit => μ s.1 s.2.2.2.1, ⟨⟨rfl, rfl⟩, h0⟩, fun (s3p, s7p, s8p, s9p, ()) ⟨⟨eq0, eq1⟩, hi⟩ => by
    have eq0 : s7p = s7 := eq0; subst s7p; have eq1 : s8p = s8 := eq1; subst s8p; exact mpr_of (by kernel_rfl) ((congrArg (fun k => khf r0 k s7 s8 s3p s9p) (lpk2 (⟨rfl, rfl⟩ : s7 = s7 ∧ s8 = s8) inv (fun s3q s9q => μ s3q s9q < μ s3p s9p))).mpr (hs s3p s9p hi))⟩⟩
theorem bd10 : Callable Try.prog 10 := ⟨by rw [Try.func10]; kernel_rfl, by rw [Try.func10]; show some _ ≠ some _; decide⟩
theorem kog (p0 : TWitness) (h : p0.Ins.length ≤ 9223372036854775807) : k9c (p0.Ins, p0.Outs, p0.Secret, ()) (((inS p0.Ins) : Int), ()) := by
  refine ksc (kqu (fun s i => FoldI (fun s x => (s + x.Note_Value) % 18446744073709551616) 0 p0.Ins i s) (fun s i => (p0.Ins.length - i).toNat) FoldI.start ?_)
  intro s i hi
  refine ⟨fun hh => ?_, fun hh => hi.done (of_decide_eq_false hh)⟩
  have hh := of_decide_eq_true hh
  exact ⟨hi.1, hh, hi.next hh (by omega) (by rw [u64w])⟩
noncomputable def k7n : Con TB.den := ko.fnR (fun x => (fun (p0 : TWitness) => p0.Ins.length ≤ 9223372036854775807) (TWitness.mk x.1 x.2.1 x.2.2.1)) fun x => ((fun (p0 : TWitness) => ((inS p0.Ins) : Int)) (TWitness.mk x.1 x.2.1 x.2.2.1), ())
theorem kam : k7n.Ok Try.prog TB := Con.ok_fn ko bd10 fun x h => kqo (kog (TWitness.mk x.1 x.2.1 x.2.2.1) h)
end Go.Proofs.Ytpffhgljgpjenaa
namespace Go.Proofs.Ytpffhgljgpjenaa
open Go Go.Bv Go.Cv Go.Md Go.RowKit
def kk : Con TB.den := Con.mk0 12 [.agg [.d (.sl (.st 0)), .d (.sl (.st 1)), .d (.int .u64)]] [] (.one (.one (.d (.int .u64)))) []
abbrev kh3 := HL TB.den (hsT kk.ins (hsOs kk.pre))
abbrev k38 := HL TB.den (hsV kk.res (hsOs kk.post))
noncomputable def k2w : Cx TB := ⟨inf, [], [], 4⟩
noncomputable def k52 : Code := Try.f12.body.getD .skip
noncomputable def k5l : List ResultVar := Try.f12.results.toList
noncomputable def kr3 (o : k38) : Exit → TSt TB.den → Prop := thenT TB (fun s => ghs TB [] s fun s => WP TB k2w 19 0 (cB (cB (cB k52))) .no s (retTQ TB k2w kk k5l o)) (retTQ TB k2w kk k5l o)
def k3y : Tm := ⟨[], [], [3, 7, 8, 9], [.one (.d (.int .u64)), .one (.d (.sl (.st 1))), .one (.d (.int .i64)), .one (.d (.int .i64))], 1⟩
noncomputable def kr5 (o : k38) (nx1 : HL TB.den k3y.hs → Prop) : Exit → TSt TB.den → Prop := thenT TB (fun s => k3y.mat TB 0 s nx1) (blockT TB 0 (kr3 o))
noncomputable def k5j (o : k38) (nx1 : HL TB.den k3y.hs → Prop) (i : HL TB.den k3y.hs) : Prop := WP TB k2w 19 0 (cA (cA (cB (cA (cB (cB k52)))))) .no (k3y.fill TB i) (kr5 o nx1)
noncomputable def kqv (o : k38) : An TB := .lp [] k3y (k5j o) fun nx1 => .no
noncomputable def kqn (o : k38) : An TB := .nd [] .no [] (.nd [] (.nd [] .no [] (kqv o)) [] .no)
noncomputable def kff (o : k38) : An TB := .nd [] .no [] (kqn o)
noncomputable def k8q (x : kh3) (o : k38) : Prop := WPh TB k2w 19 0 k52 (kff o) (kk.st TB x) (retTQ TB k2w kk k5l o)
set_option maxRecDepth 100000 in
theorem kp7 (o : k38) : OblH TB k2w 19 0 k52 (kff o) (retTQ TB k2w kk k5l o) :=
  OblH.of_eq (X := (True ∧ (True ∧ ((True ∧ ((∀ nx i, (k5j o) nx i = (k5j o) nx i) ∧ ∀ nx1 : HL TB.den k3y.hs → Prop, (True ∧ ((True ∧ True) ∧ ((True ∧ True) ∧ True))))) ∧ (True ∧ True))))) (by kernel_rfl) ⟨trivial, ⟨trivial, ⟨⟨trivial, ⟨fun _ _ => rfl, fun _ => ⟨trivial, ⟨⟨trivial, trivial⟩, ⟨⟨trivial, trivial⟩, trivial⟩⟩⟩⟩⟩, ⟨trivial, trivial⟩⟩⟩⟩
set_option maxRecDepth 100000 in
theorem koo {x : kh3} {o : k38} (h : k8q x o) : SoundH Try.prog kk.f ((kk.args idf x).map (er TB)) ((kk.obs idf x).map (erO TB)) (er TB (kk.val idf o)) ((kk.ops idf o).map (erO TB)) :=
  Con.soundH (c := kk) (C := k2w) TBok ⟨inf_ok, all_nil, all_nil⟩ mix Try.func12 (show Try.f12.body = some k52 by kernel_rfl) (show Try.f12.ntmps = 19 by kernel_rfl) (show Try.f12.results.toList = k5l by kernel_rfl) rfl h (kp7 o)
set_option maxRecDepth 100000 in
theorem kqw {p0 : TWitness} {r0 : Int} (h :
(Md.Loop ((0 : Int), p0.Outs, ((p0.Outs.length : Int) : Int), (0 : Int), ()) (k5j (r0, ())))) : k8q (p0.Ins, p0.Outs, p0.Secret, ()) (r0, ()) := WPh.of_eq (by kernel_rfl) h
def kfa (r0 : Int) (k1 : Int → Int → Prop) (s7 : List TNote) (s8 : Int) (s3 : Int) (s9 : Int) : Prop :=
(decide (s9 < s8) = true →
(0 ≤ s9) ∧ s9 < (s7.length : Int) ∧ let v1 : Int := IntKind.u64.wrap (s3 + ((ix s7 s9).Value))
 k1 v1 (IntKind.i64.wrap (s9 + 1) : Int)) ∧
(decide (s9 < s8) = false →
 s3 = r0)
set_option maxRecDepth 100000 in
theorem kos {r0 : Int} {s7 : List TNote} {s8 : Int} {s3 : Int} {s9 : Int} (inv : Int → Int → Prop) (μ : Int → Int → Nat) (h0 : inv s3 s9) (hs : ∀ (s3 : Int) (s9 : Int), inv s3 s9 → kfa r0 (fun s3q s9q => inv s3q s9q ∧ μ s3q s9q < μ s3 s9) s7 s8 s3 s9) : Md.Loop (s3, s7, s8, s9, ()) (k5j (r0, ())) :=
  ⟨⟨fun s : Int × (List TNote) × Int × Int × Unit => (s.2.1 = s7 ∧ s.2.2.1 = s8) ∧ inv s.1 s.2.2.2.1, fun s : Int × (List TNote) × Int × Int × Unit => μ s.1 s.2.2.2.1, ⟨⟨rfl, rfl⟩, h0⟩, fun (s3p, s7p, s8p, s9p, ()) ⟨⟨eq0, eq1⟩, hi⟩ => by
    have eq0 : s7p = s7 := eq0; subst s7p; have eq1 : s8p = s8 := eq1; subst s8p; exact mpr_of (by kernel_rfl) ((congrArg (fun k => kfa r0 k s7 s8 s3p s9p) (lpk2 (⟨rfl, rfl⟩ : s7 = s7 ∧ s8 = s8) inv (fun s3q s9q => μ s3q s9q < μ s3p s9p))).mpr (hs s3p s9p hi))⟩⟩
theorem bd12 : Callable Try.prog 12 := ⟨by rw [Try.func12]; kernel_rfl, by rw [Try.func12]; show some _ ≠ some _; decide⟩
theorem kn2 (p0 : TWitness) (h : p0.Outs.length ≤ 9223372036854775807) : k8q (p0.Ins, p0.Outs, p0.Secret, ()) (((outS p0.Outs) : Int), ()) := by
  refine kqw (kos (fun s i => FoldI (fun s x => (s + x.Value) % 18446744073709551616) 0 p0.Outs i s) (fun s i => (p0.Outs.length - i).toNat) FoldI.start ?_)
  intro s i hi
  refine ⟨fun hh => ?_, fun hh => hi.done (of_decide_eq_false hh)⟩
  have hh := of_decide_eq_true hh
  exact ⟨hi.1, hh, hi.next hh (by omega) (by rw [u64w])⟩
noncomputable def k6y : Con TB.den := kk.fnR (fun x => (fun (p0 : TWitness) => p0.Outs.length ≤ 9223372036854775807) (TWitness.mk x.1 x.2.1 x.2.2.1)) fun x => ((fun (p0 : TWitness) => ((outS p0.Outs) : Int)) (TWitness.mk x.1 x.2.1 x.2.2.1), ())
theorem kaa : k6y.Ok Try.prog TB := Con.ok_fn kk bd12 fun x h => koo (kn2 (TWitness.mk x.1 x.2.1 x.2.2.1) h)
end Go.Proofs.Ytpffhgljgpjenaa
namespace Go.Proofs.Ytpffhgljgpjenaa
open Go Go.Bv Go.Cv Go.Md Go.RowKit
def kf : Con TB.den := Con.mk0 68 [.one (.d (.sl (.int .u64)))] [] (.one (.one (.d (.bool)))) []
abbrev kfb := HL TB.den (hsT kf.ins (hsOs kf.pre))
abbrev k3f := HL TB.den (hsV kf.res (hsOs kf.post))
noncomputable def k2k : Cx TB := ⟨inf, [], [], 4⟩
noncomputable def k4q : Code := Try.f68.body.getD .skip
noncomputable def k5a : List ResultVar := Try.f68.results.toList
noncomputable def kom (o : k3f) : Exit → TSt TB.den → Prop := thenT TB (fun s => ghs TB [] s fun s => WP TB k2k 14 0 (cB (cB k4q)) .no s (retTQ TB k2k kf k5a o)) (retTQ TB k2k kf k5a o)
def k3o : Tm := ⟨[], [], [5, 6, 7], [.one (.d (.sl (.int .u64))), .one (.d (.int .i64)), .one (.d (.int .i64))], 0⟩
noncomputable def knz (o : k3f) (nx1 : HL TB.den k3o.hs → Prop) : Exit → TSt TB.den → Prop := thenT TB (fun s => k3o.mat TB 0 s nx1) (blockT TB 0 (kom o))
noncomputable def k5b (o : k3f) (nx1 : HL TB.den k3o.hs → Prop) (i : HL TB.den k3o.hs) : Prop := WP TB k2k 14 0 (cA (cA (cB (cA (cB k4q))))) .no (k3o.fill TB i) (knz o nx1)
noncomputable def kp0 (o : k3f) : An TB := .lp [] k3o (k5b o) fun nx1 => .no
noncomputable def kek (o : k3f) : An TB := .nd [] .no [] (.nd [] (.nd [] .no [] (kp0 o)) [] .no)
noncomputable def k87 (x : kfb) (o : k3f) : Prop := WPh TB k2k 14 0 k4q (kek o) (kf.st TB x) (retTQ TB k2k kf k5a o)
set_option maxRecDepth 100000 in
theorem knh (o : k3f) : OblH TB k2k 14 0 k4q (kek o) (retTQ TB k2k kf k5a o) :=
  OblH.of_eq (X := (True ∧ ((True ∧ ((∀ nx i, (k5b o) nx i = (k5b o) nx i) ∧ ∀ nx1 : HL TB.den k3o.hs → Prop, (True ∧ ((True ∧ True) ∧ ((True ∧ (True ∧ ((True ∧ True) ∧ True))) ∧ True))))) ∧ (True ∧ True)))) (by kernel_rfl) ⟨trivial, ⟨⟨trivial, ⟨fun _ _ => rfl, fun _ => ⟨trivial, ⟨⟨trivial, trivial⟩, ⟨⟨trivial, ⟨trivial, ⟨⟨trivial, trivial⟩, trivial⟩⟩⟩, trivial⟩⟩⟩⟩⟩, ⟨trivial, trivial⟩⟩⟩
set_option maxRecDepth 100000 in
theorem kmy {x : kfb} {o : k3f} (h : k87 x o) : SoundH Try.prog kf.f ((kf.args idf x).map (er TB)) ((kf.obs idf x).map (erO TB)) (er TB (kf.val idf o)) ((kf.ops idf o).map (erO TB)) :=
  Con.soundH (c := kf) (C := k2k) TBok ⟨inf_ok, all_nil, all_nil⟩ mix Try.func68 (show Try.f68.body = some k4q by kernel_rfl) (show Try.f68.ntmps = 14 by kernel_rfl) (show Try.f68.results.toList = k5a by kernel_rfl) rfl h (knh o)
set_option maxRecDepth 100000 in
theorem kov {p0 : List Int} {r0 : Bool} (h :
(Md.Loop (p0, ((p0.length : Int) : Int), (0 : Int), ()) (k5b (r0, ())))) : k87 (p0, ()) (r0, ()) := WPh.of_eq (by kernel_rfl) h
def kes (r0 : Bool) (k1 : Int → Prop) (s5 : List Int) (s6 : Int) (s7 : Int) : Prop :=
(decide (s7 < s6) = true →
(0 ≤ s7) ∧ s7 < (s5.length : Int) ∧ let v1 : Bool := decide (18446744069414584321 ≤ (ix s5 s7))
(v1 = true →
 false = r0) ∧
(v1 = false →
 k1 (IntKind.i64.wrap (s7 + 1) : Int))) ∧
(decide (s7 < s6) = false →
 true = r0)
set_option maxRecDepth 100000 in
theorem knu {r0 : Bool} {s5 : List Int} {s6 : Int} {s7 : Int} (inv : Int → Prop) (μ : Int → Nat) (h0 : inv s7) (hs : ∀ (s7 : Int), inv s7 → kes r0 (fun s7q => inv s7q ∧ μ s7q < μ s7) s5 s6 s7) : Md.Loop (s5, s6, s7, ()) (k5b (r0, ())) :=
  ⟨⟨fun s : (List Int) × Int × Int × Unit => (s.1 = s5 ∧ s.2.1 = s6) ∧ inv s.2.2.1, fun s : (List Int) × Int × Int × Unit => μ s.2.2.1, ⟨⟨rfl, rfl⟩, h0⟩, fun (s5p, s6p, s7p, ()) ⟨⟨eq0, eq1⟩, hi⟩ => by
    have eq0 : s5p = s5 := eq0; subst s5p; have eq1 : s6p = s6 := eq1; subst s6p; exact mpr_of (by kernel_rfl) ((congrArg (fun k => kes r0 k s5 s6 s7p) (lpk1 (⟨rfl, rfl⟩ : s5 = s5 ∧ s6 = s6) inv (fun s7q => μ s7q < μ s7p))).mpr (hs s7p hi))⟩⟩
theorem bd68 : Callable Try.prog 68 := ⟨by rw [Try.func68]; kernel_rfl, by rw [Try.func68]; show some _ ≠ some _; decide⟩
theorem kmg (p0 : List Int) (h : p0.length ≤ 9223372036854775807) : k87 (p0, ()) (((allB p0) : Bool), ()) := by
  refine kov (knu (AllI (fun x => decide (x < 18446744069414584321)) p0) (fun i => (p0.length - i).toNat) AllI.start ?_)
  intro i hi
  refine ⟨fun hh => ?_, fun hh => (hi.done (of_decide_eq_false hh)).symm⟩
  have hh := of_decide_eq_true hh
  exact ⟨hi.1, hh, fun e => (hi.bad hh (by simpa using e)).symm, fun e => hi.next hh (by omega) (by simpa using e)⟩
noncomputable def k8d : Con TB.den := kf.fnR (fun x => (fun (p0 : List Int) => p0.length ≤ 9223372036854775807) x.1) fun x => ((fun (p0 : List Int) => ((allB p0) : Bool)) x.1, ())
theorem kej : k8d.Ok Try.prog TB := Con.ok_fn kf bd68 fun x h => kmy (kmg x.1 h)
end Go.Proofs.Ytpffhgljgpjenaa
namespace Go.Proofs.Ytpffhgljgpjenaa
open Go Go.Bv Go.Cv Go.Md Go.RowKit
def kr : Con TB.den := Con.mk0 70 [.one (.d (.sl (.st 1)))] [] (.one (.one (.d (.bool)))) []
abbrev kjp := HL TB.den (hsT kr.ins (hsOs kr.pre))
abbrev k43 := HL TB.den (hsV kr.res (hsOs kr.post))
noncomputable def k3h : Cx TB := ⟨inf, [kbo], [], 4⟩
noncomputable def k5o : Code := Try.f70.body.getD .skip
noncomputable def k6m : List ResultVar := Try.f70.results.toList
noncomputable def kut (o : k43) : Exit → TSt TB.den → Prop := thenT TB (fun s => ghs TB [] s fun s => WP TB k3h 15 0 (cB (cB k5o)) .no s (retTQ TB k3h kr k6m o)) (retTQ TB k3h kr k6m o)
def k4f : Tm := ⟨[], [], [5, 6, 7], [.one (.d (.sl (.st 1))), .one (.d (.int .i64)), .one (.d (.int .i64))], 0⟩
noncomputable def kto (o : k43) (nx1 : HL TB.den k4f.hs → Prop) : Exit → TSt TB.den → Prop := thenT TB (fun s => k4f.mat TB 0 s nx1) (blockT TB 0 (kut o))
noncomputable def k6n (o : k43) (nx1 : HL TB.den k4f.hs → Prop) (i : HL TB.den k4f.hs) : Prop := WP TB k3h 15 0 (cA (cA (cB (cA (cB k5o))))) .no (k4f.fill TB i) (kto o nx1)
noncomputable def ktz (o : k43) : An TB := .lp [] k4f (k6n o) fun nx1 => .no
noncomputable def ki7 (o : k43) : An TB := .nd [] .no [] (.nd [] (.nd [] .no [] (ktz o)) [] .no)
noncomputable def kac (x : kjp) (o : k43) : Prop := WPh TB k3h 15 0 k5o (ki7 o) (kr.st TB x) (retTQ TB k3h kr k6m o)
set_option maxRecDepth 100000 in
theorem krd (o : k43) : OblH TB k3h 15 0 k5o (ki7 o) (retTQ TB k3h kr k6m o) :=
  OblH.of_eq (X := (True ∧ ((True ∧ ((∀ nx i, (k6n o) nx i = (k6n o) nx i) ∧ ∀ nx1 : HL TB.den k4f.hs → Prop, (True ∧ ((True ∧ True) ∧ ((True ∧ (True ∧ ((True ∧ True) ∧ True))) ∧ True))))) ∧ (True ∧ True)))) (by kernel_rfl) ⟨trivial, ⟨⟨trivial, ⟨fun _ _ => rfl, fun _ => ⟨trivial, ⟨⟨trivial, trivial⟩, ⟨⟨trivial, ⟨trivial, ⟨⟨trivial, trivial⟩, trivial⟩⟩⟩, trivial⟩⟩⟩⟩⟩, ⟨trivial, trivial⟩⟩⟩
set_option maxRecDepth 100000 in
theorem ksz {x : kjp} {o : k43} (h : kac x o) : SoundH Try.prog kr.f ((kr.args idf x).map (er TB)) ((kr.obs idf x).map (erO TB)) (er TB (kr.val idf o)) ((kr.ops idf o).map (erO TB)) :=
  Con.soundH (c := kr) (C := k3h) TBok ⟨inf_ok, (all_cons khj all_nil), all_nil⟩ mix Try.func70 (show Try.f70.body = some k5o by kernel_rfl) (show Try.f70.ntmps = 15 by kernel_rfl) (show Try.f70.results.toList = k6m by kernel_rfl) rfl h (krd o)
set_option maxRecDepth 100000 in
theorem kud {p0 : List TNote} {r0 : Bool} (h :
(Md.Loop (p0, ((p0.length : Int) : Int), (0 : Int), ()) (k6n (r0, ())))) : kac (p0, ()) (r0, ()) := WPh.of_eq (by kernel_rfl) h
def ki3 (r0 : Bool) (k1 : Int → Prop) (s5 : List TNote) (s6 : Int) (s7 : Int) : Prop :=
(decide (s7 < s6) = true →
(0 ≤ s7) ∧ s7 < (s5.length : Int) ∧ ((!(noteV (ix s5 s7))) = true →
 false = r0) ∧
((!(noteV (ix s5 s7))) = false →
 k1 (IntKind.i64.wrap (s7 + 1) : Int))) ∧
(decide (s7 < s6) = false →
 true = r0)
set_option maxRecDepth 100000 in
theorem ks8 {r0 : Bool} {s5 : List TNote} {s6 : Int} {s7 : Int} (inv : Int → Prop) (μ : Int → Nat) (h0 : inv s7) (hs : ∀ (s7 : Int), inv s7 → ki3 r0 (fun s7q => inv s7q ∧ μ s7q < μ s7) s5 s6 s7) : Md.Loop (s5, s6, s7, ()) (k6n (r0, ())) :=
  ⟨⟨fun s : (List TNote) × Int × Int × Unit => (s.1 = s5 ∧ s.2.1 = s6) ∧ inv s.2.2.1, fun s : (List TNote) × Int × Int × Unit => μ s.2.2.1, ⟨⟨rfl, rfl⟩, h0⟩, fun (s5p, s6p, s7p, ()) ⟨⟨eq0, eq1⟩, hi⟩ => by
    have eq0 : s5p = s5 := eq0; subst s5p; have eq1 : s6p = s6 := eq1; subst s6p; exact mpr_of (by kernel_rfl) ((congrArg (fun k => ki3 r0 k s5 s6 s7p) (lpk1 (⟨rfl, rfl⟩ : s5 = s5 ∧ s6 = s6) inv (fun s7q => μ s7q < μ s7p))).mpr (hs s7p hi))⟩⟩
theorem bd70 : Callable Try.prog 70 := ⟨by rw [Try.func70]; kernel_rfl, by rw [Try.func70]; show some _ ≠ some _; decide⟩
theorem kr6 (p0 : List TNote) (h : p0.length ≤ 9223372036854775807) : kac (p0, ()) (((p0.all noteV) : Bool), ()) := by
  refine kud (ks8 (AllI noteV p0) (fun i => (p0.length - i).toNat) AllI.start ?_)
  intro i hi
  refine ⟨fun hh => ?_, fun hh => (hi.done (of_decide_eq_false hh)).symm⟩
  have hh := of_decide_eq_true hh
  exact ⟨hi.1, hh, fun e => (hi.bad hh (by simpa using e)).symm, fun e => hi.next hh (by omega) (by simpa using e)⟩
noncomputable def khb : Con TB.den := kr.fnR (fun x => (fun (p0 : List TNote) => p0.length ≤ 9223372036854775807) x.1) fun x => ((fun (p0 : List TNote) => ((p0.all noteV) : Bool)) x.1, ())
theorem kus : khb.Ok Try.prog TB := Con.ok_fn kr bd70 fun x h => ksz (kr6 x.1 h)
end Go.Proofs.Ytpffhgljgpjenaa
namespace Go.Proofs.Ytpffhgljgpjenaa
open Go Go.Bv Go.Cv Go.Md Go.RowKit
def kn : Con TB.den := Con.mk0 69 [.agg [.d (.int .u64), .d (.int .u64), .d (.int .u64), .d (.int .u64), .d (.int .u64), .d (.int .i64), .d (.int .i64), .d (.sl (.int .u64)), .d (.bool)]] [] (.one (.one (.d (.bool)))) []
abbrev kec := HL TB.den (hsT kn.ins (hsOs kn.pre))
abbrev k6w := HL TB.den (hsV kn.res (hsOs kn.post))
noncomputable def k53 : Cx TB := ⟨inf, [kbo, k8d], [], 4⟩
noncomputable def k7o : Code := Try.f69.body.getD .skip
noncomputable def k95 : List ResultVar := Try.f69.results.toList
noncomputable def kdx (o : k6w) : An TB := .no
noncomputable def k7p (x : kec) (o : k6w) : Prop := WPh TB k53 43 0 k7o (kdx o) (kn.st TB x) (retTQ TB k53 kn k95 o)
set_option maxRecDepth 100000 in
theorem km0 (o : k6w) : OblH TB k53 43 0 k7o (kdx o) (retTQ TB k53 kn k95 o) :=
  OblH.of_eq (X := (True ∧ (True ∧ True))) (by kernel_rfl) ⟨trivial, ⟨trivial, trivial⟩⟩
set_option maxRecDepth 100000 in
theorem klz {x : kec} {o : k6w} (h : k7p x o) : SoundH Try.prog kn.f ((kn.args idf x).map (er TB)) ((kn.obs idf x).map (erO TB)) (er TB (kn.val idf o)) ((kn.ops idf o).map (erO TB)) :=
  Con.soundH (c := kn) (C := k53) TBok ⟨inf_ok, (all_cons khj (all_cons kej all_nil)), all_nil⟩ mix Try.func69 (show Try.f69.body = some k7o by kernel_rfl) (show Try.f69.ntmps = 43 by kernel_rfl) (show Try.f69.results.toList = k95 by kernel_rfl) rfl h (km0 o)
set_option maxRecDepth 100000 in
theorem knw {p0 : TSpent} {r0 : Bool} (h :
(let r1 : Bool := (noteV (TNote.mk p0.Note_Value p0.Note_Owner p0.Note_Rho p0.Note_Blind))
(r1 = true →
([p0.Key].length ≤ 9223372036854775807) ∧ ((allB [p0.Key]) = true →
(decide (0 ≤ p0.Number) = true →
(decide (p0.Number < 4) = true →
(decide (0 ≤ p0.Position) = true →
(decide (p0.Position ≤ 4095) = true →
(decide ((p0.Path.length : Int) ≤ 12) = true →
(p0.Path.length ≤ 9223372036854775807) ∧ (allB p0.Path) = r0) ∧
(decide ((p0.Path.length : Int) ≤ 12) = false →
 false = r0)) ∧
(decide (p0.Position ≤ 4095) = false →
 false = r0)) ∧
(decide (0 ≤ p0.Position) = false →
 false = r0)) ∧
(decide (p0.Number < 4) = false →
 false = r0)) ∧
(decide (0 ≤ p0.Number) = false →
 false = r0)) ∧
((allB [p0.Key]) = false →
 false = r0)) ∧
(r1 = false →
 false = r0))) : k7p (p0.Note_Value, p0.Note_Owner, p0.Note_Rho, p0.Note_Blind, p0.Key, p0.Number, p0.Position, p0.Path, p0.Dummy, ()) (r0, ()) := WPh.of_eq (by kernel_rfl) h
theorem bd69 : Callable Try.prog 69 := ⟨by rw [Try.func69]; kernel_rfl, by rw [Try.func69]; show some _ ≠ some _; decide⟩
theorem kkm (p0 : TSpent) (h : p0.Path.length ≤ 9223372036854775807) : k7p (p0.Note_Value, p0.Note_Owner, p0.Note_Rho, p0.Note_Blind, p0.Key, p0.Number, p0.Position, p0.Path, p0.Dummy, ()) (((spendV p0) : Bool), ()) := by
  have e1 : allB [p0.Key] = decide (p0.Key < 18446744069414584321) := by simp [allB]
  have e2 : (decide ((p0.Path.length : Int) ≤ 12)) = decide (p0.Path.length ≤ 12) := by congr 1; apply propext; omega
  refine knw ?_
  simp only [e1, e2]
  unfold spendV noteOf
  have : [p0.Key].length ≤ 9223372036854775807 := by simp
  grind
noncomputable def kco : Con TB.den := kn.fnR (fun x => (fun (p0 : TSpent) => p0.Path.length ≤ 9223372036854775807) (TSpent.mk x.1 x.2.1 x.2.2.1 x.2.2.2.1 x.2.2.2.2.1 x.2.2.2.2.2.1 x.2.2.2.2.2.2.1 x.2.2.2.2.2.2.2.1 x.2.2.2.2.2.2.2.2.1)) fun x => ((fun (p0 : TSpent) => ((spendV p0) : Bool)) (TSpent.mk x.1 x.2.1 x.2.2.1 x.2.2.2.1 x.2.2.2.2.1 x.2.2.2.2.2.1 x.2.2.2.2.2.2.1 x.2.2.2.2.2.2.2.1 x.2.2.2.2.2.2.2.2.1), ())
theorem knr : kco.Ok Try.prog TB := Con.ok_fn kn bd69 fun x h => klz (kkm (TSpent.mk x.1 x.2.1 x.2.2.1 x.2.2.2.1 x.2.2.2.2.1 x.2.2.2.2.2.1 x.2.2.2.2.2.2.1 x.2.2.2.2.2.2.2.1 x.2.2.2.2.2.2.2.2.1) h)
end Go.Proofs.Ytpffhgljgpjenaa
namespace Go.Proofs.Ytpffhgljgpjenaa
open Go Go.Bv Go.Cv Go.Md Go.RowKit
def ku : Con TB.den := Con.mk0 31 [.agg [.d (.int .i64), .d (.int .u64), .d (.sl (.int .u64)), .d (.sl (.int .u64)), .d (.sl (.int .u64)), .d (.int .u64), .d (.int .u64), .d (.int .u64), .d (.int .u64), .d (.int .u64)], .agg [.d (.sl (.st 0)), .d (.sl (.st 1)), .d (.int .u64)]] [] (.one (.one (.d (.bool)))) []
abbrev kk9 := HL TB.den (hsT ku.ins (hsOs ku.pre))
abbrev k3c := HL TB.den (hsV ku.res (hsOs ku.post))
noncomputable def k3g : Cx TB := ⟨inf, [k8d, kco, khb], [], 4⟩
noncomputable def k5n : Code := Try.f31.body.getD .skip
noncomputable def k6p : List ResultVar := Try.f31.results.toList
noncomputable def kug (o : k3c) : Exit → TSt TB.den → Prop := thenT TB (fun s => ghs TB [] s fun s => WP TB k3g 122 0 (cB (cB (cB (cB (cB (cB (cB k5n))))))) .no s (retTQ TB k3g ku k6p o)) (retTQ TB k3g ku k6p o)
def k4l : Tm := ⟨[0, 1], [.cells [.d (.int .i64), .d (.int .u64), .d (.sl (.int .u64)), .d (.sl (.int .u64)), .d (.sl (.int .u64)), .d (.int .u64), .d (.int .u64), .d (.int .u64), .d (.int .u64), .d (.int .u64)], .cells [.d (.sl (.st 0)), .d (.sl (.st 1)), .d (.int .u64)]], [2, 3, 93, 94, 95], [.one (.ptr 0 0), .one (.ptr 1 0), .one (.d (.sl (.st 0))), .one (.d (.int .i64)), .one (.d (.int .i64))], 3⟩
noncomputable def kuh (o : k3c) (nx1 : HL TB.den k4l.hs → Prop) : Exit → TSt TB.den → Prop := thenT TB (fun s => k4l.mat TB 0 s nx1) (blockT TB 0 (kug o))
noncomputable def k6q (o : k3c) (nx1 : HL TB.den k4l.hs → Prop) (i : HL TB.den k4l.hs) : Prop := WP TB k3g 122 0 (cA (cA (cB (cA (cB (cB (cB (cB (cB (cB k5n)))))))))) .no (k4l.fill TB i) (kuh o nx1)
noncomputable def ktv (o : k3c) : An TB := .lp [] k4l (k6q o) fun nx1 => .no
noncomputable def kuq (o : k3c) : An TB := .nd [] .no [] (.nd [] (.nd [] .no [] (ktv o)) [] .no)
noncomputable def kti (o : k3c) : An TB := .nd [] .no [] (.nd [] .no [] (.nd [] .no [] (kuq o)))
noncomputable def kie (o : k3c) : An TB := .nd [] .no [] (.nd [] .no [] (kti o))
noncomputable def ka6 (x : kk9) (o : k3c) : Prop := WPh TB k3g 122 0 k5n (kie o) (ku.st TB x) (retTQ TB k3g ku k6p o)
set_option maxRecDepth 100000 in
theorem krl (o : k3c) : OblH TB k3g 122 0 k5n (kie o) (retTQ TB k3g ku k6p o) :=
  OblH.of_eq (X := (True ∧ ((True ∧ ((True ∧ True) ∧ True)) ∧ ((True ∧ ((True ∧ True) ∧ True)) ∧ ((True ∧ ((True ∧ True) ∧ True)) ∧ ((True ∧ ((True ∧ True) ∧ True)) ∧ ((True ∧ ((True ∧ True) ∧ True)) ∧ ((True ∧ ((∀ nx i, (k6q o) nx i = (k6q o) nx i) ∧ ∀ nx1 : HL TB.den k4l.hs → Prop, (True ∧ ((True ∧ True) ∧ ((True ∧ (True ∧ ((True ∧ True) ∧ True))) ∧ True))))) ∧ (True ∧ True))))))))) (by kernel_rfl) ⟨trivial, ⟨⟨trivial, ⟨⟨trivial, trivial⟩, trivial⟩⟩, ⟨⟨trivial, ⟨⟨trivial, trivial⟩, trivial⟩⟩, ⟨⟨trivial, ⟨⟨trivial, trivial⟩, trivial⟩⟩, ⟨⟨trivial, ⟨⟨trivial, trivial⟩, trivial⟩⟩, ⟨⟨trivial, ⟨⟨trivial, trivial⟩, trivial⟩⟩, ⟨⟨trivial, ⟨fun _ _ => rfl, fun _ => ⟨trivial, ⟨⟨trivial, trivial⟩, ⟨⟨trivial, ⟨trivial, ⟨⟨trivial, trivial⟩, trivial⟩⟩⟩, trivial⟩⟩⟩⟩⟩, ⟨trivial, trivial⟩⟩⟩⟩⟩⟩⟩⟩
set_option maxRecDepth 100000 in
theorem ksl {x : kk9} {o : k3c} (h : ka6 x o) : SoundH Try.prog ku.f ((ku.args idf x).map (er TB)) ((ku.obs idf x).map (erO TB)) (er TB (ku.val idf o)) ((ku.ops idf o).map (erO TB)) :=
  Con.soundH (c := ku) (C := k3g) TBok ⟨inf_ok, (all_cons kej (all_cons knr (all_cons kus all_nil))), all_nil⟩ mix Try.func31 (show Try.f31.body = some k5n by kernel_rfl) (show Try.f31.ntmps = 122 by kernel_rfl) (show Try.f31.results.toList = k6p by kernel_rfl) rfl h (krl o)
set_option maxRecDepth 100000 in
theorem ku6 {p0 : TStatement} {p1 : TWitness} {r0 : Bool} (h :
((decide (p0.Depth < 1) = true →
 false = r0) ∧
(decide (p0.Depth < 1) = false →
(decide (12 < p0.Depth) = true →
 false = r0) ∧
(decide (12 < p0.Depth) = false →
([p0.Anchor, p0.Account, p0.Bind, p1.Secret].length ≤ 9223372036854775807) ∧ let r1 : Bool := (allB [p0.Anchor, p0.Account, p0.Bind, p1.Secret])
((!r1) = true →
 false = r0) ∧
((!r1) = false →
(decide (4294967295 < p0.Deposit) = true →
 false = r0) ∧
(decide (4294967295 < p0.Deposit) = false →
(decide (4294967295 < p0.Withdraw) = true →
 false = r0) ∧
(decide (4294967295 < p0.Withdraw) = false →
(decide (4294967295 < p0.Fee) = true →
 false = r0) ∧
(decide (4294967295 < p0.Fee) = false →
(p0.Marks.length ≤ 9223372036854775807) ∧ ((!(allB p0.Marks)) = true →
 false = r0) ∧
((!(allB p0.Marks)) = false →
(p0.Commits.length ≤ 9223372036854775807) ∧ ((!(allB p0.Commits)) = true →
 false = r0) ∧
((!(allB p0.Commits)) = false →
(p0.Rhos.length ≤ 9223372036854775807) ∧ ((!(allB p0.Rhos)) = true →
 false = r0) ∧
((!(allB p0.Rhos)) = false →
 let v2 : Bool := ((p1.Ins.length : Int) != (p0.Marks.length : Int))
(v2 = true →
 false = r0) ∧
(v2 = false →
(decide (4 < (p1.Ins.length : Int)) = true →
 false = r0) ∧
(decide (4 < (p1.Ins.length : Int)) = false →
 let v3 : Bool := ((p1.Outs.length : Int) != (p0.Commits.length : Int))
(v3 = true →
 false = r0) ∧
(v3 = false →
 let v4 : Bool := ((p1.Outs.length : Int) != (p0.Rhos.length : Int))
(v4 = true →
 false = r0) ∧
(v4 = false →
(decide (4 < (p1.Outs.length : Int)) = true →
 false = r0) ∧
(decide (4 < (p1.Outs.length : Int)) = false →
 Md.Loop (p1.Ins, ((p1.Ins.length : Int) : Int), (0 : Int), p0.Depth, p0.Anchor, p0.Marks, p0.Commits, p0.Rhos, p0.Deposit, p0.Withdraw, p0.Fee, p0.Account, p0.Bind, p1.Ins, p1.Outs, p1.Secret, ()) (k6q (r0, ())))))))))))))))))) : ka6 (p0.Depth, p0.Anchor, p0.Marks, p0.Commits, p0.Rhos, p0.Deposit, p0.Withdraw, p0.Fee, p0.Account, p0.Bind, p1.Ins, p1.Outs, p1.Secret, ()) (r0, ()) := WPh.of_eq (by kernel_rfl) h
def kij (r0 : Bool) (k1 : Int → Prop) (s93 : List TSpent) (s94 : Int) (h0_0 : Int) (h0_1 : Int) (h0_2 : List Int) (h0_3 : List Int) (h0_4 : List Int) (h0_5 : Int) (h0_6 : Int) (h0_7 : Int) (h0_8 : Int) (h0_9 : Int) (h1_0 : List TSpent) (h1_1 : List TNote) (h1_2 : Int) (s95 : Int) : Prop :=
(decide (s95 < s94) = true →
(0 ≤ s95) ∧ s95 < (s93.length : Int) ∧ ((ix s93 s95).Path.length ≤ 9223372036854775807) ∧ ((!(spendV (ix s93 s95))) = true →
 false = r0) ∧
((!(spendV (ix s93 s95))) = false →
 let v5 : Bool := ((((ix s93 s95).Path).length : Int) != h0_0)
(v5 = true →
 false = r0) ∧
(v5 = false →
(0 ≤ h0_0) ∧ let v6 : Bool := decide ((ishl .i64 1 h0_0) ≤ ((ix s93 s95).Position))
(v6 = true →
 false = r0) ∧
(v6 = false →
 k1 (IntKind.i64.wrap (s95 + 1) : Int))))) ∧
(decide (s95 < s94) = false →
(h1_1.length ≤ 9223372036854775807) ∧ (h1_1.all noteV) = r0)
set_option maxRecDepth 100000 in
theorem kri {r0 : Bool} {s93 : List TSpent} {s94 : Int} {h0_0 : Int} {h0_1 : Int} {h0_2 : List Int} {h0_3 : List Int} {h0_4 : List Int} {h0_5 : Int} {h0_6 : Int} {h0_7 : Int} {h0_8 : Int} {h0_9 : Int} {h1_0 : List TSpent} {h1_1 : List TNote} {h1_2 : Int} {s95 : Int} (inv : Int → Prop) (μ : Int → Nat) (h0 : inv s95) (hs : ∀ (s95 : Int), inv s95 → kij r0 (fun s95q => inv s95q ∧ μ s95q < μ s95) s93 s94 h0_0 h0_1 h0_2 h0_3 h0_4 h0_5 h0_6 h0_7 h0_8 h0_9 h1_0 h1_1 h1_2 s95) : Md.Loop (s93, s94, s95, h0_0, h0_1, h0_2, h0_3, h0_4, h0_5, h0_6, h0_7, h0_8, h0_9, h1_0, h1_1, h1_2, ()) (k6q (r0, ())) :=
  ⟨⟨fun s : (List TSpent) × Int × Int × Int × Int × (List Int) × (List Int) × (List Int) × Int × Int × Int × Int × Int × (List TSpent) × (List TNote) × Int × Unit => (s.1 = s93 ∧ s.2.1 = s94 ∧ s.2.2.2.1 = h0_0 ∧ s.2.2.2.2.1 = h0_1 ∧ s.2.2.2.2.2.1 = h0_2 ∧ s.2.2.2.2.2.2.1 = h0_3 ∧ s.2.2.2.2.2.2.2.1 = h0_4 ∧ s.2.2.2.2.2.2.2.2.1 = h0_5 ∧ s.2.2.2.2.2.2.2.2.2.1 = h0_6 ∧ s.2.2.2.2.2.2.2.2.2.2.1 = h0_7 ∧ s.2.2.2.2.2.2.2.2.2.2.2.1 = h0_8 ∧ s.2.2.2.2.2.2.2.2.2.2.2.2.1 = h0_9 ∧ s.2.2.2.2.2.2.2.2.2.2.2.2.2.1 = h1_0 ∧ s.2.2.2.2.2.2.2.2.2.2.2.2.2.2.1 = h1_1 ∧ s.2.2.2.2.2.2.2.2.2.2.2.2.2.2.2.1 = h1_2) ∧ inv s.2.2.1, fun s : (List TSpent) × Int × Int × Int × Int × (List Int) × (List Int) × (List Int) × Int × Int × Int × Int × Int × (List TSpent) × (List TNote) × Int × Unit => μ s.2.2.1, ⟨⟨rfl, rfl, rfl, rfl, rfl, rfl, rfl, rfl, rfl, rfl, rfl, rfl, rfl, rfl, rfl⟩, h0⟩, fun (s93p, s94p, s95p, h0_0p, h0_1p, h0_2p, h0_3p, h0_4p, h0_5p, h0_6p, h0_7p, h0_8p, h0_9p, h1_0p, h1_1p, h1_2p, ()) ⟨⟨eq0, eq1, eq2, eq3, eq4, eq5, eq6, eq7, eq8, eq9, eq10, eq11, eq12, eq13, eq14⟩, hi⟩ => by
    have eq0 : s93p = s93 := eq0; subst s93p; have eq1 : s94p = s94 := eq1; subst s94p; have eq2 : h0_0p = h0_0 := eq2; subst h0_0p; have eq3 : h0_1p = h0_1 := eq3; subst h0_1p; have eq4 : h0_2p = h0_2 := eq4; subst h0_2p; have eq5 : h0_3p = h0_3 := eq5; subst h0_3p; have eq6 : h0_4p = h0_4 := eq6; subst h0_4p; have eq7 : h0_5p = h0_5 := eq7; subst h0_5p; have eq8 : h0_6p = h0_6 := eq8; subst h0_6p; have eq9 : h0_7p = h0_7 := eq9; subst h0_7p; have eq10 : h0_8p = h0_8 := eq10; subst h0_8p; have eq11 : h0_9p = h0_9 := eq11; subst h0_9p; have eq12 : h1_0p = h1_0 := eq12; subst h1_0p; have eq13 : h1_1p = h1_1 := eq13; subst h1_1p; have eq14 : h1_2p = h1_2 := eq14; subst h1_2p; exact mpr_of (by kernel_rfl) ((congrArg (fun k => kij r0 k s93 s94 h0_0 h0_1 h0_2 h0_3 h0_4 h0_5 h0_6 h0_7 h0_8 h0_9 h1_0 h1_1 h1_2 s95p) (lpk1 (⟨rfl, rfl, rfl, rfl, rfl, rfl, rfl, rfl, rfl, rfl, rfl, rfl, rfl, rfl, rfl⟩ : s93 = s93 ∧ s94 = s94 ∧ h0_0 = h0_0 ∧ h0_1 = h0_1 ∧ h0_2 = h0_2 ∧ h0_3 = h0_3 ∧ h0_4 = h0_4 ∧ h0_5 = h0_5 ∧ h0_6 = h0_6 ∧ h0_7 = h0_7 ∧ h0_8 = h0_8 ∧ h0_9 = h0_9 ∧ h1_0 = h1_0 ∧ h1_1 = h1_1 ∧ h1_2 = h1_2) inv (fun s95q => μ s95q < μ s95p))).mpr (hs s95p hi))⟩⟩
theorem bd31 : Callable Try.prog 31 := ⟨by rw [Try.func31]; kernel_rfl, by rw [Try.func31]; show some _ ≠ some _; decide⟩
theorem kr9 (p0 : TStatement) (p1 : TWitness) (h : SR p0 ∧ WR p1) : ka6 (p0.Depth, p0.Anchor, p0.Marks, p0.Commits, p0.Rhos, p0.Deposit, p0.Withdraw, p0.Fee, p0.Account, p0.Bind, p1.Ins, p1.Outs, p1.Secret, ()) (((relV p0 p1) : Bool), ()) := by
  obtain ⟨hs, hw⟩ := h
  have l1 := hs.ml
  have l2 := hs.cl
  have l3 := hs.rl
  have l4 := hw.il
  have l5 := hw.ol
  have bad : ∀ b : Bool, (relV p0 p1 = true → b = true) → b = false → false = relV p0 p1 := by
    intro b h hb
    cases hr : relV p0 p1 with
    | false => rfl
    | true => have := h hr; rw [this] at hb; cases hb
  have hf : relV p0 p1 = true ↔ (1 ≤ p0.Depth ∧ p0.Depth ≤ 12 ∧ allB [p0.Anchor, p0.Account, p0.Bind, p1.Secret] = true ∧ p0.Deposit ≤ 4294967295 ∧ p0.Withdraw ≤ 4294967295 ∧ p0.Fee ≤ 4294967295 ∧ allB p0.Marks = true ∧ allB p0.Commits = true ∧ allB p0.Rhos = true ∧ p1.Ins.length = p0.Marks.length ∧ p1.Ins.length ≤ 4 ∧ p1.Outs.length = p0.Commits.length ∧ p1.Outs.length = p0.Rhos.length ∧ p1.Outs.length ≤ 4 ∧ p1.Ins.all (inV p0.Depth) = true ∧ p1.Outs.all noteV = true) := by
    unfold relV
    simp only [Bool.and_eq_true, decide_eq_true_eq, and_assoc]
  have no : ¬ (1 ≤ p0.Depth ∧ p0.Depth ≤ 12 ∧ allB [p0.Anchor, p0.Account, p0.Bind, p1.Secret] = true ∧ p0.Deposit ≤ 4294967295 ∧ p0.Withdraw ≤ 4294967295 ∧ p0.Fee ≤ 4294967295 ∧ allB p0.Marks = true ∧ allB p0.Commits = true ∧ allB p0.Rhos = true ∧ p1.Ins.length = p0.Marks.length ∧ p1.Ins.length ≤ 4 ∧ p1.Outs.length = p0.Commits.length ∧ p1.Outs.length = p0.Rhos.length ∧ p1.Outs.length ≤ 4 ∧ p1.Ins.all (inV p0.Depth) = true ∧ p1.Outs.all noteV = true) → false = relV p0 p1 := by
    intro h
    cases hr : relV p0 p1 with
    | false => rfl
    | true => exact (h (hf.1 hr)).elim
  clear bad
  refine ku6 ⟨fun h => no fun a => ?_, fun h1 => ⟨fun h => no fun a => ?_, fun h2 => ⟨by simp, fun h => no fun a => ?_, fun h3 => ⟨fun h => no fun a => ?_, fun h4 => ⟨fun h => no fun a => ?_, fun h5 => ⟨fun h => no fun a => ?_, fun h6 => ⟨by omega, fun h => no fun a => ?_, fun h7 => ⟨by omega, fun h => no fun a => ?_, fun h8 => ⟨by omega, fun h => no fun a => ?_, fun h9 => ⟨fun h => no fun a => ?_, fun h10 => ⟨fun h => no fun a => ?_, fun h11 => ⟨fun h => no fun a => ?_, fun h12 => ⟨fun h => no fun a => ?_, fun h13 => ⟨fun h => no fun a => ?_, fun h14 => ?_⟩⟩⟩⟩⟩⟩⟩⟩⟩⟩⟩⟩⟩⟩
  · have h := of_decide_eq_true h; omega
  · have h := of_decide_eq_true h; omega
  · rw [a.2.2.1] at h; cases h
  · have h := of_decide_eq_true h; omega
  · have h := of_decide_eq_true h; omega
  · have h := of_decide_eq_true h; omega
  · rw [a.2.2.2.2.2.2.1] at h; cases h
  · rw [a.2.2.2.2.2.2.2.1] at h; cases h
  · rw [a.2.2.2.2.2.2.2.2.1] at h; cases h
  · have h : ¬ (p1.Ins.length : Int) = p0.Marks.length := by simpa using h
    omega
  · have h := of_decide_eq_true h; omega
  · have h : ¬ (p1.Outs.length : Int) = p0.Commits.length := by simpa using h
    omega
  · have h : ¬ (p1.Outs.length : Int) = p0.Rhos.length := by simpa using h
    omega
  · have h := of_decide_eq_true h; omega
  have h1 := of_decide_eq_false h1
  have h2 := of_decide_eq_false h2
  have h3 : allB [p0.Anchor, p0.Account, p0.Bind, p1.Secret] = true := by simpa using h3
  have h4 := of_decide_eq_false h4
  have h5 := of_decide_eq_false h5
  have h6 := of_decide_eq_false h6
  have h7 : allB p0.Marks = true := by simpa using h7
  have h8 : allB p0.Commits = true := by simpa using h8
  have h9 : allB p0.Rhos = true := by simpa using h9
  have h10 : (p1.Ins.length : Int) = p0.Marks.length := by simpa using h10
  have h11 := of_decide_eq_false h11
  have h12 : (p1.Outs.length : Int) = p0.Commits.length := by simpa using h12
  have h13 : (p1.Outs.length : Int) = p0.Rhos.length := by simpa using h13
  have h14 := of_decide_eq_false h14
  have hd : ishl .i64 1 p0.Depth = 2 ^ p0.Depth.toNat := by
    have h0 : 0 ≤ p0.Depth ∧ p0.Depth ≤ 12 := by omega
    obtain ⟨d, hd⟩ := Int.eq_ofNat_of_zero_le h0.1
    rw [hd] at h0 ⊢
    have h0 : d ≤ 12 := by omega
    have key : ∀ d : Nat, d ≤ 12 → ishl .i64 1 (d : Int) = 2 ^ d := by decide +kernel
    exact key d h0
  refine kri (AllI (inV p0.Depth) p1.Ins) (fun i => (p1.Ins.length - i).toNat) AllI.start ?_
  intro i hi
  refine ⟨fun hh => ?_, fun hh => ?_⟩
  · have hh := of_decide_eq_true hh
    have hx := hw.i _ (ix_mem p1.Ins i hi.1 hh)
    have nb : inV p0.Depth (ix p1.Ins i) = false → false = relV p0 p1 := fun hb => no fun a => by
      rw [hi.bad hh hb] at a; exact absurd a.2.2.2.2.2.2.2.2.2.2.2.2.2.2.1 (by simp)
    refine ⟨hi.1, hh, by have := hx.pl; show (ix p1.Ins i).Path.length ≤ _; omega, fun e => nb ?_, fun e => ⟨fun e2 => nb ?_, fun e2 => ⟨by omega, fun e3 => nb ?_, fun e3 => hi.next hh (by omega) ?_⟩⟩⟩
    · have e : spendV (ix p1.Ins i) = false := by simpa using e
      simp [inV, e]
    · have e2 : ¬ ((ix p1.Ins i).Path.length : Int) = p0.Depth := by simpa using e2
      simp [inV, e2]
    · have e3 := of_decide_eq_true e3
      rw [hd] at e3
      simp only [inV, Bool.and_eq_false_iff, decide_eq_false_iff_not]
      right; omega
    · have e : spendV (ix p1.Ins i) = true := by simpa using e
      have e2 : ((ix p1.Ins i).Path.length : Int) = p0.Depth := by simpa using e2
      have e3 := of_decide_eq_false e3
      rw [hd] at e3
      simp only [inV, e, Bool.true_and, Bool.and_eq_true, decide_eq_true_eq]
      exact ⟨e2, by omega⟩
  · have ha := hi.done (of_decide_eq_false hh)
    refine ⟨by omega, ?_⟩
    cases hn : p1.Outs.all noteV with
    | false => exact no fun a => by rw [hn] at a; exact absurd a.2.2.2.2.2.2.2.2.2.2.2.2.2.2.2 (by simp)
    | true => exact (hf.2 ⟨by omega, by omega, h3, by omega, by omega, by omega, h7, h8, h9, by omega, by omega, by omega, by omega, by omega, ha, hn⟩).symm
noncomputable def kb5 : Con TB.den := ku.fnR (fun x => (fun (p0 : TStatement) (p1 : TWitness) => SR p0 ∧ WR p1) (TStatement.mk x.1 x.2.1 x.2.2.1 x.2.2.2.1 x.2.2.2.2.1 x.2.2.2.2.2.1 x.2.2.2.2.2.2.1 x.2.2.2.2.2.2.2.1 x.2.2.2.2.2.2.2.2.1 x.2.2.2.2.2.2.2.2.2.1) (TWitness.mk x.2.2.2.2.2.2.2.2.2.2.1 x.2.2.2.2.2.2.2.2.2.2.2.1 x.2.2.2.2.2.2.2.2.2.2.2.2.1)) fun x => ((fun (p0 : TStatement) (p1 : TWitness) => ((relV p0 p1) : Bool)) (TStatement.mk x.1 x.2.1 x.2.2.1 x.2.2.2.1 x.2.2.2.2.1 x.2.2.2.2.2.1 x.2.2.2.2.2.2.1 x.2.2.2.2.2.2.2.1 x.2.2.2.2.2.2.2.2.1 x.2.2.2.2.2.2.2.2.2.1) (TWitness.mk x.2.2.2.2.2.2.2.2.2.2.1 x.2.2.2.2.2.2.2.2.2.2.2.1 x.2.2.2.2.2.2.2.2.2.2.2.2.1), ())
theorem ki1 : kb5.Ok Try.prog TB := Con.ok_fn ku bd31 fun x h => ksl (kr9 (TStatement.mk x.1 x.2.1 x.2.2.1 x.2.2.2.1 x.2.2.2.2.1 x.2.2.2.2.2.1 x.2.2.2.2.2.2.1 x.2.2.2.2.2.2.2.1 x.2.2.2.2.2.2.2.2.1 x.2.2.2.2.2.2.2.2.2.1) (TWitness.mk x.2.2.2.2.2.2.2.2.2.2.1 x.2.2.2.2.2.2.2.2.2.2.2.1 x.2.2.2.2.2.2.2.2.2.2.2.2.1) h)
end Go.Proofs.Ytpffhgljgpjenaa
namespace Go.Proofs.Ytpffhgljgpjenaa
open Go Go.Bv Go.Cv Go.Md Go.RowKit
def k1e : Con TB.den := Con.mk0 101 [.one (.d (.int .u64)), .one (.d (.int .u64))] [] (.one (.one (.d (.int .u64)))) []
abbrev kli := HL TB.den (hsT k1e.ins (hsOs k1e.pre))
abbrev kaf := HL TB.den (hsV k1e.res (hsOs k1e.post))
noncomputable def k7j : Cx TB := ⟨inf, [kaj], [], 4⟩
noncomputable def kb3 : Code := Try.f101.body.getD .skip
noncomputable def kd6 : List ResultVar := Try.f101.results.toList
noncomputable def kiy (o : kaf) : An TB := .no
noncomputable def kao (x : kli) (o : kaf) : Prop := WPh TB k7j 9 0 kb3 (kiy o) (k1e.st TB x) (retTQ TB k7j k1e kd6 o)
set_option maxRecDepth 100000 in
theorem kue (o : kaf) : OblH TB k7j 9 0 kb3 (kiy o) (retTQ TB k7j k1e kd6 o) :=
  OblH.of_eq (X := (True ∧ (True ∧ True))) (by kernel_rfl) ⟨trivial, ⟨trivial, trivial⟩⟩
set_option maxRecDepth 100000 in
theorem ku9 {x : kli} {o : kaf} (h : kao x o) : SoundH Try.prog k1e.f ((k1e.args idf x).map (er TB)) ((k1e.obs idf x).map (erO TB)) (er TB (k1e.val idf o)) ((k1e.ops idf o).map (erO TB)) :=
  Con.soundH (c := k1e) (C := k7j) TBok ⟨inf_ok, (all_cons kga all_nil), all_nil⟩ mix Try.func101 (show Try.f101.body = some kb3 by kernel_rfl) (show Try.f101.ntmps = 9 by kernel_rfl) (show Try.f101.results.toList = kd6 by kernel_rfl) rfl h (kue o)
set_option maxRecDepth 100000 in
theorem kvl {p0 : Int} {p1 : Int} {r0 : Int} (h :
(((18446744069414584321 : Int) = 18446744069414584321 ∧ U64 (6 : Int) ∧ Us [p0, p1] ∧ [p0, p1].length ≤ 1099511627776) ∧ (hashS (6 : Int) [p0, p1]) = r0)) : kao (p0, p1, ()) (r0, ()) := WPh.of_eq (by kernel_rfl) h
theorem bd101 : Callable Try.prog 101 := ⟨by rw [Try.func101]; kernel_rfl, by rw [Try.func101]; show some _ ≠ some _; decide⟩
theorem ksn (p0 : Int) (p1 : Int) (h : U64 p0 ∧ U64 p1) : kao (p0, p1, ()) (((hashS 6 [p0, p1]) : Int), ()) := by
  refine kvl ⟨⟨rfl, by decide, ?_, by simp⟩, rfl⟩
  intro x hx
  simp only [List.mem_cons, List.not_mem_nil, or_false] at hx
  rcases hx with rfl | rfl
  · exact h.1
  · exact h.2
noncomputable def ki0 : Con TB.den := k1e.fnR (fun x => (fun (p0 : Int) (p1 : Int) => U64 p0 ∧ U64 p1) x.1 x.2.1) fun x => ((fun (p0 : Int) (p1 : Int) => ((hashS 6 [p0, p1]) : Int)) x.1 x.2.1, ())
theorem kvj : ki0.Ok Try.prog TB := Con.ok_fn k1e bd101 fun x h => ku9 (ksn x.1 x.2.1 h)
end Go.Proofs.Ytpffhgljgpjenaa
namespace Go.Proofs.Ytpffhgljgpjenaa
open Go Go.Bv Go.Cv Go.Md Go.RowKit
def kl : Con TB.den := Con.mk0 73 [.one (.d (.int .u64)), .one (.d (.int .i64)), .one (.d (.sl (.int .u64)))] [] (.one (.one (.d (.int .u64)))) []
abbrev kjh := HL TB.den (hsT kl.ins (hsOs kl.pre))
abbrev k1o := HL TB.den (hsV kl.res (hsOs kl.post))
noncomputable def k1r : Cx TB := ⟨inf, [ki0], [], 4⟩
noncomputable def k3z : Code := Try.f73.body.getD .skip
noncomputable def k4h : List ResultVar := Try.f73.results.toList
noncomputable def kts (o : k1o) : Exit → TSt TB.den → Prop := thenT TB (fun s => ghs TB [] s fun s => WP TB k1r 60 0 (cB (cB (cB (cB (cB k3z))))) .no s (retTQ TB k1r kl k4h o)) (retTQ TB k1r kl k4h o)
def k4e : Tm := ⟨[], [], [1, 9, 40, 41, 42], [.one (.d (.int .i64)), .one (.d (.int .u64)), .one (.d (.sl (.int .u64))), .one (.d (.int .i64)), .one (.d (.int .i64))], 0⟩
noncomputable def kum (o : k1o) (nx2 : HL TB.den k4e.hs → Prop) : Exit → TSt TB.den → Prop := thenT TB (fun s => k4e.mat TB 0 s nx2) (blockT TB 2 (kts o))
noncomputable def k6k (o : k1o) (nx2 : HL TB.den k4e.hs → Prop) (i : HL TB.den k4e.hs) : Prop := WP TB k1r 60 0 (cA (cA (cB (cA (cB (cB (cB (cB k3z)))))))) .no (k4e.fill TB i) (kum o nx2)
noncomputable def ktn (o : k1o) : An TB := .lp [] k4e (k6k o) fun nx2 => .no
noncomputable def ki2 (o : k1o) : An TB := .nd [] .no [] (.nd [] (.nd [] .no [] (ktn o)) [] .no)
noncomputable def ktq (o : k1o) : Exit → TSt TB.den → Prop := thenT TB (fun s => ghs TB [] s fun s => WP TB k1r 60 0 (cB (cB (cB k3z))) (ki2 o) s (retTQ TB k1r kl k4h o)) (retTQ TB k1r kl k4h o)
def k4k : Tm := ⟨[], [], [0, 1, 2, 30, 31, 32], [.one (.d (.int .u64)), .one (.d (.int .i64)), .one (.d (.sl (.int .u64))), .one (.d (.sl (.int .u64))), .one (.d (.int .i64)), .one (.d (.int .i64))], 0⟩
noncomputable def ku1 (o : k1o) (nx1 : HL TB.den k4k.hs → Prop) : Exit → TSt TB.den → Prop := thenT TB (fun s => k4k.mat TB 0 s nx1) (blockT TB 0 (ktq o))
noncomputable def k6t (o : k1o) (nx1 : HL TB.den k4k.hs → Prop) (i : HL TB.den k4k.hs) : Prop := WP TB k1r 60 0 (cA (cA (cB (cA (cB (cB k3z)))))) .no (k4k.fill TB i) (ku1 o nx1)
noncomputable def kro (o : k1o) : An TB := .lp [] k4k (k6t o) fun nx1 => .no
noncomputable def krb (o : k1o) : An TB := .nd [] (.nd [] .no [] (kro o)) [] (ki2 o)
noncomputable def kia (o : k1o) : An TB := .nd [] .no [] (.nd [] .no [] (krb o))
noncomputable def ka5 (x : kjh) (o : k1o) : Prop := WPh TB k1r 60 0 k3z (kia o) (kl.st TB x) (retTQ TB k1r kl k4h o)
set_option maxRecDepth 100000 in
theorem krz (o : k1o) : OblH TB k1r 60 0 k3z (kia o) (retTQ TB k1r kl k4h o) :=
  OblH.of_eq (X := (True ∧ ((True ∧ ((True ∧ True) ∧ True)) ∧ ((True ∧ ((∀ nx i, (k6t o) nx i = (k6t o) nx i) ∧ ∀ nx1 : HL TB.den k4k.hs → Prop, (True ∧ ((True ∧ True) ∧ ((True ∧ (True ∧ ((True ∧ True) ∧ True))) ∧ True))))) ∧ (True ∧ ((True ∧ ((∀ nx i, (k6k o) nx i = (k6k o) nx i) ∧ ∀ nx2 : HL TB.den k4e.hs → Prop, (True ∧ ((True ∧ True) ∧ ((True ∧ (True ∧ (True ∧ True))) ∧ True))))) ∧ (True ∧ True))))))) (by kernel_rfl) ⟨trivial, ⟨⟨trivial, ⟨⟨trivial, trivial⟩, trivial⟩⟩, ⟨⟨trivial, ⟨fun _ _ => rfl, fun _ => ⟨trivial, ⟨⟨trivial, trivial⟩, ⟨⟨trivial, ⟨trivial, ⟨⟨trivial, trivial⟩, trivial⟩⟩⟩, trivial⟩⟩⟩⟩⟩, ⟨trivial, ⟨⟨trivial, ⟨fun _ _ => rfl, fun _ => ⟨trivial, ⟨⟨trivial, trivial⟩, ⟨⟨trivial, ⟨trivial, ⟨trivial, trivial⟩⟩⟩, trivial⟩⟩⟩⟩⟩, ⟨trivial, trivial⟩⟩⟩⟩⟩⟩
set_option maxRecDepth 100000 in
theorem kt5 {x : kjh} {o : k1o} (h : ka5 x o) : SoundH Try.prog kl.f ((kl.args idf x).map (er TB)) ((kl.obs idf x).map (erO TB)) (er TB (kl.val idf o)) ((kl.ops idf o).map (erO TB)) :=
  Con.soundH (c := kl) (C := k1r) TBok ⟨inf_ok, (all_cons kvj all_nil), all_nil⟩ mix Try.func73 (show Try.f73.body = some k3z by kernel_rfl) (show Try.f73.ntmps = 60 by kernel_rfl) (show Try.f73.results.toList = k4h by kernel_rfl) rfl h (krz o)
set_option maxRecDepth 100000 in
theorem ku3 {p0 : Int} {p1 : Int} {p2 : List Int} {r0 : Int} (h :
((decide (12 < (p2.length : Int)) = true →
 0 = r0) ∧
(decide (12 < (p2.length : Int)) = false →
(decide (p1 < 0) = true →
 0 = r0) ∧
(decide (p1 < 0) = false →
(0 ≤ (p2.length : Int)) ∧ let v1 : Bool := decide ((ishl .i64 1 (p2.length : Int)) ≤ p1)
(v1 = true →
 0 = r0) ∧
(v1 = false →
(decide (18446744069414584321 ≤ p0) = true →
 0 = r0) ∧
(decide (18446744069414584321 ≤ p0) = false →
 Md.Loop (p0, p1, p2, p2, ((p2.length : Int) : Int), (0 : Int), ()) (k6t (r0, ())))))))) : ka5 (p0, p1, p2, ()) (r0, ()) := WPh.of_eq (by kernel_rfl) h
def khx (r0 : Int) (k1 : Int → Prop) (s0 : Int) (s1 : Int) (s2 : List Int) (s30 : List Int) (s31 : Int) (s32 : Int) : Prop :=
(decide (s32 < s31) = true →
(0 ≤ s32) ∧ s32 < (s30.length : Int) ∧ let v2 : Bool := decide (18446744069414584321 ≤ (ix s30 s32))
(v2 = true →
 0 = r0) ∧
(v2 = false →
 k1 (IntKind.i64.wrap (s32 + 1) : Int))) ∧
(decide (s32 < s31) = false →
 Md.Loop (s1, s0, s2, ((s2.length : Int) : Int), (0 : Int), ()) (k6k (r0, ())))
set_option maxRecDepth 100000 in
theorem krh {r0 : Int} {s0 : Int} {s1 : Int} {s2 : List Int} {s30 : List Int} {s31 : Int} {s32 : Int} (inv : Int → Prop) (μ : Int → Nat) (h0 : inv s32) (hs : ∀ (s32 : Int), inv s32 → khx r0 (fun s32q => inv s32q ∧ μ s32q < μ s32) s0 s1 s2 s30 s31 s32) : Md.Loop (s0, s1, s2, s30, s31, s32, ()) (k6t (r0, ())) :=
  ⟨⟨fun s : Int × Int × (List Int) × (List Int) × Int × Int × Unit => (s.1 = s0 ∧ s.2.1 = s1 ∧ s.2.2.1 = s2 ∧ s.2.2.2.1 = s30 ∧ s.2.2.2.2.1 = s31) ∧ inv s.2.2.2.2.2.1, fun s : Int × Int × (List Int) × (List Int) × Int × Int × Unit => μ s.2.2.2.2.2.1, ⟨⟨rfl, rfl, rfl, rfl, rfl⟩, h0⟩, fun (s0p, s1p, s2p, s30p, s31p, s32p, ()) ⟨⟨eq0, eq1, eq2, eq3, eq4⟩, hi⟩ => by
    have eq0 : s0p = s0 := eq0; subst s0p; have eq1 : s1p = s1 := eq1; subst s1p; have eq2 : s2p = s2 := eq2; subst s2p; have eq3 : s30p = s30 := eq3; subst s30p; have eq4 : s31p = s31 := eq4; subst s31p; exact mpr_of (by kernel_rfl) ((congrArg (fun k => khx r0 k s0 s1 s2 s30 s31 s32p) (lpk1 (⟨rfl, rfl, rfl, rfl, rfl⟩ : s0 = s0 ∧ s1 = s1 ∧ s2 = s2 ∧ s30 = s30 ∧ s31 = s31) inv (fun s32q => μ s32q < μ s32p))).mpr (hs s32p hi))⟩⟩
def kig (r0 : Int) (k2 : Int → Int → Prop) (s1 : Int) (s40 : List Int) (s41 : Int) (s9 : Int) (s42 : Int) : Prop :=
(decide (s42 < s41) = true →
(0 ≤ s42) ∧ s42 < (s40.length : Int) ∧ (0 ≤ s42) ∧ (((iand .i64 (ishr .i64 s1 s42) 1) == 0) = true →
(U64 s9 ∧ U64 (ix s40 s42)) ∧ k2 ((hashS 6 [s9, (ix s40 s42)]) : Int) (IntKind.i64.wrap (s42 + 1) : Int)) ∧
(((iand .i64 (ishr .i64 s1 s42) 1) == 0) = false →
(U64 (ix s40 s42) ∧ U64 s9) ∧ k2 ((hashS 6 [(ix s40 s42), s9]) : Int) (IntKind.i64.wrap (s42 + 1) : Int))) ∧
(decide (s42 < s41) = false →
 s9 = r0)
set_option maxRecDepth 100000 in
theorem ksk {r0 : Int} {s1 : Int} {s40 : List Int} {s41 : Int} {s9 : Int} {s42 : Int} (inv : Int → Int → Prop) (μ : Int → Int → Nat) (h0 : inv s9 s42) (hs : ∀ (s9 : Int) (s42 : Int), inv s9 s42 → kig r0 (fun s9q s42q => inv s9q s42q ∧ μ s9q s42q < μ s9 s42) s1 s40 s41 s9 s42) : Md.Loop (s1, s9, s40, s41, s42, ()) (k6k (r0, ())) :=
  ⟨⟨fun s : Int × Int × (List Int) × Int × Int × Unit => (s.1 = s1 ∧ s.2.2.1 = s40 ∧ s.2.2.2.1 = s41) ∧ inv s.2.1 s.2.2.2.2.1, fun s : Int × Int × (List Int) × Int × Int × Unit => μ s.2.1 s.2.2.2.2.1, ⟨⟨rfl, rfl, rfl⟩, h0⟩, fun (s1p, s9p, s40p, s41p, s42p, ()) ⟨⟨eq0, eq1, eq2⟩, hi⟩ => by
    have eq0 : s1p = s1 := eq0; subst s1p; have eq1 : s40p = s40 := eq1; subst s40p; have eq2 : s41p = s41 := eq2; subst s41p; exact mpr_of (by kernel_rfl) ((congrArg (fun k => kig r0 k s1 s40 s41 s9p s42p) (lpk2 (⟨rfl, rfl, rfl⟩ : s1 = s1 ∧ s40 = s40 ∧ s41 = s41) inv (fun s9q s42q => μ s9q s42q < μ s9p s42p))).mpr (hs s9p s42p hi))⟩⟩
theorem bd73 : Callable Try.prog 73 := ⟨by rw [Try.func73]; kernel_rfl, by rw [Try.func73]; show some _ ≠ some _; decide⟩
theorem kqk (p0 : Int) (p1 : Int) (p2 : List Int) (h : U64 p0 ∧ Us p2 ∧ p2.length ≤ 1073741824 ∧ p1 ≤ 9223372036854775807) : ka5 (p0, p1, p2, ()) (((climbS p0 p1 p2) : Int), ()) := by
  obtain ⟨h0, h2, h3, h4⟩ := h
  have sh : ∀ d : Nat, d ≤ 12 → ishl .i64 1 (d : Int) = 2 ^ d := by decide +kernel
  refine ku3 ⟨fun e => ?_, fun e => ⟨fun e2 => ?_, fun e2 => ⟨by omega, fun e3 => ?_, fun e3 => ⟨fun e4 => ?_, fun e4 => ?_⟩⟩⟩⟩
  · have e := of_decide_eq_true e
    unfold climbS
    rw [if_neg (by omega)]
  · have e2 := of_decide_eq_true e2
    unfold climbS
    rw [if_neg (by omega)]
  · have e := of_decide_eq_false e
    have e3 := of_decide_eq_true e3
    rw [sh _ (by omega)] at e3
    unfold climbS
    rw [if_neg (fun a => by have := a.2.2.1; omega)]
  · have e4 := of_decide_eq_true e4
    unfold climbS
    rw [if_neg (by omega)]
  have e := of_decide_eq_false e
  have e2 := of_decide_eq_false e2
  have e3 := of_decide_eq_false e3
  have e4 := of_decide_eq_false e4
  rw [sh _ (by omega)] at e3
  refine krh (AllI (fun x => decide (x < 18446744069414584321)) p2) (fun i => (p2.length - i).toNat) AllI.start ?_
  intro i hi
  refine ⟨fun hh => ?_, fun hh => ?_⟩
  · have hh := of_decide_eq_true hh
    refine ⟨hi.1, hh, fun e5 => ?_, fun e5 => hi.next hh (by omega) (by simpa using e5)⟩
    have hb : allB p2 = false := hi.bad hh (by simpa using e5)
    unfold climbS
    rw [if_neg (fun a => by rw [hb] at a; exact absurd a.2.2.2.2 (by simp))]
  · have ha : allB p2 = true := hi.done (of_decide_eq_false hh)
    have hc : climbS p0 p1 p2 = climbL p0 p1 p2 := by
      unfold climbS
      rw [if_pos ⟨by omega, by omega, by omega, by omega, ha⟩]
    rw [hc]
    have hpos : p1 < 4096 := by
      have h1 : (2 : Int) ^ p2.length ≤ 2 ^ 12 := by exact_mod_cast Nat.pow_le_pow_right (by omega) (by omega)
      omega
    refine ksk (fun d i => 0 ≤ i ∧ i ≤ p2.length ∧ U64 d ∧ climbL d (p1 / 2 ^ i.toNat) (p2.drop i.toNat) = climbL p0 p1 p2) (fun d i => (p2.length - i).toNat) ⟨by omega, by omega, h0, by simp⟩ ?_
    rintro d i ⟨g0, g1, g2, g3⟩
    refine ⟨fun hh => ?_, fun hh => ?_⟩
    · have hh := of_decide_eq_true hh
      have hx := h2 _ (ix_mem p2 i g0 hh)
      rw [drop_ix p2 i g0 hh] at g3
      have nx := inc i p2.length g0 hh (by omega)
      have hq : p1 / 2 ^ i.toNat / 2 = p1 / 2 ^ (i + 1).toNat := by
        rw [show (i + 1).toNat = i.toNat + 1 by omega, Int.pow_succ, Int.ediv_ediv_of_nonneg (Int.le_of_lt (Int.pow_pos (by omega)))]
      have hbit : iand .i64 (ishr .i64 p1 i) 1 = p1 / 2 ^ i.toNat % 2 := by
        have hs : ishr .i64 p1 i = p1 / 2 ^ i.toNat := by
          rw [kdo, show min i.toNat IntKind.i64.bits = i.toNat from Nat.min_eq_left (by show i.toNat ≤ 64; omega)]
          simp
        rw [hs]
        have hb0 : 0 ≤ p1 / 2 ^ i.toNat := Int.ediv_nonneg (by omega) (Int.le_of_lt (Int.pow_pos (by omega)))
        have hb1 : p1 / 2 ^ i.toNat ≤ p1 := Int.ediv_le_self _ (by omega)
        exact k153 _ ⟨hb0, by omega⟩
      rw [hbit]
      have g3 : climbL (if p1 / 2 ^ i.toNat % 2 = 0 then hashS 6 [d, ix p2 i] else hashS 6 [ix p2 i, d]) (p1 / 2 ^ i.toNat / 2) (p2.drop (i + 1).toNat) = climbL p0 p1 p2 := g3
      rw [hq] at g3
      refine ⟨g0, hh, g0, fun hb => ?_, fun hb => ?_⟩
      · have hb : p1 / 2 ^ i.toNat % 2 = 0 := by simpa using hb
        rw [if_pos hb] at g3
        rw [nx]
        exact ⟨⟨g2, hx⟩, ⟨by omega, by omega, kh5 _ _, g3⟩, by omega⟩
      · have hb : ¬ p1 / 2 ^ i.toNat % 2 = 0 := by simpa using hb
        rw [if_neg hb] at g3
        rw [nx]
        exact ⟨⟨hx, g2⟩, ⟨by omega, by omega, kh5 _ _, g3⟩, by omega⟩
    · have hh := of_decide_eq_false hh
      rw [List.drop_eq_nil_of_le (by omega)] at g3
      exact g3
noncomputable def kh2 : Con TB.den := kl.fnR (fun x => (fun (p0 : Int) (p1 : Int) (p2 : List Int) => U64 p0 ∧ Us p2 ∧ p2.length ≤ 1073741824 ∧ p1 ≤ 9223372036854775807) x.1 x.2.1 x.2.2.1) fun x => ((fun (p0 : Int) (p1 : Int) (p2 : List Int) => ((climbS p0 p1 p2) : Int)) x.1 x.2.1 x.2.2.1, ())
theorem kup : kh2.Ok Try.prog TB := Con.ok_fn kl bd73 fun x h => kt5 (kqk x.1 x.2.1 x.2.2.1 h)
end Go.Proofs.Ytpffhgljgpjenaa
namespace Go.Proofs.Ytpffhgljgpjenaa
open Go Go.Bv Go.Cv Go.Md Go.RowKit
def k1d : Con TB.den := Con.mk0 100 [.one (.d (.int .i64))] [] (.one (.one (.d (.bool)))) []
abbrev klb := HL TB.den (hsT k1d.ins (hsOs k1d.pre))
abbrev kah := HL TB.den (hsV k1d.res (hsOs k1d.post))
noncomputable def k7i : Cx TB := ⟨inf, [], [], 4⟩
noncomputable def kb8 : Code := Try.f100.body.getD .skip
noncomputable def kdk : List ResultVar := Try.f100.results.toList
noncomputable def kjf (o : kah) : An TB := .no
noncomputable def kb9 (x : klb) (o : kah) : Prop := WPh TB k7i 9 0 kb8 (kjf o) (k1d.st TB x) (retTQ TB k7i k1d kdk o)
set_option maxRecDepth 100000 in
theorem ktt (o : kah) : OblH TB k7i 9 0 kb8 (kjf o) (retTQ TB k7i k1d kdk o) :=
  OblH.of_eq (X := (True ∧ (True ∧ True))) (by kernel_rfl) ⟨trivial, ⟨trivial, trivial⟩⟩
set_option maxRecDepth 100000 in
theorem ktw {x : klb} {o : kah} (h : kb9 x o) : SoundH Try.prog k1d.f ((k1d.args idf x).map (er TB)) ((k1d.obs idf x).map (erO TB)) (er TB (k1d.val idf o)) ((k1d.ops idf o).map (erO TB)) :=
  Con.soundH (c := k1d) (C := k7i) TBok ⟨inf_ok, all_nil, all_nil⟩ mix Try.func100 (show Try.f100.body = some kb8 by kernel_rfl) (show Try.f100.ntmps = 9 by kernel_rfl) (show Try.f100.results.toList = kdk by kernel_rfl) rfl h (ktt o)
set_option maxRecDepth 100000 in
theorem kvq {p0 : Int} {r0 : Bool} (h :
((decide (0 ≤ p0) = true →
 decide (p0 < 4) = r0) ∧
(decide (0 ≤ p0) = false →
 false = r0))) : kb9 (p0, ()) (r0, ()) := WPh.of_eq (by kernel_rfl) h
theorem bd100 : Callable Try.prog 100 := ⟨by rw [Try.func100]; kernel_rfl, by rw [Try.func100]; show some _ ≠ some _; decide⟩
theorem ksf (p0 : Int) : kb9 (p0, ()) (((decide (0 ≤ p0) && decide (p0 < 4)) : Bool), ()) := by
  refine kvq ?_
  grind
noncomputable def ki8 : Con TB.den := k1d.totR fun x => ((fun (p0 : Int) => ((decide (0 ≤ p0) && decide (p0 < 4)) : Bool)) x.1, ())
theorem kx5 : ki8.Ok Try.prog TB := Con.ok_tot k1d bd100 fun x => ktw (ksf x.1)
end Go.Proofs.Ytpffhgljgpjenaa
namespace Go.Proofs.Ytpffhgljgpjenaa
open Go Go.Bv Go.Cv Go.Md Go.RowKit
def k2i : Con TB.den := Con.mk0 71 [.one (.d (.int .u64)), .one (.d (.int .i64))] [] (.one (.one (.d (.int .u64)))) []
abbrev ks5 := HL TB.den (hsT k2i.ins (hsOs k2i.pre))
abbrev kf3 := HL TB.den (hsV k2i.res (hsOs k2i.post))
noncomputable def k9r : Cx TB := ⟨inf, [ki8, kho], [], 4⟩
noncomputable def kf2 : Code := Try.f71.body.getD .skip
noncomputable def khk : List ResultVar := Try.f71.results.toList
noncomputable def kqf (o : kf3) : An TB := .no
noncomputable def kef (x : ks5) (o : kf3) : Prop := WPh TB k9r 13 0 kf2 (kqf o) (k2i.st TB x) (retTQ TB k9r k2i khk o)
set_option maxRecDepth 100000 in
theorem k10r (o : kf3) : OblH TB k9r 13 0 kf2 (kqf o) (retTQ TB k9r k2i khk o) :=
  OblH.of_eq (X := (True ∧ ((True ∧ ((True ∧ True) ∧ True)) ∧ (True ∧ True)))) (by kernel_rfl) ⟨trivial, ⟨⟨trivial, ⟨⟨trivial, trivial⟩, trivial⟩⟩, ⟨trivial, trivial⟩⟩⟩
set_option maxRecDepth 100000 in
theorem k105 {x : ks5} {o : kf3} (h : kef x o) : SoundH Try.prog k2i.f ((k2i.args idf x).map (er TB)) ((k2i.obs idf x).map (erO TB)) (er TB (k2i.val idf o)) ((k2i.ops idf o).map (erO TB)) :=
  Con.soundH (c := k2i) (C := k9r) TBok ⟨inf_ok, (all_cons kx5 (all_cons ksd all_nil)), all_nil⟩ mix Try.func71 (show Try.f71.body = some kf2 by kernel_rfl) (show Try.f71.ntmps = 13 by kernel_rfl) (show Try.f71.results.toList = khk by kernel_rfl) rfl h (k10r o)
set_option maxRecDepth 100000 in
theorem k13i {p0 : Int} {p1 : Int} {r0 : Int} (h :
(((!(decide (0 ≤ p1) && decide (p1 < 4))) = true →
 0 = r0) ∧
((!(decide (0 ≤ p1) && decide (p1 < 4))) = false →
(U64 (1 : Int) ∧ Us [p0, IntKind.u64.wrap p1] ∧ [p0, IntKind.u64.wrap p1].length ≤ 1099511627776) ∧ let r1 : Int := (hashS (1 : Int) [p0, IntKind.u64.wrap p1])
 r1 = r0))) : kef (p0, p1, ()) (r0, ()) := WPh.of_eq (by kernel_rfl) h
theorem bd71 : Callable Try.prog 71 := ⟨by rw [Try.func71]; kernel_rfl, by rw [Try.func71]; show some _ ≠ some _; decide⟩
theorem kxu (p0 : Int) (p1 : Int) (h : U64 p0 ∧ -9223372036854775808 ≤ p1 ∧ p1 ≤ 9223372036854775807) : kef (p0, p1, ()) (((ownerS p0 p1) : Int), ()) := by
  obtain ⟨h0, h1, h2⟩ := h
  refine k13i ⟨fun e => ?_, fun e => ?_⟩
  · unfold ownerS
    rw [if_neg (by simp at e; omega)]
  · have e : 0 ≤ p1 ∧ p1 < 4 := by simpa using e
    rw [wu p1 (by omega) (by omega)]
    refine ⟨⟨by decide, ?_, by simp⟩, ?_⟩
    · intro x hx
      simp only [List.mem_cons, List.not_mem_nil, or_false] at hx
      rcases hx with rfl | rfl
      · exact h0
      · omega
    · unfold ownerS
      rw [if_pos e]
noncomputable def kmo : Con TB.den := k2i.fnR (fun x => (fun (p0 : Int) (p1 : Int) => U64 p0 ∧ -9223372036854775808 ≤ p1 ∧ p1 ≤ 9223372036854775807) x.1 x.2.1) fun x => ((fun (p0 : Int) (p1 : Int) => ((ownerS p0 p1) : Int)) x.1 x.2.1, ())
theorem k138 : kmo.Ok Try.prog TB := Con.ok_fn k2i bd71 fun x h => k105 (kxu x.1 x.2.1 h)
end Go.Proofs.Ytpffhgljgpjenaa
namespace Go.Proofs.Ytpffhgljgpjenaa
open Go Go.Bv Go.Cv Go.Md Go.RowKit
def k1i : Con TB.den := Con.mk0 72 [.one (.ptr 0 0), .one (.d (.int .u64)), .one (.d (.int .u64))] [.cells [.d (.bool), .d (.int .u64), .d (.int .i64), .d (.sl (.st 3)), .mp 1, .mp 2, .mp 3], .map (.str) (.int .i64), .map (.str) (.sl (.int .u64)), .map (.str) (.bool)] (.tup [.one (.d (.int .u64)), .one (.d (.bool))]) [.cells [.d (.bool), .d (.int .u64), .d (.int .i64), .d (.sl (.st 3)), .mp 1, .mp 2, .mp 3], .map (.str) (.int .i64), .map (.str) (.sl (.int .u64)), .map (.str) (.bool)]
abbrev kpk := HL TB.den (hsT k1i.ins (hsOs k1i.pre))
abbrev k5f := HL TB.den (hsV k1i.res (hsOs k1i.post))
noncomputable def k4c : Cx TB := ⟨inf, [ke3], [], 4⟩
noncomputable def k7d : Code := Try.f72.body.getD .skip
noncomputable def k96 : List ResultVar := Try.f72.results.toList
noncomputable def kzv (o : k5f) : Exit → TSt TB.den → Prop := thenT TB (fun s => ghs TB [] s fun s => WP TB k4c 21 4 (cB (cB k7d)) .no s (retTQ TB k4c k1i k96 o)) (retTQ TB k4c k1i k96 o)
def kad : Tm := ⟨[0, 1, 2, 3], [.cells [.d (.bool), .d (.int .u64), .d (.int .i64), .d (.sl (.st 3)), .mp 1, .mp 2, .mp 3], .map (.str) (.int .i64), .map (.str) (.sl (.int .u64)), .map (.str) (.bool)], [0, 1, 2, 13], [.one (.ptr 0 0), .one (.d (.int .u64)), .one (.d (.int .u64)), .one (.d (.bool))], 4⟩
noncomputable def kll (o : k5f) (i : HL TB.den kad.hs) : Prop := ghs TB [] (kad.fill TB i) fun s => WP TB k4c 21 4 (cB (cA (cB k7d))) .no s (kzv o)
structure k75 (o : k5f) (i : HL TB.den kad.hs) : Prop where
  h : kll o i
noncomputable def k10t (o : k5f) : An TB := .nd [] (.jn kad (k75 o) [] .no [] .no) [] .no
noncomputable def kn6 (o : k5f) : An TB := .nd [] .no [] (k10t o)
noncomputable def kdj (x : kpk) (o : k5f) : Prop := WPh TB k4c 21 4 k7d (kn6 o) (k1i.st TB x) (retTQ TB k4c k1i k96 o)
set_option maxRecDepth 100000 in
theorem kxt (o : k5f) : OblH TB k4c 21 4 k7d (kn6 o) (retTQ TB k4c k1i k96 o) :=
  OblH.of_eq (X := (True ∧ ((True ∧ (∀ i, (k75 o) i = (kll o) i) ∧ ((True ∧ True) ∧ True)) ∧ (True ∧ True)))) (by kernel_rfl) ⟨trivial, ⟨⟨trivial, fun _ => propext ⟨fun h => h.1, fun h => ⟨h⟩⟩, ⟨⟨trivial, trivial⟩, trivial⟩⟩, ⟨trivial, trivial⟩⟩⟩
set_option maxRecDepth 100000 in
theorem kxr {x : kpk} {o : k5f} (h : kdj x o) : SoundH Try.prog k1i.f ((k1i.args idf x).map (er TB)) ((k1i.obs idf x).map (erO TB)) (er TB (k1i.val idf o)) ((k1i.ops idf o).map (erO TB)) :=
  Con.soundH (c := k1i) (C := k4c) TBok ⟨inf_ok, (all_cons kmn all_nil), all_nil⟩ mix Try.func72 (show Try.f72.body = some k7d by kernel_rfl) (show Try.f72.ntmps = 21 by kernel_rfl) (show Try.f72.results.toList = k96 by kernel_rfl) rfl h (kxt o)
set_option maxRecDepth 100000 in
theorem k103 {p1 : Int} {p2 : Int} {c0_0 : Bool} {c0_1 : Int} {c0_2 : Int} {c0_3 : List TQuestion} {w1k : List ByteArray} {w1v : List Int} {w2k : List ByteArray} {w2v : List (List Int)} {w3k : List ByteArray} {w3v : List Bool} {r0 : Int} {r1 : Bool} {d0_0 : Bool} {d0_1 : Int} {d0_2 : Int} {d0_3 : List TQuestion} {e1k : List ByteArray} {e1v : List Int} {e2k : List ByteArray} {e2v : List (List Int)} {e3k : List ByteArray} {e3v : List Bool} (h :
((decide (18446744069414584321 ≤ p1) = true →
 k75 (r0, r1, d0_0, d0_1, d0_2, d0_3, e1k, e1v, e2k, e2v, e3k, e3v, ()) (p1, p2, true, c0_0, c0_1, c0_2, c0_3, w1k, w1v, w2k, w2v, w3k, w3v, ())) ∧
(decide (18446744069414584321 ≤ p1) = false →
 k75 (r0, r1, d0_0, d0_1, d0_2, d0_3, e1k, e1v, e2k, e2v, e3k, e3v, ()) (p1, p2, (decide (18446744069414584321 ≤ p2) : Bool), c0_0, c0_1, c0_2, c0_3, w1k, w1v, w2k, w2v, w3k, w3v, ())))) : kdj (p1, p2, c0_0, c0_1, c0_2, c0_3, w1k, w1v, w2k, w2v, w3k, w3v, ()) (r0, r1, d0_0, d0_1, d0_2, d0_3, e1k, e1v, e2k, e2v, e3k, e3v, ()) := WPh.of_eq (by kernel_rfl) h
set_option maxRecDepth 100000 in
theorem kuo {r0 : Int} {r1 : Bool} {d0_0 : Bool} {d0_1 : Int} {d0_2 : Int} {d0_3 : List TQuestion} {e1k : List ByteArray} {e1v : List Int} {e2k : List ByteArray} {e2v : List (List Int)} {e3k : List ByteArray} {e3v : List Bool} {s1 : Int} {s2 : Int} {s13 : Bool} {h0_0 : Bool} {h0_1 : Int} {h0_2 : Int} {h0_3 : List TQuestion} {g1k : List ByteArray} {g1v : List Int} {g2k : List ByteArray} {g2v : List (List Int)} {g3k : List ByteArray} {g3v : List Bool} (h :
((s13 = true →
 0 = r0 ∧ false = r1 ∧ h0_0 = d0_0 ∧ h0_1 = d0_1 ∧ h0_2 = d0_2 ∧ h0_3 = d0_3 ∧ g1k = e1k ∧ g1v = e1v ∧ g2k = e2k ∧ g2v = e2v ∧ g3k = e3k ∧ g3v = e3v) ∧
(s13 = false →
(U64 (3 : Int) ∧ Us [s1, s2] ∧ [s1, s2].length ≤ 1073741824 ∧ OrOk g1k g1v h0_3) ∧ let r2 : Int := ((pk h0_0 h0_3 g1k g1v (3 : Int) [s1, s2]).getD 0)
 let r3 : Bool := ((pk h0_0 h0_3 g1k g1v (3 : Int) [s1, s2]).isSome)
 r2 = r0 ∧ r3 = r1 ∧ h0_0 = d0_0 ∧ h0_1 = d0_1 ∧ h0_2 = d0_2 ∧ h0_3 = d0_3 ∧ g1k = e1k ∧ g1v = e1v ∧ g2k = e2k ∧ g2v = e2v ∧ g3k = e3k ∧ g3v = e3v))) : k75 (r0, r1, d0_0, d0_1, d0_2, d0_3, e1k, e1v, e2k, e2v, e3k, e3v, ()) (s1, s2, s13, h0_0, h0_1, h0_2, h0_3, g1k, g1v, g2k, g2v, g3k, g3v, ()) := ⟨mpr_of (by kernel_rfl) h⟩
theorem bd72 : Callable Try.prog 72 := ⟨by rw [Try.func72]; kernel_rfl, by rw [Try.func72]; show some _ ≠ some _; decide⟩
theorem kwq (p1 : Int) (p2 : Int) (c0_0 : Bool) (c0_1 : Int) (c0_2 : Int) (c0_3 : List TQuestion) (w1k : List ByteArray) (w1v : List Int) (w2k : List ByteArray) (w2v : List (List Int)) (w3k : List ByteArray) (w3v : List Bool) (h : U64 p1 ∧ U64 p2 ∧ OrOk w1k w1v c0_3) : kdj (p1, p2, c0_0, c0_1, c0_2, c0_3, w1k, w1v, w2k, w2v, w3k, w3v, ()) ((((markP (pk c0_0 c0_3 w1k w1v) p1 p2).getD 0) : Int), (((markP (pk c0_0 c0_3 w1k w1v) p1 p2).isSome) : Bool), (c0_0 : Bool), (c0_1 : Int), (c0_2 : Int), (c0_3 : List TQuestion), (w1k : List ByteArray), (w1v : List Int), (w2k : List ByteArray), (w2v : List (List Int)), (w3k : List ByteArray), (w3v : List Bool), ()) := by
  obtain ⟨h1, h2, ho⟩ := h
  have j1 : ∀ s : Bool, s = decide (¬ (p1 < 18446744069414584321 ∧ p2 < 18446744069414584321)) → k75 (((markP (pk c0_0 c0_3 w1k w1v) p1 p2).getD 0 : Int), ((markP (pk c0_0 c0_3 w1k w1v) p1 p2).isSome : Bool), c0_0, c0_1, c0_2, c0_3, w1k, w1v, w2k, w2v, w3k, w3v, ()) (p1, p2, s, c0_0, c0_1, c0_2, c0_3, w1k, w1v, w2k, w2v, w3k, w3v, ()) := by
    intro s hs
    refine kuo ⟨fun e => ?_, fun e => ?_⟩
    · rw [e] at hs
      have hs := of_decide_eq_true hs.symm
      unfold markP
      rw [if_neg hs]
      simp
    · rw [e] at hs
      have hs : p1 < 18446744069414584321 ∧ p2 < 18446744069414584321 := by simpa using hs.symm
      unfold markP
      rw [if_pos hs]
      refine ⟨⟨by decide, ?_, by simp, ho⟩, ?_⟩
      · intro x hx
        simp only [List.mem_cons, List.not_mem_nil, or_false] at hx
        rcases hx with rfl | rfl
        · exact h1
        · exact h2
      · simp
  refine k103 ⟨fun e => j1 _ ?_, fun e => j1 _ ?_⟩
  · have e := of_decide_eq_true e
    symm; apply decide_eq_true; omega
  · have e := of_decide_eq_false e
    congr 1; apply propext; omega
noncomputable def klh : Con TB.den := k1i.fnR (fun x => (fun (p1 : Int) (p2 : Int) (c0_0 : Bool) (c0_1 : Int) (c0_2 : Int) (c0_3 : List TQuestion) (w1k : List ByteArray) (w1v : List Int) (w2k : List ByteArray) (w2v : List (List Int)) (w3k : List ByteArray) (w3v : List Bool) => U64 p1 ∧ U64 p2 ∧ OrOk w1k w1v c0_3) x.1 x.2.1 x.2.2.1 x.2.2.2.1 x.2.2.2.2.1 x.2.2.2.2.2.1 x.2.2.2.2.2.2.1 x.2.2.2.2.2.2.2.1 x.2.2.2.2.2.2.2.2.1 x.2.2.2.2.2.2.2.2.2.1 x.2.2.2.2.2.2.2.2.2.2.1 x.2.2.2.2.2.2.2.2.2.2.2.1) fun x => ((fun (p1 : Int) (p2 : Int) (c0_0 : Bool) (c0_1 : Int) (c0_2 : Int) (c0_3 : List TQuestion) (w1k : List ByteArray) (w1v : List Int) (w2k : List ByteArray) (w2v : List (List Int)) (w3k : List ByteArray) (w3v : List Bool) => (((markP (pk c0_0 c0_3 w1k w1v) p1 p2).getD 0) : Int)) x.1 x.2.1 x.2.2.1 x.2.2.2.1 x.2.2.2.2.1 x.2.2.2.2.2.1 x.2.2.2.2.2.2.1 x.2.2.2.2.2.2.2.1 x.2.2.2.2.2.2.2.2.1 x.2.2.2.2.2.2.2.2.2.1 x.2.2.2.2.2.2.2.2.2.2.1 x.2.2.2.2.2.2.2.2.2.2.2.1, (fun (p1 : Int) (p2 : Int) (c0_0 : Bool) (c0_1 : Int) (c0_2 : Int) (c0_3 : List TQuestion) (w1k : List ByteArray) (w1v : List Int) (w2k : List ByteArray) (w2v : List (List Int)) (w3k : List ByteArray) (w3v : List Bool) => (((markP (pk c0_0 c0_3 w1k w1v) p1 p2).isSome) : Bool)) x.1 x.2.1 x.2.2.1 x.2.2.2.1 x.2.2.2.2.1 x.2.2.2.2.2.1 x.2.2.2.2.2.2.1 x.2.2.2.2.2.2.2.1 x.2.2.2.2.2.2.2.2.1 x.2.2.2.2.2.2.2.2.2.1 x.2.2.2.2.2.2.2.2.2.2.1 x.2.2.2.2.2.2.2.2.2.2.2.1, (fun (p1 : Int) (p2 : Int) (c0_0 : Bool) (c0_1 : Int) (c0_2 : Int) (c0_3 : List TQuestion) (w1k : List ByteArray) (w1v : List Int) (w2k : List ByteArray) (w2v : List (List Int)) (w3k : List ByteArray) (w3v : List Bool) => (c0_0 : Bool)) x.1 x.2.1 x.2.2.1 x.2.2.2.1 x.2.2.2.2.1 x.2.2.2.2.2.1 x.2.2.2.2.2.2.1 x.2.2.2.2.2.2.2.1 x.2.2.2.2.2.2.2.2.1 x.2.2.2.2.2.2.2.2.2.1 x.2.2.2.2.2.2.2.2.2.2.1 x.2.2.2.2.2.2.2.2.2.2.2.1, (fun (p1 : Int) (p2 : Int) (c0_0 : Bool) (c0_1 : Int) (c0_2 : Int) (c0_3 : List TQuestion) (w1k : List ByteArray) (w1v : List Int) (w2k : List ByteArray) (w2v : List (List Int)) (w3k : List ByteArray) (w3v : List Bool) => (c0_1 : Int)) x.1 x.2.1 x.2.2.1 x.2.2.2.1 x.2.2.2.2.1 x.2.2.2.2.2.1 x.2.2.2.2.2.2.1 x.2.2.2.2.2.2.2.1 x.2.2.2.2.2.2.2.2.1 x.2.2.2.2.2.2.2.2.2.1 x.2.2.2.2.2.2.2.2.2.2.1 x.2.2.2.2.2.2.2.2.2.2.2.1, (fun (p1 : Int) (p2 : Int) (c0_0 : Bool) (c0_1 : Int) (c0_2 : Int) (c0_3 : List TQuestion) (w1k : List ByteArray) (w1v : List Int) (w2k : List ByteArray) (w2v : List (List Int)) (w3k : List ByteArray) (w3v : List Bool) => (c0_2 : Int)) x.1 x.2.1 x.2.2.1 x.2.2.2.1 x.2.2.2.2.1 x.2.2.2.2.2.1 x.2.2.2.2.2.2.1 x.2.2.2.2.2.2.2.1 x.2.2.2.2.2.2.2.2.1 x.2.2.2.2.2.2.2.2.2.1 x.2.2.2.2.2.2.2.2.2.2.1 x.2.2.2.2.2.2.2.2.2.2.2.1, (fun (p1 : Int) (p2 : Int) (c0_0 : Bool) (c0_1 : Int) (c0_2 : Int) (c0_3 : List TQuestion) (w1k : List ByteArray) (w1v : List Int) (w2k : List ByteArray) (w2v : List (List Int)) (w3k : List ByteArray) (w3v : List Bool) => (c0_3 : List TQuestion)) x.1 x.2.1 x.2.2.1 x.2.2.2.1 x.2.2.2.2.1 x.2.2.2.2.2.1 x.2.2.2.2.2.2.1 x.2.2.2.2.2.2.2.1 x.2.2.2.2.2.2.2.2.1 x.2.2.2.2.2.2.2.2.2.1 x.2.2.2.2.2.2.2.2.2.2.1 x.2.2.2.2.2.2.2.2.2.2.2.1, (fun (p1 : Int) (p2 : Int) (c0_0 : Bool) (c0_1 : Int) (c0_2 : Int) (c0_3 : List TQuestion) (w1k : List ByteArray) (w1v : List Int) (w2k : List ByteArray) (w2v : List (List Int)) (w3k : List ByteArray) (w3v : List Bool) => (w1k : List ByteArray)) x.1 x.2.1 x.2.2.1 x.2.2.2.1 x.2.2.2.2.1 x.2.2.2.2.2.1 x.2.2.2.2.2.2.1 x.2.2.2.2.2.2.2.1 x.2.2.2.2.2.2.2.2.1 x.2.2.2.2.2.2.2.2.2.1 x.2.2.2.2.2.2.2.2.2.2.1 x.2.2.2.2.2.2.2.2.2.2.2.1, (fun (p1 : Int) (p2 : Int) (c0_0 : Bool) (c0_1 : Int) (c0_2 : Int) (c0_3 : List TQuestion) (w1k : List ByteArray) (w1v : List Int) (w2k : List ByteArray) (w2v : List (List Int)) (w3k : List ByteArray) (w3v : List Bool) => (w1v : List Int)) x.1 x.2.1 x.2.2.1 x.2.2.2.1 x.2.2.2.2.1 x.2.2.2.2.2.1 x.2.2.2.2.2.2.1 x.2.2.2.2.2.2.2.1 x.2.2.2.2.2.2.2.2.1 x.2.2.2.2.2.2.2.2.2.1 x.2.2.2.2.2.2.2.2.2.2.1 x.2.2.2.2.2.2.2.2.2.2.2.1, (fun (p1 : Int) (p2 : Int) (c0_0 : Bool) (c0_1 : Int) (c0_2 : Int) (c0_3 : List TQuestion) (w1k : List ByteArray) (w1v : List Int) (w2k : List ByteArray) (w2v : List (List Int)) (w3k : List ByteArray) (w3v : List Bool) => (w2k : List ByteArray)) x.1 x.2.1 x.2.2.1 x.2.2.2.1 x.2.2.2.2.1 x.2.2.2.2.2.1 x.2.2.2.2.2.2.1 x.2.2.2.2.2.2.2.1 x.2.2.2.2.2.2.2.2.1 x.2.2.2.2.2.2.2.2.2.1 x.2.2.2.2.2.2.2.2.2.2.1 x.2.2.2.2.2.2.2.2.2.2.2.1, (fun (p1 : Int) (p2 : Int) (c0_0 : Bool) (c0_1 : Int) (c0_2 : Int) (c0_3 : List TQuestion) (w1k : List ByteArray) (w1v : List Int) (w2k : List ByteArray) (w2v : List (List Int)) (w3k : List ByteArray) (w3v : List Bool) => (w2v : List (List Int))) x.1 x.2.1 x.2.2.1 x.2.2.2.1 x.2.2.2.2.1 x.2.2.2.2.2.1 x.2.2.2.2.2.2.1 x.2.2.2.2.2.2.2.1 x.2.2.2.2.2.2.2.2.1 x.2.2.2.2.2.2.2.2.2.1 x.2.2.2.2.2.2.2.2.2.2.1 x.2.2.2.2.2.2.2.2.2.2.2.1, (fun (p1 : Int) (p2 : Int) (c0_0 : Bool) (c0_1 : Int) (c0_2 : Int) (c0_3 : List TQuestion) (w1k : List ByteArray) (w1v : List Int) (w2k : List ByteArray) (w2v : List (List Int)) (w3k : List ByteArray) (w3v : List Bool) => (w3k : List ByteArray)) x.1 x.2.1 x.2.2.1 x.2.2.2.1 x.2.2.2.2.1 x.2.2.2.2.2.1 x.2.2.2.2.2.2.1 x.2.2.2.2.2.2.2.1 x.2.2.2.2.2.2.2.2.1 x.2.2.2.2.2.2.2.2.2.1 x.2.2.2.2.2.2.2.2.2.2.1 x.2.2.2.2.2.2.2.2.2.2.2.1, (fun (p1 : Int) (p2 : Int) (c0_0 : Bool) (c0_1 : Int) (c0_2 : Int) (c0_3 : List TQuestion) (w1k : List ByteArray) (w1v : List Int) (w2k : List ByteArray) (w2v : List (List Int)) (w3k : List ByteArray) (w3v : List Bool) => (w3v : List Bool)) x.1 x.2.1 x.2.2.1 x.2.2.2.1 x.2.2.2.2.1 x.2.2.2.2.2.1 x.2.2.2.2.2.2.1 x.2.2.2.2.2.2.2.1 x.2.2.2.2.2.2.2.2.1 x.2.2.2.2.2.2.2.2.2.1 x.2.2.2.2.2.2.2.2.2.2.1 x.2.2.2.2.2.2.2.2.2.2.2.1, ())
theorem k109 : klh.Ok Try.prog TB := Con.ok_fn k1i bd72 fun x h => kxr (kwq x.1 x.2.1 x.2.2.1 x.2.2.2.1 x.2.2.2.2.1 x.2.2.2.2.2.1 x.2.2.2.2.2.2.1 x.2.2.2.2.2.2.2.1 x.2.2.2.2.2.2.2.2.1 x.2.2.2.2.2.2.2.2.2.1 x.2.2.2.2.2.2.2.2.2.2.1 x.2.2.2.2.2.2.2.2.2.2.2.1 h)
end Go.Proofs.Ytpffhgljgpjenaa
namespace Go.Proofs.Ytpffhgljgpjenaa
open Go Go.Bv Go.Cv Go.Md Go.RowKit
def kw : Con TB.den := Con.mk0 33 [.one (.ptr 0 0), .agg [.d (.int .i64), .d (.int .u64), .d (.sl (.int .u64)), .d (.sl (.int .u64)), .d (.sl (.int .u64)), .d (.int .u64), .d (.int .u64), .d (.int .u64), .d (.int .u64), .d (.int .u64)], .agg [.d (.int .u64), .d (.int .u64), .d (.int .u64), .d (.int .u64), .d (.int .u64), .d (.int .i64), .d (.int .i64), .d (.sl (.int .u64)), .d (.bool)], .one (.d (.int .u64))] [.cells [.d (.bool), .d (.int .u64), .d (.int .i64), .d (.sl (.st 3)), .mp 1, .mp 2, .mp 3], .map (.str) (.int .i64), .map (.str) (.sl (.int .u64)), .map (.str) (.bool)] (.one (.one (.d (.int .i64)))) [.cells [.d (.bool), .d (.int .u64), .d (.int .i64), .d (.sl (.st 3)), .mp 1, .mp 2, .mp 3], .map (.str) (.int .i64), .map (.str) (.sl (.int .u64)), .map (.str) (.bool)]
abbrev kh8 := HL TB.den (hsT kw.ins (hsOs kw.pre))
abbrev k82 := HL TB.den (hsV kw.res (hsOs kw.post))
noncomputable def k5k : Cx TB := ⟨inf, [kmo, klh, ka3, kh2], [], 4⟩
noncomputable def k8v : Code := Try.f33.body.getD .skip
noncomputable def kab : List ResultVar := Try.f33.results.toList
noncomputable def kfc (o : k82) : An TB := .no
noncomputable def k8t (x : kh8) (o : k82) : Prop := WPh TB k5k 64 4 k8v (kfc o) (kw.st TB x) (retTQ TB k5k kw kab o)
set_option maxRecDepth 100000 in
theorem ko8 (o : k82) : OblH TB k5k 64 4 k8v (kfc o) (retTQ TB k5k kw kab o) :=
  OblH.of_eq (X := (True ∧ ((True ∧ ((True ∧ True) ∧ True)) ∧ (True ∧ ((True ∧ ((True ∧ True) ∧ True)) ∧ ((True ∧ (((True ∧ ((True ∧ True) ∧ True)) ∧ (True ∧ True)) ∧ True)) ∧ (True ∧ ((True ∧ ((True ∧ True) ∧ True)) ∧ (True ∧ True))))))))) (by kernel_rfl) ⟨trivial, ⟨⟨trivial, ⟨⟨trivial, trivial⟩, trivial⟩⟩, ⟨trivial, ⟨⟨trivial, ⟨⟨trivial, trivial⟩, trivial⟩⟩, ⟨⟨trivial, ⟨⟨⟨trivial, ⟨⟨trivial, trivial⟩, trivial⟩⟩, ⟨trivial, trivial⟩⟩, trivial⟩⟩, ⟨trivial, ⟨⟨trivial, ⟨⟨trivial, trivial⟩, trivial⟩⟩, ⟨trivial, trivial⟩⟩⟩⟩⟩⟩⟩⟩
set_option maxRecDepth 100000 in
theorem kp2 {x : kh8} {o : k82} (h : k8t x o) : SoundH Try.prog kw.f ((kw.args idf x).map (er TB)) ((kw.obs idf x).map (erO TB)) (er TB (kw.val idf o)) ((kw.ops idf o).map (erO TB)) :=
  Con.soundH (c := kw) (C := k5k) TBok ⟨inf_ok, (all_cons k138 (all_cons k109 (all_cons kh4 (all_cons kup all_nil)))), all_nil⟩ mix Try.func33 (show Try.f33.body = some k8v by kernel_rfl) (show Try.f33.ntmps = 64 by kernel_rfl) (show Try.f33.results.toList = kab by kernel_rfl) rfl h (ko8 o)
set_option maxRecDepth 100000 in
theorem kqy {p1 : TStatement} {p2 : TSpent} {p3 : Int} {c0_0 : Bool} {c0_1 : Int} {c0_2 : Int} {c0_3 : List TQuestion} {w1k : List ByteArray} {w1v : List Int} {w2k : List ByteArray} {w2v : List (List Int)} {w3k : List ByteArray} {w3v : List Bool} {r0 : Int} {d0_0 : Bool} {d0_1 : Int} {d0_2 : Int} {d0_3 : List TQuestion} {e1k : List ByteArray} {e1v : List Int} {e2k : List ByteArray} {e2v : List (List Int)} {e3k : List ByteArray} {e3v : List Bool} (h :
((U64 p2.Key ∧ -9223372036854775808 ≤ p2.Number ∧ p2.Number ≤ 9223372036854775807) ∧ let v1 : Bool := (p2.Note_Owner != (ownerS p2.Key p2.Number))
(v1 = true →
 21 = r0 ∧ c0_0 = d0_0 ∧ c0_1 = d0_1 ∧ c0_2 = d0_2 ∧ c0_3 = d0_3 ∧ w1k = e1k ∧ w1v = e1v ∧ w2k = e2k ∧ w2v = e2v ∧ w3k = e3k ∧ w3v = e3v) ∧
(v1 = false →
(U64 p2.Key ∧ U64 p2.Note_Rho ∧ OrOk w1k w1v c0_3) ∧ let r2 : Int := ((markP (pk c0_0 c0_3 w1k w1v) p2.Key p2.Note_Rho).getD 0)
 let r3 : Bool := ((markP (pk c0_0 c0_3 w1k w1v) p2.Key p2.Note_Rho).isSome)
((!r3) = true →
 12 = r0 ∧ c0_0 = d0_0 ∧ c0_1 = d0_1 ∧ c0_2 = d0_2 ∧ c0_3 = d0_3 ∧ w1k = e1k ∧ w1v = e1v ∧ w2k = e2k ∧ w2v = e2v ∧ w3k = e3k ∧ w3v = e3v) ∧
((!r3) = false →
((r2 != p3) = true →
 12 = r0 ∧ c0_0 = d0_0 ∧ c0_1 = d0_1 ∧ c0_2 = d0_2 ∧ c0_3 = d0_3 ∧ w1k = e1k ∧ w1v = e1v ∧ w2k = e2k ∧ w2v = e2v ∧ w3k = e3k ∧ w3v = e3v) ∧
((r2 != p3) = false →
(p2.Dummy = true →
((p2.Note_Value != 0) = true →
 13 = r0 ∧ c0_0 = d0_0 ∧ c0_1 = d0_1 ∧ c0_2 = d0_2 ∧ c0_3 = d0_3 ∧ w1k = e1k ∧ w1v = e1v ∧ w2k = e2k ∧ w2v = e2v ∧ w3k = e3k ∧ w3v = e3v) ∧
((p2.Note_Value != 0) = false →
 0 = r0 ∧ c0_0 = d0_0 ∧ c0_1 = d0_1 ∧ c0_2 = d0_2 ∧ c0_3 = d0_3 ∧ w1k = e1k ∧ w1v = e1v ∧ w2k = e2k ∧ w2v = e2v ∧ w3k = e3k ∧ w3v = e3v)) ∧
(p2.Dummy = false →
(NR (TNote.mk p2.Note_Value p2.Note_Owner p2.Note_Rho p2.Note_Blind) ∧ OrOk w1k w1v c0_3) ∧ let r4 : Int := ((commP (pk c0_0 c0_3 w1k w1v) (TNote.mk p2.Note_Value p2.Note_Owner p2.Note_Rho p2.Note_Blind)).getD 0)
 let r5 : Bool := ((commP (pk c0_0 c0_3 w1k w1v) (TNote.mk p2.Note_Value p2.Note_Owner p2.Note_Rho p2.Note_Blind)).isSome)
((!r5) = true →
 11 = r0 ∧ c0_0 = d0_0 ∧ c0_1 = d0_1 ∧ c0_2 = d0_2 ∧ c0_3 = d0_3 ∧ w1k = e1k ∧ w1v = e1v ∧ w2k = e2k ∧ w2v = e2v ∧ w3k = e3k ∧ w3v = e3v) ∧
((!r5) = false →
(U64 r4 ∧ Us p2.Path ∧ p2.Path.length ≤ 1073741824 ∧ p2.Position ≤ 9223372036854775807) ∧ let v6 : Bool := ((climbS r4 p2.Position p2.Path) != p1.Anchor)
(v6 = true →
 11 = r0 ∧ c0_0 = d0_0 ∧ c0_1 = d0_1 ∧ c0_2 = d0_2 ∧ c0_3 = d0_3 ∧ w1k = e1k ∧ w1v = e1v ∧ w2k = e2k ∧ w2v = e2v ∧ w3k = e3k ∧ w3v = e3v) ∧
(v6 = false →
 0 = r0 ∧ c0_0 = d0_0 ∧ c0_1 = d0_1 ∧ c0_2 = d0_2 ∧ c0_3 = d0_3 ∧ w1k = e1k ∧ w1v = e1v ∧ w2k = e2k ∧ w2v = e2v ∧ w3k = e3k ∧ w3v = e3v)))))))) : k8t (p1.Depth, p1.Anchor, p1.Marks, p1.Commits, p1.Rhos, p1.Deposit, p1.Withdraw, p1.Fee, p1.Account, p1.Bind, p2.Note_Value, p2.Note_Owner, p2.Note_Rho, p2.Note_Blind, p2.Key, p2.Number, p2.Position, p2.Path, p2.Dummy, p3, c0_0, c0_1, c0_2, c0_3, w1k, w1v, w2k, w2v, w3k, w3v, ()) (r0, d0_0, d0_1, d0_2, d0_3, e1k, e1v, e2k, e2v, e3k, e3v, ()) := WPh.of_eq (by kernel_rfl) h
theorem bd33 : Callable Try.prog 33 := ⟨by rw [Try.func33]; kernel_rfl, by rw [Try.func33]; show some _ ≠ some _; decide⟩
theorem kns (p1 : TStatement) (p2 : TSpent) (p3 : Int) (c0_0 : Bool) (c0_1 : Int) (c0_2 : Int) (c0_3 : List TQuestion) (w1k : List ByteArray) (w1v : List Int) (w2k : List ByteArray) (w2v : List (List Int)) (w3k : List ByteArray) (w3v : List Bool) (h : PR p2 ∧ OrOk w1k w1v c0_3 ∧ (∀ l a, (pk c0_0 c0_3 w1k w1v) l a = none ∨ ∃ n, (pk c0_0 c0_3 w1k w1v) l a = some n ∧ U64 n)) : k8t (p1.Depth, p1.Anchor, p1.Marks, p1.Commits, p1.Rhos, p1.Deposit, p1.Withdraw, p1.Fee, p1.Account, p1.Bind, p2.Note_Value, p2.Note_Owner, p2.Note_Rho, p2.Note_Blind, p2.Key, p2.Number, p2.Position, p2.Path, p2.Dummy, p3, c0_0, c0_1, c0_2, c0_3, w1k, w1v, w2k, w2v, w3k, w3v, ()) (((inE (pk c0_0 c0_3 w1k w1v) p1.Anchor p3 p2) : Int), (c0_0 : Bool), (c0_1 : Int), (c0_2 : Int), (c0_3 : List TQuestion), (w1k : List ByteArray), (w1v : List Int), (w2k : List ByteArray), (w2v : List (List Int)), (w3k : List ByteArray), (w3v : List Bool), ()) := by
  obtain ⟨hp, ho, hu⟩ := h
  have hm : markP (pk c0_0 c0_3 w1k w1v) p2.Key p2.Note_Rho = none ∨ ∃ n, markP (pk c0_0 c0_3 w1k w1v) p2.Key p2.Note_Rho = some n ∧ U64 n := by unfold markP; split; exact hu _ _; exact .inl rfl
  have hc : commP (pk c0_0 c0_3 w1k w1v) (noteOf p2) = none ∨ ∃ n, commP (pk c0_0 c0_3 w1k w1v) (noteOf p2) = some n ∧ U64 n := by unfold commP; split; exact hu _ _; exact .inl rfl
  have hcu : U64 ((commP (pk c0_0 c0_3 w1k w1v) (noteOf p2)).getD 0) := by
    rcases hc with h | ⟨n, h, hn⟩
    · rw [h]; decide
    · rw [h]; exact hn
  have en : noteOf p2 = ⟨p2.Note_Value, p2.Note_Owner, p2.Note_Rho, p2.Note_Blind⟩ := rfl
  refine kqy ⟨⟨hp.k, hp.nu.1, hp.nu.2⟩, ?_⟩
  simp only [← en]
  unfold inE
  refine ⟨fun e => ?_, fun e => ⟨⟨hp.k, hp.n.r, ho⟩, fun e2 => ?_, fun e2 => ⟨fun e3 => ?_, fun e3 => ⟨fun e4 => ⟨fun e5 => ?_, fun e5 => ?_⟩, fun e4 => ⟨⟨hp.n, ho⟩, fun e6 => ?_, fun e6 => ⟨⟨hcu, hp.pa, hp.pl, hp.po.2⟩, fun e7 => ?_, fun e7 => ?_⟩⟩⟩⟩⟩⟩
  all_goals simp_all
noncomputable def kem : Con TB.den := kw.fnR (fun x => (fun (p1 : TStatement) (p2 : TSpent) (p3 : Int) (c0_0 : Bool) (c0_1 : Int) (c0_2 : Int) (c0_3 : List TQuestion) (w1k : List ByteArray) (w1v : List Int) (w2k : List ByteArray) (w2v : List (List Int)) (w3k : List ByteArray) (w3v : List Bool) => PR p2 ∧ OrOk w1k w1v c0_3 ∧ (∀ l a, (pk c0_0 c0_3 w1k w1v) l a = none ∨ ∃ n, (pk c0_0 c0_3 w1k w1v) l a = some n ∧ U64 n)) (TStatement.mk x.1 x.2.1 x.2.2.1 x.2.2.2.1 x.2.2.2.2.1 x.2.2.2.2.2.1 x.2.2.2.2.2.2.1 x.2.2.2.2.2.2.2.1 x.2.2.2.2.2.2.2.2.1 x.2.2.2.2.2.2.2.2.2.1) (TSpent.mk x.2.2.2.2.2.2.2.2.2.2.1 x.2.2.2.2.2.2.2.2.2.2.2.1 x.2.2.2.2.2.2.2.2.2.2.2.2.1 x.2.2.2.2.2.2.2.2.2.2.2.2.2.1 x.2.2.2.2.2.2.2.2.2.2.2.2.2.2.1 x.2.2.2.2.2.2.2.2.2.2.2.2.2.2.2.1 x.2.2.2.2.2.2.2.2.2.2.2.2.2.2.2.2.1 x.2.2.2.2.2.2.2.2.2.2.2.2.2.2.2.2.2.1 x.2.2.2.2.2.2.2.2.2.2.2.2.2.2.2.2.2.2.1) x.2.2.2.2.2.2.2.2.2.2.2.2.2.2.2.2.2.2.2.1 x.2.2.2.2.2.2.2.2.2.2.2.2.2.2.2.2.2.2.2.2.1 x.2.2.2.2.2.2.2.2.2.2.2.2.2.2.2.2.2.2.2.2.2.1 x.2.2.2.2.2.2.2.2.2.2.2.2.2.2.2.2.2.2.2.2.2.2.1 x.2.2.2.2.2.2.2.2.2.2.2.2.2.2.2.2.2.2.2.2.2.2.2.1 x.2.2.2.2.2.2.2.2.2.2.2.2.2.2.2.2.2.2.2.2.2.2.2.2.1 x.2.2.2.2.2.2.2.2.2.2.2.2.2.2.2.2.2.2.2.2.2.2.2.2.2.1 x.2.2.2.2.2.2.2.2.2.2.2.2.2.2.2.2.2.2.2.2.2.2.2.2.2.2.1 x.2.2.2.2.2.2.2.2.2.2.2.2.2.2.2.2.2.2.2.2.2.2.2.2.2.2.2.1 x.2.2.2.2.2.2.2.2.2.2.2.2.2.2.2.2.2.2.2.2.2.2.2.2.2.2.2.2.1 x.2.2.2.2.2.2.2.2.2.2.2.2.2.2.2.2.2.2.2.2.2.2.2.2.2.2.2.2.2.1) fun x => ((fun (p1 : TStatement) (p2 : TSpent) (p3 : Int) (c0_0 : Bool) (c0_1 : Int) (c0_2 : Int) (c0_3 : List TQuestion) (w1k : List ByteArray) (w1v : List Int) (w2k : List ByteArray) (w2v : List (List Int)) (w3k : List ByteArray) (w3v : List Bool) => ((inE (pk c0_0 c0_3 w1k w1v) p1.Anchor p3 p2) : Int)) (TStatement.mk x.1 x.2.1 x.2.2.1 x.2.2.2.1 x.2.2.2.2.1 x.2.2.2.2.2.1 x.2.2.2.2.2.2.1 x.2.2.2.2.2.2.2.1 x.2.2.2.2.2.2.2.2.1 x.2.2.2.2.2.2.2.2.2.1) (TSpent.mk x.2.2.2.2.2.2.2.2.2.2.1 x.2.2.2.2.2.2.2.2.2.2.2.1 x.2.2.2.2.2.2.2.2.2.2.2.2.1 x.2.2.2.2.2.2.2.2.2.2.2.2.2.1 x.2.2.2.2.2.2.2.2.2.2.2.2.2.2.1 x.2.2.2.2.2.2.2.2.2.2.2.2.2.2.2.1 x.2.2.2.2.2.2.2.2.2.2.2.2.2.2.2.2.1 x.2.2.2.2.2.2.2.2.2.2.2.2.2.2.2.2.2.1 x.2.2.2.2.2.2.2.2.2.2.2.2.2.2.2.2.2.2.1) x.2.2.2.2.2.2.2.2.2.2.2.2.2.2.2.2.2.2.2.1 x.2.2.2.2.2.2.2.2.2.2.2.2.2.2.2.2.2.2.2.2.1 x.2.2.2.2.2.2.2.2.2.2.2.2.2.2.2.2.2.2.2.2.2.1 x.2.2.2.2.2.2.2.2.2.2.2.2.2.2.2.2.2.2.2.2.2.2.1 x.2.2.2.2.2.2.2.2.2.2.2.2.2.2.2.2.2.2.2.2.2.2.2.1 x.2.2.2.2.2.2.2.2.2.2.2.2.2.2.2.2.2.2.2.2.2.2.2.2.1 x.2.2.2.2.2.2.2.2.2.2.2.2.2.2.2.2.2.2.2.2.2.2.2.2.2.1 x.2.2.2.2.2.2.2.2.2.2.2.2.2.2.2.2.2.2.2.2.2.2.2.2.2.2.1 x.2.2.2.2.2.2.2.2.2.2.2.2.2.2.2.2.2.2.2.2.2.2.2.2.2.2.2.1 x.2.2.2.2.2.2.2.2.2.2.2.2.2.2.2.2.2.2.2.2.2.2.2.2.2.2.2.2.1 x.2.2.2.2.2.2.2.2.2.2.2.2.2.2.2.2.2.2.2.2.2.2.2.2.2.2.2.2.2.1, (fun (p1 : TStatement) (p2 : TSpent) (p3 : Int) (c0_0 : Bool) (c0_1 : Int) (c0_2 : Int) (c0_3 : List TQuestion) (w1k : List ByteArray) (w1v : List Int) (w2k : List ByteArray) (w2v : List (List Int)) (w3k : List ByteArray) (w3v : List Bool) => (c0_0 : Bool)) (TStatement.mk x.1 x.2.1 x.2.2.1 x.2.2.2.1 x.2.2.2.2.1 x.2.2.2.2.2.1 x.2.2.2.2.2.2.1 x.2.2.2.2.2.2.2.1 x.2.2.2.2.2.2.2.2.1 x.2.2.2.2.2.2.2.2.2.1) (TSpent.mk x.2.2.2.2.2.2.2.2.2.2.1 x.2.2.2.2.2.2.2.2.2.2.2.1 x.2.2.2.2.2.2.2.2.2.2.2.2.1 x.2.2.2.2.2.2.2.2.2.2.2.2.2.1 x.2.2.2.2.2.2.2.2.2.2.2.2.2.2.1 x.2.2.2.2.2.2.2.2.2.2.2.2.2.2.2.1 x.2.2.2.2.2.2.2.2.2.2.2.2.2.2.2.2.1 x.2.2.2.2.2.2.2.2.2.2.2.2.2.2.2.2.2.1 x.2.2.2.2.2.2.2.2.2.2.2.2.2.2.2.2.2.2.1) x.2.2.2.2.2.2.2.2.2.2.2.2.2.2.2.2.2.2.2.1 x.2.2.2.2.2.2.2.2.2.2.2.2.2.2.2.2.2.2.2.2.1 x.2.2.2.2.2.2.2.2.2.2.2.2.2.2.2.2.2.2.2.2.2.1 x.2.2.2.2.2.2.2.2.2.2.2.2.2.2.2.2.2.2.2.2.2.2.1 x.2.2.2.2.2.2.2.2.2.2.2.2.2.2.2.2.2.2.2.2.2.2.2.1 x.2.2.2.2.2.2.2.2.2.2.2.2.2.2.2.2.2.2.2.2.2.2.2.2.1 x.2.2.2.2.2.2.2.2.2.2.2.2.2.2.2.2.2.2.2.2.2.2.2.2.2.1 x.2.2.2.2.2.2.2.2.2.2.2.2.2.2.2.2.2.2.2.2.2.2.2.2.2.2.1 x.2.2.2.2.2.2.2.2.2.2.2.2.2.2.2.2.2.2.2.2.2.2.2.2.2.2.2.1 x.2.2.2.2.2.2.2.2.2.2.2.2.2.2.2.2.2.2.2.2.2.2.2.2.2.2.2.2.1 x.2.2.2.2.2.2.2.2.2.2.2.2.2.2.2.2.2.2.2.2.2.2.2.2.2.2.2.2.2.1, (fun (p1 : TStatement) (p2 : TSpent) (p3 : Int) (c0_0 : Bool) (c0_1 : Int) (c0_2 : Int) (c0_3 : List TQuestion) (w1k : List ByteArray) (w1v : List Int) (w2k : List ByteArray) (w2v : List (List Int)) (w3k : List ByteArray) (w3v : List Bool) => (c0_1 : Int)) (TStatement.mk x.1 x.2.1 x.2.2.1 x.2.2.2.1 x.2.2.2.2.1 x.2.2.2.2.2.1 x.2.2.2.2.2.2.1 x.2.2.2.2.2.2.2.1 x.2.2.2.2.2.2.2.2.1 x.2.2.2.2.2.2.2.2.2.1) (TSpent.mk x.2.2.2.2.2.2.2.2.2.2.1 x.2.2.2.2.2.2.2.2.2.2.2.1 x.2.2.2.2.2.2.2.2.2.2.2.2.1 x.2.2.2.2.2.2.2.2.2.2.2.2.2.1 x.2.2.2.2.2.2.2.2.2.2.2.2.2.2.1 x.2.2.2.2.2.2.2.2.2.2.2.2.2.2.2.1 x.2.2.2.2.2.2.2.2.2.2.2.2.2.2.2.2.1 x.2.2.2.2.2.2.2.2.2.2.2.2.2.2.2.2.2.1 x.2.2.2.2.2.2.2.2.2.2.2.2.2.2.2.2.2.2.1) x.2.2.2.2.2.2.2.2.2.2.2.2.2.2.2.2.2.2.2.1 x.2.2.2.2.2.2.2.2.2.2.2.2.2.2.2.2.2.2.2.2.1 x.2.2.2.2.2.2.2.2.2.2.2.2.2.2.2.2.2.2.2.2.2.1 x.2.2.2.2.2.2.2.2.2.2.2.2.2.2.2.2.2.2.2.2.2.2.1 x.2.2.2.2.2.2.2.2.2.2.2.2.2.2.2.2.2.2.2.2.2.2.2.1 x.2.2.2.2.2.2.2.2.2.2.2.2.2.2.2.2.2.2.2.2.2.2.2.2.1 x.2.2.2.2.2.2.2.2.2.2.2.2.2.2.2.2.2.2.2.2.2.2.2.2.2.1 x.2.2.2.2.2.2.2.2.2.2.2.2.2.2.2.2.2.2.2.2.2.2.2.2.2.2.1 x.2.2.2.2.2.2.2.2.2.2.2.2.2.2.2.2.2.2.2.2.2.2.2.2.2.2.2.1 x.2.2.2.2.2.2.2.2.2.2.2.2.2.2.2.2.2.2.2.2.2.2.2.2.2.2.2.2.1 x.2.2.2.2.2.2.2.2.2.2.2.2.2.2.2.2.2.2.2.2.2.2.2.2.2.2.2.2.2.1, (fun (p1 : TStatement) (p2 : TSpent) (p3 : Int) (c0_0 : Bool) (c0_1 : Int) (c0_2 : Int) (c0_3 : List TQuestion) (w1k : List ByteArray) (w1v : List Int) (w2k : List ByteArray) (w2v : List (List Int)) (w3k : List ByteArray) (w3v : List Bool) => (c0_2 : Int)) (TStatement.mk x.1 x.2.1 x.2.2.1 x.2.2.2.1 x.2.2.2.2.1 x.2.2.2.2.2.1 x.2.2.2.2.2.2.1 x.2.2.2.2.2.2.2.1 x.2.2.2.2.2.2.2.2.1 x.2.2.2.2.2.2.2.2.2.1) (TSpent.mk x.2.2.2.2.2.2.2.2.2.2.1 x.2.2.2.2.2.2.2.2.2.2.2.1 x.2.2.2.2.2.2.2.2.2.2.2.2.1 x.2.2.2.2.2.2.2.2.2.2.2.2.2.1 x.2.2.2.2.2.2.2.2.2.2.2.2.2.2.1 x.2.2.2.2.2.2.2.2.2.2.2.2.2.2.2.1 x.2.2.2.2.2.2.2.2.2.2.2.2.2.2.2.2.1 x.2.2.2.2.2.2.2.2.2.2.2.2.2.2.2.2.2.1 x.2.2.2.2.2.2.2.2.2.2.2.2.2.2.2.2.2.2.1) x.2.2.2.2.2.2.2.2.2.2.2.2.2.2.2.2.2.2.2.1 x.2.2.2.2.2.2.2.2.2.2.2.2.2.2.2.2.2.2.2.2.1 x.2.2.2.2.2.2.2.2.2.2.2.2.2.2.2.2.2.2.2.2.2.1 x.2.2.2.2.2.2.2.2.2.2.2.2.2.2.2.2.2.2.2.2.2.2.1 x.2.2.2.2.2.2.2.2.2.2.2.2.2.2.2.2.2.2.2.2.2.2.2.1 x.2.2.2.2.2.2.2.2.2.2.2.2.2.2.2.2.2.2.2.2.2.2.2.2.1 x.2.2.2.2.2.2.2.2.2.2.2.2.2.2.2.2.2.2.2.2.2.2.2.2.2.1 x.2.2.2.2.2.2.2.2.2.2.2.2.2.2.2.2.2.2.2.2.2.2.2.2.2.2.1 x.2.2.2.2.2.2.2.2.2.2.2.2.2.2.2.2.2.2.2.2.2.2.2.2.2.2.2.1 x.2.2.2.2.2.2.2.2.2.2.2.2.2.2.2.2.2.2.2.2.2.2.2.2.2.2.2.2.1 x.2.2.2.2.2.2.2.2.2.2.2.2.2.2.2.2.2.2.2.2.2.2.2.2.2.2.2.2.2.1, (fun (p1 : TStatement) (p2 : TSpent) (p3 : Int) (c0_0 : Bool) (c0_1 : Int) (c0_2 : Int) (c0_3 : List TQuestion) (w1k : List ByteArray) (w1v : List Int) (w2k : List ByteArray) (w2v : List (List Int)) (w3k : List ByteArray) (w3v : List Bool) => (c0_3 : List TQuestion)) (TStatement.mk x.1 x.2.1 x.2.2.1 x.2.2.2.1 x.2.2.2.2.1 x.2.2.2.2.2.1 x.2.2.2.2.2.2.1 x.2.2.2.2.2.2.2.1 x.2.2.2.2.2.2.2.2.1 x.2.2.2.2.2.2.2.2.2.1) (TSpent.mk x.2.2.2.2.2.2.2.2.2.2.1 x.2.2.2.2.2.2.2.2.2.2.2.1 x.2.2.2.2.2.2.2.2.2.2.2.2.1 x.2.2.2.2.2.2.2.2.2.2.2.2.2.1 x.2.2.2.2.2.2.2.2.2.2.2.2.2.2.1 x.2.2.2.2.2.2.2.2.2.2.2.2.2.2.2.1 x.2.2.2.2.2.2.2.2.2.2.2.2.2.2.2.2.1 x.2.2.2.2.2.2.2.2.2.2.2.2.2.2.2.2.2.1 x.2.2.2.2.2.2.2.2.2.2.2.2.2.2.2.2.2.2.1) x.2.2.2.2.2.2.2.2.2.2.2.2.2.2.2.2.2.2.2.1 x.2.2.2.2.2.2.2.2.2.2.2.2.2.2.2.2.2.2.2.2.1 x.2.2.2.2.2.2.2.2.2.2.2.2.2.2.2.2.2.2.2.2.2.1 x.2.2.2.2.2.2.2.2.2.2.2.2.2.2.2.2.2.2.2.2.2.2.1 x.2.2.2.2.2.2.2.2.2.2.2.2.2.2.2.2.2.2.2.2.2.2.2.1 x.2.2.2.2.2.2.2.2.2.2.2.2.2.2.2.2.2.2.2.2.2.2.2.2.1 x.2.2.2.2.2.2.2.2.2.2.2.2.2.2.2.2.2.2.2.2.2.2.2.2.2.1 x.2.2.2.2.2.2.2.2.2.2.2.2.2.2.2.2.2.2.2.2.2.2.2.2.2.2.1 x.2.2.2.2.2.2.2.2.2.2.2.2.2.2.2.2.2.2.2.2.2.2.2.2.2.2.2.1 x.2.2.2.2.2.2.2.2.2.2.2.2.2.2.2.2.2.2.2.2.2.2.2.2.2.2.2.2.1 x.2.2.2.2.2.2.2.2.2.2.2.2.2.2.2.2.2.2.2.2.2.2.2.2.2.2.2.2.2.1, (fun (p1 : TStatement) (p2 : TSpent) (p3 : Int) (c0_0 : Bool) (c0_1 : Int) (c0_2 : Int) (c0_3 : List TQuestion) (w1k : List ByteArray) (w1v : List Int) (w2k : List ByteArray) (w2v : List (List Int)) (w3k : List ByteArray) (w3v : List Bool) => (w1k : List ByteArray)) (TStatement.mk x.1 x.2.1 x.2.2.1 x.2.2.2.1 x.2.2.2.2.1 x.2.2.2.2.2.1 x.2.2.2.2.2.2.1 x.2.2.2.2.2.2.2.1 x.2.2.2.2.2.2.2.2.1 x.2.2.2.2.2.2.2.2.2.1) (TSpent.mk x.2.2.2.2.2.2.2.2.2.2.1 x.2.2.2.2.2.2.2.2.2.2.2.1 x.2.2.2.2.2.2.2.2.2.2.2.2.1 x.2.2.2.2.2.2.2.2.2.2.2.2.2.1 x.2.2.2.2.2.2.2.2.2.2.2.2.2.2.1 x.2.2.2.2.2.2.2.2.2.2.2.2.2.2.2.1 x.2.2.2.2.2.2.2.2.2.2.2.2.2.2.2.2.1 x.2.2.2.2.2.2.2.2.2.2.2.2.2.2.2.2.2.1 x.2.2.2.2.2.2.2.2.2.2.2.2.2.2.2.2.2.2.1) x.2.2.2.2.2.2.2.2.2.2.2.2.2.2.2.2.2.2.2.1 x.2.2.2.2.2.2.2.2.2.2.2.2.2.2.2.2.2.2.2.2.1 x.2.2.2.2.2.2.2.2.2.2.2.2.2.2.2.2.2.2.2.2.2.1 x.2.2.2.2.2.2.2.2.2.2.2.2.2.2.2.2.2.2.2.2.2.2.1 x.2.2.2.2.2.2.2.2.2.2.2.2.2.2.2.2.2.2.2.2.2.2.2.1 x.2.2.2.2.2.2.2.2.2.2.2.2.2.2.2.2.2.2.2.2.2.2.2.2.1 x.2.2.2.2.2.2.2.2.2.2.2.2.2.2.2.2.2.2.2.2.2.2.2.2.2.1 x.2.2.2.2.2.2.2.2.2.2.2.2.2.2.2.2.2.2.2.2.2.2.2.2.2.2.1 x.2.2.2.2.2.2.2.2.2.2.2.2.2.2.2.2.2.2.2.2.2.2.2.2.2.2.2.1 x.2.2.2.2.2.2.2.2.2.2.2.2.2.2.2.2.2.2.2.2.2.2.2.2.2.2.2.2.1 x.2.2.2.2.2.2.2.2.2.2.2.2.2.2.2.2.2.2.2.2.2.2.2.2.2.2.2.2.2.1, (fun (p1 : TStatement) (p2 : TSpent) (p3 : Int) (c0_0 : Bool) (c0_1 : Int) (c0_2 : Int) (c0_3 : List TQuestion) (w1k : List ByteArray) (w1v : List Int) (w2k : List ByteArray) (w2v : List (List Int)) (w3k : List ByteArray) (w3v : List Bool) => (w1v : List Int)) (TStatement.mk x.1 x.2.1 x.2.2.1 x.2.2.2.1 x.2.2.2.2.1 x.2.2.2.2.2.1 x.2.2.2.2.2.2.1 x.2.2.2.2.2.2.2.1 x.2.2.2.2.2.2.2.2.1 x.2.2.2.2.2.2.2.2.2.1) (TSpent.mk x.2.2.2.2.2.2.2.2.2.2.1 x.2.2.2.2.2.2.2.2.2.2.2.1 x.2.2.2.2.2.2.2.2.2.2.2.2.1 x.2.2.2.2.2.2.2.2.2.2.2.2.2.1 x.2.2.2.2.2.2.2.2.2.2.2.2.2.2.1 x.2.2.2.2.2.2.2.2.2.2.2.2.2.2.2.1 x.2.2.2.2.2.2.2.2.2.2.2.2.2.2.2.2.1 x.2.2.2.2.2.2.2.2.2.2.2.2.2.2.2.2.2.1 x.2.2.2.2.2.2.2.2.2.2.2.2.2.2.2.2.2.2.1) x.2.2.2.2.2.2.2.2.2.2.2.2.2.2.2.2.2.2.2.1 x.2.2.2.2.2.2.2.2.2.2.2.2.2.2.2.2.2.2.2.2.1 x.2.2.2.2.2.2.2.2.2.2.2.2.2.2.2.2.2.2.2.2.2.1 x.2.2.2.2.2.2.2.2.2.2.2.2.2.2.2.2.2.2.2.2.2.2.1 x.2.2.2.2.2.2.2.2.2.2.2.2.2.2.2.2.2.2.2.2.2.2.2.1 x.2.2.2.2.2.2.2.2.2.2.2.2.2.2.2.2.2.2.2.2.2.2.2.2.1 x.2.2.2.2.2.2.2.2.2.2.2.2.2.2.2.2.2.2.2.2.2.2.2.2.2.1 x.2.2.2.2.2.2.2.2.2.2.2.2.2.2.2.2.2.2.2.2.2.2.2.2.2.2.1 x.2.2.2.2.2.2.2.2.2.2.2.2.2.2.2.2.2.2.2.2.2.2.2.2.2.2.2.1 x.2.2.2.2.2.2.2.2.2.2.2.2.2.2.2.2.2.2.2.2.2.2.2.2.2.2.2.2.1 x.2.2.2.2.2.2.2.2.2.2.2.2.2.2.2.2.2.2.2.2.2.2.2.2.2.2.2.2.2.1, (fun (p1 : TStatement) (p2 : TSpent) (p3 : Int) (c0_0 : Bool) (c0_1 : Int) (c0_2 : Int) (c0_3 : List TQuestion) (w1k : List ByteArray) (w1v : List Int) (w2k : List ByteArray) (w2v : List (List Int)) (w3k : List ByteArray) (w3v : List Bool) => (w2k : List ByteArray)) (TStatement.mk x.1 x.2.1 x.2.2.1 x.2.2.2.1 x.2.2.2.2.1 x.2.2.2.2.2.1 x.2.2.2.2.2.2.1 x.2.2.2.2.2.2.2.1 x.2.2.2.2.2.2.2.2.1 x.2.2.2.2.2.2.2.2.2.1) (TSpent.mk x.2.2.2.2.2.2.2.2.2.2.1 x.2.2.2.2.2.2.2.2.2.2.2.1 x.2.2.2.2.2.2.2.2.2.2.2.2.1 x.2.2.2.2.2.2.2.2.2.2.2.2.2.1 x.2.2.2.2.2.2.2.2.2.2.2.2.2.2.1 x.2.2.2.2.2.2.2.2.2.2.2.2.2.2.2.1 x.2.2.2.2.2.2.2.2.2.2.2.2.2.2.2.2.1 x.2.2.2.2.2.2.2.2.2.2.2.2.2.2.2.2.2.1 x.2.2.2.2.2.2.2.2.2.2.2.2.2.2.2.2.2.2.1) x.2.2.2.2.2.2.2.2.2.2.2.2.2.2.2.2.2.2.2.1 x.2.2.2.2.2.2.2.2.2.2.2.2.2.2.2.2.2.2.2.2.1 x.2.2.2.2.2.2.2.2.2.2.2.2.2.2.2.2.2.2.2.2.2.1 x.2.2.2.2.2.2.2.2.2.2.2.2.2.2.2.2.2.2.2.2.2.2.1 x.2.2.2.2.2.2.2.2.2.2.2.2.2.2.2.2.2.2.2.2.2.2.2.1 x.2.2.2.2.2.2.2.2.2.2.2.2.2.2.2.2.2.2.2.2.2.2.2.2.1 x.2.2.2.2.2.2.2.2.2.2.2.2.2.2.2.2.2.2.2.2.2.2.2.2.2.1 x.2.2.2.2.2.2.2.2.2.2.2.2.2.2.2.2.2.2.2.2.2.2.2.2.2.2.1 x.2.2.2.2.2.2.2.2.2.2.2.2.2.2.2.2.2.2.2.2.2.2.2.2.2.2.2.1 x.2.2.2.2.2.2.2.2.2.2.2.2.2.2.2.2.2.2.2.2.2.2.2.2.2.2.2.2.1 x.2.2.2.2.2.2.2.2.2.2.2.2.2.2.2.2.2.2.2.2.2.2.2.2.2.2.2.2.2.1, (fun (p1 : TStatement) (p2 : TSpent) (p3 : Int) (c0_0 : Bool) (c0_1 : Int) (c0_2 : Int) (c0_3 : List TQuestion) (w1k : List ByteArray) (w1v : List Int) (w2k : List ByteArray) (w2v : List (List Int)) (w3k : List ByteArray) (w3v : List Bool) => (w2v : List (List Int))) (TStatement.mk x.1 x.2.1 x.2.2.1 x.2.2.2.1 x.2.2.2.2.1 x.2.2.2.2.2.1 x.2.2.2.2.2.2.1 x.2.2.2.2.2.2.2.1 x.2.2.2.2.2.2.2.2.1 x.2.2.2.2.2.2.2.2.2.1) (TSpent.mk x.2.2.2.2.2.2.2.2.2.2.1 x.2.2.2.2.2.2.2.2.2.2.2.1 x.2.2.2.2.2.2.2.2.2.2.2.2.1 x.2.2.2.2.2.2.2.2.2.2.2.2.2.1 x.2.2.2.2.2.2.2.2.2.2.2.2.2.2.1 x.2.2.2.2.2.2.2.2.2.2.2.2.2.2.2.1 x.2.2.2.2.2.2.2.2.2.2.2.2.2.2.2.2.1 x.2.2.2.2.2.2.2.2.2.2.2.2.2.2.2.2.2.1 x.2.2.2.2.2.2.2.2.2.2.2.2.2.2.2.2.2.2.1) x.2.2.2.2.2.2.2.2.2.2.2.2.2.2.2.2.2.2.2.1 x.2.2.2.2.2.2.2.2.2.2.2.2.2.2.2.2.2.2.2.2.1 x.2.2.2.2.2.2.2.2.2.2.2.2.2.2.2.2.2.2.2.2.2.1 x.2.2.2.2.2.2.2.2.2.2.2.2.2.2.2.2.2.2.2.2.2.2.1 x.2.2.2.2.2.2.2.2.2.2.2.2.2.2.2.2.2.2.2.2.2.2.2.1 x.2.2.2.2.2.2.2.2.2.2.2.2.2.2.2.2.2.2.2.2.2.2.2.2.1 x.2.2.2.2.2.2.2.2.2.2.2.2.2.2.2.2.2.2.2.2.2.2.2.2.2.1 x.2.2.2.2.2.2.2.2.2.2.2.2.2.2.2.2.2.2.2.2.2.2.2.2.2.2.1 x.2.2.2.2.2.2.2.2.2.2.2.2.2.2.2.2.2.2.2.2.2.2.2.2.2.2.2.1 x.2.2.2.2.2.2.2.2.2.2.2.2.2.2.2.2.2.2.2.2.2.2.2.2.2.2.2.2.1 x.2.2.2.2.2.2.2.2.2.2.2.2.2.2.2.2.2.2.2.2.2.2.2.2.2.2.2.2.2.1, (fun (p1 : TStatement) (p2 : TSpent) (p3 : Int) (c0_0 : Bool) (c0_1 : Int) (c0_2 : Int) (c0_3 : List TQuestion) (w1k : List ByteArray) (w1v : List Int) (w2k : List ByteArray) (w2v : List (List Int)) (w3k : List ByteArray) (w3v : List Bool) => (w3k : List ByteArray)) (TStatement.mk x.1 x.2.1 x.2.2.1 x.2.2.2.1 x.2.2.2.2.1 x.2.2.2.2.2.1 x.2.2.2.2.2.2.1 x.2.2.2.2.2.2.2.1 x.2.2.2.2.2.2.2.2.1 x.2.2.2.2.2.2.2.2.2.1) (TSpent.mk x.2.2.2.2.2.2.2.2.2.2.1 x.2.2.2.2.2.2.2.2.2.2.2.1 x.2.2.2.2.2.2.2.2.2.2.2.2.1 x.2.2.2.2.2.2.2.2.2.2.2.2.2.1 x.2.2.2.2.2.2.2.2.2.2.2.2.2.2.1 x.2.2.2.2.2.2.2.2.2.2.2.2.2.2.2.1 x.2.2.2.2.2.2.2.2.2.2.2.2.2.2.2.2.1 x.2.2.2.2.2.2.2.2.2.2.2.2.2.2.2.2.2.1 x.2.2.2.2.2.2.2.2.2.2.2.2.2.2.2.2.2.2.1) x.2.2.2.2.2.2.2.2.2.2.2.2.2.2.2.2.2.2.2.1 x.2.2.2.2.2.2.2.2.2.2.2.2.2.2.2.2.2.2.2.2.1 x.2.2.2.2.2.2.2.2.2.2.2.2.2.2.2.2.2.2.2.2.2.1 x.2.2.2.2.2.2.2.2.2.2.2.2.2.2.2.2.2.2.2.2.2.2.1 x.2.2.2.2.2.2.2.2.2.2.2.2.2.2.2.2.2.2.2.2.2.2.2.1 x.2.2.2.2.2.2.2.2.2.2.2.2.2.2.2.2.2.2.2.2.2.2.2.2.1 x.2.2.2.2.2.2.2.2.2.2.2.2.2.2.2.2.2.2.2.2.2.2.2.2.2.1 x.2.2.2.2.2.2.2.2.2.2.2.2.2.2.2.2.2.2.2.2.2.2.2.2.2.2.1 x.2.2.2.2.2.2.2.2.2.2.2.2.2.2.2.2.2.2.2.2.2.2.2.2.2.2.2.1 x.2.2.2.2.2.2.2.2.2.2.2.2.2.2.2.2.2.2.2.2.2.2.2.2.2.2.2.2.1 x.2.2.2.2.2.2.2.2.2.2.2.2.2.2.2.2.2.2.2.2.2.2.2.2.2.2.2.2.2.1, (fun (p1 : TStatement) (p2 : TSpent) (p3 : Int) (c0_0 : Bool) (c0_1 : Int) (c0_2 : Int) (c0_3 : List TQuestion) (w1k : List ByteArray) (w1v : List Int) (w2k : List ByteArray) (w2v : List (List Int)) (w3k : List ByteArray) (w3v : List Bool) => (w3v : List Bool)) (TStatement.mk x.1 x.2.1 x.2.2.1 x.2.2.2.1 x.2.2.2.2.1 x.2.2.2.2.2.1 x.2.2.2.2.2.2.1 x.2.2.2.2.2.2.2.1 x.2.2.2.2.2.2.2.2.1 x.2.2.2.2.2.2.2.2.2.1) (TSpent.mk x.2.2.2.2.2.2.2.2.2.2.1 x.2.2.2.2.2.2.2.2.2.2.2.1 x.2.2.2.2.2.2.2.2.2.2.2.2.1 x.2.2.2.2.2.2.2.2.2.2.2.2.2.1 x.2.2.2.2.2.2.2.2.2.2.2.2.2.2.1 x.2.2.2.2.2.2.2.2.2.2.2.2.2.2.2.1 x.2.2.2.2.2.2.2.2.2.2.2.2.2.2.2.2.1 x.2.2.2.2.2.2.2.2.2.2.2.2.2.2.2.2.2.1 x.2.2.2.2.2.2.2.2.2.2.2.2.2.2.2.2.2.2.1) x.2.2.2.2.2.2.2.2.2.2.2.2.2.2.2.2.2.2.2.1 x.2.2.2.2.2.2.2.2.2.2.2.2.2.2.2.2.2.2.2.2.1 x.2.2.2.2.2.2.2.2.2.2.2.2.2.2.2.2.2.2.2.2.2.1 x.2.2.2.2.2.2.2.2.2.2.2.2.2.2.2.2.2.2.2.2.2.2.1 x.2.2.2.2.2.2.2.2.2.2.2.2.2.2.2.2.2.2.2.2.2.2.2.1 x.2.2.2.2.2.2.2.2.2.2.2.2.2.2.2.2.2.2.2.2.2.2.2.2.1 x.2.2.2.2.2.2.2.2.2.2.2.2.2.2.2.2.2.2.2.2.2.2.2.2.2.1 x.2.2.2.2.2.2.2.2.2.2.2.2.2.2.2.2.2.2.2.2.2.2.2.2.2.2.1 x.2.2.2.2.2.2.2.2.2.2.2.2.2.2.2.2.2.2.2.2.2.2.2.2.2.2.2.1 x.2.2.2.2.2.2.2.2.2.2.2.2.2.2.2.2.2.2.2.2.2.2.2.2.2.2.2.2.1 x.2.2.2.2.2.2.2.2.2.2.2.2.2.2.2.2.2.2.2.2.2.2.2.2.2.2.2.2.2.1, ())
theorem kqm : kem.Ok Try.prog TB := Con.ok_fn kw bd33 fun x h => kp2 (kns (TStatement.mk x.1 x.2.1 x.2.2.1 x.2.2.2.1 x.2.2.2.2.1 x.2.2.2.2.2.1 x.2.2.2.2.2.2.1 x.2.2.2.2.2.2.2.1 x.2.2.2.2.2.2.2.2.1 x.2.2.2.2.2.2.2.2.2.1) (TSpent.mk x.2.2.2.2.2.2.2.2.2.2.1 x.2.2.2.2.2.2.2.2.2.2.2.1 x.2.2.2.2.2.2.2.2.2.2.2.2.1 x.2.2.2.2.2.2.2.2.2.2.2.2.2.1 x.2.2.2.2.2.2.2.2.2.2.2.2.2.2.1 x.2.2.2.2.2.2.2.2.2.2.2.2.2.2.2.1 x.2.2.2.2.2.2.2.2.2.2.2.2.2.2.2.2.1 x.2.2.2.2.2.2.2.2.2.2.2.2.2.2.2.2.2.1 x.2.2.2.2.2.2.2.2.2.2.2.2.2.2.2.2.2.2.1) x.2.2.2.2.2.2.2.2.2.2.2.2.2.2.2.2.2.2.2.1 x.2.2.2.2.2.2.2.2.2.2.2.2.2.2.2.2.2.2.2.2.1 x.2.2.2.2.2.2.2.2.2.2.2.2.2.2.2.2.2.2.2.2.2.1 x.2.2.2.2.2.2.2.2.2.2.2.2.2.2.2.2.2.2.2.2.2.2.1 x.2.2.2.2.2.2.2.2.2.2.2.2.2.2.2.2.2.2.2.2.2.2.2.1 x.2.2.2.2.2.2.2.2.2.2.2.2.2.2.2.2.2.2.2.2.2.2.2.2.1 x.2.2.2.2.2.2.2.2.2.2.2.2.2.2.2.2.2.2.2.2.2.2.2.2.2.1 x.2.2.2.2.2.2.2.2.2.2.2.2.2.2.2.2.2.2.2.2.2.2.2.2.2.2.1 x.2.2.2.2.2.2.2.2.2.2.2.2.2.2.2.2.2.2.2.2.2.2.2.2.2.2.2.1 x.2.2.2.2.2.2.2.2.2.2.2.2.2.2.2.2.2.2.2.2.2.2.2.2.2.2.2.2.1 x.2.2.2.2.2.2.2.2.2.2.2.2.2.2.2.2.2.2.2.2.2.2.2.2.2.2.2.2.2.1 h)
end Go.Proofs.Ytpffhgljgpjenaa
namespace Go.Proofs.Ytpffhgljgpjenaa
open Go Go.Bv Go.Cv Go.Md Go.RowKit
def kg : Con TB.den := Con.mk0 15 [.one (.ptr 0 0), .agg [.d (.int .i64), .d (.int .u64), .d (.sl (.int .u64)), .d (.sl (.int .u64)), .d (.sl (.int .u64)), .d (.int .u64), .d (.int .u64), .d (.int .u64), .d (.int .u64), .d (.int .u64)], .agg [.d (.sl (.st 0)), .d (.sl (.st 1)), .d (.int .u64)]] [.cells [.d (.bool), .d (.int .u64), .d (.int .i64), .d (.sl (.st 3)), .mp 1, .mp 2, .mp 3], .map (.str) (.int .i64), .map (.str) (.sl (.int .u64)), .map (.str) (.bool)] (.one (.one (.d (.int .i64)))) [.cells [.d (.bool), .d (.int .u64), .d (.int .i64), .d (.sl (.st 3)), .mp 1, .mp 2, .mp 3], .map (.str) (.int .i64), .map (.str) (.sl (.int .u64)), .map (.str) (.bool)]
abbrev kj4 := HL TB.den (hsT kg.ins (hsOs kg.pre))
abbrev k17 := HL TB.den (hsV kg.res (hsOs kg.post))
noncomputable def k16 : Cx TB := ⟨inf, [kb5, kem, ka3, kja, k7n, k6y], [], 4⟩
noncomputable def k3e : Code := Try.f15.body.getD .skip
noncomputable def k3x : List ResultVar := Try.f15.results.toList
def k5w : Tm := ⟨[0, 1, 2, 3, 4, 5], [.cells [.d (.bool), .d (.int .u64), .d (.int .i64), .d (.sl (.st 3)), .mp 1, .mp 2, .mp 3], .map (.str) (.int .i64), .map (.str) (.sl (.int .u64)), .map (.str) (.bool), .cells [.d (.int .i64), .d (.int .u64), .d (.sl (.int .u64)), .d (.sl (.int .u64)), .d (.sl (.int .u64)), .d (.int .u64), .d (.int .u64), .d (.int .u64), .d (.int .u64), .d (.int .u64)], .cells [.d (.sl (.st 0)), .d (.sl (.st 1)), .d (.int .u64)]], [4, 5], [.one (.ptr 4 0), .one (.ptr 5 0)], 50⟩
noncomputable def kh9 (o : k17) (i : HL TB.den k5w.hs) : Prop := ghs TB [] (k5w.fill TB i) fun s => WP TB k16 100 4 (cB (cB (cB (cB (cB k3e))))) .no s (retTQ TB k16 kg k3x o)
structure k4i (o : k17) (i : HL TB.den k5w.hs) : Prop where
  h : kh9 o i
noncomputable def kur (o : k17) : Exit → TSt TB.den → Prop := thenT TB (fun s => ghs TB [] s fun s => WP TB k16 100 4 (cB (cB (cB (cB k3e)))) (.jn k5w (k4i o) [] .no [] .no) s (retTQ TB k16 kg k3x o)) (retTQ TB k16 kg k3x o)
def k4j : Tm := ⟨[0, 1, 2, 3, 4, 5], [.cells [.d (.bool), .d (.int .u64), .d (.int .i64), .d (.sl (.st 3)), .mp 1, .mp 2, .mp 3], .map (.str) (.int .i64), .map (.str) (.sl (.int .u64)), .map (.str) (.bool), .cells [.d (.int .i64), .d (.int .u64), .d (.sl (.int .u64)), .d (.sl (.int .u64)), .d (.sl (.int .u64)), .d (.int .u64), .d (.int .u64), .d (.int .u64), .d (.int .u64), .d (.int .u64)], .cells [.d (.sl (.st 0)), .d (.sl (.st 1)), .d (.int .u64)]], [0, 4, 5, 40, 41, 42], [.one (.ptr 0 0), .one (.ptr 4 0), .one (.ptr 5 0), .one (.d (.sl (.st 1))), .one (.d (.int .i64)), .one (.d (.int .i64))], 6⟩
noncomputable def kul (o : k17) (nx2 : HL TB.den k4j.hs → Prop) : Exit → TSt TB.den → Prop := thenT TB (fun s => k4j.mat TB 4 s nx2) (blockT TB 2 (kur o))
noncomputable def k6s (o : k17) (nx2 : HL TB.den k4j.hs → Prop) (i : HL TB.den k4j.hs) : Prop := WP TB k16 100 4 (cA (cA (cB (cA (cB (cB (cB k3e))))))) .no (k4j.fill TB i) (kul o nx2)
noncomputable def kub (o : k17) : An TB := .lp [] k4j (k6s o) fun nx2 => .no
noncomputable def kii (o : k17) : An TB := .nd [] (.nd [] .no [] (kub o)) [] (.jn k5w (k4i o) [] .no [] .no)
noncomputable def ku4 (o : k17) : Exit → TSt TB.den → Prop := thenT TB (fun s => ghs TB [] s fun s => WP TB k16 100 4 (cB (cB (cB k3e))) (kii o) s (retTQ TB k16 kg k3x o)) (retTQ TB k16 kg k3x o)
def k4g : Tm := ⟨[0, 1, 2, 3, 4, 5], [.cells [.d (.bool), .d (.int .u64), .d (.int .i64), .d (.sl (.st 3)), .mp 1, .mp 2, .mp 3], .map (.str) (.int .i64), .map (.str) (.sl (.int .u64)), .map (.str) (.bool), .cells [.d (.int .i64), .d (.int .u64), .d (.sl (.int .u64)), .d (.sl (.int .u64)), .d (.sl (.int .u64)), .d (.int .u64), .d (.int .u64), .d (.int .u64), .d (.int .u64), .d (.int .u64)], .cells [.d (.sl (.st 0)), .d (.sl (.st 1)), .d (.int .u64)]], [0, 4, 5, 19, 20, 21], [.one (.ptr 0 0), .one (.ptr 4 0), .one (.ptr 5 0), .one (.d (.sl (.st 0))), .one (.d (.int .i64)), .one (.d (.int .i64))], 6⟩
noncomputable def kru (o : k17) (nx1 : HL TB.den k4g.hs → Prop) : Exit → TSt TB.den → Prop := thenT TB (fun s => k4g.mat TB 4 s nx1) (blockT TB 0 (ku4 o))
noncomputable def k6j (o : k17) (nx1 : HL TB.den k4g.hs → Prop) (i : HL TB.den k4g.hs) : Prop := WP TB k16 100 4 (cA (cA (cB (cA (cB (cB k3e)))))) .no (k4g.fill TB i) (kru o nx1)
noncomputable def kt9 (o : k17) : An TB := .lp [] k4g (k6j o) fun nx1 => .no
noncomputable def ksr (o : k17) : An TB := .nd [] (.nd [] .no [] (kt9 o)) [] (kii o)
noncomputable def kif (o : k17) : An TB := .nd [] .no [] (.nd [] .no [] (ksr o))
noncomputable def ka7 (x : kj4) (o : k17) : Prop := WPh TB k16 100 4 k3e (kif o) (kg.st TB x) (retTQ TB k16 kg k3x o)
set_option maxRecDepth 100000 in
theorem ks7 (o : k17) : OblH TB k16 100 4 k3e (kif o) (retTQ TB k16 kg k3x o) :=
  OblH.of_eq (X := (True ∧ ((True ∧ ((True ∧ True) ∧ True)) ∧ ((True ∧ ((∀ nx i, (k6j o) nx i = (k6j o) nx i) ∧ ∀ nx1 : HL TB.den k4g.hs → Prop, (True ∧ ((True ∧ True) ∧ ((True ∧ (True ∧ (True ∧ ((True ∧ True) ∧ True)))) ∧ True))))) ∧ ((True ∧ ((∀ nx i, (k6s o) nx i = (k6s o) nx i) ∧ ∀ nx2 : HL TB.den k4j.hs → Prop, (True ∧ ((True ∧ True) ∧ ((True ∧ (True ∧ (True ∧ ((True ∧ True) ∧ True)))) ∧ True))))) ∧ ((True ∧ ((True ∧ True) ∧ True)) ∧ (∀ i, (k4i o) i = (kh9 o) i) ∧ ((True ∧ ((True ∧ True) ∧ True)) ∧ (True ∧ True)))))))) (by kernel_rfl) ⟨trivial, ⟨⟨trivial, ⟨⟨trivial, trivial⟩, trivial⟩⟩, ⟨⟨trivial, ⟨fun _ _ => rfl, fun _ => ⟨trivial, ⟨⟨trivial, trivial⟩, ⟨⟨trivial, ⟨trivial, ⟨trivial, ⟨⟨trivial, trivial⟩, trivial⟩⟩⟩⟩, trivial⟩⟩⟩⟩⟩, ⟨⟨trivial, ⟨fun _ _ => rfl, fun _ => ⟨trivial, ⟨⟨trivial, trivial⟩, ⟨⟨trivial, ⟨trivial, ⟨trivial, ⟨⟨trivial, trivial⟩, trivial⟩⟩⟩⟩, trivial⟩⟩⟩⟩⟩, ⟨⟨trivial, ⟨⟨trivial, trivial⟩, trivial⟩⟩, fun _ => propext ⟨fun h => h.1, fun h => ⟨h⟩⟩, ⟨⟨trivial, ⟨⟨trivial, trivial⟩, trivial⟩⟩, ⟨trivial, trivial⟩⟩⟩⟩⟩⟩⟩
set_option maxRecDepth 100000 in
theorem kss {x : kj4} {o : k17} (h : ka7 x o) : SoundH Try.prog kg.f ((kg.args idf x).map (er TB)) ((kg.obs idf x).map (erO TB)) (er TB (kg.val idf o)) ((kg.ops idf o).map (erO TB)) :=
  Con.soundH (c := kg) (C := k16) TBok ⟨inf_ok, (all_cons ki1 (all_cons kqm (all_cons kh4 (all_cons kxx (all_cons kam (all_cons kaa all_nil)))))), all_nil⟩ mix Try.func15 (show Try.f15.body = some k3e by kernel_rfl) (show Try.f15.ntmps = 100 by kernel_rfl) (show Try.f15.results.toList = k3x by kernel_rfl) rfl h (ks7 o)
set_option maxRecDepth 100000 in
theorem kty {p1 : TStatement} {p2 : TWitness} {c0_0 : Bool} {c0_1 : Int} {c0_2 : Int} {c0_3 : List TQuestion} {w1k : List ByteArray} {w1v : List Int} {w2k : List ByteArray} {w2v : List (List Int)} {w3k : List ByteArray} {w3v : List Bool} {r0 : Int} {d0_0 : Bool} {d0_1 : Int} {d0_2 : Int} {d0_3 : List TQuestion} {e1k : List ByteArray} {e1v : List Int} {e2k : List ByteArray} {e2v : List (List Int)} {e3k : List ByteArray} {e3v : List Bool} (h :
((SR p1 ∧ WR p2) ∧ ((!(relV p1 p2)) = true →
 1 = r0 ∧ c0_0 = d0_0 ∧ c0_1 = d0_1 ∧ c0_2 = d0_2 ∧ c0_3 = d0_3 ∧ w1k = e1k ∧ w1v = e1v ∧ w2k = e2k ∧ w2v = e2v ∧ w3k = e3k ∧ w3v = e3v) ∧
((!(relV p1 p2)) = false →
 Md.Loop (p2.Ins, ((p2.Ins.length : Int) : Int), (0 : Int), c0_0, c0_1, c0_2, c0_3, p1.Depth, p1.Anchor, p1.Marks, p1.Commits, p1.Rhos, p1.Deposit, p1.Withdraw, p1.Fee, p1.Account, p1.Bind, p2.Ins, p2.Outs, p2.Secret, w1k, w1v, w2k, w2v, w3k, w3v, ()) (k6j (r0, d0_0, d0_1, d0_2, d0_3, e1k, e1v, e2k, e2v, e3k, e3v, ()))))) : ka7 (p1.Depth, p1.Anchor, p1.Marks, p1.Commits, p1.Rhos, p1.Deposit, p1.Withdraw, p1.Fee, p1.Account, p1.Bind, p2.Ins, p2.Outs, p2.Secret, c0_0, c0_1, c0_2, c0_3, w1k, w1v, w2k, w2v, w3k, w3v, ()) (r0, d0_0, d0_1, d0_2, d0_3, e1k, e1v, e2k, e2v, e3k, e3v, ()) := WPh.of_eq (by kernel_rfl) h
set_option maxRecDepth 100000 in
theorem ko4 {r0 : Int} {d0_0 : Bool} {d0_1 : Int} {d0_2 : Int} {d0_3 : List TQuestion} {e1k : List ByteArray} {e1v : List Int} {e2k : List ByteArray} {e2v : List (List Int)} {e3k : List ByteArray} {e3v : List Bool} {h0_0 : Bool} {h0_1 : Int} {h0_2 : Int} {h0_3 : List TQuestion} {h4_0 : Int} {h4_1 : Int} {h4_2 : List Int} {h4_3 : List Int} {h4_4 : List Int} {h4_5 : Int} {h4_6 : Int} {h4_7 : Int} {h4_8 : Int} {h4_9 : Int} {h5_0 : List TSpent} {h5_1 : List TNote} {h5_2 : Int} {g1k : List ByteArray} {g1v : List Int} {g2k : List ByteArray} {g2v : List (List Int)} {g3k : List ByteArray} {g3v : List Bool} (h :
(((TWitness.mk h5_0 h5_1 h5_2).Ins.length ≤ 9223372036854775807) ∧ let v4 : Int := IntKind.u64.wrap ((inS (TWitness.mk h5_0 h5_1 h5_2).Ins) + h4_5)
((TWitness.mk h5_0 h5_1 h5_2).Outs.length ≤ 9223372036854775807) ∧ let v5 : Int := IntKind.u64.wrap ((outS (TWitness.mk h5_0 h5_1 h5_2).Outs) + h4_6)
((v4 != (IntKind.u64.wrap (v5 + h4_7))) = true →
 13 = r0 ∧ h0_0 = d0_0 ∧ h0_1 = d0_1 ∧ h0_2 = d0_2 ∧ h0_3 = d0_3 ∧ g1k = e1k ∧ g1v = e1v ∧ g2k = e2k ∧ g2v = e2v ∧ g3k = e3k ∧ g3v = e3v) ∧
((v4 != (IntKind.u64.wrap (v5 + h4_7))) = false →
 0 = r0 ∧ h0_0 = d0_0 ∧ h0_1 = d0_1 ∧ h0_2 = d0_2 ∧ h0_3 = d0_3 ∧ g1k = e1k ∧ g1v = e1v ∧ g2k = e2k ∧ g2v = e2v ∧ g3k = e3k ∧ g3v = e3v))) : k4i (r0, d0_0, d0_1, d0_2, d0_3, e1k, e1v, e2k, e2v, e3k, e3v, ()) (h0_0, h0_1, h0_2, h0_3, h4_0, h4_1, h4_2, h4_3, h4_4, h4_5, h4_6, h4_7, h4_8, h4_9, h5_0, h5_1, h5_2, g1k, g1v, g2k, g2v, g3k, g3v, ()) := ⟨mpr_of (by kernel_rfl) h⟩
def kik (r0 : Int) (d0_0 : Bool) (d0_1 : Int) (d0_2 : Int) (d0_3 : List TQuestion) (e1k : List ByteArray) (e1v : List Int) (e2k : List ByteArray) (e2v : List (List Int)) (e3k : List ByteArray) (e3v : List Bool) (k1 : Int → Prop) (s19 : List TSpent) (s20 : Int) (h0_0 : Bool) (h0_1 : Int) (h0_2 : Int) (h0_3 : List TQuestion) (h4_0 : Int) (h4_1 : Int) (h4_2 : List Int) (h4_3 : List Int) (h4_4 : List Int) (h4_5 : Int) (h4_6 : Int) (h4_7 : Int) (h4_8 : Int) (h4_9 : Int) (h5_0 : List TSpent) (h5_1 : List TNote) (h5_2 : Int) (g1k : List ByteArray) (g1v : List Int) (g2k : List ByteArray) (g2v : List (List Int)) (g3k : List ByteArray) (g3v : List Bool) (s21 : Int) : Prop :=
(decide (s21 < s20) = true →
(0 ≤ s21) ∧ s21 < (s19.length : Int) ∧ (0 ≤ s21) ∧ s21 < (h4_2.length : Int) ∧ (PR (ix s19 s21) ∧ OrOk g1k g1v h0_3 ∧ (∀ l a, (pk h0_0 h0_3 g1k g1v) l a = none ∨ ∃ n, (pk h0_0 h0_3 g1k g1v) l a = some n ∧ U64 n)) ∧ let r1 : Int := (inE (pk h0_0 h0_3 g1k g1v) (TStatement.mk h4_0 h4_1 h4_2 h4_3 h4_4 h4_5 h4_6 h4_7 h4_8 h4_9).Anchor (ix h4_2 s21) (ix s19 s21))
((r1 != 0) = true →
 r1 = r0 ∧ h0_0 = d0_0 ∧ h0_1 = d0_1 ∧ h0_2 = d0_2 ∧ h0_3 = d0_3 ∧ g1k = e1k ∧ g1v = e1v ∧ g2k = e2k ∧ g2v = e2v ∧ g3k = e3k ∧ g3v = e3v) ∧
((r1 != 0) = false →
 k1 (IntKind.i64.wrap (s21 + 1) : Int))) ∧
(decide (s21 < s20) = false →
 Md.Loop (h5_1, ((h5_1.length : Int) : Int), (0 : Int), h0_0, h0_1, h0_2, h0_3, h4_0, h4_1, h4_2, h4_3, h4_4, h4_5, h4_6, h4_7, h4_8, h4_9, h5_0, h5_1, h5_2, g1k, g1v, g2k, g2v, g3k, g3v, ()) (k6s (r0, d0_0, d0_1, d0_2, d0_3, e1k, e1v, e2k, e2v, e3k, e3v, ())))
set_option maxRecDepth 100000 in
theorem krr {r0 : Int} {d0_0 : Bool} {d0_1 : Int} {d0_2 : Int} {d0_3 : List TQuestion} {e1k : List ByteArray} {e1v : List Int} {e2k : List ByteArray} {e2v : List (List Int)} {e3k : List ByteArray} {e3v : List Bool} {s19 : List TSpent} {s20 : Int} {h0_0 : Bool} {h0_1 : Int} {h0_2 : Int} {h0_3 : List TQuestion} {h4_0 : Int} {h4_1 : Int} {h4_2 : List Int} {h4_3 : List Int} {h4_4 : List Int} {h4_5 : Int} {h4_6 : Int} {h4_7 : Int} {h4_8 : Int} {h4_9 : Int} {h5_0 : List TSpent} {h5_1 : List TNote} {h5_2 : Int} {g1k : List ByteArray} {g1v : List Int} {g2k : List ByteArray} {g2v : List (List Int)} {g3k : List ByteArray} {g3v : List Bool} {s21 : Int} (inv : Int → Prop) (μ : Int → Nat) (h0 : inv s21) (hs : ∀ (s21 : Int), inv s21 → kik r0 d0_0 d0_1 d0_2 d0_3 e1k e1v e2k e2v e3k e3v (fun s21q => inv s21q ∧ μ s21q < μ s21) s19 s20 h0_0 h0_1 h0_2 h0_3 h4_0 h4_1 h4_2 h4_3 h4_4 h4_5 h4_6 h4_7 h4_8 h4_9 h5_0 h5_1 h5_2 g1k g1v g2k g2v g3k g3v s21) : Md.Loop (s19, s20, s21, h0_0, h0_1, h0_2, h0_3, h4_0, h4_1, h4_2, h4_3, h4_4, h4_5, h4_6, h4_7, h4_8, h4_9, h5_0, h5_1, h5_2, g1k, g1v, g2k, g2v, g3k, g3v, ()) (k6j (r0, d0_0, d0_1, d0_2, d0_3, e1k, e1v, e2k, e2v, e3k, e3v, ())) :=
  ⟨⟨fun s : (List TSpent) × Int × Int × Bool × Int × Int × (List TQuestion) × Int × Int × (List Int) × (List Int) × (List Int) × Int × Int × Int × Int × Int × (List TSpent) × (List TNote) × Int × (List ByteArray) × (List Int) × (List ByteArray) × (List (List Int)) × (List ByteArray) × (List Bool) × Unit => (s.1 = s19 ∧ s.2.1 = s20 ∧ s.2.2.2.1 = h0_0 ∧ s.2.2.2.2.1 = h0_1 ∧ s.2.2.2.2.2.1 = h0_2 ∧ s.2.2.2.2.2.2.1 = h0_3 ∧ s.2.2.2.2.2.2.2.1 = h4_0 ∧ s.2.2.2.2.2.2.2.2.1 = h4_1 ∧ s.2.2.2.2.2.2.2.2.2.1 = h4_2 ∧ s.2.2.2.2.2.2.2.2.2.2.1 = h4_3 ∧ s.2.2.2.2.2.2.2.2.2.2.2.1 = h4_4 ∧ s.2.2.2.2.2.2.2.2.2.2.2.2.1 = h4_5 ∧ s.2.2.2.2.2.2.2.2.2.2.2.2.2.1 = h4_6 ∧ s.2.2.2.2.2.2.2.2.2.2.2.2.2.2.1 = h4_7 ∧ s.2.2.2.2.2.2.2.2.2.2.2.2.2.2.2.1 = h4_8 ∧ s.2.2.2.2.2.2.2.2.2.2.2.2.2.2.2.2.1 = h4_9 ∧ s.2.2.2.2.2.2.2.2.2.2.2.2.2.2.2.2.2.1 = h5_0 ∧ s.2.2.2.2.2.2.2.2.2.2.2.2.2.2.2.2.2.2.1 = h5_1 ∧ s.2.2.2.2.2.2.2.2.2.2.2.2.2.2.2.2.2.2.2.1 = h5_2 ∧ s.2.2.2.2.2.2.2.2.2.2.2.2.2.2.2.2.2.2.2.2.1 = g1k ∧ s.2.2.2.2.2.2.2.2.2.2.2.2.2.2.2.2.2.2.2.2.2.1 = g1v ∧ s.2.2.2.2.2.2.2.2.2.2.2.2.2.2.2.2.2.2.2.2.2.2.1 = g2k ∧ s.2.2.2.2.2.2.2.2.2.2.2.2.2.2.2.2.2.2.2.2.2.2.2.1 = g2v ∧ s.2.2.2.2.2.2.2.2.2.2.2.2.2.2.2.2.2.2.2.2.2.2.2.2.1 = g3k ∧ s.2.2.2.2.2.2.2.2.2.2.2.2.2.2.2.2.2.2.2.2.2.2.2.2.2.1 = g3v) ∧ inv s.2.2.1, fun s : (List TSpent) × Int × Int × Bool × Int × Int × (List TQuestion) × Int × Int × (List Int) × (List Int) × (List Int) × Int × Int × Int × Int × Int × (List TSpent) × (List TNote) × Int × (List ByteArray) × (List Int) × (List ByteArray) × (List (List Int)) × (List ByteArray) × (List Bool) × Unit => μ s.2.2.1, ⟨⟨rfl, rfl, rfl, rfl, rfl, rfl, rfl, rfl, rfl, rfl, rfl, rfl, rfl, rfl, rfl, rfl, rfl, rfl, rfl, rfl, rfl, rfl, rfl, rfl, rfl⟩, h0⟩, fun (s19p, s20p, s21p, h0_0p, h0_1p, h0_2p, h0_3p, h4_0p, h4_1p, h4_2p, h4_3p, h4_4p, h4_5p, h4_6p, h4_7p, h4_8p, h4_9p, h5_0p, h5_1p, h5_2p, g1kp, g1vp, g2kp, g2vp, g3kp, g3vp, ()) ⟨⟨eq0, eq1, eq2, eq3, eq4, eq5, eq6, eq7, eq8, eq9, eq10, eq11, eq12, eq13, eq14, eq15, eq16, eq17, eq18, eq19, eq20, eq21, eq22, eq23, eq24⟩, hi⟩ => by
    have eq0 : s19p = s19 := eq0; subst s19p; have eq1 : s20p = s20 := eq1; subst s20p; have eq2 : h0_0p = h0_0 := eq2; subst h0_0p; have eq3 : h0_1p = h0_1 := eq3; subst h0_1p; have eq4 : h0_2p = h0_2 := eq4; subst h0_2p; have eq5 : h0_3p = h0_3 := eq5; subst h0_3p; have eq6 : h4_0p = h4_0 := eq6; subst h4_0p; have eq7 : h4_1p = h4_1 := eq7; subst h4_1p; have eq8 : h4_2p = h4_2 := eq8; subst h4_2p; have eq9 : h4_3p = h4_3 := eq9; subst h4_3p; have eq10 : h4_4p = h4_4 := eq10; subst h4_4p; have eq11 : h4_5p = h4_5 := eq11; subst h4_5p; have eq12 : h4_6p = h4_6 := eq12; subst h4_6p; have eq13 : h4_7p = h4_7 := eq13; subst h4_7p; have eq14 : h4_8p = h4_8 := eq14; subst h4_8p; have eq15 : h4_9p = h4_9 := eq15; subst h4_9p; have eq16 : h5_0p = h5_0 := eq16; subst h5_0p; have eq17 : h5_1p = h5_1 := eq17; subst h5_1p; have eq18 : h5_2p = h5_2 := eq18; subst h5_2p; have eq19 : g1kp = g1k := eq19; subst g1kp; have eq20 : g1vp = g1v := eq20; subst g1vp; have eq21 : g2kp = g2k := eq21; subst g2kp; have eq22 : g2vp = g2v := eq22; subst g2vp; have eq23 : g3kp = g3k := eq23; subst g3kp; have eq24 : g3vp = g3v := eq24; subst g3vp; exact mpr_of (by kernel_rfl) ((congrArg (fun k => kik r0 d0_0 d0_1 d0_2 d0_3 e1k e1v e2k e2v e3k e3v k s19 s20 h0_0 h0_1 h0_2 h0_3 h4_0 h4_1 h4_2 h4_3 h4_4 h4_5 h4_6 h4_7 h4_8 h4_9 h5_0 h5_1 h5_2 g1k g1v g2k g2v g3k g3v s21p) (lpk1 (⟨rfl, rfl, rfl, rfl, rfl, rfl, rfl, rfl, rfl, rfl, rfl, rfl, rfl, rfl, rfl, rfl, rfl, rfl, rfl, rfl, rfl, rfl, rfl, rfl, rfl⟩ : s19 = s19 ∧ s20 = s20 ∧ h0_0 = h0_0 ∧ h0_1 = h0_1 ∧ h0_2 = h0_2 ∧ h0_3 = h0_3 ∧ h4_0 = h4_0 ∧ h4_1 = h4_1 ∧ h4_2 = h4_2 ∧ h4_3 = h4_3 ∧ h4_4 = h4_4 ∧ h4_5 = h4_5 ∧ h4_6 = h4_6 ∧ h4_7 = h4_7 ∧ h4_8 = h4_8 ∧ h4_9 = h4_9 ∧ h5_0 = h5_0 ∧ h5_1 = h5_1 ∧ h5_2 = h5_2 ∧ g1k = g1k ∧ g1v = g1v ∧ g2k = g2k ∧ g2v = g2v ∧ g3k = g3k ∧ g3v = g3v) inv (fun s21q => μ s21q < μ s21p))).mpr (hs s21p hi))⟩⟩
def ki4 (r0 : Int) (d0_0 : Bool) (d0_1 : Int) (d0_2 : Int) (d0_3 : List TQuestion) (e1k : List ByteArray) (e1v : List Int) (e2k : List ByteArray) (e2v : List (List Int)) (e3k : List ByteArray) (e3v : List Bool) (k2 : Int → Prop) (s40 : List TNote) (s41 : Int) (h0_0 : Bool) (h0_1 : Int) (h0_2 : Int) (h0_3 : List TQuestion) (h4_0 : Int) (h4_1 : Int) (h4_2 : List Int) (h4_3 : List Int) (h4_4 : List Int) (h4_5 : Int) (h4_6 : Int) (h4_7 : Int) (h4_8 : Int) (h4_9 : Int) (h5_0 : List TSpent) (h5_1 : List TNote) (h5_2 : Int) (g1k : List ByteArray) (g1v : List Int) (g2k : List ByteArray) (g2v : List (List Int)) (g3k : List ByteArray) (g3v : List Bool) (s42 : Int) : Prop :=
(decide (s42 < s41) = true →
(0 ≤ s42) ∧ s42 < (s40.length : Int) ∧ (NR (ix s40 s42) ∧ OrOk g1k g1v h0_3) ∧ let r2 : Int := ((commP (pk h0_0 h0_3 g1k g1v) (ix s40 s42)).getD 0)
 let r3 : Bool := ((commP (pk h0_0 h0_3 g1k g1v) (ix s40 s42)).isSome)
((!r3) = true →
 1 = r0 ∧ h0_0 = d0_0 ∧ h0_1 = d0_1 ∧ h0_2 = d0_2 ∧ h0_3 = d0_3 ∧ g1k = e1k ∧ g1v = e1v ∧ g2k = e2k ∧ g2v = e2v ∧ g3k = e3k ∧ g3v = e3v) ∧
((!r3) = false →
(0 ≤ s42) ∧ s42 < (h4_3.length : Int) ∧ ((r2 != (ix h4_3 s42)) = true →
 1 = r0 ∧ h0_0 = d0_0 ∧ h0_1 = d0_1 ∧ h0_2 = d0_2 ∧ h0_3 = d0_3 ∧ g1k = e1k ∧ g1v = e1v ∧ g2k = e2k ∧ g2v = e2v ∧ g3k = e3k ∧ g3v = e3v) ∧
((r2 != (ix h4_3 s42)) = false →
(0 ≤ s42) ∧ s42 < (h4_4.length : Int) ∧ ((((ix s40 s42).Rho) != (ix h4_4 s42)) = true →
 1 = r0 ∧ h0_0 = d0_0 ∧ h0_1 = d0_1 ∧ h0_2 = d0_2 ∧ h0_3 = d0_3 ∧ g1k = e1k ∧ g1v = e1v ∧ g2k = e2k ∧ g2v = e2v ∧ g3k = e3k ∧ g3v = e3v) ∧
((((ix s40 s42).Rho) != (ix h4_4 s42)) = false →
 k2 (IntKind.i64.wrap (s42 + 1) : Int))))) ∧
(decide (s42 < s41) = false →
(decide (0 < h4_5) = true →
(U64 h5_2) ∧ ((h4_8 != (acctS h5_2)) = true →
 21 = r0 ∧ h0_0 = d0_0 ∧ h0_1 = d0_1 ∧ h0_2 = d0_2 ∧ h0_3 = d0_3 ∧ g1k = e1k ∧ g1v = e1v ∧ g2k = e2k ∧ g2v = e2v ∧ g3k = e3k ∧ g3v = e3v) ∧
((h4_8 != (acctS h5_2)) = false →
 k4i (r0, d0_0, d0_1, d0_2, d0_3, e1k, e1v, e2k, e2v, e3k, e3v, ()) (h0_0, h0_1, h0_2, h0_3, h4_0, h4_1, h4_2, h4_3, h4_4, h4_5, h4_6, h4_7, h4_8, h4_9, h5_0, h5_1, h5_2, g1k, g1v, g2k, g2v, g3k, g3v, ()))) ∧
(decide (0 < h4_5) = false →
 k4i (r0, d0_0, d0_1, d0_2, d0_3, e1k, e1v, e2k, e2v, e3k, e3v, ()) (h0_0, h0_1, h0_2, h0_3, h4_0, h4_1, h4_2, h4_3, h4_4, h4_5, h4_6, h4_7, h4_8, h4_9, h5_0, h5_1, h5_2, g1k, g1v, g2k, g2v, g3k, g3v, ())))
set_option maxRecDepth 100000 in
theorem krv {r0 : Int} {d0_0 : Bool} {d0_1 : Int} {d0_2 : Int} {d0_3 : List TQuestion} {e1k : List ByteArray} {e1v : List Int} {e2k : List ByteArray} {e2v : List (List Int)} {e3k : List ByteArray} {e3v : List Bool} {s40 : List TNote} {s41 : Int} {h0_0 : Bool} {h0_1 : Int} {h0_2 : Int} {h0_3 : List TQuestion} {h4_0 : Int} {h4_1 : Int} {h4_2 : List Int} {h4_3 : List Int} {h4_4 : List Int} {h4_5 : Int} {h4_6 : Int} {h4_7 : Int} {h4_8 : Int} {h4_9 : Int} {h5_0 : List TSpent} {h5_1 : List TNote} {h5_2 : Int} {g1k : List ByteArray} {g1v : List Int} {g2k : List ByteArray} {g2v : List (List Int)} {g3k : List ByteArray} {g3v : List Bool} {s42 : Int} (inv : Int → Prop) (μ : Int → Nat) (h0 : inv s42) (hs : ∀ (s42 : Int), inv s42 → ki4 r0 d0_0 d0_1 d0_2 d0_3 e1k e1v e2k e2v e3k e3v (fun s42q => inv s42q ∧ μ s42q < μ s42) s40 s41 h0_0 h0_1 h0_2 h0_3 h4_0 h4_1 h4_2 h4_3 h4_4 h4_5 h4_6 h4_7 h4_8 h4_9 h5_0 h5_1 h5_2 g1k g1v g2k g2v g3k g3v s42) : Md.Loop (s40, s41, s42, h0_0, h0_1, h0_2, h0_3, h4_0, h4_1, h4_2, h4_3, h4_4, h4_5, h4_6, h4_7, h4_8, h4_9, h5_0, h5_1, h5_2, g1k, g1v, g2k, g2v, g3k, g3v, ()) (k6s (r0, d0_0, d0_1, d0_2, d0_3, e1k, e1v, e2k, e2v, e3k, e3v, ())) :=
  ⟨⟨fun s : (List TNote) × Int × Int × Bool × Int × Int × (List TQuestion) × Int × Int × (List Int) × (List Int) × (List Int) × Int × Int × Int × Int × Int × (List TSpent) × (List TNote) × Int × (List ByteArray) × (List Int) × (List ByteArray) × (List (List Int)) × (List ByteArray) × (List Bool) × Unit => (s.1 = s40 ∧ s.2.1 = s41 ∧ s.2.2.2.1 = h0_0 ∧ s.2.2.2.2.1 = h0_1 ∧ s.2.2.2.2.2.1 = h0_2 ∧ s.2.2.2.2.2.2.1 = h0_3 ∧ s.2.2.2.2.2.2.2.1 = h4_0 ∧ s.2.2.2.2.2.2.2.2.1 = h4_1 ∧ s.2.2.2.2.2.2.2.2.2.1 = h4_2 ∧ s.2.2.2.2.2.2.2.2.2.2.1 = h4_3 ∧ s.2.2.2.2.2.2.2.2.2.2.2.1 = h4_4 ∧ s.2.2.2.2.2.2.2.2.2.2.2.2.1 = h4_5 ∧ s.2.2.2.2.2.2.2.2.2.2.2.2.2.1 = h4_6 ∧ s.2.2.2.2.2.2.2.2.2.2.2.2.2.2.1 = h4_7 ∧ s.2.2.2.2.2.2.2.2.2.2.2.2.2.2.2.1 = h4_8 ∧ s.2.2.2.2.2.2.2.2.2.2.2.2.2.2.2.2.1 = h4_9 ∧ s.2.2.2.2.2.2.2.2.2.2.2.2.2.2.2.2.2.1 = h5_0 ∧ s.2.2.2.2.2.2.2.2.2.2.2.2.2.2.2.2.2.2.1 = h5_1 ∧ s.2.2.2.2.2.2.2.2.2.2.2.2.2.2.2.2.2.2.2.1 = h5_2 ∧ s.2.2.2.2.2.2.2.2.2.2.2.2.2.2.2.2.2.2.2.2.1 = g1k ∧ s.2.2.2.2.2.2.2.2.2.2.2.2.2.2.2.2.2.2.2.2.2.1 = g1v ∧ s.2.2.2.2.2.2.2.2.2.2.2.2.2.2.2.2.2.2.2.2.2.2.1 = g2k ∧ s.2.2.2.2.2.2.2.2.2.2.2.2.2.2.2.2.2.2.2.2.2.2.2.1 = g2v ∧ s.2.2.2.2.2.2.2.2.2.2.2.2.2.2.2.2.2.2.2.2.2.2.2.2.1 = g3k ∧ s.2.2.2.2.2.2.2.2.2.2.2.2.2.2.2.2.2.2.2.2.2.2.2.2.2.1 = g3v) ∧ inv s.2.2.1, fun s : (List TNote) × Int × Int × Bool × Int × Int × (List TQuestion) × Int × Int × (List Int) × (List Int) × (List Int) × Int × Int × Int × Int × Int × (List TSpent) × (List TNote) × Int × (List ByteArray) × (List Int) × (List ByteArray) × (List (List Int)) × (List ByteArray) × (List Bool) × Unit => μ s.2.2.1, ⟨⟨rfl, rfl, rfl, rfl, rfl, rfl, rfl, rfl, rfl, rfl, rfl, rfl, rfl, rfl, rfl, rfl, rfl, rfl, rfl, rfl, rfl, rfl, rfl, rfl, rfl⟩, h0⟩, fun (s40p, s41p, s42p, h0_0p, h0_1p, h0_2p, h0_3p, h4_0p, h4_1p, h4_2p, h4_3p, h4_4p, h4_5p, h4_6p, h4_7p, h4_8p, h4_9p, h5_0p, h5_1p, h5_2p, g1kp, g1vp, g2kp, g2vp, g3kp, g3vp, ()) ⟨⟨eq0, eq1, eq2, eq3, eq4, eq5, eq6, eq7, eq8, eq9, eq10, eq11, eq12, eq13, eq14, eq15, eq16, eq17, eq18, eq19, eq20, eq21, eq22, eq23, eq24⟩, hi⟩ => by
    have eq0 : s40p = s40 := eq0; subst s40p; have eq1 : s41p = s41 := eq1; subst s41p; have eq2 : h0_0p = h0_0 := eq2; subst h0_0p; have eq3 : h0_1p = h0_1 := eq3; subst h0_1p; have eq4 : h0_2p = h0_2 := eq4; subst h0_2p; have eq5 : h0_3p = h0_3 := eq5; subst h0_3p; have eq6 : h4_0p = h4_0 := eq6; subst h4_0p; have eq7 : h4_1p = h4_1 := eq7; subst h4_1p; have eq8 : h4_2p = h4_2 := eq8; subst h4_2p; have eq9 : h4_3p = h4_3 := eq9; subst h4_3p; have eq10 : h4_4p = h4_4 := eq10; subst h4_4p; have eq11 : h4_5p = h4_5 := eq11; subst h4_5p; have eq12 : h4_6p = h4_6 := eq12; subst h4_6p; have eq13 : h4_7p = h4_7 := eq13; subst h4_7p; have eq14 : h4_8p = h4_8 := eq14; subst h4_8p; have eq15 : h4_9p = h4_9 := eq15; subst h4_9p; have eq16 : h5_0p = h5_0 := eq16; subst h5_0p; have eq17 : h5_1p = h5_1 := eq17; subst h5_1p; have eq18 : h5_2p = h5_2 := eq18; subst h5_2p; have eq19 : g1kp = g1k := eq19; subst g1kp; have eq20 : g1vp = g1v := eq20; subst g1vp; have eq21 : g2kp = g2k := eq21; subst g2kp; have eq22 : g2vp = g2v := eq22; subst g2vp; have eq23 : g3kp = g3k := eq23; subst g3kp; have eq24 : g3vp = g3v := eq24; subst g3vp; exact mpr_of (by kernel_rfl) ((congrArg (fun k => ki4 r0 d0_0 d0_1 d0_2 d0_3 e1k e1v e2k e2v e3k e3v k s40 s41 h0_0 h0_1 h0_2 h0_3 h4_0 h4_1 h4_2 h4_3 h4_4 h4_5 h4_6 h4_7 h4_8 h4_9 h5_0 h5_1 h5_2 g1k g1v g2k g2v g3k g3v s42p) (lpk1 (⟨rfl, rfl, rfl, rfl, rfl, rfl, rfl, rfl, rfl, rfl, rfl, rfl, rfl, rfl, rfl, rfl, rfl, rfl, rfl, rfl, rfl, rfl, rfl, rfl, rfl⟩ : s40 = s40 ∧ s41 = s41 ∧ h0_0 = h0_0 ∧ h0_1 = h0_1 ∧ h0_2 = h0_2 ∧ h0_3 = h0_3 ∧ h4_0 = h4_0 ∧ h4_1 = h4_1 ∧ h4_2 = h4_2 ∧ h4_3 = h4_3 ∧ h4_4 = h4_4 ∧ h4_5 = h4_5 ∧ h4_6 = h4_6 ∧ h4_7 = h4_7 ∧ h4_8 = h4_8 ∧ h4_9 = h4_9 ∧ h5_0 = h5_0 ∧ h5_1 = h5_1 ∧ h5_2 = h5_2 ∧ g1k = g1k ∧ g1v = g1v ∧ g2k = g2k ∧ g2v = g2v ∧ g3k = g3k ∧ g3v = g3v) inv (fun s42q => μ s42q < μ s42p))).mpr (hs s42p hi))⟩⟩
theorem bd15 : Callable Try.prog 15 := ⟨by rw [Try.func15]; kernel_rfl, by rw [Try.func15]; show some _ ≠ some _; decide⟩
theorem kra (p1 : TStatement) (p2 : TWitness) (c0_0 : Bool) (c0_1 : Int) (c0_2 : Int) (c0_3 : List TQuestion) (w1k : List ByteArray) (w1v : List Int) (w2k : List ByteArray) (w2v : List (List Int)) (w3k : List ByteArray) (w3v : List Bool) (h : SR p1 ∧ WR p2 ∧ OrOk w1k w1v c0_3 ∧ (∀ l a, (pk c0_0 c0_3 w1k w1v) l a = none ∨ ∃ n, (pk c0_0 c0_3 w1k w1v) l a = some n ∧ U64 n)) : ka7 (p1.Depth, p1.Anchor, p1.Marks, p1.Commits, p1.Rhos, p1.Deposit, p1.Withdraw, p1.Fee, p1.Account, p1.Bind, p2.Ins, p2.Outs, p2.Secret, c0_0, c0_1, c0_2, c0_3, w1k, w1v, w2k, w2v, w3k, w3v, ()) (((checkS (pk c0_0 c0_3 w1k w1v) p1 p2) : Int), (c0_0 : Bool), (c0_1 : Int), (c0_2 : Int), (c0_3 : List TQuestion), (w1k : List ByteArray), (w1v : List Int), (w2k : List ByteArray), (w2v : List (List Int)), (w3k : List ByteArray), (w3v : List Bool), ()) := by
  obtain ⟨hs, hw, ho, hu⟩ := h
  refine kty ⟨⟨hs, hw⟩, fun e => ?_, fun e => ?_⟩
  · have e : relV p1 p2 = false := by simpa using e
    unfold checkS
    rw [if_pos e]
    (repeat' apply And.intro) <;> first | rfl | exact True.intro
  have e : relV p1 p2 = true := by simpa using e
  have hv : p2.Ins.length = p1.Marks.length ∧ p2.Outs.length = p1.Commits.length ∧ p2.Outs.length = p1.Rhos.length := by
    unfold relV at e
    simp only [Bool.and_eq_true, decide_eq_true_eq] at e
    exact ⟨e.1.1.1.1.1.1.2, e.1.1.1.1.2, e.1.1.1.2⟩
  obtain ⟨v1, v2, v3⟩ := hv
  have hil := hw.il
  have hol := hw.ol
  refine krr (fun i => (0 ≤ i ∧ i ≤ p2.Ins.length ∧ insE (pk c0_0 c0_3 w1k w1v) p1.Anchor (p2.Ins.drop i.toNat) (p1.Marks.drop i.toNat) = insE (pk c0_0 c0_3 w1k w1v) p1.Anchor p2.Ins p1.Marks)) (fun i => (p2.Ins.length - i).toNat) ⟨by omega, by omega, rfl⟩ ?_
  rintro i ⟨g0, g1, g2⟩
  refine ⟨fun hh => ?_, fun hh => ?_⟩
  · have hh := of_decide_eq_true hh
    have hp := hw.i _ (ix_mem p2.Ins i g0 hh)
    have hd := drop_ix p2.Ins i g0 hh
    have hd2 := drop_ix p1.Marks i g0 (by omega)
    rw [hd, hd2] at g2
    have g2 : (if inE (pk c0_0 c0_3 w1k w1v) p1.Anchor (ix p1.Marks i) (ix p2.Ins i) ≠ 0 then inE (pk c0_0 c0_3 w1k w1v) p1.Anchor (ix p1.Marks i) (ix p2.Ins i) else insE (pk c0_0 c0_3 w1k w1v) p1.Anchor (p2.Ins.drop (i + 1).toNat) (p1.Marks.drop (i + 1).toNat)) = insE (pk c0_0 c0_3 w1k w1v) p1.Anchor p2.Ins p1.Marks := g2
    have nx := inc i p2.Ins.length g0 hh (by omega)
    refine ⟨g0, hh, g0, by omega, ⟨hp, ho, hu⟩, ?_⟩
    simp only [k17f]
    refine ⟨fun e2 => ?_, fun e2 => ?_⟩
    · have e2 : inE (pk c0_0 c0_3 w1k w1v) p1.Anchor (ix p1.Marks i) (ix p2.Ins i) ≠ 0 := by simpa using e2
      rw [if_pos e2] at g2
      refine ⟨?_, by (repeat' apply And.intro) <;> first | rfl | exact True.intro⟩
      have g2 : _ = insE (pk c0_0 c0_3 w1k w1v) p1.Anchor p2.Ins p1.Marks := g2
      unfold checkS
      rw [if_neg (by simp [e]), if_pos (by rw [← g2]; exact e2), ← g2]
    · have e2 : inE (pk c0_0 c0_3 w1k w1v) p1.Anchor (ix p1.Marks i) (ix p2.Ins i) = 0 := by simpa using e2
      rw [if_neg (by simp [e2])] at g2
      rw [nx]
      exact ⟨⟨by omega, by omega, g2⟩, by omega⟩
  · have hh := of_decide_eq_false hh
    rw [List.drop_eq_nil_of_le (by omega)] at g2
    have g2 : 0 = insE (pk c0_0 c0_3 w1k w1v) p1.Anchor p2.Ins p1.Marks := g2
    have hck : checkS (pk c0_0 c0_3 w1k w1v) p1 p2 = if outsB (pk c0_0 c0_3 w1k w1v) p2.Outs p1.Commits p1.Rhos = false then 1 else if 0 < p1.Deposit ∧ p1.Account ≠ acctS p2.Secret then 21 else
        if (inS p2.Ins + p1.Deposit) % 18446744073709551616 ≠ ((outS p2.Outs + p1.Withdraw) % 18446744073709551616 + p1.Fee) % 18446744073709551616 then 13 else 0 := by
      conv => lhs; unfold checkS
      rw [if_neg (by simp [e]), if_neg (by rw [← g2]; simp)]
    rw [hck]
    refine krv (fun i => (0 ≤ i ∧ i ≤ p2.Outs.length ∧ outsB (pk c0_0 c0_3 w1k w1v) (p2.Outs.drop i.toNat) (p1.Commits.drop i.toNat) (p1.Rhos.drop i.toNat) = outsB (pk c0_0 c0_3 w1k w1v) p2.Outs p1.Commits p1.Rhos)) (fun i => (p2.Outs.length - i).toNat) ⟨by omega, by omega, rfl⟩ ?_
    rintro k ⟨k0, k1, k2⟩
    refine ⟨fun hk => ?_, fun hk => ?_⟩
    · have hk := of_decide_eq_true hk
      have hp := hw.o _ (ix_mem p2.Outs k k0 hk)
      rw [drop_ix p2.Outs k k0 hk, drop_ix p1.Commits k k0 (by omega), drop_ix p1.Rhos k k0 (by omega)] at k2
      have k2 : (outB (pk c0_0 c0_3 w1k w1v) (ix p2.Outs k) (ix p1.Commits k) (ix p1.Rhos k) && outsB (pk c0_0 c0_3 w1k w1v) (p2.Outs.drop (k + 1).toNat) (p1.Commits.drop (k + 1).toNat) (p1.Rhos.drop (k + 1).toNat)) = outsB (pk c0_0 c0_3 w1k w1v) p2.Outs p1.Commits p1.Rhos := k2
      have nx := inc k p2.Outs.length k0 hk (by omega)
      have bad : outB (pk c0_0 c0_3 w1k w1v) (ix p2.Outs k) (ix p1.Commits k) (ix p1.Rhos k) = false → outsB (pk c0_0 c0_3 w1k w1v) p2.Outs p1.Commits p1.Rhos = false := fun hb => by rw [hb] at k2; exact k2.symm
      refine ⟨k0, hk, ⟨hp, ho⟩, ?_⟩
      simp only [krs]
      refine ⟨fun e3 => ?_, fun e3 => ⟨k0, by omega, fun e4 => ?_, fun e4 => ⟨k0, by omega, fun e5 => ?_, fun e5 => ?_⟩⟩⟩
      · rw [if_pos (bad (by unfold outB; rw [show (commP (pk c0_0 c0_3 w1k w1v) (ix p2.Outs k)).isSome = false by simpa using e3]; rfl))]
        (repeat' apply And.intro) <;> first | rfl | exact True.intro
      · rw [if_pos (bad (by
          have e4 : ¬ (commP (pk c0_0 c0_3 w1k w1v) (ix p2.Outs k)).getD 0 = ix p1.Commits k := by simpa using e4
          simp [outB, e4]))]
        (repeat' apply And.intro) <;> first | rfl | exact True.intro
      · rw [if_pos (bad (by
          have e5 : ¬ (ix p2.Outs k).Rho = ix p1.Rhos k := by simpa using e5
          simp [outB, e5]))]
        (repeat' apply And.intro) <;> first | rfl | exact True.intro
      · have e3 : (commP (pk c0_0 c0_3 w1k w1v) (ix p2.Outs k)).isSome = true := by simpa using e3
        have e4 : (commP (pk c0_0 c0_3 w1k w1v) (ix p2.Outs k)).getD 0 = ix p1.Commits k := by simpa using e4
        have e5 : (ix p2.Outs k).Rho = ix p1.Rhos k := by simpa using e5
        have hb : outB (pk c0_0 c0_3 w1k w1v) (ix p2.Outs k) (ix p1.Commits k) (ix p1.Rhos k) = true := by simp [outB, e3, e4, e5]
        rw [hb, Bool.true_and] at k2
        rw [nx]
        exact ⟨⟨by omega, by omega, k2⟩, by omega⟩
    · have hk := of_decide_eq_false hk
      rw [List.drop_eq_nil_of_le (by omega)] at k2
      have k2 : true = outsB (pk c0_0 c0_3 w1k w1v) p2.Outs p1.Commits p1.Rhos := k2
      rw [← k2]
      have j1 : ∀ r : Int, (r = if (inS p2.Ins + p1.Deposit) % 18446744073709551616 ≠ ((outS p2.Outs + p1.Withdraw) % 18446744073709551616 + p1.Fee) % 18446744073709551616 then 13 else 0) → k4i (r, c0_0, c0_1, c0_2, c0_3, w1k, w1v, w2k, w2v, w3k, w3v, ()) (c0_0, c0_1, c0_2, c0_3, p1.Depth, p1.Anchor, p1.Marks, p1.Commits, p1.Rhos, p1.Deposit, p1.Withdraw, p1.Fee, p1.Account, p1.Bind, p2.Ins, p2.Outs, p2.Secret, w1k, w1v, w2k, w2v, w3k, w3v, ()) := by
        intro r hr
        refine ko4 ⟨by show p2.Ins.length ≤ _; omega, by show p2.Outs.length ≤ _; omega, ?_⟩
        simp only [u64w]
        refine ⟨fun hb => ?_, fun hb => ?_⟩
        · rw [hr, if_pos (by simpa using hb)]
          (repeat' apply And.intro) <;> first | rfl | exact True.intro
        · rw [hr, if_neg (by simpa using hb)]
          (repeat' apply And.intro) <;> first | rfl | exact True.intro
      rw [if_neg (by simp)]
      refine ⟨fun hd => ⟨hw.s, fun ha => ?_, fun ha => j1 _ ?_⟩, fun hd => j1 _ ?_⟩
      · have ha : ¬ p1.Account = acctS p2.Secret := by simpa using ha
        rw [if_pos ⟨of_decide_eq_true hd, ha⟩]
        (repeat' apply And.intro) <;> first | rfl | exact True.intro
      · have ha : p1.Account = acctS p2.Secret := by simpa using ha
        rw [if_neg (fun h => h.2 ha)]
      · rw [if_neg (fun h => of_decide_eq_false hd h.1)]
noncomputable def kas : Con TB.den := kg.fnR (fun x => (fun (p1 : TStatement) (p2 : TWitness) (c0_0 : Bool) (c0_1 : Int) (c0_2 : Int) (c0_3 : List TQuestion) (w1k : List ByteArray) (w1v : List Int) (w2k : List ByteArray) (w2v : List (List Int)) (w3k : List ByteArray) (w3v : List Bool) => SR p1 ∧ WR p2 ∧ OrOk w1k w1v c0_3 ∧ (∀ l a, (pk c0_0 c0_3 w1k w1v) l a = none ∨ ∃ n, (pk c0_0 c0_3 w1k w1v) l a = some n ∧ U64 n)) (TStatement.mk x.1 x.2.1 x.2.2.1 x.2.2.2.1 x.2.2.2.2.1 x.2.2.2.2.2.1 x.2.2.2.2.2.2.1 x.2.2.2.2.2.2.2.1 x.2.2.2.2.2.2.2.2.1 x.2.2.2.2.2.2.2.2.2.1) (TWitness.mk x.2.2.2.2.2.2.2.2.2.2.1 x.2.2.2.2.2.2.2.2.2.2.2.1 x.2.2.2.2.2.2.2.2.2.2.2.2.1) x.2.2.2.2.2.2.2.2.2.2.2.2.2.1 x.2.2.2.2.2.2.2.2.2.2.2.2.2.2.1 x.2.2.2.2.2.2.2.2.2.2.2.2.2.2.2.1 x.2.2.2.2.2.2.2.2.2.2.2.2.2.2.2.2.1 x.2.2.2.2.2.2.2.2.2.2.2.2.2.2.2.2.2.1 x.2.2.2.2.2.2.2.2.2.2.2.2.2.2.2.2.2.2.1 x.2.2.2.2.2.2.2.2.2.2.2.2.2.2.2.2.2.2.2.1 x.2.2.2.2.2.2.2.2.2.2.2.2.2.2.2.2.2.2.2.2.1 x.2.2.2.2.2.2.2.2.2.2.2.2.2.2.2.2.2.2.2.2.2.1 x.2.2.2.2.2.2.2.2.2.2.2.2.2.2.2.2.2.2.2.2.2.2.1) fun x => ((fun (p1 : TStatement) (p2 : TWitness) (c0_0 : Bool) (c0_1 : Int) (c0_2 : Int) (c0_3 : List TQuestion) (w1k : List ByteArray) (w1v : List Int) (w2k : List ByteArray) (w2v : List (List Int)) (w3k : List ByteArray) (w3v : List Bool) => ((checkS (pk c0_0 c0_3 w1k w1v) p1 p2) : Int)) (TStatement.mk x.1 x.2.1 x.2.2.1 x.2.2.2.1 x.2.2.2.2.1 x.2.2.2.2.2.1 x.2.2.2.2.2.2.1 x.2.2.2.2.2.2.2.1 x.2.2.2.2.2.2.2.2.1 x.2.2.2.2.2.2.2.2.2.1) (TWitness.mk x.2.2.2.2.2.2.2.2.2.2.1 x.2.2.2.2.2.2.2.2.2.2.2.1 x.2.2.2.2.2.2.2.2.2.2.2.2.1) x.2.2.2.2.2.2.2.2.2.2.2.2.2.1 x.2.2.2.2.2.2.2.2.2.2.2.2.2.2.1 x.2.2.2.2.2.2.2.2.2.2.2.2.2.2.2.1 x.2.2.2.2.2.2.2.2.2.2.2.2.2.2.2.2.1 x.2.2.2.2.2.2.2.2.2.2.2.2.2.2.2.2.2.1 x.2.2.2.2.2.2.2.2.2.2.2.2.2.2.2.2.2.2.1 x.2.2.2.2.2.2.2.2.2.2.2.2.2.2.2.2.2.2.2.1 x.2.2.2.2.2.2.2.2.2.2.2.2.2.2.2.2.2.2.2.2.1 x.2.2.2.2.2.2.2.2.2.2.2.2.2.2.2.2.2.2.2.2.2.1 x.2.2.2.2.2.2.2.2.2.2.2.2.2.2.2.2.2.2.2.2.2.2.1, (fun (p1 : TStatement) (p2 : TWitness) (c0_0 : Bool) (c0_1 : Int) (c0_2 : Int) (c0_3 : List TQuestion) (w1k : List ByteArray) (w1v : List Int) (w2k : List ByteArray) (w2v : List (List Int)) (w3k : List ByteArray) (w3v : List Bool) => (c0_0 : Bool)) (TStatement.mk x.1 x.2.1 x.2.2.1 x.2.2.2.1 x.2.2.2.2.1 x.2.2.2.2.2.1 x.2.2.2.2.2.2.1 x.2.2.2.2.2.2.2.1 x.2.2.2.2.2.2.2.2.1 x.2.2.2.2.2.2.2.2.2.1) (TWitness.mk x.2.2.2.2.2.2.2.2.2.2.1 x.2.2.2.2.2.2.2.2.2.2.2.1 x.2.2.2.2.2.2.2.2.2.2.2.2.1) x.2.2.2.2.2.2.2.2.2.2.2.2.2.1 x.2.2.2.2.2.2.2.2.2.2.2.2.2.2.1 x.2.2.2.2.2.2.2.2.2.2.2.2.2.2.2.1 x.2.2.2.2.2.2.2.2.2.2.2.2.2.2.2.2.1 x.2.2.2.2.2.2.2.2.2.2.2.2.2.2.2.2.2.1 x.2.2.2.2.2.2.2.2.2.2.2.2.2.2.2.2.2.2.1 x.2.2.2.2.2.2.2.2.2.2.2.2.2.2.2.2.2.2.2.1 x.2.2.2.2.2.2.2.2.2.2.2.2.2.2.2.2.2.2.2.2.1 x.2.2.2.2.2.2.2.2.2.2.2.2.2.2.2.2.2.2.2.2.2.1 x.2.2.2.2.2.2.2.2.2.2.2.2.2.2.2.2.2.2.2.2.2.2.1, (fun (p1 : TStatement) (p2 : TWitness) (c0_0 : Bool) (c0_1 : Int) (c0_2 : Int) (c0_3 : List TQuestion) (w1k : List ByteArray) (w1v : List Int) (w2k : List ByteArray) (w2v : List (List Int)) (w3k : List ByteArray) (w3v : List Bool) => (c0_1 : Int)) (TStatement.mk x.1 x.2.1 x.2.2.1 x.2.2.2.1 x.2.2.2.2.1 x.2.2.2.2.2.1 x.2.2.2.2.2.2.1 x.2.2.2.2.2.2.2.1 x.2.2.2.2.2.2.2.2.1 x.2.2.2.2.2.2.2.2.2.1) (TWitness.mk x.2.2.2.2.2.2.2.2.2.2.1 x.2.2.2.2.2.2.2.2.2.2.2.1 x.2.2.2.2.2.2.2.2.2.2.2.2.1) x.2.2.2.2.2.2.2.2.2.2.2.2.2.1 x.2.2.2.2.2.2.2.2.2.2.2.2.2.2.1 x.2.2.2.2.2.2.2.2.2.2.2.2.2.2.2.1 x.2.2.2.2.2.2.2.2.2.2.2.2.2.2.2.2.1 x.2.2.2.2.2.2.2.2.2.2.2.2.2.2.2.2.2.1 x.2.2.2.2.2.2.2.2.2.2.2.2.2.2.2.2.2.2.1 x.2.2.2.2.2.2.2.2.2.2.2.2.2.2.2.2.2.2.2.1 x.2.2.2.2.2.2.2.2.2.2.2.2.2.2.2.2.2.2.2.2.1 x.2.2.2.2.2.2.2.2.2.2.2.2.2.2.2.2.2.2.2.2.2.1 x.2.2.2.2.2.2.2.2.2.2.2.2.2.2.2.2.2.2.2.2.2.2.1, (fun (p1 : TStatement) (p2 : TWitness) (c0_0 : Bool) (c0_1 : Int) (c0_2 : Int) (c0_3 : List TQuestion) (w1k : List ByteArray) (w1v : List Int) (w2k : List ByteArray) (w2v : List (List Int)) (w3k : List ByteArray) (w3v : List Bool) => (c0_2 : Int)) (TStatement.mk x.1 x.2.1 x.2.2.1 x.2.2.2.1 x.2.2.2.2.1 x.2.2.2.2.2.1 x.2.2.2.2.2.2.1 x.2.2.2.2.2.2.2.1 x.2.2.2.2.2.2.2.2.1 x.2.2.2.2.2.2.2.2.2.1) (TWitness.mk x.2.2.2.2.2.2.2.2.2.2.1 x.2.2.2.2.2.2.2.2.2.2.2.1 x.2.2.2.2.2.2.2.2.2.2.2.2.1) x.2.2.2.2.2.2.2.2.2.2.2.2.2.1 x.2.2.2.2.2.2.2.2.2.2.2.2.2.2.1 x.2.2.2.2.2.2.2.2.2.2.2.2.2.2.2.1 x.2.2.2.2.2.2.2.2.2.2.2.2.2.2.2.2.1 x.2.2.2.2.2.2.2.2.2.2.2.2.2.2.2.2.2.1 x.2.2.2.2.2.2.2.2.2.2.2.2.2.2.2.2.2.2.1 x.2.2.2.2.2.2.2.2.2.2.2.2.2.2.2.2.2.2.2.1 x.2.2.2.2.2.2.2.2.2.2.2.2.2.2.2.2.2.2.2.2.1 x.2.2.2.2.2.2.2.2.2.2.2.2.2.2.2.2.2.2.2.2.2.1 x.2.2.2.2.2.2.2.2.2.2.2.2.2.2.2.2.2.2.2.2.2.2.1, (fun (p1 : TStatement) (p2 : TWitness) (c0_0 : Bool) (c0_1 : Int) (c0_2 : Int) (c0_3 : List TQuestion) (w1k : List ByteArray) (w1v : List Int) (w2k : List ByteArray) (w2v : List (List Int)) (w3k : List ByteArray) (w3v : List Bool) => (c0_3 : List TQuestion)) (TStatement.mk x.1 x.2.1 x.2.2.1 x.2.2.2.1 x.2.2.2.2.1 x.2.2.2.2.2.1 x.2.2.2.2.2.2.1 x.2.2.2.2.2.2.2.1 x.2.2.2.2.2.2.2.2.1 x.2.2.2.2.2.2.2.2.2.1) (TWitness.mk x.2.2.2.2.2.2.2.2.2.2.1 x.2.2.2.2.2.2.2.2.2.2.2.1 x.2.2.2.2.2.2.2.2.2.2.2.2.1) x.2.2.2.2.2.2.2.2.2.2.2.2.2.1 x.2.2.2.2.2.2.2.2.2.2.2.2.2.2.1 x.2.2.2.2.2.2.2.2.2.2.2.2.2.2.2.1 x.2.2.2.2.2.2.2.2.2.2.2.2.2.2.2.2.1 x.2.2.2.2.2.2.2.2.2.2.2.2.2.2.2.2.2.1 x.2.2.2.2.2.2.2.2.2.2.2.2.2.2.2.2.2.2.1 x.2.2.2.2.2.2.2.2.2.2.2.2.2.2.2.2.2.2.2.1 x.2.2.2.2.2.2.2.2.2.2.2.2.2.2.2.2.2.2.2.2.1 x.2.2.2.2.2.2.2.2.2.2.2.2.2.2.2.2.2.2.2.2.2.1 x.2.2.2.2.2.2.2.2.2.2.2.2.2.2.2.2.2.2.2.2.2.2.1, (fun (p1 : TStatement) (p2 : TWitness) (c0_0 : Bool) (c0_1 : Int) (c0_2 : Int) (c0_3 : List TQuestion) (w1k : List ByteArray) (w1v : List Int) (w2k : List ByteArray) (w2v : List (List Int)) (w3k : List ByteArray) (w3v : List Bool) => (w1k : List ByteArray)) (TStatement.mk x.1 x.2.1 x.2.2.1 x.2.2.2.1 x.2.2.2.2.1 x.2.2.2.2.2.1 x.2.2.2.2.2.2.1 x.2.2.2.2.2.2.2.1 x.2.2.2.2.2.2.2.2.1 x.2.2.2.2.2.2.2.2.2.1) (TWitness.mk x.2.2.2.2.2.2.2.2.2.2.1 x.2.2.2.2.2.2.2.2.2.2.2.1 x.2.2.2.2.2.2.2.2.2.2.2.2.1) x.2.2.2.2.2.2.2.2.2.2.2.2.2.1 x.2.2.2.2.2.2.2.2.2.2.2.2.2.2.1 x.2.2.2.2.2.2.2.2.2.2.2.2.2.2.2.1 x.2.2.2.2.2.2.2.2.2.2.2.2.2.2.2.2.1 x.2.2.2.2.2.2.2.2.2.2.2.2.2.2.2.2.2.1 x.2.2.2.2.2.2.2.2.2.2.2.2.2.2.2.2.2.2.1 x.2.2.2.2.2.2.2.2.2.2.2.2.2.2.2.2.2.2.2.1 x.2.2.2.2.2.2.2.2.2.2.2.2.2.2.2.2.2.2.2.2.1 x.2.2.2.2.2.2.2.2.2.2.2.2.2.2.2.2.2.2.2.2.2.1 x.2.2.2.2.2.2.2.2.2.2.2.2.2.2.2.2.2.2.2.2.2.2.1, (fun (p1 : TStatement) (p2 : TWitness) (c0_0 : Bool) (c0_1 : Int) (c0_2 : Int) (c0_3 : List TQuestion) (w1k : List ByteArray) (w1v : List Int) (w2k : List ByteArray) (w2v : List (List Int)) (w3k : List ByteArray) (w3v : List Bool) => (w1v : List Int)) (TStatement.mk x.1 x.2.1 x.2.2.1 x.2.2.2.1 x.2.2.2.2.1 x.2.2.2.2.2.1 x.2.2.2.2.2.2.1 x.2.2.2.2.2.2.2.1 x.2.2.2.2.2.2.2.2.1 x.2.2.2.2.2.2.2.2.2.1) (TWitness.mk x.2.2.2.2.2.2.2.2.2.2.1 x.2.2.2.2.2.2.2.2.2.2.2.1 x.2.2.2.2.2.2.2.2.2.2.2.2.1) x.2.2.2.2.2.2.2.2.2.2.2.2.2.1 x.2.2.2.2.2.2.2.2.2.2.2.2.2.2.1 x.2.2.2.2.2.2.2.2.2.2.2.2.2.2.2.1 x.2.2.2.2.2.2.2.2.2.2.2.2.2.2.2.2.1 x.2.2.2.2.2.2.2.2.2.2.2.2.2.2.2.2.2.1 x.2.2.2.2.2.2.2.2.2.2.2.2.2.2.2.2.2.2.1 x.2.2.2.2.2.2.2.2.2.2.2.2.2.2.2.2.2.2.2.1 x.2.2.2.2.2.2.2.2.2.2.2.2.2.2.2.2.2.2.2.2.1 x.2.2.2.2.2.2.2.2.2.2.2.2.2.2.2.2.2.2.2.2.2.1 x.2.2.2.2.2.2.2.2.2.2.2.2.2.2.2.2.2.2.2.2.2.2.1, (fun (p1 : TStatement) (p2 : TWitness) (c0_0 : Bool) (c0_1 : Int) (c0_2 : Int) (c0_3 : List TQuestion) (w1k : List ByteArray) (w1v : List Int) (w2k : List ByteArray) (w2v : List (List Int)) (w3k : List ByteArray) (w3v : List Bool) => (w2k : List ByteArray)) (TStatement.mk x.1 x.2.1 x.2.2.1 x.2.2.2.1 x.2.2.2.2.1 x.2.2.2.2.2.1 x.2.2.2.2.2.2.1 x.2.2.2.2.2.2.2.1 x.2.2.2.2.2.2.2.2.1 x.2.2.2.2.2.2.2.2.2.1) (TWitness.mk x.2.2.2.2.2.2.2.2.2.2.1 x.2.2.2.2.2.2.2.2.2.2.2.1 x.2.2.2.2.2.2.2.2.2.2.2.2.1) x.2.2.2.2.2.2.2.2.2.2.2.2.2.1 x.2.2.2.2.2.2.2.2.2.2.2.2.2.2.1 x.2.2.2.2.2.2.2.2.2.2.2.2.2.2.2.1 x.2.2.2.2.2.2.2.2.2.2.2.2.2.2.2.2.1 x.2.2.2.2.2.2.2.2.2.2.2.2.2.2.2.2.2.1 x.2.2.2.2.2.2.2.2.2.2.2.2.2.2.2.2.2.2.1 x.2.2.2.2.2.2.2.2.2.2.2.2.2.2.2.2.2.2.2.1 x.2.2.2.2.2.2.2.2.2.2.2.2.2.2.2.2.2.2.2.2.1 x.2.2.2.2.2.2.2.2.2.2.2.2.2.2.2.2.2.2.2.2.2.1 x.2.2.2.2.2.2.2.2.2.2.2.2.2.2.2.2.2.2.2.2.2.2.1, (fun (p1 : TStatement) (p2 : TWitness) (c0_0 : Bool) (c0_1 : Int) (c0_2 : Int) (c0_3 : List TQuestion) (w1k : List ByteArray) (w1v : List Int) (w2k : List ByteArray) (w2v : List (List Int)) (w3k : List ByteArray) (w3v : List Bool) => (w2v : List (List Int))) (TStatement.mk x.1 x.2.1 x.2.2.1 x.2.2.2.1 x.2.2.2.2.1 x.2.2.2.2.2.1 x.2.2.2.2.2.2.1 x.2.2.2.2.2.2.2.1 x.2.2.2.2.2.2.2.2.1 x.2.2.2.2.2.2.2.2.2.1) (TWitness.mk x.2.2.2.2.2.2.2.2.2.2.1 x.2.2.2.2.2.2.2.2.2.2.2.1 x.2.2.2.2.2.2.2.2.2.2.2.2.1) x.2.2.2.2.2.2.2.2.2.2.2.2.2.1 x.2.2.2.2.2.2.2.2.2.2.2.2.2.2.1 x.2.2.2.2.2.2.2.2.2.2.2.2.2.2.2.1 x.2.2.2.2.2.2.2.2.2.2.2.2.2.2.2.2.1 x.2.2.2.2.2.2.2.2.2.2.2.2.2.2.2.2.2.1 x.2.2.2.2.2.2.2.2.2.2.2.2.2.2.2.2.2.2.1 x.2.2.2.2.2.2.2.2.2.2.2.2.2.2.2.2.2.2.2.1 x.2.2.2.2.2.2.2.2.2.2.2.2.2.2.2.2.2.2.2.2.1 x.2.2.2.2.2.2.2.2.2.2.2.2.2.2.2.2.2.2.2.2.2.1 x.2.2.2.2.2.2.2.2.2.2.2.2.2.2.2.2.2.2.2.2.2.2.1, (fun (p1 : TStatement) (p2 : TWitness) (c0_0 : Bool) (c0_1 : Int) (c0_2 : Int) (c0_3 : List TQuestion) (w1k : List ByteArray) (w1v : List Int) (w2k : List ByteArray) (w2v : List (List Int)) (w3k : List ByteArray) (w3v : List Bool) => (w3k : List ByteArray)) (TStatement.mk x.1 x.2.1 x.2.2.1 x.2.2.2.1 x.2.2.2.2.1 x.2.2.2.2.2.1 x.2.2.2.2.2.2.1 x.2.2.2.2.2.2.2.1 x.2.2.2.2.2.2.2.2.1 x.2.2.2.2.2.2.2.2.2.1) (TWitness.mk x.2.2.2.2.2.2.2.2.2.2.1 x.2.2.2.2.2.2.2.2.2.2.2.1 x.2.2.2.2.2.2.2.2.2.2.2.2.1) x.2.2.2.2.2.2.2.2.2.2.2.2.2.1 x.2.2.2.2.2.2.2.2.2.2.2.2.2.2.1 x.2.2.2.2.2.2.2.2.2.2.2.2.2.2.2.1 x.2.2.2.2.2.2.2.2.2.2.2.2.2.2.2.2.1 x.2.2.2.2.2.2.2.2.2.2.2.2.2.2.2.2.2.1 x.2.2.2.2.2.2.2.2.2.2.2.2.2.2.2.2.2.2.1 x.2.2.2.2.2.2.2.2.2.2.2.2.2.2.2.2.2.2.2.1 x.2.2.2.2.2.2.2.2.2.2.2.2.2.2.2.2.2.2.2.2.1 x.2.2.2.2.2.2.2.2.2.2.2.2.2.2.2.2.2.2.2.2.2.1 x.2.2.2.2.2.2.2.2.2.2.2.2.2.2.2.2.2.2.2.2.2.2.1, (fun (p1 : TStatement) (p2 : TWitness) (c0_0 : Bool) (c0_1 : Int) (c0_2 : Int) (c0_3 : List TQuestion) (w1k : List ByteArray) (w1v : List Int) (w2k : List ByteArray) (w2v : List (List Int)) (w3k : List ByteArray) (w3v : List Bool) => (w3v : List Bool)) (TStatement.mk x.1 x.2.1 x.2.2.1 x.2.2.2.1 x.2.2.2.2.1 x.2.2.2.2.2.1 x.2.2.2.2.2.2.1 x.2.2.2.2.2.2.2.1 x.2.2.2.2.2.2.2.2.1 x.2.2.2.2.2.2.2.2.2.1) (TWitness.mk x.2.2.2.2.2.2.2.2.2.2.1 x.2.2.2.2.2.2.2.2.2.2.2.1 x.2.2.2.2.2.2.2.2.2.2.2.2.1) x.2.2.2.2.2.2.2.2.2.2.2.2.2.1 x.2.2.2.2.2.2.2.2.2.2.2.2.2.2.1 x.2.2.2.2.2.2.2.2.2.2.2.2.2.2.2.1 x.2.2.2.2.2.2.2.2.2.2.2.2.2.2.2.2.1 x.2.2.2.2.2.2.2.2.2.2.2.2.2.2.2.2.2.1 x.2.2.2.2.2.2.2.2.2.2.2.2.2.2.2.2.2.2.1 x.2.2.2.2.2.2.2.2.2.2.2.2.2.2.2.2.2.2.2.1 x.2.2.2.2.2.2.2.2.2.2.2.2.2.2.2.2.2.2.2.2.1 x.2.2.2.2.2.2.2.2.2.2.2.2.2.2.2.2.2.2.2.2.2.1 x.2.2.2.2.2.2.2.2.2.2.2.2.2.2.2.2.2.2.2.2.2.2.1, ())
theorem kic : kas.Ok Try.prog TB := Con.ok_fn kg bd15 fun x h => kss (kra (TStatement.mk x.1 x.2.1 x.2.2.1 x.2.2.2.1 x.2.2.2.2.1 x.2.2.2.2.2.1 x.2.2.2.2.2.2.1 x.2.2.2.2.2.2.2.1 x.2.2.2.2.2.2.2.2.1 x.2.2.2.2.2.2.2.2.2.1) (TWitness.mk x.2.2.2.2.2.2.2.2.2.2.1 x.2.2.2.2.2.2.2.2.2.2.2.1 x.2.2.2.2.2.2.2.2.2.2.2.2.1) x.2.2.2.2.2.2.2.2.2.2.2.2.2.1 x.2.2.2.2.2.2.2.2.2.2.2.2.2.2.1 x.2.2.2.2.2.2.2.2.2.2.2.2.2.2.2.1 x.2.2.2.2.2.2.2.2.2.2.2.2.2.2.2.2.1 x.2.2.2.2.2.2.2.2.2.2.2.2.2.2.2.2.2.1 x.2.2.2.2.2.2.2.2.2.2.2.2.2.2.2.2.2.2.1 x.2.2.2.2.2.2.2.2.2.2.2.2.2.2.2.2.2.2.2.1 x.2.2.2.2.2.2.2.2.2.2.2.2.2.2.2.2.2.2.2.2.1 x.2.2.2.2.2.2.2.2.2.2.2.2.2.2.2.2.2.2.2.2.2.1 x.2.2.2.2.2.2.2.2.2.2.2.2.2.2.2.2.2.2.2.2.2.2.1 h)
end Go.Proofs.Ytpffhgljgpjenaa
namespace Go.Proofs.Ytpffhgljgpjenaa
open Go Go.Bv Go.Cv Go.Md Go.RowKit
def k2m : Con TB.den := Con.mk0 8 [] [] (.one (.one (.d (.bool)))) []
abbrev kva := HL TB.den (hsT k2m.ins (hsOs k2m.pre))
abbrev kgz := HL TB.den (hsV k2m.res (hsOs k2m.post))
noncomputable def kbd : Cx TB := ⟨inf, [kea, klf, kas, kb5, k7n, k6y], [], 4⟩
noncomputable def kg4 : Code := Try.f8.body.getD .skip
noncomputable def kk8 : List ResultVar := Try.f8.results.toList
noncomputable def ksu (o : kgz) : An TB := .no
noncomputable def kg2 (x : kva) (o : kgz) : Prop := WPh TB kbd 44 0 kg4 (ksu o) (k2m.st TB x) (retTQ TB kbd k2m kk8 o)
set_option maxRecDepth 100000 in
theorem k12h (o : kgz) : OblH TB kbd 44 0 kg4 (ksu o) (retTQ TB kbd k2m kk8 o) :=
  OblH.of_eq (X := (True ∧ (True ∧ ((True ∧ ((True ∧ True) ∧ True)) ∧ (True ∧ (True ∧ (True ∧ True))))))) (by kernel_rfl) ⟨trivial, ⟨trivial, ⟨⟨trivial, ⟨⟨trivial, trivial⟩, trivial⟩⟩, ⟨trivial, ⟨trivial, ⟨trivial, trivial⟩⟩⟩⟩⟩⟩
set_option maxRecDepth 100000 in
theorem k137 {x : kva} {o : kgz} (h : kg2 x o) : SoundH Try.prog k2m.f ((k2m.args idf x).map (er TB)) ((k2m.obs idf x).map (erO TB)) (er TB (k2m.val idf o)) ((k2m.ops idf o).map (erO TB)) :=
  Con.soundH (c := k2m) (C := kbd) TBok ⟨inf_ok, (all_cons kni (all_cons k10b (all_cons kic (all_cons ki1 (all_cons kam (all_cons kaa all_nil)))))), all_nil⟩ mix Try.func8 (show Try.f8.body = some kg4 by kernel_rfl) (show Try.f8.ntmps = 44 by kernel_rfl) (show Try.f8.results.toList = kk8 by kernel_rfl) rfl h (k12h o)
set_option maxRecDepth 100000 in
theorem k15x  {r0 : Bool} (h :
((U64 (2 : Int)) ∧ (U64 (1 : Int)) ∧ (SR (exS (2 : Int)) ∧ WR exW ∧ OrOk [] [] [] ∧ (∀ l a, (pk false [] [] []) l a = none ∨ ∃ n, (pk false [] [] []) l a = some n ∧ U64 n)) ∧ let r1 : Int := (checkS (pk false [] [] []) (exS (2 : Int)) exW)
((r1 == 0) = true →
(SR (exS (1 : Int)) ∧ WR exW ∧ OrOk [] [] [] ∧ (∀ l a, (pk false [] [] []) l a = none ∨ ∃ n, (pk false [] [] []) l a = some n ∧ U64 n)) ∧ let r2 : Int := (checkS (pk false [] [] []) (exS (1 : Int)) exW)
((r2 == 13) = true →
(SR (exS (2 : Int)) ∧ WR exW) ∧ ((relV (exS (2 : Int)) exW) = true →
(exW.Ins.length ≤ 9223372036854775807) ∧ (((inS exW.Ins) == 0) = true →
(exW.Outs.length ≤ 9223372036854775807) ∧ ((outS exW.Outs) == 5) = r0) ∧
(((inS exW.Ins) == 0) = false →
 false = r0)) ∧
((relV (exS (2 : Int)) exW) = false →
 false = r0)) ∧
((r2 == 13) = false →
 false = r0)) ∧
((r1 == 0) = false →
 false = r0))) : kg2 (()) (r0, ()) := WPh.of_eq (by kernel_rfl) h
theorem bd8 : Callable Try.prog 8 := ⟨by rw [Try.func8]; kernel_rfl, by rw [Try.func8]; show some _ ≠ some _; decide⟩
theorem k10i : kg2 (()) ((true : Bool), ()) := by
  have u2 : U64 2 := by decide
  have u1 : U64 1 := by decide
  have k : ∀ l a, pk false [] [] [] l a = none ∨ ∃ n, pk false [] [] [] l a = some n ∧ U64 n := by rw [pk_nil]; exact fun _ _ => pkR_u
  refine k15x ⟨u2, u1, ?_⟩
  simp only [kmv, kta, pk_nil, exS_ok, exS_not]
  rw [pk_nil] at k
  refine ⟨⟨exS_sr 2 u2, exW_wr, kj6, k⟩, fun _ => ⟨⟨exS_sr 1 u1, exW_wr, kj6, k⟩, fun _ => ⟨⟨exS_sr 2 u2, exW_wr⟩, fun _ => ⟨by decide, fun _ => ⟨by decide, by decide⟩, fun h => ?_⟩, fun h => ?_⟩, fun h => ?_⟩, fun h => ?_⟩
  · simp [exW, inS] at h
  · rw [kwc 2 (by decide)] at h; cases h
  · simp at h
  · simp at h
noncomputable def khv : Con TB.den := k2m.totR fun x => ((true : Bool), ())
theorem krg : khv.Ok Try.prog TB := Con.ok_tot k2m bd8 fun x => k137 (k10i )
end Go.Proofs.Ytpffhgljgpjenaa
namespace Go.Proofs.Ytpffhgljgpjenaa
open Go Go.Bv Go.Cv Go.Md Go.RowKit
def k1u : Con TB.den := Con.mk0 11 [.agg [.d (.sl (.st 0)), .d (.sl (.st 1)), .d (.int .u64)]] [] (.one (.one (.d (.int .u64)))) []
abbrev ktj := HL TB.den (hsT k1u.ins (hsOs k1u.pre))
abbrev k5z := HL TB.den (hsV k1u.res (hsOs k1u.post))
noncomputable def k4z : Cx TB := ⟨inf, [], [], 4⟩
noncomputable def k7x : Code := Try.f11.body.getD .skip
noncomputable def k9z : List ResultVar := Try.f11.results.toList
noncomputable def k13j (o : k5z) : Exit → TSt TB.den → Prop := thenT TB (fun s => ghs TB [] s fun s => WP TB k4z 22 0 (cB (cB (cB k7x))) .no s (retTQ TB k4z k1u k9z o)) (retTQ TB k4z k1u k9z o)
def k6f : Tm := ⟨[0], [.cells [.d (.sl (.st 0)), .d (.sl (.st 1)), .d (.int .u64)]], [1, 3, 4], [.one (.ptr 0 0), .one (.d (.int .u64)), .one (.d (.int .i64))], 1⟩
noncomputable def k13o (o : k5z) (nx1 : HL TB.den k6f.hs → Prop) : Exit → TSt TB.den → Prop := thenT TB (fun s => k6f.mat TB 0 s nx1) (blockT TB 0 (k13j o))
noncomputable def k9t (o : k5z) (nx1 : HL TB.den k6f.hs → Prop) (i : HL TB.den k6f.hs) : Prop := WP TB k4z 22 0 (cA (cA (cB (cA (cB (cB k7x)))))) .no (k6f.fill TB i) (k13o o nx1)
noncomputable def k13q (o : k5z) : An TB := .nd [] .no [] (.lp [] k6f (k9t o) fun nx1 => .no)
noncomputable def kpt (o : k5z) : An TB := .nd [] .no [] (.nd [] .no [] (.nd [] (k13q o) [] .no))
noncomputable def kf1 (x : ktj) (o : k5z) : Prop := WPh TB k4z 22 0 k7x (kpt o) (k1u.st TB x) (retTQ TB k4z k1u k9z o)
set_option maxRecDepth 100000 in
theorem kzw (o : k5z) : OblH TB k4z 22 0 k7x (kpt o) (retTQ TB k4z k1u k9z o) :=
  OblH.of_eq (X := (True ∧ (True ∧ ((True ∧ ((∀ nx i, (k9t o) nx i = (k9t o) nx i) ∧ ∀ nx1 : HL TB.den k6f.hs → Prop, ((True ∧ (True ∧ True)) ∧ (True ∧ True)))) ∧ (True ∧ True))))) (by kernel_rfl) ⟨trivial, ⟨trivial, ⟨⟨trivial, ⟨fun _ _ => rfl, fun _ => ⟨⟨trivial, ⟨trivial, trivial⟩⟩, ⟨trivial, trivial⟩⟩⟩⟩, ⟨trivial, trivial⟩⟩⟩⟩
set_option maxRecDepth 100000 in
theorem kzn {x : ktj} {o : k5z} (h : kf1 x o) : SoundH Try.prog k1u.f ((k1u.args idf x).map (er TB)) ((k1u.obs idf x).map (erO TB)) (er TB (k1u.val idf o)) ((k1u.ops idf o).map (erO TB)) :=
  Con.soundH (c := k1u) (C := k4z) TBok ⟨inf_ok, all_nil, all_nil⟩ mix Try.func11 (show Try.f11.body = some k7x by kernel_rfl) (show Try.f11.ntmps = 22 by kernel_rfl) (show Try.f11.results.toList = k9z by kernel_rfl) rfl h (kzw o)
set_option maxRecDepth 100000 in
theorem k129 {p0 : TWitness} {r0 : Int} (h :
(Md.Loop ((0 : Int), (0 : Int), p0.Ins, p0.Outs, p0.Secret, ()) (k9t (r0, ())))) : kf1 (p0.Ins, p0.Outs, p0.Secret, ()) (r0, ()) := WPh.of_eq (by kernel_rfl) h
def kqd (r0 : Int) (k1 : Int → Int → Prop) (h0_0 : List TSpent) (h0_1 : List TNote) (h0_2 : Int) (s3 : Int) (s4 : Int) : Prop :=
(decide (s4 < (h0_0.length : Int)) = true →
(0 ≤ s4) ∧ s4 < (h0_0.length : Int) ∧ let v1 : Int := IntKind.u64.wrap (s3 + ((ix h0_0 s4).Note_Value))
 k1 v1 (IntKind.i64.wrap (s4 + 1) : Int)) ∧
(decide (s4 < (h0_0.length : Int)) = false →
 s3 = r0)
set_option maxRecDepth 100000 in
theorem k118 {r0 : Int} {h0_0 : List TSpent} {h0_1 : List TNote} {h0_2 : Int} {s3 : Int} {s4 : Int} (inv : Int → Int → Prop) (μ : Int → Int → Nat) (h0 : inv s3 s4) (hs : ∀ (s3 : Int) (s4 : Int), inv s3 s4 → kqd r0 (fun s3q s4q => inv s3q s4q ∧ μ s3q s4q < μ s3 s4) h0_0 h0_1 h0_2 s3 s4) : Md.Loop (s3, s4, h0_0, h0_1, h0_2, ()) (k9t (r0, ())) :=
  ⟨⟨fun s : Int × Int × (List TSpent) × (List TNote) × Int × Unit => (s.2.2.1 = h0_0 ∧ s.2.2.2.1 = h0_1 ∧ s.2.2.2.2.1 = h0_2) ∧ inv s.1 s.2.1, fun s : Int × Int × (List TSpent) × (List TNote) × Int × Unit => μ s.1 s.2.1, ⟨⟨rfl, rfl, rfl⟩, h0⟩, fun (s3p, s4p, h0_0p, h0_1p, h0_2p, ()) ⟨⟨eq0, eq1, eq2⟩, hi⟩ => by
    have eq0 : h0_0p = h0_0 := eq0; subst h0_0p; have eq1 : h0_1p = h0_1 := eq1; subst h0_1p; have eq2 : h0_2p = h0_2 := eq2; subst h0_2p; exact mpr_of (by kernel_rfl) ((congrArg (fun k => kqd r0 k h0_0 h0_1 h0_2 s3p s4p) (lpk2 (⟨rfl, rfl, rfl⟩ : h0_0 = h0_0 ∧ h0_1 = h0_1 ∧ h0_2 = h0_2) inv (fun s3q s4q => μ s3q s4q < μ s3p s4p))).mpr (hs s3p s4p hi))⟩⟩
theorem bd11 : Callable Try.prog 11 := ⟨by rw [Try.func11]; kernel_rfl, by rw [Try.func11]; show some _ ≠ some _; decide⟩
theorem ky1 (p0 : TWitness) (h : p0.Ins.length ≤ 9223372036854775807) : kf1 (p0.Ins, p0.Outs, p0.Secret, ()) (((inS p0.Ins) : Int), ()) := by
  refine k129 (k118 (fun s i => FoldI (fun s x => (s + x.Note_Value) % 18446744073709551616) 0 p0.Ins i s) (fun s i => (p0.Ins.length - i).toNat) FoldI.start ?_)
  intro s i hi
  refine ⟨fun hh => ?_, fun hh => hi.done (of_decide_eq_false hh)⟩
  have hh := of_decide_eq_true hh
  exact ⟨hi.1, hh, hi.next hh (by omega) (by rw [u64w])⟩
noncomputable def kgm : Con TB.den := k1u.fnR (fun x => (fun (p0 : TWitness) => p0.Ins.length ≤ 9223372036854775807) (TWitness.mk x.1 x.2.1 x.2.2.1)) fun x => ((fun (p0 : TWitness) => ((inS p0.Ins) : Int)) (TWitness.mk x.1 x.2.1 x.2.2.1), ())
theorem kq5 : kgm.Ok Try.prog TB := Con.ok_fn k1u bd11 fun x h => kzn (ky1 (TWitness.mk x.1 x.2.1 x.2.2.1) h)
end Go.Proofs.Ytpffhgljgpjenaa
namespace Go.Proofs.Ytpffhgljgpjenaa
open Go Go.Bv Go.Cv Go.Md Go.RowKit
def k1h : Con TB.den := Con.mk0 13 [.agg [.d (.sl (.st 0)), .d (.sl (.st 1)), .d (.int .u64)]] [] (.one (.one (.d (.int .u64)))) []
abbrev kpe := HL TB.den (hsT k1h.ins (hsOs k1h.pre))
abbrev k5g := HL TB.den (hsV k1h.res (hsOs k1h.post))
noncomputable def k4b : Cx TB := ⟨inf, [], [], 4⟩
noncomputable def k78 : Code := Try.f13.body.getD .skip
noncomputable def k8u : List ResultVar := Try.f13.results.toList
noncomputable def kzk (o : k5g) : Exit → TSt TB.den → Prop := thenT TB (fun s => ghs TB [] s fun s => WP TB k4b 21 0 (cB (cB (cB k78))) .no s (retTQ TB k4b k1h k8u o)) (retTQ TB k4b k1h k8u o)
def k5q : Tm := ⟨[0], [.cells [.d (.sl (.st 0)), .d (.sl (.st 1)), .d (.int .u64)]], [1, 3, 4], [.one (.ptr 0 0), .one (.d (.int .u64)), .one (.d (.int .i64))], 1⟩
noncomputable def k115 (o : k5g) (nx1 : HL TB.den k5q.hs → Prop) : Exit → TSt TB.den → Prop := thenT TB (fun s => k5q.mat TB 0 s nx1) (blockT TB 0 (kzk o))
noncomputable def k8o (o : k5g) (nx1 : HL TB.den k5q.hs → Prop) (i : HL TB.den k5q.hs) : Prop := WP TB k4b 21 0 (cA (cA (cB (cA (cB (cB k78)))))) .no (k5q.fill TB i) (k115 o nx1)
noncomputable def kzi (o : k5g) : An TB := .nd [] .no [] (.lp [] k5q (k8o o) fun nx1 => .no)
noncomputable def kn5 (o : k5g) : An TB := .nd [] .no [] (.nd [] .no [] (.nd [] (kzi o) [] .no))
noncomputable def kdr (x : kpe) (o : k5g) : Prop := WPh TB k4b 21 0 k78 (kn5 o) (k1h.st TB x) (retTQ TB k4b k1h k8u o)
set_option maxRecDepth 100000 in
theorem kxs (o : k5g) : OblH TB k4b 21 0 k78 (kn5 o) (retTQ TB k4b k1h k8u o) :=
  OblH.of_eq (X := (True ∧ (True ∧ ((True ∧ ((∀ nx i, (k8o o) nx i = (k8o o) nx i) ∧ ∀ nx1 : HL TB.den k5q.hs → Prop, ((True ∧ (True ∧ True)) ∧ (True ∧ True)))) ∧ (True ∧ True))))) (by kernel_rfl) ⟨trivial, ⟨trivial, ⟨⟨trivial, ⟨fun _ _ => rfl, fun _ => ⟨⟨trivial, ⟨trivial, trivial⟩⟩, ⟨trivial, trivial⟩⟩⟩⟩, ⟨trivial, trivial⟩⟩⟩⟩
set_option maxRecDepth 100000 in
theorem kxa {x : kpe} {o : k5g} (h : kdr x o) : SoundH Try.prog k1h.f ((k1h.args idf x).map (er TB)) ((k1h.obs idf x).map (erO TB)) (er TB (k1h.val idf o)) ((k1h.ops idf o).map (erO TB)) :=
  Con.soundH (c := k1h) (C := k4b) TBok ⟨inf_ok, all_nil, all_nil⟩ mix Try.func13 (show Try.f13.body = some k78 by kernel_rfl) (show Try.f13.ntmps = 21 by kernel_rfl) (show Try.f13.results.toList = k8u by kernel_rfl) rfl h (kxs o)
set_option maxRecDepth 100000 in
theorem kzl {p0 : TWitness} {r0 : Int} (h :
(Md.Loop ((0 : Int), (0 : Int), p0.Ins, p0.Outs, p0.Secret, ()) (k8o (r0, ())))) : kdr (p0.Ins, p0.Outs, p0.Secret, ()) (r0, ()) := WPh.of_eq (by kernel_rfl) h
def knb (r0 : Int) (k1 : Int → Int → Prop) (h0_0 : List TSpent) (h0_1 : List TNote) (h0_2 : Int) (s3 : Int) (s4 : Int) : Prop :=
(decide (s4 < (h0_1.length : Int)) = true →
(0 ≤ s4) ∧ s4 < (h0_1.length : Int) ∧ let v1 : Int := IntKind.u64.wrap (s3 + ((ix h0_1 s4).Value))
 k1 v1 (IntKind.i64.wrap (s4 + 1) : Int)) ∧
(decide (s4 < (h0_1.length : Int)) = false →
 s3 = r0)
set_option maxRecDepth 100000 in
theorem kyu {r0 : Int} {h0_0 : List TSpent} {h0_1 : List TNote} {h0_2 : Int} {s3 : Int} {s4 : Int} (inv : Int → Int → Prop) (μ : Int → Int → Nat) (h0 : inv s3 s4) (hs : ∀ (s3 : Int) (s4 : Int), inv s3 s4 → knb r0 (fun s3q s4q => inv s3q s4q ∧ μ s3q s4q < μ s3 s4) h0_0 h0_1 h0_2 s3 s4) : Md.Loop (s3, s4, h0_0, h0_1, h0_2, ()) (k8o (r0, ())) :=
  ⟨⟨fun s : Int × Int × (List TSpent) × (List TNote) × Int × Unit => (s.2.2.1 = h0_0 ∧ s.2.2.2.1 = h0_1 ∧ s.2.2.2.2.1 = h0_2) ∧ inv s.1 s.2.1, fun s : Int × Int × (List TSpent) × (List TNote) × Int × Unit => μ s.1 s.2.1, ⟨⟨rfl, rfl, rfl⟩, h0⟩, fun (s3p, s4p, h0_0p, h0_1p, h0_2p, ()) ⟨⟨eq0, eq1, eq2⟩, hi⟩ => by
    have eq0 : h0_0p = h0_0 := eq0; subst h0_0p; have eq1 : h0_1p = h0_1 := eq1; subst h0_1p; have eq2 : h0_2p = h0_2 := eq2; subst h0_2p; exact mpr_of (by kernel_rfl) ((congrArg (fun k => knb r0 k h0_0 h0_1 h0_2 s3p s4p) (lpk2 (⟨rfl, rfl, rfl⟩ : h0_0 = h0_0 ∧ h0_1 = h0_1 ∧ h0_2 = h0_2) inv (fun s3q s4q => μ s3q s4q < μ s3p s4p))).mpr (hs s3p s4p hi))⟩⟩
theorem bd13 : Callable Try.prog 13 := ⟨by rw [Try.func13]; kernel_rfl, by rw [Try.func13]; show some _ ≠ some _; decide⟩
theorem kwi (p0 : TWitness) (h : p0.Outs.length ≤ 9223372036854775807) : kdr (p0.Ins, p0.Outs, p0.Secret, ()) (((outS p0.Outs) : Int), ()) := by
  refine kzl (kyu (fun s i => FoldI (fun s x => (s + x.Value) % 18446744073709551616) 0 p0.Outs i s) (fun s i => (p0.Outs.length - i).toNat) FoldI.start ?_)
  intro s i hi
  refine ⟨fun hh => ?_, fun hh => hi.done (of_decide_eq_false hh)⟩
  have hh := of_decide_eq_true hh
  exact ⟨hi.1, hh, hi.next hh (by omega) (by rw [u64w])⟩
noncomputable def kev : Con TB.den := k1h.fnR (fun x => (fun (p0 : TWitness) => p0.Outs.length ≤ 9223372036854775807) (TWitness.mk x.1 x.2.1 x.2.2.1)) fun x => ((fun (p0 : TWitness) => ((outS p0.Outs) : Int)) (TWitness.mk x.1 x.2.1 x.2.2.1), ())
theorem kmw : kev.Ok Try.prog TB := Con.ok_fn k1h bd13 fun x h => kxa (kwi (TWitness.mk x.1 x.2.1 x.2.2.1) h)
end Go.Proofs.Ytpffhgljgpjenaa
