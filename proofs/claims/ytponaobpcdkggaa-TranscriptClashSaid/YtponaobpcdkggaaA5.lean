/-
  Parts of the proofs that the laws of this seat hold of every input, merged by a program: a machine over pure data that is sound for the model, what each function of the translation does in it, and plain lemmas. No conditions but those in each theorem.
-/
import Derived.Test.YtponaobpcdkggaaA4
set_option linter.all false
namespace Go.Proofs.Ytponaobpcdkggaa
open Go Go.Bv Go.Cv Go.Md Go.RowKit
def k1k : Con TB.den := Con.mk0 54 [.one (.d (.int .u64)), .agg [.d (.int .u64), .d (.int .u64), .d (.int .u64)]] [] (.one (.agg [.d (.int .u64), .d (.int .u64), .d (.int .u64)])) []
abbrev kmi := HL TB.den (hsT k1k.ins (hsOs k1k.pre))
abbrev k1r := HL TB.den (hsV k1k.res (hsOs k1k.post))
noncomputable def k2f : Cx TB := ⟨inf, [k8y, kqo, khy, klo, kz2, kos], [], 4, []⟩
noncomputable def k42 : Code := Try.f54.body.getD .skip
noncomputable def k7t : List ResultVar := Try.f54.results.toList
noncomputable def kvl (o : k1r) : Exit → TSt TB.den → Prop := thenT TB (fun s => ghs TB [] s fun s => WP TB k2f 43 0 (cB (cB (cB (cB (cB k42))))) .no s (retTQ TB k2f k1k k7t o)) (retTQ TB k2f k1k k7t o)
def k1i : Tm := ⟨[0, 1, 2], [.cells [.d (.int .u64), .d (.int .u64), .d (.int .u64)], .cells [.d (.int .u64), .d (.int .u64), .d (.int .u64)], .cells [.d (.int .u64)]], [0, 3, 4, 5, 6, 17], [.one (.d (.int .u64)), .one (.ptr 0 0), .one (.ptr 1 0), .one (.ptr 2 0), .one (.d (.int .u64)), .one (.d (.int .i64))], 3⟩
noncomputable def kdg (o : k1r) (nx2 : HL TB.den k1i.hs → Prop) : Exit → TSt TB.den → Prop := thenT TB (fun s => k1i.mat TB 0 s nx2) (blockT TB 0 (kvl o))
noncomputable def kl1 (o : k1r) (nx2 : HL TB.den k1i.hs → Prop) : Exit → TSt TB.den → Prop := thenT TB (fun s => ghs TB [] s fun s => WP TB k2f 43 0 (cB (cB (cB (cA (cA (cB (cA (cB (cB (cB (cB k42))))))))))) .no s (kdg o nx2)) (kdg o nx2)
noncomputable def kw3 (o : k1r) (nx2 : HL TB.den k1i.hs → Prop) : Exit → TSt TB.den → Prop := thenT TB (fun s => ghs TB [] s fun s => WP TB k2f 43 0 (cB (cB (cA (cA (cB (cB (cA (cA (cB (cA (cB (cB (cB (cB k42)))))))))))))) .no s (blockT TB 1 (kl1 o nx2))) (blockT TB 1 (kl1 o nx2))
def k5j : Tm := ⟨[0, 1, 2], [.cells [.d (.int .u64), .d (.int .u64), .d (.int .u64)], .cells [.d (.int .u64), .d (.int .u64), .d (.int .u64)], .cells [.d (.int .u64)]], [0, 3, 4, 5, 6, 7, 17, 20], [.one (.d (.int .u64)), .one (.ptr 0 0), .one (.ptr 1 0), .one (.ptr 2 0), .one (.d (.int .u64)), .one (.d (.int .i64)), .one (.d (.int .i64)), .one (.d (.int .i64))], 3⟩
noncomputable def kvg (o : k1r) (nx2 : HL TB.den k1i.hs → Prop) (nx1 : HL TB.den k5j.hs → Prop) : Exit → TSt TB.den → Prop := thenT TB (fun s => k5j.mat TB 0 s nx1) (blockT TB 2 (kw3 o nx2))
noncomputable def k7s (o : k1r) (nx2 : HL TB.den k1i.hs → Prop) (nx1 : HL TB.den k5j.hs → Prop) (i : HL TB.den k5j.hs) : Prop := WP TB k2f 43 0 (cA (cA (cB (cA (cB (cA (cA (cB (cB (cA (cA (cB (cA (cB (cB (cB (cB k42))))))))))))))))) .no (k5j.fill TB i) (kvg o nx2 nx1)
noncomputable def kv8 (o : k1r) (nx2 : HL TB.den k1i.hs → Prop) : An TB := .lp [] k5j (k7s o nx2) fun nx1 => .no
noncomputable def kvh (o : k1r) (nx2 : HL TB.den k1i.hs → Prop) : An TB := .nd [] .no [] (.nd [] (.nd [] .no [] (kv8 o nx2)) [] .no)
noncomputable def kjz (o : k1r) (nx2 : HL TB.den k1i.hs → Prop) : An TB := .nd [] .no [] (.nd [] .no [] (.nd [] (kvh o nx2) [] .no))
noncomputable def k7k (o : k1r) (nx2 : HL TB.den k1i.hs → Prop) (i : HL TB.den k1i.hs) : Prop := WP TB k2f 43 0 (cA (cA (cB (cA (cB (cB (cB (cB k42)))))))) (kjz o nx2) (k1i.fill TB i) (kdg o nx2)
noncomputable def ku3 (o : k1r) : An TB := .lp [] k1i (k7k o) fun nx2 => (kjz o nx2)
noncomputable def ku0 (o : k1r) : An TB := .nd [] .no [] (.nd [] (.nd [] .no [] (ku3 o)) [] .no)
noncomputable def kla (o : k1r) : An TB := .nd [] .no [] (.nd [] .no [] (.nd [] .no [] (ku0 o)))
noncomputable def kcc (x : kmi) (o : k1r) : Prop := WPh TB k2f 43 0 k42 (kla o) (k1k.st TB x) (retTQ TB k2f k1k k7t o)
set_option maxRecDepth 100000 in
theorem ku5 (o : k1r) : OblH TB k2f 43 0 k42 (kla o) (retTQ TB k2f k1k k7t o) :=
  OblH.of_eq (X := (True ∧ (True ∧ ((True ∧ ((True ∧ True) ∧ True)) ∧ (True ∧ ((True ∧ ((∀ nx i, (k7k o) nx i = (k7k o) nx i) ∧ ∀ nx2 : HL TB.den k1i.hs → Prop, (True ∧ ((True ∧ True) ∧ ((True ∧ ((True ∧ ((∀ nx i, (k7s o nx2) nx i = (k7s o nx2) nx i) ∧ ∀ nx1 : HL TB.den k5j.hs → Prop, (True ∧ ((True ∧ True) ∧ ((True ∧ True) ∧ True))))) ∧ True)) ∧ True))))) ∧ (True ∧ True))))))) (by kernel_rfl) ⟨trivial, ⟨trivial, ⟨⟨trivial, ⟨⟨trivial, trivial⟩, trivial⟩⟩, ⟨trivial, ⟨⟨trivial, ⟨fun _ _ => rfl, fun _ => ⟨trivial, ⟨⟨trivial, trivial⟩, ⟨⟨trivial, ⟨⟨trivial, ⟨fun _ _ => rfl, fun _ => ⟨trivial, ⟨⟨trivial, trivial⟩, ⟨⟨trivial, trivial⟩, trivial⟩⟩⟩⟩⟩, trivial⟩⟩, trivial⟩⟩⟩⟩⟩, ⟨trivial, trivial⟩⟩⟩⟩⟩⟩
set_option maxRecDepth 100000 in
theorem kub {x : kmi} {o : k1r} (h : kcc x o) : SoundH Try.prog k1k.f ((k1k.args idf x).map (er TB)) ((k1k.obs idf x).map (erO TB)) (er TB (k1k.val idf o)) ((k1k.ops idf o).map (erO TB)) :=
  Con.soundH (c := k1k) (C := k2f) TBok ⟨inf_ok, (all_cons kbr (all_cons k11g (all_cons ku2 (all_cons ksk (all_cons k1bq (all_cons k10o all_nil)))))), all_nil⟩ mix Try.func54 (show Try.f54.body = some k42 by kernel_rfl) (show Try.f54.ntmps = 43 by kernel_rfl) (show Try.f54.results.toList = k7t by kernel_rfl) rfl h (ku5 o)
set_option maxRecDepth 100000 in
theorem kvm {p0 : Int} {p1 : TA3} {r0 : TA3} (h :
(((TField.mk p0).P = 18446744069414584321) ∧ ((!true) = true →
 0 = r0.a0 ∧ 0 = r0.a1 ∧ 0 = r0.a2) ∧
((!true) = false →
((TField.mk p0).P = 18446744069414584321) ∧ Md.Loop (p0, (7 : Int), (0 : Int), p1.a0, p1.a1, p1.a2, (0 : Int), (0 : Int), (0 : Int), p0, ()) (k7k (r0.a0, r0.a1, r0.a2, ()))))) : kcc (p0, p1.a0, p1.a1, p1.a2, ()) (r0.a0, r0.a1, r0.a2, ()) := WPh.of_eq (by kernel_rfl) h
def kl9 (r0 : TA3) (nx2 : HL TB.den k1i.hs → Prop) (k2 : Int → Int → Int → Int → Prop) (s0 : Int) (s6 : Int) (h1_0 : Int) (h1_1 : Int) (h1_2 : Int) (h2_0 : Int) (s17 : Int) (h0_0 : Int) (h0_1 : Int) (h0_2 : Int) : Prop :=
(decide (s17 < 8) = true →
 Md.Loop (s0, s6, s17, s17, (0 : Int), h0_0, h0_1, h0_2, h1_0, h1_1, h1_2, h2_0, ()) (k7s (r0.a0, r0.a1, r0.a2, ()) nx2)) ∧
(decide (s17 < 8) = false →
 h0_0 = r0.a0 ∧ h0_1 = r0.a1 ∧ h0_2 = r0.a2)
set_option maxRecDepth 100000 in
theorem ku6 {r0 : TA3} {s0 : Int} {s6 : Int} {h1_0 : Int} {h1_1 : Int} {h1_2 : Int} {h2_0 : Int} {s17 : Int} {h0_0 : Int} {h0_1 : Int} {h0_2 : Int} (inv : Int → Int → Int → Int → Prop) (μ : Int → Int → Int → Int → Nat) (h0 : inv s17 h0_0 h0_1 h0_2) (hs : ∀ (s17 : Int) (h0_0 : Int) (h0_1 : Int) (h0_2 : Int), inv s17 h0_0 h0_1 h0_2 → kl9 r0 (fun s : Int × Int × Int × Int × Int × Int × Int × Int × Int × Int × Unit => ((s.1 = s0 ∧ s.2.1 = s6 ∧ s.2.2.2.2.2.2.1 = h1_0 ∧ s.2.2.2.2.2.2.2.1 = h1_1 ∧ s.2.2.2.2.2.2.2.2.1 = h1_2 ∧ s.2.2.2.2.2.2.2.2.2.1 = h2_0) ∧ inv s.2.2.1 s.2.2.2.1 s.2.2.2.2.1 s.2.2.2.2.2.1) ∧ μ s.2.2.1 s.2.2.2.1 s.2.2.2.2.1 s.2.2.2.2.2.1 < μ s17 h0_0 h0_1 h0_2) (fun s17q h0_0q h0_1q h0_2q => inv s17q h0_0q h0_1q h0_2q ∧ μ s17q h0_0q h0_1q h0_2q < μ s17 h0_0 h0_1 h0_2) s0 s6 h1_0 h1_1 h1_2 h2_0 s17 h0_0 h0_1 h0_2) : Md.Loop (s0, s6, s17, h0_0, h0_1, h0_2, h1_0, h1_1, h1_2, h2_0, ()) (k7k (r0.a0, r0.a1, r0.a2, ())) :=
  ⟨⟨fun s : Int × Int × Int × Int × Int × Int × Int × Int × Int × Int × Unit => (s.1 = s0 ∧ s.2.1 = s6 ∧ s.2.2.2.2.2.2.1 = h1_0 ∧ s.2.2.2.2.2.2.2.1 = h1_1 ∧ s.2.2.2.2.2.2.2.2.1 = h1_2 ∧ s.2.2.2.2.2.2.2.2.2.1 = h2_0) ∧ inv s.2.2.1 s.2.2.2.1 s.2.2.2.2.1 s.2.2.2.2.2.1, fun s : Int × Int × Int × Int × Int × Int × Int × Int × Int × Int × Unit => μ s.2.2.1 s.2.2.2.1 s.2.2.2.2.1 s.2.2.2.2.2.1, ⟨⟨rfl, rfl, rfl, rfl, rfl, rfl⟩, h0⟩, fun (s0p, s6p, s17p, h0_0p, h0_1p, h0_2p, h1_0p, h1_1p, h1_2p, h2_0p, ()) ⟨⟨eq0, eq1, eq2, eq3, eq4, eq5⟩, hi⟩ => by
    have eq0 : s0p = s0 := eq0; subst s0p; have eq1 : s6p = s6 := eq1; subst s6p; have eq2 : h1_0p = h1_0 := eq2; subst h1_0p; have eq3 : h1_1p = h1_1 := eq3; subst h1_1p; have eq4 : h1_2p = h1_2 := eq4; subst h1_2p; have eq5 : h2_0p = h2_0 := eq5; subst h2_0p; exact mpr_of (by kernel_rfl) ((congrArg (fun k => kl9 r0 (fun s : Int × Int × Int × Int × Int × Int × Int × Int × Int × Int × Unit => ((s.1 = s0 ∧ s.2.1 = s6 ∧ s.2.2.2.2.2.2.1 = h1_0 ∧ s.2.2.2.2.2.2.2.1 = h1_1 ∧ s.2.2.2.2.2.2.2.2.1 = h1_2 ∧ s.2.2.2.2.2.2.2.2.2.1 = h2_0) ∧ inv s.2.2.1 s.2.2.2.1 s.2.2.2.2.1 s.2.2.2.2.2.1) ∧ μ s.2.2.1 s.2.2.2.1 s.2.2.2.2.1 s.2.2.2.2.2.1 < μ s17p h0_0p h0_1p h0_2p) k s0 s6 h1_0 h1_1 h1_2 h2_0 s17p h0_0p h0_1p h0_2p) (lpk4 (⟨rfl, rfl, rfl, rfl, rfl, rfl⟩ : s0 = s0 ∧ s6 = s6 ∧ h1_0 = h1_0 ∧ h1_1 = h1_1 ∧ h1_2 = h1_2 ∧ h2_0 = h2_0) inv (fun s17q h0_0q h0_1q h0_2q => μ s17q h0_0q h0_1q h0_2q < μ s17p h0_0p h0_1p h0_2p))).mpr (hs s17p h0_0p h0_1p h0_2p hi))⟩⟩
def kl7 (r0 : TA3) (nx2 : HL TB.den k1i.hs → Prop) (k1 : Int → Int → Int → Int → Prop) (s0 : Int) (s6 : Int) (s7 : Int) (s17 : Int) (h1_0 : Int) (h1_1 : Int) (h1_2 : Int) (h2_0 : Int) (s20 : Int) (h0_0 : Int) (h0_1 : Int) (h0_2 : Int) : Prop :=
(decide (s20 < 3) = true →
(0 ≤ s20 ∧ s20 < (3 : Int)) ∧ (0 ≤ s20 ∧ s20 < (3 : Int)) ∧ (s0 = 18446744069414584321 ∧ (0 ≤ s7 ∧ s7 < 8) ∧ 0 ≤ s20 ∧ s20 < 3) ∧ ((TField.mk h2_0).P = 18446744069414584321 ∧ U64 (ix [h0_0, h0_1, h0_2] s20) ∧ U64 (rc s7 s20)) ∧ let r1 : Int := (((ix [h0_0, h0_1, h0_2] s20) + (rc s7 s20)) % 18446744069414584321)
((TField.mk h2_0).P = 18446744069414584321 ∧ U64 r1 ∧ U64 s6) ∧ (0 ≤ s20 ∧ s20 < (3 : Int)) ∧ (0 ≤ s20 ∧ s20 < (3 : Int)) ∧ k1 (IntKind.i64.wrap (s20 + 1) : Int) ((bif decide (s20 = (0 : Int)) then (pw (r1 % 18446744069414584321) s6) else h0_0) : Int) ((bif decide (s20 = (1 : Int)) then (pw (r1 % 18446744069414584321) s6) else h0_1) : Int) ((bif decide (s20 = (2 : Int)) then (pw (r1 % 18446744069414584321) s6) else h0_2) : Int)) ∧
(decide (s20 < 3) = false →
(s0 = 18446744069414584321 ∧ S3 (TA3.mk h0_0 h0_1 h0_2)) ∧ nx2 (s0, s6, (IntKind.i64.wrap (s17 + 1) : Int), ((mixS (TA3.mk h0_0 h0_1 h0_2)).a0 : Int), ((mixS (TA3.mk h0_0 h0_1 h0_2)).a1 : Int), ((mixS (TA3.mk h0_0 h0_1 h0_2)).a2 : Int), h1_0, h1_1, h1_2, h2_0, ()))
set_option maxRecDepth 100000 in
theorem ktx {r0 : TA3} {nx2 : HL TB.den k1i.hs → Prop} {s0 : Int} {s6 : Int} {s7 : Int} {s17 : Int} {h1_0 : Int} {h1_1 : Int} {h1_2 : Int} {h2_0 : Int} {s20 : Int} {h0_0 : Int} {h0_1 : Int} {h0_2 : Int} (inv : Int → Int → Int → Int → Prop) (μ : Int → Int → Int → Int → Nat) (h0 : inv s20 h0_0 h0_1 h0_2) (hs : ∀ (s20 : Int) (h0_0 : Int) (h0_1 : Int) (h0_2 : Int), inv s20 h0_0 h0_1 h0_2 → kl7 r0 nx2 (fun s20q h0_0q h0_1q h0_2q => inv s20q h0_0q h0_1q h0_2q ∧ μ s20q h0_0q h0_1q h0_2q < μ s20 h0_0 h0_1 h0_2) s0 s6 s7 s17 h1_0 h1_1 h1_2 h2_0 s20 h0_0 h0_1 h0_2) : Md.Loop (s0, s6, s7, s17, s20, h0_0, h0_1, h0_2, h1_0, h1_1, h1_2, h2_0, ()) (k7s (r0.a0, r0.a1, r0.a2, ()) nx2) :=
  ⟨⟨fun s : Int × Int × Int × Int × Int × Int × Int × Int × Int × Int × Int × Int × Unit => (s.1 = s0 ∧ s.2.1 = s6 ∧ s.2.2.1 = s7 ∧ s.2.2.2.1 = s17 ∧ s.2.2.2.2.2.2.2.2.1 = h1_0 ∧ s.2.2.2.2.2.2.2.2.2.1 = h1_1 ∧ s.2.2.2.2.2.2.2.2.2.2.1 = h1_2 ∧ s.2.2.2.2.2.2.2.2.2.2.2.1 = h2_0) ∧ inv s.2.2.2.2.1 s.2.2.2.2.2.1 s.2.2.2.2.2.2.1 s.2.2.2.2.2.2.2.1, fun s : Int × Int × Int × Int × Int × Int × Int × Int × Int × Int × Int × Int × Unit => μ s.2.2.2.2.1 s.2.2.2.2.2.1 s.2.2.2.2.2.2.1 s.2.2.2.2.2.2.2.1, ⟨⟨rfl, rfl, rfl, rfl, rfl, rfl, rfl, rfl⟩, h0⟩, fun (s0p, s6p, s7p, s17p, s20p, h0_0p, h0_1p, h0_2p, h1_0p, h1_1p, h1_2p, h2_0p, ()) ⟨⟨eq0, eq1, eq2, eq3, eq4, eq5, eq6, eq7⟩, hi⟩ => by
    have eq0 : s0p = s0 := eq0; subst s0p; have eq1 : s6p = s6 := eq1; subst s6p; have eq2 : s7p = s7 := eq2; subst s7p; have eq3 : s17p = s17 := eq3; subst s17p; have eq4 : h1_0p = h1_0 := eq4; subst h1_0p; have eq5 : h1_1p = h1_1 := eq5; subst h1_1p; have eq6 : h1_2p = h1_2 := eq6; subst h1_2p; have eq7 : h2_0p = h2_0 := eq7; subst h2_0p; exact mpr_of (by kernel_rfl) ((congrArg (fun k => kl7 r0 nx2 k s0 s6 s7 s17 h1_0 h1_1 h1_2 h2_0 s20p h0_0p h0_1p h0_2p) (lpk4 (⟨rfl, rfl, rfl, rfl, rfl, rfl, rfl, rfl⟩ : s0 = s0 ∧ s6 = s6 ∧ s7 = s7 ∧ s17 = s17 ∧ h1_0 = h1_0 ∧ h1_1 = h1_1 ∧ h1_2 = h1_2 ∧ h2_0 = h2_0) inv (fun s20q h0_0q h0_1q h0_2q => μ s20q h0_0q h0_1q h0_2q < μ s20p h0_0p h0_1p h0_2p))).mpr (hs s20p h0_0p h0_1p h0_2p hi))⟩⟩
theorem bd54 : Callable Try.prog 54 := ⟨by rw [Try.func54]; kernel_rfl, by rw [Try.func54]; show some _ ≠ some _; decide⟩
theorem ksj (p0 : Int) (p1 : TA3) (h : p0 = 18446744069414584321 ∧ S3 p1) : kcc (p0, p1.a0, p1.a1, p1.a2, ()) (((permS p1).a0 : Int), ((permS p1).a1 : Int), ((permS p1).a2 : Int), ()) := by
  obtain ⟨hP, hs⟩ := h
  subst hP
  refine kvm ⟨rfl, fun h => by simp at h, fun _ => ⟨rfl, ?_⟩⟩
  refine ku6 (r0 := permS p1) (fun n a b c => 0 ≤ n ∧ n ≤ 8 ∧ (⟨a, b, c⟩ : TA3) = rnds n.toNat p1 ∧ S3 ⟨a, b, c⟩) (fun n _ _ _ => (8 - n).toNat) ⟨by omega, by omega, rfl, hs⟩ ?_
  rintro n a b c ⟨g0, g1, g2, g3⟩
  refine ⟨fun h => ?_, fun h => ?_⟩
  · have h := of_decide_eq_true h
    refine ktx (r0 := permS p1) (fun i x y z => (i = 0 ∧ x = a ∧ y = b ∧ z = c) ∨ (i = 1 ∧ x = pw ((a + rc n 0) % 18446744069414584321) 7 ∧ y = b ∧ z = c) ∨ (i = 2 ∧ x = pw ((a + rc n 0) % 18446744069414584321) 7 ∧ y = pw ((b + rc n 1) % 18446744069414584321) 7 ∧ z = c) ∨ (i = 3 ∧ x = pw ((a + rc n 0) % 18446744069414584321) 7 ∧ y = pw ((b + rc n 1) % 18446744069414584321) 7 ∧ z = pw ((c + rc n 2) % 18446744069414584321) 7)) (fun i _ _ _ => (3 - i).toNat) (.inl ⟨rfl, rfl, rfl, rfl⟩) ?_
    intro i x y z hi
    have hrc : ∀ k, U64 (rc n k) := fun k => by unfold rc; omega
    have hpw : ∀ k e, 0 ≤ pw k e ∧ pw k e < 18446744069414584321 := fun k e => ⟨Int.emod_nonneg _ (by omega), Int.emod_lt_of_pos _ (by omega)⟩
    obtain ⟨h3a, h3b, h3c⟩ := g3
    refine ⟨fun hh => ?_, fun hh => ?_⟩
    · have hh := of_decide_eq_true hh
      rcases hi with ⟨rfl, rfl, rfl, rfl⟩ | ⟨rfl, rfl, rfl, rfl⟩ | ⟨rfl, rfl, rfl, rfl⟩ | ⟨rfl, _⟩
      · refine ⟨by omega, by omega, ⟨rfl, by omega, by omega⟩, ⟨rfl, h3a, hrc _⟩, ⟨rfl, ?_, by omega⟩, by omega, by omega, .inr (.inl ⟨rfl, ?_, rfl, rfl⟩), by decide⟩
        · exact ⟨Int.emod_nonneg _ (by omega), Int.lt_trans (Int.emod_lt_of_pos _ (by omega)) (by omega)⟩
        · show pw ((x + rc n 0) % 18446744069414584321 % 18446744069414584321) 7 = _
          rw [Int.emod_emod_of_dvd _ (Int.dvd_refl _)]
      · refine ⟨by omega, by omega, ⟨rfl, by omega, by omega⟩, ⟨rfl, h3b, hrc _⟩, ⟨rfl, ?_, by omega⟩, by omega, by omega, .inr (.inr (.inl ⟨rfl, rfl, ?_, rfl⟩)), by decide⟩
        · exact ⟨Int.emod_nonneg _ (by omega), Int.lt_trans (Int.emod_lt_of_pos _ (by omega)) (by omega)⟩
        · show pw ((y + rc n 1) % 18446744069414584321 % 18446744069414584321) 7 = _
          rw [Int.emod_emod_of_dvd _ (Int.dvd_refl _)]
      · refine ⟨by omega, by omega, ⟨rfl, by omega, by omega⟩, ⟨rfl, h3c, hrc _⟩, ⟨rfl, ?_, by omega⟩, by omega, by omega, .inr (.inr (.inr ⟨rfl, rfl, rfl, ?_⟩)), by decide⟩
        · exact ⟨Int.emod_nonneg _ (by omega), Int.lt_trans (Int.emod_lt_of_pos _ (by omega)) (by omega)⟩
        · show pw ((z + rc n 2) % 18446744069414584321 % 18446744069414584321) 7 = _
          rw [Int.emod_emod_of_dvd _ (Int.dvd_refl _)]
      · omega
    · have hh := of_decide_eq_false hh
      rcases hi with ⟨rfl, _⟩ | ⟨rfl, _⟩ | ⟨rfl, _⟩ | ⟨rfl, rfl, rfl, rfl⟩
      · omega
      · omega
      · omega
      · have e : rnds (n + 1).toNat p1 = rnd ⟨a, b, c⟩ n := by
          rw [show (n + 1).toNat = n.toNat + 1 by omega]
          show rnd (rnds n.toNat p1) (n.toNat : Int) = _
          rw [← g2, show (n.toNat : Int) = n by omega]
        have hS : S3 (rnds (n + 1).toNat p1) := by
          rw [e]
          unfold rnd mixS S3
          dsimp only
          omega
        have hinc : IntKind.i64.wrap (n + 1) = n + 1 := wi _ (by omega) (by omega)
        rw [hinc]
        refine ⟨⟨rfl, by unfold S3; have := hpw ((a + rc n 0) % 18446744069414584321) 7; have := hpw ((b + rc n 1) % 18446744069414584321) 7; have := hpw ((c + rc n 2) % 18446744069414584321) 7; dsimp only; omega⟩, ⟨⟨rfl, rfl, rfl, rfl, rfl, rfl⟩, (?_ : 0 ≤ n + 1 ∧ n + 1 ≤ 8 ∧ _ ∧ _)⟩, (?_ : (8 - (n + 1)).toNat < (8 - n).toNat)⟩
        · refine ⟨by omega, by omega, e.symm, ?_⟩
          rw [e] at hS
          exact hS
        · omega
  · have h := of_decide_eq_false h
    rw [show n = 8 by omega] at g2
    have g2 : (⟨a, b, c⟩ : TA3) = permS p1 := g2
    rw [← g2]
    exact ⟨rfl, rfl, rfl⟩
noncomputable def kjy : Con TB.den := k1k.fnR (fun x => (fun (p0 : Int) (p1 : TA3) => p0 = 18446744069414584321 ∧ S3 p1) x.1 (TA3.mk x.2.1 x.2.2.1 x.2.2.2.1)) fun x => ((fun (p0 : Int) (p1 : TA3) => ((permS p1).a0 : Int)) x.1 (TA3.mk x.2.1 x.2.2.1 x.2.2.2.1), (fun (p0 : Int) (p1 : TA3) => ((permS p1).a1 : Int)) x.1 (TA3.mk x.2.1 x.2.2.1 x.2.2.2.1), (fun (p0 : Int) (p1 : TA3) => ((permS p1).a2 : Int)) x.1 (TA3.mk x.2.1 x.2.2.1 x.2.2.2.1), ())
theorem kvr : kjy.Ok Try.prog TB := Con.ok_fn k1k bd54 fun x h => kub (ksj x.1 (TA3.mk x.2.1 x.2.2.1 x.2.2.2.1) h)
end Go.Proofs.Ytponaobpcdkggaa
namespace Go.Proofs.Ytponaobpcdkggaa
open Go Go.Bv Go.Cv Go.Md Go.RowKit
def k2d : Con TB.den := Con.mk0 45 [.one (.d (.int .u64)), .one (.d (.int .u64)), .one (.d (.sl (.int .u64)))] [] (.one (.agg [.d (.int .u64), .d (.int .u64), .d (.int .u64)])) []
abbrev kue := HL TB.den (hsT k2d.ins (hsOs k2d.pre))
abbrev k4b := HL TB.den (hsV k2d.res (hsOs k2d.post))
noncomputable def k4s : Cx TB := ⟨inf, [kyf, klo, kjy], [], 4, []⟩
noncomputable def k6w : Code := Try.f45.body.getD .skip
noncomputable def kcg : List ResultVar := Try.f45.results.toList
noncomputable def k131 (o : k4b) : Exit → TSt TB.den → Prop := thenT TB (fun s => ghs TB [] s fun s => WP TB k4s 61 0 (cB (cB (cB (cB (cB k6w))))) .no s (retTQ TB k4s k2d kcg o)) (retTQ TB k4s k2d kcg o)
def k3t : Tm := ⟨[0, 1, 38], [.cells [.d (.int .u64), .d (.int .u64), .d (.int .u64)], .cells [.d (.int .u64)], .cells [.d (.int .u64), .d (.int .u64), .d (.int .u64)]], [0, 2, 6, 7, 8, 9], [.one (.d (.int .u64)), .one (.d (.sl (.int .u64))), .one (.ptr 0 0), .one (.ptr 1 0), .one (.ptr 2 0), .one (.d (.int .i64))], 46⟩
noncomputable def km5 (o : k4b) (nx1 : HL TB.den k3t.hs → Prop) : Exit → TSt TB.den → Prop := thenT TB (fun s => k3t.mat TB 0 s nx1) (blockT TB 0 (k131 o))
noncomputable def k12x (o : k4b) (nx1 : HL TB.den k3t.hs → Prop) : Exit → TSt TB.den → Prop := thenT TB (fun s => ghs TB [] s fun s => WP TB k4s 61 0 (cB (cB (cA (cA (cB (cA (cB (cB (cB (cB k6w)))))))))) .no s (km5 o nx1)) (km5 o nx1)
def ke4 : Tm := ⟨[0, 1, 38], [.cells [.d (.int .u64), .d (.int .u64), .d (.int .u64)], .cells [.d (.int .u64)], .cells [.d (.int .u64), .d (.int .u64), .d (.int .u64)]], [0, 2, 6, 7, 8, 9], [.one (.d (.int .u64)), .one (.d (.sl (.int .u64))), .one (.ptr 0 0), .one (.ptr 1 0), .one (.ptr 2 0), .one (.d (.int .i64))], 86⟩
noncomputable def krb (o : k4b) (nx1 : HL TB.den k3t.hs → Prop) (i : HL TB.den ke4.hs) : Prop := ghs TB [] (ke4.fill TB i) fun s => WP TB k4s 61 0 (cB (cB (cA (cA (cB (cA (cA (cB (cA (cB (cB (cB (cB k6w))))))))))))) .no s (blockT TB 1 (k12x o nx1))
structure k9h (o : k4b) (nx1 : HL TB.den k3t.hs → Prop) (i : HL TB.den ke4.hs) : Prop where
  h : krb o nx1 i
noncomputable def ktk (o : k4b) (nx1 : HL TB.den k3t.hs → Prop) : An TB := .nd [] .no [] (.jn ke4 (k9h o nx1) [] .no [] .no)
noncomputable def kc7 (o : k4b) (nx1 : HL TB.den k3t.hs → Prop) (i : HL TB.den k3t.hs) : Prop := WP TB k4s 61 0 (cA (cA (cB (cA (cB (cB (cB (cB k6w)))))))) (.nd [] .no [] (.nd [] (ktk o nx1) [] .no)) (k3t.fill TB i) (km5 o nx1)
noncomputable def k13o (o : k4b) : An TB := .lp [] k3t (kc7 o) fun nx1 => (.nd [] .no [] (.nd [] (ktk o nx1) [] .no))
noncomputable def k14e (o : k4b) : An TB := .nd [] .no [] (.nd [] (.nd [] .no [] (k13o o)) [] .no)
noncomputable def ktr (o : k4b) : An TB := .nd [] .no [] (.nd [] .no [] (.nd [] .no [] (k14e o)))
noncomputable def khu (x : kue) (o : k4b) : Prop := WPh TB k4s 61 0 k6w (ktr o) (k2d.st TB x) (retTQ TB k4s k2d kcg o)
set_option maxRecDepth 100000 in
theorem k11p (o : k4b) : OblH TB k4s 61 0 k6w (ktr o) (retTQ TB k4s k2d kcg o) :=
  OblH.of_eq (X := (True ∧ (True ∧ (True ∧ ((True ∧ ((True ∧ True) ∧ True)) ∧ ((True ∧ ((∀ nx i, (kc7 o) nx i = (kc7 o) nx i) ∧ ∀ nx1 : HL TB.den k3t.hs → Prop, ((True ∧ (True ∧ True)) ∧ ((True ∧ ((True ∧ (True ∧ True)) ∧ (∀ i, (k9h o nx1) i = (krb o nx1) i) ∧ True)) ∧ True)))) ∧ (True ∧ True))))))) (by kernel_rfl) ⟨trivial, ⟨trivial, ⟨trivial, ⟨⟨trivial, ⟨⟨trivial, trivial⟩, trivial⟩⟩, ⟨⟨trivial, ⟨fun _ _ => rfl, fun _ => ⟨⟨trivial, ⟨trivial, trivial⟩⟩, ⟨⟨trivial, ⟨⟨trivial, ⟨trivial, trivial⟩⟩, fun _ => propext ⟨fun h => h.1, fun h => ⟨h⟩⟩, trivial⟩⟩, trivial⟩⟩⟩⟩, ⟨trivial, trivial⟩⟩⟩⟩⟩⟩
set_option maxRecDepth 100000 in
theorem k11u {x : kue} {o : k4b} (h : khu x o) : SoundH Try.prog k2d.f ((k2d.args idf x).map (er TB)) ((k2d.obs idf x).map (erO TB)) (er TB (k2d.val idf o)) ((k2d.ops idf o).map (erO TB)) :=
  Con.soundH (c := k2d) (C := k4s) TBok ⟨inf_ok, (all_cons k1co (all_cons ksk (all_cons kvr all_nil))), all_nil⟩ mix Try.func45 (show Try.f45.body = some k6w by kernel_rfl) (show Try.f45.ntmps = 61 by kernel_rfl) (show Try.f45.results.toList = kcg by kernel_rfl) rfl h (k11p o)
set_option maxRecDepth 100000 in
theorem k133 {p0 : Int} {p1 : Int} {p2 : List Int} {r0 : TA3} (h :
(((TField.mk p0).P = 18446744069414584321 ∧ U64 p1 ∧ U64 (65536 : Int)) ∧ let r1 : Int := (p1 * (65536 : Int) % 18446744069414584321)
((TField.mk p0).P = 18446744069414584321 ∧ U64 r1 ∧ U64 (IntKind.u64.wrap (p2.length : Int))) ∧ let r2 : Int := ((r1 + (IntKind.u64.wrap (p2.length : Int))) % 18446744069414584321)
(((p2.length : Int) == 0) = true →
(p0 = 18446744069414584321 ∧ S3 (TA3.mk 0 0 r2)) ∧ (permS (TA3.mk 0 0 r2)).a0 = r0.a0 ∧ (permS (TA3.mk 0 0 r2)).a1 = r0.a1 ∧ (permS (TA3.mk 0 0 r2)).a2 = r0.a2) ∧
(((p2.length : Int) == 0) = false →
 Md.Loop (p0, p2, (0 : Int), (0 : Int), (0 : Int), (0 : Int), p0, (0 : Int), (0 : Int), r2, ()) (kc7 (r0.a0, r0.a1, r0.a2, ()))))) : khu (p0, p1, p2, ()) (r0.a0, r0.a1, r0.a2, ()) := WPh.of_eq (by kernel_rfl) h
set_option maxRecDepth 100000 in
theorem kz9 {r0 : TA3} {nx1 : HL TB.den k3t.hs → Prop} {s0 : Int} {s2 : List Int} {s9 : Int} {h0_0 : Int} {h0_1 : Int} {h0_2 : Int} {h1_0 : Int} {h38_0 : Int} {h38_1 : Int} {h38_2 : Int} (h :
((s0 = 18446744069414584321 ∧ S3 (TA3.mk h38_0 h38_1 h38_2)) ∧ nx1 (s0, s2, (IntKind.i64.wrap (s9 + 2) : Int), h0_0, h0_1, h0_2, h1_0, ((permS (TA3.mk h38_0 h38_1 h38_2)).a0 : Int), ((permS (TA3.mk h38_0 h38_1 h38_2)).a1 : Int), ((permS (TA3.mk h38_0 h38_1 h38_2)).a2 : Int), ()))) : k9h (r0.a0, r0.a1, r0.a2, ()) nx1 (s0, s2, s9, h0_0, h0_1, h0_2, h1_0, h38_0, h38_1, h38_2, ()) := ⟨mpr_of (by kernel_rfl) h⟩
def ktc (r0 : TA3) (nx1 : HL TB.den k3t.hs → Prop) (k1 : Int → Int → Int → Int → Prop) (s0 : Int) (s2 : List Int) (h0_0 : Int) (h0_1 : Int) (h0_2 : Int) (h1_0 : Int) (s9 : Int) (h38_0 : Int) (h38_1 : Int) (h38_2 : Int) : Prop :=
(decide (s9 < (s2.length : Int)) = true →
(0 ≤ s9) ∧ s9 < (s2.length : Int) ∧ ((TField.mk h1_0).P = 18446744069414584321 ∧ U64 h38_0 ∧ U64 (ix s2 s9)) ∧ let r3 : Int := ((h38_0 + (ix s2 s9)) % 18446744069414584321)
 let v4 : Bool := decide ((IntKind.i64.wrap (s9 + 1)) < (s2.length : Int))
(v4 = true →
(0 ≤ IntKind.i64.wrap (s9 + 1)) ∧ IntKind.i64.wrap (s9 + 1) < (s2.length : Int) ∧ ((TField.mk h1_0).P = 18446744069414584321 ∧ U64 h38_1 ∧ U64 (ix s2 (IntKind.i64.wrap (s9 + 1)))) ∧ let r5 : Int := ((h38_1 + (ix s2 (IntKind.i64.wrap (s9 + 1)))) % 18446744069414584321)
 k9h (r0.a0, r0.a1, r0.a2, ()) nx1 (s0, s2, s9, h0_0, h0_1, h0_2, h1_0, r3, r5, h38_2, ())) ∧
(v4 = false →
 k9h (r0.a0, r0.a1, r0.a2, ()) nx1 (s0, s2, s9, h0_0, h0_1, h0_2, h1_0, r3, h38_1, h38_2, ()))) ∧
(decide (s9 < (s2.length : Int)) = false →
 h38_0 = r0.a0 ∧ h38_1 = r0.a1 ∧ h38_2 = r0.a2)
set_option maxRecDepth 100000 in
theorem k11k {r0 : TA3} {s0 : Int} {s2 : List Int} {h0_0 : Int} {h0_1 : Int} {h0_2 : Int} {h1_0 : Int} {s9 : Int} {h38_0 : Int} {h38_1 : Int} {h38_2 : Int} (inv : Int → Int → Int → Int → Prop) (μ : Int → Int → Int → Int → Nat) (h0 : inv s9 h38_0 h38_1 h38_2) (hs : ∀ (s9 : Int) (h38_0 : Int) (h38_1 : Int) (h38_2 : Int), inv s9 h38_0 h38_1 h38_2 → ktc r0 (fun s : Int × (List Int) × Int × Int × Int × Int × Int × Int × Int × Int × Unit => ((s.1 = s0 ∧ s.2.1 = s2 ∧ s.2.2.2.1 = h0_0 ∧ s.2.2.2.2.1 = h0_1 ∧ s.2.2.2.2.2.1 = h0_2 ∧ s.2.2.2.2.2.2.1 = h1_0) ∧ inv s.2.2.1 s.2.2.2.2.2.2.2.1 s.2.2.2.2.2.2.2.2.1 s.2.2.2.2.2.2.2.2.2.1) ∧ μ s.2.2.1 s.2.2.2.2.2.2.2.1 s.2.2.2.2.2.2.2.2.1 s.2.2.2.2.2.2.2.2.2.1 < μ s9 h38_0 h38_1 h38_2) (fun s9q h38_0q h38_1q h38_2q => inv s9q h38_0q h38_1q h38_2q ∧ μ s9q h38_0q h38_1q h38_2q < μ s9 h38_0 h38_1 h38_2) s0 s2 h0_0 h0_1 h0_2 h1_0 s9 h38_0 h38_1 h38_2) : Md.Loop (s0, s2, s9, h0_0, h0_1, h0_2, h1_0, h38_0, h38_1, h38_2, ()) (kc7 (r0.a0, r0.a1, r0.a2, ())) :=
  ⟨⟨fun s : Int × (List Int) × Int × Int × Int × Int × Int × Int × Int × Int × Unit => (s.1 = s0 ∧ s.2.1 = s2 ∧ s.2.2.2.1 = h0_0 ∧ s.2.2.2.2.1 = h0_1 ∧ s.2.2.2.2.2.1 = h0_2 ∧ s.2.2.2.2.2.2.1 = h1_0) ∧ inv s.2.2.1 s.2.2.2.2.2.2.2.1 s.2.2.2.2.2.2.2.2.1 s.2.2.2.2.2.2.2.2.2.1, fun s : Int × (List Int) × Int × Int × Int × Int × Int × Int × Int × Int × Unit => μ s.2.2.1 s.2.2.2.2.2.2.2.1 s.2.2.2.2.2.2.2.2.1 s.2.2.2.2.2.2.2.2.2.1, ⟨⟨rfl, rfl, rfl, rfl, rfl, rfl⟩, h0⟩, fun (s0p, s2p, s9p, h0_0p, h0_1p, h0_2p, h1_0p, h38_0p, h38_1p, h38_2p, ()) ⟨⟨eq0, eq1, eq2, eq3, eq4, eq5⟩, hi⟩ => by
    have eq0 : s0p = s0 := eq0; subst s0p; have eq1 : s2p = s2 := eq1; subst s2p; have eq2 : h0_0p = h0_0 := eq2; subst h0_0p; have eq3 : h0_1p = h0_1 := eq3; subst h0_1p; have eq4 : h0_2p = h0_2 := eq4; subst h0_2p; have eq5 : h1_0p = h1_0 := eq5; subst h1_0p; exact mpr_of (by kernel_rfl) ((congrArg (fun k => ktc r0 (fun s : Int × (List Int) × Int × Int × Int × Int × Int × Int × Int × Int × Unit => ((s.1 = s0 ∧ s.2.1 = s2 ∧ s.2.2.2.1 = h0_0 ∧ s.2.2.2.2.1 = h0_1 ∧ s.2.2.2.2.2.1 = h0_2 ∧ s.2.2.2.2.2.2.1 = h1_0) ∧ inv s.2.2.1 s.2.2.2.2.2.2.2.1 s.2.2.2.2.2.2.2.2.1 s.2.2.2.2.2.2.2.2.2.1) ∧ μ s.2.2.1 s.2.2.2.2.2.2.2.1 s.2.2.2.2.2.2.2.2.1 s.2.2.2.2.2.2.2.2.2.1 < μ s9p h38_0p h38_1p h38_2p) k s0 s2 h0_0 h0_1 h0_2 h1_0 s9p h38_0p h38_1p h38_2p) (lpk4 (⟨rfl, rfl, rfl, rfl, rfl, rfl⟩ : s0 = s0 ∧ s2 = s2 ∧ h0_0 = h0_0 ∧ h0_1 = h0_1 ∧ h0_2 = h0_2 ∧ h1_0 = h1_0) inv (fun s9q h38_0q h38_1q h38_2q => μ s9q h38_0q h38_1q h38_2q < μ s9p h38_0p h38_1p h38_2p))).mpr (hs s9p h38_0p h38_1p h38_2p hi))⟩⟩
theorem bd45 : Callable Try.prog 45 := ⟨by rw [Try.func45]; kernel_rfl, by rw [Try.func45]; show some _ ≠ some _; decide⟩
theorem k10r (p0 : Int) (p1 : Int) (p2 : List Int) (h : p0 = 18446744069414584321 ∧ U64 p1 ∧ Us p2 ∧ p2.length ≤ 1099511627776) : khu (p0, p1, p2, ()) (((absS p1 p2).a0 : Int), ((absS p1 p2).a1 : Int), ((absS p1 p2).a2 : Int), ()) := by
  obtain ⟨hP, h1, h2, h3⟩ := h
  subst hP
  have hp : ∀ s : TA3, S3 (permS s) := fun s => by
    show S3 (rnd _ _)
    unfold rnd mixS S3
    dsimp only
    omega
  have hi : S3 (absI p1 p2) := by unfold absI S3; dsimp only; omega
  have e : IntKind.u64.wrap (p2.length : Int) = p2.length := wu _ (by omega) (by omega)
  have em : (p1 * 65536 % 18446744069414584321 + (p2.length : Int)) % 18446744069414584321 = (absI p1 p2).a2 := rfl
  refine k133 ?_
  rw [e]
  refine ⟨⟨rfl, h1, by omega⟩, ⟨rfl, by omega, by omega⟩, fun h => ?_, fun h => ?_⟩
  · have h : p2 = [] := by simpa using h
    refine ⟨⟨rfl, ?_⟩, ?_⟩
    · exact hi
    · have : permS ⟨0, 0, (p1 * 65536 % 18446744069414584321 + (p2.length : Int)) % 18446744069414584321⟩ = absS p1 p2 := by unfold absS; rw [if_pos h]; rfl
      rw [this]
      exact ⟨rfl, rfl, rfl⟩
  · have h : p2 ≠ [] := by simpa using h
    have hv : absL p2 (absI p1 p2) = absS p1 p2 := by unfold absS; rw [if_neg h]
    rw [em]
    refine k11k (r0 := absS p1 p2) (fun i a b c => 0 ≤ i ∧ i ≤ p2.length + 1 ∧ absL (p2.drop i.toNat) ⟨a, b, c⟩ = absS p1 p2 ∧ S3 ⟨a, b, c⟩) (fun i _ _ _ => (p2.length + 2 - i).toNat) ⟨by omega, by omega, hv, hi⟩ ?_
    rintro i a b c ⟨g0, g1, g2, g3⟩
    obtain ⟨h3a, h3b, h3c⟩ := g3
    refine ⟨fun hh => ?_, fun hh => ?_⟩
    · have hh := of_decide_eq_true hh
      have hx := h2 _ (ix_mem p2 i g0 hh)
      rw [wi (i + 1) (by omega) (by omega)]
      have fin : ∀ nx x y z, S3 ⟨x, y, z⟩ → absL (p2.drop (i + 2).toNat) (permS ⟨x, y, z⟩) = absS p1 p2 → (0 ≤ i + 2 ∧ i + 2 ≤ p2.length + 1 ∧ absL (p2.drop (i + 2).toNat) (permS ⟨x, y, z⟩) = absS p1 p2 ∧ S3 (permS ⟨x, y, z⟩) → (p2.length + 2 - (i + 2)).toNat < (p2.length + 2 - i).toNat → nx ((18446744069414584321 : Int), p2, (i + 2 : Int), (0 : Int), (0 : Int), (0 : Int), (18446744069414584321 : Int), (permS ⟨x, y, z⟩).a0, (permS ⟨x, y, z⟩).a1, (permS ⟨x, y, z⟩).a2, ())) → k9h ((absS p1 p2).a0, (absS p1 p2).a1, (absS p1 p2).a2, ()) nx ((18446744069414584321 : Int), p2, i, (0 : Int), (0 : Int), (0 : Int), (18446744069414584321 : Int), x, y, z, ()) := by
        intro nx x y z hS hv' hn
        refine kz9 (r0 := absS p1 p2) ?_
        rw [wi (i + 2) (by omega) (by omega)]
        exact ⟨⟨rfl, hS⟩, hn ⟨by omega, by omega, hv', hp _⟩ (by omega)⟩
      have hdrop := drop_ix p2 i g0 hh
      rw [hdrop] at g2
      refine ⟨g0, hh, ⟨rfl, h3a, hx⟩, fun h5 => ?_, fun h5 => ?_⟩
      · have h5 := of_decide_eq_true h5
        have hy := h2 _ (ix_mem p2 (i + 1) (by omega) h5)
        rw [drop_ix p2 (i + 1) (by omega) h5, show i + 1 + 1 = i + 2 by omega] at g2
        refine ⟨by omega, h5, ⟨rfl, h3b, hy⟩, fin _ _ _ _ (S3m (by omega) (by omega) h3c) g2 fun k1 k2 => ⟨⟨⟨rfl, rfl, rfl, rfl, rfl, rfl⟩, k1⟩, k2⟩⟩
      · have h5 := of_decide_eq_false h5
        have ed : p2.drop (i + 1).toNat = [] := List.drop_eq_nil_of_le (by omega)
        have ed2 : p2.drop (i + 2).toNat = [] := List.drop_eq_nil_of_le (by omega)
        rw [ed] at g2
        exact fin _ _ _ _ (S3m (by omega) h3b h3c) (by rw [ed2]; exact g2) fun k1 k2 => ⟨⟨⟨rfl, rfl, rfl, rfl, rfl, rfl⟩, k1⟩, k2⟩
    · have hh := of_decide_eq_false hh
      rw [List.drop_eq_nil_of_le (by omega)] at g2
      have g2 : (⟨a, b, c⟩ : TA3) = absS p1 p2 := g2
      rw [← g2]
      exact ⟨rfl, rfl, rfl⟩
noncomputable def kri : Con TB.den := k2d.fnR (fun x => (fun (p0 : Int) (p1 : Int) (p2 : List Int) => p0 = 18446744069414584321 ∧ U64 p1 ∧ Us p2 ∧ p2.length ≤ 1099511627776) x.1 x.2.1 x.2.2.1) fun x => ((fun (p0 : Int) (p1 : Int) (p2 : List Int) => ((absS p1 p2).a0 : Int)) x.1 x.2.1 x.2.2.1, (fun (p0 : Int) (p1 : Int) (p2 : List Int) => ((absS p1 p2).a1 : Int)) x.1 x.2.1 x.2.2.1, (fun (p0 : Int) (p1 : Int) (p2 : List Int) => ((absS p1 p2).a2 : Int)) x.1 x.2.1 x.2.2.1, ())
theorem k14d : kri.Ok Try.prog TB := Con.ok_fn k2d bd45 fun x h => k11u (k10r x.1 x.2.1 x.2.2.1 h)
end Go.Proofs.Ytponaobpcdkggaa
namespace Go.Proofs.Ytponaobpcdkggaa
open Go Go.Bv Go.Cv Go.Md Go.RowKit
def k3s : Con TB.den := Con.mk0 35 [.one (.d (.int .u64)), .one (.d (.int .u64)), .one (.d (.sl (.int .u64)))] [] (.one (.one (.d (.int .u64)))) []
abbrev ky9 := HL TB.den (hsT k3s.ins (hsOs k3s.pre))
abbrev klq := HL TB.den (hsV k3s.res (hsOs k3s.post))
noncomputable def kfr : Cx TB := ⟨inf, [k8y, kri], [], 4, []⟩
noncomputable def klz : Code := Try.f35.body.getD .skip
noncomputable def kpp : List ResultVar := Try.f35.results.toList
noncomputable def kwm (o : klq) : An TB := .no
noncomputable def km1 (x : ky9) (o : klq) : Prop := WPh TB kfr 16 0 klz (kwm o) (k3s.st TB x) (retTQ TB kfr k3s kpp o)
set_option maxRecDepth 100000 in
theorem k165 (o : klq) : OblH TB kfr 16 0 klz (kwm o) (retTQ TB kfr k3s kpp o) :=
  OblH.of_eq (X := (True ∧ ((True ∧ ((True ∧ True) ∧ True)) ∧ (True ∧ True)))) (by kernel_rfl) ⟨trivial, ⟨⟨trivial, ⟨⟨trivial, trivial⟩, trivial⟩⟩, ⟨trivial, trivial⟩⟩⟩
set_option maxRecDepth 100000 in
theorem k154 {x : ky9} {o : klq} (h : km1 x o) : SoundH Try.prog k3s.f ((k3s.args idf x).map (er TB)) ((k3s.obs idf x).map (erO TB)) (er TB (k3s.val idf o)) ((k3s.ops idf o).map (erO TB)) :=
  Con.soundH (c := k3s) (C := kfr) TBok ⟨inf_ok, (all_cons kbr (all_cons k14d all_nil)), all_nil⟩ mix Try.func35 (show Try.f35.body = some klz by kernel_rfl) (show Try.f35.ntmps = 16 by kernel_rfl) (show Try.f35.results.toList = kpp by kernel_rfl) rfl h (k165 o)
set_option maxRecDepth 100000 in
theorem k17d {p0 : Int} {p1 : Int} {p2 : List Int} {r0 : Int} (h :
(((TField.mk p0).P = 18446744069414584321) ∧ ((!true) = true →
 0 = r0) ∧
((!true) = false →
(p0 = 18446744069414584321 ∧ U64 p1 ∧ Us p2 ∧ p2.length ≤ 1099511627776) ∧ (absS p1 p2).a0 = r0))) : km1 (p0, p1, p2, ()) (r0, ()) := WPh.of_eq (by kernel_rfl) h
theorem bd35 : Callable Try.prog 35 := ⟨by rw [Try.func35]; kernel_rfl, by rw [Try.func35]; show some _ ≠ some _; decide⟩
theorem k130 (p0 : Int) (p1 : Int) (p2 : List Int) (h : p0 = 18446744069414584321 ∧ U64 p1 ∧ Us p2 ∧ p2.length ≤ 1099511627776) : km1 (p0, p1, p2, ()) (((hashS p1 p2) : Int), ()) := by
  obtain ⟨hP, h1, h2, h3⟩ := h
  subst hP
  exact k17d ⟨rfl, fun h => by simp at h, fun _ => ⟨⟨rfl, h1, h2, h3⟩, rfl⟩⟩
noncomputable def kuw : Con TB.den := k3s.fnR (fun x => (fun (p0 : Int) (p1 : Int) (p2 : List Int) => p0 = 18446744069414584321 ∧ U64 p1 ∧ Us p2 ∧ p2.length ≤ 1099511627776) x.1 x.2.1 x.2.2.1) fun x => ((fun (p0 : Int) (p1 : Int) (p2 : List Int) => ((hashS p1 p2) : Int)) x.1 x.2.1 x.2.2.1, ())
theorem k17h : kuw.Ok Try.prog TB := Con.ok_fn k3s bd35 fun x h => k154 (k130 x.1 x.2.1 x.2.2.1 h)
end Go.Proofs.Ytponaobpcdkggaa
namespace Go.Proofs.Ytponaobpcdkggaa
open Go Go.Bv Go.Cv Go.Md Go.RowKit
def k2k : Con TB.den := Con.mk0 30 [.one (.ptr 0 0), .one (.d (.int .u64)), .one (.d (.sl (.int .u64)))] [.cells [.d (.bool), .d (.int .u64), .d (.int .i64), .own 1, .mp 2, .mp 3, .mp 4], .tip (.st 1), .map (.str) (.int .i64), .map (.str) (.sl (.int .u64)), .map (.str) (.bool)] (.one (.one (.d (.int .u64)))) [.cells [.d (.bool), .d (.int .u64), .d (.int .i64), .own 1, .mp 2, .mp 3, .mp 4], .tip (.st 1), .map (.str) (.int .i64), .map (.str) (.sl (.int .u64)), .map (.str) (.bool)]
abbrev kun := HL TB.den (hsT k2k.ins (hsOs k2k.pre))
abbrev k7i := HL TB.den (hsV k2k.res (hsOs k2k.post))
noncomputable def k80 : Cx TB := ⟨inf, [kot, kwk, krf, kuw, koq], [], 4, []⟩
noncomputable def kd1 : Code := Try.f30.body.getD .skip
noncomputable def kgd : List ResultVar := Try.f30.results.toList
def ke2 : Tm := ⟨[0, 1, 2, 3, 4], [.cells [.d (.bool), .d (.int .u64), .d (.int .i64), .own 1, .mp 2, .mp 3, .mp 4], .tip (.st 1), .map (.str) (.int .i64), .map (.str) (.sl (.int .u64)), .map (.str) (.bool)], [0, 1, 2, 7, 10], [.one (.ptr 0 0), .one (.d (.int .u64)), .one (.d (.sl (.int .u64))), .one (.d (.str)), .one (.d (.int .u64))], 6⟩
noncomputable def krl (o : k7i) (i : HL TB.den ke2.hs) : Prop := ghs TB [] (ke2.fill TB i) fun s => WP TB k80 52 5 (cB (cB (cB (cB (cB (cB kd1)))))) .no s (retTQ TB k80 k2k kgd o)
structure kc5 (o : k7i) (i : HL TB.den ke2.hs) : Prop where
  h : krl o i
noncomputable def k149 (o : k7i) : An TB := .nd [] .no [] (.jn ke2 (kc5 o) [] .no [] .no)
noncomputable def k140 (o : k7i) : An TB := .nd [] .no [] (.nd [] .no [] (.nd [] .no [] (k149 o)))
noncomputable def kss (o : k7i) : An TB := .nd [] .no [] (k140 o)
noncomputable def kid (x : kun) (o : k7i) : Prop := WPh TB k80 52 5 kd1 (kss o) (k2k.st TB x) (retTQ TB k80 k2k kgd o)
set_option maxRecDepth 100000 in
theorem k11h (o : k7i) : OblH TB k80 52 5 kd1 (kss o) (retTQ TB k80 k2k kgd o) :=
  OblH.of_eq (X := (True ∧ ((True ∧ ((True ∧ True) ∧ True)) ∧ (True ∧ ((True ∧ (True ∧ ((True ∧ True) ∧ True))) ∧ (True ∧ ((True ∧ (True ∧ True)) ∧ (∀ i, (kc5 o) i = (krl o) i) ∧ (True ∧ (True ∧ True))))))))) (by kernel_rfl) ⟨trivial, ⟨⟨trivial, ⟨⟨trivial, trivial⟩, trivial⟩⟩, ⟨trivial, ⟨⟨trivial, ⟨trivial, ⟨⟨trivial, trivial⟩, trivial⟩⟩⟩, ⟨trivial, ⟨⟨trivial, ⟨trivial, trivial⟩⟩, fun _ => propext ⟨fun h => h.1, fun h => ⟨h⟩⟩, ⟨trivial, ⟨trivial, trivial⟩⟩⟩⟩⟩⟩⟩⟩
set_option maxRecDepth 100000 in
theorem k11z {x : kun} {o : k7i} (h : kid x o) : SoundH Try.prog k2k.f ((k2k.args idf x).map (er TB)) ((k2k.obs idf x).map (erO TB)) (er TB (k2k.val idf o)) ((k2k.ops idf o).map (erO TB)) :=
  Con.soundH (c := k2k) (C := k80) TBok ⟨inf_ok, (all_cons k10a (all_cons k19d (all_cons k142 (all_cons k17h (all_cons kzw all_nil))))), all_nil⟩ mix Try.func30 (show Try.f30.body = some kd1 by kernel_rfl) (show Try.f30.ntmps = 52 by kernel_rfl) (show Try.f30.results.toList = kgd by kernel_rfl) rfl h (k11h o)
set_option maxRecDepth 100000 in
theorem k14l {p1 : Int} {p2 : List Int} {c0_0 : Bool} {c0_1 : Int} {c0_2 : Int} {w1 : List TQuestion} {w2k : List ByteArray} {w2v : List Int} {w3k : List ByteArray} {w3v : List (List Int)} {w4k : List ByteArray} {w4v : List Bool} {r0 : Int} {d0_0 : Bool} {d0_1 : Int} {d0_2 : Int} {e1 : List TQuestion} {e2k : List ByteArray} {e2v : List Int} {e3k : List ByteArray} {e3v : List (List Int)} {e4k : List ByteArray} {e4v : List Bool} (h :
((p2.length ≤ 9223372036854775807) ∧ ((!(allB p2)) = true →
(w1 = w1) ∧ 0 = r0 ∧ c0_0 = d0_0 ∧ c0_1 = d0_1 ∧ c0_2 = d0_2 ∧ w1 = e1 ∧ w2k = e2k ∧ w2v = e2v ∧ w3k = e3k ∧ w3v = e3v ∧ w4k = e4k ∧ w4v = e4v) ∧
((!(allB p2)) = false →
(Us p2 ∧ Us [p1] ∧ p2.length ≤ 1073741824 ∧ [p1].length ≤ 1073741824) ∧ w2k.length = w2v.length ∧ let v1 : Int := mVal (BEq.beq (keyB [p1] p2)) w2k w2v (0 : Int)
(mHas (BEq.beq (keyB [p1] p2)) w2k = true →
(0 ≤ v1) ∧ v1 < (w1.length : Int) ∧ (w1 = w1) ∧ (ix w1 v1).Answer = r0 ∧ c0_0 = d0_0 ∧ c0_1 = d0_1 ∧ c0_2 = d0_2 ∧ w1 = e1 ∧ w2k = e2k ∧ w2v = e2v ∧ w3k = e3k ∧ w3v = e3v ∧ w4k = e4k ∧ w4v = e4v) ∧
(mHas (BEq.beq (keyB [p1] p2)) w2k = false →
(c0_0 = true →
(w1 = w1) ∧ let r2 : Int := ((drO (OS.mk c0_0 c0_1 c0_2 w1 w2k w2v w3k w3v w4k w4v)).n)
 let r3 : Bool := ((drO (OS.mk c0_0 c0_1 c0_2 w1 w2k w2v w3k w3v w4k w4v)).o.a)
 let r4 : Int := ((drO (OS.mk c0_0 c0_1 c0_2 w1 w2k w2v w3k w3v w4k w4v)).o.b)
 let r5 : Int := ((drO (OS.mk c0_0 c0_1 c0_2 w1 w2k w2v w3k w3v w4k w4v)).o.c)
 let r6 : List TQuestion := ((drO (OS.mk c0_0 c0_1 c0_2 w1 w2k w2v w3k w3v w4k w4v)).o.q)
 let r7 : List ByteArray := ((drO (OS.mk c0_0 c0_1 c0_2 w1 w2k w2v w3k w3v w4k w4v)).o.k)
 let r8 : List Int := ((drO (OS.mk c0_0 c0_1 c0_2 w1 w2k w2v w3k w3v w4k w4v)).o.v)
 let r9 : List ByteArray := ((drO (OS.mk c0_0 c0_1 c0_2 w1 w2k w2v w3k w3v w4k w4v)).o.s)
 let r10 : List (List Int) := ((drO (OS.mk c0_0 c0_1 c0_2 w1 w2k w2v w3k w3v w4k w4v)).o.t)
 let r11 : List ByteArray := ((drO (OS.mk c0_0 c0_1 c0_2 w1 w2k w2v w3k w3v w4k w4v)).o.x)
 let r12 : List Bool := ((drO (OS.mk c0_0 c0_1 c0_2 w1 w2k w2v w3k w3v w4k w4v)).o.y)
(r6 = r6) ∧ kc5 (r0, d0_0, d0_1, d0_2, e1, e2k, e2v, e3k, e3v, e4k, e4v, ()) (p1, p2, ((keyB [p1] p2) : ByteArray), r2, r3, r4, r5, r6, r7, r8, r9, r10, r11, r12, ())) ∧
(c0_0 = false →
((18446744069414584321 : Int) = 18446744069414584321 ∧ U64 p1 ∧ Us p2 ∧ p2.length ≤ 1099511627776) ∧ (w1 = w1) ∧ kc5 (r0, d0_0, d0_1, d0_2, e1, e2k, e2v, e3k, e3v, e4k, e4v, ()) (p1, p2, ((keyB [p1] p2) : ByteArray), ((hashS p1 p2) : Int), c0_0, c0_1, c0_2, w1, w2k, w2v, w3k, w3v, w4k, w4v, ())))))) : kid (p1, p2, c0_0, c0_1, c0_2, w1, w2k, w2v, w3k, w3v, w4k, w4v, ()) (r0, d0_0, d0_1, d0_2, e1, e2k, e2v, e3k, e3v, e4k, e4v, ()) := WPh.of_eq (by kernel_rfl) h
set_option maxRecDepth 100000 in
theorem koo {r0 : Int} {d0_0 : Bool} {d0_1 : Int} {d0_2 : Int} {e1 : List TQuestion} {e2k : List ByteArray} {e2v : List Int} {e3k : List ByteArray} {e3v : List (List Int)} {e4k : List ByteArray} {e4v : List Bool} {s1 : Int} {s2 : List Int} {s7 : ByteArray} {s10 : Int} {h0_0 : Bool} {h0_1 : Int} {h0_2 : Int} {g1 : List TQuestion} {g2k : List ByteArray} {g2v : List Int} {g3k : List ByteArray} {g3v : List (List Int)} {g4k : List ByteArray} {g4v : List Bool} (h :
((g1 = g1) ∧ (g2k.length = g2v.length ∧ g1.length ≤ 1000000 ∧ s2.length ≤ 1000000000) ∧ let r13 : Bool := ((recO (OS.mk h0_0 h0_1 h0_2 g1 g2k g2v g3k g3v g4k g4v) s7 s1 s2 s10).a)
 let r14 : Int := ((recO (OS.mk h0_0 h0_1 h0_2 g1 g2k g2v g3k g3v g4k g4v) s7 s1 s2 s10).b)
 let r15 : Int := ((recO (OS.mk h0_0 h0_1 h0_2 g1 g2k g2v g3k g3v g4k g4v) s7 s1 s2 s10).c)
 let r16 : List TQuestion := ((recO (OS.mk h0_0 h0_1 h0_2 g1 g2k g2v g3k g3v g4k g4v) s7 s1 s2 s10).q)
 let r17 : List ByteArray := ((recO (OS.mk h0_0 h0_1 h0_2 g1 g2k g2v g3k g3v g4k g4v) s7 s1 s2 s10).k)
 let r18 : List Int := ((recO (OS.mk h0_0 h0_1 h0_2 g1 g2k g2v g3k g3v g4k g4v) s7 s1 s2 s10).v)
 let r19 : List ByteArray := ((recO (OS.mk h0_0 h0_1 h0_2 g1 g2k g2v g3k g3v g4k g4v) s7 s1 s2 s10).s)
 let r20 : List (List Int) := ((recO (OS.mk h0_0 h0_1 h0_2 g1 g2k g2v g3k g3v g4k g4v) s7 s1 s2 s10).t)
 let r21 : List ByteArray := ((recO (OS.mk h0_0 h0_1 h0_2 g1 g2k g2v g3k g3v g4k g4v) s7 s1 s2 s10).x)
 let r22 : List Bool := ((recO (OS.mk h0_0 h0_1 h0_2 g1 g2k g2v g3k g3v g4k g4v) s7 s1 s2 s10).y)
(r16 = r16) ∧ s10 = r0 ∧ r13 = d0_0 ∧ r14 = d0_1 ∧ r15 = d0_2 ∧ r16 = e1 ∧ r17 = e2k ∧ r18 = e2v ∧ r19 = e3k ∧ r20 = e3v ∧ r21 = e4k ∧ r22 = e4v)) : kc5 (r0, d0_0, d0_1, d0_2, e1, e2k, e2v, e3k, e3v, e4k, e4v, ()) (s1, s2, s7, s10, h0_0, h0_1, h0_2, g1, g2k, g2v, g3k, g3v, g4k, g4v, ()) := ⟨mpr_of (by kernel_rfl) h⟩
theorem bd30 : Callable Try.prog 30 := ⟨by rw [Try.func30]; kernel_rfl, by rw [Try.func30]; show some _ ≠ some _; decide⟩
theorem k100 (p1 : Int) (p2 : List Int) (c0_0 : Bool) (c0_1 : Int) (c0_2 : Int) (w1 : List TQuestion) (w2k : List ByteArray) (w2v : List Int) (w3k : List ByteArray) (w3v : List (List Int)) (w4k : List ByteArray) (w4v : List Bool) (h : U64 p1 ∧ (Us p2 ∧ p2.length ≤ 1000000000) ∧ OOk (OS.mk c0_0 c0_1 c0_2 w1 w2k w2v w3k w3v w4k w4v)) : kid (p1, p2, c0_0, c0_1, c0_2, w1, w2k, w2v, w3k, w3v, w4k, w4v, ()) ((((hO (OS.mk c0_0 c0_1 c0_2 w1 w2k w2v w3k w3v w4k w4v) p1 p2).n) : Int), (((hO (OS.mk c0_0 c0_1 c0_2 w1 w2k w2v w3k w3v w4k w4v) p1 p2).o.a) : Bool), (((hO (OS.mk c0_0 c0_1 c0_2 w1 w2k w2v w3k w3v w4k w4v) p1 p2).o.b) : Int), (((hO (OS.mk c0_0 c0_1 c0_2 w1 w2k w2v w3k w3v w4k w4v) p1 p2).o.c) : Int), (((hO (OS.mk c0_0 c0_1 c0_2 w1 w2k w2v w3k w3v w4k w4v) p1 p2).o.q) : List TQuestion), (((hO (OS.mk c0_0 c0_1 c0_2 w1 w2k w2v w3k w3v w4k w4v) p1 p2).o.k) : List ByteArray), (((hO (OS.mk c0_0 c0_1 c0_2 w1 w2k w2v w3k w3v w4k w4v) p1 p2).o.v) : List Int), (((hO (OS.mk c0_0 c0_1 c0_2 w1 w2k w2v w3k w3v w4k w4v) p1 p2).o.s) : List ByteArray), (((hO (OS.mk c0_0 c0_1 c0_2 w1 w2k w2v w3k w3v w4k w4v) p1 p2).o.t) : List (List Int)), (((hO (OS.mk c0_0 c0_1 c0_2 w1 w2k w2v w3k w3v w4k w4v) p1 p2).o.x) : List ByteArray), (((hO (OS.mk c0_0 c0_1 c0_2 w1 w2k w2v w3k w3v w4k w4v) p1 p2).o.y) : List Bool), ()) := by
  obtain ⟨h1, ⟨h2, h3⟩, h4⟩ := h
  have hl := h4.or.len
  have hq := h4.q
  refine k14l ⟨by omega, fun e => ?_, fun e => ?_⟩
  · have e : allB p2 = false := by simpa using e
    unfold hO
    rw [if_neg (by rw [e]; decide)]
    exact ⟨rfl, rfl, rfl, rfl, rfl, rfl, rfl, rfl, rfl, rfl, rfl, rfl⟩
  · have e : allB p2 = true := by simpa using e
    refine ⟨⟨h2, fun x hx => by rw [List.mem_singleton.1 hx]; exact h1, by omega, by simp⟩, hl, ?_⟩
    try dsimp only
    refine ⟨fun e2 => ?_, fun e2 => ?_⟩
    · have := k1be h4 e2
      unfold hO
      rw [if_pos e, if_pos e2]
      exact ⟨this.1, this.2, rfl, rfl, rfl, rfl, rfl, rfl, rfl, rfl, rfl, rfl, rfl, rfl⟩
    · have e3 : ¬ mHas (BEq.beq (keyB [p1] p2)) (OS.mk c0_0 c0_1 c0_2 w1 w2k w2v w3k w3v w4k w4v).k = true := by rw [e2]; decide
      unfold hO
      rw [if_pos e, if_neg e3]
      refine ⟨fun e4 => ?_, fun e4 => ?_⟩
      · subst e4
        exact ⟨rfl, rfl, koo ⟨rfl, ⟨hl, hq, h3⟩, rfl, rfl, rfl, rfl, rfl, rfl, rfl, rfl, rfl, rfl, rfl, rfl⟩⟩
      · subst e4
        exact ⟨⟨rfl, h1, h2, by omega⟩, rfl, koo ⟨rfl, ⟨hl, hq, h3⟩, rfl, rfl, rfl, rfl, rfl, rfl, rfl, rfl, rfl, rfl, rfl, rfl⟩⟩
noncomputable def kkk : Con TB.den := k2k.fnR (fun x => (fun (p1 : Int) (p2 : List Int) (c0_0 : Bool) (c0_1 : Int) (c0_2 : Int) (w1 : List TQuestion) (w2k : List ByteArray) (w2v : List Int) (w3k : List ByteArray) (w3v : List (List Int)) (w4k : List ByteArray) (w4v : List Bool) => U64 p1 ∧ (Us p2 ∧ p2.length ≤ 1000000000) ∧ OOk (OS.mk c0_0 c0_1 c0_2 w1 w2k w2v w3k w3v w4k w4v)) x.1 x.2.1 x.2.2.1 x.2.2.2.1 x.2.2.2.2.1 x.2.2.2.2.2.1 x.2.2.2.2.2.2.1 x.2.2.2.2.2.2.2.1 x.2.2.2.2.2.2.2.2.1 x.2.2.2.2.2.2.2.2.2.1 x.2.2.2.2.2.2.2.2.2.2.1 x.2.2.2.2.2.2.2.2.2.2.2.1) fun x => ((fun (p1 : Int) (p2 : List Int) (c0_0 : Bool) (c0_1 : Int) (c0_2 : Int) (w1 : List TQuestion) (w2k : List ByteArray) (w2v : List Int) (w3k : List ByteArray) (w3v : List (List Int)) (w4k : List ByteArray) (w4v : List Bool) => (((hO (OS.mk c0_0 c0_1 c0_2 w1 w2k w2v w3k w3v w4k w4v) p1 p2).n) : Int)) x.1 x.2.1 x.2.2.1 x.2.2.2.1 x.2.2.2.2.1 x.2.2.2.2.2.1 x.2.2.2.2.2.2.1 x.2.2.2.2.2.2.2.1 x.2.2.2.2.2.2.2.2.1 x.2.2.2.2.2.2.2.2.2.1 x.2.2.2.2.2.2.2.2.2.2.1 x.2.2.2.2.2.2.2.2.2.2.2.1, (fun (p1 : Int) (p2 : List Int) (c0_0 : Bool) (c0_1 : Int) (c0_2 : Int) (w1 : List TQuestion) (w2k : List ByteArray) (w2v : List Int) (w3k : List ByteArray) (w3v : List (List Int)) (w4k : List ByteArray) (w4v : List Bool) => (((hO (OS.mk c0_0 c0_1 c0_2 w1 w2k w2v w3k w3v w4k w4v) p1 p2).o.a) : Bool)) x.1 x.2.1 x.2.2.1 x.2.2.2.1 x.2.2.2.2.1 x.2.2.2.2.2.1 x.2.2.2.2.2.2.1 x.2.2.2.2.2.2.2.1 x.2.2.2.2.2.2.2.2.1 x.2.2.2.2.2.2.2.2.2.1 x.2.2.2.2.2.2.2.2.2.2.1 x.2.2.2.2.2.2.2.2.2.2.2.1, (fun (p1 : Int) (p2 : List Int) (c0_0 : Bool) (c0_1 : Int) (c0_2 : Int) (w1 : List TQuestion) (w2k : List ByteArray) (w2v : List Int) (w3k : List ByteArray) (w3v : List (List Int)) (w4k : List ByteArray) (w4v : List Bool) => (((hO (OS.mk c0_0 c0_1 c0_2 w1 w2k w2v w3k w3v w4k w4v) p1 p2).o.b) : Int)) x.1 x.2.1 x.2.2.1 x.2.2.2.1 x.2.2.2.2.1 x.2.2.2.2.2.1 x.2.2.2.2.2.2.1 x.2.2.2.2.2.2.2.1 x.2.2.2.2.2.2.2.2.1 x.2.2.2.2.2.2.2.2.2.1 x.2.2.2.2.2.2.2.2.2.2.1 x.2.2.2.2.2.2.2.2.2.2.2.1, (fun (p1 : Int) (p2 : List Int) (c0_0 : Bool) (c0_1 : Int) (c0_2 : Int) (w1 : List TQuestion) (w2k : List ByteArray) (w2v : List Int) (w3k : List ByteArray) (w3v : List (List Int)) (w4k : List ByteArray) (w4v : List Bool) => (((hO (OS.mk c0_0 c0_1 c0_2 w1 w2k w2v w3k w3v w4k w4v) p1 p2).o.c) : Int)) x.1 x.2.1 x.2.2.1 x.2.2.2.1 x.2.2.2.2.1 x.2.2.2.2.2.1 x.2.2.2.2.2.2.1 x.2.2.2.2.2.2.2.1 x.2.2.2.2.2.2.2.2.1 x.2.2.2.2.2.2.2.2.2.1 x.2.2.2.2.2.2.2.2.2.2.1 x.2.2.2.2.2.2.2.2.2.2.2.1, (fun (p1 : Int) (p2 : List Int) (c0_0 : Bool) (c0_1 : Int) (c0_2 : Int) (w1 : List TQuestion) (w2k : List ByteArray) (w2v : List Int) (w3k : List ByteArray) (w3v : List (List Int)) (w4k : List ByteArray) (w4v : List Bool) => (((hO (OS.mk c0_0 c0_1 c0_2 w1 w2k w2v w3k w3v w4k w4v) p1 p2).o.q) : List TQuestion)) x.1 x.2.1 x.2.2.1 x.2.2.2.1 x.2.2.2.2.1 x.2.2.2.2.2.1 x.2.2.2.2.2.2.1 x.2.2.2.2.2.2.2.1 x.2.2.2.2.2.2.2.2.1 x.2.2.2.2.2.2.2.2.2.1 x.2.2.2.2.2.2.2.2.2.2.1 x.2.2.2.2.2.2.2.2.2.2.2.1, (fun (p1 : Int) (p2 : List Int) (c0_0 : Bool) (c0_1 : Int) (c0_2 : Int) (w1 : List TQuestion) (w2k : List ByteArray) (w2v : List Int) (w3k : List ByteArray) (w3v : List (List Int)) (w4k : List ByteArray) (w4v : List Bool) => (((hO (OS.mk c0_0 c0_1 c0_2 w1 w2k w2v w3k w3v w4k w4v) p1 p2).o.k) : List ByteArray)) x.1 x.2.1 x.2.2.1 x.2.2.2.1 x.2.2.2.2.1 x.2.2.2.2.2.1 x.2.2.2.2.2.2.1 x.2.2.2.2.2.2.2.1 x.2.2.2.2.2.2.2.2.1 x.2.2.2.2.2.2.2.2.2.1 x.2.2.2.2.2.2.2.2.2.2.1 x.2.2.2.2.2.2.2.2.2.2.2.1, (fun (p1 : Int) (p2 : List Int) (c0_0 : Bool) (c0_1 : Int) (c0_2 : Int) (w1 : List TQuestion) (w2k : List ByteArray) (w2v : List Int) (w3k : List ByteArray) (w3v : List (List Int)) (w4k : List ByteArray) (w4v : List Bool) => (((hO (OS.mk c0_0 c0_1 c0_2 w1 w2k w2v w3k w3v w4k w4v) p1 p2).o.v) : List Int)) x.1 x.2.1 x.2.2.1 x.2.2.2.1 x.2.2.2.2.1 x.2.2.2.2.2.1 x.2.2.2.2.2.2.1 x.2.2.2.2.2.2.2.1 x.2.2.2.2.2.2.2.2.1 x.2.2.2.2.2.2.2.2.2.1 x.2.2.2.2.2.2.2.2.2.2.1 x.2.2.2.2.2.2.2.2.2.2.2.1, (fun (p1 : Int) (p2 : List Int) (c0_0 : Bool) (c0_1 : Int) (c0_2 : Int) (w1 : List TQuestion) (w2k : List ByteArray) (w2v : List Int) (w3k : List ByteArray) (w3v : List (List Int)) (w4k : List ByteArray) (w4v : List Bool) => (((hO (OS.mk c0_0 c0_1 c0_2 w1 w2k w2v w3k w3v w4k w4v) p1 p2).o.s) : List ByteArray)) x.1 x.2.1 x.2.2.1 x.2.2.2.1 x.2.2.2.2.1 x.2.2.2.2.2.1 x.2.2.2.2.2.2.1 x.2.2.2.2.2.2.2.1 x.2.2.2.2.2.2.2.2.1 x.2.2.2.2.2.2.2.2.2.1 x.2.2.2.2.2.2.2.2.2.2.1 x.2.2.2.2.2.2.2.2.2.2.2.1, (fun (p1 : Int) (p2 : List Int) (c0_0 : Bool) (c0_1 : Int) (c0_2 : Int) (w1 : List TQuestion) (w2k : List ByteArray) (w2v : List Int) (w3k : List ByteArray) (w3v : List (List Int)) (w4k : List ByteArray) (w4v : List Bool) => (((hO (OS.mk c0_0 c0_1 c0_2 w1 w2k w2v w3k w3v w4k w4v) p1 p2).o.t) : List (List Int))) x.1 x.2.1 x.2.2.1 x.2.2.2.1 x.2.2.2.2.1 x.2.2.2.2.2.1 x.2.2.2.2.2.2.1 x.2.2.2.2.2.2.2.1 x.2.2.2.2.2.2.2.2.1 x.2.2.2.2.2.2.2.2.2.1 x.2.2.2.2.2.2.2.2.2.2.1 x.2.2.2.2.2.2.2.2.2.2.2.1, (fun (p1 : Int) (p2 : List Int) (c0_0 : Bool) (c0_1 : Int) (c0_2 : Int) (w1 : List TQuestion) (w2k : List ByteArray) (w2v : List Int) (w3k : List ByteArray) (w3v : List (List Int)) (w4k : List ByteArray) (w4v : List Bool) => (((hO (OS.mk c0_0 c0_1 c0_2 w1 w2k w2v w3k w3v w4k w4v) p1 p2).o.x) : List ByteArray)) x.1 x.2.1 x.2.2.1 x.2.2.2.1 x.2.2.2.2.1 x.2.2.2.2.2.1 x.2.2.2.2.2.2.1 x.2.2.2.2.2.2.2.1 x.2.2.2.2.2.2.2.2.1 x.2.2.2.2.2.2.2.2.2.1 x.2.2.2.2.2.2.2.2.2.2.1 x.2.2.2.2.2.2.2.2.2.2.2.1, (fun (p1 : Int) (p2 : List Int) (c0_0 : Bool) (c0_1 : Int) (c0_2 : Int) (w1 : List TQuestion) (w2k : List ByteArray) (w2v : List Int) (w3k : List ByteArray) (w3v : List (List Int)) (w4k : List ByteArray) (w4v : List Bool) => (((hO (OS.mk c0_0 c0_1 c0_2 w1 w2k w2v w3k w3v w4k w4v) p1 p2).o.y) : List Bool)) x.1 x.2.1 x.2.2.1 x.2.2.2.1 x.2.2.2.2.1 x.2.2.2.2.2.1 x.2.2.2.2.2.2.1 x.2.2.2.2.2.2.2.1 x.2.2.2.2.2.2.2.2.1 x.2.2.2.2.2.2.2.2.2.1 x.2.2.2.2.2.2.2.2.2.2.1 x.2.2.2.2.2.2.2.2.2.2.2.1, ())
theorem ktq : kkk.Ok Try.prog TB := Con.ok_fn k2k bd30 fun x h => k11z (k100 x.1 x.2.1 x.2.2.1 x.2.2.2.1 x.2.2.2.2.1 x.2.2.2.2.2.1 x.2.2.2.2.2.2.1 x.2.2.2.2.2.2.2.1 x.2.2.2.2.2.2.2.2.1 x.2.2.2.2.2.2.2.2.2.1 x.2.2.2.2.2.2.2.2.2.2.1 x.2.2.2.2.2.2.2.2.2.2.2.1 h)
end Go.Proofs.Ytponaobpcdkggaa
namespace Go.Proofs.Ytponaobpcdkggaa
open Go Go.Bv Go.Cv Go.Md Go.RowKit
def k1t : Con TB.den := Con.mk0 13 [.one (.ptr 0 0), .agg [.d (.int .u64), .d (.int .u64)], .one (.d (.int .u64)), .one (.d (.sl (.int .u64)))] [.cells [.d (.bool), .d (.int .u64), .d (.int .i64), .own 1, .mp 2, .mp 3, .mp 4], .tip (.st 1), .map (.str) (.int .i64), .map (.str) (.sl (.int .u64)), .map (.str) (.bool)] (.one (.agg [.d (.int .u64), .d (.int .u64)])) [.cells [.d (.bool), .d (.int .u64), .d (.int .i64), .own 1, .mp 2, .mp 3, .mp 4], .tip (.st 1), .map (.str) (.int .i64), .map (.str) (.sl (.int .u64)), .map (.str) (.bool)]
abbrev kmm := HL TB.den (hsT k1t.ins (hsOs k1t.pre))
abbrev kaa := HL TB.den (hsV k1t.res (hsOs k1t.post))
noncomputable def k7m : Cx TB := ⟨inf, [kkk], [], 4, []⟩
noncomputable def kch : Code := Try.f13.body.getD .skip
noncomputable def kdl : List ResultVar := Try.f13.results.toList
noncomputable def kld (o : kaa) : An TB := .no
noncomputable def kce (x : kmm) (o : kaa) : Prop := WPh TB k7m 20 5 kch (kld o) (k1t.st TB x) (retTQ TB k7m k1t kdl o)
set_option maxRecDepth 100000 in
theorem ku8 (o : kaa) : OblH TB k7m 20 5 kch (kld o) (retTQ TB k7m k1t kdl o) :=
  OblH.of_eq (X := (True ∧ (True ∧ (True ∧ True)))) (by kernel_rfl) ⟨trivial, ⟨trivial, ⟨trivial, trivial⟩⟩⟩
set_option maxRecDepth 100000 in
theorem ktt {x : kmm} {o : kaa} (h : kce x o) : SoundH Try.prog k1t.f ((k1t.args idf x).map (er TB)) ((k1t.obs idf x).map (erO TB)) (er TB (k1t.val idf o)) ((k1t.ops idf o).map (erO TB)) :=
  Con.soundH (c := k1t) (C := k7m) TBok ⟨inf_ok, (all_cons ktq all_nil), all_nil⟩ mix Try.func13 (show Try.f13.body = some kch by kernel_rfl) (show Try.f13.ntmps = 20 by kernel_rfl) (show Try.f13.results.toList = kdl by kernel_rfl) rfl h (ku8 o)
set_option maxRecDepth 100000 in
theorem kw2 {p1 : TTranscript} {p2 : Int} {p3 : List Int} {c0_0 : Bool} {c0_1 : Int} {c0_2 : Int} {w1 : List TQuestion} {w2k : List ByteArray} {w2v : List Int} {w3k : List ByteArray} {w3v : List (List Int)} {w4k : List ByteArray} {w4v : List Bool} {r0 : TTranscript} {d0_0 : Bool} {d0_1 : Int} {d0_2 : Int} {e1 : List TQuestion} {e2k : List ByteArray} {e2v : List Int} {e3k : List ByteArray} {e3v : List (List Int)} {e4k : List ByteArray} {e4v : List Bool} (h :
(([p1.State, p2].length + p3.length) * 8 ≤ 140737488355328 ∧ [p1.State, p2].length + p3.length ≤ maxLen ∧ (w1 = w1) ∧ (U64 (18 : Int) ∧ (Us ([p1.State, p2] ++ p3) ∧ ([p1.State, p2] ++ p3).length ≤ 1000000000) ∧ OOk (OS.mk c0_0 c0_1 c0_2 w1 w2k w2v w3k w3v w4k w4v)) ∧ let r1 : Int := ((hO (OS.mk c0_0 c0_1 c0_2 w1 w2k w2v w3k w3v w4k w4v) (18 : Int) ([p1.State, p2] ++ p3)).n)
 let r2 : Bool := ((hO (OS.mk c0_0 c0_1 c0_2 w1 w2k w2v w3k w3v w4k w4v) (18 : Int) ([p1.State, p2] ++ p3)).o.a)
 let r3 : Int := ((hO (OS.mk c0_0 c0_1 c0_2 w1 w2k w2v w3k w3v w4k w4v) (18 : Int) ([p1.State, p2] ++ p3)).o.b)
 let r4 : Int := ((hO (OS.mk c0_0 c0_1 c0_2 w1 w2k w2v w3k w3v w4k w4v) (18 : Int) ([p1.State, p2] ++ p3)).o.c)
 let r5 : List TQuestion := ((hO (OS.mk c0_0 c0_1 c0_2 w1 w2k w2v w3k w3v w4k w4v) (18 : Int) ([p1.State, p2] ++ p3)).o.q)
 let r6 : List ByteArray := ((hO (OS.mk c0_0 c0_1 c0_2 w1 w2k w2v w3k w3v w4k w4v) (18 : Int) ([p1.State, p2] ++ p3)).o.k)
 let r7 : List Int := ((hO (OS.mk c0_0 c0_1 c0_2 w1 w2k w2v w3k w3v w4k w4v) (18 : Int) ([p1.State, p2] ++ p3)).o.v)
 let r8 : List ByteArray := ((hO (OS.mk c0_0 c0_1 c0_2 w1 w2k w2v w3k w3v w4k w4v) (18 : Int) ([p1.State, p2] ++ p3)).o.s)
 let r9 : List (List Int) := ((hO (OS.mk c0_0 c0_1 c0_2 w1 w2k w2v w3k w3v w4k w4v) (18 : Int) ([p1.State, p2] ++ p3)).o.t)
 let r10 : List ByteArray := ((hO (OS.mk c0_0 c0_1 c0_2 w1 w2k w2v w3k w3v w4k w4v) (18 : Int) ([p1.State, p2] ++ p3)).o.x)
 let r11 : List Bool := ((hO (OS.mk c0_0 c0_1 c0_2 w1 w2k w2v w3k w3v w4k w4v) (18 : Int) ([p1.State, p2] ++ p3)).o.y)
(r5 = r5) ∧ r1 = r0.State ∧ 0 = r0.Count ∧ r2 = d0_0 ∧ r3 = d0_1 ∧ r4 = d0_2 ∧ r5 = e1 ∧ r6 = e2k ∧ r7 = e2v ∧ r8 = e3k ∧ r9 = e3v ∧ r10 = e4k ∧ r11 = e4v)) : kce (p1.State, p1.Count, p2, p3, c0_0, c0_1, c0_2, w1, w2k, w2v, w3k, w3v, w4k, w4v, ()) (r0.State, r0.Count, d0_0, d0_1, d0_2, e1, e2k, e2v, e3k, e3v, e4k, e4v, ()) := WPh.of_eq (by kernel_rfl) h
theorem bd13 : Callable Try.prog 13 := ⟨by rw [Try.func13]; kernel_rfl, by rw [Try.func13]; show some _ ≠ some _; decide⟩
theorem ksr (p1 : TTranscript) (p2 : Int) (p3 : List Int) (c0_0 : Bool) (c0_1 : Int) (c0_2 : Int) (w1 : List TQuestion) (w2k : List ByteArray) (w2v : List Int) (w3k : List ByteArray) (w3v : List (List Int)) (w4k : List ByteArray) (w4v : List Bool) (h : U64 p1.State ∧ U64 p2 ∧ (Us p3 ∧ p3.length ≤ 999999990) ∧ OOk (OS.mk c0_0 c0_1 c0_2 w1 w2k w2v w3k w3v w4k w4v)) : kce (p1.State, p1.Count, p2, p3, c0_0, c0_1, c0_2, w1, w2k, w2v, w3k, w3v, w4k, w4v, ()) ((((abO (OS.mk c0_0 c0_1 c0_2 w1 w2k w2v w3k w3v w4k w4v) p1 p2 p3).t).State : Int), (((abO (OS.mk c0_0 c0_1 c0_2 w1 w2k w2v w3k w3v w4k w4v) p1 p2 p3).t).Count : Int), (((abO (OS.mk c0_0 c0_1 c0_2 w1 w2k w2v w3k w3v w4k w4v) p1 p2 p3).o.a) : Bool), (((abO (OS.mk c0_0 c0_1 c0_2 w1 w2k w2v w3k w3v w4k w4v) p1 p2 p3).o.b) : Int), (((abO (OS.mk c0_0 c0_1 c0_2 w1 w2k w2v w3k w3v w4k w4v) p1 p2 p3).o.c) : Int), (((abO (OS.mk c0_0 c0_1 c0_2 w1 w2k w2v w3k w3v w4k w4v) p1 p2 p3).o.q) : List TQuestion), (((abO (OS.mk c0_0 c0_1 c0_2 w1 w2k w2v w3k w3v w4k w4v) p1 p2 p3).o.k) : List ByteArray), (((abO (OS.mk c0_0 c0_1 c0_2 w1 w2k w2v w3k w3v w4k w4v) p1 p2 p3).o.v) : List Int), (((abO (OS.mk c0_0 c0_1 c0_2 w1 w2k w2v w3k w3v w4k w4v) p1 p2 p3).o.s) : List ByteArray), (((abO (OS.mk c0_0 c0_1 c0_2 w1 w2k w2v w3k w3v w4k w4v) p1 p2 p3).o.t) : List (List Int)), (((abO (OS.mk c0_0 c0_1 c0_2 w1 w2k w2v w3k w3v w4k w4v) p1 p2 p3).o.x) : List ByteArray), (((abO (OS.mk c0_0 c0_1 c0_2 w1 w2k w2v w3k w3v w4k w4v) p1 p2 p3).o.y) : List Bool), ()) := by
  obtain ⟨h1, h2, ⟨h3, h4⟩, h5⟩ := h
  refine kw2 (r0 := (abO (OS.mk c0_0 c0_1 c0_2 w1 w2k w2v w3k w3v w4k w4v) p1 p2 p3).t) ⟨by simp; omega, by simp; unfold maxLen; omega, rfl, ⟨by decide, ⟨fun x hx => ?_, by simp; omega⟩, h5⟩, rfl, rfl, rfl, rfl, rfl, rfl, rfl, rfl, rfl, rfl, rfl, rfl, rfl⟩
  rcases List.mem_append.1 hx with hx | hx
  · rcases List.mem_cons.1 hx with rfl | hx
    · exact h1
    · rw [List.mem_singleton.1 hx]; exact h2
  · exact h3 x hx
noncomputable def kju : Con TB.den := k1t.fnR (fun x => (fun (p1 : TTranscript) (p2 : Int) (p3 : List Int) (c0_0 : Bool) (c0_1 : Int) (c0_2 : Int) (w1 : List TQuestion) (w2k : List ByteArray) (w2v : List Int) (w3k : List ByteArray) (w3v : List (List Int)) (w4k : List ByteArray) (w4v : List Bool) => U64 p1.State ∧ U64 p2 ∧ (Us p3 ∧ p3.length ≤ 999999990) ∧ OOk (OS.mk c0_0 c0_1 c0_2 w1 w2k w2v w3k w3v w4k w4v)) (TTranscript.mk x.1 x.2.1) x.2.2.1 x.2.2.2.1 x.2.2.2.2.1 x.2.2.2.2.2.1 x.2.2.2.2.2.2.1 x.2.2.2.2.2.2.2.1 x.2.2.2.2.2.2.2.2.1 x.2.2.2.2.2.2.2.2.2.1 x.2.2.2.2.2.2.2.2.2.2.1 x.2.2.2.2.2.2.2.2.2.2.2.1 x.2.2.2.2.2.2.2.2.2.2.2.2.1 x.2.2.2.2.2.2.2.2.2.2.2.2.2.1) fun x => ((fun (p1 : TTranscript) (p2 : Int) (p3 : List Int) (c0_0 : Bool) (c0_1 : Int) (c0_2 : Int) (w1 : List TQuestion) (w2k : List ByteArray) (w2v : List Int) (w3k : List ByteArray) (w3v : List (List Int)) (w4k : List ByteArray) (w4v : List Bool) => (((abO (OS.mk c0_0 c0_1 c0_2 w1 w2k w2v w3k w3v w4k w4v) p1 p2 p3).t).State : Int)) (TTranscript.mk x.1 x.2.1) x.2.2.1 x.2.2.2.1 x.2.2.2.2.1 x.2.2.2.2.2.1 x.2.2.2.2.2.2.1 x.2.2.2.2.2.2.2.1 x.2.2.2.2.2.2.2.2.1 x.2.2.2.2.2.2.2.2.2.1 x.2.2.2.2.2.2.2.2.2.2.1 x.2.2.2.2.2.2.2.2.2.2.2.1 x.2.2.2.2.2.2.2.2.2.2.2.2.1 x.2.2.2.2.2.2.2.2.2.2.2.2.2.1, (fun (p1 : TTranscript) (p2 : Int) (p3 : List Int) (c0_0 : Bool) (c0_1 : Int) (c0_2 : Int) (w1 : List TQuestion) (w2k : List ByteArray) (w2v : List Int) (w3k : List ByteArray) (w3v : List (List Int)) (w4k : List ByteArray) (w4v : List Bool) => (((abO (OS.mk c0_0 c0_1 c0_2 w1 w2k w2v w3k w3v w4k w4v) p1 p2 p3).t).Count : Int)) (TTranscript.mk x.1 x.2.1) x.2.2.1 x.2.2.2.1 x.2.2.2.2.1 x.2.2.2.2.2.1 x.2.2.2.2.2.2.1 x.2.2.2.2.2.2.2.1 x.2.2.2.2.2.2.2.2.1 x.2.2.2.2.2.2.2.2.2.1 x.2.2.2.2.2.2.2.2.2.2.1 x.2.2.2.2.2.2.2.2.2.2.2.1 x.2.2.2.2.2.2.2.2.2.2.2.2.1 x.2.2.2.2.2.2.2.2.2.2.2.2.2.1, (fun (p1 : TTranscript) (p2 : Int) (p3 : List Int) (c0_0 : Bool) (c0_1 : Int) (c0_2 : Int) (w1 : List TQuestion) (w2k : List ByteArray) (w2v : List Int) (w3k : List ByteArray) (w3v : List (List Int)) (w4k : List ByteArray) (w4v : List Bool) => (((abO (OS.mk c0_0 c0_1 c0_2 w1 w2k w2v w3k w3v w4k w4v) p1 p2 p3).o.a) : Bool)) (TTranscript.mk x.1 x.2.1) x.2.2.1 x.2.2.2.1 x.2.2.2.2.1 x.2.2.2.2.2.1 x.2.2.2.2.2.2.1 x.2.2.2.2.2.2.2.1 x.2.2.2.2.2.2.2.2.1 x.2.2.2.2.2.2.2.2.2.1 x.2.2.2.2.2.2.2.2.2.2.1 x.2.2.2.2.2.2.2.2.2.2.2.1 x.2.2.2.2.2.2.2.2.2.2.2.2.1 x.2.2.2.2.2.2.2.2.2.2.2.2.2.1, (fun (p1 : TTranscript) (p2 : Int) (p3 : List Int) (c0_0 : Bool) (c0_1 : Int) (c0_2 : Int) (w1 : List TQuestion) (w2k : List ByteArray) (w2v : List Int) (w3k : List ByteArray) (w3v : List (List Int)) (w4k : List ByteArray) (w4v : List Bool) => (((abO (OS.mk c0_0 c0_1 c0_2 w1 w2k w2v w3k w3v w4k w4v) p1 p2 p3).o.b) : Int)) (TTranscript.mk x.1 x.2.1) x.2.2.1 x.2.2.2.1 x.2.2.2.2.1 x.2.2.2.2.2.1 x.2.2.2.2.2.2.1 x.2.2.2.2.2.2.2.1 x.2.2.2.2.2.2.2.2.1 x.2.2.2.2.2.2.2.2.2.1 x.2.2.2.2.2.2.2.2.2.2.1 x.2.2.2.2.2.2.2.2.2.2.2.1 x.2.2.2.2.2.2.2.2.2.2.2.2.1 x.2.2.2.2.2.2.2.2.2.2.2.2.2.1, (fun (p1 : TTranscript) (p2 : Int) (p3 : List Int) (c0_0 : Bool) (c0_1 : Int) (c0_2 : Int) (w1 : List TQuestion) (w2k : List ByteArray) (w2v : List Int) (w3k : List ByteArray) (w3v : List (List Int)) (w4k : List ByteArray) (w4v : List Bool) => (((abO (OS.mk c0_0 c0_1 c0_2 w1 w2k w2v w3k w3v w4k w4v) p1 p2 p3).o.c) : Int)) (TTranscript.mk x.1 x.2.1) x.2.2.1 x.2.2.2.1 x.2.2.2.2.1 x.2.2.2.2.2.1 x.2.2.2.2.2.2.1 x.2.2.2.2.2.2.2.1 x.2.2.2.2.2.2.2.2.1 x.2.2.2.2.2.2.2.2.2.1 x.2.2.2.2.2.2.2.2.2.2.1 x.2.2.2.2.2.2.2.2.2.2.2.1 x.2.2.2.2.2.2.2.2.2.2.2.2.1 x.2.2.2.2.2.2.2.2.2.2.2.2.2.1, (fun (p1 : TTranscript) (p2 : Int) (p3 : List Int) (c0_0 : Bool) (c0_1 : Int) (c0_2 : Int) (w1 : List TQuestion) (w2k : List ByteArray) (w2v : List Int) (w3k : List ByteArray) (w3v : List (List Int)) (w4k : List ByteArray) (w4v : List Bool) => (((abO (OS.mk c0_0 c0_1 c0_2 w1 w2k w2v w3k w3v w4k w4v) p1 p2 p3).o.q) : List TQuestion)) (TTranscript.mk x.1 x.2.1) x.2.2.1 x.2.2.2.1 x.2.2.2.2.1 x.2.2.2.2.2.1 x.2.2.2.2.2.2.1 x.2.2.2.2.2.2.2.1 x.2.2.2.2.2.2.2.2.1 x.2.2.2.2.2.2.2.2.2.1 x.2.2.2.2.2.2.2.2.2.2.1 x.2.2.2.2.2.2.2.2.2.2.2.1 x.2.2.2.2.2.2.2.2.2.2.2.2.1 x.2.2.2.2.2.2.2.2.2.2.2.2.2.1, (fun (p1 : TTranscript) (p2 : Int) (p3 : List Int) (c0_0 : Bool) (c0_1 : Int) (c0_2 : Int) (w1 : List TQuestion) (w2k : List ByteArray) (w2v : List Int) (w3k : List ByteArray) (w3v : List (List Int)) (w4k : List ByteArray) (w4v : List Bool) => (((abO (OS.mk c0_0 c0_1 c0_2 w1 w2k w2v w3k w3v w4k w4v) p1 p2 p3).o.k) : List ByteArray)) (TTranscript.mk x.1 x.2.1) x.2.2.1 x.2.2.2.1 x.2.2.2.2.1 x.2.2.2.2.2.1 x.2.2.2.2.2.2.1 x.2.2.2.2.2.2.2.1 x.2.2.2.2.2.2.2.2.1 x.2.2.2.2.2.2.2.2.2.1 x.2.2.2.2.2.2.2.2.2.2.1 x.2.2.2.2.2.2.2.2.2.2.2.1 x.2.2.2.2.2.2.2.2.2.2.2.2.1 x.2.2.2.2.2.2.2.2.2.2.2.2.2.1, (fun (p1 : TTranscript) (p2 : Int) (p3 : List Int) (c0_0 : Bool) (c0_1 : Int) (c0_2 : Int) (w1 : List TQuestion) (w2k : List ByteArray) (w2v : List Int) (w3k : List ByteArray) (w3v : List (List Int)) (w4k : List ByteArray) (w4v : List Bool) => (((abO (OS.mk c0_0 c0_1 c0_2 w1 w2k w2v w3k w3v w4k w4v) p1 p2 p3).o.v) : List Int)) (TTranscript.mk x.1 x.2.1) x.2.2.1 x.2.2.2.1 x.2.2.2.2.1 x.2.2.2.2.2.1 x.2.2.2.2.2.2.1 x.2.2.2.2.2.2.2.1 x.2.2.2.2.2.2.2.2.1 x.2.2.2.2.2.2.2.2.2.1 x.2.2.2.2.2.2.2.2.2.2.1 x.2.2.2.2.2.2.2.2.2.2.2.1 x.2.2.2.2.2.2.2.2.2.2.2.2.1 x.2.2.2.2.2.2.2.2.2.2.2.2.2.1, (fun (p1 : TTranscript) (p2 : Int) (p3 : List Int) (c0_0 : Bool) (c0_1 : Int) (c0_2 : Int) (w1 : List TQuestion) (w2k : List ByteArray) (w2v : List Int) (w3k : List ByteArray) (w3v : List (List Int)) (w4k : List ByteArray) (w4v : List Bool) => (((abO (OS.mk c0_0 c0_1 c0_2 w1 w2k w2v w3k w3v w4k w4v) p1 p2 p3).o.s) : List ByteArray)) (TTranscript.mk x.1 x.2.1) x.2.2.1 x.2.2.2.1 x.2.2.2.2.1 x.2.2.2.2.2.1 x.2.2.2.2.2.2.1 x.2.2.2.2.2.2.2.1 x.2.2.2.2.2.2.2.2.1 x.2.2.2.2.2.2.2.2.2.1 x.2.2.2.2.2.2.2.2.2.2.1 x.2.2.2.2.2.2.2.2.2.2.2.1 x.2.2.2.2.2.2.2.2.2.2.2.2.1 x.2.2.2.2.2.2.2.2.2.2.2.2.2.1, (fun (p1 : TTranscript) (p2 : Int) (p3 : List Int) (c0_0 : Bool) (c0_1 : Int) (c0_2 : Int) (w1 : List TQuestion) (w2k : List ByteArray) (w2v : List Int) (w3k : List ByteArray) (w3v : List (List Int)) (w4k : List ByteArray) (w4v : List Bool) => (((abO (OS.mk c0_0 c0_1 c0_2 w1 w2k w2v w3k w3v w4k w4v) p1 p2 p3).o.t) : List (List Int))) (TTranscript.mk x.1 x.2.1) x.2.2.1 x.2.2.2.1 x.2.2.2.2.1 x.2.2.2.2.2.1 x.2.2.2.2.2.2.1 x.2.2.2.2.2.2.2.1 x.2.2.2.2.2.2.2.2.1 x.2.2.2.2.2.2.2.2.2.1 x.2.2.2.2.2.2.2.2.2.2.1 x.2.2.2.2.2.2.2.2.2.2.2.1 x.2.2.2.2.2.2.2.2.2.2.2.2.1 x.2.2.2.2.2.2.2.2.2.2.2.2.2.1, (fun (p1 : TTranscript) (p2 : Int) (p3 : List Int) (c0_0 : Bool) (c0_1 : Int) (c0_2 : Int) (w1 : List TQuestion) (w2k : List ByteArray) (w2v : List Int) (w3k : List ByteArray) (w3v : List (List Int)) (w4k : List ByteArray) (w4v : List Bool) => (((abO (OS.mk c0_0 c0_1 c0_2 w1 w2k w2v w3k w3v w4k w4v) p1 p2 p3).o.x) : List ByteArray)) (TTranscript.mk x.1 x.2.1) x.2.2.1 x.2.2.2.1 x.2.2.2.2.1 x.2.2.2.2.2.1 x.2.2.2.2.2.2.1 x.2.2.2.2.2.2.2.1 x.2.2.2.2.2.2.2.2.1 x.2.2.2.2.2.2.2.2.2.1 x.2.2.2.2.2.2.2.2.2.2.1 x.2.2.2.2.2.2.2.2.2.2.2.1 x.2.2.2.2.2.2.2.2.2.2.2.2.1 x.2.2.2.2.2.2.2.2.2.2.2.2.2.1, (fun (p1 : TTranscript) (p2 : Int) (p3 : List Int) (c0_0 : Bool) (c0_1 : Int) (c0_2 : Int) (w1 : List TQuestion) (w2k : List ByteArray) (w2v : List Int) (w3k : List ByteArray) (w3v : List (List Int)) (w4k : List ByteArray) (w4v : List Bool) => (((abO (OS.mk c0_0 c0_1 c0_2 w1 w2k w2v w3k w3v w4k w4v) p1 p2 p3).o.y) : List Bool)) (TTranscript.mk x.1 x.2.1) x.2.2.1 x.2.2.2.1 x.2.2.2.2.1 x.2.2.2.2.2.1 x.2.2.2.2.2.2.1 x.2.2.2.2.2.2.2.1 x.2.2.2.2.2.2.2.2.1 x.2.2.2.2.2.2.2.2.2.1 x.2.2.2.2.2.2.2.2.2.2.1 x.2.2.2.2.2.2.2.2.2.2.2.1 x.2.2.2.2.2.2.2.2.2.2.2.2.1 x.2.2.2.2.2.2.2.2.2.2.2.2.2.1, ())
theorem kvy : kju.Ok Try.prog TB := Con.ok_fn k1t bd13 fun x h => ktt (ksr (TTranscript.mk x.1 x.2.1) x.2.2.1 x.2.2.2.1 x.2.2.2.2.1 x.2.2.2.2.2.1 x.2.2.2.2.2.2.1 x.2.2.2.2.2.2.2.1 x.2.2.2.2.2.2.2.2.1 x.2.2.2.2.2.2.2.2.2.1 x.2.2.2.2.2.2.2.2.2.2.1 x.2.2.2.2.2.2.2.2.2.2.2.1 x.2.2.2.2.2.2.2.2.2.2.2.2.1 x.2.2.2.2.2.2.2.2.2.2.2.2.2.1 h)
end Go.Proofs.Ytponaobpcdkggaa
namespace Go.Proofs.Ytponaobpcdkggaa
open Go Go.Bv Go.Cv Go.Md Go.RowKit
def k2m : Con TB.den := Con.mk0 11 [.one (.d (.int .u64))] [] (.one (.agg [.d (.int .u64), .d (.int .u64)])) []
abbrev ksg := HL TB.den (hsT k2m.ins (hsOs k2m.pre))
abbrev kg6 := HL TB.den (hsV k2m.res (hsOs k2m.post))
noncomputable def kb3 : Cx TB := ⟨inf, [], [], 4, []⟩
noncomputable def kh5 : Code := Try.f11.body.getD .skip
noncomputable def kkm : List ResultVar := Try.f11.results.toList
noncomputable def krj (o : kg6) : An TB := .no
noncomputable def kh4 (x : ksg) (o : kg6) : Prop := WPh TB kb3 5 0 kh5 (krj o) (k2m.st TB x) (retTQ TB kb3 k2m kkm o)
set_option maxRecDepth 100000 in
theorem kzs (o : kg6) : OblH TB kb3 5 0 kh5 (krj o) (retTQ TB kb3 k2m kkm o) :=
  OblH.of_eq (X := (True ∧ (True ∧ True))) (by kernel_rfl) ⟨trivial, ⟨trivial, trivial⟩⟩
set_option maxRecDepth 100000 in
theorem kzy {x : ksg} {o : kg6} (h : kh4 x o) : SoundH Try.prog k2m.f ((k2m.args idf x).map (er TB)) ((k2m.obs idf x).map (erO TB)) (er TB (k2m.val idf o)) ((k2m.ops idf o).map (erO TB)) :=
  Con.soundH (c := k2m) (C := kb3) TBok ⟨inf_ok, all_nil, all_nil⟩ mix Try.func11 (show Try.f11.body = some kh5 by kernel_rfl) (show Try.f11.ntmps = 5 by kernel_rfl) (show Try.f11.results.toList = kkm by kernel_rfl) rfl h (kzs o)
set_option maxRecDepth 100000 in
theorem k11l {p0 : Int} {r0 : TTranscript} (h :
(p0 = r0.State ∧ 0 = r0.Count)) : kh4 (p0, ()) (r0.State, r0.Count, ()) := WPh.of_eq (by kernel_rfl) h
theorem bd11 : Callable Try.prog 11 := ⟨by rw [Try.func11]; kernel_rfl, by rw [Try.func11]; show some _ ≠ some _; decide⟩
theorem kz5 (p0 : Int) : kh4 (p0, ()) ((p0 : Int), (0 : Int), ()) := by
  exact k11l (r0 := ⟨p0, 0⟩) ⟨rfl, rfl⟩
noncomputable def kix : Con TB.den := k2m.totR fun x => ((fun (p0 : Int) => (p0 : Int)) x.1, (fun (p0 : Int) => (0 : Int)) x.1, ())
theorem kra : kix.Ok Try.prog TB := Con.ok_tot k2m bd11 fun x => kzy (kz5 x.1)
end Go.Proofs.Ytponaobpcdkggaa
namespace Go.Proofs.Ytponaobpcdkggaa
open Go Go.Bv Go.Cv Go.Md Go.RowKit
def k2p : Con TB.den := Con.mk0 18 [.one (.ptr 0 0), .one (.d (.int .u64)), .one (.d (.sl (.st 0)))] [.cells [.d (.bool), .d (.int .u64), .d (.int .i64), .own 1, .mp 2, .mp 3, .mp 4], .tip (.st 1), .map (.str) (.int .i64), .map (.str) (.sl (.int .u64)), .map (.str) (.bool)] (.one (.agg [.d (.int .u64), .d (.int .u64)])) [.cells [.d (.bool), .d (.int .u64), .d (.int .i64), .own 1, .mp 2, .mp 3, .mp 4], .tip (.st 1), .map (.str) (.int .i64), .map (.str) (.sl (.int .u64)), .map (.str) (.bool)]
abbrev kwl := HL TB.den (hsT k2p.ins (hsOs k2p.pre))
abbrev k8a := HL TB.den (hsV k2p.res (hsOs k2p.post))
noncomputable def k6h : Cx TB := ⟨inf, [kix, kju], [], 4, []⟩
noncomputable def kaw : Code := Try.f18.body.getD .skip
noncomputable def kda : List ResultVar := Try.f18.results.toList
noncomputable def k14q (o : k8a) : Exit → TSt TB.den → Prop := thenT TB (fun s => ghs TB [] s fun s => WP TB k6h 29 5 (cB (cB (cB kaw))) .no s (retTQ TB k6h k2p kda o)) (retTQ TB k6h k2p kda o)
def k8h : Tm := ⟨[0, 1, 2, 3, 4, 5, 6], [.cells [.d (.bool), .d (.int .u64), .d (.int .i64), .own 1, .mp 2, .mp 3, .mp 4], .tip (.st 1), .map (.str) (.int .i64), .map (.str) (.sl (.int .u64)), .map (.str) (.bool), .cells [.d (.int .u64), .d (.int .u64)], .cells [.d (.int .u64), .d (.int .u64)]], [0, 6, 7, 12, 13, 14], [.one (.ptr 0 0), .one (.ptr 5 0), .one (.ptr 6 0), .one (.d (.sl (.st 0))), .one (.d (.int .i64)), .one (.d (.int .i64))], 7⟩
noncomputable def k167 (o : k8a) (nx1 : HL TB.den k8h.hs → Prop) : Exit → TSt TB.den → Prop := thenT TB (fun s => k8h.mat TB 5 s nx1) (blockT TB 0 (k14q o))
noncomputable def kd9 (o : k8a) (nx1 : HL TB.den k8h.hs → Prop) (i : HL TB.den k8h.hs) : Prop := WP TB k6h 29 5 (cA (cA (cB (cA (cB (cB kaw)))))) .no (k8h.fill TB i) (k167 o nx1)
noncomputable def k16a (o : k8a) : An TB := .nd [] .no [] (.lp [] k8h (kd9 o) fun nx1 => .no)
noncomputable def kuc (o : k8a) : An TB := .nd [] .no [] (.nd [] .no [] (.nd [] (k16a o) [] .no))
noncomputable def kk2 (x : kwl) (o : k8a) : Prop := WPh TB k6h 29 5 kaw (kuc o) (k2p.st TB x) (retTQ TB k6h k2p kda o)
set_option maxRecDepth 100000 in
theorem k135 (o : k8a) : OblH TB k6h 29 5 kaw (kuc o) (retTQ TB k6h k2p kda o) :=
  OblH.of_eq (X := (True ∧ (True ∧ ((True ∧ ((∀ nx i, (kd9 o) nx i = (kd9 o) nx i) ∧ ∀ nx1 : HL TB.den k8h.hs → Prop, (True ∧ ((True ∧ True) ∧ ((True ∧ True) ∧ True))))) ∧ (True ∧ True))))) (by kernel_rfl) ⟨trivial, ⟨trivial, ⟨⟨trivial, ⟨fun _ _ => rfl, fun _ => ⟨trivial, ⟨⟨trivial, trivial⟩, ⟨⟨trivial, trivial⟩, trivial⟩⟩⟩⟩⟩, ⟨trivial, trivial⟩⟩⟩⟩
set_option maxRecDepth 100000 in
theorem k146 {x : kwl} {o : k8a} (h : kk2 x o) : SoundH Try.prog k2p.f ((k2p.args idf x).map (er TB)) ((k2p.obs idf x).map (erO TB)) (er TB (k2p.val idf o)) ((k2p.ops idf o).map (erO TB)) :=
  Con.soundH (c := k2p) (C := k6h) TBok ⟨inf_ok, (all_cons kra (all_cons kvy all_nil)), all_nil⟩ mix Try.func18 (show Try.f18.body = some kaw by kernel_rfl) (show Try.f18.ntmps = 29 by kernel_rfl) (show Try.f18.results.toList = kda by kernel_rfl) rfl h (k135 o)
set_option maxRecDepth 100000 in
theorem k14o {p1 : Int} {p2 : List TMessage} {c0_0 : Bool} {c0_1 : Int} {c0_2 : Int} {w1 : List TQuestion} {w2k : List ByteArray} {w2v : List Int} {w3k : List ByteArray} {w3v : List (List Int)} {w4k : List ByteArray} {w4v : List Bool} {r0 : TTranscript} {d0_0 : Bool} {d0_1 : Int} {d0_2 : Int} {e1 : List TQuestion} {e2k : List ByteArray} {e2v : List Int} {e3k : List ByteArray} {e3v : List (List Int)} {e4k : List ByteArray} {e4v : List Bool} (h :
((w1 = w1) ∧ Md.Loop (p2, ((p2.length : Int) : Int), (0 : Int), c0_0, c0_1, c0_2, (0 : Int), (0 : Int), p1, (0 : Int), w1, w2k, w2v, w3k, w3v, w4k, w4v, ()) (kd9 (r0.State, r0.Count, d0_0, d0_1, d0_2, e1, e2k, e2v, e3k, e3v, e4k, e4v, ())))) : kk2 (p1, p2, c0_0, c0_1, c0_2, w1, w2k, w2v, w3k, w3v, w4k, w4v, ()) (r0.State, r0.Count, d0_0, d0_1, d0_2, e1, e2k, e2v, e3k, e3v, e4k, e4v, ()) := WPh.of_eq (by kernel_rfl) h
def kul (r0 : TTranscript) (d0_0 : Bool) (d0_1 : Int) (d0_2 : Int) (e1 : List TQuestion) (e2k : List ByteArray) (e2v : List Int) (e3k : List ByteArray) (e3v : List (List Int)) (e4k : List ByteArray) (e4v : List Bool) (k1 : Int → Bool → Int → Int → Int → Int → List TQuestion → List ByteArray → List Int → List ByteArray → List (List Int) → List ByteArray → List Bool → Prop) (s12 : List TMessage) (s13 : Int) (h5_0 : Int) (h5_1 : Int) (s14 : Int) (h0_0 : Bool) (h0_1 : Int) (h0_2 : Int) (h6_0 : Int) (h6_1 : Int) (g1 : List TQuestion) (g2k : List ByteArray) (g2v : List Int) (g3k : List ByteArray) (g3v : List (List Int)) (g4k : List ByteArray) (g4v : List Bool) : Prop :=
(decide (s14 < s13) = true →
(0 ≤ s14) ∧ s14 < (s12.length : Int) ∧ (([] : List Int).length + ((ix s12 s14).L).length) * 8 ≤ 140737488355328 ∧ ([] : List Int).length + ((ix s12 s14).L).length ≤ maxLen ∧ (g1 = g1) ∧ (U64 (TTranscript.mk h6_0 h6_1).State ∧ U64 ((ix s12 s14).Tag) ∧ (Us (([] : List Int) ++ ((ix s12 s14).L)) ∧ (([] : List Int) ++ ((ix s12 s14).L)).length ≤ 999999990) ∧ OOk (OS.mk h0_0 h0_1 h0_2 g1 g2k g2v g3k g3v g4k g4v)) ∧ let r1 : Int := ((abO (OS.mk h0_0 h0_1 h0_2 g1 g2k g2v g3k g3v g4k g4v) (TTranscript.mk h6_0 h6_1) ((ix s12 s14).Tag) (([] : List Int) ++ ((ix s12 s14).L))).t).State
 let r2 : Int := ((abO (OS.mk h0_0 h0_1 h0_2 g1 g2k g2v g3k g3v g4k g4v) (TTranscript.mk h6_0 h6_1) ((ix s12 s14).Tag) (([] : List Int) ++ ((ix s12 s14).L))).t).Count
 let r3 : Bool := ((abO (OS.mk h0_0 h0_1 h0_2 g1 g2k g2v g3k g3v g4k g4v) (TTranscript.mk h6_0 h6_1) ((ix s12 s14).Tag) (([] : List Int) ++ ((ix s12 s14).L))).o.a)
 let r4 : Int := ((abO (OS.mk h0_0 h0_1 h0_2 g1 g2k g2v g3k g3v g4k g4v) (TTranscript.mk h6_0 h6_1) ((ix s12 s14).Tag) (([] : List Int) ++ ((ix s12 s14).L))).o.b)
 let r5 : Int := ((abO (OS.mk h0_0 h0_1 h0_2 g1 g2k g2v g3k g3v g4k g4v) (TTranscript.mk h6_0 h6_1) ((ix s12 s14).Tag) (([] : List Int) ++ ((ix s12 s14).L))).o.c)
 let r6 : List TQuestion := ((abO (OS.mk h0_0 h0_1 h0_2 g1 g2k g2v g3k g3v g4k g4v) (TTranscript.mk h6_0 h6_1) ((ix s12 s14).Tag) (([] : List Int) ++ ((ix s12 s14).L))).o.q)
 let r7 : List ByteArray := ((abO (OS.mk h0_0 h0_1 h0_2 g1 g2k g2v g3k g3v g4k g4v) (TTranscript.mk h6_0 h6_1) ((ix s12 s14).Tag) (([] : List Int) ++ ((ix s12 s14).L))).o.k)
 let r8 : List Int := ((abO (OS.mk h0_0 h0_1 h0_2 g1 g2k g2v g3k g3v g4k g4v) (TTranscript.mk h6_0 h6_1) ((ix s12 s14).Tag) (([] : List Int) ++ ((ix s12 s14).L))).o.v)
 let r9 : List ByteArray := ((abO (OS.mk h0_0 h0_1 h0_2 g1 g2k g2v g3k g3v g4k g4v) (TTranscript.mk h6_0 h6_1) ((ix s12 s14).Tag) (([] : List Int) ++ ((ix s12 s14).L))).o.s)
 let r10 : List (List Int) := ((abO (OS.mk h0_0 h0_1 h0_2 g1 g2k g2v g3k g3v g4k g4v) (TTranscript.mk h6_0 h6_1) ((ix s12 s14).Tag) (([] : List Int) ++ ((ix s12 s14).L))).o.t)
 let r11 : List ByteArray := ((abO (OS.mk h0_0 h0_1 h0_2 g1 g2k g2v g3k g3v g4k g4v) (TTranscript.mk h6_0 h6_1) ((ix s12 s14).Tag) (([] : List Int) ++ ((ix s12 s14).L))).o.x)
 let r12 : List Bool := ((abO (OS.mk h0_0 h0_1 h0_2 g1 g2k g2v g3k g3v g4k g4v) (TTranscript.mk h6_0 h6_1) ((ix s12 s14).Tag) (([] : List Int) ++ ((ix s12 s14).L))).o.y)
(r6 = r6) ∧ k1 (IntKind.i64.wrap (s14 + 1) : Int) r3 r4 r5 r1 r2 r6 r7 r8 r9 r10 r11 r12) ∧
(decide (s14 < s13) = false →
(g1 = g1) ∧ h6_0 = r0.State ∧ h6_1 = r0.Count ∧ h0_0 = d0_0 ∧ h0_1 = d0_1 ∧ h0_2 = d0_2 ∧ g1 = e1 ∧ g2k = e2k ∧ g2v = e2v ∧ g3k = e3k ∧ g3v = e3v ∧ g4k = e4k ∧ g4v = e4v)
set_option maxRecDepth 100000 in
theorem k12v {r0 : TTranscript} {d0_0 : Bool} {d0_1 : Int} {d0_2 : Int} {e1 : List TQuestion} {e2k : List ByteArray} {e2v : List Int} {e3k : List ByteArray} {e3v : List (List Int)} {e4k : List ByteArray} {e4v : List Bool} {s12 : List TMessage} {s13 : Int} {h5_0 : Int} {h5_1 : Int} {s14 : Int} {h0_0 : Bool} {h0_1 : Int} {h0_2 : Int} {h6_0 : Int} {h6_1 : Int} {g1 : List TQuestion} {g2k : List ByteArray} {g2v : List Int} {g3k : List ByteArray} {g3v : List (List Int)} {g4k : List ByteArray} {g4v : List Bool} (inv : Int → Bool → Int → Int → Int → Int → List TQuestion → List ByteArray → List Int → List ByteArray → List (List Int) → List ByteArray → List Bool → Prop) (μ : Int → Bool → Int → Int → Int → Int → List TQuestion → List ByteArray → List Int → List ByteArray → List (List Int) → List ByteArray → List Bool → Nat) (h0 : inv s14 h0_0 h0_1 h0_2 h6_0 h6_1 g1 g2k g2v g3k g3v g4k g4v) (hs : ∀ (s14 : Int) (h0_0 : Bool) (h0_1 : Int) (h0_2 : Int) (h6_0 : Int) (h6_1 : Int) (g1 : List TQuestion) (g2k : List ByteArray) (g2v : List Int) (g3k : List ByteArray) (g3v : List (List Int)) (g4k : List ByteArray) (g4v : List Bool), inv s14 h0_0 h0_1 h0_2 h6_0 h6_1 g1 g2k g2v g3k g3v g4k g4v → kul r0 d0_0 d0_1 d0_2 e1 e2k e2v e3k e3v e4k e4v (fun s14q h0_0q h0_1q h0_2q h6_0q h6_1q g1q g2kq g2vq g3kq g3vq g4kq g4vq => inv s14q h0_0q h0_1q h0_2q h6_0q h6_1q g1q g2kq g2vq g3kq g3vq g4kq g4vq ∧ μ s14q h0_0q h0_1q h0_2q h6_0q h6_1q g1q g2kq g2vq g3kq g3vq g4kq g4vq < μ s14 h0_0 h0_1 h0_2 h6_0 h6_1 g1 g2k g2v g3k g3v g4k g4v) s12 s13 h5_0 h5_1 s14 h0_0 h0_1 h0_2 h6_0 h6_1 g1 g2k g2v g3k g3v g4k g4v) : Md.Loop (s12, s13, s14, h0_0, h0_1, h0_2, h5_0, h5_1, h6_0, h6_1, g1, g2k, g2v, g3k, g3v, g4k, g4v, ()) (kd9 (r0.State, r0.Count, d0_0, d0_1, d0_2, e1, e2k, e2v, e3k, e3v, e4k, e4v, ())) :=
  ⟨⟨fun s : (List TMessage) × Int × Int × Bool × Int × Int × Int × Int × Int × Int × (List TQuestion) × (List ByteArray) × (List Int) × (List ByteArray) × (List (List Int)) × (List ByteArray) × (List Bool) × Unit => (s.1 = s12 ∧ s.2.1 = s13 ∧ s.2.2.2.2.2.2.1 = h5_0 ∧ s.2.2.2.2.2.2.2.1 = h5_1) ∧ inv s.2.2.1 s.2.2.2.1 s.2.2.2.2.1 s.2.2.2.2.2.1 s.2.2.2.2.2.2.2.2.1 s.2.2.2.2.2.2.2.2.2.1 s.2.2.2.2.2.2.2.2.2.2.1 s.2.2.2.2.2.2.2.2.2.2.2.1 s.2.2.2.2.2.2.2.2.2.2.2.2.1 s.2.2.2.2.2.2.2.2.2.2.2.2.2.1 s.2.2.2.2.2.2.2.2.2.2.2.2.2.2.1 s.2.2.2.2.2.2.2.2.2.2.2.2.2.2.2.1 s.2.2.2.2.2.2.2.2.2.2.2.2.2.2.2.2.1, fun s : (List TMessage) × Int × Int × Bool × Int × Int × Int × Int × Int × Int × (List TQuestion) × (List ByteArray) × (List Int) × (List ByteArray) × (List (List Int)) × (List ByteArray) × (List Bool) × Unit => μ s.2.2.1 s.2.2.2.1 s.2.2.2.2.1 s.2.2.2.2.2.1 s.2.2.2.2.2.2.2.2.1 s.2.2.2.2.2.2.2.2.2.1 s.2.2.2.2.2.2.2.2.2.2.1 s.2.2.2.2.2.2.2.2.2.2.2.1 s.2.2.2.2.2.2.2.2.2.2.2.2.1 s.2.2.2.2.2.2.2.2.2.2.2.2.2.1 s.2.2.2.2.2.2.2.2.2.2.2.2.2.2.1 s.2.2.2.2.2.2.2.2.2.2.2.2.2.2.2.1 s.2.2.2.2.2.2.2.2.2.2.2.2.2.2.2.2.1, ⟨⟨rfl, rfl, rfl, rfl⟩, h0⟩, fun (s12p, s13p, s14p, h0_0p, h0_1p, h0_2p, h5_0p, h5_1p, h6_0p, h6_1p, g1p, g2kp, g2vp, g3kp, g3vp, g4kp, g4vp, ()) ⟨⟨eq0, eq1, eq2, eq3⟩, hi⟩ => by
    have eq0 : s12p = s12 := eq0; subst s12p; have eq1 : s13p = s13 := eq1; subst s13p; have eq2 : h5_0p = h5_0 := eq2; subst h5_0p; have eq3 : h5_1p = h5_1 := eq3; subst h5_1p; exact mpr_of (by kernel_rfl) ((congrArg (fun k => kul r0 d0_0 d0_1 d0_2 e1 e2k e2v e3k e3v e4k e4v k s12 s13 h5_0 h5_1 s14p h0_0p h0_1p h0_2p h6_0p h6_1p g1p g2kp g2vp g3kp g3vp g4kp g4vp) (lpk13 (⟨rfl, rfl, rfl, rfl⟩ : s12 = s12 ∧ s13 = s13 ∧ h5_0 = h5_0 ∧ h5_1 = h5_1) inv (fun s14q h0_0q h0_1q h0_2q h6_0q h6_1q g1q g2kq g2vq g3kq g3vq g4kq g4vq => μ s14q h0_0q h0_1q h0_2q h6_0q h6_1q g1q g2kq g2vq g3kq g3vq g4kq g4vq < μ s14p h0_0p h0_1p h0_2p h6_0p h6_1p g1p g2kp g2vp g3kp g3vp g4kp g4vp))).mpr (hs s14p h0_0p h0_1p h0_2p h6_0p h6_1p g1p g2kp g2vp g3kp g3vp g4kp g4vp hi))⟩⟩
theorem bd18 : Callable Try.prog 18 := ⟨by rw [Try.func18]; kernel_rfl, by rw [Try.func18]; show some _ ≠ some _; decide⟩
theorem k11w (p1 : Int) (p2 : List TMessage) (c0_0 : Bool) (c0_1 : Int) (c0_2 : Int) (w1 : List TQuestion) (w2k : List ByteArray) (w2v : List Int) (w3k : List ByteArray) (w3v : List (List Int)) (w4k : List ByteArray) (w4v : List Bool) (h : U64 p1 ∧ ((∀ m ∈ p2, MR m) ∧ p2.length ≤ 1000) ∧ OOk (OS.mk c0_0 c0_1 c0_2 w1 w2k w2v w3k w3v w4k w4v) ∧ w1.length ≤ 900000) : kk2 (p1, p2, c0_0, c0_1, c0_2, w1, w2k, w2v, w3k, w3v, w4k, w4v, ()) ((((absO (OS.mk c0_0 c0_1 c0_2 w1 w2k w2v w3k w3v w4k w4v) (TTranscript.mk p1 0) p2).t).State : Int), (((absO (OS.mk c0_0 c0_1 c0_2 w1 w2k w2v w3k w3v w4k w4v) (TTranscript.mk p1 0) p2).t).Count : Int), (((absO (OS.mk c0_0 c0_1 c0_2 w1 w2k w2v w3k w3v w4k w4v) (TTranscript.mk p1 0) p2).o.a) : Bool), (((absO (OS.mk c0_0 c0_1 c0_2 w1 w2k w2v w3k w3v w4k w4v) (TTranscript.mk p1 0) p2).o.b) : Int), (((absO (OS.mk c0_0 c0_1 c0_2 w1 w2k w2v w3k w3v w4k w4v) (TTranscript.mk p1 0) p2).o.c) : Int), (((absO (OS.mk c0_0 c0_1 c0_2 w1 w2k w2v w3k w3v w4k w4v) (TTranscript.mk p1 0) p2).o.q) : List TQuestion), (((absO (OS.mk c0_0 c0_1 c0_2 w1 w2k w2v w3k w3v w4k w4v) (TTranscript.mk p1 0) p2).o.k) : List ByteArray), (((absO (OS.mk c0_0 c0_1 c0_2 w1 w2k w2v w3k w3v w4k w4v) (TTranscript.mk p1 0) p2).o.v) : List Int), (((absO (OS.mk c0_0 c0_1 c0_2 w1 w2k w2v w3k w3v w4k w4v) (TTranscript.mk p1 0) p2).o.s) : List ByteArray), (((absO (OS.mk c0_0 c0_1 c0_2 w1 w2k w2v w3k w3v w4k w4v) (TTranscript.mk p1 0) p2).o.t) : List (List Int)), (((absO (OS.mk c0_0 c0_1 c0_2 w1 w2k w2v w3k w3v w4k w4v) (TTranscript.mk p1 0) p2).o.x) : List ByteArray), (((absO (OS.mk c0_0 c0_1 c0_2 w1 w2k w2v w3k w3v w4k w4v) (TTranscript.mk p1 0) p2).o.y) : List Bool), ()) := by
  obtain ⟨h1, ⟨h2, h3⟩, h4, h5⟩ := h
  generalize hO0 : absO (OS.mk c0_0 c0_1 c0_2 w1 w2k w2v w3k w3v w4k w4v) (TTranscript.mk p1 0) p2 = A
  refine k14o (r0 := A.t) ⟨rfl, k12v (r0 := A.t) (fun i a b c ts tc q k v s t x y => (0 ≤ i ∧ i ≤ p2.length) ∧ U64 ts ∧ absO (OS.mk a b c q k v s t x y) (TTranscript.mk ts tc) (p2.drop i.toNat) = A ∧ OOk (OS.mk a b c q k v s t x y) ∧ q.length ≤ 900000 + i.toNat)
    (fun i _ _ _ _ _ _ _ _ _ _ _ _ => (p2.length - i).toNat) ⟨⟨by omega, by omega⟩, h1, hO0, h4, by omega⟩ ?_⟩
  rintro i a b c ts tc q k v s t x y ⟨⟨g0, g1⟩, g2, g3, g4, g5⟩
  refine ⟨fun hh => ?_, fun hh => ?_⟩
  · have hh := of_decide_eq_true hh
    have hm := h2 _ (ix_mem p2 i g0 hh)
    have hn := hm.n
    rw [drop_ix p2 i g0 hh] at g3
    simp only [List.nil_append]
    have g6 := g4.h 18 (l := [ts, (ix p2 i).Tag] ++ (ix p2 i).L) (by simp; omega) (show q.length ≤ 999999 by omega)
    have g7 := g4.lt 18 ([ts, (ix p2 i).Tag] ++ (ix p2 i).L)
    refine ⟨g0, hh, by simp; omega, by simp; unfold maxLen; omega, (by first | exact rfl | exact True.intro), ⟨g2, hm.t, ⟨hm.l, by omega⟩, g4⟩, (by first | exact rfl | exact True.intro), ?_⟩
    rw [inc i p2.length g0 hh (by omega)]
    refine ⟨⟨⟨by omega, by omega⟩, ?_, g3, g6.1, ?_⟩, by omega⟩
    · exact ⟨g7.1, Int.lt_trans g7.2 (by decide)⟩
    · have : (hO (OS.mk a b c q k v s t x y) 18 ([ts, (ix p2 i).Tag] ++ (ix p2 i).L)).o.q.length ≤ q.length + 1 := g6.2.2
      exact Nat.le_trans this (by omega)
  · have hh := of_decide_eq_false hh
    rw [List.drop_eq_nil_of_le (by omega)] at g3
    rw [← g3]
    exact ⟨rfl, rfl, rfl, rfl, rfl, rfl, rfl, rfl, rfl, rfl, rfl, rfl, rfl⟩
noncomputable def kt6 : Con TB.den := k2p.fnR (fun x => (fun (p1 : Int) (p2 : List TMessage) (c0_0 : Bool) (c0_1 : Int) (c0_2 : Int) (w1 : List TQuestion) (w2k : List ByteArray) (w2v : List Int) (w3k : List ByteArray) (w3v : List (List Int)) (w4k : List ByteArray) (w4v : List Bool) => U64 p1 ∧ ((∀ m ∈ p2, MR m) ∧ p2.length ≤ 1000) ∧ OOk (OS.mk c0_0 c0_1 c0_2 w1 w2k w2v w3k w3v w4k w4v) ∧ w1.length ≤ 900000) x.1 x.2.1 x.2.2.1 x.2.2.2.1 x.2.2.2.2.1 x.2.2.2.2.2.1 x.2.2.2.2.2.2.1 x.2.2.2.2.2.2.2.1 x.2.2.2.2.2.2.2.2.1 x.2.2.2.2.2.2.2.2.2.1 x.2.2.2.2.2.2.2.2.2.2.1 x.2.2.2.2.2.2.2.2.2.2.2.1) fun x => ((fun (p1 : Int) (p2 : List TMessage) (c0_0 : Bool) (c0_1 : Int) (c0_2 : Int) (w1 : List TQuestion) (w2k : List ByteArray) (w2v : List Int) (w3k : List ByteArray) (w3v : List (List Int)) (w4k : List ByteArray) (w4v : List Bool) => (((absO (OS.mk c0_0 c0_1 c0_2 w1 w2k w2v w3k w3v w4k w4v) (TTranscript.mk p1 0) p2).t).State : Int)) x.1 x.2.1 x.2.2.1 x.2.2.2.1 x.2.2.2.2.1 x.2.2.2.2.2.1 x.2.2.2.2.2.2.1 x.2.2.2.2.2.2.2.1 x.2.2.2.2.2.2.2.2.1 x.2.2.2.2.2.2.2.2.2.1 x.2.2.2.2.2.2.2.2.2.2.1 x.2.2.2.2.2.2.2.2.2.2.2.1, (fun (p1 : Int) (p2 : List TMessage) (c0_0 : Bool) (c0_1 : Int) (c0_2 : Int) (w1 : List TQuestion) (w2k : List ByteArray) (w2v : List Int) (w3k : List ByteArray) (w3v : List (List Int)) (w4k : List ByteArray) (w4v : List Bool) => (((absO (OS.mk c0_0 c0_1 c0_2 w1 w2k w2v w3k w3v w4k w4v) (TTranscript.mk p1 0) p2).t).Count : Int)) x.1 x.2.1 x.2.2.1 x.2.2.2.1 x.2.2.2.2.1 x.2.2.2.2.2.1 x.2.2.2.2.2.2.1 x.2.2.2.2.2.2.2.1 x.2.2.2.2.2.2.2.2.1 x.2.2.2.2.2.2.2.2.2.1 x.2.2.2.2.2.2.2.2.2.2.1 x.2.2.2.2.2.2.2.2.2.2.2.1, (fun (p1 : Int) (p2 : List TMessage) (c0_0 : Bool) (c0_1 : Int) (c0_2 : Int) (w1 : List TQuestion) (w2k : List ByteArray) (w2v : List Int) (w3k : List ByteArray) (w3v : List (List Int)) (w4k : List ByteArray) (w4v : List Bool) => (((absO (OS.mk c0_0 c0_1 c0_2 w1 w2k w2v w3k w3v w4k w4v) (TTranscript.mk p1 0) p2).o.a) : Bool)) x.1 x.2.1 x.2.2.1 x.2.2.2.1 x.2.2.2.2.1 x.2.2.2.2.2.1 x.2.2.2.2.2.2.1 x.2.2.2.2.2.2.2.1 x.2.2.2.2.2.2.2.2.1 x.2.2.2.2.2.2.2.2.2.1 x.2.2.2.2.2.2.2.2.2.2.1 x.2.2.2.2.2.2.2.2.2.2.2.1, (fun (p1 : Int) (p2 : List TMessage) (c0_0 : Bool) (c0_1 : Int) (c0_2 : Int) (w1 : List TQuestion) (w2k : List ByteArray) (w2v : List Int) (w3k : List ByteArray) (w3v : List (List Int)) (w4k : List ByteArray) (w4v : List Bool) => (((absO (OS.mk c0_0 c0_1 c0_2 w1 w2k w2v w3k w3v w4k w4v) (TTranscript.mk p1 0) p2).o.b) : Int)) x.1 x.2.1 x.2.2.1 x.2.2.2.1 x.2.2.2.2.1 x.2.2.2.2.2.1 x.2.2.2.2.2.2.1 x.2.2.2.2.2.2.2.1 x.2.2.2.2.2.2.2.2.1 x.2.2.2.2.2.2.2.2.2.1 x.2.2.2.2.2.2.2.2.2.2.1 x.2.2.2.2.2.2.2.2.2.2.2.1, (fun (p1 : Int) (p2 : List TMessage) (c0_0 : Bool) (c0_1 : Int) (c0_2 : Int) (w1 : List TQuestion) (w2k : List ByteArray) (w2v : List Int) (w3k : List ByteArray) (w3v : List (List Int)) (w4k : List ByteArray) (w4v : List Bool) => (((absO (OS.mk c0_0 c0_1 c0_2 w1 w2k w2v w3k w3v w4k w4v) (TTranscript.mk p1 0) p2).o.c) : Int)) x.1 x.2.1 x.2.2.1 x.2.2.2.1 x.2.2.2.2.1 x.2.2.2.2.2.1 x.2.2.2.2.2.2.1 x.2.2.2.2.2.2.2.1 x.2.2.2.2.2.2.2.2.1 x.2.2.2.2.2.2.2.2.2.1 x.2.2.2.2.2.2.2.2.2.2.1 x.2.2.2.2.2.2.2.2.2.2.2.1, (fun (p1 : Int) (p2 : List TMessage) (c0_0 : Bool) (c0_1 : Int) (c0_2 : Int) (w1 : List TQuestion) (w2k : List ByteArray) (w2v : List Int) (w3k : List ByteArray) (w3v : List (List Int)) (w4k : List ByteArray) (w4v : List Bool) => (((absO (OS.mk c0_0 c0_1 c0_2 w1 w2k w2v w3k w3v w4k w4v) (TTranscript.mk p1 0) p2).o.q) : List TQuestion)) x.1 x.2.1 x.2.2.1 x.2.2.2.1 x.2.2.2.2.1 x.2.2.2.2.2.1 x.2.2.2.2.2.2.1 x.2.2.2.2.2.2.2.1 x.2.2.2.2.2.2.2.2.1 x.2.2.2.2.2.2.2.2.2.1 x.2.2.2.2.2.2.2.2.2.2.1 x.2.2.2.2.2.2.2.2.2.2.2.1, (fun (p1 : Int) (p2 : List TMessage) (c0_0 : Bool) (c0_1 : Int) (c0_2 : Int) (w1 : List TQuestion) (w2k : List ByteArray) (w2v : List Int) (w3k : List ByteArray) (w3v : List (List Int)) (w4k : List ByteArray) (w4v : List Bool) => (((absO (OS.mk c0_0 c0_1 c0_2 w1 w2k w2v w3k w3v w4k w4v) (TTranscript.mk p1 0) p2).o.k) : List ByteArray)) x.1 x.2.1 x.2.2.1 x.2.2.2.1 x.2.2.2.2.1 x.2.2.2.2.2.1 x.2.2.2.2.2.2.1 x.2.2.2.2.2.2.2.1 x.2.2.2.2.2.2.2.2.1 x.2.2.2.2.2.2.2.2.2.1 x.2.2.2.2.2.2.2.2.2.2.1 x.2.2.2.2.2.2.2.2.2.2.2.1, (fun (p1 : Int) (p2 : List TMessage) (c0_0 : Bool) (c0_1 : Int) (c0_2 : Int) (w1 : List TQuestion) (w2k : List ByteArray) (w2v : List Int) (w3k : List ByteArray) (w3v : List (List Int)) (w4k : List ByteArray) (w4v : List Bool) => (((absO (OS.mk c0_0 c0_1 c0_2 w1 w2k w2v w3k w3v w4k w4v) (TTranscript.mk p1 0) p2).o.v) : List Int)) x.1 x.2.1 x.2.2.1 x.2.2.2.1 x.2.2.2.2.1 x.2.2.2.2.2.1 x.2.2.2.2.2.2.1 x.2.2.2.2.2.2.2.1 x.2.2.2.2.2.2.2.2.1 x.2.2.2.2.2.2.2.2.2.1 x.2.2.2.2.2.2.2.2.2.2.1 x.2.2.2.2.2.2.2.2.2.2.2.1, (fun (p1 : Int) (p2 : List TMessage) (c0_0 : Bool) (c0_1 : Int) (c0_2 : Int) (w1 : List TQuestion) (w2k : List ByteArray) (w2v : List Int) (w3k : List ByteArray) (w3v : List (List Int)) (w4k : List ByteArray) (w4v : List Bool) => (((absO (OS.mk c0_0 c0_1 c0_2 w1 w2k w2v w3k w3v w4k w4v) (TTranscript.mk p1 0) p2).o.s) : List ByteArray)) x.1 x.2.1 x.2.2.1 x.2.2.2.1 x.2.2.2.2.1 x.2.2.2.2.2.1 x.2.2.2.2.2.2.1 x.2.2.2.2.2.2.2.1 x.2.2.2.2.2.2.2.2.1 x.2.2.2.2.2.2.2.2.2.1 x.2.2.2.2.2.2.2.2.2.2.1 x.2.2.2.2.2.2.2.2.2.2.2.1, (fun (p1 : Int) (p2 : List TMessage) (c0_0 : Bool) (c0_1 : Int) (c0_2 : Int) (w1 : List TQuestion) (w2k : List ByteArray) (w2v : List Int) (w3k : List ByteArray) (w3v : List (List Int)) (w4k : List ByteArray) (w4v : List Bool) => (((absO (OS.mk c0_0 c0_1 c0_2 w1 w2k w2v w3k w3v w4k w4v) (TTranscript.mk p1 0) p2).o.t) : List (List Int))) x.1 x.2.1 x.2.2.1 x.2.2.2.1 x.2.2.2.2.1 x.2.2.2.2.2.1 x.2.2.2.2.2.2.1 x.2.2.2.2.2.2.2.1 x.2.2.2.2.2.2.2.2.1 x.2.2.2.2.2.2.2.2.2.1 x.2.2.2.2.2.2.2.2.2.2.1 x.2.2.2.2.2.2.2.2.2.2.2.1, (fun (p1 : Int) (p2 : List TMessage) (c0_0 : Bool) (c0_1 : Int) (c0_2 : Int) (w1 : List TQuestion) (w2k : List ByteArray) (w2v : List Int) (w3k : List ByteArray) (w3v : List (List Int)) (w4k : List ByteArray) (w4v : List Bool) => (((absO (OS.mk c0_0 c0_1 c0_2 w1 w2k w2v w3k w3v w4k w4v) (TTranscript.mk p1 0) p2).o.x) : List ByteArray)) x.1 x.2.1 x.2.2.1 x.2.2.2.1 x.2.2.2.2.1 x.2.2.2.2.2.1 x.2.2.2.2.2.2.1 x.2.2.2.2.2.2.2.1 x.2.2.2.2.2.2.2.2.1 x.2.2.2.2.2.2.2.2.2.1 x.2.2.2.2.2.2.2.2.2.2.1 x.2.2.2.2.2.2.2.2.2.2.2.1, (fun (p1 : Int) (p2 : List TMessage) (c0_0 : Bool) (c0_1 : Int) (c0_2 : Int) (w1 : List TQuestion) (w2k : List ByteArray) (w2v : List Int) (w3k : List ByteArray) (w3v : List (List Int)) (w4k : List ByteArray) (w4v : List Bool) => (((absO (OS.mk c0_0 c0_1 c0_2 w1 w2k w2v w3k w3v w4k w4v) (TTranscript.mk p1 0) p2).o.y) : List Bool)) x.1 x.2.1 x.2.2.1 x.2.2.2.1 x.2.2.2.2.1 x.2.2.2.2.2.1 x.2.2.2.2.2.2.1 x.2.2.2.2.2.2.2.1 x.2.2.2.2.2.2.2.2.1 x.2.2.2.2.2.2.2.2.2.1 x.2.2.2.2.2.2.2.2.2.2.1 x.2.2.2.2.2.2.2.2.2.2.2.1, ())
theorem k155 : kt6.Ok Try.prog TB := Con.ok_fn k2p bd18 fun x h => k146 (k11w x.1 x.2.1 x.2.2.1 x.2.2.2.1 x.2.2.2.2.1 x.2.2.2.2.2.1 x.2.2.2.2.2.2.1 x.2.2.2.2.2.2.2.1 x.2.2.2.2.2.2.2.2.1 x.2.2.2.2.2.2.2.2.2.1 x.2.2.2.2.2.2.2.2.2.2.1 x.2.2.2.2.2.2.2.2.2.2.2.1 h)
end Go.Proofs.Ytponaobpcdkggaa
namespace Go.Proofs.Ytponaobpcdkggaa
open Go Go.Bv Go.Cv Go.Md Go.RowKit
def k4q : Con TB.den := Con.mk0 27 [.one (.d (.sl (.int .i64))), .one (.d (.sl (.int .i64)))] [] (.one (.one (.d (.bool)))) []
abbrev k168 := HL TB.den (hsT k4q.ins (hsOs k4q.pre))
abbrev kd7 := HL TB.den (hsV k4q.res (hsOs k4q.post))
noncomputable def k9m : Cx TB := ⟨inf, [], [], 4, []⟩
noncomputable def kgk : Code := Try.f27.body.getD .skip
noncomputable def klf : List ResultVar := Try.f27.results.toList
noncomputable def k1da (o : kd7) : Exit → TSt TB.den → Prop := thenT TB (fun s => ghs TB [] s fun s => WP TB k9m 26 0 (cB (cB (cB kgk))) .no s (retTQ TB k9m k4q klf o)) (retTQ TB k9m k4q klf o)
def kdk : Tm := ⟨[], [], [0, 1, 12, 13], [.one (.d (.sl (.int .i64))), .one (.d (.sl (.int .i64))), .one (.d (.int .i64)), .one (.d (.int .i64))], 0⟩
noncomputable def k1cs (o : kd7) (nx1 : HL TB.den kdk.hs → Prop) : Exit → TSt TB.den → Prop := thenT TB (fun s => kdk.mat TB 0 s nx1) (blockT TB 0 (k1da o))
noncomputable def kkw (o : kd7) (nx1 : HL TB.den kdk.hs → Prop) (i : HL TB.den kdk.hs) : Prop := WP TB k9m 26 0 (cA (cA (cB (cA (cB (cB kgk)))))) .no (kdk.fill TB i) (k1cs o nx1)
noncomputable def k1dd (o : kd7) : An TB := .nd [] .no [] (.lp [] kdk (kkw o) fun nx1 => .no)
noncomputable def k12e (o : kd7) : An TB := .nd [] .no [] (.nd [] .no [] (.nd [] (k1dd o) [] .no))
noncomputable def kr0 (x : k168) (o : kd7) : Prop := WPh TB k9m 26 0 kgk (k12e o) (k4q.st TB x) (retTQ TB k9m k4q klf o)
set_option maxRecDepth 100000 in
theorem k1cq (o : kd7) : OblH TB k9m 26 0 kgk (k12e o) (retTQ TB k9m k4q klf o) :=
  OblH.of_eq (X := (True ∧ ((True ∧ ((True ∧ True) ∧ True)) ∧ ((True ∧ ((∀ nx i, (kkw o) nx i = (kkw o) nx i) ∧ ∀ nx1 : HL TB.den kdk.hs → Prop, (True ∧ ((True ∧ True) ∧ ((True ∧ (True ∧ ((True ∧ True) ∧ True))) ∧ True))))) ∧ (True ∧ True))))) (by kernel_rfl) ⟨trivial, ⟨⟨trivial, ⟨⟨trivial, trivial⟩, trivial⟩⟩, ⟨⟨trivial, ⟨fun _ _ => rfl, fun _ => ⟨trivial, ⟨⟨trivial, trivial⟩, ⟨⟨trivial, ⟨trivial, ⟨⟨trivial, trivial⟩, trivial⟩⟩⟩, trivial⟩⟩⟩⟩⟩, ⟨trivial, trivial⟩⟩⟩⟩
set_option maxRecDepth 100000 in
theorem k1cg {x : k168} {o : kd7} (h : kr0 x o) : SoundH Try.prog k4q.f ((k4q.args idf x).map (er TB)) ((k4q.obs idf x).map (erO TB)) (er TB (k4q.val idf o)) ((k4q.ops idf o).map (erO TB)) :=
  Con.soundH (c := k4q) (C := k9m) TBok ⟨inf_ok, all_nil, all_nil⟩ mix Try.func27 (show Try.f27.body = some kgk by kernel_rfl) (show Try.f27.ntmps = 26 by kernel_rfl) (show Try.f27.results.toList = klf by kernel_rfl) rfl h (k1cq o)
set_option maxRecDepth 100000 in
theorem k1dn {p0 : List Int} {p1 : List Int} {r0 : Bool} (h :
((((p0.length : Int) != (p1.length : Int)) = true →
 false = r0) ∧
(((p0.length : Int) != (p1.length : Int)) = false →
 Md.Loop (p0, p1, ((p0.length : Int) : Int), (0 : Int), ()) (kkw (r0, ()))))) : kr0 (p0, p1, ()) (r0, ()) := WPh.of_eq (by kernel_rfl) h
def k12b (r0 : Bool) (k1 : Int → Prop) (s0 : List Int) (s1 : List Int) (s12 : Int) (s13 : Int) : Prop :=
(decide (s13 < s12) = true →
(0 ≤ s13) ∧ s13 < (s0.length : Int) ∧ (0 ≤ s13) ∧ s13 < (s1.length : Int) ∧ (((ix s0 s13) != (ix s1 s13)) = true →
 false = r0) ∧
(((ix s0 s13) != (ix s1 s13)) = false →
 k1 (IntKind.i64.wrap (s13 + 1) : Int))) ∧
(decide (s13 < s12) = false →
 true = r0)
set_option maxRecDepth 100000 in
theorem k1ca {r0 : Bool} {s0 : List Int} {s1 : List Int} {s12 : Int} {s13 : Int} (inv : Int → Prop) (μ : Int → Nat) (h0 : inv s13) (hs : ∀ (s13 : Int), inv s13 → k12b r0 (fun s13q => inv s13q ∧ μ s13q < μ s13) s0 s1 s12 s13) : Md.Loop (s0, s1, s12, s13, ()) (kkw (r0, ())) :=
  ⟨⟨fun s : (List Int) × (List Int) × Int × Int × Unit => (s.1 = s0 ∧ s.2.1 = s1 ∧ s.2.2.1 = s12) ∧ inv s.2.2.2.1, fun s : (List Int) × (List Int) × Int × Int × Unit => μ s.2.2.2.1, ⟨⟨rfl, rfl, rfl⟩, h0⟩, fun (s0p, s1p, s12p, s13p, ()) ⟨⟨eq0, eq1, eq2⟩, hi⟩ => by
    have eq0 : s0p = s0 := eq0; subst s0p; have eq1 : s1p = s1 := eq1; subst s1p; have eq2 : s12p = s12 := eq2; subst s12p; exact mpr_of (by kernel_rfl) ((congrArg (fun k => k12b r0 k s0 s1 s12 s13p) (lpk1 (⟨rfl, rfl, rfl⟩ : s0 = s0 ∧ s1 = s1 ∧ s12 = s12) inv (fun s13q => μ s13q < μ s13p))).mpr (hs s13p hi))⟩⟩
theorem bd27 : Callable Try.prog 27 := ⟨by rw [Try.func27]; kernel_rfl, by rw [Try.func27]; show some _ ≠ some _; decide⟩
theorem k19i (p0 : List Int) (p1 : List Int) (h : p0.length ≤ 9223372036854775807) : kr0 (p0, p1, ()) (((decide (p0 = p1)) : Bool), ()) := by
  refine k1dn ⟨fun e => ?_, fun e => ?_⟩
  · have e : ¬ (p0.length : Int) = p1.length := by simpa using e
    rw [decide_eq_false (by rintro rfl; exact e rfl)]
  · have e : (p0.length : Int) = p1.length := by simpa using e
    refine k1ca (fun i => 0 ≤ i ∧ i ≤ p0.length ∧ p0.take i.toNat = p1.take i.toNat) (fun i => (p0.length - i).toNat) ⟨by omega, by omega, by simp⟩ ?_
    rintro i ⟨g0, g1, g2⟩
    refine ⟨fun hh => ?_, fun hh => ?_⟩
    · have hh := of_decide_eq_true hh
      refine ⟨g0, hh, g0, by omega, fun e2 => ?_, fun e2 => ?_⟩
      · have e2 : ¬ ix p0 i = ix p1 i := by simpa using e2
        rw [decide_eq_false (by rintro rfl; exact e2 rfl)]
      · have e2 : ix p0 i = ix p1 i := by simpa using e2
        rw [inc i p0.length g0 hh (by omega)]
        refine ⟨⟨by omega, by omega, ?_⟩, by omega⟩
        rw [k69 p0 i g0 hh, k69 p1 i g0 (by omega), g2, e2]
    · have hh := of_decide_eq_false hh
      rw [List.take_of_length_le (by omega), List.take_of_length_le (by omega)] at g2
      rw [decide_eq_true g2]
noncomputable def kzn : Con TB.den := k4q.fnR (fun x => (fun (p0 : List Int) (p1 : List Int) => p0.length ≤ 9223372036854775807) x.1 x.2.1) fun x => ((fun (p0 : List Int) (p1 : List Int) => ((decide (p0 = p1)) : Bool)) x.1 x.2.1, ())
theorem k1d5 : kzn.Ok Try.prog TB := Con.ok_fn k4q bd27 fun x h => k1cg (k19i x.1 x.2.1 h)
end Go.Proofs.Ytponaobpcdkggaa
namespace Go.Proofs.Ytponaobpcdkggaa
open Go Go.Bv Go.Cv Go.Md Go.RowKit
theorem bd28 : Callable Try.prog 28 := ⟨by rw [Try.func28]; kernel_rfl, by rw [Try.func28]; show some _ ≠ some _; decide⟩
end Go.Proofs.Ytponaobpcdkggaa
namespace Go.Proofs.Ytponaobpcdkggaa
open Go Go.Bv Go.Cv Go.Md Go.RowKit
theorem bd9 : Callable Try.prog 9 := ⟨by rw [Try.func9]; kernel_rfl, by rw [Try.func9]; show some _ ≠ some _; decide⟩
end Go.Proofs.Ytponaobpcdkggaa
namespace Go.Proofs.Ytponaobpcdkggaa
open Go Go.Bv Go.Cv Go.Md Go.RowKit
def k1z : Con TB.den := Con.mk0 28 [] [] (.one (.one (.ptr 0 0))) [.cells [.d (.bool), .d (.int .u64), .d (.int .i64), .own 1, .mp 2, .mp 3, .mp 4], .tip (.st 1), .map (.str) (.int .i64), .map (.str) (.sl (.int .u64)), .map (.str) (.bool)]
abbrev knh := HL TB.den (hsT k1z.ins (hsOs k1z.pre))
abbrev kbd := HL TB.den (hsV k1z.res (hsOs k1z.post))
noncomputable def k89 : Cx TB := ⟨inf, [], [], 4, []⟩
noncomputable def kcs : Code := Try.f28.body.getD .skip
noncomputable def kf2 : List ResultVar := Try.f28.results.toList
noncomputable def kmn (o : kbd) : An TB := .nd [] .no [] (.nd [] .no [] (.rt [.tokc 3 3 (.st 1)]))
noncomputable def kcv (x : knh) (o : kbd) : Prop := WPh TB k89 6 0 kcs (kmn o) (k1z.st TB x) (retTQ TB k89 k1z kf2 o)
set_option maxRecDepth 100000 in
theorem kvf (o : kbd) : OblH TB k89 6 0 kcs (kmn o) (retTQ TB k89 k1z kf2 o) :=
  OblH.of_eq (X := (True ∧ (True ∧ True))) (by kernel_rfl) ⟨trivial, ⟨trivial, trivial⟩⟩
set_option maxRecDepth 100000 in
theorem kva {x : knh} {o : kbd} (h : kcv x o) : SoundH Try.prog k1z.f ((k1z.args idf x).map (er TB)) ((k1z.obs idf x).map (erO TB)) (er TB (k1z.val idf o)) ((k1z.ops idf o).map (erO TB)) :=
  Con.soundH (c := k1z) (C := k89) TBok ⟨inf_ok, all_nil, all_nil⟩ mix Try.func28 (show Try.f28.body = some kcs by kernel_rfl) (show Try.f28.ntmps = 6 by kernel_rfl) (show Try.f28.results.toList = kf2 by kernel_rfl) rfl h (kvf o)
set_option maxRecDepth 100000 in
theorem kwi  {d0_0 : Bool} {d0_1 : Int} {d0_2 : Int} {e1 : List TQuestion} {e2k : List ByteArray} {e2v : List Int} {e3k : List ByteArray} {e3v : List (List Int)} {e4k : List ByteArray} {e4v : List Bool} (h :
((([] : List TQuestion) = ([] : List TQuestion)) ∧ false = d0_0 ∧ 0 = d0_1 ∧ 0 = d0_2 ∧ ([] : List TQuestion) = e1 ∧ ([] : List ByteArray) = e2k ∧ ([] : List Int) = e2v ∧ ([] : List ByteArray) = e3k ∧ ([] : List (List Int)) = e3v ∧ ([] : List ByteArray) = e4k ∧ ([] : List Bool) = e4v)) : kcv (()) (d0_0, d0_1, d0_2, e1, e2k, e2v, e3k, e3v, e4k, e4v, ()) := WPh.of_eq (by kernel_rfl) h
theorem ku7 : kcv (()) ((false : Bool), (0 : Int), (0 : Int), (([] : List TQuestion) : List TQuestion), ([] : List ByteArray), ([] : List Int), ([] : List ByteArray), ([] : List (List Int)), ([] : List ByteArray), ([] : List Bool), ()) := by
  exact kwi ⟨rfl, rfl, rfl, rfl, rfl, rfl, rfl, rfl, rfl, rfl, rfl⟩
noncomputable def kle : Con TB.den := k1z.totR fun x => ((false : Bool), (0 : Int), (0 : Int), (([] : List TQuestion) : List TQuestion), ([] : List ByteArray), ([] : List Int), ([] : List ByteArray), ([] : List (List Int)), ([] : List ByteArray), ([] : List Bool), ())
theorem kw7 : kle.Ok Try.prog TB := Con.ok_tot k1z bd28 fun x => kva (ku7 )
end Go.Proofs.Ytponaobpcdkggaa
namespace Go.Proofs.Ytponaobpcdkggaa
open Go Go.Bv Go.Cv Go.Md Go.RowKit
def k2w : Con TB.den := Con.mk0 9 [] [] (.one (.one (.ptr 0 0))) [.cells [.d (.bool), .d (.int .u64), .d (.int .i64), .own 1, .mp 2, .mp 3, .mp 4], .tip (.st 1), .map (.str) (.int .i64), .map (.str) (.sl (.int .u64)), .map (.str) (.bool)]
abbrev kuf := HL TB.den (hsT k2w.ins (hsOs k2w.pre))
abbrev khc := HL TB.den (hsV k2w.res (hsOs k2w.post))
noncomputable def kc3 : Cx TB := ⟨inf, [kle], [], 4, []⟩
noncomputable def khm : Code := Try.f9.body.getD .skip
noncomputable def klv : List ResultVar := Try.f9.results.toList
noncomputable def ksu (o : khc) : An TB := .no
noncomputable def kic (x : kuf) (o : khc) : Prop := WPh TB kc3 2 0 khm (ksu o) (k2w.st TB x) (retTQ TB kc3 k2w klv o)
set_option maxRecDepth 100000 in
theorem k11o (o : khc) : OblH TB kc3 2 0 khm (ksu o) (retTQ TB kc3 k2w klv o) :=
  OblH.of_eq (X := (True ∧ (True ∧ True))) (by kernel_rfl) ⟨trivial, ⟨trivial, trivial⟩⟩
set_option maxRecDepth 100000 in
theorem k11e {x : kuf} {o : khc} (h : kic x o) : SoundH Try.prog k2w.f ((k2w.args idf x).map (er TB)) ((k2w.obs idf x).map (erO TB)) (er TB (k2w.val idf o)) ((k2w.ops idf o).map (erO TB)) :=
  Con.soundH (c := k2w) (C := kc3) TBok ⟨inf_ok, (all_cons kw7 all_nil), all_nil⟩ mix Try.func9 (show Try.f9.body = some khm by kernel_rfl) (show Try.f9.ntmps = 2 by kernel_rfl) (show Try.f9.results.toList = klv by kernel_rfl) rfl h (k11o o)
set_option maxRecDepth 100000 in
theorem k13y  {d0_0 : Bool} {d0_1 : Int} {d0_2 : Int} {e1 : List TQuestion} {e2k : List ByteArray} {e2v : List Int} {e3k : List ByteArray} {e3v : List (List Int)} {e4k : List ByteArray} {e4v : List Bool} (h :
((([] : List TQuestion) = ([] : List TQuestion)) ∧ false = d0_0 ∧ 0 = d0_1 ∧ 0 = d0_2 ∧ ([] : List TQuestion) = e1 ∧ [] = e2k ∧ [] = e2v ∧ [] = e3k ∧ [] = e3v ∧ [] = e4k ∧ [] = e4v)) : kic (()) (d0_0, d0_1, d0_2, e1, e2k, e2v, e3k, e3v, e4k, e4v, ()) := WPh.of_eq (by kernel_rfl) h
theorem k10d : kic (()) ((false : Bool), (0 : Int), (0 : Int), (([] : List TQuestion) : List TQuestion), ([] : List ByteArray), ([] : List Int), ([] : List ByteArray), ([] : List (List Int)), ([] : List ByteArray), ([] : List Bool), ()) := by
  exact k13y ⟨rfl, rfl, rfl, rfl, rfl, rfl, rfl, rfl, rfl, rfl, rfl⟩
noncomputable def kkd : Con TB.den := k2w.totR fun x => ((false : Bool), (0 : Int), (0 : Int), (([] : List TQuestion) : List TQuestion), ([] : List ByteArray), ([] : List Int), ([] : List ByteArray), ([] : List (List Int)), ([] : List ByteArray), ([] : List Bool), ())
theorem ktl : kkd.Ok Try.prog TB := Con.ok_tot k2w bd9 fun x => k11e (k10d )
end Go.Proofs.Ytponaobpcdkggaa
namespace Go.Proofs.Ytponaobpcdkggaa
open Go Go.Bv Go.Cv Go.Md Go.RowKit
def k67 : Con TB.den := Con.mk0 48 [.one (.d (.int .u64))] [] (.one (.agg [.d (.int .u64), .d (.int .u64), .d (.int .u64)])) []
abbrev k18b := HL TB.den (hsT k67.ins (hsOs k67.pre))
abbrev kus := HL TB.den (hsV k67.res (hsOs k67.post))
noncomputable def kn7 : Cx TB := ⟨inf, [], [], 4, []⟩
noncomputable def kt1 : Code := Try.f48.body.getD .skip
noncomputable def kxj : List ResultVar := Try.f48.results.toList
noncomputable def k152 (o : kus) : An TB := .no
noncomputable def ktn (x : k18b) (o : kus) : Prop := WPh TB kn7 26 0 kt1 (k152 o) (k67.st TB x) (retTQ TB kn7 k67 kxj o)
set_option maxRecDepth 100000 in
theorem k1d3 (o : kus) : OblH TB kn7 26 0 kt1 (k152 o) (retTQ TB kn7 k67 kxj o) :=
  OblH.of_eq (X := (True ∧ ((True ∧ (True ∧ ((True ∧ True) ∧ (True ∧ ((True ∧ True) ∧ (True ∧ ((True ∧ True) ∧ (True ∧ ((True ∧ True) ∧ (True ∧ ((True ∧ True) ∧ (True ∧ ((True ∧ True) ∧ (True ∧ ((True ∧ True) ∧ True))))))))))))))) ∧ (True ∧ True)))) (by kernel_rfl) ⟨trivial, ⟨⟨trivial, ⟨trivial, ⟨⟨trivial, trivial⟩, ⟨trivial, ⟨⟨trivial, trivial⟩, ⟨trivial, ⟨⟨trivial, trivial⟩, ⟨trivial, ⟨⟨trivial, trivial⟩, ⟨trivial, ⟨⟨trivial, trivial⟩, ⟨trivial, ⟨⟨trivial, trivial⟩, ⟨trivial, ⟨⟨trivial, trivial⟩, trivial⟩⟩⟩⟩⟩⟩⟩⟩⟩⟩⟩⟩⟩⟩⟩, ⟨trivial, trivial⟩⟩⟩
set_option maxRecDepth 100000 in
theorem k1dq {x : k18b} {o : kus} (h : ktn x o) : SoundH Try.prog k67.f ((k67.args idf x).map (er TB)) ((k67.obs idf x).map (erO TB)) (er TB (k67.val idf o)) ((k67.ops idf o).map (erO TB)) :=
  Con.soundH (c := k67) (C := kn7) TBok ⟨inf_ok, all_nil, all_nil⟩ mix Try.func48 (show Try.f48.body = some kt1 by kernel_rfl) (show Try.f48.ntmps = 26 by kernel_rfl) (show Try.f48.results.toList = kxj by kernel_rfl) rfl h (k1d3 o)
set_option maxRecDepth 100000 in
theorem k1et {p0 : Int} {r0 : TA3} (h :
(((p0 == 17) = true →
 3 = r0.a0 ∧ 4 = r0.a1 ∧ 3 = r0.a2) ∧
((p0 == 17) = false →
((p0 == 97) = true →
 5 = r0.a0 ∧ 5 = r0.a1 ∧ 5 = r0.a2) ∧
((p0 == 97) = false →
((p0 == 193) = true →
 5 = r0.a0 ∧ 6 = r0.a1 ∧ 5 = r0.a2) ∧
((p0 == 193) = false →
((p0 == 257) = true →
 3 = r0.a0 ∧ 8 = r0.a1 ∧ 3 = r0.a2) ∧
((p0 == 257) = false →
((p0 == 12289) = true →
 11 = r0.a0 ∧ 12 = r0.a1 ∧ 5 = r0.a2) ∧
((p0 == 12289) = false →
((p0 == 65537) = true →
 3 = r0.a0 ∧ 16 = r0.a1 ∧ 3 = r0.a2) ∧
((p0 == 65537) = false →
((p0 == 18446744069414584321) = true →
 7 = r0.a0 ∧ 32 = r0.a1 ∧ 7 = r0.a2) ∧
((p0 == 18446744069414584321) = false →
 0 = r0.a0 ∧ 0 = r0.a1 ∧ 0 = r0.a2))))))))) : ktn (p0, ()) (r0.a0, r0.a1, r0.a2, ()) := WPh.of_eq (by kernel_rfl) h
theorem bd48 : Callable Try.prog 48 := ⟨by rw [Try.func48]; kernel_rfl, by rw [Try.func48]; show some _ ≠ some _; decide⟩
theorem k1b1 (p0 : Int) (h : p0 = 18446744069414584321) : ktn (p0, ()) ((7 : Int), (32 : Int), (7 : Int), ()) := by
  refine k1et (r0 := TA3.mk 7 32 7) ?_
  simp [h]
noncomputable def kve : Con TB.den := k67.fnR (fun x => (fun (p0 : Int) => p0 = 18446744069414584321) x.1) fun x => ((fun (p0 : Int) => (7 : Int)) x.1, (fun (p0 : Int) => (32 : Int)) x.1, (fun (p0 : Int) => (7 : Int)) x.1, ())
theorem k157 : kve.Ok Try.prog TB := Con.ok_fn k67 bd48 fun x h => k1dq (k1b1 x.1 h)
end Go.Proofs.Ytponaobpcdkggaa
namespace Go.Proofs.Ytponaobpcdkggaa
open Go Go.Bv Go.Cv Go.Md Go.RowKit
def k4x : Con TB.den := Con.mk0 38 [.one (.d (.int .u64))] [] (.one (.one (.d (.bool)))) []
abbrev k121 := HL TB.den (hsT k4x.ins (hsOs k4x.pre))
abbrev kq8 := HL TB.den (hsV k4x.res (hsOs k4x.post))
noncomputable def ki1 : Cx TB := ⟨inf, [kve], [], 4, []⟩
noncomputable def kow : Code := Try.f38.body.getD .skip
noncomputable def kta : List ResultVar := Try.f38.results.toList
noncomputable def k10x (o : kq8) : An TB := .no
noncomputable def kp4 (x : k121) (o : kq8) : Prop := WPh TB ki1 7 0 kow (k10x o) (k4x.st TB x) (retTQ TB ki1 k4x kta o)
set_option maxRecDepth 100000 in
theorem k19k (o : kq8) : OblH TB ki1 7 0 kow (k10x o) (retTQ TB ki1 k4x kta o) :=
  OblH.of_eq (X := (True ∧ (True ∧ True))) (by kernel_rfl) ⟨trivial, ⟨trivial, trivial⟩⟩
set_option maxRecDepth 100000 in
theorem k19v {x : k121} {o : kq8} (h : kp4 x o) : SoundH Try.prog k4x.f ((k4x.args idf x).map (er TB)) ((k4x.obs idf x).map (erO TB)) (er TB (k4x.val idf o)) ((k4x.ops idf o).map (erO TB)) :=
  Con.soundH (c := k4x) (C := ki1) TBok ⟨inf_ok, (all_cons k157 all_nil), all_nil⟩ mix Try.func38 (show Try.f38.body = some kow by kernel_rfl) (show Try.f38.ntmps = 7 by kernel_rfl) (show Try.f38.results.toList = kta by kernel_rfl) rfl h (k19k o)
set_option maxRecDepth 100000 in
theorem k1bj {p0 : Int} {r0 : Bool} (h :
((p0 = 18446744069414584321) ∧ decide (0 < (7 : Int)) = r0)) : kp4 (p0, ()) (r0, ()) := WPh.of_eq (by kernel_rfl) h
theorem bd38 : Callable Try.prog 38 := ⟨by rw [Try.func38]; kernel_rfl, by rw [Try.func38]; show some _ ≠ some _; decide⟩
theorem k177 (p0 : Int) (h : p0 = 18446744069414584321) : kp4 (p0, ()) ((true : Bool), ()) := by
  exact k1bj ⟨h, rfl⟩
noncomputable def kar : Con TB.den := k4x.fnR (fun x => (fun (p0 : Int) => p0 = 18446744069414584321) x.1) fun x => ((fun (p0 : Int) => (true : Bool)) x.1, ())
theorem kff : kar.Ok Try.prog TB := Con.ok_fn k4x bd38 fun x h => k19v (k177 x.1 h)
end Go.Proofs.Ytponaobpcdkggaa
namespace Go.Proofs.Ytponaobpcdkggaa
open Go Go.Bv Go.Cv Go.Md Go.RowKit
def k68 : Con TB.den := Con.mk0 49 [.one (.d (.int .u64)), .one (.d (.int .u64)), .one (.d (.int .u64))] [] (.one (.one (.d (.int .u64)))) []
abbrev k182 := HL TB.den (hsT k68.ins (hsOs k68.pre))
abbrev kui := HL TB.den (hsV k68.res (hsOs k68.post))
noncomputable def kn3 : Cx TB := ⟨inf, [kar], [], 4, []⟩
noncomputable def kti : Code := Try.f49.body.getD .skip
noncomputable def kxh : List ResultVar := Try.f49.results.toList
noncomputable def k15w (o : kui) : An TB := .no
noncomputable def ktm (x : k182) (o : kui) : Prop := WPh TB kn3 29 0 kti (k15w o) (k68.st TB x) (retTQ TB kn3 k68 kxh o)
set_option maxRecDepth 100000 in
theorem k1du (o : kui) : OblH TB kn3 29 0 kti (k15w o) (retTQ TB kn3 k68 kxh o) :=
  OblH.of_eq (X := (True ∧ ((True ∧ ((True ∧ True) ∧ True)) ∧ (True ∧ ((True ∧ ((True ∧ True) ∧ True)) ∧ (True ∧ True)))))) (by kernel_rfl) ⟨trivial, ⟨⟨trivial, ⟨⟨trivial, trivial⟩, trivial⟩⟩, ⟨trivial, ⟨⟨trivial, ⟨⟨trivial, trivial⟩, trivial⟩⟩, ⟨trivial, trivial⟩⟩⟩⟩⟩
set_option maxRecDepth 100000 in
theorem k1cy {x : k182} {o : kui} (h : ktm x o) : SoundH Try.prog k68.f ((k68.args idf x).map (er TB)) ((k68.obs idf x).map (erO TB)) (er TB (k68.val idf o)) ((k68.ops idf o).map (erO TB)) :=
  Con.soundH (c := k68) (C := kn3) TBok ⟨inf_ok, (all_cons kff all_nil), all_nil⟩ mix Try.func49 (show Try.f49.body = some kti by kernel_rfl) (show Try.f49.ntmps = 29 by kernel_rfl) (show Try.f49.results.toList = kxh by kernel_rfl) rfl h (k1du o)
set_option maxRecDepth 100000 in
theorem k1en {p0 : Int} {p1 : Int} {p2 : Int} {r0 : Int} (h :
((p0 = 18446744069414584321) ∧ ((!true) = true →
 0 = r0) ∧
((!true) = false →
(p0 ≠ 0) ∧ (p0 ≠ 0) ∧ let v1 : Bool := decide ((IntKind.u64.wrap (p0 - (Int.tmod p2 p0))) ≤ (Int.tmod p1 p0))
(v1 = true →
 let v2 : Int := IntKind.u64.wrap ((Int.tmod p1 p0) - (IntKind.u64.wrap (p0 - (Int.tmod p2 p0))))
 v2 = r0) ∧
(v1 = false →
 let v3 : Int := IntKind.u64.wrap ((Int.tmod p1 p0) + (Int.tmod p2 p0))
 v3 = r0)))) : ktm (p0, p1, p2, ()) (r0, ()) := WPh.of_eq (by kernel_rfl) h
theorem bd49 : Callable Try.prog 49 := ⟨by rw [Try.func49]; kernel_rfl, by rw [Try.func49]; show some _ ≠ some _; decide⟩
theorem k1c4 (p0 : Int) (p1 : Int) (p2 : Int) (h : p0 = 18446744069414584321 ∧ U64 p1 ∧ U64 p2) : ktm (p0, p1, p2, ()) ((((p1 + p2) % 18446744069414584321) : Int), ()) := by
  obtain ⟨rfl, h1, h2⟩ := h
  refine k1en ⟨rfl, fun h => by simp at h, fun _ => ?_⟩
  rw [tmod_nn _ _ h1.1, tmod_nn _ _ h2.1]
  simp only [u64w]
  refine ⟨by omega, by omega, fun h => ?_, fun h => ?_⟩
  · have h := of_decide_eq_true h
    omega
  · have h := of_decide_eq_false h
    omega
noncomputable def kkv : Con TB.den := k68.fnR (fun x => (fun (p0 : Int) (p1 : Int) (p2 : Int) => p0 = 18446744069414584321 ∧ U64 p1 ∧ U64 p2) x.1 x.2.1 x.2.2.1) fun x => ((fun (p0 : Int) (p1 : Int) (p2 : Int) => (((p1 + p2) % 18446744069414584321) : Int)) x.1 x.2.1 x.2.2.1, ())
theorem ks6 : kkv.Ok Try.prog TB := Con.ok_fn k68 bd49 fun x h => k1cy (k1c4 x.1 x.2.1 x.2.2.1 h)
end Go.Proofs.Ytponaobpcdkggaa
namespace Go.Proofs.Ytponaobpcdkggaa
open Go Go.Bv Go.Cv Go.Md Go.RowKit
def k66 : Con TB.den := Con.mk0 50 [.one (.d (.int .u64)), .one (.d (.int .u64)), .one (.d (.int .u64))] [] (.one (.one (.d (.int .u64)))) []
abbrev k17y := HL TB.den (hsT k66.ins (hsOs k66.pre))
abbrev kum := HL TB.den (hsV k66.res (hsOs k66.post))
noncomputable def ko8 : Cx TB := ⟨inf, [kar, kou, kpw], [], 4, []⟩
noncomputable def ksp : Code := Try.f50.body.getD .skip
noncomputable def kxb : List ResultVar := Try.f50.results.toList
noncomputable def k16b (o : kum) : An TB := .no
noncomputable def kse (x : k17y) (o : kum) : Prop := WPh TB ko8 32 0 ksp (k16b o) (k66.st TB x) (retTQ TB ko8 k66 kxb o)
set_option maxRecDepth 100000 in
theorem k1dk (o : kum) : OblH TB ko8 32 0 ksp (k16b o) (retTQ TB ko8 k66 kxb o) :=
  OblH.of_eq (X := (True ∧ ((True ∧ ((True ∧ True) ∧ True)) ∧ (True ∧ (True ∧ (True ∧ True)))))) (by kernel_rfl) ⟨trivial, ⟨⟨trivial, ⟨⟨trivial, trivial⟩, trivial⟩⟩, ⟨trivial, ⟨trivial, ⟨trivial, trivial⟩⟩⟩⟩⟩
set_option maxRecDepth 100000 in
theorem k1db {x : k17y} {o : kum} (h : kse x o) : SoundH Try.prog k66.f ((k66.args idf x).map (er TB)) ((k66.obs idf x).map (erO TB)) (er TB (k66.val idf o)) ((k66.ops idf o).map (erO TB)) :=
  Con.soundH (c := k66) (C := ko8) TBok ⟨inf_ok, (all_cons kff (all_cons kyq (all_cons kyv all_nil))), all_nil⟩ mix Try.func50 (show Try.f50.body = some ksp by kernel_rfl) (show Try.f50.ntmps = 32 by kernel_rfl) (show Try.f50.results.toList = kxb by kernel_rfl) rfl h (k1dk o)
set_option maxRecDepth 100000 in
theorem k1dx {p0 : Int} {p1 : Int} {p2 : Int} {r0 : Int} (h :
((p0 = 18446744069414584321) ∧ ((!true) = true →
 0 = r0) ∧
((!true) = false →
(p0 ≠ 0) ∧ (p0 ≠ 0) ∧ (U64 (Int.tmod p1 p0) ∧ U64 (Int.tmod p2 p0)) ∧ let r1 : Int := ((Int.tmod p1 p0) * (Int.tmod p2 p0) / 18446744073709551616)
 let r2 : Int := ((Int.tmod p1 p0) * (Int.tmod p2 p0) % 18446744073709551616)
(U64 r1 ∧ U64 r2 ∧ U64 p0 ∧ r1 < p0) ∧ ((r1 * 18446744073709551616 + r2) % p0) = r0))) : kse (p0, p1, p2, ()) (r0, ()) := WPh.of_eq (by kernel_rfl) h
theorem bd50 : Callable Try.prog 50 := ⟨by rw [Try.func50]; kernel_rfl, by rw [Try.func50]; show some _ ≠ some _; decide⟩
theorem k1bh (p0 : Int) (p1 : Int) (p2 : Int) (h : p0 = 18446744069414584321 ∧ U64 p1 ∧ U64 p2) : kse (p0, p1, p2, ()) (((p1 * p2 % 18446744069414584321) : Int), ()) := by
  obtain ⟨rfl, h1, h2⟩ := h
  refine k1dx ⟨rfl, fun h => by simp at h, fun _ => ?_⟩
  rw [tmod_nn _ _ h1.1, tmod_nn _ _ h2.1, Int.mul_emod p1 p2]
  have a1 : 0 ≤ p1 % 18446744069414584321 ∧ p1 % 18446744069414584321 < 18446744069414584321 := by omega
  have a2 : 0 ≤ p2 % 18446744069414584321 ∧ p2 % 18446744069414584321 < 18446744069414584321 := by omega
  generalize p1 % 18446744069414584321 = a at *
  generalize p2 % 18446744069414584321 = b at *
  have h3 : 0 ≤ a * b := Int.mul_nonneg a1.1 a2.1
  have h4 : a * b ≤ 18446744069414584320 * 18446744069414584320 := Int.mul_le_mul (by omega) (by omega) a2.1 (by omega)
  generalize a * b = m at *
  refine ⟨by omega, by omega, ⟨⟨by omega, by omega⟩, ⟨by omega, by omega⟩⟩, ⟨⟨by omega, by omega⟩, ⟨by omega, by omega⟩, ⟨by omega, by omega⟩, by omega⟩, ?_⟩
  rw [show m / 18446744073709551616 * 18446744073709551616 + m % 18446744073709551616 = m by omega]
noncomputable def kv9 : Con TB.den := k66.fnR (fun x => (fun (p0 : Int) (p1 : Int) (p2 : Int) => p0 = 18446744069414584321 ∧ U64 p1 ∧ U64 p2) x.1 x.2.1 x.2.2.1) fun x => ((fun (p0 : Int) (p1 : Int) (p2 : Int) => ((p1 * p2 % 18446744069414584321) : Int)) x.1 x.2.1 x.2.2.1, ())
theorem k14s : kv9.Ok Try.prog TB := Con.ok_fn k66 bd50 fun x h => k1db (k1bh x.1 x.2.1 x.2.2.1 h)
end Go.Proofs.Ytponaobpcdkggaa
namespace Go.Proofs.Ytponaobpcdkggaa
open Go Go.Bv Go.Cv Go.Md Go.RowKit
def k3b : Con TB.den := Con.mk0 70 [.one (.d (.int .u64))] [] (.one (.one (.d (.int .u64)))) []
abbrev kw8 := HL TB.den (hsT k3b.ins (hsOs k3b.pre))
abbrev kjn := HL TB.den (hsV k3b.res (hsOs k3b.post))
noncomputable def kd8 : Cx TB := ⟨inf, [kve], [], 4, []⟩
noncomputable def kkb : Code := Try.f70.body.getD .skip
noncomputable def ko2 : List ResultVar := Try.f70.results.toList
noncomputable def kur (o : kjn) : An TB := .no
noncomputable def kku (x : kw8) (o : kjn) : Prop := WPh TB kd8 6 0 kkb (kur o) (k3b.st TB x) (retTQ TB kd8 k3b ko2 o)
set_option maxRecDepth 100000 in
theorem k13e (o : kjn) : OblH TB kd8 6 0 kkb (kur o) (retTQ TB kd8 k3b ko2 o) :=
  OblH.of_eq (X := (True ∧ (True ∧ True))) (by kernel_rfl) ⟨trivial, ⟨trivial, trivial⟩⟩
set_option maxRecDepth 100000 in
theorem k13r {x : kw8} {o : kjn} (h : kku x o) : SoundH Try.prog k3b.f ((k3b.args idf x).map (er TB)) ((k3b.obs idf x).map (erO TB)) (er TB (k3b.val idf o)) ((k3b.ops idf o).map (erO TB)) :=
  Con.soundH (c := k3b) (C := kd8) TBok ⟨inf_ok, (all_cons k157 all_nil), all_nil⟩ mix Try.func70 (show Try.f70.body = some kkb by kernel_rfl) (show Try.f70.ntmps = 6 by kernel_rfl) (show Try.f70.results.toList = ko2 by kernel_rfl) rfl h (k13e o)
set_option maxRecDepth 100000 in
theorem k15h {p0 : Int} {r0 : Int} (h :
((p0 = 18446744069414584321) ∧ 7 = r0)) : kku (p0, ()) (r0, ()) := WPh.of_eq (by kernel_rfl) h
theorem bd70 : Callable Try.prog 70 := ⟨by rw [Try.func70]; kernel_rfl, by rw [Try.func70]; show some _ ≠ some _; decide⟩
theorem k11r (p0 : Int) (h : p0 = 18446744069414584321) : kku (p0, ()) ((7 : Int), ()) := by
  exact k15h ⟨h, rfl⟩
noncomputable def ksd : Con TB.den := k3b.fnR (fun x => (fun (p0 : Int) => p0 = 18446744069414584321) x.1) fun x => ((fun (p0 : Int) => (7 : Int)) x.1, ())
theorem k162 : ksd.Ok Try.prog TB := Con.ok_fn k3b bd70 fun x h => k13r (k11r x.1 h)
end Go.Proofs.Ytponaobpcdkggaa
namespace Go.Proofs.Ytponaobpcdkggaa
open Go Go.Bv Go.Cv Go.Md Go.RowKit
def k5c : Con TB.den := Con.mk0 68 [.one (.d (.int .u64)), .one (.d (.int .u64)), .one (.d (.int .u64))] [] (.one (.one (.d (.int .u64)))) []
abbrev k18r := HL TB.den (hsT k5c.ins (hsOs k5c.pre))
abbrev k8z := HL TB.den (hsV k5c.res (hsOs k5c.post))
noncomputable def k9l : Cx TB := ⟨inf, [kar, kv9], [], 4, []⟩
noncomputable def kfo : Code := Try.f68.body.getD .skip
noncomputable def knz : List ResultVar := Try.f68.results.toList
noncomputable def k1e3 (o : k8z) : Exit → TSt TB.den → Prop := thenT TB (fun s => ghs TB [] s fun s => WP TB k9l 30 0 (cB (cB (cB (cB (cB kfo))))) .no s (retTQ TB k9l k5c knz o)) (retTQ TB k9l k5c knz o)
def k7u : Tm := ⟨[], [], [0, 1, 2, 7], [.one (.d (.int .u64)), .one (.d (.int .u64)), .one (.d (.int .u64)), .one (.d (.int .u64))], 0⟩
noncomputable def k151 (o : k8z) (nx1 : HL TB.den k7u.hs → Prop) : Exit → TSt TB.den → Prop := thenT TB (fun s => k7u.mat TB 0 s nx1) (blockT TB 0 (k1e3 o))
def kq9 : Tm := ⟨[], [], [0, 1, 2, 7], [.one (.d (.int .u64)), .one (.d (.int .u64)), .one (.d (.int .u64)), .one (.d (.int .u64))], 0⟩
noncomputable def k127 (o : k8z) (nx1 : HL TB.den k7u.hs → Prop) (i : HL TB.den kq9.hs) : Prop := ghs TB [] (kq9.fill TB i) fun s => WP TB k9l 30 0 (cB (cA (cB (cA (cA (cA (cB (cB (cB (cB kfo)))))))))) .no s (blockT TB 1 (k151 o nx1))
structure kjj (o : k8z) (nx1 : HL TB.den k7u.hs → Prop) (i : HL TB.den kq9.hs) : Prop where
  h : k127 o nx1 i
noncomputable def k153 (o : k8z) (nx1 : HL TB.den k7u.hs → Prop) : An TB := .nd [] .no [] (.jn kq9 (kjj o nx1) [] .no [] .no)
noncomputable def ko0 (o : k8z) (nx1 : HL TB.den k7u.hs → Prop) (i : HL TB.den k7u.hs) : Prop := WP TB k9l 30 0 (cA (cA (cA (cB (cB (cB (cB kfo))))))) (k153 o nx1) (k7u.fill TB i) (k151 o nx1)
noncomputable def k1eh (o : k8z) : An TB := .lp [] k7u (ko0 o) fun nx1 => (k153 o nx1)
noncomputable def k1em (o : k8z) : An TB := .nd [] .no [] (.nd [] .no [] (.nd [] .no [] (.nd [] (k1eh o) [] .no)))
noncomputable def k16h (o : k8z) : An TB := .nd [] .no [] (k1em o)
noncomputable def ksv (x : k18r) (o : k8z) : Prop := WPh TB k9l 30 0 kfo (k16h o) (k5c.st TB x) (retTQ TB k9l k5c knz o)
set_option maxRecDepth 100000 in
theorem k1dp (o : k8z) : OblH TB k9l 30 0 kfo (k16h o) (retTQ TB k9l k5c knz o) :=
  OblH.of_eq (X := (True ∧ ((True ∧ ((True ∧ True) ∧ True)) ∧ (True ∧ (True ∧ (((∀ nx i, (ko0 o) nx i = (ko0 o) nx i) ∧ ∀ nx1 : HL TB.den k7u.hs → Prop, ((True ∧ (True ∧ True)) ∧ ((True ∧ (True ∧ True)) ∧ (∀ i, (kjj o nx1) i = (k127 o nx1) i) ∧ (True ∧ True)))) ∧ (True ∧ True))))))) (by kernel_rfl) ⟨trivial, ⟨⟨trivial, ⟨⟨trivial, trivial⟩, trivial⟩⟩, ⟨trivial, ⟨trivial, ⟨⟨fun _ _ => rfl, fun _ => ⟨⟨trivial, ⟨trivial, trivial⟩⟩, ⟨⟨trivial, ⟨trivial, trivial⟩⟩, fun _ => propext ⟨fun h => h.1, fun h => ⟨h⟩⟩, ⟨trivial, trivial⟩⟩⟩⟩, ⟨trivial, trivial⟩⟩⟩⟩⟩⟩
set_option maxRecDepth 100000 in
theorem k1cz {x : k18r} {o : k8z} (h : ksv x o) : SoundH Try.prog k5c.f ((k5c.args idf x).map (er TB)) ((k5c.obs idf x).map (erO TB)) (er TB (k5c.val idf o)) ((k5c.ops idf o).map (erO TB)) :=
  Con.soundH (c := k5c) (C := k9l) TBok ⟨inf_ok, (all_cons kff (all_cons k14s all_nil)), all_nil⟩ mix Try.func68 (show Try.f68.body = some kfo by kernel_rfl) (show Try.f68.ntmps = 30 by kernel_rfl) (show Try.f68.results.toList = knz by kernel_rfl) rfl h (k1dp o)
set_option maxRecDepth 100000 in
theorem k1el {p0 : Int} {p1 : Int} {p2 : Int} {r0 : Int} (h :
((p0 = 18446744069414584321) ∧ ((!true) = true →
 0 = r0) ∧
((!true) = false →
(p0 ≠ 0) ∧ Md.Loop (p0, (Int.tmod p1 p0 : Int), p2, (1 : Int), ()) (ko0 (r0, ()))))) : ksv (p0, p1, p2, ()) (r0, ()) := WPh.of_eq (by kernel_rfl) h
set_option maxRecDepth 100000 in
theorem k19p {r0 : Int} {nx1 : HL TB.den k7u.hs → Prop} {s0 : Int} {s1 : Int} {s2 : Int} {s7 : Int} (h :
((s0 = 18446744069414584321 ∧ U64 s1 ∧ U64 s1) ∧ nx1 (s0, ((s1 * s1 % 18446744069414584321) : Int), (IntKind.u64.wrap (Int.tdiv s2 2) : Int), s7, ()))) : kjj (r0, ()) nx1 (s0, s1, s2, s7, ()) := ⟨mpr_of (by kernel_rfl) h⟩
def k15v (r0 : Int) (nx1 : HL TB.den k7u.hs → Prop) (k1 : Int → Int → Int → Prop) (s0 : Int) (s1 : Int) (s2 : Int) (s7 : Int) : Prop :=
(decide (0 < s2) = true →
(((Int.tmod s2 2) == 1) = true →
(s0 = 18446744069414584321 ∧ U64 s7 ∧ U64 s1) ∧ kjj (r0, ()) nx1 (s0, s1, s2, ((s7 * s1 % 18446744069414584321) : Int), ())) ∧
(((Int.tmod s2 2) == 1) = false →
 kjj (r0, ()) nx1 (s0, s1, s2, s7, ()))) ∧
(decide (0 < s2) = false →
 s7 = r0)
set_option maxRecDepth 100000 in
theorem k1dv {r0 : Int} {s0 : Int} {s1 : Int} {s2 : Int} {s7 : Int} (inv : Int → Int → Int → Prop) (μ : Int → Int → Int → Nat) (h0 : inv s1 s2 s7) (hs : ∀ (s1 : Int) (s2 : Int) (s7 : Int), inv s1 s2 s7 → k15v r0 (fun s : Int × Int × Int × Int × Unit => ((s.1 = s0) ∧ inv s.2.1 s.2.2.1 s.2.2.2.1) ∧ μ s.2.1 s.2.2.1 s.2.2.2.1 < μ s1 s2 s7) (fun s1q s2q s7q => inv s1q s2q s7q ∧ μ s1q s2q s7q < μ s1 s2 s7) s0 s1 s2 s7) : Md.Loop (s0, s1, s2, s7, ()) (ko0 (r0, ())) :=
  ⟨⟨fun s : Int × Int × Int × Int × Unit => (s.1 = s0) ∧ inv s.2.1 s.2.2.1 s.2.2.2.1, fun s : Int × Int × Int × Int × Unit => μ s.2.1 s.2.2.1 s.2.2.2.1, ⟨rfl, h0⟩, fun (s0p, s1p, s2p, s7p, ()) ⟨eq0, hi⟩ => by
    have eq0 : s0p = s0 := eq0; subst s0p; exact mpr_of (by kernel_rfl) ((congrArg (fun k => k15v r0 (fun s : Int × Int × Int × Int × Unit => ((s.1 = s0) ∧ inv s.2.1 s.2.2.1 s.2.2.2.1) ∧ μ s.2.1 s.2.2.1 s.2.2.2.1 < μ s1p s2p s7p) k s0 s1p s2p s7p) (lpk3 (rfl : s0 = s0) inv (fun s1q s2q s7q => μ s1q s2q s7q < μ s1p s2p s7p))).mpr (hs s1p s2p s7p hi))⟩⟩
theorem bd68 : Callable Try.prog 68 := ⟨by rw [Try.func68]; kernel_rfl, by rw [Try.func68]; show some _ ≠ some _; decide⟩
theorem k1c8 (p0 : Int) (p1 : Int) (p2 : Int) (h : p0 = 18446744069414584321 ∧ U64 p1 ∧ U64 p2) : ksv (p0, p1, p2, ()) (((pw p1 p2) : Int), ()) := by
  obtain ⟨rfl, h1, h2⟩ := h
  refine k1el ⟨rfl, fun h => by simp at h, fun _ => ⟨by omega, ?_⟩⟩
  rw [tmod_nn _ _ h1.1]
  refine k1dv (fun a e r => (0 ≤ a ∧ a < 18446744069414584321) ∧ U64 e ∧ (0 ≤ r ∧ r < 18446744069414584321) ∧ (r * a ^ e.toNat) % 18446744069414584321 = pw p1 p2) (fun a e r => e.toNat) ⟨by omega, h2, by omega, by rw [Int.one_mul, kxu]; rfl⟩ ?_
  rintro a e r ⟨ha, he, hr, hv⟩
  have hpow : ∀ k : Nat, a ^ (2 * k) = (a * a) ^ k := fun k => by rw [Int.pow_mul]; congr 1; rw [Int.pow_succ, Int.pow_succ, Int.pow_zero, Int.one_mul]
  have jj : ∀ nx r', (0 ≤ r' ∧ r' < 18446744069414584321) → 0 < e → (r' * (a * a) ^ (e / 2).toNat) % 18446744069414584321 = pw p1 p2 → (∀ a', (0 ≤ a' ∧ a' < 18446744069414584321) → r' * a' ^ (e / 2).toNat % 18446744069414584321 = pw p1 p2 → nx ((18446744069414584321 : Int), a', (e / 2 : Int), r', ())) → kjj ((pw p1 p2 : Int), ()) nx ((18446744069414584321 : Int), a, e, r', ()) := by
    intro nx r' hr' he' hv' hn
    refine k19p ⟨⟨rfl, by omega, by omega⟩, ?_⟩
    rw [tdiv_nn _ _ he.1, wu (e / 2) (by omega) (by omega)]
    refine hn _ ⟨Int.emod_nonneg _ (by omega), Int.emod_lt_of_pos _ (by omega)⟩ ?_
    rw [← hv', Int.mul_emod, Int.mul_emod r' ((a * a) ^ _), kxu]
  refine ⟨fun h => ?_, fun h => ?_⟩
  · have h := of_decide_eq_true h
    rw [tmod_nn _ _ he.1]
    have nxt : ∀ a' r', (0 ≤ a' ∧ a' < 18446744069414584321) → (0 ≤ r' ∧ r' < 18446744069414584321) → r' * a' ^ (e / 2).toNat % 18446744069414584321 = pw p1 p2 → ((0 ≤ a' ∧ a' < 18446744069414584321) ∧ U64 (e / 2) ∧ (0 ≤ r' ∧ r' < 18446744069414584321) ∧ r' * a' ^ (e / 2).toNat % 18446744069414584321 = pw p1 p2) ∧ (e / 2).toNat < e.toNat := fun a' r' h1 h2 h3 => ⟨⟨h1, ⟨by omega, by omega⟩, h2, h3⟩, by omega⟩
    refine ⟨fun h1 => ⟨⟨rfl, by omega, by omega⟩, ?_⟩, fun h1 => ?_⟩
    · have h1 : e % 2 = 1 := by simpa using h1
      refine jj _ _ ⟨Int.emod_nonneg _ (by omega), Int.emod_lt_of_pos _ (by omega)⟩ h ?_ fun a' ha' hv' => ⟨⟨rfl, (nxt a' _ ha' ⟨Int.emod_nonneg _ (by omega), Int.emod_lt_of_pos _ (by omega)⟩ hv').1⟩, (nxt a' _ ha' ⟨Int.emod_nonneg _ (by omega), Int.emod_lt_of_pos _ (by omega)⟩ hv').2⟩
      rw [← hv, show e.toNat = 2 * (e / 2).toNat + 1 by omega, Int.pow_succ, hpow, Int.mul_emod, Int.emod_emod_of_dvd _ (Int.dvd_refl _), ← Int.mul_emod]
      congr 1
      grind
    · have h1 : ¬ e % 2 = 1 := by simpa using h1
      refine jj _ _ hr h ?_ fun a' ha' hv' => ⟨⟨rfl, (nxt a' _ ha' hr hv').1⟩, (nxt a' _ ha' hr hv').2⟩
      rw [← hv, ← hpow, show e.toNat = 2 * (e / 2).toNat by omega]
  · have h : ¬ 0 < e := of_decide_eq_false h
    rw [show e.toNat = 0 by omega, Int.pow_zero, Int.mul_one, Int.emod_eq_of_lt hr.1 hr.2] at hv
    exact hv
noncomputable def k12i : Con TB.den := k5c.fnR (fun x => (fun (p0 : Int) (p1 : Int) (p2 : Int) => p0 = 18446744069414584321 ∧ U64 p1 ∧ U64 p2) x.1 x.2.1 x.2.2.1) fun x => ((fun (p0 : Int) (p1 : Int) (p2 : Int) => ((pw p1 p2) : Int)) x.1 x.2.1 x.2.2.1, ())
theorem k1f0 : k12i.Ok Try.prog TB := Con.ok_fn k5c bd68 fun x h => k1cz (k1c8 x.1 x.2.1 x.2.2.1 h)
end Go.Proofs.Ytponaobpcdkggaa
namespace Go.Proofs.Ytponaobpcdkggaa
open Go Go.Bv Go.Cv Go.Md Go.RowKit
def k3i : Con TB.den := Con.mk0 69 [.one (.d (.int .u64)), .one (.d (.int .i64)), .one (.d (.int .i64))] [] (.one (.one (.d (.int .u64)))) []
abbrev kwf := HL TB.den (hsT k3i.ins (hsOs k3i.pre))
abbrev kjo := HL TB.den (hsV k3i.res (hsOs k3i.post))
noncomputable def kd2 : Cx TB := ⟨inf, [kar], [], 4, []⟩
noncomputable def kke : Code := Try.f69.body.getD .skip
noncomputable def knx : List ResultVar := Try.f69.results.toList
noncomputable def kuq (o : kjo) : An TB := .no
noncomputable def kk8 (x : kwf) (o : kjo) : Prop := WPh TB kd2 35 0 kke (kuq o) (k3i.st TB x) (retTQ TB kd2 k3i knx o)
set_option maxRecDepth 100000 in
theorem k14c (o : kjo) : OblH TB kd2 35 0 kke (kuq o) (retTQ TB kd2 k3i knx o) :=
  OblH.of_eq (X := (True ∧ ((True ∧ ((True ∧ True) ∧ True)) ∧ (True ∧ True)))) (by kernel_rfl) ⟨trivial, ⟨⟨trivial, ⟨⟨trivial, trivial⟩, trivial⟩⟩, ⟨trivial, trivial⟩⟩⟩
set_option maxRecDepth 100000 in
theorem k12w {x : kwf} {o : kjo} (h : kk8 x o) : SoundH Try.prog k3i.f ((k3i.args idf x).map (er TB)) ((k3i.obs idf x).map (erO TB)) (er TB (k3i.val idf o)) ((k3i.ops idf o).map (erO TB)) :=
  Con.soundH (c := k3i) (C := kd2) TBok ⟨inf_ok, (all_cons kff all_nil), all_nil⟩ mix Try.func69 (show Try.f69.body = some kke by kernel_rfl) (show Try.f69.ntmps = 35 by kernel_rfl) (show Try.f69.results.toList = knx by kernel_rfl) rfl h (k14c o)
set_option maxRecDepth 100000 in
theorem k16k {p0 : Int} {p1 : Int} {p2 : Int} {r0 : Int} (h :
((p0 = 18446744069414584321) ∧ ((!true) = true →
 0 = r0) ∧
((!true) = false →
(decide (p1 < 0) = true →
 0 = r0) ∧
(decide (p1 < 0) = false →
(decide (7 < p1) = true →
 0 = r0) ∧
(decide (7 < p1) = false →
(decide (p2 < 0) = true →
 0 = r0) ∧
(decide (p2 < 0) = false →
(decide (2 < p2) = true →
 0 = r0) ∧
(decide (2 < p2) = false →
 let v1 : Int := IntKind.i64.wrap ((IntKind.i64.wrap (3 * p1)) + p2)
 let v2 : Int := IntKind.u64.wrap (IntKind.i64.wrap (v1 + 1))
 let v3 : Int := IntKind.u64.wrap (v2 * 11400714819323198485)
(p0 ≠ 0) ∧ Int.tmod v3 p0 = r0))))))) : kk8 (p0, p1, p2, ()) (r0, ()) := WPh.of_eq (by kernel_rfl) h
theorem bd69 : Callable Try.prog 69 := ⟨by rw [Try.func69]; kernel_rfl, by rw [Try.func69]; show some _ ≠ some _; decide⟩
theorem k11i (p0 : Int) (p1 : Int) (p2 : Int) (h : p0 = 18446744069414584321 ∧ (0 ≤ p1 ∧ p1 < 8) ∧ 0 ≤ p2 ∧ p2 < 3) : kk8 (p0, p1, p2, ()) (((rc p1 p2) : Int), ()) := by
  obtain ⟨rfl, h1, h2⟩ := h
  refine k16k ⟨rfl, fun h => by simp at h, fun _ => ⟨fun h => ?_, fun _ => ⟨fun h => ?_, fun _ => ⟨fun h => ?_, fun _ => ⟨fun h => ?_, fun _ => ?_⟩⟩⟩⟩⟩
  · simp at h; omega
  · simp at h; omega
  · simp at h; omega
  · simp at h; omega
  · simp only []
    rw [wi (3 * p1) (by omega) (by omega), wi (3 * p1 + p2) (by omega) (by omega), wi (3 * p1 + p2 + 1) (by omega) (by omega), wu (3 * p1 + p2 + 1) (by omega) (by omega), u64w]
    exact ⟨by omega, by rw [tmod_nn _ _ (by omega)]; rfl⟩
noncomputable def ktj : Con TB.den := k3i.fnR (fun x => (fun (p0 : Int) (p1 : Int) (p2 : Int) => p0 = 18446744069414584321 ∧ (0 ≤ p1 ∧ p1 < 8) ∧ 0 ≤ p2 ∧ p2 < 3) x.1 x.2.1 x.2.2.1) fun x => ((fun (p0 : Int) (p1 : Int) (p2 : Int) => ((rc p1 p2) : Int)) x.1 x.2.1 x.2.2.1, ())
theorem k15j : ktj.Ok Try.prog TB := Con.ok_fn k3i bd69 fun x h => k12w (k11i x.1 x.2.1 x.2.2.1 h)
end Go.Proofs.Ytponaobpcdkggaa
namespace Go.Proofs.Ytponaobpcdkggaa
open Go Go.Bv Go.Cv Go.Md Go.RowKit
def k5e : Con TB.den := Con.mk0 86 [.one (.d (.int .u64)), .one (.d (.sl (.int .u64)))] [] (.one (.one (.d (.int .u64)))) []
abbrev k18d := HL TB.den (hsT k5e.ins (hsOs k5e.pre))
abbrev kg4 := HL TB.den (hsV k5e.res (hsOs k5e.post))
noncomputable def kba : Cx TB := ⟨inf, [kkv], [], 4, []⟩
noncomputable def khr : Code := Try.f86.body.getD .skip
noncomputable def kng : List ResultVar := Try.f86.results.toList
noncomputable def k1er (o : kg4) : Exit → TSt TB.den → Prop := thenT TB (fun s => ghs TB [] s fun s => WP TB kba 21 0 (cB (cB (cB khr))) .no s (retTQ TB kba k5e kng o)) (retTQ TB kba k5e kng o)
def kge : Tm := ⟨[], [], [0, 1, 5, 6], [.one (.d (.int .u64)), .one (.d (.sl (.int .u64))), .one (.d (.int .u64)), .one (.d (.int .i64))], 0⟩
noncomputable def k1e0 (o : kg4) (nx1 : HL TB.den kge.hs → Prop) : Exit → TSt TB.den → Prop := thenT TB (fun s => kge.mat TB 0 s nx1) (blockT TB 0 (k1er o))
noncomputable def kny (o : kg4) (nx1 : HL TB.den kge.hs → Prop) (i : HL TB.den kge.hs) : Prop := WP TB kba 21 0 (cA (cA (cB (cA (cB (cB khr)))))) .no (kge.fill TB i) (k1e0 o nx1)
noncomputable def k1e5 (o : kg4) : An TB := .nd [] .no [] (.lp [] kge (kny o) fun nx1 => .no)
noncomputable def k14w (o : kg4) : An TB := .nd [] .no [] (.nd [] .no [] (.nd [] (k1e5 o) [] .no))
noncomputable def ks8 (x : k18d) (o : kg4) : Prop := WPh TB kba 21 0 khr (k14w o) (k5e.st TB x) (retTQ TB kba k5e kng o)
set_option maxRecDepth 100000 in
theorem k1dc (o : kg4) : OblH TB kba 21 0 khr (k14w o) (retTQ TB kba k5e kng o) :=
  OblH.of_eq (X := (True ∧ (True ∧ ((True ∧ ((∀ nx i, (kny o) nx i = (kny o) nx i) ∧ ∀ nx1 : HL TB.den kge.hs → Prop, ((True ∧ (True ∧ True)) ∧ (True ∧ True)))) ∧ (True ∧ True))))) (by kernel_rfl) ⟨trivial, ⟨trivial, ⟨⟨trivial, ⟨fun _ _ => rfl, fun _ => ⟨⟨trivial, ⟨trivial, trivial⟩⟩, ⟨trivial, trivial⟩⟩⟩⟩, ⟨trivial, trivial⟩⟩⟩⟩
set_option maxRecDepth 100000 in
theorem k1cw {x : k18d} {o : kg4} (h : ks8 x o) : SoundH Try.prog k5e.f ((k5e.args idf x).map (er TB)) ((k5e.obs idf x).map (erO TB)) (er TB (k5e.val idf o)) ((k5e.ops idf o).map (erO TB)) :=
  Con.soundH (c := k5e) (C := kba) TBok ⟨inf_ok, (all_cons ks6 all_nil), all_nil⟩ mix Try.func86 (show Try.f86.body = some khr by kernel_rfl) (show Try.f86.ntmps = 21 by kernel_rfl) (show Try.f86.results.toList = kng by kernel_rfl) rfl h (k1dc o)
set_option maxRecDepth 100000 in
theorem k1eb {p0 : Int} {p1 : List Int} {r0 : Int} (h :
(Md.Loop (p0, p1, (0 : Int), (0 : Int), ()) (kny (r0, ())))) : ks8 (p0, p1, ()) (r0, ()) := WPh.of_eq (by kernel_rfl) h
def k15l (r0 : Int) (k1 : Int → Int → Prop) (s0 : Int) (s1 : List Int) (s5 : Int) (s6 : Int) : Prop :=
(decide (s6 < (s1.length : Int)) = true →
(0 ≤ s6) ∧ s6 < (s1.length : Int) ∧ (s0 = 18446744069414584321 ∧ U64 s5 ∧ U64 (ix s1 s6)) ∧ let r1 : Int := ((s5 + (ix s1 s6)) % 18446744069414584321)
 k1 r1 (IntKind.i64.wrap (s6 + 1) : Int)) ∧
(decide (s6 < (s1.length : Int)) = false →
 s5 = r0)
set_option maxRecDepth 100000 in
theorem k1di {r0 : Int} {s0 : Int} {s1 : List Int} {s5 : Int} {s6 : Int} (inv : Int → Int → Prop) (μ : Int → Int → Nat) (h0 : inv s5 s6) (hs : ∀ (s5 : Int) (s6 : Int), inv s5 s6 → k15l r0 (fun s5q s6q => inv s5q s6q ∧ μ s5q s6q < μ s5 s6) s0 s1 s5 s6) : Md.Loop (s0, s1, s5, s6, ()) (kny (r0, ())) :=
  ⟨⟨fun s : Int × (List Int) × Int × Int × Unit => (s.1 = s0 ∧ s.2.1 = s1) ∧ inv s.2.2.1 s.2.2.2.1, fun s : Int × (List Int) × Int × Int × Unit => μ s.2.2.1 s.2.2.2.1, ⟨⟨rfl, rfl⟩, h0⟩, fun (s0p, s1p, s5p, s6p, ()) ⟨⟨eq0, eq1⟩, hi⟩ => by
    have eq0 : s0p = s0 := eq0; subst s0p; have eq1 : s1p = s1 := eq1; subst s1p; exact mpr_of (by kernel_rfl) ((congrArg (fun k => k15l r0 k s0 s1 s5p s6p) (lpk2 (⟨rfl, rfl⟩ : s0 = s0 ∧ s1 = s1) inv (fun s5q s6q => μ s5q s6q < μ s5p s6p))).mpr (hs s5p s6p hi))⟩⟩
theorem bd86 : Callable Try.prog 86 := ⟨by rw [Try.func86]; kernel_rfl, by rw [Try.func86]; show some _ ≠ some _; decide⟩
theorem k1b8 (p0 : Int) (p1 : List Int) (h : p0 = 18446744069414584321 ∧ Us p1 ∧ p1.length ≤ 9223372036854775807) : ks8 (p0, p1, ()) (((p1.foldl (fun s x => (s + x) % 18446744069414584321) 0) : Int), ()) := by
  obtain ⟨rfl, h1, h2⟩ := h
  refine k1eb (k1di (fun s i => FoldI (fun s x => (s + x) % 18446744069414584321) 0 p1 i s ∧ U64 s) (fun s i => (p1.length - i).toNat) ⟨FoldI.start, by omega⟩ ?_)
  rintro s i ⟨hi, hs⟩
  refine ⟨fun hh => ?_, fun hh => hi.done (of_decide_eq_false hh)⟩
  have hh := of_decide_eq_true hh
  have hx := h1 _ (ix_mem p1 i hi.1 hh)
  have nx := hi.next hh (by omega) rfl
  exact ⟨hi.1, hh, ⟨rfl, hs, hx⟩, ⟨nx.1, by omega⟩, nx.2⟩
noncomputable def k122 : Con TB.den := k5e.fnR (fun x => (fun (p0 : Int) (p1 : List Int) => p0 = 18446744069414584321 ∧ Us p1 ∧ p1.length ≤ 9223372036854775807) x.1 x.2.1) fun x => ((fun (p0 : Int) (p1 : List Int) => ((p1.foldl (fun s x => (s + x) % 18446744069414584321) 0) : Int)) x.1 x.2.1, ())
theorem k1e8 : k122.Ok Try.prog TB := Con.ok_fn k5e bd86 fun x h => k1cw (k1b8 x.1 x.2.1 h)
end Go.Proofs.Ytponaobpcdkggaa
namespace Go.Proofs.Ytponaobpcdkggaa
open Go Go.Bv Go.Cv Go.Md Go.RowKit
def k5a : Con TB.den := Con.mk0 71 [.one (.d (.int .u64)), .agg [.d (.int .u64), .d (.int .u64), .d (.int .u64)]] [] (.one (.agg [.d (.int .u64), .d (.int .u64), .d (.int .u64)])) []
abbrev k190 := HL TB.den (hsT k5a.ins (hsOs k5a.pre))
abbrev kg1 := HL TB.den (hsV k5a.res (hsOs k5a.post))
noncomputable def kbc : Cx TB := ⟨inf, [k122, kkv], [], 4, []⟩
noncomputable def kio : Code := Try.f71.body.getD .skip
noncomputable def knv : List ResultVar := Try.f71.results.toList
noncomputable def k1ei (o : kg1) : Exit → TSt TB.den → Prop := thenT TB (fun s => ghs TB [] s fun s => WP TB kbc 30 0 (cB (cB (cB (cB kio)))) .no s (retTQ TB kbc k5a knv o)) (retTQ TB kbc k5a knv o)
def kg5 : Tm := ⟨[0, 1, 3], [.cells [.d (.int .u64), .d (.int .u64), .d (.int .u64)], .cells [.d (.int .u64), .d (.int .u64), .d (.int .u64)], .cells [.d (.int .u64), .d (.int .u64), .d (.int .u64)]], [0, 3, 4, 5, 6, 7], [.one (.d (.int .u64)), .one (.ptr 0 0), .one (.ptr 1 0), .one (.d (.int .u64)), .one (.ptr 2 0), .one (.d (.int .i64))], 4⟩
noncomputable def k1eq (o : kg1) (nx1 : HL TB.den kg5.hs → Prop) : Exit → TSt TB.den → Prop := thenT TB (fun s => kg5.mat TB 0 s nx1) (blockT TB 0 (k1ei o))
noncomputable def knd (o : kg1) (nx1 : HL TB.den kg5.hs → Prop) (i : HL TB.den kg5.hs) : Prop := WP TB kbc 30 0 (cA (cA (cB (cA (cB (cB (cB kio))))))) .no (kg5.fill TB i) (k1eq o nx1)
noncomputable def k1ey (o : kg1) : An TB := .nd [] .no [] (.lp [] kg5 (knd o) fun nx1 => .no)
noncomputable def k15e (o : kg1) : An TB := .nd [] .no [] (.nd [] .no [] (.nd [] .no [] (.nd [] (k1ey o) [] .no)))
noncomputable def kst (x : k190) (o : kg1) : Prop := WPh TB kbc 30 0 kio (k15e o) (k5a.st TB x) (retTQ TB kbc k5a knv o)
set_option maxRecDepth 100000 in
theorem k1d7 (o : kg1) : OblH TB kbc 30 0 kio (k15e o) (retTQ TB kbc k5a knv o) :=
  OblH.of_eq (X := (True ∧ (True ∧ (True ∧ ((True ∧ ((∀ nx i, (knd o) nx i = (knd o) nx i) ∧ ∀ nx1 : HL TB.den kg5.hs → Prop, ((True ∧ (True ∧ True)) ∧ (True ∧ True)))) ∧ (True ∧ True)))))) (by kernel_rfl) ⟨trivial, ⟨trivial, ⟨trivial, ⟨⟨trivial, ⟨fun _ _ => rfl, fun _ => ⟨⟨trivial, ⟨trivial, trivial⟩⟩, ⟨trivial, trivial⟩⟩⟩⟩, ⟨trivial, trivial⟩⟩⟩⟩⟩
set_option maxRecDepth 100000 in
theorem k1dw {x : k190} {o : kg1} (h : kst x o) : SoundH Try.prog k5a.f ((k5a.args idf x).map (er TB)) ((k5a.obs idf x).map (erO TB)) (er TB (k5a.val idf o)) ((k5a.ops idf o).map (erO TB)) :=
  Con.soundH (c := k5a) (C := kbc) TBok ⟨inf_ok, (all_cons k1e8 (all_cons ks6 all_nil)), all_nil⟩ mix Try.func71 (show Try.f71.body = some kio by kernel_rfl) (show Try.f71.ntmps = 30 by kernel_rfl) (show Try.f71.results.toList = knv by kernel_rfl) rfl h (k1d7 o)
set_option maxRecDepth 100000 in
theorem k1ee {p0 : Int} {p1 : TA3} {r0 : TA3} (h :
((p0 = 18446744069414584321 ∧ Us [p1.a0, p1.a1, p1.a2] ∧ [p1.a0, p1.a1, p1.a2].length ≤ 9223372036854775807) ∧ let r1 : Int := ([p1.a0, p1.a1, p1.a2].foldl (fun s x => (s + x) % 18446744069414584321) 0)
 Md.Loop (p0, r1, (0 : Int), p1.a0, p1.a1, p1.a2, (0 : Int), (0 : Int), (0 : Int), (0 : Int), (0 : Int), (0 : Int), ()) (knd (r0.a0, r0.a1, r0.a2, ())))) : kst (p0, p1.a0, p1.a1, p1.a2, ()) (r0.a0, r0.a1, r0.a2, ()) := WPh.of_eq (by kernel_rfl) h
def k14t (r0 : TA3) (k1 : Int → Int → Int → Int → Prop) (s0 : Int) (s5 : Int) (h0_0 : Int) (h0_1 : Int) (h0_2 : Int) (h1_0 : Int) (h1_1 : Int) (h1_2 : Int) (s7 : Int) (h3_0 : Int) (h3_1 : Int) (h3_2 : Int) : Prop :=
(decide (s7 < 3) = true →
(0 ≤ s7 ∧ s7 < (3 : Int)) ∧ (0 ≤ s7 ∧ s7 < (3 : Int)) ∧ (s0 = 18446744069414584321 ∧ U64 (ix [h0_0, h0_1, h0_2] s7) ∧ U64 s5) ∧ let r2 : Int := (((ix [h0_0, h0_1, h0_2] s7) + s5) % 18446744069414584321)
(0 ≤ s7 ∧ s7 < (3 : Int)) ∧ (0 ≤ s7 ∧ s7 < (3 : Int)) ∧ k1 (IntKind.i64.wrap (s7 + 1) : Int) ((bif decide (s7 = (0 : Int)) then r2 else h3_0) : Int) ((bif decide (s7 = (1 : Int)) then r2 else h3_1) : Int) ((bif decide (s7 = (2 : Int)) then r2 else h3_2) : Int)) ∧
(decide (s7 < 3) = false →
 h3_0 = r0.a0 ∧ h3_1 = r0.a1 ∧ h3_2 = r0.a2)
set_option maxRecDepth 100000 in
theorem k1do {r0 : TA3} {s0 : Int} {s5 : Int} {h0_0 : Int} {h0_1 : Int} {h0_2 : Int} {h1_0 : Int} {h1_1 : Int} {h1_2 : Int} {s7 : Int} {h3_0 : Int} {h3_1 : Int} {h3_2 : Int} (inv : Int → Int → Int → Int → Prop) (μ : Int → Int → Int → Int → Nat) (h0 : inv s7 h3_0 h3_1 h3_2) (hs : ∀ (s7 : Int) (h3_0 : Int) (h3_1 : Int) (h3_2 : Int), inv s7 h3_0 h3_1 h3_2 → k14t r0 (fun s7q h3_0q h3_1q h3_2q => inv s7q h3_0q h3_1q h3_2q ∧ μ s7q h3_0q h3_1q h3_2q < μ s7 h3_0 h3_1 h3_2) s0 s5 h0_0 h0_1 h0_2 h1_0 h1_1 h1_2 s7 h3_0 h3_1 h3_2) : Md.Loop (s0, s5, s7, h0_0, h0_1, h0_2, h1_0, h1_1, h1_2, h3_0, h3_1, h3_2, ()) (knd (r0.a0, r0.a1, r0.a2, ())) :=
  ⟨⟨fun s : Int × Int × Int × Int × Int × Int × Int × Int × Int × Int × Int × Int × Unit => (s.1 = s0 ∧ s.2.1 = s5 ∧ s.2.2.2.1 = h0_0 ∧ s.2.2.2.2.1 = h0_1 ∧ s.2.2.2.2.2.1 = h0_2 ∧ s.2.2.2.2.2.2.1 = h1_0 ∧ s.2.2.2.2.2.2.2.1 = h1_1 ∧ s.2.2.2.2.2.2.2.2.1 = h1_2) ∧ inv s.2.2.1 s.2.2.2.2.2.2.2.2.2.1 s.2.2.2.2.2.2.2.2.2.2.1 s.2.2.2.2.2.2.2.2.2.2.2.1, fun s : Int × Int × Int × Int × Int × Int × Int × Int × Int × Int × Int × Int × Unit => μ s.2.2.1 s.2.2.2.2.2.2.2.2.2.1 s.2.2.2.2.2.2.2.2.2.2.1 s.2.2.2.2.2.2.2.2.2.2.2.1, ⟨⟨rfl, rfl, rfl, rfl, rfl, rfl, rfl, rfl⟩, h0⟩, fun (s0p, s5p, s7p, h0_0p, h0_1p, h0_2p, h1_0p, h1_1p, h1_2p, h3_0p, h3_1p, h3_2p, ()) ⟨⟨eq0, eq1, eq2, eq3, eq4, eq5, eq6, eq7⟩, hi⟩ => by
    have eq0 : s0p = s0 := eq0; subst s0p; have eq1 : s5p = s5 := eq1; subst s5p; have eq2 : h0_0p = h0_0 := eq2; subst h0_0p; have eq3 : h0_1p = h0_1 := eq3; subst h0_1p; have eq4 : h0_2p = h0_2 := eq4; subst h0_2p; have eq5 : h1_0p = h1_0 := eq5; subst h1_0p; have eq6 : h1_1p = h1_1 := eq6; subst h1_1p; have eq7 : h1_2p = h1_2 := eq7; subst h1_2p; exact mpr_of (by kernel_rfl) ((congrArg (fun k => k14t r0 k s0 s5 h0_0 h0_1 h0_2 h1_0 h1_1 h1_2 s7p h3_0p h3_1p h3_2p) (lpk4 (⟨rfl, rfl, rfl, rfl, rfl, rfl, rfl, rfl⟩ : s0 = s0 ∧ s5 = s5 ∧ h0_0 = h0_0 ∧ h0_1 = h0_1 ∧ h0_2 = h0_2 ∧ h1_0 = h1_0 ∧ h1_1 = h1_1 ∧ h1_2 = h1_2) inv (fun s7q h3_0q h3_1q h3_2q => μ s7q h3_0q h3_1q h3_2q < μ s7p h3_0p h3_1p h3_2p))).mpr (hs s7p h3_0p h3_1p h3_2p hi))⟩⟩
theorem bd71 : Callable Try.prog 71 := ⟨by rw [Try.func71]; kernel_rfl, by rw [Try.func71]; show some _ ≠ some _; decide⟩
theorem k1cd (p0 : Int) (p1 : TA3) (h : p0 = 18446744069414584321 ∧ S3 p1) : kst (p0, p1.a0, p1.a1, p1.a2, ()) (((mixS p1).a0 : Int), ((mixS p1).a1 : Int), ((mixS p1).a2 : Int), ()) := by
  obtain ⟨rfl, h0, h1, h2⟩ := h
  have e : [p1.a0, p1.a1, p1.a2].foldl (fun s x => (s + x) % 18446744069414584321) 0 = ((p1.a0 + p1.a1) % 18446744069414584321 + p1.a2) % 18446744069414584321 := by
    show (((0 + p1.a0) % 18446744069414584321 + p1.a1) % 18446744069414584321 + p1.a2) % 18446744069414584321 = _
    omega
  refine k1ee (r0 := mixS p1) ⟨⟨rfl, ?_, by simp⟩, ?_⟩
  · intro x hx
    simp only [List.mem_cons, List.not_mem_nil, or_false] at hx
    rcases hx with rfl | rfl | rfl
    · exact h0
    · exact h1
    · exact h2
  rw [e]
  have hu : U64 (((p1.a0 + p1.a1) % 18446744069414584321 + p1.a2) % 18446744069414584321) := ⟨by omega, by omega⟩
  generalize hg : ((p1.a0 + p1.a1) % 18446744069414584321 + p1.a2) % 18446744069414584321 = t at *
  refine k1do (r0 := mixS p1) (fun i x y z => (i = 0) ∨ (i = 1 ∧ x = (p1.a0 + t) % 18446744069414584321) ∨ (i = 2 ∧ x = (p1.a0 + t) % 18446744069414584321 ∧ y = (p1.a1 + t) % 18446744069414584321) ∨ (i = 3 ∧ x = (p1.a0 + t) % 18446744069414584321 ∧ y = (p1.a1 + t) % 18446744069414584321 ∧ z = (p1.a2 + t) % 18446744069414584321)) (fun i _ _ _ => (3 - i).toNat) (.inl rfl) ?_
  intro i x y z hi
  refine ⟨fun hh => ?_, fun hh => ?_⟩
  · have hh := of_decide_eq_true hh
    rcases hi with rfl | ⟨rfl, rfl⟩ | ⟨rfl, rfl, rfl⟩ | ⟨rfl, _⟩
    · exact ⟨by omega, by omega, ⟨rfl, h0, hu⟩, by omega, by omega, .inr (.inl ⟨rfl, rfl⟩), by decide⟩
    · exact ⟨by omega, by omega, ⟨rfl, h1, hu⟩, by omega, by omega, .inr (.inr (.inl ⟨rfl, rfl, rfl⟩)), by decide⟩
    · exact ⟨by omega, by omega, ⟨rfl, h2, hu⟩, by omega, by omega, .inr (.inr (.inr ⟨rfl, rfl, rfl, rfl⟩)), by decide⟩
    · omega
  · have hh := of_decide_eq_false hh
    rcases hi with rfl | ⟨rfl, rfl⟩ | ⟨rfl, rfl, rfl⟩ | ⟨rfl, rfl, rfl, rfl⟩
    · omega
    · omega
    · omega
    · unfold mixS
      rw [hg]
      exact ⟨rfl, rfl, rfl⟩
noncomputable def k12h : Con TB.den := k5a.fnR (fun x => (fun (p0 : Int) (p1 : TA3) => p0 = 18446744069414584321 ∧ S3 p1) x.1 (TA3.mk x.2.1 x.2.2.1 x.2.2.2.1)) fun x => ((fun (p0 : Int) (p1 : TA3) => ((mixS p1).a0 : Int)) x.1 (TA3.mk x.2.1 x.2.2.1 x.2.2.2.1), (fun (p0 : Int) (p1 : TA3) => ((mixS p1).a1 : Int)) x.1 (TA3.mk x.2.1 x.2.2.1 x.2.2.2.1), (fun (p0 : Int) (p1 : TA3) => ((mixS p1).a2 : Int)) x.1 (TA3.mk x.2.1 x.2.2.1 x.2.2.2.1), ())
theorem k1ec : k12h.Ok Try.prog TB := Con.ok_fn k5a bd71 fun x h => k1dw (k1cd x.1 (TA3.mk x.2.1 x.2.2.1 x.2.2.2.1) h)
end Go.Proofs.Ytponaobpcdkggaa
namespace Go.Proofs.Ytponaobpcdkggaa
open Go Go.Bv Go.Cv Go.Md Go.RowKit
def k32 : Con TB.den := Con.mk0 51 [.one (.d (.int .u64)), .agg [.d (.int .u64), .d (.int .u64), .d (.int .u64)]] [] (.one (.agg [.d (.int .u64), .d (.int .u64), .d (.int .u64)])) []
abbrev ky5 := HL TB.den (hsT k32.ins (hsOs k32.pre))
abbrev k4d := HL TB.den (hsV k32.res (hsOs k32.post))
noncomputable def k57 : Cx TB := ⟨inf, [kar, ktj, kkv, ksd, k12i, k12h], [], 4, []⟩
noncomputable def k6x : Code := Try.f51.body.getD .skip
noncomputable def kfs : List ResultVar := Try.f51.results.toList
noncomputable def k17c (o : k4d) : Exit → TSt TB.den → Prop := thenT TB (fun s => ghs TB [] s fun s => WP TB k57 38 0 (cB (cB (cB k6x))) .no s (retTQ TB k57 k32 kfs o)) (retTQ TB k57 k32 kfs o)
def k3j : Tm := ⟨[0, 1], [.cells [.d (.int .u64), .d (.int .u64), .d (.int .u64)], .cells [.d (.int .u64), .d (.int .u64), .d (.int .u64)]], [0, 3, 4, 5], [.one (.d (.int .u64)), .one (.ptr 0 0), .one (.ptr 1 0), .one (.d (.int .i64))], 2⟩
noncomputable def kpe (o : k4d) (nx2 : HL TB.den k3j.hs → Prop) : Exit → TSt TB.den → Prop := thenT TB (fun s => k3j.mat TB 0 s nx2) (blockT TB 0 (k17c o))
noncomputable def kwo (o : k4d) (nx2 : HL TB.den k3j.hs → Prop) : Exit → TSt TB.den → Prop := thenT TB (fun s => ghs TB [] s fun s => WP TB k57 38 0 (cB (cB (cA (cA (cB (cA (cB (cB k6x)))))))) .no s (kpe o nx2)) (kpe o nx2)
noncomputable def k16t (o : k4d) (nx2 : HL TB.den k3j.hs → Prop) : Exit → TSt TB.den → Prop := thenT TB (fun s => ghs TB [] s fun s => WP TB k57 38 0 (cB (cA (cA (cB (cA (cA (cB (cA (cB (cB k6x)))))))))) .no s (blockT TB 1 (kwo o nx2))) (blockT TB 1 (kwo o nx2))
def k9f : Tm := ⟨[0, 1], [.cells [.d (.int .u64), .d (.int .u64), .d (.int .u64)], .cells [.d (.int .u64), .d (.int .u64), .d (.int .u64)]], [0, 3, 4, 5, 6], [.one (.d (.int .u64)), .one (.ptr 0 0), .one (.ptr 1 0), .one (.d (.int .i64)), .one (.d (.int .i64))], 2⟩
noncomputable def k16w (o : k4d) (nx2 : HL TB.den k3j.hs → Prop) (nx1 : HL TB.den k9f.hs → Prop) : Exit → TSt TB.den → Prop := thenT TB (fun s => k9f.mat TB 0 s nx1) (blockT TB 2 (k16t o nx2))
noncomputable def kex (o : k4d) (nx2 : HL TB.den k3j.hs → Prop) (nx1 : HL TB.den k9f.hs → Prop) (i : HL TB.den k9f.hs) : Prop := WP TB k57 38 0 (cA (cA (cB (cA (cA (cA (cB (cA (cA (cB (cA (cB (cB k6x))))))))))))) .no (k9f.fill TB i) (k16w o nx2 nx1)
noncomputable def k17s (o : k4d) (nx2 : HL TB.den k3j.hs → Prop) : An TB := .nd [] .no [] (.lp [] k9f (kex o nx2) fun nx1 => .no)
noncomputable def kut (o : k4d) (nx2 : HL TB.den k3j.hs → Prop) : An TB := .nd [] .no [] (.nd [] (.nd [] (k17s o nx2) [] .no) [] .no)
noncomputable def kfk (o : k4d) (nx2 : HL TB.den k3j.hs → Prop) (i : HL TB.den k3j.hs) : Prop := WP TB k57 38 0 (cA (cA (cB (cA (cB (cB k6x)))))) (kut o nx2) (k3j.fill TB i) (kpe o nx2)
noncomputable def k15b (o : k4d) : An TB := .lp [] k3j (kfk o) fun nx2 => (kut o nx2)
noncomputable def k15q (o : k4d) : An TB := .nd [] .no [] (.nd [] (.nd [] .no [] (k15b o)) [] .no)
noncomputable def kwp (o : k4d) : An TB := .nd [] .no [] (k15q o)
noncomputable def km7 (x : ky5) (o : k4d) : Prop := WPh TB k57 38 0 k6x (kwp o) (k32.st TB x) (retTQ TB k57 k32 kfs o)
set_option maxRecDepth 100000 in
theorem k16d (o : k4d) : OblH TB k57 38 0 k6x (kwp o) (retTQ TB k57 k32 kfs o) :=
  OblH.of_eq (X := (True ∧ ((True ∧ ((True ∧ True) ∧ True)) ∧ ((True ∧ ((∀ nx i, (kfk o) nx i = (kfk o) nx i) ∧ ∀ nx2 : HL TB.den k3j.hs → Prop, ((True ∧ (True ∧ True)) ∧ (((True ∧ ((∀ nx i, (kex o nx2) nx i = (kex o nx2) nx i) ∧ ∀ nx1 : HL TB.den k9f.hs → Prop, ((True ∧ (True ∧ True)) ∧ (True ∧ True)))) ∧ True) ∧ True)))) ∧ (True ∧ True))))) (by kernel_rfl) ⟨trivial, ⟨⟨trivial, ⟨⟨trivial, trivial⟩, trivial⟩⟩, ⟨⟨trivial, ⟨fun _ _ => rfl, fun _ => ⟨⟨trivial, ⟨trivial, trivial⟩⟩, ⟨⟨⟨trivial, ⟨fun _ _ => rfl, fun _ => ⟨⟨trivial, ⟨trivial, trivial⟩⟩, ⟨trivial, trivial⟩⟩⟩⟩, trivial⟩, trivial⟩⟩⟩⟩, ⟨trivial, trivial⟩⟩⟩⟩
set_option maxRecDepth 100000 in
theorem k14v {x : ky5} {o : k4d} (h : km7 x o) : SoundH Try.prog k32.f ((k32.args idf x).map (er TB)) ((k32.obs idf x).map (erO TB)) (er TB (k32.val idf o)) ((k32.ops idf o).map (erO TB)) :=
  Con.soundH (c := k32) (C := k57) TBok ⟨inf_ok, (all_cons kff (all_cons k15j (all_cons ks6 (all_cons k162 (all_cons k1f0 (all_cons k1ec all_nil)))))), all_nil⟩ mix Try.func51 (show Try.f51.body = some k6x by kernel_rfl) (show Try.f51.ntmps = 38 by kernel_rfl) (show Try.f51.results.toList = kfs by kernel_rfl) rfl h (k16d o)
set_option maxRecDepth 100000 in
theorem k175 {p0 : Int} {p1 : TA3} {r0 : TA3} (h :
((p0 = 18446744069414584321) ∧ ((!true) = true →
 0 = r0.a0 ∧ 0 = r0.a1 ∧ 0 = r0.a2) ∧
((!true) = false →
 Md.Loop (p0, (0 : Int), p1.a0, p1.a1, p1.a2, (0 : Int), (0 : Int), (0 : Int), ()) (kfk (r0.a0, r0.a1, r0.a2, ()))))) : km7 (p0, p1.a0, p1.a1, p1.a2, ()) (r0.a0, r0.a1, r0.a2, ()) := WPh.of_eq (by kernel_rfl) h
def kwt (r0 : TA3) (nx2 : HL TB.den k3j.hs → Prop) (k2 : Int → Int → Int → Int → Prop) (s0 : Int) (h1_0 : Int) (h1_1 : Int) (h1_2 : Int) (s5 : Int) (h0_0 : Int) (h0_1 : Int) (h0_2 : Int) : Prop :=
(decide (s5 < 8) = true →
 Md.Loop (s0, s5, (0 : Int), h0_0, h0_1, h0_2, h1_0, h1_1, h1_2, ()) (kex (r0.a0, r0.a1, r0.a2, ()) nx2)) ∧
(decide (s5 < 8) = false →
 h0_0 = r0.a0 ∧ h0_1 = r0.a1 ∧ h0_2 = r0.a2)
set_option maxRecDepth 100000 in
theorem k14u {r0 : TA3} {s0 : Int} {h1_0 : Int} {h1_1 : Int} {h1_2 : Int} {s5 : Int} {h0_0 : Int} {h0_1 : Int} {h0_2 : Int} (inv : Int → Int → Int → Int → Prop) (μ : Int → Int → Int → Int → Nat) (h0 : inv s5 h0_0 h0_1 h0_2) (hs : ∀ (s5 : Int) (h0_0 : Int) (h0_1 : Int) (h0_2 : Int), inv s5 h0_0 h0_1 h0_2 → kwt r0 (fun s : Int × Int × Int × Int × Int × Int × Int × Int × Unit => ((s.1 = s0 ∧ s.2.2.2.2.2.1 = h1_0 ∧ s.2.2.2.2.2.2.1 = h1_1 ∧ s.2.2.2.2.2.2.2.1 = h1_2) ∧ inv s.2.1 s.2.2.1 s.2.2.2.1 s.2.2.2.2.1) ∧ μ s.2.1 s.2.2.1 s.2.2.2.1 s.2.2.2.2.1 < μ s5 h0_0 h0_1 h0_2) (fun s5q h0_0q h0_1q h0_2q => inv s5q h0_0q h0_1q h0_2q ∧ μ s5q h0_0q h0_1q h0_2q < μ s5 h0_0 h0_1 h0_2) s0 h1_0 h1_1 h1_2 s5 h0_0 h0_1 h0_2) : Md.Loop (s0, s5, h0_0, h0_1, h0_2, h1_0, h1_1, h1_2, ()) (kfk (r0.a0, r0.a1, r0.a2, ())) :=
  ⟨⟨fun s : Int × Int × Int × Int × Int × Int × Int × Int × Unit => (s.1 = s0 ∧ s.2.2.2.2.2.1 = h1_0 ∧ s.2.2.2.2.2.2.1 = h1_1 ∧ s.2.2.2.2.2.2.2.1 = h1_2) ∧ inv s.2.1 s.2.2.1 s.2.2.2.1 s.2.2.2.2.1, fun s : Int × Int × Int × Int × Int × Int × Int × Int × Unit => μ s.2.1 s.2.2.1 s.2.2.2.1 s.2.2.2.2.1, ⟨⟨rfl, rfl, rfl, rfl⟩, h0⟩, fun (s0p, s5p, h0_0p, h0_1p, h0_2p, h1_0p, h1_1p, h1_2p, ()) ⟨⟨eq0, eq1, eq2, eq3⟩, hi⟩ => by
    have eq0 : s0p = s0 := eq0; subst s0p; have eq1 : h1_0p = h1_0 := eq1; subst h1_0p; have eq2 : h1_1p = h1_1 := eq2; subst h1_1p; have eq3 : h1_2p = h1_2 := eq3; subst h1_2p; exact mpr_of (by kernel_rfl) ((congrArg (fun k => kwt r0 (fun s : Int × Int × Int × Int × Int × Int × Int × Int × Unit => ((s.1 = s0 ∧ s.2.2.2.2.2.1 = h1_0 ∧ s.2.2.2.2.2.2.1 = h1_1 ∧ s.2.2.2.2.2.2.2.1 = h1_2) ∧ inv s.2.1 s.2.2.1 s.2.2.2.1 s.2.2.2.2.1) ∧ μ s.2.1 s.2.2.1 s.2.2.2.1 s.2.2.2.2.1 < μ s5p h0_0p h0_1p h0_2p) k s0 h1_0 h1_1 h1_2 s5p h0_0p h0_1p h0_2p) (lpk4 (⟨rfl, rfl, rfl, rfl⟩ : s0 = s0 ∧ h1_0 = h1_0 ∧ h1_1 = h1_1 ∧ h1_2 = h1_2) inv (fun s5q h0_0q h0_1q h0_2q => μ s5q h0_0q h0_1q h0_2q < μ s5p h0_0p h0_1p h0_2p))).mpr (hs s5p h0_0p h0_1p h0_2p hi))⟩⟩
def kw4 (r0 : TA3) (nx2 : HL TB.den k3j.hs → Prop) (k1 : Int → Int → Int → Int → Prop) (s0 : Int) (s5 : Int) (h1_0 : Int) (h1_1 : Int) (h1_2 : Int) (s6 : Int) (h0_0 : Int) (h0_1 : Int) (h0_2 : Int) : Prop :=
(decide (s6 < 3) = true →
(0 ≤ s6 ∧ s6 < (3 : Int)) ∧ (0 ≤ s6 ∧ s6 < (3 : Int)) ∧ (s0 = 18446744069414584321 ∧ (0 ≤ s5 ∧ s5 < 8) ∧ 0 ≤ s6 ∧ s6 < 3) ∧ (s0 = 18446744069414584321 ∧ U64 (ix [h0_0, h0_1, h0_2] s6) ∧ U64 (rc s5 s6)) ∧ let r1 : Int := (((ix [h0_0, h0_1, h0_2] s6) + (rc s5 s6)) % 18446744069414584321)
(s0 = 18446744069414584321) ∧ (s0 = 18446744069414584321 ∧ U64 r1 ∧ U64 (7 : Int)) ∧ (0 ≤ s6 ∧ s6 < (3 : Int)) ∧ (0 ≤ s6 ∧ s6 < (3 : Int)) ∧ k1 (IntKind.i64.wrap (s6 + 1) : Int) ((bif decide (s6 = (0 : Int)) then (pw r1 (7 : Int)) else h0_0) : Int) ((bif decide (s6 = (1 : Int)) then (pw r1 (7 : Int)) else h0_1) : Int) ((bif decide (s6 = (2 : Int)) then (pw r1 (7 : Int)) else h0_2) : Int)) ∧
(decide (s6 < 3) = false →
(s0 = 18446744069414584321 ∧ S3 (TA3.mk h0_0 h0_1 h0_2)) ∧ nx2 (s0, (IntKind.i64.wrap (s5 + 1) : Int), ((mixS (TA3.mk h0_0 h0_1 h0_2)).a0 : Int), ((mixS (TA3.mk h0_0 h0_1 h0_2)).a1 : Int), ((mixS (TA3.mk h0_0 h0_1 h0_2)).a2 : Int), h1_0, h1_1, h1_2, ()))
set_option maxRecDepth 100000 in
theorem k169 {r0 : TA3} {nx2 : HL TB.den k3j.hs → Prop} {s0 : Int} {s5 : Int} {h1_0 : Int} {h1_1 : Int} {h1_2 : Int} {s6 : Int} {h0_0 : Int} {h0_1 : Int} {h0_2 : Int} (inv : Int → Int → Int → Int → Prop) (μ : Int → Int → Int → Int → Nat) (h0 : inv s6 h0_0 h0_1 h0_2) (hs : ∀ (s6 : Int) (h0_0 : Int) (h0_1 : Int) (h0_2 : Int), inv s6 h0_0 h0_1 h0_2 → kw4 r0 nx2 (fun s6q h0_0q h0_1q h0_2q => inv s6q h0_0q h0_1q h0_2q ∧ μ s6q h0_0q h0_1q h0_2q < μ s6 h0_0 h0_1 h0_2) s0 s5 h1_0 h1_1 h1_2 s6 h0_0 h0_1 h0_2) : Md.Loop (s0, s5, s6, h0_0, h0_1, h0_2, h1_0, h1_1, h1_2, ()) (kex (r0.a0, r0.a1, r0.a2, ()) nx2) :=
  ⟨⟨fun s : Int × Int × Int × Int × Int × Int × Int × Int × Int × Unit => (s.1 = s0 ∧ s.2.1 = s5 ∧ s.2.2.2.2.2.2.1 = h1_0 ∧ s.2.2.2.2.2.2.2.1 = h1_1 ∧ s.2.2.2.2.2.2.2.2.1 = h1_2) ∧ inv s.2.2.1 s.2.2.2.1 s.2.2.2.2.1 s.2.2.2.2.2.1, fun s : Int × Int × Int × Int × Int × Int × Int × Int × Int × Unit => μ s.2.2.1 s.2.2.2.1 s.2.2.2.2.1 s.2.2.2.2.2.1, ⟨⟨rfl, rfl, rfl, rfl, rfl⟩, h0⟩, fun (s0p, s5p, s6p, h0_0p, h0_1p, h0_2p, h1_0p, h1_1p, h1_2p, ()) ⟨⟨eq0, eq1, eq2, eq3, eq4⟩, hi⟩ => by
    have eq0 : s0p = s0 := eq0; subst s0p; have eq1 : s5p = s5 := eq1; subst s5p; have eq2 : h1_0p = h1_0 := eq2; subst h1_0p; have eq3 : h1_1p = h1_1 := eq3; subst h1_1p; have eq4 : h1_2p = h1_2 := eq4; subst h1_2p; exact mpr_of (by kernel_rfl) ((congrArg (fun k => kw4 r0 nx2 k s0 s5 h1_0 h1_1 h1_2 s6p h0_0p h0_1p h0_2p) (lpk4 (⟨rfl, rfl, rfl, rfl, rfl⟩ : s0 = s0 ∧ s5 = s5 ∧ h1_0 = h1_0 ∧ h1_1 = h1_1 ∧ h1_2 = h1_2) inv (fun s6q h0_0q h0_1q h0_2q => μ s6q h0_0q h0_1q h0_2q < μ s6p h0_0p h0_1p h0_2p))).mpr (hs s6p h0_0p h0_1p h0_2p hi))⟩⟩
theorem bd51 : Callable Try.prog 51 := ⟨by rw [Try.func51]; kernel_rfl, by rw [Try.func51]; show some _ ≠ some _; decide⟩
theorem k12z (p0 : Int) (p1 : TA3) (h : p0 = 18446744069414584321 ∧ S3 p1) : km7 (p0, p1.a0, p1.a1, p1.a2, ()) (((permS p1).a0 : Int), ((permS p1).a1 : Int), ((permS p1).a2 : Int), ()) := by
  obtain ⟨hP, hs⟩ := h
  subst hP
  refine k175 ⟨rfl, fun h => by simp at h, fun _ => ?_⟩
  refine k14u (r0 := permS p1) (fun n a b c => 0 ≤ n ∧ n ≤ 8 ∧ (⟨a, b, c⟩ : TA3) = rnds n.toNat p1 ∧ S3 ⟨a, b, c⟩) (fun n _ _ _ => (8 - n).toNat) ⟨by omega, by omega, rfl, hs⟩ ?_
  rintro n a b c ⟨g0, g1, g2, g3⟩
  refine ⟨fun h => ?_, fun h => ?_⟩
  · have h := of_decide_eq_true h
    refine k169 (r0 := permS p1) (fun i x y z => (i = 0 ∧ x = a ∧ y = b ∧ z = c) ∨ (i = 1 ∧ x = pw ((a + rc n 0) % 18446744069414584321) 7 ∧ y = b ∧ z = c) ∨ (i = 2 ∧ x = pw ((a + rc n 0) % 18446744069414584321) 7 ∧ y = pw ((b + rc n 1) % 18446744069414584321) 7 ∧ z = c) ∨ (i = 3 ∧ x = pw ((a + rc n 0) % 18446744069414584321) 7 ∧ y = pw ((b + rc n 1) % 18446744069414584321) 7 ∧ z = pw ((c + rc n 2) % 18446744069414584321) 7)) (fun i _ _ _ => (3 - i).toNat) (.inl ⟨rfl, rfl, rfl, rfl⟩) ?_
    intro i x y z hi
    have hrc : ∀ k, U64 (rc n k) := fun k => by unfold rc; omega
    have hpw : ∀ k e, 0 ≤ pw k e ∧ pw k e < 18446744069414584321 := fun k e => ⟨Int.emod_nonneg _ (by omega), Int.emod_lt_of_pos _ (by omega)⟩
    obtain ⟨h3a, h3b, h3c⟩ := g3
    have u7 : U64 7 := by decide
    have hm : ∀ q : Int, U64 (q % 18446744069414584321) := fun q => ⟨Int.emod_nonneg _ (by omega), Int.lt_trans (Int.emod_lt_of_pos _ (by omega)) (by omega)⟩
    refine ⟨fun hh => ?_, fun hh => ?_⟩
    · have hh := of_decide_eq_true hh
      rcases hi with ⟨rfl, rfl, rfl, rfl⟩ | ⟨rfl, rfl, rfl, rfl⟩ | ⟨rfl, rfl, rfl, rfl⟩ | ⟨rfl, _⟩
      · exact ⟨by omega, by omega, ⟨rfl, by omega, by omega⟩, ⟨rfl, h3a, hrc _⟩, rfl, ⟨rfl, hm _, u7⟩, by omega, by omega, .inr (.inl ⟨rfl, rfl, rfl, rfl⟩), by decide⟩
      · exact ⟨by omega, by omega, ⟨rfl, by omega, by omega⟩, ⟨rfl, h3b, hrc _⟩, rfl, ⟨rfl, hm _, u7⟩, by omega, by omega, .inr (.inr (.inl ⟨rfl, rfl, rfl, rfl⟩)), by decide⟩
      · exact ⟨by omega, by omega, ⟨rfl, by omega, by omega⟩, ⟨rfl, h3c, hrc _⟩, rfl, ⟨rfl, hm _, u7⟩, by omega, by omega, .inr (.inr (.inr ⟨rfl, rfl, rfl, rfl⟩)), by decide⟩
      · omega
    · have hh := of_decide_eq_false hh
      rcases hi with ⟨rfl, _⟩ | ⟨rfl, _⟩ | ⟨rfl, _⟩ | ⟨rfl, rfl, rfl, rfl⟩
      · omega
      · omega
      · omega
      · have e : rnds (n + 1).toNat p1 = rnd ⟨a, b, c⟩ n := by
          rw [show (n + 1).toNat = n.toNat + 1 by omega]
          show rnd (rnds n.toNat p1) (n.toNat : Int) = _
          rw [← g2, show (n.toNat : Int) = n by omega]
        have hS : S3 (rnds (n + 1).toNat p1) := by
          rw [e]
          unfold rnd mixS S3
          dsimp only
          omega
        have hinc : IntKind.i64.wrap (n + 1) = n + 1 := wi _ (by omega) (by omega)
        rw [hinc]
        refine ⟨⟨rfl, by unfold S3; have := hpw ((a + rc n 0) % 18446744069414584321) 7; have := hpw ((b + rc n 1) % 18446744069414584321) 7; have := hpw ((c + rc n 2) % 18446744069414584321) 7; dsimp only; omega⟩, ⟨⟨rfl, rfl, rfl, rfl⟩, (?_ : 0 ≤ n + 1 ∧ n + 1 ≤ 8 ∧ _ ∧ _)⟩, (?_ : (8 - (n + 1)).toNat < (8 - n).toNat)⟩
        · refine ⟨by omega, by omega, e.symm, ?_⟩
          rw [e] at hS
          exact hS
        · omega
  · have h := of_decide_eq_false h
    rw [show n = 8 by omega] at g2
    have g2 : (⟨a, b, c⟩ : TA3) = permS p1 := g2
    rw [← g2]
    exact ⟨rfl, rfl, rfl⟩
noncomputable def kuu : Con TB.den := k32.fnR (fun x => (fun (p0 : Int) (p1 : TA3) => p0 = 18446744069414584321 ∧ S3 p1) x.1 (TA3.mk x.2.1 x.2.2.1 x.2.2.2.1)) fun x => ((fun (p0 : Int) (p1 : TA3) => ((permS p1).a0 : Int)) x.1 (TA3.mk x.2.1 x.2.2.1 x.2.2.2.1), (fun (p0 : Int) (p1 : TA3) => ((permS p1).a1 : Int)) x.1 (TA3.mk x.2.1 x.2.2.1 x.2.2.2.1), (fun (p0 : Int) (p1 : TA3) => ((permS p1).a2 : Int)) x.1 (TA3.mk x.2.1 x.2.2.1 x.2.2.2.1), ())
theorem k17e : kuu.Ok Try.prog TB := Con.ok_fn k32 bd51 fun x h => k14v (k12z x.1 (TA3.mk x.2.1 x.2.2.1 x.2.2.2.1) h)
end Go.Proofs.Ytponaobpcdkggaa
namespace Go.Proofs.Ytponaobpcdkggaa
open Go Go.Bv Go.Cv Go.Md Go.RowKit
def k3k : Con TB.den := Con.mk0 39 [.one (.d (.int .u64)), .one (.d (.int .u64)), .one (.d (.sl (.int .u64)))] [] (.one (.agg [.d (.int .u64), .d (.int .u64), .d (.int .u64)])) []
abbrev kzx := HL TB.den (hsT k3k.ins (hsOs k3k.pre))
abbrev k3n := HL TB.den (hsV k3k.res (hsOs k3k.post))
noncomputable def k56 : Cx TB := ⟨inf, [kv9, kkv, kuu], [], 4, []⟩
noncomputable def k6g : Code := Try.f39.body.getD .skip
noncomputable def kgz : List ResultVar := Try.f39.results.toList
noncomputable def k19g (o : k3n) : Exit → TSt TB.den → Prop := thenT TB (fun s => ghs TB [] s fun s => WP TB k56 60 0 (cB (cB (cB k6g))) .no s (retTQ TB k56 k3k kgz o)) (retTQ TB k56 k3k kgz o)
def k2j : Tm := ⟨[0, 1], [.cells [.d (.int .u64), .d (.int .u64), .d (.int .u64)], .cells [.d (.int .u64), .d (.int .u64), .d (.int .u64)]], [0, 2, 6, 7, 8], [.one (.d (.int .u64)), .one (.d (.sl (.int .u64))), .one (.ptr 0 0), .one (.ptr 1 0), .one (.d (.int .i64))], 2⟩
noncomputable def klp (o : k3n) (nx1 : HL TB.den k2j.hs → Prop) : Exit → TSt TB.den → Prop := thenT TB (fun s => k2j.mat TB 0 s nx1) (blockT TB 0 (k19g o))
noncomputable def kyz (o : k3n) (nx1 : HL TB.den k2j.hs → Prop) : Exit → TSt TB.den → Prop := thenT TB (fun s => ghs TB [] s fun s => WP TB k56 60 0 (cB (cB (cA (cA (cB (cA (cB (cB k6g)))))))) .no s (klp o nx1)) (klp o nx1)
def kep : Tm := ⟨[0, 1], [.cells [.d (.int .u64), .d (.int .u64), .d (.int .u64)], .cells [.d (.int .u64), .d (.int .u64), .d (.int .u64)]], [0, 2, 6, 7, 8], [.one (.d (.int .u64)), .one (.d (.sl (.int .u64))), .one (.ptr 0 0), .one (.ptr 1 0), .one (.d (.int .i64))], 2⟩
noncomputable def kwx (o : k3n) (nx1 : HL TB.den k2j.hs → Prop) (i : HL TB.den kep.hs) : Prop := ghs TB [] (kep.fill TB i) fun s => WP TB k56 60 0 (cB (cB (cA (cA (cB (cA (cA (cB (cA (cB (cB k6g))))))))))) .no s (blockT TB 1 (kyz o nx1))
structure kai (o : k3n) (nx1 : HL TB.den k2j.hs → Prop) (i : HL TB.den kep.hs) : Prop where
  h : kwx o nx1 i
def kj8 : Tm := ⟨[0, 1], [.cells [.d (.int .u64), .d (.int .u64), .d (.int .u64)], .cells [.d (.int .u64), .d (.int .u64), .d (.int .u64)]], [0, 2, 6, 7, 8], [.one (.d (.int .u64)), .one (.d (.sl (.int .u64))), .one (.ptr 0 0), .one (.ptr 1 0), .one (.d (.int .i64))], 2⟩
noncomputable def kw9 (o : k3n) (nx1 : HL TB.den k2j.hs → Prop) (i : HL TB.den kj8.hs) : Prop := ghs TB [] (kj8.fill TB i) fun s => WP TB k56 60 0 (cB (cA (cA (cB (cA (cA (cB (cA (cB (cB k6g)))))))))) (.jn kep (kai o nx1) [] .no [] .no) s (blockT TB 1 (kyz o nx1))
structure kgo (o : k3n) (nx1 : HL TB.den k2j.hs → Prop) (i : HL TB.den kj8.hs) : Prop where
  h : kw9 o nx1 i
noncomputable def kz0 (o : k3n) (nx1 : HL TB.den k2j.hs → Prop) : An TB := .jn kj8 (kgo o nx1) [] .no [] (.jn kep (kai o nx1) [] .no [] .no)
def kj5 : Tm := ⟨[0, 1], [.cells [.d (.int .u64), .d (.int .u64), .d (.int .u64)], .cells [.d (.int .u64), .d (.int .u64), .d (.int .u64)]], [0, 2, 6, 7, 8], [.one (.d (.int .u64)), .one (.d (.sl (.int .u64))), .one (.ptr 0 0), .one (.ptr 1 0), .one (.d (.int .i64))], 2⟩
noncomputable def kwz (o : k3n) (nx1 : HL TB.den k2j.hs → Prop) (i : HL TB.den kj5.hs) : Prop := ghs TB [] (kj5.fill TB i) fun s => WP TB k56 60 0 (cB (cA (cA (cB (cA (cB (cB k6g))))))) (.nd [] (kz0 o nx1) [] .no) s (klp o nx1)
structure kcy (o : k3n) (nx1 : HL TB.den k2j.hs → Prop) (i : HL TB.den kj5.hs) : Prop where
  h : kwz o nx1 i
noncomputable def kyr (o : k3n) (nx1 : HL TB.den k2j.hs → Prop) : An TB := .jn kj5 (kcy o nx1) [] .no [] (.nd [] (kz0 o nx1) [] .no)
noncomputable def kgw (o : k3n) (nx1 : HL TB.den k2j.hs → Prop) (i : HL TB.den k2j.hs) : Prop := WP TB k56 60 0 (cA (cA (cB (cA (cB (cB k6g)))))) (kyr o nx1) (k2j.fill TB i) (klp o nx1)
noncomputable def k19s (o : k3n) : An TB := .lp [] k2j (kgw o) fun nx1 => (kyr o nx1)
noncomputable def k17q (o : k3n) : An TB := .nd [] .no [] (.nd [] (.nd [] .no [] (k19s o)) [] .no)
noncomputable def kyk (o : k3n) : An TB := .nd [] .no [] (k17q o)
noncomputable def knf (x : kzx) (o : k3n) : Prop := WPh TB k56 60 0 k6g (kyk o) (k3k.st TB x) (retTQ TB k56 k3k kgz o)
set_option maxRecDepth 100000 in
theorem k17v (o : k3n) : OblH TB k56 60 0 k6g (kyk o) (retTQ TB k56 k3k kgz o) :=
  OblH.of_eq (X := (True ∧ (True ∧ ((True ∧ ((∀ nx i, (kgw o) nx i = (kgw o) nx i) ∧ ∀ nx1 : HL TB.den k2j.hs → Prop, ((True ∧ (True ∧ True)) ∧ (∀ i, (kcy o nx1) i = (kwz o nx1) i) ∧ (((True ∧ (True ∧ True)) ∧ (∀ i, (kgo o nx1) i = (kw9 o nx1) i) ∧ ((True ∧ (True ∧ True)) ∧ (∀ i, (kai o nx1) i = (kwx o nx1) i) ∧ True)) ∧ True)))) ∧ (True ∧ True))))) (by kernel_rfl) ⟨trivial, ⟨trivial, ⟨⟨trivial, ⟨fun _ _ => rfl, fun _ => ⟨⟨trivial, ⟨trivial, trivial⟩⟩, fun _ => propext ⟨fun h => h.1, fun h => ⟨h⟩⟩, ⟨⟨⟨trivial, ⟨trivial, trivial⟩⟩, fun _ => propext ⟨fun h => h.1, fun h => ⟨h⟩⟩, ⟨⟨trivial, ⟨trivial, trivial⟩⟩, fun _ => propext ⟨fun h => h.1, fun h => ⟨h⟩⟩, trivial⟩⟩, trivial⟩⟩⟩⟩, ⟨trivial, trivial⟩⟩⟩⟩
set_option maxRecDepth 100000 in
theorem k17g {x : kzx} {o : k3n} (h : knf x o) : SoundH Try.prog k3k.f ((k3k.args idf x).map (er TB)) ((k3k.obs idf x).map (erO TB)) (er TB (k3k.val idf o)) ((k3k.ops idf o).map (erO TB)) :=
  Con.soundH (c := k3k) (C := k56) TBok ⟨inf_ok, (all_cons k14s (all_cons ks6 (all_cons k17e all_nil))), all_nil⟩ mix Try.func39 (show Try.f39.body = some k6g by kernel_rfl) (show Try.f39.ntmps = 60 by kernel_rfl) (show Try.f39.results.toList = kgz by kernel_rfl) rfl h (k17v o)
set_option maxRecDepth 100000 in
theorem k19z {p0 : Int} {p1 : Int} {p2 : List Int} {r0 : TA3} (h :
((p0 = 18446744069414584321 ∧ U64 p1 ∧ U64 (65536 : Int)) ∧ let r1 : Int := (p1 * (65536 : Int) % 18446744069414584321)
(p0 = 18446744069414584321 ∧ U64 r1 ∧ U64 (IntKind.u64.wrap (p2.length : Int))) ∧ let r2 : Int := ((r1 + (IntKind.u64.wrap (p2.length : Int))) % 18446744069414584321)
 Md.Loop (p0, p2, (0 : Int), (0 : Int), (0 : Int), (0 : Int), (0 : Int), (0 : Int), r2, ()) (kgw (r0.a0, r0.a1, r0.a2, ())))) : knf (p0, p1, p2, ()) (r0.a0, r0.a1, r0.a2, ()) := WPh.of_eq (by kernel_rfl) h
set_option maxRecDepth 100000 in
theorem k13c {r0 : TA3} {nx1 : HL TB.den k2j.hs → Prop} {s0 : Int} {s2 : List Int} {s8 : Int} {h0_0 : Int} {h0_1 : Int} {h0_2 : Int} {h1_0 : Int} {h1_1 : Int} {h1_2 : Int} (h :
((decide (s8 < (s2.length : Int)) = true →
(0 ≤ s8) ∧ s8 < (s2.length : Int) ∧ (s0 = 18446744069414584321 ∧ U64 h1_0 ∧ U64 (ix s2 s8)) ∧ let r3 : Int := ((h1_0 + (ix s2 s8)) % 18446744069414584321)
 kgo (r0.a0, r0.a1, r0.a2, ()) nx1 (s0, s2, s8, h0_0, h0_1, h0_2, r3, h1_1, h1_2, ())) ∧
(decide (s8 < (s2.length : Int)) = false →
 kgo (r0.a0, r0.a1, r0.a2, ()) nx1 (s0, s2, s8, h0_0, h0_1, h0_2, h1_0, h1_1, h1_2, ())))) : kcy (r0.a0, r0.a1, r0.a2, ()) nx1 (s0, s2, s8, h0_0, h0_1, h0_2, h1_0, h1_1, h1_2, ()) := ⟨mpr_of (by kernel_rfl) h⟩
set_option maxRecDepth 100000 in
theorem ksm {r0 : TA3} {nx1 : HL TB.den k2j.hs → Prop} {s0 : Int} {s2 : List Int} {s8 : Int} {h0_0 : Int} {h0_1 : Int} {h0_2 : Int} {h1_0 : Int} {h1_1 : Int} {h1_2 : Int} (h :
(let v4 : Bool := decide ((IntKind.i64.wrap (s8 + 1)) < (s2.length : Int))
(v4 = true →
(0 ≤ IntKind.i64.wrap (s8 + 1)) ∧ IntKind.i64.wrap (s8 + 1) < (s2.length : Int) ∧ (s0 = 18446744069414584321 ∧ U64 h1_1 ∧ U64 (ix s2 (IntKind.i64.wrap (s8 + 1)))) ∧ let r5 : Int := ((h1_1 + (ix s2 (IntKind.i64.wrap (s8 + 1)))) % 18446744069414584321)
 kai (r0.a0, r0.a1, r0.a2, ()) nx1 (s0, s2, s8, h0_0, h0_1, h0_2, h1_0, r5, h1_2, ())) ∧
(v4 = false →
 kai (r0.a0, r0.a1, r0.a2, ()) nx1 (s0, s2, s8, h0_0, h0_1, h0_2, h1_0, h1_1, h1_2, ())))) : kgo (r0.a0, r0.a1, r0.a2, ()) nx1 (s0, s2, s8, h0_0, h0_1, h0_2, h1_0, h1_1, h1_2, ()) := ⟨mpr_of (by kernel_rfl) h⟩
set_option maxRecDepth 100000 in
theorem k137 {r0 : TA3} {nx1 : HL TB.den k2j.hs → Prop} {s0 : Int} {s2 : List Int} {s8 : Int} {h0_0 : Int} {h0_1 : Int} {h0_2 : Int} {h1_0 : Int} {h1_1 : Int} {h1_2 : Int} (h :
((s0 = 18446744069414584321 ∧ S3 (TA3.mk h1_0 h1_1 h1_2)) ∧ nx1 (s0, s2, (IntKind.i64.wrap (s8 + 2) : Int), h0_0, h0_1, h0_2, ((permS (TA3.mk h1_0 h1_1 h1_2)).a0 : Int), ((permS (TA3.mk h1_0 h1_1 h1_2)).a1 : Int), ((permS (TA3.mk h1_0 h1_1 h1_2)).a2 : Int), ()))) : kai (r0.a0, r0.a1, r0.a2, ()) nx1 (s0, s2, s8, h0_0, h0_1, h0_2, h1_0, h1_1, h1_2, ()) := ⟨mpr_of (by kernel_rfl) h⟩
def ky3 (r0 : TA3) (nx1 : HL TB.den k2j.hs → Prop) (k1 : Int → Int → Int → Int → Prop) (s0 : Int) (s2 : List Int) (h0_0 : Int) (h0_1 : Int) (h0_2 : Int) (s8 : Int) (h1_0 : Int) (h1_1 : Int) (h1_2 : Int) : Prop :=
((s8 == 0) = true →
 kcy (r0.a0, r0.a1, r0.a2, ()) nx1 (s0, s2, s8, h0_0, h0_1, h0_2, h1_0, h1_1, h1_2, ())) ∧
((s8 == 0) = false →
(decide (s8 < (s2.length : Int)) = true →
 kcy (r0.a0, r0.a1, r0.a2, ()) nx1 (s0, s2, s8, h0_0, h0_1, h0_2, h1_0, h1_1, h1_2, ())) ∧
(decide (s8 < (s2.length : Int)) = false →
 h1_0 = r0.a0 ∧ h1_1 = r0.a1 ∧ h1_2 = r0.a2))
set_option maxRecDepth 100000 in
theorem k16l {r0 : TA3} {s0 : Int} {s2 : List Int} {h0_0 : Int} {h0_1 : Int} {h0_2 : Int} {s8 : Int} {h1_0 : Int} {h1_1 : Int} {h1_2 : Int} (inv : Int → Int → Int → Int → Prop) (μ : Int → Int → Int → Int → Nat) (h0 : inv s8 h1_0 h1_1 h1_2) (hs : ∀ (s8 : Int) (h1_0 : Int) (h1_1 : Int) (h1_2 : Int), inv s8 h1_0 h1_1 h1_2 → ky3 r0 (fun s : Int × (List Int) × Int × Int × Int × Int × Int × Int × Int × Unit => ((s.1 = s0 ∧ s.2.1 = s2 ∧ s.2.2.2.1 = h0_0 ∧ s.2.2.2.2.1 = h0_1 ∧ s.2.2.2.2.2.1 = h0_2) ∧ inv s.2.2.1 s.2.2.2.2.2.2.1 s.2.2.2.2.2.2.2.1 s.2.2.2.2.2.2.2.2.1) ∧ μ s.2.2.1 s.2.2.2.2.2.2.1 s.2.2.2.2.2.2.2.1 s.2.2.2.2.2.2.2.2.1 < μ s8 h1_0 h1_1 h1_2) (fun s8q h1_0q h1_1q h1_2q => inv s8q h1_0q h1_1q h1_2q ∧ μ s8q h1_0q h1_1q h1_2q < μ s8 h1_0 h1_1 h1_2) s0 s2 h0_0 h0_1 h0_2 s8 h1_0 h1_1 h1_2) : Md.Loop (s0, s2, s8, h0_0, h0_1, h0_2, h1_0, h1_1, h1_2, ()) (kgw (r0.a0, r0.a1, r0.a2, ())) :=
  ⟨⟨fun s : Int × (List Int) × Int × Int × Int × Int × Int × Int × Int × Unit => (s.1 = s0 ∧ s.2.1 = s2 ∧ s.2.2.2.1 = h0_0 ∧ s.2.2.2.2.1 = h0_1 ∧ s.2.2.2.2.2.1 = h0_2) ∧ inv s.2.2.1 s.2.2.2.2.2.2.1 s.2.2.2.2.2.2.2.1 s.2.2.2.2.2.2.2.2.1, fun s : Int × (List Int) × Int × Int × Int × Int × Int × Int × Int × Unit => μ s.2.2.1 s.2.2.2.2.2.2.1 s.2.2.2.2.2.2.2.1 s.2.2.2.2.2.2.2.2.1, ⟨⟨rfl, rfl, rfl, rfl, rfl⟩, h0⟩, fun (s0p, s2p, s8p, h0_0p, h0_1p, h0_2p, h1_0p, h1_1p, h1_2p, ()) ⟨⟨eq0, eq1, eq2, eq3, eq4⟩, hi⟩ => by
    have eq0 : s0p = s0 := eq0; subst s0p; have eq1 : s2p = s2 := eq1; subst s2p; have eq2 : h0_0p = h0_0 := eq2; subst h0_0p; have eq3 : h0_1p = h0_1 := eq3; subst h0_1p; have eq4 : h0_2p = h0_2 := eq4; subst h0_2p; exact mpr_of (by kernel_rfl) ((congrArg (fun k => ky3 r0 (fun s : Int × (List Int) × Int × Int × Int × Int × Int × Int × Int × Unit => ((s.1 = s0 ∧ s.2.1 = s2 ∧ s.2.2.2.1 = h0_0 ∧ s.2.2.2.2.1 = h0_1 ∧ s.2.2.2.2.2.1 = h0_2) ∧ inv s.2.2.1 s.2.2.2.2.2.2.1 s.2.2.2.2.2.2.2.1 s.2.2.2.2.2.2.2.2.1) ∧ μ s.2.2.1 s.2.2.2.2.2.2.1 s.2.2.2.2.2.2.2.1 s.2.2.2.2.2.2.2.2.1 < μ s8p h1_0p h1_1p h1_2p) k s0 s2 h0_0 h0_1 h0_2 s8p h1_0p h1_1p h1_2p) (lpk4 (⟨rfl, rfl, rfl, rfl, rfl⟩ : s0 = s0 ∧ s2 = s2 ∧ h0_0 = h0_0 ∧ h0_1 = h0_1 ∧ h0_2 = h0_2) inv (fun s8q h1_0q h1_1q h1_2q => μ s8q h1_0q h1_1q h1_2q < μ s8p h1_0p h1_1p h1_2p))).mpr (hs s8p h1_0p h1_1p h1_2p hi))⟩⟩
theorem bd39 : Callable Try.prog 39 := ⟨by rw [Try.func39]; kernel_rfl, by rw [Try.func39]; show some _ ≠ some _; decide⟩
theorem k16c (p0 : Int) (p1 : Int) (p2 : List Int) (h : p0 = 18446744069414584321 ∧ U64 p1 ∧ Us p2 ∧ p2.length ≤ 1099511627776) : knf (p0, p1, p2, ()) (((absS p1 p2).a0 : Int), ((absS p1 p2).a1 : Int), ((absS p1 p2).a2 : Int), ()) := by
  obtain ⟨hP, h1, h2, h3⟩ := h
  subst hP
  have hp := kh0
  have hi : S3 (absI p1 p2) := by unfold absI S3; dsimp only; omega
  have e : IntKind.u64.wrap (p2.length : Int) = p2.length := wu _ (by omega) (by omega)
  have em : (p1 * 65536 % 18446744069414584321 + (p2.length : Int)) % 18446744069414584321 = (absI p1 p2).a2 := rfl
  refine k19z ?_
  rw [e]
  refine ⟨⟨rfl, h1, by omega⟩, ⟨rfl, by omega, by omega⟩, ?_⟩
  rw [em]
  have j3 : ∀ nx (i x y z : Int), 0 ≤ i → i ≤ p2.length → S3 ⟨x, y, z⟩ → nx ((18446744069414584321 : Int), p2, (i + 2 : Int), (0 : Int), (0 : Int), (0 : Int), (permS ⟨x, y, z⟩).a0, (permS ⟨x, y, z⟩).a1, (permS ⟨x, y, z⟩).a2, ()) → kai ((absS p1 p2).a0, (absS p1 p2).a1, (absS p1 p2).a2, ()) nx ((18446744069414584321 : Int), p2, i, (0 : Int), (0 : Int), (0 : Int), x, y, z, ()) := by
    intro nx i x y z g0 g1 hS hn
    refine k137 (r0 := absS p1 p2) ?_
    rw [wi (i + 2) (by omega) (by omega)]
    exact ⟨⟨rfl, hS⟩, hn⟩
  refine k16l (r0 := absS p1 p2) (fun i a b c => (i = 0 ∧ a = 0 ∧ b = 0 ∧ c = (absI p1 p2).a2) ∨ (0 < i ∧ i ≤ p2.length + 2 ∧ absL (p2.drop i.toNat) ⟨a, b, c⟩ = absS p1 p2 ∧ S3 ⟨a, b, c⟩)) (fun i _ _ _ => (p2.length + 4 - i).toNat) (.inl ⟨rfl, rfl, rfl, rfl⟩) ?_
  intro i a b c hg
  have body : ∀ (i : Int) (a b c : Int), 0 ≤ i → i ≤ p2.length → (i < p2.length → absL (p2.drop i.toNat) ⟨a, b, c⟩ = absS p1 p2) → (¬ i < p2.length → permS ⟨a, b, c⟩ = absS p1 p2) → S3 ⟨a, b, c⟩ → ∀ nx, (∀ x y z, absL (p2.drop (i + 2).toNat) ⟨x, y, z⟩ = absS p1 p2 → S3 ⟨x, y, z⟩ → nx ((18446744069414584321 : Int), p2, (i + 2 : Int), (0 : Int), (0 : Int), (0 : Int), x, y, z, ())) →
      kcy ((absS p1 p2).a0, (absS p1 p2).a1, (absS p1 p2).a2, ()) nx ((18446744069414584321 : Int), p2, i, (0 : Int), (0 : Int), (0 : Int), a, b, c, ()) := by
    intro i a b c g0 g1 hne hnil hS nx hn
    obtain ⟨h3a, h3b, h3c⟩ := hS
    refine k13c (r0 := absS p1 p2) ⟨fun hh => ?_, fun hh => ?_⟩
    · have hh := of_decide_eq_true hh
      have hx := h2 _ (ix_mem p2 i g0 hh)
      have g2 := hne hh
      rw [drop_ix p2 i g0 hh] at g2
      refine ⟨g0, hh, ⟨rfl, h3a, hx⟩, ksm (r0 := absS p1 p2) ?_⟩
      rw [wi (i + 1) (by omega) (by omega)]
      refine ⟨fun h5 => ?_, fun h5 => ?_⟩
      · have h5 := of_decide_eq_true h5
        have hy := h2 _ (ix_mem p2 (i + 1) (by omega) h5)
        rw [drop_ix p2 (i + 1) (by omega) h5, show i + 1 + 1 = i + 2 by omega] at g2
        exact ⟨by omega, h5, ⟨rfl, h3b, hy⟩, j3 _ _ _ _ _ g0 g1 (S3m (by omega) (by omega) h3c) (hn _ _ _ g2 (hp _))⟩
      · have h5 := of_decide_eq_false h5
        have ed : p2.drop (i + 1).toNat = [] := List.drop_eq_nil_of_le (by omega)
        have ed2 : p2.drop (i + 2).toNat = [] := List.drop_eq_nil_of_le (by omega)
        rw [ed] at g2
        exact j3 _ _ _ _ _ g0 g1 (S3m (by omega) h3b h3c) (hn _ _ _ (by rw [ed2]; exact g2) (hp _))
    · have hh := of_decide_eq_false hh
      refine ksm (r0 := absS p1 p2) ?_
      rw [wi (i + 1) (by omega) (by omega)]
      refine ⟨fun h5 => ?_, fun h5 => ?_⟩
      · have h5 := of_decide_eq_true h5
        omega
      · have ed2 : p2.drop (i + 2).toNat = [] := List.drop_eq_nil_of_le (by omega)
        exact j3 _ _ _ _ _ g0 g1 (S3m h3a h3b h3c) (hn _ _ _ (by rw [ed2]; exact hnil hh) (hp _))
  refine ⟨fun h0 => ?_, fun h0 => ⟨fun hh => ?_, fun hh => ?_⟩⟩
  · have h0 : i = 0 := by simpa using h0
    rcases hg with ⟨_, rfl, rfl, rfl⟩ | ⟨hp0, _⟩
    · subst h0
      refine body 0 _ _ _ (by omega) (by omega) (fun hl => ?_) (fun hl => ?_) hi _ fun x y z k1 k2 => ⟨⟨⟨rfl, rfl, rfl, rfl, rfl⟩, .inr ⟨(by omega : (0 : Int) < 0 + 2), (by omega : (0 : Int) + 2 ≤ p2.length + 2), k1, k2⟩⟩, (by omega : (p2.length + 4 - ((0 : Int) + 2)).toNat < (p2.length + 4 - 0 : Int).toNat)⟩
      · have hne : p2 ≠ [] := by rintro rfl; simp at hl
        unfold absS
        rw [if_neg hne]
        rfl
      · have hnil : p2 = [] := List.eq_nil_of_length_eq_zero (by omega)
        unfold absS
        rw [if_pos hnil]
        rfl
    · omega
  · have h0 : ¬ i = 0 := by simpa using h0
    have hh := of_decide_eq_true hh
    rcases hg with ⟨h1, _⟩ | ⟨g0, g1, g2, g3⟩
    · omega
    · exact body i _ _ _ (by omega) (by omega) (fun _ => g2) (fun hl => absurd hh hl) g3 _ fun x y z k1 k2 => ⟨⟨⟨rfl, rfl, rfl, rfl, rfl⟩, .inr ⟨(by omega : 0 < i + 2), (by omega : i + 2 ≤ p2.length + 2), k1, k2⟩⟩, (by omega : (p2.length + 4 - (i + 2)).toNat < (p2.length + 4 - i).toNat)⟩
  · have h0 : ¬ i = 0 := by simpa using h0
    have hh := of_decide_eq_false hh
    rcases hg with ⟨h1, _⟩ | ⟨g0, g1, g2, g3⟩
    · omega
    · rw [List.drop_eq_nil_of_le (by omega)] at g2
      have hv : (⟨a, b, c⟩ : TA3) = absS p1 p2 := g2
      rw [← hv]
      exact ⟨rfl, rfl, rfl⟩
noncomputable def kw5 : Con TB.den := k3k.fnR (fun x => (fun (p0 : Int) (p1 : Int) (p2 : List Int) => p0 = 18446744069414584321 ∧ U64 p1 ∧ Us p2 ∧ p2.length ≤ 1099511627776) x.1 x.2.1 x.2.2.1) fun x => ((fun (p0 : Int) (p1 : Int) (p2 : List Int) => ((absS p1 p2).a0 : Int)) x.1 x.2.1 x.2.2.1, (fun (p0 : Int) (p1 : Int) (p2 : List Int) => ((absS p1 p2).a1 : Int)) x.1 x.2.1 x.2.2.1, (fun (p0 : Int) (p1 : Int) (p2 : List Int) => ((absS p1 p2).a2 : Int)) x.1 x.2.1 x.2.2.1, ())
theorem k194 : kw5.Ok Try.prog TB := Con.ok_fn k3k bd39 fun x h => k17g (k16c x.1 x.2.1 x.2.2.1 h)
end Go.Proofs.Ytponaobpcdkggaa
namespace Go.Proofs.Ytponaobpcdkggaa
open Go Go.Bv Go.Cv Go.Md Go.RowKit
def k5i : Con TB.den := Con.mk0 29 [.one (.d (.int .u64)), .one (.d (.int .u64)), .one (.d (.sl (.int .u64)))] [] (.one (.one (.d (.int .u64)))) []
abbrev k14p := HL TB.den (hsT k5i.ins (hsOs k5i.pre))
abbrev krv := HL TB.den (hsV k5i.res (hsOs k5i.post))
noncomputable def klj : Cx TB := ⟨inf, [kar, kw5], [], 4, []⟩
noncomputable def kr6 : Code := Try.f29.body.getD .skip
noncomputable def kvo : List ResultVar := Try.f29.results.toList
noncomputable def k12g (o : krv) : An TB := .no
noncomputable def kqr (x : k14p) (o : krv) : Prop := WPh TB klj 15 0 kr6 (k12g o) (k5i.st TB x) (retTQ TB klj k5i kvo o)
set_option maxRecDepth 100000 in
theorem k1bt (o : krv) : OblH TB klj 15 0 kr6 (k12g o) (retTQ TB klj k5i kvo o) :=
  OblH.of_eq (X := (True ∧ ((True ∧ ((True ∧ True) ∧ True)) ∧ (True ∧ True)))) (by kernel_rfl) ⟨trivial, ⟨⟨trivial, ⟨⟨trivial, trivial⟩, trivial⟩⟩, ⟨trivial, trivial⟩⟩⟩
set_option maxRecDepth 100000 in
theorem k1ck {x : k14p} {o : krv} (h : kqr x o) : SoundH Try.prog k5i.f ((k5i.args idf x).map (er TB)) ((k5i.obs idf x).map (erO TB)) (er TB (k5i.val idf o)) ((k5i.ops idf o).map (erO TB)) :=
  Con.soundH (c := k5i) (C := klj) TBok ⟨inf_ok, (all_cons kff (all_cons k194 all_nil)), all_nil⟩ mix Try.func29 (show Try.f29.body = some kr6 by kernel_rfl) (show Try.f29.ntmps = 15 by kernel_rfl) (show Try.f29.results.toList = kvo by kernel_rfl) rfl h (k1bt o)
set_option maxRecDepth 100000 in
theorem k1d6 {p0 : Int} {p1 : Int} {p2 : List Int} {r0 : Int} (h :
((p0 = 18446744069414584321) ∧ ((!true) = true →
 0 = r0) ∧
((!true) = false →
(p0 = 18446744069414584321 ∧ U64 p1 ∧ Us p2 ∧ p2.length ≤ 1099511627776) ∧ (absS p1 p2).a0 = r0))) : kqr (p0, p1, p2, ()) (r0, ()) := WPh.of_eq (by kernel_rfl) h
theorem bd29 : Callable Try.prog 29 := ⟨by rw [Try.func29]; kernel_rfl, by rw [Try.func29]; show some _ ≠ some _; decide⟩
theorem k1a8 (p0 : Int) (p1 : Int) (p2 : List Int) (h : p0 = 18446744069414584321 ∧ U64 p1 ∧ Us p2 ∧ p2.length ≤ 1099511627776) : kqr (p0, p1, p2, ()) (((hashS p1 p2) : Int), ()) := by
  obtain ⟨hP, h1, h2, h3⟩ := h
  subst hP
  exact k1d6 ⟨rfl, fun h => by simp at h, fun _ => ⟨⟨rfl, h1, h2, h3⟩, rfl⟩⟩
noncomputable def kzv : Con TB.den := k5i.fnR (fun x => (fun (p0 : Int) (p1 : Int) (p2 : List Int) => p0 = 18446744069414584321 ∧ U64 p1 ∧ Us p2 ∧ p2.length ≤ 1099511627776) x.1 x.2.1 x.2.2.1) fun x => ((fun (p0 : Int) (p1 : Int) (p2 : List Int) => ((hashS p1 p2) : Int)) x.1 x.2.1 x.2.2.1, ())
theorem k1de : kzv.Ok Try.prog TB := Con.ok_fn k5i bd29 fun x h => k1ck (k1a8 x.1 x.2.1 x.2.2.1 h)
end Go.Proofs.Ytponaobpcdkggaa
namespace Go.Proofs.Ytponaobpcdkggaa
open Go Go.Bv Go.Cv Go.Md Go.RowKit
def k1h : Con TB.den := Con.mk0 12 [.one (.ptr 0 0), .agg [.d (.int .u64), .d (.int .u64)], .one (.d (.int .u64))] [.cells [.d (.bool), .d (.int .u64), .d (.int .i64), .own 1, .mp 2, .mp 3, .mp 4], .tip (.st 1), .map (.str) (.int .i64), .map (.str) (.sl (.int .u64)), .map (.str) (.bool)] (.tup [.one (.d (.int .u64)), .agg [.d (.int .u64), .d (.int .u64)]]) [.cells [.d (.bool), .d (.int .u64), .d (.int .i64), .own 1, .mp 2, .mp 3, .mp 4], .tip (.st 1), .map (.str) (.int .i64), .map (.str) (.sl (.int .u64)), .map (.str) (.bool)]
abbrev kht := HL TB.den (hsT k1h.ins (hsOs k1h.pre))
abbrev k8t := HL TB.den (hsV k1h.res (hsOs k1h.post))
noncomputable def k6l : Cx TB := ⟨inf, [kkk], [], 4, []⟩
noncomputable def ka4 : Code := Try.f12.body.getD .skip
noncomputable def kbe : List ResultVar := Try.f12.results.toList
noncomputable def kh8 (o : k8t) : An TB := .no
noncomputable def ka5 (x : kht) (o : k8t) : Prop := WPh TB k6l 28 5 ka4 (kh8 o) (k1h.st TB x) (retTQ TB k6l k1h kbe o)
set_option maxRecDepth 100000 in
theorem kr5 (o : k8t) : OblH TB k6l 28 5 ka4 (kh8 o) (retTQ TB k6l k1h kbe o) :=
  OblH.of_eq (X := (True ∧ ((True ∧ ((True ∧ True) ∧ True)) ∧ (True ∧ (True ∧ True))))) (by kernel_rfl) ⟨trivial, ⟨⟨trivial, ⟨⟨trivial, trivial⟩, trivial⟩⟩, ⟨trivial, ⟨trivial, trivial⟩⟩⟩⟩
set_option maxRecDepth 100000 in
theorem kqx {x : kht} {o : k8t} (h : ka5 x o) : SoundH Try.prog k1h.f ((k1h.args idf x).map (er TB)) ((k1h.obs idf x).map (erO TB)) (er TB (k1h.val idf o)) ((k1h.ops idf o).map (erO TB)) :=
  Con.soundH (c := k1h) (C := k6l) TBok ⟨inf_ok, (all_cons ktq all_nil), all_nil⟩ mix Try.func12 (show Try.f12.body = some ka4 by kernel_rfl) (show Try.f12.ntmps = 28 by kernel_rfl) (show Try.f12.results.toList = kbe by kernel_rfl) rfl h (kr5 o)
set_option maxRecDepth 100000 in
theorem ks1 {p1 : TTranscript} {p2 : Int} {c0_0 : Bool} {c0_1 : Int} {c0_2 : Int} {w1 : List TQuestion} {w2k : List ByteArray} {w2v : List Int} {w3k : List ByteArray} {w3v : List (List Int)} {w4k : List ByteArray} {w4v : List Bool} {r0 : Int} {r1 : TTranscript} {d0_0 : Bool} {d0_1 : Int} {d0_2 : Int} {e1 : List TQuestion} {e2k : List ByteArray} {e2v : List Int} {e3k : List ByteArray} {e3v : List (List Int)} {e4k : List ByteArray} {e4v : List Bool} (h :
(((p2 == 0) = true →
(w1 = w1) ∧ 0 = r0 ∧ p1.State = r1.State ∧ p1.Count = r1.Count ∧ c0_0 = d0_0 ∧ c0_1 = d0_1 ∧ c0_2 = d0_2 ∧ w1 = e1 ∧ w2k = e2k ∧ w2v = e2v ∧ w3k = e3k ∧ w3v = e3v ∧ w4k = e4k ∧ w4v = e4v) ∧
((p2 == 0) = false →
(w1 = w1) ∧ (U64 (19 : Int) ∧ (Us [p1.State, p1.Count] ∧ [p1.State, p1.Count].length ≤ 1000000000) ∧ OOk (OS.mk c0_0 c0_1 c0_2 w1 w2k w2v w3k w3v w4k w4v)) ∧ let r2 : Int := ((hO (OS.mk c0_0 c0_1 c0_2 w1 w2k w2v w3k w3v w4k w4v) (19 : Int) [p1.State, p1.Count]).n)
 let r3 : Bool := ((hO (OS.mk c0_0 c0_1 c0_2 w1 w2k w2v w3k w3v w4k w4v) (19 : Int) [p1.State, p1.Count]).o.a)
 let r4 : Int := ((hO (OS.mk c0_0 c0_1 c0_2 w1 w2k w2v w3k w3v w4k w4v) (19 : Int) [p1.State, p1.Count]).o.b)
 let r5 : Int := ((hO (OS.mk c0_0 c0_1 c0_2 w1 w2k w2v w3k w3v w4k w4v) (19 : Int) [p1.State, p1.Count]).o.c)
 let r6 : List TQuestion := ((hO (OS.mk c0_0 c0_1 c0_2 w1 w2k w2v w3k w3v w4k w4v) (19 : Int) [p1.State, p1.Count]).o.q)
 let r7 : List ByteArray := ((hO (OS.mk c0_0 c0_1 c0_2 w1 w2k w2v w3k w3v w4k w4v) (19 : Int) [p1.State, p1.Count]).o.k)
 let r8 : List Int := ((hO (OS.mk c0_0 c0_1 c0_2 w1 w2k w2v w3k w3v w4k w4v) (19 : Int) [p1.State, p1.Count]).o.v)
 let r9 : List ByteArray := ((hO (OS.mk c0_0 c0_1 c0_2 w1 w2k w2v w3k w3v w4k w4v) (19 : Int) [p1.State, p1.Count]).o.s)
 let r10 : List (List Int) := ((hO (OS.mk c0_0 c0_1 c0_2 w1 w2k w2v w3k w3v w4k w4v) (19 : Int) [p1.State, p1.Count]).o.t)
 let r11 : List ByteArray := ((hO (OS.mk c0_0 c0_1 c0_2 w1 w2k w2v w3k w3v w4k w4v) (19 : Int) [p1.State, p1.Count]).o.x)
 let r12 : List Bool := ((hO (OS.mk c0_0 c0_1 c0_2 w1 w2k w2v w3k w3v w4k w4v) (19 : Int) [p1.State, p1.Count]).o.y)
(p2 ≠ 0) ∧ (r6 = r6) ∧ Int.tmod r2 p2 = r0 ∧ p1.State = r1.State ∧ IntKind.u64.wrap (p1.Count + 1) = r1.Count ∧ r3 = d0_0 ∧ r4 = d0_1 ∧ r5 = d0_2 ∧ r6 = e1 ∧ r7 = e2k ∧ r8 = e2v ∧ r9 = e3k ∧ r10 = e3v ∧ r11 = e4k ∧ r12 = e4v))) : ka5 (p1.State, p1.Count, p2, c0_0, c0_1, c0_2, w1, w2k, w2v, w3k, w3v, w4k, w4v, ()) (r0, r1.State, r1.Count, d0_0, d0_1, d0_2, e1, e2k, e2v, e3k, e3v, e4k, e4v, ()) := WPh.of_eq (by kernel_rfl) h
theorem bd12 : Callable Try.prog 12 := ⟨by rw [Try.func12]; kernel_rfl, by rw [Try.func12]; show some _ ≠ some _; decide⟩
theorem kql (p1 : TTranscript) (p2 : Int) (c0_0 : Bool) (c0_1 : Int) (c0_2 : Int) (w1 : List TQuestion) (w2k : List ByteArray) (w2v : List Int) (w3k : List ByteArray) (w3v : List (List Int)) (w4k : List ByteArray) (w4v : List Bool) (h : (U64 p1.State ∧ U64 p1.Count) ∧ OOk (OS.mk c0_0 c0_1 c0_2 w1 w2k w2v w3k w3v w4k w4v)) : ka5 (p1.State, p1.Count, p2, c0_0, c0_1, c0_2, w1, w2k, w2v, w3k, w3v, w4k, w4v, ()) ((((chO (OS.mk c0_0 c0_1 c0_2 w1 w2k w2v w3k w3v w4k w4v) p1 p2).n) : Int), (((chO (OS.mk c0_0 c0_1 c0_2 w1 w2k w2v w3k w3v w4k w4v) p1 p2).t).State : Int), (((chO (OS.mk c0_0 c0_1 c0_2 w1 w2k w2v w3k w3v w4k w4v) p1 p2).t).Count : Int), (((chO (OS.mk c0_0 c0_1 c0_2 w1 w2k w2v w3k w3v w4k w4v) p1 p2).o.a) : Bool), (((chO (OS.mk c0_0 c0_1 c0_2 w1 w2k w2v w3k w3v w4k w4v) p1 p2).o.b) : Int), (((chO (OS.mk c0_0 c0_1 c0_2 w1 w2k w2v w3k w3v w4k w4v) p1 p2).o.c) : Int), (((chO (OS.mk c0_0 c0_1 c0_2 w1 w2k w2v w3k w3v w4k w4v) p1 p2).o.q) : List TQuestion), (((chO (OS.mk c0_0 c0_1 c0_2 w1 w2k w2v w3k w3v w4k w4v) p1 p2).o.k) : List ByteArray), (((chO (OS.mk c0_0 c0_1 c0_2 w1 w2k w2v w3k w3v w4k w4v) p1 p2).o.v) : List Int), (((chO (OS.mk c0_0 c0_1 c0_2 w1 w2k w2v w3k w3v w4k w4v) p1 p2).o.s) : List ByteArray), (((chO (OS.mk c0_0 c0_1 c0_2 w1 w2k w2v w3k w3v w4k w4v) p1 p2).o.t) : List (List Int)), (((chO (OS.mk c0_0 c0_1 c0_2 w1 w2k w2v w3k w3v w4k w4v) p1 p2).o.x) : List ByteArray), (((chO (OS.mk c0_0 c0_1 c0_2 w1 w2k w2v w3k w3v w4k w4v) p1 p2).o.y) : List Bool), ()) := by
  obtain ⟨⟨h1, h2⟩, h3⟩ := h
  refine ks1 (r1 := (chO (OS.mk c0_0 c0_1 c0_2 w1 w2k w2v w3k w3v w4k w4v) p1 p2).t) ⟨fun e => ?_, fun e => ?_⟩
  · have e : p2 = 0 := by simpa using e
    unfold chO
    rw [if_pos e]
    exact ⟨rfl, rfl, rfl, rfl, rfl, rfl, rfl, rfl, rfl, rfl, rfl, rfl, rfl, rfl⟩
  · have e : ¬ p2 = 0 := by simpa using e
    unfold chO
    rw [if_neg e]
    refine ⟨rfl, ⟨by decide, ⟨fun x hx => ?_, by simp⟩, h3⟩, e, rfl, rfl, rfl, rfl, rfl, rfl, rfl, rfl, rfl, rfl, rfl, rfl, rfl, rfl⟩
    rcases List.mem_cons.1 hx with rfl | hx
    · exact h1
    · rw [List.mem_singleton.1 hx]; exact h2
noncomputable def kal : Con TB.den := k1h.fnR (fun x => (fun (p1 : TTranscript) (p2 : Int) (c0_0 : Bool) (c0_1 : Int) (c0_2 : Int) (w1 : List TQuestion) (w2k : List ByteArray) (w2v : List Int) (w3k : List ByteArray) (w3v : List (List Int)) (w4k : List ByteArray) (w4v : List Bool) => (U64 p1.State ∧ U64 p1.Count) ∧ OOk (OS.mk c0_0 c0_1 c0_2 w1 w2k w2v w3k w3v w4k w4v)) (TTranscript.mk x.1 x.2.1) x.2.2.1 x.2.2.2.1 x.2.2.2.2.1 x.2.2.2.2.2.1 x.2.2.2.2.2.2.1 x.2.2.2.2.2.2.2.1 x.2.2.2.2.2.2.2.2.1 x.2.2.2.2.2.2.2.2.2.1 x.2.2.2.2.2.2.2.2.2.2.1 x.2.2.2.2.2.2.2.2.2.2.2.1 x.2.2.2.2.2.2.2.2.2.2.2.2.1) fun x => ((fun (p1 : TTranscript) (p2 : Int) (c0_0 : Bool) (c0_1 : Int) (c0_2 : Int) (w1 : List TQuestion) (w2k : List ByteArray) (w2v : List Int) (w3k : List ByteArray) (w3v : List (List Int)) (w4k : List ByteArray) (w4v : List Bool) => (((chO (OS.mk c0_0 c0_1 c0_2 w1 w2k w2v w3k w3v w4k w4v) p1 p2).n) : Int)) (TTranscript.mk x.1 x.2.1) x.2.2.1 x.2.2.2.1 x.2.2.2.2.1 x.2.2.2.2.2.1 x.2.2.2.2.2.2.1 x.2.2.2.2.2.2.2.1 x.2.2.2.2.2.2.2.2.1 x.2.2.2.2.2.2.2.2.2.1 x.2.2.2.2.2.2.2.2.2.2.1 x.2.2.2.2.2.2.2.2.2.2.2.1 x.2.2.2.2.2.2.2.2.2.2.2.2.1, (fun (p1 : TTranscript) (p2 : Int) (c0_0 : Bool) (c0_1 : Int) (c0_2 : Int) (w1 : List TQuestion) (w2k : List ByteArray) (w2v : List Int) (w3k : List ByteArray) (w3v : List (List Int)) (w4k : List ByteArray) (w4v : List Bool) => (((chO (OS.mk c0_0 c0_1 c0_2 w1 w2k w2v w3k w3v w4k w4v) p1 p2).t).State : Int)) (TTranscript.mk x.1 x.2.1) x.2.2.1 x.2.2.2.1 x.2.2.2.2.1 x.2.2.2.2.2.1 x.2.2.2.2.2.2.1 x.2.2.2.2.2.2.2.1 x.2.2.2.2.2.2.2.2.1 x.2.2.2.2.2.2.2.2.2.1 x.2.2.2.2.2.2.2.2.2.2.1 x.2.2.2.2.2.2.2.2.2.2.2.1 x.2.2.2.2.2.2.2.2.2.2.2.2.1, (fun (p1 : TTranscript) (p2 : Int) (c0_0 : Bool) (c0_1 : Int) (c0_2 : Int) (w1 : List TQuestion) (w2k : List ByteArray) (w2v : List Int) (w3k : List ByteArray) (w3v : List (List Int)) (w4k : List ByteArray) (w4v : List Bool) => (((chO (OS.mk c0_0 c0_1 c0_2 w1 w2k w2v w3k w3v w4k w4v) p1 p2).t).Count : Int)) (TTranscript.mk x.1 x.2.1) x.2.2.1 x.2.2.2.1 x.2.2.2.2.1 x.2.2.2.2.2.1 x.2.2.2.2.2.2.1 x.2.2.2.2.2.2.2.1 x.2.2.2.2.2.2.2.2.1 x.2.2.2.2.2.2.2.2.2.1 x.2.2.2.2.2.2.2.2.2.2.1 x.2.2.2.2.2.2.2.2.2.2.2.1 x.2.2.2.2.2.2.2.2.2.2.2.2.1, (fun (p1 : TTranscript) (p2 : Int) (c0_0 : Bool) (c0_1 : Int) (c0_2 : Int) (w1 : List TQuestion) (w2k : List ByteArray) (w2v : List Int) (w3k : List ByteArray) (w3v : List (List Int)) (w4k : List ByteArray) (w4v : List Bool) => (((chO (OS.mk c0_0 c0_1 c0_2 w1 w2k w2v w3k w3v w4k w4v) p1 p2).o.a) : Bool)) (TTranscript.mk x.1 x.2.1) x.2.2.1 x.2.2.2.1 x.2.2.2.2.1 x.2.2.2.2.2.1 x.2.2.2.2.2.2.1 x.2.2.2.2.2.2.2.1 x.2.2.2.2.2.2.2.2.1 x.2.2.2.2.2.2.2.2.2.1 x.2.2.2.2.2.2.2.2.2.2.1 x.2.2.2.2.2.2.2.2.2.2.2.1 x.2.2.2.2.2.2.2.2.2.2.2.2.1, (fun (p1 : TTranscript) (p2 : Int) (c0_0 : Bool) (c0_1 : Int) (c0_2 : Int) (w1 : List TQuestion) (w2k : List ByteArray) (w2v : List Int) (w3k : List ByteArray) (w3v : List (List Int)) (w4k : List ByteArray) (w4v : List Bool) => (((chO (OS.mk c0_0 c0_1 c0_2 w1 w2k w2v w3k w3v w4k w4v) p1 p2).o.b) : Int)) (TTranscript.mk x.1 x.2.1) x.2.2.1 x.2.2.2.1 x.2.2.2.2.1 x.2.2.2.2.2.1 x.2.2.2.2.2.2.1 x.2.2.2.2.2.2.2.1 x.2.2.2.2.2.2.2.2.1 x.2.2.2.2.2.2.2.2.2.1 x.2.2.2.2.2.2.2.2.2.2.1 x.2.2.2.2.2.2.2.2.2.2.2.1 x.2.2.2.2.2.2.2.2.2.2.2.2.1, (fun (p1 : TTranscript) (p2 : Int) (c0_0 : Bool) (c0_1 : Int) (c0_2 : Int) (w1 : List TQuestion) (w2k : List ByteArray) (w2v : List Int) (w3k : List ByteArray) (w3v : List (List Int)) (w4k : List ByteArray) (w4v : List Bool) => (((chO (OS.mk c0_0 c0_1 c0_2 w1 w2k w2v w3k w3v w4k w4v) p1 p2).o.c) : Int)) (TTranscript.mk x.1 x.2.1) x.2.2.1 x.2.2.2.1 x.2.2.2.2.1 x.2.2.2.2.2.1 x.2.2.2.2.2.2.1 x.2.2.2.2.2.2.2.1 x.2.2.2.2.2.2.2.2.1 x.2.2.2.2.2.2.2.2.2.1 x.2.2.2.2.2.2.2.2.2.2.1 x.2.2.2.2.2.2.2.2.2.2.2.1 x.2.2.2.2.2.2.2.2.2.2.2.2.1, (fun (p1 : TTranscript) (p2 : Int) (c0_0 : Bool) (c0_1 : Int) (c0_2 : Int) (w1 : List TQuestion) (w2k : List ByteArray) (w2v : List Int) (w3k : List ByteArray) (w3v : List (List Int)) (w4k : List ByteArray) (w4v : List Bool) => (((chO (OS.mk c0_0 c0_1 c0_2 w1 w2k w2v w3k w3v w4k w4v) p1 p2).o.q) : List TQuestion)) (TTranscript.mk x.1 x.2.1) x.2.2.1 x.2.2.2.1 x.2.2.2.2.1 x.2.2.2.2.2.1 x.2.2.2.2.2.2.1 x.2.2.2.2.2.2.2.1 x.2.2.2.2.2.2.2.2.1 x.2.2.2.2.2.2.2.2.2.1 x.2.2.2.2.2.2.2.2.2.2.1 x.2.2.2.2.2.2.2.2.2.2.2.1 x.2.2.2.2.2.2.2.2.2.2.2.2.1, (fun (p1 : TTranscript) (p2 : Int) (c0_0 : Bool) (c0_1 : Int) (c0_2 : Int) (w1 : List TQuestion) (w2k : List ByteArray) (w2v : List Int) (w3k : List ByteArray) (w3v : List (List Int)) (w4k : List ByteArray) (w4v : List Bool) => (((chO (OS.mk c0_0 c0_1 c0_2 w1 w2k w2v w3k w3v w4k w4v) p1 p2).o.k) : List ByteArray)) (TTranscript.mk x.1 x.2.1) x.2.2.1 x.2.2.2.1 x.2.2.2.2.1 x.2.2.2.2.2.1 x.2.2.2.2.2.2.1 x.2.2.2.2.2.2.2.1 x.2.2.2.2.2.2.2.2.1 x.2.2.2.2.2.2.2.2.2.1 x.2.2.2.2.2.2.2.2.2.2.1 x.2.2.2.2.2.2.2.2.2.2.2.1 x.2.2.2.2.2.2.2.2.2.2.2.2.1, (fun (p1 : TTranscript) (p2 : Int) (c0_0 : Bool) (c0_1 : Int) (c0_2 : Int) (w1 : List TQuestion) (w2k : List ByteArray) (w2v : List Int) (w3k : List ByteArray) (w3v : List (List Int)) (w4k : List ByteArray) (w4v : List Bool) => (((chO (OS.mk c0_0 c0_1 c0_2 w1 w2k w2v w3k w3v w4k w4v) p1 p2).o.v) : List Int)) (TTranscript.mk x.1 x.2.1) x.2.2.1 x.2.2.2.1 x.2.2.2.2.1 x.2.2.2.2.2.1 x.2.2.2.2.2.2.1 x.2.2.2.2.2.2.2.1 x.2.2.2.2.2.2.2.2.1 x.2.2.2.2.2.2.2.2.2.1 x.2.2.2.2.2.2.2.2.2.2.1 x.2.2.2.2.2.2.2.2.2.2.2.1 x.2.2.2.2.2.2.2.2.2.2.2.2.1, (fun (p1 : TTranscript) (p2 : Int) (c0_0 : Bool) (c0_1 : Int) (c0_2 : Int) (w1 : List TQuestion) (w2k : List ByteArray) (w2v : List Int) (w3k : List ByteArray) (w3v : List (List Int)) (w4k : List ByteArray) (w4v : List Bool) => (((chO (OS.mk c0_0 c0_1 c0_2 w1 w2k w2v w3k w3v w4k w4v) p1 p2).o.s) : List ByteArray)) (TTranscript.mk x.1 x.2.1) x.2.2.1 x.2.2.2.1 x.2.2.2.2.1 x.2.2.2.2.2.1 x.2.2.2.2.2.2.1 x.2.2.2.2.2.2.2.1 x.2.2.2.2.2.2.2.2.1 x.2.2.2.2.2.2.2.2.2.1 x.2.2.2.2.2.2.2.2.2.2.1 x.2.2.2.2.2.2.2.2.2.2.2.1 x.2.2.2.2.2.2.2.2.2.2.2.2.1, (fun (p1 : TTranscript) (p2 : Int) (c0_0 : Bool) (c0_1 : Int) (c0_2 : Int) (w1 : List TQuestion) (w2k : List ByteArray) (w2v : List Int) (w3k : List ByteArray) (w3v : List (List Int)) (w4k : List ByteArray) (w4v : List Bool) => (((chO (OS.mk c0_0 c0_1 c0_2 w1 w2k w2v w3k w3v w4k w4v) p1 p2).o.t) : List (List Int))) (TTranscript.mk x.1 x.2.1) x.2.2.1 x.2.2.2.1 x.2.2.2.2.1 x.2.2.2.2.2.1 x.2.2.2.2.2.2.1 x.2.2.2.2.2.2.2.1 x.2.2.2.2.2.2.2.2.1 x.2.2.2.2.2.2.2.2.2.1 x.2.2.2.2.2.2.2.2.2.2.1 x.2.2.2.2.2.2.2.2.2.2.2.1 x.2.2.2.2.2.2.2.2.2.2.2.2.1, (fun (p1 : TTranscript) (p2 : Int) (c0_0 : Bool) (c0_1 : Int) (c0_2 : Int) (w1 : List TQuestion) (w2k : List ByteArray) (w2v : List Int) (w3k : List ByteArray) (w3v : List (List Int)) (w4k : List ByteArray) (w4v : List Bool) => (((chO (OS.mk c0_0 c0_1 c0_2 w1 w2k w2v w3k w3v w4k w4v) p1 p2).o.x) : List ByteArray)) (TTranscript.mk x.1 x.2.1) x.2.2.1 x.2.2.2.1 x.2.2.2.2.1 x.2.2.2.2.2.1 x.2.2.2.2.2.2.1 x.2.2.2.2.2.2.2.1 x.2.2.2.2.2.2.2.2.1 x.2.2.2.2.2.2.2.2.2.1 x.2.2.2.2.2.2.2.2.2.2.1 x.2.2.2.2.2.2.2.2.2.2.2.1 x.2.2.2.2.2.2.2.2.2.2.2.2.1, (fun (p1 : TTranscript) (p2 : Int) (c0_0 : Bool) (c0_1 : Int) (c0_2 : Int) (w1 : List TQuestion) (w2k : List ByteArray) (w2v : List Int) (w3k : List ByteArray) (w3v : List (List Int)) (w4k : List ByteArray) (w4v : List Bool) => (((chO (OS.mk c0_0 c0_1 c0_2 w1 w2k w2v w3k w3v w4k w4v) p1 p2).o.y) : List Bool)) (TTranscript.mk x.1 x.2.1) x.2.2.1 x.2.2.2.1 x.2.2.2.2.1 x.2.2.2.2.2.1 x.2.2.2.2.2.2.1 x.2.2.2.2.2.2.2.1 x.2.2.2.2.2.2.2.2.1 x.2.2.2.2.2.2.2.2.2.1 x.2.2.2.2.2.2.2.2.2.2.1 x.2.2.2.2.2.2.2.2.2.2.2.1 x.2.2.2.2.2.2.2.2.2.2.2.2.1, ())
theorem khd : kal.Ok Try.prog TB := Con.ok_fn k1h bd12 fun x h => kqx (kql (TTranscript.mk x.1 x.2.1) x.2.2.1 x.2.2.2.1 x.2.2.2.2.1 x.2.2.2.2.2.1 x.2.2.2.2.2.2.1 x.2.2.2.2.2.2.2.1 x.2.2.2.2.2.2.2.2.1 x.2.2.2.2.2.2.2.2.2.1 x.2.2.2.2.2.2.2.2.2.2.1 x.2.2.2.2.2.2.2.2.2.2.2.1 x.2.2.2.2.2.2.2.2.2.2.2.2.1 h)
end Go.Proofs.Ytponaobpcdkggaa
namespace Go.Proofs.Ytponaobpcdkggaa
open Go Go.Bv Go.Cv Go.Md Go.RowKit
def k26 : Con TB.den := Con.mk0 36 [.one (.view 0)] [.vec (.int .i64)] (.one (.one (.row 1))) [.vec (.int .i64), .vec (.int .i64)]
abbrev kqg := HL TB.den (hsT k26.ins (hsOs k26.pre))
abbrev k9t := HL TB.den (hsV k26.res (hsOs k26.post))
noncomputable def k9a : Cx TB := ⟨inf, [], [], 4, [5, 7]⟩
noncomputable def ked : Code := Try.f36.body.getD .skip
noncomputable def kh1 : List ResultVar := Try.f36.results.toList
noncomputable def kz7 (o : k9t) : An TB := .nd [] .no [] (.nd [] (.nd [] .no [] (.rt [.rnil 2 (.int .i64)])) [] .no)
noncomputable def kop (o : k9t) : An TB := .nd [] .no [] (.nd [] (kz7 o) [] .no)
noncomputable def keh (x : kqg) (o : k9t) : Prop := WPh TB k9a 8 1 ked (kop o) (k26.st TB x) (retTQ TB k9a k26 kh1 o)
set_option maxRecDepth 100000 in
theorem kxv (o : k9t) : OblH TB k9a 8 1 ked (kop o) (retTQ TB k9a k26 kh1 o) :=
  OblH.of_eq (X := (True ∧ ((True ∧ ((True ∧ True) ∧ True)) ∧ (True ∧ True)))) (by kernel_rfl) ⟨trivial, ⟨⟨trivial, ⟨⟨trivial, trivial⟩, trivial⟩⟩, ⟨trivial, trivial⟩⟩⟩
set_option maxRecDepth 100000 in
theorem kxy {x : kqg} {o : k9t} (h : keh x o) : SoundH Try.prog k26.f ((k26.args idf x).map (er TB)) ((k26.obs idf x).map (erO TB)) (er TB (k26.val idf o)) ((k26.ops idf o).map (erO TB)) :=
  Con.soundH (c := k26) (C := k9a) TBok ⟨inf_ok, all_nil, all_nil⟩ mix Try.func36 (show Try.f36.body = some ked by kernel_rfl) (show Try.f36.ntmps = 8 by kernel_rfl) (show Try.f36.results.toList = kh1 by kernel_rfl) rfl h (kxv o)
set_option maxRecDepth 100000 in
theorem kza {p0o : Int} {p0n : Int} {w0 : List Int} {e0 : List Int} {e1 : List Int} (h :
(∀ z4 : Bool, (z4 = true → p0n.toNat = 0) → (z4 = true →
(0 = ([] : List Int).length) ∧ w0 = e0 ∧ ([] : List Int) = e1) ∧
(z4 = false →
([] : List Int).length = ([] : List Int).length ∧ p0o.toNat + p0n.toNat ≤ w0.length ∧ (([] : List Int).length + ((w0.drop p0o.toNat).take p0n.toNat).length) * 8 ≤ 140737488355328 ∧ ([] : List Int).length + ((w0.drop p0o.toNat).take p0n.toNat).length ≤ maxLen ∧ let v5 : List Int := ([] : List Int) ++ ((w0.drop p0o.toNat).take p0n.toNat)
(v5.length = v5.length) ∧ w0 = e0 ∧ v5 = e1))) : keh (p0o, p0n, w0, ()) (e0, e1, ()) := WPh.of_eq (by kernel_rfl) h
theorem bd36 : Callable Try.prog 36 := ⟨by rw [Try.func36]; kernel_rfl, by rw [Try.func36]; show some _ ≠ some _; decide⟩
theorem kwq (p0o : Int) (p0n : Int) (w0 : List Int) (h : 0 ≤ p0o ∧ 0 ≤ p0n ∧ p0o.toNat + p0n.toNat ≤ w0.length ∧ w0.length ≤ 1000000) : keh (p0o, p0n, w0, ()) ((w0 : List Int), (((w0.drop p0o.toNat).take p0n.toNat) : List Int), ()) := by
  obtain ⟨h1, h2, h3, h4⟩ := h
  have hl : ((w0.drop p0o.toNat).take p0n.toNat).length = p0n.toNat := by rw [List.length_take, List.length_drop]; omega
  refine kza fun z hz => ⟨fun e => ?_, fun e => ?_⟩
  · have := hz e
    rw [this]
    exact ⟨rfl, rfl, by simp⟩
  · exact ⟨rfl, h3, by rw [hl]; simp; omega, by rw [hl]; simp; unfold maxLen; omega, by simp⟩
noncomputable def kne : Con TB.den := k26.fnR (fun x => (fun (p0o : Int) (p0n : Int) (w0 : List Int) => 0 ≤ p0o ∧ 0 ≤ p0n ∧ p0o.toNat + p0n.toNat ≤ w0.length ∧ w0.length ≤ 1000000) x.1 x.2.1 x.2.2.1) fun x => ((fun (p0o : Int) (p0n : Int) (w0 : List Int) => (w0 : List Int)) x.1 x.2.1 x.2.2.1, (fun (p0o : Int) (p0n : Int) (w0 : List Int) => (((w0.drop p0o.toNat).take p0n.toNat) : List Int)) x.1 x.2.1 x.2.2.1, ())
theorem kze : kne.Ok Try.prog TB := Con.ok_fn k26 bd36 fun x h => kxy (kwq x.1 x.2.1 x.2.2.1 h)
end Go.Proofs.Ytponaobpcdkggaa
namespace Go.Proofs.Ytponaobpcdkggaa
open Go Go.Bv Go.Cv Go.Md Go.RowKit
def k5h : Con TB.den := Con.mk0 47 [.one (.d (.int .u64))] [] (.one (.one (.d (.int .i64)))) []
abbrev k15p := HL TB.den (hsT k5h.ins (hsOs k5h.pre))
abbrev krq := HL TB.den (hsV k5h.res (hsOs k5h.post))
noncomputable def kl0 : Cx TB := ⟨inf, [kpz], [], 4, []⟩
noncomputable def kqu : Code := Try.f47.body.getD .skip
noncomputable def kvi : List ResultVar := Try.f47.results.toList
noncomputable def k12d (o : krq) : An TB := .no
noncomputable def kqv (x : k15p) (o : krq) : Prop := WPh TB kl0 8 0 kqu (k12d o) (k5h.st TB x) (retTQ TB kl0 k5h kvi o)
set_option maxRecDepth 100000 in
theorem k1br (o : krq) : OblH TB kl0 8 0 kqu (k12d o) (retTQ TB kl0 k5h kvi o) :=
  OblH.of_eq (X := (True ∧ (((True ∧ True) ∧ True) ∧ (True ∧ True)))) (by kernel_rfl) ⟨trivial, ⟨⟨⟨trivial, trivial⟩, trivial⟩, ⟨trivial, trivial⟩⟩⟩
set_option maxRecDepth 100000 in
theorem k1cf {x : k15p} {o : krq} (h : kqv x o) : SoundH Try.prog k5h.f ((k5h.args idf x).map (er TB)) ((k5h.obs idf x).map (erO TB)) (er TB (k5h.val idf o)) ((k5h.ops idf o).map (erO TB)) :=
  Con.soundH (c := k5h) (C := kl0) TBok ⟨inf_ok, (all_cons kyc all_nil), all_nil⟩ mix Try.func47 (show Try.f47.body = some kqu by kernel_rfl) (show Try.f47.ntmps = 8 by kernel_rfl) (show Try.f47.results.toList = kvi by kernel_rfl) rfl h (k1br o)
set_option maxRecDepth 100000 in
theorem k1d8 {p0 : Int} {r0 : Int} (h :
((U64 p0) ∧ (len64 p0) = r0)) : kqv (p0, ()) (r0, ()) := WPh.of_eq (by kernel_rfl) h
theorem bd47 : Callable Try.prog 47 := ⟨by rw [Try.func47]; kernel_rfl, by rw [Try.func47]; show some _ ≠ some _; decide⟩
theorem k1a0 (p0 : Int) (h : U64 p0) : kqv (p0, ()) (((len64 p0) : Int), ()) := by
  exact k1d8 ⟨h, rfl⟩
noncomputable def ktf : Con TB.den := k5h.fnR (fun x => (fun (p0 : Int) => U64 p0) x.1) fun x => ((fun (p0 : Int) => ((len64 p0) : Int)) x.1, ())
theorem k123 : ktf.Ok Try.prog TB := Con.ok_fn k5h bd47 fun x h => k1cf (k1a0 x.1 h)
end Go.Proofs.Ytponaobpcdkggaa
namespace Go.Proofs.Ytponaobpcdkggaa
open Go Go.Bv Go.Cv Go.Md Go.RowKit
def k2y : Con TB.den := Con.mk0 84 [.one (.d (.int .i64))] [] (.one (.one (.d (.bool)))) []
abbrev kuy := HL TB.den (hsT k2y.ins (hsOs k2y.pre))
abbrev kha := HL TB.den (hsV k2y.res (hsOs k2y.post))
noncomputable def kbx : Cx TB := ⟨inf, [], [], 4, []⟩
noncomputable def kil : Code := Try.f84.body.getD .skip
noncomputable def kmc : List ResultVar := Try.f84.results.toList
noncomputable def ksl (o : kha) : An TB := .no
noncomputable def kiw (x : kuy) (o : kha) : Prop := WPh TB kbx 6 0 kil (ksl o) (k2y.st TB x) (retTQ TB kbx k2y kmc o)
set_option maxRecDepth 100000 in
theorem k120 (o : kha) : OblH TB kbx 6 0 kil (ksl o) (retTQ TB kbx k2y kmc o) :=
  OblH.of_eq (X := (True ∧ (True ∧ True))) (by kernel_rfl) ⟨trivial, ⟨trivial, trivial⟩⟩
set_option maxRecDepth 100000 in
theorem k11y {x : kuy} {o : kha} (h : kiw x o) : SoundH Try.prog k2y.f ((k2y.args idf x).map (er TB)) ((k2y.obs idf x).map (erO TB)) (er TB (k2y.val idf o)) ((k2y.ops idf o).map (erO TB)) :=
  Con.soundH (c := k2y) (C := kbx) TBok ⟨inf_ok, all_nil, all_nil⟩ mix Try.func84 (show Try.f84.body = some kil by kernel_rfl) (show Try.f84.ntmps = 6 by kernel_rfl) (show Try.f84.results.toList = kmc by kernel_rfl) rfl h (k120 o)
set_option maxRecDepth 100000 in
theorem k13g {p0 : Int} {r0 : Bool} (h :
((p0 != p0) = r0)) : kiw (p0, ()) (r0, ()) := WPh.of_eq (by kernel_rfl) h
theorem bd84 : Callable Try.prog 84 := ⟨by rw [Try.func84]; kernel_rfl, by rw [Try.func84]; show some _ ≠ some _; decide⟩
theorem k104 (p0 : Int) : kiw (p0, ()) ((false : Bool), ()) := by
  exact k13g (by simp)
noncomputable def kr9 : Con TB.den := k2y.totR fun x => ((fun (p0 : Int) => (false : Bool)) x.1, ())
theorem k13a : kr9.Ok Try.prog TB := Con.ok_tot k2y bd84 fun x => k11y (k104 x.1)
end Go.Proofs.Ytponaobpcdkggaa
namespace Go.Proofs.Ytponaobpcdkggaa
open Go Go.Bv Go.Cv Go.Md Go.RowKit
def k3c : Con TB.den := Con.mk0 61 [.one (.d (.int .i64)), .one (.d (.int .i64))] [] (.one (.one (.d (.bool)))) []
abbrev kx4 := HL TB.den (hsT k3c.ins (hsOs k3c.pre))
abbrev kji := HL TB.den (hsV k3c.res (hsOs k3c.post))
noncomputable def kd0 : Cx TB := ⟨inf, [kr9], [], 4, []⟩
noncomputable def kk5 : Code := Try.f61.body.getD .skip
noncomputable def knk : List ResultVar := Try.f61.results.toList
noncomputable def kux (o : kji) : An TB := .no
noncomputable def kkp (x : kx4) (o : kji) : Prop := WPh TB kd0 17 0 kk5 (kux o) (k3c.st TB x) (retTQ TB kd0 k3c knk o)
set_option maxRecDepth 100000 in
theorem k14a (o : kji) : OblH TB kd0 17 0 kk5 (kux o) (retTQ TB kd0 k3c knk o) :=
  OblH.of_eq (X := (True ∧ (True ∧ True))) (by kernel_rfl) ⟨trivial, ⟨trivial, trivial⟩⟩
set_option maxRecDepth 100000 in
theorem k14i {x : kx4} {o : kji} (h : kkp x o) : SoundH Try.prog k3c.f ((k3c.args idf x).map (er TB)) ((k3c.obs idf x).map (erO TB)) (er TB (k3c.val idf o)) ((k3c.ops idf o).map (erO TB)) :=
  Con.soundH (c := k3c) (C := kd0) TBok ⟨inf_ok, (all_cons k13a all_nil), all_nil⟩ mix Try.func61 (show Try.f61.body = some kk5 by kernel_rfl) (show Try.f61.ntmps = 17 by kernel_rfl) (show Try.f61.results.toList = knk by kernel_rfl) rfl h (k14a o)
set_option maxRecDepth 100000 in
theorem k156 {p0 : Int} {p1 : Int} {r0 : Bool} (h :
((false = true →
((!false) = true →
 true = r0) ∧
((!false) = false →
 decide (p0 < p1) = r0)) ∧
(false = false →
 decide (p0 < p1) = r0))) : kkp (p0, p1, ()) (r0, ()) := WPh.of_eq (by kernel_rfl) h
theorem bd61 : Callable Try.prog 61 := ⟨by rw [Try.func61]; kernel_rfl, by rw [Try.func61]; show some _ ≠ some _; decide⟩
theorem k11s (p0 : Int) (p1 : Int) : kkp (p0, p1, ()) (((decide (p0 < p1)) : Bool), ()) := by
  exact k156 ⟨fun h => by simp at h, fun _ => rfl⟩
noncomputable def k6u : Con TB.den := k3c.totR fun x => ((fun (p0 : Int) (p1 : Int) => ((decide (p0 < p1)) : Bool)) x.1 x.2.1, ())
theorem k8l : k6u.Ok Try.prog TB := Con.ok_tot k3c bd61 fun x => k14i (k11s x.1 x.2.1)
end Go.Proofs.Ytponaobpcdkggaa
namespace Go.Proofs.Ytponaobpcdkggaa
open Go Go.Bv Go.Cv Go.Md Go.RowKit
def k1m : Con TB.den := Con.mk0 80 [.one (.d (.int .i64))] [] (.one (.one (.d (.int .u64)))) []
abbrev kjx := HL TB.den (hsT k1m.ins (hsOs k1m.pre))
abbrev k98 := HL TB.den (hsV k1m.res (hsOs k1m.post))
noncomputable def k6z : Cx TB := ⟨inf, [ktf], [], 4, []⟩
noncomputable def kan : Code := Try.f80.body.getD .skip
noncomputable def kc4 : List ResultVar := Try.f80.results.toList
noncomputable def kia (o : k98) : An TB := .no
noncomputable def kgm (x : kjx) (o : k98) : Prop := WPh TB k6z 7 0 kan (kia o) (k1m.st TB x) (retTQ TB k6z k1m kc4 o)
set_option maxRecDepth 100000 in
theorem ks3 (o : k98) : OblH TB k6z 7 0 kan (kia o) (retTQ TB k6z k1m kc4 o) :=
  OblH.of_eq (X := (True ∧ (True ∧ True))) (by kernel_rfl) ⟨trivial, ⟨trivial, trivial⟩⟩
set_option maxRecDepth 100000 in
theorem kru {x : kjx} {o : k98} (h : kgm x o) : SoundH Try.prog k1m.f ((k1m.args idf x).map (er TB)) ((k1m.obs idf x).map (erO TB)) (er TB (k1m.val idf o)) ((k1m.ops idf o).map (erO TB)) :=
  Con.soundH (c := k1m) (C := k6z) TBok ⟨inf_ok, (all_cons k123 all_nil), all_nil⟩ mix Try.func80 (show Try.f80.body = some kan by kernel_rfl) (show Try.f80.ntmps = 7 by kernel_rfl) (show Try.f80.results.toList = kc4 by kernel_rfl) rfl h (ks3 o)
theorem bd80 : Callable Try.prog 80 := ⟨by rw [Try.func80]; kernel_rfl, by rw [Try.func80]; show some _ ≠ some _; decide⟩
noncomputable def khk : Con TB.den := k1m.relR kgm
theorem ksa : khk.Ok Try.prog TB := Con.ok_rel k1m bd80 fun _ _ h => kru h
end Go.Proofs.Ytponaobpcdkggaa
namespace Go.Proofs.Ytponaobpcdkggaa
open Go Go.Bv Go.Cv Go.Md Go.RowKit
def k30 : Con TB.den := Con.mk0 81 [.one (.ptr 0 0)] [.cells [.d (.int .u64)]] (.one (.one (.d (.int .u64)))) [.cells [.d (.int .u64)]]
abbrev kv2 := HL TB.den (hsT k30.ins (hsOs k30.pre))
abbrev khj := HL TB.den (hsV k30.res (hsOs k30.post))
noncomputable def kc6 : Cx TB := ⟨inf, [], [], 4, []⟩
noncomputable def kik : Code := Try.f81.body.getD .skip
noncomputable def klw : List ResultVar := Try.f81.results.toList
noncomputable def kth (o : khj) : An TB := .no
noncomputable def kqb (x : kv2) (o : khj) : Prop := WPh TB kc6 33 1 kik (kth o) (k30.st TB x) (retTQ TB kc6 k30 klw o)
set_option maxRecDepth 100000 in
theorem k11n (o : khj) : OblH TB kc6 33 1 kik (kth o) (retTQ TB kc6 k30 klw o) :=
  OblH.of_eq (X := (True ∧ (True ∧ (True ∧ (True ∧ (True ∧ True)))))) (by kernel_rfl) ⟨trivial, ⟨trivial, ⟨trivial, ⟨trivial, ⟨trivial, trivial⟩⟩⟩⟩⟩
set_option maxRecDepth 100000 in
theorem k11q {x : kv2} {o : khj} (h : kqb x o) : SoundH Try.prog k30.f ((k30.args idf x).map (er TB)) ((k30.obs idf x).map (erO TB)) (er TB (k30.val idf o)) ((k30.ops idf o).map (erO TB)) :=
  Con.soundH (c := k30) (C := kc6) TBok ⟨inf_ok, all_nil, all_nil⟩ mix Try.func81 (show Try.f81.body = some kik by kernel_rfl) (show Try.f81.ntmps = 33 by kernel_rfl) (show Try.f81.results.toList = klw by kernel_rfl) rfl h (k11n o)
theorem bd81 : Callable Try.prog 81 := ⟨by rw [Try.func81]; kernel_rfl, by rw [Try.func81]; show some _ ≠ some _; decide⟩
noncomputable def krm : Con TB.den := k30.relR kqb
theorem k141 : krm.Ok Try.prog TB := Con.ok_rel k30 bd81 fun _ _ h => k11q h
end Go.Proofs.Ytponaobpcdkggaa
namespace Go.Proofs.Ytponaobpcdkggaa
open Go Go.Bv Go.Cv Go.Md Go.RowKit
def kq : Con TB.den := Con.mk0 57 [.one (.row 0), .one (.d (.int .i64)), .one (.d (.int .i64))] [.vec (.int .i64)] (.tup []) [.vec (.int .i64)]
abbrev kbk := HL TB.den (hsT kq.ins (hsOs kq.pre))
abbrev kz := HL TB.den (hsV kq.res (hsOs kq.post))
noncomputable def k1x : Cx TB := ⟨inf, [khk, krm], [], 4, []⟩
noncomputable def k33 : Code := Try.f57.body.getD .skip
noncomputable def k5n : List ResultVar := Try.f57.results.toList
noncomputable def kk6 (o : kz) : Exit → TSt TB.den → Prop := blockT TB 0 (retTQ TB k1x kq k5n o)
def k1d : Tm := ⟨[0, 1], [.vec (.int .i64), .cells [.d (.int .u64)]], [0, 1, 6, 7, 8, 9], [.one (.row 0), .one (.d (.int .i64)), .one (.d (.int .i64)), .one (.ptr 1 0), .one (.d (.int .u64)), .one (.d (.int .i64))], 2⟩
noncomputable def k7e (o : kz) (nx1 : HL TB.den k1d.hs → Prop) : Exit → TSt TB.den → Prop := thenT TB (fun s => k1d.mat TB 1 s nx1) (kk6 o)
noncomputable def kka (o : kz) (nx1 : HL TB.den k1d.hs → Prop) : Exit → TSt TB.den → Prop := thenT TB (fun s => ghs TB [] s fun s => WP TB k1x 65 1 (cB (cB (cA (cA (cB (cB (cB (cA (cB (cB k33)))))))))) .no s (k7e o nx1)) (k7e o nx1)
def k5k : Tm := ⟨[0, 1], [.vec (.int .i64), .cells [.d (.int .u64)]], [0, 1, 6, 7, 8, 9, 10], [.one (.row 0), .one (.d (.int .i64)), .one (.d (.int .i64)), .one (.ptr 1 0), .one (.d (.int .u64)), .one (.d (.int .i64)), .one (.d (.int .i64))], 2⟩
noncomputable def ka7 (o : kz) (nx1 : HL TB.den k1d.hs → Prop) (i : HL TB.den k5k.hs) : Prop := ghs TB [] (k5k.fill TB i) fun s => WP TB k1x 65 1 (cB (cB (cA (cA (cB (cA (cA (cB (cB (cB (cA (cB (cB k33))))))))))))) .no s (blockT TB 1 (kka o nx1))
structure kax (o : kz) (nx1 : HL TB.den k1d.hs → Prop) (i : HL TB.den k5k.hs) : Prop where
  h : ka7 o nx1 i
noncomputable def kkf (o : kz) (nx1 : HL TB.den k1d.hs → Prop) : An TB := .jn k5k (kax o nx1) [] .no [] .no
noncomputable def kaz (o : kz) (nx1 : HL TB.den k1d.hs → Prop) : An TB := .nd [] (.nd [] .no [] (kkf o nx1)) [] .no
noncomputable def k7g (o : kz) (nx1 : HL TB.den k1d.hs → Prop) (i : HL TB.den k1d.hs) : Prop := WP TB k1x 65 1 (cA (cA (cB (cB (cB (cA (cB (cB k33)))))))) (.nd [] .no [] (kaz o nx1)) (k1d.fill TB i) (k7e o nx1)
noncomputable def kkn (o : kz) : An TB := .lp [] k1d (k7g o) fun nx1 => (.nd [] .no [] (kaz o nx1))
noncomputable def kkq (o : kz) : An TB := .nd [] .no [] (.nd [] .no [] (kkn o))
noncomputable def kja (o : kz) : An TB := .nd [] (.nd [] .no [] (kkq o)) [] .no
noncomputable def kb2 (o : kz) : An TB := .nd [] .no [] (.nd [] .no [] (kja o))
noncomputable def k6v (x : kbk) (o : kz) : Prop := WPh TB k1x 65 1 k33 (kb2 o) (kq.st TB x) (retTQ TB k1x kq k5n o)
set_option maxRecDepth 100000 in
theorem kjs (o : kz) : OblH TB k1x 65 1 k33 (kb2 o) (retTQ TB k1x kq k5n o) :=
  OblH.of_eq (X := (True ∧ (True ∧ ((True ∧ (True ∧ (True ∧ ((∀ nx i, (k7g o) nx i = (k7g o) nx i) ∧ ∀ nx1 : HL TB.den k1d.hs → Prop, ((True ∧ (True ∧ True)) ∧ ((True ∧ ((True ∧ (True ∧ True)) ∧ (∀ i, (kax o nx1) i = (ka7 o nx1) i) ∧ True)) ∧ True)))))) ∧ True)))) (by kernel_rfl) ⟨trivial, ⟨trivial, ⟨⟨trivial, ⟨trivial, ⟨trivial, ⟨fun _ _ => rfl, fun _ => ⟨⟨trivial, ⟨trivial, trivial⟩⟩, ⟨⟨trivial, ⟨⟨trivial, ⟨trivial, trivial⟩⟩, fun _ => propext ⟨fun h => h.1, fun h => ⟨h⟩⟩, trivial⟩⟩, trivial⟩⟩⟩⟩⟩⟩, trivial⟩⟩⟩
set_option maxRecDepth 100000 in
theorem kjh {x : kbk} {o : kz} (h : k6v x o) : SoundH Try.prog kq.f ((kq.args idf x).map (er TB)) ((kq.obs idf x).map (erO TB)) (er TB (kq.val idf o)) ((kq.ops idf o).map (erO TB)) :=
  Con.soundH (c := kq) (C := k1x) TBok ⟨inf_ok, (all_cons ksa (all_cons k141 all_nil)), all_nil⟩ mix Try.func57 (show Try.f57.body = some k33 by kernel_rfl) (show Try.f57.ntmps = 65 by kernel_rfl) (show Try.f57.results.toList = k5n by kernel_rfl) rfl h (kjs o)
theorem bd57 : Callable Try.prog 57 := ⟨by rw [Try.func57]; kernel_rfl, by rw [Try.func57]; show some _ ≠ some _; decide⟩
noncomputable def kaf : Con TB.den := kq.relR k6v
theorem kk9 : kaf.Ok Try.prog TB := Con.ok_rel kq bd57 fun _ _ h => kjh h
end Go.Proofs.Ytponaobpcdkggaa
namespace Go.Proofs.Ytponaobpcdkggaa
open Go Go.Bv Go.Cv Go.Md Go.RowKit
def k1e : Con TB.den := Con.mk0 91 [.one (.row 0), .one (.d (.int .i64)), .one (.d (.int .i64)), .one (.ptr 1 0)] [.vec (.int .i64), .cells [.d (.int .i64)]] (.tup [.one (.d (.int .i64)), .one (.d (.int .i64))]) [.vec (.int .i64), .cells [.d (.int .i64)]]
abbrev kgv := HL TB.den (hsT k1e.ins (hsOs k1e.pre))
abbrev k7w := HL TB.den (hsV k1e.res (hsOs k1e.post))
noncomputable def k64 : Cx TB := ⟨inf, [k6u], [], 4, []⟩
noncomputable def k94 : Code := Try.f91.body.getD .skip
noncomputable def ka0 : List ResultVar := Try.f91.results.toList
noncomputable def kg0 (o : k7w) : An TB := .no
noncomputable def kdm (x : kgv) (o : k7w) : Prop := WPh TB k64 28 2 k94 (kg0 o) (k1e.st TB x) (retTQ TB k64 k1e ka0 o)
set_option maxRecDepth 100000 in
theorem kpm (o : k7w) : OblH TB k64 28 2 k94 (kg0 o) (retTQ TB k64 k1e ka0 o) :=
  OblH.of_eq (X := (True ∧ ((True ∧ ((True ∧ (True ∧ True)) ∧ True)) ∧ (True ∧ True)))) (by kernel_rfl) ⟨trivial, ⟨⟨trivial, ⟨⟨trivial, ⟨trivial, trivial⟩⟩, trivial⟩⟩, ⟨trivial, trivial⟩⟩⟩
set_option maxRecDepth 100000 in
theorem kpf {x : kgv} {o : k7w} (h : kdm x o) : SoundH Try.prog k1e.f ((k1e.args idf x).map (er TB)) ((k1e.obs idf x).map (erO TB)) (er TB (k1e.val idf o)) ((k1e.ops idf o).map (erO TB)) :=
  Con.soundH (c := k1e) (C := k64) TBok ⟨inf_ok, (all_cons k8l all_nil), all_nil⟩ mix Try.func91 (show Try.f91.body = some k94 by kernel_rfl) (show Try.f91.ntmps = 28 by kernel_rfl) (show Try.f91.results.toList = ka0 by kernel_rfl) rfl h (kpm o)
theorem bd91 : Callable Try.prog 91 := ⟨by rw [Try.func91]; kernel_rfl, by rw [Try.func91]; show some _ ≠ some _; decide⟩
noncomputable def kez : Con TB.den := k1e.relR kdm
theorem kqe : kez.Ok Try.prog TB := Con.ok_rel k1e bd91 fun _ _ h => kpf h
end Go.Proofs.Ytponaobpcdkggaa
namespace Go.Proofs.Ytponaobpcdkggaa
open Go Go.Bv Go.Cv Go.Md Go.RowKit
def k1f : Con TB.den := Con.mk0 83 [.one (.row 0), .one (.d (.int .i64)), .one (.d (.int .i64)), .one (.d (.int .i64)), .one (.ptr 1 0)] [.vec (.int .i64), .cells [.d (.int .i64)]] (.one (.one (.d (.int .i64)))) [.vec (.int .i64), .cells [.d (.int .i64)]]
abbrev kgy := HL TB.den (hsT k1f.ins (hsOs k1f.pre))
abbrev k7v := HL TB.den (hsV k1f.res (hsOs k1f.post))
noncomputable def k65 : Cx TB := ⟨inf, [kez], [], 4, []⟩
noncomputable def k93 : Code := Try.f83.body.getD .skip
noncomputable def k9u : List ResultVar := Try.f83.results.toList
noncomputable def kfy (o : k7v) : An TB := .no
noncomputable def kdr (x : kgy) (o : k7v) : Prop := WPh TB k65 36 2 k93 (kfy o) (k1f.st TB x) (retTQ TB k65 k1f k9u o)
set_option maxRecDepth 100000 in
theorem kp3 (o : k7v) : OblH TB k65 36 2 k93 (kfy o) (retTQ TB k65 k1f k9u o) :=
  OblH.of_eq (X := (True ∧ (True ∧ (True ∧ (True ∧ (True ∧ True)))))) (by kernel_rfl) ⟨trivial, ⟨trivial, ⟨trivial, ⟨trivial, ⟨trivial, trivial⟩⟩⟩⟩⟩
set_option maxRecDepth 100000 in
theorem kpv {x : kgy} {o : k7v} (h : kdr x o) : SoundH Try.prog k1f.f ((k1f.args idf x).map (er TB)) ((k1f.obs idf x).map (erO TB)) (er TB (k1f.val idf o)) ((k1f.ops idf o).map (erO TB)) :=
  Con.soundH (c := k1f) (C := k65) TBok ⟨inf_ok, (all_cons kqe all_nil), all_nil⟩ mix Try.func83 (show Try.f83.body = some k93 by kernel_rfl) (show Try.f83.ntmps = 36 by kernel_rfl) (show Try.f83.results.toList = k9u by kernel_rfl) rfl h (kp3 o)
theorem bd83 : Callable Try.prog 83 := ⟨by rw [Try.func83]; kernel_rfl, by rw [Try.func83]; show some _ ≠ some _; decide⟩
noncomputable def k9i : Con TB.den := k1f.relR kdr
theorem kfz : k9i.Ok Try.prog TB := Con.ok_rel k1f bd83 fun _ _ h => kpv h
end Go.Proofs.Ytponaobpcdkggaa
namespace Go.Proofs.Ytponaobpcdkggaa
open Go Go.Bv Go.Cv Go.Md Go.RowKit
def kw : Con TB.den := Con.mk0 82 [.one (.row 0), .one (.d (.int .i64)), .one (.ptr 1 0)] [.vec (.int .i64), .cells [.d (.int .i64)]] (.one (.one (.d (.int .i64)))) [.vec (.int .i64), .cells [.d (.int .i64)]]
abbrev kb4 := HL TB.den (hsT kw.ins (hsOs kw.pre))
abbrev k5o := HL TB.den (hsV kw.res (hsOs kw.post))
noncomputable def k47 : Cx TB := ⟨inf, [k9i], [], 4, []⟩
noncomputable def k6n : Code := Try.f82.body.getD .skip
noncomputable def k78 : List ResultVar := Try.f82.results.toList
noncomputable def ka6 (o : k5o) : An TB := .no
noncomputable def k9k (x : kb4) (o : k5o) : Prop := WPh TB k47 15 2 k6n (ka6 o) (kw.st TB x) (retTQ TB k47 kw k78 o)
set_option maxRecDepth 100000 in
theorem ki8 (o : k5o) : OblH TB k47 15 2 k6n (ka6 o) (retTQ TB k47 kw k78 o) :=
  OblH.of_eq (X := (True ∧ (True ∧ True))) (by kernel_rfl) ⟨trivial, ⟨trivial, trivial⟩⟩
set_option maxRecDepth 100000 in
theorem ki9 {x : kb4} {o : k5o} (h : k9k x o) : SoundH Try.prog kw.f ((kw.args idf x).map (er TB)) ((kw.obs idf x).map (erO TB)) (er TB (kw.val idf o)) ((kw.ops idf o).map (erO TB)) :=
  Con.soundH (c := kw) (C := k47) TBok ⟨inf_ok, (all_cons kfz all_nil), all_nil⟩ mix Try.func82 (show Try.f82.body = some k6n by kernel_rfl) (show Try.f82.ntmps = 15 by kernel_rfl) (show Try.f82.results.toList = k78 by kernel_rfl) rfl h (ki8 o)
theorem bd82 : Callable Try.prog 82 := ⟨by rw [Try.func82]; kernel_rfl, by rw [Try.func82]; show some _ ≠ some _; decide⟩
noncomputable def k9w : Con TB.den := kw.relR k9k
theorem kjk : k9w.Ok Try.prog TB := Con.ok_rel kw bd82 fun _ _ h => ki9 h
end Go.Proofs.Ytponaobpcdkggaa
namespace Go.Proofs.Ytponaobpcdkggaa
open Go Go.Bv Go.Cv Go.Md Go.RowKit
def kr : Con TB.den := Con.mk0 58 [.one (.row 0), .one (.d (.int .i64)), .one (.d (.int .i64))] [.vec (.int .i64)] (.tup [.one (.d (.int .i64)), .one (.d (.int .i64))]) [.vec (.int .i64)]
abbrev kci := HL TB.den (hsT kr.ins (hsOs kr.pre))
abbrev k19 := HL TB.den (hsV kr.res (hsOs kr.post))
noncomputable def k25 : Cx TB := ⟨inf, [k9w, k9i], [], 4, []⟩
noncomputable def k4g : Code := Try.f58.body.getD .skip
noncomputable def k4z : List ResultVar := Try.f58.results.toList
def k4r : Tm := ⟨[0, 1], [.vec (.int .i64), .cells [.d (.int .i64)]], [9, 11], [.one (.ptr 1 0), .one (.d (.int .i64))], 2⟩
noncomputable def kbo (o : k19) (i : HL TB.den k4r.hs) : Prop := ghs TB [] (k4r.fill TB i) fun s => WP TB k25 57 1 (cB (cB (cB (cB (cB (cB (cB k4g))))))) .no s (retTQ TB k25 kr k4z o)
structure k7z (o : k19) (i : HL TB.den k4r.hs) : Prop where
  h : kbo o i
noncomputable def klu (o : k19) : Exit → TSt TB.den → Prop := thenT TB (fun s => k4r.mat TB 1 s (k7z o)) (retTQ TB k25 kr k4z o)
def k5w : Tm := ⟨[0, 1], [.vec (.int .i64), .cells [.d (.int .i64)]], [0, 9, 10, 11, 12], [.one (.row 0), .one (.ptr 1 0), .one (.d (.int .i64)), .one (.d (.int .i64)), .one (.d (.int .i64))], 2⟩
noncomputable def kbh (o : k19) (i : HL TB.den k5w.hs) : Prop := ghs TB [] (k5w.fill TB i) fun s => WP TB k25 57 1 (cB (cA (cB (cA (cB (cB (cB (cB (cB (cB k4g)))))))))) .no s (klu o)
structure kc0 (o : k19) (i : HL TB.den k5w.hs) : Prop where
  h : kbh o i
noncomputable def klx (o : k19) : An TB := .jn k5w (kc0 o) [] .no [] .no
noncomputable def km2 (o : k19) : An TB := .nd [] .no [] (.nd [] (klx o) [] .no)
noncomputable def km8 (o : k19) : An TB := .jn k4r (k7z o) [] (km2 o) [] .no
noncomputable def kma (o : k19) : An TB := .nd [] .no [] (.nd [] .no [] (km8 o))
noncomputable def kmd (o : k19) : An TB := .nd [] .no [] (.nd [] .no [] (kma o))
noncomputable def kcd (o : k19) : An TB := .nd [] .no [] (.nd [] .no [] (kmd o))
noncomputable def kb1 (x : kci) (o : k19) : Prop := WPh TB k25 57 1 k4g (kcd o) (kr.st TB x) (retTQ TB k25 kr k4z o)
set_option maxRecDepth 100000 in
theorem kli (o : k19) : OblH TB k25 57 1 k4g (kcd o) (retTQ TB k25 kr k4z o) :=
  OblH.of_eq (X := (True ∧ (True ∧ (True ∧ (True ∧ (True ∧ (True ∧ ((True ∧ (((True ∧ ((True ∧ (True ∧ True)) ∧ True)) ∧ (∀ i, (kc0 o) i = (kbh o) i) ∧ True) ∧ True)) ∧ (∀ i, (k7z o) i = (kbo o) i) ∧ (True ∧ (True ∧ ((True ∧ True) ∧ (True ∧ ((True ∧ True) ∧ (True ∧ True)))))))))))))) (by kernel_rfl) ⟨trivial, ⟨trivial, ⟨trivial, ⟨trivial, ⟨trivial, ⟨trivial, ⟨⟨trivial, ⟨⟨⟨trivial, ⟨⟨trivial, ⟨trivial, trivial⟩⟩, trivial⟩⟩, fun _ => propext ⟨fun h => h.1, fun h => ⟨h⟩⟩, trivial⟩, trivial⟩⟩, fun _ => propext ⟨fun h => h.1, fun h => ⟨h⟩⟩, ⟨trivial, ⟨trivial, ⟨⟨trivial, trivial⟩, ⟨trivial, ⟨⟨trivial, trivial⟩, ⟨trivial, trivial⟩⟩⟩⟩⟩⟩⟩⟩⟩⟩⟩⟩⟩
set_option maxRecDepth 100000 in
theorem kll {x : kci} {o : k19} (h : kb1 x o) : SoundH Try.prog kr.f ((kr.args idf x).map (er TB)) ((kr.obs idf x).map (erO TB)) (er TB (kr.val idf o)) ((kr.ops idf o).map (erO TB)) :=
  Con.soundH (c := kr) (C := k25) TBok ⟨inf_ok, (all_cons kjk (all_cons kfz all_nil)), all_nil⟩ mix Try.func58 (show Try.f58.body = some k4g by kernel_rfl) (show Try.f58.ntmps = 57 by kernel_rfl) (show Try.f58.results.toList = k4z by kernel_rfl) rfl h (kli o)
theorem bd58 : Callable Try.prog 58 := ⟨by rw [Try.func58]; kernel_rfl, by rw [Try.func58]; show some _ ≠ some _; decide⟩
noncomputable def kbp : Con TB.den := kr.relR kb1
theorem kly : kbp.Ok Try.prog TB := Con.ok_rel kr bd58 fun _ _ h => kll h
end Go.Proofs.Ytponaobpcdkggaa
namespace Go.Proofs.Ytponaobpcdkggaa
open Go Go.Bv Go.Cv Go.Md Go.RowKit
def k15 : Con TB.den := Con.mk0 79 [.one (.row 0), .one (.d (.int .i64)), .one (.d (.int .i64)), .one (.d (.int .i64))] [.vec (.int .i64)] (.tup []) [.vec (.int .i64)]
abbrev kfc := HL TB.den (hsT k15.ins (hsOs k15.pre))
abbrev k17 := HL TB.den (hsV k15.res (hsOs k15.post))
noncomputable def k29 : Cx TB := ⟨inf, [k6u], [], 4, []⟩
noncomputable def k3y : Code := Try.f79.body.getD .skip
noncomputable def k6p : List ResultVar := Try.f79.results.toList
noncomputable def kof (o : k17) : Exit → TSt TB.den → Prop := blockT TB 0 (retTQ TB k29 k15 k6p o)
def k1a : Tm := ⟨[0], [.vec (.int .i64)], [0, 2, 3, 8], [.one (.row 0), .one (.d (.int .i64)), .one (.d (.int .i64)), .one (.d (.int .i64))], 1⟩
noncomputable def k90 (o : k17) (nx1 : HL TB.den k1a.hs → Prop) : Exit → TSt TB.den → Prop := thenT TB (fun s => k1a.mat TB 1 s nx1) (kof o)
def k5b : Tm := ⟨[0], [.vec (.int .i64)], [0, 2, 3, 8, 9], [.one (.row 0), .one (.d (.int .i64)), .one (.d (.int .i64)), .one (.d (.int .i64)), .one (.d (.int .i64))], 81⟩
noncomputable def kd5 (o : k17) (nx1 : HL TB.den k1a.hs → Prop) (i : HL TB.den k5b.hs) : Prop := ghs TB [] (k5b.fill TB i) fun s => WP TB k29 76 1 (cB (cB (cB (cA (cA (cA (cB k3y))))))) .no s (blockT TB 1 (k90 o nx1))
structure k96 (o : k17) (nx1 : HL TB.den k1a.hs → Prop) (i : HL TB.den k5b.hs) : Prop where
  h : kd5 o nx1 i
noncomputable def koa (o : k17) (nx1 : HL TB.den k1a.hs → Prop) : Exit → TSt TB.den → Prop := thenT TB (fun s => k5b.mat TB 1 s (k96 o nx1)) (blockT TB 1 (k90 o nx1))
def k6j : Tm := ⟨[0], [.vec (.int .i64)], [0, 2, 3, 8, 9, 36], [.one (.row 0), .one (.d (.int .i64)), .one (.d (.int .i64)), .one (.d (.int .i64)), .one (.d (.int .i64)), .one (.d (.bool))], 81⟩
noncomputable def kdb (o : k17) (nx1 : HL TB.den k1a.hs → Prop) (i : HL TB.den k6j.hs) : Prop := ghs TB [] (k6j.fill TB i) fun s => WP TB k29 76 1 (cB (cA (cB (cB (cA (cA (cA (cB k3y)))))))) .no s (koa o nx1)
structure kdp (o : k17) (nx1 : HL TB.den k1a.hs → Prop) (i : HL TB.den k6j.hs) : Prop where
  h : kdb o nx1 i
noncomputable def kod (o : k17) (nx1 : HL TB.den k1a.hs → Prop) : An TB := .jn k6j (kdp o nx1) [] .no [] .no
noncomputable def kok (o : k17) (nx1 : HL TB.den k1a.hs → Prop) : An TB := .jn k5b (k96 o nx1) [] (kod o nx1) [] .no
noncomputable def kdq (o : k17) (nx1 : HL TB.den k1a.hs → Prop) : An TB := .nd [] .no [] (.nd [] .no [] (kok o nx1))
noncomputable def k91 (o : k17) (nx1 : HL TB.den k1a.hs → Prop) (i : HL TB.den k1a.hs) : Prop := WP TB k29 76 1 (cA (cA (cB k3y))) (kdq o nx1) (k1a.fill TB i) (k90 o nx1)
noncomputable def knc (o : k17) : An TB := .lp [] k1a (k91 o) fun nx1 => (kdq o nx1)
noncomputable def ke0 (o : k17) : An TB := .nd [] .no [] (knc o)
noncomputable def kcj (x : kfc) (o : k17) : Prop := WPh TB k29 76 1 k3y (ke0 o) (k15.st TB x) (retTQ TB k29 k15 k6p o)
set_option maxRecDepth 100000 in
theorem kn5 (o : k17) : OblH TB k29 76 1 k3y (ke0 o) (retTQ TB k29 k15 k6p o) :=
  OblH.of_eq (X := (True ∧ ((∀ nx i, (k91 o) nx i = (k91 o) nx i) ∧ ∀ nx1 : HL TB.den k1a.hs → Prop, (True ∧ ((True ∧ (True ∧ True)) ∧ ((True ∧ (∀ i, (kdp o nx1) i = (kdb o nx1) i) ∧ (True ∧ True)) ∧ (∀ i, (k96 o nx1) i = (kd5 o nx1) i) ∧ ((True ∧ (True ∧ True)) ∧ (True ∧ True)))))))) (by kernel_rfl) ⟨trivial, ⟨fun _ _ => rfl, fun _ => ⟨trivial, ⟨⟨trivial, ⟨trivial, trivial⟩⟩, ⟨⟨trivial, fun _ => propext ⟨fun h => h.1, fun h => ⟨h⟩⟩, ⟨trivial, trivial⟩⟩, fun _ => propext ⟨fun h => h.1, fun h => ⟨h⟩⟩, ⟨⟨trivial, ⟨trivial, trivial⟩⟩, ⟨trivial, trivial⟩⟩⟩⟩⟩⟩⟩
set_option maxRecDepth 100000 in
theorem ko3 {x : kfc} {o : k17} (h : kcj x o) : SoundH Try.prog k15.f ((k15.args idf x).map (er TB)) ((k15.obs idf x).map (erO TB)) (er TB (k15.val idf o)) ((k15.ops idf o).map (erO TB)) :=
  Con.soundH (c := k15) (C := k29) TBok ⟨inf_ok, (all_cons k8l all_nil), all_nil⟩ mix Try.func79 (show Try.f79.body = some k3y by kernel_rfl) (show Try.f79.ntmps = 76 by kernel_rfl) (show Try.f79.results.toList = k6p by kernel_rfl) rfl h (kn5 o)
theorem bd79 : Callable Try.prog 79 := ⟨by rw [Try.func79]; kernel_rfl, by rw [Try.func79]; show some _ ≠ some _; decide⟩
noncomputable def kdf : Con TB.den := k15.relR kcj
theorem kom : kdf.Ok Try.prog TB := Con.ok_rel k15 bd79 fun _ _ h => ko3 h
end Go.Proofs.Ytponaobpcdkggaa
namespace Go.Proofs.Ytponaobpcdkggaa
open Go Go.Bv Go.Cv Go.Md Go.RowKit
def kx : Con TB.den := Con.mk0 56 [.one (.row 0), .one (.d (.int .i64)), .one (.d (.int .i64))] [.vec (.int .i64)] (.tup []) [.vec (.int .i64)]
abbrev kfh := HL TB.den (hsT kx.ins (hsOs kx.pre))
abbrev k1g := HL TB.den (hsV kx.res (hsOs kx.post))
noncomputable def k1v : Cx TB := ⟨inf, [kdf], [], 4, []⟩
noncomputable def k3x : Code := Try.f56.body.getD .skip
noncomputable def k4j : List ResultVar := Try.f56.results.toList
noncomputable def koe (o : k1g) : Exit → TSt TB.den → Prop := blockT TB 2 (retTQ TB k1v kx k4j o)
def k3l : Tm := ⟨[0], [.vec (.int .i64)], [0, 6, 7, 10], [.one (.row 0), .one (.d (.int .i64)), .one (.d (.int .i64)), .one (.d (.int .i64))], 1⟩
noncomputable def kog (o : k1g) (nx2 : HL TB.den k3l.hs → Prop) : Exit → TSt TB.den → Prop := thenT TB (fun s => k3l.mat TB 1 s nx2) (koe o)
noncomputable def k95 (o : k1g) (nx2 : HL TB.den k3l.hs → Prop) (i : HL TB.den k3l.hs) : Prop := WP TB k1v 56 1 (cA (cA (cB (cB (cB (cB (cB k3x))))))) .no (k3l.fill TB i) (kog o nx2)
noncomputable def kdn (o : k1g) : An TB := .lp [] k3l (k95 o) fun nx2 => .no
noncomputable def koj (o : k1g) : Exit → TSt TB.den → Prop := thenT TB (fun s => ghs TB [] s fun s => WP TB k1v 56 1 (cB (cB (cB (cB k3x)))) (.nd [] .no [] (kdn o)) s (retTQ TB k1v kx k4j o)) (retTQ TB k1v kx k4j o)
def k3m : Tm := ⟨[0], [.vec (.int .i64)], [0, 6, 7, 8, 9], [.one (.row 0), .one (.d (.int .i64)), .one (.d (.int .i64)), .one (.d (.int .i64)), .one (.d (.int .i64))], 1⟩
noncomputable def kon (o : k1g) (nx1 : HL TB.den k3m.hs → Prop) : Exit → TSt TB.den → Prop := thenT TB (fun s => k3m.mat TB 1 s nx1) (blockT TB 0 (koj o))
noncomputable def k92 (o : k1g) (nx1 : HL TB.den k3m.hs → Prop) (i : HL TB.den k3m.hs) : Prop := WP TB k1v 56 1 (cA (cA (cB (cA (cB (cB (cB k3x))))))) .no (k3m.fill TB i) (kon o nx1)
noncomputable def knw (o : k1g) : An TB := .lp [] k3m (k92 o) fun nx1 => .no
noncomputable def kn8 (o : k1g) : An TB := .nd [] (.nd [] .no [] (knw o)) [] (.nd [] .no [] (kdn o))
noncomputable def knm (o : k1g) : An TB := .nd [] .no [] (.nd [] .no [] (kn8 o))
noncomputable def kdw (o : k1g) : An TB := .nd [] .no [] (knm o)
noncomputable def k8d (x : kfh) (o : k1g) : Prop := WPh TB k1v 56 1 k3x (kdw o) (kx.st TB x) (retTQ TB k1v kx k4j o)
set_option maxRecDepth 100000 in
theorem kn9 (o : k1g) : OblH TB k1v 56 1 k3x (kdw o) (retTQ TB k1v kx k4j o) :=
  OblH.of_eq (X := (True ∧ (True ∧ (True ∧ ((True ∧ ((∀ nx i, (k92 o) nx i = (k92 o) nx i) ∧ ∀ nx1 : HL TB.den k3m.hs → Prop, ((True ∧ (True ∧ True)) ∧ (True ∧ True)))) ∧ (True ∧ ((∀ nx i, (k95 o) nx i = (k95 o) nx i) ∧ ∀ nx2 : HL TB.den k3l.hs → Prop, ((True ∧ (True ∧ True)) ∧ ((True ∧ True) ∧ True))))))))) (by kernel_rfl) ⟨trivial, ⟨trivial, ⟨trivial, ⟨⟨trivial, ⟨fun _ _ => rfl, fun _ => ⟨⟨trivial, ⟨trivial, trivial⟩⟩, ⟨trivial, trivial⟩⟩⟩⟩, ⟨trivial, ⟨fun _ _ => rfl, fun _ => ⟨⟨trivial, ⟨trivial, trivial⟩⟩, ⟨⟨trivial, trivial⟩, trivial⟩⟩⟩⟩⟩⟩⟩⟩
set_option maxRecDepth 100000 in
theorem kn4 {x : kfh} {o : k1g} (h : k8d x o) : SoundH Try.prog kx.f ((kx.args idf x).map (er TB)) ((kx.obs idf x).map (erO TB)) (er TB (kx.val idf o)) ((kx.ops idf o).map (erO TB)) :=
  Con.soundH (c := kx) (C := k1v) TBok ⟨inf_ok, (all_cons kom all_nil), all_nil⟩ mix Try.func56 (show Try.f56.body = some k3x by kernel_rfl) (show Try.f56.ntmps = 56 by kernel_rfl) (show Try.f56.results.toList = k4j by kernel_rfl) rfl h (kn9 o)
theorem bd56 : Callable Try.prog 56 := ⟨by rw [Try.func56]; kernel_rfl, by rw [Try.func56]; show some _ ≠ some _; decide⟩
noncomputable def kd6 : Con TB.den := kx.relR k8d
theorem koc : kd6.Ok Try.prog TB := Con.ok_rel kx bd56 fun _ _ h => kn4 h
end Go.Proofs.Ytponaobpcdkggaa
