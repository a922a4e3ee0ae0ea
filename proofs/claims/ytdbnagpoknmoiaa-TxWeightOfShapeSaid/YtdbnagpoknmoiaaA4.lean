/-
  Parts of the proofs that the laws of this seat hold of every input, merged by a program: a machine over pure data that is sound for the model, what each function of the translation does in it, and plain lemmas. No conditions but those in each theorem.
-/
import Derived.Test.YtdbnagpoknmoiaaA3
set_option linter.all false
namespace Go.Proofs.Ytdbnagpoknmoiaa
open Go Go.Bv Go.Cv Go.Md Go.RowKit
def permutation_Permute_sh : Con TB.den := Con.mk0 71 [.one (.d (.int .u64)), .agg [.d (.int .u64), .d (.int .u64), .d (.int .u64)]] [] (.one (.agg [.d (.int .u64), .d (.int .u64), .d (.int .u64)])) []
abbrev permutation_Permute_I := HL TB.den (hsT permutation_Permute_sh.ins (hsOs permutation_Permute_sh.pre))
abbrev permutation_Permute_O := HL TB.den (hsV permutation_Permute_sh.res (hsOs permutation_Permute_sh.post))
noncomputable def permutation_Permute_cx : Cx TB := ⟨inf, [Field_Valid_con, Field_Exponent_con, permutation_Constant_con, Field_Add_con, Field_Pow_con, permutation_Mix_con], [], 4⟩
noncomputable def permutation_Permute_code : Code := Try.f71.body.getD .skip
noncomputable def permutation_Permute_rs : List ResultVar := Try.f71.results.toList
noncomputable def permutation_Permute_Q1 (o : permutation_Permute_O) : Exit → TSt TB.den → Prop := thenT TB (fun s => ghs TB [] s fun s => WP TB permutation_Permute_cx 43 0 (cB (cB (cB (cB (cB permutation_Permute_code))))) .no s (retTQ TB permutation_Permute_cx permutation_Permute_sh permutation_Permute_rs o)) (retTQ TB permutation_Permute_cx permutation_Permute_sh permutation_Permute_rs o)
def permutation_Permute_T2 : Tm := ⟨[0, 1, 2], [.cells [.d (.int .u64), .d (.int .u64), .d (.int .u64)], .cells [.d (.int .u64), .d (.int .u64), .d (.int .u64)], .cells [.d (.int .u64)]], [0, 3, 4, 5, 6, 17], [.one (.d (.int .u64)), .one (.ptr 0 0), .one (.ptr 1 0), .one (.ptr 2 0), .one (.d (.int .u64)), .one (.d (.int .i64))], 3⟩
noncomputable def permutation_Permute_Q2 (o : permutation_Permute_O) (nx2 : HL TB.den permutation_Permute_T2.hs → Prop) : Exit → TSt TB.den → Prop := thenT TB (fun s => permutation_Permute_T2.mat TB 0 s nx2) (blockT TB 0 (permutation_Permute_Q1 o))
noncomputable def permutation_Permute_Q3 (o : permutation_Permute_O) (nx2 : HL TB.den permutation_Permute_T2.hs → Prop) : Exit → TSt TB.den → Prop := thenT TB (fun s => ghs TB [] s fun s => WP TB permutation_Permute_cx 43 0 (cB (cB (cB (cA (cA (cB (cA (cB (cB (cB (cB permutation_Permute_code))))))))))) .no s (permutation_Permute_Q2 o nx2)) (permutation_Permute_Q2 o nx2)
noncomputable def permutation_Permute_Q4 (o : permutation_Permute_O) (nx2 : HL TB.den permutation_Permute_T2.hs → Prop) : Exit → TSt TB.den → Prop := thenT TB (fun s => ghs TB [] s fun s => WP TB permutation_Permute_cx 43 0 (cB (cB (cA (cA (cB (cB (cA (cA (cB (cA (cB (cB (cB (cB permutation_Permute_code)))))))))))))) .no s (blockT TB 1 (permutation_Permute_Q3 o nx2))) (blockT TB 1 (permutation_Permute_Q3 o nx2))
def permutation_Permute_T1 : Tm := ⟨[0, 1, 2], [.cells [.d (.int .u64), .d (.int .u64), .d (.int .u64)], .cells [.d (.int .u64), .d (.int .u64), .d (.int .u64)], .cells [.d (.int .u64)]], [0, 3, 4, 5, 6, 7, 17, 20], [.one (.d (.int .u64)), .one (.ptr 0 0), .one (.ptr 1 0), .one (.ptr 2 0), .one (.d (.int .u64)), .one (.d (.int .i64)), .one (.d (.int .i64)), .one (.d (.int .i64))], 3⟩
noncomputable def permutation_Permute_Q5 (o : permutation_Permute_O) (nx2 : HL TB.den permutation_Permute_T2.hs → Prop) (nx1 : HL TB.den permutation_Permute_T1.hs → Prop) : Exit → TSt TB.den → Prop := thenT TB (fun s => permutation_Permute_T1.mat TB 0 s nx1) (blockT TB 2 (permutation_Permute_Q4 o nx2))
noncomputable def permutation_Permute_L1 (o : permutation_Permute_O) (nx2 : HL TB.den permutation_Permute_T2.hs → Prop) (nx1 : HL TB.den permutation_Permute_T1.hs → Prop) (i : HL TB.den permutation_Permute_T1.hs) : Prop := WP TB permutation_Permute_cx 43 0 (cA (cA (cB (cA (cB (cA (cA (cB (cB (cA (cA (cB (cA (cB (cB (cB (cB permutation_Permute_code))))))))))))))))) .no (permutation_Permute_T1.fill TB i) (permutation_Permute_Q5 o nx2 nx1)
noncomputable def permutation_Permute_A8 (o : permutation_Permute_O) (nx2 : HL TB.den permutation_Permute_T2.hs → Prop) : An TB := .lp [] permutation_Permute_T1 (permutation_Permute_L1 o nx2) fun nx1 => .no
noncomputable def permutation_Permute_A9 (o : permutation_Permute_O) (nx2 : HL TB.den permutation_Permute_T2.hs → Prop) : An TB := .nd [] .no [] (.nd [] (.nd [] .no [] (permutation_Permute_A8 o nx2)) [] .no)
noncomputable def permutation_Permute_A11 (o : permutation_Permute_O) (nx2 : HL TB.den permutation_Permute_T2.hs → Prop) : An TB := .nd [] .no [] (.nd [] .no [] (.nd [] (permutation_Permute_A9 o nx2) [] .no))
noncomputable def permutation_Permute_L2 (o : permutation_Permute_O) (nx2 : HL TB.den permutation_Permute_T2.hs → Prop) (i : HL TB.den permutation_Permute_T2.hs) : Prop := WP TB permutation_Permute_cx 43 0 (cA (cA (cB (cA (cB (cB (cB (cB permutation_Permute_code)))))))) (permutation_Permute_A11 o nx2) (permutation_Permute_T2.fill TB i) (permutation_Permute_Q2 o nx2)
noncomputable def permutation_Permute_A12 (o : permutation_Permute_O) : An TB := .lp [] permutation_Permute_T2 (permutation_Permute_L2 o) fun nx2 => (permutation_Permute_A11 o nx2)
noncomputable def permutation_Permute_A13 (o : permutation_Permute_O) : An TB := .nd [] .no [] (.nd [] (.nd [] .no [] (permutation_Permute_A12 o)) [] .no)
noncomputable def permutation_Permute_an (o : permutation_Permute_O) : An TB := .nd [] .no [] (.nd [] .no [] (.nd [] .no [] (permutation_Permute_A13 o)))
noncomputable def permutation_Permute_Body (x : permutation_Permute_I) (o : permutation_Permute_O) : Prop := WPh TB permutation_Permute_cx 43 0 permutation_Permute_code (permutation_Permute_an o) (permutation_Permute_sh.st TB x) (retTQ TB permutation_Permute_cx permutation_Permute_sh permutation_Permute_rs o)
set_option maxRecDepth 100000 in
theorem permutation_Permute_obl (o : permutation_Permute_O) : OblH TB permutation_Permute_cx 43 0 permutation_Permute_code (permutation_Permute_an o) (retTQ TB permutation_Permute_cx permutation_Permute_sh permutation_Permute_rs o) :=
  OblH.of_eq (X := (True ∧ (True ∧ ((True ∧ ((True ∧ True) ∧ True)) ∧ (True ∧ ((True ∧ ((∀ nx i, (permutation_Permute_L2 o) nx i = (permutation_Permute_L2 o) nx i) ∧ ∀ nx2 : HL TB.den permutation_Permute_T2.hs → Prop, (True ∧ ((True ∧ True) ∧ ((True ∧ ((True ∧ ((∀ nx i, (permutation_Permute_L1 o nx2) nx i = (permutation_Permute_L1 o nx2) nx i) ∧ ∀ nx1 : HL TB.den permutation_Permute_T1.hs → Prop, (True ∧ ((True ∧ True) ∧ ((True ∧ True) ∧ True))))) ∧ True)) ∧ True))))) ∧ (True ∧ True))))))) (by kernel_rfl) ⟨trivial, ⟨trivial, ⟨⟨trivial, ⟨⟨trivial, trivial⟩, trivial⟩⟩, ⟨trivial, ⟨⟨trivial, ⟨fun _ _ => rfl, fun _ => ⟨trivial, ⟨⟨trivial, trivial⟩, ⟨⟨trivial, ⟨⟨trivial, ⟨fun _ _ => rfl, fun _ => ⟨trivial, ⟨⟨trivial, trivial⟩, ⟨⟨trivial, trivial⟩, trivial⟩⟩⟩⟩⟩, trivial⟩⟩, trivial⟩⟩⟩⟩⟩, ⟨trivial, trivial⟩⟩⟩⟩⟩⟩
set_option maxRecDepth 100000 in
theorem permutation_Permute_snd {x : permutation_Permute_I} {o : permutation_Permute_O} (h : permutation_Permute_Body x o) : SoundH Try.prog permutation_Permute_sh.f ((permutation_Permute_sh.args idf x).map (er TB)) ((permutation_Permute_sh.obs idf x).map (erO TB)) (er TB (permutation_Permute_sh.val idf o)) ((permutation_Permute_sh.ops idf o).map (erO TB)) :=
  Con.soundH (c := permutation_Permute_sh) (C := permutation_Permute_cx) TBok ⟨inf_ok, (all_cons Field_Valid_ok (all_cons Field_Exponent_ok (all_cons permutation_Constant_ok (all_cons Field_Add_ok (all_cons Field_Pow_ok (all_cons permutation_Mix_ok all_nil)))))), all_nil⟩ mix Try.func71 (show Try.f71.body = some permutation_Permute_code by kernel_rfl) (show Try.f71.ntmps = 43 by kernel_rfl) (show Try.f71.results.toList = permutation_Permute_rs by kernel_rfl) rfl h (permutation_Permute_obl o)
set_option maxRecDepth 100000 in
theorem permutation_Permute_in {p0 : Int} {p1 : TA3} {r0 : TA3} (h :
(((TField.mk p0).P = 18446744069414584321) ∧ ((!true) = true →
 0 = r0.a0 ∧ 0 = r0.a1 ∧ 0 = r0.a2) ∧
((!true) = false →
((TField.mk p0).P = 18446744069414584321) ∧ Md.Loop (p0, (7 : Int), (0 : Int), p1.a0, p1.a1, p1.a2, (0 : Int), (0 : Int), (0 : Int), p0, ()) (permutation_Permute_L2 (r0.a0, r0.a1, r0.a2, ()))))) : permutation_Permute_Body (p0, p1.a0, p1.a1, p1.a2, ()) (r0.a0, r0.a1, r0.a2, ()) := WPh.of_eq (by kernel_rfl) h
def permutation_Permute_B2 (r0 : TA3) (nx2 : HL TB.den permutation_Permute_T2.hs → Prop) (k2 : Int → Int → Int → Int → Prop) (s0 : Int) (s6 : Int) (h1_0 : Int) (h1_1 : Int) (h1_2 : Int) (h2_0 : Int) (s17 : Int) (h0_0 : Int) (h0_1 : Int) (h0_2 : Int) : Prop :=
(decide (s17 < 8) = true →
 Md.Loop (s0, s6, s17, s17, (0 : Int), h0_0, h0_1, h0_2, h1_0, h1_1, h1_2, h2_0, ()) (permutation_Permute_L1 (r0.a0, r0.a1, r0.a2, ()) nx2)) ∧
(decide (s17 < 8) = false →
 h0_0 = r0.a0 ∧ h0_1 = r0.a1 ∧ h0_2 = r0.a2)
set_option maxRecDepth 100000 in
theorem permutation_Permute_lp2 {r0 : TA3} {s0 : Int} {s6 : Int} {h1_0 : Int} {h1_1 : Int} {h1_2 : Int} {h2_0 : Int} {s17 : Int} {h0_0 : Int} {h0_1 : Int} {h0_2 : Int} (inv : Int → Int → Int → Int → Prop) (μ : Int → Int → Int → Int → Nat) (h0 : inv s17 h0_0 h0_1 h0_2) (hs : ∀ (s17 : Int) (h0_0 : Int) (h0_1 : Int) (h0_2 : Int), inv s17 h0_0 h0_1 h0_2 → permutation_Permute_B2 r0 (fun s : Int × Int × Int × Int × Int × Int × Int × Int × Int × Int × Unit => ((s.1 = s0 ∧ s.2.1 = s6 ∧ s.2.2.2.2.2.2.1 = h1_0 ∧ s.2.2.2.2.2.2.2.1 = h1_1 ∧ s.2.2.2.2.2.2.2.2.1 = h1_2 ∧ s.2.2.2.2.2.2.2.2.2.1 = h2_0) ∧ inv s.2.2.1 s.2.2.2.1 s.2.2.2.2.1 s.2.2.2.2.2.1) ∧ μ s.2.2.1 s.2.2.2.1 s.2.2.2.2.1 s.2.2.2.2.2.1 < μ s17 h0_0 h0_1 h0_2) (fun s17q h0_0q h0_1q h0_2q => inv s17q h0_0q h0_1q h0_2q ∧ μ s17q h0_0q h0_1q h0_2q < μ s17 h0_0 h0_1 h0_2) s0 s6 h1_0 h1_1 h1_2 h2_0 s17 h0_0 h0_1 h0_2) : Md.Loop (s0, s6, s17, h0_0, h0_1, h0_2, h1_0, h1_1, h1_2, h2_0, ()) (permutation_Permute_L2 (r0.a0, r0.a1, r0.a2, ())) :=
  ⟨⟨fun s : Int × Int × Int × Int × Int × Int × Int × Int × Int × Int × Unit => (s.1 = s0 ∧ s.2.1 = s6 ∧ s.2.2.2.2.2.2.1 = h1_0 ∧ s.2.2.2.2.2.2.2.1 = h1_1 ∧ s.2.2.2.2.2.2.2.2.1 = h1_2 ∧ s.2.2.2.2.2.2.2.2.2.1 = h2_0) ∧ inv s.2.2.1 s.2.2.2.1 s.2.2.2.2.1 s.2.2.2.2.2.1, fun s : Int × Int × Int × Int × Int × Int × Int × Int × Int × Int × Unit => μ s.2.2.1 s.2.2.2.1 s.2.2.2.2.1 s.2.2.2.2.2.1, ⟨⟨rfl, rfl, rfl, rfl, rfl, rfl⟩, h0⟩, fun (s0p, s6p, s17p, h0_0p, h0_1p, h0_2p, h1_0p, h1_1p, h1_2p, h2_0p, ()) ⟨⟨eq0, eq1, eq2, eq3, eq4, eq5⟩, hi⟩ => by
    have eq0 : s0p = s0 := eq0; subst s0p; have eq1 : s6p = s6 := eq1; subst s6p; have eq2 : h1_0p = h1_0 := eq2; subst h1_0p; have eq3 : h1_1p = h1_1 := eq3; subst h1_1p; have eq4 : h1_2p = h1_2 := eq4; subst h1_2p; have eq5 : h2_0p = h2_0 := eq5; subst h2_0p; exact mpr_of (by kernel_rfl) ((congrArg (fun k => permutation_Permute_B2 r0 (fun s : Int × Int × Int × Int × Int × Int × Int × Int × Int × Int × Unit => ((s.1 = s0 ∧ s.2.1 = s6 ∧ s.2.2.2.2.2.2.1 = h1_0 ∧ s.2.2.2.2.2.2.2.1 = h1_1 ∧ s.2.2.2.2.2.2.2.2.1 = h1_2 ∧ s.2.2.2.2.2.2.2.2.2.1 = h2_0) ∧ inv s.2.2.1 s.2.2.2.1 s.2.2.2.2.1 s.2.2.2.2.2.1) ∧ μ s.2.2.1 s.2.2.2.1 s.2.2.2.2.1 s.2.2.2.2.2.1 < μ s17p h0_0p h0_1p h0_2p) k s0 s6 h1_0 h1_1 h1_2 h2_0 s17p h0_0p h0_1p h0_2p) (lpk4 (⟨rfl, rfl, rfl, rfl, rfl, rfl⟩ : s0 = s0 ∧ s6 = s6 ∧ h1_0 = h1_0 ∧ h1_1 = h1_1 ∧ h1_2 = h1_2 ∧ h2_0 = h2_0) inv (fun s17q h0_0q h0_1q h0_2q => μ s17q h0_0q h0_1q h0_2q < μ s17p h0_0p h0_1p h0_2p))).mpr (hs s17p h0_0p h0_1p h0_2p hi))⟩⟩
def permutation_Permute_B1 (r0 : TA3) (nx2 : HL TB.den permutation_Permute_T2.hs → Prop) (k1 : Int → Int → Int → Int → Prop) (s0 : Int) (s6 : Int) (s7 : Int) (s17 : Int) (h1_0 : Int) (h1_1 : Int) (h1_2 : Int) (h2_0 : Int) (s20 : Int) (h0_0 : Int) (h0_1 : Int) (h0_2 : Int) : Prop :=
(decide (s20 < 3) = true →
(0 ≤ s20 ∧ s20 < (3 : Int)) ∧ (0 ≤ s20 ∧ s20 < (3 : Int)) ∧ (s0 = 18446744069414584321 ∧ (0 ≤ s7 ∧ s7 < 8) ∧ 0 ≤ s20 ∧ s20 < 3) ∧ ((TField.mk h2_0).P = 18446744069414584321 ∧ U64 (ix [h0_0, h0_1, h0_2] s20) ∧ U64 (rc s7 s20)) ∧ let r1 : Int := ((ix [h0_0, h0_1, h0_2] s20) + (rc s7 s20)) % 18446744069414584321
((TField.mk h2_0).P = 18446744069414584321 ∧ U64 r1 ∧ U64 s6) ∧ (0 ≤ s20 ∧ s20 < (3 : Int)) ∧ (0 ≤ s20 ∧ s20 < (3 : Int)) ∧ k1 (IntKind.i64.wrap (s20 + 1) : Int) ((bif decide (s20 = (0 : Int)) then pw (r1 % 18446744069414584321) s6 else h0_0) : Int) ((bif decide (s20 = (1 : Int)) then pw (r1 % 18446744069414584321) s6 else h0_1) : Int) ((bif decide (s20 = (2 : Int)) then pw (r1 % 18446744069414584321) s6 else h0_2) : Int)) ∧
(decide (s20 < 3) = false →
(s0 = 18446744069414584321 ∧ S3 (TA3.mk h0_0 h0_1 h0_2)) ∧ nx2 (s0, s6, (IntKind.i64.wrap (s17 + 1) : Int), ((mixS (TA3.mk h0_0 h0_1 h0_2)).a0 : Int), ((mixS (TA3.mk h0_0 h0_1 h0_2)).a1 : Int), ((mixS (TA3.mk h0_0 h0_1 h0_2)).a2 : Int), h1_0, h1_1, h1_2, h2_0, ()))
set_option maxRecDepth 100000 in
theorem permutation_Permute_lp1 {r0 : TA3} {nx2 : HL TB.den permutation_Permute_T2.hs → Prop} {s0 : Int} {s6 : Int} {s7 : Int} {s17 : Int} {h1_0 : Int} {h1_1 : Int} {h1_2 : Int} {h2_0 : Int} {s20 : Int} {h0_0 : Int} {h0_1 : Int} {h0_2 : Int} (inv : Int → Int → Int → Int → Prop) (μ : Int → Int → Int → Int → Nat) (h0 : inv s20 h0_0 h0_1 h0_2) (hs : ∀ (s20 : Int) (h0_0 : Int) (h0_1 : Int) (h0_2 : Int), inv s20 h0_0 h0_1 h0_2 → permutation_Permute_B1 r0 nx2 (fun s20q h0_0q h0_1q h0_2q => inv s20q h0_0q h0_1q h0_2q ∧ μ s20q h0_0q h0_1q h0_2q < μ s20 h0_0 h0_1 h0_2) s0 s6 s7 s17 h1_0 h1_1 h1_2 h2_0 s20 h0_0 h0_1 h0_2) : Md.Loop (s0, s6, s7, s17, s20, h0_0, h0_1, h0_2, h1_0, h1_1, h1_2, h2_0, ()) (permutation_Permute_L1 (r0.a0, r0.a1, r0.a2, ()) nx2) :=
  ⟨⟨fun s : Int × Int × Int × Int × Int × Int × Int × Int × Int × Int × Int × Int × Unit => (s.1 = s0 ∧ s.2.1 = s6 ∧ s.2.2.1 = s7 ∧ s.2.2.2.1 = s17 ∧ s.2.2.2.2.2.2.2.2.1 = h1_0 ∧ s.2.2.2.2.2.2.2.2.2.1 = h1_1 ∧ s.2.2.2.2.2.2.2.2.2.2.1 = h1_2 ∧ s.2.2.2.2.2.2.2.2.2.2.2.1 = h2_0) ∧ inv s.2.2.2.2.1 s.2.2.2.2.2.1 s.2.2.2.2.2.2.1 s.2.2.2.2.2.2.2.1, fun s : Int × Int × Int × Int × Int × Int × Int × Int × Int × Int × Int × Int × Unit => μ s.2.2.2.2.1 s.2.2.2.2.2.1 s.2.2.2.2.2.2.1 s.2.2.2.2.2.2.2.1, ⟨⟨rfl, rfl, rfl, rfl, rfl, rfl, rfl, rfl⟩, h0⟩, fun (s0p, s6p, s7p, s17p, s20p, h0_0p, h0_1p, h0_2p, h1_0p, h1_1p, h1_2p, h2_0p, ()) ⟨⟨eq0, eq1, eq2, eq3, eq4, eq5, eq6, eq7⟩, hi⟩ => by
    have eq0 : s0p = s0 := eq0; subst s0p; have eq1 : s6p = s6 := eq1; subst s6p; have eq2 : s7p = s7 := eq2; subst s7p; have eq3 : s17p = s17 := eq3; subst s17p; have eq4 : h1_0p = h1_0 := eq4; subst h1_0p; have eq5 : h1_1p = h1_1 := eq5; subst h1_1p; have eq6 : h1_2p = h1_2 := eq6; subst h1_2p; have eq7 : h2_0p = h2_0 := eq7; subst h2_0p; exact mpr_of (by kernel_rfl) ((congrArg (fun k => permutation_Permute_B1 r0 nx2 k s0 s6 s7 s17 h1_0 h1_1 h1_2 h2_0 s20p h0_0p h0_1p h0_2p) (lpk4 (⟨rfl, rfl, rfl, rfl, rfl, rfl, rfl, rfl⟩ : s0 = s0 ∧ s6 = s6 ∧ s7 = s7 ∧ s17 = s17 ∧ h1_0 = h1_0 ∧ h1_1 = h1_1 ∧ h1_2 = h1_2 ∧ h2_0 = h2_0) inv (fun s20q h0_0q h0_1q h0_2q => μ s20q h0_0q h0_1q h0_2q < μ s20p h0_0p h0_1p h0_2p))).mpr (hs s20p h0_0p h0_1p h0_2p hi))⟩⟩
theorem bd71 : Callable Try.prog 71 := ⟨by rw [Try.func71]; kernel_rfl, by rw [Try.func71]; show some _ ≠ some _; decide⟩
theorem permutation_Permute_body (p0 : Int) (p1 : TA3) (h : p0 = 18446744069414584321 ∧ S3 p1) : permutation_Permute_Body (p0, p1.a0, p1.a1, p1.a2, ()) (((permS p1).a0 : Int), ((permS p1).a1 : Int), ((permS p1).a2 : Int), ()) := by
  obtain ⟨hP, hs⟩ := h
  subst hP
  refine permutation_Permute_in ⟨rfl, fun h => by simp at h, fun _ => ⟨rfl, ?_⟩⟩
  refine permutation_Permute_lp2 (r0 := permS p1) (fun n a b c => 0 ≤ n ∧ n ≤ 8 ∧ (⟨a, b, c⟩ : TA3) = rnds n.toNat p1 ∧ S3 ⟨a, b, c⟩) (fun n _ _ _ => (8 - n).toNat) ⟨by omega, by omega, rfl, hs⟩ ?_
  rintro n a b c ⟨g0, g1, g2, g3⟩
  refine ⟨fun h => ?_, fun h => ?_⟩
  · have h := of_decide_eq_true h
    refine permutation_Permute_lp1 (r0 := permS p1) (fun i x y z => (i = 0 ∧ x = a ∧ y = b ∧ z = c) ∨ (i = 1 ∧ x = pw ((a + rc n 0) % 18446744069414584321) 7 ∧ y = b ∧ z = c) ∨ (i = 2 ∧ x = pw ((a + rc n 0) % 18446744069414584321) 7 ∧ y = pw ((b + rc n 1) % 18446744069414584321) 7 ∧ z = c) ∨ (i = 3 ∧ x = pw ((a + rc n 0) % 18446744069414584321) 7 ∧ y = pw ((b + rc n 1) % 18446744069414584321) 7 ∧ z = pw ((c + rc n 2) % 18446744069414584321) 7)) (fun i _ _ _ => (3 - i).toNat) (.inl ⟨rfl, rfl, rfl, rfl⟩) ?_
    intro i x y z hi
    have hrc : ∀ k, U64 (rc n k) := fun k => by unfold rc; omega
    have hpw : ∀ k e, 0 ≤ pw k e ∧ pw k e < 18446744069414584321 := fun k e => ⟨Int.emod_nonneg _ (by omega), Int.emod_lt_of_pos _ (by omega)⟩
    obtain ⟨h3a, h3b, h3c⟩ := g3
    refine ⟨fun hh => ?_, fun hh => ?_⟩
    · have hh := of_decide_eq_true hh
      rcases hi with ⟨rfl, rfl, rfl, rfl⟩ | ⟨rfl, rfl, rfl, rfl⟩ | ⟨rfl, rfl, rfl, rfl⟩ | ⟨rfl, _⟩
      · refine ⟨by omega, by omega, ⟨rfl, by omega, by omega⟩, ⟨rfl, h3a, hrc _⟩, ⟨rfl, ?_, by omega⟩, by omega, by omega, .inr (.inl ⟨rfl, ?_, rfl, rfl⟩), by decide⟩
        · exact ⟨Int.emod_nonneg _ (by omega), Int.lt_trans (Int.emod_lt_of_pos _ (by omega)) (by omega)⟩
        · show pw ((x + rc n 0) % 18446744069414584321 % 18446744069414584321) 7 = _
          rw [Int.emod_emod_of_dvd _ (Int.dvd_refl _)]
      · refine ⟨by omega, by omega, ⟨rfl, by omega, by omega⟩, ⟨rfl, h3b, hrc _⟩, ⟨rfl, ?_, by omega⟩, by omega, by omega, .inr (.inr (.inl ⟨rfl, rfl, ?_, rfl⟩)), by decide⟩
        · exact ⟨Int.emod_nonneg _ (by omega), Int.lt_trans (Int.emod_lt_of_pos _ (by omega)) (by omega)⟩
        · show pw ((y + rc n 1) % 18446744069414584321 % 18446744069414584321) 7 = _
          rw [Int.emod_emod_of_dvd _ (Int.dvd_refl _)]
      · refine ⟨by omega, by omega, ⟨rfl, by omega, by omega⟩, ⟨rfl, h3c, hrc _⟩, ⟨rfl, ?_, by omega⟩, by omega, by omega, .inr (.inr (.inr ⟨rfl, rfl, rfl, ?_⟩)), by decide⟩
        · exact ⟨Int.emod_nonneg _ (by omega), Int.lt_trans (Int.emod_lt_of_pos _ (by omega)) (by omega)⟩
        · show pw ((z + rc n 2) % 18446744069414584321 % 18446744069414584321) 7 = _
          rw [Int.emod_emod_of_dvd _ (Int.dvd_refl _)]
      · omega
    · have hh := of_decide_eq_false hh
      rcases hi with ⟨rfl, _⟩ | ⟨rfl, _⟩ | ⟨rfl, _⟩ | ⟨rfl, rfl, rfl, rfl⟩
      · omega
      · omega
      · omega
      · have e : rnds (n + 1).toNat p1 = rnd ⟨a, b, c⟩ n := by
          rw [show (n + 1).toNat = n.toNat + 1 by omega]
          show rnd (rnds n.toNat p1) (n.toNat : Int) = _
          rw [← g2, show (n.toNat : Int) = n by omega]
        have hS : S3 (rnds (n + 1).toNat p1) := by
          rw [e]
          unfold rnd mixS S3
          dsimp only
          omega
        have hinc : IntKind.i64.wrap (n + 1) = n + 1 := wi _ (by omega) (by omega)
        rw [hinc]
        refine ⟨⟨rfl, by unfold S3; have := hpw ((a + rc n 0) % 18446744069414584321) 7; have := hpw ((b + rc n 1) % 18446744069414584321) 7; have := hpw ((c + rc n 2) % 18446744069414584321) 7; dsimp only; omega⟩, ⟨⟨rfl, rfl, rfl, rfl, rfl, rfl⟩, (?_ : 0 ≤ n + 1 ∧ n + 1 ≤ 8 ∧ _ ∧ _)⟩, (?_ : (8 - (n + 1)).toNat < (8 - n).toNat)⟩
        · refine ⟨by omega, by omega, e.symm, ?_⟩
          rw [e] at hS
          exact hS
        · omega
  · have h := of_decide_eq_false h
    rw [show n = 8 by omega] at g2
    have g2 : (⟨a, b, c⟩ : TA3) = permS p1 := g2
    rw [← g2]
    exact ⟨rfl, rfl, rfl⟩
noncomputable def permutation_Permute_con : Con TB.den := permutation_Permute_sh.fnR (fun x => (fun (p0 : Int) (p1 : TA3) => p0 = 18446744069414584321 ∧ S3 p1) x.1 (TA3.mk x.2.1 x.2.2.1 x.2.2.2.1)) fun x => ((fun (p0 : Int) (p1 : TA3) => ((permS p1).a0 : Int)) x.1 (TA3.mk x.2.1 x.2.2.1 x.2.2.2.1), (fun (p0 : Int) (p1 : TA3) => ((permS p1).a1 : Int)) x.1 (TA3.mk x.2.1 x.2.2.1 x.2.2.2.1), (fun (p0 : Int) (p1 : TA3) => ((permS p1).a2 : Int)) x.1 (TA3.mk x.2.1 x.2.2.1 x.2.2.2.1), ())
theorem permutation_Permute_ok : permutation_Permute_con.Ok Try.prog TB := Con.ok_fn permutation_Permute_sh bd71 fun x h => permutation_Permute_snd (permutation_Permute_body x.1 (TA3.mk x.2.1 x.2.2.1 x.2.2.2.1) h)
end Go.Proofs.Ytdbnagpoknmoiaa
namespace Go.Proofs.Ytdbnagpoknmoiaa
open Go Go.Bv Go.Cv Go.Md Go.RowKit
def sponge_absorb_sh : Con TB.den := Con.mk0 68 [.one (.d (.int .u64)), .one (.d (.int .u64)), .one (.d (.sl (.int .u64)))] [] (.one (.agg [.d (.int .u64), .d (.int .u64), .d (.int .u64)])) []
abbrev sponge_absorb_I := HL TB.den (hsT sponge_absorb_sh.ins (hsOs sponge_absorb_sh.pre))
abbrev sponge_absorb_O := HL TB.den (hsV sponge_absorb_sh.res (hsOs sponge_absorb_sh.post))
noncomputable def sponge_absorb_cx : Cx TB := ⟨inf, [Field_Mul_con, Field_Add_con, permutation_Permute_con], [], 4⟩
noncomputable def sponge_absorb_code : Code := Try.f68.body.getD .skip
noncomputable def sponge_absorb_rs : List ResultVar := Try.f68.results.toList
noncomputable def sponge_absorb_Q1 (o : sponge_absorb_O) : Exit → TSt TB.den → Prop := thenT TB (fun s => ghs TB [] s fun s => WP TB sponge_absorb_cx 61 0 (cB (cB (cB (cB (cB sponge_absorb_code))))) .no s (retTQ TB sponge_absorb_cx sponge_absorb_sh sponge_absorb_rs o)) (retTQ TB sponge_absorb_cx sponge_absorb_sh sponge_absorb_rs o)
def sponge_absorb_T1 : Tm := ⟨[0, 1, 38], [.cells [.d (.int .u64), .d (.int .u64), .d (.int .u64)], .cells [.d (.int .u64)], .cells [.d (.int .u64), .d (.int .u64), .d (.int .u64)]], [0, 2, 6, 7, 8, 9], [.one (.d (.int .u64)), .one (.d (.sl (.int .u64))), .one (.ptr 0 0), .one (.ptr 1 0), .one (.ptr 2 0), .one (.d (.int .i64))], 46⟩
noncomputable def sponge_absorb_Q2 (o : sponge_absorb_O) (nx1 : HL TB.den sponge_absorb_T1.hs → Prop) : Exit → TSt TB.den → Prop := thenT TB (fun s => sponge_absorb_T1.mat TB 0 s nx1) (blockT TB 0 (sponge_absorb_Q1 o))
noncomputable def sponge_absorb_Q3 (o : sponge_absorb_O) (nx1 : HL TB.den sponge_absorb_T1.hs → Prop) : Exit → TSt TB.den → Prop := thenT TB (fun s => ghs TB [] s fun s => WP TB sponge_absorb_cx 61 0 (cB (cB (cA (cA (cB (cA (cB (cB (cB (cB sponge_absorb_code)))))))))) .no s (sponge_absorb_Q2 o nx1)) (sponge_absorb_Q2 o nx1)
def sponge_absorb_TJ1 : Tm := ⟨[0, 1, 38], [.cells [.d (.int .u64), .d (.int .u64), .d (.int .u64)], .cells [.d (.int .u64)], .cells [.d (.int .u64), .d (.int .u64), .d (.int .u64)]], [0, 2, 6, 7, 8, 9], [.one (.d (.int .u64)), .one (.d (.sl (.int .u64))), .one (.ptr 0 0), .one (.ptr 1 0), .one (.ptr 2 0), .one (.d (.int .i64))], 86⟩
noncomputable def sponge_absorb_J1d (o : sponge_absorb_O) (nx1 : HL TB.den sponge_absorb_T1.hs → Prop) (i : HL TB.den sponge_absorb_TJ1.hs) : Prop := ghs TB [] (sponge_absorb_TJ1.fill TB i) fun s => WP TB sponge_absorb_cx 61 0 (cB (cB (cA (cA (cB (cA (cA (cB (cA (cB (cB (cB (cB sponge_absorb_code))))))))))))) .no s (blockT TB 1 (sponge_absorb_Q3 o nx1))
structure sponge_absorb_J1 (o : sponge_absorb_O) (nx1 : HL TB.den sponge_absorb_T1.hs → Prop) (i : HL TB.den sponge_absorb_TJ1.hs) : Prop where
  h : sponge_absorb_J1d o nx1 i
noncomputable def sponge_absorb_A5 (o : sponge_absorb_O) (nx1 : HL TB.den sponge_absorb_T1.hs → Prop) : An TB := .nd [] .no [] (.jn sponge_absorb_TJ1 (sponge_absorb_J1 o nx1) [] .no [] .no)
noncomputable def sponge_absorb_L1 (o : sponge_absorb_O) (nx1 : HL TB.den sponge_absorb_T1.hs → Prop) (i : HL TB.den sponge_absorb_T1.hs) : Prop := WP TB sponge_absorb_cx 61 0 (cA (cA (cB (cA (cB (cB (cB (cB sponge_absorb_code)))))))) (.nd [] .no [] (.nd [] (sponge_absorb_A5 o nx1) [] .no)) (sponge_absorb_T1.fill TB i) (sponge_absorb_Q2 o nx1)
noncomputable def sponge_absorb_A7 (o : sponge_absorb_O) : An TB := .lp [] sponge_absorb_T1 (sponge_absorb_L1 o) fun nx1 => (.nd [] .no [] (.nd [] (sponge_absorb_A5 o nx1) [] .no))
noncomputable def sponge_absorb_A9 (o : sponge_absorb_O) : An TB := .nd [] .no [] (.nd [] (.nd [] .no [] (sponge_absorb_A7 o)) [] .no)
noncomputable def sponge_absorb_an (o : sponge_absorb_O) : An TB := .nd [] .no [] (.nd [] .no [] (.nd [] .no [] (sponge_absorb_A9 o)))
noncomputable def sponge_absorb_Body (x : sponge_absorb_I) (o : sponge_absorb_O) : Prop := WPh TB sponge_absorb_cx 61 0 sponge_absorb_code (sponge_absorb_an o) (sponge_absorb_sh.st TB x) (retTQ TB sponge_absorb_cx sponge_absorb_sh sponge_absorb_rs o)
set_option maxRecDepth 100000 in
theorem sponge_absorb_obl (o : sponge_absorb_O) : OblH TB sponge_absorb_cx 61 0 sponge_absorb_code (sponge_absorb_an o) (retTQ TB sponge_absorb_cx sponge_absorb_sh sponge_absorb_rs o) :=
  OblH.of_eq (X := (True ∧ (True ∧ (True ∧ ((True ∧ ((True ∧ True) ∧ True)) ∧ ((True ∧ ((∀ nx i, (sponge_absorb_L1 o) nx i = (sponge_absorb_L1 o) nx i) ∧ ∀ nx1 : HL TB.den sponge_absorb_T1.hs → Prop, ((True ∧ (True ∧ True)) ∧ ((True ∧ ((True ∧ (True ∧ True)) ∧ (∀ i, (sponge_absorb_J1 o nx1) i = (sponge_absorb_J1d o nx1) i) ∧ True)) ∧ True)))) ∧ (True ∧ True))))))) (by kernel_rfl) ⟨trivial, ⟨trivial, ⟨trivial, ⟨⟨trivial, ⟨⟨trivial, trivial⟩, trivial⟩⟩, ⟨⟨trivial, ⟨fun _ _ => rfl, fun _ => ⟨⟨trivial, ⟨trivial, trivial⟩⟩, ⟨⟨trivial, ⟨⟨trivial, ⟨trivial, trivial⟩⟩, fun _ => propext ⟨fun h => h.1, fun h => ⟨h⟩⟩, trivial⟩⟩, trivial⟩⟩⟩⟩, ⟨trivial, trivial⟩⟩⟩⟩⟩⟩
set_option maxRecDepth 100000 in
theorem sponge_absorb_snd {x : sponge_absorb_I} {o : sponge_absorb_O} (h : sponge_absorb_Body x o) : SoundH Try.prog sponge_absorb_sh.f ((sponge_absorb_sh.args idf x).map (er TB)) ((sponge_absorb_sh.obs idf x).map (erO TB)) (er TB (sponge_absorb_sh.val idf o)) ((sponge_absorb_sh.ops idf o).map (erO TB)) :=
  Con.soundH (c := sponge_absorb_sh) (C := sponge_absorb_cx) TBok ⟨inf_ok, (all_cons Field_Mul_ok (all_cons Field_Add_ok (all_cons permutation_Permute_ok all_nil))), all_nil⟩ mix Try.func68 (show Try.f68.body = some sponge_absorb_code by kernel_rfl) (show Try.f68.ntmps = 61 by kernel_rfl) (show Try.f68.results.toList = sponge_absorb_rs by kernel_rfl) rfl h (sponge_absorb_obl o)
set_option maxRecDepth 100000 in
theorem sponge_absorb_in {p0 : Int} {p1 : Int} {p2 : List Int} {r0 : TA3} (h :
(((TField.mk p0).P = 18446744069414584321 ∧ U64 p1 ∧ U64 (65536 : Int)) ∧ let r1 : Int := p1 * (65536 : Int) % 18446744069414584321
((TField.mk p0).P = 18446744069414584321 ∧ U64 r1 ∧ U64 (IntKind.u64.wrap (p2.length : Int))) ∧ let r2 : Int := (r1 + (IntKind.u64.wrap (p2.length : Int))) % 18446744069414584321
(((p2.length : Int) == 0) = true →
(p0 = 18446744069414584321 ∧ S3 (TA3.mk 0 0 r2)) ∧ (permS (TA3.mk 0 0 r2)).a0 = r0.a0 ∧ (permS (TA3.mk 0 0 r2)).a1 = r0.a1 ∧ (permS (TA3.mk 0 0 r2)).a2 = r0.a2) ∧
(((p2.length : Int) == 0) = false →
 Md.Loop (p0, p2, (0 : Int), (0 : Int), (0 : Int), (0 : Int), p0, (0 : Int), (0 : Int), r2, ()) (sponge_absorb_L1 (r0.a0, r0.a1, r0.a2, ()))))) : sponge_absorb_Body (p0, p1, p2, ()) (r0.a0, r0.a1, r0.a2, ()) := WPh.of_eq (by kernel_rfl) h
set_option maxRecDepth 100000 in
theorem sponge_absorb_J1_in {r0 : TA3} {nx1 : HL TB.den sponge_absorb_T1.hs → Prop} {s0 : Int} {s2 : List Int} {s9 : Int} {h0_0 : Int} {h0_1 : Int} {h0_2 : Int} {h1_0 : Int} {h38_0 : Int} {h38_1 : Int} {h38_2 : Int} (h :
((s0 = 18446744069414584321 ∧ S3 (TA3.mk h38_0 h38_1 h38_2)) ∧ nx1 (s0, s2, (IntKind.i64.wrap (s9 + 2) : Int), h0_0, h0_1, h0_2, h1_0, ((permS (TA3.mk h38_0 h38_1 h38_2)).a0 : Int), ((permS (TA3.mk h38_0 h38_1 h38_2)).a1 : Int), ((permS (TA3.mk h38_0 h38_1 h38_2)).a2 : Int), ()))) : sponge_absorb_J1 (r0.a0, r0.a1, r0.a2, ()) nx1 (s0, s2, s9, h0_0, h0_1, h0_2, h1_0, h38_0, h38_1, h38_2, ()) := ⟨mpr_of (by kernel_rfl) h⟩
def sponge_absorb_B1 (r0 : TA3) (nx1 : HL TB.den sponge_absorb_T1.hs → Prop) (k1 : Int → Int → Int → Int → Prop) (s0 : Int) (s2 : List Int) (h0_0 : Int) (h0_1 : Int) (h0_2 : Int) (h1_0 : Int) (s9 : Int) (h38_0 : Int) (h38_1 : Int) (h38_2 : Int) : Prop :=
(decide (s9 < (s2.length : Int)) = true →
(0 ≤ s9) ∧ s9 < (s2.length : Int) ∧ ((TField.mk h1_0).P = 18446744069414584321 ∧ U64 h38_0 ∧ U64 (ix s2 s9)) ∧ let r3 : Int := (h38_0 + (ix s2 s9)) % 18446744069414584321
 let v4 : Bool := decide ((IntKind.i64.wrap (s9 + 1)) < (s2.length : Int))
(v4 = true →
(0 ≤ IntKind.i64.wrap (s9 + 1)) ∧ IntKind.i64.wrap (s9 + 1) < (s2.length : Int) ∧ ((TField.mk h1_0).P = 18446744069414584321 ∧ U64 h38_1 ∧ U64 (ix s2 (IntKind.i64.wrap (s9 + 1)))) ∧ let r5 : Int := (h38_1 + (ix s2 (IntKind.i64.wrap (s9 + 1)))) % 18446744069414584321
 sponge_absorb_J1 (r0.a0, r0.a1, r0.a2, ()) nx1 (s0, s2, s9, h0_0, h0_1, h0_2, h1_0, r3, r5, h38_2, ())) ∧
(v4 = false →
 sponge_absorb_J1 (r0.a0, r0.a1, r0.a2, ()) nx1 (s0, s2, s9, h0_0, h0_1, h0_2, h1_0, r3, h38_1, h38_2, ()))) ∧
(decide (s9 < (s2.length : Int)) = false →
 h38_0 = r0.a0 ∧ h38_1 = r0.a1 ∧ h38_2 = r0.a2)
set_option maxRecDepth 100000 in
theorem sponge_absorb_lp1 {r0 : TA3} {s0 : Int} {s2 : List Int} {h0_0 : Int} {h0_1 : Int} {h0_2 : Int} {h1_0 : Int} {s9 : Int} {h38_0 : Int} {h38_1 : Int} {h38_2 : Int} (inv : Int → Int → Int → Int → Prop) (μ : Int → Int → Int → Int → Nat) (h0 : inv s9 h38_0 h38_1 h38_2) (hs : ∀ (s9 : Int) (h38_0 : Int) (h38_1 : Int) (h38_2 : Int), inv s9 h38_0 h38_1 h38_2 → sponge_absorb_B1 r0 (fun s : Int × (List Int) × Int × Int × Int × Int × Int × Int × Int × Int × Unit => ((s.1 = s0 ∧ s.2.1 = s2 ∧ s.2.2.2.1 = h0_0 ∧ s.2.2.2.2.1 = h0_1 ∧ s.2.2.2.2.2.1 = h0_2 ∧ s.2.2.2.2.2.2.1 = h1_0) ∧ inv s.2.2.1 s.2.2.2.2.2.2.2.1 s.2.2.2.2.2.2.2.2.1 s.2.2.2.2.2.2.2.2.2.1) ∧ μ s.2.2.1 s.2.2.2.2.2.2.2.1 s.2.2.2.2.2.2.2.2.1 s.2.2.2.2.2.2.2.2.2.1 < μ s9 h38_0 h38_1 h38_2) (fun s9q h38_0q h38_1q h38_2q => inv s9q h38_0q h38_1q h38_2q ∧ μ s9q h38_0q h38_1q h38_2q < μ s9 h38_0 h38_1 h38_2) s0 s2 h0_0 h0_1 h0_2 h1_0 s9 h38_0 h38_1 h38_2) : Md.Loop (s0, s2, s9, h0_0, h0_1, h0_2, h1_0, h38_0, h38_1, h38_2, ()) (sponge_absorb_L1 (r0.a0, r0.a1, r0.a2, ())) :=
  ⟨⟨fun s : Int × (List Int) × Int × Int × Int × Int × Int × Int × Int × Int × Unit => (s.1 = s0 ∧ s.2.1 = s2 ∧ s.2.2.2.1 = h0_0 ∧ s.2.2.2.2.1 = h0_1 ∧ s.2.2.2.2.2.1 = h0_2 ∧ s.2.2.2.2.2.2.1 = h1_0) ∧ inv s.2.2.1 s.2.2.2.2.2.2.2.1 s.2.2.2.2.2.2.2.2.1 s.2.2.2.2.2.2.2.2.2.1, fun s : Int × (List Int) × Int × Int × Int × Int × Int × Int × Int × Int × Unit => μ s.2.2.1 s.2.2.2.2.2.2.2.1 s.2.2.2.2.2.2.2.2.1 s.2.2.2.2.2.2.2.2.2.1, ⟨⟨rfl, rfl, rfl, rfl, rfl, rfl⟩, h0⟩, fun (s0p, s2p, s9p, h0_0p, h0_1p, h0_2p, h1_0p, h38_0p, h38_1p, h38_2p, ()) ⟨⟨eq0, eq1, eq2, eq3, eq4, eq5⟩, hi⟩ => by
    have eq0 : s0p = s0 := eq0; subst s0p; have eq1 : s2p = s2 := eq1; subst s2p; have eq2 : h0_0p = h0_0 := eq2; subst h0_0p; have eq3 : h0_1p = h0_1 := eq3; subst h0_1p; have eq4 : h0_2p = h0_2 := eq4; subst h0_2p; have eq5 : h1_0p = h1_0 := eq5; subst h1_0p; exact mpr_of (by kernel_rfl) ((congrArg (fun k => sponge_absorb_B1 r0 (fun s : Int × (List Int) × Int × Int × Int × Int × Int × Int × Int × Int × Unit => ((s.1 = s0 ∧ s.2.1 = s2 ∧ s.2.2.2.1 = h0_0 ∧ s.2.2.2.2.1 = h0_1 ∧ s.2.2.2.2.2.1 = h0_2 ∧ s.2.2.2.2.2.2.1 = h1_0) ∧ inv s.2.2.1 s.2.2.2.2.2.2.2.1 s.2.2.2.2.2.2.2.2.1 s.2.2.2.2.2.2.2.2.2.1) ∧ μ s.2.2.1 s.2.2.2.2.2.2.2.1 s.2.2.2.2.2.2.2.2.1 s.2.2.2.2.2.2.2.2.2.1 < μ s9p h38_0p h38_1p h38_2p) k s0 s2 h0_0 h0_1 h0_2 h1_0 s9p h38_0p h38_1p h38_2p) (lpk4 (⟨rfl, rfl, rfl, rfl, rfl, rfl⟩ : s0 = s0 ∧ s2 = s2 ∧ h0_0 = h0_0 ∧ h0_1 = h0_1 ∧ h0_2 = h0_2 ∧ h1_0 = h1_0) inv (fun s9q h38_0q h38_1q h38_2q => μ s9q h38_0q h38_1q h38_2q < μ s9p h38_0p h38_1p h38_2p))).mpr (hs s9p h38_0p h38_1p h38_2p hi))⟩⟩
theorem bd68 : Callable Try.prog 68 := ⟨by rw [Try.func68]; kernel_rfl, by rw [Try.func68]; show some _ ≠ some _; decide⟩
theorem sponge_absorb_body (p0 : Int) (p1 : Int) (p2 : List Int) (h : p0 = 18446744069414584321 ∧ U64 p1 ∧ Us p2 ∧ p2.length ≤ 1099511627776) : sponge_absorb_Body (p0, p1, p2, ()) (((absS p1 p2).a0 : Int), ((absS p1 p2).a1 : Int), ((absS p1 p2).a2 : Int), ()) := by
  obtain ⟨hP, h1, h2, h3⟩ := h
  subst hP
  have hp : ∀ s : TA3, S3 (permS s) := fun s => by
    show S3 (rnd _ _)
    unfold rnd mixS S3
    dsimp only
    omega
  have hi : S3 (absI p1 p2) := by unfold absI S3; dsimp only; omega
  have e : IntKind.u64.wrap (p2.length : Int) = p2.length := wu _ (by omega) (by omega)
  have em : (p1 * 65536 % 18446744069414584321 + (p2.length : Int)) % 18446744069414584321 = (absI p1 p2).a2 := rfl
  refine sponge_absorb_in ?_
  rw [e]
  refine ⟨⟨rfl, h1, by omega⟩, ⟨rfl, by omega, by omega⟩, fun h => ?_, fun h => ?_⟩
  · have h : p2 = [] := by simpa using h
    refine ⟨⟨rfl, ?_⟩, ?_⟩
    · exact hi
    · have : permS ⟨0, 0, (p1 * 65536 % 18446744069414584321 + (p2.length : Int)) % 18446744069414584321⟩ = absS p1 p2 := by unfold absS; rw [if_pos h]; rfl
      rw [this]
      exact ⟨rfl, rfl, rfl⟩
  · have h : p2 ≠ [] := by simpa using h
    have hv : absL p2 (absI p1 p2) = absS p1 p2 := by unfold absS; rw [if_neg h]
    rw [em]
    refine sponge_absorb_lp1 (r0 := absS p1 p2) (fun i a b c => 0 ≤ i ∧ i ≤ p2.length + 1 ∧ absL (p2.drop i.toNat) ⟨a, b, c⟩ = absS p1 p2 ∧ S3 ⟨a, b, c⟩) (fun i _ _ _ => (p2.length + 2 - i).toNat) ⟨by omega, by omega, hv, hi⟩ ?_
    rintro i a b c ⟨g0, g1, g2, g3⟩
    obtain ⟨h3a, h3b, h3c⟩ := g3
    refine ⟨fun hh => ?_, fun hh => ?_⟩
    · have hh := of_decide_eq_true hh
      have hx := h2 _ (ix_mem p2 i g0 hh)
      rw [wi (i + 1) (by omega) (by omega)]
      have fin : ∀ nx x y z, S3 ⟨x, y, z⟩ → absL (p2.drop (i + 2).toNat) (permS ⟨x, y, z⟩) = absS p1 p2 → (0 ≤ i + 2 ∧ i + 2 ≤ p2.length + 1 ∧ absL (p2.drop (i + 2).toNat) (permS ⟨x, y, z⟩) = absS p1 p2 ∧ S3 (permS ⟨x, y, z⟩) → (p2.length + 2 - (i + 2)).toNat < (p2.length + 2 - i).toNat → nx ((18446744069414584321 : Int), p2, (i + 2 : Int), (0 : Int), (0 : Int), (0 : Int), (18446744069414584321 : Int), (permS ⟨x, y, z⟩).a0, (permS ⟨x, y, z⟩).a1, (permS ⟨x, y, z⟩).a2, ())) → sponge_absorb_J1 ((absS p1 p2).a0, (absS p1 p2).a1, (absS p1 p2).a2, ()) nx ((18446744069414584321 : Int), p2, i, (0 : Int), (0 : Int), (0 : Int), (18446744069414584321 : Int), x, y, z, ()) := by
        intro nx x y z hS hv' hn
        refine sponge_absorb_J1_in (r0 := absS p1 p2) ?_
        rw [wi (i + 2) (by omega) (by omega)]
        exact ⟨⟨rfl, hS⟩, hn ⟨by omega, by omega, hv', hp _⟩ (by omega)⟩
      have hdrop := drop_ix p2 i g0 hh
      rw [hdrop] at g2
      refine ⟨g0, hh, ⟨rfl, h3a, hx⟩, fun h5 => ?_, fun h5 => ?_⟩
      · have h5 := of_decide_eq_true h5
        have hy := h2 _ (ix_mem p2 (i + 1) (by omega) h5)
        rw [drop_ix p2 (i + 1) (by omega) h5, show i + 1 + 1 = i + 2 by omega] at g2
        refine ⟨by omega, h5, ⟨rfl, h3b, hy⟩, fin _ _ _ _ (S3m (by omega) (by omega) h3c) g2 fun k1 k2 => ⟨⟨⟨rfl, rfl, rfl, rfl, rfl, rfl⟩, k1⟩, k2⟩⟩
      · have h5 := of_decide_eq_false h5
        have ed : p2.drop (i + 1).toNat = [] := List.drop_eq_nil_of_le (by omega)
        have ed2 : p2.drop (i + 2).toNat = [] := List.drop_eq_nil_of_le (by omega)
        rw [ed] at g2
        exact fin _ _ _ _ (S3m (by omega) h3b h3c) (by rw [ed2]; exact g2) fun k1 k2 => ⟨⟨⟨rfl, rfl, rfl, rfl, rfl, rfl⟩, k1⟩, k2⟩
    · have hh := of_decide_eq_false hh
      rw [List.drop_eq_nil_of_le (by omega)] at g2
      have g2 : (⟨a, b, c⟩ : TA3) = absS p1 p2 := g2
      rw [← g2]
      exact ⟨rfl, rfl, rfl⟩
noncomputable def sponge_absorb_con : Con TB.den := sponge_absorb_sh.fnR (fun x => (fun (p0 : Int) (p1 : Int) (p2 : List Int) => p0 = 18446744069414584321 ∧ U64 p1 ∧ Us p2 ∧ p2.length ≤ 1099511627776) x.1 x.2.1 x.2.2.1) fun x => ((fun (p0 : Int) (p1 : Int) (p2 : List Int) => ((absS p1 p2).a0 : Int)) x.1 x.2.1 x.2.2.1, (fun (p0 : Int) (p1 : Int) (p2 : List Int) => ((absS p1 p2).a1 : Int)) x.1 x.2.1 x.2.2.1, (fun (p0 : Int) (p1 : Int) (p2 : List Int) => ((absS p1 p2).a2 : Int)) x.1 x.2.1 x.2.2.1, ())
theorem sponge_absorb_ok : sponge_absorb_con.Ok Try.prog TB := Con.ok_fn sponge_absorb_sh bd68 fun x h => sponge_absorb_snd (sponge_absorb_body x.1 x.2.1 x.2.2.1 h)
end Go.Proofs.Ytdbnagpoknmoiaa
namespace Go.Proofs.Ytdbnagpoknmoiaa
open Go Go.Bv Go.Cv Go.Md Go.RowKit
def sponge_Hash_sh : Con TB.den := Con.mk0 59 [.one (.d (.int .u64)), .one (.d (.int .u64)), .one (.d (.sl (.int .u64)))] [] (.one (.one (.d (.int .u64)))) []
abbrev sponge_Hash_I := HL TB.den (hsT sponge_Hash_sh.ins (hsOs sponge_Hash_sh.pre))
abbrev sponge_Hash_O := HL TB.den (hsV sponge_Hash_sh.res (hsOs sponge_Hash_sh.post))
noncomputable def sponge_Hash_cx : Cx TB := ⟨inf, [Field_Valid_con, sponge_absorb_con], [], 4⟩
noncomputable def sponge_Hash_code : Code := Try.f59.body.getD .skip
noncomputable def sponge_Hash_rs : List ResultVar := Try.f59.results.toList
noncomputable def sponge_Hash_an (o : sponge_Hash_O) : An TB := .no
noncomputable def sponge_Hash_Body (x : sponge_Hash_I) (o : sponge_Hash_O) : Prop := WPh TB sponge_Hash_cx 16 0 sponge_Hash_code (sponge_Hash_an o) (sponge_Hash_sh.st TB x) (retTQ TB sponge_Hash_cx sponge_Hash_sh sponge_Hash_rs o)
set_option maxRecDepth 100000 in
theorem sponge_Hash_obl (o : sponge_Hash_O) : OblH TB sponge_Hash_cx 16 0 sponge_Hash_code (sponge_Hash_an o) (retTQ TB sponge_Hash_cx sponge_Hash_sh sponge_Hash_rs o) :=
  OblH.of_eq (X := (True ∧ ((True ∧ ((True ∧ True) ∧ True)) ∧ (True ∧ True)))) (by kernel_rfl) ⟨trivial, ⟨⟨trivial, ⟨⟨trivial, trivial⟩, trivial⟩⟩, ⟨trivial, trivial⟩⟩⟩
set_option maxRecDepth 100000 in
theorem sponge_Hash_snd {x : sponge_Hash_I} {o : sponge_Hash_O} (h : sponge_Hash_Body x o) : SoundH Try.prog sponge_Hash_sh.f ((sponge_Hash_sh.args idf x).map (er TB)) ((sponge_Hash_sh.obs idf x).map (erO TB)) (er TB (sponge_Hash_sh.val idf o)) ((sponge_Hash_sh.ops idf o).map (erO TB)) :=
  Con.soundH (c := sponge_Hash_sh) (C := sponge_Hash_cx) TBok ⟨inf_ok, (all_cons Field_Valid_ok (all_cons sponge_absorb_ok all_nil)), all_nil⟩ mix Try.func59 (show Try.f59.body = some sponge_Hash_code by kernel_rfl) (show Try.f59.ntmps = 16 by kernel_rfl) (show Try.f59.results.toList = sponge_Hash_rs by kernel_rfl) rfl h (sponge_Hash_obl o)
set_option maxRecDepth 100000 in
theorem sponge_Hash_in {p0 : Int} {p1 : Int} {p2 : List Int} {r0 : Int} (h :
(((TField.mk p0).P = 18446744069414584321) ∧ ((!true) = true →
 0 = r0) ∧
((!true) = false →
(p0 = 18446744069414584321 ∧ U64 p1 ∧ Us p2 ∧ p2.length ≤ 1099511627776) ∧ (absS p1 p2).a0 = r0))) : sponge_Hash_Body (p0, p1, p2, ()) (r0, ()) := WPh.of_eq (by kernel_rfl) h
theorem bd59 : Callable Try.prog 59 := ⟨by rw [Try.func59]; kernel_rfl, by rw [Try.func59]; show some _ ≠ some _; decide⟩
theorem sponge_Hash_body (p0 : Int) (p1 : Int) (p2 : List Int) (h : p0 = 18446744069414584321 ∧ U64 p1 ∧ Us p2 ∧ p2.length ≤ 1099511627776) : sponge_Hash_Body (p0, p1, p2, ()) ((hashS p1 p2 : Int), ()) := by
  obtain ⟨hP, h1, h2, h3⟩ := h
  subst hP
  exact sponge_Hash_in ⟨rfl, fun h => by simp at h, fun _ => ⟨⟨rfl, h1, h2, h3⟩, rfl⟩⟩
noncomputable def sponge_Hash_con : Con TB.den := sponge_Hash_sh.fnR (fun x => (fun (p0 : Int) (p1 : Int) (p2 : List Int) => p0 = 18446744069414584321 ∧ U64 p1 ∧ Us p2 ∧ p2.length ≤ 1099511627776) x.1 x.2.1 x.2.2.1) fun x => ((fun (p0 : Int) (p1 : Int) (p2 : List Int) => (hashS p1 p2 : Int)) x.1 x.2.1 x.2.2.1, ())
theorem sponge_Hash_ok : sponge_Hash_con.Ok Try.prog TB := Con.ok_fn sponge_Hash_sh bd59 fun x h => sponge_Hash_snd (sponge_Hash_body x.1 x.2.1 x.2.2.1 h)
end Go.Proofs.Ytdbnagpoknmoiaa
namespace Go.Proofs.Ytdbnagpoknmoiaa
open Go Go.Bv Go.Cv Go.Md Go.RowKit
def sponge_Pack_sh : Con TB.den := Con.mk0 60 [.one (.d (.sl (.int .u8)))] [] (.one (.one (.d (.sl (.int .u64))))) []
abbrev sponge_Pack_I := HL TB.den (hsT sponge_Pack_sh.ins (hsOs sponge_Pack_sh.pre))
abbrev sponge_Pack_O := HL TB.den (hsV sponge_Pack_sh.res (hsOs sponge_Pack_sh.post))
noncomputable def sponge_Pack_cx : Cx TB := ⟨inf, [], [], 4⟩
noncomputable def sponge_Pack_code : Code := Try.f60.body.getD .skip
noncomputable def sponge_Pack_rs : List ResultVar := Try.f60.results.toList
noncomputable def sponge_Pack_Q1 (o : sponge_Pack_O) : Exit → TSt TB.den → Prop := thenT TB (fun s => ghs TB [] s fun s => WP TB sponge_Pack_cx 55 0 (cB (cB (cB (cB sponge_Pack_code)))) .no s (retTQ TB sponge_Pack_cx sponge_Pack_sh sponge_Pack_rs o)) (retTQ TB sponge_Pack_cx sponge_Pack_sh sponge_Pack_rs o)
def sponge_Pack_T2 : Tm := ⟨[1], [.tip (.int .u64)], [0, 3, 4], [.one (.d (.sl (.int .u8))), .one (.own 0), .one (.d (.int .i64))], 2⟩
noncomputable def sponge_Pack_Q2 (o : sponge_Pack_O) (nx2 : HL TB.den sponge_Pack_T2.hs → Prop) : Exit → TSt TB.den → Prop := thenT TB (fun s => sponge_Pack_T2.mat TB 0 s nx2) (blockT TB 0 (sponge_Pack_Q1 o))
noncomputable def sponge_Pack_Q3 (o : sponge_Pack_O) (nx2 : HL TB.den sponge_Pack_T2.hs → Prop) : Exit → TSt TB.den → Prop := thenT TB (fun s => ghs TB [] s fun s => WP TB sponge_Pack_cx 55 0 (cB (cB (cA (cA (cB (cA (cB (cB (cB sponge_Pack_code))))))))) .no s (sponge_Pack_Q2 o nx2)) (sponge_Pack_Q2 o nx2)
noncomputable def sponge_Pack_Q4 (o : sponge_Pack_O) (nx2 : HL TB.den sponge_Pack_T2.hs → Prop) : Exit → TSt TB.den → Prop := thenT TB (fun s => ghs TB [] s fun s => WP TB sponge_Pack_cx 55 0 (cB (cB (cB (cA (cA (cB (cA (cA (cB (cA (cB (cB (cB sponge_Pack_code))))))))))))) .no s (blockT TB 1 (sponge_Pack_Q3 o nx2))) (blockT TB 1 (sponge_Pack_Q3 o nx2))
def sponge_Pack_T1 : Tm := ⟨[1], [.tip (.int .u64)], [0, 3, 4, 6, 35, 36, 37], [.one (.d (.sl (.int .u8))), .one (.own 0), .one (.d (.int .i64)), .one (.d (.int .u64)), .one (.d (.sl (.int .u8))), .one (.d (.int .i64)), .one (.d (.int .i64))], 2⟩
noncomputable def sponge_Pack_Q5 (o : sponge_Pack_O) (nx2 : HL TB.den sponge_Pack_T2.hs → Prop) (nx1 : HL TB.den sponge_Pack_T1.hs → Prop) : Exit → TSt TB.den → Prop := thenT TB (fun s => sponge_Pack_T1.mat TB 0 s nx1) (blockT TB 2 (sponge_Pack_Q4 o nx2))
noncomputable def sponge_Pack_L1 (o : sponge_Pack_O) (nx2 : HL TB.den sponge_Pack_T2.hs → Prop) (nx1 : HL TB.den sponge_Pack_T1.hs → Prop) (i : HL TB.den sponge_Pack_T1.hs) : Prop := WP TB sponge_Pack_cx 55 0 (cA (cA (cB (cA (cB (cB (cA (cA (cB (cA (cA (cB (cA (cB (cB (cB sponge_Pack_code)))))))))))))))) .no (sponge_Pack_T1.fill TB i) (sponge_Pack_Q5 o nx2 nx1)
noncomputable def sponge_Pack_A8 (o : sponge_Pack_O) (nx2 : HL TB.den sponge_Pack_T2.hs → Prop) : An TB := .nd [] .no [] (.lp [] sponge_Pack_T1 (sponge_Pack_L1 o nx2) fun nx1 => .no)
noncomputable def sponge_Pack_A9 (o : sponge_Pack_O) (nx2 : HL TB.den sponge_Pack_T2.hs → Prop) : An TB := .nd [] .no [] (.nd [] .no [] (.nd [] (sponge_Pack_A8 o nx2) [] .no))
noncomputable def sponge_Pack_L2 (o : sponge_Pack_O) (nx2 : HL TB.den sponge_Pack_T2.hs → Prop) (i : HL TB.den sponge_Pack_T2.hs) : Prop := WP TB sponge_Pack_cx 55 0 (cA (cA (cB (cA (cB (cB (cB sponge_Pack_code))))))) (.nd [] .no [] (.nd [] (sponge_Pack_A9 o nx2) [] .no)) (sponge_Pack_T2.fill TB i) (sponge_Pack_Q2 o nx2)
noncomputable def sponge_Pack_A11 (o : sponge_Pack_O) : An TB := .lp [.frz 0 [3]] sponge_Pack_T2 (sponge_Pack_L2 o) fun nx2 => (.nd [] .no [] (.nd [] (sponge_Pack_A9 o nx2) [] .no))
noncomputable def sponge_Pack_A12 (o : sponge_Pack_O) : An TB := .nd [] .no [] (.nd [] (.nd [] .no [] (sponge_Pack_A11 o)) [] .no)
noncomputable def sponge_Pack_an (o : sponge_Pack_O) : An TB := .nd [] .no [] (.nd [] .no [] (sponge_Pack_A12 o))
noncomputable def sponge_Pack_Body (x : sponge_Pack_I) (o : sponge_Pack_O) : Prop := WPh TB sponge_Pack_cx 55 0 sponge_Pack_code (sponge_Pack_an o) (sponge_Pack_sh.st TB x) (retTQ TB sponge_Pack_cx sponge_Pack_sh sponge_Pack_rs o)
set_option maxRecDepth 100000 in
theorem sponge_Pack_obl (o : sponge_Pack_O) : OblH TB sponge_Pack_cx 55 0 sponge_Pack_code (sponge_Pack_an o) (retTQ TB sponge_Pack_cx sponge_Pack_sh sponge_Pack_rs o) :=
  OblH.of_eq (X := (True ∧ (True ∧ (True ∧ ((True ∧ ((∀ nx i, (sponge_Pack_L2 o) nx i = (sponge_Pack_L2 o) nx i) ∧ ∀ nx2 : HL TB.den sponge_Pack_T2.hs → Prop, ((True ∧ (True ∧ True)) ∧ ((True ∧ (True ∧ ((True ∧ ((∀ nx i, (sponge_Pack_L1 o nx2) nx i = (sponge_Pack_L1 o nx2) nx i) ∧ ∀ nx1 : HL TB.den sponge_Pack_T1.hs → Prop, (True ∧ ((True ∧ True) ∧ ((True ∧ True) ∧ True))))) ∧ True))) ∧ True)))) ∧ (True ∧ True)))))) (by kernel_rfl) ⟨trivial, ⟨trivial, ⟨trivial, ⟨⟨trivial, ⟨fun _ _ => rfl, fun _ => ⟨⟨trivial, ⟨trivial, trivial⟩⟩, ⟨⟨trivial, ⟨trivial, ⟨⟨trivial, ⟨fun _ _ => rfl, fun _ => ⟨trivial, ⟨⟨trivial, trivial⟩, ⟨⟨trivial, trivial⟩, trivial⟩⟩⟩⟩⟩, trivial⟩⟩⟩, trivial⟩⟩⟩⟩, ⟨trivial, trivial⟩⟩⟩⟩⟩
set_option maxRecDepth 100000 in
theorem sponge_Pack_snd {x : sponge_Pack_I} {o : sponge_Pack_O} (h : sponge_Pack_Body x o) : SoundH Try.prog sponge_Pack_sh.f ((sponge_Pack_sh.args idf x).map (er TB)) ((sponge_Pack_sh.obs idf x).map (erO TB)) (er TB (sponge_Pack_sh.val idf o)) ((sponge_Pack_sh.ops idf o).map (erO TB)) :=
  Con.soundH (c := sponge_Pack_sh) (C := sponge_Pack_cx) TBok ⟨inf_ok, all_nil, all_nil⟩ mix Try.func60 (show Try.f60.body = some sponge_Pack_code by kernel_rfl) (show Try.f60.ntmps = 55 by kernel_rfl) (show Try.f60.results.toList = sponge_Pack_rs by kernel_rfl) rfl h (sponge_Pack_obl o)
set_option maxRecDepth 100000 in
theorem sponge_Pack_in {p0 : List Int} {r0 : List Int} (h :
(let v1 : Int := IntKind.i64.wrap ((IntKind.i64.wrap ((p0.length : Int) + 7)) - 1)
 let v2 : Int := IntKind.i64.wrap (1 + (IntKind.i64.wrap (Int.tdiv v1 7)))
 0 ≤ (1 : Int) ∧ (1 : Int) ≤ v2 ∧ (v2.toNat * 8 ≤ 140737488355328) ∧ (v2.toNat ≤ maxLen) ∧ (0 ≤ (0 : Int) ∧ 0 < (1 : Int)) ∧ (0 ≤ (0 : Int) ∧ 0 < ((List.replicate 1 (0 : Int)).length : Int)) ∧ (1 = ((List.replicate 1 (0 : Int)).set (0 : Int).toNat (IntKind.u64.wrap (p0.length : Int))).length) ∧ ((List.replicate 1 (0 : Int)).set (0 : Int).toNat (IntKind.u64.wrap (p0.length : Int)) = (List.replicate 1 (0 : Int)).set (0 : Int).toNat (IntKind.u64.wrap (p0.length : Int))) ∧ Md.Loop (p0, (0 : Int), ((List.replicate 1 (0 : Int)).set (0 : Int).toNat (IntKind.u64.wrap (p0.length : Int)) : List Int), ()) (sponge_Pack_L2 (r0, ())))) : sponge_Pack_Body (p0, ()) (r0, ()) := WPh.of_eq (by kernel_rfl) h
def sponge_Pack_B2 (r0 : List Int) (nx2 : HL TB.den sponge_Pack_T2.hs → Prop) (k2 : Int → List Int → Prop) (s0 : List Int) (s4 : Int) (g1 : List Int) : Prop :=
(decide (s4 < (s0.length : Int)) = true →
 let v3 : Int := (if (s0.length : Int) < IntKind.i64.wrap (s4 + 7) then (s0.length : Int) else IntKind.i64.wrap (s4 + 7))
(0 ≤ s4) ∧ s4 ≤ v3 ∧ v3 ≤ (s0.length : Int) ∧ let v4 : Int := (((s0.take v3.toNat).drop s4.toNat).length : Int)
(g1 = g1) ∧ Md.Loop (s0, s4, (0 : Int), ((s0.take v3.toNat).drop s4.toNat : List Int), v4, (0 : Int), g1, ()) (sponge_Pack_L1 (r0, ()) nx2)) ∧
(decide (s4 < (s0.length : Int)) = false →
 g1 = r0)
set_option maxRecDepth 100000 in
theorem sponge_Pack_lp2 {r0 : List Int} {s0 : List Int} {s4 : Int} {g1 : List Int} (inv : Int → List Int → Prop) (μ : Int → List Int → Nat) (h0 : inv s4 g1) (hs : ∀ (s4 : Int) (g1 : List Int), inv s4 g1 → sponge_Pack_B2 r0 (fun s : (List Int) × Int × (List Int) × Unit => ((s.1 = s0) ∧ inv s.2.1 s.2.2.1) ∧ μ s.2.1 s.2.2.1 < μ s4 g1) (fun s4q g1q => inv s4q g1q ∧ μ s4q g1q < μ s4 g1) s0 s4 g1) : Md.Loop (s0, s4, g1, ()) (sponge_Pack_L2 (r0, ())) :=
  ⟨⟨fun s : (List Int) × Int × (List Int) × Unit => (s.1 = s0) ∧ inv s.2.1 s.2.2.1, fun s : (List Int) × Int × (List Int) × Unit => μ s.2.1 s.2.2.1, ⟨rfl, h0⟩, fun (s0p, s4p, g1p, ()) ⟨eq0, hi⟩ => by
    have eq0 : s0p = s0 := eq0; subst s0p; exact mpr_of (by kernel_rfl) ((congrArg (fun k => sponge_Pack_B2 r0 (fun s : (List Int) × Int × (List Int) × Unit => ((s.1 = s0) ∧ inv s.2.1 s.2.2.1) ∧ μ s.2.1 s.2.2.1 < μ s4p g1p) k s0 s4p g1p) (lpk2 (rfl : s0 = s0) inv (fun s4q g1q => μ s4q g1q < μ s4p g1p))).mpr (hs s4p g1p hi))⟩⟩
def sponge_Pack_B1 (r0 : List Int) (nx2 : HL TB.den sponge_Pack_T2.hs → Prop) (k1 : Int → Int → Prop) (s0 : List Int) (s4 : Int) (s35 : List Int) (s36 : Int) (g1 : List Int) (s6 : Int) (s37 : Int) : Prop :=
(decide (s37 < s36) = true →
(0 ≤ s37) ∧ s37 < (s35.length : Int) ∧ (0 ≤ IntKind.i64.wrap (8 * s37)) ∧ let v5 : Int := ishl .u64 (IntKind.u64.wrap (ix s35 s37)) (IntKind.i64.wrap (8 * s37))
(g1 = g1) ∧ k1 (ior .u64 s6 v5 : Int) (IntKind.i64.wrap (s37 + 1) : Int)) ∧
(decide (s37 < s36) = false →
 g1.length = g1.length ∧ (g1.length + [s6].length) * 8 ≤ 140737488355328 ∧ g1.length + [s6].length ≤ maxLen ∧ (g1 ++ [s6] = g1 ++ [s6]) ∧ nx2 (s0, (IntKind.i64.wrap (s4 + 7) : Int), (g1 ++ [s6] : List Int), ()))
set_option maxRecDepth 100000 in
theorem sponge_Pack_lp1 {r0 : List Int} {nx2 : HL TB.den sponge_Pack_T2.hs → Prop} {s0 : List Int} {s4 : Int} {s35 : List Int} {s36 : Int} {g1 : List Int} {s6 : Int} {s37 : Int} (inv : Int → Int → Prop) (μ : Int → Int → Nat) (h0 : inv s6 s37) (hs : ∀ (s6 : Int) (s37 : Int), inv s6 s37 → sponge_Pack_B1 r0 nx2 (fun s6q s37q => inv s6q s37q ∧ μ s6q s37q < μ s6 s37) s0 s4 s35 s36 g1 s6 s37) : Md.Loop (s0, s4, s6, s35, s36, s37, g1, ()) (sponge_Pack_L1 (r0, ()) nx2) :=
  ⟨⟨fun s : (List Int) × Int × Int × (List Int) × Int × Int × (List Int) × Unit => (s.1 = s0 ∧ s.2.1 = s4 ∧ s.2.2.2.1 = s35 ∧ s.2.2.2.2.1 = s36 ∧ s.2.2.2.2.2.2.1 = g1) ∧ inv s.2.2.1 s.2.2.2.2.2.1, fun s : (List Int) × Int × Int × (List Int) × Int × Int × (List Int) × Unit => μ s.2.2.1 s.2.2.2.2.2.1, ⟨⟨rfl, rfl, rfl, rfl, rfl⟩, h0⟩, fun (s0p, s4p, s6p, s35p, s36p, s37p, g1p, ()) ⟨⟨eq0, eq1, eq2, eq3, eq4⟩, hi⟩ => by
    have eq0 : s0p = s0 := eq0; subst s0p; have eq1 : s4p = s4 := eq1; subst s4p; have eq2 : s35p = s35 := eq2; subst s35p; have eq3 : s36p = s36 := eq3; subst s36p; have eq4 : g1p = g1 := eq4; subst g1p; exact mpr_of (by kernel_rfl) ((congrArg (fun k => sponge_Pack_B1 r0 nx2 k s0 s4 s35 s36 g1 s6p s37p) (lpk2 (⟨rfl, rfl, rfl, rfl, rfl⟩ : s0 = s0 ∧ s4 = s4 ∧ s35 = s35 ∧ s36 = s36 ∧ g1 = g1) inv (fun s6q s37q => μ s6q s37q < μ s6p s37p))).mpr (hs s6p s37p hi))⟩⟩
theorem bd60 : Callable Try.prog 60 := ⟨by rw [Try.func60]; kernel_rfl, by rw [Try.func60]; show some _ ≠ some _; decide⟩
theorem sponge_Pack_body (p0 : List Int) (h : By p0 ∧ p0.length ≤ 1099511627776) : sponge_Pack_Body (p0, ()) ((packS p0 : List Int), ()) := by
  obtain ⟨hb, hl⟩ := h
  refine sponge_Pack_in ?_
  rw [wi ((p0.length : Int) + 7) (by omega) (by omega), wi ((p0.length : Int) + 7 - 1) (by omega) (by omega)]
  try simp only []
  rw [tdiv_nn _ _ (by omega), wi (((p0.length : Int) + 7 - 1) / 7) (by omega) (by omega), wi (1 + ((p0.length : Int) + 7 - 1) / 7) (by omega) (by omega), wu (p0.length : Int) (by omega) (by omega)]
  refine ⟨by omega, by omega, by omega, by unfold maxLen; omega, by omega, ⟨by omega, by decide⟩, by trivial, by trivial, ?_⟩
  refine sponge_Pack_lp2 (fun i g => 0 ≤ i ∧ i ≤ p0.length + 7 ∧ g ++ packN p0.length (p0.drop i.toNat) = packS p0 ∧ (g.length : Int) ≤ 1 + i) (fun i _ => (p0.length + 7 - i).toNat) ⟨by omega, by omega, rfl, by show (1 : Int) ≤ _; omega⟩ ?_
  rintro i g ⟨g0, g1, g2, g3⟩
  refine ⟨fun h => ?_, fun h => ?_⟩
  · have h := of_decide_eq_true h
    have h7 : IntKind.i64.wrap (i + 7) = i + 7 := wi (i + 7) (by omega) (by omega)
    rw [h7]
    have ev : ((p0.take (if (p0.length : Int) < i + 7 then (p0.length : Int) else i + 7).toNat).drop i.toNat) = (p0.drop i.toNat).take 7 := by
      split
      · rw [Int.toNat_natCast, List.take_length, List.take_of_length_le (by simp; omega)]
      · rw [List.drop_take, show (i + 7).toNat - i.toNat = 7 by omega]
    simp only [ev]
    refine ⟨g0, by split <;> omega, by split <;> omega, by trivial, ?_⟩
    have hpb : By ((p0.drop i.toNat).take 7) := (hb.drop _).take _
    have hpl : ((p0.drop i.toNat).take 7).length ≤ 7 := by simp; omega
    have hnext : g ++ [val ((p0.drop i.toNat).take 7)] ++ packN p0.length (p0.drop (i + 7).toNat) = packS p0 := by
      rw [← g2, List.append_assoc]
      congr 1
      have h5 : (p0.drop i.toNat).length ≤ p0.length := by simp
      have h6 := packN_step p0.length (p0.drop i.toNat) h5 (by intro h7; have := congrArg List.length h7; simp at this; omega)
      rw [h6, List.drop_drop, show i.toNat + 7 = (i + 7).toNat by omega]
      rfl
    generalize (p0.drop i.toNat).take 7 = part at *
    refine sponge_Pack_lp1 (fun n k => 0 ≤ k ∧ k ≤ part.length ∧ n = val (part.take k.toNat)) (fun _ k => (part.length - k).toNat) ⟨by omega, by omega, rfl⟩ ?_
    rintro n k ⟨k0, k1, rfl⟩
    refine ⟨fun hk => ?_, fun hk => ?_⟩
    · have hk := of_decide_eq_true hk
      have hx := hpb _ (ix_mem part k k0 hk)
      have hlen : ((part.take k.toNat).length : Int) = k := by rw [List.length_take]; omega
      rw [wi (8 * k) (by omega) (by omega), wu (ix part k) (by omega) (by omega), wi (k + 1) (by omega) (by omega)]
      have := ior_val (part.take k.toNat) (ix part k) (hpb.take _) (by omega) hx
      rw [hlen] at this
      simp only [this]
      refine ⟨k0, hk, by omega, by trivial, ⟨by omega, by omega, ?_⟩, by omega⟩
      rw [take_succ_ix part k k0 hk]
    · have hk := of_decide_eq_false hk
      have e1 : part.take k.toNat = part := List.take_of_length_le (by omega)
      rw [e1, h7]
      refine ⟨by trivial, by simp only [List.length_cons, List.length_nil]; omega, by simp only [List.length_cons, List.length_nil]; unfold maxLen; omega, by trivial, ⟨rfl, (?_ : 0 ≤ i + 7 ∧ i + 7 ≤ p0.length + 7 ∧ _ ∧ _)⟩, (?_ : (p0.length + 7 - (i + 7)).toNat < (p0.length + 7 - i).toNat)⟩
      · exact ⟨by omega, by omega, hnext, by simp only [List.length_append, List.length_cons, List.length_nil]; omega⟩
      · omega
  · have h := of_decide_eq_false h
    rw [List.drop_eq_nil_of_le (by omega)] at g2
    have : packN p0.length ([] : List Int) = [] := by cases p0.length <;> rfl
    rw [this, List.append_nil] at g2
    exact g2
noncomputable def sponge_Pack_con : Con TB.den := sponge_Pack_sh.fnR (fun x => (fun (p0 : List Int) => By p0 ∧ p0.length ≤ 1099511627776) x.1) fun x => ((fun (p0 : List Int) => (packS p0 : List Int)) x.1, ())
theorem sponge_Pack_ok : sponge_Pack_con.Ok Try.prog TB := Con.ok_fn sponge_Pack_sh bd60 fun x h => sponge_Pack_snd (sponge_Pack_body x.1 h)
end Go.Proofs.Ytdbnagpoknmoiaa
namespace Go.Proofs.Ytdbnagpoknmoiaa
open Go Go.Bv Go.Cv Go.Md Go.RowKit
def sponge_HashBytes_sh : Con TB.den := Con.mk0 39 [.one (.d (.int .u64)), .one (.d (.sl (.int .u8)))] [] (.one (.one (.d (.int .u64)))) []
abbrev sponge_HashBytes_I := HL TB.den (hsT sponge_HashBytes_sh.ins (hsOs sponge_HashBytes_sh.pre))
abbrev sponge_HashBytes_O := HL TB.den (hsV sponge_HashBytes_sh.res (hsOs sponge_HashBytes_sh.post))
noncomputable def sponge_HashBytes_cx : Cx TB := ⟨inf, [sponge_Pack_con, sponge_Hash_con], [], 4⟩
noncomputable def sponge_HashBytes_code : Code := Try.f39.body.getD .skip
noncomputable def sponge_HashBytes_rs : List ResultVar := Try.f39.results.toList
noncomputable def sponge_HashBytes_an (o : sponge_HashBytes_O) : An TB := .no
noncomputable def sponge_HashBytes_Body (x : sponge_HashBytes_I) (o : sponge_HashBytes_O) : Prop := WPh TB sponge_HashBytes_cx 9 0 sponge_HashBytes_code (sponge_HashBytes_an o) (sponge_HashBytes_sh.st TB x) (retTQ TB sponge_HashBytes_cx sponge_HashBytes_sh sponge_HashBytes_rs o)
set_option maxRecDepth 100000 in
theorem sponge_HashBytes_obl (o : sponge_HashBytes_O) : OblH TB sponge_HashBytes_cx 9 0 sponge_HashBytes_code (sponge_HashBytes_an o) (retTQ TB sponge_HashBytes_cx sponge_HashBytes_sh sponge_HashBytes_rs o) :=
  OblH.of_eq (X := (True ∧ (True ∧ True))) (by kernel_rfl) ⟨trivial, ⟨trivial, trivial⟩⟩
set_option maxRecDepth 100000 in
theorem sponge_HashBytes_snd {x : sponge_HashBytes_I} {o : sponge_HashBytes_O} (h : sponge_HashBytes_Body x o) : SoundH Try.prog sponge_HashBytes_sh.f ((sponge_HashBytes_sh.args idf x).map (er TB)) ((sponge_HashBytes_sh.obs idf x).map (erO TB)) (er TB (sponge_HashBytes_sh.val idf o)) ((sponge_HashBytes_sh.ops idf o).map (erO TB)) :=
  Con.soundH (c := sponge_HashBytes_sh) (C := sponge_HashBytes_cx) TBok ⟨inf_ok, (all_cons sponge_Pack_ok (all_cons sponge_Hash_ok all_nil)), all_nil⟩ mix Try.func39 (show Try.f39.body = some sponge_HashBytes_code by kernel_rfl) (show Try.f39.ntmps = 9 by kernel_rfl) (show Try.f39.results.toList = sponge_HashBytes_rs by kernel_rfl) rfl h (sponge_HashBytes_obl o)
set_option maxRecDepth 100000 in
theorem sponge_HashBytes_in {p0 : Int} {p1 : List Int} {r0 : Int} (h :
((By p1 ∧ p1.length ≤ 1099511627776) ∧ ((18446744069414584321 : Int) = 18446744069414584321 ∧ U64 p0 ∧ Us (packS p1) ∧ (packS p1).length ≤ 1099511627776) ∧ hashS p0 (packS p1) = r0)) : sponge_HashBytes_Body (p0, p1, ()) (r0, ()) := WPh.of_eq (by kernel_rfl) h
theorem bd39 : Callable Try.prog 39 := ⟨by rw [Try.func39]; kernel_rfl, by rw [Try.func39]; show some _ ≠ some _; decide⟩
theorem sponge_HashBytes_body (p0 : Int) (p1 : List Int) (h : U64 p0 ∧ By p1 ∧ p1.length ≤ 1099511627775) : sponge_HashBytes_Body (p0, p1, ()) ((hashB p0 p1 : Int), ()) := by
  obtain ⟨h1, h2, h3⟩ := h
  refine sponge_HashBytes_in ⟨⟨h2, by omega⟩, ⟨rfl, h1, ?_, ?_⟩, rfl⟩
  · intro x hx
    rcases List.mem_cons.1 hx with rfl | hx
    · omega
    · exact packN_us _ _ h2 x hx
  · have := packN_length p1.length p1
    simp only [packS, List.length_cons]
    omega
noncomputable def sponge_HashBytes_con : Con TB.den := sponge_HashBytes_sh.fnR (fun x => (fun (p0 : Int) (p1 : List Int) => U64 p0 ∧ By p1 ∧ p1.length ≤ 1099511627775) x.1 x.2.1) fun x => ((fun (p0 : Int) (p1 : List Int) => (hashB p0 p1 : Int)) x.1 x.2.1, ())
theorem sponge_HashBytes_ok : sponge_HashBytes_con.Ok Try.prog TB := Con.ok_fn sponge_HashBytes_sh bd39 fun x h => sponge_HashBytes_snd (sponge_HashBytes_body x.1 x.2.1 h)
end Go.Proofs.Ytdbnagpoknmoiaa
namespace Go.Proofs.Ytdbnagpoknmoiaa
open Go Go.Bv Go.Cv Go.Md Go.RowKit
def tx_validAmounts_sh : Con TB.den := Con.mk0 31 [.agg [.d (.int .u64), .d (.sl (.int .u64)), .d (.sl (.st 0)), .d (.int .u64), .d (.int .u64), .d (.int .u64), .d (.int .u64), .d (.int .u64), .d (.int .i64), .d (.sl (.int .u8))]] [] (.one (.one (.d (.bool)))) []
abbrev tx_validAmounts_I := HL TB.den (hsT tx_validAmounts_sh.ins (hsOs tx_validAmounts_sh.pre))
abbrev tx_validAmounts_O := HL TB.den (hsV tx_validAmounts_sh.res (hsOs tx_validAmounts_sh.post))
noncomputable def tx_validAmounts_cx : Cx TB := ⟨inf, [], [], 4⟩
noncomputable def tx_validAmounts_code : Code := Try.f31.body.getD .skip
noncomputable def tx_validAmounts_rs : List ResultVar := Try.f31.results.toList
noncomputable def tx_validAmounts_an (o : tx_validAmounts_O) : An TB := .no
noncomputable def tx_validAmounts_Body (x : tx_validAmounts_I) (o : tx_validAmounts_O) : Prop := WPh TB tx_validAmounts_cx 47 0 tx_validAmounts_code (tx_validAmounts_an o) (tx_validAmounts_sh.st TB x) (retTQ TB tx_validAmounts_cx tx_validAmounts_sh tx_validAmounts_rs o)
set_option maxRecDepth 100000 in
theorem tx_validAmounts_obl (o : tx_validAmounts_O) : OblH TB tx_validAmounts_cx 47 0 tx_validAmounts_code (tx_validAmounts_an o) (retTQ TB tx_validAmounts_cx tx_validAmounts_sh tx_validAmounts_rs o) :=
  OblH.of_eq (X := (True ∧ ((True ∧ ((True ∧ True) ∧ True)) ∧ ((True ∧ ((True ∧ True) ∧ True)) ∧ ((True ∧ ((True ∧ True) ∧ True)) ∧ ((True ∧ ((True ∧ True) ∧ True)) ∧ (True ∧ True))))))) (by kernel_rfl) ⟨trivial, ⟨⟨trivial, ⟨⟨trivial, trivial⟩, trivial⟩⟩, ⟨⟨trivial, ⟨⟨trivial, trivial⟩, trivial⟩⟩, ⟨⟨trivial, ⟨⟨trivial, trivial⟩, trivial⟩⟩, ⟨⟨trivial, ⟨⟨trivial, trivial⟩, trivial⟩⟩, ⟨trivial, trivial⟩⟩⟩⟩⟩⟩
set_option maxRecDepth 100000 in
theorem tx_validAmounts_snd {x : tx_validAmounts_I} {o : tx_validAmounts_O} (h : tx_validAmounts_Body x o) : SoundH Try.prog tx_validAmounts_sh.f ((tx_validAmounts_sh.args idf x).map (er TB)) ((tx_validAmounts_sh.obs idf x).map (erO TB)) (er TB (tx_validAmounts_sh.val idf o)) ((tx_validAmounts_sh.ops idf o).map (erO TB)) :=
  Con.soundH (c := tx_validAmounts_sh) (C := tx_validAmounts_cx) TBok ⟨inf_ok, all_nil, all_nil⟩ mix Try.func31 (show Try.f31.body = some tx_validAmounts_code by kernel_rfl) (show Try.f31.ntmps = 47 by kernel_rfl) (show Try.f31.results.toList = tx_validAmounts_rs by kernel_rfl) rfl h (tx_validAmounts_obl o)
set_option maxRecDepth 100000 in
theorem tx_validAmounts_in {p0 : TTx} {r0 : Bool} (h :
((decide (4294967295 < p0.Deposit) = true →
 false = r0) ∧
(decide (4294967295 < p0.Deposit) = false →
(decide (4294967295 < p0.Withdraw) = true →
 false = r0) ∧
(decide (4294967295 < p0.Withdraw) = false →
(decide (4294967295 < p0.Fee) = true →
 false = r0) ∧
(decide (4294967295 < p0.Fee) = false →
 let v1 : Bool := decide (18446744069414584321 ≤ p0.Account)
(v1 = true →
 false = r0) ∧
(v1 = false →
(decide (18446744069414584321 ≤ p0.Nonce) = true →
 false = r0) ∧
(decide (18446744069414584321 ≤ p0.Nonce) = false →
(decide (0 < p0.Deposit) = true →
(p0.Withdraw == 0) = r0) ∧
(decide (0 < p0.Deposit) = false →
(((p0.Marks.length : Int) == 0) = true →
 false = r0) ∧
(((p0.Marks.length : Int) == 0) = false →
((p0.Nonce != 0) = true →
 false = r0) ∧
((p0.Nonce != 0) = false →
(decide (0 < p0.Withdraw) = true →
 true = r0) ∧
(decide (0 < p0.Withdraw) = false →
(p0.Account == 0) = r0))))))))))) : tx_validAmounts_Body (p0.Anchor, p0.Marks, p0.Outs, p0.Deposit, p0.Withdraw, p0.Fee, p0.Account, p0.Nonce, p0.Expiry, p0.Proof, ()) (r0, ()) := WPh.of_eq (by kernel_rfl) h
theorem bd31 : Callable Try.prog 31 := ⟨by rw [Try.func31]; kernel_rfl, by rw [Try.func31]; show some _ ≠ some _; decide⟩
theorem tx_validAmounts_body (p0 : TTx) : tx_validAmounts_Body (p0.Anchor, p0.Marks, p0.Outs, p0.Deposit, p0.Withdraw, p0.Fee, p0.Account, p0.Nonce, p0.Expiry, p0.Proof, ()) ((vAmounts p0 : Bool), ()) := by
  refine tx_validAmounts_in ?_
  unfold vAmounts
  try simp only []
  repeat' (apply And.intro <;> intro h)
  all_goals simp only [decide_eq_true_eq, decide_eq_false_iff_not, beq_iff_eq, bne_iff_ne, Bool.not_eq_true, beq_eq_false_iff_ne, bne_eq_false_iff_eq, List.isEmpty_iff, Int.natCast_eq_zero, List.length_eq_zero_iff] at *
  all_goals simp [*]
  all_goals grind
noncomputable def tx_validAmounts_con : Con TB.den := tx_validAmounts_sh.totR fun x => ((fun (p0 : TTx) => (vAmounts p0 : Bool)) (TTx.mk x.1 x.2.1 x.2.2.1 x.2.2.2.1 x.2.2.2.2.1 x.2.2.2.2.2.1 x.2.2.2.2.2.2.1 x.2.2.2.2.2.2.2.1 x.2.2.2.2.2.2.2.2.1 x.2.2.2.2.2.2.2.2.2.1), ())
theorem tx_validAmounts_ok : tx_validAmounts_con.Ok Try.prog TB := Con.ok_tot tx_validAmounts_sh bd31 fun x => tx_validAmounts_snd (tx_validAmounts_body (TTx.mk x.1 x.2.1 x.2.2.1 x.2.2.2.1 x.2.2.2.2.1 x.2.2.2.2.2.1 x.2.2.2.2.2.2.1 x.2.2.2.2.2.2.2.1 x.2.2.2.2.2.2.2.2.1 x.2.2.2.2.2.2.2.2.2.1))
end Go.Proofs.Ytdbnagpoknmoiaa
namespace Go.Proofs.Ytdbnagpoknmoiaa
open Go Go.Bv Go.Cv Go.Md Go.RowKit
def slices_Index_sh : Con TB.den := Con.mk0 64 [.one (.d (.sl (.int .u64))), .one (.d (.int .u64))] [] (.one (.one (.d (.int .i64)))) []
abbrev slices_Index_I := HL TB.den (hsT slices_Index_sh.ins (hsOs slices_Index_sh.pre))
abbrev slices_Index_O := HL TB.den (hsV slices_Index_sh.res (hsOs slices_Index_sh.post))
noncomputable def slices_Index_cx : Cx TB := ⟨inf, [], [], 4⟩
noncomputable def slices_Index_code : Code := Try.f64.body.getD .skip
noncomputable def slices_Index_rs : List ResultVar := Try.f64.results.toList
noncomputable def slices_Index_Q1 (o : slices_Index_O) : Exit → TSt TB.den → Prop := thenT TB (fun s => ghs TB [] s fun s => WP TB slices_Index_cx 19 0 (cB (cB slices_Index_code)) .no s (retTQ TB slices_Index_cx slices_Index_sh slices_Index_rs o)) (retTQ TB slices_Index_cx slices_Index_sh slices_Index_rs o)
def slices_Index_T1 : Tm := ⟨[], [], [0, 1, 7, 8], [.one (.d (.sl (.int .u64))), .one (.d (.int .u64)), .one (.d (.int .i64)), .one (.d (.int .i64))], 0⟩
noncomputable def slices_Index_Q2 (o : slices_Index_O) (nx1 : HL TB.den slices_Index_T1.hs → Prop) : Exit → TSt TB.den → Prop := thenT TB (fun s => slices_Index_T1.mat TB 0 s nx1) (blockT TB 0 (slices_Index_Q1 o))
noncomputable def slices_Index_L1 (o : slices_Index_O) (nx1 : HL TB.den slices_Index_T1.hs → Prop) (i : HL TB.den slices_Index_T1.hs) : Prop := WP TB slices_Index_cx 19 0 (cA (cA (cB (cA (cB slices_Index_code))))) .no (slices_Index_T1.fill TB i) (slices_Index_Q2 o nx1)
noncomputable def slices_Index_A5 (o : slices_Index_O) : An TB := .nd [] .no [] (.lp [] slices_Index_T1 (slices_Index_L1 o) fun nx1 => .no)
noncomputable def slices_Index_an (o : slices_Index_O) : An TB := .nd [] .no [] (.nd [] (slices_Index_A5 o) [] .no)
noncomputable def slices_Index_Body (x : slices_Index_I) (o : slices_Index_O) : Prop := WPh TB slices_Index_cx 19 0 slices_Index_code (slices_Index_an o) (slices_Index_sh.st TB x) (retTQ TB slices_Index_cx slices_Index_sh slices_Index_rs o)
set_option maxRecDepth 100000 in
theorem slices_Index_obl (o : slices_Index_O) : OblH TB slices_Index_cx 19 0 slices_Index_code (slices_Index_an o) (retTQ TB slices_Index_cx slices_Index_sh slices_Index_rs o) :=
  OblH.of_eq (X := (True ∧ ((True ∧ ((∀ nx i, (slices_Index_L1 o) nx i = (slices_Index_L1 o) nx i) ∧ ∀ nx1 : HL TB.den slices_Index_T1.hs → Prop, (True ∧ ((True ∧ True) ∧ ((True ∧ (True ∧ ((True ∧ True) ∧ True))) ∧ True))))) ∧ (True ∧ True)))) (by kernel_rfl) ⟨trivial, ⟨⟨trivial, ⟨fun _ _ => rfl, fun _ => ⟨trivial, ⟨⟨trivial, trivial⟩, ⟨⟨trivial, ⟨trivial, ⟨⟨trivial, trivial⟩, trivial⟩⟩⟩, trivial⟩⟩⟩⟩⟩, ⟨trivial, trivial⟩⟩⟩
set_option maxRecDepth 100000 in
theorem slices_Index_snd {x : slices_Index_I} {o : slices_Index_O} (h : slices_Index_Body x o) : SoundH Try.prog slices_Index_sh.f ((slices_Index_sh.args idf x).map (er TB)) ((slices_Index_sh.obs idf x).map (erO TB)) (er TB (slices_Index_sh.val idf o)) ((slices_Index_sh.ops idf o).map (erO TB)) :=
  Con.soundH (c := slices_Index_sh) (C := slices_Index_cx) TBok ⟨inf_ok, all_nil, all_nil⟩ mix Try.func64 (show Try.f64.body = some slices_Index_code by kernel_rfl) (show Try.f64.ntmps = 19 by kernel_rfl) (show Try.f64.results.toList = slices_Index_rs by kernel_rfl) rfl h (slices_Index_obl o)
set_option maxRecDepth 100000 in
theorem slices_Index_in {p0 : List Int} {p1 : Int} {r0 : Int} (h :
(Md.Loop (p0, p1, ((p0.length : Int) : Int), (0 : Int), ()) (slices_Index_L1 (r0, ())))) : slices_Index_Body (p0, p1, ()) (r0, ()) := WPh.of_eq (by kernel_rfl) h
def slices_Index_B1 (r0 : Int) (k1 : Int → Prop) (s0 : List Int) (s1 : Int) (s7 : Int) (s8 : Int) : Prop :=
(decide (s8 < s7) = true →
(0 ≤ s8) ∧ s8 < (s0.length : Int) ∧ ((s1 == (ix s0 s8)) = true →
 s8 = r0) ∧
((s1 == (ix s0 s8)) = false →
 k1 (IntKind.i64.wrap (s8 + 1) : Int))) ∧
(decide (s8 < s7) = false →
(-1) = r0)
set_option maxRecDepth 100000 in
theorem slices_Index_lp1 {r0 : Int} {s0 : List Int} {s1 : Int} {s7 : Int} {s8 : Int} (inv : Int → Prop) (μ : Int → Nat) (h0 : inv s8) (hs : ∀ (s8 : Int), inv s8 → slices_Index_B1 r0 (fun s8q => inv s8q ∧ μ s8q < μ s8) s0 s1 s7 s8) : Md.Loop (s0, s1, s7, s8, ()) (slices_Index_L1 (r0, ())) :=
  ⟨⟨fun s : (List Int) × Int × Int × Int × Unit => (s.1 = s0 ∧ s.2.1 = s1 ∧ s.2.2.1 = s7) ∧ inv s.2.2.2.1, fun s : (List Int) × Int × Int × Int × Unit => μ s.2.2.2.1, ⟨⟨rfl, rfl, rfl⟩, h0⟩, fun (s0p, s1p, s7p, s8p, ()) ⟨⟨eq0, eq1, eq2⟩, hi⟩ => by
    have eq0 : s0p = s0 := eq0; subst s0p; have eq1 : s1p = s1 := eq1; subst s1p; have eq2 : s7p = s7 := eq2; subst s7p; exact mpr_of (by kernel_rfl) ((congrArg (fun k => slices_Index_B1 r0 k s0 s1 s7 s8p) (lpk1 (⟨rfl, rfl, rfl⟩ : s0 = s0 ∧ s1 = s1 ∧ s7 = s7) inv (fun s8q => μ s8q < μ s8p))).mpr (hs s8p hi))⟩⟩
theorem bd64 : Callable Try.prog 64 := ⟨by rw [Try.func64]; kernel_rfl, by rw [Try.func64]; show some _ ≠ some _; decide⟩
theorem slices_Index_body (p0 : List Int) (p1 : Int) (h : p0.length ≤ 9223372036854775807) : slices_Index_Body (p0, p1, ()) ((idxI p0 p1 : Int), ()) := by
  refine slices_Index_in (slices_Index_lp1 (fun i => 0 ≤ i ∧ i ≤ p0.length ∧ p1 ∉ p0.take i.toNat) (fun i => (p0.length - i).toNat) ⟨by omega, by omega, by simp⟩ ?_)
  rintro i ⟨g0, g1, g2⟩
  refine ⟨fun h => ?_, fun h => ?_⟩
  · have h := of_decide_eq_true h
    refine ⟨g0, h, fun e => ?_, fun e => ?_⟩
    · have e : p1 = ix p0 i := by simpa using e
      unfold idxI
      rw [if_pos (by rw [e]; exact ix_mem p0 i g0 h)]
      have : p0.idxOf p1 = i.toNat := by
        conv => lhs; rw [← List.take_append_drop i.toNat p0]
        rw [List.idxOf_append, if_neg g2, drop_ix p0 i g0 h, ← e, List.idxOf_cons_self, List.length_take]
        omega
      rw [this]
      omega
    · have e : ¬ p1 = ix p0 i := by simpa using e
      rw [inc i p0.length g0 h (by omega)]
      refine ⟨⟨by omega, by omega, ?_⟩, by omega⟩
      rw [take_succ_ix p0 i g0 h]
      simp only [List.mem_append, List.mem_singleton]
      exact fun hh => hh.elim g2 e
  · have h := of_decide_eq_false h
    rw [List.take_of_length_le (by omega)] at g2
    unfold idxI
    rw [if_neg g2]
noncomputable def slices_Index_con : Con TB.den := slices_Index_sh.fnR (fun x => (fun (p0 : List Int) (p1 : Int) => p0.length ≤ 9223372036854775807) x.1 x.2.1) fun x => ((fun (p0 : List Int) (p1 : Int) => (idxI p0 p1 : Int)) x.1 x.2.1, ())
theorem slices_Index_ok : slices_Index_con.Ok Try.prog TB := Con.ok_fn slices_Index_sh bd64 fun x h => slices_Index_snd (slices_Index_body x.1 x.2.1 h)
end Go.Proofs.Ytdbnagpoknmoiaa
namespace Go.Proofs.Ytdbnagpoknmoiaa
open Go Go.Bv Go.Cv Go.Md Go.RowKit
def slices_Contains_sh : Con TB.den := Con.mk0 53 [.one (.d (.sl (.int .u64))), .one (.d (.int .u64))] [] (.one (.one (.d (.bool)))) []
abbrev slices_Contains_I := HL TB.den (hsT slices_Contains_sh.ins (hsOs slices_Contains_sh.pre))
abbrev slices_Contains_O := HL TB.den (hsV slices_Contains_sh.res (hsOs slices_Contains_sh.post))
noncomputable def slices_Contains_cx : Cx TB := ⟨inf, [slices_Index_con], [], 4⟩
noncomputable def slices_Contains_code : Code := Try.f53.body.getD .skip
noncomputable def slices_Contains_rs : List ResultVar := Try.f53.results.toList
noncomputable def slices_Contains_an (o : slices_Contains_O) : An TB := .no
noncomputable def slices_Contains_Body (x : slices_Contains_I) (o : slices_Contains_O) : Prop := WPh TB slices_Contains_cx 9 0 slices_Contains_code (slices_Contains_an o) (slices_Contains_sh.st TB x) (retTQ TB slices_Contains_cx slices_Contains_sh slices_Contains_rs o)
set_option maxRecDepth 100000 in
theorem slices_Contains_obl (o : slices_Contains_O) : OblH TB slices_Contains_cx 9 0 slices_Contains_code (slices_Contains_an o) (retTQ TB slices_Contains_cx slices_Contains_sh slices_Contains_rs o) :=
  OblH.of_eq (X := (True ∧ (True ∧ True))) (by kernel_rfl) ⟨trivial, ⟨trivial, trivial⟩⟩
set_option maxRecDepth 100000 in
theorem slices_Contains_snd {x : slices_Contains_I} {o : slices_Contains_O} (h : slices_Contains_Body x o) : SoundH Try.prog slices_Contains_sh.f ((slices_Contains_sh.args idf x).map (er TB)) ((slices_Contains_sh.obs idf x).map (erO TB)) (er TB (slices_Contains_sh.val idf o)) ((slices_Contains_sh.ops idf o).map (erO TB)) :=
  Con.soundH (c := slices_Contains_sh) (C := slices_Contains_cx) TBok ⟨inf_ok, (all_cons slices_Index_ok all_nil), all_nil⟩ mix Try.func53 (show Try.f53.body = some slices_Contains_code by kernel_rfl) (show Try.f53.ntmps = 9 by kernel_rfl) (show Try.f53.results.toList = slices_Contains_rs by kernel_rfl) rfl h (slices_Contains_obl o)
set_option maxRecDepth 100000 in
theorem slices_Contains_in {p0 : List Int} {p1 : Int} {r0 : Bool} (h :
((p0.length ≤ 9223372036854775807) ∧ decide (0 ≤ (idxI p0 p1)) = r0)) : slices_Contains_Body (p0, p1, ()) (r0, ()) := WPh.of_eq (by kernel_rfl) h
theorem bd53 : Callable Try.prog 53 := ⟨by rw [Try.func53]; kernel_rfl, by rw [Try.func53]; show some _ ≠ some _; decide⟩
theorem slices_Contains_body (p0 : List Int) (p1 : Int) (h : p0.length ≤ 9223372036854775807) : slices_Contains_Body (p0, p1, ()) ((decide (p1 ∈ p0) : Bool), ()) := by
  refine slices_Contains_in ⟨h, ?_⟩
  unfold idxI
  by_cases hm : p1 ∈ p0
  · simp [hm]
  · simp [hm]
noncomputable def slices_Contains_con : Con TB.den := slices_Contains_sh.fnR (fun x => (fun (p0 : List Int) (p1 : Int) => p0.length ≤ 9223372036854775807) x.1 x.2.1) fun x => ((fun (p0 : List Int) (p1 : Int) => (decide (p1 ∈ p0) : Bool)) x.1 x.2.1, ())
theorem slices_Contains_ok : slices_Contains_con.Ok Try.prog TB := Con.ok_fn slices_Contains_sh bd53 fun x h => slices_Contains_snd (slices_Contains_body x.1 x.2.1 h)
end Go.Proofs.Ytdbnagpoknmoiaa
namespace Go.Proofs.Ytdbnagpoknmoiaa
open Go Go.Bv Go.Cv Go.Md Go.RowKit
def tx_validMarks_sh : Con TB.den := Con.mk0 29 [.one (.d (.sl (.int .u64)))] [] (.one (.one (.d (.bool)))) []
abbrev tx_validMarks_I := HL TB.den (hsT tx_validMarks_sh.ins (hsOs tx_validMarks_sh.pre))
abbrev tx_validMarks_O := HL TB.den (hsV tx_validMarks_sh.res (hsOs tx_validMarks_sh.post))
noncomputable def tx_validMarks_cx : Cx TB := ⟨inf, [slices_Contains_con], [], 4⟩
noncomputable def tx_validMarks_code : Code := Try.f29.body.getD .skip
noncomputable def tx_validMarks_rs : List ResultVar := Try.f29.results.toList
noncomputable def tx_validMarks_Q1 (o : tx_validMarks_O) : Exit → TSt TB.den → Prop := thenT TB (fun s => ghs TB [] s fun s => WP TB tx_validMarks_cx 25 0 (cB (cB (cB tx_validMarks_code))) .no s (retTQ TB tx_validMarks_cx tx_validMarks_sh tx_validMarks_rs o)) (retTQ TB tx_validMarks_cx tx_validMarks_sh tx_validMarks_rs o)
def tx_validMarks_T1 : Tm := ⟨[], [], [0, 8, 9, 10], [.one (.d (.sl (.int .u64))), .one (.d (.sl (.int .u64))), .one (.d (.int .i64)), .one (.d (.int .i64))], 0⟩
noncomputable def tx_validMarks_Q2 (o : tx_validMarks_O) (nx1 : HL TB.den tx_validMarks_T1.hs → Prop) : Exit → TSt TB.den → Prop := thenT TB (fun s => tx_validMarks_T1.mat TB 0 s nx1) (blockT TB 0 (tx_validMarks_Q1 o))
noncomputable def tx_validMarks_L1 (o : tx_validMarks_O) (nx1 : HL TB.den tx_validMarks_T1.hs → Prop) (i : HL TB.den tx_validMarks_T1.hs) : Prop := WP TB tx_validMarks_cx 25 0 (cA (cA (cB (cA (cB (cB tx_validMarks_code)))))) .no (tx_validMarks_T1.fill TB i) (tx_validMarks_Q2 o nx1)
noncomputable def tx_validMarks_A5 (o : tx_validMarks_O) : An TB := .nd [] .no [] (.lp [] tx_validMarks_T1 (tx_validMarks_L1 o) fun nx1 => .no)
noncomputable def tx_validMarks_an (o : tx_validMarks_O) : An TB := .nd [] .no [] (.nd [] .no [] (.nd [] (tx_validMarks_A5 o) [] .no))
noncomputable def tx_validMarks_Body (x : tx_validMarks_I) (o : tx_validMarks_O) : Prop := WPh TB tx_validMarks_cx 25 0 tx_validMarks_code (tx_validMarks_an o) (tx_validMarks_sh.st TB x) (retTQ TB tx_validMarks_cx tx_validMarks_sh tx_validMarks_rs o)
set_option maxRecDepth 100000 in
theorem tx_validMarks_obl (o : tx_validMarks_O) : OblH TB tx_validMarks_cx 25 0 tx_validMarks_code (tx_validMarks_an o) (retTQ TB tx_validMarks_cx tx_validMarks_sh tx_validMarks_rs o) :=
  OblH.of_eq (X := (True ∧ ((True ∧ ((True ∧ True) ∧ True)) ∧ ((True ∧ ((∀ nx i, (tx_validMarks_L1 o) nx i = (tx_validMarks_L1 o) nx i) ∧ ∀ nx1 : HL TB.den tx_validMarks_T1.hs → Prop, (True ∧ ((True ∧ True) ∧ ((True ∧ (True ∧ ((True ∧ True) ∧ True))) ∧ True))))) ∧ (True ∧ True))))) (by kernel_rfl) ⟨trivial, ⟨⟨trivial, ⟨⟨trivial, trivial⟩, trivial⟩⟩, ⟨⟨trivial, ⟨fun _ _ => rfl, fun _ => ⟨trivial, ⟨⟨trivial, trivial⟩, ⟨⟨trivial, ⟨trivial, ⟨⟨trivial, trivial⟩, trivial⟩⟩⟩, trivial⟩⟩⟩⟩⟩, ⟨trivial, trivial⟩⟩⟩⟩
set_option maxRecDepth 100000 in
theorem tx_validMarks_snd {x : tx_validMarks_I} {o : tx_validMarks_O} (h : tx_validMarks_Body x o) : SoundH Try.prog tx_validMarks_sh.f ((tx_validMarks_sh.args idf x).map (er TB)) ((tx_validMarks_sh.obs idf x).map (erO TB)) (er TB (tx_validMarks_sh.val idf o)) ((tx_validMarks_sh.ops idf o).map (erO TB)) :=
  Con.soundH (c := tx_validMarks_sh) (C := tx_validMarks_cx) TBok ⟨inf_ok, (all_cons slices_Contains_ok all_nil), all_nil⟩ mix Try.func29 (show Try.f29.body = some tx_validMarks_code by kernel_rfl) (show Try.f29.ntmps = 25 by kernel_rfl) (show Try.f29.results.toList = tx_validMarks_rs by kernel_rfl) rfl h (tx_validMarks_obl o)
set_option maxRecDepth 100000 in
theorem tx_validMarks_in {p0 : List Int} {r0 : Bool} (h :
((decide (4 < (p0.length : Int)) = true →
 false = r0) ∧
(decide (4 < (p0.length : Int)) = false →
 Md.Loop (p0, p0, ((p0.length : Int) : Int), (0 : Int), ()) (tx_validMarks_L1 (r0, ()))))) : tx_validMarks_Body (p0, ()) (r0, ()) := WPh.of_eq (by kernel_rfl) h
def tx_validMarks_B1 (r0 : Bool) (k1 : Int → Prop) (s0 : List Int) (s8 : List Int) (s9 : Int) (s10 : Int) : Prop :=
(decide (s10 < s9) = true →
(0 ≤ s10) ∧ s10 < (s8.length : Int) ∧ let v1 : Bool := decide (18446744069414584321 ≤ (ix s8 s10))
(v1 = true →
 false = r0) ∧
(v1 = false →
(0 ≤ s10) ∧ s10 ≤ (s0.length : Int) ∧ ((s0.take s10.toNat).length ≤ 9223372036854775807) ∧ let r2 : Bool := decide ((ix s8 s10) ∈ (s0.take s10.toNat))
(r2 = true →
 false = r0) ∧
(r2 = false →
 k1 (IntKind.i64.wrap (s10 + 1) : Int)))) ∧
(decide (s10 < s9) = false →
 true = r0)
set_option maxRecDepth 100000 in
theorem tx_validMarks_lp1 {r0 : Bool} {s0 : List Int} {s8 : List Int} {s9 : Int} {s10 : Int} (inv : Int → Prop) (μ : Int → Nat) (h0 : inv s10) (hs : ∀ (s10 : Int), inv s10 → tx_validMarks_B1 r0 (fun s10q => inv s10q ∧ μ s10q < μ s10) s0 s8 s9 s10) : Md.Loop (s0, s8, s9, s10, ()) (tx_validMarks_L1 (r0, ())) :=
  ⟨⟨fun s : (List Int) × (List Int) × Int × Int × Unit => (s.1 = s0 ∧ s.2.1 = s8 ∧ s.2.2.1 = s9) ∧ inv s.2.2.2.1, fun s : (List Int) × (List Int) × Int × Int × Unit => μ s.2.2.2.1, ⟨⟨rfl, rfl, rfl⟩, h0⟩, fun (s0p, s8p, s9p, s10p, ()) ⟨⟨eq0, eq1, eq2⟩, hi⟩ => by
    have eq0 : s0p = s0 := eq0; subst s0p; have eq1 : s8p = s8 := eq1; subst s8p; have eq2 : s9p = s9 := eq2; subst s9p; exact mpr_of (by kernel_rfl) ((congrArg (fun k => tx_validMarks_B1 r0 k s0 s8 s9 s10p) (lpk1 (⟨rfl, rfl, rfl⟩ : s0 = s0 ∧ s8 = s8 ∧ s9 = s9) inv (fun s10q => μ s10q < μ s10p))).mpr (hs s10p hi))⟩⟩
theorem bd29 : Callable Try.prog 29 := ⟨by rw [Try.func29]; kernel_rfl, by rw [Try.func29]; show some _ ≠ some _; decide⟩
theorem tx_validMarks_body (p0 : List Int) : tx_validMarks_Body (p0, ()) ((vMarks p0 : Bool), ()) := by
  refine tx_validMarks_in ⟨fun h => ?_, fun h => ?_⟩
  · have h := of_decide_eq_true h
    unfold vMarks
    rw [decide_eq_false (by omega)]
    rfl
  · have h := of_decide_eq_false h
    refine tx_validMarks_lp1 (fun i => 0 ≤ i ∧ i ≤ p0.length ∧ (∀ x ∈ p0.take i.toNat, x < 18446744069414584321) ∧ (p0.take i.toNat).Nodup) (fun i => (p0.length - i).toNat) ⟨by omega, by omega, by simp, by simp⟩ ?_
    rintro i ⟨g0, g1, g2, g3⟩
    refine ⟨fun hh => ?_, fun hh => ?_⟩
    · have hh := of_decide_eq_true hh
      have hm := ix_mem p0 i g0 hh
      refine ⟨g0, hh, fun e => ?_, fun e => ⟨g0, by omega, by simp; omega, fun e2 => ?_, fun e2 => ?_⟩⟩
      · have e := of_decide_eq_true e
        unfold vMarks
        have : p0.all (fun x => decide (x < 18446744069414584321)) = false := List.all_eq_false.2 ⟨_, hm, by simp; omega⟩
        rw [this]
        simp
      · have e2 := of_decide_eq_true e2
        unfold vMarks
        have : ¬ p0.Nodup := by
          intro hn
          rw [← List.take_append_drop i.toNat p0, drop_ix p0 i g0 hh] at hn
          have := (List.nodup_append.1 hn).2.2 _ e2 _ (List.mem_cons_self ..)
          exact this rfl
        rw [decide_eq_false this]
        simp
      · have e := of_decide_eq_false e
        have e2 := of_decide_eq_false e2
        rw [inc i p0.length g0 hh (by omega)]
        refine ⟨⟨by omega, by omega, ?_, ?_⟩, by omega⟩
        · rw [take_succ_ix p0 i g0 hh]
          intro x hx
          rcases List.mem_append.1 hx with hx | hx
          · exact g2 x hx
          · have : x = ix p0 i := by simpa using hx
            omega
        · rw [take_succ_ix p0 i g0 hh]
          refine List.nodup_append.2 ⟨g3, by simp, fun a ha b hb => ?_⟩
          have : b = ix p0 i := by simpa using hb
          rintro rfl
          exact e2 (this ▸ ha)
    · have hh := of_decide_eq_false hh
      rw [List.take_of_length_le (by omega)] at g2 g3
      unfold vMarks
      have : p0.all (fun x => decide (x < 18446744069414584321)) = true := by simpa using g2
      rw [this, decide_eq_true g3, decide_eq_true (by omega)]
      rfl
noncomputable def tx_validMarks_con : Con TB.den := tx_validMarks_sh.totR fun x => ((fun (p0 : List Int) => (vMarks p0 : Bool)) x.1, ())
theorem tx_validMarks_ok : tx_validMarks_con.Ok Try.prog TB := Con.ok_tot tx_validMarks_sh bd29 fun x => tx_validMarks_snd (tx_validMarks_body x.1)
end Go.Proofs.Ytdbnagpoknmoiaa
namespace Go.Proofs.Ytdbnagpoknmoiaa
open Go Go.Bv Go.Cv Go.Md Go.RowKit
def group_Valid_sh : Con TB.den := Con.mk0 54 [.agg [.d (.int .u64), .d (.int .u64)]] [] (.one (.one (.d (.bool)))) []
abbrev group_Valid_I := HL TB.den (hsT group_Valid_sh.ins (hsOs group_Valid_sh.pre))
abbrev group_Valid_O := HL TB.den (hsV group_Valid_sh.res (hsOs group_Valid_sh.post))
noncomputable def group_Valid_cx : Cx TB := ⟨inf, [], [], 4⟩
noncomputable def group_Valid_code : Code := Try.f54.body.getD .skip
noncomputable def group_Valid_rs : List ResultVar := Try.f54.results.toList
noncomputable def group_Valid_an (o : group_Valid_O) : An TB := .no
noncomputable def group_Valid_Body (x : group_Valid_I) (o : group_Valid_O) : Prop := WPh TB group_Valid_cx 21 0 group_Valid_code (group_Valid_an o) (group_Valid_sh.st TB x) (retTQ TB group_Valid_cx group_Valid_sh group_Valid_rs o)
set_option maxRecDepth 100000 in
theorem group_Valid_obl (o : group_Valid_O) : OblH TB group_Valid_cx 21 0 group_Valid_code (group_Valid_an o) (retTQ TB group_Valid_cx group_Valid_sh group_Valid_rs o) :=
  OblH.of_eq (X := (True ∧ (True ∧ True))) (by kernel_rfl) ⟨trivial, ⟨trivial, trivial⟩⟩
set_option maxRecDepth 100000 in
theorem group_Valid_snd {x : group_Valid_I} {o : group_Valid_O} (h : group_Valid_Body x o) : SoundH Try.prog group_Valid_sh.f ((group_Valid_sh.args idf x).map (er TB)) ((group_Valid_sh.obs idf x).map (erO TB)) (er TB (group_Valid_sh.val idf o)) ((group_Valid_sh.ops idf o).map (erO TB)) :=
  Con.soundH (c := group_Valid_sh) (C := group_Valid_cx) TBok ⟨inf_ok, all_nil, all_nil⟩ mix Try.func54 (show Try.f54.body = some group_Valid_code by kernel_rfl) (show Try.f54.ntmps = 21 by kernel_rfl) (show Try.f54.results.toList = group_Valid_rs by kernel_rfl) rfl h (group_Valid_obl o)
set_option maxRecDepth 100000 in
theorem group_Valid_in {p0 : TA2} {r0 : Bool} (h :
((decide (p0.a0 < 18446744069414584321) = true →
(decide (p0.a1 < 18446744069414584321) = true →
((p0.a0 != 0) = true →
 true = r0) ∧
((p0.a0 != 0) = false →
(p0.a1 != 0) = r0)) ∧
(decide (p0.a1 < 18446744069414584321) = false →
 false = r0)) ∧
(decide (p0.a0 < 18446744069414584321) = false →
 false = r0))) : group_Valid_Body (p0.a0, p0.a1, ()) (r0, ()) := WPh.of_eq (by kernel_rfl) h
theorem bd54 : Callable Try.prog 54 := ⟨by rw [Try.func54]; kernel_rfl, by rw [Try.func54]; show some _ ≠ some _; decide⟩
theorem group_Valid_body (p0 : TA2) : group_Valid_Body (p0.a0, p0.a1, ()) ((vPoint p0.a0 p0.a1 : Bool), ()) := by
  refine group_Valid_in ?_
  unfold vPoint
  refine ⟨fun h => ⟨fun h1 => ⟨fun h2 => ?_, fun h2 => ?_⟩, fun h1 => ?_⟩, fun h => ?_⟩ <;> simp_all <;> omega
noncomputable def group_Valid_con : Con TB.den := group_Valid_sh.totR fun x => ((fun (p0 : TA2) => (vPoint p0.a0 p0.a1 : Bool)) (TA2.mk x.1 x.2.1), ())
theorem group_Valid_ok : group_Valid_con.Ok Try.prog TB := Con.ok_tot group_Valid_sh bd54 fun x => group_Valid_snd (group_Valid_body (TA2.mk x.1 x.2.1))
end Go.Proofs.Ytdbnagpoknmoiaa
namespace Go.Proofs.Ytdbnagpoknmoiaa
open Go Go.Bv Go.Cv Go.Md Go.RowKit
def tx_validOuts_sh : Con TB.den := Con.mk0 30 [.one (.d (.sl (.st 0)))] [] (.one (.one (.d (.bool)))) []
abbrev tx_validOuts_I := HL TB.den (hsT tx_validOuts_sh.ins (hsOs tx_validOuts_sh.pre))
abbrev tx_validOuts_O := HL TB.den (hsV tx_validOuts_sh.res (hsOs tx_validOuts_sh.post))
noncomputable def tx_validOuts_cx : Cx TB := ⟨inf, [group_Valid_con], [], 4⟩
noncomputable def tx_validOuts_code : Code := Try.f30.body.getD .skip
noncomputable def tx_validOuts_rs : List ResultVar := Try.f30.results.toList
noncomputable def tx_validOuts_Q1 (o : tx_validOuts_O) : Exit → TSt TB.den → Prop := thenT TB (fun s => ghs TB [] s fun s => WP TB tx_validOuts_cx 42 0 (cB (cB (cB tx_validOuts_code))) .no s (retTQ TB tx_validOuts_cx tx_validOuts_sh tx_validOuts_rs o)) (retTQ TB tx_validOuts_cx tx_validOuts_sh tx_validOuts_rs o)
def tx_validOuts_T2 : Tm := ⟨[], [], [10, 11, 12], [.one (.d (.sl (.st 0))), .one (.d (.int .i64)), .one (.d (.int .i64))], 0⟩
noncomputable def tx_validOuts_Q2 (o : tx_validOuts_O) (nx2 : HL TB.den tx_validOuts_T2.hs → Prop) : Exit → TSt TB.den → Prop := thenT TB (fun s => tx_validOuts_T2.mat TB 0 s nx2) (blockT TB 0 (tx_validOuts_Q1 o))
noncomputable def tx_validOuts_Q3 (o : tx_validOuts_O) (nx2 : HL TB.den tx_validOuts_T2.hs → Prop) : Exit → TSt TB.den → Prop := thenT TB (fun s => ghs TB [] s fun s => WP TB tx_validOuts_cx 42 0 (cB (cB (cB (cA (cA (cB (cA (cB (cB tx_validOuts_code))))))))) .no s (tx_validOuts_Q2 o nx2)) (tx_validOuts_Q2 o nx2)
def tx_validOuts_T1 : Tm := ⟨[0], [.cells [.d (.int .u64), .d (.int .u64), .d (.int .u64), .d (.sl (.int .u64))]], [10, 11, 12, 20, 21, 22, 23, 26, 27, 28, 29, 32, 33, 34], [.one (.d (.sl (.st 0))), .one (.d (.int .i64)), .one (.d (.int .i64)), .one (.ptr 0 1), .agg [.d (.int .u64), .d (.int .u64)], .one (.d (.bool)), .one (.d (.bool)), .one (.ptr 0 3), .one (.d (.sl (.int .u64))), .one (.d (.int .i64)), .one (.d (.bool)), .one (.d (.sl (.int .u64))), .one (.d (.int .i64)), .one (.d (.int .i64))], 1⟩
noncomputable def tx_validOuts_Q4 (o : tx_validOuts_O) (nx2 : HL TB.den tx_validOuts_T2.hs → Prop) (nx1 : HL TB.den tx_validOuts_T1.hs → Prop) : Exit → TSt TB.den → Prop := thenT TB (fun s => tx_validOuts_T1.mat TB 0 s nx1) (blockT TB 2 (blockT TB 1 (tx_validOuts_Q3 o nx2)))
noncomputable def tx_validOuts_L1 (o : tx_validOuts_O) (nx2 : HL TB.den tx_validOuts_T2.hs → Prop) (nx1 : HL TB.den tx_validOuts_T1.hs → Prop) (i : HL TB.den tx_validOuts_T1.hs) : Prop := WP TB tx_validOuts_cx 42 0 (cA (cA (cB (cB (cB (cA (cA (cB (cB (cA (cA (cB (cA (cB (cB tx_validOuts_code))))))))))))))) .no (tx_validOuts_T1.fill TB i) (tx_validOuts_Q4 o nx2 nx1)
noncomputable def tx_validOuts_A7 (o : tx_validOuts_O) (nx2 : HL TB.den tx_validOuts_T2.hs → Prop) : An TB := .lp [] tx_validOuts_T1 (tx_validOuts_L1 o nx2) fun nx1 => .no
noncomputable def tx_validOuts_A9 (o : tx_validOuts_O) (nx2 : HL TB.den tx_validOuts_T2.hs → Prop) : An TB := .nd [] .no [] (.nd [] .no [] (.nd [] .no [] (tx_validOuts_A7 o nx2)))
noncomputable def tx_validOuts_A11 (o : tx_validOuts_O) (nx2 : HL TB.den tx_validOuts_T2.hs → Prop) : An TB := .nd [] .no [] (.nd [] .no [] (.nd [] (tx_validOuts_A9 o nx2) [] .no))
noncomputable def tx_validOuts_L2 (o : tx_validOuts_O) (nx2 : HL TB.den tx_validOuts_T2.hs → Prop) (i : HL TB.den tx_validOuts_T2.hs) : Prop := WP TB tx_validOuts_cx 42 0 (cA (cA (cB (cA (cB (cB tx_validOuts_code)))))) (tx_validOuts_A11 o nx2) (tx_validOuts_T2.fill TB i) (tx_validOuts_Q2 o nx2)
noncomputable def tx_validOuts_A12 (o : tx_validOuts_O) : An TB := .lp [] tx_validOuts_T2 (tx_validOuts_L2 o) fun nx2 => (tx_validOuts_A11 o nx2)
noncomputable def tx_validOuts_A14 (o : tx_validOuts_O) : An TB := .nd [] .no [] (.nd [] (.nd [] .no [] (tx_validOuts_A12 o)) [] .no)
noncomputable def tx_validOuts_an (o : tx_validOuts_O) : An TB := .nd [] .no [] (tx_validOuts_A14 o)
noncomputable def tx_validOuts_Body (x : tx_validOuts_I) (o : tx_validOuts_O) : Prop := WPh TB tx_validOuts_cx 42 0 tx_validOuts_code (tx_validOuts_an o) (tx_validOuts_sh.st TB x) (retTQ TB tx_validOuts_cx tx_validOuts_sh tx_validOuts_rs o)
set_option maxRecDepth 100000 in
theorem tx_validOuts_obl (o : tx_validOuts_O) : OblH TB tx_validOuts_cx 42 0 tx_validOuts_code (tx_validOuts_an o) (retTQ TB tx_validOuts_cx tx_validOuts_sh tx_validOuts_rs o) :=
  OblH.of_eq (X := (True ∧ ((True ∧ ((True ∧ True) ∧ True)) ∧ ((True ∧ ((∀ nx i, (tx_validOuts_L2 o) nx i = (tx_validOuts_L2 o) nx i) ∧ ∀ nx2 : HL TB.den tx_validOuts_T2.hs → Prop, (True ∧ ((True ∧ True) ∧ ((True ∧ ((True ∧ ((True ∧ True) ∧ True)) ∧ (True ∧ ((∀ nx i, (tx_validOuts_L1 o nx2) nx i = (tx_validOuts_L1 o nx2) nx i) ∧ ∀ nx1 : HL TB.den tx_validOuts_T1.hs → Prop, (True ∧ ((True ∧ True) ∧ ((True ∧ (True ∧ ((True ∧ True) ∧ True))) ∧ True))))))) ∧ True))))) ∧ (True ∧ True))))) (by kernel_rfl) ⟨trivial, ⟨⟨trivial, ⟨⟨trivial, trivial⟩, trivial⟩⟩, ⟨⟨trivial, ⟨fun _ _ => rfl, fun _ => ⟨trivial, ⟨⟨trivial, trivial⟩, ⟨⟨trivial, ⟨⟨trivial, ⟨⟨trivial, trivial⟩, trivial⟩⟩, ⟨trivial, ⟨fun _ _ => rfl, fun _ => ⟨trivial, ⟨⟨trivial, trivial⟩, ⟨⟨trivial, ⟨trivial, ⟨⟨trivial, trivial⟩, trivial⟩⟩⟩, trivial⟩⟩⟩⟩⟩⟩⟩, trivial⟩⟩⟩⟩⟩, ⟨trivial, trivial⟩⟩⟩⟩
set_option maxRecDepth 100000 in
theorem tx_validOuts_snd {x : tx_validOuts_I} {o : tx_validOuts_O} (h : tx_validOuts_Body x o) : SoundH Try.prog tx_validOuts_sh.f ((tx_validOuts_sh.args idf x).map (er TB)) ((tx_validOuts_sh.obs idf x).map (erO TB)) (er TB (tx_validOuts_sh.val idf o)) ((tx_validOuts_sh.ops idf o).map (erO TB)) :=
  Con.soundH (c := tx_validOuts_sh) (C := tx_validOuts_cx) TBok ⟨inf_ok, (all_cons group_Valid_ok all_nil), all_nil⟩ mix Try.func30 (show Try.f30.body = some tx_validOuts_code by kernel_rfl) (show Try.f30.ntmps = 42 by kernel_rfl) (show Try.f30.results.toList = tx_validOuts_rs by kernel_rfl) rfl h (tx_validOuts_obl o)
set_option maxRecDepth 100000 in
theorem tx_validOuts_in {p0 : List TOut} {r0 : Bool} (h :
((decide (4 < (p0.length : Int)) = true →
 false = r0) ∧
(decide (4 < (p0.length : Int)) = false →
 Md.Loop (p0, ((p0.length : Int) : Int), (0 : Int), ()) (tx_validOuts_L2 (r0, ()))))) : tx_validOuts_Body (p0, ()) (r0, ()) := WPh.of_eq (by kernel_rfl) h
def tx_validOuts_B2 (r0 : Bool) (nx2 : HL TB.den tx_validOuts_T2.hs → Prop) (k2 : Int → Prop) (s10 : List TOut) (s11 : Int) (s12 : Int) : Prop :=
(decide (s12 < s11) = true →
(0 ≤ s12) ∧ s12 < (s10.length : Int) ∧ let v1 : Bool := decide (18446744069414584321 ≤ ((ix s10 s12).Commit))
(v1 = true →
 false = r0) ∧
(v1 = false →
 let r2 : Bool := vPoint (TA2.mk ((ix s10 s12).Point_a0) ((ix s10 s12).Point_a1)).a0 (TA2.mk ((ix s10 s12).Point_a0) ((ix s10 s12).Point_a1)).a1
((!r2) = true →
 false = r0) ∧
((!r2) = false →
 let v3 : Bool := ((((ix s10 s12).Cipher).length : Int) != 3)
(v3 = true →
 false = r0) ∧
(v3 = false →
 Md.Loop (s10, s11, s12, ((ix s10 s12).Point_a0 : Int), ((ix s10 s12).Point_a1 : Int), r2, ((!r2) : Bool), ((ix s10 s12).Cipher : List Int), ((((ix s10 s12).Cipher).length : Int) : Int), v3, ((ix s10 s12).Cipher : List Int), ((((ix s10 s12).Cipher).length : Int) : Int), (0 : Int), ((ix s10 s12).Commit : Int), ((ix s10 s12).Point_a0 : Int), ((ix s10 s12).Point_a1 : Int), ((ix s10 s12).Cipher : List Int), ()) (tx_validOuts_L1 (r0, ()) nx2))))) ∧
(decide (s12 < s11) = false →
 true = r0)
set_option maxRecDepth 100000 in
theorem tx_validOuts_lp2 {r0 : Bool} {s10 : List TOut} {s11 : Int} {s12 : Int} (inv : Int → Prop) (μ : Int → Nat) (h0 : inv s12) (hs : ∀ (s12 : Int), inv s12 → tx_validOuts_B2 r0 (fun s : (List TOut) × Int × Int × Unit => ((s.1 = s10 ∧ s.2.1 = s11) ∧ inv s.2.2.1) ∧ μ s.2.2.1 < μ s12) (fun s12q => inv s12q ∧ μ s12q < μ s12) s10 s11 s12) : Md.Loop (s10, s11, s12, ()) (tx_validOuts_L2 (r0, ())) :=
  ⟨⟨fun s : (List TOut) × Int × Int × Unit => (s.1 = s10 ∧ s.2.1 = s11) ∧ inv s.2.2.1, fun s : (List TOut) × Int × Int × Unit => μ s.2.2.1, ⟨⟨rfl, rfl⟩, h0⟩, fun (s10p, s11p, s12p, ()) ⟨⟨eq0, eq1⟩, hi⟩ => by
    have eq0 : s10p = s10 := eq0; subst s10p; have eq1 : s11p = s11 := eq1; subst s11p; exact mpr_of (by kernel_rfl) ((congrArg (fun k => tx_validOuts_B2 r0 (fun s : (List TOut) × Int × Int × Unit => ((s.1 = s10 ∧ s.2.1 = s11) ∧ inv s.2.2.1) ∧ μ s.2.2.1 < μ s12p) k s10 s11 s12p) (lpk1 (⟨rfl, rfl⟩ : s10 = s10 ∧ s11 = s11) inv (fun s12q => μ s12q < μ s12p))).mpr (hs s12p hi))⟩⟩
def tx_validOuts_B1 (r0 : Bool) (nx2 : HL TB.den tx_validOuts_T2.hs → Prop) (k1 : Int → Prop) (s10 : List TOut) (s11 : Int) (s12 : Int) (s21_0 : Int) (s21_1 : Int) (s22 : Bool) (s23 : Bool) (s27 : List Int) (s28 : Int) (s29 : Bool) (s32 : List Int) (s33 : Int) (h0_0 : Int) (h0_1 : Int) (h0_2 : Int) (h0_3 : List Int) (s34 : Int) : Prop :=
(decide (s34 < s33) = true →
(0 ≤ s34) ∧ s34 < (s32.length : Int) ∧ let v4 : Bool := decide (18446744069414584321 ≤ (ix s32 s34))
(v4 = true →
 false = r0) ∧
(v4 = false →
 k1 (IntKind.i64.wrap (s34 + 1) : Int))) ∧
(decide (s34 < s33) = false →
 nx2 (s10, s11, (IntKind.i64.wrap (s12 + 1) : Int), ()))
set_option maxRecDepth 100000 in
theorem tx_validOuts_lp1 {r0 : Bool} {nx2 : HL TB.den tx_validOuts_T2.hs → Prop} {s10 : List TOut} {s11 : Int} {s12 : Int} {s21_0 : Int} {s21_1 : Int} {s22 : Bool} {s23 : Bool} {s27 : List Int} {s28 : Int} {s29 : Bool} {s32 : List Int} {s33 : Int} {h0_0 : Int} {h0_1 : Int} {h0_2 : Int} {h0_3 : List Int} {s34 : Int} (inv : Int → Prop) (μ : Int → Nat) (h0 : inv s34) (hs : ∀ (s34 : Int), inv s34 → tx_validOuts_B1 r0 nx2 (fun s34q => inv s34q ∧ μ s34q < μ s34) s10 s11 s12 s21_0 s21_1 s22 s23 s27 s28 s29 s32 s33 h0_0 h0_1 h0_2 h0_3 s34) : Md.Loop (s10, s11, s12, s21_0, s21_1, s22, s23, s27, s28, s29, s32, s33, s34, h0_0, h0_1, h0_2, h0_3, ()) (tx_validOuts_L1 (r0, ()) nx2) :=
  ⟨⟨fun s : (List TOut) × Int × Int × Int × Int × Bool × Bool × (List Int) × Int × Bool × (List Int) × Int × Int × Int × Int × Int × (List Int) × Unit => (s.1 = s10 ∧ s.2.1 = s11 ∧ s.2.2.1 = s12 ∧ s.2.2.2.1 = s21_0 ∧ s.2.2.2.2.1 = s21_1 ∧ s.2.2.2.2.2.1 = s22 ∧ s.2.2.2.2.2.2.1 = s23 ∧ s.2.2.2.2.2.2.2.1 = s27 ∧ s.2.2.2.2.2.2.2.2.1 = s28 ∧ s.2.2.2.2.2.2.2.2.2.1 = s29 ∧ s.2.2.2.2.2.2.2.2.2.2.1 = s32 ∧ s.2.2.2.2.2.2.2.2.2.2.2.1 = s33 ∧ s.2.2.2.2.2.2.2.2.2.2.2.2.2.1 = h0_0 ∧ s.2.2.2.2.2.2.2.2.2.2.2.2.2.2.1 = h0_1 ∧ s.2.2.2.2.2.2.2.2.2.2.2.2.2.2.2.1 = h0_2 ∧ s.2.2.2.2.2.2.2.2.2.2.2.2.2.2.2.2.1 = h0_3) ∧ inv s.2.2.2.2.2.2.2.2.2.2.2.2.1, fun s : (List TOut) × Int × Int × Int × Int × Bool × Bool × (List Int) × Int × Bool × (List Int) × Int × Int × Int × Int × Int × (List Int) × Unit => μ s.2.2.2.2.2.2.2.2.2.2.2.2.1, ⟨⟨rfl, rfl, rfl, rfl, rfl, rfl, rfl, rfl, rfl, rfl, rfl, rfl, rfl, rfl, rfl, rfl⟩, h0⟩, fun (s10p, s11p, s12p, s21_0p, s21_1p, s22p, s23p, s27p, s28p, s29p, s32p, s33p, s34p, h0_0p, h0_1p, h0_2p, h0_3p, ()) ⟨⟨eq0, eq1, eq2, eq3, eq4, eq5, eq6, eq7, eq8, eq9, eq10, eq11, eq12, eq13, eq14, eq15⟩, hi⟩ => by
    have eq0 : s10p = s10 := eq0; subst s10p; have eq1 : s11p = s11 := eq1; subst s11p; have eq2 : s12p = s12 := eq2; subst s12p; have eq3 : s21_0p = s21_0 := eq3; subst s21_0p; have eq4 : s21_1p = s21_1 := eq4; subst s21_1p; have eq5 : s22p = s22 := eq5; subst s22p; have eq6 : s23p = s23 := eq6; subst s23p; have eq7 : s27p = s27 := eq7; subst s27p; have eq8 : s28p = s28 := eq8; subst s28p; have eq9 : s29p = s29 := eq9; subst s29p; have eq10 : s32p = s32 := eq10; subst s32p; have eq11 : s33p = s33 := eq11; subst s33p; have eq12 : h0_0p = h0_0 := eq12; subst h0_0p; have eq13 : h0_1p = h0_1 := eq13; subst h0_1p; have eq14 : h0_2p = h0_2 := eq14; subst h0_2p; have eq15 : h0_3p = h0_3 := eq15; subst h0_3p; exact mpr_of (by kernel_rfl) ((congrArg (fun k => tx_validOuts_B1 r0 nx2 k s10 s11 s12 s21_0 s21_1 s22 s23 s27 s28 s29 s32 s33 h0_0 h0_1 h0_2 h0_3 s34p) (lpk1 (⟨rfl, rfl, rfl, rfl, rfl, rfl, rfl, rfl, rfl, rfl, rfl, rfl, rfl, rfl, rfl, rfl⟩ : s10 = s10 ∧ s11 = s11 ∧ s12 = s12 ∧ s21_0 = s21_0 ∧ s21_1 = s21_1 ∧ s22 = s22 ∧ s23 = s23 ∧ s27 = s27 ∧ s28 = s28 ∧ s29 = s29 ∧ s32 = s32 ∧ s33 = s33 ∧ h0_0 = h0_0 ∧ h0_1 = h0_1 ∧ h0_2 = h0_2 ∧ h0_3 = h0_3) inv (fun s34q => μ s34q < μ s34p))).mpr (hs s34p hi))⟩⟩
theorem bd30 : Callable Try.prog 30 := ⟨by rw [Try.func30]; kernel_rfl, by rw [Try.func30]; show some _ ≠ some _; decide⟩
theorem tx_validOuts_body (p0 : List TOut) : tx_validOuts_Body (p0, ()) ((vOuts p0 : Bool), ()) := by
  refine tx_validOuts_in ⟨fun h => ?_, fun h => ?_⟩
  · have h := of_decide_eq_true h
    unfold vOuts
    rw [decide_eq_false (by omega)]
    rfl
  · have h := of_decide_eq_false h
    have bad : ∀ i, 0 ≤ i → i < (p0.length : Int) → vOut (ix p0 i) = false → false = vOuts p0 := by
      intro i h0 h1 hb
      unfold vOuts
      have : p0.all vOut = false := List.all_eq_false.2 ⟨_, ix_mem p0 i h0 h1, by simp [hb]⟩
      rw [this]
      simp
    refine tx_validOuts_lp2 (fun i => 0 ≤ i ∧ i ≤ p0.length ∧ ∀ x ∈ p0.take i.toNat, vOut x = true) (fun i => (p0.length - i).toNat) ⟨by omega, by omega, by simp⟩ ?_
    rintro i ⟨g0, g1, g2⟩
    refine ⟨fun hh => ?_, fun hh => ?_⟩
    · have hh := of_decide_eq_true hh
      have bd := bad i g0 hh
      unfold vOut at bd
      refine ⟨g0, hh, fun e => bd ?_, fun e => ⟨fun e2 => bd ?_, fun e2 => ⟨fun e3 => bd ?_, fun e3 => ?_⟩⟩⟩
      · have e := of_decide_eq_true e
        rw [decide_eq_false (by omega)]
        rfl
      · have e2 : vPoint (ix p0 i).Point_a0 (ix p0 i).Point_a1 = false := by simpa using e2
        simp [e2]
      · have e3 : ¬ (ix p0 i).Cipher.length = 3 := by
          have : ¬ ((ix p0 i).Cipher.length : Int) = 3 := by simpa using e3
          omega
        simp [e3]
      · have e := of_decide_eq_false e
        have e2 : vPoint (ix p0 i).Point_a0 (ix p0 i).Point_a1 = true := by simpa using e2
        have e3 : (ix p0 i).Cipher.length = 3 := by
          have : ((ix p0 i).Cipher.length : Int) = 3 := by simpa using e3
          omega
        refine tx_validOuts_lp1 (fun k => 0 ≤ k ∧ k ≤ 3 ∧ ∀ x ∈ (ix p0 i).Cipher.take k.toNat, x < 18446744069414584321) (fun k => (3 - k).toNat) ⟨by omega, by omega, by simp⟩ ?_
        rintro k ⟨k0, k1, k2⟩
        refine ⟨fun hk => ?_, fun hk => ?_⟩
        · have hk := of_decide_eq_true hk
          refine ⟨k0, hk, fun e4 => bd ?_, fun e4 => ?_⟩
          · have e4 := of_decide_eq_true e4
            have : (ix p0 i).Cipher.all (fun n => decide (n < 18446744069414584321)) = false := List.all_eq_false.2 ⟨_, ix_mem _ k k0 hk, by simp; omega⟩
            rw [this]
            simp
          · have e4 := of_decide_eq_false e4
            rw [inc k 3 k0 (by omega) (by omega)]
            refine ⟨⟨by omega, by omega, ?_⟩, by omega⟩
            rw [take_succ_ix _ k k0 hk]
            intro x hx
            rcases List.mem_append.1 hx with hx | hx
            · exact k2 x hx
            · have : x = ix (ix p0 i).Cipher k := by simpa using hx
              omega
        · have hk := of_decide_eq_false hk
          rw [List.take_of_length_le (by omega)] at k2
          have hv : vOut (ix p0 i) = true := (vOut_iff _).2 ⟨by omega, e2, e3, k2⟩
          have hi := inc i p0.length g0 hh (by omega)
          rw [hi]
          have nxt : (0 ≤ i + 1 ∧ i + 1 ≤ p0.length ∧ ∀ x ∈ p0.take (i + 1).toNat, vOut x = true) ∧ (p0.length - (i + 1)).toNat < (p0.length - i).toNat := by
            refine ⟨⟨by omega, by omega, ?_⟩, by omega⟩
            rw [take_succ_ix p0 i g0 hh]
            intro x hx
            rcases List.mem_append.1 hx with hx | hx
            · exact g2 x hx
            · have : x = ix p0 i := by simpa using hx
              rw [this]; exact hv
          exact ⟨⟨⟨rfl, rfl⟩, nxt.1⟩, nxt.2⟩
    · have hh := of_decide_eq_false hh
      rw [List.take_of_length_le (by omega)] at g2
      unfold vOuts
      have : p0.all vOut = true := by simpa using g2
      rw [this, decide_eq_true (by omega)]
      rfl
noncomputable def tx_validOuts_con : Con TB.den := tx_validOuts_sh.totR fun x => ((fun (p0 : List TOut) => (vOuts p0 : Bool)) x.1, ())
theorem tx_validOuts_ok : tx_validOuts_con.Ok Try.prog TB := Con.ok_tot tx_validOuts_sh bd30 fun x => tx_validOuts_snd (tx_validOuts_body x.1)
end Go.Proofs.Ytdbnagpoknmoiaa
namespace Go.Proofs.Ytdbnagpoknmoiaa
open Go Go.Bv Go.Cv Go.Md Go.RowKit
def tx_Valid_sh : Con TB.den := Con.mk0 12 [.agg [.d (.int .u64), .d (.sl (.int .u64)), .d (.sl (.st 0)), .d (.int .u64), .d (.int .u64), .d (.int .u64), .d (.int .u64), .d (.int .u64), .d (.int .i64), .d (.sl (.int .u8))]] [] (.one (.one (.d (.int .i64)))) []
abbrev tx_Valid_I := HL TB.den (hsT tx_Valid_sh.ins (hsOs tx_Valid_sh.pre))
abbrev tx_Valid_O := HL TB.den (hsV tx_Valid_sh.res (hsOs tx_Valid_sh.post))
noncomputable def tx_Valid_cx : Cx TB := ⟨inf, [tx_validMarks_con, tx_validOuts_con, tx_validAmounts_con], [], 4⟩
noncomputable def tx_Valid_code : Code := Try.f12.body.getD .skip
noncomputable def tx_Valid_rs : List ResultVar := Try.f12.results.toList
noncomputable def tx_Valid_an (o : tx_Valid_O) : An TB := .no
noncomputable def tx_Valid_Body (x : tx_Valid_I) (o : tx_Valid_O) : Prop := WPh TB tx_Valid_cx 35 0 tx_Valid_code (tx_Valid_an o) (tx_Valid_sh.st TB x) (retTQ TB tx_Valid_cx tx_Valid_sh tx_Valid_rs o)
set_option maxRecDepth 100000 in
theorem tx_Valid_obl (o : tx_Valid_O) : OblH TB tx_Valid_cx 35 0 tx_Valid_code (tx_Valid_an o) (retTQ TB tx_Valid_cx tx_Valid_sh tx_Valid_rs o) :=
  OblH.of_eq (X := (True ∧ ((True ∧ ((True ∧ True) ∧ True)) ∧ ((True ∧ ((True ∧ True) ∧ True)) ∧ ((True ∧ ((True ∧ True) ∧ True)) ∧ (True ∧ True)))))) (by kernel_rfl) ⟨trivial, ⟨⟨trivial, ⟨⟨trivial, trivial⟩, trivial⟩⟩, ⟨⟨trivial, ⟨⟨trivial, trivial⟩, trivial⟩⟩, ⟨⟨trivial, ⟨⟨trivial, trivial⟩, trivial⟩⟩, ⟨trivial, trivial⟩⟩⟩⟩⟩
set_option maxRecDepth 100000 in
theorem tx_Valid_snd {x : tx_Valid_I} {o : tx_Valid_O} (h : tx_Valid_Body x o) : SoundH Try.prog tx_Valid_sh.f ((tx_Valid_sh.args idf x).map (er TB)) ((tx_Valid_sh.obs idf x).map (erO TB)) (er TB (tx_Valid_sh.val idf o)) ((tx_Valid_sh.ops idf o).map (erO TB)) :=
  Con.soundH (c := tx_Valid_sh) (C := tx_Valid_cx) TBok ⟨inf_ok, (all_cons tx_validMarks_ok (all_cons tx_validOuts_ok (all_cons tx_validAmounts_ok all_nil))), all_nil⟩ mix Try.func12 (show Try.f12.body = some tx_Valid_code by kernel_rfl) (show Try.f12.ntmps = 35 by kernel_rfl) (show Try.f12.results.toList = tx_Valid_rs by kernel_rfl) rfl h (tx_Valid_obl o)
set_option maxRecDepth 100000 in
theorem tx_Valid_in {p0 : TTx} {r0 : Int} (h :
(((!vMarks p0.Marks) = true →
 1 = r0) ∧
((!vMarks p0.Marks) = false →
((!vOuts p0.Outs) = true →
 1 = r0) ∧
((!vOuts p0.Outs) = false →
((!vAmounts p0) = true →
 1 = r0) ∧
((!vAmounts p0) = false →
 let v1 : Bool := decide (18446744069414584321 ≤ p0.Anchor)
(v1 = true →
 1 = r0) ∧
(v1 = false →
(decide (p0.Expiry < 0) = true →
 1 = r0) ∧
(decide (p0.Expiry < 0) = false →
(decide (1048576 < p0.Expiry) = true →
 1 = r0) ∧
(decide (1048576 < p0.Expiry) = false →
 let v2 : Bool := decide (1048576 < (p0.Proof.length : Int))
(v2 = true →
 3 = r0) ∧
(v2 = false →
 0 = r0))))))))) : tx_Valid_Body (p0.Anchor, p0.Marks, p0.Outs, p0.Deposit, p0.Withdraw, p0.Fee, p0.Account, p0.Nonce, p0.Expiry, p0.Proof, ()) (r0, ()) := WPh.of_eq (by kernel_rfl) h
theorem bd12 : Callable Try.prog 12 := ⟨by rw [Try.func12]; kernel_rfl, by rw [Try.func12]; show some _ ≠ some _; decide⟩
theorem tx_Valid_body (p0 : TTx) : tx_Valid_Body (p0.Anchor, p0.Marks, p0.Outs, p0.Deposit, p0.Withdraw, p0.Fee, p0.Account, p0.Nonce, p0.Expiry, p0.Proof, ()) ((validE p0 : Int), ()) := by
  refine tx_Valid_in ?_
  unfold validE vRest
  grind
noncomputable def tx_Valid_con : Con TB.den := tx_Valid_sh.totR fun x => ((fun (p0 : TTx) => (validE p0 : Int)) (TTx.mk x.1 x.2.1 x.2.2.1 x.2.2.2.1 x.2.2.2.2.1 x.2.2.2.2.2.1 x.2.2.2.2.2.2.1 x.2.2.2.2.2.2.2.1 x.2.2.2.2.2.2.2.2.1 x.2.2.2.2.2.2.2.2.2.1), ())
theorem tx_Valid_ok : tx_Valid_con.Ok Try.prog TB := Con.ok_tot tx_Valid_sh bd12 fun x => tx_Valid_snd (tx_Valid_body (TTx.mk x.1 x.2.1 x.2.2.1 x.2.2.2.1 x.2.2.2.2.1 x.2.2.2.2.2.1 x.2.2.2.2.2.2.1 x.2.2.2.2.2.2.2.1 x.2.2.2.2.2.2.2.2.1 x.2.2.2.2.2.2.2.2.2.1))
end Go.Proofs.Ytdbnagpoknmoiaa
namespace Go.Proofs.Ytdbnagpoknmoiaa
open Go Go.Bv Go.Cv Go.Md Go.RowKit
def wire_appendDigits_sh : Con TB.den := Con.mk0 65 [.one (.own 0), .one (.d (.int .u64)), .one (.d (.int .i64))] [.tip (.int .u8)] (.one (.one (.own 0))) [.tip (.int .u8)]
abbrev wire_appendDigits_I := HL TB.den (hsT wire_appendDigits_sh.ins (hsOs wire_appendDigits_sh.pre))
abbrev wire_appendDigits_O := HL TB.den (hsV wire_appendDigits_sh.res (hsOs wire_appendDigits_sh.post))
noncomputable def wire_appendDigits_cx : Cx TB := ⟨inf, [], [], 4⟩
noncomputable def wire_appendDigits_code : Code := Try.f65.body.getD .skip
noncomputable def wire_appendDigits_rs : List ResultVar := Try.f65.results.toList
noncomputable def wire_appendDigits_Q1 (o : wire_appendDigits_O) : Exit → TSt TB.den → Prop := thenT TB (fun s => ghs TB [] s fun s => WP TB wire_appendDigits_cx 19 1 (cB (cB wire_appendDigits_code)) .no s (retTQ TB wire_appendDigits_cx wire_appendDigits_sh wire_appendDigits_rs o)) (retTQ TB wire_appendDigits_cx wire_appendDigits_sh wire_appendDigits_rs o)
def wire_appendDigits_T1 : Tm := ⟨[0], [.tip (.int .u8)], [0, 1, 7, 8], [.one (.own 0), .one (.d (.int .u64)), .one (.d (.int .i64)), .one (.d (.int .i64))], 1⟩
noncomputable def wire_appendDigits_Q2 (o : wire_appendDigits_O) (nx1 : HL TB.den wire_appendDigits_T1.hs → Prop) : Exit → TSt TB.den → Prop := thenT TB (fun s => wire_appendDigits_T1.mat TB 1 s nx1) (blockT TB 0 (wire_appendDigits_Q1 o))
noncomputable def wire_appendDigits_L1 (o : wire_appendDigits_O) (nx1 : HL TB.den wire_appendDigits_T1.hs → Prop) (i : HL TB.den wire_appendDigits_T1.hs) : Prop := WP TB wire_appendDigits_cx 19 1 (cA (cA (cB (cA (cB wire_appendDigits_code))))) .no (wire_appendDigits_T1.fill TB i) (wire_appendDigits_Q2 o nx1)
noncomputable def wire_appendDigits_A5 (o : wire_appendDigits_O) : An TB := .lp [] wire_appendDigits_T1 (wire_appendDigits_L1 o) fun nx1 => .no
noncomputable def wire_appendDigits_an (o : wire_appendDigits_O) : An TB := .nd [] .no [] (.nd [] (.nd [] .no [] (wire_appendDigits_A5 o)) [] .no)
noncomputable def wire_appendDigits_Body (x : wire_appendDigits_I) (o : wire_appendDigits_O) : Prop := WPh TB wire_appendDigits_cx 19 1 wire_appendDigits_code (wire_appendDigits_an o) (wire_appendDigits_sh.st TB x) (retTQ TB wire_appendDigits_cx wire_appendDigits_sh wire_appendDigits_rs o)
set_option maxRecDepth 100000 in
theorem wire_appendDigits_obl (o : wire_appendDigits_O) : OblH TB wire_appendDigits_cx 19 1 wire_appendDigits_code (wire_appendDigits_an o) (retTQ TB wire_appendDigits_cx wire_appendDigits_sh wire_appendDigits_rs o) :=
  OblH.of_eq (X := (True ∧ ((True ∧ ((∀ nx i, (wire_appendDigits_L1 o) nx i = (wire_appendDigits_L1 o) nx i) ∧ ∀ nx1 : HL TB.den wire_appendDigits_T1.hs → Prop, (True ∧ ((True ∧ True) ∧ ((True ∧ True) ∧ True))))) ∧ (True ∧ True)))) (by kernel_rfl) ⟨trivial, ⟨⟨trivial, ⟨fun _ _ => rfl, fun _ => ⟨trivial, ⟨⟨trivial, trivial⟩, ⟨⟨trivial, trivial⟩, trivial⟩⟩⟩⟩⟩, ⟨trivial, trivial⟩⟩⟩
set_option maxRecDepth 100000 in
theorem wire_appendDigits_snd {x : wire_appendDigits_I} {o : wire_appendDigits_O} (h : wire_appendDigits_Body x o) : SoundH Try.prog wire_appendDigits_sh.f ((wire_appendDigits_sh.args idf x).map (er TB)) ((wire_appendDigits_sh.obs idf x).map (erO TB)) (er TB (wire_appendDigits_sh.val idf o)) ((wire_appendDigits_sh.ops idf o).map (erO TB)) :=
  Con.soundH (c := wire_appendDigits_sh) (C := wire_appendDigits_cx) TBok ⟨inf_ok, all_nil, all_nil⟩ mix Try.func65 (show Try.f65.body = some wire_appendDigits_code by kernel_rfl) (show Try.f65.ntmps = 19 by kernel_rfl) (show Try.f65.results.toList = wire_appendDigits_rs by kernel_rfl) rfl h (wire_appendDigits_obl o)
set_option maxRecDepth 100000 in
theorem wire_appendDigits_in {p1 : Int} {p2 : Int} {w0 : List Int} {e0 : List Int} (h :
((w0 = w0) ∧ Md.Loop (p1, p2, (0 : Int), w0, ()) (wire_appendDigits_L1 (e0, ())))) : wire_appendDigits_Body (p1, p2, w0, ()) (e0, ()) := WPh.of_eq (by kernel_rfl) h
def wire_appendDigits_B1 (e0 : List Int) (k1 : Int → Int → List Int → Prop) (s7 : Int) (s1 : Int) (s8 : Int) (g0 : List Int) : Prop :=
(decide (s8 < s7) = true →
 g0.length = g0.length ∧ (g0.length + [IntKind.u8.wrap s1].length) * 1 ≤ 140737488355328 ∧ g0.length + [IntKind.u8.wrap s1].length ≤ maxLen ∧ (g0 ++ [IntKind.u8.wrap s1] = g0 ++ [IntKind.u8.wrap s1]) ∧ k1 (ishr .u64 s1 8 : Int) (IntKind.i64.wrap (s8 + 1) : Int) (g0 ++ [IntKind.u8.wrap s1] : List Int)) ∧
(decide (s8 < s7) = false →
(g0 = g0) ∧ g0 = e0)
set_option maxRecDepth 100000 in
theorem wire_appendDigits_lp1 {e0 : List Int} {s7 : Int} {s1 : Int} {s8 : Int} {g0 : List Int} (inv : Int → Int → List Int → Prop) (μ : Int → Int → List Int → Nat) (h0 : inv s1 s8 g0) (hs : ∀ (s1 : Int) (s8 : Int) (g0 : List Int), inv s1 s8 g0 → wire_appendDigits_B1 e0 (fun s1q s8q g0q => inv s1q s8q g0q ∧ μ s1q s8q g0q < μ s1 s8 g0) s7 s1 s8 g0) : Md.Loop (s1, s7, s8, g0, ()) (wire_appendDigits_L1 (e0, ())) :=
  ⟨⟨fun s : Int × Int × Int × (List Int) × Unit => (s.2.1 = s7) ∧ inv s.1 s.2.2.1 s.2.2.2.1, fun s : Int × Int × Int × (List Int) × Unit => μ s.1 s.2.2.1 s.2.2.2.1, ⟨rfl, h0⟩, fun (s1p, s7p, s8p, g0p, ()) ⟨eq0, hi⟩ => by
    have eq0 : s7p = s7 := eq0; subst s7p; exact mpr_of (by kernel_rfl) ((congrArg (fun k => wire_appendDigits_B1 e0 k s7 s1p s8p g0p) (lpk3 (rfl : s7 = s7) inv (fun s1q s8q g0q => μ s1q s8q g0q < μ s1p s8p g0p))).mpr (hs s1p s8p g0p hi))⟩⟩
theorem bd65 : Callable Try.prog 65 := ⟨by rw [Try.func65]; kernel_rfl, by rw [Try.func65]; show some _ ≠ some _; decide⟩
theorem wire_appendDigits_body (p1 : Int) (p2 : Int) (w0 : List Int) (h : U64 p1 ∧ (0 ≤ p2 ∧ p2 ≤ 8) ∧ w0.length ≤ 137438953472) : wire_appendDigits_Body (p1, p2, w0, ()) ((w0 ++ dig p2.toNat p1 : List Int), ()) := by
  obtain ⟨h1, h2, h3⟩ := h
  refine wire_appendDigits_in ⟨rfl, wire_appendDigits_lp1 (fun n i g => 0 ≤ i ∧ i ≤ p2 ∧ U64 n ∧ n = p1 / 256 ^ i.toNat ∧ g = w0 ++ dig i.toNat p1) (fun _ i _ => (p2 - i).toNat) ⟨by omega, by omega, h1, by simp, by simp [dig]⟩ ?_⟩
  rintro n i g ⟨g0, g1, g2, g3, rfl⟩
  refine ⟨fun h => ?_, fun h => ?_⟩
  · have h := of_decide_eq_true h
    rw [inc i p2 g0 h (by omega), ishr8, u8w]
    refine ⟨rfl, ?_, ?_, rfl, ⟨by omega, by omega, ⟨by omega, by omega⟩, ?_, ?_⟩, by omega⟩
    · simp; omega
    · simp; unfold maxLen; omega
    · rw [g3, show (i + 1).toNat = i.toNat + 1 by omega, Int.ediv_ediv_of_nonneg (Int.le_of_lt (pow256_pos _)), Int.pow_succ]
    · rw [show (i + 1).toNat = i.toNat + 1 by omega, dig_snoc, List.append_assoc, g3]
  · have h := of_decide_eq_false h
    exact ⟨rfl, by rw [show i = p2 by omega]⟩
noncomputable def wire_appendDigits_con : Con TB.den := wire_appendDigits_sh.fnR (fun x => (fun (p1 : Int) (p2 : Int) (w0 : List Int) => U64 p1 ∧ (0 ≤ p2 ∧ p2 ≤ 8) ∧ w0.length ≤ 137438953472) x.1 x.2.1 x.2.2.1) fun x => ((fun (p1 : Int) (p2 : Int) (w0 : List Int) => (w0 ++ dig p2.toNat p1 : List Int)) x.1 x.2.1 x.2.2.1, ())
theorem wire_appendDigits_ok : wire_appendDigits_con.Ok Try.prog TB := Con.ok_fn wire_appendDigits_sh bd65 fun x h => wire_appendDigits_snd (wire_appendDigits_body x.1 x.2.1 x.2.2.1 h)
end Go.Proofs.Ytdbnagpoknmoiaa
namespace Go.Proofs.Ytdbnagpoknmoiaa
open Go Go.Bv Go.Cv Go.Md Go.RowKit
def wire_appendLength_sh : Con TB.den := Con.mk0 66 [.one (.own 0), .one (.d (.int .i64))] [.tip (.int .u8)] (.one (.one (.own 0))) [.tip (.int .u8)]
abbrev wire_appendLength_I := HL TB.den (hsT wire_appendLength_sh.ins (hsOs wire_appendLength_sh.pre))
abbrev wire_appendLength_O := HL TB.den (hsV wire_appendLength_sh.res (hsOs wire_appendLength_sh.post))
noncomputable def wire_appendLength_cx : Cx TB := ⟨inf, [wire_appendDigits_con], [], 4⟩
noncomputable def wire_appendLength_code : Code := Try.f66.body.getD .skip
noncomputable def wire_appendLength_rs : List ResultVar := Try.f66.results.toList
def wire_appendLength_TJ1 : Tm := ⟨[0], [.tip (.int .u8)], [0, 1], [.one (.own 0), .one (.d (.int .i64))], 1⟩
noncomputable def wire_appendLength_J1d (o : wire_appendLength_O) (i : HL TB.den wire_appendLength_TJ1.hs) : Prop := ghs TB [] (wire_appendLength_TJ1.fill TB i) fun s => WP TB wire_appendLength_cx 15 1 (cB (cB wire_appendLength_code)) .no s (retTQ TB wire_appendLength_cx wire_appendLength_sh wire_appendLength_rs o)
structure wire_appendLength_J1 (o : wire_appendLength_O) (i : HL TB.den wire_appendLength_TJ1.hs) : Prop where
  h : wire_appendLength_J1d o i
noncomputable def wire_appendLength_A2 (o : wire_appendLength_O) : An TB := .jn wire_appendLength_TJ1 (wire_appendLength_J1 o) [] .no [] .no
noncomputable def wire_appendLength_an (o : wire_appendLength_O) : An TB := .nd [] .no [] (wire_appendLength_A2 o)
noncomputable def wire_appendLength_Body (x : wire_appendLength_I) (o : wire_appendLength_O) : Prop := WPh TB wire_appendLength_cx 15 1 wire_appendLength_code (wire_appendLength_an o) (wire_appendLength_sh.st TB x) (retTQ TB wire_appendLength_cx wire_appendLength_sh wire_appendLength_rs o)
set_option maxRecDepth 100000 in
theorem wire_appendLength_obl (o : wire_appendLength_O) : OblH TB wire_appendLength_cx 15 1 wire_appendLength_code (wire_appendLength_an o) (retTQ TB wire_appendLength_cx wire_appendLength_sh wire_appendLength_rs o) :=
  OblH.of_eq (X := (True ∧ ((True ∧ (True ∧ True)) ∧ (∀ i, (wire_appendLength_J1 o) i = (wire_appendLength_J1d o) i) ∧ (True ∧ True)))) (by kernel_rfl) ⟨trivial, ⟨⟨trivial, ⟨trivial, trivial⟩⟩, fun _ => propext ⟨fun h => h.1, fun h => ⟨h⟩⟩, ⟨trivial, trivial⟩⟩⟩
set_option maxRecDepth 100000 in
theorem wire_appendLength_snd {x : wire_appendLength_I} {o : wire_appendLength_O} (h : wire_appendLength_Body x o) : SoundH Try.prog wire_appendLength_sh.f ((wire_appendLength_sh.args idf x).map (er TB)) ((wire_appendLength_sh.obs idf x).map (erO TB)) (er TB (wire_appendLength_sh.val idf o)) ((wire_appendLength_sh.ops idf o).map (erO TB)) :=
  Con.soundH (c := wire_appendLength_sh) (C := wire_appendLength_cx) TBok ⟨inf_ok, (all_cons wire_appendDigits_ok all_nil), all_nil⟩ mix Try.func66 (show Try.f66.body = some wire_appendLength_code by kernel_rfl) (show Try.f66.ntmps = 15 by kernel_rfl) (show Try.f66.results.toList = wire_appendLength_rs by kernel_rfl) rfl h (wire_appendLength_obl o)
set_option maxRecDepth 100000 in
theorem wire_appendLength_in {p1 : Int} {w0 : List Int} {e0 : List Int} (h :
((decide (p1 < 0) = true →
(w0 = w0) ∧ wire_appendLength_J1 (e0, ()) ((0 : Int), w0, ())) ∧
(decide (p1 < 0) = false →
(decide (4294967295 < p1) = true →
(w0 = w0) ∧ wire_appendLength_J1 (e0, ()) ((0 : Int), w0, ())) ∧
(decide (4294967295 < p1) = false →
(w0 = w0) ∧ wire_appendLength_J1 (e0, ()) (p1, w0, ()))))) : wire_appendLength_Body (p1, w0, ()) (e0, ()) := WPh.of_eq (by kernel_rfl) h
set_option maxRecDepth 100000 in
theorem wire_appendLength_J1_in {e0 : List Int} {s1 : Int} {g0 : List Int} (h :
((g0 = g0) ∧ (U64 (IntKind.u64.wrap s1) ∧ (0 ≤ (4 : Int) ∧ (4 : Int) ≤ 8) ∧ g0.length ≤ 137438953472) ∧ let r1 : List Int := g0 ++ dig (4 : Int).toNat (IntKind.u64.wrap s1)
(r1 = r1) ∧ r1 = e0)) : wire_appendLength_J1 (e0, ()) (s1, g0, ()) := ⟨mpr_of (by kernel_rfl) h⟩
theorem bd66 : Callable Try.prog 66 := ⟨by rw [Try.func66]; kernel_rfl, by rw [Try.func66]; show some _ ≠ some _; decide⟩
theorem wire_appendLength_body (p1 : Int) (w0 : List Int) (h : (-9223372036854775808 ≤ p1 ∧ p1 ≤ 9223372036854775807) ∧ w0.length ≤ 137438953472) : wire_appendLength_Body (p1, w0, ()) ((w0 ++ dig 4 (len4 p1) : List Int), ()) := by
  obtain ⟨h1, h2⟩ := h
  have j : ∀ n, 0 ≤ n → n ≤ 4294967295 → len4 p1 = n → wire_appendLength_J1 ((w0 ++ dig 4 (len4 p1) : List Int), ()) (n, w0, ()) := by
    intro n h0 h1 e
    refine wire_appendLength_J1_in ?_
    rw [wu n (by omega) (by omega), e]
    exact ⟨rfl, ⟨⟨h0, by omega⟩, by omega, h2⟩, by trivial, rfl⟩
  refine wire_appendLength_in ⟨fun h => ⟨rfl, j 0 (by omega) (by omega) ?_⟩, fun h => ⟨fun h' => ⟨rfl, j 0 (by omega) (by omega) ?_⟩, fun h' => ⟨rfl, j p1 ?_ ?_ ?_⟩⟩⟩
  · have h := of_decide_eq_true h; exact if_pos (.inl h)
  · have h' := of_decide_eq_true h'; exact if_pos (.inr h')
  · have h := of_decide_eq_false h; omega
  · have h' := of_decide_eq_false h'; omega
  · have h := of_decide_eq_false h; have h' := of_decide_eq_false h'; exact len4_in ⟨by omega, by omega⟩
noncomputable def wire_appendLength_con : Con TB.den := wire_appendLength_sh.fnR (fun x => (fun (p1 : Int) (w0 : List Int) => (-9223372036854775808 ≤ p1 ∧ p1 ≤ 9223372036854775807) ∧ w0.length ≤ 137438953472) x.1 x.2.1) fun x => ((fun (p1 : Int) (w0 : List Int) => (w0 ++ dig 4 (len4 p1) : List Int)) x.1 x.2.1, ())
theorem wire_appendLength_ok : wire_appendLength_con.Ok Try.prog TB := Con.ok_fn wire_appendLength_sh bd66 fun x h => wire_appendLength_snd (wire_appendLength_body x.1 x.2.1 h)
end Go.Proofs.Ytdbnagpoknmoiaa
namespace Go.Proofs.Ytdbnagpoknmoiaa
open Go Go.Bv Go.Cv Go.Md Go.RowKit
def wire_room_sh : Con TB.den := Con.mk0 61 [.one (.d (.sl (.int .u8))), .one (.d (.int .i64))] [] (.one (.one (.d (.sl (.int .u8))))) []
abbrev wire_room_I := HL TB.den (hsT wire_room_sh.ins (hsOs wire_room_sh.pre))
abbrev wire_room_O := HL TB.den (hsV wire_room_sh.res (hsOs wire_room_sh.post))
noncomputable def wire_room_cx : Cx TB := ⟨inf, [], [], 4⟩
noncomputable def wire_room_code : Code := Try.f61.body.getD .skip
noncomputable def wire_room_rs : List ResultVar := Try.f61.results.toList
noncomputable def wire_room_A1 (o : wire_room_O) : An TB := .nd [] .no [] (.nd [] .no [] (.nd [] .no [] (.rt [.frz 0 [4]])))
noncomputable def wire_room_an (o : wire_room_O) : An TB := .nd [] .no [] (wire_room_A1 o)
noncomputable def wire_room_Body (x : wire_room_I) (o : wire_room_O) : Prop := WPh TB wire_room_cx 17 0 wire_room_code (wire_room_an o) (wire_room_sh.st TB x) (retTQ TB wire_room_cx wire_room_sh wire_room_rs o)
set_option maxRecDepth 100000 in
theorem wire_room_obl (o : wire_room_O) : OblH TB wire_room_cx 17 0 wire_room_code (wire_room_an o) (retTQ TB wire_room_cx wire_room_sh wire_room_rs o) :=
  OblH.of_eq (X := (True ∧ (True ∧ (True ∧ (True ∧ True))))) (by kernel_rfl) ⟨trivial, ⟨trivial, ⟨trivial, ⟨trivial, trivial⟩⟩⟩⟩
set_option maxRecDepth 100000 in
theorem wire_room_snd {x : wire_room_I} {o : wire_room_O} (h : wire_room_Body x o) : SoundH Try.prog wire_room_sh.f ((wire_room_sh.args idf x).map (er TB)) ((wire_room_sh.obs idf x).map (erO TB)) (er TB (wire_room_sh.val idf o)) ((wire_room_sh.ops idf o).map (erO TB)) :=
  Con.soundH (c := wire_room_sh) (C := wire_room_cx) TBok ⟨inf_ok, all_nil, all_nil⟩ mix Try.func61 (show Try.f61.body = some wire_room_code by kernel_rfl) (show Try.f61.ntmps = 17 by kernel_rfl) (show Try.f61.results.toList = wire_room_rs by kernel_rfl) rfl h (wire_room_obl o)
set_option maxRecDepth 100000 in
theorem wire_room_in {p0 : List Int} {p1 : Int} {r0 : List Int} (h :
(let v1 : Int := IntKind.i64.wrap ((p0.length : Int) + p1)
 0 ≤ (p0.length : Int) ∧ (p0.length : Int) ≤ v1 ∧ (v1.toNat * 1 ≤ 140737488355328) ∧ (v1.toNat ≤ maxLen) ∧ (p0.length : Int).toNat = (List.replicate ((p0.length : Int).toNat) (0 : Int)).length ∧ let v2 : Int := ((min p0.length (List.replicate ((p0.length : Int).toNat) (0 : Int)).length : Nat) : Int)
((p0.length : Int).toNat = (rowOver (List.replicate ((p0.length : Int).toNat) (0 : Int)) p0 (List.replicate ((p0.length : Int).toNat) (0 : Int)).length).length) ∧ rowOver (List.replicate ((p0.length : Int).toNat) (0 : Int)) p0 (List.replicate ((p0.length : Int).toNat) (0 : Int)).length = r0)) : wire_room_Body (p0, p1, ()) (r0, ()) := WPh.of_eq (by kernel_rfl) h
theorem bd61 : Callable Try.prog 61 := ⟨by rw [Try.func61]; kernel_rfl, by rw [Try.func61]; show some _ ≠ some _; decide⟩
theorem wire_room_body (p0 : List Int) (p1 : Int) (h : 0 ≤ p1 ∧ p0.length + p1 ≤ 140737488355328) : wire_room_Body (p0, p1, ()) ((p0 : List Int), ()) := by
  obtain ⟨h1, h2⟩ := h
  refine wire_room_in ?_
  rw [wi _ (by omega) (by omega)]
  have e : rowOver (List.replicate ((p0.length : Int).toNat) (0 : Int)) p0 (List.replicate ((p0.length : Int).toNat) (0 : Int)).length = p0 := rowOver_all _ _ (by simp)
  simp only [e]
  exact ⟨by omega, by omega, by omega, by unfold maxLen; omega, by simp, by omega, by trivial⟩
noncomputable def wire_room_con : Con TB.den := wire_room_sh.fnR (fun x => (fun (p0 : List Int) (p1 : Int) => 0 ≤ p1 ∧ p0.length + p1 ≤ 140737488355328) x.1 x.2.1) fun x => ((fun (p0 : List Int) (p1 : Int) => (p0 : List Int)) x.1 x.2.1, ())
theorem wire_room_ok : wire_room_con.Ok Try.prog TB := Con.ok_fn wire_room_sh bd61 fun x h => wire_room_snd (wire_room_body x.1 x.2.1 h)
end Go.Proofs.Ytdbnagpoknmoiaa
namespace Go.Proofs.Ytdbnagpoknmoiaa
open Go Go.Bv Go.Cv Go.Md Go.RowKit
def wire_room_2_sh : Con TB.den := Con.mk0 61 [.one (.d (.sl (.int .u8))), .one (.d (.int .i64))] [] (.one (.one (.own 0))) [.tip (.int .u8)]
abbrev wire_room_2_I := HL TB.den (hsT wire_room_2_sh.ins (hsOs wire_room_2_sh.pre))
abbrev wire_room_2_O := HL TB.den (hsV wire_room_2_sh.res (hsOs wire_room_2_sh.post))
noncomputable def wire_room_2_cx : Cx TB := ⟨inf, [], [], 4⟩
noncomputable def wire_room_2_code : Code := Try.f61.body.getD .skip
noncomputable def wire_room_2_rs : List ResultVar := Try.f61.results.toList
noncomputable def wire_room_2_A1 (o : wire_room_2_O) : An TB := .nd [] .no [] (.nd [] .no [] (.nd [] .no [] (.rt [.frz 0 [4]])))
noncomputable def wire_room_2_an (o : wire_room_2_O) : An TB := .nd [] .no [] (wire_room_2_A1 o)
noncomputable def wire_room_2_Body (x : wire_room_2_I) (o : wire_room_2_O) : Prop := WPh TB wire_room_2_cx 17 0 wire_room_2_code (wire_room_2_an o) (wire_room_2_sh.st TB x) (retTQ TB wire_room_2_cx wire_room_2_sh wire_room_2_rs o)
set_option maxRecDepth 100000 in
theorem wire_room_2_obl (o : wire_room_2_O) : OblH TB wire_room_2_cx 17 0 wire_room_2_code (wire_room_2_an o) (retTQ TB wire_room_2_cx wire_room_2_sh wire_room_2_rs o) :=
  OblH.of_eq (X := (True ∧ (True ∧ (True ∧ (True ∧ True))))) (by kernel_rfl) ⟨trivial, ⟨trivial, ⟨trivial, ⟨trivial, trivial⟩⟩⟩⟩
set_option maxRecDepth 100000 in
theorem wire_room_2_snd {x : wire_room_2_I} {o : wire_room_2_O} (h : wire_room_2_Body x o) : SoundH Try.prog wire_room_2_sh.f ((wire_room_2_sh.args idf x).map (er TB)) ((wire_room_2_sh.obs idf x).map (erO TB)) (er TB (wire_room_2_sh.val idf o)) ((wire_room_2_sh.ops idf o).map (erO TB)) :=
  Con.soundH (c := wire_room_2_sh) (C := wire_room_2_cx) TBok ⟨inf_ok, all_nil, all_nil⟩ mix Try.func61 (show Try.f61.body = some wire_room_2_code by kernel_rfl) (show Try.f61.ntmps = 17 by kernel_rfl) (show Try.f61.results.toList = wire_room_2_rs by kernel_rfl) rfl h (wire_room_2_obl o)
set_option maxRecDepth 100000 in
theorem wire_room_2_in {p0 : List Int} {p1 : Int} {e0 : List Int} (h :
(let v1 : Int := IntKind.i64.wrap ((p0.length : Int) + p1)
 0 ≤ (p0.length : Int) ∧ (p0.length : Int) ≤ v1 ∧ (v1.toNat * 1 ≤ 140737488355328) ∧ (v1.toNat ≤ maxLen) ∧ (p0.length : Int).toNat = (List.replicate ((p0.length : Int).toNat) (0 : Int)).length ∧ let v2 : Int := ((min p0.length (List.replicate ((p0.length : Int).toNat) (0 : Int)).length : Nat) : Int)
((p0.length : Int).toNat = (rowOver (List.replicate ((p0.length : Int).toNat) (0 : Int)) p0 (List.replicate ((p0.length : Int).toNat) (0 : Int)).length).length) ∧ (rowOver (List.replicate ((p0.length : Int).toNat) (0 : Int)) p0 (List.replicate ((p0.length : Int).toNat) (0 : Int)).length = rowOver (List.replicate ((p0.length : Int).toNat) (0 : Int)) p0 (List.replicate ((p0.length : Int).toNat) (0 : Int)).length) ∧ rowOver (List.replicate ((p0.length : Int).toNat) (0 : Int)) p0 (List.replicate ((p0.length : Int).toNat) (0 : Int)).length = e0)) : wire_room_2_Body (p0, p1, ()) (e0, ()) := WPh.of_eq (by kernel_rfl) h
theorem wire_room_2_body (p0 : List Int) (p1 : Int) (h : 0 ≤ p1 ∧ p0.length + p1 ≤ 140737488355328) : wire_room_2_Body (p0, p1, ()) ((p0 : List Int), ()) := by
  obtain ⟨h1, h2⟩ := h
  refine wire_room_2_in ?_
  rw [wi _ (by omega) (by omega)]
  have e : rowOver (List.replicate ((p0.length : Int).toNat) (0 : Int)) p0 (List.replicate ((p0.length : Int).toNat) (0 : Int)).length = p0 := rowOver_all _ _ (by simp)
  simp only [e]
  exact ⟨by omega, by omega, by omega, by unfold maxLen; omega, by simp, by omega, by trivial, by trivial⟩
noncomputable def wire_room_2_con : Con TB.den := wire_room_2_sh.fnR (fun x => (fun (p0 : List Int) (p1 : Int) => 0 ≤ p1 ∧ p0.length + p1 ≤ 140737488355328) x.1 x.2.1) fun x => ((fun (p0 : List Int) (p1 : Int) => (p0 : List Int)) x.1 x.2.1, ())
theorem wire_room_2_ok : wire_room_2_con.Ok Try.prog TB := Con.ok_fn wire_room_2_sh bd61 fun x h => wire_room_2_snd (wire_room_2_body x.1 x.2.1 h)
end Go.Proofs.Ytdbnagpoknmoiaa
namespace Go.Proofs.Ytdbnagpoknmoiaa
open Go Go.Bv Go.Cv Go.Md Go.RowKit
def wire_Bytes_sh : Con TB.den := Con.mk0 58 [.one (.d (.sl (.int .u8))), .one (.d (.sl (.int .u8)))] [] (.one (.one (.d (.sl (.int .u8))))) []
abbrev wire_Bytes_I := HL TB.den (hsT wire_Bytes_sh.ins (hsOs wire_Bytes_sh.pre))
abbrev wire_Bytes_O := HL TB.den (hsV wire_Bytes_sh.res (hsOs wire_Bytes_sh.post))
noncomputable def wire_Bytes_cx : Cx TB := ⟨inf, [wire_room_2_con, wire_appendLength_con], [], 4⟩
noncomputable def wire_Bytes_code : Code := Try.f58.body.getD .skip
noncomputable def wire_Bytes_rs : List ResultVar := Try.f58.results.toList
noncomputable def wire_Bytes_an (o : wire_Bytes_O) : An TB := .no
noncomputable def wire_Bytes_Body (x : wire_Bytes_I) (o : wire_Bytes_O) : Prop := WPh TB wire_Bytes_cx 17 0 wire_Bytes_code (wire_Bytes_an o) (wire_Bytes_sh.st TB x) (retTQ TB wire_Bytes_cx wire_Bytes_sh wire_Bytes_rs o)
set_option maxRecDepth 100000 in
theorem wire_Bytes_obl (o : wire_Bytes_O) : OblH TB wire_Bytes_cx 17 0 wire_Bytes_code (wire_Bytes_an o) (retTQ TB wire_Bytes_cx wire_Bytes_sh wire_Bytes_rs o) :=
  OblH.of_eq (X := (True ∧ (True ∧ (True ∧ True)))) (by kernel_rfl) ⟨trivial, ⟨trivial, ⟨trivial, trivial⟩⟩⟩
set_option maxRecDepth 100000 in
theorem wire_Bytes_snd {x : wire_Bytes_I} {o : wire_Bytes_O} (h : wire_Bytes_Body x o) : SoundH Try.prog wire_Bytes_sh.f ((wire_Bytes_sh.args idf x).map (er TB)) ((wire_Bytes_sh.obs idf x).map (erO TB)) (er TB (wire_Bytes_sh.val idf o)) ((wire_Bytes_sh.ops idf o).map (erO TB)) :=
  Con.soundH (c := wire_Bytes_sh) (C := wire_Bytes_cx) TBok ⟨inf_ok, (all_cons wire_room_2_ok (all_cons wire_appendLength_ok all_nil)), all_nil⟩ mix Try.func58 (show Try.f58.body = some wire_Bytes_code by kernel_rfl) (show Try.f58.ntmps = 17 by kernel_rfl) (show Try.f58.results.toList = wire_Bytes_rs by kernel_rfl) rfl h (wire_Bytes_obl o)
set_option maxRecDepth 100000 in
theorem wire_Bytes_in {p0 : List Int} {p1 : List Int} {r0 : List Int} (h :
((0 ≤ (IntKind.i64.wrap (4 + (p1.length : Int))) ∧ p0.length + (IntKind.i64.wrap (4 + (p1.length : Int))) ≤ 140737488355328) ∧ (p0 = p0) ∧ ((-9223372036854775808 ≤ (p1.length : Int) ∧ (p1.length : Int) ≤ 9223372036854775807) ∧ p0.length ≤ 137438953472) ∧ (p0 ++ dig 4 (len4 (p1.length : Int))).length = (p0 ++ dig 4 (len4 (p1.length : Int))).length ∧ ((p0 ++ dig 4 (len4 (p1.length : Int))).length + p1.length) * 1 ≤ 140737488355328 ∧ (p0 ++ dig 4 (len4 (p1.length : Int))).length + p1.length ≤ maxLen ∧ let v1 : List Int := (p0 ++ dig 4 (len4 (p1.length : Int))) ++ p1
 v1 = r0)) : wire_Bytes_Body (p0, p1, ()) (r0, ()) := WPh.of_eq (by kernel_rfl) h
theorem bd58 : Callable Try.prog 58 := ⟨by rw [Try.func58]; kernel_rfl, by rw [Try.func58]; show some _ ≠ some _; decide⟩
theorem wire_Bytes_body (p0 : List Int) (p1 : List Int) (h : p0.length ≤ 68719476736 ∧ p1.length ≤ 4294967295) : wire_Bytes_Body (p0, p1, ()) ((p0 ++ encB p1 : List Int), ()) := by
  obtain ⟨h1, h2⟩ := h
  refine wire_Bytes_in ?_
  rw [wi (4 + (p1.length : Int)) (by omega) (by omega)]
  refine ⟨⟨by omega, by omega⟩, by trivial, ⟨by omega, by omega⟩, by trivial, ?_, ?_, ?_⟩
  · simp; omega
  · simp; unfold maxLen; omega
  · rw [List.append_assoc]; rfl
noncomputable def wire_Bytes_con : Con TB.den := wire_Bytes_sh.fnR (fun x => (fun (p0 : List Int) (p1 : List Int) => p0.length ≤ 68719476736 ∧ p1.length ≤ 4294967295) x.1 x.2.1) fun x => ((fun (p0 : List Int) (p1 : List Int) => (p0 ++ encB p1 : List Int)) x.1 x.2.1, ())
theorem wire_Bytes_ok : wire_Bytes_con.Ok Try.prog TB := Con.ok_fn wire_Bytes_sh bd58 fun x h => wire_Bytes_snd (wire_Bytes_body x.1 x.2.1 h)
end Go.Proofs.Ytdbnagpoknmoiaa
namespace Go.Proofs.Ytdbnagpoknmoiaa
open Go Go.Bv Go.Cv Go.Md Go.RowKit
def wire_Int_sh : Con TB.den := Con.mk0 57 [.one (.d (.sl (.int .u8))), .one (.d (.int .i64))] [] (.one (.one (.d (.sl (.int .u8))))) []
abbrev wire_Int_I := HL TB.den (hsT wire_Int_sh.ins (hsOs wire_Int_sh.pre))
abbrev wire_Int_O := HL TB.den (hsV wire_Int_sh.res (hsOs wire_Int_sh.post))
noncomputable def wire_Int_cx : Cx TB := ⟨inf, [wire_room_2_con, wire_appendLength_con], [], 4⟩
noncomputable def wire_Int_code : Code := Try.f57.body.getD .skip
noncomputable def wire_Int_rs : List ResultVar := Try.f57.results.toList
noncomputable def wire_Int_an (o : wire_Int_O) : An TB := .no
noncomputable def wire_Int_Body (x : wire_Int_I) (o : wire_Int_O) : Prop := WPh TB wire_Int_cx 9 0 wire_Int_code (wire_Int_an o) (wire_Int_sh.st TB x) (retTQ TB wire_Int_cx wire_Int_sh wire_Int_rs o)
set_option maxRecDepth 100000 in
theorem wire_Int_obl (o : wire_Int_O) : OblH TB wire_Int_cx 9 0 wire_Int_code (wire_Int_an o) (retTQ TB wire_Int_cx wire_Int_sh wire_Int_rs o) :=
  OblH.of_eq (X := (True ∧ (True ∧ True))) (by kernel_rfl) ⟨trivial, ⟨trivial, trivial⟩⟩
set_option maxRecDepth 100000 in
theorem wire_Int_snd {x : wire_Int_I} {o : wire_Int_O} (h : wire_Int_Body x o) : SoundH Try.prog wire_Int_sh.f ((wire_Int_sh.args idf x).map (er TB)) ((wire_Int_sh.obs idf x).map (erO TB)) (er TB (wire_Int_sh.val idf o)) ((wire_Int_sh.ops idf o).map (erO TB)) :=
  Con.soundH (c := wire_Int_sh) (C := wire_Int_cx) TBok ⟨inf_ok, (all_cons wire_room_2_ok (all_cons wire_appendLength_ok all_nil)), all_nil⟩ mix Try.func57 (show Try.f57.body = some wire_Int_code by kernel_rfl) (show Try.f57.ntmps = 9 by kernel_rfl) (show Try.f57.results.toList = wire_Int_rs by kernel_rfl) rfl h (wire_Int_obl o)
set_option maxRecDepth 100000 in
theorem wire_Int_in {p0 : List Int} {p1 : Int} {r0 : List Int} (h :
((0 ≤ (4 : Int) ∧ p0.length + (4 : Int) ≤ 140737488355328) ∧ (p0 = p0) ∧ ((-9223372036854775808 ≤ p1 ∧ p1 ≤ 9223372036854775807) ∧ p0.length ≤ 137438953472) ∧ p0 ++ dig 4 (len4 p1) = r0)) : wire_Int_Body (p0, p1, ()) (r0, ()) := WPh.of_eq (by kernel_rfl) h
theorem bd57 : Callable Try.prog 57 := ⟨by rw [Try.func57]; kernel_rfl, by rw [Try.func57]; show some _ ≠ some _; decide⟩
theorem wire_Int_body (p0 : List Int) (p1 : Int) (h : (-9223372036854775808 ≤ p1 ∧ p1 ≤ 9223372036854775807) ∧ p0.length ≤ 137438953472) : wire_Int_Body (p0, p1, ()) ((p0 ++ dig 4 (len4 p1) : List Int), ()) := by
  obtain ⟨h1, h2⟩ := h
  exact wire_Int_in ⟨⟨by omega, by omega⟩, by trivial, ⟨h1, h2⟩, rfl⟩
noncomputable def wire_Int_con : Con TB.den := wire_Int_sh.fnR (fun x => (fun (p0 : List Int) (p1 : Int) => (-9223372036854775808 ≤ p1 ∧ p1 ≤ 9223372036854775807) ∧ p0.length ≤ 137438953472) x.1 x.2.1) fun x => ((fun (p0 : List Int) (p1 : Int) => (p0 ++ dig 4 (len4 p1) : List Int)) x.1 x.2.1, ())
theorem wire_Int_ok : wire_Int_con.Ok Try.prog TB := Con.ok_fn wire_Int_sh bd57 fun x h => wire_Int_snd (wire_Int_body x.1 x.2.1 h)
end Go.Proofs.Ytdbnagpoknmoiaa
namespace Go.Proofs.Ytdbnagpoknmoiaa
open Go Go.Bv Go.Cv Go.Md Go.RowKit
def wire_List_sh : Con TB.den := Con.mk0 56 [.one (.d (.sl (.int .u8))), .one (.d (.sl (.int .u64)))] [] (.one (.one (.d (.sl (.int .u8))))) []
abbrev wire_List_I := HL TB.den (hsT wire_List_sh.ins (hsOs wire_List_sh.pre))
abbrev wire_List_O := HL TB.den (hsV wire_List_sh.res (hsOs wire_List_sh.post))
noncomputable def wire_List_cx : Cx TB := ⟨inf, [wire_room_2_con, wire_appendLength_con, wire_appendDigits_con], [], 4⟩
noncomputable def wire_List_code : Code := Try.f56.body.getD .skip
noncomputable def wire_List_rs : List ResultVar := Try.f56.results.toList
noncomputable def wire_List_Q1 (o : wire_List_O) : Exit → TSt TB.den → Prop := thenT TB (fun s => ghs TB [] s fun s => WP TB wire_List_cx 28 0 (cB (cB (cB wire_List_code))) .no s (retTQ TB wire_List_cx wire_List_sh wire_List_rs o)) (retTQ TB wire_List_cx wire_List_sh wire_List_rs o)
def wire_List_T1 : Tm := ⟨[0], [.tip (.int .u8)], [5, 17, 18, 19], [.one (.own 0), .one (.d (.sl (.int .u64))), .one (.d (.int .i64)), .one (.d (.int .i64))], 1⟩
noncomputable def wire_List_Q2 (o : wire_List_O) (nx1 : HL TB.den wire_List_T1.hs → Prop) : Exit → TSt TB.den → Prop := thenT TB (fun s => wire_List_T1.mat TB 0 s nx1) (blockT TB 0 (wire_List_Q1 o))
noncomputable def wire_List_L1 (o : wire_List_O) (nx1 : HL TB.den wire_List_T1.hs → Prop) (i : HL TB.den wire_List_T1.hs) : Prop := WP TB wire_List_cx 28 0 (cA (cA (cB (cA (cB (cB wire_List_code)))))) .no (wire_List_T1.fill TB i) (wire_List_Q2 o nx1)
noncomputable def wire_List_A5 (o : wire_List_O) : An TB := .nd [] .no [] (.lp [] wire_List_T1 (wire_List_L1 o) fun nx1 => .no)
noncomputable def wire_List_an (o : wire_List_O) : An TB := .nd [] .no [] (.nd [] .no [] (.nd [] (wire_List_A5 o) [] .no))
noncomputable def wire_List_Body (x : wire_List_I) (o : wire_List_O) : Prop := WPh TB wire_List_cx 28 0 wire_List_code (wire_List_an o) (wire_List_sh.st TB x) (retTQ TB wire_List_cx wire_List_sh wire_List_rs o)
set_option maxRecDepth 100000 in
theorem wire_List_obl (o : wire_List_O) : OblH TB wire_List_cx 28 0 wire_List_code (wire_List_an o) (retTQ TB wire_List_cx wire_List_sh wire_List_rs o) :=
  OblH.of_eq (X := (True ∧ (True ∧ ((True ∧ ((∀ nx i, (wire_List_L1 o) nx i = (wire_List_L1 o) nx i) ∧ ∀ nx1 : HL TB.den wire_List_T1.hs → Prop, (True ∧ ((True ∧ True) ∧ ((True ∧ True) ∧ True))))) ∧ (True ∧ True))))) (by kernel_rfl) ⟨trivial, ⟨trivial, ⟨⟨trivial, ⟨fun _ _ => rfl, fun _ => ⟨trivial, ⟨⟨trivial, trivial⟩, ⟨⟨trivial, trivial⟩, trivial⟩⟩⟩⟩⟩, ⟨trivial, trivial⟩⟩⟩⟩
set_option maxRecDepth 100000 in
theorem wire_List_snd {x : wire_List_I} {o : wire_List_O} (h : wire_List_Body x o) : SoundH Try.prog wire_List_sh.f ((wire_List_sh.args idf x).map (er TB)) ((wire_List_sh.obs idf x).map (erO TB)) (er TB (wire_List_sh.val idf o)) ((wire_List_sh.ops idf o).map (erO TB)) :=
  Con.soundH (c := wire_List_sh) (C := wire_List_cx) TBok ⟨inf_ok, (all_cons wire_room_2_ok (all_cons wire_appendLength_ok (all_cons wire_appendDigits_ok all_nil))), all_nil⟩ mix Try.func56 (show Try.f56.body = some wire_List_code by kernel_rfl) (show Try.f56.ntmps = 28 by kernel_rfl) (show Try.f56.results.toList = wire_List_rs by kernel_rfl) rfl h (wire_List_obl o)
set_option maxRecDepth 100000 in
theorem wire_List_in {p0 : List Int} {p1 : List Int} {r0 : List Int} (h :
(let v1 : Int := IntKind.i64.wrap (4 + (IntKind.i64.wrap (8 * (p1.length : Int))))
(0 ≤ v1 ∧ p0.length + v1 ≤ 140737488355328) ∧ (p0 = p0) ∧ ((-9223372036854775808 ≤ (p1.length : Int) ∧ (p1.length : Int) ≤ 9223372036854775807) ∧ p0.length ≤ 137438953472) ∧ (p0 ++ dig 4 (len4 (p1.length : Int)) = p0 ++ dig 4 (len4 (p1.length : Int))) ∧ Md.Loop (p1, ((p1.length : Int) : Int), (0 : Int), (p0 ++ dig 4 (len4 (p1.length : Int)) : List Int), ()) (wire_List_L1 (r0, ())))) : wire_List_Body (p0, p1, ()) (r0, ()) := WPh.of_eq (by kernel_rfl) h
def wire_List_B1 (r0 : List Int) (k1 : Int → List Int → Prop) (s17 : List Int) (s18 : Int) (s19 : Int) (g0 : List Int) : Prop :=
(decide (s19 < s18) = true →
(0 ≤ s19) ∧ s19 < (s17.length : Int) ∧ (g0 = g0) ∧ (U64 (ix s17 s19) ∧ (0 ≤ (8 : Int) ∧ (8 : Int) ≤ 8) ∧ g0.length ≤ 137438953472) ∧ (g0 ++ dig (8 : Int).toNat (ix s17 s19) = g0 ++ dig (8 : Int).toNat (ix s17 s19)) ∧ k1 (IntKind.i64.wrap (s19 + 1) : Int) (g0 ++ dig (8 : Int).toNat (ix s17 s19) : List Int)) ∧
(decide (s19 < s18) = false →
 g0 = r0)
set_option maxRecDepth 100000 in
theorem wire_List_lp1 {r0 : List Int} {s17 : List Int} {s18 : Int} {s19 : Int} {g0 : List Int} (inv : Int → List Int → Prop) (μ : Int → List Int → Nat) (h0 : inv s19 g0) (hs : ∀ (s19 : Int) (g0 : List Int), inv s19 g0 → wire_List_B1 r0 (fun s19q g0q => inv s19q g0q ∧ μ s19q g0q < μ s19 g0) s17 s18 s19 g0) : Md.Loop (s17, s18, s19, g0, ()) (wire_List_L1 (r0, ())) :=
  ⟨⟨fun s : (List Int) × Int × Int × (List Int) × Unit => (s.1 = s17 ∧ s.2.1 = s18) ∧ inv s.2.2.1 s.2.2.2.1, fun s : (List Int) × Int × Int × (List Int) × Unit => μ s.2.2.1 s.2.2.2.1, ⟨⟨rfl, rfl⟩, h0⟩, fun (s17p, s18p, s19p, g0p, ()) ⟨⟨eq0, eq1⟩, hi⟩ => by
    have eq0 : s17p = s17 := eq0; subst s17p; have eq1 : s18p = s18 := eq1; subst s18p; exact mpr_of (by kernel_rfl) ((congrArg (fun k => wire_List_B1 r0 k s17 s18 s19p g0p) (lpk2 (⟨rfl, rfl⟩ : s17 = s17 ∧ s18 = s18) inv (fun s19q g0q => μ s19q g0q < μ s19p g0p))).mpr (hs s19p g0p hi))⟩⟩
theorem bd56 : Callable Try.prog 56 := ⟨by rw [Try.func56]; kernel_rfl, by rw [Try.func56]; show some _ ≠ some _; decide⟩
theorem wire_List_body (p0 : List Int) (p1 : List Int) (h : Us p1 ∧ p0.length ≤ 68719476736 ∧ p1.length ≤ 4294967295) : wire_List_Body (p0, p1, ()) ((p0 ++ encL p1 : List Int), ()) := by
  obtain ⟨h1, h2, h3⟩ := h
  refine wire_List_in ?_
  rw [wi (8 * (p1.length : Int)) (by omega) (by omega), wi (4 + 8 * (p1.length : Int)) (by omega) (by omega)]
  refine ⟨⟨by omega, by omega⟩, by trivial, ⟨by omega, by omega⟩, by trivial, ?_⟩
  refine wire_List_lp1 (fun i g => 0 ≤ i ∧ i ≤ p1.length ∧ g = p0 ++ dig 4 (len4 p1.length) ++ (p1.take i.toNat).flatMap (dig 8)) (fun i _ => (p1.length - i).toNat) ⟨by omega, by omega, by simp⟩ ?_
  rintro i g ⟨g0, g1, rfl⟩
  refine ⟨fun h => ?_, fun h => ?_⟩
  · have h := of_decide_eq_true h
    have hx := h1 _ (ix_mem p1 i g0 h)
    rw [inc i p1.length g0 h (by omega)]
    refine ⟨g0, h, by trivial, ⟨hx, by omega, ?_⟩, by trivial, ⟨by omega, by omega, ?_⟩, by omega⟩
    · simp only [List.length_append, dig_length, flat8_length, List.length_take]; omega
    · rw [take_succ_ix p1 i g0 h, List.flatMap_append, List.append_assoc]
      simp
  · have h := of_decide_eq_false h
    rw [List.take_of_length_le (by omega), List.append_assoc]
    rfl
noncomputable def wire_List_con : Con TB.den := wire_List_sh.fnR (fun x => (fun (p0 : List Int) (p1 : List Int) => Us p1 ∧ p0.length ≤ 68719476736 ∧ p1.length ≤ 4294967295) x.1 x.2.1) fun x => ((fun (p0 : List Int) (p1 : List Int) => (p0 ++ encL p1 : List Int)) x.1 x.2.1, ())
theorem wire_List_ok : wire_List_con.Ok Try.prog TB := Con.ok_fn wire_List_sh bd56 fun x h => wire_List_snd (wire_List_body x.1 x.2.1 h)
end Go.Proofs.Ytdbnagpoknmoiaa
namespace Go.Proofs.Ytdbnagpoknmoiaa
open Go Go.Bv Go.Cv Go.Md Go.RowKit
def wire_Uint_sh : Con TB.den := Con.mk0 55 [.one (.d (.sl (.int .u8))), .one (.d (.int .u64))] [] (.one (.one (.d (.sl (.int .u8))))) []
abbrev wire_Uint_I := HL TB.den (hsT wire_Uint_sh.ins (hsOs wire_Uint_sh.pre))
abbrev wire_Uint_O := HL TB.den (hsV wire_Uint_sh.res (hsOs wire_Uint_sh.post))
noncomputable def wire_Uint_cx : Cx TB := ⟨inf, [wire_room_2_con, wire_appendDigits_con], [], 4⟩
noncomputable def wire_Uint_code : Code := Try.f55.body.getD .skip
noncomputable def wire_Uint_rs : List ResultVar := Try.f55.results.toList
noncomputable def wire_Uint_an (o : wire_Uint_O) : An TB := .no
noncomputable def wire_Uint_Body (x : wire_Uint_I) (o : wire_Uint_O) : Prop := WPh TB wire_Uint_cx 9 0 wire_Uint_code (wire_Uint_an o) (wire_Uint_sh.st TB x) (retTQ TB wire_Uint_cx wire_Uint_sh wire_Uint_rs o)
set_option maxRecDepth 100000 in
theorem wire_Uint_obl (o : wire_Uint_O) : OblH TB wire_Uint_cx 9 0 wire_Uint_code (wire_Uint_an o) (retTQ TB wire_Uint_cx wire_Uint_sh wire_Uint_rs o) :=
  OblH.of_eq (X := (True ∧ (True ∧ True))) (by kernel_rfl) ⟨trivial, ⟨trivial, trivial⟩⟩
set_option maxRecDepth 100000 in
theorem wire_Uint_snd {x : wire_Uint_I} {o : wire_Uint_O} (h : wire_Uint_Body x o) : SoundH Try.prog wire_Uint_sh.f ((wire_Uint_sh.args idf x).map (er TB)) ((wire_Uint_sh.obs idf x).map (erO TB)) (er TB (wire_Uint_sh.val idf o)) ((wire_Uint_sh.ops idf o).map (erO TB)) :=
  Con.soundH (c := wire_Uint_sh) (C := wire_Uint_cx) TBok ⟨inf_ok, (all_cons wire_room_2_ok (all_cons wire_appendDigits_ok all_nil)), all_nil⟩ mix Try.func55 (show Try.f55.body = some wire_Uint_code by kernel_rfl) (show Try.f55.ntmps = 9 by kernel_rfl) (show Try.f55.results.toList = wire_Uint_rs by kernel_rfl) rfl h (wire_Uint_obl o)
set_option maxRecDepth 100000 in
theorem wire_Uint_in {p0 : List Int} {p1 : Int} {r0 : List Int} (h :
((0 ≤ (8 : Int) ∧ p0.length + (8 : Int) ≤ 140737488355328) ∧ (p0 = p0) ∧ (U64 p1 ∧ (0 ≤ (8 : Int) ∧ (8 : Int) ≤ 8) ∧ p0.length ≤ 137438953472) ∧ p0 ++ dig (8 : Int).toNat p1 = r0)) : wire_Uint_Body (p0, p1, ()) (r0, ()) := WPh.of_eq (by kernel_rfl) h
theorem bd55 : Callable Try.prog 55 := ⟨by rw [Try.func55]; kernel_rfl, by rw [Try.func55]; show some _ ≠ some _; decide⟩
theorem wire_Uint_body (p0 : List Int) (p1 : Int) (h : U64 p1 ∧ p0.length ≤ 137438953472) : wire_Uint_Body (p0, p1, ()) ((p0 ++ dig 8 p1 : List Int), ()) := by
  obtain ⟨h1, h2⟩ := h
  refine wire_Uint_in ⟨⟨by omega, by omega⟩, by trivial, ⟨h1, by omega, h2⟩, rfl⟩
noncomputable def wire_Uint_con : Con TB.den := wire_Uint_sh.fnR (fun x => (fun (p0 : List Int) (p1 : Int) => U64 p1 ∧ p0.length ≤ 137438953472) x.1 x.2.1) fun x => ((fun (p0 : List Int) (p1 : Int) => (p0 ++ dig 8 p1 : List Int)) x.1 x.2.1, ())
theorem wire_Uint_ok : wire_Uint_con.Ok Try.prog TB := Con.ok_fn wire_Uint_sh bd55 fun x h => wire_Uint_snd (wire_Uint_body x.1 x.2.1 h)
end Go.Proofs.Ytdbnagpoknmoiaa
namespace Go.Proofs.Ytdbnagpoknmoiaa
open Go Go.Bv Go.Cv Go.Md Go.RowKit
def tx_encode_sh : Con TB.den := Con.mk0 34 [.agg [.d (.int .u64), .d (.sl (.int .u64)), .d (.sl (.st 0)), .d (.int .u64), .d (.int .u64), .d (.int .u64), .d (.int .u64), .d (.int .u64), .d (.int .i64), .d (.sl (.int .u8))], .one (.d (.sl (.int .u8)))] [] (.one (.one (.d (.sl (.int .u8))))) []
abbrev tx_encode_I := HL TB.den (hsT tx_encode_sh.ins (hsOs tx_encode_sh.pre))
abbrev tx_encode_O := HL TB.den (hsV tx_encode_sh.res (hsOs tx_encode_sh.post))
noncomputable def tx_encode_cx : Cx TB := ⟨inf, [wire_Uint_con, wire_List_con, wire_Int_con, wire_Bytes_con], [], 4⟩
noncomputable def tx_encode_code : Code := Try.f34.body.getD .skip
noncomputable def tx_encode_rs : List ResultVar := Try.f34.results.toList
noncomputable def tx_encode_Q1 (o : tx_encode_O) : Exit → TSt TB.den → Prop := thenT TB (fun s => ghs TB [] s fun s => WP TB tx_encode_cx 73 0 (cB (cB (cB (cB (cB tx_encode_code))))) .no s (retTQ TB tx_encode_cx tx_encode_sh tx_encode_rs o)) (retTQ TB tx_encode_cx tx_encode_sh tx_encode_rs o)
def tx_encode_T1 : Tm := ⟨[0], [.cells [.d (.int .u64), .d (.sl (.int .u64)), .d (.sl (.st 0)), .d (.int .u64), .d (.int .u64), .d (.int .u64), .d (.int .u64), .d (.int .u64), .d (.int .i64), .d (.sl (.int .u8))]], [1, 2, 5, 21, 22, 23], [.one (.d (.sl (.int .u8))), .one (.ptr 0 0), .one (.d (.sl (.int .u8))), .one (.d (.sl (.st 0))), .one (.d (.int .i64)), .one (.d (.int .i64))], 1⟩
noncomputable def tx_encode_Q2 (o : tx_encode_O) (nx1 : HL TB.den tx_encode_T1.hs → Prop) : Exit → TSt TB.den → Prop := thenT TB (fun s => tx_encode_T1.mat TB 0 s nx1) (blockT TB 0 (tx_encode_Q1 o))
noncomputable def tx_encode_L1 (o : tx_encode_O) (nx1 : HL TB.den tx_encode_T1.hs → Prop) (i : HL TB.den tx_encode_T1.hs) : Prop := WP TB tx_encode_cx 73 0 (cA (cA (cB (cA (cB (cB (cB (cB tx_encode_code)))))))) .no (tx_encode_T1.fill TB i) (tx_encode_Q2 o nx1)
noncomputable def tx_encode_A5 (o : tx_encode_O) : An TB := .nd [] .no [] (.lp [] tx_encode_T1 (tx_encode_L1 o) fun nx1 => .no)
noncomputable def tx_encode_A6 (o : tx_encode_O) : An TB := .nd [] .no [] (.nd [] .no [] (.nd [] (tx_encode_A5 o) [] .no))
noncomputable def tx_encode_an (o : tx_encode_O) : An TB := .nd [] .no [] (.nd [] .no [] (tx_encode_A6 o))
noncomputable def tx_encode_Body (x : tx_encode_I) (o : tx_encode_O) : Prop := WPh TB tx_encode_cx 73 0 tx_encode_code (tx_encode_an o) (tx_encode_sh.st TB x) (retTQ TB tx_encode_cx tx_encode_sh tx_encode_rs o)
set_option maxRecDepth 100000 in
theorem tx_encode_obl (o : tx_encode_O) : OblH TB tx_encode_cx 73 0 tx_encode_code (tx_encode_an o) (retTQ TB tx_encode_cx tx_encode_sh tx_encode_rs o) :=
  OblH.of_eq (X := (True ∧ (True ∧ (True ∧ (True ∧ ((True ∧ ((∀ nx i, (tx_encode_L1 o) nx i = (tx_encode_L1 o) nx i) ∧ ∀ nx1 : HL TB.den tx_encode_T1.hs → Prop, (True ∧ ((True ∧ True) ∧ ((True ∧ (True ∧ (True ∧ (True ∧ True)))) ∧ True))))) ∧ (True ∧ (True ∧ (True ∧ (True ∧ (True ∧ (True ∧ (True ∧ True))))))))))))) (by kernel_rfl) ⟨trivial, ⟨trivial, ⟨trivial, ⟨trivial, ⟨⟨trivial, ⟨fun _ _ => rfl, fun _ => ⟨trivial, ⟨⟨trivial, trivial⟩, ⟨⟨trivial, ⟨trivial, ⟨trivial, ⟨trivial, trivial⟩⟩⟩⟩, trivial⟩⟩⟩⟩⟩, ⟨trivial, ⟨trivial, ⟨trivial, ⟨trivial, ⟨trivial, ⟨trivial, ⟨trivial, trivial⟩⟩⟩⟩⟩⟩⟩⟩⟩⟩⟩⟩
set_option maxRecDepth 100000 in
theorem tx_encode_snd {x : tx_encode_I} {o : tx_encode_O} (h : tx_encode_Body x o) : SoundH Try.prog tx_encode_sh.f ((tx_encode_sh.args idf x).map (er TB)) ((tx_encode_sh.obs idf x).map (erO TB)) (er TB (tx_encode_sh.val idf o)) ((tx_encode_sh.ops idf o).map (erO TB)) :=
  Con.soundH (c := tx_encode_sh) (C := tx_encode_cx) TBok ⟨inf_ok, (all_cons wire_Uint_ok (all_cons wire_List_ok (all_cons wire_Int_ok (all_cons wire_Bytes_ok all_nil)))), all_nil⟩ mix Try.func34 (show Try.f34.body = some tx_encode_code by kernel_rfl) (show Try.f34.ntmps = 73 by kernel_rfl) (show Try.f34.results.toList = tx_encode_rs by kernel_rfl) rfl h (tx_encode_obl o)
set_option maxRecDepth 100000 in
theorem tx_encode_in {p0 : TTx} {p1 : List Int} {r0 : List Int} (h :
((U64 p0.Anchor ∧ ([] : List Int).length ≤ 137438953472) ∧ (Us p0.Marks ∧ (([] : List Int) ++ dig 8 p0.Anchor).length ≤ 68719476736 ∧ p0.Marks.length ≤ 4294967295) ∧ let r1 : List Int := (([] : List Int) ++ dig 8 p0.Anchor) ++ encL p0.Marks
((-9223372036854775808 ≤ (p0.Outs.length : Int) ∧ (p0.Outs.length : Int) ≤ 9223372036854775807) ∧ r1.length ≤ 137438953472) ∧ let r2 : List Int := r1 ++ dig 4 (len4 (p0.Outs.length : Int))
 Md.Loop (p1, r2, p0.Outs, ((p0.Outs.length : Int) : Int), (0 : Int), p0.Anchor, p0.Marks, p0.Outs, p0.Deposit, p0.Withdraw, p0.Fee, p0.Account, p0.Nonce, p0.Expiry, p0.Proof, ()) (tx_encode_L1 (r0, ())))) : tx_encode_Body (p0.Anchor, p0.Marks, p0.Outs, p0.Deposit, p0.Withdraw, p0.Fee, p0.Account, p0.Nonce, p0.Expiry, p0.Proof, p1, ()) (r0, ()) := WPh.of_eq (by kernel_rfl) h
def tx_encode_B1 (r0 : List Int) (k1 : List Int → Int → Prop) (s1 : List Int) (s21 : List TOut) (s22 : Int) (h0_0 : Int) (h0_1 : List Int) (h0_2 : List TOut) (h0_3 : Int) (h0_4 : Int) (h0_5 : Int) (h0_6 : Int) (h0_7 : Int) (h0_8 : Int) (h0_9 : List Int) (s5 : List Int) (s23 : Int) : Prop :=
(decide (s23 < s22) = true →
(0 ≤ s23) ∧ s23 < (s21.length : Int) ∧ (U64 ((ix s21 s23).Commit) ∧ s5.length ≤ 137438953472) ∧ (U64 ((ix s21 s23).Point_a0) ∧ (s5 ++ dig 8 ((ix s21 s23).Commit)).length ≤ 137438953472) ∧ let r3 : List Int := (s5 ++ dig 8 ((ix s21 s23).Commit)) ++ dig 8 ((ix s21 s23).Point_a0)
(U64 ((ix s21 s23).Point_a1) ∧ r3.length ≤ 137438953472) ∧ (Us ((ix s21 s23).Cipher) ∧ (r3 ++ dig 8 ((ix s21 s23).Point_a1)).length ≤ 68719476736 ∧ ((ix s21 s23).Cipher).length ≤ 4294967295) ∧ let r4 : List Int := (r3 ++ dig 8 ((ix s21 s23).Point_a1)) ++ encL ((ix s21 s23).Cipher)
 k1 r4 (IntKind.i64.wrap (s23 + 1) : Int)) ∧
(decide (s23 < s22) = false →
(U64 h0_3 ∧ s5.length ≤ 137438953472) ∧ (U64 h0_4 ∧ (s5 ++ dig 8 h0_3).length ≤ 137438953472) ∧ (U64 h0_5 ∧ ((s5 ++ dig 8 h0_3) ++ dig 8 h0_4).length ≤ 137438953472) ∧ let r5 : List Int := ((s5 ++ dig 8 h0_3) ++ dig 8 h0_4) ++ dig 8 h0_5
(U64 h0_6 ∧ r5.length ≤ 137438953472) ∧ (U64 h0_7 ∧ (r5 ++ dig 8 h0_6).length ≤ 137438953472) ∧ ((-9223372036854775808 ≤ h0_8 ∧ h0_8 ≤ 9223372036854775807) ∧ ((r5 ++ dig 8 h0_6) ++ dig 8 h0_7).length ≤ 137438953472) ∧ let r6 : List Int := ((r5 ++ dig 8 h0_6) ++ dig 8 h0_7) ++ dig 4 (len4 h0_8)
(r6.length ≤ 68719476736 ∧ s1.length ≤ 4294967295) ∧ r6 ++ encB s1 = r0)
set_option maxRecDepth 100000 in
theorem tx_encode_lp1 {r0 : List Int} {s1 : List Int} {s21 : List TOut} {s22 : Int} {h0_0 : Int} {h0_1 : List Int} {h0_2 : List TOut} {h0_3 : Int} {h0_4 : Int} {h0_5 : Int} {h0_6 : Int} {h0_7 : Int} {h0_8 : Int} {h0_9 : List Int} {s5 : List Int} {s23 : Int} (inv : List Int → Int → Prop) (μ : List Int → Int → Nat) (h0 : inv s5 s23) (hs : ∀ (s5 : List Int) (s23 : Int), inv s5 s23 → tx_encode_B1 r0 (fun s5q s23q => inv s5q s23q ∧ μ s5q s23q < μ s5 s23) s1 s21 s22 h0_0 h0_1 h0_2 h0_3 h0_4 h0_5 h0_6 h0_7 h0_8 h0_9 s5 s23) : Md.Loop (s1, s5, s21, s22, s23, h0_0, h0_1, h0_2, h0_3, h0_4, h0_5, h0_6, h0_7, h0_8, h0_9, ()) (tx_encode_L1 (r0, ())) :=
  ⟨⟨fun s : (List Int) × (List Int) × (List TOut) × Int × Int × Int × (List Int) × (List TOut) × Int × Int × Int × Int × Int × Int × (List Int) × Unit => (s.1 = s1 ∧ s.2.2.1 = s21 ∧ s.2.2.2.1 = s22 ∧ s.2.2.2.2.2.1 = h0_0 ∧ s.2.2.2.2.2.2.1 = h0_1 ∧ s.2.2.2.2.2.2.2.1 = h0_2 ∧ s.2.2.2.2.2.2.2.2.1 = h0_3 ∧ s.2.2.2.2.2.2.2.2.2.1 = h0_4 ∧ s.2.2.2.2.2.2.2.2.2.2.1 = h0_5 ∧ s.2.2.2.2.2.2.2.2.2.2.2.1 = h0_6 ∧ s.2.2.2.2.2.2.2.2.2.2.2.2.1 = h0_7 ∧ s.2.2.2.2.2.2.2.2.2.2.2.2.2.1 = h0_8 ∧ s.2.2.2.2.2.2.2.2.2.2.2.2.2.2.1 = h0_9) ∧ inv s.2.1 s.2.2.2.2.1, fun s : (List Int) × (List Int) × (List TOut) × Int × Int × Int × (List Int) × (List TOut) × Int × Int × Int × Int × Int × Int × (List Int) × Unit => μ s.2.1 s.2.2.2.2.1, ⟨⟨rfl, rfl, rfl, rfl, rfl, rfl, rfl, rfl, rfl, rfl, rfl, rfl, rfl⟩, h0⟩, fun (s1p, s5p, s21p, s22p, s23p, h0_0p, h0_1p, h0_2p, h0_3p, h0_4p, h0_5p, h0_6p, h0_7p, h0_8p, h0_9p, ()) ⟨⟨eq0, eq1, eq2, eq3, eq4, eq5, eq6, eq7, eq8, eq9, eq10, eq11, eq12⟩, hi⟩ => by
    have eq0 : s1p = s1 := eq0; subst s1p; have eq1 : s21p = s21 := eq1; subst s21p; have eq2 : s22p = s22 := eq2; subst s22p; have eq3 : h0_0p = h0_0 := eq3; subst h0_0p; have eq4 : h0_1p = h0_1 := eq4; subst h0_1p; have eq5 : h0_2p = h0_2 := eq5; subst h0_2p; have eq6 : h0_3p = h0_3 := eq6; subst h0_3p; have eq7 : h0_4p = h0_4 := eq7; subst h0_4p; have eq8 : h0_5p = h0_5 := eq8; subst h0_5p; have eq9 : h0_6p = h0_6 := eq9; subst h0_6p; have eq10 : h0_7p = h0_7 := eq10; subst h0_7p; have eq11 : h0_8p = h0_8 := eq11; subst h0_8p; have eq12 : h0_9p = h0_9 := eq12; subst h0_9p; exact mpr_of (by kernel_rfl) ((congrArg (fun k => tx_encode_B1 r0 k s1 s21 s22 h0_0 h0_1 h0_2 h0_3 h0_4 h0_5 h0_6 h0_7 h0_8 h0_9 s5p s23p) (lpk2 (⟨rfl, rfl, rfl, rfl, rfl, rfl, rfl, rfl, rfl, rfl, rfl, rfl, rfl⟩ : s1 = s1 ∧ s21 = s21 ∧ s22 = s22 ∧ h0_0 = h0_0 ∧ h0_1 = h0_1 ∧ h0_2 = h0_2 ∧ h0_3 = h0_3 ∧ h0_4 = h0_4 ∧ h0_5 = h0_5 ∧ h0_6 = h0_6 ∧ h0_7 = h0_7 ∧ h0_8 = h0_8 ∧ h0_9 = h0_9) inv (fun s5q s23q => μ s5q s23q < μ s5p s23p))).mpr (hs s5p s23p hi))⟩⟩
theorem bd34 : Callable Try.prog 34 := ⟨by rw [Try.func34]; kernel_rfl, by rw [Try.func34]; show some _ ≠ some _; decide⟩
theorem tx_encode_body (p0 : TTx) (p1 : List Int) (h : TR p0 ∧ TL p0 ∧ p0.Outs.length ≤ 1048576 ∧ (∀ x ∈ p0.Outs, x.Cipher.length ≤ 1024) ∧ p1.length ≤ 4294967295) : tx_encode_Body (p0.Anchor, p0.Marks, p0.Outs, p0.Deposit, p0.Withdraw, p0.Fee, p0.Account, p0.Nonce, p0.Expiry, p0.Proof, p1, ()) ((encT p0 p1 : List Int), ()) := by
  obtain ⟨hr, hl, ho, hc, hp⟩ := h
  have hm := hl.m
  have hol := encOs_length
  refine tx_encode_in ⟨⟨hr.a, by simp⟩, ⟨hr.m, by simp, hm⟩, ⟨by omega, by simp; omega⟩, ?_⟩
  refine tx_encode_lp1 (fun b i => 0 ≤ i ∧ i ≤ p0.Outs.length ∧ b = dig 8 p0.Anchor ++ encL p0.Marks ++ dig 4 (len4 p0.Outs.length) ++ (p0.Outs.take i.toNat).flatMap encO) (fun _ i => (p0.Outs.length - i).toNat) ⟨by omega, by omega, by simp⟩ ?_
  rintro b i ⟨g0, g1, rfl⟩
  have hb := encOs_length (p0.Outs.take i.toNat) 1024 (fun x hx => hc x (List.mem_of_mem_take hx))
  rw [List.length_take] at hb
  have hb : ((p0.Outs.take i.toNat).flatMap encO).length ≤ 8700000000 := by
    refine Nat.le_trans hb ?_
    have : min i.toNat p0.Outs.length ≤ 1048576 := by omega
    have := Nat.mul_le_mul_left (28 + 8 * 1024) this
    omega
  refine ⟨fun h => ?_, fun h => ?_⟩
  · have h := of_decide_eq_true h
    have hx := hr.o _ (ix_mem p0.Outs i g0 h)
    have hxc := hc _ (ix_mem p0.Outs i g0 h)
    rw [inc i p0.Outs.length g0 h (by omega)]
    refine ⟨g0, h, ⟨hx.c, ?_⟩, ⟨hx.p0, ?_⟩, ⟨hx.p1, ?_⟩, ⟨hx.ci, ?_, by omega⟩, ⟨by omega, by omega, ?_⟩, by omega⟩
    · simp only [List.length_append, dig_length, encL_length]; omega
    · simp only [List.length_append, dig_length, encL_length]; omega
    · simp only [List.length_append, dig_length, encL_length]; omega
    · simp only [List.length_append, dig_length, encL_length]; omega
    · rw [take_succ_ix p0.Outs i g0 h, List.flatMap_append]
      simp [encO, List.append_assoc]
  · have h := of_decide_eq_false h
    rw [List.take_of_length_le (by omega)] at hb ⊢
    refine ⟨⟨hr.d, ?_⟩, ⟨hr.w, ?_⟩, ⟨hr.f, ?_⟩, ⟨hr.ac, ?_⟩, ⟨hr.n, ?_⟩, ⟨hr.e, ?_⟩, ⟨?_, hp⟩, rfl⟩ <;> simp only [List.length_append, dig_length, encL_length] <;> omega
noncomputable def tx_encode_con : Con TB.den := tx_encode_sh.fnR (fun x => (fun (p0 : TTx) (p1 : List Int) => TR p0 ∧ TL p0 ∧ p0.Outs.length ≤ 1048576 ∧ (∀ x ∈ p0.Outs, x.Cipher.length ≤ 1024) ∧ p1.length ≤ 4294967295) (TTx.mk x.1 x.2.1 x.2.2.1 x.2.2.2.1 x.2.2.2.2.1 x.2.2.2.2.2.1 x.2.2.2.2.2.2.1 x.2.2.2.2.2.2.2.1 x.2.2.2.2.2.2.2.2.1 x.2.2.2.2.2.2.2.2.2.1) x.2.2.2.2.2.2.2.2.2.2.1) fun x => ((fun (p0 : TTx) (p1 : List Int) => (encT p0 p1 : List Int)) (TTx.mk x.1 x.2.1 x.2.2.1 x.2.2.2.1 x.2.2.2.2.1 x.2.2.2.2.2.1 x.2.2.2.2.2.2.1 x.2.2.2.2.2.2.2.1 x.2.2.2.2.2.2.2.2.1 x.2.2.2.2.2.2.2.2.2.1) x.2.2.2.2.2.2.2.2.2.2.1, ())
theorem tx_encode_ok : tx_encode_con.Ok Try.prog TB := Con.ok_fn tx_encode_sh bd34 fun x h => tx_encode_snd (tx_encode_body (TTx.mk x.1 x.2.1 x.2.2.1 x.2.2.2.1 x.2.2.2.2.1 x.2.2.2.2.2.1 x.2.2.2.2.2.2.1 x.2.2.2.2.2.2.2.1 x.2.2.2.2.2.2.2.2.1 x.2.2.2.2.2.2.2.2.2.1) x.2.2.2.2.2.2.2.2.2.2.1 h)
end Go.Proofs.Ytdbnagpoknmoiaa
namespace Go.Proofs.Ytdbnagpoknmoiaa
open Go Go.Bv Go.Cv Go.Md Go.RowKit
def tx_Bind_sh : Con TB.den := Con.mk0 20 [.agg [.d (.int .u64), .d (.sl (.int .u64)), .d (.sl (.st 0)), .d (.int .u64), .d (.int .u64), .d (.int .u64), .d (.int .u64), .d (.int .u64), .d (.int .i64), .d (.sl (.int .u8))]] [] (.one (.one (.d (.int .u64)))) []
abbrev tx_Bind_I := HL TB.den (hsT tx_Bind_sh.ins (hsOs tx_Bind_sh.pre))
abbrev tx_Bind_O := HL TB.den (hsV tx_Bind_sh.res (hsOs tx_Bind_sh.post))
noncomputable def tx_Bind_cx : Cx TB := ⟨inf, [tx_Valid_con, tx_encode_con, sponge_HashBytes_con], [], 4⟩
noncomputable def tx_Bind_code : Code := Try.f20.body.getD .skip
noncomputable def tx_Bind_rs : List ResultVar := Try.f20.results.toList
noncomputable def tx_Bind_an (o : tx_Bind_O) : An TB := .no
noncomputable def tx_Bind_Body (x : tx_Bind_I) (o : tx_Bind_O) : Prop := WPh TB tx_Bind_cx 9 0 tx_Bind_code (tx_Bind_an o) (tx_Bind_sh.st TB x) (retTQ TB tx_Bind_cx tx_Bind_sh tx_Bind_rs o)
set_option maxRecDepth 100000 in
theorem tx_Bind_obl (o : tx_Bind_O) : OblH TB tx_Bind_cx 9 0 tx_Bind_code (tx_Bind_an o) (retTQ TB tx_Bind_cx tx_Bind_sh tx_Bind_rs o) :=
  OblH.of_eq (X := (True ∧ ((True ∧ ((True ∧ True) ∧ True)) ∧ (True ∧ True)))) (by kernel_rfl) ⟨trivial, ⟨⟨trivial, ⟨⟨trivial, trivial⟩, trivial⟩⟩, ⟨trivial, trivial⟩⟩⟩
set_option maxRecDepth 100000 in
theorem tx_Bind_snd {x : tx_Bind_I} {o : tx_Bind_O} (h : tx_Bind_Body x o) : SoundH Try.prog tx_Bind_sh.f ((tx_Bind_sh.args idf x).map (er TB)) ((tx_Bind_sh.obs idf x).map (erO TB)) (er TB (tx_Bind_sh.val idf o)) ((tx_Bind_sh.ops idf o).map (erO TB)) :=
  Con.soundH (c := tx_Bind_sh) (C := tx_Bind_cx) TBok ⟨inf_ok, (all_cons tx_Valid_ok (all_cons tx_encode_ok (all_cons sponge_HashBytes_ok all_nil))), all_nil⟩ mix Try.func20 (show Try.f20.body = some tx_Bind_code by kernel_rfl) (show Try.f20.ntmps = 9 by kernel_rfl) (show Try.f20.results.toList = tx_Bind_rs by kernel_rfl) rfl h (tx_Bind_obl o)
set_option maxRecDepth 100000 in
theorem tx_Bind_in {p0 : TTx} {r0 : Int} (h :
((((validE p0) != 0) = true →
 0 = r0) ∧
(((validE p0) != 0) = false →
(TR p0 ∧ TL p0 ∧ p0.Outs.length ≤ 1048576 ∧ (∀ x ∈ p0.Outs, x.Cipher.length ≤ 1024) ∧ ([] : List Int).length ≤ 4294967295) ∧ (U64 (13 : Int) ∧ By (encT p0 ([] : List Int)) ∧ (encT p0 ([] : List Int)).length ≤ 1099511627775) ∧ let r1 : Int := hashB (13 : Int) (encT p0 ([] : List Int))
 r1 = r0))) : tx_Bind_Body (p0.Anchor, p0.Marks, p0.Outs, p0.Deposit, p0.Withdraw, p0.Fee, p0.Account, p0.Nonce, p0.Expiry, p0.Proof, ()) (r0, ()) := WPh.of_eq (by kernel_rfl) h
theorem bd20 : Callable Try.prog 20 := ⟨by rw [Try.func20]; kernel_rfl, by rw [Try.func20]; show some _ ≠ some _; decide⟩
theorem tx_Bind_body (p0 : TTx) (h : TR p0) : tx_Bind_Body (p0.Anchor, p0.Marks, p0.Outs, p0.Deposit, p0.Withdraw, p0.Fee, p0.Account, p0.Nonce, p0.Expiry, p0.Proof, ()) ((bindS p0 : Int), ()) := by
  refine tx_Bind_in ?_
  unfold bindS
  refine ⟨fun e => ?_, fun e => ?_⟩
  · have e : validE p0 ≠ 0 := by simpa using e
    rw [if_neg e]
  · have e : validE p0 = 0 := by simpa using e
    have v := (validE_zero p0).1 e
    rw [if_pos e]
    refine ⟨⟨h, v.tl, by have := v.ol; omega, fun x hx => by have := (v.o x hx).l; omega, by simp⟩, ⟨by omega, encT_by (by intro x hx; cases hx), ?_⟩, rfl⟩
    have := v.enc_len []
    simp at this ⊢
    omega
noncomputable def tx_Bind_con : Con TB.den := tx_Bind_sh.fnR (fun x => (fun (p0 : TTx) => TR p0) (TTx.mk x.1 x.2.1 x.2.2.1 x.2.2.2.1 x.2.2.2.2.1 x.2.2.2.2.2.1 x.2.2.2.2.2.2.1 x.2.2.2.2.2.2.2.1 x.2.2.2.2.2.2.2.2.1 x.2.2.2.2.2.2.2.2.2.1)) fun x => ((fun (p0 : TTx) => (bindS p0 : Int)) (TTx.mk x.1 x.2.1 x.2.2.1 x.2.2.2.1 x.2.2.2.2.1 x.2.2.2.2.2.1 x.2.2.2.2.2.2.1 x.2.2.2.2.2.2.2.1 x.2.2.2.2.2.2.2.2.1 x.2.2.2.2.2.2.2.2.2.1), ())
theorem tx_Bind_ok : tx_Bind_con.Ok Try.prog TB := Con.ok_fn tx_Bind_sh bd20 fun x h => tx_Bind_snd (tx_Bind_body (TTx.mk x.1 x.2.1 x.2.2.1 x.2.2.2.1 x.2.2.2.2.1 x.2.2.2.2.2.1 x.2.2.2.2.2.2.1 x.2.2.2.2.2.2.2.1 x.2.2.2.2.2.2.2.2.1 x.2.2.2.2.2.2.2.2.2.1) h)
end Go.Proofs.Ytdbnagpoknmoiaa
namespace Go.Proofs.Ytdbnagpoknmoiaa
open Go Go.Bv Go.Cv Go.Md Go.RowKit
def tx_Encode_sh : Con TB.den := Con.mk0 15 [.agg [.d (.int .u64), .d (.sl (.int .u64)), .d (.sl (.st 0)), .d (.int .u64), .d (.int .u64), .d (.int .u64), .d (.int .u64), .d (.int .u64), .d (.int .i64), .d (.sl (.int .u8))]] [] (.tup [.one (.d (.sl (.int .u8))), .one (.d (.int .i64))]) []
abbrev tx_Encode_I := HL TB.den (hsT tx_Encode_sh.ins (hsOs tx_Encode_sh.pre))
abbrev tx_Encode_O := HL TB.den (hsV tx_Encode_sh.res (hsOs tx_Encode_sh.post))
noncomputable def tx_Encode_cx : Cx TB := ⟨inf, [tx_Valid_con, tx_encode_con], [], 4⟩
noncomputable def tx_Encode_code : Code := Try.f15.body.getD .skip
noncomputable def tx_Encode_rs : List ResultVar := Try.f15.results.toList
noncomputable def tx_Encode_an (o : tx_Encode_O) : An TB := .no
noncomputable def tx_Encode_Body (x : tx_Encode_I) (o : tx_Encode_O) : Prop := WPh TB tx_Encode_cx 14 0 tx_Encode_code (tx_Encode_an o) (tx_Encode_sh.st TB x) (retTQ TB tx_Encode_cx tx_Encode_sh tx_Encode_rs o)
set_option maxRecDepth 100000 in
theorem tx_Encode_obl (o : tx_Encode_O) : OblH TB tx_Encode_cx 14 0 tx_Encode_code (tx_Encode_an o) (retTQ TB tx_Encode_cx tx_Encode_sh tx_Encode_rs o) :=
  OblH.of_eq (X := (True ∧ ((True ∧ (True ∧ ((True ∧ True) ∧ True))) ∧ (True ∧ True)))) (by kernel_rfl) ⟨trivial, ⟨⟨trivial, ⟨trivial, ⟨⟨trivial, trivial⟩, trivial⟩⟩⟩, ⟨trivial, trivial⟩⟩⟩
set_option maxRecDepth 100000 in
theorem tx_Encode_snd {x : tx_Encode_I} {o : tx_Encode_O} (h : tx_Encode_Body x o) : SoundH Try.prog tx_Encode_sh.f ((tx_Encode_sh.args idf x).map (er TB)) ((tx_Encode_sh.obs idf x).map (erO TB)) (er TB (tx_Encode_sh.val idf o)) ((tx_Encode_sh.ops idf o).map (erO TB)) :=
  Con.soundH (c := tx_Encode_sh) (C := tx_Encode_cx) TBok ⟨inf_ok, (all_cons tx_Valid_ok (all_cons tx_encode_ok all_nil)), all_nil⟩ mix Try.func15 (show Try.f15.body = some tx_Encode_code by kernel_rfl) (show Try.f15.ntmps = 14 by kernel_rfl) (show Try.f15.results.toList = tx_Encode_rs by kernel_rfl) rfl h (tx_Encode_obl o)
set_option maxRecDepth 100000 in
theorem tx_Encode_in {p0 : TTx} {r0 : List Int} {r1 : Int} (h :
((((validE p0) != 0) = true →
([] : List Int) = r0 ∧ validE p0 = r1) ∧
(((validE p0) != 0) = false →
(TR p0 ∧ TL p0 ∧ p0.Outs.length ≤ 1048576 ∧ (∀ x ∈ p0.Outs, x.Cipher.length ≤ 1024) ∧ p0.Proof.length ≤ 4294967295) ∧ encT p0 p0.Proof = r0 ∧ 0 = r1))) : tx_Encode_Body (p0.Anchor, p0.Marks, p0.Outs, p0.Deposit, p0.Withdraw, p0.Fee, p0.Account, p0.Nonce, p0.Expiry, p0.Proof, ()) (r0, r1, ()) := WPh.of_eq (by kernel_rfl) h
theorem bd15 : Callable Try.prog 15 := ⟨by rw [Try.func15]; kernel_rfl, by rw [Try.func15]; show some _ ≠ some _; decide⟩
theorem tx_Encode_body (p0 : TTx) (h : TR p0) : tx_Encode_Body (p0.Anchor, p0.Marks, p0.Outs, p0.Deposit, p0.Withdraw, p0.Fee, p0.Account, p0.Nonce, p0.Expiry, p0.Proof, ()) (((if validE p0 = 0 then encT p0 p0.Proof else []) : List Int), (validE p0 : Int), ()) := by
  refine tx_Encode_in ⟨fun e => ?_, fun e => ?_⟩
  · have e : validE p0 ≠ 0 := by simpa using e
    rw [if_neg e]
    exact ⟨rfl, rfl⟩
  · have e : validE p0 = 0 := by simpa using e
    have v := (validE_zero p0).1 e
    rw [if_pos e, e]
    exact ⟨⟨h, v.tl, by have := v.ol; omega, fun x hx => by have := (v.o x hx).l; omega, v.tl.p⟩, rfl, rfl⟩
noncomputable def tx_Encode_con : Con TB.den := tx_Encode_sh.fnR (fun x => (fun (p0 : TTx) => TR p0) (TTx.mk x.1 x.2.1 x.2.2.1 x.2.2.2.1 x.2.2.2.2.1 x.2.2.2.2.2.1 x.2.2.2.2.2.2.1 x.2.2.2.2.2.2.2.1 x.2.2.2.2.2.2.2.2.1 x.2.2.2.2.2.2.2.2.2.1)) fun x => ((fun (p0 : TTx) => ((if validE p0 = 0 then encT p0 p0.Proof else []) : List Int)) (TTx.mk x.1 x.2.1 x.2.2.1 x.2.2.2.1 x.2.2.2.2.1 x.2.2.2.2.2.1 x.2.2.2.2.2.2.1 x.2.2.2.2.2.2.2.1 x.2.2.2.2.2.2.2.2.1 x.2.2.2.2.2.2.2.2.2.1), (fun (p0 : TTx) => (validE p0 : Int)) (TTx.mk x.1 x.2.1 x.2.2.1 x.2.2.2.1 x.2.2.2.2.1 x.2.2.2.2.2.1 x.2.2.2.2.2.2.1 x.2.2.2.2.2.2.2.1 x.2.2.2.2.2.2.2.2.1 x.2.2.2.2.2.2.2.2.2.1), ())
theorem tx_Encode_ok : tx_Encode_con.Ok Try.prog TB := Con.ok_fn tx_Encode_sh bd15 fun x h => tx_Encode_snd (tx_Encode_body (TTx.mk x.1 x.2.1 x.2.2.1 x.2.2.2.1 x.2.2.2.2.1 x.2.2.2.2.2.1 x.2.2.2.2.2.2.1 x.2.2.2.2.2.2.2.1 x.2.2.2.2.2.2.2.2.1 x.2.2.2.2.2.2.2.2.2.1) h)
end Go.Proofs.Ytdbnagpoknmoiaa
namespace Go.Proofs.Ytdbnagpoknmoiaa
open Go Go.Bv Go.Cv Go.Md Go.RowKit
def tx_ID_sh : Con TB.den := Con.mk0 27 [.agg [.d (.int .u64), .d (.sl (.int .u64)), .d (.sl (.st 0)), .d (.int .u64), .d (.int .u64), .d (.int .u64), .d (.int .u64), .d (.int .u64), .d (.int .i64), .d (.sl (.int .u8))]] [] (.one (.one (.d (.int .u64)))) []
abbrev tx_ID_I := HL TB.den (hsT tx_ID_sh.ins (hsOs tx_ID_sh.pre))
abbrev tx_ID_O := HL TB.den (hsV tx_ID_sh.res (hsOs tx_ID_sh.post))
noncomputable def tx_ID_cx : Cx TB := ⟨inf, [tx_Encode_con, sponge_HashBytes_con], [], 4⟩
noncomputable def tx_ID_code : Code := Try.f27.body.getD .skip
noncomputable def tx_ID_rs : List ResultVar := Try.f27.results.toList
noncomputable def tx_ID_an (o : tx_ID_O) : An TB := .no
noncomputable def tx_ID_Body (x : tx_ID_I) (o : tx_ID_O) : Prop := WPh TB tx_ID_cx 14 0 tx_ID_code (tx_ID_an o) (tx_ID_sh.st TB x) (retTQ TB tx_ID_cx tx_ID_sh tx_ID_rs o)
set_option maxRecDepth 100000 in
theorem tx_ID_obl (o : tx_ID_O) : OblH TB tx_ID_cx 14 0 tx_ID_code (tx_ID_an o) (retTQ TB tx_ID_cx tx_ID_sh tx_ID_rs o) :=
  OblH.of_eq (X := (True ∧ (True ∧ ((True ∧ ((True ∧ True) ∧ True)) ∧ (True ∧ True))))) (by kernel_rfl) ⟨trivial, ⟨trivial, ⟨⟨trivial, ⟨⟨trivial, trivial⟩, trivial⟩⟩, ⟨trivial, trivial⟩⟩⟩⟩
set_option maxRecDepth 100000 in
theorem tx_ID_snd {x : tx_ID_I} {o : tx_ID_O} (h : tx_ID_Body x o) : SoundH Try.prog tx_ID_sh.f ((tx_ID_sh.args idf x).map (er TB)) ((tx_ID_sh.obs idf x).map (erO TB)) (er TB (tx_ID_sh.val idf o)) ((tx_ID_sh.ops idf o).map (erO TB)) :=
  Con.soundH (c := tx_ID_sh) (C := tx_ID_cx) TBok ⟨inf_ok, (all_cons tx_Encode_ok (all_cons sponge_HashBytes_ok all_nil)), all_nil⟩ mix Try.func27 (show Try.f27.body = some tx_ID_code by kernel_rfl) (show Try.f27.ntmps = 14 by kernel_rfl) (show Try.f27.results.toList = tx_ID_rs by kernel_rfl) rfl h (tx_ID_obl o)
set_option maxRecDepth 100000 in
theorem tx_ID_in {p0 : TTx} {r0 : Int} (h :
((TR p0) ∧ let r1 : List Int := (if validE p0 = 0 then encT p0 p0.Proof else [])
(((validE p0) != 0) = true →
 0 = r0) ∧
(((validE p0) != 0) = false →
(U64 (14 : Int) ∧ By r1 ∧ r1.length ≤ 1099511627775) ∧ hashB (14 : Int) r1 = r0))) : tx_ID_Body (p0.Anchor, p0.Marks, p0.Outs, p0.Deposit, p0.Withdraw, p0.Fee, p0.Account, p0.Nonce, p0.Expiry, p0.Proof, ()) (r0, ()) := WPh.of_eq (by kernel_rfl) h
theorem bd27 : Callable Try.prog 27 := ⟨by rw [Try.func27]; kernel_rfl, by rw [Try.func27]; show some _ ≠ some _; decide⟩
theorem tx_ID_body (p0 : TTx) (h : TR p0) : tx_ID_Body (p0.Anchor, p0.Marks, p0.Outs, p0.Deposit, p0.Withdraw, p0.Fee, p0.Account, p0.Nonce, p0.Expiry, p0.Proof, ()) ((idS p0 : Int), ()) := by
  refine tx_ID_in ⟨h, ?_⟩
  unfold idS
  refine ⟨fun e => ?_, fun e => ?_⟩
  · have e : validE p0 ≠ 0 := by simpa using e
    rw [if_neg e]
  · have e : validE p0 = 0 := by simpa using e
    have v := (validE_zero p0).1 e
    rw [if_pos e, if_pos e]
    exact ⟨⟨by omega, encT_by h.p, by have := v.enc_len p0.Proof; have := v.pl; omega⟩, rfl⟩
noncomputable def tx_ID_con : Con TB.den := tx_ID_sh.fnR (fun x => (fun (p0 : TTx) => TR p0) (TTx.mk x.1 x.2.1 x.2.2.1 x.2.2.2.1 x.2.2.2.2.1 x.2.2.2.2.2.1 x.2.2.2.2.2.2.1 x.2.2.2.2.2.2.2.1 x.2.2.2.2.2.2.2.2.1 x.2.2.2.2.2.2.2.2.2.1)) fun x => ((fun (p0 : TTx) => (idS p0 : Int)) (TTx.mk x.1 x.2.1 x.2.2.1 x.2.2.2.1 x.2.2.2.2.1 x.2.2.2.2.2.1 x.2.2.2.2.2.2.1 x.2.2.2.2.2.2.2.1 x.2.2.2.2.2.2.2.2.1 x.2.2.2.2.2.2.2.2.2.1), ())
theorem tx_ID_ok : tx_ID_con.Ok Try.prog TB := Con.ok_fn tx_ID_sh bd27 fun x h => tx_ID_snd (tx_ID_body (TTx.mk x.1 x.2.1 x.2.2.1 x.2.2.2.1 x.2.2.2.2.1 x.2.2.2.2.2.1 x.2.2.2.2.2.2.1 x.2.2.2.2.2.2.2.1 x.2.2.2.2.2.2.2.2.1 x.2.2.2.2.2.2.2.2.2.1) h)
end Go.Proofs.Ytdbnagpoknmoiaa
namespace Go.Proofs.Ytdbnagpoknmoiaa
open Go Go.Bv Go.Cv Go.Md Go.RowKit
def note_Origin_sh : Con TB.den := Con.mk0 40 [.one (.d (.sl (.int .u64))), .one (.d (.int .u64)), .one (.d (.int .u64))] [] (.one (.one (.d (.int .u64)))) []
abbrev note_Origin_I := HL TB.den (hsT note_Origin_sh.ins (hsOs note_Origin_sh.pre))
abbrev note_Origin_O := HL TB.den (hsV note_Origin_sh.res (hsOs note_Origin_sh.post))
noncomputable def note_Origin_cx : Cx TB := ⟨inf, [sponge_Hash_con], [], 4⟩
noncomputable def note_Origin_code : Code := Try.f40.body.getD .skip
noncomputable def note_Origin_rs : List ResultVar := Try.f40.results.toList
noncomputable def note_Origin_an (o : note_Origin_O) : An TB := .no
noncomputable def note_Origin_Body (x : note_Origin_I) (o : note_Origin_O) : Prop := WPh TB note_Origin_cx 27 0 note_Origin_code (note_Origin_an o) (note_Origin_sh.st TB x) (retTQ TB note_Origin_cx note_Origin_sh note_Origin_rs o)
set_option maxRecDepth 100000 in
theorem note_Origin_obl (o : note_Origin_O) : OblH TB note_Origin_cx 27 0 note_Origin_code (note_Origin_an o) (retTQ TB note_Origin_cx note_Origin_sh note_Origin_rs o) :=
  OblH.of_eq (X := (True ∧ ((True ∧ (((True ∧ ((True ∧ True) ∧ True)) ∧ (True ∧ True)) ∧ True)) ∧ ((True ∧ ((True ∧ True) ∧ True)) ∧ (True ∧ True))))) (by kernel_rfl) ⟨trivial, ⟨⟨trivial, ⟨⟨⟨trivial, ⟨⟨trivial, trivial⟩, trivial⟩⟩, ⟨trivial, trivial⟩⟩, trivial⟩⟩, ⟨⟨trivial, ⟨⟨trivial, trivial⟩, trivial⟩⟩, ⟨trivial, trivial⟩⟩⟩⟩
set_option maxRecDepth 100000 in
theorem note_Origin_snd {x : note_Origin_I} {o : note_Origin_O} (h : note_Origin_Body x o) : SoundH Try.prog note_Origin_sh.f ((note_Origin_sh.args idf x).map (er TB)) ((note_Origin_sh.obs idf x).map (erO TB)) (er TB (note_Origin_sh.val idf o)) ((note_Origin_sh.ops idf o).map (erO TB)) :=
  Con.soundH (c := note_Origin_sh) (C := note_Origin_cx) TBok ⟨inf_ok, (all_cons sponge_Hash_ok all_nil), all_nil⟩ mix Try.func40 (show Try.f40.body = some note_Origin_code by kernel_rfl) (show Try.f40.ntmps = 27 by kernel_rfl) (show Try.f40.results.toList = note_Origin_rs by kernel_rfl) rfl h (note_Origin_obl o)
set_option maxRecDepth 100000 in
theorem note_Origin_in {p0 : List Int} {p1 : Int} {p2 : Int} {r0 : Int} (h :
((decide (0 < (p0.length : Int)) = true →
 0 < (p0.length : Int) ∧ let v1 : Bool := decide (18446744069414584321 ≤ (ix p0 0))
(v1 = true →
 0 = r0) ∧
(v1 = false →
 0 < (p0.length : Int) ∧ ix p0 0 = r0)) ∧
(decide (0 < (p0.length : Int)) = false →
(decide (18446744069414584321 ≤ p1) = true →
 0 = r0) ∧
(decide (18446744069414584321 ≤ p1) = false →
(decide (18446744069414584321 ≤ p2) = true →
 0 = r0) ∧
(decide (18446744069414584321 ≤ p2) = false →
((18446744069414584321 : Int) = 18446744069414584321 ∧ U64 (5 : Int) ∧ Us [p1, p2] ∧ [p1, p2].length ≤ 1099511627776) ∧ hashS (5 : Int) [p1, p2] = r0))))) : note_Origin_Body (p0, p1, p2, ()) (r0, ()) := WPh.of_eq (by kernel_rfl) h
theorem bd40 : Callable Try.prog 40 := ⟨by rw [Try.func40]; kernel_rfl, by rw [Try.func40]; show some _ ≠ some _; decide⟩
theorem note_Origin_body (p0 : List Int) (p1 : Int) (p2 : Int) (h : Us p0 ∧ U64 p1 ∧ U64 p2) : note_Origin_Body (p0, p1, p2, ()) (((if p0 = [] then (if p1 < 18446744069414584321 ∧ p2 < 18446744069414584321 then hashS 5 [p1, p2] else 0) else if ix p0 0 < 18446744069414584321 then ix p0 0 else 0) : Int), ()) := by
  obtain ⟨h1, h2, h3⟩ := h
  refine note_Origin_in ⟨fun h => ?_, fun h => ?_⟩
  · have h := of_decide_eq_true h
    rw [if_neg (by rintro rfl; simp at h)]
    exact ⟨h, fun e => (by rw [if_neg (by have := of_decide_eq_true e; omega)]), fun e => ⟨h, (by rw [if_pos (by have := of_decide_eq_false e; omega)])⟩⟩
  · have h := of_decide_eq_false h
    have h : p0 = [] := List.length_eq_zero_iff.1 (by omega)
    rw [if_pos h]
    refine ⟨fun e => (by rw [if_neg (by have := of_decide_eq_true e; omega)]), fun e => ⟨fun e2 => (by rw [if_neg (by have := of_decide_eq_true e2; omega)]), fun e2 => ?_⟩⟩
    rw [if_pos (by have := of_decide_eq_false e; have := of_decide_eq_false e2; omega)]
    refine ⟨⟨rfl, by omega, ?_, by simp⟩, rfl⟩
    intro x hx
    rcases List.mem_cons.1 hx with rfl | hx
    · exact h2
    · have : x = p2 := by simpa using hx
      rw [this]; exact h3
noncomputable def note_Origin_con : Con TB.den := note_Origin_sh.fnR (fun x => (fun (p0 : List Int) (p1 : Int) (p2 : Int) => Us p0 ∧ U64 p1 ∧ U64 p2) x.1 x.2.1 x.2.2.1) fun x => ((fun (p0 : List Int) (p1 : Int) (p2 : Int) => ((if p0 = [] then (if p1 < 18446744069414584321 ∧ p2 < 18446744069414584321 then hashS 5 [p1, p2] else 0) else if ix p0 0 < 18446744069414584321 then ix p0 0 else 0) : Int)) x.1 x.2.1 x.2.2.1, ())
theorem note_Origin_ok : note_Origin_con.Ok Try.prog TB := Con.ok_fn note_Origin_sh bd40 fun x h => note_Origin_snd (note_Origin_body x.1 x.2.1 x.2.2.1 h)
end Go.Proofs.Ytdbnagpoknmoiaa
namespace Go.Proofs.Ytdbnagpoknmoiaa
open Go Go.Bv Go.Cv Go.Md Go.RowKit
def tx_Origin_sh : Con TB.den := Con.mk0 21 [.agg [.d (.int .u64), .d (.sl (.int .u64)), .d (.sl (.st 0)), .d (.int .u64), .d (.int .u64), .d (.int .u64), .d (.int .u64), .d (.int .u64), .d (.int .i64), .d (.sl (.int .u8))]] [] (.one (.one (.d (.int .u64)))) []
abbrev tx_Origin_I := HL TB.den (hsT tx_Origin_sh.ins (hsOs tx_Origin_sh.pre))
abbrev tx_Origin_O := HL TB.den (hsV tx_Origin_sh.res (hsOs tx_Origin_sh.post))
noncomputable def tx_Origin_cx : Cx TB := ⟨inf, [tx_Valid_con, note_Origin_con], [], 4⟩
noncomputable def tx_Origin_code : Code := Try.f21.body.getD .skip
noncomputable def tx_Origin_rs : List ResultVar := Try.f21.results.toList
noncomputable def tx_Origin_an (o : tx_Origin_O) : An TB := .no
noncomputable def tx_Origin_Body (x : tx_Origin_I) (o : tx_Origin_O) : Prop := WPh TB tx_Origin_cx 13 0 tx_Origin_code (tx_Origin_an o) (tx_Origin_sh.st TB x) (retTQ TB tx_Origin_cx tx_Origin_sh tx_Origin_rs o)
set_option maxRecDepth 100000 in
theorem tx_Origin_obl (o : tx_Origin_O) : OblH TB tx_Origin_cx 13 0 tx_Origin_code (tx_Origin_an o) (retTQ TB tx_Origin_cx tx_Origin_sh tx_Origin_rs o) :=
  OblH.of_eq (X := (True ∧ ((True ∧ ((True ∧ True) ∧ True)) ∧ (True ∧ True)))) (by kernel_rfl) ⟨trivial, ⟨⟨trivial, ⟨⟨trivial, trivial⟩, trivial⟩⟩, ⟨trivial, trivial⟩⟩⟩
set_option maxRecDepth 100000 in
theorem tx_Origin_snd {x : tx_Origin_I} {o : tx_Origin_O} (h : tx_Origin_Body x o) : SoundH Try.prog tx_Origin_sh.f ((tx_Origin_sh.args idf x).map (er TB)) ((tx_Origin_sh.obs idf x).map (erO TB)) (er TB (tx_Origin_sh.val idf o)) ((tx_Origin_sh.ops idf o).map (erO TB)) :=
  Con.soundH (c := tx_Origin_sh) (C := tx_Origin_cx) TBok ⟨inf_ok, (all_cons tx_Valid_ok (all_cons note_Origin_ok all_nil)), all_nil⟩ mix Try.func21 (show Try.f21.body = some tx_Origin_code by kernel_rfl) (show Try.f21.ntmps = 13 by kernel_rfl) (show Try.f21.results.toList = tx_Origin_rs by kernel_rfl) rfl h (tx_Origin_obl o)
set_option maxRecDepth 100000 in
theorem tx_Origin_in {p0 : TTx} {r0 : Int} (h :
((((validE p0) != 0) = true →
 0 = r0) ∧
(((validE p0) != 0) = false →
(Us p0.Marks ∧ U64 p0.Account ∧ U64 p0.Nonce) ∧ let r1 : Int := (if p0.Marks = [] then (if p0.Account < 18446744069414584321 ∧ p0.Nonce < 18446744069414584321 then hashS 5 [p0.Account, p0.Nonce] else 0) else if ix p0.Marks 0 < 18446744069414584321 then ix p0.Marks 0 else 0)
 r1 = r0))) : tx_Origin_Body (p0.Anchor, p0.Marks, p0.Outs, p0.Deposit, p0.Withdraw, p0.Fee, p0.Account, p0.Nonce, p0.Expiry, p0.Proof, ()) (r0, ()) := WPh.of_eq (by kernel_rfl) h
theorem bd21 : Callable Try.prog 21 := ⟨by rw [Try.func21]; kernel_rfl, by rw [Try.func21]; show some _ ≠ some _; decide⟩
theorem tx_Origin_body (p0 : TTx) (h : TR p0) : tx_Origin_Body (p0.Anchor, p0.Marks, p0.Outs, p0.Deposit, p0.Withdraw, p0.Fee, p0.Account, p0.Nonce, p0.Expiry, p0.Proof, ()) ((originS p0 : Int), ()) := by
  refine tx_Origin_in ?_
  unfold originS
  refine ⟨fun e => ?_, fun e => ?_⟩
  · have e : validE p0 ≠ 0 := by simpa using e
    rw [if_neg e]
  · have e : validE p0 = 0 := by simpa using e
    have v := (validE_zero p0).1 e
    rw [if_pos e]
    refine ⟨⟨h.m, h.ac, h.n⟩, ?_⟩
    have va := v.am
    unfold vAmounts at va
    simp only [Bool.and_eq_true, decide_eq_true_eq] at va
    split
    · rw [if_pos ⟨va.1.1.2, va.1.2⟩]
    · rename_i hne
      rw [if_pos]
      exact v.m _ (ix_mem _ 0 (by omega) (by have := List.length_pos_iff.2 hne; omega))
noncomputable def tx_Origin_con : Con TB.den := tx_Origin_sh.fnR (fun x => (fun (p0 : TTx) => TR p0) (TTx.mk x.1 x.2.1 x.2.2.1 x.2.2.2.1 x.2.2.2.2.1 x.2.2.2.2.2.1 x.2.2.2.2.2.2.1 x.2.2.2.2.2.2.2.1 x.2.2.2.2.2.2.2.2.1 x.2.2.2.2.2.2.2.2.2.1)) fun x => ((fun (p0 : TTx) => (originS p0 : Int)) (TTx.mk x.1 x.2.1 x.2.2.1 x.2.2.2.1 x.2.2.2.2.1 x.2.2.2.2.2.1 x.2.2.2.2.2.2.1 x.2.2.2.2.2.2.2.1 x.2.2.2.2.2.2.2.2.1 x.2.2.2.2.2.2.2.2.2.1), ())
theorem tx_Origin_ok : tx_Origin_con.Ok Try.prog TB := Con.ok_fn tx_Origin_sh bd21 fun x h => tx_Origin_snd (tx_Origin_body (TTx.mk x.1 x.2.1 x.2.2.1 x.2.2.2.1 x.2.2.2.2.1 x.2.2.2.2.2.1 x.2.2.2.2.2.2.1 x.2.2.2.2.2.2.2.1 x.2.2.2.2.2.2.2.2.1 x.2.2.2.2.2.2.2.2.2.1) h)
end Go.Proofs.Ytdbnagpoknmoiaa
namespace Go.Proofs.Ytdbnagpoknmoiaa
open Go Go.Bv Go.Cv Go.Md Go.RowKit
def tx_Weight_sh : Con TB.den := Con.mk0 16 [.agg [.d (.int .u64), .d (.sl (.int .u64)), .d (.sl (.st 0)), .d (.int .u64), .d (.int .u64), .d (.int .u64), .d (.int .u64), .d (.int .u64), .d (.int .i64), .d (.sl (.int .u8))]] [] (.one (.one (.d (.int .i64)))) []
abbrev tx_Weight_I := HL TB.den (hsT tx_Weight_sh.ins (hsOs tx_Weight_sh.pre))
abbrev tx_Weight_O := HL TB.den (hsV tx_Weight_sh.res (hsOs tx_Weight_sh.post))
noncomputable def tx_Weight_cx : Cx TB := ⟨inf, [tx_Encode_con], [], 4⟩
noncomputable def tx_Weight_code : Code := Try.f16.body.getD .skip
noncomputable def tx_Weight_rs : List ResultVar := Try.f16.results.toList
noncomputable def tx_Weight_an (o : tx_Weight_O) : An TB := .no
noncomputable def tx_Weight_Body (x : tx_Weight_I) (o : tx_Weight_O) : Prop := WPh TB tx_Weight_cx 14 0 tx_Weight_code (tx_Weight_an o) (tx_Weight_sh.st TB x) (retTQ TB tx_Weight_cx tx_Weight_sh tx_Weight_rs o)
set_option maxRecDepth 100000 in
theorem tx_Weight_obl (o : tx_Weight_O) : OblH TB tx_Weight_cx 14 0 tx_Weight_code (tx_Weight_an o) (retTQ TB tx_Weight_cx tx_Weight_sh tx_Weight_rs o) :=
  OblH.of_eq (X := (True ∧ (True ∧ ((True ∧ ((True ∧ True) ∧ True)) ∧ (True ∧ True))))) (by kernel_rfl) ⟨trivial, ⟨trivial, ⟨⟨trivial, ⟨⟨trivial, trivial⟩, trivial⟩⟩, ⟨trivial, trivial⟩⟩⟩⟩
set_option maxRecDepth 100000 in
theorem tx_Weight_snd {x : tx_Weight_I} {o : tx_Weight_O} (h : tx_Weight_Body x o) : SoundH Try.prog tx_Weight_sh.f ((tx_Weight_sh.args idf x).map (er TB)) ((tx_Weight_sh.obs idf x).map (erO TB)) (er TB (tx_Weight_sh.val idf o)) ((tx_Weight_sh.ops idf o).map (erO TB)) :=
  Con.soundH (c := tx_Weight_sh) (C := tx_Weight_cx) TBok ⟨inf_ok, (all_cons tx_Encode_ok all_nil), all_nil⟩ mix Try.func16 (show Try.f16.body = some tx_Weight_code by kernel_rfl) (show Try.f16.ntmps = 14 by kernel_rfl) (show Try.f16.results.toList = tx_Weight_rs by kernel_rfl) rfl h (tx_Weight_obl o)
set_option maxRecDepth 100000 in
theorem tx_Weight_in {p0 : TTx} {r0 : Int} (h :
((TR p0) ∧ let r1 : List Int := (if validE p0 = 0 then encT p0 p0.Proof else [])
(((validE p0) != 0) = true →
 0 = r0) ∧
(((validE p0) != 0) = false →
(r1.length : Int) = r0))) : tx_Weight_Body (p0.Anchor, p0.Marks, p0.Outs, p0.Deposit, p0.Withdraw, p0.Fee, p0.Account, p0.Nonce, p0.Expiry, p0.Proof, ()) (r0, ()) := WPh.of_eq (by kernel_rfl) h
theorem bd16 : Callable Try.prog 16 := ⟨by rw [Try.func16]; kernel_rfl, by rw [Try.func16]; show some _ ≠ some _; decide⟩
theorem tx_Weight_body (p0 : TTx) (h : TR p0) : tx_Weight_Body (p0.Anchor, p0.Marks, p0.Outs, p0.Deposit, p0.Withdraw, p0.Fee, p0.Account, p0.Nonce, p0.Expiry, p0.Proof, ()) ((weightS p0 : Int), ()) := by
  refine tx_Weight_in ⟨h, ?_⟩
  unfold weightS
  refine ⟨fun e => ?_, fun e => ?_⟩
  · have e : validE p0 ≠ 0 := by simpa using e
    rw [if_neg e]
  · have e : validE p0 = 0 := by simpa using e
    rw [if_pos e, if_pos e]
noncomputable def tx_Weight_con : Con TB.den := tx_Weight_sh.fnR (fun x => (fun (p0 : TTx) => TR p0) (TTx.mk x.1 x.2.1 x.2.2.1 x.2.2.2.1 x.2.2.2.2.1 x.2.2.2.2.2.1 x.2.2.2.2.2.2.1 x.2.2.2.2.2.2.2.1 x.2.2.2.2.2.2.2.2.1 x.2.2.2.2.2.2.2.2.2.1)) fun x => ((fun (p0 : TTx) => (weightS p0 : Int)) (TTx.mk x.1 x.2.1 x.2.2.1 x.2.2.2.1 x.2.2.2.2.1 x.2.2.2.2.2.1 x.2.2.2.2.2.2.1 x.2.2.2.2.2.2.2.1 x.2.2.2.2.2.2.2.2.1 x.2.2.2.2.2.2.2.2.2.1), ())
theorem tx_Weight_ok : tx_Weight_con.Ok Try.prog TB := Con.ok_fn tx_Weight_sh bd16 fun x h => tx_Weight_snd (tx_Weight_body (TTx.mk x.1 x.2.1 x.2.2.1 x.2.2.2.1 x.2.2.2.2.1 x.2.2.2.2.2.1 x.2.2.2.2.2.2.1 x.2.2.2.2.2.2.2.1 x.2.2.2.2.2.2.2.2.1 x.2.2.2.2.2.2.2.2.2.1) h)
end Go.Proofs.Ytdbnagpoknmoiaa
namespace Go.Proofs.Ytdbnagpoknmoiaa
open Go Go.Bv Go.Cv Go.Md Go.RowKit
def l41_awake_sh : Con TB.den := Con.mk0 10 [] [] (.one (.one (.d (.bool)))) []
abbrev l41_awake_I := HL TB.den (hsT l41_awake_sh.ins (hsOs l41_awake_sh.pre))
abbrev l41_awake_O := HL TB.den (hsV l41_awake_sh.res (hsOs l41_awake_sh.post))
noncomputable def l41_awake_cx : Cx TB := ⟨inf, [tx_Weight_con, tx_Encode_con, tx_Origin_con, tx_ID_con, tx_Bind_con, tx_Valid_con], [], 4⟩
noncomputable def l41_awake_code : Code := Try.f10.body.getD .skip
noncomputable def l41_awake_rs : List ResultVar := Try.f10.results.toList
noncomputable def l41_awake_an (o : l41_awake_O) : An TB := .no
noncomputable def l41_awake_Body (x : l41_awake_I) (o : l41_awake_O) : Prop := WPh TB l41_awake_cx 65 0 l41_awake_code (l41_awake_an o) (l41_awake_sh.st TB x) (retTQ TB l41_awake_cx l41_awake_sh l41_awake_rs o)
set_option maxRecDepth 100000 in
theorem l41_awake_obl (o : l41_awake_O) : OblH TB l41_awake_cx 65 0 l41_awake_code (l41_awake_an o) (retTQ TB l41_awake_cx l41_awake_sh l41_awake_rs o) :=
  OblH.of_eq (X := (True ∧ (True ∧ (True ∧ (True ∧ (True ∧ (True ∧ (True ∧ (True ∧ True))))))))) (by kernel_rfl) ⟨trivial, ⟨trivial, ⟨trivial, ⟨trivial, ⟨trivial, ⟨trivial, ⟨trivial, ⟨trivial, trivial⟩⟩⟩⟩⟩⟩⟩⟩
set_option maxRecDepth 100000 in
theorem l41_awake_snd {x : l41_awake_I} {o : l41_awake_O} (h : l41_awake_Body x o) : SoundH Try.prog l41_awake_sh.f ((l41_awake_sh.args idf x).map (er TB)) ((l41_awake_sh.obs idf x).map (erO TB)) (er TB (l41_awake_sh.val idf o)) ((l41_awake_sh.ops idf o).map (erO TB)) :=
  Con.soundH (c := l41_awake_sh) (C := l41_awake_cx) TBok ⟨inf_ok, (all_cons tx_Weight_ok (all_cons tx_Encode_ok (all_cons tx_Origin_ok (all_cons tx_ID_ok (all_cons tx_Bind_ok (all_cons tx_Valid_ok all_nil)))))), all_nil⟩ mix Try.func10 (show Try.f10.body = some l41_awake_code by kernel_rfl) (show Try.f10.ntmps = 65 by kernel_rfl) (show Try.f10.results.toList = l41_awake_rs by kernel_rfl) rfl h (l41_awake_obl o)
set_option maxRecDepth 100000 in
theorem l41_awake_in  {r0 : Bool} (h :
((TR (TTx.mk 0 ([] : List Int) ([] : List TOut) 5 0 0 0 0 0 ([] : List Int))) ∧ let r1 : Int := weightS (TTx.mk 0 ([] : List Int) ([] : List TOut) 5 0 0 0 0 0 ([] : List Int))
(TR (TTx.mk 0 [7] ([] : List TOut) 5 0 0 0 0 0 ([] : List Int))) ∧ let r2 : Int := weightS (TTx.mk 0 [7] ([] : List TOut) 5 0 0 0 0 0 ([] : List Int))
(TR (TTx.mk 0 [7] [TOut.mk 3 2 1 [1, 2, 3]] 5 0 0 0 0 0 ([] : List Int))) ∧ let r3 : List Int := (if validE (TTx.mk 0 [7] [TOut.mk 3 2 1 [1, 2, 3]] 5 0 0 0 0 0 ([] : List Int)) = 0 then encT (TTx.mk 0 [7] [TOut.mk 3 2 1 [1, 2, 3]] 5 0 0 0 0 0 ([] : List Int)) (TTx.mk 0 [7] [TOut.mk 3 2 1 [1, 2, 3]] 5 0 0 0 0 0 ([] : List Int)).Proof else [])
 let r4 : Int := validE (TTx.mk 0 [7] [TOut.mk 3 2 1 [1, 2, 3]] 5 0 0 0 0 0 ([] : List Int))
((r1 == 64) = true →
((r2 == 72) = true →
(TR (TTx.mk 0 [7] [TOut.mk 3 2 1 [1, 2, 3]] 5 0 0 0 0 0 ([] : List Int))) ∧ let r5 : Int := weightS (TTx.mk 0 [7] [TOut.mk 3 2 1 [1, 2, 3]] 5 0 0 0 0 0 ([] : List Int))
((r5 == 124) = true →
(((r3.length : Int) == 124) = true →
((r4 == 0) = true →
(TR (TTx.mk 0 [7] [TOut.mk 3 2 1 [1, 2, 3]] 5 0 0 0 0 0 ([] : List Int))) ∧ let r6 : Int := originS (TTx.mk 0 [7] [TOut.mk 3 2 1 [1, 2, 3]] 5 0 0 0 0 0 ([] : List Int))
((r6 == 7) = true →
(TR (TTx.mk 0 [7] [TOut.mk 3 2 1 [1, 2, 3]] 5 0 0 0 0 0 ([] : List Int))) ∧ let r7 : Int := idS (TTx.mk 0 [7] [TOut.mk 3 2 1 [1, 2, 3]] 5 0 0 0 0 0 ([] : List Int))
((r7 != 0) = true →
(TR (TTx.mk 0 [7] [TOut.mk 3 2 1 [1, 2, 3]] 5 0 0 0 0 0 ([] : List Int))) ∧ let r8 : Int := bindS (TTx.mk 0 [7] [TOut.mk 3 2 1 [1, 2, 3]] 5 0 0 0 0 0 ([] : List Int))
(TR (TTx.mk 0 [7] [TOut.mk 3 2 1 [1, 2, 3]] 5 0 0 0 0 0 ([] : List Int))) ∧ let r9 : Int := idS (TTx.mk 0 [7] [TOut.mk 3 2 1 [1, 2, 3]] 5 0 0 0 0 0 ([] : List Int))
((r8 != r9) = true →
 let r10 : Int := validE (TTx.mk 0 ([] : List Int) ([] : List TOut) 0 0 0 0 0 0 ([] : List Int))
(r10 == 1) = r0) ∧
((r8 != r9) = false →
 false = r0)) ∧
((r7 != 0) = false →
 false = r0)) ∧
((r6 == 7) = false →
 false = r0)) ∧
((r4 == 0) = false →
 false = r0)) ∧
(((r3.length : Int) == 124) = false →
 false = r0)) ∧
((r5 == 124) = false →
 false = r0)) ∧
((r2 == 72) = false →
 false = r0)) ∧
((r1 == 64) = false →
 false = r0))) : l41_awake_Body (()) (r0, ()) := WPh.of_eq (by kernel_rfl) h
theorem bd10 : Callable Try.prog 10 := ⟨by rw [Try.func10]; kernel_rfl, by rw [Try.func10]; show some _ ≠ some _; decide⟩
theorem l41_awake_body : l41_awake_Body (()) ((true : Bool), ()) := by
  have r1 : TR ⟨0, [], [], 5, 0, 0, 0, 0, 0, []⟩ := ⟨by decide, (by intro x hx; cases hx), (by intro x hx; cases hx), by decide, by decide, by decide, by decide, by decide, by decide, (by intro x hx; cases hx)⟩
  have r2 : TR ⟨0, [7], [], 5, 0, 0, 0, 0, 0, []⟩ := ⟨by decide, by decide, (by intro x hx; cases hx), by decide, by decide, by decide, by decide, by decide, by decide, (by intro x hx; cases hx)⟩
  have r3 : TR ⟨0, [7], [⟨3, 2, 1, [1, 2, 3]⟩], 5, 0, 0, 0, 0, 0, []⟩ := ⟨by decide, by decide, (by intro x hx; rw [List.mem_singleton] at hx; subst hx; exact ⟨by decide, by decide, by decide, by decide⟩), by decide, by decide, by decide, by decide, by decide, by decide, (by intro x hx; cases hx)⟩
  have w1 : weightS ⟨0, [], [], 5, 0, 0, 0, 0, 0, []⟩ = 64 := by decide +kernel
  have w2 : weightS ⟨0, [7], [], 5, 0, 0, 0, 0, 0, []⟩ = 72 := by decide +kernel
  have w3 : weightS ⟨0, [7], [⟨3, 2, 1, [1, 2, 3]⟩], 5, 0, 0, 0, 0, 0, []⟩ = 124 := by decide +kernel
  have v3 : validE ⟨0, [7], [⟨3, 2, 1, [1, 2, 3]⟩], 5, 0, 0, 0, 0, 0, []⟩ = 0 := by decide +kernel
  have l3 : (encT ⟨0, [7], [⟨3, 2, 1, [1, 2, 3]⟩], 5, 0, 0, 0, 0, 0, []⟩ []).length = 124 := by decide +kernel
  have o3 : originS ⟨0, [7], [⟨3, 2, 1, [1, 2, 3]⟩], 5, 0, 0, 0, 0, 0, []⟩ = 7 := by decide +kernel
  have i3 : idS ⟨0, [7], [⟨3, 2, 1, [1, 2, 3]⟩], 5, 0, 0, 0, 0, 0, []⟩ ≠ 0 := by decide +kernel
  have b3 : bindS ⟨0, [7], [⟨3, 2, 1, [1, 2, 3]⟩], 5, 0, 0, 0, 0, 0, []⟩ ≠ idS ⟨0, [7], [⟨3, 2, 1, [1, 2, 3]⟩], 5, 0, 0, 0, 0, 0, []⟩ := by decide +kernel
  have v0 : validE ⟨0, [], [], 0, 0, 0, 0, 0, 0, []⟩ = 1 := by decide +kernel
  refine l41_awake_in ?_
  simp [r1, r2, r3, w1, w2, w3, v3, l3, o3, i3, b3, v0]
noncomputable def l41_awake_con : Con TB.den := l41_awake_sh.totR fun x => ((true : Bool), ())
theorem l41_awake_ok : l41_awake_con.Ok Try.prog TB := Con.ok_tot l41_awake_sh bd10 fun x => l41_awake_snd (l41_awake_body )
end Go.Proofs.Ytdbnagpoknmoiaa
namespace Go.Proofs.Ytdbnagpoknmoiaa
open Go Go.Bv Go.Cv Go.Md Go.RowKit
def l41_copied_sh : Con TB.den := Con.mk0 13 [.agg [.d (.int .u64), .d (.sl (.int .u64)), .d (.sl (.st 0)), .d (.int .u64), .d (.int .u64), .d (.int .u64), .d (.int .u64), .d (.int .u64), .d (.int .i64), .d (.sl (.int .u8))]] [] (.one (.agg [.d (.int .u64), .d (.sl (.int .u64)), .d (.sl (.st 0)), .d (.int .u64), .d (.int .u64), .d (.int .u64), .d (.int .u64), .d (.int .u64), .d (.int .i64), .d (.sl (.int .u8))])) []
abbrev l41_copied_I := HL TB.den (hsT l41_copied_sh.ins (hsOs l41_copied_sh.pre))
abbrev l41_copied_O := HL TB.den (hsV l41_copied_sh.res (hsOs l41_copied_sh.post))
noncomputable def l41_copied_cx : Cx TB := ⟨inf, [], [], 4⟩
noncomputable def l41_copied_code : Code := Try.f13.body.getD .skip
noncomputable def l41_copied_rs : List ResultVar := Try.f13.results.toList
noncomputable def l41_copied_Q1 (o : l41_copied_O) : Exit → TSt TB.den → Prop := thenT TB (fun s => ghs TB [] s fun s => WP TB l41_copied_cx 38 0 (cB (cB (cB (cB (cB (cB l41_copied_code)))))) .no s (retTQ TB l41_copied_cx l41_copied_sh l41_copied_rs o)) (retTQ TB l41_copied_cx l41_copied_sh l41_copied_rs o)
def l41_copied_T1 : Tm := ⟨[0, 1, 3, 6, 5], [.cells [.d (.int .u64), .own 2, .own 3, .d (.int .u64), .d (.int .u64), .d (.int .u64), .d (.int .u64), .d (.int .u64), .d (.int .i64), .own 4], .cells [.d (.int .u64), .full (.int .u64), .full (.st 0), .d (.int .u64), .d (.int .u64), .d (.int .u64), .d (.int .u64), .d (.int .u64), .d (.int .i64), .full (.int .u8)], .tip (.int .u64), .tip (.st 0), .tip (.int .u8)], [1, 2, 19, 20, 21], [.one (.ptr 0 0), .one (.ptr 1 0), .one (.d (.sl (.st 0))), .one (.d (.int .i64)), .one (.d (.int .i64))], 7⟩
noncomputable def l41_copied_Q2 (o : l41_copied_O) (nx1 : HL TB.den l41_copied_T1.hs → Prop) : Exit → TSt TB.den → Prop := thenT TB (fun s => l41_copied_T1.mat TB 0 s nx1) (blockT TB 0 (l41_copied_Q1 o))
noncomputable def l41_copied_L1 (o : l41_copied_O) (nx1 : HL TB.den l41_copied_T1.hs → Prop) (i : HL TB.den l41_copied_T1.hs) : Prop := WP TB l41_copied_cx 38 0 (cA (cA (cB (cA (cB (cB (cB (cB (cB l41_copied_code))))))))) .no (l41_copied_T1.fill TB i) (l41_copied_Q2 o nx1)
noncomputable def l41_copied_A5 (o : l41_copied_O) : An TB := .lp [.tokc 0 2 (.st 0)] l41_copied_T1 (l41_copied_L1 o) fun nx1 => .no
noncomputable def l41_copied_A6 (o : l41_copied_O) : An TB := .nd [] .no [] (.nd [] (.nd [] .no [] (l41_copied_A5 o)) [] .no)
noncomputable def l41_copied_A7 (o : l41_copied_O) : An TB := .nd [] .no [] (.nd [] .no [] (.nd [] .no [] (l41_copied_A6 o)))
noncomputable def l41_copied_an (o : l41_copied_O) : An TB := .nd [] .no [] (l41_copied_A7 o)
noncomputable def l41_copied_Body (x : l41_copied_I) (o : l41_copied_O) : Prop := WPh TB l41_copied_cx 38 0 l41_copied_code (l41_copied_an o) (l41_copied_sh.st TB x) (retTQ TB l41_copied_cx l41_copied_sh l41_copied_rs o)
set_option maxRecDepth 100000 in
theorem l41_copied_obl (o : l41_copied_O) : OblH TB l41_copied_cx 38 0 l41_copied_code (l41_copied_an o) (retTQ TB l41_copied_cx l41_copied_sh l41_copied_rs o) :=
  OblH.of_eq (X := (True ∧ (True ∧ (True ∧ (True ∧ (True ∧ ((True ∧ ((∀ nx i, (l41_copied_L1 o) nx i = (l41_copied_L1 o) nx i) ∧ ∀ nx1 : HL TB.den l41_copied_T1.hs → Prop, (True ∧ ((True ∧ True) ∧ ((True ∧ (True ∧ True)) ∧ True))))) ∧ (True ∧ True)))))))) (by kernel_rfl) ⟨trivial, ⟨trivial, ⟨trivial, ⟨trivial, ⟨trivial, ⟨⟨trivial, ⟨fun _ _ => rfl, fun _ => ⟨trivial, ⟨⟨trivial, trivial⟩, ⟨⟨trivial, ⟨trivial, trivial⟩⟩, trivial⟩⟩⟩⟩⟩, ⟨trivial, trivial⟩⟩⟩⟩⟩⟩⟩
set_option maxRecDepth 100000 in
theorem l41_copied_snd {x : l41_copied_I} {o : l41_copied_O} (h : l41_copied_Body x o) : SoundH Try.prog l41_copied_sh.f ((l41_copied_sh.args idf x).map (er TB)) ((l41_copied_sh.obs idf x).map (erO TB)) (er TB (l41_copied_sh.val idf o)) ((l41_copied_sh.ops idf o).map (erO TB)) :=
  Con.soundH (c := l41_copied_sh) (C := l41_copied_cx) TBok ⟨inf_ok, all_nil, all_nil⟩ mix Try.func13 (show Try.f13.body = some l41_copied_code by kernel_rfl) (show Try.f13.ntmps = 38 by kernel_rfl) (show Try.f13.results.toList = l41_copied_rs by kernel_rfl) rfl h (l41_copied_obl o)
set_option maxRecDepth 100000 in
theorem l41_copied_in {p0 : TTx} {r0 : TTx} (h :
((([] : List Int).length + p0.Marks.length) * 8 ≤ 140737488355328 ∧ ([] : List Int).length + p0.Marks.length ≤ maxLen ∧ (([] : List Int).length + p0.Proof.length) * 1 ≤ 140737488355328 ∧ ([] : List Int).length + p0.Proof.length ≤ maxLen ∧ (([] : List Int) ++ p0.Proof = ([] : List Int) ++ p0.Proof) ∧ (([] : List TOut) = ([] : List TOut)) ∧ (([] : List Int) ++ p0.Marks = ([] : List Int) ++ p0.Marks) ∧ Md.Loop (p0.Outs, ((p0.Outs.length : Int) : Int), (0 : Int), p0.Anchor, p0.Deposit, p0.Withdraw, p0.Fee, p0.Account, p0.Nonce, p0.Expiry, (0 : Int), (([] : List Int) : List Int), (([] : List TOut) : List TOut), (0 : Int), (0 : Int), (0 : Int), (0 : Int), (0 : Int), (0 : Int), (([] : List Int) : List Int), (([] : List Int) ++ p0.Marks : List Int), (([] : List TOut) : List TOut), (([] : List Int) ++ p0.Proof : List Int), ()) (l41_copied_L1 (r0.Anchor, r0.Marks, r0.Outs, r0.Deposit, r0.Withdraw, r0.Fee, r0.Account, r0.Nonce, r0.Expiry, r0.Proof, ())))) : l41_copied_Body (p0.Anchor, p0.Marks, p0.Outs, p0.Deposit, p0.Withdraw, p0.Fee, p0.Account, p0.Nonce, p0.Expiry, p0.Proof, ()) (r0.Anchor, r0.Marks, r0.Outs, r0.Deposit, r0.Withdraw, r0.Fee, r0.Account, r0.Nonce, r0.Expiry, r0.Proof, ()) := WPh.of_eq (by kernel_rfl) h
def l41_copied_B1 (r0 : TTx) (k1 : Int → List TOut → Prop) (s19 : List TOut) (s20 : Int) (h0_0 : Int) (h0_3 : Int) (h0_4 : Int) (h0_5 : Int) (h0_6 : Int) (h0_7 : Int) (h0_8 : Int) (h1_0 : Int) (h1_1 : List Int) (h1_2 : List TOut) (h1_3 : Int) (h1_4 : Int) (h1_5 : Int) (h1_6 : Int) (h1_7 : Int) (h1_8 : Int) (h1_9 : List Int) (g3 : List Int) (g5 : List Int) (s21 : Int) (g6 : List TOut) : Prop :=
(decide (s21 < s20) = true →
(0 ≤ s21) ∧ s21 < (s19.length : Int) ∧ (([] : List Int).length + ((ix s19 s21).Cipher).length) * 8 ≤ 140737488355328 ∧ ([] : List Int).length + ((ix s19 s21).Cipher).length ≤ maxLen ∧ let v1 : List TOut := [TOut.mk ((ix s19 s21).Commit) ((ix s19 s21).Point_a0) ((ix s19 s21).Point_a1) (([] : List Int) ++ ((ix s19 s21).Cipher))]
 g6.length = g6.length ∧ (g6.length + v1.length) * 48 ≤ 140737488355328 ∧ g6.length + v1.length ≤ maxLen ∧ (g5 = g5) ∧ (g6 ++ v1 = g6 ++ v1) ∧ (g3 = g3) ∧ k1 (IntKind.i64.wrap (s21 + 1) : Int) (g6 ++ v1 : List TOut)) ∧
(decide (s21 < s20) = false →
 h0_0 = r0.Anchor ∧ g3 = r0.Marks ∧ g6 = r0.Outs ∧ h0_3 = r0.Deposit ∧ h0_4 = r0.Withdraw ∧ h0_5 = r0.Fee ∧ h0_6 = r0.Account ∧ h0_7 = r0.Nonce ∧ h0_8 = r0.Expiry ∧ g5 = r0.Proof)
set_option maxRecDepth 100000 in
theorem l41_copied_lp1 {r0 : TTx} {s19 : List TOut} {s20 : Int} {h0_0 : Int} {h0_3 : Int} {h0_4 : Int} {h0_5 : Int} {h0_6 : Int} {h0_7 : Int} {h0_8 : Int} {h1_0 : Int} {h1_1 : List Int} {h1_2 : List TOut} {h1_3 : Int} {h1_4 : Int} {h1_5 : Int} {h1_6 : Int} {h1_7 : Int} {h1_8 : Int} {h1_9 : List Int} {g3 : List Int} {g5 : List Int} {s21 : Int} {g6 : List TOut} (inv : Int → List TOut → Prop) (μ : Int → List TOut → Nat) (h0 : inv s21 g6) (hs : ∀ (s21 : Int) (g6 : List TOut), inv s21 g6 → l41_copied_B1 r0 (fun s21q g6q => inv s21q g6q ∧ μ s21q g6q < μ s21 g6) s19 s20 h0_0 h0_3 h0_4 h0_5 h0_6 h0_7 h0_8 h1_0 h1_1 h1_2 h1_3 h1_4 h1_5 h1_6 h1_7 h1_8 h1_9 g3 g5 s21 g6) : Md.Loop (s19, s20, s21, h0_0, h0_3, h0_4, h0_5, h0_6, h0_7, h0_8, h1_0, h1_1, h1_2, h1_3, h1_4, h1_5, h1_6, h1_7, h1_8, h1_9, g3, g6, g5, ()) (l41_copied_L1 (r0.Anchor, r0.Marks, r0.Outs, r0.Deposit, r0.Withdraw, r0.Fee, r0.Account, r0.Nonce, r0.Expiry, r0.Proof, ())) :=
  ⟨⟨fun s : (List TOut) × Int × Int × Int × Int × Int × Int × Int × Int × Int × Int × (List Int) × (List TOut) × Int × Int × Int × Int × Int × Int × (List Int) × (List Int) × (List TOut) × (List Int) × Unit => (s.1 = s19 ∧ s.2.1 = s20 ∧ s.2.2.2.1 = h0_0 ∧ s.2.2.2.2.1 = h0_3 ∧ s.2.2.2.2.2.1 = h0_4 ∧ s.2.2.2.2.2.2.1 = h0_5 ∧ s.2.2.2.2.2.2.2.1 = h0_6 ∧ s.2.2.2.2.2.2.2.2.1 = h0_7 ∧ s.2.2.2.2.2.2.2.2.2.1 = h0_8 ∧ s.2.2.2.2.2.2.2.2.2.2.1 = h1_0 ∧ s.2.2.2.2.2.2.2.2.2.2.2.1 = h1_1 ∧ s.2.2.2.2.2.2.2.2.2.2.2.2.1 = h1_2 ∧ s.2.2.2.2.2.2.2.2.2.2.2.2.2.1 = h1_3 ∧ s.2.2.2.2.2.2.2.2.2.2.2.2.2.2.1 = h1_4 ∧ s.2.2.2.2.2.2.2.2.2.2.2.2.2.2.2.1 = h1_5 ∧ s.2.2.2.2.2.2.2.2.2.2.2.2.2.2.2.2.1 = h1_6 ∧ s.2.2.2.2.2.2.2.2.2.2.2.2.2.2.2.2.2.1 = h1_7 ∧ s.2.2.2.2.2.2.2.2.2.2.2.2.2.2.2.2.2.2.1 = h1_8 ∧ s.2.2.2.2.2.2.2.2.2.2.2.2.2.2.2.2.2.2.2.1 = h1_9 ∧ s.2.2.2.2.2.2.2.2.2.2.2.2.2.2.2.2.2.2.2.2.1 = g3 ∧ s.2.2.2.2.2.2.2.2.2.2.2.2.2.2.2.2.2.2.2.2.2.2.1 = g5) ∧ inv s.2.2.1 s.2.2.2.2.2.2.2.2.2.2.2.2.2.2.2.2.2.2.2.2.2.1, fun s : (List TOut) × Int × Int × Int × Int × Int × Int × Int × Int × Int × Int × (List Int) × (List TOut) × Int × Int × Int × Int × Int × Int × (List Int) × (List Int) × (List TOut) × (List Int) × Unit => μ s.2.2.1 s.2.2.2.2.2.2.2.2.2.2.2.2.2.2.2.2.2.2.2.2.2.1, ⟨⟨rfl, rfl, rfl, rfl, rfl, rfl, rfl, rfl, rfl, rfl, rfl, rfl, rfl, rfl, rfl, rfl, rfl, rfl, rfl, rfl, rfl⟩, h0⟩, fun (s19p, s20p, s21p, h0_0p, h0_3p, h0_4p, h0_5p, h0_6p, h0_7p, h0_8p, h1_0p, h1_1p, h1_2p, h1_3p, h1_4p, h1_5p, h1_6p, h1_7p, h1_8p, h1_9p, g3p, g6p, g5p, ()) ⟨⟨eq0, eq1, eq2, eq3, eq4, eq5, eq6, eq7, eq8, eq9, eq10, eq11, eq12, eq13, eq14, eq15, eq16, eq17, eq18, eq19, eq20⟩, hi⟩ => by
    have eq0 : s19p = s19 := eq0; subst s19p; have eq1 : s20p = s20 := eq1; subst s20p; have eq2 : h0_0p = h0_0 := eq2; subst h0_0p; have eq3 : h0_3p = h0_3 := eq3; subst h0_3p; have eq4 : h0_4p = h0_4 := eq4; subst h0_4p; have eq5 : h0_5p = h0_5 := eq5; subst h0_5p; have eq6 : h0_6p = h0_6 := eq6; subst h0_6p; have eq7 : h0_7p = h0_7 := eq7; subst h0_7p; have eq8 : h0_8p = h0_8 := eq8; subst h0_8p; have eq9 : h1_0p = h1_0 := eq9; subst h1_0p; have eq10 : h1_1p = h1_1 := eq10; subst h1_1p; have eq11 : h1_2p = h1_2 := eq11; subst h1_2p; have eq12 : h1_3p = h1_3 := eq12; subst h1_3p; have eq13 : h1_4p = h1_4 := eq13; subst h1_4p; have eq14 : h1_5p = h1_5 := eq14; subst h1_5p; have eq15 : h1_6p = h1_6 := eq15; subst h1_6p; have eq16 : h1_7p = h1_7 := eq16; subst h1_7p; have eq17 : h1_8p = h1_8 := eq17; subst h1_8p; have eq18 : h1_9p = h1_9 := eq18; subst h1_9p; have eq19 : g3p = g3 := eq19; subst g3p; have eq20 : g5p = g5 := eq20; subst g5p; exact mpr_of (by kernel_rfl) ((congrArg (fun k => l41_copied_B1 r0 k s19 s20 h0_0 h0_3 h0_4 h0_5 h0_6 h0_7 h0_8 h1_0 h1_1 h1_2 h1_3 h1_4 h1_5 h1_6 h1_7 h1_8 h1_9 g3 g5 s21p g6p) (lpk2 (⟨rfl, rfl, rfl, rfl, rfl, rfl, rfl, rfl, rfl, rfl, rfl, rfl, rfl, rfl, rfl, rfl, rfl, rfl, rfl, rfl, rfl⟩ : s19 = s19 ∧ s20 = s20 ∧ h0_0 = h0_0 ∧ h0_3 = h0_3 ∧ h0_4 = h0_4 ∧ h0_5 = h0_5 ∧ h0_6 = h0_6 ∧ h0_7 = h0_7 ∧ h0_8 = h0_8 ∧ h1_0 = h1_0 ∧ h1_1 = h1_1 ∧ h1_2 = h1_2 ∧ h1_3 = h1_3 ∧ h1_4 = h1_4 ∧ h1_5 = h1_5 ∧ h1_6 = h1_6 ∧ h1_7 = h1_7 ∧ h1_8 = h1_8 ∧ h1_9 = h1_9 ∧ g3 = g3 ∧ g5 = g5) inv (fun s21q g6q => μ s21q g6q < μ s21p g6p))).mpr (hs s21p g6p hi))⟩⟩
theorem bd13 : Callable Try.prog 13 := ⟨by rw [Try.func13]; kernel_rfl, by rw [Try.func13]; show some _ ≠ some _; decide⟩
theorem l41_copied_body (p0 : TTx) (h : TL p0) : l41_copied_Body (p0.Anchor, p0.Marks, p0.Outs, p0.Deposit, p0.Withdraw, p0.Fee, p0.Account, p0.Nonce, p0.Expiry, p0.Proof, ()) ((p0.Anchor : Int), (p0.Marks : List Int), (p0.Outs : List TOut), (p0.Deposit : Int), (p0.Withdraw : Int), (p0.Fee : Int), (p0.Account : Int), (p0.Nonce : Int), (p0.Expiry : Int), (p0.Proof : List Int), ()) := by
  have hm := h.m
  have ho := h.o
  have hp := h.p
  refine l41_copied_in ?_
  refine ⟨by simp; omega, by simp; unfold maxLen; omega, by simp; omega, by simp; unfold maxLen; omega, rfl, rfl, rfl, ?_⟩
  refine l41_copied_lp1 (r0 := p0) (fun i g => 0 ≤ i ∧ i ≤ p0.Outs.length ∧ g = p0.Outs.take i.toNat) (fun i _ => (p0.Outs.length - i).toNat) ⟨by omega, by omega, by simp⟩ ?_
  rintro i g ⟨g0, g1, rfl⟩
  refine ⟨fun hh => ?_, fun hh => ?_⟩
  · have hh := of_decide_eq_true hh
    have hc := h.c _ (ix_mem p0.Outs i g0 hh)
    rw [inc i p0.Outs.length g0 hh (by omega)]
    refine ⟨g0, hh, by simp; omega, by simp; unfold maxLen; omega, rfl, by simp; omega, by simp; unfold maxLen; omega, rfl, rfl, rfl, ⟨by omega, by omega, ?_⟩, by omega⟩
    rw [take_succ_ix p0.Outs i g0 hh]
    rfl
  · have hh := of_decide_eq_false hh
    rw [List.take_of_length_le (by omega)]
    exact ⟨rfl, rfl, rfl, rfl, rfl, rfl, rfl, rfl, rfl, rfl⟩
noncomputable def l41_copied_con : Con TB.den := l41_copied_sh.fnR (fun x => (fun (p0 : TTx) => TL p0) (TTx.mk x.1 x.2.1 x.2.2.1 x.2.2.2.1 x.2.2.2.2.1 x.2.2.2.2.2.1 x.2.2.2.2.2.2.1 x.2.2.2.2.2.2.2.1 x.2.2.2.2.2.2.2.2.1 x.2.2.2.2.2.2.2.2.2.1)) fun x => ((fun (p0 : TTx) => (p0.Anchor : Int)) (TTx.mk x.1 x.2.1 x.2.2.1 x.2.2.2.1 x.2.2.2.2.1 x.2.2.2.2.2.1 x.2.2.2.2.2.2.1 x.2.2.2.2.2.2.2.1 x.2.2.2.2.2.2.2.2.1 x.2.2.2.2.2.2.2.2.2.1), (fun (p0 : TTx) => (p0.Marks : List Int)) (TTx.mk x.1 x.2.1 x.2.2.1 x.2.2.2.1 x.2.2.2.2.1 x.2.2.2.2.2.1 x.2.2.2.2.2.2.1 x.2.2.2.2.2.2.2.1 x.2.2.2.2.2.2.2.2.1 x.2.2.2.2.2.2.2.2.2.1), (fun (p0 : TTx) => (p0.Outs : List TOut)) (TTx.mk x.1 x.2.1 x.2.2.1 x.2.2.2.1 x.2.2.2.2.1 x.2.2.2.2.2.1 x.2.2.2.2.2.2.1 x.2.2.2.2.2.2.2.1 x.2.2.2.2.2.2.2.2.1 x.2.2.2.2.2.2.2.2.2.1), (fun (p0 : TTx) => (p0.Deposit : Int)) (TTx.mk x.1 x.2.1 x.2.2.1 x.2.2.2.1 x.2.2.2.2.1 x.2.2.2.2.2.1 x.2.2.2.2.2.2.1 x.2.2.2.2.2.2.2.1 x.2.2.2.2.2.2.2.2.1 x.2.2.2.2.2.2.2.2.2.1), (fun (p0 : TTx) => (p0.Withdraw : Int)) (TTx.mk x.1 x.2.1 x.2.2.1 x.2.2.2.1 x.2.2.2.2.1 x.2.2.2.2.2.1 x.2.2.2.2.2.2.1 x.2.2.2.2.2.2.2.1 x.2.2.2.2.2.2.2.2.1 x.2.2.2.2.2.2.2.2.2.1), (fun (p0 : TTx) => (p0.Fee : Int)) (TTx.mk x.1 x.2.1 x.2.2.1 x.2.2.2.1 x.2.2.2.2.1 x.2.2.2.2.2.1 x.2.2.2.2.2.2.1 x.2.2.2.2.2.2.2.1 x.2.2.2.2.2.2.2.2.1 x.2.2.2.2.2.2.2.2.2.1), (fun (p0 : TTx) => (p0.Account : Int)) (TTx.mk x.1 x.2.1 x.2.2.1 x.2.2.2.1 x.2.2.2.2.1 x.2.2.2.2.2.1 x.2.2.2.2.2.2.1 x.2.2.2.2.2.2.2.1 x.2.2.2.2.2.2.2.2.1 x.2.2.2.2.2.2.2.2.2.1), (fun (p0 : TTx) => (p0.Nonce : Int)) (TTx.mk x.1 x.2.1 x.2.2.1 x.2.2.2.1 x.2.2.2.2.1 x.2.2.2.2.2.1 x.2.2.2.2.2.2.1 x.2.2.2.2.2.2.2.1 x.2.2.2.2.2.2.2.2.1 x.2.2.2.2.2.2.2.2.2.1), (fun (p0 : TTx) => (p0.Expiry : Int)) (TTx.mk x.1 x.2.1 x.2.2.1 x.2.2.2.1 x.2.2.2.2.1 x.2.2.2.2.2.1 x.2.2.2.2.2.2.1 x.2.2.2.2.2.2.2.1 x.2.2.2.2.2.2.2.2.1 x.2.2.2.2.2.2.2.2.2.1), (fun (p0 : TTx) => (p0.Proof : List Int)) (TTx.mk x.1 x.2.1 x.2.2.1 x.2.2.2.1 x.2.2.2.2.1 x.2.2.2.2.2.1 x.2.2.2.2.2.2.1 x.2.2.2.2.2.2.2.1 x.2.2.2.2.2.2.2.2.1 x.2.2.2.2.2.2.2.2.2.1), ())
theorem l41_copied_ok : l41_copied_con.Ok Try.prog TB := Con.ok_fn l41_copied_sh bd13 fun x h => l41_copied_snd (l41_copied_body (TTx.mk x.1 x.2.1 x.2.2.1 x.2.2.2.1 x.2.2.2.2.1 x.2.2.2.2.2.1 x.2.2.2.2.2.2.1 x.2.2.2.2.2.2.2.1 x.2.2.2.2.2.2.2.2.1 x.2.2.2.2.2.2.2.2.2.1) h)
end Go.Proofs.Ytdbnagpoknmoiaa
namespace Go.Proofs.Ytdbnagpoknmoiaa
open Go Go.Bv Go.Cv Go.Md Go.RowKit
def r41_Small_sh : Con TB.den := Con.mk0 28 [.agg [.d (.int .u64), .d (.sl (.int .u64)), .d (.sl (.st 0)), .d (.int .u64), .d (.int .u64), .d (.int .u64), .d (.int .u64), .d (.int .u64), .d (.int .i64), .d (.sl (.int .u8))], .one (.d (.int .i64))] [] (.one (.one (.d (.bool)))) []
abbrev r41_Small_I := HL TB.den (hsT r41_Small_sh.ins (hsOs r41_Small_sh.pre))
abbrev r41_Small_O := HL TB.den (hsV r41_Small_sh.res (hsOs r41_Small_sh.post))
noncomputable def r41_Small_cx : Cx TB := ⟨inf, [], [], 4⟩
noncomputable def r41_Small_code : Code := Try.f28.body.getD .skip
noncomputable def r41_Small_rs : List ResultVar := Try.f28.results.toList
noncomputable def r41_Small_Q1 (o : r41_Small_O) : Exit → TSt TB.den → Prop := thenT TB (fun s => ghs TB [] s fun s => WP TB r41_Small_cx 38 0 (cB (cB r41_Small_code)) .no s (retTQ TB r41_Small_cx r41_Small_sh r41_Small_rs o)) (retTQ TB r41_Small_cx r41_Small_sh r41_Small_rs o)
def r41_Small_T1 : Tm := ⟨[0], [.cells [.d (.int .u64), .d (.sl (.int .u64)), .d (.sl (.st 0)), .d (.int .u64), .d (.int .u64), .d (.int .u64), .d (.int .u64), .d (.int .u64), .d (.int .i64), .d (.sl (.int .u8))]], [1, 2, 5], [.one (.d (.int .i64)), .one (.ptr 0 0), .one (.d (.int .i64))], 1⟩
noncomputable def r41_Small_Q2 (o : r41_Small_O) (nx1 : HL TB.den r41_Small_T1.hs → Prop) : Exit → TSt TB.den → Prop := thenT TB (fun s => r41_Small_T1.mat TB 0 s nx1) (blockT TB 0 (r41_Small_Q1 o))
noncomputable def r41_Small_L1 (o : r41_Small_O) (nx1 : HL TB.den r41_Small_T1.hs → Prop) (i : HL TB.den r41_Small_T1.hs) : Prop := WP TB r41_Small_cx 38 0 (cA (cA (cB (cA (cB r41_Small_code))))) .no (r41_Small_T1.fill TB i) (r41_Small_Q2 o nx1)
noncomputable def r41_Small_A5 (o : r41_Small_O) : An TB := .nd [] .no [] (.lp [] r41_Small_T1 (r41_Small_L1 o) fun nx1 => .no)
noncomputable def r41_Small_an (o : r41_Small_O) : An TB := .nd [] .no [] (.nd [] (r41_Small_A5 o) [] .no)
noncomputable def r41_Small_Body (x : r41_Small_I) (o : r41_Small_O) : Prop := WPh TB r41_Small_cx 38 0 r41_Small_code (r41_Small_an o) (r41_Small_sh.st TB x) (retTQ TB r41_Small_cx r41_Small_sh r41_Small_rs o)
set_option maxRecDepth 100000 in
theorem r41_Small_obl (o : r41_Small_O) : OblH TB r41_Small_cx 38 0 r41_Small_code (r41_Small_an o) (retTQ TB r41_Small_cx r41_Small_sh r41_Small_rs o) :=
  OblH.of_eq (X := (True ∧ ((True ∧ ((∀ nx i, (r41_Small_L1 o) nx i = (r41_Small_L1 o) nx i) ∧ ∀ nx1 : HL TB.den r41_Small_T1.hs → Prop, ((True ∧ (True ∧ True)) ∧ ((True ∧ ((True ∧ True) ∧ True)) ∧ True)))) ∧ (True ∧ True)))) (by kernel_rfl) ⟨trivial, ⟨⟨trivial, ⟨fun _ _ => rfl, fun _ => ⟨⟨trivial, ⟨trivial, trivial⟩⟩, ⟨⟨trivial, ⟨⟨trivial, trivial⟩, trivial⟩⟩, trivial⟩⟩⟩⟩, ⟨trivial, trivial⟩⟩⟩
set_option maxRecDepth 100000 in
theorem r41_Small_snd {x : r41_Small_I} {o : r41_Small_O} (h : r41_Small_Body x o) : SoundH Try.prog r41_Small_sh.f ((r41_Small_sh.args idf x).map (er TB)) ((r41_Small_sh.obs idf x).map (erO TB)) (er TB (r41_Small_sh.val idf o)) ((r41_Small_sh.ops idf o).map (erO TB)) :=
  Con.soundH (c := r41_Small_sh) (C := r41_Small_cx) TBok ⟨inf_ok, all_nil, all_nil⟩ mix Try.func28 (show Try.f28.body = some r41_Small_code by kernel_rfl) (show Try.f28.ntmps = 38 by kernel_rfl) (show Try.f28.results.toList = r41_Small_rs by kernel_rfl) rfl h (r41_Small_obl o)
set_option maxRecDepth 100000 in
theorem r41_Small_in {p0 : TTx} {p1 : Int} {r0 : Bool} (h :
(Md.Loop (p1, (0 : Int), p0.Anchor, p0.Marks, p0.Outs, p0.Deposit, p0.Withdraw, p0.Fee, p0.Account, p0.Nonce, p0.Expiry, p0.Proof, ()) (r41_Small_L1 (r0, ())))) : r41_Small_Body (p0.Anchor, p0.Marks, p0.Outs, p0.Deposit, p0.Withdraw, p0.Fee, p0.Account, p0.Nonce, p0.Expiry, p0.Proof, p1, ()) (r0, ()) := WPh.of_eq (by kernel_rfl) h
def r41_Small_B1 (r0 : Bool) (k1 : Int → Prop) (s1 : Int) (h0_0 : Int) (h0_1 : List Int) (h0_2 : List TOut) (h0_3 : Int) (h0_4 : Int) (h0_5 : Int) (h0_6 : Int) (h0_7 : Int) (h0_8 : Int) (h0_9 : List Int) (s5 : Int) : Prop :=
(decide (s5 < (h0_2.length : Int)) = true →
(0 ≤ s5) ∧ s5 < (h0_2.length : Int) ∧ let v1 : Bool := decide (10 < (((ix h0_2 s5).Cipher).length : Int))
(v1 = true →
 false = r0) ∧
(v1 = false →
 k1 (IntKind.i64.wrap (s5 + 1) : Int))) ∧
(decide (s5 < (h0_2.length : Int)) = false →
(decide ((h0_1.length : Int) ≤ 10) = true →
(decide ((h0_2.length : Int) ≤ 10) = true →
 decide ((h0_9.length : Int) ≤ s1) = r0) ∧
(decide ((h0_2.length : Int) ≤ 10) = false →
 false = r0)) ∧
(decide ((h0_1.length : Int) ≤ 10) = false →
 false = r0))
set_option maxRecDepth 100000 in
theorem r41_Small_lp1 {r0 : Bool} {s1 : Int} {h0_0 : Int} {h0_1 : List Int} {h0_2 : List TOut} {h0_3 : Int} {h0_4 : Int} {h0_5 : Int} {h0_6 : Int} {h0_7 : Int} {h0_8 : Int} {h0_9 : List Int} {s5 : Int} (inv : Int → Prop) (μ : Int → Nat) (h0 : inv s5) (hs : ∀ (s5 : Int), inv s5 → r41_Small_B1 r0 (fun s5q => inv s5q ∧ μ s5q < μ s5) s1 h0_0 h0_1 h0_2 h0_3 h0_4 h0_5 h0_6 h0_7 h0_8 h0_9 s5) : Md.Loop (s1, s5, h0_0, h0_1, h0_2, h0_3, h0_4, h0_5, h0_6, h0_7, h0_8, h0_9, ()) (r41_Small_L1 (r0, ())) :=
  ⟨⟨fun s : Int × Int × Int × (List Int) × (List TOut) × Int × Int × Int × Int × Int × Int × (List Int) × Unit => (s.1 = s1 ∧ s.2.2.1 = h0_0 ∧ s.2.2.2.1 = h0_1 ∧ s.2.2.2.2.1 = h0_2 ∧ s.2.2.2.2.2.1 = h0_3 ∧ s.2.2.2.2.2.2.1 = h0_4 ∧ s.2.2.2.2.2.2.2.1 = h0_5 ∧ s.2.2.2.2.2.2.2.2.1 = h0_6 ∧ s.2.2.2.2.2.2.2.2.2.1 = h0_7 ∧ s.2.2.2.2.2.2.2.2.2.2.1 = h0_8 ∧ s.2.2.2.2.2.2.2.2.2.2.2.1 = h0_9) ∧ inv s.2.1, fun s : Int × Int × Int × (List Int) × (List TOut) × Int × Int × Int × Int × Int × Int × (List Int) × Unit => μ s.2.1, ⟨⟨rfl, rfl, rfl, rfl, rfl, rfl, rfl, rfl, rfl, rfl, rfl⟩, h0⟩, fun (s1p, s5p, h0_0p, h0_1p, h0_2p, h0_3p, h0_4p, h0_5p, h0_6p, h0_7p, h0_8p, h0_9p, ()) ⟨⟨eq0, eq1, eq2, eq3, eq4, eq5, eq6, eq7, eq8, eq9, eq10⟩, hi⟩ => by
    have eq0 : s1p = s1 := eq0; subst s1p; have eq1 : h0_0p = h0_0 := eq1; subst h0_0p; have eq2 : h0_1p = h0_1 := eq2; subst h0_1p; have eq3 : h0_2p = h0_2 := eq3; subst h0_2p; have eq4 : h0_3p = h0_3 := eq4; subst h0_3p; have eq5 : h0_4p = h0_4 := eq5; subst h0_4p; have eq6 : h0_5p = h0_5 := eq6; subst h0_5p; have eq7 : h0_6p = h0_6 := eq7; subst h0_6p; have eq8 : h0_7p = h0_7 := eq8; subst h0_7p; have eq9 : h0_8p = h0_8 := eq9; subst h0_8p; have eq10 : h0_9p = h0_9 := eq10; subst h0_9p; exact mpr_of (by kernel_rfl) ((congrArg (fun k => r41_Small_B1 r0 k s1 h0_0 h0_1 h0_2 h0_3 h0_4 h0_5 h0_6 h0_7 h0_8 h0_9 s5p) (lpk1 (⟨rfl, rfl, rfl, rfl, rfl, rfl, rfl, rfl, rfl, rfl, rfl⟩ : s1 = s1 ∧ h0_0 = h0_0 ∧ h0_1 = h0_1 ∧ h0_2 = h0_2 ∧ h0_3 = h0_3 ∧ h0_4 = h0_4 ∧ h0_5 = h0_5 ∧ h0_6 = h0_6 ∧ h0_7 = h0_7 ∧ h0_8 = h0_8 ∧ h0_9 = h0_9) inv (fun s5q => μ s5q < μ s5p))).mpr (hs s5p hi))⟩⟩
theorem bd28 : Callable Try.prog 28 := ⟨by rw [Try.func28]; kernel_rfl, by rw [Try.func28]; show some _ ≠ some _; decide⟩
theorem r41_Small_body (p0 : TTx) (p1 : Int) (h : p0.Outs.length ≤ 9223372036854775807) : r41_Small_Body (p0.Anchor, p0.Marks, p0.Outs, p0.Deposit, p0.Withdraw, p0.Fee, p0.Account, p0.Nonce, p0.Expiry, p0.Proof, p1, ()) ((smallB p0 p1 : Bool), ()) := by
  refine r41_Small_in (r41_Small_lp1 (fun i => 0 ≤ i ∧ i ≤ p0.Outs.length ∧ ∀ x ∈ p0.Outs.take i.toNat, x.Cipher.length ≤ 10) (fun i => (p0.Outs.length - i).toNat) ⟨by omega, by omega, by simp⟩ ?_)
  rintro i ⟨g0, g1, g2⟩
  refine ⟨fun hh => ?_, fun hh => ?_⟩
  · have hh := of_decide_eq_true hh
    refine ⟨g0, hh, fun e => ?_, fun e => ?_⟩
    · have e := of_decide_eq_true e
      unfold smallB
      have : p0.Outs.all (fun x => decide (x.Cipher.length ≤ 10)) = false := List.all_eq_false.2 ⟨_, ix_mem p0.Outs i g0 hh, by simp; omega⟩
      rw [this]
      simp
    · have e := of_decide_eq_false e
      rw [inc i p0.Outs.length g0 hh (by omega)]
      refine ⟨⟨by omega, by omega, ?_⟩, by omega⟩
      rw [take_succ_ix p0.Outs i g0 hh]
      intro x hx
      rcases List.mem_append.1 hx with hx | hx
      · exact g2 x hx
      · have : x = ix p0.Outs i := by simpa using hx
        rw [this]; omega
  · have hh := of_decide_eq_false hh
    rw [List.take_of_length_le (by omega)] at g2
    unfold smallB
    have : p0.Outs.all (fun x => decide (x.Cipher.length ≤ 10)) = true := by simpa using g2
    rw [this]
    refine ⟨fun h1 => ⟨fun h2 => ?_, fun h2 => ?_⟩, fun h1 => ?_⟩
    · have h1 := of_decide_eq_true h1
      have h2 := of_decide_eq_true h2
      rw [decide_eq_true (p := p0.Marks.length ≤ 10) (by omega), decide_eq_true (p := p0.Outs.length ≤ 10) (by omega)]
      simp
    · have h2 := of_decide_eq_false h2
      rw [decide_eq_false (p := p0.Outs.length ≤ 10) (by omega)]
      simp
    · have h1 := of_decide_eq_false h1
      rw [decide_eq_false (p := p0.Marks.length ≤ 10) (by omega)]
      simp
noncomputable def r41_Small_con : Con TB.den := r41_Small_sh.fnR (fun x => (fun (p0 : TTx) (p1 : Int) => p0.Outs.length ≤ 9223372036854775807) (TTx.mk x.1 x.2.1 x.2.2.1 x.2.2.2.1 x.2.2.2.2.1 x.2.2.2.2.2.1 x.2.2.2.2.2.2.1 x.2.2.2.2.2.2.2.1 x.2.2.2.2.2.2.2.2.1 x.2.2.2.2.2.2.2.2.2.1) x.2.2.2.2.2.2.2.2.2.2.1) fun x => ((fun (p0 : TTx) (p1 : Int) => (smallB p0 p1 : Bool)) (TTx.mk x.1 x.2.1 x.2.2.1 x.2.2.2.1 x.2.2.2.2.1 x.2.2.2.2.2.1 x.2.2.2.2.2.2.1 x.2.2.2.2.2.2.2.1 x.2.2.2.2.2.2.2.2.1 x.2.2.2.2.2.2.2.2.2.1) x.2.2.2.2.2.2.2.2.2.2.1, ())
theorem r41_Small_ok : r41_Small_con.Ok Try.prog TB := Con.ok_fn r41_Small_sh bd28 fun x h => r41_Small_snd (r41_Small_body (TTx.mk x.1 x.2.1 x.2.2.1 x.2.2.2.1 x.2.2.2.2.1 x.2.2.2.2.2.1 x.2.2.2.2.2.2.1 x.2.2.2.2.2.2.2.1 x.2.2.2.2.2.2.2.2.1 x.2.2.2.2.2.2.2.2.2.1) x.2.2.2.2.2.2.2.2.2.2.1 h)
end Go.Proofs.Ytdbnagpoknmoiaa
namespace Go.Proofs.Ytdbnagpoknmoiaa
open Go Go.Bv Go.Cv Go.Md Go.RowKit
def l41_small_sh : Con TB.den := Con.mk0 11 [.agg [.d (.int .u64), .d (.sl (.int .u64)), .d (.sl (.st 0)), .d (.int .u64), .d (.int .u64), .d (.int .u64), .d (.int .u64), .d (.int .u64), .d (.int .i64), .d (.sl (.int .u8))]] [] (.one (.one (.d (.bool)))) []
abbrev l41_small_I := HL TB.den (hsT l41_small_sh.ins (hsOs l41_small_sh.pre))
abbrev l41_small_O := HL TB.den (hsV l41_small_sh.res (hsOs l41_small_sh.post))
noncomputable def l41_small_cx : Cx TB := ⟨inf, [r41_Small_con], [], 4⟩
noncomputable def l41_small_code : Code := Try.f11.body.getD .skip
noncomputable def l41_small_rs : List ResultVar := Try.f11.results.toList
noncomputable def l41_small_an (o : l41_small_O) : An TB := .no
noncomputable def l41_small_Body (x : l41_small_I) (o : l41_small_O) : Prop := WPh TB l41_small_cx 5 0 l41_small_code (l41_small_an o) (l41_small_sh.st TB x) (retTQ TB l41_small_cx l41_small_sh l41_small_rs o)
set_option maxRecDepth 100000 in
theorem l41_small_obl (o : l41_small_O) : OblH TB l41_small_cx 5 0 l41_small_code (l41_small_an o) (retTQ TB l41_small_cx l41_small_sh l41_small_rs o) :=
  OblH.of_eq (X := (True ∧ (True ∧ True))) (by kernel_rfl) ⟨trivial, ⟨trivial, trivial⟩⟩
set_option maxRecDepth 100000 in
theorem l41_small_snd {x : l41_small_I} {o : l41_small_O} (h : l41_small_Body x o) : SoundH Try.prog l41_small_sh.f ((l41_small_sh.args idf x).map (er TB)) ((l41_small_sh.obs idf x).map (erO TB)) (er TB (l41_small_sh.val idf o)) ((l41_small_sh.ops idf o).map (erO TB)) :=
  Con.soundH (c := l41_small_sh) (C := l41_small_cx) TBok ⟨inf_ok, (all_cons r41_Small_ok all_nil), all_nil⟩ mix Try.func11 (show Try.f11.body = some l41_small_code by kernel_rfl) (show Try.f11.ntmps = 5 by kernel_rfl) (show Try.f11.results.toList = l41_small_rs by kernel_rfl) rfl h (l41_small_obl o)
set_option maxRecDepth 100000 in
theorem l41_small_in {p0 : TTx} {r0 : Bool} (h :
((p0.Outs.length ≤ 9223372036854775807) ∧ smallB p0 (300 : Int) = r0)) : l41_small_Body (p0.Anchor, p0.Marks, p0.Outs, p0.Deposit, p0.Withdraw, p0.Fee, p0.Account, p0.Nonce, p0.Expiry, p0.Proof, ()) (r0, ()) := WPh.of_eq (by kernel_rfl) h
theorem bd11 : Callable Try.prog 11 := ⟨by rw [Try.func11]; kernel_rfl, by rw [Try.func11]; show some _ ≠ some _; decide⟩
theorem l41_small_body (p0 : TTx) (h : p0.Outs.length ≤ 9223372036854775807) : l41_small_Body (p0.Anchor, p0.Marks, p0.Outs, p0.Deposit, p0.Withdraw, p0.Fee, p0.Account, p0.Nonce, p0.Expiry, p0.Proof, ()) ((smallB p0 300 : Bool), ()) := by
  exact l41_small_in ⟨h, rfl⟩
noncomputable def l41_small_con : Con TB.den := l41_small_sh.fnR (fun x => (fun (p0 : TTx) => p0.Outs.length ≤ 9223372036854775807) (TTx.mk x.1 x.2.1 x.2.2.1 x.2.2.2.1 x.2.2.2.2.1 x.2.2.2.2.2.1 x.2.2.2.2.2.2.1 x.2.2.2.2.2.2.2.1 x.2.2.2.2.2.2.2.2.1 x.2.2.2.2.2.2.2.2.2.1)) fun x => ((fun (p0 : TTx) => (smallB p0 300 : Bool)) (TTx.mk x.1 x.2.1 x.2.2.1 x.2.2.2.1 x.2.2.2.2.1 x.2.2.2.2.2.1 x.2.2.2.2.2.2.1 x.2.2.2.2.2.2.2.1 x.2.2.2.2.2.2.2.2.1 x.2.2.2.2.2.2.2.2.2.1), ())
theorem l41_small_ok : l41_small_con.Ok Try.prog TB := Con.ok_fn l41_small_sh bd11 fun x h => l41_small_snd (l41_small_body (TTx.mk x.1 x.2.1 x.2.2.1 x.2.2.2.1 x.2.2.2.2.1 x.2.2.2.2.2.1 x.2.2.2.2.2.2.1 x.2.2.2.2.2.2.2.1 x.2.2.2.2.2.2.2.2.1 x.2.2.2.2.2.2.2.2.2.1) h)
end Go.Proofs.Ytdbnagpoknmoiaa
namespace Go.Proofs.Ytdbnagpoknmoiaa
open Go Go.Bv Go.Cv Go.Md Go.RowKit
def r32_Valid_sh : Con TB.den := Con.mk0 33 [.agg [.d (.int .u64), .d (.int .u64)]] [] (.one (.one (.d (.bool)))) []
abbrev r32_Valid_I := HL TB.den (hsT r32_Valid_sh.ins (hsOs r32_Valid_sh.pre))
abbrev r32_Valid_O := HL TB.den (hsV r32_Valid_sh.res (hsOs r32_Valid_sh.post))
noncomputable def r32_Valid_cx : Cx TB := ⟨inf, [], [], 4⟩
noncomputable def r32_Valid_code : Code := Try.f33.body.getD .skip
noncomputable def r32_Valid_rs : List ResultVar := Try.f33.results.toList
noncomputable def r32_Valid_an (o : r32_Valid_O) : An TB := .no
noncomputable def r32_Valid_Body (x : r32_Valid_I) (o : r32_Valid_O) : Prop := WPh TB r32_Valid_cx 21 0 r32_Valid_code (r32_Valid_an o) (r32_Valid_sh.st TB x) (retTQ TB r32_Valid_cx r32_Valid_sh r32_Valid_rs o)
set_option maxRecDepth 100000 in
theorem r32_Valid_obl (o : r32_Valid_O) : OblH TB r32_Valid_cx 21 0 r32_Valid_code (r32_Valid_an o) (retTQ TB r32_Valid_cx r32_Valid_sh r32_Valid_rs o) :=
  OblH.of_eq (X := (True ∧ (True ∧ True))) (by kernel_rfl) ⟨trivial, ⟨trivial, trivial⟩⟩
set_option maxRecDepth 100000 in
theorem r32_Valid_snd {x : r32_Valid_I} {o : r32_Valid_O} (h : r32_Valid_Body x o) : SoundH Try.prog r32_Valid_sh.f ((r32_Valid_sh.args idf x).map (er TB)) ((r32_Valid_sh.obs idf x).map (erO TB)) (er TB (r32_Valid_sh.val idf o)) ((r32_Valid_sh.ops idf o).map (erO TB)) :=
  Con.soundH (c := r32_Valid_sh) (C := r32_Valid_cx) TBok ⟨inf_ok, all_nil, all_nil⟩ mix Try.func33 (show Try.f33.body = some r32_Valid_code by kernel_rfl) (show Try.f33.ntmps = 21 by kernel_rfl) (show Try.f33.results.toList = r32_Valid_rs by kernel_rfl) rfl h (r32_Valid_obl o)
set_option maxRecDepth 100000 in
theorem r32_Valid_in {p0 : TA2} {r0 : Bool} (h :
((decide (p0.a0 < 18446744069414584321) = true →
(decide (p0.a1 < 18446744069414584321) = true →
(decide (0 < p0.a0) = true →
 true = r0) ∧
(decide (0 < p0.a0) = false →
 decide (0 < p0.a1) = r0)) ∧
(decide (p0.a1 < 18446744069414584321) = false →
 false = r0)) ∧
(decide (p0.a0 < 18446744069414584321) = false →
 false = r0))) : r32_Valid_Body (p0.a0, p0.a1, ()) (r0, ()) := WPh.of_eq (by kernel_rfl) h
theorem bd33 : Callable Try.prog 33 := ⟨by rw [Try.func33]; kernel_rfl, by rw [Try.func33]; show some _ ≠ some _; decide⟩
theorem r32_Valid_body (p0 : TA2) (h : 0 ≤ p0.a0 ∧ 0 ≤ p0.a1) : r32_Valid_Body (p0.a0, p0.a1, ()) ((vPoint p0.a0 p0.a1 : Bool), ()) := by
  refine r32_Valid_in ?_
  unfold vPoint
  repeat' (apply And.intro <;> intro h)
  all_goals grind
noncomputable def r32_Valid_con : Con TB.den := r32_Valid_sh.fnR (fun x => (fun (p0 : TA2) => 0 ≤ p0.a0 ∧ 0 ≤ p0.a1) (TA2.mk x.1 x.2.1)) fun x => ((fun (p0 : TA2) => (vPoint p0.a0 p0.a1 : Bool)) (TA2.mk x.1 x.2.1), ())
theorem r32_Valid_ok : r32_Valid_con.Ok Try.prog TB := Con.ok_fn r32_Valid_sh bd33 fun x h => r32_Valid_snd (r32_Valid_body (TA2.mk x.1 x.2.1) h)
end Go.Proofs.Ytdbnagpoknmoiaa
namespace Go.Proofs.Ytdbnagpoknmoiaa
open Go Go.Bv Go.Cv Go.Md Go.RowKit
def r41_reduced_sh : Con TB.den := Con.mk0 32 [.one (.d (.sl (.int .u64)))] [] (.one (.one (.d (.bool)))) []
abbrev r41_reduced_I := HL TB.den (hsT r41_reduced_sh.ins (hsOs r41_reduced_sh.pre))
abbrev r41_reduced_O := HL TB.den (hsV r41_reduced_sh.res (hsOs r41_reduced_sh.post))
noncomputable def r41_reduced_cx : Cx TB := ⟨inf, [], [], 4⟩
noncomputable def r41_reduced_code : Code := Try.f32.body.getD .skip
noncomputable def r41_reduced_rs : List ResultVar := Try.f32.results.toList
noncomputable def r41_reduced_Q1 (o : r41_reduced_O) : Exit → TSt TB.den → Prop := thenT TB (fun s => ghs TB [] s fun s => WP TB r41_reduced_cx 15 0 (cB (cB r41_reduced_code)) .no s (retTQ TB r41_reduced_cx r41_reduced_sh r41_reduced_rs o)) (retTQ TB r41_reduced_cx r41_reduced_sh r41_reduced_rs o)
def r41_reduced_T1 : Tm := ⟨[], [], [0, 3], [.one (.d (.sl (.int .u64))), .one (.d (.int .i64))], 0⟩
noncomputable def r41_reduced_Q2 (o : r41_reduced_O) (nx1 : HL TB.den r41_reduced_T1.hs → Prop) : Exit → TSt TB.den → Prop := thenT TB (fun s => r41_reduced_T1.mat TB 0 s nx1) (blockT TB 0 (r41_reduced_Q1 o))
noncomputable def r41_reduced_L1 (o : r41_reduced_O) (nx1 : HL TB.den r41_reduced_T1.hs → Prop) (i : HL TB.den r41_reduced_T1.hs) : Prop := WP TB r41_reduced_cx 15 0 (cA (cA (cB (cA (cB r41_reduced_code))))) .no (r41_reduced_T1.fill TB i) (r41_reduced_Q2 o nx1)
noncomputable def r41_reduced_A5 (o : r41_reduced_O) : An TB := .nd [] .no [] (.lp [] r41_reduced_T1 (r41_reduced_L1 o) fun nx1 => .no)
noncomputable def r41_reduced_an (o : r41_reduced_O) : An TB := .nd [] .no [] (.nd [] (r41_reduced_A5 o) [] .no)
noncomputable def r41_reduced_Body (x : r41_reduced_I) (o : r41_reduced_O) : Prop := WPh TB r41_reduced_cx 15 0 r41_reduced_code (r41_reduced_an o) (r41_reduced_sh.st TB x) (retTQ TB r41_reduced_cx r41_reduced_sh r41_reduced_rs o)
set_option maxRecDepth 100000 in
theorem r41_reduced_obl (o : r41_reduced_O) : OblH TB r41_reduced_cx 15 0 r41_reduced_code (r41_reduced_an o) (retTQ TB r41_reduced_cx r41_reduced_sh r41_reduced_rs o) :=
  OblH.of_eq (X := (True ∧ ((True ∧ ((∀ nx i, (r41_reduced_L1 o) nx i = (r41_reduced_L1 o) nx i) ∧ ∀ nx1 : HL TB.den r41_reduced_T1.hs → Prop, ((True ∧ (True ∧ True)) ∧ ((True ∧ ((True ∧ True) ∧ True)) ∧ True)))) ∧ (True ∧ True)))) (by kernel_rfl) ⟨trivial, ⟨⟨trivial, ⟨fun _ _ => rfl, fun _ => ⟨⟨trivial, ⟨trivial, trivial⟩⟩, ⟨⟨trivial, ⟨⟨trivial, trivial⟩, trivial⟩⟩, trivial⟩⟩⟩⟩, ⟨trivial, trivial⟩⟩⟩
set_option maxRecDepth 100000 in
theorem r41_reduced_snd {x : r41_reduced_I} {o : r41_reduced_O} (h : r41_reduced_Body x o) : SoundH Try.prog r41_reduced_sh.f ((r41_reduced_sh.args idf x).map (er TB)) ((r41_reduced_sh.obs idf x).map (erO TB)) (er TB (r41_reduced_sh.val idf o)) ((r41_reduced_sh.ops idf o).map (erO TB)) :=
  Con.soundH (c := r41_reduced_sh) (C := r41_reduced_cx) TBok ⟨inf_ok, all_nil, all_nil⟩ mix Try.func32 (show Try.f32.body = some r41_reduced_code by kernel_rfl) (show Try.f32.ntmps = 15 by kernel_rfl) (show Try.f32.results.toList = r41_reduced_rs by kernel_rfl) rfl h (r41_reduced_obl o)
set_option maxRecDepth 100000 in
theorem r41_reduced_in {p0 : List Int} {r0 : Bool} (h :
(Md.Loop (p0, (0 : Int), ()) (r41_reduced_L1 (r0, ())))) : r41_reduced_Body (p0, ()) (r0, ()) := WPh.of_eq (by kernel_rfl) h
def r41_reduced_B1 (r0 : Bool) (k1 : Int → Prop) (s0 : List Int) (s3 : Int) : Prop :=
(decide (s3 < (s0.length : Int)) = true →
(0 ≤ s3) ∧ s3 < (s0.length : Int) ∧ let v1 : Bool := decide (18446744069414584321 ≤ (ix s0 s3))
(v1 = true →
 false = r0) ∧
(v1 = false →
 k1 (IntKind.i64.wrap (s3 + 1) : Int))) ∧
(decide (s3 < (s0.length : Int)) = false →
 true = r0)
set_option maxRecDepth 100000 in
theorem r41_reduced_lp1 {r0 : Bool} {s0 : List Int} {s3 : Int} (inv : Int → Prop) (μ : Int → Nat) (h0 : inv s3) (hs : ∀ (s3 : Int), inv s3 → r41_reduced_B1 r0 (fun s3q => inv s3q ∧ μ s3q < μ s3) s0 s3) : Md.Loop (s0, s3, ()) (r41_reduced_L1 (r0, ())) :=
  ⟨⟨fun s : (List Int) × Int × Unit => (s.1 = s0) ∧ inv s.2.1, fun s : (List Int) × Int × Unit => μ s.2.1, ⟨rfl, h0⟩, fun (s0p, s3p, ()) ⟨eq0, hi⟩ => by
    have eq0 : s0p = s0 := eq0; subst s0p; exact mpr_of (by kernel_rfl) ((congrArg (fun k => r41_reduced_B1 r0 k s0 s3p) (lpk1 (rfl : s0 = s0) inv (fun s3q => μ s3q < μ s3p))).mpr (hs s3p hi))⟩⟩
theorem bd32 : Callable Try.prog 32 := ⟨by rw [Try.func32]; kernel_rfl, by rw [Try.func32]; show some _ ≠ some _; decide⟩
theorem r41_reduced_body (p0 : List Int) (h : p0.length ≤ 9223372036854775807) : r41_reduced_Body (p0, ()) ((p0.all (fun x => decide (x < 18446744069414584321)) : Bool), ()) := by
  refine r41_reduced_in (r41_reduced_lp1 (fun i => 0 ≤ i ∧ i ≤ p0.length ∧ ∀ x ∈ p0.take i.toNat, x < 18446744069414584321) (fun i => (p0.length - i).toNat) ⟨by omega, by omega, by simp⟩ ?_)
  rintro i ⟨g0, g1, g2⟩
  refine ⟨fun hh => ?_, fun hh => ?_⟩
  · have hh := of_decide_eq_true hh
    refine ⟨g0, hh, fun e => ?_, fun e => ?_⟩
    · have e := of_decide_eq_true e
      exact (List.all_eq_false.2 ⟨_, ix_mem p0 i g0 hh, by simp; omega⟩).symm
    · have e := of_decide_eq_false e
      rw [inc i p0.length g0 hh (by omega)]
      refine ⟨⟨by omega, by omega, ?_⟩, by omega⟩
      rw [take_succ_ix p0 i g0 hh]
      intro x hx
      rcases List.mem_append.1 hx with hx | hx
      · exact g2 x hx
      · have : x = ix p0 i := by simpa using hx
        omega
  · have hh := of_decide_eq_false hh
    rw [List.take_of_length_le (by omega)] at g2
    symm
    simpa using g2
noncomputable def r41_reduced_con : Con TB.den := r41_reduced_sh.fnR (fun x => (fun (p0 : List Int) => p0.length ≤ 9223372036854775807) x.1) fun x => ((fun (p0 : List Int) => (p0.all (fun x => decide (x < 18446744069414584321)) : Bool)) x.1, ())
theorem r41_reduced_ok : r41_reduced_con.Ok Try.prog TB := Con.ok_fn r41_reduced_sh bd32 fun x h => r41_reduced_snd (r41_reduced_body x.1 h)
end Go.Proofs.Ytdbnagpoknmoiaa
namespace Go.Proofs.Ytdbnagpoknmoiaa
open Go Go.Bv Go.Cv Go.Md Go.RowKit
def r41_Valid_sh : Con TB.den := Con.mk0 14 [.agg [.d (.int .u64), .d (.sl (.int .u64)), .d (.sl (.st 0)), .d (.int .u64), .d (.int .u64), .d (.int .u64), .d (.int .u64), .d (.int .u64), .d (.int .i64), .d (.sl (.int .u8))]] [] (.one (.one (.d (.int .i64)))) []
abbrev r41_Valid_I := HL TB.den (hsT r41_Valid_sh.ins (hsOs r41_Valid_sh.pre))
abbrev r41_Valid_O := HL TB.den (hsV r41_Valid_sh.res (hsOs r41_Valid_sh.post))
noncomputable def r41_Valid_cx : Cx TB := ⟨inf, [r41_reduced_con, r32_Valid_con], [], 4⟩
noncomputable def r41_Valid_code : Code := Try.f14.body.getD .skip
noncomputable def r41_Valid_rs : List ResultVar := Try.f14.results.toList
def r41_Valid_TJ2 : Tm := ⟨[0], [.cells [.d (.int .u64), .d (.sl (.int .u64)), .d (.sl (.st 0)), .d (.int .u64), .d (.int .u64), .d (.int .u64), .d (.int .u64), .d (.int .u64), .d (.int .i64), .d (.sl (.int .u8))]], [1], [.one (.ptr 0 0)], 2⟩
noncomputable def r41_Valid_J2d (o : r41_Valid_O) (i : HL TB.den r41_Valid_TJ2.hs) : Prop := ghs TB [] (r41_Valid_TJ2.fill TB i) fun s => WP TB r41_Valid_cx 149 0 (cB (cB (cB (cB (cB (cB r41_Valid_code)))))) .no s (retTQ TB r41_Valid_cx r41_Valid_sh r41_Valid_rs o)
structure r41_Valid_J2 (o : r41_Valid_O) (i : HL TB.den r41_Valid_TJ2.hs) : Prop where
  h : r41_Valid_J2d o i
def r41_Valid_TJ1 : Tm := ⟨[0], [.cells [.d (.int .u64), .d (.sl (.int .u64)), .d (.sl (.st 0)), .d (.int .u64), .d (.int .u64), .d (.int .u64), .d (.int .u64), .d (.int .u64), .d (.int .i64), .d (.sl (.int .u8))]], [1], [.one (.ptr 0 0)], 2⟩
noncomputable def r41_Valid_J1d (o : r41_Valid_O) (i : HL TB.den r41_Valid_TJ1.hs) : Prop := ghs TB [] (r41_Valid_TJ1.fill TB i) fun s => WP TB r41_Valid_cx 149 0 (cB (cB (cB (cB (cB r41_Valid_code))))) (.jn r41_Valid_TJ2 (r41_Valid_J2 o) [] .no [] .no) s (retTQ TB r41_Valid_cx r41_Valid_sh r41_Valid_rs o)
structure r41_Valid_J1 (o : r41_Valid_O) (i : HL TB.den r41_Valid_TJ1.hs) : Prop where
  h : r41_Valid_J1d o i
noncomputable def r41_Valid_A5 (o : r41_Valid_O) : An TB := .jn r41_Valid_TJ1 (r41_Valid_J1 o) [] .no [] (.jn r41_Valid_TJ2 (r41_Valid_J2 o) [] .no [] .no)
noncomputable def r41_Valid_Q6 (o : r41_Valid_O) : Exit → TSt TB.den → Prop := thenT TB (fun s => ghs TB [] s fun s => WP TB r41_Valid_cx 149 0 (cB (cB (cB (cB r41_Valid_code)))) (r41_Valid_A5 o) s (retTQ TB r41_Valid_cx r41_Valid_sh r41_Valid_rs o)) (retTQ TB r41_Valid_cx r41_Valid_sh r41_Valid_rs o)
def r41_Valid_T3 : Tm := ⟨[0], [.cells [.d (.int .u64), .d (.sl (.int .u64)), .d (.sl (.st 0)), .d (.int .u64), .d (.int .u64), .d (.int .u64), .d (.int .u64), .d (.int .u64), .d (.int .i64), .d (.sl (.int .u8))]], [1, 5], [.one (.ptr 0 0), .one (.d (.int .i64))], 2⟩
noncomputable def r41_Valid_Q7 (o : r41_Valid_O) (nx3 : HL TB.den r41_Valid_T3.hs → Prop) : Exit → TSt TB.den → Prop := thenT TB (fun s => r41_Valid_T3.mat TB 0 s nx3) (blockT TB 4 (r41_Valid_Q6 o))
noncomputable def r41_Valid_L3 (o : r41_Valid_O) (nx3 : HL TB.den r41_Valid_T3.hs → Prop) (i : HL TB.den r41_Valid_T3.hs) : Prop := WP TB r41_Valid_cx 149 0 (cA (cA (cB (cA (cB (cB (cB r41_Valid_code))))))) .no (r41_Valid_T3.fill TB i) (r41_Valid_Q7 o nx3)
noncomputable def r41_Valid_A10 (o : r41_Valid_O) : An TB := .nd [] .no [] (.lp [] r41_Valid_T3 (r41_Valid_L3 o) fun nx3 => .no)
noncomputable def r41_Valid_Q11 (o : r41_Valid_O) : Exit → TSt TB.den → Prop := thenT TB (fun s => ghs TB [] s fun s => WP TB r41_Valid_cx 149 0 (cB (cB (cB r41_Valid_code))) (.nd [] (r41_Valid_A10 o) [] (r41_Valid_A5 o)) s (retTQ TB r41_Valid_cx r41_Valid_sh r41_Valid_rs o)) (retTQ TB r41_Valid_cx r41_Valid_sh r41_Valid_rs o)
def r41_Valid_T2 : Tm := ⟨[0], [.cells [.d (.int .u64), .d (.sl (.int .u64)), .d (.sl (.st 0)), .d (.int .u64), .d (.int .u64), .d (.int .u64), .d (.int .u64), .d (.int .u64), .d (.int .i64), .d (.sl (.int .u8))]], [1, 3], [.one (.ptr 0 0), .one (.d (.int .i64))], 2⟩
noncomputable def r41_Valid_Q12 (o : r41_Valid_O) (nx2 : HL TB.den r41_Valid_T2.hs → Prop) : Exit → TSt TB.den → Prop := thenT TB (fun s => r41_Valid_T2.mat TB 0 s nx2) (blockT TB 0 (r41_Valid_Q11 o))
noncomputable def r41_Valid_Q13 (o : r41_Valid_O) (nx2 : HL TB.den r41_Valid_T2.hs → Prop) : Exit → TSt TB.den → Prop := thenT TB (fun s => ghs TB [] s fun s => WP TB r41_Valid_cx 149 0 (cB (cB (cA (cA (cB (cA (cB (cB r41_Valid_code)))))))) .no s (r41_Valid_Q12 o nx2)) (r41_Valid_Q12 o nx2)
def r41_Valid_T1 : Tm := ⟨[0], [.cells [.d (.int .u64), .d (.sl (.int .u64)), .d (.sl (.st 0)), .d (.int .u64), .d (.int .u64), .d (.int .u64), .d (.int .u64), .d (.int .u64), .d (.int .i64), .d (.sl (.int .u8))]], [1, 3, 4], [.one (.ptr 0 0), .one (.d (.int .i64)), .one (.d (.int .i64))], 2⟩
noncomputable def r41_Valid_Q14 (o : r41_Valid_O) (nx2 : HL TB.den r41_Valid_T2.hs → Prop) (nx1 : HL TB.den r41_Valid_T1.hs → Prop) : Exit → TSt TB.den → Prop := thenT TB (fun s => r41_Valid_T1.mat TB 0 s nx1) (blockT TB 2 (blockT TB 1 (r41_Valid_Q13 o nx2)))
noncomputable def r41_Valid_L1 (o : r41_Valid_O) (nx2 : HL TB.den r41_Valid_T2.hs → Prop) (nx1 : HL TB.den r41_Valid_T1.hs → Prop) (i : HL TB.den r41_Valid_T1.hs) : Prop := WP TB r41_Valid_cx 149 0 (cA (cA (cB (cA (cA (cB (cA (cA (cB (cA (cB (cB r41_Valid_code)))))))))))) .no (r41_Valid_T1.fill TB i) (r41_Valid_Q14 o nx2 nx1)
noncomputable def r41_Valid_A17 (o : r41_Valid_O) (nx2 : HL TB.den r41_Valid_T2.hs → Prop) : An TB := .nd [] .no [] (.lp [] r41_Valid_T1 (r41_Valid_L1 o nx2) fun nx1 => .no)
noncomputable def r41_Valid_L2 (o : r41_Valid_O) (nx2 : HL TB.den r41_Valid_T2.hs → Prop) (i : HL TB.den r41_Valid_T2.hs) : Prop := WP TB r41_Valid_cx 149 0 (cA (cA (cB (cA (cB (cB r41_Valid_code)))))) (.nd [] .no [] (.nd [] (r41_Valid_A17 o nx2) [] .no)) (r41_Valid_T2.fill TB i) (r41_Valid_Q12 o nx2)
noncomputable def r41_Valid_A19 (o : r41_Valid_O) : An TB := .lp [] r41_Valid_T2 (r41_Valid_L2 o) fun nx2 => (.nd [] .no [] (.nd [] (r41_Valid_A17 o nx2) [] .no))
noncomputable def r41_Valid_A20 (o : r41_Valid_O) : An TB := .nd [] (.nd [] .no [] (r41_Valid_A19 o)) [] (.nd [] (r41_Valid_A10 o) [] (r41_Valid_A5 o))
noncomputable def r41_Valid_an (o : r41_Valid_O) : An TB := .nd [] .no [] (.nd [] .no [] (r41_Valid_A20 o))
noncomputable def r41_Valid_Body (x : r41_Valid_I) (o : r41_Valid_O) : Prop := WPh TB r41_Valid_cx 149 0 r41_Valid_code (r41_Valid_an o) (r41_Valid_sh.st TB x) (retTQ TB r41_Valid_cx r41_Valid_sh r41_Valid_rs o)
set_option maxRecDepth 100000 in
theorem r41_Valid_obl (o : r41_Valid_O) : OblH TB r41_Valid_cx 149 0 r41_Valid_code (r41_Valid_an o) (retTQ TB r41_Valid_cx r41_Valid_sh r41_Valid_rs o) :=
  OblH.of_eq (X := (True ∧ ((True ∧ ((True ∧ True) ∧ True)) ∧ ((True ∧ ((∀ nx i, (r41_Valid_L2 o) nx i = (r41_Valid_L2 o) nx i) ∧ ∀ nx2 : HL TB.den r41_Valid_T2.hs → Prop, ((True ∧ (True ∧ True)) ∧ ((True ∧ ((∀ nx i, (r41_Valid_L1 o nx2) nx i = (r41_Valid_L1 o nx2) nx i) ∧ ∀ nx1 : HL TB.den r41_Valid_T1.hs → Prop, ((True ∧ (True ∧ True)) ∧ ((True ∧ ((True ∧ True) ∧ True)) ∧ True)))) ∧ True)))) ∧ ((True ∧ ((∀ nx i, (r41_Valid_L3 o) nx i = (r41_Valid_L3 o) nx i) ∧ ∀ nx3 : HL TB.den r41_Valid_T3.hs → Prop, ((True ∧ (True ∧ True)) ∧ ((True ∧ (True ∧ ((True ∧ True) ∧ True))) ∧ True)))) ∧ ((True ∧ ((True ∧ True) ∧ True)) ∧ (∀ i, (r41_Valid_J1 o) i = (r41_Valid_J1d o) i) ∧ ((True ∧ ((True ∧ True) ∧ True)) ∧ (∀ i, (r41_Valid_J2 o) i = (r41_Valid_J2d o) i) ∧ ((True ∧ ((True ∧ True) ∧ True)) ∧ ((True ∧ ((True ∧ True) ∧ True)) ∧ (True ∧ True)))))))))) (by kernel_rfl) ⟨trivial, ⟨⟨trivial, ⟨⟨trivial, trivial⟩, trivial⟩⟩, ⟨⟨trivial, ⟨fun _ _ => rfl, fun _ => ⟨⟨trivial, ⟨trivial, trivial⟩⟩, ⟨⟨trivial, ⟨fun _ _ => rfl, fun _ => ⟨⟨trivial, ⟨trivial, trivial⟩⟩, ⟨⟨trivial, ⟨⟨trivial, trivial⟩, trivial⟩⟩, trivial⟩⟩⟩⟩, trivial⟩⟩⟩⟩, ⟨⟨trivial, ⟨fun _ _ => rfl, fun _ => ⟨⟨trivial, ⟨trivial, trivial⟩⟩, ⟨⟨trivial, ⟨trivial, ⟨⟨trivial, trivial⟩, trivial⟩⟩⟩, trivial⟩⟩⟩⟩, ⟨⟨trivial, ⟨⟨trivial, trivial⟩, trivial⟩⟩, fun _ => propext ⟨fun h => h.1, fun h => ⟨h⟩⟩, ⟨⟨trivial, ⟨⟨trivial, trivial⟩, trivial⟩⟩, fun _ => propext ⟨fun h => h.1, fun h => ⟨h⟩⟩, ⟨⟨trivial, ⟨⟨trivial, trivial⟩, trivial⟩⟩, ⟨⟨trivial, ⟨⟨trivial, trivial⟩, trivial⟩⟩, ⟨trivial, trivial⟩⟩⟩⟩⟩⟩⟩⟩⟩
set_option maxRecDepth 100000 in
theorem r41_Valid_snd {x : r41_Valid_I} {o : r41_Valid_O} (h : r41_Valid_Body x o) : SoundH Try.prog r41_Valid_sh.f ((r41_Valid_sh.args idf x).map (er TB)) ((r41_Valid_sh.obs idf x).map (erO TB)) (er TB (r41_Valid_sh.val idf o)) ((r41_Valid_sh.ops idf o).map (erO TB)) :=
  Con.soundH (c := r41_Valid_sh) (C := r41_Valid_cx) TBok ⟨inf_ok, (all_cons r41_reduced_ok (all_cons r32_Valid_ok all_nil)), all_nil⟩ mix Try.func14 (show Try.f14.body = some r41_Valid_code by kernel_rfl) (show Try.f14.ntmps = 149 by kernel_rfl) (show Try.f14.results.toList = r41_Valid_rs by kernel_rfl) rfl h (r41_Valid_obl o)
set_option maxRecDepth 100000 in
theorem r41_Valid_in {p0 : TTx} {r0 : Int} (h :
((decide (4 < (p0.Marks.length : Int)) = true →
 1 = r0) ∧
(decide (4 < (p0.Marks.length : Int)) = false →
(decide (4 < (p0.Outs.length : Int)) = true →
 1 = r0) ∧
(decide (4 < (p0.Outs.length : Int)) = false →
(p0.Marks.length ≤ 9223372036854775807) ∧ let r1 : Bool := p0.Marks.all (fun x => decide (x < 18446744069414584321))
((!r1) = true →
 1 = r0) ∧
((!r1) = false →
([p0.Anchor, p0.Account, p0.Nonce].length ≤ 9223372036854775807) ∧ let r2 : Bool := [p0.Anchor, p0.Account, p0.Nonce].all (fun x => decide (x < 18446744069414584321))
((!r2) = true →
 1 = r0) ∧
((!r2) = false →
 Md.Loop ((0 : Int), p0.Anchor, p0.Marks, p0.Outs, p0.Deposit, p0.Withdraw, p0.Fee, p0.Account, p0.Nonce, p0.Expiry, p0.Proof, ()) (r41_Valid_L2 (r0, ())))))))) : r41_Valid_Body (p0.Anchor, p0.Marks, p0.Outs, p0.Deposit, p0.Withdraw, p0.Fee, p0.Account, p0.Nonce, p0.Expiry, p0.Proof, ()) (r0, ()) := WPh.of_eq (by kernel_rfl) h
set_option maxRecDepth 100000 in
theorem r41_Valid_J1_in {r0 : Int} {h0_0 : Int} {h0_1 : List Int} {h0_2 : List TOut} {h0_3 : Int} {h0_4 : Int} {h0_5 : Int} {h0_6 : Int} {h0_7 : Int} {h0_8 : Int} {h0_9 : List Int} (h :
(((h0_3 == 0) = true →
((h0_7 != 0) = true →
 1 = r0) ∧
((h0_7 != 0) = false →
(((h0_1.length : Int) == 0) = true →
 1 = r0) ∧
(((h0_1.length : Int) == 0) = false →
((h0_4 == 0) = true →
((h0_6 != 0) = true →
 1 = r0) ∧
((h0_6 != 0) = false →
 r41_Valid_J2 (r0, ()) (h0_0, h0_1, h0_2, h0_3, h0_4, h0_5, h0_6, h0_7, h0_8, h0_9, ()))) ∧
((h0_4 == 0) = false →
 r41_Valid_J2 (r0, ()) (h0_0, h0_1, h0_2, h0_3, h0_4, h0_5, h0_6, h0_7, h0_8, h0_9, ()))))) ∧
((h0_3 == 0) = false →
 r41_Valid_J2 (r0, ()) (h0_0, h0_1, h0_2, h0_3, h0_4, h0_5, h0_6, h0_7, h0_8, h0_9, ())))) : r41_Valid_J1 (r0, ()) (h0_0, h0_1, h0_2, h0_3, h0_4, h0_5, h0_6, h0_7, h0_8, h0_9, ()) := ⟨mpr_of (by kernel_rfl) h⟩
set_option maxRecDepth 100000 in
theorem r41_Valid_J2_in {r0 : Int} {h0_0 : Int} {h0_1 : List Int} {h0_2 : List TOut} {h0_3 : Int} {h0_4 : Int} {h0_5 : Int} {h0_6 : Int} {h0_7 : Int} {h0_8 : Int} {h0_9 : List Int} (h :
((decide (h0_8 < 0) = true →
 1 = r0) ∧
(decide (h0_8 < 0) = false →
(decide (1048576 < h0_8) = true →
 1 = r0) ∧
(decide (1048576 < h0_8) = false →
(decide (1048576 < (h0_9.length : Int)) = true →
 3 = r0) ∧
(decide (1048576 < (h0_9.length : Int)) = false →
 0 = r0))))) : r41_Valid_J2 (r0, ()) (h0_0, h0_1, h0_2, h0_3, h0_4, h0_5, h0_6, h0_7, h0_8, h0_9, ()) := ⟨mpr_of (by kernel_rfl) h⟩
def r41_Valid_B2 (r0 : Int) (nx2 : HL TB.den r41_Valid_T2.hs → Prop) (k2 : Int → Prop) (h0_0 : Int) (h0_1 : List Int) (h0_2 : List TOut) (h0_3 : Int) (h0_4 : Int) (h0_5 : Int) (h0_6 : Int) (h0_7 : Int) (h0_8 : Int) (h0_9 : List Int) (s3 : Int) : Prop :=
(decide (s3 < (h0_1.length : Int)) = true →
 Md.Loop (s3, (0 : Int), h0_0, h0_1, h0_2, h0_3, h0_4, h0_5, h0_6, h0_7, h0_8, h0_9, ()) (r41_Valid_L1 (r0, ()) nx2)) ∧
(decide (s3 < (h0_1.length : Int)) = false →
 Md.Loop ((0 : Int), h0_0, h0_1, h0_2, h0_3, h0_4, h0_5, h0_6, h0_7, h0_8, h0_9, ()) (r41_Valid_L3 (r0, ())))
set_option maxRecDepth 100000 in
theorem r41_Valid_lp2 {r0 : Int} {h0_0 : Int} {h0_1 : List Int} {h0_2 : List TOut} {h0_3 : Int} {h0_4 : Int} {h0_5 : Int} {h0_6 : Int} {h0_7 : Int} {h0_8 : Int} {h0_9 : List Int} {s3 : Int} (inv : Int → Prop) (μ : Int → Nat) (h0 : inv s3) (hs : ∀ (s3 : Int), inv s3 → r41_Valid_B2 r0 (fun s : Int × Int × (List Int) × (List TOut) × Int × Int × Int × Int × Int × Int × (List Int) × Unit => ((s.2.1 = h0_0 ∧ s.2.2.1 = h0_1 ∧ s.2.2.2.1 = h0_2 ∧ s.2.2.2.2.1 = h0_3 ∧ s.2.2.2.2.2.1 = h0_4 ∧ s.2.2.2.2.2.2.1 = h0_5 ∧ s.2.2.2.2.2.2.2.1 = h0_6 ∧ s.2.2.2.2.2.2.2.2.1 = h0_7 ∧ s.2.2.2.2.2.2.2.2.2.1 = h0_8 ∧ s.2.2.2.2.2.2.2.2.2.2.1 = h0_9) ∧ inv s.1) ∧ μ s.1 < μ s3) (fun s3q => inv s3q ∧ μ s3q < μ s3) h0_0 h0_1 h0_2 h0_3 h0_4 h0_5 h0_6 h0_7 h0_8 h0_9 s3) : Md.Loop (s3, h0_0, h0_1, h0_2, h0_3, h0_4, h0_5, h0_6, h0_7, h0_8, h0_9, ()) (r41_Valid_L2 (r0, ())) :=
  ⟨⟨fun s : Int × Int × (List Int) × (List TOut) × Int × Int × Int × Int × Int × Int × (List Int) × Unit => (s.2.1 = h0_0 ∧ s.2.2.1 = h0_1 ∧ s.2.2.2.1 = h0_2 ∧ s.2.2.2.2.1 = h0_3 ∧ s.2.2.2.2.2.1 = h0_4 ∧ s.2.2.2.2.2.2.1 = h0_5 ∧ s.2.2.2.2.2.2.2.1 = h0_6 ∧ s.2.2.2.2.2.2.2.2.1 = h0_7 ∧ s.2.2.2.2.2.2.2.2.2.1 = h0_8 ∧ s.2.2.2.2.2.2.2.2.2.2.1 = h0_9) ∧ inv s.1, fun s : Int × Int × (List Int) × (List TOut) × Int × Int × Int × Int × Int × Int × (List Int) × Unit => μ s.1, ⟨⟨rfl, rfl, rfl, rfl, rfl, rfl, rfl, rfl, rfl, rfl⟩, h0⟩, fun (s3p, h0_0p, h0_1p, h0_2p, h0_3p, h0_4p, h0_5p, h0_6p, h0_7p, h0_8p, h0_9p, ()) ⟨⟨eq0, eq1, eq2, eq3, eq4, eq5, eq6, eq7, eq8, eq9⟩, hi⟩ => by
    have eq0 : h0_0p = h0_0 := eq0; subst h0_0p; have eq1 : h0_1p = h0_1 := eq1; subst h0_1p; have eq2 : h0_2p = h0_2 := eq2; subst h0_2p; have eq3 : h0_3p = h0_3 := eq3; subst h0_3p; have eq4 : h0_4p = h0_4 := eq4; subst h0_4p; have eq5 : h0_5p = h0_5 := eq5; subst h0_5p; have eq6 : h0_6p = h0_6 := eq6; subst h0_6p; have eq7 : h0_7p = h0_7 := eq7; subst h0_7p; have eq8 : h0_8p = h0_8 := eq8; subst h0_8p; have eq9 : h0_9p = h0_9 := eq9; subst h0_9p; exact mpr_of (by kernel_rfl) ((congrArg (fun k => r41_Valid_B2 r0 (fun s : Int × Int × (List Int) × (List TOut) × Int × Int × Int × Int × Int × Int × (List Int) × Unit => ((s.2.1 = h0_0 ∧ s.2.2.1 = h0_1 ∧ s.2.2.2.1 = h0_2 ∧ s.2.2.2.2.1 = h0_3 ∧ s.2.2.2.2.2.1 = h0_4 ∧ s.2.2.2.2.2.2.1 = h0_5 ∧ s.2.2.2.2.2.2.2.1 = h0_6 ∧ s.2.2.2.2.2.2.2.2.1 = h0_7 ∧ s.2.2.2.2.2.2.2.2.2.1 = h0_8 ∧ s.2.2.2.2.2.2.2.2.2.2.1 = h0_9) ∧ inv s.1) ∧ μ s.1 < μ s3p) k h0_0 h0_1 h0_2 h0_3 h0_4 h0_5 h0_6 h0_7 h0_8 h0_9 s3p) (lpk1 (⟨rfl, rfl, rfl, rfl, rfl, rfl, rfl, rfl, rfl, rfl⟩ : h0_0 = h0_0 ∧ h0_1 = h0_1 ∧ h0_2 = h0_2 ∧ h0_3 = h0_3 ∧ h0_4 = h0_4 ∧ h0_5 = h0_5 ∧ h0_6 = h0_6 ∧ h0_7 = h0_7 ∧ h0_8 = h0_8 ∧ h0_9 = h0_9) inv (fun s3q => μ s3q < μ s3p))).mpr (hs s3p hi))⟩⟩
def r41_Valid_B1 (r0 : Int) (nx2 : HL TB.den r41_Valid_T2.hs → Prop) (k1 : Int → Prop) (s3 : Int) (h0_0 : Int) (h0_1 : List Int) (h0_2 : List TOut) (h0_3 : Int) (h0_4 : Int) (h0_5 : Int) (h0_6 : Int) (h0_7 : Int) (h0_8 : Int) (h0_9 : List Int) (s4 : Int) : Prop :=
(decide (s4 < s3) = true →
(0 ≤ s3) ∧ s3 < (h0_1.length : Int) ∧ (0 ≤ s4) ∧ s4 < (h0_1.length : Int) ∧ (((ix h0_1 s3) == (ix h0_1 s4)) = true →
 1 = r0) ∧
(((ix h0_1 s3) == (ix h0_1 s4)) = false →
 k1 (IntKind.i64.wrap (s4 + 1) : Int))) ∧
(decide (s4 < s3) = false →
 nx2 ((IntKind.i64.wrap (s3 + 1) : Int), h0_0, h0_1, h0_2, h0_3, h0_4, h0_5, h0_6, h0_7, h0_8, h0_9, ()))
set_option maxRecDepth 100000 in
theorem r41_Valid_lp1 {r0 : Int} {nx2 : HL TB.den r41_Valid_T2.hs → Prop} {s3 : Int} {h0_0 : Int} {h0_1 : List Int} {h0_2 : List TOut} {h0_3 : Int} {h0_4 : Int} {h0_5 : Int} {h0_6 : Int} {h0_7 : Int} {h0_8 : Int} {h0_9 : List Int} {s4 : Int} (inv : Int → Prop) (μ : Int → Nat) (h0 : inv s4) (hs : ∀ (s4 : Int), inv s4 → r41_Valid_B1 r0 nx2 (fun s4q => inv s4q ∧ μ s4q < μ s4) s3 h0_0 h0_1 h0_2 h0_3 h0_4 h0_5 h0_6 h0_7 h0_8 h0_9 s4) : Md.Loop (s3, s4, h0_0, h0_1, h0_2, h0_3, h0_4, h0_5, h0_6, h0_7, h0_8, h0_9, ()) (r41_Valid_L1 (r0, ()) nx2) :=
  ⟨⟨fun s : Int × Int × Int × (List Int) × (List TOut) × Int × Int × Int × Int × Int × Int × (List Int) × Unit => (s.1 = s3 ∧ s.2.2.1 = h0_0 ∧ s.2.2.2.1 = h0_1 ∧ s.2.2.2.2.1 = h0_2 ∧ s.2.2.2.2.2.1 = h0_3 ∧ s.2.2.2.2.2.2.1 = h0_4 ∧ s.2.2.2.2.2.2.2.1 = h0_5 ∧ s.2.2.2.2.2.2.2.2.1 = h0_6 ∧ s.2.2.2.2.2.2.2.2.2.1 = h0_7 ∧ s.2.2.2.2.2.2.2.2.2.2.1 = h0_8 ∧ s.2.2.2.2.2.2.2.2.2.2.2.1 = h0_9) ∧ inv s.2.1, fun s : Int × Int × Int × (List Int) × (List TOut) × Int × Int × Int × Int × Int × Int × (List Int) × Unit => μ s.2.1, ⟨⟨rfl, rfl, rfl, rfl, rfl, rfl, rfl, rfl, rfl, rfl, rfl⟩, h0⟩, fun (s3p, s4p, h0_0p, h0_1p, h0_2p, h0_3p, h0_4p, h0_5p, h0_6p, h0_7p, h0_8p, h0_9p, ()) ⟨⟨eq0, eq1, eq2, eq3, eq4, eq5, eq6, eq7, eq8, eq9, eq10⟩, hi⟩ => by
    have eq0 : s3p = s3 := eq0; subst s3p; have eq1 : h0_0p = h0_0 := eq1; subst h0_0p; have eq2 : h0_1p = h0_1 := eq2; subst h0_1p; have eq3 : h0_2p = h0_2 := eq3; subst h0_2p; have eq4 : h0_3p = h0_3 := eq4; subst h0_3p; have eq5 : h0_4p = h0_4 := eq5; subst h0_4p; have eq6 : h0_5p = h0_5 := eq6; subst h0_5p; have eq7 : h0_6p = h0_6 := eq7; subst h0_6p; have eq8 : h0_7p = h0_7 := eq8; subst h0_7p; have eq9 : h0_8p = h0_8 := eq9; subst h0_8p; have eq10 : h0_9p = h0_9 := eq10; subst h0_9p; exact mpr_of (by kernel_rfl) ((congrArg (fun k => r41_Valid_B1 r0 nx2 k s3 h0_0 h0_1 h0_2 h0_3 h0_4 h0_5 h0_6 h0_7 h0_8 h0_9 s4p) (lpk1 (⟨rfl, rfl, rfl, rfl, rfl, rfl, rfl, rfl, rfl, rfl, rfl⟩ : s3 = s3 ∧ h0_0 = h0_0 ∧ h0_1 = h0_1 ∧ h0_2 = h0_2 ∧ h0_3 = h0_3 ∧ h0_4 = h0_4 ∧ h0_5 = h0_5 ∧ h0_6 = h0_6 ∧ h0_7 = h0_7 ∧ h0_8 = h0_8 ∧ h0_9 = h0_9) inv (fun s4q => μ s4q < μ s4p))).mpr (hs s4p hi))⟩⟩
def r41_Valid_B3 (r0 : Int) (k3 : Int → Prop) (h0_0 : Int) (h0_1 : List Int) (h0_2 : List TOut) (h0_3 : Int) (h0_4 : Int) (h0_5 : Int) (h0_6 : Int) (h0_7 : Int) (h0_8 : Int) (h0_9 : List Int) (s5 : Int) : Prop :=
(decide (s5 < (h0_2.length : Int)) = true →
(0 ≤ s5) ∧ s5 < (h0_2.length : Int) ∧ let v3 : Bool := decide (18446744069414584321 ≤ ((ix h0_2 s5).Commit))
(v3 = true →
 1 = r0) ∧
(v3 = false →
(0 ≤ (TA2.mk ((ix h0_2 s5).Point_a0) ((ix h0_2 s5).Point_a1)).a0 ∧ 0 ≤ (TA2.mk ((ix h0_2 s5).Point_a0) ((ix h0_2 s5).Point_a1)).a1) ∧ let r4 : Bool := vPoint (TA2.mk ((ix h0_2 s5).Point_a0) ((ix h0_2 s5).Point_a1)).a0 (TA2.mk ((ix h0_2 s5).Point_a0) ((ix h0_2 s5).Point_a1)).a1
((!r4) = true →
 1 = r0) ∧
((!r4) = false →
 let v5 : Bool := ((((ix h0_2 s5).Cipher).length : Int) != 3)
(v5 = true →
 1 = r0) ∧
(v5 = false →
(((ix h0_2 s5).Cipher).length ≤ 9223372036854775807) ∧ let r6 : Bool := ((ix h0_2 s5).Cipher).all (fun x => decide (x < 18446744069414584321))
((!r6) = true →
 1 = r0) ∧
((!r6) = false →
 k3 (IntKind.i64.wrap (s5 + 1) : Int)))))) ∧
(decide (s5 < (h0_2.length : Int)) = false →
(decide (4294967295 < h0_3) = true →
 1 = r0) ∧
(decide (4294967295 < h0_3) = false →
(decide (4294967295 < h0_4) = true →
 1 = r0) ∧
(decide (4294967295 < h0_4) = false →
(decide (4294967295 < h0_5) = true →
 1 = r0) ∧
(decide (4294967295 < h0_5) = false →
(decide (0 < h0_3) = true →
(decide (0 < h0_4) = true →
 1 = r0) ∧
(decide (0 < h0_4) = false →
 r41_Valid_J1 (r0, ()) (h0_0, h0_1, h0_2, h0_3, h0_4, h0_5, h0_6, h0_7, h0_8, h0_9, ()))) ∧
(decide (0 < h0_3) = false →
 r41_Valid_J1 (r0, ()) (h0_0, h0_1, h0_2, h0_3, h0_4, h0_5, h0_6, h0_7, h0_8, h0_9, ()))))))
set_option maxRecDepth 100000 in
theorem r41_Valid_lp3 {r0 : Int} {h0_0 : Int} {h0_1 : List Int} {h0_2 : List TOut} {h0_3 : Int} {h0_4 : Int} {h0_5 : Int} {h0_6 : Int} {h0_7 : Int} {h0_8 : Int} {h0_9 : List Int} {s5 : Int} (inv : Int → Prop) (μ : Int → Nat) (h0 : inv s5) (hs : ∀ (s5 : Int), inv s5 → r41_Valid_B3 r0 (fun s5q => inv s5q ∧ μ s5q < μ s5) h0_0 h0_1 h0_2 h0_3 h0_4 h0_5 h0_6 h0_7 h0_8 h0_9 s5) : Md.Loop (s5, h0_0, h0_1, h0_2, h0_3, h0_4, h0_5, h0_6, h0_7, h0_8, h0_9, ()) (r41_Valid_L3 (r0, ())) :=
  ⟨⟨fun s : Int × Int × (List Int) × (List TOut) × Int × Int × Int × Int × Int × Int × (List Int) × Unit => (s.2.1 = h0_0 ∧ s.2.2.1 = h0_1 ∧ s.2.2.2.1 = h0_2 ∧ s.2.2.2.2.1 = h0_3 ∧ s.2.2.2.2.2.1 = h0_4 ∧ s.2.2.2.2.2.2.1 = h0_5 ∧ s.2.2.2.2.2.2.2.1 = h0_6 ∧ s.2.2.2.2.2.2.2.2.1 = h0_7 ∧ s.2.2.2.2.2.2.2.2.2.1 = h0_8 ∧ s.2.2.2.2.2.2.2.2.2.2.1 = h0_9) ∧ inv s.1, fun s : Int × Int × (List Int) × (List TOut) × Int × Int × Int × Int × Int × Int × (List Int) × Unit => μ s.1, ⟨⟨rfl, rfl, rfl, rfl, rfl, rfl, rfl, rfl, rfl, rfl⟩, h0⟩, fun (s5p, h0_0p, h0_1p, h0_2p, h0_3p, h0_4p, h0_5p, h0_6p, h0_7p, h0_8p, h0_9p, ()) ⟨⟨eq0, eq1, eq2, eq3, eq4, eq5, eq6, eq7, eq8, eq9⟩, hi⟩ => by
    have eq0 : h0_0p = h0_0 := eq0; subst h0_0p; have eq1 : h0_1p = h0_1 := eq1; subst h0_1p; have eq2 : h0_2p = h0_2 := eq2; subst h0_2p; have eq3 : h0_3p = h0_3 := eq3; subst h0_3p; have eq4 : h0_4p = h0_4 := eq4; subst h0_4p; have eq5 : h0_5p = h0_5 := eq5; subst h0_5p; have eq6 : h0_6p = h0_6 := eq6; subst h0_6p; have eq7 : h0_7p = h0_7 := eq7; subst h0_7p; have eq8 : h0_8p = h0_8 := eq8; subst h0_8p; have eq9 : h0_9p = h0_9 := eq9; subst h0_9p; exact mpr_of (by kernel_rfl) ((congrArg (fun k => r41_Valid_B3 r0 k h0_0 h0_1 h0_2 h0_3 h0_4 h0_5 h0_6 h0_7 h0_8 h0_9 s5p) (lpk1 (⟨rfl, rfl, rfl, rfl, rfl, rfl, rfl, rfl, rfl, rfl⟩ : h0_0 = h0_0 ∧ h0_1 = h0_1 ∧ h0_2 = h0_2 ∧ h0_3 = h0_3 ∧ h0_4 = h0_4 ∧ h0_5 = h0_5 ∧ h0_6 = h0_6 ∧ h0_7 = h0_7 ∧ h0_8 = h0_8 ∧ h0_9 = h0_9) inv (fun s5q => μ s5q < μ s5p))).mpr (hs s5p hi))⟩⟩
theorem bd14 : Callable Try.prog 14 := ⟨by rw [Try.func14]; kernel_rfl, by rw [Try.func14]; show some _ ≠ some _; decide⟩
theorem r41_Valid_body (p0 : TTx) (h : TR p0 ∧ TL p0) : r41_Valid_Body (p0.Anchor, p0.Marks, p0.Outs, p0.Deposit, p0.Withdraw, p0.Fee, p0.Account, p0.Nonce, p0.Expiry, p0.Proof, ()) ((validE p0 : Int), ()) := by
  obtain ⟨hr, hl⟩ := h
  have e3 : [p0.Anchor, p0.Account, p0.Nonce].all (fun x => decide (x < 18446744069414584321)) = (decide (p0.Anchor < 18446744069414584321) && (decide (p0.Account < 18446744069414584321) && decide (p0.Nonce < 18446744069414584321))) := by simp
  have bad : (vMarks p0.Marks && vOuts p0.Outs && vAmounts p0 && vRest p0) = false → 1 = validE p0 := by intro h; unfold validE; rw [h]; rfl
  have badM : vMarks p0.Marks = false → 1 = validE p0 := fun h => bad (by rw [h]; rfl)
  have badO : vOuts p0.Outs = false → 1 = validE p0 := fun h => bad (by rw [h]; simp)
  have badA : vAmounts p0 = false → 1 = validE p0 := fun h => bad (by rw [h]; simp)
  have badR : vRest p0 = false → 1 = validE p0 := fun h => bad (by rw [h]; simp)
  refine r41_Valid_in ⟨fun h => badM ?_, fun h => ⟨fun h2 => badO ?_, fun h2 => ⟨by have := hl.m; omega, fun h3 => badM ?_, fun h3 => ⟨by simp, fun h4 => ?_, fun h4 => ?_⟩⟩⟩⟩
  · have h := of_decide_eq_true h
    unfold vMarks
    rw [decide_eq_false (by omega)]
    rfl
  · have h2 := of_decide_eq_true h2
    unfold vOuts
    rw [decide_eq_false (by omega)]
    rfl
  · have h3 : p0.Marks.all (fun x => decide (x < 18446744069414584321)) = false := by simpa using h3
    unfold vMarks
    rw [h3]
    simp
  · rw [e3] at h4
    have : vAmounts p0 = false ∨ vRest p0 = false := by
      unfold vAmounts vRest
      grind
    exact this.elim badA badR
  have h := of_decide_eq_false h
  have h2 := of_decide_eq_false h2
  have h3 : p0.Marks.all (fun x => decide (x < 18446744069414584321)) = true := by simpa using h3
  have h4 : [p0.Anchor, p0.Account, p0.Nonce].all (fun x => decide (x < 18446744069414584321)) = true := by
    cases hq : [p0.Anchor, p0.Account, p0.Nonce].all (fun x => decide (x < 18446744069414584321))
    · rw [hq] at h4; simp at h4
    · rfl
  rw [e3] at h4
  simp only [Bool.and_eq_true, decide_eq_true_eq] at h4
  obtain ⟨a1, a2, a3⟩ := h4
  refine r41_Valid_lp2 (fun i => 0 ≤ i ∧ i ≤ p0.Marks.length ∧ (p0.Marks.take i.toNat).Nodup) (fun i => (p0.Marks.length - i).toNat) ⟨by omega, by omega, by simp⟩ ?_
  rintro i ⟨g0, g1, g2⟩
  refine ⟨fun hh => ?_, fun hh => ?_⟩
  · have hh := of_decide_eq_true hh
    refine r41_Valid_lp1 (fun k => 0 ≤ k ∧ k ≤ i ∧ ∀ x ∈ p0.Marks.take k.toNat, x ≠ ix p0.Marks i) (fun k => (i - k).toNat) ⟨by omega, by omega, by simp⟩ ?_
    rintro k ⟨k0, k1, k2⟩
    refine ⟨fun hk => ?_, fun hk => ?_⟩
    · have hk := of_decide_eq_true hk
      refine ⟨g0, hh, k0, by omega, fun e => badM ?_, fun e => ?_⟩
      · have e : ix p0.Marks i = ix p0.Marks k := by simpa using e
        have : ¬ p0.Marks.Nodup := by
          intro hn
          rw [ix_nat _ i g0 hh, ix_nat _ k k0 (by omega)] at e
          have := (List.getElem_inj hn).1 e
          omega
        unfold vMarks
        rw [decide_eq_false this]
        simp
      · have e : ¬ ix p0.Marks i = ix p0.Marks k := by simpa using e
        rw [inc k i k0 hk (by omega)]
        refine ⟨⟨by omega, by omega, ?_⟩, by omega⟩
        rw [take_succ_ix p0.Marks k k0 (by omega)]
        intro x hx
        rcases List.mem_append.1 hx with hx | hx
        · exact k2 x hx
        · have : x = ix p0.Marks k := by simpa using hx
          rw [this]; exact fun e' => e e'.symm
    · have hk := of_decide_eq_false hk
      have hki : k = i := by omega
      subst hki
      have nxt : (0 ≤ k + 1 ∧ k + 1 ≤ p0.Marks.length ∧ (p0.Marks.take (k + 1).toNat).Nodup) ∧ (p0.Marks.length - (k + 1)).toNat < (p0.Marks.length - k).toNat := by
        refine ⟨⟨by omega, by omega, ?_⟩, by omega⟩
        rw [take_succ_ix p0.Marks k g0 hh]
        refine List.nodup_append.2 ⟨g2, by simp, fun a ha b hb => ?_⟩
        have : b = ix p0.Marks k := by simpa using hb
        rw [this]; exact k2 a ha
      have hi := inc k p0.Marks.length g0 hh (by omega)
      rw [hi]
      exact ⟨⟨⟨rfl, rfl, rfl, rfl, rfl, rfl, rfl, rfl, rfl, rfl⟩, nxt.1⟩, nxt.2⟩
  · have hh := of_decide_eq_false hh
    rw [List.take_of_length_le (by omega)] at g2
    have vm : vMarks p0.Marks = true := by
      unfold vMarks
      rw [h3, decide_eq_true g2, decide_eq_true (by omega)]
      rfl
    have j2 : vOuts p0.Outs = true → vAmounts p0 = true → r41_Valid_J2 ((validE p0 : Int), ()) (p0.Anchor, p0.Marks, p0.Outs, p0.Deposit, p0.Withdraw, p0.Fee, p0.Account, p0.Nonce, p0.Expiry, p0.Proof, ()) := by
      intro vo va
      refine r41_Valid_J2_in ⟨fun e => badR ?_, fun e => ⟨fun e2 => badR ?_, fun e2 => ?_⟩⟩
      · have e := of_decide_eq_true e
        unfold vRest
        rw [decide_eq_false (p := 0 ≤ p0.Expiry) (by omega)]
        simp
      · have e2 := of_decide_eq_true e2
        unfold vRest
        rw [decide_eq_false (p := p0.Expiry ≤ 1048576) (by omega)]
        simp
      · have e := of_decide_eq_false e
        have e2 := of_decide_eq_false e2
        have vr : vRest p0 = true := by
          unfold vRest
          rw [decide_eq_true a1, decide_eq_true (p := 0 ≤ p0.Expiry) (by omega), decide_eq_true (p := p0.Expiry ≤ 1048576) (by omega)]
          rfl
        unfold validE
        rw [vm, vo, va, vr]
        refine ⟨fun e => ?_, fun e => ?_⟩
        · have e := of_decide_eq_true e
          simp; omega
        · have e := of_decide_eq_false e
          simp; omega
    have j1 : vOuts p0.Outs = true → p0.Deposit ≤ 4294967295 → p0.Withdraw ≤ 4294967295 → p0.Fee ≤ 4294967295 → (0 < p0.Deposit → p0.Withdraw = 0) → r41_Valid_J1 ((validE p0 : Int), ()) (p0.Anchor, p0.Marks, p0.Outs, p0.Deposit, p0.Withdraw, p0.Fee, p0.Account, p0.Nonce, p0.Expiry, p0.Proof, ()) := by
      intro vo d1 d2 d3 d4
      have hd := hr.d
      have hw := hr.w
      have fA : ¬ (p0.Deposit ≤ 4294967295 ∧ p0.Withdraw ≤ 4294967295 ∧ p0.Fee ≤ 4294967295 ∧ p0.Account < 18446744069414584321 ∧ p0.Nonce < 18446744069414584321 ∧ (0 < p0.Deposit → p0.Withdraw = 0) ∧ (¬ 0 < p0.Deposit → p0.Marks ≠ [] ∧ p0.Nonce = 0 ∧ (0 < p0.Withdraw ∨ p0.Account = 0))) → 1 = validE p0 := fun h => badA (Bool.eq_false_iff.2 fun h' => h ((vAmounts_iff p0).1 h'))
      refine r41_Valid_J1_in ⟨fun e => ⟨fun e2 => fA ?_, fun e2 => ⟨fun e3 => fA ?_, fun e3 => ⟨fun e4 => ⟨fun e5 => fA ?_, fun e5 => j2 vo ((vAmounts_iff p0).2 ?_)⟩, fun e4 => j2 vo ((vAmounts_iff p0).2 ?_)⟩⟩⟩, fun e => j2 vo ((vAmounts_iff p0).2 ?_)⟩
      all_goals simp only [beq_iff_eq, bne_iff_ne, beq_eq_false_iff_ne, bne_eq_false_iff_eq, Int.natCast_eq_zero, List.length_eq_zero_iff] at *
      · exact fun h => by have := h.2.2.2.2.2.2 (by omega); omega
      · exact fun h => (h.2.2.2.2.2.2 (by omega)).1 e3
      · exact fun h => by have := (h.2.2.2.2.2.2 (by omega)).2.2; omega
      · exact ⟨d1, d2, d3, a2, a3, d4, fun _ => ⟨fun hq => e3 (by rw [hq]; rfl), e2, .inr e5⟩⟩
      · exact ⟨d1, d2, d3, a2, a3, d4, fun _ => ⟨fun hq => e3 (by rw [hq]; rfl), e2, .inl (by omega)⟩⟩
      · exact ⟨d1, d2, d3, a2, a3, d4, fun h => by omega⟩
    refine r41_Valid_lp3 (fun i => 0 ≤ i ∧ i ≤ p0.Outs.length ∧ ∀ x ∈ p0.Outs.take i.toNat, vOut x = true) (fun i => (p0.Outs.length - i).toNat) ⟨by omega, by omega, by simp⟩ ?_
    rintro i ⟨g0, g1, g2⟩
    refine ⟨fun hh => ?_, fun hh => ?_⟩
    · have hh := of_decide_eq_true hh
      have hx := hr.o _ (ix_mem p0.Outs i g0 hh)
      have hlc := hl.c _ (ix_mem p0.Outs i g0 hh)
      have bd : vOut (ix p0.Outs i) = false → 1 = validE p0 := by
        intro hb
        refine badO ?_
        unfold vOuts
        have : p0.Outs.all vOut = false := List.all_eq_false.2 ⟨_, ix_mem p0.Outs i g0 hh, by simp [hb]⟩
        rw [this]
        simp
      unfold vOut at bd
      refine ⟨g0, hh, fun e => bd ?_, fun e => ⟨⟨hx.p0.1, hx.p1.1⟩, fun e2 => bd ?_, fun e2 => ⟨fun e3 => bd ?_, fun e3 => ⟨by omega, fun e4 => bd ?_, fun e4 => ?_⟩⟩⟩⟩
      · have e := of_decide_eq_true e
        rw [decide_eq_false (by omega)]
        rfl
      · have e2 : vPoint (ix p0.Outs i).Point_a0 (ix p0.Outs i).Point_a1 = false := by simpa using e2
        simp [e2]
      · have e3 : ¬ ((ix p0.Outs i).Cipher.length : Int) = 3 := by simpa using e3
        have e3 : ¬ (ix p0.Outs i).Cipher.length = 3 := by omega
        simp [e3]
      · have e4 : (ix p0.Outs i).Cipher.all (fun x => decide (x < 18446744069414584321)) = false := by
          cases hq : (ix p0.Outs i).Cipher.all (fun x => decide (x < 18446744069414584321))
          · rfl
          · rw [hq] at e4; simp at e4
        rw [e4]
        simp
      · have e := of_decide_eq_false e
        have e2 : vPoint (ix p0.Outs i).Point_a0 (ix p0.Outs i).Point_a1 = true := by simpa using e2
        have e3 : ((ix p0.Outs i).Cipher.length : Int) = 3 := by simpa using e3
        have e4 : (ix p0.Outs i).Cipher.all (fun x => decide (x < 18446744069414584321)) = true := by
          cases hq : (ix p0.Outs i).Cipher.all (fun x => decide (x < 18446744069414584321))
          · rw [hq] at e4; simp at e4
          · rfl
        have hv : vOut (ix p0.Outs i) = true := (vOut_iff _).2 ⟨by omega, e2, by omega, by simpa using e4⟩
        rw [inc i p0.Outs.length g0 hh (by omega)]
        refine ⟨⟨by omega, by omega, ?_⟩, by omega⟩
        rw [take_succ_ix p0.Outs i g0 hh]
        intro x hx
        rcases List.mem_append.1 hx with hx | hx
        · exact g2 x hx
        · have : x = ix p0.Outs i := by simpa using hx
          rw [this]; exact hv
    · have hh := of_decide_eq_false hh
      rw [List.take_of_length_le (by omega)] at g2
      have vo : vOuts p0.Outs = true := by
        unfold vOuts
        have : p0.Outs.all vOut = true := by simpa using g2
        rw [this, decide_eq_true (by omega)]
        rfl
      have hd := hr.d
      have hw := hr.w
      have fA : ¬ (p0.Deposit ≤ 4294967295 ∧ p0.Withdraw ≤ 4294967295 ∧ p0.Fee ≤ 4294967295 ∧ (0 < p0.Deposit → p0.Withdraw = 0)) → 1 = validE p0 := fun h => badA (Bool.eq_false_iff.2 fun h' => h (by have := (vAmounts_iff p0).1 h'; exact ⟨this.1, this.2.1, this.2.2.1, this.2.2.2.2.2.1⟩))
      refine ⟨fun e => fA ?_, fun e => ⟨fun e2 => fA ?_, fun e2 => ⟨fun e3 => fA ?_, fun e3 => ⟨fun e4 => ⟨fun e5 => fA ?_, fun e5 => j1 vo ?_ ?_ ?_ ?_⟩, fun e4 => j1 vo ?_ ?_ ?_ ?_⟩⟩⟩⟩
      all_goals simp only [decide_eq_true_eq, decide_eq_false_iff_not] at *
      all_goals omega
noncomputable def r41_Valid_con : Con TB.den := r41_Valid_sh.fnR (fun x => (fun (p0 : TTx) => TR p0 ∧ TL p0) (TTx.mk x.1 x.2.1 x.2.2.1 x.2.2.2.1 x.2.2.2.2.1 x.2.2.2.2.2.1 x.2.2.2.2.2.2.1 x.2.2.2.2.2.2.2.1 x.2.2.2.2.2.2.2.2.1 x.2.2.2.2.2.2.2.2.2.1)) fun x => ((fun (p0 : TTx) => (validE p0 : Int)) (TTx.mk x.1 x.2.1 x.2.2.1 x.2.2.2.1 x.2.2.2.2.1 x.2.2.2.2.2.1 x.2.2.2.2.2.2.1 x.2.2.2.2.2.2.2.1 x.2.2.2.2.2.2.2.2.1 x.2.2.2.2.2.2.2.2.2.1), ())
theorem r41_Valid_ok : r41_Valid_con.Ok Try.prog TB := Con.ok_fn r41_Valid_sh bd14 fun x h => r41_Valid_snd (r41_Valid_body (TTx.mk x.1 x.2.1 x.2.2.1 x.2.2.2.1 x.2.2.2.2.1 x.2.2.2.2.2.1 x.2.2.2.2.2.2.1 x.2.2.2.2.2.2.2.1 x.2.2.2.2.2.2.2.2.1 x.2.2.2.2.2.2.2.2.2.1) h)
end Go.Proofs.Ytdbnagpoknmoiaa
namespace Go.Proofs.Ytdbnagpoknmoiaa
open Go Go.Bv Go.Cv Go.Md Go.RowKit
def l41_TxValid_sh : Con TB.den := Con.mk0 3 [.agg [.d (.int .u64), .d (.sl (.int .u64)), .d (.sl (.st 0)), .d (.int .u64), .d (.int .u64), .d (.int .u64), .d (.int .u64), .d (.int .u64), .d (.int .i64), .d (.sl (.int .u8))]] [] (.one (.one (.d (.bool)))) []
abbrev l41_TxValid_I := HL TB.den (hsT l41_TxValid_sh.ins (hsOs l41_TxValid_sh.pre))
abbrev l41_TxValid_O := HL TB.den (hsV l41_TxValid_sh.res (hsOs l41_TxValid_sh.post))
noncomputable def l41_TxValid_cx : Cx TB := ⟨inf, [l41_awake_con, l41_small_con, l41_copied_con, tx_Valid_con, r41_Valid_con], [], 4⟩
noncomputable def l41_TxValid_code : Code := Try.f3.body.getD .skip
noncomputable def l41_TxValid_rs : List ResultVar := Try.f3.results.toList
noncomputable def l41_TxValid_Q1 (o : l41_TxValid_O) : Exit → TSt TB.den → Prop := thenT TB (fun s => ghs TB [] s fun s => WP TB l41_TxValid_cx 17 0 (cB (cB l41_TxValid_code)) .no s (retTQ TB l41_TxValid_cx l41_TxValid_sh l41_TxValid_rs o)) (retTQ TB l41_TxValid_cx l41_TxValid_sh l41_TxValid_rs o)
def l41_TxValid_TJ1 : Tm := ⟨[0], [.cells [.d (.int .u64), .d (.sl (.int .u64)), .d (.sl (.st 0)), .d (.int .u64), .d (.int .u64), .d (.int .u64), .d (.int .u64), .d (.int .u64), .d (.int .i64), .d (.sl (.int .u8))]], [1, 9], [.one (.ptr 0 0), .one (.d (.bool))], 1⟩
noncomputable def l41_TxValid_J1d (o : l41_TxValid_O) (i : HL TB.den l41_TxValid_TJ1.hs) : Prop := ghs TB [] (l41_TxValid_TJ1.fill TB i) fun s => WP TB l41_TxValid_cx 17 0 (cB (cA (cB l41_TxValid_code))) .no s (l41_TxValid_Q1 o)
structure l41_TxValid_J1 (o : l41_TxValid_O) (i : HL TB.den l41_TxValid_TJ1.hs) : Prop where
  h : l41_TxValid_J1d o i
noncomputable def l41_TxValid_A3 (o : l41_TxValid_O) : An TB := .nd [] (.jn l41_TxValid_TJ1 (l41_TxValid_J1 o) [] .no [] .no) [] .no
noncomputable def l41_TxValid_an (o : l41_TxValid_O) : An TB := .nd [] .no [] (l41_TxValid_A3 o)
noncomputable def l41_TxValid_Body (x : l41_TxValid_I) (o : l41_TxValid_O) : Prop := WPh TB l41_TxValid_cx 17 0 l41_TxValid_code (l41_TxValid_an o) (l41_TxValid_sh.st TB x) (retTQ TB l41_TxValid_cx l41_TxValid_sh l41_TxValid_rs o)
set_option maxRecDepth 100000 in
theorem l41_TxValid_obl (o : l41_TxValid_O) : OblH TB l41_TxValid_cx 17 0 l41_TxValid_code (l41_TxValid_an o) (retTQ TB l41_TxValid_cx l41_TxValid_sh l41_TxValid_rs o) :=
  OblH.of_eq (X := (True ∧ ((True ∧ (∀ i, (l41_TxValid_J1 o) i = (l41_TxValid_J1d o) i) ∧ ((True ∧ True) ∧ True)) ∧ (True ∧ True)))) (by kernel_rfl) ⟨trivial, ⟨⟨trivial, fun _ => propext ⟨fun h => h.1, fun h => ⟨h⟩⟩, ⟨⟨trivial, trivial⟩, trivial⟩⟩, ⟨trivial, trivial⟩⟩⟩
set_option maxRecDepth 100000 in
theorem l41_TxValid_snd {x : l41_TxValid_I} {o : l41_TxValid_O} (h : l41_TxValid_Body x o) : SoundH Try.prog l41_TxValid_sh.f ((l41_TxValid_sh.args idf x).map (er TB)) ((l41_TxValid_sh.obs idf x).map (erO TB)) (er TB (l41_TxValid_sh.val idf o)) ((l41_TxValid_sh.ops idf o).map (erO TB)) :=
  Con.soundH (c := l41_TxValid_sh) (C := l41_TxValid_cx) TBok ⟨inf_ok, (all_cons l41_awake_ok (all_cons l41_small_ok (all_cons l41_copied_ok (all_cons tx_Valid_ok (all_cons r41_Valid_ok all_nil))))), all_nil⟩ mix Try.func3 (show Try.f3.body = some l41_TxValid_code by kernel_rfl) (show Try.f3.ntmps = 17 by kernel_rfl) (show Try.f3.results.toList = l41_TxValid_rs by kernel_rfl) rfl h (l41_TxValid_obl o)
set_option maxRecDepth 100000 in
theorem l41_TxValid_in {p0 : TTx} {r0 : Bool} (h :
(((!true) = true →
 l41_TxValid_J1 (r0, ()) (true, p0.Anchor, p0.Marks, p0.Outs, p0.Deposit, p0.Withdraw, p0.Fee, p0.Account, p0.Nonce, p0.Expiry, p0.Proof, ())) ∧
((!true) = false →
(p0.Outs.length ≤ 9223372036854775807) ∧ l41_TxValid_J1 (r0, ()) (((!smallB p0 300) : Bool), p0.Anchor, p0.Marks, p0.Outs, p0.Deposit, p0.Withdraw, p0.Fee, p0.Account, p0.Nonce, p0.Expiry, p0.Proof, ())))) : l41_TxValid_Body (p0.Anchor, p0.Marks, p0.Outs, p0.Deposit, p0.Withdraw, p0.Fee, p0.Account, p0.Nonce, p0.Expiry, p0.Proof, ()) (r0, ()) := WPh.of_eq (by kernel_rfl) h
set_option maxRecDepth 100000 in
theorem l41_TxValid_J1_in {r0 : Bool} {s9 : Bool} {h0_0 : Int} {h0_1 : List Int} {h0_2 : List TOut} {h0_3 : Int} {h0_4 : Int} {h0_5 : Int} {h0_6 : Int} {h0_7 : Int} {h0_8 : Int} {h0_9 : List Int} (h :
((s9 = true →
 true = r0) ∧
(s9 = false →
(TL (TTx.mk h0_0 h0_1 h0_2 h0_3 h0_4 h0_5 h0_6 h0_7 h0_8 h0_9)) ∧ let r1 : Int := validE (TTx.mk h0_0 h0_1 h0_2 h0_3 h0_4 h0_5 h0_6 h0_7 h0_8 h0_9)
(TR (TTx.mk h0_0 h0_1 h0_2 h0_3 h0_4 h0_5 h0_6 h0_7 h0_8 h0_9) ∧ TL (TTx.mk h0_0 h0_1 h0_2 h0_3 h0_4 h0_5 h0_6 h0_7 h0_8 h0_9)) ∧ let r2 : Int := validE (TTx.mk h0_0 h0_1 h0_2 h0_3 h0_4 h0_5 h0_6 h0_7 h0_8 h0_9)
(r1 == r2) = r0))) : l41_TxValid_J1 (r0, ()) (s9, h0_0, h0_1, h0_2, h0_3, h0_4, h0_5, h0_6, h0_7, h0_8, h0_9, ()) := ⟨mpr_of (by kernel_rfl) h⟩
theorem l41_TxValid_body (p0 : TTx) (h : TR p0 ∧ p0.Outs.length ≤ 9223372036854775807) : l41_TxValid_Body (p0.Anchor, p0.Marks, p0.Outs, p0.Deposit, p0.Withdraw, p0.Fee, p0.Account, p0.Nonce, p0.Expiry, p0.Proof, ()) ((true : Bool), ()) := by
  obtain ⟨hr, hl⟩ := h
  have j1 : ∀ s, (s = false → smallB p0 300 = true) → l41_TxValid_J1 (true, ()) (s, p0.Anchor, p0.Marks, p0.Outs, p0.Deposit, p0.Withdraw, p0.Fee, p0.Account, p0.Nonce, p0.Expiry, p0.Proof, ()) := by
    intro s hs
    refine l41_TxValid_J1_in ⟨fun _ => rfl, fun h => ?_⟩
    have tl := small_tl (hs h)
    exact ⟨tl, ⟨hr, tl⟩, by simp⟩
  exact l41_TxValid_in ⟨fun h => by simp at h, fun _ => ⟨hl, j1 _ (by simp)⟩⟩
end Go.Proofs.Ytdbnagpoknmoiaa
namespace Go.Proofs.Ytdbnagpoknmoiaa
open Go Go.Bv Go.Cv Go.Md Go.RowKit
def r11_Digits_sh : Con TB.den := Con.mk0 35 [.one (.d (.int .u64)), .one (.d (.int .i64))] [] (.one (.one (.d (.sl (.int .u8))))) []
abbrev r11_Digits_I := HL TB.den (hsT r11_Digits_sh.ins (hsOs r11_Digits_sh.pre))
abbrev r11_Digits_O := HL TB.den (hsV r11_Digits_sh.res (hsOs r11_Digits_sh.post))
noncomputable def r11_Digits_cx : Cx TB := ⟨inf, [], [], 4⟩
noncomputable def r11_Digits_code : Code := Try.f35.body.getD .skip
noncomputable def r11_Digits_rs : List ResultVar := Try.f35.results.toList
noncomputable def r11_Digits_Q1 (o : r11_Digits_O) : Exit → TSt TB.den → Prop := thenT TB (fun s => ghs TB [] s fun s => WP TB r11_Digits_cx 21 0 (cB (cB (cB r11_Digits_code))) .no s (retTQ TB r11_Digits_cx r11_Digits_sh r11_Digits_rs o)) (retTQ TB r11_Digits_cx r11_Digits_sh r11_Digits_rs o)
def r11_Digits_T1 : Tm := ⟨[0], [.tip (.int .u8)], [0, 1, 5, 6], [.one (.d (.int .u64)), .one (.d (.int .i64)), .one (.own 0), .one (.d (.int .i64))], 1⟩
noncomputable def r11_Digits_Q2 (o : r11_Digits_O) (nx1 : HL TB.den r11_Digits_T1.hs → Prop) : Exit → TSt TB.den → Prop := thenT TB (fun s => r11_Digits_T1.mat TB 0 s nx1) (blockT TB 0 (r11_Digits_Q1 o))
noncomputable def r11_Digits_L1 (o : r11_Digits_O) (nx1 : HL TB.den r11_Digits_T1.hs → Prop) (i : HL TB.den r11_Digits_T1.hs) : Prop := WP TB r11_Digits_cx 21 0 (cA (cA (cB (cA (cB (cB r11_Digits_code)))))) .no (r11_Digits_T1.fill TB i) (r11_Digits_Q2 o nx1)
noncomputable def r11_Digits_A5 (o : r11_Digits_O) : An TB := .lp [.tok 5 (.int .u8)] r11_Digits_T1 (r11_Digits_L1 o) fun nx1 => .no
noncomputable def r11_Digits_A6 (o : r11_Digits_O) : An TB := .nd [] .no [] (.nd [] (.nd [] .no [] (r11_Digits_A5 o)) [] .no)
noncomputable def r11_Digits_an (o : r11_Digits_O) : An TB := .nd [] .no [] (r11_Digits_A6 o)
noncomputable def r11_Digits_Body (x : r11_Digits_I) (o : r11_Digits_O) : Prop := WPh TB r11_Digits_cx 21 0 r11_Digits_code (r11_Digits_an o) (r11_Digits_sh.st TB x) (retTQ TB r11_Digits_cx r11_Digits_sh r11_Digits_rs o)
set_option maxRecDepth 100000 in
theorem r11_Digits_obl (o : r11_Digits_O) : OblH TB r11_Digits_cx 21 0 r11_Digits_code (r11_Digits_an o) (retTQ TB r11_Digits_cx r11_Digits_sh r11_Digits_rs o) :=
  OblH.of_eq (X := (True ∧ (True ∧ ((True ∧ ((∀ nx i, (r11_Digits_L1 o) nx i = (r11_Digits_L1 o) nx i) ∧ ∀ nx1 : HL TB.den r11_Digits_T1.hs → Prop, ((True ∧ (True ∧ True)) ∧ ((True ∧ True) ∧ True)))) ∧ (True ∧ True))))) (by kernel_rfl) ⟨trivial, ⟨trivial, ⟨⟨trivial, ⟨fun _ _ => rfl, fun _ => ⟨⟨trivial, ⟨trivial, trivial⟩⟩, ⟨⟨trivial, trivial⟩, trivial⟩⟩⟩⟩, ⟨trivial, trivial⟩⟩⟩⟩
set_option maxRecDepth 100000 in
theorem r11_Digits_snd {x : r11_Digits_I} {o : r11_Digits_O} (h : r11_Digits_Body x o) : SoundH Try.prog r11_Digits_sh.f ((r11_Digits_sh.args idf x).map (er TB)) ((r11_Digits_sh.obs idf x).map (erO TB)) (er TB (r11_Digits_sh.val idf o)) ((r11_Digits_sh.ops idf o).map (erO TB)) :=
  Con.soundH (c := r11_Digits_sh) (C := r11_Digits_cx) TBok ⟨inf_ok, all_nil, all_nil⟩ mix Try.func35 (show Try.f35.body = some r11_Digits_code by kernel_rfl) (show Try.f35.ntmps = 21 by kernel_rfl) (show Try.f35.results.toList = r11_Digits_rs by kernel_rfl) rfl h (r11_Digits_obl o)
set_option maxRecDepth 100000 in
theorem r11_Digits_in {p0 : Int} {p1 : Int} {r0 : List Int} (h :
((([] : List Int) = ([] : List Int)) ∧ Md.Loop (p0, p1, (0 : Int), (([] : List Int) : List Int), ()) (r11_Digits_L1 (r0, ())))) : r11_Digits_Body (p0, p1, ()) (r0, ()) := WPh.of_eq (by kernel_rfl) h
def r11_Digits_B1 (r0 : List Int) (k1 : Int → Int → List Int → Prop) (s1 : Int) (s0 : Int) (s6 : Int) (g0 : List Int) : Prop :=
(decide (s6 < s1) = true →
 g0.length = g0.length ∧ (g0.length + [IntKind.u8.wrap (Int.tmod s0 256)].length) * 1 ≤ 140737488355328 ∧ g0.length + [IntKind.u8.wrap (Int.tmod s0 256)].length ≤ maxLen ∧ let v1 : List Int := g0 ++ [IntKind.u8.wrap (Int.tmod s0 256)]
(v1 = v1) ∧ k1 (IntKind.u64.wrap (Int.tdiv s0 256) : Int) (IntKind.i64.wrap (s6 + 1) : Int) v1) ∧
(decide (s6 < s1) = false →
 g0 = r0)
set_option maxRecDepth 100000 in
theorem r11_Digits_lp1 {r0 : List Int} {s1 : Int} {s0 : Int} {s6 : Int} {g0 : List Int} (inv : Int → Int → List Int → Prop) (μ : Int → Int → List Int → Nat) (h0 : inv s0 s6 g0) (hs : ∀ (s0 : Int) (s6 : Int) (g0 : List Int), inv s0 s6 g0 → r11_Digits_B1 r0 (fun s0q s6q g0q => inv s0q s6q g0q ∧ μ s0q s6q g0q < μ s0 s6 g0) s1 s0 s6 g0) : Md.Loop (s0, s1, s6, g0, ()) (r11_Digits_L1 (r0, ())) :=
  ⟨⟨fun s : Int × Int × Int × (List Int) × Unit => (s.2.1 = s1) ∧ inv s.1 s.2.2.1 s.2.2.2.1, fun s : Int × Int × Int × (List Int) × Unit => μ s.1 s.2.2.1 s.2.2.2.1, ⟨rfl, h0⟩, fun (s0p, s1p, s6p, g0p, ()) ⟨eq0, hi⟩ => by
    have eq0 : s1p = s1 := eq0; subst s1p; exact mpr_of (by kernel_rfl) ((congrArg (fun k => r11_Digits_B1 r0 k s1 s0p s6p g0p) (lpk3 (rfl : s1 = s1) inv (fun s0q s6q g0q => μ s0q s6q g0q < μ s0p s6p g0p))).mpr (hs s0p s6p g0p hi))⟩⟩
theorem bd35 : Callable Try.prog 35 := ⟨by rw [Try.func35]; kernel_rfl, by rw [Try.func35]; show some _ ≠ some _; decide⟩
theorem r11_Digits_body (p0 : Int) (p1 : Int) (h : U64 p0 ∧ 0 ≤ p1 ∧ p1 ≤ 8) : r11_Digits_Body (p0, p1, ()) ((dig p1.toNat p0 : List Int), ()) := by
  obtain ⟨h1, h2, h3⟩ := h
  refine r11_Digits_in ⟨rfl, r11_Digits_lp1 (fun n i g => 0 ≤ i ∧ i ≤ p1 ∧ U64 n ∧ n = p0 / 256 ^ i.toNat ∧ g = dig i.toNat p0) (fun _ i _ => (p1 - i).toNat) ⟨by omega, by omega, h1, by simp, by simp [dig]⟩ ?_⟩
  rintro n i g ⟨g0, g1, g2, g3, rfl⟩
  refine ⟨fun h => ?_, fun h => ?_⟩
  · have h := of_decide_eq_true h
    rw [inc i p1 g0 h (by omega), tmod_nn _ _ g2.1, tdiv_nn _ _ g2.1, u8w, wu (n / 256) (by omega) (by omega)]
    refine ⟨rfl, ?_, ?_, rfl, ⟨by omega, by omega, ⟨by omega, by omega⟩, ?_, ?_⟩, by omega⟩
    · simp; omega
    · simp; unfold maxLen; omega
    · rw [g3, show (i + 1).toNat = i.toNat + 1 by omega, Int.ediv_ediv_of_nonneg (Int.le_of_lt (pow256_pos _)), Int.pow_succ]
    · rw [show (i + 1).toNat = i.toNat + 1 by omega, dig_snoc, g3]
      congr 2
      omega
  · have h := of_decide_eq_false h
    rw [show i = p1 by omega]
noncomputable def r11_Digits_con : Con TB.den := r11_Digits_sh.fnR (fun x => (fun (p0 : Int) (p1 : Int) => U64 p0 ∧ 0 ≤ p1 ∧ p1 ≤ 8) x.1 x.2.1) fun x => ((fun (p0 : Int) (p1 : Int) => (dig p1.toNat p0 : List Int)) x.1 x.2.1, ())
theorem r11_Digits_ok : r11_Digits_con.Ok Try.prog TB := Con.ok_fn r11_Digits_sh bd35 fun x h => r11_Digits_snd (r11_Digits_body x.1 x.2.1 h)
end Go.Proofs.Ytdbnagpoknmoiaa
namespace Go.Proofs.Ytdbnagpoknmoiaa
open Go Go.Bv Go.Cv Go.Md Go.RowKit
def r11_Digits_2_sh : Con TB.den := Con.mk0 35 [.one (.d (.int .u64)), .one (.d (.int .i64))] [] (.one (.one (.own 0))) [.tip (.int .u8)]
abbrev r11_Digits_2_I := HL TB.den (hsT r11_Digits_2_sh.ins (hsOs r11_Digits_2_sh.pre))
abbrev r11_Digits_2_O := HL TB.den (hsV r11_Digits_2_sh.res (hsOs r11_Digits_2_sh.post))
noncomputable def r11_Digits_2_cx : Cx TB := ⟨inf, [], [], 4⟩
noncomputable def r11_Digits_2_code : Code := Try.f35.body.getD .skip
noncomputable def r11_Digits_2_rs : List ResultVar := Try.f35.results.toList
noncomputable def r11_Digits_2_Q1 (o : r11_Digits_2_O) : Exit → TSt TB.den → Prop := thenT TB (fun s => ghs TB [] s fun s => WP TB r11_Digits_2_cx 21 0 (cB (cB (cB r11_Digits_2_code))) .no s (retTQ TB r11_Digits_2_cx r11_Digits_2_sh r11_Digits_2_rs o)) (retTQ TB r11_Digits_2_cx r11_Digits_2_sh r11_Digits_2_rs o)
def r11_Digits_2_T1 : Tm := ⟨[0], [.tip (.int .u8)], [0, 1, 5, 6], [.one (.d (.int .u64)), .one (.d (.int .i64)), .one (.own 0), .one (.d (.int .i64))], 1⟩
noncomputable def r11_Digits_2_Q2 (o : r11_Digits_2_O) (nx1 : HL TB.den r11_Digits_2_T1.hs → Prop) : Exit → TSt TB.den → Prop := thenT TB (fun s => r11_Digits_2_T1.mat TB 0 s nx1) (blockT TB 0 (r11_Digits_2_Q1 o))
noncomputable def r11_Digits_2_L1 (o : r11_Digits_2_O) (nx1 : HL TB.den r11_Digits_2_T1.hs → Prop) (i : HL TB.den r11_Digits_2_T1.hs) : Prop := WP TB r11_Digits_2_cx 21 0 (cA (cA (cB (cA (cB (cB r11_Digits_2_code)))))) .no (r11_Digits_2_T1.fill TB i) (r11_Digits_2_Q2 o nx1)
noncomputable def r11_Digits_2_A5 (o : r11_Digits_2_O) : An TB := .lp [.tok 5 (.int .u8)] r11_Digits_2_T1 (r11_Digits_2_L1 o) fun nx1 => .no
noncomputable def r11_Digits_2_A6 (o : r11_Digits_2_O) : An TB := .nd [] .no [] (.nd [] (.nd [] .no [] (r11_Digits_2_A5 o)) [] .no)
noncomputable def r11_Digits_2_an (o : r11_Digits_2_O) : An TB := .nd [] .no [] (r11_Digits_2_A6 o)
noncomputable def r11_Digits_2_Body (x : r11_Digits_2_I) (o : r11_Digits_2_O) : Prop := WPh TB r11_Digits_2_cx 21 0 r11_Digits_2_code (r11_Digits_2_an o) (r11_Digits_2_sh.st TB x) (retTQ TB r11_Digits_2_cx r11_Digits_2_sh r11_Digits_2_rs o)
set_option maxRecDepth 100000 in
theorem r11_Digits_2_obl (o : r11_Digits_2_O) : OblH TB r11_Digits_2_cx 21 0 r11_Digits_2_code (r11_Digits_2_an o) (retTQ TB r11_Digits_2_cx r11_Digits_2_sh r11_Digits_2_rs o) :=
  OblH.of_eq (X := (True ∧ (True ∧ ((True ∧ ((∀ nx i, (r11_Digits_2_L1 o) nx i = (r11_Digits_2_L1 o) nx i) ∧ ∀ nx1 : HL TB.den r11_Digits_2_T1.hs → Prop, ((True ∧ (True ∧ True)) ∧ ((True ∧ True) ∧ True)))) ∧ (True ∧ True))))) (by kernel_rfl) ⟨trivial, ⟨trivial, ⟨⟨trivial, ⟨fun _ _ => rfl, fun _ => ⟨⟨trivial, ⟨trivial, trivial⟩⟩, ⟨⟨trivial, trivial⟩, trivial⟩⟩⟩⟩, ⟨trivial, trivial⟩⟩⟩⟩
set_option maxRecDepth 100000 in
theorem r11_Digits_2_snd {x : r11_Digits_2_I} {o : r11_Digits_2_O} (h : r11_Digits_2_Body x o) : SoundH Try.prog r11_Digits_2_sh.f ((r11_Digits_2_sh.args idf x).map (er TB)) ((r11_Digits_2_sh.obs idf x).map (erO TB)) (er TB (r11_Digits_2_sh.val idf o)) ((r11_Digits_2_sh.ops idf o).map (erO TB)) :=
  Con.soundH (c := r11_Digits_2_sh) (C := r11_Digits_2_cx) TBok ⟨inf_ok, all_nil, all_nil⟩ mix Try.func35 (show Try.f35.body = some r11_Digits_2_code by kernel_rfl) (show Try.f35.ntmps = 21 by kernel_rfl) (show Try.f35.results.toList = r11_Digits_2_rs by kernel_rfl) rfl h (r11_Digits_2_obl o)
set_option maxRecDepth 100000 in
theorem r11_Digits_2_in {p0 : Int} {p1 : Int} {e0 : List Int} (h :
((([] : List Int) = ([] : List Int)) ∧ Md.Loop (p0, p1, (0 : Int), (([] : List Int) : List Int), ()) (r11_Digits_2_L1 (e0, ())))) : r11_Digits_2_Body (p0, p1, ()) (e0, ()) := WPh.of_eq (by kernel_rfl) h
def r11_Digits_2_B1 (e0 : List Int) (k1 : Int → Int → List Int → Prop) (s1 : Int) (s0 : Int) (s6 : Int) (g0 : List Int) : Prop :=
(decide (s6 < s1) = true →
 g0.length = g0.length ∧ (g0.length + [IntKind.u8.wrap (Int.tmod s0 256)].length) * 1 ≤ 140737488355328 ∧ g0.length + [IntKind.u8.wrap (Int.tmod s0 256)].length ≤ maxLen ∧ let v1 : List Int := g0 ++ [IntKind.u8.wrap (Int.tmod s0 256)]
(v1 = v1) ∧ k1 (IntKind.u64.wrap (Int.tdiv s0 256) : Int) (IntKind.i64.wrap (s6 + 1) : Int) v1) ∧
(decide (s6 < s1) = false →
(g0 = g0) ∧ g0 = e0)
set_option maxRecDepth 100000 in
theorem r11_Digits_2_lp1 {e0 : List Int} {s1 : Int} {s0 : Int} {s6 : Int} {g0 : List Int} (inv : Int → Int → List Int → Prop) (μ : Int → Int → List Int → Nat) (h0 : inv s0 s6 g0) (hs : ∀ (s0 : Int) (s6 : Int) (g0 : List Int), inv s0 s6 g0 → r11_Digits_2_B1 e0 (fun s0q s6q g0q => inv s0q s6q g0q ∧ μ s0q s6q g0q < μ s0 s6 g0) s1 s0 s6 g0) : Md.Loop (s0, s1, s6, g0, ()) (r11_Digits_2_L1 (e0, ())) :=
  ⟨⟨fun s : Int × Int × Int × (List Int) × Unit => (s.2.1 = s1) ∧ inv s.1 s.2.2.1 s.2.2.2.1, fun s : Int × Int × Int × (List Int) × Unit => μ s.1 s.2.2.1 s.2.2.2.1, ⟨rfl, h0⟩, fun (s0p, s1p, s6p, g0p, ()) ⟨eq0, hi⟩ => by
    have eq0 : s1p = s1 := eq0; subst s1p; exact mpr_of (by kernel_rfl) ((congrArg (fun k => r11_Digits_2_B1 e0 k s1 s0p s6p g0p) (lpk3 (rfl : s1 = s1) inv (fun s0q s6q g0q => μ s0q s6q g0q < μ s0p s6p g0p))).mpr (hs s0p s6p g0p hi))⟩⟩
theorem r11_Digits_2_body (p0 : Int) (p1 : Int) (h : U64 p0 ∧ 0 ≤ p1 ∧ p1 ≤ 8) : r11_Digits_2_Body (p0, p1, ()) ((dig p1.toNat p0 : List Int), ()) := by
  obtain ⟨h1, h2, h3⟩ := h
  refine r11_Digits_2_in ⟨rfl, r11_Digits_2_lp1 (fun n i g => 0 ≤ i ∧ i ≤ p1 ∧ U64 n ∧ n = p0 / 256 ^ i.toNat ∧ g = dig i.toNat p0) (fun _ i _ => (p1 - i).toNat) ⟨by omega, by omega, h1, by simp, by simp [dig]⟩ ?_⟩
  rintro n i g ⟨g0, g1, g2, g3, rfl⟩
  refine ⟨fun h => ?_, fun h => ?_⟩
  · have h := of_decide_eq_true h
    rw [inc i p1 g0 h (by omega), tmod_nn _ _ g2.1, tdiv_nn _ _ g2.1, u8w, wu (n / 256) (by omega) (by omega)]
    refine ⟨rfl, ?_, ?_, rfl, ⟨by omega, by omega, ⟨by omega, by omega⟩, ?_, ?_⟩, by omega⟩
    · simp; omega
    · simp; unfold maxLen; omega
    · rw [g3, show (i + 1).toNat = i.toNat + 1 by omega, Int.ediv_ediv_of_nonneg (Int.le_of_lt (pow256_pos _)), Int.pow_succ]
    · rw [show (i + 1).toNat = i.toNat + 1 by omega, dig_snoc, g3]
      congr 2
      omega
  · have h := of_decide_eq_false h
    exact ⟨rfl, by rw [show i = p1 by omega]⟩
noncomputable def r11_Digits_2_con : Con TB.den := r11_Digits_2_sh.fnR (fun x => (fun (p0 : Int) (p1 : Int) => U64 p0 ∧ 0 ≤ p1 ∧ p1 ≤ 8) x.1 x.2.1) fun x => ((fun (p0 : Int) (p1 : Int) => (dig p1.toNat p0 : List Int)) x.1 x.2.1, ())
theorem r11_Digits_2_ok : r11_Digits_2_con.Ok Try.prog TB := Con.ok_fn r11_Digits_2_sh bd35 fun x h => r11_Digits_2_snd (r11_Digits_2_body x.1 x.2.1 h)
end Go.Proofs.Ytdbnagpoknmoiaa
namespace Go.Proofs.Ytdbnagpoknmoiaa
open Go Go.Bv Go.Cv Go.Md Go.RowKit
def r11_Int_sh : Con TB.den := Con.mk0 37 [.one (.d (.int .i64))] [] (.one (.one (.d (.sl (.int .u8))))) []
abbrev r11_Int_I := HL TB.den (hsT r11_Int_sh.ins (hsOs r11_Int_sh.pre))
abbrev r11_Int_O := HL TB.den (hsV r11_Int_sh.res (hsOs r11_Int_sh.post))
noncomputable def r11_Int_cx : Cx TB := ⟨inf, [r11_Digits_con], [], 4⟩
noncomputable def r11_Int_code : Code := Try.f37.body.getD .skip
noncomputable def r11_Int_rs : List ResultVar := Try.f37.results.toList
def r11_Int_TJ1 : Tm := ⟨[], [], [0], [.one (.d (.int .i64))], 0⟩
noncomputable def r11_Int_J1d (o : r11_Int_O) (i : HL TB.den r11_Int_TJ1.hs) : Prop := ghs TB [] (r11_Int_TJ1.fill TB i) fun s => WP TB r11_Int_cx 12 0 (cB (cB r11_Int_code)) .no s (retTQ TB r11_Int_cx r11_Int_sh r11_Int_rs o)
structure r11_Int_J1 (o : r11_Int_O) (i : HL TB.den r11_Int_TJ1.hs) : Prop where
  h : r11_Int_J1d o i
noncomputable def r11_Int_an (o : r11_Int_O) : An TB := .nd [] .no [] (.jn r11_Int_TJ1 (r11_Int_J1 o) [] .no [] .no)
noncomputable def r11_Int_Body (x : r11_Int_I) (o : r11_Int_O) : Prop := WPh TB r11_Int_cx 12 0 r11_Int_code (r11_Int_an o) (r11_Int_sh.st TB x) (retTQ TB r11_Int_cx r11_Int_sh r11_Int_rs o)
set_option maxRecDepth 100000 in
theorem r11_Int_obl (o : r11_Int_O) : OblH TB r11_Int_cx 12 0 r11_Int_code (r11_Int_an o) (retTQ TB r11_Int_cx r11_Int_sh r11_Int_rs o) :=
  OblH.of_eq (X := (True ∧ ((True ∧ (True ∧ True)) ∧ (∀ i, (r11_Int_J1 o) i = (r11_Int_J1d o) i) ∧ (True ∧ True)))) (by kernel_rfl) ⟨trivial, ⟨⟨trivial, ⟨trivial, trivial⟩⟩, fun _ => propext ⟨fun h => h.1, fun h => ⟨h⟩⟩, ⟨trivial, trivial⟩⟩⟩
set_option maxRecDepth 100000 in
theorem r11_Int_snd {x : r11_Int_I} {o : r11_Int_O} (h : r11_Int_Body x o) : SoundH Try.prog r11_Int_sh.f ((r11_Int_sh.args idf x).map (er TB)) ((r11_Int_sh.obs idf x).map (erO TB)) (er TB (r11_Int_sh.val idf o)) ((r11_Int_sh.ops idf o).map (erO TB)) :=
  Con.soundH (c := r11_Int_sh) (C := r11_Int_cx) TBok ⟨inf_ok, (all_cons r11_Digits_ok all_nil), all_nil⟩ mix Try.func37 (show Try.f37.body = some r11_Int_code by kernel_rfl) (show Try.f37.ntmps = 12 by kernel_rfl) (show Try.f37.results.toList = r11_Int_rs by kernel_rfl) rfl h (r11_Int_obl o)
set_option maxRecDepth 100000 in
theorem r11_Int_in {p0 : Int} {r0 : List Int} (h :
((decide (p0 < 0) = true →
 r11_Int_J1 (r0, ()) ((0 : Int), ())) ∧
(decide (p0 < 0) = false →
(decide (4294967296 ≤ p0) = true →
 r11_Int_J1 (r0, ()) ((0 : Int), ())) ∧
(decide (4294967296 ≤ p0) = false →
 r11_Int_J1 (r0, ()) (p0, ()))))) : r11_Int_Body (p0, ()) (r0, ()) := WPh.of_eq (by kernel_rfl) h
set_option maxRecDepth 100000 in
theorem r11_Int_J1_in {r0 : List Int} {s0 : Int} (h :
((U64 (IntKind.u64.wrap s0) ∧ 0 ≤ (4 : Int) ∧ (4 : Int) ≤ 8) ∧ let r1 : List Int := dig (4 : Int).toNat (IntKind.u64.wrap s0)
 r1 = r0)) : r11_Int_J1 (r0, ()) (s0, ()) := ⟨mpr_of (by kernel_rfl) h⟩
theorem bd37 : Callable Try.prog 37 := ⟨by rw [Try.func37]; kernel_rfl, by rw [Try.func37]; show some _ ≠ some _; decide⟩
theorem r11_Int_body (p0 : Int) : r11_Int_Body (p0, ()) ((dig 4 (len4 p0) : List Int), ()) := by
  have j : ∀ n, 0 ≤ n → n ≤ 4294967295 → len4 p0 = n → r11_Int_J1 ((dig 4 (len4 p0) : List Int), ()) (n, ()) := by
    intro n h0 h1 e
    refine r11_Int_J1_in ?_
    rw [wu n (by omega) (by omega), e]
    exact ⟨⟨⟨h0, by omega⟩, by omega⟩, rfl⟩
  refine r11_Int_in ⟨fun h => j 0 (by omega) (by omega) ?_, fun h => ⟨fun h' => j 0 (by omega) (by omega) ?_, fun h' => j p0 ?_ ?_ ?_⟩⟩
  · have h := of_decide_eq_true h; exact if_pos (.inl h)
  · have h' := of_decide_eq_true h'; exact if_pos (.inr (by omega))
  · have h := of_decide_eq_false h; omega
  · have h' := of_decide_eq_false h'; omega
  · have h := of_decide_eq_false h; have h' := of_decide_eq_false h'; exact len4_in ⟨by omega, by omega⟩
noncomputable def r11_Int_con : Con TB.den := r11_Int_sh.totR fun x => ((fun (p0 : Int) => (dig 4 (len4 p0) : List Int)) x.1, ())
theorem r11_Int_ok : r11_Int_con.Ok Try.prog TB := Con.ok_tot r11_Int_sh bd37 fun x => r11_Int_snd (r11_Int_body x.1)
end Go.Proofs.Ytdbnagpoknmoiaa
