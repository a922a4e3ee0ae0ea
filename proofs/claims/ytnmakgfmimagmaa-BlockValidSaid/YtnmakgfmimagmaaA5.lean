/-
  Parts of the proofs that the laws of this seat hold of every input, merged by a program: a machine over pure data that is sound for the model, what each function of the translation does in it, and plain lemmas. No conditions but those in each theorem.
-/
import Derived.Test.YtnmakgfmimagmaaA4
set_option linter.all false
namespace Go.Proofs.Ytnmakgfmimagmaa
open Go Go.Bv Go.Cv Go.Md Go.RowKit
def r41_Bytes_sh : Con TB.den := Con.mk0 16 [.agg [.d (.int .u64), .d (.sl (.int .u64)), .d (.sl (.st 0)), .d (.int .u64), .d (.int .u64), .d (.int .u64), .d (.int .u64), .d (.int .u64), .d (.int .i64), .d (.sl (.int .u8))]] [] (.one (.one (.d (.sl (.int .u8))))) []
abbrev r41_Bytes_I := HL TB.den (hsT r41_Bytes_sh.ins (hsOs r41_Bytes_sh.pre))
abbrev r41_Bytes_O := HL TB.den (hsV r41_Bytes_sh.res (hsOs r41_Bytes_sh.post))
noncomputable def r41_Bytes_cx : Cx TB := ⟨inf, [r11_Digits_o_con, r11_List_con, r11_Int_con, r11_Bytes_con], [], 4⟩
noncomputable def r41_Bytes_code : Code := Try.f16.body.getD .skip
noncomputable def r41_Bytes_rs : List ResultVar := Try.f16.results.toList
noncomputable def r41_Bytes_Q1 (o : r41_Bytes_O) : Exit → TSt TB.den → Prop := thenT TB (fun s => ghs TB [] s fun s => WP TB r41_Bytes_cx 97 0 (cB (cB (cB (cB (cB (cB (cB r41_Bytes_code))))))) .no s (retTQ TB r41_Bytes_cx r41_Bytes_sh r41_Bytes_rs o)) (retTQ TB r41_Bytes_cx r41_Bytes_sh r41_Bytes_rs o)
def r41_Bytes_T3 : Tm := ⟨[0, 1], [.cells [.d (.int .u64), .d (.sl (.int .u64)), .d (.sl (.st 0)), .d (.int .u64), .d (.int .u64), .d (.int .u64), .d (.int .u64), .d (.int .u64), .d (.int .i64), .d (.sl (.int .u8))], .tip (.int .u8)], [1, 3, 8, 9], [.one (.ptr 0 0), .one (.own 1), .one (.full (.int .u64)), .one (.d (.int .i64))], 3⟩
noncomputable def r41_Bytes_Q2 (o : r41_Bytes_O) (nx3 : HL TB.den r41_Bytes_T3.hs → Prop) : Exit → TSt TB.den → Prop := thenT TB (fun s => r41_Bytes_T3.mat TB 0 s nx3) (blockT TB 4 (r41_Bytes_Q1 o))
noncomputable def r41_Bytes_L3 (o : r41_Bytes_O) (nx3 : HL TB.den r41_Bytes_T3.hs → Prop) (i : HL TB.den r41_Bytes_T3.hs) : Prop := WP TB r41_Bytes_cx 97 0 (cA (cA (cB (cA (cB (cB (cB (cB (cB (cB r41_Bytes_code)))))))))) .no (r41_Bytes_T3.fill TB i) (r41_Bytes_Q2 o nx3)
noncomputable def r41_Bytes_A5 (o : r41_Bytes_O) : An TB := .nd [] .no [] (.lp [] r41_Bytes_T3 (r41_Bytes_L3 o) fun nx3 => .no)
noncomputable def r41_Bytes_Q6 (o : r41_Bytes_O) : Exit → TSt TB.den → Prop := thenT TB (fun s => ghs TB [] s fun s => WP TB r41_Bytes_cx 97 0 (cB (cB (cB (cB (cB r41_Bytes_code))))) (.nd [] .no [] (.nd [] (r41_Bytes_A5 o) [] .no)) s (retTQ TB r41_Bytes_cx r41_Bytes_sh r41_Bytes_rs o)) (retTQ TB r41_Bytes_cx r41_Bytes_sh r41_Bytes_rs o)
def r41_Bytes_T2 : Tm := ⟨[0, 1], [.cells [.d (.int .u64), .d (.sl (.int .u64)), .d (.sl (.st 0)), .d (.int .u64), .d (.int .u64), .d (.int .u64), .d (.int .u64), .d (.int .u64), .d (.int .i64), .d (.sl (.int .u8))], .tip (.int .u8)], [1, 3, 4], [.one (.ptr 0 0), .one (.own 1), .one (.d (.int .i64))], 2⟩
noncomputable def r41_Bytes_Q7 (o : r41_Bytes_O) (nx2 : HL TB.den r41_Bytes_T2.hs → Prop) : Exit → TSt TB.den → Prop := thenT TB (fun s => r41_Bytes_T2.mat TB 0 s nx2) (blockT TB 0 (r41_Bytes_Q6 o))
noncomputable def r41_Bytes_Q8 (o : r41_Bytes_O) (nx2 : HL TB.den r41_Bytes_T2.hs → Prop) : Exit → TSt TB.den → Prop := thenT TB (fun s => ghs TB [] s fun s => WP TB r41_Bytes_cx 97 0 (cB (cB (cA (cA (cB (cA (cB (cB (cB (cB r41_Bytes_code)))))))))) .no s (r41_Bytes_Q7 o nx2)) (r41_Bytes_Q7 o nx2)
noncomputable def r41_Bytes_Q9 (o : r41_Bytes_O) (nx2 : HL TB.den r41_Bytes_T2.hs → Prop) : Exit → TSt TB.den → Prop := thenT TB (fun s => ghs TB [] s fun s => WP TB r41_Bytes_cx 97 0 (cB (cB (cB (cA (cA (cB (cA (cA (cB (cA (cB (cB (cB (cB r41_Bytes_code)))))))))))))) .no s (blockT TB 1 (r41_Bytes_Q8 o nx2))) (blockT TB 1 (r41_Bytes_Q8 o nx2))
def r41_Bytes_T1 : Tm := ⟨[0, 1, 2], [.cells [.d (.int .u64), .d (.sl (.int .u64)), .d (.sl (.st 0)), .d (.int .u64), .d (.int .u64), .d (.int .u64), .d (.int .u64), .d (.int .u64), .d (.int .i64), .d (.sl (.int .u8))], .tip (.int .u8), .cells [.d (.int .u64), .d (.int .u64), .d (.int .u64), .d (.sl (.int .u64))]], [1, 3, 4, 5, 6, 7], [.one (.ptr 0 0), .one (.own 1), .one (.d (.int .i64)), .one (.ptr 2 0), .one (.full (.int .u64)), .one (.d (.int .i64))], 4⟩
noncomputable def r41_Bytes_Q10 (o : r41_Bytes_O) (nx2 : HL TB.den r41_Bytes_T2.hs → Prop) (nx1 : HL TB.den r41_Bytes_T1.hs → Prop) : Exit → TSt TB.den → Prop := thenT TB (fun s => r41_Bytes_T1.mat TB 0 s nx1) (blockT TB 2 (r41_Bytes_Q9 o nx2))
noncomputable def r41_Bytes_L1 (o : r41_Bytes_O) (nx2 : HL TB.den r41_Bytes_T2.hs → Prop) (nx1 : HL TB.den r41_Bytes_T1.hs → Prop) (i : HL TB.den r41_Bytes_T1.hs) : Prop := WP TB r41_Bytes_cx 97 0 (cA (cA (cB (cA (cB (cB (cA (cA (cB (cA (cA (cB (cA (cB (cB (cB (cB r41_Bytes_code))))))))))))))))) .no (r41_Bytes_T1.fill TB i) (r41_Bytes_Q10 o nx2 nx1)
noncomputable def r41_Bytes_A13 (o : r41_Bytes_O) (nx2 : HL TB.den r41_Bytes_T2.hs → Prop) : An TB := .nd [] .no [] (.lp [] r41_Bytes_T1 (r41_Bytes_L1 o nx2) fun nx1 => .no)
noncomputable def r41_Bytes_A14 (o : r41_Bytes_O) (nx2 : HL TB.den r41_Bytes_T2.hs → Prop) : An TB := .nd [] .no [] (.nd [] .no [] (.nd [] (r41_Bytes_A13 o nx2) [] .no))
noncomputable def r41_Bytes_L2 (o : r41_Bytes_O) (nx2 : HL TB.den r41_Bytes_T2.hs → Prop) (i : HL TB.den r41_Bytes_T2.hs) : Prop := WP TB r41_Bytes_cx 97 0 (cA (cA (cB (cA (cB (cB (cB (cB r41_Bytes_code)))))))) (.nd [] .no [] (.nd [] (r41_Bytes_A14 o nx2) [] .no)) (r41_Bytes_T2.fill TB i) (r41_Bytes_Q7 o nx2)
noncomputable def r41_Bytes_A16 (o : r41_Bytes_O) : An TB := .lp [] r41_Bytes_T2 (r41_Bytes_L2 o) fun nx2 => (.nd [] .no [] (.nd [] (r41_Bytes_A14 o nx2) [] .no))
noncomputable def r41_Bytes_A17 (o : r41_Bytes_O) : An TB := .nd [] (.nd [] .no [] (r41_Bytes_A16 o)) [] (.nd [] .no [] (.nd [] (r41_Bytes_A5 o) [] .no))
noncomputable def r41_Bytes_A18 (o : r41_Bytes_O) : An TB := .nd [] .no [] (.nd [] .no [] (.nd [] .no [] (r41_Bytes_A17 o)))
noncomputable def r41_Bytes_an (o : r41_Bytes_O) : An TB := .nd [] .no [] (r41_Bytes_A18 o)
noncomputable def r41_Bytes_Body (x : r41_Bytes_I) (o : r41_Bytes_O) : Prop := WPh TB r41_Bytes_cx 97 0 r41_Bytes_code (r41_Bytes_an o) (r41_Bytes_sh.st TB x) (retTQ TB r41_Bytes_cx r41_Bytes_sh r41_Bytes_rs o)
set_option maxRecDepth 100000 in
theorem r41_Bytes_obl (o : r41_Bytes_O) : OblH TB r41_Bytes_cx 97 0 r41_Bytes_code (r41_Bytes_an o) (retTQ TB r41_Bytes_cx r41_Bytes_sh r41_Bytes_rs o) :=
  OblH.of_eq (X := (True ∧ (True ∧ (True ∧ (True ∧ ((True ∧ ((∀ nx i, (r41_Bytes_L2 o) nx i = (r41_Bytes_L2 o) nx i) ∧ ∀ nx2 : HL TB.den r41_Bytes_T2.hs → Prop, ((True ∧ (True ∧ True)) ∧ ((True ∧ (True ∧ ((True ∧ ((∀ nx i, (r41_Bytes_L1 o nx2) nx i = (r41_Bytes_L1 o nx2) nx i) ∧ ∀ nx1 : HL TB.den r41_Bytes_T1.hs → Prop, ((True ∧ (True ∧ True)) ∧ (True ∧ True)))) ∧ True))) ∧ True)))) ∧ (True ∧ ((True ∧ ((∀ nx i, (r41_Bytes_L3 o) nx i = (r41_Bytes_L3 o) nx i) ∧ ∀ nx3 : HL TB.den r41_Bytes_T3.hs → Prop, ((True ∧ (True ∧ True)) ∧ (True ∧ True)))) ∧ (True ∧ (True ∧ True)))))))))) (by kernel_rfl) ⟨trivial, ⟨trivial, ⟨trivial, ⟨trivial, ⟨⟨trivial, ⟨fun _ _ => rfl, fun _ => ⟨⟨trivial, ⟨trivial, trivial⟩⟩, ⟨⟨trivial, ⟨trivial, ⟨⟨trivial, ⟨fun _ _ => rfl, fun _ => ⟨⟨trivial, ⟨trivial, trivial⟩⟩, ⟨trivial, trivial⟩⟩⟩⟩, trivial⟩⟩⟩, trivial⟩⟩⟩⟩, ⟨trivial, ⟨⟨trivial, ⟨fun _ _ => rfl, fun _ => ⟨⟨trivial, ⟨trivial, trivial⟩⟩, ⟨trivial, trivial⟩⟩⟩⟩, ⟨trivial, ⟨trivial, trivial⟩⟩⟩⟩⟩⟩⟩⟩⟩
set_option maxRecDepth 100000 in
theorem r41_Bytes_snd {x : r41_Bytes_I} {o : r41_Bytes_O} (h : r41_Bytes_Body x o) : SoundH Try.prog r41_Bytes_sh.f ((r41_Bytes_sh.args idf x).map (er TB)) ((r41_Bytes_sh.obs idf x).map (erO TB)) (er TB (r41_Bytes_sh.val idf o)) ((r41_Bytes_sh.ops idf o).map (erO TB)) :=
  Con.soundH (c := r41_Bytes_sh) (C := r41_Bytes_cx) TBok ⟨inf_ok, (all_cons r11_Digits_o_ok (all_cons r11_List_ok (all_cons r11_Int_ok (all_cons r11_Bytes_ok all_nil)))), all_nil⟩ mix Try.func16 (show Try.f16.body = some r41_Bytes_code by kernel_rfl) (show Try.f16.ntmps = 97 by kernel_rfl) (show Try.f16.results.toList = r41_Bytes_rs by kernel_rfl) rfl h (r41_Bytes_obl o)
set_option maxRecDepth 100000 in
theorem r41_Bytes_in {p0 : TTx} {r0 : List Int} (h :
((U64 p0.Anchor ∧ 0 ≤ (8 : Int) ∧ (8 : Int) ≤ 8) ∧ (Us p0.Marks ∧ p0.Marks.length ≤ 4294967295) ∧ (dig (8 : Int).toNat p0.Anchor).length = (dig (8 : Int).toNat p0.Anchor).length ∧ ((dig (8 : Int).toNat p0.Anchor).length + (encL p0.Marks).length) * 1 ≤ 140737488355328 ∧ (dig (8 : Int).toNat p0.Anchor).length + (encL p0.Marks).length ≤ maxLen ∧ let v1 : List Int := (dig (8 : Int).toNat p0.Anchor) ++ (encL p0.Marks)
 v1.length = v1.length ∧ (v1.length + (dig 4 (len4 (p0.Outs.length : Int))).length) * 1 ≤ 140737488355328 ∧ v1.length + (dig 4 (len4 (p0.Outs.length : Int))).length ≤ maxLen ∧ let v2 : List Int := v1 ++ (dig 4 (len4 (p0.Outs.length : Int)))
(v2 = v2) ∧ Md.Loop ((0 : Int), p0.Anchor, p0.Marks, p0.Outs, p0.Deposit, p0.Withdraw, p0.Fee, p0.Account, p0.Nonce, p0.Expiry, p0.Proof, v2, ()) (r41_Bytes_L2 (r0, ())))) : r41_Bytes_Body (p0.Anchor, p0.Marks, p0.Outs, p0.Deposit, p0.Withdraw, p0.Fee, p0.Account, p0.Nonce, p0.Expiry, p0.Proof, ()) (r0, ()) := WPh.of_eq (by kernel_rfl) h
def r41_Bytes_B2 (r0 : List Int) (nx2 : HL TB.den r41_Bytes_T2.hs → Prop) (k2 : Int → List Int → Prop) (h0_0 : Int) (h0_1 : List Int) (h0_2 : List TOut) (h0_3 : Int) (h0_4 : Int) (h0_5 : Int) (h0_6 : Int) (h0_7 : Int) (h0_8 : Int) (h0_9 : List Int) (s4 : Int) (g1 : List Int) : Prop :=
(decide (s4 < (h0_2.length : Int)) = true →
(0 ≤ s4) ∧ s4 < (h0_2.length : Int) ∧ let v3 : List Int := [(ix h0_2 s4).Commit, (ix h0_2 s4).Point_a0, (ix h0_2 s4).Point_a1]
(g1 = g1) ∧ Md.Loop (s4, v3, (0 : Int), h0_0, h0_1, h0_2, h0_3, h0_4, h0_5, h0_6, h0_7, h0_8, h0_9, ((ix h0_2 s4).Commit : Int), ((ix h0_2 s4).Point_a0 : Int), ((ix h0_2 s4).Point_a1 : Int), ((ix h0_2 s4).Cipher : List Int), g1, ()) (r41_Bytes_L1 (r0, ()) nx2)) ∧
(decide (s4 < (h0_2.length : Int)) = false →
(g1 = g1) ∧ Md.Loop (([h0_3, h0_4, h0_5, h0_6, h0_7] : List Int), (0 : Int), h0_0, h0_1, h0_2, h0_3, h0_4, h0_5, h0_6, h0_7, h0_8, h0_9, g1, ()) (r41_Bytes_L3 (r0, ())))
set_option maxRecDepth 100000 in
theorem r41_Bytes_lp2 {r0 : List Int} {h0_0 : Int} {h0_1 : List Int} {h0_2 : List TOut} {h0_3 : Int} {h0_4 : Int} {h0_5 : Int} {h0_6 : Int} {h0_7 : Int} {h0_8 : Int} {h0_9 : List Int} {s4 : Int} {g1 : List Int} (inv : Int → List Int → Prop) (μ : Int → List Int → Nat) (h0 : inv s4 g1) (hs : ∀ (s4 : Int) (g1 : List Int), inv s4 g1 → r41_Bytes_B2 r0 (fun s : Int × Int × (List Int) × (List TOut) × Int × Int × Int × Int × Int × Int × (List Int) × (List Int) × Unit => ((s.2.1 = h0_0 ∧ s.2.2.1 = h0_1 ∧ s.2.2.2.1 = h0_2 ∧ s.2.2.2.2.1 = h0_3 ∧ s.2.2.2.2.2.1 = h0_4 ∧ s.2.2.2.2.2.2.1 = h0_5 ∧ s.2.2.2.2.2.2.2.1 = h0_6 ∧ s.2.2.2.2.2.2.2.2.1 = h0_7 ∧ s.2.2.2.2.2.2.2.2.2.1 = h0_8 ∧ s.2.2.2.2.2.2.2.2.2.2.1 = h0_9) ∧ inv s.1 s.2.2.2.2.2.2.2.2.2.2.2.1) ∧ μ s.1 s.2.2.2.2.2.2.2.2.2.2.2.1 < μ s4 g1) (fun s4q g1q => inv s4q g1q ∧ μ s4q g1q < μ s4 g1) h0_0 h0_1 h0_2 h0_3 h0_4 h0_5 h0_6 h0_7 h0_8 h0_9 s4 g1) : Md.Loop (s4, h0_0, h0_1, h0_2, h0_3, h0_4, h0_5, h0_6, h0_7, h0_8, h0_9, g1, ()) (r41_Bytes_L2 (r0, ())) :=
  ⟨⟨fun s : Int × Int × (List Int) × (List TOut) × Int × Int × Int × Int × Int × Int × (List Int) × (List Int) × Unit => (s.2.1 = h0_0 ∧ s.2.2.1 = h0_1 ∧ s.2.2.2.1 = h0_2 ∧ s.2.2.2.2.1 = h0_3 ∧ s.2.2.2.2.2.1 = h0_4 ∧ s.2.2.2.2.2.2.1 = h0_5 ∧ s.2.2.2.2.2.2.2.1 = h0_6 ∧ s.2.2.2.2.2.2.2.2.1 = h0_7 ∧ s.2.2.2.2.2.2.2.2.2.1 = h0_8 ∧ s.2.2.2.2.2.2.2.2.2.2.1 = h0_9) ∧ inv s.1 s.2.2.2.2.2.2.2.2.2.2.2.1, fun s : Int × Int × (List Int) × (List TOut) × Int × Int × Int × Int × Int × Int × (List Int) × (List Int) × Unit => μ s.1 s.2.2.2.2.2.2.2.2.2.2.2.1, ⟨⟨rfl, rfl, rfl, rfl, rfl, rfl, rfl, rfl, rfl, rfl⟩, h0⟩, fun (s4p, h0_0p, h0_1p, h0_2p, h0_3p, h0_4p, h0_5p, h0_6p, h0_7p, h0_8p, h0_9p, g1p, ()) ⟨⟨eq0, eq1, eq2, eq3, eq4, eq5, eq6, eq7, eq8, eq9⟩, hi⟩ => by
    have eq0 : h0_0p = h0_0 := eq0; subst h0_0p; have eq1 : h0_1p = h0_1 := eq1; subst h0_1p; have eq2 : h0_2p = h0_2 := eq2; subst h0_2p; have eq3 : h0_3p = h0_3 := eq3; subst h0_3p; have eq4 : h0_4p = h0_4 := eq4; subst h0_4p; have eq5 : h0_5p = h0_5 := eq5; subst h0_5p; have eq6 : h0_6p = h0_6 := eq6; subst h0_6p; have eq7 : h0_7p = h0_7 := eq7; subst h0_7p; have eq8 : h0_8p = h0_8 := eq8; subst h0_8p; have eq9 : h0_9p = h0_9 := eq9; subst h0_9p; exact mpr_of (by kernel_rfl) ((congrArg (fun k => r41_Bytes_B2 r0 (fun s : Int × Int × (List Int) × (List TOut) × Int × Int × Int × Int × Int × Int × (List Int) × (List Int) × Unit => ((s.2.1 = h0_0 ∧ s.2.2.1 = h0_1 ∧ s.2.2.2.1 = h0_2 ∧ s.2.2.2.2.1 = h0_3 ∧ s.2.2.2.2.2.1 = h0_4 ∧ s.2.2.2.2.2.2.1 = h0_5 ∧ s.2.2.2.2.2.2.2.1 = h0_6 ∧ s.2.2.2.2.2.2.2.2.1 = h0_7 ∧ s.2.2.2.2.2.2.2.2.2.1 = h0_8 ∧ s.2.2.2.2.2.2.2.2.2.2.1 = h0_9) ∧ inv s.1 s.2.2.2.2.2.2.2.2.2.2.2.1) ∧ μ s.1 s.2.2.2.2.2.2.2.2.2.2.2.1 < μ s4p g1p) k h0_0 h0_1 h0_2 h0_3 h0_4 h0_5 h0_6 h0_7 h0_8 h0_9 s4p g1p) (lpk2 (⟨rfl, rfl, rfl, rfl, rfl, rfl, rfl, rfl, rfl, rfl⟩ : h0_0 = h0_0 ∧ h0_1 = h0_1 ∧ h0_2 = h0_2 ∧ h0_3 = h0_3 ∧ h0_4 = h0_4 ∧ h0_5 = h0_5 ∧ h0_6 = h0_6 ∧ h0_7 = h0_7 ∧ h0_8 = h0_8 ∧ h0_9 = h0_9) inv (fun s4q g1q => μ s4q g1q < μ s4p g1p))).mpr (hs s4p g1p hi))⟩⟩
def r41_Bytes_B1 (r0 : List Int) (nx2 : HL TB.den r41_Bytes_T2.hs → Prop) (k1 : Int → List Int → Prop) (s4 : Int) (s6 : List Int) (h0_0 : Int) (h0_1 : List Int) (h0_2 : List TOut) (h0_3 : Int) (h0_4 : Int) (h0_5 : Int) (h0_6 : Int) (h0_7 : Int) (h0_8 : Int) (h0_9 : List Int) (h2_0 : Int) (h2_1 : Int) (h2_2 : Int) (h2_3 : List Int) (s7 : Int) (g1 : List Int) : Prop :=
(decide (s7 < (s6.length : Int)) = true →
(0 ≤ s7) ∧ s7 < (s6.length : Int) ∧ (U64 (ix s6 s7) ∧ 0 ≤ (8 : Int) ∧ (8 : Int) ≤ 8) ∧ g1.length = g1.length ∧ (g1.length + (dig (8 : Int).toNat (ix s6 s7)).length) * 1 ≤ 140737488355328 ∧ g1.length + (dig (8 : Int).toNat (ix s6 s7)).length ≤ maxLen ∧ (g1 ++ (dig (8 : Int).toNat (ix s6 s7)) = g1 ++ (dig (8 : Int).toNat (ix s6 s7))) ∧ k1 (IntKind.i64.wrap (s7 + 1) : Int) (g1 ++ (dig (8 : Int).toNat (ix s6 s7)) : List Int)) ∧
(decide (s7 < (s6.length : Int)) = false →
(Us h2_3 ∧ h2_3.length ≤ 4294967295) ∧ g1.length = g1.length ∧ (g1.length + (encL h2_3).length) * 1 ≤ 140737488355328 ∧ g1.length + (encL h2_3).length ≤ maxLen ∧ (g1 ++ (encL h2_3) = g1 ++ (encL h2_3)) ∧ nx2 ((IntKind.i64.wrap (s4 + 1) : Int), h0_0, h0_1, h0_2, h0_3, h0_4, h0_5, h0_6, h0_7, h0_8, h0_9, (g1 ++ (encL h2_3) : List Int), ()))
set_option maxRecDepth 100000 in
theorem r41_Bytes_lp1 {r0 : List Int} {nx2 : HL TB.den r41_Bytes_T2.hs → Prop} {s4 : Int} {s6 : List Int} {h0_0 : Int} {h0_1 : List Int} {h0_2 : List TOut} {h0_3 : Int} {h0_4 : Int} {h0_5 : Int} {h0_6 : Int} {h0_7 : Int} {h0_8 : Int} {h0_9 : List Int} {h2_0 : Int} {h2_1 : Int} {h2_2 : Int} {h2_3 : List Int} {s7 : Int} {g1 : List Int} (inv : Int → List Int → Prop) (μ : Int → List Int → Nat) (h0 : inv s7 g1) (hs : ∀ (s7 : Int) (g1 : List Int), inv s7 g1 → r41_Bytes_B1 r0 nx2 (fun s7q g1q => inv s7q g1q ∧ μ s7q g1q < μ s7 g1) s4 s6 h0_0 h0_1 h0_2 h0_3 h0_4 h0_5 h0_6 h0_7 h0_8 h0_9 h2_0 h2_1 h2_2 h2_3 s7 g1) : Md.Loop (s4, s6, s7, h0_0, h0_1, h0_2, h0_3, h0_4, h0_5, h0_6, h0_7, h0_8, h0_9, h2_0, h2_1, h2_2, h2_3, g1, ()) (r41_Bytes_L1 (r0, ()) nx2) :=
  ⟨⟨fun s : Int × (List Int) × Int × Int × (List Int) × (List TOut) × Int × Int × Int × Int × Int × Int × (List Int) × Int × Int × Int × (List Int) × (List Int) × Unit => (s.1 = s4 ∧ s.2.1 = s6 ∧ s.2.2.2.1 = h0_0 ∧ s.2.2.2.2.1 = h0_1 ∧ s.2.2.2.2.2.1 = h0_2 ∧ s.2.2.2.2.2.2.1 = h0_3 ∧ s.2.2.2.2.2.2.2.1 = h0_4 ∧ s.2.2.2.2.2.2.2.2.1 = h0_5 ∧ s.2.2.2.2.2.2.2.2.2.1 = h0_6 ∧ s.2.2.2.2.2.2.2.2.2.2.1 = h0_7 ∧ s.2.2.2.2.2.2.2.2.2.2.2.1 = h0_8 ∧ s.2.2.2.2.2.2.2.2.2.2.2.2.1 = h0_9 ∧ s.2.2.2.2.2.2.2.2.2.2.2.2.2.1 = h2_0 ∧ s.2.2.2.2.2.2.2.2.2.2.2.2.2.2.1 = h2_1 ∧ s.2.2.2.2.2.2.2.2.2.2.2.2.2.2.2.1 = h2_2 ∧ s.2.2.2.2.2.2.2.2.2.2.2.2.2.2.2.2.1 = h2_3) ∧ inv s.2.2.1 s.2.2.2.2.2.2.2.2.2.2.2.2.2.2.2.2.2.1, fun s : Int × (List Int) × Int × Int × (List Int) × (List TOut) × Int × Int × Int × Int × Int × Int × (List Int) × Int × Int × Int × (List Int) × (List Int) × Unit => μ s.2.2.1 s.2.2.2.2.2.2.2.2.2.2.2.2.2.2.2.2.2.1, ⟨⟨rfl, rfl, rfl, rfl, rfl, rfl, rfl, rfl, rfl, rfl, rfl, rfl, rfl, rfl, rfl, rfl⟩, h0⟩, fun (s4p, s6p, s7p, h0_0p, h0_1p, h0_2p, h0_3p, h0_4p, h0_5p, h0_6p, h0_7p, h0_8p, h0_9p, h2_0p, h2_1p, h2_2p, h2_3p, g1p, ()) ⟨⟨eq0, eq1, eq2, eq3, eq4, eq5, eq6, eq7, eq8, eq9, eq10, eq11, eq12, eq13, eq14, eq15⟩, hi⟩ => by
    have eq0 : s4p = s4 := eq0; subst s4p; have eq1 : s6p = s6 := eq1; subst s6p; have eq2 : h0_0p = h0_0 := eq2; subst h0_0p; have eq3 : h0_1p = h0_1 := eq3; subst h0_1p; have eq4 : h0_2p = h0_2 := eq4; subst h0_2p; have eq5 : h0_3p = h0_3 := eq5; subst h0_3p; have eq6 : h0_4p = h0_4 := eq6; subst h0_4p; have eq7 : h0_5p = h0_5 := eq7; subst h0_5p; have eq8 : h0_6p = h0_6 := eq8; subst h0_6p; have eq9 : h0_7p = h0_7 := eq9; subst h0_7p; have eq10 : h0_8p = h0_8 := eq10; subst h0_8p; have eq11 : h0_9p = h0_9 := eq11; subst h0_9p; have eq12 : h2_0p = h2_0 := eq12; subst h2_0p; have eq13 : h2_1p = h2_1 := eq13; subst h2_1p; have eq14 : h2_2p = h2_2 := eq14; subst h2_2p; have eq15 : h2_3p = h2_3 := eq15; subst h2_3p; exact mpr_of (by kernel_rfl) ((congrArg (fun k => r41_Bytes_B1 r0 nx2 k s4 s6 h0_0 h0_1 h0_2 h0_3 h0_4 h0_5 h0_6 h0_7 h0_8 h0_9 h2_0 h2_1 h2_2 h2_3 s7p g1p) (lpk2 (⟨rfl, rfl, rfl, rfl, rfl, rfl, rfl, rfl, rfl, rfl, rfl, rfl, rfl, rfl, rfl, rfl⟩ : s4 = s4 ∧ s6 = s6 ∧ h0_0 = h0_0 ∧ h0_1 = h0_1 ∧ h0_2 = h0_2 ∧ h0_3 = h0_3 ∧ h0_4 = h0_4 ∧ h0_5 = h0_5 ∧ h0_6 = h0_6 ∧ h0_7 = h0_7 ∧ h0_8 = h0_8 ∧ h0_9 = h0_9 ∧ h2_0 = h2_0 ∧ h2_1 = h2_1 ∧ h2_2 = h2_2 ∧ h2_3 = h2_3) inv (fun s7q g1q => μ s7q g1q < μ s7p g1p))).mpr (hs s7p g1p hi))⟩⟩
def r41_Bytes_B3 (r0 : List Int) (k3 : Int → List Int → Prop) (s8 : List Int) (h0_0 : Int) (h0_1 : List Int) (h0_2 : List TOut) (h0_3 : Int) (h0_4 : Int) (h0_5 : Int) (h0_6 : Int) (h0_7 : Int) (h0_8 : Int) (h0_9 : List Int) (s9 : Int) (g1 : List Int) : Prop :=
(decide (s9 < (s8.length : Int)) = true →
(0 ≤ s9) ∧ s9 < (s8.length : Int) ∧ (U64 (ix s8 s9) ∧ 0 ≤ (8 : Int) ∧ (8 : Int) ≤ 8) ∧ g1.length = g1.length ∧ (g1.length + (dig (8 : Int).toNat (ix s8 s9)).length) * 1 ≤ 140737488355328 ∧ g1.length + (dig (8 : Int).toNat (ix s8 s9)).length ≤ maxLen ∧ (g1 ++ (dig (8 : Int).toNat (ix s8 s9)) = g1 ++ (dig (8 : Int).toNat (ix s8 s9))) ∧ k3 (IntKind.i64.wrap (s9 + 1) : Int) (g1 ++ (dig (8 : Int).toNat (ix s8 s9)) : List Int)) ∧
(decide (s9 < (s8.length : Int)) = false →
 g1.length = g1.length ∧ (g1.length + (dig 4 (len4 h0_8)).length) * 1 ≤ 140737488355328 ∧ g1.length + (dig 4 (len4 h0_8)).length ≤ maxLen ∧ (h0_9.length ≤ 4294967295) ∧ (g1 ++ (dig 4 (len4 h0_8))).length = (g1 ++ (dig 4 (len4 h0_8))).length ∧ ((g1 ++ (dig 4 (len4 h0_8))).length + (encB h0_9).length) * 1 ≤ 140737488355328 ∧ (g1 ++ (dig 4 (len4 h0_8))).length + (encB h0_9).length ≤ maxLen ∧ let v4 : List Int := (g1 ++ (dig 4 (len4 h0_8))) ++ (encB h0_9)
 v4 = r0)
set_option maxRecDepth 100000 in
theorem r41_Bytes_lp3 {r0 : List Int} {s8 : List Int} {h0_0 : Int} {h0_1 : List Int} {h0_2 : List TOut} {h0_3 : Int} {h0_4 : Int} {h0_5 : Int} {h0_6 : Int} {h0_7 : Int} {h0_8 : Int} {h0_9 : List Int} {s9 : Int} {g1 : List Int} (inv : Int → List Int → Prop) (μ : Int → List Int → Nat) (h0 : inv s9 g1) (hs : ∀ (s9 : Int) (g1 : List Int), inv s9 g1 → r41_Bytes_B3 r0 (fun s9q g1q => inv s9q g1q ∧ μ s9q g1q < μ s9 g1) s8 h0_0 h0_1 h0_2 h0_3 h0_4 h0_5 h0_6 h0_7 h0_8 h0_9 s9 g1) : Md.Loop (s8, s9, h0_0, h0_1, h0_2, h0_3, h0_4, h0_5, h0_6, h0_7, h0_8, h0_9, g1, ()) (r41_Bytes_L3 (r0, ())) :=
  ⟨⟨fun s : (List Int) × Int × Int × (List Int) × (List TOut) × Int × Int × Int × Int × Int × Int × (List Int) × (List Int) × Unit => (s.1 = s8 ∧ s.2.2.1 = h0_0 ∧ s.2.2.2.1 = h0_1 ∧ s.2.2.2.2.1 = h0_2 ∧ s.2.2.2.2.2.1 = h0_3 ∧ s.2.2.2.2.2.2.1 = h0_4 ∧ s.2.2.2.2.2.2.2.1 = h0_5 ∧ s.2.2.2.2.2.2.2.2.1 = h0_6 ∧ s.2.2.2.2.2.2.2.2.2.1 = h0_7 ∧ s.2.2.2.2.2.2.2.2.2.2.1 = h0_8 ∧ s.2.2.2.2.2.2.2.2.2.2.2.1 = h0_9) ∧ inv s.2.1 s.2.2.2.2.2.2.2.2.2.2.2.2.1, fun s : (List Int) × Int × Int × (List Int) × (List TOut) × Int × Int × Int × Int × Int × Int × (List Int) × (List Int) × Unit => μ s.2.1 s.2.2.2.2.2.2.2.2.2.2.2.2.1, ⟨⟨rfl, rfl, rfl, rfl, rfl, rfl, rfl, rfl, rfl, rfl, rfl⟩, h0⟩, fun (s8p, s9p, h0_0p, h0_1p, h0_2p, h0_3p, h0_4p, h0_5p, h0_6p, h0_7p, h0_8p, h0_9p, g1p, ()) ⟨⟨eq0, eq1, eq2, eq3, eq4, eq5, eq6, eq7, eq8, eq9, eq10⟩, hi⟩ => by
    have eq0 : s8p = s8 := eq0; subst s8p; have eq1 : h0_0p = h0_0 := eq1; subst h0_0p; have eq2 : h0_1p = h0_1 := eq2; subst h0_1p; have eq3 : h0_2p = h0_2 := eq3; subst h0_2p; have eq4 : h0_3p = h0_3 := eq4; subst h0_3p; have eq5 : h0_4p = h0_4 := eq5; subst h0_4p; have eq6 : h0_5p = h0_5 := eq6; subst h0_5p; have eq7 : h0_6p = h0_6 := eq7; subst h0_6p; have eq8 : h0_7p = h0_7 := eq8; subst h0_7p; have eq9 : h0_8p = h0_8 := eq9; subst h0_8p; have eq10 : h0_9p = h0_9 := eq10; subst h0_9p; exact mpr_of (by kernel_rfl) ((congrArg (fun k => r41_Bytes_B3 r0 k s8 h0_0 h0_1 h0_2 h0_3 h0_4 h0_5 h0_6 h0_7 h0_8 h0_9 s9p g1p) (lpk2 (⟨rfl, rfl, rfl, rfl, rfl, rfl, rfl, rfl, rfl, rfl, rfl⟩ : s8 = s8 ∧ h0_0 = h0_0 ∧ h0_1 = h0_1 ∧ h0_2 = h0_2 ∧ h0_3 = h0_3 ∧ h0_4 = h0_4 ∧ h0_5 = h0_5 ∧ h0_6 = h0_6 ∧ h0_7 = h0_7 ∧ h0_8 = h0_8 ∧ h0_9 = h0_9) inv (fun s9q g1q => μ s9q g1q < μ s9p g1p))).mpr (hs s9p g1p hi))⟩⟩
theorem bd16 : Callable Try.prog 16 := ⟨by rw [Try.func16]; kernel_rfl, by rw [Try.func16]; show some _ ≠ some _; decide⟩
theorem r41_Bytes_body (p0 : TTx) (h : TR p0 ∧ TL p0 ∧ p0.Outs.length ≤ 1048576 ∧ (∀ x ∈ p0.Outs, x.Cipher.length ≤ 1024)) : r41_Bytes_Body (p0.Anchor, p0.Marks, p0.Outs, p0.Deposit, p0.Withdraw, p0.Fee, p0.Account, p0.Nonce, p0.Expiry, p0.Proof, ()) ((encT p0 p0.Proof : List Int), ()) := by
  obtain ⟨hr, hl, ho, hc⟩ := h
  have hm := hl.m
  have hpl := hl.p
  refine r41_Bytes_in ⟨⟨hr.a, by omega⟩, ⟨hr.m, hm⟩, rfl, ?_, ?_, rfl, ?_, ?_, rfl, ?_⟩
  · simp; omega
  · simp; unfold maxLen; omega
  · simp; omega
  · simp; unfold maxLen; omega
  have hb := fun i : Int => encOs_length (p0.Outs.take i.toNat) 1024 (fun x hx => hc x (List.mem_of_mem_take hx))
  have hb : ∀ i : Int, ((p0.Outs.take i.toNat).flatMap encO).length ≤ 8700000000 := by
    intro i
    have := hb i
    rw [List.length_take] at this
    refine Nat.le_trans this ?_
    have : min i.toNat p0.Outs.length ≤ 1048576 := by omega
    have := Nat.mul_le_mul_left (28 + 8 * 1024) this
    omega
  have hpre : (dig 8 p0.Anchor ++ encL p0.Marks ++ dig 4 (len4 p0.Outs.length)).length ≤ 40000000000 := by simp; omega
  generalize hP : dig 8 p0.Anchor ++ encL p0.Marks ++ dig 4 (len4 p0.Outs.length) = P at *
  refine r41_Bytes_lp2 (fun i g => 0 ≤ i ∧ i ≤ p0.Outs.length ∧ g = P ++ (p0.Outs.take i.toNat).flatMap encO) (fun i _ => (p0.Outs.length - i).toNat) ⟨by omega, by omega, by rw [← hP]; simp⟩ ?_
  rintro i g ⟨g0, g1, rfl⟩
  have hbi := hb i
  generalize hB : P ++ (p0.Outs.take i.toNat).flatMap encO = B at *
  have hBl : B.length ≤ 50000000000 := by rw [← hB, List.length_append]; omega
  refine ⟨fun h => ?_, fun h => ?_⟩
  · have h := of_decide_eq_true h
    have hx := hr.o _ (ix_mem p0.Outs i g0 h)
    have hxc := hc _ (ix_mem p0.Outs i g0 h)
    refine ⟨g0, h, rfl, ?_⟩
    refine r41_Bytes_lp1 (fun k g => 0 ≤ k ∧ k ≤ 3 ∧ g = B ++ ([(ix p0.Outs i).Commit, (ix p0.Outs i).Point_a0, (ix p0.Outs i).Point_a1].take k.toNat).flatMap (dig 8)) (fun k _ => (3 - k).toNat) ⟨by omega, by omega, by simp⟩ ?_
    rintro k g ⟨k0, k1, rfl⟩
    have hul : Us [(ix p0.Outs i).Commit, (ix p0.Outs i).Point_a0, (ix p0.Outs i).Point_a1] := by
      intro x hx'
      simp only [List.mem_cons, List.not_mem_nil, or_false] at hx'
      rcases hx' with rfl | rfl | rfl
      · exact hx.c
      · exact hx.p0
      · exact hx.p1
    have hll : ([(ix p0.Outs i).Commit, (ix p0.Outs i).Point_a0, (ix p0.Outs i).Point_a1].length : Int) = 3 := rfl
    generalize hLd : [(ix p0.Outs i).Commit, (ix p0.Outs i).Point_a0, (ix p0.Outs i).Point_a1] = Lc at *
    have hgl : (B ++ (Lc.take k.toNat).flatMap (dig 8)).length ≤ 50000000024 := by simp only [List.length_append, flat8_length, List.length_take]; omega
    refine ⟨fun hk => ?_, fun hk => ?_⟩
    · have hk := of_decide_eq_true hk
      rw [inc k 3 k0 (by omega) (by omega)]
      refine ⟨k0, hk, ⟨hul _ (ix_mem Lc k k0 hk), by omega⟩, rfl, ?_, ?_, rfl, ⟨by omega, by omega, ?_⟩, by omega⟩
      · rw [dig_length]; omega
      · rw [dig_length]; unfold maxLen; omega
      · rw [take_succ_ix Lc k k0 hk, List.flatMap_append, List.append_assoc]
        simp
    · have hk := of_decide_eq_false hk
      rw [List.take_of_length_le (by omega)] at hgl ⊢
      have hi := inc i p0.Outs.length g0 h (by omega)
      rw [hi]
      have nxt : (0 ≤ i + 1 ∧ i + 1 ≤ p0.Outs.length ∧ B ++ Lc.flatMap (dig 8) ++ encL (ix p0.Outs i).Cipher = P ++ (p0.Outs.take (i + 1).toNat).flatMap encO) ∧ (p0.Outs.length - (i + 1)).toNat < (p0.Outs.length - i).toNat := by
        refine ⟨⟨by omega, by omega, ?_⟩, by omega⟩
        rw [take_succ_ix p0.Outs i g0 h, List.flatMap_append, ← List.append_assoc, hB, ← hLd]
        simp [encO, List.append_assoc]
      refine ⟨⟨hx.ci, by omega⟩, rfl, ?_, ?_, rfl, ⟨⟨rfl, rfl, rfl, rfl, rfl, rfl, rfl, rfl, rfl, rfl⟩, nxt.1⟩, nxt.2⟩
      · rw [encL_length]; omega
      · rw [encL_length]; unfold maxLen; omega
  · have h := of_decide_eq_false h
    refine ⟨rfl, ?_⟩
    have hul : Us [p0.Deposit, p0.Withdraw, p0.Fee, p0.Account, p0.Nonce] := by
      intro x hx'
      simp only [List.mem_cons, List.not_mem_nil, or_false] at hx'
      rcases hx' with rfl | rfl | rfl | rfl | rfl
      · exact hr.d
      · exact hr.w
      · exact hr.f
      · exact hr.ac
      · exact hr.n
    have hll : ([p0.Deposit, p0.Withdraw, p0.Fee, p0.Account, p0.Nonce].length : Int) = 5 := rfl
    refine r41_Bytes_lp3 (fun k g => 0 ≤ k ∧ k ≤ 5 ∧ g = B ++ ([p0.Deposit, p0.Withdraw, p0.Fee, p0.Account, p0.Nonce].take k.toNat).flatMap (dig 8)) (fun k _ => (5 - k).toNat) ⟨by omega, by omega, by simp⟩ ?_
    rintro k g ⟨k0, k1, rfl⟩
    generalize hLd : [p0.Deposit, p0.Withdraw, p0.Fee, p0.Account, p0.Nonce] = Lc at *
    have hgl : (B ++ (Lc.take k.toNat).flatMap (dig 8)).length ≤ 50000000040 := by simp only [List.length_append, flat8_length, List.length_take]; omega
    refine ⟨fun hk => ?_, fun hk => ?_⟩
    · have hk := of_decide_eq_true hk
      rw [inc k 5 k0 (by omega) (by omega)]
      refine ⟨k0, hk, ⟨hul _ (ix_mem Lc k k0 hk), by omega⟩, rfl, ?_, ?_, rfl, ⟨by omega, by omega, ?_⟩, by omega⟩
      · rw [dig_length]; omega
      · rw [dig_length]; unfold maxLen; omega
      · rw [take_succ_ix Lc k k0 hk, List.flatMap_append, List.append_assoc]
        simp
    · have hk := of_decide_eq_false hk
      rw [List.take_of_length_le (by omega)] at hgl ⊢
      refine ⟨rfl, ?_, ?_, hpl, by trivial, ?_, ?_, ?_⟩
      · rw [dig_length]; omega
      · rw [dig_length]; unfold maxLen; omega
      · rw [List.length_append, dig_length, encB_length]; omega
      · rw [List.length_append, dig_length, encB_length]; unfold maxLen; omega
      · rw [← hB, ← hLd, ← hP, List.take_of_length_le (by omega)]
        simp [encT, List.append_assoc]
noncomputable def r41_Bytes_con : Con TB.den := r41_Bytes_sh.fnR (fun x => (fun (p0 : TTx) => TR p0 ∧ TL p0 ∧ p0.Outs.length ≤ 1048576 ∧ (∀ x ∈ p0.Outs, x.Cipher.length ≤ 1024)) (TTx.mk x.1 x.2.1 x.2.2.1 x.2.2.2.1 x.2.2.2.2.1 x.2.2.2.2.2.1 x.2.2.2.2.2.2.1 x.2.2.2.2.2.2.2.1 x.2.2.2.2.2.2.2.2.1 x.2.2.2.2.2.2.2.2.2.1)) fun x => ((fun (p0 : TTx) => (encT p0 p0.Proof : List Int)) (TTx.mk x.1 x.2.1 x.2.2.1 x.2.2.2.1 x.2.2.2.2.1 x.2.2.2.2.2.1 x.2.2.2.2.2.2.1 x.2.2.2.2.2.2.2.1 x.2.2.2.2.2.2.2.2.1 x.2.2.2.2.2.2.2.2.2.1), ())
theorem r41_Bytes_ok : r41_Bytes_con.Ok Try.prog TB := Con.ok_fn r41_Bytes_sh bd16 fun x h => r41_Bytes_snd (r41_Bytes_body (TTx.mk x.1 x.2.1 x.2.2.1 x.2.2.2.1 x.2.2.2.2.1 x.2.2.2.2.2.1 x.2.2.2.2.2.2.1 x.2.2.2.2.2.2.2.1 x.2.2.2.2.2.2.2.2.1 x.2.2.2.2.2.2.2.2.2.1) h)
end Go.Proofs.Ytnmakgfmimagmaa
namespace Go.Proofs.Ytnmakgfmimagmaa
open Go Go.Bv Go.Cv Go.Md Go.RowKit
def r41_SameBytes_sh : Con TB.den := Con.mk0 66 [.one (.d (.sl (.int .u8))), .one (.d (.sl (.int .u8)))] [] (.one (.one (.d (.bool)))) []
abbrev r41_SameBytes_I := HL TB.den (hsT r41_SameBytes_sh.ins (hsOs r41_SameBytes_sh.pre))
abbrev r41_SameBytes_O := HL TB.den (hsV r41_SameBytes_sh.res (hsOs r41_SameBytes_sh.post))
noncomputable def r41_SameBytes_cx : Cx TB := ⟨inf, [], [], 4⟩
noncomputable def r41_SameBytes_code : Code := Try.f66.body.getD .skip
noncomputable def r41_SameBytes_rs : List ResultVar := Try.f66.results.toList
noncomputable def r41_SameBytes_Q1 (o : r41_SameBytes_O) : Exit → TSt TB.den → Prop := thenT TB (fun s => ghs TB [] s fun s => WP TB r41_SameBytes_cx 26 0 (cB (cB (cB r41_SameBytes_code))) .no s (retTQ TB r41_SameBytes_cx r41_SameBytes_sh r41_SameBytes_rs o)) (retTQ TB r41_SameBytes_cx r41_SameBytes_sh r41_SameBytes_rs o)
def r41_SameBytes_T1 : Tm := ⟨[], [], [0, 1, 5], [.one (.d (.sl (.int .u8))), .one (.d (.sl (.int .u8))), .one (.d (.int .i64))], 0⟩
noncomputable def r41_SameBytes_Q2 (o : r41_SameBytes_O) (nx1 : HL TB.den r41_SameBytes_T1.hs → Prop) : Exit → TSt TB.den → Prop := thenT TB (fun s => r41_SameBytes_T1.mat TB 0 s nx1) (blockT TB 0 (r41_SameBytes_Q1 o))
noncomputable def r41_SameBytes_L1 (o : r41_SameBytes_O) (nx1 : HL TB.den r41_SameBytes_T1.hs → Prop) (i : HL TB.den r41_SameBytes_T1.hs) : Prop := WP TB r41_SameBytes_cx 26 0 (cA (cA (cB (cA (cB (cB r41_SameBytes_code)))))) .no (r41_SameBytes_T1.fill TB i) (r41_SameBytes_Q2 o nx1)
noncomputable def r41_SameBytes_A5 (o : r41_SameBytes_O) : An TB := .nd [] .no [] (.lp [] r41_SameBytes_T1 (r41_SameBytes_L1 o) fun nx1 => .no)
noncomputable def r41_SameBytes_an (o : r41_SameBytes_O) : An TB := .nd [] .no [] (.nd [] .no [] (.nd [] (r41_SameBytes_A5 o) [] .no))
noncomputable def r41_SameBytes_Body (x : r41_SameBytes_I) (o : r41_SameBytes_O) : Prop := WPh TB r41_SameBytes_cx 26 0 r41_SameBytes_code (r41_SameBytes_an o) (r41_SameBytes_sh.st TB x) (retTQ TB r41_SameBytes_cx r41_SameBytes_sh r41_SameBytes_rs o)
set_option maxRecDepth 100000 in
theorem r41_SameBytes_obl (o : r41_SameBytes_O) : OblH TB r41_SameBytes_cx 26 0 r41_SameBytes_code (r41_SameBytes_an o) (retTQ TB r41_SameBytes_cx r41_SameBytes_sh r41_SameBytes_rs o) :=
  OblH.of_eq (X := (True ∧ ((True ∧ ((True ∧ True) ∧ True)) ∧ ((True ∧ ((∀ nx i, (r41_SameBytes_L1 o) nx i = (r41_SameBytes_L1 o) nx i) ∧ ∀ nx1 : HL TB.den r41_SameBytes_T1.hs → Prop, ((True ∧ (True ∧ True)) ∧ ((True ∧ ((True ∧ True) ∧ True)) ∧ True)))) ∧ (True ∧ True))))) (by kernel_rfl) ⟨trivial, ⟨⟨trivial, ⟨⟨trivial, trivial⟩, trivial⟩⟩, ⟨⟨trivial, ⟨fun _ _ => rfl, fun _ => ⟨⟨trivial, ⟨trivial, trivial⟩⟩, ⟨⟨trivial, ⟨⟨trivial, trivial⟩, trivial⟩⟩, trivial⟩⟩⟩⟩, ⟨trivial, trivial⟩⟩⟩⟩
set_option maxRecDepth 100000 in
theorem r41_SameBytes_snd {x : r41_SameBytes_I} {o : r41_SameBytes_O} (h : r41_SameBytes_Body x o) : SoundH Try.prog r41_SameBytes_sh.f ((r41_SameBytes_sh.args idf x).map (er TB)) ((r41_SameBytes_sh.obs idf x).map (erO TB)) (er TB (r41_SameBytes_sh.val idf o)) ((r41_SameBytes_sh.ops idf o).map (erO TB)) :=
  Con.soundH (c := r41_SameBytes_sh) (C := r41_SameBytes_cx) TBok ⟨inf_ok, all_nil, all_nil⟩ mix Try.func66 (show Try.f66.body = some r41_SameBytes_code by kernel_rfl) (show Try.f66.ntmps = 26 by kernel_rfl) (show Try.f66.results.toList = r41_SameBytes_rs by kernel_rfl) rfl h (r41_SameBytes_obl o)
set_option maxRecDepth 100000 in
theorem r41_SameBytes_in {p0 : List Int} {p1 : List Int} {r0 : Bool} (h :
((((p0.length : Int) != (p1.length : Int)) = true →
 false = r0) ∧
(((p0.length : Int) != (p1.length : Int)) = false →
 Md.Loop (p0, p1, (0 : Int), ()) (r41_SameBytes_L1 (r0, ()))))) : r41_SameBytes_Body (p0, p1, ()) (r0, ()) := WPh.of_eq (by kernel_rfl) h
def r41_SameBytes_B1 (r0 : Bool) (k1 : Int → Prop) (s0 : List Int) (s1 : List Int) (s5 : Int) : Prop :=
(decide (s5 < (s0.length : Int)) = true →
(0 ≤ s5) ∧ s5 < (s0.length : Int) ∧ (0 ≤ s5) ∧ s5 < (s1.length : Int) ∧ (((ix s0 s5) != (ix s1 s5)) = true →
 false = r0) ∧
(((ix s0 s5) != (ix s1 s5)) = false →
 k1 (IntKind.i64.wrap (s5 + 1) : Int))) ∧
(decide (s5 < (s0.length : Int)) = false →
 true = r0)
set_option maxRecDepth 100000 in
theorem r41_SameBytes_lp1 {r0 : Bool} {s0 : List Int} {s1 : List Int} {s5 : Int} (inv : Int → Prop) (μ : Int → Nat) (h0 : inv s5) (hs : ∀ (s5 : Int), inv s5 → r41_SameBytes_B1 r0 (fun s5q => inv s5q ∧ μ s5q < μ s5) s0 s1 s5) : Md.Loop (s0, s1, s5, ()) (r41_SameBytes_L1 (r0, ())) :=
  ⟨⟨fun s : (List Int) × (List Int) × Int × Unit => (s.1 = s0 ∧ s.2.1 = s1) ∧ inv s.2.2.1, fun s : (List Int) × (List Int) × Int × Unit => μ s.2.2.1, ⟨⟨rfl, rfl⟩, h0⟩, fun (s0p, s1p, s5p, ()) ⟨⟨eq0, eq1⟩, hi⟩ => by
    have eq0 : s0p = s0 := eq0; subst s0p; have eq1 : s1p = s1 := eq1; subst s1p; exact mpr_of (by kernel_rfl) ((congrArg (fun k => r41_SameBytes_B1 r0 k s0 s1 s5p) (lpk1 (⟨rfl, rfl⟩ : s0 = s0 ∧ s1 = s1) inv (fun s5q => μ s5q < μ s5p))).mpr (hs s5p hi))⟩⟩
theorem bd66 : Callable Try.prog 66 := ⟨by rw [Try.func66]; kernel_rfl, by rw [Try.func66]; show some _ ≠ some _; decide⟩
theorem r41_SameBytes_body (p0 : List Int) (p1 : List Int) (h : p0.length ≤ 9223372036854775807) : r41_SameBytes_Body (p0, p1, ()) ((decide (p0 = p1) : Bool), ()) := by
  refine r41_SameBytes_in ⟨fun e => ?_, fun e => ?_⟩
  · have e : ¬ (p0.length : Int) = p1.length := by simpa using e
    rw [decide_eq_false (by rintro rfl; exact e rfl)]
  · have e : (p0.length : Int) = p1.length := by simpa using e
    refine r41_SameBytes_lp1 (fun i => 0 ≤ i ∧ i ≤ p0.length ∧ p0.take i.toNat = p1.take i.toNat) (fun i => (p0.length - i).toNat) ⟨by omega, by omega, by simp⟩ ?_
    rintro i ⟨g0, g1, g2⟩
    refine ⟨fun hh => ?_, fun hh => ?_⟩
    · have hh := of_decide_eq_true hh
      refine ⟨g0, hh, g0, by omega, fun e2 => ?_, fun e2 => ?_⟩
      · have e2 : ¬ ix p0 i = ix p1 i := by simpa using e2
        rw [decide_eq_false (by rintro rfl; exact e2 rfl)]
      · have e2 : ix p0 i = ix p1 i := by simpa using e2
        rw [inc i p0.length g0 hh (by omega)]
        refine ⟨⟨by omega, by omega, ?_⟩, by omega⟩
        rw [take_succ_ix p0 i g0 hh, take_succ_ix p1 i g0 (by omega), g2, e2]
    · have hh := of_decide_eq_false hh
      rw [List.take_of_length_le (by omega), List.take_of_length_le (by omega)] at g2
      rw [decide_eq_true g2]
noncomputable def r41_SameBytes_con : Con TB.den := r41_SameBytes_sh.fnR (fun x => (fun (p0 : List Int) (p1 : List Int) => p0.length ≤ 9223372036854775807) x.1 x.2.1) fun x => ((fun (p0 : List Int) (p1 : List Int) => (decide (p0 = p1) : Bool)) x.1 x.2.1, ())
theorem r41_SameBytes_ok : r41_SameBytes_con.Ok Try.prog TB := Con.ok_fn r41_SameBytes_sh bd66 fun x h => r41_SameBytes_snd (r41_SameBytes_body x.1 x.2.1 h)
end Go.Proofs.Ytnmakgfmimagmaa
namespace Go.Proofs.Ytnmakgfmimagmaa
open Go Go.Bv Go.Cv Go.Md Go.RowKit
def r41_Same_sh : Con TB.den := Con.mk0 40 [.agg [.d (.int .u64), .d (.sl (.int .u64)), .d (.sl (.st 0)), .d (.int .u64), .d (.int .u64), .d (.int .u64), .d (.int .u64), .d (.int .u64), .d (.int .i64), .d (.sl (.int .u8))], .agg [.d (.int .u64), .d (.sl (.int .u64)), .d (.sl (.st 0)), .d (.int .u64), .d (.int .u64), .d (.int .u64), .d (.int .u64), .d (.int .u64), .d (.int .i64), .d (.sl (.int .u8))]] [] (.one (.one (.d (.bool)))) []
abbrev r41_Same_I := HL TB.den (hsT r41_Same_sh.ins (hsOs r41_Same_sh.pre))
abbrev r41_Same_O := HL TB.den (hsV r41_Same_sh.res (hsOs r41_Same_sh.post))
noncomputable def r41_Same_cx : Cx TB := ⟨inf, [r41_Bytes_con, r41_SameBytes_con], [], 4⟩
noncomputable def r41_Same_code : Code := Try.f40.body.getD .skip
noncomputable def r41_Same_rs : List ResultVar := Try.f40.results.toList
noncomputable def r41_Same_Q1 (o : r41_Same_O) : Exit → TSt TB.den → Prop := thenT TB (fun s => ghs TB [] s fun s => WP TB r41_Same_cx 47 0 (cB (cB (cB r41_Same_code))) .no s (retTQ TB r41_Same_cx r41_Same_sh r41_Same_rs o)) (retTQ TB r41_Same_cx r41_Same_sh r41_Same_rs o)
def r41_Same_T1 : Tm := ⟨[0, 1], [.cells [.d (.int .u64), .d (.sl (.int .u64)), .d (.sl (.st 0)), .d (.int .u64), .d (.int .u64), .d (.int .u64), .d (.int .u64), .d (.int .u64), .d (.int .i64), .d (.sl (.int .u8))], .cells [.d (.int .u64), .d (.sl (.int .u64)), .d (.sl (.st 0)), .d (.int .u64), .d (.int .u64), .d (.int .u64), .d (.int .u64), .d (.int .u64), .d (.int .i64), .d (.sl (.int .u8))]], [2, 3, 5], [.one (.ptr 0 0), .one (.ptr 1 0), .one (.d (.int .i64))], 2⟩
noncomputable def r41_Same_Q2 (o : r41_Same_O) (nx1 : HL TB.den r41_Same_T1.hs → Prop) : Exit → TSt TB.den → Prop := thenT TB (fun s => r41_Same_T1.mat TB 0 s nx1) (blockT TB 0 (r41_Same_Q1 o))
noncomputable def r41_Same_L1 (o : r41_Same_O) (nx1 : HL TB.den r41_Same_T1.hs → Prop) (i : HL TB.den r41_Same_T1.hs) : Prop := WP TB r41_Same_cx 47 0 (cA (cA (cB (cA (cB (cB r41_Same_code)))))) .no (r41_Same_T1.fill TB i) (r41_Same_Q2 o nx1)
noncomputable def r41_Same_A5 (o : r41_Same_O) : An TB := .nd [] .no [] (.lp [] r41_Same_T1 (r41_Same_L1 o) fun nx1 => .no)
noncomputable def r41_Same_an (o : r41_Same_O) : An TB := .nd [] .no [] (.nd [] .no [] (.nd [] (r41_Same_A5 o) [] .no))
noncomputable def r41_Same_Body (x : r41_Same_I) (o : r41_Same_O) : Prop := WPh TB r41_Same_cx 47 0 r41_Same_code (r41_Same_an o) (r41_Same_sh.st TB x) (retTQ TB r41_Same_cx r41_Same_sh r41_Same_rs o)
set_option maxRecDepth 100000 in
theorem r41_Same_obl (o : r41_Same_O) : OblH TB r41_Same_cx 47 0 r41_Same_code (r41_Same_an o) (retTQ TB r41_Same_cx r41_Same_sh r41_Same_rs o) :=
  OblH.of_eq (X := (True ∧ ((True ∧ ((True ∧ True) ∧ True)) ∧ ((True ∧ ((∀ nx i, (r41_Same_L1 o) nx i = (r41_Same_L1 o) nx i) ∧ ∀ nx1 : HL TB.den r41_Same_T1.hs → Prop, ((True ∧ (True ∧ True)) ∧ ((True ∧ ((True ∧ True) ∧ True)) ∧ True)))) ∧ (True ∧ True))))) (by kernel_rfl) ⟨trivial, ⟨⟨trivial, ⟨⟨trivial, trivial⟩, trivial⟩⟩, ⟨⟨trivial, ⟨fun _ _ => rfl, fun _ => ⟨⟨trivial, ⟨trivial, trivial⟩⟩, ⟨⟨trivial, ⟨⟨trivial, trivial⟩, trivial⟩⟩, trivial⟩⟩⟩⟩, ⟨trivial, trivial⟩⟩⟩⟩
set_option maxRecDepth 100000 in
theorem r41_Same_snd {x : r41_Same_I} {o : r41_Same_O} (h : r41_Same_Body x o) : SoundH Try.prog r41_Same_sh.f ((r41_Same_sh.args idf x).map (er TB)) ((r41_Same_sh.obs idf x).map (erO TB)) (er TB (r41_Same_sh.val idf o)) ((r41_Same_sh.ops idf o).map (erO TB)) :=
  Con.soundH (c := r41_Same_sh) (C := r41_Same_cx) TBok ⟨inf_ok, (all_cons r41_Bytes_ok (all_cons r41_SameBytes_ok all_nil)), all_nil⟩ mix Try.func40 (show Try.f40.body = some r41_Same_code by kernel_rfl) (show Try.f40.ntmps = 47 by kernel_rfl) (show Try.f40.results.toList = r41_Same_rs by kernel_rfl) rfl h (r41_Same_obl o)
set_option maxRecDepth 100000 in
theorem r41_Same_in {p0 : TTx} {p1 : TTx} {r0 : Bool} (h :
(let v1 : Bool := ((p0.Outs.length : Int) != (p1.Outs.length : Int))
(v1 = true →
 false = r0) ∧
(v1 = false →
((p0.Expiry != p1.Expiry) = true →
 false = r0) ∧
((p0.Expiry != p1.Expiry) = false →
 Md.Loop ((0 : Int), p0.Anchor, p0.Marks, p0.Outs, p0.Deposit, p0.Withdraw, p0.Fee, p0.Account, p0.Nonce, p0.Expiry, p0.Proof, p1.Anchor, p1.Marks, p1.Outs, p1.Deposit, p1.Withdraw, p1.Fee, p1.Account, p1.Nonce, p1.Expiry, p1.Proof, ()) (r41_Same_L1 (r0, ())))))) : r41_Same_Body (p0.Anchor, p0.Marks, p0.Outs, p0.Deposit, p0.Withdraw, p0.Fee, p0.Account, p0.Nonce, p0.Expiry, p0.Proof, p1.Anchor, p1.Marks, p1.Outs, p1.Deposit, p1.Withdraw, p1.Fee, p1.Account, p1.Nonce, p1.Expiry, p1.Proof, ()) (r0, ()) := WPh.of_eq (by kernel_rfl) h
def r41_Same_B1 (r0 : Bool) (k1 : Int → Prop) (h0_0 : Int) (h0_1 : List Int) (h0_2 : List TOut) (h0_3 : Int) (h0_4 : Int) (h0_5 : Int) (h0_6 : Int) (h0_7 : Int) (h0_8 : Int) (h0_9 : List Int) (h1_0 : Int) (h1_1 : List Int) (h1_2 : List TOut) (h1_3 : Int) (h1_4 : Int) (h1_5 : Int) (h1_6 : Int) (h1_7 : Int) (h1_8 : Int) (h1_9 : List Int) (s5 : Int) : Prop :=
(decide (s5 < (h0_2.length : Int)) = true →
(0 ≤ s5) ∧ s5 < (h0_2.length : Int) ∧ (0 ≤ s5) ∧ s5 < (h1_2.length : Int) ∧ let v2 : Bool := ((((ix h0_2 s5).Cipher).length : Int) != (((ix h1_2 s5).Cipher).length : Int))
(v2 = true →
 false = r0) ∧
(v2 = false →
 k1 (IntKind.i64.wrap (s5 + 1) : Int))) ∧
(decide (s5 < (h0_2.length : Int)) = false →
(TR (TTx.mk h0_0 h0_1 h0_2 h0_3 h0_4 h0_5 h0_6 h0_7 h0_8 h0_9) ∧ TL (TTx.mk h0_0 h0_1 h0_2 h0_3 h0_4 h0_5 h0_6 h0_7 h0_8 h0_9) ∧ (TTx.mk h0_0 h0_1 h0_2 h0_3 h0_4 h0_5 h0_6 h0_7 h0_8 h0_9).Outs.length ≤ 1048576 ∧ (∀ x ∈ (TTx.mk h0_0 h0_1 h0_2 h0_3 h0_4 h0_5 h0_6 h0_7 h0_8 h0_9).Outs, x.Cipher.length ≤ 1024)) ∧ let r3 : List Int := encT (TTx.mk h0_0 h0_1 h0_2 h0_3 h0_4 h0_5 h0_6 h0_7 h0_8 h0_9) (TTx.mk h0_0 h0_1 h0_2 h0_3 h0_4 h0_5 h0_6 h0_7 h0_8 h0_9).Proof
(TR (TTx.mk h1_0 h1_1 h1_2 h1_3 h1_4 h1_5 h1_6 h1_7 h1_8 h1_9) ∧ TL (TTx.mk h1_0 h1_1 h1_2 h1_3 h1_4 h1_5 h1_6 h1_7 h1_8 h1_9) ∧ (TTx.mk h1_0 h1_1 h1_2 h1_3 h1_4 h1_5 h1_6 h1_7 h1_8 h1_9).Outs.length ≤ 1048576 ∧ (∀ x ∈ (TTx.mk h1_0 h1_1 h1_2 h1_3 h1_4 h1_5 h1_6 h1_7 h1_8 h1_9).Outs, x.Cipher.length ≤ 1024)) ∧ let r4 : List Int := encT (TTx.mk h1_0 h1_1 h1_2 h1_3 h1_4 h1_5 h1_6 h1_7 h1_8 h1_9) (TTx.mk h1_0 h1_1 h1_2 h1_3 h1_4 h1_5 h1_6 h1_7 h1_8 h1_9).Proof
(r3.length ≤ 9223372036854775807) ∧ decide (r3 = r4) = r0)
set_option maxRecDepth 100000 in
theorem r41_Same_lp1 {r0 : Bool} {h0_0 : Int} {h0_1 : List Int} {h0_2 : List TOut} {h0_3 : Int} {h0_4 : Int} {h0_5 : Int} {h0_6 : Int} {h0_7 : Int} {h0_8 : Int} {h0_9 : List Int} {h1_0 : Int} {h1_1 : List Int} {h1_2 : List TOut} {h1_3 : Int} {h1_4 : Int} {h1_5 : Int} {h1_6 : Int} {h1_7 : Int} {h1_8 : Int} {h1_9 : List Int} {s5 : Int} (inv : Int → Prop) (μ : Int → Nat) (h0 : inv s5) (hs : ∀ (s5 : Int), inv s5 → r41_Same_B1 r0 (fun s5q => inv s5q ∧ μ s5q < μ s5) h0_0 h0_1 h0_2 h0_3 h0_4 h0_5 h0_6 h0_7 h0_8 h0_9 h1_0 h1_1 h1_2 h1_3 h1_4 h1_5 h1_6 h1_7 h1_8 h1_9 s5) : Md.Loop (s5, h0_0, h0_1, h0_2, h0_3, h0_4, h0_5, h0_6, h0_7, h0_8, h0_9, h1_0, h1_1, h1_2, h1_3, h1_4, h1_5, h1_6, h1_7, h1_8, h1_9, ()) (r41_Same_L1 (r0, ())) :=
  ⟨⟨fun s : Int × Int × (List Int) × (List TOut) × Int × Int × Int × Int × Int × Int × (List Int) × Int × (List Int) × (List TOut) × Int × Int × Int × Int × Int × Int × (List Int) × Unit => (s.2.1 = h0_0 ∧ s.2.2.1 = h0_1 ∧ s.2.2.2.1 = h0_2 ∧ s.2.2.2.2.1 = h0_3 ∧ s.2.2.2.2.2.1 = h0_4 ∧ s.2.2.2.2.2.2.1 = h0_5 ∧ s.2.2.2.2.2.2.2.1 = h0_6 ∧ s.2.2.2.2.2.2.2.2.1 = h0_7 ∧ s.2.2.2.2.2.2.2.2.2.1 = h0_8 ∧ s.2.2.2.2.2.2.2.2.2.2.1 = h0_9 ∧ s.2.2.2.2.2.2.2.2.2.2.2.1 = h1_0 ∧ s.2.2.2.2.2.2.2.2.2.2.2.2.1 = h1_1 ∧ s.2.2.2.2.2.2.2.2.2.2.2.2.2.1 = h1_2 ∧ s.2.2.2.2.2.2.2.2.2.2.2.2.2.2.1 = h1_3 ∧ s.2.2.2.2.2.2.2.2.2.2.2.2.2.2.2.1 = h1_4 ∧ s.2.2.2.2.2.2.2.2.2.2.2.2.2.2.2.2.1 = h1_5 ∧ s.2.2.2.2.2.2.2.2.2.2.2.2.2.2.2.2.2.1 = h1_6 ∧ s.2.2.2.2.2.2.2.2.2.2.2.2.2.2.2.2.2.2.1 = h1_7 ∧ s.2.2.2.2.2.2.2.2.2.2.2.2.2.2.2.2.2.2.2.1 = h1_8 ∧ s.2.2.2.2.2.2.2.2.2.2.2.2.2.2.2.2.2.2.2.2.1 = h1_9) ∧ inv s.1, fun s : Int × Int × (List Int) × (List TOut) × Int × Int × Int × Int × Int × Int × (List Int) × Int × (List Int) × (List TOut) × Int × Int × Int × Int × Int × Int × (List Int) × Unit => μ s.1, ⟨⟨rfl, rfl, rfl, rfl, rfl, rfl, rfl, rfl, rfl, rfl, rfl, rfl, rfl, rfl, rfl, rfl, rfl, rfl, rfl, rfl⟩, h0⟩, fun (s5p, h0_0p, h0_1p, h0_2p, h0_3p, h0_4p, h0_5p, h0_6p, h0_7p, h0_8p, h0_9p, h1_0p, h1_1p, h1_2p, h1_3p, h1_4p, h1_5p, h1_6p, h1_7p, h1_8p, h1_9p, ()) ⟨⟨eq0, eq1, eq2, eq3, eq4, eq5, eq6, eq7, eq8, eq9, eq10, eq11, eq12, eq13, eq14, eq15, eq16, eq17, eq18, eq19⟩, hi⟩ => by
    have eq0 : h0_0p = h0_0 := eq0; subst h0_0p; have eq1 : h0_1p = h0_1 := eq1; subst h0_1p; have eq2 : h0_2p = h0_2 := eq2; subst h0_2p; have eq3 : h0_3p = h0_3 := eq3; subst h0_3p; have eq4 : h0_4p = h0_4 := eq4; subst h0_4p; have eq5 : h0_5p = h0_5 := eq5; subst h0_5p; have eq6 : h0_6p = h0_6 := eq6; subst h0_6p; have eq7 : h0_7p = h0_7 := eq7; subst h0_7p; have eq8 : h0_8p = h0_8 := eq8; subst h0_8p; have eq9 : h0_9p = h0_9 := eq9; subst h0_9p; have eq10 : h1_0p = h1_0 := eq10; subst h1_0p; have eq11 : h1_1p = h1_1 := eq11; subst h1_1p; have eq12 : h1_2p = h1_2 := eq12; subst h1_2p; have eq13 : h1_3p = h1_3 := eq13; subst h1_3p; have eq14 : h1_4p = h1_4 := eq14; subst h1_4p; have eq15 : h1_5p = h1_5 := eq15; subst h1_5p; have eq16 : h1_6p = h1_6 := eq16; subst h1_6p; have eq17 : h1_7p = h1_7 := eq17; subst h1_7p; have eq18 : h1_8p = h1_8 := eq18; subst h1_8p; have eq19 : h1_9p = h1_9 := eq19; subst h1_9p; exact mpr_of (by kernel_rfl) ((congrArg (fun k => r41_Same_B1 r0 k h0_0 h0_1 h0_2 h0_3 h0_4 h0_5 h0_6 h0_7 h0_8 h0_9 h1_0 h1_1 h1_2 h1_3 h1_4 h1_5 h1_6 h1_7 h1_8 h1_9 s5p) (lpk1 (⟨rfl, rfl, rfl, rfl, rfl, rfl, rfl, rfl, rfl, rfl, rfl, rfl, rfl, rfl, rfl, rfl, rfl, rfl, rfl, rfl⟩ : h0_0 = h0_0 ∧ h0_1 = h0_1 ∧ h0_2 = h0_2 ∧ h0_3 = h0_3 ∧ h0_4 = h0_4 ∧ h0_5 = h0_5 ∧ h0_6 = h0_6 ∧ h0_7 = h0_7 ∧ h0_8 = h0_8 ∧ h0_9 = h0_9 ∧ h1_0 = h1_0 ∧ h1_1 = h1_1 ∧ h1_2 = h1_2 ∧ h1_3 = h1_3 ∧ h1_4 = h1_4 ∧ h1_5 = h1_5 ∧ h1_6 = h1_6 ∧ h1_7 = h1_7 ∧ h1_8 = h1_8 ∧ h1_9 = h1_9) inv (fun s5q => μ s5q < μ s5p))).mpr (hs s5p hi))⟩⟩
theorem bd40 : Callable Try.prog 40 := ⟨by rw [Try.func40]; kernel_rfl, by rw [Try.func40]; show some _ ≠ some _; decide⟩
theorem r41_Same_body (p0 : TTx) (p1 : TTx) (h : TD p0 ∧ TD p1) : r41_Same_Body (p0.Anchor, p0.Marks, p0.Outs, p0.Deposit, p0.Withdraw, p0.Fee, p0.Account, p0.Nonce, p0.Expiry, p0.Proof, p1.Anchor, p1.Marks, p1.Outs, p1.Deposit, p1.Withdraw, p1.Fee, p1.Account, p1.Nonce, p1.Expiry, p1.Proof, ()) ((sameT p0 p1 : Bool), ()) := by
  obtain ⟨⟨hr, hl, ho, hc⟩, hr', hl', ho', hc'⟩ := h
  refine r41_Same_in ⟨fun e => ?_, fun e => ⟨fun e2 => ?_, fun e2 => ?_⟩⟩
  · have e : ¬ ((p0.Outs.length : Int) = p1.Outs.length) := by simpa using e
    unfold sameT
    rw [decide_eq_false (by omega)]
    rfl
  · have e2 : ¬ p0.Expiry = p1.Expiry := by simpa using e2
    unfold sameT
    simp [e2]
  have e : (p0.Outs.length : Int) = p1.Outs.length := by simpa using e
  have e2 : p0.Expiry = p1.Expiry := by simpa using e2
  refine r41_Same_lp1 (fun i => 0 ≤ i ∧ i ≤ p0.Outs.length ∧ (p0.Outs.take i.toNat).map (·.Cipher.length) = (p1.Outs.take i.toNat).map (·.Cipher.length)) (fun i => (p0.Outs.length - i).toNat) ⟨by omega, by omega, by simp⟩ ?_
  rintro i ⟨g0, g1, g2⟩
  refine ⟨fun hh => ?_, fun hh => ?_⟩
  · have hh := of_decide_eq_true hh
    refine ⟨g0, hh, g0, by omega, fun e3 => ?_, fun e3 => ?_⟩
    · have e3 : ¬ (((ix p0.Outs i).Cipher.length : Int) = (ix p1.Outs i).Cipher.length) := by simpa using e3
      unfold sameT
      rw [decide_eq_false (p := p0.Outs.map _ = p1.Outs.map _)]
      · simp
      · intro h
        have h2 := congrArg (fun l => l[i.toNat]?) h
        simp only [List.getElem?_map] at h2
        rw [List.getElem?_eq_getElem (by omega), List.getElem?_eq_getElem (by omega)] at h2
        rw [ix_nat _ i g0 hh, ix_nat _ i g0 (by omega)] at e3
        simp at h2
        omega
    · have e3 : (((ix p0.Outs i).Cipher.length : Int) = (ix p1.Outs i).Cipher.length) := by simpa using e3
      rw [inc i p0.Outs.length g0 hh (by omega)]
      refine ⟨⟨by omega, by omega, ?_⟩, by omega⟩
      rw [take_succ_ix _ i g0 hh, take_succ_ix _ i g0 (by omega), List.map_append, List.map_append, g2]
      simp
      omega
  · have hh := of_decide_eq_false hh
    rw [List.take_of_length_le (by omega), List.take_of_length_le (by omega)] at g2
    simp only [TTx_eta]
    have hlen := encOs_length p0.Outs 1024 hc
    refine ⟨⟨hr, hl, ho, hc⟩, ⟨hr', hl', ho', hc'⟩, ?_, ?_⟩
    · rw [encT_length]
      have := hl.m
      have := hl.p
      have : (28 + 8 * 1024) * p0.Outs.length ≤ (28 + 8 * 1024) * 1048576 := Nat.mul_le_mul_left _ ho
      omega
    · unfold sameT
      rw [decide_eq_true (p := p0.Outs.length = p1.Outs.length) (by omega), decide_eq_true g2, beq_iff_eq.2 e2]
      simp
noncomputable def r41_Same_con : Con TB.den := r41_Same_sh.fnR (fun x => (fun (p0 : TTx) (p1 : TTx) => TD p0 ∧ TD p1) (TTx.mk x.1 x.2.1 x.2.2.1 x.2.2.2.1 x.2.2.2.2.1 x.2.2.2.2.2.1 x.2.2.2.2.2.2.1 x.2.2.2.2.2.2.2.1 x.2.2.2.2.2.2.2.2.1 x.2.2.2.2.2.2.2.2.2.1) (TTx.mk x.2.2.2.2.2.2.2.2.2.2.1 x.2.2.2.2.2.2.2.2.2.2.2.1 x.2.2.2.2.2.2.2.2.2.2.2.2.1 x.2.2.2.2.2.2.2.2.2.2.2.2.2.1 x.2.2.2.2.2.2.2.2.2.2.2.2.2.2.1 x.2.2.2.2.2.2.2.2.2.2.2.2.2.2.2.1 x.2.2.2.2.2.2.2.2.2.2.2.2.2.2.2.2.1 x.2.2.2.2.2.2.2.2.2.2.2.2.2.2.2.2.2.1 x.2.2.2.2.2.2.2.2.2.2.2.2.2.2.2.2.2.2.1 x.2.2.2.2.2.2.2.2.2.2.2.2.2.2.2.2.2.2.2.1)) fun x => ((fun (p0 : TTx) (p1 : TTx) => (sameT p0 p1 : Bool)) (TTx.mk x.1 x.2.1 x.2.2.1 x.2.2.2.1 x.2.2.2.2.1 x.2.2.2.2.2.1 x.2.2.2.2.2.2.1 x.2.2.2.2.2.2.2.1 x.2.2.2.2.2.2.2.2.1 x.2.2.2.2.2.2.2.2.2.1) (TTx.mk x.2.2.2.2.2.2.2.2.2.2.1 x.2.2.2.2.2.2.2.2.2.2.2.1 x.2.2.2.2.2.2.2.2.2.2.2.2.1 x.2.2.2.2.2.2.2.2.2.2.2.2.2.1 x.2.2.2.2.2.2.2.2.2.2.2.2.2.2.1 x.2.2.2.2.2.2.2.2.2.2.2.2.2.2.2.1 x.2.2.2.2.2.2.2.2.2.2.2.2.2.2.2.2.1 x.2.2.2.2.2.2.2.2.2.2.2.2.2.2.2.2.2.1 x.2.2.2.2.2.2.2.2.2.2.2.2.2.2.2.2.2.2.1 x.2.2.2.2.2.2.2.2.2.2.2.2.2.2.2.2.2.2.2.1), ())
theorem r41_Same_ok : r41_Same_con.Ok Try.prog TB := Con.ok_fn r41_Same_sh bd40 fun x h => r41_Same_snd (r41_Same_body (TTx.mk x.1 x.2.1 x.2.2.1 x.2.2.2.1 x.2.2.2.2.1 x.2.2.2.2.2.1 x.2.2.2.2.2.2.1 x.2.2.2.2.2.2.2.1 x.2.2.2.2.2.2.2.2.1 x.2.2.2.2.2.2.2.2.2.1) (TTx.mk x.2.2.2.2.2.2.2.2.2.2.1 x.2.2.2.2.2.2.2.2.2.2.2.1 x.2.2.2.2.2.2.2.2.2.2.2.2.1 x.2.2.2.2.2.2.2.2.2.2.2.2.2.1 x.2.2.2.2.2.2.2.2.2.2.2.2.2.2.1 x.2.2.2.2.2.2.2.2.2.2.2.2.2.2.2.1 x.2.2.2.2.2.2.2.2.2.2.2.2.2.2.2.2.1 x.2.2.2.2.2.2.2.2.2.2.2.2.2.2.2.2.2.1 x.2.2.2.2.2.2.2.2.2.2.2.2.2.2.2.2.2.2.1 x.2.2.2.2.2.2.2.2.2.2.2.2.2.2.2.2.2.2.2.1) h)
end Go.Proofs.Ytnmakgfmimagmaa
namespace Go.Proofs.Ytnmakgfmimagmaa
open Go Go.Bv Go.Cv Go.Md Go.RowKit
def r47_Same_sh : Con TB.den := Con.mk0 19 [.agg [.d (.int .u64), .d (.int .i64), .d (.int .u64), .d (.int .u64), .d (.int .u64), .d (.sl (.st 1))], .agg [.d (.int .u64), .d (.int .i64), .d (.int .u64), .d (.int .u64), .d (.int .u64), .d (.sl (.st 1))]] [] (.one (.one (.d (.bool)))) []
abbrev r47_Same_I := HL TB.den (hsT r47_Same_sh.ins (hsOs r47_Same_sh.pre))
abbrev r47_Same_O := HL TB.den (hsV r47_Same_sh.res (hsOs r47_Same_sh.post))
noncomputable def r47_Same_cx : Cx TB := ⟨inf, [r41_Same_con], [], 4⟩
noncomputable def r47_Same_code : Code := Try.f19.body.getD .skip
noncomputable def r47_Same_rs : List ResultVar := Try.f19.results.toList
noncomputable def r47_Same_Q1 (o : r47_Same_O) : Exit → TSt TB.den → Prop := thenT TB (fun s => ghs TB [] s fun s => WP TB r47_Same_cx 67 0 (cB (cB (cB r47_Same_code))) .no s (retTQ TB r47_Same_cx r47_Same_sh r47_Same_rs o)) (retTQ TB r47_Same_cx r47_Same_sh r47_Same_rs o)
def r47_Same_T1 : Tm := ⟨[0, 1], [.cells [.d (.int .u64), .d (.int .i64), .d (.int .u64), .d (.int .u64), .d (.int .u64), .d (.sl (.st 1))], .cells [.d (.int .u64), .d (.int .i64), .d (.int .u64), .d (.int .u64), .d (.int .u64), .d (.sl (.st 1))]], [2, 3, 5], [.one (.ptr 0 0), .one (.ptr 1 0), .one (.d (.int .i64))], 2⟩
noncomputable def r47_Same_Q2 (o : r47_Same_O) (nx1 : HL TB.den r47_Same_T1.hs → Prop) : Exit → TSt TB.den → Prop := thenT TB (fun s => r47_Same_T1.mat TB 0 s nx1) (blockT TB 0 (r47_Same_Q1 o))
noncomputable def r47_Same_L1 (o : r47_Same_O) (nx1 : HL TB.den r47_Same_T1.hs → Prop) (i : HL TB.den r47_Same_T1.hs) : Prop := WP TB r47_Same_cx 67 0 (cA (cA (cB (cA (cB (cB r47_Same_code)))))) .no (r47_Same_T1.fill TB i) (r47_Same_Q2 o nx1)
noncomputable def r47_Same_A5 (o : r47_Same_O) : An TB := .nd [] .no [] (.lp [] r47_Same_T1 (r47_Same_L1 o) fun nx1 => .no)
noncomputable def r47_Same_an (o : r47_Same_O) : An TB := .nd [] .no [] (.nd [] .no [] (.nd [] (r47_Same_A5 o) [] .no))
noncomputable def r47_Same_Body (x : r47_Same_I) (o : r47_Same_O) : Prop := WPh TB r47_Same_cx 67 0 r47_Same_code (r47_Same_an o) (r47_Same_sh.st TB x) (retTQ TB r47_Same_cx r47_Same_sh r47_Same_rs o)
set_option maxRecDepth 100000 in
theorem r47_Same_obl (o : r47_Same_O) : OblH TB r47_Same_cx 67 0 r47_Same_code (r47_Same_an o) (retTQ TB r47_Same_cx r47_Same_sh r47_Same_rs o) :=
  OblH.of_eq (X := (True ∧ ((True ∧ ((True ∧ True) ∧ True)) ∧ ((True ∧ ((∀ nx i, (r47_Same_L1 o) nx i = (r47_Same_L1 o) nx i) ∧ ∀ nx1 : HL TB.den r47_Same_T1.hs → Prop, ((True ∧ (True ∧ True)) ∧ ((True ∧ ((True ∧ True) ∧ True)) ∧ True)))) ∧ (True ∧ True))))) (by kernel_rfl) ⟨trivial, ⟨⟨trivial, ⟨⟨trivial, trivial⟩, trivial⟩⟩, ⟨⟨trivial, ⟨fun _ _ => rfl, fun _ => ⟨⟨trivial, ⟨trivial, trivial⟩⟩, ⟨⟨trivial, ⟨⟨trivial, trivial⟩, trivial⟩⟩, trivial⟩⟩⟩⟩, ⟨trivial, trivial⟩⟩⟩⟩
set_option maxRecDepth 100000 in
theorem r47_Same_snd {x : r47_Same_I} {o : r47_Same_O} (h : r47_Same_Body x o) : SoundH Try.prog r47_Same_sh.f ((r47_Same_sh.args idf x).map (er TB)) ((r47_Same_sh.obs idf x).map (erO TB)) (er TB (r47_Same_sh.val idf o)) ((r47_Same_sh.ops idf o).map (erO TB)) :=
  Con.soundH (c := r47_Same_sh) (C := r47_Same_cx) TBok ⟨inf_ok, (all_cons r41_Same_ok all_nil), all_nil⟩ mix Try.func19 (show Try.f19.body = some r47_Same_code by kernel_rfl) (show Try.f19.ntmps = 67 by kernel_rfl) (show Try.f19.results.toList = r47_Same_rs by kernel_rfl) rfl h (r47_Same_obl o)
set_option maxRecDepth 100000 in
theorem r47_Same_in {p0 : TBlock} {p1 : TBlock} {r0 : Bool} (h :
(((p0.Parent != p1.Parent) = true →
 false = r0) ∧
((p0.Parent != p1.Parent) = false →
((p0.Height != p1.Height) = true →
 false = r0) ∧
((p0.Height != p1.Height) = false →
((p0.Miner != p1.Miner) = true →
 false = r0) ∧
((p0.Miner != p1.Miner) = false →
((p0.Work != p1.Work) = true →
 false = r0) ∧
((p0.Work != p1.Work) = false →
((p0.Nonce != p1.Nonce) = true →
 false = r0) ∧
((p0.Nonce != p1.Nonce) = false →
 let v1 : Bool := ((p0.Txs.length : Int) != (p1.Txs.length : Int))
(v1 = true →
 false = r0) ∧
(v1 = false →
 Md.Loop ((0 : Int), p0.Parent, p0.Height, p0.Miner, p0.Work, p0.Nonce, p0.Txs, p1.Parent, p1.Height, p1.Miner, p1.Work, p1.Nonce, p1.Txs, ()) (r47_Same_L1 (r0, ())))))))))) : r47_Same_Body (p0.Parent, p0.Height, p0.Miner, p0.Work, p0.Nonce, p0.Txs, p1.Parent, p1.Height, p1.Miner, p1.Work, p1.Nonce, p1.Txs, ()) (r0, ()) := WPh.of_eq (by kernel_rfl) h
def r47_Same_B1 (r0 : Bool) (k1 : Int → Prop) (h0_0 : Int) (h0_1 : Int) (h0_2 : Int) (h0_3 : Int) (h0_4 : Int) (h0_5 : List TTx) (h1_0 : Int) (h1_1 : Int) (h1_2 : Int) (h1_3 : Int) (h1_4 : Int) (h1_5 : List TTx) (s5 : Int) : Prop :=
(decide (s5 < (h0_5.length : Int)) = true →
(0 ≤ s5) ∧ s5 < (h0_5.length : Int) ∧ (0 ≤ s5) ∧ s5 < (h1_5.length : Int) ∧ (TD (ix h0_5 s5) ∧ TD (ix h1_5 s5)) ∧ ((!sameT (ix h0_5 s5) (ix h1_5 s5)) = true →
 false = r0) ∧
((!sameT (ix h0_5 s5) (ix h1_5 s5)) = false →
 k1 (IntKind.i64.wrap (s5 + 1) : Int))) ∧
(decide (s5 < (h0_5.length : Int)) = false →
 true = r0)
set_option maxRecDepth 100000 in
theorem r47_Same_lp1 {r0 : Bool} {h0_0 : Int} {h0_1 : Int} {h0_2 : Int} {h0_3 : Int} {h0_4 : Int} {h0_5 : List TTx} {h1_0 : Int} {h1_1 : Int} {h1_2 : Int} {h1_3 : Int} {h1_4 : Int} {h1_5 : List TTx} {s5 : Int} (inv : Int → Prop) (μ : Int → Nat) (h0 : inv s5) (hs : ∀ (s5 : Int), inv s5 → r47_Same_B1 r0 (fun s5q => inv s5q ∧ μ s5q < μ s5) h0_0 h0_1 h0_2 h0_3 h0_4 h0_5 h1_0 h1_1 h1_2 h1_3 h1_4 h1_5 s5) : Md.Loop (s5, h0_0, h0_1, h0_2, h0_3, h0_4, h0_5, h1_0, h1_1, h1_2, h1_3, h1_4, h1_5, ()) (r47_Same_L1 (r0, ())) :=
  ⟨⟨fun s : Int × Int × Int × Int × Int × Int × (List TTx) × Int × Int × Int × Int × Int × (List TTx) × Unit => (s.2.1 = h0_0 ∧ s.2.2.1 = h0_1 ∧ s.2.2.2.1 = h0_2 ∧ s.2.2.2.2.1 = h0_3 ∧ s.2.2.2.2.2.1 = h0_4 ∧ s.2.2.2.2.2.2.1 = h0_5 ∧ s.2.2.2.2.2.2.2.1 = h1_0 ∧ s.2.2.2.2.2.2.2.2.1 = h1_1 ∧ s.2.2.2.2.2.2.2.2.2.1 = h1_2 ∧ s.2.2.2.2.2.2.2.2.2.2.1 = h1_3 ∧ s.2.2.2.2.2.2.2.2.2.2.2.1 = h1_4 ∧ s.2.2.2.2.2.2.2.2.2.2.2.2.1 = h1_5) ∧ inv s.1, fun s : Int × Int × Int × Int × Int × Int × (List TTx) × Int × Int × Int × Int × Int × (List TTx) × Unit => μ s.1, ⟨⟨rfl, rfl, rfl, rfl, rfl, rfl, rfl, rfl, rfl, rfl, rfl, rfl⟩, h0⟩, fun (s5p, h0_0p, h0_1p, h0_2p, h0_3p, h0_4p, h0_5p, h1_0p, h1_1p, h1_2p, h1_3p, h1_4p, h1_5p, ()) ⟨⟨eq0, eq1, eq2, eq3, eq4, eq5, eq6, eq7, eq8, eq9, eq10, eq11⟩, hi⟩ => by
    have eq0 : h0_0p = h0_0 := eq0; subst h0_0p; have eq1 : h0_1p = h0_1 := eq1; subst h0_1p; have eq2 : h0_2p = h0_2 := eq2; subst h0_2p; have eq3 : h0_3p = h0_3 := eq3; subst h0_3p; have eq4 : h0_4p = h0_4 := eq4; subst h0_4p; have eq5 : h0_5p = h0_5 := eq5; subst h0_5p; have eq6 : h1_0p = h1_0 := eq6; subst h1_0p; have eq7 : h1_1p = h1_1 := eq7; subst h1_1p; have eq8 : h1_2p = h1_2 := eq8; subst h1_2p; have eq9 : h1_3p = h1_3 := eq9; subst h1_3p; have eq10 : h1_4p = h1_4 := eq10; subst h1_4p; have eq11 : h1_5p = h1_5 := eq11; subst h1_5p; exact mpr_of (by kernel_rfl) ((congrArg (fun k => r47_Same_B1 r0 k h0_0 h0_1 h0_2 h0_3 h0_4 h0_5 h1_0 h1_1 h1_2 h1_3 h1_4 h1_5 s5p) (lpk1 (⟨rfl, rfl, rfl, rfl, rfl, rfl, rfl, rfl, rfl, rfl, rfl, rfl⟩ : h0_0 = h0_0 ∧ h0_1 = h0_1 ∧ h0_2 = h0_2 ∧ h0_3 = h0_3 ∧ h0_4 = h0_4 ∧ h0_5 = h0_5 ∧ h1_0 = h1_0 ∧ h1_1 = h1_1 ∧ h1_2 = h1_2 ∧ h1_3 = h1_3 ∧ h1_4 = h1_4 ∧ h1_5 = h1_5) inv (fun s5q => μ s5q < μ s5p))).mpr (hs s5p hi))⟩⟩
theorem bd19 : Callable Try.prog 19 := ⟨by rw [Try.func19]; kernel_rfl, by rw [Try.func19]; show some _ ≠ some _; decide⟩
theorem r47_Same_body (p0 : TBlock) (p1 : TBlock) (h : p0.Txs.length ≤ 9223372036854775807 ∧ (∀ x ∈ p0.Txs, TD x) ∧ (∀ x ∈ p1.Txs, TD x)) : r47_Same_Body (p0.Parent, p0.Height, p0.Miner, p0.Work, p0.Nonce, p0.Txs, p1.Parent, p1.Height, p1.Miner, p1.Work, p1.Nonce, p1.Txs, ()) ((sameB p0 p1 : Bool), ()) := by
  obtain ⟨hl, ha, hb⟩ := h
  have no : ∀ {P : Prop}, ¬ P → (P → False) := fun h => h
  have nf : (¬ (p0.Parent = p1.Parent ∧ p0.Height = p1.Height ∧ p0.Miner = p1.Miner ∧ p0.Work = p1.Work ∧ p0.Nonce = p1.Nonce ∧ p0.Txs.length = p1.Txs.length ∧ ∀ i : Nat, i < p0.Txs.length → sameT (ix p0.Txs (i : Int)) (ix p1.Txs (i : Int)) = true)) → false = sameB p0 p1 := fun h => (decide_eq_false h).symm
  refine r47_Same_in ⟨fun e => nf fun q => ?_, fun e1 => ⟨fun e => nf fun q => ?_, fun e2 => ⟨fun e => nf fun q => ?_, fun e3 => ⟨fun e => nf fun q => ?_, fun e4 => ⟨fun e => nf fun q => ?_, fun e5 => ⟨fun e => nf fun q => ?_, fun e6 => ?_⟩⟩⟩⟩⟩⟩
  · simp [q.1] at e
  · simp [q.2.1] at e
  · simp [q.2.2.1] at e
  · simp [q.2.2.2.1] at e
  · simp [q.2.2.2.2.1] at e
  · simp [q.2.2.2.2.2.1] at e
  simp only [bne_eq_false_iff_eq] at e1 e2 e3 e4 e5 e6
  have e6 : p0.Txs.length = p1.Txs.length := by omega
  refine r47_Same_lp1 (fun i => 0 ≤ i ∧ i ≤ p0.Txs.length ∧ ∀ j : Nat, (j : Int) < i → sameT (ix p0.Txs (j : Int)) (ix p1.Txs (j : Int)) = true) (fun i => (p0.Txs.length - i).toNat) ⟨by omega, by omega, fun j hj => by omega⟩ ?_
  rintro i ⟨g0, g1, g2⟩
  refine ⟨fun hh => ?_, fun hh => ?_⟩
  · have hh := of_decide_eq_true hh
    rw [inc i p0.Txs.length g0 hh (by omega)]
    refine ⟨g0, hh, g0, by omega, ⟨ha _ (ix_mem _ i g0 hh), hb _ (ix_mem _ i g0 (by omega))⟩, fun e => nf fun q => ?_, fun e => ⟨⟨by omega, by omega, fun j hj => ?_⟩, by omega⟩⟩
    · have := q.2.2.2.2.2.2 i.toNat (by omega)
      rw [show ((i.toNat : Nat) : Int) = i by omega] at this
      rw [this] at e
      cases e
    · rcases Int.lt_or_eq_of_le (Int.le_of_lt_add_one hj) with h | h
      · exact g2 j h
      · rw [h]; simpa using e
  · have hh := of_decide_eq_false hh
    exact (decide_eq_true ⟨e1, e2, e3, e4, e5, e6, fun j hj => g2 j (by omega)⟩).symm
noncomputable def r47_Same_con : Con TB.den := r47_Same_sh.fnR (fun x => (fun (p0 : TBlock) (p1 : TBlock) => p0.Txs.length ≤ 9223372036854775807 ∧ (∀ x ∈ p0.Txs, TD x) ∧ (∀ x ∈ p1.Txs, TD x)) (TBlock.mk x.1 x.2.1 x.2.2.1 x.2.2.2.1 x.2.2.2.2.1 x.2.2.2.2.2.1) (TBlock.mk x.2.2.2.2.2.2.1 x.2.2.2.2.2.2.2.1 x.2.2.2.2.2.2.2.2.1 x.2.2.2.2.2.2.2.2.2.1 x.2.2.2.2.2.2.2.2.2.2.1 x.2.2.2.2.2.2.2.2.2.2.2.1)) fun x => ((fun (p0 : TBlock) (p1 : TBlock) => (sameB p0 p1 : Bool)) (TBlock.mk x.1 x.2.1 x.2.2.1 x.2.2.2.1 x.2.2.2.2.1 x.2.2.2.2.2.1) (TBlock.mk x.2.2.2.2.2.2.1 x.2.2.2.2.2.2.2.1 x.2.2.2.2.2.2.2.2.1 x.2.2.2.2.2.2.2.2.2.1 x.2.2.2.2.2.2.2.2.2.2.1 x.2.2.2.2.2.2.2.2.2.2.2.1), ())
theorem r47_Same_ok : r47_Same_con.Ok Try.prog TB := Con.ok_fn r47_Same_sh bd19 fun x h => r47_Same_snd (r47_Same_body (TBlock.mk x.1 x.2.1 x.2.2.1 x.2.2.2.1 x.2.2.2.2.1 x.2.2.2.2.2.1) (TBlock.mk x.2.2.2.2.2.2.1 x.2.2.2.2.2.2.2.1 x.2.2.2.2.2.2.2.2.1 x.2.2.2.2.2.2.2.2.2.1 x.2.2.2.2.2.2.2.2.2.2.1 x.2.2.2.2.2.2.2.2.2.2.2.1) h)
end Go.Proofs.Ytnmakgfmimagmaa
namespace Go.Proofs.Ytnmakgfmimagmaa
open Go Go.Bv Go.Cv Go.Md Go.RowKit
def l47_awake_sh : Con TB.den := Con.mk0 10 [] [] (.one (.one (.d (.bool)))) []
abbrev l47_awake_I := HL TB.den (hsT l47_awake_sh.ins (hsOs l47_awake_sh.pre))
abbrev l47_awake_O := HL TB.den (hsV l47_awake_sh.res (hsOs l47_awake_sh.post))
noncomputable def l47_awake_cx : Cx TB := ⟨inf, [block_Encode_con, block_Mine_con, r47_Same_con], [], 4⟩
noncomputable def l47_awake_code : Code := Try.f10.body.getD .skip
noncomputable def l47_awake_rs : List ResultVar := Try.f10.results.toList
noncomputable def l47_awake_an (o : l47_awake_O) : An TB := .no
noncomputable def l47_awake_Body (x : l47_awake_I) (o : l47_awake_O) : Prop := WPh TB l47_awake_cx 32 0 l47_awake_code (l47_awake_an o) (l47_awake_sh.st TB x) (retTQ TB l47_awake_cx l47_awake_sh l47_awake_rs o)
set_option maxRecDepth 100000 in
theorem l47_awake_obl (o : l47_awake_O) : OblH TB l47_awake_cx 32 0 l47_awake_code (l47_awake_an o) (retTQ TB l47_awake_cx l47_awake_sh l47_awake_rs o) :=
  OblH.of_eq (X := (True ∧ (True ∧ (True ∧ (True ∧ (True ∧ True)))))) (by kernel_rfl) ⟨trivial, ⟨trivial, ⟨trivial, ⟨trivial, ⟨trivial, trivial⟩⟩⟩⟩⟩
set_option maxRecDepth 100000 in
theorem l47_awake_snd {x : l47_awake_I} {o : l47_awake_O} (h : l47_awake_Body x o) : SoundH Try.prog l47_awake_sh.f ((l47_awake_sh.args idf x).map (er TB)) ((l47_awake_sh.obs idf x).map (erO TB)) (er TB (l47_awake_sh.val idf o)) ((l47_awake_sh.ops idf o).map (erO TB)) :=
  Con.soundH (c := l47_awake_sh) (C := l47_awake_cx) TBok ⟨inf_ok, (all_cons block_Encode_ok (all_cons block_Mine_ok (all_cons r47_Same_ok all_nil))), all_nil⟩ mix Try.func10 (show Try.f10.body = some l47_awake_code by kernel_rfl) (show Try.f10.ntmps = 32 by kernel_rfl) (show Try.f10.results.toList = l47_awake_rs by kernel_rfl) rfl h (l47_awake_obl o)
set_option maxRecDepth 100000 in
theorem l47_awake_in  {r0 : Bool} (h :
((BR (TBlock.mk 0 1 0 1 0 ([] : List TTx))) ∧ let r1 : List Int := if validB (TBlock.mk 0 1 0 1 0 ([] : List TTx)) = 0 then encBk (TBlock.mk 0 1 0 1 0 ([] : List TTx)) else []
 let r2 : Int := validB (TBlock.mk 0 1 0 1 0 ([] : List TTx))
(BR (TBlock.mk 0 1 0 1 0 ([] : List TTx)) ∧ (TBlock.mk 0 1 0 1 0 ([] : List TTx)).Txs = [] ∧ (1 : Int) ≤ 9223372036854775807) ∧ let r3 : Int := ((mineS (TBlock.mk 0 1 0 1 0 ([] : List TTx)) (1 : Int)).b).Parent
 let r4 : Int := ((mineS (TBlock.mk 0 1 0 1 0 ([] : List TTx)) (1 : Int)).b).Height
 let r5 : Int := ((mineS (TBlock.mk 0 1 0 1 0 ([] : List TTx)) (1 : Int)).b).Miner
 let r6 : Int := ((mineS (TBlock.mk 0 1 0 1 0 ([] : List TTx)) (1 : Int)).b).Work
 let r7 : Int := ((mineS (TBlock.mk 0 1 0 1 0 ([] : List TTx)) (1 : Int)).b).Nonce
 let r8 : List TTx := ((mineS (TBlock.mk 0 1 0 1 0 ([] : List TTx)) (1 : Int)).b).Txs
 let r9 : Bool := (mineS (TBlock.mk 0 1 0 1 0 ([] : List TTx)) (1 : Int)).ok
(((r1.length : Int) == 40) = true →
((r2 == 0) = true →
(r9 = true →
((TBlock.mk 0 1 0 1 0 ([] : List TTx)).Txs.length ≤ 9223372036854775807 ∧ (∀ x ∈ (TBlock.mk 0 1 0 1 0 ([] : List TTx)).Txs, TD x) ∧ (∀ x ∈ (TBlock.mk r3 r4 r5 r6 r7 r8).Txs, TD x)) ∧ let r10 : Bool := sameB (TBlock.mk 0 1 0 1 0 ([] : List TTx)) (TBlock.mk r3 r4 r5 r6 r7 r8)
 r10 = r0) ∧
(r9 = false →
 false = r0)) ∧
((r2 == 0) = false →
 false = r0)) ∧
(((r1.length : Int) == 40) = false →
 false = r0))) : l47_awake_Body (()) (r0, ()) := WPh.of_eq (by kernel_rfl) h
theorem bd10 : Callable Try.prog 10 := ⟨by rw [Try.func10]; kernel_rfl, by rw [Try.func10]; show some _ ≠ some _; decide⟩
theorem l47_awake_body : l47_awake_Body (()) ((true : Bool), ()) := by
  have r1 : BR ⟨0, 1, 0, 1, 0, []⟩ := ⟨by decide, by decide, by decide, by decide, by decide, (by intro x hx; cases hx)⟩
  have v1 : validB ⟨0, 1, 0, 1, 0, []⟩ = 0 := by decide +kernel
  have m1 : mineS ⟨0, 1, 0, 1, 0, []⟩ 1 = ⟨⟨0, 1, 0, 1, 0, []⟩, true⟩ := by
    unfold mineS
    rw [if_neg (by rw [v1]; decide)]
    exact if_pos (Int.tmod_one _)
  have l1 : (encBk ⟨0, 1, 0, 1, 0, []⟩).length = 40 := by simp [encBk]
  have s1 : sameB ⟨0, 1, 0, 1, 0, []⟩ ⟨0, 1, 0, 1, 0, []⟩ = true := decide_eq_true ⟨rfl, rfl, rfl, rfl, rfl, rfl, fun i hi => absurd hi (Nat.not_lt_zero i)⟩
  refine l47_awake_in ?_
  simp [r1, v1, m1, l1, s1]
noncomputable def l47_awake_con : Con TB.den := l47_awake_sh.totR fun x => ((true : Bool), ())
theorem l47_awake_ok : l47_awake_con.Ok Try.prog TB := Con.ok_tot l47_awake_sh bd10 fun x => l47_awake_snd (l47_awake_body )
end Go.Proofs.Ytnmakgfmimagmaa
namespace Go.Proofs.Ytnmakgfmimagmaa
open Go Go.Bv Go.Cv Go.Md Go.RowKit
def r41_Small_sh : Con TB.den := Con.mk0 14 [.agg [.d (.int .u64), .d (.sl (.int .u64)), .d (.sl (.st 0)), .d (.int .u64), .d (.int .u64), .d (.int .u64), .d (.int .u64), .d (.int .u64), .d (.int .i64), .d (.sl (.int .u8))], .one (.d (.int .i64))] [] (.one (.one (.d (.bool)))) []
abbrev r41_Small_I := HL TB.den (hsT r41_Small_sh.ins (hsOs r41_Small_sh.pre))
abbrev r41_Small_O := HL TB.den (hsV r41_Small_sh.res (hsOs r41_Small_sh.post))
noncomputable def r41_Small_cx : Cx TB := ⟨inf, [], [], 4⟩
noncomputable def r41_Small_code : Code := Try.f14.body.getD .skip
noncomputable def r41_Small_rs : List ResultVar := Try.f14.results.toList
noncomputable def r41_Small_Q1 (o : r41_Small_O) : Exit → TSt TB.den → Prop := thenT TB (fun s => ghs TB [] s fun s => WP TB r41_Small_cx 38 0 (cB (cB r41_Small_code)) .no s (retTQ TB r41_Small_cx r41_Small_sh r41_Small_rs o)) (retTQ TB r41_Small_cx r41_Small_sh r41_Small_rs o)
def r41_Small_T1 : Tm := ⟨[0], [.cells [.d (.int .u64), .d (.sl (.int .u64)), .d (.sl (.st 0)), .d (.int .u64), .d (.int .u64), .d (.int .u64), .d (.int .u64), .d (.int .u64), .d (.int .i64), .d (.sl (.int .u8))]], [1, 2, 5], [.one (.d (.int .i64)), .one (.ptr 0 0), .one (.d (.int .i64))], 1⟩
noncomputable def r41_Small_Q2 (o : r41_Small_O) (nx1 : HL TB.den r41_Small_T1.hs → Prop) : Exit → TSt TB.den → Prop := thenT TB (fun s => r41_Small_T1.mat TB 0 s nx1) (blockT TB 0 (r41_Small_Q1 o))
noncomputable def r41_Small_L1 (o : r41_Small_O) (nx1 : HL TB.den r41_Small_T1.hs → Prop) (i : HL TB.den r41_Small_T1.hs) : Prop := WP TB r41_Small_cx 38 0 (cA (cA (cB (cA (cB r41_Small_code))))) .no (r41_Small_T1.fill TB i) (r41_Small_Q2 o nx1)
noncomputable def r41_Small_A5 (o : r41_Small_O) : An TB := .nd [] .no [] (.lp [] r41_Small_T1 (r41_Small_L1 o) fun nx1 => .no)
noncomputable def r41_Small_an (o : r41_Small_O) : An TB := .nd [] .no [] (.nd [] (r41_Small_A5 o) [] .no)
noncomputable def r41_Small_Body (x : r41_Small_I) (o : r41_Small_O) : Prop := WPh TB r41_Small_cx 38 0 r41_Small_code (r41_Small_an o) (r41_Small_sh.st TB x) (retTQ TB r41_Small_cx r41_Small_sh r41_Small_rs o)
set_option maxRecDepth 100000 in
theorem r41_Small_obl (o : r41_Small_O) : OblH TB r41_Small_cx 38 0 r41_Small_code (r41_Small_an o) (retTQ TB r41_Small_cx r41_Small_sh r41_Small_rs o) :=
  OblH.of_eq (X := (True ∧ ((True ∧ ((∀ nx i, (r41_Small_L1 o) nx i = (r41_Small_L1 o) nx i) ∧ ∀ nx1 : HL TB.den r41_Small_T1.hs → Prop, ((True ∧ (True ∧ True)) ∧ ((True ∧ ((True ∧ True) ∧ True)) ∧ True)))) ∧ (True ∧ True)))) (by kernel_rfl) ⟨trivial, ⟨⟨trivial, ⟨fun _ _ => rfl, fun _ => ⟨⟨trivial, ⟨trivial, trivial⟩⟩, ⟨⟨trivial, ⟨⟨trivial, trivial⟩, trivial⟩⟩, trivial⟩⟩⟩⟩, ⟨trivial, trivial⟩⟩⟩
set_option maxRecDepth 100000 in
theorem r41_Small_snd {x : r41_Small_I} {o : r41_Small_O} (h : r41_Small_Body x o) : SoundH Try.prog r41_Small_sh.f ((r41_Small_sh.args idf x).map (er TB)) ((r41_Small_sh.obs idf x).map (erO TB)) (er TB (r41_Small_sh.val idf o)) ((r41_Small_sh.ops idf o).map (erO TB)) :=
  Con.soundH (c := r41_Small_sh) (C := r41_Small_cx) TBok ⟨inf_ok, all_nil, all_nil⟩ mix Try.func14 (show Try.f14.body = some r41_Small_code by kernel_rfl) (show Try.f14.ntmps = 38 by kernel_rfl) (show Try.f14.results.toList = r41_Small_rs by kernel_rfl) rfl h (r41_Small_obl o)
set_option maxRecDepth 100000 in
theorem r41_Small_in {p0 : TTx} {p1 : Int} {r0 : Bool} (h :
(Md.Loop (p1, (0 : Int), p0.Anchor, p0.Marks, p0.Outs, p0.Deposit, p0.Withdraw, p0.Fee, p0.Account, p0.Nonce, p0.Expiry, p0.Proof, ()) (r41_Small_L1 (r0, ())))) : r41_Small_Body (p0.Anchor, p0.Marks, p0.Outs, p0.Deposit, p0.Withdraw, p0.Fee, p0.Account, p0.Nonce, p0.Expiry, p0.Proof, p1, ()) (r0, ()) := WPh.of_eq (by kernel_rfl) h
def r41_Small_B1 (r0 : Bool) (k1 : Int → Prop) (s1 : Int) (h0_0 : Int) (h0_1 : List Int) (h0_2 : List TOut) (h0_3 : Int) (h0_4 : Int) (h0_5 : Int) (h0_6 : Int) (h0_7 : Int) (h0_8 : Int) (h0_9 : List Int) (s5 : Int) : Prop :=
(decide (s5 < (h0_2.length : Int)) = true →
(0 ≤ s5) ∧ s5 < (h0_2.length : Int) ∧ let v1 : Bool := decide (10 < (((ix h0_2 s5).Cipher).length : Int))
(v1 = true →
 false = r0) ∧
(v1 = false →
 k1 (IntKind.i64.wrap (s5 + 1) : Int))) ∧
(decide (s5 < (h0_2.length : Int)) = false →
(decide ((h0_1.length : Int) ≤ 10) = true →
(decide ((h0_2.length : Int) ≤ 10) = true →
 decide ((h0_9.length : Int) ≤ s1) = r0) ∧
(decide ((h0_2.length : Int) ≤ 10) = false →
 false = r0)) ∧
(decide ((h0_1.length : Int) ≤ 10) = false →
 false = r0))
set_option maxRecDepth 100000 in
theorem r41_Small_lp1 {r0 : Bool} {s1 : Int} {h0_0 : Int} {h0_1 : List Int} {h0_2 : List TOut} {h0_3 : Int} {h0_4 : Int} {h0_5 : Int} {h0_6 : Int} {h0_7 : Int} {h0_8 : Int} {h0_9 : List Int} {s5 : Int} (inv : Int → Prop) (μ : Int → Nat) (h0 : inv s5) (hs : ∀ (s5 : Int), inv s5 → r41_Small_B1 r0 (fun s5q => inv s5q ∧ μ s5q < μ s5) s1 h0_0 h0_1 h0_2 h0_3 h0_4 h0_5 h0_6 h0_7 h0_8 h0_9 s5) : Md.Loop (s1, s5, h0_0, h0_1, h0_2, h0_3, h0_4, h0_5, h0_6, h0_7, h0_8, h0_9, ()) (r41_Small_L1 (r0, ())) :=
  ⟨⟨fun s : Int × Int × Int × (List Int) × (List TOut) × Int × Int × Int × Int × Int × Int × (List Int) × Unit => (s.1 = s1 ∧ s.2.2.1 = h0_0 ∧ s.2.2.2.1 = h0_1 ∧ s.2.2.2.2.1 = h0_2 ∧ s.2.2.2.2.2.1 = h0_3 ∧ s.2.2.2.2.2.2.1 = h0_4 ∧ s.2.2.2.2.2.2.2.1 = h0_5 ∧ s.2.2.2.2.2.2.2.2.1 = h0_6 ∧ s.2.2.2.2.2.2.2.2.2.1 = h0_7 ∧ s.2.2.2.2.2.2.2.2.2.2.1 = h0_8 ∧ s.2.2.2.2.2.2.2.2.2.2.2.1 = h0_9) ∧ inv s.2.1, fun s : Int × Int × Int × (List Int) × (List TOut) × Int × Int × Int × Int × Int × Int × (List Int) × Unit => μ s.2.1, ⟨⟨rfl, rfl, rfl, rfl, rfl, rfl, rfl, rfl, rfl, rfl, rfl⟩, h0⟩, fun (s1p, s5p, h0_0p, h0_1p, h0_2p, h0_3p, h0_4p, h0_5p, h0_6p, h0_7p, h0_8p, h0_9p, ()) ⟨⟨eq0, eq1, eq2, eq3, eq4, eq5, eq6, eq7, eq8, eq9, eq10⟩, hi⟩ => by
    have eq0 : s1p = s1 := eq0; subst s1p; have eq1 : h0_0p = h0_0 := eq1; subst h0_0p; have eq2 : h0_1p = h0_1 := eq2; subst h0_1p; have eq3 : h0_2p = h0_2 := eq3; subst h0_2p; have eq4 : h0_3p = h0_3 := eq4; subst h0_3p; have eq5 : h0_4p = h0_4 := eq5; subst h0_4p; have eq6 : h0_5p = h0_5 := eq6; subst h0_5p; have eq7 : h0_6p = h0_6 := eq7; subst h0_6p; have eq8 : h0_7p = h0_7 := eq8; subst h0_7p; have eq9 : h0_8p = h0_8 := eq9; subst h0_8p; have eq10 : h0_9p = h0_9 := eq10; subst h0_9p; exact mpr_of (by kernel_rfl) ((congrArg (fun k => r41_Small_B1 r0 k s1 h0_0 h0_1 h0_2 h0_3 h0_4 h0_5 h0_6 h0_7 h0_8 h0_9 s5p) (lpk1 (⟨rfl, rfl, rfl, rfl, rfl, rfl, rfl, rfl, rfl, rfl, rfl⟩ : s1 = s1 ∧ h0_0 = h0_0 ∧ h0_1 = h0_1 ∧ h0_2 = h0_2 ∧ h0_3 = h0_3 ∧ h0_4 = h0_4 ∧ h0_5 = h0_5 ∧ h0_6 = h0_6 ∧ h0_7 = h0_7 ∧ h0_8 = h0_8 ∧ h0_9 = h0_9) inv (fun s5q => μ s5q < μ s5p))).mpr (hs s5p hi))⟩⟩
theorem bd14 : Callable Try.prog 14 := ⟨by rw [Try.func14]; kernel_rfl, by rw [Try.func14]; show some _ ≠ some _; decide⟩
theorem r41_Small_body (p0 : TTx) (p1 : Int) (h : p0.Outs.length ≤ 9223372036854775807) : r41_Small_Body (p0.Anchor, p0.Marks, p0.Outs, p0.Deposit, p0.Withdraw, p0.Fee, p0.Account, p0.Nonce, p0.Expiry, p0.Proof, p1, ()) ((smallB p0 p1 : Bool), ()) := by
  refine r41_Small_in (r41_Small_lp1 (fun i => 0 ≤ i ∧ i ≤ p0.Outs.length ∧ ∀ x ∈ p0.Outs.take i.toNat, x.Cipher.length ≤ 10) (fun i => (p0.Outs.length - i).toNat) ⟨by omega, by omega, by simp⟩ ?_)
  rintro i ⟨g0, g1, g2⟩
  refine ⟨fun hh => ?_, fun hh => ?_⟩
  · have hh := of_decide_eq_true hh
    refine ⟨g0, hh, fun e => ?_, fun e => ?_⟩
    · have e := of_decide_eq_true e
      unfold smallB
      have : p0.Outs.all (fun x => decide (x.Cipher.length ≤ 10)) = false := List.all_eq_false.2 ⟨_, ix_mem p0.Outs i g0 hh, by simp; omega⟩
      rw [this]
      simp
    · have e := of_decide_eq_false e
      rw [inc i p0.Outs.length g0 hh (by omega)]
      refine ⟨⟨by omega, by omega, ?_⟩, by omega⟩
      rw [take_succ_ix p0.Outs i g0 hh]
      intro x hx
      rcases List.mem_append.1 hx with hx | hx
      · exact g2 x hx
      · have : x = ix p0.Outs i := by simpa using hx
        rw [this]; omega
  · have hh := of_decide_eq_false hh
    rw [List.take_of_length_le (by omega)] at g2
    unfold smallB
    have : p0.Outs.all (fun x => decide (x.Cipher.length ≤ 10)) = true := by simpa using g2
    rw [this]
    refine ⟨fun h1 => ⟨fun h2 => ?_, fun h2 => ?_⟩, fun h1 => ?_⟩
    · have h1 := of_decide_eq_true h1
      have h2 := of_decide_eq_true h2
      rw [decide_eq_true (p := p0.Marks.length ≤ 10) (by omega), decide_eq_true (p := p0.Outs.length ≤ 10) (by omega)]
      simp
    · have h2 := of_decide_eq_false h2
      rw [decide_eq_false (p := p0.Outs.length ≤ 10) (by omega)]
      simp
    · have h1 := of_decide_eq_false h1
      rw [decide_eq_false (p := p0.Marks.length ≤ 10) (by omega)]
      simp
noncomputable def r41_Small_con : Con TB.den := r41_Small_sh.fnR (fun x => (fun (p0 : TTx) (p1 : Int) => p0.Outs.length ≤ 9223372036854775807) (TTx.mk x.1 x.2.1 x.2.2.1 x.2.2.2.1 x.2.2.2.2.1 x.2.2.2.2.2.1 x.2.2.2.2.2.2.1 x.2.2.2.2.2.2.2.1 x.2.2.2.2.2.2.2.2.1 x.2.2.2.2.2.2.2.2.2.1) x.2.2.2.2.2.2.2.2.2.2.1) fun x => ((fun (p0 : TTx) (p1 : Int) => (smallB p0 p1 : Bool)) (TTx.mk x.1 x.2.1 x.2.2.1 x.2.2.2.1 x.2.2.2.2.1 x.2.2.2.2.2.1 x.2.2.2.2.2.2.1 x.2.2.2.2.2.2.2.1 x.2.2.2.2.2.2.2.2.1 x.2.2.2.2.2.2.2.2.2.1) x.2.2.2.2.2.2.2.2.2.2.1, ())
theorem r41_Small_ok : r41_Small_con.Ok Try.prog TB := Con.ok_fn r41_Small_sh bd14 fun x h => r41_Small_snd (r41_Small_body (TTx.mk x.1 x.2.1 x.2.2.1 x.2.2.2.1 x.2.2.2.2.1 x.2.2.2.2.2.1 x.2.2.2.2.2.2.1 x.2.2.2.2.2.2.2.1 x.2.2.2.2.2.2.2.2.1 x.2.2.2.2.2.2.2.2.2.1) x.2.2.2.2.2.2.2.2.2.2.1 h)
end Go.Proofs.Ytnmakgfmimagmaa
namespace Go.Proofs.Ytnmakgfmimagmaa
open Go Go.Bv Go.Cv Go.Md Go.RowKit
def r47_Small_sh : Con TB.den := Con.mk0 11 [.agg [.d (.int .u64), .d (.int .i64), .d (.int .u64), .d (.int .u64), .d (.int .u64), .d (.sl (.st 1))]] [] (.one (.one (.d (.bool)))) []
abbrev r47_Small_I := HL TB.den (hsT r47_Small_sh.ins (hsOs r47_Small_sh.pre))
abbrev r47_Small_O := HL TB.den (hsV r47_Small_sh.res (hsOs r47_Small_sh.post))
noncomputable def r47_Small_cx : Cx TB := ⟨inf, [r41_Small_con], [], 4⟩
noncomputable def r47_Small_code : Code := Try.f11.body.getD .skip
noncomputable def r47_Small_rs : List ResultVar := Try.f11.results.toList
noncomputable def r47_Small_Q1 (o : r47_Small_O) : Exit → TSt TB.den → Prop := thenT TB (fun s => ghs TB [] s fun s => WP TB r47_Small_cx 22 0 (cB (cB (cB r47_Small_code))) .no s (retTQ TB r47_Small_cx r47_Small_sh r47_Small_rs o)) (retTQ TB r47_Small_cx r47_Small_sh r47_Small_rs o)
def r47_Small_T1 : Tm := ⟨[0], [.cells [.d (.int .u64), .d (.int .i64), .d (.int .u64), .d (.int .u64), .d (.int .u64), .d (.sl (.st 1))]], [1, 3], [.one (.ptr 0 0), .one (.d (.int .i64))], 1⟩
noncomputable def r47_Small_Q2 (o : r47_Small_O) (nx1 : HL TB.den r47_Small_T1.hs → Prop) : Exit → TSt TB.den → Prop := thenT TB (fun s => r47_Small_T1.mat TB 0 s nx1) (blockT TB 0 (r47_Small_Q1 o))
noncomputable def r47_Small_L1 (o : r47_Small_O) (nx1 : HL TB.den r47_Small_T1.hs → Prop) (i : HL TB.den r47_Small_T1.hs) : Prop := WP TB r47_Small_cx 22 0 (cA (cA (cB (cA (cB (cB r47_Small_code)))))) .no (r47_Small_T1.fill TB i) (r47_Small_Q2 o nx1)
noncomputable def r47_Small_A5 (o : r47_Small_O) : An TB := .nd [] .no [] (.lp [] r47_Small_T1 (r47_Small_L1 o) fun nx1 => .no)
noncomputable def r47_Small_an (o : r47_Small_O) : An TB := .nd [] .no [] (.nd [] .no [] (.nd [] (r47_Small_A5 o) [] .no))
noncomputable def r47_Small_Body (x : r47_Small_I) (o : r47_Small_O) : Prop := WPh TB r47_Small_cx 22 0 r47_Small_code (r47_Small_an o) (r47_Small_sh.st TB x) (retTQ TB r47_Small_cx r47_Small_sh r47_Small_rs o)
set_option maxRecDepth 100000 in
theorem r47_Small_obl (o : r47_Small_O) : OblH TB r47_Small_cx 22 0 r47_Small_code (r47_Small_an o) (retTQ TB r47_Small_cx r47_Small_sh r47_Small_rs o) :=
  OblH.of_eq (X := (True ∧ ((True ∧ ((True ∧ True) ∧ True)) ∧ ((True ∧ ((∀ nx i, (r47_Small_L1 o) nx i = (r47_Small_L1 o) nx i) ∧ ∀ nx1 : HL TB.den r47_Small_T1.hs → Prop, ((True ∧ (True ∧ True)) ∧ ((True ∧ ((True ∧ True) ∧ True)) ∧ True)))) ∧ (True ∧ True))))) (by kernel_rfl) ⟨trivial, ⟨⟨trivial, ⟨⟨trivial, trivial⟩, trivial⟩⟩, ⟨⟨trivial, ⟨fun _ _ => rfl, fun _ => ⟨⟨trivial, ⟨trivial, trivial⟩⟩, ⟨⟨trivial, ⟨⟨trivial, trivial⟩, trivial⟩⟩, trivial⟩⟩⟩⟩, ⟨trivial, trivial⟩⟩⟩⟩
set_option maxRecDepth 100000 in
theorem r47_Small_snd {x : r47_Small_I} {o : r47_Small_O} (h : r47_Small_Body x o) : SoundH Try.prog r47_Small_sh.f ((r47_Small_sh.args idf x).map (er TB)) ((r47_Small_sh.obs idf x).map (erO TB)) (er TB (r47_Small_sh.val idf o)) ((r47_Small_sh.ops idf o).map (erO TB)) :=
  Con.soundH (c := r47_Small_sh) (C := r47_Small_cx) TBok ⟨inf_ok, (all_cons r41_Small_ok all_nil), all_nil⟩ mix Try.func11 (show Try.f11.body = some r47_Small_code by kernel_rfl) (show Try.f11.ntmps = 22 by kernel_rfl) (show Try.f11.results.toList = r47_Small_rs by kernel_rfl) rfl h (r47_Small_obl o)
set_option maxRecDepth 100000 in
theorem r47_Small_in {p0 : TBlock} {r0 : Bool} (h :
((decide (6 < (p0.Txs.length : Int)) = true →
 false = r0) ∧
(decide (6 < (p0.Txs.length : Int)) = false →
 Md.Loop ((0 : Int), p0.Parent, p0.Height, p0.Miner, p0.Work, p0.Nonce, p0.Txs, ()) (r47_Small_L1 (r0, ()))))) : r47_Small_Body (p0.Parent, p0.Height, p0.Miner, p0.Work, p0.Nonce, p0.Txs, ()) (r0, ()) := WPh.of_eq (by kernel_rfl) h
def r47_Small_B1 (r0 : Bool) (k1 : Int → Prop) (h0_0 : Int) (h0_1 : Int) (h0_2 : Int) (h0_3 : Int) (h0_4 : Int) (h0_5 : List TTx) (s3 : Int) : Prop :=
(decide (s3 < (h0_5.length : Int)) = true →
(0 ≤ s3) ∧ s3 < (h0_5.length : Int) ∧ ((ix h0_5 s3).Outs.length ≤ 9223372036854775807) ∧ ((!smallB (ix h0_5 s3) (100 : Int)) = true →
 false = r0) ∧
((!smallB (ix h0_5 s3) (100 : Int)) = false →
 k1 (IntKind.i64.wrap (s3 + 1) : Int))) ∧
(decide (s3 < (h0_5.length : Int)) = false →
 true = r0)
set_option maxRecDepth 100000 in
theorem r47_Small_lp1 {r0 : Bool} {h0_0 : Int} {h0_1 : Int} {h0_2 : Int} {h0_3 : Int} {h0_4 : Int} {h0_5 : List TTx} {s3 : Int} (inv : Int → Prop) (μ : Int → Nat) (h0 : inv s3) (hs : ∀ (s3 : Int), inv s3 → r47_Small_B1 r0 (fun s3q => inv s3q ∧ μ s3q < μ s3) h0_0 h0_1 h0_2 h0_3 h0_4 h0_5 s3) : Md.Loop (s3, h0_0, h0_1, h0_2, h0_3, h0_4, h0_5, ()) (r47_Small_L1 (r0, ())) :=
  ⟨⟨fun s : Int × Int × Int × Int × Int × Int × (List TTx) × Unit => (s.2.1 = h0_0 ∧ s.2.2.1 = h0_1 ∧ s.2.2.2.1 = h0_2 ∧ s.2.2.2.2.1 = h0_3 ∧ s.2.2.2.2.2.1 = h0_4 ∧ s.2.2.2.2.2.2.1 = h0_5) ∧ inv s.1, fun s : Int × Int × Int × Int × Int × Int × (List TTx) × Unit => μ s.1, ⟨⟨rfl, rfl, rfl, rfl, rfl, rfl⟩, h0⟩, fun (s3p, h0_0p, h0_1p, h0_2p, h0_3p, h0_4p, h0_5p, ()) ⟨⟨eq0, eq1, eq2, eq3, eq4, eq5⟩, hi⟩ => by
    have eq0 : h0_0p = h0_0 := eq0; subst h0_0p; have eq1 : h0_1p = h0_1 := eq1; subst h0_1p; have eq2 : h0_2p = h0_2 := eq2; subst h0_2p; have eq3 : h0_3p = h0_3 := eq3; subst h0_3p; have eq4 : h0_4p = h0_4 := eq4; subst h0_4p; have eq5 : h0_5p = h0_5 := eq5; subst h0_5p; exact mpr_of (by kernel_rfl) ((congrArg (fun k => r47_Small_B1 r0 k h0_0 h0_1 h0_2 h0_3 h0_4 h0_5 s3p) (lpk1 (⟨rfl, rfl, rfl, rfl, rfl, rfl⟩ : h0_0 = h0_0 ∧ h0_1 = h0_1 ∧ h0_2 = h0_2 ∧ h0_3 = h0_3 ∧ h0_4 = h0_4 ∧ h0_5 = h0_5) inv (fun s3q => μ s3q < μ s3p))).mpr (hs s3p hi))⟩⟩
theorem bd11 : Callable Try.prog 11 := ⟨by rw [Try.func11]; kernel_rfl, by rw [Try.func11]; show some _ ≠ some _; decide⟩
theorem r47_Small_body (p0 : TBlock) (h : ∀ x ∈ p0.Txs, x.Outs.length ≤ 9223372036854775807) : r47_Small_Body (p0.Parent, p0.Height, p0.Miner, p0.Work, p0.Nonce, p0.Txs, ()) ((smallBk p0 : Bool), ()) := by
  refine r47_Small_in ⟨fun e => ?_, fun e => ?_⟩
  · have e := of_decide_eq_true e
    unfold smallBk
    rw [decide_eq_false (p := p0.Txs.length ≤ 6) (by omega)]
    rfl
  · have e := of_decide_eq_false e
    refine r47_Small_lp1 (fun i => 0 ≤ i ∧ i ≤ p0.Txs.length ∧ ∀ x ∈ p0.Txs.take i.toNat, smallB x 100 = true) (fun i => (p0.Txs.length - i).toNat) ⟨by omega, by omega, by simp⟩ ?_
    rintro i ⟨g0, g1, g2⟩
    refine ⟨fun hh => ?_, fun hh => ?_⟩
    · have hh := of_decide_eq_true hh
      have hm := ix_mem p0.Txs i g0 hh
      rw [inc i p0.Txs.length g0 hh (by omega)]
      refine ⟨g0, hh, h _ hm, fun e2 => ?_, fun e2 => ⟨⟨by omega, by omega, ?_⟩, by omega⟩⟩
      · have e2 : smallB (ix p0.Txs i) 100 = false := by simpa using e2
        unfold smallBk
        have : p0.Txs.all (fun t => smallB t 100) = false := List.all_eq_false.2 ⟨_, hm, by simp [e2]⟩
        rw [this]
        simp
      · rw [take_succ_ix p0.Txs i g0 hh]
        intro t ht
        rcases List.mem_append.1 ht with ht | ht
        · exact g2 t ht
        · rw [List.mem_singleton.1 ht]; simpa using e2
    · have hh := of_decide_eq_false hh
      rw [List.take_of_length_le (by omega)] at g2
      unfold smallBk
      rw [decide_eq_true (p := p0.Txs.length ≤ 6) (by omega), List.all_eq_true.2 g2]
      rfl
noncomputable def r47_Small_con : Con TB.den := r47_Small_sh.fnR (fun x => (fun (p0 : TBlock) => ∀ x ∈ p0.Txs, x.Outs.length ≤ 9223372036854775807) (TBlock.mk x.1 x.2.1 x.2.2.1 x.2.2.2.1 x.2.2.2.2.1 x.2.2.2.2.2.1)) fun x => ((fun (p0 : TBlock) => (smallBk p0 : Bool)) (TBlock.mk x.1 x.2.1 x.2.2.1 x.2.2.2.1 x.2.2.2.2.1 x.2.2.2.2.2.1), ())
theorem r47_Small_ok : r47_Small_con.Ok Try.prog TB := Con.ok_fn r47_Small_sh bd11 fun x h => r47_Small_snd (r47_Small_body (TBlock.mk x.1 x.2.1 x.2.2.1 x.2.2.2.1 x.2.2.2.2.1 x.2.2.2.2.2.1) h)
end Go.Proofs.Ytnmakgfmimagmaa
namespace Go.Proofs.Ytnmakgfmimagmaa
open Go Go.Bv Go.Cv Go.Md Go.RowKit
def r32_Valid_sh : Con TB.den := Con.mk0 32 [.agg [.d (.int .u64), .d (.int .u64)]] [] (.one (.one (.d (.bool)))) []
abbrev r32_Valid_I := HL TB.den (hsT r32_Valid_sh.ins (hsOs r32_Valid_sh.pre))
abbrev r32_Valid_O := HL TB.den (hsV r32_Valid_sh.res (hsOs r32_Valid_sh.post))
noncomputable def r32_Valid_cx : Cx TB := ⟨inf, [], [], 4⟩
noncomputable def r32_Valid_code : Code := Try.f32.body.getD .skip
noncomputable def r32_Valid_rs : List ResultVar := Try.f32.results.toList
noncomputable def r32_Valid_an (o : r32_Valid_O) : An TB := .no
noncomputable def r32_Valid_Body (x : r32_Valid_I) (o : r32_Valid_O) : Prop := WPh TB r32_Valid_cx 21 0 r32_Valid_code (r32_Valid_an o) (r32_Valid_sh.st TB x) (retTQ TB r32_Valid_cx r32_Valid_sh r32_Valid_rs o)
set_option maxRecDepth 100000 in
theorem r32_Valid_obl (o : r32_Valid_O) : OblH TB r32_Valid_cx 21 0 r32_Valid_code (r32_Valid_an o) (retTQ TB r32_Valid_cx r32_Valid_sh r32_Valid_rs o) :=
  OblH.of_eq (X := (True ∧ (True ∧ True))) (by kernel_rfl) ⟨trivial, ⟨trivial, trivial⟩⟩
set_option maxRecDepth 100000 in
theorem r32_Valid_snd {x : r32_Valid_I} {o : r32_Valid_O} (h : r32_Valid_Body x o) : SoundH Try.prog r32_Valid_sh.f ((r32_Valid_sh.args idf x).map (er TB)) ((r32_Valid_sh.obs idf x).map (erO TB)) (er TB (r32_Valid_sh.val idf o)) ((r32_Valid_sh.ops idf o).map (erO TB)) :=
  Con.soundH (c := r32_Valid_sh) (C := r32_Valid_cx) TBok ⟨inf_ok, all_nil, all_nil⟩ mix Try.func32 (show Try.f32.body = some r32_Valid_code by kernel_rfl) (show Try.f32.ntmps = 21 by kernel_rfl) (show Try.f32.results.toList = r32_Valid_rs by kernel_rfl) rfl h (r32_Valid_obl o)
set_option maxRecDepth 100000 in
theorem r32_Valid_in {p0 : TA2} {r0 : Bool} (h :
((decide (p0.a0 < 18446744069414584321) = true →
(decide (p0.a1 < 18446744069414584321) = true →
(decide (0 < p0.a0) = true →
 true = r0) ∧
(decide (0 < p0.a0) = false →
 decide (0 < p0.a1) = r0)) ∧
(decide (p0.a1 < 18446744069414584321) = false →
 false = r0)) ∧
(decide (p0.a0 < 18446744069414584321) = false →
 false = r0))) : r32_Valid_Body (p0.a0, p0.a1, ()) (r0, ()) := WPh.of_eq (by kernel_rfl) h
theorem bd32 : Callable Try.prog 32 := ⟨by rw [Try.func32]; kernel_rfl, by rw [Try.func32]; show some _ ≠ some _; decide⟩
theorem r32_Valid_body (p0 : TA2) (h : 0 ≤ p0.a0 ∧ 0 ≤ p0.a1) : r32_Valid_Body (p0.a0, p0.a1, ()) ((vPoint p0.a0 p0.a1 : Bool), ()) := by
  refine r32_Valid_in ?_
  unfold vPoint
  repeat' (apply And.intro <;> intro h)
  all_goals grind
noncomputable def r32_Valid_con : Con TB.den := r32_Valid_sh.fnR (fun x => (fun (p0 : TA2) => 0 ≤ p0.a0 ∧ 0 ≤ p0.a1) (TA2.mk x.1 x.2.1)) fun x => ((fun (p0 : TA2) => (vPoint p0.a0 p0.a1 : Bool)) (TA2.mk x.1 x.2.1), ())
theorem r32_Valid_ok : r32_Valid_con.Ok Try.prog TB := Con.ok_fn r32_Valid_sh bd32 fun x h => r32_Valid_snd (r32_Valid_body (TA2.mk x.1 x.2.1) h)
end Go.Proofs.Ytnmakgfmimagmaa
namespace Go.Proofs.Ytnmakgfmimagmaa
open Go Go.Bv Go.Cv Go.Md Go.RowKit
def r41_reduced_sh : Con TB.den := Con.mk0 31 [.one (.d (.sl (.int .u64)))] [] (.one (.one (.d (.bool)))) []
abbrev r41_reduced_I := HL TB.den (hsT r41_reduced_sh.ins (hsOs r41_reduced_sh.pre))
abbrev r41_reduced_O := HL TB.den (hsV r41_reduced_sh.res (hsOs r41_reduced_sh.post))
noncomputable def r41_reduced_cx : Cx TB := ⟨inf, [], [], 4⟩
noncomputable def r41_reduced_code : Code := Try.f31.body.getD .skip
noncomputable def r41_reduced_rs : List ResultVar := Try.f31.results.toList
noncomputable def r41_reduced_Q1 (o : r41_reduced_O) : Exit → TSt TB.den → Prop := thenT TB (fun s => ghs TB [] s fun s => WP TB r41_reduced_cx 15 0 (cB (cB r41_reduced_code)) .no s (retTQ TB r41_reduced_cx r41_reduced_sh r41_reduced_rs o)) (retTQ TB r41_reduced_cx r41_reduced_sh r41_reduced_rs o)
def r41_reduced_T1 : Tm := ⟨[], [], [0, 3], [.one (.d (.sl (.int .u64))), .one (.d (.int .i64))], 0⟩
noncomputable def r41_reduced_Q2 (o : r41_reduced_O) (nx1 : HL TB.den r41_reduced_T1.hs → Prop) : Exit → TSt TB.den → Prop := thenT TB (fun s => r41_reduced_T1.mat TB 0 s nx1) (blockT TB 0 (r41_reduced_Q1 o))
noncomputable def r41_reduced_L1 (o : r41_reduced_O) (nx1 : HL TB.den r41_reduced_T1.hs → Prop) (i : HL TB.den r41_reduced_T1.hs) : Prop := WP TB r41_reduced_cx 15 0 (cA (cA (cB (cA (cB r41_reduced_code))))) .no (r41_reduced_T1.fill TB i) (r41_reduced_Q2 o nx1)
noncomputable def r41_reduced_A5 (o : r41_reduced_O) : An TB := .nd [] .no [] (.lp [] r41_reduced_T1 (r41_reduced_L1 o) fun nx1 => .no)
noncomputable def r41_reduced_an (o : r41_reduced_O) : An TB := .nd [] .no [] (.nd [] (r41_reduced_A5 o) [] .no)
noncomputable def r41_reduced_Body (x : r41_reduced_I) (o : r41_reduced_O) : Prop := WPh TB r41_reduced_cx 15 0 r41_reduced_code (r41_reduced_an o) (r41_reduced_sh.st TB x) (retTQ TB r41_reduced_cx r41_reduced_sh r41_reduced_rs o)
set_option maxRecDepth 100000 in
theorem r41_reduced_obl (o : r41_reduced_O) : OblH TB r41_reduced_cx 15 0 r41_reduced_code (r41_reduced_an o) (retTQ TB r41_reduced_cx r41_reduced_sh r41_reduced_rs o) :=
  OblH.of_eq (X := (True ∧ ((True ∧ ((∀ nx i, (r41_reduced_L1 o) nx i = (r41_reduced_L1 o) nx i) ∧ ∀ nx1 : HL TB.den r41_reduced_T1.hs → Prop, ((True ∧ (True ∧ True)) ∧ ((True ∧ ((True ∧ True) ∧ True)) ∧ True)))) ∧ (True ∧ True)))) (by kernel_rfl) ⟨trivial, ⟨⟨trivial, ⟨fun _ _ => rfl, fun _ => ⟨⟨trivial, ⟨trivial, trivial⟩⟩, ⟨⟨trivial, ⟨⟨trivial, trivial⟩, trivial⟩⟩, trivial⟩⟩⟩⟩, ⟨trivial, trivial⟩⟩⟩
set_option maxRecDepth 100000 in
theorem r41_reduced_snd {x : r41_reduced_I} {o : r41_reduced_O} (h : r41_reduced_Body x o) : SoundH Try.prog r41_reduced_sh.f ((r41_reduced_sh.args idf x).map (er TB)) ((r41_reduced_sh.obs idf x).map (erO TB)) (er TB (r41_reduced_sh.val idf o)) ((r41_reduced_sh.ops idf o).map (erO TB)) :=
  Con.soundH (c := r41_reduced_sh) (C := r41_reduced_cx) TBok ⟨inf_ok, all_nil, all_nil⟩ mix Try.func31 (show Try.f31.body = some r41_reduced_code by kernel_rfl) (show Try.f31.ntmps = 15 by kernel_rfl) (show Try.f31.results.toList = r41_reduced_rs by kernel_rfl) rfl h (r41_reduced_obl o)
set_option maxRecDepth 100000 in
theorem r41_reduced_in {p0 : List Int} {r0 : Bool} (h :
(Md.Loop (p0, (0 : Int), ()) (r41_reduced_L1 (r0, ())))) : r41_reduced_Body (p0, ()) (r0, ()) := WPh.of_eq (by kernel_rfl) h
def r41_reduced_B1 (r0 : Bool) (k1 : Int → Prop) (s0 : List Int) (s3 : Int) : Prop :=
(decide (s3 < (s0.length : Int)) = true →
(0 ≤ s3) ∧ s3 < (s0.length : Int) ∧ let v1 : Bool := decide (18446744069414584321 ≤ (ix s0 s3))
(v1 = true →
 false = r0) ∧
(v1 = false →
 k1 (IntKind.i64.wrap (s3 + 1) : Int))) ∧
(decide (s3 < (s0.length : Int)) = false →
 true = r0)
set_option maxRecDepth 100000 in
theorem r41_reduced_lp1 {r0 : Bool} {s0 : List Int} {s3 : Int} (inv : Int → Prop) (μ : Int → Nat) (h0 : inv s3) (hs : ∀ (s3 : Int), inv s3 → r41_reduced_B1 r0 (fun s3q => inv s3q ∧ μ s3q < μ s3) s0 s3) : Md.Loop (s0, s3, ()) (r41_reduced_L1 (r0, ())) :=
  ⟨⟨fun s : (List Int) × Int × Unit => (s.1 = s0) ∧ inv s.2.1, fun s : (List Int) × Int × Unit => μ s.2.1, ⟨rfl, h0⟩, fun (s0p, s3p, ()) ⟨eq0, hi⟩ => by
    have eq0 : s0p = s0 := eq0; subst s0p; exact mpr_of (by kernel_rfl) ((congrArg (fun k => r41_reduced_B1 r0 k s0 s3p) (lpk1 (rfl : s0 = s0) inv (fun s3q => μ s3q < μ s3p))).mpr (hs s3p hi))⟩⟩
theorem bd31 : Callable Try.prog 31 := ⟨by rw [Try.func31]; kernel_rfl, by rw [Try.func31]; show some _ ≠ some _; decide⟩
theorem r41_reduced_body (p0 : List Int) (h : p0.length ≤ 9223372036854775807) : r41_reduced_Body (p0, ()) ((p0.all (fun x => decide (x < 18446744069414584321)) : Bool), ()) := by
  refine r41_reduced_in (r41_reduced_lp1 (fun i => 0 ≤ i ∧ i ≤ p0.length ∧ ∀ x ∈ p0.take i.toNat, x < 18446744069414584321) (fun i => (p0.length - i).toNat) ⟨by omega, by omega, by simp⟩ ?_)
  rintro i ⟨g0, g1, g2⟩
  refine ⟨fun hh => ?_, fun hh => ?_⟩
  · have hh := of_decide_eq_true hh
    refine ⟨g0, hh, fun e => ?_, fun e => ?_⟩
    · have e := of_decide_eq_true e
      exact (List.all_eq_false.2 ⟨_, ix_mem p0 i g0 hh, by simp; omega⟩).symm
    · have e := of_decide_eq_false e
      rw [inc i p0.length g0 hh (by omega)]
      refine ⟨⟨by omega, by omega, ?_⟩, by omega⟩
      rw [take_succ_ix p0 i g0 hh]
      intro x hx
      rcases List.mem_append.1 hx with hx | hx
      · exact g2 x hx
      · have : x = ix p0 i := by simpa using hx
        omega
  · have hh := of_decide_eq_false hh
    rw [List.take_of_length_le (by omega)] at g2
    symm
    simpa using g2
noncomputable def r41_reduced_con : Con TB.den := r41_reduced_sh.fnR (fun x => (fun (p0 : List Int) => p0.length ≤ 9223372036854775807) x.1) fun x => ((fun (p0 : List Int) => (p0.all (fun x => decide (x < 18446744069414584321)) : Bool)) x.1, ())
theorem r41_reduced_ok : r41_reduced_con.Ok Try.prog TB := Con.ok_fn r41_reduced_sh bd31 fun x h => r41_reduced_snd (r41_reduced_body x.1 h)
end Go.Proofs.Ytnmakgfmimagmaa
namespace Go.Proofs.Ytnmakgfmimagmaa
open Go Go.Bv Go.Cv Go.Md Go.RowKit
def r41_Valid_sh : Con TB.den := Con.mk0 15 [.agg [.d (.int .u64), .d (.sl (.int .u64)), .d (.sl (.st 0)), .d (.int .u64), .d (.int .u64), .d (.int .u64), .d (.int .u64), .d (.int .u64), .d (.int .i64), .d (.sl (.int .u8))]] [] (.one (.one (.d (.int .i64)))) []
abbrev r41_Valid_I := HL TB.den (hsT r41_Valid_sh.ins (hsOs r41_Valid_sh.pre))
abbrev r41_Valid_O := HL TB.den (hsV r41_Valid_sh.res (hsOs r41_Valid_sh.post))
noncomputable def r41_Valid_cx : Cx TB := ⟨inf, [r41_reduced_con, r32_Valid_con], [], 4⟩
noncomputable def r41_Valid_code : Code := Try.f15.body.getD .skip
noncomputable def r41_Valid_rs : List ResultVar := Try.f15.results.toList
def r41_Valid_TJ2 : Tm := ⟨[0], [.cells [.d (.int .u64), .d (.sl (.int .u64)), .d (.sl (.st 0)), .d (.int .u64), .d (.int .u64), .d (.int .u64), .d (.int .u64), .d (.int .u64), .d (.int .i64), .d (.sl (.int .u8))]], [1], [.one (.ptr 0 0)], 2⟩
noncomputable def r41_Valid_J2d (o : r41_Valid_O) (i : HL TB.den r41_Valid_TJ2.hs) : Prop := ghs TB [] (r41_Valid_TJ2.fill TB i) fun s => WP TB r41_Valid_cx 149 0 (cB (cB (cB (cB (cB (cB r41_Valid_code)))))) .no s (retTQ TB r41_Valid_cx r41_Valid_sh r41_Valid_rs o)
structure r41_Valid_J2 (o : r41_Valid_O) (i : HL TB.den r41_Valid_TJ2.hs) : Prop where
  h : r41_Valid_J2d o i
def r41_Valid_TJ1 : Tm := ⟨[0], [.cells [.d (.int .u64), .d (.sl (.int .u64)), .d (.sl (.st 0)), .d (.int .u64), .d (.int .u64), .d (.int .u64), .d (.int .u64), .d (.int .u64), .d (.int .i64), .d (.sl (.int .u8))]], [1], [.one (.ptr 0 0)], 2⟩
noncomputable def r41_Valid_J1d (o : r41_Valid_O) (i : HL TB.den r41_Valid_TJ1.hs) : Prop := ghs TB [] (r41_Valid_TJ1.fill TB i) fun s => WP TB r41_Valid_cx 149 0 (cB (cB (cB (cB (cB r41_Valid_code))))) (.jn r41_Valid_TJ2 (r41_Valid_J2 o) [] .no [] .no) s (retTQ TB r41_Valid_cx r41_Valid_sh r41_Valid_rs o)
structure r41_Valid_J1 (o : r41_Valid_O) (i : HL TB.den r41_Valid_TJ1.hs) : Prop where
  h : r41_Valid_J1d o i
noncomputable def r41_Valid_A5 (o : r41_Valid_O) : An TB := .jn r41_Valid_TJ1 (r41_Valid_J1 o) [] .no [] (.jn r41_Valid_TJ2 (r41_Valid_J2 o) [] .no [] .no)
noncomputable def r41_Valid_Q6 (o : r41_Valid_O) : Exit → TSt TB.den → Prop := thenT TB (fun s => ghs TB [] s fun s => WP TB r41_Valid_cx 149 0 (cB (cB (cB (cB r41_Valid_code)))) (r41_Valid_A5 o) s (retTQ TB r41_Valid_cx r41_Valid_sh r41_Valid_rs o)) (retTQ TB r41_Valid_cx r41_Valid_sh r41_Valid_rs o)
def r41_Valid_T3 : Tm := ⟨[0], [.cells [.d (.int .u64), .d (.sl (.int .u64)), .d (.sl (.st 0)), .d (.int .u64), .d (.int .u64), .d (.int .u64), .d (.int .u64), .d (.int .u64), .d (.int .i64), .d (.sl (.int .u8))]], [1, 5], [.one (.ptr 0 0), .one (.d (.int .i64))], 2⟩
noncomputable def r41_Valid_Q7 (o : r41_Valid_O) (nx3 : HL TB.den r41_Valid_T3.hs → Prop) : Exit → TSt TB.den → Prop := thenT TB (fun s => r41_Valid_T3.mat TB 0 s nx3) (blockT TB 4 (r41_Valid_Q6 o))
noncomputable def r41_Valid_L3 (o : r41_Valid_O) (nx3 : HL TB.den r41_Valid_T3.hs → Prop) (i : HL TB.den r41_Valid_T3.hs) : Prop := WP TB r41_Valid_cx 149 0 (cA (cA (cB (cA (cB (cB (cB r41_Valid_code))))))) .no (r41_Valid_T3.fill TB i) (r41_Valid_Q7 o nx3)
noncomputable def r41_Valid_A10 (o : r41_Valid_O) : An TB := .nd [] .no [] (.lp [] r41_Valid_T3 (r41_Valid_L3 o) fun nx3 => .no)
noncomputable def r41_Valid_Q11 (o : r41_Valid_O) : Exit → TSt TB.den → Prop := thenT TB (fun s => ghs TB [] s fun s => WP TB r41_Valid_cx 149 0 (cB (cB (cB r41_Valid_code))) (.nd [] (r41_Valid_A10 o) [] (r41_Valid_A5 o)) s (retTQ TB r41_Valid_cx r41_Valid_sh r41_Valid_rs o)) (retTQ TB r41_Valid_cx r41_Valid_sh r41_Valid_rs o)
def r41_Valid_T2 : Tm := ⟨[0], [.cells [.d (.int .u64), .d (.sl (.int .u64)), .d (.sl (.st 0)), .d (.int .u64), .d (.int .u64), .d (.int .u64), .d (.int .u64), .d (.int .u64), .d (.int .i64), .d (.sl (.int .u8))]], [1, 3], [.one (.ptr 0 0), .one (.d (.int .i64))], 2⟩
noncomputable def r41_Valid_Q12 (o : r41_Valid_O) (nx2 : HL TB.den r41_Valid_T2.hs → Prop) : Exit → TSt TB.den → Prop := thenT TB (fun s => r41_Valid_T2.mat TB 0 s nx2) (blockT TB 0 (r41_Valid_Q11 o))
noncomputable def r41_Valid_Q13 (o : r41_Valid_O) (nx2 : HL TB.den r41_Valid_T2.hs → Prop) : Exit → TSt TB.den → Prop := thenT TB (fun s => ghs TB [] s fun s => WP TB r41_Valid_cx 149 0 (cB (cB (cA (cA (cB (cA (cB (cB r41_Valid_code)))))))) .no s (r41_Valid_Q12 o nx2)) (r41_Valid_Q12 o nx2)
def r41_Valid_T1 : Tm := ⟨[0], [.cells [.d (.int .u64), .d (.sl (.int .u64)), .d (.sl (.st 0)), .d (.int .u64), .d (.int .u64), .d (.int .u64), .d (.int .u64), .d (.int .u64), .d (.int .i64), .d (.sl (.int .u8))]], [1, 3, 4], [.one (.ptr 0 0), .one (.d (.int .i64)), .one (.d (.int .i64))], 2⟩
noncomputable def r41_Valid_Q14 (o : r41_Valid_O) (nx2 : HL TB.den r41_Valid_T2.hs → Prop) (nx1 : HL TB.den r41_Valid_T1.hs → Prop) : Exit → TSt TB.den → Prop := thenT TB (fun s => r41_Valid_T1.mat TB 0 s nx1) (blockT TB 2 (blockT TB 1 (r41_Valid_Q13 o nx2)))
noncomputable def r41_Valid_L1 (o : r41_Valid_O) (nx2 : HL TB.den r41_Valid_T2.hs → Prop) (nx1 : HL TB.den r41_Valid_T1.hs → Prop) (i : HL TB.den r41_Valid_T1.hs) : Prop := WP TB r41_Valid_cx 149 0 (cA (cA (cB (cA (cA (cB (cA (cA (cB (cA (cB (cB r41_Valid_code)))))))))))) .no (r41_Valid_T1.fill TB i) (r41_Valid_Q14 o nx2 nx1)
noncomputable def r41_Valid_A17 (o : r41_Valid_O) (nx2 : HL TB.den r41_Valid_T2.hs → Prop) : An TB := .nd [] .no [] (.lp [] r41_Valid_T1 (r41_Valid_L1 o nx2) fun nx1 => .no)
noncomputable def r41_Valid_L2 (o : r41_Valid_O) (nx2 : HL TB.den r41_Valid_T2.hs → Prop) (i : HL TB.den r41_Valid_T2.hs) : Prop := WP TB r41_Valid_cx 149 0 (cA (cA (cB (cA (cB (cB r41_Valid_code)))))) (.nd [] .no [] (.nd [] (r41_Valid_A17 o nx2) [] .no)) (r41_Valid_T2.fill TB i) (r41_Valid_Q12 o nx2)
noncomputable def r41_Valid_A19 (o : r41_Valid_O) : An TB := .lp [] r41_Valid_T2 (r41_Valid_L2 o) fun nx2 => (.nd [] .no [] (.nd [] (r41_Valid_A17 o nx2) [] .no))
noncomputable def r41_Valid_A20 (o : r41_Valid_O) : An TB := .nd [] (.nd [] .no [] (r41_Valid_A19 o)) [] (.nd [] (r41_Valid_A10 o) [] (r41_Valid_A5 o))
noncomputable def r41_Valid_an (o : r41_Valid_O) : An TB := .nd [] .no [] (.nd [] .no [] (r41_Valid_A20 o))
noncomputable def r41_Valid_Body (x : r41_Valid_I) (o : r41_Valid_O) : Prop := WPh TB r41_Valid_cx 149 0 r41_Valid_code (r41_Valid_an o) (r41_Valid_sh.st TB x) (retTQ TB r41_Valid_cx r41_Valid_sh r41_Valid_rs o)
set_option maxRecDepth 100000 in
theorem r41_Valid_obl (o : r41_Valid_O) : OblH TB r41_Valid_cx 149 0 r41_Valid_code (r41_Valid_an o) (retTQ TB r41_Valid_cx r41_Valid_sh r41_Valid_rs o) :=
  OblH.of_eq (X := (True ∧ ((True ∧ ((True ∧ True) ∧ True)) ∧ ((True ∧ ((∀ nx i, (r41_Valid_L2 o) nx i = (r41_Valid_L2 o) nx i) ∧ ∀ nx2 : HL TB.den r41_Valid_T2.hs → Prop, ((True ∧ (True ∧ True)) ∧ ((True ∧ ((∀ nx i, (r41_Valid_L1 o nx2) nx i = (r41_Valid_L1 o nx2) nx i) ∧ ∀ nx1 : HL TB.den r41_Valid_T1.hs → Prop, ((True ∧ (True ∧ True)) ∧ ((True ∧ ((True ∧ True) ∧ True)) ∧ True)))) ∧ True)))) ∧ ((True ∧ ((∀ nx i, (r41_Valid_L3 o) nx i = (r41_Valid_L3 o) nx i) ∧ ∀ nx3 : HL TB.den r41_Valid_T3.hs → Prop, ((True ∧ (True ∧ True)) ∧ ((True ∧ (True ∧ ((True ∧ True) ∧ True))) ∧ True)))) ∧ ((True ∧ ((True ∧ True) ∧ True)) ∧ (∀ i, (r41_Valid_J1 o) i = (r41_Valid_J1d o) i) ∧ ((True ∧ ((True ∧ True) ∧ True)) ∧ (∀ i, (r41_Valid_J2 o) i = (r41_Valid_J2d o) i) ∧ ((True ∧ ((True ∧ True) ∧ True)) ∧ ((True ∧ ((True ∧ True) ∧ True)) ∧ (True ∧ True)))))))))) (by kernel_rfl) ⟨trivial, ⟨⟨trivial, ⟨⟨trivial, trivial⟩, trivial⟩⟩, ⟨⟨trivial, ⟨fun _ _ => rfl, fun _ => ⟨⟨trivial, ⟨trivial, trivial⟩⟩, ⟨⟨trivial, ⟨fun _ _ => rfl, fun _ => ⟨⟨trivial, ⟨trivial, trivial⟩⟩, ⟨⟨trivial, ⟨⟨trivial, trivial⟩, trivial⟩⟩, trivial⟩⟩⟩⟩, trivial⟩⟩⟩⟩, ⟨⟨trivial, ⟨fun _ _ => rfl, fun _ => ⟨⟨trivial, ⟨trivial, trivial⟩⟩, ⟨⟨trivial, ⟨trivial, ⟨⟨trivial, trivial⟩, trivial⟩⟩⟩, trivial⟩⟩⟩⟩, ⟨⟨trivial, ⟨⟨trivial, trivial⟩, trivial⟩⟩, fun _ => propext ⟨fun h => h.1, fun h => ⟨h⟩⟩, ⟨⟨trivial, ⟨⟨trivial, trivial⟩, trivial⟩⟩, fun _ => propext ⟨fun h => h.1, fun h => ⟨h⟩⟩, ⟨⟨trivial, ⟨⟨trivial, trivial⟩, trivial⟩⟩, ⟨⟨trivial, ⟨⟨trivial, trivial⟩, trivial⟩⟩, ⟨trivial, trivial⟩⟩⟩⟩⟩⟩⟩⟩⟩
set_option maxRecDepth 100000 in
theorem r41_Valid_snd {x : r41_Valid_I} {o : r41_Valid_O} (h : r41_Valid_Body x o) : SoundH Try.prog r41_Valid_sh.f ((r41_Valid_sh.args idf x).map (er TB)) ((r41_Valid_sh.obs idf x).map (erO TB)) (er TB (r41_Valid_sh.val idf o)) ((r41_Valid_sh.ops idf o).map (erO TB)) :=
  Con.soundH (c := r41_Valid_sh) (C := r41_Valid_cx) TBok ⟨inf_ok, (all_cons r41_reduced_ok (all_cons r32_Valid_ok all_nil)), all_nil⟩ mix Try.func15 (show Try.f15.body = some r41_Valid_code by kernel_rfl) (show Try.f15.ntmps = 149 by kernel_rfl) (show Try.f15.results.toList = r41_Valid_rs by kernel_rfl) rfl h (r41_Valid_obl o)
set_option maxRecDepth 100000 in
theorem r41_Valid_in {p0 : TTx} {r0 : Int} (h :
((decide (4 < (p0.Marks.length : Int)) = true →
 1 = r0) ∧
(decide (4 < (p0.Marks.length : Int)) = false →
(decide (4 < (p0.Outs.length : Int)) = true →
 1 = r0) ∧
(decide (4 < (p0.Outs.length : Int)) = false →
(p0.Marks.length ≤ 9223372036854775807) ∧ let r1 : Bool := p0.Marks.all (fun x => decide (x < 18446744069414584321))
((!r1) = true →
 1 = r0) ∧
((!r1) = false →
([p0.Anchor, p0.Account, p0.Nonce].length ≤ 9223372036854775807) ∧ let r2 : Bool := [p0.Anchor, p0.Account, p0.Nonce].all (fun x => decide (x < 18446744069414584321))
((!r2) = true →
 1 = r0) ∧
((!r2) = false →
 Md.Loop ((0 : Int), p0.Anchor, p0.Marks, p0.Outs, p0.Deposit, p0.Withdraw, p0.Fee, p0.Account, p0.Nonce, p0.Expiry, p0.Proof, ()) (r41_Valid_L2 (r0, ())))))))) : r41_Valid_Body (p0.Anchor, p0.Marks, p0.Outs, p0.Deposit, p0.Withdraw, p0.Fee, p0.Account, p0.Nonce, p0.Expiry, p0.Proof, ()) (r0, ()) := WPh.of_eq (by kernel_rfl) h
set_option maxRecDepth 100000 in
theorem r41_Valid_J1_in {r0 : Int} {h0_0 : Int} {h0_1 : List Int} {h0_2 : List TOut} {h0_3 : Int} {h0_4 : Int} {h0_5 : Int} {h0_6 : Int} {h0_7 : Int} {h0_8 : Int} {h0_9 : List Int} (h :
(((h0_3 == 0) = true →
((h0_7 != 0) = true →
 1 = r0) ∧
((h0_7 != 0) = false →
(((h0_1.length : Int) == 0) = true →
 1 = r0) ∧
(((h0_1.length : Int) == 0) = false →
((h0_4 == 0) = true →
((h0_6 != 0) = true →
 1 = r0) ∧
((h0_6 != 0) = false →
 r41_Valid_J2 (r0, ()) (h0_0, h0_1, h0_2, h0_3, h0_4, h0_5, h0_6, h0_7, h0_8, h0_9, ()))) ∧
((h0_4 == 0) = false →
 r41_Valid_J2 (r0, ()) (h0_0, h0_1, h0_2, h0_3, h0_4, h0_5, h0_6, h0_7, h0_8, h0_9, ()))))) ∧
((h0_3 == 0) = false →
 r41_Valid_J2 (r0, ()) (h0_0, h0_1, h0_2, h0_3, h0_4, h0_5, h0_6, h0_7, h0_8, h0_9, ())))) : r41_Valid_J1 (r0, ()) (h0_0, h0_1, h0_2, h0_3, h0_4, h0_5, h0_6, h0_7, h0_8, h0_9, ()) := ⟨mpr_of (by kernel_rfl) h⟩
set_option maxRecDepth 100000 in
theorem r41_Valid_J2_in {r0 : Int} {h0_0 : Int} {h0_1 : List Int} {h0_2 : List TOut} {h0_3 : Int} {h0_4 : Int} {h0_5 : Int} {h0_6 : Int} {h0_7 : Int} {h0_8 : Int} {h0_9 : List Int} (h :
((decide (h0_8 < 0) = true →
 1 = r0) ∧
(decide (h0_8 < 0) = false →
(decide (1048576 < h0_8) = true →
 1 = r0) ∧
(decide (1048576 < h0_8) = false →
(decide (1048576 < (h0_9.length : Int)) = true →
 3 = r0) ∧
(decide (1048576 < (h0_9.length : Int)) = false →
 0 = r0))))) : r41_Valid_J2 (r0, ()) (h0_0, h0_1, h0_2, h0_3, h0_4, h0_5, h0_6, h0_7, h0_8, h0_9, ()) := ⟨mpr_of (by kernel_rfl) h⟩
def r41_Valid_B2 (r0 : Int) (nx2 : HL TB.den r41_Valid_T2.hs → Prop) (k2 : Int → Prop) (h0_0 : Int) (h0_1 : List Int) (h0_2 : List TOut) (h0_3 : Int) (h0_4 : Int) (h0_5 : Int) (h0_6 : Int) (h0_7 : Int) (h0_8 : Int) (h0_9 : List Int) (s3 : Int) : Prop :=
(decide (s3 < (h0_1.length : Int)) = true →
 Md.Loop (s3, (0 : Int), h0_0, h0_1, h0_2, h0_3, h0_4, h0_5, h0_6, h0_7, h0_8, h0_9, ()) (r41_Valid_L1 (r0, ()) nx2)) ∧
(decide (s3 < (h0_1.length : Int)) = false →
 Md.Loop ((0 : Int), h0_0, h0_1, h0_2, h0_3, h0_4, h0_5, h0_6, h0_7, h0_8, h0_9, ()) (r41_Valid_L3 (r0, ())))
set_option maxRecDepth 100000 in
theorem r41_Valid_lp2 {r0 : Int} {h0_0 : Int} {h0_1 : List Int} {h0_2 : List TOut} {h0_3 : Int} {h0_4 : Int} {h0_5 : Int} {h0_6 : Int} {h0_7 : Int} {h0_8 : Int} {h0_9 : List Int} {s3 : Int} (inv : Int → Prop) (μ : Int → Nat) (h0 : inv s3) (hs : ∀ (s3 : Int), inv s3 → r41_Valid_B2 r0 (fun s : Int × Int × (List Int) × (List TOut) × Int × Int × Int × Int × Int × Int × (List Int) × Unit => ((s.2.1 = h0_0 ∧ s.2.2.1 = h0_1 ∧ s.2.2.2.1 = h0_2 ∧ s.2.2.2.2.1 = h0_3 ∧ s.2.2.2.2.2.1 = h0_4 ∧ s.2.2.2.2.2.2.1 = h0_5 ∧ s.2.2.2.2.2.2.2.1 = h0_6 ∧ s.2.2.2.2.2.2.2.2.1 = h0_7 ∧ s.2.2.2.2.2.2.2.2.2.1 = h0_8 ∧ s.2.2.2.2.2.2.2.2.2.2.1 = h0_9) ∧ inv s.1) ∧ μ s.1 < μ s3) (fun s3q => inv s3q ∧ μ s3q < μ s3) h0_0 h0_1 h0_2 h0_3 h0_4 h0_5 h0_6 h0_7 h0_8 h0_9 s3) : Md.Loop (s3, h0_0, h0_1, h0_2, h0_3, h0_4, h0_5, h0_6, h0_7, h0_8, h0_9, ()) (r41_Valid_L2 (r0, ())) :=
  ⟨⟨fun s : Int × Int × (List Int) × (List TOut) × Int × Int × Int × Int × Int × Int × (List Int) × Unit => (s.2.1 = h0_0 ∧ s.2.2.1 = h0_1 ∧ s.2.2.2.1 = h0_2 ∧ s.2.2.2.2.1 = h0_3 ∧ s.2.2.2.2.2.1 = h0_4 ∧ s.2.2.2.2.2.2.1 = h0_5 ∧ s.2.2.2.2.2.2.2.1 = h0_6 ∧ s.2.2.2.2.2.2.2.2.1 = h0_7 ∧ s.2.2.2.2.2.2.2.2.2.1 = h0_8 ∧ s.2.2.2.2.2.2.2.2.2.2.1 = h0_9) ∧ inv s.1, fun s : Int × Int × (List Int) × (List TOut) × Int × Int × Int × Int × Int × Int × (List Int) × Unit => μ s.1, ⟨⟨rfl, rfl, rfl, rfl, rfl, rfl, rfl, rfl, rfl, rfl⟩, h0⟩, fun (s3p, h0_0p, h0_1p, h0_2p, h0_3p, h0_4p, h0_5p, h0_6p, h0_7p, h0_8p, h0_9p, ()) ⟨⟨eq0, eq1, eq2, eq3, eq4, eq5, eq6, eq7, eq8, eq9⟩, hi⟩ => by
    have eq0 : h0_0p = h0_0 := eq0; subst h0_0p; have eq1 : h0_1p = h0_1 := eq1; subst h0_1p; have eq2 : h0_2p = h0_2 := eq2; subst h0_2p; have eq3 : h0_3p = h0_3 := eq3; subst h0_3p; have eq4 : h0_4p = h0_4 := eq4; subst h0_4p; have eq5 : h0_5p = h0_5 := eq5; subst h0_5p; have eq6 : h0_6p = h0_6 := eq6; subst h0_6p; have eq7 : h0_7p = h0_7 := eq7; subst h0_7p; have eq8 : h0_8p = h0_8 := eq8; subst h0_8p; have eq9 : h0_9p = h0_9 := eq9; subst h0_9p; exact mpr_of (by kernel_rfl) ((congrArg (fun k => r41_Valid_B2 r0 (fun s : Int × Int × (List Int) × (List TOut) × Int × Int × Int × Int × Int × Int × (List Int) × Unit => ((s.2.1 = h0_0 ∧ s.2.2.1 = h0_1 ∧ s.2.2.2.1 = h0_2 ∧ s.2.2.2.2.1 = h0_3 ∧ s.2.2.2.2.2.1 = h0_4 ∧ s.2.2.2.2.2.2.1 = h0_5 ∧ s.2.2.2.2.2.2.2.1 = h0_6 ∧ s.2.2.2.2.2.2.2.2.1 = h0_7 ∧ s.2.2.2.2.2.2.2.2.2.1 = h0_8 ∧ s.2.2.2.2.2.2.2.2.2.2.1 = h0_9) ∧ inv s.1) ∧ μ s.1 < μ s3p) k h0_0 h0_1 h0_2 h0_3 h0_4 h0_5 h0_6 h0_7 h0_8 h0_9 s3p) (lpk1 (⟨rfl, rfl, rfl, rfl, rfl, rfl, rfl, rfl, rfl, rfl⟩ : h0_0 = h0_0 ∧ h0_1 = h0_1 ∧ h0_2 = h0_2 ∧ h0_3 = h0_3 ∧ h0_4 = h0_4 ∧ h0_5 = h0_5 ∧ h0_6 = h0_6 ∧ h0_7 = h0_7 ∧ h0_8 = h0_8 ∧ h0_9 = h0_9) inv (fun s3q => μ s3q < μ s3p))).mpr (hs s3p hi))⟩⟩
def r41_Valid_B1 (r0 : Int) (nx2 : HL TB.den r41_Valid_T2.hs → Prop) (k1 : Int → Prop) (s3 : Int) (h0_0 : Int) (h0_1 : List Int) (h0_2 : List TOut) (h0_3 : Int) (h0_4 : Int) (h0_5 : Int) (h0_6 : Int) (h0_7 : Int) (h0_8 : Int) (h0_9 : List Int) (s4 : Int) : Prop :=
(decide (s4 < s3) = true →
(0 ≤ s3) ∧ s3 < (h0_1.length : Int) ∧ (0 ≤ s4) ∧ s4 < (h0_1.length : Int) ∧ (((ix h0_1 s3) == (ix h0_1 s4)) = true →
 1 = r0) ∧
(((ix h0_1 s3) == (ix h0_1 s4)) = false →
 k1 (IntKind.i64.wrap (s4 + 1) : Int))) ∧
(decide (s4 < s3) = false →
 nx2 ((IntKind.i64.wrap (s3 + 1) : Int), h0_0, h0_1, h0_2, h0_3, h0_4, h0_5, h0_6, h0_7, h0_8, h0_9, ()))
set_option maxRecDepth 100000 in
theorem r41_Valid_lp1 {r0 : Int} {nx2 : HL TB.den r41_Valid_T2.hs → Prop} {s3 : Int} {h0_0 : Int} {h0_1 : List Int} {h0_2 : List TOut} {h0_3 : Int} {h0_4 : Int} {h0_5 : Int} {h0_6 : Int} {h0_7 : Int} {h0_8 : Int} {h0_9 : List Int} {s4 : Int} (inv : Int → Prop) (μ : Int → Nat) (h0 : inv s4) (hs : ∀ (s4 : Int), inv s4 → r41_Valid_B1 r0 nx2 (fun s4q => inv s4q ∧ μ s4q < μ s4) s3 h0_0 h0_1 h0_2 h0_3 h0_4 h0_5 h0_6 h0_7 h0_8 h0_9 s4) : Md.Loop (s3, s4, h0_0, h0_1, h0_2, h0_3, h0_4, h0_5, h0_6, h0_7, h0_8, h0_9, ()) (r41_Valid_L1 (r0, ()) nx2) :=
  ⟨⟨fun s : Int × Int × Int × (List Int) × (List TOut) × Int × Int × Int × Int × Int × Int × (List Int) × Unit => (s.1 = s3 ∧ s.2.2.1 = h0_0 ∧ s.2.2.2.1 = h0_1 ∧ s.2.2.2.2.1 = h0_2 ∧ s.2.2.2.2.2.1 = h0_3 ∧ s.2.2.2.2.2.2.1 = h0_4 ∧ s.2.2.2.2.2.2.2.1 = h0_5 ∧ s.2.2.2.2.2.2.2.2.1 = h0_6 ∧ s.2.2.2.2.2.2.2.2.2.1 = h0_7 ∧ s.2.2.2.2.2.2.2.2.2.2.1 = h0_8 ∧ s.2.2.2.2.2.2.2.2.2.2.2.1 = h0_9) ∧ inv s.2.1, fun s : Int × Int × Int × (List Int) × (List TOut) × Int × Int × Int × Int × Int × Int × (List Int) × Unit => μ s.2.1, ⟨⟨rfl, rfl, rfl, rfl, rfl, rfl, rfl, rfl, rfl, rfl, rfl⟩, h0⟩, fun (s3p, s4p, h0_0p, h0_1p, h0_2p, h0_3p, h0_4p, h0_5p, h0_6p, h0_7p, h0_8p, h0_9p, ()) ⟨⟨eq0, eq1, eq2, eq3, eq4, eq5, eq6, eq7, eq8, eq9, eq10⟩, hi⟩ => by
    have eq0 : s3p = s3 := eq0; subst s3p; have eq1 : h0_0p = h0_0 := eq1; subst h0_0p; have eq2 : h0_1p = h0_1 := eq2; subst h0_1p; have eq3 : h0_2p = h0_2 := eq3; subst h0_2p; have eq4 : h0_3p = h0_3 := eq4; subst h0_3p; have eq5 : h0_4p = h0_4 := eq5; subst h0_4p; have eq6 : h0_5p = h0_5 := eq6; subst h0_5p; have eq7 : h0_6p = h0_6 := eq7; subst h0_6p; have eq8 : h0_7p = h0_7 := eq8; subst h0_7p; have eq9 : h0_8p = h0_8 := eq9; subst h0_8p; have eq10 : h0_9p = h0_9 := eq10; subst h0_9p; exact mpr_of (by kernel_rfl) ((congrArg (fun k => r41_Valid_B1 r0 nx2 k s3 h0_0 h0_1 h0_2 h0_3 h0_4 h0_5 h0_6 h0_7 h0_8 h0_9 s4p) (lpk1 (⟨rfl, rfl, rfl, rfl, rfl, rfl, rfl, rfl, rfl, rfl, rfl⟩ : s3 = s3 ∧ h0_0 = h0_0 ∧ h0_1 = h0_1 ∧ h0_2 = h0_2 ∧ h0_3 = h0_3 ∧ h0_4 = h0_4 ∧ h0_5 = h0_5 ∧ h0_6 = h0_6 ∧ h0_7 = h0_7 ∧ h0_8 = h0_8 ∧ h0_9 = h0_9) inv (fun s4q => μ s4q < μ s4p))).mpr (hs s4p hi))⟩⟩
def r41_Valid_B3 (r0 : Int) (k3 : Int → Prop) (h0_0 : Int) (h0_1 : List Int) (h0_2 : List TOut) (h0_3 : Int) (h0_4 : Int) (h0_5 : Int) (h0_6 : Int) (h0_7 : Int) (h0_8 : Int) (h0_9 : List Int) (s5 : Int) : Prop :=
(decide (s5 < (h0_2.length : Int)) = true →
(0 ≤ s5) ∧ s5 < (h0_2.length : Int) ∧ let v3 : Bool := decide (18446744069414584321 ≤ ((ix h0_2 s5).Commit))
(v3 = true →
 1 = r0) ∧
(v3 = false →
(0 ≤ (TA2.mk ((ix h0_2 s5).Point_a0) ((ix h0_2 s5).Point_a1)).a0 ∧ 0 ≤ (TA2.mk ((ix h0_2 s5).Point_a0) ((ix h0_2 s5).Point_a1)).a1) ∧ let r4 : Bool := vPoint (TA2.mk ((ix h0_2 s5).Point_a0) ((ix h0_2 s5).Point_a1)).a0 (TA2.mk ((ix h0_2 s5).Point_a0) ((ix h0_2 s5).Point_a1)).a1
((!r4) = true →
 1 = r0) ∧
((!r4) = false →
 let v5 : Bool := ((((ix h0_2 s5).Cipher).length : Int) != 3)
(v5 = true →
 1 = r0) ∧
(v5 = false →
(((ix h0_2 s5).Cipher).length ≤ 9223372036854775807) ∧ let r6 : Bool := ((ix h0_2 s5).Cipher).all (fun x => decide (x < 18446744069414584321))
((!r6) = true →
 1 = r0) ∧
((!r6) = false →
 k3 (IntKind.i64.wrap (s5 + 1) : Int)))))) ∧
(decide (s5 < (h0_2.length : Int)) = false →
(decide (4294967295 < h0_3) = true →
 1 = r0) ∧
(decide (4294967295 < h0_3) = false →
(decide (4294967295 < h0_4) = true →
 1 = r0) ∧
(decide (4294967295 < h0_4) = false →
(decide (4294967295 < h0_5) = true →
 1 = r0) ∧
(decide (4294967295 < h0_5) = false →
(decide (0 < h0_3) = true →
(decide (0 < h0_4) = true →
 1 = r0) ∧
(decide (0 < h0_4) = false →
 r41_Valid_J1 (r0, ()) (h0_0, h0_1, h0_2, h0_3, h0_4, h0_5, h0_6, h0_7, h0_8, h0_9, ()))) ∧
(decide (0 < h0_3) = false →
 r41_Valid_J1 (r0, ()) (h0_0, h0_1, h0_2, h0_3, h0_4, h0_5, h0_6, h0_7, h0_8, h0_9, ()))))))
set_option maxRecDepth 100000 in
theorem r41_Valid_lp3 {r0 : Int} {h0_0 : Int} {h0_1 : List Int} {h0_2 : List TOut} {h0_3 : Int} {h0_4 : Int} {h0_5 : Int} {h0_6 : Int} {h0_7 : Int} {h0_8 : Int} {h0_9 : List Int} {s5 : Int} (inv : Int → Prop) (μ : Int → Nat) (h0 : inv s5) (hs : ∀ (s5 : Int), inv s5 → r41_Valid_B3 r0 (fun s5q => inv s5q ∧ μ s5q < μ s5) h0_0 h0_1 h0_2 h0_3 h0_4 h0_5 h0_6 h0_7 h0_8 h0_9 s5) : Md.Loop (s5, h0_0, h0_1, h0_2, h0_3, h0_4, h0_5, h0_6, h0_7, h0_8, h0_9, ()) (r41_Valid_L3 (r0, ())) :=
  ⟨⟨fun s : Int × Int × (List Int) × (List TOut) × Int × Int × Int × Int × Int × Int × (List Int) × Unit => (s.2.1 = h0_0 ∧ s.2.2.1 = h0_1 ∧ s.2.2.2.1 = h0_2 ∧ s.2.2.2.2.1 = h0_3 ∧ s.2.2.2.2.2.1 = h0_4 ∧ s.2.2.2.2.2.2.1 = h0_5 ∧ s.2.2.2.2.2.2.2.1 = h0_6 ∧ s.2.2.2.2.2.2.2.2.1 = h0_7 ∧ s.2.2.2.2.2.2.2.2.2.1 = h0_8 ∧ s.2.2.2.2.2.2.2.2.2.2.1 = h0_9) ∧ inv s.1, fun s : Int × Int × (List Int) × (List TOut) × Int × Int × Int × Int × Int × Int × (List Int) × Unit => μ s.1, ⟨⟨rfl, rfl, rfl, rfl, rfl, rfl, rfl, rfl, rfl, rfl⟩, h0⟩, fun (s5p, h0_0p, h0_1p, h0_2p, h0_3p, h0_4p, h0_5p, h0_6p, h0_7p, h0_8p, h0_9p, ()) ⟨⟨eq0, eq1, eq2, eq3, eq4, eq5, eq6, eq7, eq8, eq9⟩, hi⟩ => by
    have eq0 : h0_0p = h0_0 := eq0; subst h0_0p; have eq1 : h0_1p = h0_1 := eq1; subst h0_1p; have eq2 : h0_2p = h0_2 := eq2; subst h0_2p; have eq3 : h0_3p = h0_3 := eq3; subst h0_3p; have eq4 : h0_4p = h0_4 := eq4; subst h0_4p; have eq5 : h0_5p = h0_5 := eq5; subst h0_5p; have eq6 : h0_6p = h0_6 := eq6; subst h0_6p; have eq7 : h0_7p = h0_7 := eq7; subst h0_7p; have eq8 : h0_8p = h0_8 := eq8; subst h0_8p; have eq9 : h0_9p = h0_9 := eq9; subst h0_9p; exact mpr_of (by kernel_rfl) ((congrArg (fun k => r41_Valid_B3 r0 k h0_0 h0_1 h0_2 h0_3 h0_4 h0_5 h0_6 h0_7 h0_8 h0_9 s5p) (lpk1 (⟨rfl, rfl, rfl, rfl, rfl, rfl, rfl, rfl, rfl, rfl⟩ : h0_0 = h0_0 ∧ h0_1 = h0_1 ∧ h0_2 = h0_2 ∧ h0_3 = h0_3 ∧ h0_4 = h0_4 ∧ h0_5 = h0_5 ∧ h0_6 = h0_6 ∧ h0_7 = h0_7 ∧ h0_8 = h0_8 ∧ h0_9 = h0_9) inv (fun s5q => μ s5q < μ s5p))).mpr (hs s5p hi))⟩⟩
theorem bd15 : Callable Try.prog 15 := ⟨by rw [Try.func15]; kernel_rfl, by rw [Try.func15]; show some _ ≠ some _; decide⟩
theorem r41_Valid_body (p0 : TTx) (h : TR p0 ∧ TL p0) : r41_Valid_Body (p0.Anchor, p0.Marks, p0.Outs, p0.Deposit, p0.Withdraw, p0.Fee, p0.Account, p0.Nonce, p0.Expiry, p0.Proof, ()) ((validE p0 : Int), ()) := by
  obtain ⟨hr, hl⟩ := h
  have e3 : [p0.Anchor, p0.Account, p0.Nonce].all (fun x => decide (x < 18446744069414584321)) = (decide (p0.Anchor < 18446744069414584321) && (decide (p0.Account < 18446744069414584321) && decide (p0.Nonce < 18446744069414584321))) := by simp
  have bad : (vMarks p0.Marks && vOuts p0.Outs && vAmounts p0 && vRest p0) = false → 1 = validE p0 := by intro h; unfold validE; rw [h]; rfl
  have badM : vMarks p0.Marks = false → 1 = validE p0 := fun h => bad (by rw [h]; rfl)
  have badO : vOuts p0.Outs = false → 1 = validE p0 := fun h => bad (by rw [h]; simp)
  have badA : vAmounts p0 = false → 1 = validE p0 := fun h => bad (by rw [h]; simp)
  have badR : vRest p0 = false → 1 = validE p0 := fun h => bad (by rw [h]; simp)
  refine r41_Valid_in ⟨fun h => badM ?_, fun h => ⟨fun h2 => badO ?_, fun h2 => ⟨by have := hl.m; omega, fun h3 => badM ?_, fun h3 => ⟨by simp, fun h4 => ?_, fun h4 => ?_⟩⟩⟩⟩
  · have h := of_decide_eq_true h
    unfold vMarks
    rw [decide_eq_false (by omega)]
    rfl
  · have h2 := of_decide_eq_true h2
    unfold vOuts
    rw [decide_eq_false (by omega)]
    rfl
  · have h3 : p0.Marks.all (fun x => decide (x < 18446744069414584321)) = false := by simpa using h3
    unfold vMarks
    rw [h3]
    simp
  · rw [e3] at h4
    have : vAmounts p0 = false ∨ vRest p0 = false := by
      unfold vAmounts vRest
      grind
    exact this.elim badA badR
  have h := of_decide_eq_false h
  have h2 := of_decide_eq_false h2
  have h3 : p0.Marks.all (fun x => decide (x < 18446744069414584321)) = true := by simpa using h3
  have h4 : [p0.Anchor, p0.Account, p0.Nonce].all (fun x => decide (x < 18446744069414584321)) = true := by
    cases hq : [p0.Anchor, p0.Account, p0.Nonce].all (fun x => decide (x < 18446744069414584321))
    · rw [hq] at h4; simp at h4
    · rfl
  rw [e3] at h4
  simp only [Bool.and_eq_true, decide_eq_true_eq] at h4
  obtain ⟨a1, a2, a3⟩ := h4
  refine r41_Valid_lp2 (fun i => 0 ≤ i ∧ i ≤ p0.Marks.length ∧ (p0.Marks.take i.toNat).Nodup) (fun i => (p0.Marks.length - i).toNat) ⟨by omega, by omega, by simp⟩ ?_
  rintro i ⟨g0, g1, g2⟩
  refine ⟨fun hh => ?_, fun hh => ?_⟩
  · have hh := of_decide_eq_true hh
    refine r41_Valid_lp1 (fun k => 0 ≤ k ∧ k ≤ i ∧ ∀ x ∈ p0.Marks.take k.toNat, x ≠ ix p0.Marks i) (fun k => (i - k).toNat) ⟨by omega, by omega, by simp⟩ ?_
    rintro k ⟨k0, k1, k2⟩
    refine ⟨fun hk => ?_, fun hk => ?_⟩
    · have hk := of_decide_eq_true hk
      refine ⟨g0, hh, k0, by omega, fun e => badM ?_, fun e => ?_⟩
      · have e : ix p0.Marks i = ix p0.Marks k := by simpa using e
        have : ¬ p0.Marks.Nodup := by
          intro hn
          rw [ix_nat _ i g0 hh, ix_nat _ k k0 (by omega)] at e
          have := (List.getElem_inj hn).1 e
          omega
        unfold vMarks
        rw [decide_eq_false this]
        simp
      · have e : ¬ ix p0.Marks i = ix p0.Marks k := by simpa using e
        rw [inc k i k0 hk (by omega)]
        refine ⟨⟨by omega, by omega, ?_⟩, by omega⟩
        rw [take_succ_ix p0.Marks k k0 (by omega)]
        intro x hx
        rcases List.mem_append.1 hx with hx | hx
        · exact k2 x hx
        · have : x = ix p0.Marks k := by simpa using hx
          rw [this]; exact fun e' => e e'.symm
    · have hk := of_decide_eq_false hk
      have hki : k = i := by omega
      subst hki
      have nxt : (0 ≤ k + 1 ∧ k + 1 ≤ p0.Marks.length ∧ (p0.Marks.take (k + 1).toNat).Nodup) ∧ (p0.Marks.length - (k + 1)).toNat < (p0.Marks.length - k).toNat := by
        refine ⟨⟨by omega, by omega, ?_⟩, by omega⟩
        rw [take_succ_ix p0.Marks k g0 hh]
        refine List.nodup_append.2 ⟨g2, by simp, fun a ha b hb => ?_⟩
        have : b = ix p0.Marks k := by simpa using hb
        rw [this]; exact k2 a ha
      have hi := inc k p0.Marks.length g0 hh (by omega)
      rw [hi]
      exact ⟨⟨⟨rfl, rfl, rfl, rfl, rfl, rfl, rfl, rfl, rfl, rfl⟩, nxt.1⟩, nxt.2⟩
  · have hh := of_decide_eq_false hh
    rw [List.take_of_length_le (by omega)] at g2
    have vm : vMarks p0.Marks = true := by
      unfold vMarks
      rw [h3, decide_eq_true g2, decide_eq_true (by omega)]
      rfl
    have j2 : vOuts p0.Outs = true → vAmounts p0 = true → r41_Valid_J2 ((validE p0 : Int), ()) (p0.Anchor, p0.Marks, p0.Outs, p0.Deposit, p0.Withdraw, p0.Fee, p0.Account, p0.Nonce, p0.Expiry, p0.Proof, ()) := by
      intro vo va
      refine r41_Valid_J2_in ⟨fun e => badR ?_, fun e => ⟨fun e2 => badR ?_, fun e2 => ?_⟩⟩
      · have e := of_decide_eq_true e
        unfold vRest
        rw [decide_eq_false (p := 0 ≤ p0.Expiry) (by omega)]
        simp
      · have e2 := of_decide_eq_true e2
        unfold vRest
        rw [decide_eq_false (p := p0.Expiry ≤ 1048576) (by omega)]
        simp
      · have e := of_decide_eq_false e
        have e2 := of_decide_eq_false e2
        have vr : vRest p0 = true := by
          unfold vRest
          rw [decide_eq_true a1, decide_eq_true (p := 0 ≤ p0.Expiry) (by omega), decide_eq_true (p := p0.Expiry ≤ 1048576) (by omega)]
          rfl
        unfold validE
        rw [vm, vo, va, vr]
        refine ⟨fun e => ?_, fun e => ?_⟩
        · have e := of_decide_eq_true e
          simp; omega
        · have e := of_decide_eq_false e
          simp; omega
    have j1 : vOuts p0.Outs = true → p0.Deposit ≤ 4294967295 → p0.Withdraw ≤ 4294967295 → p0.Fee ≤ 4294967295 → (0 < p0.Deposit → p0.Withdraw = 0) → r41_Valid_J1 ((validE p0 : Int), ()) (p0.Anchor, p0.Marks, p0.Outs, p0.Deposit, p0.Withdraw, p0.Fee, p0.Account, p0.Nonce, p0.Expiry, p0.Proof, ()) := by
      intro vo d1 d2 d3 d4
      have hd := hr.d
      have hw := hr.w
      have fA : ¬ (p0.Deposit ≤ 4294967295 ∧ p0.Withdraw ≤ 4294967295 ∧ p0.Fee ≤ 4294967295 ∧ p0.Account < 18446744069414584321 ∧ p0.Nonce < 18446744069414584321 ∧ (0 < p0.Deposit → p0.Withdraw = 0) ∧ (¬ 0 < p0.Deposit → p0.Marks ≠ [] ∧ p0.Nonce = 0 ∧ (0 < p0.Withdraw ∨ p0.Account = 0))) → 1 = validE p0 := fun h => badA (Bool.eq_false_iff.2 fun h' => h ((vAmounts_iff p0).1 h'))
      refine r41_Valid_J1_in ⟨fun e => ⟨fun e2 => fA ?_, fun e2 => ⟨fun e3 => fA ?_, fun e3 => ⟨fun e4 => ⟨fun e5 => fA ?_, fun e5 => j2 vo ((vAmounts_iff p0).2 ?_)⟩, fun e4 => j2 vo ((vAmounts_iff p0).2 ?_)⟩⟩⟩, fun e => j2 vo ((vAmounts_iff p0).2 ?_)⟩
      all_goals simp only [beq_iff_eq, bne_iff_ne, beq_eq_false_iff_ne, bne_eq_false_iff_eq, Int.natCast_eq_zero, List.length_eq_zero_iff] at *
      · exact fun h => by have := h.2.2.2.2.2.2 (by omega); omega
      · exact fun h => (h.2.2.2.2.2.2 (by omega)).1 e3
      · exact fun h => by have := (h.2.2.2.2.2.2 (by omega)).2.2; omega
      · exact ⟨d1, d2, d3, a2, a3, d4, fun _ => ⟨fun hq => e3 (by rw [hq]; rfl), e2, .inr e5⟩⟩
      · exact ⟨d1, d2, d3, a2, a3, d4, fun _ => ⟨fun hq => e3 (by rw [hq]; rfl), e2, .inl (by omega)⟩⟩
      · exact ⟨d1, d2, d3, a2, a3, d4, fun h => by omega⟩
    refine r41_Valid_lp3 (fun i => 0 ≤ i ∧ i ≤ p0.Outs.length ∧ ∀ x ∈ p0.Outs.take i.toNat, vOut x = true) (fun i => (p0.Outs.length - i).toNat) ⟨by omega, by omega, by simp⟩ ?_
    rintro i ⟨g0, g1, g2⟩
    refine ⟨fun hh => ?_, fun hh => ?_⟩
    · have hh := of_decide_eq_true hh
      have hx := hr.o _ (ix_mem p0.Outs i g0 hh)
      have hlc := hl.c _ (ix_mem p0.Outs i g0 hh)
      have bd : vOut (ix p0.Outs i) = false → 1 = validE p0 := by
        intro hb
        refine badO ?_
        unfold vOuts
        have : p0.Outs.all vOut = false := List.all_eq_false.2 ⟨_, ix_mem p0.Outs i g0 hh, by simp [hb]⟩
        rw [this]
        simp
      unfold vOut at bd
      refine ⟨g0, hh, fun e => bd ?_, fun e => ⟨⟨hx.p0.1, hx.p1.1⟩, fun e2 => bd ?_, fun e2 => ⟨fun e3 => bd ?_, fun e3 => ⟨by omega, fun e4 => bd ?_, fun e4 => ?_⟩⟩⟩⟩
      · have e := of_decide_eq_true e
        rw [decide_eq_false (by omega)]
        rfl
      · have e2 : vPoint (ix p0.Outs i).Point_a0 (ix p0.Outs i).Point_a1 = false := by simpa using e2
        simp [e2]
      · have e3 : ¬ ((ix p0.Outs i).Cipher.length : Int) = 3 := by simpa using e3
        have e3 : ¬ (ix p0.Outs i).Cipher.length = 3 := by omega
        simp [e3]
      · have e4 : (ix p0.Outs i).Cipher.all (fun x => decide (x < 18446744069414584321)) = false := by
          cases hq : (ix p0.Outs i).Cipher.all (fun x => decide (x < 18446744069414584321))
          · rfl
          · rw [hq] at e4; simp at e4
        rw [e4]
        simp
      · have e := of_decide_eq_false e
        have e2 : vPoint (ix p0.Outs i).Point_a0 (ix p0.Outs i).Point_a1 = true := by simpa using e2
        have e3 : ((ix p0.Outs i).Cipher.length : Int) = 3 := by simpa using e3
        have e4 : (ix p0.Outs i).Cipher.all (fun x => decide (x < 18446744069414584321)) = true := by
          cases hq : (ix p0.Outs i).Cipher.all (fun x => decide (x < 18446744069414584321))
          · rw [hq] at e4; simp at e4
          · rfl
        have hv : vOut (ix p0.Outs i) = true := (vOut_iff _).2 ⟨by omega, e2, by omega, by simpa using e4⟩
        rw [inc i p0.Outs.length g0 hh (by omega)]
        refine ⟨⟨by omega, by omega, ?_⟩, by omega⟩
        rw [take_succ_ix p0.Outs i g0 hh]
        intro x hx
        rcases List.mem_append.1 hx with hx | hx
        · exact g2 x hx
        · have : x = ix p0.Outs i := by simpa using hx
          rw [this]; exact hv
    · have hh := of_decide_eq_false hh
      rw [List.take_of_length_le (by omega)] at g2
      have vo : vOuts p0.Outs = true := by
        unfold vOuts
        have : p0.Outs.all vOut = true := by simpa using g2
        rw [this, decide_eq_true (by omega)]
        rfl
      have hd := hr.d
      have hw := hr.w
      have fA : ¬ (p0.Deposit ≤ 4294967295 ∧ p0.Withdraw ≤ 4294967295 ∧ p0.Fee ≤ 4294967295 ∧ (0 < p0.Deposit → p0.Withdraw = 0)) → 1 = validE p0 := fun h => badA (Bool.eq_false_iff.2 fun h' => h (by have := (vAmounts_iff p0).1 h'; exact ⟨this.1, this.2.1, this.2.2.1, this.2.2.2.2.2.1⟩))
      refine ⟨fun e => fA ?_, fun e => ⟨fun e2 => fA ?_, fun e2 => ⟨fun e3 => fA ?_, fun e3 => ⟨fun e4 => ⟨fun e5 => fA ?_, fun e5 => j1 vo ?_ ?_ ?_ ?_⟩, fun e4 => j1 vo ?_ ?_ ?_ ?_⟩⟩⟩⟩
      all_goals simp only [decide_eq_true_eq, decide_eq_false_iff_not] at *
      all_goals omega
noncomputable def r41_Valid_con : Con TB.den := r41_Valid_sh.fnR (fun x => (fun (p0 : TTx) => TR p0 ∧ TL p0) (TTx.mk x.1 x.2.1 x.2.2.1 x.2.2.2.1 x.2.2.2.2.1 x.2.2.2.2.2.1 x.2.2.2.2.2.2.1 x.2.2.2.2.2.2.2.1 x.2.2.2.2.2.2.2.2.1 x.2.2.2.2.2.2.2.2.2.1)) fun x => ((fun (p0 : TTx) => (validE p0 : Int)) (TTx.mk x.1 x.2.1 x.2.2.1 x.2.2.2.1 x.2.2.2.2.1 x.2.2.2.2.2.1 x.2.2.2.2.2.2.1 x.2.2.2.2.2.2.2.1 x.2.2.2.2.2.2.2.2.1 x.2.2.2.2.2.2.2.2.2.1), ())
theorem r41_Valid_ok : r41_Valid_con.Ok Try.prog TB := Con.ok_fn r41_Valid_sh bd15 fun x h => r41_Valid_snd (r41_Valid_body (TTx.mk x.1 x.2.1 x.2.2.1 x.2.2.2.1 x.2.2.2.2.1 x.2.2.2.2.2.1 x.2.2.2.2.2.2.1 x.2.2.2.2.2.2.2.1 x.2.2.2.2.2.2.2.2.1 x.2.2.2.2.2.2.2.2.2.1) h)
end Go.Proofs.Ytnmakgfmimagmaa
namespace Go.Proofs.Ytnmakgfmimagmaa
open Go Go.Bv Go.Cv Go.Md Go.RowKit
def r47_Valid_sh : Con TB.den := Con.mk0 13 [.agg [.d (.int .u64), .d (.int .i64), .d (.int .u64), .d (.int .u64), .d (.int .u64), .d (.sl (.st 1))]] [] (.one (.one (.d (.int .i64)))) []
abbrev r47_Valid_I := HL TB.den (hsT r47_Valid_sh.ins (hsOs r47_Valid_sh.pre))
abbrev r47_Valid_O := HL TB.den (hsV r47_Valid_sh.res (hsOs r47_Valid_sh.post))
noncomputable def r47_Valid_cx : Cx TB := ⟨inf, [r41_Valid_con, r41_Bytes_con], [], 4⟩
noncomputable def r47_Valid_code : Code := Try.f13.body.getD .skip
noncomputable def r47_Valid_rs : List ResultVar := Try.f13.results.toList
noncomputable def r47_Valid_Q2 (o : r47_Valid_O) : Exit → TSt TB.den → Prop := thenT TB (fun s => ghs TB [] s fun s => WP TB r47_Valid_cx 64 0 (cB (cB (cB (cB r47_Valid_code)))) .no s (retTQ TB r47_Valid_cx r47_Valid_sh r47_Valid_rs o)) (retTQ TB r47_Valid_cx r47_Valid_sh r47_Valid_rs o)
def r47_Valid_T1 : Tm := ⟨[0], [.cells [.d (.int .u64), .d (.int .i64), .d (.int .u64), .d (.int .u64), .d (.int .u64), .d (.sl (.st 1))]], [1, 3, 4], [.one (.ptr 0 0), .one (.d (.int .i64)), .one (.d (.int .i64))], 1⟩
noncomputable def r47_Valid_Q3 (o : r47_Valid_O) (nx1 : HL TB.den r47_Valid_T1.hs → Prop) : Exit → TSt TB.den → Prop := thenT TB (fun s => r47_Valid_T1.mat TB 0 s nx1) (blockT TB 0 (r47_Valid_Q2 o))
noncomputable def r47_Valid_L1 (o : r47_Valid_O) (nx1 : HL TB.den r47_Valid_T1.hs → Prop) (i : HL TB.den r47_Valid_T1.hs) : Prop := WP TB r47_Valid_cx 64 0 (cA (cA (cB (cA (cB (cB (cB r47_Valid_code))))))) .no (r47_Valid_T1.fill TB i) (r47_Valid_Q3 o nx1)
noncomputable def r47_Valid_A7 (o : r47_Valid_O) : An TB := .nd [] .no [] (.lp [] r47_Valid_T1 (r47_Valid_L1 o) fun nx1 => .no)
noncomputable def r47_Valid_A9 (o : r47_Valid_O) : An TB := .nd [] .no [] (.nd [] .no [] (.nd [] (r47_Valid_A7 o) [] .no))
noncomputable def r47_Valid_an (o : r47_Valid_O) : An TB := .nd [] .no [] (r47_Valid_A9 o)
noncomputable def r47_Valid_Body (x : r47_Valid_I) (o : r47_Valid_O) : Prop := WPh TB r47_Valid_cx 64 0 r47_Valid_code (r47_Valid_an o) (r47_Valid_sh.st TB x) (retTQ TB r47_Valid_cx r47_Valid_sh r47_Valid_rs o)
set_option maxRecDepth 100000 in
theorem r47_Valid_obl (o : r47_Valid_O) : OblH TB r47_Valid_cx 64 0 r47_Valid_code (r47_Valid_an o) (retTQ TB r47_Valid_cx r47_Valid_sh r47_Valid_rs o) :=
  OblH.of_eq (X := (True ∧ ((True ∧ ((True ∧ True) ∧ True)) ∧ (True ∧ ((True ∧ ((∀ nx i, (r47_Valid_L1 o) nx i = (r47_Valid_L1 o) nx i) ∧ ∀ nx1 : HL TB.den r47_Valid_T1.hs → Prop, ((True ∧ (True ∧ True)) ∧ (((True ∧ ((True ∧ True) ∧ True)) ∧ True) ∧ True)))) ∧ ((True ∧ ((True ∧ True) ∧ True)) ∧ (True ∧ True))))))) (by kernel_rfl) ⟨trivial, ⟨⟨trivial, ⟨⟨trivial, trivial⟩, trivial⟩⟩, ⟨trivial, ⟨⟨trivial, ⟨fun _ _ => rfl, fun _ => ⟨⟨trivial, ⟨trivial, trivial⟩⟩, ⟨⟨⟨trivial, ⟨⟨trivial, trivial⟩, trivial⟩⟩, trivial⟩, trivial⟩⟩⟩⟩, ⟨⟨trivial, ⟨⟨trivial, trivial⟩, trivial⟩⟩, ⟨trivial, trivial⟩⟩⟩⟩⟩⟩
set_option maxRecDepth 100000 in
theorem r47_Valid_snd {x : r47_Valid_I} {o : r47_Valid_O} (h : r47_Valid_Body x o) : SoundH Try.prog r47_Valid_sh.f ((r47_Valid_sh.args idf x).map (er TB)) ((r47_Valid_sh.obs idf x).map (erO TB)) (er TB (r47_Valid_sh.val idf o)) ((r47_Valid_sh.ops idf o).map (erO TB)) :=
  Con.soundH (c := r47_Valid_sh) (C := r47_Valid_cx) TBok ⟨inf_ok, (all_cons r41_Valid_ok (all_cons r41_Bytes_ok all_nil)), all_nil⟩ mix Try.func13 (show Try.f13.body = some r47_Valid_code by kernel_rfl) (show Try.f13.ntmps = 64 by kernel_rfl) (show Try.f13.results.toList = r47_Valid_rs by kernel_rfl) rfl h (r47_Valid_obl o)
set_option maxRecDepth 100000 in
theorem r47_Valid_in {p0 : TBlock} {r0 : Int} (h :
((decide (p0.Height < 1) = true →
 1 = r0) ∧
(decide (p0.Height < 1) = false →
(decide (1048576 < p0.Height) = true →
 1 = r0) ∧
(decide (1048576 < p0.Height) = false →
(decide (p0.Work < 1) = true →
 1 = r0) ∧
(decide (p0.Work < 1) = false →
(decide (65536 < p0.Work) = true →
 1 = r0) ∧
(decide (65536 < p0.Work) = false →
 let v1 : Bool := decide (18446744069414584321 ≤ p0.Parent)
(v1 = true →
 1 = r0) ∧
(v1 = false →
(decide (18446744069414584321 ≤ p0.Miner) = true →
 1 = r0) ∧
(decide (18446744069414584321 ≤ p0.Miner) = false →
(decide (64 < (p0.Txs.length : Int)) = true →
 1 = r0) ∧
(decide (64 < (p0.Txs.length : Int)) = false →
 Md.Loop ((0 : Int), (0 : Int), p0.Parent, p0.Height, p0.Miner, p0.Work, p0.Nonce, p0.Txs, ()) (r47_Valid_L1 (r0, ()))))))))))) : r47_Valid_Body (p0.Parent, p0.Height, p0.Miner, p0.Work, p0.Nonce, p0.Txs, ()) (r0, ()) := WPh.of_eq (by kernel_rfl) h
def r47_Valid_B1 (r0 : Int) (k1 : Int → Int → Prop) (h0_0 : Int) (h0_1 : Int) (h0_2 : Int) (h0_3 : Int) (h0_4 : Int) (h0_5 : List TTx) (s3 : Int) (s4 : Int) : Prop :=
(decide (s4 < (h0_5.length : Int)) = true →
(0 ≤ s4) ∧ s4 < (h0_5.length : Int) ∧ (TR (ix h0_5 s4) ∧ TL (ix h0_5 s4)) ∧ (((validE (ix h0_5 s4)) != 0) = true →
 1 = r0) ∧
(((validE (ix h0_5 s4)) != 0) = false →
(0 ≤ s4) ∧ s4 < (h0_5.length : Int) ∧ (TR (ix h0_5 s4) ∧ TL (ix h0_5 s4) ∧ (ix h0_5 s4).Outs.length ≤ 1048576 ∧ (∀ x ∈ (ix h0_5 s4).Outs, x.Cipher.length ≤ 1024)) ∧ let v2 : Int := ((encT (ix h0_5 s4) (ix h0_5 s4).Proof).length : Int)
 k1 (IntKind.i64.wrap (s3 + v2) : Int) (IntKind.i64.wrap (s4 + 1) : Int))) ∧
(decide (s4 < (h0_5.length : Int)) = false →
(decide (2097152 < s3) = true →
 3 = r0) ∧
(decide (2097152 < s3) = false →
 0 = r0))
set_option maxRecDepth 100000 in
theorem r47_Valid_lp1 {r0 : Int} {h0_0 : Int} {h0_1 : Int} {h0_2 : Int} {h0_3 : Int} {h0_4 : Int} {h0_5 : List TTx} {s3 : Int} {s4 : Int} (inv : Int → Int → Prop) (μ : Int → Int → Nat) (h0 : inv s3 s4) (hs : ∀ (s3 : Int) (s4 : Int), inv s3 s4 → r47_Valid_B1 r0 (fun s3q s4q => inv s3q s4q ∧ μ s3q s4q < μ s3 s4) h0_0 h0_1 h0_2 h0_3 h0_4 h0_5 s3 s4) : Md.Loop (s3, s4, h0_0, h0_1, h0_2, h0_3, h0_4, h0_5, ()) (r47_Valid_L1 (r0, ())) :=
  ⟨⟨fun s : Int × Int × Int × Int × Int × Int × Int × (List TTx) × Unit => (s.2.2.1 = h0_0 ∧ s.2.2.2.1 = h0_1 ∧ s.2.2.2.2.1 = h0_2 ∧ s.2.2.2.2.2.1 = h0_3 ∧ s.2.2.2.2.2.2.1 = h0_4 ∧ s.2.2.2.2.2.2.2.1 = h0_5) ∧ inv s.1 s.2.1, fun s : Int × Int × Int × Int × Int × Int × Int × (List TTx) × Unit => μ s.1 s.2.1, ⟨⟨rfl, rfl, rfl, rfl, rfl, rfl⟩, h0⟩, fun (s3p, s4p, h0_0p, h0_1p, h0_2p, h0_3p, h0_4p, h0_5p, ()) ⟨⟨eq0, eq1, eq2, eq3, eq4, eq5⟩, hi⟩ => by
    have eq0 : h0_0p = h0_0 := eq0; subst h0_0p; have eq1 : h0_1p = h0_1 := eq1; subst h0_1p; have eq2 : h0_2p = h0_2 := eq2; subst h0_2p; have eq3 : h0_3p = h0_3 := eq3; subst h0_3p; have eq4 : h0_4p = h0_4 := eq4; subst h0_4p; have eq5 : h0_5p = h0_5 := eq5; subst h0_5p; exact mpr_of (by kernel_rfl) ((congrArg (fun k => r47_Valid_B1 r0 k h0_0 h0_1 h0_2 h0_3 h0_4 h0_5 s3p s4p) (lpk2 (⟨rfl, rfl, rfl, rfl, rfl, rfl⟩ : h0_0 = h0_0 ∧ h0_1 = h0_1 ∧ h0_2 = h0_2 ∧ h0_3 = h0_3 ∧ h0_4 = h0_4 ∧ h0_5 = h0_5) inv (fun s3q s4q => μ s3q s4q < μ s3p s4p))).mpr (hs s3p s4p hi))⟩⟩
theorem bd13 : Callable Try.prog 13 := ⟨by rw [Try.func13]; kernel_rfl, by rw [Try.func13]; show some _ ≠ some _; decide⟩
theorem r47_Valid_body (p0 : TBlock) (h : ∀ x ∈ p0.Txs, TR x ∧ TL x) : r47_Valid_Body (p0.Parent, p0.Height, p0.Miner, p0.Work, p0.Nonce, p0.Txs, ()) ((validB p0 : Int), ()) := by
  have nv : ¬ VB0 p0 → 1 = validB p0 := fun h => (validB_head h).symm
  refine r47_Valid_in ⟨fun e => nv fun v => ?_, fun e1 => ⟨fun e => nv fun v => ?_, fun e2 => ⟨fun e => nv fun v => ?_, fun e3 => ⟨fun e => nv fun v => ?_, fun e4 => ⟨fun e => nv fun v => ?_, fun e5 => ⟨fun e => nv fun v => ?_, fun e6 => ⟨fun e => nv fun v => ?_, fun e7 => ?_⟩⟩⟩⟩⟩⟩⟩
  · have := of_decide_eq_true e; have := v.h0; omega
  · have := of_decide_eq_true e; have := v.h1; omega
  · have := of_decide_eq_true e; have := v.w0; omega
  · have := of_decide_eq_true e; have := v.w1; omega
  · have := of_decide_eq_true e; have := v.p; omega
  · have := of_decide_eq_true e; have := v.m; omega
  · have := of_decide_eq_true e; have := v.l; omega
  have e1 := of_decide_eq_false e1
  have e2 := of_decide_eq_false e2
  have e3 := of_decide_eq_false e3
  have e4 := of_decide_eq_false e4
  have e5 := of_decide_eq_false e5
  have e6 := of_decide_eq_false e6
  have e7 := of_decide_eq_false e7
  have hc : VB0 p0 := ⟨by omega, by omega, by omega, by omega, by omega, by omega, by omega⟩
  refine r47_Valid_lp1 (fun w i => 0 ≤ i ∧ i ≤ p0.Txs.length ∧ w = sumW (p0.Txs.take i.toNat) ∧ ∀ t ∈ p0.Txs.take i.toNat, validE t = 0) (fun _ i => (p0.Txs.length - i).toNat) ⟨by omega, by omega, by simp [sumW], by simp⟩ ?_
  rintro w i ⟨g0, g1, rfl, g3⟩
  have hb := sumW_bd _ g3
  rw [List.length_take] at hb
  refine ⟨fun hh => ?_, fun hh => ?_⟩
  · have hh := of_decide_eq_true hh
    have hm := ix_mem p0.Txs i g0 hh
    refine ⟨g0, hh, h _ hm, fun e => ?_, fun e => ?_⟩
    · have e : validE (ix p0.Txs i) ≠ 0 := by simpa using e
      exact (validB_tx hm e).symm
    · have e : validE (ix p0.Txs i) = 0 := by simpa using e
      have hw := weightS_bd e
      have ew : weightS (ix p0.Txs i) = ((encT (ix p0.Txs i) (ix p0.Txs i).Proof).length : Int) := if_pos e
      refine ⟨g0, hh, ((validE_zero _).1 e).bl (h _ hm).1, ?_⟩
      rw [← ew]
      try simp only []
      rw [inc i p0.Txs.length g0 hh (by omega), wi (sumW (p0.Txs.take i.toNat) + weightS (ix p0.Txs i)) (by omega) (by omega)]
      refine ⟨⟨by omega, by omega, ?_, ?_⟩, by omega⟩
      · rw [take_succ_ix p0.Txs i g0 hh, sumW_add]
      · rw [take_succ_ix p0.Txs i g0 hh]
        intro t ht
        rcases List.mem_append.1 ht with ht | ht
        · exact g3 t ht
        · rw [List.mem_singleton.1 ht]; exact e
  · have hh := of_decide_eq_false hh
    rw [List.take_of_length_le (by omega)] at g3 hb ⊢
    rw [validB_of hc g3]
    refine ⟨fun e => ?_, fun e => ?_⟩
    · have e := of_decide_eq_true e
      rw [if_neg (by omega)]
    · have e := of_decide_eq_false e
      rw [if_pos (by omega)]
noncomputable def r47_Valid_con : Con TB.den := r47_Valid_sh.fnR (fun x => (fun (p0 : TBlock) => ∀ x ∈ p0.Txs, TR x ∧ TL x) (TBlock.mk x.1 x.2.1 x.2.2.1 x.2.2.2.1 x.2.2.2.2.1 x.2.2.2.2.2.1)) fun x => ((fun (p0 : TBlock) => (validB p0 : Int)) (TBlock.mk x.1 x.2.1 x.2.2.1 x.2.2.2.1 x.2.2.2.2.1 x.2.2.2.2.2.1), ())
theorem r47_Valid_ok : r47_Valid_con.Ok Try.prog TB := Con.ok_fn r47_Valid_sh bd13 fun x h => r47_Valid_snd (r47_Valid_body (TBlock.mk x.1 x.2.1 x.2.2.1 x.2.2.2.1 x.2.2.2.2.1 x.2.2.2.2.2.1) h)
end Go.Proofs.Ytnmakgfmimagmaa
namespace Go.Proofs.Ytnmakgfmimagmaa
open Go Go.Bv Go.Cv Go.Md Go.RowKit
def l47_BlockValid_sh : Con TB.den := Con.mk0 3 [.agg [.d (.int .u64), .d (.int .i64), .d (.int .u64), .d (.int .u64), .d (.int .u64), .d (.sl (.st 1))]] [] (.one (.one (.d (.bool)))) []
abbrev l47_BlockValid_I := HL TB.den (hsT l47_BlockValid_sh.ins (hsOs l47_BlockValid_sh.pre))
abbrev l47_BlockValid_O := HL TB.den (hsV l47_BlockValid_sh.res (hsOs l47_BlockValid_sh.post))
noncomputable def l47_BlockValid_cx : Cx TB := ⟨inf, [l47_awake_con, r47_Small_con, block_Valid_con, r47_Valid_con], [], 4⟩
noncomputable def l47_BlockValid_code : Code := Try.f3.body.getD .skip
noncomputable def l47_BlockValid_rs : List ResultVar := Try.f3.results.toList
noncomputable def l47_BlockValid_Q1 (o : l47_BlockValid_O) : Exit → TSt TB.den → Prop := thenT TB (fun s => ghs TB [] s fun s => WP TB l47_BlockValid_cx 16 0 (cB (cB l47_BlockValid_code)) .no s (retTQ TB l47_BlockValid_cx l47_BlockValid_sh l47_BlockValid_rs o)) (retTQ TB l47_BlockValid_cx l47_BlockValid_sh l47_BlockValid_rs o)
def l47_BlockValid_TJ1 : Tm := ⟨[0], [.cells [.d (.int .u64), .d (.int .i64), .d (.int .u64), .d (.int .u64), .d (.int .u64), .d (.sl (.st 1))]], [1, 9], [.one (.ptr 0 0), .one (.d (.bool))], 1⟩
noncomputable def l47_BlockValid_J1d (o : l47_BlockValid_O) (i : HL TB.den l47_BlockValid_TJ1.hs) : Prop := ghs TB [] (l47_BlockValid_TJ1.fill TB i) fun s => WP TB l47_BlockValid_cx 16 0 (cB (cA (cB l47_BlockValid_code))) .no s (l47_BlockValid_Q1 o)
structure l47_BlockValid_J1 (o : l47_BlockValid_O) (i : HL TB.den l47_BlockValid_TJ1.hs) : Prop where
  h : l47_BlockValid_J1d o i
noncomputable def l47_BlockValid_A3 (o : l47_BlockValid_O) : An TB := .nd [] (.jn l47_BlockValid_TJ1 (l47_BlockValid_J1 o) [] .no [] .no) [] .no
noncomputable def l47_BlockValid_an (o : l47_BlockValid_O) : An TB := .nd [] .no [] (l47_BlockValid_A3 o)
noncomputable def l47_BlockValid_Body (x : l47_BlockValid_I) (o : l47_BlockValid_O) : Prop := WPh TB l47_BlockValid_cx 16 0 l47_BlockValid_code (l47_BlockValid_an o) (l47_BlockValid_sh.st TB x) (retTQ TB l47_BlockValid_cx l47_BlockValid_sh l47_BlockValid_rs o)
set_option maxRecDepth 100000 in
theorem l47_BlockValid_obl (o : l47_BlockValid_O) : OblH TB l47_BlockValid_cx 16 0 l47_BlockValid_code (l47_BlockValid_an o) (retTQ TB l47_BlockValid_cx l47_BlockValid_sh l47_BlockValid_rs o) :=
  OblH.of_eq (X := (True ∧ ((True ∧ (∀ i, (l47_BlockValid_J1 o) i = (l47_BlockValid_J1d o) i) ∧ ((True ∧ True) ∧ True)) ∧ (True ∧ True)))) (by kernel_rfl) ⟨trivial, ⟨⟨trivial, fun _ => propext ⟨fun h => h.1, fun h => ⟨h⟩⟩, ⟨⟨trivial, trivial⟩, trivial⟩⟩, ⟨trivial, trivial⟩⟩⟩
set_option maxRecDepth 100000 in
theorem l47_BlockValid_snd {x : l47_BlockValid_I} {o : l47_BlockValid_O} (h : l47_BlockValid_Body x o) : SoundH Try.prog l47_BlockValid_sh.f ((l47_BlockValid_sh.args idf x).map (er TB)) ((l47_BlockValid_sh.obs idf x).map (erO TB)) (er TB (l47_BlockValid_sh.val idf o)) ((l47_BlockValid_sh.ops idf o).map (erO TB)) :=
  Con.soundH (c := l47_BlockValid_sh) (C := l47_BlockValid_cx) TBok ⟨inf_ok, (all_cons l47_awake_ok (all_cons r47_Small_ok (all_cons block_Valid_ok (all_cons r47_Valid_ok all_nil)))), all_nil⟩ mix Try.func3 (show Try.f3.body = some l47_BlockValid_code by kernel_rfl) (show Try.f3.ntmps = 16 by kernel_rfl) (show Try.f3.results.toList = l47_BlockValid_rs by kernel_rfl) rfl h (l47_BlockValid_obl o)
set_option maxRecDepth 100000 in
theorem l47_BlockValid_in {p0 : TBlock} {r0 : Bool} (h :
(((!true) = true →
 l47_BlockValid_J1 (r0, ()) (true, p0.Parent, p0.Height, p0.Miner, p0.Work, p0.Nonce, p0.Txs, ())) ∧
((!true) = false →
(∀ x ∈ p0.Txs, x.Outs.length ≤ 9223372036854775807) ∧ l47_BlockValid_J1 (r0, ()) (((!smallBk p0) : Bool), p0.Parent, p0.Height, p0.Miner, p0.Work, p0.Nonce, p0.Txs, ())))) : l47_BlockValid_Body (p0.Parent, p0.Height, p0.Miner, p0.Work, p0.Nonce, p0.Txs, ()) (r0, ()) := WPh.of_eq (by kernel_rfl) h
set_option maxRecDepth 100000 in
theorem l47_BlockValid_J1_in {r0 : Bool} {s9 : Bool} {h0_0 : Int} {h0_1 : Int} {h0_2 : Int} {h0_3 : Int} {h0_4 : Int} {h0_5 : List TTx} (h :
((s9 = true →
 true = r0) ∧
(s9 = false →
(∀ x ∈ (TBlock.mk h0_0 h0_1 h0_2 h0_3 h0_4 h0_5).Txs, TR x) ∧ let r1 : Int := validB (TBlock.mk h0_0 h0_1 h0_2 h0_3 h0_4 h0_5)
(∀ x ∈ (TBlock.mk h0_0 h0_1 h0_2 h0_3 h0_4 h0_5).Txs, TR x ∧ TL x) ∧ let r2 : Int := validB (TBlock.mk h0_0 h0_1 h0_2 h0_3 h0_4 h0_5)
(r1 == r2) = r0))) : l47_BlockValid_J1 (r0, ()) (s9, h0_0, h0_1, h0_2, h0_3, h0_4, h0_5, ()) := ⟨mpr_of (by kernel_rfl) h⟩
theorem l47_BlockValid_body (p0 : TBlock) (h : ∀ x ∈ p0.Txs, TR x ∧ x.Outs.length ≤ 9223372036854775807) : l47_BlockValid_Body (p0.Parent, p0.Height, p0.Miner, p0.Work, p0.Nonce, p0.Txs, ()) ((true : Bool), ()) := by
  have j1 : ∀ s, (s = false → smallBk p0 = true) → l47_BlockValid_J1 (true, ()) (s, p0.Parent, p0.Height, p0.Miner, p0.Work, p0.Nonce, p0.Txs, ()) := by
    intro s hs
    refine l47_BlockValid_J1_in ⟨fun _ => by simp, fun e => ?_⟩
    obtain ⟨h1, h2⟩ := smallBk_le (hs e)
    simp only [TBlock_eta]
    exact ⟨fun x hx => (h x hx).1, fun x hx => ⟨(h x hx).1, small_tl (h2 x hx)⟩, by simp⟩
  refine l47_BlockValid_in ⟨fun h => by simp at h, fun _ => ⟨fun x hx => (h x hx).2, j1 _ fun e => by simpa using e⟩⟩
end Go.Proofs.Ytnmakgfmimagmaa
namespace Go.Proofs.Ytnmakgfmimagmaa
open Go Go.Bv Go.Cv Go.Md Go.RowKit
def l47_BlockHeavy_sh : Con TB.den := Con.mk0 4 [.agg [.d (.int .u64), .d (.sl (.int .u64)), .d (.sl (.st 0)), .d (.int .u64), .d (.int .u64), .d (.int .u64), .d (.int .u64), .d (.int .u64), .d (.int .i64), .d (.sl (.int .u8))], .one (.d (.int .u8)), .one (.d (.int .u32))] [] (.one (.one (.d (.bool)))) []
abbrev l47_BlockHeavy_I := HL TB.den (hsT l47_BlockHeavy_sh.ins (hsOs l47_BlockHeavy_sh.pre))
abbrev l47_BlockHeavy_O := HL TB.den (hsV l47_BlockHeavy_sh.res (hsOs l47_BlockHeavy_sh.post))
noncomputable def l47_BlockHeavy_cx : Cx TB := ⟨inf, [l47_awake_con, r41_Small_con, r41_Valid_con, r41_Bytes_con, block_Valid_con], [], 4⟩
noncomputable def l47_BlockHeavy_code : Code := Try.f4.body.getD .skip
noncomputable def l47_BlockHeavy_rs : List ResultVar := Try.f4.results.toList
def l47_BlockHeavy_TJ3 : Tm := ⟨[2, 4], [.cells [.d (.int .u64), .d (.int .i64), .d (.int .u64), .d (.int .u64), .d (.int .u64), .own 1], .tip (.st 1)], [7, 8], [.one (.ptr 0 0), .one (.d (.int .i64))], 5⟩
noncomputable def l47_BlockHeavy_J3d (o : l47_BlockHeavy_O) (i : HL TB.den l47_BlockHeavy_TJ3.hs) : Prop := ghs TB [] (l47_BlockHeavy_TJ3.fill TB i) fun s => WP TB l47_BlockHeavy_cx 57 0 (cB (cB (cB (cB (cB (cB (cB l47_BlockHeavy_code))))))) .no s (retTQ TB l47_BlockHeavy_cx l47_BlockHeavy_sh l47_BlockHeavy_rs o)
structure l47_BlockHeavy_J3 (o : l47_BlockHeavy_O) (i : HL TB.den l47_BlockHeavy_TJ3.hs) : Prop where
  h : l47_BlockHeavy_J3d o i
noncomputable def l47_BlockHeavy_Q1 (o : l47_BlockHeavy_O) : Exit → TSt TB.den → Prop := thenT TB (fun s => l47_BlockHeavy_TJ3.mat TB 0 s (l47_BlockHeavy_J3 o)) (retTQ TB l47_BlockHeavy_cx l47_BlockHeavy_sh l47_BlockHeavy_rs o)
def l47_BlockHeavy_TJ2 : Tm := ⟨[0, 2, 3, 4], [.cells [.d (.int .u64), .d (.sl (.int .u64)), .d (.sl (.st 0)), .d (.int .u64), .d (.int .u64), .d (.int .u64), .d (.int .u64), .d (.int .u64), .d (.int .i64), .own 2], .cells [.d (.int .u64), .d (.int .i64), .d (.int .u64), .d (.int .u64), .d (.int .u64), .own 3], .tip (.int .u8), .tip (.st 1)], [3, 7, 8, 44], [.one (.ptr 0 0), .one (.ptr 1 0), .one (.d (.int .i64)), .one (.d (.bool))], 5⟩
noncomputable def l47_BlockHeavy_J2d (o : l47_BlockHeavy_O) (i : HL TB.den l47_BlockHeavy_TJ2.hs) : Prop := ghs TB [] (l47_BlockHeavy_TJ2.fill TB i) fun s => WP TB l47_BlockHeavy_cx 57 0 (cB (cA (cB (cB (cB (cB (cB (cB l47_BlockHeavy_code)))))))) .no s (l47_BlockHeavy_Q1 o)
structure l47_BlockHeavy_J2 (o : l47_BlockHeavy_O) (i : HL TB.den l47_BlockHeavy_TJ2.hs) : Prop where
  h : l47_BlockHeavy_J2d o i
noncomputable def l47_BlockHeavy_A3 (o : l47_BlockHeavy_O) : An TB := .jn l47_BlockHeavy_TJ3 (l47_BlockHeavy_J3 o) [] (.jn l47_BlockHeavy_TJ2 (l47_BlockHeavy_J2 o) [] .no [] .no) [] .no
noncomputable def l47_BlockHeavy_Q4 (o : l47_BlockHeavy_O) : Exit → TSt TB.den → Prop := thenT TB (fun s => ghs TB [] s fun s => WP TB l47_BlockHeavy_cx 57 0 (cB (cB (cB (cB (cB l47_BlockHeavy_code))))) (.nd [] .no [] (l47_BlockHeavy_A3 o)) s (retTQ TB l47_BlockHeavy_cx l47_BlockHeavy_sh l47_BlockHeavy_rs o)) (retTQ TB l47_BlockHeavy_cx l47_BlockHeavy_sh l47_BlockHeavy_rs o)
def l47_BlockHeavy_T1 : Tm := ⟨[0, 2, 3, 4], [.cells [.d (.int .u64), .d (.sl (.int .u64)), .d (.sl (.st 0)), .d (.int .u64), .d (.int .u64), .d (.int .u64), .d (.int .u64), .d (.int .u64), .d (.int .i64), .own 2], .cells [.d (.int .u64), .d (.int .i64), .d (.int .u64), .d (.int .u64), .d (.int .u64), .own 3], .tip (.int .u8), .tip (.st 1)], [3, 7, 26, 27], [.one (.ptr 0 0), .one (.ptr 1 0), .one (.d (.int .i64)), .one (.d (.int .i64))], 5⟩
noncomputable def l47_BlockHeavy_Q5 (o : l47_BlockHeavy_O) (nx1 : HL TB.den l47_BlockHeavy_T1.hs → Prop) : Exit → TSt TB.den → Prop := thenT TB (fun s => l47_BlockHeavy_T1.mat TB 0 s nx1) (blockT TB 0 (l47_BlockHeavy_Q4 o))
noncomputable def l47_BlockHeavy_L1 (o : l47_BlockHeavy_O) (nx1 : HL TB.den l47_BlockHeavy_T1.hs → Prop) (i : HL TB.den l47_BlockHeavy_T1.hs) : Prop := WP TB l47_BlockHeavy_cx 57 0 (cA (cA (cB (cA (cB (cB (cB (cB l47_BlockHeavy_code)))))))) .no (l47_BlockHeavy_T1.fill TB i) (l47_BlockHeavy_Q5 o nx1)
noncomputable def l47_BlockHeavy_A8 (o : l47_BlockHeavy_O) : An TB := .lp [.frzc 1 0 9, .tokc 2 5 (.st 1)] l47_BlockHeavy_T1 (l47_BlockHeavy_L1 o) fun nx1 => .no
noncomputable def l47_BlockHeavy_A9 (o : l47_BlockHeavy_O) : An TB := .nd [] (.nd [] .no [] (l47_BlockHeavy_A8 o)) [] (.nd [] .no [] (l47_BlockHeavy_A3 o))
noncomputable def l47_BlockHeavy_Q10 (o : l47_BlockHeavy_O) : Exit → TSt TB.den → Prop := thenT TB (fun s => ghs TB [] s fun s => WP TB l47_BlockHeavy_cx 57 0 (cB (cB l47_BlockHeavy_code)) (.nd [] .no [] (.nd [] .no [] (l47_BlockHeavy_A9 o))) s (retTQ TB l47_BlockHeavy_cx l47_BlockHeavy_sh l47_BlockHeavy_rs o)) (retTQ TB l47_BlockHeavy_cx l47_BlockHeavy_sh l47_BlockHeavy_rs o)
def l47_BlockHeavy_TJ1 : Tm := ⟨[0], [.cells [.d (.int .u64), .d (.sl (.int .u64)), .d (.sl (.st 0)), .d (.int .u64), .d (.int .u64), .d (.int .u64), .d (.int .u64), .d (.int .u64), .d (.int .i64), .d (.sl (.int .u8))]], [1, 2, 3, 15], [.one (.d (.int .u8)), .one (.d (.int .u32)), .one (.ptr 0 0), .one (.d (.bool))], 1⟩
noncomputable def l47_BlockHeavy_J1d (o : l47_BlockHeavy_O) (i : HL TB.den l47_BlockHeavy_TJ1.hs) : Prop := ghs TB [] (l47_BlockHeavy_TJ1.fill TB i) fun s => WP TB l47_BlockHeavy_cx 57 0 (cB (cA (cB l47_BlockHeavy_code))) .no s (l47_BlockHeavy_Q10 o)
structure l47_BlockHeavy_J1 (o : l47_BlockHeavy_O) (i : HL TB.den l47_BlockHeavy_TJ1.hs) : Prop where
  h : l47_BlockHeavy_J1d o i
noncomputable def l47_BlockHeavy_A12 (o : l47_BlockHeavy_O) : An TB := .nd [] (.jn l47_BlockHeavy_TJ1 (l47_BlockHeavy_J1 o) [] .no [] .no) [] (.nd [] .no [] (.nd [] .no [] (l47_BlockHeavy_A9 o)))
noncomputable def l47_BlockHeavy_an (o : l47_BlockHeavy_O) : An TB := .nd [] .no [] (l47_BlockHeavy_A12 o)
noncomputable def l47_BlockHeavy_Body (x : l47_BlockHeavy_I) (o : l47_BlockHeavy_O) : Prop := WPh TB l47_BlockHeavy_cx 57 0 l47_BlockHeavy_code (l47_BlockHeavy_an o) (l47_BlockHeavy_sh.st TB x) (retTQ TB l47_BlockHeavy_cx l47_BlockHeavy_sh l47_BlockHeavy_rs o)
set_option maxRecDepth 100000 in
theorem l47_BlockHeavy_obl (o : l47_BlockHeavy_O) : OblH TB l47_BlockHeavy_cx 57 0 l47_BlockHeavy_code (l47_BlockHeavy_an o) (retTQ TB l47_BlockHeavy_cx l47_BlockHeavy_sh l47_BlockHeavy_rs o) :=
  OblH.of_eq (X := (True ∧ ((True ∧ (∀ i, (l47_BlockHeavy_J1 o) i = (l47_BlockHeavy_J1d o) i) ∧ ((True ∧ True) ∧ True)) ∧ (True ∧ (True ∧ ((True ∧ ((∀ nx i, (l47_BlockHeavy_L1 o) nx i = (l47_BlockHeavy_L1 o) nx i) ∧ ∀ nx1 : HL TB.den l47_BlockHeavy_T1.hs → Prop, (True ∧ ((True ∧ True) ∧ (True ∧ True))))) ∧ (True ∧ ((True ∧ (∀ i, (l47_BlockHeavy_J2 o) i = (l47_BlockHeavy_J2d o) i) ∧ (True ∧ (True ∧ (True ∧ True)))) ∧ (∀ i, (l47_BlockHeavy_J3 o) i = (l47_BlockHeavy_J3d o) i) ∧ (True ∧ True))))))))) (by kernel_rfl) ⟨trivial, ⟨⟨trivial, fun _ => propext ⟨fun h => h.1, fun h => ⟨h⟩⟩, ⟨⟨trivial, trivial⟩, trivial⟩⟩, ⟨trivial, ⟨trivial, ⟨⟨trivial, ⟨fun _ _ => rfl, fun _ => ⟨trivial, ⟨⟨trivial, trivial⟩, ⟨trivial, trivial⟩⟩⟩⟩⟩, ⟨trivial, ⟨⟨trivial, fun _ => propext ⟨fun h => h.1, fun h => ⟨h⟩⟩, ⟨trivial, ⟨trivial, ⟨trivial, trivial⟩⟩⟩⟩, fun _ => propext ⟨fun h => h.1, fun h => ⟨h⟩⟩, ⟨trivial, trivial⟩⟩⟩⟩⟩⟩⟩⟩
set_option maxRecDepth 100000 in
theorem l47_BlockHeavy_snd {x : l47_BlockHeavy_I} {o : l47_BlockHeavy_O} (h : l47_BlockHeavy_Body x o) : SoundH Try.prog l47_BlockHeavy_sh.f ((l47_BlockHeavy_sh.args idf x).map (er TB)) ((l47_BlockHeavy_sh.obs idf x).map (erO TB)) (er TB (l47_BlockHeavy_sh.val idf o)) ((l47_BlockHeavy_sh.ops idf o).map (erO TB)) :=
  Con.soundH (c := l47_BlockHeavy_sh) (C := l47_BlockHeavy_cx) TBok ⟨inf_ok, (all_cons l47_awake_ok (all_cons r41_Small_ok (all_cons r41_Valid_ok (all_cons r41_Bytes_ok (all_cons block_Valid_ok all_nil))))), all_nil⟩ mix Try.func4 (show Try.f4.body = some l47_BlockHeavy_code by kernel_rfl) (show Try.f4.ntmps = 57 by kernel_rfl) (show Try.f4.results.toList = l47_BlockHeavy_rs by kernel_rfl) rfl h (l47_BlockHeavy_obl o)
set_option maxRecDepth 100000 in
theorem l47_BlockHeavy_in {p0 : TTx} {p1 : Int} {p2 : Int} {r0 : Bool} (h :
(((!true) = true →
 l47_BlockHeavy_J1 (r0, ()) (p1, p2, true, p0.Anchor, p0.Marks, p0.Outs, p0.Deposit, p0.Withdraw, p0.Fee, p0.Account, p0.Nonce, p0.Expiry, p0.Proof, ())) ∧
((!true) = false →
(p0.Outs.length ≤ 9223372036854775807) ∧ l47_BlockHeavy_J1 (r0, ()) (p1, p2, ((!smallB p0 (100 : Int)) : Bool), p0.Anchor, p0.Marks, p0.Outs, p0.Deposit, p0.Withdraw, p0.Fee, p0.Account, p0.Nonce, p0.Expiry, p0.Proof, ())))) : l47_BlockHeavy_Body (p0.Anchor, p0.Marks, p0.Outs, p0.Deposit, p0.Withdraw, p0.Fee, p0.Account, p0.Nonce, p0.Expiry, p0.Proof, p1, p2, ()) (r0, ()) := WPh.of_eq (by kernel_rfl) h
set_option maxRecDepth 100000 in
theorem l47_BlockHeavy_J1_in {r0 : Bool} {s1 : Int} {s2 : Int} {s15 : Bool} {h0_0 : Int} {h0_1 : List Int} {h0_2 : List TOut} {h0_3 : Int} {h0_4 : Int} {h0_5 : Int} {h0_6 : Int} {h0_7 : Int} {h0_8 : Int} {h0_9 : List Int} (h :
((s15 = true →
 true = r0) ∧
(s15 = false →
 let v1 : Int := IntKind.i64.wrap (1000000 + (IntKind.i64.wrap (Int.tmod s2 48577)))
 0 ≤ v1 ∧ v1 ≤ v1 ∧ (v1.toNat * 1 ≤ 140737488355328) ∧ (v1.toNat ≤ maxLen) ∧ (v1.toNat = (List.replicate v1.toNat (0 : Int)).length) ∧ (([] : List TTx) = ([] : List TTx)) ∧ (List.replicate v1.toNat (0 : Int) = List.replicate v1.toNat (0 : Int)) ∧ Md.Loop ((IntKind.i64.wrap (Int.tmod s1 4) : Int), (0 : Int), h0_0, h0_1, h0_2, h0_3, h0_4, h0_5, h0_6, h0_7, h0_8, (0 : Int), (1 : Int), (0 : Int), (1 : Int), (0 : Int), (List.replicate v1.toNat (0 : Int) : List Int), (([] : List TTx) : List TTx), ()) (l47_BlockHeavy_L1 (r0, ()))))) : l47_BlockHeavy_J1 (r0, ()) (s1, s2, s15, h0_0, h0_1, h0_2, h0_3, h0_4, h0_5, h0_6, h0_7, h0_8, h0_9, ()) := ⟨mpr_of (by kernel_rfl) h⟩
set_option maxRecDepth 100000 in
theorem l47_BlockHeavy_J2_in {r0 : Bool} {s8 : Int} {s44 : Bool} {h0_0 : Int} {h0_1 : List Int} {h0_2 : List TOut} {h0_3 : Int} {h0_4 : Int} {h0_5 : Int} {h0_6 : Int} {h0_7 : Int} {h0_8 : Int} {h2_0 : Int} {h2_1 : Int} {h2_2 : Int} {h2_3 : Int} {h2_4 : Int} {g3 : List Int} {g4 : List TTx} (h :
((s44 = true →
(g4 = g4) ∧ l47_BlockHeavy_J3 (r0, ()) ((1 : Int), h2_0, h2_1, h2_2, h2_3, h2_4, g4, ())) ∧
(s44 = false →
(TR (TTx.mk h0_0 h0_1 h0_2 h0_3 h0_4 h0_5 h0_6 h0_7 h0_8 g3) ∧ TL (TTx.mk h0_0 h0_1 h0_2 h0_3 h0_4 h0_5 h0_6 h0_7 h0_8 g3) ∧ (TTx.mk h0_0 h0_1 h0_2 h0_3 h0_4 h0_5 h0_6 h0_7 h0_8 g3).Outs.length ≤ 1048576 ∧ (∀ x ∈ (TTx.mk h0_0 h0_1 h0_2 h0_3 h0_4 h0_5 h0_6 h0_7 h0_8 g3).Outs, x.Cipher.length ≤ 1024)) ∧ let r4 : List Int := encT (TTx.mk h0_0 h0_1 h0_2 h0_3 h0_4 h0_5 h0_6 h0_7 h0_8 g3) (TTx.mk h0_0 h0_1 h0_2 h0_3 h0_4 h0_5 h0_6 h0_7 h0_8 g3).Proof
 let v5 : Int := IntKind.i64.wrap ((g4.length : Int) * (r4.length : Int))
(decide (2097152 < v5) = true →
(g4 = g4) ∧ l47_BlockHeavy_J3 (r0, ()) ((3 : Int), h2_0, h2_1, h2_2, h2_3, h2_4, g4, ())) ∧
(decide (2097152 < v5) = false →
(g4 = g4) ∧ l47_BlockHeavy_J3 (r0, ()) (s8, h2_0, h2_1, h2_2, h2_3, h2_4, g4, ()))))) : l47_BlockHeavy_J2 (r0, ()) (s8, s44, h0_0, h0_1, h0_2, h0_3, h0_4, h0_5, h0_6, h0_7, h0_8, h2_0, h2_1, h2_2, h2_3, h2_4, g3, g4, ()) := ⟨mpr_of (by kernel_rfl) h⟩
set_option maxRecDepth 100000 in
theorem l47_BlockHeavy_J3_in {r0 : Bool} {s8 : Int} {h2_0 : Int} {h2_1 : Int} {h2_2 : Int} {h2_3 : Int} {h2_4 : Int} {g4 : List TTx} (h :
((∀ x ∈ (TBlock.mk h2_0 h2_1 h2_2 h2_3 h2_4 g4).Txs, TR x) ∧ let r6 : Int := validB (TBlock.mk h2_0 h2_1 h2_2 h2_3 h2_4 g4)
(r6 == s8) = r0)) : l47_BlockHeavy_J3 (r0, ()) (s8, h2_0, h2_1, h2_2, h2_3, h2_4, g4, ()) := ⟨mpr_of (by kernel_rfl) h⟩
def l47_BlockHeavy_B1 (r0 : Bool) (k1 : Int → List TTx → Prop) (s26 : Int) (h0_0 : Int) (h0_1 : List Int) (h0_2 : List TOut) (h0_3 : Int) (h0_4 : Int) (h0_5 : Int) (h0_6 : Int) (h0_7 : Int) (h0_8 : Int) (h2_0 : Int) (h2_1 : Int) (h2_2 : Int) (h2_3 : Int) (h2_4 : Int) (g3 : List Int) (s27 : Int) (g4 : List TTx) : Prop :=
(decide (s27 < s26) = true →
 g4.length = g4.length ∧ (g4.length + [TTx.mk h0_0 h0_1 h0_2 h0_3 h0_4 h0_5 h0_6 h0_7 h0_8 g3].length) * 128 ≤ 140737488355328 ∧ g4.length + [TTx.mk h0_0 h0_1 h0_2 h0_3 h0_4 h0_5 h0_6 h0_7 h0_8 g3].length ≤ maxLen ∧ let v2 : List TTx := g4 ++ [TTx.mk h0_0 h0_1 h0_2 h0_3 h0_4 h0_5 h0_6 h0_7 h0_8 g3]
(v2 = v2) ∧ (g3 = g3) ∧ k1 (IntKind.i64.wrap (s27 + 1) : Int) v2) ∧
(decide (s27 < s26) = false →
(decide (0 < (g4.length : Int)) = true →
(TR (TTx.mk h0_0 h0_1 h0_2 h0_3 h0_4 h0_5 h0_6 h0_7 h0_8 g3) ∧ TL (TTx.mk h0_0 h0_1 h0_2 h0_3 h0_4 h0_5 h0_6 h0_7 h0_8 g3)) ∧ let r3 : Int := validE (TTx.mk h0_0 h0_1 h0_2 h0_3 h0_4 h0_5 h0_6 h0_7 h0_8 g3)
(g4 = g4) ∧ (g3 = g3) ∧ l47_BlockHeavy_J2 (r0, ()) ((0 : Int), ((r3 != 0) : Bool), h0_0, h0_1, h0_2, h0_3, h0_4, h0_5, h0_6, h0_7, h0_8, h2_0, h2_1, h2_2, h2_3, h2_4, g3, g4, ())) ∧
(decide (0 < (g4.length : Int)) = false →
(g4 = g4) ∧ (g3 = g3) ∧ l47_BlockHeavy_J2 (r0, ()) ((0 : Int), false, h0_0, h0_1, h0_2, h0_3, h0_4, h0_5, h0_6, h0_7, h0_8, h2_0, h2_1, h2_2, h2_3, h2_4, g3, g4, ())))
set_option maxRecDepth 100000 in
theorem l47_BlockHeavy_lp1 {r0 : Bool} {s26 : Int} {h0_0 : Int} {h0_1 : List Int} {h0_2 : List TOut} {h0_3 : Int} {h0_4 : Int} {h0_5 : Int} {h0_6 : Int} {h0_7 : Int} {h0_8 : Int} {h2_0 : Int} {h2_1 : Int} {h2_2 : Int} {h2_3 : Int} {h2_4 : Int} {g3 : List Int} {s27 : Int} {g4 : List TTx} (inv : Int → List TTx → Prop) (μ : Int → List TTx → Nat) (h0 : inv s27 g4) (hs : ∀ (s27 : Int) (g4 : List TTx), inv s27 g4 → l47_BlockHeavy_B1 r0 (fun s27q g4q => inv s27q g4q ∧ μ s27q g4q < μ s27 g4) s26 h0_0 h0_1 h0_2 h0_3 h0_4 h0_5 h0_6 h0_7 h0_8 h2_0 h2_1 h2_2 h2_3 h2_4 g3 s27 g4) : Md.Loop (s26, s27, h0_0, h0_1, h0_2, h0_3, h0_4, h0_5, h0_6, h0_7, h0_8, h2_0, h2_1, h2_2, h2_3, h2_4, g3, g4, ()) (l47_BlockHeavy_L1 (r0, ())) :=
  ⟨⟨fun s : Int × Int × Int × (List Int) × (List TOut) × Int × Int × Int × Int × Int × Int × Int × Int × Int × Int × Int × (List Int) × (List TTx) × Unit => (s.1 = s26 ∧ s.2.2.1 = h0_0 ∧ s.2.2.2.1 = h0_1 ∧ s.2.2.2.2.1 = h0_2 ∧ s.2.2.2.2.2.1 = h0_3 ∧ s.2.2.2.2.2.2.1 = h0_4 ∧ s.2.2.2.2.2.2.2.1 = h0_5 ∧ s.2.2.2.2.2.2.2.2.1 = h0_6 ∧ s.2.2.2.2.2.2.2.2.2.1 = h0_7 ∧ s.2.2.2.2.2.2.2.2.2.2.1 = h0_8 ∧ s.2.2.2.2.2.2.2.2.2.2.2.1 = h2_0 ∧ s.2.2.2.2.2.2.2.2.2.2.2.2.1 = h2_1 ∧ s.2.2.2.2.2.2.2.2.2.2.2.2.2.1 = h2_2 ∧ s.2.2.2.2.2.2.2.2.2.2.2.2.2.2.1 = h2_3 ∧ s.2.2.2.2.2.2.2.2.2.2.2.2.2.2.2.1 = h2_4 ∧ s.2.2.2.2.2.2.2.2.2.2.2.2.2.2.2.2.1 = g3) ∧ inv s.2.1 s.2.2.2.2.2.2.2.2.2.2.2.2.2.2.2.2.2.1, fun s : Int × Int × Int × (List Int) × (List TOut) × Int × Int × Int × Int × Int × Int × Int × Int × Int × Int × Int × (List Int) × (List TTx) × Unit => μ s.2.1 s.2.2.2.2.2.2.2.2.2.2.2.2.2.2.2.2.2.1, ⟨⟨rfl, rfl, rfl, rfl, rfl, rfl, rfl, rfl, rfl, rfl, rfl, rfl, rfl, rfl, rfl, rfl⟩, h0⟩, fun (s26p, s27p, h0_0p, h0_1p, h0_2p, h0_3p, h0_4p, h0_5p, h0_6p, h0_7p, h0_8p, h2_0p, h2_1p, h2_2p, h2_3p, h2_4p, g3p, g4p, ()) ⟨⟨eq0, eq1, eq2, eq3, eq4, eq5, eq6, eq7, eq8, eq9, eq10, eq11, eq12, eq13, eq14, eq15⟩, hi⟩ => by
    have eq0 : s26p = s26 := eq0; subst s26p; have eq1 : h0_0p = h0_0 := eq1; subst h0_0p; have eq2 : h0_1p = h0_1 := eq2; subst h0_1p; have eq3 : h0_2p = h0_2 := eq3; subst h0_2p; have eq4 : h0_3p = h0_3 := eq4; subst h0_3p; have eq5 : h0_4p = h0_4 := eq5; subst h0_4p; have eq6 : h0_5p = h0_5 := eq6; subst h0_5p; have eq7 : h0_6p = h0_6 := eq7; subst h0_6p; have eq8 : h0_7p = h0_7 := eq8; subst h0_7p; have eq9 : h0_8p = h0_8 := eq9; subst h0_8p; have eq10 : h2_0p = h2_0 := eq10; subst h2_0p; have eq11 : h2_1p = h2_1 := eq11; subst h2_1p; have eq12 : h2_2p = h2_2 := eq12; subst h2_2p; have eq13 : h2_3p = h2_3 := eq13; subst h2_3p; have eq14 : h2_4p = h2_4 := eq14; subst h2_4p; have eq15 : g3p = g3 := eq15; subst g3p; exact mpr_of (by kernel_rfl) ((congrArg (fun k => l47_BlockHeavy_B1 r0 k s26 h0_0 h0_1 h0_2 h0_3 h0_4 h0_5 h0_6 h0_7 h0_8 h2_0 h2_1 h2_2 h2_3 h2_4 g3 s27p g4p) (lpk2 (⟨rfl, rfl, rfl, rfl, rfl, rfl, rfl, rfl, rfl, rfl, rfl, rfl, rfl, rfl, rfl, rfl⟩ : s26 = s26 ∧ h0_0 = h0_0 ∧ h0_1 = h0_1 ∧ h0_2 = h0_2 ∧ h0_3 = h0_3 ∧ h0_4 = h0_4 ∧ h0_5 = h0_5 ∧ h0_6 = h0_6 ∧ h0_7 = h0_7 ∧ h0_8 = h0_8 ∧ h2_0 = h2_0 ∧ h2_1 = h2_1 ∧ h2_2 = h2_2 ∧ h2_3 = h2_3 ∧ h2_4 = h2_4 ∧ g3 = g3) inv (fun s27q g4q => μ s27q g4q < μ s27p g4p))).mpr (hs s27p g4p hi))⟩⟩
theorem l47_BlockHeavy_body (p0 : TTx) (p1 : Int) (p2 : Int) (h : TR p0 ∧ p0.Outs.length ≤ 9223372036854775807 ∧ (0 ≤ p1 ∧ p1 < 256) ∧ 0 ≤ p2 ∧ p2 < 4294967296) : l47_BlockHeavy_Body (p0.Anchor, p0.Marks, p0.Outs, p0.Deposit, p0.Withdraw, p0.Fee, p0.Account, p0.Nonce, p0.Expiry, p0.Proof, p1, p2, ()) ((true : Bool), ()) := by
  obtain ⟨hr, hl, hp1, hp2⟩ := h
  have j3 : ∀ w b, (∀ x ∈ b.Txs, TR x) → w = validB b → l47_BlockHeavy_J3 (true, ()) (w, b.Parent, b.Height, b.Miner, b.Work, b.Nonce, b.Txs, ()) := by
    intro w b hb hw
    refine l47_BlockHeavy_J3_in ?_
    simp only [TBlock_eta]
    exact ⟨hb, by rw [hw]; simp⟩
  have j1 : ∀ s, (s = false → smallB p0 100 = true) → l47_BlockHeavy_J1 (true, ()) (p1, p2, s, p0.Anchor, p0.Marks, p0.Outs, p0.Deposit, p0.Withdraw, p0.Fee, p0.Account, p0.Nonce, p0.Expiry, p0.Proof, ()) := by
    intro s hs
    refine l47_BlockHeavy_J1_in ⟨fun _ => by simp, fun e => ?_⟩
    have sl := small_le (hs e)
    have tl := small_tl (hs e)
    rw [tmod_nn p1 4 hp1.1, tmod_nn p2 48577 hp2.1, wi (p1 % 4) (by omega) (by omega), wi (p2 % 48577) (by omega) (by omega), wi (1000000 + p2 % 48577) (by omega) (by omega)]
    generalize hn : 1000000 + p2 % 48577 = n
    have n0 : 1000000 ≤ n := by omega
    have n1 : n ≤ 1048576 := by omega
    try simp only []
    generalize hz : List.replicate n.toNat (0 : Int) = z
    have zl : z.length = n.toNat := by rw [← hz, List.length_replicate]
    have zb : By z := by rw [← hz]; intro x hx; rw [(List.mem_replicate.1 hx).2]; decide
    generalize ht : (⟨p0.Anchor, p0.Marks, p0.Outs, p0.Deposit, p0.Withdraw, p0.Fee, p0.Account, p0.Nonce, p0.Expiry, z⟩ : TTx) = t
    have tr : TR t := by rw [← ht]; exact ⟨hr.a, hr.m, hr.o, hr.d, hr.w, hr.f, hr.ac, hr.n, hr.e, zb⟩
    have tt : TL t := by rw [← ht]; exact ⟨tl.m, tl.o, tl.c, by show z.length ≤ _; omega⟩
    have to : t.Outs.length ≤ 1048576 ∧ ∀ x ∈ t.Outs, x.Cipher.length ≤ 1024 := by rw [← ht]; exact ⟨by show p0.Outs.length ≤ _; omega, fun x hx => by have := sl.2.2.1 x hx; omega⟩
    refine ⟨by omega, by omega, by omega, by unfold maxLen; omega, by omega, (by first | exact rfl | exact True.intro), (by first | exact rfl | exact True.intro), ?_⟩
    refine l47_BlockHeavy_lp1 (fun i g => 0 ≤ i ∧ i ≤ p1 % 4 ∧ g = List.replicate i.toNat t) (fun i _ => (p1 % 4 - i).toNat) ⟨by omega, by omega, by simp⟩ ?_
    rintro i g ⟨g0, g1, rfl⟩
    refine ⟨fun hh => ?_, fun hh => ?_⟩
    · have hh := of_decide_eq_true hh
      try simp only []
      rw [inc i (p1 % 4) g0 hh (by omega), ht]
      refine ⟨(by first | exact rfl | exact True.intro), by simp; omega, by simp; unfold maxLen; omega, (by first | exact rfl | exact True.intro), (by first | exact rfl | exact True.intro), ⟨by omega, by omega, ?_⟩, by omega⟩
      rw [show (i + 1).toNat = i.toNat + 1 by omega, List.replicate_succ']
    · have hh := of_decide_eq_false hh
      have hi : i = p1 % 4 := by omega
      have trs : ∀ x ∈ List.replicate i.toNat t, TR x := fun x hx => by rw [(List.mem_replicate.1 hx).2]; exact tr
      have hv0 : VB0 ⟨0, 1, 0, 1, 0, List.replicate i.toNat t⟩ := ⟨by show (1 : Int) ≤ 1; omega, by show (1 : Int) ≤ 1048576; omega, by show (1 : Int) ≤ 1; omega, by show (1 : Int) ≤ 65536; omega, by show (0 : Int) < 18446744069414584321; omega, by show (0 : Int) < 18446744069414584321; omega, by show (List.replicate i.toNat t).length ≤ 64; rw [List.length_replicate]; omega⟩
      have tlen : (encT t t.Proof).length ≤ 3000000 := by
        have := encOs_length t.Outs 10 (by rw [← ht]; exact sl.2.2.1)
        have h5 : t.Proof.length ≤ 1048576 := by rw [← ht]; show z.length ≤ _; omega
        have h6 : t.Marks.length ≤ 10 := by rw [← ht]; exact sl.1
        have h7 : t.Outs.length ≤ 10 := by rw [← ht]; exact sl.2.1
        rw [encT_length]
        omega
      have j2 : ∀ s, (s = true → 0 < i ∧ validE t ≠ 0) → (s = false → 0 < i → validE t = 0) → l47_BlockHeavy_J2 (true, ()) ((0 : Int), s, p0.Anchor, p0.Marks, p0.Outs, p0.Deposit, p0.Withdraw, p0.Fee, p0.Account, p0.Nonce, p0.Expiry, (0 : Int), (1 : Int), (0 : Int), (1 : Int), (0 : Int), z, List.replicate i.toNat t, ()) := by
        intro s h1 h2
        refine l47_BlockHeavy_J2_in ⟨fun e => ⟨(by first | exact rfl | exact True.intro), j3 _ ⟨0, 1, 0, 1, 0, List.replicate i.toNat t⟩ trs ?_⟩, fun e => ?_⟩
        · obtain ⟨q1, q2⟩ := h1 e
          exact (validB_tx (x := t) (List.mem_replicate.2 ⟨by omega, rfl⟩) q2).symm
        · rw [ht]
          have hv : ∀ x ∈ List.replicate i.toNat t, validE x = 0 := fun x hx => by
            obtain ⟨k1, k2⟩ := List.mem_replicate.1 hx
            rw [k2]; exact h2 e (by omega)
          have hw : sumW (List.replicate i.toNat t) = i * (encT t t.Proof).length := by
            rw [sumW_rep, show ((i.toNat : Nat) : Int) = i by omega]
            rcases Int.lt_or_eq_of_le g0 with q | q
            · rw [show weightS t = ((encT t t.Proof).length : Int) from if_pos (h2 e q)]
            · rw [← q]; simp
          refine ⟨⟨tr, tt, to⟩, ?_⟩
          have hb : 0 ≤ sumW (List.replicate i.toNat t) ∧ sumW (List.replicate i.toNat t) ≤ 100000000 := by
            rw [hw]
            have : i = 0 ∨ i = 1 ∨ i = 2 ∨ i = 3 := by omega
            rcases this with q | q | q | q <;> rw [q] <;> omega
          have ew : IntKind.i64.wrap (((List.replicate i.toNat t).length : Int) * ((encT t t.Proof).length : Int)) = sumW (List.replicate i.toNat t) := by
            rw [List.length_replicate, show ((i.toNat : Nat) : Int) = i by omega, ← hw, wi (sumW (List.replicate i.toNat t)) (by omega) (by omega)]
          refine ⟨fun e2 => ⟨(by first | exact rfl | exact True.intro), j3 _ ⟨0, 1, 0, 1, 0, List.replicate i.toNat t⟩ trs ?_⟩, fun e2 => ⟨(by first | exact rfl | exact True.intro), j3 _ ⟨0, 1, 0, 1, 0, List.replicate i.toNat t⟩ trs ?_⟩⟩
          · have e2 : 2097152 < IntKind.i64.wrap (((List.replicate i.toNat t).length : Int) * ((encT t t.Proof).length : Int)) := of_decide_eq_true e2
            rw [ew] at e2
            rw [validB_of hv0 hv]
            exact (if_neg (by show ¬ sumW (List.replicate i.toNat t) ≤ 2097152; omega)).symm
          · have e2 : ¬ 2097152 < IntKind.i64.wrap (((List.replicate i.toNat t).length : Int) * ((encT t t.Proof).length : Int)) := of_decide_eq_false e2
            rw [ew] at e2
            rw [validB_of hv0 hv]
            exact (if_pos (by show sumW (List.replicate i.toNat t) ≤ 2097152; omega)).symm
      refine ⟨fun e => ?_, fun e => ?_⟩
      · have e := of_decide_eq_true e
        rw [List.length_replicate] at e
        rw [ht]
        refine ⟨⟨tr, tt⟩, ?_⟩
        try simp only []
        exact ⟨(by first | exact rfl | exact True.intro), (by first | exact rfl | exact True.intro), j2 _ (fun h => ⟨by omega, by simpa using h⟩) (fun h _ => by simpa using h)⟩
      · have e := of_decide_eq_false e
        rw [List.length_replicate] at e
        exact ⟨(by first | exact rfl | exact True.intro), (by first | exact rfl | exact True.intro), j2 _ (fun h => by cases h) (fun _ h => by omega)⟩
  refine l47_BlockHeavy_in ⟨fun h => by simp at h, fun _ => ⟨hl, j1 _ fun e => by simpa using e⟩⟩
end Go.Proofs.Ytnmakgfmimagmaa
