/-
  Parts of the proofs that the laws of this seat hold of every input, merged by a program: a machine over pure data that is sound for the model, what each function of the translation does in it, and plain lemmas. No conditions but those in each theorem.
-/
import Derived.Test.YtdbnagpoknmoiaaA4
set_option linter.all false
namespace Go.Proofs.Ytdbnagpoknmoiaa
open Go Go.Bv Go.Cv Go.Md Go.RowKit
def r11_Int_2_sh : Con TB.den := Con.mk0 37 [.one (.d (.int .i64))] [] (.one (.one (.own 0))) [.tip (.int .u8)]
abbrev r11_Int_2_I := HL TB.den (hsT r11_Int_2_sh.ins (hsOs r11_Int_2_sh.pre))
abbrev r11_Int_2_O := HL TB.den (hsV r11_Int_2_sh.res (hsOs r11_Int_2_sh.post))
noncomputable def r11_Int_2_cx : Cx TB := ⟨inf, [r11_Digits_2_con], [], 4⟩
noncomputable def r11_Int_2_code : Code := Try.f37.body.getD .skip
noncomputable def r11_Int_2_rs : List ResultVar := Try.f37.results.toList
def r11_Int_2_TJ1 : Tm := ⟨[], [], [0], [.one (.d (.int .i64))], 0⟩
noncomputable def r11_Int_2_J1d (o : r11_Int_2_O) (i : HL TB.den r11_Int_2_TJ1.hs) : Prop := ghs TB [] (r11_Int_2_TJ1.fill TB i) fun s => WP TB r11_Int_2_cx 12 0 (cB (cB r11_Int_2_code)) .no s (retTQ TB r11_Int_2_cx r11_Int_2_sh r11_Int_2_rs o)
structure r11_Int_2_J1 (o : r11_Int_2_O) (i : HL TB.den r11_Int_2_TJ1.hs) : Prop where
  h : r11_Int_2_J1d o i
noncomputable def r11_Int_2_an (o : r11_Int_2_O) : An TB := .nd [] .no [] (.jn r11_Int_2_TJ1 (r11_Int_2_J1 o) [] .no [] .no)
noncomputable def r11_Int_2_Body (x : r11_Int_2_I) (o : r11_Int_2_O) : Prop := WPh TB r11_Int_2_cx 12 0 r11_Int_2_code (r11_Int_2_an o) (r11_Int_2_sh.st TB x) (retTQ TB r11_Int_2_cx r11_Int_2_sh r11_Int_2_rs o)
set_option maxRecDepth 100000 in
theorem r11_Int_2_obl (o : r11_Int_2_O) : OblH TB r11_Int_2_cx 12 0 r11_Int_2_code (r11_Int_2_an o) (retTQ TB r11_Int_2_cx r11_Int_2_sh r11_Int_2_rs o) :=
  OblH.of_eq (X := (True ∧ ((True ∧ (True ∧ True)) ∧ (∀ i, (r11_Int_2_J1 o) i = (r11_Int_2_J1d o) i) ∧ (True ∧ True)))) (by kernel_rfl) ⟨trivial, ⟨⟨trivial, ⟨trivial, trivial⟩⟩, fun _ => propext ⟨fun h => h.1, fun h => ⟨h⟩⟩, ⟨trivial, trivial⟩⟩⟩
set_option maxRecDepth 100000 in
theorem r11_Int_2_snd {x : r11_Int_2_I} {o : r11_Int_2_O} (h : r11_Int_2_Body x o) : SoundH Try.prog r11_Int_2_sh.f ((r11_Int_2_sh.args idf x).map (er TB)) ((r11_Int_2_sh.obs idf x).map (erO TB)) (er TB (r11_Int_2_sh.val idf o)) ((r11_Int_2_sh.ops idf o).map (erO TB)) :=
  Con.soundH (c := r11_Int_2_sh) (C := r11_Int_2_cx) TBok ⟨inf_ok, (all_cons r11_Digits_2_ok all_nil), all_nil⟩ mix Try.func37 (show Try.f37.body = some r11_Int_2_code by kernel_rfl) (show Try.f37.ntmps = 12 by kernel_rfl) (show Try.f37.results.toList = r11_Int_2_rs by kernel_rfl) rfl h (r11_Int_2_obl o)
set_option maxRecDepth 100000 in
theorem r11_Int_2_in {p0 : Int} {e0 : List Int} (h :
((decide (p0 < 0) = true →
 r11_Int_2_J1 (e0, ()) ((0 : Int), ())) ∧
(decide (p0 < 0) = false →
(decide (4294967296 ≤ p0) = true →
 r11_Int_2_J1 (e0, ()) ((0 : Int), ())) ∧
(decide (4294967296 ≤ p0) = false →
 r11_Int_2_J1 (e0, ()) (p0, ()))))) : r11_Int_2_Body (p0, ()) (e0, ()) := WPh.of_eq (by kernel_rfl) h
set_option maxRecDepth 100000 in
theorem r11_Int_2_J1_in {e0 : List Int} {s0 : Int} (h :
((U64 (IntKind.u64.wrap s0) ∧ 0 ≤ (4 : Int) ∧ (4 : Int) ≤ 8) ∧ let r1 : List Int := dig (4 : Int).toNat (IntKind.u64.wrap s0)
(r1 = r1) ∧ r1 = e0)) : r11_Int_2_J1 (e0, ()) (s0, ()) := ⟨mpr_of (by kernel_rfl) h⟩
theorem r11_Int_2_body (p0 : Int) : r11_Int_2_Body (p0, ()) ((dig 4 (len4 p0) : List Int), ()) := by
  have j : ∀ n, 0 ≤ n → n ≤ 4294967295 → len4 p0 = n → r11_Int_2_J1 ((dig 4 (len4 p0) : List Int), ()) (n, ()) := by
    intro n h0 h1 e
    refine r11_Int_2_J1_in ?_
    rw [wu n (by omega) (by omega), e]
    exact ⟨⟨⟨h0, by omega⟩, by omega⟩, by trivial, rfl⟩
  refine r11_Int_2_in ⟨fun h => j 0 (by omega) (by omega) ?_, fun h => ⟨fun h' => j 0 (by omega) (by omega) ?_, fun h' => j p0 ?_ ?_ ?_⟩⟩
  · have h := of_decide_eq_true h; exact if_pos (.inl h)
  · have h' := of_decide_eq_true h'; exact if_pos (.inr (by omega))
  · have h := of_decide_eq_false h; omega
  · have h' := of_decide_eq_false h'; omega
  · have h := of_decide_eq_false h; have h' := of_decide_eq_false h'; exact len4_in ⟨by omega, by omega⟩
noncomputable def r11_Int_2_con : Con TB.den := r11_Int_2_sh.totR fun x => ((fun (p0 : Int) => (dig 4 (len4 p0) : List Int)) x.1, ())
theorem r11_Int_2_ok : r11_Int_2_con.Ok Try.prog TB := Con.ok_tot r11_Int_2_sh bd37 fun x => r11_Int_2_snd (r11_Int_2_body x.1)
end Go.Proofs.Ytdbnagpoknmoiaa
namespace Go.Proofs.Ytdbnagpoknmoiaa
open Go Go.Bv Go.Cv Go.Md Go.RowKit
def r11_Bytes_sh : Con TB.den := Con.mk0 38 [.one (.d (.sl (.int .u8)))] [] (.one (.one (.d (.sl (.int .u8))))) []
abbrev r11_Bytes_I := HL TB.den (hsT r11_Bytes_sh.ins (hsOs r11_Bytes_sh.pre))
abbrev r11_Bytes_O := HL TB.den (hsV r11_Bytes_sh.res (hsOs r11_Bytes_sh.post))
noncomputable def r11_Bytes_cx : Cx TB := ⟨inf, [r11_Int_2_con], [], 4⟩
noncomputable def r11_Bytes_code : Code := Try.f38.body.getD .skip
noncomputable def r11_Bytes_rs : List ResultVar := Try.f38.results.toList
noncomputable def r11_Bytes_an (o : r11_Bytes_O) : An TB := .no
noncomputable def r11_Bytes_Body (x : r11_Bytes_I) (o : r11_Bytes_O) : Prop := WPh TB r11_Bytes_cx 8 0 r11_Bytes_code (r11_Bytes_an o) (r11_Bytes_sh.st TB x) (retTQ TB r11_Bytes_cx r11_Bytes_sh r11_Bytes_rs o)
set_option maxRecDepth 100000 in
theorem r11_Bytes_obl (o : r11_Bytes_O) : OblH TB r11_Bytes_cx 8 0 r11_Bytes_code (r11_Bytes_an o) (retTQ TB r11_Bytes_cx r11_Bytes_sh r11_Bytes_rs o) :=
  OblH.of_eq (X := (True ∧ (True ∧ True))) (by kernel_rfl) ⟨trivial, ⟨trivial, trivial⟩⟩
set_option maxRecDepth 100000 in
theorem r11_Bytes_snd {x : r11_Bytes_I} {o : r11_Bytes_O} (h : r11_Bytes_Body x o) : SoundH Try.prog r11_Bytes_sh.f ((r11_Bytes_sh.args idf x).map (er TB)) ((r11_Bytes_sh.obs idf x).map (erO TB)) (er TB (r11_Bytes_sh.val idf o)) ((r11_Bytes_sh.ops idf o).map (erO TB)) :=
  Con.soundH (c := r11_Bytes_sh) (C := r11_Bytes_cx) TBok ⟨inf_ok, (all_cons r11_Int_2_ok all_nil), all_nil⟩ mix Try.func38 (show Try.f38.body = some r11_Bytes_code by kernel_rfl) (show Try.f38.ntmps = 8 by kernel_rfl) (show Try.f38.results.toList = r11_Bytes_rs by kernel_rfl) rfl h (r11_Bytes_obl o)
set_option maxRecDepth 100000 in
theorem r11_Bytes_in {p0 : List Int} {r0 : List Int} (h :
((dig 4 (len4 (p0.length : Int))).length = (dig 4 (len4 (p0.length : Int))).length ∧ ((dig 4 (len4 (p0.length : Int))).length + p0.length) * 1 ≤ 140737488355328 ∧ (dig 4 (len4 (p0.length : Int))).length + p0.length ≤ maxLen ∧ (dig 4 (len4 (p0.length : Int))) ++ p0 = r0)) : r11_Bytes_Body (p0, ()) (r0, ()) := WPh.of_eq (by kernel_rfl) h
theorem bd38 : Callable Try.prog 38 := ⟨by rw [Try.func38]; kernel_rfl, by rw [Try.func38]; show some _ ≠ some _; decide⟩
theorem r11_Bytes_body (p0 : List Int) (h : p0.length ≤ 4294967295) : r11_Bytes_Body (p0, ()) ((encB p0 : List Int), ()) := by
  refine r11_Bytes_in ⟨by trivial, ?_, ?_, rfl⟩
  · simp; omega
  · simp; unfold maxLen; omega
noncomputable def r11_Bytes_con : Con TB.den := r11_Bytes_sh.fnR (fun x => (fun (p0 : List Int) => p0.length ≤ 4294967295) x.1) fun x => ((fun (p0 : List Int) => (encB p0 : List Int)) x.1, ())
theorem r11_Bytes_ok : r11_Bytes_con.Ok Try.prog TB := Con.ok_fn r11_Bytes_sh bd38 fun x h => r11_Bytes_snd (r11_Bytes_body x.1 h)
end Go.Proofs.Ytdbnagpoknmoiaa
namespace Go.Proofs.Ytdbnagpoknmoiaa
open Go Go.Bv Go.Cv Go.Md Go.RowKit
def r11_List_sh : Con TB.den := Con.mk0 36 [.one (.d (.sl (.int .u64)))] [] (.one (.one (.d (.sl (.int .u8))))) []
abbrev r11_List_I := HL TB.den (hsT r11_List_sh.ins (hsOs r11_List_sh.pre))
abbrev r11_List_O := HL TB.den (hsV r11_List_sh.res (hsOs r11_List_sh.post))
noncomputable def r11_List_cx : Cx TB := ⟨inf, [r11_Int_2_con, r11_Digits_con], [], 4⟩
noncomputable def r11_List_code : Code := Try.f36.body.getD .skip
noncomputable def r11_List_rs : List ResultVar := Try.f36.results.toList
noncomputable def r11_List_Q1 (o : r11_List_O) : Exit → TSt TB.den → Prop := thenT TB (fun s => ghs TB [] s fun s => WP TB r11_List_cx 22 0 (cB (cB (cB r11_List_code))) .no s (retTQ TB r11_List_cx r11_List_sh r11_List_rs o)) (retTQ TB r11_List_cx r11_List_sh r11_List_rs o)
def r11_List_T1 : Tm := ⟨[0], [.tip (.int .u8)], [0, 3, 4], [.one (.d (.sl (.int .u64))), .one (.own 0), .one (.d (.int .i64))], 1⟩
noncomputable def r11_List_Q2 (o : r11_List_O) (nx1 : HL TB.den r11_List_T1.hs → Prop) : Exit → TSt TB.den → Prop := thenT TB (fun s => r11_List_T1.mat TB 0 s nx1) (blockT TB 0 (r11_List_Q1 o))
noncomputable def r11_List_L1 (o : r11_List_O) (nx1 : HL TB.den r11_List_T1.hs → Prop) (i : HL TB.den r11_List_T1.hs) : Prop := WP TB r11_List_cx 22 0 (cA (cA (cB (cA (cB (cB r11_List_code)))))) .no (r11_List_T1.fill TB i) (r11_List_Q2 o nx1)
noncomputable def r11_List_A5 (o : r11_List_O) : An TB := .nd [] .no [] (.lp [] r11_List_T1 (r11_List_L1 o) fun nx1 => .no)
noncomputable def r11_List_an (o : r11_List_O) : An TB := .nd [] .no [] (.nd [] .no [] (.nd [] (r11_List_A5 o) [] .no))
noncomputable def r11_List_Body (x : r11_List_I) (o : r11_List_O) : Prop := WPh TB r11_List_cx 22 0 r11_List_code (r11_List_an o) (r11_List_sh.st TB x) (retTQ TB r11_List_cx r11_List_sh r11_List_rs o)
set_option maxRecDepth 100000 in
theorem r11_List_obl (o : r11_List_O) : OblH TB r11_List_cx 22 0 r11_List_code (r11_List_an o) (retTQ TB r11_List_cx r11_List_sh r11_List_rs o) :=
  OblH.of_eq (X := (True ∧ (True ∧ ((True ∧ ((∀ nx i, (r11_List_L1 o) nx i = (r11_List_L1 o) nx i) ∧ ∀ nx1 : HL TB.den r11_List_T1.hs → Prop, ((True ∧ (True ∧ True)) ∧ (True ∧ True)))) ∧ (True ∧ True))))) (by kernel_rfl) ⟨trivial, ⟨trivial, ⟨⟨trivial, ⟨fun _ _ => rfl, fun _ => ⟨⟨trivial, ⟨trivial, trivial⟩⟩, ⟨trivial, trivial⟩⟩⟩⟩, ⟨trivial, trivial⟩⟩⟩⟩
set_option maxRecDepth 100000 in
theorem r11_List_snd {x : r11_List_I} {o : r11_List_O} (h : r11_List_Body x o) : SoundH Try.prog r11_List_sh.f ((r11_List_sh.args idf x).map (er TB)) ((r11_List_sh.obs idf x).map (erO TB)) (er TB (r11_List_sh.val idf o)) ((r11_List_sh.ops idf o).map (erO TB)) :=
  Con.soundH (c := r11_List_sh) (C := r11_List_cx) TBok ⟨inf_ok, (all_cons r11_Int_2_ok (all_cons r11_Digits_ok all_nil)), all_nil⟩ mix Try.func36 (show Try.f36.body = some r11_List_code by kernel_rfl) (show Try.f36.ntmps = 22 by kernel_rfl) (show Try.f36.results.toList = r11_List_rs by kernel_rfl) rfl h (r11_List_obl o)
set_option maxRecDepth 100000 in
theorem r11_List_in {p0 : List Int} {r0 : List Int} (h :
((dig 4 (len4 (p0.length : Int)) = dig 4 (len4 (p0.length : Int))) ∧ Md.Loop (p0, (0 : Int), (dig 4 (len4 (p0.length : Int)) : List Int), ()) (r11_List_L1 (r0, ())))) : r11_List_Body (p0, ()) (r0, ()) := WPh.of_eq (by kernel_rfl) h
def r11_List_B1 (r0 : List Int) (k1 : Int → List Int → Prop) (s0 : List Int) (s4 : Int) (g0 : List Int) : Prop :=
(decide (s4 < (s0.length : Int)) = true →
(0 ≤ s4) ∧ s4 < (s0.length : Int) ∧ (U64 (ix s0 s4) ∧ 0 ≤ (8 : Int) ∧ (8 : Int) ≤ 8) ∧ g0.length = g0.length ∧ (g0.length + (dig (8 : Int).toNat (ix s0 s4)).length) * 1 ≤ 140737488355328 ∧ g0.length + (dig (8 : Int).toNat (ix s0 s4)).length ≤ maxLen ∧ (g0 ++ (dig (8 : Int).toNat (ix s0 s4)) = g0 ++ (dig (8 : Int).toNat (ix s0 s4))) ∧ k1 (IntKind.i64.wrap (s4 + 1) : Int) (g0 ++ (dig (8 : Int).toNat (ix s0 s4)) : List Int)) ∧
(decide (s4 < (s0.length : Int)) = false →
 g0 = r0)
set_option maxRecDepth 100000 in
theorem r11_List_lp1 {r0 : List Int} {s0 : List Int} {s4 : Int} {g0 : List Int} (inv : Int → List Int → Prop) (μ : Int → List Int → Nat) (h0 : inv s4 g0) (hs : ∀ (s4 : Int) (g0 : List Int), inv s4 g0 → r11_List_B1 r0 (fun s4q g0q => inv s4q g0q ∧ μ s4q g0q < μ s4 g0) s0 s4 g0) : Md.Loop (s0, s4, g0, ()) (r11_List_L1 (r0, ())) :=
  ⟨⟨fun s : (List Int) × Int × (List Int) × Unit => (s.1 = s0) ∧ inv s.2.1 s.2.2.1, fun s : (List Int) × Int × (List Int) × Unit => μ s.2.1 s.2.2.1, ⟨rfl, h0⟩, fun (s0p, s4p, g0p, ()) ⟨eq0, hi⟩ => by
    have eq0 : s0p = s0 := eq0; subst s0p; exact mpr_of (by kernel_rfl) ((congrArg (fun k => r11_List_B1 r0 k s0 s4p g0p) (lpk2 (rfl : s0 = s0) inv (fun s4q g0q => μ s4q g0q < μ s4p g0p))).mpr (hs s4p g0p hi))⟩⟩
theorem bd36 : Callable Try.prog 36 := ⟨by rw [Try.func36]; kernel_rfl, by rw [Try.func36]; show some _ ≠ some _; decide⟩
theorem r11_List_body (p0 : List Int) (h : Us p0 ∧ p0.length ≤ 4294967295) : r11_List_Body (p0, ()) ((encL p0 : List Int), ()) := by
  obtain ⟨h1, h2⟩ := h
  refine r11_List_in ⟨rfl, r11_List_lp1 (fun i g => 0 ≤ i ∧ i ≤ p0.length ∧ g = dig 4 (len4 p0.length) ++ (p0.take i.toNat).flatMap (dig 8)) (fun i _ => (p0.length - i).toNat) ⟨by omega, by omega, by simp⟩ ?_⟩
  rintro i g ⟨g0, g1, rfl⟩
  refine ⟨fun h => ?_, fun h => ?_⟩
  · have h := of_decide_eq_true h
    have hx := h1 _ (ix_mem p0 i g0 h)
    rw [inc i p0.length g0 h (by omega)]
    have hlen : (dig 4 (len4 p0.length) ++ (p0.take i.toNat).flatMap (dig 8)).length ≤ 4 + 8 * p0.length := by simp only [List.length_append, dig_length, flat8_length, List.length_take]; omega
    refine ⟨g0, h, ⟨hx, by omega⟩, rfl, ?_, ?_, rfl, ⟨by omega, by omega, ?_⟩, by omega⟩
    · rw [dig_length]; omega
    · rw [dig_length]; unfold maxLen; omega
    · rw [take_succ_ix p0 i g0 h, List.flatMap_append, List.append_assoc]
      simp
  · have h := of_decide_eq_false h
    rw [List.take_of_length_le (by omega)]
    rfl
noncomputable def r11_List_con : Con TB.den := r11_List_sh.fnR (fun x => (fun (p0 : List Int) => Us p0 ∧ p0.length ≤ 4294967295) x.1) fun x => ((fun (p0 : List Int) => (encL p0 : List Int)) x.1, ())
theorem r11_List_ok : r11_List_con.Ok Try.prog TB := Con.ok_fn r11_List_sh bd36 fun x h => r11_List_snd (r11_List_body x.1 h)
end Go.Proofs.Ytdbnagpoknmoiaa
namespace Go.Proofs.Ytdbnagpoknmoiaa
open Go Go.Bv Go.Cv Go.Md Go.RowKit
def r41_Bytes_sh : Con TB.den := Con.mk0 18 [.agg [.d (.int .u64), .d (.sl (.int .u64)), .d (.sl (.st 0)), .d (.int .u64), .d (.int .u64), .d (.int .u64), .d (.int .u64), .d (.int .u64), .d (.int .i64), .d (.sl (.int .u8))]] [] (.one (.one (.d (.sl (.int .u8))))) []
abbrev r41_Bytes_I := HL TB.den (hsT r41_Bytes_sh.ins (hsOs r41_Bytes_sh.pre))
abbrev r41_Bytes_O := HL TB.den (hsV r41_Bytes_sh.res (hsOs r41_Bytes_sh.post))
noncomputable def r41_Bytes_cx : Cx TB := ⟨inf, [r11_Digits_2_con, r11_List_con, r11_Int_con, r11_Bytes_con], [], 4⟩
noncomputable def r41_Bytes_code : Code := Try.f18.body.getD .skip
noncomputable def r41_Bytes_rs : List ResultVar := Try.f18.results.toList
noncomputable def r41_Bytes_Q1 (o : r41_Bytes_O) : Exit → TSt TB.den → Prop := thenT TB (fun s => ghs TB [] s fun s => WP TB r41_Bytes_cx 97 0 (cB (cB (cB (cB (cB (cB (cB r41_Bytes_code))))))) .no s (retTQ TB r41_Bytes_cx r41_Bytes_sh r41_Bytes_rs o)) (retTQ TB r41_Bytes_cx r41_Bytes_sh r41_Bytes_rs o)
def r41_Bytes_T3 : Tm := ⟨[0, 1], [.cells [.d (.int .u64), .d (.sl (.int .u64)), .d (.sl (.st 0)), .d (.int .u64), .d (.int .u64), .d (.int .u64), .d (.int .u64), .d (.int .u64), .d (.int .i64), .d (.sl (.int .u8))], .tip (.int .u8)], [1, 3, 8, 9], [.one (.ptr 0 0), .one (.own 1), .one (.full (.int .u64)), .one (.d (.int .i64))], 3⟩
noncomputable def r41_Bytes_Q2 (o : r41_Bytes_O) (nx3 : HL TB.den r41_Bytes_T3.hs → Prop) : Exit → TSt TB.den → Prop := thenT TB (fun s => r41_Bytes_T3.mat TB 0 s nx3) (blockT TB 4 (r41_Bytes_Q1 o))
noncomputable def r41_Bytes_L3 (o : r41_Bytes_O) (nx3 : HL TB.den r41_Bytes_T3.hs → Prop) (i : HL TB.den r41_Bytes_T3.hs) : Prop := WP TB r41_Bytes_cx 97 0 (cA (cA (cB (cA (cB (cB (cB (cB (cB (cB r41_Bytes_code)))))))))) .no (r41_Bytes_T3.fill TB i) (r41_Bytes_Q2 o nx3)
noncomputable def r41_Bytes_A5 (o : r41_Bytes_O) : An TB := .nd [] .no [] (.lp [] r41_Bytes_T3 (r41_Bytes_L3 o) fun nx3 => .no)
noncomputable def r41_Bytes_Q6 (o : r41_Bytes_O) : Exit → TSt TB.den → Prop := thenT TB (fun s => ghs TB [] s fun s => WP TB r41_Bytes_cx 97 0 (cB (cB (cB (cB (cB r41_Bytes_code))))) (.nd [] .no [] (.nd [] (r41_Bytes_A5 o) [] .no)) s (retTQ TB r41_Bytes_cx r41_Bytes_sh r41_Bytes_rs o)) (retTQ TB r41_Bytes_cx r41_Bytes_sh r41_Bytes_rs o)
def r41_Bytes_T2 : Tm := ⟨[0, 1], [.cells [.d (.int .u64), .d (.sl (.int .u64)), .d (.sl (.st 0)), .d (.int .u64), .d (.int .u64), .d (.int .u64), .d (.int .u64), .d (.int .u64), .d (.int .i64), .d (.sl (.int .u8))], .tip (.int .u8)], [1, 3, 4], [.one (.ptr 0 0), .one (.own 1), .one (.d (.int .i64))], 2⟩
noncomputable def r41_Bytes_Q7 (o : r41_Bytes_O) (nx2 : HL TB.den r41_Bytes_T2.hs → Prop) : Exit → TSt TB.den → Prop := thenT TB (fun s => r41_Bytes_T2.mat TB 0 s nx2) (blockT TB 0 (r41_Bytes_Q6 o))
noncomputable def r41_Bytes_Q8 (o : r41_Bytes_O) (nx2 : HL TB.den r41_Bytes_T2.hs → Prop) : Exit → TSt TB.den → Prop := thenT TB (fun s => ghs TB [] s fun s => WP TB r41_Bytes_cx 97 0 (cB (cB (cA (cA (cB (cA (cB (cB (cB (cB r41_Bytes_code)))))))))) .no s (r41_Bytes_Q7 o nx2)) (r41_Bytes_Q7 o nx2)
noncomputable def r41_Bytes_Q9 (o : r41_Bytes_O) (nx2 : HL TB.den r41_Bytes_T2.hs → Prop) : Exit → TSt TB.den → Prop := thenT TB (fun s => ghs TB [] s fun s => WP TB r41_Bytes_cx 97 0 (cB (cB (cB (cA (cA (cB (cA (cA (cB (cA (cB (cB (cB (cB r41_Bytes_code)))))))))))))) .no s (blockT TB 1 (r41_Bytes_Q8 o nx2))) (blockT TB 1 (r41_Bytes_Q8 o nx2))
def r41_Bytes_T1 : Tm := ⟨[0, 1, 2], [.cells [.d (.int .u64), .d (.sl (.int .u64)), .d (.sl (.st 0)), .d (.int .u64), .d (.int .u64), .d (.int .u64), .d (.int .u64), .d (.int .u64), .d (.int .i64), .d (.sl (.int .u8))], .tip (.int .u8), .cells [.d (.int .u64), .d (.int .u64), .d (.int .u64), .d (.sl (.int .u64))]], [1, 3, 4, 5, 6, 7], [.one (.ptr 0 0), .one (.own 1), .one (.d (.int .i64)), .one (.ptr 2 0), .one (.full (.int .u64)), .one (.d (.int .i64))], 4⟩
noncomputable def r41_Bytes_Q10 (o : r41_Bytes_O) (nx2 : HL TB.den r41_Bytes_T2.hs → Prop) (nx1 : HL TB.den r41_Bytes_T1.hs → Prop) : Exit → TSt TB.den → Prop := thenT TB (fun s => r41_Bytes_T1.mat TB 0 s nx1) (blockT TB 2 (r41_Bytes_Q9 o nx2))
noncomputable def r41_Bytes_L1 (o : r41_Bytes_O) (nx2 : HL TB.den r41_Bytes_T2.hs → Prop) (nx1 : HL TB.den r41_Bytes_T1.hs → Prop) (i : HL TB.den r41_Bytes_T1.hs) : Prop := WP TB r41_Bytes_cx 97 0 (cA (cA (cB (cA (cB (cB (cA (cA (cB (cA (cA (cB (cA (cB (cB (cB (cB r41_Bytes_code))))))))))))))))) .no (r41_Bytes_T1.fill TB i) (r41_Bytes_Q10 o nx2 nx1)
noncomputable def r41_Bytes_A13 (o : r41_Bytes_O) (nx2 : HL TB.den r41_Bytes_T2.hs → Prop) : An TB := .nd [] .no [] (.lp [] r41_Bytes_T1 (r41_Bytes_L1 o nx2) fun nx1 => .no)
noncomputable def r41_Bytes_A14 (o : r41_Bytes_O) (nx2 : HL TB.den r41_Bytes_T2.hs → Prop) : An TB := .nd [] .no [] (.nd [] .no [] (.nd [] (r41_Bytes_A13 o nx2) [] .no))
noncomputable def r41_Bytes_L2 (o : r41_Bytes_O) (nx2 : HL TB.den r41_Bytes_T2.hs → Prop) (i : HL TB.den r41_Bytes_T2.hs) : Prop := WP TB r41_Bytes_cx 97 0 (cA (cA (cB (cA (cB (cB (cB (cB r41_Bytes_code)))))))) (.nd [] .no [] (.nd [] (r41_Bytes_A14 o nx2) [] .no)) (r41_Bytes_T2.fill TB i) (r41_Bytes_Q7 o nx2)
noncomputable def r41_Bytes_A16 (o : r41_Bytes_O) : An TB := .lp [] r41_Bytes_T2 (r41_Bytes_L2 o) fun nx2 => (.nd [] .no [] (.nd [] (r41_Bytes_A14 o nx2) [] .no))
noncomputable def r41_Bytes_A17 (o : r41_Bytes_O) : An TB := .nd [] (.nd [] .no [] (r41_Bytes_A16 o)) [] (.nd [] .no [] (.nd [] (r41_Bytes_A5 o) [] .no))
noncomputable def r41_Bytes_A18 (o : r41_Bytes_O) : An TB := .nd [] .no [] (.nd [] .no [] (.nd [] .no [] (r41_Bytes_A17 o)))
noncomputable def r41_Bytes_an (o : r41_Bytes_O) : An TB := .nd [] .no [] (r41_Bytes_A18 o)
noncomputable def r41_Bytes_Body (x : r41_Bytes_I) (o : r41_Bytes_O) : Prop := WPh TB r41_Bytes_cx 97 0 r41_Bytes_code (r41_Bytes_an o) (r41_Bytes_sh.st TB x) (retTQ TB r41_Bytes_cx r41_Bytes_sh r41_Bytes_rs o)
set_option maxRecDepth 100000 in
theorem r41_Bytes_obl (o : r41_Bytes_O) : OblH TB r41_Bytes_cx 97 0 r41_Bytes_code (r41_Bytes_an o) (retTQ TB r41_Bytes_cx r41_Bytes_sh r41_Bytes_rs o) :=
  OblH.of_eq (X := (True ∧ (True ∧ (True ∧ (True ∧ ((True ∧ ((∀ nx i, (r41_Bytes_L2 o) nx i = (r41_Bytes_L2 o) nx i) ∧ ∀ nx2 : HL TB.den r41_Bytes_T2.hs → Prop, ((True ∧ (True ∧ True)) ∧ ((True ∧ (True ∧ ((True ∧ ((∀ nx i, (r41_Bytes_L1 o nx2) nx i = (r41_Bytes_L1 o nx2) nx i) ∧ ∀ nx1 : HL TB.den r41_Bytes_T1.hs → Prop, ((True ∧ (True ∧ True)) ∧ (True ∧ True)))) ∧ True))) ∧ True)))) ∧ (True ∧ ((True ∧ ((∀ nx i, (r41_Bytes_L3 o) nx i = (r41_Bytes_L3 o) nx i) ∧ ∀ nx3 : HL TB.den r41_Bytes_T3.hs → Prop, ((True ∧ (True ∧ True)) ∧ (True ∧ True)))) ∧ (True ∧ (True ∧ True)))))))))) (by kernel_rfl) ⟨trivial, ⟨trivial, ⟨trivial, ⟨trivial, ⟨⟨trivial, ⟨fun _ _ => rfl, fun _ => ⟨⟨trivial, ⟨trivial, trivial⟩⟩, ⟨⟨trivial, ⟨trivial, ⟨⟨trivial, ⟨fun _ _ => rfl, fun _ => ⟨⟨trivial, ⟨trivial, trivial⟩⟩, ⟨trivial, trivial⟩⟩⟩⟩, trivial⟩⟩⟩, trivial⟩⟩⟩⟩, ⟨trivial, ⟨⟨trivial, ⟨fun _ _ => rfl, fun _ => ⟨⟨trivial, ⟨trivial, trivial⟩⟩, ⟨trivial, trivial⟩⟩⟩⟩, ⟨trivial, ⟨trivial, trivial⟩⟩⟩⟩⟩⟩⟩⟩⟩
set_option maxRecDepth 100000 in
theorem r41_Bytes_snd {x : r41_Bytes_I} {o : r41_Bytes_O} (h : r41_Bytes_Body x o) : SoundH Try.prog r41_Bytes_sh.f ((r41_Bytes_sh.args idf x).map (er TB)) ((r41_Bytes_sh.obs idf x).map (erO TB)) (er TB (r41_Bytes_sh.val idf o)) ((r41_Bytes_sh.ops idf o).map (erO TB)) :=
  Con.soundH (c := r41_Bytes_sh) (C := r41_Bytes_cx) TBok ⟨inf_ok, (all_cons r11_Digits_2_ok (all_cons r11_List_ok (all_cons r11_Int_ok (all_cons r11_Bytes_ok all_nil)))), all_nil⟩ mix Try.func18 (show Try.f18.body = some r41_Bytes_code by kernel_rfl) (show Try.f18.ntmps = 97 by kernel_rfl) (show Try.f18.results.toList = r41_Bytes_rs by kernel_rfl) rfl h (r41_Bytes_obl o)
set_option maxRecDepth 100000 in
theorem r41_Bytes_in {p0 : TTx} {r0 : List Int} (h :
((U64 p0.Anchor ∧ 0 ≤ (8 : Int) ∧ (8 : Int) ≤ 8) ∧ (Us p0.Marks ∧ p0.Marks.length ≤ 4294967295) ∧ (dig (8 : Int).toNat p0.Anchor).length = (dig (8 : Int).toNat p0.Anchor).length ∧ ((dig (8 : Int).toNat p0.Anchor).length + (encL p0.Marks).length) * 1 ≤ 140737488355328 ∧ (dig (8 : Int).toNat p0.Anchor).length + (encL p0.Marks).length ≤ maxLen ∧ let v1 : List Int := (dig (8 : Int).toNat p0.Anchor) ++ (encL p0.Marks)
 v1.length = v1.length ∧ (v1.length + (dig 4 (len4 (p0.Outs.length : Int))).length) * 1 ≤ 140737488355328 ∧ v1.length + (dig 4 (len4 (p0.Outs.length : Int))).length ≤ maxLen ∧ let v2 : List Int := v1 ++ (dig 4 (len4 (p0.Outs.length : Int)))
(v2 = v2) ∧ Md.Loop ((0 : Int), p0.Anchor, p0.Marks, p0.Outs, p0.Deposit, p0.Withdraw, p0.Fee, p0.Account, p0.Nonce, p0.Expiry, p0.Proof, v2, ()) (r41_Bytes_L2 (r0, ())))) : r41_Bytes_Body (p0.Anchor, p0.Marks, p0.Outs, p0.Deposit, p0.Withdraw, p0.Fee, p0.Account, p0.Nonce, p0.Expiry, p0.Proof, ()) (r0, ()) := WPh.of_eq (by kernel_rfl) h
def r41_Bytes_B2 (r0 : List Int) (nx2 : HL TB.den r41_Bytes_T2.hs → Prop) (k2 : Int → List Int → Prop) (h0_0 : Int) (h0_1 : List Int) (h0_2 : List TOut) (h0_3 : Int) (h0_4 : Int) (h0_5 : Int) (h0_6 : Int) (h0_7 : Int) (h0_8 : Int) (h0_9 : List Int) (s4 : Int) (g1 : List Int) : Prop :=
(decide (s4 < (h0_2.length : Int)) = true →
(0 ≤ s4) ∧ s4 < (h0_2.length : Int) ∧ let v3 : List Int := [(ix h0_2 s4).Commit, (ix h0_2 s4).Point_a0, (ix h0_2 s4).Point_a1]
(g1 = g1) ∧ Md.Loop (s4, v3, (0 : Int), h0_0, h0_1, h0_2, h0_3, h0_4, h0_5, h0_6, h0_7, h0_8, h0_9, ((ix h0_2 s4).Commit : Int), ((ix h0_2 s4).Point_a0 : Int), ((ix h0_2 s4).Point_a1 : Int), ((ix h0_2 s4).Cipher : List Int), g1, ()) (r41_Bytes_L1 (r0, ()) nx2)) ∧
(decide (s4 < (h0_2.length : Int)) = false →
(g1 = g1) ∧ Md.Loop (([h0_3, h0_4, h0_5, h0_6, h0_7] : List Int), (0 : Int), h0_0, h0_1, h0_2, h0_3, h0_4, h0_5, h0_6, h0_7, h0_8, h0_9, g1, ()) (r41_Bytes_L3 (r0, ())))
set_option maxRecDepth 100000 in
theorem r41_Bytes_lp2 {r0 : List Int} {h0_0 : Int} {h0_1 : List Int} {h0_2 : List TOut} {h0_3 : Int} {h0_4 : Int} {h0_5 : Int} {h0_6 : Int} {h0_7 : Int} {h0_8 : Int} {h0_9 : List Int} {s4 : Int} {g1 : List Int} (inv : Int → List Int → Prop) (μ : Int → List Int → Nat) (h0 : inv s4 g1) (hs : ∀ (s4 : Int) (g1 : List Int), inv s4 g1 → r41_Bytes_B2 r0 (fun s : Int × Int × (List Int) × (List TOut) × Int × Int × Int × Int × Int × Int × (List Int) × (List Int) × Unit => ((s.2.1 = h0_0 ∧ s.2.2.1 = h0_1 ∧ s.2.2.2.1 = h0_2 ∧ s.2.2.2.2.1 = h0_3 ∧ s.2.2.2.2.2.1 = h0_4 ∧ s.2.2.2.2.2.2.1 = h0_5 ∧ s.2.2.2.2.2.2.2.1 = h0_6 ∧ s.2.2.2.2.2.2.2.2.1 = h0_7 ∧ s.2.2.2.2.2.2.2.2.2.1 = h0_8 ∧ s.2.2.2.2.2.2.2.2.2.2.1 = h0_9) ∧ inv s.1 s.2.2.2.2.2.2.2.2.2.2.2.1) ∧ μ s.1 s.2.2.2.2.2.2.2.2.2.2.2.1 < μ s4 g1) (fun s4q g1q => inv s4q g1q ∧ μ s4q g1q < μ s4 g1) h0_0 h0_1 h0_2 h0_3 h0_4 h0_5 h0_6 h0_7 h0_8 h0_9 s4 g1) : Md.Loop (s4, h0_0, h0_1, h0_2, h0_3, h0_4, h0_5, h0_6, h0_7, h0_8, h0_9, g1, ()) (r41_Bytes_L2 (r0, ())) :=
  ⟨⟨fun s : Int × Int × (List Int) × (List TOut) × Int × Int × Int × Int × Int × Int × (List Int) × (List Int) × Unit => (s.2.1 = h0_0 ∧ s.2.2.1 = h0_1 ∧ s.2.2.2.1 = h0_2 ∧ s.2.2.2.2.1 = h0_3 ∧ s.2.2.2.2.2.1 = h0_4 ∧ s.2.2.2.2.2.2.1 = h0_5 ∧ s.2.2.2.2.2.2.2.1 = h0_6 ∧ s.2.2.2.2.2.2.2.2.1 = h0_7 ∧ s.2.2.2.2.2.2.2.2.2.1 = h0_8 ∧ s.2.2.2.2.2.2.2.2.2.2.1 = h0_9) ∧ inv s.1 s.2.2.2.2.2.2.2.2.2.2.2.1, fun s : Int × Int × (List Int) × (List TOut) × Int × Int × Int × Int × Int × Int × (List Int) × (List Int) × Unit => μ s.1 s.2.2.2.2.2.2.2.2.2.2.2.1, ⟨⟨rfl, rfl, rfl, rfl, rfl, rfl, rfl, rfl, rfl, rfl⟩, h0⟩, fun (s4p, h0_0p, h0_1p, h0_2p, h0_3p, h0_4p, h0_5p, h0_6p, h0_7p, h0_8p, h0_9p, g1p, ()) ⟨⟨eq0, eq1, eq2, eq3, eq4, eq5, eq6, eq7, eq8, eq9⟩, hi⟩ => by
    have eq0 : h0_0p = h0_0 := eq0; subst h0_0p; have eq1 : h0_1p = h0_1 := eq1; subst h0_1p; have eq2 : h0_2p = h0_2 := eq2; subst h0_2p; have eq3 : h0_3p = h0_3 := eq3; subst h0_3p; have eq4 : h0_4p = h0_4 := eq4; subst h0_4p; have eq5 : h0_5p = h0_5 := eq5; subst h0_5p; have eq6 : h0_6p = h0_6 := eq6; subst h0_6p; have eq7 : h0_7p = h0_7 := eq7; subst h0_7p; have eq8 : h0_8p = h0_8 := eq8; subst h0_8p; have eq9 : h0_9p = h0_9 := eq9; subst h0_9p; exact mpr_of (by kernel_rfl) ((congrArg (fun k => r41_Bytes_B2 r0 (fun s : Int × Int × (List Int) × (List TOut) × Int × Int × Int × Int × Int × Int × (List Int) × (List Int) × Unit => ((s.2.1 = h0_0 ∧ s.2.2.1 = h0_1 ∧ s.2.2.2.1 = h0_2 ∧ s.2.2.2.2.1 = h0_3 ∧ s.2.2.2.2.2.1 = h0_4 ∧ s.2.2.2.2.2.2.1 = h0_5 ∧ s.2.2.2.2.2.2.2.1 = h0_6 ∧ s.2.2.2.2.2.2.2.2.1 = h0_7 ∧ s.2.2.2.2.2.2.2.2.2.1 = h0_8 ∧ s.2.2.2.2.2.2.2.2.2.2.1 = h0_9) ∧ inv s.1 s.2.2.2.2.2.2.2.2.2.2.2.1) ∧ μ s.1 s.2.2.2.2.2.2.2.2.2.2.2.1 < μ s4p g1p) k h0_0 h0_1 h0_2 h0_3 h0_4 h0_5 h0_6 h0_7 h0_8 h0_9 s4p g1p) (lpk2 (⟨rfl, rfl, rfl, rfl, rfl, rfl, rfl, rfl, rfl, rfl⟩ : h0_0 = h0_0 ∧ h0_1 = h0_1 ∧ h0_2 = h0_2 ∧ h0_3 = h0_3 ∧ h0_4 = h0_4 ∧ h0_5 = h0_5 ∧ h0_6 = h0_6 ∧ h0_7 = h0_7 ∧ h0_8 = h0_8 ∧ h0_9 = h0_9) inv (fun s4q g1q => μ s4q g1q < μ s4p g1p))).mpr (hs s4p g1p hi))⟩⟩
def r41_Bytes_B1 (r0 : List Int) (nx2 : HL TB.den r41_Bytes_T2.hs → Prop) (k1 : Int → List Int → Prop) (s4 : Int) (s6 : List Int) (h0_0 : Int) (h0_1 : List Int) (h0_2 : List TOut) (h0_3 : Int) (h0_4 : Int) (h0_5 : Int) (h0_6 : Int) (h0_7 : Int) (h0_8 : Int) (h0_9 : List Int) (h2_0 : Int) (h2_1 : Int) (h2_2 : Int) (h2_3 : List Int) (s7 : Int) (g1 : List Int) : Prop :=
(decide (s7 < (s6.length : Int)) = true →
(0 ≤ s7) ∧ s7 < (s6.length : Int) ∧ (U64 (ix s6 s7) ∧ 0 ≤ (8 : Int) ∧ (8 : Int) ≤ 8) ∧ g1.length = g1.length ∧ (g1.length + (dig (8 : Int).toNat (ix s6 s7)).length) * 1 ≤ 140737488355328 ∧ g1.length + (dig (8 : Int).toNat (ix s6 s7)).length ≤ maxLen ∧ (g1 ++ (dig (8 : Int).toNat (ix s6 s7)) = g1 ++ (dig (8 : Int).toNat (ix s6 s7))) ∧ k1 (IntKind.i64.wrap (s7 + 1) : Int) (g1 ++ (dig (8 : Int).toNat (ix s6 s7)) : List Int)) ∧
(decide (s7 < (s6.length : Int)) = false →
(Us h2_3 ∧ h2_3.length ≤ 4294967295) ∧ g1.length = g1.length ∧ (g1.length + (encL h2_3).length) * 1 ≤ 140737488355328 ∧ g1.length + (encL h2_3).length ≤ maxLen ∧ (g1 ++ (encL h2_3) = g1 ++ (encL h2_3)) ∧ nx2 ((IntKind.i64.wrap (s4 + 1) : Int), h0_0, h0_1, h0_2, h0_3, h0_4, h0_5, h0_6, h0_7, h0_8, h0_9, (g1 ++ (encL h2_3) : List Int), ()))
set_option maxRecDepth 100000 in
theorem r41_Bytes_lp1 {r0 : List Int} {nx2 : HL TB.den r41_Bytes_T2.hs → Prop} {s4 : Int} {s6 : List Int} {h0_0 : Int} {h0_1 : List Int} {h0_2 : List TOut} {h0_3 : Int} {h0_4 : Int} {h0_5 : Int} {h0_6 : Int} {h0_7 : Int} {h0_8 : Int} {h0_9 : List Int} {h2_0 : Int} {h2_1 : Int} {h2_2 : Int} {h2_3 : List Int} {s7 : Int} {g1 : List Int} (inv : Int → List Int → Prop) (μ : Int → List Int → Nat) (h0 : inv s7 g1) (hs : ∀ (s7 : Int) (g1 : List Int), inv s7 g1 → r41_Bytes_B1 r0 nx2 (fun s7q g1q => inv s7q g1q ∧ μ s7q g1q < μ s7 g1) s4 s6 h0_0 h0_1 h0_2 h0_3 h0_4 h0_5 h0_6 h0_7 h0_8 h0_9 h2_0 h2_1 h2_2 h2_3 s7 g1) : Md.Loop (s4, s6, s7, h0_0, h0_1, h0_2, h0_3, h0_4, h0_5, h0_6, h0_7, h0_8, h0_9, h2_0, h2_1, h2_2, h2_3, g1, ()) (r41_Bytes_L1 (r0, ()) nx2) :=
  ⟨⟨fun s : Int × (List Int) × Int × Int × (List Int) × (List TOut) × Int × Int × Int × Int × Int × Int × (List Int) × Int × Int × Int × (List Int) × (List Int) × Unit => (s.1 = s4 ∧ s.2.1 = s6 ∧ s.2.2.2.1 = h0_0 ∧ s.2.2.2.2.1 = h0_1 ∧ s.2.2.2.2.2.1 = h0_2 ∧ s.2.2.2.2.2.2.1 = h0_3 ∧ s.2.2.2.2.2.2.2.1 = h0_4 ∧ s.2.2.2.2.2.2.2.2.1 = h0_5 ∧ s.2.2.2.2.2.2.2.2.2.1 = h0_6 ∧ s.2.2.2.2.2.2.2.2.2.2.1 = h0_7 ∧ s.2.2.2.2.2.2.2.2.2.2.2.1 = h0_8 ∧ s.2.2.2.2.2.2.2.2.2.2.2.2.1 = h0_9 ∧ s.2.2.2.2.2.2.2.2.2.2.2.2.2.1 = h2_0 ∧ s.2.2.2.2.2.2.2.2.2.2.2.2.2.2.1 = h2_1 ∧ s.2.2.2.2.2.2.2.2.2.2.2.2.2.2.2.1 = h2_2 ∧ s.2.2.2.2.2.2.2.2.2.2.2.2.2.2.2.2.1 = h2_3) ∧ inv s.2.2.1 s.2.2.2.2.2.2.2.2.2.2.2.2.2.2.2.2.2.1, fun s : Int × (List Int) × Int × Int × (List Int) × (List TOut) × Int × Int × Int × Int × Int × Int × (List Int) × Int × Int × Int × (List Int) × (List Int) × Unit => μ s.2.2.1 s.2.2.2.2.2.2.2.2.2.2.2.2.2.2.2.2.2.1, ⟨⟨rfl, rfl, rfl, rfl, rfl, rfl, rfl, rfl, rfl, rfl, rfl, rfl, rfl, rfl, rfl, rfl⟩, h0⟩, fun (s4p, s6p, s7p, h0_0p, h0_1p, h0_2p, h0_3p, h0_4p, h0_5p, h0_6p, h0_7p, h0_8p, h0_9p, h2_0p, h2_1p, h2_2p, h2_3p, g1p, ()) ⟨⟨eq0, eq1, eq2, eq3, eq4, eq5, eq6, eq7, eq8, eq9, eq10, eq11, eq12, eq13, eq14, eq15⟩, hi⟩ => by
    have eq0 : s4p = s4 := eq0; subst s4p; have eq1 : s6p = s6 := eq1; subst s6p; have eq2 : h0_0p = h0_0 := eq2; subst h0_0p; have eq3 : h0_1p = h0_1 := eq3; subst h0_1p; have eq4 : h0_2p = h0_2 := eq4; subst h0_2p; have eq5 : h0_3p = h0_3 := eq5; subst h0_3p; have eq6 : h0_4p = h0_4 := eq6; subst h0_4p; have eq7 : h0_5p = h0_5 := eq7; subst h0_5p; have eq8 : h0_6p = h0_6 := eq8; subst h0_6p; have eq9 : h0_7p = h0_7 := eq9; subst h0_7p; have eq10 : h0_8p = h0_8 := eq10; subst h0_8p; have eq11 : h0_9p = h0_9 := eq11; subst h0_9p; have eq12 : h2_0p = h2_0 := eq12; subst h2_0p; have eq13 : h2_1p = h2_1 := eq13; subst h2_1p; have eq14 : h2_2p = h2_2 := eq14; subst h2_2p; have eq15 : h2_3p = h2_3 := eq15; subst h2_3p; exact mpr_of (by kernel_rfl) ((congrArg (fun k => r41_Bytes_B1 r0 nx2 k s4 s6 h0_0 h0_1 h0_2 h0_3 h0_4 h0_5 h0_6 h0_7 h0_8 h0_9 h2_0 h2_1 h2_2 h2_3 s7p g1p) (lpk2 (⟨rfl, rfl, rfl, rfl, rfl, rfl, rfl, rfl, rfl, rfl, rfl, rfl, rfl, rfl, rfl, rfl⟩ : s4 = s4 ∧ s6 = s6 ∧ h0_0 = h0_0 ∧ h0_1 = h0_1 ∧ h0_2 = h0_2 ∧ h0_3 = h0_3 ∧ h0_4 = h0_4 ∧ h0_5 = h0_5 ∧ h0_6 = h0_6 ∧ h0_7 = h0_7 ∧ h0_8 = h0_8 ∧ h0_9 = h0_9 ∧ h2_0 = h2_0 ∧ h2_1 = h2_1 ∧ h2_2 = h2_2 ∧ h2_3 = h2_3) inv (fun s7q g1q => μ s7q g1q < μ s7p g1p))).mpr (hs s7p g1p hi))⟩⟩
def r41_Bytes_B3 (r0 : List Int) (k3 : Int → List Int → Prop) (s8 : List Int) (h0_0 : Int) (h0_1 : List Int) (h0_2 : List TOut) (h0_3 : Int) (h0_4 : Int) (h0_5 : Int) (h0_6 : Int) (h0_7 : Int) (h0_8 : Int) (h0_9 : List Int) (s9 : Int) (g1 : List Int) : Prop :=
(decide (s9 < (s8.length : Int)) = true →
(0 ≤ s9) ∧ s9 < (s8.length : Int) ∧ (U64 (ix s8 s9) ∧ 0 ≤ (8 : Int) ∧ (8 : Int) ≤ 8) ∧ g1.length = g1.length ∧ (g1.length + (dig (8 : Int).toNat (ix s8 s9)).length) * 1 ≤ 140737488355328 ∧ g1.length + (dig (8 : Int).toNat (ix s8 s9)).length ≤ maxLen ∧ (g1 ++ (dig (8 : Int).toNat (ix s8 s9)) = g1 ++ (dig (8 : Int).toNat (ix s8 s9))) ∧ k3 (IntKind.i64.wrap (s9 + 1) : Int) (g1 ++ (dig (8 : Int).toNat (ix s8 s9)) : List Int)) ∧
(decide (s9 < (s8.length : Int)) = false →
 g1.length = g1.length ∧ (g1.length + (dig 4 (len4 h0_8)).length) * 1 ≤ 140737488355328 ∧ g1.length + (dig 4 (len4 h0_8)).length ≤ maxLen ∧ (h0_9.length ≤ 4294967295) ∧ (g1 ++ (dig 4 (len4 h0_8))).length = (g1 ++ (dig 4 (len4 h0_8))).length ∧ ((g1 ++ (dig 4 (len4 h0_8))).length + (encB h0_9).length) * 1 ≤ 140737488355328 ∧ (g1 ++ (dig 4 (len4 h0_8))).length + (encB h0_9).length ≤ maxLen ∧ let v4 : List Int := (g1 ++ (dig 4 (len4 h0_8))) ++ (encB h0_9)
 v4 = r0)
set_option maxRecDepth 100000 in
theorem r41_Bytes_lp3 {r0 : List Int} {s8 : List Int} {h0_0 : Int} {h0_1 : List Int} {h0_2 : List TOut} {h0_3 : Int} {h0_4 : Int} {h0_5 : Int} {h0_6 : Int} {h0_7 : Int} {h0_8 : Int} {h0_9 : List Int} {s9 : Int} {g1 : List Int} (inv : Int → List Int → Prop) (μ : Int → List Int → Nat) (h0 : inv s9 g1) (hs : ∀ (s9 : Int) (g1 : List Int), inv s9 g1 → r41_Bytes_B3 r0 (fun s9q g1q => inv s9q g1q ∧ μ s9q g1q < μ s9 g1) s8 h0_0 h0_1 h0_2 h0_3 h0_4 h0_5 h0_6 h0_7 h0_8 h0_9 s9 g1) : Md.Loop (s8, s9, h0_0, h0_1, h0_2, h0_3, h0_4, h0_5, h0_6, h0_7, h0_8, h0_9, g1, ()) (r41_Bytes_L3 (r0, ())) :=
  ⟨⟨fun s : (List Int) × Int × Int × (List Int) × (List TOut) × Int × Int × Int × Int × Int × Int × (List Int) × (List Int) × Unit => (s.1 = s8 ∧ s.2.2.1 = h0_0 ∧ s.2.2.2.1 = h0_1 ∧ s.2.2.2.2.1 = h0_2 ∧ s.2.2.2.2.2.1 = h0_3 ∧ s.2.2.2.2.2.2.1 = h0_4 ∧ s.2.2.2.2.2.2.2.1 = h0_5 ∧ s.2.2.2.2.2.2.2.2.1 = h0_6 ∧ s.2.2.2.2.2.2.2.2.2.1 = h0_7 ∧ s.2.2.2.2.2.2.2.2.2.2.1 = h0_8 ∧ s.2.2.2.2.2.2.2.2.2.2.2.1 = h0_9) ∧ inv s.2.1 s.2.2.2.2.2.2.2.2.2.2.2.2.1, fun s : (List Int) × Int × Int × (List Int) × (List TOut) × Int × Int × Int × Int × Int × Int × (List Int) × (List Int) × Unit => μ s.2.1 s.2.2.2.2.2.2.2.2.2.2.2.2.1, ⟨⟨rfl, rfl, rfl, rfl, rfl, rfl, rfl, rfl, rfl, rfl, rfl⟩, h0⟩, fun (s8p, s9p, h0_0p, h0_1p, h0_2p, h0_3p, h0_4p, h0_5p, h0_6p, h0_7p, h0_8p, h0_9p, g1p, ()) ⟨⟨eq0, eq1, eq2, eq3, eq4, eq5, eq6, eq7, eq8, eq9, eq10⟩, hi⟩ => by
    have eq0 : s8p = s8 := eq0; subst s8p; have eq1 : h0_0p = h0_0 := eq1; subst h0_0p; have eq2 : h0_1p = h0_1 := eq2; subst h0_1p; have eq3 : h0_2p = h0_2 := eq3; subst h0_2p; have eq4 : h0_3p = h0_3 := eq4; subst h0_3p; have eq5 : h0_4p = h0_4 := eq5; subst h0_4p; have eq6 : h0_5p = h0_5 := eq6; subst h0_5p; have eq7 : h0_6p = h0_6 := eq7; subst h0_6p; have eq8 : h0_7p = h0_7 := eq8; subst h0_7p; have eq9 : h0_8p = h0_8 := eq9; subst h0_8p; have eq10 : h0_9p = h0_9 := eq10; subst h0_9p; exact mpr_of (by kernel_rfl) ((congrArg (fun k => r41_Bytes_B3 r0 k s8 h0_0 h0_1 h0_2 h0_3 h0_4 h0_5 h0_6 h0_7 h0_8 h0_9 s9p g1p) (lpk2 (⟨rfl, rfl, rfl, rfl, rfl, rfl, rfl, rfl, rfl, rfl, rfl⟩ : s8 = s8 ∧ h0_0 = h0_0 ∧ h0_1 = h0_1 ∧ h0_2 = h0_2 ∧ h0_3 = h0_3 ∧ h0_4 = h0_4 ∧ h0_5 = h0_5 ∧ h0_6 = h0_6 ∧ h0_7 = h0_7 ∧ h0_8 = h0_8 ∧ h0_9 = h0_9) inv (fun s9q g1q => μ s9q g1q < μ s9p g1p))).mpr (hs s9p g1p hi))⟩⟩
theorem bd18 : Callable Try.prog 18 := ⟨by rw [Try.func18]; kernel_rfl, by rw [Try.func18]; show some _ ≠ some _; decide⟩
theorem r41_Bytes_body (p0 : TTx) (h : TR p0 ∧ TL p0 ∧ p0.Outs.length ≤ 1048576 ∧ (∀ x ∈ p0.Outs, x.Cipher.length ≤ 1024)) : r41_Bytes_Body (p0.Anchor, p0.Marks, p0.Outs, p0.Deposit, p0.Withdraw, p0.Fee, p0.Account, p0.Nonce, p0.Expiry, p0.Proof, ()) ((encT p0 p0.Proof : List Int), ()) := by
  obtain ⟨hr, hl, ho, hc⟩ := h
  have hm := hl.m
  have hpl := hl.p
  refine r41_Bytes_in ⟨⟨hr.a, by omega⟩, ⟨hr.m, hm⟩, rfl, ?_, ?_, rfl, ?_, ?_, rfl, ?_⟩
  · simp; omega
  · simp; unfold maxLen; omega
  · simp; omega
  · simp; unfold maxLen; omega
  have hb := fun i : Int => encOs_length (p0.Outs.take i.toNat) 1024 (fun x hx => hc x (List.mem_of_mem_take hx))
  have hb : ∀ i : Int, ((p0.Outs.take i.toNat).flatMap encO).length ≤ 8700000000 := by
    intro i
    have := hb i
    rw [List.length_take] at this
    refine Nat.le_trans this ?_
    have : min i.toNat p0.Outs.length ≤ 1048576 := by omega
    have := Nat.mul_le_mul_left (28 + 8 * 1024) this
    omega
  have hpre : (dig 8 p0.Anchor ++ encL p0.Marks ++ dig 4 (len4 p0.Outs.length)).length ≤ 40000000000 := by simp; omega
  generalize hP : dig 8 p0.Anchor ++ encL p0.Marks ++ dig 4 (len4 p0.Outs.length) = P at *
  refine r41_Bytes_lp2 (fun i g => 0 ≤ i ∧ i ≤ p0.Outs.length ∧ g = P ++ (p0.Outs.take i.toNat).flatMap encO) (fun i _ => (p0.Outs.length - i).toNat) ⟨by omega, by omega, by rw [← hP]; simp⟩ ?_
  rintro i g ⟨g0, g1, rfl⟩
  have hbi := hb i
  generalize hB : P ++ (p0.Outs.take i.toNat).flatMap encO = B at *
  have hBl : B.length ≤ 50000000000 := by rw [← hB, List.length_append]; omega
  refine ⟨fun h => ?_, fun h => ?_⟩
  · have h := of_decide_eq_true h
    have hx := hr.o _ (ix_mem p0.Outs i g0 h)
    have hxc := hc _ (ix_mem p0.Outs i g0 h)
    refine ⟨g0, h, rfl, ?_⟩
    refine r41_Bytes_lp1 (fun k g => 0 ≤ k ∧ k ≤ 3 ∧ g = B ++ ([(ix p0.Outs i).Commit, (ix p0.Outs i).Point_a0, (ix p0.Outs i).Point_a1].take k.toNat).flatMap (dig 8)) (fun k _ => (3 - k).toNat) ⟨by omega, by omega, by simp⟩ ?_
    rintro k g ⟨k0, k1, rfl⟩
    have hul : Us [(ix p0.Outs i).Commit, (ix p0.Outs i).Point_a0, (ix p0.Outs i).Point_a1] := by
      intro x hx'
      simp only [List.mem_cons, List.not_mem_nil, or_false] at hx'
      rcases hx' with rfl | rfl | rfl
      · exact hx.c
      · exact hx.p0
      · exact hx.p1
    have hll : ([(ix p0.Outs i).Commit, (ix p0.Outs i).Point_a0, (ix p0.Outs i).Point_a1].length : Int) = 3 := rfl
    generalize hLd : [(ix p0.Outs i).Commit, (ix p0.Outs i).Point_a0, (ix p0.Outs i).Point_a1] = Lc at *
    have hgl : (B ++ (Lc.take k.toNat).flatMap (dig 8)).length ≤ 50000000024 := by simp only [List.length_append, flat8_length, List.length_take]; omega
    refine ⟨fun hk => ?_, fun hk => ?_⟩
    · have hk := of_decide_eq_true hk
      rw [inc k 3 k0 (by omega) (by omega)]
      refine ⟨k0, hk, ⟨hul _ (ix_mem Lc k k0 hk), by omega⟩, rfl, ?_, ?_, rfl, ⟨by omega, by omega, ?_⟩, by omega⟩
      · rw [dig_length]; omega
      · rw [dig_length]; unfold maxLen; omega
      · rw [take_succ_ix Lc k k0 hk, List.flatMap_append, List.append_assoc]
        simp
    · have hk := of_decide_eq_false hk
      rw [List.take_of_length_le (by omega)] at hgl ⊢
      have hi := inc i p0.Outs.length g0 h (by omega)
      rw [hi]
      have nxt : (0 ≤ i + 1 ∧ i + 1 ≤ p0.Outs.length ∧ B ++ Lc.flatMap (dig 8) ++ encL (ix p0.Outs i).Cipher = P ++ (p0.Outs.take (i + 1).toNat).flatMap encO) ∧ (p0.Outs.length - (i + 1)).toNat < (p0.Outs.length - i).toNat := by
        refine ⟨⟨by omega, by omega, ?_⟩, by omega⟩
        rw [take_succ_ix p0.Outs i g0 h, List.flatMap_append, ← List.append_assoc, hB, ← hLd]
        simp [encO, List.append_assoc]
      refine ⟨⟨hx.ci, by omega⟩, rfl, ?_, ?_, rfl, ⟨⟨rfl, rfl, rfl, rfl, rfl, rfl, rfl, rfl, rfl, rfl⟩, nxt.1⟩, nxt.2⟩
      · rw [encL_length]; omega
      · rw [encL_length]; unfold maxLen; omega
  · have h := of_decide_eq_false h
    refine ⟨rfl, ?_⟩
    have hul : Us [p0.Deposit, p0.Withdraw, p0.Fee, p0.Account, p0.Nonce] := by
      intro x hx'
      simp only [List.mem_cons, List.not_mem_nil, or_false] at hx'
      rcases hx' with rfl | rfl | rfl | rfl | rfl
      · exact hr.d
      · exact hr.w
      · exact hr.f
      · exact hr.ac
      · exact hr.n
    have hll : ([p0.Deposit, p0.Withdraw, p0.Fee, p0.Account, p0.Nonce].length : Int) = 5 := rfl
    refine r41_Bytes_lp3 (fun k g => 0 ≤ k ∧ k ≤ 5 ∧ g = B ++ ([p0.Deposit, p0.Withdraw, p0.Fee, p0.Account, p0.Nonce].take k.toNat).flatMap (dig 8)) (fun k _ => (5 - k).toNat) ⟨by omega, by omega, by simp⟩ ?_
    rintro k g ⟨k0, k1, rfl⟩
    generalize hLd : [p0.Deposit, p0.Withdraw, p0.Fee, p0.Account, p0.Nonce] = Lc at *
    have hgl : (B ++ (Lc.take k.toNat).flatMap (dig 8)).length ≤ 50000000040 := by simp only [List.length_append, flat8_length, List.length_take]; omega
    refine ⟨fun hk => ?_, fun hk => ?_⟩
    · have hk := of_decide_eq_true hk
      rw [inc k 5 k0 (by omega) (by omega)]
      refine ⟨k0, hk, ⟨hul _ (ix_mem Lc k k0 hk), by omega⟩, rfl, ?_, ?_, rfl, ⟨by omega, by omega, ?_⟩, by omega⟩
      · rw [dig_length]; omega
      · rw [dig_length]; unfold maxLen; omega
      · rw [take_succ_ix Lc k k0 hk, List.flatMap_append, List.append_assoc]
        simp
    · have hk := of_decide_eq_false hk
      rw [List.take_of_length_le (by omega)] at hgl ⊢
      refine ⟨rfl, ?_, ?_, hpl, by trivial, ?_, ?_, ?_⟩
      · rw [dig_length]; omega
      · rw [dig_length]; unfold maxLen; omega
      · rw [List.length_append, dig_length, encB_length]; omega
      · rw [List.length_append, dig_length, encB_length]; unfold maxLen; omega
      · rw [← hB, ← hLd, ← hP, List.take_of_length_le (by omega)]
        simp [encT, List.append_assoc]
noncomputable def r41_Bytes_con : Con TB.den := r41_Bytes_sh.fnR (fun x => (fun (p0 : TTx) => TR p0 ∧ TL p0 ∧ p0.Outs.length ≤ 1048576 ∧ (∀ x ∈ p0.Outs, x.Cipher.length ≤ 1024)) (TTx.mk x.1 x.2.1 x.2.2.1 x.2.2.2.1 x.2.2.2.2.1 x.2.2.2.2.2.1 x.2.2.2.2.2.2.1 x.2.2.2.2.2.2.2.1 x.2.2.2.2.2.2.2.2.1 x.2.2.2.2.2.2.2.2.2.1)) fun x => ((fun (p0 : TTx) => (encT p0 p0.Proof : List Int)) (TTx.mk x.1 x.2.1 x.2.2.1 x.2.2.2.1 x.2.2.2.2.1 x.2.2.2.2.2.1 x.2.2.2.2.2.2.1 x.2.2.2.2.2.2.2.1 x.2.2.2.2.2.2.2.2.1 x.2.2.2.2.2.2.2.2.2.1), ())
theorem r41_Bytes_ok : r41_Bytes_con.Ok Try.prog TB := Con.ok_fn r41_Bytes_sh bd18 fun x h => r41_Bytes_snd (r41_Bytes_body (TTx.mk x.1 x.2.1 x.2.2.1 x.2.2.2.1 x.2.2.2.2.1 x.2.2.2.2.2.1 x.2.2.2.2.2.2.1 x.2.2.2.2.2.2.2.1 x.2.2.2.2.2.2.2.2.1 x.2.2.2.2.2.2.2.2.2.1) h)
end Go.Proofs.Ytdbnagpoknmoiaa
namespace Go.Proofs.Ytdbnagpoknmoiaa
open Go Go.Bv Go.Cv Go.Md Go.RowKit
def r41_SameBytes_sh : Con TB.den := Con.mk0 17 [.one (.d (.sl (.int .u8))), .one (.d (.sl (.int .u8)))] [] (.one (.one (.d (.bool)))) []
abbrev r41_SameBytes_I := HL TB.den (hsT r41_SameBytes_sh.ins (hsOs r41_SameBytes_sh.pre))
abbrev r41_SameBytes_O := HL TB.den (hsV r41_SameBytes_sh.res (hsOs r41_SameBytes_sh.post))
noncomputable def r41_SameBytes_cx : Cx TB := ⟨inf, [], [], 4⟩
noncomputable def r41_SameBytes_code : Code := Try.f17.body.getD .skip
noncomputable def r41_SameBytes_rs : List ResultVar := Try.f17.results.toList
noncomputable def r41_SameBytes_Q1 (o : r41_SameBytes_O) : Exit → TSt TB.den → Prop := thenT TB (fun s => ghs TB [] s fun s => WP TB r41_SameBytes_cx 26 0 (cB (cB (cB r41_SameBytes_code))) .no s (retTQ TB r41_SameBytes_cx r41_SameBytes_sh r41_SameBytes_rs o)) (retTQ TB r41_SameBytes_cx r41_SameBytes_sh r41_SameBytes_rs o)
def r41_SameBytes_T1 : Tm := ⟨[], [], [0, 1, 5], [.one (.d (.sl (.int .u8))), .one (.d (.sl (.int .u8))), .one (.d (.int .i64))], 0⟩
noncomputable def r41_SameBytes_Q2 (o : r41_SameBytes_O) (nx1 : HL TB.den r41_SameBytes_T1.hs → Prop) : Exit → TSt TB.den → Prop := thenT TB (fun s => r41_SameBytes_T1.mat TB 0 s nx1) (blockT TB 0 (r41_SameBytes_Q1 o))
noncomputable def r41_SameBytes_L1 (o : r41_SameBytes_O) (nx1 : HL TB.den r41_SameBytes_T1.hs → Prop) (i : HL TB.den r41_SameBytes_T1.hs) : Prop := WP TB r41_SameBytes_cx 26 0 (cA (cA (cB (cA (cB (cB r41_SameBytes_code)))))) .no (r41_SameBytes_T1.fill TB i) (r41_SameBytes_Q2 o nx1)
noncomputable def r41_SameBytes_A5 (o : r41_SameBytes_O) : An TB := .nd [] .no [] (.lp [] r41_SameBytes_T1 (r41_SameBytes_L1 o) fun nx1 => .no)
noncomputable def r41_SameBytes_an (o : r41_SameBytes_O) : An TB := .nd [] .no [] (.nd [] .no [] (.nd [] (r41_SameBytes_A5 o) [] .no))
noncomputable def r41_SameBytes_Body (x : r41_SameBytes_I) (o : r41_SameBytes_O) : Prop := WPh TB r41_SameBytes_cx 26 0 r41_SameBytes_code (r41_SameBytes_an o) (r41_SameBytes_sh.st TB x) (retTQ TB r41_SameBytes_cx r41_SameBytes_sh r41_SameBytes_rs o)
set_option maxRecDepth 100000 in
theorem r41_SameBytes_obl (o : r41_SameBytes_O) : OblH TB r41_SameBytes_cx 26 0 r41_SameBytes_code (r41_SameBytes_an o) (retTQ TB r41_SameBytes_cx r41_SameBytes_sh r41_SameBytes_rs o) :=
  OblH.of_eq (X := (True ∧ ((True ∧ ((True ∧ True) ∧ True)) ∧ ((True ∧ ((∀ nx i, (r41_SameBytes_L1 o) nx i = (r41_SameBytes_L1 o) nx i) ∧ ∀ nx1 : HL TB.den r41_SameBytes_T1.hs → Prop, ((True ∧ (True ∧ True)) ∧ ((True ∧ ((True ∧ True) ∧ True)) ∧ True)))) ∧ (True ∧ True))))) (by kernel_rfl) ⟨trivial, ⟨⟨trivial, ⟨⟨trivial, trivial⟩, trivial⟩⟩, ⟨⟨trivial, ⟨fun _ _ => rfl, fun _ => ⟨⟨trivial, ⟨trivial, trivial⟩⟩, ⟨⟨trivial, ⟨⟨trivial, trivial⟩, trivial⟩⟩, trivial⟩⟩⟩⟩, ⟨trivial, trivial⟩⟩⟩⟩
set_option maxRecDepth 100000 in
theorem r41_SameBytes_snd {x : r41_SameBytes_I} {o : r41_SameBytes_O} (h : r41_SameBytes_Body x o) : SoundH Try.prog r41_SameBytes_sh.f ((r41_SameBytes_sh.args idf x).map (er TB)) ((r41_SameBytes_sh.obs idf x).map (erO TB)) (er TB (r41_SameBytes_sh.val idf o)) ((r41_SameBytes_sh.ops idf o).map (erO TB)) :=
  Con.soundH (c := r41_SameBytes_sh) (C := r41_SameBytes_cx) TBok ⟨inf_ok, all_nil, all_nil⟩ mix Try.func17 (show Try.f17.body = some r41_SameBytes_code by kernel_rfl) (show Try.f17.ntmps = 26 by kernel_rfl) (show Try.f17.results.toList = r41_SameBytes_rs by kernel_rfl) rfl h (r41_SameBytes_obl o)
set_option maxRecDepth 100000 in
theorem r41_SameBytes_in {p0 : List Int} {p1 : List Int} {r0 : Bool} (h :
((((p0.length : Int) != (p1.length : Int)) = true →
 false = r0) ∧
(((p0.length : Int) != (p1.length : Int)) = false →
 Md.Loop (p0, p1, (0 : Int), ()) (r41_SameBytes_L1 (r0, ()))))) : r41_SameBytes_Body (p0, p1, ()) (r0, ()) := WPh.of_eq (by kernel_rfl) h
def r41_SameBytes_B1 (r0 : Bool) (k1 : Int → Prop) (s0 : List Int) (s1 : List Int) (s5 : Int) : Prop :=
(decide (s5 < (s0.length : Int)) = true →
(0 ≤ s5) ∧ s5 < (s0.length : Int) ∧ (0 ≤ s5) ∧ s5 < (s1.length : Int) ∧ (((ix s0 s5) != (ix s1 s5)) = true →
 false = r0) ∧
(((ix s0 s5) != (ix s1 s5)) = false →
 k1 (IntKind.i64.wrap (s5 + 1) : Int))) ∧
(decide (s5 < (s0.length : Int)) = false →
 true = r0)
set_option maxRecDepth 100000 in
theorem r41_SameBytes_lp1 {r0 : Bool} {s0 : List Int} {s1 : List Int} {s5 : Int} (inv : Int → Prop) (μ : Int → Nat) (h0 : inv s5) (hs : ∀ (s5 : Int), inv s5 → r41_SameBytes_B1 r0 (fun s5q => inv s5q ∧ μ s5q < μ s5) s0 s1 s5) : Md.Loop (s0, s1, s5, ()) (r41_SameBytes_L1 (r0, ())) :=
  ⟨⟨fun s : (List Int) × (List Int) × Int × Unit => (s.1 = s0 ∧ s.2.1 = s1) ∧ inv s.2.2.1, fun s : (List Int) × (List Int) × Int × Unit => μ s.2.2.1, ⟨⟨rfl, rfl⟩, h0⟩, fun (s0p, s1p, s5p, ()) ⟨⟨eq0, eq1⟩, hi⟩ => by
    have eq0 : s0p = s0 := eq0; subst s0p; have eq1 : s1p = s1 := eq1; subst s1p; exact mpr_of (by kernel_rfl) ((congrArg (fun k => r41_SameBytes_B1 r0 k s0 s1 s5p) (lpk1 (⟨rfl, rfl⟩ : s0 = s0 ∧ s1 = s1) inv (fun s5q => μ s5q < μ s5p))).mpr (hs s5p hi))⟩⟩
theorem bd17 : Callable Try.prog 17 := ⟨by rw [Try.func17]; kernel_rfl, by rw [Try.func17]; show some _ ≠ some _; decide⟩
theorem r41_SameBytes_body (p0 : List Int) (p1 : List Int) (h : p0.length ≤ 9223372036854775807) : r41_SameBytes_Body (p0, p1, ()) ((decide (p0 = p1) : Bool), ()) := by
  refine r41_SameBytes_in ⟨fun e => ?_, fun e => ?_⟩
  · have e : ¬ (p0.length : Int) = p1.length := by simpa using e
    rw [decide_eq_false (by rintro rfl; exact e rfl)]
  · have e : (p0.length : Int) = p1.length := by simpa using e
    refine r41_SameBytes_lp1 (fun i => 0 ≤ i ∧ i ≤ p0.length ∧ p0.take i.toNat = p1.take i.toNat) (fun i => (p0.length - i).toNat) ⟨by omega, by omega, by simp⟩ ?_
    rintro i ⟨g0, g1, g2⟩
    refine ⟨fun hh => ?_, fun hh => ?_⟩
    · have hh := of_decide_eq_true hh
      refine ⟨g0, hh, g0, by omega, fun e2 => ?_, fun e2 => ?_⟩
      · have e2 : ¬ ix p0 i = ix p1 i := by simpa using e2
        rw [decide_eq_false (by rintro rfl; exact e2 rfl)]
      · have e2 : ix p0 i = ix p1 i := by simpa using e2
        rw [inc i p0.length g0 hh (by omega)]
        refine ⟨⟨by omega, by omega, ?_⟩, by omega⟩
        rw [take_succ_ix p0 i g0 hh, take_succ_ix p1 i g0 (by omega), g2, e2]
    · have hh := of_decide_eq_false hh
      rw [List.take_of_length_le (by omega), List.take_of_length_le (by omega)] at g2
      rw [decide_eq_true g2]
noncomputable def r41_SameBytes_con : Con TB.den := r41_SameBytes_sh.fnR (fun x => (fun (p0 : List Int) (p1 : List Int) => p0.length ≤ 9223372036854775807) x.1 x.2.1) fun x => ((fun (p0 : List Int) (p1 : List Int) => (decide (p0 = p1) : Bool)) x.1 x.2.1, ())
theorem r41_SameBytes_ok : r41_SameBytes_con.Ok Try.prog TB := Con.ok_fn r41_SameBytes_sh bd17 fun x h => r41_SameBytes_snd (r41_SameBytes_body x.1 x.2.1 h)
end Go.Proofs.Ytdbnagpoknmoiaa
namespace Go.Proofs.Ytdbnagpoknmoiaa
open Go Go.Bv Go.Cv Go.Md Go.RowKit
def l41_TxEncode_sh : Con TB.den := Con.mk0 4 [.agg [.d (.int .u64), .d (.sl (.int .u64)), .d (.sl (.st 0)), .d (.int .u64), .d (.int .u64), .d (.int .u64), .d (.int .u64), .d (.int .u64), .d (.int .i64), .d (.sl (.int .u8))]] [] (.one (.one (.d (.bool)))) []
abbrev l41_TxEncode_I := HL TB.den (hsT l41_TxEncode_sh.ins (hsOs l41_TxEncode_sh.pre))
abbrev l41_TxEncode_O := HL TB.den (hsV l41_TxEncode_sh.res (hsOs l41_TxEncode_sh.post))
noncomputable def l41_TxEncode_cx : Cx TB := ⟨inf, [l41_awake_con, l41_small_con, l41_copied_con, tx_Encode_con, r41_Valid_con, tx_Weight_con, r41_Bytes_con, r41_SameBytes_con], [], 4⟩
noncomputable def l41_TxEncode_code : Code := Try.f4.body.getD .skip
noncomputable def l41_TxEncode_rs : List ResultVar := Try.f4.results.toList
noncomputable def l41_TxEncode_Q2 (o : l41_TxEncode_O) : Exit → TSt TB.den → Prop := thenT TB (fun s => ghs TB [] s fun s => WP TB l41_TxEncode_cx 54 0 (cB (cB l41_TxEncode_code)) .no s (retTQ TB l41_TxEncode_cx l41_TxEncode_sh l41_TxEncode_rs o)) (retTQ TB l41_TxEncode_cx l41_TxEncode_sh l41_TxEncode_rs o)
def l41_TxEncode_TJ1 : Tm := ⟨[0], [.cells [.d (.int .u64), .d (.sl (.int .u64)), .d (.sl (.st 0)), .d (.int .u64), .d (.int .u64), .d (.int .u64), .d (.int .u64), .d (.int .u64), .d (.int .i64), .d (.sl (.int .u8))]], [1, 12], [.one (.ptr 0 0), .one (.d (.bool))], 1⟩
noncomputable def l41_TxEncode_J1d (o : l41_TxEncode_O) (i : HL TB.den l41_TxEncode_TJ1.hs) : Prop := ghs TB [] (l41_TxEncode_TJ1.fill TB i) fun s => WP TB l41_TxEncode_cx 54 0 (cB (cA (cB l41_TxEncode_code))) .no s (l41_TxEncode_Q2 o)
structure l41_TxEncode_J1 (o : l41_TxEncode_O) (i : HL TB.den l41_TxEncode_TJ1.hs) : Prop where
  h : l41_TxEncode_J1d o i
noncomputable def l41_TxEncode_A4 (o : l41_TxEncode_O) : An TB := .nd [] (.jn l41_TxEncode_TJ1 (l41_TxEncode_J1 o) [] .no [] .no) [] .no
noncomputable def l41_TxEncode_an (o : l41_TxEncode_O) : An TB := .nd [] .no [] (l41_TxEncode_A4 o)
noncomputable def l41_TxEncode_Body (x : l41_TxEncode_I) (o : l41_TxEncode_O) : Prop := WPh TB l41_TxEncode_cx 54 0 l41_TxEncode_code (l41_TxEncode_an o) (l41_TxEncode_sh.st TB x) (retTQ TB l41_TxEncode_cx l41_TxEncode_sh l41_TxEncode_rs o)
set_option maxRecDepth 100000 in
theorem l41_TxEncode_obl (o : l41_TxEncode_O) : OblH TB l41_TxEncode_cx 54 0 l41_TxEncode_code (l41_TxEncode_an o) (retTQ TB l41_TxEncode_cx l41_TxEncode_sh l41_TxEncode_rs o) :=
  OblH.of_eq (X := (True ∧ ((True ∧ (∀ i, (l41_TxEncode_J1 o) i = (l41_TxEncode_J1d o) i) ∧ ((True ∧ True) ∧ True)) ∧ (True ∧ ((True ∧ (True ∧ ((True ∧ True) ∧ True))) ∧ (True ∧ True)))))) (by kernel_rfl) ⟨trivial, ⟨⟨trivial, fun _ => propext ⟨fun h => h.1, fun h => ⟨h⟩⟩, ⟨⟨trivial, trivial⟩, trivial⟩⟩, ⟨trivial, ⟨⟨trivial, ⟨trivial, ⟨⟨trivial, trivial⟩, trivial⟩⟩⟩, ⟨trivial, trivial⟩⟩⟩⟩⟩
set_option maxRecDepth 100000 in
theorem l41_TxEncode_snd {x : l41_TxEncode_I} {o : l41_TxEncode_O} (h : l41_TxEncode_Body x o) : SoundH Try.prog l41_TxEncode_sh.f ((l41_TxEncode_sh.args idf x).map (er TB)) ((l41_TxEncode_sh.obs idf x).map (erO TB)) (er TB (l41_TxEncode_sh.val idf o)) ((l41_TxEncode_sh.ops idf o).map (erO TB)) :=
  Con.soundH (c := l41_TxEncode_sh) (C := l41_TxEncode_cx) TBok ⟨inf_ok, (all_cons l41_awake_ok (all_cons l41_small_ok (all_cons l41_copied_ok (all_cons tx_Encode_ok (all_cons r41_Valid_ok (all_cons tx_Weight_ok (all_cons r41_Bytes_ok (all_cons r41_SameBytes_ok all_nil)))))))), all_nil⟩ mix Try.func4 (show Try.f4.body = some l41_TxEncode_code by kernel_rfl) (show Try.f4.ntmps = 54 by kernel_rfl) (show Try.f4.results.toList = l41_TxEncode_rs by kernel_rfl) rfl h (l41_TxEncode_obl o)
set_option maxRecDepth 100000 in
theorem l41_TxEncode_in {p0 : TTx} {r0 : Bool} (h :
(((!true) = true →
 l41_TxEncode_J1 (r0, ()) (true, p0.Anchor, p0.Marks, p0.Outs, p0.Deposit, p0.Withdraw, p0.Fee, p0.Account, p0.Nonce, p0.Expiry, p0.Proof, ())) ∧
((!true) = false →
(p0.Outs.length ≤ 9223372036854775807) ∧ l41_TxEncode_J1 (r0, ()) (((!smallB p0 300) : Bool), p0.Anchor, p0.Marks, p0.Outs, p0.Deposit, p0.Withdraw, p0.Fee, p0.Account, p0.Nonce, p0.Expiry, p0.Proof, ())))) : l41_TxEncode_Body (p0.Anchor, p0.Marks, p0.Outs, p0.Deposit, p0.Withdraw, p0.Fee, p0.Account, p0.Nonce, p0.Expiry, p0.Proof, ()) (r0, ()) := WPh.of_eq (by kernel_rfl) h
set_option maxRecDepth 100000 in
theorem l41_TxEncode_J1_in {r0 : Bool} {s12 : Bool} {h0_0 : Int} {h0_1 : List Int} {h0_2 : List TOut} {h0_3 : Int} {h0_4 : Int} {h0_5 : Int} {h0_6 : Int} {h0_7 : Int} {h0_8 : Int} {h0_9 : List Int} (h :
((s12 = true →
 true = r0) ∧
(s12 = false →
(TL (TTx.mk h0_0 h0_1 h0_2 h0_3 h0_4 h0_5 h0_6 h0_7 h0_8 h0_9)) ∧ (TR (TTx.mk h0_0 h0_1 h0_2 h0_3 h0_4 h0_5 h0_6 h0_7 h0_8 h0_9)) ∧ let r1 : List Int := (if validE (TTx.mk h0_0 h0_1 h0_2 h0_3 h0_4 h0_5 h0_6 h0_7 h0_8 h0_9) = 0 then encT (TTx.mk h0_0 h0_1 h0_2 h0_3 h0_4 h0_5 h0_6 h0_7 h0_8 h0_9) (TTx.mk h0_0 h0_1 h0_2 h0_3 h0_4 h0_5 h0_6 h0_7 h0_8 h0_9).Proof else [])
 let r2 : Int := validE (TTx.mk h0_0 h0_1 h0_2 h0_3 h0_4 h0_5 h0_6 h0_7 h0_8 h0_9)
(TR (TTx.mk h0_0 h0_1 h0_2 h0_3 h0_4 h0_5 h0_6 h0_7 h0_8 h0_9) ∧ TL (TTx.mk h0_0 h0_1 h0_2 h0_3 h0_4 h0_5 h0_6 h0_7 h0_8 h0_9)) ∧ let r3 : Int := validE (TTx.mk h0_0 h0_1 h0_2 h0_3 h0_4 h0_5 h0_6 h0_7 h0_8 h0_9)
((r3 != 0) = true →
((r2 == r3) = true →
(((r1.length : Int) == 0) = true →
(TL (TTx.mk h0_0 h0_1 h0_2 h0_3 h0_4 h0_5 h0_6 h0_7 h0_8 h0_9)) ∧ (TR (TTx.mk h0_0 h0_1 h0_2 h0_3 h0_4 h0_5 h0_6 h0_7 h0_8 h0_9)) ∧ let r4 : Int := weightS (TTx.mk h0_0 h0_1 h0_2 h0_3 h0_4 h0_5 h0_6 h0_7 h0_8 h0_9)
(r4 == 0) = r0) ∧
(((r1.length : Int) == 0) = false →
 false = r0)) ∧
((r2 == r3) = false →
 false = r0)) ∧
((r3 != 0) = false →
((r2 == 0) = true →
(TR (TTx.mk h0_0 h0_1 h0_2 h0_3 h0_4 h0_5 h0_6 h0_7 h0_8 h0_9) ∧ TL (TTx.mk h0_0 h0_1 h0_2 h0_3 h0_4 h0_5 h0_6 h0_7 h0_8 h0_9) ∧ (TTx.mk h0_0 h0_1 h0_2 h0_3 h0_4 h0_5 h0_6 h0_7 h0_8 h0_9).Outs.length ≤ 1048576 ∧ (∀ x ∈ (TTx.mk h0_0 h0_1 h0_2 h0_3 h0_4 h0_5 h0_6 h0_7 h0_8 h0_9).Outs, x.Cipher.length ≤ 1024)) ∧ let r5 : List Int := encT (TTx.mk h0_0 h0_1 h0_2 h0_3 h0_4 h0_5 h0_6 h0_7 h0_8 h0_9) (TTx.mk h0_0 h0_1 h0_2 h0_3 h0_4 h0_5 h0_6 h0_7 h0_8 h0_9).Proof
(r1.length ≤ 9223372036854775807) ∧ (decide (r1 = r5) = true →
(TL (TTx.mk h0_0 h0_1 h0_2 h0_3 h0_4 h0_5 h0_6 h0_7 h0_8 h0_9)) ∧ (TR (TTx.mk h0_0 h0_1 h0_2 h0_3 h0_4 h0_5 h0_6 h0_7 h0_8 h0_9)) ∧ let r6 : Int := weightS (TTx.mk h0_0 h0_1 h0_2 h0_3 h0_4 h0_5 h0_6 h0_7 h0_8 h0_9)
(r6 == (r1.length : Int)) = r0) ∧
(decide (r1 = r5) = false →
 false = r0)) ∧
((r2 == 0) = false →
 false = r0))))) : l41_TxEncode_J1 (r0, ()) (s12, h0_0, h0_1, h0_2, h0_3, h0_4, h0_5, h0_6, h0_7, h0_8, h0_9, ()) := ⟨mpr_of (by kernel_rfl) h⟩
theorem l41_TxEncode_body (p0 : TTx) (h : TR p0 ∧ p0.Outs.length ≤ 9223372036854775807) : l41_TxEncode_Body (p0.Anchor, p0.Marks, p0.Outs, p0.Deposit, p0.Withdraw, p0.Fee, p0.Account, p0.Nonce, p0.Expiry, p0.Proof, ()) ((true : Bool), ()) := by
  obtain ⟨hr, hl⟩ := h
  have j1 : ∀ s, (s = false → smallB p0 300 = true) → l41_TxEncode_J1 (true, ()) (s, p0.Anchor, p0.Marks, p0.Outs, p0.Deposit, p0.Withdraw, p0.Fee, p0.Account, p0.Nonce, p0.Expiry, p0.Proof, ()) := by
    intro s hs
    refine l41_TxEncode_J1_in ⟨fun _ => rfl, fun h => ?_⟩
    have sl := small_le (hs h)
    have tl := small_tl (hs h)
    have bl : TR p0 ∧ TL p0 ∧ p0.Outs.length ≤ 1048576 ∧ ∀ x ∈ p0.Outs, x.Cipher.length ≤ 1024 := ⟨hr, tl, by omega, fun x hx => by have := sl.2.2.1 x hx; omega⟩
    have el : (encT p0 p0.Proof).length ≤ 5000 := by
      have := encOs_length p0.Outs 10 sl.2.2.1
      rw [encT_length]; omega
    simp only [TTx_eta]
    refine ⟨tl, hr, ⟨hr, tl⟩, fun e => ?_, fun e => ?_⟩
    · have e : validE p0 ≠ 0 := by simpa using e
      simp [e, tl, hr, weightS]
    · have e : validE p0 = 0 := by simpa using e
      simp [e, tl, hr, weightS]
      exact ⟨⟨by omega, fun x hx => by have := sl.2.2.1 x hx; omega⟩, by omega⟩
  exact l41_TxEncode_in ⟨fun h => by simp at h, fun _ => ⟨hl, j1 _ (by simp)⟩⟩
end Go.Proofs.Ytdbnagpoknmoiaa
namespace Go.Proofs.Ytdbnagpoknmoiaa
open Go Go.Bv Go.Cv Go.Md Go.RowKit
def l41_TxLongProof_sh : Con TB.den := Con.mk0 5 [.agg [.d (.int .u64), .d (.sl (.int .u64)), .d (.sl (.st 0)), .d (.int .u64), .d (.int .u64), .d (.int .u64), .d (.int .u64), .d (.int .u64), .d (.int .i64), .d (.sl (.int .u8))], .one (.d (.int .u8))] [] (.one (.one (.d (.bool)))) []
abbrev l41_TxLongProof_I := HL TB.den (hsT l41_TxLongProof_sh.ins (hsOs l41_TxLongProof_sh.pre))
abbrev l41_TxLongProof_O := HL TB.den (hsV l41_TxLongProof_sh.res (hsOs l41_TxLongProof_sh.post))
noncomputable def l41_TxLongProof_cx : Cx TB := ⟨inf, [l41_awake_con, l41_small_con, r41_Valid_con, l41_copied_con, tx_Valid_con], [], 4⟩
noncomputable def l41_TxLongProof_code : Code := Try.f5.body.getD .skip
noncomputable def l41_TxLongProof_rs : List ResultVar := Try.f5.results.toList
def l41_TxLongProof_TJ2 : Tm := ⟨[0], [.cells [.d (.int .u64), .d (.sl (.int .u64)), .d (.sl (.st 0)), .d (.int .u64), .d (.int .u64), .d (.int .u64), .d (.int .u64), .d (.int .u64), .d (.int .i64), .d (.sl (.int .u8))]], [1, 2, 5], [.one (.d (.int .u8)), .one (.ptr 0 0), .one (.d (.int .i64))], 1⟩
noncomputable def l41_TxLongProof_J2d (o : l41_TxLongProof_O) (i : HL TB.den l41_TxLongProof_TJ2.hs) : Prop := ghs TB [] (l41_TxLongProof_TJ2.fill TB i) fun s => WP TB l41_TxLongProof_cx 38 0 (cB (cB (cB (cB l41_TxLongProof_code)))) (.nd [] .no [] (.nd [] .no [] (.nd [.frzc 2 1 9] .no [] .no))) s (retTQ TB l41_TxLongProof_cx l41_TxLongProof_sh l41_TxLongProof_rs o)
structure l41_TxLongProof_J2 (o : l41_TxLongProof_O) (i : HL TB.den l41_TxLongProof_TJ2.hs) : Prop where
  h : l41_TxLongProof_J2d o i
noncomputable def l41_TxLongProof_A2 (o : l41_TxLongProof_O) : An TB := .jn l41_TxLongProof_TJ2 (l41_TxLongProof_J2 o) [] .no [] (.nd [] .no [] (.nd [] .no [] (.nd [.frzc 2 1 9] .no [] .no)))
noncomputable def l41_TxLongProof_Q3 (o : l41_TxLongProof_O) : Exit → TSt TB.den → Prop := thenT TB (fun s => ghs TB [] s fun s => WP TB l41_TxLongProof_cx 38 0 (cB (cB l41_TxLongProof_code)) (.nd [] .no [] (l41_TxLongProof_A2 o)) s (retTQ TB l41_TxLongProof_cx l41_TxLongProof_sh l41_TxLongProof_rs o)) (retTQ TB l41_TxLongProof_cx l41_TxLongProof_sh l41_TxLongProof_rs o)
def l41_TxLongProof_TJ1 : Tm := ⟨[0], [.cells [.d (.int .u64), .d (.sl (.int .u64)), .d (.sl (.st 0)), .d (.int .u64), .d (.int .u64), .d (.int .u64), .d (.int .u64), .d (.int .u64), .d (.int .i64), .d (.sl (.int .u8))]], [1, 2, 17], [.one (.d (.int .u8)), .one (.ptr 0 0), .one (.d (.bool))], 1⟩
noncomputable def l41_TxLongProof_J1d (o : l41_TxLongProof_O) (i : HL TB.den l41_TxLongProof_TJ1.hs) : Prop := ghs TB [] (l41_TxLongProof_TJ1.fill TB i) fun s => WP TB l41_TxLongProof_cx 38 0 (cB (cA (cB l41_TxLongProof_code))) .no s (l41_TxLongProof_Q3 o)
structure l41_TxLongProof_J1 (o : l41_TxLongProof_O) (i : HL TB.den l41_TxLongProof_TJ1.hs) : Prop where
  h : l41_TxLongProof_J1d o i
noncomputable def l41_TxLongProof_A5 (o : l41_TxLongProof_O) : An TB := .nd [] (.jn l41_TxLongProof_TJ1 (l41_TxLongProof_J1 o) [] .no [] .no) [] (.nd [] .no [] (l41_TxLongProof_A2 o))
noncomputable def l41_TxLongProof_an (o : l41_TxLongProof_O) : An TB := .nd [] .no [] (l41_TxLongProof_A5 o)
noncomputable def l41_TxLongProof_Body (x : l41_TxLongProof_I) (o : l41_TxLongProof_O) : Prop := WPh TB l41_TxLongProof_cx 38 0 l41_TxLongProof_code (l41_TxLongProof_an o) (l41_TxLongProof_sh.st TB x) (retTQ TB l41_TxLongProof_cx l41_TxLongProof_sh l41_TxLongProof_rs o)
set_option maxRecDepth 100000 in
theorem l41_TxLongProof_obl (o : l41_TxLongProof_O) : OblH TB l41_TxLongProof_cx 38 0 l41_TxLongProof_code (l41_TxLongProof_an o) (retTQ TB l41_TxLongProof_cx l41_TxLongProof_sh l41_TxLongProof_rs o) :=
  OblH.of_eq (X := (True ∧ ((True ∧ (∀ i, (l41_TxLongProof_J1 o) i = (l41_TxLongProof_J1d o) i) ∧ ((True ∧ True) ∧ True)) ∧ (True ∧ ((True ∧ (True ∧ True)) ∧ (∀ i, (l41_TxLongProof_J2 o) i = (l41_TxLongProof_J2d o) i) ∧ (True ∧ (True ∧ (True ∧ True)))))))) (by kernel_rfl) ⟨trivial, ⟨⟨trivial, fun _ => propext ⟨fun h => h.1, fun h => ⟨h⟩⟩, ⟨⟨trivial, trivial⟩, trivial⟩⟩, ⟨trivial, ⟨⟨trivial, ⟨trivial, trivial⟩⟩, fun _ => propext ⟨fun h => h.1, fun h => ⟨h⟩⟩, ⟨trivial, ⟨trivial, ⟨trivial, trivial⟩⟩⟩⟩⟩⟩⟩
set_option maxRecDepth 100000 in
theorem l41_TxLongProof_snd {x : l41_TxLongProof_I} {o : l41_TxLongProof_O} (h : l41_TxLongProof_Body x o) : SoundH Try.prog l41_TxLongProof_sh.f ((l41_TxLongProof_sh.args idf x).map (er TB)) ((l41_TxLongProof_sh.obs idf x).map (erO TB)) (er TB (l41_TxLongProof_sh.val idf o)) ((l41_TxLongProof_sh.ops idf o).map (erO TB)) :=
  Con.soundH (c := l41_TxLongProof_sh) (C := l41_TxLongProof_cx) TBok ⟨inf_ok, (all_cons l41_awake_ok (all_cons l41_small_ok (all_cons r41_Valid_ok (all_cons l41_copied_ok (all_cons tx_Valid_ok all_nil))))), all_nil⟩ mix Try.func5 (show Try.f5.body = some l41_TxLongProof_code by kernel_rfl) (show Try.f5.ntmps = 38 by kernel_rfl) (show Try.f5.results.toList = l41_TxLongProof_rs by kernel_rfl) rfl h (l41_TxLongProof_obl o)
set_option maxRecDepth 100000 in
theorem l41_TxLongProof_in {p0 : TTx} {p1 : Int} {r0 : Bool} (h :
(((!true) = true →
 l41_TxLongProof_J1 (r0, ()) (p1, true, p0.Anchor, p0.Marks, p0.Outs, p0.Deposit, p0.Withdraw, p0.Fee, p0.Account, p0.Nonce, p0.Expiry, p0.Proof, ())) ∧
((!true) = false →
(p0.Outs.length ≤ 9223372036854775807) ∧ ((!smallB p0 300) = true →
 l41_TxLongProof_J1 (r0, ()) (p1, true, p0.Anchor, p0.Marks, p0.Outs, p0.Deposit, p0.Withdraw, p0.Fee, p0.Account, p0.Nonce, p0.Expiry, p0.Proof, ())) ∧
((!smallB p0 300) = false →
 l41_TxLongProof_J1 (r0, ()) (p1, (decide (2 < p1) : Bool), p0.Anchor, p0.Marks, p0.Outs, p0.Deposit, p0.Withdraw, p0.Fee, p0.Account, p0.Nonce, p0.Expiry, p0.Proof, ()))))) : l41_TxLongProof_Body (p0.Anchor, p0.Marks, p0.Outs, p0.Deposit, p0.Withdraw, p0.Fee, p0.Account, p0.Nonce, p0.Expiry, p0.Proof, p1, ()) (r0, ()) := WPh.of_eq (by kernel_rfl) h
set_option maxRecDepth 100000 in
theorem l41_TxLongProof_J1_in {r0 : Bool} {s1 : Int} {s17 : Bool} {h0_0 : Int} {h0_1 : List Int} {h0_2 : List TOut} {h0_3 : Int} {h0_4 : Int} {h0_5 : Int} {h0_6 : Int} {h0_7 : Int} {h0_8 : Int} {h0_9 : List Int} (h :
((s17 = true →
 true = r0) ∧
(s17 = false →
(TR (TTx.mk h0_0 h0_1 h0_2 h0_3 h0_4 h0_5 h0_6 h0_7 h0_8 h0_9) ∧ TL (TTx.mk h0_0 h0_1 h0_2 h0_3 h0_4 h0_5 h0_6 h0_7 h0_8 h0_9)) ∧ let r1 : Int := validE (TTx.mk h0_0 h0_1 h0_2 h0_3 h0_4 h0_5 h0_6 h0_7 h0_8 h0_9)
((r1 == 0) = true →
(decide (0 < s1) = true →
 l41_TxLongProof_J2 (r0, ()) (s1, (3 : Int), h0_0, h0_1, h0_2, h0_3, h0_4, h0_5, h0_6, h0_7, h0_8, h0_9, ())) ∧
(decide (0 < s1) = false →
 l41_TxLongProof_J2 (r0, ()) (s1, r1, h0_0, h0_1, h0_2, h0_3, h0_4, h0_5, h0_6, h0_7, h0_8, h0_9, ()))) ∧
((r1 == 0) = false →
 l41_TxLongProof_J2 (r0, ()) (s1, r1, h0_0, h0_1, h0_2, h0_3, h0_4, h0_5, h0_6, h0_7, h0_8, h0_9, ()))))) : l41_TxLongProof_J1 (r0, ()) (s1, s17, h0_0, h0_1, h0_2, h0_3, h0_4, h0_5, h0_6, h0_7, h0_8, h0_9, ()) := ⟨mpr_of (by kernel_rfl) h⟩
set_option maxRecDepth 100000 in
theorem l41_TxLongProof_J2_in {r0 : Bool} {s1 : Int} {s5 : Int} {h0_0 : Int} {h0_1 : List Int} {h0_2 : List TOut} {h0_3 : Int} {h0_4 : Int} {h0_5 : Int} {h0_6 : Int} {h0_7 : Int} {h0_8 : Int} {h0_9 : List Int} (h :
((TL (TTx.mk h0_0 h0_1 h0_2 h0_3 h0_4 h0_5 h0_6 h0_7 h0_8 h0_9)) ∧ let v2 : Int := IntKind.i64.wrap (1048576 + (IntKind.i64.wrap s1))
 0 ≤ v2 ∧ v2 ≤ v2 ∧ (v2.toNat * 1 ≤ 140737488355328) ∧ (v2.toNat ≤ maxLen) ∧ (v2.toNat = (List.replicate v2.toNat (0 : Int)).length) ∧ let r3 : Int := validE (TTx.mk h0_0 h0_1 h0_2 h0_3 h0_4 h0_5 h0_6 h0_7 h0_8 (List.replicate v2.toNat (0 : Int)))
(r3 == s5) = r0)) : l41_TxLongProof_J2 (r0, ()) (s1, s5, h0_0, h0_1, h0_2, h0_3, h0_4, h0_5, h0_6, h0_7, h0_8, h0_9, ()) := ⟨mpr_of (by kernel_rfl) h⟩
theorem l41_TxLongProof_body (p0 : TTx) (p1 : Int) (h : TR p0 ∧ p0.Outs.length ≤ 9223372036854775807 ∧ 0 ≤ p1 ∧ p1 < 256) : l41_TxLongProof_Body (p0.Anchor, p0.Marks, p0.Outs, p0.Deposit, p0.Withdraw, p0.Fee, p0.Account, p0.Nonce, p0.Expiry, p0.Proof, p1, ()) ((true : Bool), ()) := by
  obtain ⟨hr, hl, hp0, hp1⟩ := h
  have j1 : ∀ s, (s = false → smallB p0 300 = true ∧ p1 ≤ 2) → l41_TxLongProof_J1 (true, ()) (p1, s, p0.Anchor, p0.Marks, p0.Outs, p0.Deposit, p0.Withdraw, p0.Fee, p0.Account, p0.Nonce, p0.Expiry, p0.Proof, ()) := by
    intro s hs
    refine l41_TxLongProof_J1_in ⟨fun _ => rfl, fun h => ?_⟩
    obtain ⟨h1, h2⟩ := hs h
    have sl := small_le h1
    have tl := small_tl h1
    have j2 : ∀ w, w = validE ⟨p0.Anchor, p0.Marks, p0.Outs, p0.Deposit, p0.Withdraw, p0.Fee, p0.Account, p0.Nonce, p0.Expiry, List.replicate (1048576 + p1).toNat 0⟩ → l41_TxLongProof_J2 (true, ()) (p1, w, p0.Anchor, p0.Marks, p0.Outs, p0.Deposit, p0.Withdraw, p0.Fee, p0.Account, p0.Nonce, p0.Expiry, p0.Proof, ()) := by
      intro w hw
      refine l41_TxLongProof_J2_in ⟨tl, ?_⟩
      rw [wi p1 (by omega) (by omega), wi (1048576 + p1) (by omega) (by omega)]
      try simp only []
      exact ⟨by omega, by omega, by omega, by unfold maxLen; omega, by simp, by rw [hw]; simp⟩
    have e1 : ∀ q, validE ⟨p0.Anchor, p0.Marks, p0.Outs, p0.Deposit, p0.Withdraw, p0.Fee, p0.Account, p0.Nonce, p0.Expiry, q⟩ = if validE p0 = 0 then (if q.length ≤ 1048576 then 0 else 3) else validE p0 := by
      intro q
      have hpl : p0.Proof.length ≤ 1048576 := by omega
      unfold validE
      rw [if_pos hpl]
      show (if (vMarks p0.Marks && vOuts p0.Outs && vAmounts p0 && vRest p0) = true then _ else _) = _
      split <;> simp
    simp only [TTx_eta]
    refine ⟨⟨hr, tl⟩, fun e => ⟨fun e2 => j2 _ ?_, fun e2 => j2 _ ?_⟩, fun e => j2 _ ?_⟩
    · have e : validE p0 = 0 := by simpa using e
      have e2 := of_decide_eq_true e2
      rw [e1 (List.replicate (1048576 + p1).toNat 0), if_pos e, List.length_replicate, if_neg (by omega)]
    · have e : validE p0 = 0 := by simpa using e
      have e2 := of_decide_eq_false e2
      rw [e1 (List.replicate (1048576 + p1).toNat 0), if_pos e, List.length_replicate, if_pos (by omega), e]
    · have e : validE p0 ≠ 0 := by simpa using e
      rw [e1 (List.replicate (1048576 + p1).toNat 0), if_neg e]
  refine l41_TxLongProof_in ⟨fun h => by simp at h, fun _ => ⟨hl, fun _ => j1 _ (by simp), fun h => j1 _ fun h2 => ⟨by simpa using h, by have := of_decide_eq_false h2; omega⟩⟩⟩
end Go.Proofs.Ytdbnagpoknmoiaa
namespace Go.Proofs.Ytdbnagpoknmoiaa
open Go Go.Bv Go.Cv Go.Md Go.RowKit
def tx_Shape_sh : Con TB.den := Con.mk0 19 [.agg [.d (.int .u64), .d (.sl (.int .u64)), .d (.sl (.st 0)), .d (.int .u64), .d (.int .u64), .d (.int .u64), .d (.int .u64), .d (.int .u64), .d (.int .i64), .d (.sl (.int .u8))]] [] (.one (.agg [.d (.int .i64), .d (.int .i64), .d (.int .u64), .d (.int .u64), .d (.int .u64), .d (.int .u64), .d (.int .u64), .d (.int .i64)])) []
abbrev tx_Shape_I := HL TB.den (hsT tx_Shape_sh.ins (hsOs tx_Shape_sh.pre))
abbrev tx_Shape_O := HL TB.den (hsV tx_Shape_sh.res (hsOs tx_Shape_sh.post))
noncomputable def tx_Shape_cx : Cx TB := ⟨inf, [tx_Valid_con], [], 4⟩
noncomputable def tx_Shape_code : Code := Try.f19.body.getD .skip
noncomputable def tx_Shape_rs : List ResultVar := Try.f19.results.toList
noncomputable def tx_Shape_an (o : tx_Shape_O) : An TB := .no
noncomputable def tx_Shape_Body (x : tx_Shape_I) (o : tx_Shape_O) : Prop := WPh TB tx_Shape_cx 26 0 tx_Shape_code (tx_Shape_an o) (tx_Shape_sh.st TB x) (retTQ TB tx_Shape_cx tx_Shape_sh tx_Shape_rs o)
set_option maxRecDepth 100000 in
theorem tx_Shape_obl (o : tx_Shape_O) : OblH TB tx_Shape_cx 26 0 tx_Shape_code (tx_Shape_an o) (retTQ TB tx_Shape_cx tx_Shape_sh tx_Shape_rs o) :=
  OblH.of_eq (X := (True ∧ ((True ∧ ((True ∧ True) ∧ True)) ∧ (True ∧ True)))) (by kernel_rfl) ⟨trivial, ⟨⟨trivial, ⟨⟨trivial, trivial⟩, trivial⟩⟩, ⟨trivial, trivial⟩⟩⟩
set_option maxRecDepth 100000 in
theorem tx_Shape_snd {x : tx_Shape_I} {o : tx_Shape_O} (h : tx_Shape_Body x o) : SoundH Try.prog tx_Shape_sh.f ((tx_Shape_sh.args idf x).map (er TB)) ((tx_Shape_sh.obs idf x).map (erO TB)) (er TB (tx_Shape_sh.val idf o)) ((tx_Shape_sh.ops idf o).map (erO TB)) :=
  Con.soundH (c := tx_Shape_sh) (C := tx_Shape_cx) TBok ⟨inf_ok, (all_cons tx_Valid_ok all_nil), all_nil⟩ mix Try.func19 (show Try.f19.body = some tx_Shape_code by kernel_rfl) (show Try.f19.ntmps = 26 by kernel_rfl) (show Try.f19.results.toList = tx_Shape_rs by kernel_rfl) rfl h (tx_Shape_obl o)
set_option maxRecDepth 100000 in
theorem tx_Shape_in {p0 : TTx} {r0 : TShape} (h :
((((validE p0) != 0) = true →
 0 = r0.Inputs ∧ 0 = r0.Outputs ∧ 0 = r0.Deposit ∧ 0 = r0.Withdraw ∧ 0 = r0.Fee ∧ 0 = r0.Account ∧ 0 = r0.Nonce ∧ 0 = r0.Expiry) ∧
(((validE p0) != 0) = false →
(p0.Marks.length : Int) = r0.Inputs ∧ (p0.Outs.length : Int) = r0.Outputs ∧ p0.Deposit = r0.Deposit ∧ p0.Withdraw = r0.Withdraw ∧ p0.Fee = r0.Fee ∧ p0.Account = r0.Account ∧ p0.Nonce = r0.Nonce ∧ p0.Expiry = r0.Expiry))) : tx_Shape_Body (p0.Anchor, p0.Marks, p0.Outs, p0.Deposit, p0.Withdraw, p0.Fee, p0.Account, p0.Nonce, p0.Expiry, p0.Proof, ()) (r0.Inputs, r0.Outputs, r0.Deposit, r0.Withdraw, r0.Fee, r0.Account, r0.Nonce, r0.Expiry, ()) := WPh.of_eq (by kernel_rfl) h
theorem bd19 : Callable Try.prog 19 := ⟨by rw [Try.func19]; kernel_rfl, by rw [Try.func19]; show some _ ≠ some _; decide⟩
theorem tx_Shape_body (p0 : TTx) : tx_Shape_Body (p0.Anchor, p0.Marks, p0.Outs, p0.Deposit, p0.Withdraw, p0.Fee, p0.Account, p0.Nonce, p0.Expiry, p0.Proof, ()) (((shapeS p0).Inputs : Int), ((shapeS p0).Outputs : Int), ((shapeS p0).Deposit : Int), ((shapeS p0).Withdraw : Int), ((shapeS p0).Fee : Int), ((shapeS p0).Account : Int), ((shapeS p0).Nonce : Int), ((shapeS p0).Expiry : Int), ()) := by
  refine tx_Shape_in ?_
  unfold shapeS
  refine ⟨fun e => ?_, fun e => ?_⟩
  · have e : validE p0 ≠ 0 := by simpa using e
    rw [if_neg e]
    exact ⟨rfl, rfl, rfl, rfl, rfl, rfl, rfl, rfl⟩
  · have e : validE p0 = 0 := by simpa using e
    rw [if_pos e]
    exact ⟨rfl, rfl, rfl, rfl, rfl, rfl, rfl, rfl⟩
noncomputable def tx_Shape_con : Con TB.den := tx_Shape_sh.totR fun x => ((fun (p0 : TTx) => ((shapeS p0).Inputs : Int)) (TTx.mk x.1 x.2.1 x.2.2.1 x.2.2.2.1 x.2.2.2.2.1 x.2.2.2.2.2.1 x.2.2.2.2.2.2.1 x.2.2.2.2.2.2.2.1 x.2.2.2.2.2.2.2.2.1 x.2.2.2.2.2.2.2.2.2.1), (fun (p0 : TTx) => ((shapeS p0).Outputs : Int)) (TTx.mk x.1 x.2.1 x.2.2.1 x.2.2.2.1 x.2.2.2.2.1 x.2.2.2.2.2.1 x.2.2.2.2.2.2.1 x.2.2.2.2.2.2.2.1 x.2.2.2.2.2.2.2.2.1 x.2.2.2.2.2.2.2.2.2.1), (fun (p0 : TTx) => ((shapeS p0).Deposit : Int)) (TTx.mk x.1 x.2.1 x.2.2.1 x.2.2.2.1 x.2.2.2.2.1 x.2.2.2.2.2.1 x.2.2.2.2.2.2.1 x.2.2.2.2.2.2.2.1 x.2.2.2.2.2.2.2.2.1 x.2.2.2.2.2.2.2.2.2.1), (fun (p0 : TTx) => ((shapeS p0).Withdraw : Int)) (TTx.mk x.1 x.2.1 x.2.2.1 x.2.2.2.1 x.2.2.2.2.1 x.2.2.2.2.2.1 x.2.2.2.2.2.2.1 x.2.2.2.2.2.2.2.1 x.2.2.2.2.2.2.2.2.1 x.2.2.2.2.2.2.2.2.2.1), (fun (p0 : TTx) => ((shapeS p0).Fee : Int)) (TTx.mk x.1 x.2.1 x.2.2.1 x.2.2.2.1 x.2.2.2.2.1 x.2.2.2.2.2.1 x.2.2.2.2.2.2.1 x.2.2.2.2.2.2.2.1 x.2.2.2.2.2.2.2.2.1 x.2.2.2.2.2.2.2.2.2.1), (fun (p0 : TTx) => ((shapeS p0).Account : Int)) (TTx.mk x.1 x.2.1 x.2.2.1 x.2.2.2.1 x.2.2.2.2.1 x.2.2.2.2.2.1 x.2.2.2.2.2.2.1 x.2.2.2.2.2.2.2.1 x.2.2.2.2.2.2.2.2.1 x.2.2.2.2.2.2.2.2.2.1), (fun (p0 : TTx) => ((shapeS p0).Nonce : Int)) (TTx.mk x.1 x.2.1 x.2.2.1 x.2.2.2.1 x.2.2.2.2.1 x.2.2.2.2.2.1 x.2.2.2.2.2.2.1 x.2.2.2.2.2.2.2.1 x.2.2.2.2.2.2.2.2.1 x.2.2.2.2.2.2.2.2.2.1), (fun (p0 : TTx) => ((shapeS p0).Expiry : Int)) (TTx.mk x.1 x.2.1 x.2.2.1 x.2.2.2.1 x.2.2.2.2.1 x.2.2.2.2.2.1 x.2.2.2.2.2.2.1 x.2.2.2.2.2.2.2.1 x.2.2.2.2.2.2.2.2.1 x.2.2.2.2.2.2.2.2.2.1), ())
theorem tx_Shape_ok : tx_Shape_con.Ok Try.prog TB := Con.ok_tot tx_Shape_sh bd19 fun x => tx_Shape_snd (tx_Shape_body (TTx.mk x.1 x.2.1 x.2.2.1 x.2.2.2.1 x.2.2.2.2.1 x.2.2.2.2.2.1 x.2.2.2.2.2.2.1 x.2.2.2.2.2.2.2.1 x.2.2.2.2.2.2.2.2.1 x.2.2.2.2.2.2.2.2.2.1))
end Go.Proofs.Ytdbnagpoknmoiaa
namespace Go.Proofs.Ytdbnagpoknmoiaa
open Go Go.Bv Go.Cv Go.Md Go.RowKit
def l41_TxWeightOfShape_sh : Con TB.den := Con.mk0 6 [.agg [.d (.int .u64), .d (.sl (.int .u64)), .d (.sl (.st 0)), .d (.int .u64), .d (.int .u64), .d (.int .u64), .d (.int .u64), .d (.int .u64), .d (.int .i64), .d (.sl (.int .u8))], .agg [.d (.int .u64), .d (.sl (.int .u64)), .d (.sl (.st 0)), .d (.int .u64), .d (.int .u64), .d (.int .u64), .d (.int .u64), .d (.int .u64), .d (.int .i64), .d (.sl (.int .u8))]] [] (.one (.one (.d (.bool)))) []
abbrev l41_TxWeightOfShape_I := HL TB.den (hsT l41_TxWeightOfShape_sh.ins (hsOs l41_TxWeightOfShape_sh.pre))
abbrev l41_TxWeightOfShape_O := HL TB.den (hsV l41_TxWeightOfShape_sh.res (hsOs l41_TxWeightOfShape_sh.post))
noncomputable def l41_TxWeightOfShape_cx : Cx TB := ⟨inf, [l41_awake_con, l41_small_con, r41_Valid_con, tx_Shape_con, tx_Weight_con], [], 4⟩
noncomputable def l41_TxWeightOfShape_code : Code := Try.f6.body.getD .skip
noncomputable def l41_TxWeightOfShape_rs : List ResultVar := Try.f6.results.toList
noncomputable def l41_TxWeightOfShape_Q1 (o : l41_TxWeightOfShape_O) : Exit → TSt TB.den → Prop := thenT TB (fun s => ghs TB [] s fun s => WP TB l41_TxWeightOfShape_cx 48 0 (cB (cB l41_TxWeightOfShape_code)) .no s (retTQ TB l41_TxWeightOfShape_cx l41_TxWeightOfShape_sh l41_TxWeightOfShape_rs o)) (retTQ TB l41_TxWeightOfShape_cx l41_TxWeightOfShape_sh l41_TxWeightOfShape_rs o)
def l41_TxWeightOfShape_TJ1 : Tm := ⟨[0, 1], [.cells [.d (.int .u64), .d (.sl (.int .u64)), .d (.sl (.st 0)), .d (.int .u64), .d (.int .u64), .d (.int .u64), .d (.int .u64), .d (.int .u64), .d (.int .i64), .d (.sl (.int .u8))], .cells [.d (.int .u64), .d (.sl (.int .u64)), .d (.sl (.st 0)), .d (.int .u64), .d (.int .u64), .d (.int .u64), .d (.int .u64), .d (.int .u64), .d (.int .i64), .d (.sl (.int .u8))]], [2, 3, 33], [.one (.ptr 0 0), .one (.ptr 1 0), .one (.d (.bool))], 118⟩
noncomputable def l41_TxWeightOfShape_J1d (o : l41_TxWeightOfShape_O) (i : HL TB.den l41_TxWeightOfShape_TJ1.hs) : Prop := ghs TB [] (l41_TxWeightOfShape_TJ1.fill TB i) fun s => WP TB l41_TxWeightOfShape_cx 48 0 (cB (cA (cB l41_TxWeightOfShape_code))) .no s (l41_TxWeightOfShape_Q1 o)
structure l41_TxWeightOfShape_J1 (o : l41_TxWeightOfShape_O) (i : HL TB.den l41_TxWeightOfShape_TJ1.hs) : Prop where
  h : l41_TxWeightOfShape_J1d o i
noncomputable def l41_TxWeightOfShape_A3 (o : l41_TxWeightOfShape_O) : An TB := .jn l41_TxWeightOfShape_TJ1 (l41_TxWeightOfShape_J1 o) [] .no [] .no
noncomputable def l41_TxWeightOfShape_an (o : l41_TxWeightOfShape_O) : An TB := .nd [] .no [] (.nd [] (l41_TxWeightOfShape_A3 o) [] .no)
noncomputable def l41_TxWeightOfShape_Body (x : l41_TxWeightOfShape_I) (o : l41_TxWeightOfShape_O) : Prop := WPh TB l41_TxWeightOfShape_cx 48 0 l41_TxWeightOfShape_code (l41_TxWeightOfShape_an o) (l41_TxWeightOfShape_sh.st TB x) (retTQ TB l41_TxWeightOfShape_cx l41_TxWeightOfShape_sh l41_TxWeightOfShape_rs o)
set_option maxRecDepth 100000 in
theorem l41_TxWeightOfShape_obl (o : l41_TxWeightOfShape_O) : OblH TB l41_TxWeightOfShape_cx 48 0 l41_TxWeightOfShape_code (l41_TxWeightOfShape_an o) (retTQ TB l41_TxWeightOfShape_cx l41_TxWeightOfShape_sh l41_TxWeightOfShape_rs o) :=
  OblH.of_eq (X := (True ∧ ((True ∧ (∀ i, (l41_TxWeightOfShape_J1 o) i = (l41_TxWeightOfShape_J1d o) i) ∧ ((True ∧ True) ∧ True)) ∧ (True ∧ True)))) (by kernel_rfl) ⟨trivial, ⟨⟨trivial, fun _ => propext ⟨fun h => h.1, fun h => ⟨h⟩⟩, ⟨⟨trivial, trivial⟩, trivial⟩⟩, ⟨trivial, trivial⟩⟩⟩
set_option maxRecDepth 100000 in
theorem l41_TxWeightOfShape_snd {x : l41_TxWeightOfShape_I} {o : l41_TxWeightOfShape_O} (h : l41_TxWeightOfShape_Body x o) : SoundH Try.prog l41_TxWeightOfShape_sh.f ((l41_TxWeightOfShape_sh.args idf x).map (er TB)) ((l41_TxWeightOfShape_sh.obs idf x).map (erO TB)) (er TB (l41_TxWeightOfShape_sh.val idf o)) ((l41_TxWeightOfShape_sh.ops idf o).map (erO TB)) :=
  Con.soundH (c := l41_TxWeightOfShape_sh) (C := l41_TxWeightOfShape_cx) TBok ⟨inf_ok, (all_cons l41_awake_ok (all_cons l41_small_ok (all_cons r41_Valid_ok (all_cons tx_Shape_ok (all_cons tx_Weight_ok all_nil))))), all_nil⟩ mix Try.func6 (show Try.f6.body = some l41_TxWeightOfShape_code by kernel_rfl) (show Try.f6.ntmps = 48 by kernel_rfl) (show Try.f6.results.toList = l41_TxWeightOfShape_rs by kernel_rfl) rfl h (l41_TxWeightOfShape_obl o)
set_option maxRecDepth 100000 in
theorem l41_TxWeightOfShape_in {p0 : TTx} {p1 : TTx} {r0 : Bool} (h :
(((!true) = true →
 l41_TxWeightOfShape_J1 (r0, ()) (true, p0.Anchor, p0.Marks, p0.Outs, p0.Deposit, p0.Withdraw, p0.Fee, p0.Account, p0.Nonce, p0.Expiry, p0.Proof, p1.Anchor, p1.Marks, p1.Outs, p1.Deposit, p1.Withdraw, p1.Fee, p1.Account, p1.Nonce, p1.Expiry, p1.Proof, ())) ∧
((!true) = false →
(p0.Outs.length ≤ 9223372036854775807) ∧ ((!smallB p0 300) = true →
 l41_TxWeightOfShape_J1 (r0, ()) (true, p0.Anchor, p0.Marks, p0.Outs, p0.Deposit, p0.Withdraw, p0.Fee, p0.Account, p0.Nonce, p0.Expiry, p0.Proof, p1.Anchor, p1.Marks, p1.Outs, p1.Deposit, p1.Withdraw, p1.Fee, p1.Account, p1.Nonce, p1.Expiry, p1.Proof, ())) ∧
((!smallB p0 300) = false →
(p1.Outs.length ≤ 9223372036854775807) ∧ ((!smallB p1 300) = true →
 l41_TxWeightOfShape_J1 (r0, ()) (true, p0.Anchor, p0.Marks, p0.Outs, p0.Deposit, p0.Withdraw, p0.Fee, p0.Account, p0.Nonce, p0.Expiry, p0.Proof, p1.Anchor, p1.Marks, p1.Outs, p1.Deposit, p1.Withdraw, p1.Fee, p1.Account, p1.Nonce, p1.Expiry, p1.Proof, ())) ∧
((!smallB p1 300) = false →
(TR p0 ∧ TL p0) ∧ (((validE p0) != 0) = true →
 l41_TxWeightOfShape_J1 (r0, ()) (true, p0.Anchor, p0.Marks, p0.Outs, p0.Deposit, p0.Withdraw, p0.Fee, p0.Account, p0.Nonce, p0.Expiry, p0.Proof, p1.Anchor, p1.Marks, p1.Outs, p1.Deposit, p1.Withdraw, p1.Fee, p1.Account, p1.Nonce, p1.Expiry, p1.Proof, ())) ∧
(((validE p0) != 0) = false →
(TR p1 ∧ TL p1) ∧ (((validE p1) != 0) = true →
 l41_TxWeightOfShape_J1 (r0, ()) (true, p0.Anchor, p0.Marks, p0.Outs, p0.Deposit, p0.Withdraw, p0.Fee, p0.Account, p0.Nonce, p0.Expiry, p0.Proof, p1.Anchor, p1.Marks, p1.Outs, p1.Deposit, p1.Withdraw, p1.Fee, p1.Account, p1.Nonce, p1.Expiry, p1.Proof, ())) ∧
(((validE p1) != 0) = false →
 let v1 : Bool := (!(((shapeS p0).Inputs == (shapeS p1).Inputs) && (((shapeS p0).Outputs == (shapeS p1).Outputs) && (((shapeS p0).Deposit == (shapeS p1).Deposit) && (((shapeS p0).Withdraw == (shapeS p1).Withdraw) && (((shapeS p0).Fee == (shapeS p1).Fee) && (((shapeS p0).Account == (shapeS p1).Account) && (((shapeS p0).Nonce == (shapeS p1).Nonce) && (((shapeS p0).Expiry == (shapeS p1).Expiry) && true)))))))))
 l41_TxWeightOfShape_J1 (r0, ()) (v1, p0.Anchor, p0.Marks, p0.Outs, p0.Deposit, p0.Withdraw, p0.Fee, p0.Account, p0.Nonce, p0.Expiry, p0.Proof, p1.Anchor, p1.Marks, p1.Outs, p1.Deposit, p1.Withdraw, p1.Fee, p1.Account, p1.Nonce, p1.Expiry, p1.Proof, ())))))))) : l41_TxWeightOfShape_Body (p0.Anchor, p0.Marks, p0.Outs, p0.Deposit, p0.Withdraw, p0.Fee, p0.Account, p0.Nonce, p0.Expiry, p0.Proof, p1.Anchor, p1.Marks, p1.Outs, p1.Deposit, p1.Withdraw, p1.Fee, p1.Account, p1.Nonce, p1.Expiry, p1.Proof, ()) (r0, ()) := WPh.of_eq (by kernel_rfl) h
set_option maxRecDepth 100000 in
theorem l41_TxWeightOfShape_J1_in {r0 : Bool} {s33 : Bool} {h0_0 : Int} {h0_1 : List Int} {h0_2 : List TOut} {h0_3 : Int} {h0_4 : Int} {h0_5 : Int} {h0_6 : Int} {h0_7 : Int} {h0_8 : Int} {h0_9 : List Int} {h1_0 : Int} {h1_1 : List Int} {h1_2 : List TOut} {h1_3 : Int} {h1_4 : Int} {h1_5 : Int} {h1_6 : Int} {h1_7 : Int} {h1_8 : Int} {h1_9 : List Int} (h :
((s33 = true →
 true = r0) ∧
(s33 = false →
(TR (TTx.mk h0_0 h0_1 h0_2 h0_3 h0_4 h0_5 h0_6 h0_7 h0_8 h0_9)) ∧ let r2 : Int := weightS (TTx.mk h0_0 h0_1 h0_2 h0_3 h0_4 h0_5 h0_6 h0_7 h0_8 h0_9)
 let v3 : Int := IntKind.i64.wrap (r2 - (h0_9.length : Int))
(TR (TTx.mk h1_0 h1_1 h1_2 h1_3 h1_4 h1_5 h1_6 h1_7 h1_8 h1_9)) ∧ let r4 : Int := weightS (TTx.mk h1_0 h1_1 h1_2 h1_3 h1_4 h1_5 h1_6 h1_7 h1_8 h1_9)
 let v5 : Int := IntKind.i64.wrap (r4 - (h1_9.length : Int))
(v3 == v5) = r0))) : l41_TxWeightOfShape_J1 (r0, ()) (s33, h0_0, h0_1, h0_2, h0_3, h0_4, h0_5, h0_6, h0_7, h0_8, h0_9, h1_0, h1_1, h1_2, h1_3, h1_4, h1_5, h1_6, h1_7, h1_8, h1_9, ()) := ⟨mpr_of (by kernel_rfl) h⟩
theorem l41_TxWeightOfShape_body (p0 : TTx) (p1 : TTx) (h : TR p0 ∧ p0.Outs.length ≤ 9223372036854775807 ∧ TR p1 ∧ p1.Outs.length ≤ 9223372036854775807) : l41_TxWeightOfShape_Body (p0.Anchor, p0.Marks, p0.Outs, p0.Deposit, p0.Withdraw, p0.Fee, p0.Account, p0.Nonce, p0.Expiry, p0.Proof, p1.Anchor, p1.Marks, p1.Outs, p1.Deposit, p1.Withdraw, p1.Fee, p1.Account, p1.Nonce, p1.Expiry, p1.Proof, ()) ((true : Bool), ()) := by
  obtain ⟨hr, hl, hr', hl'⟩ := h
  have j1 : ∀ s, (s = false → (smallB p0 300 = true ∧ smallB p1 300 = true) ∧ validE p0 = 0 ∧ validE p1 = 0 ∧ shapeS p0 = shapeS p1) → l41_TxWeightOfShape_J1 (true, ()) (s, p0.Anchor, p0.Marks, p0.Outs, p0.Deposit, p0.Withdraw, p0.Fee, p0.Account, p0.Nonce, p0.Expiry, p0.Proof, p1.Anchor, p1.Marks, p1.Outs, p1.Deposit, p1.Withdraw, p1.Fee, p1.Account, p1.Nonce, p1.Expiry, p1.Proof, ()) := by
    intro s hs
    refine l41_TxWeightOfShape_J1_in ⟨fun _ => rfl, fun h => ?_⟩
    obtain ⟨⟨s1, s2⟩, v1, v2, hsh⟩ := hs h
    have t1 := (validE_zero _).1 v1
    have t2 := (validE_zero _).1 v2
    have o1 := encOs_eq p0.Outs (fun x hx => (t1.o x hx).l)
    have o2 := encOs_eq p1.Outs (fun x hx => (t2.o x hx).l)
    have sl := small_le s1
    have sl' := small_le s2
    unfold shapeS at hsh
    rw [if_pos v1, if_pos v2] at hsh
    have q1 : (p0.Marks.length : Int) = p1.Marks.length := congrArg TShape.Inputs hsh
    have q2 : (p0.Outs.length : Int) = p1.Outs.length := congrArg TShape.Outputs hsh
    simp only [TTx_eta]
    refine ⟨hr, hr', ?_⟩
    unfold weightS
    rw [if_pos v1, if_pos v2, encT_length, encT_length, o1, o2]
    have : p0.Marks.length = p1.Marks.length := by omega
    have : p0.Outs.length = p1.Outs.length := by omega
    rw [wi _ (by omega) (by omega), wi _ (by omega) (by omega)]
    simp
    omega
  refine l41_TxWeightOfShape_in ⟨fun h => by simp at h, fun _ => ⟨hl, fun _ => j1 _ (by simp), fun h1 => ⟨hl', fun _ => j1 _ (by simp), fun h2 => ?_⟩⟩⟩
  have h1 : smallB p0 300 = true := by simpa using h1
  have h2 : smallB p1 300 = true := by simpa using h2
  refine ⟨⟨hr, small_tl h1⟩, fun _ => j1 _ (by simp), fun h3 => ⟨⟨hr', small_tl h2⟩, fun _ => j1 _ (by simp), fun h4 => j1 _ fun h5 => ?_⟩⟩
  have h3 : validE p0 = 0 := by simpa using h3
  have h4 : validE p1 = 0 := by simpa using h4
  refine ⟨⟨h1, h2⟩, h3, h4, ?_⟩
  simp at h5
  obtain ⟨a, b, c, d, e, f, g, i⟩ := h5
  cases hq : shapeS p0
  cases hq' : shapeS p1
  simp_all
end Go.Proofs.Ytdbnagpoknmoiaa
namespace Go.Proofs.Ytdbnagpoknmoiaa
open Go Go.Bv Go.Cv Go.Md Go.RowKit
def r11_Same_sh : Con TB.den := Con.mk0 41 [.one (.d (.sl (.int .u64))), .one (.d (.sl (.int .u64)))] [] (.one (.one (.d (.bool)))) []
abbrev r11_Same_I := HL TB.den (hsT r11_Same_sh.ins (hsOs r11_Same_sh.pre))
abbrev r11_Same_O := HL TB.den (hsV r11_Same_sh.res (hsOs r11_Same_sh.post))
noncomputable def r11_Same_cx : Cx TB := ⟨inf, [], [], 4⟩
noncomputable def r11_Same_code : Code := Try.f41.body.getD .skip
noncomputable def r11_Same_rs : List ResultVar := Try.f41.results.toList
noncomputable def r11_Same_Q1 (o : r11_Same_O) : Exit → TSt TB.den → Prop := thenT TB (fun s => ghs TB [] s fun s => WP TB r11_Same_cx 26 0 (cB (cB (cB r11_Same_code))) .no s (retTQ TB r11_Same_cx r11_Same_sh r11_Same_rs o)) (retTQ TB r11_Same_cx r11_Same_sh r11_Same_rs o)
def r11_Same_T1 : Tm := ⟨[], [], [0, 1, 5], [.one (.d (.sl (.int .u64))), .one (.d (.sl (.int .u64))), .one (.d (.int .i64))], 0⟩
noncomputable def r11_Same_Q2 (o : r11_Same_O) (nx1 : HL TB.den r11_Same_T1.hs → Prop) : Exit → TSt TB.den → Prop := thenT TB (fun s => r11_Same_T1.mat TB 0 s nx1) (blockT TB 0 (r11_Same_Q1 o))
noncomputable def r11_Same_L1 (o : r11_Same_O) (nx1 : HL TB.den r11_Same_T1.hs → Prop) (i : HL TB.den r11_Same_T1.hs) : Prop := WP TB r11_Same_cx 26 0 (cA (cA (cB (cA (cB (cB r11_Same_code)))))) .no (r11_Same_T1.fill TB i) (r11_Same_Q2 o nx1)
noncomputable def r11_Same_A5 (o : r11_Same_O) : An TB := .nd [] .no [] (.lp [] r11_Same_T1 (r11_Same_L1 o) fun nx1 => .no)
noncomputable def r11_Same_an (o : r11_Same_O) : An TB := .nd [] .no [] (.nd [] .no [] (.nd [] (r11_Same_A5 o) [] .no))
noncomputable def r11_Same_Body (x : r11_Same_I) (o : r11_Same_O) : Prop := WPh TB r11_Same_cx 26 0 r11_Same_code (r11_Same_an o) (r11_Same_sh.st TB x) (retTQ TB r11_Same_cx r11_Same_sh r11_Same_rs o)
set_option maxRecDepth 100000 in
theorem r11_Same_obl (o : r11_Same_O) : OblH TB r11_Same_cx 26 0 r11_Same_code (r11_Same_an o) (retTQ TB r11_Same_cx r11_Same_sh r11_Same_rs o) :=
  OblH.of_eq (X := (True ∧ ((True ∧ ((True ∧ True) ∧ True)) ∧ ((True ∧ ((∀ nx i, (r11_Same_L1 o) nx i = (r11_Same_L1 o) nx i) ∧ ∀ nx1 : HL TB.den r11_Same_T1.hs → Prop, ((True ∧ (True ∧ True)) ∧ ((True ∧ ((True ∧ True) ∧ True)) ∧ True)))) ∧ (True ∧ True))))) (by kernel_rfl) ⟨trivial, ⟨⟨trivial, ⟨⟨trivial, trivial⟩, trivial⟩⟩, ⟨⟨trivial, ⟨fun _ _ => rfl, fun _ => ⟨⟨trivial, ⟨trivial, trivial⟩⟩, ⟨⟨trivial, ⟨⟨trivial, trivial⟩, trivial⟩⟩, trivial⟩⟩⟩⟩, ⟨trivial, trivial⟩⟩⟩⟩
set_option maxRecDepth 100000 in
theorem r11_Same_snd {x : r11_Same_I} {o : r11_Same_O} (h : r11_Same_Body x o) : SoundH Try.prog r11_Same_sh.f ((r11_Same_sh.args idf x).map (er TB)) ((r11_Same_sh.obs idf x).map (erO TB)) (er TB (r11_Same_sh.val idf o)) ((r11_Same_sh.ops idf o).map (erO TB)) :=
  Con.soundH (c := r11_Same_sh) (C := r11_Same_cx) TBok ⟨inf_ok, all_nil, all_nil⟩ mix Try.func41 (show Try.f41.body = some r11_Same_code by kernel_rfl) (show Try.f41.ntmps = 26 by kernel_rfl) (show Try.f41.results.toList = r11_Same_rs by kernel_rfl) rfl h (r11_Same_obl o)
set_option maxRecDepth 100000 in
theorem r11_Same_in {p0 : List Int} {p1 : List Int} {r0 : Bool} (h :
((((p0.length : Int) != (p1.length : Int)) = true →
 false = r0) ∧
(((p0.length : Int) != (p1.length : Int)) = false →
 Md.Loop (p0, p1, (0 : Int), ()) (r11_Same_L1 (r0, ()))))) : r11_Same_Body (p0, p1, ()) (r0, ()) := WPh.of_eq (by kernel_rfl) h
def r11_Same_B1 (r0 : Bool) (k1 : Int → Prop) (s0 : List Int) (s1 : List Int) (s5 : Int) : Prop :=
(decide (s5 < (s0.length : Int)) = true →
(0 ≤ s5) ∧ s5 < (s0.length : Int) ∧ (0 ≤ s5) ∧ s5 < (s1.length : Int) ∧ (((ix s0 s5) != (ix s1 s5)) = true →
 false = r0) ∧
(((ix s0 s5) != (ix s1 s5)) = false →
 k1 (IntKind.i64.wrap (s5 + 1) : Int))) ∧
(decide (s5 < (s0.length : Int)) = false →
 true = r0)
set_option maxRecDepth 100000 in
theorem r11_Same_lp1 {r0 : Bool} {s0 : List Int} {s1 : List Int} {s5 : Int} (inv : Int → Prop) (μ : Int → Nat) (h0 : inv s5) (hs : ∀ (s5 : Int), inv s5 → r11_Same_B1 r0 (fun s5q => inv s5q ∧ μ s5q < μ s5) s0 s1 s5) : Md.Loop (s0, s1, s5, ()) (r11_Same_L1 (r0, ())) :=
  ⟨⟨fun s : (List Int) × (List Int) × Int × Unit => (s.1 = s0 ∧ s.2.1 = s1) ∧ inv s.2.2.1, fun s : (List Int) × (List Int) × Int × Unit => μ s.2.2.1, ⟨⟨rfl, rfl⟩, h0⟩, fun (s0p, s1p, s5p, ()) ⟨⟨eq0, eq1⟩, hi⟩ => by
    have eq0 : s0p = s0 := eq0; subst s0p; have eq1 : s1p = s1 := eq1; subst s1p; exact mpr_of (by kernel_rfl) ((congrArg (fun k => r11_Same_B1 r0 k s0 s1 s5p) (lpk1 (⟨rfl, rfl⟩ : s0 = s0 ∧ s1 = s1) inv (fun s5q => μ s5q < μ s5p))).mpr (hs s5p hi))⟩⟩
theorem bd41 : Callable Try.prog 41 := ⟨by rw [Try.func41]; kernel_rfl, by rw [Try.func41]; show some _ ≠ some _; decide⟩
theorem r11_Same_body (p0 : List Int) (p1 : List Int) (h : p0.length ≤ 9223372036854775807) : r11_Same_Body (p0, p1, ()) ((decide (p0 = p1) : Bool), ()) := by
  refine r11_Same_in ⟨fun e => ?_, fun e => ?_⟩
  · have e : ¬ (p0.length : Int) = p1.length := by simpa using e
    rw [decide_eq_false (by rintro rfl; exact e rfl)]
  · have e : (p0.length : Int) = p1.length := by simpa using e
    refine r11_Same_lp1 (fun i => 0 ≤ i ∧ i ≤ p0.length ∧ p0.take i.toNat = p1.take i.toNat) (fun i => (p0.length - i).toNat) ⟨by omega, by omega, by simp⟩ ?_
    rintro i ⟨g0, g1, g2⟩
    refine ⟨fun hh => ?_, fun hh => ?_⟩
    · have hh := of_decide_eq_true hh
      refine ⟨g0, hh, g0, by omega, fun e2 => ?_, fun e2 => ?_⟩
      · have e2 : ¬ ix p0 i = ix p1 i := by simpa using e2
        rw [decide_eq_false (by rintro rfl; exact e2 rfl)]
      · have e2 : ix p0 i = ix p1 i := by simpa using e2
        rw [inc i p0.length g0 hh (by omega)]
        refine ⟨⟨by omega, by omega, ?_⟩, by omega⟩
        rw [take_succ_ix p0 i g0 hh, take_succ_ix p1 i g0 (by omega), g2, e2]
    · have hh := of_decide_eq_false hh
      rw [List.take_of_length_le (by omega), List.take_of_length_le (by omega)] at g2
      rw [decide_eq_true g2]
noncomputable def r11_Same_con : Con TB.den := r11_Same_sh.fnR (fun x => (fun (p0 : List Int) (p1 : List Int) => p0.length ≤ 9223372036854775807) x.1 x.2.1) fun x => ((fun (p0 : List Int) (p1 : List Int) => (decide (p0 = p1) : Bool)) x.1 x.2.1, ())
theorem r11_Same_ok : r11_Same_con.Ok Try.prog TB := Con.ok_fn r11_Same_sh bd41 fun x h => r11_Same_snd (r11_Same_body x.1 x.2.1 h)
end Go.Proofs.Ytdbnagpoknmoiaa
namespace Go.Proofs.Ytdbnagpoknmoiaa
open Go Go.Bv Go.Cv Go.Md Go.RowKit
def r41_SameStatement_sh : Con TB.den := Con.mk0 22 [.agg [.d (.int .i64), .d (.int .u64), .d (.sl (.int .u64)), .d (.sl (.int .u64)), .d (.sl (.int .u64)), .d (.int .u64), .d (.int .u64), .d (.int .u64), .d (.int .u64), .d (.int .u64)], .agg [.d (.int .i64), .d (.int .u64), .d (.sl (.int .u64)), .d (.sl (.int .u64)), .d (.sl (.int .u64)), .d (.int .u64), .d (.int .u64), .d (.int .u64), .d (.int .u64), .d (.int .u64)]] [] (.one (.one (.d (.bool)))) []
abbrev r41_SameStatement_I := HL TB.den (hsT r41_SameStatement_sh.ins (hsOs r41_SameStatement_sh.pre))
abbrev r41_SameStatement_O := HL TB.den (hsV r41_SameStatement_sh.res (hsOs r41_SameStatement_sh.post))
noncomputable def r41_SameStatement_cx : Cx TB := ⟨inf, [r11_Same_con], [], 4⟩
noncomputable def r41_SameStatement_code : Code := Try.f22.body.getD .skip
noncomputable def r41_SameStatement_rs : List ResultVar := Try.f22.results.toList
noncomputable def r41_SameStatement_an (o : r41_SameStatement_O) : An TB := .no
noncomputable def r41_SameStatement_Body (x : r41_SameStatement_I) (o : r41_SameStatement_O) : Prop := WPh TB r41_SameStatement_cx 73 0 r41_SameStatement_code (r41_SameStatement_an o) (r41_SameStatement_sh.st TB x) (retTQ TB r41_SameStatement_cx r41_SameStatement_sh r41_SameStatement_rs o)
set_option maxRecDepth 100000 in
theorem r41_SameStatement_obl (o : r41_SameStatement_O) : OblH TB r41_SameStatement_cx 73 0 r41_SameStatement_code (r41_SameStatement_an o) (retTQ TB r41_SameStatement_cx r41_SameStatement_sh r41_SameStatement_rs o) :=
  OblH.of_eq (X := (True ∧ (True ∧ True))) (by kernel_rfl) ⟨trivial, ⟨trivial, trivial⟩⟩
set_option maxRecDepth 100000 in
theorem r41_SameStatement_snd {x : r41_SameStatement_I} {o : r41_SameStatement_O} (h : r41_SameStatement_Body x o) : SoundH Try.prog r41_SameStatement_sh.f ((r41_SameStatement_sh.args idf x).map (er TB)) ((r41_SameStatement_sh.obs idf x).map (erO TB)) (er TB (r41_SameStatement_sh.val idf o)) ((r41_SameStatement_sh.ops idf o).map (erO TB)) :=
  Con.soundH (c := r41_SameStatement_sh) (C := r41_SameStatement_cx) TBok ⟨inf_ok, (all_cons r11_Same_ok all_nil), all_nil⟩ mix Try.func22 (show Try.f22.body = some r41_SameStatement_code by kernel_rfl) (show Try.f22.ntmps = 73 by kernel_rfl) (show Try.f22.results.toList = r41_SameStatement_rs by kernel_rfl) rfl h (r41_SameStatement_obl o)
set_option maxRecDepth 100000 in
theorem r41_SameStatement_in {p0 : TStatement} {p1 : TStatement} {r0 : Bool} (h :
(((p0.Depth == p1.Depth) = true →
((p0.Anchor == p1.Anchor) = true →
(p0.Marks.length ≤ 9223372036854775807) ∧ (decide (p0.Marks = p1.Marks) = true →
(p0.Commits.length ≤ 9223372036854775807) ∧ (decide (p0.Commits = p1.Commits) = true →
(p0.Rhos.length ≤ 9223372036854775807) ∧ (decide (p0.Rhos = p1.Rhos) = true →
((p0.Deposit == p1.Deposit) = true →
((p0.Withdraw == p1.Withdraw) = true →
((p0.Fee == p1.Fee) = true →
((p0.Account == p1.Account) = true →
(p0.Bind == p1.Bind) = r0) ∧
((p0.Account == p1.Account) = false →
 false = r0)) ∧
((p0.Fee == p1.Fee) = false →
 false = r0)) ∧
((p0.Withdraw == p1.Withdraw) = false →
 false = r0)) ∧
((p0.Deposit == p1.Deposit) = false →
 false = r0)) ∧
(decide (p0.Rhos = p1.Rhos) = false →
 false = r0)) ∧
(decide (p0.Commits = p1.Commits) = false →
 false = r0)) ∧
(decide (p0.Marks = p1.Marks) = false →
 false = r0)) ∧
((p0.Anchor == p1.Anchor) = false →
 false = r0)) ∧
((p0.Depth == p1.Depth) = false →
 false = r0))) : r41_SameStatement_Body (p0.Depth, p0.Anchor, p0.Marks, p0.Commits, p0.Rhos, p0.Deposit, p0.Withdraw, p0.Fee, p0.Account, p0.Bind, p1.Depth, p1.Anchor, p1.Marks, p1.Commits, p1.Rhos, p1.Deposit, p1.Withdraw, p1.Fee, p1.Account, p1.Bind, ()) (r0, ()) := WPh.of_eq (by kernel_rfl) h
theorem bd22 : Callable Try.prog 22 := ⟨by rw [Try.func22]; kernel_rfl, by rw [Try.func22]; show some _ ≠ some _; decide⟩
theorem r41_SameStatement_body (p0 : TStatement) (p1 : TStatement) (h : p0.Marks.length ≤ 9223372036854775807 ∧ p0.Commits.length ≤ 9223372036854775807 ∧ p0.Rhos.length ≤ 9223372036854775807) : r41_SameStatement_Body (p0.Depth, p0.Anchor, p0.Marks, p0.Commits, p0.Rhos, p0.Deposit, p0.Withdraw, p0.Fee, p0.Account, p0.Bind, p1.Depth, p1.Anchor, p1.Marks, p1.Commits, p1.Rhos, p1.Deposit, p1.Withdraw, p1.Fee, p1.Account, p1.Bind, ()) ((decide (p0 = p1) : Bool), ()) := by
  obtain ⟨h1, h2, h3⟩ := h
  refine r41_SameStatement_in ?_
  cases p0
  cases p1
  simp only [TStatement.mk.injEq]
  simp only [h1, h2, h3, true_and]
  repeat' (first | (apply And.intro <;> intro h))
  all_goals simp only [beq_iff_eq, beq_eq_false_iff_ne, decide_eq_true_eq, decide_eq_false_iff_not] at *
  all_goals (simp [*] <;> rfl)
noncomputable def r41_SameStatement_con : Con TB.den := r41_SameStatement_sh.fnR (fun x => (fun (p0 : TStatement) (p1 : TStatement) => p0.Marks.length ≤ 9223372036854775807 ∧ p0.Commits.length ≤ 9223372036854775807 ∧ p0.Rhos.length ≤ 9223372036854775807) (TStatement.mk x.1 x.2.1 x.2.2.1 x.2.2.2.1 x.2.2.2.2.1 x.2.2.2.2.2.1 x.2.2.2.2.2.2.1 x.2.2.2.2.2.2.2.1 x.2.2.2.2.2.2.2.2.1 x.2.2.2.2.2.2.2.2.2.1) (TStatement.mk x.2.2.2.2.2.2.2.2.2.2.1 x.2.2.2.2.2.2.2.2.2.2.2.1 x.2.2.2.2.2.2.2.2.2.2.2.2.1 x.2.2.2.2.2.2.2.2.2.2.2.2.2.1 x.2.2.2.2.2.2.2.2.2.2.2.2.2.2.1 x.2.2.2.2.2.2.2.2.2.2.2.2.2.2.2.1 x.2.2.2.2.2.2.2.2.2.2.2.2.2.2.2.2.1 x.2.2.2.2.2.2.2.2.2.2.2.2.2.2.2.2.2.1 x.2.2.2.2.2.2.2.2.2.2.2.2.2.2.2.2.2.2.1 x.2.2.2.2.2.2.2.2.2.2.2.2.2.2.2.2.2.2.2.1)) fun x => ((fun (p0 : TStatement) (p1 : TStatement) => (decide (p0 = p1) : Bool)) (TStatement.mk x.1 x.2.1 x.2.2.1 x.2.2.2.1 x.2.2.2.2.1 x.2.2.2.2.2.1 x.2.2.2.2.2.2.1 x.2.2.2.2.2.2.2.1 x.2.2.2.2.2.2.2.2.1 x.2.2.2.2.2.2.2.2.2.1) (TStatement.mk x.2.2.2.2.2.2.2.2.2.2.1 x.2.2.2.2.2.2.2.2.2.2.2.1 x.2.2.2.2.2.2.2.2.2.2.2.2.1 x.2.2.2.2.2.2.2.2.2.2.2.2.2.1 x.2.2.2.2.2.2.2.2.2.2.2.2.2.2.1 x.2.2.2.2.2.2.2.2.2.2.2.2.2.2.2.1 x.2.2.2.2.2.2.2.2.2.2.2.2.2.2.2.2.1 x.2.2.2.2.2.2.2.2.2.2.2.2.2.2.2.2.2.1 x.2.2.2.2.2.2.2.2.2.2.2.2.2.2.2.2.2.2.1 x.2.2.2.2.2.2.2.2.2.2.2.2.2.2.2.2.2.2.2.1), ())
theorem r41_SameStatement_ok : r41_SameStatement_con.Ok Try.prog TB := Con.ok_fn r41_SameStatement_sh bd22 fun x h => r41_SameStatement_snd (r41_SameStatement_body (TStatement.mk x.1 x.2.1 x.2.2.1 x.2.2.2.1 x.2.2.2.2.1 x.2.2.2.2.2.1 x.2.2.2.2.2.2.1 x.2.2.2.2.2.2.2.1 x.2.2.2.2.2.2.2.2.1 x.2.2.2.2.2.2.2.2.2.1) (TStatement.mk x.2.2.2.2.2.2.2.2.2.2.1 x.2.2.2.2.2.2.2.2.2.2.2.1 x.2.2.2.2.2.2.2.2.2.2.2.2.1 x.2.2.2.2.2.2.2.2.2.2.2.2.2.1 x.2.2.2.2.2.2.2.2.2.2.2.2.2.2.1 x.2.2.2.2.2.2.2.2.2.2.2.2.2.2.2.1 x.2.2.2.2.2.2.2.2.2.2.2.2.2.2.2.2.1 x.2.2.2.2.2.2.2.2.2.2.2.2.2.2.2.2.2.1 x.2.2.2.2.2.2.2.2.2.2.2.2.2.2.2.2.2.2.1 x.2.2.2.2.2.2.2.2.2.2.2.2.2.2.2.2.2.2.2.1) h)
end Go.Proofs.Ytdbnagpoknmoiaa
namespace Go.Proofs.Ytdbnagpoknmoiaa
open Go Go.Bv Go.Cv Go.Md Go.RowKit
def note_Rho_sh : Con TB.den := Con.mk0 43 [.one (.d (.int .u64)), .one (.d (.int .i64))] [] (.one (.one (.d (.int .u64)))) []
abbrev note_Rho_I := HL TB.den (hsT note_Rho_sh.ins (hsOs note_Rho_sh.pre))
abbrev note_Rho_O := HL TB.den (hsV note_Rho_sh.res (hsOs note_Rho_sh.post))
noncomputable def note_Rho_cx : Cx TB := ⟨inf, [sponge_Hash_con], [], 4⟩
noncomputable def note_Rho_code : Code := Try.f43.body.getD .skip
noncomputable def note_Rho_rs : List ResultVar := Try.f43.results.toList
noncomputable def note_Rho_an (o : note_Rho_O) : An TB := .no
noncomputable def note_Rho_Body (x : note_Rho_I) (o : note_Rho_O) : Prop := WPh TB note_Rho_cx 16 0 note_Rho_code (note_Rho_an o) (note_Rho_sh.st TB x) (retTQ TB note_Rho_cx note_Rho_sh note_Rho_rs o)
set_option maxRecDepth 100000 in
theorem note_Rho_obl (o : note_Rho_O) : OblH TB note_Rho_cx 16 0 note_Rho_code (note_Rho_an o) (retTQ TB note_Rho_cx note_Rho_sh note_Rho_rs o) :=
  OblH.of_eq (X := (True ∧ ((True ∧ ((True ∧ True) ∧ True)) ∧ (True ∧ True)))) (by kernel_rfl) ⟨trivial, ⟨⟨trivial, ⟨⟨trivial, trivial⟩, trivial⟩⟩, ⟨trivial, trivial⟩⟩⟩
set_option maxRecDepth 100000 in
theorem note_Rho_snd {x : note_Rho_I} {o : note_Rho_O} (h : note_Rho_Body x o) : SoundH Try.prog note_Rho_sh.f ((note_Rho_sh.args idf x).map (er TB)) ((note_Rho_sh.obs idf x).map (erO TB)) (er TB (note_Rho_sh.val idf o)) ((note_Rho_sh.ops idf o).map (erO TB)) :=
  Con.soundH (c := note_Rho_sh) (C := note_Rho_cx) TBok ⟨inf_ok, (all_cons sponge_Hash_ok all_nil), all_nil⟩ mix Try.func43 (show Try.f43.body = some note_Rho_code by kernel_rfl) (show Try.f43.ntmps = 16 by kernel_rfl) (show Try.f43.results.toList = note_Rho_rs by kernel_rfl) rfl h (note_Rho_obl o)
set_option maxRecDepth 100000 in
theorem note_Rho_in {p0 : Int} {p1 : Int} {r0 : Int} (h :
((decide (18446744069414584321 ≤ p0) = true →
 0 = r0) ∧
(decide (18446744069414584321 ≤ p0) = false →
(decide (p1 < 0) = true →
 0 = r0) ∧
(decide (p1 < 0) = false →
((18446744069414584321 : Int) = 18446744069414584321 ∧ U64 (4 : Int) ∧ Us [p0, IntKind.u64.wrap p1] ∧ [p0, IntKind.u64.wrap p1].length ≤ 1099511627776) ∧ let r1 : Int := hashS (4 : Int) [p0, IntKind.u64.wrap p1]
 r1 = r0)))) : note_Rho_Body (p0, p1, ()) (r0, ()) := WPh.of_eq (by kernel_rfl) h
theorem bd43 : Callable Try.prog 43 := ⟨by rw [Try.func43]; kernel_rfl, by rw [Try.func43]; show some _ ≠ some _; decide⟩
theorem note_Rho_body (p0 : Int) (p1 : Int) (h : U64 p0 ∧ 0 ≤ p1 ∧ p1 ≤ 9223372036854775807) : note_Rho_Body (p0, p1, ()) ((rhoS p0 p1 : Int), ()) := by
  obtain ⟨h1, h2, h3⟩ := h
  refine note_Rho_in ?_
  unfold rhoS
  rw [wu p1 h2 (by omega)]
  refine ⟨fun e => ?_, fun e => ⟨fun e2 => ?_, fun e2 => ?_⟩⟩
  · have e := of_decide_eq_true e
    rw [if_neg (by omega)]
  · have e2 := of_decide_eq_true e2; omega
  · have e := of_decide_eq_false e
    rw [if_pos (by omega)]
    refine ⟨⟨rfl, by omega, ?_, by simp⟩, rfl⟩
    intro x hx
    simp only [List.mem_cons, List.not_mem_nil, or_false] at hx
    rcases hx with rfl | rfl
    · exact h1
    · omega
noncomputable def note_Rho_con : Con TB.den := note_Rho_sh.fnR (fun x => (fun (p0 : Int) (p1 : Int) => U64 p0 ∧ 0 ≤ p1 ∧ p1 ≤ 9223372036854775807) x.1 x.2.1) fun x => ((fun (p0 : Int) (p1 : Int) => (rhoS p0 p1 : Int)) x.1 x.2.1, ())
theorem note_Rho_ok : note_Rho_con.Ok Try.prog TB := Con.ok_fn note_Rho_sh bd43 fun x h => note_Rho_snd (note_Rho_body x.1 x.2.1 h)
end Go.Proofs.Ytdbnagpoknmoiaa
namespace Go.Proofs.Ytdbnagpoknmoiaa
open Go Go.Bv Go.Cv Go.Md Go.RowKit
def slices_Clone_sh : Con TB.den := Con.mk0 42 [.one (.d (.sl (.int .u64)))] [] (.one (.one (.d (.sl (.int .u64))))) []
abbrev slices_Clone_I := HL TB.den (hsT slices_Clone_sh.ins (hsOs slices_Clone_sh.pre))
abbrev slices_Clone_O := HL TB.den (hsV slices_Clone_sh.res (hsOs slices_Clone_sh.post))
noncomputable def slices_Clone_cx : Cx TB := ⟨inf, [], [], 4⟩
noncomputable def slices_Clone_code : Code := Try.f42.body.getD .skip
noncomputable def slices_Clone_rs : List ResultVar := Try.f42.results.toList
noncomputable def slices_Clone_an (o : slices_Clone_O) : An TB := .no
noncomputable def slices_Clone_Body (x : slices_Clone_I) (o : slices_Clone_O) : Prop := WPh TB slices_Clone_cx 8 0 slices_Clone_code (slices_Clone_an o) (slices_Clone_sh.st TB x) (retTQ TB slices_Clone_cx slices_Clone_sh slices_Clone_rs o)
set_option maxRecDepth 100000 in
theorem slices_Clone_obl (o : slices_Clone_O) : OblH TB slices_Clone_cx 8 0 slices_Clone_code (slices_Clone_an o) (retTQ TB slices_Clone_cx slices_Clone_sh slices_Clone_rs o) :=
  OblH.of_eq (X := (True ∧ ((True ∧ ((True ∧ True) ∧ True)) ∧ (True ∧ True)))) (by kernel_rfl) ⟨trivial, ⟨⟨trivial, ⟨⟨trivial, trivial⟩, trivial⟩⟩, ⟨trivial, trivial⟩⟩⟩
set_option maxRecDepth 100000 in
theorem slices_Clone_snd {x : slices_Clone_I} {o : slices_Clone_O} (h : slices_Clone_Body x o) : SoundH Try.prog slices_Clone_sh.f ((slices_Clone_sh.args idf x).map (er TB)) ((slices_Clone_sh.obs idf x).map (erO TB)) (er TB (slices_Clone_sh.val idf o)) ((slices_Clone_sh.ops idf o).map (erO TB)) :=
  Con.soundH (c := slices_Clone_sh) (C := slices_Clone_cx) TBok ⟨inf_ok, all_nil, all_nil⟩ mix Try.func42 (show Try.f42.body = some slices_Clone_code by kernel_rfl) (show Try.f42.ntmps = 8 by kernel_rfl) (show Try.f42.results.toList = slices_Clone_rs by kernel_rfl) rfl h (slices_Clone_obl o)
set_option maxRecDepth 100000 in
theorem slices_Clone_in {p0 : List Int} {r0 : List Int} (h :
(∀ z4 : Bool, (z4 = true → p0 = []) → (z4 = true →
([] : List Int) = r0) ∧
(z4 = false →
(([] : List Int).length + p0.length) * 8 ≤ 140737488355328 ∧ ([] : List Int).length + p0.length ≤ maxLen ∧ ([] : List Int) ++ p0 = r0))) : slices_Clone_Body (p0, ()) (r0, ()) := WPh.of_eq (by kernel_rfl) h
theorem bd42 : Callable Try.prog 42 := ⟨by rw [Try.func42]; kernel_rfl, by rw [Try.func42]; show some _ ≠ some _; decide⟩
theorem slices_Clone_body (p0 : List Int) (h : p0.length ≤ 4294967295) : slices_Clone_Body (p0, ()) ((p0 : List Int), ()) := by
  refine slices_Clone_in fun z hz => ⟨fun h => (hz h).symm, fun h => ⟨by simp; omega, by simp; unfold maxLen; omega, rfl⟩⟩
noncomputable def slices_Clone_con : Con TB.den := slices_Clone_sh.fnR (fun x => (fun (p0 : List Int) => p0.length ≤ 4294967295) x.1) fun x => ((fun (p0 : List Int) => (p0 : List Int)) x.1, ())
theorem slices_Clone_ok : slices_Clone_con.Ok Try.prog TB := Con.ok_fn slices_Clone_sh bd42 fun x h => slices_Clone_snd (slices_Clone_body x.1 h)
end Go.Proofs.Ytdbnagpoknmoiaa
namespace Go.Proofs.Ytdbnagpoknmoiaa
open Go Go.Bv Go.Cv Go.Md Go.RowKit
def tx_Statement_sh : Con TB.den := Con.mk0 23 [.agg [.d (.int .u64), .d (.sl (.int .u64)), .d (.sl (.st 0)), .d (.int .u64), .d (.int .u64), .d (.int .u64), .d (.int .u64), .d (.int .u64), .d (.int .i64), .d (.sl (.int .u8))], .one (.d (.int .i64))] [] (.one (.agg [.d (.int .i64), .d (.int .u64), .d (.sl (.int .u64)), .d (.sl (.int .u64)), .d (.sl (.int .u64)), .d (.int .u64), .d (.int .u64), .d (.int .u64), .d (.int .u64), .d (.int .u64)])) []
abbrev tx_Statement_I := HL TB.den (hsT tx_Statement_sh.ins (hsOs tx_Statement_sh.pre))
abbrev tx_Statement_O := HL TB.den (hsV tx_Statement_sh.res (hsOs tx_Statement_sh.post))
noncomputable def tx_Statement_cx : Cx TB := ⟨inf, [tx_Valid_con, slices_Clone_con, tx_Bind_con, tx_Origin_con, note_Rho_con], [], 4⟩
noncomputable def tx_Statement_code : Code := Try.f23.body.getD .skip
noncomputable def tx_Statement_rs : List ResultVar := Try.f23.results.toList
noncomputable def tx_Statement_Q1 (o : tx_Statement_O) : Exit → TSt TB.den → Prop := thenT TB (fun s => ghs TB [] s fun s => WP TB tx_Statement_cx 57 0 (cB (cB (cB (cB (cB tx_Statement_code))))) .no s (retTQ TB tx_Statement_cx tx_Statement_sh tx_Statement_rs o)) (retTQ TB tx_Statement_cx tx_Statement_sh tx_Statement_rs o)
def tx_Statement_T1 : Tm := ⟨[1, 70, 79, 78], [.cells [.d (.int .i64), .d (.int .u64), .full (.int .u64), .full (.int .u64), .full (.int .u64), .d (.int .u64), .d (.int .u64), .d (.int .u64), .d (.int .u64), .d (.int .u64)], .cells [.d (.int .i64), .d (.int .u64), .d (.sl (.int .u64)), .own 2, .own 3, .d (.int .u64), .d (.int .u64), .d (.int .u64), .d (.int .u64), .d (.int .u64)], .tip (.int .u64), .tip (.int .u64)], [4, 5, 6, 33, 34, 35], [.one (.ptr 0 0), .one (.ptr 1 0), .one (.d (.int .u64)), .one (.d (.sl (.st 0))), .one (.d (.int .i64)), .one (.d (.int .i64))], 80⟩
noncomputable def tx_Statement_Q2 (o : tx_Statement_O) (nx1 : HL TB.den tx_Statement_T1.hs → Prop) : Exit → TSt TB.den → Prop := thenT TB (fun s => tx_Statement_T1.mat TB 0 s nx1) (blockT TB 0 (tx_Statement_Q1 o))
noncomputable def tx_Statement_L1 (o : tx_Statement_O) (nx1 : HL TB.den tx_Statement_T1.hs → Prop) (i : HL TB.den tx_Statement_T1.hs) : Prop := WP TB tx_Statement_cx 57 0 (cA (cA (cB (cA (cB (cB (cB (cB tx_Statement_code)))))))) .no (tx_Statement_T1.fill TB i) (tx_Statement_Q2 o nx1)
noncomputable def tx_Statement_A5 (o : tx_Statement_O) : An TB := .lp [.tokc 70 4 (.int .u64), .tokc 70 3 (.int .u64)] tx_Statement_T1 (tx_Statement_L1 o) fun nx1 => .no
noncomputable def tx_Statement_A6 (o : tx_Statement_O) : An TB := .nd [] .no [] (.nd [] (.nd [] .no [] (tx_Statement_A5 o)) [] .no)
noncomputable def tx_Statement_an (o : tx_Statement_O) : An TB := .nd [] .no [] (.nd [] .no [] (.nd [] .no [] (tx_Statement_A6 o)))
noncomputable def tx_Statement_Body (x : tx_Statement_I) (o : tx_Statement_O) : Prop := WPh TB tx_Statement_cx 57 0 tx_Statement_code (tx_Statement_an o) (tx_Statement_sh.st TB x) (retTQ TB tx_Statement_cx tx_Statement_sh tx_Statement_rs o)
set_option maxRecDepth 100000 in
theorem tx_Statement_obl (o : tx_Statement_O) : OblH TB tx_Statement_cx 57 0 tx_Statement_code (tx_Statement_an o) (retTQ TB tx_Statement_cx tx_Statement_sh tx_Statement_rs o) :=
  OblH.of_eq (X := (True ∧ ((True ∧ ((True ∧ True) ∧ True)) ∧ (True ∧ (True ∧ ((True ∧ ((∀ nx i, (tx_Statement_L1 o) nx i = (tx_Statement_L1 o) nx i) ∧ ∀ nx1 : HL TB.den tx_Statement_T1.hs → Prop, (True ∧ ((True ∧ True) ∧ ((True ∧ (True ∧ True)) ∧ True))))) ∧ (True ∧ True))))))) (by kernel_rfl) ⟨trivial, ⟨⟨trivial, ⟨⟨trivial, trivial⟩, trivial⟩⟩, ⟨trivial, ⟨trivial, ⟨⟨trivial, ⟨fun _ _ => rfl, fun _ => ⟨trivial, ⟨⟨trivial, trivial⟩, ⟨⟨trivial, ⟨trivial, trivial⟩⟩, trivial⟩⟩⟩⟩⟩, ⟨trivial, trivial⟩⟩⟩⟩⟩⟩
set_option maxRecDepth 100000 in
theorem tx_Statement_snd {x : tx_Statement_I} {o : tx_Statement_O} (h : tx_Statement_Body x o) : SoundH Try.prog tx_Statement_sh.f ((tx_Statement_sh.args idf x).map (er TB)) ((tx_Statement_sh.obs idf x).map (erO TB)) (er TB (tx_Statement_sh.val idf o)) ((tx_Statement_sh.ops idf o).map (erO TB)) :=
  Con.soundH (c := tx_Statement_sh) (C := tx_Statement_cx) TBok ⟨inf_ok, (all_cons tx_Valid_ok (all_cons slices_Clone_ok (all_cons tx_Bind_ok (all_cons tx_Origin_ok (all_cons note_Rho_ok all_nil))))), all_nil⟩ mix Try.func23 (show Try.f23.body = some tx_Statement_code by kernel_rfl) (show Try.f23.ntmps = 57 by kernel_rfl) (show Try.f23.results.toList = tx_Statement_rs by kernel_rfl) rfl h (tx_Statement_obl o)
set_option maxRecDepth 100000 in
theorem tx_Statement_in {p0 : TTx} {p1 : Int} {r0 : TStatement} (h :
((((validE p0) != 0) = true →
 0 = r0.Depth ∧ 0 = r0.Anchor ∧ ([] : List Int) = r0.Marks ∧ ([] : List Int) = r0.Commits ∧ ([] : List Int) = r0.Rhos ∧ 0 = r0.Deposit ∧ 0 = r0.Withdraw ∧ 0 = r0.Fee ∧ 0 = r0.Account ∧ 0 = r0.Bind) ∧
(((validE p0) != 0) = false →
(p0.Marks.length ≤ 4294967295) ∧ (TR p0) ∧ (TR p0) ∧ (([] : List Int) = ([] : List Int)) ∧ (([] : List Int) = ([] : List Int)) ∧ Md.Loop ((originS p0 : Int), p0.Outs, ((p0.Outs.length : Int) : Int), (0 : Int), (0 : Int), (0 : Int), (([] : List Int) : List Int), (([] : List Int) : List Int), (([] : List Int) : List Int), (0 : Int), (0 : Int), (0 : Int), (0 : Int), (0 : Int), p1, p0.Anchor, p0.Marks, p0.Deposit, p0.Withdraw, p0.Fee, p0.Account, (bindS p0 : Int), (([] : List Int) : List Int), (([] : List Int) : List Int), ()) (tx_Statement_L1 (r0.Depth, r0.Anchor, r0.Marks, r0.Commits, r0.Rhos, r0.Deposit, r0.Withdraw, r0.Fee, r0.Account, r0.Bind, ()))))) : tx_Statement_Body (p0.Anchor, p0.Marks, p0.Outs, p0.Deposit, p0.Withdraw, p0.Fee, p0.Account, p0.Nonce, p0.Expiry, p0.Proof, p1, ()) (r0.Depth, r0.Anchor, r0.Marks, r0.Commits, r0.Rhos, r0.Deposit, r0.Withdraw, r0.Fee, r0.Account, r0.Bind, ()) := WPh.of_eq (by kernel_rfl) h
def tx_Statement_B1 (r0 : TStatement) (k1 : Int → List Int → List Int → Prop) (s6 : Int) (s33 : List TOut) (s34 : Int) (h1_0 : Int) (h1_1 : Int) (h1_2 : List Int) (h1_3 : List Int) (h1_4 : List Int) (h1_5 : Int) (h1_6 : Int) (h1_7 : Int) (h1_8 : Int) (h1_9 : Int) (h70_0 : Int) (h70_1 : Int) (h70_2 : List Int) (h70_5 : Int) (h70_6 : Int) (h70_7 : Int) (h70_8 : Int) (h70_9 : Int) (s35 : Int) (g79 : List Int) (g78 : List Int) : Prop :=
(decide (s35 < s34) = true →
(0 ≤ s35) ∧ s35 < (s33.length : Int) ∧ g79.length = g79.length ∧ (g79.length + [(ix s33 s35).Commit].length) * 8 ≤ 140737488355328 ∧ g79.length + [(ix s33 s35).Commit].length ≤ maxLen ∧ (U64 s6 ∧ 0 ≤ s35 ∧ s35 ≤ 9223372036854775807) ∧ g78.length = g78.length ∧ (g78.length + [rhoS s6 s35].length) * 8 ≤ 140737488355328 ∧ g78.length + [rhoS s6 s35].length ≤ maxLen ∧ (g78 ++ [rhoS s6 s35] = g78 ++ [rhoS s6 s35]) ∧ (g79 ++ [(ix s33 s35).Commit] = g79 ++ [(ix s33 s35).Commit]) ∧ k1 (IntKind.i64.wrap (s35 + 1) : Int) (g79 ++ [(ix s33 s35).Commit] : List Int) (g78 ++ [rhoS s6 s35] : List Int)) ∧
(decide (s35 < s34) = false →
 h70_0 = r0.Depth ∧ h70_1 = r0.Anchor ∧ h70_2 = r0.Marks ∧ g79 = r0.Commits ∧ g78 = r0.Rhos ∧ h70_5 = r0.Deposit ∧ h70_6 = r0.Withdraw ∧ h70_7 = r0.Fee ∧ h70_8 = r0.Account ∧ h70_9 = r0.Bind)
set_option maxRecDepth 100000 in
theorem tx_Statement_lp1 {r0 : TStatement} {s6 : Int} {s33 : List TOut} {s34 : Int} {h1_0 : Int} {h1_1 : Int} {h1_2 : List Int} {h1_3 : List Int} {h1_4 : List Int} {h1_5 : Int} {h1_6 : Int} {h1_7 : Int} {h1_8 : Int} {h1_9 : Int} {h70_0 : Int} {h70_1 : Int} {h70_2 : List Int} {h70_5 : Int} {h70_6 : Int} {h70_7 : Int} {h70_8 : Int} {h70_9 : Int} {s35 : Int} {g79 : List Int} {g78 : List Int} (inv : Int → List Int → List Int → Prop) (μ : Int → List Int → List Int → Nat) (h0 : inv s35 g79 g78) (hs : ∀ (s35 : Int) (g79 : List Int) (g78 : List Int), inv s35 g79 g78 → tx_Statement_B1 r0 (fun s35q g79q g78q => inv s35q g79q g78q ∧ μ s35q g79q g78q < μ s35 g79 g78) s6 s33 s34 h1_0 h1_1 h1_2 h1_3 h1_4 h1_5 h1_6 h1_7 h1_8 h1_9 h70_0 h70_1 h70_2 h70_5 h70_6 h70_7 h70_8 h70_9 s35 g79 g78) : Md.Loop (s6, s33, s34, s35, h1_0, h1_1, h1_2, h1_3, h1_4, h1_5, h1_6, h1_7, h1_8, h1_9, h70_0, h70_1, h70_2, h70_5, h70_6, h70_7, h70_8, h70_9, g79, g78, ()) (tx_Statement_L1 (r0.Depth, r0.Anchor, r0.Marks, r0.Commits, r0.Rhos, r0.Deposit, r0.Withdraw, r0.Fee, r0.Account, r0.Bind, ())) :=
  ⟨⟨fun s : Int × (List TOut) × Int × Int × Int × Int × (List Int) × (List Int) × (List Int) × Int × Int × Int × Int × Int × Int × Int × (List Int) × Int × Int × Int × Int × Int × (List Int) × (List Int) × Unit => (s.1 = s6 ∧ s.2.1 = s33 ∧ s.2.2.1 = s34 ∧ s.2.2.2.2.1 = h1_0 ∧ s.2.2.2.2.2.1 = h1_1 ∧ s.2.2.2.2.2.2.1 = h1_2 ∧ s.2.2.2.2.2.2.2.1 = h1_3 ∧ s.2.2.2.2.2.2.2.2.1 = h1_4 ∧ s.2.2.2.2.2.2.2.2.2.1 = h1_5 ∧ s.2.2.2.2.2.2.2.2.2.2.1 = h1_6 ∧ s.2.2.2.2.2.2.2.2.2.2.2.1 = h1_7 ∧ s.2.2.2.2.2.2.2.2.2.2.2.2.1 = h1_8 ∧ s.2.2.2.2.2.2.2.2.2.2.2.2.2.1 = h1_9 ∧ s.2.2.2.2.2.2.2.2.2.2.2.2.2.2.1 = h70_0 ∧ s.2.2.2.2.2.2.2.2.2.2.2.2.2.2.2.1 = h70_1 ∧ s.2.2.2.2.2.2.2.2.2.2.2.2.2.2.2.2.1 = h70_2 ∧ s.2.2.2.2.2.2.2.2.2.2.2.2.2.2.2.2.2.1 = h70_5 ∧ s.2.2.2.2.2.2.2.2.2.2.2.2.2.2.2.2.2.2.1 = h70_6 ∧ s.2.2.2.2.2.2.2.2.2.2.2.2.2.2.2.2.2.2.2.1 = h70_7 ∧ s.2.2.2.2.2.2.2.2.2.2.2.2.2.2.2.2.2.2.2.2.1 = h70_8 ∧ s.2.2.2.2.2.2.2.2.2.2.2.2.2.2.2.2.2.2.2.2.2.1 = h70_9) ∧ inv s.2.2.2.1 s.2.2.2.2.2.2.2.2.2.2.2.2.2.2.2.2.2.2.2.2.2.2.1 s.2.2.2.2.2.2.2.2.2.2.2.2.2.2.2.2.2.2.2.2.2.2.2.1, fun s : Int × (List TOut) × Int × Int × Int × Int × (List Int) × (List Int) × (List Int) × Int × Int × Int × Int × Int × Int × Int × (List Int) × Int × Int × Int × Int × Int × (List Int) × (List Int) × Unit => μ s.2.2.2.1 s.2.2.2.2.2.2.2.2.2.2.2.2.2.2.2.2.2.2.2.2.2.2.1 s.2.2.2.2.2.2.2.2.2.2.2.2.2.2.2.2.2.2.2.2.2.2.2.1, ⟨⟨rfl, rfl, rfl, rfl, rfl, rfl, rfl, rfl, rfl, rfl, rfl, rfl, rfl, rfl, rfl, rfl, rfl, rfl, rfl, rfl, rfl⟩, h0⟩, fun (s6p, s33p, s34p, s35p, h1_0p, h1_1p, h1_2p, h1_3p, h1_4p, h1_5p, h1_6p, h1_7p, h1_8p, h1_9p, h70_0p, h70_1p, h70_2p, h70_5p, h70_6p, h70_7p, h70_8p, h70_9p, g79p, g78p, ()) ⟨⟨eq0, eq1, eq2, eq3, eq4, eq5, eq6, eq7, eq8, eq9, eq10, eq11, eq12, eq13, eq14, eq15, eq16, eq17, eq18, eq19, eq20⟩, hi⟩ => by
    have eq0 : s6p = s6 := eq0; subst s6p; have eq1 : s33p = s33 := eq1; subst s33p; have eq2 : s34p = s34 := eq2; subst s34p; have eq3 : h1_0p = h1_0 := eq3; subst h1_0p; have eq4 : h1_1p = h1_1 := eq4; subst h1_1p; have eq5 : h1_2p = h1_2 := eq5; subst h1_2p; have eq6 : h1_3p = h1_3 := eq6; subst h1_3p; have eq7 : h1_4p = h1_4 := eq7; subst h1_4p; have eq8 : h1_5p = h1_5 := eq8; subst h1_5p; have eq9 : h1_6p = h1_6 := eq9; subst h1_6p; have eq10 : h1_7p = h1_7 := eq10; subst h1_7p; have eq11 : h1_8p = h1_8 := eq11; subst h1_8p; have eq12 : h1_9p = h1_9 := eq12; subst h1_9p; have eq13 : h70_0p = h70_0 := eq13; subst h70_0p; have eq14 : h70_1p = h70_1 := eq14; subst h70_1p; have eq15 : h70_2p = h70_2 := eq15; subst h70_2p; have eq16 : h70_5p = h70_5 := eq16; subst h70_5p; have eq17 : h70_6p = h70_6 := eq17; subst h70_6p; have eq18 : h70_7p = h70_7 := eq18; subst h70_7p; have eq19 : h70_8p = h70_8 := eq19; subst h70_8p; have eq20 : h70_9p = h70_9 := eq20; subst h70_9p; exact mpr_of (by kernel_rfl) ((congrArg (fun k => tx_Statement_B1 r0 k s6 s33 s34 h1_0 h1_1 h1_2 h1_3 h1_4 h1_5 h1_6 h1_7 h1_8 h1_9 h70_0 h70_1 h70_2 h70_5 h70_6 h70_7 h70_8 h70_9 s35p g79p g78p) (lpk3 (⟨rfl, rfl, rfl, rfl, rfl, rfl, rfl, rfl, rfl, rfl, rfl, rfl, rfl, rfl, rfl, rfl, rfl, rfl, rfl, rfl, rfl⟩ : s6 = s6 ∧ s33 = s33 ∧ s34 = s34 ∧ h1_0 = h1_0 ∧ h1_1 = h1_1 ∧ h1_2 = h1_2 ∧ h1_3 = h1_3 ∧ h1_4 = h1_4 ∧ h1_5 = h1_5 ∧ h1_6 = h1_6 ∧ h1_7 = h1_7 ∧ h1_8 = h1_8 ∧ h1_9 = h1_9 ∧ h70_0 = h70_0 ∧ h70_1 = h70_1 ∧ h70_2 = h70_2 ∧ h70_5 = h70_5 ∧ h70_6 = h70_6 ∧ h70_7 = h70_7 ∧ h70_8 = h70_8 ∧ h70_9 = h70_9) inv (fun s35q g79q g78q => μ s35q g79q g78q < μ s35p g79p g78p))).mpr (hs s35p g79p g78p hi))⟩⟩
theorem bd23 : Callable Try.prog 23 := ⟨by rw [Try.func23]; kernel_rfl, by rw [Try.func23]; show some _ ≠ some _; decide⟩
theorem tx_Statement_body (p0 : TTx) (p1 : Int) (h : TR p0 ∧ -9223372036854775808 ≤ p1 ∧ p1 ≤ 9223372036854775807) : tx_Statement_Body (p0.Anchor, p0.Marks, p0.Outs, p0.Deposit, p0.Withdraw, p0.Fee, p0.Account, p0.Nonce, p0.Expiry, p0.Proof, p1, ()) (((stmtS p0 p1).Depth : Int), ((stmtS p0 p1).Anchor : Int), ((stmtS p0 p1).Marks : List Int), ((stmtS p0 p1).Commits : List Int), ((stmtS p0 p1).Rhos : List Int), ((stmtS p0 p1).Deposit : Int), ((stmtS p0 p1).Withdraw : Int), ((stmtS p0 p1).Fee : Int), ((stmtS p0 p1).Account : Int), ((stmtS p0 p1).Bind : Int), ()) := by
  obtain ⟨hr, hd⟩ := h
  refine tx_Statement_in ?_
  refine ⟨fun e => ?_, fun e => ?_⟩
  · have e : validE p0 ≠ 0 := by simpa using e
    unfold stmtS
    rw [if_neg e]
    exact ⟨rfl, rfl, rfl, rfl, rfl, rfl, rfl, rfl, rfl, rfl⟩
  · have e : validE p0 = 0 := by simpa using e
    have v := (validE_zero _).1 e
    have vo := v.ol
    have hor := originS_u64 hr
    have es : stmtS p0 p1 = ⟨p1, p0.Anchor, p0.Marks, p0.Outs.map (·.Commit), (List.range p0.Outs.length).map (fun i : Nat => rhoS (originS p0) (i : Int)), p0.Deposit, p0.Withdraw, p0.Fee, p0.Account, bindS p0⟩ := by unfold stmtS; rw [if_pos e]
    refine ⟨by have := v.ml; omega, hr, hr, rfl, rfl, ?_⟩
    refine tx_Statement_lp1 (r0 := stmtS p0 p1) (fun i g g' => 0 ≤ i ∧ i ≤ p0.Outs.length ∧ g = (p0.Outs.take i.toNat).map (·.Commit) ∧ g' = (List.range i.toNat).map (fun i : Nat => rhoS (originS p0) (i : Int))) (fun i _ _ => (p0.Outs.length - i).toNat) ⟨by omega, by omega, by simp, by simp⟩ ?_
    rintro i g g' ⟨g0, g1, rfl, rfl⟩
    refine ⟨fun hh => ?_, fun hh => ?_⟩
    · have hh := of_decide_eq_true hh
      rw [inc i p0.Outs.length g0 hh (by omega)]
      refine ⟨g0, hh, rfl, by simp; omega, by simp; unfold maxLen; omega, ⟨hor, by omega, by omega⟩, rfl, by simp; omega, by simp; unfold maxLen; omega, rfl, rfl, ⟨by omega, by omega, ?_, ?_⟩, by omega⟩
      · rw [take_succ_ix p0.Outs i g0 hh]
        simp
      · rw [show (i + 1).toNat = i.toNat + 1 by omega, List.range_succ]
        simp [show max i 0 = i by omega]
    · have hh := of_decide_eq_false hh
      rw [List.take_of_length_le (by omega), show i.toNat = p0.Outs.length by omega]
      rw [es]
      exact ⟨rfl, rfl, rfl, rfl, rfl, rfl, rfl, rfl, rfl, rfl⟩
noncomputable def tx_Statement_con : Con TB.den := tx_Statement_sh.fnR (fun x => (fun (p0 : TTx) (p1 : Int) => TR p0 ∧ -9223372036854775808 ≤ p1 ∧ p1 ≤ 9223372036854775807) (TTx.mk x.1 x.2.1 x.2.2.1 x.2.2.2.1 x.2.2.2.2.1 x.2.2.2.2.2.1 x.2.2.2.2.2.2.1 x.2.2.2.2.2.2.2.1 x.2.2.2.2.2.2.2.2.1 x.2.2.2.2.2.2.2.2.2.1) x.2.2.2.2.2.2.2.2.2.2.1) fun x => ((fun (p0 : TTx) (p1 : Int) => ((stmtS p0 p1).Depth : Int)) (TTx.mk x.1 x.2.1 x.2.2.1 x.2.2.2.1 x.2.2.2.2.1 x.2.2.2.2.2.1 x.2.2.2.2.2.2.1 x.2.2.2.2.2.2.2.1 x.2.2.2.2.2.2.2.2.1 x.2.2.2.2.2.2.2.2.2.1) x.2.2.2.2.2.2.2.2.2.2.1, (fun (p0 : TTx) (p1 : Int) => ((stmtS p0 p1).Anchor : Int)) (TTx.mk x.1 x.2.1 x.2.2.1 x.2.2.2.1 x.2.2.2.2.1 x.2.2.2.2.2.1 x.2.2.2.2.2.2.1 x.2.2.2.2.2.2.2.1 x.2.2.2.2.2.2.2.2.1 x.2.2.2.2.2.2.2.2.2.1) x.2.2.2.2.2.2.2.2.2.2.1, (fun (p0 : TTx) (p1 : Int) => ((stmtS p0 p1).Marks : List Int)) (TTx.mk x.1 x.2.1 x.2.2.1 x.2.2.2.1 x.2.2.2.2.1 x.2.2.2.2.2.1 x.2.2.2.2.2.2.1 x.2.2.2.2.2.2.2.1 x.2.2.2.2.2.2.2.2.1 x.2.2.2.2.2.2.2.2.2.1) x.2.2.2.2.2.2.2.2.2.2.1, (fun (p0 : TTx) (p1 : Int) => ((stmtS p0 p1).Commits : List Int)) (TTx.mk x.1 x.2.1 x.2.2.1 x.2.2.2.1 x.2.2.2.2.1 x.2.2.2.2.2.1 x.2.2.2.2.2.2.1 x.2.2.2.2.2.2.2.1 x.2.2.2.2.2.2.2.2.1 x.2.2.2.2.2.2.2.2.2.1) x.2.2.2.2.2.2.2.2.2.2.1, (fun (p0 : TTx) (p1 : Int) => ((stmtS p0 p1).Rhos : List Int)) (TTx.mk x.1 x.2.1 x.2.2.1 x.2.2.2.1 x.2.2.2.2.1 x.2.2.2.2.2.1 x.2.2.2.2.2.2.1 x.2.2.2.2.2.2.2.1 x.2.2.2.2.2.2.2.2.1 x.2.2.2.2.2.2.2.2.2.1) x.2.2.2.2.2.2.2.2.2.2.1, (fun (p0 : TTx) (p1 : Int) => ((stmtS p0 p1).Deposit : Int)) (TTx.mk x.1 x.2.1 x.2.2.1 x.2.2.2.1 x.2.2.2.2.1 x.2.2.2.2.2.1 x.2.2.2.2.2.2.1 x.2.2.2.2.2.2.2.1 x.2.2.2.2.2.2.2.2.1 x.2.2.2.2.2.2.2.2.2.1) x.2.2.2.2.2.2.2.2.2.2.1, (fun (p0 : TTx) (p1 : Int) => ((stmtS p0 p1).Withdraw : Int)) (TTx.mk x.1 x.2.1 x.2.2.1 x.2.2.2.1 x.2.2.2.2.1 x.2.2.2.2.2.1 x.2.2.2.2.2.2.1 x.2.2.2.2.2.2.2.1 x.2.2.2.2.2.2.2.2.1 x.2.2.2.2.2.2.2.2.2.1) x.2.2.2.2.2.2.2.2.2.2.1, (fun (p0 : TTx) (p1 : Int) => ((stmtS p0 p1).Fee : Int)) (TTx.mk x.1 x.2.1 x.2.2.1 x.2.2.2.1 x.2.2.2.2.1 x.2.2.2.2.2.1 x.2.2.2.2.2.2.1 x.2.2.2.2.2.2.2.1 x.2.2.2.2.2.2.2.2.1 x.2.2.2.2.2.2.2.2.2.1) x.2.2.2.2.2.2.2.2.2.2.1, (fun (p0 : TTx) (p1 : Int) => ((stmtS p0 p1).Account : Int)) (TTx.mk x.1 x.2.1 x.2.2.1 x.2.2.2.1 x.2.2.2.2.1 x.2.2.2.2.2.1 x.2.2.2.2.2.2.1 x.2.2.2.2.2.2.2.1 x.2.2.2.2.2.2.2.2.1 x.2.2.2.2.2.2.2.2.2.1) x.2.2.2.2.2.2.2.2.2.2.1, (fun (p0 : TTx) (p1 : Int) => ((stmtS p0 p1).Bind : Int)) (TTx.mk x.1 x.2.1 x.2.2.1 x.2.2.2.1 x.2.2.2.2.1 x.2.2.2.2.2.1 x.2.2.2.2.2.2.1 x.2.2.2.2.2.2.2.1 x.2.2.2.2.2.2.2.2.1 x.2.2.2.2.2.2.2.2.2.1) x.2.2.2.2.2.2.2.2.2.2.1, ())
theorem tx_Statement_ok : tx_Statement_con.Ok Try.prog TB := Con.ok_fn tx_Statement_sh bd23 fun x h => tx_Statement_snd (tx_Statement_body (TTx.mk x.1 x.2.1 x.2.2.1 x.2.2.2.1 x.2.2.2.2.1 x.2.2.2.2.2.1 x.2.2.2.2.2.2.1 x.2.2.2.2.2.2.2.1 x.2.2.2.2.2.2.2.2.1 x.2.2.2.2.2.2.2.2.2.1) x.2.2.2.2.2.2.2.2.2.2.1 h)
end Go.Proofs.Ytdbnagpoknmoiaa
namespace Go.Proofs.Ytdbnagpoknmoiaa
open Go Go.Bv Go.Cv Go.Md Go.RowKit
def l41_TxBindIgnoresProof_sh : Con TB.den := Con.mk0 7 [.agg [.d (.int .u64), .d (.sl (.int .u64)), .d (.sl (.st 0)), .d (.int .u64), .d (.int .u64), .d (.int .u64), .d (.int .u64), .d (.int .u64), .d (.int .i64), .d (.sl (.int .u8))], .one (.d (.sl (.int .u8)))] [] (.one (.one (.d (.bool)))) []
abbrev l41_TxBindIgnoresProof_I := HL TB.den (hsT l41_TxBindIgnoresProof_sh.ins (hsOs l41_TxBindIgnoresProof_sh.pre))
abbrev l41_TxBindIgnoresProof_O := HL TB.den (hsV l41_TxBindIgnoresProof_sh.res (hsOs l41_TxBindIgnoresProof_sh.post))
noncomputable def l41_TxBindIgnoresProof_cx : Cx TB := ⟨inf, [l41_awake_con, l41_small_con, r41_Valid_con, l41_copied_con, tx_Bind_con, tx_Origin_con, tx_Statement_con, r41_SameStatement_con, tx_Shape_con, tx_Weight_con], [], 4⟩
noncomputable def l41_TxBindIgnoresProof_code : Code := Try.f7.body.getD .skip
noncomputable def l41_TxBindIgnoresProof_rs : List ResultVar := Try.f7.results.toList
noncomputable def l41_TxBindIgnoresProof_Q1 (o : l41_TxBindIgnoresProof_O) : Exit → TSt TB.den → Prop := thenT TB (fun s => ghs TB [] s fun s => WP TB l41_TxBindIgnoresProof_cx 70 0 (cB (cB l41_TxBindIgnoresProof_code)) .no s (retTQ TB l41_TxBindIgnoresProof_cx l41_TxBindIgnoresProof_sh l41_TxBindIgnoresProof_rs o)) (retTQ TB l41_TxBindIgnoresProof_cx l41_TxBindIgnoresProof_sh l41_TxBindIgnoresProof_rs o)
def l41_TxBindIgnoresProof_TJ1 : Tm := ⟨[0], [.cells [.d (.int .u64), .d (.sl (.int .u64)), .d (.sl (.st 0)), .d (.int .u64), .d (.int .u64), .d (.int .u64), .d (.int .u64), .d (.int .u64), .d (.int .i64), .d (.sl (.int .u8))]], [1, 2, 22], [.one (.d (.sl (.int .u8))), .one (.ptr 0 0), .one (.d (.bool))], 1⟩
noncomputable def l41_TxBindIgnoresProof_J1d (o : l41_TxBindIgnoresProof_O) (i : HL TB.den l41_TxBindIgnoresProof_TJ1.hs) : Prop := ghs TB [] (l41_TxBindIgnoresProof_TJ1.fill TB i) fun s => WP TB l41_TxBindIgnoresProof_cx 70 0 (cB (cA (cB l41_TxBindIgnoresProof_code))) .no s (l41_TxBindIgnoresProof_Q1 o)
structure l41_TxBindIgnoresProof_J1 (o : l41_TxBindIgnoresProof_O) (i : HL TB.den l41_TxBindIgnoresProof_TJ1.hs) : Prop where
  h : l41_TxBindIgnoresProof_J1d o i
noncomputable def l41_TxBindIgnoresProof_A3 (o : l41_TxBindIgnoresProof_O) : An TB := .jn l41_TxBindIgnoresProof_TJ1 (l41_TxBindIgnoresProof_J1 o) [] .no [] .no
noncomputable def l41_TxBindIgnoresProof_an (o : l41_TxBindIgnoresProof_O) : An TB := .nd [] .no [] (.nd [] (l41_TxBindIgnoresProof_A3 o) [] .no)
noncomputable def l41_TxBindIgnoresProof_Body (x : l41_TxBindIgnoresProof_I) (o : l41_TxBindIgnoresProof_O) : Prop := WPh TB l41_TxBindIgnoresProof_cx 70 0 l41_TxBindIgnoresProof_code (l41_TxBindIgnoresProof_an o) (l41_TxBindIgnoresProof_sh.st TB x) (retTQ TB l41_TxBindIgnoresProof_cx l41_TxBindIgnoresProof_sh l41_TxBindIgnoresProof_rs o)
set_option maxRecDepth 100000 in
theorem l41_TxBindIgnoresProof_obl (o : l41_TxBindIgnoresProof_O) : OblH TB l41_TxBindIgnoresProof_cx 70 0 l41_TxBindIgnoresProof_code (l41_TxBindIgnoresProof_an o) (retTQ TB l41_TxBindIgnoresProof_cx l41_TxBindIgnoresProof_sh l41_TxBindIgnoresProof_rs o) :=
  OblH.of_eq (X := (True ∧ ((True ∧ (∀ i, (l41_TxBindIgnoresProof_J1 o) i = (l41_TxBindIgnoresProof_J1d o) i) ∧ ((True ∧ True) ∧ True)) ∧ (True ∧ (True ∧ (True ∧ True)))))) (by kernel_rfl) ⟨trivial, ⟨⟨trivial, fun _ => propext ⟨fun h => h.1, fun h => ⟨h⟩⟩, ⟨⟨trivial, trivial⟩, trivial⟩⟩, ⟨trivial, ⟨trivial, ⟨trivial, trivial⟩⟩⟩⟩⟩
set_option maxRecDepth 100000 in
theorem l41_TxBindIgnoresProof_snd {x : l41_TxBindIgnoresProof_I} {o : l41_TxBindIgnoresProof_O} (h : l41_TxBindIgnoresProof_Body x o) : SoundH Try.prog l41_TxBindIgnoresProof_sh.f ((l41_TxBindIgnoresProof_sh.args idf x).map (er TB)) ((l41_TxBindIgnoresProof_sh.obs idf x).map (erO TB)) (er TB (l41_TxBindIgnoresProof_sh.val idf o)) ((l41_TxBindIgnoresProof_sh.ops idf o).map (erO TB)) :=
  Con.soundH (c := l41_TxBindIgnoresProof_sh) (C := l41_TxBindIgnoresProof_cx) TBok ⟨inf_ok, (all_cons l41_awake_ok (all_cons l41_small_ok (all_cons r41_Valid_ok (all_cons l41_copied_ok (all_cons tx_Bind_ok (all_cons tx_Origin_ok (all_cons tx_Statement_ok (all_cons r41_SameStatement_ok (all_cons tx_Shape_ok (all_cons tx_Weight_ok all_nil)))))))))), all_nil⟩ mix Try.func7 (show Try.f7.body = some l41_TxBindIgnoresProof_code by kernel_rfl) (show Try.f7.ntmps = 70 by kernel_rfl) (show Try.f7.results.toList = l41_TxBindIgnoresProof_rs by kernel_rfl) rfl h (l41_TxBindIgnoresProof_obl o)
set_option maxRecDepth 100000 in
theorem l41_TxBindIgnoresProof_in {p0 : TTx} {p1 : List Int} {r0 : Bool} (h :
(((!true) = true →
 l41_TxBindIgnoresProof_J1 (r0, ()) (p1, true, p0.Anchor, p0.Marks, p0.Outs, p0.Deposit, p0.Withdraw, p0.Fee, p0.Account, p0.Nonce, p0.Expiry, p0.Proof, ())) ∧
((!true) = false →
(p0.Outs.length ≤ 9223372036854775807) ∧ ((!smallB p0 300) = true →
 l41_TxBindIgnoresProof_J1 (r0, ()) (p1, true, p0.Anchor, p0.Marks, p0.Outs, p0.Deposit, p0.Withdraw, p0.Fee, p0.Account, p0.Nonce, p0.Expiry, p0.Proof, ())) ∧
((!smallB p0 300) = false →
(decide (300 < (p1.length : Int)) = true →
 l41_TxBindIgnoresProof_J1 (r0, ()) (p1, true, p0.Anchor, p0.Marks, p0.Outs, p0.Deposit, p0.Withdraw, p0.Fee, p0.Account, p0.Nonce, p0.Expiry, p0.Proof, ())) ∧
(decide (300 < (p1.length : Int)) = false →
(TR p0 ∧ TL p0) ∧ l41_TxBindIgnoresProof_J1 (r0, ()) (p1, (((validE p0) != 0) : Bool), p0.Anchor, p0.Marks, p0.Outs, p0.Deposit, p0.Withdraw, p0.Fee, p0.Account, p0.Nonce, p0.Expiry, p0.Proof, ())))))) : l41_TxBindIgnoresProof_Body (p0.Anchor, p0.Marks, p0.Outs, p0.Deposit, p0.Withdraw, p0.Fee, p0.Account, p0.Nonce, p0.Expiry, p0.Proof, p1, ()) (r0, ()) := WPh.of_eq (by kernel_rfl) h
set_option maxRecDepth 100000 in
theorem l41_TxBindIgnoresProof_J1_in {r0 : Bool} {s1 : List Int} {s22 : Bool} {h0_0 : Int} {h0_1 : List Int} {h0_2 : List TOut} {h0_3 : Int} {h0_4 : Int} {h0_5 : Int} {h0_6 : Int} {h0_7 : Int} {h0_8 : Int} {h0_9 : List Int} (h :
((s22 = true →
 true = r0) ∧
(s22 = false →
(TL (TTx.mk h0_0 h0_1 h0_2 h0_3 h0_4 h0_5 h0_6 h0_7 h0_8 h0_9)) ∧ (([] : List Int).length + s1.length) * 1 ≤ 140737488355328 ∧ ([] : List Int).length + s1.length ≤ maxLen ∧ (TR (TTx.mk h0_0 h0_1 h0_2 h0_3 h0_4 h0_5 h0_6 h0_7 h0_8 h0_9)) ∧ let r1 : Int := bindS (TTx.mk h0_0 h0_1 h0_2 h0_3 h0_4 h0_5 h0_6 h0_7 h0_8 h0_9)
(TR (TTx.mk h0_0 h0_1 h0_2 h0_3 h0_4 h0_5 h0_6 h0_7 h0_8 (([] : List Int) ++ s1))) ∧ let r2 : Int := bindS (TTx.mk h0_0 h0_1 h0_2 h0_3 h0_4 h0_5 h0_6 h0_7 h0_8 (([] : List Int) ++ s1))
((r1 == r2) = true →
(TR (TTx.mk h0_0 h0_1 h0_2 h0_3 h0_4 h0_5 h0_6 h0_7 h0_8 h0_9)) ∧ let r3 : Int := originS (TTx.mk h0_0 h0_1 h0_2 h0_3 h0_4 h0_5 h0_6 h0_7 h0_8 h0_9)
(TR (TTx.mk h0_0 h0_1 h0_2 h0_3 h0_4 h0_5 h0_6 h0_7 h0_8 (([] : List Int) ++ s1))) ∧ let r4 : Int := originS (TTx.mk h0_0 h0_1 h0_2 h0_3 h0_4 h0_5 h0_6 h0_7 h0_8 (([] : List Int) ++ s1))
((r3 == r4) = true →
(TR (TTx.mk h0_0 h0_1 h0_2 h0_3 h0_4 h0_5 h0_6 h0_7 h0_8 h0_9) ∧ -9223372036854775808 ≤ (3 : Int) ∧ (3 : Int) ≤ 9223372036854775807) ∧ let r5 : Int := (stmtS (TTx.mk h0_0 h0_1 h0_2 h0_3 h0_4 h0_5 h0_6 h0_7 h0_8 h0_9) (3 : Int)).Depth
 let r6 : Int := (stmtS (TTx.mk h0_0 h0_1 h0_2 h0_3 h0_4 h0_5 h0_6 h0_7 h0_8 h0_9) (3 : Int)).Anchor
 let r7 : List Int := (stmtS (TTx.mk h0_0 h0_1 h0_2 h0_3 h0_4 h0_5 h0_6 h0_7 h0_8 h0_9) (3 : Int)).Marks
 let r8 : List Int := (stmtS (TTx.mk h0_0 h0_1 h0_2 h0_3 h0_4 h0_5 h0_6 h0_7 h0_8 h0_9) (3 : Int)).Commits
 let r9 : List Int := (stmtS (TTx.mk h0_0 h0_1 h0_2 h0_3 h0_4 h0_5 h0_6 h0_7 h0_8 h0_9) (3 : Int)).Rhos
 let r10 : Int := (stmtS (TTx.mk h0_0 h0_1 h0_2 h0_3 h0_4 h0_5 h0_6 h0_7 h0_8 h0_9) (3 : Int)).Deposit
 let r11 : Int := (stmtS (TTx.mk h0_0 h0_1 h0_2 h0_3 h0_4 h0_5 h0_6 h0_7 h0_8 h0_9) (3 : Int)).Withdraw
 let r12 : Int := (stmtS (TTx.mk h0_0 h0_1 h0_2 h0_3 h0_4 h0_5 h0_6 h0_7 h0_8 h0_9) (3 : Int)).Fee
 let r13 : Int := (stmtS (TTx.mk h0_0 h0_1 h0_2 h0_3 h0_4 h0_5 h0_6 h0_7 h0_8 h0_9) (3 : Int)).Account
 let r14 : Int := (stmtS (TTx.mk h0_0 h0_1 h0_2 h0_3 h0_4 h0_5 h0_6 h0_7 h0_8 h0_9) (3 : Int)).Bind
(TR (TTx.mk h0_0 h0_1 h0_2 h0_3 h0_4 h0_5 h0_6 h0_7 h0_8 (([] : List Int) ++ s1)) ∧ -9223372036854775808 ≤ (3 : Int) ∧ (3 : Int) ≤ 9223372036854775807) ∧ let r15 : Int := (stmtS (TTx.mk h0_0 h0_1 h0_2 h0_3 h0_4 h0_5 h0_6 h0_7 h0_8 (([] : List Int) ++ s1)) (3 : Int)).Depth
 let r16 : Int := (stmtS (TTx.mk h0_0 h0_1 h0_2 h0_3 h0_4 h0_5 h0_6 h0_7 h0_8 (([] : List Int) ++ s1)) (3 : Int)).Anchor
 let r17 : List Int := (stmtS (TTx.mk h0_0 h0_1 h0_2 h0_3 h0_4 h0_5 h0_6 h0_7 h0_8 (([] : List Int) ++ s1)) (3 : Int)).Marks
 let r18 : List Int := (stmtS (TTx.mk h0_0 h0_1 h0_2 h0_3 h0_4 h0_5 h0_6 h0_7 h0_8 (([] : List Int) ++ s1)) (3 : Int)).Commits
 let r19 : List Int := (stmtS (TTx.mk h0_0 h0_1 h0_2 h0_3 h0_4 h0_5 h0_6 h0_7 h0_8 (([] : List Int) ++ s1)) (3 : Int)).Rhos
 let r20 : Int := (stmtS (TTx.mk h0_0 h0_1 h0_2 h0_3 h0_4 h0_5 h0_6 h0_7 h0_8 (([] : List Int) ++ s1)) (3 : Int)).Deposit
 let r21 : Int := (stmtS (TTx.mk h0_0 h0_1 h0_2 h0_3 h0_4 h0_5 h0_6 h0_7 h0_8 (([] : List Int) ++ s1)) (3 : Int)).Withdraw
 let r22 : Int := (stmtS (TTx.mk h0_0 h0_1 h0_2 h0_3 h0_4 h0_5 h0_6 h0_7 h0_8 (([] : List Int) ++ s1)) (3 : Int)).Fee
 let r23 : Int := (stmtS (TTx.mk h0_0 h0_1 h0_2 h0_3 h0_4 h0_5 h0_6 h0_7 h0_8 (([] : List Int) ++ s1)) (3 : Int)).Account
 let r24 : Int := (stmtS (TTx.mk h0_0 h0_1 h0_2 h0_3 h0_4 h0_5 h0_6 h0_7 h0_8 (([] : List Int) ++ s1)) (3 : Int)).Bind
((TStatement.mk r5 r6 r7 r8 r9 r10 r11 r12 r13 r14).Marks.length ≤ 9223372036854775807 ∧ (TStatement.mk r5 r6 r7 r8 r9 r10 r11 r12 r13 r14).Commits.length ≤ 9223372036854775807 ∧ (TStatement.mk r5 r6 r7 r8 r9 r10 r11 r12 r13 r14).Rhos.length ≤ 9223372036854775807) ∧ let r25 : Bool := decide ((TStatement.mk r5 r6 r7 r8 r9 r10 r11 r12 r13 r14) = (TStatement.mk r15 r16 r17 r18 r19 r20 r21 r22 r23 r24))
(r25 = true →
 let r26 : Int := (shapeS (TTx.mk h0_0 h0_1 h0_2 h0_3 h0_4 h0_5 h0_6 h0_7 h0_8 h0_9)).Inputs
 let r27 : Int := (shapeS (TTx.mk h0_0 h0_1 h0_2 h0_3 h0_4 h0_5 h0_6 h0_7 h0_8 h0_9)).Outputs
 let r28 : Int := (shapeS (TTx.mk h0_0 h0_1 h0_2 h0_3 h0_4 h0_5 h0_6 h0_7 h0_8 h0_9)).Deposit
 let r29 : Int := (shapeS (TTx.mk h0_0 h0_1 h0_2 h0_3 h0_4 h0_5 h0_6 h0_7 h0_8 h0_9)).Withdraw
 let r30 : Int := (shapeS (TTx.mk h0_0 h0_1 h0_2 h0_3 h0_4 h0_5 h0_6 h0_7 h0_8 h0_9)).Fee
 let r31 : Int := (shapeS (TTx.mk h0_0 h0_1 h0_2 h0_3 h0_4 h0_5 h0_6 h0_7 h0_8 h0_9)).Account
 let r32 : Int := (shapeS (TTx.mk h0_0 h0_1 h0_2 h0_3 h0_4 h0_5 h0_6 h0_7 h0_8 h0_9)).Nonce
 let r33 : Int := (shapeS (TTx.mk h0_0 h0_1 h0_2 h0_3 h0_4 h0_5 h0_6 h0_7 h0_8 h0_9)).Expiry
 let r34 : Int := (shapeS (TTx.mk h0_0 h0_1 h0_2 h0_3 h0_4 h0_5 h0_6 h0_7 h0_8 (([] : List Int) ++ s1))).Inputs
 let r35 : Int := (shapeS (TTx.mk h0_0 h0_1 h0_2 h0_3 h0_4 h0_5 h0_6 h0_7 h0_8 (([] : List Int) ++ s1))).Outputs
 let r36 : Int := (shapeS (TTx.mk h0_0 h0_1 h0_2 h0_3 h0_4 h0_5 h0_6 h0_7 h0_8 (([] : List Int) ++ s1))).Deposit
 let r37 : Int := (shapeS (TTx.mk h0_0 h0_1 h0_2 h0_3 h0_4 h0_5 h0_6 h0_7 h0_8 (([] : List Int) ++ s1))).Withdraw
 let r38 : Int := (shapeS (TTx.mk h0_0 h0_1 h0_2 h0_3 h0_4 h0_5 h0_6 h0_7 h0_8 (([] : List Int) ++ s1))).Fee
 let r39 : Int := (shapeS (TTx.mk h0_0 h0_1 h0_2 h0_3 h0_4 h0_5 h0_6 h0_7 h0_8 (([] : List Int) ++ s1))).Account
 let r40 : Int := (shapeS (TTx.mk h0_0 h0_1 h0_2 h0_3 h0_4 h0_5 h0_6 h0_7 h0_8 (([] : List Int) ++ s1))).Nonce
 let r41 : Int := (shapeS (TTx.mk h0_0 h0_1 h0_2 h0_3 h0_4 h0_5 h0_6 h0_7 h0_8 (([] : List Int) ++ s1))).Expiry
 let v42 : Bool := ((r26 == r34) && ((r27 == r35) && ((r28 == r36) && ((r29 == r37) && ((r30 == r38) && ((r31 == r39) && ((r32 == r40) && ((r33 == r41) && true))))))))
(v42 = true →
(TR (TTx.mk h0_0 h0_1 h0_2 h0_3 h0_4 h0_5 h0_6 h0_7 h0_8 h0_9)) ∧ let r43 : Int := weightS (TTx.mk h0_0 h0_1 h0_2 h0_3 h0_4 h0_5 h0_6 h0_7 h0_8 h0_9)
 let v44 : Int := IntKind.i64.wrap (r43 - (h0_9.length : Int))
(TR (TTx.mk h0_0 h0_1 h0_2 h0_3 h0_4 h0_5 h0_6 h0_7 h0_8 (([] : List Int) ++ s1))) ∧ let r45 : Int := weightS (TTx.mk h0_0 h0_1 h0_2 h0_3 h0_4 h0_5 h0_6 h0_7 h0_8 (([] : List Int) ++ s1))
 let v46 : Int := IntKind.i64.wrap (r45 - (s1.length : Int))
(v44 == v46) = r0) ∧
(v42 = false →
 false = r0)) ∧
(r25 = false →
 false = r0)) ∧
((r3 == r4) = false →
 false = r0)) ∧
((r1 == r2) = false →
 false = r0)))) : l41_TxBindIgnoresProof_J1 (r0, ()) (s1, s22, h0_0, h0_1, h0_2, h0_3, h0_4, h0_5, h0_6, h0_7, h0_8, h0_9, ()) := ⟨mpr_of (by kernel_rfl) h⟩
theorem l41_TxBindIgnoresProof_body (p0 : TTx) (p1 : List Int) (h : TR p0 ∧ p0.Outs.length ≤ 9223372036854775807 ∧ By p1 ∧ p1.length ≤ 9223372036854775807) : l41_TxBindIgnoresProof_Body (p0.Anchor, p0.Marks, p0.Outs, p0.Deposit, p0.Withdraw, p0.Fee, p0.Account, p0.Nonce, p0.Expiry, p0.Proof, p1, ()) ((true : Bool), ()) := by
  obtain ⟨hr, hl, hb, hbl⟩ := h
  have j1 : ∀ s, (s = false → smallB p0 300 = true ∧ p1.length ≤ 300 ∧ validE p0 = 0) → l41_TxBindIgnoresProof_J1 (true, ()) (p1, s, p0.Anchor, p0.Marks, p0.Outs, p0.Deposit, p0.Withdraw, p0.Fee, p0.Account, p0.Nonce, p0.Expiry, p0.Proof, ()) := by
    intro s hs
    refine l41_TxBindIgnoresProof_J1_in ⟨fun _ => rfl, fun h => ?_⟩
    obtain ⟨h1, h2, h3⟩ := hs h
    have sl := small_le h1
    have tl := small_tl h1
    have v := (validE_zero _).1 h3
    have v' : VT ⟨p0.Anchor, p0.Marks, p0.Outs, p0.Deposit, p0.Withdraw, p0.Fee, p0.Account, p0.Nonce, p0.Expiry, [] ++ p1⟩ := ⟨v.ml, v.m, v.mn, v.ol, v.o, v.am, v.re, by simp; omega⟩
    have h3' := (validE_zero _).2 v'
    have hr' : TR ⟨p0.Anchor, p0.Marks, p0.Outs, p0.Deposit, p0.Withdraw, p0.Fee, p0.Account, p0.Nonce, p0.Expiry, [] ++ p1⟩ := ⟨hr.a, hr.m, hr.o, hr.d, hr.w, hr.f, hr.ac, hr.n, hr.e, hb⟩
    have eb : bindS ⟨p0.Anchor, p0.Marks, p0.Outs, p0.Deposit, p0.Withdraw, p0.Fee, p0.Account, p0.Nonce, p0.Expiry, [] ++ p1⟩ = bindS p0 := by unfold bindS; rw [if_pos h3', if_pos h3]; rfl
    have eo : originS ⟨p0.Anchor, p0.Marks, p0.Outs, p0.Deposit, p0.Withdraw, p0.Fee, p0.Account, p0.Nonce, p0.Expiry, [] ++ p1⟩ = originS p0 := by unfold originS; rw [if_pos h3', if_pos h3]
    have es : stmtS ⟨p0.Anchor, p0.Marks, p0.Outs, p0.Deposit, p0.Withdraw, p0.Fee, p0.Account, p0.Nonce, p0.Expiry, [] ++ p1⟩ 3 = stmtS p0 3 := by unfold stmtS; rw [if_pos h3', if_pos h3, eb, eo]
    have esh : shapeS ⟨p0.Anchor, p0.Marks, p0.Outs, p0.Deposit, p0.Withdraw, p0.Fee, p0.Account, p0.Nonce, p0.Expiry, [] ++ p1⟩ = shapeS p0 := by unfold shapeS; rw [if_pos h3', if_pos h3]
    have ew : weightS ⟨p0.Anchor, p0.Marks, p0.Outs, p0.Deposit, p0.Withdraw, p0.Fee, p0.Account, p0.Nonce, p0.Expiry, [] ++ p1⟩ = weightS p0 - p0.Proof.length + p1.length := by unfold weightS; rw [if_pos h3', if_pos h3, encT_length, encT_length]; simp <;> omega
    have wl : 0 ≤ weightS p0 ∧ weightS p0 ≤ 100000 := by unfold weightS; rw [if_pos h3]; have := v.enc_len p0.Proof; omega
    have hst : (stmtS p0 3).Marks.length ≤ 9223372036854775807 ∧ (stmtS p0 3).Commits.length ≤ 9223372036854775807 ∧ (stmtS p0 3).Rhos.length ≤ 9223372036854775807 := by
      unfold stmtS
      rw [if_pos h3]
      simp
      omega
    simp only [TTx_eta]
    refine ⟨tl, by simp; omega, by simp; unfold maxLen; omega, hr, hr', ?_⟩
    simp only [TTx_eta, TStatement_eta, TShape_eta, eb, eo, es, esh, ew]
    refine ⟨fun _ => ⟨hr, hr', fun _ => ⟨⟨hr, by omega⟩, ⟨hr', by omega⟩, ?_⟩, fun h => by simp at h⟩, fun h => by simp at h⟩
    refine ⟨hst, fun _ => ?_, fun h => by simp at h⟩
    refine ⟨fun _ => ⟨hr, hr', ?_⟩, fun h => by simp at h⟩
    rw [wi _ (by omega) (by omega), wi _ (by omega) (by omega)]
    simp <;> omega
  refine l41_TxBindIgnoresProof_in ⟨fun h => by simp at h, fun _ => ⟨hl, fun _ => j1 _ (by simp), fun h1 => ⟨fun _ => j1 _ (by simp), fun h2 => ?_⟩⟩⟩
  have h1 : smallB p0 300 = true := by simpa using h1
  have h2 := of_decide_eq_false h2
  exact ⟨⟨hr, small_tl h1⟩, j1 _ fun h => ⟨h1, by omega, by simpa using h⟩⟩
end Go.Proofs.Ytdbnagpoknmoiaa
namespace Go.Proofs.Ytdbnagpoknmoiaa
open Go Go.Bv Go.Cv Go.Md Go.RowKit
def r41_take_sh : Con TB.den := Con.mk0 50 [.one (.d (.sl (.int .u8))), .one (.d (.int .i64))] [] (.tup [.one (.d (.int .u64)), .one (.d (.sl (.int .u8))), .one (.d (.bool))]) []
abbrev r41_take_I := HL TB.den (hsT r41_take_sh.ins (hsOs r41_take_sh.pre))
abbrev r41_take_O := HL TB.den (hsV r41_take_sh.res (hsOs r41_take_sh.post))
noncomputable def r41_take_cx : Cx TB := ⟨inf, [], [], 4⟩
noncomputable def r41_take_code : Code := Try.f50.body.getD .skip
noncomputable def r41_take_rs : List ResultVar := Try.f50.results.toList
noncomputable def r41_take_Q1 (o : r41_take_O) : Exit → TSt TB.den → Prop := thenT TB (fun s => ghs TB [] s fun s => WP TB r41_take_cx 31 0 (cB (cB (cB (cB r41_take_code)))) .no s (retTQ TB r41_take_cx r41_take_sh r41_take_rs o)) (retTQ TB r41_take_cx r41_take_sh r41_take_rs o)
def r41_take_T1 : Tm := ⟨[], [], [0, 1, 7, 8], [.one (.d (.sl (.int .u8))), .one (.d (.int .i64)), .one (.d (.int .u64)), .one (.d (.int .i64))], 0⟩
noncomputable def r41_take_Q2 (o : r41_take_O) (nx1 : HL TB.den r41_take_T1.hs → Prop) : Exit → TSt TB.den → Prop := thenT TB (fun s => r41_take_T1.mat TB 0 s nx1) (blockT TB 0 (r41_take_Q1 o))
noncomputable def r41_take_L1 (o : r41_take_O) (nx1 : HL TB.den r41_take_T1.hs → Prop) (i : HL TB.den r41_take_T1.hs) : Prop := WP TB r41_take_cx 31 0 (cA (cA (cB (cA (cB (cB (cB r41_take_code))))))) .no (r41_take_T1.fill TB i) (r41_take_Q2 o nx1)
noncomputable def r41_take_A5 (o : r41_take_O) : An TB := .nd [] .no [] (.lp [] r41_take_T1 (r41_take_L1 o) fun nx1 => .no)
noncomputable def r41_take_A7 (o : r41_take_O) : An TB := .nd [] .no [] (.nd [] .no [] (.nd [] (r41_take_A5 o) [] .no))
noncomputable def r41_take_an (o : r41_take_O) : An TB := .nd [] .no [] (r41_take_A7 o)
noncomputable def r41_take_Body (x : r41_take_I) (o : r41_take_O) : Prop := WPh TB r41_take_cx 31 0 r41_take_code (r41_take_an o) (r41_take_sh.st TB x) (retTQ TB r41_take_cx r41_take_sh r41_take_rs o)
set_option maxRecDepth 100000 in
theorem r41_take_obl (o : r41_take_O) : OblH TB r41_take_cx 31 0 r41_take_code (r41_take_an o) (retTQ TB r41_take_cx r41_take_sh r41_take_rs o) :=
  OblH.of_eq (X := (True ∧ ((True ∧ ((True ∧ True) ∧ True)) ∧ (True ∧ ((True ∧ ((∀ nx i, (r41_take_L1 o) nx i = (r41_take_L1 o) nx i) ∧ ∀ nx1 : HL TB.den r41_take_T1.hs → Prop, ((True ∧ (True ∧ True)) ∧ (True ∧ True)))) ∧ (True ∧ True)))))) (by kernel_rfl) ⟨trivial, ⟨⟨trivial, ⟨⟨trivial, trivial⟩, trivial⟩⟩, ⟨trivial, ⟨⟨trivial, ⟨fun _ _ => rfl, fun _ => ⟨⟨trivial, ⟨trivial, trivial⟩⟩, ⟨trivial, trivial⟩⟩⟩⟩, ⟨trivial, trivial⟩⟩⟩⟩⟩
set_option maxRecDepth 100000 in
theorem r41_take_snd {x : r41_take_I} {o : r41_take_O} (h : r41_take_Body x o) : SoundH Try.prog r41_take_sh.f ((r41_take_sh.args idf x).map (er TB)) ((r41_take_sh.obs idf x).map (erO TB)) (er TB (r41_take_sh.val idf o)) ((r41_take_sh.ops idf o).map (erO TB)) :=
  Con.soundH (c := r41_take_sh) (C := r41_take_cx) TBok ⟨inf_ok, all_nil, all_nil⟩ mix Try.func50 (show Try.f50.body = some r41_take_code by kernel_rfl) (show Try.f50.ntmps = 31 by kernel_rfl) (show Try.f50.results.toList = r41_take_rs by kernel_rfl) rfl h (r41_take_obl o)
set_option maxRecDepth 100000 in
theorem r41_take_in {p0 : List Int} {p1 : Int} {r0 : Int} {r1 : List Int} {r2 : Bool} (h :
((decide ((p0.length : Int) < p1) = true →
 0 = r0 ∧ ([] : List Int) = r1 ∧ false = r2) ∧
(decide ((p0.length : Int) < p1) = false →
 Md.Loop (p0, p1, (0 : Int), (IntKind.i64.wrap (p1 - 1) : Int), ()) (r41_take_L1 (r0, r1, r2, ()))))) : r41_take_Body (p0, p1, ()) (r0, r1, r2, ()) := WPh.of_eq (by kernel_rfl) h
def r41_take_B1 (r0 : Int) (r1 : List Int) (r2 : Bool) (k1 : Int → Int → Prop) (s0 : List Int) (s1 : Int) (s7 : Int) (s8 : Int) : Prop :=
(decide (0 ≤ s8) = true →
(0 ≤ s8) ∧ s8 < (s0.length : Int) ∧ let v1 : Int := IntKind.u64.wrap ((IntKind.u64.wrap (s7 * 256)) + (IntKind.u64.wrap (ix s0 s8)))
 k1 v1 (IntKind.i64.wrap (s8 - 1) : Int)) ∧
(decide (0 ≤ s8) = false →
(0 ≤ s1) ∧ s1 ≤ (s0.length : Int) ∧ s7 = r0 ∧ s0.drop s1.toNat = r1 ∧ true = r2)
set_option maxRecDepth 100000 in
theorem r41_take_lp1 {r0 : Int} {r1 : List Int} {r2 : Bool} {s0 : List Int} {s1 : Int} {s7 : Int} {s8 : Int} (inv : Int → Int → Prop) (μ : Int → Int → Nat) (h0 : inv s7 s8) (hs : ∀ (s7 : Int) (s8 : Int), inv s7 s8 → r41_take_B1 r0 r1 r2 (fun s7q s8q => inv s7q s8q ∧ μ s7q s8q < μ s7 s8) s0 s1 s7 s8) : Md.Loop (s0, s1, s7, s8, ()) (r41_take_L1 (r0, r1, r2, ())) :=
  ⟨⟨fun s : (List Int) × Int × Int × Int × Unit => (s.1 = s0 ∧ s.2.1 = s1) ∧ inv s.2.2.1 s.2.2.2.1, fun s : (List Int) × Int × Int × Int × Unit => μ s.2.2.1 s.2.2.2.1, ⟨⟨rfl, rfl⟩, h0⟩, fun (s0p, s1p, s7p, s8p, ()) ⟨⟨eq0, eq1⟩, hi⟩ => by
    have eq0 : s0p = s0 := eq0; subst s0p; have eq1 : s1p = s1 := eq1; subst s1p; exact mpr_of (by kernel_rfl) ((congrArg (fun k => r41_take_B1 r0 r1 r2 k s0 s1 s7p s8p) (lpk2 (⟨rfl, rfl⟩ : s0 = s0 ∧ s1 = s1) inv (fun s7q s8q => μ s7q s8q < μ s7p s8p))).mpr (hs s7p s8p hi))⟩⟩
theorem bd50 : Callable Try.prog 50 := ⟨by rw [Try.func50]; kernel_rfl, by rw [Try.func50]; show some _ ≠ some _; decide⟩
theorem r41_take_body (p0 : List Int) (p1 : Int) (h : By p0 ∧ p0.length ≤ 137438953472 ∧ 0 ≤ p1 ∧ p1 ≤ 8) : r41_take_Body (p0, p1, ()) (((tkS p0 p1).n : Int), ((tkS p0 p1).r : List Int), ((tkS p0 p1).ok : Bool), ()) := by
  obtain ⟨hb, hl, h0, h1⟩ := h
  refine r41_take_in ⟨fun h => ?_, fun h => ?_⟩
  · have h := of_decide_eq_true h
    unfold tkS
    rw [if_pos h]
    exact ⟨rfl, rfl, rfl⟩
  · have h := of_decide_eq_false h
    have e : tkS p0 p1 = ⟨val (p0.take p1.toNat), p0.drop p1.toNat, true⟩ := by unfold tkS; rw [if_neg h]
    rw [e, wi (p1 - 1) (by omega) (by omega)]
    refine r41_take_lp1 (fun n i => -1 ≤ i ∧ i < p1 ∧ n = val ((p0.take p1.toNat).drop (i + 1).toNat)) (fun _ i => (i + 1).toNat) ⟨by omega, by omega, ?_⟩ ?_
    · rw [List.drop_eq_nil_of_le (by rw [List.length_take]; omega)]
      rfl
    rintro n i ⟨g0, g1, rfl⟩
    refine ⟨fun hh => ?_, fun hh => ?_⟩
    · have hh := of_decide_eq_true hh
      have hlt : i < ((p0.take p1.toNat).length : Int) := by rw [List.length_take]; omega
      have hix : ix (p0.take p1.toNat) i = ix p0 i := by
        rw [ix_nat _ i hh hlt, ix_nat _ i hh (by omega), List.getElem_take]
      have hx := hb _ (ix_mem p0 i hh (by omega))
      have hbb : By ((p0.take p1.toNat).drop (i + 1).toNat) := (hb.take _).drop _
      have hv := val_bound _ hbb
      have hle : ((p0.take p1.toNat).drop (i + 1).toNat).length ≤ 7 := by rw [List.length_drop, List.length_take]; omega
      have h7 := pow256_le hle
      rw [wu (ix p0 i) (by omega) (by omega), wu (val ((p0.take p1.toNat).drop (i + 1).toNat) * 256) (by omega) (by omega), wu _ (by omega) (by omega), wi (i - 1) (by omega) (by omega)]
      refine ⟨hh, by omega, ⟨by omega, by omega, ?_⟩, by omega⟩
      rw [show i - 1 + 1 = i by omega, drop_ix _ i hh hlt, hix]
      simp only [val]
      omega
    · have hh := of_decide_eq_false hh
      rw [show (i + 1).toNat = 0 by omega]
      exact ⟨h0, by omega, rfl, rfl, rfl⟩
noncomputable def r41_take_con : Con TB.den := { r41_take_sh with R := fun x K => (fun (p0 : List Int) (p1 : Int) => ((By p0 ∧ p0.length ≤ 137438953472 ∧ 0 ≤ p1 ∧ p1 ≤ 8) ∧ ∀ (v0 : Int) (v1 : List Int) (v2 : Bool), (v0 = ((tkS p0 p1).n) ∧ v1 = ((tkS p0 p1).r) ∧ v2 = ((tkS p0 p1).ok)) → K (v0, v1, v2, ()) : Prop)) x.1 x.2.1 }
theorem r41_take_ok : r41_take_con.Ok Try.prog TB := ⟨bd50, fun x K hx => ⟨((fun (p0 : List Int) (p1 : Int) => ((tkS p0 p1).n : Int)) x.1 x.2.1, (fun (p0 : List Int) (p1 : Int) => ((tkS p0 p1).r : List Int)) x.1 x.2.1, (fun (p0 : List Int) (p1 : Int) => ((tkS p0 p1).ok : Bool)) x.1 x.2.1, ()), hx.2 ((fun (p0 : List Int) (p1 : Int) => (((tkS p0 p1).n))) x.1 x.2.1) ((fun (p0 : List Int) (p1 : Int) => (((tkS p0 p1).r))) x.1 x.2.1) ((fun (p0 : List Int) (p1 : Int) => (((tkS p0 p1).ok))) x.1 x.2.1) ⟨rfl, rfl, rfl⟩, r41_take_snd (r41_take_body x.1 x.2.1 hx.1)⟩⟩
end Go.Proofs.Ytdbnagpoknmoiaa
namespace Go.Proofs.Ytdbnagpoknmoiaa
open Go Go.Bv Go.Cv Go.Md Go.RowKit
def r41_takes_sh : Con TB.den := Con.mk0 52 [.one (.d (.sl (.int .u8))), .one (.d (.int .i64))] [] (.tup [.one (.d (.sl (.int .u64))), .one (.d (.sl (.int .u8))), .one (.d (.bool))]) []
abbrev r41_takes_I := HL TB.den (hsT r41_takes_sh.ins (hsOs r41_takes_sh.pre))
abbrev r41_takes_O := HL TB.den (hsV r41_takes_sh.res (hsOs r41_takes_sh.post))
noncomputable def r41_takes_cx : Cx TB := ⟨inf, [r41_take_con], [], 4⟩
noncomputable def r41_takes_code : Code := Try.f52.body.getD .skip
noncomputable def r41_takes_rs : List ResultVar := Try.f52.results.toList
noncomputable def r41_takes_Q1 (o : r41_takes_O) : Exit → TSt TB.den → Prop := thenT TB (fun s => ghs TB [] s fun s => WP TB r41_takes_cx 33 0 (cB (cB (cB r41_takes_code))) .no s (retTQ TB r41_takes_cx r41_takes_sh r41_takes_rs o)) (retTQ TB r41_takes_cx r41_takes_sh r41_takes_rs o)
def r41_takes_T1 : Tm := ⟨[1], [.tip (.int .u64)], [0, 1, 7, 8], [.one (.d (.sl (.int .u8))), .one (.d (.int .i64)), .one (.own 0), .one (.d (.int .i64))], 2⟩
noncomputable def r41_takes_Q2 (o : r41_takes_O) (nx1 : HL TB.den r41_takes_T1.hs → Prop) : Exit → TSt TB.den → Prop := thenT TB (fun s => r41_takes_T1.mat TB 0 s nx1) (blockT TB 0 (r41_takes_Q1 o))
noncomputable def r41_takes_L1 (o : r41_takes_O) (nx1 : HL TB.den r41_takes_T1.hs → Prop) (i : HL TB.den r41_takes_T1.hs) : Prop := WP TB r41_takes_cx 33 0 (cA (cA (cB (cA (cB (cB r41_takes_code)))))) .no (r41_takes_T1.fill TB i) (r41_takes_Q2 o nx1)
noncomputable def r41_takes_A6 (o : r41_takes_O) : An TB := .lp [.tok 7 (.int .u64)] r41_takes_T1 (r41_takes_L1 o) fun nx1 => .no
noncomputable def r41_takes_A7 (o : r41_takes_O) : An TB := .nd [] .no [] (.nd [] (.nd [] .no [] (r41_takes_A6 o)) [] .no)
noncomputable def r41_takes_an (o : r41_takes_O) : An TB := .nd [] .no [] (r41_takes_A7 o)
noncomputable def r41_takes_Body (x : r41_takes_I) (o : r41_takes_O) : Prop := WPh TB r41_takes_cx 33 0 r41_takes_code (r41_takes_an o) (r41_takes_sh.st TB x) (retTQ TB r41_takes_cx r41_takes_sh r41_takes_rs o)
set_option maxRecDepth 100000 in
theorem r41_takes_obl (o : r41_takes_O) : OblH TB r41_takes_cx 33 0 r41_takes_code (r41_takes_an o) (retTQ TB r41_takes_cx r41_takes_sh r41_takes_rs o) :=
  OblH.of_eq (X := (True ∧ (True ∧ ((True ∧ ((∀ nx i, (r41_takes_L1 o) nx i = (r41_takes_L1 o) nx i) ∧ ∀ nx1 : HL TB.den r41_takes_T1.hs → Prop, ((True ∧ (True ∧ True)) ∧ ((True ∧ ((True ∧ ((True ∧ True) ∧ True)) ∧ (True ∧ True))) ∧ True)))) ∧ (True ∧ True))))) (by kernel_rfl) ⟨trivial, ⟨trivial, ⟨⟨trivial, ⟨fun _ _ => rfl, fun _ => ⟨⟨trivial, ⟨trivial, trivial⟩⟩, ⟨⟨trivial, ⟨⟨trivial, ⟨⟨trivial, trivial⟩, trivial⟩⟩, ⟨trivial, trivial⟩⟩⟩, trivial⟩⟩⟩⟩, ⟨trivial, trivial⟩⟩⟩⟩
set_option maxRecDepth 100000 in
theorem r41_takes_snd {x : r41_takes_I} {o : r41_takes_O} (h : r41_takes_Body x o) : SoundH Try.prog r41_takes_sh.f ((r41_takes_sh.args idf x).map (er TB)) ((r41_takes_sh.obs idf x).map (erO TB)) (er TB (r41_takes_sh.val idf o)) ((r41_takes_sh.ops idf o).map (erO TB)) :=
  Con.soundH (c := r41_takes_sh) (C := r41_takes_cx) TBok ⟨inf_ok, (all_cons r41_take_ok all_nil), all_nil⟩ mix Try.func52 (show Try.f52.body = some r41_takes_code by kernel_rfl) (show Try.f52.ntmps = 33 by kernel_rfl) (show Try.f52.results.toList = r41_takes_rs by kernel_rfl) rfl h (r41_takes_obl o)
set_option maxRecDepth 100000 in
theorem r41_takes_in {p0 : List Int} {p1 : Int} {r0 : List Int} {r1 : List Int} {r2 : Bool} (h :
((([] : List Int) = ([] : List Int)) ∧ Md.Loop (p0, p1, (0 : Int), (([] : List Int) : List Int), ()) (r41_takes_L1 (r0, r1, r2, ())))) : r41_takes_Body (p0, p1, ()) (r0, r1, r2, ()) := WPh.of_eq (by kernel_rfl) h
def r41_takes_B1 (r0 : List Int) (r1 : List Int) (r2 : Bool) (k1 : List Int → Int → List Int → Prop) (s1 : Int) (s0 : List Int) (s8 : Int) (g1 : List Int) : Prop :=
(decide (s8 < s1) = true →
(By s0 ∧ s0.length ≤ 137438953472 ∧ 0 ≤ (8 : Int) ∧ (8 : Int) ≤ 8) ∧ ∀ (r22 : Int) (r23 : List Int) (r24 : Bool), (r22 = (tkS s0 (8 : Int)).n ∧ r23 = (tkS s0 (8 : Int)).r ∧ r24 = (tkS s0 (8 : Int)).ok) → ((!r24) = true →
([] : List Int) = r0 ∧ ([] : List Int) = r1 ∧ false = r2) ∧
((!r24) = false →
 g1.length = g1.length ∧ (g1.length + [r22].length) * 8 ≤ 140737488355328 ∧ g1.length + [r22].length ≤ maxLen ∧ (g1 ++ [r22] = g1 ++ [r22]) ∧ k1 r23 (IntKind.i64.wrap (s8 + 1) : Int) (g1 ++ [r22] : List Int))) ∧
(decide (s8 < s1) = false →
 g1 = r0 ∧ s0 = r1 ∧ true = r2)
set_option maxRecDepth 100000 in
theorem r41_takes_lp1 {r0 : List Int} {r1 : List Int} {r2 : Bool} {s1 : Int} {s0 : List Int} {s8 : Int} {g1 : List Int} (inv : List Int → Int → List Int → Prop) (μ : List Int → Int → List Int → Nat) (h0 : inv s0 s8 g1) (hs : ∀ (s0 : List Int) (s8 : Int) (g1 : List Int), inv s0 s8 g1 → r41_takes_B1 r0 r1 r2 (fun s0q s8q g1q => inv s0q s8q g1q ∧ μ s0q s8q g1q < μ s0 s8 g1) s1 s0 s8 g1) : Md.Loop (s0, s1, s8, g1, ()) (r41_takes_L1 (r0, r1, r2, ())) :=
  ⟨⟨fun s : (List Int) × Int × Int × (List Int) × Unit => (s.2.1 = s1) ∧ inv s.1 s.2.2.1 s.2.2.2.1, fun s : (List Int) × Int × Int × (List Int) × Unit => μ s.1 s.2.2.1 s.2.2.2.1, ⟨rfl, h0⟩, fun (s0p, s1p, s8p, g1p, ()) ⟨eq0, hi⟩ => by
    have eq0 : s1p = s1 := eq0; subst s1p; exact mpr_of (by kernel_rfl) ((congrArg (fun k => r41_takes_B1 r0 r1 r2 k s1 s0p s8p g1p) (lpk3 (rfl : s1 = s1) inv (fun s0q s8q g1q => μ s0q s8q g1q < μ s0p s8p g1p))).mpr (hs s0p s8p g1p hi))⟩⟩
theorem bd52 : Callable Try.prog 52 := ⟨by rw [Try.func52]; kernel_rfl, by rw [Try.func52]; show some _ ≠ some _; decide⟩
theorem r41_takes_body (p0 : List Int) (p1 : Int) (h : By p0 ∧ p0.length ≤ 137438953472 ∧ 0 ≤ p1 ∧ p1 ≤ 4096) : r41_takes_Body (p0, p1, ()) (((tksS p0 p1).l : List Int), ((tksS p0 p1).r : List Int), ((tksS p0 p1).ok : Bool), ()) := by
  obtain ⟨hb, hl, h0, h1⟩ := h
  refine r41_takes_in ⟨rfl, ?_⟩
  refine r41_takes_lp1 (fun b i g => 0 ≤ i ∧ i ≤ p1 ∧ By b ∧ b.length ≤ 137438953472 ∧ (g.length : Int) = i ∧ tksS p0 p1 = (if (b.length : Int) < 8 * (p1 - i) then ⟨[], [], false⟩ else ⟨g ++ nums (p1 - i).toNat b, b.drop (8 * (p1 - i).toNat), true⟩)) (fun _ i _ => (p1 - i).toNat) ⟨by omega, h0, hb, hl, rfl, by unfold tksS; simp⟩ ?_
  rintro b i g ⟨g0, g1, g2, g3, g4, g5⟩
  refine ⟨fun hh => ?_, fun hh => ?_⟩
  · have hh := of_decide_eq_true hh
    rw [inc i p1 g0 hh (by omega)]
    refine ⟨⟨g2, g3, by omega, by omega⟩, ?_⟩
    rintro _ _ _ ⟨rfl, rfl, rfl⟩
    refine ⟨fun e => ?_, fun e => ⟨rfl, by simp; omega, by simp; unfold maxLen; omega, rfl, ⟨by omega, by omega, ?_, ?_, by simp; omega, ?_⟩, by omega⟩⟩
    · have e : (tkS b 8).ok = false := by simpa using e
      have : (b.length : Int) < 8 := by
        unfold tkS at e
        split at e
        · assumption
        · cases e
      rw [g5, if_pos (by omega)]
      exact ⟨rfl, rfl, rfl⟩
    · exact tkS_by g2 8
    · exact Nat.le_trans (tkS_len 8) g3
    · have e : (tkS b 8).ok = true := by simpa using e
      have hlb : ¬ (b.length : Int) < 8 := by
        intro h
        unfold tkS at e
        rw [if_pos h] at e
        cases e
      have et : tkS b 8 = ⟨val (b.take 8), b.drop 8, true⟩ := by unfold tkS; rw [if_neg hlb]; rfl
      rw [g5, et]
      simp only [List.length_drop]
      rw [show (p1 - i).toNat = (p1 - (i + 1)).toNat + 1 by omega]
      by_cases hq : (b.length : Int) < 8 * (p1 - i)
      · rw [if_pos hq, if_pos (by omega)]
      · rw [if_neg hq, if_neg (by omega)]
        simp only [nums, List.append_assoc, List.drop_drop, List.cons_append, List.nil_append]
        rw [show 8 + 8 * (p1 - (i + 1)).toNat = 8 * ((p1 - (i + 1)).toNat + 1) by omega]
  · have hh := of_decide_eq_false hh
    rw [g5, show p1 - i = 0 by omega, if_neg (by omega)]
    exact ⟨by simp [nums], rfl, rfl⟩
noncomputable def r41_takes_con : Con TB.den := { r41_takes_sh with R := fun x K => (fun (p0 : List Int) (p1 : Int) => ((By p0 ∧ p0.length ≤ 137438953472 ∧ 0 ≤ p1 ∧ p1 ≤ 4096) ∧ ∀ (v0 : List Int) (v1 : List Int) (v2 : Bool), (v0 = ((tksS p0 p1).l) ∧ v1 = ((tksS p0 p1).r) ∧ v2 = ((tksS p0 p1).ok)) → K (v0, v1, v2, ()) : Prop)) x.1 x.2.1 }
theorem r41_takes_ok : r41_takes_con.Ok Try.prog TB := ⟨bd52, fun x K hx => ⟨((fun (p0 : List Int) (p1 : Int) => ((tksS p0 p1).l : List Int)) x.1 x.2.1, (fun (p0 : List Int) (p1 : Int) => ((tksS p0 p1).r : List Int)) x.1 x.2.1, (fun (p0 : List Int) (p1 : Int) => ((tksS p0 p1).ok : Bool)) x.1 x.2.1, ()), hx.2 ((fun (p0 : List Int) (p1 : Int) => (((tksS p0 p1).l))) x.1 x.2.1) ((fun (p0 : List Int) (p1 : Int) => (((tksS p0 p1).r))) x.1 x.2.1) ((fun (p0 : List Int) (p1 : Int) => (((tksS p0 p1).ok))) x.1 x.2.1) ⟨rfl, rfl, rfl⟩, r41_takes_snd (r41_takes_body x.1 x.2.1 hx.1)⟩⟩
end Go.Proofs.Ytdbnagpoknmoiaa
namespace Go.Proofs.Ytdbnagpoknmoiaa
open Go Go.Bv Go.Cv Go.Md Go.RowKit
def r41_list_sh : Con TB.den := Con.mk0 51 [.one (.d (.sl (.int .u8))), .one (.d (.int .i64))] [] (.tup [.one (.d (.sl (.int .u64))), .one (.d (.sl (.int .u8))), .one (.d (.bool))]) []
abbrev r41_list_I := HL TB.den (hsT r41_list_sh.ins (hsOs r41_list_sh.pre))
abbrev r41_list_O := HL TB.den (hsV r41_list_sh.res (hsOs r41_list_sh.post))
noncomputable def r41_list_cx : Cx TB := ⟨inf, [r41_take_con, r41_takes_con], [], 4⟩
noncomputable def r41_list_code : Code := Try.f51.body.getD .skip
noncomputable def r41_list_rs : List ResultVar := Try.f51.results.toList
noncomputable def r41_list_Q1 (o : r41_list_O) : Exit → TSt TB.den → Prop := thenT TB (fun s => ghs TB [] s fun s => WP TB r41_list_cx 31 0 (cB (cB (cB r41_list_code))) .no s (retTQ TB r41_list_cx r41_list_sh r41_list_rs o)) (retTQ TB r41_list_cx r41_list_sh r41_list_rs o)
def r41_list_TJ1 : Tm := ⟨[], [], [7, 8, 23], [.one (.d (.int .u64)), .one (.d (.sl (.int .u8))), .one (.d (.bool))], 0⟩
noncomputable def r41_list_J1d (o : r41_list_O) (i : HL TB.den r41_list_TJ1.hs) : Prop := ghs TB [] (r41_list_TJ1.fill TB i) fun s => WP TB r41_list_cx 31 0 (cB (cA (cB (cB r41_list_code)))) .no s (r41_list_Q1 o)
structure r41_list_J1 (o : r41_list_O) (i : HL TB.den r41_list_TJ1.hs) : Prop where
  h : r41_list_J1d o i
noncomputable def r41_list_A3 (o : r41_list_O) : An TB := .nd [] (.jn r41_list_TJ1 (r41_list_J1 o) [] .no [] .no) [] .no
noncomputable def r41_list_an (o : r41_list_O) : An TB := .nd [] .no [] (.nd [] .no [] (r41_list_A3 o))
noncomputable def r41_list_Body (x : r41_list_I) (o : r41_list_O) : Prop := WPh TB r41_list_cx 31 0 r41_list_code (r41_list_an o) (r41_list_sh.st TB x) (retTQ TB r41_list_cx r41_list_sh r41_list_rs o)
set_option maxRecDepth 100000 in
theorem r41_list_obl (o : r41_list_O) : OblH TB r41_list_cx 31 0 r41_list_code (r41_list_an o) (retTQ TB r41_list_cx r41_list_sh r41_list_rs o) :=
  OblH.of_eq (X := (True ∧ (True ∧ ((True ∧ (∀ i, (r41_list_J1 o) i = (r41_list_J1d o) i) ∧ ((True ∧ True) ∧ True)) ∧ (True ∧ True))))) (by kernel_rfl) ⟨trivial, ⟨trivial, ⟨⟨trivial, fun _ => propext ⟨fun h => h.1, fun h => ⟨h⟩⟩, ⟨⟨trivial, trivial⟩, trivial⟩⟩, ⟨trivial, trivial⟩⟩⟩⟩
set_option maxRecDepth 100000 in
theorem r41_list_snd {x : r41_list_I} {o : r41_list_O} (h : r41_list_Body x o) : SoundH Try.prog r41_list_sh.f ((r41_list_sh.args idf x).map (er TB)) ((r41_list_sh.obs idf x).map (erO TB)) (er TB (r41_list_sh.val idf o)) ((r41_list_sh.ops idf o).map (erO TB)) :=
  Con.soundH (c := r41_list_sh) (C := r41_list_cx) TBok ⟨inf_ok, (all_cons r41_take_ok (all_cons r41_takes_ok all_nil)), all_nil⟩ mix Try.func51 (show Try.f51.body = some r41_list_code by kernel_rfl) (show Try.f51.ntmps = 31 by kernel_rfl) (show Try.f51.results.toList = r41_list_rs by kernel_rfl) rfl h (r41_list_obl o)
set_option maxRecDepth 100000 in
theorem r41_list_in {p0 : List Int} {p1 : Int} {r0 : List Int} {r1 : List Int} {r2 : Bool} (h :
((By p0 ∧ p0.length ≤ 137438953472 ∧ 0 ≤ (4 : Int) ∧ (4 : Int) ≤ 8) ∧ ∀ (r4 : Int) (r5 : List Int) (r6 : Bool), (r4 = (tkS p0 (4 : Int)).n ∧ r5 = (tkS p0 (4 : Int)).r ∧ r6 = (tkS p0 (4 : Int)).ok) → ((!r6) = true →
 r41_list_J1 (r0, r1, r2, ()) (r4, r5, true, ())) ∧
((!r6) = false →
 r41_list_J1 (r0, r1, r2, ()) (r4, r5, (decide ((IntKind.u64.wrap p1) < r4) : Bool), ())))) : r41_list_Body (p0, p1, ()) (r0, r1, r2, ()) := WPh.of_eq (by kernel_rfl) h
set_option maxRecDepth 100000 in
theorem r41_list_J1_in {r0 : List Int} {r1 : List Int} {r2 : Bool} {s7 : Int} {s8 : List Int} {s23 : Bool} (h :
((s23 = true →
([] : List Int) = r0 ∧ ([] : List Int) = r1 ∧ false = r2) ∧
(s23 = false →
(By s8 ∧ s8.length ≤ 137438953472 ∧ 0 ≤ (IntKind.i64.wrap s7) ∧ (IntKind.i64.wrap s7) ≤ 4096) ∧ ∀ (r10 : List Int) (r11 : List Int) (r12 : Bool), (r10 = (tksS s8 (IntKind.i64.wrap s7)).l ∧ r11 = (tksS s8 (IntKind.i64.wrap s7)).r ∧ r12 = (tksS s8 (IntKind.i64.wrap s7)).ok) → r10 = r0 ∧ r11 = r1 ∧ r12 = r2))) : r41_list_J1 (r0, r1, r2, ()) (s7, s8, s23, ()) := ⟨mpr_of (by kernel_rfl) h⟩
theorem bd51 : Callable Try.prog 51 := ⟨by rw [Try.func51]; kernel_rfl, by rw [Try.func51]; show some _ ≠ some _; decide⟩
theorem r41_list_body (p0 : List Int) (p1 : Int) (h : By p0 ∧ p0.length ≤ 137438953472 ∧ 0 ≤ p1 ∧ p1 ≤ 4096) : r41_list_Body (p0, p1, ()) (((tklS p0 p1).l : List Int), ((tklS p0 p1).r : List Int), ((tklS p0 p1).ok : Bool), ()) := by
  obtain ⟨hb, hl, h0, h1⟩ := h
  refine r41_list_in ⟨⟨hb, hl, by omega, by omega⟩, ?_⟩
  rintro _ _ _ ⟨rfl, rfl, rfl⟩
  rw [wu p1 h0 (by omega)]
  have jf : ((tkS p0 4).ok = false ∨ p1 < (tkS p0 4).n) → r41_list_J1 ((tklS p0 p1).l, (tklS p0 p1).r, (tklS p0 p1).ok, ()) ((tkS p0 4).n, (tkS p0 4).r, true, ()) := by
    intro h
    refine r41_list_J1_in ⟨fun _ => ?_, fun h => by simp at h⟩
    unfold tklS
    rw [if_pos h]
    exact ⟨rfl, rfl, rfl⟩
  refine ⟨fun e => jf (.inl (by simpa using e)), fun e => ?_⟩
  by_cases hq : p1 < (tkS p0 4).n
  · rw [decide_eq_true hq]; exact jf (.inr hq)
  · rw [decide_eq_false hq]
    have ho : (tkS p0 4).ok = true := by simpa using e
    obtain ⟨g1, g2, g3⟩ := tkS_snd hb 4 ho
    have g2 : 0 ≤ (tkS p0 4).n := g2
    refine r41_list_J1_in ⟨fun h => by simp at h, fun _ => ?_⟩
    rw [wi (tkS p0 4).n (by omega) (by omega)]
    have e2 : tklS p0 p1 = tksS (tkS p0 4).r (tkS p0 4).n := by unfold tklS; rw [if_neg]; rw [ho]; simpa using hq
    rw [e2]
    refine ⟨⟨tkS_by hb 4, Nat.le_trans (tkS_len 4) hl, g2, by omega⟩, ?_⟩
    rintro _ _ _ ⟨rfl, rfl, rfl⟩
    exact ⟨rfl, rfl, rfl⟩
noncomputable def r41_list_con : Con TB.den := { r41_list_sh with R := fun x K => (fun (p0 : List Int) (p1 : Int) => ((By p0 ∧ p0.length ≤ 137438953472 ∧ 0 ≤ p1 ∧ p1 ≤ 4096) ∧ ∀ (v0 : List Int) (v1 : List Int) (v2 : Bool), (v0 = ((tklS p0 p1).l) ∧ v1 = ((tklS p0 p1).r) ∧ v2 = ((tklS p0 p1).ok)) → K (v0, v1, v2, ()) : Prop)) x.1 x.2.1 }
theorem r41_list_ok : r41_list_con.Ok Try.prog TB := ⟨bd51, fun x K hx => ⟨((fun (p0 : List Int) (p1 : Int) => ((tklS p0 p1).l : List Int)) x.1 x.2.1, (fun (p0 : List Int) (p1 : Int) => ((tklS p0 p1).r : List Int)) x.1 x.2.1, (fun (p0 : List Int) (p1 : Int) => ((tklS p0 p1).ok : Bool)) x.1 x.2.1, ()), hx.2 ((fun (p0 : List Int) (p1 : Int) => (((tklS p0 p1).l))) x.1 x.2.1) ((fun (p0 : List Int) (p1 : Int) => (((tklS p0 p1).r))) x.1 x.2.1) ((fun (p0 : List Int) (p1 : Int) => (((tklS p0 p1).ok))) x.1 x.2.1) ⟨rfl, rfl, rfl⟩, r41_list_snd (r41_list_body x.1 x.2.1 hx.1)⟩⟩
end Go.Proofs.Ytdbnagpoknmoiaa
namespace Go.Proofs.Ytdbnagpoknmoiaa
open Go Go.Bv Go.Cv Go.Md Go.RowKit
def r41_Decode_sh : Con TB.den := Con.mk0 25 [.one (.d (.sl (.int .u8)))] [] (.tup [.agg [.d (.int .u64), .d (.sl (.int .u64)), .d (.sl (.st 0)), .d (.int .u64), .d (.int .u64), .d (.int .u64), .d (.int .u64), .d (.int .u64), .d (.int .i64), .d (.sl (.int .u8))], .one (.d (.int .i64))]) []
abbrev r41_Decode_I := HL TB.den (hsT r41_Decode_sh.ins (hsOs r41_Decode_sh.pre))
abbrev r41_Decode_O := HL TB.den (hsV r41_Decode_sh.res (hsOs r41_Decode_sh.post))
noncomputable def r41_Decode_cx : Cx TB := ⟨inf, [r41_take_con, r41_list_con, r41_takes_con, r41_Valid_con], [], 4⟩
noncomputable def r41_Decode_code : Code := Try.f25.body.getD .skip
noncomputable def r41_Decode_rs : List ResultVar := Try.f25.results.toList
noncomputable def r41_Decode_Q2 (o : r41_Decode_O) : Exit → TSt TB.den → Prop := thenT TB (fun s => ghs TB [] s fun s => WP TB r41_Decode_cx 160 0 (cB (cB (cB (cB (cB (cB (cB (cB (cB (cB (cB (cB (cB (cB (cB (cB (cB (cB (cB r41_Decode_code))))))))))))))))))) .no s (retTQ TB r41_Decode_cx r41_Decode_sh r41_Decode_rs o)) (retTQ TB r41_Decode_cx r41_Decode_sh r41_Decode_rs o)
def r41_Decode_TJ3 : Tm := ⟨[0, 1, 2], [.cells [.d (.int .u64), .full (.int .u64), .full (.st 0), .d (.int .u64), .d (.int .u64), .d (.int .u64), .d (.int .u64), .d (.int .u64), .d (.int .i64), .full (.int .u8)], .cells [.d (.int .u64), .d (.sl (.int .u64)), .own 2, .d (.int .u64), .d (.int .u64), .d (.int .u64), .d (.int .u64), .d (.int .u64), .d (.int .i64), .full (.int .u8)], .tip (.st 0)], [2, 4, 6, 149], [.one (.ptr 0 0), .one (.ptr 1 0), .one (.d (.sl (.int .u8))), .one (.d (.bool))], 104⟩
noncomputable def r41_Decode_J3d (o : r41_Decode_O) (i : HL TB.den r41_Decode_TJ3.hs) : Prop := ghs TB [] (r41_Decode_TJ3.fill TB i) fun s => WP TB r41_Decode_cx 160 0 (cB (cA (cB (cB (cB (cB (cB (cB (cB (cB (cB (cB (cB (cB (cB (cB (cB (cB (cB (cB r41_Decode_code)))))))))))))))))))) .no s (r41_Decode_Q2 o)
structure r41_Decode_J3 (o : r41_Decode_O) (i : HL TB.den r41_Decode_TJ3.hs) : Prop where
  h : r41_Decode_J3d o i
noncomputable def r41_Decode_A4 (o : r41_Decode_O) : An TB := .nd [] (.jn r41_Decode_TJ3 (r41_Decode_J3 o) [] .no [] .no) [] .no
noncomputable def r41_Decode_Q5 (o : r41_Decode_O) : Exit → TSt TB.den → Prop := thenT TB (fun s => ghs TB [] s fun s => WP TB r41_Decode_cx 160 0 (cB (cB (cB (cB (cB (cB (cB (cB (cB (cB (cB (cB (cB (cB (cB (cB r41_Decode_code)))))))))))))))) (.nd [] .no [] (.nd [] .no [] (r41_Decode_A4 o))) s (retTQ TB r41_Decode_cx r41_Decode_sh r41_Decode_rs o)) (retTQ TB r41_Decode_cx r41_Decode_sh r41_Decode_rs o)
def r41_Decode_TJ2 : Tm := ⟨[0, 1, 2], [.cells [.d (.int .u64), .full (.int .u64), .full (.st 0), .d (.int .u64), .d (.int .u64), .d (.int .u64), .d (.int .u64), .d (.int .u64), .d (.int .i64), .full (.int .u8)], .cells [.d (.int .u64), .d (.sl (.int .u64)), .own 2, .d (.int .u64), .d (.int .u64), .d (.int .u64), .d (.int .u64), .d (.int .u64), .d (.int .i64), .full (.int .u8)], .tip (.st 0)], [2, 4, 5, 6, 130], [.one (.ptr 0 0), .one (.ptr 1 0), .one (.d (.int .u64)), .one (.d (.sl (.int .u8))), .one (.d (.bool))], 104⟩
noncomputable def r41_Decode_J2d (o : r41_Decode_O) (i : HL TB.den r41_Decode_TJ2.hs) : Prop := ghs TB [] (r41_Decode_TJ2.fill TB i) fun s => WP TB r41_Decode_cx 160 0 (cB (cA (cB (cB (cB (cB (cB (cB (cB (cB (cB (cB (cB (cB (cB (cB (cB r41_Decode_code))))))))))))))))) .no s (r41_Decode_Q5 o)
structure r41_Decode_J2 (o : r41_Decode_O) (i : HL TB.den r41_Decode_TJ2.hs) : Prop where
  h : r41_Decode_J2d o i
noncomputable def r41_Decode_A7 (o : r41_Decode_O) : An TB := .nd [] (.jn r41_Decode_TJ2 (r41_Decode_J2 o) [] .no [] .no) [] (.nd [] .no [] (.nd [] .no [] (r41_Decode_A4 o)))
noncomputable def r41_Decode_A9 (o : r41_Decode_O) : An TB := .nd [] .no [] (.nd [] .no [] (.nd [] .no [] (r41_Decode_A7 o)))
noncomputable def r41_Decode_Q10 (o : r41_Decode_O) : Exit → TSt TB.den → Prop := thenT TB (fun s => ghs TB [] s fun s => WP TB r41_Decode_cx 160 0 (cB (cB (cB (cB (cB (cB (cB (cB (cB (cB r41_Decode_code)))))))))) (.nd [] .no [] (.nd [] .no [] (r41_Decode_A9 o))) s (retTQ TB r41_Decode_cx r41_Decode_sh r41_Decode_rs o)) (retTQ TB r41_Decode_cx r41_Decode_sh r41_Decode_rs o)
def r41_Decode_T1 : Tm := ⟨[0, 1, 2], [.cells [.d (.int .u64), .full (.int .u64), .full (.st 0), .d (.int .u64), .d (.int .u64), .d (.int .u64), .d (.int .u64), .d (.int .u64), .d (.int .i64), .full (.int .u8)], .cells [.d (.int .u64), .d (.sl (.int .u64)), .own 2, .d (.int .u64), .d (.int .u64), .d (.int .u64), .d (.int .u64), .d (.int .u64), .d (.int .i64), .full (.int .u8)], .tip (.st 0)], [2, 4, 5, 6, 8], [.one (.ptr 0 0), .one (.ptr 1 0), .one (.d (.int .u64)), .one (.d (.sl (.int .u8))), .one (.d (.int .u64))], 3⟩
noncomputable def r41_Decode_Q11 (o : r41_Decode_O) (nx1 : HL TB.den r41_Decode_T1.hs → Prop) : Exit → TSt TB.den → Prop := thenT TB (fun s => r41_Decode_T1.mat TB 0 s nx1) (blockT TB 0 (r41_Decode_Q10 o))
noncomputable def r41_Decode_L1 (o : r41_Decode_O) (nx1 : HL TB.den r41_Decode_T1.hs → Prop) (i : HL TB.den r41_Decode_T1.hs) : Prop := WP TB r41_Decode_cx 160 0 (cA (cA (cB (cA (cB (cB (cB (cB (cB (cB (cB (cB (cB r41_Decode_code))))))))))))) .no (r41_Decode_T1.fill TB i) (r41_Decode_Q11 o nx1)
noncomputable def r41_Decode_A16 (o : r41_Decode_O) : An TB := .lp [.tokc 1 2 (.st 0)] r41_Decode_T1 (r41_Decode_L1 o) fun nx1 => .no
noncomputable def r41_Decode_A17 (o : r41_Decode_O) : An TB := .nd [] (.nd [] .no [] (r41_Decode_A16 o)) [] (.nd [] .no [] (.nd [] .no [] (r41_Decode_A9 o)))
noncomputable def r41_Decode_Q18 (o : r41_Decode_O) : Exit → TSt TB.den → Prop := thenT TB (fun s => ghs TB [] s fun s => WP TB r41_Decode_cx 160 0 (cB (cB (cB (cB (cB (cB (cB (cB (cB r41_Decode_code))))))))) (r41_Decode_A17 o) s (retTQ TB r41_Decode_cx r41_Decode_sh r41_Decode_rs o)) (retTQ TB r41_Decode_cx r41_Decode_sh r41_Decode_rs o)
def r41_Decode_TJ1 : Tm := ⟨[0, 1], [.cells [.d (.int .u64), .full (.int .u64), .full (.st 0), .d (.int .u64), .d (.int .u64), .d (.int .u64), .d (.int .u64), .d (.int .u64), .d (.int .i64), .full (.int .u8)], .cells [.d (.int .u64), .d (.sl (.int .u64)), .full (.st 0), .d (.int .u64), .d (.int .u64), .d (.int .u64), .d (.int .u64), .d (.int .u64), .d (.int .i64), .full (.int .u8)]], [2, 4, 5, 6, 45], [.one (.ptr 0 0), .one (.ptr 1 0), .one (.d (.int .u64)), .one (.d (.sl (.int .u8))), .one (.d (.bool))], 2⟩
noncomputable def r41_Decode_J1d (o : r41_Decode_O) (i : HL TB.den r41_Decode_TJ1.hs) : Prop := ghs TB [] (r41_Decode_TJ1.fill TB i) fun s => WP TB r41_Decode_cx 160 0 (cB (cA (cB (cB (cB (cB (cB (cB (cB (cB r41_Decode_code)))))))))) .no s (r41_Decode_Q18 o)
structure r41_Decode_J1 (o : r41_Decode_O) (i : HL TB.den r41_Decode_TJ1.hs) : Prop where
  h : r41_Decode_J1d o i
noncomputable def r41_Decode_A20 (o : r41_Decode_O) : An TB := .nd [] (.jn r41_Decode_TJ1 (r41_Decode_J1 o) [] .no [] .no) [] (r41_Decode_A17 o)
noncomputable def r41_Decode_A22 (o : r41_Decode_O) : An TB := .nd [] .no [] (.nd [] .no [] (.nd [] .no [] (r41_Decode_A20 o)))
noncomputable def r41_Decode_A24 (o : r41_Decode_O) : An TB := .nd [] .no [] (.nd [] .no [] (.nd [] .no [] (r41_Decode_A22 o)))
noncomputable def r41_Decode_an (o : r41_Decode_O) : An TB := .nd [] .no [] (.nd [] .no [] (r41_Decode_A24 o))
noncomputable def r41_Decode_Body (x : r41_Decode_I) (o : r41_Decode_O) : Prop := WPh TB r41_Decode_cx 160 0 r41_Decode_code (r41_Decode_an o) (r41_Decode_sh.st TB x) (retTQ TB r41_Decode_cx r41_Decode_sh r41_Decode_rs o)
set_option maxRecDepth 100000 in
theorem r41_Decode_obl (o : r41_Decode_O) : OblH TB r41_Decode_cx 160 0 r41_Decode_code (r41_Decode_an o) (retTQ TB r41_Decode_cx r41_Decode_sh r41_Decode_rs o) :=
  OblH.of_eq (X := (True ∧ (True ∧ (True ∧ ((True ∧ ((True ∧ True) ∧ True)) ∧ (True ∧ (True ∧ ((True ∧ ((True ∧ True) ∧ True)) ∧ (True ∧ ((True ∧ (∀ i, (r41_Decode_J1 o) i = (r41_Decode_J1d o) i) ∧ ((True ∧ True) ∧ True)) ∧ ((True ∧ ((∀ nx i, (r41_Decode_L1 o) nx i = (r41_Decode_L1 o) nx i) ∧ ∀ nx1 : HL TB.den r41_Decode_T1.hs → Prop, ((True ∧ (True ∧ True)) ∧ ((True ∧ (True ∧ ((True ∧ ((True ∧ True) ∧ True)) ∧ (True ∧ (True ∧ ((True ∧ ((True ∧ True) ∧ True)) ∧ True)))))) ∧ True)))) ∧ (True ∧ (True ∧ ((True ∧ ((True ∧ True) ∧ True)) ∧ (True ∧ (True ∧ ((True ∧ (∀ i, (r41_Decode_J2 o) i = (r41_Decode_J2d o) i) ∧ ((True ∧ True) ∧ True)) ∧ (True ∧ (True ∧ ((True ∧ (∀ i, (r41_Decode_J3 o) i = (r41_Decode_J3d o) i) ∧ ((True ∧ True) ∧ True)) ∧ (True ∧ ((True ∧ ((True ∧ True) ∧ True)) ∧ (True ∧ True))))))))))))))))))))))) (by kernel_rfl) ⟨trivial, ⟨trivial, ⟨trivial, ⟨⟨trivial, ⟨⟨trivial, trivial⟩, trivial⟩⟩, ⟨trivial, ⟨trivial, ⟨⟨trivial, ⟨⟨trivial, trivial⟩, trivial⟩⟩, ⟨trivial, ⟨⟨trivial, fun _ => propext ⟨fun h => h.1, fun h => ⟨h⟩⟩, ⟨⟨trivial, trivial⟩, trivial⟩⟩, ⟨⟨trivial, ⟨fun _ _ => rfl, fun _ => ⟨⟨trivial, ⟨trivial, trivial⟩⟩, ⟨⟨trivial, ⟨trivial, ⟨⟨trivial, ⟨⟨trivial, trivial⟩, trivial⟩⟩, ⟨trivial, ⟨trivial, ⟨⟨trivial, ⟨⟨trivial, trivial⟩, trivial⟩⟩, trivial⟩⟩⟩⟩⟩⟩, trivial⟩⟩⟩⟩, ⟨trivial, ⟨trivial, ⟨⟨trivial, ⟨⟨trivial, trivial⟩, trivial⟩⟩, ⟨trivial, ⟨trivial, ⟨⟨trivial, fun _ => propext ⟨fun h => h.1, fun h => ⟨h⟩⟩, ⟨⟨trivial, trivial⟩, trivial⟩⟩, ⟨trivial, ⟨trivial, ⟨⟨trivial, fun _ => propext ⟨fun h => h.1, fun h => ⟨h⟩⟩, ⟨⟨trivial, trivial⟩, trivial⟩⟩, ⟨trivial, ⟨⟨trivial, ⟨⟨trivial, trivial⟩, trivial⟩⟩, ⟨trivial, trivial⟩⟩⟩⟩⟩⟩⟩⟩⟩⟩⟩⟩⟩⟩⟩⟩⟩⟩⟩⟩⟩⟩
set_option maxRecDepth 100000 in
theorem r41_Decode_snd {x : r41_Decode_I} {o : r41_Decode_O} (h : r41_Decode_Body x o) : SoundH Try.prog r41_Decode_sh.f ((r41_Decode_sh.args idf x).map (er TB)) ((r41_Decode_sh.obs idf x).map (erO TB)) (er TB (r41_Decode_sh.val idf o)) ((r41_Decode_sh.ops idf o).map (erO TB)) :=
  Con.soundH (c := r41_Decode_sh) (C := r41_Decode_cx) TBok ⟨inf_ok, (all_cons r41_take_ok (all_cons r41_list_ok (all_cons r41_takes_ok (all_cons r41_Valid_ok all_nil)))), all_nil⟩ mix Try.func25 (show Try.f25.body = some r41_Decode_code by kernel_rfl) (show Try.f25.ntmps = 160 by kernel_rfl) (show Try.f25.results.toList = r41_Decode_rs by kernel_rfl) rfl h (r41_Decode_obl o)
set_option maxRecDepth 100000 in
theorem r41_Decode_in {p0 : List Int} {r0 : TTx} {r1 : Int} (h :
((By p0 ∧ p0.length ≤ 137438953472 ∧ 0 ≤ (8 : Int) ∧ (8 : Int) ≤ 8) ∧ ∀ (r4 : Int) (r5 : List Int) (r6 : Bool), (r4 = (tkS p0 (8 : Int)).n ∧ r5 = (tkS p0 (8 : Int)).r ∧ r6 = (tkS p0 (8 : Int)).ok) → ((!r6) = true →
 0 = r0.Anchor ∧ ([] : List Int) = r0.Marks ∧ ([] : List TOut) = r0.Outs ∧ 0 = r0.Deposit ∧ 0 = r0.Withdraw ∧ 0 = r0.Fee ∧ 0 = r0.Account ∧ 0 = r0.Nonce ∧ 0 = r0.Expiry ∧ ([] : List Int) = r0.Proof ∧ 2 = r1) ∧
((!r6) = false →
(By r5 ∧ r5.length ≤ 137438953472 ∧ 0 ≤ (4 : Int) ∧ (4 : Int) ≤ 4096) ∧ ∀ (r10 : List Int) (r11 : List Int) (r12 : Bool), (r10 = (tklS r5 (4 : Int)).l ∧ r11 = (tklS r5 (4 : Int)).r ∧ r12 = (tklS r5 (4 : Int)).ok) → ((!r12) = true →
 0 = r0.Anchor ∧ ([] : List Int) = r0.Marks ∧ ([] : List TOut) = r0.Outs ∧ 0 = r0.Deposit ∧ 0 = r0.Withdraw ∧ 0 = r0.Fee ∧ 0 = r0.Account ∧ 0 = r0.Nonce ∧ 0 = r0.Expiry ∧ ([] : List Int) = r0.Proof ∧ 2 = r1) ∧
((!r12) = false →
(By r11 ∧ r11.length ≤ 137438953472 ∧ 0 ≤ (4 : Int) ∧ (4 : Int) ≤ 8) ∧ ∀ (r16 : Int) (r17 : List Int) (r18 : Bool), (r16 = (tkS r11 (4 : Int)).n ∧ r17 = (tkS r11 (4 : Int)).r ∧ r18 = (tkS r11 (4 : Int)).ok) → ((!r18) = true →
 r41_Decode_J1 (r0.Anchor, r0.Marks, r0.Outs, r0.Deposit, r0.Withdraw, r0.Fee, r0.Account, r0.Nonce, r0.Expiry, r0.Proof, r1, ()) (r16, r17, true, (0 : Int), (([] : List Int) : List Int), (([] : List TOut) : List TOut), (0 : Int), (0 : Int), (0 : Int), (0 : Int), (0 : Int), (0 : Int), (([] : List Int) : List Int), r4, r10, (([] : List TOut) : List TOut), (0 : Int), (0 : Int), (0 : Int), (0 : Int), (0 : Int), (0 : Int), (([] : List Int) : List Int), ())) ∧
((!r18) = false →
 r41_Decode_J1 (r0.Anchor, r0.Marks, r0.Outs, r0.Deposit, r0.Withdraw, r0.Fee, r0.Account, r0.Nonce, r0.Expiry, r0.Proof, r1, ()) (r16, r17, (decide (4 < r16) : Bool), (0 : Int), (([] : List Int) : List Int), (([] : List TOut) : List TOut), (0 : Int), (0 : Int), (0 : Int), (0 : Int), (0 : Int), (0 : Int), (([] : List Int) : List Int), r4, r10, (([] : List TOut) : List TOut), (0 : Int), (0 : Int), (0 : Int), (0 : Int), (0 : Int), (0 : Int), (([] : List Int) : List Int), ())))))) : r41_Decode_Body (p0, ()) (r0.Anchor, r0.Marks, r0.Outs, r0.Deposit, r0.Withdraw, r0.Fee, r0.Account, r0.Nonce, r0.Expiry, r0.Proof, r1, ()) := WPh.of_eq (by kernel_rfl) h
set_option maxRecDepth 100000 in
theorem r41_Decode_J1_in {r0 : TTx} {r1 : Int} {s5 : Int} {s6 : List Int} {s45 : Bool} {h0_0 : Int} {h0_1 : List Int} {h0_2 : List TOut} {h0_3 : Int} {h0_4 : Int} {h0_5 : Int} {h0_6 : Int} {h0_7 : Int} {h0_8 : Int} {h0_9 : List Int} {h1_0 : Int} {h1_1 : List Int} {h1_2 : List TOut} {h1_3 : Int} {h1_4 : Int} {h1_5 : Int} {h1_6 : Int} {h1_7 : Int} {h1_8 : Int} {h1_9 : List Int} (h :
((s45 = true →
 0 = r0.Anchor ∧ ([] : List Int) = r0.Marks ∧ ([] : List TOut) = r0.Outs ∧ 0 = r0.Deposit ∧ 0 = r0.Withdraw ∧ 0 = r0.Fee ∧ 0 = r0.Account ∧ 0 = r0.Nonce ∧ 0 = r0.Expiry ∧ ([] : List Int) = r0.Proof ∧ 2 = r1) ∧
(s45 = false →
(h1_2 = h1_2) ∧ Md.Loop (s5, s6, (0 : Int), h0_0, h0_1, h0_2, h0_3, h0_4, h0_5, h0_6, h0_7, h0_8, h0_9, h1_0, h1_1, h1_3, h1_4, h1_5, h1_6, h1_7, h1_8, h1_9, h1_2, ()) (r41_Decode_L1 (r0.Anchor, r0.Marks, r0.Outs, r0.Deposit, r0.Withdraw, r0.Fee, r0.Account, r0.Nonce, r0.Expiry, r0.Proof, r1, ()))))) : r41_Decode_J1 (r0.Anchor, r0.Marks, r0.Outs, r0.Deposit, r0.Withdraw, r0.Fee, r0.Account, r0.Nonce, r0.Expiry, r0.Proof, r1, ()) (s5, s6, s45, h0_0, h0_1, h0_2, h0_3, h0_4, h0_5, h0_6, h0_7, h0_8, h0_9, h1_0, h1_1, h1_2, h1_3, h1_4, h1_5, h1_6, h1_7, h1_8, h1_9, ()) := ⟨mpr_of (by kernel_rfl) h⟩
set_option maxRecDepth 100000 in
theorem r41_Decode_J2_in {r0 : TTx} {r1 : Int} {s5 : Int} {s6 : List Int} {s130 : Bool} {h0_0 : Int} {h0_1 : List Int} {h0_2 : List TOut} {h0_3 : Int} {h0_4 : Int} {h0_5 : Int} {h0_6 : Int} {h0_7 : Int} {h0_8 : Int} {h0_9 : List Int} {h1_0 : Int} {h1_1 : List Int} {h1_3 : Int} {h1_4 : Int} {h1_5 : Int} {h1_6 : Int} {h1_7 : Int} {h1_8 : Int} {h1_9 : List Int} {g2 : List TOut} (h :
((s130 = true →
 0 = r0.Anchor ∧ ([] : List Int) = r0.Marks ∧ ([] : List TOut) = r0.Outs ∧ 0 = r0.Deposit ∧ 0 = r0.Withdraw ∧ 0 = r0.Fee ∧ 0 = r0.Account ∧ 0 = r0.Nonce ∧ 0 = r0.Expiry ∧ ([] : List Int) = r0.Proof ∧ 2 = r1) ∧
(s130 = false →
(By s6 ∧ s6.length ≤ 137438953472 ∧ 0 ≤ (4 : Int) ∧ (4 : Int) ≤ 8) ∧ ∀ (r83 : Int) (r84 : List Int) (r85 : Bool), (r83 = (tkS s6 (4 : Int)).n ∧ r84 = (tkS s6 (4 : Int)).r ∧ r85 = (tkS s6 (4 : Int)).ok) → ((!r85) = true →
(g2 = g2) ∧ r41_Decode_J3 (r0.Anchor, r0.Marks, r0.Outs, r0.Deposit, r0.Withdraw, r0.Fee, r0.Account, r0.Nonce, r0.Expiry, r0.Proof, r1, ()) (r84, true, h0_0, h0_1, h0_2, h0_3, h0_4, h0_5, h0_6, h0_7, h0_8, h0_9, h1_0, h1_1, h1_3, h1_4, h1_5, h1_6, h1_7, (IntKind.i64.wrap s5 : Int), h1_9, g2, ())) ∧
((!r85) = false →
 let v86 : Bool := (r83 != (IntKind.u64.wrap (r84.length : Int)))
(g2 = g2) ∧ r41_Decode_J3 (r0.Anchor, r0.Marks, r0.Outs, r0.Deposit, r0.Withdraw, r0.Fee, r0.Account, r0.Nonce, r0.Expiry, r0.Proof, r1, ()) (r84, v86, h0_0, h0_1, h0_2, h0_3, h0_4, h0_5, h0_6, h0_7, h0_8, h0_9, h1_0, h1_1, h1_3, h1_4, h1_5, h1_6, h1_7, (IntKind.i64.wrap s5 : Int), h1_9, g2, ()))))) : r41_Decode_J2 (r0.Anchor, r0.Marks, r0.Outs, r0.Deposit, r0.Withdraw, r0.Fee, r0.Account, r0.Nonce, r0.Expiry, r0.Proof, r1, ()) (s5, s6, s130, h0_0, h0_1, h0_2, h0_3, h0_4, h0_5, h0_6, h0_7, h0_8, h0_9, h1_0, h1_1, h1_3, h1_4, h1_5, h1_6, h1_7, h1_8, h1_9, g2, ()) := ⟨mpr_of (by kernel_rfl) h⟩
set_option maxRecDepth 100000 in
theorem r41_Decode_J3_in {r0 : TTx} {r1 : Int} {s6 : List Int} {s149 : Bool} {h0_0 : Int} {h0_1 : List Int} {h0_2 : List TOut} {h0_3 : Int} {h0_4 : Int} {h0_5 : Int} {h0_6 : Int} {h0_7 : Int} {h0_8 : Int} {h0_9 : List Int} {h1_0 : Int} {h1_1 : List Int} {h1_3 : Int} {h1_4 : Int} {h1_5 : Int} {h1_6 : Int} {h1_7 : Int} {h1_8 : Int} {h1_9 : List Int} {g2 : List TOut} (h :
((s149 = true →
 0 = r0.Anchor ∧ ([] : List Int) = r0.Marks ∧ ([] : List TOut) = r0.Outs ∧ 0 = r0.Deposit ∧ 0 = r0.Withdraw ∧ 0 = r0.Fee ∧ 0 = r0.Account ∧ 0 = r0.Nonce ∧ 0 = r0.Expiry ∧ ([] : List Int) = r0.Proof ∧ 2 = r1) ∧
(s149 = false →
(([] : List Int).length + s6.length) * 1 ≤ 140737488355328 ∧ ([] : List Int).length + s6.length ≤ maxLen ∧ (TR (TTx.mk h1_0 h1_1 g2 h1_3 h1_4 h1_5 h1_6 h1_7 h1_8 (([] : List Int) ++ s6)) ∧ TL (TTx.mk h1_0 h1_1 g2 h1_3 h1_4 h1_5 h1_6 h1_7 h1_8 (([] : List Int) ++ s6))) ∧ let r87 : Int := validE (TTx.mk h1_0 h1_1 g2 h1_3 h1_4 h1_5 h1_6 h1_7 h1_8 (([] : List Int) ++ s6))
((r87 != 0) = true →
 0 = r0.Anchor ∧ ([] : List Int) = r0.Marks ∧ ([] : List TOut) = r0.Outs ∧ 0 = r0.Deposit ∧ 0 = r0.Withdraw ∧ 0 = r0.Fee ∧ 0 = r0.Account ∧ 0 = r0.Nonce ∧ 0 = r0.Expiry ∧ ([] : List Int) = r0.Proof ∧ 2 = r1) ∧
((r87 != 0) = false →
 h1_0 = r0.Anchor ∧ h1_1 = r0.Marks ∧ g2 = r0.Outs ∧ h1_3 = r0.Deposit ∧ h1_4 = r0.Withdraw ∧ h1_5 = r0.Fee ∧ h1_6 = r0.Account ∧ h1_7 = r0.Nonce ∧ h1_8 = r0.Expiry ∧ ([] : List Int) ++ s6 = r0.Proof ∧ 0 = r1)))) : r41_Decode_J3 (r0.Anchor, r0.Marks, r0.Outs, r0.Deposit, r0.Withdraw, r0.Fee, r0.Account, r0.Nonce, r0.Expiry, r0.Proof, r1, ()) (s6, s149, h0_0, h0_1, h0_2, h0_3, h0_4, h0_5, h0_6, h0_7, h0_8, h0_9, h1_0, h1_1, h1_3, h1_4, h1_5, h1_6, h1_7, h1_8, h1_9, g2, ()) := ⟨mpr_of (by kernel_rfl) h⟩
def r41_Decode_B1 (r0 : TTx) (r1 : Int) (k1 : List Int → Int → List TOut → Prop) (s5 : Int) (h0_0 : Int) (h0_1 : List Int) (h0_2 : List TOut) (h0_3 : Int) (h0_4 : Int) (h0_5 : Int) (h0_6 : Int) (h0_7 : Int) (h0_8 : Int) (h0_9 : List Int) (h1_0 : Int) (h1_1 : List Int) (h1_3 : Int) (h1_4 : Int) (h1_5 : Int) (h1_6 : Int) (h1_7 : Int) (h1_8 : Int) (h1_9 : List Int) (s6 : List Int) (s8 : Int) (g2 : List TOut) : Prop :=
(decide (s8 < s5) = true →
(By s6 ∧ s6.length ≤ 137438953472 ∧ 0 ≤ (3 : Int) ∧ (3 : Int) ≤ 4096) ∧ ∀ (r58 : List Int) (r59 : List Int) (r60 : Bool), (r58 = (tksS s6 (3 : Int)).l ∧ r59 = (tksS s6 (3 : Int)).r ∧ r60 = (tksS s6 (3 : Int)).ok) → ((!r60) = true →
 0 = r0.Anchor ∧ ([] : List Int) = r0.Marks ∧ ([] : List TOut) = r0.Outs ∧ 0 = r0.Deposit ∧ 0 = r0.Withdraw ∧ 0 = r0.Fee ∧ 0 = r0.Account ∧ 0 = r0.Nonce ∧ 0 = r0.Expiry ∧ ([] : List Int) = r0.Proof ∧ 2 = r1) ∧
((!r60) = false →
 0 < (r58.length : Int) ∧ 1 < (r58.length : Int) ∧ 2 < (r58.length : Int) ∧ (By r59 ∧ r59.length ≤ 137438953472 ∧ 0 ≤ (3 : Int) ∧ (3 : Int) ≤ 4096) ∧ ∀ (r64 : List Int) (r65 : List Int) (r66 : Bool), (r64 = (tklS r59 (3 : Int)).l ∧ r65 = (tklS r59 (3 : Int)).r ∧ r66 = (tklS r59 (3 : Int)).ok) → ((!r66) = true →
 0 = r0.Anchor ∧ ([] : List Int) = r0.Marks ∧ ([] : List TOut) = r0.Outs ∧ 0 = r0.Deposit ∧ 0 = r0.Withdraw ∧ 0 = r0.Fee ∧ 0 = r0.Account ∧ 0 = r0.Nonce ∧ 0 = r0.Expiry ∧ ([] : List Int) = r0.Proof ∧ 2 = r1) ∧
((!r66) = false →
 g2.length = g2.length ∧ (g2.length + [TOut.mk (ix r58 0) (ix r58 1) (ix r58 2) r64].length) * 48 ≤ 140737488355328 ∧ g2.length + [TOut.mk (ix r58 0) (ix r58 1) (ix r58 2) r64].length ≤ maxLen ∧ let v67 : List TOut := g2 ++ [TOut.mk (ix r58 0) (ix r58 1) (ix r58 2) r64]
(v67 = v67) ∧ k1 r65 (IntKind.u64.wrap (s8 + 1) : Int) v67))) ∧
(decide (s8 < s5) = false →
(By s6 ∧ s6.length ≤ 137438953472 ∧ 0 ≤ (5 : Int) ∧ (5 : Int) ≤ 4096) ∧ ∀ (r71 : List Int) (r72 : List Int) (r73 : Bool), (r71 = (tksS s6 (5 : Int)).l ∧ r72 = (tksS s6 (5 : Int)).r ∧ r73 = (tksS s6 (5 : Int)).ok) → ((!r73) = true →
 0 = r0.Anchor ∧ ([] : List Int) = r0.Marks ∧ ([] : List TOut) = r0.Outs ∧ 0 = r0.Deposit ∧ 0 = r0.Withdraw ∧ 0 = r0.Fee ∧ 0 = r0.Account ∧ 0 = r0.Nonce ∧ 0 = r0.Expiry ∧ ([] : List Int) = r0.Proof ∧ 2 = r1) ∧
((!r73) = false →
 0 < (r71.length : Int) ∧ 1 < (r71.length : Int) ∧ 2 < (r71.length : Int) ∧ 3 < (r71.length : Int) ∧ 4 < (r71.length : Int) ∧ (By r72 ∧ r72.length ≤ 137438953472 ∧ 0 ≤ (4 : Int) ∧ (4 : Int) ≤ 8) ∧ ∀ (r77 : Int) (r78 : List Int) (r79 : Bool), (r77 = (tkS r72 (4 : Int)).n ∧ r78 = (tkS r72 (4 : Int)).r ∧ r79 = (tkS r72 (4 : Int)).ok) → ((!r79) = true →
(g2 = g2) ∧ r41_Decode_J2 (r0.Anchor, r0.Marks, r0.Outs, r0.Deposit, r0.Withdraw, r0.Fee, r0.Account, r0.Nonce, r0.Expiry, r0.Proof, r1, ()) (r77, r78, true, h0_0, h0_1, h0_2, h0_3, h0_4, h0_5, h0_6, h0_7, h0_8, h0_9, h1_0, h1_1, (ix r71 0 : Int), (ix r71 1 : Int), (ix r71 2 : Int), (ix r71 3 : Int), (ix r71 4 : Int), h1_8, h1_9, g2, ())) ∧
((!r79) = false →
(g2 = g2) ∧ r41_Decode_J2 (r0.Anchor, r0.Marks, r0.Outs, r0.Deposit, r0.Withdraw, r0.Fee, r0.Account, r0.Nonce, r0.Expiry, r0.Proof, r1, ()) (r77, r78, (decide (1048576 < r77) : Bool), h0_0, h0_1, h0_2, h0_3, h0_4, h0_5, h0_6, h0_7, h0_8, h0_9, h1_0, h1_1, (ix r71 0 : Int), (ix r71 1 : Int), (ix r71 2 : Int), (ix r71 3 : Int), (ix r71 4 : Int), h1_8, h1_9, g2, ()))))
set_option maxRecDepth 100000 in
theorem r41_Decode_lp1 {r0 : TTx} {r1 : Int} {s5 : Int} {h0_0 : Int} {h0_1 : List Int} {h0_2 : List TOut} {h0_3 : Int} {h0_4 : Int} {h0_5 : Int} {h0_6 : Int} {h0_7 : Int} {h0_8 : Int} {h0_9 : List Int} {h1_0 : Int} {h1_1 : List Int} {h1_3 : Int} {h1_4 : Int} {h1_5 : Int} {h1_6 : Int} {h1_7 : Int} {h1_8 : Int} {h1_9 : List Int} {s6 : List Int} {s8 : Int} {g2 : List TOut} (inv : List Int → Int → List TOut → Prop) (μ : List Int → Int → List TOut → Nat) (h0 : inv s6 s8 g2) (hs : ∀ (s6 : List Int) (s8 : Int) (g2 : List TOut), inv s6 s8 g2 → r41_Decode_B1 r0 r1 (fun s6q s8q g2q => inv s6q s8q g2q ∧ μ s6q s8q g2q < μ s6 s8 g2) s5 h0_0 h0_1 h0_2 h0_3 h0_4 h0_5 h0_6 h0_7 h0_8 h0_9 h1_0 h1_1 h1_3 h1_4 h1_5 h1_6 h1_7 h1_8 h1_9 s6 s8 g2) : Md.Loop (s5, s6, s8, h0_0, h0_1, h0_2, h0_3, h0_4, h0_5, h0_6, h0_7, h0_8, h0_9, h1_0, h1_1, h1_3, h1_4, h1_5, h1_6, h1_7, h1_8, h1_9, g2, ()) (r41_Decode_L1 (r0.Anchor, r0.Marks, r0.Outs, r0.Deposit, r0.Withdraw, r0.Fee, r0.Account, r0.Nonce, r0.Expiry, r0.Proof, r1, ())) :=
  ⟨⟨fun s : Int × (List Int) × Int × Int × (List Int) × (List TOut) × Int × Int × Int × Int × Int × Int × (List Int) × Int × (List Int) × Int × Int × Int × Int × Int × Int × (List Int) × (List TOut) × Unit => (s.1 = s5 ∧ s.2.2.2.1 = h0_0 ∧ s.2.2.2.2.1 = h0_1 ∧ s.2.2.2.2.2.1 = h0_2 ∧ s.2.2.2.2.2.2.1 = h0_3 ∧ s.2.2.2.2.2.2.2.1 = h0_4 ∧ s.2.2.2.2.2.2.2.2.1 = h0_5 ∧ s.2.2.2.2.2.2.2.2.2.1 = h0_6 ∧ s.2.2.2.2.2.2.2.2.2.2.1 = h0_7 ∧ s.2.2.2.2.2.2.2.2.2.2.2.1 = h0_8 ∧ s.2.2.2.2.2.2.2.2.2.2.2.2.1 = h0_9 ∧ s.2.2.2.2.2.2.2.2.2.2.2.2.2.1 = h1_0 ∧ s.2.2.2.2.2.2.2.2.2.2.2.2.2.2.1 = h1_1 ∧ s.2.2.2.2.2.2.2.2.2.2.2.2.2.2.2.1 = h1_3 ∧ s.2.2.2.2.2.2.2.2.2.2.2.2.2.2.2.2.1 = h1_4 ∧ s.2.2.2.2.2.2.2.2.2.2.2.2.2.2.2.2.2.1 = h1_5 ∧ s.2.2.2.2.2.2.2.2.2.2.2.2.2.2.2.2.2.2.1 = h1_6 ∧ s.2.2.2.2.2.2.2.2.2.2.2.2.2.2.2.2.2.2.2.1 = h1_7 ∧ s.2.2.2.2.2.2.2.2.2.2.2.2.2.2.2.2.2.2.2.2.1 = h1_8 ∧ s.2.2.2.2.2.2.2.2.2.2.2.2.2.2.2.2.2.2.2.2.2.1 = h1_9) ∧ inv s.2.1 s.2.2.1 s.2.2.2.2.2.2.2.2.2.2.2.2.2.2.2.2.2.2.2.2.2.2.1, fun s : Int × (List Int) × Int × Int × (List Int) × (List TOut) × Int × Int × Int × Int × Int × Int × (List Int) × Int × (List Int) × Int × Int × Int × Int × Int × Int × (List Int) × (List TOut) × Unit => μ s.2.1 s.2.2.1 s.2.2.2.2.2.2.2.2.2.2.2.2.2.2.2.2.2.2.2.2.2.2.1, ⟨⟨rfl, rfl, rfl, rfl, rfl, rfl, rfl, rfl, rfl, rfl, rfl, rfl, rfl, rfl, rfl, rfl, rfl, rfl, rfl, rfl⟩, h0⟩, fun (s5p, s6p, s8p, h0_0p, h0_1p, h0_2p, h0_3p, h0_4p, h0_5p, h0_6p, h0_7p, h0_8p, h0_9p, h1_0p, h1_1p, h1_3p, h1_4p, h1_5p, h1_6p, h1_7p, h1_8p, h1_9p, g2p, ()) ⟨⟨eq0, eq1, eq2, eq3, eq4, eq5, eq6, eq7, eq8, eq9, eq10, eq11, eq12, eq13, eq14, eq15, eq16, eq17, eq18, eq19⟩, hi⟩ => by
    have eq0 : s5p = s5 := eq0; subst s5p; have eq1 : h0_0p = h0_0 := eq1; subst h0_0p; have eq2 : h0_1p = h0_1 := eq2; subst h0_1p; have eq3 : h0_2p = h0_2 := eq3; subst h0_2p; have eq4 : h0_3p = h0_3 := eq4; subst h0_3p; have eq5 : h0_4p = h0_4 := eq5; subst h0_4p; have eq6 : h0_5p = h0_5 := eq6; subst h0_5p; have eq7 : h0_6p = h0_6 := eq7; subst h0_6p; have eq8 : h0_7p = h0_7 := eq8; subst h0_7p; have eq9 : h0_8p = h0_8 := eq9; subst h0_8p; have eq10 : h0_9p = h0_9 := eq10; subst h0_9p; have eq11 : h1_0p = h1_0 := eq11; subst h1_0p; have eq12 : h1_1p = h1_1 := eq12; subst h1_1p; have eq13 : h1_3p = h1_3 := eq13; subst h1_3p; have eq14 : h1_4p = h1_4 := eq14; subst h1_4p; have eq15 : h1_5p = h1_5 := eq15; subst h1_5p; have eq16 : h1_6p = h1_6 := eq16; subst h1_6p; have eq17 : h1_7p = h1_7 := eq17; subst h1_7p; have eq18 : h1_8p = h1_8 := eq18; subst h1_8p; have eq19 : h1_9p = h1_9 := eq19; subst h1_9p; exact mpr_of (by kernel_rfl) ((congrArg (fun k => r41_Decode_B1 r0 r1 k s5 h0_0 h0_1 h0_2 h0_3 h0_4 h0_5 h0_6 h0_7 h0_8 h0_9 h1_0 h1_1 h1_3 h1_4 h1_5 h1_6 h1_7 h1_8 h1_9 s6p s8p g2p) (lpk3 (⟨rfl, rfl, rfl, rfl, rfl, rfl, rfl, rfl, rfl, rfl, rfl, rfl, rfl, rfl, rfl, rfl, rfl, rfl, rfl, rfl⟩ : s5 = s5 ∧ h0_0 = h0_0 ∧ h0_1 = h0_1 ∧ h0_2 = h0_2 ∧ h0_3 = h0_3 ∧ h0_4 = h0_4 ∧ h0_5 = h0_5 ∧ h0_6 = h0_6 ∧ h0_7 = h0_7 ∧ h0_8 = h0_8 ∧ h0_9 = h0_9 ∧ h1_0 = h1_0 ∧ h1_1 = h1_1 ∧ h1_3 = h1_3 ∧ h1_4 = h1_4 ∧ h1_5 = h1_5 ∧ h1_6 = h1_6 ∧ h1_7 = h1_7 ∧ h1_8 = h1_8 ∧ h1_9 = h1_9) inv (fun s6q s8q g2q => μ s6q s8q g2q < μ s6p s8p g2p))).mpr (hs s6p s8p g2p hi))⟩⟩
theorem bd25 : Callable Try.prog 25 := ⟨by rw [Try.func25]; kernel_rfl, by rw [Try.func25]; show some _ ≠ some _; decide⟩
theorem r41_Decode_body (p0 : List Int) (h : By p0 ∧ p0.length ≤ 137438953472) : r41_Decode_Body (p0, ()) ((((decS p0).1).Anchor : Int), (((decS p0).1).Marks : List Int), (((decS p0).1).Outs : List TOut), (((decS p0).1).Deposit : Int), (((decS p0).1).Withdraw : Int), (((decS p0).1).Fee : Int), (((decS p0).1).Account : Int), (((decS p0).1).Nonce : Int), (((decS p0).1).Expiry : Int), (((decS p0).1).Proof : List Int), ((decS p0).2 : Int), ()) := by
  obtain ⟨hb, hl⟩ := h
  have no : (∀ u, ¬ Enc u p0) → 0 = (decS p0).1.Anchor ∧ ([] : List Int) = (decS p0).1.Marks ∧ ([] : List TOut) = (decS p0).1.Outs ∧ 0 = (decS p0).1.Deposit ∧ 0 = (decS p0).1.Withdraw ∧ 0 = (decS p0).1.Fee ∧ 0 = (decS p0).1.Account ∧ 0 = (decS p0).1.Nonce ∧ 0 = (decS p0).1.Expiry ∧ ([] : List Int) = (decS p0).1.Proof ∧ 2 = (decS p0).2 := by
    intro h
    rw [decS_no h]
    exact ⟨rfl, rfl, rfl, rfl, rfl, rfl, rfl, rfl, rfl, rfl, rfl⟩
  have ff : ∀ {x : Bool}, (!x) = true → x = false := fun {x} h => by simpa using h
  have tt : ∀ {x : Bool}, (!x) = false → x = true := fun {x} h => by simpa using h
  refine r41_Decode_in (r0 := (decS p0).1) ⟨⟨hb, hl, by omega, by omega⟩, ?_⟩
  rintro _ _ _ ⟨rfl, rfl, rfl⟩
  have hA := tkS_by hb 8
  have lA := tkS_len (b := p0) 8
  have sA := tkS_snd hb 8
  have cA : ∀ t, Enc t p0 → tkS p0 8 = ⟨t.Anchor, encL t.Marks ++ (dig 4 (len4 t.Outs.length) ++ (t.Outs.flatMap encO ++ encTail t)), true⟩ := fun t ht => tkS_cpl 8 (by rw [← encT_split]; exact ht.e.symm) ht.r.a.1 ht.r.a.2
  have sA : (tkS p0 8).ok = true → p0 = dig 8 (tkS p0 8).n ++ (tkS p0 8).r ∧ U64 (tkS p0 8).n := sA
  generalize tkS p0 8 = A at *
  refine ⟨fun e => no fun t ht => (by have := ff e; rw [cA t ht] at this; cases this), fun eA => ?_⟩
  have eA := tt eA
  refine ⟨⟨hA, by omega, by omega, by omega⟩, ?_⟩
  rintro _ _ _ ⟨rfl, rfl, rfl⟩
  have hM := tklS_by hA 4
  have lM := tklS_len (b := A.r) 4
  have sM := tklS_snd (m := 4) hA
  have cM : ∀ t, Enc t p0 → tklS A.r 4 = ⟨t.Marks, dig 4 (len4 t.Outs.length) ++ (t.Outs.flatMap encO ++ encTail t), true⟩ := fun t ht => by
    rw [cA t ht]
    exact tklS_cpl rfl (by omega) (by have := ht.v.ml; omega) ht.r.m
  generalize tklS A.r 4 = M at *
  refine ⟨fun e => no fun t ht => (by have := ff e; rw [cM t ht] at this; cases this), fun eM => ?_⟩
  have eM := tt eM
  refine ⟨⟨hM, by omega, by omega, by omega⟩, ?_⟩
  rintro _ _ _ ⟨rfl, rfl, rfl⟩
  have hC := tkS_by hM 4
  have lC := tkS_len (b := M.r) 4
  have sC := tkS_snd hM 4
  have cC : ∀ t, Enc t p0 → tkS M.r 4 = ⟨len4 t.Outs.length, t.Outs.flatMap encO ++ encTail t, true⟩ := fun t ht => by
    rw [cM t ht]
    exact tkS_cpl 4 rfl (len4_bd _).1 (len4_bd _).2
  have sC : (tkS M.r 4).ok = true → M.r = dig 4 (tkS M.r 4).n ++ (tkS M.r 4).r ∧ 0 ≤ (tkS M.r 4).n ∧ (tkS M.r 4).n < 4294967296 := sC
  generalize tkS M.r 4 = C at *
  have j1 : ∀ s, (s = true → ∀ u, ¬ Enc u p0) → (s = false → C.ok = true ∧ C.n ≤ 4) → r41_Decode_J1 ((decS p0).1.Anchor, (decS p0).1.Marks, (decS p0).1.Outs, (decS p0).1.Deposit, (decS p0).1.Withdraw, (decS p0).1.Fee, (decS p0).1.Account, (decS p0).1.Nonce, (decS p0).1.Expiry, (decS p0).1.Proof, (decS p0).2, ()) (C.n, C.r, s, (0 : Int), ([] : List Int), ([] : List TOut), (0 : Int), (0 : Int), (0 : Int), (0 : Int), (0 : Int), (0 : Int), ([] : List Int), A.n, M.l, ([] : List TOut), (0 : Int), (0 : Int), (0 : Int), (0 : Int), (0 : Int), (0 : Int), ([] : List Int), ()) := by
    intro s hs hs'
    refine r41_Decode_J1_in (r0 := (decS p0).1) ⟨fun e => no (hs e), fun e => ⟨rfl, ?_⟩⟩
    obtain ⟨eC, eC4⟩ := hs' e
    obtain ⟨kA1, kA2⟩ := sA eA
    obtain ⟨kM1, kM2, kM3⟩ := sM eM
    obtain ⟨kC1, kC2, kC3⟩ := sC eC
    refine r41_Decode_lp1 (r0 := (decS p0).1) (fun b i g => 0 ≤ i ∧ i ≤ C.n ∧ By b ∧ b.length ≤ 137438953472 ∧ (g.length : Int) = i ∧ C.r = g.flatMap encO ++ b ∧ (∀ x ∈ g, OR x ∧ x.Cipher.length ≤ 3) ∧
      (∀ t, Enc t p0 → C.n = t.Outs.length ∧ g = t.Outs.take i.toNat ∧ b = (t.Outs.drop i.toNat).flatMap encO ++ encTail t)) (fun _ i _ => (C.n - i).toNat) ⟨by omega, kC2, hC, by omega, rfl, rfl, (by intro x hx; cases hx), fun t ht => ?_⟩ ?_
    · rw [cC t ht]
      have := ht.v.ol
      exact ⟨len4_in (by omega), by simp, by simp⟩
    rintro b i g ⟨g0, g1, hbb, hbl, g2, g3, g4, gc⟩
    refine ⟨fun hh => ?_, fun hh => ?_⟩
    · have hh := of_decide_eq_true hh
      refine ⟨⟨hbb, hbl, by omega, by omega⟩, ?_⟩
      rintro _ _ _ ⟨rfl, rfl, rfl⟩
      have h1 := tksS_by hbb 3
      have l1 := tksS_len (b := b) 3
      have s1 := tksS_snd hbb 3
      have c1 : ∀ t, Enc t p0 → tksS b 3 = ⟨[(ix t.Outs i).Commit, (ix t.Outs i).Point_a0, (ix t.Outs i).Point_a1], encL (ix t.Outs i).Cipher ++ ((t.Outs.drop (i + 1).toNat).flatMap encO ++ encTail t), true⟩ := fun t ht => by
        obtain ⟨t1, t2, t3⟩ := gc t ht
        have hit : i < (t.Outs.length : Int) := by omega
        have hxo := ht.r.o _ (ix_mem t.Outs i g0 hit)
        rw [drop_ix t.Outs i g0 hit, List.flatMap_cons, List.append_assoc, encO_split] at t3
        refine tksS_cpl (l := [(ix t.Outs i).Commit, (ix t.Outs i).Point_a0, (ix t.Outs i).Point_a1]) (by rw [t3]; simp [List.append_assoc]) ?_
        intro x hx'
        simp only [List.mem_cons, List.not_mem_nil, or_false] at hx'
        rcases hx' with rfl | rfl | rfl
        · exact hxo.c
        · exact hxo.p0
        · exact hxo.p1
      have s1 : (tksS b 3).ok = true → b = (tksS b 3).l.flatMap (dig 8) ++ (tksS b 3).r ∧ (tksS b 3).l.length = 3 ∧ Us (tksS b 3).l := s1
      generalize tksS b 3 = X at *
      refine ⟨fun e => no fun t ht => (by have := ff e; rw [c1 t ht] at this; cases this), fun eX => ?_⟩
      obtain ⟨k1, k2, k3⟩ := s1 (tt eX)
      refine ⟨by omega, by omega, by omega, ⟨h1, by omega, by omega, by omega⟩, ?_⟩
      rintro _ _ _ ⟨rfl, rfl, rfl⟩
      have h2 := tklS_by h1 3
      have l2 := tklS_len (b := X.r) 3
      have s2 := tklS_snd (m := 3) h1
      have c2 : ∀ t, Enc t p0 → tklS X.r 3 = ⟨(ix t.Outs i).Cipher, (t.Outs.drop (i + 1).toNat).flatMap encO ++ encTail t, true⟩ := fun t ht => by
        obtain ⟨t1, t2, t3⟩ := gc t ht
        have hit : i < (t.Outs.length : Int) := by omega
        have hxm := ix_mem t.Outs i g0 hit
        rw [c1 t ht]
        exact tklS_cpl rfl (by omega) (by rw [(ht.v.o _ hxm).l]; omega) (ht.r.o _ hxm).ci
      generalize tklS X.r 3 = Y at *
      refine ⟨fun e => no fun t ht => (by have := ff e; rw [c2 t ht] at this; cases this), fun eY => ?_⟩
      obtain ⟨q1, q2, q3⟩ := s2 (tt eY)
      rw [wu (i + 1) (by omega) (by omega)]
      refine ⟨rfl, by simp; omega, by simp; unfold maxLen; omega, rfl, ⟨by omega, by omega, h2, by omega, by simp; omega, ?_, ?_, fun t ht => ?_⟩, by omega⟩
      · rw [g3, k1, List.flatMap_append, List.append_assoc]
        congr 1
        match hX : X.l, k2 with
        | [x, y, z], _ =>
          simp only [List.flatMap_cons, List.flatMap_nil, List.append_nil]
          show _ = encO ⟨ix [x, y, z] 0, ix [x, y, z] 1, ix [x, y, z] 2, Y.l⟩ ++ Y.r
          rw [encO_split, ← q1]
          simp [List.append_assoc, ix]
      · intro x hx
        rcases List.mem_append.1 hx with hx | hx
        · exact g4 x hx
        · rw [List.mem_singleton.1 hx]
          exact ⟨⟨k3 _ (ix_mem _ 0 (by omega) (by omega)), k3 _ (ix_mem _ 1 (by omega) (by omega)), k3 _ (ix_mem _ 2 (by omega) (by omega)), q3⟩, by show Y.l.length ≤ 3; omega⟩
      · obtain ⟨t1, t2, t3⟩ := gc t ht
        have hit : i < (t.Outs.length : Int) := by omega
        refine ⟨t1, ?_, by rw [c2 t ht]⟩
        rw [take_succ_ix t.Outs i g0 hit, t2, c1 t ht, c2 t ht]
        rfl
    · have hh := of_decide_eq_false hh
      have hiC : i = C.n := by omega
      subst hiC
      refine ⟨⟨hbb, hbl, by omega, by omega⟩, ?_⟩
      rintro _ _ _ ⟨rfl, rfl, rfl⟩
      have h1 := tksS_by hbb 5
      have l1 := tksS_len (b := b) 5
      have s1 := tksS_snd hbb 5
      have c1 : ∀ t, Enc t p0 → tksS b 5 = ⟨[t.Deposit, t.Withdraw, t.Fee, t.Account, t.Nonce], dig 4 (len4 t.Expiry) ++ encB t.Proof, true⟩ ∧ g = t.Outs := fun t ht => by
        obtain ⟨t1, t2, t3⟩ := gc t ht
        rw [show t.Outs.drop C.n.toNat = [] from List.drop_eq_nil_of_le (by omega), List.flatMap_nil, List.nil_append] at t3
        rw [List.take_of_length_le (by omega)] at t2
        refine ⟨tksS_cpl (l := [t.Deposit, t.Withdraw, t.Fee, t.Account, t.Nonce]) (by rw [t3]; simp [encTail, List.append_assoc]) ?_, t2⟩
        intro x hx'
        simp only [List.mem_cons, List.not_mem_nil, or_false] at hx'
        rcases hx' with rfl | rfl | rfl | rfl | rfl
        · exact ht.r.d
        · exact ht.r.w
        · exact ht.r.f
        · exact ht.r.ac
        · exact ht.r.n
      have s1 : (tksS b 5).ok = true → b = (tksS b 5).l.flatMap (dig 8) ++ (tksS b 5).r ∧ (tksS b 5).l.length = 5 ∧ Us (tksS b 5).l := s1
      generalize tksS b 5 = X at *
      refine ⟨fun e => no fun t ht => (by have := ff e; rw [(c1 t ht).1] at this; cases this), fun eX => ?_⟩
      obtain ⟨k1, k2, k3⟩ := s1 (tt eX)
      refine ⟨by omega, by omega, by omega, by omega, by omega, ⟨h1, by omega, by omega, by omega⟩, ?_⟩
      rintro _ _ _ ⟨rfl, rfl, rfl⟩
      have h2 := tkS_by h1 4
      have l2 := tkS_len (b := X.r) 4
      have s2 := tkS_snd h1 4
      have c2 : ∀ t, Enc t p0 → tkS X.r 4 = ⟨t.Expiry, encB t.Proof, true⟩ := fun t ht => by
        have hu := ht.us
        rw [(c1 t ht).1]
        rw [len4_in (by omega)]
        exact tkS_cpl 4 rfl (by omega) (by omega)
      have s2 : (tkS X.r 4).ok = true → X.r = dig 4 (tkS X.r 4).n ++ (tkS X.r 4).r ∧ 0 ≤ (tkS X.r 4).n ∧ (tkS X.r 4).n < 4294967296 := s2
      generalize tkS X.r 4 = E at *
      have j2 : ∀ s, (s = true → ∀ u, ¬ Enc u p0) → (s = false → E.ok = true ∧ E.n ≤ 1048576) → r41_Decode_J2 ((decS p0).1.Anchor, (decS p0).1.Marks, (decS p0).1.Outs, (decS p0).1.Deposit, (decS p0).1.Withdraw, (decS p0).1.Fee, (decS p0).1.Account, (decS p0).1.Nonce, (decS p0).1.Expiry, (decS p0).1.Proof, (decS p0).2, ()) (E.n, E.r, s, (0 : Int), ([] : List Int), ([] : List TOut), (0 : Int), (0 : Int), (0 : Int), (0 : Int), (0 : Int), (0 : Int), ([] : List Int), A.n, M.l, (ix X.l 0 : Int), (ix X.l 1 : Int), (ix X.l 2 : Int), (ix X.l 3 : Int), (ix X.l 4 : Int), (0 : Int), ([] : List Int), g, ()) := by
        intro s hs hs'
        refine r41_Decode_J2_in (r0 := (decS p0).1) ⟨fun e => no (hs e), fun e => ?_⟩
        obtain ⟨eE, eE4⟩ := hs' e
        obtain ⟨m1, m2, m3⟩ := s2 eE
        refine ⟨⟨h2, by omega, by omega, by omega⟩, ?_⟩
        rintro _ _ _ ⟨rfl, rfl, rfl⟩
        have h3 := tkS_by h2 4
        have l3 := tkS_len (b := E.r) 4
        have s3 := tkS_snd h2 4
        have c3 : ∀ t, Enc t p0 → tkS E.r 4 = ⟨t.Proof.length, t.Proof, true⟩ := fun t ht => by
          have := ht.v.pl
          rw [c2 t ht]
          unfold encB
          rw [len4_in (by omega)]
          exact tkS_cpl 4 rfl (by omega) (by omega)
        have s3 : (tkS E.r 4).ok = true → E.r = dig 4 (tkS E.r 4).n ++ (tkS E.r 4).r ∧ 0 ≤ (tkS E.r 4).n ∧ (tkS E.r 4).n < 4294967296 := s3
        generalize tkS E.r 4 = F at *
        rw [wi E.n (by omega) (by omega)]
        have j3 : ∀ s, (s = true → ∀ u, ¬ Enc u p0) → (s = false → F.ok = true ∧ F.n = F.r.length) → r41_Decode_J3 ((decS p0).1.Anchor, (decS p0).1.Marks, (decS p0).1.Outs, (decS p0).1.Deposit, (decS p0).1.Withdraw, (decS p0).1.Fee, (decS p0).1.Account, (decS p0).1.Nonce, (decS p0).1.Expiry, (decS p0).1.Proof, (decS p0).2, ()) (F.r, s, (0 : Int), ([] : List Int), ([] : List TOut), (0 : Int), (0 : Int), (0 : Int), (0 : Int), (0 : Int), (0 : Int), ([] : List Int), A.n, M.l, (ix X.l 0 : Int), (ix X.l 1 : Int), (ix X.l 2 : Int), (ix X.l 3 : Int), (ix X.l 4 : Int), E.n, ([] : List Int), g, ()) := by
          intro s hs hs'
          refine r41_Decode_J3_in (r0 := (decS p0).1) ⟨fun e => no (hs e), fun e => ?_⟩
          obtain ⟨eF, eF4⟩ := hs' e
          obtain ⟨n1, n2, n3⟩ := s3 eF
          have u0 := k3 _ (ix_mem _ 0 (by omega) (by omega))
          have u1 := k3 _ (ix_mem _ 1 (by omega) (by omega))
          have u2 := k3 _ (ix_mem _ 2 (by omega) (by omega))
          have u3 := k3 _ (ix_mem _ 3 (by omega) (by omega))
          have u4 := k3 _ (ix_mem _ 4 (by omega) (by omega))
          have hTR : TR ⟨A.n, M.l, g, ix X.l 0, ix X.l 1, ix X.l 2, ix X.l 3, ix X.l 4, E.n, F.r⟩ := ⟨kA2, kM3, fun x hx => (g4 x hx).1, u0, u1, u2, u3, u4, by show _ ≤ E.n ∧ E.n ≤ _; omega, h3⟩
          have cplT : ∀ t, Enc t p0 → (⟨A.n, M.l, g, ix X.l 0, ix X.l 1, ix X.l 2, ix X.l 3, ix X.l 4, E.n, F.r⟩ : TTx) = t := fun t ht => by
            rw [cA t ht, cM t ht, (c1 t ht).1, (c1 t ht).2, c2 t ht, c3 t ht]
            rfl
          refine ⟨by simp; omega, by simp; unfold maxLen; omega, ⟨hTR, ?_⟩, fun e => ?_, fun e => ?_⟩
          · refine ⟨by show M.l.length ≤ _; omega, by show g.length ≤ _; omega, ?_, by show F.r.length ≤ _; omega⟩
            exact fun x hx => by have := (g4 x hx).2; omega
          · refine no fun t ht => ?_
            have e : validE ⟨A.n, M.l, g, ix X.l 0, ix X.l 1, ix X.l 2, ix X.l 3, ix X.l 4, E.n, F.r⟩ ≠ 0 := by simpa using e
            rw [cplT t ht] at e
            exact e ((validE_zero _).2 ht.v)
          · have e : validE ⟨A.n, M.l, g, ix X.l 0, ix X.l 1, ix X.l 2, ix X.l 3, ix X.l 4, E.n, F.r⟩ = 0 := by simpa using e
            have hE : Enc ⟨A.n, M.l, g, ix X.l 0, ix X.l 1, ix X.l 2, ix X.l 3, ix X.l 4, E.n, F.r⟩ p0 := by
              refine ⟨hTR, (validE_zero _).1 e, ?_⟩
              rw [encT_split]
              unfold encTail
              show dig 8 A.n ++ (encL M.l ++ (dig 4 (len4 g.length) ++ (g.flatMap encO ++ (dig 8 (ix X.l 0) ++ (dig 8 (ix X.l 1) ++ (dig 8 (ix X.l 2) ++ (dig 8 (ix X.l 3) ++ (dig 8 (ix X.l 4) ++ (dig 4 (len4 E.n) ++ encB F.r))))))))) = p0
              rw [len4_in (n := E.n) (by omega), len4_in (n := (g.length : Int)) (by omega), show ((g.length : Nat) : Int) = C.n by omega]
              have eB : encB F.r = E.r := by unfold encB; rw [len4_in (by omega), ← eF4]; exact n1.symm
              have eX : b = dig 8 (ix X.l 0) ++ (dig 8 (ix X.l 1) ++ (dig 8 (ix X.l 2) ++ (dig 8 (ix X.l 3) ++ (dig 8 (ix X.l 4) ++ X.r)))) := by
                rw [k1]
                match hX : X.l, k2 with
                | [x, y, z, w, v], _ => simp [List.append_assoc, ix]
              rw [eB, ← m1, ← eX, ← g3, ← kC1, ← kM1, ← kA1]
            rw [decS_yes hE fun u hu => cplT u hu]
            exact ⟨rfl, rfl, rfl, rfl, rfl, rfl, rfl, rfl, rfl, rfl, rfl⟩
        refine ⟨fun e => ⟨rfl, j3 _ (fun _ u hu => (by have := ff e; rw [c3 u hu] at this; cases this)) (fun h => by simp at h)⟩, fun e => ⟨rfl, ?_⟩⟩
        rw [wu (F.r.length : Int) (by omega) (by omega)]
        refine j3 _ (fun h u hu => ?_) (fun h => ⟨tt e, by simpa using h⟩)
        rw [c3 u hu] at h
        simp at h
      refine ⟨fun e => ⟨rfl, j2 _ (fun _ u hu => (by have := ff e; rw [c2 u hu] at this; cases this)) (fun h => by simp at h)⟩, fun e => ⟨rfl, j2 _ (fun h u hu => ?_) (fun h => ⟨tt e, by have := of_decide_eq_false h; omega⟩)⟩⟩
      have h := of_decide_eq_true h
      have := hu.us
      rw [c2 u hu] at h
      have h : 1048576 < u.Expiry := h
      omega
  refine ⟨fun e => j1 _ (fun _ u hu => (by have := ff e; rw [cC u hu] at this; cases this)) (fun h => by simp at h), fun e => j1 _ (fun h u hu => ?_) (fun h => ⟨tt e, by have := of_decide_eq_false h; omega⟩)⟩
  have h := of_decide_eq_true h
  rw [cC u hu] at h
  have h : 4 < len4 u.Outs.length := h
  have := hu.v.ol
  rw [len4_in (by omega)] at h
  omega
noncomputable def r41_Decode_con : Con TB.den := { r41_Decode_sh with R := fun x K => (fun (p0 : List Int) => ((By p0 ∧ p0.length ≤ 137438953472) ∧ ∀ (v0 : TTx) (v1 : Int), (v0 = ((decS p0).1) ∧ v1 = ((decS p0).2)) → K (v0.Anchor, v0.Marks, v0.Outs, v0.Deposit, v0.Withdraw, v0.Fee, v0.Account, v0.Nonce, v0.Expiry, v0.Proof, v1, ()) : Prop)) x.1 }
theorem r41_Decode_ok : r41_Decode_con.Ok Try.prog TB := ⟨bd25, fun x K hx => ⟨((fun (p0 : List Int) => (((decS p0).1).Anchor : Int)) x.1, (fun (p0 : List Int) => (((decS p0).1).Marks : List Int)) x.1, (fun (p0 : List Int) => (((decS p0).1).Outs : List TOut)) x.1, (fun (p0 : List Int) => (((decS p0).1).Deposit : Int)) x.1, (fun (p0 : List Int) => (((decS p0).1).Withdraw : Int)) x.1, (fun (p0 : List Int) => (((decS p0).1).Fee : Int)) x.1, (fun (p0 : List Int) => (((decS p0).1).Account : Int)) x.1, (fun (p0 : List Int) => (((decS p0).1).Nonce : Int)) x.1, (fun (p0 : List Int) => (((decS p0).1).Expiry : Int)) x.1, (fun (p0 : List Int) => (((decS p0).1).Proof : List Int)) x.1, (fun (p0 : List Int) => ((decS p0).2 : Int)) x.1, ()), hx.2 ((fun (p0 : List Int) => (((decS p0).1))) x.1) ((fun (p0 : List Int) => (((decS p0).2))) x.1) ⟨rfl, rfl⟩, r41_Decode_snd (r41_Decode_body x.1 hx.1)⟩⟩
end Go.Proofs.Ytdbnagpoknmoiaa
namespace Go.Proofs.Ytdbnagpoknmoiaa
open Go Go.Bv Go.Cv Go.Md Go.RowKit
def r41_Same_sh : Con TB.den := Con.mk0 26 [.agg [.d (.int .u64), .d (.sl (.int .u64)), .d (.sl (.st 0)), .d (.int .u64), .d (.int .u64), .d (.int .u64), .d (.int .u64), .d (.int .u64), .d (.int .i64), .d (.sl (.int .u8))], .agg [.d (.int .u64), .d (.sl (.int .u64)), .d (.sl (.st 0)), .d (.int .u64), .d (.int .u64), .d (.int .u64), .d (.int .u64), .d (.int .u64), .d (.int .i64), .d (.sl (.int .u8))]] [] (.one (.one (.d (.bool)))) []
abbrev r41_Same_I := HL TB.den (hsT r41_Same_sh.ins (hsOs r41_Same_sh.pre))
abbrev r41_Same_O := HL TB.den (hsV r41_Same_sh.res (hsOs r41_Same_sh.post))
noncomputable def r41_Same_cx : Cx TB := ⟨inf, [r41_Bytes_con, r41_SameBytes_con], [], 4⟩
noncomputable def r41_Same_code : Code := Try.f26.body.getD .skip
noncomputable def r41_Same_rs : List ResultVar := Try.f26.results.toList
noncomputable def r41_Same_Q1 (o : r41_Same_O) : Exit → TSt TB.den → Prop := thenT TB (fun s => ghs TB [] s fun s => WP TB r41_Same_cx 47 0 (cB (cB (cB r41_Same_code))) .no s (retTQ TB r41_Same_cx r41_Same_sh r41_Same_rs o)) (retTQ TB r41_Same_cx r41_Same_sh r41_Same_rs o)
def r41_Same_T1 : Tm := ⟨[0, 1], [.cells [.d (.int .u64), .d (.sl (.int .u64)), .d (.sl (.st 0)), .d (.int .u64), .d (.int .u64), .d (.int .u64), .d (.int .u64), .d (.int .u64), .d (.int .i64), .d (.sl (.int .u8))], .cells [.d (.int .u64), .d (.sl (.int .u64)), .d (.sl (.st 0)), .d (.int .u64), .d (.int .u64), .d (.int .u64), .d (.int .u64), .d (.int .u64), .d (.int .i64), .d (.sl (.int .u8))]], [2, 3, 5], [.one (.ptr 0 0), .one (.ptr 1 0), .one (.d (.int .i64))], 2⟩
noncomputable def r41_Same_Q2 (o : r41_Same_O) (nx1 : HL TB.den r41_Same_T1.hs → Prop) : Exit → TSt TB.den → Prop := thenT TB (fun s => r41_Same_T1.mat TB 0 s nx1) (blockT TB 0 (r41_Same_Q1 o))
noncomputable def r41_Same_L1 (o : r41_Same_O) (nx1 : HL TB.den r41_Same_T1.hs → Prop) (i : HL TB.den r41_Same_T1.hs) : Prop := WP TB r41_Same_cx 47 0 (cA (cA (cB (cA (cB (cB r41_Same_code)))))) .no (r41_Same_T1.fill TB i) (r41_Same_Q2 o nx1)
noncomputable def r41_Same_A5 (o : r41_Same_O) : An TB := .nd [] .no [] (.lp [] r41_Same_T1 (r41_Same_L1 o) fun nx1 => .no)
noncomputable def r41_Same_an (o : r41_Same_O) : An TB := .nd [] .no [] (.nd [] .no [] (.nd [] (r41_Same_A5 o) [] .no))
noncomputable def r41_Same_Body (x : r41_Same_I) (o : r41_Same_O) : Prop := WPh TB r41_Same_cx 47 0 r41_Same_code (r41_Same_an o) (r41_Same_sh.st TB x) (retTQ TB r41_Same_cx r41_Same_sh r41_Same_rs o)
set_option maxRecDepth 100000 in
theorem r41_Same_obl (o : r41_Same_O) : OblH TB r41_Same_cx 47 0 r41_Same_code (r41_Same_an o) (retTQ TB r41_Same_cx r41_Same_sh r41_Same_rs o) :=
  OblH.of_eq (X := (True ∧ ((True ∧ ((True ∧ True) ∧ True)) ∧ ((True ∧ ((∀ nx i, (r41_Same_L1 o) nx i = (r41_Same_L1 o) nx i) ∧ ∀ nx1 : HL TB.den r41_Same_T1.hs → Prop, ((True ∧ (True ∧ True)) ∧ ((True ∧ ((True ∧ True) ∧ True)) ∧ True)))) ∧ (True ∧ True))))) (by kernel_rfl) ⟨trivial, ⟨⟨trivial, ⟨⟨trivial, trivial⟩, trivial⟩⟩, ⟨⟨trivial, ⟨fun _ _ => rfl, fun _ => ⟨⟨trivial, ⟨trivial, trivial⟩⟩, ⟨⟨trivial, ⟨⟨trivial, trivial⟩, trivial⟩⟩, trivial⟩⟩⟩⟩, ⟨trivial, trivial⟩⟩⟩⟩
set_option maxRecDepth 100000 in
theorem r41_Same_snd {x : r41_Same_I} {o : r41_Same_O} (h : r41_Same_Body x o) : SoundH Try.prog r41_Same_sh.f ((r41_Same_sh.args idf x).map (er TB)) ((r41_Same_sh.obs idf x).map (erO TB)) (er TB (r41_Same_sh.val idf o)) ((r41_Same_sh.ops idf o).map (erO TB)) :=
  Con.soundH (c := r41_Same_sh) (C := r41_Same_cx) TBok ⟨inf_ok, (all_cons r41_Bytes_ok (all_cons r41_SameBytes_ok all_nil)), all_nil⟩ mix Try.func26 (show Try.f26.body = some r41_Same_code by kernel_rfl) (show Try.f26.ntmps = 47 by kernel_rfl) (show Try.f26.results.toList = r41_Same_rs by kernel_rfl) rfl h (r41_Same_obl o)
set_option maxRecDepth 100000 in
theorem r41_Same_in {p0 : TTx} {p1 : TTx} {r0 : Bool} (h :
(let v1 : Bool := ((p0.Outs.length : Int) != (p1.Outs.length : Int))
(v1 = true →
 false = r0) ∧
(v1 = false →
((p0.Expiry != p1.Expiry) = true →
 false = r0) ∧
((p0.Expiry != p1.Expiry) = false →
 Md.Loop ((0 : Int), p0.Anchor, p0.Marks, p0.Outs, p0.Deposit, p0.Withdraw, p0.Fee, p0.Account, p0.Nonce, p0.Expiry, p0.Proof, p1.Anchor, p1.Marks, p1.Outs, p1.Deposit, p1.Withdraw, p1.Fee, p1.Account, p1.Nonce, p1.Expiry, p1.Proof, ()) (r41_Same_L1 (r0, ())))))) : r41_Same_Body (p0.Anchor, p0.Marks, p0.Outs, p0.Deposit, p0.Withdraw, p0.Fee, p0.Account, p0.Nonce, p0.Expiry, p0.Proof, p1.Anchor, p1.Marks, p1.Outs, p1.Deposit, p1.Withdraw, p1.Fee, p1.Account, p1.Nonce, p1.Expiry, p1.Proof, ()) (r0, ()) := WPh.of_eq (by kernel_rfl) h
def r41_Same_B1 (r0 : Bool) (k1 : Int → Prop) (h0_0 : Int) (h0_1 : List Int) (h0_2 : List TOut) (h0_3 : Int) (h0_4 : Int) (h0_5 : Int) (h0_6 : Int) (h0_7 : Int) (h0_8 : Int) (h0_9 : List Int) (h1_0 : Int) (h1_1 : List Int) (h1_2 : List TOut) (h1_3 : Int) (h1_4 : Int) (h1_5 : Int) (h1_6 : Int) (h1_7 : Int) (h1_8 : Int) (h1_9 : List Int) (s5 : Int) : Prop :=
(decide (s5 < (h0_2.length : Int)) = true →
(0 ≤ s5) ∧ s5 < (h0_2.length : Int) ∧ (0 ≤ s5) ∧ s5 < (h1_2.length : Int) ∧ let v2 : Bool := ((((ix h0_2 s5).Cipher).length : Int) != (((ix h1_2 s5).Cipher).length : Int))
(v2 = true →
 false = r0) ∧
(v2 = false →
 k1 (IntKind.i64.wrap (s5 + 1) : Int))) ∧
(decide (s5 < (h0_2.length : Int)) = false →
(TR (TTx.mk h0_0 h0_1 h0_2 h0_3 h0_4 h0_5 h0_6 h0_7 h0_8 h0_9) ∧ TL (TTx.mk h0_0 h0_1 h0_2 h0_3 h0_4 h0_5 h0_6 h0_7 h0_8 h0_9) ∧ (TTx.mk h0_0 h0_1 h0_2 h0_3 h0_4 h0_5 h0_6 h0_7 h0_8 h0_9).Outs.length ≤ 1048576 ∧ (∀ x ∈ (TTx.mk h0_0 h0_1 h0_2 h0_3 h0_4 h0_5 h0_6 h0_7 h0_8 h0_9).Outs, x.Cipher.length ≤ 1024)) ∧ let r3 : List Int := encT (TTx.mk h0_0 h0_1 h0_2 h0_3 h0_4 h0_5 h0_6 h0_7 h0_8 h0_9) (TTx.mk h0_0 h0_1 h0_2 h0_3 h0_4 h0_5 h0_6 h0_7 h0_8 h0_9).Proof
(TR (TTx.mk h1_0 h1_1 h1_2 h1_3 h1_4 h1_5 h1_6 h1_7 h1_8 h1_9) ∧ TL (TTx.mk h1_0 h1_1 h1_2 h1_3 h1_4 h1_5 h1_6 h1_7 h1_8 h1_9) ∧ (TTx.mk h1_0 h1_1 h1_2 h1_3 h1_4 h1_5 h1_6 h1_7 h1_8 h1_9).Outs.length ≤ 1048576 ∧ (∀ x ∈ (TTx.mk h1_0 h1_1 h1_2 h1_3 h1_4 h1_5 h1_6 h1_7 h1_8 h1_9).Outs, x.Cipher.length ≤ 1024)) ∧ let r4 : List Int := encT (TTx.mk h1_0 h1_1 h1_2 h1_3 h1_4 h1_5 h1_6 h1_7 h1_8 h1_9) (TTx.mk h1_0 h1_1 h1_2 h1_3 h1_4 h1_5 h1_6 h1_7 h1_8 h1_9).Proof
(r3.length ≤ 9223372036854775807) ∧ decide (r3 = r4) = r0)
set_option maxRecDepth 100000 in
theorem r41_Same_lp1 {r0 : Bool} {h0_0 : Int} {h0_1 : List Int} {h0_2 : List TOut} {h0_3 : Int} {h0_4 : Int} {h0_5 : Int} {h0_6 : Int} {h0_7 : Int} {h0_8 : Int} {h0_9 : List Int} {h1_0 : Int} {h1_1 : List Int} {h1_2 : List TOut} {h1_3 : Int} {h1_4 : Int} {h1_5 : Int} {h1_6 : Int} {h1_7 : Int} {h1_8 : Int} {h1_9 : List Int} {s5 : Int} (inv : Int → Prop) (μ : Int → Nat) (h0 : inv s5) (hs : ∀ (s5 : Int), inv s5 → r41_Same_B1 r0 (fun s5q => inv s5q ∧ μ s5q < μ s5) h0_0 h0_1 h0_2 h0_3 h0_4 h0_5 h0_6 h0_7 h0_8 h0_9 h1_0 h1_1 h1_2 h1_3 h1_4 h1_5 h1_6 h1_7 h1_8 h1_9 s5) : Md.Loop (s5, h0_0, h0_1, h0_2, h0_3, h0_4, h0_5, h0_6, h0_7, h0_8, h0_9, h1_0, h1_1, h1_2, h1_3, h1_4, h1_5, h1_6, h1_7, h1_8, h1_9, ()) (r41_Same_L1 (r0, ())) :=
  ⟨⟨fun s : Int × Int × (List Int) × (List TOut) × Int × Int × Int × Int × Int × Int × (List Int) × Int × (List Int) × (List TOut) × Int × Int × Int × Int × Int × Int × (List Int) × Unit => (s.2.1 = h0_0 ∧ s.2.2.1 = h0_1 ∧ s.2.2.2.1 = h0_2 ∧ s.2.2.2.2.1 = h0_3 ∧ s.2.2.2.2.2.1 = h0_4 ∧ s.2.2.2.2.2.2.1 = h0_5 ∧ s.2.2.2.2.2.2.2.1 = h0_6 ∧ s.2.2.2.2.2.2.2.2.1 = h0_7 ∧ s.2.2.2.2.2.2.2.2.2.1 = h0_8 ∧ s.2.2.2.2.2.2.2.2.2.2.1 = h0_9 ∧ s.2.2.2.2.2.2.2.2.2.2.2.1 = h1_0 ∧ s.2.2.2.2.2.2.2.2.2.2.2.2.1 = h1_1 ∧ s.2.2.2.2.2.2.2.2.2.2.2.2.2.1 = h1_2 ∧ s.2.2.2.2.2.2.2.2.2.2.2.2.2.2.1 = h1_3 ∧ s.2.2.2.2.2.2.2.2.2.2.2.2.2.2.2.1 = h1_4 ∧ s.2.2.2.2.2.2.2.2.2.2.2.2.2.2.2.2.1 = h1_5 ∧ s.2.2.2.2.2.2.2.2.2.2.2.2.2.2.2.2.2.1 = h1_6 ∧ s.2.2.2.2.2.2.2.2.2.2.2.2.2.2.2.2.2.2.1 = h1_7 ∧ s.2.2.2.2.2.2.2.2.2.2.2.2.2.2.2.2.2.2.2.1 = h1_8 ∧ s.2.2.2.2.2.2.2.2.2.2.2.2.2.2.2.2.2.2.2.2.1 = h1_9) ∧ inv s.1, fun s : Int × Int × (List Int) × (List TOut) × Int × Int × Int × Int × Int × Int × (List Int) × Int × (List Int) × (List TOut) × Int × Int × Int × Int × Int × Int × (List Int) × Unit => μ s.1, ⟨⟨rfl, rfl, rfl, rfl, rfl, rfl, rfl, rfl, rfl, rfl, rfl, rfl, rfl, rfl, rfl, rfl, rfl, rfl, rfl, rfl⟩, h0⟩, fun (s5p, h0_0p, h0_1p, h0_2p, h0_3p, h0_4p, h0_5p, h0_6p, h0_7p, h0_8p, h0_9p, h1_0p, h1_1p, h1_2p, h1_3p, h1_4p, h1_5p, h1_6p, h1_7p, h1_8p, h1_9p, ()) ⟨⟨eq0, eq1, eq2, eq3, eq4, eq5, eq6, eq7, eq8, eq9, eq10, eq11, eq12, eq13, eq14, eq15, eq16, eq17, eq18, eq19⟩, hi⟩ => by
    have eq0 : h0_0p = h0_0 := eq0; subst h0_0p; have eq1 : h0_1p = h0_1 := eq1; subst h0_1p; have eq2 : h0_2p = h0_2 := eq2; subst h0_2p; have eq3 : h0_3p = h0_3 := eq3; subst h0_3p; have eq4 : h0_4p = h0_4 := eq4; subst h0_4p; have eq5 : h0_5p = h0_5 := eq5; subst h0_5p; have eq6 : h0_6p = h0_6 := eq6; subst h0_6p; have eq7 : h0_7p = h0_7 := eq7; subst h0_7p; have eq8 : h0_8p = h0_8 := eq8; subst h0_8p; have eq9 : h0_9p = h0_9 := eq9; subst h0_9p; have eq10 : h1_0p = h1_0 := eq10; subst h1_0p; have eq11 : h1_1p = h1_1 := eq11; subst h1_1p; have eq12 : h1_2p = h1_2 := eq12; subst h1_2p; have eq13 : h1_3p = h1_3 := eq13; subst h1_3p; have eq14 : h1_4p = h1_4 := eq14; subst h1_4p; have eq15 : h1_5p = h1_5 := eq15; subst h1_5p; have eq16 : h1_6p = h1_6 := eq16; subst h1_6p; have eq17 : h1_7p = h1_7 := eq17; subst h1_7p; have eq18 : h1_8p = h1_8 := eq18; subst h1_8p; have eq19 : h1_9p = h1_9 := eq19; subst h1_9p; exact mpr_of (by kernel_rfl) ((congrArg (fun k => r41_Same_B1 r0 k h0_0 h0_1 h0_2 h0_3 h0_4 h0_5 h0_6 h0_7 h0_8 h0_9 h1_0 h1_1 h1_2 h1_3 h1_4 h1_5 h1_6 h1_7 h1_8 h1_9 s5p) (lpk1 (⟨rfl, rfl, rfl, rfl, rfl, rfl, rfl, rfl, rfl, rfl, rfl, rfl, rfl, rfl, rfl, rfl, rfl, rfl, rfl, rfl⟩ : h0_0 = h0_0 ∧ h0_1 = h0_1 ∧ h0_2 = h0_2 ∧ h0_3 = h0_3 ∧ h0_4 = h0_4 ∧ h0_5 = h0_5 ∧ h0_6 = h0_6 ∧ h0_7 = h0_7 ∧ h0_8 = h0_8 ∧ h0_9 = h0_9 ∧ h1_0 = h1_0 ∧ h1_1 = h1_1 ∧ h1_2 = h1_2 ∧ h1_3 = h1_3 ∧ h1_4 = h1_4 ∧ h1_5 = h1_5 ∧ h1_6 = h1_6 ∧ h1_7 = h1_7 ∧ h1_8 = h1_8 ∧ h1_9 = h1_9) inv (fun s5q => μ s5q < μ s5p))).mpr (hs s5p hi))⟩⟩
theorem bd26 : Callable Try.prog 26 := ⟨by rw [Try.func26]; kernel_rfl, by rw [Try.func26]; show some _ ≠ some _; decide⟩
theorem r41_Same_body (p0 : TTx) (p1 : TTx) (h : TD p0 ∧ TD p1) : r41_Same_Body (p0.Anchor, p0.Marks, p0.Outs, p0.Deposit, p0.Withdraw, p0.Fee, p0.Account, p0.Nonce, p0.Expiry, p0.Proof, p1.Anchor, p1.Marks, p1.Outs, p1.Deposit, p1.Withdraw, p1.Fee, p1.Account, p1.Nonce, p1.Expiry, p1.Proof, ()) ((sameT p0 p1 : Bool), ()) := by
  obtain ⟨⟨hr, hl, ho, hc⟩, hr', hl', ho', hc'⟩ := h
  refine r41_Same_in ⟨fun e => ?_, fun e => ⟨fun e2 => ?_, fun e2 => ?_⟩⟩
  · have e : ¬ ((p0.Outs.length : Int) = p1.Outs.length) := by simpa using e
    unfold sameT
    rw [decide_eq_false (by omega)]
    rfl
  · have e2 : ¬ p0.Expiry = p1.Expiry := by simpa using e2
    unfold sameT
    simp [e2]
  have e : (p0.Outs.length : Int) = p1.Outs.length := by simpa using e
  have e2 : p0.Expiry = p1.Expiry := by simpa using e2
  refine r41_Same_lp1 (fun i => 0 ≤ i ∧ i ≤ p0.Outs.length ∧ (p0.Outs.take i.toNat).map (·.Cipher.length) = (p1.Outs.take i.toNat).map (·.Cipher.length)) (fun i => (p0.Outs.length - i).toNat) ⟨by omega, by omega, by simp⟩ ?_
  rintro i ⟨g0, g1, g2⟩
  refine ⟨fun hh => ?_, fun hh => ?_⟩
  · have hh := of_decide_eq_true hh
    refine ⟨g0, hh, g0, by omega, fun e3 => ?_, fun e3 => ?_⟩
    · have e3 : ¬ (((ix p0.Outs i).Cipher.length : Int) = (ix p1.Outs i).Cipher.length) := by simpa using e3
      unfold sameT
      rw [decide_eq_false (p := p0.Outs.map _ = p1.Outs.map _)]
      · simp
      · intro h
        have h2 := congrArg (fun l => l[i.toNat]?) h
        simp only [List.getElem?_map] at h2
        rw [List.getElem?_eq_getElem (by omega), List.getElem?_eq_getElem (by omega)] at h2
        rw [ix_nat _ i g0 hh, ix_nat _ i g0 (by omega)] at e3
        simp at h2
        omega
    · have e3 : (((ix p0.Outs i).Cipher.length : Int) = (ix p1.Outs i).Cipher.length) := by simpa using e3
      rw [inc i p0.Outs.length g0 hh (by omega)]
      refine ⟨⟨by omega, by omega, ?_⟩, by omega⟩
      rw [take_succ_ix _ i g0 hh, take_succ_ix _ i g0 (by omega), List.map_append, List.map_append, g2]
      simp
      omega
  · have hh := of_decide_eq_false hh
    rw [List.take_of_length_le (by omega), List.take_of_length_le (by omega)] at g2
    simp only [TTx_eta]
    have hlen := encOs_length p0.Outs 1024 hc
    refine ⟨⟨hr, hl, ho, hc⟩, ⟨hr', hl', ho', hc'⟩, ?_, ?_⟩
    · rw [encT_length]
      have := hl.m
      have := hl.p
      have : (28 + 8 * 1024) * p0.Outs.length ≤ (28 + 8 * 1024) * 1048576 := Nat.mul_le_mul_left _ ho
      omega
    · unfold sameT
      rw [decide_eq_true (p := p0.Outs.length = p1.Outs.length) (by omega), decide_eq_true g2, beq_iff_eq.2 e2]
      simp
noncomputable def r41_Same_con : Con TB.den := r41_Same_sh.fnR (fun x => (fun (p0 : TTx) (p1 : TTx) => TD p0 ∧ TD p1) (TTx.mk x.1 x.2.1 x.2.2.1 x.2.2.2.1 x.2.2.2.2.1 x.2.2.2.2.2.1 x.2.2.2.2.2.2.1 x.2.2.2.2.2.2.2.1 x.2.2.2.2.2.2.2.2.1 x.2.2.2.2.2.2.2.2.2.1) (TTx.mk x.2.2.2.2.2.2.2.2.2.2.1 x.2.2.2.2.2.2.2.2.2.2.2.1 x.2.2.2.2.2.2.2.2.2.2.2.2.1 x.2.2.2.2.2.2.2.2.2.2.2.2.2.1 x.2.2.2.2.2.2.2.2.2.2.2.2.2.2.1 x.2.2.2.2.2.2.2.2.2.2.2.2.2.2.2.1 x.2.2.2.2.2.2.2.2.2.2.2.2.2.2.2.2.1 x.2.2.2.2.2.2.2.2.2.2.2.2.2.2.2.2.2.1 x.2.2.2.2.2.2.2.2.2.2.2.2.2.2.2.2.2.2.1 x.2.2.2.2.2.2.2.2.2.2.2.2.2.2.2.2.2.2.2.1)) fun x => ((fun (p0 : TTx) (p1 : TTx) => (sameT p0 p1 : Bool)) (TTx.mk x.1 x.2.1 x.2.2.1 x.2.2.2.1 x.2.2.2.2.1 x.2.2.2.2.2.1 x.2.2.2.2.2.2.1 x.2.2.2.2.2.2.2.1 x.2.2.2.2.2.2.2.2.1 x.2.2.2.2.2.2.2.2.2.1) (TTx.mk x.2.2.2.2.2.2.2.2.2.2.1 x.2.2.2.2.2.2.2.2.2.2.2.1 x.2.2.2.2.2.2.2.2.2.2.2.2.1 x.2.2.2.2.2.2.2.2.2.2.2.2.2.1 x.2.2.2.2.2.2.2.2.2.2.2.2.2.2.1 x.2.2.2.2.2.2.2.2.2.2.2.2.2.2.2.1 x.2.2.2.2.2.2.2.2.2.2.2.2.2.2.2.2.1 x.2.2.2.2.2.2.2.2.2.2.2.2.2.2.2.2.2.1 x.2.2.2.2.2.2.2.2.2.2.2.2.2.2.2.2.2.2.1 x.2.2.2.2.2.2.2.2.2.2.2.2.2.2.2.2.2.2.2.1), ())
theorem r41_Same_ok : r41_Same_con.Ok Try.prog TB := Con.ok_fn r41_Same_sh bd26 fun x h => r41_Same_snd (r41_Same_body (TTx.mk x.1 x.2.1 x.2.2.1 x.2.2.2.1 x.2.2.2.2.1 x.2.2.2.2.2.1 x.2.2.2.2.2.2.1 x.2.2.2.2.2.2.2.1 x.2.2.2.2.2.2.2.2.1 x.2.2.2.2.2.2.2.2.2.1) (TTx.mk x.2.2.2.2.2.2.2.2.2.2.1 x.2.2.2.2.2.2.2.2.2.2.2.1 x.2.2.2.2.2.2.2.2.2.2.2.2.1 x.2.2.2.2.2.2.2.2.2.2.2.2.2.1 x.2.2.2.2.2.2.2.2.2.2.2.2.2.2.1 x.2.2.2.2.2.2.2.2.2.2.2.2.2.2.2.1 x.2.2.2.2.2.2.2.2.2.2.2.2.2.2.2.2.1 x.2.2.2.2.2.2.2.2.2.2.2.2.2.2.2.2.2.1 x.2.2.2.2.2.2.2.2.2.2.2.2.2.2.2.2.2.2.1 x.2.2.2.2.2.2.2.2.2.2.2.2.2.2.2.2.2.2.2.1) h)
end Go.Proofs.Ytdbnagpoknmoiaa
namespace Go.Proofs.Ytdbnagpoknmoiaa
open Go Go.Bv Go.Cv Go.Md Go.RowKit
def Reader_left_sh : Con TB.den := Con.mk0 63 [.one (.ptr 0 0)] [.cells [.d (.sl (.int .u8)), .d (.int .i64), .d (.bool)]] (.one (.one (.d (.int .i64)))) [.cells [.d (.sl (.int .u8)), .d (.int .i64), .d (.bool)]]
abbrev Reader_left_I := HL TB.den (hsT Reader_left_sh.ins (hsOs Reader_left_sh.pre))
abbrev Reader_left_O := HL TB.den (hsV Reader_left_sh.res (hsOs Reader_left_sh.post))
noncomputable def Reader_left_cx : Cx TB := ⟨inf, [], [], 4⟩
noncomputable def Reader_left_code : Code := Try.f63.body.getD .skip
noncomputable def Reader_left_rs : List ResultVar := Try.f63.results.toList
noncomputable def Reader_left_an (o : Reader_left_O) : An TB := .no
noncomputable def Reader_left_Body (x : Reader_left_I) (o : Reader_left_O) : Prop := WPh TB Reader_left_cx 13 1 Reader_left_code (Reader_left_an o) (Reader_left_sh.st TB x) (retTQ TB Reader_left_cx Reader_left_sh Reader_left_rs o)
set_option maxRecDepth 100000 in
theorem Reader_left_obl (o : Reader_left_O) : OblH TB Reader_left_cx 13 1 Reader_left_code (Reader_left_an o) (retTQ TB Reader_left_cx Reader_left_sh Reader_left_rs o) :=
  OblH.of_eq (X := (True ∧ (True ∧ True))) (by kernel_rfl) ⟨trivial, ⟨trivial, trivial⟩⟩
set_option maxRecDepth 100000 in
theorem Reader_left_snd {x : Reader_left_I} {o : Reader_left_O} (h : Reader_left_Body x o) : SoundH Try.prog Reader_left_sh.f ((Reader_left_sh.args idf x).map (er TB)) ((Reader_left_sh.obs idf x).map (erO TB)) (er TB (Reader_left_sh.val idf o)) ((Reader_left_sh.ops idf o).map (erO TB)) :=
  Con.soundH (c := Reader_left_sh) (C := Reader_left_cx) TBok ⟨inf_ok, all_nil, all_nil⟩ mix Try.func63 (show Try.f63.body = some Reader_left_code by kernel_rfl) (show Try.f63.ntmps = 13 by kernel_rfl) (show Try.f63.results.toList = Reader_left_rs by kernel_rfl) rfl h (Reader_left_obl o)
set_option maxRecDepth 100000 in
theorem Reader_left_in {c0_0 : List Int} {c0_1 : Int} {c0_2 : Bool} {r0 : Int} {d0_0 : List Int} {d0_1 : Int} {d0_2 : Bool} (h :
(let v1 : Int := IntKind.i64.wrap ((c0_0.length : Int) - c0_1)
 v1 = r0 ∧ c0_0 = d0_0 ∧ c0_1 = d0_1 ∧ c0_2 = d0_2)) : Reader_left_Body (c0_0, c0_1, c0_2, ()) (r0, d0_0, d0_1, d0_2, ()) := WPh.of_eq (by kernel_rfl) h
theorem bd63 : Callable Try.prog 63 := ⟨by rw [Try.func63]; kernel_rfl, by rw [Try.func63]; show some _ ≠ some _; decide⟩
theorem Reader_left_body (c0_0 : List Int) (c0_1 : Int) (c0_2 : Bool) (h : (0 ≤ c0_1 ∧ c0_1 ≤ c0_0.length) ∧ c0_0.length ≤ 137438953472) : Reader_left_Body (c0_0, c0_1, c0_2, ()) (((c0_0.length : Int) - c0_1 : Int), (c0_0 : List Int), (c0_1 : Int), (c0_2 : Bool), ()) := by
  exact Reader_left_in ⟨wi _ (by omega) (by omega), rfl, rfl, rfl⟩
noncomputable def Reader_left_con : Con TB.den := Reader_left_sh.fnR (fun x => (fun (c0_0 : List Int) (c0_1 : Int) (c0_2 : Bool) => (0 ≤ c0_1 ∧ c0_1 ≤ c0_0.length) ∧ c0_0.length ≤ 137438953472) x.1 x.2.1 x.2.2.1) fun x => ((fun (c0_0 : List Int) (c0_1 : Int) (c0_2 : Bool) => ((c0_0.length : Int) - c0_1 : Int)) x.1 x.2.1 x.2.2.1, (fun (c0_0 : List Int) (c0_1 : Int) (c0_2 : Bool) => (c0_0 : List Int)) x.1 x.2.1 x.2.2.1, (fun (c0_0 : List Int) (c0_1 : Int) (c0_2 : Bool) => (c0_1 : Int)) x.1 x.2.1 x.2.2.1, (fun (c0_0 : List Int) (c0_1 : Int) (c0_2 : Bool) => (c0_2 : Bool)) x.1 x.2.1 x.2.2.1, ())
theorem Reader_left_ok : Reader_left_con.Ok Try.prog TB := Con.ok_fn Reader_left_sh bd63 fun x h => Reader_left_snd (Reader_left_body x.1 x.2.1 x.2.2.1 h)
end Go.Proofs.Ytdbnagpoknmoiaa
namespace Go.Proofs.Ytdbnagpoknmoiaa
open Go Go.Bv Go.Cv Go.Md Go.RowKit
def Reader_digits_sh : Con TB.den := Con.mk0 62 [.one (.ptr 0 0), .one (.d (.int .i64))] [.cells [.d (.sl (.int .u8)), .d (.int .i64), .d (.bool)]] (.tup [.one (.d (.int .u64)), .one (.d (.bool))]) [.cells [.d (.sl (.int .u8)), .d (.int .i64), .d (.bool)]]
abbrev Reader_digits_I := HL TB.den (hsT Reader_digits_sh.ins (hsOs Reader_digits_sh.pre))
abbrev Reader_digits_O := HL TB.den (hsV Reader_digits_sh.res (hsOs Reader_digits_sh.post))
noncomputable def Reader_digits_cx : Cx TB := ⟨inf, [Reader_left_con], [], 4⟩
noncomputable def Reader_digits_code : Code := Try.f62.body.getD .skip
noncomputable def Reader_digits_rs : List ResultVar := Try.f62.results.toList
noncomputable def Reader_digits_Q1 (o : Reader_digits_O) : Exit → TSt TB.den → Prop := thenT TB (fun s => ghs TB [] s fun s => WP TB Reader_digits_cx 53 1 (cB (cB (cB (cB Reader_digits_code)))) .no s (retTQ TB Reader_digits_cx Reader_digits_sh Reader_digits_rs o)) (retTQ TB Reader_digits_cx Reader_digits_sh Reader_digits_rs o)
def Reader_digits_T1 : Tm := ⟨[0], [.cells [.d (.sl (.int .u8)), .d (.int .i64), .d (.bool)]], [0, 1, 6, 21, 22], [.one (.ptr 0 0), .one (.d (.int .i64)), .one (.d (.int .u64)), .one (.d (.int .i64)), .one (.d (.int .i64))], 1⟩
noncomputable def Reader_digits_Q2 (o : Reader_digits_O) (nx1 : HL TB.den Reader_digits_T1.hs → Prop) : Exit → TSt TB.den → Prop := thenT TB (fun s => Reader_digits_T1.mat TB 1 s nx1) (blockT TB 0 (Reader_digits_Q1 o))
noncomputable def Reader_digits_L1 (o : Reader_digits_O) (nx1 : HL TB.den Reader_digits_T1.hs → Prop) (i : HL TB.den Reader_digits_T1.hs) : Prop := WP TB Reader_digits_cx 53 1 (cA (cA (cB (cA (cB (cB (cB Reader_digits_code))))))) .no (Reader_digits_T1.fill TB i) (Reader_digits_Q2 o nx1)
noncomputable def Reader_digits_A5 (o : Reader_digits_O) : An TB := .nd [] .no [] (.lp [] Reader_digits_T1 (Reader_digits_L1 o) fun nx1 => .no)
noncomputable def Reader_digits_Q6 (o : Reader_digits_O) : Exit → TSt TB.den → Prop := thenT TB (fun s => ghs TB [] s fun s => WP TB Reader_digits_cx 53 1 (cB (cB Reader_digits_code)) (.nd [] .no [] (.nd [] (Reader_digits_A5 o) [] .no)) s (retTQ TB Reader_digits_cx Reader_digits_sh Reader_digits_rs o)) (retTQ TB Reader_digits_cx Reader_digits_sh Reader_digits_rs o)
def Reader_digits_TJ1 : Tm := ⟨[0], [.cells [.d (.sl (.int .u8)), .d (.int .i64), .d (.bool)]], [0, 1, 17], [.one (.ptr 0 0), .one (.d (.int .i64)), .one (.d (.bool))], 1⟩
noncomputable def Reader_digits_J1d (o : Reader_digits_O) (i : HL TB.den Reader_digits_TJ1.hs) : Prop := ghs TB [] (Reader_digits_TJ1.fill TB i) fun s => WP TB Reader_digits_cx 53 1 (cB (cA (cB Reader_digits_code))) .no s (Reader_digits_Q6 o)
structure Reader_digits_J1 (o : Reader_digits_O) (i : HL TB.den Reader_digits_TJ1.hs) : Prop where
  h : Reader_digits_J1d o i
noncomputable def Reader_digits_A8 (o : Reader_digits_O) : An TB := .nd [] (.jn Reader_digits_TJ1 (Reader_digits_J1 o) [] .no [] .no) [] (.nd [] .no [] (.nd [] (Reader_digits_A5 o) [] .no))
noncomputable def Reader_digits_an (o : Reader_digits_O) : An TB := .nd [] .no [] (Reader_digits_A8 o)
noncomputable def Reader_digits_Body (x : Reader_digits_I) (o : Reader_digits_O) : Prop := WPh TB Reader_digits_cx 53 1 Reader_digits_code (Reader_digits_an o) (Reader_digits_sh.st TB x) (retTQ TB Reader_digits_cx Reader_digits_sh Reader_digits_rs o)
set_option maxRecDepth 100000 in
theorem Reader_digits_obl (o : Reader_digits_O) : OblH TB Reader_digits_cx 53 1 Reader_digits_code (Reader_digits_an o) (retTQ TB Reader_digits_cx Reader_digits_sh Reader_digits_rs o) :=
  OblH.of_eq (X := (True ∧ ((True ∧ (∀ i, (Reader_digits_J1 o) i = (Reader_digits_J1d o) i) ∧ ((True ∧ (True ∧ True)) ∧ True)) ∧ (True ∧ ((True ∧ ((∀ nx i, (Reader_digits_L1 o) nx i = (Reader_digits_L1 o) nx i) ∧ ∀ nx1 : HL TB.den Reader_digits_T1.hs → Prop, (True ∧ ((True ∧ True) ∧ ((True ∧ True) ∧ True))))) ∧ (True ∧ (True ∧ True))))))) (by kernel_rfl) ⟨trivial, ⟨⟨trivial, fun _ => propext ⟨fun h => h.1, fun h => ⟨h⟩⟩, ⟨⟨trivial, ⟨trivial, trivial⟩⟩, trivial⟩⟩, ⟨trivial, ⟨⟨trivial, ⟨fun _ _ => rfl, fun _ => ⟨trivial, ⟨⟨trivial, trivial⟩, ⟨⟨trivial, trivial⟩, trivial⟩⟩⟩⟩⟩, ⟨trivial, ⟨trivial, trivial⟩⟩⟩⟩⟩⟩
set_option maxRecDepth 100000 in
theorem Reader_digits_snd {x : Reader_digits_I} {o : Reader_digits_O} (h : Reader_digits_Body x o) : SoundH Try.prog Reader_digits_sh.f ((Reader_digits_sh.args idf x).map (er TB)) ((Reader_digits_sh.obs idf x).map (erO TB)) (er TB (Reader_digits_sh.val idf o)) ((Reader_digits_sh.ops idf o).map (erO TB)) :=
  Con.soundH (c := Reader_digits_sh) (C := Reader_digits_cx) TBok ⟨inf_ok, (all_cons Reader_left_ok all_nil), all_nil⟩ mix Try.func62 (show Try.f62.body = some Reader_digits_code by kernel_rfl) (show Try.f62.ntmps = 53 by kernel_rfl) (show Try.f62.results.toList = Reader_digits_rs by kernel_rfl) rfl h (Reader_digits_obl o)
set_option maxRecDepth 100000 in
theorem Reader_digits_in {p1 : Int} {c0_0 : List Int} {c0_1 : Int} {c0_2 : Bool} {r0 : Int} {r1 : Bool} {d0_0 : List Int} {d0_1 : Int} {d0_2 : Bool} (h :
((c0_2 = true →
 Reader_digits_J1 (r0, r1, d0_0, d0_1, d0_2, ()) (p1, true, c0_0, c0_1, c0_2, ())) ∧
(c0_2 = false →
((0 ≤ c0_1 ∧ c0_1 ≤ c0_0.length) ∧ c0_0.length ≤ 137438953472) ∧ let v1 : Bool := decide (((c0_0.length : Int) - c0_1) < p1)
 Reader_digits_J1 (r0, r1, d0_0, d0_1, d0_2, ()) (p1, v1, c0_0, c0_1, c0_2, ())))) : Reader_digits_Body (p1, c0_0, c0_1, c0_2, ()) (r0, r1, d0_0, d0_1, d0_2, ()) := WPh.of_eq (by kernel_rfl) h
set_option maxRecDepth 100000 in
theorem Reader_digits_J1_in {r0 : Int} {r1 : Bool} {d0_0 : List Int} {d0_1 : Int} {d0_2 : Bool} {s1 : Int} {s17 : Bool} {h0_0 : List Int} {h0_1 : Int} {h0_2 : Bool} (h :
((s17 = true →
 0 = r0 ∧ false = r1 ∧ h0_0 = d0_0 ∧ h0_1 = d0_1 ∧ true = d0_2) ∧
(s17 = false →
 Md.Loop (s1, (0 : Int), s1, (0 : Int), h0_0, h0_1, h0_2, ()) (Reader_digits_L1 (r0, r1, d0_0, d0_1, d0_2, ()))))) : Reader_digits_J1 (r0, r1, d0_0, d0_1, d0_2, ()) (s1, s17, h0_0, h0_1, h0_2, ()) := ⟨mpr_of (by kernel_rfl) h⟩
def Reader_digits_B1 (r0 : Int) (r1 : Bool) (d0_0 : List Int) (d0_1 : Int) (d0_2 : Bool) (k1 : Int → Int → Prop) (s1 : Int) (s21 : Int) (h0_0 : List Int) (h0_1 : Int) (h0_2 : Bool) (s6 : Int) (s22 : Int) : Prop :=
(decide (s22 < s21) = true →
(0 ≤ IntKind.i64.wrap (h0_1 + s22)) ∧ IntKind.i64.wrap (h0_1 + s22) < (h0_0.length : Int) ∧ let v2 : Int := IntKind.u64.wrap (ix h0_0 (IntKind.i64.wrap (h0_1 + s22)))
(0 ≤ IntKind.i64.wrap (8 * s22)) ∧ let v3 : Int := ishl .u64 v2 (IntKind.i64.wrap (8 * s22))
 k1 (ior .u64 s6 v3 : Int) (IntKind.i64.wrap (s22 + 1) : Int)) ∧
(decide (s22 < s21) = false →
 s6 = r0 ∧ true = r1 ∧ h0_0 = d0_0 ∧ IntKind.i64.wrap (h0_1 + s1) = d0_1 ∧ h0_2 = d0_2)
set_option maxRecDepth 100000 in
theorem Reader_digits_lp1 {r0 : Int} {r1 : Bool} {d0_0 : List Int} {d0_1 : Int} {d0_2 : Bool} {s1 : Int} {s21 : Int} {h0_0 : List Int} {h0_1 : Int} {h0_2 : Bool} {s6 : Int} {s22 : Int} (inv : Int → Int → Prop) (μ : Int → Int → Nat) (h0 : inv s6 s22) (hs : ∀ (s6 : Int) (s22 : Int), inv s6 s22 → Reader_digits_B1 r0 r1 d0_0 d0_1 d0_2 (fun s6q s22q => inv s6q s22q ∧ μ s6q s22q < μ s6 s22) s1 s21 h0_0 h0_1 h0_2 s6 s22) : Md.Loop (s1, s6, s21, s22, h0_0, h0_1, h0_2, ()) (Reader_digits_L1 (r0, r1, d0_0, d0_1, d0_2, ())) :=
  ⟨⟨fun s : Int × Int × Int × Int × (List Int) × Int × Bool × Unit => (s.1 = s1 ∧ s.2.2.1 = s21 ∧ s.2.2.2.2.1 = h0_0 ∧ s.2.2.2.2.2.1 = h0_1 ∧ s.2.2.2.2.2.2.1 = h0_2) ∧ inv s.2.1 s.2.2.2.1, fun s : Int × Int × Int × Int × (List Int) × Int × Bool × Unit => μ s.2.1 s.2.2.2.1, ⟨⟨rfl, rfl, rfl, rfl, rfl⟩, h0⟩, fun (s1p, s6p, s21p, s22p, h0_0p, h0_1p, h0_2p, ()) ⟨⟨eq0, eq1, eq2, eq3, eq4⟩, hi⟩ => by
    have eq0 : s1p = s1 := eq0; subst s1p; have eq1 : s21p = s21 := eq1; subst s21p; have eq2 : h0_0p = h0_0 := eq2; subst h0_0p; have eq3 : h0_1p = h0_1 := eq3; subst h0_1p; have eq4 : h0_2p = h0_2 := eq4; subst h0_2p; exact mpr_of (by kernel_rfl) ((congrArg (fun k => Reader_digits_B1 r0 r1 d0_0 d0_1 d0_2 k s1 s21 h0_0 h0_1 h0_2 s6p s22p) (lpk2 (⟨rfl, rfl, rfl, rfl, rfl⟩ : s1 = s1 ∧ s21 = s21 ∧ h0_0 = h0_0 ∧ h0_1 = h0_1 ∧ h0_2 = h0_2) inv (fun s6q s22q => μ s6q s22q < μ s6p s22p))).mpr (hs s6p s22p hi))⟩⟩
theorem bd62 : Callable Try.prog 62 := ⟨by rw [Try.func62]; kernel_rfl, by rw [Try.func62]; show some _ ≠ some _; decide⟩
theorem Reader_digits_body (p1 : Int) (c0_0 : List Int) (c0_1 : Int) (c0_2 : Bool) (h : RdOk c0_0 c0_1 ∧ 1 ≤ p1 ∧ p1 ≤ 8) : Reader_digits_Body (p1, c0_0, c0_1, c0_2, ()) (((rdD c0_0 c0_1 c0_2 p1).n : Int), ((rdD c0_0 c0_1 c0_2 p1).ok : Bool), (c0_0 : List Int), ((rdD c0_0 c0_1 c0_2 p1).pos : Int), ((rdD c0_0 c0_1 c0_2 p1).fail : Bool), ()) := by
  obtain ⟨⟨hb, hl, h0, h1⟩, h2, h3⟩ := h
  have jf : (c0_2 = true ∨ (c0_0.length : Int) - c0_1 < p1) → Reader_digits_J1 ((rdD c0_0 c0_1 c0_2 p1).n, (rdD c0_0 c0_1 c0_2 p1).ok, c0_0, (rdD c0_0 c0_1 c0_2 p1).pos, (rdD c0_0 c0_1 c0_2 p1).fail, ()) (p1, true, c0_0, c0_1, c0_2, ()) := by
    intro h
    refine Reader_digits_J1_in ⟨fun _ => ?_, fun h => by simp at h⟩
    unfold rdD
    rw [if_pos h]
    exact ⟨rfl, rfl, rfl, rfl, rfl⟩
  have jt : ¬ (c0_2 = true ∨ (c0_0.length : Int) - c0_1 < p1) → Reader_digits_J1 ((rdD c0_0 c0_1 c0_2 p1).n, (rdD c0_0 c0_1 c0_2 p1).ok, c0_0, (rdD c0_0 c0_1 c0_2 p1).pos, (rdD c0_0 c0_1 c0_2 p1).fail, ()) (p1, false, c0_0, c0_1, c0_2, ()) := by
    intro h
    refine Reader_digits_J1_in ⟨fun h => by simp at h, fun _ => ?_⟩
    have hD : rdD c0_0 c0_1 c0_2 p1 = ⟨val ((c0_0.drop c0_1.toNat).take p1.toNat), true, c0_1 + p1, false⟩ := by unfold rdD; rw [if_neg h]
    rw [hD]
    refine Reader_digits_lp1 (fun n i => 0 ≤ i ∧ i ≤ p1 ∧ n = val ((c0_0.drop c0_1.toNat).take i.toNat)) (fun _ i => (p1 - i).toNat) ⟨by omega, by omega, rfl⟩ ?_
    rintro n i ⟨g0, g1, rfl⟩
    refine ⟨fun hh => ?_, fun hh => ?_⟩
    · have hh := of_decide_eq_true hh
      have hlen : (((c0_0.drop c0_1.toNat).take i.toNat).length : Int) = i := by rw [List.length_take, List.length_drop]; omega
      have hix : ix c0_0 (c0_1 + i) = ix (c0_0.drop c0_1.toNat) i := by
        rw [ix_nat _ _ (by omega) (by omega), ix_nat _ _ g0 (by rw [List.length_drop]; omega), List.getElem_drop]
        congr 1
        omega
      have hx := hb _ (ix_mem c0_0 (c0_1 + i) (by omega) (by omega))
      have hv := ior_val ((c0_0.drop c0_1.toNat).take i.toNat) (ix (c0_0.drop c0_1.toNat) i) ((hb.drop _).take _) (by omega) (by rw [← hix]; exact hx)
      rw [hlen] at hv
      rw [inc i p1 g0 hh (by omega), wi (c0_1 + i) (by omega) (by omega), wi (8 * i) (by omega) (by omega), wu (ix c0_0 (c0_1 + i)) (by omega) (by omega), hix]
      simp only [hv]
      refine ⟨by omega, by omega, by omega, ⟨by omega, by omega, ?_⟩, by omega⟩
      rw [take_succ_ix _ i g0 (by rw [List.length_drop]; omega)]
    · have hh := of_decide_eq_false hh
      have h4 : c0_2 = false := by
        cases hc : c0_2
        · rfl
        · exact absurd (.inl hc) h
      exact ⟨by rw [show i = p1 by omega], rfl, rfl, wi _ (by omega) (by omega), h4⟩
  refine Reader_digits_in ⟨fun h => jf (.inl h), fun h => ⟨⟨⟨h0, h1⟩, hl⟩, ?_⟩⟩
  by_cases hq : (c0_0.length : Int) - c0_1 < p1
  · rw [decide_eq_true hq]; exact jf (.inr hq)
  · rw [decide_eq_false hq]; exact jt (by rw [h]; simpa using hq)
noncomputable def Reader_digits_con : Con TB.den := { Reader_digits_sh with R := fun x K => (fun (p1 : Int) (c0_0 : List Int) (c0_1 : Int) (c0_2 : Bool) => ((RdOk c0_0 c0_1 ∧ 1 ≤ p1 ∧ p1 ≤ 8) ∧ ∀ (v0 : Int) (v1 : Bool) (v3 : Int) (v4 : Bool), (v0 = ((rdD c0_0 c0_1 c0_2 p1).n) ∧ v1 = ((rdD c0_0 c0_1 c0_2 p1).ok) ∧ v3 = ((rdD c0_0 c0_1 c0_2 p1).pos) ∧ v4 = ((rdD c0_0 c0_1 c0_2 p1).fail)) → K (v0, v1, (c0_0 : List Int), v3, v4, ()) : Prop)) x.1 x.2.1 x.2.2.1 x.2.2.2.1 }
theorem Reader_digits_ok : Reader_digits_con.Ok Try.prog TB := ⟨bd62, fun x K hx => ⟨((fun (p1 : Int) (c0_0 : List Int) (c0_1 : Int) (c0_2 : Bool) => ((rdD c0_0 c0_1 c0_2 p1).n : Int)) x.1 x.2.1 x.2.2.1 x.2.2.2.1, (fun (p1 : Int) (c0_0 : List Int) (c0_1 : Int) (c0_2 : Bool) => ((rdD c0_0 c0_1 c0_2 p1).ok : Bool)) x.1 x.2.1 x.2.2.1 x.2.2.2.1, (fun (p1 : Int) (c0_0 : List Int) (c0_1 : Int) (c0_2 : Bool) => (c0_0 : List Int)) x.1 x.2.1 x.2.2.1 x.2.2.2.1, (fun (p1 : Int) (c0_0 : List Int) (c0_1 : Int) (c0_2 : Bool) => ((rdD c0_0 c0_1 c0_2 p1).pos : Int)) x.1 x.2.1 x.2.2.1 x.2.2.2.1, (fun (p1 : Int) (c0_0 : List Int) (c0_1 : Int) (c0_2 : Bool) => ((rdD c0_0 c0_1 c0_2 p1).fail : Bool)) x.1 x.2.1 x.2.2.1 x.2.2.2.1, ()), hx.2 ((fun (p1 : Int) (c0_0 : List Int) (c0_1 : Int) (c0_2 : Bool) => (((rdD c0_0 c0_1 c0_2 p1).n))) x.1 x.2.1 x.2.2.1 x.2.2.2.1) ((fun (p1 : Int) (c0_0 : List Int) (c0_1 : Int) (c0_2 : Bool) => (((rdD c0_0 c0_1 c0_2 p1).ok))) x.1 x.2.1 x.2.2.1 x.2.2.2.1) ((fun (p1 : Int) (c0_0 : List Int) (c0_1 : Int) (c0_2 : Bool) => (((rdD c0_0 c0_1 c0_2 p1).pos))) x.1 x.2.1 x.2.2.1 x.2.2.2.1) ((fun (p1 : Int) (c0_0 : List Int) (c0_1 : Int) (c0_2 : Bool) => (((rdD c0_0 c0_1 c0_2 p1).fail))) x.1 x.2.1 x.2.2.1 x.2.2.2.1) ⟨rfl, rfl, rfl, rfl⟩, Reader_digits_snd (Reader_digits_body x.1 x.2.1 x.2.2.1 x.2.2.2.1 hx.1)⟩⟩
end Go.Proofs.Ytdbnagpoknmoiaa
namespace Go.Proofs.Ytdbnagpoknmoiaa
open Go Go.Bv Go.Cv Go.Md Go.RowKit
def Reader_Int_sh : Con TB.den := Con.mk0 47 [.one (.ptr 0 0), .one (.d (.int .i64))] [.cells [.d (.sl (.int .u8)), .d (.int .i64), .d (.bool)]] (.one (.one (.d (.int .i64)))) [.cells [.d (.sl (.int .u8)), .d (.int .i64), .d (.bool)]]
abbrev Reader_Int_I := HL TB.den (hsT Reader_Int_sh.ins (hsOs Reader_Int_sh.pre))
abbrev Reader_Int_O := HL TB.den (hsV Reader_Int_sh.res (hsOs Reader_Int_sh.post))
noncomputable def Reader_Int_cx : Cx TB := ⟨inf, [Reader_digits_con], [], 4⟩
noncomputable def Reader_Int_code : Code := Try.f47.body.getD .skip
noncomputable def Reader_Int_rs : List ResultVar := Try.f47.results.toList
noncomputable def Reader_Int_Q1 (o : Reader_Int_O) : Exit → TSt TB.den → Prop := thenT TB (fun s => ghs TB [] s fun s => WP TB Reader_Int_cx 25 1 (cB (cB (cB Reader_Int_code))) .no s (retTQ TB Reader_Int_cx Reader_Int_sh Reader_Int_rs o)) (retTQ TB Reader_Int_cx Reader_Int_sh Reader_Int_rs o)
def Reader_Int_TJ1 : Tm := ⟨[0], [.cells [.d (.sl (.int .u8)), .d (.int .i64), .d (.bool)]], [0, 5, 19], [.one (.ptr 0 0), .one (.d (.int .u64)), .one (.d (.bool))], 1⟩
noncomputable def Reader_Int_J1d (o : Reader_Int_O) (i : HL TB.den Reader_Int_TJ1.hs) : Prop := ghs TB [] (Reader_Int_TJ1.fill TB i) fun s => WP TB Reader_Int_cx 25 1 (cB (cA (cB (cB Reader_Int_code)))) .no s (Reader_Int_Q1 o)
structure Reader_Int_J1 (o : Reader_Int_O) (i : HL TB.den Reader_Int_TJ1.hs) : Prop where
  h : Reader_Int_J1d o i
noncomputable def Reader_Int_A3 (o : Reader_Int_O) : An TB := .nd [] (.jn Reader_Int_TJ1 (Reader_Int_J1 o) [] .no [] .no) [] .no
noncomputable def Reader_Int_an (o : Reader_Int_O) : An TB := .nd [] .no [] (.nd [] .no [] (Reader_Int_A3 o))
noncomputable def Reader_Int_Body (x : Reader_Int_I) (o : Reader_Int_O) : Prop := WPh TB Reader_Int_cx 25 1 Reader_Int_code (Reader_Int_an o) (Reader_Int_sh.st TB x) (retTQ TB Reader_Int_cx Reader_Int_sh Reader_Int_rs o)
set_option maxRecDepth 100000 in
theorem Reader_Int_obl (o : Reader_Int_O) : OblH TB Reader_Int_cx 25 1 Reader_Int_code (Reader_Int_an o) (retTQ TB Reader_Int_cx Reader_Int_sh Reader_Int_rs o) :=
  OblH.of_eq (X := (True ∧ (True ∧ ((True ∧ (∀ i, (Reader_Int_J1 o) i = (Reader_Int_J1d o) i) ∧ ((True ∧ (True ∧ True)) ∧ True)) ∧ (True ∧ True))))) (by kernel_rfl) ⟨trivial, ⟨trivial, ⟨⟨trivial, fun _ => propext ⟨fun h => h.1, fun h => ⟨h⟩⟩, ⟨⟨trivial, ⟨trivial, trivial⟩⟩, trivial⟩⟩, ⟨trivial, trivial⟩⟩⟩⟩
set_option maxRecDepth 100000 in
theorem Reader_Int_snd {x : Reader_Int_I} {o : Reader_Int_O} (h : Reader_Int_Body x o) : SoundH Try.prog Reader_Int_sh.f ((Reader_Int_sh.args idf x).map (er TB)) ((Reader_Int_sh.obs idf x).map (erO TB)) (er TB (Reader_Int_sh.val idf o)) ((Reader_Int_sh.ops idf o).map (erO TB)) :=
  Con.soundH (c := Reader_Int_sh) (C := Reader_Int_cx) TBok ⟨inf_ok, (all_cons Reader_digits_ok all_nil), all_nil⟩ mix Try.func47 (show Try.f47.body = some Reader_Int_code by kernel_rfl) (show Try.f47.ntmps = 25 by kernel_rfl) (show Try.f47.results.toList = Reader_Int_rs by kernel_rfl) rfl h (Reader_Int_obl o)
set_option maxRecDepth 100000 in
theorem Reader_Int_in {p1 : Int} {c0_0 : List Int} {c0_1 : Int} {c0_2 : Bool} {r0 : Int} {d0_0 : List Int} {d0_1 : Int} {d0_2 : Bool} (h :
((RdOk c0_0 c0_1 ∧ 1 ≤ (4 : Int) ∧ (4 : Int) ≤ 8) ∧ ∀ (r5 : Int) (r6 : Bool) (r7 : Int) (r8 : Bool), (r5 = (rdD c0_0 c0_1 c0_2 (4 : Int)).n ∧ r6 = (rdD c0_0 c0_1 c0_2 (4 : Int)).ok ∧ r7 = (rdD c0_0 c0_1 c0_2 (4 : Int)).pos ∧ r8 = (rdD c0_0 c0_1 c0_2 (4 : Int)).fail) → ((!r6) = true →
 Reader_Int_J1 (r0, d0_0, d0_1, d0_2, ()) (r5, true, c0_0, r7, r8, ())) ∧
((!r6) = false →
 Reader_Int_J1 (r0, d0_0, d0_1, d0_2, ()) (r5, (decide (p1 < (IntKind.i64.wrap r5)) : Bool), c0_0, r7, r8, ())))) : Reader_Int_Body (p1, c0_0, c0_1, c0_2, ()) (r0, d0_0, d0_1, d0_2, ()) := WPh.of_eq (by kernel_rfl) h
set_option maxRecDepth 100000 in
theorem Reader_Int_J1_in {r0 : Int} {d0_0 : List Int} {d0_1 : Int} {d0_2 : Bool} {s5 : Int} {s19 : Bool} {h0_0 : List Int} {h0_1 : Int} {h0_2 : Bool} (h :
((s19 = true →
 0 = r0 ∧ h0_0 = d0_0 ∧ h0_1 = d0_1 ∧ true = d0_2) ∧
(s19 = false →
 IntKind.i64.wrap s5 = r0 ∧ h0_0 = d0_0 ∧ h0_1 = d0_1 ∧ h0_2 = d0_2))) : Reader_Int_J1 (r0, d0_0, d0_1, d0_2, ()) (s5, s19, h0_0, h0_1, h0_2, ()) := ⟨mpr_of (by kernel_rfl) h⟩
theorem bd47 : Callable Try.prog 47 := ⟨by rw [Try.func47]; kernel_rfl, by rw [Try.func47]; show some _ ≠ some _; decide⟩
theorem Reader_Int_body (p1 : Int) (c0_0 : List Int) (c0_1 : Int) (c0_2 : Bool) (h : RdOk c0_0 c0_1) : Reader_Int_Body (p1, c0_0, c0_1, c0_2, ()) (((rdI c0_0 c0_1 c0_2 p1).n : Int), (c0_0 : List Int), ((rdI c0_0 c0_1 c0_2 p1).pos : Int), ((rdI c0_0 c0_1 c0_2 p1).fail : Bool), ()) := by
  have hn : 0 ≤ (rdD c0_0 c0_1 c0_2 4).n ∧ (rdD c0_0 c0_1 c0_2 4).n < 4294967296 := rdD_bound h (p := 4) (f := c0_2) (by omega) (by omega)
  refine Reader_Int_in ⟨⟨h, by omega, by omega⟩, ?_⟩
  rintro _ _ _ _ ⟨rfl, rfl, rfl, rfl⟩
  unfold rdI
  rw [wi (rdD c0_0 c0_1 c0_2 4).n (by omega) (by have := hn.2; omega)]
  refine ⟨fun e => Reader_Int_J1_in ⟨fun _ => ?_, fun h => by simp at h⟩, fun e => Reader_Int_J1_in ⟨fun e2 => ?_, fun e2 => ?_⟩⟩
  · have e : (rdD c0_0 c0_1 c0_2 4).ok = false := by simpa using e
    rw [e]
    exact ⟨rfl, rfl, rfl, rfl⟩
  · have e : (rdD c0_0 c0_1 c0_2 4).ok = true := by simpa using e
    have e2 := of_decide_eq_true e2
    rw [if_pos (.inr e2)]
    exact ⟨rfl, rfl, rfl, rfl⟩
  · have e : (rdD c0_0 c0_1 c0_2 4).ok = true := by simpa using e
    have e2 := of_decide_eq_false e2
    rw [if_neg (by rw [e]; simpa using e2)]
    exact ⟨wi _ (by omega) (by have := hn.2; omega), rfl, rfl, rfl⟩
noncomputable def Reader_Int_con : Con TB.den := { Reader_Int_sh with R := fun x K => (fun (p1 : Int) (c0_0 : List Int) (c0_1 : Int) (c0_2 : Bool) => ((RdOk c0_0 c0_1) ∧ ∀ (v0 : Int) (v2 : Int) (v3 : Bool), (v0 = ((rdI c0_0 c0_1 c0_2 p1).n) ∧ v2 = ((rdI c0_0 c0_1 c0_2 p1).pos) ∧ v3 = ((rdI c0_0 c0_1 c0_2 p1).fail)) → K (v0, (c0_0 : List Int), v2, v3, ()) : Prop)) x.1 x.2.1 x.2.2.1 x.2.2.2.1 }
theorem Reader_Int_ok : Reader_Int_con.Ok Try.prog TB := ⟨bd47, fun x K hx => ⟨((fun (p1 : Int) (c0_0 : List Int) (c0_1 : Int) (c0_2 : Bool) => ((rdI c0_0 c0_1 c0_2 p1).n : Int)) x.1 x.2.1 x.2.2.1 x.2.2.2.1, (fun (p1 : Int) (c0_0 : List Int) (c0_1 : Int) (c0_2 : Bool) => (c0_0 : List Int)) x.1 x.2.1 x.2.2.1 x.2.2.2.1, (fun (p1 : Int) (c0_0 : List Int) (c0_1 : Int) (c0_2 : Bool) => ((rdI c0_0 c0_1 c0_2 p1).pos : Int)) x.1 x.2.1 x.2.2.1 x.2.2.2.1, (fun (p1 : Int) (c0_0 : List Int) (c0_1 : Int) (c0_2 : Bool) => ((rdI c0_0 c0_1 c0_2 p1).fail : Bool)) x.1 x.2.1 x.2.2.1 x.2.2.2.1, ()), hx.2 ((fun (p1 : Int) (c0_0 : List Int) (c0_1 : Int) (c0_2 : Bool) => (((rdI c0_0 c0_1 c0_2 p1).n))) x.1 x.2.1 x.2.2.1 x.2.2.2.1) ((fun (p1 : Int) (c0_0 : List Int) (c0_1 : Int) (c0_2 : Bool) => (((rdI c0_0 c0_1 c0_2 p1).pos))) x.1 x.2.1 x.2.2.1 x.2.2.2.1) ((fun (p1 : Int) (c0_0 : List Int) (c0_1 : Int) (c0_2 : Bool) => (((rdI c0_0 c0_1 c0_2 p1).fail))) x.1 x.2.1 x.2.2.1 x.2.2.2.1) ⟨rfl, rfl, rfl⟩, Reader_Int_snd (Reader_Int_body x.1 x.2.1 x.2.2.1 x.2.2.2.1 hx.1)⟩⟩
end Go.Proofs.Ytdbnagpoknmoiaa
namespace Go.Proofs.Ytdbnagpoknmoiaa
open Go Go.Bv Go.Cv Go.Md Go.RowKit
def Reader_Bytes_sh : Con TB.den := Con.mk0 48 [.one (.ptr 0 0), .one (.d (.int .i64))] [.cells [.d (.sl (.int .u8)), .d (.int .i64), .d (.bool)]] (.one (.one (.d (.sl (.int .u8))))) [.cells [.d (.sl (.int .u8)), .d (.int .i64), .d (.bool)]]
abbrev Reader_Bytes_I := HL TB.den (hsT Reader_Bytes_sh.ins (hsOs Reader_Bytes_sh.pre))
abbrev Reader_Bytes_O := HL TB.den (hsV Reader_Bytes_sh.res (hsOs Reader_Bytes_sh.post))
noncomputable def Reader_Bytes_cx : Cx TB := ⟨inf, [Reader_Int_con, Reader_left_con, wire_room_con], [], 4⟩
noncomputable def Reader_Bytes_code : Code := Try.f48.body.getD .skip
noncomputable def Reader_Bytes_rs : List ResultVar := Try.f48.results.toList
noncomputable def Reader_Bytes_Q1 (o : Reader_Bytes_O) : Exit → TSt TB.den → Prop := thenT TB (fun s => ghs TB [] s fun s => WP TB Reader_Bytes_cx 46 1 (cB (cB (cB Reader_Bytes_code))) .no s (retTQ TB Reader_Bytes_cx Reader_Bytes_sh Reader_Bytes_rs o)) (retTQ TB Reader_Bytes_cx Reader_Bytes_sh Reader_Bytes_rs o)
def Reader_Bytes_TJ1 : Tm := ⟨[0], [.cells [.d (.sl (.int .u8)), .d (.int .i64), .d (.bool)]], [0, 5, 19], [.one (.ptr 0 0), .one (.d (.int .i64)), .one (.d (.bool))], 1⟩
noncomputable def Reader_Bytes_J1d (o : Reader_Bytes_O) (i : HL TB.den Reader_Bytes_TJ1.hs) : Prop := ghs TB [] (Reader_Bytes_TJ1.fill TB i) fun s => WP TB Reader_Bytes_cx 46 1 (cB (cA (cB (cB Reader_Bytes_code)))) .no s (Reader_Bytes_Q1 o)
structure Reader_Bytes_J1 (o : Reader_Bytes_O) (i : HL TB.den Reader_Bytes_TJ1.hs) : Prop where
  h : Reader_Bytes_J1d o i
noncomputable def Reader_Bytes_A3 (o : Reader_Bytes_O) : An TB := .nd [] (.jn Reader_Bytes_TJ1 (Reader_Bytes_J1 o) [] .no [] .no) [] .no
noncomputable def Reader_Bytes_an (o : Reader_Bytes_O) : An TB := .nd [] .no [] (.nd [] .no [] (Reader_Bytes_A3 o))
noncomputable def Reader_Bytes_Body (x : Reader_Bytes_I) (o : Reader_Bytes_O) : Prop := WPh TB Reader_Bytes_cx 46 1 Reader_Bytes_code (Reader_Bytes_an o) (Reader_Bytes_sh.st TB x) (retTQ TB Reader_Bytes_cx Reader_Bytes_sh Reader_Bytes_rs o)
set_option maxRecDepth 100000 in
theorem Reader_Bytes_obl (o : Reader_Bytes_O) : OblH TB Reader_Bytes_cx 46 1 Reader_Bytes_code (Reader_Bytes_an o) (retTQ TB Reader_Bytes_cx Reader_Bytes_sh Reader_Bytes_rs o) :=
  OblH.of_eq (X := (True ∧ (True ∧ ((True ∧ (∀ i, (Reader_Bytes_J1 o) i = (Reader_Bytes_J1d o) i) ∧ ((True ∧ (True ∧ True)) ∧ True)) ∧ (True ∧ (True ∧ (True ∧ True))))))) (by kernel_rfl) ⟨trivial, ⟨trivial, ⟨⟨trivial, fun _ => propext ⟨fun h => h.1, fun h => ⟨h⟩⟩, ⟨⟨trivial, ⟨trivial, trivial⟩⟩, trivial⟩⟩, ⟨trivial, ⟨trivial, ⟨trivial, trivial⟩⟩⟩⟩⟩⟩
set_option maxRecDepth 100000 in
theorem Reader_Bytes_snd {x : Reader_Bytes_I} {o : Reader_Bytes_O} (h : Reader_Bytes_Body x o) : SoundH Try.prog Reader_Bytes_sh.f ((Reader_Bytes_sh.args idf x).map (er TB)) ((Reader_Bytes_sh.obs idf x).map (erO TB)) (er TB (Reader_Bytes_sh.val idf o)) ((Reader_Bytes_sh.ops idf o).map (erO TB)) :=
  Con.soundH (c := Reader_Bytes_sh) (C := Reader_Bytes_cx) TBok ⟨inf_ok, (all_cons Reader_Int_ok (all_cons Reader_left_ok (all_cons wire_room_ok all_nil))), all_nil⟩ mix Try.func48 (show Try.f48.body = some Reader_Bytes_code by kernel_rfl) (show Try.f48.ntmps = 46 by kernel_rfl) (show Try.f48.results.toList = Reader_Bytes_rs by kernel_rfl) rfl h (Reader_Bytes_obl o)
set_option maxRecDepth 100000 in
theorem Reader_Bytes_in {p1 : Int} {c0_0 : List Int} {c0_1 : Int} {c0_2 : Bool} {r0 : List Int} {d0_0 : List Int} {d0_1 : Int} {d0_2 : Bool} (h :
((RdOk c0_0 c0_1) ∧ ∀ (r4 : Int) (r5 : Int) (r6 : Bool), (r4 = (rdI c0_0 c0_1 c0_2 p1).n ∧ r5 = (rdI c0_0 c0_1 c0_2 p1).pos ∧ r6 = (rdI c0_0 c0_1 c0_2 p1).fail) → (r6 = true →
 Reader_Bytes_J1 (r0, d0_0, d0_1, d0_2, ()) (r4, true, c0_0, r5, r6, ())) ∧
(r6 = false →
((0 ≤ r5 ∧ r5 ≤ c0_0.length) ∧ c0_0.length ≤ 137438953472) ∧ Reader_Bytes_J1 (r0, d0_0, d0_1, d0_2, ()) (r4, (decide (((c0_0.length : Int) - r5) < r4) : Bool), c0_0, r5, r6, ())))) : Reader_Bytes_Body (p1, c0_0, c0_1, c0_2, ()) (r0, d0_0, d0_1, d0_2, ()) := WPh.of_eq (by kernel_rfl) h
set_option maxRecDepth 100000 in
theorem Reader_Bytes_J1_in {r0 : List Int} {d0_0 : List Int} {d0_1 : Int} {d0_2 : Bool} {s5 : Int} {s19 : Bool} {h0_0 : List Int} {h0_1 : Int} {h0_2 : Bool} (h :
((s19 = true →
([] : List Int) = r0 ∧ h0_0 = d0_0 ∧ h0_1 = d0_1 ∧ true = d0_2) ∧
(s19 = false →
(0 ≤ h0_1) ∧ h0_1 ≤ IntKind.i64.wrap (h0_1 + s5) ∧ IntKind.i64.wrap (h0_1 + s5) ≤ (h0_0.length : Int) ∧ let v7 : List Int := (h0_0.take (IntKind.i64.wrap (h0_1 + s5)).toNat).drop h0_1.toNat
(0 ≤ (0 : Int) ∧ v7.length + (0 : Int) ≤ 140737488355328) ∧ v7 = r0 ∧ h0_0 = d0_0 ∧ IntKind.i64.wrap (h0_1 + s5) = d0_1 ∧ h0_2 = d0_2))) : Reader_Bytes_J1 (r0, d0_0, d0_1, d0_2, ()) (s5, s19, h0_0, h0_1, h0_2, ()) := ⟨mpr_of (by kernel_rfl) h⟩
theorem bd48 : Callable Try.prog 48 := ⟨by rw [Try.func48]; kernel_rfl, by rw [Try.func48]; show some _ ≠ some _; decide⟩
theorem Reader_Bytes_body (p1 : Int) (c0_0 : List Int) (c0_1 : Int) (c0_2 : Bool) (h : RdOk c0_0 c0_1 ∧ (0 ≤ p1 ∧ p1 ≤ 4294967296)) : Reader_Bytes_Body (p1, c0_0, c0_1, c0_2, ()) (((rdB c0_0 c0_1 c0_2 p1).l : List Int), (c0_0 : List Int), ((rdB c0_0 c0_1 c0_2 p1).pos : Int), ((rdB c0_0 c0_1 c0_2 p1).fail : Bool), ()) := by
  obtain ⟨h, hp0, hp1⟩ := h
  have hI := rdI_ok h (f := c0_2) (m := p1)
  have hIn := rdI_n h (f := c0_2) (m := p1) hp0
  have hl := h.len
  generalize hX : rdI c0_0 c0_1 c0_2 p1 = X at *
  have jf : (X.fail = true ∨ (c0_0.length : Int) - X.pos < X.n) → Reader_Bytes_J1 ((rdB c0_0 c0_1 c0_2 p1).l, c0_0, (rdB c0_0 c0_1 c0_2 p1).pos, (rdB c0_0 c0_1 c0_2 p1).fail, ()) (X.n, true, c0_0, X.pos, X.fail, ()) := by
    intro hf
    refine Reader_Bytes_J1_in ⟨fun _ => ?_, fun h => by simp at h⟩
    unfold rdB
    rw [hX, if_pos hf]
    exact ⟨rfl, rfl, rfl, rfl⟩
  have jt : ¬ (X.fail = true ∨ (c0_0.length : Int) - X.pos < X.n) → Reader_Bytes_J1 ((rdB c0_0 c0_1 c0_2 p1).l, c0_0, (rdB c0_0 c0_1 c0_2 p1).pos, (rdB c0_0 c0_1 c0_2 p1).fail, ()) (X.n, false, c0_0, X.pos, X.fail, ()) := by
    intro hf
    have hff : X.fail = false := by
      cases hc : X.fail
      · rfl
      · exact absurd (.inl hc) hf
    have hle : X.n ≤ (c0_0.length : Int) - X.pos := by
      have : ¬ (c0_0.length : Int) - X.pos < X.n := fun h => hf (.inr h)
      omega
    have hL : rdB c0_0 c0_1 c0_2 p1 = ⟨(c0_0.take (X.pos + X.n).toNat).drop X.pos.toNat, X.pos + X.n, false⟩ := by unfold rdB; rw [hX, if_neg hf]
    have h1 := hI.pos0
    have h2 := hIn.1
    refine Reader_Bytes_J1_in ⟨fun h => by simp at h, fun _ => ?_⟩
    rw [wi (X.pos + X.n) (by omega) (by omega), hL]
    refine ⟨h1, by omega, by omega, ⟨by omega, ?_⟩, rfl, rfl, rfl, hff⟩
    rw [List.length_drop, List.length_take]
    omega
  refine Reader_Bytes_in ⟨h, ?_⟩
  rintro _ _ _ ⟨rfl, rfl, rfl⟩
  rw [hX]
  refine ⟨fun e => jf (.inl e), fun e => ⟨⟨⟨hI.pos0, hI.pos1⟩, hl⟩, ?_⟩⟩
  try simp only []
  by_cases hq : (c0_0.length : Int) - X.pos < X.n
  · rw [decide_eq_true hq]; exact jf (.inr hq)
  · rw [decide_eq_false hq]; exact jt (by rw [e]; simpa using hq)
noncomputable def Reader_Bytes_con : Con TB.den := { Reader_Bytes_sh with R := fun x K => (fun (p1 : Int) (c0_0 : List Int) (c0_1 : Int) (c0_2 : Bool) => ((RdOk c0_0 c0_1 ∧ (0 ≤ p1 ∧ p1 ≤ 4294967296)) ∧ ∀ (v0 : List Int) (v2 : Int) (v3 : Bool), (v0 = ((rdB c0_0 c0_1 c0_2 p1).l) ∧ v2 = ((rdB c0_0 c0_1 c0_2 p1).pos) ∧ v3 = ((rdB c0_0 c0_1 c0_2 p1).fail)) → K (v0, (c0_0 : List Int), v2, v3, ()) : Prop)) x.1 x.2.1 x.2.2.1 x.2.2.2.1 }
theorem Reader_Bytes_ok : Reader_Bytes_con.Ok Try.prog TB := ⟨bd48, fun x K hx => ⟨((fun (p1 : Int) (c0_0 : List Int) (c0_1 : Int) (c0_2 : Bool) => ((rdB c0_0 c0_1 c0_2 p1).l : List Int)) x.1 x.2.1 x.2.2.1 x.2.2.2.1, (fun (p1 : Int) (c0_0 : List Int) (c0_1 : Int) (c0_2 : Bool) => (c0_0 : List Int)) x.1 x.2.1 x.2.2.1 x.2.2.2.1, (fun (p1 : Int) (c0_0 : List Int) (c0_1 : Int) (c0_2 : Bool) => ((rdB c0_0 c0_1 c0_2 p1).pos : Int)) x.1 x.2.1 x.2.2.1 x.2.2.2.1, (fun (p1 : Int) (c0_0 : List Int) (c0_1 : Int) (c0_2 : Bool) => ((rdB c0_0 c0_1 c0_2 p1).fail : Bool)) x.1 x.2.1 x.2.2.1 x.2.2.2.1, ()), hx.2 ((fun (p1 : Int) (c0_0 : List Int) (c0_1 : Int) (c0_2 : Bool) => (((rdB c0_0 c0_1 c0_2 p1).l))) x.1 x.2.1 x.2.2.1 x.2.2.2.1) ((fun (p1 : Int) (c0_0 : List Int) (c0_1 : Int) (c0_2 : Bool) => (((rdB c0_0 c0_1 c0_2 p1).pos))) x.1 x.2.1 x.2.2.1 x.2.2.2.1) ((fun (p1 : Int) (c0_0 : List Int) (c0_1 : Int) (c0_2 : Bool) => (((rdB c0_0 c0_1 c0_2 p1).fail))) x.1 x.2.1 x.2.2.1 x.2.2.2.1) ⟨rfl, rfl, rfl⟩, Reader_Bytes_snd (Reader_Bytes_body x.1 x.2.1 x.2.2.1 x.2.2.2.1 hx.1)⟩⟩
end Go.Proofs.Ytdbnagpoknmoiaa
namespace Go.Proofs.Ytdbnagpoknmoiaa
open Go Go.Bv Go.Cv Go.Md Go.RowKit
def Reader_Done_sh : Con TB.den := Con.mk0 49 [.one (.ptr 0 0)] [.cells [.d (.sl (.int .u8)), .d (.int .i64), .d (.bool)]] (.one (.one (.d (.bool)))) [.cells [.d (.sl (.int .u8)), .d (.int .i64), .d (.bool)]]
abbrev Reader_Done_I := HL TB.den (hsT Reader_Done_sh.ins (hsOs Reader_Done_sh.pre))
abbrev Reader_Done_O := HL TB.den (hsV Reader_Done_sh.res (hsOs Reader_Done_sh.post))
noncomputable def Reader_Done_cx : Cx TB := ⟨inf, [], [], 4⟩
noncomputable def Reader_Done_code : Code := Try.f49.body.getD .skip
noncomputable def Reader_Done_rs : List ResultVar := Try.f49.results.toList
noncomputable def Reader_Done_an (o : Reader_Done_O) : An TB := .no
noncomputable def Reader_Done_Body (x : Reader_Done_I) (o : Reader_Done_O) : Prop := WPh TB Reader_Done_cx 20 1 Reader_Done_code (Reader_Done_an o) (Reader_Done_sh.st TB x) (retTQ TB Reader_Done_cx Reader_Done_sh Reader_Done_rs o)
set_option maxRecDepth 100000 in
theorem Reader_Done_obl (o : Reader_Done_O) : OblH TB Reader_Done_cx 20 1 Reader_Done_code (Reader_Done_an o) (retTQ TB Reader_Done_cx Reader_Done_sh Reader_Done_rs o) :=
  OblH.of_eq (X := (True ∧ (True ∧ True))) (by kernel_rfl) ⟨trivial, ⟨trivial, trivial⟩⟩
set_option maxRecDepth 100000 in
theorem Reader_Done_snd {x : Reader_Done_I} {o : Reader_Done_O} (h : Reader_Done_Body x o) : SoundH Try.prog Reader_Done_sh.f ((Reader_Done_sh.args idf x).map (er TB)) ((Reader_Done_sh.obs idf x).map (erO TB)) (er TB (Reader_Done_sh.val idf o)) ((Reader_Done_sh.ops idf o).map (erO TB)) :=
  Con.soundH (c := Reader_Done_sh) (C := Reader_Done_cx) TBok ⟨inf_ok, all_nil, all_nil⟩ mix Try.func49 (show Try.f49.body = some Reader_Done_code by kernel_rfl) (show Try.f49.ntmps = 20 by kernel_rfl) (show Try.f49.results.toList = Reader_Done_rs by kernel_rfl) rfl h (Reader_Done_obl o)
set_option maxRecDepth 100000 in
theorem Reader_Done_in {c0_0 : List Int} {c0_1 : Int} {c0_2 : Bool} {r0 : Bool} {d0_0 : List Int} {d0_1 : Int} {d0_2 : Bool} (h :
(((!c0_2) = true →
(c0_1 == (c0_0.length : Int)) = r0 ∧ c0_0 = d0_0 ∧ c0_1 = d0_1 ∧ c0_2 = d0_2) ∧
((!c0_2) = false →
 false = r0 ∧ c0_0 = d0_0 ∧ c0_1 = d0_1 ∧ c0_2 = d0_2))) : Reader_Done_Body (c0_0, c0_1, c0_2, ()) (r0, d0_0, d0_1, d0_2, ()) := WPh.of_eq (by kernel_rfl) h
theorem bd49 : Callable Try.prog 49 := ⟨by rw [Try.func49]; kernel_rfl, by rw [Try.func49]; show some _ ≠ some _; decide⟩
theorem Reader_Done_body (c0_0 : List Int) (c0_1 : Int) (c0_2 : Bool) : Reader_Done_Body (c0_0, c0_1, c0_2, ()) (((!c0_2 && c0_1 == (c0_0.length : Int)) : Bool), (c0_0 : List Int), (c0_1 : Int), (c0_2 : Bool), ()) := by
  refine Reader_Done_in ⟨fun e => ⟨by rw [e]; rfl, rfl, rfl, rfl⟩, fun e => ⟨by rw [e]; rfl, rfl, rfl, rfl⟩⟩
noncomputable def Reader_Done_con : Con TB.den := Reader_Done_sh.totR fun x => ((fun (c0_0 : List Int) (c0_1 : Int) (c0_2 : Bool) => ((!c0_2 && c0_1 == (c0_0.length : Int)) : Bool)) x.1 x.2.1 x.2.2.1, (fun (c0_0 : List Int) (c0_1 : Int) (c0_2 : Bool) => (c0_0 : List Int)) x.1 x.2.1 x.2.2.1, (fun (c0_0 : List Int) (c0_1 : Int) (c0_2 : Bool) => (c0_1 : Int)) x.1 x.2.1 x.2.2.1, (fun (c0_0 : List Int) (c0_1 : Int) (c0_2 : Bool) => (c0_2 : Bool)) x.1 x.2.1 x.2.2.1, ())
theorem Reader_Done_ok : Reader_Done_con.Ok Try.prog TB := Con.ok_tot Reader_Done_sh bd49 fun x => Reader_Done_snd (Reader_Done_body x.1 x.2.1 x.2.2.1)
end Go.Proofs.Ytdbnagpoknmoiaa
namespace Go.Proofs.Ytdbnagpoknmoiaa
open Go Go.Bv Go.Cv Go.Md Go.RowKit
def Reader_List_sh : Con TB.den := Con.mk0 46 [.one (.ptr 0 0), .one (.d (.int .i64)), .one (.d (.int .u64))] [.cells [.d (.sl (.int .u8)), .d (.int .i64), .d (.bool)]] (.one (.one (.d (.sl (.int .u64))))) [.cells [.d (.sl (.int .u8)), .d (.int .i64), .d (.bool)]]
abbrev Reader_List_I := HL TB.den (hsT Reader_List_sh.ins (hsOs Reader_List_sh.pre))
abbrev Reader_List_O := HL TB.den (hsV Reader_List_sh.res (hsOs Reader_List_sh.post))
noncomputable def Reader_List_cx : Cx TB := ⟨inf, [Reader_Int_con, Reader_left_con, Reader_digits_con], [], 4⟩
noncomputable def Reader_List_code : Code := Try.f46.body.getD .skip
noncomputable def Reader_List_rs : List ResultVar := Try.f46.results.toList
noncomputable def Reader_List_Q1 (o : Reader_List_O) : Exit → TSt TB.den → Prop := thenT TB (fun s => ghs TB [] s fun s => WP TB Reader_List_cx 53 1 (cB (cB (cB (cB (cB Reader_List_code))))) (.nd [] .no [] (.rt [.frz 1 [6]])) s (retTQ TB Reader_List_cx Reader_List_sh Reader_List_rs o)) (retTQ TB Reader_List_cx Reader_List_sh Reader_List_rs o)
def Reader_List_T1 : Tm := ⟨[0, 1], [.cells [.d (.sl (.int .u8)), .d (.int .i64), .d (.bool)], .vec (.int .u64)], [0, 2, 8, 30, 31], [.one (.ptr 0 0), .one (.d (.int .u64)), .one (.row 1), .one (.d (.int .i64)), .one (.d (.int .i64))], 2⟩
noncomputable def Reader_List_Q2 (o : Reader_List_O) (nx1 : HL TB.den Reader_List_T1.hs → Prop) : Exit → TSt TB.den → Prop := thenT TB (fun s => Reader_List_T1.mat TB 1 s nx1) (blockT TB 0 (Reader_List_Q1 o))
noncomputable def Reader_List_L1 (o : Reader_List_O) (nx1 : HL TB.den Reader_List_T1.hs → Prop) (i : HL TB.den Reader_List_T1.hs) : Prop := WP TB Reader_List_cx 53 1 (cA (cA (cB (cA (cB (cB (cB (cB Reader_List_code)))))))) .no (Reader_List_T1.fill TB i) (Reader_List_Q2 o nx1)
noncomputable def Reader_List_A5 (o : Reader_List_O) : An TB := .nd [] .no [] (.lp [] Reader_List_T1 (Reader_List_L1 o) fun nx1 => .no)
noncomputable def Reader_List_A6 (o : Reader_List_O) : An TB := .nd [] (Reader_List_A5 o) [] (.nd [] .no [] (.rt [.frz 1 [6]]))
noncomputable def Reader_List_Q7 (o : Reader_List_O) : Exit → TSt TB.den → Prop := thenT TB (fun s => ghs TB [] s fun s => WP TB Reader_List_cx 53 1 (cB (cB (cB Reader_List_code))) (.nd [] .no [] (Reader_List_A6 o)) s (retTQ TB Reader_List_cx Reader_List_sh Reader_List_rs o)) (retTQ TB Reader_List_cx Reader_List_sh Reader_List_rs o)
def Reader_List_TJ1 : Tm := ⟨[0], [.cells [.d (.sl (.int .u8)), .d (.int .i64), .d (.bool)]], [0, 2, 7, 23], [.one (.ptr 0 0), .one (.d (.int .u64)), .one (.d (.int .i64)), .one (.d (.bool))], 1⟩
noncomputable def Reader_List_J1d (o : Reader_List_O) (i : HL TB.den Reader_List_TJ1.hs) : Prop := ghs TB [] (Reader_List_TJ1.fill TB i) fun s => WP TB Reader_List_cx 53 1 (cB (cA (cB (cB Reader_List_code)))) .no s (Reader_List_Q7 o)
structure Reader_List_J1 (o : Reader_List_O) (i : HL TB.den Reader_List_TJ1.hs) : Prop where
  h : Reader_List_J1d o i
noncomputable def Reader_List_A9 (o : Reader_List_O) : An TB := .nd [] (.jn Reader_List_TJ1 (Reader_List_J1 o) [] .no [] .no) [] (.nd [] .no [] (Reader_List_A6 o))
noncomputable def Reader_List_an (o : Reader_List_O) : An TB := .nd [] .no [] (.nd [] .no [] (Reader_List_A9 o))
noncomputable def Reader_List_Body (x : Reader_List_I) (o : Reader_List_O) : Prop := WPh TB Reader_List_cx 53 1 Reader_List_code (Reader_List_an o) (Reader_List_sh.st TB x) (retTQ TB Reader_List_cx Reader_List_sh Reader_List_rs o)
set_option maxRecDepth 100000 in
theorem Reader_List_obl (o : Reader_List_O) : OblH TB Reader_List_cx 53 1 Reader_List_code (Reader_List_an o) (retTQ TB Reader_List_cx Reader_List_sh Reader_List_rs o) :=
  OblH.of_eq (X := (True ∧ (True ∧ ((True ∧ (∀ i, (Reader_List_J1 o) i = (Reader_List_J1d o) i) ∧ ((True ∧ (True ∧ True)) ∧ True)) ∧ (True ∧ ((True ∧ ((∀ nx i, (Reader_List_L1 o) nx i = (Reader_List_L1 o) nx i) ∧ ∀ nx1 : HL TB.den Reader_List_T1.hs → Prop, (True ∧ ((True ∧ True) ∧ ((True ∧ (True ∧ (True ∧ ((True ∧ (True ∧ True)) ∧ True)))) ∧ True))))) ∧ (True ∧ True))))))) (by kernel_rfl) ⟨trivial, ⟨trivial, ⟨⟨trivial, fun _ => propext ⟨fun h => h.1, fun h => ⟨h⟩⟩, ⟨⟨trivial, ⟨trivial, trivial⟩⟩, trivial⟩⟩, ⟨trivial, ⟨⟨trivial, ⟨fun _ _ => rfl, fun _ => ⟨trivial, ⟨⟨trivial, trivial⟩, ⟨⟨trivial, ⟨trivial, ⟨trivial, ⟨⟨trivial, ⟨trivial, trivial⟩⟩, trivial⟩⟩⟩⟩, trivial⟩⟩⟩⟩⟩, ⟨trivial, trivial⟩⟩⟩⟩⟩⟩
set_option maxRecDepth 100000 in
theorem Reader_List_snd {x : Reader_List_I} {o : Reader_List_O} (h : Reader_List_Body x o) : SoundH Try.prog Reader_List_sh.f ((Reader_List_sh.args idf x).map (er TB)) ((Reader_List_sh.obs idf x).map (erO TB)) (er TB (Reader_List_sh.val idf o)) ((Reader_List_sh.ops idf o).map (erO TB)) :=
  Con.soundH (c := Reader_List_sh) (C := Reader_List_cx) TBok ⟨inf_ok, (all_cons Reader_Int_ok (all_cons Reader_left_ok (all_cons Reader_digits_ok all_nil))), all_nil⟩ mix Try.func46 (show Try.f46.body = some Reader_List_code by kernel_rfl) (show Try.f46.ntmps = 53 by kernel_rfl) (show Try.f46.results.toList = Reader_List_rs by kernel_rfl) rfl h (Reader_List_obl o)
set_option maxRecDepth 100000 in
theorem Reader_List_in {p1 : Int} {p2 : Int} {c0_0 : List Int} {c0_1 : Int} {c0_2 : Bool} {r0 : List Int} {d0_0 : List Int} {d0_1 : Int} {d0_2 : Bool} (h :
((RdOk c0_0 c0_1) ∧ ∀ (r4 : Int) (r5 : Int) (r6 : Bool), (r4 = (rdI c0_0 c0_1 c0_2 p1).n ∧ r5 = (rdI c0_0 c0_1 c0_2 p1).pos ∧ r6 = (rdI c0_0 c0_1 c0_2 p1).fail) → (r6 = true →
 Reader_List_J1 (r0, d0_0, d0_1, d0_2, ()) (p2, r4, true, c0_0, r5, r6, ())) ∧
(r6 = false →
((0 ≤ r5 ∧ r5 ≤ c0_0.length) ∧ c0_0.length ≤ 137438953472) ∧ let v7 : Int := IntKind.i64.wrap (Int.tdiv ((c0_0.length : Int) - r5) 8)
 Reader_List_J1 (r0, d0_0, d0_1, d0_2, ()) (p2, r4, (decide (v7 < r4) : Bool), c0_0, r5, r6, ())))) : Reader_List_Body (p1, p2, c0_0, c0_1, c0_2, ()) (r0, d0_0, d0_1, d0_2, ()) := WPh.of_eq (by kernel_rfl) h
set_option maxRecDepth 100000 in
theorem Reader_List_J1_in {r0 : List Int} {d0_0 : List Int} {d0_1 : Int} {d0_2 : Bool} {s2 : Int} {s7 : Int} {s23 : Bool} {h0_0 : List Int} {h0_1 : Int} {h0_2 : Bool} (h :
((s23 = true →
([] : List Int) = r0 ∧ h0_0 = d0_0 ∧ h0_1 = d0_1 ∧ true = d0_2) ∧
(s23 = false →
 0 ≤ s7 ∧ s7 ≤ s7 ∧ (s7.toNat * 8 ≤ 140737488355328) ∧ (s7.toNat ≤ maxLen) ∧ (s7.toNat = (List.replicate s7.toNat (0 : Int)).length) ∧ Md.Loop (s2, ((s7.toNat : Int) : Int), (0 : Int), h0_0, h0_1, h0_2, (List.replicate s7.toNat (0 : Int) : List Int), ()) (Reader_List_L1 (r0, d0_0, d0_1, d0_2, ()))))) : Reader_List_J1 (r0, d0_0, d0_1, d0_2, ()) (s2, s7, s23, h0_0, h0_1, h0_2, ()) := ⟨mpr_of (by kernel_rfl) h⟩
def Reader_List_B1 (r0 : List Int) (d0_0 : List Int) (d0_1 : Int) (d0_2 : Bool) (k1 : Int → Int → Bool → List Int → Prop) (s2 : Int) (s30 : Int) (h0_0 : List Int) (s31 : Int) (h0_1 : Int) (h0_2 : Bool) (g1 : List Int) : Prop :=
(decide (s31 < s30) = true →
(RdOk h0_0 h0_1 ∧ 1 ≤ (8 : Int) ∧ (8 : Int) ≤ 8) ∧ ∀ (r36 : Int) (r37 : Bool) (r38 : Int) (r39 : Bool), (r36 = (rdD h0_0 h0_1 h0_2 (8 : Int)).n ∧ r37 = (rdD h0_0 h0_1 h0_2 (8 : Int)).ok ∧ r38 = (rdD h0_0 h0_1 h0_2 (8 : Int)).pos ∧ r39 = (rdD h0_0 h0_1 h0_2 (8 : Int)).fail) → (0 ≤ s31 ∧ s31 < (g1.length : Int)) ∧ (0 ≤ s31 ∧ s31 < (g1.length : Int)) ∧ (0 ≤ s31 ∧ s31 < (g1.length : Int)) ∧ (0 ≤ s31 ∧ s31 < ((g1.set s31.toNat r36).length : Int)) ∧ let v40 : Bool := decide (s2 ≤ (ix (g1.set s31.toNat r36) s31))
(v40 = true →
([] : List Int) = r0 ∧ h0_0 = d0_0 ∧ r38 = d0_1 ∧ true = d0_2) ∧
(v40 = false →
(g1.length = (g1.set s31.toNat r36).length) ∧ k1 (IntKind.i64.wrap (s31 + 1) : Int) r38 r39 (g1.set s31.toNat r36 : List Int))) ∧
(decide (s31 < s30) = false →
(g1.length = g1.length) ∧ g1 = r0 ∧ h0_0 = d0_0 ∧ h0_1 = d0_1 ∧ h0_2 = d0_2)
set_option maxRecDepth 100000 in
theorem Reader_List_lp1 {r0 : List Int} {d0_0 : List Int} {d0_1 : Int} {d0_2 : Bool} {s2 : Int} {s30 : Int} {h0_0 : List Int} {s31 : Int} {h0_1 : Int} {h0_2 : Bool} {g1 : List Int} (inv : Int → Int → Bool → List Int → Prop) (μ : Int → Int → Bool → List Int → Nat) (h0 : inv s31 h0_1 h0_2 g1) (hs : ∀ (s31 : Int) (h0_1 : Int) (h0_2 : Bool) (g1 : List Int), inv s31 h0_1 h0_2 g1 → Reader_List_B1 r0 d0_0 d0_1 d0_2 (fun s31q h0_1q h0_2q g1q => inv s31q h0_1q h0_2q g1q ∧ μ s31q h0_1q h0_2q g1q < μ s31 h0_1 h0_2 g1) s2 s30 h0_0 s31 h0_1 h0_2 g1) : Md.Loop (s2, s30, s31, h0_0, h0_1, h0_2, g1, ()) (Reader_List_L1 (r0, d0_0, d0_1, d0_2, ())) :=
  ⟨⟨fun s : Int × Int × Int × (List Int) × Int × Bool × (List Int) × Unit => (s.1 = s2 ∧ s.2.1 = s30 ∧ s.2.2.2.1 = h0_0) ∧ inv s.2.2.1 s.2.2.2.2.1 s.2.2.2.2.2.1 s.2.2.2.2.2.2.1, fun s : Int × Int × Int × (List Int) × Int × Bool × (List Int) × Unit => μ s.2.2.1 s.2.2.2.2.1 s.2.2.2.2.2.1 s.2.2.2.2.2.2.1, ⟨⟨rfl, rfl, rfl⟩, h0⟩, fun (s2p, s30p, s31p, h0_0p, h0_1p, h0_2p, g1p, ()) ⟨⟨eq0, eq1, eq2⟩, hi⟩ => by
    have eq0 : s2p = s2 := eq0; subst s2p; have eq1 : s30p = s30 := eq1; subst s30p; have eq2 : h0_0p = h0_0 := eq2; subst h0_0p; exact mpr_of (by kernel_rfl) ((congrArg (fun k => Reader_List_B1 r0 d0_0 d0_1 d0_2 k s2 s30 h0_0 s31p h0_1p h0_2p g1p) (lpk4 (⟨rfl, rfl, rfl⟩ : s2 = s2 ∧ s30 = s30 ∧ h0_0 = h0_0) inv (fun s31q h0_1q h0_2q g1q => μ s31q h0_1q h0_2q g1q < μ s31p h0_1p h0_2p g1p))).mpr (hs s31p h0_1p h0_2p g1p hi))⟩⟩
theorem bd46 : Callable Try.prog 46 := ⟨by rw [Try.func46]; kernel_rfl, by rw [Try.func46]; show some _ ≠ some _; decide⟩
theorem Reader_List_body (p1 : Int) (p2 : Int) (c0_0 : List Int) (c0_1 : Int) (c0_2 : Bool) (h : RdOk c0_0 c0_1 ∧ (0 ≤ p1 ∧ p1 ≤ 4096)) : Reader_List_Body (p1, p2, c0_0, c0_1, c0_2, ()) (((rdL c0_0 c0_1 c0_2 p1 p2).l : List Int), (c0_0 : List Int), ((rdL c0_0 c0_1 c0_2 p1 p2).pos : Int), ((rdL c0_0 c0_1 c0_2 p1 p2).fail : Bool), ()) := by
  obtain ⟨h, hp0, hp1⟩ := h
  have hI := rdI_ok h (f := c0_2) (m := p1)
  have hIn := rdI_n h (f := c0_2) (m := p1) hp0
  have hb := h.by_
  have hl := h.len
  generalize hX : rdI c0_0 c0_1 c0_2 p1 = X at *
  have jf : (X.fail = true ∨ ((c0_0.length : Int) - X.pos) / 8 < X.n) → Reader_List_J1 ((rdL c0_0 c0_1 c0_2 p1 p2).l, c0_0, (rdL c0_0 c0_1 c0_2 p1 p2).pos, (rdL c0_0 c0_1 c0_2 p1 p2).fail, ()) (p2, X.n, true, c0_0, X.pos, X.fail, ()) := by
    intro hf
    refine Reader_List_J1_in ⟨fun _ => ?_, fun h => by simp at h⟩
    unfold rdL
    rw [hX, if_pos hf]
    exact ⟨rfl, rfl, rfl, rfl⟩
  have jt : ¬ (X.fail = true ∨ ((c0_0.length : Int) - X.pos) / 8 < X.n) → Reader_List_J1 ((rdL c0_0 c0_1 c0_2 p1 p2).l, c0_0, (rdL c0_0 c0_1 c0_2 p1 p2).pos, (rdL c0_0 c0_1 c0_2 p1 p2).fail, ()) (p2, X.n, false, c0_0, X.pos, X.fail, ()) := by
    intro hf
    have hff : X.fail = false := by
      cases hc : X.fail
      · rfl
      · exact absurd (.inl hc) hf
    have hle : X.n * 8 ≤ (c0_0.length : Int) - X.pos := by
      have : ¬ ((c0_0.length : Int) - X.pos) / 8 < X.n := fun h => hf (.inr h)
      omega
    refine Reader_List_J1_in ⟨fun h => by simp at h, fun _ => ⟨hIn.1, by omega, by have := hIn.2; omega, by have := hIn.2; unfold maxLen; omega, by simp, ?_⟩⟩
    have hL : rdL c0_0 c0_1 c0_2 p1 p2 = rdLs c0_0 p2 X.n.toNat X.pos [] := by unfold rdL; rw [hX, if_neg hf]
    rw [hff]
    have hnn : ((X.n.toNat : Int)) = X.n := by have := hIn.1; omega
    rw [hnn, hL]
    refine Reader_List_lp1 (fun i pos f g => 0 ≤ i ∧ i ≤ X.n ∧ f = false ∧ 0 ≤ pos ∧ pos + (X.n - i) * 8 ≤ c0_0.length ∧ (g.length : Int) = X.n ∧ rdLs c0_0 p2 (X.n - i).toNat pos (g.take i.toNat) = rdLs c0_0 p2 X.n.toNat X.pos []) (fun i _ _ _ => (X.n - i).toNat) ⟨by omega, hIn.1, rfl, hI.pos0, by omega, by simp; have := hIn.1; omega, by simp⟩ ?_
    rintro i pos f g ⟨g0, g1, rfl, g2, g3, g4, g5⟩
    have hok : RdOk c0_0 pos := ⟨hb, hl, g2, by omega⟩
    refine ⟨fun hh => ?_, fun hh => ?_⟩
    · have hh := of_decide_eq_true hh
      have hD : rdD c0_0 pos false 8 = ⟨val ((c0_0.drop pos.toNat).take 8), true, pos + 8, false⟩ := by unfold rdD; rw [if_neg (by simp; omega)]; rfl
      have hset : ix (g.set i.toNat (val ((c0_0.drop pos.toNat).take 8))) i = val ((c0_0.drop pos.toNat).take 8) := by
        rw [ix_nat _ i g0 (by rw [List.length_set]; omega)]
        simp
      have hstep : rdLs c0_0 p2 (X.n - i).toNat pos (g.take i.toNat) = if p2 ≤ val ((c0_0.drop pos.toNat).take 8) then ⟨[], pos + 8, true⟩ else rdLs c0_0 p2 (X.n - (i + 1)).toNat (pos + 8) (g.take i.toNat ++ [val ((c0_0.drop pos.toNat).take 8)]) := by
        rw [show (X.n - i).toNat = (X.n - (i + 1)).toNat + 1 by omega]
        rfl
      refine ⟨⟨hok, by omega, by omega⟩, fun n1 n2 n3 n4 e => ?_⟩
      rw [hD] at e
      obtain ⟨rfl, rfl, rfl, rfl⟩ := e
      refine ⟨by omega, by omega, by omega, by rw [List.length_set]; omega, fun e => ?_, fun e => ⟨by rw [List.length_set], ?_⟩⟩
      · have e := of_decide_eq_true e
        rw [hset] at e
        rw [← g5, hstep, if_pos e]
        exact ⟨rfl, rfl, rfl, rfl⟩
      · have e := of_decide_eq_false e
        rw [hset] at e
        rw [inc i X.n g0 hh (by have := hIn.2; omega)]
        refine ⟨⟨by omega, by omega, rfl, by show 0 ≤ pos + 8; omega, by show pos + 8 + (X.n - (i + 1)) * 8 ≤ _; omega, by rw [List.length_set]; exact g4, ?_⟩, by omega⟩
        rw [← g5, hstep, if_neg e]
        congr 1
        rw [take_succ_ix _ i g0 (by rw [List.length_set]; omega), hset]
        congr 1
        rw [List.take_set_of_le (by omega)]
    · have hh := of_decide_eq_false hh
      have hi : i = X.n := by omega
      subst hi
      rw [Int.sub_self, List.take_of_length_le (by omega)] at g5
      rw [← g5]
      exact ⟨rfl, rfl, rfl, rfl, rfl⟩
  refine Reader_List_in ⟨h, ?_⟩
  rintro _ _ _ ⟨rfl, rfl, rfl⟩
  rw [hX]
  refine ⟨fun e => jf (.inl e), fun e => ⟨⟨⟨hI.pos0, hI.pos1⟩, hl⟩, ?_⟩⟩
  have := hI.pos0
  have := hI.pos1
  try simp only []
  rw [tdiv_nn _ _ (by omega), wi _ (by omega) (by omega)]
  by_cases hq : ((c0_0.length : Int) - X.pos) / 8 < X.n
  · rw [decide_eq_true hq]; exact jf (.inr hq)
  · rw [decide_eq_false hq]; exact jt (by rw [e]; simpa using hq)
noncomputable def Reader_List_con : Con TB.den := { Reader_List_sh with R := fun x K => (fun (p1 : Int) (p2 : Int) (c0_0 : List Int) (c0_1 : Int) (c0_2 : Bool) => ((RdOk c0_0 c0_1 ∧ (0 ≤ p1 ∧ p1 ≤ 4096)) ∧ ∀ (v0 : List Int) (v2 : Int) (v3 : Bool), (v0 = ((rdL c0_0 c0_1 c0_2 p1 p2).l) ∧ v2 = ((rdL c0_0 c0_1 c0_2 p1 p2).pos) ∧ v3 = ((rdL c0_0 c0_1 c0_2 p1 p2).fail)) → K (v0, (c0_0 : List Int), v2, v3, ()) : Prop)) x.1 x.2.1 x.2.2.1 x.2.2.2.1 x.2.2.2.2.1 }
theorem Reader_List_ok : Reader_List_con.Ok Try.prog TB := ⟨bd46, fun x K hx => ⟨((fun (p1 : Int) (p2 : Int) (c0_0 : List Int) (c0_1 : Int) (c0_2 : Bool) => ((rdL c0_0 c0_1 c0_2 p1 p2).l : List Int)) x.1 x.2.1 x.2.2.1 x.2.2.2.1 x.2.2.2.2.1, (fun (p1 : Int) (p2 : Int) (c0_0 : List Int) (c0_1 : Int) (c0_2 : Bool) => (c0_0 : List Int)) x.1 x.2.1 x.2.2.1 x.2.2.2.1 x.2.2.2.2.1, (fun (p1 : Int) (p2 : Int) (c0_0 : List Int) (c0_1 : Int) (c0_2 : Bool) => ((rdL c0_0 c0_1 c0_2 p1 p2).pos : Int)) x.1 x.2.1 x.2.2.1 x.2.2.2.1 x.2.2.2.2.1, (fun (p1 : Int) (p2 : Int) (c0_0 : List Int) (c0_1 : Int) (c0_2 : Bool) => ((rdL c0_0 c0_1 c0_2 p1 p2).fail : Bool)) x.1 x.2.1 x.2.2.1 x.2.2.2.1 x.2.2.2.2.1, ()), hx.2 ((fun (p1 : Int) (p2 : Int) (c0_0 : List Int) (c0_1 : Int) (c0_2 : Bool) => (((rdL c0_0 c0_1 c0_2 p1 p2).l))) x.1 x.2.1 x.2.2.1 x.2.2.2.1 x.2.2.2.2.1) ((fun (p1 : Int) (p2 : Int) (c0_0 : List Int) (c0_1 : Int) (c0_2 : Bool) => (((rdL c0_0 c0_1 c0_2 p1 p2).pos))) x.1 x.2.1 x.2.2.1 x.2.2.2.1 x.2.2.2.2.1) ((fun (p1 : Int) (p2 : Int) (c0_0 : List Int) (c0_1 : Int) (c0_2 : Bool) => (((rdL c0_0 c0_1 c0_2 p1 p2).fail))) x.1 x.2.1 x.2.2.1 x.2.2.2.1 x.2.2.2.2.1) ⟨rfl, rfl, rfl⟩, Reader_List_snd (Reader_List_body x.1 x.2.1 x.2.2.1 x.2.2.2.1 x.2.2.2.2.1 hx.1)⟩⟩
end Go.Proofs.Ytdbnagpoknmoiaa
namespace Go.Proofs.Ytdbnagpoknmoiaa
open Go Go.Bv Go.Cv Go.Md Go.RowKit
def Reader_Uint_sh : Con TB.den := Con.mk0 45 [.one (.ptr 0 0), .one (.d (.int .u64))] [.cells [.d (.sl (.int .u8)), .d (.int .i64), .d (.bool)]] (.one (.one (.d (.int .u64)))) [.cells [.d (.sl (.int .u8)), .d (.int .i64), .d (.bool)]]
abbrev Reader_Uint_I := HL TB.den (hsT Reader_Uint_sh.ins (hsOs Reader_Uint_sh.pre))
abbrev Reader_Uint_O := HL TB.den (hsV Reader_Uint_sh.res (hsOs Reader_Uint_sh.post))
noncomputable def Reader_Uint_cx : Cx TB := ⟨inf, [Reader_digits_con], [], 4⟩
noncomputable def Reader_Uint_code : Code := Try.f45.body.getD .skip
noncomputable def Reader_Uint_rs : List ResultVar := Try.f45.results.toList
noncomputable def Reader_Uint_Q1 (o : Reader_Uint_O) : Exit → TSt TB.den → Prop := thenT TB (fun s => ghs TB [] s fun s => WP TB Reader_Uint_cx 23 1 (cB (cB (cB Reader_Uint_code))) .no s (retTQ TB Reader_Uint_cx Reader_Uint_sh Reader_Uint_rs o)) (retTQ TB Reader_Uint_cx Reader_Uint_sh Reader_Uint_rs o)
def Reader_Uint_TJ1 : Tm := ⟨[0], [.cells [.d (.sl (.int .u8)), .d (.int .i64), .d (.bool)]], [0, 5, 18], [.one (.ptr 0 0), .one (.d (.int .u64)), .one (.d (.bool))], 1⟩
noncomputable def Reader_Uint_J1d (o : Reader_Uint_O) (i : HL TB.den Reader_Uint_TJ1.hs) : Prop := ghs TB [] (Reader_Uint_TJ1.fill TB i) fun s => WP TB Reader_Uint_cx 23 1 (cB (cA (cB (cB Reader_Uint_code)))) .no s (Reader_Uint_Q1 o)
structure Reader_Uint_J1 (o : Reader_Uint_O) (i : HL TB.den Reader_Uint_TJ1.hs) : Prop where
  h : Reader_Uint_J1d o i
noncomputable def Reader_Uint_A3 (o : Reader_Uint_O) : An TB := .nd [] (.jn Reader_Uint_TJ1 (Reader_Uint_J1 o) [] .no [] .no) [] .no
noncomputable def Reader_Uint_an (o : Reader_Uint_O) : An TB := .nd [] .no [] (.nd [] .no [] (Reader_Uint_A3 o))
noncomputable def Reader_Uint_Body (x : Reader_Uint_I) (o : Reader_Uint_O) : Prop := WPh TB Reader_Uint_cx 23 1 Reader_Uint_code (Reader_Uint_an o) (Reader_Uint_sh.st TB x) (retTQ TB Reader_Uint_cx Reader_Uint_sh Reader_Uint_rs o)
set_option maxRecDepth 100000 in
theorem Reader_Uint_obl (o : Reader_Uint_O) : OblH TB Reader_Uint_cx 23 1 Reader_Uint_code (Reader_Uint_an o) (retTQ TB Reader_Uint_cx Reader_Uint_sh Reader_Uint_rs o) :=
  OblH.of_eq (X := (True ∧ (True ∧ ((True ∧ (∀ i, (Reader_Uint_J1 o) i = (Reader_Uint_J1d o) i) ∧ ((True ∧ (True ∧ True)) ∧ True)) ∧ (True ∧ True))))) (by kernel_rfl) ⟨trivial, ⟨trivial, ⟨⟨trivial, fun _ => propext ⟨fun h => h.1, fun h => ⟨h⟩⟩, ⟨⟨trivial, ⟨trivial, trivial⟩⟩, trivial⟩⟩, ⟨trivial, trivial⟩⟩⟩⟩
set_option maxRecDepth 100000 in
theorem Reader_Uint_snd {x : Reader_Uint_I} {o : Reader_Uint_O} (h : Reader_Uint_Body x o) : SoundH Try.prog Reader_Uint_sh.f ((Reader_Uint_sh.args idf x).map (er TB)) ((Reader_Uint_sh.obs idf x).map (erO TB)) (er TB (Reader_Uint_sh.val idf o)) ((Reader_Uint_sh.ops idf o).map (erO TB)) :=
  Con.soundH (c := Reader_Uint_sh) (C := Reader_Uint_cx) TBok ⟨inf_ok, (all_cons Reader_digits_ok all_nil), all_nil⟩ mix Try.func45 (show Try.f45.body = some Reader_Uint_code by kernel_rfl) (show Try.f45.ntmps = 23 by kernel_rfl) (show Try.f45.results.toList = Reader_Uint_rs by kernel_rfl) rfl h (Reader_Uint_obl o)
set_option maxRecDepth 100000 in
theorem Reader_Uint_in {p1 : Int} {c0_0 : List Int} {c0_1 : Int} {c0_2 : Bool} {r0 : Int} {d0_0 : List Int} {d0_1 : Int} {d0_2 : Bool} (h :
((RdOk c0_0 c0_1 ∧ 1 ≤ (8 : Int) ∧ (8 : Int) ≤ 8) ∧ ∀ (r5 : Int) (r6 : Bool) (r7 : Int) (r8 : Bool), (r5 = (rdD c0_0 c0_1 c0_2 (8 : Int)).n ∧ r6 = (rdD c0_0 c0_1 c0_2 (8 : Int)).ok ∧ r7 = (rdD c0_0 c0_1 c0_2 (8 : Int)).pos ∧ r8 = (rdD c0_0 c0_1 c0_2 (8 : Int)).fail) → ((!r6) = true →
 Reader_Uint_J1 (r0, d0_0, d0_1, d0_2, ()) (r5, true, c0_0, r7, r8, ())) ∧
((!r6) = false →
 Reader_Uint_J1 (r0, d0_0, d0_1, d0_2, ()) (r5, (decide (p1 < r5) : Bool), c0_0, r7, r8, ())))) : Reader_Uint_Body (p1, c0_0, c0_1, c0_2, ()) (r0, d0_0, d0_1, d0_2, ()) := WPh.of_eq (by kernel_rfl) h
set_option maxRecDepth 100000 in
theorem Reader_Uint_J1_in {r0 : Int} {d0_0 : List Int} {d0_1 : Int} {d0_2 : Bool} {s5 : Int} {s18 : Bool} {h0_0 : List Int} {h0_1 : Int} {h0_2 : Bool} (h :
((s18 = true →
 0 = r0 ∧ h0_0 = d0_0 ∧ h0_1 = d0_1 ∧ true = d0_2) ∧
(s18 = false →
 s5 = r0 ∧ h0_0 = d0_0 ∧ h0_1 = d0_1 ∧ h0_2 = d0_2))) : Reader_Uint_J1 (r0, d0_0, d0_1, d0_2, ()) (s5, s18, h0_0, h0_1, h0_2, ()) := ⟨mpr_of (by kernel_rfl) h⟩
theorem bd45 : Callable Try.prog 45 := ⟨by rw [Try.func45]; kernel_rfl, by rw [Try.func45]; show some _ ≠ some _; decide⟩
theorem Reader_Uint_body (p1 : Int) (c0_0 : List Int) (c0_1 : Int) (c0_2 : Bool) (h : RdOk c0_0 c0_1) : Reader_Uint_Body (p1, c0_0, c0_1, c0_2, ()) (((rdU c0_0 c0_1 c0_2 p1).n : Int), (c0_0 : List Int), ((rdU c0_0 c0_1 c0_2 p1).pos : Int), ((rdU c0_0 c0_1 c0_2 p1).fail : Bool), ()) := by
  refine Reader_Uint_in ⟨⟨h, by omega, by omega⟩, ?_⟩
  rintro _ _ _ _ ⟨rfl, rfl, rfl, rfl⟩
  unfold rdU
  refine ⟨fun e => Reader_Uint_J1_in ⟨fun _ => ?_, fun h => by simp at h⟩, fun e => Reader_Uint_J1_in ⟨fun e2 => ?_, fun e2 => ?_⟩⟩
  · have e : (rdD c0_0 c0_1 c0_2 8).ok = false := by simpa using e
    rw [e]
    exact ⟨rfl, rfl, rfl, rfl⟩
  · have e : (rdD c0_0 c0_1 c0_2 8).ok = true := by simpa using e
    have e2 := of_decide_eq_true e2
    rw [if_pos (.inr e2)]
    exact ⟨rfl, rfl, rfl, rfl⟩
  · have e : (rdD c0_0 c0_1 c0_2 8).ok = true := by simpa using e
    have e2 := of_decide_eq_false e2
    rw [if_neg (by rw [e]; simpa using e2)]
    exact ⟨rfl, rfl, rfl, rfl⟩
noncomputable def Reader_Uint_con : Con TB.den := { Reader_Uint_sh with R := fun x K => (fun (p1 : Int) (c0_0 : List Int) (c0_1 : Int) (c0_2 : Bool) => ((RdOk c0_0 c0_1) ∧ ∀ (v0 : Int) (v2 : Int) (v3 : Bool), (v0 = ((rdU c0_0 c0_1 c0_2 p1).n) ∧ v2 = ((rdU c0_0 c0_1 c0_2 p1).pos) ∧ v3 = ((rdU c0_0 c0_1 c0_2 p1).fail)) → K (v0, (c0_0 : List Int), v2, v3, ()) : Prop)) x.1 x.2.1 x.2.2.1 x.2.2.2.1 }
theorem Reader_Uint_ok : Reader_Uint_con.Ok Try.prog TB := ⟨bd45, fun x K hx => ⟨((fun (p1 : Int) (c0_0 : List Int) (c0_1 : Int) (c0_2 : Bool) => ((rdU c0_0 c0_1 c0_2 p1).n : Int)) x.1 x.2.1 x.2.2.1 x.2.2.2.1, (fun (p1 : Int) (c0_0 : List Int) (c0_1 : Int) (c0_2 : Bool) => (c0_0 : List Int)) x.1 x.2.1 x.2.2.1 x.2.2.2.1, (fun (p1 : Int) (c0_0 : List Int) (c0_1 : Int) (c0_2 : Bool) => ((rdU c0_0 c0_1 c0_2 p1).pos : Int)) x.1 x.2.1 x.2.2.1 x.2.2.2.1, (fun (p1 : Int) (c0_0 : List Int) (c0_1 : Int) (c0_2 : Bool) => ((rdU c0_0 c0_1 c0_2 p1).fail : Bool)) x.1 x.2.1 x.2.2.1 x.2.2.2.1, ()), hx.2 ((fun (p1 : Int) (c0_0 : List Int) (c0_1 : Int) (c0_2 : Bool) => (((rdU c0_0 c0_1 c0_2 p1).n))) x.1 x.2.1 x.2.2.1 x.2.2.2.1) ((fun (p1 : Int) (c0_0 : List Int) (c0_1 : Int) (c0_2 : Bool) => (((rdU c0_0 c0_1 c0_2 p1).pos))) x.1 x.2.1 x.2.2.1 x.2.2.2.1) ((fun (p1 : Int) (c0_0 : List Int) (c0_1 : Int) (c0_2 : Bool) => (((rdU c0_0 c0_1 c0_2 p1).fail))) x.1 x.2.1 x.2.2.1 x.2.2.2.1) ⟨rfl, rfl, rfl⟩, Reader_Uint_snd (Reader_Uint_body x.1 x.2.1 x.2.2.1 x.2.2.2.1 hx.1)⟩⟩
end Go.Proofs.Ytdbnagpoknmoiaa
namespace Go.Proofs.Ytdbnagpoknmoiaa
open Go Go.Bv Go.Cv Go.Md Go.RowKit
def wire_NewReader_sh : Con TB.den := Con.mk0 44 [.one (.d (.sl (.int .u8)))] [] (.one (.one (.ptr 0 0))) [.cells [.d (.sl (.int .u8)), .d (.int .i64), .d (.bool)]]
abbrev wire_NewReader_I := HL TB.den (hsT wire_NewReader_sh.ins (hsOs wire_NewReader_sh.pre))
abbrev wire_NewReader_O := HL TB.den (hsV wire_NewReader_sh.res (hsOs wire_NewReader_sh.post))
noncomputable def wire_NewReader_cx : Cx TB := ⟨inf, [wire_room_con], [], 4⟩
noncomputable def wire_NewReader_code : Code := Try.f44.body.getD .skip
noncomputable def wire_NewReader_rs : List ResultVar := Try.f44.results.toList
noncomputable def wire_NewReader_an (o : wire_NewReader_O) : An TB := .no
noncomputable def wire_NewReader_Body (x : wire_NewReader_I) (o : wire_NewReader_O) : Prop := WPh TB wire_NewReader_cx 7 0 wire_NewReader_code (wire_NewReader_an o) (wire_NewReader_sh.st TB x) (retTQ TB wire_NewReader_cx wire_NewReader_sh wire_NewReader_rs o)
set_option maxRecDepth 100000 in
theorem wire_NewReader_obl (o : wire_NewReader_O) : OblH TB wire_NewReader_cx 7 0 wire_NewReader_code (wire_NewReader_an o) (retTQ TB wire_NewReader_cx wire_NewReader_sh wire_NewReader_rs o) :=
  OblH.of_eq (X := (True ∧ (True ∧ True))) (by kernel_rfl) ⟨trivial, ⟨trivial, trivial⟩⟩
set_option maxRecDepth 100000 in
theorem wire_NewReader_snd {x : wire_NewReader_I} {o : wire_NewReader_O} (h : wire_NewReader_Body x o) : SoundH Try.prog wire_NewReader_sh.f ((wire_NewReader_sh.args idf x).map (er TB)) ((wire_NewReader_sh.obs idf x).map (erO TB)) (er TB (wire_NewReader_sh.val idf o)) ((wire_NewReader_sh.ops idf o).map (erO TB)) :=
  Con.soundH (c := wire_NewReader_sh) (C := wire_NewReader_cx) TBok ⟨inf_ok, (all_cons wire_room_ok all_nil), all_nil⟩ mix Try.func44 (show Try.f44.body = some wire_NewReader_code by kernel_rfl) (show Try.f44.ntmps = 7 by kernel_rfl) (show Try.f44.results.toList = wire_NewReader_rs by kernel_rfl) rfl h (wire_NewReader_obl o)
set_option maxRecDepth 100000 in
theorem wire_NewReader_in {p0 : List Int} {d0_0 : List Int} {d0_1 : Int} {d0_2 : Bool} (h :
((0 ≤ (0 : Int) ∧ p0.length + (0 : Int) ≤ 140737488355328) ∧ p0 = d0_0 ∧ 0 = d0_1 ∧ false = d0_2)) : wire_NewReader_Body (p0, ()) (d0_0, d0_1, d0_2, ()) := WPh.of_eq (by kernel_rfl) h
theorem bd44 : Callable Try.prog 44 := ⟨by rw [Try.func44]; kernel_rfl, by rw [Try.func44]; show some _ ≠ some _; decide⟩
theorem wire_NewReader_body (p0 : List Int) (h : p0.length ≤ 137438953472) : wire_NewReader_Body (p0, ()) ((p0 : List Int), (0 : Int), (false : Bool), ()) := by
  exact wire_NewReader_in ⟨⟨by omega, by omega⟩, rfl, rfl, rfl⟩
noncomputable def wire_NewReader_con : Con TB.den := { wire_NewReader_sh with R := fun x K => (fun (p0 : List Int) => ((p0.length ≤ 137438953472) ∧ K ((p0 : List Int), (0 : Int), (false : Bool), ()) : Prop)) x.1 }
theorem wire_NewReader_ok : wire_NewReader_con.Ok Try.prog TB := ⟨bd44, fun x K hx => ⟨((fun (p0 : List Int) => (p0 : List Int)) x.1, (fun (p0 : List Int) => (0 : Int)) x.1, (fun (p0 : List Int) => (false : Bool)) x.1, ()), hx.2, wire_NewReader_snd (wire_NewReader_body x.1 hx.1)⟩⟩
end Go.Proofs.Ytdbnagpoknmoiaa
