/-
  Parts of the proofs that the laws of this seat hold of every input, merged by a program: a machine over pure data that is sound for the model, what each function of the translation does in it, and plain lemmas. No conditions but those in each theorem.
-/
import Derived.Test.YtnmakgfmimagmaaA3
set_option linter.all false
namespace Go.Proofs.Ytnmakgfmimagmaa
open Go Go.Bv Go.Cv Go.Md Go.RowKit
def block_Encode_sh : Con TB.den := Con.mk0 25 [.agg [.d (.int .u64), .d (.int .i64), .d (.int .u64), .d (.int .u64), .d (.int .u64), .d (.sl (.st 1))]] [] (.tup [.one (.d (.sl (.int .u8))), .one (.d (.int .i64))]) []
abbrev block_Encode_I := HL TB.den (hsT block_Encode_sh.ins (hsOs block_Encode_sh.pre))
abbrev block_Encode_O := HL TB.den (hsV block_Encode_sh.res (hsOs block_Encode_sh.post))
noncomputable def block_Encode_cx : Cx TB := ⟨inf, [block_Valid_con, block_header_con, tx_Encode_con, wire_Bytes_con], [], 4⟩
noncomputable def block_Encode_code : Code := Try.f25.body.getD .skip
noncomputable def block_Encode_rs : List ResultVar := Try.f25.results.toList
noncomputable def block_Encode_Q1 (o : block_Encode_O) : Exit → TSt TB.den → Prop := thenT TB (fun s => ghs TB [] s fun s => WP TB block_Encode_cx 37 0 (cB (cB (cB (cB block_Encode_code)))) .no s (retTQ TB block_Encode_cx block_Encode_sh block_Encode_rs o)) (retTQ TB block_Encode_cx block_Encode_sh block_Encode_rs o)
def block_Encode_T1 : Tm := ⟨[], [], [5, 18, 19, 20], [.one (.d (.sl (.int .u8))), .one (.d (.sl (.st 1))), .one (.d (.int .i64)), .one (.d (.int .i64))], 1⟩
noncomputable def block_Encode_Q2 (o : block_Encode_O) (nx1 : HL TB.den block_Encode_T1.hs → Prop) : Exit → TSt TB.den → Prop := thenT TB (fun s => block_Encode_T1.mat TB 0 s nx1) (blockT TB 0 (block_Encode_Q1 o))
noncomputable def block_Encode_L1 (o : block_Encode_O) (nx1 : HL TB.den block_Encode_T1.hs → Prop) (i : HL TB.den block_Encode_T1.hs) : Prop := WP TB block_Encode_cx 37 0 (cA (cA (cB (cA (cB (cB (cB block_Encode_code))))))) .no (block_Encode_T1.fill TB i) (block_Encode_Q2 o nx1)
noncomputable def block_Encode_A6 (o : block_Encode_O) : An TB := .nd [] .no [] (.lp [] block_Encode_T1 (block_Encode_L1 o) fun nx1 => .no)
noncomputable def block_Encode_A8 (o : block_Encode_O) : An TB := .nd [] .no [] (.nd [] .no [] (.nd [] (block_Encode_A6 o) [] .no))
noncomputable def block_Encode_an (o : block_Encode_O) : An TB := .nd [] .no [] (block_Encode_A8 o)
noncomputable def block_Encode_Body (x : block_Encode_I) (o : block_Encode_O) : Prop := WPh TB block_Encode_cx 37 0 block_Encode_code (block_Encode_an o) (block_Encode_sh.st TB x) (retTQ TB block_Encode_cx block_Encode_sh block_Encode_rs o)
set_option maxRecDepth 100000 in
theorem block_Encode_obl (o : block_Encode_O) : OblH TB block_Encode_cx 37 0 block_Encode_code (block_Encode_an o) (retTQ TB block_Encode_cx block_Encode_sh block_Encode_rs o) :=
  OblH.of_eq (X := (True ∧ ((True ∧ (True ∧ ((True ∧ True) ∧ True))) ∧ (True ∧ ((True ∧ ((∀ nx i, (block_Encode_L1 o) nx i = (block_Encode_L1 o) nx i) ∧ ∀ nx1 : HL TB.den block_Encode_T1.hs → Prop, (True ∧ ((True ∧ True) ∧ ((True ∧ (True ∧ ((True ∧ ((True ∧ True) ∧ True)) ∧ True))) ∧ True))))) ∧ (True ∧ True)))))) (by kernel_rfl) ⟨trivial, ⟨⟨trivial, ⟨trivial, ⟨⟨trivial, trivial⟩, trivial⟩⟩⟩, ⟨trivial, ⟨⟨trivial, ⟨fun _ _ => rfl, fun _ => ⟨trivial, ⟨⟨trivial, trivial⟩, ⟨⟨trivial, ⟨trivial, ⟨⟨trivial, ⟨⟨trivial, trivial⟩, trivial⟩⟩, trivial⟩⟩⟩, trivial⟩⟩⟩⟩⟩, ⟨trivial, trivial⟩⟩⟩⟩⟩
set_option maxRecDepth 100000 in
theorem block_Encode_snd {x : block_Encode_I} {o : block_Encode_O} (h : block_Encode_Body x o) : SoundH Try.prog block_Encode_sh.f ((block_Encode_sh.args idf x).map (er TB)) ((block_Encode_sh.obs idf x).map (erO TB)) (er TB (block_Encode_sh.val idf o)) ((block_Encode_sh.ops idf o).map (erO TB)) :=
  Con.soundH (c := block_Encode_sh) (C := block_Encode_cx) TBok ⟨inf_ok, (all_cons block_Valid_ok (all_cons block_header_ok (all_cons tx_Encode_ok (all_cons wire_Bytes_ok all_nil)))), all_nil⟩ mix Try.func25 (show Try.f25.body = some block_Encode_code by kernel_rfl) (show Try.f25.ntmps = 37 by kernel_rfl) (show Try.f25.results.toList = block_Encode_rs by kernel_rfl) rfl h (block_Encode_obl o)
set_option maxRecDepth 100000 in
theorem block_Encode_in {p0 : TBlock} {r0 : List Int} {r1 : Int} (h :
((∀ x ∈ p0.Txs, TR x) ∧ (((validB p0) != 0) = true →
([] : List Int) = r0 ∧ validB p0 = r1) ∧
(((validB p0) != 0) = false →
(BR p0 ∧ p0.Txs.length ≤ 64) ∧ Md.Loop ((hdrS p0 : List Int), p0.Txs, ((p0.Txs.length : Int) : Int), (0 : Int), ()) (block_Encode_L1 (r0, r1, ()))))) : block_Encode_Body (p0.Parent, p0.Height, p0.Miner, p0.Work, p0.Nonce, p0.Txs, ()) (r0, r1, ()) := WPh.of_eq (by kernel_rfl) h
def block_Encode_B1 (r0 : List Int) (r1 : Int) (k1 : List Int → Int → Prop) (s18 : List TTx) (s19 : Int) (s5 : List Int) (s20 : Int) : Prop :=
(decide (s20 < s19) = true →
(0 ≤ s20) ∧ s20 < (s18.length : Int) ∧ (TR (ix s18 s20)) ∧ let r2 : List Int := (if validE (ix s18 s20) = 0 then encT (ix s18 s20) (ix s18 s20).Proof else [])
(((validE (ix s18 s20)) != 0) = true →
([] : List Int) = r0 ∧ validE (ix s18 s20) = r1) ∧
(((validE (ix s18 s20)) != 0) = false →
(s5.length ≤ 68719476736 ∧ r2.length ≤ 4294967295) ∧ k1 (s5 ++ encB r2 : List Int) (IntKind.i64.wrap (s20 + 1) : Int))) ∧
(decide (s20 < s19) = false →
 s5 = r0 ∧ 0 = r1)
set_option maxRecDepth 100000 in
theorem block_Encode_lp1 {r0 : List Int} {r1 : Int} {s18 : List TTx} {s19 : Int} {s5 : List Int} {s20 : Int} (inv : List Int → Int → Prop) (μ : List Int → Int → Nat) (h0 : inv s5 s20) (hs : ∀ (s5 : List Int) (s20 : Int), inv s5 s20 → block_Encode_B1 r0 r1 (fun s5q s20q => inv s5q s20q ∧ μ s5q s20q < μ s5 s20) s18 s19 s5 s20) : Md.Loop (s5, s18, s19, s20, ()) (block_Encode_L1 (r0, r1, ())) :=
  ⟨⟨fun s : (List Int) × (List TTx) × Int × Int × Unit => (s.2.1 = s18 ∧ s.2.2.1 = s19) ∧ inv s.1 s.2.2.2.1, fun s : (List Int) × (List TTx) × Int × Int × Unit => μ s.1 s.2.2.2.1, ⟨⟨rfl, rfl⟩, h0⟩, fun (s5p, s18p, s19p, s20p, ()) ⟨⟨eq0, eq1⟩, hi⟩ => by
    have eq0 : s18p = s18 := eq0; subst s18p; have eq1 : s19p = s19 := eq1; subst s19p; exact mpr_of (by kernel_rfl) ((congrArg (fun k => block_Encode_B1 r0 r1 k s18 s19 s5p s20p) (lpk2 (⟨rfl, rfl⟩ : s18 = s18 ∧ s19 = s19) inv (fun s5q s20q => μ s5q s20q < μ s5p s20p))).mpr (hs s5p s20p hi))⟩⟩
theorem bd25 : Callable Try.prog 25 := ⟨by rw [Try.func25]; kernel_rfl, by rw [Try.func25]; show some _ ≠ some _; decide⟩
theorem block_Encode_body (p0 : TBlock) (h : BR p0) : block_Encode_Body (p0.Parent, p0.Height, p0.Miner, p0.Work, p0.Nonce, p0.Txs, ()) ((if validB p0 = 0 then encBk p0 else [] : List Int), (validB p0 : Int), ()) := by
  refine block_Encode_in ⟨h.t, fun e => ?_, fun e => ?_⟩
  · have e : validB p0 ≠ 0 := by simpa using e
    rw [if_neg e]
    exact ⟨rfl, rfl⟩
  · have e : validB p0 = 0 := by simpa using e
    have v := (validB_zero p0).1 e
    have hl := v.h.l
    rw [if_pos e]
    refine ⟨⟨h, hl⟩, block_Encode_lp1 (fun l i => 0 ≤ i ∧ i ≤ p0.Txs.length ∧ l = hdrS p0 ++ (p0.Txs.take i.toNat).flatMap encTx) (fun _ i => (p0.Txs.length - i).toNat) ⟨by omega, by omega, by simp⟩ ?_⟩
    rintro l i ⟨g0, g1, rfl⟩
    refine ⟨fun hh => ?_, fun hh => ?_⟩
    · have hh := of_decide_eq_true hh
      have hm := ix_mem p0.Txs i g0 hh
      have hv := v.t _ hm
      have vt := (validE_zero _).1 hv
      have hle := encTxs_length (p0.Txs.take i.toNat) (fun x hx => v.t x (List.mem_of_mem_take hx))
      rw [List.length_take] at hle
      have h3 := vt.enc_len (ix p0.Txs i).Proof
      have h4 := vt.pl
      refine ⟨g0, hh, h.t _ hm, ?_⟩
      rw [if_pos hv]
      refine ⟨fun e2 => ?_, fun _ => ?_⟩
      · rw [hv] at e2; cases e2
      · rw [inc i p0.Txs.length g0 hh (by omega)]
        refine ⟨⟨by rw [List.length_append, hdrS_length]; omega, by omega⟩, ⟨by omega, by omega, ?_⟩, by omega⟩
        rw [take_succ_ix p0.Txs i g0 hh, List.flatMap_append, List.append_assoc]
        simp [encTx]
    · have hh := of_decide_eq_false hh
      rw [List.take_of_length_le (by omega), e]
      exact ⟨rfl, rfl⟩
noncomputable def block_Encode_con : Con TB.den := block_Encode_sh.fnR (fun x => (fun (p0 : TBlock) => BR p0) (TBlock.mk x.1 x.2.1 x.2.2.1 x.2.2.2.1 x.2.2.2.2.1 x.2.2.2.2.2.1)) fun x => ((fun (p0 : TBlock) => (if validB p0 = 0 then encBk p0 else [] : List Int)) (TBlock.mk x.1 x.2.1 x.2.2.1 x.2.2.2.1 x.2.2.2.2.1 x.2.2.2.2.2.1), (fun (p0 : TBlock) => (validB p0 : Int)) (TBlock.mk x.1 x.2.1 x.2.2.1 x.2.2.2.1 x.2.2.2.2.1 x.2.2.2.2.2.1), ())
theorem block_Encode_ok : block_Encode_con.Ok Try.prog TB := Con.ok_fn block_Encode_sh bd25 fun x h => block_Encode_snd (block_Encode_body (TBlock.mk x.1 x.2.1 x.2.2.1 x.2.2.2.1 x.2.2.2.2.1 x.2.2.2.2.2.1) h)
end Go.Proofs.Ytnmakgfmimagmaa
namespace Go.Proofs.Ytnmakgfmimagmaa
open Go Go.Bv Go.Cv Go.Md Go.RowKit
def slices_Clone_sh : Con TB.den := Con.mk0 68 [.one (.d (.sl (.int .u64)))] [] (.one (.one (.d (.sl (.int .u64))))) []
abbrev slices_Clone_I := HL TB.den (hsT slices_Clone_sh.ins (hsOs slices_Clone_sh.pre))
abbrev slices_Clone_O := HL TB.den (hsV slices_Clone_sh.res (hsOs slices_Clone_sh.post))
noncomputable def slices_Clone_cx : Cx TB := ⟨inf, [], [], 4⟩
noncomputable def slices_Clone_code : Code := Try.f68.body.getD .skip
noncomputable def slices_Clone_rs : List ResultVar := Try.f68.results.toList
noncomputable def slices_Clone_an (o : slices_Clone_O) : An TB := .no
noncomputable def slices_Clone_Body (x : slices_Clone_I) (o : slices_Clone_O) : Prop := WPh TB slices_Clone_cx 8 0 slices_Clone_code (slices_Clone_an o) (slices_Clone_sh.st TB x) (retTQ TB slices_Clone_cx slices_Clone_sh slices_Clone_rs o)
set_option maxRecDepth 100000 in
theorem slices_Clone_obl (o : slices_Clone_O) : OblH TB slices_Clone_cx 8 0 slices_Clone_code (slices_Clone_an o) (retTQ TB slices_Clone_cx slices_Clone_sh slices_Clone_rs o) :=
  OblH.of_eq (X := (True ∧ ((True ∧ ((True ∧ True) ∧ True)) ∧ (True ∧ True)))) (by kernel_rfl) ⟨trivial, ⟨⟨trivial, ⟨⟨trivial, trivial⟩, trivial⟩⟩, ⟨trivial, trivial⟩⟩⟩
set_option maxRecDepth 100000 in
theorem slices_Clone_snd {x : slices_Clone_I} {o : slices_Clone_O} (h : slices_Clone_Body x o) : SoundH Try.prog slices_Clone_sh.f ((slices_Clone_sh.args idf x).map (er TB)) ((slices_Clone_sh.obs idf x).map (erO TB)) (er TB (slices_Clone_sh.val idf o)) ((slices_Clone_sh.ops idf o).map (erO TB)) :=
  Con.soundH (c := slices_Clone_sh) (C := slices_Clone_cx) TBok ⟨inf_ok, all_nil, all_nil⟩ mix Try.func68 (show Try.f68.body = some slices_Clone_code by kernel_rfl) (show Try.f68.ntmps = 8 by kernel_rfl) (show Try.f68.results.toList = slices_Clone_rs by kernel_rfl) rfl h (slices_Clone_obl o)
set_option maxRecDepth 100000 in
theorem slices_Clone_in {p0 : List Int} {r0 : List Int} (h :
(∀ z4 : Bool, (z4 = true → p0 = []) → (z4 = true →
([] : List Int) = r0) ∧
(z4 = false →
(([] : List Int).length + p0.length) * 8 ≤ 140737488355328 ∧ ([] : List Int).length + p0.length ≤ maxLen ∧ ([] : List Int) ++ p0 = r0))) : slices_Clone_Body (p0, ()) (r0, ()) := WPh.of_eq (by kernel_rfl) h
theorem bd68 : Callable Try.prog 68 := ⟨by rw [Try.func68]; kernel_rfl, by rw [Try.func68]; show some _ ≠ some _; decide⟩
theorem slices_Clone_body (p0 : List Int) (h : p0.length ≤ 4294967295) : slices_Clone_Body (p0, ()) ((p0 : List Int), ()) := by
  refine slices_Clone_in fun z hz => ⟨fun h => (hz h).symm, fun h => ⟨by simp; omega, by simp; unfold maxLen; omega, rfl⟩⟩
noncomputable def slices_Clone_con : Con TB.den := slices_Clone_sh.fnR (fun x => (fun (p0 : List Int) => p0.length ≤ 4294967295) x.1) fun x => ((fun (p0 : List Int) => (p0 : List Int)) x.1, ())
theorem slices_Clone_ok : slices_Clone_con.Ok Try.prog TB := Con.ok_fn slices_Clone_sh bd68 fun x h => slices_Clone_snd (slices_Clone_body x.1 h)
end Go.Proofs.Ytnmakgfmimagmaa
namespace Go.Proofs.Ytnmakgfmimagmaa
open Go Go.Bv Go.Cv Go.Md Go.RowKit
def slices_Clone_Tx_sh : Con TB.den := Con.mk0 67 [.one (.d (.sl (.st 1)))] [] (.one (.one (.d (.sl (.st 1))))) []
abbrev slices_Clone_Tx_I := HL TB.den (hsT slices_Clone_Tx_sh.ins (hsOs slices_Clone_Tx_sh.pre))
abbrev slices_Clone_Tx_O := HL TB.den (hsV slices_Clone_Tx_sh.res (hsOs slices_Clone_Tx_sh.post))
noncomputable def slices_Clone_Tx_cx : Cx TB := ⟨inf, [], [], 4⟩
noncomputable def slices_Clone_Tx_code : Code := Try.f67.body.getD .skip
noncomputable def slices_Clone_Tx_rs : List ResultVar := Try.f67.results.toList
noncomputable def slices_Clone_Tx_an (o : slices_Clone_Tx_O) : An TB := .no
noncomputable def slices_Clone_Tx_Body (x : slices_Clone_Tx_I) (o : slices_Clone_Tx_O) : Prop := WPh TB slices_Clone_Tx_cx 8 0 slices_Clone_Tx_code (slices_Clone_Tx_an o) (slices_Clone_Tx_sh.st TB x) (retTQ TB slices_Clone_Tx_cx slices_Clone_Tx_sh slices_Clone_Tx_rs o)
set_option maxRecDepth 100000 in
theorem slices_Clone_Tx_obl (o : slices_Clone_Tx_O) : OblH TB slices_Clone_Tx_cx 8 0 slices_Clone_Tx_code (slices_Clone_Tx_an o) (retTQ TB slices_Clone_Tx_cx slices_Clone_Tx_sh slices_Clone_Tx_rs o) :=
  OblH.of_eq (X := (True ∧ ((True ∧ ((True ∧ True) ∧ True)) ∧ (True ∧ True)))) (by kernel_rfl) ⟨trivial, ⟨⟨trivial, ⟨⟨trivial, trivial⟩, trivial⟩⟩, ⟨trivial, trivial⟩⟩⟩
set_option maxRecDepth 100000 in
theorem slices_Clone_Tx_snd {x : slices_Clone_Tx_I} {o : slices_Clone_Tx_O} (h : slices_Clone_Tx_Body x o) : SoundH Try.prog slices_Clone_Tx_sh.f ((slices_Clone_Tx_sh.args idf x).map (er TB)) ((slices_Clone_Tx_sh.obs idf x).map (erO TB)) (er TB (slices_Clone_Tx_sh.val idf o)) ((slices_Clone_Tx_sh.ops idf o).map (erO TB)) :=
  Con.soundH (c := slices_Clone_Tx_sh) (C := slices_Clone_Tx_cx) TBok ⟨inf_ok, all_nil, all_nil⟩ mix Try.func67 (show Try.f67.body = some slices_Clone_Tx_code by kernel_rfl) (show Try.f67.ntmps = 8 by kernel_rfl) (show Try.f67.results.toList = slices_Clone_Tx_rs by kernel_rfl) rfl h (slices_Clone_Tx_obl o)
set_option maxRecDepth 100000 in
theorem slices_Clone_Tx_in {p0 : List TTx} {r0 : List TTx} (h :
(∀ z4 : Bool, (z4 = true → p0 = []) → (z4 = true →
([] : List TTx) = r0) ∧
(z4 = false →
(([] : List TTx).length + p0.length) * 128 ≤ 140737488355328 ∧ ([] : List TTx).length + p0.length ≤ maxLen ∧ ([] : List TTx) ++ p0 = r0))) : slices_Clone_Tx_Body (p0, ()) (r0, ()) := WPh.of_eq (by kernel_rfl) h
theorem bd67 : Callable Try.prog 67 := ⟨by rw [Try.func67]; kernel_rfl, by rw [Try.func67]; show some _ ≠ some _; decide⟩
theorem slices_Clone_Tx_body (p0 : List TTx) (h : p0.length ≤ 4294967295) : slices_Clone_Tx_Body (p0, ()) ((p0 : List TTx), ()) := by
  refine slices_Clone_Tx_in fun z hz => ⟨fun h => (hz h).symm, fun h => ⟨by simp; omega, by simp; unfold maxLen; omega, rfl⟩⟩
noncomputable def slices_Clone_Tx_con : Con TB.den := slices_Clone_Tx_sh.fnR (fun x => (fun (p0 : List TTx) => p0.length ≤ 4294967295) x.1) fun x => ((fun (p0 : List TTx) => (p0 : List TTx)) x.1, ())
theorem slices_Clone_Tx_ok : slices_Clone_Tx_con.Ok Try.prog TB := Con.ok_fn slices_Clone_Tx_sh bd67 fun x h => slices_Clone_Tx_snd (slices_Clone_Tx_body x.1 h)
end Go.Proofs.Ytnmakgfmimagmaa
namespace Go.Proofs.Ytnmakgfmimagmaa
open Go Go.Bv Go.Cv Go.Md Go.RowKit
def block_clone_sh : Con TB.den := Con.mk0 43 [.agg [.d (.int .u64), .d (.int .i64), .d (.int .u64), .d (.int .u64), .d (.int .u64), .d (.sl (.st 1))]] [] (.one (.agg [.d (.int .u64), .d (.int .i64), .d (.int .u64), .d (.int .u64), .d (.int .u64), .d (.sl (.st 1))])) []
abbrev block_clone_I := HL TB.den (hsT block_clone_sh.ins (hsOs block_clone_sh.pre))
abbrev block_clone_O := HL TB.den (hsV block_clone_sh.res (hsOs block_clone_sh.post))
noncomputable def block_clone_cx : Cx TB := ⟨inf, [slices_Clone_Tx_con, slices_Clone_con], [], 4⟩
noncomputable def block_clone_code : Code := Try.f43.body.getD .skip
noncomputable def block_clone_rs : List ResultVar := Try.f43.results.toList
noncomputable def block_clone_Q1 (o : block_clone_O) : Exit → TSt TB.den → Prop := thenT TB (fun s => ghs TB [] s fun s => WP TB block_clone_cx 71 0 (cB (cB (cB block_clone_code))) .no s (retTQ TB block_clone_cx block_clone_sh block_clone_rs o)) (retTQ TB block_clone_cx block_clone_sh block_clone_rs o)
def block_clone_T1 : Tm := ⟨[0, 1], [.cells [.d (.int .u64), .d (.int .i64), .d (.int .u64), .d (.int .u64), .d (.int .u64), .d (.sl (.st 1))], .cells [.d (.int .u64), .d (.int .i64), .d (.int .u64), .d (.int .u64), .d (.int .u64), .full (.st 1)]], [1, 2, 12, 13], [.one (.ptr 0 0), .one (.ptr 1 0), .one (.d (.int .i64)), .one (.d (.int .i64))], 2⟩
noncomputable def block_clone_Q2 (o : block_clone_O) (nx1 : HL TB.den block_clone_T1.hs → Prop) : Exit → TSt TB.den → Prop := thenT TB (fun s => block_clone_T1.mat TB 0 s nx1) (blockT TB 0 (block_clone_Q1 o))
noncomputable def block_clone_L1 (o : block_clone_O) (nx1 : HL TB.den block_clone_T1.hs → Prop) (i : HL TB.den block_clone_T1.hs) : Prop := WP TB block_clone_cx 71 0 (cA (cA (cB (cA (cB (cB block_clone_code)))))) .no (block_clone_T1.fill TB i) (block_clone_Q2 o nx1)
noncomputable def block_clone_A6 (o : block_clone_O) : An TB := .nd [] .no [] (.lp [] block_clone_T1 (block_clone_L1 o) fun nx1 => .no)
noncomputable def block_clone_an (o : block_clone_O) : An TB := .nd [] .no [] (.nd [] .no [] (.nd [] (block_clone_A6 o) [] .no))
noncomputable def block_clone_Body (x : block_clone_I) (o : block_clone_O) : Prop := WPh TB block_clone_cx 71 0 block_clone_code (block_clone_an o) (block_clone_sh.st TB x) (retTQ TB block_clone_cx block_clone_sh block_clone_rs o)
set_option maxRecDepth 100000 in
theorem block_clone_obl (o : block_clone_O) : OblH TB block_clone_cx 71 0 block_clone_code (block_clone_an o) (retTQ TB block_clone_cx block_clone_sh block_clone_rs o) :=
  OblH.of_eq (X := (True ∧ (True ∧ ((True ∧ ((∀ nx i, (block_clone_L1 o) nx i = (block_clone_L1 o) nx i) ∧ ∀ nx1 : HL TB.den block_clone_T1.hs → Prop, (True ∧ ((True ∧ True) ∧ ((True ∧ (True ∧ (True ∧ (True ∧ ((True ∧ True) ∧ True))))) ∧ True))))) ∧ (True ∧ True))))) (by kernel_rfl) ⟨trivial, ⟨trivial, ⟨⟨trivial, ⟨fun _ _ => rfl, fun _ => ⟨trivial, ⟨⟨trivial, trivial⟩, ⟨⟨trivial, ⟨trivial, ⟨trivial, ⟨trivial, ⟨⟨trivial, trivial⟩, trivial⟩⟩⟩⟩⟩, trivial⟩⟩⟩⟩⟩, ⟨trivial, trivial⟩⟩⟩⟩
set_option maxRecDepth 100000 in
theorem block_clone_snd {x : block_clone_I} {o : block_clone_O} (h : block_clone_Body x o) : SoundH Try.prog block_clone_sh.f ((block_clone_sh.args idf x).map (er TB)) ((block_clone_sh.obs idf x).map (erO TB)) (er TB (block_clone_sh.val idf o)) ((block_clone_sh.ops idf o).map (erO TB)) :=
  Con.soundH (c := block_clone_sh) (C := block_clone_cx) TBok ⟨inf_ok, (all_cons slices_Clone_Tx_ok (all_cons slices_Clone_ok all_nil)), all_nil⟩ mix Try.func43 (show Try.f43.body = some block_clone_code by kernel_rfl) (show Try.f43.ntmps = 71 by kernel_rfl) (show Try.f43.results.toList = block_clone_rs by kernel_rfl) rfl h (block_clone_obl o)
set_option maxRecDepth 100000 in
theorem block_clone_in {p0 : TBlock} {r0 : TBlock} (h :
((p0.Txs.length ≤ 4294967295) ∧ Md.Loop (((p0.Txs.length : Int) : Int), (0 : Int), p0.Parent, p0.Height, p0.Miner, p0.Work, p0.Nonce, p0.Txs, (0 : Int), (0 : Int), (0 : Int), (0 : Int), (0 : Int), (([] : List TTx) : List TTx), ()) (block_clone_L1 (r0.Parent, r0.Height, r0.Miner, r0.Work, r0.Nonce, r0.Txs, ())))) : block_clone_Body (p0.Parent, p0.Height, p0.Miner, p0.Work, p0.Nonce, p0.Txs, ()) (r0.Parent, r0.Height, r0.Miner, r0.Work, r0.Nonce, r0.Txs, ()) := WPh.of_eq (by kernel_rfl) h
def block_clone_B1 (r0 : TBlock) (k1 : Prop) (s12 : Int) (s13 : Int) (h0_0 : Int) (h0_1 : Int) (h0_2 : Int) (h0_3 : Int) (h0_4 : Int) (h0_5 : List TTx) (h1_0 : Int) (h1_1 : Int) (h1_2 : Int) (h1_3 : Int) (h1_4 : Int) (h1_5 : List TTx) : Prop :=
(decide (s13 < s12) = true →
(0 ≤ s13) ∧ s13 < (h0_5.length : Int) ∧ (((ix h0_5 s13).Marks).length ≤ 4294967295) ∧ False) ∧
(decide (s13 < s12) = false →
 h0_0 = r0.Parent ∧ h0_1 = r0.Height ∧ h0_2 = r0.Miner ∧ h0_3 = r0.Work ∧ h0_4 = r0.Nonce ∧ h0_5 = r0.Txs)
set_option maxRecDepth 100000 in
theorem block_clone_lp1 {r0 : TBlock} {s12 : Int} {s13 : Int} {h0_0 : Int} {h0_1 : Int} {h0_2 : Int} {h0_3 : Int} {h0_4 : Int} {h0_5 : List TTx} {h1_0 : Int} {h1_1 : Int} {h1_2 : Int} {h1_3 : Int} {h1_4 : Int} {h1_5 : List TTx} (inv : Prop) (μ : Nat) (h0 : inv) (hs : inv → block_clone_B1 r0 (inv ∧ μ < μ) s12 s13 h0_0 h0_1 h0_2 h0_3 h0_4 h0_5 h1_0 h1_1 h1_2 h1_3 h1_4 h1_5) : Md.Loop (s12, s13, h0_0, h0_1, h0_2, h0_3, h0_4, h0_5, h1_0, h1_1, h1_2, h1_3, h1_4, h1_5, ()) (block_clone_L1 (r0.Parent, r0.Height, r0.Miner, r0.Work, r0.Nonce, r0.Txs, ())) :=
  ⟨⟨fun s : Int × Int × Int × Int × Int × Int × Int × (List TTx) × Int × Int × Int × Int × Int × (List TTx) × Unit => (s.1 = s12 ∧ s.2.1 = s13 ∧ s.2.2.1 = h0_0 ∧ s.2.2.2.1 = h0_1 ∧ s.2.2.2.2.1 = h0_2 ∧ s.2.2.2.2.2.1 = h0_3 ∧ s.2.2.2.2.2.2.1 = h0_4 ∧ s.2.2.2.2.2.2.2.1 = h0_5 ∧ s.2.2.2.2.2.2.2.2.1 = h1_0 ∧ s.2.2.2.2.2.2.2.2.2.1 = h1_1 ∧ s.2.2.2.2.2.2.2.2.2.2.1 = h1_2 ∧ s.2.2.2.2.2.2.2.2.2.2.2.1 = h1_3 ∧ s.2.2.2.2.2.2.2.2.2.2.2.2.1 = h1_4 ∧ s.2.2.2.2.2.2.2.2.2.2.2.2.2.1 = h1_5) ∧ inv, fun s : Int × Int × Int × Int × Int × Int × Int × (List TTx) × Int × Int × Int × Int × Int × (List TTx) × Unit => μ, ⟨⟨rfl, rfl, rfl, rfl, rfl, rfl, rfl, rfl, rfl, rfl, rfl, rfl, rfl, rfl⟩, h0⟩, fun (s12p, s13p, h0_0p, h0_1p, h0_2p, h0_3p, h0_4p, h0_5p, h1_0p, h1_1p, h1_2p, h1_3p, h1_4p, h1_5p, ()) ⟨⟨eq0, eq1, eq2, eq3, eq4, eq5, eq6, eq7, eq8, eq9, eq10, eq11, eq12, eq13⟩, hi⟩ => by
    have eq0 : s12p = s12 := eq0; subst s12p; have eq1 : s13p = s13 := eq1; subst s13p; have eq2 : h0_0p = h0_0 := eq2; subst h0_0p; have eq3 : h0_1p = h0_1 := eq3; subst h0_1p; have eq4 : h0_2p = h0_2 := eq4; subst h0_2p; have eq5 : h0_3p = h0_3 := eq5; subst h0_3p; have eq6 : h0_4p = h0_4 := eq6; subst h0_4p; have eq7 : h0_5p = h0_5 := eq7; subst h0_5p; have eq8 : h1_0p = h1_0 := eq8; subst h1_0p; have eq9 : h1_1p = h1_1 := eq9; subst h1_1p; have eq10 : h1_2p = h1_2 := eq10; subst h1_2p; have eq11 : h1_3p = h1_3 := eq11; subst h1_3p; have eq12 : h1_4p = h1_4 := eq12; subst h1_4p; have eq13 : h1_5p = h1_5 := eq13; subst h1_5p; exact mpr_of (by kernel_rfl) ((congrArg (fun k => block_clone_B1 r0 k s12 s13 h0_0 h0_1 h0_2 h0_3 h0_4 h0_5 h1_0 h1_1 h1_2 h1_3 h1_4 h1_5) (lpk0 (⟨rfl, rfl, rfl, rfl, rfl, rfl, rfl, rfl, rfl, rfl, rfl, rfl, rfl, rfl⟩ : s12 = s12 ∧ s13 = s13 ∧ h0_0 = h0_0 ∧ h0_1 = h0_1 ∧ h0_2 = h0_2 ∧ h0_3 = h0_3 ∧ h0_4 = h0_4 ∧ h0_5 = h0_5 ∧ h1_0 = h1_0 ∧ h1_1 = h1_1 ∧ h1_2 = h1_2 ∧ h1_3 = h1_3 ∧ h1_4 = h1_4 ∧ h1_5 = h1_5) inv (μ < μ))).mpr (hs hi))⟩⟩
theorem bd43 : Callable Try.prog 43 := ⟨by rw [Try.func43]; kernel_rfl, by rw [Try.func43]; show some _ ≠ some _; decide⟩
theorem block_clone_body (p0 : TBlock) (h : p0.Txs = []) : block_clone_Body (p0.Parent, p0.Height, p0.Miner, p0.Work, p0.Nonce, p0.Txs, ()) ((p0.Parent : Int), (p0.Height : Int), (p0.Miner : Int), (p0.Work : Int), (p0.Nonce : Int), (p0.Txs : List TTx), ()) := by
  refine block_clone_in ⟨by rw [h]; decide, block_clone_lp1 True 0 trivial fun _ => ⟨fun hh => ?_, fun _ => ⟨rfl, rfl, rfl, rfl, rfl, rfl⟩⟩⟩
  have hh := of_decide_eq_true hh
  rw [h] at hh
  exact absurd hh (by decide)
noncomputable def block_clone_con : Con TB.den := block_clone_sh.fnR (fun x => (fun (p0 : TBlock) => p0.Txs = []) (TBlock.mk x.1 x.2.1 x.2.2.1 x.2.2.2.1 x.2.2.2.2.1 x.2.2.2.2.2.1)) fun x => ((fun (p0 : TBlock) => (p0.Parent : Int)) (TBlock.mk x.1 x.2.1 x.2.2.1 x.2.2.2.1 x.2.2.2.2.1 x.2.2.2.2.2.1), (fun (p0 : TBlock) => (p0.Height : Int)) (TBlock.mk x.1 x.2.1 x.2.2.1 x.2.2.2.1 x.2.2.2.2.1 x.2.2.2.2.2.1), (fun (p0 : TBlock) => (p0.Miner : Int)) (TBlock.mk x.1 x.2.1 x.2.2.1 x.2.2.2.1 x.2.2.2.2.1 x.2.2.2.2.2.1), (fun (p0 : TBlock) => (p0.Work : Int)) (TBlock.mk x.1 x.2.1 x.2.2.1 x.2.2.2.1 x.2.2.2.2.1 x.2.2.2.2.2.1), (fun (p0 : TBlock) => (p0.Nonce : Int)) (TBlock.mk x.1 x.2.1 x.2.2.1 x.2.2.2.1 x.2.2.2.2.1 x.2.2.2.2.2.1), (fun (p0 : TBlock) => (p0.Txs : List TTx)) (TBlock.mk x.1 x.2.1 x.2.2.1 x.2.2.2.1 x.2.2.2.2.1 x.2.2.2.2.2.1), ())
theorem block_clone_ok : block_clone_con.Ok Try.prog TB := Con.ok_fn block_clone_sh bd43 fun x h => block_clone_snd (block_clone_body (TBlock.mk x.1 x.2.1 x.2.2.1 x.2.2.2.1 x.2.2.2.2.1 x.2.2.2.2.2.1) h)
end Go.Proofs.Ytnmakgfmimagmaa
namespace Go.Proofs.Ytnmakgfmimagmaa
open Go Go.Bv Go.Cv Go.Md Go.RowKit
def Field_Valid_sh : Con TB.den := Con.mk0 92 [.agg [.d (.int .u64)]] [] (.one (.one (.d (.bool)))) []
abbrev Field_Valid_I := HL TB.den (hsT Field_Valid_sh.ins (hsOs Field_Valid_sh.pre))
abbrev Field_Valid_O := HL TB.den (hsV Field_Valid_sh.res (hsOs Field_Valid_sh.post))
noncomputable def Field_Valid_cx : Cx TB := ⟨inf, [], [], 4⟩
noncomputable def Field_Valid_code : Code := Try.f92.body.getD .skip
noncomputable def Field_Valid_rs : List ResultVar := Try.f92.results.toList
noncomputable def Field_Valid_an (o : Field_Valid_O) : An TB := .no
noncomputable def Field_Valid_Body (x : Field_Valid_I) (o : Field_Valid_O) : Prop := WPh TB Field_Valid_cx 13 0 Field_Valid_code (Field_Valid_an o) (Field_Valid_sh.st TB x) (retTQ TB Field_Valid_cx Field_Valid_sh Field_Valid_rs o)
set_option maxRecDepth 100000 in
theorem Field_Valid_obl (o : Field_Valid_O) : OblH TB Field_Valid_cx 13 0 Field_Valid_code (Field_Valid_an o) (retTQ TB Field_Valid_cx Field_Valid_sh Field_Valid_rs o) :=
  OblH.of_eq (X := (True ∧ ((True ∧ ((True ∧ (True ∧ (True ∧ (True ∧ (True ∧ (True ∧ (True ∧ (True ∧ (True ∧ (True ∧ (True ∧ (True ∧ True)))))))))))) ∧ ((True ∧ True) ∧ True))) ∧ (True ∧ True)))) (by kernel_rfl) ⟨trivial, ⟨⟨trivial, ⟨⟨trivial, ⟨trivial, ⟨trivial, ⟨trivial, ⟨trivial, ⟨trivial, ⟨trivial, ⟨trivial, ⟨trivial, ⟨trivial, ⟨trivial, ⟨trivial, trivial⟩⟩⟩⟩⟩⟩⟩⟩⟩⟩⟩⟩, ⟨⟨trivial, trivial⟩, trivial⟩⟩⟩, ⟨trivial, trivial⟩⟩⟩
set_option maxRecDepth 100000 in
theorem Field_Valid_snd {x : Field_Valid_I} {o : Field_Valid_O} (h : Field_Valid_Body x o) : SoundH Try.prog Field_Valid_sh.f ((Field_Valid_sh.args idf x).map (er TB)) ((Field_Valid_sh.obs idf x).map (erO TB)) (er TB (Field_Valid_sh.val idf o)) ((Field_Valid_sh.ops idf o).map (erO TB)) :=
  Con.soundH (c := Field_Valid_sh) (C := Field_Valid_cx) TBok ⟨inf_ok, all_nil, all_nil⟩ mix Try.func92 (show Try.f92.body = some Field_Valid_code by kernel_rfl) (show Try.f92.ntmps = 13 by kernel_rfl) (show Try.f92.results.toList = Field_Valid_rs by kernel_rfl) rfl h (Field_Valid_obl o)
set_option maxRecDepth 100000 in
theorem Field_Valid_in {p0 : TField} {r0 : Bool} (h :
(((p0.P == 18446744069414584321) = true →
((p0.P == 18446744069414584321) = true →
 true = r0) ∧
((p0.P == 18446744069414584321) = false →
 false = r0)) ∧
((p0.P == 18446744069414584321) = false →
((p0.P == 17) = true →
((p0.P == 17) = true →
 true = r0) ∧
((p0.P == 17) = false →
 false = r0)) ∧
((p0.P == 17) = false →
((p0.P == 97) = true →
((p0.P == 97) = true →
 true = r0) ∧
((p0.P == 97) = false →
 false = r0)) ∧
((p0.P == 97) = false →
((p0.P == 193) = true →
((p0.P == 193) = true →
 true = r0) ∧
((p0.P == 193) = false →
 false = r0)) ∧
((p0.P == 193) = false →
((p0.P == 257) = true →
((p0.P == 257) = true →
 true = r0) ∧
((p0.P == 257) = false →
 false = r0)) ∧
((p0.P == 257) = false →
((p0.P == 12289) = true →
((p0.P == 12289) = true →
 true = r0) ∧
((p0.P == 12289) = false →
 false = r0)) ∧
((p0.P == 12289) = false →
((p0.P == 65537) = true →
 true = r0) ∧
((p0.P == 65537) = false →
 false = r0))))))))) : Field_Valid_Body (p0.P, ()) (r0, ()) := WPh.of_eq (by kernel_rfl) h
theorem bd92 : Callable Try.prog 92 := ⟨by rw [Try.func92]; kernel_rfl, by rw [Try.func92]; show some _ ≠ some _; decide⟩
theorem Field_Valid_body (p0 : TField) (h : p0.P = 18446744069414584321) : Field_Valid_Body (p0.P, ()) ((true : Bool), ()) := by
  refine Field_Valid_in ?_
  simp [h]
noncomputable def Field_Valid_con : Con TB.den := Field_Valid_sh.fnR (fun x => (fun (p0 : TField) => p0.P = 18446744069414584321) (TField.mk x.1)) fun x => ((fun (p0 : TField) => (true : Bool)) (TField.mk x.1), ())
theorem Field_Valid_ok : Field_Valid_con.Ok Try.prog TB := Con.ok_fn Field_Valid_sh bd92 fun x h => Field_Valid_snd (Field_Valid_body (TField.mk x.1) h)
end Go.Proofs.Ytnmakgfmimagmaa
namespace Go.Proofs.Ytnmakgfmimagmaa
open Go Go.Bv Go.Cv Go.Md Go.RowKit
def Field_add_sh : Con TB.den := Con.mk0 107 [.agg [.d (.int .u64)], .one (.d (.int .u64)), .one (.d (.int .u64))] [] (.one (.one (.d (.int .u64)))) []
abbrev Field_add_I := HL TB.den (hsT Field_add_sh.ins (hsOs Field_add_sh.pre))
abbrev Field_add_O := HL TB.den (hsV Field_add_sh.res (hsOs Field_add_sh.post))
noncomputable def Field_add_cx : Cx TB := ⟨inf, [], [x116], 4⟩
noncomputable def Field_add_code : Code := Try.f107.body.getD .skip
noncomputable def Field_add_rs : List ResultVar := Try.f107.results.toList
noncomputable def Field_add_Q1 (o : Field_add_O) : Exit → TSt TB.den → Prop := thenT TB (fun s => ghs TB [] s fun s => WP TB Field_add_cx 28 0 (cB (cB (cB Field_add_code))) .no s (retTQ TB Field_add_cx Field_add_sh Field_add_rs o)) (retTQ TB Field_add_cx Field_add_sh Field_add_rs o)
def Field_add_TJ1 : Tm := ⟨[0], [.cells [.d (.int .u64)]], [3, 7, 22], [.one (.ptr 0 0), .one (.d (.int .u64)), .one (.d (.bool))], 1⟩
noncomputable def Field_add_J1d (o : Field_add_O) (i : HL TB.den Field_add_TJ1.hs) : Prop := ghs TB [] (Field_add_TJ1.fill TB i) fun s => WP TB Field_add_cx 28 0 (cB (cA (cB (cB Field_add_code)))) .no s (Field_add_Q1 o)
structure Field_add_J1 (o : Field_add_O) (i : HL TB.den Field_add_TJ1.hs) : Prop where
  h : Field_add_J1d o i
noncomputable def Field_add_A3 (o : Field_add_O) : An TB := .nd [] (.jn Field_add_TJ1 (Field_add_J1 o) [] .no [] .no) [] .no
noncomputable def Field_add_an (o : Field_add_O) : An TB := .nd [] .no [] (.nd [] .no [] (Field_add_A3 o))
noncomputable def Field_add_Body (x : Field_add_I) (o : Field_add_O) : Prop := WPh TB Field_add_cx 28 0 Field_add_code (Field_add_an o) (Field_add_sh.st TB x) (retTQ TB Field_add_cx Field_add_sh Field_add_rs o)
set_option maxRecDepth 100000 in
theorem Field_add_obl (o : Field_add_O) : OblH TB Field_add_cx 28 0 Field_add_code (Field_add_an o) (retTQ TB Field_add_cx Field_add_sh Field_add_rs o) :=
  OblH.of_eq (X := (True ∧ (True ∧ ((True ∧ (∀ i, (Field_add_J1 o) i = (Field_add_J1d o) i) ∧ (True ∧ True)) ∧ (True ∧ True))))) (by kernel_rfl) ⟨trivial, ⟨trivial, ⟨⟨trivial, fun _ => propext ⟨fun h => h.1, fun h => ⟨h⟩⟩, ⟨trivial, trivial⟩⟩, ⟨trivial, trivial⟩⟩⟩⟩
set_option maxRecDepth 100000 in
theorem Field_add_snd {x : Field_add_I} {o : Field_add_O} (h : Field_add_Body x o) : SoundH Try.prog Field_add_sh.f ((Field_add_sh.args idf x).map (er TB)) ((Field_add_sh.obs idf x).map (erO TB)) (er TB (Field_add_sh.val idf o)) ((Field_add_sh.ops idf o).map (erO TB)) :=
  Con.soundH (c := Field_add_sh) (C := Field_add_cx) TBok ⟨inf_ok, all_nil, (all_cons x116_ok all_nil)⟩ mix Try.func107 (show Try.f107.body = some Field_add_code by kernel_rfl) (show Try.f107.ntmps = 28 by kernel_rfl) (show Try.f107.results.toList = Field_add_rs by kernel_rfl) rfl h (Field_add_obl o)
set_option maxRecDepth 100000 in
theorem Field_add_in {p0 : TField} {p1 : Int} {p2 : Int} {r0 : Int} (h :
((0 ≤ p1 ∧ 0 ≤ p2 ∧ 0 ≤ (0 : Int) ∧ (0 : Int) ≤ 1) ∧ let r1 : Int := (p1 + p2 + (0 : Int)) % 18446744073709551616
 let r2 : Int := (p1 + p2 + (0 : Int)) / 18446744073709551616
((r2 != 0) = true →
 Field_add_J1 (r0, ()) (r1, true, p0.P, ())) ∧
((r2 != 0) = false →
 Field_add_J1 (r0, ()) (r1, (decide (p0.P ≤ r1) : Bool), p0.P, ())))) : Field_add_Body (p0.P, p1, p2, ()) (r0, ()) := WPh.of_eq (by kernel_rfl) h
set_option maxRecDepth 100000 in
theorem Field_add_J1_in {r0 : Int} {s7 : Int} {s22 : Bool} {h0_0 : Int} (h :
((s22 = true →
 IntKind.u64.wrap (s7 - h0_0) = r0) ∧
(s22 = false →
 s7 = r0))) : Field_add_J1 (r0, ()) (s7, s22, h0_0, ()) := ⟨mpr_of (by kernel_rfl) h⟩
theorem bd107 : Callable Try.prog 107 := ⟨by rw [Try.func107]; kernel_rfl, by rw [Try.func107]; show some _ ≠ some _; decide⟩
theorem Field_add_body (p0 : TField) (p1 : Int) (p2 : Int) (h : p0.P = 18446744069414584321 ∧ (0 ≤ p1 ∧ p1 < 18446744069414584321) ∧ (0 ≤ p2 ∧ p2 < 18446744069414584321)) : Field_add_Body (p0.P, p1, p2, ()) (((p1 + p2) % 18446744069414584321 : Int), ()) := by
  obtain ⟨hP, h1, h2⟩ := h
  refine Field_add_in ⟨by omega, ?_, ?_⟩
  · intro h
    refine Field_add_J1_in ⟨fun _ => ?_, fun h => by simp at h⟩
    have h : (p1 + p2 + 0) / 18446744073709551616 ≠ 0 := by simpa using h
    rw [hP, u64w]; omega
  · intro h
    have h : (p1 + p2 + 0) / 18446744073709551616 = 0 := by simpa using h
    refine Field_add_J1_in ⟨fun g => ?_, fun g => ?_⟩
    · have g := of_decide_eq_true g
      rw [hP] at g ⊢
      rw [u64w]; omega
    · have g := of_decide_eq_false g
      rw [hP] at g
      omega
noncomputable def Field_add_con : Con TB.den := Field_add_sh.fnR (fun x => (fun (p0 : TField) (p1 : Int) (p2 : Int) => p0.P = 18446744069414584321 ∧ (0 ≤ p1 ∧ p1 < 18446744069414584321) ∧ (0 ≤ p2 ∧ p2 < 18446744069414584321)) (TField.mk x.1) x.2.1 x.2.2.1) fun x => ((fun (p0 : TField) (p1 : Int) (p2 : Int) => ((p1 + p2) % 18446744069414584321 : Int)) (TField.mk x.1) x.2.1 x.2.2.1, ())
theorem Field_add_ok : Field_add_con.Ok Try.prog TB := Con.ok_fn Field_add_sh bd107 fun x h => Field_add_snd (Field_add_body (TField.mk x.1) x.2.1 x.2.2.1 h)
end Go.Proofs.Ytnmakgfmimagmaa
namespace Go.Proofs.Ytnmakgfmimagmaa
open Go Go.Bv Go.Cv Go.Md Go.RowKit
def Field_reduced_sh : Con TB.den := Con.mk0 108 [.agg [.d (.int .u64)], .one (.d (.int .u64))] [] (.one (.one (.d (.int .u64)))) []
abbrev Field_reduced_I := HL TB.den (hsT Field_reduced_sh.ins (hsOs Field_reduced_sh.pre))
abbrev Field_reduced_O := HL TB.den (hsV Field_reduced_sh.res (hsOs Field_reduced_sh.post))
noncomputable def Field_reduced_cx : Cx TB := ⟨inf, [], [], 4⟩
noncomputable def Field_reduced_code : Code := Try.f108.body.getD .skip
noncomputable def Field_reduced_rs : List ResultVar := Try.f108.results.toList
noncomputable def Field_reduced_an (o : Field_reduced_O) : An TB := .no
noncomputable def Field_reduced_Body (x : Field_reduced_I) (o : Field_reduced_O) : Prop := WPh TB Field_reduced_cx 14 0 Field_reduced_code (Field_reduced_an o) (Field_reduced_sh.st TB x) (retTQ TB Field_reduced_cx Field_reduced_sh Field_reduced_rs o)
set_option maxRecDepth 100000 in
theorem Field_reduced_obl (o : Field_reduced_O) : OblH TB Field_reduced_cx 14 0 Field_reduced_code (Field_reduced_an o) (retTQ TB Field_reduced_cx Field_reduced_sh Field_reduced_rs o) :=
  OblH.of_eq (X := (True ∧ ((True ∧ (True ∧ True)) ∧ (True ∧ True)))) (by kernel_rfl) ⟨trivial, ⟨⟨trivial, ⟨trivial, trivial⟩⟩, ⟨trivial, trivial⟩⟩⟩
set_option maxRecDepth 100000 in
theorem Field_reduced_snd {x : Field_reduced_I} {o : Field_reduced_O} (h : Field_reduced_Body x o) : SoundH Try.prog Field_reduced_sh.f ((Field_reduced_sh.args idf x).map (er TB)) ((Field_reduced_sh.obs idf x).map (erO TB)) (er TB (Field_reduced_sh.val idf o)) ((Field_reduced_sh.ops idf o).map (erO TB)) :=
  Con.soundH (c := Field_reduced_sh) (C := Field_reduced_cx) TBok ⟨inf_ok, all_nil, all_nil⟩ mix Try.func108 (show Try.f108.body = some Field_reduced_code by kernel_rfl) (show Try.f108.ntmps = 14 by kernel_rfl) (show Try.f108.results.toList = Field_reduced_rs by kernel_rfl) rfl h (Field_reduced_obl o)
set_option maxRecDepth 100000 in
theorem Field_reduced_in {p0 : TField} {p1 : Int} {r0 : Int} (h :
((decide (p0.P ≤ p1) = true →
(p0.P ≠ 0) ∧ Int.tmod p1 p0.P = r0) ∧
(decide (p0.P ≤ p1) = false →
 p1 = r0))) : Field_reduced_Body (p0.P, p1, ()) (r0, ()) := WPh.of_eq (by kernel_rfl) h
theorem bd108 : Callable Try.prog 108 := ⟨by rw [Try.func108]; kernel_rfl, by rw [Try.func108]; show some _ ≠ some _; decide⟩
theorem Field_reduced_body (p0 : TField) (p1 : Int) (h : 0 < p0.P ∧ 0 ≤ p1) : Field_reduced_Body (p0.P, p1, ()) ((p1 % p0.P : Int), ()) := by
  refine Field_reduced_in ⟨fun h1 => ⟨by omega, tmod_nn _ _ h.2⟩, fun h1 => ?_⟩
  simp at h1
  rw [Int.emod_eq_of_lt (by omega) (by omega)]
noncomputable def Field_reduced_con : Con TB.den := Field_reduced_sh.fnR (fun x => (fun (p0 : TField) (p1 : Int) => 0 < p0.P ∧ 0 ≤ p1) (TField.mk x.1) x.2.1) fun x => ((fun (p0 : TField) (p1 : Int) => (p1 % p0.P : Int)) (TField.mk x.1) x.2.1, ())
theorem Field_reduced_ok : Field_reduced_con.Ok Try.prog TB := Con.ok_fn Field_reduced_sh bd108 fun x h => Field_reduced_snd (Field_reduced_body (TField.mk x.1) x.2.1 h)
end Go.Proofs.Ytnmakgfmimagmaa
namespace Go.Proofs.Ytnmakgfmimagmaa
open Go Go.Bv Go.Cv Go.Md Go.RowKit
def Field_Add_sh : Con TB.den := Con.mk0 98 [.agg [.d (.int .u64)], .one (.d (.int .u64)), .one (.d (.int .u64))] [] (.one (.one (.d (.int .u64)))) []
abbrev Field_Add_I := HL TB.den (hsT Field_Add_sh.ins (hsOs Field_Add_sh.pre))
abbrev Field_Add_O := HL TB.den (hsV Field_Add_sh.res (hsOs Field_Add_sh.post))
noncomputable def Field_Add_cx : Cx TB := ⟨inf, [Field_Valid_con, Field_reduced_con, Field_add_con], [], 4⟩
noncomputable def Field_Add_code : Code := Try.f98.body.getD .skip
noncomputable def Field_Add_rs : List ResultVar := Try.f98.results.toList
noncomputable def Field_Add_an (o : Field_Add_O) : An TB := .no
noncomputable def Field_Add_Body (x : Field_Add_I) (o : Field_Add_O) : Prop := WPh TB Field_Add_cx 18 0 Field_Add_code (Field_Add_an o) (Field_Add_sh.st TB x) (retTQ TB Field_Add_cx Field_Add_sh Field_Add_rs o)
set_option maxRecDepth 100000 in
theorem Field_Add_obl (o : Field_Add_O) : OblH TB Field_Add_cx 18 0 Field_Add_code (Field_Add_an o) (retTQ TB Field_Add_cx Field_Add_sh Field_Add_rs o) :=
  OblH.of_eq (X := (True ∧ ((True ∧ ((True ∧ True) ∧ True)) ∧ (True ∧ True)))) (by kernel_rfl) ⟨trivial, ⟨⟨trivial, ⟨⟨trivial, trivial⟩, trivial⟩⟩, ⟨trivial, trivial⟩⟩⟩
set_option maxRecDepth 100000 in
theorem Field_Add_snd {x : Field_Add_I} {o : Field_Add_O} (h : Field_Add_Body x o) : SoundH Try.prog Field_Add_sh.f ((Field_Add_sh.args idf x).map (er TB)) ((Field_Add_sh.obs idf x).map (erO TB)) (er TB (Field_Add_sh.val idf o)) ((Field_Add_sh.ops idf o).map (erO TB)) :=
  Con.soundH (c := Field_Add_sh) (C := Field_Add_cx) TBok ⟨inf_ok, (all_cons Field_Valid_ok (all_cons Field_reduced_ok (all_cons Field_add_ok all_nil))), all_nil⟩ mix Try.func98 (show Try.f98.body = some Field_Add_code by kernel_rfl) (show Try.f98.ntmps = 18 by kernel_rfl) (show Try.f98.results.toList = Field_Add_rs by kernel_rfl) rfl h (Field_Add_obl o)
set_option maxRecDepth 100000 in
theorem Field_Add_in {p0 : TField} {p1 : Int} {p2 : Int} {r0 : Int} (h :
((p0.P = 18446744069414584321) ∧ ((!true) = true →
 0 = r0) ∧
((!true) = false →
(0 < p0.P ∧ 0 ≤ p1) ∧ (0 < p0.P ∧ 0 ≤ p2) ∧ (p0.P = 18446744069414584321 ∧ (0 ≤ (p1 % p0.P) ∧ (p1 % p0.P) < 18446744069414584321) ∧ (0 ≤ (p2 % p0.P) ∧ (p2 % p0.P) < 18446744069414584321)) ∧ let r1 : Int := ((p1 % p0.P) + (p2 % p0.P)) % 18446744069414584321
 r1 = r0))) : Field_Add_Body (p0.P, p1, p2, ()) (r0, ()) := WPh.of_eq (by kernel_rfl) h
theorem bd98 : Callable Try.prog 98 := ⟨by rw [Try.func98]; kernel_rfl, by rw [Try.func98]; show some _ ≠ some _; decide⟩
theorem Field_Add_body (p0 : TField) (p1 : Int) (p2 : Int) (h : p0.P = 18446744069414584321 ∧ U64 p1 ∧ U64 p2) : Field_Add_Body (p0.P, p1, p2, ()) (((p1 + p2) % 18446744069414584321 : Int), ()) := by
  obtain ⟨hP, h1, h2⟩ := h
  refine Field_Add_in ⟨hP, ?_⟩
  simp only [hP]
  refine ⟨fun h => by simp at h, fun _ => ⟨by omega, by omega, ⟨by trivial, by omega, by omega⟩, ?_⟩⟩
  omega
noncomputable def Field_Add_con : Con TB.den := Field_Add_sh.fnR (fun x => (fun (p0 : TField) (p1 : Int) (p2 : Int) => p0.P = 18446744069414584321 ∧ U64 p1 ∧ U64 p2) (TField.mk x.1) x.2.1 x.2.2.1) fun x => ((fun (p0 : TField) (p1 : Int) (p2 : Int) => ((p1 + p2) % 18446744069414584321 : Int)) (TField.mk x.1) x.2.1 x.2.2.1, ())
theorem Field_Add_ok : Field_Add_con.Ok Try.prog TB := Con.ok_fn Field_Add_sh bd98 fun x h => Field_Add_snd (Field_Add_body (TField.mk x.1) x.2.1 x.2.2.1 h)
end Go.Proofs.Ytnmakgfmimagmaa
namespace Go.Proofs.Ytnmakgfmimagmaa
open Go Go.Bv Go.Cv Go.Md Go.RowKit
def bits_Len64_sh : Con TB.den := Con.mk0 120 [.one (.d (.int .u64))] [] (.one (.one (.d (.int .i64)))) []
abbrev bits_Len64_I := HL TB.den (hsT bits_Len64_sh.ins (hsOs bits_Len64_sh.pre))
abbrev bits_Len64_O := HL TB.den (hsV bits_Len64_sh.res (hsOs bits_Len64_sh.post))
noncomputable def bits_Len64_cx : Cx TB := ⟨inf, [], [], 4⟩
noncomputable def bits_Len64_code : Code := Try.f120.body.getD .skip
noncomputable def bits_Len64_rs : List ResultVar := Try.f120.results.toList
def bits_Len64_TJ3 : Tm := ⟨[], [], [0, 2], [.one (.d (.int .u64)), .one (.d (.int .i64))], 0⟩
noncomputable def bits_Len64_J3d (o : bits_Len64_O) (i : HL TB.den bits_Len64_TJ3.hs) : Prop := ghs TB [] (bits_Len64_TJ3.fill TB i) fun s => WP TB bits_Len64_cx 25 0 (cB (cB (cB (cB bits_Len64_code)))) .no s (retTQ TB bits_Len64_cx bits_Len64_sh bits_Len64_rs o)
structure bits_Len64_J3 (o : bits_Len64_O) (i : HL TB.den bits_Len64_TJ3.hs) : Prop where
  h : bits_Len64_J3d o i
def bits_Len64_TJ2 : Tm := ⟨[], [], [0, 2], [.one (.d (.int .u64)), .one (.d (.int .i64))], 0⟩
noncomputable def bits_Len64_J2d (o : bits_Len64_O) (i : HL TB.den bits_Len64_TJ2.hs) : Prop := ghs TB [] (bits_Len64_TJ2.fill TB i) fun s => WP TB bits_Len64_cx 25 0 (cB (cB (cB bits_Len64_code))) (.jn bits_Len64_TJ3 (bits_Len64_J3 o) [] .no [] .no) s (retTQ TB bits_Len64_cx bits_Len64_sh bits_Len64_rs o)
structure bits_Len64_J2 (o : bits_Len64_O) (i : HL TB.den bits_Len64_TJ2.hs) : Prop where
  h : bits_Len64_J2d o i
noncomputable def bits_Len64_A3 (o : bits_Len64_O) : An TB := .jn bits_Len64_TJ2 (bits_Len64_J2 o) [] .no [] (.jn bits_Len64_TJ3 (bits_Len64_J3 o) [] .no [] .no)
def bits_Len64_TJ1 : Tm := ⟨[], [], [0, 2], [.one (.d (.int .u64)), .one (.d (.int .i64))], 0⟩
noncomputable def bits_Len64_J1d (o : bits_Len64_O) (i : HL TB.den bits_Len64_TJ1.hs) : Prop := ghs TB [] (bits_Len64_TJ1.fill TB i) fun s => WP TB bits_Len64_cx 25 0 (cB (cB bits_Len64_code)) (bits_Len64_A3 o) s (retTQ TB bits_Len64_cx bits_Len64_sh bits_Len64_rs o)
structure bits_Len64_J1 (o : bits_Len64_O) (i : HL TB.den bits_Len64_TJ1.hs) : Prop where
  h : bits_Len64_J1d o i
noncomputable def bits_Len64_A5 (o : bits_Len64_O) : An TB := .jn bits_Len64_TJ1 (bits_Len64_J1 o) [] .no [] (bits_Len64_A3 o)
noncomputable def bits_Len64_an (o : bits_Len64_O) : An TB := .nd [] .no [] (bits_Len64_A5 o)
noncomputable def bits_Len64_Body (x : bits_Len64_I) (o : bits_Len64_O) : Prop := WPh TB bits_Len64_cx 25 0 bits_Len64_code (bits_Len64_an o) (bits_Len64_sh.st TB x) (retTQ TB bits_Len64_cx bits_Len64_sh bits_Len64_rs o)
set_option maxRecDepth 100000 in
theorem bits_Len64_obl (o : bits_Len64_O) : OblH TB bits_Len64_cx 25 0 bits_Len64_code (bits_Len64_an o) (retTQ TB bits_Len64_cx bits_Len64_sh bits_Len64_rs o) :=
  OblH.of_eq (X := (True ∧ ((True ∧ ((True ∧ True) ∧ True)) ∧ (∀ i, (bits_Len64_J1 o) i = (bits_Len64_J1d o) i) ∧ ((True ∧ ((True ∧ True) ∧ True)) ∧ (∀ i, (bits_Len64_J2 o) i = (bits_Len64_J2d o) i) ∧ ((True ∧ ((True ∧ True) ∧ True)) ∧ (∀ i, (bits_Len64_J3 o) i = (bits_Len64_J3d o) i) ∧ (True ∧ True)))))) (by kernel_rfl) ⟨trivial, ⟨⟨trivial, ⟨⟨trivial, trivial⟩, trivial⟩⟩, fun _ => propext ⟨fun h => h.1, fun h => ⟨h⟩⟩, ⟨⟨trivial, ⟨⟨trivial, trivial⟩, trivial⟩⟩, fun _ => propext ⟨fun h => h.1, fun h => ⟨h⟩⟩, ⟨⟨trivial, ⟨⟨trivial, trivial⟩, trivial⟩⟩, fun _ => propext ⟨fun h => h.1, fun h => ⟨h⟩⟩, ⟨trivial, trivial⟩⟩⟩⟩⟩
set_option maxRecDepth 100000 in
theorem bits_Len64_snd {x : bits_Len64_I} {o : bits_Len64_O} (h : bits_Len64_Body x o) : SoundH Try.prog bits_Len64_sh.f ((bits_Len64_sh.args idf x).map (er TB)) ((bits_Len64_sh.obs idf x).map (erO TB)) (er TB (bits_Len64_sh.val idf o)) ((bits_Len64_sh.ops idf o).map (erO TB)) :=
  Con.soundH (c := bits_Len64_sh) (C := bits_Len64_cx) TBok ⟨inf_ok, all_nil, all_nil⟩ mix Try.func120 (show Try.f120.body = some bits_Len64_code by kernel_rfl) (show Try.f120.ntmps = 25 by kernel_rfl) (show Try.f120.results.toList = bits_Len64_rs by kernel_rfl) rfl h (bits_Len64_obl o)
set_option maxRecDepth 100000 in
theorem bits_Len64_in {p0 : Int} {r0 : Int} (h :
((decide (4294967296 ≤ p0) = true →
 bits_Len64_J1 (r0, ()) ((ishr .u64 p0 32 : Int), (32 : Int), ())) ∧
(decide (4294967296 ≤ p0) = false →
 bits_Len64_J1 (r0, ()) (p0, (0 : Int), ())))) : bits_Len64_Body (p0, ()) (r0, ()) := WPh.of_eq (by kernel_rfl) h
set_option maxRecDepth 100000 in
theorem bits_Len64_J1_in {r0 : Int} {s0 : Int} {s2 : Int} (h :
((decide (65536 ≤ s0) = true →
 bits_Len64_J2 (r0, ()) ((ishr .u64 s0 16 : Int), (IntKind.i64.wrap (s2 + 16) : Int), ())) ∧
(decide (65536 ≤ s0) = false →
 bits_Len64_J2 (r0, ()) (s0, s2, ())))) : bits_Len64_J1 (r0, ()) (s0, s2, ()) := ⟨mpr_of (by kernel_rfl) h⟩
set_option maxRecDepth 100000 in
theorem bits_Len64_J2_in {r0 : Int} {s0 : Int} {s2 : Int} (h :
((decide (256 ≤ s0) = true →
 bits_Len64_J3 (r0, ()) ((ishr .u64 s0 8 : Int), (IntKind.i64.wrap (s2 + 8) : Int), ())) ∧
(decide (256 ≤ s0) = false →
 bits_Len64_J3 (r0, ()) (s0, s2, ())))) : bits_Len64_J2 (r0, ()) (s0, s2, ()) := ⟨mpr_of (by kernel_rfl) h⟩
set_option maxRecDepth 100000 in
theorem bits_Len64_J3_in {r0 : Int} {s0 : Int} {s2 : Int} (h :
((0 ≤ IntKind.u8.wrap s0 ∧ IntKind.u8.wrap s0 < ((⟨#[0, 1, 2, 2, 3, 3, 3, 3, 4, 4, 4, 4, 4, 4, 4, 4, 5, 5, 5, 5, 5, 5, 5, 5, 5, 5, 5, 5, 5, 5, 5, 5, 6, 6, 6, 6, 6, 6, 6, 6, 6, 6, 6, 6, 6, 6, 6, 6, 6, 6, 6, 6, 6, 6, 6, 6, 6, 6, 6, 6, 6, 6, 6, 6, 7, 7, 7, 7, 7, 7, 7, 7, 7, 7, 7, 7, 7, 7, 7, 7, 7, 7, 7, 7, 7, 7, 7, 7, 7, 7, 7, 7, 7, 7, 7, 7, 7, 7, 7, 7, 7, 7, 7, 7, 7, 7, 7, 7, 7, 7, 7, 7, 7, 7, 7, 7, 7, 7, 7, 7, 7, 7, 7, 7, 7, 7, 7, 7, 8, 8, 8, 8, 8, 8, 8, 8, 8, 8, 8, 8, 8, 8, 8, 8, 8, 8, 8, 8, 8, 8, 8, 8, 8, 8, 8, 8, 8, 8, 8, 8, 8, 8, 8, 8, 8, 8, 8, 8, 8, 8, 8, 8, 8, 8, 8, 8, 8, 8, 8, 8, 8, 8, 8, 8, 8, 8, 8, 8, 8, 8, 8, 8, 8, 8, 8, 8, 8, 8, 8, 8, 8, 8, 8, 8, 8, 8, 8, 8, 8, 8, 8, 8, 8, 8, 8, 8, 8, 8, 8, 8, 8, 8, 8, 8, 8, 8, 8, 8, 8, 8, 8, 8, 8, 8, 8, 8, 8, 8, 8, 8, 8, 8, 8, 8, 8, 8, 8, 8, 8, 8, 8, 8, 8, 8, 8, 8]⟩ : ByteArray).size : Int)) ∧ let v1 : Int := byteAt (⟨#[0, 1, 2, 2, 3, 3, 3, 3, 4, 4, 4, 4, 4, 4, 4, 4, 5, 5, 5, 5, 5, 5, 5, 5, 5, 5, 5, 5, 5, 5, 5, 5, 6, 6, 6, 6, 6, 6, 6, 6, 6, 6, 6, 6, 6, 6, 6, 6, 6, 6, 6, 6, 6, 6, 6, 6, 6, 6, 6, 6, 6, 6, 6, 6, 7, 7, 7, 7, 7, 7, 7, 7, 7, 7, 7, 7, 7, 7, 7, 7, 7, 7, 7, 7, 7, 7, 7, 7, 7, 7, 7, 7, 7, 7, 7, 7, 7, 7, 7, 7, 7, 7, 7, 7, 7, 7, 7, 7, 7, 7, 7, 7, 7, 7, 7, 7, 7, 7, 7, 7, 7, 7, 7, 7, 7, 7, 7, 7, 8, 8, 8, 8, 8, 8, 8, 8, 8, 8, 8, 8, 8, 8, 8, 8, 8, 8, 8, 8, 8, 8, 8, 8, 8, 8, 8, 8, 8, 8, 8, 8, 8, 8, 8, 8, 8, 8, 8, 8, 8, 8, 8, 8, 8, 8, 8, 8, 8, 8, 8, 8, 8, 8, 8, 8, 8, 8, 8, 8, 8, 8, 8, 8, 8, 8, 8, 8, 8, 8, 8, 8, 8, 8, 8, 8, 8, 8, 8, 8, 8, 8, 8, 8, 8, 8, 8, 8, 8, 8, 8, 8, 8, 8, 8, 8, 8, 8, 8, 8, 8, 8, 8, 8, 8, 8, 8, 8, 8, 8, 8, 8, 8, 8, 8, 8, 8, 8, 8, 8, 8, 8, 8, 8, 8, 8, 8, 8]⟩ : ByteArray) (IntKind.u8.wrap s0)
 let v2 : Int := IntKind.i64.wrap (s2 + (IntKind.i64.wrap v1))
 v2 = r0)) : bits_Len64_J3 (r0, ()) (s0, s2, ()) := ⟨mpr_of (by kernel_rfl) h⟩
theorem bd120 : Callable Try.prog 120 := ⟨by rw [Try.func120]; kernel_rfl, by rw [Try.func120]; show some _ ≠ some _; decide⟩
theorem bits_Len64_body (p0 : Int) (h : U64 p0) : bits_Len64_Body (p0, ()) ((len64 p0 : Int), ()) := by
  have j3 : ∀ s0 s2 : Int, 0 ≤ s0 → s0 < 256 → 0 ≤ s2 → s2 ≤ 56 → bits_Len64_J3 (s2 + len64 s0, ()) (s0, s2, ()) := fun s0 s2 h0 h1 h2 h3 => by
    refine bits_Len64_J3_in ?_
    have e : IntKind.u8.wrap s0 = s0 := by rw [u8w]; omega
    have l := len64_small s0 ⟨h0, h1⟩
    show (0 ≤ IntKind.u8.wrap s0 ∧ IntKind.u8.wrap s0 < (tab8.size : Int)) ∧ IntKind.i64.wrap (s2 + IntKind.i64.wrap (byteAt tab8 (IntKind.u8.wrap s0))) = _
    rw [e, tab8_size, tab8_len s0 ⟨h0, h1⟩, wi (len64 s0) (by omega) (by omega), wi (s2 + len64 s0) (by omega) (by omega)]
    exact ⟨⟨h0, h1⟩, rfl⟩
  have j2 : ∀ s0 s2 : Int, 0 ≤ s0 → s0 < 65536 → 0 ≤ s2 → s2 ≤ 48 → bits_Len64_J2 (s2 + len64 s0, ()) (s0, s2, ()) := fun s0 s2 h0 h1 h2 h3 => by
    refine bits_Len64_J2_in ⟨fun h => ?_, fun h => j3 s0 s2 h0 (by simpa using h) h2 (by omega)⟩
    have h := of_decide_eq_true h
    rw [ishr8, wi _ (by omega) (by omega), ← len64_shift s0 8 (by simpa using h), ← Int.add_assoc, Int.add_right_comm]
    exact j3 _ _ (by omega) (by omega) (by omega) (by omega)
  have j1 : ∀ s0 s2 : Int, 0 ≤ s0 → s0 < 4294967296 → 0 ≤ s2 → s2 ≤ 32 → bits_Len64_J1 (s2 + len64 s0, ()) (s0, s2, ()) := fun s0 s2 h0 h1 h2 h3 => by
    refine bits_Len64_J1_in ⟨fun h => ?_, fun h => j2 s0 s2 h0 (by simpa using h) h2 (by omega)⟩
    have h := of_decide_eq_true h
    rw [ishr16, wi _ (by omega) (by omega), ← len64_shift s0 16 (by simpa using h), ← Int.add_assoc, Int.add_right_comm]
    exact j2 _ _ (by omega) (by omega) (by omega) (by omega)
  refine bits_Len64_in ⟨fun h1 => ?_, fun h1 => ?_⟩
  · have h1 := of_decide_eq_true h1
    rw [ishr32, ← len64_shift p0 32 (by simpa using h1), Int.add_comm]
    exact j1 _ _ (by omega) (by omega) (by omega) (by omega)
  · have := j1 p0 0 h.1 (by simpa using h1) (by omega) (by omega)
    rwa [Int.zero_add] at this
noncomputable def bits_Len64_con : Con TB.den := bits_Len64_sh.fnR (fun x => (fun (p0 : Int) => U64 p0) x.1) fun x => ((fun (p0 : Int) => (len64 p0 : Int)) x.1, ())
theorem bits_Len64_ok : bits_Len64_con.Ok Try.prog TB := Con.ok_fn bits_Len64_sh bd120 fun x h => bits_Len64_snd (bits_Len64_body x.1 h)
end Go.Proofs.Ytnmakgfmimagmaa
namespace Go.Proofs.Ytnmakgfmimagmaa
open Go Go.Bv Go.Cv Go.Md Go.RowKit
def bits_LeadingZeros64_sh : Con TB.den := Con.mk0 114 [.one (.d (.int .u64))] [] (.one (.one (.d (.int .i64)))) []
abbrev bits_LeadingZeros64_I := HL TB.den (hsT bits_LeadingZeros64_sh.ins (hsOs bits_LeadingZeros64_sh.pre))
abbrev bits_LeadingZeros64_O := HL TB.den (hsV bits_LeadingZeros64_sh.res (hsOs bits_LeadingZeros64_sh.post))
noncomputable def bits_LeadingZeros64_cx : Cx TB := ⟨inf, [bits_Len64_con], [], 4⟩
noncomputable def bits_LeadingZeros64_code : Code := Try.f114.body.getD .skip
noncomputable def bits_LeadingZeros64_rs : List ResultVar := Try.f114.results.toList
noncomputable def bits_LeadingZeros64_an (o : bits_LeadingZeros64_O) : An TB := .no
noncomputable def bits_LeadingZeros64_Body (x : bits_LeadingZeros64_I) (o : bits_LeadingZeros64_O) : Prop := WPh TB bits_LeadingZeros64_cx 6 0 bits_LeadingZeros64_code (bits_LeadingZeros64_an o) (bits_LeadingZeros64_sh.st TB x) (retTQ TB bits_LeadingZeros64_cx bits_LeadingZeros64_sh bits_LeadingZeros64_rs o)
set_option maxRecDepth 100000 in
theorem bits_LeadingZeros64_obl (o : bits_LeadingZeros64_O) : OblH TB bits_LeadingZeros64_cx 6 0 bits_LeadingZeros64_code (bits_LeadingZeros64_an o) (retTQ TB bits_LeadingZeros64_cx bits_LeadingZeros64_sh bits_LeadingZeros64_rs o) :=
  OblH.of_eq (X := (True ∧ (True ∧ True))) (by kernel_rfl) ⟨trivial, ⟨trivial, trivial⟩⟩
set_option maxRecDepth 100000 in
theorem bits_LeadingZeros64_snd {x : bits_LeadingZeros64_I} {o : bits_LeadingZeros64_O} (h : bits_LeadingZeros64_Body x o) : SoundH Try.prog bits_LeadingZeros64_sh.f ((bits_LeadingZeros64_sh.args idf x).map (er TB)) ((bits_LeadingZeros64_sh.obs idf x).map (erO TB)) (er TB (bits_LeadingZeros64_sh.val idf o)) ((bits_LeadingZeros64_sh.ops idf o).map (erO TB)) :=
  Con.soundH (c := bits_LeadingZeros64_sh) (C := bits_LeadingZeros64_cx) TBok ⟨inf_ok, (all_cons bits_Len64_ok all_nil), all_nil⟩ mix Try.func114 (show Try.f114.body = some bits_LeadingZeros64_code by kernel_rfl) (show Try.f114.ntmps = 6 by kernel_rfl) (show Try.f114.results.toList = bits_LeadingZeros64_rs by kernel_rfl) rfl h (bits_LeadingZeros64_obl o)
set_option maxRecDepth 100000 in
theorem bits_LeadingZeros64_in {p0 : Int} {r0 : Int} (h :
((U64 p0) ∧ IntKind.i64.wrap (64 - (len64 p0)) = r0)) : bits_LeadingZeros64_Body (p0, ()) (r0, ()) := WPh.of_eq (by kernel_rfl) h
theorem bd114 : Callable Try.prog 114 := ⟨by rw [Try.func114]; kernel_rfl, by rw [Try.func114]; show some _ ≠ some _; decide⟩
theorem bits_LeadingZeros64_body (p0 : Int) (h : 0 < p0 ∧ p0 < 18446744073709551616) : bits_LeadingZeros64_Body (p0, ()) ((64 - len64 p0 : Int), ()) := by
  obtain ⟨s, e, h1, _⟩ := len64_spec p0 h
  refine bits_LeadingZeros64_in ⟨⟨by omega, h.2⟩, ?_⟩
  exact wi _ (by omega) (by omega)
noncomputable def bits_LeadingZeros64_con : Con TB.den := bits_LeadingZeros64_sh.fnR (fun x => (fun (p0 : Int) => 0 < p0 ∧ p0 < 18446744073709551616) x.1) fun x => ((fun (p0 : Int) => (64 - len64 p0 : Int)) x.1, ())
theorem bits_LeadingZeros64_ok : bits_LeadingZeros64_con.Ok Try.prog TB := Con.ok_fn bits_LeadingZeros64_sh bd114 fun x h => bits_LeadingZeros64_snd (bits_LeadingZeros64_body x.1 h)
end Go.Proofs.Ytnmakgfmimagmaa
namespace Go.Proofs.Ytnmakgfmimagmaa
open Go Go.Bv Go.Cv Go.Md Go.RowKit
def bits_Div64_sh : Con TB.den := Con.mk0 102 [.one (.d (.int .u64)), .one (.d (.int .u64)), .one (.d (.int .u64))] [] (.tup [.one (.d (.int .u64)), .one (.d (.int .u64))]) []
abbrev bits_Div64_I := HL TB.den (hsT bits_Div64_sh.ins (hsOs bits_Div64_sh.pre))
abbrev bits_Div64_O := HL TB.den (hsV bits_Div64_sh.res (hsOs bits_Div64_sh.post))
noncomputable def bits_Div64_cx : Cx TB := ⟨inf, [bits_LeadingZeros64_con], [], 4⟩
noncomputable def bits_Div64_code : Code := Try.f102.body.getD .skip
noncomputable def bits_Div64_rs : List ResultVar := Try.f102.results.toList
def bits_Div64_TJ4 : Tm := ⟨[], [], [2, 8, 14, 15, 17, 18], [.one (.d (.int .u64)), .one (.d (.int .u64)), .one (.d (.int .u64)), .one (.d (.int .u64)), .one (.d (.int .u64)), .one (.d (.int .u64))], 0⟩
noncomputable def bits_Div64_J4d (o : bits_Div64_O) (i : HL TB.den bits_Div64_TJ4.hs) : Prop := ghs TB [] (bits_Div64_TJ4.fill TB i) fun s => WP TB bits_Div64_cx 135 0 (cB (cB (cB (cB (cB (cB (cB (cB (cB (cB (cB (cB (cB (cB (cB (cB (cB (cB (cB bits_Div64_code))))))))))))))))))) .no s (retTQ TB bits_Div64_cx bits_Div64_sh bits_Div64_rs o)
structure bits_Div64_J4 (o : bits_Div64_O) (i : HL TB.den bits_Div64_TJ4.hs) : Prop where
  h : bits_Div64_J4d o i
noncomputable def bits_Div64_Q1 (o : bits_Div64_O) : Exit → TSt TB.den → Prop := thenT TB (fun s => bits_Div64_TJ4.mat TB 0 s (bits_Div64_J4 o)) (retTQ TB bits_Div64_cx bits_Div64_sh bits_Div64_rs o)
def bits_Div64_T2 : Tm := ⟨[], [], [2, 8, 9, 10, 14, 15, 16, 17, 18], [.one (.d (.int .u64)), .one (.d (.int .u64)), .one (.d (.int .u64)), .one (.d (.int .u64)), .one (.d (.int .u64)), .one (.d (.int .u64)), .one (.d (.int .u64)), .one (.d (.int .u64)), .one (.d (.int .u64))], 0⟩
noncomputable def bits_Div64_Q2 (o : bits_Div64_O) (nx2 : HL TB.den bits_Div64_T2.hs → Prop) : Exit → TSt TB.den → Prop := thenT TB (fun s => bits_Div64_T2.mat TB 0 s nx2) (blockT TB 2 (bits_Div64_Q1 o))
def bits_Div64_TJ3 : Tm := ⟨[], [], [2, 8, 9, 10, 14, 15, 16, 17, 18], [.one (.d (.int .u64)), .one (.d (.int .u64)), .one (.d (.int .u64)), .one (.d (.int .u64)), .one (.d (.int .u64)), .one (.d (.int .u64)), .one (.d (.int .u64)), .one (.d (.int .u64)), .one (.d (.int .u64))], 0⟩
noncomputable def bits_Div64_J3d (o : bits_Div64_O) (nx2 : HL TB.den bits_Div64_T2.hs → Prop) (i : HL TB.den bits_Div64_TJ3.hs) : Prop := ghs TB [] (bits_Div64_TJ3.fill TB i) fun s => WP TB bits_Div64_cx 135 0 (cB (cA (cA (cA (cB (cB (cB (cB (cB (cB (cB (cB (cB (cB (cB (cB (cB (cB (cB (cB (cB (cB bits_Div64_code)))))))))))))))))))))) .no s (bits_Div64_Q2 o nx2)
structure bits_Div64_J3 (o : bits_Div64_O) (nx2 : HL TB.den bits_Div64_T2.hs → Prop) (i : HL TB.den bits_Div64_TJ3.hs) : Prop where
  h : bits_Div64_J3d o nx2 i
noncomputable def bits_Div64_L2 (o : bits_Div64_O) (nx2 : HL TB.den bits_Div64_T2.hs → Prop) (i : HL TB.den bits_Div64_T2.hs) : Prop := WP TB bits_Div64_cx 135 0 (cA (cA (cA (cB (cB (cB (cB (cB (cB (cB (cB (cB (cB (cB (cB (cB (cB (cB (cB (cB (cB bits_Div64_code))))))))))))))))))))) (.jn bits_Div64_TJ3 (bits_Div64_J3 o nx2) [] .no [] .no) (bits_Div64_T2.fill TB i) (bits_Div64_Q2 o nx2)
noncomputable def bits_Div64_A4 (o : bits_Div64_O) : An TB := .lp [] bits_Div64_T2 (bits_Div64_L2 o) fun nx2 => (.jn bits_Div64_TJ3 (bits_Div64_J3 o nx2) [] .no [] .no)
noncomputable def bits_Div64_A5 (o : bits_Div64_O) : An TB := .jn bits_Div64_TJ4 (bits_Div64_J4 o) [] (bits_Div64_A4 o) [] .no
noncomputable def bits_Div64_A6 (o : bits_Div64_O) : An TB := .nd [] .no [] (.nd [] .no [] (.nd [] .no [] (bits_Div64_A5 o)))
def bits_Div64_TJ2 : Tm := ⟨[], [], [2, 8, 9, 10, 11, 13, 14, 15], [.one (.d (.int .u64)), .one (.d (.int .u64)), .one (.d (.int .u64)), .one (.d (.int .u64)), .one (.d (.int .u64)), .one (.d (.int .u64)), .one (.d (.int .u64)), .one (.d (.int .u64))], 0⟩
noncomputable def bits_Div64_J2d (o : bits_Div64_O) (i : HL TB.den bits_Div64_TJ2.hs) : Prop := ghs TB [] (bits_Div64_TJ2.fill TB i) fun s => WP TB bits_Div64_cx 135 0 (cB (cB (cB (cB (cB (cB (cB (cB (cB (cB (cB (cB (cB (cB (cB bits_Div64_code))))))))))))))) (bits_Div64_A6 o) s (retTQ TB bits_Div64_cx bits_Div64_sh bits_Div64_rs o)
structure bits_Div64_J2 (o : bits_Div64_O) (i : HL TB.den bits_Div64_TJ2.hs) : Prop where
  h : bits_Div64_J2d o i
noncomputable def bits_Div64_Q7 (o : bits_Div64_O) : Exit → TSt TB.den → Prop := thenT TB (fun s => bits_Div64_TJ2.mat TB 0 s (bits_Div64_J2 o)) (retTQ TB bits_Div64_cx bits_Div64_sh bits_Div64_rs o)
def bits_Div64_T1 : Tm := ⟨[], [], [2, 8, 9, 10, 11, 13, 14, 15, 16], [.one (.d (.int .u64)), .one (.d (.int .u64)), .one (.d (.int .u64)), .one (.d (.int .u64)), .one (.d (.int .u64)), .one (.d (.int .u64)), .one (.d (.int .u64)), .one (.d (.int .u64)), .one (.d (.int .u64))], 0⟩
noncomputable def bits_Div64_Q8 (o : bits_Div64_O) (nx1 : HL TB.den bits_Div64_T1.hs → Prop) : Exit → TSt TB.den → Prop := thenT TB (fun s => bits_Div64_T1.mat TB 0 s nx1) (blockT TB 0 (bits_Div64_Q7 o))
def bits_Div64_TJ1 : Tm := ⟨[], [], [2, 8, 9, 10, 11, 13, 14, 15, 16], [.one (.d (.int .u64)), .one (.d (.int .u64)), .one (.d (.int .u64)), .one (.d (.int .u64)), .one (.d (.int .u64)), .one (.d (.int .u64)), .one (.d (.int .u64)), .one (.d (.int .u64)), .one (.d (.int .u64))], 0⟩
noncomputable def bits_Div64_J1d (o : bits_Div64_O) (nx1 : HL TB.den bits_Div64_T1.hs → Prop) (i : HL TB.den bits_Div64_TJ1.hs) : Prop := ghs TB [] (bits_Div64_TJ1.fill TB i) fun s => WP TB bits_Div64_cx 135 0 (cB (cA (cA (cA (cB (cB (cB (cB (cB (cB (cB (cB (cB (cB (cB (cB (cB (cB bits_Div64_code)))))))))))))))))) .no s (bits_Div64_Q8 o nx1)
structure bits_Div64_J1 (o : bits_Div64_O) (nx1 : HL TB.den bits_Div64_T1.hs → Prop) (i : HL TB.den bits_Div64_TJ1.hs) : Prop where
  h : bits_Div64_J1d o nx1 i
noncomputable def bits_Div64_L1 (o : bits_Div64_O) (nx1 : HL TB.den bits_Div64_T1.hs → Prop) (i : HL TB.den bits_Div64_T1.hs) : Prop := WP TB bits_Div64_cx 135 0 (cA (cA (cA (cB (cB (cB (cB (cB (cB (cB (cB (cB (cB (cB (cB (cB (cB bits_Div64_code))))))))))))))))) (.jn bits_Div64_TJ1 (bits_Div64_J1 o nx1) [] .no [] .no) (bits_Div64_T1.fill TB i) (bits_Div64_Q8 o nx1)
noncomputable def bits_Div64_A10 (o : bits_Div64_O) : An TB := .lp [] bits_Div64_T1 (bits_Div64_L1 o) fun nx1 => (.jn bits_Div64_TJ1 (bits_Div64_J1 o nx1) [] .no [] .no)
noncomputable def bits_Div64_A11 (o : bits_Div64_O) : An TB := .jn bits_Div64_TJ2 (bits_Div64_J2 o) [] (bits_Div64_A10 o) [] (bits_Div64_A6 o)
noncomputable def bits_Div64_A12 (o : bits_Div64_O) : An TB := .nd [] .no [] (.nd [] .no [] (.nd [] .no [] (bits_Div64_A11 o)))
noncomputable def bits_Div64_A13 (o : bits_Div64_O) : An TB := .nd [] .no [] (.nd [] .no [] (.nd [] .no [] (bits_Div64_A12 o)))
noncomputable def bits_Div64_A14 (o : bits_Div64_O) : An TB := .nd [] .no [] (.nd [] .no [] (.nd [] .no [] (bits_Div64_A13 o)))
noncomputable def bits_Div64_A17 (o : bits_Div64_O) : An TB := .nd [] .no [] (.nd [] .no [] (.nd [] .no [] (bits_Div64_A14 o)))
noncomputable def bits_Div64_an (o : bits_Div64_O) : An TB := .nd [] .no [] (.nd [] .no [] (bits_Div64_A17 o))
noncomputable def bits_Div64_Body (x : bits_Div64_I) (o : bits_Div64_O) : Prop := WPh TB bits_Div64_cx 135 0 bits_Div64_code (bits_Div64_an o) (bits_Div64_sh.st TB x) (retTQ TB bits_Div64_cx bits_Div64_sh bits_Div64_rs o)
set_option maxRecDepth 100000 in
theorem bits_Div64_obl (o : bits_Div64_O) : OblH TB bits_Div64_cx 135 0 bits_Div64_code (bits_Div64_an o) (retTQ TB bits_Div64_cx bits_Div64_sh bits_Div64_rs o) :=
  OblH.of_eq (X := (True ∧ ((True ∧ (True ∧ True)) ∧ ((True ∧ (True ∧ True)) ∧ ((True ∧ ((True ∧ True) ∧ True)) ∧ (True ∧ (True ∧ (True ∧ (True ∧ (True ∧ (True ∧ (True ∧ (True ∧ (True ∧ (True ∧ (((∀ nx i, (bits_Div64_L1 o) nx i = (bits_Div64_L1 o) nx i) ∧ ∀ nx1 : HL TB.den bits_Div64_T1.hs → Prop, ((True ∧ (True ∧ True)) ∧ (∀ i, (bits_Div64_J1 o nx1) i = (bits_Div64_J1d o nx1) i) ∧ (True ∧ (True ∧ (True ∧ (True ∧ True)))))) ∧ (∀ i, (bits_Div64_J2 o) i = (bits_Div64_J2d o) i) ∧ (True ∧ (True ∧ (True ∧ (((∀ nx i, (bits_Div64_L2 o) nx i = (bits_Div64_L2 o) nx i) ∧ ∀ nx2 : HL TB.den bits_Div64_T2.hs → Prop, ((True ∧ (True ∧ True)) ∧ (∀ i, (bits_Div64_J3 o nx2) i = (bits_Div64_J3d o nx2) i) ∧ (True ∧ (True ∧ (True ∧ (True ∧ True)))))) ∧ (∀ i, (bits_Div64_J4 o) i = (bits_Div64_J4d o) i) ∧ (True ∧ True))))))))))))))))))))) (by kernel_rfl) ⟨trivial, ⟨⟨trivial, ⟨trivial, trivial⟩⟩, ⟨⟨trivial, ⟨trivial, trivial⟩⟩, ⟨⟨trivial, ⟨⟨trivial, trivial⟩, trivial⟩⟩, ⟨trivial, ⟨trivial, ⟨trivial, ⟨trivial, ⟨trivial, ⟨trivial, ⟨trivial, ⟨trivial, ⟨trivial, ⟨trivial, ⟨⟨fun _ _ => rfl, fun _ => ⟨⟨trivial, ⟨trivial, trivial⟩⟩, fun _ => propext ⟨fun h => h.1, fun h => ⟨h⟩⟩, ⟨trivial, ⟨trivial, ⟨trivial, ⟨trivial, trivial⟩⟩⟩⟩⟩⟩, fun _ => propext ⟨fun h => h.1, fun h => ⟨h⟩⟩, ⟨trivial, ⟨trivial, ⟨trivial, ⟨⟨fun _ _ => rfl, fun _ => ⟨⟨trivial, ⟨trivial, trivial⟩⟩, fun _ => propext ⟨fun h => h.1, fun h => ⟨h⟩⟩, ⟨trivial, ⟨trivial, ⟨trivial, ⟨trivial, trivial⟩⟩⟩⟩⟩⟩, fun _ => propext ⟨fun h => h.1, fun h => ⟨h⟩⟩, ⟨trivial, trivial⟩⟩⟩⟩⟩⟩⟩⟩⟩⟩⟩⟩⟩⟩⟩⟩⟩⟩⟩⟩
set_option maxRecDepth 100000 in
theorem bits_Div64_snd {x : bits_Div64_I} {o : bits_Div64_O} (h : bits_Div64_Body x o) : SoundH Try.prog bits_Div64_sh.f ((bits_Div64_sh.args idf x).map (er TB)) ((bits_Div64_sh.obs idf x).map (erO TB)) (er TB (bits_Div64_sh.val idf o)) ((bits_Div64_sh.ops idf o).map (erO TB)) :=
  Con.soundH (c := bits_Div64_sh) (C := bits_Div64_cx) TBok ⟨inf_ok, (all_cons bits_LeadingZeros64_ok all_nil), all_nil⟩ mix Try.func102 (show Try.f102.body = some bits_Div64_code by kernel_rfl) (show Try.f102.ntmps = 135 by kernel_rfl) (show Try.f102.results.toList = bits_Div64_rs by kernel_rfl) rfl h (bits_Div64_obl o)
set_option maxRecDepth 100000 in
theorem bits_Div64_in {p0 : Int} {p1 : Int} {p2 : Int} {r0 : Int} {r1 : Int} (h :
(((p2 == 0) = true →
 False) ∧
((p2 == 0) = false →
(decide (p2 ≤ p0) = true →
 False) ∧
(decide (p2 ≤ p0) = false →
((p0 == 0) = true →
(p2 ≠ 0) ∧ (p2 ≠ 0) ∧ IntKind.u64.wrap (Int.tdiv p1 p2) = r0 ∧ Int.tmod p1 p2 = r1) ∧
((p0 == 0) = false →
(0 < p2 ∧ p2 < 18446744073709551616) ∧ (0 ≤ IntKind.u64.wrap (64 - len64 p2)) ∧ let v2 : Int := ishl .u64 p2 (IntKind.u64.wrap (64 - len64 p2))
(0 ≤ IntKind.u64.wrap (64 - len64 p2)) ∧ let v3 : Int := ishl .u64 p0 (IntKind.u64.wrap (64 - len64 p2))
 let v4 : Int := IntKind.u64.wrap (64 - (IntKind.u64.wrap (64 - len64 p2)))
(0 ≤ v4) ∧ (0 ≤ IntKind.u64.wrap (64 - len64 p2)) ∧ let v5 : Int := ishl .u64 p1 (IntKind.u64.wrap (64 - len64 p2))
(ishr .u64 v2 32 ≠ 0) ∧ let v6 : Int := IntKind.u64.wrap (Int.tdiv (ior .u64 v3 (ishr .u64 p1 v4)) (ishr .u64 v2 32))
 let v7 : Int := IntKind.u64.wrap (v6 * (ishr .u64 v2 32))
 let v8 : Int := IntKind.u64.wrap ((ior .u64 v3 (ishr .u64 p1 v4)) - v7)
 Md.Loop (v2, (IntKind.u64.wrap (64 - len64 p2) : Int), (ishr .u64 v2 32 : Int), (iand .u64 v2 4294967295 : Int), (ior .u64 v3 (ishr .u64 p1 v4) : Int), (ishr .u64 v5 32 : Int), (iand .u64 v5 4294967295 : Int), v6, v8, ()) (bits_Div64_L1 (r0, r1, ()))))))) : bits_Div64_Body (p0, p1, p2, ()) (r0, r1, ()) := WPh.of_eq (by kernel_rfl) h
set_option maxRecDepth 100000 in
theorem bits_Div64_J1_in {r0 : Int} {r1 : Int} {nx1 : HL TB.den bits_Div64_T1.hs → Prop} {s2 : Int} {s8 : Int} {s9 : Int} {s10 : Int} {s11 : Int} {s13 : Int} {s14 : Int} {s15 : Int} {s16 : Int} (h :
(let v11 : Bool := decide (4294967296 ≤ (IntKind.u64.wrap (s16 + s9)))
(v11 = true →
 bits_Div64_J2 (r0, r1, ()) (s2, s8, s9, s10, s11, s13, s14, (IntKind.u64.wrap (s15 - 1) : Int), ())) ∧
(v11 = false →
 nx1 (s2, s8, s9, s10, s11, s13, s14, (IntKind.u64.wrap (s15 - 1) : Int), (IntKind.u64.wrap (s16 + s9) : Int), ())))) : bits_Div64_J1 (r0, r1, ()) nx1 (s2, s8, s9, s10, s11, s13, s14, s15, s16, ()) := ⟨mpr_of (by kernel_rfl) h⟩
set_option maxRecDepth 100000 in
theorem bits_Div64_J2_in {r0 : Int} {r1 : Int} {s2 : Int} {s8 : Int} {s9 : Int} {s10 : Int} {s11 : Int} {s13 : Int} {s14 : Int} {s15 : Int} (h :
(let v12 : Int := IntKind.u64.wrap ((IntKind.u64.wrap (s11 * 4294967296)) + s13)
 let v13 : Int := IntKind.u64.wrap (v12 - (IntKind.u64.wrap (s15 * s2)))
(s9 ≠ 0) ∧ let v14 : Int := IntKind.u64.wrap ((IntKind.u64.wrap (Int.tdiv v13 s9)) * s9)
 Md.Loop (s2, s8, s9, s10, s14, s15, (IntKind.u64.wrap (v13 - v14) : Int), v13, (IntKind.u64.wrap (Int.tdiv v13 s9) : Int), ()) (bits_Div64_L2 (r0, r1, ())))) : bits_Div64_J2 (r0, r1, ()) (s2, s8, s9, s10, s11, s13, s14, s15, ()) := ⟨mpr_of (by kernel_rfl) h⟩
set_option maxRecDepth 100000 in
theorem bits_Div64_J3_in {r0 : Int} {r1 : Int} {nx2 : HL TB.den bits_Div64_T2.hs → Prop} {s2 : Int} {s8 : Int} {s9 : Int} {s10 : Int} {s14 : Int} {s15 : Int} {s16 : Int} {s17 : Int} {s18 : Int} (h :
(let v17 : Bool := decide (4294967296 ≤ (IntKind.u64.wrap (s16 + s9)))
(v17 = true →
 bits_Div64_J4 (r0, r1, ()) (s2, s8, s14, s15, s17, (IntKind.u64.wrap (s18 - 1) : Int), ())) ∧
(v17 = false →
 nx2 (s2, s8, s9, s10, s14, s15, (IntKind.u64.wrap (s16 + s9) : Int), s17, (IntKind.u64.wrap (s18 - 1) : Int), ())))) : bits_Div64_J3 (r0, r1, ()) nx2 (s2, s8, s9, s10, s14, s15, s16, s17, s18, ()) := ⟨mpr_of (by kernel_rfl) h⟩
set_option maxRecDepth 100000 in
theorem bits_Div64_J4_in {r0 : Int} {r1 : Int} {s2 : Int} {s8 : Int} {s14 : Int} {s15 : Int} {s17 : Int} {s18 : Int} (h :
(let v18 : Int := IntKind.u64.wrap ((IntKind.u64.wrap (s15 * 4294967296)) + s18)
 let v19 : Int := IntKind.u64.wrap ((IntKind.u64.wrap (s17 * 4294967296)) + s14)
 let v20 : Int := IntKind.u64.wrap (v19 - (IntKind.u64.wrap (s18 * s2)))
(0 ≤ s8) ∧ v18 = r0 ∧ ishr .u64 v20 s8 = r1)) : bits_Div64_J4 (r0, r1, ()) (s2, s8, s14, s15, s17, s18, ()) := ⟨mpr_of (by kernel_rfl) h⟩
def bits_Div64_B1 (r0 : Int) (r1 : Int) (nx1 : HL TB.den bits_Div64_T1.hs → Prop) (k1 : Int → Int → Prop) (s2 : Int) (s8 : Int) (s9 : Int) (s10 : Int) (s11 : Int) (s13 : Int) (s14 : Int) (s15 : Int) (s16 : Int) : Prop :=
(decide (4294967296 ≤ s15) = true →
 bits_Div64_J1 (r0, r1, ()) nx1 (s2, s8, s9, s10, s11, s13, s14, s15, s16, ())) ∧
(decide (4294967296 ≤ s15) = false →
 let v9 : Int := IntKind.u64.wrap ((IntKind.u64.wrap (4294967296 * s16)) + s13)
 let v10 : Bool := decide (v9 < (IntKind.u64.wrap (s15 * s10)))
(v10 = true →
 bits_Div64_J1 (r0, r1, ()) nx1 (s2, s8, s9, s10, s11, s13, s14, s15, s16, ())) ∧
(v10 = false →
 bits_Div64_J2 (r0, r1, ()) (s2, s8, s9, s10, s11, s13, s14, s15, ())))
set_option maxRecDepth 100000 in
theorem bits_Div64_lp1 {r0 : Int} {r1 : Int} {s2 : Int} {s8 : Int} {s9 : Int} {s10 : Int} {s11 : Int} {s13 : Int} {s14 : Int} {s15 : Int} {s16 : Int} (inv : Int → Int → Prop) (μ : Int → Int → Nat) (h0 : inv s15 s16) (hs : ∀ (s15 : Int) (s16 : Int), inv s15 s16 → bits_Div64_B1 r0 r1 (fun s : Int × Int × Int × Int × Int × Int × Int × Int × Int × Unit => ((s.1 = s2 ∧ s.2.1 = s8 ∧ s.2.2.1 = s9 ∧ s.2.2.2.1 = s10 ∧ s.2.2.2.2.1 = s11 ∧ s.2.2.2.2.2.1 = s13 ∧ s.2.2.2.2.2.2.1 = s14) ∧ inv s.2.2.2.2.2.2.2.1 s.2.2.2.2.2.2.2.2.1) ∧ μ s.2.2.2.2.2.2.2.1 s.2.2.2.2.2.2.2.2.1 < μ s15 s16) (fun s15q s16q => inv s15q s16q ∧ μ s15q s16q < μ s15 s16) s2 s8 s9 s10 s11 s13 s14 s15 s16) : Md.Loop (s2, s8, s9, s10, s11, s13, s14, s15, s16, ()) (bits_Div64_L1 (r0, r1, ())) :=
  ⟨⟨fun s : Int × Int × Int × Int × Int × Int × Int × Int × Int × Unit => (s.1 = s2 ∧ s.2.1 = s8 ∧ s.2.2.1 = s9 ∧ s.2.2.2.1 = s10 ∧ s.2.2.2.2.1 = s11 ∧ s.2.2.2.2.2.1 = s13 ∧ s.2.2.2.2.2.2.1 = s14) ∧ inv s.2.2.2.2.2.2.2.1 s.2.2.2.2.2.2.2.2.1, fun s : Int × Int × Int × Int × Int × Int × Int × Int × Int × Unit => μ s.2.2.2.2.2.2.2.1 s.2.2.2.2.2.2.2.2.1, ⟨⟨rfl, rfl, rfl, rfl, rfl, rfl, rfl⟩, h0⟩, fun (s2p, s8p, s9p, s10p, s11p, s13p, s14p, s15p, s16p, ()) ⟨⟨eq0, eq1, eq2, eq3, eq4, eq5, eq6⟩, hi⟩ => by
    have eq0 : s2p = s2 := eq0; subst s2p; have eq1 : s8p = s8 := eq1; subst s8p; have eq2 : s9p = s9 := eq2; subst s9p; have eq3 : s10p = s10 := eq3; subst s10p; have eq4 : s11p = s11 := eq4; subst s11p; have eq5 : s13p = s13 := eq5; subst s13p; have eq6 : s14p = s14 := eq6; subst s14p; exact mpr_of (by kernel_rfl) ((congrArg (fun k => bits_Div64_B1 r0 r1 (fun s : Int × Int × Int × Int × Int × Int × Int × Int × Int × Unit => ((s.1 = s2 ∧ s.2.1 = s8 ∧ s.2.2.1 = s9 ∧ s.2.2.2.1 = s10 ∧ s.2.2.2.2.1 = s11 ∧ s.2.2.2.2.2.1 = s13 ∧ s.2.2.2.2.2.2.1 = s14) ∧ inv s.2.2.2.2.2.2.2.1 s.2.2.2.2.2.2.2.2.1) ∧ μ s.2.2.2.2.2.2.2.1 s.2.2.2.2.2.2.2.2.1 < μ s15p s16p) k s2 s8 s9 s10 s11 s13 s14 s15p s16p) (lpk2 (⟨rfl, rfl, rfl, rfl, rfl, rfl, rfl⟩ : s2 = s2 ∧ s8 = s8 ∧ s9 = s9 ∧ s10 = s10 ∧ s11 = s11 ∧ s13 = s13 ∧ s14 = s14) inv (fun s15q s16q => μ s15q s16q < μ s15p s16p))).mpr (hs s15p s16p hi))⟩⟩
def bits_Div64_B2 (r0 : Int) (r1 : Int) (nx2 : HL TB.den bits_Div64_T2.hs → Prop) (k2 : Int → Int → Prop) (s2 : Int) (s8 : Int) (s9 : Int) (s10 : Int) (s14 : Int) (s15 : Int) (s17 : Int) (s16 : Int) (s18 : Int) : Prop :=
(decide (4294967296 ≤ s18) = true →
 bits_Div64_J3 (r0, r1, ()) nx2 (s2, s8, s9, s10, s14, s15, s16, s17, s18, ())) ∧
(decide (4294967296 ≤ s18) = false →
 let v15 : Int := IntKind.u64.wrap ((IntKind.u64.wrap (4294967296 * s16)) + s14)
 let v16 : Bool := decide (v15 < (IntKind.u64.wrap (s18 * s10)))
(v16 = true →
 bits_Div64_J3 (r0, r1, ()) nx2 (s2, s8, s9, s10, s14, s15, s16, s17, s18, ())) ∧
(v16 = false →
 bits_Div64_J4 (r0, r1, ()) (s2, s8, s14, s15, s17, s18, ())))
set_option maxRecDepth 100000 in
theorem bits_Div64_lp2 {r0 : Int} {r1 : Int} {s2 : Int} {s8 : Int} {s9 : Int} {s10 : Int} {s14 : Int} {s15 : Int} {s17 : Int} {s16 : Int} {s18 : Int} (inv : Int → Int → Prop) (μ : Int → Int → Nat) (h0 : inv s16 s18) (hs : ∀ (s16 : Int) (s18 : Int), inv s16 s18 → bits_Div64_B2 r0 r1 (fun s : Int × Int × Int × Int × Int × Int × Int × Int × Int × Unit => ((s.1 = s2 ∧ s.2.1 = s8 ∧ s.2.2.1 = s9 ∧ s.2.2.2.1 = s10 ∧ s.2.2.2.2.1 = s14 ∧ s.2.2.2.2.2.1 = s15 ∧ s.2.2.2.2.2.2.2.1 = s17) ∧ inv s.2.2.2.2.2.2.1 s.2.2.2.2.2.2.2.2.1) ∧ μ s.2.2.2.2.2.2.1 s.2.2.2.2.2.2.2.2.1 < μ s16 s18) (fun s16q s18q => inv s16q s18q ∧ μ s16q s18q < μ s16 s18) s2 s8 s9 s10 s14 s15 s17 s16 s18) : Md.Loop (s2, s8, s9, s10, s14, s15, s16, s17, s18, ()) (bits_Div64_L2 (r0, r1, ())) :=
  ⟨⟨fun s : Int × Int × Int × Int × Int × Int × Int × Int × Int × Unit => (s.1 = s2 ∧ s.2.1 = s8 ∧ s.2.2.1 = s9 ∧ s.2.2.2.1 = s10 ∧ s.2.2.2.2.1 = s14 ∧ s.2.2.2.2.2.1 = s15 ∧ s.2.2.2.2.2.2.2.1 = s17) ∧ inv s.2.2.2.2.2.2.1 s.2.2.2.2.2.2.2.2.1, fun s : Int × Int × Int × Int × Int × Int × Int × Int × Int × Unit => μ s.2.2.2.2.2.2.1 s.2.2.2.2.2.2.2.2.1, ⟨⟨rfl, rfl, rfl, rfl, rfl, rfl, rfl⟩, h0⟩, fun (s2p, s8p, s9p, s10p, s14p, s15p, s16p, s17p, s18p, ()) ⟨⟨eq0, eq1, eq2, eq3, eq4, eq5, eq6⟩, hi⟩ => by
    have eq0 : s2p = s2 := eq0; subst s2p; have eq1 : s8p = s8 := eq1; subst s8p; have eq2 : s9p = s9 := eq2; subst s9p; have eq3 : s10p = s10 := eq3; subst s10p; have eq4 : s14p = s14 := eq4; subst s14p; have eq5 : s15p = s15 := eq5; subst s15p; have eq6 : s17p = s17 := eq6; subst s17p; exact mpr_of (by kernel_rfl) ((congrArg (fun k => bits_Div64_B2 r0 r1 (fun s : Int × Int × Int × Int × Int × Int × Int × Int × Int × Unit => ((s.1 = s2 ∧ s.2.1 = s8 ∧ s.2.2.1 = s9 ∧ s.2.2.2.1 = s10 ∧ s.2.2.2.2.1 = s14 ∧ s.2.2.2.2.2.1 = s15 ∧ s.2.2.2.2.2.2.2.1 = s17) ∧ inv s.2.2.2.2.2.2.1 s.2.2.2.2.2.2.2.2.1) ∧ μ s.2.2.2.2.2.2.1 s.2.2.2.2.2.2.2.2.1 < μ s16p s18p) k s2 s8 s9 s10 s14 s15 s17 s16p s18p) (lpk2 (⟨rfl, rfl, rfl, rfl, rfl, rfl, rfl⟩ : s2 = s2 ∧ s8 = s8 ∧ s9 = s9 ∧ s10 = s10 ∧ s14 = s14 ∧ s15 = s15 ∧ s17 = s17) inv (fun s16q s18q => μ s16q s18q < μ s16p s18p))).mpr (hs s16p s18p hi))⟩⟩
theorem bd102 : Callable Try.prog 102 := ⟨by rw [Try.func102]; kernel_rfl, by rw [Try.func102]; show some _ ≠ some _; decide⟩
theorem bits_Div64_body (p0 : Int) (p1 : Int) (p2 : Int) (h : U64 p0 ∧ U64 p1 ∧ U64 p2 ∧ p0 < p2) : bits_Div64_Body (p0, p1, p2, ()) (((p0 * 18446744073709551616 + p1) / p2 : Int), ((p0 * 18446744073709551616 + p1) % p2 : Int), ()) := by
  obtain ⟨h0, h1, h2, hlt⟩ := h
  refine bits_Div64_in ⟨fun e => ?_, fun _ => ⟨fun e => ?_, fun _ => ⟨fun e => ?_, fun _ => ?_⟩⟩⟩
  · simp at e; omega
  · simp at e; omega
  · have e : p0 = 0 := by simpa using e
    subst e
    rw [tdiv_nn _ _ h1.1, tmod_nn _ _ h1.1, Int.zero_mul, Int.zero_add]
    have := Int.ediv_le_self p2 h1.1
    have := Int.ediv_nonneg h1.1 h2.1
    exact ⟨by omega, by omega, wu _ (by omega) (by have := Int.ediv_le_self p2 h1.1; omega), rfl⟩
  obtain ⟨s, e, hs, n1, n2⟩ := len64_spec p2 ⟨by omega, h2.2⟩
  have ew : IntKind.u64.wrap (64 - len64 p2) = (s : Int) := by rw [e, wu _ (by omega) (by omega)]
  have ew3 : IntKind.u64.wrap (64 - (s : Int)) = ((64 - s : Nat) : Int) := by rw [wu _ (by omega) (by omega)]; omega
  have hp : 0 < 2 ^ s := Nat.two_pow_pos s
  have hp' : 0 < 2 ^ (64 - s) := Nat.two_pow_pos _
  have hpp : 2 ^ s * 2 ^ (64 - s) = 18446744073709551616 := by rw [← Nat.pow_add, show s + (64 - s) = 64 by omega]
  have hP : ((2 ^ s : Nat) : Int) * ((2 ^ (64 - s) : Nat) : Int) = 18446744073709551616 := by rw [← Int.natCast_mul, hpp]; rfl
  have il : ∀ a : Int, ishl .u64 a (s : Int) = a * ((2 ^ s : Nat) : Int) % 18446744073709551616 := fun a => by rw [ishl_u64, Int.toNat_natCast, Nat.min_eq_left (by omega)]
  have ir : ∀ a : Int, ishr .u64 a (s : Int) = a / ((2 ^ s : Nat) : Int) := fun a => by rw [ishr_def, Int.toNat_natCast, show min s IntKind.u64.bits = s from Nat.min_eq_left (by show s ≤ 64; omega)]
  have ir' : ∀ a : Int, ishr .u64 a ((64 - s : Nat) : Int) = a / ((2 ^ (64 - s) : Nat) : Int) := fun a => by rw [ishr_def, Int.toNat_natCast, show min (64 - s) IntKind.u64.bits = 64 - s from Nat.min_eq_left (by show 64 - s ≤ 64; omega)]
  have hor : ∀ c : Int, 0 ≤ c → c < ((2 ^ s : Nat) : Int) → p0 * ((2 ^ s : Nat) : Int) + c < 18446744073709551616 → ior .u64 (p0 * ((2 ^ s : Nat) : Int)) c = p0 * ((2 ^ s : Nat) : Int) + c := by
    intro c hc0 hc1 hc2
    obtain ⟨a, rfl⟩ := Int.eq_ofNat_of_zero_le h0.1
    obtain ⟨c, rfl⟩ := Int.eq_ofNat_of_zero_le hc0
    have key := ior_add' c a s (by omega)
    rw [Int.mul_comm, ← Int.natCast_mul] at hc2 ⊢
    rw [key (by omega)]
    omega
  simp only [ew, ew3, il, ir', ishr32]
  have hP'0 : (0 : Int) < ((2 ^ (64 - s) : Nat) : Int) := by omega
  generalize hPd : ((2 ^ s : Nat) : Int) = P at *
  generalize hPd' : ((2 ^ (64 - s) : Nat) : Int) = P' at *
  have hP0 : 0 < P := by omega
  have hlo : p1 / P' < P := Int.ediv_lt_of_lt_mul hP'0 (by omega)
  have hlo0 : 0 ≤ p1 / P' := Int.ediv_nonneg h1.1 (by omega)
  have hUv : p0 * P + P ≤ p2 * P := by
    have : (p0 + 1) * P ≤ p2 * P := Int.mul_le_mul_of_nonneg_right (by omega) (by omega)
    grind
  have hUp : 0 ≤ p0 * P := Int.mul_nonneg h0.1 (by omega)
  rw [Int.emod_eq_of_lt (a := p2 * P) (by omega) n2, Int.emod_eq_of_lt (a := p0 * P) hUp (by omega), hor _ hlo0 hlo (by omega)]
  have hN : (p0 * 18446744073709551616 + p1) * P = (p0 * P + p1 / P') * 18446744073709551616 + (p1 * P % 18446744073709551616 / 4294967296) * 4294967296 + p1 * P % 18446744073709551616 % 4294967296 := by
    have h5 : p1 * P / 18446744073709551616 = p1 / P' := by
      rw [← hP, Int.mul_comm p1 P, Int.mul_ediv_mul_of_pos _ _ hP0]
    have h6 := Int.emod_add_mul_ediv (p1 * P) 18446744073709551616
    rw [h5] at h6
    have : (p0 * 18446744073709551616 + p1) * P = p0 * P * 18446744073709551616 + p1 * P := by grind
    rw [this]
    generalize p1 * P = w at *
    generalize p0 * P = w' at *
    omega
  have hlb : 0 ≤ p1 * P % 18446744073709551616 ∧ p1 * P % 18446744073709551616 < 18446744073709551616 := ⟨Int.emod_nonneg _ (by omega), Int.emod_lt_of_pos _ (by omega)⟩
  generalize hUd : p0 * P + p1 / P' = U at *
  generalize hLd : p1 * P % 18446744073709551616 = L at *
  have hVd : p2 * P / 4294967296 * 4294967296 + p2 * P % 4294967296 = p2 * P := by omega
  have hw : ∀ {Q R V' : Int} , R - Q = V' → 0 ≤ V' → V' < 18446744073709551616 → ∀ A, R = A * 4294967296 + (R - A * 4294967296) → IntKind.u64.wrap (IntKind.u64.wrap (IntKind.u64.wrap (A * 4294967296) + (R - A * 4294967296)) - IntKind.u64.wrap Q) = V' := by
    intro Q R V' hv h0 h1 A hA
    simp only [u64w]
    omega
  rw [iand_mask32 (p2 * P) (by omega), iand_mask32 L (by omega)]
  generalize ha : p2 * P / 4294967296 = a at *
  generalize hb : p2 * P % 4294967296 = b at *
  have hQ1 : Half U (L / 4294967296) a b ((U * 4294967296 + L / 4294967296) / (a * 4294967296 + b)) := ⟨by omega, by omega, by omega, by omega, by omega, rfl⟩
  have hr1 := hQ1.rest
  have hq1 := hQ1.q
  generalize (U * 4294967296 + L / 4294967296) / (a * 4294967296 + b) = Q1 at *
  generalize (U * 4294967296 + L / 4294967296) % (a * 4294967296 + b) = R1 at *
  have hQ0 : Half R1 (L % 4294967296) a b ((R1 * 4294967296 + L % 4294967296) / (a * 4294967296 + b)) := ⟨by omega, by omega, by omega, by omega, by omega, rfl⟩
  have hr0 := hQ0.rest
  have hq0 := hQ0.q
  generalize (R1 * 4294967296 + L % 4294967296) / (a * 4294967296 + b) = Q0 at *
  generalize (R1 * 4294967296 + L % 4294967296) % (a * 4294967296 + b) = R0 at *
  rw [hVd] at hr1 hr0 hq1 hq0
  have fin := two_halves hP0 (by omega : 0 < p2) hN hr1.1 hr0.1 ⟨hr0.2.1, hr0.2.2⟩
  have j4 : bits_Div64_J4 (((p0 * 18446744073709551616 + p1) / p2 : Int), ((p0 * 18446744073709551616 + p1) % p2 : Int), ()) ((p2 * P : Int), (s : Int), (L % 4294967296 : Int), Q1, R1, Q0, ()) := by
    refine bits_Div64_J4_in ⟨by omega, ?_, ?_⟩
    · rw [wu (Q1 * 4294967296) (by omega) (by omega), wu _ (by omega) (by omega)]
      exact fin.1
    · have := hw (Q := Q0 * (p2 * P)) (R := R1 * 4294967296 + L % 4294967296) hr0.1 hr0.2.1 (by omega) R1 (by omega)
      rw [show R1 * 4294967296 + L % 4294967296 - R1 * 4294967296 = L % 4294967296 by omega] at this
      rw [this, ir]
      exact fin.2
  have aux : ∀ {U x Q q r : Int}, Half U x a b Q → U < 18446744073709551616 → q * a + r = U → Q ≤ q → 0 ≤ r → q ≤ 8589934592 := by
    intro U x Q q r hh hU e hQ hr
    have h1 := hh.ha
    refine Int.le_of_lt_add_one (Int.lt_of_mul_lt_mul_right (a := a) ?_ (by omega))
    generalize q * a = w at *
    omega
  have init : ∀ {U x Q : Int}, Half U x a b Q → Q ≤ U / a := by
    intro U x Q hh
    have h1 := hh.ha
    have h2 := hh.q
    have h3 := hh.hb
    have h4 := hh.hx
    refine (Int.le_ediv_iff_mul_le (by omega)).2 ?_
    have h5 : Q * (a * 4294967296 + b) = Q * a * 4294967296 + Q * b := by grind
    have h6 : 0 ≤ Q * b := Int.mul_nonneg h2.1 h3.1
    generalize Q * a = w at *
    omega
  have j2 : bits_Div64_J2 (((p0 * 18446744073709551616 + p1) / p2 : Int), ((p0 * 18446744073709551616 + p1) % p2 : Int), ()) ((p2 * P : Int), (s : Int), a, b, U, (L / 4294967296 : Int), (L % 4294967296 : Int), Q1, ()) := by
    have e1 := hw (Q := Q1 * (p2 * P)) (R := U * 4294967296 + L / 4294967296) hr1.1 hr1.2.1 (by omega) U (by omega)
    rw [show U * 4294967296 + L / 4294967296 - U * 4294967296 = L / 4294967296 by omega] at e1
    refine bits_Div64_J2_in ?_
    simp only [e1]
    have hd := Int.emod_add_mul_ediv R1 a
    have hd1 := Int.emod_nonneg R1 (by omega : a ≠ 0)
    have hd2 := Int.emod_lt_of_pos R1 (by omega : 0 < a)
    have hd3 : 0 ≤ R1 / a := Int.ediv_nonneg hr1.2.1 (by omega)
    rw [Int.mul_comm] at hd
    have hd5 : 0 ≤ R1 / a * a := Int.mul_nonneg hd3 (by omega)
    have hd4 := aux hQ0 (by omega) (q := R1 / a) (r := R1 % a) (by omega) (init hQ0) hd1
    rw [tdiv_nn _ _ hr1.2.1, wu (R1 / a) (by omega) (by omega), wu (R1 / a * a) (by omega) (by omega), show R1 - R1 / a * a = R1 % a by omega, wu (R1 % a) (by omega) (by omega)]
    refine ⟨by omega, ?_⟩
    refine bits_Div64_lp2 (fun r q => q * a + r = R1 ∧ Q0 ≤ q ∧ 0 ≤ r ∧ r < 4294967296) (fun r q => q.toNat) ⟨by omega, init hQ0, hd1, by omega⟩ ?_
    rintro r q ⟨g1, g2, g3, g4⟩
    have g5 := aux hQ0 (by omega) g1 g2 g3
    have j3 : ∀ nx, (Q0 ≤ q - 1) → (r + a < 4294967296 → nx ((p2 * P : Int), (s : Int), a, b, (L % 4294967296 : Int), Q1, (r + a : Int), R1, (q - 1 : Int), ())) → bits_Div64_J3 (((p0 * 18446744073709551616 + p1) / p2 : Int), ((p0 * 18446744073709551616 + p1) % p2 : Int), ()) nx ((p2 * P : Int), (s : Int), a, b, (L % 4294967296 : Int), Q1, r, R1, q, ()) := by
      intro nx hq hnx
      refine bits_Div64_J3_in ?_
      rw [wu (q - 1) (by omega) (by omega), wu (r + a) (by omega) (by omega)]
      refine ⟨fun hd => ?_, fun hd => hnx (by simpa using hd)⟩
      have hd : 4294967296 ≤ r + a := of_decide_eq_true hd
      rw [hQ0.done (q := q - 1) (r := r + a) (by grind) hq hd]
      exact j4
    have nxt : Q0 ≤ q - 1 → r + a < 4294967296 → ((q - 1) * a + (r + a) = R1 ∧ Q0 ≤ q - 1 ∧ 0 ≤ r + a ∧ r + a < 4294967296) ∧ (q - 1).toNat < q.toNat := fun h1 h2 => ⟨⟨by grind, h1, by omega, h2⟩, by omega⟩
    refine ⟨fun hd => j3 _ (hQ0.down g1 (.inl (of_decide_eq_true hd))) fun h1 => ?_, fun hd => ?_⟩
    · obtain ⟨n1, n2⟩ := nxt (hQ0.down g1 (.inl (of_decide_eq_true hd))) h1
      exact ⟨⟨⟨rfl, rfl, rfl, rfl, rfl, rfl, rfl⟩, n1⟩, n2⟩
    · have hd : q < 4294967296 := by simpa using hd
      have hqb : 0 ≤ q * b ∧ q * b < 18446744073709551616 := by
        have := hQ0.hb
        have h1 : q * b ≤ 4294967295 * 4294967295 := Int.mul_le_mul (by omega) (by omega) (by omega) (by omega)
        exact ⟨Int.mul_nonneg (by omega) (by omega), by omega⟩
      have := hQ0.hx
      rw [wu (q * b) (by omega) (by omega), wu (4294967296 * r) (by omega) (by omega), wu (4294967296 * r + L % 4294967296) (by omega) (by omega)]
      refine ⟨fun ht => ?_, fun ht => ?_⟩
      · have ht : 4294967296 * r + L % 4294967296 < q * b := of_decide_eq_true ht
        have hdn := hQ0.down g1 (.inr (by omega))
        refine j3 _ hdn fun h1 => ?_
        obtain ⟨n1, n2⟩ := nxt hdn h1
        exact ⟨⟨⟨rfl, rfl, rfl, rfl, rfl, rfl, rfl⟩, n1⟩, n2⟩
      · have ht : ¬ (4294967296 * r + L % 4294967296 < q * b) := of_decide_eq_false ht
        rw [hQ0.exit g1 g2 (by omega)]
        exact j4
  have hd := Int.emod_add_mul_ediv U a
  have hd1 := Int.emod_nonneg U (by omega : a ≠ 0)
  have hd2 := Int.emod_lt_of_pos U (by omega : 0 < a)
  have hd3 : 0 ≤ U / a := Int.ediv_nonneg (by omega) (by omega)
  rw [Int.mul_comm] at hd
  have hd5 : 0 ≤ U / a * a := Int.mul_nonneg hd3 (by omega)
  have hd4 := aux hQ1 (by omega) (q := U / a) (r := U % a) (by omega) (init hQ1) hd1
  rw [tdiv_nn _ _ (by omega), wu (U / a) (by omega) (by omega), wu (U / a * a) (by omega) (by omega), show U - U / a * a = U % a by omega, wu (U % a) (by omega) (by omega)]
  refine ⟨⟨by omega, h2.2⟩, by omega, by omega, by omega, by omega, by omega, ?_⟩
  refine bits_Div64_lp1 (fun q r => q * a + r = U ∧ Q1 ≤ q ∧ 0 ≤ r ∧ r < 4294967296) (fun q r => q.toNat) ⟨by omega, init hQ1, hd1, by omega⟩ ?_
  rintro q r ⟨g1, g2, g3, g4⟩
  have g5 := aux hQ1 (by omega) g1 g2 g3
  have j1 : ∀ nx, (Q1 ≤ q - 1) → (r + a < 4294967296 → nx ((p2 * P : Int), (s : Int), a, b, U, (L / 4294967296 : Int), (L % 4294967296 : Int), (q - 1 : Int), (r + a : Int), ())) → bits_Div64_J1 (((p0 * 18446744073709551616 + p1) / p2 : Int), ((p0 * 18446744073709551616 + p1) % p2 : Int), ()) nx ((p2 * P : Int), (s : Int), a, b, U, (L / 4294967296 : Int), (L % 4294967296 : Int), q, r, ()) := by
    intro nx hq hnx
    refine bits_Div64_J1_in ?_
    rw [wu (q - 1) (by omega) (by omega), wu (r + a) (by omega) (by omega)]
    refine ⟨fun hd => ?_, fun hd => hnx (by simpa using hd)⟩
    have hd : 4294967296 ≤ r + a := of_decide_eq_true hd
    rw [hQ1.done (q := q - 1) (r := r + a) (by grind) hq hd]
    exact j2
  have nxt : Q1 ≤ q - 1 → r + a < 4294967296 → ((q - 1) * a + (r + a) = U ∧ Q1 ≤ q - 1 ∧ 0 ≤ r + a ∧ r + a < 4294967296) ∧ (q - 1).toNat < q.toNat := fun h1 h2 => ⟨⟨by grind, h1, by omega, h2⟩, by omega⟩
  refine ⟨fun hd => j1 _ (hQ1.down g1 (.inl (of_decide_eq_true hd))) fun h1 => ?_, fun hd => ?_⟩
  · obtain ⟨n1, n2⟩ := nxt (hQ1.down g1 (.inl (of_decide_eq_true hd))) h1
    exact ⟨⟨⟨rfl, rfl, rfl, rfl, rfl, rfl, rfl⟩, n1⟩, n2⟩
  · have hd : q < 4294967296 := by simpa using hd
    have hqb : 0 ≤ q * b ∧ q * b < 18446744073709551616 := by
      have := hQ1.hb
      have h1 : q * b ≤ 4294967295 * 4294967295 := Int.mul_le_mul (by omega) (by omega) (by omega) (by omega)
      exact ⟨Int.mul_nonneg (by omega) (by omega), by omega⟩
    have := hQ1.hx
    rw [wu (q * b) (by omega) (by omega), wu (4294967296 * r) (by omega) (by omega), wu (4294967296 * r + L / 4294967296) (by omega) (by omega)]
    refine ⟨fun ht => ?_, fun ht => ?_⟩
    · have ht : 4294967296 * r + L / 4294967296 < q * b := of_decide_eq_true ht
      have hdn := hQ1.down g1 (.inr (by omega))
      refine j1 _ hdn fun h1 => ?_
      obtain ⟨n1, n2⟩ := nxt hdn h1
      exact ⟨⟨⟨rfl, rfl, rfl, rfl, rfl, rfl, rfl⟩, n1⟩, n2⟩
    · have ht : ¬ (4294967296 * r + L / 4294967296 < q * b) := of_decide_eq_false ht
      rw [hQ1.exit g1 g2 (by omega)]
      exact j2
noncomputable def bits_Div64_con : Con TB.den := bits_Div64_sh.fnR (fun x => (fun (p0 : Int) (p1 : Int) (p2 : Int) => U64 p0 ∧ U64 p1 ∧ U64 p2 ∧ p0 < p2) x.1 x.2.1 x.2.2.1) fun x => ((fun (p0 : Int) (p1 : Int) (p2 : Int) => ((p0 * 18446744073709551616 + p1) / p2 : Int)) x.1 x.2.1 x.2.2.1, (fun (p0 : Int) (p1 : Int) (p2 : Int) => ((p0 * 18446744073709551616 + p1) % p2 : Int)) x.1 x.2.1 x.2.2.1, ())
theorem bits_Div64_ok : bits_Div64_con.Ok Try.prog TB := Con.ok_fn bits_Div64_sh bd102 fun x h => bits_Div64_snd (bits_Div64_body x.1 x.2.1 x.2.2.1 h)
end Go.Proofs.Ytnmakgfmimagmaa
namespace Go.Proofs.Ytnmakgfmimagmaa
open Go Go.Bv Go.Cv Go.Md Go.RowKit
def bits_Mul64_sh : Con TB.den := Con.mk0 101 [.one (.d (.int .u64)), .one (.d (.int .u64))] [] (.tup [.one (.d (.int .u64)), .one (.d (.int .u64))]) []
abbrev bits_Mul64_I := HL TB.den (hsT bits_Mul64_sh.ins (hsOs bits_Mul64_sh.pre))
abbrev bits_Mul64_O := HL TB.den (hsV bits_Mul64_sh.res (hsOs bits_Mul64_sh.post))
noncomputable def bits_Mul64_cx : Cx TB := ⟨inf, [], [], 4⟩
noncomputable def bits_Mul64_code : Code := Try.f101.body.getD .skip
noncomputable def bits_Mul64_rs : List ResultVar := Try.f101.results.toList
noncomputable def bits_Mul64_an (o : bits_Mul64_O) : An TB := .no
noncomputable def bits_Mul64_Body (x : bits_Mul64_I) (o : bits_Mul64_O) : Prop := WPh TB bits_Mul64_cx 51 0 bits_Mul64_code (bits_Mul64_an o) (bits_Mul64_sh.st TB x) (retTQ TB bits_Mul64_cx bits_Mul64_sh bits_Mul64_rs o)
set_option maxRecDepth 100000 in
theorem bits_Mul64_obl (o : bits_Mul64_O) : OblH TB bits_Mul64_cx 51 0 bits_Mul64_code (bits_Mul64_an o) (retTQ TB bits_Mul64_cx bits_Mul64_sh bits_Mul64_rs o) :=
  OblH.of_eq (X := (True ∧ (True ∧ (True ∧ (True ∧ (True ∧ (True ∧ (True ∧ (True ∧ (True ∧ (True ∧ (True ∧ (True ∧ True))))))))))))) (by kernel_rfl) ⟨trivial, ⟨trivial, ⟨trivial, ⟨trivial, ⟨trivial, ⟨trivial, ⟨trivial, ⟨trivial, ⟨trivial, ⟨trivial, ⟨trivial, ⟨trivial, trivial⟩⟩⟩⟩⟩⟩⟩⟩⟩⟩⟩⟩
set_option maxRecDepth 100000 in
theorem bits_Mul64_snd {x : bits_Mul64_I} {o : bits_Mul64_O} (h : bits_Mul64_Body x o) : SoundH Try.prog bits_Mul64_sh.f ((bits_Mul64_sh.args idf x).map (er TB)) ((bits_Mul64_sh.obs idf x).map (erO TB)) (er TB (bits_Mul64_sh.val idf o)) ((bits_Mul64_sh.ops idf o).map (erO TB)) :=
  Con.soundH (c := bits_Mul64_sh) (C := bits_Mul64_cx) TBok ⟨inf_ok, all_nil, all_nil⟩ mix Try.func101 (show Try.f101.body = some bits_Mul64_code by kernel_rfl) (show Try.f101.ntmps = 51 by kernel_rfl) (show Try.f101.results.toList = bits_Mul64_rs by kernel_rfl) rfl h (bits_Mul64_obl o)
set_option maxRecDepth 100000 in
theorem bits_Mul64_in {p0 : Int} {p1 : Int} {r0 : Int} {r1 : Int} (h :
(let v2 : Int := IntKind.u64.wrap ((iand .u64 p0 4294967295) * (iand .u64 p1 4294967295))
 let v3 : Int := IntKind.u64.wrap ((ishr .u64 p0 32) * (iand .u64 p1 4294967295))
 let v4 : Int := IntKind.u64.wrap (v3 + (ishr .u64 v2 32))
 let v5 : Int := IntKind.u64.wrap ((iand .u64 p0 4294967295) * (ishr .u64 p1 32))
 let v6 : Int := IntKind.u64.wrap ((iand .u64 v4 4294967295) + v5)
 let v7 : Int := IntKind.u64.wrap ((ishr .u64 p0 32) * (ishr .u64 p1 32))
 let v8 : Int := IntKind.u64.wrap (v7 + (ishr .u64 v4 32))
 let v9 : Int := IntKind.u64.wrap (v8 + (ishr .u64 v6 32))
 v9 = r0 ∧ IntKind.u64.wrap (p0 * p1) = r1)) : bits_Mul64_Body (p0, p1, ()) (r0, r1, ()) := WPh.of_eq (by kernel_rfl) h
theorem bd101 : Callable Try.prog 101 := ⟨by rw [Try.func101]; kernel_rfl, by rw [Try.func101]; show some _ ≠ some _; decide⟩
theorem bits_Mul64_body (p0 : Int) (p1 : Int) (h : U64 p0 ∧ U64 p1) : bits_Mul64_Body (p0, p1, ()) ((p0 * p1 / 18446744073709551616 : Int), (p0 * p1 % 18446744073709551616 : Int), ()) := by
  obtain ⟨h0, h1⟩ := h
  have k := mul64_hi p0 p1 h0 h1
  refine bits_Mul64_in ?_
  simp only [iand_mask32 p0 h0, iand_mask32 p1 h1, ishr32]
  obtain ⟨e, k1, k2, k3, k4, k5, k6, k7, k8⟩ := k
  rw [← e]
  rw [wu (p0 % 4294967296 * (p1 % 4294967296)) (by omega) (by omega), wu (p0 / 4294967296 * (p1 % 4294967296)) (by omega) (by omega), wu (p0 % 4294967296 * (p1 / 4294967296)) (by omega) (by omega), wu (p0 / 4294967296 * (p1 / 4294967296)) (by omega) (by omega)]
  generalize p0 % 4294967296 * (p1 % 4294967296) = a at *
  generalize p0 / 4294967296 * (p1 % 4294967296) = b at *
  generalize p0 % 4294967296 * (p1 / 4294967296) = c at *
  generalize p0 / 4294967296 * (p1 / 4294967296) = d at *
  rw [wu (b + a / 4294967296) (by omega) (by omega), iand_mask32 _ (by omega)]
  simp only [u64w]
  refine ⟨?_, trivial⟩
  omega
noncomputable def bits_Mul64_con : Con TB.den := bits_Mul64_sh.fnR (fun x => (fun (p0 : Int) (p1 : Int) => U64 p0 ∧ U64 p1) x.1 x.2.1) fun x => ((fun (p0 : Int) (p1 : Int) => (p0 * p1 / 18446744073709551616 : Int)) x.1 x.2.1, (fun (p0 : Int) (p1 : Int) => (p0 * p1 % 18446744073709551616 : Int)) x.1 x.2.1, ())
theorem bits_Mul64_ok : bits_Mul64_con.Ok Try.prog TB := Con.ok_fn bits_Mul64_sh bd101 fun x h => bits_Mul64_snd (bits_Mul64_body x.1 x.2.1 h)
end Go.Proofs.Ytnmakgfmimagmaa
namespace Go.Proofs.Ytnmakgfmimagmaa
open Go Go.Bv Go.Cv Go.Md Go.RowKit
def Field_mul_sh : Con TB.den := Con.mk0 109 [.agg [.d (.int .u64)], .one (.d (.int .u64)), .one (.d (.int .u64))] [] (.one (.one (.d (.int .u64)))) []
abbrev Field_mul_I := HL TB.den (hsT Field_mul_sh.ins (hsOs Field_mul_sh.pre))
abbrev Field_mul_O := HL TB.den (hsV Field_mul_sh.res (hsOs Field_mul_sh.post))
noncomputable def Field_mul_cx : Cx TB := ⟨inf, [bits_Mul64_con, bits_Div64_con], [], 4⟩
noncomputable def Field_mul_code : Code := Try.f109.body.getD .skip
noncomputable def Field_mul_rs : List ResultVar := Try.f109.results.toList
noncomputable def Field_mul_an (o : Field_mul_O) : An TB := .no
noncomputable def Field_mul_Body (x : Field_mul_I) (o : Field_mul_O) : Prop := WPh TB Field_mul_cx 26 0 Field_mul_code (Field_mul_an o) (Field_mul_sh.st TB x) (retTQ TB Field_mul_cx Field_mul_sh Field_mul_rs o)
set_option maxRecDepth 100000 in
theorem Field_mul_obl (o : Field_mul_O) : OblH TB Field_mul_cx 26 0 Field_mul_code (Field_mul_an o) (retTQ TB Field_mul_cx Field_mul_sh Field_mul_rs o) :=
  OblH.of_eq (X := (True ∧ (True ∧ (True ∧ (True ∧ True))))) (by kernel_rfl) ⟨trivial, ⟨trivial, ⟨trivial, ⟨trivial, trivial⟩⟩⟩⟩
set_option maxRecDepth 100000 in
theorem Field_mul_snd {x : Field_mul_I} {o : Field_mul_O} (h : Field_mul_Body x o) : SoundH Try.prog Field_mul_sh.f ((Field_mul_sh.args idf x).map (er TB)) ((Field_mul_sh.obs idf x).map (erO TB)) (er TB (Field_mul_sh.val idf o)) ((Field_mul_sh.ops idf o).map (erO TB)) :=
  Con.soundH (c := Field_mul_sh) (C := Field_mul_cx) TBok ⟨inf_ok, (all_cons bits_Mul64_ok (all_cons bits_Div64_ok all_nil)), all_nil⟩ mix Try.func109 (show Try.f109.body = some Field_mul_code by kernel_rfl) (show Try.f109.ntmps = 26 by kernel_rfl) (show Try.f109.results.toList = Field_mul_rs by kernel_rfl) rfl h (Field_mul_obl o)
set_option maxRecDepth 100000 in
theorem Field_mul_in {p0 : TField} {p1 : Int} {p2 : Int} {r0 : Int} (h :
((U64 p1 ∧ U64 p2) ∧ (U64 (p1 * p2 / 18446744073709551616) ∧ U64 (p1 * p2 % 18446744073709551616) ∧ U64 p0.P ∧ (p1 * p2 / 18446744073709551616) < p0.P) ∧ let r1 : Int := ((p1 * p2 / 18446744073709551616) * 18446744073709551616 + (p1 * p2 % 18446744073709551616)) / p0.P
 let r2 : Int := ((p1 * p2 / 18446744073709551616) * 18446744073709551616 + (p1 * p2 % 18446744073709551616)) % p0.P
 r2 = r0)) : Field_mul_Body (p0.P, p1, p2, ()) (r0, ()) := WPh.of_eq (by kernel_rfl) h
theorem bd109 : Callable Try.prog 109 := ⟨by rw [Try.func109]; kernel_rfl, by rw [Try.func109]; show some _ ≠ some _; decide⟩
theorem Field_mul_body (p0 : TField) (p1 : Int) (p2 : Int) (h : p0.P = 18446744069414584321 ∧ (0 ≤ p1 ∧ p1 < 18446744069414584321) ∧ (0 ≤ p2 ∧ p2 < 18446744069414584321)) : Field_mul_Body (p0.P, p1, p2, ()) ((p1 * p2 % 18446744069414584321 : Int), ()) := by
  obtain ⟨hP, h1, h2⟩ := h
  have h3 : 0 ≤ p1 * p2 := Int.mul_nonneg h1.1 h2.1
  have h4 : p1 * p2 ≤ 18446744069414584320 * 18446744069414584320 := Int.mul_le_mul (by omega) (by omega) h2.1 (by omega)
  refine Field_mul_in ⟨⟨by omega, by omega⟩, ?_⟩
  simp only [hP]
  generalize p1 * p2 = m at *
  refine ⟨⟨⟨by omega, by omega⟩, ⟨by omega, by omega⟩, by omega, by omega⟩, ?_⟩
  rw [show m / 18446744073709551616 * 18446744073709551616 + m % 18446744073709551616 = m by omega]
noncomputable def Field_mul_con : Con TB.den := Field_mul_sh.fnR (fun x => (fun (p0 : TField) (p1 : Int) (p2 : Int) => p0.P = 18446744069414584321 ∧ (0 ≤ p1 ∧ p1 < 18446744069414584321) ∧ (0 ≤ p2 ∧ p2 < 18446744069414584321)) (TField.mk x.1) x.2.1 x.2.2.1) fun x => ((fun (p0 : TField) (p1 : Int) (p2 : Int) => (p1 * p2 % 18446744069414584321 : Int)) (TField.mk x.1) x.2.1 x.2.2.1, ())
theorem Field_mul_ok : Field_mul_con.Ok Try.prog TB := Con.ok_fn Field_mul_sh bd109 fun x h => Field_mul_snd (Field_mul_body (TField.mk x.1) x.2.1 x.2.2.1 h)
end Go.Proofs.Ytnmakgfmimagmaa
namespace Go.Proofs.Ytnmakgfmimagmaa
open Go Go.Bv Go.Cv Go.Md Go.RowKit
def Field_Mul_sh : Con TB.den := Con.mk0 99 [.agg [.d (.int .u64)], .one (.d (.int .u64)), .one (.d (.int .u64))] [] (.one (.one (.d (.int .u64)))) []
abbrev Field_Mul_I := HL TB.den (hsT Field_Mul_sh.ins (hsOs Field_Mul_sh.pre))
abbrev Field_Mul_O := HL TB.den (hsV Field_Mul_sh.res (hsOs Field_Mul_sh.post))
noncomputable def Field_Mul_cx : Cx TB := ⟨inf, [Field_Valid_con, Field_reduced_con, Field_mul_con], [], 4⟩
noncomputable def Field_Mul_code : Code := Try.f99.body.getD .skip
noncomputable def Field_Mul_rs : List ResultVar := Try.f99.results.toList
noncomputable def Field_Mul_an (o : Field_Mul_O) : An TB := .no
noncomputable def Field_Mul_Body (x : Field_Mul_I) (o : Field_Mul_O) : Prop := WPh TB Field_Mul_cx 18 0 Field_Mul_code (Field_Mul_an o) (Field_Mul_sh.st TB x) (retTQ TB Field_Mul_cx Field_Mul_sh Field_Mul_rs o)
set_option maxRecDepth 100000 in
theorem Field_Mul_obl (o : Field_Mul_O) : OblH TB Field_Mul_cx 18 0 Field_Mul_code (Field_Mul_an o) (retTQ TB Field_Mul_cx Field_Mul_sh Field_Mul_rs o) :=
  OblH.of_eq (X := (True ∧ ((True ∧ ((True ∧ True) ∧ True)) ∧ (True ∧ True)))) (by kernel_rfl) ⟨trivial, ⟨⟨trivial, ⟨⟨trivial, trivial⟩, trivial⟩⟩, ⟨trivial, trivial⟩⟩⟩
set_option maxRecDepth 100000 in
theorem Field_Mul_snd {x : Field_Mul_I} {o : Field_Mul_O} (h : Field_Mul_Body x o) : SoundH Try.prog Field_Mul_sh.f ((Field_Mul_sh.args idf x).map (er TB)) ((Field_Mul_sh.obs idf x).map (erO TB)) (er TB (Field_Mul_sh.val idf o)) ((Field_Mul_sh.ops idf o).map (erO TB)) :=
  Con.soundH (c := Field_Mul_sh) (C := Field_Mul_cx) TBok ⟨inf_ok, (all_cons Field_Valid_ok (all_cons Field_reduced_ok (all_cons Field_mul_ok all_nil))), all_nil⟩ mix Try.func99 (show Try.f99.body = some Field_Mul_code by kernel_rfl) (show Try.f99.ntmps = 18 by kernel_rfl) (show Try.f99.results.toList = Field_Mul_rs by kernel_rfl) rfl h (Field_Mul_obl o)
set_option maxRecDepth 100000 in
theorem Field_Mul_in {p0 : TField} {p1 : Int} {p2 : Int} {r0 : Int} (h :
((p0.P = 18446744069414584321) ∧ ((!true) = true →
 0 = r0) ∧
((!true) = false →
(0 < p0.P ∧ 0 ≤ p1) ∧ (0 < p0.P ∧ 0 ≤ p2) ∧ (p0.P = 18446744069414584321 ∧ (0 ≤ (p1 % p0.P) ∧ (p1 % p0.P) < 18446744069414584321) ∧ (0 ≤ (p2 % p0.P) ∧ (p2 % p0.P) < 18446744069414584321)) ∧ let r1 : Int := (p1 % p0.P) * (p2 % p0.P) % 18446744069414584321
 r1 = r0))) : Field_Mul_Body (p0.P, p1, p2, ()) (r0, ()) := WPh.of_eq (by kernel_rfl) h
theorem bd99 : Callable Try.prog 99 := ⟨by rw [Try.func99]; kernel_rfl, by rw [Try.func99]; show some _ ≠ some _; decide⟩
theorem Field_Mul_body (p0 : TField) (p1 : Int) (p2 : Int) (h : p0.P = 18446744069414584321 ∧ U64 p1 ∧ U64 p2) : Field_Mul_Body (p0.P, p1, p2, ()) ((p1 * p2 % 18446744069414584321 : Int), ()) := by
  obtain ⟨hP, h1, h2⟩ := h
  refine Field_Mul_in ⟨hP, ?_⟩
  simp only [hP]
  refine ⟨fun h => by simp at h, fun _ => ⟨by omega, by omega, ⟨by trivial, by omega, by omega⟩, ?_⟩⟩
  exact (Int.mul_emod _ _ _).symm
noncomputable def Field_Mul_con : Con TB.den := Field_Mul_sh.fnR (fun x => (fun (p0 : TField) (p1 : Int) (p2 : Int) => p0.P = 18446744069414584321 ∧ U64 p1 ∧ U64 p2) (TField.mk x.1) x.2.1 x.2.2.1) fun x => ((fun (p0 : TField) (p1 : Int) (p2 : Int) => (p1 * p2 % 18446744069414584321 : Int)) (TField.mk x.1) x.2.1 x.2.2.1, ())
theorem Field_Mul_ok : Field_Mul_con.Ok Try.prog TB := Con.ok_fn Field_Mul_sh bd99 fun x h => Field_Mul_snd (Field_Mul_body (TField.mk x.1) x.2.1 x.2.2.1 h)
end Go.Proofs.Ytnmakgfmimagmaa
namespace Go.Proofs.Ytnmakgfmimagmaa
open Go Go.Bv Go.Cv Go.Md Go.RowKit
def Field_numbers_sh : Con TB.den := Con.mk0 117 [.agg [.d (.int .u64)]] [] (.tup [.one (.d (.int .u64)), .one (.d (.int .i64)), .one (.d (.int .u64))]) []
abbrev Field_numbers_I := HL TB.den (hsT Field_numbers_sh.ins (hsOs Field_numbers_sh.pre))
abbrev Field_numbers_O := HL TB.den (hsV Field_numbers_sh.res (hsOs Field_numbers_sh.post))
noncomputable def Field_numbers_cx : Cx TB := ⟨inf, [], [], 4⟩
noncomputable def Field_numbers_code : Code := Try.f117.body.getD .skip
noncomputable def Field_numbers_rs : List ResultVar := Try.f117.results.toList
noncomputable def Field_numbers_an (o : Field_numbers_O) : An TB := .no
noncomputable def Field_numbers_Body (x : Field_numbers_I) (o : Field_numbers_O) : Prop := WPh TB Field_numbers_cx 21 0 Field_numbers_code (Field_numbers_an o) (Field_numbers_sh.st TB x) (retTQ TB Field_numbers_cx Field_numbers_sh Field_numbers_rs o)
set_option maxRecDepth 100000 in
theorem Field_numbers_obl (o : Field_numbers_O) : OblH TB Field_numbers_cx 21 0 Field_numbers_code (Field_numbers_an o) (retTQ TB Field_numbers_cx Field_numbers_sh Field_numbers_rs o) :=
  OblH.of_eq (X := (True ∧ ((True ∧ (True ∧ ((True ∧ True) ∧ (True ∧ ((True ∧ True) ∧ (True ∧ ((True ∧ True) ∧ (True ∧ ((True ∧ True) ∧ (True ∧ ((True ∧ True) ∧ (True ∧ ((True ∧ True) ∧ (True ∧ ((True ∧ True) ∧ True))))))))))))))) ∧ (True ∧ True)))) (by kernel_rfl) ⟨trivial, ⟨⟨trivial, ⟨trivial, ⟨⟨trivial, trivial⟩, ⟨trivial, ⟨⟨trivial, trivial⟩, ⟨trivial, ⟨⟨trivial, trivial⟩, ⟨trivial, ⟨⟨trivial, trivial⟩, ⟨trivial, ⟨⟨trivial, trivial⟩, ⟨trivial, ⟨⟨trivial, trivial⟩, ⟨trivial, ⟨⟨trivial, trivial⟩, trivial⟩⟩⟩⟩⟩⟩⟩⟩⟩⟩⟩⟩⟩⟩⟩, ⟨trivial, trivial⟩⟩⟩
set_option maxRecDepth 100000 in
theorem Field_numbers_snd {x : Field_numbers_I} {o : Field_numbers_O} (h : Field_numbers_Body x o) : SoundH Try.prog Field_numbers_sh.f ((Field_numbers_sh.args idf x).map (er TB)) ((Field_numbers_sh.obs idf x).map (erO TB)) (er TB (Field_numbers_sh.val idf o)) ((Field_numbers_sh.ops idf o).map (erO TB)) :=
  Con.soundH (c := Field_numbers_sh) (C := Field_numbers_cx) TBok ⟨inf_ok, all_nil, all_nil⟩ mix Try.func117 (show Try.f117.body = some Field_numbers_code by kernel_rfl) (show Try.f117.ntmps = 21 by kernel_rfl) (show Try.f117.results.toList = Field_numbers_rs by kernel_rfl) rfl h (Field_numbers_obl o)
set_option maxRecDepth 100000 in
theorem Field_numbers_in {p0 : TField} {r0 : Int} {r1 : Int} {r2 : Int} (h :
(((p0.P == 17) = true →
 3 = r0 ∧ 4 = r1 ∧ 3 = r2) ∧
((p0.P == 17) = false →
((p0.P == 97) = true →
 5 = r0 ∧ 5 = r1 ∧ 5 = r2) ∧
((p0.P == 97) = false →
((p0.P == 193) = true →
 5 = r0 ∧ 6 = r1 ∧ 5 = r2) ∧
((p0.P == 193) = false →
((p0.P == 257) = true →
 3 = r0 ∧ 8 = r1 ∧ 3 = r2) ∧
((p0.P == 257) = false →
((p0.P == 12289) = true →
 11 = r0 ∧ 12 = r1 ∧ 5 = r2) ∧
((p0.P == 12289) = false →
((p0.P == 65537) = true →
 3 = r0 ∧ 16 = r1 ∧ 3 = r2) ∧
((p0.P == 65537) = false →
((p0.P == 18446744069414584321) = true →
 7 = r0 ∧ 32 = r1 ∧ 7 = r2) ∧
((p0.P == 18446744069414584321) = false →
 0 = r0 ∧ 0 = r1 ∧ 0 = r2))))))))) : Field_numbers_Body (p0.P, ()) (r0, r1, r2, ()) := WPh.of_eq (by kernel_rfl) h
theorem bd117 : Callable Try.prog 117 := ⟨by rw [Try.func117]; kernel_rfl, by rw [Try.func117]; show some _ ≠ some _; decide⟩
theorem Field_numbers_body (p0 : TField) (h : p0.P = 18446744069414584321) : Field_numbers_Body (p0.P, ()) ((7 : Int), (32 : Int), (7 : Int), ()) := by
  refine Field_numbers_in ?_
  simp [h]
noncomputable def Field_numbers_con : Con TB.den := Field_numbers_sh.fnR (fun x => (fun (p0 : TField) => p0.P = 18446744069414584321) (TField.mk x.1)) fun x => ((fun (p0 : TField) => (7 : Int)) (TField.mk x.1), (fun (p0 : TField) => (32 : Int)) (TField.mk x.1), (fun (p0 : TField) => (7 : Int)) (TField.mk x.1), ())
theorem Field_numbers_ok : Field_numbers_con.Ok Try.prog TB := Con.ok_fn Field_numbers_sh bd117 fun x h => Field_numbers_snd (Field_numbers_body (TField.mk x.1) h)
end Go.Proofs.Ytnmakgfmimagmaa
namespace Go.Proofs.Ytnmakgfmimagmaa
open Go Go.Bv Go.Cv Go.Md Go.RowKit
def Field_Exponent_sh : Con TB.den := Con.mk0 110 [.agg [.d (.int .u64)]] [] (.one (.one (.d (.int .u64)))) []
abbrev Field_Exponent_I := HL TB.den (hsT Field_Exponent_sh.ins (hsOs Field_Exponent_sh.pre))
abbrev Field_Exponent_O := HL TB.den (hsV Field_Exponent_sh.res (hsOs Field_Exponent_sh.post))
noncomputable def Field_Exponent_cx : Cx TB := ⟨inf, [Field_numbers_con], [], 4⟩
noncomputable def Field_Exponent_code : Code := Try.f110.body.getD .skip
noncomputable def Field_Exponent_rs : List ResultVar := Try.f110.results.toList
noncomputable def Field_Exponent_an (o : Field_Exponent_O) : An TB := .no
noncomputable def Field_Exponent_Body (x : Field_Exponent_I) (o : Field_Exponent_O) : Prop := WPh TB Field_Exponent_cx 13 0 Field_Exponent_code (Field_Exponent_an o) (Field_Exponent_sh.st TB x) (retTQ TB Field_Exponent_cx Field_Exponent_sh Field_Exponent_rs o)
set_option maxRecDepth 100000 in
theorem Field_Exponent_obl (o : Field_Exponent_O) : OblH TB Field_Exponent_cx 13 0 Field_Exponent_code (Field_Exponent_an o) (retTQ TB Field_Exponent_cx Field_Exponent_sh Field_Exponent_rs o) :=
  OblH.of_eq (X := (True ∧ (True ∧ (True ∧ True)))) (by kernel_rfl) ⟨trivial, ⟨trivial, ⟨trivial, trivial⟩⟩⟩
set_option maxRecDepth 100000 in
theorem Field_Exponent_snd {x : Field_Exponent_I} {o : Field_Exponent_O} (h : Field_Exponent_Body x o) : SoundH Try.prog Field_Exponent_sh.f ((Field_Exponent_sh.args idf x).map (er TB)) ((Field_Exponent_sh.obs idf x).map (erO TB)) (er TB (Field_Exponent_sh.val idf o)) ((Field_Exponent_sh.ops idf o).map (erO TB)) :=
  Con.soundH (c := Field_Exponent_sh) (C := Field_Exponent_cx) TBok ⟨inf_ok, (all_cons Field_numbers_ok all_nil), all_nil⟩ mix Try.func110 (show Try.f110.body = some Field_Exponent_code by kernel_rfl) (show Try.f110.ntmps = 13 by kernel_rfl) (show Try.f110.results.toList = Field_Exponent_rs by kernel_rfl) rfl h (Field_Exponent_obl o)
set_option maxRecDepth 100000 in
theorem Field_Exponent_in {p0 : TField} {r0 : Int} (h :
((p0.P = 18446744069414584321) ∧ 7 = r0)) : Field_Exponent_Body (p0.P, ()) (r0, ()) := WPh.of_eq (by kernel_rfl) h
theorem bd110 : Callable Try.prog 110 := ⟨by rw [Try.func110]; kernel_rfl, by rw [Try.func110]; show some _ ≠ some _; decide⟩
theorem Field_Exponent_body (p0 : TField) (h : p0.P = 18446744069414584321) : Field_Exponent_Body (p0.P, ()) ((7 : Int), ()) := by
  exact Field_Exponent_in ⟨h, rfl⟩
noncomputable def Field_Exponent_con : Con TB.den := Field_Exponent_sh.fnR (fun x => (fun (p0 : TField) => p0.P = 18446744069414584321) (TField.mk x.1)) fun x => ((fun (p0 : TField) => (7 : Int)) (TField.mk x.1), ())
theorem Field_Exponent_ok : Field_Exponent_con.Ok Try.prog TB := Con.ok_fn Field_Exponent_sh bd110 fun x h => Field_Exponent_snd (Field_Exponent_body (TField.mk x.1) h)
end Go.Proofs.Ytnmakgfmimagmaa
namespace Go.Proofs.Ytnmakgfmimagmaa
open Go Go.Bv Go.Cv Go.Md Go.RowKit
def Field_pow_sh : Con TB.den := Con.mk0 118 [.agg [.d (.int .u64)], .one (.d (.int .u64)), .one (.d (.int .u64))] [] (.one (.one (.d (.int .u64)))) []
abbrev Field_pow_I := HL TB.den (hsT Field_pow_sh.ins (hsOs Field_pow_sh.pre))
abbrev Field_pow_O := HL TB.den (hsV Field_pow_sh.res (hsOs Field_pow_sh.post))
noncomputable def Field_pow_cx : Cx TB := ⟨inf, [Field_mul_con], [], 4⟩
noncomputable def Field_pow_code : Code := Try.f118.body.getD .skip
noncomputable def Field_pow_rs : List ResultVar := Try.f118.results.toList
noncomputable def Field_pow_Q1 (o : Field_pow_O) : Exit → TSt TB.den → Prop := thenT TB (fun s => ghs TB [] s fun s => WP TB Field_pow_cx 26 0 (cB (cB (cB Field_pow_code))) .no s (retTQ TB Field_pow_cx Field_pow_sh Field_pow_rs o)) (retTQ TB Field_pow_cx Field_pow_sh Field_pow_rs o)
def Field_pow_T1 : Tm := ⟨[0], [.cells [.d (.int .u64)]], [1, 2, 3, 7], [.one (.d (.int .u64)), .one (.d (.int .u64)), .one (.ptr 0 0), .one (.d (.int .u64))], 1⟩
noncomputable def Field_pow_Q2 (o : Field_pow_O) (nx1 : HL TB.den Field_pow_T1.hs → Prop) : Exit → TSt TB.den → Prop := thenT TB (fun s => Field_pow_T1.mat TB 0 s nx1) (blockT TB 0 (Field_pow_Q1 o))
def Field_pow_TJ1 : Tm := ⟨[0], [.cells [.d (.int .u64)]], [1, 2, 3, 7], [.one (.d (.int .u64)), .one (.d (.int .u64)), .one (.ptr 0 0), .one (.d (.int .u64))], 1⟩
noncomputable def Field_pow_J1d (o : Field_pow_O) (nx1 : HL TB.den Field_pow_T1.hs → Prop) (i : HL TB.den Field_pow_TJ1.hs) : Prop := ghs TB [] (Field_pow_TJ1.fill TB i) fun s => WP TB Field_pow_cx 26 0 (cB (cA (cB (cA (cA (cA (cB (cB Field_pow_code)))))))) .no s (blockT TB 1 (Field_pow_Q2 o nx1))
structure Field_pow_J1 (o : Field_pow_O) (nx1 : HL TB.den Field_pow_T1.hs → Prop) (i : HL TB.den Field_pow_TJ1.hs) : Prop where
  h : Field_pow_J1d o nx1 i
noncomputable def Field_pow_A5 (o : Field_pow_O) (nx1 : HL TB.den Field_pow_T1.hs → Prop) : An TB := .nd [] .no [] (.jn Field_pow_TJ1 (Field_pow_J1 o nx1) [] .no [] .no)
noncomputable def Field_pow_L1 (o : Field_pow_O) (nx1 : HL TB.den Field_pow_T1.hs → Prop) (i : HL TB.den Field_pow_T1.hs) : Prop := WP TB Field_pow_cx 26 0 (cA (cA (cA (cB (cB Field_pow_code))))) (Field_pow_A5 o nx1) (Field_pow_T1.fill TB i) (Field_pow_Q2 o nx1)
noncomputable def Field_pow_A6 (o : Field_pow_O) : An TB := .lp [] Field_pow_T1 (Field_pow_L1 o) fun nx1 => (Field_pow_A5 o nx1)
noncomputable def Field_pow_an (o : Field_pow_O) : An TB := .nd [] .no [] (.nd [] .no [] (.nd [] (Field_pow_A6 o) [] .no))
noncomputable def Field_pow_Body (x : Field_pow_I) (o : Field_pow_O) : Prop := WPh TB Field_pow_cx 26 0 Field_pow_code (Field_pow_an o) (Field_pow_sh.st TB x) (retTQ TB Field_pow_cx Field_pow_sh Field_pow_rs o)
set_option maxRecDepth 100000 in
theorem Field_pow_obl (o : Field_pow_O) : OblH TB Field_pow_cx 26 0 Field_pow_code (Field_pow_an o) (retTQ TB Field_pow_cx Field_pow_sh Field_pow_rs o) :=
  OblH.of_eq (X := (True ∧ (True ∧ (((∀ nx i, (Field_pow_L1 o) nx i = (Field_pow_L1 o) nx i) ∧ ∀ nx1 : HL TB.den Field_pow_T1.hs → Prop, ((True ∧ (True ∧ True)) ∧ ((True ∧ (True ∧ True)) ∧ (∀ i, (Field_pow_J1 o nx1) i = (Field_pow_J1d o nx1) i) ∧ (True ∧ (True ∧ (True ∧ True)))))) ∧ (True ∧ True))))) (by kernel_rfl) ⟨trivial, ⟨trivial, ⟨⟨fun _ _ => rfl, fun _ => ⟨⟨trivial, ⟨trivial, trivial⟩⟩, ⟨⟨trivial, ⟨trivial, trivial⟩⟩, fun _ => propext ⟨fun h => h.1, fun h => ⟨h⟩⟩, ⟨trivial, ⟨trivial, ⟨trivial, trivial⟩⟩⟩⟩⟩⟩, ⟨trivial, trivial⟩⟩⟩⟩
set_option maxRecDepth 100000 in
theorem Field_pow_snd {x : Field_pow_I} {o : Field_pow_O} (h : Field_pow_Body x o) : SoundH Try.prog Field_pow_sh.f ((Field_pow_sh.args idf x).map (er TB)) ((Field_pow_sh.obs idf x).map (erO TB)) (er TB (Field_pow_sh.val idf o)) ((Field_pow_sh.ops idf o).map (erO TB)) :=
  Con.soundH (c := Field_pow_sh) (C := Field_pow_cx) TBok ⟨inf_ok, (all_cons Field_mul_ok all_nil), all_nil⟩ mix Try.func118 (show Try.f118.body = some Field_pow_code by kernel_rfl) (show Try.f118.ntmps = 26 by kernel_rfl) (show Try.f118.results.toList = Field_pow_rs by kernel_rfl) rfl h (Field_pow_obl o)
set_option maxRecDepth 100000 in
theorem Field_pow_in {p0 : TField} {p1 : Int} {p2 : Int} {r0 : Int} (h :
(Md.Loop (p1, p2, (1 : Int), p0.P, ()) (Field_pow_L1 (r0, ())))) : Field_pow_Body (p0.P, p1, p2, ()) (r0, ()) := WPh.of_eq (by kernel_rfl) h
set_option maxRecDepth 100000 in
theorem Field_pow_J1_in {r0 : Int} {nx1 : HL TB.den Field_pow_T1.hs → Prop} {s1 : Int} {s2 : Int} {s7 : Int} {h0_0 : Int} (h :
((decide (0 < (ishr .u64 s2 1)) = true →
((TField.mk h0_0).P = 18446744069414584321 ∧ (0 ≤ s1 ∧ s1 < 18446744069414584321) ∧ (0 ≤ s1 ∧ s1 < 18446744069414584321)) ∧ nx1 ((s1 * s1 % 18446744069414584321 : Int), (ishr .u64 s2 1 : Int), s7, h0_0, ())) ∧
(decide (0 < (ishr .u64 s2 1)) = false →
 nx1 (s1, (ishr .u64 s2 1 : Int), s7, h0_0, ())))) : Field_pow_J1 (r0, ()) nx1 (s1, s2, s7, h0_0, ()) := ⟨mpr_of (by kernel_rfl) h⟩
def Field_pow_B1 (r0 : Int) (nx1 : HL TB.den Field_pow_T1.hs → Prop) (k1 : Int → Int → Int → Prop) (h0_0 : Int) (s1 : Int) (s2 : Int) (s7 : Int) : Prop :=
(decide (0 < s2) = true →
(((iand .u64 s2 1) == 1) = true →
((TField.mk h0_0).P = 18446744069414584321 ∧ (0 ≤ s7 ∧ s7 < 18446744069414584321) ∧ (0 ≤ s1 ∧ s1 < 18446744069414584321)) ∧ Field_pow_J1 (r0, ()) nx1 (s1, s2, (s7 * s1 % 18446744069414584321 : Int), h0_0, ())) ∧
(((iand .u64 s2 1) == 1) = false →
 Field_pow_J1 (r0, ()) nx1 (s1, s2, s7, h0_0, ()))) ∧
(decide (0 < s2) = false →
 s7 = r0)
set_option maxRecDepth 100000 in
theorem Field_pow_lp1 {r0 : Int} {h0_0 : Int} {s1 : Int} {s2 : Int} {s7 : Int} (inv : Int → Int → Int → Prop) (μ : Int → Int → Int → Nat) (h0 : inv s1 s2 s7) (hs : ∀ (s1 : Int) (s2 : Int) (s7 : Int), inv s1 s2 s7 → Field_pow_B1 r0 (fun s : Int × Int × Int × Int × Unit => ((s.2.2.2.1 = h0_0) ∧ inv s.1 s.2.1 s.2.2.1) ∧ μ s.1 s.2.1 s.2.2.1 < μ s1 s2 s7) (fun s1q s2q s7q => inv s1q s2q s7q ∧ μ s1q s2q s7q < μ s1 s2 s7) h0_0 s1 s2 s7) : Md.Loop (s1, s2, s7, h0_0, ()) (Field_pow_L1 (r0, ())) :=
  ⟨⟨fun s : Int × Int × Int × Int × Unit => (s.2.2.2.1 = h0_0) ∧ inv s.1 s.2.1 s.2.2.1, fun s : Int × Int × Int × Int × Unit => μ s.1 s.2.1 s.2.2.1, ⟨rfl, h0⟩, fun (s1p, s2p, s7p, h0_0p, ()) ⟨eq0, hi⟩ => by
    have eq0 : h0_0p = h0_0 := eq0; subst h0_0p; exact mpr_of (by kernel_rfl) ((congrArg (fun k => Field_pow_B1 r0 (fun s : Int × Int × Int × Int × Unit => ((s.2.2.2.1 = h0_0) ∧ inv s.1 s.2.1 s.2.2.1) ∧ μ s.1 s.2.1 s.2.2.1 < μ s1p s2p s7p) k h0_0 s1p s2p s7p) (lpk3 (rfl : h0_0 = h0_0) inv (fun s1q s2q s7q => μ s1q s2q s7q < μ s1p s2p s7p))).mpr (hs s1p s2p s7p hi))⟩⟩
theorem bd118 : Callable Try.prog 118 := ⟨by rw [Try.func118]; kernel_rfl, by rw [Try.func118]; show some _ ≠ some _; decide⟩
theorem Field_pow_body (p0 : TField) (p1 : Int) (p2 : Int) (h : p0.P = 18446744069414584321 ∧ (0 ≤ p1 ∧ p1 < 18446744069414584321) ∧ U64 p2) : Field_pow_Body (p0.P, p1, p2, ()) ((pw p1 p2 : Int), ()) := by
  obtain ⟨hP, h1, h2⟩ := h
  refine Field_pow_in ?_
  rw [hP]
  refine Field_pow_lp1 (fun a e r => (0 ≤ a ∧ a < 18446744069414584321) ∧ U64 e ∧ (0 ≤ r ∧ r < 18446744069414584321) ∧ (r * a ^ e.toNat) % 18446744069414584321 = pw p1 p2) (fun a e r => e.toNat) ⟨h1, h2, by omega, by rw [Int.one_mul]; rfl⟩ ?_
  rintro a e r ⟨ha, he, hr, hv⟩
  have jj : ∀ nx r', (0 ≤ r' ∧ r' < 18446744069414584321) → 0 < e → (r' * (a * a) ^ (e / 2).toNat) % 18446744069414584321 = pw p1 p2 → (∀ a', (0 ≤ a' ∧ a' < 18446744069414584321) → r' * a' ^ (e / 2).toNat % 18446744069414584321 = pw p1 p2 → nx (a', (e / 2 : Int), r', (18446744069414584321 : Int), ())) → Field_pow_J1 ((pw p1 p2 : Int), ()) nx (a, e, r', (18446744069414584321 : Int), ()) := by
    intro nx r' hr' he' hv' hn
    refine Field_pow_J1_in ?_
    rw [ishr1]
    refine ⟨fun h => ⟨⟨rfl, ha, ha⟩, ?_⟩, fun h => ?_⟩
    · refine hn _ ⟨Int.emod_nonneg _ (by omega), Int.emod_lt_of_pos _ (by omega)⟩ ?_
      rw [← hv', Int.mul_emod, Int.mul_emod r' ((a * a) ^ _), emod_pow]
    · have h : ¬ 0 < e / 2 := of_decide_eq_false h
      refine hn _ ha ?_
      rw [show (e / 2).toNat = 0 by omega] at hv' ⊢
      simpa using hv'
  refine ⟨fun h => ?_, fun h => ?_⟩
  · have h := of_decide_eq_true h
    rw [iand_one e he]
    have nxt : ∀ a' r', (0 ≤ a' ∧ a' < 18446744069414584321) → (0 ≤ r' ∧ r' < 18446744069414584321) → r' * a' ^ (e / 2).toNat % 18446744069414584321 = pw p1 p2 → ((0 ≤ a' ∧ a' < 18446744069414584321) ∧ U64 (e / 2) ∧ (0 ≤ r' ∧ r' < 18446744069414584321) ∧ r' * a' ^ (e / 2).toNat % 18446744069414584321 = pw p1 p2) ∧ (e / 2).toNat < e.toNat := fun a' r' h1 h2 h3 => ⟨⟨h1, ⟨by omega, by omega⟩, h2, h3⟩, by omega⟩
    have hpow : ∀ k : Nat, a ^ (2 * k) = (a * a) ^ k := fun k => by rw [Int.pow_mul]; congr 1; rw [Int.pow_succ, Int.pow_succ, Int.pow_zero, Int.one_mul]
    refine ⟨fun h1 => ⟨⟨rfl, hr, ha⟩, ?_⟩, fun h1 => ?_⟩
    · have h1 : e % 2 = 1 := by simpa using h1
      refine jj _ _ ⟨Int.emod_nonneg _ (by omega), Int.emod_lt_of_pos _ (by omega)⟩ h ?_ fun a' ha' hv' => ⟨⟨rfl, (nxt a' _ ha' ⟨Int.emod_nonneg _ (by omega), Int.emod_lt_of_pos _ (by omega)⟩ hv').1⟩, (nxt a' _ ha' ⟨Int.emod_nonneg _ (by omega), Int.emod_lt_of_pos _ (by omega)⟩ hv').2⟩
      rw [← hv, show e.toNat = 2 * (e / 2).toNat + 1 by omega, Int.pow_succ, hpow, Int.mul_emod, Int.emod_emod_of_dvd _ (Int.dvd_refl _), ← Int.mul_emod]
      congr 1
      grind
    · have h1 : ¬ e % 2 = 1 := by simpa using h1
      refine jj _ _ hr h ?_ fun a' ha' hv' => ⟨⟨rfl, (nxt a' _ ha' hr hv').1⟩, (nxt a' _ ha' hr hv').2⟩
      rw [← hv, ← hpow, show e.toNat = 2 * (e / 2).toNat by omega]
  · have h : ¬ 0 < e := of_decide_eq_false h
    rw [show e.toNat = 0 by omega, Int.pow_zero, Int.mul_one, Int.emod_eq_of_lt hr.1 hr.2] at hv
    exact hv
noncomputable def Field_pow_con : Con TB.den := Field_pow_sh.fnR (fun x => (fun (p0 : TField) (p1 : Int) (p2 : Int) => p0.P = 18446744069414584321 ∧ (0 ≤ p1 ∧ p1 < 18446744069414584321) ∧ U64 p2) (TField.mk x.1) x.2.1 x.2.2.1) fun x => ((fun (p0 : TField) (p1 : Int) (p2 : Int) => (pw p1 p2 : Int)) (TField.mk x.1) x.2.1 x.2.2.1, ())
theorem Field_pow_ok : Field_pow_con.Ok Try.prog TB := Con.ok_fn Field_pow_sh bd118 fun x h => Field_pow_snd (Field_pow_body (TField.mk x.1) x.2.1 x.2.2.1 h)
end Go.Proofs.Ytnmakgfmimagmaa
namespace Go.Proofs.Ytnmakgfmimagmaa
open Go Go.Bv Go.Cv Go.Md Go.RowKit
def Field_Pow_sh : Con TB.den := Con.mk0 111 [.agg [.d (.int .u64)], .one (.d (.int .u64)), .one (.d (.int .u64))] [] (.one (.one (.d (.int .u64)))) []
abbrev Field_Pow_I := HL TB.den (hsT Field_Pow_sh.ins (hsOs Field_Pow_sh.pre))
abbrev Field_Pow_O := HL TB.den (hsV Field_Pow_sh.res (hsOs Field_Pow_sh.post))
noncomputable def Field_Pow_cx : Cx TB := ⟨inf, [Field_Valid_con, Field_reduced_con, Field_pow_con], [], 4⟩
noncomputable def Field_Pow_code : Code := Try.f111.body.getD .skip
noncomputable def Field_Pow_rs : List ResultVar := Try.f111.results.toList
noncomputable def Field_Pow_an (o : Field_Pow_O) : An TB := .no
noncomputable def Field_Pow_Body (x : Field_Pow_I) (o : Field_Pow_O) : Prop := WPh TB Field_Pow_cx 16 0 Field_Pow_code (Field_Pow_an o) (Field_Pow_sh.st TB x) (retTQ TB Field_Pow_cx Field_Pow_sh Field_Pow_rs o)
set_option maxRecDepth 100000 in
theorem Field_Pow_obl (o : Field_Pow_O) : OblH TB Field_Pow_cx 16 0 Field_Pow_code (Field_Pow_an o) (retTQ TB Field_Pow_cx Field_Pow_sh Field_Pow_rs o) :=
  OblH.of_eq (X := (True ∧ ((True ∧ ((True ∧ True) ∧ True)) ∧ (True ∧ True)))) (by kernel_rfl) ⟨trivial, ⟨⟨trivial, ⟨⟨trivial, trivial⟩, trivial⟩⟩, ⟨trivial, trivial⟩⟩⟩
set_option maxRecDepth 100000 in
theorem Field_Pow_snd {x : Field_Pow_I} {o : Field_Pow_O} (h : Field_Pow_Body x o) : SoundH Try.prog Field_Pow_sh.f ((Field_Pow_sh.args idf x).map (er TB)) ((Field_Pow_sh.obs idf x).map (erO TB)) (er TB (Field_Pow_sh.val idf o)) ((Field_Pow_sh.ops idf o).map (erO TB)) :=
  Con.soundH (c := Field_Pow_sh) (C := Field_Pow_cx) TBok ⟨inf_ok, (all_cons Field_Valid_ok (all_cons Field_reduced_ok (all_cons Field_pow_ok all_nil))), all_nil⟩ mix Try.func111 (show Try.f111.body = some Field_Pow_code by kernel_rfl) (show Try.f111.ntmps = 16 by kernel_rfl) (show Try.f111.results.toList = Field_Pow_rs by kernel_rfl) rfl h (Field_Pow_obl o)
set_option maxRecDepth 100000 in
theorem Field_Pow_in {p0 : TField} {p1 : Int} {p2 : Int} {r0 : Int} (h :
((p0.P = 18446744069414584321) ∧ ((!true) = true →
 0 = r0) ∧
((!true) = false →
(0 < p0.P ∧ 0 ≤ p1) ∧ (p0.P = 18446744069414584321 ∧ (0 ≤ (p1 % p0.P) ∧ (p1 % p0.P) < 18446744069414584321) ∧ U64 p2) ∧ pw (p1 % p0.P) p2 = r0))) : Field_Pow_Body (p0.P, p1, p2, ()) (r0, ()) := WPh.of_eq (by kernel_rfl) h
theorem bd111 : Callable Try.prog 111 := ⟨by rw [Try.func111]; kernel_rfl, by rw [Try.func111]; show some _ ≠ some _; decide⟩
theorem Field_Pow_body (p0 : TField) (p1 : Int) (p2 : Int) (h : p0.P = 18446744069414584321 ∧ U64 p1 ∧ U64 p2) : Field_Pow_Body (p0.P, p1, p2, ()) ((pw (p1 % 18446744069414584321) p2 : Int), ()) := by
  obtain ⟨hP, h1, h2⟩ := h
  refine Field_Pow_in ⟨hP, fun h => by simp at h, fun _ => ⟨by omega, ?_⟩⟩
  simp only [hP]
  exact ⟨⟨by trivial, by omega, h2⟩, trivial⟩
noncomputable def Field_Pow_con : Con TB.den := Field_Pow_sh.fnR (fun x => (fun (p0 : TField) (p1 : Int) (p2 : Int) => p0.P = 18446744069414584321 ∧ U64 p1 ∧ U64 p2) (TField.mk x.1) x.2.1 x.2.2.1) fun x => ((fun (p0 : TField) (p1 : Int) (p2 : Int) => (pw (p1 % 18446744069414584321) p2 : Int)) (TField.mk x.1) x.2.1 x.2.2.1, ())
theorem Field_Pow_ok : Field_Pow_con.Ok Try.prog TB := Con.ok_fn Field_Pow_sh bd111 fun x h => Field_Pow_snd (Field_Pow_body (TField.mk x.1) x.2.1 x.2.2.1 h)
end Go.Proofs.Ytnmakgfmimagmaa
namespace Go.Proofs.Ytnmakgfmimagmaa
open Go Go.Bv Go.Cv Go.Md Go.RowKit
def Field_Reduce_sh : Con TB.den := Con.mk0 119 [.agg [.d (.int .u64)], .one (.d (.int .u64))] [] (.one (.one (.d (.int .u64)))) []
abbrev Field_Reduce_I := HL TB.den (hsT Field_Reduce_sh.ins (hsOs Field_Reduce_sh.pre))
abbrev Field_Reduce_O := HL TB.den (hsV Field_Reduce_sh.res (hsOs Field_Reduce_sh.post))
noncomputable def Field_Reduce_cx : Cx TB := ⟨inf, [Field_Valid_con, Field_reduced_con], [], 4⟩
noncomputable def Field_Reduce_code : Code := Try.f119.body.getD .skip
noncomputable def Field_Reduce_rs : List ResultVar := Try.f119.results.toList
noncomputable def Field_Reduce_an (o : Field_Reduce_O) : An TB := .no
noncomputable def Field_Reduce_Body (x : Field_Reduce_I) (o : Field_Reduce_O) : Prop := WPh TB Field_Reduce_cx 11 0 Field_Reduce_code (Field_Reduce_an o) (Field_Reduce_sh.st TB x) (retTQ TB Field_Reduce_cx Field_Reduce_sh Field_Reduce_rs o)
set_option maxRecDepth 100000 in
theorem Field_Reduce_obl (o : Field_Reduce_O) : OblH TB Field_Reduce_cx 11 0 Field_Reduce_code (Field_Reduce_an o) (retTQ TB Field_Reduce_cx Field_Reduce_sh Field_Reduce_rs o) :=
  OblH.of_eq (X := (True ∧ ((True ∧ ((True ∧ True) ∧ True)) ∧ (True ∧ True)))) (by kernel_rfl) ⟨trivial, ⟨⟨trivial, ⟨⟨trivial, trivial⟩, trivial⟩⟩, ⟨trivial, trivial⟩⟩⟩
set_option maxRecDepth 100000 in
theorem Field_Reduce_snd {x : Field_Reduce_I} {o : Field_Reduce_O} (h : Field_Reduce_Body x o) : SoundH Try.prog Field_Reduce_sh.f ((Field_Reduce_sh.args idf x).map (er TB)) ((Field_Reduce_sh.obs idf x).map (erO TB)) (er TB (Field_Reduce_sh.val idf o)) ((Field_Reduce_sh.ops idf o).map (erO TB)) :=
  Con.soundH (c := Field_Reduce_sh) (C := Field_Reduce_cx) TBok ⟨inf_ok, (all_cons Field_Valid_ok (all_cons Field_reduced_ok all_nil)), all_nil⟩ mix Try.func119 (show Try.f119.body = some Field_Reduce_code by kernel_rfl) (show Try.f119.ntmps = 11 by kernel_rfl) (show Try.f119.results.toList = Field_Reduce_rs by kernel_rfl) rfl h (Field_Reduce_obl o)
set_option maxRecDepth 100000 in
theorem Field_Reduce_in {p0 : TField} {p1 : Int} {r0 : Int} (h :
((p0.P = 18446744069414584321) ∧ ((!true) = true →
 0 = r0) ∧
((!true) = false →
(0 < p0.P ∧ 0 ≤ p1) ∧ p1 % p0.P = r0))) : Field_Reduce_Body (p0.P, p1, ()) (r0, ()) := WPh.of_eq (by kernel_rfl) h
theorem bd119 : Callable Try.prog 119 := ⟨by rw [Try.func119]; kernel_rfl, by rw [Try.func119]; show some _ ≠ some _; decide⟩
theorem Field_Reduce_body (p0 : TField) (p1 : Int) (h : p0.P = 18446744069414584321 ∧ U64 p1) : Field_Reduce_Body (p0.P, p1, ()) ((p1 % 18446744069414584321 : Int), ()) := by
  obtain ⟨hP, h1⟩ := h
  refine Field_Reduce_in ⟨hP, fun h => by simp at h, fun _ => ⟨by omega, ?_⟩⟩
  simp only [hP]
noncomputable def Field_Reduce_con : Con TB.den := Field_Reduce_sh.fnR (fun x => (fun (p0 : TField) (p1 : Int) => p0.P = 18446744069414584321 ∧ U64 p1) (TField.mk x.1) x.2.1) fun x => ((fun (p0 : TField) (p1 : Int) => (p1 % 18446744069414584321 : Int)) (TField.mk x.1) x.2.1, ())
theorem Field_Reduce_ok : Field_Reduce_con.Ok Try.prog TB := Con.ok_fn Field_Reduce_sh bd119 fun x h => Field_Reduce_snd (Field_Reduce_body (TField.mk x.1) x.2.1 h)
end Go.Proofs.Ytnmakgfmimagmaa
namespace Go.Proofs.Ytnmakgfmimagmaa
open Go Go.Bv Go.Cv Go.Md Go.RowKit
def permutation_Constant_sh : Con TB.den := Con.mk0 112 [.one (.d (.int .u64)), .one (.d (.int .i64)), .one (.d (.int .i64))] [] (.one (.one (.d (.int .u64)))) []
abbrev permutation_Constant_I := HL TB.den (hsT permutation_Constant_sh.ins (hsOs permutation_Constant_sh.pre))
abbrev permutation_Constant_O := HL TB.den (hsV permutation_Constant_sh.res (hsOs permutation_Constant_sh.post))
noncomputable def permutation_Constant_cx : Cx TB := ⟨inf, [Field_Reduce_con], [], 4⟩
noncomputable def permutation_Constant_code : Code := Try.f112.body.getD .skip
noncomputable def permutation_Constant_rs : List ResultVar := Try.f112.results.toList
noncomputable def permutation_Constant_an (o : permutation_Constant_O) : An TB := .no
noncomputable def permutation_Constant_Body (x : permutation_Constant_I) (o : permutation_Constant_O) : Prop := WPh TB permutation_Constant_cx 31 0 permutation_Constant_code (permutation_Constant_an o) (permutation_Constant_sh.st TB x) (retTQ TB permutation_Constant_cx permutation_Constant_sh permutation_Constant_rs o)
set_option maxRecDepth 100000 in
theorem permutation_Constant_obl (o : permutation_Constant_O) : OblH TB permutation_Constant_cx 31 0 permutation_Constant_code (permutation_Constant_an o) (retTQ TB permutation_Constant_cx permutation_Constant_sh permutation_Constant_rs o) :=
  OblH.of_eq (X := (True ∧ ((True ∧ ((True ∧ True) ∧ True)) ∧ (True ∧ True)))) (by kernel_rfl) ⟨trivial, ⟨⟨trivial, ⟨⟨trivial, trivial⟩, trivial⟩⟩, ⟨trivial, trivial⟩⟩⟩
set_option maxRecDepth 100000 in
theorem permutation_Constant_snd {x : permutation_Constant_I} {o : permutation_Constant_O} (h : permutation_Constant_Body x o) : SoundH Try.prog permutation_Constant_sh.f ((permutation_Constant_sh.args idf x).map (er TB)) ((permutation_Constant_sh.obs idf x).map (erO TB)) (er TB (permutation_Constant_sh.val idf o)) ((permutation_Constant_sh.ops idf o).map (erO TB)) :=
  Con.soundH (c := permutation_Constant_sh) (C := permutation_Constant_cx) TBok ⟨inf_ok, (all_cons Field_Reduce_ok all_nil), all_nil⟩ mix Try.func112 (show Try.f112.body = some permutation_Constant_code by kernel_rfl) (show Try.f112.ntmps = 31 by kernel_rfl) (show Try.f112.results.toList = permutation_Constant_rs by kernel_rfl) rfl h (permutation_Constant_obl o)
set_option maxRecDepth 100000 in
theorem permutation_Constant_in {p0 : Int} {p1 : Int} {p2 : Int} {r0 : Int} (h :
((decide (p1 < 0) = true →
 0 = r0) ∧
(decide (p1 < 0) = false →
(decide (8 ≤ p1) = true →
 0 = r0) ∧
(decide (8 ≤ p1) = false →
(decide (p2 < 0) = true →
 0 = r0) ∧
(decide (p2 < 0) = false →
(decide (2 < p2) = true →
 0 = r0) ∧
(decide (2 < p2) = false →
 let v1 : Int := IntKind.i64.wrap ((IntKind.i64.wrap (3 * p1)) + p2)
 let v2 : Int := IntKind.u64.wrap (IntKind.i64.wrap (v1 + 1))
 let v3 : Int := IntKind.u64.wrap (v2 * 11400714819323198485)
((TField.mk p0).P = 18446744069414584321 ∧ U64 v3) ∧ v3 % 18446744069414584321 = r0)))))) : permutation_Constant_Body (p0, p1, p2, ()) (r0, ()) := WPh.of_eq (by kernel_rfl) h
theorem bd112 : Callable Try.prog 112 := ⟨by rw [Try.func112]; kernel_rfl, by rw [Try.func112]; show some _ ≠ some _; decide⟩
theorem permutation_Constant_body (p0 : Int) (p1 : Int) (p2 : Int) (h : p0 = 18446744069414584321 ∧ (0 ≤ p1 ∧ p1 < 8) ∧ 0 ≤ p2 ∧ p2 < 3) : permutation_Constant_Body (p0, p1, p2, ()) ((rc p1 p2 : Int), ()) := by
  obtain ⟨hP, h1, h2⟩ := h
  refine permutation_Constant_in ⟨fun h => ?_, fun _ => ⟨fun h => ?_, fun _ => ⟨fun h => ?_, fun _ => ⟨fun h => ?_, fun _ => ?_⟩⟩⟩⟩
  · simp at h; omega
  · simp at h; omega
  · simp at h; omega
  · simp at h; omega
  · simp only []
    rw [wi (3 * p1) (by omega) (by omega), wi (3 * p1 + p2) (by omega) (by omega), wi (3 * p1 + p2 + 1) (by omega) (by omega), wu (3 * p1 + p2 + 1) (by omega) (by omega), u64w]
    exact ⟨⟨hP, by omega, by omega⟩, rfl⟩
noncomputable def permutation_Constant_con : Con TB.den := permutation_Constant_sh.fnR (fun x => (fun (p0 : Int) (p1 : Int) (p2 : Int) => p0 = 18446744069414584321 ∧ (0 ≤ p1 ∧ p1 < 8) ∧ 0 ≤ p2 ∧ p2 < 3) x.1 x.2.1 x.2.2.1) fun x => ((fun (p0 : Int) (p1 : Int) (p2 : Int) => (rc p1 p2 : Int)) x.1 x.2.1 x.2.2.1, ())
theorem permutation_Constant_ok : permutation_Constant_con.Ok Try.prog TB := Con.ok_fn permutation_Constant_sh bd112 fun x h => permutation_Constant_snd (permutation_Constant_body x.1 x.2.1 x.2.2.1 h)
end Go.Proofs.Ytnmakgfmimagmaa
namespace Go.Proofs.Ytnmakgfmimagmaa
open Go Go.Bv Go.Cv Go.Md Go.RowKit
def permutation_Mix_sh : Con TB.den := Con.mk0 113 [.one (.d (.int .u64)), .agg [.d (.int .u64), .d (.int .u64), .d (.int .u64)]] [] (.one (.agg [.d (.int .u64), .d (.int .u64), .d (.int .u64)])) []
abbrev permutation_Mix_I := HL TB.den (hsT permutation_Mix_sh.ins (hsOs permutation_Mix_sh.pre))
abbrev permutation_Mix_O := HL TB.den (hsV permutation_Mix_sh.res (hsOs permutation_Mix_sh.post))
noncomputable def permutation_Mix_cx : Cx TB := ⟨inf, [Field_Add_con], [], 4⟩
noncomputable def permutation_Mix_code : Code := Try.f113.body.getD .skip
noncomputable def permutation_Mix_rs : List ResultVar := Try.f113.results.toList
noncomputable def permutation_Mix_an (o : permutation_Mix_O) : An TB := .no
noncomputable def permutation_Mix_Body (x : permutation_Mix_I) (o : permutation_Mix_O) : Prop := WPh TB permutation_Mix_cx 35 0 permutation_Mix_code (permutation_Mix_an o) (permutation_Mix_sh.st TB x) (retTQ TB permutation_Mix_cx permutation_Mix_sh permutation_Mix_rs o)
set_option maxRecDepth 100000 in
theorem permutation_Mix_obl (o : permutation_Mix_O) : OblH TB permutation_Mix_cx 35 0 permutation_Mix_code (permutation_Mix_an o) (retTQ TB permutation_Mix_cx permutation_Mix_sh permutation_Mix_rs o) :=
  OblH.of_eq (X := (True ∧ (True ∧ (True ∧ (True ∧ True))))) (by kernel_rfl) ⟨trivial, ⟨trivial, ⟨trivial, ⟨trivial, trivial⟩⟩⟩⟩
set_option maxRecDepth 100000 in
theorem permutation_Mix_snd {x : permutation_Mix_I} {o : permutation_Mix_O} (h : permutation_Mix_Body x o) : SoundH Try.prog permutation_Mix_sh.f ((permutation_Mix_sh.args idf x).map (er TB)) ((permutation_Mix_sh.obs idf x).map (erO TB)) (er TB (permutation_Mix_sh.val idf o)) ((permutation_Mix_sh.ops idf o).map (erO TB)) :=
  Con.soundH (c := permutation_Mix_sh) (C := permutation_Mix_cx) TBok ⟨inf_ok, (all_cons Field_Add_ok all_nil), all_nil⟩ mix Try.func113 (show Try.f113.body = some permutation_Mix_code by kernel_rfl) (show Try.f113.ntmps = 35 by kernel_rfl) (show Try.f113.results.toList = permutation_Mix_rs by kernel_rfl) rfl h (permutation_Mix_obl o)
set_option maxRecDepth 100000 in
theorem permutation_Mix_in {p0 : Int} {p1 : TA3} {r0 : TA3} (h :
(((TField.mk p0).P = 18446744069414584321 ∧ U64 p1.a0 ∧ U64 p1.a1) ∧ ((TField.mk p0).P = 18446744069414584321 ∧ U64 ((p1.a0 + p1.a1) % 18446744069414584321) ∧ U64 p1.a2) ∧ let r1 : Int := (((p1.a0 + p1.a1) % 18446744069414584321) + p1.a2) % 18446744069414584321
((TField.mk p0).P = 18446744069414584321 ∧ U64 p1.a0 ∧ U64 r1) ∧ ((TField.mk p0).P = 18446744069414584321 ∧ U64 p1.a1 ∧ U64 r1) ∧ ((TField.mk p0).P = 18446744069414584321 ∧ U64 p1.a2 ∧ U64 r1) ∧ (p1.a0 + r1) % 18446744069414584321 = r0.a0 ∧ (p1.a1 + r1) % 18446744069414584321 = r0.a1 ∧ (p1.a2 + r1) % 18446744069414584321 = r0.a2)) : permutation_Mix_Body (p0, p1.a0, p1.a1, p1.a2, ()) (r0.a0, r0.a1, r0.a2, ()) := WPh.of_eq (by kernel_rfl) h
theorem bd113 : Callable Try.prog 113 := ⟨by rw [Try.func113]; kernel_rfl, by rw [Try.func113]; show some _ ≠ some _; decide⟩
theorem permutation_Mix_body (p0 : Int) (p1 : TA3) (h : p0 = 18446744069414584321 ∧ S3 p1) : permutation_Mix_Body (p0, p1.a0, p1.a1, p1.a2, ()) (((mixS p1).a0 : Int), ((mixS p1).a1 : Int), ((mixS p1).a2 : Int), ()) := by
  obtain ⟨hP, h0, h1, h2⟩ := h
  refine permutation_Mix_in ?_
  simp only [hP]
  exact ⟨⟨by trivial, h0, h1⟩, ⟨by trivial, by omega, h2⟩, ⟨by trivial, h0, by omega⟩, ⟨by trivial, h1, by omega⟩, ⟨by trivial, h2, by omega⟩, rfl, rfl, rfl⟩
noncomputable def permutation_Mix_con : Con TB.den := permutation_Mix_sh.fnR (fun x => (fun (p0 : Int) (p1 : TA3) => p0 = 18446744069414584321 ∧ S3 p1) x.1 (TA3.mk x.2.1 x.2.2.1 x.2.2.2.1)) fun x => ((fun (p0 : Int) (p1 : TA3) => ((mixS p1).a0 : Int)) x.1 (TA3.mk x.2.1 x.2.2.1 x.2.2.2.1), (fun (p0 : Int) (p1 : TA3) => ((mixS p1).a1 : Int)) x.1 (TA3.mk x.2.1 x.2.2.1 x.2.2.2.1), (fun (p0 : Int) (p1 : TA3) => ((mixS p1).a2 : Int)) x.1 (TA3.mk x.2.1 x.2.2.1 x.2.2.2.1), ())
theorem permutation_Mix_ok : permutation_Mix_con.Ok Try.prog TB := Con.ok_fn permutation_Mix_sh bd113 fun x h => permutation_Mix_snd (permutation_Mix_body x.1 (TA3.mk x.2.1 x.2.2.1 x.2.2.2.1) h)
end Go.Proofs.Ytnmakgfmimagmaa
namespace Go.Proofs.Ytnmakgfmimagmaa
open Go Go.Bv Go.Cv Go.Md Go.RowKit
def permutation_Permute_sh : Con TB.den := Con.mk0 100 [.one (.d (.int .u64)), .agg [.d (.int .u64), .d (.int .u64), .d (.int .u64)]] [] (.one (.agg [.d (.int .u64), .d (.int .u64), .d (.int .u64)])) []
abbrev permutation_Permute_I := HL TB.den (hsT permutation_Permute_sh.ins (hsOs permutation_Permute_sh.pre))
abbrev permutation_Permute_O := HL TB.den (hsV permutation_Permute_sh.res (hsOs permutation_Permute_sh.post))
noncomputable def permutation_Permute_cx : Cx TB := ⟨inf, [Field_Valid_con, Field_Exponent_con, permutation_Constant_con, Field_Add_con, Field_Pow_con, permutation_Mix_con], [], 4⟩
noncomputable def permutation_Permute_code : Code := Try.f100.body.getD .skip
noncomputable def permutation_Permute_rs : List ResultVar := Try.f100.results.toList
noncomputable def permutation_Permute_Q1 (o : permutation_Permute_O) : Exit → TSt TB.den → Prop := thenT TB (fun s => ghs TB [] s fun s => WP TB permutation_Permute_cx 43 0 (cB (cB (cB (cB (cB permutation_Permute_code))))) .no s (retTQ TB permutation_Permute_cx permutation_Permute_sh permutation_Permute_rs o)) (retTQ TB permutation_Permute_cx permutation_Permute_sh permutation_Permute_rs o)
def permutation_Permute_T2 : Tm := ⟨[0, 1, 2], [.cells [.d (.int .u64), .d (.int .u64), .d (.int .u64)], .cells [.d (.int .u64), .d (.int .u64), .d (.int .u64)], .cells [.d (.int .u64)]], [0, 3, 4, 5, 6, 17], [.one (.d (.int .u64)), .one (.ptr 0 0), .one (.ptr 1 0), .one (.ptr 2 0), .one (.d (.int .u64)), .one (.d (.int .i64))], 3⟩
noncomputable def permutation_Permute_Q2 (o : permutation_Permute_O) (nx2 : HL TB.den permutation_Permute_T2.hs → Prop) : Exit → TSt TB.den → Prop := thenT TB (fun s => permutation_Permute_T2.mat TB 0 s nx2) (blockT TB 0 (permutation_Permute_Q1 o))
noncomputable def permutation_Permute_Q3 (o : permutation_Permute_O) (nx2 : HL TB.den permutation_Permute_T2.hs → Prop) : Exit → TSt TB.den → Prop := thenT TB (fun s => ghs TB [] s fun s => WP TB permutation_Permute_cx 43 0 (cB (cB (cB (cA (cA (cB (cA (cB (cB (cB (cB permutation_Permute_code))))))))))) .no s (permutation_Permute_Q2 o nx2)) (permutation_Permute_Q2 o nx2)
noncomputable def permutation_Permute_Q4 (o : permutation_Permute_O) (nx2 : HL TB.den permutation_Permute_T2.hs → Prop) : Exit → TSt TB.den → Prop := thenT TB (fun s => ghs TB [] s fun s => WP TB permutation_Permute_cx 43 0 (cB (cB (cA (cA (cB (cB (cA (cA (cB (cA (cB (cB (cB (cB permutation_Permute_code)))))))))))))) .no s (blockT TB 1 (permutation_Permute_Q3 o nx2))) (blockT TB 1 (permutation_Permute_Q3 o nx2))
def permutation_Permute_T1 : Tm := ⟨[0, 1, 2], [.cells [.d (.int .u64), .d (.int .u64), .d (.int .u64)], .cells [.d (.int .u64), .d (.int .u64), .d (.int .u64)], .cells [.d (.int .u64)]], [0, 3, 4, 5, 6, 7, 17, 20], [.one (.d (.int .u64)), .one (.ptr 0 0), .one (.ptr 1 0), .one (.ptr 2 0), .one (.d (.int .u64)), .one (.d (.int .i64)), .one (.d (.int .i64)), .one (.d (.int .i64))], 3⟩
noncomputable def permutation_Permute_Q5 (o : permutation_Permute_O) (nx2 : HL TB.den permutation_Permute_T2.hs → Prop) (nx1 : HL TB.den permutation_Permute_T1.hs → Prop) : Exit → TSt TB.den → Prop := thenT TB (fun s => permutation_Permute_T1.mat TB 0 s nx1) (blockT TB 2 (permutation_Permute_Q4 o nx2))
noncomputable def permutation_Permute_L1 (o : permutation_Permute_O) (nx2 : HL TB.den permutation_Permute_T2.hs → Prop) (nx1 : HL TB.den permutation_Permute_T1.hs → Prop) (i : HL TB.den permutation_Permute_T1.hs) : Prop := WP TB permutation_Permute_cx 43 0 (cA (cA (cB (cA (cB (cA (cA (cB (cB (cA (cA (cB (cA (cB (cB (cB (cB permutation_Permute_code))))))))))))))))) .no (permutation_Permute_T1.fill TB i) (permutation_Permute_Q5 o nx2 nx1)
noncomputable def permutation_Permute_A8 (o : permutation_Permute_O) (nx2 : HL TB.den permutation_Permute_T2.hs → Prop) : An TB := .lp [] permutation_Permute_T1 (permutation_Permute_L1 o nx2) fun nx1 => .no
noncomputable def permutation_Permute_A9 (o : permutation_Permute_O) (nx2 : HL TB.den permutation_Permute_T2.hs → Prop) : An TB := .nd [] .no [] (.nd [] (.nd [] .no [] (permutation_Permute_A8 o nx2)) [] .no)
noncomputable def permutation_Permute_A11 (o : permutation_Permute_O) (nx2 : HL TB.den permutation_Permute_T2.hs → Prop) : An TB := .nd [] .no [] (.nd [] .no [] (.nd [] (permutation_Permute_A9 o nx2) [] .no))
noncomputable def permutation_Permute_L2 (o : permutation_Permute_O) (nx2 : HL TB.den permutation_Permute_T2.hs → Prop) (i : HL TB.den permutation_Permute_T2.hs) : Prop := WP TB permutation_Permute_cx 43 0 (cA (cA (cB (cA (cB (cB (cB (cB permutation_Permute_code)))))))) (permutation_Permute_A11 o nx2) (permutation_Permute_T2.fill TB i) (permutation_Permute_Q2 o nx2)
noncomputable def permutation_Permute_A12 (o : permutation_Permute_O) : An TB := .lp [] permutation_Permute_T2 (permutation_Permute_L2 o) fun nx2 => (permutation_Permute_A11 o nx2)
noncomputable def permutation_Permute_A13 (o : permutation_Permute_O) : An TB := .nd [] .no [] (.nd [] (.nd [] .no [] (permutation_Permute_A12 o)) [] .no)
noncomputable def permutation_Permute_an (o : permutation_Permute_O) : An TB := .nd [] .no [] (.nd [] .no [] (.nd [] .no [] (permutation_Permute_A13 o)))
noncomputable def permutation_Permute_Body (x : permutation_Permute_I) (o : permutation_Permute_O) : Prop := WPh TB permutation_Permute_cx 43 0 permutation_Permute_code (permutation_Permute_an o) (permutation_Permute_sh.st TB x) (retTQ TB permutation_Permute_cx permutation_Permute_sh permutation_Permute_rs o)
set_option maxRecDepth 100000 in
theorem permutation_Permute_obl (o : permutation_Permute_O) : OblH TB permutation_Permute_cx 43 0 permutation_Permute_code (permutation_Permute_an o) (retTQ TB permutation_Permute_cx permutation_Permute_sh permutation_Permute_rs o) :=
  OblH.of_eq (X := (True ∧ (True ∧ ((True ∧ ((True ∧ True) ∧ True)) ∧ (True ∧ ((True ∧ ((∀ nx i, (permutation_Permute_L2 o) nx i = (permutation_Permute_L2 o) nx i) ∧ ∀ nx2 : HL TB.den permutation_Permute_T2.hs → Prop, (True ∧ ((True ∧ True) ∧ ((True ∧ ((True ∧ ((∀ nx i, (permutation_Permute_L1 o nx2) nx i = (permutation_Permute_L1 o nx2) nx i) ∧ ∀ nx1 : HL TB.den permutation_Permute_T1.hs → Prop, (True ∧ ((True ∧ True) ∧ ((True ∧ True) ∧ True))))) ∧ True)) ∧ True))))) ∧ (True ∧ True))))))) (by kernel_rfl) ⟨trivial, ⟨trivial, ⟨⟨trivial, ⟨⟨trivial, trivial⟩, trivial⟩⟩, ⟨trivial, ⟨⟨trivial, ⟨fun _ _ => rfl, fun _ => ⟨trivial, ⟨⟨trivial, trivial⟩, ⟨⟨trivial, ⟨⟨trivial, ⟨fun _ _ => rfl, fun _ => ⟨trivial, ⟨⟨trivial, trivial⟩, ⟨⟨trivial, trivial⟩, trivial⟩⟩⟩⟩⟩, trivial⟩⟩, trivial⟩⟩⟩⟩⟩, ⟨trivial, trivial⟩⟩⟩⟩⟩⟩
set_option maxRecDepth 100000 in
theorem permutation_Permute_snd {x : permutation_Permute_I} {o : permutation_Permute_O} (h : permutation_Permute_Body x o) : SoundH Try.prog permutation_Permute_sh.f ((permutation_Permute_sh.args idf x).map (er TB)) ((permutation_Permute_sh.obs idf x).map (erO TB)) (er TB (permutation_Permute_sh.val idf o)) ((permutation_Permute_sh.ops idf o).map (erO TB)) :=
  Con.soundH (c := permutation_Permute_sh) (C := permutation_Permute_cx) TBok ⟨inf_ok, (all_cons Field_Valid_ok (all_cons Field_Exponent_ok (all_cons permutation_Constant_ok (all_cons Field_Add_ok (all_cons Field_Pow_ok (all_cons permutation_Mix_ok all_nil)))))), all_nil⟩ mix Try.func100 (show Try.f100.body = some permutation_Permute_code by kernel_rfl) (show Try.f100.ntmps = 43 by kernel_rfl) (show Try.f100.results.toList = permutation_Permute_rs by kernel_rfl) rfl h (permutation_Permute_obl o)
set_option maxRecDepth 100000 in
theorem permutation_Permute_in {p0 : Int} {p1 : TA3} {r0 : TA3} (h :
(((TField.mk p0).P = 18446744069414584321) ∧ ((!true) = true →
 0 = r0.a0 ∧ 0 = r0.a1 ∧ 0 = r0.a2) ∧
((!true) = false →
((TField.mk p0).P = 18446744069414584321) ∧ Md.Loop (p0, (7 : Int), (0 : Int), p1.a0, p1.a1, p1.a2, (0 : Int), (0 : Int), (0 : Int), p0, ()) (permutation_Permute_L2 (r0.a0, r0.a1, r0.a2, ()))))) : permutation_Permute_Body (p0, p1.a0, p1.a1, p1.a2, ()) (r0.a0, r0.a1, r0.a2, ()) := WPh.of_eq (by kernel_rfl) h
def permutation_Permute_B2 (r0 : TA3) (nx2 : HL TB.den permutation_Permute_T2.hs → Prop) (k2 : Int → Int → Int → Int → Prop) (s0 : Int) (s6 : Int) (h1_0 : Int) (h1_1 : Int) (h1_2 : Int) (h2_0 : Int) (s17 : Int) (h0_0 : Int) (h0_1 : Int) (h0_2 : Int) : Prop :=
(decide (s17 < 8) = true →
 Md.Loop (s0, s6, s17, s17, (0 : Int), h0_0, h0_1, h0_2, h1_0, h1_1, h1_2, h2_0, ()) (permutation_Permute_L1 (r0.a0, r0.a1, r0.a2, ()) nx2)) ∧
(decide (s17 < 8) = false →
 h0_0 = r0.a0 ∧ h0_1 = r0.a1 ∧ h0_2 = r0.a2)
set_option maxRecDepth 100000 in
theorem permutation_Permute_lp2 {r0 : TA3} {s0 : Int} {s6 : Int} {h1_0 : Int} {h1_1 : Int} {h1_2 : Int} {h2_0 : Int} {s17 : Int} {h0_0 : Int} {h0_1 : Int} {h0_2 : Int} (inv : Int → Int → Int → Int → Prop) (μ : Int → Int → Int → Int → Nat) (h0 : inv s17 h0_0 h0_1 h0_2) (hs : ∀ (s17 : Int) (h0_0 : Int) (h0_1 : Int) (h0_2 : Int), inv s17 h0_0 h0_1 h0_2 → permutation_Permute_B2 r0 (fun s : Int × Int × Int × Int × Int × Int × Int × Int × Int × Int × Unit => ((s.1 = s0 ∧ s.2.1 = s6 ∧ s.2.2.2.2.2.2.1 = h1_0 ∧ s.2.2.2.2.2.2.2.1 = h1_1 ∧ s.2.2.2.2.2.2.2.2.1 = h1_2 ∧ s.2.2.2.2.2.2.2.2.2.1 = h2_0) ∧ inv s.2.2.1 s.2.2.2.1 s.2.2.2.2.1 s.2.2.2.2.2.1) ∧ μ s.2.2.1 s.2.2.2.1 s.2.2.2.2.1 s.2.2.2.2.2.1 < μ s17 h0_0 h0_1 h0_2) (fun s17q h0_0q h0_1q h0_2q => inv s17q h0_0q h0_1q h0_2q ∧ μ s17q h0_0q h0_1q h0_2q < μ s17 h0_0 h0_1 h0_2) s0 s6 h1_0 h1_1 h1_2 h2_0 s17 h0_0 h0_1 h0_2) : Md.Loop (s0, s6, s17, h0_0, h0_1, h0_2, h1_0, h1_1, h1_2, h2_0, ()) (permutation_Permute_L2 (r0.a0, r0.a1, r0.a2, ())) :=
  ⟨⟨fun s : Int × Int × Int × Int × Int × Int × Int × Int × Int × Int × Unit => (s.1 = s0 ∧ s.2.1 = s6 ∧ s.2.2.2.2.2.2.1 = h1_0 ∧ s.2.2.2.2.2.2.2.1 = h1_1 ∧ s.2.2.2.2.2.2.2.2.1 = h1_2 ∧ s.2.2.2.2.2.2.2.2.2.1 = h2_0) ∧ inv s.2.2.1 s.2.2.2.1 s.2.2.2.2.1 s.2.2.2.2.2.1, fun s : Int × Int × Int × Int × Int × Int × Int × Int × Int × Int × Unit => μ s.2.2.1 s.2.2.2.1 s.2.2.2.2.1 s.2.2.2.2.2.1, ⟨⟨rfl, rfl, rfl, rfl, rfl, rfl⟩, h0⟩, fun (s0p, s6p, s17p, h0_0p, h0_1p, h0_2p, h1_0p, h1_1p, h1_2p, h2_0p, ()) ⟨⟨eq0, eq1, eq2, eq3, eq4, eq5⟩, hi⟩ => by
    have eq0 : s0p = s0 := eq0; subst s0p; have eq1 : s6p = s6 := eq1; subst s6p; have eq2 : h1_0p = h1_0 := eq2; subst h1_0p; have eq3 : h1_1p = h1_1 := eq3; subst h1_1p; have eq4 : h1_2p = h1_2 := eq4; subst h1_2p; have eq5 : h2_0p = h2_0 := eq5; subst h2_0p; exact mpr_of (by kernel_rfl) ((congrArg (fun k => permutation_Permute_B2 r0 (fun s : Int × Int × Int × Int × Int × Int × Int × Int × Int × Int × Unit => ((s.1 = s0 ∧ s.2.1 = s6 ∧ s.2.2.2.2.2.2.1 = h1_0 ∧ s.2.2.2.2.2.2.2.1 = h1_1 ∧ s.2.2.2.2.2.2.2.2.1 = h1_2 ∧ s.2.2.2.2.2.2.2.2.2.1 = h2_0) ∧ inv s.2.2.1 s.2.2.2.1 s.2.2.2.2.1 s.2.2.2.2.2.1) ∧ μ s.2.2.1 s.2.2.2.1 s.2.2.2.2.1 s.2.2.2.2.2.1 < μ s17p h0_0p h0_1p h0_2p) k s0 s6 h1_0 h1_1 h1_2 h2_0 s17p h0_0p h0_1p h0_2p) (lpk4 (⟨rfl, rfl, rfl, rfl, rfl, rfl⟩ : s0 = s0 ∧ s6 = s6 ∧ h1_0 = h1_0 ∧ h1_1 = h1_1 ∧ h1_2 = h1_2 ∧ h2_0 = h2_0) inv (fun s17q h0_0q h0_1q h0_2q => μ s17q h0_0q h0_1q h0_2q < μ s17p h0_0p h0_1p h0_2p))).mpr (hs s17p h0_0p h0_1p h0_2p hi))⟩⟩
def permutation_Permute_B1 (r0 : TA3) (nx2 : HL TB.den permutation_Permute_T2.hs → Prop) (k1 : Int → Int → Int → Int → Prop) (s0 : Int) (s6 : Int) (s7 : Int) (s17 : Int) (h1_0 : Int) (h1_1 : Int) (h1_2 : Int) (h2_0 : Int) (s20 : Int) (h0_0 : Int) (h0_1 : Int) (h0_2 : Int) : Prop :=
(decide (s20 < 3) = true →
(0 ≤ s20 ∧ s20 < (3 : Int)) ∧ (0 ≤ s20 ∧ s20 < (3 : Int)) ∧ (s0 = 18446744069414584321 ∧ (0 ≤ s7 ∧ s7 < 8) ∧ 0 ≤ s20 ∧ s20 < 3) ∧ ((TField.mk h2_0).P = 18446744069414584321 ∧ U64 (ix [h0_0, h0_1, h0_2] s20) ∧ U64 (rc s7 s20)) ∧ let r1 : Int := ((ix [h0_0, h0_1, h0_2] s20) + (rc s7 s20)) % 18446744069414584321
((TField.mk h2_0).P = 18446744069414584321 ∧ U64 r1 ∧ U64 s6) ∧ (0 ≤ s20 ∧ s20 < (3 : Int)) ∧ (0 ≤ s20 ∧ s20 < (3 : Int)) ∧ k1 (IntKind.i64.wrap (s20 + 1) : Int) ((bif decide (s20 = (0 : Int)) then pw (r1 % 18446744069414584321) s6 else h0_0) : Int) ((bif decide (s20 = (1 : Int)) then pw (r1 % 18446744069414584321) s6 else h0_1) : Int) ((bif decide (s20 = (2 : Int)) then pw (r1 % 18446744069414584321) s6 else h0_2) : Int)) ∧
(decide (s20 < 3) = false →
(s0 = 18446744069414584321 ∧ S3 (TA3.mk h0_0 h0_1 h0_2)) ∧ nx2 (s0, s6, (IntKind.i64.wrap (s17 + 1) : Int), ((mixS (TA3.mk h0_0 h0_1 h0_2)).a0 : Int), ((mixS (TA3.mk h0_0 h0_1 h0_2)).a1 : Int), ((mixS (TA3.mk h0_0 h0_1 h0_2)).a2 : Int), h1_0, h1_1, h1_2, h2_0, ()))
set_option maxRecDepth 100000 in
theorem permutation_Permute_lp1 {r0 : TA3} {nx2 : HL TB.den permutation_Permute_T2.hs → Prop} {s0 : Int} {s6 : Int} {s7 : Int} {s17 : Int} {h1_0 : Int} {h1_1 : Int} {h1_2 : Int} {h2_0 : Int} {s20 : Int} {h0_0 : Int} {h0_1 : Int} {h0_2 : Int} (inv : Int → Int → Int → Int → Prop) (μ : Int → Int → Int → Int → Nat) (h0 : inv s20 h0_0 h0_1 h0_2) (hs : ∀ (s20 : Int) (h0_0 : Int) (h0_1 : Int) (h0_2 : Int), inv s20 h0_0 h0_1 h0_2 → permutation_Permute_B1 r0 nx2 (fun s20q h0_0q h0_1q h0_2q => inv s20q h0_0q h0_1q h0_2q ∧ μ s20q h0_0q h0_1q h0_2q < μ s20 h0_0 h0_1 h0_2) s0 s6 s7 s17 h1_0 h1_1 h1_2 h2_0 s20 h0_0 h0_1 h0_2) : Md.Loop (s0, s6, s7, s17, s20, h0_0, h0_1, h0_2, h1_0, h1_1, h1_2, h2_0, ()) (permutation_Permute_L1 (r0.a0, r0.a1, r0.a2, ()) nx2) :=
  ⟨⟨fun s : Int × Int × Int × Int × Int × Int × Int × Int × Int × Int × Int × Int × Unit => (s.1 = s0 ∧ s.2.1 = s6 ∧ s.2.2.1 = s7 ∧ s.2.2.2.1 = s17 ∧ s.2.2.2.2.2.2.2.2.1 = h1_0 ∧ s.2.2.2.2.2.2.2.2.2.1 = h1_1 ∧ s.2.2.2.2.2.2.2.2.2.2.1 = h1_2 ∧ s.2.2.2.2.2.2.2.2.2.2.2.1 = h2_0) ∧ inv s.2.2.2.2.1 s.2.2.2.2.2.1 s.2.2.2.2.2.2.1 s.2.2.2.2.2.2.2.1, fun s : Int × Int × Int × Int × Int × Int × Int × Int × Int × Int × Int × Int × Unit => μ s.2.2.2.2.1 s.2.2.2.2.2.1 s.2.2.2.2.2.2.1 s.2.2.2.2.2.2.2.1, ⟨⟨rfl, rfl, rfl, rfl, rfl, rfl, rfl, rfl⟩, h0⟩, fun (s0p, s6p, s7p, s17p, s20p, h0_0p, h0_1p, h0_2p, h1_0p, h1_1p, h1_2p, h2_0p, ()) ⟨⟨eq0, eq1, eq2, eq3, eq4, eq5, eq6, eq7⟩, hi⟩ => by
    have eq0 : s0p = s0 := eq0; subst s0p; have eq1 : s6p = s6 := eq1; subst s6p; have eq2 : s7p = s7 := eq2; subst s7p; have eq3 : s17p = s17 := eq3; subst s17p; have eq4 : h1_0p = h1_0 := eq4; subst h1_0p; have eq5 : h1_1p = h1_1 := eq5; subst h1_1p; have eq6 : h1_2p = h1_2 := eq6; subst h1_2p; have eq7 : h2_0p = h2_0 := eq7; subst h2_0p; exact mpr_of (by kernel_rfl) ((congrArg (fun k => permutation_Permute_B1 r0 nx2 k s0 s6 s7 s17 h1_0 h1_1 h1_2 h2_0 s20p h0_0p h0_1p h0_2p) (lpk4 (⟨rfl, rfl, rfl, rfl, rfl, rfl, rfl, rfl⟩ : s0 = s0 ∧ s6 = s6 ∧ s7 = s7 ∧ s17 = s17 ∧ h1_0 = h1_0 ∧ h1_1 = h1_1 ∧ h1_2 = h1_2 ∧ h2_0 = h2_0) inv (fun s20q h0_0q h0_1q h0_2q => μ s20q h0_0q h0_1q h0_2q < μ s20p h0_0p h0_1p h0_2p))).mpr (hs s20p h0_0p h0_1p h0_2p hi))⟩⟩
theorem bd100 : Callable Try.prog 100 := ⟨by rw [Try.func100]; kernel_rfl, by rw [Try.func100]; show some _ ≠ some _; decide⟩
theorem permutation_Permute_body (p0 : Int) (p1 : TA3) (h : p0 = 18446744069414584321 ∧ S3 p1) : permutation_Permute_Body (p0, p1.a0, p1.a1, p1.a2, ()) (((permS p1).a0 : Int), ((permS p1).a1 : Int), ((permS p1).a2 : Int), ()) := by
  obtain ⟨hP, hs⟩ := h
  subst hP
  refine permutation_Permute_in ⟨rfl, fun h => by simp at h, fun _ => ⟨rfl, ?_⟩⟩
  refine permutation_Permute_lp2 (r0 := permS p1) (fun n a b c => 0 ≤ n ∧ n ≤ 8 ∧ (⟨a, b, c⟩ : TA3) = rnds n.toNat p1 ∧ S3 ⟨a, b, c⟩) (fun n _ _ _ => (8 - n).toNat) ⟨by omega, by omega, rfl, hs⟩ ?_
  rintro n a b c ⟨g0, g1, g2, g3⟩
  refine ⟨fun h => ?_, fun h => ?_⟩
  · have h := of_decide_eq_true h
    refine permutation_Permute_lp1 (r0 := permS p1) (fun i x y z => (i = 0 ∧ x = a ∧ y = b ∧ z = c) ∨ (i = 1 ∧ x = pw ((a + rc n 0) % 18446744069414584321) 7 ∧ y = b ∧ z = c) ∨ (i = 2 ∧ x = pw ((a + rc n 0) % 18446744069414584321) 7 ∧ y = pw ((b + rc n 1) % 18446744069414584321) 7 ∧ z = c) ∨ (i = 3 ∧ x = pw ((a + rc n 0) % 18446744069414584321) 7 ∧ y = pw ((b + rc n 1) % 18446744069414584321) 7 ∧ z = pw ((c + rc n 2) % 18446744069414584321) 7)) (fun i _ _ _ => (3 - i).toNat) (.inl ⟨rfl, rfl, rfl, rfl⟩) ?_
    intro i x y z hi
    have hrc : ∀ k, U64 (rc n k) := fun k => by unfold rc; omega
    have hpw : ∀ k e, 0 ≤ pw k e ∧ pw k e < 18446744069414584321 := fun k e => ⟨Int.emod_nonneg _ (by omega), Int.emod_lt_of_pos _ (by omega)⟩
    obtain ⟨h3a, h3b, h3c⟩ := g3
    refine ⟨fun hh => ?_, fun hh => ?_⟩
    · have hh := of_decide_eq_true hh
      rcases hi with ⟨rfl, rfl, rfl, rfl⟩ | ⟨rfl, rfl, rfl, rfl⟩ | ⟨rfl, rfl, rfl, rfl⟩ | ⟨rfl, _⟩
      · refine ⟨by omega, by omega, ⟨rfl, by omega, by omega⟩, ⟨rfl, h3a, hrc _⟩, ⟨rfl, ?_, by omega⟩, by omega, by omega, .inr (.inl ⟨rfl, ?_, rfl, rfl⟩), by decide⟩
        · exact ⟨Int.emod_nonneg _ (by omega), Int.lt_trans (Int.emod_lt_of_pos _ (by omega)) (by omega)⟩
        · show pw ((x + rc n 0) % 18446744069414584321 % 18446744069414584321) 7 = _
          rw [Int.emod_emod_of_dvd _ (Int.dvd_refl _)]
      · refine ⟨by omega, by omega, ⟨rfl, by omega, by omega⟩, ⟨rfl, h3b, hrc _⟩, ⟨rfl, ?_, by omega⟩, by omega, by omega, .inr (.inr (.inl ⟨rfl, rfl, ?_, rfl⟩)), by decide⟩
        · exact ⟨Int.emod_nonneg _ (by omega), Int.lt_trans (Int.emod_lt_of_pos _ (by omega)) (by omega)⟩
        · show pw ((y + rc n 1) % 18446744069414584321 % 18446744069414584321) 7 = _
          rw [Int.emod_emod_of_dvd _ (Int.dvd_refl _)]
      · refine ⟨by omega, by omega, ⟨rfl, by omega, by omega⟩, ⟨rfl, h3c, hrc _⟩, ⟨rfl, ?_, by omega⟩, by omega, by omega, .inr (.inr (.inr ⟨rfl, rfl, rfl, ?_⟩)), by decide⟩
        · exact ⟨Int.emod_nonneg _ (by omega), Int.lt_trans (Int.emod_lt_of_pos _ (by omega)) (by omega)⟩
        · show pw ((z + rc n 2) % 18446744069414584321 % 18446744069414584321) 7 = _
          rw [Int.emod_emod_of_dvd _ (Int.dvd_refl _)]
      · omega
    · have hh := of_decide_eq_false hh
      rcases hi with ⟨rfl, _⟩ | ⟨rfl, _⟩ | ⟨rfl, _⟩ | ⟨rfl, rfl, rfl, rfl⟩
      · omega
      · omega
      · omega
      · have e : rnds (n + 1).toNat p1 = rnd ⟨a, b, c⟩ n := by
          rw [show (n + 1).toNat = n.toNat + 1 by omega]
          show rnd (rnds n.toNat p1) (n.toNat : Int) = _
          rw [← g2, show (n.toNat : Int) = n by omega]
        have hS : S3 (rnds (n + 1).toNat p1) := by
          rw [e]
          unfold rnd mixS S3
          dsimp only
          omega
        have hinc : IntKind.i64.wrap (n + 1) = n + 1 := wi _ (by omega) (by omega)
        rw [hinc]
        refine ⟨⟨rfl, by unfold S3; have := hpw ((a + rc n 0) % 18446744069414584321) 7; have := hpw ((b + rc n 1) % 18446744069414584321) 7; have := hpw ((c + rc n 2) % 18446744069414584321) 7; dsimp only; omega⟩, ⟨⟨rfl, rfl, rfl, rfl, rfl, rfl⟩, (?_ : 0 ≤ n + 1 ∧ n + 1 ≤ 8 ∧ _ ∧ _)⟩, (?_ : (8 - (n + 1)).toNat < (8 - n).toNat)⟩
        · refine ⟨by omega, by omega, e.symm, ?_⟩
          rw [e] at hS
          exact hS
        · omega
  · have h := of_decide_eq_false h
    rw [show n = 8 by omega] at g2
    have g2 : (⟨a, b, c⟩ : TA3) = permS p1 := g2
    rw [← g2]
    exact ⟨rfl, rfl, rfl⟩
noncomputable def permutation_Permute_con : Con TB.den := permutation_Permute_sh.fnR (fun x => (fun (p0 : Int) (p1 : TA3) => p0 = 18446744069414584321 ∧ S3 p1) x.1 (TA3.mk x.2.1 x.2.2.1 x.2.2.2.1)) fun x => ((fun (p0 : Int) (p1 : TA3) => ((permS p1).a0 : Int)) x.1 (TA3.mk x.2.1 x.2.2.1 x.2.2.2.1), (fun (p0 : Int) (p1 : TA3) => ((permS p1).a1 : Int)) x.1 (TA3.mk x.2.1 x.2.2.1 x.2.2.2.1), (fun (p0 : Int) (p1 : TA3) => ((permS p1).a2 : Int)) x.1 (TA3.mk x.2.1 x.2.2.1 x.2.2.2.1), ())
theorem permutation_Permute_ok : permutation_Permute_con.Ok Try.prog TB := Con.ok_fn permutation_Permute_sh bd100 fun x h => permutation_Permute_snd (permutation_Permute_body x.1 (TA3.mk x.2.1 x.2.2.1 x.2.2.2.1) h)
end Go.Proofs.Ytnmakgfmimagmaa
namespace Go.Proofs.Ytnmakgfmimagmaa
open Go Go.Bv Go.Cv Go.Md Go.RowKit
def sponge_absorb_sh : Con TB.den := Con.mk0 93 [.one (.d (.int .u64)), .one (.d (.int .u64)), .one (.d (.sl (.int .u64)))] [] (.one (.agg [.d (.int .u64), .d (.int .u64), .d (.int .u64)])) []
abbrev sponge_absorb_I := HL TB.den (hsT sponge_absorb_sh.ins (hsOs sponge_absorb_sh.pre))
abbrev sponge_absorb_O := HL TB.den (hsV sponge_absorb_sh.res (hsOs sponge_absorb_sh.post))
noncomputable def sponge_absorb_cx : Cx TB := ⟨inf, [Field_Mul_con, Field_Add_con, permutation_Permute_con], [], 4⟩
noncomputable def sponge_absorb_code : Code := Try.f93.body.getD .skip
noncomputable def sponge_absorb_rs : List ResultVar := Try.f93.results.toList
noncomputable def sponge_absorb_Q1 (o : sponge_absorb_O) : Exit → TSt TB.den → Prop := thenT TB (fun s => ghs TB [] s fun s => WP TB sponge_absorb_cx 61 0 (cB (cB (cB (cB (cB sponge_absorb_code))))) .no s (retTQ TB sponge_absorb_cx sponge_absorb_sh sponge_absorb_rs o)) (retTQ TB sponge_absorb_cx sponge_absorb_sh sponge_absorb_rs o)
def sponge_absorb_T1 : Tm := ⟨[0, 1, 38], [.cells [.d (.int .u64), .d (.int .u64), .d (.int .u64)], .cells [.d (.int .u64)], .cells [.d (.int .u64), .d (.int .u64), .d (.int .u64)]], [0, 2, 6, 7, 8, 9], [.one (.d (.int .u64)), .one (.d (.sl (.int .u64))), .one (.ptr 0 0), .one (.ptr 1 0), .one (.ptr 2 0), .one (.d (.int .i64))], 46⟩
noncomputable def sponge_absorb_Q2 (o : sponge_absorb_O) (nx1 : HL TB.den sponge_absorb_T1.hs → Prop) : Exit → TSt TB.den → Prop := thenT TB (fun s => sponge_absorb_T1.mat TB 0 s nx1) (blockT TB 0 (sponge_absorb_Q1 o))
noncomputable def sponge_absorb_Q3 (o : sponge_absorb_O) (nx1 : HL TB.den sponge_absorb_T1.hs → Prop) : Exit → TSt TB.den → Prop := thenT TB (fun s => ghs TB [] s fun s => WP TB sponge_absorb_cx 61 0 (cB (cB (cA (cA (cB (cA (cB (cB (cB (cB sponge_absorb_code)))))))))) .no s (sponge_absorb_Q2 o nx1)) (sponge_absorb_Q2 o nx1)
def sponge_absorb_TJ1 : Tm := ⟨[0, 1, 38], [.cells [.d (.int .u64), .d (.int .u64), .d (.int .u64)], .cells [.d (.int .u64)], .cells [.d (.int .u64), .d (.int .u64), .d (.int .u64)]], [0, 2, 6, 7, 8, 9], [.one (.d (.int .u64)), .one (.d (.sl (.int .u64))), .one (.ptr 0 0), .one (.ptr 1 0), .one (.ptr 2 0), .one (.d (.int .i64))], 86⟩
noncomputable def sponge_absorb_J1d (o : sponge_absorb_O) (nx1 : HL TB.den sponge_absorb_T1.hs → Prop) (i : HL TB.den sponge_absorb_TJ1.hs) : Prop := ghs TB [] (sponge_absorb_TJ1.fill TB i) fun s => WP TB sponge_absorb_cx 61 0 (cB (cB (cA (cA (cB (cA (cA (cB (cA (cB (cB (cB (cB sponge_absorb_code))))))))))))) .no s (blockT TB 1 (sponge_absorb_Q3 o nx1))
structure sponge_absorb_J1 (o : sponge_absorb_O) (nx1 : HL TB.den sponge_absorb_T1.hs → Prop) (i : HL TB.den sponge_absorb_TJ1.hs) : Prop where
  h : sponge_absorb_J1d o nx1 i
noncomputable def sponge_absorb_A5 (o : sponge_absorb_O) (nx1 : HL TB.den sponge_absorb_T1.hs → Prop) : An TB := .nd [] .no [] (.jn sponge_absorb_TJ1 (sponge_absorb_J1 o nx1) [] .no [] .no)
noncomputable def sponge_absorb_L1 (o : sponge_absorb_O) (nx1 : HL TB.den sponge_absorb_T1.hs → Prop) (i : HL TB.den sponge_absorb_T1.hs) : Prop := WP TB sponge_absorb_cx 61 0 (cA (cA (cB (cA (cB (cB (cB (cB sponge_absorb_code)))))))) (.nd [] .no [] (.nd [] (sponge_absorb_A5 o nx1) [] .no)) (sponge_absorb_T1.fill TB i) (sponge_absorb_Q2 o nx1)
noncomputable def sponge_absorb_A7 (o : sponge_absorb_O) : An TB := .lp [] sponge_absorb_T1 (sponge_absorb_L1 o) fun nx1 => (.nd [] .no [] (.nd [] (sponge_absorb_A5 o nx1) [] .no))
noncomputable def sponge_absorb_A9 (o : sponge_absorb_O) : An TB := .nd [] .no [] (.nd [] (.nd [] .no [] (sponge_absorb_A7 o)) [] .no)
noncomputable def sponge_absorb_an (o : sponge_absorb_O) : An TB := .nd [] .no [] (.nd [] .no [] (.nd [] .no [] (sponge_absorb_A9 o)))
noncomputable def sponge_absorb_Body (x : sponge_absorb_I) (o : sponge_absorb_O) : Prop := WPh TB sponge_absorb_cx 61 0 sponge_absorb_code (sponge_absorb_an o) (sponge_absorb_sh.st TB x) (retTQ TB sponge_absorb_cx sponge_absorb_sh sponge_absorb_rs o)
set_option maxRecDepth 100000 in
theorem sponge_absorb_obl (o : sponge_absorb_O) : OblH TB sponge_absorb_cx 61 0 sponge_absorb_code (sponge_absorb_an o) (retTQ TB sponge_absorb_cx sponge_absorb_sh sponge_absorb_rs o) :=
  OblH.of_eq (X := (True ∧ (True ∧ (True ∧ ((True ∧ ((True ∧ True) ∧ True)) ∧ ((True ∧ ((∀ nx i, (sponge_absorb_L1 o) nx i = (sponge_absorb_L1 o) nx i) ∧ ∀ nx1 : HL TB.den sponge_absorb_T1.hs → Prop, ((True ∧ (True ∧ True)) ∧ ((True ∧ ((True ∧ (True ∧ True)) ∧ (∀ i, (sponge_absorb_J1 o nx1) i = (sponge_absorb_J1d o nx1) i) ∧ True)) ∧ True)))) ∧ (True ∧ True))))))) (by kernel_rfl) ⟨trivial, ⟨trivial, ⟨trivial, ⟨⟨trivial, ⟨⟨trivial, trivial⟩, trivial⟩⟩, ⟨⟨trivial, ⟨fun _ _ => rfl, fun _ => ⟨⟨trivial, ⟨trivial, trivial⟩⟩, ⟨⟨trivial, ⟨⟨trivial, ⟨trivial, trivial⟩⟩, fun _ => propext ⟨fun h => h.1, fun h => ⟨h⟩⟩, trivial⟩⟩, trivial⟩⟩⟩⟩, ⟨trivial, trivial⟩⟩⟩⟩⟩⟩
set_option maxRecDepth 100000 in
theorem sponge_absorb_snd {x : sponge_absorb_I} {o : sponge_absorb_O} (h : sponge_absorb_Body x o) : SoundH Try.prog sponge_absorb_sh.f ((sponge_absorb_sh.args idf x).map (er TB)) ((sponge_absorb_sh.obs idf x).map (erO TB)) (er TB (sponge_absorb_sh.val idf o)) ((sponge_absorb_sh.ops idf o).map (erO TB)) :=
  Con.soundH (c := sponge_absorb_sh) (C := sponge_absorb_cx) TBok ⟨inf_ok, (all_cons Field_Mul_ok (all_cons Field_Add_ok (all_cons permutation_Permute_ok all_nil))), all_nil⟩ mix Try.func93 (show Try.f93.body = some sponge_absorb_code by kernel_rfl) (show Try.f93.ntmps = 61 by kernel_rfl) (show Try.f93.results.toList = sponge_absorb_rs by kernel_rfl) rfl h (sponge_absorb_obl o)
set_option maxRecDepth 100000 in
theorem sponge_absorb_in {p0 : Int} {p1 : Int} {p2 : List Int} {r0 : TA3} (h :
(((TField.mk p0).P = 18446744069414584321 ∧ U64 p1 ∧ U64 (65536 : Int)) ∧ let r1 : Int := p1 * (65536 : Int) % 18446744069414584321
((TField.mk p0).P = 18446744069414584321 ∧ U64 r1 ∧ U64 (IntKind.u64.wrap (p2.length : Int))) ∧ let r2 : Int := (r1 + (IntKind.u64.wrap (p2.length : Int))) % 18446744069414584321
(((p2.length : Int) == 0) = true →
(p0 = 18446744069414584321 ∧ S3 (TA3.mk 0 0 r2)) ∧ (permS (TA3.mk 0 0 r2)).a0 = r0.a0 ∧ (permS (TA3.mk 0 0 r2)).a1 = r0.a1 ∧ (permS (TA3.mk 0 0 r2)).a2 = r0.a2) ∧
(((p2.length : Int) == 0) = false →
 Md.Loop (p0, p2, (0 : Int), (0 : Int), (0 : Int), (0 : Int), p0, (0 : Int), (0 : Int), r2, ()) (sponge_absorb_L1 (r0.a0, r0.a1, r0.a2, ()))))) : sponge_absorb_Body (p0, p1, p2, ()) (r0.a0, r0.a1, r0.a2, ()) := WPh.of_eq (by kernel_rfl) h
set_option maxRecDepth 100000 in
theorem sponge_absorb_J1_in {r0 : TA3} {nx1 : HL TB.den sponge_absorb_T1.hs → Prop} {s0 : Int} {s2 : List Int} {s9 : Int} {h0_0 : Int} {h0_1 : Int} {h0_2 : Int} {h1_0 : Int} {h38_0 : Int} {h38_1 : Int} {h38_2 : Int} (h :
((s0 = 18446744069414584321 ∧ S3 (TA3.mk h38_0 h38_1 h38_2)) ∧ nx1 (s0, s2, (IntKind.i64.wrap (s9 + 2) : Int), h0_0, h0_1, h0_2, h1_0, ((permS (TA3.mk h38_0 h38_1 h38_2)).a0 : Int), ((permS (TA3.mk h38_0 h38_1 h38_2)).a1 : Int), ((permS (TA3.mk h38_0 h38_1 h38_2)).a2 : Int), ()))) : sponge_absorb_J1 (r0.a0, r0.a1, r0.a2, ()) nx1 (s0, s2, s9, h0_0, h0_1, h0_2, h1_0, h38_0, h38_1, h38_2, ()) := ⟨mpr_of (by kernel_rfl) h⟩
def sponge_absorb_B1 (r0 : TA3) (nx1 : HL TB.den sponge_absorb_T1.hs → Prop) (k1 : Int → Int → Int → Int → Prop) (s0 : Int) (s2 : List Int) (h0_0 : Int) (h0_1 : Int) (h0_2 : Int) (h1_0 : Int) (s9 : Int) (h38_0 : Int) (h38_1 : Int) (h38_2 : Int) : Prop :=
(decide (s9 < (s2.length : Int)) = true →
(0 ≤ s9) ∧ s9 < (s2.length : Int) ∧ ((TField.mk h1_0).P = 18446744069414584321 ∧ U64 h38_0 ∧ U64 (ix s2 s9)) ∧ let r3 : Int := (h38_0 + (ix s2 s9)) % 18446744069414584321
 let v4 : Bool := decide ((IntKind.i64.wrap (s9 + 1)) < (s2.length : Int))
(v4 = true →
(0 ≤ IntKind.i64.wrap (s9 + 1)) ∧ IntKind.i64.wrap (s9 + 1) < (s2.length : Int) ∧ ((TField.mk h1_0).P = 18446744069414584321 ∧ U64 h38_1 ∧ U64 (ix s2 (IntKind.i64.wrap (s9 + 1)))) ∧ let r5 : Int := (h38_1 + (ix s2 (IntKind.i64.wrap (s9 + 1)))) % 18446744069414584321
 sponge_absorb_J1 (r0.a0, r0.a1, r0.a2, ()) nx1 (s0, s2, s9, h0_0, h0_1, h0_2, h1_0, r3, r5, h38_2, ())) ∧
(v4 = false →
 sponge_absorb_J1 (r0.a0, r0.a1, r0.a2, ()) nx1 (s0, s2, s9, h0_0, h0_1, h0_2, h1_0, r3, h38_1, h38_2, ()))) ∧
(decide (s9 < (s2.length : Int)) = false →
 h38_0 = r0.a0 ∧ h38_1 = r0.a1 ∧ h38_2 = r0.a2)
set_option maxRecDepth 100000 in
theorem sponge_absorb_lp1 {r0 : TA3} {s0 : Int} {s2 : List Int} {h0_0 : Int} {h0_1 : Int} {h0_2 : Int} {h1_0 : Int} {s9 : Int} {h38_0 : Int} {h38_1 : Int} {h38_2 : Int} (inv : Int → Int → Int → Int → Prop) (μ : Int → Int → Int → Int → Nat) (h0 : inv s9 h38_0 h38_1 h38_2) (hs : ∀ (s9 : Int) (h38_0 : Int) (h38_1 : Int) (h38_2 : Int), inv s9 h38_0 h38_1 h38_2 → sponge_absorb_B1 r0 (fun s : Int × (List Int) × Int × Int × Int × Int × Int × Int × Int × Int × Unit => ((s.1 = s0 ∧ s.2.1 = s2 ∧ s.2.2.2.1 = h0_0 ∧ s.2.2.2.2.1 = h0_1 ∧ s.2.2.2.2.2.1 = h0_2 ∧ s.2.2.2.2.2.2.1 = h1_0) ∧ inv s.2.2.1 s.2.2.2.2.2.2.2.1 s.2.2.2.2.2.2.2.2.1 s.2.2.2.2.2.2.2.2.2.1) ∧ μ s.2.2.1 s.2.2.2.2.2.2.2.1 s.2.2.2.2.2.2.2.2.1 s.2.2.2.2.2.2.2.2.2.1 < μ s9 h38_0 h38_1 h38_2) (fun s9q h38_0q h38_1q h38_2q => inv s9q h38_0q h38_1q h38_2q ∧ μ s9q h38_0q h38_1q h38_2q < μ s9 h38_0 h38_1 h38_2) s0 s2 h0_0 h0_1 h0_2 h1_0 s9 h38_0 h38_1 h38_2) : Md.Loop (s0, s2, s9, h0_0, h0_1, h0_2, h1_0, h38_0, h38_1, h38_2, ()) (sponge_absorb_L1 (r0.a0, r0.a1, r0.a2, ())) :=
  ⟨⟨fun s : Int × (List Int) × Int × Int × Int × Int × Int × Int × Int × Int × Unit => (s.1 = s0 ∧ s.2.1 = s2 ∧ s.2.2.2.1 = h0_0 ∧ s.2.2.2.2.1 = h0_1 ∧ s.2.2.2.2.2.1 = h0_2 ∧ s.2.2.2.2.2.2.1 = h1_0) ∧ inv s.2.2.1 s.2.2.2.2.2.2.2.1 s.2.2.2.2.2.2.2.2.1 s.2.2.2.2.2.2.2.2.2.1, fun s : Int × (List Int) × Int × Int × Int × Int × Int × Int × Int × Int × Unit => μ s.2.2.1 s.2.2.2.2.2.2.2.1 s.2.2.2.2.2.2.2.2.1 s.2.2.2.2.2.2.2.2.2.1, ⟨⟨rfl, rfl, rfl, rfl, rfl, rfl⟩, h0⟩, fun (s0p, s2p, s9p, h0_0p, h0_1p, h0_2p, h1_0p, h38_0p, h38_1p, h38_2p, ()) ⟨⟨eq0, eq1, eq2, eq3, eq4, eq5⟩, hi⟩ => by
    have eq0 : s0p = s0 := eq0; subst s0p; have eq1 : s2p = s2 := eq1; subst s2p; have eq2 : h0_0p = h0_0 := eq2; subst h0_0p; have eq3 : h0_1p = h0_1 := eq3; subst h0_1p; have eq4 : h0_2p = h0_2 := eq4; subst h0_2p; have eq5 : h1_0p = h1_0 := eq5; subst h1_0p; exact mpr_of (by kernel_rfl) ((congrArg (fun k => sponge_absorb_B1 r0 (fun s : Int × (List Int) × Int × Int × Int × Int × Int × Int × Int × Int × Unit => ((s.1 = s0 ∧ s.2.1 = s2 ∧ s.2.2.2.1 = h0_0 ∧ s.2.2.2.2.1 = h0_1 ∧ s.2.2.2.2.2.1 = h0_2 ∧ s.2.2.2.2.2.2.1 = h1_0) ∧ inv s.2.2.1 s.2.2.2.2.2.2.2.1 s.2.2.2.2.2.2.2.2.1 s.2.2.2.2.2.2.2.2.2.1) ∧ μ s.2.2.1 s.2.2.2.2.2.2.2.1 s.2.2.2.2.2.2.2.2.1 s.2.2.2.2.2.2.2.2.2.1 < μ s9p h38_0p h38_1p h38_2p) k s0 s2 h0_0 h0_1 h0_2 h1_0 s9p h38_0p h38_1p h38_2p) (lpk4 (⟨rfl, rfl, rfl, rfl, rfl, rfl⟩ : s0 = s0 ∧ s2 = s2 ∧ h0_0 = h0_0 ∧ h0_1 = h0_1 ∧ h0_2 = h0_2 ∧ h1_0 = h1_0) inv (fun s9q h38_0q h38_1q h38_2q => μ s9q h38_0q h38_1q h38_2q < μ s9p h38_0p h38_1p h38_2p))).mpr (hs s9p h38_0p h38_1p h38_2p hi))⟩⟩
theorem bd93 : Callable Try.prog 93 := ⟨by rw [Try.func93]; kernel_rfl, by rw [Try.func93]; show some _ ≠ some _; decide⟩
theorem sponge_absorb_body (p0 : Int) (p1 : Int) (p2 : List Int) (h : p0 = 18446744069414584321 ∧ U64 p1 ∧ Us p2 ∧ p2.length ≤ 1099511627776) : sponge_absorb_Body (p0, p1, p2, ()) (((absS p1 p2).a0 : Int), ((absS p1 p2).a1 : Int), ((absS p1 p2).a2 : Int), ()) := by
  obtain ⟨hP, h1, h2, h3⟩ := h
  subst hP
  have hp : ∀ s : TA3, S3 (permS s) := fun s => by
    show S3 (rnd _ _)
    unfold rnd mixS S3
    dsimp only
    omega
  have hi : S3 (absI p1 p2) := by unfold absI S3; dsimp only; omega
  have e : IntKind.u64.wrap (p2.length : Int) = p2.length := wu _ (by omega) (by omega)
  have em : (p1 * 65536 % 18446744069414584321 + (p2.length : Int)) % 18446744069414584321 = (absI p1 p2).a2 := rfl
  refine sponge_absorb_in ?_
  rw [e]
  refine ⟨⟨rfl, h1, by omega⟩, ⟨rfl, by omega, by omega⟩, fun h => ?_, fun h => ?_⟩
  · have h : p2 = [] := by simpa using h
    refine ⟨⟨rfl, ?_⟩, ?_⟩
    · exact hi
    · have : permS ⟨0, 0, (p1 * 65536 % 18446744069414584321 + (p2.length : Int)) % 18446744069414584321⟩ = absS p1 p2 := by unfold absS; rw [if_pos h]; rfl
      rw [this]
      exact ⟨rfl, rfl, rfl⟩
  · have h : p2 ≠ [] := by simpa using h
    have hv : absL p2 (absI p1 p2) = absS p1 p2 := by unfold absS; rw [if_neg h]
    rw [em]
    refine sponge_absorb_lp1 (r0 := absS p1 p2) (fun i a b c => 0 ≤ i ∧ i ≤ p2.length + 1 ∧ absL (p2.drop i.toNat) ⟨a, b, c⟩ = absS p1 p2 ∧ S3 ⟨a, b, c⟩) (fun i _ _ _ => (p2.length + 2 - i).toNat) ⟨by omega, by omega, hv, hi⟩ ?_
    rintro i a b c ⟨g0, g1, g2, g3⟩
    obtain ⟨h3a, h3b, h3c⟩ := g3
    refine ⟨fun hh => ?_, fun hh => ?_⟩
    · have hh := of_decide_eq_true hh
      have hx := h2 _ (ix_mem p2 i g0 hh)
      rw [wi (i + 1) (by omega) (by omega)]
      have fin : ∀ nx x y z, S3 ⟨x, y, z⟩ → absL (p2.drop (i + 2).toNat) (permS ⟨x, y, z⟩) = absS p1 p2 → (0 ≤ i + 2 ∧ i + 2 ≤ p2.length + 1 ∧ absL (p2.drop (i + 2).toNat) (permS ⟨x, y, z⟩) = absS p1 p2 ∧ S3 (permS ⟨x, y, z⟩) → (p2.length + 2 - (i + 2)).toNat < (p2.length + 2 - i).toNat → nx ((18446744069414584321 : Int), p2, (i + 2 : Int), (0 : Int), (0 : Int), (0 : Int), (18446744069414584321 : Int), (permS ⟨x, y, z⟩).a0, (permS ⟨x, y, z⟩).a1, (permS ⟨x, y, z⟩).a2, ())) → sponge_absorb_J1 ((absS p1 p2).a0, (absS p1 p2).a1, (absS p1 p2).a2, ()) nx ((18446744069414584321 : Int), p2, i, (0 : Int), (0 : Int), (0 : Int), (18446744069414584321 : Int), x, y, z, ()) := by
        intro nx x y z hS hv' hn
        refine sponge_absorb_J1_in (r0 := absS p1 p2) ?_
        rw [wi (i + 2) (by omega) (by omega)]
        exact ⟨⟨rfl, hS⟩, hn ⟨by omega, by omega, hv', hp _⟩ (by omega)⟩
      have hdrop := drop_ix p2 i g0 hh
      rw [hdrop] at g2
      refine ⟨g0, hh, ⟨rfl, h3a, hx⟩, fun h5 => ?_, fun h5 => ?_⟩
      · have h5 := of_decide_eq_true h5
        have hy := h2 _ (ix_mem p2 (i + 1) (by omega) h5)
        rw [drop_ix p2 (i + 1) (by omega) h5, show i + 1 + 1 = i + 2 by omega] at g2
        refine ⟨by omega, h5, ⟨rfl, h3b, hy⟩, fin _ _ _ _ (S3m (by omega) (by omega) h3c) g2 fun k1 k2 => ⟨⟨⟨rfl, rfl, rfl, rfl, rfl, rfl⟩, k1⟩, k2⟩⟩
      · have h5 := of_decide_eq_false h5
        have ed : p2.drop (i + 1).toNat = [] := List.drop_eq_nil_of_le (by omega)
        have ed2 : p2.drop (i + 2).toNat = [] := List.drop_eq_nil_of_le (by omega)
        rw [ed] at g2
        exact fin _ _ _ _ (S3m (by omega) h3b h3c) (by rw [ed2]; exact g2) fun k1 k2 => ⟨⟨⟨rfl, rfl, rfl, rfl, rfl, rfl⟩, k1⟩, k2⟩
    · have hh := of_decide_eq_false hh
      rw [List.drop_eq_nil_of_le (by omega)] at g2
      have g2 : (⟨a, b, c⟩ : TA3) = absS p1 p2 := g2
      rw [← g2]
      exact ⟨rfl, rfl, rfl⟩
noncomputable def sponge_absorb_con : Con TB.den := sponge_absorb_sh.fnR (fun x => (fun (p0 : Int) (p1 : Int) (p2 : List Int) => p0 = 18446744069414584321 ∧ U64 p1 ∧ Us p2 ∧ p2.length ≤ 1099511627776) x.1 x.2.1 x.2.2.1) fun x => ((fun (p0 : Int) (p1 : Int) (p2 : List Int) => ((absS p1 p2).a0 : Int)) x.1 x.2.1 x.2.2.1, (fun (p0 : Int) (p1 : Int) (p2 : List Int) => ((absS p1 p2).a1 : Int)) x.1 x.2.1 x.2.2.1, (fun (p0 : Int) (p1 : Int) (p2 : List Int) => ((absS p1 p2).a2 : Int)) x.1 x.2.1 x.2.2.1, ())
theorem sponge_absorb_ok : sponge_absorb_con.Ok Try.prog TB := Con.ok_fn sponge_absorb_sh bd93 fun x h => sponge_absorb_snd (sponge_absorb_body x.1 x.2.1 x.2.2.1 h)
end Go.Proofs.Ytnmakgfmimagmaa
namespace Go.Proofs.Ytnmakgfmimagmaa
open Go Go.Bv Go.Cv Go.Md Go.RowKit
def sponge_Hash_sh : Con TB.den := Con.mk0 86 [.one (.d (.int .u64)), .one (.d (.int .u64)), .one (.d (.sl (.int .u64)))] [] (.one (.one (.d (.int .u64)))) []
abbrev sponge_Hash_I := HL TB.den (hsT sponge_Hash_sh.ins (hsOs sponge_Hash_sh.pre))
abbrev sponge_Hash_O := HL TB.den (hsV sponge_Hash_sh.res (hsOs sponge_Hash_sh.post))
noncomputable def sponge_Hash_cx : Cx TB := ⟨inf, [Field_Valid_con, sponge_absorb_con], [], 4⟩
noncomputable def sponge_Hash_code : Code := Try.f86.body.getD .skip
noncomputable def sponge_Hash_rs : List ResultVar := Try.f86.results.toList
noncomputable def sponge_Hash_an (o : sponge_Hash_O) : An TB := .no
noncomputable def sponge_Hash_Body (x : sponge_Hash_I) (o : sponge_Hash_O) : Prop := WPh TB sponge_Hash_cx 16 0 sponge_Hash_code (sponge_Hash_an o) (sponge_Hash_sh.st TB x) (retTQ TB sponge_Hash_cx sponge_Hash_sh sponge_Hash_rs o)
set_option maxRecDepth 100000 in
theorem sponge_Hash_obl (o : sponge_Hash_O) : OblH TB sponge_Hash_cx 16 0 sponge_Hash_code (sponge_Hash_an o) (retTQ TB sponge_Hash_cx sponge_Hash_sh sponge_Hash_rs o) :=
  OblH.of_eq (X := (True ∧ ((True ∧ ((True ∧ True) ∧ True)) ∧ (True ∧ True)))) (by kernel_rfl) ⟨trivial, ⟨⟨trivial, ⟨⟨trivial, trivial⟩, trivial⟩⟩, ⟨trivial, trivial⟩⟩⟩
set_option maxRecDepth 100000 in
theorem sponge_Hash_snd {x : sponge_Hash_I} {o : sponge_Hash_O} (h : sponge_Hash_Body x o) : SoundH Try.prog sponge_Hash_sh.f ((sponge_Hash_sh.args idf x).map (er TB)) ((sponge_Hash_sh.obs idf x).map (erO TB)) (er TB (sponge_Hash_sh.val idf o)) ((sponge_Hash_sh.ops idf o).map (erO TB)) :=
  Con.soundH (c := sponge_Hash_sh) (C := sponge_Hash_cx) TBok ⟨inf_ok, (all_cons Field_Valid_ok (all_cons sponge_absorb_ok all_nil)), all_nil⟩ mix Try.func86 (show Try.f86.body = some sponge_Hash_code by kernel_rfl) (show Try.f86.ntmps = 16 by kernel_rfl) (show Try.f86.results.toList = sponge_Hash_rs by kernel_rfl) rfl h (sponge_Hash_obl o)
set_option maxRecDepth 100000 in
theorem sponge_Hash_in {p0 : Int} {p1 : Int} {p2 : List Int} {r0 : Int} (h :
(((TField.mk p0).P = 18446744069414584321) ∧ ((!true) = true →
 0 = r0) ∧
((!true) = false →
(p0 = 18446744069414584321 ∧ U64 p1 ∧ Us p2 ∧ p2.length ≤ 1099511627776) ∧ (absS p1 p2).a0 = r0))) : sponge_Hash_Body (p0, p1, p2, ()) (r0, ()) := WPh.of_eq (by kernel_rfl) h
theorem bd86 : Callable Try.prog 86 := ⟨by rw [Try.func86]; kernel_rfl, by rw [Try.func86]; show some _ ≠ some _; decide⟩
theorem sponge_Hash_body (p0 : Int) (p1 : Int) (p2 : List Int) (h : p0 = 18446744069414584321 ∧ U64 p1 ∧ Us p2 ∧ p2.length ≤ 1099511627776) : sponge_Hash_Body (p0, p1, p2, ()) ((hashS p1 p2 : Int), ()) := by
  obtain ⟨hP, h1, h2, h3⟩ := h
  subst hP
  exact sponge_Hash_in ⟨rfl, fun h => by simp at h, fun _ => ⟨⟨rfl, h1, h2, h3⟩, rfl⟩⟩
noncomputable def sponge_Hash_con : Con TB.den := sponge_Hash_sh.fnR (fun x => (fun (p0 : Int) (p1 : Int) (p2 : List Int) => p0 = 18446744069414584321 ∧ U64 p1 ∧ Us p2 ∧ p2.length ≤ 1099511627776) x.1 x.2.1 x.2.2.1) fun x => ((fun (p0 : Int) (p1 : Int) (p2 : List Int) => (hashS p1 p2 : Int)) x.1 x.2.1 x.2.2.1, ())
theorem sponge_Hash_ok : sponge_Hash_con.Ok Try.prog TB := Con.ok_fn sponge_Hash_sh bd86 fun x h => sponge_Hash_snd (sponge_Hash_body x.1 x.2.1 x.2.2.1 h)
end Go.Proofs.Ytnmakgfmimagmaa
namespace Go.Proofs.Ytnmakgfmimagmaa
open Go Go.Bv Go.Cv Go.Md Go.RowKit
def sponge_Pack_sh : Con TB.den := Con.mk0 87 [.one (.d (.sl (.int .u8)))] [] (.one (.one (.d (.sl (.int .u64))))) []
abbrev sponge_Pack_I := HL TB.den (hsT sponge_Pack_sh.ins (hsOs sponge_Pack_sh.pre))
abbrev sponge_Pack_O := HL TB.den (hsV sponge_Pack_sh.res (hsOs sponge_Pack_sh.post))
noncomputable def sponge_Pack_cx : Cx TB := ⟨inf, [], [], 4⟩
noncomputable def sponge_Pack_code : Code := Try.f87.body.getD .skip
noncomputable def sponge_Pack_rs : List ResultVar := Try.f87.results.toList
noncomputable def sponge_Pack_Q1 (o : sponge_Pack_O) : Exit → TSt TB.den → Prop := thenT TB (fun s => ghs TB [] s fun s => WP TB sponge_Pack_cx 55 0 (cB (cB (cB (cB sponge_Pack_code)))) .no s (retTQ TB sponge_Pack_cx sponge_Pack_sh sponge_Pack_rs o)) (retTQ TB sponge_Pack_cx sponge_Pack_sh sponge_Pack_rs o)
def sponge_Pack_T2 : Tm := ⟨[1], [.tip (.int .u64)], [0, 3, 4], [.one (.d (.sl (.int .u8))), .one (.own 0), .one (.d (.int .i64))], 2⟩
noncomputable def sponge_Pack_Q2 (o : sponge_Pack_O) (nx2 : HL TB.den sponge_Pack_T2.hs → Prop) : Exit → TSt TB.den → Prop := thenT TB (fun s => sponge_Pack_T2.mat TB 0 s nx2) (blockT TB 0 (sponge_Pack_Q1 o))
noncomputable def sponge_Pack_Q3 (o : sponge_Pack_O) (nx2 : HL TB.den sponge_Pack_T2.hs → Prop) : Exit → TSt TB.den → Prop := thenT TB (fun s => ghs TB [] s fun s => WP TB sponge_Pack_cx 55 0 (cB (cB (cA (cA (cB (cA (cB (cB (cB sponge_Pack_code))))))))) .no s (sponge_Pack_Q2 o nx2)) (sponge_Pack_Q2 o nx2)
noncomputable def sponge_Pack_Q4 (o : sponge_Pack_O) (nx2 : HL TB.den sponge_Pack_T2.hs → Prop) : Exit → TSt TB.den → Prop := thenT TB (fun s => ghs TB [] s fun s => WP TB sponge_Pack_cx 55 0 (cB (cB (cB (cA (cA (cB (cA (cA (cB (cA (cB (cB (cB sponge_Pack_code))))))))))))) .no s (blockT TB 1 (sponge_Pack_Q3 o nx2))) (blockT TB 1 (sponge_Pack_Q3 o nx2))
def sponge_Pack_T1 : Tm := ⟨[1], [.tip (.int .u64)], [0, 3, 4, 6, 35, 36, 37], [.one (.d (.sl (.int .u8))), .one (.own 0), .one (.d (.int .i64)), .one (.d (.int .u64)), .one (.d (.sl (.int .u8))), .one (.d (.int .i64)), .one (.d (.int .i64))], 2⟩
noncomputable def sponge_Pack_Q5 (o : sponge_Pack_O) (nx2 : HL TB.den sponge_Pack_T2.hs → Prop) (nx1 : HL TB.den sponge_Pack_T1.hs → Prop) : Exit → TSt TB.den → Prop := thenT TB (fun s => sponge_Pack_T1.mat TB 0 s nx1) (blockT TB 2 (sponge_Pack_Q4 o nx2))
noncomputable def sponge_Pack_L1 (o : sponge_Pack_O) (nx2 : HL TB.den sponge_Pack_T2.hs → Prop) (nx1 : HL TB.den sponge_Pack_T1.hs → Prop) (i : HL TB.den sponge_Pack_T1.hs) : Prop := WP TB sponge_Pack_cx 55 0 (cA (cA (cB (cA (cB (cB (cA (cA (cB (cA (cA (cB (cA (cB (cB (cB sponge_Pack_code)))))))))))))))) .no (sponge_Pack_T1.fill TB i) (sponge_Pack_Q5 o nx2 nx1)
noncomputable def sponge_Pack_A8 (o : sponge_Pack_O) (nx2 : HL TB.den sponge_Pack_T2.hs → Prop) : An TB := .nd [] .no [] (.lp [] sponge_Pack_T1 (sponge_Pack_L1 o nx2) fun nx1 => .no)
noncomputable def sponge_Pack_A9 (o : sponge_Pack_O) (nx2 : HL TB.den sponge_Pack_T2.hs → Prop) : An TB := .nd [] .no [] (.nd [] .no [] (.nd [] (sponge_Pack_A8 o nx2) [] .no))
noncomputable def sponge_Pack_L2 (o : sponge_Pack_O) (nx2 : HL TB.den sponge_Pack_T2.hs → Prop) (i : HL TB.den sponge_Pack_T2.hs) : Prop := WP TB sponge_Pack_cx 55 0 (cA (cA (cB (cA (cB (cB (cB sponge_Pack_code))))))) (.nd [] .no [] (.nd [] (sponge_Pack_A9 o nx2) [] .no)) (sponge_Pack_T2.fill TB i) (sponge_Pack_Q2 o nx2)
noncomputable def sponge_Pack_A11 (o : sponge_Pack_O) : An TB := .lp [.frz 0 [3]] sponge_Pack_T2 (sponge_Pack_L2 o) fun nx2 => (.nd [] .no [] (.nd [] (sponge_Pack_A9 o nx2) [] .no))
noncomputable def sponge_Pack_A12 (o : sponge_Pack_O) : An TB := .nd [] .no [] (.nd [] (.nd [] .no [] (sponge_Pack_A11 o)) [] .no)
noncomputable def sponge_Pack_an (o : sponge_Pack_O) : An TB := .nd [] .no [] (.nd [] .no [] (sponge_Pack_A12 o))
noncomputable def sponge_Pack_Body (x : sponge_Pack_I) (o : sponge_Pack_O) : Prop := WPh TB sponge_Pack_cx 55 0 sponge_Pack_code (sponge_Pack_an o) (sponge_Pack_sh.st TB x) (retTQ TB sponge_Pack_cx sponge_Pack_sh sponge_Pack_rs o)
set_option maxRecDepth 100000 in
theorem sponge_Pack_obl (o : sponge_Pack_O) : OblH TB sponge_Pack_cx 55 0 sponge_Pack_code (sponge_Pack_an o) (retTQ TB sponge_Pack_cx sponge_Pack_sh sponge_Pack_rs o) :=
  OblH.of_eq (X := (True ∧ (True ∧ (True ∧ ((True ∧ ((∀ nx i, (sponge_Pack_L2 o) nx i = (sponge_Pack_L2 o) nx i) ∧ ∀ nx2 : HL TB.den sponge_Pack_T2.hs → Prop, ((True ∧ (True ∧ True)) ∧ ((True ∧ (True ∧ ((True ∧ ((∀ nx i, (sponge_Pack_L1 o nx2) nx i = (sponge_Pack_L1 o nx2) nx i) ∧ ∀ nx1 : HL TB.den sponge_Pack_T1.hs → Prop, (True ∧ ((True ∧ True) ∧ ((True ∧ True) ∧ True))))) ∧ True))) ∧ True)))) ∧ (True ∧ True)))))) (by kernel_rfl) ⟨trivial, ⟨trivial, ⟨trivial, ⟨⟨trivial, ⟨fun _ _ => rfl, fun _ => ⟨⟨trivial, ⟨trivial, trivial⟩⟩, ⟨⟨trivial, ⟨trivial, ⟨⟨trivial, ⟨fun _ _ => rfl, fun _ => ⟨trivial, ⟨⟨trivial, trivial⟩, ⟨⟨trivial, trivial⟩, trivial⟩⟩⟩⟩⟩, trivial⟩⟩⟩, trivial⟩⟩⟩⟩, ⟨trivial, trivial⟩⟩⟩⟩⟩
set_option maxRecDepth 100000 in
theorem sponge_Pack_snd {x : sponge_Pack_I} {o : sponge_Pack_O} (h : sponge_Pack_Body x o) : SoundH Try.prog sponge_Pack_sh.f ((sponge_Pack_sh.args idf x).map (er TB)) ((sponge_Pack_sh.obs idf x).map (erO TB)) (er TB (sponge_Pack_sh.val idf o)) ((sponge_Pack_sh.ops idf o).map (erO TB)) :=
  Con.soundH (c := sponge_Pack_sh) (C := sponge_Pack_cx) TBok ⟨inf_ok, all_nil, all_nil⟩ mix Try.func87 (show Try.f87.body = some sponge_Pack_code by kernel_rfl) (show Try.f87.ntmps = 55 by kernel_rfl) (show Try.f87.results.toList = sponge_Pack_rs by kernel_rfl) rfl h (sponge_Pack_obl o)
set_option maxRecDepth 100000 in
theorem sponge_Pack_in {p0 : List Int} {r0 : List Int} (h :
(let v1 : Int := IntKind.i64.wrap ((IntKind.i64.wrap ((p0.length : Int) + 7)) - 1)
 let v2 : Int := IntKind.i64.wrap (1 + (IntKind.i64.wrap (Int.tdiv v1 7)))
 0 ≤ (1 : Int) ∧ (1 : Int) ≤ v2 ∧ (v2.toNat * 8 ≤ 140737488355328) ∧ (v2.toNat ≤ maxLen) ∧ (0 ≤ (0 : Int) ∧ 0 < (1 : Int)) ∧ (0 ≤ (0 : Int) ∧ 0 < ((List.replicate 1 (0 : Int)).length : Int)) ∧ (1 = ((List.replicate 1 (0 : Int)).set (0 : Int).toNat (IntKind.u64.wrap (p0.length : Int))).length) ∧ ((List.replicate 1 (0 : Int)).set (0 : Int).toNat (IntKind.u64.wrap (p0.length : Int)) = (List.replicate 1 (0 : Int)).set (0 : Int).toNat (IntKind.u64.wrap (p0.length : Int))) ∧ Md.Loop (p0, (0 : Int), ((List.replicate 1 (0 : Int)).set (0 : Int).toNat (IntKind.u64.wrap (p0.length : Int)) : List Int), ()) (sponge_Pack_L2 (r0, ())))) : sponge_Pack_Body (p0, ()) (r0, ()) := WPh.of_eq (by kernel_rfl) h
def sponge_Pack_B2 (r0 : List Int) (nx2 : HL TB.den sponge_Pack_T2.hs → Prop) (k2 : Int → List Int → Prop) (s0 : List Int) (s4 : Int) (g1 : List Int) : Prop :=
(decide (s4 < (s0.length : Int)) = true →
 let v3 : Int := (if (s0.length : Int) < IntKind.i64.wrap (s4 + 7) then (s0.length : Int) else IntKind.i64.wrap (s4 + 7))
(0 ≤ s4) ∧ s4 ≤ v3 ∧ v3 ≤ (s0.length : Int) ∧ let v4 : Int := (((s0.take v3.toNat).drop s4.toNat).length : Int)
(g1 = g1) ∧ Md.Loop (s0, s4, (0 : Int), ((s0.take v3.toNat).drop s4.toNat : List Int), v4, (0 : Int), g1, ()) (sponge_Pack_L1 (r0, ()) nx2)) ∧
(decide (s4 < (s0.length : Int)) = false →
 g1 = r0)
set_option maxRecDepth 100000 in
theorem sponge_Pack_lp2 {r0 : List Int} {s0 : List Int} {s4 : Int} {g1 : List Int} (inv : Int → List Int → Prop) (μ : Int → List Int → Nat) (h0 : inv s4 g1) (hs : ∀ (s4 : Int) (g1 : List Int), inv s4 g1 → sponge_Pack_B2 r0 (fun s : (List Int) × Int × (List Int) × Unit => ((s.1 = s0) ∧ inv s.2.1 s.2.2.1) ∧ μ s.2.1 s.2.2.1 < μ s4 g1) (fun s4q g1q => inv s4q g1q ∧ μ s4q g1q < μ s4 g1) s0 s4 g1) : Md.Loop (s0, s4, g1, ()) (sponge_Pack_L2 (r0, ())) :=
  ⟨⟨fun s : (List Int) × Int × (List Int) × Unit => (s.1 = s0) ∧ inv s.2.1 s.2.2.1, fun s : (List Int) × Int × (List Int) × Unit => μ s.2.1 s.2.2.1, ⟨rfl, h0⟩, fun (s0p, s4p, g1p, ()) ⟨eq0, hi⟩ => by
    have eq0 : s0p = s0 := eq0; subst s0p; exact mpr_of (by kernel_rfl) ((congrArg (fun k => sponge_Pack_B2 r0 (fun s : (List Int) × Int × (List Int) × Unit => ((s.1 = s0) ∧ inv s.2.1 s.2.2.1) ∧ μ s.2.1 s.2.2.1 < μ s4p g1p) k s0 s4p g1p) (lpk2 (rfl : s0 = s0) inv (fun s4q g1q => μ s4q g1q < μ s4p g1p))).mpr (hs s4p g1p hi))⟩⟩
def sponge_Pack_B1 (r0 : List Int) (nx2 : HL TB.den sponge_Pack_T2.hs → Prop) (k1 : Int → Int → Prop) (s0 : List Int) (s4 : Int) (s35 : List Int) (s36 : Int) (g1 : List Int) (s6 : Int) (s37 : Int) : Prop :=
(decide (s37 < s36) = true →
(0 ≤ s37) ∧ s37 < (s35.length : Int) ∧ (0 ≤ IntKind.i64.wrap (8 * s37)) ∧ let v5 : Int := ishl .u64 (IntKind.u64.wrap (ix s35 s37)) (IntKind.i64.wrap (8 * s37))
(g1 = g1) ∧ k1 (ior .u64 s6 v5 : Int) (IntKind.i64.wrap (s37 + 1) : Int)) ∧
(decide (s37 < s36) = false →
 g1.length = g1.length ∧ (g1.length + [s6].length) * 8 ≤ 140737488355328 ∧ g1.length + [s6].length ≤ maxLen ∧ (g1 ++ [s6] = g1 ++ [s6]) ∧ nx2 (s0, (IntKind.i64.wrap (s4 + 7) : Int), (g1 ++ [s6] : List Int), ()))
set_option maxRecDepth 100000 in
theorem sponge_Pack_lp1 {r0 : List Int} {nx2 : HL TB.den sponge_Pack_T2.hs → Prop} {s0 : List Int} {s4 : Int} {s35 : List Int} {s36 : Int} {g1 : List Int} {s6 : Int} {s37 : Int} (inv : Int → Int → Prop) (μ : Int → Int → Nat) (h0 : inv s6 s37) (hs : ∀ (s6 : Int) (s37 : Int), inv s6 s37 → sponge_Pack_B1 r0 nx2 (fun s6q s37q => inv s6q s37q ∧ μ s6q s37q < μ s6 s37) s0 s4 s35 s36 g1 s6 s37) : Md.Loop (s0, s4, s6, s35, s36, s37, g1, ()) (sponge_Pack_L1 (r0, ()) nx2) :=
  ⟨⟨fun s : (List Int) × Int × Int × (List Int) × Int × Int × (List Int) × Unit => (s.1 = s0 ∧ s.2.1 = s4 ∧ s.2.2.2.1 = s35 ∧ s.2.2.2.2.1 = s36 ∧ s.2.2.2.2.2.2.1 = g1) ∧ inv s.2.2.1 s.2.2.2.2.2.1, fun s : (List Int) × Int × Int × (List Int) × Int × Int × (List Int) × Unit => μ s.2.2.1 s.2.2.2.2.2.1, ⟨⟨rfl, rfl, rfl, rfl, rfl⟩, h0⟩, fun (s0p, s4p, s6p, s35p, s36p, s37p, g1p, ()) ⟨⟨eq0, eq1, eq2, eq3, eq4⟩, hi⟩ => by
    have eq0 : s0p = s0 := eq0; subst s0p; have eq1 : s4p = s4 := eq1; subst s4p; have eq2 : s35p = s35 := eq2; subst s35p; have eq3 : s36p = s36 := eq3; subst s36p; have eq4 : g1p = g1 := eq4; subst g1p; exact mpr_of (by kernel_rfl) ((congrArg (fun k => sponge_Pack_B1 r0 nx2 k s0 s4 s35 s36 g1 s6p s37p) (lpk2 (⟨rfl, rfl, rfl, rfl, rfl⟩ : s0 = s0 ∧ s4 = s4 ∧ s35 = s35 ∧ s36 = s36 ∧ g1 = g1) inv (fun s6q s37q => μ s6q s37q < μ s6p s37p))).mpr (hs s6p s37p hi))⟩⟩
theorem bd87 : Callable Try.prog 87 := ⟨by rw [Try.func87]; kernel_rfl, by rw [Try.func87]; show some _ ≠ some _; decide⟩
theorem sponge_Pack_body (p0 : List Int) (h : By p0 ∧ p0.length ≤ 1099511627776) : sponge_Pack_Body (p0, ()) ((packS p0 : List Int), ()) := by
  obtain ⟨hb, hl⟩ := h
  refine sponge_Pack_in ?_
  rw [wi ((p0.length : Int) + 7) (by omega) (by omega), wi ((p0.length : Int) + 7 - 1) (by omega) (by omega)]
  try simp only []
  rw [tdiv_nn _ _ (by omega), wi (((p0.length : Int) + 7 - 1) / 7) (by omega) (by omega), wi (1 + ((p0.length : Int) + 7 - 1) / 7) (by omega) (by omega), wu (p0.length : Int) (by omega) (by omega)]
  refine ⟨by omega, by omega, by omega, by unfold maxLen; omega, by omega, ⟨by omega, by decide⟩, by trivial, by trivial, ?_⟩
  refine sponge_Pack_lp2 (fun i g => 0 ≤ i ∧ i ≤ p0.length + 7 ∧ g ++ packN p0.length (p0.drop i.toNat) = packS p0 ∧ (g.length : Int) ≤ 1 + i) (fun i _ => (p0.length + 7 - i).toNat) ⟨by omega, by omega, rfl, by show (1 : Int) ≤ _; omega⟩ ?_
  rintro i g ⟨g0, g1, g2, g3⟩
  refine ⟨fun h => ?_, fun h => ?_⟩
  · have h := of_decide_eq_true h
    have h7 : IntKind.i64.wrap (i + 7) = i + 7 := wi (i + 7) (by omega) (by omega)
    rw [h7]
    have ev : ((p0.take (if (p0.length : Int) < i + 7 then (p0.length : Int) else i + 7).toNat).drop i.toNat) = (p0.drop i.toNat).take 7 := by
      split
      · rw [Int.toNat_natCast, List.take_length, List.take_of_length_le (by simp; omega)]
      · rw [List.drop_take, show (i + 7).toNat - i.toNat = 7 by omega]
    simp only [ev]
    refine ⟨g0, by split <;> omega, by split <;> omega, by trivial, ?_⟩
    have hpb : By ((p0.drop i.toNat).take 7) := (hb.drop _).take _
    have hpl : ((p0.drop i.toNat).take 7).length ≤ 7 := by simp; omega
    have hnext : g ++ [val ((p0.drop i.toNat).take 7)] ++ packN p0.length (p0.drop (i + 7).toNat) = packS p0 := by
      rw [← g2, List.append_assoc]
      congr 1
      have h5 : (p0.drop i.toNat).length ≤ p0.length := by simp
      have h6 := packN_step p0.length (p0.drop i.toNat) h5 (by intro h7; have := congrArg List.length h7; simp at this; omega)
      rw [h6, List.drop_drop, show i.toNat + 7 = (i + 7).toNat by omega]
      rfl
    generalize (p0.drop i.toNat).take 7 = part at *
    refine sponge_Pack_lp1 (fun n k => 0 ≤ k ∧ k ≤ part.length ∧ n = val (part.take k.toNat)) (fun _ k => (part.length - k).toNat) ⟨by omega, by omega, rfl⟩ ?_
    rintro n k ⟨k0, k1, rfl⟩
    refine ⟨fun hk => ?_, fun hk => ?_⟩
    · have hk := of_decide_eq_true hk
      have hx := hpb _ (ix_mem part k k0 hk)
      have hlen : ((part.take k.toNat).length : Int) = k := by rw [List.length_take]; omega
      rw [wi (8 * k) (by omega) (by omega), wu (ix part k) (by omega) (by omega), wi (k + 1) (by omega) (by omega)]
      have := ior_val (part.take k.toNat) (ix part k) (hpb.take _) (by omega) hx
      rw [hlen] at this
      simp only [this]
      refine ⟨k0, hk, by omega, by trivial, ⟨by omega, by omega, ?_⟩, by omega⟩
      rw [take_succ_ix part k k0 hk]
    · have hk := of_decide_eq_false hk
      have e1 : part.take k.toNat = part := List.take_of_length_le (by omega)
      rw [e1, h7]
      refine ⟨by trivial, by simp only [List.length_cons, List.length_nil]; omega, by simp only [List.length_cons, List.length_nil]; unfold maxLen; omega, by trivial, ⟨rfl, (?_ : 0 ≤ i + 7 ∧ i + 7 ≤ p0.length + 7 ∧ _ ∧ _)⟩, (?_ : (p0.length + 7 - (i + 7)).toNat < (p0.length + 7 - i).toNat)⟩
      · exact ⟨by omega, by omega, hnext, by simp only [List.length_append, List.length_cons, List.length_nil]; omega⟩
      · omega
  · have h := of_decide_eq_false h
    rw [List.drop_eq_nil_of_le (by omega)] at g2
    have : packN p0.length ([] : List Int) = [] := by cases p0.length <;> rfl
    rw [this, List.append_nil] at g2
    exact g2
noncomputable def sponge_Pack_con : Con TB.den := sponge_Pack_sh.fnR (fun x => (fun (p0 : List Int) => By p0 ∧ p0.length ≤ 1099511627776) x.1) fun x => ((fun (p0 : List Int) => (packS p0 : List Int)) x.1, ())
theorem sponge_Pack_ok : sponge_Pack_con.Ok Try.prog TB := Con.ok_fn sponge_Pack_sh bd87 fun x h => sponge_Pack_snd (sponge_Pack_body x.1 h)
end Go.Proofs.Ytnmakgfmimagmaa
namespace Go.Proofs.Ytnmakgfmimagmaa
open Go Go.Bv Go.Cv Go.Md Go.RowKit
def sponge_HashBytes_sh : Con TB.den := Con.mk0 62 [.one (.d (.int .u64)), .one (.d (.sl (.int .u8)))] [] (.one (.one (.d (.int .u64)))) []
abbrev sponge_HashBytes_I := HL TB.den (hsT sponge_HashBytes_sh.ins (hsOs sponge_HashBytes_sh.pre))
abbrev sponge_HashBytes_O := HL TB.den (hsV sponge_HashBytes_sh.res (hsOs sponge_HashBytes_sh.post))
noncomputable def sponge_HashBytes_cx : Cx TB := ⟨inf, [sponge_Pack_con, sponge_Hash_con], [], 4⟩
noncomputable def sponge_HashBytes_code : Code := Try.f62.body.getD .skip
noncomputable def sponge_HashBytes_rs : List ResultVar := Try.f62.results.toList
noncomputable def sponge_HashBytes_an (o : sponge_HashBytes_O) : An TB := .no
noncomputable def sponge_HashBytes_Body (x : sponge_HashBytes_I) (o : sponge_HashBytes_O) : Prop := WPh TB sponge_HashBytes_cx 9 0 sponge_HashBytes_code (sponge_HashBytes_an o) (sponge_HashBytes_sh.st TB x) (retTQ TB sponge_HashBytes_cx sponge_HashBytes_sh sponge_HashBytes_rs o)
set_option maxRecDepth 100000 in
theorem sponge_HashBytes_obl (o : sponge_HashBytes_O) : OblH TB sponge_HashBytes_cx 9 0 sponge_HashBytes_code (sponge_HashBytes_an o) (retTQ TB sponge_HashBytes_cx sponge_HashBytes_sh sponge_HashBytes_rs o) :=
  OblH.of_eq (X := (True ∧ (True ∧ True))) (by kernel_rfl) ⟨trivial, ⟨trivial, trivial⟩⟩
set_option maxRecDepth 100000 in
theorem sponge_HashBytes_snd {x : sponge_HashBytes_I} {o : sponge_HashBytes_O} (h : sponge_HashBytes_Body x o) : SoundH Try.prog sponge_HashBytes_sh.f ((sponge_HashBytes_sh.args idf x).map (er TB)) ((sponge_HashBytes_sh.obs idf x).map (erO TB)) (er TB (sponge_HashBytes_sh.val idf o)) ((sponge_HashBytes_sh.ops idf o).map (erO TB)) :=
  Con.soundH (c := sponge_HashBytes_sh) (C := sponge_HashBytes_cx) TBok ⟨inf_ok, (all_cons sponge_Pack_ok (all_cons sponge_Hash_ok all_nil)), all_nil⟩ mix Try.func62 (show Try.f62.body = some sponge_HashBytes_code by kernel_rfl) (show Try.f62.ntmps = 9 by kernel_rfl) (show Try.f62.results.toList = sponge_HashBytes_rs by kernel_rfl) rfl h (sponge_HashBytes_obl o)
set_option maxRecDepth 100000 in
theorem sponge_HashBytes_in {p0 : Int} {p1 : List Int} {r0 : Int} (h :
((By p1 ∧ p1.length ≤ 1099511627776) ∧ ((18446744069414584321 : Int) = 18446744069414584321 ∧ U64 p0 ∧ Us (packS p1) ∧ (packS p1).length ≤ 1099511627776) ∧ hashS p0 (packS p1) = r0)) : sponge_HashBytes_Body (p0, p1, ()) (r0, ()) := WPh.of_eq (by kernel_rfl) h
theorem bd62 : Callable Try.prog 62 := ⟨by rw [Try.func62]; kernel_rfl, by rw [Try.func62]; show some _ ≠ some _; decide⟩
theorem sponge_HashBytes_body (p0 : Int) (p1 : List Int) (h : U64 p0 ∧ By p1 ∧ p1.length ≤ 1099511627775) : sponge_HashBytes_Body (p0, p1, ()) ((hashB p0 p1 : Int), ()) := by
  obtain ⟨h1, h2, h3⟩ := h
  refine sponge_HashBytes_in ⟨⟨h2, by omega⟩, ⟨rfl, h1, ?_, ?_⟩, rfl⟩
  · intro x hx
    rcases List.mem_cons.1 hx with rfl | hx
    · omega
    · exact packN_us _ _ h2 x hx
  · have := packN_length p1.length p1
    simp only [packS, List.length_cons]
    omega
noncomputable def sponge_HashBytes_con : Con TB.den := sponge_HashBytes_sh.fnR (fun x => (fun (p0 : Int) (p1 : List Int) => U64 p0 ∧ By p1 ∧ p1.length ≤ 1099511627775) x.1 x.2.1) fun x => ((fun (p0 : Int) (p1 : List Int) => (hashB p0 p1 : Int)) x.1 x.2.1, ())
theorem sponge_HashBytes_ok : sponge_HashBytes_con.Ok Try.prog TB := Con.ok_fn sponge_HashBytes_sh bd62 fun x h => sponge_HashBytes_snd (sponge_HashBytes_body x.1 x.2.1 h)
end Go.Proofs.Ytnmakgfmimagmaa
namespace Go.Proofs.Ytnmakgfmimagmaa
open Go Go.Bv Go.Cv Go.Md Go.RowKit
def block_identifier_sh : Con TB.den := Con.mk0 37 [.agg [.d (.int .u64), .d (.int .i64), .d (.int .u64), .d (.int .u64), .d (.int .u64), .d (.sl (.st 1))], .one (.d (.sl (.int .u64)))] [] (.one (.one (.d (.int .u64)))) []
abbrev block_identifier_I := HL TB.den (hsT block_identifier_sh.ins (hsOs block_identifier_sh.pre))
abbrev block_identifier_O := HL TB.den (hsV block_identifier_sh.res (hsOs block_identifier_sh.post))
noncomputable def block_identifier_cx : Cx TB := ⟨inf, [block_header_con, wire_Uint_con, sponge_HashBytes_con], [], 4⟩
noncomputable def block_identifier_code : Code := Try.f37.body.getD .skip
noncomputable def block_identifier_rs : List ResultVar := Try.f37.results.toList
noncomputable def block_identifier_Q1 (o : block_identifier_O) : Exit → TSt TB.den → Prop := thenT TB (fun s => ghs TB [] s fun s => WP TB block_identifier_cx 22 0 (cB (cB (cB block_identifier_code))) .no s (retTQ TB block_identifier_cx block_identifier_sh block_identifier_rs o)) (retTQ TB block_identifier_cx block_identifier_sh block_identifier_rs o)
def block_identifier_T1 : Tm := ⟨[], [], [5, 10, 11, 12], [.one (.d (.sl (.int .u8))), .one (.d (.sl (.int .u64))), .one (.d (.int .i64)), .one (.d (.int .i64))], 1⟩
noncomputable def block_identifier_Q2 (o : block_identifier_O) (nx1 : HL TB.den block_identifier_T1.hs → Prop) : Exit → TSt TB.den → Prop := thenT TB (fun s => block_identifier_T1.mat TB 0 s nx1) (blockT TB 0 (block_identifier_Q1 o))
noncomputable def block_identifier_L1 (o : block_identifier_O) (nx1 : HL TB.den block_identifier_T1.hs → Prop) (i : HL TB.den block_identifier_T1.hs) : Prop := WP TB block_identifier_cx 22 0 (cA (cA (cB (cA (cB (cB block_identifier_code)))))) .no (block_identifier_T1.fill TB i) (block_identifier_Q2 o nx1)
noncomputable def block_identifier_A5 (o : block_identifier_O) : An TB := .lp [] block_identifier_T1 (block_identifier_L1 o) fun nx1 => .no
noncomputable def block_identifier_A6 (o : block_identifier_O) : An TB := .nd [] .no [] (.nd [] (.nd [] .no [] (block_identifier_A5 o)) [] .no)
noncomputable def block_identifier_an (o : block_identifier_O) : An TB := .nd [] .no [] (block_identifier_A6 o)
noncomputable def block_identifier_Body (x : block_identifier_I) (o : block_identifier_O) : Prop := WPh TB block_identifier_cx 22 0 block_identifier_code (block_identifier_an o) (block_identifier_sh.st TB x) (retTQ TB block_identifier_cx block_identifier_sh block_identifier_rs o)
set_option maxRecDepth 100000 in
theorem block_identifier_obl (o : block_identifier_O) : OblH TB block_identifier_cx 22 0 block_identifier_code (block_identifier_an o) (retTQ TB block_identifier_cx block_identifier_sh block_identifier_rs o) :=
  OblH.of_eq (X := (True ∧ (True ∧ ((True ∧ ((∀ nx i, (block_identifier_L1 o) nx i = (block_identifier_L1 o) nx i) ∧ ∀ nx1 : HL TB.den block_identifier_T1.hs → Prop, (True ∧ ((True ∧ True) ∧ ((True ∧ True) ∧ True))))) ∧ (True ∧ True))))) (by kernel_rfl) ⟨trivial, ⟨trivial, ⟨⟨trivial, ⟨fun _ _ => rfl, fun _ => ⟨trivial, ⟨⟨trivial, trivial⟩, ⟨⟨trivial, trivial⟩, trivial⟩⟩⟩⟩⟩, ⟨trivial, trivial⟩⟩⟩⟩
set_option maxRecDepth 100000 in
theorem block_identifier_snd {x : block_identifier_I} {o : block_identifier_O} (h : block_identifier_Body x o) : SoundH Try.prog block_identifier_sh.f ((block_identifier_sh.args idf x).map (er TB)) ((block_identifier_sh.obs idf x).map (erO TB)) (er TB (block_identifier_sh.val idf o)) ((block_identifier_sh.ops idf o).map (erO TB)) :=
  Con.soundH (c := block_identifier_sh) (C := block_identifier_cx) TBok ⟨inf_ok, (all_cons block_header_ok (all_cons wire_Uint_ok (all_cons sponge_HashBytes_ok all_nil))), all_nil⟩ mix Try.func37 (show Try.f37.body = some block_identifier_code by kernel_rfl) (show Try.f37.ntmps = 22 by kernel_rfl) (show Try.f37.results.toList = block_identifier_rs by kernel_rfl) rfl h (block_identifier_obl o)
set_option maxRecDepth 100000 in
theorem block_identifier_in {p0 : TBlock} {p1 : List Int} {r0 : Int} (h :
((BR p0 ∧ p0.Txs.length ≤ 64) ∧ Md.Loop ((hdrS p0 : List Int), p1, ((p1.length : Int) : Int), (0 : Int), ()) (block_identifier_L1 (r0, ())))) : block_identifier_Body (p0.Parent, p0.Height, p0.Miner, p0.Work, p0.Nonce, p0.Txs, p1, ()) (r0, ()) := WPh.of_eq (by kernel_rfl) h
def block_identifier_B1 (r0 : Int) (k1 : List Int → Int → Prop) (s10 : List Int) (s11 : Int) (s5 : List Int) (s12 : Int) : Prop :=
(decide (s12 < s11) = true →
(0 ≤ s12) ∧ s12 < (s10.length : Int) ∧ (U64 (ix s10 s12) ∧ s5.length ≤ 137438953472) ∧ k1 (s5 ++ dig 8 (ix s10 s12) : List Int) (IntKind.i64.wrap (s12 + 1) : Int)) ∧
(decide (s12 < s11) = false →
(U64 (15 : Int) ∧ By s5 ∧ s5.length ≤ 1099511627775) ∧ hashB (15 : Int) s5 = r0)
set_option maxRecDepth 100000 in
theorem block_identifier_lp1 {r0 : Int} {s10 : List Int} {s11 : Int} {s5 : List Int} {s12 : Int} (inv : List Int → Int → Prop) (μ : List Int → Int → Nat) (h0 : inv s5 s12) (hs : ∀ (s5 : List Int) (s12 : Int), inv s5 s12 → block_identifier_B1 r0 (fun s5q s12q => inv s5q s12q ∧ μ s5q s12q < μ s5 s12) s10 s11 s5 s12) : Md.Loop (s5, s10, s11, s12, ()) (block_identifier_L1 (r0, ())) :=
  ⟨⟨fun s : (List Int) × (List Int) × Int × Int × Unit => (s.2.1 = s10 ∧ s.2.2.1 = s11) ∧ inv s.1 s.2.2.2.1, fun s : (List Int) × (List Int) × Int × Int × Unit => μ s.1 s.2.2.2.1, ⟨⟨rfl, rfl⟩, h0⟩, fun (s5p, s10p, s11p, s12p, ()) ⟨⟨eq0, eq1⟩, hi⟩ => by
    have eq0 : s10p = s10 := eq0; subst s10p; have eq1 : s11p = s11 := eq1; subst s11p; exact mpr_of (by kernel_rfl) ((congrArg (fun k => block_identifier_B1 r0 k s10 s11 s5p s12p) (lpk2 (⟨rfl, rfl⟩ : s10 = s10 ∧ s11 = s11) inv (fun s5q s12q => μ s5q s12q < μ s5p s12p))).mpr (hs s5p s12p hi))⟩⟩
theorem bd37 : Callable Try.prog 37 := ⟨by rw [Try.func37]; kernel_rfl, by rw [Try.func37]; show some _ ≠ some _; decide⟩
theorem block_identifier_body (p0 : TBlock) (p1 : List Int) (h : BR p0 ∧ p0.Txs.length ≤ 64 ∧ Us p1 ∧ p1.length ≤ 64) : block_identifier_Body (p0.Parent, p0.Height, p0.Miner, p0.Work, p0.Nonce, p0.Txs, p1, ()) ((hashB 15 (hdrS p0 ++ p1.flatMap (dig 8)) : Int), ()) := by
  obtain ⟨hr, hl, hu, hul⟩ := h
  refine block_identifier_in ⟨⟨hr, hl⟩, block_identifier_lp1 (fun l i => 0 ≤ i ∧ i ≤ p1.length ∧ l = hdrS p0 ++ (p1.take i.toNat).flatMap (dig 8)) (fun _ i => (p1.length - i).toNat) ⟨by omega, by omega, by simp⟩ ?_⟩
  rintro l i ⟨g0, g1, rfl⟩
  have hle : (hdrS p0 ++ (p1.take i.toNat).flatMap (dig 8)).length ≤ 1000 := by
    rw [List.length_append, hdrS_length, flat8_length, List.length_take]
    omega
  refine ⟨fun hh => ?_, fun hh => ?_⟩
  · have hh := of_decide_eq_true hh
    have hm := ix_mem p1 i g0 hh
    rw [inc i p1.length g0 hh (by omega)]
    refine ⟨g0, hh, ⟨hu _ hm, by omega⟩, ⟨by omega, by omega, ?_⟩, by omega⟩
    rw [take_succ_ix p1 i g0 hh, List.flatMap_append, List.append_assoc]
    simp
  · have hh := of_decide_eq_false hh
    rw [List.take_of_length_le (by omega)] at hle ⊢
    exact ⟨⟨by omega, (hdrS_by p0).append (flat8_by p1), by omega⟩, rfl⟩
noncomputable def block_identifier_con : Con TB.den := block_identifier_sh.fnR (fun x => (fun (p0 : TBlock) (p1 : List Int) => BR p0 ∧ p0.Txs.length ≤ 64 ∧ Us p1 ∧ p1.length ≤ 64) (TBlock.mk x.1 x.2.1 x.2.2.1 x.2.2.2.1 x.2.2.2.2.1 x.2.2.2.2.2.1) x.2.2.2.2.2.2.1) fun x => ((fun (p0 : TBlock) (p1 : List Int) => (hashB 15 (hdrS p0 ++ p1.flatMap (dig 8)) : Int)) (TBlock.mk x.1 x.2.1 x.2.2.1 x.2.2.2.1 x.2.2.2.2.1 x.2.2.2.2.2.1) x.2.2.2.2.2.2.1, ())
theorem block_identifier_ok : block_identifier_con.Ok Try.prog TB := Con.ok_fn block_identifier_sh bd37 fun x h => block_identifier_snd (block_identifier_body (TBlock.mk x.1 x.2.1 x.2.2.1 x.2.2.2.1 x.2.2.2.2.1 x.2.2.2.2.2.1) x.2.2.2.2.2.2.1 h)
end Go.Proofs.Ytnmakgfmimagmaa
namespace Go.Proofs.Ytnmakgfmimagmaa
open Go Go.Bv Go.Cv Go.Md Go.RowKit
def tx_ID_sh : Con TB.den := Con.mk0 63 [.agg [.d (.int .u64), .d (.sl (.int .u64)), .d (.sl (.st 0)), .d (.int .u64), .d (.int .u64), .d (.int .u64), .d (.int .u64), .d (.int .u64), .d (.int .i64), .d (.sl (.int .u8))]] [] (.one (.one (.d (.int .u64)))) []
abbrev tx_ID_I := HL TB.den (hsT tx_ID_sh.ins (hsOs tx_ID_sh.pre))
abbrev tx_ID_O := HL TB.den (hsV tx_ID_sh.res (hsOs tx_ID_sh.post))
noncomputable def tx_ID_cx : Cx TB := ⟨inf, [tx_Encode_con, sponge_HashBytes_con], [], 4⟩
noncomputable def tx_ID_code : Code := Try.f63.body.getD .skip
noncomputable def tx_ID_rs : List ResultVar := Try.f63.results.toList
noncomputable def tx_ID_an (o : tx_ID_O) : An TB := .no
noncomputable def tx_ID_Body (x : tx_ID_I) (o : tx_ID_O) : Prop := WPh TB tx_ID_cx 14 0 tx_ID_code (tx_ID_an o) (tx_ID_sh.st TB x) (retTQ TB tx_ID_cx tx_ID_sh tx_ID_rs o)
set_option maxRecDepth 100000 in
theorem tx_ID_obl (o : tx_ID_O) : OblH TB tx_ID_cx 14 0 tx_ID_code (tx_ID_an o) (retTQ TB tx_ID_cx tx_ID_sh tx_ID_rs o) :=
  OblH.of_eq (X := (True ∧ (True ∧ ((True ∧ ((True ∧ True) ∧ True)) ∧ (True ∧ True))))) (by kernel_rfl) ⟨trivial, ⟨trivial, ⟨⟨trivial, ⟨⟨trivial, trivial⟩, trivial⟩⟩, ⟨trivial, trivial⟩⟩⟩⟩
set_option maxRecDepth 100000 in
theorem tx_ID_snd {x : tx_ID_I} {o : tx_ID_O} (h : tx_ID_Body x o) : SoundH Try.prog tx_ID_sh.f ((tx_ID_sh.args idf x).map (er TB)) ((tx_ID_sh.obs idf x).map (erO TB)) (er TB (tx_ID_sh.val idf o)) ((tx_ID_sh.ops idf o).map (erO TB)) :=
  Con.soundH (c := tx_ID_sh) (C := tx_ID_cx) TBok ⟨inf_ok, (all_cons tx_Encode_ok (all_cons sponge_HashBytes_ok all_nil)), all_nil⟩ mix Try.func63 (show Try.f63.body = some tx_ID_code by kernel_rfl) (show Try.f63.ntmps = 14 by kernel_rfl) (show Try.f63.results.toList = tx_ID_rs by kernel_rfl) rfl h (tx_ID_obl o)
set_option maxRecDepth 100000 in
theorem tx_ID_in {p0 : TTx} {r0 : Int} (h :
((TR p0) ∧ let r1 : List Int := (if validE p0 = 0 then encT p0 p0.Proof else [])
(((validE p0) != 0) = true →
 0 = r0) ∧
(((validE p0) != 0) = false →
(U64 (14 : Int) ∧ By r1 ∧ r1.length ≤ 1099511627775) ∧ hashB (14 : Int) r1 = r0))) : tx_ID_Body (p0.Anchor, p0.Marks, p0.Outs, p0.Deposit, p0.Withdraw, p0.Fee, p0.Account, p0.Nonce, p0.Expiry, p0.Proof, ()) (r0, ()) := WPh.of_eq (by kernel_rfl) h
theorem bd63 : Callable Try.prog 63 := ⟨by rw [Try.func63]; kernel_rfl, by rw [Try.func63]; show some _ ≠ some _; decide⟩
theorem tx_ID_body (p0 : TTx) (h : TR p0) : tx_ID_Body (p0.Anchor, p0.Marks, p0.Outs, p0.Deposit, p0.Withdraw, p0.Fee, p0.Account, p0.Nonce, p0.Expiry, p0.Proof, ()) ((idS p0 : Int), ()) := by
  refine tx_ID_in ⟨h, ?_⟩
  unfold idS
  refine ⟨fun e => ?_, fun e => ?_⟩
  · have e : validE p0 ≠ 0 := by simpa using e
    rw [if_neg e]
  · have e : validE p0 = 0 := by simpa using e
    have v := (validE_zero p0).1 e
    rw [if_pos e, if_pos e]
    exact ⟨⟨by omega, encT_by h.p, by have := v.enc_len p0.Proof; have := v.pl; omega⟩, rfl⟩
noncomputable def tx_ID_con : Con TB.den := tx_ID_sh.fnR (fun x => (fun (p0 : TTx) => TR p0) (TTx.mk x.1 x.2.1 x.2.2.1 x.2.2.2.1 x.2.2.2.2.1 x.2.2.2.2.2.1 x.2.2.2.2.2.2.1 x.2.2.2.2.2.2.2.1 x.2.2.2.2.2.2.2.2.1 x.2.2.2.2.2.2.2.2.2.1)) fun x => ((fun (p0 : TTx) => (idS p0 : Int)) (TTx.mk x.1 x.2.1 x.2.2.1 x.2.2.2.1 x.2.2.2.2.1 x.2.2.2.2.2.1 x.2.2.2.2.2.2.1 x.2.2.2.2.2.2.2.1 x.2.2.2.2.2.2.2.2.1 x.2.2.2.2.2.2.2.2.2.1), ())
theorem tx_ID_ok : tx_ID_con.Ok Try.prog TB := Con.ok_fn tx_ID_sh bd63 fun x h => tx_ID_snd (tx_ID_body (TTx.mk x.1 x.2.1 x.2.2.1 x.2.2.2.1 x.2.2.2.2.1 x.2.2.2.2.2.1 x.2.2.2.2.2.2.1 x.2.2.2.2.2.2.2.1 x.2.2.2.2.2.2.2.2.1 x.2.2.2.2.2.2.2.2.2.1) h)
end Go.Proofs.Ytnmakgfmimagmaa
namespace Go.Proofs.Ytnmakgfmimagmaa
open Go Go.Bv Go.Cv Go.Md Go.RowKit
def block_identifiers_sh : Con TB.den := Con.mk0 38 [.agg [.d (.int .u64), .d (.int .i64), .d (.int .u64), .d (.int .u64), .d (.int .u64), .d (.sl (.st 1))]] [] (.one (.one (.d (.sl (.int .u64))))) []
abbrev block_identifiers_I := HL TB.den (hsT block_identifiers_sh.ins (hsOs block_identifiers_sh.pre))
abbrev block_identifiers_O := HL TB.den (hsV block_identifiers_sh.res (hsOs block_identifiers_sh.post))
noncomputable def block_identifiers_cx : Cx TB := ⟨inf, [tx_ID_con], [], 4⟩
noncomputable def block_identifiers_code : Code := Try.f38.body.getD .skip
noncomputable def block_identifiers_rs : List ResultVar := Try.f38.results.toList
noncomputable def block_identifiers_Q1 (o : block_identifiers_O) : Exit → TSt TB.den → Prop := thenT TB (fun s => ghs TB [] s fun s => WP TB block_identifiers_cx 24 0 (cB (cB (cB block_identifiers_code))) .no s (retTQ TB block_identifiers_cx block_identifiers_sh block_identifiers_rs o)) (retTQ TB block_identifiers_cx block_identifiers_sh block_identifiers_rs o)
def block_identifiers_T1 : Tm := ⟨[2], [.tip (.int .u64)], [3, 11, 12, 13], [.one (.own 0), .one (.d (.sl (.st 1))), .one (.d (.int .i64)), .one (.d (.int .i64))], 3⟩
noncomputable def block_identifiers_Q2 (o : block_identifiers_O) (nx1 : HL TB.den block_identifiers_T1.hs → Prop) : Exit → TSt TB.den → Prop := thenT TB (fun s => block_identifiers_T1.mat TB 0 s nx1) (blockT TB 0 (block_identifiers_Q1 o))
noncomputable def block_identifiers_L1 (o : block_identifiers_O) (nx1 : HL TB.den block_identifiers_T1.hs → Prop) (i : HL TB.den block_identifiers_T1.hs) : Prop := WP TB block_identifiers_cx 24 0 (cA (cA (cB (cA (cB (cB block_identifiers_code)))))) .no (block_identifiers_T1.fill TB i) (block_identifiers_Q2 o nx1)
noncomputable def block_identifiers_A5 (o : block_identifiers_O) : An TB := .lp [.frz 1 [3]] block_identifiers_T1 (block_identifiers_L1 o) fun nx1 => .no
noncomputable def block_identifiers_A6 (o : block_identifiers_O) : An TB := .nd [] .no [] (.nd [] (.nd [] .no [] (block_identifiers_A5 o)) [] .no)
noncomputable def block_identifiers_an (o : block_identifiers_O) : An TB := .nd [] .no [] (block_identifiers_A6 o)
noncomputable def block_identifiers_Body (x : block_identifiers_I) (o : block_identifiers_O) : Prop := WPh TB block_identifiers_cx 24 0 block_identifiers_code (block_identifiers_an o) (block_identifiers_sh.st TB x) (retTQ TB block_identifiers_cx block_identifiers_sh block_identifiers_rs o)
set_option maxRecDepth 100000 in
theorem block_identifiers_obl (o : block_identifiers_O) : OblH TB block_identifiers_cx 24 0 block_identifiers_code (block_identifiers_an o) (retTQ TB block_identifiers_cx block_identifiers_sh block_identifiers_rs o) :=
  OblH.of_eq (X := (True ∧ (True ∧ ((True ∧ ((∀ nx i, (block_identifiers_L1 o) nx i = (block_identifiers_L1 o) nx i) ∧ ∀ nx1 : HL TB.den block_identifiers_T1.hs → Prop, (True ∧ ((True ∧ True) ∧ ((True ∧ True) ∧ True))))) ∧ (True ∧ True))))) (by kernel_rfl) ⟨trivial, ⟨trivial, ⟨⟨trivial, ⟨fun _ _ => rfl, fun _ => ⟨trivial, ⟨⟨trivial, trivial⟩, ⟨⟨trivial, trivial⟩, trivial⟩⟩⟩⟩⟩, ⟨trivial, trivial⟩⟩⟩⟩
set_option maxRecDepth 100000 in
theorem block_identifiers_snd {x : block_identifiers_I} {o : block_identifiers_O} (h : block_identifiers_Body x o) : SoundH Try.prog block_identifiers_sh.f ((block_identifiers_sh.args idf x).map (er TB)) ((block_identifiers_sh.obs idf x).map (erO TB)) (er TB (block_identifiers_sh.val idf o)) ((block_identifiers_sh.ops idf o).map (erO TB)) :=
  Con.soundH (c := block_identifiers_sh) (C := block_identifiers_cx) TBok ⟨inf_ok, (all_cons tx_ID_ok all_nil), all_nil⟩ mix Try.func38 (show Try.f38.body = some block_identifiers_code by kernel_rfl) (show Try.f38.ntmps = 24 by kernel_rfl) (show Try.f38.results.toList = block_identifiers_rs by kernel_rfl) rfl h (block_identifiers_obl o)
set_option maxRecDepth 100000 in
theorem block_identifiers_in {p0 : TBlock} {r0 : List Int} (h :
(0 ≤ (0 : Int) ∧ (0 : Int) ≤ (p0.Txs.length : Int) ∧ ((p0.Txs.length : Int).toNat * 8 ≤ 140737488355328) ∧ ((p0.Txs.length : Int).toNat ≤ maxLen) ∧ (0 = (List.replicate 0 (0 : Int)).length) ∧ (List.replicate 0 (0 : Int) = List.replicate 0 (0 : Int)) ∧ Md.Loop (p0.Txs, ((p0.Txs.length : Int) : Int), (0 : Int), (List.replicate 0 (0 : Int) : List Int), ()) (block_identifiers_L1 (r0, ())))) : block_identifiers_Body (p0.Parent, p0.Height, p0.Miner, p0.Work, p0.Nonce, p0.Txs, ()) (r0, ()) := WPh.of_eq (by kernel_rfl) h
def block_identifiers_B1 (r0 : List Int) (k1 : Int → List Int → Prop) (s11 : List TTx) (s12 : Int) (s13 : Int) (g2 : List Int) : Prop :=
(decide (s13 < s12) = true →
(0 ≤ s13) ∧ s13 < (s11.length : Int) ∧ (TR (ix s11 s13)) ∧ g2.length = g2.length ∧ (g2.length + [idS (ix s11 s13)].length) * 8 ≤ 140737488355328 ∧ g2.length + [idS (ix s11 s13)].length ≤ maxLen ∧ (g2 ++ [idS (ix s11 s13)] = g2 ++ [idS (ix s11 s13)]) ∧ k1 (IntKind.i64.wrap (s13 + 1) : Int) (g2 ++ [idS (ix s11 s13)] : List Int)) ∧
(decide (s13 < s12) = false →
 g2 = r0)
set_option maxRecDepth 100000 in
theorem block_identifiers_lp1 {r0 : List Int} {s11 : List TTx} {s12 : Int} {s13 : Int} {g2 : List Int} (inv : Int → List Int → Prop) (μ : Int → List Int → Nat) (h0 : inv s13 g2) (hs : ∀ (s13 : Int) (g2 : List Int), inv s13 g2 → block_identifiers_B1 r0 (fun s13q g2q => inv s13q g2q ∧ μ s13q g2q < μ s13 g2) s11 s12 s13 g2) : Md.Loop (s11, s12, s13, g2, ()) (block_identifiers_L1 (r0, ())) :=
  ⟨⟨fun s : (List TTx) × Int × Int × (List Int) × Unit => (s.1 = s11 ∧ s.2.1 = s12) ∧ inv s.2.2.1 s.2.2.2.1, fun s : (List TTx) × Int × Int × (List Int) × Unit => μ s.2.2.1 s.2.2.2.1, ⟨⟨rfl, rfl⟩, h0⟩, fun (s11p, s12p, s13p, g2p, ()) ⟨⟨eq0, eq1⟩, hi⟩ => by
    have eq0 : s11p = s11 := eq0; subst s11p; have eq1 : s12p = s12 := eq1; subst s12p; exact mpr_of (by kernel_rfl) ((congrArg (fun k => block_identifiers_B1 r0 k s11 s12 s13p g2p) (lpk2 (⟨rfl, rfl⟩ : s11 = s11 ∧ s12 = s12) inv (fun s13q g2q => μ s13q g2q < μ s13p g2p))).mpr (hs s13p g2p hi))⟩⟩
theorem bd38 : Callable Try.prog 38 := ⟨by rw [Try.func38]; kernel_rfl, by rw [Try.func38]; show some _ ≠ some _; decide⟩
theorem block_identifiers_body (p0 : TBlock) (h : (∀ x ∈ p0.Txs, TR x) ∧ p0.Txs.length ≤ 64) : block_identifiers_Body (p0.Parent, p0.Height, p0.Miner, p0.Work, p0.Nonce, p0.Txs, ()) ((p0.Txs.map idS : List Int), ()) := by
  obtain ⟨hr, hl⟩ := h
  refine block_identifiers_in ⟨by omega, by omega, by omega, by unfold maxLen; omega, by simp, rfl, ?_⟩
  refine block_identifiers_lp1 (fun i g => 0 ≤ i ∧ i ≤ p0.Txs.length ∧ g = (p0.Txs.take i.toNat).map idS) (fun i _ => (p0.Txs.length - i).toNat) ⟨by omega, by omega, by simp⟩ ?_
  rintro i g ⟨g0, g1, rfl⟩
  refine ⟨fun hh => ?_, fun hh => ?_⟩
  · have hh := of_decide_eq_true hh
    have hm := ix_mem p0.Txs i g0 hh
    rw [inc i p0.Txs.length g0 hh (by omega)]
    refine ⟨g0, hh, hr _ hm, rfl, by simp; omega, by simp; unfold maxLen; omega, rfl, ⟨by omega, by omega, ?_⟩, by omega⟩
    rw [take_succ_ix p0.Txs i g0 hh]
    simp
  · have hh := of_decide_eq_false hh
    rw [List.take_of_length_le (by omega)]
noncomputable def block_identifiers_con : Con TB.den := block_identifiers_sh.fnR (fun x => (fun (p0 : TBlock) => (∀ x ∈ p0.Txs, TR x) ∧ p0.Txs.length ≤ 64) (TBlock.mk x.1 x.2.1 x.2.2.1 x.2.2.2.1 x.2.2.2.2.1 x.2.2.2.2.2.1)) fun x => ((fun (p0 : TBlock) => (p0.Txs.map idS : List Int)) (TBlock.mk x.1 x.2.1 x.2.2.1 x.2.2.2.1 x.2.2.2.2.1 x.2.2.2.2.2.1), ())
theorem block_identifiers_ok : block_identifiers_con.Ok Try.prog TB := Con.ok_fn block_identifiers_sh bd38 fun x h => block_identifiers_snd (block_identifiers_body (TBlock.mk x.1 x.2.1 x.2.2.1 x.2.2.2.1 x.2.2.2.2.1 x.2.2.2.2.2.1) h)
end Go.Proofs.Ytnmakgfmimagmaa
namespace Go.Proofs.Ytnmakgfmimagmaa
open Go Go.Bv Go.Cv Go.Md Go.RowKit
def block_Mine_sh : Con TB.den := Con.mk0 22 [.agg [.d (.int .u64), .d (.int .i64), .d (.int .u64), .d (.int .u64), .d (.int .u64), .d (.sl (.st 1))], .one (.d (.int .i64))] [] (.tup [.agg [.d (.int .u64), .d (.int .i64), .d (.int .u64), .d (.int .u64), .d (.int .u64), .d (.sl (.st 1))], .one (.d (.bool))]) []
abbrev block_Mine_I := HL TB.den (hsT block_Mine_sh.ins (hsOs block_Mine_sh.pre))
abbrev block_Mine_O := HL TB.den (hsV block_Mine_sh.res (hsOs block_Mine_sh.post))
noncomputable def block_Mine_cx : Cx TB := ⟨inf, [block_Valid_con, block_identifiers_con, block_identifier_con, block_clone_con], [], 4⟩
noncomputable def block_Mine_code : Code := Try.f22.body.getD .skip
noncomputable def block_Mine_rs : List ResultVar := Try.f22.results.toList
noncomputable def block_Mine_Q1 (o : block_Mine_O) : Exit → TSt TB.den → Prop := thenT TB (fun s => ghs TB [] s fun s => WP TB block_Mine_cx 38 0 (cB (cB (cB (cB block_Mine_code)))) .no s (retTQ TB block_Mine_cx block_Mine_sh block_Mine_rs o)) (retTQ TB block_Mine_cx block_Mine_sh block_Mine_rs o)
def block_Mine_T1 : Tm := ⟨[0, 1], [.cells [.d (.int .u64), .d (.int .i64), .d (.int .u64), .d (.int .u64), .d (.int .u64), .d (.sl (.st 1))], .cells [.d (.int .u64), .d (.int .i64), .d (.int .u64), .d (.int .u64), .d (.int .u64), .full (.st 1)]], [1, 2, 4, 6], [.one (.d (.int .i64)), .one (.ptr 0 0), .one (.ptr 1 0), .one (.d (.sl (.int .u64)))], 2⟩
noncomputable def block_Mine_Q2 (o : block_Mine_O) (nx1 : HL TB.den block_Mine_T1.hs → Prop) : Exit → TSt TB.den → Prop := thenT TB (fun s => block_Mine_T1.mat TB 0 s nx1) (blockT TB 0 (block_Mine_Q1 o))
noncomputable def block_Mine_L1 (o : block_Mine_O) (nx1 : HL TB.den block_Mine_T1.hs → Prop) (i : HL TB.den block_Mine_T1.hs) : Prop := WP TB block_Mine_cx 38 0 (cA (cA (cA (cB (cB (cB block_Mine_code)))))) .no (block_Mine_T1.fill TB i) (block_Mine_Q2 o nx1)
noncomputable def block_Mine_A7 (o : block_Mine_O) : An TB := .nd [] (.lp [] block_Mine_T1 (block_Mine_L1 o) fun nx1 => .no) [] .no
noncomputable def block_Mine_Q8 (o : block_Mine_O) : Exit → TSt TB.den → Prop := thenT TB (fun s => ghs TB [] s fun s => WP TB block_Mine_cx 38 0 (cB (cB block_Mine_code)) (.nd [] .no [] (block_Mine_A7 o)) s (retTQ TB block_Mine_cx block_Mine_sh block_Mine_rs o)) (retTQ TB block_Mine_cx block_Mine_sh block_Mine_rs o)
def block_Mine_TJ1 : Tm := ⟨[0, 1], [.cells [.d (.int .u64), .d (.int .i64), .d (.int .u64), .d (.int .u64), .d (.int .u64), .d (.sl (.st 1))], .cells [.d (.int .u64), .d (.int .i64), .d (.int .u64), .d (.int .u64), .d (.int .u64), .full (.st 1)]], [1, 2, 4, 13], [.one (.d (.int .i64)), .one (.ptr 0 0), .one (.ptr 1 0), .one (.d (.bool))], 2⟩
noncomputable def block_Mine_J1d (o : block_Mine_O) (i : HL TB.den block_Mine_TJ1.hs) : Prop := ghs TB [] (block_Mine_TJ1.fill TB i) fun s => WP TB block_Mine_cx 38 0 (cB (cA (cB block_Mine_code))) .no s (block_Mine_Q8 o)
structure block_Mine_J1 (o : block_Mine_O) (i : HL TB.den block_Mine_TJ1.hs) : Prop where
  h : block_Mine_J1d o i
noncomputable def block_Mine_A10 (o : block_Mine_O) : An TB := .nd [] (.jn block_Mine_TJ1 (block_Mine_J1 o) [] .no [] .no) [] (.nd [] .no [] (block_Mine_A7 o))
noncomputable def block_Mine_an (o : block_Mine_O) : An TB := .nd [] .no [] (block_Mine_A10 o)
noncomputable def block_Mine_Body (x : block_Mine_I) (o : block_Mine_O) : Prop := WPh TB block_Mine_cx 38 0 block_Mine_code (block_Mine_an o) (block_Mine_sh.st TB x) (retTQ TB block_Mine_cx block_Mine_sh block_Mine_rs o)
set_option maxRecDepth 100000 in
theorem block_Mine_obl (o : block_Mine_O) : OblH TB block_Mine_cx 38 0 block_Mine_code (block_Mine_an o) (retTQ TB block_Mine_cx block_Mine_sh block_Mine_rs o) :=
  OblH.of_eq (X := (True ∧ ((True ∧ (∀ i, (block_Mine_J1 o) i = (block_Mine_J1d o) i) ∧ ((True ∧ True) ∧ True)) ∧ (True ∧ (((∀ nx i, (block_Mine_L1 o) nx i = (block_Mine_L1 o) nx i) ∧ ∀ nx1 : HL TB.den block_Mine_T1.hs → Prop, ((True ∧ (True ∧ True)) ∧ (((True ∧ ((True ∧ True) ∧ True)) ∧ ((True ∧ (True ∧ True)) ∧ True)) ∧ True))) ∧ (True ∧ True)))))) (by kernel_rfl) ⟨trivial, ⟨⟨trivial, fun _ => propext ⟨fun h => h.1, fun h => ⟨h⟩⟩, ⟨⟨trivial, trivial⟩, trivial⟩⟩, ⟨trivial, ⟨⟨fun _ _ => rfl, fun _ => ⟨⟨trivial, ⟨trivial, trivial⟩⟩, ⟨⟨⟨trivial, ⟨⟨trivial, trivial⟩, trivial⟩⟩, ⟨⟨trivial, ⟨trivial, trivial⟩⟩, trivial⟩⟩, trivial⟩⟩⟩, ⟨trivial, trivial⟩⟩⟩⟩⟩
set_option maxRecDepth 100000 in
theorem block_Mine_snd {x : block_Mine_I} {o : block_Mine_O} (h : block_Mine_Body x o) : SoundH Try.prog block_Mine_sh.f ((block_Mine_sh.args idf x).map (er TB)) ((block_Mine_sh.obs idf x).map (erO TB)) (er TB (block_Mine_sh.val idf o)) ((block_Mine_sh.ops idf o).map (erO TB)) :=
  Con.soundH (c := block_Mine_sh) (C := block_Mine_cx) TBok ⟨inf_ok, (all_cons block_Valid_ok (all_cons block_identifiers_ok (all_cons block_identifier_ok (all_cons block_clone_ok all_nil)))), all_nil⟩ mix Try.func22 (show Try.f22.body = some block_Mine_code by kernel_rfl) (show Try.f22.ntmps = 38 by kernel_rfl) (show Try.f22.results.toList = block_Mine_rs by kernel_rfl) rfl h (block_Mine_obl o)
set_option maxRecDepth 100000 in
theorem block_Mine_in {p0 : TBlock} {p1 : Int} {r0 : TBlock} {r1 : Bool} (h :
((decide (p1 ≤ 0) = true →
 block_Mine_J1 (r0.Parent, r0.Height, r0.Miner, r0.Work, r0.Nonce, r0.Txs, r1, ()) (p1, true, p0.Parent, p0.Height, p0.Miner, p0.Work, p0.Nonce, p0.Txs, (0 : Int), (0 : Int), (0 : Int), (0 : Int), (0 : Int), (([] : List TTx) : List TTx), ())) ∧
(decide (p1 ≤ 0) = false →
(∀ x ∈ p0.Txs, TR x) ∧ block_Mine_J1 (r0.Parent, r0.Height, r0.Miner, r0.Work, r0.Nonce, r0.Txs, r1, ()) (p1, (((validB p0) != 0) : Bool), p0.Parent, p0.Height, p0.Miner, p0.Work, p0.Nonce, p0.Txs, (0 : Int), (0 : Int), (0 : Int), (0 : Int), (0 : Int), (([] : List TTx) : List TTx), ())))) : block_Mine_Body (p0.Parent, p0.Height, p0.Miner, p0.Work, p0.Nonce, p0.Txs, p1, ()) (r0.Parent, r0.Height, r0.Miner, r0.Work, r0.Nonce, r0.Txs, r1, ()) := WPh.of_eq (by kernel_rfl) h
set_option maxRecDepth 100000 in
theorem block_Mine_J1_in {r0 : TBlock} {r1 : Bool} {s1 : Int} {s13 : Bool} {h0_0 : Int} {h0_1 : Int} {h0_2 : Int} {h0_3 : Int} {h0_4 : Int} {h0_5 : List TTx} {h1_0 : Int} {h1_1 : Int} {h1_2 : Int} {h1_3 : Int} {h1_4 : Int} {h1_5 : List TTx} (h :
((s13 = true →
 0 = r0.Parent ∧ 0 = r0.Height ∧ 0 = r0.Miner ∧ 0 = r0.Work ∧ 0 = r0.Nonce ∧ ([] : List TTx) = r0.Txs ∧ false = r1) ∧
(s13 = false →
((∀ x ∈ (TBlock.mk h0_0 h0_1 h0_2 h0_3 h0_4 h0_5).Txs, TR x) ∧ (TBlock.mk h0_0 h0_1 h0_2 h0_3 h0_4 h0_5).Txs.length ≤ 64) ∧ let r2 : List Int := (TBlock.mk h0_0 h0_1 h0_2 h0_3 h0_4 h0_5).Txs.map idS
 Md.Loop (s1, r2, h0_0, h0_1, h0_2, h0_3, h0_4, h0_5, h1_0, h1_1, h1_2, h1_3, h1_4, h1_5, ()) (block_Mine_L1 (r0.Parent, r0.Height, r0.Miner, r0.Work, r0.Nonce, r0.Txs, r1, ()))))) : block_Mine_J1 (r0.Parent, r0.Height, r0.Miner, r0.Work, r0.Nonce, r0.Txs, r1, ()) (s1, s13, h0_0, h0_1, h0_2, h0_3, h0_4, h0_5, h1_0, h1_1, h1_2, h1_3, h1_4, h1_5, ()) := ⟨mpr_of (by kernel_rfl) h⟩
def block_Mine_B1 (r0 : TBlock) (r1 : Bool) (k1 : Int → Int → Prop) (s6 : List Int) (h0_0 : Int) (h0_1 : Int) (h0_2 : Int) (h0_3 : Int) (h0_5 : List TTx) (h1_0 : Int) (h1_1 : Int) (h1_2 : Int) (h1_3 : Int) (h1_4 : Int) (h1_5 : List TTx) (s1 : Int) (h0_4 : Int) : Prop :=
(decide (0 < s1) = true →
(BR (TBlock.mk h0_0 h0_1 h0_2 h0_3 h0_4 h0_5) ∧ (TBlock.mk h0_0 h0_1 h0_2 h0_3 h0_4 h0_5).Txs.length ≤ 64 ∧ Us s6 ∧ s6.length ≤ 64) ∧ let r3 : Int := hashB 15 (hdrS (TBlock.mk h0_0 h0_1 h0_2 h0_3 h0_4 h0_5) ++ s6.flatMap (dig 8))
(h0_3 ≠ 0) ∧ (((Int.tmod r3 h0_3) == 0) = true →
((TBlock.mk h0_0 h0_1 h0_2 h0_3 h0_4 h0_5).Txs = []) ∧ h0_0 = r0.Parent ∧ h0_1 = r0.Height ∧ h0_2 = r0.Miner ∧ h0_3 = r0.Work ∧ h0_4 = r0.Nonce ∧ h0_5 = r0.Txs ∧ true = r1) ∧
(((Int.tmod r3 h0_3) == 0) = false →
((h0_4 == 18446744073709551615) = true →
 0 = r0.Parent ∧ 0 = r0.Height ∧ 0 = r0.Miner ∧ 0 = r0.Work ∧ 0 = r0.Nonce ∧ ([] : List TTx) = r0.Txs ∧ false = r1) ∧
((h0_4 == 18446744073709551615) = false →
 k1 (IntKind.i64.wrap (s1 - 1) : Int) (IntKind.u64.wrap (h0_4 + 1) : Int)))) ∧
(decide (0 < s1) = false →
 0 = r0.Parent ∧ 0 = r0.Height ∧ 0 = r0.Miner ∧ 0 = r0.Work ∧ 0 = r0.Nonce ∧ ([] : List TTx) = r0.Txs ∧ false = r1)
set_option maxRecDepth 100000 in
theorem block_Mine_lp1 {r0 : TBlock} {r1 : Bool} {s6 : List Int} {h0_0 : Int} {h0_1 : Int} {h0_2 : Int} {h0_3 : Int} {h0_5 : List TTx} {h1_0 : Int} {h1_1 : Int} {h1_2 : Int} {h1_3 : Int} {h1_4 : Int} {h1_5 : List TTx} {s1 : Int} {h0_4 : Int} (inv : Int → Int → Prop) (μ : Int → Int → Nat) (h0 : inv s1 h0_4) (hs : ∀ (s1 : Int) (h0_4 : Int), inv s1 h0_4 → block_Mine_B1 r0 r1 (fun s1q h0_4q => inv s1q h0_4q ∧ μ s1q h0_4q < μ s1 h0_4) s6 h0_0 h0_1 h0_2 h0_3 h0_5 h1_0 h1_1 h1_2 h1_3 h1_4 h1_5 s1 h0_4) : Md.Loop (s1, s6, h0_0, h0_1, h0_2, h0_3, h0_4, h0_5, h1_0, h1_1, h1_2, h1_3, h1_4, h1_5, ()) (block_Mine_L1 (r0.Parent, r0.Height, r0.Miner, r0.Work, r0.Nonce, r0.Txs, r1, ())) :=
  ⟨⟨fun s : Int × (List Int) × Int × Int × Int × Int × Int × (List TTx) × Int × Int × Int × Int × Int × (List TTx) × Unit => (s.2.1 = s6 ∧ s.2.2.1 = h0_0 ∧ s.2.2.2.1 = h0_1 ∧ s.2.2.2.2.1 = h0_2 ∧ s.2.2.2.2.2.1 = h0_3 ∧ s.2.2.2.2.2.2.2.1 = h0_5 ∧ s.2.2.2.2.2.2.2.2.1 = h1_0 ∧ s.2.2.2.2.2.2.2.2.2.1 = h1_1 ∧ s.2.2.2.2.2.2.2.2.2.2.1 = h1_2 ∧ s.2.2.2.2.2.2.2.2.2.2.2.1 = h1_3 ∧ s.2.2.2.2.2.2.2.2.2.2.2.2.1 = h1_4 ∧ s.2.2.2.2.2.2.2.2.2.2.2.2.2.1 = h1_5) ∧ inv s.1 s.2.2.2.2.2.2.1, fun s : Int × (List Int) × Int × Int × Int × Int × Int × (List TTx) × Int × Int × Int × Int × Int × (List TTx) × Unit => μ s.1 s.2.2.2.2.2.2.1, ⟨⟨rfl, rfl, rfl, rfl, rfl, rfl, rfl, rfl, rfl, rfl, rfl, rfl⟩, h0⟩, fun (s1p, s6p, h0_0p, h0_1p, h0_2p, h0_3p, h0_4p, h0_5p, h1_0p, h1_1p, h1_2p, h1_3p, h1_4p, h1_5p, ()) ⟨⟨eq0, eq1, eq2, eq3, eq4, eq5, eq6, eq7, eq8, eq9, eq10, eq11⟩, hi⟩ => by
    have eq0 : s6p = s6 := eq0; subst s6p; have eq1 : h0_0p = h0_0 := eq1; subst h0_0p; have eq2 : h0_1p = h0_1 := eq2; subst h0_1p; have eq3 : h0_2p = h0_2 := eq3; subst h0_2p; have eq4 : h0_3p = h0_3 := eq4; subst h0_3p; have eq5 : h0_5p = h0_5 := eq5; subst h0_5p; have eq6 : h1_0p = h1_0 := eq6; subst h1_0p; have eq7 : h1_1p = h1_1 := eq7; subst h1_1p; have eq8 : h1_2p = h1_2 := eq8; subst h1_2p; have eq9 : h1_3p = h1_3 := eq9; subst h1_3p; have eq10 : h1_4p = h1_4 := eq10; subst h1_4p; have eq11 : h1_5p = h1_5 := eq11; subst h1_5p; exact mpr_of (by kernel_rfl) ((congrArg (fun k => block_Mine_B1 r0 r1 k s6 h0_0 h0_1 h0_2 h0_3 h0_5 h1_0 h1_1 h1_2 h1_3 h1_4 h1_5 s1p h0_4p) (lpk2 (⟨rfl, rfl, rfl, rfl, rfl, rfl, rfl, rfl, rfl, rfl, rfl, rfl⟩ : s6 = s6 ∧ h0_0 = h0_0 ∧ h0_1 = h0_1 ∧ h0_2 = h0_2 ∧ h0_3 = h0_3 ∧ h0_5 = h0_5 ∧ h1_0 = h1_0 ∧ h1_1 = h1_1 ∧ h1_2 = h1_2 ∧ h1_3 = h1_3 ∧ h1_4 = h1_4 ∧ h1_5 = h1_5) inv (fun s1q h0_4q => μ s1q h0_4q < μ s1p h0_4p))).mpr (hs s1p h0_4p hi))⟩⟩
theorem bd22 : Callable Try.prog 22 := ⟨by rw [Try.func22]; kernel_rfl, by rw [Try.func22]; show some _ ≠ some _; decide⟩
theorem block_Mine_body (p0 : TBlock) (p1 : Int) (h : BR p0 ∧ p0.Txs = [] ∧ p1 ≤ 9223372036854775807) : block_Mine_Body (p0.Parent, p0.Height, p0.Miner, p0.Work, p0.Nonce, p0.Txs, p1, ()) ((((mineS p0 p1).b).Parent : Int), (((mineS p0 p1).b).Height : Int), (((mineS p0 p1).b).Miner : Int), (((mineS p0 p1).b).Work : Int), (((mineS p0 p1).b).Nonce : Int), (((mineS p0 p1).b).Txs : List TTx), ((mineS p0 p1).ok : Bool), ()) := by
  obtain ⟨hr, ht, hp⟩ := h
  have j1 : ∀ s, (s = true → mineS p0 p1 = ⟨zeroB, false⟩) → (s = false → 0 < p1 ∧ validB p0 = 0) → block_Mine_J1 ((mineS p0 p1).b.Parent, (mineS p0 p1).b.Height, (mineS p0 p1).b.Miner, (mineS p0 p1).b.Work, (mineS p0 p1).b.Nonce, (mineS p0 p1).b.Txs, (mineS p0 p1).ok, ()) (p1, s, p0.Parent, p0.Height, p0.Miner, p0.Work, p0.Nonce, p0.Txs, (0 : Int), (0 : Int), (0 : Int), (0 : Int), (0 : Int), (([] : List TTx) : List TTx), ()) := by
    intro s h1 h2
    refine block_Mine_J1_in (r0 := (mineS p0 p1).b) ⟨fun e => ?_, fun e => ?_⟩
    · rw [h1 e]
      exact ⟨rfl, rfl, rfl, rfl, rfl, rfl, rfl⟩
    · obtain ⟨q1, q2⟩ := h2 e
      have v := (validB_zero p0).1 q2
      have hl := v.h.l
      have hw := v.h.w0
      simp only [TBlock_eta]
      refine ⟨⟨hr.t, hl⟩, ?_⟩
      have es : mineS p0 p1 = mineN p1.toNat p0 := if_neg (by omega)
      refine block_Mine_lp1 (r0 := (mineS p0 p1).b) (fun k n => 0 ≤ k ∧ k ≤ p1 ∧ U64 n ∧ mineS p0 p1 = mineN k.toNat ⟨p0.Parent, p0.Height, p0.Miner, p0.Work, n, p0.Txs⟩) (fun k _ => k.toNat) ⟨by omega, by omega, hr.n, es⟩ ?_
      rintro k n ⟨g0, g1, g2, g3⟩
      refine ⟨fun hh => ?_, fun hh => ?_⟩
      · have hh := of_decide_eq_true hh
        have hb : BR ⟨p0.Parent, p0.Height, p0.Miner, p0.Work, n, p0.Txs⟩ := ⟨hr.p, hr.m, hr.w, g2, hr.h, hr.t⟩
        have hu : Us (p0.Txs.map idS) := fun x hx => by obtain ⟨t, _, rfl⟩ := List.mem_map.1 hx; exact idS_u64 t
        have e1 : k.toNat = (k - 1).toNat + 1 := by omega
        rw [e1] at g3
        refine ⟨⟨hb, hl, hu, by simp; omega⟩, by omega, fun e2 => ?_, fun e2 => ?_⟩
        · have e2 : Int.tmod (hashB 15 (namS ⟨p0.Parent, p0.Height, p0.Miner, p0.Work, n, p0.Txs⟩)) p0.Work = 0 := by simpa [namS] using e2
          have g3 : mineS p0 p1 = ⟨⟨p0.Parent, p0.Height, p0.Miner, p0.Work, n, p0.Txs⟩, true⟩ := by rw [g3]; exact if_pos e2
          rw [g3]
          exact ⟨ht, rfl, rfl, rfl, rfl, rfl, rfl, rfl⟩
        · have e2 : ¬ Int.tmod (hashB 15 (namS ⟨p0.Parent, p0.Height, p0.Miner, p0.Work, n, p0.Txs⟩)) p0.Work = 0 := by simpa [namS] using e2
          refine ⟨fun e3 => ?_, fun e3 => ?_⟩
          · have e3 : n = 18446744073709551615 := by simpa using e3
            have g3 : mineS p0 p1 = ⟨zeroB, false⟩ := by rw [g3]; exact (if_neg e2).trans (if_pos e3)
            rw [g3]
            exact ⟨rfl, rfl, rfl, rfl, rfl, rfl, rfl⟩
          · have e3 : ¬ n = 18446744073709551615 := by simpa using e3
            have g3 : mineS p0 p1 = mineN (k - 1).toNat ⟨p0.Parent, p0.Height, p0.Miner, p0.Work, n + 1, p0.Txs⟩ := by rw [g3]; exact (if_neg e2).trans (if_neg e3)
            rw [wi (k - 1) (by omega) (by omega), wu (n + 1) (by omega) (by omega)]
            exact ⟨⟨by omega, by omega, by omega, g3⟩, by omega⟩
      · have hh := of_decide_eq_false hh
        have g3 : mineS p0 p1 = ⟨zeroB, false⟩ := by rw [g3, show k.toNat = 0 by omega]; rfl
        rw [g3]
        exact ⟨rfl, rfl, rfl, rfl, rfl, rfl, rfl⟩
  refine block_Mine_in (r0 := (mineS p0 p1).b) ⟨fun e => ?_, fun e => ?_⟩
  · have e := of_decide_eq_true e
    exact j1 _ (fun _ => if_pos (.inl e)) (fun h => by cases h)
  · have e := of_decide_eq_false e
    refine ⟨hr.t, j1 _ (fun h => if_pos (.inr (by simpa using h))) (fun h => ⟨by omega, by simpa using h⟩)⟩
noncomputable def block_Mine_con : Con TB.den := block_Mine_sh.fnR (fun x => (fun (p0 : TBlock) (p1 : Int) => BR p0 ∧ p0.Txs = [] ∧ p1 ≤ 9223372036854775807) (TBlock.mk x.1 x.2.1 x.2.2.1 x.2.2.2.1 x.2.2.2.2.1 x.2.2.2.2.2.1) x.2.2.2.2.2.2.1) fun x => ((fun (p0 : TBlock) (p1 : Int) => (((mineS p0 p1).b).Parent : Int)) (TBlock.mk x.1 x.2.1 x.2.2.1 x.2.2.2.1 x.2.2.2.2.1 x.2.2.2.2.2.1) x.2.2.2.2.2.2.1, (fun (p0 : TBlock) (p1 : Int) => (((mineS p0 p1).b).Height : Int)) (TBlock.mk x.1 x.2.1 x.2.2.1 x.2.2.2.1 x.2.2.2.2.1 x.2.2.2.2.2.1) x.2.2.2.2.2.2.1, (fun (p0 : TBlock) (p1 : Int) => (((mineS p0 p1).b).Miner : Int)) (TBlock.mk x.1 x.2.1 x.2.2.1 x.2.2.2.1 x.2.2.2.2.1 x.2.2.2.2.2.1) x.2.2.2.2.2.2.1, (fun (p0 : TBlock) (p1 : Int) => (((mineS p0 p1).b).Work : Int)) (TBlock.mk x.1 x.2.1 x.2.2.1 x.2.2.2.1 x.2.2.2.2.1 x.2.2.2.2.2.1) x.2.2.2.2.2.2.1, (fun (p0 : TBlock) (p1 : Int) => (((mineS p0 p1).b).Nonce : Int)) (TBlock.mk x.1 x.2.1 x.2.2.1 x.2.2.2.1 x.2.2.2.2.1 x.2.2.2.2.2.1) x.2.2.2.2.2.2.1, (fun (p0 : TBlock) (p1 : Int) => (((mineS p0 p1).b).Txs : List TTx)) (TBlock.mk x.1 x.2.1 x.2.2.1 x.2.2.2.1 x.2.2.2.2.1 x.2.2.2.2.2.1) x.2.2.2.2.2.2.1, (fun (p0 : TBlock) (p1 : Int) => ((mineS p0 p1).ok : Bool)) (TBlock.mk x.1 x.2.1 x.2.2.1 x.2.2.2.1 x.2.2.2.2.1 x.2.2.2.2.2.1) x.2.2.2.2.2.2.1, ())
theorem block_Mine_ok : block_Mine_con.Ok Try.prog TB := Con.ok_fn block_Mine_sh bd22 fun x h => block_Mine_snd (block_Mine_body (TBlock.mk x.1 x.2.1 x.2.2.1 x.2.2.2.1 x.2.2.2.2.1 x.2.2.2.2.2.1) x.2.2.2.2.2.2.1 h)
end Go.Proofs.Ytnmakgfmimagmaa
namespace Go.Proofs.Ytnmakgfmimagmaa
open Go Go.Bv Go.Cv Go.Md Go.RowKit
def r11_Digits_sh : Con TB.den := Con.mk0 33 [.one (.d (.int .u64)), .one (.d (.int .i64))] [] (.one (.one (.d (.sl (.int .u8))))) []
abbrev r11_Digits_I := HL TB.den (hsT r11_Digits_sh.ins (hsOs r11_Digits_sh.pre))
abbrev r11_Digits_O := HL TB.den (hsV r11_Digits_sh.res (hsOs r11_Digits_sh.post))
noncomputable def r11_Digits_cx : Cx TB := ⟨inf, [], [], 4⟩
noncomputable def r11_Digits_code : Code := Try.f33.body.getD .skip
noncomputable def r11_Digits_rs : List ResultVar := Try.f33.results.toList
noncomputable def r11_Digits_Q1 (o : r11_Digits_O) : Exit → TSt TB.den → Prop := thenT TB (fun s => ghs TB [] s fun s => WP TB r11_Digits_cx 21 0 (cB (cB (cB r11_Digits_code))) .no s (retTQ TB r11_Digits_cx r11_Digits_sh r11_Digits_rs o)) (retTQ TB r11_Digits_cx r11_Digits_sh r11_Digits_rs o)
def r11_Digits_T1 : Tm := ⟨[0], [.tip (.int .u8)], [0, 1, 5, 6], [.one (.d (.int .u64)), .one (.d (.int .i64)), .one (.own 0), .one (.d (.int .i64))], 1⟩
noncomputable def r11_Digits_Q2 (o : r11_Digits_O) (nx1 : HL TB.den r11_Digits_T1.hs → Prop) : Exit → TSt TB.den → Prop := thenT TB (fun s => r11_Digits_T1.mat TB 0 s nx1) (blockT TB 0 (r11_Digits_Q1 o))
noncomputable def r11_Digits_L1 (o : r11_Digits_O) (nx1 : HL TB.den r11_Digits_T1.hs → Prop) (i : HL TB.den r11_Digits_T1.hs) : Prop := WP TB r11_Digits_cx 21 0 (cA (cA (cB (cA (cB (cB r11_Digits_code)))))) .no (r11_Digits_T1.fill TB i) (r11_Digits_Q2 o nx1)
noncomputable def r11_Digits_A5 (o : r11_Digits_O) : An TB := .lp [.tok 5 (.int .u8)] r11_Digits_T1 (r11_Digits_L1 o) fun nx1 => .no
noncomputable def r11_Digits_A6 (o : r11_Digits_O) : An TB := .nd [] .no [] (.nd [] (.nd [] .no [] (r11_Digits_A5 o)) [] .no)
noncomputable def r11_Digits_an (o : r11_Digits_O) : An TB := .nd [] .no [] (r11_Digits_A6 o)
noncomputable def r11_Digits_Body (x : r11_Digits_I) (o : r11_Digits_O) : Prop := WPh TB r11_Digits_cx 21 0 r11_Digits_code (r11_Digits_an o) (r11_Digits_sh.st TB x) (retTQ TB r11_Digits_cx r11_Digits_sh r11_Digits_rs o)
set_option maxRecDepth 100000 in
theorem r11_Digits_obl (o : r11_Digits_O) : OblH TB r11_Digits_cx 21 0 r11_Digits_code (r11_Digits_an o) (retTQ TB r11_Digits_cx r11_Digits_sh r11_Digits_rs o) :=
  OblH.of_eq (X := (True ∧ (True ∧ ((True ∧ ((∀ nx i, (r11_Digits_L1 o) nx i = (r11_Digits_L1 o) nx i) ∧ ∀ nx1 : HL TB.den r11_Digits_T1.hs → Prop, ((True ∧ (True ∧ True)) ∧ ((True ∧ True) ∧ True)))) ∧ (True ∧ True))))) (by kernel_rfl) ⟨trivial, ⟨trivial, ⟨⟨trivial, ⟨fun _ _ => rfl, fun _ => ⟨⟨trivial, ⟨trivial, trivial⟩⟩, ⟨⟨trivial, trivial⟩, trivial⟩⟩⟩⟩, ⟨trivial, trivial⟩⟩⟩⟩
set_option maxRecDepth 100000 in
theorem r11_Digits_snd {x : r11_Digits_I} {o : r11_Digits_O} (h : r11_Digits_Body x o) : SoundH Try.prog r11_Digits_sh.f ((r11_Digits_sh.args idf x).map (er TB)) ((r11_Digits_sh.obs idf x).map (erO TB)) (er TB (r11_Digits_sh.val idf o)) ((r11_Digits_sh.ops idf o).map (erO TB)) :=
  Con.soundH (c := r11_Digits_sh) (C := r11_Digits_cx) TBok ⟨inf_ok, all_nil, all_nil⟩ mix Try.func33 (show Try.f33.body = some r11_Digits_code by kernel_rfl) (show Try.f33.ntmps = 21 by kernel_rfl) (show Try.f33.results.toList = r11_Digits_rs by kernel_rfl) rfl h (r11_Digits_obl o)
set_option maxRecDepth 100000 in
theorem r11_Digits_in {p0 : Int} {p1 : Int} {r0 : List Int} (h :
((([] : List Int) = ([] : List Int)) ∧ Md.Loop (p0, p1, (0 : Int), (([] : List Int) : List Int), ()) (r11_Digits_L1 (r0, ())))) : r11_Digits_Body (p0, p1, ()) (r0, ()) := WPh.of_eq (by kernel_rfl) h
def r11_Digits_B1 (r0 : List Int) (k1 : Int → Int → List Int → Prop) (s1 : Int) (s0 : Int) (s6 : Int) (g0 : List Int) : Prop :=
(decide (s6 < s1) = true →
 g0.length = g0.length ∧ (g0.length + [IntKind.u8.wrap (Int.tmod s0 256)].length) * 1 ≤ 140737488355328 ∧ g0.length + [IntKind.u8.wrap (Int.tmod s0 256)].length ≤ maxLen ∧ let v1 : List Int := g0 ++ [IntKind.u8.wrap (Int.tmod s0 256)]
(v1 = v1) ∧ k1 (IntKind.u64.wrap (Int.tdiv s0 256) : Int) (IntKind.i64.wrap (s6 + 1) : Int) v1) ∧
(decide (s6 < s1) = false →
 g0 = r0)
set_option maxRecDepth 100000 in
theorem r11_Digits_lp1 {r0 : List Int} {s1 : Int} {s0 : Int} {s6 : Int} {g0 : List Int} (inv : Int → Int → List Int → Prop) (μ : Int → Int → List Int → Nat) (h0 : inv s0 s6 g0) (hs : ∀ (s0 : Int) (s6 : Int) (g0 : List Int), inv s0 s6 g0 → r11_Digits_B1 r0 (fun s0q s6q g0q => inv s0q s6q g0q ∧ μ s0q s6q g0q < μ s0 s6 g0) s1 s0 s6 g0) : Md.Loop (s0, s1, s6, g0, ()) (r11_Digits_L1 (r0, ())) :=
  ⟨⟨fun s : Int × Int × Int × (List Int) × Unit => (s.2.1 = s1) ∧ inv s.1 s.2.2.1 s.2.2.2.1, fun s : Int × Int × Int × (List Int) × Unit => μ s.1 s.2.2.1 s.2.2.2.1, ⟨rfl, h0⟩, fun (s0p, s1p, s6p, g0p, ()) ⟨eq0, hi⟩ => by
    have eq0 : s1p = s1 := eq0; subst s1p; exact mpr_of (by kernel_rfl) ((congrArg (fun k => r11_Digits_B1 r0 k s1 s0p s6p g0p) (lpk3 (rfl : s1 = s1) inv (fun s0q s6q g0q => μ s0q s6q g0q < μ s0p s6p g0p))).mpr (hs s0p s6p g0p hi))⟩⟩
theorem bd33 : Callable Try.prog 33 := ⟨by rw [Try.func33]; kernel_rfl, by rw [Try.func33]; show some _ ≠ some _; decide⟩
theorem r11_Digits_body (p0 : Int) (p1 : Int) (h : U64 p0 ∧ 0 ≤ p1 ∧ p1 ≤ 8) : r11_Digits_Body (p0, p1, ()) ((dig p1.toNat p0 : List Int), ()) := by
  obtain ⟨h1, h2, h3⟩ := h
  refine r11_Digits_in ⟨rfl, r11_Digits_lp1 (fun n i g => 0 ≤ i ∧ i ≤ p1 ∧ U64 n ∧ n = p0 / 256 ^ i.toNat ∧ g = dig i.toNat p0) (fun _ i _ => (p1 - i).toNat) ⟨by omega, by omega, h1, by simp, by simp [dig]⟩ ?_⟩
  rintro n i g ⟨g0, g1, g2, g3, rfl⟩
  refine ⟨fun h => ?_, fun h => ?_⟩
  · have h := of_decide_eq_true h
    rw [inc i p1 g0 h (by omega), tmod_nn _ _ g2.1, tdiv_nn _ _ g2.1, u8w, wu (n / 256) (by omega) (by omega)]
    refine ⟨rfl, ?_, ?_, rfl, ⟨by omega, by omega, ⟨by omega, by omega⟩, ?_, ?_⟩, by omega⟩
    · simp; omega
    · simp; unfold maxLen; omega
    · rw [g3, show (i + 1).toNat = i.toNat + 1 by omega, Int.ediv_ediv_of_nonneg (Int.le_of_lt (pow256_pos _)), Int.pow_succ]
    · rw [show (i + 1).toNat = i.toNat + 1 by omega, dig_snoc, g3]
      congr 2
      omega
  · have h := of_decide_eq_false h
    rw [show i = p1 by omega]
noncomputable def r11_Digits_con : Con TB.den := r11_Digits_sh.fnR (fun x => (fun (p0 : Int) (p1 : Int) => U64 p0 ∧ 0 ≤ p1 ∧ p1 ≤ 8) x.1 x.2.1) fun x => ((fun (p0 : Int) (p1 : Int) => (dig p1.toNat p0 : List Int)) x.1 x.2.1, ())
theorem r11_Digits_ok : r11_Digits_con.Ok Try.prog TB := Con.ok_fn r11_Digits_sh bd33 fun x h => r11_Digits_snd (r11_Digits_body x.1 x.2.1 h)
end Go.Proofs.Ytnmakgfmimagmaa
namespace Go.Proofs.Ytnmakgfmimagmaa
open Go Go.Bv Go.Cv Go.Md Go.RowKit
def r11_Digits_o_sh : Con TB.den := Con.mk0 33 [.one (.d (.int .u64)), .one (.d (.int .i64))] [] (.one (.one (.own 0))) [.tip (.int .u8)]
abbrev r11_Digits_o_I := HL TB.den (hsT r11_Digits_o_sh.ins (hsOs r11_Digits_o_sh.pre))
abbrev r11_Digits_o_O := HL TB.den (hsV r11_Digits_o_sh.res (hsOs r11_Digits_o_sh.post))
noncomputable def r11_Digits_o_cx : Cx TB := ⟨inf, [], [], 4⟩
noncomputable def r11_Digits_o_code : Code := Try.f33.body.getD .skip
noncomputable def r11_Digits_o_rs : List ResultVar := Try.f33.results.toList
noncomputable def r11_Digits_o_Q1 (o : r11_Digits_o_O) : Exit → TSt TB.den → Prop := thenT TB (fun s => ghs TB [] s fun s => WP TB r11_Digits_o_cx 21 0 (cB (cB (cB r11_Digits_o_code))) .no s (retTQ TB r11_Digits_o_cx r11_Digits_o_sh r11_Digits_o_rs o)) (retTQ TB r11_Digits_o_cx r11_Digits_o_sh r11_Digits_o_rs o)
def r11_Digits_o_T1 : Tm := ⟨[0], [.tip (.int .u8)], [0, 1, 5, 6], [.one (.d (.int .u64)), .one (.d (.int .i64)), .one (.own 0), .one (.d (.int .i64))], 1⟩
noncomputable def r11_Digits_o_Q2 (o : r11_Digits_o_O) (nx1 : HL TB.den r11_Digits_o_T1.hs → Prop) : Exit → TSt TB.den → Prop := thenT TB (fun s => r11_Digits_o_T1.mat TB 0 s nx1) (blockT TB 0 (r11_Digits_o_Q1 o))
noncomputable def r11_Digits_o_L1 (o : r11_Digits_o_O) (nx1 : HL TB.den r11_Digits_o_T1.hs → Prop) (i : HL TB.den r11_Digits_o_T1.hs) : Prop := WP TB r11_Digits_o_cx 21 0 (cA (cA (cB (cA (cB (cB r11_Digits_o_code)))))) .no (r11_Digits_o_T1.fill TB i) (r11_Digits_o_Q2 o nx1)
noncomputable def r11_Digits_o_A5 (o : r11_Digits_o_O) : An TB := .lp [.tok 5 (.int .u8)] r11_Digits_o_T1 (r11_Digits_o_L1 o) fun nx1 => .no
noncomputable def r11_Digits_o_A6 (o : r11_Digits_o_O) : An TB := .nd [] .no [] (.nd [] (.nd [] .no [] (r11_Digits_o_A5 o)) [] .no)
noncomputable def r11_Digits_o_an (o : r11_Digits_o_O) : An TB := .nd [] .no [] (r11_Digits_o_A6 o)
noncomputable def r11_Digits_o_Body (x : r11_Digits_o_I) (o : r11_Digits_o_O) : Prop := WPh TB r11_Digits_o_cx 21 0 r11_Digits_o_code (r11_Digits_o_an o) (r11_Digits_o_sh.st TB x) (retTQ TB r11_Digits_o_cx r11_Digits_o_sh r11_Digits_o_rs o)
set_option maxRecDepth 100000 in
theorem r11_Digits_o_obl (o : r11_Digits_o_O) : OblH TB r11_Digits_o_cx 21 0 r11_Digits_o_code (r11_Digits_o_an o) (retTQ TB r11_Digits_o_cx r11_Digits_o_sh r11_Digits_o_rs o) :=
  OblH.of_eq (X := (True ∧ (True ∧ ((True ∧ ((∀ nx i, (r11_Digits_o_L1 o) nx i = (r11_Digits_o_L1 o) nx i) ∧ ∀ nx1 : HL TB.den r11_Digits_o_T1.hs → Prop, ((True ∧ (True ∧ True)) ∧ ((True ∧ True) ∧ True)))) ∧ (True ∧ True))))) (by kernel_rfl) ⟨trivial, ⟨trivial, ⟨⟨trivial, ⟨fun _ _ => rfl, fun _ => ⟨⟨trivial, ⟨trivial, trivial⟩⟩, ⟨⟨trivial, trivial⟩, trivial⟩⟩⟩⟩, ⟨trivial, trivial⟩⟩⟩⟩
set_option maxRecDepth 100000 in
theorem r11_Digits_o_snd {x : r11_Digits_o_I} {o : r11_Digits_o_O} (h : r11_Digits_o_Body x o) : SoundH Try.prog r11_Digits_o_sh.f ((r11_Digits_o_sh.args idf x).map (er TB)) ((r11_Digits_o_sh.obs idf x).map (erO TB)) (er TB (r11_Digits_o_sh.val idf o)) ((r11_Digits_o_sh.ops idf o).map (erO TB)) :=
  Con.soundH (c := r11_Digits_o_sh) (C := r11_Digits_o_cx) TBok ⟨inf_ok, all_nil, all_nil⟩ mix Try.func33 (show Try.f33.body = some r11_Digits_o_code by kernel_rfl) (show Try.f33.ntmps = 21 by kernel_rfl) (show Try.f33.results.toList = r11_Digits_o_rs by kernel_rfl) rfl h (r11_Digits_o_obl o)
set_option maxRecDepth 100000 in
theorem r11_Digits_o_in {p0 : Int} {p1 : Int} {e0 : List Int} (h :
((([] : List Int) = ([] : List Int)) ∧ Md.Loop (p0, p1, (0 : Int), (([] : List Int) : List Int), ()) (r11_Digits_o_L1 (e0, ())))) : r11_Digits_o_Body (p0, p1, ()) (e0, ()) := WPh.of_eq (by kernel_rfl) h
def r11_Digits_o_B1 (e0 : List Int) (k1 : Int → Int → List Int → Prop) (s1 : Int) (s0 : Int) (s6 : Int) (g0 : List Int) : Prop :=
(decide (s6 < s1) = true →
 g0.length = g0.length ∧ (g0.length + [IntKind.u8.wrap (Int.tmod s0 256)].length) * 1 ≤ 140737488355328 ∧ g0.length + [IntKind.u8.wrap (Int.tmod s0 256)].length ≤ maxLen ∧ let v1 : List Int := g0 ++ [IntKind.u8.wrap (Int.tmod s0 256)]
(v1 = v1) ∧ k1 (IntKind.u64.wrap (Int.tdiv s0 256) : Int) (IntKind.i64.wrap (s6 + 1) : Int) v1) ∧
(decide (s6 < s1) = false →
(g0 = g0) ∧ g0 = e0)
set_option maxRecDepth 100000 in
theorem r11_Digits_o_lp1 {e0 : List Int} {s1 : Int} {s0 : Int} {s6 : Int} {g0 : List Int} (inv : Int → Int → List Int → Prop) (μ : Int → Int → List Int → Nat) (h0 : inv s0 s6 g0) (hs : ∀ (s0 : Int) (s6 : Int) (g0 : List Int), inv s0 s6 g0 → r11_Digits_o_B1 e0 (fun s0q s6q g0q => inv s0q s6q g0q ∧ μ s0q s6q g0q < μ s0 s6 g0) s1 s0 s6 g0) : Md.Loop (s0, s1, s6, g0, ()) (r11_Digits_o_L1 (e0, ())) :=
  ⟨⟨fun s : Int × Int × Int × (List Int) × Unit => (s.2.1 = s1) ∧ inv s.1 s.2.2.1 s.2.2.2.1, fun s : Int × Int × Int × (List Int) × Unit => μ s.1 s.2.2.1 s.2.2.2.1, ⟨rfl, h0⟩, fun (s0p, s1p, s6p, g0p, ()) ⟨eq0, hi⟩ => by
    have eq0 : s1p = s1 := eq0; subst s1p; exact mpr_of (by kernel_rfl) ((congrArg (fun k => r11_Digits_o_B1 e0 k s1 s0p s6p g0p) (lpk3 (rfl : s1 = s1) inv (fun s0q s6q g0q => μ s0q s6q g0q < μ s0p s6p g0p))).mpr (hs s0p s6p g0p hi))⟩⟩
theorem r11_Digits_o_body (p0 : Int) (p1 : Int) (h : U64 p0 ∧ 0 ≤ p1 ∧ p1 ≤ 8) : r11_Digits_o_Body (p0, p1, ()) ((dig p1.toNat p0 : List Int), ()) := by
  obtain ⟨h1, h2, h3⟩ := h
  refine r11_Digits_o_in ⟨rfl, r11_Digits_o_lp1 (fun n i g => 0 ≤ i ∧ i ≤ p1 ∧ U64 n ∧ n = p0 / 256 ^ i.toNat ∧ g = dig i.toNat p0) (fun _ i _ => (p1 - i).toNat) ⟨by omega, by omega, h1, by simp, by simp [dig]⟩ ?_⟩
  rintro n i g ⟨g0, g1, g2, g3, rfl⟩
  refine ⟨fun h => ?_, fun h => ?_⟩
  · have h := of_decide_eq_true h
    rw [inc i p1 g0 h (by omega), tmod_nn _ _ g2.1, tdiv_nn _ _ g2.1, u8w, wu (n / 256) (by omega) (by omega)]
    refine ⟨rfl, ?_, ?_, rfl, ⟨by omega, by omega, ⟨by omega, by omega⟩, ?_, ?_⟩, by omega⟩
    · simp; omega
    · simp; unfold maxLen; omega
    · rw [g3, show (i + 1).toNat = i.toNat + 1 by omega, Int.ediv_ediv_of_nonneg (Int.le_of_lt (pow256_pos _)), Int.pow_succ]
    · rw [show (i + 1).toNat = i.toNat + 1 by omega, dig_snoc, g3]
      congr 2
      omega
  · have h := of_decide_eq_false h
    exact ⟨rfl, by rw [show i = p1 by omega]⟩
noncomputable def r11_Digits_o_con : Con TB.den := r11_Digits_o_sh.fnR (fun x => (fun (p0 : Int) (p1 : Int) => U64 p0 ∧ 0 ≤ p1 ∧ p1 ≤ 8) x.1 x.2.1) fun x => ((fun (p0 : Int) (p1 : Int) => (dig p1.toNat p0 : List Int)) x.1 x.2.1, ())
theorem r11_Digits_o_ok : r11_Digits_o_con.Ok Try.prog TB := Con.ok_fn r11_Digits_o_sh bd33 fun x h => r11_Digits_o_snd (r11_Digits_o_body x.1 x.2.1 h)
end Go.Proofs.Ytnmakgfmimagmaa
namespace Go.Proofs.Ytnmakgfmimagmaa
open Go Go.Bv Go.Cv Go.Md Go.RowKit
def r11_Int_sh : Con TB.den := Con.mk0 35 [.one (.d (.int .i64))] [] (.one (.one (.d (.sl (.int .u8))))) []
abbrev r11_Int_I := HL TB.den (hsT r11_Int_sh.ins (hsOs r11_Int_sh.pre))
abbrev r11_Int_O := HL TB.den (hsV r11_Int_sh.res (hsOs r11_Int_sh.post))
noncomputable def r11_Int_cx : Cx TB := ⟨inf, [r11_Digits_con], [], 4⟩
noncomputable def r11_Int_code : Code := Try.f35.body.getD .skip
noncomputable def r11_Int_rs : List ResultVar := Try.f35.results.toList
def r11_Int_TJ1 : Tm := ⟨[], [], [0], [.one (.d (.int .i64))], 0⟩
noncomputable def r11_Int_J1d (o : r11_Int_O) (i : HL TB.den r11_Int_TJ1.hs) : Prop := ghs TB [] (r11_Int_TJ1.fill TB i) fun s => WP TB r11_Int_cx 12 0 (cB (cB r11_Int_code)) .no s (retTQ TB r11_Int_cx r11_Int_sh r11_Int_rs o)
structure r11_Int_J1 (o : r11_Int_O) (i : HL TB.den r11_Int_TJ1.hs) : Prop where
  h : r11_Int_J1d o i
noncomputable def r11_Int_an (o : r11_Int_O) : An TB := .nd [] .no [] (.jn r11_Int_TJ1 (r11_Int_J1 o) [] .no [] .no)
noncomputable def r11_Int_Body (x : r11_Int_I) (o : r11_Int_O) : Prop := WPh TB r11_Int_cx 12 0 r11_Int_code (r11_Int_an o) (r11_Int_sh.st TB x) (retTQ TB r11_Int_cx r11_Int_sh r11_Int_rs o)
set_option maxRecDepth 100000 in
theorem r11_Int_obl (o : r11_Int_O) : OblH TB r11_Int_cx 12 0 r11_Int_code (r11_Int_an o) (retTQ TB r11_Int_cx r11_Int_sh r11_Int_rs o) :=
  OblH.of_eq (X := (True ∧ ((True ∧ (True ∧ True)) ∧ (∀ i, (r11_Int_J1 o) i = (r11_Int_J1d o) i) ∧ (True ∧ True)))) (by kernel_rfl) ⟨trivial, ⟨⟨trivial, ⟨trivial, trivial⟩⟩, fun _ => propext ⟨fun h => h.1, fun h => ⟨h⟩⟩, ⟨trivial, trivial⟩⟩⟩
set_option maxRecDepth 100000 in
theorem r11_Int_snd {x : r11_Int_I} {o : r11_Int_O} (h : r11_Int_Body x o) : SoundH Try.prog r11_Int_sh.f ((r11_Int_sh.args idf x).map (er TB)) ((r11_Int_sh.obs idf x).map (erO TB)) (er TB (r11_Int_sh.val idf o)) ((r11_Int_sh.ops idf o).map (erO TB)) :=
  Con.soundH (c := r11_Int_sh) (C := r11_Int_cx) TBok ⟨inf_ok, (all_cons r11_Digits_ok all_nil), all_nil⟩ mix Try.func35 (show Try.f35.body = some r11_Int_code by kernel_rfl) (show Try.f35.ntmps = 12 by kernel_rfl) (show Try.f35.results.toList = r11_Int_rs by kernel_rfl) rfl h (r11_Int_obl o)
set_option maxRecDepth 100000 in
theorem r11_Int_in {p0 : Int} {r0 : List Int} (h :
((decide (p0 < 0) = true →
 r11_Int_J1 (r0, ()) ((0 : Int), ())) ∧
(decide (p0 < 0) = false →
(decide (4294967296 ≤ p0) = true →
 r11_Int_J1 (r0, ()) ((0 : Int), ())) ∧
(decide (4294967296 ≤ p0) = false →
 r11_Int_J1 (r0, ()) (p0, ()))))) : r11_Int_Body (p0, ()) (r0, ()) := WPh.of_eq (by kernel_rfl) h
set_option maxRecDepth 100000 in
theorem r11_Int_J1_in {r0 : List Int} {s0 : Int} (h :
((U64 (IntKind.u64.wrap s0) ∧ 0 ≤ (4 : Int) ∧ (4 : Int) ≤ 8) ∧ let r1 : List Int := dig (4 : Int).toNat (IntKind.u64.wrap s0)
 r1 = r0)) : r11_Int_J1 (r0, ()) (s0, ()) := ⟨mpr_of (by kernel_rfl) h⟩
theorem bd35 : Callable Try.prog 35 := ⟨by rw [Try.func35]; kernel_rfl, by rw [Try.func35]; show some _ ≠ some _; decide⟩
theorem r11_Int_body (p0 : Int) : r11_Int_Body (p0, ()) ((dig 4 (len4 p0) : List Int), ()) := by
  have j : ∀ n, 0 ≤ n → n ≤ 4294967295 → len4 p0 = n → r11_Int_J1 ((dig 4 (len4 p0) : List Int), ()) (n, ()) := by
    intro n h0 h1 e
    refine r11_Int_J1_in ?_
    rw [wu n (by omega) (by omega), e]
    exact ⟨⟨⟨h0, by omega⟩, by omega⟩, rfl⟩
  refine r11_Int_in ⟨fun h => j 0 (by omega) (by omega) ?_, fun h => ⟨fun h' => j 0 (by omega) (by omega) ?_, fun h' => j p0 ?_ ?_ ?_⟩⟩
  · have h := of_decide_eq_true h; exact if_pos (.inl h)
  · have h' := of_decide_eq_true h'; exact if_pos (.inr (by omega))
  · have h := of_decide_eq_false h; omega
  · have h' := of_decide_eq_false h'; omega
  · have h := of_decide_eq_false h; have h' := of_decide_eq_false h'; exact len4_in ⟨by omega, by omega⟩
noncomputable def r11_Int_con : Con TB.den := r11_Int_sh.totR fun x => ((fun (p0 : Int) => (dig 4 (len4 p0) : List Int)) x.1, ())
theorem r11_Int_ok : r11_Int_con.Ok Try.prog TB := Con.ok_tot r11_Int_sh bd35 fun x => r11_Int_snd (r11_Int_body x.1)
end Go.Proofs.Ytnmakgfmimagmaa
namespace Go.Proofs.Ytnmakgfmimagmaa
open Go Go.Bv Go.Cv Go.Md Go.RowKit
def r11_Int_o_sh : Con TB.den := Con.mk0 35 [.one (.d (.int .i64))] [] (.one (.one (.own 0))) [.tip (.int .u8)]
abbrev r11_Int_o_I := HL TB.den (hsT r11_Int_o_sh.ins (hsOs r11_Int_o_sh.pre))
abbrev r11_Int_o_O := HL TB.den (hsV r11_Int_o_sh.res (hsOs r11_Int_o_sh.post))
noncomputable def r11_Int_o_cx : Cx TB := ⟨inf, [r11_Digits_o_con], [], 4⟩
noncomputable def r11_Int_o_code : Code := Try.f35.body.getD .skip
noncomputable def r11_Int_o_rs : List ResultVar := Try.f35.results.toList
def r11_Int_o_TJ1 : Tm := ⟨[], [], [0], [.one (.d (.int .i64))], 0⟩
noncomputable def r11_Int_o_J1d (o : r11_Int_o_O) (i : HL TB.den r11_Int_o_TJ1.hs) : Prop := ghs TB [] (r11_Int_o_TJ1.fill TB i) fun s => WP TB r11_Int_o_cx 12 0 (cB (cB r11_Int_o_code)) .no s (retTQ TB r11_Int_o_cx r11_Int_o_sh r11_Int_o_rs o)
structure r11_Int_o_J1 (o : r11_Int_o_O) (i : HL TB.den r11_Int_o_TJ1.hs) : Prop where
  h : r11_Int_o_J1d o i
noncomputable def r11_Int_o_an (o : r11_Int_o_O) : An TB := .nd [] .no [] (.jn r11_Int_o_TJ1 (r11_Int_o_J1 o) [] .no [] .no)
noncomputable def r11_Int_o_Body (x : r11_Int_o_I) (o : r11_Int_o_O) : Prop := WPh TB r11_Int_o_cx 12 0 r11_Int_o_code (r11_Int_o_an o) (r11_Int_o_sh.st TB x) (retTQ TB r11_Int_o_cx r11_Int_o_sh r11_Int_o_rs o)
set_option maxRecDepth 100000 in
theorem r11_Int_o_obl (o : r11_Int_o_O) : OblH TB r11_Int_o_cx 12 0 r11_Int_o_code (r11_Int_o_an o) (retTQ TB r11_Int_o_cx r11_Int_o_sh r11_Int_o_rs o) :=
  OblH.of_eq (X := (True ∧ ((True ∧ (True ∧ True)) ∧ (∀ i, (r11_Int_o_J1 o) i = (r11_Int_o_J1d o) i) ∧ (True ∧ True)))) (by kernel_rfl) ⟨trivial, ⟨⟨trivial, ⟨trivial, trivial⟩⟩, fun _ => propext ⟨fun h => h.1, fun h => ⟨h⟩⟩, ⟨trivial, trivial⟩⟩⟩
set_option maxRecDepth 100000 in
theorem r11_Int_o_snd {x : r11_Int_o_I} {o : r11_Int_o_O} (h : r11_Int_o_Body x o) : SoundH Try.prog r11_Int_o_sh.f ((r11_Int_o_sh.args idf x).map (er TB)) ((r11_Int_o_sh.obs idf x).map (erO TB)) (er TB (r11_Int_o_sh.val idf o)) ((r11_Int_o_sh.ops idf o).map (erO TB)) :=
  Con.soundH (c := r11_Int_o_sh) (C := r11_Int_o_cx) TBok ⟨inf_ok, (all_cons r11_Digits_o_ok all_nil), all_nil⟩ mix Try.func35 (show Try.f35.body = some r11_Int_o_code by kernel_rfl) (show Try.f35.ntmps = 12 by kernel_rfl) (show Try.f35.results.toList = r11_Int_o_rs by kernel_rfl) rfl h (r11_Int_o_obl o)
set_option maxRecDepth 100000 in
theorem r11_Int_o_in {p0 : Int} {e0 : List Int} (h :
((decide (p0 < 0) = true →
 r11_Int_o_J1 (e0, ()) ((0 : Int), ())) ∧
(decide (p0 < 0) = false →
(decide (4294967296 ≤ p0) = true →
 r11_Int_o_J1 (e0, ()) ((0 : Int), ())) ∧
(decide (4294967296 ≤ p0) = false →
 r11_Int_o_J1 (e0, ()) (p0, ()))))) : r11_Int_o_Body (p0, ()) (e0, ()) := WPh.of_eq (by kernel_rfl) h
set_option maxRecDepth 100000 in
theorem r11_Int_o_J1_in {e0 : List Int} {s0 : Int} (h :
((U64 (IntKind.u64.wrap s0) ∧ 0 ≤ (4 : Int) ∧ (4 : Int) ≤ 8) ∧ let r1 : List Int := dig (4 : Int).toNat (IntKind.u64.wrap s0)
(r1 = r1) ∧ r1 = e0)) : r11_Int_o_J1 (e0, ()) (s0, ()) := ⟨mpr_of (by kernel_rfl) h⟩
theorem r11_Int_o_body (p0 : Int) : r11_Int_o_Body (p0, ()) ((dig 4 (len4 p0) : List Int), ()) := by
  have j : ∀ n, 0 ≤ n → n ≤ 4294967295 → len4 p0 = n → r11_Int_o_J1 ((dig 4 (len4 p0) : List Int), ()) (n, ()) := by
    intro n h0 h1 e
    refine r11_Int_o_J1_in ?_
    rw [wu n (by omega) (by omega), e]
    exact ⟨⟨⟨h0, by omega⟩, by omega⟩, by trivial, rfl⟩
  refine r11_Int_o_in ⟨fun h => j 0 (by omega) (by omega) ?_, fun h => ⟨fun h' => j 0 (by omega) (by omega) ?_, fun h' => j p0 ?_ ?_ ?_⟩⟩
  · have h := of_decide_eq_true h; exact if_pos (.inl h)
  · have h' := of_decide_eq_true h'; exact if_pos (.inr (by omega))
  · have h := of_decide_eq_false h; omega
  · have h' := of_decide_eq_false h'; omega
  · have h := of_decide_eq_false h; have h' := of_decide_eq_false h'; exact len4_in ⟨by omega, by omega⟩
noncomputable def r11_Int_o_con : Con TB.den := r11_Int_o_sh.totR fun x => ((fun (p0 : Int) => (dig 4 (len4 p0) : List Int)) x.1, ())
theorem r11_Int_o_ok : r11_Int_o_con.Ok Try.prog TB := Con.ok_tot r11_Int_o_sh bd35 fun x => r11_Int_o_snd (r11_Int_o_body x.1)
end Go.Proofs.Ytnmakgfmimagmaa
namespace Go.Proofs.Ytnmakgfmimagmaa
open Go Go.Bv Go.Cv Go.Md Go.RowKit
def r11_Bytes_sh : Con TB.den := Con.mk0 36 [.one (.d (.sl (.int .u8)))] [] (.one (.one (.d (.sl (.int .u8))))) []
abbrev r11_Bytes_I := HL TB.den (hsT r11_Bytes_sh.ins (hsOs r11_Bytes_sh.pre))
abbrev r11_Bytes_O := HL TB.den (hsV r11_Bytes_sh.res (hsOs r11_Bytes_sh.post))
noncomputable def r11_Bytes_cx : Cx TB := ⟨inf, [r11_Int_o_con], [], 4⟩
noncomputable def r11_Bytes_code : Code := Try.f36.body.getD .skip
noncomputable def r11_Bytes_rs : List ResultVar := Try.f36.results.toList
noncomputable def r11_Bytes_an (o : r11_Bytes_O) : An TB := .no
noncomputable def r11_Bytes_Body (x : r11_Bytes_I) (o : r11_Bytes_O) : Prop := WPh TB r11_Bytes_cx 8 0 r11_Bytes_code (r11_Bytes_an o) (r11_Bytes_sh.st TB x) (retTQ TB r11_Bytes_cx r11_Bytes_sh r11_Bytes_rs o)
set_option maxRecDepth 100000 in
theorem r11_Bytes_obl (o : r11_Bytes_O) : OblH TB r11_Bytes_cx 8 0 r11_Bytes_code (r11_Bytes_an o) (retTQ TB r11_Bytes_cx r11_Bytes_sh r11_Bytes_rs o) :=
  OblH.of_eq (X := (True ∧ (True ∧ True))) (by kernel_rfl) ⟨trivial, ⟨trivial, trivial⟩⟩
set_option maxRecDepth 100000 in
theorem r11_Bytes_snd {x : r11_Bytes_I} {o : r11_Bytes_O} (h : r11_Bytes_Body x o) : SoundH Try.prog r11_Bytes_sh.f ((r11_Bytes_sh.args idf x).map (er TB)) ((r11_Bytes_sh.obs idf x).map (erO TB)) (er TB (r11_Bytes_sh.val idf o)) ((r11_Bytes_sh.ops idf o).map (erO TB)) :=
  Con.soundH (c := r11_Bytes_sh) (C := r11_Bytes_cx) TBok ⟨inf_ok, (all_cons r11_Int_o_ok all_nil), all_nil⟩ mix Try.func36 (show Try.f36.body = some r11_Bytes_code by kernel_rfl) (show Try.f36.ntmps = 8 by kernel_rfl) (show Try.f36.results.toList = r11_Bytes_rs by kernel_rfl) rfl h (r11_Bytes_obl o)
set_option maxRecDepth 100000 in
theorem r11_Bytes_in {p0 : List Int} {r0 : List Int} (h :
((dig 4 (len4 (p0.length : Int))).length = (dig 4 (len4 (p0.length : Int))).length ∧ ((dig 4 (len4 (p0.length : Int))).length + p0.length) * 1 ≤ 140737488355328 ∧ (dig 4 (len4 (p0.length : Int))).length + p0.length ≤ maxLen ∧ (dig 4 (len4 (p0.length : Int))) ++ p0 = r0)) : r11_Bytes_Body (p0, ()) (r0, ()) := WPh.of_eq (by kernel_rfl) h
theorem bd36 : Callable Try.prog 36 := ⟨by rw [Try.func36]; kernel_rfl, by rw [Try.func36]; show some _ ≠ some _; decide⟩
theorem r11_Bytes_body (p0 : List Int) (h : p0.length ≤ 4294967295) : r11_Bytes_Body (p0, ()) ((encB p0 : List Int), ()) := by
  refine r11_Bytes_in ⟨by trivial, ?_, ?_, rfl⟩
  · simp; omega
  · simp; unfold maxLen; omega
noncomputable def r11_Bytes_con : Con TB.den := r11_Bytes_sh.fnR (fun x => (fun (p0 : List Int) => p0.length ≤ 4294967295) x.1) fun x => ((fun (p0 : List Int) => (encB p0 : List Int)) x.1, ())
theorem r11_Bytes_ok : r11_Bytes_con.Ok Try.prog TB := Con.ok_fn r11_Bytes_sh bd36 fun x h => r11_Bytes_snd (r11_Bytes_body x.1 h)
end Go.Proofs.Ytnmakgfmimagmaa
namespace Go.Proofs.Ytnmakgfmimagmaa
open Go Go.Bv Go.Cv Go.Md Go.RowKit
def r11_List_sh : Con TB.den := Con.mk0 34 [.one (.d (.sl (.int .u64)))] [] (.one (.one (.d (.sl (.int .u8))))) []
abbrev r11_List_I := HL TB.den (hsT r11_List_sh.ins (hsOs r11_List_sh.pre))
abbrev r11_List_O := HL TB.den (hsV r11_List_sh.res (hsOs r11_List_sh.post))
noncomputable def r11_List_cx : Cx TB := ⟨inf, [r11_Int_o_con, r11_Digits_con], [], 4⟩
noncomputable def r11_List_code : Code := Try.f34.body.getD .skip
noncomputable def r11_List_rs : List ResultVar := Try.f34.results.toList
noncomputable def r11_List_Q1 (o : r11_List_O) : Exit → TSt TB.den → Prop := thenT TB (fun s => ghs TB [] s fun s => WP TB r11_List_cx 22 0 (cB (cB (cB r11_List_code))) .no s (retTQ TB r11_List_cx r11_List_sh r11_List_rs o)) (retTQ TB r11_List_cx r11_List_sh r11_List_rs o)
def r11_List_T1 : Tm := ⟨[0], [.tip (.int .u8)], [0, 3, 4], [.one (.d (.sl (.int .u64))), .one (.own 0), .one (.d (.int .i64))], 1⟩
noncomputable def r11_List_Q2 (o : r11_List_O) (nx1 : HL TB.den r11_List_T1.hs → Prop) : Exit → TSt TB.den → Prop := thenT TB (fun s => r11_List_T1.mat TB 0 s nx1) (blockT TB 0 (r11_List_Q1 o))
noncomputable def r11_List_L1 (o : r11_List_O) (nx1 : HL TB.den r11_List_T1.hs → Prop) (i : HL TB.den r11_List_T1.hs) : Prop := WP TB r11_List_cx 22 0 (cA (cA (cB (cA (cB (cB r11_List_code)))))) .no (r11_List_T1.fill TB i) (r11_List_Q2 o nx1)
noncomputable def r11_List_A5 (o : r11_List_O) : An TB := .nd [] .no [] (.lp [] r11_List_T1 (r11_List_L1 o) fun nx1 => .no)
noncomputable def r11_List_an (o : r11_List_O) : An TB := .nd [] .no [] (.nd [] .no [] (.nd [] (r11_List_A5 o) [] .no))
noncomputable def r11_List_Body (x : r11_List_I) (o : r11_List_O) : Prop := WPh TB r11_List_cx 22 0 r11_List_code (r11_List_an o) (r11_List_sh.st TB x) (retTQ TB r11_List_cx r11_List_sh r11_List_rs o)
set_option maxRecDepth 100000 in
theorem r11_List_obl (o : r11_List_O) : OblH TB r11_List_cx 22 0 r11_List_code (r11_List_an o) (retTQ TB r11_List_cx r11_List_sh r11_List_rs o) :=
  OblH.of_eq (X := (True ∧ (True ∧ ((True ∧ ((∀ nx i, (r11_List_L1 o) nx i = (r11_List_L1 o) nx i) ∧ ∀ nx1 : HL TB.den r11_List_T1.hs → Prop, ((True ∧ (True ∧ True)) ∧ (True ∧ True)))) ∧ (True ∧ True))))) (by kernel_rfl) ⟨trivial, ⟨trivial, ⟨⟨trivial, ⟨fun _ _ => rfl, fun _ => ⟨⟨trivial, ⟨trivial, trivial⟩⟩, ⟨trivial, trivial⟩⟩⟩⟩, ⟨trivial, trivial⟩⟩⟩⟩
set_option maxRecDepth 100000 in
theorem r11_List_snd {x : r11_List_I} {o : r11_List_O} (h : r11_List_Body x o) : SoundH Try.prog r11_List_sh.f ((r11_List_sh.args idf x).map (er TB)) ((r11_List_sh.obs idf x).map (erO TB)) (er TB (r11_List_sh.val idf o)) ((r11_List_sh.ops idf o).map (erO TB)) :=
  Con.soundH (c := r11_List_sh) (C := r11_List_cx) TBok ⟨inf_ok, (all_cons r11_Int_o_ok (all_cons r11_Digits_ok all_nil)), all_nil⟩ mix Try.func34 (show Try.f34.body = some r11_List_code by kernel_rfl) (show Try.f34.ntmps = 22 by kernel_rfl) (show Try.f34.results.toList = r11_List_rs by kernel_rfl) rfl h (r11_List_obl o)
set_option maxRecDepth 100000 in
theorem r11_List_in {p0 : List Int} {r0 : List Int} (h :
((dig 4 (len4 (p0.length : Int)) = dig 4 (len4 (p0.length : Int))) ∧ Md.Loop (p0, (0 : Int), (dig 4 (len4 (p0.length : Int)) : List Int), ()) (r11_List_L1 (r0, ())))) : r11_List_Body (p0, ()) (r0, ()) := WPh.of_eq (by kernel_rfl) h
def r11_List_B1 (r0 : List Int) (k1 : Int → List Int → Prop) (s0 : List Int) (s4 : Int) (g0 : List Int) : Prop :=
(decide (s4 < (s0.length : Int)) = true →
(0 ≤ s4) ∧ s4 < (s0.length : Int) ∧ (U64 (ix s0 s4) ∧ 0 ≤ (8 : Int) ∧ (8 : Int) ≤ 8) ∧ g0.length = g0.length ∧ (g0.length + (dig (8 : Int).toNat (ix s0 s4)).length) * 1 ≤ 140737488355328 ∧ g0.length + (dig (8 : Int).toNat (ix s0 s4)).length ≤ maxLen ∧ (g0 ++ (dig (8 : Int).toNat (ix s0 s4)) = g0 ++ (dig (8 : Int).toNat (ix s0 s4))) ∧ k1 (IntKind.i64.wrap (s4 + 1) : Int) (g0 ++ (dig (8 : Int).toNat (ix s0 s4)) : List Int)) ∧
(decide (s4 < (s0.length : Int)) = false →
 g0 = r0)
set_option maxRecDepth 100000 in
theorem r11_List_lp1 {r0 : List Int} {s0 : List Int} {s4 : Int} {g0 : List Int} (inv : Int → List Int → Prop) (μ : Int → List Int → Nat) (h0 : inv s4 g0) (hs : ∀ (s4 : Int) (g0 : List Int), inv s4 g0 → r11_List_B1 r0 (fun s4q g0q => inv s4q g0q ∧ μ s4q g0q < μ s4 g0) s0 s4 g0) : Md.Loop (s0, s4, g0, ()) (r11_List_L1 (r0, ())) :=
  ⟨⟨fun s : (List Int) × Int × (List Int) × Unit => (s.1 = s0) ∧ inv s.2.1 s.2.2.1, fun s : (List Int) × Int × (List Int) × Unit => μ s.2.1 s.2.2.1, ⟨rfl, h0⟩, fun (s0p, s4p, g0p, ()) ⟨eq0, hi⟩ => by
    have eq0 : s0p = s0 := eq0; subst s0p; exact mpr_of (by kernel_rfl) ((congrArg (fun k => r11_List_B1 r0 k s0 s4p g0p) (lpk2 (rfl : s0 = s0) inv (fun s4q g0q => μ s4q g0q < μ s4p g0p))).mpr (hs s4p g0p hi))⟩⟩
theorem bd34 : Callable Try.prog 34 := ⟨by rw [Try.func34]; kernel_rfl, by rw [Try.func34]; show some _ ≠ some _; decide⟩
theorem r11_List_body (p0 : List Int) (h : Us p0 ∧ p0.length ≤ 4294967295) : r11_List_Body (p0, ()) ((encL p0 : List Int), ()) := by
  obtain ⟨h1, h2⟩ := h
  refine r11_List_in ⟨rfl, r11_List_lp1 (fun i g => 0 ≤ i ∧ i ≤ p0.length ∧ g = dig 4 (len4 p0.length) ++ (p0.take i.toNat).flatMap (dig 8)) (fun i _ => (p0.length - i).toNat) ⟨by omega, by omega, by simp⟩ ?_⟩
  rintro i g ⟨g0, g1, rfl⟩
  refine ⟨fun h => ?_, fun h => ?_⟩
  · have h := of_decide_eq_true h
    have hx := h1 _ (ix_mem p0 i g0 h)
    rw [inc i p0.length g0 h (by omega)]
    have hlen : (dig 4 (len4 p0.length) ++ (p0.take i.toNat).flatMap (dig 8)).length ≤ 4 + 8 * p0.length := by simp only [List.length_append, dig_length, flat8_length, List.length_take]; omega
    refine ⟨g0, h, ⟨hx, by omega⟩, rfl, ?_, ?_, rfl, ⟨by omega, by omega, ?_⟩, by omega⟩
    · rw [dig_length]; omega
    · rw [dig_length]; unfold maxLen; omega
    · rw [take_succ_ix p0 i g0 h, List.flatMap_append, List.append_assoc]
      simp
  · have h := of_decide_eq_false h
    rw [List.take_of_length_le (by omega)]
    rfl
noncomputable def r11_List_con : Con TB.den := r11_List_sh.fnR (fun x => (fun (p0 : List Int) => Us p0 ∧ p0.length ≤ 4294967295) x.1) fun x => ((fun (p0 : List Int) => (encL p0 : List Int)) x.1, ())
theorem r11_List_ok : r11_List_con.Ok Try.prog TB := Con.ok_fn r11_List_sh bd34 fun x h => r11_List_snd (r11_List_body x.1 h)
end Go.Proofs.Ytnmakgfmimagmaa
