/-
  Parts of the proofs that the laws of this seat hold of every input, merged by a program: a machine over pure data that is sound for the model, what each function of the translation does in it, and plain lemmas. No conditions but those in each theorem.
-/
import Derived.Test.YtdbnagpoknmoiaaA5
set_option linter.all false
namespace Go.Proofs.Ytdbnagpoknmoiaa
open Go Go.Bv Go.Cv Go.Md Go.RowKit
def tx_Decode_sh : Con TB.den := Con.mk0 24 [.one (.d (.sl (.int .u8)))] [] (.tup [.agg [.d (.int .u64), .d (.sl (.int .u64)), .d (.sl (.st 0)), .d (.int .u64), .d (.int .u64), .d (.int .u64), .d (.int .u64), .d (.int .u64), .d (.int .i64), .d (.sl (.int .u8))], .one (.d (.int .i64))]) []
abbrev tx_Decode_I := HL TB.den (hsT tx_Decode_sh.ins (hsOs tx_Decode_sh.pre))
abbrev tx_Decode_O := HL TB.den (hsV tx_Decode_sh.res (hsOs tx_Decode_sh.post))
noncomputable def tx_Decode_cx : Cx TB := ⟨inf, [wire_NewReader_con, Reader_Uint_con, Reader_List_con, Reader_Int_con, Reader_Bytes_con, Reader_Done_con, tx_Valid_con], [], 4⟩
noncomputable def tx_Decode_code : Code := Try.f24.body.getD .skip
noncomputable def tx_Decode_rs : List ResultVar := Try.f24.results.toList
noncomputable def tx_Decode_Q1 (o : tx_Decode_O) : Exit → TSt TB.den → Prop := thenT TB (fun s => ghs TB [] s fun s => WP TB tx_Decode_cx 71 0 (cB (cB (cB (cB (cB (cB (cB (cB (cB (cB (cB (cB (cB (cB tx_Decode_code)))))))))))))) .no s (retTQ TB tx_Decode_cx tx_Decode_sh tx_Decode_rs o)) (retTQ TB tx_Decode_cx tx_Decode_sh tx_Decode_rs o)
def tx_Decode_TJ1 : Tm := ⟨[0, 2, 3], [.cells [.d (.int .u64), .full (.int .u64), .full (.st 0), .d (.int .u64), .d (.int .u64), .d (.int .u64), .d (.int .u64), .d (.int .u64), .d (.int .i64), .full (.int .u8)], .cells [.d (.int .u64), .d (.sl (.int .u64)), .own 2, .d (.int .u64), .d (.int .u64), .d (.int .u64), .d (.int .u64), .d (.int .u64), .d (.int .i64), .d (.sl (.int .u8))], .tip (.st 0)], [2, 5, 68], [.one (.ptr 0 0), .one (.ptr 1 0), .one (.d (.bool))], 4⟩
noncomputable def tx_Decode_J1d (o : tx_Decode_O) (i : HL TB.den tx_Decode_TJ1.hs) : Prop := ghs TB [] (tx_Decode_TJ1.fill TB i) fun s => WP TB tx_Decode_cx 71 0 (cB (cA (cB (cB (cB (cB (cB (cB (cB (cB (cB (cB (cB (cB (cB tx_Decode_code))))))))))))))) .no s (tx_Decode_Q1 o)
structure tx_Decode_J1 (o : tx_Decode_O) (i : HL TB.den tx_Decode_TJ1.hs) : Prop where
  h : tx_Decode_J1d o i
noncomputable def tx_Decode_A3 (o : tx_Decode_O) : An TB := .nd [] (.jn tx_Decode_TJ1 (tx_Decode_J1 o) [] .no [] .no) [] .no
noncomputable def tx_Decode_A4 (o : tx_Decode_O) : An TB := .nd [] .no [] (.nd [] .no [] (.nd [] .no [] (tx_Decode_A3 o)))
noncomputable def tx_Decode_A5 (o : tx_Decode_O) : An TB := .nd [] .no [] (.nd [] .no [] (.nd [] .no [] (tx_Decode_A4 o)))
noncomputable def tx_Decode_Q6 (o : tx_Decode_O) : Exit → TSt TB.den → Prop := thenT TB (fun s => ghs TB [] s fun s => WP TB tx_Decode_cx 71 0 (cB (cB (cB (cB (cB (cB tx_Decode_code)))))) (.nd [] .no [] (tx_Decode_A5 o)) s (retTQ TB tx_Decode_cx tx_Decode_sh tx_Decode_rs o)) (retTQ TB tx_Decode_cx tx_Decode_sh tx_Decode_rs o)
def tx_Decode_T1 : Tm := ⟨[0, 1, 2, 3], [.cells [.d (.int .u64), .full (.int .u64), .full (.st 0), .d (.int .u64), .d (.int .u64), .d (.int .u64), .d (.int .u64), .d (.int .u64), .d (.int .i64), .full (.int .u8)], .cells [.d (.sl (.int .u8)), .d (.int .i64), .d (.bool)], .cells [.d (.int .u64), .d (.sl (.int .u64)), .own 3, .d (.int .u64), .d (.int .u64), .d (.int .u64), .d (.int .u64), .d (.int .u64), .d (.int .i64), .full (.int .u8)], .tip (.st 0)], [2, 4, 5, 16, 17], [.one (.ptr 0 0), .one (.ptr 1 0), .one (.ptr 2 0), .one (.d (.int .i64)), .one (.d (.int .i64))], 4⟩
noncomputable def tx_Decode_Q7 (o : tx_Decode_O) (nx1 : HL TB.den tx_Decode_T1.hs → Prop) : Exit → TSt TB.den → Prop := thenT TB (fun s => tx_Decode_T1.mat TB 0 s nx1) (blockT TB 0 (tx_Decode_Q6 o))
noncomputable def tx_Decode_L1 (o : tx_Decode_O) (nx1 : HL TB.den tx_Decode_T1.hs → Prop) (i : HL TB.den tx_Decode_T1.hs) : Prop := WP TB tx_Decode_cx 71 0 (cA (cA (cB (cA (cB (cB (cB (cB (cB tx_Decode_code))))))))) .no (tx_Decode_T1.fill TB i) (tx_Decode_Q7 o nx1)
noncomputable def tx_Decode_A10 (o : tx_Decode_O) : An TB := .lp [.tokc 2 2 (.st 0)] tx_Decode_T1 (tx_Decode_L1 o) fun nx1 => .no
noncomputable def tx_Decode_A11 (o : tx_Decode_O) : An TB := .nd [] (.nd [] .no [] (tx_Decode_A10 o)) [] (.nd [] .no [] (tx_Decode_A5 o))
noncomputable def tx_Decode_A12 (o : tx_Decode_O) : An TB := .nd [] .no [] (.nd [] .no [] (.nd [] .no [] (tx_Decode_A11 o)))
noncomputable def tx_Decode_an (o : tx_Decode_O) : An TB := .nd [] .no [] (.nd [] .no [] (tx_Decode_A12 o))
noncomputable def tx_Decode_Body (x : tx_Decode_I) (o : tx_Decode_O) : Prop := WPh TB tx_Decode_cx 71 0 tx_Decode_code (tx_Decode_an o) (tx_Decode_sh.st TB x) (retTQ TB tx_Decode_cx tx_Decode_sh tx_Decode_rs o)
set_option maxRecDepth 100000 in
theorem tx_Decode_obl (o : tx_Decode_O) : OblH TB tx_Decode_cx 71 0 tx_Decode_code (tx_Decode_an o) (retTQ TB tx_Decode_cx tx_Decode_sh tx_Decode_rs o) :=
  OblH.of_eq (X := (True ∧ (True ∧ (True ∧ (True ∧ (True ∧ ((True ∧ ((∀ nx i, (tx_Decode_L1 o) nx i = (tx_Decode_L1 o) nx i) ∧ ∀ nx1 : HL TB.den tx_Decode_T1.hs → Prop, (True ∧ ((True ∧ True) ∧ ((True ∧ (True ∧ (True ∧ (True ∧ (True ∧ True))))) ∧ True))))) ∧ (True ∧ (True ∧ (True ∧ (True ∧ (True ∧ (True ∧ (True ∧ ((True ∧ (∀ i, (tx_Decode_J1 o) i = (tx_Decode_J1d o) i) ∧ ((True ∧ True) ∧ True)) ∧ (True ∧ True)))))))))))))))) (by kernel_rfl) ⟨trivial, ⟨trivial, ⟨trivial, ⟨trivial, ⟨trivial, ⟨⟨trivial, ⟨fun _ _ => rfl, fun _ => ⟨trivial, ⟨⟨trivial, trivial⟩, ⟨⟨trivial, ⟨trivial, ⟨trivial, ⟨trivial, ⟨trivial, trivial⟩⟩⟩⟩⟩, trivial⟩⟩⟩⟩⟩, ⟨trivial, ⟨trivial, ⟨trivial, ⟨trivial, ⟨trivial, ⟨trivial, ⟨trivial, ⟨⟨trivial, fun _ => propext ⟨fun h => h.1, fun h => ⟨h⟩⟩, ⟨⟨trivial, trivial⟩, trivial⟩⟩, ⟨trivial, trivial⟩⟩⟩⟩⟩⟩⟩⟩⟩⟩⟩⟩⟩⟩⟩
set_option maxRecDepth 100000 in
theorem tx_Decode_snd {x : tx_Decode_I} {o : tx_Decode_O} (h : tx_Decode_Body x o) : SoundH Try.prog tx_Decode_sh.f ((tx_Decode_sh.args idf x).map (er TB)) ((tx_Decode_sh.obs idf x).map (erO TB)) (er TB (tx_Decode_sh.val idf o)) ((tx_Decode_sh.ops idf o).map (erO TB)) :=
  Con.soundH (c := tx_Decode_sh) (C := tx_Decode_cx) TBok ⟨inf_ok, (all_cons wire_NewReader_ok (all_cons Reader_Uint_ok (all_cons Reader_List_ok (all_cons Reader_Int_ok (all_cons Reader_Bytes_ok (all_cons Reader_Done_ok (all_cons tx_Valid_ok all_nil))))))), all_nil⟩ mix Try.func24 (show Try.f24.body = some tx_Decode_code by kernel_rfl) (show Try.f24.ntmps = 71 by kernel_rfl) (show Try.f24.results.toList = tx_Decode_rs by kernel_rfl) rfl h (tx_Decode_obl o)
set_option maxRecDepth 100000 in
theorem tx_Decode_in {p0 : List Int} {r0 : TTx} {r1 : Int} (h :
((p0.length ≤ 137438953472) ∧ (RdOk p0 (0 : Int)) ∧ ∀ (r4 : Int) (r5 : Int) (r6 : Bool), (r4 = (rdU p0 (0 : Int) false (18446744069414584320 : Int)).n ∧ r5 = (rdU p0 (0 : Int) false (18446744069414584320 : Int)).pos ∧ r6 = (rdU p0 (0 : Int) false (18446744069414584320 : Int)).fail) → (RdOk p0 r5 ∧ (0 ≤ (4 : Int) ∧ (4 : Int) ≤ 4096)) ∧ ∀ (r10 : List Int) (r11 : Int) (r12 : Bool), (r10 = (rdL p0 r5 r6 (4 : Int) (18446744069414584321 : Int)).l ∧ r11 = (rdL p0 r5 r6 (4 : Int) (18446744069414584321 : Int)).pos ∧ r12 = (rdL p0 r5 r6 (4 : Int) (18446744069414584321 : Int)).fail) → (RdOk p0 r11) ∧ ∀ (r70 : Int) (r71 : Int) (r72 : Bool), (r70 = (rdI p0 r11 r12 (4 : Int)).n ∧ r71 = (rdI p0 r11 r12 (4 : Int)).pos ∧ r72 = (rdI p0 r11 r12 (4 : Int)).fail) → (([] : List TOut) = ([] : List TOut)) ∧ Md.Loop (r70, (0 : Int), (0 : Int), (([] : List Int) : List Int), (([] : List TOut) : List TOut), (0 : Int), (0 : Int), (0 : Int), (0 : Int), (0 : Int), (0 : Int), (([] : List Int) : List Int), p0, r71, r72, r4, r10, (0 : Int), (0 : Int), (0 : Int), (0 : Int), (0 : Int), (0 : Int), (([] : List Int) : List Int), (([] : List TOut) : List TOut), ()) (tx_Decode_L1 (r0.Anchor, r0.Marks, r0.Outs, r0.Deposit, r0.Withdraw, r0.Fee, r0.Account, r0.Nonce, r0.Expiry, r0.Proof, r1, ())))) : tx_Decode_Body (p0, ()) (r0.Anchor, r0.Marks, r0.Outs, r0.Deposit, r0.Withdraw, r0.Fee, r0.Account, r0.Nonce, r0.Expiry, r0.Proof, r1, ()) := WPh.of_eq (by kernel_rfl) h
set_option maxRecDepth 100000 in
theorem tx_Decode_J1_in {r0 : TTx} {r1 : Int} {s68 : Bool} {h0_0 : Int} {h0_1 : List Int} {h0_2 : List TOut} {h0_3 : Int} {h0_4 : Int} {h0_5 : Int} {h0_6 : Int} {h0_7 : Int} {h0_8 : Int} {h0_9 : List Int} {h2_0 : Int} {h2_1 : List Int} {h2_3 : Int} {h2_4 : Int} {h2_5 : Int} {h2_6 : Int} {h2_7 : Int} {h2_8 : Int} {h2_9 : List Int} {g3 : List TOut} (h :
((s68 = true →
 0 = r0.Anchor ∧ ([] : List Int) = r0.Marks ∧ ([] : List TOut) = r0.Outs ∧ 0 = r0.Deposit ∧ 0 = r0.Withdraw ∧ 0 = r0.Fee ∧ 0 = r0.Account ∧ 0 = r0.Nonce ∧ 0 = r0.Expiry ∧ ([] : List Int) = r0.Proof ∧ 2 = r1) ∧
(s68 = false →
 h2_0 = r0.Anchor ∧ h2_1 = r0.Marks ∧ g3 = r0.Outs ∧ h2_3 = r0.Deposit ∧ h2_4 = r0.Withdraw ∧ h2_5 = r0.Fee ∧ h2_6 = r0.Account ∧ h2_7 = r0.Nonce ∧ h2_8 = r0.Expiry ∧ h2_9 = r0.Proof ∧ 0 = r1))) : tx_Decode_J1 (r0.Anchor, r0.Marks, r0.Outs, r0.Deposit, r0.Withdraw, r0.Fee, r0.Account, r0.Nonce, r0.Expiry, r0.Proof, r1, ()) (s68, h0_0, h0_1, h0_2, h0_3, h0_4, h0_5, h0_6, h0_7, h0_8, h0_9, h2_0, h2_1, h2_3, h2_4, h2_5, h2_6, h2_7, h2_8, h2_9, g3, ()) := ⟨mpr_of (by kernel_rfl) h⟩
def tx_Decode_B1 (r0 : TTx) (r1 : Int) (k1 : Int → Int → Bool → List TOut → Prop) (s16 : Int) (h0_0 : Int) (h0_1 : List Int) (h0_2 : List TOut) (h0_3 : Int) (h0_4 : Int) (h0_5 : Int) (h0_6 : Int) (h0_7 : Int) (h0_8 : Int) (h0_9 : List Int) (h1_0 : List Int) (h2_0 : Int) (h2_1 : List Int) (h2_3 : Int) (h2_4 : Int) (h2_5 : Int) (h2_6 : Int) (h2_7 : Int) (h2_8 : Int) (h2_9 : List Int) (s17 : Int) (h1_1 : Int) (h1_2 : Bool) (g3 : List TOut) : Prop :=
(decide (s17 < s16) = true →
(RdOk h1_0 h1_1) ∧ ∀ (r100 : Int) (r101 : Int) (r102 : Bool), (r100 = (rdU h1_0 h1_1 h1_2 (18446744069414584320 : Int)).n ∧ r101 = (rdU h1_0 h1_1 h1_2 (18446744069414584320 : Int)).pos ∧ r102 = (rdU h1_0 h1_1 h1_2 (18446744069414584320 : Int)).fail) → (RdOk h1_0 r101) ∧ ∀ (r106 : Int) (r107 : Int) (r108 : Bool), (r106 = (rdU h1_0 r101 r102 (18446744069414584320 : Int)).n ∧ r107 = (rdU h1_0 r101 r102 (18446744069414584320 : Int)).pos ∧ r108 = (rdU h1_0 r101 r102 (18446744069414584320 : Int)).fail) → (RdOk h1_0 r107) ∧ ∀ (r112 : Int) (r113 : Int) (r114 : Bool), (r112 = (rdU h1_0 r107 r108 (18446744069414584320 : Int)).n ∧ r113 = (rdU h1_0 r107 r108 (18446744069414584320 : Int)).pos ∧ r114 = (rdU h1_0 r107 r108 (18446744069414584320 : Int)).fail) → (RdOk h1_0 r113 ∧ (0 ≤ (3 : Int) ∧ (3 : Int) ≤ 4096)) ∧ ∀ (r118 : List Int) (r119 : Int) (r120 : Bool), (r118 = (rdL h1_0 r113 r114 (3 : Int) (18446744069414584321 : Int)).l ∧ r119 = (rdL h1_0 r113 r114 (3 : Int) (18446744069414584321 : Int)).pos ∧ r120 = (rdL h1_0 r113 r114 (3 : Int) (18446744069414584321 : Int)).fail) → g3.length = g3.length ∧ (g3.length + [TOut.mk r100 r106 r112 r118].length) * 48 ≤ 140737488355328 ∧ g3.length + [TOut.mk r100 r106 r112 r118].length ≤ maxLen ∧ (g3 ++ [TOut.mk r100 r106 r112 r118] = g3 ++ [TOut.mk r100 r106 r112 r118]) ∧ k1 (IntKind.i64.wrap (s17 + 1) : Int) r119 r120 (g3 ++ [TOut.mk r100 r106 r112 r118] : List TOut)) ∧
(decide (s17 < s16) = false →
(RdOk h1_0 h1_1) ∧ ∀ (r124 : Int) (r125 : Int) (r126 : Bool), (r124 = (rdU h1_0 h1_1 h1_2 (4294967295 : Int)).n ∧ r125 = (rdU h1_0 h1_1 h1_2 (4294967295 : Int)).pos ∧ r126 = (rdU h1_0 h1_1 h1_2 (4294967295 : Int)).fail) → (RdOk h1_0 r125) ∧ ∀ (r130 : Int) (r131 : Int) (r132 : Bool), (r130 = (rdU h1_0 r125 r126 (4294967295 : Int)).n ∧ r131 = (rdU h1_0 r125 r126 (4294967295 : Int)).pos ∧ r132 = (rdU h1_0 r125 r126 (4294967295 : Int)).fail) → (RdOk h1_0 r131) ∧ ∀ (r136 : Int) (r137 : Int) (r138 : Bool), (r136 = (rdU h1_0 r131 r132 (4294967295 : Int)).n ∧ r137 = (rdU h1_0 r131 r132 (4294967295 : Int)).pos ∧ r138 = (rdU h1_0 r131 r132 (4294967295 : Int)).fail) → (RdOk h1_0 r137) ∧ ∀ (r142 : Int) (r143 : Int) (r144 : Bool), (r142 = (rdU h1_0 r137 r138 (18446744069414584320 : Int)).n ∧ r143 = (rdU h1_0 r137 r138 (18446744069414584320 : Int)).pos ∧ r144 = (rdU h1_0 r137 r138 (18446744069414584320 : Int)).fail) → (RdOk h1_0 r143) ∧ ∀ (r148 : Int) (r149 : Int) (r150 : Bool), (r148 = (rdU h1_0 r143 r144 (18446744069414584320 : Int)).n ∧ r149 = (rdU h1_0 r143 r144 (18446744069414584320 : Int)).pos ∧ r150 = (rdU h1_0 r143 r144 (18446744069414584320 : Int)).fail) → (RdOk h1_0 r149) ∧ ∀ (r154 : Int) (r155 : Int) (r156 : Bool), (r154 = (rdI h1_0 r149 r150 (1048576 : Int)).n ∧ r155 = (rdI h1_0 r149 r150 (1048576 : Int)).pos ∧ r156 = (rdI h1_0 r149 r150 (1048576 : Int)).fail) → (RdOk h1_0 r155 ∧ (0 ≤ (1048576 : Int) ∧ (1048576 : Int) ≤ 4294967296)) ∧ ∀ (r160 : List Int) (r161 : Int) (r162 : Bool), (r160 = (rdB h1_0 r155 r156 (1048576 : Int)).l ∧ r161 = (rdB h1_0 r155 r156 (1048576 : Int)).pos ∧ r162 = (rdB h1_0 r155 r156 (1048576 : Int)).fail) → let v163 : Bool := (!(!r162 && r161 == (h1_0.length : Int)))
(v163 = true →
(g3 = g3) ∧ tx_Decode_J1 (r0.Anchor, r0.Marks, r0.Outs, r0.Deposit, r0.Withdraw, r0.Fee, r0.Account, r0.Nonce, r0.Expiry, r0.Proof, r1, ()) (true, h0_0, h0_1, h0_2, h0_3, h0_4, h0_5, h0_6, h0_7, h0_8, h0_9, h2_0, h2_1, r124, r130, r136, r142, r148, r154, r160, g3, ())) ∧
(v163 = false →
 let r164 : Int := validE (TTx.mk h2_0 h2_1 g3 r124 r130 r136 r142 r148 r154 r160)
(g3 = g3) ∧ tx_Decode_J1 (r0.Anchor, r0.Marks, r0.Outs, r0.Deposit, r0.Withdraw, r0.Fee, r0.Account, r0.Nonce, r0.Expiry, r0.Proof, r1, ()) (((r164 != 0) : Bool), h0_0, h0_1, h0_2, h0_3, h0_4, h0_5, h0_6, h0_7, h0_8, h0_9, h2_0, h2_1, r124, r130, r136, r142, r148, r154, r160, g3, ())))
set_option maxRecDepth 100000 in
theorem tx_Decode_lp1 {r0 : TTx} {r1 : Int} {s16 : Int} {h0_0 : Int} {h0_1 : List Int} {h0_2 : List TOut} {h0_3 : Int} {h0_4 : Int} {h0_5 : Int} {h0_6 : Int} {h0_7 : Int} {h0_8 : Int} {h0_9 : List Int} {h1_0 : List Int} {h2_0 : Int} {h2_1 : List Int} {h2_3 : Int} {h2_4 : Int} {h2_5 : Int} {h2_6 : Int} {h2_7 : Int} {h2_8 : Int} {h2_9 : List Int} {s17 : Int} {h1_1 : Int} {h1_2 : Bool} {g3 : List TOut} (inv : Int → Int → Bool → List TOut → Prop) (μ : Int → Int → Bool → List TOut → Nat) (h0 : inv s17 h1_1 h1_2 g3) (hs : ∀ (s17 : Int) (h1_1 : Int) (h1_2 : Bool) (g3 : List TOut), inv s17 h1_1 h1_2 g3 → tx_Decode_B1 r0 r1 (fun s17q h1_1q h1_2q g3q => inv s17q h1_1q h1_2q g3q ∧ μ s17q h1_1q h1_2q g3q < μ s17 h1_1 h1_2 g3) s16 h0_0 h0_1 h0_2 h0_3 h0_4 h0_5 h0_6 h0_7 h0_8 h0_9 h1_0 h2_0 h2_1 h2_3 h2_4 h2_5 h2_6 h2_7 h2_8 h2_9 s17 h1_1 h1_2 g3) : Md.Loop (s16, s17, h0_0, h0_1, h0_2, h0_3, h0_4, h0_5, h0_6, h0_7, h0_8, h0_9, h1_0, h1_1, h1_2, h2_0, h2_1, h2_3, h2_4, h2_5, h2_6, h2_7, h2_8, h2_9, g3, ()) (tx_Decode_L1 (r0.Anchor, r0.Marks, r0.Outs, r0.Deposit, r0.Withdraw, r0.Fee, r0.Account, r0.Nonce, r0.Expiry, r0.Proof, r1, ())) :=
  ⟨⟨fun s : Int × Int × Int × (List Int) × (List TOut) × Int × Int × Int × Int × Int × Int × (List Int) × (List Int) × Int × Bool × Int × (List Int) × Int × Int × Int × Int × Int × Int × (List Int) × (List TOut) × Unit => (s.1 = s16 ∧ s.2.2.1 = h0_0 ∧ s.2.2.2.1 = h0_1 ∧ s.2.2.2.2.1 = h0_2 ∧ s.2.2.2.2.2.1 = h0_3 ∧ s.2.2.2.2.2.2.1 = h0_4 ∧ s.2.2.2.2.2.2.2.1 = h0_5 ∧ s.2.2.2.2.2.2.2.2.1 = h0_6 ∧ s.2.2.2.2.2.2.2.2.2.1 = h0_7 ∧ s.2.2.2.2.2.2.2.2.2.2.1 = h0_8 ∧ s.2.2.2.2.2.2.2.2.2.2.2.1 = h0_9 ∧ s.2.2.2.2.2.2.2.2.2.2.2.2.1 = h1_0 ∧ s.2.2.2.2.2.2.2.2.2.2.2.2.2.2.2.1 = h2_0 ∧ s.2.2.2.2.2.2.2.2.2.2.2.2.2.2.2.2.1 = h2_1 ∧ s.2.2.2.2.2.2.2.2.2.2.2.2.2.2.2.2.2.1 = h2_3 ∧ s.2.2.2.2.2.2.2.2.2.2.2.2.2.2.2.2.2.2.1 = h2_4 ∧ s.2.2.2.2.2.2.2.2.2.2.2.2.2.2.2.2.2.2.2.1 = h2_5 ∧ s.2.2.2.2.2.2.2.2.2.2.2.2.2.2.2.2.2.2.2.2.1 = h2_6 ∧ s.2.2.2.2.2.2.2.2.2.2.2.2.2.2.2.2.2.2.2.2.2.1 = h2_7 ∧ s.2.2.2.2.2.2.2.2.2.2.2.2.2.2.2.2.2.2.2.2.2.2.1 = h2_8 ∧ s.2.2.2.2.2.2.2.2.2.2.2.2.2.2.2.2.2.2.2.2.2.2.2.1 = h2_9) ∧ inv s.2.1 s.2.2.2.2.2.2.2.2.2.2.2.2.2.1 s.2.2.2.2.2.2.2.2.2.2.2.2.2.2.1 s.2.2.2.2.2.2.2.2.2.2.2.2.2.2.2.2.2.2.2.2.2.2.2.2.1, fun s : Int × Int × Int × (List Int) × (List TOut) × Int × Int × Int × Int × Int × Int × (List Int) × (List Int) × Int × Bool × Int × (List Int) × Int × Int × Int × Int × Int × Int × (List Int) × (List TOut) × Unit => μ s.2.1 s.2.2.2.2.2.2.2.2.2.2.2.2.2.1 s.2.2.2.2.2.2.2.2.2.2.2.2.2.2.1 s.2.2.2.2.2.2.2.2.2.2.2.2.2.2.2.2.2.2.2.2.2.2.2.2.1, ⟨⟨rfl, rfl, rfl, rfl, rfl, rfl, rfl, rfl, rfl, rfl, rfl, rfl, rfl, rfl, rfl, rfl, rfl, rfl, rfl, rfl, rfl⟩, h0⟩, fun (s16p, s17p, h0_0p, h0_1p, h0_2p, h0_3p, h0_4p, h0_5p, h0_6p, h0_7p, h0_8p, h0_9p, h1_0p, h1_1p, h1_2p, h2_0p, h2_1p, h2_3p, h2_4p, h2_5p, h2_6p, h2_7p, h2_8p, h2_9p, g3p, ()) ⟨⟨eq0, eq1, eq2, eq3, eq4, eq5, eq6, eq7, eq8, eq9, eq10, eq11, eq12, eq13, eq14, eq15, eq16, eq17, eq18, eq19, eq20⟩, hi⟩ => by
    have eq0 : s16p = s16 := eq0; subst s16p; have eq1 : h0_0p = h0_0 := eq1; subst h0_0p; have eq2 : h0_1p = h0_1 := eq2; subst h0_1p; have eq3 : h0_2p = h0_2 := eq3; subst h0_2p; have eq4 : h0_3p = h0_3 := eq4; subst h0_3p; have eq5 : h0_4p = h0_4 := eq5; subst h0_4p; have eq6 : h0_5p = h0_5 := eq6; subst h0_5p; have eq7 : h0_6p = h0_6 := eq7; subst h0_6p; have eq8 : h0_7p = h0_7 := eq8; subst h0_7p; have eq9 : h0_8p = h0_8 := eq9; subst h0_8p; have eq10 : h0_9p = h0_9 := eq10; subst h0_9p; have eq11 : h1_0p = h1_0 := eq11; subst h1_0p; have eq12 : h2_0p = h2_0 := eq12; subst h2_0p; have eq13 : h2_1p = h2_1 := eq13; subst h2_1p; have eq14 : h2_3p = h2_3 := eq14; subst h2_3p; have eq15 : h2_4p = h2_4 := eq15; subst h2_4p; have eq16 : h2_5p = h2_5 := eq16; subst h2_5p; have eq17 : h2_6p = h2_6 := eq17; subst h2_6p; have eq18 : h2_7p = h2_7 := eq18; subst h2_7p; have eq19 : h2_8p = h2_8 := eq19; subst h2_8p; have eq20 : h2_9p = h2_9 := eq20; subst h2_9p; exact mpr_of (by kernel_rfl) ((congrArg (fun k => tx_Decode_B1 r0 r1 k s16 h0_0 h0_1 h0_2 h0_3 h0_4 h0_5 h0_6 h0_7 h0_8 h0_9 h1_0 h2_0 h2_1 h2_3 h2_4 h2_5 h2_6 h2_7 h2_8 h2_9 s17p h1_1p h1_2p g3p) (lpk4 (⟨rfl, rfl, rfl, rfl, rfl, rfl, rfl, rfl, rfl, rfl, rfl, rfl, rfl, rfl, rfl, rfl, rfl, rfl, rfl, rfl, rfl⟩ : s16 = s16 ∧ h0_0 = h0_0 ∧ h0_1 = h0_1 ∧ h0_2 = h0_2 ∧ h0_3 = h0_3 ∧ h0_4 = h0_4 ∧ h0_5 = h0_5 ∧ h0_6 = h0_6 ∧ h0_7 = h0_7 ∧ h0_8 = h0_8 ∧ h0_9 = h0_9 ∧ h1_0 = h1_0 ∧ h2_0 = h2_0 ∧ h2_1 = h2_1 ∧ h2_3 = h2_3 ∧ h2_4 = h2_4 ∧ h2_5 = h2_5 ∧ h2_6 = h2_6 ∧ h2_7 = h2_7 ∧ h2_8 = h2_8 ∧ h2_9 = h2_9) inv (fun s17q h1_1q h1_2q g3q => μ s17q h1_1q h1_2q g3q < μ s17p h1_1p h1_2p g3p))).mpr (hs s17p h1_1p h1_2p g3p hi))⟩⟩
theorem bd24 : Callable Try.prog 24 := ⟨by rw [Try.func24]; kernel_rfl, by rw [Try.func24]; show some _ ≠ some _; decide⟩
theorem tx_Decode_body (p0 : List Int) (h : By p0 ∧ p0.length ≤ 137438953472) : tx_Decode_Body (p0, ()) ((((decS p0).1).Anchor : Int), (((decS p0).1).Marks : List Int), (((decS p0).1).Outs : List TOut), (((decS p0).1).Deposit : Int), (((decS p0).1).Withdraw : Int), (((decS p0).1).Fee : Int), (((decS p0).1).Account : Int), (((decS p0).1).Nonce : Int), (((decS p0).1).Expiry : Int), (((decS p0).1).Proof : List Int), ((decS p0).2 : Int), ()) := by
  obtain ⟨hb, hl⟩ := h
  have h0 : RdOk p0 0 := ⟨hb, hl, by omega, by omega⟩
  refine tx_Decode_in ⟨hl, h0, ?_⟩
  rintro _ _ _ ⟨rfl, rfl, rfl⟩
  have hA := rdU_ok (m := 18446744069414584320) (f := false) h0
  have sA := rdU_snd (m := 18446744069414584320) (f := false) h0
  have cA := fun n r => rdU_cpl (m := 18446744069414584320) (f := false) (n := n) (r := r) h0 rfl
  have nA := rdU_n (m := 18446744069414584320) (f := false) h0
  refine ⟨⟨hA, by omega⟩, ?_⟩
  rintro _ _ _ ⟨rfl, rfl, rfl⟩
  generalize rdU p0 0 false 18446744069414584320 = A at *
  have hM := rdL_ok (m := 4) (p := 18446744069414584321) (f := A.fail) hA (by omega)
  have sM := rdL_snd (m := 4) (p := 18446744069414584321) (f := A.fail) hA (by omega)
  have cM := fun n r => rdL_cpl (m := 4) (p := 18446744069414584321) (f := A.fail) (l := n) (r := r) hA (by omega)
  refine ⟨hM, ?_⟩
  rintro _ _ _ ⟨rfl, rfl, rfl⟩
  generalize rdL p0 A.pos A.fail 4 18446744069414584321 = M at *
  have hC := rdI_ok (m := 4) (f := M.fail) hM
  have sC := rdI_snd (m := 4) (f := M.fail) hM
  have cC := fun n r => rdI_cpl (m := 4) (f := M.fail) (n := n) (r := r) hM
  have nC := rdI_n (m := 4) (f := M.fail) hM (by omega)
  generalize rdI p0 M.pos M.fail 4 = C at *
  refine ⟨rfl, ?_⟩
  refine tx_Decode_lp1 (r0 := (decS p0).1) (fun i pos f g => 0 ≤ i ∧ i ≤ C.n ∧ RdOk p0 pos ∧ (g.length : Int) = i ∧
    (f = false → p0 = dig 8 A.n ++ (encL M.l ++ (dig 4 C.n ++ (g.flatMap encO ++ p0.drop pos.toNat))) ∧ Us M.l ∧ ∀ x ∈ g, OR x) ∧
    (∀ t, Enc t p0 → f = false ∧ A.n = t.Anchor ∧ M.l = t.Marks ∧ C.n = t.Outs.length ∧ g = t.Outs.take i.toNat ∧ p0.drop pos.toNat = (t.Outs.drop i.toNat).flatMap encO ++ encTail t)) (fun i _ _ _ => (C.n - i).toNat) ⟨by omega, nC.1, hC, rfl, ?_, ?_⟩ ?_
  · intro hf
    obtain ⟨k1, k2, k3⟩ := sC hf
    obtain ⟨j1, j2, j3, j4, j5⟩ := sM k1
    obtain ⟨i1, i2, i3⟩ := sA j1
    refine ⟨?_, j5, by intro x hx; cases hx⟩
    show p0 = dig 8 A.n ++ (encL M.l ++ (dig 4 C.n ++ ([] ++ p0.drop C.pos.toNat)))
    rw [List.nil_append, ← k2, ← j2]
    exact i2
  · intro t ht
    have hu := ht.us
    have he := ht.e
    rw [encT_split] at he
    obtain ⟨i1, i2, i3⟩ := cA t.Anchor _ he.symm ht.r.a hu.1
    obtain ⟨j1, j2, j3⟩ := cM t.Marks _ i1 i3 (by have := ht.v.ml; omega) ht.v.m ht.r.m
    have hol := ht.v.ol
    obtain ⟨k1, k2, k3⟩ := cC (len4 t.Outs.length) _ j1 j3 (len4_bd _).1 (len4_bd _).2 (by rw [len4_in (by omega)]; omega)
    rw [len4_in (by omega)] at k2
    exact ⟨k1, i2, j2, k2, by simp, by simpa using k3⟩
  rintro i pos f g ⟨g0, g1, hp, g2, gs, gc⟩
  refine ⟨fun hh => ?_, fun hh => ?_⟩
  · have hh := of_decide_eq_true hh
    refine ⟨hp, ?_⟩
    rintro _ _ _ ⟨rfl, rfl, rfl⟩
    have h1 := rdU_ok (m := 18446744069414584320) (f := f) hp
    have s1 := rdU_snd (m := 18446744069414584320) (f := f) hp
    have c1 := fun n r => rdU_cpl (m := 18446744069414584320) (f := f) (n := n) (r := r) hp
    have n1 := rdU_n (m := 18446744069414584320) (f := f) hp
    refine ⟨h1, ?_⟩
    rintro _ _ _ ⟨rfl, rfl, rfl⟩
    generalize rdU p0 pos f 18446744069414584320 = X1 at *
    have h2 := rdU_ok (m := 18446744069414584320) (f := X1.fail) h1
    have s2 := rdU_snd (m := 18446744069414584320) (f := X1.fail) h1
    have c2 := fun n r => rdU_cpl (m := 18446744069414584320) (f := X1.fail) (n := n) (r := r) h1
    have n2 := rdU_n (m := 18446744069414584320) (f := X1.fail) h1
    refine ⟨h2, ?_⟩
    rintro _ _ _ ⟨rfl, rfl, rfl⟩
    generalize rdU p0 X1.pos X1.fail 18446744069414584320 = X2 at *
    have h3 := rdU_ok (m := 18446744069414584320) (f := X2.fail) h2
    have s3 := rdU_snd (m := 18446744069414584320) (f := X2.fail) h2
    have c3 := fun n r => rdU_cpl (m := 18446744069414584320) (f := X2.fail) (n := n) (r := r) h2
    have n3 := rdU_n (m := 18446744069414584320) (f := X2.fail) h2
    refine ⟨⟨h3, by omega⟩, ?_⟩
    rintro _ _ _ ⟨rfl, rfl, rfl⟩
    generalize rdU p0 X2.pos X2.fail 18446744069414584320 = X3 at *
    have h4 := rdL_ok (m := 3) (p := 18446744069414584321) (f := X3.fail) h3 (by omega)
    have s4 := rdL_snd (m := 3) (p := 18446744069414584321) (f := X3.fail) h3 (by omega)
    have c4 := fun n r => rdL_cpl (m := 3) (p := 18446744069414584321) (f := X3.fail) (l := n) (r := r) h3 (by omega)
    generalize rdL p0 X3.pos X3.fail 3 18446744069414584321 = X4 at *
    rw [inc i C.n g0 hh (by omega)]
    refine ⟨rfl, by simp; omega, by simp; unfold maxLen; omega, rfl, ⟨by omega, by omega, h4, by simp; omega, ?_, ?_⟩, by omega⟩
    · intro hf
      obtain ⟨q1, q2, q3, q4, q5⟩ := s4 hf
      obtain ⟨p1, p2, p3⟩ := s3 q1
      obtain ⟨o1, o2, o3⟩ := s2 p1
      obtain ⟨m1, m2, m3⟩ := s1 o1
      obtain ⟨w1, w2, w3⟩ := gs m1
      refine ⟨?_, w2, ?_⟩
      · rw [List.flatMap_append]
        simp only [List.flatMap_cons, List.flatMap_nil, List.append_nil, List.append_assoc]
        rw [encO_split, ← q2, ← p2, ← o2, ← m2]
        exact w1
      · intro x hx
        rcases List.mem_append.1 hx with hx | hx
        · exact w3 x hx
        · rw [List.mem_singleton.1 hx]
          exact ⟨n1, n2, n3, q5⟩
    · intro t ht
      obtain ⟨t1, t2, t3, t4, t5, t6⟩ := gc t ht
      have hit : i < (t.Outs.length : Int) := by omega
      have hxm := ix_mem t.Outs i g0 hit
      have hxo := ht.r.o _ hxm
      have hxv := ht.v.o _ hxm
      have hxu := hxv.us
      rw [drop_ix t.Outs i g0 hit, List.flatMap_cons, List.append_assoc, encO_split] at t6
      obtain ⟨m1, m2, m3⟩ := c1 _ _ t1 t6 hxo.c hxu.1
      obtain ⟨o1, o2, o3⟩ := c2 _ _ m1 m3 hxo.p0 hxu.2.1
      obtain ⟨p1, p2, p3⟩ := c3 _ _ o1 o3 hxo.p1 hxu.2.2
      obtain ⟨q1, q2, q3⟩ := c4 _ _ p1 p3 (by rw [hxv.l]; omega) hxv.ci hxo.ci
      refine ⟨q1, t2, t3, t4, ?_, q3⟩
      rw [take_succ_ix t.Outs i g0 hit, t5, m2, o2, p2, q2]
  · have hh := of_decide_eq_false hh
    have hiC : i = C.n := by omega
    subst hiC
    have h1 := rdU_ok (m := 4294967295) (f := f) hp
    have s1 := rdU_snd (m := 4294967295) (f := f) hp
    have c1 := fun n r => rdU_cpl (m := 4294967295) (f := f) (n := n) (r := r) hp
    have n1 := rdU_n (m := 4294967295) (f := f) hp
    refine ⟨hp, ?_⟩
    rintro _ _ _ ⟨rfl, rfl, rfl⟩
    refine ⟨h1, ?_⟩
    rintro _ _ _ ⟨rfl, rfl, rfl⟩
    generalize rdU p0 pos f 4294967295 = X1 at *
    have h2 := rdU_ok (m := 4294967295) (f := X1.fail) h1
    have s2 := rdU_snd (m := 4294967295) (f := X1.fail) h1
    have c2 := fun n r => rdU_cpl (m := 4294967295) (f := X1.fail) (n := n) (r := r) h1
    have n2 := rdU_n (m := 4294967295) (f := X1.fail) h1
    refine ⟨h2, ?_⟩
    rintro _ _ _ ⟨rfl, rfl, rfl⟩
    generalize rdU p0 X1.pos X1.fail 4294967295 = X2 at *
    have h3 := rdU_ok (m := 4294967295) (f := X2.fail) h2
    have s3 := rdU_snd (m := 4294967295) (f := X2.fail) h2
    have c3 := fun n r => rdU_cpl (m := 4294967295) (f := X2.fail) (n := n) (r := r) h2
    have n3 := rdU_n (m := 4294967295) (f := X2.fail) h2
    refine ⟨h3, ?_⟩
    rintro _ _ _ ⟨rfl, rfl, rfl⟩
    generalize rdU p0 X2.pos X2.fail 4294967295 = X3 at *
    have h4 := rdU_ok (m := 18446744069414584320) (f := X3.fail) h3
    have s4 := rdU_snd (m := 18446744069414584320) (f := X3.fail) h3
    have c4 := fun n r => rdU_cpl (m := 18446744069414584320) (f := X3.fail) (n := n) (r := r) h3
    have n4 := rdU_n (m := 18446744069414584320) (f := X3.fail) h3
    refine ⟨h4, ?_⟩
    rintro _ _ _ ⟨rfl, rfl, rfl⟩
    generalize rdU p0 X3.pos X3.fail 18446744069414584320 = X4 at *
    have h5 := rdU_ok (m := 18446744069414584320) (f := X4.fail) h4
    have s5 := rdU_snd (m := 18446744069414584320) (f := X4.fail) h4
    have c5 := fun n r => rdU_cpl (m := 18446744069414584320) (f := X4.fail) (n := n) (r := r) h4
    have n5 := rdU_n (m := 18446744069414584320) (f := X4.fail) h4
    refine ⟨h5, ?_⟩
    rintro _ _ _ ⟨rfl, rfl, rfl⟩
    generalize rdU p0 X4.pos X4.fail 18446744069414584320 = X5 at *
    have h6 := rdI_ok (m := 1048576) (f := X5.fail) h5
    have s6 := rdI_snd (m := 1048576) (f := X5.fail) h5
    have c6 := fun n r => rdI_cpl (m := 1048576) (f := X5.fail) (n := n) (r := r) h5
    have n6 := rdI_n (m := 1048576) (f := X5.fail) h5 (by omega)
    refine ⟨⟨h6, by omega⟩, ?_⟩
    rintro _ _ _ ⟨rfl, rfl, rfl⟩
    generalize rdI p0 X5.pos X5.fail 1048576 = X6 at *
    have h7 := rdB_ok (m := 1048576) (f := X6.fail) h6 (by omega)
    have s7 := rdB_snd (m := 1048576) (f := X6.fail) h6 (by omega)
    have c7 := fun n r => rdB_cpl (m := 1048576) (f := X6.fail) (l := n) (r := r) h6 (by omega)
    generalize rdB p0 X6.pos X6.fail 1048576 = X7 at *
    have cpl : ∀ t, Enc t p0 → X7.fail = false ∧ X7.pos = p0.length ∧ (⟨A.n, M.l, g, X1.n, X2.n, X3.n, X4.n, X5.n, X6.n, X7.l⟩ : TTx) = t := by
      intro t ht
      have hu := ht.us
      obtain ⟨t1, t2, t3, t4, t5, t6⟩ := gc t ht
      rw [show t.Outs.drop C.n.toNat = [] from List.drop_eq_nil_of_le (by omega), List.flatMap_nil, List.nil_append] at t6
      rw [List.take_of_length_le (by omega)] at t5
      unfold encTail at t6
      obtain ⟨a1, a2, a3⟩ := c1 _ _ t1 t6 ht.r.d hu.2.1
      obtain ⟨b1, b2, b3⟩ := c2 _ _ a1 a3 ht.r.w hu.2.2.1
      obtain ⟨c1, c2, c3⟩ := c3 _ _ b1 b3 ht.r.f hu.2.2.2.1
      obtain ⟨d1, d2, d3⟩ := c4 _ _ c1 c3 ht.r.ac hu.2.2.2.2.1
      obtain ⟨e1, e2, e3⟩ := c5 _ _ d1 d3 ht.r.n hu.2.2.2.2.2.1
      obtain ⟨f1, f2, f3⟩ := c6 _ _ e1 e3 (len4_bd _).1 (len4_bd _).2 (by rw [len4_in (by omega)]; omega)
      rw [← List.append_nil (encB t.Proof)] at f3
      obtain ⟨k1, k2, k3⟩ := c7 _ _ f1 f3 (by have := ht.v.pl; omega)
      have k4 := congrArg List.length k3
      rw [List.length_drop, List.length_nil] at k4
      rw [len4_in (by omega)] at f2
      refine ⟨k1, by have := h7.pos0; have := h7.pos1; omega, ?_⟩
      rw [t2, t3, t5, a2, b2, c2, d2, e2, f2, k2]
    have snd : X7.fail = false → X7.pos = p0.length → validE ⟨A.n, M.l, g, X1.n, X2.n, X3.n, X4.n, X5.n, X6.n, X7.l⟩ = 0 → Enc ⟨A.n, M.l, g, X1.n, X2.n, X3.n, X4.n, X5.n, X6.n, X7.l⟩ p0 := by
      intro hf hpos hv
      obtain ⟨g1, g2, g3, g4⟩ := s7 hf
      obtain ⟨f1, f2, f3⟩ := s6 g1
      obtain ⟨e1, e2, e3⟩ := s5 f1
      obtain ⟨d1, d2, d3⟩ := s4 e1
      obtain ⟨c1, c2, c3⟩ := s3 d1
      obtain ⟨b1, b2, b3⟩ := s2 c1
      obtain ⟨a1, a2, a3⟩ := s1 b1
      obtain ⟨w1, w2, w3⟩ := gs a1
      rw [hpos, Int.toNat_natCast, List.drop_length, List.append_nil] at g2
      refine ⟨⟨nA, w2, w3, n1, n2, n3, n4, n5, by show _ ≤ X6.n ∧ X6.n ≤ _; omega, g4⟩, (validE_zero _).1 hv, ?_⟩
      rw [encT_split]
      unfold encTail
      show dig 8 A.n ++ (encL M.l ++ (dig 4 (len4 g.length) ++ (g.flatMap encO ++ (dig 8 X1.n ++ (dig 8 X2.n ++ (dig 8 X3.n ++ (dig 8 X4.n ++ (dig 8 X5.n ++ (dig 4 (len4 X6.n) ++ encB X7.l))))))))) = p0
      rw [len4_in (n := X6.n) (by omega), ← g2, ← f2, ← e2, ← d2, ← c2, ← b2, ← a2, len4_in (by omega), show ((g.length : Nat) : Int) = C.n by omega]
      exact w1.symm
    have jn : (∀ t, ¬ Enc t p0) → tx_Decode_J1 ((decS p0).1.Anchor, (decS p0).1.Marks, (decS p0).1.Outs, (decS p0).1.Deposit, (decS p0).1.Withdraw, (decS p0).1.Fee, (decS p0).1.Account, (decS p0).1.Nonce, (decS p0).1.Expiry, (decS p0).1.Proof, (decS p0).2, ()) (true, (0 : Int), ([] : List Int), ([] : List TOut), (0 : Int), (0 : Int), (0 : Int), (0 : Int), (0 : Int), (0 : Int), ([] : List Int), A.n, M.l, X1.n, X2.n, X3.n, X4.n, X5.n, X6.n, X7.l, g, ()) := by
      intro hn
      refine tx_Decode_J1_in (r0 := (decS p0).1) ⟨fun _ => ?_, fun h => by simp at h⟩
      rw [decS_no hn]
      exact ⟨rfl, rfl, rfl, rfl, rfl, rfl, rfl, rfl, rfl, rfl, rfl⟩
    refine ⟨fun e => ⟨rfl, jn fun t ht => ?_⟩, fun e => ⟨rfl, ?_⟩⟩
    · obtain ⟨q1, q2, q3⟩ := cpl t ht
      simp [q1, q2] at e
    · have e : X7.fail = false ∧ X7.pos = p0.length := by simpa using e
      by_cases hv : validE ⟨A.n, M.l, g, X1.n, X2.n, X3.n, X4.n, X5.n, X6.n, X7.l⟩ = 0
      · have hE := snd e.1 e.2 hv
        rw [hv]
        refine tx_Decode_J1_in (r0 := (decS p0).1) ⟨fun h => by simp at h, fun _ => ?_⟩
        rw [decS_yes hE fun u hu => (cpl u hu).2.2]
        exact ⟨rfl, rfl, rfl, rfl, rfl, rfl, rfl, rfl, rfl, rfl, rfl⟩
      · rw [show (validE ⟨A.n, M.l, g, X1.n, X2.n, X3.n, X4.n, X5.n, X6.n, X7.l⟩ != 0) = true by simpa using hv]
        refine jn fun t ht => hv ?_
        rw [(cpl t ht).2.2]
        exact (validE_zero _).2 ht.v
noncomputable def tx_Decode_con : Con TB.den := { tx_Decode_sh with R := fun x K => (fun (p0 : List Int) => ((By p0 ∧ p0.length ≤ 137438953472) ∧ ∀ (v0 : TTx) (v1 : Int), (v0 = ((decS p0).1) ∧ v1 = ((decS p0).2)) → K (v0.Anchor, v0.Marks, v0.Outs, v0.Deposit, v0.Withdraw, v0.Fee, v0.Account, v0.Nonce, v0.Expiry, v0.Proof, v1, ()) : Prop)) x.1 }
theorem tx_Decode_ok : tx_Decode_con.Ok Try.prog TB := ⟨bd24, fun x K hx => ⟨((fun (p0 : List Int) => (((decS p0).1).Anchor : Int)) x.1, (fun (p0 : List Int) => (((decS p0).1).Marks : List Int)) x.1, (fun (p0 : List Int) => (((decS p0).1).Outs : List TOut)) x.1, (fun (p0 : List Int) => (((decS p0).1).Deposit : Int)) x.1, (fun (p0 : List Int) => (((decS p0).1).Withdraw : Int)) x.1, (fun (p0 : List Int) => (((decS p0).1).Fee : Int)) x.1, (fun (p0 : List Int) => (((decS p0).1).Account : Int)) x.1, (fun (p0 : List Int) => (((decS p0).1).Nonce : Int)) x.1, (fun (p0 : List Int) => (((decS p0).1).Expiry : Int)) x.1, (fun (p0 : List Int) => (((decS p0).1).Proof : List Int)) x.1, (fun (p0 : List Int) => ((decS p0).2 : Int)) x.1, ()), hx.2 ((fun (p0 : List Int) => (((decS p0).1))) x.1) ((fun (p0 : List Int) => (((decS p0).2))) x.1) ⟨rfl, rfl⟩, tx_Decode_snd (tx_Decode_body x.1 hx.1)⟩⟩
end Go.Proofs.Ytdbnagpoknmoiaa
namespace Go.Proofs.Ytdbnagpoknmoiaa
open Go Go.Bv Go.Cv Go.Md Go.RowKit
def l41_TxDecode_sh : Con TB.den := Con.mk0 8 [.one (.d (.sl (.int .u8)))] [] (.one (.one (.d (.bool)))) []
abbrev l41_TxDecode_I := HL TB.den (hsT l41_TxDecode_sh.ins (hsOs l41_TxDecode_sh.pre))
abbrev l41_TxDecode_O := HL TB.den (hsV l41_TxDecode_sh.res (hsOs l41_TxDecode_sh.post))
noncomputable def l41_TxDecode_cx : Cx TB := ⟨inf, [l41_awake_con, tx_Decode_con, r41_Decode_con, r41_Same_con], [], 4⟩
noncomputable def l41_TxDecode_code : Code := Try.f8.body.getD .skip
noncomputable def l41_TxDecode_rs : List ResultVar := Try.f8.results.toList
noncomputable def l41_TxDecode_Q1 (o : l41_TxDecode_O) : Exit → TSt TB.den → Prop := thenT TB (fun s => ghs TB [] s fun s => WP TB l41_TxDecode_cx 35 0 (cB (cB l41_TxDecode_code)) .no s (retTQ TB l41_TxDecode_cx l41_TxDecode_sh l41_TxDecode_rs o)) (retTQ TB l41_TxDecode_cx l41_TxDecode_sh l41_TxDecode_rs o)
def l41_TxDecode_TJ1 : Tm := ⟨[], [], [0, 13], [.one (.d (.sl (.int .u8))), .one (.d (.bool))], 0⟩
noncomputable def l41_TxDecode_J1d (o : l41_TxDecode_O) (i : HL TB.den l41_TxDecode_TJ1.hs) : Prop := ghs TB [] (l41_TxDecode_TJ1.fill TB i) fun s => WP TB l41_TxDecode_cx 35 0 (cB (cA (cB l41_TxDecode_code))) .no s (l41_TxDecode_Q1 o)
structure l41_TxDecode_J1 (o : l41_TxDecode_O) (i : HL TB.den l41_TxDecode_TJ1.hs) : Prop where
  h : l41_TxDecode_J1d o i
noncomputable def l41_TxDecode_A3 (o : l41_TxDecode_O) : An TB := .nd [] (.jn l41_TxDecode_TJ1 (l41_TxDecode_J1 o) [] .no [] .no) [] .no
noncomputable def l41_TxDecode_an (o : l41_TxDecode_O) : An TB := .nd [] .no [] (l41_TxDecode_A3 o)
noncomputable def l41_TxDecode_Body (x : l41_TxDecode_I) (o : l41_TxDecode_O) : Prop := WPh TB l41_TxDecode_cx 35 0 l41_TxDecode_code (l41_TxDecode_an o) (l41_TxDecode_sh.st TB x) (retTQ TB l41_TxDecode_cx l41_TxDecode_sh l41_TxDecode_rs o)
set_option maxRecDepth 100000 in
theorem l41_TxDecode_obl (o : l41_TxDecode_O) : OblH TB l41_TxDecode_cx 35 0 l41_TxDecode_code (l41_TxDecode_an o) (retTQ TB l41_TxDecode_cx l41_TxDecode_sh l41_TxDecode_rs o) :=
  OblH.of_eq (X := (True ∧ ((True ∧ (∀ i, (l41_TxDecode_J1 o) i = (l41_TxDecode_J1d o) i) ∧ ((True ∧ True) ∧ True)) ∧ (True ∧ (True ∧ (True ∧ True)))))) (by kernel_rfl) ⟨trivial, ⟨⟨trivial, fun _ => propext ⟨fun h => h.1, fun h => ⟨h⟩⟩, ⟨⟨trivial, trivial⟩, trivial⟩⟩, ⟨trivial, ⟨trivial, ⟨trivial, trivial⟩⟩⟩⟩⟩
set_option maxRecDepth 100000 in
theorem l41_TxDecode_snd {x : l41_TxDecode_I} {o : l41_TxDecode_O} (h : l41_TxDecode_Body x o) : SoundH Try.prog l41_TxDecode_sh.f ((l41_TxDecode_sh.args idf x).map (er TB)) ((l41_TxDecode_sh.obs idf x).map (erO TB)) (er TB (l41_TxDecode_sh.val idf o)) ((l41_TxDecode_sh.ops idf o).map (erO TB)) :=
  Con.soundH (c := l41_TxDecode_sh) (C := l41_TxDecode_cx) TBok ⟨inf_ok, (all_cons l41_awake_ok (all_cons tx_Decode_ok (all_cons r41_Decode_ok (all_cons r41_Same_ok all_nil)))), all_nil⟩ mix Try.func8 (show Try.f8.body = some l41_TxDecode_code by kernel_rfl) (show Try.f8.ntmps = 35 by kernel_rfl) (show Try.f8.results.toList = l41_TxDecode_rs by kernel_rfl) rfl h (l41_TxDecode_obl o)
set_option maxRecDepth 100000 in
theorem l41_TxDecode_in {p0 : List Int} {r0 : Bool} (h :
(((!true) = true →
 l41_TxDecode_J1 (r0, ()) (p0, true, ())) ∧
((!true) = false →
 l41_TxDecode_J1 (r0, ()) (p0, (decide (2000 < (p0.length : Int)) : Bool), ())))) : l41_TxDecode_Body (p0, ()) (r0, ()) := WPh.of_eq (by kernel_rfl) h
set_option maxRecDepth 100000 in
theorem l41_TxDecode_J1_in {r0 : Bool} {s0 : List Int} {s13 : Bool} (h :
((s13 = true →
 true = r0) ∧
(s13 = false →
(([] : List Int).length + s0.length) * 1 ≤ 140737488355328 ∧ ([] : List Int).length + s0.length ≤ maxLen ∧ (By (([] : List Int) ++ s0) ∧ (([] : List Int) ++ s0).length ≤ 137438953472) ∧ ∀ (r3 : TTx) (r4 : Int), (r3 = (decS (([] : List Int) ++ s0)).1 ∧ r4 = (decS (([] : List Int) ++ s0)).2) → (By s0 ∧ s0.length ≤ 137438953472) ∧ ∀ (r7 : TTx) (r8 : Int), (r7 = (decS s0).1 ∧ r8 = (decS s0).2) → ((r4 == r8) = true →
(TD r3 ∧ TD r7) ∧ sameT r3 r7 = r0) ∧
((r4 == r8) = false →
 false = r0)))) : l41_TxDecode_J1 (r0, ()) (s0, s13, ()) := ⟨mpr_of (by kernel_rfl) h⟩
theorem l41_TxDecode_body (p0 : List Int) (h : By p0 ∧ p0.length ≤ 9223372036854775807) : l41_TxDecode_Body (p0, ()) ((true : Bool), ()) := by
  obtain ⟨hb, hl⟩ := h
  have j : ∀ s, (s = false → p0.length ≤ 2000) → l41_TxDecode_J1 (true, ()) (p0, s, ()) := by
    intro s hs
    refine l41_TxDecode_J1_in ⟨fun _ => rfl, fun h => ?_⟩
    have h := hs h
    refine ⟨by simp; omega, by simp; unfold maxLen; omega, ⟨hb, by simp; omega⟩, ?_⟩
    rintro _ _ ⟨rfl, rfl⟩
    refine ⟨⟨hb, by omega⟩, ?_⟩
    rintro _ _ ⟨rfl, rfl⟩
    have td := decS_td p0
    simp [td]
  exact l41_TxDecode_in ⟨fun h => by simp at h, fun _ => j _ fun h => by have := of_decide_eq_false h; omega⟩
end Go.Proofs.Ytdbnagpoknmoiaa
namespace Go.Proofs.Ytdbnagpoknmoiaa
open Go Go.Bv Go.Cv Go.Md Go.RowKit
def l41_TxRoundTrip_sh : Con TB.den := Con.mk0 9 [.agg [.d (.int .u64), .d (.sl (.int .u64)), .d (.sl (.st 0)), .d (.int .u64), .d (.int .u64), .d (.int .u64), .d (.int .u64), .d (.int .u64), .d (.int .i64), .d (.sl (.int .u8))]] [] (.one (.one (.d (.bool)))) []
abbrev l41_TxRoundTrip_I := HL TB.den (hsT l41_TxRoundTrip_sh.ins (hsOs l41_TxRoundTrip_sh.pre))
abbrev l41_TxRoundTrip_O := HL TB.den (hsV l41_TxRoundTrip_sh.res (hsOs l41_TxRoundTrip_sh.post))
noncomputable def l41_TxRoundTrip_cx : Cx TB := ⟨inf, [l41_awake_con, l41_small_con, r41_Valid_con, l41_copied_con, tx_Encode_con, tx_Decode_con, r41_Same_con], [], 4⟩
noncomputable def l41_TxRoundTrip_code : Code := Try.f9.body.getD .skip
noncomputable def l41_TxRoundTrip_rs : List ResultVar := Try.f9.results.toList
noncomputable def l41_TxRoundTrip_Q1 (o : l41_TxRoundTrip_O) : Exit → TSt TB.den → Prop := thenT TB (fun s => ghs TB [] s fun s => WP TB l41_TxRoundTrip_cx 38 0 (cB (cB l41_TxRoundTrip_code)) .no s (retTQ TB l41_TxRoundTrip_cx l41_TxRoundTrip_sh l41_TxRoundTrip_rs o)) (retTQ TB l41_TxRoundTrip_cx l41_TxRoundTrip_sh l41_TxRoundTrip_rs o)
def l41_TxRoundTrip_TJ1 : Tm := ⟨[0], [.cells [.d (.int .u64), .d (.sl (.int .u64)), .d (.sl (.st 0)), .d (.int .u64), .d (.int .u64), .d (.int .u64), .d (.int .u64), .d (.int .u64), .d (.int .i64), .d (.sl (.int .u8))]], [1, 18], [.one (.ptr 0 0), .one (.d (.bool))], 1⟩
noncomputable def l41_TxRoundTrip_J1d (o : l41_TxRoundTrip_O) (i : HL TB.den l41_TxRoundTrip_TJ1.hs) : Prop := ghs TB [] (l41_TxRoundTrip_TJ1.fill TB i) fun s => WP TB l41_TxRoundTrip_cx 38 0 (cB (cA (cB l41_TxRoundTrip_code))) .no s (l41_TxRoundTrip_Q1 o)
structure l41_TxRoundTrip_J1 (o : l41_TxRoundTrip_O) (i : HL TB.den l41_TxRoundTrip_TJ1.hs) : Prop where
  h : l41_TxRoundTrip_J1d o i
noncomputable def l41_TxRoundTrip_A3 (o : l41_TxRoundTrip_O) : An TB := .nd [] (.jn l41_TxRoundTrip_TJ1 (l41_TxRoundTrip_J1 o) [] .no [] .no) [] .no
noncomputable def l41_TxRoundTrip_an (o : l41_TxRoundTrip_O) : An TB := .nd [] .no [] (l41_TxRoundTrip_A3 o)
noncomputable def l41_TxRoundTrip_Body (x : l41_TxRoundTrip_I) (o : l41_TxRoundTrip_O) : Prop := WPh TB l41_TxRoundTrip_cx 38 0 l41_TxRoundTrip_code (l41_TxRoundTrip_an o) (l41_TxRoundTrip_sh.st TB x) (retTQ TB l41_TxRoundTrip_cx l41_TxRoundTrip_sh l41_TxRoundTrip_rs o)
set_option maxRecDepth 100000 in
theorem l41_TxRoundTrip_obl (o : l41_TxRoundTrip_O) : OblH TB l41_TxRoundTrip_cx 38 0 l41_TxRoundTrip_code (l41_TxRoundTrip_an o) (retTQ TB l41_TxRoundTrip_cx l41_TxRoundTrip_sh l41_TxRoundTrip_rs o) :=
  OblH.of_eq (X := (True ∧ ((True ∧ (∀ i, (l41_TxRoundTrip_J1 o) i = (l41_TxRoundTrip_J1d o) i) ∧ ((True ∧ True) ∧ True)) ∧ (True ∧ (True ∧ (True ∧ True)))))) (by kernel_rfl) ⟨trivial, ⟨⟨trivial, fun _ => propext ⟨fun h => h.1, fun h => ⟨h⟩⟩, ⟨⟨trivial, trivial⟩, trivial⟩⟩, ⟨trivial, ⟨trivial, ⟨trivial, trivial⟩⟩⟩⟩⟩
set_option maxRecDepth 100000 in
theorem l41_TxRoundTrip_snd {x : l41_TxRoundTrip_I} {o : l41_TxRoundTrip_O} (h : l41_TxRoundTrip_Body x o) : SoundH Try.prog l41_TxRoundTrip_sh.f ((l41_TxRoundTrip_sh.args idf x).map (er TB)) ((l41_TxRoundTrip_sh.obs idf x).map (erO TB)) (er TB (l41_TxRoundTrip_sh.val idf o)) ((l41_TxRoundTrip_sh.ops idf o).map (erO TB)) :=
  Con.soundH (c := l41_TxRoundTrip_sh) (C := l41_TxRoundTrip_cx) TBok ⟨inf_ok, (all_cons l41_awake_ok (all_cons l41_small_ok (all_cons r41_Valid_ok (all_cons l41_copied_ok (all_cons tx_Encode_ok (all_cons tx_Decode_ok (all_cons r41_Same_ok all_nil))))))), all_nil⟩ mix Try.func9 (show Try.f9.body = some l41_TxRoundTrip_code by kernel_rfl) (show Try.f9.ntmps = 38 by kernel_rfl) (show Try.f9.results.toList = l41_TxRoundTrip_rs by kernel_rfl) rfl h (l41_TxRoundTrip_obl o)
set_option maxRecDepth 100000 in
theorem l41_TxRoundTrip_in {p0 : TTx} {r0 : Bool} (h :
(((!true) = true →
 l41_TxRoundTrip_J1 (r0, ()) (true, p0.Anchor, p0.Marks, p0.Outs, p0.Deposit, p0.Withdraw, p0.Fee, p0.Account, p0.Nonce, p0.Expiry, p0.Proof, ())) ∧
((!true) = false →
(p0.Outs.length ≤ 9223372036854775807) ∧ ((!smallB p0 300) = true →
 l41_TxRoundTrip_J1 (r0, ()) (true, p0.Anchor, p0.Marks, p0.Outs, p0.Deposit, p0.Withdraw, p0.Fee, p0.Account, p0.Nonce, p0.Expiry, p0.Proof, ())) ∧
((!smallB p0 300) = false →
(TR p0 ∧ TL p0) ∧ l41_TxRoundTrip_J1 (r0, ()) ((((validE p0) != 0) : Bool), p0.Anchor, p0.Marks, p0.Outs, p0.Deposit, p0.Withdraw, p0.Fee, p0.Account, p0.Nonce, p0.Expiry, p0.Proof, ()))))) : l41_TxRoundTrip_Body (p0.Anchor, p0.Marks, p0.Outs, p0.Deposit, p0.Withdraw, p0.Fee, p0.Account, p0.Nonce, p0.Expiry, p0.Proof, ()) (r0, ()) := WPh.of_eq (by kernel_rfl) h
set_option maxRecDepth 100000 in
theorem l41_TxRoundTrip_J1_in {r0 : Bool} {s18 : Bool} {h0_0 : Int} {h0_1 : List Int} {h0_2 : List TOut} {h0_3 : Int} {h0_4 : Int} {h0_5 : Int} {h0_6 : Int} {h0_7 : Int} {h0_8 : Int} {h0_9 : List Int} (h :
((s18 = true →
 true = r0) ∧
(s18 = false →
(TL (TTx.mk h0_0 h0_1 h0_2 h0_3 h0_4 h0_5 h0_6 h0_7 h0_8 h0_9)) ∧ (TR (TTx.mk h0_0 h0_1 h0_2 h0_3 h0_4 h0_5 h0_6 h0_7 h0_8 h0_9)) ∧ let r1 : List Int := (if validE (TTx.mk h0_0 h0_1 h0_2 h0_3 h0_4 h0_5 h0_6 h0_7 h0_8 h0_9) = 0 then encT (TTx.mk h0_0 h0_1 h0_2 h0_3 h0_4 h0_5 h0_6 h0_7 h0_8 h0_9) (TTx.mk h0_0 h0_1 h0_2 h0_3 h0_4 h0_5 h0_6 h0_7 h0_8 h0_9).Proof else [])
 let r2 : Int := validE (TTx.mk h0_0 h0_1 h0_2 h0_3 h0_4 h0_5 h0_6 h0_7 h0_8 h0_9)
(By r1 ∧ r1.length ≤ 137438953472) ∧ ∀ (r5 : TTx) (r6 : Int), (r5 = (decS r1).1 ∧ r6 = (decS r1).2) → ((r6 == 0) = true →
(TD (TTx.mk h0_0 h0_1 h0_2 h0_3 h0_4 h0_5 h0_6 h0_7 h0_8 h0_9) ∧ TD r5) ∧ let r7 : Bool := sameT (TTx.mk h0_0 h0_1 h0_2 h0_3 h0_4 h0_5 h0_6 h0_7 h0_8 h0_9) r5
 r7 = r0) ∧
((r6 == 0) = false →
 false = r0)))) : l41_TxRoundTrip_J1 (r0, ()) (s18, h0_0, h0_1, h0_2, h0_3, h0_4, h0_5, h0_6, h0_7, h0_8, h0_9, ()) := ⟨mpr_of (by kernel_rfl) h⟩
theorem l41_TxRoundTrip_body (p0 : TTx) (h : TR p0 ∧ p0.Outs.length ≤ 9223372036854775807) : l41_TxRoundTrip_Body (p0.Anchor, p0.Marks, p0.Outs, p0.Deposit, p0.Withdraw, p0.Fee, p0.Account, p0.Nonce, p0.Expiry, p0.Proof, ()) ((true : Bool), ()) := by
  obtain ⟨hr, hl⟩ := h
  have j : ∀ s, (s = false → smallB p0 300 = true ∧ validE p0 = 0) → l41_TxRoundTrip_J1 (true, ()) (s, p0.Anchor, p0.Marks, p0.Outs, p0.Deposit, p0.Withdraw, p0.Fee, p0.Account, p0.Nonce, p0.Expiry, p0.Proof, ()) := by
    intro s hs
    refine l41_TxRoundTrip_J1_in ⟨fun _ => rfl, fun h => ?_⟩
    obtain ⟨h1, h2⟩ := hs h
    have v := (validE_zero _).1 h2
    have hE : Enc p0 (encT p0 p0.Proof) := ⟨hr, v, rfl⟩
    have hlen := v.enc_len p0.Proof
    have hpl := v.pl
    simp only [TTx_eta]
    refine ⟨small_tl h1, hr, ?_⟩
    rw [if_pos h2]
    refine ⟨⟨encT_by hr.p, by omega⟩, ?_⟩
    rw [decS_enc hE]
    rintro _ _ ⟨rfl, rfl⟩
    refine ⟨fun _ => ⟨⟨hE.td, hE.td⟩, sameT_refl _⟩, fun h => by simp at h⟩
  refine l41_TxRoundTrip_in ⟨fun h => by simp at h, fun _ => ⟨hl, fun _ => j _ (by simp), fun h1 => ?_⟩⟩
  have h1 : smallB p0 300 = true := by simpa using h1
  exact ⟨⟨hr, small_tl h1⟩, j _ fun h => ⟨h1, by simpa using h⟩⟩
end Go.Proofs.Ytdbnagpoknmoiaa
