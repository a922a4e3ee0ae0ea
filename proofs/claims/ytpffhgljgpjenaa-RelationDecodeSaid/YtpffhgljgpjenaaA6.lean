/-
  Parts of the proofs that the laws of this seat hold of every input, merged by a program: a machine over pure data that is sound for the model, what each function of the translation does in it, and plain lemmas. No conditions but those in each theorem.
-/
import Derived.Test.YtpffhgljgpjenaaA5
set_option linter.all false
set_option maxRecDepth 100000
noncomputable section
namespace Go.Proofs.Ytpffhgljgpjenaa
open Go Go.Bv Go.Cv Go.Md Go.RowKit
def ky : Con TB.den := Con.mk0 15 [.one (.ptr 0 0), .agg [.d (.int .i64), .d (.int .u64), .d (.sl (.int .u64)), .d (.sl (.int .u64)), .d (.sl (.int .u64)), .d (.int .u64), .d (.int .u64), .d (.int .u64), .d (.int .u64), .d (.int .u64)], .agg [.d (.sl (.st 0)), .d (.sl (.st 1)), .d (.int .u64)]] [.cells [.d (.bool), .d (.int .u64), .d (.int .i64), .d (.sl (.st 3)), .mp 1, .mp 2, .mp 3], .map (.str) (.int .i64), .map (.str) (.sl (.int .u64)), .map (.str) (.bool)] (.one (.one (.d (.int .i64)))) [.cells [.d (.bool), .d (.int .u64), .d (.int .i64), .d (.sl (.st 3)), .mp 1, .mp 2, .mp 3], .map (.str) (.int .i64), .map (.str) (.sl (.int .u64)), .map (.str) (.bool)]
abbrev kr2 := HL TB.den (hsT ky.ins (hsOs ky.pre))
abbrev km := HL TB.den (hsV ky.res (hsOs ky.post))
def k18 : Cx TB := ⟨inf, [kge, kkp, kej, ksh, kel, kdg], [], 4, []⟩
def k38 : Code := Try.f15.body.getD .skip
def k7c : List ResultVar := Try.f15.results.toList
def k8c : Tm := ⟨[0, 1, 2, 3, 4, 5], [.cells [.d (.bool), .d (.int .u64), .d (.int .i64), .d (.sl (.st 3)), .mp 1, .mp 2, .mp 3], .map (.str) (.int .i64), .map (.str) (.sl (.int .u64)), .map (.str) (.bool), .cells [.d (.int .i64), .d (.int .u64), .d (.sl (.int .u64)), .d (.sl (.int .u64)), .d (.sl (.int .u64)), .d (.int .u64), .d (.int .u64), .d (.int .u64), .d (.int .u64), .d (.int .u64)], .cells [.d (.sl (.st 0)), .d (.sl (.st 1)), .d (.int .u64)]], [4, 5], [.one (.ptr 4 0), .one (.ptr 5 0)], 50⟩
def ko3 (o : km) (i : HL TB.den k8c.hs) : Prop := ghs TB [] (k8c.fill TB i) fun s => WP TB k18 100 4 (cB (cB (cB (cB (cB k38))))) .no s (retTQ TB k18 ky k7c o)
structure k5z (o : km) (i : HL TB.den k8c.hs) : Prop where
 h : ko3 o i
def k16u (o : km) := qS TB k18 100 4 (cB (cB (cB (cB k38)))) (.jn k8c (k5z o) [] .no [] .no) (retTQ TB k18 ky k7c o)
def k5v : Tm := ⟨[0, 1, 2, 3, 4, 5], [.cells [.d (.bool), .d (.int .u64), .d (.int .i64), .d (.sl (.st 3)), .mp 1, .mp 2, .mp 3], .map (.str) (.int .i64), .map (.str) (.sl (.int .u64)), .map (.str) (.bool), .cells [.d (.int .i64), .d (.int .u64), .d (.sl (.int .u64)), .d (.sl (.int .u64)), .d (.sl (.int .u64)), .d (.int .u64), .d (.int .u64), .d (.int .u64), .d (.int .u64), .d (.int .u64)], .cells [.d (.sl (.st 0)), .d (.sl (.st 1)), .d (.int .u64)]], [0, 4, 5, 40, 41, 42], [.one (.ptr 0 0), .one (.ptr 4 0), .one (.ptr 5 0), .one (.d (.sl (.st 1))), .one (.d (.int .i64)), .one (.d (.int .i64))], 6⟩
def k16q (o : km) (nx2 : NX TB k5v) := qM TB 4 k5v nx2 (blockT TB 2 (k16u o))
def k99 (o : km) (nx2 : NX TB k5v) (i : HL TB.den k5v.hs) : Prop := WP TB k18 100 4 (cA (cA (cB (cA (cB (cB (cB k38))))))) .no (k5v.fill TB i) (k16q o nx2)
def k160 (o : km) : An TB := .lp [] k5v (k99 o) fun nx2 => .no
def kpu (o : km) : An TB := .nd [] (.nd [] .no [] (k160 o)) [] (.jn k8c (k5z o) [] .no [] .no)
def k15z (o : km) := qS TB k18 100 4 (cB (cB (cB k38))) (kpu o) (retTQ TB k18 ky k7c o)
def k5u : Tm := ⟨[0, 1, 2, 3, 4, 5], [.cells [.d (.bool), .d (.int .u64), .d (.int .i64), .d (.sl (.st 3)), .mp 1, .mp 2, .mp 3], .map (.str) (.int .i64), .map (.str) (.sl (.int .u64)), .map (.str) (.bool), .cells [.d (.int .i64), .d (.int .u64), .d (.sl (.int .u64)), .d (.sl (.int .u64)), .d (.sl (.int .u64)), .d (.int .u64), .d (.int .u64), .d (.int .u64), .d (.int .u64), .d (.int .u64)], .cells [.d (.sl (.st 0)), .d (.sl (.st 1)), .d (.int .u64)]], [0, 4, 5, 19, 20, 21], [.one (.ptr 0 0), .one (.ptr 4 0), .one (.ptr 5 0), .one (.d (.sl (.st 0))), .one (.d (.int .i64)), .one (.d (.int .i64))], 6⟩
def k13p (o : km) (nx1 : NX TB k5u) := qM TB 4 k5u nx1 (blockT TB 0 (k15z o))
def k9b (o : km) (nx1 : NX TB k5u) (i : HL TB.den k5u.hs) : Prop := WP TB k18 100 4 (cA (cA (cB (cA (cB (cB k38)))))) .no (k5u.fill TB i) (k13p o nx1)
def k12u (o : km) : An TB := .lp [] k5u (k9b o) fun nx1 => .no
def k134 (o : km) : An TB := .nd [] (.nd [] .no [] (k12u o)) [] (kpu o)
def kq5 (o : km) : An TB := .nd [] .no [] (.nd [] .no [] (k134 o))
def kem (x : kr2) (o : km) : Prop := WPh TB k18 100 4 k38 (kq5 o) (ky.st TB x) (retTQ TB k18 ky k7c o)
theorem k154 (o : km) : OblH TB k18 100 4 k38 (kq5 o) (retTQ TB k18 ky k7c o) :=
 OblH.ofC (X := ((∀ nx i, (k9b o) nx i = (k9b o) nx i) ∧ (∀ nx1 : NX TB k5u, True) ∧ (∀ nx i, (k99 o) nx i = (k99 o) nx i) ∧ (∀ nx2 : NX TB k5v, True) ∧ (∀ i, (k5z o) i = ko3 o i) ∧ True)) (by kernel_rfl) ⟨fun _ _ => rfl, fun _ => trivial, fun _ _ => rfl, fun _ => trivial, fun _ => propext ⟨fun h => h.1, fun h => ⟨h⟩⟩, trivial⟩
theorem k129 {x : kr2} {o : km} (h : kem x o) : ky.Snd Try.prog x o :=
 Con.soundH (c := ky) (C := k18) TBok ⟨inf_ok, (all_cons kqd (all_cons k10j (all_cons kox (all_cons k1at (all_cons kon (all_cons kll all_nil)))))), all_nil⟩ mix Try.func15 (show Try.f15.body = some k38 by kernel_rfl) (show Try.f15.ntmps = 100 by kernel_rfl) (show Try.f15.results.toList = k7c by kernel_rfl) rfl h (k154 o)
theorem k16e {p1 : TStatement} {p2 : TWitness} {c0_0 : Bool} {c0_1 : Int} {c0_2 : Int} {c0_3 : List TQuestion} {w1k : List ByteArray} {w1v : List Int} {w2k : List ByteArray} {w2v : List (List Int)} {w3k : List ByteArray} {w3v : List Bool} {r0 : Int} {d0_0 : Bool} {d0_1 : Int} {d0_2 : Int} {d0_3 : List TQuestion} {e1k : List ByteArray} {e1v : List Int} {e2k : List ByteArray} {e2v : List (List Int)} {e3k : List ByteArray} {e3v : List Bool} (h :
((SR p1 ∧ WR p2) ∧ ((!(relV p1 p2)) = true →
 1 = r0 ∧ c0_0 = d0_0 ∧ c0_1 = d0_1 ∧ c0_2 = d0_2 ∧ c0_3 = d0_3 ∧ w1k = e1k ∧ w1v = e1v ∧ w2k = e2k ∧ w2v = e2v ∧ w3k = e3k ∧ w3v = e3v) ∧
((!(relV p1 p2)) = false →
 Md.Loop (p2.Ins, ((p2.Ins.length : Int) : Int), (0 : Int), c0_0, c0_1, c0_2, c0_3, p1.Depth, p1.Anchor, p1.Marks, p1.Commits, p1.Rhos, p1.Deposit, p1.Withdraw, p1.Fee, p1.Account, p1.Bind, p2.Ins, p2.Outs, p2.Secret, w1k, w1v, w2k, w2v, w3k, w3v, ()) (k9b (r0, d0_0, d0_1, d0_2, d0_3, e1k, e1v, e2k, e2v, e3k, e3v, ()))))) : kem (p1.Depth, p1.Anchor, p1.Marks, p1.Commits, p1.Rhos, p1.Deposit, p1.Withdraw, p1.Fee, p1.Account, p1.Bind, p2.Ins, p2.Outs, p2.Secret, c0_0, c0_1, c0_2, c0_3, w1k, w1v, w2k, w2v, w3k, w3v, ()) (r0, d0_0, d0_1, d0_2, d0_3, e1k, e1v, e2k, e2v, e3k, e3v, ()) := WPh.of_eq (by kernel_rfl) h
theorem ky7 {r0 : Int} {d0_0 : Bool} {d0_1 : Int} {d0_2 : Int} {d0_3 : List TQuestion} {e1k : List ByteArray} {e1v : List Int} {e2k : List ByteArray} {e2v : List (List Int)} {e3k : List ByteArray} {e3v : List Bool} {h0_0 : Bool} {h0_1 : Int} {h0_2 : Int} {h0_3 : List TQuestion} {h4_0 : Int} {h4_1 : Int} {h4_2 : List Int} {h4_3 : List Int} {h4_4 : List Int} {h4_5 : Int} {h4_6 : Int} {h4_7 : Int} {h4_8 : Int} {h4_9 : Int} {h5_0 : List TSpent} {h5_1 : List TNote} {h5_2 : Int} {g1k : List ByteArray} {g1v : List Int} {g2k : List ByteArray} {g2v : List (List Int)} {g3k : List ByteArray} {g3v : List Bool} (h :
(((TWitness.mk h5_0 h5_1 h5_2).Ins.length ≤ 9223372036854775807) ∧ let v4 : Int := IntKind.u64.wrap ((inS (TWitness.mk h5_0 h5_1 h5_2).Ins) + h4_5)
((TWitness.mk h5_0 h5_1 h5_2).Outs.length ≤ 9223372036854775807) ∧ let v5 : Int := IntKind.u64.wrap ((outS (TWitness.mk h5_0 h5_1 h5_2).Outs) + h4_6)
((v4 != (IntKind.u64.wrap (v5 + h4_7))) = true →
 13 = r0 ∧ h0_0 = d0_0 ∧ h0_1 = d0_1 ∧ h0_2 = d0_2 ∧ h0_3 = d0_3 ∧ g1k = e1k ∧ g1v = e1v ∧ g2k = e2k ∧ g2v = e2v ∧ g3k = e3k ∧ g3v = e3v) ∧
((v4 != (IntKind.u64.wrap (v5 + h4_7))) = false →
 0 = r0 ∧ h0_0 = d0_0 ∧ h0_1 = d0_1 ∧ h0_2 = d0_2 ∧ h0_3 = d0_3 ∧ g1k = e1k ∧ g1v = e1v ∧ g2k = e2k ∧ g2v = e2v ∧ g3k = e3k ∧ g3v = e3v))) : k5z (r0, d0_0, d0_1, d0_2, d0_3, e1k, e1v, e2k, e2v, e3k, e3v, ()) (h0_0, h0_1, h0_2, h0_3, h4_0, h4_1, h4_2, h4_3, h4_4, h4_5, h4_6, h4_7, h4_8, h4_9, h5_0, h5_1, h5_2, g1k, g1v, g2k, g2v, g3k, g3v, ()) := ⟨mpr_of (by kernel_rfl) h⟩
def kpi (r0 : Int) (d0_0 : Bool) (d0_1 : Int) (d0_2 : Int) (d0_3 : List TQuestion) (e1k : List ByteArray) (e1v : List Int) (e2k : List ByteArray) (e2v : List (List Int)) (e3k : List ByteArray) (e3v : List Bool) (k1 : Int → Prop) (s19 : List TSpent) (s20 : Int) (h0_0 : Bool) (h0_1 : Int) (h0_2 : Int) (h0_3 : List TQuestion) (h4_0 : Int) (h4_1 : Int) (h4_2 : List Int) (h4_3 : List Int) (h4_4 : List Int) (h4_5 : Int) (h4_6 : Int) (h4_7 : Int) (h4_8 : Int) (h4_9 : Int) (h5_0 : List TSpent) (h5_1 : List TNote) (h5_2 : Int) (g1k : List ByteArray) (g1v : List Int) (g2k : List ByteArray) (g2v : List (List Int)) (g3k : List ByteArray) (g3v : List Bool) (s21 : Int) : Prop :=
(decide (s21 < s20) = true →
(0 ≤ s21) ∧ s21 < (s19.length : Int) ∧ (0 ≤ s21) ∧ s21 < (h4_2.length : Int) ∧ (PR (ix s19 s21) ∧ OrOk g1k g1v h0_3 ∧ (∀ l a, (pk h0_0 h0_3 g1k g1v) l a = none ∨ ∃ n, (pk h0_0 h0_3 g1k g1v) l a = some n ∧ U64 n)) ∧ let r1 : Int := (inE (pk h0_0 h0_3 g1k g1v) (TStatement.mk h4_0 h4_1 h4_2 h4_3 h4_4 h4_5 h4_6 h4_7 h4_8 h4_9).Anchor (ix h4_2 s21) (ix s19 s21))
((r1 != 0) = true →
 r1 = r0 ∧ h0_0 = d0_0 ∧ h0_1 = d0_1 ∧ h0_2 = d0_2 ∧ h0_3 = d0_3 ∧ g1k = e1k ∧ g1v = e1v ∧ g2k = e2k ∧ g2v = e2v ∧ g3k = e3k ∧ g3v = e3v) ∧
((r1 != 0) = false →
 k1 (IntKind.i64.wrap (s21 + 1) : Int))) ∧
(decide (s21 < s20) = false →
 Md.Loop (h5_1, ((h5_1.length : Int) : Int), (0 : Int), h0_0, h0_1, h0_2, h0_3, h4_0, h4_1, h4_2, h4_3, h4_4, h4_5, h4_6, h4_7, h4_8, h4_9, h5_0, h5_1, h5_2, g1k, g1v, g2k, g2v, g3k, g3v, ()) (k99 (r0, d0_0, d0_1, d0_2, d0_3, e1k, e1v, e2k, e2v, e3k, e3v, ())))
theorem k13a {r0 : Int} {d0_0 : Bool} {d0_1 : Int} {d0_2 : Int} {d0_3 : List TQuestion} {e1k : List ByteArray} {e1v : List Int} {e2k : List ByteArray} {e2v : List (List Int)} {e3k : List ByteArray} {e3v : List Bool} {s19 : List TSpent} {s20 : Int} {h0_0 : Bool} {h0_1 : Int} {h0_2 : Int} {h0_3 : List TQuestion} {h4_0 : Int} {h4_1 : Int} {h4_2 : List Int} {h4_3 : List Int} {h4_4 : List Int} {h4_5 : Int} {h4_6 : Int} {h4_7 : Int} {h4_8 : Int} {h4_9 : Int} {h5_0 : List TSpent} {h5_1 : List TNote} {h5_2 : Int} {g1k : List ByteArray} {g1v : List Int} {g2k : List ByteArray} {g2v : List (List Int)} {g3k : List ByteArray} {g3v : List Bool} {s21 : Int} (inv : Int → Prop) (μ : Int → Nat) (h0 : inv s21) (hs : ∀ (s21 : Int), inv s21 → kpi r0 d0_0 d0_1 d0_2 d0_3 e1k e1v e2k e2v e3k e3v (fun s21q => inv s21q ∧ μ s21q < μ s21) s19 s20 h0_0 h0_1 h0_2 h0_3 h4_0 h4_1 h4_2 h4_3 h4_4 h4_5 h4_6 h4_7 h4_8 h4_9 h5_0 h5_1 h5_2 g1k g1v g2k g2v g3k g3v s21) : Md.Loop (s19, s20, s21, h0_0, h0_1, h0_2, h0_3, h4_0, h4_1, h4_2, h4_3, h4_4, h4_5, h4_6, h4_7, h4_8, h4_9, h5_0, h5_1, h5_2, g1k, g1v, g2k, g2v, g3k, g3v, ()) (k9b (r0, d0_0, d0_1, d0_2, d0_3, e1k, e1v, e2k, e2v, e3k, e3v, ())) :=
 ⟨⟨fun s : (List TSpent) × Int × Int × Bool × Int × Int × (List TQuestion) × Int × Int × (List Int) × (List Int) × (List Int) × Int × Int × Int × Int × Int × (List TSpent) × (List TNote) × Int × (List ByteArray) × (List Int) × (List ByteArray) × (List (List Int)) × (List ByteArray) × (List Bool) × Unit => (s.1 = s19 ∧ s.2.1 = s20 ∧ s.2.2.2.1 = h0_0 ∧ s.2.2.2.2.1 = h0_1 ∧ s.2.2.2.2.2.1 = h0_2 ∧ s.2.2.2.2.2.2.1 = h0_3 ∧ s.2.2.2.2.2.2.2.1 = h4_0 ∧ s.2.2.2.2.2.2.2.2.1 = h4_1 ∧ s.2.2.2.2.2.2.2.2.2.1 = h4_2 ∧ s.2.2.2.2.2.2.2.2.2.2.1 = h4_3 ∧ s.2.2.2.2.2.2.2.2.2.2.2.1 = h4_4 ∧ s.2.2.2.2.2.2.2.2.2.2.2.2.1 = h4_5 ∧ s.2.2.2.2.2.2.2.2.2.2.2.2.2.1 = h4_6 ∧ s.2.2.2.2.2.2.2.2.2.2.2.2.2.2.1 = h4_7 ∧ s.2.2.2.2.2.2.2.2.2.2.2.2.2.2.2.1 = h4_8 ∧ s.2.2.2.2.2.2.2.2.2.2.2.2.2.2.2.2.1 = h4_9 ∧ s.2.2.2.2.2.2.2.2.2.2.2.2.2.2.2.2.2.1 = h5_0 ∧ s.2.2.2.2.2.2.2.2.2.2.2.2.2.2.2.2.2.2.1 = h5_1 ∧ s.2.2.2.2.2.2.2.2.2.2.2.2.2.2.2.2.2.2.2.1 = h5_2 ∧ s.2.2.2.2.2.2.2.2.2.2.2.2.2.2.2.2.2.2.2.2.1 = g1k ∧ s.2.2.2.2.2.2.2.2.2.2.2.2.2.2.2.2.2.2.2.2.2.1 = g1v ∧ s.2.2.2.2.2.2.2.2.2.2.2.2.2.2.2.2.2.2.2.2.2.2.1 = g2k ∧ s.2.2.2.2.2.2.2.2.2.2.2.2.2.2.2.2.2.2.2.2.2.2.2.1 = g2v ∧ s.2.2.2.2.2.2.2.2.2.2.2.2.2.2.2.2.2.2.2.2.2.2.2.2.1 = g3k ∧ s.2.2.2.2.2.2.2.2.2.2.2.2.2.2.2.2.2.2.2.2.2.2.2.2.2.1 = g3v) ∧ inv s.2.2.1, fun s : (List TSpent) × Int × Int × Bool × Int × Int × (List TQuestion) × Int × Int × (List Int) × (List Int) × (List Int) × Int × Int × Int × Int × Int × (List TSpent) × (List TNote) × Int × (List ByteArray) × (List Int) × (List ByteArray) × (List (List Int)) × (List ByteArray) × (List Bool) × Unit => μ s.2.2.1, ⟨⟨rfl, rfl, rfl, rfl, rfl, rfl, rfl, rfl, rfl, rfl, rfl, rfl, rfl, rfl, rfl, rfl, rfl, rfl, rfl, rfl, rfl, rfl, rfl, rfl, rfl⟩, h0⟩, fun (s19p, s20p, s21p, h0_0p, h0_1p, h0_2p, h0_3p, h4_0p, h4_1p, h4_2p, h4_3p, h4_4p, h4_5p, h4_6p, h4_7p, h4_8p, h4_9p, h5_0p, h5_1p, h5_2p, g1kp, g1vp, g2kp, g2vp, g3kp, g3vp, ()) ⟨⟨eq0, eq1, eq2, eq3, eq4, eq5, eq6, eq7, eq8, eq9, eq10, eq11, eq12, eq13, eq14, eq15, eq16, eq17, eq18, eq19, eq20, eq21, eq22, eq23, eq24⟩, hi⟩ => by
  have eq0 : s19p = s19 := eq0; subst s19p; have eq1 : s20p = s20 := eq1; subst s20p; have eq2 : h0_0p = h0_0 := eq2; subst h0_0p; have eq3 : h0_1p = h0_1 := eq3; subst h0_1p; have eq4 : h0_2p = h0_2 := eq4; subst h0_2p; have eq5 : h0_3p = h0_3 := eq5; subst h0_3p; have eq6 : h4_0p = h4_0 := eq6; subst h4_0p; have eq7 : h4_1p = h4_1 := eq7; subst h4_1p; have eq8 : h4_2p = h4_2 := eq8; subst h4_2p; have eq9 : h4_3p = h4_3 := eq9; subst h4_3p; have eq10 : h4_4p = h4_4 := eq10; subst h4_4p; have eq11 : h4_5p = h4_5 := eq11; subst h4_5p; have eq12 : h4_6p = h4_6 := eq12; subst h4_6p; have eq13 : h4_7p = h4_7 := eq13; subst h4_7p; have eq14 : h4_8p = h4_8 := eq14; subst h4_8p; have eq15 : h4_9p = h4_9 := eq15; subst h4_9p; have eq16 : h5_0p = h5_0 := eq16; subst h5_0p; have eq17 : h5_1p = h5_1 := eq17; subst h5_1p; have eq18 : h5_2p = h5_2 := eq18; subst h5_2p; have eq19 : g1kp = g1k := eq19; subst g1kp; have eq20 : g1vp = g1v := eq20; subst g1vp; have eq21 : g2kp = g2k := eq21; subst g2kp; have eq22 : g2vp = g2v := eq22; subst g2vp; have eq23 : g3kp = g3k := eq23; subst g3kp; have eq24 : g3vp = g3v := eq24; subst g3vp; exact mpr_of (by kernel_rfl) ((congrArg (fun k => kpi r0 d0_0 d0_1 d0_2 d0_3 e1k e1v e2k e2v e3k e3v k s19 s20 h0_0 h0_1 h0_2 h0_3 h4_0 h4_1 h4_2 h4_3 h4_4 h4_5 h4_6 h4_7 h4_8 h4_9 h5_0 h5_1 h5_2 g1k g1v g2k g2v g3k g3v s21p) (lpk1 (⟨rfl, rfl, rfl, rfl, rfl, rfl, rfl, rfl, rfl, rfl, rfl, rfl, rfl, rfl, rfl, rfl, rfl, rfl, rfl, rfl, rfl, rfl, rfl, rfl, rfl⟩ : s19 = s19 ∧ s20 = s20 ∧ h0_0 = h0_0 ∧ h0_1 = h0_1 ∧ h0_2 = h0_2 ∧ h0_3 = h0_3 ∧ h4_0 = h4_0 ∧ h4_1 = h4_1 ∧ h4_2 = h4_2 ∧ h4_3 = h4_3 ∧ h4_4 = h4_4 ∧ h4_5 = h4_5 ∧ h4_6 = h4_6 ∧ h4_7 = h4_7 ∧ h4_8 = h4_8 ∧ h4_9 = h4_9 ∧ h5_0 = h5_0 ∧ h5_1 = h5_1 ∧ h5_2 = h5_2 ∧ g1k = g1k ∧ g1v = g1v ∧ g2k = g2k ∧ g2v = g2v ∧ g3k = g3k ∧ g3v = g3v) inv (fun s21q => μ s21q < μ s21p))).mpr (hs s21p hi))⟩⟩
def kqa (r0 : Int) (d0_0 : Bool) (d0_1 : Int) (d0_2 : Int) (d0_3 : List TQuestion) (e1k : List ByteArray) (e1v : List Int) (e2k : List ByteArray) (e2v : List (List Int)) (e3k : List ByteArray) (e3v : List Bool) (k2 : Int → Prop) (s40 : List TNote) (s41 : Int) (h0_0 : Bool) (h0_1 : Int) (h0_2 : Int) (h0_3 : List TQuestion) (h4_0 : Int) (h4_1 : Int) (h4_2 : List Int) (h4_3 : List Int) (h4_4 : List Int) (h4_5 : Int) (h4_6 : Int) (h4_7 : Int) (h4_8 : Int) (h4_9 : Int) (h5_0 : List TSpent) (h5_1 : List TNote) (h5_2 : Int) (g1k : List ByteArray) (g1v : List Int) (g2k : List ByteArray) (g2v : List (List Int)) (g3k : List ByteArray) (g3v : List Bool) (s42 : Int) : Prop :=
(decide (s42 < s41) = true →
(0 ≤ s42) ∧ s42 < (s40.length : Int) ∧ (NR (ix s40 s42) ∧ OrOk g1k g1v h0_3) ∧ let r2 : Int := ((commP (pk h0_0 h0_3 g1k g1v) (ix s40 s42)).getD 0)
 let r3 : Bool := ((commP (pk h0_0 h0_3 g1k g1v) (ix s40 s42)).isSome)
((!r3) = true →
 1 = r0 ∧ h0_0 = d0_0 ∧ h0_1 = d0_1 ∧ h0_2 = d0_2 ∧ h0_3 = d0_3 ∧ g1k = e1k ∧ g1v = e1v ∧ g2k = e2k ∧ g2v = e2v ∧ g3k = e3k ∧ g3v = e3v) ∧
((!r3) = false →
(0 ≤ s42) ∧ s42 < (h4_3.length : Int) ∧ ((r2 != (ix h4_3 s42)) = true →
 1 = r0 ∧ h0_0 = d0_0 ∧ h0_1 = d0_1 ∧ h0_2 = d0_2 ∧ h0_3 = d0_3 ∧ g1k = e1k ∧ g1v = e1v ∧ g2k = e2k ∧ g2v = e2v ∧ g3k = e3k ∧ g3v = e3v) ∧
((r2 != (ix h4_3 s42)) = false →
(0 ≤ s42) ∧ s42 < (h4_4.length : Int) ∧ ((((ix s40 s42).Rho) != (ix h4_4 s42)) = true →
 1 = r0 ∧ h0_0 = d0_0 ∧ h0_1 = d0_1 ∧ h0_2 = d0_2 ∧ h0_3 = d0_3 ∧ g1k = e1k ∧ g1v = e1v ∧ g2k = e2k ∧ g2v = e2v ∧ g3k = e3k ∧ g3v = e3v) ∧
((((ix s40 s42).Rho) != (ix h4_4 s42)) = false →
 k2 (IntKind.i64.wrap (s42 + 1) : Int))))) ∧
(decide (s42 < s41) = false →
(decide (0 < h4_5) = true →
(U64 h5_2) ∧ ((h4_8 != (acctS h5_2)) = true →
 21 = r0 ∧ h0_0 = d0_0 ∧ h0_1 = d0_1 ∧ h0_2 = d0_2 ∧ h0_3 = d0_3 ∧ g1k = e1k ∧ g1v = e1v ∧ g2k = e2k ∧ g2v = e2v ∧ g3k = e3k ∧ g3v = e3v) ∧
((h4_8 != (acctS h5_2)) = false →
 k5z (r0, d0_0, d0_1, d0_2, d0_3, e1k, e1v, e2k, e2v, e3k, e3v, ()) (h0_0, h0_1, h0_2, h0_3, h4_0, h4_1, h4_2, h4_3, h4_4, h4_5, h4_6, h4_7, h4_8, h4_9, h5_0, h5_1, h5_2, g1k, g1v, g2k, g2v, g3k, g3v, ()))) ∧
(decide (0 < h4_5) = false →
 k5z (r0, d0_0, d0_1, d0_2, d0_3, e1k, e1v, e2k, e2v, e3k, e3v, ()) (h0_0, h0_1, h0_2, h0_3, h4_0, h4_1, h4_2, h4_3, h4_4, h4_5, h4_6, h4_7, h4_8, h4_9, h5_0, h5_1, h5_2, g1k, g1v, g2k, g2v, g3k, g3v, ())))
theorem k132 {r0 : Int} {d0_0 : Bool} {d0_1 : Int} {d0_2 : Int} {d0_3 : List TQuestion} {e1k : List ByteArray} {e1v : List Int} {e2k : List ByteArray} {e2v : List (List Int)} {e3k : List ByteArray} {e3v : List Bool} {s40 : List TNote} {s41 : Int} {h0_0 : Bool} {h0_1 : Int} {h0_2 : Int} {h0_3 : List TQuestion} {h4_0 : Int} {h4_1 : Int} {h4_2 : List Int} {h4_3 : List Int} {h4_4 : List Int} {h4_5 : Int} {h4_6 : Int} {h4_7 : Int} {h4_8 : Int} {h4_9 : Int} {h5_0 : List TSpent} {h5_1 : List TNote} {h5_2 : Int} {g1k : List ByteArray} {g1v : List Int} {g2k : List ByteArray} {g2v : List (List Int)} {g3k : List ByteArray} {g3v : List Bool} {s42 : Int} (inv : Int → Prop) (μ : Int → Nat) (h0 : inv s42) (hs : ∀ (s42 : Int), inv s42 → kqa r0 d0_0 d0_1 d0_2 d0_3 e1k e1v e2k e2v e3k e3v (fun s42q => inv s42q ∧ μ s42q < μ s42) s40 s41 h0_0 h0_1 h0_2 h0_3 h4_0 h4_1 h4_2 h4_3 h4_4 h4_5 h4_6 h4_7 h4_8 h4_9 h5_0 h5_1 h5_2 g1k g1v g2k g2v g3k g3v s42) : Md.Loop (s40, s41, s42, h0_0, h0_1, h0_2, h0_3, h4_0, h4_1, h4_2, h4_3, h4_4, h4_5, h4_6, h4_7, h4_8, h4_9, h5_0, h5_1, h5_2, g1k, g1v, g2k, g2v, g3k, g3v, ()) (k99 (r0, d0_0, d0_1, d0_2, d0_3, e1k, e1v, e2k, e2v, e3k, e3v, ())) :=
 ⟨⟨fun s : (List TNote) × Int × Int × Bool × Int × Int × (List TQuestion) × Int × Int × (List Int) × (List Int) × (List Int) × Int × Int × Int × Int × Int × (List TSpent) × (List TNote) × Int × (List ByteArray) × (List Int) × (List ByteArray) × (List (List Int)) × (List ByteArray) × (List Bool) × Unit => (s.1 = s40 ∧ s.2.1 = s41 ∧ s.2.2.2.1 = h0_0 ∧ s.2.2.2.2.1 = h0_1 ∧ s.2.2.2.2.2.1 = h0_2 ∧ s.2.2.2.2.2.2.1 = h0_3 ∧ s.2.2.2.2.2.2.2.1 = h4_0 ∧ s.2.2.2.2.2.2.2.2.1 = h4_1 ∧ s.2.2.2.2.2.2.2.2.2.1 = h4_2 ∧ s.2.2.2.2.2.2.2.2.2.2.1 = h4_3 ∧ s.2.2.2.2.2.2.2.2.2.2.2.1 = h4_4 ∧ s.2.2.2.2.2.2.2.2.2.2.2.2.1 = h4_5 ∧ s.2.2.2.2.2.2.2.2.2.2.2.2.2.1 = h4_6 ∧ s.2.2.2.2.2.2.2.2.2.2.2.2.2.2.1 = h4_7 ∧ s.2.2.2.2.2.2.2.2.2.2.2.2.2.2.2.1 = h4_8 ∧ s.2.2.2.2.2.2.2.2.2.2.2.2.2.2.2.2.1 = h4_9 ∧ s.2.2.2.2.2.2.2.2.2.2.2.2.2.2.2.2.2.1 = h5_0 ∧ s.2.2.2.2.2.2.2.2.2.2.2.2.2.2.2.2.2.2.1 = h5_1 ∧ s.2.2.2.2.2.2.2.2.2.2.2.2.2.2.2.2.2.2.2.1 = h5_2 ∧ s.2.2.2.2.2.2.2.2.2.2.2.2.2.2.2.2.2.2.2.2.1 = g1k ∧ s.2.2.2.2.2.2.2.2.2.2.2.2.2.2.2.2.2.2.2.2.2.1 = g1v ∧ s.2.2.2.2.2.2.2.2.2.2.2.2.2.2.2.2.2.2.2.2.2.2.1 = g2k ∧ s.2.2.2.2.2.2.2.2.2.2.2.2.2.2.2.2.2.2.2.2.2.2.2.1 = g2v ∧ s.2.2.2.2.2.2.2.2.2.2.2.2.2.2.2.2.2.2.2.2.2.2.2.2.1 = g3k ∧ s.2.2.2.2.2.2.2.2.2.2.2.2.2.2.2.2.2.2.2.2.2.2.2.2.2.1 = g3v) ∧ inv s.2.2.1, fun s : (List TNote) × Int × Int × Bool × Int × Int × (List TQuestion) × Int × Int × (List Int) × (List Int) × (List Int) × Int × Int × Int × Int × Int × (List TSpent) × (List TNote) × Int × (List ByteArray) × (List Int) × (List ByteArray) × (List (List Int)) × (List ByteArray) × (List Bool) × Unit => μ s.2.2.1, ⟨⟨rfl, rfl, rfl, rfl, rfl, rfl, rfl, rfl, rfl, rfl, rfl, rfl, rfl, rfl, rfl, rfl, rfl, rfl, rfl, rfl, rfl, rfl, rfl, rfl, rfl⟩, h0⟩, fun (s40p, s41p, s42p, h0_0p, h0_1p, h0_2p, h0_3p, h4_0p, h4_1p, h4_2p, h4_3p, h4_4p, h4_5p, h4_6p, h4_7p, h4_8p, h4_9p, h5_0p, h5_1p, h5_2p, g1kp, g1vp, g2kp, g2vp, g3kp, g3vp, ()) ⟨⟨eq0, eq1, eq2, eq3, eq4, eq5, eq6, eq7, eq8, eq9, eq10, eq11, eq12, eq13, eq14, eq15, eq16, eq17, eq18, eq19, eq20, eq21, eq22, eq23, eq24⟩, hi⟩ => by
  have eq0 : s40p = s40 := eq0; subst s40p; have eq1 : s41p = s41 := eq1; subst s41p; have eq2 : h0_0p = h0_0 := eq2; subst h0_0p; have eq3 : h0_1p = h0_1 := eq3; subst h0_1p; have eq4 : h0_2p = h0_2 := eq4; subst h0_2p; have eq5 : h0_3p = h0_3 := eq5; subst h0_3p; have eq6 : h4_0p = h4_0 := eq6; subst h4_0p; have eq7 : h4_1p = h4_1 := eq7; subst h4_1p; have eq8 : h4_2p = h4_2 := eq8; subst h4_2p; have eq9 : h4_3p = h4_3 := eq9; subst h4_3p; have eq10 : h4_4p = h4_4 := eq10; subst h4_4p; have eq11 : h4_5p = h4_5 := eq11; subst h4_5p; have eq12 : h4_6p = h4_6 := eq12; subst h4_6p; have eq13 : h4_7p = h4_7 := eq13; subst h4_7p; have eq14 : h4_8p = h4_8 := eq14; subst h4_8p; have eq15 : h4_9p = h4_9 := eq15; subst h4_9p; have eq16 : h5_0p = h5_0 := eq16; subst h5_0p; have eq17 : h5_1p = h5_1 := eq17; subst h5_1p; have eq18 : h5_2p = h5_2 := eq18; subst h5_2p; have eq19 : g1kp = g1k := eq19; subst g1kp; have eq20 : g1vp = g1v := eq20; subst g1vp; have eq21 : g2kp = g2k := eq21; subst g2kp; have eq22 : g2vp = g2v := eq22; subst g2vp; have eq23 : g3kp = g3k := eq23; subst g3kp; have eq24 : g3vp = g3v := eq24; subst g3vp; exact mpr_of (by kernel_rfl) ((congrArg (fun k => kqa r0 d0_0 d0_1 d0_2 d0_3 e1k e1v e2k e2v e3k e3v k s40 s41 h0_0 h0_1 h0_2 h0_3 h4_0 h4_1 h4_2 h4_3 h4_4 h4_5 h4_6 h4_7 h4_8 h4_9 h5_0 h5_1 h5_2 g1k g1v g2k g2v g3k g3v s42p) (lpk1 (⟨rfl, rfl, rfl, rfl, rfl, rfl, rfl, rfl, rfl, rfl, rfl, rfl, rfl, rfl, rfl, rfl, rfl, rfl, rfl, rfl, rfl, rfl, rfl, rfl, rfl⟩ : s40 = s40 ∧ s41 = s41 ∧ h0_0 = h0_0 ∧ h0_1 = h0_1 ∧ h0_2 = h0_2 ∧ h0_3 = h0_3 ∧ h4_0 = h4_0 ∧ h4_1 = h4_1 ∧ h4_2 = h4_2 ∧ h4_3 = h4_3 ∧ h4_4 = h4_4 ∧ h4_5 = h4_5 ∧ h4_6 = h4_6 ∧ h4_7 = h4_7 ∧ h4_8 = h4_8 ∧ h4_9 = h4_9 ∧ h5_0 = h5_0 ∧ h5_1 = h5_1 ∧ h5_2 = h5_2 ∧ g1k = g1k ∧ g1v = g1v ∧ g2k = g2k ∧ g2v = g2v ∧ g3k = g3k ∧ g3v = g3v) inv (fun s42q => μ s42q < μ s42p))).mpr (hs s42p hi))⟩⟩
theorem bd15 : Callable Try.prog 15 := ⟨by rw [Try.func15]; kernel_rfl, by rw [Try.func15]; show some _ ≠ some _; decide⟩
theorem k11e (p1 : TStatement) (p2 : TWitness) (c0_0 : Bool) (c0_1 : Int) (c0_2 : Int) (c0_3 : List TQuestion) (w1k : List ByteArray) (w1v : List Int) (w2k : List ByteArray) (w2v : List (List Int)) (w3k : List ByteArray) (w3v : List Bool) (h : SR p1 ∧ WR p2 ∧ OrOk w1k w1v c0_3 ∧ (∀ l a, (pk c0_0 c0_3 w1k w1v) l a = none ∨ ∃ n, (pk c0_0 c0_3 w1k w1v) l a = some n ∧ U64 n)) : kem (p1.Depth, p1.Anchor, p1.Marks, p1.Commits, p1.Rhos, p1.Deposit, p1.Withdraw, p1.Fee, p1.Account, p1.Bind, p2.Ins, p2.Outs, p2.Secret, c0_0, c0_1, c0_2, c0_3, w1k, w1v, w2k, w2v, w3k, w3v, ()) (((checkS (pk c0_0 c0_3 w1k w1v) p1 p2) : Int), (c0_0 : Bool), (c0_1 : Int), (c0_2 : Int), (c0_3 : List TQuestion), (w1k : List ByteArray), (w1v : List Int), (w2k : List ByteArray), (w2v : List (List Int)), (w3k : List ByteArray), (w3v : List Bool), ()) := by
 obtain ⟨hs, hw, ho, hu⟩ := h
 refine k16e ⟨⟨hs, hw⟩, fun e => ?_, fun e => ?_⟩
 ·have e : relV p1 p2 = false := by simpa using e
  unfold checkS
  rw [if_pos e]
  (repeat' apply And.intro) <;> first | rfl | exact True.intro
 have e : relV p1 p2 = true := by simpa using e
 have hv : p2.Ins.length = p1.Marks.length ∧ p2.Outs.length = p1.Commits.length ∧ p2.Outs.length = p1.Rhos.length := by
  unfold relV at e
  simp only [Bool.and_eq_true, decide_eq_true_eq] at e
  exact ⟨e.1.1.1.1.1.1.2, e.1.1.1.1.2, e.1.1.1.2⟩
 obtain ⟨v1, v2, v3⟩ := hv
 have hil := hw.il
 have hol := hw.ol
 refine k13a (fun i => (0 ≤ i ∧ i ≤ p2.Ins.length ∧ insE (pk c0_0 c0_3 w1k w1v) p1.Anchor (p2.Ins.drop i.toNat) (p1.Marks.drop i.toNat) = insE (pk c0_0 c0_3 w1k w1v) p1.Anchor p2.Ins p1.Marks)) (fun i => (p2.Ins.length - i).toNat) ⟨by omega, by omega, rfl⟩ ?_
 rintro i ⟨g0, g1, g2⟩
 refine ⟨fun hh => ?_, fun hh => ?_⟩
 ·have hh := of_decide_eq_true hh
  have hp := hw.i _ (ix_mem p2.Ins i g0 hh)
  have hd := drop_ix p2.Ins i g0 hh
  have hd2 := drop_ix p1.Marks i g0 (by omega)
  rw [hd, hd2] at g2
  have g2 : (if inE (pk c0_0 c0_3 w1k w1v) p1.Anchor (ix p1.Marks i) (ix p2.Ins i) ≠ 0 then inE (pk c0_0 c0_3 w1k w1v) p1.Anchor (ix p1.Marks i) (ix p2.Ins i) else insE (pk c0_0 c0_3 w1k w1v) p1.Anchor (p2.Ins.drop (i + 1).toNat) (p1.Marks.drop (i + 1).toNat)) = insE (pk c0_0 c0_3 w1k w1v) p1.Anchor p2.Ins p1.Marks := g2
  have nx := inc i p2.Ins.length g0 hh (by omega)
  refine ⟨g0, hh, g0, by omega, ⟨hp, ho, hu⟩, ?_⟩
  simp only [k1nh]
  refine ⟨fun e2 => ?_, fun e2 => ?_⟩
  ·have e2 : inE (pk c0_0 c0_3 w1k w1v) p1.Anchor (ix p1.Marks i) (ix p2.Ins i) ≠ 0 := by simpa using e2
   rw [if_pos e2] at g2
   refine ⟨?_, by (repeat' apply And.intro) <;> first | rfl | exact True.intro⟩
   have g2 : _ = insE (pk c0_0 c0_3 w1k w1v) p1.Anchor p2.Ins p1.Marks := g2
   unfold checkS
   rw [if_neg (by simp [e]), if_pos (by rw [← g2]; exact e2), ← g2]
  ·have e2 : inE (pk c0_0 c0_3 w1k w1v) p1.Anchor (ix p1.Marks i) (ix p2.Ins i) = 0 := by simpa using e2
   rw [if_neg (by simp [e2])] at g2
   rw [nx]
   exact ⟨⟨by omega, by omega, g2⟩, by omega⟩
 ·have hh := of_decide_eq_false hh
  rw [List.drop_eq_nil_of_le (by omega)] at g2
  have g2 : 0 = insE (pk c0_0 c0_3 w1k w1v) p1.Anchor p2.Ins p1.Marks := g2
  have hck : checkS (pk c0_0 c0_3 w1k w1v) p1 p2 = if outsB (pk c0_0 c0_3 w1k w1v) p2.Outs p1.Commits p1.Rhos = false then 1 else if 0 < p1.Deposit ∧ p1.Account ≠ acctS p2.Secret then 21 else
    if (inS p2.Ins + p1.Deposit) % 18446744073709551616 ≠ ((outS p2.Outs + p1.Withdraw) % 18446744073709551616 + p1.Fee) % 18446744073709551616 then 13 else 0 := by
   conv => lhs; unfold checkS
   rw [if_neg (by simp [e]), if_neg (by rw [← g2]; simp)]
  rw [hck]
  refine k132 (fun i => (0 ≤ i ∧ i ≤ p2.Outs.length ∧ outsB (pk c0_0 c0_3 w1k w1v) (p2.Outs.drop i.toNat) (p1.Commits.drop i.toNat) (p1.Rhos.drop i.toNat) = outsB (pk c0_0 c0_3 w1k w1v) p2.Outs p1.Commits p1.Rhos)) (fun i => (p2.Outs.length - i).toNat) ⟨by omega, by omega, rfl⟩ ?_
  rintro k ⟨k0, k1, k2⟩
  refine ⟨fun hk => ?_, fun hk => ?_⟩
  ·have hk := of_decide_eq_true hk
   have hp := hw.o _ (ix_mem p2.Outs k k0 hk)
   rw [drop_ix p2.Outs k k0 hk, drop_ix p1.Commits k k0 (by omega), drop_ix p1.Rhos k k0 (by omega)] at k2
   have k2 : (outB (pk c0_0 c0_3 w1k w1v) (ix p2.Outs k) (ix p1.Commits k) (ix p1.Rhos k) && outsB (pk c0_0 c0_3 w1k w1v) (p2.Outs.drop (k + 1).toNat) (p1.Commits.drop (k + 1).toNat) (p1.Rhos.drop (k + 1).toNat)) = outsB (pk c0_0 c0_3 w1k w1v) p2.Outs p1.Commits p1.Rhos := k2
   have nx := inc k p2.Outs.length k0 hk (by omega)
   have bad : outB (pk c0_0 c0_3 w1k w1v) (ix p2.Outs k) (ix p1.Commits k) (ix p1.Rhos k) = false → outsB (pk c0_0 c0_3 w1k w1v) p2.Outs p1.Commits p1.Rhos = false := fun hb => by rw [hb] at k2; exact k2.symm
   refine ⟨k0, hk, ⟨hp, ho⟩, ?_⟩
   simp only [k13o]
   refine ⟨fun e3 => ?_, fun e3 => ⟨k0, by omega, fun e4 => ?_, fun e4 => ⟨k0, by omega, fun e5 => ?_, fun e5 => ?_⟩⟩⟩
   ·rw [if_pos (bad (by unfold outB; rw [show (commP (pk c0_0 c0_3 w1k w1v) (ix p2.Outs k)).isSome = false by simpa using e3]; rfl))]
    (repeat' apply And.intro) <;> first | rfl | exact True.intro
   ·rw [if_pos (bad (by
     have e4 : ¬ (commP (pk c0_0 c0_3 w1k w1v) (ix p2.Outs k)).getD 0 = ix p1.Commits k := by simpa using e4
     simp [outB, e4]))]
    (repeat' apply And.intro) <;> first | rfl | exact True.intro
   ·rw [if_pos (bad (by
     have e5 : ¬ (ix p2.Outs k).Rho = ix p1.Rhos k := by simpa using e5
     simp [outB, e5]))]
    (repeat' apply And.intro) <;> first | rfl | exact True.intro
   ·have e3 : (commP (pk c0_0 c0_3 w1k w1v) (ix p2.Outs k)).isSome = true := by simpa using e3
    have e4 : (commP (pk c0_0 c0_3 w1k w1v) (ix p2.Outs k)).getD 0 = ix p1.Commits k := by simpa using e4
    have e5 : (ix p2.Outs k).Rho = ix p1.Rhos k := by simpa using e5
    have hb : outB (pk c0_0 c0_3 w1k w1v) (ix p2.Outs k) (ix p1.Commits k) (ix p1.Rhos k) = true := by simp [outB, e3, e4, e5]
    rw [hb, Bool.true_and] at k2
    rw [nx]
    exact ⟨⟨by omega, by omega, k2⟩, by omega⟩
  ·have hk := of_decide_eq_false hk
   rw [List.drop_eq_nil_of_le (by omega)] at k2
   have k2 : true = outsB (pk c0_0 c0_3 w1k w1v) p2.Outs p1.Commits p1.Rhos := k2
   rw [← k2]
   have j1 : ∀ r : Int, (r = if (inS p2.Ins + p1.Deposit) % 18446744073709551616 ≠ ((outS p2.Outs + p1.Withdraw) % 18446744073709551616 + p1.Fee) % 18446744073709551616 then 13 else 0) → k5z (r, c0_0, c0_1, c0_2, c0_3, w1k, w1v, w2k, w2v, w3k, w3v, ()) (c0_0, c0_1, c0_2, c0_3, p1.Depth, p1.Anchor, p1.Marks, p1.Commits, p1.Rhos, p1.Deposit, p1.Withdraw, p1.Fee, p1.Account, p1.Bind, p2.Ins, p2.Outs, p2.Secret, w1k, w1v, w2k, w2v, w3k, w3v, ()) := by
    intro r hr
    refine ky7 ⟨by show p2.Ins.length ≤ _; omega, by show p2.Outs.length ≤ _; omega, ?_⟩
    simp only [u64w]
    refine ⟨fun hb => ?_, fun hb => ?_⟩
    ·rw [hr, if_pos (by simpa using hb)]
     (repeat' apply And.intro) <;> first | rfl | exact True.intro
    ·rw [hr, if_neg (by simpa using hb)]
     (repeat' apply And.intro) <;> first | rfl | exact True.intro
   rw [if_neg (by simp)]
   refine ⟨fun hd => ⟨hw.s, fun ha => ?_, fun ha => j1 _ ?_⟩, fun hd => j1 _ ?_⟩
   ·have ha : ¬ p1.Account = acctS p2.Secret := by simpa using ha
    rw [if_pos ⟨of_decide_eq_true hd, ha⟩]
    (repeat' apply And.intro) <;> first | rfl | exact True.intro
   ·have ha : p1.Account = acctS p2.Secret := by simpa using ha
    rw [if_neg (fun h => h.2 ha)]
   ·rw [if_neg (fun h => of_decide_eq_false hd h.1)]
def knw : Con TB.den := ky.fnR (fun x => (fun (p1 : TStatement) (p2 : TWitness) (c0_0 : Bool) (c0_1 : Int) (c0_2 : Int) (c0_3 : List TQuestion) (w1k : List ByteArray) (w1v : List Int) (w2k : List ByteArray) (w2v : List (List Int)) (w3k : List ByteArray) (w3v : List Bool) => SR p1 ∧ WR p2 ∧ OrOk w1k w1v c0_3 ∧ (∀ l a, (pk c0_0 c0_3 w1k w1v) l a = none ∨ ∃ n, (pk c0_0 c0_3 w1k w1v) l a = some n ∧ U64 n)) (TStatement.mk x.1 x.2.1 x.2.2.1 x.2.2.2.1 x.2.2.2.2.1 x.2.2.2.2.2.1 x.2.2.2.2.2.2.1 x.2.2.2.2.2.2.2.1 x.2.2.2.2.2.2.2.2.1 x.2.2.2.2.2.2.2.2.2.1) (TWitness.mk x.2.2.2.2.2.2.2.2.2.2.1 x.2.2.2.2.2.2.2.2.2.2.2.1 x.2.2.2.2.2.2.2.2.2.2.2.2.1) x.2.2.2.2.2.2.2.2.2.2.2.2.2.1 x.2.2.2.2.2.2.2.2.2.2.2.2.2.2.1 x.2.2.2.2.2.2.2.2.2.2.2.2.2.2.2.1 x.2.2.2.2.2.2.2.2.2.2.2.2.2.2.2.2.1 x.2.2.2.2.2.2.2.2.2.2.2.2.2.2.2.2.2.1 x.2.2.2.2.2.2.2.2.2.2.2.2.2.2.2.2.2.2.1 x.2.2.2.2.2.2.2.2.2.2.2.2.2.2.2.2.2.2.2.1 x.2.2.2.2.2.2.2.2.2.2.2.2.2.2.2.2.2.2.2.2.1 x.2.2.2.2.2.2.2.2.2.2.2.2.2.2.2.2.2.2.2.2.2.1 x.2.2.2.2.2.2.2.2.2.2.2.2.2.2.2.2.2.2.2.2.2.2.1) fun x => ((fun (p1 : TStatement) (p2 : TWitness) (c0_0 : Bool) (c0_1 : Int) (c0_2 : Int) (c0_3 : List TQuestion) (w1k : List ByteArray) (w1v : List Int) (w2k : List ByteArray) (w2v : List (List Int)) (w3k : List ByteArray) (w3v : List Bool) => ((checkS (pk c0_0 c0_3 w1k w1v) p1 p2) : Int)) (TStatement.mk x.1 x.2.1 x.2.2.1 x.2.2.2.1 x.2.2.2.2.1 x.2.2.2.2.2.1 x.2.2.2.2.2.2.1 x.2.2.2.2.2.2.2.1 x.2.2.2.2.2.2.2.2.1 x.2.2.2.2.2.2.2.2.2.1) (TWitness.mk x.2.2.2.2.2.2.2.2.2.2.1 x.2.2.2.2.2.2.2.2.2.2.2.1 x.2.2.2.2.2.2.2.2.2.2.2.2.1) x.2.2.2.2.2.2.2.2.2.2.2.2.2.1 x.2.2.2.2.2.2.2.2.2.2.2.2.2.2.1 x.2.2.2.2.2.2.2.2.2.2.2.2.2.2.2.1 x.2.2.2.2.2.2.2.2.2.2.2.2.2.2.2.2.1 x.2.2.2.2.2.2.2.2.2.2.2.2.2.2.2.2.2.1 x.2.2.2.2.2.2.2.2.2.2.2.2.2.2.2.2.2.2.1 x.2.2.2.2.2.2.2.2.2.2.2.2.2.2.2.2.2.2.2.1 x.2.2.2.2.2.2.2.2.2.2.2.2.2.2.2.2.2.2.2.2.1 x.2.2.2.2.2.2.2.2.2.2.2.2.2.2.2.2.2.2.2.2.2.1 x.2.2.2.2.2.2.2.2.2.2.2.2.2.2.2.2.2.2.2.2.2.2.1, (fun (p1 : TStatement) (p2 : TWitness) (c0_0 : Bool) (c0_1 : Int) (c0_2 : Int) (c0_3 : List TQuestion) (w1k : List ByteArray) (w1v : List Int) (w2k : List ByteArray) (w2v : List (List Int)) (w3k : List ByteArray) (w3v : List Bool) => (c0_0 : Bool)) (TStatement.mk x.1 x.2.1 x.2.2.1 x.2.2.2.1 x.2.2.2.2.1 x.2.2.2.2.2.1 x.2.2.2.2.2.2.1 x.2.2.2.2.2.2.2.1 x.2.2.2.2.2.2.2.2.1 x.2.2.2.2.2.2.2.2.2.1) (TWitness.mk x.2.2.2.2.2.2.2.2.2.2.1 x.2.2.2.2.2.2.2.2.2.2.2.1 x.2.2.2.2.2.2.2.2.2.2.2.2.1) x.2.2.2.2.2.2.2.2.2.2.2.2.2.1 x.2.2.2.2.2.2.2.2.2.2.2.2.2.2.1 x.2.2.2.2.2.2.2.2.2.2.2.2.2.2.2.1 x.2.2.2.2.2.2.2.2.2.2.2.2.2.2.2.2.1 x.2.2.2.2.2.2.2.2.2.2.2.2.2.2.2.2.2.1 x.2.2.2.2.2.2.2.2.2.2.2.2.2.2.2.2.2.2.1 x.2.2.2.2.2.2.2.2.2.2.2.2.2.2.2.2.2.2.2.1 x.2.2.2.2.2.2.2.2.2.2.2.2.2.2.2.2.2.2.2.2.1 x.2.2.2.2.2.2.2.2.2.2.2.2.2.2.2.2.2.2.2.2.2.1 x.2.2.2.2.2.2.2.2.2.2.2.2.2.2.2.2.2.2.2.2.2.2.1, (fun (p1 : TStatement) (p2 : TWitness) (c0_0 : Bool) (c0_1 : Int) (c0_2 : Int) (c0_3 : List TQuestion) (w1k : List ByteArray) (w1v : List Int) (w2k : List ByteArray) (w2v : List (List Int)) (w3k : List ByteArray) (w3v : List Bool) => (c0_1 : Int)) (TStatement.mk x.1 x.2.1 x.2.2.1 x.2.2.2.1 x.2.2.2.2.1 x.2.2.2.2.2.1 x.2.2.2.2.2.2.1 x.2.2.2.2.2.2.2.1 x.2.2.2.2.2.2.2.2.1 x.2.2.2.2.2.2.2.2.2.1) (TWitness.mk x.2.2.2.2.2.2.2.2.2.2.1 x.2.2.2.2.2.2.2.2.2.2.2.1 x.2.2.2.2.2.2.2.2.2.2.2.2.1) x.2.2.2.2.2.2.2.2.2.2.2.2.2.1 x.2.2.2.2.2.2.2.2.2.2.2.2.2.2.1 x.2.2.2.2.2.2.2.2.2.2.2.2.2.2.2.1 x.2.2.2.2.2.2.2.2.2.2.2.2.2.2.2.2.1 x.2.2.2.2.2.2.2.2.2.2.2.2.2.2.2.2.2.1 x.2.2.2.2.2.2.2.2.2.2.2.2.2.2.2.2.2.2.1 x.2.2.2.2.2.2.2.2.2.2.2.2.2.2.2.2.2.2.2.1 x.2.2.2.2.2.2.2.2.2.2.2.2.2.2.2.2.2.2.2.2.1 x.2.2.2.2.2.2.2.2.2.2.2.2.2.2.2.2.2.2.2.2.2.1 x.2.2.2.2.2.2.2.2.2.2.2.2.2.2.2.2.2.2.2.2.2.2.1, (fun (p1 : TStatement) (p2 : TWitness) (c0_0 : Bool) (c0_1 : Int) (c0_2 : Int) (c0_3 : List TQuestion) (w1k : List ByteArray) (w1v : List Int) (w2k : List ByteArray) (w2v : List (List Int)) (w3k : List ByteArray) (w3v : List Bool) => (c0_2 : Int)) (TStatement.mk x.1 x.2.1 x.2.2.1 x.2.2.2.1 x.2.2.2.2.1 x.2.2.2.2.2.1 x.2.2.2.2.2.2.1 x.2.2.2.2.2.2.2.1 x.2.2.2.2.2.2.2.2.1 x.2.2.2.2.2.2.2.2.2.1) (TWitness.mk x.2.2.2.2.2.2.2.2.2.2.1 x.2.2.2.2.2.2.2.2.2.2.2.1 x.2.2.2.2.2.2.2.2.2.2.2.2.1) x.2.2.2.2.2.2.2.2.2.2.2.2.2.1 x.2.2.2.2.2.2.2.2.2.2.2.2.2.2.1 x.2.2.2.2.2.2.2.2.2.2.2.2.2.2.2.1 x.2.2.2.2.2.2.2.2.2.2.2.2.2.2.2.2.1 x.2.2.2.2.2.2.2.2.2.2.2.2.2.2.2.2.2.1 x.2.2.2.2.2.2.2.2.2.2.2.2.2.2.2.2.2.2.1 x.2.2.2.2.2.2.2.2.2.2.2.2.2.2.2.2.2.2.2.1 x.2.2.2.2.2.2.2.2.2.2.2.2.2.2.2.2.2.2.2.2.1 x.2.2.2.2.2.2.2.2.2.2.2.2.2.2.2.2.2.2.2.2.2.1 x.2.2.2.2.2.2.2.2.2.2.2.2.2.2.2.2.2.2.2.2.2.2.1, (fun (p1 : TStatement) (p2 : TWitness) (c0_0 : Bool) (c0_1 : Int) (c0_2 : Int) (c0_3 : List TQuestion) (w1k : List ByteArray) (w1v : List Int) (w2k : List ByteArray) (w2v : List (List Int)) (w3k : List ByteArray) (w3v : List Bool) => (c0_3 : List TQuestion)) (TStatement.mk x.1 x.2.1 x.2.2.1 x.2.2.2.1 x.2.2.2.2.1 x.2.2.2.2.2.1 x.2.2.2.2.2.2.1 x.2.2.2.2.2.2.2.1 x.2.2.2.2.2.2.2.2.1 x.2.2.2.2.2.2.2.2.2.1) (TWitness.mk x.2.2.2.2.2.2.2.2.2.2.1 x.2.2.2.2.2.2.2.2.2.2.2.1 x.2.2.2.2.2.2.2.2.2.2.2.2.1) x.2.2.2.2.2.2.2.2.2.2.2.2.2.1 x.2.2.2.2.2.2.2.2.2.2.2.2.2.2.1 x.2.2.2.2.2.2.2.2.2.2.2.2.2.2.2.1 x.2.2.2.2.2.2.2.2.2.2.2.2.2.2.2.2.1 x.2.2.2.2.2.2.2.2.2.2.2.2.2.2.2.2.2.1 x.2.2.2.2.2.2.2.2.2.2.2.2.2.2.2.2.2.2.1 x.2.2.2.2.2.2.2.2.2.2.2.2.2.2.2.2.2.2.2.1 x.2.2.2.2.2.2.2.2.2.2.2.2.2.2.2.2.2.2.2.2.1 x.2.2.2.2.2.2.2.2.2.2.2.2.2.2.2.2.2.2.2.2.2.1 x.2.2.2.2.2.2.2.2.2.2.2.2.2.2.2.2.2.2.2.2.2.2.1, (fun (p1 : TStatement) (p2 : TWitness) (c0_0 : Bool) (c0_1 : Int) (c0_2 : Int) (c0_3 : List TQuestion) (w1k : List ByteArray) (w1v : List Int) (w2k : List ByteArray) (w2v : List (List Int)) (w3k : List ByteArray) (w3v : List Bool) => (w1k : List ByteArray)) (TStatement.mk x.1 x.2.1 x.2.2.1 x.2.2.2.1 x.2.2.2.2.1 x.2.2.2.2.2.1 x.2.2.2.2.2.2.1 x.2.2.2.2.2.2.2.1 x.2.2.2.2.2.2.2.2.1 x.2.2.2.2.2.2.2.2.2.1) (TWitness.mk x.2.2.2.2.2.2.2.2.2.2.1 x.2.2.2.2.2.2.2.2.2.2.2.1 x.2.2.2.2.2.2.2.2.2.2.2.2.1) x.2.2.2.2.2.2.2.2.2.2.2.2.2.1 x.2.2.2.2.2.2.2.2.2.2.2.2.2.2.1 x.2.2.2.2.2.2.2.2.2.2.2.2.2.2.2.1 x.2.2.2.2.2.2.2.2.2.2.2.2.2.2.2.2.1 x.2.2.2.2.2.2.2.2.2.2.2.2.2.2.2.2.2.1 x.2.2.2.2.2.2.2.2.2.2.2.2.2.2.2.2.2.2.1 x.2.2.2.2.2.2.2.2.2.2.2.2.2.2.2.2.2.2.2.1 x.2.2.2.2.2.2.2.2.2.2.2.2.2.2.2.2.2.2.2.2.1 x.2.2.2.2.2.2.2.2.2.2.2.2.2.2.2.2.2.2.2.2.2.1 x.2.2.2.2.2.2.2.2.2.2.2.2.2.2.2.2.2.2.2.2.2.2.1, (fun (p1 : TStatement) (p2 : TWitness) (c0_0 : Bool) (c0_1 : Int) (c0_2 : Int) (c0_3 : List TQuestion) (w1k : List ByteArray) (w1v : List Int) (w2k : List ByteArray) (w2v : List (List Int)) (w3k : List ByteArray) (w3v : List Bool) => (w1v : List Int)) (TStatement.mk x.1 x.2.1 x.2.2.1 x.2.2.2.1 x.2.2.2.2.1 x.2.2.2.2.2.1 x.2.2.2.2.2.2.1 x.2.2.2.2.2.2.2.1 x.2.2.2.2.2.2.2.2.1 x.2.2.2.2.2.2.2.2.2.1) (TWitness.mk x.2.2.2.2.2.2.2.2.2.2.1 x.2.2.2.2.2.2.2.2.2.2.2.1 x.2.2.2.2.2.2.2.2.2.2.2.2.1) x.2.2.2.2.2.2.2.2.2.2.2.2.2.1 x.2.2.2.2.2.2.2.2.2.2.2.2.2.2.1 x.2.2.2.2.2.2.2.2.2.2.2.2.2.2.2.1 x.2.2.2.2.2.2.2.2.2.2.2.2.2.2.2.2.1 x.2.2.2.2.2.2.2.2.2.2.2.2.2.2.2.2.2.1 x.2.2.2.2.2.2.2.2.2.2.2.2.2.2.2.2.2.2.1 x.2.2.2.2.2.2.2.2.2.2.2.2.2.2.2.2.2.2.2.1 x.2.2.2.2.2.2.2.2.2.2.2.2.2.2.2.2.2.2.2.2.1 x.2.2.2.2.2.2.2.2.2.2.2.2.2.2.2.2.2.2.2.2.2.1 x.2.2.2.2.2.2.2.2.2.2.2.2.2.2.2.2.2.2.2.2.2.2.1, (fun (p1 : TStatement) (p2 : TWitness) (c0_0 : Bool) (c0_1 : Int) (c0_2 : Int) (c0_3 : List TQuestion) (w1k : List ByteArray) (w1v : List Int) (w2k : List ByteArray) (w2v : List (List Int)) (w3k : List ByteArray) (w3v : List Bool) => (w2k : List ByteArray)) (TStatement.mk x.1 x.2.1 x.2.2.1 x.2.2.2.1 x.2.2.2.2.1 x.2.2.2.2.2.1 x.2.2.2.2.2.2.1 x.2.2.2.2.2.2.2.1 x.2.2.2.2.2.2.2.2.1 x.2.2.2.2.2.2.2.2.2.1) (TWitness.mk x.2.2.2.2.2.2.2.2.2.2.1 x.2.2.2.2.2.2.2.2.2.2.2.1 x.2.2.2.2.2.2.2.2.2.2.2.2.1) x.2.2.2.2.2.2.2.2.2.2.2.2.2.1 x.2.2.2.2.2.2.2.2.2.2.2.2.2.2.1 x.2.2.2.2.2.2.2.2.2.2.2.2.2.2.2.1 x.2.2.2.2.2.2.2.2.2.2.2.2.2.2.2.2.1 x.2.2.2.2.2.2.2.2.2.2.2.2.2.2.2.2.2.1 x.2.2.2.2.2.2.2.2.2.2.2.2.2.2.2.2.2.2.1 x.2.2.2.2.2.2.2.2.2.2.2.2.2.2.2.2.2.2.2.1 x.2.2.2.2.2.2.2.2.2.2.2.2.2.2.2.2.2.2.2.2.1 x.2.2.2.2.2.2.2.2.2.2.2.2.2.2.2.2.2.2.2.2.2.1 x.2.2.2.2.2.2.2.2.2.2.2.2.2.2.2.2.2.2.2.2.2.2.1, (fun (p1 : TStatement) (p2 : TWitness) (c0_0 : Bool) (c0_1 : Int) (c0_2 : Int) (c0_3 : List TQuestion) (w1k : List ByteArray) (w1v : List Int) (w2k : List ByteArray) (w2v : List (List Int)) (w3k : List ByteArray) (w3v : List Bool) => (w2v : List (List Int))) (TStatement.mk x.1 x.2.1 x.2.2.1 x.2.2.2.1 x.2.2.2.2.1 x.2.2.2.2.2.1 x.2.2.2.2.2.2.1 x.2.2.2.2.2.2.2.1 x.2.2.2.2.2.2.2.2.1 x.2.2.2.2.2.2.2.2.2.1) (TWitness.mk x.2.2.2.2.2.2.2.2.2.2.1 x.2.2.2.2.2.2.2.2.2.2.2.1 x.2.2.2.2.2.2.2.2.2.2.2.2.1) x.2.2.2.2.2.2.2.2.2.2.2.2.2.1 x.2.2.2.2.2.2.2.2.2.2.2.2.2.2.1 x.2.2.2.2.2.2.2.2.2.2.2.2.2.2.2.1 x.2.2.2.2.2.2.2.2.2.2.2.2.2.2.2.2.1 x.2.2.2.2.2.2.2.2.2.2.2.2.2.2.2.2.2.1 x.2.2.2.2.2.2.2.2.2.2.2.2.2.2.2.2.2.2.1 x.2.2.2.2.2.2.2.2.2.2.2.2.2.2.2.2.2.2.2.1 x.2.2.2.2.2.2.2.2.2.2.2.2.2.2.2.2.2.2.2.2.1 x.2.2.2.2.2.2.2.2.2.2.2.2.2.2.2.2.2.2.2.2.2.1 x.2.2.2.2.2.2.2.2.2.2.2.2.2.2.2.2.2.2.2.2.2.2.1, (fun (p1 : TStatement) (p2 : TWitness) (c0_0 : Bool) (c0_1 : Int) (c0_2 : Int) (c0_3 : List TQuestion) (w1k : List ByteArray) (w1v : List Int) (w2k : List ByteArray) (w2v : List (List Int)) (w3k : List ByteArray) (w3v : List Bool) => (w3k : List ByteArray)) (TStatement.mk x.1 x.2.1 x.2.2.1 x.2.2.2.1 x.2.2.2.2.1 x.2.2.2.2.2.1 x.2.2.2.2.2.2.1 x.2.2.2.2.2.2.2.1 x.2.2.2.2.2.2.2.2.1 x.2.2.2.2.2.2.2.2.2.1) (TWitness.mk x.2.2.2.2.2.2.2.2.2.2.1 x.2.2.2.2.2.2.2.2.2.2.2.1 x.2.2.2.2.2.2.2.2.2.2.2.2.1) x.2.2.2.2.2.2.2.2.2.2.2.2.2.1 x.2.2.2.2.2.2.2.2.2.2.2.2.2.2.1 x.2.2.2.2.2.2.2.2.2.2.2.2.2.2.2.1 x.2.2.2.2.2.2.2.2.2.2.2.2.2.2.2.2.1 x.2.2.2.2.2.2.2.2.2.2.2.2.2.2.2.2.2.1 x.2.2.2.2.2.2.2.2.2.2.2.2.2.2.2.2.2.2.1 x.2.2.2.2.2.2.2.2.2.2.2.2.2.2.2.2.2.2.2.1 x.2.2.2.2.2.2.2.2.2.2.2.2.2.2.2.2.2.2.2.2.1 x.2.2.2.2.2.2.2.2.2.2.2.2.2.2.2.2.2.2.2.2.2.1 x.2.2.2.2.2.2.2.2.2.2.2.2.2.2.2.2.2.2.2.2.2.2.1, (fun (p1 : TStatement) (p2 : TWitness) (c0_0 : Bool) (c0_1 : Int) (c0_2 : Int) (c0_3 : List TQuestion) (w1k : List ByteArray) (w1v : List Int) (w2k : List ByteArray) (w2v : List (List Int)) (w3k : List ByteArray) (w3v : List Bool) => (w3v : List Bool)) (TStatement.mk x.1 x.2.1 x.2.2.1 x.2.2.2.1 x.2.2.2.2.1 x.2.2.2.2.2.1 x.2.2.2.2.2.2.1 x.2.2.2.2.2.2.2.1 x.2.2.2.2.2.2.2.2.1 x.2.2.2.2.2.2.2.2.2.1) (TWitness.mk x.2.2.2.2.2.2.2.2.2.2.1 x.2.2.2.2.2.2.2.2.2.2.2.1 x.2.2.2.2.2.2.2.2.2.2.2.2.1) x.2.2.2.2.2.2.2.2.2.2.2.2.2.1 x.2.2.2.2.2.2.2.2.2.2.2.2.2.2.1 x.2.2.2.2.2.2.2.2.2.2.2.2.2.2.2.1 x.2.2.2.2.2.2.2.2.2.2.2.2.2.2.2.2.1 x.2.2.2.2.2.2.2.2.2.2.2.2.2.2.2.2.2.1 x.2.2.2.2.2.2.2.2.2.2.2.2.2.2.2.2.2.2.1 x.2.2.2.2.2.2.2.2.2.2.2.2.2.2.2.2.2.2.2.1 x.2.2.2.2.2.2.2.2.2.2.2.2.2.2.2.2.2.2.2.2.1 x.2.2.2.2.2.2.2.2.2.2.2.2.2.2.2.2.2.2.2.2.2.1 x.2.2.2.2.2.2.2.2.2.2.2.2.2.2.2.2.2.2.2.2.2.2.1, ())
theorem k15j : knw.Ok Try.prog TB := Con.ok_fn ky bd15 fun x h => k129 (k11e (TStatement.mk x.1 x.2.1 x.2.2.1 x.2.2.2.1 x.2.2.2.2.1 x.2.2.2.2.2.1 x.2.2.2.2.2.2.1 x.2.2.2.2.2.2.2.1 x.2.2.2.2.2.2.2.2.1 x.2.2.2.2.2.2.2.2.2.1) (TWitness.mk x.2.2.2.2.2.2.2.2.2.2.1 x.2.2.2.2.2.2.2.2.2.2.2.1 x.2.2.2.2.2.2.2.2.2.2.2.2.1) x.2.2.2.2.2.2.2.2.2.2.2.2.2.1 x.2.2.2.2.2.2.2.2.2.2.2.2.2.2.1 x.2.2.2.2.2.2.2.2.2.2.2.2.2.2.2.1 x.2.2.2.2.2.2.2.2.2.2.2.2.2.2.2.2.1 x.2.2.2.2.2.2.2.2.2.2.2.2.2.2.2.2.2.1 x.2.2.2.2.2.2.2.2.2.2.2.2.2.2.2.2.2.2.1 x.2.2.2.2.2.2.2.2.2.2.2.2.2.2.2.2.2.2.2.1 x.2.2.2.2.2.2.2.2.2.2.2.2.2.2.2.2.2.2.2.2.1 x.2.2.2.2.2.2.2.2.2.2.2.2.2.2.2.2.2.2.2.2.2.1 x.2.2.2.2.2.2.2.2.2.2.2.2.2.2.2.2.2.2.2.2.2.2.1 h)
def k5b : Con TB.den := Con.mk0 8 [] [] (.one (.one (.d (.bool)))) []
abbrev k17m := HL TB.den (hsT k5b.ins (hsOs k5b.pre))
abbrev knn := HL TB.den (hsV k5b.res (hsOs k5b.post))
def kga : Cx TB := ⟨inf, [ku0, kty, knw, kge, kel, kdg], [], 4, []⟩
def kmy : Code := Try.f8.body.getD .skip
def krz : List ResultVar := Try.f8.results.toList
def k151 (o : knn) : An TB := .no
def km1 (x : k17m) (o : knn) : Prop := WPh TB kga 44 0 kmy (k151 o) (k5b.st TB x) (retTQ TB kga k5b krz o)
theorem k1hn (o : knn) : OblH TB kga 44 0 kmy (k151 o) (retTQ TB kga k5b krz o) :=
 OblH.ofC (X := True) (by kernel_rfl) trivial
theorem k1i6 {x : k17m} {o : knn} (h : km1 x o) : k5b.Snd Try.prog x o :=
 Con.soundH (c := k5b) (C := kga) TBok ⟨inf_ok, (all_cons k1ek (all_cons k1ee (all_cons k15j (all_cons kqd (all_cons kon (all_cons kll all_nil)))))), all_nil⟩ mix Try.func8 (show Try.f8.body = some kmy by kernel_rfl) (show Try.f8.ntmps = 44 by kernel_rfl) (show Try.f8.results.toList = krz by kernel_rfl) rfl h (k1hn o)
theorem k1ke  {r0 : Bool} (h :
((U64 (2 : Int)) ∧ (U64 (1 : Int)) ∧ (SR (exS (2 : Int)) ∧ WR exW ∧ OrOk [] [] [] ∧ (∀ l a, (pk false [] [] []) l a = none ∨ ∃ n, (pk false [] [] []) l a = some n ∧ U64 n)) ∧ let r1 : Int := (checkS (pk false [] [] []) (exS (2 : Int)) exW)
((r1 == 0) = true →
(SR (exS (1 : Int)) ∧ WR exW ∧ OrOk [] [] [] ∧ (∀ l a, (pk false [] [] []) l a = none ∨ ∃ n, (pk false [] [] []) l a = some n ∧ U64 n)) ∧ let r2 : Int := (checkS (pk false [] [] []) (exS (1 : Int)) exW)
((r2 == 13) = true →
(SR (exS (2 : Int)) ∧ WR exW) ∧ ((relV (exS (2 : Int)) exW) = true →
(exW.Ins.length ≤ 9223372036854775807) ∧ (((inS exW.Ins) == 0) = true →
(exW.Outs.length ≤ 9223372036854775807) ∧ ((outS exW.Outs) == 5) = r0) ∧
(((inS exW.Ins) == 0) = false →
 false = r0)) ∧
((relV (exS (2 : Int)) exW) = false →
 false = r0)) ∧
((r2 == 13) = false →
 false = r0)) ∧
((r1 == 0) = false →
 false = r0))) : km1 (()) (r0, ()) := WPh.of_eq (by kernel_rfl) h
theorem bd8 : Callable Try.prog 8 := ⟨by rw [Try.func8]; kernel_rfl, by rw [Try.func8]; show some _ ≠ some _; decide⟩
theorem k1d4 : km1 (()) ((true : Bool), ()) := by
 have u2 : U64 2 := by decide
 have u1 : U64 1 := by decide
 have k : ∀ l a, pk false [] [] [] l a = none ∨ ∃ n, pk false [] [] [] l a = some n ∧ U64 n := by rw [pk_nil]; exact fun _ _ => pkR_u
 refine k1ke ⟨u2, u1, ?_⟩
 simp only [k1dh, k1kn, pk_nil, exS_ok, exS_not]
 rw [pk_nil] at k
 refine ⟨⟨exS_sr 2 u2, exW_wr, k1jz, k⟩, fun _ => ⟨⟨exS_sr 1 u1, exW_wr, k1jz, k⟩, fun _ => ⟨⟨exS_sr 2 u2, exW_wr⟩, fun _ => ⟨by decide, fun _ => ⟨by decide, by decide⟩, fun h => ?_⟩, fun h => ?_⟩, fun h => ?_⟩, fun h => ?_⟩
 ·simp [exW, inS] at h
 ·rw [k19l 2 (by decide)] at h; cases h
 ·simp at h
 ·simp at h
def k105 : Con TB.den := k5b.totR fun x => ((true : Bool), ())
theorem k1jc : k105.Ok Try.prog TB := Con.ok_tot k5b bd8 fun x => k1i6 (k1d4 )
def k1u : Con TB.den := Con.mk0 99 [.one (.ptr 0 0), .one (.d (.int .i64))] [.cells [.d (.sl (.int .u8)), .d (.bool)]] (.one (.one (.d (.sl (.int .u8))))) [.cells [.d (.sl (.int .u8)), .d (.bool)]]
abbrev kq0 := HL TB.den (hsT k1u.ins (hsOs k1u.pre))
abbrev k4o := HL TB.den (hsV k1u.res (hsOs k1u.post))
def k3w : Cx TB := ⟨inf, [], [], 4, []⟩
def k76 : Code := Try.f99.body.getD .skip
def kaz : List ResultVar := Try.f99.results.toList
def k14k (o : k4o) := qS TB k3w 38 1 (cB (cB k76)) .no (retTQ TB k3w k1u kaz o)
def kae : Tm := ⟨[0], [.cells [.d (.sl (.int .u8)), .d (.bool)]], [0, 1, 18], [.one (.ptr 0 0), .one (.d (.int .i64)), .one (.d (.bool))], 1⟩
def klr (o : k4o) (i : HL TB.den kae.hs) : Prop := ghs TB [] (kae.fill TB i) fun s => WP TB k3w 38 1 (cB (cA (cB k76))) .no s (k14k o)
structure k6t (o : k4o) (i : HL TB.den kae.hs) : Prop where
 h : klr o i
def k14j (o : k4o) : An TB := .nd [] (.jn kae (k6t o) [] .no [] .no) [] .no
def ko6 (o : k4o) : An TB := .nd [] .no [] (k14j o)
def kdn (x : kq0) (o : k4o) : Prop := WPh TB k3w 38 1 k76 (ko6 o) (k1u.st TB x) (retTQ TB k3w k1u kaz o)
theorem k11b (o : k4o) : OblH TB k3w 38 1 k76 (ko6 o) (retTQ TB k3w k1u kaz o) :=
 OblH.ofC (X := ((∀ i, (k6t o) i = klr o i) ∧ True)) (by kernel_rfl) ⟨fun _ => propext ⟨fun h => h.1, fun h => ⟨h⟩⟩, trivial⟩
theorem k10y {x : kq0} {o : k4o} (h : kdn x o) : k1u.Snd Try.prog x o :=
 Con.soundH (c := k1u) (C := k3w) TBok ⟨inf_ok, all_nil, all_nil⟩ mix Try.func99 (show Try.f99.body = some k76 by kernel_rfl) (show Try.f99.ntmps = 38 by kernel_rfl) (show Try.f99.results.toList = kaz by kernel_rfl) rfl h (k11b o)
theorem k12k {p1 : Int} {c0_0 : List Int} {c0_1 : Bool} {r0 : List Int} {d0_0 : List Int} {d0_1 : Bool} (h :
((c0_1 = true →
 k6t (r0, d0_0, d0_1, ()) (p1, true, c0_0, c0_1, ())) ∧
(c0_1 = false →
 k6t (r0, d0_0, d0_1, ()) (p1, (decide ((c0_0.length : Int) < p1) : Bool), c0_0, c0_1, ())))) : kdn (p1, c0_0, c0_1, ()) (r0, d0_0, d0_1, ()) := WPh.of_eq (by kernel_rfl) h
theorem kw4 {r0 : List Int} {d0_0 : List Int} {d0_1 : Bool} {s1 : Int} {s18 : Bool} {h0_0 : List Int} {h0_1 : Bool} (h :
((s18 = true →
([] : List Int) = r0 ∧ h0_0 = d0_0 ∧ true = d0_1) ∧
(s18 = false →
(0 ≤ s1) ∧ s1 ≤ (h0_0.length : Int) ∧ (0 ≤ s1) ∧ s1 ≤ (h0_0.length : Int) ∧ h0_0.take s1.toNat = r0 ∧ h0_0.drop s1.toNat = d0_0 ∧ h0_1 = d0_1))) : k6t (r0, d0_0, d0_1, ()) (s1, s18, h0_0, h0_1, ()) := ⟨mpr_of (by kernel_rfl) h⟩
theorem bd99 : Callable Try.prog 99 := ⟨by rw [Try.func99]; kernel_rfl, by rw [Try.func99]; show some _ ≠ some _; decide⟩
theorem kyj (p1 : Int) (c0_0 : List Int) (c0_1 : Bool) (h : 0 ≤ p1) : kdn (p1, c0_0, c0_1, ()) ((((tkB c0_0 c0_1 p1).l) : List Int), (((tkB c0_0 c0_1 p1).b) : List Int), (((tkB c0_0 c0_1 p1).f) : Bool), ()) := by
 have j : ∀ s, (s = decide (c0_1 = true ∨ (c0_0.length : Int) < p1)) → k6t ((tkB c0_0 c0_1 p1).l, (tkB c0_0 c0_1 p1).b, (tkB c0_0 c0_1 p1).f, ()) (p1, s, c0_0, c0_1, ()) := by
  intro s hs
  refine kw4 ⟨fun e => ?_, fun e => ?_⟩
  ·have e := of_decide_eq_true (hs.symm.trans e)
   unfold tkB
   rw [if_pos e]
   exact ⟨rfl, rfl, rfl⟩
  ·have e := of_decide_eq_false (hs.symm.trans e)
   have hf : c0_1 = false := by
    cases c0_1
    ·rfl
    ·exact absurd (.inl rfl) e
   have hl : ¬ (c0_0.length : Int) < p1 := fun h => e (.inr h)
   unfold tkB
   rw [if_neg e]
   exact ⟨h, by omega, h, by omega, rfl, rfl, hf⟩
 exact k12k ⟨fun e => j _ (by simp [e]), fun e => j _ (by simp [e])⟩
def kab : Con TB.den := { k1u with R := fun x K => (fun (p1 : Int) (c0_0 : List Int) (c0_1 : Bool) => ((0 ≤ p1) ∧ ∀ (v0 : List Int) (v1 : List Int) (v2 : Bool), (v0 = (((tkB c0_0 c0_1 p1).l)) ∧ v1 = (((tkB c0_0 c0_1 p1).b)) ∧ v2 = (((tkB c0_0 c0_1 p1).f))) → K (v0, v1, v2, ()) : Prop)) x.1 x.2.1 x.2.2.1 }
theorem kg4 : kab.Ok Try.prog TB := ⟨bd99, fun x K hx => ⟨((fun (p1 : Int) (c0_0 : List Int) (c0_1 : Bool) => (((tkB c0_0 c0_1 p1).l) : List Int)) x.1 x.2.1 x.2.2.1, (fun (p1 : Int) (c0_0 : List Int) (c0_1 : Bool) => (((tkB c0_0 c0_1 p1).b) : List Int)) x.1 x.2.1 x.2.2.1, (fun (p1 : Int) (c0_0 : List Int) (c0_1 : Bool) => (((tkB c0_0 c0_1 p1).f) : Bool)) x.1 x.2.1 x.2.2.1, ()), hx.2 ((fun (p1 : Int) (c0_0 : List Int) (c0_1 : Bool) => ((((tkB c0_0 c0_1 p1).l)))) x.1 x.2.1 x.2.2.1) ((fun (p1 : Int) (c0_0 : List Int) (c0_1 : Bool) => ((((tkB c0_0 c0_1 p1).b)))) x.1 x.2.1 x.2.2.1) ((fun (p1 : Int) (c0_0 : List Int) (c0_1 : Bool) => ((((tkB c0_0 c0_1 p1).f)))) x.1 x.2.1 x.2.2.1) ⟨rfl, rfl, rfl⟩, k10y (kyj x.1 x.2.1 x.2.2.1 hx.1)⟩⟩
def k55 : Con TB.den := Con.mk0 98 [.one (.d (.sl (.int .u8)))] [] (.one (.one (.d (.int .u64)))) []
abbrev k170 := HL TB.den (hsT k55.ins (hsOs k55.pre))
abbrev kbi := HL TB.den (hsV k55.res (hsOs k55.post))
def k82 : Cx TB := ⟨inf, [], [], 4, []⟩
def kch : Code := Try.f98.body.getD .skip
def kkw : List ResultVar := Try.f98.results.toList
def k1kv (o : kbi) := qS TB k82 21 0 (cB (cB (cB kch))) .no (retTQ TB k82 k55 kkw o)
def kcv : Tm := ⟨[], [], [0, 3, 4], [.one (.d (.sl (.int .u8))), .one (.d (.int .u64)), .one (.d (.int .i64))], 0⟩
def kf6 (o : kbi) (nx1 : NX TB kcv) (i : HL TB.den kcv.hs) : Prop := WP TB k82 21 0 (cA (cA (cB (cA (cB (cB kch)))))) .no (kcv.fill TB i) (qM TB 0 kcv nx1 (blockT TB 0 (k1kv o)))
def k1jw (o : kbi) : An TB := .nd [] .no [] (.lp [] kcv (kf6 o) fun nx1 => .no)
def k12n (o : kbi) : An TB := .nd [] .no [] (.nd [] .no [] (.nd [] (k1jw o) [] .no))
def km2 (x : k170) (o : kbi) : Prop := WPh TB k82 21 0 kch (k12n o) (k55.st TB x) (retTQ TB k82 k55 kkw o)
theorem k1gv (o : kbi) : OblH TB k82 21 0 kch (k12n o) (retTQ TB k82 k55 kkw o) :=
 OblH.ofC (X := ((∀ nx i, (kf6 o) nx i = (kf6 o) nx i) ∧ (∀ nx1 : NX TB kcv, True) ∧ True)) (by kernel_rfl) ⟨fun _ _ => rfl, fun _ => trivial, trivial⟩
theorem k1ho {x : k170} {o : kbi} (h : km2 x o) : k55.Snd Try.prog x o :=
 Con.soundH (c := k55) (C := k82) TBok ⟨inf_ok, all_nil, all_nil⟩ mix Try.func98 (show Try.f98.body = some kch by kernel_rfl) (show Try.f98.ntmps = 21 by kernel_rfl) (show Try.f98.results.toList = kkw by kernel_rfl) rfl h (k1gv o)
theorem k1k4 {p0 : List Int} {r0 : Int} (h :
(Md.Loop (p0, (0 : Int), (IntKind.i64.wrap ((p0.length : Int) - 1) : Int), ()) (kf6 (r0, ())))) : km2 (p0, ()) (r0, ()) := WPh.of_eq (by kernel_rfl) h
def k152 (r0 : Int) (k1 : Int → Int → Prop) (s0 : List Int) (s3 : Int) (s4 : Int) : Prop :=
(decide (0 ≤ s4) = true →
(0 ≤ s4) ∧ s4 < (s0.length : Int) ∧ let v1 : Int := IntKind.u64.wrap ((IntKind.u64.wrap (s3 * 256)) + (IntKind.u64.wrap (ix s0 s4)))
 k1 v1 (IntKind.i64.wrap (s4 - 1) : Int)) ∧
(decide (0 ≤ s4) = false →
 s3 = r0)
theorem k1gu {r0 : Int} {s0 : List Int} {s3 : Int} {s4 : Int} (inv : Int → Int → Prop) (μ : Int → Int → Nat) (h0 : inv s3 s4) (hs : ∀ (s3 : Int) (s4 : Int), inv s3 s4 → k152 r0 (fun s3q s4q => inv s3q s4q ∧ μ s3q s4q < μ s3 s4) s0 s3 s4) : Md.Loop (s0, s3, s4, ()) (kf6 (r0, ())) :=
 ⟨⟨fun s : (List Int) × Int × Int × Unit => (s.1 = s0) ∧ inv s.2.1 s.2.2.1, fun s : (List Int) × Int × Int × Unit => μ s.2.1 s.2.2.1, ⟨rfl, h0⟩, fun (s0p, s3p, s4p, ()) ⟨eq0, hi⟩ => by
  have eq0 : s0p = s0 := eq0; subst s0p; exact mpr_of (by kernel_rfl) ((congrArg (fun k => k152 r0 k s0 s3p s4p) (lpk2 (rfl : s0 = s0) inv (fun s3q s4q => μ s3q s4q < μ s3p s4p))).mpr (hs s3p s4p hi))⟩⟩
theorem bd98 : Callable Try.prog 98 := ⟨by rw [Try.func98]; kernel_rfl, by rw [Try.func98]; show some _ ≠ some _; decide⟩
theorem k1dr (p0 : List Int) (h : By p0 ∧ p0.length ≤ 8) : km2 (p0, ()) (((val p0) : Int), ()) := by
 obtain ⟨hb, hl⟩ := h
 refine k1k4 ?_
 rw [wi ((p0.length : Int) - 1) (by omega) (by omega)]
 refine k1gu (fun n i => -1 ≤ i ∧ i < p0.length ∧ n = val (p0.drop (i + 1).toNat)) (fun _ i => (i + 1).toNat) ⟨by omega, by omega, ?_⟩ ?_
 ·rw [List.drop_eq_nil_of_le (by omega)]; rfl
 rintro n i ⟨g0, g1, rfl⟩
 refine ⟨fun hh => ?_, fun hh => ?_⟩
 ·have hh := of_decide_eq_true hh
  have hx := hb _ (ix_mem p0 i hh g1)
  have hbb : By (p0.drop (i + 1).toNat) := hb.drop _
  have hv := kfh _ hbb
  have hle : (p0.drop (i + 1).toNat).length ≤ 7 := by rw [List.length_drop]; omega
  have h7 := koj hle
  rw [wu (ix p0 i) (by omega) (by omega), wu (val (p0.drop (i + 1).toNat) * 256) (by omega) (by omega), wu _ (by omega) (by omega), wi (i - 1) (by omega) (by omega)]
  refine ⟨hh, by omega, ⟨by omega, by omega, ?_⟩, by omega⟩
  rw [show i - 1 + 1 = i by omega, drop_ix _ i hh g1]
  simp only [val]
  omega
 ·have hh := of_decide_eq_false hh
  rw [show (i + 1).toNat = 0 by omega]
  rfl
def kib : Con TB.den := { k55 with R := fun x K => (fun (p0 : List Int) => ((By p0 ∧ p0.length ≤ 8) ∧ ∀ (v0 : Int), (v0 = ((val p0))) → K (v0, ()) : Prop)) x.1 }
theorem kr0 : kib.Ok Try.prog TB := ⟨bd98, fun x K hx => ⟨((fun (p0 : List Int) => ((val p0) : Int)) x.1, ()), hx.2 ((fun (p0 : List Int) => (((val p0)))) x.1) rfl, k1ho (k1dr x.1 hx.1)⟩⟩
def k25 : Con TB.den := Con.mk0 63 [.one (.ptr 0 0), .one (.d (.int .i64))] [.cells [.d (.sl (.int .u8)), .d (.bool)]] (.one (.one (.d (.int .i64)))) [.cells [.d (.sl (.int .u8)), .d (.bool)]]
abbrev ks5 := HL TB.den (hsT k25.ins (hsOs k25.pre))
abbrev k52 := HL TB.den (hsV k25.res (hsOs k25.post))
def k4l : Cx TB := ⟨inf, [kab, kib], [], 4, []⟩
def k7l : Code := Try.f63.body.getD .skip
def kbr : List ResultVar := Try.f63.results.toList
def k165 (o : k52) := qS TB k4l 23 1 (cB (cB (cB k7l))) .no (retTQ TB k4l k25 kbr o)
def kb9 : Tm := ⟨[0], [.cells [.d (.sl (.int .u8)), .d (.bool)]], [0, 5, 18], [.one (.ptr 0 0), .one (.d (.int .i64)), .one (.d (.bool))], 1⟩
def ko4 (o : k52) (i : HL TB.den kb9.hs) : Prop := ghs TB [] (kb9.fill TB i) fun s => WP TB k4l 23 1 (cB (cA (cB (cB k7l)))) .no s (k165 o)
structure k7b (o : k52) (i : HL TB.den kb9.hs) : Prop where
 h : ko4 o i
def k16p (o : k52) : An TB := .nd [] (.jn kb9 (k7b o) [] .no [] .no) [] .no
def kpj (o : k52) : An TB := .nd [] .no [] (.nd [] .no [] (k16p o))
def kee (x : ks5) (o : k52) : Prop := WPh TB k4l 23 1 k7l (kpj o) (k25.st TB x) (retTQ TB k4l k25 kbr o)
theorem k12o (o : k52) : OblH TB k4l 23 1 k7l (kpj o) (retTQ TB k4l k25 kbr o) :=
 OblH.ofC (X := ((∀ i, (k7b o) i = ko4 o i) ∧ True)) (by kernel_rfl) ⟨fun _ => propext ⟨fun h => h.1, fun h => ⟨h⟩⟩, trivial⟩
theorem k12s {x : ks5} {o : k52} (h : kee x o) : k25.Snd Try.prog x o :=
 Con.soundH (c := k25) (C := k4l) TBok ⟨inf_ok, (all_cons kg4 (all_cons kr0 all_nil)), all_nil⟩ mix Try.func63 (show Try.f63.body = some k7l by kernel_rfl) (show Try.f63.ntmps = 23 by kernel_rfl) (show Try.f63.results.toList = kbr by kernel_rfl) rfl h (k12o o)
theorem k16k {p1 : Int} {c0_0 : List Int} {c0_1 : Bool} {r0 : Int} {d0_0 : List Int} {d0_1 : Bool} (h :
((0 ≤ (4 : Int)) ∧ ∀ (r5 : List Int) (r6 : List Int) (r7 : Bool), (r5 = ((tkB c0_0 c0_1 (4 : Int)).l) ∧ r6 = ((tkB c0_0 c0_1 (4 : Int)).b) ∧ r7 = ((tkB c0_0 c0_1 (4 : Int)).f)) → (By r5 ∧ r5.length ≤ 8) ∧ ∀ (r8 : Int), (r8 = (val r5)) → (r7 = true →
 k7b (r0, d0_0, d0_1, ()) ((IntKind.i64.wrap r8 : Int), true, r6, r7, ())) ∧
(r7 = false →
 k7b (r0, d0_0, d0_1, ()) ((IntKind.i64.wrap r8 : Int), (decide (p1 < (IntKind.i64.wrap r8)) : Bool), r6, r7, ())))) : kee (p1, c0_0, c0_1, ()) (r0, d0_0, d0_1, ()) := WPh.of_eq (by kernel_rfl) h
theorem kyd {r0 : Int} {d0_0 : List Int} {d0_1 : Bool} {s5 : Int} {s18 : Bool} {h0_0 : List Int} {h0_1 : Bool} (h :
((s18 = true →
 0 = r0 ∧ h0_0 = d0_0 ∧ true = d0_1) ∧
(s18 = false →
 s5 = r0 ∧ h0_0 = d0_0 ∧ h0_1 = d0_1))) : k7b (r0, d0_0, d0_1, ()) (s5, s18, h0_0, h0_1, ()) := ⟨mpr_of (by kernel_rfl) h⟩
theorem bd63 : Callable Try.prog 63 := ⟨by rw [Try.func63]; kernel_rfl, by rw [Try.func63]; show some _ ≠ some _; decide⟩
theorem k11p (p1 : Int) (c0_0 : List Int) (c0_1 : Bool) (h : By c0_0) : kee (p1, c0_0, c0_1, ()) ((((nB 4 c0_0 c0_1 p1).n) : Int), (((nB 4 c0_0 c0_1 p1).b) : List Int), (((nB 4 c0_0 c0_1 p1).f) : Bool), ()) := by
 refine k16k ⟨by omega, ?_⟩
 rintro _ _ _ ⟨rfl, rfl, rfl⟩
 have hl := tkB_len (b := c0_0) (f := c0_1) (k := 4)
 refine ⟨⟨tkB_l h, by omega⟩, ?_⟩
 rintro _ rfl
 have hv := kfh _ (tkB_l (b := c0_0) (f := c0_1) (k := 4) h)
 have h4 : (256 : Int) ^ (tkB c0_0 c0_1 4).l.length ≤ 256 ^ 4 := koj (by omega)
 rw [wi (val (tkB c0_0 c0_1 4).l) (by omega) (by omega)]
 have j : ∀ s, (s = decide ((tkB c0_0 c0_1 4).f = true ∨ p1 < val (tkB c0_0 c0_1 4).l)) → k7b ((nB 4 c0_0 c0_1 p1).n, (nB 4 c0_0 c0_1 p1).b, (nB 4 c0_0 c0_1 p1).f, ()) (val (tkB c0_0 c0_1 4).l, s, (tkB c0_0 c0_1 4).b, (tkB c0_0 c0_1 4).f, ()) := by
  intro s hs
  refine kyd ⟨fun e => ?_, fun e => ?_⟩
  ·have e := of_decide_eq_true (hs.symm.trans e)
   unfold nB
   rw [if_pos e]
   exact ⟨rfl, rfl, rfl⟩
  ·have e := of_decide_eq_false (hs.symm.trans e)
   have hf : (tkB c0_0 c0_1 4).f = false := by
    cases hc : (tkB c0_0 c0_1 4).f
    ·rfl
    ·exact absurd (.inl hc) e
   unfold nB
   rw [if_neg e]
   exact ⟨rfl, rfl, hf⟩
 exact ⟨fun e => j _ (by simp [e]), fun e => j _ (by simp [e])⟩
def kfq : Con TB.den := { k25 with R := fun x K => (fun (p1 : Int) (c0_0 : List Int) (c0_1 : Bool) => ((By c0_0) ∧ ∀ (v0 : Int) (v1 : List Int) (v2 : Bool), (v0 = (((nB 4 c0_0 c0_1 p1).n)) ∧ v1 = (((nB 4 c0_0 c0_1 p1).b)) ∧ v2 = (((nB 4 c0_0 c0_1 p1).f))) → K (v0, v1, v2, ()) : Prop)) x.1 x.2.1 x.2.2.1 }
theorem kpx : kfq.Ok Try.prog TB := ⟨bd63, fun x K hx => ⟨((fun (p1 : Int) (c0_0 : List Int) (c0_1 : Bool) => (((nB 4 c0_0 c0_1 p1).n) : Int)) x.1 x.2.1 x.2.2.1, (fun (p1 : Int) (c0_0 : List Int) (c0_1 : Bool) => (((nB 4 c0_0 c0_1 p1).b) : List Int)) x.1 x.2.1 x.2.2.1, (fun (p1 : Int) (c0_0 : List Int) (c0_1 : Bool) => (((nB 4 c0_0 c0_1 p1).f) : Bool)) x.1 x.2.1 x.2.2.1, ()), hx.2 ((fun (p1 : Int) (c0_0 : List Int) (c0_1 : Bool) => ((((nB 4 c0_0 c0_1 p1).n)))) x.1 x.2.1 x.2.2.1) ((fun (p1 : Int) (c0_0 : List Int) (c0_1 : Bool) => ((((nB 4 c0_0 c0_1 p1).b)))) x.1 x.2.1 x.2.2.1) ((fun (p1 : Int) (c0_0 : List Int) (c0_1 : Bool) => ((((nB 4 c0_0 c0_1 p1).f)))) x.1 x.2.1 x.2.2.1) ⟨rfl, rfl, rfl⟩, k12s (k11p x.1 x.2.1 x.2.2.1 hx.1)⟩⟩
def k1e : Con TB.den := Con.mk0 66 [.one (.ptr 0 0), .one (.d (.int .i64)), .one (.d (.int .u64))] [.cells [.d (.sl (.int .u8)), .d (.bool)]] (.one (.one (.d (.sl (.int .u64))))) [.cells [.d (.sl (.int .u8)), .d (.bool)]]
abbrev kpz := HL TB.den (hsT k1e.ins (hsOs k1e.pre))
abbrev k19 := HL TB.den (hsV k1e.res (hsOs k1e.post))
def k1r : Cx TB := ⟨inf, [kfq, kab, kib], [], 4, []⟩
def k3z : Code := Try.f66.body.getD .skip
def k80 : List ResultVar := Try.f66.results.toList
def k140 (o : k19) := qS TB k1r 50 1 (cB (cB (cB (cB (cB k3z))))) .no (retTQ TB k1r k1e k80 o)
def k53 : Tm := ⟨[0, 1], [.cells [.d (.sl (.int .u8)), .d (.bool)], .tip (.int .u64)], [0, 2, 7, 8, 9], [.one (.ptr 0 0), .one (.d (.int .u64)), .one (.d (.int .i64)), .one (.own 1), .one (.d (.int .i64))], 2⟩
def k149 (o : k19) (nx1 : NX TB k53) := qM TB 1 k53 nx1 (blockT TB 0 (k140 o))
def k8e (o : k19) (nx1 : NX TB k53) (i : HL TB.den k53.hs) : Prop := WP TB k1r 50 1 (cA (cA (cB (cA (cB (cB (cB (cB k3z)))))))) .no (k53.fill TB i) (k149 o nx1)
def k14i (o : k19) : An TB := .lp [.tok 8 (.int .u64)] k53 (k8e o) fun nx1 => .no
def koi (o : k19) : An TB := .nd [] .no [] (.nd [] (.nd [] .no [] (k14i o)) [] .no)
def k14n (o : k19) := qS TB k1r 50 1 (cB (cB (cB k3z))) (koi o) (retTQ TB k1r k1e k80 o)
def kaa : Tm := ⟨[0], [.cells [.d (.sl (.int .u8)), .d (.bool)]], [0, 2, 7, 27], [.one (.ptr 0 0), .one (.d (.int .u64)), .one (.d (.int .i64)), .one (.d (.bool))], 1⟩
def klm (o : k19) (i : HL TB.den kaa.hs) : Prop := ghs TB [] (kaa.fill TB i) fun s => WP TB k1r 50 1 (cB (cA (cB (cB k3z)))) .no s (k14n o)
structure k6n (o : k19) (i : HL TB.den kaa.hs) : Prop where
 h : klm o i
def k11d (o : k19) : An TB := .nd [] (.jn kaa (k6n o) [] .no [] .no) [] (koi o)
def kos (o : k19) : An TB := .nd [] .no [] (.nd [] .no [] (k11d o))
def kdc (x : kpz) (o : k19) : Prop := WPh TB k1r 50 1 k3z (kos o) (k1e.st TB x) (retTQ TB k1r k1e k80 o)
theorem k10x (o : k19) : OblH TB k1r 50 1 k3z (kos o) (retTQ TB k1r k1e k80 o) :=
 OblH.ofC (X := ((∀ i, (k6n o) i = klm o i) ∧ (∀ nx i, (k8e o) nx i = (k8e o) nx i) ∧ (∀ nx1 : NX TB k53, True) ∧ True)) (by kernel_rfl) ⟨fun _ => propext ⟨fun h => h.1, fun h => ⟨h⟩⟩, fun _ _ => rfl, fun _ => trivial, trivial⟩
theorem k10o {x : kpz} {o : k19} (h : kdc x o) : k1e.Snd Try.prog x o :=
 Con.soundH (c := k1e) (C := k1r) TBok ⟨inf_ok, (all_cons kpx (all_cons kg4 (all_cons kr0 all_nil))), all_nil⟩ mix Try.func66 (show Try.f66.body = some k3z by kernel_rfl) (show Try.f66.ntmps = 50 by kernel_rfl) (show Try.f66.results.toList = k80 by kernel_rfl) rfl h (k10x o)
theorem k14a {p1 : Int} {p2 : Int} {c0_0 : List Int} {c0_1 : Bool} {r0 : List Int} {d0_0 : List Int} {d0_1 : Bool} (h :
((By c0_0) ∧ ∀ (r4 : Int) (r5 : List Int) (r6 : Bool), (r4 = ((nB 4 c0_0 c0_1 p1).n) ∧ r5 = ((nB 4 c0_0 c0_1 p1).b) ∧ r6 = ((nB 4 c0_0 c0_1 p1).f)) → (r6 = true →
 k6n (r0, d0_0, d0_1, ()) (p2, r4, true, r5, r6, ())) ∧
(r6 = false →
 let v7 : Int := IntKind.i64.wrap (Int.tdiv (r5.length : Int) 8)
 k6n (r0, d0_0, d0_1, ()) (p2, r4, (decide (v7 < r4) : Bool), r5, r6, ())))) : kdc (p1, p2, c0_0, c0_1, ()) (r0, d0_0, d0_1, ()) := WPh.of_eq (by kernel_rfl) h
theorem kve {r0 : List Int} {d0_0 : List Int} {d0_1 : Bool} {s2 : Int} {s7 : Int} {s27 : Bool} {h0_0 : List Int} {h0_1 : Bool} (h :
((s27 = true →
([] : List Int) = r0 ∧ h0_0 = d0_0 ∧ true = d0_1) ∧
(s27 = false →
(([] : List Int) = ([] : List Int)) ∧ Md.Loop (s2, s7, (0 : Int), h0_0, h0_1, (([] : List Int) : List Int), ()) (k8e (r0, d0_0, d0_1, ()))))) : k6n (r0, d0_0, d0_1, ()) (s2, s7, s27, h0_0, h0_1, ()) := ⟨mpr_of (by kernel_rfl) h⟩
def kop (r0 : List Int) (d0_0 : List Int) (d0_1 : Bool) (k1 : Int → List Int → Bool → List Int → Prop) (s2 : Int) (s7 : Int) (s9 : Int) (h0_0 : List Int) (h0_1 : Bool) (g1 : List Int) : Prop :=
(decide (s9 < s7) = true →
(0 ≤ (8 : Int)) ∧ ∀ (r36 : List Int) (r37 : List Int) (r38 : Bool), (r36 = ((tkB h0_0 h0_1 (8 : Int)).l) ∧ r37 = ((tkB h0_0 h0_1 (8 : Int)).b) ∧ r38 = ((tkB h0_0 h0_1 (8 : Int)).f)) → (By r36 ∧ r36.length ≤ 8) ∧ ∀ (r39 : Int), (r39 = (val r36)) → (decide (s2 ≤ r39) = true →
([] : List Int) = r0 ∧ r37 = d0_0 ∧ true = d0_1) ∧
(decide (s2 ≤ r39) = false →
 g1.length = g1.length ∧ (g1.length + [r39].length) * 8 ≤ 140737488355328 ∧ g1.length + [r39].length ≤ maxLen ∧ (g1 ++ [r39] = g1 ++ [r39]) ∧ k1 (IntKind.i64.wrap (s9 + 1) : Int) r37 r38 (g1 ++ [r39] : List Int))) ∧
(decide (s9 < s7) = false →
 g1 = r0 ∧ h0_0 = d0_0 ∧ h0_1 = d0_1)
theorem k10u {r0 : List Int} {d0_0 : List Int} {d0_1 : Bool} {s2 : Int} {s7 : Int} {s9 : Int} {h0_0 : List Int} {h0_1 : Bool} {g1 : List Int} (inv : Int → List Int → Bool → List Int → Prop) (μ : Int → List Int → Bool → List Int → Nat) (h0 : inv s9 h0_0 h0_1 g1) (hs : ∀ (s9 : Int) (h0_0 : List Int) (h0_1 : Bool) (g1 : List Int), inv s9 h0_0 h0_1 g1 → kop r0 d0_0 d0_1 (fun s9q h0_0q h0_1q g1q => inv s9q h0_0q h0_1q g1q ∧ μ s9q h0_0q h0_1q g1q < μ s9 h0_0 h0_1 g1) s2 s7 s9 h0_0 h0_1 g1) : Md.Loop (s2, s7, s9, h0_0, h0_1, g1, ()) (k8e (r0, d0_0, d0_1, ())) :=
 ⟨⟨fun s : Int × Int × Int × (List Int) × Bool × (List Int) × Unit => (s.1 = s2 ∧ s.2.1 = s7) ∧ inv s.2.2.1 s.2.2.2.1 s.2.2.2.2.1 s.2.2.2.2.2.1, fun s : Int × Int × Int × (List Int) × Bool × (List Int) × Unit => μ s.2.2.1 s.2.2.2.1 s.2.2.2.2.1 s.2.2.2.2.2.1, ⟨⟨rfl, rfl⟩, h0⟩, fun (s2p, s7p, s9p, h0_0p, h0_1p, g1p, ()) ⟨⟨eq0, eq1⟩, hi⟩ => by
  have eq0 : s2p = s2 := eq0; subst s2p; have eq1 : s7p = s7 := eq1; subst s7p; exact mpr_of (by kernel_rfl) ((congrArg (fun k => kop r0 d0_0 d0_1 k s2 s7 s9p h0_0p h0_1p g1p) (lpk4 (⟨rfl, rfl⟩ : s2 = s2 ∧ s7 = s7) inv (fun s9q h0_0q h0_1q g1q => μ s9q h0_0q h0_1q g1q < μ s9p h0_0p h0_1p g1p))).mpr (hs s9p h0_0p h0_1p g1p hi))⟩⟩
theorem bd66 : Callable Try.prog 66 := ⟨by rw [Try.func66]; kernel_rfl, by rw [Try.func66]; show some _ ≠ some _; decide⟩
theorem kyl (p1 : Int) (p2 : Int) (c0_0 : List Int) (c0_1 : Bool) (h : By c0_0 ∧ c0_0.length ≤ 137438953472) : kdc (p1, p2, c0_0, c0_1, ()) ((((lB c0_0 c0_1 p1 p2).l) : List Int), (((lB c0_0 c0_1 p1 p2).b) : List Int), (((lB c0_0 c0_1 p1 p2).f) : Bool), ()) := by
 obtain ⟨hb, hl⟩ := h
 have p4 : (256 : Int) ^ (4 : Int).toNat = 4294967296 := by decide
 refine k14a ⟨hb, ?_⟩
 rintro _ _ _ ⟨rfl, rfl, rfl⟩
 have hN := nB_b (k := 4) (f := c0_1) (m := p1) hb
 have nN := nB_n (k := 4) (f := c0_1) (m := p1) hb (by omega)
 rw [p4] at nN
 have e0 : lB c0_0 c0_1 p1 p2 = if (nB 4 c0_0 c0_1 p1).f = true ∨ ((nB 4 c0_0 c0_1 p1).b.length : Int) / 8 < (nB 4 c0_0 c0_1 p1).n then ⟨[], (nB 4 c0_0 c0_1 p1).b, true⟩ else lBs p2 (nB 4 c0_0 c0_1 p1).n.toNat (nB 4 c0_0 c0_1 p1).b [] := rfl
 generalize nB 4 c0_0 c0_1 p1 = N at *
 generalize lB c0_0 c0_1 p1 p2 = R at *
 have j : ∀ s, s = decide (N.f = true ∨ (N.b.length : Int) / 8 < N.n) → k6n (R.l, R.b, R.f, ()) (p2, N.n, s, N.b, N.f, ()) := by
  intro s hs
  refine kve ⟨fun e => ?_, fun e => ⟨rfl, ?_⟩⟩
  ·rw [e0, if_pos (of_decide_eq_true (hs.symm.trans e))]; exact ⟨rfl, rfl, rfl⟩
  have e := of_decide_eq_false (hs.symm.trans e)
  rw [if_neg e] at e0
  have hf : N.f = false := by
   cases hc : N.f
   ·rfl
   ·exact absurd (.inl hc) e
  have hle : ¬ (N.b.length : Int) / 8 < N.n := fun h => e (.inr h)
  refine k10u (fun i b f g => f = false ∧ 0 ≤ i ∧ i ≤ N.n ∧ By b ∧ (b.length : Int) ≥ 8 * (N.n - i) ∧ (g.length : Int) = i ∧ R = lBs p2 (N.n - i).toNat b g) (fun i _ _ _ => (N.n - i).toNat) ⟨hf, by omega, nN.1, hN.1, by omega, rfl, by rw [e0]; congr 1; omega⟩ ?_
  rintro i b f g ⟨rfl, g0, g1, g2, g3, g4, g5⟩
  refine ⟨fun hh => ?_, fun hh => ?_⟩
  ·have hh := of_decide_eq_true hh
   have et : tkB b false 8 = ⟨b.take 8, b.drop 8, false⟩ := by
    unfold tkB
    rw [if_neg]
    ·rfl
    ·rintro (h | h)
     ·cases h
     ·omega
   refine ⟨by omega, ?_⟩
   rintro _ _ _ ⟨rfl, rfl, rfl⟩
   rw [et]
   refine ⟨⟨g2.take _, by simp; omega⟩, ?_⟩
   rintro _ rfl
   rw [show (N.n - i).toNat = (N.n - (i + 1)).toNat + 1 by omega] at g5
   unfold lBs at g5
   refine ⟨fun e => ?_, fun e => ?_⟩
   ·rw [g5, if_pos (of_decide_eq_true e)]; exact ⟨rfl, rfl, rfl⟩
   ·have e := of_decide_eq_false e
    rw [if_neg e] at g5
    rw [inc i N.n g0 hh (by omega)]
    refine ⟨rfl, by simp; omega, by simp; unfold maxLen; omega, rfl, ⟨rfl, by omega, by omega, g2.drop _, by rw [List.length_drop]; omega, by simp; omega, g5⟩, by omega⟩
  ·have hh := of_decide_eq_false hh
   rw [show (N.n - i).toNat = 0 by omega] at g5
   rw [g5]
   exact ⟨rfl, rfl, rfl⟩
 refine ⟨fun e => j _ (by simp [e]), fun e => ?_⟩
 have e8 : IntKind.i64.wrap (Int.tdiv (N.b.length : Int) 8) = (N.b.length : Int) / 8 := by
  rw [Int.tdiv_eq_ediv_of_nonneg (by omega)]
  exact wi _ (by omega) (by omega)
 rw [e8]
 exact j _ (by simp [e])
def kls : Con TB.den := { k1e with R := fun x K => (fun (p1 : Int) (p2 : Int) (c0_0 : List Int) (c0_1 : Bool) => ((By c0_0 ∧ c0_0.length ≤ 137438953472) ∧ ∀ (v0 : List Int) (v1 : List Int) (v2 : Bool), (v0 = (((lB c0_0 c0_1 p1 p2).l)) ∧ v1 = (((lB c0_0 c0_1 p1 p2).b)) ∧ v2 = (((lB c0_0 c0_1 p1 p2).f))) → K (v0, v1, v2, ()) : Prop)) x.1 x.2.1 x.2.2.1 x.2.2.2.1 }
theorem k126 : kls.Ok Try.prog TB := ⟨bd66, fun x K hx => ⟨((fun (p1 : Int) (p2 : Int) (c0_0 : List Int) (c0_1 : Bool) => (((lB c0_0 c0_1 p1 p2).l) : List Int)) x.1 x.2.1 x.2.2.1 x.2.2.2.1, (fun (p1 : Int) (p2 : Int) (c0_0 : List Int) (c0_1 : Bool) => (((lB c0_0 c0_1 p1 p2).b) : List Int)) x.1 x.2.1 x.2.2.1 x.2.2.2.1, (fun (p1 : Int) (p2 : Int) (c0_0 : List Int) (c0_1 : Bool) => (((lB c0_0 c0_1 p1 p2).f) : Bool)) x.1 x.2.1 x.2.2.1 x.2.2.2.1, ()), hx.2 ((fun (p1 : Int) (p2 : Int) (c0_0 : List Int) (c0_1 : Bool) => ((((lB c0_0 c0_1 p1 p2).l)))) x.1 x.2.1 x.2.2.1 x.2.2.2.1) ((fun (p1 : Int) (p2 : Int) (c0_0 : List Int) (c0_1 : Bool) => ((((lB c0_0 c0_1 p1 p2).b)))) x.1 x.2.1 x.2.2.1 x.2.2.2.1) ((fun (p1 : Int) (p2 : Int) (c0_0 : List Int) (c0_1 : Bool) => ((((lB c0_0 c0_1 p1 p2).f)))) x.1 x.2.1 x.2.2.1 x.2.2.2.1) ⟨rfl, rfl, rfl⟩, k10o (kyl x.1 x.2.1 x.2.2.1 x.2.2.2.1 hx.1)⟩⟩
def k1w : Con TB.den := Con.mk0 65 [.one (.ptr 0 0), .one (.d (.int .u64))] [.cells [.d (.sl (.int .u8)), .d (.bool)]] (.one (.one (.d (.int .u64)))) [.cells [.d (.sl (.int .u8)), .d (.bool)]]
abbrev kqf := HL TB.den (hsT k1w.ins (hsOs k1w.pre))
abbrev k4m := HL TB.den (hsV k1w.res (hsOs k1w.post))
def k3y : Cx TB := ⟨inf, [kab, kib], [], 4, []⟩
def k70 : Code := Try.f65.body.getD .skip
def kb0 : List ResultVar := Try.f65.results.toList
def k14t (o : k4m) := qS TB k3y 22 1 (cB (cB (cB k70))) .no (retTQ TB k3y k1w kb0 o)
def kad : Tm := ⟨[0], [.cells [.d (.sl (.int .u8)), .d (.bool)]], [0, 5, 17], [.one (.ptr 0 0), .one (.d (.int .u64)), .one (.d (.bool))], 1⟩
def kli (o : k4m) (i : HL TB.den kad.hs) : Prop := ghs TB [] (kad.fill TB i) fun s => WP TB k3y 22 1 (cB (cA (cB (cB k70)))) .no s (k14t o)
structure k6s (o : k4m) (i : HL TB.den kad.hs) : Prop where
 h : kli o i
def k14x (o : k4m) : An TB := .nd [] (.jn kad (k6s o) [] .no [] .no) [] .no
def koh (o : k4m) : An TB := .nd [] .no [] (.nd [] .no [] (k14x o))
def kd7 (x : kqf) (o : k4m) : Prop := WPh TB k3y 22 1 k70 (koh o) (k1w.st TB x) (retTQ TB k3y k1w kb0 o)
theorem k11a (o : k4m) : OblH TB k3y 22 1 k70 (koh o) (retTQ TB k3y k1w kb0 o) :=
 OblH.ofC (X := ((∀ i, (k6s o) i = kli o i) ∧ True)) (by kernel_rfl) ⟨fun _ => propext ⟨fun h => h.1, fun h => ⟨h⟩⟩, trivial⟩
theorem k115 {x : kqf} {o : k4m} (h : kd7 x o) : k1w.Snd Try.prog x o :=
 Con.soundH (c := k1w) (C := k3y) TBok ⟨inf_ok, (all_cons kg4 (all_cons kr0 all_nil)), all_nil⟩ mix Try.func65 (show Try.f65.body = some k70 by kernel_rfl) (show Try.f65.ntmps = 22 by kernel_rfl) (show Try.f65.results.toList = kb0 by kernel_rfl) rfl h (k11a o)
theorem k11x {p1 : Int} {c0_0 : List Int} {c0_1 : Bool} {r0 : Int} {d0_0 : List Int} {d0_1 : Bool} (h :
((0 ≤ (8 : Int)) ∧ ∀ (r5 : List Int) (r6 : List Int) (r7 : Bool), (r5 = ((tkB c0_0 c0_1 (8 : Int)).l) ∧ r6 = ((tkB c0_0 c0_1 (8 : Int)).b) ∧ r7 = ((tkB c0_0 c0_1 (8 : Int)).f)) → (By r5 ∧ r5.length ≤ 8) ∧ ∀ (r8 : Int), (r8 = (val r5)) → (r7 = true →
 k6s (r0, d0_0, d0_1, ()) (r8, true, r6, r7, ())) ∧
(r7 = false →
 k6s (r0, d0_0, d0_1, ()) (r8, (decide (p1 < r8) : Bool), r6, r7, ())))) : kd7 (p1, c0_0, c0_1, ()) (r0, d0_0, d0_1, ()) := WPh.of_eq (by kernel_rfl) h
theorem kx1 {r0 : Int} {d0_0 : List Int} {d0_1 : Bool} {s5 : Int} {s17 : Bool} {h0_0 : List Int} {h0_1 : Bool} (h :
((s17 = true →
 0 = r0 ∧ h0_0 = d0_0 ∧ true = d0_1) ∧
(s17 = false →
 s5 = r0 ∧ h0_0 = d0_0 ∧ h0_1 = d0_1))) : k6s (r0, d0_0, d0_1, ()) (s5, s17, h0_0, h0_1, ()) := ⟨mpr_of (by kernel_rfl) h⟩
theorem bd65 : Callable Try.prog 65 := ⟨by rw [Try.func65]; kernel_rfl, by rw [Try.func65]; show some _ ≠ some _; decide⟩
theorem kxk (p1 : Int) (c0_0 : List Int) (c0_1 : Bool) (h : By c0_0) : kd7 (p1, c0_0, c0_1, ()) ((((nB 8 c0_0 c0_1 p1).n) : Int), (((nB 8 c0_0 c0_1 p1).b) : List Int), (((nB 8 c0_0 c0_1 p1).f) : Bool), ()) := by
 refine k11x ⟨by omega, ?_⟩
 rintro _ _ _ ⟨rfl, rfl, rfl⟩
 have hl := tkB_len (b := c0_0) (f := c0_1) (k := 8)
 refine ⟨⟨tkB_l h, by omega⟩, ?_⟩
 rintro _ rfl
 have j : ∀ s, (s = decide ((tkB c0_0 c0_1 8).f = true ∨ p1 < val (tkB c0_0 c0_1 8).l)) → k6s ((nB 8 c0_0 c0_1 p1).n, (nB 8 c0_0 c0_1 p1).b, (nB 8 c0_0 c0_1 p1).f, ()) (val (tkB c0_0 c0_1 8).l, s, (tkB c0_0 c0_1 8).b, (tkB c0_0 c0_1 8).f, ()) := by
  intro s hs
  refine kx1 ⟨fun e => ?_, fun e => ?_⟩
  ·have e := of_decide_eq_true (hs.symm.trans e)
   unfold nB
   rw [if_pos e]
   exact ⟨rfl, rfl, rfl⟩
  ·have e := of_decide_eq_false (hs.symm.trans e)
   have hf : (tkB c0_0 c0_1 8).f = false := by
    cases hc : (tkB c0_0 c0_1 8).f
    ·rfl
    ·exact absurd (.inl hc) e
   unfold nB
   rw [if_neg e]
   exact ⟨rfl, rfl, hf⟩
 exact ⟨fun e => j _ (by simp [e]), fun e => j _ (by simp [e])⟩
def keg : Con TB.den := { k1w with R := fun x K => (fun (p1 : Int) (c0_0 : List Int) (c0_1 : Bool) => ((By c0_0) ∧ ∀ (v0 : Int) (v1 : List Int) (v2 : Bool), (v0 = (((nB 8 c0_0 c0_1 p1).n)) ∧ v1 = (((nB 8 c0_0 c0_1 p1).b)) ∧ v2 = (((nB 8 c0_0 c0_1 p1).f))) → K (v0, v1, v2, ()) : Prop)) x.1 x.2.1 x.2.2.1 }
theorem ko8 : keg.Ok Try.prog TB := ⟨bd65, fun x K hx => ⟨((fun (p1 : Int) (c0_0 : List Int) (c0_1 : Bool) => (((nB 8 c0_0 c0_1 p1).n) : Int)) x.1 x.2.1 x.2.2.1, (fun (p1 : Int) (c0_0 : List Int) (c0_1 : Bool) => (((nB 8 c0_0 c0_1 p1).b) : List Int)) x.1 x.2.1 x.2.2.1, (fun (p1 : Int) (c0_0 : List Int) (c0_1 : Bool) => (((nB 8 c0_0 c0_1 p1).f) : Bool)) x.1 x.2.1 x.2.2.1, ()), hx.2 ((fun (p1 : Int) (c0_0 : List Int) (c0_1 : Bool) => ((((nB 8 c0_0 c0_1 p1).n)))) x.1 x.2.1 x.2.2.1) ((fun (p1 : Int) (c0_0 : List Int) (c0_1 : Bool) => ((((nB 8 c0_0 c0_1 p1).b)))) x.1 x.2.1 x.2.2.1) ((fun (p1 : Int) (c0_0 : List Int) (c0_1 : Bool) => ((((nB 8 c0_0 c0_1 p1).f)))) x.1 x.2.1 x.2.2.1) ⟨rfl, rfl, rfl⟩, k115 (kxk x.1 x.2.1 x.2.2.1 hx.1)⟩⟩
def k56 : Con TB.den := Con.mk0 37 [.agg [.d (.int .u64), .d (.int .u64), .d (.int .u64), .d (.int .u64), .d (.int .u64), .d (.int .i64), .d (.int .i64), .d (.sl (.int .u64)), .d (.bool)], .one (.d (.int .i64))] [] (.one (.one (.d (.bool)))) []
abbrev k17l := HL TB.den (hsT k56.ins (hsOs k56.pre))
abbrev kns := HL TB.den (hsV k56.res (hsOs k56.post))
def kg2 : Cx TB := ⟨inf, [kid, kf4, kip], [], 4, []⟩
def km8 : Code := Try.f37.body.getD .skip
def ksi : List ResultVar := Try.f37.results.toList
def k144 (o : kns) : An TB := .no
def kmv (x : k17l) (o : kns) : Prop := WPh TB kg2 47 0 km8 (k144 o) (k56.st TB x) (retTQ TB kg2 k56 ksi o)
theorem k1h2 (o : kns) : OblH TB kg2 47 0 km8 (k144 o) (retTQ TB kg2 k56 ksi o) :=
 OblH.ofC (X := True) (by kernel_rfl) trivial
theorem k1go {x : k17l} {o : kns} (h : kmv x o) : k56.Snd Try.prog x o :=
 Con.soundH (c := k56) (C := kg2) TBok ⟨inf_ok, (all_cons kry (all_cons kn7 (all_cons ku4 all_nil))), all_nil⟩ mix Try.func37 (show Try.f37.body = some km8 by kernel_rfl) (show Try.f37.ntmps = 47 by kernel_rfl) (show Try.f37.results.toList = ksi by kernel_rfl) rfl h (k1h2 o)
theorem k1jn {p0 : TSpent} {p1 : Int} {r0 : Bool} (h :
(let r1 : Bool := (noteV (TNote.mk p0.Note_Value p0.Note_Owner p0.Note_Rho p0.Note_Blind))
(r1 = true →
((decide (p0.Key < 18446744069414584321)) = true →
(decide (0 ≤ p0.Number) = true →
(decide (p0.Number < 4) = true →
(((p0.Path.length : Int) == p1) = true →
(p0.Path.length ≤ 9223372036854775807) ∧ let r2 : Bool := (p0.Path.all (fun x => decide (x < 18446744069414584321)))
(r2 = true →
(decide (0 ≤ p0.Position) = true →
(0 ≤ p1) ∧ decide (p0.Position < (ishl .i64 1 p1)) = r0) ∧
(decide (0 ≤ p0.Position) = false →
 false = r0)) ∧
(r2 = false →
 false = r0)) ∧
(((p0.Path.length : Int) == p1) = false →
 false = r0)) ∧
(decide (p0.Number < 4) = false →
 false = r0)) ∧
(decide (0 ≤ p0.Number) = false →
 false = r0)) ∧
((decide (p0.Key < 18446744069414584321)) = false →
 false = r0)) ∧
(r1 = false →
 false = r0))) : kmv (p0.Note_Value, p0.Note_Owner, p0.Note_Rho, p0.Note_Blind, p0.Key, p0.Number, p0.Position, p0.Path, p0.Dummy, p1, ()) (r0, ()) := WPh.of_eq (by kernel_rfl) h
theorem bd37 : Callable Try.prog 37 := ⟨by rw [Try.func37]; kernel_rfl, by rw [Try.func37]; show some _ ≠ some _; decide⟩
theorem k1el (p0 : TSpent) (p1 : Int) (h : p0.Path.length ≤ 9223372036854775807) : kmv (p0.Note_Value, p0.Note_Owner, p0.Note_Rho, p0.Note_Blind, p0.Key, p0.Number, p0.Position, p0.Path, p0.Dummy, p1, ()) (((inpV p0 p1) : Bool), ()) := by
 refine k1jn ?_
 unfold inpV noteOf allB
 have e2 : (((p0.Path.length : Int) == p1) = true) ↔ (p0.Path.length : Int) = p1 := by simp
 have e3 : (decide ((p0.Path.length : Int) = p1)) = ((p0.Path.length : Int) == p1) := by rw [Bool.eq_iff_iff]; simp
 rw [e3]
 refine ⟨fun h1 => ?_, fun h1 => by rw [h1]; rfl⟩
 rw [h1]
 refine ⟨fun h2 => ?_, fun h2 => by rw [h2]; rfl⟩
 rw [h2]
 refine ⟨fun h3 => ?_, fun h3 => by rw [h3]; rfl⟩
 rw [h3]
 refine ⟨fun h4 => ?_, fun h4 => by rw [h4]; rfl⟩
 rw [h4]
 refine ⟨fun h5 => ?_, fun h5 => by rw [h5]; rfl⟩
 rw [h5]
 have h5 := e2.1 h5
 refine ⟨h, fun h6 => ?_, fun h6 => by rw [h6]; rfl⟩
 rw [h6]
 refine ⟨fun h7 => ?_, fun h7 => by rw [h7]; rfl⟩
 rw [h7]
 exact ⟨by omega, rfl⟩
def kzd : Con TB.den := k56.fnR (fun x => (fun (p0 : TSpent) (p1 : Int) => p0.Path.length ≤ 9223372036854775807) (TSpent.mk x.1 x.2.1 x.2.2.1 x.2.2.2.1 x.2.2.2.2.1 x.2.2.2.2.2.1 x.2.2.2.2.2.2.1 x.2.2.2.2.2.2.2.1 x.2.2.2.2.2.2.2.2.1) x.2.2.2.2.2.2.2.2.2.1) fun x => ((fun (p0 : TSpent) (p1 : Int) => ((inpV p0 p1) : Bool)) (TSpent.mk x.1 x.2.1 x.2.2.1 x.2.2.2.1 x.2.2.2.2.1 x.2.2.2.2.2.1 x.2.2.2.2.2.2.1 x.2.2.2.2.2.2.2.1 x.2.2.2.2.2.2.2.2.1) x.2.2.2.2.2.2.2.2.2.1, ())
theorem k1l4 : kzd.Ok Try.prog TB := Con.ok_fn k56 bd37 fun x h => k1go (k1el (TSpent.mk x.1 x.2.1 x.2.2.1 x.2.2.2.1 x.2.2.2.2.1 x.2.2.2.2.2.1 x.2.2.2.2.2.2.1 x.2.2.2.2.2.2.2.1 x.2.2.2.2.2.2.2.2.1) x.2.2.2.2.2.2.2.2.2.1 h)
def k45 : Con TB.den := Con.mk0 38 [.one (.d (.sl (.st 1)))] [] (.one (.one (.d (.bool)))) []
abbrev k17z := HL TB.den (hsT k45.ins (hsOs k45.pre))
abbrev kbc := HL TB.den (hsV k45.res (hsOs k45.post))
def k7z : Cx TB := ⟨inf, [kid], [], 4, []⟩
def kcn : Code := Try.f38.body.getD .skip
def kks : List ResultVar := Try.f38.results.toList
def k1ll (o : kbc) := qS TB k7z 16 0 (cB (cB kcn)) .no (retTQ TB k7z k45 kks o)
def kc1 : Tm := ⟨[], [], [0, 3], [.one (.d (.sl (.st 1))), .one (.d (.int .i64))], 0⟩
def kfx (o : kbc) (nx1 : NX TB kc1) (i : HL TB.den kc1.hs) : Prop := WP TB k7z 16 0 (cA (cA (cB (cA (cB kcn))))) .no (kc1.fill TB i) (qM TB 0 kc1 nx1 (blockT TB 0 (k1ll o)))
def k1il (o : kbc) : An TB := .nd [] .no [] (.lp [] kc1 (kfx o) fun nx1 => .no)
def k13m (o : kbc) : An TB := .nd [] .no [] (.nd [] (k1il o) [] .no)
def kly (x : k17z) (o : kbc) : Prop := WPh TB k7z 16 0 kcn (k13m o) (k45.st TB x) (retTQ TB k7z k45 kks o)
theorem k1h7 (o : kbc) : OblH TB k7z 16 0 kcn (k13m o) (retTQ TB k7z k45 kks o) :=
 OblH.ofC (X := ((∀ nx i, (kfx o) nx i = (kfx o) nx i) ∧ (∀ nx1 : NX TB kc1, True) ∧ True)) (by kernel_rfl) ⟨fun _ _ => rfl, fun _ => trivial, trivial⟩
theorem k1hy {x : k17z} {o : kbc} (h : kly x o) : k45.Snd Try.prog x o :=
 Con.soundH (c := k45) (C := k7z) TBok ⟨inf_ok, (all_cons kry all_nil), all_nil⟩ mix Try.func38 (show Try.f38.body = some kcn by kernel_rfl) (show Try.f38.ntmps = 16 by kernel_rfl) (show Try.f38.results.toList = kks by kernel_rfl) rfl h (k1h7 o)
theorem k1it {p0 : List TNote} {r0 : Bool} (h :
(Md.Loop (p0, (0 : Int), ()) (kfx (r0, ())))) : kly (p0, ()) (r0, ()) := WPh.of_eq (by kernel_rfl) h
def k14f (r0 : Bool) (k1 : Int → Prop) (s0 : List TNote) (s3 : Int) : Prop :=
(decide (s3 < (s0.length : Int)) = true →
(0 ≤ s3) ∧ s3 < (s0.length : Int) ∧ ((!(noteV (ix s0 s3))) = true →
 false = r0) ∧
((!(noteV (ix s0 s3))) = false →
 k1 (IntKind.i64.wrap (s3 + 1) : Int))) ∧
(decide (s3 < (s0.length : Int)) = false →
 true = r0)
theorem k1i0 {r0 : Bool} {s0 : List TNote} {s3 : Int} (inv : Int → Prop) (μ : Int → Nat) (h0 : inv s3) (hs : ∀ (s3 : Int), inv s3 → k14f r0 (fun s3q => inv s3q ∧ μ s3q < μ s3) s0 s3) : Md.Loop (s0, s3, ()) (kfx (r0, ())) :=
 ⟨⟨fun s : (List TNote) × Int × Unit => (s.1 = s0) ∧ inv s.2.1, fun s : (List TNote) × Int × Unit => μ s.2.1, ⟨rfl, h0⟩, fun (s0p, s3p, ()) ⟨eq0, hi⟩ => by
  have eq0 : s0p = s0 := eq0; subst s0p; exact mpr_of (by kernel_rfl) ((congrArg (fun k => k14f r0 k s0 s3p) (lpk1 (rfl : s0 = s0) inv (fun s3q => μ s3q < μ s3p))).mpr (hs s3p hi))⟩⟩
theorem bd38 : Callable Try.prog 38 := ⟨by rw [Try.func38]; kernel_rfl, by rw [Try.func38]; show some _ ≠ some _; decide⟩
theorem k1d9 (p0 : List TNote) (h : p0.length ≤ 9223372036854775807) : kly (p0, ()) (((p0.all noteV) : Bool), ()) := by
 refine k1it (k1i0 (AllI noteV p0) (fun i => (p0.length - i).toNat) AllI.start ?_)
 intro i hi
 refine ⟨fun hh => ?_, fun hh => (hi.done (of_decide_eq_false hh)).symm⟩
 have hh := of_decide_eq_true hh
 exact ⟨hi.1, hh, fun e => (hi.bad hh (by simpa using e)).symm, fun e => hi.next hh (by omega) (by simpa using e)⟩
def kzs : Con TB.den := k45.fnR (fun x => (fun (p0 : List TNote) => p0.length ≤ 9223372036854775807) x.1) fun x => ((fun (p0 : List TNote) => ((p0.all noteV) : Bool)) x.1, ())
theorem k1k6 : kzs.Ok Try.prog TB := Con.ok_fn k45 bd38 fun x h => k1hy (k1d9 x.1 h)
def k4d : Con TB.den := Con.mk0 25 [.agg [.d (.sl (.st 0)), .d (.sl (.st 1)), .d (.int .u64)]] [] (.one (.one (.d (.bool)))) []
abbrev k16v := HL TB.den (hsT k4d.ins (hsOs k4d.pre))
abbrev kbd := HL TB.den (hsV k4d.res (hsOs k4d.post))
def k87 : Cx TB := ⟨inf, [kf4, kzd, kzs], [], 4, []⟩
def kcb : Code := Try.f25.body.getD .skip
def kl4 : List ResultVar := Try.f25.results.toList
def k1lh (o : kbd) := qS TB k87 57 0 (cB (cB (cB kcb))) .no (retTQ TB k87 k4d kl4 o)
def kcc : Tm := ⟨[0], [.cells [.d (.sl (.st 0)), .d (.sl (.st 1)), .d (.int .u64)]], [1, 3], [.one (.ptr 0 0), .one (.d (.int .i64))], 1⟩
def kfp (o : kbd) (nx1 : NX TB kcc) (i : HL TB.den kcc.hs) : Prop := WP TB k87 57 0 (cA (cA (cB (cA (cB (cB kcb)))))) .no (kcc.fill TB i) (qM TB 0 kcc nx1 (blockT TB 0 (k1lh o)))
def k1k1 (o : kbd) : An TB := .nd [] .no [] (.lp [] kcc (kfp o) fun nx1 => .no)
def k142 (o : kbd) : An TB := .nd [] .no [] (.nd [] .no [] (.nd [] (k1k1 o) [] .no))
def kmu (x : k16v) (o : kbd) : Prop := WPh TB k87 57 0 kcb (k142 o) (k4d.st TB x) (retTQ TB k87 k4d kl4 o)
theorem k1h1 (o : kbd) : OblH TB k87 57 0 kcb (k142 o) (retTQ TB k87 k4d kl4 o) :=
 OblH.ofC (X := ((∀ nx i, (kfp o) nx i = (kfp o) nx i) ∧ (∀ nx1 : NX TB kcc, True) ∧ True)) (by kernel_rfl) ⟨fun _ _ => rfl, fun _ => trivial, trivial⟩
theorem k1hs {x : k16v} {o : kbd} (h : kmu x o) : k4d.Snd Try.prog x o :=
 Con.soundH (c := k4d) (C := k87) TBok ⟨inf_ok, (all_cons kn7 (all_cons k1l4 (all_cons k1k6 all_nil))), all_nil⟩ mix Try.func25 (show Try.f25.body = some kcb by kernel_rfl) (show Try.f25.ntmps = 57 by kernel_rfl) (show Try.f25.results.toList = kl4 by kernel_rfl) rfl h (k1h1 o)
theorem k1lm {p0 : TWitness} {r0 : Bool} (h :
((decide (4 < (p0.Ins.length : Int)) = true →
 false = r0) ∧
(decide (4 < (p0.Ins.length : Int)) = false →
(decide (4 < (p0.Outs.length : Int)) = true →
 false = r0) ∧
(decide (4 < (p0.Outs.length : Int)) = false →
 let r1 : Bool := (decide (p0.Secret < 18446744069414584321))
((!r1) = true →
 false = r0) ∧
((!r1) = false →
 Md.Loop ((0 : Int), p0.Ins, p0.Outs, p0.Secret, ()) (kfp (r0, ()))))))) : kmu (p0.Ins, p0.Outs, p0.Secret, ()) (r0, ()) := WPh.of_eq (by kernel_rfl) h
def k12t (r0 : Bool) (k1 : Int → Prop) (h0_0 : List TSpent) (h0_1 : List TNote) (h0_2 : Int) (s3 : Int) : Prop :=
(decide (s3 < (h0_0.length : Int)) = true →
(0 ≤ s3) ∧ s3 < (h0_0.length : Int) ∧ let v2 : Bool := decide (12 < (((ix h0_0 s3).Path).length : Int))
(v2 = true →
 false = r0) ∧
(v2 = false →
(decide (((ix h0_0 s3).Position) < 0) = true →
 false = r0) ∧
(decide (((ix h0_0 s3).Position) < 0) = false →
(decide (4096 ≤ ((ix h0_0 s3).Position)) = true →
 false = r0) ∧
(decide (4096 ≤ ((ix h0_0 s3).Position)) = false →
((TSpent.mk ((ix h0_0 s3).Note_Value) ((ix h0_0 s3).Note_Owner) ((ix h0_0 s3).Note_Rho) ((ix h0_0 s3).Note_Blind) ((ix h0_0 s3).Key) ((ix h0_0 s3).Number) 0 ((ix h0_0 s3).Path) ((ix h0_0 s3).Dummy)).Path.length ≤ 9223372036854775807) ∧ let r3 : Bool := (inpV (TSpent.mk ((ix h0_0 s3).Note_Value) ((ix h0_0 s3).Note_Owner) ((ix h0_0 s3).Note_Rho) ((ix h0_0 s3).Note_Blind) ((ix h0_0 s3).Key) ((ix h0_0 s3).Number) 0 ((ix h0_0 s3).Path) ((ix h0_0 s3).Dummy)) (((ix h0_0 s3).Path).length : Int))
((!r3) = true →
 false = r0) ∧
((!r3) = false →
 k1 (IntKind.i64.wrap (s3 + 1) : Int)))))) ∧
(decide (s3 < (h0_0.length : Int)) = false →
(h0_1.length ≤ 9223372036854775807) ∧ (h0_1.all noteV) = r0)
theorem k1h9 {r0 : Bool} {h0_0 : List TSpent} {h0_1 : List TNote} {h0_2 : Int} {s3 : Int} (inv : Int → Prop) (μ : Int → Nat) (h0 : inv s3) (hs : ∀ (s3 : Int), inv s3 → k12t r0 (fun s3q => inv s3q ∧ μ s3q < μ s3) h0_0 h0_1 h0_2 s3) : Md.Loop (s3, h0_0, h0_1, h0_2, ()) (kfp (r0, ())) :=
 ⟨⟨fun s : Int × (List TSpent) × (List TNote) × Int × Unit => (s.2.1 = h0_0 ∧ s.2.2.1 = h0_1 ∧ s.2.2.2.1 = h0_2) ∧ inv s.1, fun s : Int × (List TSpent) × (List TNote) × Int × Unit => μ s.1, ⟨⟨rfl, rfl, rfl⟩, h0⟩, fun (s3p, h0_0p, h0_1p, h0_2p, ()) ⟨⟨eq0, eq1, eq2⟩, hi⟩ => by
  have eq0 : h0_0p = h0_0 := eq0; subst h0_0p; have eq1 : h0_1p = h0_1 := eq1; subst h0_1p; have eq2 : h0_2p = h0_2 := eq2; subst h0_2p; exact mpr_of (by kernel_rfl) ((congrArg (fun k => k12t r0 k h0_0 h0_1 h0_2 s3p) (lpk1 (⟨rfl, rfl, rfl⟩ : h0_0 = h0_0 ∧ h0_1 = h0_1 ∧ h0_2 = h0_2) inv (fun s3q => μ s3q < μ s3p))).mpr (hs s3p hi))⟩⟩
theorem bd25 : Callable Try.prog 25 := ⟨by rw [Try.func25]; kernel_rfl, by rw [Try.func25]; show some _ ≠ some _; decide⟩
theorem k1ei (p0 : TWitness) (h : p0.Ins.length ≤ 9223372036854775807 ∧ p0.Outs.length ≤ 9223372036854775807 ∧ (∀ x ∈ p0.Ins, x.Path.length ≤ 9223372036854775807)) : kmu (p0.Ins, p0.Outs, p0.Secret, ()) (((rightV p0) : Bool), ()) := by
 obtain ⟨h1, h2, h3⟩ := h
 have no : ¬ (p0.Ins.length ≤ 4 ∧ p0.Outs.length ≤ 4 ∧ p0.Secret < 18446744069414584321 ∧ (∀ x ∈ p0.Ins, spendV x = true) ∧ ∀ x ∈ p0.Outs, noteV x = true) → false = rightV p0 := by
  intro h
  cases hr : rightV p0 with
  | false => rfl
  | true => exact (h (kde.1 hr)).elim
 refine k1lm ⟨fun h => no fun a => ?_, fun e1 => ⟨fun h => no fun a => ?_, fun e2 => ⟨fun h => no fun a => ?_, fun e3 => ?_⟩⟩⟩
 ·have h := of_decide_eq_true h; omega
 ·have h := of_decide_eq_true h; omega
 ·rw [decide_eq_true a.2.2.1] at h; cases h
 have e1 := of_decide_eq_false e1
 have e2 := of_decide_eq_false e2
 have e3 : p0.Secret < 18446744069414584321 := by simpa using e3
 refine k1h9 (AllI spendV p0.Ins) (fun i => (p0.Ins.length - i).toNat) AllI.start ?_
 intro i hi
 refine ⟨fun hh => ?_, fun hh => ?_⟩
 ·have hh := of_decide_eq_true hh
  have hm := ix_mem p0.Ins i hi.1 hh
  have bad : spendV (ix p0.Ins i) = false → false = rightV p0 := fun e => no fun a => by rw [a.2.2.2.1 _ hm] at e; cases e
  have bad2 : ¬ (0 ≤ (ix p0.Ins i).Position ∧ (ix p0.Ins i).Position ≤ 4095 ∧ (ix p0.Ins i).Path.length ≤ 12) → false = rightV p0 := fun e => bad (by
   cases hc : spendV (ix p0.Ins i) with
   | false => rfl
   | true => exact (e ⟨(kd3.1 hc).2.2.2.2.1, (kd3.1 hc).2.2.2.2.2.1, (kd3.1 hc).2.2.2.2.2.2.1⟩).elim)
  refine ⟨hi.1, hh, fun e => bad2 ?_, fun q1 => ⟨fun e => bad2 ?_, fun q2 => ⟨fun e => bad2 ?_, fun q3 => ?_⟩⟩⟩
  ·have e := of_decide_eq_true e; omega
  ·have e := of_decide_eq_true e; omega
  ·have e := of_decide_eq_true e; omega
  have q1 := of_decide_eq_false q1
  have q2 := of_decide_eq_false q2
  have q3 := of_decide_eq_false q3
  rw [k1ox (x := ix p0.Ins i) (by omega) (by omega) (by omega)]
  refine ⟨h3 (ix p0.Ins i) hm, fun e => bad (by simpa using e), fun e => hi.next hh (by omega) (by simpa using e)⟩
 ·have ha := hi.done (of_decide_eq_false hh)
  refine ⟨h2, ?_⟩
  cases hn : p0.Outs.all noteV with
  | false => exact no fun a => by rw [List.all_eq_true.2 a.2.2.2.2] at hn; cases hn
  | true => exact (kde.2 ⟨by omega, by omega, e3, List.all_eq_true.1 ha, List.all_eq_true.1 hn⟩).symm
def k108 : Con TB.den := k4d.fnR (fun x => (fun (p0 : TWitness) => p0.Ins.length ≤ 9223372036854775807 ∧ p0.Outs.length ≤ 9223372036854775807 ∧ (∀ x ∈ p0.Ins, x.Path.length ≤ 9223372036854775807)) (TWitness.mk x.1 x.2.1 x.2.2.1)) fun x => ((fun (p0 : TWitness) => ((rightV p0) : Bool)) (TWitness.mk x.1 x.2.1 x.2.2.1), ())
theorem k1kt : k108.Ok Try.prog TB := Con.ok_fn k4d bd25 fun x h => k1hs (k1ei (TWitness.mk x.1 x.2.1 x.2.2.1) h)
def k6v : Con TB.den := Con.mk0 64 [.one (.ptr 0 0)] [.cells [.d (.sl (.int .u8)), .d (.bool)]] (.one (.agg [.d (.int .u64), .d (.int .u64), .d (.int .u64), .d (.int .u64)])) [.cells [.d (.sl (.int .u8)), .d (.bool)]]
abbrev k1aq := HL TB.den (hsT k6v.ins (hsOs k6v.pre))
abbrev kqj := HL TB.den (hsV k6v.res (hsOs k6v.post))
def khs : Cx TB := ⟨inf, [keg], [], 4, []⟩
def kp4 : Code := Try.f64.body.getD .skip
def kur : List ResultVar := Try.f64.results.toList
def k17o (o : kqj) : An TB := .no
def kpe (x : k1aq) (o : kqj) : Prop := WPh TB khs 17 1 kp4 (k17o o) (k6v.st TB x) (retTQ TB khs k6v kur o)
theorem k1in (o : kqj) : OblH TB khs 17 1 kp4 (k17o o) (retTQ TB khs k6v kur o) :=
 OblH.ofC (X := True) (by kernel_rfl) trivial
theorem k1k5 {x : k1aq} {o : kqj} (h : kpe x o) : k6v.Snd Try.prog x o :=
 Con.soundH (c := k6v) (C := khs) TBok ⟨inf_ok, (all_cons ko8 all_nil), all_nil⟩ mix Try.func64 (show Try.f64.body = some kp4 by kernel_rfl) (show Try.f64.ntmps = 17 by kernel_rfl) (show Try.f64.results.toList = kur by kernel_rfl) rfl h (k1in o)
theorem k1lr {c0_0 : List Int} {c0_1 : Bool} {r0 : TNote} {d0_0 : List Int} {d0_1 : Bool} (h :
((By c0_0) ∧ ∀ (r4 : Int) (r5 : List Int) (r6 : Bool), (r4 = ((nB 8 c0_0 c0_1 (18446744073709551615 : Int)).n) ∧ r5 = ((nB 8 c0_0 c0_1 (18446744073709551615 : Int)).b) ∧ r6 = ((nB 8 c0_0 c0_1 (18446744073709551615 : Int)).f)) → (By r5) ∧ ∀ (r10 : Int) (r11 : List Int) (r12 : Bool), (r10 = ((nB 8 r5 r6 (18446744073709551615 : Int)).n) ∧ r11 = ((nB 8 r5 r6 (18446744073709551615 : Int)).b) ∧ r12 = ((nB 8 r5 r6 (18446744073709551615 : Int)).f)) → (By r11) ∧ ∀ (r16 : Int) (r17 : List Int) (r18 : Bool), (r16 = ((nB 8 r11 r12 (18446744073709551615 : Int)).n) ∧ r17 = ((nB 8 r11 r12 (18446744073709551615 : Int)).b) ∧ r18 = ((nB 8 r11 r12 (18446744073709551615 : Int)).f)) → (By r17) ∧ ∀ (r22 : Int) (r23 : List Int) (r24 : Bool), (r22 = ((nB 8 r17 r18 (18446744073709551615 : Int)).n) ∧ r23 = ((nB 8 r17 r18 (18446744073709551615 : Int)).b) ∧ r24 = ((nB 8 r17 r18 (18446744073709551615 : Int)).f)) → r4 = r0.Value ∧ r10 = r0.Owner ∧ r16 = r0.Rho ∧ r22 = r0.Blind ∧ r23 = d0_0 ∧ r24 = d0_1)) : kpe (c0_0, c0_1, ()) (r0.Value, r0.Owner, r0.Rho, r0.Blind, d0_0, d0_1, ()) := WPh.of_eq (by kernel_rfl) h
theorem bd64 : Callable Try.prog 64 := ⟨by rw [Try.func64]; kernel_rfl, by rw [Try.func64]; show some _ ≠ some _; decide⟩
theorem k1hq (c0_0 : List Int) (c0_1 : Bool) (h : By c0_0) : kpe (c0_0, c0_1, ()) ((((nNt c0_0 c0_1).n).Value : Int), (((nNt c0_0 c0_1).n).Owner : Int), (((nNt c0_0 c0_1).n).Rho : Int), (((nNt c0_0 c0_1).n).Blind : Int), (((nNt c0_0 c0_1).b) : List Int), (((nNt c0_0 c0_1).f) : Bool), ()) := by
 have h1 := (nB_b (k := 8) (f := c0_1) (m := 18446744073709551615) h).1
 refine k1lr (r0 := (nNt c0_0 c0_1).n) ⟨h, ?_⟩
 rintro _ _ _ ⟨rfl, rfl, rfl⟩
 refine ⟨h1, ?_⟩
 have h2 := (nB_b (k := 8) (f := (nB 8 c0_0 c0_1 18446744073709551615).f) (m := 18446744073709551615) h1).1
 rintro _ _ _ ⟨rfl, rfl, rfl⟩
 refine ⟨h2, ?_⟩
 rintro _ _ _ ⟨rfl, rfl, rfl⟩
 refine ⟨(nB_b h2).1, ?_⟩
 rintro _ _ _ ⟨rfl, rfl, rfl⟩
 exact ⟨rfl, rfl, rfl, rfl, rfl, rfl⟩
def k12i : Con TB.den := { k6v with R := fun x K => (fun (c0_0 : List Int) (c0_1 : Bool) => ((By c0_0) ∧ ∀ (v0 : TNote) (v1 : List Int) (v2 : Bool), (v0 = (((nNt c0_0 c0_1).n)) ∧ v1 = (((nNt c0_0 c0_1).b)) ∧ v2 = (((nNt c0_0 c0_1).f))) → K (v0.Value, v0.Owner, v0.Rho, v0.Blind, v1, v2, ()) : Prop)) x.1 x.2.1 }
theorem k1m6 : k12i.Ok Try.prog TB := ⟨bd64, fun x K hx => ⟨((fun (c0_0 : List Int) (c0_1 : Bool) => (((nNt c0_0 c0_1).n).Value : Int)) x.1 x.2.1, (fun (c0_0 : List Int) (c0_1 : Bool) => (((nNt c0_0 c0_1).n).Owner : Int)) x.1 x.2.1, (fun (c0_0 : List Int) (c0_1 : Bool) => (((nNt c0_0 c0_1).n).Rho : Int)) x.1 x.2.1, (fun (c0_0 : List Int) (c0_1 : Bool) => (((nNt c0_0 c0_1).n).Blind : Int)) x.1 x.2.1, (fun (c0_0 : List Int) (c0_1 : Bool) => (((nNt c0_0 c0_1).b) : List Int)) x.1 x.2.1, (fun (c0_0 : List Int) (c0_1 : Bool) => (((nNt c0_0 c0_1).f) : Bool)) x.1 x.2.1, ()), hx.2 ((fun (c0_0 : List Int) (c0_1 : Bool) => ((((nNt c0_0 c0_1).n)))) x.1 x.2.1) ((fun (c0_0 : List Int) (c0_1 : Bool) => ((((nNt c0_0 c0_1).b)))) x.1 x.2.1) ((fun (c0_0 : List Int) (c0_1 : Bool) => ((((nNt c0_0 c0_1).f)))) x.1 x.2.1) ⟨rfl, rfl, rfl⟩, k1k5 (k1hq x.1 x.2.1 hx.1)⟩⟩
def k23 : Con TB.den := Con.mk0 29 [.one (.d (.sl (.int .u8)))] [] (.tup [.agg [.d (.sl (.st 0)), .d (.sl (.st 1)), .d (.int .u64)], .one (.d (.bool))]) []
abbrev k12p := HL TB.den (hsT k23.ins (hsOs k23.pre))
abbrev kr := HL TB.den (hsV k23.res (hsOs k23.post))
def k1l : Cx TB := ⟨inf, [kfq, k12i, keg, kls, k108], [], 4, []⟩
def k4w : Code := Try.f29.body.getD .skip
def k7g : List ResultVar := Try.f29.results.toList
def k1i1 (o : kr) := qS TB k1l 95 0 (cB (cB (cB (cB (cB (cB (cB (cB (cB k4w))))))))) .no (retTQ TB k1l k23 k7g o)
def kgu : Tm := ⟨[0, 2, 3, 4], [.cells [.full (.st 0), .full (.st 1), .d (.int .u64)], .cells [.own 2, .own 3, .d (.int .u64)], .tip (.st 0), .tip (.st 1)], [2, 5, 92], [.one (.ptr 0 0), .one (.ptr 1 0), .one (.d (.bool))], 5⟩
def kw6 (o : kr) (i : HL TB.den kgu.hs) : Prop := ghs TB [] (kgu.fill TB i) fun s => WP TB k1l 95 0 (cB (cA (cB (cB (cB (cB (cB (cB (cB (cB k4w)))))))))) .no s (k1i1 o)
structure k8u (o : kr) (i : HL TB.den kgu.hs) : Prop where
 h : kw6 o i
def kz6 (o : kr) : An TB := .nd [] (.jn kgu (k8u o) [] .no [] .no) [] .no
def kcy : Tm := ⟨[0, 1, 2, 3, 4], [.cells [.full (.st 0), .full (.st 1), .d (.int .u64)], .cells [.d (.sl (.int .u8)), .d (.bool)], .cells [.own 3, .own 4, .d (.int .u64)], .tip (.st 0), .tip (.st 1)], [2, 4, 5], [.one (.ptr 0 0), .one (.ptr 1 0), .one (.ptr 2 0)], 5⟩
def kwb (o : kr) (i : HL TB.den kcy.hs) : Prop := ghs TB [] (kcy.fill TB i) fun s => WP TB k1l 95 0 (cB (cB (cB (cB (cB (cB (cB k4w))))))) (.nd [] .no [] (kz6 o)) s (retTQ TB k1l k23 k7g o)
structure k90 (o : kr) (i : HL TB.den kcy.hs) : Prop where
 h : kwb o i
def k1hl (o : kr) := qM TB 0 kcy (k90 o) (retTQ TB k1l k23 k7g o)
def kas : Tm := ⟨[0, 1, 2, 3, 4], [.cells [.full (.st 0), .full (.st 1), .d (.int .u64)], .cells [.d (.sl (.int .u8)), .d (.bool)], .cells [.own 3, .own 4, .d (.int .u64)], .tip (.st 0), .tip (.st 1)], [2, 4, 5, 6, 9], [.one (.ptr 0 0), .one (.ptr 1 0), .one (.ptr 2 0), .one (.d (.int .i64)), .one (.d (.int .i64))], 5⟩
def kdu (o : kr) (nx2 : NX TB kas) (i : HL TB.den kas.hs) : Prop := WP TB k1l 95 0 (cA (cA (cB (cA (cB (cB (cB (cB (cB (cB k4w)))))))))) .no (kas.fill TB i) (qM TB 0 kas nx2 (blockT TB 2 (k1hl o)))
def k1gj (o : kr) : An TB := .lp [.tokc 2 1 (.st 1)] kas (kdu o) fun nx2 => .no
def kzp (o : kr) : An TB := .jn kcy (k90 o) [] (.nd [] .no [] (k1gj o)) [] (.nd [] .no [] (kz6 o))
def kcx : Tm := ⟨[0, 1, 2, 3], [.cells [.full (.st 0), .full (.st 1), .d (.int .u64)], .cells [.d (.sl (.int .u8)), .d (.bool)], .cells [.own 3, .full (.st 1), .d (.int .u64)], .tip (.st 0)], [2, 4, 5], [.one (.ptr 0 0), .one (.ptr 1 0), .one (.ptr 2 0)], 4⟩
def kvi (o : kr) (i : HL TB.den kcx.hs) : Prop := ghs TB [] (kcx.fill TB i) fun s => WP TB k1l 95 0 (cB (cB (cB (cB (cB k4w))))) (.nd [] .no [] (kzp o)) s (retTQ TB k1l k23 k7g o)
structure k8z (o : kr) (i : HL TB.den kcx.hs) : Prop where
 h : kvi o i
def k1hi (o : kr) := qM TB 0 kcx (k8z o) (retTQ TB k1l k23 k7g o)
def kan : Tm := ⟨[0, 1, 2, 3], [.cells [.full (.st 0), .full (.st 1), .d (.int .u64)], .cells [.d (.sl (.int .u8)), .d (.bool)], .cells [.own 3, .full (.st 1), .d (.int .u64)], .tip (.st 0)], [2, 4, 5, 6, 7], [.one (.ptr 0 0), .one (.ptr 1 0), .one (.ptr 2 0), .one (.d (.int .i64)), .one (.d (.int .i64))], 4⟩
def kdz (o : kr) (nx1 : NX TB kan) (i : HL TB.den kan.hs) : Prop := WP TB k1l 95 0 (cA (cA (cB (cA (cB (cB (cB (cB k4w)))))))) .no (kan.fill TB i) (qM TB 0 kan nx1 (blockT TB 0 (k1hi o)))
def k1ep (o : kr) : An TB := .lp [.tokc 2 0 (.st 0)] kan (kdz o) fun nx1 => .no
def k1cx (o : kr) : An TB := .jn kcx (k8z o) [] (.nd [] .no [] (k1ep o)) [] (.nd [] .no [] (kzp o))
def k1dk (o : kr) : An TB := .nd [] .no [] (.nd [] .no [] (.nd [] .no [] (k1cx o)))
def k10b (o : kr) : An TB := .nd [] .no [] (k1dk o)
def kl9 (x : k12p) (o : kr) : Prop := WPh TB k1l 95 0 k4w (k10b o) (k23.st TB x) (retTQ TB k1l k23 k7g o)
theorem k1f3 (o : kr) : OblH TB k1l 95 0 k4w (k10b o) (retTQ TB k1l k23 k7g o) :=
 OblH.ofC (X := ((∀ nx i, (kdz o) nx i = (kdz o) nx i) ∧ (∀ nx1 : NX TB kan, True) ∧ (∀ i, (k8z o) i = kvi o i) ∧ (∀ nx i, (kdu o) nx i = (kdu o) nx i) ∧ (∀ nx2 : NX TB kas, True) ∧ (∀ i, (k90 o) i = kwb o i) ∧ (∀ i, (k8u o) i = kw6 o i) ∧ True)) (by kernel_rfl) ⟨fun _ _ => rfl, fun _ => trivial, fun _ => propext ⟨fun h => h.1, fun h => ⟨h⟩⟩, fun _ _ => rfl, fun _ => trivial, fun _ => propext ⟨fun h => h.1, fun h => ⟨h⟩⟩, fun _ => propext ⟨fun h => h.1, fun h => ⟨h⟩⟩, trivial⟩
theorem k1db {x : k12p} {o : kr} (h : kl9 x o) : k23.Snd Try.prog x o :=
 Con.soundH (c := k23) (C := k1l) TBok ⟨inf_ok, (all_cons kpx (all_cons k1m6 (all_cons ko8 (all_cons k126 (all_cons k1kt all_nil))))), all_nil⟩ mix Try.func29 (show Try.f29.body = some k4w by kernel_rfl) (show Try.f29.ntmps = 95 by kernel_rfl) (show Try.f29.results.toList = k7g by kernel_rfl) rfl h (k1f3 o)
theorem k1hx {p0 : List Int} {r0 : TWitness} {r1 : Bool} (h :
((By p0) ∧ ∀ (r5 : Int) (r6 : List Int) (r7 : Bool), (r5 = ((nB 4 p0 false (4 : Int)).n) ∧ r6 = ((nB 4 p0 false (4 : Int)).b) ∧ r7 = ((nB 4 p0 false (4 : Int)).f)) → (([] : List TSpent) = ([] : List TSpent)) ∧ Md.Loop (r5, (0 : Int), (([] : List TSpent) : List TSpent), (([] : List TNote) : List TNote), (0 : Int), r6, r7, (([] : List TNote) : List TNote), (0 : Int), (([] : List TSpent) : List TSpent), ()) (kdz (r0.Ins, r0.Outs, r0.Secret, r1, ())))) : kl9 (p0, ()) (r0.Ins, r0.Outs, r0.Secret, r1, ()) := WPh.of_eq (by kernel_rfl) h
theorem k18s {r0 : TWitness} {r1 : Bool} {h0_0 : List TSpent} {h0_1 : List TNote} {h0_2 : Int} {h1_0 : List Int} {h1_1 : Bool} {h2_1 : List TNote} {h2_2 : Int} {g3 : List TSpent} (h :
((By h1_0) ∧ ∀ (r84 : Int) (r85 : List Int) (r86 : Bool), (r84 = ((nB 4 h1_0 h1_1 (4 : Int)).n) ∧ r85 = ((nB 4 h1_0 h1_1 (4 : Int)).b) ∧ r86 = ((nB 4 h1_0 h1_1 (4 : Int)).f)) → (h2_1 = h2_1) ∧ (g3 = g3) ∧ Md.Loop (r84, (0 : Int), h0_0, h0_1, h0_2, r85, r86, h2_2, g3, h2_1, ()) (kdu (r0.Ins, r0.Outs, r0.Secret, r1, ())))) : k8z (r0.Ins, r0.Outs, r0.Secret, r1, ()) (h0_0, h0_1, h0_2, h1_0, h1_1, h2_1, h2_2, g3, ()) := ⟨mpr_of (by kernel_rfl) h⟩
theorem k18c {r0 : TWitness} {r1 : Bool} {h0_0 : List TSpent} {h0_1 : List TNote} {h0_2 : Int} {h1_0 : List Int} {h1_1 : Bool} {h2_2 : Int} {g3 : List TSpent} {g4 : List TNote} (h :
((By h1_0) ∧ ∀ (r96 : Int) (r97 : List Int) (r98 : Bool), (r96 = ((nB 8 h1_0 h1_1 (18446744073709551615 : Int)).n) ∧ r97 = ((nB 8 h1_0 h1_1 (18446744073709551615 : Int)).b) ∧ r98 = ((nB 8 h1_0 h1_1 (18446744073709551615 : Int)).f)) → (r98 = true →
(g4 = g4) ∧ (g3 = g3) ∧ k8u (r0.Ins, r0.Outs, r0.Secret, r1, ()) (true, h0_0, h0_1, h0_2, r96, g3, g4, ())) ∧
(r98 = false →
(decide (0 < (r97.length : Int)) = true →
(g4 = g4) ∧ (g3 = g3) ∧ k8u (r0.Ins, r0.Outs, r0.Secret, r1, ()) (true, h0_0, h0_1, h0_2, r96, g3, g4, ())) ∧
(decide (0 < (r97.length : Int)) = false →
((TWitness.mk g3 g4 r96).Ins.length ≤ 9223372036854775807 ∧ (TWitness.mk g3 g4 r96).Outs.length ≤ 9223372036854775807 ∧ (∀ x ∈ (TWitness.mk g3 g4 r96).Ins, x.Path.length ≤ 9223372036854775807)) ∧ (g4 = g4) ∧ (g3 = g3) ∧ k8u (r0.Ins, r0.Outs, r0.Secret, r1, ()) (((!(rightV (TWitness.mk g3 g4 r96))) : Bool), h0_0, h0_1, h0_2, r96, g3, g4, ()))))) : k90 (r0.Ins, r0.Outs, r0.Secret, r1, ()) (h0_0, h0_1, h0_2, h1_0, h1_1, h2_2, g3, g4, ()) := ⟨mpr_of (by kernel_rfl) h⟩
theorem k19d {r0 : TWitness} {r1 : Bool} {s92 : Bool} {h0_0 : List TSpent} {h0_1 : List TNote} {h0_2 : Int} {h2_2 : Int} {g3 : List TSpent} {g4 : List TNote} (h :
((s92 = true →
([] : List TSpent) = r0.Ins ∧ ([] : List TNote) = r0.Outs ∧ 0 = r0.Secret ∧ false = r1) ∧
(s92 = false →
 g3 = r0.Ins ∧ g4 = r0.Outs ∧ h2_2 = r0.Secret ∧ true = r1))) : k8u (r0.Ins, r0.Outs, r0.Secret, r1, ()) (s92, h0_0, h0_1, h0_2, h2_2, g3, g4, ()) := ⟨mpr_of (by kernel_rfl) h⟩
def kz1 (r0 : TWitness) (r1 : Bool) (k1 : Int → List Int → Bool → List TSpent → Prop) (s6 : Int) (h0_0 : List TSpent) (h0_1 : List TNote) (h0_2 : Int) (h2_1 : List TNote) (h2_2 : Int) (s7 : Int) (h1_0 : List Int) (h1_1 : Bool) (g3 : List TSpent) : Prop :=
(decide (s7 < s6) = true →
((!h1_1) = true →
(By h1_0) ∧ ∀ (r47 : TNote) (r48 : List Int) (r49 : Bool), (r47 = ((nNt h1_0 h1_1).n) ∧ r48 = ((nNt h1_0 h1_1).b) ∧ r49 = ((nNt h1_0 h1_1).f)) → (By r48) ∧ ∀ (r53 : Int) (r54 : List Int) (r55 : Bool), (r53 = ((nB 8 r48 r49 (18446744073709551615 : Int)).n) ∧ r54 = ((nB 8 r48 r49 (18446744073709551615 : Int)).b) ∧ r55 = ((nB 8 r48 r49 (18446744073709551615 : Int)).f)) → (By r54) ∧ ∀ (r59 : Int) (r60 : List Int) (r61 : Bool), (r59 = ((nB 4 r54 r55 (4294967296 : Int)).n) ∧ r60 = ((nB 4 r54 r55 (4294967296 : Int)).b) ∧ r61 = ((nB 4 r54 r55 (4294967296 : Int)).f)) → (By r60) ∧ ∀ (r65 : Int) (r66 : List Int) (r67 : Bool), (r65 = ((nB 4 r60 r61 (4294967296 : Int)).n) ∧ r66 = ((nB 4 r60 r61 (4294967296 : Int)).b) ∧ r67 = ((nB 4 r60 r61 (4294967296 : Int)).f)) → (By r66 ∧ r66.length ≤ 137438953472) ∧ ∀ (r71 : List Int) (r72 : List Int) (r73 : Bool), (r71 = ((lB r66 r67 (12 : Int) (18446744069414584321 : Int)).l) ∧ r72 = ((lB r66 r67 (12 : Int) (18446744069414584321 : Int)).b) ∧ r73 = ((lB r66 r67 (12 : Int) (18446744069414584321 : Int)).f)) → (By r72) ∧ ∀ (r77 : Int) (r78 : List Int) (r79 : Bool), (r77 = ((nB 4 r72 r73 (1 : Int)).n) ∧ r78 = ((nB 4 r72 r73 (1 : Int)).b) ∧ r79 = ((nB 4 r72 r73 (1 : Int)).f)) → let v80 : List TSpent := [TSpent.mk r47.Value r47.Owner r47.Rho r47.Blind r53 r59 r65 r71 (r77 == 1)]
 g3.length = g3.length ∧ (g3.length + v80.length) * 88 ≤ 140737488355328 ∧ g3.length + v80.length ≤ maxLen ∧ (g3 ++ v80 = g3 ++ v80) ∧ k1 (IntKind.i64.wrap (s7 + 1) : Int) r78 r79 (g3 ++ v80 : List TSpent)) ∧
((!h1_1) = false →
(g3 = g3) ∧ k8z (r0.Ins, r0.Outs, r0.Secret, r1, ()) (h0_0, h0_1, h0_2, h1_0, h1_1, h2_1, h2_2, g3, ()))) ∧
(decide (s7 < s6) = false →
(g3 = g3) ∧ k8z (r0.Ins, r0.Outs, r0.Secret, r1, ()) (h0_0, h0_1, h0_2, h1_0, h1_1, h2_1, h2_2, g3, ()))
theorem k1e8 {r0 : TWitness} {r1 : Bool} {s6 : Int} {h0_0 : List TSpent} {h0_1 : List TNote} {h0_2 : Int} {h2_1 : List TNote} {h2_2 : Int} {s7 : Int} {h1_0 : List Int} {h1_1 : Bool} {g3 : List TSpent} (inv : Int → List Int → Bool → List TSpent → Prop) (μ : Int → List Int → Bool → List TSpent → Nat) (h0 : inv s7 h1_0 h1_1 g3) (hs : ∀ (s7 : Int) (h1_0 : List Int) (h1_1 : Bool) (g3 : List TSpent), inv s7 h1_0 h1_1 g3 → kz1 r0 r1 (fun s7q h1_0q h1_1q g3q => inv s7q h1_0q h1_1q g3q ∧ μ s7q h1_0q h1_1q g3q < μ s7 h1_0 h1_1 g3) s6 h0_0 h0_1 h0_2 h2_1 h2_2 s7 h1_0 h1_1 g3) : Md.Loop (s6, s7, h0_0, h0_1, h0_2, h1_0, h1_1, h2_1, h2_2, g3, ()) (kdz (r0.Ins, r0.Outs, r0.Secret, r1, ())) :=
 ⟨⟨fun s : Int × Int × (List TSpent) × (List TNote) × Int × (List Int) × Bool × (List TNote) × Int × (List TSpent) × Unit => (s.1 = s6 ∧ s.2.2.1 = h0_0 ∧ s.2.2.2.1 = h0_1 ∧ s.2.2.2.2.1 = h0_2 ∧ s.2.2.2.2.2.2.2.1 = h2_1 ∧ s.2.2.2.2.2.2.2.2.1 = h2_2) ∧ inv s.2.1 s.2.2.2.2.2.1 s.2.2.2.2.2.2.1 s.2.2.2.2.2.2.2.2.2.1, fun s : Int × Int × (List TSpent) × (List TNote) × Int × (List Int) × Bool × (List TNote) × Int × (List TSpent) × Unit => μ s.2.1 s.2.2.2.2.2.1 s.2.2.2.2.2.2.1 s.2.2.2.2.2.2.2.2.2.1, ⟨⟨rfl, rfl, rfl, rfl, rfl, rfl⟩, h0⟩, fun (s6p, s7p, h0_0p, h0_1p, h0_2p, h1_0p, h1_1p, h2_1p, h2_2p, g3p, ()) ⟨⟨eq0, eq1, eq2, eq3, eq4, eq5⟩, hi⟩ => by
  have eq0 : s6p = s6 := eq0; subst s6p; have eq1 : h0_0p = h0_0 := eq1; subst h0_0p; have eq2 : h0_1p = h0_1 := eq2; subst h0_1p; have eq3 : h0_2p = h0_2 := eq3; subst h0_2p; have eq4 : h2_1p = h2_1 := eq4; subst h2_1p; have eq5 : h2_2p = h2_2 := eq5; subst h2_2p; exact mpr_of (by kernel_rfl) ((congrArg (fun k => kz1 r0 r1 k s6 h0_0 h0_1 h0_2 h2_1 h2_2 s7p h1_0p h1_1p g3p) (lpk4 (⟨rfl, rfl, rfl, rfl, rfl, rfl⟩ : s6 = s6 ∧ h0_0 = h0_0 ∧ h0_1 = h0_1 ∧ h0_2 = h0_2 ∧ h2_1 = h2_1 ∧ h2_2 = h2_2) inv (fun s7q h1_0q h1_1q g3q => μ s7q h1_0q h1_1q g3q < μ s7p h1_0p h1_1p g3p))).mpr (hs s7p h1_0p h1_1p g3p hi))⟩⟩
def kzg (r0 : TWitness) (r1 : Bool) (k2 : Int → List Int → Bool → List TNote → Prop) (s6 : Int) (h0_0 : List TSpent) (h0_1 : List TNote) (h0_2 : Int) (h2_2 : Int) (g3 : List TSpent) (s9 : Int) (h1_0 : List Int) (h1_1 : Bool) (g4 : List TNote) : Prop :=
(decide (s9 < s6) = true →
((!h1_1) = true →
(By h1_0) ∧ ∀ (r90 : TNote) (r91 : List Int) (r92 : Bool), (r90 = ((nNt h1_0 h1_1).n) ∧ r91 = ((nNt h1_0 h1_1).b) ∧ r92 = ((nNt h1_0 h1_1).f)) → g4.length = g4.length ∧ (g4.length + [r90].length) * 32 ≤ 140737488355328 ∧ g4.length + [r90].length ≤ maxLen ∧ (g4 ++ [r90] = g4 ++ [r90]) ∧ (g3 = g3) ∧ k2 (IntKind.i64.wrap (s9 + 1) : Int) r91 r92 (g4 ++ [r90] : List TNote)) ∧
((!h1_1) = false →
(g4 = g4) ∧ (g3 = g3) ∧ k90 (r0.Ins, r0.Outs, r0.Secret, r1, ()) (h0_0, h0_1, h0_2, h1_0, h1_1, h2_2, g3, g4, ()))) ∧
(decide (s9 < s6) = false →
(g4 = g4) ∧ (g3 = g3) ∧ k90 (r0.Ins, r0.Outs, r0.Secret, r1, ()) (h0_0, h0_1, h0_2, h1_0, h1_1, h2_2, g3, g4, ()))
theorem k1d0 {r0 : TWitness} {r1 : Bool} {s6 : Int} {h0_0 : List TSpent} {h0_1 : List TNote} {h0_2 : Int} {h2_2 : Int} {g3 : List TSpent} {s9 : Int} {h1_0 : List Int} {h1_1 : Bool} {g4 : List TNote} (inv : Int → List Int → Bool → List TNote → Prop) (μ : Int → List Int → Bool → List TNote → Nat) (h0 : inv s9 h1_0 h1_1 g4) (hs : ∀ (s9 : Int) (h1_0 : List Int) (h1_1 : Bool) (g4 : List TNote), inv s9 h1_0 h1_1 g4 → kzg r0 r1 (fun s9q h1_0q h1_1q g4q => inv s9q h1_0q h1_1q g4q ∧ μ s9q h1_0q h1_1q g4q < μ s9 h1_0 h1_1 g4) s6 h0_0 h0_1 h0_2 h2_2 g3 s9 h1_0 h1_1 g4) : Md.Loop (s6, s9, h0_0, h0_1, h0_2, h1_0, h1_1, h2_2, g3, g4, ()) (kdu (r0.Ins, r0.Outs, r0.Secret, r1, ())) :=
 ⟨⟨fun s : Int × Int × (List TSpent) × (List TNote) × Int × (List Int) × Bool × Int × (List TSpent) × (List TNote) × Unit => (s.1 = s6 ∧ s.2.2.1 = h0_0 ∧ s.2.2.2.1 = h0_1 ∧ s.2.2.2.2.1 = h0_2 ∧ s.2.2.2.2.2.2.2.1 = h2_2 ∧ s.2.2.2.2.2.2.2.2.1 = g3) ∧ inv s.2.1 s.2.2.2.2.2.1 s.2.2.2.2.2.2.1 s.2.2.2.2.2.2.2.2.2.1, fun s : Int × Int × (List TSpent) × (List TNote) × Int × (List Int) × Bool × Int × (List TSpent) × (List TNote) × Unit => μ s.2.1 s.2.2.2.2.2.1 s.2.2.2.2.2.2.1 s.2.2.2.2.2.2.2.2.2.1, ⟨⟨rfl, rfl, rfl, rfl, rfl, rfl⟩, h0⟩, fun (s6p, s9p, h0_0p, h0_1p, h0_2p, h1_0p, h1_1p, h2_2p, g3p, g4p, ()) ⟨⟨eq0, eq1, eq2, eq3, eq4, eq5⟩, hi⟩ => by
  have eq0 : s6p = s6 := eq0; subst s6p; have eq1 : h0_0p = h0_0 := eq1; subst h0_0p; have eq2 : h0_1p = h0_1 := eq2; subst h0_1p; have eq3 : h0_2p = h0_2 := eq3; subst h0_2p; have eq4 : h2_2p = h2_2 := eq4; subst h2_2p; have eq5 : g3p = g3 := eq5; subst g3p; exact mpr_of (by kernel_rfl) ((congrArg (fun k => kzg r0 r1 k s6 h0_0 h0_1 h0_2 h2_2 g3 s9p h1_0p h1_1p g4p) (lpk4 (⟨rfl, rfl, rfl, rfl, rfl, rfl⟩ : s6 = s6 ∧ h0_0 = h0_0 ∧ h0_1 = h0_1 ∧ h0_2 = h0_2 ∧ h2_2 = h2_2 ∧ g3 = g3) inv (fun s9q h1_0q h1_1q g4q => μ s9q h1_0q h1_1q g4q < μ s9p h1_0p h1_1p g4p))).mpr (hs s9p h1_0p h1_1p g4p hi))⟩⟩
theorem bd29 : Callable Try.prog 29 := ⟨by rw [Try.func29]; kernel_rfl, by rw [Try.func29]; show some _ ≠ some _; decide⟩
theorem k1ax (p0 : List Int) (h : By p0 ∧ p0.length ≤ 137438953472) : kl9 (p0, ()) ((((decW p0).1).Ins : List TSpent), (((decW p0).1).Outs : List TNote), (((decW p0).1).Secret : Int), ((decide ((decW p0).2 = 0)) : Bool), ()) := by
 obtain ⟨hb, hl⟩ := h
 refine k1hx (r0 := (decW p0).1) ⟨hb, ?_⟩
 rintro _ _ _ ⟨rfl, rfl, rfl⟩
 have hC := nB_b (k := 4) (f := false) (m := 4) hb
 have nC := nB_n (k := 4) (f := false) (m := 4) hb (by omega)
 have mC := nB_m (k := 4) (b := p0) (f := false) (m := 4) (by omega)
 have zC := nB4_pz (f := false) (m := 4) hb
 generalize nB 4 p0 false 4 = C at *
 have j3 : ∀ (s : Bool) (g : List TSpent) (g' : List TNote) (n : Int), (s = true → ∀ u, ¬ EW u p0) → (s = false → decW p0 = (⟨g, g', n⟩, 0)) → k8u ((decW p0).1.Ins, (decW p0).1.Outs, (decW p0).1.Secret, decide ((decW p0).2 = 0), ()) (s, ([] : List TSpent), ([] : List TNote), (0 : Int), n, g, g', ()) := by
  intro s g g' n h1 h2
  refine k19d (r0 := (decW p0).1) ⟨fun e => ?_, fun e => ?_⟩
  ·rw [decW_no (h1 e)]; exact ⟨rfl, rfl, rfl, rfl⟩
  ·rw [h2 e]; exact ⟨rfl, rfl, rfl, rfl⟩
 have j2 : ∀ (b1 b : List Int) (f1 f : Bool) (g : List TSpent) (g' : List TNote), By b → b.length ≤ 137438953472 → g.length ≤ 4 → g'.length ≤ 4 → Pz (encC encSp) (Gc (GS limR) 4) p0 false g b1 f1 → Pz (encC encN) (Gc (GN limR) 4) b1 f1 g' b f → k90 ((decW p0).1.Ins, (decW p0).1.Outs, (decW p0).1.Secret, decide ((decW p0).2 = 0), ()) (([] : List TSpent), ([] : List TNote), (0 : Int), b, f, (0 : Int), g, g', ()) := by
  intro b1 b f1 f g g' hb' hl' l1 l2 zI zO
  refine k18c (r0 := (decW p0).1) ⟨hb', ?_⟩
  rintro _ _ _ ⟨rfl, rfl, rfl⟩
  have zS := nB8_pz (f := f) (m := 18446744073709551615) hb' (by omega)
  have nS := nB_n (k := 8) (f := f) (m := 18446744073709551615) hb' (by omega)
  generalize nB 8 b f 18446744073709551615 = X at *
  obtain ⟨snd, cpl⟩ := pz_wit (L := limR) zI zO zS
  refine ⟨fun e => ⟨rfl, rfl, j3 _ _ _ _ (fun _ u hu => ?_) (fun h => by cases h)⟩, fun e => ⟨fun e2 => ⟨rfl, rfl, j3 _ _ _ _ (fun _ u hu => ?_) (fun h => by cases h)⟩, fun e2 => ?_⟩⟩
  ·rw [(cpl u hu).1] at e; cases e
  ·rw [(cpl u hu).2.1] at e2; cases e2
  ·have e2 := of_decide_eq_false e2
   obtain ⟨s1, s2⟩ := snd e (List.length_eq_zero_iff.1 (by omega))
   have hw := s2.wq
   refine ⟨⟨by show g.length ≤ _; omega, by show g'.length ≤ _; omega, fun x hx => (hw.i x hx).pl⟩, rfl, rfl, j3 _ _ _ _ (fun h u hu => ?_) (fun h => ?_)⟩
   ·rw [(cpl u hu).2.2, hu.v] at h; cases h
   ·have hE : EW ⟨g, g', X.n⟩ p0 := ⟨hw, by simpa using h, s1⟩
    exact k1li hE fun u hu => (cpl u hu).2.2
 have j1 : ∀ (b : List Int) (f : Bool) (g : List TSpent), By b → b.length ≤ 137438953472 → g.length ≤ 4 → Pz (encC encSp) (Gc (GS limR) 4) p0 false g b f → k8z ((decW p0).1.Ins, (decW p0).1.Outs, (decW p0).1.Secret, decide ((decW p0).2 = 0), ()) (([] : List TSpent), ([] : List TNote), (0 : Int), b, f, ([] : List TNote), (0 : Int), g, ()) := by
  intro b f g hb' hl' lg zI
  refine k18s (r0 := (decW p0).1) ⟨hb', ?_⟩
  rintro _ _ _ ⟨rfl, rfl, rfl⟩
  have hD := nB_b (k := 4) (f := f) (m := 4) hb'
  have nD := nB_n (k := 4) (f := f) (m := 4) hb' (by omega)
  have mD := nB_m (k := 4) (b := b) (f := f) (m := 4) (by omega)
  have zD := nB4_pz (f := f) (m := 4) hb'
  generalize nB 4 b f 4 = D at *
  refine ⟨rfl, rfl, ?_⟩
  refine k1d0 (r0 := (decW p0).1) (fun i b' f' g' => 0 ≤ i ∧ i ≤ D.n ∧ By b' ∧ b'.length ≤ 137438953472 ∧ (g'.length : Int) = i ∧ Pz (fun l : List TNote => l.flatMap encN) (Gl (GN limR) i.toNat) D.b D.f g' b' f') (fun i _ _ _ => (D.n - i).toNat) ⟨by omega, nD.1, hD.1, by omega, rfl, Pz.nil⟩ ?_
  rintro i b' f' g' ⟨g0, g1, q1, q2, q3, gz⟩
  refine ⟨fun hh => ?_, fun hh => ?_⟩
  ·have hh := of_decide_eq_true hh
   refine ⟨fun e => ⟨q1, ?_⟩, fun e => ⟨rfl, rfl, ?_⟩⟩
   ·rintro _ _ _ ⟨rfl, rfl, rfl⟩
    have o1 := nNt_b (f := f') q1
    have z1 := nNt_pz (f := f') q1
    generalize nNt b' f' = A1 at *
    rw [inc i D.n g0 hh (by omega)]
    refine ⟨rfl, by simp; omega, by simp; unfold maxLen; omega, rfl, rfl, ⟨by omega, by omega, o1.1, by omega, by simp; omega, ?_⟩, by omega⟩
    rw [show (i + 1).toNat = i.toNat + 1 by omega]
    exact gz.snoc z1
   ·have e : f' = true := by simpa using e
    subst e
    exact j2 _ _ _ _ _ _ q1 q2 lg (by omega) zI (Pz.list zD (gz.short (by omega)))
  ·have hh := of_decide_eq_false hh
   have hi : i = D.n := by omega
   subst hi
   exact ⟨rfl, rfl, j2 _ _ _ _ _ _ q1 q2 lg (by omega) zI (Pz.list zD gz)⟩
 refine ⟨rfl, ?_⟩
 refine k1e8 (r0 := (decW p0).1) (fun i b f g => 0 ≤ i ∧ i ≤ C.n ∧ By b ∧ b.length ≤ 137438953472 ∧ (g.length : Int) = i ∧ Pz (fun l : List TSpent => l.flatMap encSp) (Gl (GS limR) i.toNat) C.b C.f g b f) (fun i _ _ _ => (C.n - i).toNat) ⟨by omega, nC.1, hC.1, by omega, rfl, Pz.nil⟩ ?_
 rintro i b f g ⟨g0, g1, q1, q2, q3, gz⟩
 refine ⟨fun hh => ?_, fun hh => ?_⟩
 ·have hh := of_decide_eq_true hh
  refine ⟨fun e => ⟨q1, ?_⟩, fun e => ⟨rfl, ?_⟩⟩
  ·rintro _ _ _ ⟨rfl, rfl, rfl⟩
   have o1 := nNt_b (f := f) q1
   have z1 := nNt_pz (f := f) q1
   generalize nNt b f = A1 at *
   refine ⟨o1.1, ?_⟩
   rintro _ _ _ ⟨rfl, rfl, rfl⟩
   have o2 := nB_b (k := 8) (f := A1.f) (m := 18446744073709551615) o1.1
   have z2 := nB8_pz (f := A1.f) (m := 18446744073709551615) o1.1 (by omega)
   generalize nB 8 A1.b A1.f 18446744073709551615 = A2 at *
   refine ⟨o2.1, ?_⟩
   rintro _ _ _ ⟨rfl, rfl, rfl⟩
   have o3 := nB_b (k := 4) (f := A2.f) (m := 4294967296) o2.1
   have z3 := nB4_pz (f := A2.f) (m := 4294967296) o2.1
   generalize nB 4 A2.b A2.f 4294967296 = A3 at *
   refine ⟨o3.1, ?_⟩
   rintro _ _ _ ⟨rfl, rfl, rfl⟩
   have o4 := nB_b (k := 4) (f := A3.f) (m := 4294967296) o3.1
   have z4 := nB4_pz (f := A3.f) (m := 4294967296) o3.1
   generalize nB 4 A3.b A3.f 4294967296 = A4 at *
   refine ⟨⟨o4.1, by omega⟩, ?_⟩
   rintro _ _ _ ⟨rfl, rfl, rfl⟩
   have o5 := lB_b (m := 12) (p := 18446744069414584321) (f := A4.f) o4.1
   have z5 := lB_pz (m := 12) (p := 18446744069414584321) (f := A4.f) o4.1 (by omega)
   generalize lB A4.b A4.f 12 18446744069414584321 = A5 at *
   refine ⟨o5.1, ?_⟩
   rintro _ _ _ ⟨rfl, rfl, rfl⟩
   have o6 := nB_b (k := 4) (f := A5.f) (m := 1) o5.1
   have z6 := nB4_pz (f := A5.f) (m := 1) o5.1
   generalize nB 4 A5.b A5.f 1 = A6 at *
   have zz := k18i (L := limR) z1 z2 z3 z4 z5 z6
   rw [inc i C.n g0 hh (by omega)]
   refine ⟨rfl, by simp; omega, by simp; unfold maxLen; omega, rfl, ⟨by omega, by omega, o6.1, by omega, by simp; omega, ?_⟩, by omega⟩
   rw [show (i + 1).toNat = i.toNat + 1 by omega]
   exact gz.snoc zz
  ·have e : f = true := by simpa using e
   subst e
   exact j1 _ _ _ q1 q2 (by omega) (Pz.list zC (gz.short (by omega)))
 ·have hh := of_decide_eq_false hh
  have hi : i = C.n := by omega
  subst hi
  exact ⟨rfl, j1 _ _ _ q1 q2 (by omega) (Pz.list zC gz)⟩
def kw5 : Con TB.den := { k23 with R := fun x K => (fun (p0 : List Int) => ((By p0 ∧ p0.length ≤ 137438953472) ∧ ∀ (v0 : TWitness) (v1 : Bool), (v0 = (((decW p0).1)) ∧ v1 = ((decide ((decW p0).2 = 0)))) → K (v0.Ins, v0.Outs, v0.Secret, v1, ()) : Prop)) x.1 }
theorem k1gy : kw5.Ok Try.prog TB := ⟨bd29, fun x K hx => ⟨((fun (p0 : List Int) => (((decW p0).1).Ins : List TSpent)) x.1, (fun (p0 : List Int) => (((decW p0).1).Outs : List TNote)) x.1, (fun (p0 : List Int) => (((decW p0).1).Secret : Int)) x.1, (fun (p0 : List Int) => ((decide ((decW p0).2 = 0)) : Bool)) x.1, ()), hx.2 ((fun (p0 : List Int) => ((((decW p0).1)))) x.1) ((fun (p0 : List Int) => (((decide ((decW p0).2 = 0))))) x.1) ⟨rfl, rfl⟩, k1db (k1ax x.1 hx.1)⟩⟩
def k5o : Con TB.den := Con.mk0 62 [.one (.d (.sl (.int .u64))), .one (.d (.sl (.int .u64)))] [] (.one (.one (.d (.bool)))) []
abbrev k1ah := HL TB.den (hsT k5o.ins (hsOs k5o.pre))
abbrev kdk := HL TB.den (hsV k5o.res (hsOs k5o.post))
def k9l : Cx TB := ⟨inf, [], [], 4, []⟩
def kdw : Code := Try.f62.body.getD .skip
def knr : List ResultVar := Try.f62.results.toList
def k1lt (o : kdk) := qS TB k9l 26 0 (cB (cB (cB kdw))) .no (retTQ TB k9l k5o knr o)
def ke9 : Tm := ⟨[], [], [0, 1, 5], [.one (.d (.sl (.int .u64))), .one (.d (.sl (.int .u64))), .one (.d (.int .i64))], 0⟩
def khz (o : kdk) (nx1 : NX TB ke9) (i : HL TB.den ke9.hs) : Prop := WP TB k9l 26 0 (cA (cA (cB (cA (cB (cB kdw)))))) .no (ke9.fill TB i) (qM TB 0 ke9 nx1 (blockT TB 0 (k1lt o)))
def k1my (o : kdk) : An TB := .nd [] .no [] (.lp [] ke9 (khz o) fun nx1 => .no)
def k17p (o : kdk) : An TB := .nd [] .no [] (.nd [] .no [] (.nd [] (k1my o) [] .no))
def kpg (x : k1ah) (o : kdk) : Prop := WPh TB k9l 26 0 kdw (k17p o) (k5o.st TB x) (retTQ TB k9l k5o knr o)
theorem k1jb (o : kdk) : OblH TB k9l 26 0 kdw (k17p o) (retTQ TB k9l k5o knr o) :=
 OblH.ofC (X := ((∀ nx i, (khz o) nx i = (khz o) nx i) ∧ (∀ nx1 : NX TB ke9, True) ∧ True)) (by kernel_rfl) ⟨fun _ _ => rfl, fun _ => trivial, trivial⟩
theorem k1ln {x : k1ah} {o : kdk} (h : kpg x o) : k5o.Snd Try.prog x o :=
 Con.soundH (c := k5o) (C := k9l) TBok ⟨inf_ok, all_nil, all_nil⟩ mix Try.func62 (show Try.f62.body = some kdw by kernel_rfl) (show Try.f62.ntmps = 26 by kernel_rfl) (show Try.f62.results.toList = knr by kernel_rfl) rfl h (k1jb o)
theorem k1ly {p0 : List Int} {p1 : List Int} {r0 : Bool} (h :
((((p0.length : Int) != (p1.length : Int)) = true →
 false = r0) ∧
(((p0.length : Int) != (p1.length : Int)) = false →
 Md.Loop (p0, p1, (0 : Int), ()) (khz (r0, ()))))) : kpg (p0, p1, ()) (r0, ()) := WPh.of_eq (by kernel_rfl) h
def k17f (r0 : Bool) (k1 : Int → Prop) (s0 : List Int) (s1 : List Int) (s5 : Int) : Prop :=
(decide (s5 < (s0.length : Int)) = true →
(0 ≤ s5) ∧ s5 < (s0.length : Int) ∧ (0 ≤ s5) ∧ s5 < (s1.length : Int) ∧ (((ix s0 s5) != (ix s1 s5)) = true →
 false = r0) ∧
(((ix s0 s5) != (ix s1 s5)) = false →
 k1 (IntKind.i64.wrap (s5 + 1) : Int))) ∧
(decide (s5 < (s0.length : Int)) = false →
 true = r0)
theorem k1iw {r0 : Bool} {s0 : List Int} {s1 : List Int} {s5 : Int} (inv : Int → Prop) (μ : Int → Nat) (h0 : inv s5) (hs : ∀ (s5 : Int), inv s5 → k17f r0 (fun s5q => inv s5q ∧ μ s5q < μ s5) s0 s1 s5) : Md.Loop (s0, s1, s5, ()) (khz (r0, ())) :=
 ⟨⟨fun s : (List Int) × (List Int) × Int × Unit => (s.1 = s0 ∧ s.2.1 = s1) ∧ inv s.2.2.1, fun s : (List Int) × (List Int) × Int × Unit => μ s.2.2.1, ⟨⟨rfl, rfl⟩, h0⟩, fun (s0p, s1p, s5p, ()) ⟨⟨eq0, eq1⟩, hi⟩ => by
  have eq0 : s0p = s0 := eq0; subst s0p; have eq1 : s1p = s1 := eq1; subst s1p; exact mpr_of (by kernel_rfl) ((congrArg (fun k => k17f r0 k s0 s1 s5p) (lpk1 (⟨rfl, rfl⟩ : s0 = s0 ∧ s1 = s1) inv (fun s5q => μ s5q < μ s5p))).mpr (hs s5p hi))⟩⟩
theorem bd62 : Callable Try.prog 62 := ⟨by rw [Try.func62]; kernel_rfl, by rw [Try.func62]; show some _ ≠ some _; decide⟩
theorem k1i3 (p0 : List Int) (p1 : List Int) (h : p0.length ≤ 9223372036854775807 ∧ p1.length ≤ 9223372036854775807) : kpg (p0, p1, ()) (((decide (p0 = p1)) : Bool), ()) := by
 obtain ⟨h1, h2⟩ := h
 have no : p0 ≠ p1 → false = decide (p0 = p1) := fun h => (decide_eq_false h).symm
 refine k1ly ⟨fun e => no ?_, fun e => ?_⟩
 ·rintro rfl
  simp at e
 have e : (p0.length : Int) = p1.length := by simpa using e
 refine k1iw (fun i => 0 ≤ i ∧ i ≤ p0.length ∧ p0.take i.toNat = p1.take i.toNat) (fun i => (p0.length - i).toNat) ⟨by omega, by omega, by simp⟩ ?_
 rintro i ⟨g0, g1, g2⟩
 refine ⟨fun hh => ?_, fun hh => ?_⟩
 ·have hh := of_decide_eq_true hh
  refine ⟨g0, hh, g0, by omega, fun e2 => no ?_, fun e2 => ?_⟩
  ·rintro rfl
   simp at e2
  ·have e2 : ix p0 i = ix p1 i := by simpa using e2
   rw [inc i p0.length g0 hh (by omega)]
   refine ⟨⟨by omega, by omega, ?_⟩, by omega⟩
   rw [k2f p0 i g0 hh, k2f p1 i g0 (by omega), g2, e2]
 ·have hh := of_decide_eq_false hh
  rw [List.take_of_length_le (by omega), List.take_of_length_le (by omega)] at g2
  exact (decide_eq_true g2).symm
def k13t : Con TB.den := k5o.fnR (fun x => (fun (p0 : List Int) (p1 : List Int) => p0.length ≤ 9223372036854775807 ∧ p1.length ≤ 9223372036854775807) x.1 x.2.1) fun x => ((fun (p0 : List Int) (p1 : List Int) => ((decide (p0 = p1)) : Bool)) x.1 x.2.1, ())
theorem k1mn : k13t.Ok Try.prog TB := Con.ok_fn k5o bd62 fun x h => k1ln (k1i3 x.1 x.2.1 h)
def k4k : Con TB.den := Con.mk0 28 [.agg [.d (.sl (.st 0)), .d (.sl (.st 1)), .d (.int .u64)], .agg [.d (.sl (.st 0)), .d (.sl (.st 1)), .d (.int .u64)]] [] (.one (.one (.d (.bool)))) []
abbrev k1ac := HL TB.den (hsT k4k.ins (hsOs k4k.pre))
abbrev k77 := HL TB.den (hsV k4k.res (hsOs k4k.post))
def k6e : Cx TB := ⟨inf, [k13t], [], 4, []⟩
def k8y : Code := Try.f28.body.getD .skip
def khg : List ResultVar := Try.f28.results.toList
def k1lz (o : k77) := qS TB k6e 108 0 (cB (cB (cB (cB k8y)))) .no (retTQ TB k6e k4k khg o)
def kea : Tm := ⟨[0, 1], [.cells [.d (.sl (.st 0)), .d (.sl (.st 1)), .d (.int .u64)], .cells [.d (.sl (.st 0)), .d (.sl (.st 1)), .d (.int .u64)]], [2, 3, 8], [.one (.ptr 0 0), .one (.ptr 1 0), .one (.d (.int .i64))], 2⟩
def khv (o : k77) (nx2 : NX TB kea) (i : HL TB.den kea.hs) : Prop := WP TB k6e 108 0 (cA (cA (cB (cA (cB (cB (cB k8y))))))) .no (kea.fill TB i) (qM TB 0 kea nx2 (blockT TB 2 (k1lz o)))
def k178 (o : k77) : An TB := .nd [] .no [] (.lp [] kea (khv o) fun nx2 => .no)
def k1lv (o : k77) := qS TB k6e 108 0 (cB (cB (cB k8y))) (.nd [] (k178 o) [] .no) (retTQ TB k6e k4k khg o)
def keb : Tm := ⟨[0, 1], [.cells [.d (.sl (.st 0)), .d (.sl (.st 1)), .d (.int .u64)], .cells [.d (.sl (.st 0)), .d (.sl (.st 1)), .d (.int .u64)]], [2, 3, 5], [.one (.ptr 0 0), .one (.ptr 1 0), .one (.d (.int .i64))], 2⟩
def khj (o : k77) (nx1 : NX TB keb) (i : HL TB.den keb.hs) : Prop := WP TB k6e 108 0 (cA (cA (cB (cA (cB (cB k8y)))))) .no (keb.fill TB i) (qM TB 0 keb nx1 (blockT TB 0 (k1lv o)))
def k1mi (o : k77) : An TB := .nd [] .no [] (.lp [] keb (khj o) fun nx1 => .no)
def k1jl (o : k77) : An TB := .nd [] .no [] (.nd [] (k1mi o) [] (.nd [] (k178 o) [] .no))
def k17r (o : k77) : An TB := .nd [] .no [] (k1jl o)
def kp2 (x : k1ac) (o : k77) : Prop := WPh TB k6e 108 0 k8y (k17r o) (k4k.st TB x) (retTQ TB k6e k4k khg o)
theorem k1js (o : k77) : OblH TB k6e 108 0 k8y (k17r o) (retTQ TB k6e k4k khg o) :=
 OblH.ofC (X := ((∀ nx i, (khj o) nx i = (khj o) nx i) ∧ (∀ nx1 : NX TB keb, True) ∧ (∀ nx i, (khv o) nx i = (khv o) nx i) ∧ (∀ nx2 : NX TB kea, True) ∧ True)) (by kernel_rfl) ⟨fun _ _ => rfl, fun _ => trivial, fun _ _ => rfl, fun _ => trivial, trivial⟩
theorem k1ik {x : k1ac} {o : k77} (h : kp2 x o) : k4k.Snd Try.prog x o :=
 Con.soundH (c := k4k) (C := k6e) TBok ⟨inf_ok, (all_cons k1mn all_nil), all_nil⟩ mix Try.func28 (show Try.f28.body = some k8y by kernel_rfl) (show Try.f28.ntmps = 108 by kernel_rfl) (show Try.f28.results.toList = khg by kernel_rfl) rfl h (k1js o)
theorem k1m7 {p0 : TWitness} {p1 : TWitness} {r0 : Bool} (h :
(let v1 : Bool := ((p0.Ins.length : Int) != (p1.Ins.length : Int))
(v1 = true →
 false = r0) ∧
(v1 = false →
 let v2 : Bool := ((p0.Outs.length : Int) != (p1.Outs.length : Int))
(v2 = true →
 false = r0) ∧
(v2 = false →
((p0.Secret != p1.Secret) = true →
 false = r0) ∧
((p0.Secret != p1.Secret) = false →
 Md.Loop ((0 : Int), p0.Ins, p0.Outs, p0.Secret, p1.Ins, p1.Outs, p1.Secret, ()) (khj (r0, ()))))))) : kp2 (p0.Ins, p0.Outs, p0.Secret, p1.Ins, p1.Outs, p1.Secret, ()) (r0, ()) := WPh.of_eq (by kernel_rfl) h
def k17g (r0 : Bool) (k1 : Int → Prop) (h0_0 : List TSpent) (h0_1 : List TNote) (h0_2 : Int) (h1_0 : List TSpent) (h1_1 : List TNote) (h1_2 : Int) (s5 : Int) : Prop :=
(decide (s5 < (h0_0.length : Int)) = true →
(0 ≤ s5) ∧ s5 < (h0_0.length : Int) ∧ (0 ≤ s5) ∧ s5 < (h1_0.length : Int) ∧ let v3 : Bool := (!(((ix h0_0 s5).Note_Value == (ix h1_0 s5).Note_Value) && (((ix h0_0 s5).Note_Owner == (ix h1_0 s5).Note_Owner) && (((ix h0_0 s5).Note_Rho == (ix h1_0 s5).Note_Rho) && (((ix h0_0 s5).Note_Blind == (ix h1_0 s5).Note_Blind) && true)))))
(v3 = true →
 false = r0) ∧
(v3 = false →
 let v4 : Bool := (((ix h0_0 s5).Key) != ((ix h1_0 s5).Key))
(v4 = true →
 false = r0) ∧
(v4 = false →
 let v5 : Bool := (((ix h0_0 s5).Number) != ((ix h1_0 s5).Number))
(v5 = true →
 false = r0) ∧
(v5 = false →
 let v6 : Bool := (((ix h0_0 s5).Position) != ((ix h1_0 s5).Position))
(v6 = true →
 false = r0) ∧
(v6 = false →
 let v7 : Bool := (!((ix h0_0 s5).Dummy == (ix h1_0 s5).Dummy))
(v7 = true →
 false = r0) ∧
(v7 = false →
(((ix h0_0 s5).Path).length ≤ 9223372036854775807 ∧ ((ix h1_0 s5).Path).length ≤ 9223372036854775807) ∧ let r8 : Bool := (decide (((ix h0_0 s5).Path) = ((ix h1_0 s5).Path)))
((!r8) = true →
 false = r0) ∧
((!r8) = false →
 k1 (IntKind.i64.wrap (s5 + 1) : Int)))))))) ∧
(decide (s5 < (h0_0.length : Int)) = false →
 Md.Loop ((0 : Int), h0_0, h0_1, h0_2, h1_0, h1_1, h1_2, ()) (khv (r0, ())))
theorem k1iv {r0 : Bool} {h0_0 : List TSpent} {h0_1 : List TNote} {h0_2 : Int} {h1_0 : List TSpent} {h1_1 : List TNote} {h1_2 : Int} {s5 : Int} (inv : Int → Prop) (μ : Int → Nat) (h0 : inv s5) (hs : ∀ (s5 : Int), inv s5 → k17g r0 (fun s5q => inv s5q ∧ μ s5q < μ s5) h0_0 h0_1 h0_2 h1_0 h1_1 h1_2 s5) : Md.Loop (s5, h0_0, h0_1, h0_2, h1_0, h1_1, h1_2, ()) (khj (r0, ())) :=
 ⟨⟨fun s : Int × (List TSpent) × (List TNote) × Int × (List TSpent) × (List TNote) × Int × Unit => (s.2.1 = h0_0 ∧ s.2.2.1 = h0_1 ∧ s.2.2.2.1 = h0_2 ∧ s.2.2.2.2.1 = h1_0 ∧ s.2.2.2.2.2.1 = h1_1 ∧ s.2.2.2.2.2.2.1 = h1_2) ∧ inv s.1, fun s : Int × (List TSpent) × (List TNote) × Int × (List TSpent) × (List TNote) × Int × Unit => μ s.1, ⟨⟨rfl, rfl, rfl, rfl, rfl, rfl⟩, h0⟩, fun (s5p, h0_0p, h0_1p, h0_2p, h1_0p, h1_1p, h1_2p, ()) ⟨⟨eq0, eq1, eq2, eq3, eq4, eq5⟩, hi⟩ => by
  have eq0 : h0_0p = h0_0 := eq0; subst h0_0p; have eq1 : h0_1p = h0_1 := eq1; subst h0_1p; have eq2 : h0_2p = h0_2 := eq2; subst h0_2p; have eq3 : h1_0p = h1_0 := eq3; subst h1_0p; have eq4 : h1_1p = h1_1 := eq4; subst h1_1p; have eq5 : h1_2p = h1_2 := eq5; subst h1_2p; exact mpr_of (by kernel_rfl) ((congrArg (fun k => k17g r0 k h0_0 h0_1 h0_2 h1_0 h1_1 h1_2 s5p) (lpk1 (⟨rfl, rfl, rfl, rfl, rfl, rfl⟩ : h0_0 = h0_0 ∧ h0_1 = h0_1 ∧ h0_2 = h0_2 ∧ h1_0 = h1_0 ∧ h1_1 = h1_1 ∧ h1_2 = h1_2) inv (fun s5q => μ s5q < μ s5p))).mpr (hs s5p hi))⟩⟩
def k17h (r0 : Bool) (k2 : Int → Prop) (h0_0 : List TSpent) (h0_1 : List TNote) (h0_2 : Int) (h1_0 : List TSpent) (h1_1 : List TNote) (h1_2 : Int) (s8 : Int) : Prop :=
(decide (s8 < (h0_1.length : Int)) = true →
(0 ≤ s8) ∧ s8 < (h0_1.length : Int) ∧ (0 ≤ s8) ∧ s8 < (h1_1.length : Int) ∧ let v9 : Bool := (!(((ix h0_1 s8).Value == (ix h1_1 s8).Value) && (((ix h0_1 s8).Owner == (ix h1_1 s8).Owner) && (((ix h0_1 s8).Rho == (ix h1_1 s8).Rho) && (((ix h0_1 s8).Blind == (ix h1_1 s8).Blind) && true)))))
(v9 = true →
 false = r0) ∧
(v9 = false →
 k2 (IntKind.i64.wrap (s8 + 1) : Int))) ∧
(decide (s8 < (h0_1.length : Int)) = false →
 true = r0)
theorem k1is {r0 : Bool} {h0_0 : List TSpent} {h0_1 : List TNote} {h0_2 : Int} {h1_0 : List TSpent} {h1_1 : List TNote} {h1_2 : Int} {s8 : Int} (inv : Int → Prop) (μ : Int → Nat) (h0 : inv s8) (hs : ∀ (s8 : Int), inv s8 → k17h r0 (fun s8q => inv s8q ∧ μ s8q < μ s8) h0_0 h0_1 h0_2 h1_0 h1_1 h1_2 s8) : Md.Loop (s8, h0_0, h0_1, h0_2, h1_0, h1_1, h1_2, ()) (khv (r0, ())) :=
 ⟨⟨fun s : Int × (List TSpent) × (List TNote) × Int × (List TSpent) × (List TNote) × Int × Unit => (s.2.1 = h0_0 ∧ s.2.2.1 = h0_1 ∧ s.2.2.2.1 = h0_2 ∧ s.2.2.2.2.1 = h1_0 ∧ s.2.2.2.2.2.1 = h1_1 ∧ s.2.2.2.2.2.2.1 = h1_2) ∧ inv s.1, fun s : Int × (List TSpent) × (List TNote) × Int × (List TSpent) × (List TNote) × Int × Unit => μ s.1, ⟨⟨rfl, rfl, rfl, rfl, rfl, rfl⟩, h0⟩, fun (s8p, h0_0p, h0_1p, h0_2p, h1_0p, h1_1p, h1_2p, ()) ⟨⟨eq0, eq1, eq2, eq3, eq4, eq5⟩, hi⟩ => by
  have eq0 : h0_0p = h0_0 := eq0; subst h0_0p; have eq1 : h0_1p = h0_1 := eq1; subst h0_1p; have eq2 : h0_2p = h0_2 := eq2; subst h0_2p; have eq3 : h1_0p = h1_0 := eq3; subst h1_0p; have eq4 : h1_1p = h1_1 := eq4; subst h1_1p; have eq5 : h1_2p = h1_2 := eq5; subst h1_2p; exact mpr_of (by kernel_rfl) ((congrArg (fun k => k17h r0 k h0_0 h0_1 h0_2 h1_0 h1_1 h1_2 s8p) (lpk1 (⟨rfl, rfl, rfl, rfl, rfl, rfl⟩ : h0_0 = h0_0 ∧ h0_1 = h0_1 ∧ h0_2 = h0_2 ∧ h1_0 = h1_0 ∧ h1_1 = h1_1 ∧ h1_2 = h1_2) inv (fun s8q => μ s8q < μ s8p))).mpr (hs s8p hi))⟩⟩
theorem bd28 : Callable Try.prog 28 := ⟨by rw [Try.func28]; kernel_rfl, by rw [Try.func28]; show some _ ≠ some _; decide⟩
theorem k1gp (p0 : TWitness) (p1 : TWitness) (h : WQ p0 ∧ WQ p1) : kp2 (p0.Ins, p0.Outs, p0.Secret, p1.Ins, p1.Outs, p1.Secret, ()) (((sameW p0 p1) : Bool), ()) := by
 obtain ⟨h1, h2⟩ := h
 have no : p0 ≠ p1 → false = sameW p0 p1 := fun h => by
  cases hc : sameW p0 p1 with
  | false => rfl
  | true => exact (h (k1fq.1 hc)).elim
 refine k1m7 ⟨fun e => no ?_, fun e1 => ⟨fun e => no ?_, fun e2 => ⟨fun e => no ?_, fun e3 => ?_⟩⟩⟩
 ·rintro rfl
  simp at e
 ·rintro rfl
  simp at e
 ·rintro rfl
  simp at e
 have e1 : (p0.Ins.length : Int) = p1.Ins.length := by simpa using e1
 have e2 : (p0.Outs.length : Int) = p1.Outs.length := by simpa using e2
 have e3 : p0.Secret = p1.Secret := by simpa using e3
 have hil := h1.il
 have hol := h1.ol
 refine k1iv (fun i => 0 ≤ i ∧ i ≤ p0.Ins.length ∧ p0.Ins.take i.toNat = p1.Ins.take i.toNat) (fun i => (p0.Ins.length - i).toNat) ⟨by omega, by omega, by simp⟩ ?_
 rintro i ⟨g0, g1, g2⟩
 refine ⟨fun hh => ?_, fun hh => ?_⟩
 ·have hh := of_decide_eq_true hh
  have hm1 := ix_mem p0.Ins i g0 hh
  have hm2 := ix_mem p1.Ins i g0 (by omega)
  refine ⟨g0, hh, g0, by omega, fun e => no ?_, fun a1 => ⟨fun e => no ?_, fun a2 => ⟨fun e => no ?_, fun a3 => ⟨fun e => no ?_, fun a4 => ⟨fun e => no ?_, fun a5 => ⟨⟨(h1.i _ hm1).pl, (h2.i _ hm2).pl⟩, fun e => no ?_, fun a6 => ?_⟩⟩⟩⟩⟩⟩
  ·rintro rfl; simp at e
  ·rintro rfl; simp at e
  ·rintro rfl; simp at e
  ·rintro rfl; simp at e
  ·rintro rfl; simp at e
  ·rintro rfl; simp at e
  ·rw [inc i p0.Ins.length g0 hh (by omega)]
   refine ⟨⟨by omega, by omega, ?_⟩, by omega⟩
   rw [k2f p0.Ins i g0 hh, k2f p1.Ins i g0 (by omega), g2]
   congr 2
   generalize ix p0.Ins i = x at *
   generalize ix p1.Ins i = y at *
   cases x; cases y
   simp_all
 ·have hh := of_decide_eq_false hh
  rw [List.take_of_length_le (by omega), List.take_of_length_le (by omega)] at g2
  refine k1is (fun i => 0 ≤ i ∧ i ≤ p0.Outs.length ∧ p0.Outs.take i.toNat = p1.Outs.take i.toNat) (fun i => (p0.Outs.length - i).toNat) ⟨by omega, by omega, by simp⟩ ?_
  rintro k ⟨k0, k1, k2⟩
  refine ⟨fun hh => ?_, fun hh => ?_⟩
  ·have hh := of_decide_eq_true hh
   refine ⟨k0, hh, k0, by omega, fun e => no ?_, fun a1 => ?_⟩
   ·rintro rfl; simp at e
   ·rw [inc k p0.Outs.length k0 hh (by omega)]
    refine ⟨⟨by omega, by omega, ?_⟩, by omega⟩
    rw [k2f p0.Outs k k0 hh, k2f p1.Outs k k0 (by omega), k2]
    congr 2
    generalize ix p0.Outs k = x at *
    generalize ix p1.Outs k = y at *
    cases x; cases y
    simp_all
  ·have hh := of_decide_eq_false hh
   rw [List.take_of_length_le (by omega), List.take_of_length_le (by omega)] at k2
   refine (k1fq.2 ?_).symm
   cases p0; cases p1
   simp_all
def k13e : Con TB.den := k4k.fnR (fun x => (fun (p0 : TWitness) (p1 : TWitness) => WQ p0 ∧ WQ p1) (TWitness.mk x.1 x.2.1 x.2.2.1) (TWitness.mk x.2.2.2.1 x.2.2.2.2.1 x.2.2.2.2.2.1)) fun x => ((fun (p0 : TWitness) (p1 : TWitness) => ((sameW p0 p1) : Bool)) (TWitness.mk x.1 x.2.1 x.2.2.1) (TWitness.mk x.2.2.2.1 x.2.2.2.2.1 x.2.2.2.2.2.1), ())
theorem k1mr : k13e.Ok Try.prog TB := Con.ok_fn k4k bd28 fun x h => k1ik (k1gp (TWitness.mk x.1 x.2.1 x.2.2.1) (TWitness.mk x.2.2.2.1 x.2.2.2.2.1 x.2.2.2.2.2.1) h)
def k3o : Con TB.den := Con.mk0 58 [.one (.ptr 0 0)] [.cells [.d (.sl (.int .u8)), .d (.int .i64), .d (.bool)]] (.one (.one (.d (.bool)))) [.cells [.d (.sl (.int .u8)), .d (.int .i64), .d (.bool)]]
abbrev k10i := HL TB.den (hsT k3o.ins (hsOs k3o.pre))
abbrev ki8 := HL TB.den (hsV k3o.res (hsOs k3o.post))
def kcd : Cx TB := ⟨inf, [], [], 4, []⟩
def kiw : Code := Try.f58.body.getD .skip
def kmt : List ResultVar := Try.f58.results.toList
def kwa (o : ki8) : An TB := .no
def kj4 (x : k10i) (o : ki8) : Prop := WPh TB kcd 20 1 kiw (kwa o) (k3o.st TB x) (retTQ TB kcd k3o kmt o)
theorem k1bt (o : ki8) : OblH TB kcd 20 1 kiw (kwa o) (retTQ TB kcd k3o kmt o) :=
 OblH.ofC (X := True) (by kernel_rfl) trivial
theorem k1ag {x : k10i} {o : ki8} (h : kj4 x o) : k3o.Snd Try.prog x o :=
 Con.soundH (c := k3o) (C := kcd) TBok ⟨inf_ok, all_nil, all_nil⟩ mix Try.func58 (show Try.f58.body = some kiw by kernel_rfl) (show Try.f58.ntmps = 20 by kernel_rfl) (show Try.f58.results.toList = kmt by kernel_rfl) rfl h (k1bt o)
theorem k1dy {c0_0 : List Int} {c0_1 : Int} {c0_2 : Bool} {r0 : Bool} {d0_0 : List Int} {d0_1 : Int} {d0_2 : Bool} (h :
(((!c0_2) = true →
(c0_1 == (c0_0.length : Int)) = r0 ∧ c0_0 = d0_0 ∧ c0_1 = d0_1 ∧ c0_2 = d0_2) ∧
((!c0_2) = false →
 false = r0 ∧ c0_0 = d0_0 ∧ c0_1 = d0_1 ∧ c0_2 = d0_2))) : kj4 (c0_0, c0_1, c0_2, ()) (r0, d0_0, d0_1, d0_2, ()) := WPh.of_eq (by kernel_rfl) h
theorem bd58 : Callable Try.prog 58 := ⟨by rw [Try.func58]; kernel_rfl, by rw [Try.func58]; show some _ ≠ some _; decide⟩
theorem k18a (c0_0 : List Int) (c0_1 : Int) (c0_2 : Bool) : kj4 (c0_0, c0_1, c0_2, ()) (((!c0_2 && c0_1 == (c0_0.length : Int)) : Bool), (c0_0 : List Int), (c0_1 : Int), (c0_2 : Bool), ()) := by
 refine k1dy ⟨fun e => ⟨by rw [e]; rfl, rfl, rfl, rfl⟩, fun e => ⟨by rw [e]; rfl, rfl, rfl, rfl⟩⟩
def ktw : Con TB.den := k3o.totR fun x => ((fun (c0_0 : List Int) (c0_1 : Int) (c0_2 : Bool) => ((!c0_2 && c0_1 == (c0_0.length : Int)) : Bool)) x.1 x.2.1 x.2.2.1, (fun (c0_0 : List Int) (c0_1 : Int) (c0_2 : Bool) => (c0_0 : List Int)) x.1 x.2.1 x.2.2.1, (fun (c0_0 : List Int) (c0_1 : Int) (c0_2 : Bool) => (c0_1 : Int)) x.1 x.2.1 x.2.2.1, (fun (c0_0 : List Int) (c0_1 : Int) (c0_2 : Bool) => (c0_2 : Bool)) x.1 x.2.1 x.2.2.1, ())
theorem k1em : ktw.Ok Try.prog TB := Con.ok_tot k3o bd58 fun x => k1ag (k18a x.1 x.2.1 x.2.2.1)
def k3t : Con TB.den := Con.mk0 96 [.one (.ptr 0 0)] [.cells [.d (.sl (.int .u8)), .d (.int .i64), .d (.bool)]] (.one (.one (.d (.int .i64)))) [.cells [.d (.sl (.int .u8)), .d (.int .i64), .d (.bool)]]
abbrev k10c := HL TB.den (hsT k3t.ins (hsOs k3t.pre))
abbrev kik := HL TB.den (hsV k3t.res (hsOs k3t.post))
def kco : Cx TB := ⟨inf, [], [], 4, []⟩
def kjg : Code := Try.f96.body.getD .skip
def klx : List ResultVar := Try.f96.results.toList
def kv9 (o : kik) : An TB := .no
def kiv (x : k10c) (o : kik) : Prop := WPh TB kco 13 1 kjg (kv9 o) (k3t.st TB x) (retTQ TB kco k3t klx o)
theorem k1b5 (o : kik) : OblH TB kco 13 1 kjg (kv9 o) (retTQ TB kco k3t klx o) :=
 OblH.ofC (X := True) (by kernel_rfl) trivial
theorem k1b6 {x : k10c} {o : kik} (h : kiv x o) : k3t.Snd Try.prog x o :=
 Con.soundH (c := k3t) (C := kco) TBok ⟨inf_ok, all_nil, all_nil⟩ mix Try.func96 (show Try.f96.body = some kjg by kernel_rfl) (show Try.f96.ntmps = 13 by kernel_rfl) (show Try.f96.results.toList = klx by kernel_rfl) rfl h (k1b5 o)
theorem k1ey {c0_0 : List Int} {c0_1 : Int} {c0_2 : Bool} {r0 : Int} {d0_0 : List Int} {d0_1 : Int} {d0_2 : Bool} (h :
(let v1 : Int := IntKind.i64.wrap ((c0_0.length : Int) - c0_1)
 v1 = r0 ∧ c0_0 = d0_0 ∧ c0_1 = d0_1 ∧ c0_2 = d0_2)) : kiv (c0_0, c0_1, c0_2, ()) (r0, d0_0, d0_1, d0_2, ()) := WPh.of_eq (by kernel_rfl) h
theorem bd96 : Callable Try.prog 96 := ⟨by rw [Try.func96]; kernel_rfl, by rw [Try.func96]; show some _ ≠ some _; decide⟩
theorem k19r (c0_0 : List Int) (c0_1 : Int) (c0_2 : Bool) (h : (0 ≤ c0_1 ∧ c0_1 ≤ c0_0.length) ∧ c0_0.length ≤ 137438953472) : kiv (c0_0, c0_1, c0_2, ()) ((((c0_0.length : Int) - c0_1) : Int), (c0_0 : List Int), (c0_1 : Int), (c0_2 : Bool), ()) := by
 exact k1ey ⟨wi _ (by omega) (by omega), rfl, rfl, rfl⟩
def kkk : Con TB.den := k3t.fnR (fun x => (fun (c0_0 : List Int) (c0_1 : Int) (c0_2 : Bool) => (0 ≤ c0_1 ∧ c0_1 ≤ c0_0.length) ∧ c0_0.length ≤ 137438953472) x.1 x.2.1 x.2.2.1) fun x => ((fun (c0_0 : List Int) (c0_1 : Int) (c0_2 : Bool) => (((c0_0.length : Int) - c0_1) : Int)) x.1 x.2.1 x.2.2.1, (fun (c0_0 : List Int) (c0_1 : Int) (c0_2 : Bool) => (c0_0 : List Int)) x.1 x.2.1 x.2.2.1, (fun (c0_0 : List Int) (c0_1 : Int) (c0_2 : Bool) => (c0_1 : Int)) x.1 x.2.1 x.2.2.1, (fun (c0_0 : List Int) (c0_1 : Int) (c0_2 : Bool) => (c0_2 : Bool)) x.1 x.2.1 x.2.2.1, ())
theorem kwt : kkk.Ok Try.prog TB := Con.ok_fn k3t bd96 fun x h => k1b6 (k19r x.1 x.2.1 x.2.2.1 h)
def k1z : Con TB.den := Con.mk0 95 [.one (.ptr 0 0), .one (.d (.int .i64))] [.cells [.d (.sl (.int .u8)), .d (.int .i64), .d (.bool)]] (.tup [.one (.d (.int .u64)), .one (.d (.bool))]) [.cells [.d (.sl (.int .u8)), .d (.int .i64), .d (.bool)]]
abbrev ktk := HL TB.den (hsT k1z.ins (hsOs k1z.pre))
abbrev k2d := HL TB.den (hsV k1z.res (hsOs k1z.post))
def k2k : Cx TB := ⟨inf, [kkk], [], 4, []⟩
def k5l : Code := Try.f95.body.getD .skip
def k9t : List ResultVar := Try.f95.results.toList
def k19q (o : k2d) := qS TB k2k 53 1 (cB (cB (cB (cB k5l)))) .no (retTQ TB k2k k1z k9t o)
def k6l : Tm := ⟨[0], [.cells [.d (.sl (.int .u8)), .d (.int .i64), .d (.bool)]], [0, 1, 6, 21, 22], [.one (.ptr 0 0), .one (.d (.int .i64)), .one (.d (.int .u64)), .one (.d (.int .i64)), .one (.d (.int .i64))], 1⟩
def k18h (o : k2d) (nx1 : NX TB k6l) := qM TB 1 k6l nx1 (blockT TB 0 (k19q o))
def k9v (o : k2d) (nx1 : NX TB k6l) (i : HL TB.den k6l.hs) : Prop := WP TB k2k 53 1 (cA (cA (cB (cA (cB (cB (cB k5l))))))) .no (k6l.fill TB i) (k18h o nx1)
def ksa (o : k2d) : An TB := .nd [] .no [] (.lp [] k6l (k9v o) fun nx1 => .no)
def k1a0 (o : k2d) := qS TB k2k 53 1 (cB (cB k5l)) (.nd [] .no [] (.nd [] (ksa o) [] .no)) (retTQ TB k2k k1z k9t o)
def kbp : Tm := ⟨[0], [.cells [.d (.sl (.int .u8)), .d (.int .i64), .d (.bool)]], [0, 1, 17], [.one (.ptr 0 0), .one (.d (.int .i64)), .one (.d (.bool))], 1⟩
def kq9 (o : k2d) (i : HL TB.den kbp.hs) : Prop := ghs TB [] (kbp.fill TB i) fun s => WP TB k2k 53 1 (cB (cA (cB k5l))) .no s (k1a0 o)
structure k6i (o : k2d) (i : HL TB.den kbp.hs) : Prop where
 h : kq9 o i
def k193 (o : k2d) : An TB := .nd [] (.jn kbp (k6i o) [] .no [] .no) [] (.nd [] .no [] (.nd [] (ksa o) [] .no))
def kru (o : k2d) : An TB := .nd [] .no [] (k193 o)
def kg6 (x : ktk) (o : k2d) : Prop := WPh TB k2k 53 1 k5l (kru o) (k1z.st TB x) (retTQ TB k2k k1z k9t o)
theorem k16f (o : k2d) : OblH TB k2k 53 1 k5l (kru o) (retTQ TB k2k k1z k9t o) :=
 OblH.ofC (X := ((∀ i, (k6i o) i = kq9 o i) ∧ (∀ nx i, (k9v o) nx i = (k9v o) nx i) ∧ (∀ nx1 : NX TB k6l, True) ∧ True)) (by kernel_rfl) ⟨fun _ => propext ⟨fun h => h.1, fun h => ⟨h⟩⟩, fun _ _ => rfl, fun _ => trivial, trivial⟩
theorem k16a {x : ktk} {o : k2d} (h : kg6 x o) : k1z.Snd Try.prog x o :=
 Con.soundH (c := k1z) (C := k2k) TBok ⟨inf_ok, (all_cons kwt all_nil), all_nil⟩ mix Try.func95 (show Try.f95.body = some k5l by kernel_rfl) (show Try.f95.ntmps = 53 by kernel_rfl) (show Try.f95.results.toList = k9t by kernel_rfl) rfl h (k16f o)
theorem k19g {p1 : Int} {c0_0 : List Int} {c0_1 : Int} {c0_2 : Bool} {r0 : Int} {r1 : Bool} {d0_0 : List Int} {d0_1 : Int} {d0_2 : Bool} (h :
((c0_2 = true →
 k6i (r0, r1, d0_0, d0_1, d0_2, ()) (p1, true, c0_0, c0_1, c0_2, ())) ∧
(c0_2 = false →
((0 ≤ c0_1 ∧ c0_1 ≤ c0_0.length) ∧ c0_0.length ≤ 137438953472) ∧ let v2 : Bool := decide (((c0_0.length : Int) - c0_1) < p1)
 k6i (r0, r1, d0_0, d0_1, d0_2, ()) (p1, v2, c0_0, c0_1, c0_2, ())))) : kg6 (p1, c0_0, c0_1, c0_2, ()) (r0, r1, d0_0, d0_1, d0_2, ()) := WPh.of_eq (by kernel_rfl) h
theorem klu {r0 : Int} {r1 : Bool} {d0_0 : List Int} {d0_1 : Int} {d0_2 : Bool} {s1 : Int} {s17 : Bool} {h0_0 : List Int} {h0_1 : Int} {h0_2 : Bool} (h :
((s17 = true →
 0 = r0 ∧ false = r1 ∧ h0_0 = d0_0 ∧ h0_1 = d0_1 ∧ true = d0_2) ∧
(s17 = false →
 Md.Loop (s1, (0 : Int), s1, (0 : Int), h0_0, h0_1, h0_2, ()) (k9v (r0, r1, d0_0, d0_1, d0_2, ()))))) : k6i (r0, r1, d0_0, d0_1, d0_2, ()) (s1, s17, h0_0, h0_1, h0_2, ()) := ⟨mpr_of (by kernel_rfl) h⟩
def kqu (r0 : Int) (r1 : Bool) (d0_0 : List Int) (d0_1 : Int) (d0_2 : Bool) (k1 : Int → Int → Prop) (s1 : Int) (s21 : Int) (h0_0 : List Int) (h0_1 : Int) (h0_2 : Bool) (s6 : Int) (s22 : Int) : Prop :=
(decide (s22 < s21) = true →
(0 ≤ IntKind.i64.wrap (h0_1 + s22)) ∧ IntKind.i64.wrap (h0_1 + s22) < (h0_0.length : Int) ∧ let v3 : Int := IntKind.u64.wrap (ix h0_0 (IntKind.i64.wrap (h0_1 + s22)))
(0 ≤ IntKind.i64.wrap (8 * s22)) ∧ let v4 : Int := ishl .u64 v3 (IntKind.i64.wrap (8 * s22))
 k1 (ior .u64 s6 v4 : Int) (IntKind.i64.wrap (s22 + 1) : Int)) ∧
(decide (s22 < s21) = false →
 s6 = r0 ∧ true = r1 ∧ h0_0 = d0_0 ∧ IntKind.i64.wrap (h0_1 + s1) = d0_1 ∧ h0_2 = d0_2)
theorem k15o {r0 : Int} {r1 : Bool} {d0_0 : List Int} {d0_1 : Int} {d0_2 : Bool} {s1 : Int} {s21 : Int} {h0_0 : List Int} {h0_1 : Int} {h0_2 : Bool} {s6 : Int} {s22 : Int} (inv : Int → Int → Prop) (μ : Int → Int → Nat) (h0 : inv s6 s22) (hs : ∀ (s6 : Int) (s22 : Int), inv s6 s22 → kqu r0 r1 d0_0 d0_1 d0_2 (fun s6q s22q => inv s6q s22q ∧ μ s6q s22q < μ s6 s22) s1 s21 h0_0 h0_1 h0_2 s6 s22) : Md.Loop (s1, s6, s21, s22, h0_0, h0_1, h0_2, ()) (k9v (r0, r1, d0_0, d0_1, d0_2, ())) :=
 ⟨⟨fun s : Int × Int × Int × Int × (List Int) × Int × Bool × Unit => (s.1 = s1 ∧ s.2.2.1 = s21 ∧ s.2.2.2.2.1 = h0_0 ∧ s.2.2.2.2.2.1 = h0_1 ∧ s.2.2.2.2.2.2.1 = h0_2) ∧ inv s.2.1 s.2.2.2.1, fun s : Int × Int × Int × Int × (List Int) × Int × Bool × Unit => μ s.2.1 s.2.2.2.1, ⟨⟨rfl, rfl, rfl, rfl, rfl⟩, h0⟩, fun (s1p, s6p, s21p, s22p, h0_0p, h0_1p, h0_2p, ()) ⟨⟨eq0, eq1, eq2, eq3, eq4⟩, hi⟩ => by
  have eq0 : s1p = s1 := eq0; subst s1p; have eq1 : s21p = s21 := eq1; subst s21p; have eq2 : h0_0p = h0_0 := eq2; subst h0_0p; have eq3 : h0_1p = h0_1 := eq3; subst h0_1p; have eq4 : h0_2p = h0_2 := eq4; subst h0_2p; exact mpr_of (by kernel_rfl) ((congrArg (fun k => kqu r0 r1 d0_0 d0_1 d0_2 k s1 s21 h0_0 h0_1 h0_2 s6p s22p) (lpk2 (⟨rfl, rfl, rfl, rfl, rfl⟩ : s1 = s1 ∧ s21 = s21 ∧ h0_0 = h0_0 ∧ h0_1 = h0_1 ∧ h0_2 = h0_2) inv (fun s6q s22q => μ s6q s22q < μ s6p s22p))).mpr (hs s6p s22p hi))⟩⟩
theorem bd95 : Callable Try.prog 95 := ⟨by rw [Try.func95]; kernel_rfl, by rw [Try.func95]; show some _ ≠ some _; decide⟩
theorem k123 (p1 : Int) (c0_0 : List Int) (c0_1 : Int) (c0_2 : Bool) (h : RdOk c0_0 c0_1 ∧ 1 ≤ p1 ∧ p1 ≤ 8) : kg6 (p1, c0_0, c0_1, c0_2, ()) ((((rdD c0_0 c0_1 c0_2 p1).n) : Int), (((rdD c0_0 c0_1 c0_2 p1).ok) : Bool), (c0_0 : List Int), (((rdD c0_0 c0_1 c0_2 p1).pos) : Int), (((rdD c0_0 c0_1 c0_2 p1).fail) : Bool), ()) := by
 obtain ⟨⟨hb, hl, h0, h1⟩, h2, h3⟩ := h
 have jf : (c0_2 = true ∨ (c0_0.length : Int) - c0_1 < p1) → k6i ((rdD c0_0 c0_1 c0_2 p1).n, (rdD c0_0 c0_1 c0_2 p1).ok, c0_0, (rdD c0_0 c0_1 c0_2 p1).pos, (rdD c0_0 c0_1 c0_2 p1).fail, ()) (p1, true, c0_0, c0_1, c0_2, ()) := by
  intro h
  refine klu ⟨fun _ => ?_, fun h => by simp at h⟩
  unfold rdD
  rw [if_pos h]
  exact ⟨rfl, rfl, rfl, rfl, rfl⟩
 have jt : ¬ (c0_2 = true ∨ (c0_0.length : Int) - c0_1 < p1) → k6i ((rdD c0_0 c0_1 c0_2 p1).n, (rdD c0_0 c0_1 c0_2 p1).ok, c0_0, (rdD c0_0 c0_1 c0_2 p1).pos, (rdD c0_0 c0_1 c0_2 p1).fail, ()) (p1, false, c0_0, c0_1, c0_2, ()) := by
  intro h
  refine klu ⟨fun h => by simp at h, fun _ => ?_⟩
  have hD : rdD c0_0 c0_1 c0_2 p1 = ⟨val ((c0_0.drop c0_1.toNat).take p1.toNat), true, c0_1 + p1, false⟩ := by unfold rdD; rw [if_neg h]
  rw [hD]
  refine k15o (fun n i => 0 ≤ i ∧ i ≤ p1 ∧ n = val ((c0_0.drop c0_1.toNat).take i.toNat)) (fun _ i => (p1 - i).toNat) ⟨by omega, by omega, rfl⟩ ?_
  rintro n i ⟨g0, g1, rfl⟩
  refine ⟨fun hh => ?_, fun hh => ?_⟩
  ·have hh := of_decide_eq_true hh
   have hlen : (((c0_0.drop c0_1.toNat).take i.toNat).length : Int) = i := by rw [List.length_take, List.length_drop]; omega
   have hix : ix c0_0 (c0_1 + i) = ix (c0_0.drop c0_1.toNat) i := by
    rw [ix_nat _ _ (by omega) (by omega), ix_nat _ _ g0 (by rw [List.length_drop]; omega), List.getElem_drop]
    congr 1
    omega
   have hx := hb _ (ix_mem c0_0 (c0_1 + i) (by omega) (by omega))
   have hv := ior_val ((c0_0.drop c0_1.toNat).take i.toNat) (ix (c0_0.drop c0_1.toNat) i) ((hb.drop _).take _) (by omega) (by rw [← hix]; exact hx)
   rw [hlen] at hv
   rw [inc i p1 g0 hh (by omega), wi (c0_1 + i) (by omega) (by omega), wi (8 * i) (by omega) (by omega), wu (ix c0_0 (c0_1 + i)) (by omega) (by omega), hix]
   simp only [hv]
   refine ⟨by omega, by omega, by omega, ⟨by omega, by omega, ?_⟩, by omega⟩
   rw [k2f _ i g0 (by rw [List.length_drop]; omega)]
  ·have hh := of_decide_eq_false hh
   have h4 : c0_2 = false := by
    cases hc : c0_2
    ·rfl
    ·exact absurd (.inl hc) h
   exact ⟨by rw [show i = p1 by omega], rfl, rfl, wi _ (by omega) (by omega), h4⟩
 refine k19g ⟨fun h => jf (.inl h), fun h => ⟨⟨⟨h0, h1⟩, hl⟩, ?_⟩⟩
 by_cases hq : (c0_0.length : Int) - c0_1 < p1
 ·rw [decide_eq_true hq]; exact jf (.inr hq)
 ·rw [decide_eq_false hq]; exact jt (by rw [h]; simpa using hq)
def kbq : Con TB.den := { k1z with R := fun x K => (fun (p1 : Int) (c0_0 : List Int) (c0_1 : Int) (c0_2 : Bool) => ((RdOk c0_0 c0_1 ∧ 1 ≤ p1 ∧ p1 ≤ 8) ∧ ∀ (v0 : Int) (v1 : Bool) (v3 : Int) (v4 : Bool), (v0 = (((rdD c0_0 c0_1 c0_2 p1).n)) ∧ v1 = (((rdD c0_0 c0_1 c0_2 p1).ok)) ∧ v3 = (((rdD c0_0 c0_1 c0_2 p1).pos)) ∧ v4 = (((rdD c0_0 c0_1 c0_2 p1).fail))) → K (v0, v1, (c0_0 : List Int), v3, v4, ()) : Prop)) x.1 x.2.1 x.2.2.1 x.2.2.2.1 }
theorem kj0 : kbq.Ok Try.prog TB := ⟨bd95, fun x K hx => ⟨((fun (p1 : Int) (c0_0 : List Int) (c0_1 : Int) (c0_2 : Bool) => (((rdD c0_0 c0_1 c0_2 p1).n) : Int)) x.1 x.2.1 x.2.2.1 x.2.2.2.1, (fun (p1 : Int) (c0_0 : List Int) (c0_1 : Int) (c0_2 : Bool) => (((rdD c0_0 c0_1 c0_2 p1).ok) : Bool)) x.1 x.2.1 x.2.2.1 x.2.2.2.1, (fun (p1 : Int) (c0_0 : List Int) (c0_1 : Int) (c0_2 : Bool) => (c0_0 : List Int)) x.1 x.2.1 x.2.2.1 x.2.2.2.1, (fun (p1 : Int) (c0_0 : List Int) (c0_1 : Int) (c0_2 : Bool) => (((rdD c0_0 c0_1 c0_2 p1).pos) : Int)) x.1 x.2.1 x.2.2.1 x.2.2.2.1, (fun (p1 : Int) (c0_0 : List Int) (c0_1 : Int) (c0_2 : Bool) => (((rdD c0_0 c0_1 c0_2 p1).fail) : Bool)) x.1 x.2.1 x.2.2.1 x.2.2.2.1, ()), hx.2 ((fun (p1 : Int) (c0_0 : List Int) (c0_1 : Int) (c0_2 : Bool) => ((((rdD c0_0 c0_1 c0_2 p1).n)))) x.1 x.2.1 x.2.2.1 x.2.2.2.1) ((fun (p1 : Int) (c0_0 : List Int) (c0_1 : Int) (c0_2 : Bool) => ((((rdD c0_0 c0_1 c0_2 p1).ok)))) x.1 x.2.1 x.2.2.1 x.2.2.2.1) ((fun (p1 : Int) (c0_0 : List Int) (c0_1 : Int) (c0_2 : Bool) => ((((rdD c0_0 c0_1 c0_2 p1).pos)))) x.1 x.2.1 x.2.2.1 x.2.2.2.1) ((fun (p1 : Int) (c0_0 : List Int) (c0_1 : Int) (c0_2 : Bool) => ((((rdD c0_0 c0_1 c0_2 p1).fail)))) x.1 x.2.1 x.2.2.1 x.2.2.2.1) ⟨rfl, rfl, rfl, rfl⟩, k16a (k123 x.1 x.2.1 x.2.2.1 x.2.2.2.1 hx.1)⟩⟩
def k49 : Con TB.den := Con.mk0 54 [.one (.ptr 0 0), .one (.d (.int .i64))] [.cells [.d (.sl (.int .u8)), .d (.int .i64), .d (.bool)]] (.one (.one (.d (.int .i64)))) [.cells [.d (.sl (.int .u8)), .d (.int .i64), .d (.bool)]]
abbrev k14b := HL TB.den (hsT k49.ins (hsOs k49.pre))
abbrev k8a := HL TB.den (hsV k49.res (hsOs k49.post))
def k7f : Cx TB := ⟨inf, [kbq], [], 4, []⟩
def kax : Code := Try.f54.body.getD .skip
def ki5 : List ResultVar := Try.f54.results.toList
def k1i5 (o : k8a) := qS TB k7f 25 1 (cB (cB (cB kax))) .no (retTQ TB k7f k49 ki5 o)
def kgx : Tm := ⟨[0], [.cells [.d (.sl (.int .u8)), .d (.int .i64), .d (.bool)]], [0, 5, 19], [.one (.ptr 0 0), .one (.d (.int .u64)), .one (.d (.bool))], 1⟩
def kx3 (o : k8a) (i : HL TB.den kgx.hs) : Prop := ghs TB [] (kgx.fill TB i) fun s => WP TB k7f 25 1 (cB (cA (cB (cB kax)))) .no s (k1i5 o)
structure kdv (o : k8a) (i : HL TB.den kgx.hs) : Prop where
 h : kx3 o i
def k1hw (o : k8a) : An TB := .nd [] (.jn kgx (kdv o) [] .no [] .no) [] .no
def k101 (o : k8a) : An TB := .nd [] .no [] (.nd [] .no [] (k1hw o))
def kl7 (x : k14b) (o : k8a) : Prop := WPh TB k7f 25 1 kax (k101 o) (k49.st TB x) (retTQ TB k7f k49 ki5 o)
theorem k1df (o : k8a) : OblH TB k7f 25 1 kax (k101 o) (retTQ TB k7f k49 ki5 o) :=
 OblH.ofC (X := ((∀ i, (kdv o) i = kx3 o i) ∧ True)) (by kernel_rfl) ⟨fun _ => propext ⟨fun h => h.1, fun h => ⟨h⟩⟩, trivial⟩
theorem k1du {x : k14b} {o : k8a} (h : kl7 x o) : k49.Snd Try.prog x o :=
 Con.soundH (c := k49) (C := k7f) TBok ⟨inf_ok, (all_cons kj0 all_nil), all_nil⟩ mix Try.func54 (show Try.f54.body = some kax by kernel_rfl) (show Try.f54.ntmps = 25 by kernel_rfl) (show Try.f54.results.toList = ki5 by kernel_rfl) rfl h (k1df o)
theorem k1hb {p1 : Int} {c0_0 : List Int} {c0_1 : Int} {c0_2 : Bool} {r0 : Int} {d0_0 : List Int} {d0_1 : Int} {d0_2 : Bool} (h :
((RdOk c0_0 c0_1 ∧ 1 ≤ (4 : Int) ∧ (4 : Int) ≤ 8) ∧ ∀ (r5 : Int) (r6 : Bool) (r7 : Int) (r8 : Bool), (r5 = ((rdD c0_0 c0_1 c0_2 (4 : Int)).n) ∧ r6 = ((rdD c0_0 c0_1 c0_2 (4 : Int)).ok) ∧ r7 = ((rdD c0_0 c0_1 c0_2 (4 : Int)).pos) ∧ r8 = ((rdD c0_0 c0_1 c0_2 (4 : Int)).fail)) → ((!r6) = true →
 kdv (r0, d0_0, d0_1, d0_2, ()) (r5, true, c0_0, r7, r8, ())) ∧
((!r6) = false →
 kdv (r0, d0_0, d0_1, d0_2, ()) (r5, (decide (p1 < (IntKind.i64.wrap r5)) : Bool), c0_0, r7, r8, ())))) : kl7 (p1, c0_0, c0_1, c0_2, ()) (r0, d0_0, d0_1, d0_2, ()) := WPh.of_eq (by kernel_rfl) h
theorem krn {r0 : Int} {d0_0 : List Int} {d0_1 : Int} {d0_2 : Bool} {s5 : Int} {s19 : Bool} {h0_0 : List Int} {h0_1 : Int} {h0_2 : Bool} (h :
((s19 = true →
 0 = r0 ∧ h0_0 = d0_0 ∧ h0_1 = d0_1 ∧ true = d0_2) ∧
(s19 = false →
 IntKind.i64.wrap s5 = r0 ∧ h0_0 = d0_0 ∧ h0_1 = d0_1 ∧ h0_2 = d0_2))) : kdv (r0, d0_0, d0_1, d0_2, ()) (s5, s19, h0_0, h0_1, h0_2, ()) := ⟨mpr_of (by kernel_rfl) h⟩
theorem bd54 : Callable Try.prog 54 := ⟨by rw [Try.func54]; kernel_rfl, by rw [Try.func54]; show some _ ≠ some _; decide⟩
theorem k1c7 (p1 : Int) (c0_0 : List Int) (c0_1 : Int) (c0_2 : Bool) (h : RdOk c0_0 c0_1) : kl7 (p1, c0_0, c0_1, c0_2, ()) ((((rdI c0_0 c0_1 c0_2 p1).n) : Int), (c0_0 : List Int), (((rdI c0_0 c0_1 c0_2 p1).pos) : Int), (((rdI c0_0 c0_1 c0_2 p1).fail) : Bool), ()) := by
 have hn : 0 ≤ (rdD c0_0 c0_1 c0_2 4).n ∧ (rdD c0_0 c0_1 c0_2 4).n < 4294967296 := k14r h (p := 4) (f := c0_2) (by omega) (by omega)
 refine k1hb ⟨⟨h, by omega, by omega⟩, ?_⟩
 rintro _ _ _ _ ⟨rfl, rfl, rfl, rfl⟩
 unfold rdI
 rw [wi (rdD c0_0 c0_1 c0_2 4).n (by omega) (by have := hn.2; omega)]
 refine ⟨fun e => krn ⟨fun _ => ?_, fun h => by simp at h⟩, fun e => krn ⟨fun e2 => ?_, fun e2 => ?_⟩⟩
 ·have e : (rdD c0_0 c0_1 c0_2 4).ok = false := by simpa using e
  rw [e]
  exact ⟨rfl, rfl, rfl, rfl⟩
 ·have e : (rdD c0_0 c0_1 c0_2 4).ok = true := by simpa using e
  have e2 := of_decide_eq_true e2
  rw [if_pos (.inr e2)]
  exact ⟨rfl, rfl, rfl, rfl⟩
 ·have e : (rdD c0_0 c0_1 c0_2 4).ok = true := by simpa using e
  have e2 := of_decide_eq_false e2
  rw [if_neg (by rw [e]; simpa using e2)]
  exact ⟨wi _ (by omega) (by have := hn.2; omega), rfl, rfl, rfl⟩
def kn6 : Con TB.den := { k49 with R := fun x K => (fun (p1 : Int) (c0_0 : List Int) (c0_1 : Int) (c0_2 : Bool) => ((RdOk c0_0 c0_1) ∧ ∀ (v0 : Int) (v2 : Int) (v3 : Bool), (v0 = (((rdI c0_0 c0_1 c0_2 p1).n)) ∧ v2 = (((rdI c0_0 c0_1 c0_2 p1).pos)) ∧ v3 = (((rdI c0_0 c0_1 c0_2 p1).fail))) → K (v0, (c0_0 : List Int), v2, v3, ()) : Prop)) x.1 x.2.1 x.2.2.1 x.2.2.2.1 }
theorem k10e : kn6.Ok Try.prog TB := ⟨bd54, fun x K hx => ⟨((fun (p1 : Int) (c0_0 : List Int) (c0_1 : Int) (c0_2 : Bool) => (((rdI c0_0 c0_1 c0_2 p1).n) : Int)) x.1 x.2.1 x.2.2.1 x.2.2.2.1, (fun (p1 : Int) (c0_0 : List Int) (c0_1 : Int) (c0_2 : Bool) => (c0_0 : List Int)) x.1 x.2.1 x.2.2.1 x.2.2.2.1, (fun (p1 : Int) (c0_0 : List Int) (c0_1 : Int) (c0_2 : Bool) => (((rdI c0_0 c0_1 c0_2 p1).pos) : Int)) x.1 x.2.1 x.2.2.1 x.2.2.2.1, (fun (p1 : Int) (c0_0 : List Int) (c0_1 : Int) (c0_2 : Bool) => (((rdI c0_0 c0_1 c0_2 p1).fail) : Bool)) x.1 x.2.1 x.2.2.1 x.2.2.2.1, ()), hx.2 ((fun (p1 : Int) (c0_0 : List Int) (c0_1 : Int) (c0_2 : Bool) => ((((rdI c0_0 c0_1 c0_2 p1).n)))) x.1 x.2.1 x.2.2.1 x.2.2.2.1) ((fun (p1 : Int) (c0_0 : List Int) (c0_1 : Int) (c0_2 : Bool) => ((((rdI c0_0 c0_1 c0_2 p1).pos)))) x.1 x.2.1 x.2.2.1 x.2.2.2.1) ((fun (p1 : Int) (c0_0 : List Int) (c0_1 : Int) (c0_2 : Bool) => ((((rdI c0_0 c0_1 c0_2 p1).fail)))) x.1 x.2.1 x.2.2.1 x.2.2.2.1) ⟨rfl, rfl, rfl⟩, k1du (k1c7 x.1 x.2.1 x.2.2.1 x.2.2.2.1 hx.1)⟩⟩
def k2q : Con TB.den := Con.mk0 57 [.one (.ptr 0 0), .one (.d (.int .i64)), .one (.d (.int .u64))] [.cells [.d (.sl (.int .u8)), .d (.int .i64), .d (.bool)]] (.one (.one (.d (.sl (.int .u64))))) [.cells [.d (.sl (.int .u8)), .d (.int .i64), .d (.bool)]]
abbrev kzz := HL TB.den (hsT k2q.ins (hsOs k2q.pre))
abbrev k3c := HL TB.den (hsV k2q.res (hsOs k2q.post))
def k3j : Cx TB := ⟨inf, [kn6, kkk, kbq], [], 4, []⟩
def k6k : Code := Try.f57.body.getD .skip
def kc9 : List ResultVar := Try.f57.results.toList
def k1dv (o : k3c) := qS TB k3j 53 1 (cB (cB (cB (cB (cB k6k))))) (.nd [] .no [] (.rt [.frz 1 [6]])) (retTQ TB k3j k2q kc9 o)
def k9q : Tm := ⟨[0, 1], [.cells [.d (.sl (.int .u8)), .d (.int .i64), .d (.bool)], .vec (.int .u64)], [0, 2, 8, 30, 31], [.one (.ptr 0 0), .one (.d (.int .u64)), .one (.row 1), .one (.d (.int .i64)), .one (.d (.int .i64))], 2⟩
def kbx (o : k3c) (nx1 : NX TB k9q) (i : HL TB.den k9q.hs) : Prop := WP TB k3j 53 1 (cA (cA (cB (cA (cB (cB (cB (cB k6k)))))))) .no (k9q.fill TB i) (qM TB 1 k9q nx1 (blockT TB 0 (k1dv o)))
def k1eo (o : k3c) : An TB := .nd [] .no [] (.lp [] k9q (kbx o) fun nx1 => .no)
def kx5 (o : k3c) : An TB := .nd [] (k1eo o) [] (.nd [] .no [] (.rt [.frz 1 [6]]))
def k1ef (o : k3c) := qS TB k3j 53 1 (cB (cB (cB k6k))) (.nd [] .no [] (kx5 o)) (retTQ TB k3j k2q kc9 o)
def ket : Tm := ⟨[0], [.cells [.d (.sl (.int .u8)), .d (.int .i64), .d (.bool)]], [0, 2, 7, 23], [.one (.ptr 0 0), .one (.d (.int .u64)), .one (.d (.int .i64)), .one (.d (.bool))], 1⟩
def ku2 (o : k3c) (i : HL TB.den ket.hs) : Prop := ghs TB [] (ket.fill TB i) fun s => WP TB k3j 53 1 (cB (cA (cB (cB k6k)))) .no s (k1ef o)
structure k7r (o : k3c) (i : HL TB.den ket.hs) : Prop where
 h : ku2 o i
def k1f4 (o : k3c) : An TB := .nd [] (.jn ket (k7r o) [] .no [] .no) [] (.nd [] .no [] (kx5 o))
def kvp (o : k3c) : An TB := .nd [] .no [] (.nd [] .no [] (k1f4 o))
def kje (x : kzz) (o : k3c) : Prop := WPh TB k3j 53 1 k6k (kvp o) (k2q.st TB x) (retTQ TB k3j k2q kc9 o)
theorem k1a9 (o : k3c) : OblH TB k3j 53 1 k6k (kvp o) (retTQ TB k3j k2q kc9 o) :=
 OblH.ofC (X := ((∀ i, (k7r o) i = ku2 o i) ∧ (∀ nx i, (kbx o) nx i = (kbx o) nx i) ∧ (∀ nx1 : NX TB k9q, True) ∧ True)) (by kernel_rfl) ⟨fun _ => propext ⟨fun h => h.1, fun h => ⟨h⟩⟩, fun _ _ => rfl, fun _ => trivial, trivial⟩
theorem k1cr {x : kzz} {o : k3c} (h : kje x o) : k2q.Snd Try.prog x o :=
 Con.soundH (c := k2q) (C := k3j) TBok ⟨inf_ok, (all_cons k10e (all_cons kwt (all_cons kj0 all_nil))), all_nil⟩ mix Try.func57 (show Try.f57.body = some k6k by kernel_rfl) (show Try.f57.ntmps = 53 by kernel_rfl) (show Try.f57.results.toList = kc9 by kernel_rfl) rfl h (k1a9 o)
theorem k1d8 {p1 : Int} {p2 : Int} {c0_0 : List Int} {c0_1 : Int} {c0_2 : Bool} {r0 : List Int} {d0_0 : List Int} {d0_1 : Int} {d0_2 : Bool} (h :
((RdOk c0_0 c0_1) ∧ ∀ (r4 : Int) (r5 : Int) (r6 : Bool), (r4 = ((rdI c0_0 c0_1 c0_2 p1).n) ∧ r5 = ((rdI c0_0 c0_1 c0_2 p1).pos) ∧ r6 = ((rdI c0_0 c0_1 c0_2 p1).fail)) → (r6 = true →
 k7r (r0, d0_0, d0_1, d0_2, ()) (p2, r4, true, c0_0, r5, r6, ())) ∧
(r6 = false →
((0 ≤ r5 ∧ r5 ≤ c0_0.length) ∧ c0_0.length ≤ 137438953472) ∧ let v7 : Int := IntKind.i64.wrap (Int.tdiv ((c0_0.length : Int) - r5) 8)
 k7r (r0, d0_0, d0_1, d0_2, ()) (p2, r4, (decide (v7 < r4) : Bool), c0_0, r5, r6, ())))) : kje (p1, p2, c0_0, c0_1, c0_2, ()) (r0, d0_0, d0_1, d0_2, ()) := WPh.of_eq (by kernel_rfl) h
theorem kpw {r0 : List Int} {d0_0 : List Int} {d0_1 : Int} {d0_2 : Bool} {s2 : Int} {s7 : Int} {s23 : Bool} {h0_0 : List Int} {h0_1 : Int} {h0_2 : Bool} (h :
((s23 = true →
([] : List Int) = r0 ∧ h0_0 = d0_0 ∧ h0_1 = d0_1 ∧ true = d0_2) ∧
(s23 = false →
 0 ≤ s7 ∧ s7 ≤ s7 ∧ (s7.toNat * 8 ≤ 140737488355328) ∧ (s7.toNat ≤ maxLen) ∧ (s7.toNat = (List.replicate s7.toNat (0 : Int)).length) ∧ Md.Loop (s2, ((s7.toNat : Int) : Int), (0 : Int), h0_0, h0_1, h0_2, (List.replicate s7.toNat (0 : Int) : List Int), ()) (kbx (r0, d0_0, d0_1, d0_2, ()))))) : k7r (r0, d0_0, d0_1, d0_2, ()) (s2, s7, s23, h0_0, h0_1, h0_2, ()) := ⟨mpr_of (by kernel_rfl) h⟩
def kvu (r0 : List Int) (d0_0 : List Int) (d0_1 : Int) (d0_2 : Bool) (k1 : Int → Int → Bool → List Int → Prop) (s2 : Int) (s30 : Int) (h0_0 : List Int) (s31 : Int) (h0_1 : Int) (h0_2 : Bool) (g1 : List Int) : Prop :=
(decide (s31 < s30) = true →
(RdOk h0_0 h0_1 ∧ 1 ≤ (8 : Int) ∧ (8 : Int) ≤ 8) ∧ ∀ (r36 : Int) (r37 : Bool) (r38 : Int) (r39 : Bool), (r36 = ((rdD h0_0 h0_1 h0_2 (8 : Int)).n) ∧ r37 = ((rdD h0_0 h0_1 h0_2 (8 : Int)).ok) ∧ r38 = ((rdD h0_0 h0_1 h0_2 (8 : Int)).pos) ∧ r39 = ((rdD h0_0 h0_1 h0_2 (8 : Int)).fail)) → (0 ≤ s31 ∧ s31 < (g1.length : Int)) ∧ (0 ≤ s31 ∧ s31 < (g1.length : Int)) ∧ (0 ≤ s31 ∧ s31 < (g1.length : Int)) ∧ (0 ≤ s31 ∧ s31 < ((g1.set s31.toNat r36).length : Int)) ∧ let v40 : Bool := decide (s2 ≤ (ix (g1.set s31.toNat r36) s31))
(v40 = true →
([] : List Int) = r0 ∧ h0_0 = d0_0 ∧ r38 = d0_1 ∧ true = d0_2) ∧
(v40 = false →
(g1.length = (g1.set s31.toNat r36).length) ∧ k1 (IntKind.i64.wrap (s31 + 1) : Int) r38 r39 (g1.set s31.toNat r36 : List Int))) ∧
(decide (s31 < s30) = false →
(g1.length = g1.length) ∧ g1 = r0 ∧ h0_0 = d0_0 ∧ h0_1 = d0_1 ∧ h0_2 = d0_2)
theorem k1c1 {r0 : List Int} {d0_0 : List Int} {d0_1 : Int} {d0_2 : Bool} {s2 : Int} {s30 : Int} {h0_0 : List Int} {s31 : Int} {h0_1 : Int} {h0_2 : Bool} {g1 : List Int} (inv : Int → Int → Bool → List Int → Prop) (μ : Int → Int → Bool → List Int → Nat) (h0 : inv s31 h0_1 h0_2 g1) (hs : ∀ (s31 : Int) (h0_1 : Int) (h0_2 : Bool) (g1 : List Int), inv s31 h0_1 h0_2 g1 → kvu r0 d0_0 d0_1 d0_2 (fun s31q h0_1q h0_2q g1q => inv s31q h0_1q h0_2q g1q ∧ μ s31q h0_1q h0_2q g1q < μ s31 h0_1 h0_2 g1) s2 s30 h0_0 s31 h0_1 h0_2 g1) : Md.Loop (s2, s30, s31, h0_0, h0_1, h0_2, g1, ()) (kbx (r0, d0_0, d0_1, d0_2, ())) :=
 ⟨⟨fun s : Int × Int × Int × (List Int) × Int × Bool × (List Int) × Unit => (s.1 = s2 ∧ s.2.1 = s30 ∧ s.2.2.2.1 = h0_0) ∧ inv s.2.2.1 s.2.2.2.2.1 s.2.2.2.2.2.1 s.2.2.2.2.2.2.1, fun s : Int × Int × Int × (List Int) × Int × Bool × (List Int) × Unit => μ s.2.2.1 s.2.2.2.2.1 s.2.2.2.2.2.1 s.2.2.2.2.2.2.1, ⟨⟨rfl, rfl, rfl⟩, h0⟩, fun (s2p, s30p, s31p, h0_0p, h0_1p, h0_2p, g1p, ()) ⟨⟨eq0, eq1, eq2⟩, hi⟩ => by
  have eq0 : s2p = s2 := eq0; subst s2p; have eq1 : s30p = s30 := eq1; subst s30p; have eq2 : h0_0p = h0_0 := eq2; subst h0_0p; exact mpr_of (by kernel_rfl) ((congrArg (fun k => kvu r0 d0_0 d0_1 d0_2 k s2 s30 h0_0 s31p h0_1p h0_2p g1p) (lpk4 (⟨rfl, rfl, rfl⟩ : s2 = s2 ∧ s30 = s30 ∧ h0_0 = h0_0) inv (fun s31q h0_1q h0_2q g1q => μ s31q h0_1q h0_2q g1q < μ s31p h0_1p h0_2p g1p))).mpr (hs s31p h0_1p h0_2p g1p hi))⟩⟩
theorem bd57 : Callable Try.prog 57 := ⟨by rw [Try.func57]; kernel_rfl, by rw [Try.func57]; show some _ ≠ some _; decide⟩
theorem k188 (p1 : Int) (p2 : Int) (c0_0 : List Int) (c0_1 : Int) (c0_2 : Bool) (h : RdOk c0_0 c0_1 ∧ (0 ≤ p1 ∧ p1 ≤ 4096)) : kje (p1, p2, c0_0, c0_1, c0_2, ()) ((((rdL c0_0 c0_1 c0_2 p1 p2).l) : List Int), (c0_0 : List Int), (((rdL c0_0 c0_1 c0_2 p1 p2).pos) : Int), (((rdL c0_0 c0_1 c0_2 p1 p2).fail) : Bool), ()) := by
 obtain ⟨h, hp0, hp1⟩ := h
 have hI := rdI_ok h (f := c0_2) (m := p1)
 have hIn := rdI_n h (f := c0_2) (m := p1) hp0
 have hb := h.by_
 have hl := h.len
 generalize hX : rdI c0_0 c0_1 c0_2 p1 = X at *
 have jf : (X.fail = true ∨ ((c0_0.length : Int) - X.pos) / 8 < X.n) → k7r ((rdL c0_0 c0_1 c0_2 p1 p2).l, c0_0, (rdL c0_0 c0_1 c0_2 p1 p2).pos, (rdL c0_0 c0_1 c0_2 p1 p2).fail, ()) (p2, X.n, true, c0_0, X.pos, X.fail, ()) := by
  intro hf
  refine kpw ⟨fun _ => ?_, fun h => by simp at h⟩
  unfold rdL
  rw [hX, if_pos hf]
  exact ⟨rfl, rfl, rfl, rfl⟩
 have jt : ¬ (X.fail = true ∨ ((c0_0.length : Int) - X.pos) / 8 < X.n) → k7r ((rdL c0_0 c0_1 c0_2 p1 p2).l, c0_0, (rdL c0_0 c0_1 c0_2 p1 p2).pos, (rdL c0_0 c0_1 c0_2 p1 p2).fail, ()) (p2, X.n, false, c0_0, X.pos, X.fail, ()) := by
  intro hf
  have hff : X.fail = false := by
   cases hc : X.fail
   ·rfl
   ·exact absurd (.inl hc) hf
  have hle : X.n * 8 ≤ (c0_0.length : Int) - X.pos := by
   have : ¬ ((c0_0.length : Int) - X.pos) / 8 < X.n := fun h => hf (.inr h)
   omega
  refine kpw ⟨fun h => by simp at h, fun _ => ⟨hIn.1, by omega, by have := hIn.2; omega, by have := hIn.2; unfold maxLen; omega, by simp, ?_⟩⟩
  have hL : rdL c0_0 c0_1 c0_2 p1 p2 = rdLs c0_0 p2 X.n.toNat X.pos [] := by unfold rdL; rw [hX, if_neg hf]
  rw [hff]
  have hnn : ((X.n.toNat : Int)) = X.n := by have := hIn.1; omega
  rw [hnn, hL]
  refine k1c1 (fun i pos f g => 0 ≤ i ∧ i ≤ X.n ∧ f = false ∧ 0 ≤ pos ∧ pos + (X.n - i) * 8 ≤ c0_0.length ∧ (g.length : Int) = X.n ∧ rdLs c0_0 p2 (X.n - i).toNat pos (g.take i.toNat) = rdLs c0_0 p2 X.n.toNat X.pos []) (fun i _ _ _ => (X.n - i).toNat) ⟨by omega, hIn.1, rfl, hI.pos0, by omega, by simp; have := hIn.1; omega, by simp⟩ ?_
  rintro i pos f g ⟨g0, g1, rfl, g2, g3, g4, g5⟩
  have hok : RdOk c0_0 pos := ⟨hb, hl, g2, by omega⟩
  refine ⟨fun hh => ?_, fun hh => ?_⟩
  ·have hh := of_decide_eq_true hh
   have hD : rdD c0_0 pos false 8 = ⟨val ((c0_0.drop pos.toNat).take 8), true, pos + 8, false⟩ := by unfold rdD; rw [if_neg (by simp; omega)]; rfl
   have hset : ix (g.set i.toNat (val ((c0_0.drop pos.toNat).take 8))) i = val ((c0_0.drop pos.toNat).take 8) := by
    rw [ix_nat _ i g0 (by rw [List.length_set]; omega)]
    simp
   have hstep : rdLs c0_0 p2 (X.n - i).toNat pos (g.take i.toNat) = if p2 ≤ val ((c0_0.drop pos.toNat).take 8) then ⟨[], pos + 8, true⟩ else rdLs c0_0 p2 (X.n - (i + 1)).toNat (pos + 8) (g.take i.toNat ++ [val ((c0_0.drop pos.toNat).take 8)]) := by
    rw [show (X.n - i).toNat = (X.n - (i + 1)).toNat + 1 by omega]
    rfl
   refine ⟨⟨hok, by omega, by omega⟩, fun n1 n2 n3 n4 e => ?_⟩
   rw [hD] at e
   obtain ⟨rfl, rfl, rfl, rfl⟩ := e
   refine ⟨by omega, by omega, by omega, by rw [List.length_set]; omega, fun e => ?_, fun e => ⟨by rw [List.length_set], ?_⟩⟩
   ·have e := of_decide_eq_true e
    rw [hset] at e
    rw [← g5, hstep, if_pos e]
    exact ⟨rfl, rfl, rfl, rfl⟩
   ·have e := of_decide_eq_false e
    rw [hset] at e
    rw [inc i X.n g0 hh (by have := hIn.2; omega)]
    refine ⟨⟨by omega, by omega, rfl, by show 0 ≤ pos + 8; omega, by show pos + 8 + (X.n - (i + 1)) * 8 ≤ _; omega, by rw [List.length_set]; exact g4, ?_⟩, by omega⟩
    rw [← g5, hstep, if_neg e]
    congr 1
    rw [k2f _ i g0 (by rw [List.length_set]; omega), hset]
    congr 1
    rw [List.take_set_of_le (by omega)]
  ·have hh := of_decide_eq_false hh
   have hi : i = X.n := by omega
   subst hi
   rw [Int.sub_self, List.take_of_length_le (by omega)] at g5
   rw [← g5]
   exact ⟨rfl, rfl, rfl, rfl, rfl⟩
 refine k1d8 ⟨h, ?_⟩
 rintro _ _ _ ⟨rfl, rfl, rfl⟩
 rw [hX]
 refine ⟨fun e => jf (.inl e), fun e => ⟨⟨⟨hI.pos0, hI.pos1⟩, hl⟩, ?_⟩⟩
 have := hI.pos0
 have := hI.pos1
 try simp only []
 rw [tdiv_nn _ _ (by omega), wi _ (by omega) (by omega)]
 by_cases hq : ((c0_0.length : Int) - X.pos) / 8 < X.n
 ·rw [decide_eq_true hq]; exact jf (.inr hq)
 ·rw [decide_eq_false hq]; exact jt (by rw [e]; simpa using hq)
def ktv : Con TB.den := { k2q with R := fun x K => (fun (p1 : Int) (p2 : Int) (c0_0 : List Int) (c0_1 : Int) (c0_2 : Bool) => ((RdOk c0_0 c0_1 ∧ (0 ≤ p1 ∧ p1 ≤ 4096)) ∧ ∀ (v0 : List Int) (v2 : Int) (v3 : Bool), (v0 = (((rdL c0_0 c0_1 c0_2 p1 p2).l)) ∧ v2 = (((rdL c0_0 c0_1 c0_2 p1 p2).pos)) ∧ v3 = (((rdL c0_0 c0_1 c0_2 p1 p2).fail))) → K (v0, (c0_0 : List Int), v2, v3, ()) : Prop)) x.1 x.2.1 x.2.2.1 x.2.2.2.1 x.2.2.2.2.1 }
theorem k1dw : ktv.Ok Try.prog TB := ⟨bd57, fun x K hx => ⟨((fun (p1 : Int) (p2 : Int) (c0_0 : List Int) (c0_1 : Int) (c0_2 : Bool) => (((rdL c0_0 c0_1 c0_2 p1 p2).l) : List Int)) x.1 x.2.1 x.2.2.1 x.2.2.2.1 x.2.2.2.2.1, (fun (p1 : Int) (p2 : Int) (c0_0 : List Int) (c0_1 : Int) (c0_2 : Bool) => (c0_0 : List Int)) x.1 x.2.1 x.2.2.1 x.2.2.2.1 x.2.2.2.2.1, (fun (p1 : Int) (p2 : Int) (c0_0 : List Int) (c0_1 : Int) (c0_2 : Bool) => (((rdL c0_0 c0_1 c0_2 p1 p2).pos) : Int)) x.1 x.2.1 x.2.2.1 x.2.2.2.1 x.2.2.2.2.1, (fun (p1 : Int) (p2 : Int) (c0_0 : List Int) (c0_1 : Int) (c0_2 : Bool) => (((rdL c0_0 c0_1 c0_2 p1 p2).fail) : Bool)) x.1 x.2.1 x.2.2.1 x.2.2.2.1 x.2.2.2.2.1, ()), hx.2 ((fun (p1 : Int) (p2 : Int) (c0_0 : List Int) (c0_1 : Int) (c0_2 : Bool) => ((((rdL c0_0 c0_1 c0_2 p1 p2).l)))) x.1 x.2.1 x.2.2.1 x.2.2.2.1 x.2.2.2.2.1) ((fun (p1 : Int) (p2 : Int) (c0_0 : List Int) (c0_1 : Int) (c0_2 : Bool) => ((((rdL c0_0 c0_1 c0_2 p1 p2).pos)))) x.1 x.2.1 x.2.2.1 x.2.2.2.1 x.2.2.2.2.1) ((fun (p1 : Int) (p2 : Int) (c0_0 : List Int) (c0_1 : Int) (c0_2 : Bool) => ((((rdL c0_0 c0_1 c0_2 p1 p2).fail)))) x.1 x.2.1 x.2.2.1 x.2.2.2.1 x.2.2.2.2.1) ⟨rfl, rfl, rfl⟩, k1cr (k188 x.1 x.2.1 x.2.2.1 x.2.2.2.1 x.2.2.2.2.1 hx.1)⟩⟩
def k3l : Con TB.den := Con.mk0 56 [.one (.ptr 0 0), .one (.d (.int .u64))] [.cells [.d (.sl (.int .u8)), .d (.int .i64), .d (.bool)]] (.one (.one (.d (.int .u64)))) [.cells [.d (.sl (.int .u8)), .d (.int .i64), .d (.bool)]]
abbrev kzw := HL TB.den (hsT k3l.ins (hsOs k3l.pre))
abbrev k7h := HL TB.den (hsV k3l.res (hsOs k3l.post))
def k6o : Cx TB := ⟨inf, [kbq], [], 4, []⟩
def k9x : Code := Try.f56.body.getD .skip
def kgh : List ResultVar := Try.f56.results.toList
def k1dc (o : k7h) := qS TB k6o 23 1 (cB (cB (cB k9x))) .no (retTQ TB k6o k3l kgh o)
def kev : Tm := ⟨[0], [.cells [.d (.sl (.int .u8)), .d (.int .i64), .d (.bool)]], [0, 5, 18], [.one (.ptr 0 0), .one (.d (.int .u64)), .one (.d (.bool))], 1⟩
def kti (o : k7h) (i : HL TB.den kev.hs) : Prop := ghs TB [] (kev.fill TB i) fun s => WP TB k6o 23 1 (cB (cA (cB (cB k9x)))) .no s (k1dc o)
structure kct (o : k7h) (i : HL TB.den kev.hs) : Prop where
 h : kti o i
def k1ew (o : k7h) : An TB := .nd [] (.jn kev (kct o) [] .no [] .no) [] .no
def kvf (o : k7h) : An TB := .nd [] .no [] (.nd [] .no [] (k1ew o))
def kj8 (x : kzw) (o : k7h) : Prop := WPh TB k6o 23 1 k9x (kvf o) (k3l.st TB x) (retTQ TB k6o k3l kgh o)
theorem k1ap (o : k7h) : OblH TB k6o 23 1 k9x (kvf o) (retTQ TB k6o k3l kgh o) :=
 OblH.ofC (X := ((∀ i, (kct o) i = kti o i) ∧ True)) (by kernel_rfl) ⟨fun _ => propext ⟨fun h => h.1, fun h => ⟨h⟩⟩, trivial⟩
theorem k1ch {x : kzw} {o : k7h} (h : kj8 x o) : k3l.Snd Try.prog x o :=
 Con.soundH (c := k3l) (C := k6o) TBok ⟨inf_ok, (all_cons kj0 all_nil), all_nil⟩ mix Try.func56 (show Try.f56.body = some k9x by kernel_rfl) (show Try.f56.ntmps = 23 by kernel_rfl) (show Try.f56.results.toList = kgh by kernel_rfl) rfl h (k1ap o)
theorem k1d6 {p1 : Int} {c0_0 : List Int} {c0_1 : Int} {c0_2 : Bool} {r0 : Int} {d0_0 : List Int} {d0_1 : Int} {d0_2 : Bool} (h :
((RdOk c0_0 c0_1 ∧ 1 ≤ (8 : Int) ∧ (8 : Int) ≤ 8) ∧ ∀ (r5 : Int) (r6 : Bool) (r7 : Int) (r8 : Bool), (r5 = ((rdD c0_0 c0_1 c0_2 (8 : Int)).n) ∧ r6 = ((rdD c0_0 c0_1 c0_2 (8 : Int)).ok) ∧ r7 = ((rdD c0_0 c0_1 c0_2 (8 : Int)).pos) ∧ r8 = ((rdD c0_0 c0_1 c0_2 (8 : Int)).fail)) → ((!r6) = true →
 kct (r0, d0_0, d0_1, d0_2, ()) (r5, true, c0_0, r7, r8, ())) ∧
((!r6) = false →
 kct (r0, d0_0, d0_1, d0_2, ()) (r5, (decide (p1 < r5) : Bool), c0_0, r7, r8, ())))) : kj8 (p1, c0_0, c0_1, c0_2, ()) (r0, d0_0, d0_1, d0_2, ()) := WPh.of_eq (by kernel_rfl) h
theorem kpo {r0 : Int} {d0_0 : List Int} {d0_1 : Int} {d0_2 : Bool} {s5 : Int} {s18 : Bool} {h0_0 : List Int} {h0_1 : Int} {h0_2 : Bool} (h :
((s18 = true →
 0 = r0 ∧ h0_0 = d0_0 ∧ h0_1 = d0_1 ∧ true = d0_2) ∧
(s18 = false →
 s5 = r0 ∧ h0_0 = d0_0 ∧ h0_1 = d0_1 ∧ h0_2 = d0_2))) : kct (r0, d0_0, d0_1, d0_2, ()) (s5, s18, h0_0, h0_1, h0_2, ()) := ⟨mpr_of (by kernel_rfl) h⟩
theorem bd56 : Callable Try.prog 56 := ⟨by rw [Try.func56]; kernel_rfl, by rw [Try.func56]; show some _ ≠ some _; decide⟩
theorem k19k (p1 : Int) (c0_0 : List Int) (c0_1 : Int) (c0_2 : Bool) (h : RdOk c0_0 c0_1) : kj8 (p1, c0_0, c0_1, c0_2, ()) ((((rdU c0_0 c0_1 c0_2 p1).n) : Int), (c0_0 : List Int), (((rdU c0_0 c0_1 c0_2 p1).pos) : Int), (((rdU c0_0 c0_1 c0_2 p1).fail) : Bool), ()) := by
 refine k1d6 ⟨⟨h, by omega, by omega⟩, ?_⟩
 rintro _ _ _ _ ⟨rfl, rfl, rfl, rfl⟩
 unfold rdU
 refine ⟨fun e => kpo ⟨fun _ => ?_, fun h => by simp at h⟩, fun e => kpo ⟨fun e2 => ?_, fun e2 => ?_⟩⟩
 ·have e : (rdD c0_0 c0_1 c0_2 8).ok = false := by simpa using e
  rw [e]
  exact ⟨rfl, rfl, rfl, rfl⟩
 ·have e : (rdD c0_0 c0_1 c0_2 8).ok = true := by simpa using e
  have e2 := of_decide_eq_true e2
  rw [if_pos (.inr e2)]
  exact ⟨rfl, rfl, rfl, rfl⟩
 ·have e : (rdD c0_0 c0_1 c0_2 8).ok = true := by simpa using e
  have e2 := of_decide_eq_false e2
  rw [if_neg (by rw [e]; simpa using e2)]
  exact ⟨rfl, rfl, rfl, rfl⟩
def kk2 : Con TB.den := { k3l with R := fun x K => (fun (p1 : Int) (c0_0 : List Int) (c0_1 : Int) (c0_2 : Bool) => ((RdOk c0_0 c0_1) ∧ ∀ (v0 : Int) (v2 : Int) (v3 : Bool), (v0 = (((rdU c0_0 c0_1 c0_2 p1).n)) ∧ v2 = (((rdU c0_0 c0_1 c0_2 p1).pos)) ∧ v3 = (((rdU c0_0 c0_1 c0_2 p1).fail))) → K (v0, (c0_0 : List Int), v2, v3, ()) : Prop)) x.1 x.2.1 x.2.2.1 x.2.2.2.1 }
theorem kvz : kk2.Ok Try.prog TB := ⟨bd56, fun x K hx => ⟨((fun (p1 : Int) (c0_0 : List Int) (c0_1 : Int) (c0_2 : Bool) => (((rdU c0_0 c0_1 c0_2 p1).n) : Int)) x.1 x.2.1 x.2.2.1 x.2.2.2.1, (fun (p1 : Int) (c0_0 : List Int) (c0_1 : Int) (c0_2 : Bool) => (c0_0 : List Int)) x.1 x.2.1 x.2.2.1 x.2.2.2.1, (fun (p1 : Int) (c0_0 : List Int) (c0_1 : Int) (c0_2 : Bool) => (((rdU c0_0 c0_1 c0_2 p1).pos) : Int)) x.1 x.2.1 x.2.2.1 x.2.2.2.1, (fun (p1 : Int) (c0_0 : List Int) (c0_1 : Int) (c0_2 : Bool) => (((rdU c0_0 c0_1 c0_2 p1).fail) : Bool)) x.1 x.2.1 x.2.2.1 x.2.2.2.1, ()), hx.2 ((fun (p1 : Int) (c0_0 : List Int) (c0_1 : Int) (c0_2 : Bool) => ((((rdU c0_0 c0_1 c0_2 p1).n)))) x.1 x.2.1 x.2.2.1 x.2.2.2.1) ((fun (p1 : Int) (c0_0 : List Int) (c0_1 : Int) (c0_2 : Bool) => ((((rdU c0_0 c0_1 c0_2 p1).pos)))) x.1 x.2.1 x.2.2.1 x.2.2.2.1) ((fun (p1 : Int) (c0_0 : List Int) (c0_1 : Int) (c0_2 : Bool) => ((((rdU c0_0 c0_1 c0_2 p1).fail)))) x.1 x.2.1 x.2.2.1 x.2.2.2.1) ⟨rfl, rfl, rfl⟩, k1ch (k19k x.1 x.2.1 x.2.2.1 x.2.2.2.1 hx.1)⟩⟩
def k1o : Con TB.den := Con.mk0 55 [.one (.ptr 0 0)] [.cells [.d (.sl (.int .u8)), .d (.int .i64), .d (.bool)]] (.one (.agg [.d (.int .u64), .d (.int .u64), .d (.int .u64), .d (.int .u64)])) [.cells [.d (.sl (.int .u8)), .d (.int .i64), .d (.bool)]]
abbrev klt := HL TB.den (hsT k1o.ins (hsOs k1o.pre))
abbrev kac := HL TB.den (hsV k1o.res (hsOs k1o.post))
def k79 : Cx TB := ⟨inf, [kk2], [], 4, []⟩
def kbe : Code := Try.f55.body.getD .skip
def kdh : List ResultVar := Try.f55.results.toList
def klc (o : kac) : An TB := .no
def kbn (x : klt) (o : kac) : Prop := WPh TB k79 20 1 kbe (klc o) (k1o.st TB x) (retTQ TB k79 k1o kdh o)
theorem kxa (o : kac) : OblH TB k79 20 1 kbe (klc o) (retTQ TB k79 k1o kdh o) :=
 OblH.ofC (X := True) (by kernel_rfl) trivial
theorem kwo {x : klt} {o : kac} (h : kbn x o) : k1o.Snd Try.prog x o :=
 Con.soundH (c := k1o) (C := k79) TBok ⟨inf_ok, (all_cons kvz all_nil), all_nil⟩ mix Try.func55 (show Try.f55.body = some kbe by kernel_rfl) (show Try.f55.ntmps = 20 by kernel_rfl) (show Try.f55.results.toList = kdh by kernel_rfl) rfl h (kxa o)
theorem kym {c0_0 : List Int} {c0_1 : Int} {c0_2 : Bool} {r0 : TNote} {d0_0 : List Int} {d0_1 : Int} {d0_2 : Bool} (h :
((RdOk c0_0 c0_1) ∧ ∀ (r4 : Int) (r5 : Int) (r6 : Bool), (r4 = ((rdU c0_0 c0_1 c0_2 (4294967295 : Int)).n) ∧ r5 = ((rdU c0_0 c0_1 c0_2 (4294967295 : Int)).pos) ∧ r6 = ((rdU c0_0 c0_1 c0_2 (4294967295 : Int)).fail)) → (RdOk c0_0 r5) ∧ ∀ (r10 : Int) (r11 : Int) (r12 : Bool), (r10 = ((rdU c0_0 r5 r6 (18446744069414584320 : Int)).n) ∧ r11 = ((rdU c0_0 r5 r6 (18446744069414584320 : Int)).pos) ∧ r12 = ((rdU c0_0 r5 r6 (18446744069414584320 : Int)).fail)) → (RdOk c0_0 r11) ∧ ∀ (r16 : Int) (r17 : Int) (r18 : Bool), (r16 = ((rdU c0_0 r11 r12 (18446744069414584320 : Int)).n) ∧ r17 = ((rdU c0_0 r11 r12 (18446744069414584320 : Int)).pos) ∧ r18 = ((rdU c0_0 r11 r12 (18446744069414584320 : Int)).fail)) → (RdOk c0_0 r17) ∧ ∀ (r22 : Int) (r23 : Int) (r24 : Bool), (r22 = ((rdU c0_0 r17 r18 (18446744069414584320 : Int)).n) ∧ r23 = ((rdU c0_0 r17 r18 (18446744069414584320 : Int)).pos) ∧ r24 = ((rdU c0_0 r17 r18 (18446744069414584320 : Int)).fail)) → r4 = r0.Value ∧ r10 = r0.Owner ∧ r16 = r0.Rho ∧ r22 = r0.Blind ∧ c0_0 = d0_0 ∧ r23 = d0_1 ∧ r24 = d0_2)) : kbn (c0_0, c0_1, c0_2, ()) (r0.Value, r0.Owner, r0.Rho, r0.Blind, d0_0, d0_1, d0_2, ()) := WPh.of_eq (by kernel_rfl) h
theorem bd55 : Callable Try.prog 55 := ⟨by rw [Try.func55]; kernel_rfl, by rw [Try.func55]; show some _ ≠ some _; decide⟩
theorem kuv (c0_0 : List Int) (c0_1 : Int) (c0_2 : Bool) (h : RdOk c0_0 c0_1) : kbn (c0_0, c0_1, c0_2, ()) ((((rdNt c0_0 c0_1 c0_2).n).Value : Int), (((rdNt c0_0 c0_1 c0_2).n).Owner : Int), (((rdNt c0_0 c0_1 c0_2).n).Rho : Int), (((rdNt c0_0 c0_1 c0_2).n).Blind : Int), (c0_0 : List Int), (((rdNt c0_0 c0_1 c0_2).pos) : Int), (((rdNt c0_0 c0_1 c0_2).f) : Bool), ()) := by
 refine kym (r0 := (rdNt c0_0 c0_1 c0_2).n) ⟨h, ?_⟩
 rintro _ _ _ ⟨rfl, rfl, rfl⟩
 refine ⟨rdU_ok h, ?_⟩
 rintro _ _ _ ⟨rfl, rfl, rfl⟩
 refine ⟨rdU_ok (rdU_ok h), ?_⟩
 rintro _ _ _ ⟨rfl, rfl, rfl⟩
 refine ⟨rdU_ok (rdU_ok (rdU_ok h)), ?_⟩
 rintro _ _ _ ⟨rfl, rfl, rfl⟩
 exact ⟨rfl, rfl, rfl, rfl, rfl, rfl, rfl⟩
def kjn : Con TB.den := { k1o with R := fun x K => (fun (c0_0 : List Int) (c0_1 : Int) (c0_2 : Bool) => ((RdOk c0_0 c0_1) ∧ ∀ (v0 : TNote) (v2 : Int) (v3 : Bool), (v0 = (((rdNt c0_0 c0_1 c0_2).n)) ∧ v2 = (((rdNt c0_0 c0_1 c0_2).pos)) ∧ v3 = (((rdNt c0_0 c0_1 c0_2).f))) → K (v0.Value, v0.Owner, v0.Rho, v0.Blind, (c0_0 : List Int), v2, v3, ()) : Prop)) x.1 x.2.1 x.2.2.1 }
theorem kxw : kjn.Ok Try.prog TB := ⟨bd55, fun x K hx => ⟨((fun (c0_0 : List Int) (c0_1 : Int) (c0_2 : Bool) => (((rdNt c0_0 c0_1 c0_2).n).Value : Int)) x.1 x.2.1 x.2.2.1, (fun (c0_0 : List Int) (c0_1 : Int) (c0_2 : Bool) => (((rdNt c0_0 c0_1 c0_2).n).Owner : Int)) x.1 x.2.1 x.2.2.1, (fun (c0_0 : List Int) (c0_1 : Int) (c0_2 : Bool) => (((rdNt c0_0 c0_1 c0_2).n).Rho : Int)) x.1 x.2.1 x.2.2.1, (fun (c0_0 : List Int) (c0_1 : Int) (c0_2 : Bool) => (((rdNt c0_0 c0_1 c0_2).n).Blind : Int)) x.1 x.2.1 x.2.2.1, (fun (c0_0 : List Int) (c0_1 : Int) (c0_2 : Bool) => (c0_0 : List Int)) x.1 x.2.1 x.2.2.1, (fun (c0_0 : List Int) (c0_1 : Int) (c0_2 : Bool) => (((rdNt c0_0 c0_1 c0_2).pos) : Int)) x.1 x.2.1 x.2.2.1, (fun (c0_0 : List Int) (c0_1 : Int) (c0_2 : Bool) => (((rdNt c0_0 c0_1 c0_2).f) : Bool)) x.1 x.2.1 x.2.2.1, ()), hx.2 ((fun (c0_0 : List Int) (c0_1 : Int) (c0_2 : Bool) => ((((rdNt c0_0 c0_1 c0_2).n)))) x.1 x.2.1 x.2.2.1) ((fun (c0_0 : List Int) (c0_1 : Int) (c0_2 : Bool) => ((((rdNt c0_0 c0_1 c0_2).pos)))) x.1 x.2.1 x.2.2.1) ((fun (c0_0 : List Int) (c0_1 : Int) (c0_2 : Bool) => ((((rdNt c0_0 c0_1 c0_2).f)))) x.1 x.2.1 x.2.2.1) ⟨rfl, rfl, rfl⟩, kwo (kuv x.1 x.2.1 x.2.2.1 hx.1)⟩⟩
def k54 : Con TB.den := Con.mk0 93 [.one (.d (.sl (.int .u8))), .one (.d (.int .i64))] [] (.one (.one (.d (.sl (.int .u8))))) []
abbrev k17q := HL TB.den (hsT k54.ins (hsOs k54.pre))
abbrev ki0 := HL TB.den (hsV k54.res (hsOs k54.post))
def kf8 : Cx TB := ⟨inf, [], [], 4, []⟩
def kma : Code := Try.f93.body.getD .skip
def ksj : List ResultVar := Try.f93.results.toList
def k1j0 (o : ki0) : An TB := .nd [] .no [] (.nd [] .no [] (.nd [] .no [] (.rt [.frz 0 [4]])))
def k137 (o : ki0) : An TB := .nd [] .no [] (k1j0 o)
def kmh (x : k17q) (o : ki0) : Prop := WPh TB kf8 17 0 kma (k137 o) (k54.st TB x) (retTQ TB kf8 k54 ksj o)
theorem k1gt (o : ki0) : OblH TB kf8 17 0 kma (k137 o) (retTQ TB kf8 k54 ksj o) :=
 OblH.ofC (X := True) (by kernel_rfl) trivial
theorem k1i4 {x : k17q} {o : ki0} (h : kmh x o) : k54.Snd Try.prog x o :=
 Con.soundH (c := k54) (C := kf8) TBok ⟨inf_ok, all_nil, all_nil⟩ mix Try.func93 (show Try.f93.body = some kma by kernel_rfl) (show Try.f93.ntmps = 17 by kernel_rfl) (show Try.f93.results.toList = ksj by kernel_rfl) rfl h (k1gt o)
theorem k1jd {p0 : List Int} {p1 : Int} {r0 : List Int} (h :
(let v1 : Int := IntKind.i64.wrap ((p0.length : Int) + p1)
 0 ≤ (p0.length : Int) ∧ (p0.length : Int) ≤ v1 ∧ (v1.toNat * 1 ≤ 140737488355328) ∧ (v1.toNat ≤ maxLen) ∧ (p0.length : Int).toNat = (List.replicate ((p0.length : Int).toNat) (0 : Int)).length ∧ let v2 : Int := ((min p0.length (List.replicate ((p0.length : Int).toNat) (0 : Int)).length : Nat) : Int)
((p0.length : Int).toNat = (rowOver (List.replicate ((p0.length : Int).toNat) (0 : Int)) p0 (List.replicate ((p0.length : Int).toNat) (0 : Int)).length).length) ∧ rowOver (List.replicate ((p0.length : Int).toNat) (0 : Int)) p0 (List.replicate ((p0.length : Int).toNat) (0 : Int)).length = r0)) : kmh (p0, p1, ()) (r0, ()) := WPh.of_eq (by kernel_rfl) h
theorem bd93 : Callable Try.prog 93 := ⟨by rw [Try.func93]; kernel_rfl, by rw [Try.func93]; show some _ ≠ some _; decide⟩
theorem k1di (p0 : List Int) (p1 : Int) (h : 0 ≤ p1 ∧ p0.length + p1 ≤ 140737488355328) : kmh (p0, p1, ()) ((p0 : List Int), ()) := by
 obtain ⟨h1, h2⟩ := h
 refine k1jd ?_
 rw [wi _ (by omega) (by omega)]
 have e : rowOver (List.replicate ((p0.length : Int).toNat) (0 : Int)) p0 (List.replicate ((p0.length : Int).toNat) (0 : Int)).length = p0 := k17w _ _ (by simp)
 simp only [e]
 exact ⟨by omega, by omega, by omega, by unfold maxLen; omega, by simp, by omega, by trivial⟩
def kz4 : Con TB.den := k54.fnR (fun x => (fun (p0 : List Int) (p1 : Int) => 0 ≤ p1 ∧ p0.length + p1 ≤ 140737488355328) x.1 x.2.1) fun x => ((fun (p0 : List Int) (p1 : Int) => (p0 : List Int)) x.1 x.2.1, ())
theorem k1kj : kz4.Ok Try.prog TB := Con.ok_fn k54 bd93 fun x h => k1i4 (k1di x.1 x.2.1 h)
def k2p : Con TB.den := Con.mk0 53 [.one (.d (.sl (.int .u8)))] [] (.one (.one (.ptr 0 0))) [.cells [.d (.sl (.int .u8)), .d (.int .i64), .d (.bool)]]
abbrev kr5 := HL TB.den (hsT k2p.ins (hsOs k2p.pre))
abbrev kdb := HL TB.den (hsV k2p.res (hsOs k2p.post))
def k95 : Cx TB := ⟨inf, [kz4], [], 4, []⟩
def keh : Code := Try.f53.body.getD .skip
def kh9 : List ResultVar := Try.f53.results.toList
def kpp (o : kdb) : An TB := .no
def ken (x : kr5) (o : kdb) : Prop := WPh TB k95 7 0 keh (kpp o) (k2p.st TB x) (retTQ TB k95 k2p kh9 o)
theorem k13j (o : kdb) : OblH TB k95 7 0 keh (kpp o) (retTQ TB k95 k2p kh9 o) :=
 OblH.ofC (X := True) (by kernel_rfl) trivial
theorem k146 {x : kr5} {o : kdb} (h : ken x o) : k2p.Snd Try.prog x o :=
 Con.soundH (c := k2p) (C := k95) TBok ⟨inf_ok, (all_cons k1kj all_nil), all_nil⟩ mix Try.func53 (show Try.f53.body = some keh by kernel_rfl) (show Try.f53.ntmps = 7 by kernel_rfl) (show Try.f53.results.toList = kh9 by kernel_rfl) rfl h (k13j o)
theorem k15l {p0 : List Int} {d0_0 : List Int} {d0_1 : Int} {d0_2 : Bool} (h :
((0 ≤ (0 : Int) ∧ p0.length + (0 : Int) ≤ 140737488355328) ∧ p0 = d0_0 ∧ 0 = d0_1 ∧ false = d0_2)) : ken (p0, ()) (d0_0, d0_1, d0_2, ()) := WPh.of_eq (by kernel_rfl) h
theorem bd53 : Callable Try.prog 53 := ⟨by rw [Try.func53]; kernel_rfl, by rw [Try.func53]; show some _ ≠ some _; decide⟩
theorem k11j (p0 : List Int) (h : p0.length ≤ 137438953472) : ken (p0, ()) ((p0 : List Int), (0 : Int), (false : Bool), ()) := by
 exact k15l ⟨⟨by omega, by omega⟩, rfl, rfl, rfl⟩
def ko2 : Con TB.den := { k2p with R := fun x K => (fun (p0 : List Int) => ((p0.length ≤ 137438953472) ∧ K ((p0 : List Int), (0 : Int), (false : Bool), ()) : Prop)) x.1 }
theorem k15g : ko2.Ok Try.prog TB := ⟨bd53, fun x K hx => ⟨((fun (p0 : List Int) => (p0 : List Int)) x.1, (fun (p0 : List Int) => (0 : Int)) x.1, (fun (p0 : List Int) => (false : Bool)) x.1, ()), hx.2, k146 (k11j x.1 hx.1)⟩⟩
def k1d : Con TB.den := Con.mk0 26 [.one (.d (.sl (.int .u8)))] [] (.tup [.agg [.d (.sl (.st 0)), .d (.sl (.st 1)), .d (.int .u64)], .one (.d (.int .i64))]) []
abbrev kqe := HL TB.den (hsT k1d.ins (hsOs k1d.pre))
abbrev k1a := HL TB.den (hsV k1d.res (hsOs k1d.post))
def k1x : Cx TB := ⟨inf, [ko2, kn6, kjn, kk2, ktv, ktw], [], 4, []⟩
def k40 : Code := Try.f26.body.getD .skip
def k83 : List ResultVar := Try.f26.results.toList
def k14o (o : k1a) := qS TB k1x 52 0 (cB (cB (cB (cB (cB k40))))) .no (retTQ TB k1x k1d k83 o)
def k57 : Tm := ⟨[0, 1, 2, 3, 4], [.cells [.full (.st 0), .full (.st 1), .d (.int .u64)], .cells [.d (.sl (.int .u8)), .d (.int .i64), .d (.bool)], .cells [.own 3, .own 4, .d (.int .u64)], .tip (.st 0), .tip (.st 1)], [2, 4, 5, 33, 34], [.one (.ptr 0 0), .one (.ptr 1 0), .one (.ptr 2 0), .one (.d (.int .i64)), .one (.d (.int .i64))], 5⟩
def k13r (o : k1a) (nx2 : NX TB k57) := qM TB 0 k57 nx2 (blockT TB 2 (k14o o))
def k85 (o : k1a) (nx2 : NX TB k57) (i : HL TB.den k57.hs) : Prop := WP TB k1x 52 0 (cA (cA (cB (cA (cB (cB (cB (cB k40)))))))) .no (k57.fill TB i) (k13r o nx2)
def kny (o : k1a) : An TB := .lp [] k57 (k85 o) fun nx2 => .no
def k14d (o : k1a) := qS TB k1x 52 0 (cB (cB (cB (cB k40)))) (.nd [] (.nd [] .no [] (kny o)) [] .no) (retTQ TB k1x k1d k83 o)
def k4y : Tm := ⟨[0, 1, 2, 3, 4], [.cells [.full (.st 0), .full (.st 1), .d (.int .u64)], .cells [.d (.sl (.int .u8)), .d (.int .i64), .d (.bool)], .cells [.own 3, .own 4, .d (.int .u64)], .tip (.st 0), .tip (.st 1)], [2, 4, 5, 9, 10], [.one (.ptr 0 0), .one (.ptr 1 0), .one (.ptr 2 0), .one (.d (.int .i64)), .one (.d (.int .i64))], 5⟩
def k12m (o : k1a) (nx1 : NX TB k4y) := qM TB 0 k4y nx1 (blockT TB 0 (k14d o))
def k81 (o : k1a) (nx1 : NX TB k4y) (i : HL TB.den k4y.hs) : Prop := WP TB k1x 52 0 (cA (cA (cB (cA (cB (cB (cB k40))))))) .no (k4y.fill TB i) (k12m o nx1)
def k10q (o : k1a) : An TB := .lp [.tokc 2 0 (.st 0), .tokc 2 1 (.st 1)] k4y (k81 o) fun nx1 => .no
def k10v (o : k1a) : An TB := .nd [] (.nd [] .no [] (k10q o)) [] (.nd [] (.nd [] .no [] (kny o)) [] .no)
def kor (o : k1a) : An TB := .nd [] .no [] (.nd [] .no [] (.nd [] .no [] (k10v o)))
def kdm (x : kqe) (o : k1a) : Prop := WPh TB k1x 52 0 k40 (kor o) (k1d.st TB x) (retTQ TB k1x k1d k83 o)
theorem k11o (o : k1a) : OblH TB k1x 52 0 k40 (kor o) (retTQ TB k1x k1d k83 o) :=
 OblH.ofC (X := ((∀ nx i, (k81 o) nx i = (k81 o) nx i) ∧ (∀ nx1 : NX TB k4y, True) ∧ (∀ nx i, (k85 o) nx i = (k85 o) nx i) ∧ (∀ nx2 : NX TB k57, True) ∧ True)) (by kernel_rfl) ⟨fun _ _ => rfl, fun _ => trivial, fun _ _ => rfl, fun _ => trivial, trivial⟩
theorem k112 {x : kqe} {o : k1a} (h : kdm x o) : k1d.Snd Try.prog x o :=
 Con.soundH (c := k1d) (C := k1x) TBok ⟨inf_ok, (all_cons k15g (all_cons k10e (all_cons kxw (all_cons kvz (all_cons k1dw (all_cons k1em all_nil)))))), all_nil⟩ mix Try.func26 (show Try.f26.body = some k40 by kernel_rfl) (show Try.f26.ntmps = 52 by kernel_rfl) (show Try.f26.results.toList = k83 by kernel_rfl) rfl h (k11o o)
theorem k131 {p0 : List Int} {r0 : TWitness} {r1 : Int} (h :
((p0.length ≤ 137438953472) ∧ (RdOk p0 (0 : Int)) ∧ ∀ (r47 : Int) (r48 : Int) (r49 : Bool), (r47 = ((rdI p0 (0 : Int) false (4 : Int)).n) ∧ r48 = ((rdI p0 (0 : Int) false (4 : Int)).pos) ∧ r49 = ((rdI p0 (0 : Int) false (4 : Int)).fail)) → (([] : List TNote) = ([] : List TNote)) ∧ (([] : List TSpent) = ([] : List TSpent)) ∧ Md.Loop (r47, (0 : Int), (([] : List TSpent) : List TSpent), (([] : List TNote) : List TNote), (0 : Int), p0, r48, r49, (0 : Int), (([] : List TSpent) : List TSpent), (([] : List TNote) : List TNote), ()) (k81 (r0.Ins, r0.Outs, r0.Secret, r1, ())))) : kdm (p0, ()) (r0.Ins, r0.Outs, r0.Secret, r1, ()) := WPh.of_eq (by kernel_rfl) h
def kok (r0 : TWitness) (r1 : Int) (k1 : Int → Int → Bool → List TSpent → Prop) (s9 : Int) (h0_0 : List TSpent) (h0_1 : List TNote) (h0_2 : Int) (h1_0 : List Int) (h2_2 : Int) (g4 : List TNote) (s10 : Int) (h1_1 : Int) (h1_2 : Bool) (g3 : List TSpent) : Prop :=
(decide (s10 < s9) = true →
(RdOk h1_0 h1_1) ∧ ∀ (r68 : TNote) (r69 : Int) (r70 : Bool), (r68 = ((rdNt h1_0 h1_1 h1_2).n) ∧ r69 = ((rdNt h1_0 h1_1 h1_2).pos) ∧ r70 = ((rdNt h1_0 h1_1 h1_2).f)) → (RdOk h1_0 r69) ∧ ∀ (r71 : Int) (r72 : Int) (r73 : Bool), (r71 = ((rdU h1_0 r69 r70 (18446744069414584320 : Int)).n) ∧ r72 = ((rdU h1_0 r69 r70 (18446744069414584320 : Int)).pos) ∧ r73 = ((rdU h1_0 r69 r70 (18446744069414584320 : Int)).fail)) → (RdOk h1_0 r72) ∧ ∀ (r74 : Int) (r75 : Int) (r76 : Bool), (r74 = ((rdI h1_0 r72 r73 (3 : Int)).n) ∧ r75 = ((rdI h1_0 r72 r73 (3 : Int)).pos) ∧ r76 = ((rdI h1_0 r72 r73 (3 : Int)).fail)) → (RdOk h1_0 r75) ∧ ∀ (r77 : Int) (r78 : Int) (r79 : Bool), (r77 = ((rdI h1_0 r75 r76 (4095 : Int)).n) ∧ r78 = ((rdI h1_0 r75 r76 (4095 : Int)).pos) ∧ r79 = ((rdI h1_0 r75 r76 (4095 : Int)).fail)) → (RdOk h1_0 r78 ∧ (0 ≤ (12 : Int) ∧ (12 : Int) ≤ 4096)) ∧ ∀ (r80 : List Int) (r81 : Int) (r82 : Bool), (r80 = ((rdL h1_0 r78 r79 (12 : Int) (18446744069414584321 : Int)).l) ∧ r81 = ((rdL h1_0 r78 r79 (12 : Int) (18446744069414584321 : Int)).pos) ∧ r82 = ((rdL h1_0 r78 r79 (12 : Int) (18446744069414584321 : Int)).fail)) → (RdOk h1_0 r81) ∧ ∀ (r83 : Int) (r84 : Int) (r85 : Bool), (r83 = ((rdI h1_0 r81 r82 (1 : Int)).n) ∧ r84 = ((rdI h1_0 r81 r82 (1 : Int)).pos) ∧ r85 = ((rdI h1_0 r81 r82 (1 : Int)).fail)) → let v86 : List TSpent := [TSpent.mk r68.Value r68.Owner r68.Rho r68.Blind r71 r74 r77 r80 (r83 == 1)]
 g3.length = g3.length ∧ (g3.length + v86.length) * 88 ≤ 140737488355328 ∧ g3.length + v86.length ≤ maxLen ∧ (g4 = g4) ∧ (g3 ++ v86 = g3 ++ v86) ∧ k1 (IntKind.i64.wrap (s10 + 1) : Int) r84 r85 (g3 ++ v86 : List TSpent)) ∧
(decide (s10 < s9) = false →
(RdOk h1_0 h1_1) ∧ ∀ (r102 : Int) (r103 : Int) (r104 : Bool), (r102 = ((rdI h1_0 h1_1 h1_2 (4 : Int)).n) ∧ r103 = ((rdI h1_0 h1_1 h1_2 (4 : Int)).pos) ∧ r104 = ((rdI h1_0 h1_1 h1_2 (4 : Int)).fail)) → (g4 = g4) ∧ (g3 = g3) ∧ Md.Loop (r102, (0 : Int), h0_0, h0_1, h0_2, h1_0, r103, r104, h2_2, g3, g4, ()) (k85 (r0.Ins, r0.Outs, r0.Secret, r1, ())))
theorem k11m {r0 : TWitness} {r1 : Int} {s9 : Int} {h0_0 : List TSpent} {h0_1 : List TNote} {h0_2 : Int} {h1_0 : List Int} {h2_2 : Int} {g4 : List TNote} {s10 : Int} {h1_1 : Int} {h1_2 : Bool} {g3 : List TSpent} (inv : Int → Int → Bool → List TSpent → Prop) (μ : Int → Int → Bool → List TSpent → Nat) (h0 : inv s10 h1_1 h1_2 g3) (hs : ∀ (s10 : Int) (h1_1 : Int) (h1_2 : Bool) (g3 : List TSpent), inv s10 h1_1 h1_2 g3 → kok r0 r1 (fun s10q h1_1q h1_2q g3q => inv s10q h1_1q h1_2q g3q ∧ μ s10q h1_1q h1_2q g3q < μ s10 h1_1 h1_2 g3) s9 h0_0 h0_1 h0_2 h1_0 h2_2 g4 s10 h1_1 h1_2 g3) : Md.Loop (s9, s10, h0_0, h0_1, h0_2, h1_0, h1_1, h1_2, h2_2, g3, g4, ()) (k81 (r0.Ins, r0.Outs, r0.Secret, r1, ())) :=
 ⟨⟨fun s : Int × Int × (List TSpent) × (List TNote) × Int × (List Int) × Int × Bool × Int × (List TSpent) × (List TNote) × Unit => (s.1 = s9 ∧ s.2.2.1 = h0_0 ∧ s.2.2.2.1 = h0_1 ∧ s.2.2.2.2.1 = h0_2 ∧ s.2.2.2.2.2.1 = h1_0 ∧ s.2.2.2.2.2.2.2.2.1 = h2_2 ∧ s.2.2.2.2.2.2.2.2.2.2.1 = g4) ∧ inv s.2.1 s.2.2.2.2.2.2.1 s.2.2.2.2.2.2.2.1 s.2.2.2.2.2.2.2.2.2.1, fun s : Int × Int × (List TSpent) × (List TNote) × Int × (List Int) × Int × Bool × Int × (List TSpent) × (List TNote) × Unit => μ s.2.1 s.2.2.2.2.2.2.1 s.2.2.2.2.2.2.2.1 s.2.2.2.2.2.2.2.2.2.1, ⟨⟨rfl, rfl, rfl, rfl, rfl, rfl, rfl⟩, h0⟩, fun (s9p, s10p, h0_0p, h0_1p, h0_2p, h1_0p, h1_1p, h1_2p, h2_2p, g3p, g4p, ()) ⟨⟨eq0, eq1, eq2, eq3, eq4, eq5, eq6⟩, hi⟩ => by
  have eq0 : s9p = s9 := eq0; subst s9p; have eq1 : h0_0p = h0_0 := eq1; subst h0_0p; have eq2 : h0_1p = h0_1 := eq2; subst h0_1p; have eq3 : h0_2p = h0_2 := eq3; subst h0_2p; have eq4 : h1_0p = h1_0 := eq4; subst h1_0p; have eq5 : h2_2p = h2_2 := eq5; subst h2_2p; have eq6 : g4p = g4 := eq6; subst g4p; exact mpr_of (by kernel_rfl) ((congrArg (fun k => kok r0 r1 k s9 h0_0 h0_1 h0_2 h1_0 h2_2 g4 s10p h1_1p h1_2p g3p) (lpk4 (⟨rfl, rfl, rfl, rfl, rfl, rfl, rfl⟩ : s9 = s9 ∧ h0_0 = h0_0 ∧ h0_1 = h0_1 ∧ h0_2 = h0_2 ∧ h1_0 = h1_0 ∧ h2_2 = h2_2 ∧ g4 = g4) inv (fun s10q h1_1q h1_2q g3q => μ s10q h1_1q h1_2q g3q < μ s10p h1_1p h1_2p g3p))).mpr (hs s10p h1_1p h1_2p g3p hi))⟩⟩
def knz (r0 : TWitness) (r1 : Int) (k2 : Int → Int → Bool → List TNote → Prop) (s33 : Int) (h0_0 : List TSpent) (h0_1 : List TNote) (h0_2 : Int) (h1_0 : List Int) (h2_2 : Int) (g3 : List TSpent) (s34 : Int) (h1_1 : Int) (h1_2 : Bool) (g4 : List TNote) : Prop :=
(decide (s34 < s33) = true →
(RdOk h1_0 h1_1) ∧ ∀ (r108 : TNote) (r109 : Int) (r110 : Bool), (r108 = ((rdNt h1_0 h1_1 h1_2).n) ∧ r109 = ((rdNt h1_0 h1_1 h1_2).pos) ∧ r110 = ((rdNt h1_0 h1_1 h1_2).f)) → g4.length = g4.length ∧ (g4.length + [r108].length) * 32 ≤ 140737488355328 ∧ g4.length + [r108].length ≤ maxLen ∧ (g4 ++ [r108] = g4 ++ [r108]) ∧ (g3 = g3) ∧ k2 (IntKind.i64.wrap (s34 + 1) : Int) r109 r110 (g4 ++ [r108] : List TNote)) ∧
(decide (s34 < s33) = false →
(RdOk h1_0 h1_1) ∧ ∀ (r114 : Int) (r115 : Int) (r116 : Bool), (r114 = ((rdU h1_0 h1_1 h1_2 (18446744069414584320 : Int)).n) ∧ r115 = ((rdU h1_0 h1_1 h1_2 (18446744069414584320 : Int)).pos) ∧ r116 = ((rdU h1_0 h1_1 h1_2 (18446744069414584320 : Int)).fail)) → let v117 : Bool := (!(!r116 && r115 == (h1_0.length : Int)))
(v117 = true →
([] : List TSpent) = r0.Ins ∧ ([] : List TNote) = r0.Outs ∧ 0 = r0.Secret ∧ 2 = r1) ∧
(v117 = false →
 g3 = r0.Ins ∧ g4 = r0.Outs ∧ r114 = r0.Secret ∧ 0 = r1))
theorem k114 {r0 : TWitness} {r1 : Int} {s33 : Int} {h0_0 : List TSpent} {h0_1 : List TNote} {h0_2 : Int} {h1_0 : List Int} {h2_2 : Int} {g3 : List TSpent} {s34 : Int} {h1_1 : Int} {h1_2 : Bool} {g4 : List TNote} (inv : Int → Int → Bool → List TNote → Prop) (μ : Int → Int → Bool → List TNote → Nat) (h0 : inv s34 h1_1 h1_2 g4) (hs : ∀ (s34 : Int) (h1_1 : Int) (h1_2 : Bool) (g4 : List TNote), inv s34 h1_1 h1_2 g4 → knz r0 r1 (fun s34q h1_1q h1_2q g4q => inv s34q h1_1q h1_2q g4q ∧ μ s34q h1_1q h1_2q g4q < μ s34 h1_1 h1_2 g4) s33 h0_0 h0_1 h0_2 h1_0 h2_2 g3 s34 h1_1 h1_2 g4) : Md.Loop (s33, s34, h0_0, h0_1, h0_2, h1_0, h1_1, h1_2, h2_2, g3, g4, ()) (k85 (r0.Ins, r0.Outs, r0.Secret, r1, ())) :=
 ⟨⟨fun s : Int × Int × (List TSpent) × (List TNote) × Int × (List Int) × Int × Bool × Int × (List TSpent) × (List TNote) × Unit => (s.1 = s33 ∧ s.2.2.1 = h0_0 ∧ s.2.2.2.1 = h0_1 ∧ s.2.2.2.2.1 = h0_2 ∧ s.2.2.2.2.2.1 = h1_0 ∧ s.2.2.2.2.2.2.2.2.1 = h2_2 ∧ s.2.2.2.2.2.2.2.2.2.1 = g3) ∧ inv s.2.1 s.2.2.2.2.2.2.1 s.2.2.2.2.2.2.2.1 s.2.2.2.2.2.2.2.2.2.2.1, fun s : Int × Int × (List TSpent) × (List TNote) × Int × (List Int) × Int × Bool × Int × (List TSpent) × (List TNote) × Unit => μ s.2.1 s.2.2.2.2.2.2.1 s.2.2.2.2.2.2.2.1 s.2.2.2.2.2.2.2.2.2.2.1, ⟨⟨rfl, rfl, rfl, rfl, rfl, rfl, rfl⟩, h0⟩, fun (s33p, s34p, h0_0p, h0_1p, h0_2p, h1_0p, h1_1p, h1_2p, h2_2p, g3p, g4p, ()) ⟨⟨eq0, eq1, eq2, eq3, eq4, eq5, eq6⟩, hi⟩ => by
  have eq0 : s33p = s33 := eq0; subst s33p; have eq1 : h0_0p = h0_0 := eq1; subst h0_0p; have eq2 : h0_1p = h0_1 := eq2; subst h0_1p; have eq3 : h0_2p = h0_2 := eq3; subst h0_2p; have eq4 : h1_0p = h1_0 := eq4; subst h1_0p; have eq5 : h2_2p = h2_2 := eq5; subst h2_2p; have eq6 : g3p = g3 := eq6; subst g3p; exact mpr_of (by kernel_rfl) ((congrArg (fun k => knz r0 r1 k s33 h0_0 h0_1 h0_2 h1_0 h2_2 g3 s34p h1_1p h1_2p g4p) (lpk4 (⟨rfl, rfl, rfl, rfl, rfl, rfl, rfl⟩ : s33 = s33 ∧ h0_0 = h0_0 ∧ h0_1 = h0_1 ∧ h0_2 = h0_2 ∧ h1_0 = h1_0 ∧ h2_2 = h2_2 ∧ g3 = g3) inv (fun s34q h1_1q h1_2q g4q => μ s34q h1_1q h1_2q g4q < μ s34p h1_1p h1_2p g4p))).mpr (hs s34p h1_1p h1_2p g4p hi))⟩⟩
theorem bd26 : Callable Try.prog 26 := ⟨by rw [Try.func26]; kernel_rfl, by rw [Try.func26]; show some _ ≠ some _; decide⟩
theorem kxu (p0 : List Int) (h : By p0 ∧ p0.length ≤ 137438953472) : kdm (p0, ()) ((((decW p0).1).Ins : List TSpent), (((decW p0).1).Outs : List TNote), (((decW p0).1).Secret : Int), (((decW p0).2) : Int), ()) := by
 obtain ⟨hb, hl⟩ := h
 have h0 : RdOk p0 0 := ⟨hb, hl, by omega, by omega⟩
 refine k131 (r0 := (decW p0).1) ⟨hl, h0, ?_⟩
 rintro _ _ _ ⟨rfl, rfl, rfl⟩
 have hC := rdI_ok (m := 4) (f := false) h0
 have nC := rdI_n (m := 4) (f := false) h0 (by omega)
 have zC := rdI_pz (m := 4) (f := false) h0 (by omega)
 generalize rdI p0 0 false 4 = C at *
 refine ⟨rfl, rfl, ?_⟩
 refine k11m (r0 := (decW p0).1) (fun i pos f g => 0 ≤ i ∧ i ≤ C.n ∧ RdOk p0 pos ∧ (g.length : Int) = i ∧ Pz (fun l : List TSpent => l.flatMap encSp) (Gl (GS limW) i.toNat) (p0.drop C.pos.toNat) C.fail g (p0.drop pos.toNat) f) (fun i _ _ _ => (C.n - i).toNat) ⟨by omega, nC.1, hC, rfl, Pz.nil⟩ ?_
 rintro i pos f g ⟨g0, g1, hp, g2, gz⟩
 refine ⟨fun hh => ?_, fun hh => ?_⟩
 ·have hh := of_decide_eq_true hh
  refine ⟨hp, ?_⟩
  rintro _ _ _ ⟨rfl, rfl, rfl⟩
  have o1 := rdNt_ok (f := f) hp
  have z1 := rdNt_pz (f := f) hp
  generalize rdNt p0 pos f = A1 at *
  refine ⟨o1, ?_⟩
  rintro _ _ _ ⟨rfl, rfl, rfl⟩
  have o2 := rdU_ok (m := 18446744069414584320) (f := A1.f) o1
  have z2 := rdU_pz (m := 18446744069414584320) (f := A1.f) o1
  generalize rdU p0 A1.pos A1.f 18446744069414584320 = A2 at *
  refine ⟨o2, ?_⟩
  rintro _ _ _ ⟨rfl, rfl, rfl⟩
  have o3 := rdI_ok (m := 3) (f := A2.fail) o2
  have z3 := rdI_pz (m := 3) (f := A2.fail) o2 (by omega)
  generalize rdI p0 A2.pos A2.fail 3 = A3 at *
  refine ⟨o3, ?_⟩
  rintro _ _ _ ⟨rfl, rfl, rfl⟩
  have o4 := rdI_ok (m := 4095) (f := A3.fail) o3
  have z4 := rdI_pz (m := 4095) (f := A3.fail) o3 (by omega)
  generalize rdI p0 A3.pos A3.fail 4095 = A4 at *
  refine ⟨⟨o4, by omega, by omega⟩, ?_⟩
  rintro _ _ _ ⟨rfl, rfl, rfl⟩
  have o5 := rdL_ok (m := 12) (p := 18446744069414584321) (f := A4.fail) o4 (by omega)
  have z5 := rdL_pz (m := 12) (p := 18446744069414584321) (f := A4.fail) o4 (by omega)
  generalize rdL p0 A4.pos A4.fail 12 18446744069414584321 = A5 at *
  refine ⟨o5, ?_⟩
  rintro _ _ _ ⟨rfl, rfl, rfl⟩
  have o6 := rdI_ok (m := 1) (f := A5.fail) o5
  have z6 := rdI_pz (m := 1) (f := A5.fail) o5 (by omega)
  generalize rdI p0 A5.pos A5.fail 1 = A6 at *
  have zz := k18i (L := limW) z1 z2 z3 z4 z5 z6
  rw [inc i C.n g0 hh (by omega)]
  refine ⟨rfl, by simp; omega, by simp; unfold maxLen; omega, rfl, rfl, ⟨by omega, by omega, o6, by simp; omega, ?_⟩, by omega⟩
  rw [show (i + 1).toNat = i.toNat + 1 by omega]
  exact gz.snoc zz
 ·have hh := of_decide_eq_false hh
  have hi : i = C.n := by omega
  subst hi
  have zI := Pz.list zC gz
  refine ⟨hp, ?_⟩
  rintro _ _ _ ⟨rfl, rfl, rfl⟩
  have hD := rdI_ok (m := 4) (f := f) hp
  have nD := rdI_n (m := 4) (f := f) hp (by omega)
  have zD := rdI_pz (m := 4) (f := f) hp (by omega)
  generalize rdI p0 pos f 4 = D at *
  refine ⟨rfl, rfl, ?_⟩
  refine k114 (r0 := (decW p0).1) (fun i pos' f' g' => 0 ≤ i ∧ i ≤ D.n ∧ RdOk p0 pos' ∧ (g'.length : Int) = i ∧ Pz (fun l : List TNote => l.flatMap encN) (Gl (GN limW) i.toNat) (p0.drop D.pos.toNat) D.fail g' (p0.drop pos'.toNat) f') (fun i _ _ _ => (D.n - i).toNat) ⟨by omega, nD.1, hD, rfl, Pz.nil⟩ ?_
  rintro i pos' f' g' ⟨g0', g1', hp', g2', gz'⟩
  refine ⟨fun hh => ?_, fun hh => ?_⟩
  ·have hh := of_decide_eq_true hh
   refine ⟨hp', ?_⟩
   rintro _ _ _ ⟨rfl, rfl, rfl⟩
   have o1 := rdNt_ok (f := f') hp'
   have z1 := rdNt_pz (f := f') hp'
   generalize rdNt p0 pos' f' = A1 at *
   rw [inc i D.n g0' hh (by omega)]
   refine ⟨rfl, by simp; omega, by simp; unfold maxLen; omega, rfl, rfl, ⟨by omega, by omega, o1, by simp; omega, ?_⟩, by omega⟩
   rw [show (i + 1).toNat = i.toNat + 1 by omega]
   exact gz'.snoc z1
  ·have hh := of_decide_eq_false hh
   have hi : i = D.n := by omega
   subst hi
   have zO := Pz.list zD gz'
   refine ⟨hp', ?_⟩
   rintro _ _ _ ⟨rfl, rfl, rfl⟩
   have hS := rdU_ok (m := 18446744069414584320) (f := f') hp'
   have zS := rdU_pz (m := 18446744069414584320) (f := f') hp'
   generalize rdU p0 pos' f' 18446744069414584320 = X at *
   obtain ⟨snd, cpl⟩ := pz_wit (L := limW) zI zO zS
   refine ⟨fun e => ?_, fun e => ?_⟩
   ·rw [decW_no]
    ·exact ⟨rfl, rfl, rfl, rfl⟩
    intro u hu
    obtain ⟨c1, c2, c3⟩ := cpl u hu
    obtain ⟨_, _, q3, q4⟩ := hS
    have := List.drop_eq_nil_iff.1 c2
    have e4 : X.pos = (p0.length : Int) := by omega
    rw [c1, e4] at e
    simp at e
   ·have e : X.fail = false ∧ X.pos = (p0.length : Int) := by simpa using e
    obtain ⟨s1, s2⟩ := snd e.1 (List.drop_eq_nil_of_le (by omega))
    have hE : EW ⟨g, g', X.n⟩ p0 := by
     refine ⟨s2.wq, kde.2 ⟨?_, ?_, ?_, fun x hx => (s2.1.2 x hx).spendV, fun x hx => (s2.2.1.2 x hx).noteV⟩, s1⟩
     ·have := s2.1.1.2.2; show g.length ≤ 4; omega
     ·have := s2.2.1.1.2.2; show g'.length ≤ 4; omega
     ·have : X.n ≤ 18446744069414584320 := s2.2.2.2
      show X.n < _; omega
    rw [k1li hE fun u hu => (cpl u hu).2.2]
    exact ⟨rfl, rfl, rfl, rfl⟩
def klq : Con TB.den := { k1d with R := fun x K => (fun (p0 : List Int) => ((By p0 ∧ p0.length ≤ 137438953472) ∧ ∀ (v0 : TWitness) (v1 : Int), (v0 = (((decW p0).1)) ∧ v1 = (((decW p0).2))) → K (v0.Ins, v0.Outs, v0.Secret, v1, ()) : Prop)) x.1 }
theorem k13f : klq.Ok Try.prog TB := ⟨bd26, fun x K hx => ⟨((fun (p0 : List Int) => (((decW p0).1).Ins : List TSpent)) x.1, (fun (p0 : List Int) => (((decW p0).1).Outs : List TNote)) x.1, (fun (p0 : List Int) => (((decW p0).1).Secret : Int)) x.1, (fun (p0 : List Int) => (((decW p0).2) : Int)) x.1, ()), hx.2 ((fun (p0 : List Int) => ((((decW p0).1)))) x.1) ((fun (p0 : List Int) => ((((decW p0).2)))) x.1) ⟨rfl, rfl⟩, k112 (kxu x.1 hx.1)⟩⟩
def kw : Con TB.den := Con.mk0 94 [.one (.own 0), .one (.d (.int .u64)), .one (.d (.int .i64))] [.tip (.int .u8)] (.one (.one (.own 0))) [.tip (.int .u8)]
abbrev klk := HL TB.den (hsT kw.ins (hsOs kw.pre))
abbrev k36 := HL TB.den (hsV kw.res (hsOs kw.post))
def k2u : Cx TB := ⟨inf, [], [], 4, []⟩
def k63 : Code := Try.f94.body.getD .skip
def k9g : List ResultVar := Try.f94.results.toList
def kxj (o : k36) := qS TB k2u 19 1 (cB (cB k63)) .no (retTQ TB k2u kw k9g o)
def k41 : Tm := ⟨[0], [.tip (.int .u8)], [0, 1, 7, 8], [.one (.own 0), .one (.d (.int .u64)), .one (.d (.int .i64)), .one (.d (.int .i64))], 1⟩
def kyt (o : k36) (nx1 : NX TB k41) := qM TB 1 k41 nx1 (blockT TB 0 (kxj o))
def k72 (o : k36) (nx1 : NX TB k41) (i : HL TB.den k41.hs) : Prop := WP TB k2u 19 1 (cA (cA (cB (cA (cB k63))))) .no (k41.fill TB i) (kyt o nx1)
def kyr (o : k36) : An TB := .lp [] k41 (k72 o) fun nx1 => .no
def kl6 (o : k36) : An TB := .nd [] .no [] (.nd [] (.nd [] .no [] (kyr o)) [] .no)
def kbk (x : klk) (o : k36) : Prop := WPh TB k2u 19 1 k63 (kl6 o) (kw.st TB x) (retTQ TB k2u kw k9g o)
theorem kw3 (o : k36) : OblH TB k2u 19 1 k63 (kl6 o) (retTQ TB k2u kw k9g o) :=
 OblH.ofC (X := ((∀ nx i, (k72 o) nx i = (k72 o) nx i) ∧ (∀ nx1 : NX TB k41, True) ∧ True)) (by kernel_rfl) ⟨fun _ _ => rfl, fun _ => trivial, trivial⟩
theorem kvm {x : klk} {o : k36} (h : kbk x o) : kw.Snd Try.prog x o :=
 Con.soundH (c := kw) (C := k2u) TBok ⟨inf_ok, all_nil, all_nil⟩ mix Try.func94 (show Try.f94.body = some k63 by kernel_rfl) (show Try.f94.ntmps = 19 by kernel_rfl) (show Try.f94.results.toList = k9g by kernel_rfl) rfl h (kw3 o)
theorem ky8 {p1 : Int} {p2 : Int} {w0 : List Int} {e0 : List Int} (h :
((w0 = w0) ∧ Md.Loop (p1, p2, (0 : Int), w0, ()) (k72 (e0, ())))) : kbk (p1, p2, w0, ()) (e0, ()) := WPh.of_eq (by kernel_rfl) h
def kla (e0 : List Int) (k1 : Int → Int → List Int → Prop) (s7 : Int) (s1 : Int) (s8 : Int) (g0 : List Int) : Prop :=
(decide (s8 < s7) = true →
 g0.length = g0.length ∧ (g0.length + [IntKind.u8.wrap s1].length) * 1 ≤ 140737488355328 ∧ g0.length + [IntKind.u8.wrap s1].length ≤ maxLen ∧ (g0 ++ [IntKind.u8.wrap s1] = g0 ++ [IntKind.u8.wrap s1]) ∧ k1 (ishr .u64 s1 8 : Int) (IntKind.i64.wrap (s8 + 1) : Int) (g0 ++ [IntKind.u8.wrap s1] : List Int)) ∧
(decide (s8 < s7) = false →
(g0 = g0) ∧ g0 = e0)
theorem kvo {e0 : List Int} {s7 : Int} {s1 : Int} {s8 : Int} {g0 : List Int} (inv : Int → Int → List Int → Prop) (μ : Int → Int → List Int → Nat) (h0 : inv s1 s8 g0) (hs : ∀ (s1 : Int) (s8 : Int) (g0 : List Int), inv s1 s8 g0 → kla e0 (fun s1q s8q g0q => inv s1q s8q g0q ∧ μ s1q s8q g0q < μ s1 s8 g0) s7 s1 s8 g0) : Md.Loop (s1, s7, s8, g0, ()) (k72 (e0, ())) :=
 ⟨⟨fun s : Int × Int × Int × (List Int) × Unit => (s.2.1 = s7) ∧ inv s.1 s.2.2.1 s.2.2.2.1, fun s : Int × Int × Int × (List Int) × Unit => μ s.1 s.2.2.1 s.2.2.2.1, ⟨rfl, h0⟩, fun (s1p, s7p, s8p, g0p, ()) ⟨eq0, hi⟩ => by
  have eq0 : s7p = s7 := eq0; subst s7p; exact mpr_of (by kernel_rfl) ((congrArg (fun k => kla e0 k s7 s1p s8p g0p) (lpk3 (rfl : s7 = s7) inv (fun s1q s8q g0q => μ s1q s8q g0q < μ s1p s8p g0p))).mpr (hs s1p s8p g0p hi))⟩⟩
theorem bd94 : Callable Try.prog 94 := ⟨by rw [Try.func94]; kernel_rfl, by rw [Try.func94]; show some _ ≠ some _; decide⟩
theorem kv0 (p1 : Int) (p2 : Int) (w0 : List Int) (h : U64 p1 ∧ (0 ≤ p2 ∧ p2 ≤ 8) ∧ w0.length ≤ 137438953472) : kbk (p1, p2, w0, ()) (((w0 ++ dig p2.toNat p1) : List Int), ()) := by
 obtain ⟨h1, h2, h3⟩ := h
 refine ky8 ⟨rfl, kvo (fun n i g => 0 ≤ i ∧ i ≤ p2 ∧ U64 n ∧ n = p1 / 256 ^ i.toNat ∧ g = w0 ++ dig i.toNat p1) (fun _ i _ => (p2 - i).toNat) ⟨by omega, by omega, h1, by simp, by simp [dig]⟩ ?_⟩
 rintro n i g ⟨g0, g1, g2, g3, rfl⟩
 refine ⟨fun h => ?_, fun h => ?_⟩
 ·have h := of_decide_eq_true h
  rw [inc i p2 g0 h (by omega), ishr8, u8w]
  refine ⟨rfl, ?_, ?_, rfl, ⟨by omega, by omega, ⟨by omega, by omega⟩, ?_, ?_⟩, by omega⟩
  ·simp; omega
  ·simp; unfold maxLen; omega
  ·rw [g3, show (i + 1).toNat = i.toNat + 1 by omega, Int.ediv_ediv_of_nonneg (Int.le_of_lt (kgk _)), Int.pow_succ]
  ·rw [show (i + 1).toNat = i.toNat + 1 by omega, k19o, List.append_assoc, g3]
 ·have h := of_decide_eq_false h
  exact ⟨rfl, by rw [show i = p2 by omega]⟩
def k8k : Con TB.den := kw.fnR (fun x => (fun (p1 : Int) (p2 : Int) (w0 : List Int) => U64 p1 ∧ (0 ≤ p2 ∧ p2 ≤ 8) ∧ w0.length ≤ 137438953472) x.1 x.2.1 x.2.2.1) fun x => ((fun (p1 : Int) (p2 : Int) (w0 : List Int) => ((w0 ++ dig p2.toNat p1) : List Int)) x.1 x.2.1 x.2.2.1, ())
theorem kdd : k8k.Ok Try.prog TB := Con.ok_fn kw bd94 fun x h => kvm (kv0 x.1 x.2.1 x.2.2.1 h)
def k3i : Con TB.den := Con.mk0 93 [.one (.d (.sl (.int .u8))), .one (.d (.int .i64))] [] (.one (.one (.own 0))) [.tip (.int .u8)]
abbrev kyz := HL TB.den (hsT k3i.ins (hsOs k3i.pre))
abbrev ke3 := HL TB.den (hsV k3i.res (hsOs k3i.post))
def kc3 : Cx TB := ⟨inf, [], [], 4, []⟩
def kja : Code := Try.f93.body.getD .skip
def kmn : List ResultVar := Try.f93.results.toList
def k1ez (o : ke3) : An TB := .nd [] .no [] (.nd [] .no [] (.nd [] .no [] (.rt [.frz 0 [4]])))
def kwq (o : ke3) : An TB := .nd [] .no [] (k1ez o)
def kim (x : kyz) (o : ke3) : Prop := WPh TB kc3 17 0 kja (kwq o) (k3i.st TB x) (retTQ TB kc3 k3i kmn o)
theorem k1bj (o : ke3) : OblH TB kc3 17 0 kja (kwq o) (retTQ TB kc3 k3i kmn o) :=
 OblH.ofC (X := True) (by kernel_rfl) trivial
theorem k1bx {x : kyz} {o : ke3} (h : kim x o) : k3i.Snd Try.prog x o :=
 Con.soundH (c := k3i) (C := kc3) TBok ⟨inf_ok, all_nil, all_nil⟩ mix Try.func93 (show Try.f93.body = some kja by kernel_rfl) (show Try.f93.ntmps = 17 by kernel_rfl) (show Try.f93.results.toList = kmn by kernel_rfl) rfl h (k1bj o)
theorem k1e7 {p0 : List Int} {p1 : Int} {e0 : List Int} (h :
(let v1 : Int := IntKind.i64.wrap ((p0.length : Int) + p1)
 0 ≤ (p0.length : Int) ∧ (p0.length : Int) ≤ v1 ∧ (v1.toNat * 1 ≤ 140737488355328) ∧ (v1.toNat ≤ maxLen) ∧ (p0.length : Int).toNat = (List.replicate ((p0.length : Int).toNat) (0 : Int)).length ∧ let v2 : Int := ((min p0.length (List.replicate ((p0.length : Int).toNat) (0 : Int)).length : Nat) : Int)
((p0.length : Int).toNat = (rowOver (List.replicate ((p0.length : Int).toNat) (0 : Int)) p0 (List.replicate ((p0.length : Int).toNat) (0 : Int)).length).length) ∧ (rowOver (List.replicate ((p0.length : Int).toNat) (0 : Int)) p0 (List.replicate ((p0.length : Int).toNat) (0 : Int)).length = rowOver (List.replicate ((p0.length : Int).toNat) (0 : Int)) p0 (List.replicate ((p0.length : Int).toNat) (0 : Int)).length) ∧ rowOver (List.replicate ((p0.length : Int).toNat) (0 : Int)) p0 (List.replicate ((p0.length : Int).toNat) (0 : Int)).length = e0)) : kim (p0, p1, ()) (e0, ()) := WPh.of_eq (by kernel_rfl) h
theorem k19z (p0 : List Int) (p1 : Int) (h : 0 ≤ p1 ∧ p0.length + p1 ≤ 140737488355328) : kim (p0, p1, ()) ((p0 : List Int), ()) := by
 obtain ⟨h1, h2⟩ := h
 refine k1e7 ?_
 rw [wi _ (by omega) (by omega)]
 have e : rowOver (List.replicate ((p0.length : Int).toNat) (0 : Int)) p0 (List.replicate ((p0.length : Int).toNat) (0 : Int)).length = p0 := k17w _ _ (by simp)
 simp only [e]
 exact ⟨by omega, by omega, by omega, by unfold maxLen; omega, by simp, by omega, by trivial, by trivial⟩
def kf1 : Con TB.den := k3i.fnR (fun x => (fun (p0 : List Int) (p1 : Int) => 0 ≤ p1 ∧ p0.length + p1 ≤ 140737488355328) x.1 x.2.1) fun x => ((fun (p0 : List Int) (p1 : Int) => (p0 : List Int)) x.1 x.2.1, ())
theorem kn5 : kf1.Ok Try.prog TB := Con.ok_fn k3i bd93 fun x h => k1bx (k19z x.1 x.2.1 h)
def k5d : Con TB.den := Con.mk0 50 [.one (.d (.sl (.int .u8))), .one (.d (.int .u64))] [] (.one (.one (.d (.sl (.int .u8))))) []
abbrev k17v := HL TB.den (hsT k5d.ins (hsOs k5d.pre))
abbrev knv := HL TB.den (hsV k5d.res (hsOs k5d.post))
def kf5 : Cx TB := ⟨inf, [kf1, k8k], [], 4, []⟩
def km0 : Code := Try.f50.body.getD .skip
def kr1 : List ResultVar := Try.f50.results.toList
def k14q (o : knv) : An TB := .no
def knc (x : k17v) (o : knv) : Prop := WPh TB kf5 9 0 km0 (k14q o) (k5d.st TB x) (retTQ TB kf5 k5d kr1 o)
theorem k1h4 (o : knv) : OblH TB kf5 9 0 km0 (k14q o) (retTQ TB kf5 k5d kr1 o) :=
 OblH.ofC (X := True) (by kernel_rfl) trivial
theorem k1i7 {x : k17v} {o : knv} (h : knc x o) : k5d.Snd Try.prog x o :=
 Con.soundH (c := k5d) (C := kf5) TBok ⟨inf_ok, (all_cons kn5 (all_cons kdd all_nil)), all_nil⟩ mix Try.func50 (show Try.f50.body = some km0 by kernel_rfl) (show Try.f50.ntmps = 9 by kernel_rfl) (show Try.f50.results.toList = kr1 by kernel_rfl) rfl h (k1h4 o)
theorem k1l9 {p0 : List Int} {p1 : Int} {r0 : List Int} (h :
((0 ≤ (8 : Int) ∧ p0.length + (8 : Int) ≤ 140737488355328) ∧ (p0 = p0) ∧ (U64 p1 ∧ (0 ≤ (8 : Int) ∧ (8 : Int) ≤ 8) ∧ p0.length ≤ 137438953472) ∧ (p0 ++ dig (8 : Int).toNat p1) = r0)) : knc (p0, p1, ()) (r0, ()) := WPh.of_eq (by kernel_rfl) h
theorem bd50 : Callable Try.prog 50 := ⟨by rw [Try.func50]; kernel_rfl, by rw [Try.func50]; show some _ ≠ some _; decide⟩
theorem k1do (p0 : List Int) (p1 : Int) (h : U64 p1 ∧ p0.length ≤ 137438953472) : knc (p0, p1, ()) (((p0 ++ dig 8 p1) : List Int), ()) := by
 obtain ⟨h1, h2⟩ := h
 refine k1l9 ⟨⟨by omega, by omega⟩, by trivial, ⟨h1, by omega, h2⟩, rfl⟩
def kpc : Con TB.den := k5d.fnR (fun x => (fun (p0 : List Int) (p1 : Int) => U64 p1 ∧ p0.length ≤ 137438953472) x.1 x.2.1) fun x => ((fun (p0 : List Int) (p1 : Int) => ((p0 ++ dig 8 p1) : List Int)) x.1 x.2.1, ())
theorem k155 : kpc.Ok Try.prog TB := Con.ok_fn k5d bd50 fun x h => k1i7 (k1do x.1 x.2.1 h)
def kn : Con TB.den := Con.mk0 49 [.one (.d (.sl (.int .u8))), .agg [.d (.int .u64), .d (.int .u64), .d (.int .u64), .d (.int .u64)]] [] (.one (.one (.d (.sl (.int .u8))))) []
abbrev kjl := HL TB.den (hsT kn.ins (hsOs kn.pre))
abbrev k8l := HL TB.den (hsV kn.res (hsOs kn.post))
def k6a : Cx TB := ⟨inf, [kpc], [], 4, []⟩
def ka5 : Code := Try.f49.body.getD .skip
def kbf : List ResultVar := Try.f49.results.toList
def ki4 (o : k8l) : An TB := .no
def ka4 (x : kjl) (o : k8l) : Prop := WPh TB k6a 21 0 ka5 (ki4 o) (kn.st TB x) (retTQ TB k6a kn kbf o)
theorem kt3 (o : k8l) : OblH TB k6a 21 0 ka5 (ki4 o) (retTQ TB k6a kn kbf o) :=
 OblH.ofC (X := True) (by kernel_rfl) trivial
theorem ksx {x : kjl} {o : k8l} (h : ka4 x o) : kn.Snd Try.prog x o :=
 Con.soundH (c := kn) (C := k6a) TBok ⟨inf_ok, (all_cons k155 all_nil), all_nil⟩ mix Try.func49 (show Try.f49.body = some ka5 by kernel_rfl) (show Try.f49.ntmps = 21 by kernel_rfl) (show Try.f49.results.toList = kbf by kernel_rfl) rfl h (kt3 o)
theorem kv3 {p0 : List Int} {p1 : TNote} {r0 : List Int} (h :
((U64 p1.Value ∧ p0.length ≤ 137438953472) ∧ (U64 p1.Owner ∧ (p0 ++ dig 8 p1.Value).length ≤ 137438953472) ∧ let r1 : List Int := ((p0 ++ dig 8 p1.Value) ++ dig 8 p1.Owner)
(U64 p1.Rho ∧ r1.length ≤ 137438953472) ∧ (U64 p1.Blind ∧ (r1 ++ dig 8 p1.Rho).length ≤ 137438953472) ∧ ((r1 ++ dig 8 p1.Rho) ++ dig 8 p1.Blind) = r0)) : ka4 (p0, p1.Value, p1.Owner, p1.Rho, p1.Blind, ()) (r0, ()) := WPh.of_eq (by kernel_rfl) h
theorem bd49 : Callable Try.prog 49 := ⟨by rw [Try.func49]; kernel_rfl, by rw [Try.func49]; show some _ ≠ some _; decide⟩
theorem kqw (p0 : List Int) (p1 : TNote) (h : NR p1 ∧ p0.length ≤ 68719476736) : ka4 (p0, p1.Value, p1.Owner, p1.Rho, p1.Blind, ()) (((p0 ++ encN p1) : List Int), ()) := by
 obtain ⟨hn, hl⟩ := h
 refine kv3 ⟨⟨hn.v, by omega⟩, ⟨hn.o, by simp; omega⟩, ⟨hn.r, by simp; omega⟩, ⟨hn.b, by simp; omega⟩, ?_⟩
 simp [encN, List.append_assoc]
def kh2 : Con TB.den := kn.fnR (fun x => (fun (p0 : List Int) (p1 : TNote) => NR p1 ∧ p0.length ≤ 68719476736) x.1 (TNote.mk x.2.1 x.2.2.1 x.2.2.2.1 x.2.2.2.2.1)) fun x => ((fun (p0 : List Int) (p1 : TNote) => ((p0 ++ encN p1) : List Int)) x.1 (TNote.mk x.2.1 x.2.2.1 x.2.2.2.1 x.2.2.2.2.1), ())
theorem kud : kh2.Ok Try.prog TB := Con.ok_fn kn bd49 fun x h => ksx (kqw x.1 (TNote.mk x.2.1 x.2.2.1 x.2.2.2.1 x.2.2.2.2.1) h)
def kl : Con TB.den := Con.mk0 47 [.agg [.d (.sl (.st 0)), .d (.sl (.st 1)), .d (.int .u64)]] [] (.one (.one (.d (.bool)))) []
abbrev kl8 := HL TB.den (hsT kl.ins (hsOs kl.pre))
abbrev k28 := HL TB.den (hsV kl.res (hsOs kl.post))
def k2o : Cx TB := ⟨inf, [k8m, kbg, kfr], [], 4, []⟩
def k5r : Code := Try.f47.body.getD .skip
def k8p : List ResultVar := Try.f47.results.toList
def kw2 (o : k28) := qS TB k2o 36 0 (cB (cB (cB k5r))) .no (retTQ TB k2o kl k8p o)
def k3f : Tm := ⟨[0], [.cells [.d (.sl (.st 0)), .d (.sl (.st 1)), .d (.int .u64)]], [1, 23, 24, 25], [.one (.ptr 0 0), .one (.d (.sl (.st 0))), .one (.d (.int .i64)), .one (.d (.int .i64))], 2⟩
def kx7 (o : k28) (nx1 : NX TB k3f) := qM TB 0 k3f nx1 (blockT TB 0 (kw2 o))
def k6m (o : k28) (nx1 : NX TB k3f) (i : HL TB.den k3f.hs) : Prop := WP TB k2o 36 0 (cA (cA (cB (cA (cB (cB k5r)))))) .no (k3f.fill TB i) (kx7 o nx1)
def kvc (o : k28) : An TB := .lp [] k3f (k6m o) fun nx1 => .no
def kwv (o : k28) : An TB := .nd [] .no [] (.nd [] (.nd [] .no [] (kvc o)) [] .no)
def kjq (o : k28) : An TB := .nd [] .no [] (kwv o)
def kak (x : kl8) (o : k28) : Prop := WPh TB k2o 36 0 k5r (kjq o) (kl.st TB x) (retTQ TB k2o kl k8p o)
theorem kuw (o : k28) : OblH TB k2o 36 0 k5r (kjq o) (retTQ TB k2o kl k8p o) :=
 OblH.ofC (X := ((∀ nx i, (k6m o) nx i = (k6m o) nx i) ∧ (∀ nx1 : NX TB k3f, True) ∧ True)) (by kernel_rfl) ⟨fun _ _ => rfl, fun _ => trivial, trivial⟩
theorem ku9 {x : kl8} {o : k28} (h : kak x o) : kl.Snd Try.prog x o :=
 Con.soundH (c := kl) (C := k2o) TBok ⟨inf_ok, (all_cons kdq (all_cons kjp (all_cons kq2 all_nil))), all_nil⟩ mix Try.func47 (show Try.f47.body = some k5r by kernel_rfl) (show Try.f47.ntmps = 36 by kernel_rfl) (show Try.f47.results.toList = k8p by kernel_rfl) rfl h (kuw o)
theorem kwn {p0 : TWitness} {r0 : Bool} (h :
((decide (4 < (p0.Ins.length : Int)) = true →
 false = r0) ∧
(decide (4 < (p0.Ins.length : Int)) = false →
(decide (4 < (p0.Outs.length : Int)) = true →
 false = r0) ∧
(decide (4 < (p0.Outs.length : Int)) = false →
([p0.Secret].length ≤ 9223372036854775807) ∧ ((!(allB [p0.Secret])) = true →
 false = r0) ∧
((!(allB [p0.Secret])) = false →
 Md.Loop (p0.Ins, ((p0.Ins.length : Int) : Int), (0 : Int), p0.Ins, p0.Outs, p0.Secret, ()) (k6m (r0, ()))))))) : kak (p0.Ins, p0.Outs, p0.Secret, ()) (r0, ()) := WPh.of_eq (by kernel_rfl) h
def kjj (r0 : Bool) (k1 : Int → Prop) (s23 : List TSpent) (s24 : Int) (h0_0 : List TSpent) (h0_1 : List TNote) (h0_2 : Int) (s25 : Int) : Prop :=
(decide (s25 < s24) = true →
(0 ≤ s25) ∧ s25 < (s23.length : Int) ∧ ((ix s23 s25).Path.length ≤ 9223372036854775807) ∧ ((!(spendV (ix s23 s25))) = true →
 false = r0) ∧
((!(spendV (ix s23 s25))) = false →
 k1 (IntKind.i64.wrap (s25 + 1) : Int))) ∧
(decide (s25 < s24) = false →
(h0_1.length ≤ 9223372036854775807) ∧ (h0_1.all noteV) = r0)
theorem kun {r0 : Bool} {s23 : List TSpent} {s24 : Int} {h0_0 : List TSpent} {h0_1 : List TNote} {h0_2 : Int} {s25 : Int} (inv : Int → Prop) (μ : Int → Nat) (h0 : inv s25) (hs : ∀ (s25 : Int), inv s25 → kjj r0 (fun s25q => inv s25q ∧ μ s25q < μ s25) s23 s24 h0_0 h0_1 h0_2 s25) : Md.Loop (s23, s24, s25, h0_0, h0_1, h0_2, ()) (k6m (r0, ())) :=
 ⟨⟨fun s : (List TSpent) × Int × Int × (List TSpent) × (List TNote) × Int × Unit => (s.1 = s23 ∧ s.2.1 = s24 ∧ s.2.2.2.1 = h0_0 ∧ s.2.2.2.2.1 = h0_1 ∧ s.2.2.2.2.2.1 = h0_2) ∧ inv s.2.2.1, fun s : (List TSpent) × Int × Int × (List TSpent) × (List TNote) × Int × Unit => μ s.2.2.1, ⟨⟨rfl, rfl, rfl, rfl, rfl⟩, h0⟩, fun (s23p, s24p, s25p, h0_0p, h0_1p, h0_2p, ()) ⟨⟨eq0, eq1, eq2, eq3, eq4⟩, hi⟩ => by
  have eq0 : s23p = s23 := eq0; subst s23p; have eq1 : s24p = s24 := eq1; subst s24p; have eq2 : h0_0p = h0_0 := eq2; subst h0_0p; have eq3 : h0_1p = h0_1 := eq3; subst h0_1p; have eq4 : h0_2p = h0_2 := eq4; subst h0_2p; exact mpr_of (by kernel_rfl) ((congrArg (fun k => kjj r0 k s23 s24 h0_0 h0_1 h0_2 s25p) (lpk1 (⟨rfl, rfl, rfl, rfl, rfl⟩ : s23 = s23 ∧ s24 = s24 ∧ h0_0 = h0_0 ∧ h0_1 = h0_1 ∧ h0_2 = h0_2) inv (fun s25q => μ s25q < μ s25p))).mpr (hs s25p hi))⟩⟩
theorem bd47 : Callable Try.prog 47 := ⟨by rw [Try.func47]; kernel_rfl, by rw [Try.func47]; show some _ ≠ some _; decide⟩
theorem kso (p0 : TWitness) (h : p0.Ins.length ≤ 9223372036854775807 ∧ p0.Outs.length ≤ 9223372036854775807 ∧ (∀ x ∈ p0.Ins, x.Path.length ≤ 9223372036854775807)) : kak (p0.Ins, p0.Outs, p0.Secret, ()) (((rightV p0) : Bool), ()) := by
 obtain ⟨h1, h2, h3⟩ := h
 have no : ¬ (p0.Ins.length ≤ 4 ∧ p0.Outs.length ≤ 4 ∧ p0.Secret < 18446744069414584321 ∧ (∀ x ∈ p0.Ins, spendV x = true) ∧ ∀ x ∈ p0.Outs, noteV x = true) → false = rightV p0 := by
  intro h
  cases hr : rightV p0 with
  | false => rfl
  | true => exact (h (kde.1 hr)).elim
 have hs : allB [p0.Secret] = decide (p0.Secret < 18446744069414584321) := by simp [allB]
 refine kwn ⟨fun h => no fun a => ?_, fun e1 => ⟨fun h => no fun a => ?_, fun e2 => ⟨by simp, fun h => no fun a => ?_, fun e3 => ?_⟩⟩⟩
 ·have h := of_decide_eq_true h; omega
 ·have h := of_decide_eq_true h; omega
 ·rw [hs, decide_eq_true a.2.2.1] at h; cases h
 have e1 := of_decide_eq_false e1
 have e2 := of_decide_eq_false e2
 have e3 : p0.Secret < 18446744069414584321 := by rw [hs] at e3; simpa using e3
 refine kun (AllI spendV p0.Ins) (fun i => (p0.Ins.length - i).toNat) AllI.start ?_
 intro i hi
 refine ⟨fun hh => ?_, fun hh => ?_⟩
 ·have hh := of_decide_eq_true hh
  have hm := ix_mem p0.Ins i hi.1 hh
  refine ⟨hi.1, hh, h3 _ hm, fun e => no fun a => ?_, fun e => hi.next hh (by omega) (by simpa using e)⟩
  rw [a.2.2.2.1 _ hm] at e; cases e
 ·have ha := hi.done (of_decide_eq_false hh)
  refine ⟨h2, ?_⟩
  cases hn : p0.Outs.all noteV with
  | false => exact no fun a => by rw [List.all_eq_true.2 a.2.2.2.2] at hn; cases hn
  | true => exact (kde.2 ⟨by omega, by omega, e3, List.all_eq_true.1 ha, List.all_eq_true.1 hn⟩).symm
def ki1 : Con TB.den := kl.fnR (fun x => (fun (p0 : TWitness) => p0.Ins.length ≤ 9223372036854775807 ∧ p0.Outs.length ≤ 9223372036854775807 ∧ (∀ x ∈ p0.Ins, x.Path.length ≤ 9223372036854775807)) (TWitness.mk x.1 x.2.1 x.2.2.1)) fun x => ((fun (p0 : TWitness) => ((rightV p0) : Bool)) (TWitness.mk x.1 x.2.1 x.2.2.1), ())
theorem kxb : ki1.Ok Try.prog TB := Con.ok_fn kl bd47 fun x h => ku9 (kso (TWitness.mk x.1 x.2.1 x.2.2.1) h)
def ku : Con TB.den := Con.mk0 92 [.one (.own 0), .one (.d (.int .i64))] [.tip (.int .u8)] (.one (.one (.own 0))) [.tip (.int .u8)]
abbrev kld := HL TB.den (hsT ku.ins (hsOs ku.pre))
abbrev k4t := HL TB.den (hsV ku.res (hsOs ku.post))
def k44 : Cx TB := ⟨inf, [k8k], [], 4, []⟩
def k7v : Code := Try.f92.body.getD .skip
def k9k : List ResultVar := Try.f92.results.toList
def k8q : Tm := ⟨[0], [.tip (.int .u8)], [0, 1], [.one (.own 0), .one (.d (.int .i64))], 1⟩
def kjm (o : k4t) (i : HL TB.den k8q.hs) : Prop := ghs TB [] (k8q.fill TB i) fun s => WP TB k44 15 1 (cB (cB k7v)) .no s (retTQ TB k44 ku k9k o)
structure k43 (o : k4t) (i : HL TB.den k8q.hs) : Prop where
 h : kjm o i
def kxs (o : k4t) : An TB := .jn k8q (k43 o) [] .no [] .no
def kk8 (o : k4t) : An TB := .nd [] .no [] (kxs o)
def kbm (x : kld) (o : k4t) : Prop := WPh TB k44 15 1 k7v (kk8 o) (ku.st TB x) (retTQ TB k44 ku k9k o)
theorem kx0 (o : k4t) : OblH TB k44 15 1 k7v (kk8 o) (retTQ TB k44 ku k9k o) :=
 OblH.ofC (X := ((∀ i, (k43 o) i = kjm o i) ∧ True)) (by kernel_rfl) ⟨fun _ => propext ⟨fun h => h.1, fun h => ⟨h⟩⟩, trivial⟩
theorem kx9 {x : kld} {o : k4t} (h : kbm x o) : ku.Snd Try.prog x o :=
 Con.soundH (c := ku) (C := k44) TBok ⟨inf_ok, (all_cons kdd all_nil), all_nil⟩ mix Try.func92 (show Try.f92.body = some k7v by kernel_rfl) (show Try.f92.ntmps = 15 by kernel_rfl) (show Try.f92.results.toList = k9k by kernel_rfl) rfl h (kx0 o)
theorem kys {p1 : Int} {w0 : List Int} {e0 : List Int} (h :
((decide (p1 < 0) = true →
(w0 = w0) ∧ k43 (e0, ()) ((0 : Int), w0, ())) ∧
(decide (p1 < 0) = false →
(decide (4294967295 < p1) = true →
(w0 = w0) ∧ k43 (e0, ()) ((0 : Int), w0, ())) ∧
(decide (4294967295 < p1) = false →
(w0 = w0) ∧ k43 (e0, ()) (p1, w0, ()))))) : kbm (p1, w0, ()) (e0, ()) := WPh.of_eq (by kernel_rfl) h
theorem kt4 {e0 : List Int} {s1 : Int} {g0 : List Int} (h :
((g0 = g0) ∧ (U64 (IntKind.u64.wrap s1) ∧ (0 ≤ (4 : Int) ∧ (4 : Int) ≤ 8) ∧ g0.length ≤ 137438953472) ∧ let r1 : List Int := (g0 ++ dig (4 : Int).toNat (IntKind.u64.wrap s1))
(r1 = r1) ∧ r1 = e0)) : k43 (e0, ()) (s1, g0, ()) := ⟨mpr_of (by kernel_rfl) h⟩
theorem bd92 : Callable Try.prog 92 := ⟨by rw [Try.func92]; kernel_rfl, by rw [Try.func92]; show some _ ≠ some _; decide⟩
theorem kue (p1 : Int) (w0 : List Int) (h : (-9223372036854775808 ≤ p1 ∧ p1 ≤ 9223372036854775807) ∧ w0.length ≤ 137438953472) : kbm (p1, w0, ()) (((w0 ++ dig 4 (len4 p1)) : List Int), ()) := by
 obtain ⟨h1, h2⟩ := h
 have j : ∀ n, 0 ≤ n → n ≤ 4294967295 → len4 p1 = n → k43 ((w0 ++ dig 4 (len4 p1) : List Int), ()) (n, w0, ()) := by
  intro n h0 h1 e
  refine kt4 ?_
  rw [wu n (by omega) (by omega), e]
  exact ⟨rfl, ⟨⟨h0, by omega⟩, by omega, h2⟩, by trivial, rfl⟩
 refine kys ⟨fun h => ⟨rfl, j 0 (by omega) (by omega) ?_⟩, fun h => ⟨fun h' => ⟨rfl, j 0 (by omega) (by omega) ?_⟩, fun h' => ⟨rfl, j p1 ?_ ?_ ?_⟩⟩⟩
 ·have h := of_decide_eq_true h; exact if_pos (.inl h)
 ·have h' := of_decide_eq_true h'; exact if_pos (.inr h')
 ·have h := of_decide_eq_false h; omega
 ·have h' := of_decide_eq_false h'; omega
 ·have h := of_decide_eq_false h; have h' := of_decide_eq_false h'; exact len4_in ⟨by omega, by omega⟩
def kcg : Con TB.den := ku.fnR (fun x => (fun (p1 : Int) (w0 : List Int) => (-9223372036854775808 ≤ p1 ∧ p1 ≤ 9223372036854775807) ∧ w0.length ≤ 137438953472) x.1 x.2.1) fun x => ((fun (p1 : Int) (w0 : List Int) => ((w0 ++ dig 4 (len4 p1)) : List Int)) x.1 x.2.1, ())
theorem kkz : kcg.Ok Try.prog TB := Con.ok_fn ku bd92 fun x h => kx9 (kue x.1 x.2.1 h)
def k6b : Con TB.den := Con.mk0 48 [.one (.d (.sl (.int .u8))), .one (.d (.int .i64))] [] (.one (.one (.d (.sl (.int .u8))))) []
abbrev k1be := HL TB.den (hsT k6b.ins (hsOs k6b.pre))
abbrev kqq := HL TB.den (hsV k6b.res (hsOs k6b.post))
def khn : Cx TB := ⟨inf, [kf1, kcg], [], 4, []⟩
def kpf : Code := Try.f48.body.getD .skip
def kv5 : List ResultVar := Try.f48.results.toList
def k17s (o : kqq) : An TB := .no
def kph (x : k1be) (o : kqq) : Prop := WPh TB khn 9 0 kpf (k17s o) (k6b.st TB x) (retTQ TB khn k6b kv5 o)
theorem k1l8 (o : kqq) : OblH TB khn 9 0 kpf (k17s o) (retTQ TB khn k6b kv5 o) :=
 OblH.ofC (X := True) (by kernel_rfl) trivial
theorem k1ld {x : k1be} {o : kqq} (h : kph x o) : k6b.Snd Try.prog x o :=
 Con.soundH (c := k6b) (C := khn) TBok ⟨inf_ok, (all_cons kn5 (all_cons kkz all_nil)), all_nil⟩ mix Try.func48 (show Try.f48.body = some kpf by kernel_rfl) (show Try.f48.ntmps = 9 by kernel_rfl) (show Try.f48.results.toList = kv5 by kernel_rfl) rfl h (k1l8 o)
theorem k1me {p0 : List Int} {p1 : Int} {r0 : List Int} (h :
((0 ≤ (4 : Int) ∧ p0.length + (4 : Int) ≤ 140737488355328) ∧ (p0 = p0) ∧ ((-9223372036854775808 ≤ p1 ∧ p1 ≤ 9223372036854775807) ∧ p0.length ≤ 137438953472) ∧ (p0 ++ dig 4 (len4 p1)) = r0)) : kph (p0, p1, ()) (r0, ()) := WPh.of_eq (by kernel_rfl) h
theorem bd48 : Callable Try.prog 48 := ⟨by rw [Try.func48]; kernel_rfl, by rw [Try.func48]; show some _ ≠ some _; decide⟩
theorem k1if (p0 : List Int) (p1 : Int) (h : (-9223372036854775808 ≤ p1 ∧ p1 ≤ 9223372036854775807) ∧ p0.length ≤ 137438953472) : kph (p0, p1, ()) (((p0 ++ dig 4 (len4 p1)) : List Int), ()) := by
 obtain ⟨h1, h2⟩ := h
 exact k1me ⟨⟨by omega, by omega⟩, by trivial, ⟨h1, h2⟩, rfl⟩
def k12d : Con TB.den := k6b.fnR (fun x => (fun (p0 : List Int) (p1 : Int) => (-9223372036854775808 ≤ p1 ∧ p1 ≤ 9223372036854775807) ∧ p0.length ≤ 137438953472) x.1 x.2.1) fun x => ((fun (p0 : List Int) (p1 : Int) => ((p0 ++ dig 4 (len4 p1)) : List Int)) x.1 x.2.1, ())
theorem k1ml : k12d.Ok Try.prog TB := Con.ok_fn k6b bd48 fun x h => k1ld (k1if x.1 x.2.1 h)
def k46 : Con TB.den := Con.mk0 51 [.one (.d (.sl (.int .u8))), .one (.d (.sl (.int .u64)))] [] (.one (.one (.d (.sl (.int .u8))))) []
abbrev k17k := HL TB.den (hsT k46.ins (hsOs k46.pre))
abbrev kbh := HL TB.den (hsV k46.res (hsOs k46.post))
def k8d : Cx TB := ⟨inf, [kf1, kcg, k8k], [], 4, []⟩
def kcm : Code := Try.f51.body.getD .skip
def kka : List ResultVar := Try.f51.results.toList
def k1l0 (o : kbh) := qS TB k8d 28 0 (cB (cB (cB kcm))) .no (retTQ TB k8d k46 kka o)
def kcq : Tm := ⟨[0], [.tip (.int .u8)], [5, 17, 18, 19], [.one (.own 0), .one (.d (.sl (.int .u64))), .one (.d (.int .i64)), .one (.d (.int .i64))], 1⟩
def kg8 (o : kbh) (nx1 : NX TB kcq) (i : HL TB.den kcq.hs) : Prop := WP TB k8d 28 0 (cA (cA (cB (cA (cB (cB kcm)))))) .no (kcq.fill TB i) (qM TB 0 kcq nx1 (blockT TB 0 (k1l0 o)))
def k1ir (o : kbh) : An TB := .nd [] .no [] (.lp [] kcq (kg8 o) fun nx1 => .no)
def k156 (o : kbh) : An TB := .nd [] .no [] (.nd [] .no [] (.nd [] (k1ir o) [] .no))
def kmi (x : k17k) (o : kbh) : Prop := WPh TB k8d 28 0 kcm (k156 o) (k46.st TB x) (retTQ TB k8d k46 kka o)
theorem k1h3 (o : kbh) : OblH TB k8d 28 0 kcm (k156 o) (retTQ TB k8d k46 kka o) :=
 OblH.ofC (X := ((∀ nx i, (kg8 o) nx i = (kg8 o) nx i) ∧ (∀ nx1 : NX TB kcq, True) ∧ True)) (by kernel_rfl) ⟨fun _ _ => rfl, fun _ => trivial, trivial⟩
theorem k1gw {x : k17k} {o : kbh} (h : kmi x o) : k46.Snd Try.prog x o :=
 Con.soundH (c := k46) (C := k8d) TBok ⟨inf_ok, (all_cons kn5 (all_cons kkz (all_cons kdd all_nil))), all_nil⟩ mix Try.func51 (show Try.f51.body = some kcm by kernel_rfl) (show Try.f51.ntmps = 28 by kernel_rfl) (show Try.f51.results.toList = kka by kernel_rfl) rfl h (k1h3 o)
theorem k1jg {p0 : List Int} {p1 : List Int} {r0 : List Int} (h :
(let v1 : Int := IntKind.i64.wrap (4 + (IntKind.i64.wrap (8 * (p1.length : Int))))
(0 ≤ v1 ∧ p0.length + v1 ≤ 140737488355328) ∧ (p0 = p0) ∧ ((-9223372036854775808 ≤ (p1.length : Int) ∧ (p1.length : Int) ≤ 9223372036854775807) ∧ p0.length ≤ 137438953472) ∧ ((p0 ++ dig 4 (len4 (p1.length : Int))) = (p0 ++ dig 4 (len4 (p1.length : Int)))) ∧ Md.Loop (p1, ((p1.length : Int) : Int), (0 : Int), ((p0 ++ dig 4 (len4 (p1.length : Int))) : List Int), ()) (kg8 (r0, ())))) : kmi (p0, p1, ()) (r0, ()) := WPh.of_eq (by kernel_rfl) h
def k15e (r0 : List Int) (k1 : Int → List Int → Prop) (s17 : List Int) (s18 : Int) (s19 : Int) (g0 : List Int) : Prop :=
(decide (s19 < s18) = true →
(0 ≤ s19) ∧ s19 < (s17.length : Int) ∧ (g0 = g0) ∧ (U64 (ix s17 s19) ∧ (0 ≤ (8 : Int) ∧ (8 : Int) ≤ 8) ∧ g0.length ≤ 137438953472) ∧ ((g0 ++ dig (8 : Int).toNat (ix s17 s19)) = (g0 ++ dig (8 : Int).toNat (ix s17 s19))) ∧ k1 (IntKind.i64.wrap (s19 + 1) : Int) ((g0 ++ dig (8 : Int).toNat (ix s17 s19)) : List Int)) ∧
(decide (s19 < s18) = false →
 g0 = r0)
theorem k1hh {r0 : List Int} {s17 : List Int} {s18 : Int} {s19 : Int} {g0 : List Int} (inv : Int → List Int → Prop) (μ : Int → List Int → Nat) (h0 : inv s19 g0) (hs : ∀ (s19 : Int) (g0 : List Int), inv s19 g0 → k15e r0 (fun s19q g0q => inv s19q g0q ∧ μ s19q g0q < μ s19 g0) s17 s18 s19 g0) : Md.Loop (s17, s18, s19, g0, ()) (kg8 (r0, ())) :=
 ⟨⟨fun s : (List Int) × Int × Int × (List Int) × Unit => (s.1 = s17 ∧ s.2.1 = s18) ∧ inv s.2.2.1 s.2.2.2.1, fun s : (List Int) × Int × Int × (List Int) × Unit => μ s.2.2.1 s.2.2.2.1, ⟨⟨rfl, rfl⟩, h0⟩, fun (s17p, s18p, s19p, g0p, ()) ⟨⟨eq0, eq1⟩, hi⟩ => by
  have eq0 : s17p = s17 := eq0; subst s17p; have eq1 : s18p = s18 := eq1; subst s18p; exact mpr_of (by kernel_rfl) ((congrArg (fun k => k15e r0 k s17 s18 s19p g0p) (lpk2 (⟨rfl, rfl⟩ : s17 = s17 ∧ s18 = s18) inv (fun s19q g0q => μ s19q g0q < μ s19p g0p))).mpr (hs s19p g0p hi))⟩⟩
theorem bd51 : Callable Try.prog 51 := ⟨by rw [Try.func51]; kernel_rfl, by rw [Try.func51]; show some _ ≠ some _; decide⟩
theorem k1eq (p0 : List Int) (p1 : List Int) (h : Us p1 ∧ p0.length ≤ 68719476736 ∧ p1.length ≤ 4294967295) : kmi (p0, p1, ()) (((p0 ++ encL p1) : List Int), ()) := by
 obtain ⟨h1, h2, h3⟩ := h
 refine k1jg ?_
 rw [wi (8 * (p1.length : Int)) (by omega) (by omega), wi (4 + 8 * (p1.length : Int)) (by omega) (by omega)]
 refine ⟨⟨by omega, by omega⟩, by trivial, ⟨by omega, by omega⟩, by trivial, ?_⟩
 refine k1hh (fun i g => 0 ≤ i ∧ i ≤ p1.length ∧ g = p0 ++ dig 4 (len4 p1.length) ++ (p1.take i.toNat).flatMap (dig 8)) (fun i _ => (p1.length - i).toNat) ⟨by omega, by omega, by simp⟩ ?_
 rintro i g ⟨g0, g1, rfl⟩
 refine ⟨fun h => ?_, fun h => ?_⟩
 ·have h := of_decide_eq_true h
  have hx := h1 _ (ix_mem p1 i g0 h)
  rw [inc i p1.length g0 h (by omega)]
  refine ⟨g0, h, by trivial, ⟨hx, by omega, ?_⟩, by trivial, ⟨by omega, by omega, ?_⟩, by omega⟩
  ·simp only [List.length_append, k3b, kqy, List.length_take]; omega
  ·rw [k2f p1 i g0 h, List.flatMap_append, List.append_assoc]
   simp
 ·have h := of_decide_eq_false h
  rw [List.take_of_length_le (by omega), List.append_assoc]
  rfl
def kzx : Con TB.den := k46.fnR (fun x => (fun (p0 : List Int) (p1 : List Int) => Us p1 ∧ p0.length ≤ 68719476736 ∧ p1.length ≤ 4294967295) x.1 x.2.1) fun x => ((fun (p0 : List Int) (p1 : List Int) => ((p0 ++ encL p1) : List Int)) x.1 x.2.1, ())
theorem k1jq : kzx.Ok Try.prog TB := Con.ok_fn k46 bd51 fun x h => k1gw (k1eq x.1 x.2.1 h)
end Go.Proofs.Ytpffhgljgpjenaa
end
