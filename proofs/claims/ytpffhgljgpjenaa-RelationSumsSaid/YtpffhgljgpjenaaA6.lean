/-
  Parts of the proofs that the laws of this seat hold of every input, merged by a program: a machine over pure data that is sound for the model, what each function of the translation does in it, and plain lemmas. No conditions but those in each theorem.
-/
import Derived.Test.YtpffhgljgpjenaaA5
set_option linter.all false
namespace Go.Proofs.Ytpffhgljgpjenaa
open Go Go.Bv Go.Cv Go.Md Go.RowKit
def k28 : Con TB.den := Con.mk0 9 [.agg [.d (.int .i64), .d (.int .u64), .d (.sl (.int .u64)), .d (.sl (.int .u64)), .d (.sl (.int .u64)), .d (.int .u64), .d (.int .u64), .d (.int .u64), .d (.int .u64), .d (.int .u64)], .agg [.d (.sl (.st 0)), .d (.sl (.st 1)), .d (.int .u64)]] [] (.one (.one (.d (.bool)))) []
abbrev kvc := HL TB.den (hsT k28.ins (hsOs k28.pre))
abbrev k73 := HL TB.den (hsV k28.res (hsOs k28.post))
noncomputable def k57 : Cx TB := ⟨inf, [], [], 4⟩
noncomputable def k90 : Code := Try.f9.body.getD .skip
noncomputable def kar : List ResultVar := Try.f9.results.toList
noncomputable def k14n (o : k73) : Exit → TSt TB.den → Prop := thenT TB (fun s => ghs TB [] s fun s => WP TB k57 49 0 (cB (cB (cB k90))) .no s (retTQ TB k57 k28 kar o)) (retTQ TB k57 k28 kar o)
def k7g : Tm := ⟨[1], [.cells [.d (.sl (.st 0)), .d (.sl (.st 1)), .d (.int .u64)]], [3, 5], [.one (.ptr 0 0), .one (.d (.int .i64))], 2⟩
noncomputable def k154 (o : k73) (nx1 : HL TB.den k7g.hs → Prop) : Exit → TSt TB.den → Prop := thenT TB (fun s => k7g.mat TB 0 s nx1) (blockT TB 0 (k14n o))
noncomputable def kbf (o : k73) (nx1 : HL TB.den k7g.hs → Prop) (i : HL TB.den k7g.hs) : Prop := WP TB k57 49 0 (cA (cA (cB (cA (cB (cB k90)))))) .no (k7g.fill TB i) (k154 o nx1)
noncomputable def k15m (o : k73) : An TB := .nd [] .no [] (.lp [] k7g (kbf o) fun nx1 => .no)
noncomputable def krj (o : k73) : An TB := .nd [] .no [] (.nd [] .no [] (.nd [] (k15m o) [] .no))
noncomputable def kfx (x : kvc) (o : k73) : Prop := WPh TB k57 49 0 k90 (krj o) (k28.st TB x) (retTQ TB k57 k28 kar o)
set_option maxRecDepth 100000 in
theorem k12o (o : k73) : OblH TB k57 49 0 k90 (krj o) (retTQ TB k57 k28 kar o) :=
  OblH.of_eq (X := (True ∧ ((True ∧ ((True ∧ True) ∧ True)) ∧ ((True ∧ ((∀ nx i, (kbf o) nx i = (kbf o) nx i) ∧ ∀ nx1 : HL TB.den k7g.hs → Prop, ((True ∧ (True ∧ True)) ∧ ((True ∧ ((True ∧ True) ∧ True)) ∧ True)))) ∧ (True ∧ True))))) (by kernel_rfl) ⟨trivial, ⟨⟨trivial, ⟨⟨trivial, trivial⟩, trivial⟩⟩, ⟨⟨trivial, ⟨fun _ _ => rfl, fun _ => ⟨⟨trivial, ⟨trivial, trivial⟩⟩, ⟨⟨trivial, ⟨⟨trivial, trivial⟩, trivial⟩⟩, trivial⟩⟩⟩⟩, ⟨trivial, trivial⟩⟩⟩⟩
set_option maxRecDepth 100000 in
theorem k134 {x : kvc} {o : k73} (h : kfx x o) : SoundH Try.prog k28.f ((k28.args idf x).map (er TB)) ((k28.obs idf x).map (erO TB)) (er TB (k28.val idf o)) ((k28.ops idf o).map (erO TB)) :=
  Con.soundH (c := k28) (C := k57) TBok ⟨inf_ok, all_nil, all_nil⟩ mix Try.func9 (show Try.f9.body = some k90 by kernel_rfl) (show Try.f9.ntmps = 49 by kernel_rfl) (show Try.f9.results.toList = kar by kernel_rfl) rfl h (k12o o)
set_option maxRecDepth 100000 in
theorem k14q {p0 : TStatement} {p1 : TWitness} {r0 : Bool} (h :
((decide (8 < (p0.Marks.length : Int)) = true →
 false = r0) ∧
(decide (8 < (p0.Marks.length : Int)) = false →
(decide (8 < (p0.Commits.length : Int)) = true →
 false = r0) ∧
(decide (8 < (p0.Commits.length : Int)) = false →
(decide (8 < (p0.Rhos.length : Int)) = true →
 false = r0) ∧
(decide (8 < (p0.Rhos.length : Int)) = false →
(decide (8 < (p1.Ins.length : Int)) = true →
 false = r0) ∧
(decide (8 < (p1.Ins.length : Int)) = false →
(decide (8 < (p1.Outs.length : Int)) = true →
 false = r0) ∧
(decide (8 < (p1.Outs.length : Int)) = false →
 Md.Loop ((0 : Int), p1.Ins, p1.Outs, p1.Secret, ()) (kbf (r0, ()))))))))) : kfx (p0.Depth, p0.Anchor, p0.Marks, p0.Commits, p0.Rhos, p0.Deposit, p0.Withdraw, p0.Fee, p0.Account, p0.Bind, p1.Ins, p1.Outs, p1.Secret, ()) (r0, ()) := WPh.of_eq (by kernel_rfl) h
def kt3 (r0 : Bool) (k1 : Int → Prop) (h1_0 : List TSpent) (h1_1 : List TNote) (h1_2 : Int) (s5 : Int) : Prop :=
(decide (s5 < (h1_0.length : Int)) = true →
(0 ≤ s5) ∧ s5 < (h1_0.length : Int) ∧ let v1 : Bool := decide (20 < (((ix h1_0 s5).Path).length : Int))
(v1 = true →
 false = r0) ∧
(v1 = false →
 k1 (IntKind.i64.wrap (s5 + 1) : Int))) ∧
(decide (s5 < (h1_0.length : Int)) = false →
 true = r0)
set_option maxRecDepth 100000 in
theorem k12u {r0 : Bool} {h1_0 : List TSpent} {h1_1 : List TNote} {h1_2 : Int} {s5 : Int} (inv : Int → Prop) (μ : Int → Nat) (h0 : inv s5) (hs : ∀ (s5 : Int), inv s5 → kt3 r0 (fun s5q => inv s5q ∧ μ s5q < μ s5) h1_0 h1_1 h1_2 s5) : Md.Loop (s5, h1_0, h1_1, h1_2, ()) (kbf (r0, ())) :=
  ⟨⟨fun s : Int × (List TSpent) × (List TNote) × Int × Unit => (s.2.1 = h1_0 ∧ s.2.2.1 = h1_1 ∧ s.2.2.2.1 = h1_2) ∧ inv s.1, fun s : Int × (List TSpent) × (List TNote) × Int × Unit => μ s.1, ⟨⟨rfl, rfl, rfl⟩, h0⟩, fun (s5p, h1_0p, h1_1p, h1_2p, ()) ⟨⟨eq0, eq1, eq2⟩, hi⟩ => by
    have eq0 : h1_0p = h1_0 := eq0; subst h1_0p; have eq1 : h1_1p = h1_1 := eq1; subst h1_1p; have eq2 : h1_2p = h1_2 := eq2; subst h1_2p; exact mpr_of (by kernel_rfl) ((congrArg (fun k => kt3 r0 k h1_0 h1_1 h1_2 s5p) (lpk1 (⟨rfl, rfl, rfl⟩ : h1_0 = h1_0 ∧ h1_1 = h1_1 ∧ h1_2 = h1_2) inv (fun s5q => μ s5q < μ s5p))).mpr (hs s5p hi))⟩⟩
theorem bd9 : Callable Try.prog 9 := ⟨by rw [Try.func9]; kernel_rfl, by rw [Try.func9]; show some _ ≠ some _; decide⟩
theorem kzu (p0 : TStatement) (p1 : TWitness) (h : p1.Ins.length ≤ 9223372036854775807) : kfx (p0.Depth, p0.Anchor, p0.Marks, p0.Commits, p0.Rhos, p0.Deposit, p0.Withdraw, p0.Fee, p0.Account, p0.Bind, p1.Ins, p1.Outs, p1.Secret, ()) (((smallW p0 p1) : Bool), ()) := by
  have no : ¬ (p0.Marks.length ≤ 8 ∧ p0.Commits.length ≤ 8 ∧ p0.Rhos.length ≤ 8 ∧ p1.Ins.length ≤ 8 ∧ p1.Outs.length ≤ 8 ∧ ∀ x ∈ p1.Ins, x.Path.length ≤ 20) → false = smallW p0 p1 := by
    intro h
    cases hr : smallW p0 p1 with
    | false => rfl
    | true => exact (h (kiq.1 hr)).elim
  refine k14q ⟨fun h => no fun a => ?_, fun h1 => ⟨fun h => no fun a => ?_, fun h2 => ⟨fun h => no fun a => ?_, fun h3 => ⟨fun h => no fun a => ?_, fun h4 => ⟨fun h => no fun a => ?_, fun h5 => ?_⟩⟩⟩⟩⟩
  · have h := of_decide_eq_true h; omega
  · have h := of_decide_eq_true h; omega
  · have h := of_decide_eq_true h; omega
  · have h := of_decide_eq_true h; omega
  · have h := of_decide_eq_true h; omega
  have h1 := of_decide_eq_false h1
  have h2 := of_decide_eq_false h2
  have h3 := of_decide_eq_false h3
  have h4 := of_decide_eq_false h4
  have h5 := of_decide_eq_false h5
  refine k12u (AllI (fun x => decide (x.Path.length ≤ 20)) p1.Ins) (fun i => (p1.Ins.length - i).toNat) AllI.start ?_
  intro i hi
  refine ⟨fun hh => ?_, fun hh => ?_⟩
  · have hh := of_decide_eq_true hh
    refine ⟨hi.1, hh, fun e => no fun a => ?_, fun e => hi.next hh (by omega) ?_⟩
    · have := a.2.2.2.2.2 _ (ix_mem p1.Ins i hi.1 hh)
      have e := of_decide_eq_true e
      omega
    · have e := of_decide_eq_false e
      apply decide_eq_true
      omega
  · have ha := hi.done (of_decide_eq_false hh)
    exact (kiq.2 ⟨by omega, by omega, by omega, by omega, by omega, by simpa using ha⟩).symm
noncomputable def khw : Con TB.den := k28.fnR (fun x => (fun (p0 : TStatement) (p1 : TWitness) => p1.Ins.length ≤ 9223372036854775807) (TStatement.mk x.1 x.2.1 x.2.2.1 x.2.2.2.1 x.2.2.2.2.1 x.2.2.2.2.2.1 x.2.2.2.2.2.2.1 x.2.2.2.2.2.2.2.1 x.2.2.2.2.2.2.2.2.1 x.2.2.2.2.2.2.2.2.2.1) (TWitness.mk x.2.2.2.2.2.2.2.2.2.2.1 x.2.2.2.2.2.2.2.2.2.2.2.1 x.2.2.2.2.2.2.2.2.2.2.2.2.1)) fun x => ((fun (p0 : TStatement) (p1 : TWitness) => ((smallW p0 p1) : Bool)) (TStatement.mk x.1 x.2.1 x.2.2.1 x.2.2.2.1 x.2.2.2.2.1 x.2.2.2.2.2.1 x.2.2.2.2.2.2.1 x.2.2.2.2.2.2.2.1 x.2.2.2.2.2.2.2.2.1 x.2.2.2.2.2.2.2.2.2.1) (TWitness.mk x.2.2.2.2.2.2.2.2.2.2.1 x.2.2.2.2.2.2.2.2.2.2.2.1 x.2.2.2.2.2.2.2.2.2.2.2.2.1), ())
theorem kst : khw.Ok Try.prog TB := Con.ok_fn k28 bd9 fun x h => k134 (kzu (TStatement.mk x.1 x.2.1 x.2.2.1 x.2.2.2.1 x.2.2.2.2.1 x.2.2.2.2.2.1 x.2.2.2.2.2.2.1 x.2.2.2.2.2.2.2.1 x.2.2.2.2.2.2.2.2.1 x.2.2.2.2.2.2.2.2.2.1) (TWitness.mk x.2.2.2.2.2.2.2.2.2.2.1 x.2.2.2.2.2.2.2.2.2.2.2.1 x.2.2.2.2.2.2.2.2.2.2.2.2.1) h)
end Go.Proofs.Ytpffhgljgpjenaa
namespace Go.Proofs.Ytpffhgljgpjenaa
open Go Go.Bv Go.Cv Go.Md Go.RowKit
def ky : Con TB.den := Con.mk0 3 [.agg [.d (.sl (.st 0)), .d (.sl (.st 1)), .d (.int .u64)]] [] (.one (.one (.d (.bool)))) []
abbrev kh7 := HL TB.den (hsT ky.ins (hsOs ky.pre))
abbrev k3l := HL TB.den (hsV ky.res (hsOs ky.post))
noncomputable def k2v : Cx TB := ⟨inf, [khv, khw, k7n, kgm, k6y, kev], [], 4⟩
noncomputable def k54 : Code := Try.f3.body.getD .skip
noncomputable def k5m : List ResultVar := Try.f3.results.toList
noncomputable def kqx (o : k3l) : Exit → TSt TB.den → Prop := thenT TB (fun s => ghs TB [] s fun s => WP TB k2v 24 0 (cB (cB k54)) .no s (retTQ TB k2v ky k5m o)) (retTQ TB k2v ky k5m o)
def k70 : Tm := ⟨[0], [.cells [.d (.sl (.st 0)), .d (.sl (.st 1)), .d (.int .u64)]], [1, 10], [.one (.ptr 0 0), .one (.d (.bool))], 1⟩
noncomputable def kf0 (o : k3l) (i : HL TB.den k70.hs) : Prop := ghs TB [] (k70.fill TB i) fun s => WP TB k2v 24 0 (cB (cA (cB k54))) .no s (kqx o)
structure k4n (o : k3l) (i : HL TB.den k70.hs) : Prop where
  h : kf0 o i
noncomputable def kqr (o : k3l) : An TB := .jn k70 (k4n o) [] .no [] .no
noncomputable def kfe (o : k3l) : An TB := .nd [] .no [] (.nd [] (kqr o) [] .no)
noncomputable def k8j (x : kh7) (o : k3l) : Prop := WPh TB k2v 24 0 k54 (kfe o) (ky.st TB x) (retTQ TB k2v ky k5m o)
set_option maxRecDepth 100000 in
theorem kon (o : k3l) : OblH TB k2v 24 0 k54 (kfe o) (retTQ TB k2v ky k5m o) :=
  OblH.of_eq (X := (True ∧ ((True ∧ (∀ i, (k4n o) i = (kf0 o) i) ∧ ((True ∧ True) ∧ True)) ∧ (True ∧ True)))) (by kernel_rfl) ⟨trivial, ⟨⟨trivial, fun _ => propext ⟨fun h => h.1, fun h => ⟨h⟩⟩, ⟨⟨trivial, trivial⟩, trivial⟩⟩, ⟨trivial, trivial⟩⟩⟩
set_option maxRecDepth 100000 in
theorem ko5 {x : kh7} {o : k3l} (h : k8j x o) : SoundH Try.prog ky.f ((ky.args idf x).map (er TB)) ((ky.obs idf x).map (erO TB)) (er TB (ky.val idf o)) ((ky.ops idf o).map (erO TB)) :=
  Con.soundH (c := ky) (C := k2v) TBok ⟨inf_ok, (all_cons krg (all_cons kst (all_cons kam (all_cons kq5 (all_cons kaa (all_cons kmw all_nil)))))), all_nil⟩ mix Try.func3 (show Try.f3.body = some k54 by kernel_rfl) (show Try.f3.ntmps = 24 by kernel_rfl) (show Try.f3.results.toList = k5m by kernel_rfl) rfl h (kon o)
set_option maxRecDepth 100000 in
theorem kr1 {p0 : TWitness} {r0 : Bool} (h :
(((!true) = true →
 k4n (r0, ()) (true, p0.Ins, p0.Outs, p0.Secret, ())) ∧
((!true) = false →
(p0.Ins.length ≤ 9223372036854775807) ∧ let r1 : Bool := (smallW (TStatement.mk 0 0 ([] : List Int) ([] : List Int) ([] : List Int) 0 0 0 0 0) p0)
 k4n (r0, ()) (((!r1) : Bool), p0.Ins, p0.Outs, p0.Secret, ())))) : k8j (p0.Ins, p0.Outs, p0.Secret, ()) (r0, ()) := WPh.of_eq (by kernel_rfl) h
set_option maxRecDepth 100000 in
theorem km7 {r0 : Bool} {s10 : Bool} {h0_0 : List TSpent} {h0_1 : List TNote} {h0_2 : Int} (h :
((s10 = true →
 true = r0) ∧
(s10 = false →
((TWitness.mk h0_0 h0_1 h0_2).Ins.length ≤ 9223372036854775807) ∧ ((TWitness.mk h0_0 h0_1 h0_2).Ins.length ≤ 9223372036854775807) ∧ let v2 : Bool := ((inS (TWitness.mk h0_0 h0_1 h0_2).Ins) == (inS (TWitness.mk h0_0 h0_1 h0_2).Ins))
(v2 = true →
((TWitness.mk h0_0 h0_1 h0_2).Outs.length ≤ 9223372036854775807) ∧ ((TWitness.mk h0_0 h0_1 h0_2).Outs.length ≤ 9223372036854775807) ∧ let v3 : Bool := ((outS (TWitness.mk h0_0 h0_1 h0_2).Outs) == (outS (TWitness.mk h0_0 h0_1 h0_2).Outs))
 v3 = r0) ∧
(v2 = false →
 false = r0)))) : k4n (r0, ()) (s10, h0_0, h0_1, h0_2, ()) := ⟨mpr_of (by kernel_rfl) h⟩
theorem knc (p0 : TWitness) (h : p0.Ins.length ≤ 9223372036854775807 ∧ p0.Outs.length ≤ 9223372036854775807) : k8j (p0.Ins, p0.Outs, p0.Secret, ()) ((true : Bool), ()) := by
  obtain ⟨h1, h2⟩ := h
  have j1 : ∀ s, k4n (true, ()) (s, p0.Ins, p0.Outs, p0.Secret, ()) := by
    intro s
    refine km7 ⟨fun _ => rfl, fun _ => ⟨h1, h1, fun _ => ⟨h2, h2, ?_⟩, fun e => ?_⟩⟩
    · simp
    · simp at e
  exact kr1 ⟨fun _ => j1 _, fun _ => ⟨h1, j1 _⟩⟩
end Go.Proofs.Ytpffhgljgpjenaa
namespace Go.Proofs.Ytpffhgljgpjenaa
open Go Go.Bv Go.Cv Go.Md Go.RowKit
def kj : Con TB.den := Con.mk0 4 [.agg [.d (.int .i64), .d (.int .u64), .d (.sl (.int .u64)), .d (.sl (.int .u64)), .d (.sl (.int .u64)), .d (.int .u64), .d (.int .u64), .d (.int .u64), .d (.int .u64), .d (.int .u64)], .agg [.d (.sl (.st 0)), .d (.sl (.st 1)), .d (.int .u64)], .one (.d (.int .u64))] [] (.one (.one (.d (.bool)))) []
abbrev kdw := HL TB.den (hsT kj.ins (hsOs kj.pre))
abbrev k2y := HL TB.den (hsV kj.res (hsOs kj.post))
noncomputable def k26 : Cx TB := ⟨inf, [khv, khw, kea, kas, kgm, kev], [], 4⟩
noncomputable def k47 : Code := Try.f4.body.getD .skip
noncomputable def k4r : List ResultVar := Try.f4.results.toList
noncomputable def klt (o : k2y) : Exit → TSt TB.den → Prop := thenT TB (fun s => ghs TB [] s fun s => WP TB k26 65 0 (cB (cB k47)) .no s (retTQ TB k26 kj k4r o)) (retTQ TB k26 kj k4r o)
def k5h : Tm := ⟨[0, 1], [.cells [.d (.int .i64), .d (.int .u64), .d (.sl (.int .u64)), .d (.sl (.int .u64)), .d (.sl (.int .u64)), .d (.int .u64), .d (.int .u64), .d (.int .u64), .d (.int .u64), .d (.int .u64)], .cells [.d (.sl (.st 0)), .d (.sl (.st 1)), .d (.int .u64)]], [2, 3, 4, 17], [.one (.d (.int .u64)), .one (.ptr 0 0), .one (.ptr 1 0), .one (.d (.bool))], 2⟩
noncomputable def kby (o : k2y) (i : HL TB.den k5h.hs) : Prop := ghs TB [] (k5h.fill TB i) fun s => WP TB k26 65 0 (cB (cA (cB k47))) .no s (klt o)
structure k3v (o : k2y) (i : HL TB.den k5h.hs) : Prop where
  h : kby o i
noncomputable def kmh (o : k2y) : An TB := .jn k5h (k3v o) [] .no [] .no
noncomputable def kcp (o : k2y) : An TB := .nd [] .no [] (.nd [] (kmh o) [] .no)
noncomputable def k7f (x : kdw) (o : k2y) : Prop := WPh TB k26 65 0 k47 (kcp o) (kj.st TB x) (retTQ TB k26 kj k4r o)
set_option maxRecDepth 100000 in
theorem kkh (o : k2y) : OblH TB k26 65 0 k47 (kcp o) (retTQ TB k26 kj k4r o) :=
  OblH.of_eq (X := (True ∧ ((True ∧ (∀ i, (k3v o) i = (kby o) i) ∧ ((True ∧ True) ∧ True)) ∧ (True ∧ ((True ∧ ((True ∧ True) ∧ True)) ∧ ((True ∧ ((True ∧ True) ∧ True)) ∧ (True ∧ (True ∧ (True ∧ (True ∧ True)))))))))) (by kernel_rfl) ⟨trivial, ⟨⟨trivial, fun _ => propext ⟨fun h => h.1, fun h => ⟨h⟩⟩, ⟨⟨trivial, trivial⟩, trivial⟩⟩, ⟨trivial, ⟨⟨trivial, ⟨⟨trivial, trivial⟩, trivial⟩⟩, ⟨⟨trivial, ⟨⟨trivial, trivial⟩, trivial⟩⟩, ⟨trivial, ⟨trivial, ⟨trivial, ⟨trivial, trivial⟩⟩⟩⟩⟩⟩⟩⟩⟩
set_option maxRecDepth 100000 in
theorem kkg {x : kdw} {o : k2y} (h : k7f x o) : SoundH Try.prog kj.f ((kj.args idf x).map (er TB)) ((kj.obs idf x).map (erO TB)) (er TB (kj.val idf o)) ((kj.ops idf o).map (erO TB)) :=
  Con.soundH (c := kj) (C := k26) TBok ⟨inf_ok, (all_cons krg (all_cons kst (all_cons kni (all_cons kic (all_cons kq5 (all_cons kmw all_nil)))))), all_nil⟩ mix Try.func4 (show Try.f4.body = some k47 by kernel_rfl) (show Try.f4.ntmps = 65 by kernel_rfl) (show Try.f4.results.toList = k4r by kernel_rfl) rfl h (kkh o)
set_option maxRecDepth 100000 in
theorem km2 {p0 : TStatement} {p1 : TWitness} {p2 : Int} {r0 : Bool} (h :
(((!true) = true →
 k3v (r0, ()) (p2, true, p0.Depth, p0.Anchor, p0.Marks, p0.Commits, p0.Rhos, p0.Deposit, p0.Withdraw, p0.Fee, p0.Account, p0.Bind, p1.Ins, p1.Outs, p1.Secret, ())) ∧
((!true) = false →
(p1.Ins.length ≤ 9223372036854775807) ∧ k3v (r0, ()) (p2, ((!(smallW p0 p1)) : Bool), p0.Depth, p0.Anchor, p0.Marks, p0.Commits, p0.Rhos, p0.Deposit, p0.Withdraw, p0.Fee, p0.Account, p0.Bind, p1.Ins, p1.Outs, p1.Secret, ())))) : k7f (p0.Depth, p0.Anchor, p0.Marks, p0.Commits, p0.Rhos, p0.Deposit, p0.Withdraw, p0.Fee, p0.Account, p0.Bind, p1.Ins, p1.Outs, p1.Secret, p2, ()) (r0, ()) := WPh.of_eq (by kernel_rfl) h
set_option maxRecDepth 100000 in
theorem kim {r0 : Bool} {s2 : Int} {s17 : Bool} {h0_0 : Int} {h0_1 : Int} {h0_2 : List Int} {h0_3 : List Int} {h0_4 : List Int} {h0_5 : Int} {h0_6 : Int} {h0_7 : Int} {h0_8 : Int} {h0_9 : Int} {h1_0 : List TSpent} {h1_1 : List TNote} {h1_2 : Int} (h :
((s17 = true →
 true = r0) ∧
(s17 = false →
(SR (TStatement.mk h0_0 h0_1 h0_2 h0_3 h0_4 h0_5 h0_6 h0_7 h0_8 h0_9) ∧ WR (TWitness.mk h1_0 h1_1 h1_2) ∧ OrOk [] [] [] ∧ (∀ l a, (pk false [] [] []) l a = none ∨ ∃ n, (pk false [] [] []) l a = some n ∧ U64 n)) ∧ let r1 : Int := (checkS (pk false [] [] []) (TStatement.mk h0_0 h0_1 h0_2 h0_3 h0_4 h0_5 h0_6 h0_7 h0_8 h0_9) (TWitness.mk h1_0 h1_1 h1_2))
((r1 != 0) = true →
 true = r0) ∧
((r1 != 0) = false →
 let v2 : Int := Int.tmod (IntKind.u64.wrap (h0_7 + 1)) 4294967296
((TWitness.mk h1_0 h1_1 h1_2).Ins.length ≤ 9223372036854775807) ∧ let v3 : Int := IntKind.u64.wrap ((inS (TWitness.mk h1_0 h1_1 h1_2).Ins) + h0_5)
((TWitness.mk h1_0 h1_1 h1_2).Outs.length ≤ 9223372036854775807) ∧ let v4 : Int := IntKind.u64.wrap ((outS (TWitness.mk h1_0 h1_1 h1_2).Outs) + h0_6)
((v3 == (IntKind.u64.wrap (v4 + h0_7))) = true →
(SR (TStatement.mk h0_0 h0_1 h0_2 h0_3 h0_4 h0_5 h0_6 h0_7 h0_8 (Int.tmod s2 18446744069414584321)) ∧ WR (TWitness.mk h1_0 h1_1 h1_2) ∧ OrOk [] [] [] ∧ (∀ l a, (pk false [] [] []) l a = none ∨ ∃ n, (pk false [] [] []) l a = some n ∧ U64 n)) ∧ let r5 : Int := (checkS (pk false [] [] []) (TStatement.mk h0_0 h0_1 h0_2 h0_3 h0_4 h0_5 h0_6 h0_7 h0_8 (Int.tmod s2 18446744069414584321)) (TWitness.mk h1_0 h1_1 h1_2))
((r5 == 0) = true →
(SR (TStatement.mk h0_0 h0_1 h0_2 h0_3 h0_4 h0_5 h0_6 v2 h0_8 h0_9) ∧ WR (TWitness.mk h1_0 h1_1 h1_2) ∧ OrOk [] [] [] ∧ (∀ l a, (pk false [] [] []) l a = none ∨ ∃ n, (pk false [] [] []) l a = some n ∧ U64 n)) ∧ let r6 : Int := (checkS (pk false [] [] []) (TStatement.mk h0_0 h0_1 h0_2 h0_3 h0_4 h0_5 h0_6 v2 h0_8 h0_9) (TWitness.mk h1_0 h1_1 h1_2))
(r6 == 13) = r0) ∧
((r5 == 0) = false →
 false = r0)) ∧
((v3 == (IntKind.u64.wrap (v4 + h0_7))) = false →
 false = r0))))) : k3v (r0, ()) (s2, s17, h0_0, h0_1, h0_2, h0_3, h0_4, h0_5, h0_6, h0_7, h0_8, h0_9, h1_0, h1_1, h1_2, ()) := ⟨mpr_of (by kernel_rfl) h⟩
theorem kjd (p0 : TStatement) (p1 : TWitness) (p2 : Int) (h : SQ p0 ∧ WQ p1 ∧ U64 p2) : k7f (p0.Depth, p0.Anchor, p0.Marks, p0.Commits, p0.Rhos, p0.Deposit, p0.Withdraw, p0.Fee, p0.Account, p0.Bind, p1.Ins, p1.Outs, p1.Secret, p2, ()) ((true : Bool), ()) := by
  obtain ⟨hs, hw, h2⟩ := h
  have k : ∀ l a, pk false [] [] [] l a = none ∨ ∃ n, pk false [] [] [] l a = some n ∧ U64 n := by rw [pk_nil]; exact fun _ _ => pkR_u
  have j1 : ∀ s, (s = false → smallW p0 p1 = true) → k3v (true, ()) (p2, s, p0.Depth, p0.Anchor, p0.Marks, p0.Commits, p0.Rhos, p0.Deposit, p0.Withdraw, p0.Fee, p0.Account, p0.Bind, p1.Ins, p1.Outs, p1.Secret, ()) := by
    intro s hsm
    refine kim ⟨fun _ => by first | rfl | exact True.intro, fun e => ?_⟩
    have sm := hsm e
    have hsr := hs.sr sm
    have hwr := hw.wr sm
    simp only [kmv, kta, u64w]
    refine ⟨⟨hsr, hwr, kj6, k⟩, fun _ => by first | rfl | exact True.intro, fun e2 => ?_⟩
    have e2 : checkS (pk false [] [] []) p0 p1 = 0 := by simpa using e2
    have hb := (ka2.1 e2).2.2.2.2
    have hf := (kdc.1 (ka2.1 e2).1).2.2.2.2.2.1
    have hf0 := hs.f
    have il := hwr.il
    have ol := hwr.ol
    have et : Int.tmod ((p0.Fee + 1) % 18446744073709551616) 4294967296 = (p0.Fee + 1) % 4294967296 := by rw [tmod_nn _ _ (by omega)]; omega
    have eb : Int.tmod p2 18446744069414584321 = p2 % 18446744069414584321 := tmod_nn _ _ h2.1
    refine ⟨by omega, by omega, fun _ => ⟨⟨?_, hwr, kj6, k⟩, fun _ => ⟨⟨?_, hwr, kj6, k⟩, ?_⟩, fun e4 => ?_⟩, fun e3 => ?_⟩
    · rw [eb]
      exact ⟨hsr.d, hsr.a, hsr.m, hsr.ml, hsr.c, hsr.cl, hsr.r, hsr.rl, hsr.de, hsr.wi, hsr.f, hsr.ac, ⟨Int.emod_nonneg _ (by omega), Int.lt_trans (Int.emod_lt_of_pos _ (by omega)) (by omega)⟩⟩
    · rw [et]
      exact ⟨hsr.d, hsr.a, hsr.m, hsr.ml, hsr.c, hsr.cl, hsr.r, hsr.rl, hsr.de, hsr.wi, ⟨Int.emod_nonneg _ (by omega), Int.lt_trans (Int.emod_lt_of_pos _ (by omega)) (by omega)⟩, hsr.ac, hsr.b⟩
    · rw [et, k17u e2 hf0 rfl]; rfl
    · rw [eb, k16o e2 (Int.emod_lt_of_pos _ (by omega))] at e4
      simp at e4
    · rw [hb] at e3
      simp at e3
  exact km2 ⟨fun h => j1 _ (by simp), fun _ => ⟨hw.il, j1 _ (by simp)⟩⟩
end Go.Proofs.Ytpffhgljgpjenaa
