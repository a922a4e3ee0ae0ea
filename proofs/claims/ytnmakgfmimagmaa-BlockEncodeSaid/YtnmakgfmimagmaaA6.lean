/-
  Parts of the proofs that the laws of this seat hold of every input, merged by a program: a machine over pure data that is sound for the model, what each function of the translation does in it, and plain lemmas. No conditions but those in each theorem.
-/
import Derived.Test.YtnmakgfmimagmaaA5
set_option linter.all false
namespace Go.Proofs.Ytnmakgfmimagmaa
open Go Go.Bv Go.Cv Go.Md Go.RowKit
def k1h : Con TB.den := Con.mk0 15 [.agg [.d (.int .u64), .d (.sl (.int .u64)), .d (.sl (.st 0)), .d (.int .u64), .d (.int .u64), .d (.int .u64), .d (.int .u64), .d (.int .u64), .d (.int .i64), .d (.sl (.int .u8))]] [] (.one (.one (.d (.int .i64)))) []
abbrev k148 := HL TB.den (hsT k1h.ins (hsOs k1h.pre))
abbrev k1r := HL TB.den (hsV k1h.res (hsOs k1h.post))
noncomputable def k22 : Cx TB := ⟨inf, [ks7, kxh], [], 4⟩
noncomputable def k4h : Code := Try.f15.body.getD .skip
noncomputable def k6t : List ResultVar := Try.f15.results.toList
def ke8 : Tm := ⟨[0], [.cells [.d (.int .u64), .d (.sl (.int .u64)), .d (.sl (.st 0)), .d (.int .u64), .d (.int .u64), .d (.int .u64), .d (.int .u64), .d (.int .u64), .d (.int .i64), .d (.sl (.int .u8))]], [1], [.one (.ptr 0 0)], 2⟩
noncomputable def kxl (o : k1r) (i : HL TB.den ke8.hs) : Prop := ghs TB [] (ke8.fill TB i) fun s => WP TB k22 149 0 (cB (cB (cB (cB (cB (cB k4h)))))) .no s (retTQ TB k22 k1h k6t o)
structure k8c (o : k1r) (i : HL TB.den ke8.hs) : Prop where
  h : kxl o i
def kio : Tm := ⟨[0], [.cells [.d (.int .u64), .d (.sl (.int .u64)), .d (.sl (.st 0)), .d (.int .u64), .d (.int .u64), .d (.int .u64), .d (.int .u64), .d (.int .u64), .d (.int .i64), .d (.sl (.int .u8))]], [1], [.one (.ptr 0 0)], 2⟩
noncomputable def kyb (o : k1r) (i : HL TB.den kio.hs) : Prop := ghs TB [] (kio.fill TB i) fun s => WP TB k22 149 0 (cB (cB (cB (cB (cB k4h))))) (.jn ke8 (k8c o) [] .no [] .no) s (retTQ TB k22 k1h k6t o)
structure kcf (o : k1r) (i : HL TB.den kio.hs) : Prop where
  h : kyb o i
noncomputable def kpk (o : k1r) : An TB := .jn kio (kcf o) [] .no [] (.jn ke8 (k8c o) [] .no [] .no)
noncomputable def k1li (o : k1r) : Exit → TSt TB.den → Prop := thenT TB (fun s => ghs TB [] s fun s => WP TB k22 149 0 (cB (cB (cB (cB k4h)))) (kpk o) s (retTQ TB k22 k1h k6t o)) (retTQ TB k22 k1h k6t o)
def ka0 : Tm := ⟨[0], [.cells [.d (.int .u64), .d (.sl (.int .u64)), .d (.sl (.st 0)), .d (.int .u64), .d (.int .u64), .d (.int .u64), .d (.int .u64), .d (.int .u64), .d (.int .i64), .d (.sl (.int .u8))]], [1, 5], [.one (.ptr 0 0), .one (.d (.int .i64))], 2⟩
noncomputable def k1je (o : k1r) (nx3 : HL TB.den ka0.hs → Prop) : Exit → TSt TB.den → Prop := thenT TB (fun s => ka0.mat TB 0 s nx3) (blockT TB 4 (k1li o))
noncomputable def kfj (o : k1r) (nx3 : HL TB.den ka0.hs → Prop) (i : HL TB.den ka0.hs) : Prop := WP TB k22 149 0 (cA (cA (cB (cA (cB (cB (cB k4h))))))) .no (ka0.fill TB i) (k1je o nx3)
noncomputable def kxe (o : k1r) : An TB := .nd [] .no [] (.lp [] ka0 (kfj o) fun nx3 => .no)
noncomputable def k1gs (o : k1r) : Exit → TSt TB.den → Prop := thenT TB (fun s => ghs TB [] s fun s => WP TB k22 149 0 (cB (cB (cB k4h))) (.nd [] (kxe o) [] (kpk o)) s (retTQ TB k22 k1h k6t o)) (retTQ TB k22 k1h k6t o)
def k42 : Tm := ⟨[0], [.cells [.d (.int .u64), .d (.sl (.int .u64)), .d (.sl (.st 0)), .d (.int .u64), .d (.int .u64), .d (.int .u64), .d (.int .u64), .d (.int .u64), .d (.int .i64), .d (.sl (.int .u8))]], [1, 3], [.one (.ptr 0 0), .one (.d (.int .i64))], 2⟩
noncomputable def koe (o : k1r) (nx2 : HL TB.den k42.hs → Prop) : Exit → TSt TB.den → Prop := thenT TB (fun s => k42.mat TB 0 s nx2) (blockT TB 0 (k1gs o))
noncomputable def k1fo (o : k1r) (nx2 : HL TB.den k42.hs → Prop) : Exit → TSt TB.den → Prop := thenT TB (fun s => ghs TB [] s fun s => WP TB k22 149 0 (cB (cB (cA (cA (cB (cA (cB (cB k4h)))))))) .no s (koe o nx2)) (koe o nx2)
def kag : Tm := ⟨[0], [.cells [.d (.int .u64), .d (.sl (.int .u64)), .d (.sl (.st 0)), .d (.int .u64), .d (.int .u64), .d (.int .u64), .d (.int .u64), .d (.int .u64), .d (.int .i64), .d (.sl (.int .u8))]], [1, 3, 4], [.one (.ptr 0 0), .one (.d (.int .i64)), .one (.d (.int .i64))], 2⟩
noncomputable def k1h3 (o : k1r) (nx2 : HL TB.den k42.hs → Prop) (nx1 : HL TB.den kag.hs → Prop) : Exit → TSt TB.den → Prop := thenT TB (fun s => kag.mat TB 0 s nx1) (blockT TB 2 (blockT TB 1 (k1fo o nx2)))
noncomputable def kfp (o : k1r) (nx2 : HL TB.den k42.hs → Prop) (nx1 : HL TB.den kag.hs → Prop) (i : HL TB.den kag.hs) : Prop := WP TB k22 149 0 (cA (cA (cB (cA (cA (cB (cA (cA (cB (cA (cB (cB k4h)))))))))))) .no (kag.fill TB i) (k1h3 o nx2 nx1)
noncomputable def kxg (o : k1r) (nx2 : HL TB.den k42.hs → Prop) : An TB := .nd [] .no [] (.lp [] kag (kfp o nx2) fun nx1 => .no)
noncomputable def kfs (o : k1r) (nx2 : HL TB.den k42.hs → Prop) (i : HL TB.den k42.hs) : Prop := WP TB k22 149 0 (cA (cA (cB (cA (cB (cB k4h)))))) (.nd [] .no [] (.nd [] (kxg o nx2) [] .no)) (k42.fill TB i) (koe o nx2)
noncomputable def k1ga (o : k1r) : An TB := .lp [] k42 (kfs o) fun nx2 => (.nd [] .no [] (.nd [] (kxg o nx2) [] .no))
noncomputable def k1gn (o : k1r) : An TB := .nd [] (.nd [] .no [] (k1ga o)) [] (.nd [] (kxe o) [] (kpk o))
noncomputable def k10a (o : k1r) : An TB := .nd [] .no [] (.nd [] .no [] (k1gn o))
noncomputable def km8 (x : k148) (o : k1r) : Prop := WPh TB k22 149 0 k4h (k10a o) (k1h.st TB x) (retTQ TB k22 k1h k6t o)
set_option maxRecDepth 100000 in
theorem k1fq (o : k1r) : OblH TB k22 149 0 k4h (k10a o) (retTQ TB k22 k1h k6t o) :=
  OblH.of_eq (X := (True ∧ ((True ∧ ((True ∧ True) ∧ True)) ∧ ((True ∧ ((∀ nx i, (kfs o) nx i = (kfs o) nx i) ∧ ∀ nx2 : HL TB.den k42.hs → Prop, ((True ∧ (True ∧ True)) ∧ ((True ∧ ((∀ nx i, (kfp o nx2) nx i = (kfp o nx2) nx i) ∧ ∀ nx1 : HL TB.den kag.hs → Prop, ((True ∧ (True ∧ True)) ∧ ((True ∧ ((True ∧ True) ∧ True)) ∧ True)))) ∧ True)))) ∧ ((True ∧ ((∀ nx i, (kfj o) nx i = (kfj o) nx i) ∧ ∀ nx3 : HL TB.den ka0.hs → Prop, ((True ∧ (True ∧ True)) ∧ ((True ∧ (True ∧ ((True ∧ True) ∧ True))) ∧ True)))) ∧ ((True ∧ ((True ∧ True) ∧ True)) ∧ (∀ i, (kcf o) i = (kyb o) i) ∧ ((True ∧ ((True ∧ True) ∧ True)) ∧ (∀ i, (k8c o) i = (kxl o) i) ∧ ((True ∧ ((True ∧ True) ∧ True)) ∧ ((True ∧ ((True ∧ True) ∧ True)) ∧ (True ∧ True)))))))))) (by kernel_rfl) ⟨trivial, ⟨⟨trivial, ⟨⟨trivial, trivial⟩, trivial⟩⟩, ⟨⟨trivial, ⟨fun _ _ => rfl, fun _ => ⟨⟨trivial, ⟨trivial, trivial⟩⟩, ⟨⟨trivial, ⟨fun _ _ => rfl, fun _ => ⟨⟨trivial, ⟨trivial, trivial⟩⟩, ⟨⟨trivial, ⟨⟨trivial, trivial⟩, trivial⟩⟩, trivial⟩⟩⟩⟩, trivial⟩⟩⟩⟩, ⟨⟨trivial, ⟨fun _ _ => rfl, fun _ => ⟨⟨trivial, ⟨trivial, trivial⟩⟩, ⟨⟨trivial, ⟨trivial, ⟨⟨trivial, trivial⟩, trivial⟩⟩⟩, trivial⟩⟩⟩⟩, ⟨⟨trivial, ⟨⟨trivial, trivial⟩, trivial⟩⟩, fun _ => propext ⟨fun h => h.1, fun h => ⟨h⟩⟩, ⟨⟨trivial, ⟨⟨trivial, trivial⟩, trivial⟩⟩, fun _ => propext ⟨fun h => h.1, fun h => ⟨h⟩⟩, ⟨⟨trivial, ⟨⟨trivial, trivial⟩, trivial⟩⟩, ⟨⟨trivial, ⟨⟨trivial, trivial⟩, trivial⟩⟩, ⟨trivial, trivial⟩⟩⟩⟩⟩⟩⟩⟩⟩
set_option maxRecDepth 100000 in
theorem k1fe {x : k148} {o : k1r} (h : km8 x o) : SoundH Try.prog k1h.f ((k1h.args idf x).map (er TB)) ((k1h.obs idf x).map (erO TB)) (er TB (k1h.val idf o)) ((k1h.ops idf o).map (erO TB)) :=
  Con.soundH (c := k1h) (C := k22) TBok ⟨inf_ok, (all_cons k1b6 (all_cons k1kd all_nil)), all_nil⟩ mix Try.func15 (show Try.f15.body = some k4h by kernel_rfl) (show Try.f15.ntmps = 149 by kernel_rfl) (show Try.f15.results.toList = k6t by kernel_rfl) rfl h (k1fq o)
set_option maxRecDepth 100000 in
theorem k1l2 {p0 : TTx} {r0 : Int} (h :
((decide (4 < (p0.Marks.length : Int)) = true →
 1 = r0) ∧
(decide (4 < (p0.Marks.length : Int)) = false →
(decide (4 < (p0.Outs.length : Int)) = true →
 1 = r0) ∧
(decide (4 < (p0.Outs.length : Int)) = false →
(p0.Marks.length ≤ 9223372036854775807) ∧ let r1 : Bool := p0.Marks.all (fun x => decide (x < 18446744069414584321))
((!r1) = true →
 1 = r0) ∧
((!r1) = false →
([p0.Anchor, p0.Account, p0.Nonce].length ≤ 9223372036854775807) ∧ let r2 : Bool := [p0.Anchor, p0.Account, p0.Nonce].all (fun x => decide (x < 18446744069414584321))
((!r2) = true →
 1 = r0) ∧
((!r2) = false →
 Md.Loop ((0 : Int), p0.Anchor, p0.Marks, p0.Outs, p0.Deposit, p0.Withdraw, p0.Fee, p0.Account, p0.Nonce, p0.Expiry, p0.Proof, ()) (kfs (r0, ())))))))) : km8 (p0.Anchor, p0.Marks, p0.Outs, p0.Deposit, p0.Withdraw, p0.Fee, p0.Account, p0.Nonce, p0.Expiry, p0.Proof, ()) (r0, ()) := WPh.of_eq (by kernel_rfl) h
set_option maxRecDepth 100000 in
theorem k1a6 {r0 : Int} {h0_0 : Int} {h0_1 : List Int} {h0_2 : List TOut} {h0_3 : Int} {h0_4 : Int} {h0_5 : Int} {h0_6 : Int} {h0_7 : Int} {h0_8 : Int} {h0_9 : List Int} (h :
(((h0_3 == 0) = true →
((h0_7 != 0) = true →
 1 = r0) ∧
((h0_7 != 0) = false →
(((h0_1.length : Int) == 0) = true →
 1 = r0) ∧
(((h0_1.length : Int) == 0) = false →
((h0_4 == 0) = true →
((h0_6 != 0) = true →
 1 = r0) ∧
((h0_6 != 0) = false →
 k8c (r0, ()) (h0_0, h0_1, h0_2, h0_3, h0_4, h0_5, h0_6, h0_7, h0_8, h0_9, ()))) ∧
((h0_4 == 0) = false →
 k8c (r0, ()) (h0_0, h0_1, h0_2, h0_3, h0_4, h0_5, h0_6, h0_7, h0_8, h0_9, ()))))) ∧
((h0_3 == 0) = false →
 k8c (r0, ()) (h0_0, h0_1, h0_2, h0_3, h0_4, h0_5, h0_6, h0_7, h0_8, h0_9, ())))) : kcf (r0, ()) (h0_0, h0_1, h0_2, h0_3, h0_4, h0_5, h0_6, h0_7, h0_8, h0_9, ()) := ⟨mpr_of (by kernel_rfl) h⟩
set_option maxRecDepth 100000 in
theorem k1av {r0 : Int} {h0_0 : Int} {h0_1 : List Int} {h0_2 : List TOut} {h0_3 : Int} {h0_4 : Int} {h0_5 : Int} {h0_6 : Int} {h0_7 : Int} {h0_8 : Int} {h0_9 : List Int} (h :
((decide (h0_8 < 0) = true →
 1 = r0) ∧
(decide (h0_8 < 0) = false →
(decide (1048576 < h0_8) = true →
 1 = r0) ∧
(decide (1048576 < h0_8) = false →
(decide (1048576 < (h0_9.length : Int)) = true →
 3 = r0) ∧
(decide (1048576 < (h0_9.length : Int)) = false →
 0 = r0))))) : k8c (r0, ()) (h0_0, h0_1, h0_2, h0_3, h0_4, h0_5, h0_6, h0_7, h0_8, h0_9, ()) := ⟨mpr_of (by kernel_rfl) h⟩
def k11m (r0 : Int) (nx2 : HL TB.den k42.hs → Prop) (k2 : Int → Prop) (h0_0 : Int) (h0_1 : List Int) (h0_2 : List TOut) (h0_3 : Int) (h0_4 : Int) (h0_5 : Int) (h0_6 : Int) (h0_7 : Int) (h0_8 : Int) (h0_9 : List Int) (s3 : Int) : Prop :=
(decide (s3 < (h0_1.length : Int)) = true →
 Md.Loop (s3, (0 : Int), h0_0, h0_1, h0_2, h0_3, h0_4, h0_5, h0_6, h0_7, h0_8, h0_9, ()) (kfp (r0, ()) nx2)) ∧
(decide (s3 < (h0_1.length : Int)) = false →
 Md.Loop ((0 : Int), h0_0, h0_1, h0_2, h0_3, h0_4, h0_5, h0_6, h0_7, h0_8, h0_9, ()) (kfj (r0, ())))
set_option maxRecDepth 100000 in
theorem k1ho {r0 : Int} {h0_0 : Int} {h0_1 : List Int} {h0_2 : List TOut} {h0_3 : Int} {h0_4 : Int} {h0_5 : Int} {h0_6 : Int} {h0_7 : Int} {h0_8 : Int} {h0_9 : List Int} {s3 : Int} (inv : Int → Prop) (μ : Int → Nat) (h0 : inv s3) (hs : ∀ (s3 : Int), inv s3 → k11m r0 (fun s : Int × Int × (List Int) × (List TOut) × Int × Int × Int × Int × Int × Int × (List Int) × Unit => ((s.2.1 = h0_0 ∧ s.2.2.1 = h0_1 ∧ s.2.2.2.1 = h0_2 ∧ s.2.2.2.2.1 = h0_3 ∧ s.2.2.2.2.2.1 = h0_4 ∧ s.2.2.2.2.2.2.1 = h0_5 ∧ s.2.2.2.2.2.2.2.1 = h0_6 ∧ s.2.2.2.2.2.2.2.2.1 = h0_7 ∧ s.2.2.2.2.2.2.2.2.2.1 = h0_8 ∧ s.2.2.2.2.2.2.2.2.2.2.1 = h0_9) ∧ inv s.1) ∧ μ s.1 < μ s3) (fun s3q => inv s3q ∧ μ s3q < μ s3) h0_0 h0_1 h0_2 h0_3 h0_4 h0_5 h0_6 h0_7 h0_8 h0_9 s3) : Md.Loop (s3, h0_0, h0_1, h0_2, h0_3, h0_4, h0_5, h0_6, h0_7, h0_8, h0_9, ()) (kfs (r0, ())) :=
  ⟨⟨fun s : Int × Int × (List Int) × (List TOut) × Int × Int × Int × Int × Int × Int × (List Int) × Unit => (s.2.1 = h0_0 ∧ s.2.2.1 = h0_1 ∧ s.2.2.2.1 = h0_2 ∧ s.2.2.2.2.1 = h0_3 ∧ s.2.2.2.2.2.1 = h0_4 ∧ s.2.2.2.2.2.2.1 = h0_5 ∧ s.2.2.2.2.2.2.2.1 = h0_6 ∧ s.2.2.2.2.2.2.2.2.1 = h0_7 ∧ s.2.2.2.2.2.2.2.2.2.1 = h0_8 ∧ s.2.2.2.2.2.2.2.2.2.2.1 = h0_9) ∧ inv s.1, fun s : Int × Int × (List Int) × (List TOut) × Int × Int × Int × Int × Int × Int × (List Int) × Unit => μ s.1, ⟨⟨rfl, rfl, rfl, rfl, rfl, rfl, rfl, rfl, rfl, rfl⟩, h0⟩, fun (s3p, h0_0p, h0_1p, h0_2p, h0_3p, h0_4p, h0_5p, h0_6p, h0_7p, h0_8p, h0_9p, ()) ⟨⟨eq0, eq1, eq2, eq3, eq4, eq5, eq6, eq7, eq8, eq9⟩, hi⟩ => by
    have eq0 : h0_0p = h0_0 := eq0; subst h0_0p; have eq1 : h0_1p = h0_1 := eq1; subst h0_1p; have eq2 : h0_2p = h0_2 := eq2; subst h0_2p; have eq3 : h0_3p = h0_3 := eq3; subst h0_3p; have eq4 : h0_4p = h0_4 := eq4; subst h0_4p; have eq5 : h0_5p = h0_5 := eq5; subst h0_5p; have eq6 : h0_6p = h0_6 := eq6; subst h0_6p; have eq7 : h0_7p = h0_7 := eq7; subst h0_7p; have eq8 : h0_8p = h0_8 := eq8; subst h0_8p; have eq9 : h0_9p = h0_9 := eq9; subst h0_9p; exact mpr_of (by kernel_rfl) ((congrArg (fun k => k11m r0 (fun s : Int × Int × (List Int) × (List TOut) × Int × Int × Int × Int × Int × Int × (List Int) × Unit => ((s.2.1 = h0_0 ∧ s.2.2.1 = h0_1 ∧ s.2.2.2.1 = h0_2 ∧ s.2.2.2.2.1 = h0_3 ∧ s.2.2.2.2.2.1 = h0_4 ∧ s.2.2.2.2.2.2.1 = h0_5 ∧ s.2.2.2.2.2.2.2.1 = h0_6 ∧ s.2.2.2.2.2.2.2.2.1 = h0_7 ∧ s.2.2.2.2.2.2.2.2.2.1 = h0_8 ∧ s.2.2.2.2.2.2.2.2.2.2.1 = h0_9) ∧ inv s.1) ∧ μ s.1 < μ s3p) k h0_0 h0_1 h0_2 h0_3 h0_4 h0_5 h0_6 h0_7 h0_8 h0_9 s3p) (lpk1 (⟨rfl, rfl, rfl, rfl, rfl, rfl, rfl, rfl, rfl, rfl⟩ : h0_0 = h0_0 ∧ h0_1 = h0_1 ∧ h0_2 = h0_2 ∧ h0_3 = h0_3 ∧ h0_4 = h0_4 ∧ h0_5 = h0_5 ∧ h0_6 = h0_6 ∧ h0_7 = h0_7 ∧ h0_8 = h0_8 ∧ h0_9 = h0_9) inv (fun s3q => μ s3q < μ s3p))).mpr (hs s3p hi))⟩⟩
def k12d (r0 : Int) (nx2 : HL TB.den k42.hs → Prop) (k1 : Int → Prop) (s3 : Int) (h0_0 : Int) (h0_1 : List Int) (h0_2 : List TOut) (h0_3 : Int) (h0_4 : Int) (h0_5 : Int) (h0_6 : Int) (h0_7 : Int) (h0_8 : Int) (h0_9 : List Int) (s4 : Int) : Prop :=
(decide (s4 < s3) = true →
(0 ≤ s3) ∧ s3 < (h0_1.length : Int) ∧ (0 ≤ s4) ∧ s4 < (h0_1.length : Int) ∧ (((ix h0_1 s3) == (ix h0_1 s4)) = true →
 1 = r0) ∧
(((ix h0_1 s3) == (ix h0_1 s4)) = false →
 k1 (IntKind.i64.wrap (s4 + 1) : Int))) ∧
(decide (s4 < s3) = false →
 nx2 ((IntKind.i64.wrap (s3 + 1) : Int), h0_0, h0_1, h0_2, h0_3, h0_4, h0_5, h0_6, h0_7, h0_8, h0_9, ()))
set_option maxRecDepth 100000 in
theorem k1hu {r0 : Int} {nx2 : HL TB.den k42.hs → Prop} {s3 : Int} {h0_0 : Int} {h0_1 : List Int} {h0_2 : List TOut} {h0_3 : Int} {h0_4 : Int} {h0_5 : Int} {h0_6 : Int} {h0_7 : Int} {h0_8 : Int} {h0_9 : List Int} {s4 : Int} (inv : Int → Prop) (μ : Int → Nat) (h0 : inv s4) (hs : ∀ (s4 : Int), inv s4 → k12d r0 nx2 (fun s4q => inv s4q ∧ μ s4q < μ s4) s3 h0_0 h0_1 h0_2 h0_3 h0_4 h0_5 h0_6 h0_7 h0_8 h0_9 s4) : Md.Loop (s3, s4, h0_0, h0_1, h0_2, h0_3, h0_4, h0_5, h0_6, h0_7, h0_8, h0_9, ()) (kfp (r0, ()) nx2) :=
  ⟨⟨fun s : Int × Int × Int × (List Int) × (List TOut) × Int × Int × Int × Int × Int × Int × (List Int) × Unit => (s.1 = s3 ∧ s.2.2.1 = h0_0 ∧ s.2.2.2.1 = h0_1 ∧ s.2.2.2.2.1 = h0_2 ∧ s.2.2.2.2.2.1 = h0_3 ∧ s.2.2.2.2.2.2.1 = h0_4 ∧ s.2.2.2.2.2.2.2.1 = h0_5 ∧ s.2.2.2.2.2.2.2.2.1 = h0_6 ∧ s.2.2.2.2.2.2.2.2.2.1 = h0_7 ∧ s.2.2.2.2.2.2.2.2.2.2.1 = h0_8 ∧ s.2.2.2.2.2.2.2.2.2.2.2.1 = h0_9) ∧ inv s.2.1, fun s : Int × Int × Int × (List Int) × (List TOut) × Int × Int × Int × Int × Int × Int × (List Int) × Unit => μ s.2.1, ⟨⟨rfl, rfl, rfl, rfl, rfl, rfl, rfl, rfl, rfl, rfl, rfl⟩, h0⟩, fun (s3p, s4p, h0_0p, h0_1p, h0_2p, h0_3p, h0_4p, h0_5p, h0_6p, h0_7p, h0_8p, h0_9p, ()) ⟨⟨eq0, eq1, eq2, eq3, eq4, eq5, eq6, eq7, eq8, eq9, eq10⟩, hi⟩ => by
    have eq0 : s3p = s3 := eq0; subst s3p; have eq1 : h0_0p = h0_0 := eq1; subst h0_0p; have eq2 : h0_1p = h0_1 := eq2; subst h0_1p; have eq3 : h0_2p = h0_2 := eq3; subst h0_2p; have eq4 : h0_3p = h0_3 := eq4; subst h0_3p; have eq5 : h0_4p = h0_4 := eq5; subst h0_4p; have eq6 : h0_5p = h0_5 := eq6; subst h0_5p; have eq7 : h0_6p = h0_6 := eq7; subst h0_6p; have eq8 : h0_7p = h0_7 := eq8; subst h0_7p; have eq9 : h0_8p = h0_8 := eq9; subst h0_8p; have eq10 : h0_9p = h0_9 := eq10; subst h0_9p; exact mpr_of (by kernel_rfl) ((congrArg (fun k => k12d r0 nx2 k s3 h0_0 h0_1 h0_2 h0_3 h0_4 h0_5 h0_6 h0_7 h0_8 h0_9 s4p) (lpk1 (⟨rfl, rfl, rfl, rfl, rfl, rfl, rfl, rfl, rfl, rfl, rfl⟩ : s3 = s3 ∧ h0_0 = h0_0 ∧ h0_1 = h0_1 ∧ h0_2 = h0_2 ∧ h0_3 = h0_3 ∧ h0_4 = h0_4 ∧ h0_5 = h0_5 ∧ h0_6 = h0_6 ∧ h0_7 = h0_7 ∧ h0_8 = h0_8 ∧ h0_9 = h0_9) inv (fun s4q => μ s4q < μ s4p))).mpr (hs s4p hi))⟩⟩
def k125 (r0 : Int) (k3 : Int → Prop) (h0_0 : Int) (h0_1 : List Int) (h0_2 : List TOut) (h0_3 : Int) (h0_4 : Int) (h0_5 : Int) (h0_6 : Int) (h0_7 : Int) (h0_8 : Int) (h0_9 : List Int) (s5 : Int) : Prop :=
(decide (s5 < (h0_2.length : Int)) = true →
(0 ≤ s5) ∧ s5 < (h0_2.length : Int) ∧ let v3 : Bool := decide (18446744069414584321 ≤ ((ix h0_2 s5).Commit))
(v3 = true →
 1 = r0) ∧
(v3 = false →
(0 ≤ (TA2.mk ((ix h0_2 s5).Point_a0) ((ix h0_2 s5).Point_a1)).a0 ∧ 0 ≤ (TA2.mk ((ix h0_2 s5).Point_a0) ((ix h0_2 s5).Point_a1)).a1) ∧ let r4 : Bool := vPoint (TA2.mk ((ix h0_2 s5).Point_a0) ((ix h0_2 s5).Point_a1)).a0 (TA2.mk ((ix h0_2 s5).Point_a0) ((ix h0_2 s5).Point_a1)).a1
((!r4) = true →
 1 = r0) ∧
((!r4) = false →
 let v5 : Bool := ((((ix h0_2 s5).Cipher).length : Int) != 3)
(v5 = true →
 1 = r0) ∧
(v5 = false →
(((ix h0_2 s5).Cipher).length ≤ 9223372036854775807) ∧ let r6 : Bool := ((ix h0_2 s5).Cipher).all (fun x => decide (x < 18446744069414584321))
((!r6) = true →
 1 = r0) ∧
((!r6) = false →
 k3 (IntKind.i64.wrap (s5 + 1) : Int)))))) ∧
(decide (s5 < (h0_2.length : Int)) = false →
(decide (4294967295 < h0_3) = true →
 1 = r0) ∧
(decide (4294967295 < h0_3) = false →
(decide (4294967295 < h0_4) = true →
 1 = r0) ∧
(decide (4294967295 < h0_4) = false →
(decide (4294967295 < h0_5) = true →
 1 = r0) ∧
(decide (4294967295 < h0_5) = false →
(decide (0 < h0_3) = true →
(decide (0 < h0_4) = true →
 1 = r0) ∧
(decide (0 < h0_4) = false →
 kcf (r0, ()) (h0_0, h0_1, h0_2, h0_3, h0_4, h0_5, h0_6, h0_7, h0_8, h0_9, ()))) ∧
(decide (0 < h0_3) = false →
 kcf (r0, ()) (h0_0, h0_1, h0_2, h0_3, h0_4, h0_5, h0_6, h0_7, h0_8, h0_9, ()))))))
set_option maxRecDepth 100000 in
theorem k1ey {r0 : Int} {h0_0 : Int} {h0_1 : List Int} {h0_2 : List TOut} {h0_3 : Int} {h0_4 : Int} {h0_5 : Int} {h0_6 : Int} {h0_7 : Int} {h0_8 : Int} {h0_9 : List Int} {s5 : Int} (inv : Int → Prop) (μ : Int → Nat) (h0 : inv s5) (hs : ∀ (s5 : Int), inv s5 → k125 r0 (fun s5q => inv s5q ∧ μ s5q < μ s5) h0_0 h0_1 h0_2 h0_3 h0_4 h0_5 h0_6 h0_7 h0_8 h0_9 s5) : Md.Loop (s5, h0_0, h0_1, h0_2, h0_3, h0_4, h0_5, h0_6, h0_7, h0_8, h0_9, ()) (kfj (r0, ())) :=
  ⟨⟨fun s : Int × Int × (List Int) × (List TOut) × Int × Int × Int × Int × Int × Int × (List Int) × Unit => (s.2.1 = h0_0 ∧ s.2.2.1 = h0_1 ∧ s.2.2.2.1 = h0_2 ∧ s.2.2.2.2.1 = h0_3 ∧ s.2.2.2.2.2.1 = h0_4 ∧ s.2.2.2.2.2.2.1 = h0_5 ∧ s.2.2.2.2.2.2.2.1 = h0_6 ∧ s.2.2.2.2.2.2.2.2.1 = h0_7 ∧ s.2.2.2.2.2.2.2.2.2.1 = h0_8 ∧ s.2.2.2.2.2.2.2.2.2.2.1 = h0_9) ∧ inv s.1, fun s : Int × Int × (List Int) × (List TOut) × Int × Int × Int × Int × Int × Int × (List Int) × Unit => μ s.1, ⟨⟨rfl, rfl, rfl, rfl, rfl, rfl, rfl, rfl, rfl, rfl⟩, h0⟩, fun (s5p, h0_0p, h0_1p, h0_2p, h0_3p, h0_4p, h0_5p, h0_6p, h0_7p, h0_8p, h0_9p, ()) ⟨⟨eq0, eq1, eq2, eq3, eq4, eq5, eq6, eq7, eq8, eq9⟩, hi⟩ => by
    have eq0 : h0_0p = h0_0 := eq0; subst h0_0p; have eq1 : h0_1p = h0_1 := eq1; subst h0_1p; have eq2 : h0_2p = h0_2 := eq2; subst h0_2p; have eq3 : h0_3p = h0_3 := eq3; subst h0_3p; have eq4 : h0_4p = h0_4 := eq4; subst h0_4p; have eq5 : h0_5p = h0_5 := eq5; subst h0_5p; have eq6 : h0_6p = h0_6 := eq6; subst h0_6p; have eq7 : h0_7p = h0_7 := eq7; subst h0_7p; have eq8 : h0_8p = h0_8 := eq8; subst h0_8p; have eq9 : h0_9p = h0_9 := eq9; subst h0_9p; exact mpr_of (by kernel_rfl) ((congrArg (fun k => k125 r0 k h0_0 h0_1 h0_2 h0_3 h0_4 h0_5 h0_6 h0_7 h0_8 h0_9 s5p) (lpk1 (⟨rfl, rfl, rfl, rfl, rfl, rfl, rfl, rfl, rfl, rfl⟩ : h0_0 = h0_0 ∧ h0_1 = h0_1 ∧ h0_2 = h0_2 ∧ h0_3 = h0_3 ∧ h0_4 = h0_4 ∧ h0_5 = h0_5 ∧ h0_6 = h0_6 ∧ h0_7 = h0_7 ∧ h0_8 = h0_8 ∧ h0_9 = h0_9) inv (fun s5q => μ s5q < μ s5p))).mpr (hs s5p hi))⟩⟩
theorem bd15 : Callable Try.prog 15 := ⟨by rw [Try.func15]; kernel_rfl, by rw [Try.func15]; show some _ ≠ some _; decide⟩
theorem k1ci (p0 : TTx) (h : TR p0 ∧ TL p0) : km8 (p0.Anchor, p0.Marks, p0.Outs, p0.Deposit, p0.Withdraw, p0.Fee, p0.Account, p0.Nonce, p0.Expiry, p0.Proof, ()) ((validE p0 : Int), ()) := by
  obtain ⟨hr, hl⟩ := h
  have e3 : [p0.Anchor, p0.Account, p0.Nonce].all (fun x => decide (x < 18446744069414584321)) = (decide (p0.Anchor < 18446744069414584321) && (decide (p0.Account < 18446744069414584321) && decide (p0.Nonce < 18446744069414584321))) := by simp
  have bad : (vMarks p0.Marks && vOuts p0.Outs && vAmounts p0 && vRest p0) = false → 1 = validE p0 := by intro h; unfold validE; rw [h]; rfl
  have badM : vMarks p0.Marks = false → 1 = validE p0 := fun h => bad (by rw [h]; rfl)
  have badO : vOuts p0.Outs = false → 1 = validE p0 := fun h => bad (by rw [h]; simp)
  have badA : vAmounts p0 = false → 1 = validE p0 := fun h => bad (by rw [h]; simp)
  have badR : vRest p0 = false → 1 = validE p0 := fun h => bad (by rw [h]; simp)
  refine k1l2 ⟨fun h => badM ?_, fun h => ⟨fun h2 => badO ?_, fun h2 => ⟨by have := hl.m; omega, fun h3 => badM ?_, fun h3 => ⟨by simp, fun h4 => ?_, fun h4 => ?_⟩⟩⟩⟩
  · have h := of_decide_eq_true h
    unfold vMarks
    rw [decide_eq_false (by omega)]
    rfl
  · have h2 := of_decide_eq_true h2
    unfold vOuts
    rw [decide_eq_false (by omega)]
    rfl
  · have h3 : p0.Marks.all (fun x => decide (x < 18446744069414584321)) = false := by simpa using h3
    unfold vMarks
    rw [h3]
    simp
  · rw [e3] at h4
    have : vAmounts p0 = false ∨ vRest p0 = false := by
      unfold vAmounts vRest
      grind
    exact this.elim badA badR
  have h := of_decide_eq_false h
  have h2 := of_decide_eq_false h2
  have h3 : p0.Marks.all (fun x => decide (x < 18446744069414584321)) = true := by simpa using h3
  have h4 : [p0.Anchor, p0.Account, p0.Nonce].all (fun x => decide (x < 18446744069414584321)) = true := by
    cases hq : [p0.Anchor, p0.Account, p0.Nonce].all (fun x => decide (x < 18446744069414584321))
    · rw [hq] at h4; simp at h4
    · rfl
  rw [e3] at h4
  simp only [Bool.and_eq_true, decide_eq_true_eq] at h4
  obtain ⟨a1, a2, a3⟩ := h4
  refine k1ho (fun i => 0 ≤ i ∧ i ≤ p0.Marks.length ∧ (p0.Marks.take i.toNat).Nodup) (fun i => (p0.Marks.length - i).toNat) ⟨by omega, by omega, by simp⟩ ?_
  rintro i ⟨g0, g1, g2⟩
  refine ⟨fun hh => ?_, fun hh => ?_⟩
  · have hh := of_decide_eq_true hh
    refine k1hu (fun k => 0 ≤ k ∧ k ≤ i ∧ ∀ x ∈ p0.Marks.take k.toNat, x ≠ ix p0.Marks i) (fun k => (i - k).toNat) ⟨by omega, by omega, by simp⟩ ?_
    rintro k ⟨k0, k1, k2⟩
    refine ⟨fun hk => ?_, fun hk => ?_⟩
    · have hk := of_decide_eq_true hk
      refine ⟨g0, hh, k0, by omega, fun e => badM ?_, fun e => ?_⟩
      · have e : ix p0.Marks i = ix p0.Marks k := by simpa using e
        have : ¬ p0.Marks.Nodup := by
          intro hn
          rw [ix_nat _ i g0 hh, ix_nat _ k k0 (by omega)] at e
          have := (List.getElem_inj hn).1 e
          omega
        unfold vMarks
        rw [decide_eq_false this]
        simp
      · have e : ¬ ix p0.Marks i = ix p0.Marks k := by simpa using e
        rw [inc k i k0 hk (by omega)]
        refine ⟨⟨by omega, by omega, ?_⟩, by omega⟩
        rw [ka p0.Marks k k0 (by omega)]
        intro x hx
        rcases List.mem_append.1 hx with hx | hx
        · exact k2 x hx
        · have : x = ix p0.Marks k := by simpa using hx
          rw [this]; exact fun e' => e e'.symm
    · have hk := of_decide_eq_false hk
      have hki : k = i := by omega
      subst hki
      have nxt : (0 ≤ k + 1 ∧ k + 1 ≤ p0.Marks.length ∧ (p0.Marks.take (k + 1).toNat).Nodup) ∧ (p0.Marks.length - (k + 1)).toNat < (p0.Marks.length - k).toNat := by
        refine ⟨⟨by omega, by omega, ?_⟩, by omega⟩
        rw [ka p0.Marks k g0 hh]
        refine List.nodup_append.2 ⟨g2, by simp, fun a ha b hb => ?_⟩
        have : b = ix p0.Marks k := by simpa using hb
        rw [this]; exact k2 a ha
      have hi := inc k p0.Marks.length g0 hh (by omega)
      rw [hi]
      exact ⟨⟨⟨rfl, rfl, rfl, rfl, rfl, rfl, rfl, rfl, rfl, rfl⟩, nxt.1⟩, nxt.2⟩
  · have hh := of_decide_eq_false hh
    rw [List.take_of_length_le (by omega)] at g2
    have vm : vMarks p0.Marks = true := by
      unfold vMarks
      rw [h3, decide_eq_true g2, decide_eq_true (by omega)]
      rfl
    have j2 : vOuts p0.Outs = true → vAmounts p0 = true → k8c ((validE p0 : Int), ()) (p0.Anchor, p0.Marks, p0.Outs, p0.Deposit, p0.Withdraw, p0.Fee, p0.Account, p0.Nonce, p0.Expiry, p0.Proof, ()) := by
      intro vo va
      refine k1av ⟨fun e => badR ?_, fun e => ⟨fun e2 => badR ?_, fun e2 => ?_⟩⟩
      · have e := of_decide_eq_true e
        unfold vRest
        rw [decide_eq_false (p := 0 ≤ p0.Expiry) (by omega)]
        simp
      · have e2 := of_decide_eq_true e2
        unfold vRest
        rw [decide_eq_false (p := p0.Expiry ≤ 1048576) (by omega)]
        simp
      · have e := of_decide_eq_false e
        have e2 := of_decide_eq_false e2
        have vr : vRest p0 = true := by
          unfold vRest
          rw [decide_eq_true a1, decide_eq_true (p := 0 ≤ p0.Expiry) (by omega), decide_eq_true (p := p0.Expiry ≤ 1048576) (by omega)]
          rfl
        unfold validE
        rw [vm, vo, va, vr]
        refine ⟨fun e => ?_, fun e => ?_⟩
        · have e := of_decide_eq_true e
          simp; omega
        · have e := of_decide_eq_false e
          simp; omega
    have j1 : vOuts p0.Outs = true → p0.Deposit ≤ 4294967295 → p0.Withdraw ≤ 4294967295 → p0.Fee ≤ 4294967295 → (0 < p0.Deposit → p0.Withdraw = 0) → kcf ((validE p0 : Int), ()) (p0.Anchor, p0.Marks, p0.Outs, p0.Deposit, p0.Withdraw, p0.Fee, p0.Account, p0.Nonce, p0.Expiry, p0.Proof, ()) := by
      intro vo d1 d2 d3 d4
      have hd := hr.d
      have hw := hr.w
      have fA : ¬ (p0.Deposit ≤ 4294967295 ∧ p0.Withdraw ≤ 4294967295 ∧ p0.Fee ≤ 4294967295 ∧ p0.Account < 18446744069414584321 ∧ p0.Nonce < 18446744069414584321 ∧ (0 < p0.Deposit → p0.Withdraw = 0) ∧ (¬ 0 < p0.Deposit → p0.Marks ≠ [] ∧ p0.Nonce = 0 ∧ (0 < p0.Withdraw ∨ p0.Account = 0))) → 1 = validE p0 := fun h => badA (Bool.eq_false_iff.2 fun h' => h ((kdb p0).1 h'))
      refine k1a6 ⟨fun e => ⟨fun e2 => fA ?_, fun e2 => ⟨fun e3 => fA ?_, fun e3 => ⟨fun e4 => ⟨fun e5 => fA ?_, fun e5 => j2 vo ((kdb p0).2 ?_)⟩, fun e4 => j2 vo ((kdb p0).2 ?_)⟩⟩⟩, fun e => j2 vo ((kdb p0).2 ?_)⟩
      all_goals simp only [beq_iff_eq, bne_iff_ne, beq_eq_false_iff_ne, bne_eq_false_iff_eq, Int.natCast_eq_zero, List.length_eq_zero_iff] at *
      · exact fun h => by have := h.2.2.2.2.2.2 (by omega); omega
      · exact fun h => (h.2.2.2.2.2.2 (by omega)).1 e3
      · exact fun h => by have := (h.2.2.2.2.2.2 (by omega)).2.2; omega
      · exact ⟨d1, d2, d3, a2, a3, d4, fun _ => ⟨fun hq => e3 (by rw [hq]; rfl), e2, .inr e5⟩⟩
      · exact ⟨d1, d2, d3, a2, a3, d4, fun _ => ⟨fun hq => e3 (by rw [hq]; rfl), e2, .inl (by omega)⟩⟩
      · exact ⟨d1, d2, d3, a2, a3, d4, fun h => by omega⟩
    refine k1ey (fun i => 0 ≤ i ∧ i ≤ p0.Outs.length ∧ ∀ x ∈ p0.Outs.take i.toNat, vOut x = true) (fun i => (p0.Outs.length - i).toNat) ⟨by omega, by omega, by simp⟩ ?_
    rintro i ⟨g0, g1, g2⟩
    refine ⟨fun hh => ?_, fun hh => ?_⟩
    · have hh := of_decide_eq_true hh
      have hx := hr.o _ (ix_mem p0.Outs i g0 hh)
      have hlc := hl.c _ (ix_mem p0.Outs i g0 hh)
      have bd : vOut (ix p0.Outs i) = false → 1 = validE p0 := by
        intro hb
        refine badO ?_
        unfold vOuts
        have : p0.Outs.all vOut = false := List.all_eq_false.2 ⟨_, ix_mem p0.Outs i g0 hh, by simp [hb]⟩
        rw [this]
        simp
      unfold vOut at bd
      refine ⟨g0, hh, fun e => bd ?_, fun e => ⟨⟨hx.p0.1, hx.p1.1⟩, fun e2 => bd ?_, fun e2 => ⟨fun e3 => bd ?_, fun e3 => ⟨by omega, fun e4 => bd ?_, fun e4 => ?_⟩⟩⟩⟩
      · have e := of_decide_eq_true e
        rw [decide_eq_false (by omega)]
        rfl
      · have e2 : vPoint (ix p0.Outs i).Point_a0 (ix p0.Outs i).Point_a1 = false := by simpa using e2
        simp [e2]
      · have e3 : ¬ ((ix p0.Outs i).Cipher.length : Int) = 3 := by simpa using e3
        have e3 : ¬ (ix p0.Outs i).Cipher.length = 3 := by omega
        simp [e3]
      · have e4 : (ix p0.Outs i).Cipher.all (fun x => decide (x < 18446744069414584321)) = false := by
          cases hq : (ix p0.Outs i).Cipher.all (fun x => decide (x < 18446744069414584321))
          · rfl
          · rw [hq] at e4; simp at e4
        rw [e4]
        simp
      · have e := of_decide_eq_false e
        have e2 : vPoint (ix p0.Outs i).Point_a0 (ix p0.Outs i).Point_a1 = true := by simpa using e2
        have e3 : ((ix p0.Outs i).Cipher.length : Int) = 3 := by simpa using e3
        have e4 : (ix p0.Outs i).Cipher.all (fun x => decide (x < 18446744069414584321)) = true := by
          cases hq : (ix p0.Outs i).Cipher.all (fun x => decide (x < 18446744069414584321))
          · rw [hq] at e4; simp at e4
          · rfl
        have hv : vOut (ix p0.Outs i) = true := (kwv _).2 ⟨by omega, e2, by omega, by simpa using e4⟩
        rw [inc i p0.Outs.length g0 hh (by omega)]
        refine ⟨⟨by omega, by omega, ?_⟩, by omega⟩
        rw [ka p0.Outs i g0 hh]
        intro x hx
        rcases List.mem_append.1 hx with hx | hx
        · exact g2 x hx
        · have : x = ix p0.Outs i := by simpa using hx
          rw [this]; exact hv
    · have hh := of_decide_eq_false hh
      rw [List.take_of_length_le (by omega)] at g2
      have vo : vOuts p0.Outs = true := by
        unfold vOuts
        have : p0.Outs.all vOut = true := by simpa using g2
        rw [this, decide_eq_true (by omega)]
        rfl
      have hd := hr.d
      have hw := hr.w
      have fA : ¬ (p0.Deposit ≤ 4294967295 ∧ p0.Withdraw ≤ 4294967295 ∧ p0.Fee ≤ 4294967295 ∧ (0 < p0.Deposit → p0.Withdraw = 0)) → 1 = validE p0 := fun h => badA (Bool.eq_false_iff.2 fun h' => h (by have := (kdb p0).1 h'; exact ⟨this.1, this.2.1, this.2.2.1, this.2.2.2.2.2.1⟩))
      refine ⟨fun e => fA ?_, fun e => ⟨fun e2 => fA ?_, fun e2 => ⟨fun e3 => fA ?_, fun e3 => ⟨fun e4 => ⟨fun e5 => fA ?_, fun e5 => j1 vo ?_ ?_ ?_ ?_⟩, fun e4 => j1 vo ?_ ?_ ?_ ?_⟩⟩⟩⟩
      all_goals simp only [decide_eq_true_eq, decide_eq_false_iff_not] at *
      all_goals omega
noncomputable def ko7 : Con TB.den := k1h.fnR (fun x => (fun (p0 : TTx) => TR p0 ∧ TL p0) (TTx.mk x.1 x.2.1 x.2.2.1 x.2.2.2.1 x.2.2.2.2.1 x.2.2.2.2.2.1 x.2.2.2.2.2.2.1 x.2.2.2.2.2.2.2.1 x.2.2.2.2.2.2.2.2.1 x.2.2.2.2.2.2.2.2.2.1)) fun x => ((fun (p0 : TTx) => (validE p0 : Int)) (TTx.mk x.1 x.2.1 x.2.2.1 x.2.2.2.1 x.2.2.2.2.1 x.2.2.2.2.2.1 x.2.2.2.2.2.2.1 x.2.2.2.2.2.2.2.1 x.2.2.2.2.2.2.2.2.1 x.2.2.2.2.2.2.2.2.2.1), ())
theorem k11l : ko7.Ok Try.prog TB := Con.ok_fn k1h bd15 fun x h => k1fe (k1ci (TTx.mk x.1 x.2.1 x.2.2.1 x.2.2.2.1 x.2.2.2.2.1 x.2.2.2.2.2.1 x.2.2.2.2.2.2.1 x.2.2.2.2.2.2.2.1 x.2.2.2.2.2.2.2.2.1 x.2.2.2.2.2.2.2.2.2.1) h)
end Go.Proofs.Ytnmakgfmimagmaa
namespace Go.Proofs.Ytnmakgfmimagmaa
open Go Go.Bv Go.Cv Go.Md Go.RowKit
def k2q : Con TB.den := Con.mk0 13 [.agg [.d (.int .u64), .d (.int .i64), .d (.int .u64), .d (.int .u64), .d (.int .u64), .d (.sl (.st 1))]] [] (.one (.one (.d (.int .i64)))) []
abbrev k13x := HL TB.den (hsT k2q.ins (hsOs k2q.pre))
abbrev k82 := HL TB.den (hsV k2q.res (hsOs k2q.post))
noncomputable def k76 : Cx TB := ⟨inf, [ko7, kiq], [], 4⟩
noncomputable def kd9 : Code := Try.f13.body.getD .skip
noncomputable def kfd : List ResultVar := Try.f13.results.toList
noncomputable def k1ko (o : k82) : Exit → TSt TB.den → Prop := thenT TB (fun s => ghs TB [] s fun s => WP TB k76 64 0 (cB (cB (cB (cB kd9)))) .no s (retTQ TB k76 k2q kfd o)) (retTQ TB k76 k2q kfd o)
def kam : Tm := ⟨[0], [.cells [.d (.int .u64), .d (.int .i64), .d (.int .u64), .d (.int .u64), .d (.int .u64), .d (.sl (.st 1))]], [1, 3, 4], [.one (.ptr 0 0), .one (.d (.int .i64)), .one (.d (.int .i64))], 1⟩
noncomputable def k1ju (o : k82) (nx1 : HL TB.den kam.hs → Prop) : Exit → TSt TB.den → Prop := thenT TB (fun s => kam.mat TB 0 s nx1) (blockT TB 0 (k1ko o))
noncomputable def kg8 (o : k82) (nx1 : HL TB.den kam.hs → Prop) (i : HL TB.den kam.hs) : Prop := WP TB k76 64 0 (cA (cA (cB (cA (cB (cB (cB kd9))))))) .no (kam.fill TB i) (k1ju o nx1)
noncomputable def k1lr (o : k82) : An TB := .nd [] .no [] (.lp [] kam (kg8 o) fun nx1 => .no)
noncomputable def k1l9 (o : k82) : An TB := .nd [] .no [] (.nd [] .no [] (.nd [] (k1lr o) [] .no))
noncomputable def k11k (o : k82) : An TB := .nd [] .no [] (k1l9 o)
noncomputable def kn0 (x : k13x) (o : k82) : Prop := WPh TB k76 64 0 kd9 (k11k o) (k2q.st TB x) (retTQ TB k76 k2q kfd o)
set_option maxRecDepth 100000 in
theorem k1f9 (o : k82) : OblH TB k76 64 0 kd9 (k11k o) (retTQ TB k76 k2q kfd o) :=
  OblH.of_eq (X := (True ∧ ((True ∧ ((True ∧ True) ∧ True)) ∧ (True ∧ ((True ∧ ((∀ nx i, (kg8 o) nx i = (kg8 o) nx i) ∧ ∀ nx1 : HL TB.den kam.hs → Prop, ((True ∧ (True ∧ True)) ∧ (((True ∧ ((True ∧ True) ∧ True)) ∧ True) ∧ True)))) ∧ ((True ∧ ((True ∧ True) ∧ True)) ∧ (True ∧ True))))))) (by kernel_rfl) ⟨trivial, ⟨⟨trivial, ⟨⟨trivial, trivial⟩, trivial⟩⟩, ⟨trivial, ⟨⟨trivial, ⟨fun _ _ => rfl, fun _ => ⟨⟨trivial, ⟨trivial, trivial⟩⟩, ⟨⟨⟨trivial, ⟨⟨trivial, trivial⟩, trivial⟩⟩, trivial⟩, trivial⟩⟩⟩⟩, ⟨⟨trivial, ⟨⟨trivial, trivial⟩, trivial⟩⟩, ⟨trivial, trivial⟩⟩⟩⟩⟩⟩
set_option maxRecDepth 100000 in
theorem k1hw {x : k13x} {o : k82} (h : kn0 x o) : SoundH Try.prog k2q.f ((k2q.args idf x).map (er TB)) ((k2q.obs idf x).map (erO TB)) (er TB (k2q.val idf o)) ((k2q.ops idf o).map (erO TB)) :=
  Con.soundH (c := k2q) (C := k76) TBok ⟨inf_ok, (all_cons k11l (all_cons kqm all_nil)), all_nil⟩ mix Try.func13 (show Try.f13.body = some kd9 by kernel_rfl) (show Try.f13.ntmps = 64 by kernel_rfl) (show Try.f13.results.toList = kfd by kernel_rfl) rfl h (k1f9 o)
set_option maxRecDepth 100000 in
theorem k1kt {p0 : TBlock} {r0 : Int} (h :
((decide (p0.Height < 1) = true →
 1 = r0) ∧
(decide (p0.Height < 1) = false →
(decide (1048576 < p0.Height) = true →
 1 = r0) ∧
(decide (1048576 < p0.Height) = false →
(decide (p0.Work < 1) = true →
 1 = r0) ∧
(decide (p0.Work < 1) = false →
(decide (65536 < p0.Work) = true →
 1 = r0) ∧
(decide (65536 < p0.Work) = false →
 let v1 : Bool := decide (18446744069414584321 ≤ p0.Parent)
(v1 = true →
 1 = r0) ∧
(v1 = false →
(decide (18446744069414584321 ≤ p0.Miner) = true →
 1 = r0) ∧
(decide (18446744069414584321 ≤ p0.Miner) = false →
(decide (64 < (p0.Txs.length : Int)) = true →
 1 = r0) ∧
(decide (64 < (p0.Txs.length : Int)) = false →
 Md.Loop ((0 : Int), (0 : Int), p0.Parent, p0.Height, p0.Miner, p0.Work, p0.Nonce, p0.Txs, ()) (kg8 (r0, ()))))))))))) : kn0 (p0.Parent, p0.Height, p0.Miner, p0.Work, p0.Nonce, p0.Txs, ()) (r0, ()) := WPh.of_eq (by kernel_rfl) h
def k11x (r0 : Int) (k1 : Int → Int → Prop) (h0_0 : Int) (h0_1 : Int) (h0_2 : Int) (h0_3 : Int) (h0_4 : Int) (h0_5 : List TTx) (s3 : Int) (s4 : Int) : Prop :=
(decide (s4 < (h0_5.length : Int)) = true →
(0 ≤ s4) ∧ s4 < (h0_5.length : Int) ∧ (TR (ix h0_5 s4) ∧ TL (ix h0_5 s4)) ∧ (((validE (ix h0_5 s4)) != 0) = true →
 1 = r0) ∧
(((validE (ix h0_5 s4)) != 0) = false →
(0 ≤ s4) ∧ s4 < (h0_5.length : Int) ∧ (TR (ix h0_5 s4) ∧ TL (ix h0_5 s4) ∧ (ix h0_5 s4).Outs.length ≤ 1048576 ∧ (∀ x ∈ (ix h0_5 s4).Outs, x.Cipher.length ≤ 1024)) ∧ let v2 : Int := ((encT (ix h0_5 s4) (ix h0_5 s4).Proof).length : Int)
 k1 (IntKind.i64.wrap (s3 + v2) : Int) (IntKind.i64.wrap (s4 + 1) : Int))) ∧
(decide (s4 < (h0_5.length : Int)) = false →
(decide (2097152 < s3) = true →
 3 = r0) ∧
(decide (2097152 < s3) = false →
 0 = r0))
set_option maxRecDepth 100000 in
theorem k1fw {r0 : Int} {h0_0 : Int} {h0_1 : Int} {h0_2 : Int} {h0_3 : Int} {h0_4 : Int} {h0_5 : List TTx} {s3 : Int} {s4 : Int} (inv : Int → Int → Prop) (μ : Int → Int → Nat) (h0 : inv s3 s4) (hs : ∀ (s3 : Int) (s4 : Int), inv s3 s4 → k11x r0 (fun s3q s4q => inv s3q s4q ∧ μ s3q s4q < μ s3 s4) h0_0 h0_1 h0_2 h0_3 h0_4 h0_5 s3 s4) : Md.Loop (s3, s4, h0_0, h0_1, h0_2, h0_3, h0_4, h0_5, ()) (kg8 (r0, ())) :=
  ⟨⟨fun s : Int × Int × Int × Int × Int × Int × Int × (List TTx) × Unit => (s.2.2.1 = h0_0 ∧ s.2.2.2.1 = h0_1 ∧ s.2.2.2.2.1 = h0_2 ∧ s.2.2.2.2.2.1 = h0_3 ∧ s.2.2.2.2.2.2.1 = h0_4 ∧ s.2.2.2.2.2.2.2.1 = h0_5) ∧ inv s.1 s.2.1, fun s : Int × Int × Int × Int × Int × Int × Int × (List TTx) × Unit => μ s.1 s.2.1, ⟨⟨rfl, rfl, rfl, rfl, rfl, rfl⟩, h0⟩, fun (s3p, s4p, h0_0p, h0_1p, h0_2p, h0_3p, h0_4p, h0_5p, ()) ⟨⟨eq0, eq1, eq2, eq3, eq4, eq5⟩, hi⟩ => by
    have eq0 : h0_0p = h0_0 := eq0; subst h0_0p; have eq1 : h0_1p = h0_1 := eq1; subst h0_1p; have eq2 : h0_2p = h0_2 := eq2; subst h0_2p; have eq3 : h0_3p = h0_3 := eq3; subst h0_3p; have eq4 : h0_4p = h0_4 := eq4; subst h0_4p; have eq5 : h0_5p = h0_5 := eq5; subst h0_5p; exact mpr_of (by kernel_rfl) ((congrArg (fun k => k11x r0 k h0_0 h0_1 h0_2 h0_3 h0_4 h0_5 s3p s4p) (lpk2 (⟨rfl, rfl, rfl, rfl, rfl, rfl⟩ : h0_0 = h0_0 ∧ h0_1 = h0_1 ∧ h0_2 = h0_2 ∧ h0_3 = h0_3 ∧ h0_4 = h0_4 ∧ h0_5 = h0_5) inv (fun s3q s4q => μ s3q s4q < μ s3p s4p))).mpr (hs s3p s4p hi))⟩⟩
theorem bd13 : Callable Try.prog 13 := ⟨by rw [Try.func13]; kernel_rfl, by rw [Try.func13]; show some _ ≠ some _; decide⟩
theorem k1cy (p0 : TBlock) (h : ∀ x ∈ p0.Txs, TR x ∧ TL x) : kn0 (p0.Parent, p0.Height, p0.Miner, p0.Work, p0.Nonce, p0.Txs, ()) ((validB p0 : Int), ()) := by
  have nv : ¬ VB0 p0 → 1 = validB p0 := fun h => (ken h).symm
  refine k1kt ⟨fun e => nv fun v => ?_, fun e1 => ⟨fun e => nv fun v => ?_, fun e2 => ⟨fun e => nv fun v => ?_, fun e3 => ⟨fun e => nv fun v => ?_, fun e4 => ⟨fun e => nv fun v => ?_, fun e5 => ⟨fun e => nv fun v => ?_, fun e6 => ⟨fun e => nv fun v => ?_, fun e7 => ?_⟩⟩⟩⟩⟩⟩⟩
  · have := of_decide_eq_true e; have := v.h0; omega
  · have := of_decide_eq_true e; have := v.h1; omega
  · have := of_decide_eq_true e; have := v.w0; omega
  · have := of_decide_eq_true e; have := v.w1; omega
  · have := of_decide_eq_true e; have := v.p; omega
  · have := of_decide_eq_true e; have := v.m; omega
  · have := of_decide_eq_true e; have := v.l; omega
  have e1 := of_decide_eq_false e1
  have e2 := of_decide_eq_false e2
  have e3 := of_decide_eq_false e3
  have e4 := of_decide_eq_false e4
  have e5 := of_decide_eq_false e5
  have e6 := of_decide_eq_false e6
  have e7 := of_decide_eq_false e7
  have hc : VB0 p0 := ⟨by omega, by omega, by omega, by omega, by omega, by omega, by omega⟩
  refine k1fw (fun w i => 0 ≤ i ∧ i ≤ p0.Txs.length ∧ w = sumW (p0.Txs.take i.toNat) ∧ ∀ t ∈ p0.Txs.take i.toNat, validE t = 0) (fun _ i => (p0.Txs.length - i).toNat) ⟨by omega, by omega, by simp [sumW], by simp⟩ ?_
  rintro w i ⟨g0, g1, rfl, g3⟩
  have hb := sumW_bd _ g3
  rw [List.length_take] at hb
  refine ⟨fun hh => ?_, fun hh => ?_⟩
  · have hh := of_decide_eq_true hh
    have hm := ix_mem p0.Txs i g0 hh
    refine ⟨g0, hh, h _ hm, fun e => ?_, fun e => ?_⟩
    · have e : validE (ix p0.Txs i) ≠ 0 := by simpa using e
      exact (k1ea hm e).symm
    · have e : validE (ix p0.Txs i) = 0 := by simpa using e
      have hw := kwx e
      have ew : weightS (ix p0.Txs i) = ((encT (ix p0.Txs i) (ix p0.Txs i).Proof).length : Int) := if_pos e
      refine ⟨g0, hh, ((k3t _).1 e).bl (h _ hm).1, ?_⟩
      rw [← ew]
      try simp only []
      rw [inc i p0.Txs.length g0 hh (by omega), wi (sumW (p0.Txs.take i.toNat) + weightS (ix p0.Txs i)) (by omega) (by omega)]
      refine ⟨⟨by omega, by omega, ?_, ?_⟩, by omega⟩
      · rw [ka p0.Txs i g0 hh, k1iq]
      · rw [ka p0.Txs i g0 hh]
        intro t ht
        rcases List.mem_append.1 ht with ht | ht
        · exact g3 t ht
        · rw [List.mem_singleton.1 ht]; exact e
  · have hh := of_decide_eq_false hh
    rw [List.take_of_length_le (by omega)] at g3 hb ⊢
    rw [k1e1 hc g3]
    refine ⟨fun e => ?_, fun e => ?_⟩
    · have e := of_decide_eq_true e
      rw [if_neg (by omega)]
    · have e := of_decide_eq_false e
      rw [if_pos (by omega)]
noncomputable def koa : Con TB.den := k2q.fnR (fun x => (fun (p0 : TBlock) => ∀ x ∈ p0.Txs, TR x ∧ TL x) (TBlock.mk x.1 x.2.1 x.2.2.1 x.2.2.2.1 x.2.2.2.2.1 x.2.2.2.2.2.1)) fun x => ((fun (p0 : TBlock) => (validB p0 : Int)) (TBlock.mk x.1 x.2.1 x.2.2.1 x.2.2.2.1 x.2.2.2.2.1 x.2.2.2.2.2.1), ())
theorem k119 : koa.Ok Try.prog TB := Con.ok_fn k2q bd13 fun x h => k1hw (k1cy (TBlock.mk x.1 x.2.1 x.2.2.1 x.2.2.2.1 x.2.2.2.2.1 x.2.2.2.2.2.1) h)
end Go.Proofs.Ytnmakgfmimagmaa
namespace Go.Proofs.Ytnmakgfmimagmaa
open Go Go.Bv Go.Cv Go.Md Go.RowKit
def ky : Con TB.den := Con.mk0 8 [.agg [.d (.int .u64), .d (.int .i64), .d (.int .u64), .d (.int .u64), .d (.int .u64), .d (.sl (.st 1))]] [] (.one (.one (.d (.bool)))) []
abbrev koo := HL TB.den (hsT ky.ins (hsOs ky.pre))
abbrev k4z := HL TB.den (hsV ky.res (hsOs ky.post))
noncomputable def k40 : Cx TB := ⟨inf, [koi, ky0, kdt, koa, kj7, kya, kk9], [], 4⟩
noncomputable def k6v : Code := Try.f8.body.getD .skip
noncomputable def k8f : List ResultVar := Try.f8.results.toList
noncomputable def k11c (o : k4z) : Exit → TSt TB.den → Prop := thenT TB (fun s => ghs TB [] s fun s => WP TB k40 59 0 (cB (cB k6v)) .no s (retTQ TB k40 ky k8f o)) (retTQ TB k40 ky k8f o)
def kan : Tm := ⟨[0], [.cells [.d (.int .u64), .d (.int .i64), .d (.int .u64), .d (.int .u64), .d (.int .u64), .d (.sl (.st 1))]], [1, 14], [.one (.ptr 0 0), .one (.d (.bool))], 1⟩
noncomputable def kl3 (o : k4z) (i : HL TB.den kan.hs) : Prop := ghs TB [] (kan.fill TB i) fun s => WP TB k40 59 0 (cB (cA (cB k6v))) .no s (k11c o)
structure k6a (o : k4z) (i : HL TB.den kan.hs) : Prop where
  h : kl3 o i
noncomputable def k12k (o : k4z) : An TB := .nd [] (.jn kan (k6a o) [] .no [] .no) [] .no
noncomputable def kno (o : k4z) : An TB := .nd [] .no [] (k12k o)
noncomputable def kdo (x : koo) (o : k4z) : Prop := WPh TB k40 59 0 k6v (kno o) (ky.st TB x) (retTQ TB k40 ky k8f o)
set_option maxRecDepth 100000 in
theorem kyz (o : k4z) : OblH TB k40 59 0 k6v (kno o) (retTQ TB k40 ky k8f o) :=
  OblH.of_eq (X := (True ∧ ((True ∧ (∀ i, (k6a o) i = (kl3 o) i) ∧ ((True ∧ True) ∧ True)) ∧ (True ∧ ((True ∧ (True ∧ ((True ∧ True) ∧ True))) ∧ (True ∧ (True ∧ True))))))) (by kernel_rfl) ⟨trivial, ⟨⟨trivial, fun _ => propext ⟨fun h => h.1, fun h => ⟨h⟩⟩, ⟨⟨trivial, trivial⟩, trivial⟩⟩, ⟨trivial, ⟨⟨trivial, ⟨trivial, ⟨⟨trivial, trivial⟩, trivial⟩⟩⟩, ⟨trivial, ⟨trivial, trivial⟩⟩⟩⟩⟩⟩
set_option maxRecDepth 100000 in
theorem kz9 {x : koo} {o : k4z} (h : kdo x o) : SoundH Try.prog ky.f ((ky.args idf x).map (er TB)) ((ky.obs idf x).map (erO TB)) (er TB (ky.val idf o)) ((ky.ops idf o).map (erO TB)) :=
  Con.soundH (c := ky) (C := k40) TBok ⟨inf_ok, (all_cons k106 (all_cons k1lu (all_cons kkf (all_cons k119 (all_cons ksj (all_cons k1ln (all_cons kt5 all_nil))))))), all_nil⟩ mix Try.func8 (show Try.f8.body = some k6v by kernel_rfl) (show Try.f8.ntmps = 59 by kernel_rfl) (show Try.f8.results.toList = k8f by kernel_rfl) rfl h (kyz o)
set_option maxRecDepth 100000 in
theorem kzm {p0 : TBlock} {r0 : Bool} (h :
(((!true) = true →
 k6a (r0, ()) (true, p0.Parent, p0.Height, p0.Miner, p0.Work, p0.Nonce, p0.Txs, ())) ∧
((!true) = false →
(∀ x ∈ p0.Txs, x.Outs.length ≤ 9223372036854775807) ∧ k6a (r0, ()) (((!smallBk p0) : Bool), p0.Parent, p0.Height, p0.Miner, p0.Work, p0.Nonce, p0.Txs, ())))) : kdo (p0.Parent, p0.Height, p0.Miner, p0.Work, p0.Nonce, p0.Txs, ()) (r0, ()) := WPh.of_eq (by kernel_rfl) h
set_option maxRecDepth 100000 in
theorem kus {r0 : Bool} {s14 : Bool} {h0_0 : Int} {h0_1 : Int} {h0_2 : Int} {h0_3 : Int} {h0_4 : Int} {h0_5 : List TTx} (h :
((s14 = true →
 true = r0) ∧
(s14 = false →
(BR (TBlock.mk h0_0 h0_1 h0_2 h0_3 h0_4 h0_5)) ∧ let r1 : List Int := if validB (TBlock.mk h0_0 h0_1 h0_2 h0_3 h0_4 h0_5) = 0 then encBk (TBlock.mk h0_0 h0_1 h0_2 h0_3 h0_4 h0_5) else []
 let r2 : Int := validB (TBlock.mk h0_0 h0_1 h0_2 h0_3 h0_4 h0_5)
(∀ x ∈ (TBlock.mk h0_0 h0_1 h0_2 h0_3 h0_4 h0_5).Txs, TR x ∧ TL x) ∧ let r3 : Int := validB (TBlock.mk h0_0 h0_1 h0_2 h0_3 h0_4 h0_5)
((r3 != 0) = true →
(((r1.length : Int) == 0) = true →
(r2 == r3) = r0) ∧
(((r1.length : Int) == 0) = false →
 false = r0)) ∧
((r3 != 0) = false →
(([] : List Int).length + r1.length) * 1 ≤ 140737488355328 ∧ ([] : List Int).length + r1.length ≤ maxLen ∧ (By (([] : List Int) ++ r1) ∧ (([] : List Int) ++ r1).length ≤ 137438953472) ∧ ∀ (r6 : TBlock) (r7 : Int), (r6 = (decB (([] : List Int) ++ r1)).1 ∧ r7 = (decB (([] : List Int) ++ r1)).2) → (BR (TBlock.mk h0_0 h0_1 h0_2 h0_3 h0_4 h0_5) ∧ VB (TBlock.mk h0_0 h0_1 h0_2 h0_3 h0_4 h0_5)) ∧ let r8 : List Int := encBk (TBlock.mk h0_0 h0_1 h0_2 h0_3 h0_4 h0_5)
 let v9 : Bool := ((strOfNums r1).toList == (strOfNums r8).toList)
(v9 = true →
((r2 == 0) = true →
((r7 == 0) = true →
((TBlock.mk h0_0 h0_1 h0_2 h0_3 h0_4 h0_5).Txs.length ≤ 9223372036854775807 ∧ (∀ x ∈ (TBlock.mk h0_0 h0_1 h0_2 h0_3 h0_4 h0_5).Txs, TD x) ∧ (∀ x ∈ r6.Txs, TD x)) ∧ let r10 : Bool := sameB (TBlock.mk h0_0 h0_1 h0_2 h0_3 h0_4 h0_5) r6
 r10 = r0) ∧
((r7 == 0) = false →
 false = r0)) ∧
((r2 == 0) = false →
 false = r0)) ∧
(v9 = false →
 false = r0))))) : k6a (r0, ()) (s14, h0_0, h0_1, h0_2, h0_3, h0_4, h0_5, ()) := ⟨mpr_of (by kernel_rfl) h⟩
theorem kw9 (p0 : TBlock) (h : BR p0 ∧ ∀ x ∈ p0.Txs, x.Outs.length ≤ 9223372036854775807) : kdo (p0.Parent, p0.Height, p0.Miner, p0.Work, p0.Nonce, p0.Txs, ()) ((true : Bool), ()) := by
  obtain ⟨hr, hl⟩ := h
  have j1 : ∀ s, (s = false → smallBk p0 = true) → k6a (true, ()) (s, p0.Parent, p0.Height, p0.Miner, p0.Work, p0.Nonce, p0.Txs, ()) := by
    intro s hs
    refine kus ⟨fun _ => rfl, fun e => ?_⟩
    obtain ⟨h1, h2⟩ := k1np (hs e)
    simp only [k18f]
    refine ⟨hr, fun x hx => ⟨hr.t x hx, k1px (h2 x hx)⟩, fun e => ?_, fun e => ?_⟩
    · have e : validB p0 ≠ 0 := by simpa using e
      rw [if_neg e]
      exact ⟨fun _ => by simp, fun h => by simp at h⟩
    · have e : validB p0 = 0 := by simpa using e
      have v := (k9j p0).1 e
      have hE : EB p0 (encBk p0) := ⟨hr, v, rfl⟩
      have hle := kin p0.Txs v.t
      have hlen : (encBk p0).length ≤ 100000000 := by unfold encBk; rw [List.length_append, kn1]; omega
      have hby := k1p7 (b := p0) hr.t
      rw [if_pos e]
      refine ⟨by simp; omega, by simp; unfold maxLen; omega, ⟨hby, by simp; omega⟩, ?_⟩
      rw [List.nil_append, decB_eb hE]
      rintro _ _ ⟨rfl, rfl⟩
      refine ⟨⟨hr, v⟩, fun _ => ⟨fun _ => ⟨fun _ => ⟨⟨by omega, v.td hr.t, v.td hr.t⟩, kwu _⟩, fun h => by simp at h⟩, fun h => ?_⟩, fun h => ?_⟩
      · rw [e] at h; cases h
      · rw [strEq hby hby] at h; simp at h
  refine kzm ⟨fun h => by simp at h, fun _ => ⟨hl, j1 _ fun e => by simpa using e⟩⟩
end Go.Proofs.Ytnmakgfmimagmaa
namespace Go.Proofs.Ytnmakgfmimagmaa
open Go Go.Bv Go.Cv Go.Md Go.RowKit
def km : Con TB.den := Con.mk0 79 [.one (.ptr 0 0), .one (.d (.int .i64))] [.cells [.d (.sl (.int .u8)), .d (.bool)]] (.one (.one (.d (.sl (.int .u8))))) [.cells [.d (.sl (.int .u8)), .d (.bool)]]
abbrev kot := HL TB.den (hsT km.ins (hsOs km.pre))
abbrev k51 := HL TB.den (hsV km.res (hsOs km.post))
noncomputable def k47 : Cx TB := ⟨inf, [], [], 4⟩
noncomputable def k75 : Code := Try.f79.body.getD .skip
noncomputable def k8d : List ResultVar := Try.f79.results.toList
noncomputable def k10l (o : k51) : Exit → TSt TB.den → Prop := thenT TB (fun s => ghs TB [] s fun s => WP TB k47 38 1 (cB (cB k75)) .no s (retTQ TB k47 km k8d o)) (retTQ TB k47 km k8d o)
def kar : Tm := ⟨[0], [.cells [.d (.sl (.int .u8)), .d (.bool)]], [0, 1, 18], [.one (.ptr 0 0), .one (.d (.int .i64)), .one (.d (.bool))], 1⟩
noncomputable def klg (o : k51) (i : HL TB.den kar.hs) : Prop := ghs TB [] (kar.fill TB i) fun s => WP TB k47 38 1 (cB (cA (cB k75))) .no s (k10l o)
structure k6f (o : k51) (i : HL TB.den kar.hs) : Prop where
  h : klg o i
noncomputable def k11h (o : k51) : An TB := .nd [] (.jn kar (k6f o) [] .no [] .no) [] .no
noncomputable def kni (o : k51) : An TB := .nd [] .no [] (k11h o)
noncomputable def kdu (x : kot) (o : k51) : Prop := WPh TB k47 38 1 k75 (kni o) (km.st TB x) (retTQ TB k47 km k8d o)
set_option maxRecDepth 100000 in
theorem kyr (o : k51) : OblH TB k47 38 1 k75 (kni o) (retTQ TB k47 km k8d o) :=
  OblH.of_eq (X := (True ∧ ((True ∧ (∀ i, (k6f o) i = (klg o) i) ∧ ((True ∧ (True ∧ True)) ∧ True)) ∧ (True ∧ (True ∧ (True ∧ True)))))) (by kernel_rfl) ⟨trivial, ⟨⟨trivial, fun _ => propext ⟨fun h => h.1, fun h => ⟨h⟩⟩, ⟨⟨trivial, ⟨trivial, trivial⟩⟩, trivial⟩⟩, ⟨trivial, ⟨trivial, ⟨trivial, trivial⟩⟩⟩⟩⟩
set_option maxRecDepth 100000 in
theorem kz5 {x : kot} {o : k51} (h : kdu x o) : SoundH Try.prog km.f ((km.args idf x).map (er TB)) ((km.obs idf x).map (erO TB)) (er TB (km.val idf o)) ((km.ops idf o).map (erO TB)) :=
  Con.soundH (c := km) (C := k47) TBok ⟨inf_ok, all_nil, all_nil⟩ mix Try.func79 (show Try.f79.body = some k75 by kernel_rfl) (show Try.f79.ntmps = 38 by kernel_rfl) (show Try.f79.results.toList = k8d by kernel_rfl) rfl h (kyr o)
set_option maxRecDepth 100000 in
theorem k122 {p1 : Int} {c0_0 : List Int} {c0_1 : Bool} {r0 : List Int} {d0_0 : List Int} {d0_1 : Bool} (h :
((c0_1 = true →
 k6f (r0, d0_0, d0_1, ()) (p1, true, c0_0, c0_1, ())) ∧
(c0_1 = false →
 k6f (r0, d0_0, d0_1, ()) (p1, (decide ((c0_0.length : Int) < p1) : Bool), c0_0, c0_1, ())))) : kdu (p1, c0_0, c0_1, ()) (r0, d0_0, d0_1, ()) := WPh.of_eq (by kernel_rfl) h
set_option maxRecDepth 100000 in
theorem kua {r0 : List Int} {d0_0 : List Int} {d0_1 : Bool} {s1 : Int} {s18 : Bool} {h0_0 : List Int} {h0_1 : Bool} (h :
((s18 = true →
([] : List Int) = r0 ∧ h0_0 = d0_0 ∧ true = d0_1) ∧
(s18 = false →
(0 ≤ s1) ∧ s1 ≤ (h0_0.length : Int) ∧ (0 ≤ s1) ∧ s1 ≤ (h0_0.length : Int) ∧ h0_0.take s1.toNat = r0 ∧ h0_0.drop s1.toNat = d0_0 ∧ h0_1 = d0_1))) : k6f (r0, d0_0, d0_1, ()) (s1, s18, h0_0, h0_1, ()) := ⟨mpr_of (by kernel_rfl) h⟩
theorem bd79 : Callable Try.prog 79 := ⟨by rw [Try.func79]; kernel_rfl, by rw [Try.func79]; show some _ ≠ some _; decide⟩
theorem kvy (p1 : Int) (c0_0 : List Int) (c0_1 : Bool) (h : 0 ≤ p1) : kdu (p1, c0_0, c0_1, ()) (((tkB c0_0 c0_1 p1).l : List Int), ((tkB c0_0 c0_1 p1).b : List Int), ((tkB c0_0 c0_1 p1).f : Bool), ()) := by
  have j : ∀ s, (s = decide (c0_1 = true ∨ (c0_0.length : Int) < p1)) → k6f ((tkB c0_0 c0_1 p1).l, (tkB c0_0 c0_1 p1).b, (tkB c0_0 c0_1 p1).f, ()) (p1, s, c0_0, c0_1, ()) := by
    intro s hs
    refine kua ⟨fun e => ?_, fun e => ?_⟩
    · have e := of_decide_eq_true (hs.symm.trans e)
      unfold tkB
      rw [if_pos e]
      exact ⟨rfl, rfl, rfl⟩
    · have e := of_decide_eq_false (hs.symm.trans e)
      have hf : c0_1 = false := by
        cases c0_1
        · rfl
        · exact absurd (.inl rfl) e
      have hl : ¬ (c0_0.length : Int) < p1 := fun h => e (.inr h)
      unfold tkB
      rw [if_neg e]
      exact ⟨h, by omega, h, by omega, rfl, rfl, hf⟩
  exact k122 ⟨fun e => j _ (by simp [e]), fun e => j _ (by simp [e])⟩
noncomputable def kaq : Con TB.den := { km with R := fun x K => (fun (p1 : Int) (c0_0 : List Int) (c0_1 : Bool) => ((0 ≤ p1) ∧ ∀ (v0 : List Int) (v1 : List Int) (v2 : Bool), (v0 = ((tkB c0_0 c0_1 p1).l) ∧ v1 = ((tkB c0_0 c0_1 p1).b) ∧ v2 = ((tkB c0_0 c0_1 p1).f)) → K (v0, v1, v2, ()) : Prop)) x.1 x.2.1 x.2.2.1 }
theorem kgj : kaq.Ok Try.prog TB := ⟨bd79, fun x K hx => ⟨((fun (p1 : Int) (c0_0 : List Int) (c0_1 : Bool) => ((tkB c0_0 c0_1 p1).l : List Int)) x.1 x.2.1 x.2.2.1, (fun (p1 : Int) (c0_0 : List Int) (c0_1 : Bool) => ((tkB c0_0 c0_1 p1).b : List Int)) x.1 x.2.1 x.2.2.1, (fun (p1 : Int) (c0_0 : List Int) (c0_1 : Bool) => ((tkB c0_0 c0_1 p1).f : Bool)) x.1 x.2.1 x.2.2.1, ()), hx.2 ((fun (p1 : Int) (c0_0 : List Int) (c0_1 : Bool) => (((tkB c0_0 c0_1 p1).l))) x.1 x.2.1 x.2.2.1) ((fun (p1 : Int) (c0_0 : List Int) (c0_1 : Bool) => (((tkB c0_0 c0_1 p1).b))) x.1 x.2.1 x.2.2.1) ((fun (p1 : Int) (c0_0 : List Int) (c0_1 : Bool) => (((tkB c0_0 c0_1 p1).f))) x.1 x.2.1 x.2.2.1) ⟨rfl, rfl, rfl⟩, kz5 (kvy x.1 x.2.1 x.2.2.1 hx.1)⟩⟩
end Go.Proofs.Ytnmakgfmimagmaa
namespace Go.Proofs.Ytnmakgfmimagmaa
open Go Go.Bv Go.Cv Go.Md Go.RowKit
def k33 : Con TB.den := Con.mk0 78 [.one (.d (.sl (.int .u8)))] [] (.one (.one (.d (.int .u64)))) []
abbrev k14i := HL TB.den (hsT k33.ins (hsOs k33.pre))
abbrev k9g := HL TB.den (hsV k33.res (hsOs k33.post))
noncomputable def k6i : Cx TB := ⟨inf, [], [], 4⟩
noncomputable def kcn : Code := Try.f78.body.getD .skip
noncomputable def kfm : List ResultVar := Try.f78.results.toList
noncomputable def k1jr (o : k9g) : Exit → TSt TB.den → Prop := thenT TB (fun s => ghs TB [] s fun s => WP TB k6i 21 0 (cB (cB (cB kcn))) .no s (retTQ TB k6i k33 kfm o)) (retTQ TB k6i k33 kfm o)
def ka3 : Tm := ⟨[], [], [0, 3, 4], [.one (.d (.sl (.int .u8))), .one (.d (.int .u64)), .one (.d (.int .i64))], 0⟩
noncomputable def k1jk (o : k9g) (nx1 : HL TB.den ka3.hs → Prop) : Exit → TSt TB.den → Prop := thenT TB (fun s => ka3.mat TB 0 s nx1) (blockT TB 0 (k1jr o))
noncomputable def kft (o : k9g) (nx1 : HL TB.den ka3.hs → Prop) (i : HL TB.den ka3.hs) : Prop := WP TB k6i 21 0 (cA (cA (cB (cA (cB (cB kcn)))))) .no (ka3.fill TB i) (k1jk o nx1)
noncomputable def k1kj (o : k9g) : An TB := .nd [] .no [] (.lp [] ka3 (kft o) fun nx1 => .no)
noncomputable def k10b (o : k9g) : An TB := .nd [] .no [] (.nd [] .no [] (.nd [] (k1kj o) [] .no))
noncomputable def kml (x : k14i) (o : k9g) : Prop := WPh TB k6i 21 0 kcn (k10b o) (k33.st TB x) (retTQ TB k6i k33 kfm o)
set_option maxRecDepth 100000 in
theorem k1gi (o : k9g) : OblH TB k6i 21 0 kcn (k10b o) (retTQ TB k6i k33 kfm o) :=
  OblH.of_eq (X := (True ∧ (True ∧ ((True ∧ ((∀ nx i, (kft o) nx i = (kft o) nx i) ∧ ∀ nx1 : HL TB.den ka3.hs → Prop, ((True ∧ (True ∧ True)) ∧ (True ∧ True)))) ∧ (True ∧ True))))) (by kernel_rfl) ⟨trivial, ⟨trivial, ⟨⟨trivial, ⟨fun _ _ => rfl, fun _ => ⟨⟨trivial, ⟨trivial, trivial⟩⟩, ⟨trivial, trivial⟩⟩⟩⟩, ⟨trivial, trivial⟩⟩⟩⟩
set_option maxRecDepth 100000 in
theorem k1hk {x : k14i} {o : k9g} (h : kml x o) : SoundH Try.prog k33.f ((k33.args idf x).map (er TB)) ((k33.obs idf x).map (erO TB)) (er TB (k33.val idf o)) ((k33.ops idf o).map (erO TB)) :=
  Con.soundH (c := k33) (C := k6i) TBok ⟨inf_ok, all_nil, all_nil⟩ mix Try.func78 (show Try.f78.body = some kcn by kernel_rfl) (show Try.f78.ntmps = 21 by kernel_rfl) (show Try.f78.results.toList = kfm by kernel_rfl) rfl h (k1gi o)
set_option maxRecDepth 100000 in
theorem k1l1 {p0 : List Int} {r0 : Int} (h :
(Md.Loop (p0, (0 : Int), (IntKind.i64.wrap ((p0.length : Int) - 1) : Int), ()) (kft (r0, ())))) : kml (p0, ()) (r0, ()) := WPh.of_eq (by kernel_rfl) h
def k112 (r0 : Int) (k1 : Int → Int → Prop) (s0 : List Int) (s3 : Int) (s4 : Int) : Prop :=
(decide (0 ≤ s4) = true →
(0 ≤ s4) ∧ s4 < (s0.length : Int) ∧ let v1 : Int := IntKind.u64.wrap ((IntKind.u64.wrap (s3 * 256)) + (IntKind.u64.wrap (ix s0 s4)))
 k1 v1 (IntKind.i64.wrap (s4 - 1) : Int)) ∧
(decide (0 ≤ s4) = false →
 s3 = r0)
set_option maxRecDepth 100000 in
theorem k1h0 {r0 : Int} {s0 : List Int} {s3 : Int} {s4 : Int} (inv : Int → Int → Prop) (μ : Int → Int → Nat) (h0 : inv s3 s4) (hs : ∀ (s3 : Int) (s4 : Int), inv s3 s4 → k112 r0 (fun s3q s4q => inv s3q s4q ∧ μ s3q s4q < μ s3 s4) s0 s3 s4) : Md.Loop (s0, s3, s4, ()) (kft (r0, ())) :=
  ⟨⟨fun s : (List Int) × Int × Int × Unit => (s.1 = s0) ∧ inv s.2.1 s.2.2.1, fun s : (List Int) × Int × Int × Unit => μ s.2.1 s.2.2.1, ⟨rfl, h0⟩, fun (s0p, s3p, s4p, ()) ⟨eq0, hi⟩ => by
    have eq0 : s0p = s0 := eq0; subst s0p; exact mpr_of (by kernel_rfl) ((congrArg (fun k => k112 r0 k s0 s3p s4p) (lpk2 (rfl : s0 = s0) inv (fun s3q s4q => μ s3q s4q < μ s3p s4p))).mpr (hs s3p s4p hi))⟩⟩
theorem bd78 : Callable Try.prog 78 := ⟨by rw [Try.func78]; kernel_rfl, by rw [Try.func78]; show some _ ≠ some _; decide⟩
theorem k1dh (p0 : List Int) (h : By p0 ∧ p0.length ≤ 8) : kml (p0, ()) ((val p0 : Int), ()) := by
  obtain ⟨hb, hl⟩ := h
  refine k1l1 ?_
  rw [wi ((p0.length : Int) - 1) (by omega) (by omega)]
  refine k1h0 (fun n i => -1 ≤ i ∧ i < p0.length ∧ n = val (p0.drop (i + 1).toNat)) (fun _ i => (i + 1).toNat) ⟨by omega, by omega, ?_⟩ ?_
  · rw [List.drop_eq_nil_of_le (by omega)]; rfl
  rintro n i ⟨g0, g1, rfl⟩
  refine ⟨fun hh => ?_, fun hh => ?_⟩
  · have hh := of_decide_eq_true hh
    have hx := hb _ (ix_mem p0 i hh g1)
    have hbb : By (p0.drop (i + 1).toNat) := hb.drop _
    have hv := kb5 _ hbb
    have hle : (p0.drop (i + 1).toNat).length ≤ 7 := by rw [List.length_drop]; omega
    have h7 := kjt hle
    rw [wu (ix p0 i) (by omega) (by omega), wu (val (p0.drop (i + 1).toNat) * 256) (by omega) (by omega), wu _ (by omega) (by omega), wi (i - 1) (by omega) (by omega)]
    refine ⟨hh, by omega, ⟨by omega, by omega, ?_⟩, by omega⟩
    rw [show i - 1 + 1 = i by omega, drop_ix _ i hh g1]
    simp only [val]
    omega
  · have hh := of_decide_eq_false hh
    rw [show (i + 1).toNat = 0 by omega]
    rfl
noncomputable def kof : Con TB.den := { k33 with R := fun x K => (fun (p0 : List Int) => ((By p0 ∧ p0.length ≤ 8) ∧ ∀ (v0 : Int), (v0 = (val p0)) → K (v0, ()) : Prop)) x.1 }
theorem k11s : kof.Ok Try.prog TB := ⟨bd78, fun x K hx => ⟨((fun (p0 : List Int) => (val p0 : Int)) x.1, ()), hx.2 ((fun (p0 : List Int) => ((val p0))) x.1) rfl, k1hk (k1dh x.1 hx.1)⟩⟩
end Go.Proofs.Ytnmakgfmimagmaa
namespace Go.Proofs.Ytnmakgfmimagmaa
open Go Go.Bv Go.Cv Go.Md Go.RowKit
def kt : Con TB.den := Con.mk0 55 [.one (.ptr 0 0), .one (.d (.int .i64))] [.cells [.d (.sl (.int .u8)), .d (.bool)]] (.one (.one (.d (.int .i64)))) [.cells [.d (.sl (.int .u8)), .d (.bool)]]
abbrev kqh := HL TB.den (hsT kt.ins (hsOs kt.pre))
abbrev k5b := HL TB.den (hsV kt.res (hsOs kt.post))
noncomputable def k4f : Cx TB := ⟨inf, [kaq, kof], [], 4⟩
noncomputable def k7e : Code := Try.f55.body.getD .skip
noncomputable def k90 : List ResultVar := Try.f55.results.toList
noncomputable def k12y (o : k5b) : Exit → TSt TB.den → Prop := thenT TB (fun s => ghs TB [] s fun s => WP TB k4f 23 1 (cB (cB (cB k7e))) .no s (retTQ TB k4f kt k90 o)) (retTQ TB k4f kt k90 o)
def kbg : Tm := ⟨[0], [.cells [.d (.sl (.int .u8)), .d (.bool)]], [0, 5, 18], [.one (.ptr 0 0), .one (.d (.int .i64)), .one (.d (.bool))], 1⟩
noncomputable def knx (o : k5b) (i : HL TB.den kbg.hs) : Prop := ghs TB [] (kbg.fill TB i) fun s => WP TB k4f 23 1 (cB (cA (cB (cB k7e)))) .no s (k12y o)
structure k79 (o : k5b) (i : HL TB.den kbg.hs) : Prop where
  h : knx o i
noncomputable def k13e (o : k5b) : An TB := .nd [] (.jn kbg (k79 o) [] .no [] .no) [] .no
noncomputable def kp1 (o : k5b) : An TB := .nd [] .no [] (.nd [] .no [] (k13e o))
noncomputable def kew (x : kqh) (o : k5b) : Prop := WPh TB k4f 23 1 k7e (kp1 o) (kt.st TB x) (retTQ TB k4f kt k90 o)
set_option maxRecDepth 100000 in
theorem k116 (o : k5b) : OblH TB k4f 23 1 k7e (kp1 o) (retTQ TB k4f kt k90 o) :=
  OblH.of_eq (X := (True ∧ (True ∧ ((True ∧ (∀ i, (k79 o) i = (knx o) i) ∧ ((True ∧ (True ∧ True)) ∧ True)) ∧ (True ∧ True))))) (by kernel_rfl) ⟨trivial, ⟨trivial, ⟨⟨trivial, fun _ => propext ⟨fun h => h.1, fun h => ⟨h⟩⟩, ⟨⟨trivial, ⟨trivial, trivial⟩⟩, trivial⟩⟩, ⟨trivial, trivial⟩⟩⟩⟩
set_option maxRecDepth 100000 in
theorem kzr {x : kqh} {o : k5b} (h : kew x o) : SoundH Try.prog kt.f ((kt.args idf x).map (er TB)) ((kt.obs idf x).map (erO TB)) (er TB (kt.val idf o)) ((kt.ops idf o).map (erO TB)) :=
  Con.soundH (c := kt) (C := k4f) TBok ⟨inf_ok, (all_cons kgj (all_cons k11s all_nil)), all_nil⟩ mix Try.func55 (show Try.f55.body = some k7e by kernel_rfl) (show Try.f55.ntmps = 23 by kernel_rfl) (show Try.f55.results.toList = k90 by kernel_rfl) rfl h (k116 o)
set_option maxRecDepth 100000 in
theorem k133 {p1 : Int} {c0_0 : List Int} {c0_1 : Bool} {r0 : Int} {d0_0 : List Int} {d0_1 : Bool} (h :
((0 ≤ (4 : Int)) ∧ ∀ (r5 : List Int) (r6 : List Int) (r7 : Bool), (r5 = (tkB c0_0 c0_1 (4 : Int)).l ∧ r6 = (tkB c0_0 c0_1 (4 : Int)).b ∧ r7 = (tkB c0_0 c0_1 (4 : Int)).f) → (By r5 ∧ r5.length ≤ 8) ∧ ∀ (r8 : Int), (r8 = val r5) → (r7 = true →
 k79 (r0, d0_0, d0_1, ()) ((IntKind.i64.wrap r8 : Int), true, r6, r7, ())) ∧
(r7 = false →
 k79 (r0, d0_0, d0_1, ()) ((IntKind.i64.wrap r8 : Int), (decide (p1 < (IntKind.i64.wrap r8)) : Bool), r6, r7, ())))) : kew (p1, c0_0, c0_1, ()) (r0, d0_0, d0_1, ()) := WPh.of_eq (by kernel_rfl) h
set_option maxRecDepth 100000 in
theorem kw5 {r0 : Int} {d0_0 : List Int} {d0_1 : Bool} {s5 : Int} {s18 : Bool} {h0_0 : List Int} {h0_1 : Bool} (h :
((s18 = true →
 0 = r0 ∧ h0_0 = d0_0 ∧ true = d0_1) ∧
(s18 = false →
 s5 = r0 ∧ h0_0 = d0_0 ∧ h0_1 = d0_1))) : k79 (r0, d0_0, d0_1, ()) (s5, s18, h0_0, h0_1, ()) := ⟨mpr_of (by kernel_rfl) h⟩
theorem bd55 : Callable Try.prog 55 := ⟨by rw [Try.func55]; kernel_rfl, by rw [Try.func55]; show some _ ≠ some _; decide⟩
theorem kyx (p1 : Int) (c0_0 : List Int) (c0_1 : Bool) (h : By c0_0) : kew (p1, c0_0, c0_1, ()) (((nB 4 c0_0 c0_1 p1).n : Int), ((nB 4 c0_0 c0_1 p1).b : List Int), ((nB 4 c0_0 c0_1 p1).f : Bool), ()) := by
  refine k133 ⟨by omega, ?_⟩
  rintro _ _ _ ⟨rfl, rfl, rfl⟩
  have hl := tkB_len (b := c0_0) (f := c0_1) (k := 4)
  refine ⟨⟨tkB_l h, by omega⟩, ?_⟩
  rintro _ rfl
  have hv := kb5 _ (tkB_l (b := c0_0) (f := c0_1) (k := 4) h)
  have h4 : (256 : Int) ^ (tkB c0_0 c0_1 4).l.length ≤ 256 ^ 4 := kjt (by omega)
  rw [wi (val (tkB c0_0 c0_1 4).l) (by omega) (by omega)]
  have j : ∀ s, (s = decide ((tkB c0_0 c0_1 4).f = true ∨ p1 < val (tkB c0_0 c0_1 4).l)) → k79 ((nB 4 c0_0 c0_1 p1).n, (nB 4 c0_0 c0_1 p1).b, (nB 4 c0_0 c0_1 p1).f, ()) (val (tkB c0_0 c0_1 4).l, s, (tkB c0_0 c0_1 4).b, (tkB c0_0 c0_1 4).f, ()) := by
    intro s hs
    refine kw5 ⟨fun e => ?_, fun e => ?_⟩
    · have e := of_decide_eq_true (hs.symm.trans e)
      unfold nB
      rw [if_pos e]
      exact ⟨rfl, rfl, rfl⟩
    · have e := of_decide_eq_false (hs.symm.trans e)
      have hf : (tkB c0_0 c0_1 4).f = false := by
        cases hc : (tkB c0_0 c0_1 4).f
        · rfl
        · exact absurd (.inl hc) e
      unfold nB
      rw [if_neg e]
      exact ⟨rfl, rfl, hf⟩
  exact ⟨fun e => j _ (by simp [e]), fun e => j _ (by simp [e])⟩
noncomputable def kgt : Con TB.den := { kt with R := fun x K => (fun (p1 : Int) (c0_0 : List Int) (c0_1 : Bool) => ((By c0_0) ∧ ∀ (v0 : Int) (v1 : List Int) (v2 : Bool), (v0 = ((nB 4 c0_0 c0_1 p1).n) ∧ v1 = ((nB 4 c0_0 c0_1 p1).b) ∧ v2 = ((nB 4 c0_0 c0_1 p1).f)) → K (v0, v1, v2, ()) : Prop)) x.1 x.2.1 x.2.2.1 }
theorem kp0 : kgt.Ok Try.prog TB := ⟨bd55, fun x K hx => ⟨((fun (p1 : Int) (c0_0 : List Int) (c0_1 : Bool) => ((nB 4 c0_0 c0_1 p1).n : Int)) x.1 x.2.1 x.2.2.1, (fun (p1 : Int) (c0_0 : List Int) (c0_1 : Bool) => ((nB 4 c0_0 c0_1 p1).b : List Int)) x.1 x.2.1 x.2.2.1, (fun (p1 : Int) (c0_0 : List Int) (c0_1 : Bool) => ((nB 4 c0_0 c0_1 p1).f : Bool)) x.1 x.2.1 x.2.2.1, ()), hx.2 ((fun (p1 : Int) (c0_0 : List Int) (c0_1 : Bool) => (((nB 4 c0_0 c0_1 p1).n))) x.1 x.2.1 x.2.2.1) ((fun (p1 : Int) (c0_0 : List Int) (c0_1 : Bool) => (((nB 4 c0_0 c0_1 p1).b))) x.1 x.2.1 x.2.2.1) ((fun (p1 : Int) (c0_0 : List Int) (c0_1 : Bool) => (((nB 4 c0_0 c0_1 p1).f))) x.1 x.2.1 x.2.2.1) ⟨rfl, rfl, rfl⟩, kzr (kyx x.1 x.2.1 x.2.2.1 hx.1)⟩⟩
end Go.Proofs.Ytnmakgfmimagmaa
namespace Go.Proofs.Ytnmakgfmimagmaa
open Go Go.Bv Go.Cv Go.Md Go.RowKit
def k19 : Con TB.den := Con.mk0 57 [.one (.ptr 0 0), .one (.d (.int .i64))] [.cells [.d (.sl (.int .u8)), .d (.bool)]] (.one (.one (.d (.sl (.int .u8))))) [.cells [.d (.sl (.int .u8)), .d (.bool)]]
abbrev knq := HL TB.den (hsT k19.ins (hsOs k19.pre))
abbrev kbb := HL TB.den (hsV k19.res (hsOs k19.post))
noncomputable def k7f : Cx TB := ⟨inf, [kgt, kaq], [], 4⟩
noncomputable def kdd : Code := Try.f57.body.getD .skip
noncomputable def kez : List ResultVar := Try.f57.results.toList
noncomputable def klf (o : kbb) : An TB := .no
noncomputable def kc9 (x : knq) (o : kbb) : Prop := WPh TB k7f 10 1 kdd (klf o) (k19.st TB x) (retTQ TB k7f k19 kez o)
set_option maxRecDepth 100000 in
theorem kwt (o : kbb) : OblH TB k7f 10 1 kdd (klf o) (retTQ TB k7f k19 kez o) :=
  OblH.of_eq (X := (True ∧ (True ∧ True))) (by kernel_rfl) ⟨trivial, ⟨trivial, trivial⟩⟩
set_option maxRecDepth 100000 in
theorem kwo {x : knq} {o : kbb} (h : kc9 x o) : SoundH Try.prog k19.f ((k19.args idf x).map (er TB)) ((k19.obs idf x).map (erO TB)) (er TB (k19.val idf o)) ((k19.ops idf o).map (erO TB)) :=
  Con.soundH (c := k19) (C := k7f) TBok ⟨inf_ok, (all_cons kp0 (all_cons kgj all_nil)), all_nil⟩ mix Try.func57 (show Try.f57.body = some kdd by kernel_rfl) (show Try.f57.ntmps = 10 by kernel_rfl) (show Try.f57.results.toList = kez by kernel_rfl) rfl h (kwt o)
set_option maxRecDepth 100000 in
theorem kz4 {p1 : Int} {c0_0 : List Int} {c0_1 : Bool} {r0 : List Int} {d0_0 : List Int} {d0_1 : Bool} (h :
((By c0_0) ∧ ∀ (r7 : Int) (r8 : List Int) (r9 : Bool), (r7 = (nB 4 c0_0 c0_1 p1).n ∧ r8 = (nB 4 c0_0 c0_1 p1).b ∧ r9 = (nB 4 c0_0 c0_1 p1).f) → (0 ≤ r7) ∧ ∀ (r10 : List Int) (r11 : List Int) (r12 : Bool), (r10 = (tkB r8 r9 r7).l ∧ r11 = (tkB r8 r9 r7).b ∧ r12 = (tkB r8 r9 r7).f) → r10 = r0 ∧ r11 = d0_0 ∧ r12 = d0_1)) : kc9 (p1, c0_0, c0_1, ()) (r0, d0_0, d0_1, ()) := WPh.of_eq (by kernel_rfl) h
theorem bd57 : Callable Try.prog 57 := ⟨by rw [Try.func57]; kernel_rfl, by rw [Try.func57]; show some _ ≠ some _; decide⟩
theorem kuv (p1 : Int) (c0_0 : List Int) (c0_1 : Bool) (h : By c0_0) : kc9 (p1, c0_0, c0_1, ()) (((bB c0_0 c0_1 p1).l : List Int), ((bB c0_0 c0_1 p1).b : List Int), ((bB c0_0 c0_1 p1).f : Bool), ()) := by
  refine kz4 ⟨h, ?_⟩
  rintro _ _ _ ⟨rfl, rfl, rfl⟩
  refine ⟨(nB_n h (by omega)).1, ?_⟩
  rintro _ _ _ ⟨rfl, rfl, rfl⟩
  exact ⟨rfl, rfl, rfl⟩
noncomputable def kkx : Con TB.den := { k19 with R := fun x K => (fun (p1 : Int) (c0_0 : List Int) (c0_1 : Bool) => ((By c0_0) ∧ ∀ (v0 : List Int) (v1 : List Int) (v2 : Bool), (v0 = ((bB c0_0 c0_1 p1).l) ∧ v1 = ((bB c0_0 c0_1 p1).b) ∧ v2 = ((bB c0_0 c0_1 p1).f)) → K (v0, v1, v2, ()) : Prop)) x.1 x.2.1 x.2.2.1 }
theorem kz1 : kkx.Ok Try.prog TB := ⟨bd57, fun x K hx => ⟨((fun (p1 : Int) (c0_0 : List Int) (c0_1 : Bool) => ((bB c0_0 c0_1 p1).l : List Int)) x.1 x.2.1 x.2.2.1, (fun (p1 : Int) (c0_0 : List Int) (c0_1 : Bool) => ((bB c0_0 c0_1 p1).b : List Int)) x.1 x.2.1 x.2.2.1, (fun (p1 : Int) (c0_0 : List Int) (c0_1 : Bool) => ((bB c0_0 c0_1 p1).f : Bool)) x.1 x.2.1 x.2.2.1, ()), hx.2 ((fun (p1 : Int) (c0_0 : List Int) (c0_1 : Bool) => (((bB c0_0 c0_1 p1).l))) x.1 x.2.1 x.2.2.1) ((fun (p1 : Int) (c0_0 : List Int) (c0_1 : Bool) => (((bB c0_0 c0_1 p1).b))) x.1 x.2.1 x.2.2.1) ((fun (p1 : Int) (c0_0 : List Int) (c0_1 : Bool) => (((bB c0_0 c0_1 p1).f))) x.1 x.2.1 x.2.2.1) ⟨rfl, rfl, rfl⟩, kwo (kuv x.1 x.2.1 x.2.2.1 hx.1)⟩⟩
end Go.Proofs.Ytnmakgfmimagmaa
namespace Go.Proofs.Ytnmakgfmimagmaa
open Go Go.Bv Go.Cv Go.Md Go.RowKit
def kl : Con TB.den := Con.mk0 54 [.one (.ptr 0 0), .one (.d (.int .u64))] [.cells [.d (.sl (.int .u8)), .d (.bool)]] (.one (.one (.d (.int .u64)))) [.cells [.d (.sl (.int .u8)), .d (.bool)]]
abbrev kos := HL TB.den (hsT kl.ins (hsOs kl.pre))
abbrev k4y := HL TB.den (hsV kl.res (hsOs kl.post))
noncomputable def k43 : Cx TB := ⟨inf, [kaq, kof], [], 4⟩
noncomputable def k6l : Code := Try.f54.body.getD .skip
noncomputable def k8e : List ResultVar := Try.f54.results.toList
noncomputable def k10r (o : k4y) : Exit → TSt TB.den → Prop := thenT TB (fun s => ghs TB [] s fun s => WP TB k43 22 1 (cB (cB (cB k6l))) .no s (retTQ TB k43 kl k8e o)) (retTQ TB k43 kl k8e o)
def kao : Tm := ⟨[0], [.cells [.d (.sl (.int .u8)), .d (.bool)]], [0, 5, 17], [.one (.ptr 0 0), .one (.d (.int .u64)), .one (.d (.bool))], 1⟩
noncomputable def kl1 (o : k4y) (i : HL TB.den kao.hs) : Prop := ghs TB [] (kao.fill TB i) fun s => WP TB k43 22 1 (cB (cA (cB (cB k6l)))) .no s (k10r o)
structure k6e (o : k4y) (i : HL TB.den kao.hs) : Prop where
  h : kl1 o i
noncomputable def k11g (o : k4y) : An TB := .nd [] (.jn kao (k6e o) [] .no [] .no) [] .no
noncomputable def knp (o : k4y) : An TB := .nd [] .no [] (.nd [] .no [] (k11g o))
noncomputable def ke0 (x : kos) (o : k4y) : Prop := WPh TB k43 22 1 k6l (knp o) (kl.st TB x) (retTQ TB k43 kl k8e o)
set_option maxRecDepth 100000 in
theorem kys (o : k4y) : OblH TB k43 22 1 k6l (knp o) (retTQ TB k43 kl k8e o) :=
  OblH.of_eq (X := (True ∧ (True ∧ ((True ∧ (∀ i, (k6e o) i = (kl1 o) i) ∧ ((True ∧ (True ∧ True)) ∧ True)) ∧ (True ∧ True))))) (by kernel_rfl) ⟨trivial, ⟨trivial, ⟨⟨trivial, fun _ => propext ⟨fun h => h.1, fun h => ⟨h⟩⟩, ⟨⟨trivial, ⟨trivial, trivial⟩⟩, trivial⟩⟩, ⟨trivial, trivial⟩⟩⟩⟩
set_option maxRecDepth 100000 in
theorem kyy {x : kos} {o : k4y} (h : ke0 x o) : SoundH Try.prog kl.f ((kl.args idf x).map (er TB)) ((kl.obs idf x).map (erO TB)) (er TB (kl.val idf o)) ((kl.ops idf o).map (erO TB)) :=
  Con.soundH (c := kl) (C := k43) TBok ⟨inf_ok, (all_cons kgj (all_cons k11s all_nil)), all_nil⟩ mix Try.func54 (show Try.f54.body = some k6l by kernel_rfl) (show Try.f54.ntmps = 22 by kernel_rfl) (show Try.f54.results.toList = k8e by kernel_rfl) rfl h (kys o)
set_option maxRecDepth 100000 in
theorem k11t {p1 : Int} {c0_0 : List Int} {c0_1 : Bool} {r0 : Int} {d0_0 : List Int} {d0_1 : Bool} (h :
((0 ≤ (8 : Int)) ∧ ∀ (r5 : List Int) (r6 : List Int) (r7 : Bool), (r5 = (tkB c0_0 c0_1 (8 : Int)).l ∧ r6 = (tkB c0_0 c0_1 (8 : Int)).b ∧ r7 = (tkB c0_0 c0_1 (8 : Int)).f) → (By r5 ∧ r5.length ≤ 8) ∧ ∀ (r8 : Int), (r8 = val r5) → (r7 = true →
 k6e (r0, d0_0, d0_1, ()) (r8, true, r6, r7, ())) ∧
(r7 = false →
 k6e (r0, d0_0, d0_1, ()) (r8, (decide (p1 < r8) : Bool), r6, r7, ())))) : ke0 (p1, c0_0, c0_1, ()) (r0, d0_0, d0_1, ()) := WPh.of_eq (by kernel_rfl) h
set_option maxRecDepth 100000 in
theorem kvf {r0 : Int} {d0_0 : List Int} {d0_1 : Bool} {s5 : Int} {s17 : Bool} {h0_0 : List Int} {h0_1 : Bool} (h :
((s17 = true →
 0 = r0 ∧ h0_0 = d0_0 ∧ true = d0_1) ∧
(s17 = false →
 s5 = r0 ∧ h0_0 = d0_0 ∧ h0_1 = d0_1))) : k6e (r0, d0_0, d0_1, ()) (s5, s17, h0_0, h0_1, ()) := ⟨mpr_of (by kernel_rfl) h⟩
theorem bd54 : Callable Try.prog 54 := ⟨by rw [Try.func54]; kernel_rfl, by rw [Try.func54]; show some _ ≠ some _; decide⟩
theorem kwi (p1 : Int) (c0_0 : List Int) (c0_1 : Bool) (h : By c0_0) : ke0 (p1, c0_0, c0_1, ()) (((nB 8 c0_0 c0_1 p1).n : Int), ((nB 8 c0_0 c0_1 p1).b : List Int), ((nB 8 c0_0 c0_1 p1).f : Bool), ()) := by
  refine k11t ⟨by omega, ?_⟩
  rintro _ _ _ ⟨rfl, rfl, rfl⟩
  have hl := tkB_len (b := c0_0) (f := c0_1) (k := 8)
  refine ⟨⟨tkB_l h, by omega⟩, ?_⟩
  rintro _ rfl
  have j : ∀ s, (s = decide ((tkB c0_0 c0_1 8).f = true ∨ p1 < val (tkB c0_0 c0_1 8).l)) → k6e ((nB 8 c0_0 c0_1 p1).n, (nB 8 c0_0 c0_1 p1).b, (nB 8 c0_0 c0_1 p1).f, ()) (val (tkB c0_0 c0_1 8).l, s, (tkB c0_0 c0_1 8).b, (tkB c0_0 c0_1 8).f, ()) := by
    intro s hs
    refine kvf ⟨fun e => ?_, fun e => ?_⟩
    · have e := of_decide_eq_true (hs.symm.trans e)
      unfold nB
      rw [if_pos e]
      exact ⟨rfl, rfl, rfl⟩
    · have e := of_decide_eq_false (hs.symm.trans e)
      have hf : (tkB c0_0 c0_1 8).f = false := by
        cases hc : (tkB c0_0 c0_1 8).f
        · rfl
        · exact absurd (.inl hc) e
      unfold nB
      rw [if_neg e]
      exact ⟨rfl, rfl, hf⟩
  exact ⟨fun e => j _ (by simp [e]), fun e => j _ (by simp [e])⟩
noncomputable def kle : Con TB.den := { kl with R := fun x K => (fun (p1 : Int) (c0_0 : List Int) (c0_1 : Bool) => ((By c0_0) ∧ ∀ (v0 : Int) (v1 : List Int) (v2 : Bool), (v0 = ((nB 8 c0_0 c0_1 p1).n) ∧ v1 = ((nB 8 c0_0 c0_1 p1).b) ∧ v2 = ((nB 8 c0_0 c0_1 p1).f)) → K (v0, v1, v2, ()) : Prop)) x.1 x.2.1 x.2.2.1 }
theorem k12a : kle.Ok Try.prog TB := ⟨bd54, fun x K hx => ⟨((fun (p1 : Int) (c0_0 : List Int) (c0_1 : Bool) => ((nB 8 c0_0 c0_1 p1).n : Int)) x.1 x.2.1 x.2.2.1, (fun (p1 : Int) (c0_0 : List Int) (c0_1 : Bool) => ((nB 8 c0_0 c0_1 p1).b : List Int)) x.1 x.2.1 x.2.2.1, (fun (p1 : Int) (c0_0 : List Int) (c0_1 : Bool) => ((nB 8 c0_0 c0_1 p1).f : Bool)) x.1 x.2.1 x.2.2.1, ()), hx.2 ((fun (p1 : Int) (c0_0 : List Int) (c0_1 : Bool) => (((nB 8 c0_0 c0_1 p1).n))) x.1 x.2.1 x.2.2.1) ((fun (p1 : Int) (c0_0 : List Int) (c0_1 : Bool) => (((nB 8 c0_0 c0_1 p1).b))) x.1 x.2.1 x.2.2.1) ((fun (p1 : Int) (c0_0 : List Int) (c0_1 : Bool) => (((nB 8 c0_0 c0_1 p1).f))) x.1 x.2.1 x.2.2.1) ⟨rfl, rfl, rfl⟩, kyy (kwi x.1 x.2.1 x.2.2.1 hx.1)⟩⟩
end Go.Proofs.Ytnmakgfmimagmaa
namespace Go.Proofs.Ytnmakgfmimagmaa
open Go Go.Bv Go.Cv Go.Md Go.RowKit
def k3r : Con TB.den := Con.mk0 80 [.one (.d (.sl (.int .u8))), .one (.d (.int .i64))] [] (.tup [.one (.d (.int .u64)), .one (.d (.sl (.int .u8))), .one (.d (.bool))]) []
abbrev k1a7 := HL TB.den (hsT k3r.ins (hsOs k3r.pre))
abbrev k9b := HL TB.den (hsV k3r.res (hsOs k3r.post))
noncomputable def k81 : Cx TB := ⟨inf, [], [], 4⟩
noncomputable def ke6 : Code := Try.f80.body.getD .skip
noncomputable def kib : List ResultVar := Try.f80.results.toList
noncomputable def k1md (o : k9b) : Exit → TSt TB.den → Prop := thenT TB (fun s => ghs TB [] s fun s => WP TB k81 31 0 (cB (cB (cB (cB ke6)))) .no s (retTQ TB k81 k3r kib o)) (retTQ TB k81 k3r kib o)
def kbz : Tm := ⟨[], [], [0, 1, 7, 8], [.one (.d (.sl (.int .u8))), .one (.d (.int .i64)), .one (.d (.int .u64)), .one (.d (.int .i64))], 0⟩
noncomputable def k1mi (o : k9b) (nx1 : HL TB.den kbz.hs → Prop) : Exit → TSt TB.den → Prop := thenT TB (fun s => kbz.mat TB 0 s nx1) (blockT TB 0 (k1md o))
noncomputable def kia (o : k9b) (nx1 : HL TB.den kbz.hs → Prop) (i : HL TB.den kbz.hs) : Prop := WP TB k81 31 0 (cA (cA (cB (cA (cB (cB (cB ke6))))))) .no (kbz.fill TB i) (k1mi o nx1)
noncomputable def k1n2 (o : k9b) : An TB := .nd [] .no [] (.lp [] kbz (kia o) fun nx1 => .no)
noncomputable def k1mv (o : k9b) : An TB := .nd [] .no [] (.nd [] .no [] (.nd [] (k1n2 o) [] .no))
noncomputable def k14q (o : k9b) : An TB := .nd [] .no [] (k1mv o)
noncomputable def ko0 (x : k1a7) (o : k9b) : Prop := WPh TB k81 31 0 ke6 (k14q o) (k3r.st TB x) (retTQ TB k81 k3r kib o)
set_option maxRecDepth 100000 in
theorem k1k6 (o : k9b) : OblH TB k81 31 0 ke6 (k14q o) (retTQ TB k81 k3r kib o) :=
  OblH.of_eq (X := (True ∧ ((True ∧ ((True ∧ True) ∧ True)) ∧ (True ∧ ((True ∧ ((∀ nx i, (kia o) nx i = (kia o) nx i) ∧ ∀ nx1 : HL TB.den kbz.hs → Prop, ((True ∧ (True ∧ True)) ∧ (True ∧ True)))) ∧ (True ∧ True)))))) (by kernel_rfl) ⟨trivial, ⟨⟨trivial, ⟨⟨trivial, trivial⟩, trivial⟩⟩, ⟨trivial, ⟨⟨trivial, ⟨fun _ _ => rfl, fun _ => ⟨⟨trivial, ⟨trivial, trivial⟩⟩, ⟨trivial, trivial⟩⟩⟩⟩, ⟨trivial, trivial⟩⟩⟩⟩⟩
set_option maxRecDepth 100000 in
theorem k1i8 {x : k1a7} {o : k9b} (h : ko0 x o) : SoundH Try.prog k3r.f ((k3r.args idf x).map (er TB)) ((k3r.obs idf x).map (erO TB)) (er TB (k3r.val idf o)) ((k3r.ops idf o).map (erO TB)) :=
  Con.soundH (c := k3r) (C := k81) TBok ⟨inf_ok, all_nil, all_nil⟩ mix Try.func80 (show Try.f80.body = some ke6 by kernel_rfl) (show Try.f80.ntmps = 31 by kernel_rfl) (show Try.f80.results.toList = kib by kernel_rfl) rfl h (k1k6 o)
set_option maxRecDepth 100000 in
theorem k1mt {p0 : List Int} {p1 : Int} {r0 : Int} {r1 : List Int} {r2 : Bool} (h :
((decide ((p0.length : Int) < p1) = true →
 0 = r0 ∧ ([] : List Int) = r1 ∧ false = r2) ∧
(decide ((p0.length : Int) < p1) = false →
 Md.Loop (p0, p1, (0 : Int), (IntKind.i64.wrap (p1 - 1) : Int), ()) (kia (r0, r1, r2, ()))))) : ko0 (p0, p1, ()) (r0, r1, r2, ()) := WPh.of_eq (by kernel_rfl) h
def k14m (r0 : Int) (r1 : List Int) (r2 : Bool) (k1 : Int → Int → Prop) (s0 : List Int) (s1 : Int) (s7 : Int) (s8 : Int) : Prop :=
(decide (0 ≤ s8) = true →
(0 ≤ s8) ∧ s8 < (s0.length : Int) ∧ let v3 : Int := IntKind.u64.wrap ((IntKind.u64.wrap (s7 * 256)) + (IntKind.u64.wrap (ix s0 s8)))
 k1 v3 (IntKind.i64.wrap (s8 - 1) : Int)) ∧
(decide (0 ≤ s8) = false →
(0 ≤ s1) ∧ s1 ≤ (s0.length : Int) ∧ s7 = r0 ∧ s0.drop s1.toNat = r1 ∧ true = r2)
set_option maxRecDepth 100000 in
theorem k1ki {r0 : Int} {r1 : List Int} {r2 : Bool} {s0 : List Int} {s1 : Int} {s7 : Int} {s8 : Int} (inv : Int → Int → Prop) (μ : Int → Int → Nat) (h0 : inv s7 s8) (hs : ∀ (s7 : Int) (s8 : Int), inv s7 s8 → k14m r0 r1 r2 (fun s7q s8q => inv s7q s8q ∧ μ s7q s8q < μ s7 s8) s0 s1 s7 s8) : Md.Loop (s0, s1, s7, s8, ()) (kia (r0, r1, r2, ())) :=
  ⟨⟨fun s : (List Int) × Int × Int × Int × Unit => (s.1 = s0 ∧ s.2.1 = s1) ∧ inv s.2.2.1 s.2.2.2.1, fun s : (List Int) × Int × Int × Int × Unit => μ s.2.2.1 s.2.2.2.1, ⟨⟨rfl, rfl⟩, h0⟩, fun (s0p, s1p, s7p, s8p, ()) ⟨⟨eq0, eq1⟩, hi⟩ => by
    have eq0 : s0p = s0 := eq0; subst s0p; have eq1 : s1p = s1 := eq1; subst s1p; exact mpr_of (by kernel_rfl) ((congrArg (fun k => k14m r0 r1 r2 k s0 s1 s7p s8p) (lpk2 (⟨rfl, rfl⟩ : s0 = s0 ∧ s1 = s1) inv (fun s7q s8q => μ s7q s8q < μ s7p s8p))).mpr (hs s7p s8p hi))⟩⟩
theorem bd80 : Callable Try.prog 80 := ⟨by rw [Try.func80]; kernel_rfl, by rw [Try.func80]; show some _ ≠ some _; decide⟩
theorem k1f0 (p0 : List Int) (p1 : Int) (h : By p0 ∧ p0.length ≤ 137438953472 ∧ 0 ≤ p1 ∧ p1 ≤ 8) : ko0 (p0, p1, ()) (((tkS p0 p1).n : Int), ((tkS p0 p1).r : List Int), ((tkS p0 p1).ok : Bool), ()) := by
  obtain ⟨hb, hl, h0, h1⟩ := h
  refine k1mt ⟨fun h => ?_, fun h => ?_⟩
  · have h := of_decide_eq_true h
    unfold tkS
    rw [if_pos h]
    exact ⟨rfl, rfl, rfl⟩
  · have h := of_decide_eq_false h
    have e : tkS p0 p1 = ⟨val (p0.take p1.toNat), p0.drop p1.toNat, true⟩ := by unfold tkS; rw [if_neg h]
    rw [e, wi (p1 - 1) (by omega) (by omega)]
    refine k1ki (fun n i => -1 ≤ i ∧ i < p1 ∧ n = val ((p0.take p1.toNat).drop (i + 1).toNat)) (fun _ i => (i + 1).toNat) ⟨by omega, by omega, ?_⟩ ?_
    · rw [List.drop_eq_nil_of_le (by rw [List.length_take]; omega)]
      rfl
    rintro n i ⟨g0, g1, rfl⟩
    refine ⟨fun hh => ?_, fun hh => ?_⟩
    · have hh := of_decide_eq_true hh
      have hlt : i < ((p0.take p1.toNat).length : Int) := by rw [List.length_take]; omega
      have hix : ix (p0.take p1.toNat) i = ix p0 i := by
        rw [ix_nat _ i hh hlt, ix_nat _ i hh (by omega), List.getElem_take]
      have hx := hb _ (ix_mem p0 i hh (by omega))
      have hbb : By ((p0.take p1.toNat).drop (i + 1).toNat) := (hb.take _).drop _
      have hv := kb5 _ hbb
      have hle : ((p0.take p1.toNat).drop (i + 1).toNat).length ≤ 7 := by rw [List.length_drop, List.length_take]; omega
      have h7 := kjt hle
      rw [wu (ix p0 i) (by omega) (by omega), wu (val ((p0.take p1.toNat).drop (i + 1).toNat) * 256) (by omega) (by omega), wu _ (by omega) (by omega), wi (i - 1) (by omega) (by omega)]
      refine ⟨hh, by omega, ⟨by omega, by omega, ?_⟩, by omega⟩
      rw [show i - 1 + 1 = i by omega, drop_ix _ i hh hlt, hix]
      simp only [val]
      omega
    · have hh := of_decide_eq_false hh
      rw [show (i + 1).toNat = 0 by omega]
      exact ⟨h0, by omega, rfl, rfl, rfl⟩
noncomputable def kk1 : Con TB.den := { k3r with R := fun x K => (fun (p0 : List Int) (p1 : Int) => ((By p0 ∧ p0.length ≤ 137438953472 ∧ 0 ≤ p1 ∧ p1 ≤ 8) ∧ ∀ (v0 : Int) (v1 : List Int) (v2 : Bool), (v0 = ((tkS p0 p1).n) ∧ v1 = ((tkS p0 p1).r) ∧ v2 = ((tkS p0 p1).ok)) → K (v0, v1, v2, ()) : Prop)) x.1 x.2.1 }
theorem kt9 : kk1.Ok Try.prog TB := ⟨bd80, fun x K hx => ⟨((fun (p0 : List Int) (p1 : Int) => ((tkS p0 p1).n : Int)) x.1 x.2.1, (fun (p0 : List Int) (p1 : Int) => ((tkS p0 p1).r : List Int)) x.1 x.2.1, (fun (p0 : List Int) (p1 : Int) => ((tkS p0 p1).ok : Bool)) x.1 x.2.1, ()), hx.2 ((fun (p0 : List Int) (p1 : Int) => (((tkS p0 p1).n))) x.1 x.2.1) ((fun (p0 : List Int) (p1 : Int) => (((tkS p0 p1).r))) x.1 x.2.1) ((fun (p0 : List Int) (p1 : Int) => (((tkS p0 p1).ok))) x.1 x.2.1) ⟨rfl, rfl, rfl⟩, k1i8 (k1f0 x.1 x.2.1 hx.1)⟩⟩
end Go.Proofs.Ytnmakgfmimagmaa
namespace Go.Proofs.Ytnmakgfmimagmaa
open Go Go.Bv Go.Cv Go.Md Go.RowKit
def k31 : Con TB.den := Con.mk0 82 [.one (.d (.sl (.int .u8))), .one (.d (.int .i64))] [] (.tup [.one (.d (.sl (.int .u64))), .one (.d (.sl (.int .u8))), .one (.d (.bool))]) []
abbrev k14t := HL TB.den (hsT k31.ins (hsOs k31.pre))
abbrev k7v := HL TB.den (hsV k31.res (hsOs k31.post))
noncomputable def k6y : Cx TB := ⟨inf, [kk1], [], 4⟩
noncomputable def kcw : Code := Try.f82.body.getD .skip
noncomputable def kfg : List ResultVar := Try.f82.results.toList
noncomputable def k1j6 (o : k7v) : Exit → TSt TB.den → Prop := thenT TB (fun s => ghs TB [] s fun s => WP TB k6y 33 0 (cB (cB (cB kcw))) .no s (retTQ TB k6y k31 kfg o)) (retTQ TB k6y k31 kfg o)
def kah : Tm := ⟨[1], [.tip (.int .u64)], [0, 1, 7, 8], [.one (.d (.sl (.int .u8))), .one (.d (.int .i64)), .one (.own 0), .one (.d (.int .i64))], 2⟩
noncomputable def k1ir (o : k7v) (nx1 : HL TB.den kah.hs → Prop) : Exit → TSt TB.den → Prop := thenT TB (fun s => kah.mat TB 0 s nx1) (blockT TB 0 (k1j6 o))
noncomputable def kfr (o : k7v) (nx1 : HL TB.den kah.hs → Prop) (i : HL TB.den kah.hs) : Prop := WP TB k6y 33 0 (cA (cA (cB (cA (cB (cB kcw)))))) .no (kah.fill TB i) (k1ir o nx1)
noncomputable def k1lo (o : k7v) : An TB := .lp [.tok 7 (.int .u64)] kah (kfr o) fun nx1 => .no
noncomputable def k1id (o : k7v) : An TB := .nd [] .no [] (.nd [] (.nd [] .no [] (k1lo o)) [] .no)
noncomputable def k10w (o : k7v) : An TB := .nd [] .no [] (k1id o)
noncomputable def kmc (x : k14t) (o : k7v) : Prop := WPh TB k6y 33 0 kcw (k10w o) (k31.st TB x) (retTQ TB k6y k31 kfg o)
set_option maxRecDepth 100000 in
theorem k1gc (o : k7v) : OblH TB k6y 33 0 kcw (k10w o) (retTQ TB k6y k31 kfg o) :=
  OblH.of_eq (X := (True ∧ (True ∧ ((True ∧ ((∀ nx i, (kfr o) nx i = (kfr o) nx i) ∧ ∀ nx1 : HL TB.den kah.hs → Prop, ((True ∧ (True ∧ True)) ∧ ((True ∧ ((True ∧ ((True ∧ True) ∧ True)) ∧ (True ∧ True))) ∧ True)))) ∧ (True ∧ True))))) (by kernel_rfl) ⟨trivial, ⟨trivial, ⟨⟨trivial, ⟨fun _ _ => rfl, fun _ => ⟨⟨trivial, ⟨trivial, trivial⟩⟩, ⟨⟨trivial, ⟨⟨trivial, ⟨⟨trivial, trivial⟩, trivial⟩⟩, ⟨trivial, trivial⟩⟩⟩, trivial⟩⟩⟩⟩, ⟨trivial, trivial⟩⟩⟩⟩
set_option maxRecDepth 100000 in
theorem k1g5 {x : k14t} {o : k7v} (h : kmc x o) : SoundH Try.prog k31.f ((k31.args idf x).map (er TB)) ((k31.obs idf x).map (erO TB)) (er TB (k31.val idf o)) ((k31.ops idf o).map (erO TB)) :=
  Con.soundH (c := k31) (C := k6y) TBok ⟨inf_ok, (all_cons kt9 all_nil), all_nil⟩ mix Try.func82 (show Try.f82.body = some kcw by kernel_rfl) (show Try.f82.ntmps = 33 by kernel_rfl) (show Try.f82.results.toList = kfg by kernel_rfl) rfl h (k1gc o)
set_option maxRecDepth 100000 in
theorem k1k4 {p0 : List Int} {p1 : Int} {r0 : List Int} {r1 : List Int} {r2 : Bool} (h :
((([] : List Int) = ([] : List Int)) ∧ Md.Loop (p0, p1, (0 : Int), (([] : List Int) : List Int), ()) (kfr (r0, r1, r2, ())))) : kmc (p0, p1, ()) (r0, r1, r2, ()) := WPh.of_eq (by kernel_rfl) h
def k115 (r0 : List Int) (r1 : List Int) (r2 : Bool) (k1 : List Int → Int → List Int → Prop) (s1 : Int) (s0 : List Int) (s8 : Int) (g1 : List Int) : Prop :=
(decide (s8 < s1) = true →
(By s0 ∧ s0.length ≤ 137438953472 ∧ 0 ≤ (8 : Int) ∧ (8 : Int) ≤ 8) ∧ ∀ (r24 : Int) (r25 : List Int) (r26 : Bool), (r24 = (tkS s0 (8 : Int)).n ∧ r25 = (tkS s0 (8 : Int)).r ∧ r26 = (tkS s0 (8 : Int)).ok) → ((!r26) = true →
([] : List Int) = r0 ∧ ([] : List Int) = r1 ∧ false = r2) ∧
((!r26) = false →
 g1.length = g1.length ∧ (g1.length + [r24].length) * 8 ≤ 140737488355328 ∧ g1.length + [r24].length ≤ maxLen ∧ (g1 ++ [r24] = g1 ++ [r24]) ∧ k1 r25 (IntKind.i64.wrap (s8 + 1) : Int) (g1 ++ [r24] : List Int))) ∧
(decide (s8 < s1) = false →
 g1 = r0 ∧ s0 = r1 ∧ true = r2)
set_option maxRecDepth 100000 in
theorem k1hc {r0 : List Int} {r1 : List Int} {r2 : Bool} {s1 : Int} {s0 : List Int} {s8 : Int} {g1 : List Int} (inv : List Int → Int → List Int → Prop) (μ : List Int → Int → List Int → Nat) (h0 : inv s0 s8 g1) (hs : ∀ (s0 : List Int) (s8 : Int) (g1 : List Int), inv s0 s8 g1 → k115 r0 r1 r2 (fun s0q s8q g1q => inv s0q s8q g1q ∧ μ s0q s8q g1q < μ s0 s8 g1) s1 s0 s8 g1) : Md.Loop (s0, s1, s8, g1, ()) (kfr (r0, r1, r2, ())) :=
  ⟨⟨fun s : (List Int) × Int × Int × (List Int) × Unit => (s.2.1 = s1) ∧ inv s.1 s.2.2.1 s.2.2.2.1, fun s : (List Int) × Int × Int × (List Int) × Unit => μ s.1 s.2.2.1 s.2.2.2.1, ⟨rfl, h0⟩, fun (s0p, s1p, s8p, g1p, ()) ⟨eq0, hi⟩ => by
    have eq0 : s1p = s1 := eq0; subst s1p; exact mpr_of (by kernel_rfl) ((congrArg (fun k => k115 r0 r1 r2 k s1 s0p s8p g1p) (lpk3 (rfl : s1 = s1) inv (fun s0q s8q g1q => μ s0q s8q g1q < μ s0p s8p g1p))).mpr (hs s0p s8p g1p hi))⟩⟩
theorem bd82 : Callable Try.prog 82 := ⟨by rw [Try.func82]; kernel_rfl, by rw [Try.func82]; show some _ ≠ some _; decide⟩
theorem k1cs (p0 : List Int) (p1 : Int) (h : By p0 ∧ p0.length ≤ 137438953472 ∧ 0 ≤ p1 ∧ p1 ≤ 4096) : kmc (p0, p1, ()) (((tksS p0 p1).l : List Int), ((tksS p0 p1).r : List Int), ((tksS p0 p1).ok : Bool), ()) := by
  obtain ⟨hb, hl, h0, h1⟩ := h
  refine k1k4 ⟨rfl, ?_⟩
  refine k1hc (fun b i g => 0 ≤ i ∧ i ≤ p1 ∧ By b ∧ b.length ≤ 137438953472 ∧ (g.length : Int) = i ∧ tksS p0 p1 = (if (b.length : Int) < 8 * (p1 - i) then ⟨[], [], false⟩ else ⟨g ++ nums (p1 - i).toNat b, b.drop (8 * (p1 - i).toNat), true⟩)) (fun _ i _ => (p1 - i).toNat) ⟨by omega, h0, hb, hl, rfl, by unfold tksS; simp⟩ ?_
  rintro b i g ⟨g0, g1, g2, g3, g4, g5⟩
  refine ⟨fun hh => ?_, fun hh => ?_⟩
  · have hh := of_decide_eq_true hh
    rw [inc i p1 g0 hh (by omega)]
    refine ⟨⟨g2, g3, by omega, by omega⟩, ?_⟩
    rintro _ _ _ ⟨rfl, rfl, rfl⟩
    refine ⟨fun e => ?_, fun e => ⟨rfl, by simp; omega, by simp; unfold maxLen; omega, rfl, ⟨by omega, by omega, ?_, ?_, by simp; omega, ?_⟩, by omega⟩⟩
    · have e : (tkS b 8).ok = false := by simpa using e
      have : (b.length : Int) < 8 := by
        unfold tkS at e
        split at e
        · assumption
        · cases e
      rw [g5, if_pos (by omega)]
      exact ⟨rfl, rfl, rfl⟩
    · exact tkS_by g2 8
    · exact Nat.le_trans (tkS_len 8) g3
    · have e : (tkS b 8).ok = true := by simpa using e
      have hlb : ¬ (b.length : Int) < 8 := by
        intro h
        unfold tkS at e
        rw [if_pos h] at e
        cases e
      have et : tkS b 8 = ⟨val (b.take 8), b.drop 8, true⟩ := by unfold tkS; rw [if_neg hlb]; rfl
      rw [g5, et]
      simp only [List.length_drop]
      rw [show (p1 - i).toNat = (p1 - (i + 1)).toNat + 1 by omega]
      by_cases hq : (b.length : Int) < 8 * (p1 - i)
      · rw [if_pos hq, if_pos (by omega)]
      · rw [if_neg hq, if_neg (by omega)]
        simp only [nums, List.append_assoc, List.drop_drop, List.cons_append, List.nil_append]
        rw [show 8 + 8 * (p1 - (i + 1)).toNat = 8 * ((p1 - (i + 1)).toNat + 1) by omega]
  · have hh := of_decide_eq_false hh
    rw [g5, show p1 - i = 0 by omega, if_neg (by omega)]
    exact ⟨by simp [nums], rfl, rfl⟩
noncomputable def koc : Con TB.den := { k31 with R := fun x K => (fun (p0 : List Int) (p1 : Int) => ((By p0 ∧ p0.length ≤ 137438953472 ∧ 0 ≤ p1 ∧ p1 ≤ 4096) ∧ ∀ (v0 : List Int) (v1 : List Int) (v2 : Bool), (v0 = ((tksS p0 p1).l) ∧ v1 = ((tksS p0 p1).r) ∧ v2 = ((tksS p0 p1).ok)) → K (v0, v1, v2, ()) : Prop)) x.1 x.2.1 }
theorem k11a : koc.Ok Try.prog TB := ⟨bd82, fun x K hx => ⟨((fun (p0 : List Int) (p1 : Int) => ((tksS p0 p1).l : List Int)) x.1 x.2.1, (fun (p0 : List Int) (p1 : Int) => ((tksS p0 p1).r : List Int)) x.1 x.2.1, (fun (p0 : List Int) (p1 : Int) => ((tksS p0 p1).ok : Bool)) x.1 x.2.1, ()), hx.2 ((fun (p0 : List Int) (p1 : Int) => (((tksS p0 p1).l))) x.1 x.2.1) ((fun (p0 : List Int) (p1 : Int) => (((tksS p0 p1).r))) x.1 x.2.1) ((fun (p0 : List Int) (p1 : Int) => (((tksS p0 p1).ok))) x.1 x.2.1) ⟨rfl, rfl, rfl⟩, k1g5 (k1cs x.1 x.2.1 hx.1)⟩⟩
end Go.Proofs.Ytnmakgfmimagmaa
namespace Go.Proofs.Ytnmakgfmimagmaa
open Go Go.Bv Go.Cv Go.Md Go.RowKit
def k3u : Con TB.den := Con.mk0 81 [.one (.d (.sl (.int .u8))), .one (.d (.int .i64))] [] (.tup [.one (.d (.sl (.int .u64))), .one (.d (.sl (.int .u8))), .one (.d (.bool))]) []
abbrev k19w := HL TB.den (hsT k3u.ins (hsOs k3u.pre))
abbrev kb7 := HL TB.den (hsV k3u.res (hsOs k3u.post))
noncomputable def k7y : Cx TB := ⟨inf, [kk1, koc], [], 4⟩
noncomputable def ke5 : Code := Try.f81.body.getD .skip
noncomputable def ki2 : List ResultVar := Try.f81.results.toList
noncomputable def k1ml (o : kb7) : Exit → TSt TB.den → Prop := thenT TB (fun s => ghs TB [] s fun s => WP TB k7y 31 0 (cB (cB (cB ke5))) .no s (retTQ TB k7y k3u ki2 o)) (retTQ TB k7y k3u ki2 o)
def kky : Tm := ⟨[], [], [7, 8, 23], [.one (.d (.int .u64)), .one (.d (.sl (.int .u8))), .one (.d (.bool))], 0⟩
noncomputable def k10j (o : kb7) (i : HL TB.den kky.hs) : Prop := ghs TB [] (kky.fill TB i) fun s => WP TB k7y 31 0 (cB (cA (cB (cB ke5)))) .no s (k1ml o)
structure ker (o : kb7) (i : HL TB.den kky.hs) : Prop where
  h : k10j o i
noncomputable def k1ms (o : kb7) : An TB := .nd [] (.jn kky (ker o) [] .no [] .no) [] .no
noncomputable def k149 (o : kb7) : An TB := .nd [] .no [] (.nd [] .no [] (k1ms o))
noncomputable def ko9 (x : k19w) (o : kb7) : Prop := WPh TB k7y 31 0 ke5 (k149 o) (k3u.st TB x) (retTQ TB k7y k3u ki2 o)
set_option maxRecDepth 100000 in
theorem k1kb (o : kb7) : OblH TB k7y 31 0 ke5 (k149 o) (retTQ TB k7y k3u ki2 o) :=
  OblH.of_eq (X := (True ∧ (True ∧ ((True ∧ (∀ i, (ker o) i = (k10j o) i) ∧ ((True ∧ True) ∧ True)) ∧ (True ∧ True))))) (by kernel_rfl) ⟨trivial, ⟨trivial, ⟨⟨trivial, fun _ => propext ⟨fun h => h.1, fun h => ⟨h⟩⟩, ⟨⟨trivial, trivial⟩, trivial⟩⟩, ⟨trivial, trivial⟩⟩⟩⟩
set_option maxRecDepth 100000 in
theorem k1j2 {x : k19w} {o : kb7} (h : ko9 x o) : SoundH Try.prog k3u.f ((k3u.args idf x).map (er TB)) ((k3u.obs idf x).map (erO TB)) (er TB (k3u.val idf o)) ((k3u.ops idf o).map (erO TB)) :=
  Con.soundH (c := k3u) (C := k7y) TBok ⟨inf_ok, (all_cons kt9 (all_cons k11a all_nil)), all_nil⟩ mix Try.func81 (show Try.f81.body = some ke5 by kernel_rfl) (show Try.f81.ntmps = 31 by kernel_rfl) (show Try.f81.results.toList = ki2 by kernel_rfl) rfl h (k1kb o)
set_option maxRecDepth 100000 in
theorem k1mc {p0 : List Int} {p1 : Int} {r0 : List Int} {r1 : List Int} {r2 : Bool} (h :
((By p0 ∧ p0.length ≤ 137438953472 ∧ 0 ≤ (4 : Int) ∧ (4 : Int) ≤ 8) ∧ ∀ (r6 : Int) (r7 : List Int) (r8 : Bool), (r6 = (tkS p0 (4 : Int)).n ∧ r7 = (tkS p0 (4 : Int)).r ∧ r8 = (tkS p0 (4 : Int)).ok) → ((!r8) = true →
 ker (r0, r1, r2, ()) (r6, r7, true, ())) ∧
((!r8) = false →
 ker (r0, r1, r2, ()) (r6, r7, (decide ((IntKind.u64.wrap p1) < r6) : Bool), ())))) : ko9 (p0, p1, ()) (r0, r1, r2, ()) := WPh.of_eq (by kernel_rfl) h
set_option maxRecDepth 100000 in
theorem kuy {r0 : List Int} {r1 : List Int} {r2 : Bool} {s7 : Int} {s8 : List Int} {s23 : Bool} (h :
((s23 = true →
([] : List Int) = r0 ∧ ([] : List Int) = r1 ∧ false = r2) ∧
(s23 = false →
(By s8 ∧ s8.length ≤ 137438953472 ∧ 0 ≤ (IntKind.i64.wrap s7) ∧ (IntKind.i64.wrap s7) ≤ 4096) ∧ ∀ (r12 : List Int) (r13 : List Int) (r14 : Bool), (r12 = (tksS s8 (IntKind.i64.wrap s7)).l ∧ r13 = (tksS s8 (IntKind.i64.wrap s7)).r ∧ r14 = (tksS s8 (IntKind.i64.wrap s7)).ok) → r12 = r0 ∧ r13 = r1 ∧ r14 = r2))) : ker (r0, r1, r2, ()) (s7, s8, s23, ()) := ⟨mpr_of (by kernel_rfl) h⟩
theorem bd81 : Callable Try.prog 81 := ⟨by rw [Try.func81]; kernel_rfl, by rw [Try.func81]; show some _ ≠ some _; decide⟩
theorem k1g3 (p0 : List Int) (p1 : Int) (h : By p0 ∧ p0.length ≤ 137438953472 ∧ 0 ≤ p1 ∧ p1 ≤ 4096) : ko9 (p0, p1, ()) (((tklS p0 p1).l : List Int), ((tklS p0 p1).r : List Int), ((tklS p0 p1).ok : Bool), ()) := by
  obtain ⟨hb, hl, h0, h1⟩ := h
  refine k1mc ⟨⟨hb, hl, by omega, by omega⟩, ?_⟩
  rintro _ _ _ ⟨rfl, rfl, rfl⟩
  rw [wu p1 h0 (by omega)]
  have jf : ((tkS p0 4).ok = false ∨ p1 < (tkS p0 4).n) → ker ((tklS p0 p1).l, (tklS p0 p1).r, (tklS p0 p1).ok, ()) ((tkS p0 4).n, (tkS p0 4).r, true, ()) := by
    intro h
    refine kuy ⟨fun _ => ?_, fun h => by simp at h⟩
    unfold tklS
    rw [if_pos h]
    exact ⟨rfl, rfl, rfl⟩
  refine ⟨fun e => jf (.inl (by simpa using e)), fun e => ?_⟩
  by_cases hq : p1 < (tkS p0 4).n
  · rw [decide_eq_true hq]; exact jf (.inr hq)
  · rw [decide_eq_false hq]
    have ho : (tkS p0 4).ok = true := by simpa using e
    obtain ⟨g1, g2, g3⟩ := tkS_snd hb 4 ho
    have g2 : 0 ≤ (tkS p0 4).n := g2
    refine kuy ⟨fun h => by simp at h, fun _ => ?_⟩
    rw [wi (tkS p0 4).n (by omega) (by omega)]
    have e2 : tklS p0 p1 = tksS (tkS p0 4).r (tkS p0 4).n := by unfold tklS; rw [if_neg]; rw [ho]; simpa using hq
    rw [e2]
    refine ⟨⟨tkS_by hb 4, Nat.le_trans (tkS_len 4) hl, g2, by omega⟩, ?_⟩
    rintro _ _ _ ⟨rfl, rfl, rfl⟩
    exact ⟨rfl, rfl, rfl⟩
noncomputable def k10s : Con TB.den := { k3u with R := fun x K => (fun (p0 : List Int) (p1 : Int) => ((By p0 ∧ p0.length ≤ 137438953472 ∧ 0 ≤ p1 ∧ p1 ≤ 4096) ∧ ∀ (v0 : List Int) (v1 : List Int) (v2 : Bool), (v0 = ((tklS p0 p1).l) ∧ v1 = ((tklS p0 p1).r) ∧ v2 = ((tklS p0 p1).ok)) → K (v0, v1, v2, ()) : Prop)) x.1 x.2.1 }
theorem k1mx : k10s.Ok Try.prog TB := ⟨bd81, fun x K hx => ⟨((fun (p0 : List Int) (p1 : Int) => ((tklS p0 p1).l : List Int)) x.1 x.2.1, (fun (p0 : List Int) (p1 : Int) => ((tklS p0 p1).r : List Int)) x.1 x.2.1, (fun (p0 : List Int) (p1 : Int) => ((tklS p0 p1).ok : Bool)) x.1 x.2.1, ()), hx.2 ((fun (p0 : List Int) (p1 : Int) => (((tklS p0 p1).l))) x.1 x.2.1) ((fun (p0 : List Int) (p1 : Int) => (((tklS p0 p1).r))) x.1 x.2.1) ((fun (p0 : List Int) (p1 : Int) => (((tklS p0 p1).ok))) x.1 x.2.1) ⟨rfl, rfl, rfl⟩, k1j2 (k1g3 x.1 x.2.1 hx.1)⟩⟩
end Go.Proofs.Ytnmakgfmimagmaa
namespace Go.Proofs.Ytnmakgfmimagmaa
open Go Go.Bv Go.Cv Go.Md Go.RowKit
def kq : Con TB.den := Con.mk0 56 [.one (.d (.sl (.int .u8)))] [] (.tup [.agg [.d (.int .u64), .d (.sl (.int .u64)), .d (.sl (.st 0)), .d (.int .u64), .d (.int .u64), .d (.int .u64), .d (.int .u64), .d (.int .u64), .d (.int .i64), .d (.sl (.int .u8))], .one (.d (.int .i64))]) []
abbrev k101 := HL TB.den (hsT kq.ins (hsOs kq.pre))
abbrev kp := HL TB.den (hsV kq.res (hsOs kq.post))
noncomputable def k17 : Cx TB := ⟨inf, [kk1, k10s, koc, ko7], [], 4⟩
noncomputable def k41 : Code := Try.f56.body.getD .skip
noncomputable def k4u : List ResultVar := Try.f56.results.toList
noncomputable def k1gp (o : kp) : Exit → TSt TB.den → Prop := thenT TB (fun s => ghs TB [] s fun s => WP TB k17 160 0 (cB (cB (cB (cB (cB (cB (cB (cB (cB (cB (cB (cB (cB (cB (cB (cB (cB (cB (cB k41))))))))))))))))))) .no s (retTQ TB k17 kq k4u o)) (retTQ TB k17 kq k4u o)
def kgy : Tm := ⟨[0, 1, 2], [.cells [.d (.int .u64), .full (.int .u64), .full (.st 0), .d (.int .u64), .d (.int .u64), .d (.int .u64), .d (.int .u64), .d (.int .u64), .d (.int .i64), .full (.int .u8)], .cells [.d (.int .u64), .d (.sl (.int .u64)), .own 2, .d (.int .u64), .d (.int .u64), .d (.int .u64), .d (.int .u64), .d (.int .u64), .d (.int .i64), .full (.int .u8)], .tip (.st 0)], [2, 4, 6, 149], [.one (.ptr 0 0), .one (.ptr 1 0), .one (.d (.sl (.int .u8))), .one (.d (.bool))], 104⟩
noncomputable def kv3 (o : kp) (i : HL TB.den kgy.hs) : Prop := ghs TB [] (kgy.fill TB i) fun s => WP TB k17 160 0 (cB (cA (cB (cB (cB (cB (cB (cB (cB (cB (cB (cB (cB (cB (cB (cB (cB (cB (cB (cB k41)))))))))))))))))))) .no s (k1gp o)
structure kax (o : kp) (i : HL TB.den kgy.hs) : Prop where
  h : kv3 o i
noncomputable def kxs (o : kp) : An TB := .nd [] (.jn kgy (kax o) [] .no [] .no) [] .no
noncomputable def k1i0 (o : kp) : Exit → TSt TB.den → Prop := thenT TB (fun s => ghs TB [] s fun s => WP TB k17 160 0 (cB (cB (cB (cB (cB (cB (cB (cB (cB (cB (cB (cB (cB (cB (cB (cB k41)))))))))))))))) (.nd [] .no [] (.nd [] .no [] (kxs o))) s (retTQ TB k17 kq k4u o)) (retTQ TB k17 kq k4u o)
def khc : Tm := ⟨[0, 1, 2], [.cells [.d (.int .u64), .full (.int .u64), .full (.st 0), .d (.int .u64), .d (.int .u64), .d (.int .u64), .d (.int .u64), .d (.int .u64), .d (.int .i64), .full (.int .u8)], .cells [.d (.int .u64), .d (.sl (.int .u64)), .own 2, .d (.int .u64), .d (.int .u64), .d (.int .u64), .d (.int .u64), .d (.int .u64), .d (.int .i64), .full (.int .u8)], .tip (.st 0)], [2, 4, 5, 6, 130], [.one (.ptr 0 0), .one (.ptr 1 0), .one (.d (.int .u64)), .one (.d (.sl (.int .u8))), .one (.d (.bool))], 104⟩
noncomputable def kv1 (o : kp) (i : HL TB.den khc.hs) : Prop := ghs TB [] (khc.fill TB i) fun s => WP TB k17 160 0 (cB (cA (cB (cB (cB (cB (cB (cB (cB (cB (cB (cB (cB (cB (cB (cB (cB k41))))))))))))))))) .no s (k1i0 o)
structure kay (o : kp) (i : HL TB.den khc.hs) : Prop where
  h : kv1 o i
noncomputable def k1gq (o : kp) : An TB := .nd [] (.jn khc (kay o) [] .no [] .no) [] (.nd [] .no [] (.nd [] .no [] (kxs o)))
noncomputable def kx6 (o : kp) : An TB := .nd [] .no [] (.nd [] .no [] (.nd [] .no [] (k1gq o)))
noncomputable def k1cx (o : kp) : Exit → TSt TB.den → Prop := thenT TB (fun s => ghs TB [] s fun s => WP TB k17 160 0 (cB (cB (cB (cB (cB (cB (cB (cB (cB (cB k41)))))))))) (.nd [] .no [] (.nd [] .no [] (kx6 o))) s (retTQ TB k17 kq k4u o)) (retTQ TB k17 kq k4u o)
def k8o : Tm := ⟨[0, 1, 2], [.cells [.d (.int .u64), .full (.int .u64), .full (.st 0), .d (.int .u64), .d (.int .u64), .d (.int .u64), .d (.int .u64), .d (.int .u64), .d (.int .i64), .full (.int .u8)], .cells [.d (.int .u64), .d (.sl (.int .u64)), .own 2, .d (.int .u64), .d (.int .u64), .d (.int .u64), .d (.int .u64), .d (.int .u64), .d (.int .i64), .full (.int .u8)], .tip (.st 0)], [2, 4, 5, 6, 8], [.one (.ptr 0 0), .one (.ptr 1 0), .one (.d (.int .u64)), .one (.d (.sl (.int .u8))), .one (.d (.int .u64))], 3⟩
noncomputable def k1br (o : kp) (nx1 : HL TB.den k8o.hs → Prop) : Exit → TSt TB.den → Prop := thenT TB (fun s => k8o.mat TB 0 s nx1) (blockT TB 0 (k1cx o))
noncomputable def kel (o : kp) (nx1 : HL TB.den k8o.hs → Prop) (i : HL TB.den k8o.hs) : Prop := WP TB k17 160 0 (cA (cA (cB (cA (cB (cB (cB (cB (cB (cB (cB (cB (cB k41))))))))))))) .no (k8o.fill TB i) (k1br o nx1)
noncomputable def k1bc (o : kp) : An TB := .lp [.tokc 1 2 (.st 0)] k8o (kel o) fun nx1 => .no
noncomputable def ku7 (o : kp) : An TB := .nd [] (.nd [] .no [] (k1bc o)) [] (.nd [] .no [] (.nd [] .no [] (kx6 o)))
noncomputable def k1bf (o : kp) : Exit → TSt TB.den → Prop := thenT TB (fun s => ghs TB [] s fun s => WP TB k17 160 0 (cB (cB (cB (cB (cB (cB (cB (cB (cB k41))))))))) (ku7 o) s (retTQ TB k17 kq k4u o)) (retTQ TB k17 kq k4u o)
def kgw : Tm := ⟨[0, 1], [.cells [.d (.int .u64), .full (.int .u64), .full (.st 0), .d (.int .u64), .d (.int .u64), .d (.int .u64), .d (.int .u64), .d (.int .u64), .d (.int .i64), .full (.int .u8)], .cells [.d (.int .u64), .d (.sl (.int .u64)), .full (.st 0), .d (.int .u64), .d (.int .u64), .d (.int .u64), .d (.int .u64), .d (.int .u64), .d (.int .i64), .full (.int .u8)]], [2, 4, 5, 6, 45], [.one (.ptr 0 0), .one (.ptr 1 0), .one (.d (.int .u64)), .one (.d (.sl (.int .u8))), .one (.d (.bool))], 2⟩
noncomputable def ktu (o : kp) (i : HL TB.den kgw.hs) : Prop := ghs TB [] (kgw.fill TB i) fun s => WP TB k17 160 0 (cB (cA (cB (cB (cB (cB (cB (cB (cB (cB k41)))))))))) .no s (k1bf o)
structure kav (o : kp) (i : HL TB.den kgw.hs) : Prop where
  h : ktu o i
noncomputable def k1bu (o : kp) : An TB := .nd [] (.jn kgw (kav o) [] .no [] .no) [] (ku7 o)
noncomputable def k1dg (o : kp) : An TB := .nd [] .no [] (.nd [] .no [] (.nd [] .no [] (k1bu o)))
noncomputable def k1d8 (o : kp) : An TB := .nd [] .no [] (.nd [] .no [] (.nd [] .no [] (k1dg o)))
noncomputable def kyl (o : kp) : An TB := .nd [] .no [] (.nd [] .no [] (k1d8 o))
noncomputable def kko (x : k101) (o : kp) : Prop := WPh TB k17 160 0 k41 (kyl o) (kq.st TB x) (retTQ TB k17 kq k4u o)
set_option maxRecDepth 100000 in
theorem k1da (o : kp) : OblH TB k17 160 0 k41 (kyl o) (retTQ TB k17 kq k4u o) :=
  OblH.of_eq (X := (True ∧ (True ∧ (True ∧ ((True ∧ ((True ∧ True) ∧ True)) ∧ (True ∧ (True ∧ ((True ∧ ((True ∧ True) ∧ True)) ∧ (True ∧ ((True ∧ (∀ i, (kav o) i = (ktu o) i) ∧ ((True ∧ True) ∧ True)) ∧ ((True ∧ ((∀ nx i, (kel o) nx i = (kel o) nx i) ∧ ∀ nx1 : HL TB.den k8o.hs → Prop, ((True ∧ (True ∧ True)) ∧ ((True ∧ (True ∧ ((True ∧ ((True ∧ True) ∧ True)) ∧ (True ∧ (True ∧ ((True ∧ ((True ∧ True) ∧ True)) ∧ True)))))) ∧ True)))) ∧ (True ∧ (True ∧ ((True ∧ ((True ∧ True) ∧ True)) ∧ (True ∧ (True ∧ ((True ∧ (∀ i, (kay o) i = (kv1 o) i) ∧ ((True ∧ True) ∧ True)) ∧ (True ∧ (True ∧ ((True ∧ (∀ i, (kax o) i = (kv3 o) i) ∧ ((True ∧ True) ∧ True)) ∧ (True ∧ ((True ∧ ((True ∧ True) ∧ True)) ∧ (True ∧ True))))))))))))))))))))))) (by kernel_rfl) ⟨trivial, ⟨trivial, ⟨trivial, ⟨⟨trivial, ⟨⟨trivial, trivial⟩, trivial⟩⟩, ⟨trivial, ⟨trivial, ⟨⟨trivial, ⟨⟨trivial, trivial⟩, trivial⟩⟩, ⟨trivial, ⟨⟨trivial, fun _ => propext ⟨fun h => h.1, fun h => ⟨h⟩⟩, ⟨⟨trivial, trivial⟩, trivial⟩⟩, ⟨⟨trivial, ⟨fun _ _ => rfl, fun _ => ⟨⟨trivial, ⟨trivial, trivial⟩⟩, ⟨⟨trivial, ⟨trivial, ⟨⟨trivial, ⟨⟨trivial, trivial⟩, trivial⟩⟩, ⟨trivial, ⟨trivial, ⟨⟨trivial, ⟨⟨trivial, trivial⟩, trivial⟩⟩, trivial⟩⟩⟩⟩⟩⟩, trivial⟩⟩⟩⟩, ⟨trivial, ⟨trivial, ⟨⟨trivial, ⟨⟨trivial, trivial⟩, trivial⟩⟩, ⟨trivial, ⟨trivial, ⟨⟨trivial, fun _ => propext ⟨fun h => h.1, fun h => ⟨h⟩⟩, ⟨⟨trivial, trivial⟩, trivial⟩⟩, ⟨trivial, ⟨trivial, ⟨⟨trivial, fun _ => propext ⟨fun h => h.1, fun h => ⟨h⟩⟩, ⟨⟨trivial, trivial⟩, trivial⟩⟩, ⟨trivial, ⟨⟨trivial, ⟨⟨trivial, trivial⟩, trivial⟩⟩, ⟨trivial, trivial⟩⟩⟩⟩⟩⟩⟩⟩⟩⟩⟩⟩⟩⟩⟩⟩⟩⟩⟩⟩⟩⟩
set_option maxRecDepth 100000 in
theorem k1de {x : k101} {o : kp} (h : kko x o) : SoundH Try.prog kq.f ((kq.args idf x).map (er TB)) ((kq.obs idf x).map (erO TB)) (er TB (kq.val idf o)) ((kq.ops idf o).map (erO TB)) :=
  Con.soundH (c := kq) (C := k17) TBok ⟨inf_ok, (all_cons kt9 (all_cons k1mx (all_cons k11a (all_cons k11l all_nil)))), all_nil⟩ mix Try.func56 (show Try.f56.body = some k41 by kernel_rfl) (show Try.f56.ntmps = 160 by kernel_rfl) (show Try.f56.results.toList = k4u by kernel_rfl) rfl h (k1da o)
set_option maxRecDepth 100000 in
theorem k1g4 {p0 : List Int} {r0 : TTx} {r1 : Int} (h :
((By p0 ∧ p0.length ≤ 137438953472 ∧ 0 ≤ (8 : Int) ∧ (8 : Int) ≤ 8) ∧ ∀ (r5 : Int) (r6 : List Int) (r7 : Bool), (r5 = (tkS p0 (8 : Int)).n ∧ r6 = (tkS p0 (8 : Int)).r ∧ r7 = (tkS p0 (8 : Int)).ok) → ((!r7) = true →
 0 = r0.Anchor ∧ ([] : List Int) = r0.Marks ∧ ([] : List TOut) = r0.Outs ∧ 0 = r0.Deposit ∧ 0 = r0.Withdraw ∧ 0 = r0.Fee ∧ 0 = r0.Account ∧ 0 = r0.Nonce ∧ 0 = r0.Expiry ∧ ([] : List Int) = r0.Proof ∧ 2 = r1) ∧
((!r7) = false →
(By r6 ∧ r6.length ≤ 137438953472 ∧ 0 ≤ (4 : Int) ∧ (4 : Int) ≤ 4096) ∧ ∀ (r11 : List Int) (r12 : List Int) (r13 : Bool), (r11 = (tklS r6 (4 : Int)).l ∧ r12 = (tklS r6 (4 : Int)).r ∧ r13 = (tklS r6 (4 : Int)).ok) → ((!r13) = true →
 0 = r0.Anchor ∧ ([] : List Int) = r0.Marks ∧ ([] : List TOut) = r0.Outs ∧ 0 = r0.Deposit ∧ 0 = r0.Withdraw ∧ 0 = r0.Fee ∧ 0 = r0.Account ∧ 0 = r0.Nonce ∧ 0 = r0.Expiry ∧ ([] : List Int) = r0.Proof ∧ 2 = r1) ∧
((!r13) = false →
(By r12 ∧ r12.length ≤ 137438953472 ∧ 0 ≤ (4 : Int) ∧ (4 : Int) ≤ 8) ∧ ∀ (r17 : Int) (r18 : List Int) (r19 : Bool), (r17 = (tkS r12 (4 : Int)).n ∧ r18 = (tkS r12 (4 : Int)).r ∧ r19 = (tkS r12 (4 : Int)).ok) → ((!r19) = true →
 kav (r0.Anchor, r0.Marks, r0.Outs, r0.Deposit, r0.Withdraw, r0.Fee, r0.Account, r0.Nonce, r0.Expiry, r0.Proof, r1, ()) (r17, r18, true, (0 : Int), (([] : List Int) : List Int), (([] : List TOut) : List TOut), (0 : Int), (0 : Int), (0 : Int), (0 : Int), (0 : Int), (0 : Int), (([] : List Int) : List Int), r5, r11, (([] : List TOut) : List TOut), (0 : Int), (0 : Int), (0 : Int), (0 : Int), (0 : Int), (0 : Int), (([] : List Int) : List Int), ())) ∧
((!r19) = false →
 kav (r0.Anchor, r0.Marks, r0.Outs, r0.Deposit, r0.Withdraw, r0.Fee, r0.Account, r0.Nonce, r0.Expiry, r0.Proof, r1, ()) (r17, r18, (decide (4 < r17) : Bool), (0 : Int), (([] : List Int) : List Int), (([] : List TOut) : List TOut), (0 : Int), (0 : Int), (0 : Int), (0 : Int), (0 : Int), (0 : Int), (([] : List Int) : List Int), r5, r11, (([] : List TOut) : List TOut), (0 : Int), (0 : Int), (0 : Int), (0 : Int), (0 : Int), (0 : Int), (([] : List Int) : List Int), ())))))) : kko (p0, ()) (r0.Anchor, r0.Marks, r0.Outs, r0.Deposit, r0.Withdraw, r0.Fee, r0.Account, r0.Nonce, r0.Expiry, r0.Proof, r1, ()) := WPh.of_eq (by kernel_rfl) h
set_option maxRecDepth 100000 in
theorem k16o {r0 : TTx} {r1 : Int} {s5 : Int} {s6 : List Int} {s45 : Bool} {h0_0 : Int} {h0_1 : List Int} {h0_2 : List TOut} {h0_3 : Int} {h0_4 : Int} {h0_5 : Int} {h0_6 : Int} {h0_7 : Int} {h0_8 : Int} {h0_9 : List Int} {h1_0 : Int} {h1_1 : List Int} {h1_2 : List TOut} {h1_3 : Int} {h1_4 : Int} {h1_5 : Int} {h1_6 : Int} {h1_7 : Int} {h1_8 : Int} {h1_9 : List Int} (h :
((s45 = true →
 0 = r0.Anchor ∧ ([] : List Int) = r0.Marks ∧ ([] : List TOut) = r0.Outs ∧ 0 = r0.Deposit ∧ 0 = r0.Withdraw ∧ 0 = r0.Fee ∧ 0 = r0.Account ∧ 0 = r0.Nonce ∧ 0 = r0.Expiry ∧ ([] : List Int) = r0.Proof ∧ 2 = r1) ∧
(s45 = false →
(h1_2 = h1_2) ∧ Md.Loop (s5, s6, (0 : Int), h0_0, h0_1, h0_2, h0_3, h0_4, h0_5, h0_6, h0_7, h0_8, h0_9, h1_0, h1_1, h1_3, h1_4, h1_5, h1_6, h1_7, h1_8, h1_9, h1_2, ()) (kel (r0.Anchor, r0.Marks, r0.Outs, r0.Deposit, r0.Withdraw, r0.Fee, r0.Account, r0.Nonce, r0.Expiry, r0.Proof, r1, ()))))) : kav (r0.Anchor, r0.Marks, r0.Outs, r0.Deposit, r0.Withdraw, r0.Fee, r0.Account, r0.Nonce, r0.Expiry, r0.Proof, r1, ()) (s5, s6, s45, h0_0, h0_1, h0_2, h0_3, h0_4, h0_5, h0_6, h0_7, h0_8, h0_9, h1_0, h1_1, h1_2, h1_3, h1_4, h1_5, h1_6, h1_7, h1_8, h1_9, ()) := ⟨mpr_of (by kernel_rfl) h⟩
set_option maxRecDepth 100000 in
theorem k16a {r0 : TTx} {r1 : Int} {s5 : Int} {s6 : List Int} {s130 : Bool} {h0_0 : Int} {h0_1 : List Int} {h0_2 : List TOut} {h0_3 : Int} {h0_4 : Int} {h0_5 : Int} {h0_6 : Int} {h0_7 : Int} {h0_8 : Int} {h0_9 : List Int} {h1_0 : Int} {h1_1 : List Int} {h1_3 : Int} {h1_4 : Int} {h1_5 : Int} {h1_6 : Int} {h1_7 : Int} {h1_8 : Int} {h1_9 : List Int} {g2 : List TOut} (h :
((s130 = true →
 0 = r0.Anchor ∧ ([] : List Int) = r0.Marks ∧ ([] : List TOut) = r0.Outs ∧ 0 = r0.Deposit ∧ 0 = r0.Withdraw ∧ 0 = r0.Fee ∧ 0 = r0.Account ∧ 0 = r0.Nonce ∧ 0 = r0.Expiry ∧ ([] : List Int) = r0.Proof ∧ 2 = r1) ∧
(s130 = false →
(By s6 ∧ s6.length ≤ 137438953472 ∧ 0 ≤ (4 : Int) ∧ (4 : Int) ≤ 8) ∧ ∀ (r84 : Int) (r85 : List Int) (r86 : Bool), (r84 = (tkS s6 (4 : Int)).n ∧ r85 = (tkS s6 (4 : Int)).r ∧ r86 = (tkS s6 (4 : Int)).ok) → ((!r86) = true →
(g2 = g2) ∧ kax (r0.Anchor, r0.Marks, r0.Outs, r0.Deposit, r0.Withdraw, r0.Fee, r0.Account, r0.Nonce, r0.Expiry, r0.Proof, r1, ()) (r85, true, h0_0, h0_1, h0_2, h0_3, h0_4, h0_5, h0_6, h0_7, h0_8, h0_9, h1_0, h1_1, h1_3, h1_4, h1_5, h1_6, h1_7, (IntKind.i64.wrap s5 : Int), h1_9, g2, ())) ∧
((!r86) = false →
 let v87 : Bool := (r84 != (IntKind.u64.wrap (r85.length : Int)))
(g2 = g2) ∧ kax (r0.Anchor, r0.Marks, r0.Outs, r0.Deposit, r0.Withdraw, r0.Fee, r0.Account, r0.Nonce, r0.Expiry, r0.Proof, r1, ()) (r85, v87, h0_0, h0_1, h0_2, h0_3, h0_4, h0_5, h0_6, h0_7, h0_8, h0_9, h1_0, h1_1, h1_3, h1_4, h1_5, h1_6, h1_7, (IntKind.i64.wrap s5 : Int), h1_9, g2, ()))))) : kay (r0.Anchor, r0.Marks, r0.Outs, r0.Deposit, r0.Withdraw, r0.Fee, r0.Account, r0.Nonce, r0.Expiry, r0.Proof, r1, ()) (s5, s6, s130, h0_0, h0_1, h0_2, h0_3, h0_4, h0_5, h0_6, h0_7, h0_8, h0_9, h1_0, h1_1, h1_3, h1_4, h1_5, h1_6, h1_7, h1_8, h1_9, g2, ()) := ⟨mpr_of (by kernel_rfl) h⟩
set_option maxRecDepth 100000 in
theorem k167 {r0 : TTx} {r1 : Int} {s6 : List Int} {s149 : Bool} {h0_0 : Int} {h0_1 : List Int} {h0_2 : List TOut} {h0_3 : Int} {h0_4 : Int} {h0_5 : Int} {h0_6 : Int} {h0_7 : Int} {h0_8 : Int} {h0_9 : List Int} {h1_0 : Int} {h1_1 : List Int} {h1_3 : Int} {h1_4 : Int} {h1_5 : Int} {h1_6 : Int} {h1_7 : Int} {h1_8 : Int} {h1_9 : List Int} {g2 : List TOut} (h :
((s149 = true →
 0 = r0.Anchor ∧ ([] : List Int) = r0.Marks ∧ ([] : List TOut) = r0.Outs ∧ 0 = r0.Deposit ∧ 0 = r0.Withdraw ∧ 0 = r0.Fee ∧ 0 = r0.Account ∧ 0 = r0.Nonce ∧ 0 = r0.Expiry ∧ ([] : List Int) = r0.Proof ∧ 2 = r1) ∧
(s149 = false →
(([] : List Int).length + s6.length) * 1 ≤ 140737488355328 ∧ ([] : List Int).length + s6.length ≤ maxLen ∧ (TR (TTx.mk h1_0 h1_1 g2 h1_3 h1_4 h1_5 h1_6 h1_7 h1_8 (([] : List Int) ++ s6)) ∧ TL (TTx.mk h1_0 h1_1 g2 h1_3 h1_4 h1_5 h1_6 h1_7 h1_8 (([] : List Int) ++ s6))) ∧ let r88 : Int := validE (TTx.mk h1_0 h1_1 g2 h1_3 h1_4 h1_5 h1_6 h1_7 h1_8 (([] : List Int) ++ s6))
((r88 != 0) = true →
 0 = r0.Anchor ∧ ([] : List Int) = r0.Marks ∧ ([] : List TOut) = r0.Outs ∧ 0 = r0.Deposit ∧ 0 = r0.Withdraw ∧ 0 = r0.Fee ∧ 0 = r0.Account ∧ 0 = r0.Nonce ∧ 0 = r0.Expiry ∧ ([] : List Int) = r0.Proof ∧ 2 = r1) ∧
((r88 != 0) = false →
 h1_0 = r0.Anchor ∧ h1_1 = r0.Marks ∧ g2 = r0.Outs ∧ h1_3 = r0.Deposit ∧ h1_4 = r0.Withdraw ∧ h1_5 = r0.Fee ∧ h1_6 = r0.Account ∧ h1_7 = r0.Nonce ∧ h1_8 = r0.Expiry ∧ ([] : List Int) ++ s6 = r0.Proof ∧ 0 = r1)))) : kax (r0.Anchor, r0.Marks, r0.Outs, r0.Deposit, r0.Withdraw, r0.Fee, r0.Account, r0.Nonce, r0.Expiry, r0.Proof, r1, ()) (s6, s149, h0_0, h0_1, h0_2, h0_3, h0_4, h0_5, h0_6, h0_7, h0_8, h0_9, h1_0, h1_1, h1_3, h1_4, h1_5, h1_6, h1_7, h1_8, h1_9, g2, ()) := ⟨mpr_of (by kernel_rfl) h⟩
def ky1 (r0 : TTx) (r1 : Int) (k1 : List Int → Int → List TOut → Prop) (s5 : Int) (h0_0 : Int) (h0_1 : List Int) (h0_2 : List TOut) (h0_3 : Int) (h0_4 : Int) (h0_5 : Int) (h0_6 : Int) (h0_7 : Int) (h0_8 : Int) (h0_9 : List Int) (h1_0 : Int) (h1_1 : List Int) (h1_3 : Int) (h1_4 : Int) (h1_5 : Int) (h1_6 : Int) (h1_7 : Int) (h1_8 : Int) (h1_9 : List Int) (s6 : List Int) (s8 : Int) (g2 : List TOut) : Prop :=
(decide (s8 < s5) = true →
(By s6 ∧ s6.length ≤ 137438953472 ∧ 0 ≤ (3 : Int) ∧ (3 : Int) ≤ 4096) ∧ ∀ (r59 : List Int) (r60 : List Int) (r61 : Bool), (r59 = (tksS s6 (3 : Int)).l ∧ r60 = (tksS s6 (3 : Int)).r ∧ r61 = (tksS s6 (3 : Int)).ok) → ((!r61) = true →
 0 = r0.Anchor ∧ ([] : List Int) = r0.Marks ∧ ([] : List TOut) = r0.Outs ∧ 0 = r0.Deposit ∧ 0 = r0.Withdraw ∧ 0 = r0.Fee ∧ 0 = r0.Account ∧ 0 = r0.Nonce ∧ 0 = r0.Expiry ∧ ([] : List Int) = r0.Proof ∧ 2 = r1) ∧
((!r61) = false →
 0 < (r59.length : Int) ∧ 1 < (r59.length : Int) ∧ 2 < (r59.length : Int) ∧ (By r60 ∧ r60.length ≤ 137438953472 ∧ 0 ≤ (3 : Int) ∧ (3 : Int) ≤ 4096) ∧ ∀ (r65 : List Int) (r66 : List Int) (r67 : Bool), (r65 = (tklS r60 (3 : Int)).l ∧ r66 = (tklS r60 (3 : Int)).r ∧ r67 = (tklS r60 (3 : Int)).ok) → ((!r67) = true →
 0 = r0.Anchor ∧ ([] : List Int) = r0.Marks ∧ ([] : List TOut) = r0.Outs ∧ 0 = r0.Deposit ∧ 0 = r0.Withdraw ∧ 0 = r0.Fee ∧ 0 = r0.Account ∧ 0 = r0.Nonce ∧ 0 = r0.Expiry ∧ ([] : List Int) = r0.Proof ∧ 2 = r1) ∧
((!r67) = false →
 g2.length = g2.length ∧ (g2.length + [TOut.mk (ix r59 0) (ix r59 1) (ix r59 2) r65].length) * 48 ≤ 140737488355328 ∧ g2.length + [TOut.mk (ix r59 0) (ix r59 1) (ix r59 2) r65].length ≤ maxLen ∧ let v68 : List TOut := g2 ++ [TOut.mk (ix r59 0) (ix r59 1) (ix r59 2) r65]
(v68 = v68) ∧ k1 r66 (IntKind.u64.wrap (s8 + 1) : Int) v68))) ∧
(decide (s8 < s5) = false →
(By s6 ∧ s6.length ≤ 137438953472 ∧ 0 ≤ (5 : Int) ∧ (5 : Int) ≤ 4096) ∧ ∀ (r72 : List Int) (r73 : List Int) (r74 : Bool), (r72 = (tksS s6 (5 : Int)).l ∧ r73 = (tksS s6 (5 : Int)).r ∧ r74 = (tksS s6 (5 : Int)).ok) → ((!r74) = true →
 0 = r0.Anchor ∧ ([] : List Int) = r0.Marks ∧ ([] : List TOut) = r0.Outs ∧ 0 = r0.Deposit ∧ 0 = r0.Withdraw ∧ 0 = r0.Fee ∧ 0 = r0.Account ∧ 0 = r0.Nonce ∧ 0 = r0.Expiry ∧ ([] : List Int) = r0.Proof ∧ 2 = r1) ∧
((!r74) = false →
 0 < (r72.length : Int) ∧ 1 < (r72.length : Int) ∧ 2 < (r72.length : Int) ∧ 3 < (r72.length : Int) ∧ 4 < (r72.length : Int) ∧ (By r73 ∧ r73.length ≤ 137438953472 ∧ 0 ≤ (4 : Int) ∧ (4 : Int) ≤ 8) ∧ ∀ (r78 : Int) (r79 : List Int) (r80 : Bool), (r78 = (tkS r73 (4 : Int)).n ∧ r79 = (tkS r73 (4 : Int)).r ∧ r80 = (tkS r73 (4 : Int)).ok) → ((!r80) = true →
(g2 = g2) ∧ kay (r0.Anchor, r0.Marks, r0.Outs, r0.Deposit, r0.Withdraw, r0.Fee, r0.Account, r0.Nonce, r0.Expiry, r0.Proof, r1, ()) (r78, r79, true, h0_0, h0_1, h0_2, h0_3, h0_4, h0_5, h0_6, h0_7, h0_8, h0_9, h1_0, h1_1, (ix r72 0 : Int), (ix r72 1 : Int), (ix r72 2 : Int), (ix r72 3 : Int), (ix r72 4 : Int), h1_8, h1_9, g2, ())) ∧
((!r80) = false →
(g2 = g2) ∧ kay (r0.Anchor, r0.Marks, r0.Outs, r0.Deposit, r0.Withdraw, r0.Fee, r0.Account, r0.Nonce, r0.Expiry, r0.Proof, r1, ()) (r78, r79, (decide (1048576 < r78) : Bool), h0_0, h0_1, h0_2, h0_3, h0_4, h0_5, h0_6, h0_7, h0_8, h0_9, h1_0, h1_1, (ix r72 0 : Int), (ix r72 1 : Int), (ix r72 2 : Int), (ix r72 3 : Int), (ix r72 4 : Int), h1_8, h1_9, g2, ()))))
set_option maxRecDepth 100000 in
theorem k1di {r0 : TTx} {r1 : Int} {s5 : Int} {h0_0 : Int} {h0_1 : List Int} {h0_2 : List TOut} {h0_3 : Int} {h0_4 : Int} {h0_5 : Int} {h0_6 : Int} {h0_7 : Int} {h0_8 : Int} {h0_9 : List Int} {h1_0 : Int} {h1_1 : List Int} {h1_3 : Int} {h1_4 : Int} {h1_5 : Int} {h1_6 : Int} {h1_7 : Int} {h1_8 : Int} {h1_9 : List Int} {s6 : List Int} {s8 : Int} {g2 : List TOut} (inv : List Int → Int → List TOut → Prop) (μ : List Int → Int → List TOut → Nat) (h0 : inv s6 s8 g2) (hs : ∀ (s6 : List Int) (s8 : Int) (g2 : List TOut), inv s6 s8 g2 → ky1 r0 r1 (fun s6q s8q g2q => inv s6q s8q g2q ∧ μ s6q s8q g2q < μ s6 s8 g2) s5 h0_0 h0_1 h0_2 h0_3 h0_4 h0_5 h0_6 h0_7 h0_8 h0_9 h1_0 h1_1 h1_3 h1_4 h1_5 h1_6 h1_7 h1_8 h1_9 s6 s8 g2) : Md.Loop (s5, s6, s8, h0_0, h0_1, h0_2, h0_3, h0_4, h0_5, h0_6, h0_7, h0_8, h0_9, h1_0, h1_1, h1_3, h1_4, h1_5, h1_6, h1_7, h1_8, h1_9, g2, ()) (kel (r0.Anchor, r0.Marks, r0.Outs, r0.Deposit, r0.Withdraw, r0.Fee, r0.Account, r0.Nonce, r0.Expiry, r0.Proof, r1, ())) :=
  ⟨⟨fun s : Int × (List Int) × Int × Int × (List Int) × (List TOut) × Int × Int × Int × Int × Int × Int × (List Int) × Int × (List Int) × Int × Int × Int × Int × Int × Int × (List Int) × (List TOut) × Unit => (s.1 = s5 ∧ s.2.2.2.1 = h0_0 ∧ s.2.2.2.2.1 = h0_1 ∧ s.2.2.2.2.2.1 = h0_2 ∧ s.2.2.2.2.2.2.1 = h0_3 ∧ s.2.2.2.2.2.2.2.1 = h0_4 ∧ s.2.2.2.2.2.2.2.2.1 = h0_5 ∧ s.2.2.2.2.2.2.2.2.2.1 = h0_6 ∧ s.2.2.2.2.2.2.2.2.2.2.1 = h0_7 ∧ s.2.2.2.2.2.2.2.2.2.2.2.1 = h0_8 ∧ s.2.2.2.2.2.2.2.2.2.2.2.2.1 = h0_9 ∧ s.2.2.2.2.2.2.2.2.2.2.2.2.2.1 = h1_0 ∧ s.2.2.2.2.2.2.2.2.2.2.2.2.2.2.1 = h1_1 ∧ s.2.2.2.2.2.2.2.2.2.2.2.2.2.2.2.1 = h1_3 ∧ s.2.2.2.2.2.2.2.2.2.2.2.2.2.2.2.2.1 = h1_4 ∧ s.2.2.2.2.2.2.2.2.2.2.2.2.2.2.2.2.2.1 = h1_5 ∧ s.2.2.2.2.2.2.2.2.2.2.2.2.2.2.2.2.2.2.1 = h1_6 ∧ s.2.2.2.2.2.2.2.2.2.2.2.2.2.2.2.2.2.2.2.1 = h1_7 ∧ s.2.2.2.2.2.2.2.2.2.2.2.2.2.2.2.2.2.2.2.2.1 = h1_8 ∧ s.2.2.2.2.2.2.2.2.2.2.2.2.2.2.2.2.2.2.2.2.2.1 = h1_9) ∧ inv s.2.1 s.2.2.1 s.2.2.2.2.2.2.2.2.2.2.2.2.2.2.2.2.2.2.2.2.2.2.1, fun s : Int × (List Int) × Int × Int × (List Int) × (List TOut) × Int × Int × Int × Int × Int × Int × (List Int) × Int × (List Int) × Int × Int × Int × Int × Int × Int × (List Int) × (List TOut) × Unit => μ s.2.1 s.2.2.1 s.2.2.2.2.2.2.2.2.2.2.2.2.2.2.2.2.2.2.2.2.2.2.1, ⟨⟨rfl, rfl, rfl, rfl, rfl, rfl, rfl, rfl, rfl, rfl, rfl, rfl, rfl, rfl, rfl, rfl, rfl, rfl, rfl, rfl⟩, h0⟩, fun (s5p, s6p, s8p, h0_0p, h0_1p, h0_2p, h0_3p, h0_4p, h0_5p, h0_6p, h0_7p, h0_8p, h0_9p, h1_0p, h1_1p, h1_3p, h1_4p, h1_5p, h1_6p, h1_7p, h1_8p, h1_9p, g2p, ()) ⟨⟨eq0, eq1, eq2, eq3, eq4, eq5, eq6, eq7, eq8, eq9, eq10, eq11, eq12, eq13, eq14, eq15, eq16, eq17, eq18, eq19⟩, hi⟩ => by
    have eq0 : s5p = s5 := eq0; subst s5p; have eq1 : h0_0p = h0_0 := eq1; subst h0_0p; have eq2 : h0_1p = h0_1 := eq2; subst h0_1p; have eq3 : h0_2p = h0_2 := eq3; subst h0_2p; have eq4 : h0_3p = h0_3 := eq4; subst h0_3p; have eq5 : h0_4p = h0_4 := eq5; subst h0_4p; have eq6 : h0_5p = h0_5 := eq6; subst h0_5p; have eq7 : h0_6p = h0_6 := eq7; subst h0_6p; have eq8 : h0_7p = h0_7 := eq8; subst h0_7p; have eq9 : h0_8p = h0_8 := eq9; subst h0_8p; have eq10 : h0_9p = h0_9 := eq10; subst h0_9p; have eq11 : h1_0p = h1_0 := eq11; subst h1_0p; have eq12 : h1_1p = h1_1 := eq12; subst h1_1p; have eq13 : h1_3p = h1_3 := eq13; subst h1_3p; have eq14 : h1_4p = h1_4 := eq14; subst h1_4p; have eq15 : h1_5p = h1_5 := eq15; subst h1_5p; have eq16 : h1_6p = h1_6 := eq16; subst h1_6p; have eq17 : h1_7p = h1_7 := eq17; subst h1_7p; have eq18 : h1_8p = h1_8 := eq18; subst h1_8p; have eq19 : h1_9p = h1_9 := eq19; subst h1_9p; exact mpr_of (by kernel_rfl) ((congrArg (fun k => ky1 r0 r1 k s5 h0_0 h0_1 h0_2 h0_3 h0_4 h0_5 h0_6 h0_7 h0_8 h0_9 h1_0 h1_1 h1_3 h1_4 h1_5 h1_6 h1_7 h1_8 h1_9 s6p s8p g2p) (lpk3 (⟨rfl, rfl, rfl, rfl, rfl, rfl, rfl, rfl, rfl, rfl, rfl, rfl, rfl, rfl, rfl, rfl, rfl, rfl, rfl, rfl⟩ : s5 = s5 ∧ h0_0 = h0_0 ∧ h0_1 = h0_1 ∧ h0_2 = h0_2 ∧ h0_3 = h0_3 ∧ h0_4 = h0_4 ∧ h0_5 = h0_5 ∧ h0_6 = h0_6 ∧ h0_7 = h0_7 ∧ h0_8 = h0_8 ∧ h0_9 = h0_9 ∧ h1_0 = h1_0 ∧ h1_1 = h1_1 ∧ h1_3 = h1_3 ∧ h1_4 = h1_4 ∧ h1_5 = h1_5 ∧ h1_6 = h1_6 ∧ h1_7 = h1_7 ∧ h1_8 = h1_8 ∧ h1_9 = h1_9) inv (fun s6q s8q g2q => μ s6q s8q g2q < μ s6p s8p g2p))).mpr (hs s6p s8p g2p hi))⟩⟩
theorem bd56 : Callable Try.prog 56 := ⟨by rw [Try.func56]; kernel_rfl, by rw [Try.func56]; show some _ ≠ some _; decide⟩
theorem k193 (p0 : List Int) (h : By p0 ∧ p0.length ≤ 137438953472) : kko (p0, ()) ((((decS p0).1).Anchor : Int), (((decS p0).1).Marks : List Int), (((decS p0).1).Outs : List TOut), (((decS p0).1).Deposit : Int), (((decS p0).1).Withdraw : Int), (((decS p0).1).Fee : Int), (((decS p0).1).Account : Int), (((decS p0).1).Nonce : Int), (((decS p0).1).Expiry : Int), (((decS p0).1).Proof : List Int), ((decS p0).2 : Int), ()) := by
  obtain ⟨hb, hl⟩ := h
  have no : (∀ u, ¬ Enc u p0) → 0 = (decS p0).1.Anchor ∧ ([] : List Int) = (decS p0).1.Marks ∧ ([] : List TOut) = (decS p0).1.Outs ∧ 0 = (decS p0).1.Deposit ∧ 0 = (decS p0).1.Withdraw ∧ 0 = (decS p0).1.Fee ∧ 0 = (decS p0).1.Account ∧ 0 = (decS p0).1.Nonce ∧ 0 = (decS p0).1.Expiry ∧ ([] : List Int) = (decS p0).1.Proof ∧ 2 = (decS p0).2 := by
    intro h
    rw [decS_no h]
    exact ⟨rfl, rfl, rfl, rfl, rfl, rfl, rfl, rfl, rfl, rfl, rfl⟩
  have ff : ∀ {x : Bool}, (!x) = true → x = false := fun {x} h => by simpa using h
  have tt : ∀ {x : Bool}, (!x) = false → x = true := fun {x} h => by simpa using h
  refine k1g4 (r0 := (decS p0).1) ⟨⟨hb, hl, by omega, by omega⟩, ?_⟩
  rintro _ _ _ ⟨rfl, rfl, rfl⟩
  have hA := tkS_by hb 8
  have lA := tkS_len (b := p0) 8
  have sA := tkS_snd hb 8
  have cA : ∀ t, Enc t p0 → tkS p0 8 = ⟨t.Anchor, encL t.Marks ++ (dig 4 (len4 t.Outs.length) ++ (t.Outs.flatMap encO ++ encTail t)), true⟩ := fun t ht => tkS_cpl 8 (by rw [← kh2]; exact ht.e.symm) ht.r.a.1 ht.r.a.2
  have sA : (tkS p0 8).ok = true → p0 = dig 8 (tkS p0 8).n ++ (tkS p0 8).r ∧ U64 (tkS p0 8).n := sA
  generalize tkS p0 8 = A at *
  refine ⟨fun e => no fun t ht => (by have := ff e; rw [cA t ht] at this; cases this), fun eA => ?_⟩
  have eA := tt eA
  refine ⟨⟨hA, by omega, by omega, by omega⟩, ?_⟩
  rintro _ _ _ ⟨rfl, rfl, rfl⟩
  have hM := tklS_by hA 4
  have lM := k1ll (b := A.r) 4
  have sM := k1jb (m := 4) hA
  have cM : ∀ t, Enc t p0 → tklS A.r 4 = ⟨t.Marks, dig 4 (len4 t.Outs.length) ++ (t.Outs.flatMap encO ++ encTail t), true⟩ := fun t ht => by
    rw [cA t ht]
    exact k1kl rfl (by omega) (by have := ht.v.ml; omega) ht.r.m
  generalize tklS A.r 4 = M at *
  refine ⟨fun e => no fun t ht => (by have := ff e; rw [cM t ht] at this; cases this), fun eM => ?_⟩
  have eM := tt eM
  refine ⟨⟨hM, by omega, by omega, by omega⟩, ?_⟩
  rintro _ _ _ ⟨rfl, rfl, rfl⟩
  have hC := tkS_by hM 4
  have lC := tkS_len (b := M.r) 4
  have sC := tkS_snd hM 4
  have cC : ∀ t, Enc t p0 → tkS M.r 4 = ⟨len4 t.Outs.length, t.Outs.flatMap encO ++ encTail t, true⟩ := fun t ht => by
    rw [cM t ht]
    exact tkS_cpl 4 rfl (len4_bd _).1 (len4_bd _).2
  have sC : (tkS M.r 4).ok = true → M.r = dig 4 (tkS M.r 4).n ++ (tkS M.r 4).r ∧ 0 ≤ (tkS M.r 4).n ∧ (tkS M.r 4).n < 4294967296 := sC
  generalize tkS M.r 4 = C at *
  have j1 : ∀ s, (s = true → ∀ u, ¬ Enc u p0) → (s = false → C.ok = true ∧ C.n ≤ 4) → kav ((decS p0).1.Anchor, (decS p0).1.Marks, (decS p0).1.Outs, (decS p0).1.Deposit, (decS p0).1.Withdraw, (decS p0).1.Fee, (decS p0).1.Account, (decS p0).1.Nonce, (decS p0).1.Expiry, (decS p0).1.Proof, (decS p0).2, ()) (C.n, C.r, s, (0 : Int), ([] : List Int), ([] : List TOut), (0 : Int), (0 : Int), (0 : Int), (0 : Int), (0 : Int), (0 : Int), ([] : List Int), A.n, M.l, ([] : List TOut), (0 : Int), (0 : Int), (0 : Int), (0 : Int), (0 : Int), (0 : Int), ([] : List Int), ()) := by
    intro s hs hs'
    refine k16o (r0 := (decS p0).1) ⟨fun e => no (hs e), fun e => ⟨rfl, ?_⟩⟩
    obtain ⟨eC, eC4⟩ := hs' e
    obtain ⟨kA1, kA2⟩ := sA eA
    obtain ⟨kM1, kM2, kM3⟩ := sM eM
    obtain ⟨kC1, kC2, kC3⟩ := sC eC
    refine k1di (r0 := (decS p0).1) (fun b i g => 0 ≤ i ∧ i ≤ C.n ∧ By b ∧ b.length ≤ 137438953472 ∧ (g.length : Int) = i ∧ C.r = g.flatMap encO ++ b ∧ (∀ x ∈ g, OR x ∧ x.Cipher.length ≤ 3) ∧
      (∀ t, Enc t p0 → C.n = t.Outs.length ∧ g = t.Outs.take i.toNat ∧ b = (t.Outs.drop i.toNat).flatMap encO ++ encTail t)) (fun _ i _ => (C.n - i).toNat) ⟨by omega, kC2, hC, by omega, rfl, rfl, (by intro x hx; cases hx), fun t ht => ?_⟩ ?_
    · rw [cC t ht]
      have := ht.v.ol
      exact ⟨len4_in (by omega), by simp, by simp⟩
    rintro b i g ⟨g0, g1, hbb, hbl, g2, g3, g4, gc⟩
    refine ⟨fun hh => ?_, fun hh => ?_⟩
    · have hh := of_decide_eq_true hh
      refine ⟨⟨hbb, hbl, by omega, by omega⟩, ?_⟩
      rintro _ _ _ ⟨rfl, rfl, rfl⟩
      have h1 := tksS_by hbb 3
      have l1 := k15a (b := b) 3
      have s1 := k17n hbb 3
      have c1 : ∀ t, Enc t p0 → tksS b 3 = ⟨[(ix t.Outs i).Commit, (ix t.Outs i).Point_a0, (ix t.Outs i).Point_a1], encL (ix t.Outs i).Cipher ++ ((t.Outs.drop (i + 1).toNat).flatMap encO ++ encTail t), true⟩ := fun t ht => by
        obtain ⟨t1, t2, t3⟩ := gc t ht
        have hit : i < (t.Outs.length : Int) := by omega
        have hxo := ht.r.o _ (ix_mem t.Outs i g0 hit)
        rw [drop_ix t.Outs i g0 hit, List.flatMap_cons, List.append_assoc, kgx] at t3
        refine k158 (l := [(ix t.Outs i).Commit, (ix t.Outs i).Point_a0, (ix t.Outs i).Point_a1]) (by rw [t3]; simp [List.append_assoc]) ?_
        intro x hx'
        simp only [List.mem_cons, List.not_mem_nil, or_false] at hx'
        rcases hx' with rfl | rfl | rfl
        · exact hxo.c
        · exact hxo.p0
        · exact hxo.p1
      have s1 : (tksS b 3).ok = true → b = (tksS b 3).l.flatMap (dig 8) ++ (tksS b 3).r ∧ (tksS b 3).l.length = 3 ∧ Us (tksS b 3).l := s1
      generalize tksS b 3 = X at *
      refine ⟨fun e => no fun t ht => (by have := ff e; rw [c1 t ht] at this; cases this), fun eX => ?_⟩
      obtain ⟨k1, k2, k3⟩ := s1 (tt eX)
      refine ⟨by omega, by omega, by omega, ⟨h1, by omega, by omega, by omega⟩, ?_⟩
      rintro _ _ _ ⟨rfl, rfl, rfl⟩
      have h2 := tklS_by h1 3
      have l2 := k1ll (b := X.r) 3
      have s2 := k1jb (m := 3) h1
      have c2 : ∀ t, Enc t p0 → tklS X.r 3 = ⟨(ix t.Outs i).Cipher, (t.Outs.drop (i + 1).toNat).flatMap encO ++ encTail t, true⟩ := fun t ht => by
        obtain ⟨t1, t2, t3⟩ := gc t ht
        have hit : i < (t.Outs.length : Int) := by omega
        have hxm := ix_mem t.Outs i g0 hit
        rw [c1 t ht]
        exact k1kl rfl (by omega) (by rw [(ht.v.o _ hxm).l]; omega) (ht.r.o _ hxm).ci
      generalize tklS X.r 3 = Y at *
      refine ⟨fun e => no fun t ht => (by have := ff e; rw [c2 t ht] at this; cases this), fun eY => ?_⟩
      obtain ⟨q1, q2, q3⟩ := s2 (tt eY)
      rw [wu (i + 1) (by omega) (by omega)]
      refine ⟨rfl, by simp; omega, by simp; unfold maxLen; omega, rfl, ⟨by omega, by omega, h2, by omega, by simp; omega, ?_, ?_, fun t ht => ?_⟩, by omega⟩
      · rw [g3, k1, List.flatMap_append, List.append_assoc]
        congr 1
        match hX : X.l, k2 with
        | [x, y, z], _ =>
          simp only [List.flatMap_cons, List.flatMap_nil, List.append_nil]
          show _ = encO ⟨ix [x, y, z] 0, ix [x, y, z] 1, ix [x, y, z] 2, Y.l⟩ ++ Y.r
          rw [kgx, ← q1]
          simp [List.append_assoc, ix]
      · intro x hx
        rcases List.mem_append.1 hx with hx | hx
        · exact g4 x hx
        · rw [List.mem_singleton.1 hx]
          exact ⟨⟨k3 _ (ix_mem _ 0 (by omega) (by omega)), k3 _ (ix_mem _ 1 (by omega) (by omega)), k3 _ (ix_mem _ 2 (by omega) (by omega)), q3⟩, by show Y.l.length ≤ 3; omega⟩
      · obtain ⟨t1, t2, t3⟩ := gc t ht
        have hit : i < (t.Outs.length : Int) := by omega
        refine ⟨t1, ?_, by rw [c2 t ht]⟩
        rw [ka t.Outs i g0 hit, t2, c1 t ht, c2 t ht]
        rfl
    · have hh := of_decide_eq_false hh
      have hiC : i = C.n := by omega
      subst hiC
      refine ⟨⟨hbb, hbl, by omega, by omega⟩, ?_⟩
      rintro _ _ _ ⟨rfl, rfl, rfl⟩
      have h1 := tksS_by hbb 5
      have l1 := k15a (b := b) 5
      have s1 := k17n hbb 5
      have c1 : ∀ t, Enc t p0 → tksS b 5 = ⟨[t.Deposit, t.Withdraw, t.Fee, t.Account, t.Nonce], dig 4 (len4 t.Expiry) ++ encB t.Proof, true⟩ ∧ g = t.Outs := fun t ht => by
        obtain ⟨t1, t2, t3⟩ := gc t ht
        rw [show t.Outs.drop C.n.toNat = [] from List.drop_eq_nil_of_le (by omega), List.flatMap_nil, List.nil_append] at t3
        rw [List.take_of_length_le (by omega)] at t2
        refine ⟨k158 (l := [t.Deposit, t.Withdraw, t.Fee, t.Account, t.Nonce]) (by rw [t3]; simp [encTail, List.append_assoc]) ?_, t2⟩
        intro x hx'
        simp only [List.mem_cons, List.not_mem_nil, or_false] at hx'
        rcases hx' with rfl | rfl | rfl | rfl | rfl
        · exact ht.r.d
        · exact ht.r.w
        · exact ht.r.f
        · exact ht.r.ac
        · exact ht.r.n
      have s1 : (tksS b 5).ok = true → b = (tksS b 5).l.flatMap (dig 8) ++ (tksS b 5).r ∧ (tksS b 5).l.length = 5 ∧ Us (tksS b 5).l := s1
      generalize tksS b 5 = X at *
      refine ⟨fun e => no fun t ht => (by have := ff e; rw [(c1 t ht).1] at this; cases this), fun eX => ?_⟩
      obtain ⟨k1, k2, k3⟩ := s1 (tt eX)
      refine ⟨by omega, by omega, by omega, by omega, by omega, ⟨h1, by omega, by omega, by omega⟩, ?_⟩
      rintro _ _ _ ⟨rfl, rfl, rfl⟩
      have h2 := tkS_by h1 4
      have l2 := tkS_len (b := X.r) 4
      have s2 := tkS_snd h1 4
      have c2 : ∀ t, Enc t p0 → tkS X.r 4 = ⟨t.Expiry, encB t.Proof, true⟩ := fun t ht => by
        have hu := ht.us
        rw [(c1 t ht).1]
        rw [len4_in (by omega)]
        exact tkS_cpl 4 rfl (by omega) (by omega)
      have s2 : (tkS X.r 4).ok = true → X.r = dig 4 (tkS X.r 4).n ++ (tkS X.r 4).r ∧ 0 ≤ (tkS X.r 4).n ∧ (tkS X.r 4).n < 4294967296 := s2
      generalize tkS X.r 4 = E at *
      have j2 : ∀ s, (s = true → ∀ u, ¬ Enc u p0) → (s = false → E.ok = true ∧ E.n ≤ 1048576) → kay ((decS p0).1.Anchor, (decS p0).1.Marks, (decS p0).1.Outs, (decS p0).1.Deposit, (decS p0).1.Withdraw, (decS p0).1.Fee, (decS p0).1.Account, (decS p0).1.Nonce, (decS p0).1.Expiry, (decS p0).1.Proof, (decS p0).2, ()) (E.n, E.r, s, (0 : Int), ([] : List Int), ([] : List TOut), (0 : Int), (0 : Int), (0 : Int), (0 : Int), (0 : Int), (0 : Int), ([] : List Int), A.n, M.l, (ix X.l 0 : Int), (ix X.l 1 : Int), (ix X.l 2 : Int), (ix X.l 3 : Int), (ix X.l 4 : Int), (0 : Int), ([] : List Int), g, ()) := by
        intro s hs hs'
        refine k16a (r0 := (decS p0).1) ⟨fun e => no (hs e), fun e => ?_⟩
        obtain ⟨eE, eE4⟩ := hs' e
        obtain ⟨m1, m2, m3⟩ := s2 eE
        refine ⟨⟨h2, by omega, by omega, by omega⟩, ?_⟩
        rintro _ _ _ ⟨rfl, rfl, rfl⟩
        have h3 := tkS_by h2 4
        have l3 := tkS_len (b := E.r) 4
        have s3 := tkS_snd h2 4
        have c3 : ∀ t, Enc t p0 → tkS E.r 4 = ⟨t.Proof.length, t.Proof, true⟩ := fun t ht => by
          have := ht.v.pl
          rw [c2 t ht]
          unfold encB
          rw [len4_in (by omega)]
          exact tkS_cpl 4 rfl (by omega) (by omega)
        have s3 : (tkS E.r 4).ok = true → E.r = dig 4 (tkS E.r 4).n ++ (tkS E.r 4).r ∧ 0 ≤ (tkS E.r 4).n ∧ (tkS E.r 4).n < 4294967296 := s3
        generalize tkS E.r 4 = F at *
        rw [wi E.n (by omega) (by omega)]
        have j3 : ∀ s, (s = true → ∀ u, ¬ Enc u p0) → (s = false → F.ok = true ∧ F.n = F.r.length) → kax ((decS p0).1.Anchor, (decS p0).1.Marks, (decS p0).1.Outs, (decS p0).1.Deposit, (decS p0).1.Withdraw, (decS p0).1.Fee, (decS p0).1.Account, (decS p0).1.Nonce, (decS p0).1.Expiry, (decS p0).1.Proof, (decS p0).2, ()) (F.r, s, (0 : Int), ([] : List Int), ([] : List TOut), (0 : Int), (0 : Int), (0 : Int), (0 : Int), (0 : Int), (0 : Int), ([] : List Int), A.n, M.l, (ix X.l 0 : Int), (ix X.l 1 : Int), (ix X.l 2 : Int), (ix X.l 3 : Int), (ix X.l 4 : Int), E.n, ([] : List Int), g, ()) := by
          intro s hs hs'
          refine k167 (r0 := (decS p0).1) ⟨fun e => no (hs e), fun e => ?_⟩
          obtain ⟨eF, eF4⟩ := hs' e
          obtain ⟨n1, n2, n3⟩ := s3 eF
          have u0 := k3 _ (ix_mem _ 0 (by omega) (by omega))
          have u1 := k3 _ (ix_mem _ 1 (by omega) (by omega))
          have u2 := k3 _ (ix_mem _ 2 (by omega) (by omega))
          have u3 := k3 _ (ix_mem _ 3 (by omega) (by omega))
          have u4 := k3 _ (ix_mem _ 4 (by omega) (by omega))
          have hTR : TR ⟨A.n, M.l, g, ix X.l 0, ix X.l 1, ix X.l 2, ix X.l 3, ix X.l 4, E.n, F.r⟩ := ⟨kA2, kM3, fun x hx => (g4 x hx).1, u0, u1, u2, u3, u4, by show _ ≤ E.n ∧ E.n ≤ _; omega, h3⟩
          have cplT : ∀ t, Enc t p0 → (⟨A.n, M.l, g, ix X.l 0, ix X.l 1, ix X.l 2, ix X.l 3, ix X.l 4, E.n, F.r⟩ : TTx) = t := fun t ht => by
            rw [cA t ht, cM t ht, (c1 t ht).1, (c1 t ht).2, c2 t ht, c3 t ht]
            rfl
          refine ⟨by simp; omega, by simp; unfold maxLen; omega, ⟨hTR, ?_⟩, fun e => ?_, fun e => ?_⟩
          · refine ⟨by show M.l.length ≤ _; omega, by show g.length ≤ _; omega, ?_, by show F.r.length ≤ _; omega⟩
            exact fun x hx => by have := (g4 x hx).2; omega
          · refine no fun t ht => ?_
            have e : validE ⟨A.n, M.l, g, ix X.l 0, ix X.l 1, ix X.l 2, ix X.l 3, ix X.l 4, E.n, F.r⟩ ≠ 0 := by simpa using e
            rw [cplT t ht] at e
            exact e ((k3t _).2 ht.v)
          · have e : validE ⟨A.n, M.l, g, ix X.l 0, ix X.l 1, ix X.l 2, ix X.l 3, ix X.l 4, E.n, F.r⟩ = 0 := by simpa using e
            have hE : Enc ⟨A.n, M.l, g, ix X.l 0, ix X.l 1, ix X.l 2, ix X.l 3, ix X.l 4, E.n, F.r⟩ p0 := by
              refine ⟨hTR, (k3t _).1 e, ?_⟩
              rw [kh2]
              unfold encTail
              show dig 8 A.n ++ (encL M.l ++ (dig 4 (len4 g.length) ++ (g.flatMap encO ++ (dig 8 (ix X.l 0) ++ (dig 8 (ix X.l 1) ++ (dig 8 (ix X.l 2) ++ (dig 8 (ix X.l 3) ++ (dig 8 (ix X.l 4) ++ (dig 4 (len4 E.n) ++ encB F.r))))))))) = p0
              rw [len4_in (n := E.n) (by omega), len4_in (n := (g.length : Int)) (by omega), show ((g.length : Nat) : Int) = C.n by omega]
              have eB : encB F.r = E.r := by unfold encB; rw [len4_in (by omega), ← eF4]; exact n1.symm
              have eX : b = dig 8 (ix X.l 0) ++ (dig 8 (ix X.l 1) ++ (dig 8 (ix X.l 2) ++ (dig 8 (ix X.l 3) ++ (dig 8 (ix X.l 4) ++ X.r)))) := by
                rw [k1]
                match hX : X.l, k2 with
                | [x, y, z, w, v], _ => simp [List.append_assoc, ix]
              rw [eB, ← m1, ← eX, ← g3, ← kC1, ← kM1, ← kA1]
            rw [k16u hE fun u hu => cplT u hu]
            exact ⟨rfl, rfl, rfl, rfl, rfl, rfl, rfl, rfl, rfl, rfl, rfl⟩
        refine ⟨fun e => ⟨rfl, j3 _ (fun _ u hu => (by have := ff e; rw [c3 u hu] at this; cases this)) (fun h => by simp at h)⟩, fun e => ⟨rfl, ?_⟩⟩
        rw [wu (F.r.length : Int) (by omega) (by omega)]
        refine j3 _ (fun h u hu => ?_) (fun h => ⟨tt e, by simpa using h⟩)
        rw [c3 u hu] at h
        simp at h
      refine ⟨fun e => ⟨rfl, j2 _ (fun _ u hu => (by have := ff e; rw [c2 u hu] at this; cases this)) (fun h => by simp at h)⟩, fun e => ⟨rfl, j2 _ (fun h u hu => ?_) (fun h => ⟨tt e, by have := of_decide_eq_false h; omega⟩)⟩⟩
      have h := of_decide_eq_true h
      have := hu.us
      rw [c2 u hu] at h
      have h : 1048576 < u.Expiry := h
      omega
  refine ⟨fun e => j1 _ (fun _ u hu => (by have := ff e; rw [cC u hu] at this; cases this)) (fun h => by simp at h), fun e => j1 _ (fun h u hu => ?_) (fun h => ⟨tt e, by have := of_decide_eq_false h; omega⟩)⟩
  have h := of_decide_eq_true h
  rw [cC u hu] at h
  have h : 4 < len4 u.Outs.length := h
  have := hu.v.ol
  rw [len4_in (by omega)] at h
  omega
noncomputable def ku5 : Con TB.den := { kq with R := fun x K => (fun (p0 : List Int) => ((By p0 ∧ p0.length ≤ 137438953472) ∧ ∀ (v0 : TTx) (v1 : Int), (v0 = ((decS p0).1) ∧ v1 = ((decS p0).2)) → K (v0.Anchor, v0.Marks, v0.Outs, v0.Deposit, v0.Withdraw, v0.Fee, v0.Account, v0.Nonce, v0.Expiry, v0.Proof, v1, ()) : Prop)) x.1 }
theorem k1gj : ku5.Ok Try.prog TB := ⟨bd56, fun x K hx => ⟨((fun (p0 : List Int) => (((decS p0).1).Anchor : Int)) x.1, (fun (p0 : List Int) => (((decS p0).1).Marks : List Int)) x.1, (fun (p0 : List Int) => (((decS p0).1).Outs : List TOut)) x.1, (fun (p0 : List Int) => (((decS p0).1).Deposit : Int)) x.1, (fun (p0 : List Int) => (((decS p0).1).Withdraw : Int)) x.1, (fun (p0 : List Int) => (((decS p0).1).Fee : Int)) x.1, (fun (p0 : List Int) => (((decS p0).1).Account : Int)) x.1, (fun (p0 : List Int) => (((decS p0).1).Nonce : Int)) x.1, (fun (p0 : List Int) => (((decS p0).1).Expiry : Int)) x.1, (fun (p0 : List Int) => (((decS p0).1).Proof : List Int)) x.1, (fun (p0 : List Int) => ((decS p0).2 : Int)) x.1, ()), hx.2 ((fun (p0 : List Int) => (((decS p0).1))) x.1) ((fun (p0 : List Int) => (((decS p0).2))) x.1) ⟨rfl, rfl⟩, k1de (k193 x.1 hx.1)⟩⟩
end Go.Proofs.Ytnmakgfmimagmaa
namespace Go.Proofs.Ytnmakgfmimagmaa
open Go Go.Bv Go.Cv Go.Md Go.RowKit
def k1w : Con TB.den := Con.mk0 28 [.one (.d (.sl (.int .u8)))] [] (.tup [.agg [.d (.int .u64), .d (.int .i64), .d (.int .u64), .d (.int .u64), .d (.int .u64), .d (.sl (.st 1))], .one (.d (.int .i64))]) []
abbrev k10i := HL TB.den (hsT k1w.ins (hsOs k1w.pre))
abbrev k2r := HL TB.den (hsV k1w.res (hsOs k1w.post))
noncomputable def k3x : Cx TB := ⟨inf, [kle, kgt, kkx, ku5, koa], [], 4⟩
noncomputable def k77 : Code := Try.f28.body.getD .skip
noncomputable def k8t : List ResultVar := Try.f28.results.toList
noncomputable def k1gz (o : k2r) : Exit → TSt TB.den → Prop := thenT TB (fun s => ghs TB [] s fun s => WP TB k3x 76 0 (cB (cB (cB (cB (cB (cB (cB (cB (cB (cB k77)))))))))) .no s (retTQ TB k3x k1w k8t o)) (retTQ TB k3x k1w k8t o)
def kgz : Tm := ⟨[0, 2, 3], [.cells [.d (.int .u64), .d (.int .i64), .d (.int .u64), .d (.int .u64), .d (.int .u64), .full (.st 1)], .cells [.d (.int .u64), .d (.int .i64), .d (.int .u64), .d (.int .u64), .d (.int .u64), .own 2], .tip (.st 1)], [2, 5, 73], [.one (.ptr 0 0), .one (.ptr 1 0), .one (.d (.bool))], 4⟩
noncomputable def ktv (o : k2r) (i : HL TB.den kgz.hs) : Prop := ghs TB [] (kgz.fill TB i) fun s => WP TB k3x 76 0 (cB (cA (cB (cB (cB (cB (cB (cB (cB (cB (cB k77))))))))))) .no s (k1gz o)
structure k8w (o : k2r) (i : HL TB.den kgz.hs) : Prop where
  h : ktv o i
noncomputable def kyg (o : k2r) : An TB := .nd [] (.jn kgz (k8w o) [] .no [] .no) [] .no
def kcm : Tm := ⟨[0, 1, 2, 3], [.cells [.d (.int .u64), .d (.int .i64), .d (.int .u64), .d (.int .u64), .d (.int .u64), .full (.st 1)], .cells [.d (.sl (.int .u8)), .d (.bool)], .cells [.d (.int .u64), .d (.int .i64), .d (.int .u64), .d (.int .u64), .d (.int .u64), .own 3], .tip (.st 1)], [2, 4, 5], [.one (.ptr 0 0), .one (.ptr 1 0), .one (.ptr 2 0)], 4⟩
noncomputable def ku8 (o : k2r) (i : HL TB.den kcm.hs) : Prop := ghs TB [] (kcm.fill TB i) fun s => WP TB k3x 76 0 (cB (cB (cB (cB (cB (cB (cB (cB (cB k77))))))))) (kyg o) s (retTQ TB k3x k1w k8t o)
structure k8v (o : k2r) (i : HL TB.den kcm.hs) : Prop where
  h : ku8 o i
noncomputable def k1fk (o : k2r) : Exit → TSt TB.den → Prop := thenT TB (fun s => kcm.mat TB 0 s (k8v o)) (retTQ TB k3x k1w k8t o)
def k8q : Tm := ⟨[0, 1, 2, 3], [.cells [.d (.int .u64), .d (.int .i64), .d (.int .u64), .d (.int .u64), .d (.int .u64), .full (.st 1)], .cells [.d (.sl (.int .u8)), .d (.bool)], .cells [.d (.int .u64), .d (.int .i64), .d (.int .u64), .d (.int .u64), .d (.int .u64), .own 3], .tip (.st 1)], [2, 4, 5, 6, 7], [.one (.ptr 0 0), .one (.ptr 1 0), .one (.ptr 2 0), .one (.d (.int .i64)), .one (.d (.int .i64))], 4⟩
noncomputable def k1f5 (o : k2r) (nx1 : HL TB.den k8q.hs → Prop) : Exit → TSt TB.den → Prop := thenT TB (fun s => k8q.mat TB 0 s nx1) (blockT TB 0 (k1fk o))
noncomputable def kea (o : k2r) (nx1 : HL TB.den k8q.hs → Prop) (i : HL TB.den k8q.hs) : Prop := WP TB k3x 76 0 (cA (cA (cB (cA (cB (cB (cB (cB (cB (cB (cB (cB k77)))))))))))) .no (k8q.fill TB i) (k1f5 o nx1)
noncomputable def k1h4 (o : k2r) : An TB := .lp [.tokc 2 5 (.st 1)] k8q (kea o) fun nx1 => .no
noncomputable def k1dk (o : k2r) : An TB := .jn kcm (k8v o) [] (.nd [] .no [] (k1h4 o)) [] (kyg o)
noncomputable def k1ch (o : k2r) : An TB := .nd [] .no [] (.nd [] .no [] (.nd [] .no [] (k1dk o)))
noncomputable def k1cm (o : k2r) : An TB := .nd [] .no [] (.nd [] .no [] (.nd [] .no [] (k1ch o)))
noncomputable def kxj (o : k2r) : An TB := .nd [] .no [] (.nd [] .no [] (k1cm o))
noncomputable def kkr (x : k10i) (o : k2r) : Prop := WPh TB k3x 76 0 k77 (kxj o) (k1w.st TB x) (retTQ TB k3x k1w k8t o)
set_option maxRecDepth 100000 in
theorem k1bz (o : k2r) : OblH TB k3x 76 0 k77 (kxj o) (retTQ TB k3x k1w k8t o) :=
  OblH.of_eq (X := (True ∧ (True ∧ (True ∧ (True ∧ (True ∧ (True ∧ (True ∧ (True ∧ ((True ∧ ((∀ nx i, (kea o) nx i = (kea o) nx i) ∧ ∀ nx1 : HL TB.den k8q.hs → Prop, ((True ∧ (True ∧ True)) ∧ ((True ∧ ((True ∧ ((True ∧ True) ∧ True)) ∧ True)) ∧ True)))) ∧ (∀ i, (k8v o) i = (ku8 o) i) ∧ ((True ∧ (∀ i, (k8w o) i = (ktv o) i) ∧ ((True ∧ True) ∧ True)) ∧ (True ∧ True)))))))))))) (by kernel_rfl) ⟨trivial, ⟨trivial, ⟨trivial, ⟨trivial, ⟨trivial, ⟨trivial, ⟨trivial, ⟨trivial, ⟨⟨trivial, ⟨fun _ _ => rfl, fun _ => ⟨⟨trivial, ⟨trivial, trivial⟩⟩, ⟨⟨trivial, ⟨⟨trivial, ⟨⟨trivial, trivial⟩, trivial⟩⟩, trivial⟩⟩, trivial⟩⟩⟩⟩, fun _ => propext ⟨fun h => h.1, fun h => ⟨h⟩⟩, ⟨⟨trivial, fun _ => propext ⟨fun h => h.1, fun h => ⟨h⟩⟩, ⟨⟨trivial, trivial⟩, trivial⟩⟩, ⟨trivial, trivial⟩⟩⟩⟩⟩⟩⟩⟩⟩⟩⟩
set_option maxRecDepth 100000 in
theorem k1dv {x : k10i} {o : k2r} (h : kkr x o) : SoundH Try.prog k1w.f ((k1w.args idf x).map (er TB)) ((k1w.obs idf x).map (erO TB)) (er TB (k1w.val idf o)) ((k1w.ops idf o).map (erO TB)) :=
  Con.soundH (c := k1w) (C := k3x) TBok ⟨inf_ok, (all_cons k12a (all_cons kp0 (all_cons kz1 (all_cons k1gj (all_cons k119 all_nil))))), all_nil⟩ mix Try.func28 (show Try.f28.body = some k77 by kernel_rfl) (show Try.f28.ntmps = 76 by kernel_rfl) (show Try.f28.results.toList = k8t by kernel_rfl) rfl h (k1bz o)
set_option maxRecDepth 100000 in
theorem k1i5 {p0 : List Int} {r0 : TBlock} {r1 : Int} (h :
((By p0) ∧ ∀ (r5 : Int) (r6 : List Int) (r7 : Bool), (r5 = (nB 8 p0 false (18446744073709551615 : Int)).n ∧ r6 = (nB 8 p0 false (18446744073709551615 : Int)).b ∧ r7 = (nB 8 p0 false (18446744073709551615 : Int)).f) → (By r6) ∧ ∀ (r11 : Int) (r12 : List Int) (r13 : Bool), (r11 = (nB 4 r6 r7 (4294967296 : Int)).n ∧ r12 = (nB 4 r6 r7 (4294967296 : Int)).b ∧ r13 = (nB 4 r6 r7 (4294967296 : Int)).f) → (By r12) ∧ ∀ (r17 : Int) (r18 : List Int) (r19 : Bool), (r17 = (nB 8 r12 r13 (18446744073709551615 : Int)).n ∧ r18 = (nB 8 r12 r13 (18446744073709551615 : Int)).b ∧ r19 = (nB 8 r12 r13 (18446744073709551615 : Int)).f) → (By r18) ∧ ∀ (r23 : Int) (r24 : List Int) (r25 : Bool), (r23 = (nB 8 r18 r19 (18446744073709551615 : Int)).n ∧ r24 = (nB 8 r18 r19 (18446744073709551615 : Int)).b ∧ r25 = (nB 8 r18 r19 (18446744073709551615 : Int)).f) → (By r24) ∧ ∀ (r29 : Int) (r30 : List Int) (r31 : Bool), (r29 = (nB 8 r24 r25 (18446744073709551615 : Int)).n ∧ r30 = (nB 8 r24 r25 (18446744073709551615 : Int)).b ∧ r31 = (nB 8 r24 r25 (18446744073709551615 : Int)).f) → (By r30) ∧ ∀ (r35 : Int) (r36 : List Int) (r37 : Bool), (r35 = (nB 4 r30 r31 (64 : Int)).n ∧ r36 = (nB 4 r30 r31 (64 : Int)).b ∧ r37 = (nB 4 r30 r31 (64 : Int)).f) → (([] : List TTx) = ([] : List TTx)) ∧ Md.Loop (r35, (0 : Int), (0 : Int), (0 : Int), (0 : Int), (0 : Int), (0 : Int), (([] : List TTx) : List TTx), r36, r37, r5, r11, r17, r23, r29, (([] : List TTx) : List TTx), ()) (kea (r0.Parent, r0.Height, r0.Miner, r0.Work, r0.Nonce, r0.Txs, r1, ())))) : kkr (p0, ()) (r0.Parent, r0.Height, r0.Miner, r0.Work, r0.Nonce, r0.Txs, r1, ()) := WPh.of_eq (by kernel_rfl) h
set_option maxRecDepth 100000 in
theorem k171 {r0 : TBlock} {r1 : Int} {h0_0 : Int} {h0_1 : Int} {h0_2 : Int} {h0_3 : Int} {h0_4 : Int} {h0_5 : List TTx} {h1_0 : List Int} {h1_1 : Bool} {h2_0 : Int} {h2_1 : Int} {h2_2 : Int} {h2_3 : Int} {h2_4 : Int} {g3 : List TTx} (h :
((h1_1 = true →
(g3 = g3) ∧ k8w (r0.Parent, r0.Height, r0.Miner, r0.Work, r0.Nonce, r0.Txs, r1, ()) (true, h0_0, h0_1, h0_2, h0_3, h0_4, h0_5, h2_0, h2_1, h2_2, h2_3, h2_4, g3, ())) ∧
(h1_1 = false →
(decide (0 < (h1_0.length : Int)) = true →
(g3 = g3) ∧ k8w (r0.Parent, r0.Height, r0.Miner, r0.Work, r0.Nonce, r0.Txs, r1, ()) (true, h0_0, h0_1, h0_2, h0_3, h0_4, h0_5, h2_0, h2_1, h2_2, h2_3, h2_4, g3, ())) ∧
(decide (0 < (h1_0.length : Int)) = false →
(∀ x ∈ (TBlock.mk h2_0 h2_1 h2_2 h2_3 h2_4 g3).Txs, TR x ∧ TL x) ∧ let r58 : Int := validB (TBlock.mk h2_0 h2_1 h2_2 h2_3 h2_4 g3)
(g3 = g3) ∧ k8w (r0.Parent, r0.Height, r0.Miner, r0.Work, r0.Nonce, r0.Txs, r1, ()) (((r58 != 0) : Bool), h0_0, h0_1, h0_2, h0_3, h0_4, h0_5, h2_0, h2_1, h2_2, h2_3, h2_4, g3, ()))))) : k8v (r0.Parent, r0.Height, r0.Miner, r0.Work, r0.Nonce, r0.Txs, r1, ()) (h0_0, h0_1, h0_2, h0_3, h0_4, h0_5, h1_0, h1_1, h2_0, h2_1, h2_2, h2_3, h2_4, g3, ()) := ⟨mpr_of (by kernel_rfl) h⟩
set_option maxRecDepth 100000 in
theorem kpv {r0 : TBlock} {r1 : Int} {s73 : Bool} {h0_0 : Int} {h0_1 : Int} {h0_2 : Int} {h0_3 : Int} {h0_4 : Int} {h0_5 : List TTx} {h2_0 : Int} {h2_1 : Int} {h2_2 : Int} {h2_3 : Int} {h2_4 : Int} {g3 : List TTx} (h :
((s73 = true →
 0 = r0.Parent ∧ 0 = r0.Height ∧ 0 = r0.Miner ∧ 0 = r0.Work ∧ 0 = r0.Nonce ∧ ([] : List TTx) = r0.Txs ∧ 2 = r1) ∧
(s73 = false →
 h2_0 = r0.Parent ∧ h2_1 = r0.Height ∧ h2_2 = r0.Miner ∧ h2_3 = r0.Work ∧ h2_4 = r0.Nonce ∧ g3 = r0.Txs ∧ 0 = r1))) : k8w (r0.Parent, r0.Height, r0.Miner, r0.Work, r0.Nonce, r0.Txs, r1, ()) (s73, h0_0, h0_1, h0_2, h0_3, h0_4, h0_5, h2_0, h2_1, h2_2, h2_3, h2_4, g3, ()) := ⟨mpr_of (by kernel_rfl) h⟩
def ky6 (r0 : TBlock) (r1 : Int) (k1 : Int → List Int → Bool → List TTx → Prop) (s6 : Int) (h0_0 : Int) (h0_1 : Int) (h0_2 : Int) (h0_3 : Int) (h0_4 : Int) (h0_5 : List TTx) (h2_0 : Int) (h2_1 : Int) (h2_2 : Int) (h2_3 : Int) (h2_4 : Int) (s7 : Int) (h1_0 : List Int) (h1_1 : Bool) (g3 : List TTx) : Prop :=
(decide (s7 < s6) = true →
((!h1_1) = true →
(By h1_0) ∧ ∀ (r53 : List Int) (r54 : List Int) (r55 : Bool), (r53 = (bB h1_0 h1_1 (4294967296 : Int)).l ∧ r54 = (bB h1_0 h1_1 (4294967296 : Int)).b ∧ r55 = (bB h1_0 h1_1 (4294967296 : Int)).f) → (By r53 ∧ r53.length ≤ 137438953472) ∧ ∀ (r56 : TTx) (r57 : Int), (r56 = (decS r53).1 ∧ r57 = (decS r53).2) → ((r57 != 0) = true →
 0 = r0.Parent ∧ 0 = r0.Height ∧ 0 = r0.Miner ∧ 0 = r0.Work ∧ 0 = r0.Nonce ∧ ([] : List TTx) = r0.Txs ∧ 2 = r1) ∧
((r57 != 0) = false →
 g3.length = g3.length ∧ (g3.length + [r56].length) * 128 ≤ 140737488355328 ∧ g3.length + [r56].length ≤ maxLen ∧ (g3 ++ [r56] = g3 ++ [r56]) ∧ k1 (IntKind.i64.wrap (s7 + 1) : Int) r54 r55 (g3 ++ [r56] : List TTx))) ∧
((!h1_1) = false →
(g3 = g3) ∧ k8v (r0.Parent, r0.Height, r0.Miner, r0.Work, r0.Nonce, r0.Txs, r1, ()) (h0_0, h0_1, h0_2, h0_3, h0_4, h0_5, h1_0, h1_1, h2_0, h2_1, h2_2, h2_3, h2_4, g3, ()))) ∧
(decide (s7 < s6) = false →
(g3 = g3) ∧ k8v (r0.Parent, r0.Height, r0.Miner, r0.Work, r0.Nonce, r0.Txs, r1, ()) (h0_0, h0_1, h0_2, h0_3, h0_4, h0_5, h1_0, h1_1, h2_0, h2_1, h2_2, h2_3, h2_4, g3, ()))
set_option maxRecDepth 100000 in
theorem k1cb {r0 : TBlock} {r1 : Int} {s6 : Int} {h0_0 : Int} {h0_1 : Int} {h0_2 : Int} {h0_3 : Int} {h0_4 : Int} {h0_5 : List TTx} {h2_0 : Int} {h2_1 : Int} {h2_2 : Int} {h2_3 : Int} {h2_4 : Int} {s7 : Int} {h1_0 : List Int} {h1_1 : Bool} {g3 : List TTx} (inv : Int → List Int → Bool → List TTx → Prop) (μ : Int → List Int → Bool → List TTx → Nat) (h0 : inv s7 h1_0 h1_1 g3) (hs : ∀ (s7 : Int) (h1_0 : List Int) (h1_1 : Bool) (g3 : List TTx), inv s7 h1_0 h1_1 g3 → ky6 r0 r1 (fun s7q h1_0q h1_1q g3q => inv s7q h1_0q h1_1q g3q ∧ μ s7q h1_0q h1_1q g3q < μ s7 h1_0 h1_1 g3) s6 h0_0 h0_1 h0_2 h0_3 h0_4 h0_5 h2_0 h2_1 h2_2 h2_3 h2_4 s7 h1_0 h1_1 g3) : Md.Loop (s6, s7, h0_0, h0_1, h0_2, h0_3, h0_4, h0_5, h1_0, h1_1, h2_0, h2_1, h2_2, h2_3, h2_4, g3, ()) (kea (r0.Parent, r0.Height, r0.Miner, r0.Work, r0.Nonce, r0.Txs, r1, ())) :=
  ⟨⟨fun s : Int × Int × Int × Int × Int × Int × Int × (List TTx) × (List Int) × Bool × Int × Int × Int × Int × Int × (List TTx) × Unit => (s.1 = s6 ∧ s.2.2.1 = h0_0 ∧ s.2.2.2.1 = h0_1 ∧ s.2.2.2.2.1 = h0_2 ∧ s.2.2.2.2.2.1 = h0_3 ∧ s.2.2.2.2.2.2.1 = h0_4 ∧ s.2.2.2.2.2.2.2.1 = h0_5 ∧ s.2.2.2.2.2.2.2.2.2.2.1 = h2_0 ∧ s.2.2.2.2.2.2.2.2.2.2.2.1 = h2_1 ∧ s.2.2.2.2.2.2.2.2.2.2.2.2.1 = h2_2 ∧ s.2.2.2.2.2.2.2.2.2.2.2.2.2.1 = h2_3 ∧ s.2.2.2.2.2.2.2.2.2.2.2.2.2.2.1 = h2_4) ∧ inv s.2.1 s.2.2.2.2.2.2.2.2.1 s.2.2.2.2.2.2.2.2.2.1 s.2.2.2.2.2.2.2.2.2.2.2.2.2.2.2.1, fun s : Int × Int × Int × Int × Int × Int × Int × (List TTx) × (List Int) × Bool × Int × Int × Int × Int × Int × (List TTx) × Unit => μ s.2.1 s.2.2.2.2.2.2.2.2.1 s.2.2.2.2.2.2.2.2.2.1 s.2.2.2.2.2.2.2.2.2.2.2.2.2.2.2.1, ⟨⟨rfl, rfl, rfl, rfl, rfl, rfl, rfl, rfl, rfl, rfl, rfl, rfl⟩, h0⟩, fun (s6p, s7p, h0_0p, h0_1p, h0_2p, h0_3p, h0_4p, h0_5p, h1_0p, h1_1p, h2_0p, h2_1p, h2_2p, h2_3p, h2_4p, g3p, ()) ⟨⟨eq0, eq1, eq2, eq3, eq4, eq5, eq6, eq7, eq8, eq9, eq10, eq11⟩, hi⟩ => by
    have eq0 : s6p = s6 := eq0; subst s6p; have eq1 : h0_0p = h0_0 := eq1; subst h0_0p; have eq2 : h0_1p = h0_1 := eq2; subst h0_1p; have eq3 : h0_2p = h0_2 := eq3; subst h0_2p; have eq4 : h0_3p = h0_3 := eq4; subst h0_3p; have eq5 : h0_4p = h0_4 := eq5; subst h0_4p; have eq6 : h0_5p = h0_5 := eq6; subst h0_5p; have eq7 : h2_0p = h2_0 := eq7; subst h2_0p; have eq8 : h2_1p = h2_1 := eq8; subst h2_1p; have eq9 : h2_2p = h2_2 := eq9; subst h2_2p; have eq10 : h2_3p = h2_3 := eq10; subst h2_3p; have eq11 : h2_4p = h2_4 := eq11; subst h2_4p; exact mpr_of (by kernel_rfl) ((congrArg (fun k => ky6 r0 r1 k s6 h0_0 h0_1 h0_2 h0_3 h0_4 h0_5 h2_0 h2_1 h2_2 h2_3 h2_4 s7p h1_0p h1_1p g3p) (lpk4 (⟨rfl, rfl, rfl, rfl, rfl, rfl, rfl, rfl, rfl, rfl, rfl, rfl⟩ : s6 = s6 ∧ h0_0 = h0_0 ∧ h0_1 = h0_1 ∧ h0_2 = h0_2 ∧ h0_3 = h0_3 ∧ h0_4 = h0_4 ∧ h0_5 = h0_5 ∧ h2_0 = h2_0 ∧ h2_1 = h2_1 ∧ h2_2 = h2_2 ∧ h2_3 = h2_3 ∧ h2_4 = h2_4) inv (fun s7q h1_0q h1_1q g3q => μ s7q h1_0q h1_1q g3q < μ s7p h1_0p h1_1p g3p))).mpr (hs s7p h1_0p h1_1p g3p hi))⟩⟩
theorem bd28 : Callable Try.prog 28 := ⟨by rw [Try.func28]; kernel_rfl, by rw [Try.func28]; show some _ ≠ some _; decide⟩
theorem k1aa (p0 : List Int) (h : By p0 ∧ p0.length ≤ 137438953472) : kkr (p0, ()) ((((decB p0).1).Parent : Int), (((decB p0).1).Height : Int), (((decB p0).1).Miner : Int), (((decB p0).1).Work : Int), (((decB p0).1).Nonce : Int), (((decB p0).1).Txs : List TTx), ((decB p0).2 : Int), ()) := by
  obtain ⟨hb, hl⟩ := h
  have p8 : (256 : Int) ^ (8 : Int).toNat = 18446744073709551616 := by decide
  have p4 : (256 : Int) ^ (4 : Int).toNat = 4294967296 := by decide
  have zn : (∀ t, ¬ EB t p0) → 0 = (decB p0).1.Parent ∧ 0 = (decB p0).1.Height ∧ 0 = (decB p0).1.Miner ∧ 0 = (decB p0).1.Work ∧ 0 = (decB p0).1.Nonce ∧ ([] : List TTx) = (decB p0).1.Txs ∧ 2 = (decB p0).2 := by
    intro hn
    rw [decB_no hn]
    exact ⟨rfl, rfl, rfl, rfl, rfl, rfl, rfl⟩
  refine k1i5 (r0 := (decB p0).1) ⟨hb, ?_⟩
  rintro _ _ _ ⟨rfl, rfl, rfl⟩
  have hA := nB_b (k := 8) (m := 18446744073709551615) (f := false) hb
  have sA := nB_snd (k := 8) (m := 18446744073709551615) (f := false) hb (by omega)
  have cA := fun n r => nB_cpl (k := 8) (m := 18446744073709551615) (f := false) (b := p0) (n := n) (r := r) (by omega) rfl
  have nA := nB_n (k := 8) (m := 18446744073709551615) (f := false) hb (by omega)
  generalize nB 8 p0 false 18446744073709551615 = A at *
  refine ⟨hA.1, ?_⟩
  rintro _ _ _ ⟨rfl, rfl, rfl⟩
  have hH := nB_b (k := 4) (m := 4294967296) (f := A.f) hA.1
  have sH := nB_snd (k := 4) (m := 4294967296) (f := A.f) hA.1 (by omega)
  have cH := fun n r => nB_cpl (k := 4) (m := 4294967296) (f := A.f) (b := A.b) (n := n) (r := r) (by omega)
  have nH := nB_n (k := 4) (m := 4294967296) (f := A.f) hA.1 (by omega)
  generalize nB 4 A.b A.f 4294967296 = H at *
  refine ⟨hH.1, ?_⟩
  rintro _ _ _ ⟨rfl, rfl, rfl⟩
  have hM := nB_b (k := 8) (m := 18446744073709551615) (f := H.f) hH.1
  have sM := nB_snd (k := 8) (m := 18446744073709551615) (f := H.f) hH.1 (by omega)
  have cM := fun n r => nB_cpl (k := 8) (m := 18446744073709551615) (f := H.f) (b := H.b) (n := n) (r := r) (by omega)
  have nM := nB_n (k := 8) (m := 18446744073709551615) (f := H.f) hH.1 (by omega)
  generalize nB 8 H.b H.f 18446744073709551615 = M at *
  refine ⟨hM.1, ?_⟩
  rintro _ _ _ ⟨rfl, rfl, rfl⟩
  have hW := nB_b (k := 8) (m := 18446744073709551615) (f := M.f) hM.1
  have sW := nB_snd (k := 8) (m := 18446744073709551615) (f := M.f) hM.1 (by omega)
  have cW := fun n r => nB_cpl (k := 8) (m := 18446744073709551615) (f := M.f) (b := M.b) (n := n) (r := r) (by omega)
  have nW := nB_n (k := 8) (m := 18446744073709551615) (f := M.f) hM.1 (by omega)
  generalize nB 8 M.b M.f 18446744073709551615 = W at *
  refine ⟨hW.1, ?_⟩
  rintro _ _ _ ⟨rfl, rfl, rfl⟩
  have hO := nB_b (k := 8) (m := 18446744073709551615) (f := W.f) hW.1
  have sO := nB_snd (k := 8) (m := 18446744073709551615) (f := W.f) hW.1 (by omega)
  have cO := fun n r => nB_cpl (k := 8) (m := 18446744073709551615) (f := W.f) (b := W.b) (n := n) (r := r) (by omega)
  have nO := nB_n (k := 8) (m := 18446744073709551615) (f := W.f) hW.1 (by omega)
  generalize nB 8 W.b W.f 18446744073709551615 = O at *
  refine ⟨hO.1, ?_⟩
  rintro _ _ _ ⟨rfl, rfl, rfl⟩
  have hC := nB_b (k := 4) (m := 64) (f := O.f) hO.1
  have sC := nB_snd (k := 4) (m := 64) (f := O.f) hO.1 (by omega)
  have cC := fun n r => nB_cpl (k := 4) (m := 64) (f := O.f) (b := O.b) (n := n) (r := r) (by omega)
  have nC := nB_n (k := 4) (m := 64) (f := O.f) hO.1 (by omega)
  generalize nB 4 O.b O.f 64 = C at *
  rw [p8] at *
  rw [p4] at *
  refine ⟨by trivial, ?_⟩
  have jj : ∀ (i : Int) (b : List Int) (f : Bool) (g : List TTx), 0 ≤ i → i ≤ C.n → (g.length : Int) = i →
    (f = false → p0 = dig 8 A.n ++ (dig 4 H.n ++ (dig 8 M.n ++ (dig 8 W.n ++ (dig 8 O.n ++ (dig 4 C.n ++ (g.flatMap encTx ++ b)))))) ∧ ∀ x ∈ g, TR x ∧ VT x) →
    (∀ t, EB t p0 → f = false ∧ A.n = t.Parent ∧ H.n = t.Height ∧ M.n = t.Miner ∧ W.n = t.Work ∧ O.n = t.Nonce ∧ C.n = t.Txs.length ∧ g = t.Txs.take i.toNat ∧ b = (t.Txs.drop i.toNat).flatMap encTx) →
    (f = false → i = C.n) → k8v ((decB p0).1.Parent, (decB p0).1.Height, (decB p0).1.Miner, (decB p0).1.Work, (decB p0).1.Nonce, (decB p0).1.Txs, (decB p0).2, ()) ((0 : Int), (0 : Int), (0 : Int), (0 : Int), (0 : Int), ([] : List TTx), b, f, A.n, H.n, M.n, W.n, O.n, g, ()) := by
    intro i b f g g0 g1 g2 gs gc gi
    have jn : (∀ t, ¬ EB t p0) → ∀ s, s = true → k8w ((decB p0).1.Parent, (decB p0).1.Height, (decB p0).1.Miner, (decB p0).1.Work, (decB p0).1.Nonce, (decB p0).1.Txs, (decB p0).2, ()) (s, (0 : Int), (0 : Int), (0 : Int), (0 : Int), (0 : Int), ([] : List TTx), A.n, H.n, M.n, W.n, O.n, g, ()) := by
      intro hn s hs
      exact kpv (r0 := (decB p0).1) ⟨fun _ => zn hn, fun h => by rw [hs] at h; cases h⟩
    refine k171 (r0 := (decB p0).1) ⟨fun e => ⟨(by trivial), jn (fun t ht => ?_) _ rfl⟩, fun e => ?_⟩
    · rw [(gc t ht).1] at e; cases e
    have hi := gi e
    obtain ⟨w1, w2⟩ := gs e
    have cpl : ∀ t, EB t p0 → b = [] ∧ (⟨A.n, H.n, M.n, W.n, O.n, g⟩ : TBlock) = t := by
      intro t ht
      obtain ⟨t1, t2, t3, t4, t5, t6, t7, t8, t9⟩ := gc t ht
      rw [List.drop_eq_nil_of_le (by omega), List.flatMap_nil] at t9
      rw [List.take_of_length_le (by omega)] at t8
      exact ⟨t9, by rw [t2, t3, t4, t5, t6, t8]⟩
    refine ⟨fun e2 => ⟨(by trivial), jn (fun t ht => ?_) _ rfl⟩, fun e2 => ?_⟩
    · rw [(cpl t ht).1] at e2; cases e2
    · have e2 := of_decide_eq_false e2
      have hbn : b = [] := List.length_eq_zero_iff.1 (by omega)
      refine ⟨fun x hx => ⟨(w2 x hx).1, (w2 x hx).2.tl⟩, (by trivial), ?_⟩
      by_cases hv : validB ⟨A.n, H.n, M.n, W.n, O.n, g⟩ = 0
      · have hE : EB ⟨A.n, H.n, M.n, W.n, O.n, g⟩ p0 := by
          refine ⟨⟨nA, nM, nW, nO, by show -9223372036854775808 ≤ H.n ∧ H.n ≤ _; omega, fun x hx => (w2 x hx).1⟩, (k9j _).1 hv, ?_⟩
          rw [kep]
          show dig 8 A.n ++ (dig 4 (len4 H.n) ++ (dig 8 M.n ++ (dig 8 W.n ++ (dig 8 O.n ++ (dig 4 (len4 (g.length : Int)) ++ g.flatMap encTx))))) = p0
          rw [len4_in (n := H.n) (by omega), len4_in (n := (g.length : Int)) (by omega), g2, hi]
          rw [hbn, List.append_nil] at w1
          exact w1.symm
        refine kpv (r0 := (decB p0).1) ⟨fun h => ?_, fun _ => ?_⟩
        · rw [hv] at h; simp at h
        · rw [decB_eb hE]
          exact ⟨rfl, rfl, rfl, rfl, rfl, rfl, rfl⟩
      · refine jn (fun t ht => ?_) _ (by simpa using hv)
        rw [(cpl t ht).2] at hv
        exact hv ((k9j t).2 ht.v)
  refine k1cb (r0 := (decB p0).1) (fun i b f g => 0 ≤ i ∧ i ≤ C.n ∧ (By b ∧ b.length ≤ 137438953472) ∧ (g.length : Int) = i ∧
    (f = false → p0 = dig 8 A.n ++ (dig 4 H.n ++ (dig 8 M.n ++ (dig 8 W.n ++ (dig 8 O.n ++ (dig 4 C.n ++ (g.flatMap encTx ++ b)))))) ∧ ∀ x ∈ g, TR x ∧ VT x) ∧
    (∀ t, EB t p0 → f = false ∧ A.n = t.Parent ∧ H.n = t.Height ∧ M.n = t.Miner ∧ W.n = t.Work ∧ O.n = t.Nonce ∧ C.n = t.Txs.length ∧ g = t.Txs.take i.toNat ∧ b = (t.Txs.drop i.toNat).flatMap encTx)) (fun i _ _ _ => (C.n - i).toNat) ⟨by omega, nC.1, ⟨hC.1, by omega⟩, rfl, ?_, ?_⟩ ?_
  · intro hf
    obtain ⟨a1, a2, a3⟩ := sC hf
    obtain ⟨b1, b2, b3⟩ := sO a1
    obtain ⟨c1, c2, c3⟩ := sW b1
    obtain ⟨d1, d2, d3⟩ := sM c1
    obtain ⟨e1, e2, e3⟩ := sH d1
    obtain ⟨f1, f2, f3⟩ := sA e1
    refine ⟨?_, by intro x hx; cases hx⟩
    show p0 = dig 8 A.n ++ (dig 4 H.n ++ (dig 8 M.n ++ (dig 8 W.n ++ (dig 8 O.n ++ (dig 4 C.n ++ ([] ++ C.b))))))
    have a2 : O.b = dig 4 C.n ++ C.b := a2
    have b2 : W.b = dig 8 O.n ++ O.b := b2
    have c2 : M.b = dig 8 W.n ++ W.b := c2
    have d2 : H.b = dig 8 M.n ++ M.b := d2
    have e2 : A.b = dig 4 H.n ++ H.b := e2
    rw [List.nil_append, ← a2, ← b2, ← c2, ← d2, ← e2]
    exact f2
  · intro t ht
    have v := ht.v.h
    have v0 := v.h0
    have v1 := v.h1
    have v2 := v.l
    have he := ht.e
    have up := ht.r.p
    have um := ht.r.m
    have uw := ht.r.w
    have un := ht.r.n
    rw [kep, len4_in (n := t.Height) (by omega), len4_in (n := (t.Txs.length : Int)) (by omega)] at he
    have a := cA t.Parent _ he.symm (by omega) (by omega) (by omega)
    have b := cH t.Height _ (by rw [a]) (by rw [a]; rfl) (by omega) (by omega) (by omega)
    have c := cM t.Miner _ (by rw [b]) (by rw [b]; rfl) (by omega) (by omega) (by omega)
    have d := cW t.Work _ (by rw [c]) (by rw [c]; rfl) (by omega) (by omega) (by omega)
    have e := cO t.Nonce _ (by rw [d]) (by rw [d]; rfl) (by omega) (by omega) (by omega)
    have f := cC (t.Txs.length : Int) _ (by rw [e]) (by rw [e]; rfl) (by omega) (by omega) (by omega)
    rw [a, b, c, d, e, f]
    exact ⟨rfl, rfl, rfl, rfl, rfl, rfl, rfl, by simp, by simp⟩
  rintro i b f g ⟨g0, g1, ⟨hbb, hbl⟩, g2, gs, gc⟩
  refine ⟨fun hh => ?_, fun hh => ?_⟩
  · have hh := of_decide_eq_true hh
    refine ⟨fun ef => ⟨hbb, ?_⟩, fun ef => ⟨(by trivial), jj i b f g g0 g1 g2 gs gc fun h => by rw [h] at ef; cases ef⟩⟩
    have ef : f = false := by simpa using ef
    rintro _ _ _ ⟨rfl, rfl, rfl⟩
    have x1 := bB_l (m := 4294967296) (f := f) hbb
    have x2 := bB_b (m := 4294967296) (f := f) hbb
    have x3 := bB_len (m := 4294967296) (f := f) hbb
    have x4 := bB_snd (m := 4294967296) (f := f) hbb
    have x5 := fun l r => bB_cpl (m := 4294967296) (f := f) (b := b) (l := l) (r := r)
    generalize bB b f 4294967296 = X at *
    have cx : ∀ t, EB t p0 → X = ⟨encT (ix t.Txs i) (ix t.Txs i).Proof, (t.Txs.drop (i + 1).toNat).flatMap encTx, false⟩ ∧ Enc (ix t.Txs i) X.l ∧ i < (t.Txs.length : Int) := by
      intro t ht
      obtain ⟨t1, t2, t3, t4, t5, t6, t7, t8, t9⟩ := gc t ht
      have hit : i < (t.Txs.length : Int) := by omega
      have hxm := ix_mem t.Txs i g0 hit
      have hxr := ht.r.t _ hxm
      have hxv := (k3t _).1 (ht.v.t _ hxm)
      have hxl := hxv.enc_len (ix t.Txs i).Proof
      have hxp := hxv.pl
      rw [drop_ix t.Txs i g0 hit, List.flatMap_cons] at t9
      have q := x5 _ _ t1 t9 (by omega) (by omega)
      exact ⟨q, ⟨hxr, hxv, by rw [q]⟩, hit⟩
    refine ⟨⟨x1, by omega⟩, ?_⟩
    rintro _ _ ⟨rfl, rfl⟩
    refine ⟨fun e2 => zn fun t ht => ?_, fun e2 => ?_⟩
    · rw [kwe (cx t ht).2.1] at e2
      simp at e2
    · have e2 : (decS X.l).2 = 0 := by simpa using e2
      have hE := k1e3 e2
      have cy : ∀ t, EB t p0 → (decS X.l).1 = ix t.Txs i := fun t ht => by rw [kwe (cx t ht).2.1]
      generalize (decS X.l).1 = y at *
      rw [inc i C.n g0 hh (by omega)]
      refine ⟨(by trivial), by simp; omega, by simp; unfold maxLen; omega, (by trivial), ⟨by omega, by omega, ⟨x2.1, by omega⟩, by simp; omega, ?_, ?_⟩, by omega⟩
      · intro hf
        obtain ⟨w1, w2⟩ := gs ef
        refine ⟨?_, ?_⟩
        · rw [List.flatMap_append, List.append_assoc]
          simp only [List.flatMap_cons, List.flatMap_nil, List.append_nil]
          unfold encTx at *
          rw [hE.e, ← (x4 hf).2]
          exact w1
        · intro x hx
          rcases List.mem_append.1 hx with hx | hx
          · exact w2 x hx
          · rw [List.mem_singleton.1 hx]; exact ⟨hE.r, hE.v⟩
      · intro t ht
        obtain ⟨t1, t2, t3, t4, t5, t6, t7, t8, t9⟩ := gc t ht
        obtain ⟨z1, z2, z3⟩ := cx t ht
        refine ⟨by rw [z1], t2, t3, t4, t5, t6, t7, ?_, by rw [z1]⟩
        rw [ka t.Txs i g0 z3, t8, cy t ht]
  · have hh := of_decide_eq_false hh
    exact ⟨(by trivial), jj i b f g g0 g1 g2 gs gc fun _ => by omega⟩
noncomputable def kv0 : Con TB.den := { k1w with R := fun x K => (fun (p0 : List Int) => ((By p0 ∧ p0.length ≤ 137438953472) ∧ ∀ (v0 : TBlock) (v1 : Int), (v0 = ((decB p0).1) ∧ v1 = ((decB p0).2)) → K (v0.Parent, v0.Height, v0.Miner, v0.Work, v0.Nonce, v0.Txs, v1, ()) : Prop)) x.1 }
theorem k1gv : kv0.Ok Try.prog TB := ⟨bd28, fun x K hx => ⟨((fun (p0 : List Int) => (((decB p0).1).Parent : Int)) x.1, (fun (p0 : List Int) => (((decB p0).1).Height : Int)) x.1, (fun (p0 : List Int) => (((decB p0).1).Miner : Int)) x.1, (fun (p0 : List Int) => (((decB p0).1).Work : Int)) x.1, (fun (p0 : List Int) => (((decB p0).1).Nonce : Int)) x.1, (fun (p0 : List Int) => (((decB p0).1).Txs : List TTx)) x.1, (fun (p0 : List Int) => ((decB p0).2 : Int)) x.1, ()), hx.2 ((fun (p0 : List Int) => (((decB p0).1))) x.1) ((fun (p0 : List Int) => (((decB p0).2))) x.1) ⟨rfl, rfl⟩, k1dv (k1aa x.1 hx.1)⟩⟩
end Go.Proofs.Ytnmakgfmimagmaa
namespace Go.Proofs.Ytnmakgfmimagmaa
open Go Go.Bv Go.Cv Go.Md Go.RowKit
def ku : Con TB.den := Con.mk0 9 [.one (.d (.sl (.int .u8)))] [] (.one (.one (.d (.bool)))) []
abbrev kom := HL TB.den (hsT ku.ins (hsOs ku.pre))
abbrev k50 := HL TB.den (hsV ku.res (hsOs ku.post))
noncomputable def k45 : Cx TB := ⟨inf, [koi, kj7, kv0, kk9, kdt], [], 4⟩
noncomputable def k71 : Code := Try.f9.body.getD .skip
noncomputable def k86 : List ResultVar := Try.f9.results.toList
noncomputable def k12g (o : k50) : Exit → TSt TB.den → Prop := thenT TB (fun s => ghs TB [] s fun s => WP TB k45 54 0 (cB (cB k71)) .no s (retTQ TB k45 ku k86 o)) (retTQ TB k45 ku k86 o)
def kap : Tm := ⟨[], [], [0, 15], [.one (.d (.sl (.int .u8))), .one (.d (.bool))], 0⟩
noncomputable def klh (o : k50) (i : HL TB.den kap.hs) : Prop := ghs TB [] (kap.fill TB i) fun s => WP TB k45 54 0 (cB (cA (cB k71))) .no s (k12g o)
structure k6d (o : k50) (i : HL TB.den kap.hs) : Prop where
  h : klh o i
noncomputable def k11r (o : k50) : An TB := .nd [] (.jn kap (k6d o) [] .no [] .no) [] .no
noncomputable def knl (o : k50) : An TB := .nd [] .no [] (k11r o)
noncomputable def kdr (x : kom) (o : k50) : Prop := WPh TB k45 54 0 k71 (knl o) (ku.st TB x) (retTQ TB k45 ku k86 o)
set_option maxRecDepth 100000 in
theorem kyt (o : k50) : OblH TB k45 54 0 k71 (knl o) (retTQ TB k45 ku k86 o) :=
  OblH.of_eq (X := (True ∧ ((True ∧ (∀ i, (k6d o) i = (klh o) i) ∧ ((True ∧ True) ∧ True)) ∧ (True ∧ (True ∧ ((True ∧ ((True ∧ True) ∧ True)) ∧ ((True ∧ ((True ∧ True) ∧ True)) ∧ (True ∧ (True ∧ True))))))))) (by kernel_rfl) ⟨trivial, ⟨⟨trivial, fun _ => propext ⟨fun h => h.1, fun h => ⟨h⟩⟩, ⟨⟨trivial, trivial⟩, trivial⟩⟩, ⟨trivial, ⟨trivial, ⟨⟨trivial, ⟨⟨trivial, trivial⟩, trivial⟩⟩, ⟨⟨trivial, ⟨⟨trivial, trivial⟩, trivial⟩⟩, ⟨trivial, ⟨trivial, trivial⟩⟩⟩⟩⟩⟩⟩⟩
set_option maxRecDepth 100000 in
theorem kzb {x : kom} {o : k50} (h : kdr x o) : SoundH Try.prog ku.f ((ku.args idf x).map (er TB)) ((ku.obs idf x).map (erO TB)) (er TB (ku.val idf o)) ((ku.ops idf o).map (erO TB)) :=
  Con.soundH (c := ku) (C := k45) TBok ⟨inf_ok, (all_cons k106 (all_cons ksj (all_cons k1gv (all_cons kt5 (all_cons kkf all_nil))))), all_nil⟩ mix Try.func9 (show Try.f9.body = some k71 by kernel_rfl) (show Try.f9.ntmps = 54 by kernel_rfl) (show Try.f9.results.toList = k86 by kernel_rfl) rfl h (kyt o)
set_option maxRecDepth 100000 in
theorem kzy {p0 : List Int} {r0 : Bool} (h :
(((!true) = true →
 k6d (r0, ()) (p0, true, ())) ∧
((!true) = false →
 k6d (r0, ()) (p0, (decide (3000 < (p0.length : Int)) : Bool), ())))) : kdr (p0, ()) (r0, ()) := WPh.of_eq (by kernel_rfl) h
set_option maxRecDepth 100000 in
theorem kug {r0 : Bool} {s0 : List Int} {s15 : Bool} (h :
((s15 = true →
 true = r0) ∧
(s15 = false →
(([] : List Int).length + s0.length) * 1 ≤ 140737488355328 ∧ ([] : List Int).length + s0.length ≤ maxLen ∧ (By (([] : List Int) ++ s0) ∧ (([] : List Int) ++ s0).length ≤ 137438953472) ∧ ∀ (r3 : TBlock) (r4 : Int), (r3 = (decB (([] : List Int) ++ s0)).1 ∧ r4 = (decB (([] : List Int) ++ s0)).2) → (By s0 ∧ s0.length ≤ 137438953472) ∧ ∀ (r7 : TBlock) (r8 : Int), (r7 = (decB s0).1 ∧ r8 = (decB s0).2) → ((r4 != r8) = true →
 false = r0) ∧
((r4 != r8) = false →
(r3.Txs.length ≤ 9223372036854775807 ∧ (∀ x ∈ r3.Txs, TD x) ∧ (∀ x ∈ r7.Txs, TD x)) ∧ ((!sameB r3 r7) = true →
 false = r0) ∧
((!sameB r3 r7) = false →
((r4 != 0) = true →
 true = r0) ∧
((r4 != 0) = false →
(BR r3) ∧ (((validB r3) == 0) = true →
 let v9 : ByteArray := strOfNums (if validB r3 = 0 then encBk r3 else [])
(v9.toList == (strOfNums s0).toList) = r0) ∧
(((validB r3) == 0) = false →
 false = r0))))))) : k6d (r0, ()) (s0, s15, ()) := ⟨mpr_of (by kernel_rfl) h⟩
theorem kwq (p0 : List Int) (h : By p0 ∧ p0.length ≤ 9223372036854775807) : kdr (p0, ()) ((true : Bool), ()) := by
  obtain ⟨hb, hl⟩ := h
  have j : ∀ s, (s = false → p0.length ≤ 3000) → k6d (true, ()) (p0, s, ()) := by
    intro s hs
    refine kug ⟨fun _ => rfl, fun h => ?_⟩
    have h := hs h
    refine ⟨by simp; omega, by simp; unfold maxLen; omega, ⟨hb, by simp; omega⟩, ?_⟩
    rw [List.nil_append]
    rintro _ _ ⟨rfl, rfl⟩
    refine ⟨⟨hb, by omega⟩, ?_⟩
    rintro _ _ ⟨rfl, rfl⟩
    rcases k1nk p0 with ⟨x, hE, e⟩ | e
    · have vl := hE.v.h.l
      have td := hE.v.td hE.r.t
      have hv := (k9j x).2 hE.v
      rw [e]
      refine ⟨fun h => by simp at h, fun _ => ⟨⟨by show x.Txs.length ≤ _; omega, td, td⟩, fun h => ?_, fun _ => ⟨fun h => by simp at h, fun _ => ⟨hE.r, fun _ => ?_, fun h => ?_⟩⟩⟩⟩
      · simp [kwu] at h
      · show ((strOfNums (if validB x = 0 then encBk x else [])).toList == (strOfNums p0).toList) = true
        rw [if_pos hv, hE.e]
        exact beq_self_eq_true _
      · have h : (validB x == 0) = false := h
        rw [hv] at h; cases h
    · rw [e]
      refine ⟨fun h => by simp at h, fun _ => ⟨⟨by show ([] : List TTx).length ≤ _; decide, (fun x hx => by cases hx), (fun x hx => by cases hx)⟩, fun h => ?_, fun _ => ⟨fun _ => rfl, fun h => by simp at h⟩⟩⟩
      simp [kwu] at h
  exact kzy ⟨fun h => by simp at h, fun _ => j _ fun h => by have := of_decide_eq_false h; omega⟩
end Go.Proofs.Ytnmakgfmimagmaa
