/-
  Parts of the proofs that the laws of this seat hold of every input, merged by a program: a machine over pure data that is sound for the model, what each function of the translation does in it, and plain lemmas. No conditions but those in each theorem.
-/
import Derived.Test.YtnmakgfmimagmaaA4
set_option linter.all false
namespace Go.Proofs.Ytnmakgfmimagmaa
open Go Go.Bv Go.Cv Go.Md Go.RowKit
def k3a : Con TB.den := Con.mk0 99 [.agg [.d (.int .u64)], .one (.d (.int .u64)), .one (.d (.int .u64))] [] (.one (.one (.d (.int .u64)))) []
abbrev k11d := HL TB.den (hsT k3a.ins (hsOs k3a.pre))
abbrev kks := HL TB.den (hsV k3a.res (hsOs k3a.post))
noncomputable def kdr : Cx TB := ⟨inf, [k62, k7v, km7], [], 4, []⟩
noncomputable def kjw : Code := Try.f99.body.getD .skip
noncomputable def kng : List ResultVar := Try.f99.results.toList
noncomputable def kz3 (o : kks) : An TB := .no
noncomputable def kk3 (x : k11d) (o : kks) : Prop := WPh TB kdr 18 0 kjw (kz3 o) (k3a.st TB x) (retTQ TB kdr k3a kng o)
set_option maxRecDepth 100000 in
theorem k1cq (o : kks) : OblH TB kdr 18 0 kjw (kz3 o) (retTQ TB kdr k3a kng o) :=
  OblH.of_eq (X := (True ∧ ((True ∧ ((True ∧ True) ∧ True)) ∧ (True ∧ True)))) (by kernel_rfl) ⟨trivial, ⟨⟨trivial, ⟨⟨trivial, trivial⟩, trivial⟩⟩, ⟨trivial, trivial⟩⟩⟩
set_option maxRecDepth 100000 in
theorem k1dd {x : k11d} {o : kks} (h : kk3 x o) : SoundH Try.prog k3a.f ((k3a.args idf x).map (er TB)) ((k3a.obs idf x).map (erO TB)) (er TB (k3a.val idf o)) ((k3a.ops idf o).map (erO TB)) :=
  Con.soundH (c := k3a) (C := kdr) TBok ⟨inf_ok, (all_cons k8e (all_cons kc7 (all_cons ky7 all_nil))), all_nil⟩ mix Try.func99 (show Try.f99.body = some kjw by kernel_rfl) (show Try.f99.ntmps = 18 by kernel_rfl) (show Try.f99.results.toList = kng by kernel_rfl) rfl h (k1cq o)
set_option maxRecDepth 100000 in
theorem k1e6 {p0 : TField} {p1 : Int} {p2 : Int} {r0 : Int} (h :
((p0.P = 18446744069414584321) ∧ ((!true) = true →
 0 = r0) ∧
((!true) = false →
(0 < p0.P ∧ 0 ≤ p1) ∧ (0 < p0.P ∧ 0 ≤ p2) ∧ (p0.P = 18446744069414584321 ∧ (0 ≤ (p1 % p0.P) ∧ (p1 % p0.P) < 18446744069414584321) ∧ (0 ≤ (p2 % p0.P) ∧ (p2 % p0.P) < 18446744069414584321)) ∧ let r1 : Int := ((p1 % p0.P) * (p2 % p0.P) % 18446744069414584321)
 r1 = r0))) : kk3 (p0.P, p1, p2, ()) (r0, ()) := WPh.of_eq (by kernel_rfl) h
theorem bd99 : Callable Try.prog 99 := ⟨by rw [Try.func99]; kernel_rfl, by rw [Try.func99]; show some _ ≠ some _; decide⟩
theorem k17w (p0 : TField) (p1 : Int) (p2 : Int) (h : p0.P = 18446744069414584321 ∧ U64 p1 ∧ U64 p2) : kk3 (p0.P, p1, p2, ()) (((p1 * p2 % 18446744069414584321) : Int), ()) := by
  obtain ⟨hP, h1, h2⟩ := h
  refine k1e6 ⟨hP, ?_⟩
  simp only [hP]
  refine ⟨fun h => by simp at h, fun _ => ⟨by omega, by omega, ⟨by trivial, by omega, by omega⟩, ?_⟩⟩
  exact (Int.mul_emod _ _ _).symm
noncomputable def kur : Con TB.den := k3a.fnR (fun x => (fun (p0 : TField) (p1 : Int) (p2 : Int) => p0.P = 18446744069414584321 ∧ U64 p1 ∧ U64 p2) (TField.mk x.1) x.2.1 x.2.2.1) fun x => ((fun (p0 : TField) (p1 : Int) (p2 : Int) => ((p1 * p2 % 18446744069414584321) : Int)) (TField.mk x.1) x.2.1 x.2.2.1, ())
theorem k1ey : kur.Ok Try.prog TB := Con.ok_fn k3a bd99 fun x h => k1dd (k17w (TField.mk x.1) x.2.1 x.2.2.1 h)
end Go.Proofs.Ytnmakgfmimagmaa
namespace Go.Proofs.Ytnmakgfmimagmaa
open Go Go.Bv Go.Cv Go.Md Go.RowKit
def k1i : Con TB.den := Con.mk0 117 [.agg [.d (.int .u64)]] [] (.tup [.one (.d (.int .u64)), .one (.d (.int .i64)), .one (.d (.int .u64))]) []
abbrev kpp := HL TB.den (hsT k1i.ins (hsOs k1i.pre))
abbrev kd5 := HL TB.den (hsV k1i.res (hsOs k1i.post))
noncomputable def k8z : Cx TB := ⟨inf, [], [], 4, []⟩
noncomputable def ke1 : Code := Try.f117.body.getD .skip
noncomputable def kh2 : List ResultVar := Try.f117.results.toList
noncomputable def koh (o : kd5) : An TB := .no
noncomputable def kdf (x : kpp) (o : kd5) : Prop := WPh TB k8z 21 0 ke1 (koh o) (k1i.st TB x) (retTQ TB k8z k1i kh2 o)
set_option maxRecDepth 100000 in
theorem kzz (o : kd5) : OblH TB k8z 21 0 ke1 (koh o) (retTQ TB k8z k1i kh2 o) :=
  OblH.of_eq (X := (True ∧ ((True ∧ (True ∧ ((True ∧ True) ∧ (True ∧ ((True ∧ True) ∧ (True ∧ ((True ∧ True) ∧ (True ∧ ((True ∧ True) ∧ (True ∧ ((True ∧ True) ∧ (True ∧ ((True ∧ True) ∧ (True ∧ ((True ∧ True) ∧ True))))))))))))))) ∧ (True ∧ True)))) (by kernel_rfl) ⟨trivial, ⟨⟨trivial, ⟨trivial, ⟨⟨trivial, trivial⟩, ⟨trivial, ⟨⟨trivial, trivial⟩, ⟨trivial, ⟨⟨trivial, trivial⟩, ⟨trivial, ⟨⟨trivial, trivial⟩, ⟨trivial, ⟨⟨trivial, trivial⟩, ⟨trivial, ⟨⟨trivial, trivial⟩, ⟨trivial, ⟨⟨trivial, trivial⟩, trivial⟩⟩⟩⟩⟩⟩⟩⟩⟩⟩⟩⟩⟩⟩⟩, ⟨trivial, trivial⟩⟩⟩
set_option maxRecDepth 100000 in
theorem kzs {x : kpp} {o : kd5} (h : kdf x o) : SoundH Try.prog k1i.f ((k1i.args idf x).map (er TB)) ((k1i.obs idf x).map (erO TB)) (er TB (k1i.val idf o)) ((k1i.ops idf o).map (erO TB)) :=
  Con.soundH (c := k1i) (C := k8z) TBok ⟨inf_ok, all_nil, all_nil⟩ mix Try.func117 (show Try.f117.body = some ke1 by kernel_rfl) (show Try.f117.ntmps = 21 by kernel_rfl) (show Try.f117.results.toList = kh2 by kernel_rfl) rfl h (kzz o)
set_option maxRecDepth 100000 in
theorem k128 {p0 : TField} {r0 : Int} {r1 : Int} {r2 : Int} (h :
(((p0.P == 17) = true →
 3 = r0 ∧ 4 = r1 ∧ 3 = r2) ∧
((p0.P == 17) = false →
((p0.P == 97) = true →
 5 = r0 ∧ 5 = r1 ∧ 5 = r2) ∧
((p0.P == 97) = false →
((p0.P == 193) = true →
 5 = r0 ∧ 6 = r1 ∧ 5 = r2) ∧
((p0.P == 193) = false →
((p0.P == 257) = true →
 3 = r0 ∧ 8 = r1 ∧ 3 = r2) ∧
((p0.P == 257) = false →
((p0.P == 12289) = true →
 11 = r0 ∧ 12 = r1 ∧ 5 = r2) ∧
((p0.P == 12289) = false →
((p0.P == 65537) = true →
 3 = r0 ∧ 16 = r1 ∧ 3 = r2) ∧
((p0.P == 65537) = false →
((p0.P == 18446744069414584321) = true →
 7 = r0 ∧ 32 = r1 ∧ 7 = r2) ∧
((p0.P == 18446744069414584321) = false →
 0 = r0 ∧ 0 = r1 ∧ 0 = r2))))))))) : kdf (p0.P, ()) (r0, r1, r2, ()) := WPh.of_eq (by kernel_rfl) h
theorem bd117 : Callable Try.prog 117 := ⟨by rw [Try.func117]; kernel_rfl, by rw [Try.func117]; show some _ ≠ some _; decide⟩
theorem kya (p0 : TField) (h : p0.P = 18446744069414584321) : kdf (p0.P, ()) ((7 : Int), (32 : Int), (7 : Int), ()) := by
  refine k128 ?_
  simp [h]
noncomputable def kmd : Con TB.den := k1i.fnR (fun x => (fun (p0 : TField) => p0.P = 18446744069414584321) (TField.mk x.1)) fun x => ((fun (p0 : TField) => (7 : Int)) (TField.mk x.1), (fun (p0 : TField) => (32 : Int)) (TField.mk x.1), (fun (p0 : TField) => (7 : Int)) (TField.mk x.1), ())
theorem k11q : kmd.Ok Try.prog TB := Con.ok_fn k1i bd117 fun x h => kzs (kya (TField.mk x.1) h)
end Go.Proofs.Ytnmakgfmimagmaa
namespace Go.Proofs.Ytnmakgfmimagmaa
open Go Go.Bv Go.Cv Go.Md Go.RowKit
def k17 : Con TB.den := Con.mk0 110 [.agg [.d (.int .u64)]] [] (.one (.one (.d (.int .u64)))) []
abbrev kog := HL TB.den (hsT k17.ins (hsOs k17.pre))
abbrev kc1 := HL TB.den (hsV k17.res (hsOs k17.post))
noncomputable def k7y : Cx TB := ⟨inf, [kmd], [], 4, []⟩
noncomputable def kd2 : Code := Try.f110.body.getD .skip
noncomputable def kfo : List ResultVar := Try.f110.results.toList
noncomputable def kmk (o : kc1) : An TB := .no
noncomputable def kd0 (x : kog) (o : kc1) : Prop := WPh TB k7y 13 0 kd2 (kmk o) (k17.st TB x) (retTQ TB k7y k17 kfo o)
set_option maxRecDepth 100000 in
theorem ky1 (o : kc1) : OblH TB k7y 13 0 kd2 (kmk o) (retTQ TB k7y k17 kfo o) :=
  OblH.of_eq (X := (True ∧ (True ∧ (True ∧ True)))) (by kernel_rfl) ⟨trivial, ⟨trivial, ⟨trivial, trivial⟩⟩⟩
set_option maxRecDepth 100000 in
theorem kxi {x : kog} {o : kc1} (h : kd0 x o) : SoundH Try.prog k17.f ((k17.args idf x).map (er TB)) ((k17.obs idf x).map (erO TB)) (er TB (k17.val idf o)) ((k17.ops idf o).map (erO TB)) :=
  Con.soundH (c := k17) (C := k7y) TBok ⟨inf_ok, (all_cons k11q all_nil), all_nil⟩ mix Try.func110 (show Try.f110.body = some kd2 by kernel_rfl) (show Try.f110.ntmps = 13 by kernel_rfl) (show Try.f110.results.toList = kfo by kernel_rfl) rfl h (ky1 o)
set_option maxRecDepth 100000 in
theorem k105 {p0 : TField} {r0 : Int} (h :
((p0.P = 18446744069414584321) ∧ 7 = r0)) : kd0 (p0.P, ()) (r0, ()) := WPh.of_eq (by kernel_rfl) h
theorem bd110 : Callable Try.prog 110 := ⟨by rw [Try.func110]; kernel_rfl, by rw [Try.func110]; show some _ ≠ some _; decide⟩
theorem kw5 (p0 : TField) (h : p0.P = 18446744069414584321) : kd0 (p0.P, ()) ((7 : Int), ()) := by
  exact k105 ⟨h, rfl⟩
noncomputable def kla : Con TB.den := k17.fnR (fun x => (fun (p0 : TField) => p0.P = 18446744069414584321) (TField.mk x.1)) fun x => ((fun (p0 : TField) => (7 : Int)) (TField.mk x.1), ())
theorem kzj : kla.Ok Try.prog TB := Con.ok_fn k17 bd110 fun x h => kxi (kw5 (TField.mk x.1) h)
end Go.Proofs.Ytnmakgfmimagmaa
namespace Go.Proofs.Ytnmakgfmimagmaa
open Go Go.Bv Go.Cv Go.Md Go.RowKit
def k2l : Con TB.den := Con.mk0 118 [.agg [.d (.int .u64)], .one (.d (.int .u64)), .one (.d (.int .u64))] [] (.one (.one (.d (.int .u64)))) []
abbrev k10i := HL TB.den (hsT k2l.ins (hsOs k2l.pre))
abbrev k5k := HL TB.den (hsV k2l.res (hsOs k2l.post))
noncomputable def k5i : Cx TB := ⟨inf, [km7], [], 4, []⟩
noncomputable def k8f : Code := Try.f118.body.getD .skip
noncomputable def kdw : List ResultVar := Try.f118.results.toList
noncomputable def k1ei (o : k5k) : Exit → TSt TB.den → Prop := thenT TB (fun s => ghs TB [] s fun s => WP TB k5i 26 0 (cB (cB (cB k8f))) .no s (retTQ TB k5i k2l kdw o)) (retTQ TB k5i k2l kdw o)
def k4k : Tm := ⟨[0], [.cells [.d (.int .u64)]], [1, 2, 3, 7], [.one (.d (.int .u64)), .one (.d (.int .u64)), .one (.ptr 0 0), .one (.d (.int .u64))], 1⟩
noncomputable def kyw (o : k5k) (nx1 : HL TB.den k4k.hs → Prop) : Exit → TSt TB.den → Prop := thenT TB (fun s => k4k.mat TB 0 s nx1) (blockT TB 0 (k1ei o))
def kgo : Tm := ⟨[0], [.cells [.d (.int .u64)]], [1, 2, 3, 7], [.one (.d (.int .u64)), .one (.d (.int .u64)), .one (.ptr 0 0), .one (.d (.int .u64))], 1⟩
noncomputable def kvt (o : k5k) (nx1 : HL TB.den k4k.hs → Prop) (i : HL TB.den kgo.hs) : Prop := ghs TB [] (kgo.fill TB i) fun s => WP TB k5i 26 0 (cB (cA (cB (cA (cA (cA (cB (cB k8f)))))))) .no s (blockT TB 1 (kyw o nx1))
structure kbk (o : k5k) (nx1 : HL TB.den k4k.hs → Prop) (i : HL TB.den kgo.hs) : Prop where
  h : kvt o nx1 i
noncomputable def kwz (o : k5k) (nx1 : HL TB.den k4k.hs → Prop) : An TB := .nd [] .no [] (.jn kgo (kbk o nx1) [] .no [] .no)
noncomputable def kdg (o : k5k) (nx1 : HL TB.den k4k.hs → Prop) (i : HL TB.den k4k.hs) : Prop := WP TB k5i 26 0 (cA (cA (cA (cB (cB k8f))))) (kwz o nx1) (k4k.fill TB i) (kyw o nx1)
noncomputable def k1h9 (o : k5k) : An TB := .lp [] k4k (kdg o) fun nx1 => (kwz o nx1)
noncomputable def kwo (o : k5k) : An TB := .nd [] .no [] (.nd [] .no [] (.nd [] (k1h9 o) [] .no))
noncomputable def kjy (x : k10i) (o : k5k) : Prop := WPh TB k5i 26 0 k8f (kwo o) (k2l.st TB x) (retTQ TB k5i k2l kdw o)
set_option maxRecDepth 100000 in
theorem k1dc (o : k5k) : OblH TB k5i 26 0 k8f (kwo o) (retTQ TB k5i k2l kdw o) :=
  OblH.of_eq (X := (True ∧ (True ∧ (((∀ nx i, (kdg o) nx i = (kdg o) nx i) ∧ ∀ nx1 : HL TB.den k4k.hs → Prop, ((True ∧ (True ∧ True)) ∧ ((True ∧ (True ∧ True)) ∧ (∀ i, (kbk o nx1) i = (kvt o nx1) i) ∧ (True ∧ (True ∧ (True ∧ True)))))) ∧ (True ∧ True))))) (by kernel_rfl) ⟨trivial, ⟨trivial, ⟨⟨fun _ _ => rfl, fun _ => ⟨⟨trivial, ⟨trivial, trivial⟩⟩, ⟨⟨trivial, ⟨trivial, trivial⟩⟩, fun _ => propext ⟨fun h => h.1, fun h => ⟨h⟩⟩, ⟨trivial, ⟨trivial, ⟨trivial, trivial⟩⟩⟩⟩⟩⟩, ⟨trivial, trivial⟩⟩⟩⟩
set_option maxRecDepth 100000 in
theorem k1cc {x : k10i} {o : k5k} (h : kjy x o) : SoundH Try.prog k2l.f ((k2l.args idf x).map (er TB)) ((k2l.obs idf x).map (erO TB)) (er TB (k2l.val idf o)) ((k2l.ops idf o).map (erO TB)) :=
  Con.soundH (c := k2l) (C := k5i) TBok ⟨inf_ok, (all_cons ky7 all_nil), all_nil⟩ mix Try.func118 (show Try.f118.body = some k8f by kernel_rfl) (show Try.f118.ntmps = 26 by kernel_rfl) (show Try.f118.results.toList = kdw by kernel_rfl) rfl h (k1dc o)
set_option maxRecDepth 100000 in
theorem k1fp {p0 : TField} {p1 : Int} {p2 : Int} {r0 : Int} (h :
(Md.Loop (p1, p2, (1 : Int), p0.P, ()) (kdg (r0, ())))) : kjy (p0.P, p1, p2, ()) (r0, ()) := WPh.of_eq (by kernel_rfl) h
set_option maxRecDepth 100000 in
theorem k15d {r0 : Int} {nx1 : HL TB.den k4k.hs → Prop} {s1 : Int} {s2 : Int} {s7 : Int} {h0_0 : Int} (h :
((decide (0 < (ishr .u64 s2 1)) = true →
((TField.mk h0_0).P = 18446744069414584321 ∧ (0 ≤ s1 ∧ s1 < 18446744069414584321) ∧ (0 ≤ s1 ∧ s1 < 18446744069414584321)) ∧ nx1 (((s1 * s1 % 18446744069414584321) : Int), (ishr .u64 s2 1 : Int), s7, h0_0, ())) ∧
(decide (0 < (ishr .u64 s2 1)) = false →
 nx1 (s1, (ishr .u64 s2 1 : Int), s7, h0_0, ())))) : kbk (r0, ()) nx1 (s1, s2, s7, h0_0, ()) := ⟨mpr_of (by kernel_rfl) h⟩
def kyg (r0 : Int) (nx1 : HL TB.den k4k.hs → Prop) (k1 : Int → Int → Int → Prop) (h0_0 : Int) (s1 : Int) (s2 : Int) (s7 : Int) : Prop :=
(decide (0 < s2) = true →
(((iand .u64 s2 1) == 1) = true →
((TField.mk h0_0).P = 18446744069414584321 ∧ (0 ≤ s7 ∧ s7 < 18446744069414584321) ∧ (0 ≤ s1 ∧ s1 < 18446744069414584321)) ∧ kbk (r0, ()) nx1 (s1, s2, ((s7 * s1 % 18446744069414584321) : Int), h0_0, ())) ∧
(((iand .u64 s2 1) == 1) = false →
 kbk (r0, ()) nx1 (s1, s2, s7, h0_0, ()))) ∧
(decide (0 < s2) = false →
 s7 = r0)
set_option maxRecDepth 100000 in
theorem k1bv {r0 : Int} {h0_0 : Int} {s1 : Int} {s2 : Int} {s7 : Int} (inv : Int → Int → Int → Prop) (μ : Int → Int → Int → Nat) (h0 : inv s1 s2 s7) (hs : ∀ (s1 : Int) (s2 : Int) (s7 : Int), inv s1 s2 s7 → kyg r0 (fun s : Int × Int × Int × Int × Unit => ((s.2.2.2.1 = h0_0) ∧ inv s.1 s.2.1 s.2.2.1) ∧ μ s.1 s.2.1 s.2.2.1 < μ s1 s2 s7) (fun s1q s2q s7q => inv s1q s2q s7q ∧ μ s1q s2q s7q < μ s1 s2 s7) h0_0 s1 s2 s7) : Md.Loop (s1, s2, s7, h0_0, ()) (kdg (r0, ())) :=
  ⟨⟨fun s : Int × Int × Int × Int × Unit => (s.2.2.2.1 = h0_0) ∧ inv s.1 s.2.1 s.2.2.1, fun s : Int × Int × Int × Int × Unit => μ s.1 s.2.1 s.2.2.1, ⟨rfl, h0⟩, fun (s1p, s2p, s7p, h0_0p, ()) ⟨eq0, hi⟩ => by
    have eq0 : h0_0p = h0_0 := eq0; subst h0_0p; exact mpr_of (by kernel_rfl) ((congrArg (fun k => kyg r0 (fun s : Int × Int × Int × Int × Unit => ((s.2.2.2.1 = h0_0) ∧ inv s.1 s.2.1 s.2.2.1) ∧ μ s.1 s.2.1 s.2.2.1 < μ s1p s2p s7p) k h0_0 s1p s2p s7p) (lpk3 (rfl : h0_0 = h0_0) inv (fun s1q s2q s7q => μ s1q s2q s7q < μ s1p s2p s7p))).mpr (hs s1p s2p s7p hi))⟩⟩
theorem bd118 : Callable Try.prog 118 := ⟨by rw [Try.func118]; kernel_rfl, by rw [Try.func118]; show some _ ≠ some _; decide⟩
theorem k18y (p0 : TField) (p1 : Int) (p2 : Int) (h : p0.P = 18446744069414584321 ∧ (0 ≤ p1 ∧ p1 < 18446744069414584321) ∧ U64 p2) : kjy (p0.P, p1, p2, ()) (((pw p1 p2) : Int), ()) := by
  obtain ⟨hP, h1, h2⟩ := h
  refine k1fp ?_
  rw [hP]
  refine k1bv (fun a e r => (0 ≤ a ∧ a < 18446744069414584321) ∧ U64 e ∧ (0 ≤ r ∧ r < 18446744069414584321) ∧ (r * a ^ e.toNat) % 18446744069414584321 = pw p1 p2) (fun a e r => e.toNat) ⟨h1, h2, by omega, by rw [Int.one_mul]; rfl⟩ ?_
  rintro a e r ⟨ha, he, hr, hv⟩
  have jj : ∀ nx r', (0 ≤ r' ∧ r' < 18446744069414584321) → 0 < e → (r' * (a * a) ^ (e / 2).toNat) % 18446744069414584321 = pw p1 p2 → (∀ a', (0 ≤ a' ∧ a' < 18446744069414584321) → r' * a' ^ (e / 2).toNat % 18446744069414584321 = pw p1 p2 → nx (a', (e / 2 : Int), r', (18446744069414584321 : Int), ())) → kbk ((pw p1 p2 : Int), ()) nx (a, e, r', (18446744069414584321 : Int), ()) := by
    intro nx r' hr' he' hv' hn
    refine k15d ?_
    rw [ishr1]
    refine ⟨fun h => ⟨⟨rfl, ha, ha⟩, ?_⟩, fun h => ?_⟩
    · refine hn _ ⟨Int.emod_nonneg _ (by omega), Int.emod_lt_of_pos _ (by omega)⟩ ?_
      rw [← hv', Int.mul_emod, Int.mul_emod r' ((a * a) ^ _), kua]
    · have h : ¬ 0 < e / 2 := of_decide_eq_false h
      refine hn _ ha ?_
      rw [show (e / 2).toNat = 0 by omega] at hv' ⊢
      simpa using hv'
  refine ⟨fun h => ?_, fun h => ?_⟩
  · have h := of_decide_eq_true h
    rw [k1mf e he]
    have nxt : ∀ a' r', (0 ≤ a' ∧ a' < 18446744069414584321) → (0 ≤ r' ∧ r' < 18446744069414584321) → r' * a' ^ (e / 2).toNat % 18446744069414584321 = pw p1 p2 → ((0 ≤ a' ∧ a' < 18446744069414584321) ∧ U64 (e / 2) ∧ (0 ≤ r' ∧ r' < 18446744069414584321) ∧ r' * a' ^ (e / 2).toNat % 18446744069414584321 = pw p1 p2) ∧ (e / 2).toNat < e.toNat := fun a' r' h1 h2 h3 => ⟨⟨h1, ⟨by omega, by omega⟩, h2, h3⟩, by omega⟩
    have hpow : ∀ k : Nat, a ^ (2 * k) = (a * a) ^ k := fun k => by rw [Int.pow_mul]; congr 1; rw [Int.pow_succ, Int.pow_succ, Int.pow_zero, Int.one_mul]
    refine ⟨fun h1 => ⟨⟨rfl, hr, ha⟩, ?_⟩, fun h1 => ?_⟩
    · have h1 : e % 2 = 1 := by simpa using h1
      refine jj _ _ ⟨Int.emod_nonneg _ (by omega), Int.emod_lt_of_pos _ (by omega)⟩ h ?_ fun a' ha' hv' => ⟨⟨rfl, (nxt a' _ ha' ⟨Int.emod_nonneg _ (by omega), Int.emod_lt_of_pos _ (by omega)⟩ hv').1⟩, (nxt a' _ ha' ⟨Int.emod_nonneg _ (by omega), Int.emod_lt_of_pos _ (by omega)⟩ hv').2⟩
      rw [← hv, show e.toNat = 2 * (e / 2).toNat + 1 by omega, Int.pow_succ, hpow, Int.mul_emod, Int.emod_emod_of_dvd _ (Int.dvd_refl _), ← Int.mul_emod]
      congr 1
      grind
    · have h1 : ¬ e % 2 = 1 := by simpa using h1
      refine jj _ _ hr h ?_ fun a' ha' hv' => ⟨⟨rfl, (nxt a' _ ha' hr hv').1⟩, (nxt a' _ ha' hr hv').2⟩
      rw [← hv, ← hpow, show e.toNat = 2 * (e / 2).toNat by omega]
  · have h : ¬ 0 < e := of_decide_eq_false h
    rw [show e.toNat = 0 by omega, Int.pow_zero, Int.mul_one, Int.emod_eq_of_lt hr.1 hr.2] at hv
    exact hv
noncomputable def kvm : Con TB.den := k2l.fnR (fun x => (fun (p0 : TField) (p1 : Int) (p2 : Int) => p0.P = 18446744069414584321 ∧ (0 ≤ p1 ∧ p1 < 18446744069414584321) ∧ U64 p2) (TField.mk x.1) x.2.1 x.2.2.1) fun x => ((fun (p0 : TField) (p1 : Int) (p2 : Int) => ((pw p1 p2) : Int)) (TField.mk x.1) x.2.1 x.2.2.1, ())
theorem k1eh : kvm.Ok Try.prog TB := Con.ok_fn k2l bd118 fun x h => k1cc (k18y (TField.mk x.1) x.2.1 x.2.2.1 h)
end Go.Proofs.Ytnmakgfmimagmaa
namespace Go.Proofs.Ytnmakgfmimagmaa
open Go Go.Bv Go.Cv Go.Md Go.RowKit
def k3d : Con TB.den := Con.mk0 111 [.agg [.d (.int .u64)], .one (.d (.int .u64)), .one (.d (.int .u64))] [] (.one (.one (.d (.int .u64)))) []
abbrev k10e := HL TB.den (hsT k3d.ins (hsOs k3d.pre))
abbrev kkz := HL TB.den (hsV k3d.res (hsOs k3d.post))
noncomputable def kdi : Cx TB := ⟨inf, [k62, k7v, kvm], [], 4, []⟩
noncomputable def kj9 : Code := Try.f111.body.getD .skip
noncomputable def ko3 : List ResultVar := Try.f111.results.toList
noncomputable def kwt (o : kkz) : An TB := .no
noncomputable def kjf (x : k10e) (o : kkz) : Prop := WPh TB kdi 16 0 kj9 (kwt o) (k3d.st TB x) (retTQ TB kdi k3d ko3 o)
set_option maxRecDepth 100000 in
theorem k1db (o : kkz) : OblH TB kdi 16 0 kj9 (kwt o) (retTQ TB kdi k3d ko3 o) :=
  OblH.of_eq (X := (True ∧ ((True ∧ ((True ∧ True) ∧ True)) ∧ (True ∧ True)))) (by kernel_rfl) ⟨trivial, ⟨⟨trivial, ⟨⟨trivial, trivial⟩, trivial⟩⟩, ⟨trivial, trivial⟩⟩⟩
set_option maxRecDepth 100000 in
theorem k1di {x : k10e} {o : kkz} (h : kjf x o) : SoundH Try.prog k3d.f ((k3d.args idf x).map (er TB)) ((k3d.obs idf x).map (erO TB)) (er TB (k3d.val idf o)) ((k3d.ops idf o).map (erO TB)) :=
  Con.soundH (c := k3d) (C := kdi) TBok ⟨inf_ok, (all_cons k8e (all_cons kc7 (all_cons k1eh all_nil))), all_nil⟩ mix Try.func111 (show Try.f111.body = some kj9 by kernel_rfl) (show Try.f111.ntmps = 16 by kernel_rfl) (show Try.f111.results.toList = ko3 by kernel_rfl) rfl h (k1db o)
set_option maxRecDepth 100000 in
theorem k1fe {p0 : TField} {p1 : Int} {p2 : Int} {r0 : Int} (h :
((p0.P = 18446744069414584321) ∧ ((!true) = true →
 0 = r0) ∧
((!true) = false →
(0 < p0.P ∧ 0 ≤ p1) ∧ (p0.P = 18446744069414584321 ∧ (0 ≤ (p1 % p0.P) ∧ (p1 % p0.P) < 18446744069414584321) ∧ U64 p2) ∧ (pw (p1 % p0.P) p2) = r0))) : kjf (p0.P, p1, p2, ()) (r0, ()) := WPh.of_eq (by kernel_rfl) h
theorem bd111 : Callable Try.prog 111 := ⟨by rw [Try.func111]; kernel_rfl, by rw [Try.func111]; show some _ ≠ some _; decide⟩
theorem k187 (p0 : TField) (p1 : Int) (p2 : Int) (h : p0.P = 18446744069414584321 ∧ U64 p1 ∧ U64 p2) : kjf (p0.P, p1, p2, ()) (((pw (p1 % 18446744069414584321) p2) : Int), ()) := by
  obtain ⟨hP, h1, h2⟩ := h
  refine k1fe ⟨hP, fun h => by simp at h, fun _ => ⟨by omega, ?_⟩⟩
  simp only [hP]
  exact ⟨⟨by trivial, by omega, h2⟩, trivial⟩
noncomputable def kum : Con TB.den := k3d.fnR (fun x => (fun (p0 : TField) (p1 : Int) (p2 : Int) => p0.P = 18446744069414584321 ∧ U64 p1 ∧ U64 p2) (TField.mk x.1) x.2.1 x.2.2.1) fun x => ((fun (p0 : TField) (p1 : Int) (p2 : Int) => ((pw (p1 % 18446744069414584321) p2) : Int)) (TField.mk x.1) x.2.1 x.2.2.1, ())
theorem k1ex : kum.Ok Try.prog TB := Con.ok_fn k3d bd111 fun x h => k1di (k187 (TField.mk x.1) x.2.1 x.2.2.1 h)
end Go.Proofs.Ytnmakgfmimagmaa
namespace Go.Proofs.Ytnmakgfmimagmaa
open Go Go.Bv Go.Cv Go.Md Go.RowKit
def k1t : Con TB.den := Con.mk0 119 [.agg [.d (.int .u64)], .one (.d (.int .u64))] [] (.one (.one (.d (.int .u64)))) []
abbrev krl := HL TB.den (hsT k1t.ins (hsOs k1t.pre))
abbrev kf4 := HL TB.den (hsV k1t.res (hsOs k1t.post))
noncomputable def ka3 : Cx TB := ⟨inf, [k62, k7v], [], 4, []⟩
noncomputable def kfp : Code := Try.f119.body.getD .skip
noncomputable def khu : List ResultVar := Try.f119.results.toList
noncomputable def kq6 (o : kf4) : An TB := .no
noncomputable def kfl (x : krl) (o : kf4) : Prop := WPh TB ka3 11 0 kfp (kq6 o) (k1t.st TB x) (retTQ TB ka3 k1t khu o)
set_option maxRecDepth 100000 in
theorem k137 (o : kf4) : OblH TB ka3 11 0 kfp (kq6 o) (retTQ TB ka3 k1t khu o) :=
  OblH.of_eq (X := (True ∧ ((True ∧ ((True ∧ True) ∧ True)) ∧ (True ∧ True)))) (by kernel_rfl) ⟨trivial, ⟨⟨trivial, ⟨⟨trivial, trivial⟩, trivial⟩⟩, ⟨trivial, trivial⟩⟩⟩
set_option maxRecDepth 100000 in
theorem k126 {x : krl} {o : kf4} (h : kfl x o) : SoundH Try.prog k1t.f ((k1t.args idf x).map (er TB)) ((k1t.obs idf x).map (erO TB)) (er TB (k1t.val idf o)) ((k1t.ops idf o).map (erO TB)) :=
  Con.soundH (c := k1t) (C := ka3) TBok ⟨inf_ok, (all_cons k8e (all_cons kc7 all_nil)), all_nil⟩ mix Try.func119 (show Try.f119.body = some kfp by kernel_rfl) (show Try.f119.ntmps = 11 by kernel_rfl) (show Try.f119.results.toList = khu by kernel_rfl) rfl h (k137 o)
set_option maxRecDepth 100000 in
theorem k150 {p0 : TField} {p1 : Int} {r0 : Int} (h :
((p0.P = 18446744069414584321) ∧ ((!true) = true →
 0 = r0) ∧
((!true) = false →
(0 < p0.P ∧ 0 ≤ p1) ∧ (p1 % p0.P) = r0))) : kfl (p0.P, p1, ()) (r0, ()) := WPh.of_eq (by kernel_rfl) h
theorem bd119 : Callable Try.prog 119 := ⟨by rw [Try.func119]; kernel_rfl, by rw [Try.func119]; show some _ ≠ some _; decide⟩
theorem kzy (p0 : TField) (p1 : Int) (h : p0.P = 18446744069414584321 ∧ U64 p1) : kfl (p0.P, p1, ()) (((p1 % 18446744069414584321) : Int), ()) := by
  obtain ⟨hP, h1⟩ := h
  refine k150 ⟨hP, fun h => by simp at h, fun _ => ⟨by omega, ?_⟩⟩
  simp only [hP]
noncomputable def ko6 : Con TB.den := k1t.fnR (fun x => (fun (p0 : TField) (p1 : Int) => p0.P = 18446744069414584321 ∧ U64 p1) (TField.mk x.1) x.2.1) fun x => ((fun (p0 : TField) (p1 : Int) => ((p1 % 18446744069414584321) : Int)) (TField.mk x.1) x.2.1, ())
theorem k15q : ko6.Ok Try.prog TB := Con.ok_fn k1t bd119 fun x h => k126 (kzy (TField.mk x.1) x.2.1 h)
end Go.Proofs.Ytnmakgfmimagmaa
namespace Go.Proofs.Ytnmakgfmimagmaa
open Go Go.Bv Go.Cv Go.Md Go.RowKit
def ke : Con TB.den := Con.mk0 112 [.one (.d (.int .u64)), .one (.d (.int .i64)), .one (.d (.int .i64))] [] (.one (.one (.d (.int .u64)))) []
abbrev kgb := HL TB.den (hsT ke.ins (hsOs ke.pre))
abbrev k6z := HL TB.den (hsV ke.res (hsOs ke.post))
noncomputable def k5b : Cx TB := ⟨inf, [ko6], [], 4, []⟩
noncomputable def k81 : Code := Try.f112.body.getD .skip
noncomputable def k9c : List ResultVar := Try.f112.results.toList
noncomputable def kfi (o : k6z) : An TB := .no
noncomputable def k84 (x : kgb) (o : k6z) : Prop := WPh TB k5b 31 0 k81 (kfi o) (ke.st TB x) (retTQ TB k5b ke k9c o)
set_option maxRecDepth 100000 in
theorem koq (o : k6z) : OblH TB k5b 31 0 k81 (kfi o) (retTQ TB k5b ke k9c o) :=
  OblH.of_eq (X := (True ∧ ((True ∧ ((True ∧ True) ∧ True)) ∧ (True ∧ True)))) (by kernel_rfl) ⟨trivial, ⟨⟨trivial, ⟨⟨trivial, trivial⟩, trivial⟩⟩, ⟨trivial, trivial⟩⟩⟩
set_option maxRecDepth 100000 in
theorem kom {x : kgb} {o : k6z} (h : k84 x o) : SoundH Try.prog ke.f ((ke.args idf x).map (er TB)) ((ke.obs idf x).map (erO TB)) (er TB (ke.val idf o)) ((ke.ops idf o).map (erO TB)) :=
  Con.soundH (c := ke) (C := k5b) TBok ⟨inf_ok, (all_cons k15q all_nil), all_nil⟩ mix Try.func112 (show Try.f112.body = some k81 by kernel_rfl) (show Try.f112.ntmps = 31 by kernel_rfl) (show Try.f112.results.toList = k9c by kernel_rfl) rfl h (koq o)
set_option maxRecDepth 100000 in
theorem kov {p0 : Int} {p1 : Int} {p2 : Int} {r0 : Int} (h :
((decide (p1 < 0) = true →
 0 = r0) ∧
(decide (p1 < 0) = false →
(decide (8 ≤ p1) = true →
 0 = r0) ∧
(decide (8 ≤ p1) = false →
(decide (p2 < 0) = true →
 0 = r0) ∧
(decide (p2 < 0) = false →
(decide (2 < p2) = true →
 0 = r0) ∧
(decide (2 < p2) = false →
 let v1 : Int := IntKind.i64.wrap ((IntKind.i64.wrap (3 * p1)) + p2)
 let v2 : Int := IntKind.u64.wrap (IntKind.i64.wrap (v1 + 1))
 let v3 : Int := IntKind.u64.wrap (v2 * 11400714819323198485)
((TField.mk p0).P = 18446744069414584321 ∧ U64 v3) ∧ (v3 % 18446744069414584321) = r0)))))) : k84 (p0, p1, p2, ()) (r0, ()) := WPh.of_eq (by kernel_rfl) h
theorem bd112 : Callable Try.prog 112 := ⟨by rw [Try.func112]; kernel_rfl, by rw [Try.func112]; show some _ ≠ some _; decide⟩
theorem kmn (p0 : Int) (p1 : Int) (p2 : Int) (h : p0 = 18446744069414584321 ∧ (0 ≤ p1 ∧ p1 < 8) ∧ 0 ≤ p2 ∧ p2 < 3) : k84 (p0, p1, p2, ()) (((rc p1 p2) : Int), ()) := by
  obtain ⟨hP, h1, h2⟩ := h
  refine kov ⟨fun h => ?_, fun _ => ⟨fun h => ?_, fun _ => ⟨fun h => ?_, fun _ => ⟨fun h => ?_, fun _ => ?_⟩⟩⟩⟩
  · simp at h; omega
  · simp at h; omega
  · simp at h; omega
  · simp at h; omega
  · simp only []
    rw [wi (3 * p1) (by omega) (by omega), wi (3 * p1 + p2) (by omega) (by omega), wi (3 * p1 + p2 + 1) (by omega) (by omega), wu (3 * p1 + p2 + 1) (by omega) (by omega), u64w]
    exact ⟨⟨hP, by omega, by omega⟩, rfl⟩
noncomputable def keu : Con TB.den := ke.fnR (fun x => (fun (p0 : Int) (p1 : Int) (p2 : Int) => p0 = 18446744069414584321 ∧ (0 ≤ p1 ∧ p1 < 8) ∧ 0 ≤ p2 ∧ p2 < 3) x.1 x.2.1 x.2.2.1) fun x => ((fun (p0 : Int) (p1 : Int) (p2 : Int) => ((rc p1 p2) : Int)) x.1 x.2.1 x.2.2.1, ())
theorem kow : keu.Ok Try.prog TB := Con.ok_fn ke bd112 fun x h => kom (kmn x.1 x.2.1 x.2.2.1 h)
end Go.Proofs.Ytnmakgfmimagmaa
namespace Go.Proofs.Ytnmakgfmimagmaa
open Go Go.Bv Go.Cv Go.Md Go.RowKit
def k13 : Con TB.den := Con.mk0 113 [.one (.d (.int .u64)), .agg [.d (.int .u64), .d (.int .u64), .d (.int .u64)]] [] (.one (.agg [.d (.int .u64), .d (.int .u64), .d (.int .u64)])) []
abbrev kmb := HL TB.den (hsT k13.ins (hsOs k13.pre))
abbrev kai := HL TB.den (hsV k13.res (hsOs k13.post))
noncomputable def k7b : Cx TB := ⟨inf, [kgw], [], 4, []⟩
noncomputable def kby : Code := Try.f113.body.getD .skip
noncomputable def kdv : List ResultVar := Try.f113.results.toList
noncomputable def kld (o : kai) : An TB := .no
noncomputable def kbv (x : kmb) (o : kai) : Prop := WPh TB k7b 35 0 kby (kld o) (k13.st TB x) (retTQ TB k7b k13 kdv o)
set_option maxRecDepth 100000 in
theorem kwj (o : kai) : OblH TB k7b 35 0 kby (kld o) (retTQ TB k7b k13 kdv o) :=
  OblH.of_eq (X := (True ∧ (True ∧ (True ∧ (True ∧ True))))) (by kernel_rfl) ⟨trivial, ⟨trivial, ⟨trivial, ⟨trivial, trivial⟩⟩⟩⟩
set_option maxRecDepth 100000 in
theorem kwf {x : kmb} {o : kai} (h : kbv x o) : SoundH Try.prog k13.f ((k13.args idf x).map (er TB)) ((k13.obs idf x).map (erO TB)) (er TB (k13.val idf o)) ((k13.ops idf o).map (erO TB)) :=
  Con.soundH (c := k13) (C := k7b) TBok ⟨inf_ok, (all_cons knn all_nil), all_nil⟩ mix Try.func113 (show Try.f113.body = some kby by kernel_rfl) (show Try.f113.ntmps = 35 by kernel_rfl) (show Try.f113.results.toList = kdv by kernel_rfl) rfl h (kwj o)
set_option maxRecDepth 100000 in
theorem ky3 {p0 : Int} {p1 : TA3} {r0 : TA3} (h :
(((TField.mk p0).P = 18446744069414584321 ∧ U64 p1.a0 ∧ U64 p1.a1) ∧ ((TField.mk p0).P = 18446744069414584321 ∧ U64 ((p1.a0 + p1.a1) % 18446744069414584321) ∧ U64 p1.a2) ∧ let r1 : Int := ((((p1.a0 + p1.a1) % 18446744069414584321) + p1.a2) % 18446744069414584321)
((TField.mk p0).P = 18446744069414584321 ∧ U64 p1.a0 ∧ U64 r1) ∧ ((TField.mk p0).P = 18446744069414584321 ∧ U64 p1.a1 ∧ U64 r1) ∧ ((TField.mk p0).P = 18446744069414584321 ∧ U64 p1.a2 ∧ U64 r1) ∧ ((p1.a0 + r1) % 18446744069414584321) = r0.a0 ∧ ((p1.a1 + r1) % 18446744069414584321) = r0.a1 ∧ ((p1.a2 + r1) % 18446744069414584321) = r0.a2)) : kbv (p0, p1.a0, p1.a1, p1.a2, ()) (r0.a0, r0.a1, r0.a2, ()) := WPh.of_eq (by kernel_rfl) h
theorem bd113 : Callable Try.prog 113 := ⟨by rw [Try.func113]; kernel_rfl, by rw [Try.func113]; show some _ ≠ some _; decide⟩
theorem ku2 (p0 : Int) (p1 : TA3) (h : p0 = 18446744069414584321 ∧ S3 p1) : kbv (p0, p1.a0, p1.a1, p1.a2, ()) (((mixS p1).a0 : Int), ((mixS p1).a1 : Int), ((mixS p1).a2 : Int), ()) := by
  obtain ⟨hP, h0, h1, h2⟩ := h
  refine ky3 ?_
  simp only [hP]
  exact ⟨⟨by trivial, h0, h1⟩, ⟨by trivial, by omega, h2⟩, ⟨by trivial, h0, by omega⟩, ⟨by trivial, h1, by omega⟩, ⟨by trivial, h2, by omega⟩, rfl, rfl, rfl⟩
noncomputable def kix : Con TB.den := k13.fnR (fun x => (fun (p0 : Int) (p1 : TA3) => p0 = 18446744069414584321 ∧ S3 p1) x.1 (TA3.mk x.2.1 x.2.2.1 x.2.2.2.1)) fun x => ((fun (p0 : Int) (p1 : TA3) => ((mixS p1).a0 : Int)) x.1 (TA3.mk x.2.1 x.2.2.1 x.2.2.2.1), (fun (p0 : Int) (p1 : TA3) => ((mixS p1).a1 : Int)) x.1 (TA3.mk x.2.1 x.2.2.1 x.2.2.2.1), (fun (p0 : Int) (p1 : TA3) => ((mixS p1).a2 : Int)) x.1 (TA3.mk x.2.1 x.2.2.1 x.2.2.2.1), ())
theorem ky0 : kix.Ok Try.prog TB := Con.ok_fn k13 bd113 fun x h => kwf (ku2 x.1 (TA3.mk x.2.1 x.2.2.1 x.2.2.2.1) h)
end Go.Proofs.Ytnmakgfmimagmaa
namespace Go.Proofs.Ytnmakgfmimagmaa
open Go Go.Bv Go.Cv Go.Md Go.RowKit
def kc : Con TB.den := Con.mk0 100 [.one (.d (.int .u64)), .agg [.d (.int .u64), .d (.int .u64), .d (.int .u64)]] [] (.one (.agg [.d (.int .u64), .d (.int .u64), .d (.int .u64)])) []
abbrev khn := HL TB.den (hsT kc.ins (hsOs kc.pre))
abbrev kh := HL TB.den (hsV kc.res (hsOs kc.post))
noncomputable def k14 : Cx TB := ⟨inf, [k62, kla, keu, kgw, kum, kix], [], 4, []⟩
noncomputable def k2q : Code := Try.f100.body.getD .skip
noncomputable def k5l : List ResultVar := Try.f100.results.toList
noncomputable def kqr (o : kh) : Exit → TSt TB.den → Prop := thenT TB (fun s => ghs TB [] s fun s => WP TB k14 43 0 (cB (cB (cB (cB (cB k2q))))) .no s (retTQ TB k14 kc k5l o)) (retTQ TB k14 kc k5l o)
def kb : Tm := ⟨[0, 1, 2], [.cells [.d (.int .u64), .d (.int .u64), .d (.int .u64)], .cells [.d (.int .u64), .d (.int .u64), .d (.int .u64)], .cells [.d (.int .u64)]], [0, 3, 4, 5, 6, 17], [.one (.d (.int .u64)), .one (.ptr 0 0), .one (.ptr 1 0), .one (.ptr 2 0), .one (.d (.int .u64)), .one (.d (.int .i64))], 3⟩
noncomputable def ka9 (o : kh) (nx2 : HL TB.den kb.hs → Prop) : Exit → TSt TB.den → Prop := thenT TB (fun s => kb.mat TB 0 s nx2) (blockT TB 0 (kqr o))
noncomputable def kgh (o : kh) (nx2 : HL TB.den kb.hs → Prop) : Exit → TSt TB.den → Prop := thenT TB (fun s => ghs TB [] s fun s => WP TB k14 43 0 (cB (cB (cB (cA (cA (cB (cA (cB (cB (cB (cB k2q))))))))))) .no s (ka9 o nx2)) (ka9 o nx2)
noncomputable def krc (o : kh) (nx2 : HL TB.den kb.hs → Prop) : Exit → TSt TB.den → Prop := thenT TB (fun s => ghs TB [] s fun s => WP TB k14 43 0 (cB (cB (cA (cA (cB (cB (cA (cA (cB (cA (cB (cB (cB (cB k2q)))))))))))))) .no s (blockT TB 1 (kgh o nx2))) (blockT TB 1 (kgh o nx2))
def k3z : Tm := ⟨[0, 1, 2], [.cells [.d (.int .u64), .d (.int .u64), .d (.int .u64)], .cells [.d (.int .u64), .d (.int .u64), .d (.int .u64)], .cells [.d (.int .u64)]], [0, 3, 4, 5, 6, 7, 17, 20], [.one (.d (.int .u64)), .one (.ptr 0 0), .one (.ptr 1 0), .one (.ptr 2 0), .one (.d (.int .u64)), .one (.d (.int .i64)), .one (.d (.int .i64)), .one (.d (.int .i64))], 3⟩
noncomputable def kqz (o : kh) (nx2 : HL TB.den kb.hs → Prop) (nx1 : HL TB.den k3z.hs → Prop) : Exit → TSt TB.den → Prop := thenT TB (fun s => k3z.mat TB 0 s nx1) (blockT TB 2 (krc o nx2))
noncomputable def k5j (o : kh) (nx2 : HL TB.den kb.hs → Prop) (nx1 : HL TB.den k3z.hs → Prop) (i : HL TB.den k3z.hs) : Prop := WP TB k14 43 0 (cA (cA (cB (cA (cB (cA (cA (cB (cB (cA (cA (cB (cA (cB (cB (cB (cB k2q))))))))))))))))) .no (k3z.fill TB i) (kqz o nx2 nx1)
noncomputable def kqo (o : kh) (nx2 : HL TB.den kb.hs → Prop) : An TB := .lp [] k3z (k5j o nx2) fun nx1 => .no
noncomputable def kr6 (o : kh) (nx2 : HL TB.den kb.hs → Prop) : An TB := .nd [] .no [] (.nd [] (.nd [] .no [] (kqo o nx2)) [] .no)
noncomputable def kfh (o : kh) (nx2 : HL TB.den kb.hs → Prop) : An TB := .nd [] .no [] (.nd [] .no [] (.nd [] (kr6 o nx2) [] .no))
noncomputable def k5o (o : kh) (nx2 : HL TB.den kb.hs → Prop) (i : HL TB.den kb.hs) : Prop := WP TB k14 43 0 (cA (cA (cB (cA (cB (cB (cB (cB k2q)))))))) (kfh o nx2) (kb.fill TB i) (ka9 o nx2)
noncomputable def kp3 (o : kh) : An TB := .lp [] kb (k5o o) fun nx2 => (kfh o nx2)
noncomputable def koz (o : kh) : An TB := .nd [] .no [] (.nd [] (.nd [] .no [] (kp3 o)) [] .no)
noncomputable def kgc (o : kh) : An TB := .nd [] .no [] (.nd [] .no [] (.nd [] .no [] (koz o)))
noncomputable def k93 (x : khn) (o : kh) : Prop := WPh TB k14 43 0 k2q (kgc o) (kc.st TB x) (retTQ TB k14 kc k5l o)
set_option maxRecDepth 100000 in
theorem kp0 (o : kh) : OblH TB k14 43 0 k2q (kgc o) (retTQ TB k14 kc k5l o) :=
  OblH.of_eq (X := (True ∧ (True ∧ ((True ∧ ((True ∧ True) ∧ True)) ∧ (True ∧ ((True ∧ ((∀ nx i, (k5o o) nx i = (k5o o) nx i) ∧ ∀ nx2 : HL TB.den kb.hs → Prop, (True ∧ ((True ∧ True) ∧ ((True ∧ ((True ∧ ((∀ nx i, (k5j o nx2) nx i = (k5j o nx2) nx i) ∧ ∀ nx1 : HL TB.den k3z.hs → Prop, (True ∧ ((True ∧ True) ∧ ((True ∧ True) ∧ True))))) ∧ True)) ∧ True))))) ∧ (True ∧ True))))))) (by kernel_rfl) ⟨trivial, ⟨trivial, ⟨⟨trivial, ⟨⟨trivial, trivial⟩, trivial⟩⟩, ⟨trivial, ⟨⟨trivial, ⟨fun _ _ => rfl, fun _ => ⟨trivial, ⟨⟨trivial, trivial⟩, ⟨⟨trivial, ⟨⟨trivial, ⟨fun _ _ => rfl, fun _ => ⟨trivial, ⟨⟨trivial, trivial⟩, ⟨⟨trivial, trivial⟩, trivial⟩⟩⟩⟩⟩, trivial⟩⟩, trivial⟩⟩⟩⟩⟩, ⟨trivial, trivial⟩⟩⟩⟩⟩⟩
set_option maxRecDepth 100000 in
theorem kp1 {x : khn} {o : kh} (h : k93 x o) : SoundH Try.prog kc.f ((kc.args idf x).map (er TB)) ((kc.obs idf x).map (erO TB)) (er TB (kc.val idf o)) ((kc.ops idf o).map (erO TB)) :=
  Con.soundH (c := kc) (C := k14) TBok ⟨inf_ok, (all_cons k8e (all_cons kzj (all_cons kow (all_cons knn (all_cons k1ex (all_cons ky0 all_nil)))))), all_nil⟩ mix Try.func100 (show Try.f100.body = some k2q by kernel_rfl) (show Try.f100.ntmps = 43 by kernel_rfl) (show Try.f100.results.toList = k5l by kernel_rfl) rfl h (kp0 o)
set_option maxRecDepth 100000 in
theorem kqu {p0 : Int} {p1 : TA3} {r0 : TA3} (h :
(((TField.mk p0).P = 18446744069414584321) ∧ ((!true) = true →
 0 = r0.a0 ∧ 0 = r0.a1 ∧ 0 = r0.a2) ∧
((!true) = false →
((TField.mk p0).P = 18446744069414584321) ∧ Md.Loop (p0, (7 : Int), (0 : Int), p1.a0, p1.a1, p1.a2, (0 : Int), (0 : Int), (0 : Int), p0, ()) (k5o (r0.a0, r0.a1, r0.a2, ()))))) : k93 (p0, p1.a0, p1.a1, p1.a2, ()) (r0.a0, r0.a1, r0.a2, ()) := WPh.of_eq (by kernel_rfl) h
def kg5 (r0 : TA3) (nx2 : HL TB.den kb.hs → Prop) (k2 : Int → Int → Int → Int → Prop) (s0 : Int) (s6 : Int) (h1_0 : Int) (h1_1 : Int) (h1_2 : Int) (h2_0 : Int) (s17 : Int) (h0_0 : Int) (h0_1 : Int) (h0_2 : Int) : Prop :=
(decide (s17 < 8) = true →
 Md.Loop (s0, s6, s17, s17, (0 : Int), h0_0, h0_1, h0_2, h1_0, h1_1, h1_2, h2_0, ()) (k5j (r0.a0, r0.a1, r0.a2, ()) nx2)) ∧
(decide (s17 < 8) = false →
 h0_0 = r0.a0 ∧ h0_1 = r0.a1 ∧ h0_2 = r0.a2)
set_option maxRecDepth 100000 in
theorem kp2 {r0 : TA3} {s0 : Int} {s6 : Int} {h1_0 : Int} {h1_1 : Int} {h1_2 : Int} {h2_0 : Int} {s17 : Int} {h0_0 : Int} {h0_1 : Int} {h0_2 : Int} (inv : Int → Int → Int → Int → Prop) (μ : Int → Int → Int → Int → Nat) (h0 : inv s17 h0_0 h0_1 h0_2) (hs : ∀ (s17 : Int) (h0_0 : Int) (h0_1 : Int) (h0_2 : Int), inv s17 h0_0 h0_1 h0_2 → kg5 r0 (fun s : Int × Int × Int × Int × Int × Int × Int × Int × Int × Int × Unit => ((s.1 = s0 ∧ s.2.1 = s6 ∧ s.2.2.2.2.2.2.1 = h1_0 ∧ s.2.2.2.2.2.2.2.1 = h1_1 ∧ s.2.2.2.2.2.2.2.2.1 = h1_2 ∧ s.2.2.2.2.2.2.2.2.2.1 = h2_0) ∧ inv s.2.2.1 s.2.2.2.1 s.2.2.2.2.1 s.2.2.2.2.2.1) ∧ μ s.2.2.1 s.2.2.2.1 s.2.2.2.2.1 s.2.2.2.2.2.1 < μ s17 h0_0 h0_1 h0_2) (fun s17q h0_0q h0_1q h0_2q => inv s17q h0_0q h0_1q h0_2q ∧ μ s17q h0_0q h0_1q h0_2q < μ s17 h0_0 h0_1 h0_2) s0 s6 h1_0 h1_1 h1_2 h2_0 s17 h0_0 h0_1 h0_2) : Md.Loop (s0, s6, s17, h0_0, h0_1, h0_2, h1_0, h1_1, h1_2, h2_0, ()) (k5o (r0.a0, r0.a1, r0.a2, ())) :=
  ⟨⟨fun s : Int × Int × Int × Int × Int × Int × Int × Int × Int × Int × Unit => (s.1 = s0 ∧ s.2.1 = s6 ∧ s.2.2.2.2.2.2.1 = h1_0 ∧ s.2.2.2.2.2.2.2.1 = h1_1 ∧ s.2.2.2.2.2.2.2.2.1 = h1_2 ∧ s.2.2.2.2.2.2.2.2.2.1 = h2_0) ∧ inv s.2.2.1 s.2.2.2.1 s.2.2.2.2.1 s.2.2.2.2.2.1, fun s : Int × Int × Int × Int × Int × Int × Int × Int × Int × Int × Unit => μ s.2.2.1 s.2.2.2.1 s.2.2.2.2.1 s.2.2.2.2.2.1, ⟨⟨rfl, rfl, rfl, rfl, rfl, rfl⟩, h0⟩, fun (s0p, s6p, s17p, h0_0p, h0_1p, h0_2p, h1_0p, h1_1p, h1_2p, h2_0p, ()) ⟨⟨eq0, eq1, eq2, eq3, eq4, eq5⟩, hi⟩ => by
    have eq0 : s0p = s0 := eq0; subst s0p; have eq1 : s6p = s6 := eq1; subst s6p; have eq2 : h1_0p = h1_0 := eq2; subst h1_0p; have eq3 : h1_1p = h1_1 := eq3; subst h1_1p; have eq4 : h1_2p = h1_2 := eq4; subst h1_2p; have eq5 : h2_0p = h2_0 := eq5; subst h2_0p; exact mpr_of (by kernel_rfl) ((congrArg (fun k => kg5 r0 (fun s : Int × Int × Int × Int × Int × Int × Int × Int × Int × Int × Unit => ((s.1 = s0 ∧ s.2.1 = s6 ∧ s.2.2.2.2.2.2.1 = h1_0 ∧ s.2.2.2.2.2.2.2.1 = h1_1 ∧ s.2.2.2.2.2.2.2.2.1 = h1_2 ∧ s.2.2.2.2.2.2.2.2.2.1 = h2_0) ∧ inv s.2.2.1 s.2.2.2.1 s.2.2.2.2.1 s.2.2.2.2.2.1) ∧ μ s.2.2.1 s.2.2.2.1 s.2.2.2.2.1 s.2.2.2.2.2.1 < μ s17p h0_0p h0_1p h0_2p) k s0 s6 h1_0 h1_1 h1_2 h2_0 s17p h0_0p h0_1p h0_2p) (lpk4 (⟨rfl, rfl, rfl, rfl, rfl, rfl⟩ : s0 = s0 ∧ s6 = s6 ∧ h1_0 = h1_0 ∧ h1_1 = h1_1 ∧ h1_2 = h1_2 ∧ h2_0 = h2_0) inv (fun s17q h0_0q h0_1q h0_2q => μ s17q h0_0q h0_1q h0_2q < μ s17p h0_0p h0_1p h0_2p))).mpr (hs s17p h0_0p h0_1p h0_2p hi))⟩⟩
def kg9 (r0 : TA3) (nx2 : HL TB.den kb.hs → Prop) (k1 : Int → Int → Int → Int → Prop) (s0 : Int) (s6 : Int) (s7 : Int) (s17 : Int) (h1_0 : Int) (h1_1 : Int) (h1_2 : Int) (h2_0 : Int) (s20 : Int) (h0_0 : Int) (h0_1 : Int) (h0_2 : Int) : Prop :=
(decide (s20 < 3) = true →
(0 ≤ s20 ∧ s20 < (3 : Int)) ∧ (0 ≤ s20 ∧ s20 < (3 : Int)) ∧ (s0 = 18446744069414584321 ∧ (0 ≤ s7 ∧ s7 < 8) ∧ 0 ≤ s20 ∧ s20 < 3) ∧ ((TField.mk h2_0).P = 18446744069414584321 ∧ U64 (ix [h0_0, h0_1, h0_2] s20) ∧ U64 (rc s7 s20)) ∧ let r1 : Int := (((ix [h0_0, h0_1, h0_2] s20) + (rc s7 s20)) % 18446744069414584321)
((TField.mk h2_0).P = 18446744069414584321 ∧ U64 r1 ∧ U64 s6) ∧ (0 ≤ s20 ∧ s20 < (3 : Int)) ∧ (0 ≤ s20 ∧ s20 < (3 : Int)) ∧ k1 (IntKind.i64.wrap (s20 + 1) : Int) ((bif decide (s20 = (0 : Int)) then (pw (r1 % 18446744069414584321) s6) else h0_0) : Int) ((bif decide (s20 = (1 : Int)) then (pw (r1 % 18446744069414584321) s6) else h0_1) : Int) ((bif decide (s20 = (2 : Int)) then (pw (r1 % 18446744069414584321) s6) else h0_2) : Int)) ∧
(decide (s20 < 3) = false →
(s0 = 18446744069414584321 ∧ S3 (TA3.mk h0_0 h0_1 h0_2)) ∧ nx2 (s0, s6, (IntKind.i64.wrap (s17 + 1) : Int), ((mixS (TA3.mk h0_0 h0_1 h0_2)).a0 : Int), ((mixS (TA3.mk h0_0 h0_1 h0_2)).a1 : Int), ((mixS (TA3.mk h0_0 h0_1 h0_2)).a2 : Int), h1_0, h1_1, h1_2, h2_0, ()))
set_option maxRecDepth 100000 in
theorem koy {r0 : TA3} {nx2 : HL TB.den kb.hs → Prop} {s0 : Int} {s6 : Int} {s7 : Int} {s17 : Int} {h1_0 : Int} {h1_1 : Int} {h1_2 : Int} {h2_0 : Int} {s20 : Int} {h0_0 : Int} {h0_1 : Int} {h0_2 : Int} (inv : Int → Int → Int → Int → Prop) (μ : Int → Int → Int → Int → Nat) (h0 : inv s20 h0_0 h0_1 h0_2) (hs : ∀ (s20 : Int) (h0_0 : Int) (h0_1 : Int) (h0_2 : Int), inv s20 h0_0 h0_1 h0_2 → kg9 r0 nx2 (fun s20q h0_0q h0_1q h0_2q => inv s20q h0_0q h0_1q h0_2q ∧ μ s20q h0_0q h0_1q h0_2q < μ s20 h0_0 h0_1 h0_2) s0 s6 s7 s17 h1_0 h1_1 h1_2 h2_0 s20 h0_0 h0_1 h0_2) : Md.Loop (s0, s6, s7, s17, s20, h0_0, h0_1, h0_2, h1_0, h1_1, h1_2, h2_0, ()) (k5j (r0.a0, r0.a1, r0.a2, ()) nx2) :=
  ⟨⟨fun s : Int × Int × Int × Int × Int × Int × Int × Int × Int × Int × Int × Int × Unit => (s.1 = s0 ∧ s.2.1 = s6 ∧ s.2.2.1 = s7 ∧ s.2.2.2.1 = s17 ∧ s.2.2.2.2.2.2.2.2.1 = h1_0 ∧ s.2.2.2.2.2.2.2.2.2.1 = h1_1 ∧ s.2.2.2.2.2.2.2.2.2.2.1 = h1_2 ∧ s.2.2.2.2.2.2.2.2.2.2.2.1 = h2_0) ∧ inv s.2.2.2.2.1 s.2.2.2.2.2.1 s.2.2.2.2.2.2.1 s.2.2.2.2.2.2.2.1, fun s : Int × Int × Int × Int × Int × Int × Int × Int × Int × Int × Int × Int × Unit => μ s.2.2.2.2.1 s.2.2.2.2.2.1 s.2.2.2.2.2.2.1 s.2.2.2.2.2.2.2.1, ⟨⟨rfl, rfl, rfl, rfl, rfl, rfl, rfl, rfl⟩, h0⟩, fun (s0p, s6p, s7p, s17p, s20p, h0_0p, h0_1p, h0_2p, h1_0p, h1_1p, h1_2p, h2_0p, ()) ⟨⟨eq0, eq1, eq2, eq3, eq4, eq5, eq6, eq7⟩, hi⟩ => by
    have eq0 : s0p = s0 := eq0; subst s0p; have eq1 : s6p = s6 := eq1; subst s6p; have eq2 : s7p = s7 := eq2; subst s7p; have eq3 : s17p = s17 := eq3; subst s17p; have eq4 : h1_0p = h1_0 := eq4; subst h1_0p; have eq5 : h1_1p = h1_1 := eq5; subst h1_1p; have eq6 : h1_2p = h1_2 := eq6; subst h1_2p; have eq7 : h2_0p = h2_0 := eq7; subst h2_0p; exact mpr_of (by kernel_rfl) ((congrArg (fun k => kg9 r0 nx2 k s0 s6 s7 s17 h1_0 h1_1 h1_2 h2_0 s20p h0_0p h0_1p h0_2p) (lpk4 (⟨rfl, rfl, rfl, rfl, rfl, rfl, rfl, rfl⟩ : s0 = s0 ∧ s6 = s6 ∧ s7 = s7 ∧ s17 = s17 ∧ h1_0 = h1_0 ∧ h1_1 = h1_1 ∧ h1_2 = h1_2 ∧ h2_0 = h2_0) inv (fun s20q h0_0q h0_1q h0_2q => μ s20q h0_0q h0_1q h0_2q < μ s20p h0_0p h0_1p h0_2p))).mpr (hs s20p h0_0p h0_1p h0_2p hi))⟩⟩
theorem bd100 : Callable Try.prog 100 := ⟨by rw [Try.func100]; kernel_rfl, by rw [Try.func100]; show some _ ≠ some _; decide⟩
theorem ko5 (p0 : Int) (p1 : TA3) (h : p0 = 18446744069414584321 ∧ S3 p1) : k93 (p0, p1.a0, p1.a1, p1.a2, ()) (((permS p1).a0 : Int), ((permS p1).a1 : Int), ((permS p1).a2 : Int), ()) := by
  obtain ⟨hP, hs⟩ := h
  subst hP
  refine kqu ⟨rfl, fun h => by simp at h, fun _ => ⟨rfl, ?_⟩⟩
  refine kp2 (r0 := permS p1) (fun n a b c => 0 ≤ n ∧ n ≤ 8 ∧ (⟨a, b, c⟩ : TA3) = rnds n.toNat p1 ∧ S3 ⟨a, b, c⟩) (fun n _ _ _ => (8 - n).toNat) ⟨by omega, by omega, rfl, hs⟩ ?_
  rintro n a b c ⟨g0, g1, g2, g3⟩
  refine ⟨fun h => ?_, fun h => ?_⟩
  · have h := of_decide_eq_true h
    refine koy (r0 := permS p1) (fun i x y z => (i = 0 ∧ x = a ∧ y = b ∧ z = c) ∨ (i = 1 ∧ x = pw ((a + rc n 0) % 18446744069414584321) 7 ∧ y = b ∧ z = c) ∨ (i = 2 ∧ x = pw ((a + rc n 0) % 18446744069414584321) 7 ∧ y = pw ((b + rc n 1) % 18446744069414584321) 7 ∧ z = c) ∨ (i = 3 ∧ x = pw ((a + rc n 0) % 18446744069414584321) 7 ∧ y = pw ((b + rc n 1) % 18446744069414584321) 7 ∧ z = pw ((c + rc n 2) % 18446744069414584321) 7)) (fun i _ _ _ => (3 - i).toNat) (.inl ⟨rfl, rfl, rfl, rfl⟩) ?_
    intro i x y z hi
    have hrc : ∀ k, U64 (rc n k) := fun k => by unfold rc; omega
    have hpw : ∀ k e, 0 ≤ pw k e ∧ pw k e < 18446744069414584321 := fun k e => ⟨Int.emod_nonneg _ (by omega), Int.emod_lt_of_pos _ (by omega)⟩
    obtain ⟨h3a, h3b, h3c⟩ := g3
    refine ⟨fun hh => ?_, fun hh => ?_⟩
    · have hh := of_decide_eq_true hh
      rcases hi with ⟨rfl, rfl, rfl, rfl⟩ | ⟨rfl, rfl, rfl, rfl⟩ | ⟨rfl, rfl, rfl, rfl⟩ | ⟨rfl, _⟩
      · refine ⟨by omega, by omega, ⟨rfl, by omega, by omega⟩, ⟨rfl, h3a, hrc _⟩, ⟨rfl, ?_, by omega⟩, by omega, by omega, .inr (.inl ⟨rfl, ?_, rfl, rfl⟩), by decide⟩
        · exact ⟨Int.emod_nonneg _ (by omega), Int.lt_trans (Int.emod_lt_of_pos _ (by omega)) (by omega)⟩
        · show pw ((x + rc n 0) % 18446744069414584321 % 18446744069414584321) 7 = _
          rw [Int.emod_emod_of_dvd _ (Int.dvd_refl _)]
      · refine ⟨by omega, by omega, ⟨rfl, by omega, by omega⟩, ⟨rfl, h3b, hrc _⟩, ⟨rfl, ?_, by omega⟩, by omega, by omega, .inr (.inr (.inl ⟨rfl, rfl, ?_, rfl⟩)), by decide⟩
        · exact ⟨Int.emod_nonneg _ (by omega), Int.lt_trans (Int.emod_lt_of_pos _ (by omega)) (by omega)⟩
        · show pw ((y + rc n 1) % 18446744069414584321 % 18446744069414584321) 7 = _
          rw [Int.emod_emod_of_dvd _ (Int.dvd_refl _)]
      · refine ⟨by omega, by omega, ⟨rfl, by omega, by omega⟩, ⟨rfl, h3c, hrc _⟩, ⟨rfl, ?_, by omega⟩, by omega, by omega, .inr (.inr (.inr ⟨rfl, rfl, rfl, ?_⟩)), by decide⟩
        · exact ⟨Int.emod_nonneg _ (by omega), Int.lt_trans (Int.emod_lt_of_pos _ (by omega)) (by omega)⟩
        · show pw ((z + rc n 2) % 18446744069414584321 % 18446744069414584321) 7 = _
          rw [Int.emod_emod_of_dvd _ (Int.dvd_refl _)]
      · omega
    · have hh := of_decide_eq_false hh
      rcases hi with ⟨rfl, _⟩ | ⟨rfl, _⟩ | ⟨rfl, _⟩ | ⟨rfl, rfl, rfl, rfl⟩
      · omega
      · omega
      · omega
      · have e : rnds (n + 1).toNat p1 = rnd ⟨a, b, c⟩ n := by
          rw [show (n + 1).toNat = n.toNat + 1 by omega]
          show rnd (rnds n.toNat p1) (n.toNat : Int) = _
          rw [← g2, show (n.toNat : Int) = n by omega]
        have hS : S3 (rnds (n + 1).toNat p1) := by
          rw [e]
          unfold rnd mixS S3
          dsimp only
          omega
        have hinc : IntKind.i64.wrap (n + 1) = n + 1 := wi _ (by omega) (by omega)
        rw [hinc]
        refine ⟨⟨rfl, by unfold S3; have := hpw ((a + rc n 0) % 18446744069414584321) 7; have := hpw ((b + rc n 1) % 18446744069414584321) 7; have := hpw ((c + rc n 2) % 18446744069414584321) 7; dsimp only; omega⟩, ⟨⟨rfl, rfl, rfl, rfl, rfl, rfl⟩, (?_ : 0 ≤ n + 1 ∧ n + 1 ≤ 8 ∧ _ ∧ _)⟩, (?_ : (8 - (n + 1)).toNat < (8 - n).toNat)⟩
        · refine ⟨by omega, by omega, e.symm, ?_⟩
          rw [e] at hS
          exact hS
        · omega
  · have h := of_decide_eq_false h
    rw [show n = 8 by omega] at g2
    have g2 : (⟨a, b, c⟩ : TA3) = permS p1 := g2
    rw [← g2]
    exact ⟨rfl, rfl, rfl⟩
noncomputable def kff : Con TB.den := kc.fnR (fun x => (fun (p0 : Int) (p1 : TA3) => p0 = 18446744069414584321 ∧ S3 p1) x.1 (TA3.mk x.2.1 x.2.2.1 x.2.2.2.1)) fun x => ((fun (p0 : Int) (p1 : TA3) => ((permS p1).a0 : Int)) x.1 (TA3.mk x.2.1 x.2.2.1 x.2.2.2.1), (fun (p0 : Int) (p1 : TA3) => ((permS p1).a1 : Int)) x.1 (TA3.mk x.2.1 x.2.2.1 x.2.2.2.1), (fun (p0 : Int) (p1 : TA3) => ((permS p1).a2 : Int)) x.1 (TA3.mk x.2.1 x.2.2.1 x.2.2.2.1), ())
theorem kr5 : kff.Ok Try.prog TB := Con.ok_fn kc bd100 fun x h => kp1 (ko5 x.1 (TA3.mk x.2.1 x.2.2.1 x.2.2.2.1) h)
end Go.Proofs.Ytnmakgfmimagmaa
namespace Go.Proofs.Ytnmakgfmimagmaa
open Go Go.Bv Go.Cv Go.Md Go.RowKit
def kw : Con TB.den := Con.mk0 93 [.one (.d (.int .u64)), .one (.d (.int .u64)), .one (.d (.sl (.int .u64)))] [] (.one (.agg [.d (.int .u64), .d (.int .u64), .d (.int .u64)])) []
abbrev kqc := HL TB.den (hsT kw.ins (hsOs kw.pre))
abbrev k2r := HL TB.den (hsV kw.res (hsOs kw.post))
noncomputable def k3h : Cx TB := ⟨inf, [kur, kgw, kff], [], 4, []⟩
noncomputable def k50 : Code := Try.f93.body.getD .skip
noncomputable def k8o : List ResultVar := Try.f93.results.toList
noncomputable def k143 (o : k2r) : Exit → TSt TB.den → Prop := thenT TB (fun s => ghs TB [] s fun s => WP TB k3h 61 0 (cB (cB (cB (cB (cB k50))))) .no s (retTQ TB k3h kw k8o o)) (retTQ TB k3h kw k8o o)
def k2c : Tm := ⟨[0, 1, 38], [.cells [.d (.int .u64), .d (.int .u64), .d (.int .u64)], .cells [.d (.int .u64)], .cells [.d (.int .u64), .d (.int .u64), .d (.int .u64)]], [0, 2, 6, 7, 8, 9], [.one (.d (.int .u64)), .one (.d (.sl (.int .u64))), .one (.ptr 0 0), .one (.ptr 1 0), .one (.ptr 2 0), .one (.d (.int .i64))], 46⟩
noncomputable def kh0 (o : k2r) (nx1 : HL TB.den k2c.hs → Prop) : Exit → TSt TB.den → Prop := thenT TB (fun s => k2c.mat TB 0 s nx1) (blockT TB 0 (k143 o))
noncomputable def k13m (o : k2r) (nx1 : HL TB.den k2c.hs → Prop) : Exit → TSt TB.den → Prop := thenT TB (fun s => ghs TB [] s fun s => WP TB k3h 61 0 (cB (cB (cA (cA (cB (cA (cB (cB (cB (cB k50)))))))))) .no s (kh0 o nx1)) (kh0 o nx1)
def kaj : Tm := ⟨[0, 1, 38], [.cells [.d (.int .u64), .d (.int .u64), .d (.int .u64)], .cells [.d (.int .u64)], .cells [.d (.int .u64), .d (.int .u64), .d (.int .u64)]], [0, 2, 6, 7, 8, 9], [.one (.d (.int .u64)), .one (.d (.sl (.int .u64))), .one (.ptr 0 0), .one (.ptr 1 0), .one (.ptr 2 0), .one (.d (.int .i64))], 86⟩
noncomputable def kmf (o : k2r) (nx1 : HL TB.den k2c.hs → Prop) (i : HL TB.den kaj.hs) : Prop := ghs TB [] (kaj.fill TB i) fun s => WP TB k3h 61 0 (cB (cB (cA (cA (cB (cA (cA (cB (cA (cB (cB (cB (cB k50))))))))))))) .no s (blockT TB 1 (k13m o nx1))
structure k6r (o : k2r) (nx1 : HL TB.den k2c.hs → Prop) (i : HL TB.den kaj.hs) : Prop where
  h : kmf o nx1 i
noncomputable def kn0 (o : k2r) (nx1 : HL TB.den k2c.hs → Prop) : An TB := .nd [] .no [] (.jn kaj (k6r o nx1) [] .no [] .no)
noncomputable def k8w (o : k2r) (nx1 : HL TB.den k2c.hs → Prop) (i : HL TB.den k2c.hs) : Prop := WP TB k3h 61 0 (cA (cA (cB (cA (cB (cB (cB (cB k50)))))))) (.nd [] .no [] (.nd [] (kn0 o nx1) [] .no)) (k2c.fill TB i) (kh0 o nx1)
noncomputable def k12r (o : k2r) : An TB := .lp [] k2c (k8w o) fun nx1 => (.nd [] .no [] (.nd [] (kn0 o nx1) [] .no))
noncomputable def k141 (o : k2r) : An TB := .nd [] .no [] (.nd [] (.nd [] .no [] (k12r o)) [] .no)
noncomputable def kns (o : k2r) : An TB := .nd [] .no [] (.nd [] .no [] (.nd [] .no [] (k141 o)))
noncomputable def kef (x : kqc) (o : k2r) : Prop := WPh TB k3h 61 0 k50 (kns o) (kw.st TB x) (retTQ TB k3h kw k8o o)
set_option maxRecDepth 100000 in
theorem kzf (o : k2r) : OblH TB k3h 61 0 k50 (kns o) (retTQ TB k3h kw k8o o) :=
  OblH.of_eq (X := (True ∧ (True ∧ (True ∧ ((True ∧ ((True ∧ True) ∧ True)) ∧ ((True ∧ ((∀ nx i, (k8w o) nx i = (k8w o) nx i) ∧ ∀ nx1 : HL TB.den k2c.hs → Prop, ((True ∧ (True ∧ True)) ∧ ((True ∧ ((True ∧ (True ∧ True)) ∧ (∀ i, (k6r o nx1) i = (kmf o nx1) i) ∧ True)) ∧ True)))) ∧ (True ∧ True))))))) (by kernel_rfl) ⟨trivial, ⟨trivial, ⟨trivial, ⟨⟨trivial, ⟨⟨trivial, trivial⟩, trivial⟩⟩, ⟨⟨trivial, ⟨fun _ _ => rfl, fun _ => ⟨⟨trivial, ⟨trivial, trivial⟩⟩, ⟨⟨trivial, ⟨⟨trivial, ⟨trivial, trivial⟩⟩, fun _ => propext ⟨fun h => h.1, fun h => ⟨h⟩⟩, trivial⟩⟩, trivial⟩⟩⟩⟩, ⟨trivial, trivial⟩⟩⟩⟩⟩⟩
set_option maxRecDepth 100000 in
theorem kzp {x : kqc} {o : k2r} (h : kef x o) : SoundH Try.prog kw.f ((kw.args idf x).map (er TB)) ((kw.obs idf x).map (erO TB)) (er TB (kw.val idf o)) ((kw.ops idf o).map (erO TB)) :=
  Con.soundH (c := kw) (C := k3h) TBok ⟨inf_ok, (all_cons k1ey (all_cons knn (all_cons kr5 all_nil))), all_nil⟩ mix Try.func93 (show Try.f93.body = some k50 by kernel_rfl) (show Try.f93.ntmps = 61 by kernel_rfl) (show Try.f93.results.toList = k8o by kernel_rfl) rfl h (kzf o)
set_option maxRecDepth 100000 in
theorem k138 {p0 : Int} {p1 : Int} {p2 : List Int} {r0 : TA3} (h :
(((TField.mk p0).P = 18446744069414584321 ∧ U64 p1 ∧ U64 (65536 : Int)) ∧ let r1 : Int := (p1 * (65536 : Int) % 18446744069414584321)
((TField.mk p0).P = 18446744069414584321 ∧ U64 r1 ∧ U64 (IntKind.u64.wrap (p2.length : Int))) ∧ let r2 : Int := ((r1 + (IntKind.u64.wrap (p2.length : Int))) % 18446744069414584321)
(((p2.length : Int) == 0) = true →
(p0 = 18446744069414584321 ∧ S3 (TA3.mk 0 0 r2)) ∧ (permS (TA3.mk 0 0 r2)).a0 = r0.a0 ∧ (permS (TA3.mk 0 0 r2)).a1 = r0.a1 ∧ (permS (TA3.mk 0 0 r2)).a2 = r0.a2) ∧
(((p2.length : Int) == 0) = false →
 Md.Loop (p0, p2, (0 : Int), (0 : Int), (0 : Int), (0 : Int), p0, (0 : Int), (0 : Int), r2, ()) (k8w (r0.a0, r0.a1, r0.a2, ()))))) : kef (p0, p1, p2, ()) (r0.a0, r0.a1, r0.a2, ()) := WPh.of_eq (by kernel_rfl) h
set_option maxRecDepth 100000 in
theorem kwc {r0 : TA3} {nx1 : HL TB.den k2c.hs → Prop} {s0 : Int} {s2 : List Int} {s9 : Int} {h0_0 : Int} {h0_1 : Int} {h0_2 : Int} {h1_0 : Int} {h38_0 : Int} {h38_1 : Int} {h38_2 : Int} (h :
((s0 = 18446744069414584321 ∧ S3 (TA3.mk h38_0 h38_1 h38_2)) ∧ nx1 (s0, s2, (IntKind.i64.wrap (s9 + 2) : Int), h0_0, h0_1, h0_2, h1_0, ((permS (TA3.mk h38_0 h38_1 h38_2)).a0 : Int), ((permS (TA3.mk h38_0 h38_1 h38_2)).a1 : Int), ((permS (TA3.mk h38_0 h38_1 h38_2)).a2 : Int), ()))) : k6r (r0.a0, r0.a1, r0.a2, ()) nx1 (s0, s2, s9, h0_0, h0_1, h0_2, h1_0, h38_0, h38_1, h38_2, ()) := ⟨mpr_of (by kernel_rfl) h⟩
def koi (r0 : TA3) (nx1 : HL TB.den k2c.hs → Prop) (k1 : Int → Int → Int → Int → Prop) (s0 : Int) (s2 : List Int) (h0_0 : Int) (h0_1 : Int) (h0_2 : Int) (h1_0 : Int) (s9 : Int) (h38_0 : Int) (h38_1 : Int) (h38_2 : Int) : Prop :=
(decide (s9 < (s2.length : Int)) = true →
(0 ≤ s9) ∧ s9 < (s2.length : Int) ∧ ((TField.mk h1_0).P = 18446744069414584321 ∧ U64 h38_0 ∧ U64 (ix s2 s9)) ∧ let r3 : Int := ((h38_0 + (ix s2 s9)) % 18446744069414584321)
 let v4 : Bool := decide ((IntKind.i64.wrap (s9 + 1)) < (s2.length : Int))
(v4 = true →
(0 ≤ IntKind.i64.wrap (s9 + 1)) ∧ IntKind.i64.wrap (s9 + 1) < (s2.length : Int) ∧ ((TField.mk h1_0).P = 18446744069414584321 ∧ U64 h38_1 ∧ U64 (ix s2 (IntKind.i64.wrap (s9 + 1)))) ∧ let r5 : Int := ((h38_1 + (ix s2 (IntKind.i64.wrap (s9 + 1)))) % 18446744069414584321)
 k6r (r0.a0, r0.a1, r0.a2, ()) nx1 (s0, s2, s9, h0_0, h0_1, h0_2, h1_0, r3, r5, h38_2, ())) ∧
(v4 = false →
 k6r (r0.a0, r0.a1, r0.a2, ()) nx1 (s0, s2, s9, h0_0, h0_1, h0_2, h1_0, r3, h38_1, h38_2, ()))) ∧
(decide (s9 < (s2.length : Int)) = false →
 h38_0 = r0.a0 ∧ h38_1 = r0.a1 ∧ h38_2 = r0.a2)
set_option maxRecDepth 100000 in
theorem kz9 {r0 : TA3} {s0 : Int} {s2 : List Int} {h0_0 : Int} {h0_1 : Int} {h0_2 : Int} {h1_0 : Int} {s9 : Int} {h38_0 : Int} {h38_1 : Int} {h38_2 : Int} (inv : Int → Int → Int → Int → Prop) (μ : Int → Int → Int → Int → Nat) (h0 : inv s9 h38_0 h38_1 h38_2) (hs : ∀ (s9 : Int) (h38_0 : Int) (h38_1 : Int) (h38_2 : Int), inv s9 h38_0 h38_1 h38_2 → koi r0 (fun s : Int × (List Int) × Int × Int × Int × Int × Int × Int × Int × Int × Unit => ((s.1 = s0 ∧ s.2.1 = s2 ∧ s.2.2.2.1 = h0_0 ∧ s.2.2.2.2.1 = h0_1 ∧ s.2.2.2.2.2.1 = h0_2 ∧ s.2.2.2.2.2.2.1 = h1_0) ∧ inv s.2.2.1 s.2.2.2.2.2.2.2.1 s.2.2.2.2.2.2.2.2.1 s.2.2.2.2.2.2.2.2.2.1) ∧ μ s.2.2.1 s.2.2.2.2.2.2.2.1 s.2.2.2.2.2.2.2.2.1 s.2.2.2.2.2.2.2.2.2.1 < μ s9 h38_0 h38_1 h38_2) (fun s9q h38_0q h38_1q h38_2q => inv s9q h38_0q h38_1q h38_2q ∧ μ s9q h38_0q h38_1q h38_2q < μ s9 h38_0 h38_1 h38_2) s0 s2 h0_0 h0_1 h0_2 h1_0 s9 h38_0 h38_1 h38_2) : Md.Loop (s0, s2, s9, h0_0, h0_1, h0_2, h1_0, h38_0, h38_1, h38_2, ()) (k8w (r0.a0, r0.a1, r0.a2, ())) :=
  ⟨⟨fun s : Int × (List Int) × Int × Int × Int × Int × Int × Int × Int × Int × Unit => (s.1 = s0 ∧ s.2.1 = s2 ∧ s.2.2.2.1 = h0_0 ∧ s.2.2.2.2.1 = h0_1 ∧ s.2.2.2.2.2.1 = h0_2 ∧ s.2.2.2.2.2.2.1 = h1_0) ∧ inv s.2.2.1 s.2.2.2.2.2.2.2.1 s.2.2.2.2.2.2.2.2.1 s.2.2.2.2.2.2.2.2.2.1, fun s : Int × (List Int) × Int × Int × Int × Int × Int × Int × Int × Int × Unit => μ s.2.2.1 s.2.2.2.2.2.2.2.1 s.2.2.2.2.2.2.2.2.1 s.2.2.2.2.2.2.2.2.2.1, ⟨⟨rfl, rfl, rfl, rfl, rfl, rfl⟩, h0⟩, fun (s0p, s2p, s9p, h0_0p, h0_1p, h0_2p, h1_0p, h38_0p, h38_1p, h38_2p, ()) ⟨⟨eq0, eq1, eq2, eq3, eq4, eq5⟩, hi⟩ => by
    have eq0 : s0p = s0 := eq0; subst s0p; have eq1 : s2p = s2 := eq1; subst s2p; have eq2 : h0_0p = h0_0 := eq2; subst h0_0p; have eq3 : h0_1p = h0_1 := eq3; subst h0_1p; have eq4 : h0_2p = h0_2 := eq4; subst h0_2p; have eq5 : h1_0p = h1_0 := eq5; subst h1_0p; exact mpr_of (by kernel_rfl) ((congrArg (fun k => koi r0 (fun s : Int × (List Int) × Int × Int × Int × Int × Int × Int × Int × Int × Unit => ((s.1 = s0 ∧ s.2.1 = s2 ∧ s.2.2.2.1 = h0_0 ∧ s.2.2.2.2.1 = h0_1 ∧ s.2.2.2.2.2.1 = h0_2 ∧ s.2.2.2.2.2.2.1 = h1_0) ∧ inv s.2.2.1 s.2.2.2.2.2.2.2.1 s.2.2.2.2.2.2.2.2.1 s.2.2.2.2.2.2.2.2.2.1) ∧ μ s.2.2.1 s.2.2.2.2.2.2.2.1 s.2.2.2.2.2.2.2.2.1 s.2.2.2.2.2.2.2.2.2.1 < μ s9p h38_0p h38_1p h38_2p) k s0 s2 h0_0 h0_1 h0_2 h1_0 s9p h38_0p h38_1p h38_2p) (lpk4 (⟨rfl, rfl, rfl, rfl, rfl, rfl⟩ : s0 = s0 ∧ s2 = s2 ∧ h0_0 = h0_0 ∧ h0_1 = h0_1 ∧ h0_2 = h0_2 ∧ h1_0 = h1_0) inv (fun s9q h38_0q h38_1q h38_2q => μ s9q h38_0q h38_1q h38_2q < μ s9p h38_0p h38_1p h38_2p))).mpr (hs s9p h38_0p h38_1p h38_2p hi))⟩⟩
theorem bd93 : Callable Try.prog 93 := ⟨by rw [Try.func93]; kernel_rfl, by rw [Try.func93]; show some _ ≠ some _; decide⟩
theorem kx4 (p0 : Int) (p1 : Int) (p2 : List Int) (h : p0 = 18446744069414584321 ∧ U64 p1 ∧ Us p2 ∧ p2.length ≤ 1099511627776) : kef (p0, p1, p2, ()) (((absS p1 p2).a0 : Int), ((absS p1 p2).a1 : Int), ((absS p1 p2).a2 : Int), ()) := by
  obtain ⟨hP, h1, h2, h3⟩ := h
  subst hP
  have hp : ∀ s : TA3, S3 (permS s) := fun s => by
    show S3 (rnd _ _)
    unfold rnd mixS S3
    dsimp only
    omega
  have hi : S3 (absI p1 p2) := by unfold absI S3; dsimp only; omega
  have e : IntKind.u64.wrap (p2.length : Int) = p2.length := wu _ (by omega) (by omega)
  have em : (p1 * 65536 % 18446744069414584321 + (p2.length : Int)) % 18446744069414584321 = (absI p1 p2).a2 := rfl
  refine k138 ?_
  rw [e]
  refine ⟨⟨rfl, h1, by omega⟩, ⟨rfl, by omega, by omega⟩, fun h => ?_, fun h => ?_⟩
  · have h : p2 = [] := by simpa using h
    refine ⟨⟨rfl, ?_⟩, ?_⟩
    · exact hi
    · have : permS ⟨0, 0, (p1 * 65536 % 18446744069414584321 + (p2.length : Int)) % 18446744069414584321⟩ = absS p1 p2 := by unfold absS; rw [if_pos h]; rfl
      rw [this]
      exact ⟨rfl, rfl, rfl⟩
  · have h : p2 ≠ [] := by simpa using h
    have hv : absL p2 (absI p1 p2) = absS p1 p2 := by unfold absS; rw [if_neg h]
    rw [em]
    refine kz9 (r0 := absS p1 p2) (fun i a b c => 0 ≤ i ∧ i ≤ p2.length + 1 ∧ absL (p2.drop i.toNat) ⟨a, b, c⟩ = absS p1 p2 ∧ S3 ⟨a, b, c⟩) (fun i _ _ _ => (p2.length + 2 - i).toNat) ⟨by omega, by omega, hv, hi⟩ ?_
    rintro i a b c ⟨g0, g1, g2, g3⟩
    obtain ⟨h3a, h3b, h3c⟩ := g3
    refine ⟨fun hh => ?_, fun hh => ?_⟩
    · have hh := of_decide_eq_true hh
      have hx := h2 _ (ix_mem p2 i g0 hh)
      rw [wi (i + 1) (by omega) (by omega)]
      have fin : ∀ nx x y z, S3 ⟨x, y, z⟩ → absL (p2.drop (i + 2).toNat) (permS ⟨x, y, z⟩) = absS p1 p2 → (0 ≤ i + 2 ∧ i + 2 ≤ p2.length + 1 ∧ absL (p2.drop (i + 2).toNat) (permS ⟨x, y, z⟩) = absS p1 p2 ∧ S3 (permS ⟨x, y, z⟩) → (p2.length + 2 - (i + 2)).toNat < (p2.length + 2 - i).toNat → nx ((18446744069414584321 : Int), p2, (i + 2 : Int), (0 : Int), (0 : Int), (0 : Int), (18446744069414584321 : Int), (permS ⟨x, y, z⟩).a0, (permS ⟨x, y, z⟩).a1, (permS ⟨x, y, z⟩).a2, ())) → k6r ((absS p1 p2).a0, (absS p1 p2).a1, (absS p1 p2).a2, ()) nx ((18446744069414584321 : Int), p2, i, (0 : Int), (0 : Int), (0 : Int), (18446744069414584321 : Int), x, y, z, ()) := by
        intro nx x y z hS hv' hn
        refine kwc (r0 := absS p1 p2) ?_
        rw [wi (i + 2) (by omega) (by omega)]
        exact ⟨⟨rfl, hS⟩, hn ⟨by omega, by omega, hv', hp _⟩ (by omega)⟩
      have hdrop := drop_ix p2 i g0 hh
      rw [hdrop] at g2
      refine ⟨g0, hh, ⟨rfl, h3a, hx⟩, fun h5 => ?_, fun h5 => ?_⟩
      · have h5 := of_decide_eq_true h5
        have hy := h2 _ (ix_mem p2 (i + 1) (by omega) h5)
        rw [drop_ix p2 (i + 1) (by omega) h5, show i + 1 + 1 = i + 2 by omega] at g2
        refine ⟨by omega, h5, ⟨rfl, h3b, hy⟩, fin _ _ _ _ (S3m (by omega) (by omega) h3c) g2 fun k1 k2 => ⟨⟨⟨rfl, rfl, rfl, rfl, rfl, rfl⟩, k1⟩, k2⟩⟩
      · have h5 := of_decide_eq_false h5
        have ed : p2.drop (i + 1).toNat = [] := List.drop_eq_nil_of_le (by omega)
        have ed2 : p2.drop (i + 2).toNat = [] := List.drop_eq_nil_of_le (by omega)
        rw [ed] at g2
        exact fin _ _ _ _ (S3m (by omega) h3b h3c) (by rw [ed2]; exact g2) fun k1 k2 => ⟨⟨⟨rfl, rfl, rfl, rfl, rfl, rfl⟩, k1⟩, k2⟩
    · have hh := of_decide_eq_false hh
      rw [List.drop_eq_nil_of_le (by omega)] at g2
      have g2 : (⟨a, b, c⟩ : TA3) = absS p1 p2 := g2
      rw [← g2]
      exact ⟨rfl, rfl, rfl⟩
noncomputable def kmi : Con TB.den := kw.fnR (fun x => (fun (p0 : Int) (p1 : Int) (p2 : List Int) => p0 = 18446744069414584321 ∧ U64 p1 ∧ Us p2 ∧ p2.length ≤ 1099511627776) x.1 x.2.1 x.2.2.1) fun x => ((fun (p0 : Int) (p1 : Int) (p2 : List Int) => ((absS p1 p2).a0 : Int)) x.1 x.2.1 x.2.2.1, (fun (p0 : Int) (p1 : Int) (p2 : List Int) => ((absS p1 p2).a1 : Int)) x.1 x.2.1 x.2.2.1, (fun (p0 : Int) (p1 : Int) (p2 : List Int) => ((absS p1 p2).a2 : Int)) x.1 x.2.1 x.2.2.1, ())
theorem k12b : kmi.Ok Try.prog TB := Con.ok_fn kw bd93 fun x h => kzp (kx4 x.1 x.2.1 x.2.2.1 h)
end Go.Proofs.Ytnmakgfmimagmaa
namespace Go.Proofs.Ytnmakgfmimagmaa
open Go Go.Bv Go.Cv Go.Md Go.RowKit
def k29 : Con TB.den := Con.mk0 86 [.one (.d (.int .u64)), .one (.d (.int .u64)), .one (.d (.sl (.int .u64)))] [] (.one (.one (.d (.int .u64)))) []
abbrev kuu := HL TB.den (hsT k29.ins (hsOs k29.pre))
abbrev kgq := HL TB.den (hsV k29.res (hsOs k29.post))
noncomputable def kat : Cx TB := ⟨inf, [k62, kmi], [], 4, []⟩
noncomputable def khg : Code := Try.f86.body.getD .skip
noncomputable def kk4 : List ResultVar := Try.f86.results.toList
noncomputable def ks3 (o : kgq) : An TB := .no
noncomputable def kh4 (x : kuu) (o : kgq) : Prop := WPh TB kat 16 0 khg (ks3 o) (k29.st TB x) (retTQ TB kat k29 kk4 o)
set_option maxRecDepth 100000 in
theorem k16i (o : kgq) : OblH TB kat 16 0 khg (ks3 o) (retTQ TB kat k29 kk4 o) :=
  OblH.of_eq (X := (True ∧ ((True ∧ ((True ∧ True) ∧ True)) ∧ (True ∧ True)))) (by kernel_rfl) ⟨trivial, ⟨⟨trivial, ⟨⟨trivial, trivial⟩, trivial⟩⟩, ⟨trivial, trivial⟩⟩⟩
set_option maxRecDepth 100000 in
theorem k17j {x : kuu} {o : kgq} (h : kh4 x o) : SoundH Try.prog k29.f ((k29.args idf x).map (er TB)) ((k29.obs idf x).map (erO TB)) (er TB (k29.val idf o)) ((k29.ops idf o).map (erO TB)) :=
  Con.soundH (c := k29) (C := kat) TBok ⟨inf_ok, (all_cons k8e (all_cons k12b all_nil)), all_nil⟩ mix Try.func86 (show Try.f86.body = some khg by kernel_rfl) (show Try.f86.ntmps = 16 by kernel_rfl) (show Try.f86.results.toList = kk4 by kernel_rfl) rfl h (k16i o)
set_option maxRecDepth 100000 in
theorem k197 {p0 : Int} {p1 : Int} {p2 : List Int} {r0 : Int} (h :
(((TField.mk p0).P = 18446744069414584321) ∧ ((!true) = true →
 0 = r0) ∧
((!true) = false →
(p0 = 18446744069414584321 ∧ U64 p1 ∧ Us p2 ∧ p2.length ≤ 1099511627776) ∧ (absS p1 p2).a0 = r0))) : kh4 (p0, p1, p2, ()) (r0, ()) := WPh.of_eq (by kernel_rfl) h
theorem bd86 : Callable Try.prog 86 := ⟨by rw [Try.func86]; kernel_rfl, by rw [Try.func86]; show some _ ≠ some _; decide⟩
theorem k13w (p0 : Int) (p1 : Int) (p2 : List Int) (h : p0 = 18446744069414584321 ∧ U64 p1 ∧ Us p2 ∧ p2.length ≤ 1099511627776) : kh4 (p0, p1, p2, ()) (((hashS p1 p2) : Int), ()) := by
  obtain ⟨hP, h1, h2, h3⟩ := h
  subst hP
  exact k197 ⟨rfl, fun h => by simp at h, fun _ => ⟨⟨rfl, h1, h2, h3⟩, rfl⟩⟩
noncomputable def kqi : Con TB.den := k29.fnR (fun x => (fun (p0 : Int) (p1 : Int) (p2 : List Int) => p0 = 18446744069414584321 ∧ U64 p1 ∧ Us p2 ∧ p2.length ≤ 1099511627776) x.1 x.2.1 x.2.2.1) fun x => ((fun (p0 : Int) (p1 : Int) (p2 : List Int) => ((hashS p1 p2) : Int)) x.1 x.2.1 x.2.2.1, ())
theorem k17o : kqi.Ok Try.prog TB := Con.ok_fn k29 bd86 fun x h => k17j (k13w x.1 x.2.1 x.2.2.1 h)
end Go.Proofs.Ytnmakgfmimagmaa
namespace Go.Proofs.Ytnmakgfmimagmaa
open Go Go.Bv Go.Cv Go.Md Go.RowKit
def k1o : Con TB.den := Con.mk0 87 [.one (.d (.sl (.int .u8)))] [] (.one (.one (.d (.sl (.int .u64))))) []
abbrev kv5 := HL TB.den (hsT k1o.ins (hsOs k1o.pre))
abbrev k2s := HL TB.den (hsV k1o.res (hsOs k1o.post))
noncomputable def k3n : Cx TB := ⟨inf, [], [], 4, []⟩
noncomputable def k52 : Code := Try.f87.body.getD .skip
noncomputable def kaq : List ResultVar := Try.f87.results.toList
noncomputable def k17y (o : k2s) : Exit → TSt TB.den → Prop := thenT TB (fun s => ghs TB [] s fun s => WP TB k3n 55 0 (cB (cB (cB (cB k52)))) .no s (retTQ TB k3n k1o kaq o)) (retTQ TB k3n k1o kaq o)
def k21 : Tm := ⟨[1], [.tip (.int .u64)], [0, 3, 4], [.one (.d (.sl (.int .u8))), .one (.own 0), .one (.d (.int .i64))], 2⟩
noncomputable def kk7 (o : k2s) (nx2 : HL TB.den k21.hs → Prop) : Exit → TSt TB.den → Prop := thenT TB (fun s => k21.mat TB 0 s nx2) (blockT TB 0 (k17y o))
noncomputable def ks4 (o : k2s) (nx2 : HL TB.den k21.hs → Prop) : Exit → TSt TB.den → Prop := thenT TB (fun s => ghs TB [] s fun s => WP TB k3n 55 0 (cB (cB (cA (cA (cB (cA (cB (cB (cB k52))))))))) .no s (kk7 o nx2)) (kk7 o nx2)
noncomputable def k19q (o : k2s) (nx2 : HL TB.den k21.hs → Prop) : Exit → TSt TB.den → Prop := thenT TB (fun s => ghs TB [] s fun s => WP TB k3n 55 0 (cB (cB (cB (cA (cA (cB (cA (cA (cB (cA (cB (cB (cB k52))))))))))))) .no s (blockT TB 1 (ks4 o nx2))) (blockT TB 1 (ks4 o nx2))
def k6q : Tm := ⟨[1], [.tip (.int .u64)], [0, 3, 4, 6, 35, 36, 37], [.one (.d (.sl (.int .u8))), .one (.own 0), .one (.d (.int .i64)), .one (.d (.int .u64)), .one (.d (.sl (.int .u8))), .one (.d (.int .i64)), .one (.d (.int .i64))], 2⟩
noncomputable def k17u (o : k2s) (nx2 : HL TB.den k21.hs → Prop) (nx1 : HL TB.den k6q.hs → Prop) : Exit → TSt TB.den → Prop := thenT TB (fun s => k6q.mat TB 0 s nx1) (blockT TB 2 (k19q o nx2))
noncomputable def kbm (o : k2s) (nx2 : HL TB.den k21.hs → Prop) (nx1 : HL TB.den k6q.hs → Prop) (i : HL TB.den k6q.hs) : Prop := WP TB k3n 55 0 (cA (cA (cB (cA (cB (cB (cA (cA (cB (cA (cA (cB (cA (cB (cB (cB k52)))))))))))))))) .no (k6q.fill TB i) (k17u o nx2 nx1)
noncomputable def k194 (o : k2s) (nx2 : HL TB.den k21.hs → Prop) : An TB := .nd [] .no [] (.lp [] k6q (kbm o nx2) fun nx1 => .no)
noncomputable def ksc (o : k2s) (nx2 : HL TB.den k21.hs → Prop) : An TB := .nd [] .no [] (.nd [] .no [] (.nd [] (k194 o nx2) [] .no))
noncomputable def kbl (o : k2s) (nx2 : HL TB.den k21.hs → Prop) (i : HL TB.den k21.hs) : Prop := WP TB k3n 55 0 (cA (cA (cB (cA (cB (cB (cB k52))))))) (.nd [] .no [] (.nd [] (ksc o nx2) [] .no)) (k21.fill TB i) (kk7 o nx2)
noncomputable def k14g (o : k2s) : An TB := .lp [.frz 0 [3]] k21 (kbl o) fun nx2 => (.nd [] .no [] (.nd [] (ksc o nx2) [] .no))
noncomputable def k176 (o : k2s) : An TB := .nd [] .no [] (.nd [] (.nd [] .no [] (k14g o)) [] .no)
noncomputable def ksg (o : k2s) : An TB := .nd [] .no [] (.nd [] .no [] (k176 o))
noncomputable def khd (x : kv5) (o : k2s) : Prop := WPh TB k3n 55 0 k52 (ksg o) (k1o.st TB x) (retTQ TB k3n k1o kaq o)
set_option maxRecDepth 100000 in
theorem k15l (o : k2s) : OblH TB k3n 55 0 k52 (ksg o) (retTQ TB k3n k1o kaq o) :=
  OblH.of_eq (X := (True ∧ (True ∧ (True ∧ ((True ∧ ((∀ nx i, (kbl o) nx i = (kbl o) nx i) ∧ ∀ nx2 : HL TB.den k21.hs → Prop, ((True ∧ (True ∧ True)) ∧ ((True ∧ (True ∧ ((True ∧ ((∀ nx i, (kbm o nx2) nx i = (kbm o nx2) nx i) ∧ ∀ nx1 : HL TB.den k6q.hs → Prop, (True ∧ ((True ∧ True) ∧ ((True ∧ True) ∧ True))))) ∧ True))) ∧ True)))) ∧ (True ∧ True)))))) (by kernel_rfl) ⟨trivial, ⟨trivial, ⟨trivial, ⟨⟨trivial, ⟨fun _ _ => rfl, fun _ => ⟨⟨trivial, ⟨trivial, trivial⟩⟩, ⟨⟨trivial, ⟨trivial, ⟨⟨trivial, ⟨fun _ _ => rfl, fun _ => ⟨trivial, ⟨⟨trivial, trivial⟩, ⟨⟨trivial, trivial⟩, trivial⟩⟩⟩⟩⟩, trivial⟩⟩⟩, trivial⟩⟩⟩⟩, ⟨trivial, trivial⟩⟩⟩⟩⟩
set_option maxRecDepth 100000 in
theorem k153 {x : kv5} {o : k2s} (h : khd x o) : SoundH Try.prog k1o.f ((k1o.args idf x).map (er TB)) ((k1o.obs idf x).map (erO TB)) (er TB (k1o.val idf o)) ((k1o.ops idf o).map (erO TB)) :=
  Con.soundH (c := k1o) (C := k3n) TBok ⟨inf_ok, all_nil, all_nil⟩ mix Try.func87 (show Try.f87.body = some k52 by kernel_rfl) (show Try.f87.ntmps = 55 by kernel_rfl) (show Try.f87.results.toList = kaq by kernel_rfl) rfl h (k15l o)
set_option maxRecDepth 100000 in
theorem k19m {p0 : List Int} {r0 : List Int} (h :
(let v1 : Int := IntKind.i64.wrap ((IntKind.i64.wrap ((p0.length : Int) + 7)) - 1)
 let v2 : Int := IntKind.i64.wrap (1 + (IntKind.i64.wrap (Int.tdiv v1 7)))
 0 ≤ (1 : Int) ∧ (1 : Int) ≤ v2 ∧ (v2.toNat * 8 ≤ 140737488355328) ∧ (v2.toNat ≤ maxLen) ∧ (0 ≤ (0 : Int) ∧ 0 < (1 : Int)) ∧ (0 ≤ (0 : Int) ∧ 0 < ((List.replicate 1 (0 : Int)).length : Int)) ∧ (1 = ((List.replicate 1 (0 : Int)).set (0 : Int).toNat (IntKind.u64.wrap (p0.length : Int))).length) ∧ ((List.replicate 1 (0 : Int)).set (0 : Int).toNat (IntKind.u64.wrap (p0.length : Int)) = (List.replicate 1 (0 : Int)).set (0 : Int).toNat (IntKind.u64.wrap (p0.length : Int))) ∧ Md.Loop (p0, (0 : Int), ((List.replicate 1 (0 : Int)).set (0 : Int).toNat (IntKind.u64.wrap (p0.length : Int)) : List Int), ()) (kbl (r0, ())))) : khd (p0, ()) (r0, ()) := WPh.of_eq (by kernel_rfl) h
def ksl (r0 : List Int) (nx2 : HL TB.den k21.hs → Prop) (k2 : Int → List Int → Prop) (s0 : List Int) (s4 : Int) (g1 : List Int) : Prop :=
(decide (s4 < (s0.length : Int)) = true →
 let v3 : Int := (if (s0.length : Int) < IntKind.i64.wrap (s4 + 7) then (s0.length : Int) else IntKind.i64.wrap (s4 + 7))
(0 ≤ s4) ∧ s4 ≤ v3 ∧ v3 ≤ (s0.length : Int) ∧ let v4 : Int := (((s0.take v3.toNat).drop s4.toNat).length : Int)
(g1 = g1) ∧ Md.Loop (s0, s4, (0 : Int), ((s0.take v3.toNat).drop s4.toNat : List Int), v4, (0 : Int), g1, ()) (kbm (r0, ()) nx2)) ∧
(decide (s4 < (s0.length : Int)) = false →
 g1 = r0)
set_option maxRecDepth 100000 in
theorem k15s {r0 : List Int} {s0 : List Int} {s4 : Int} {g1 : List Int} (inv : Int → List Int → Prop) (μ : Int → List Int → Nat) (h0 : inv s4 g1) (hs : ∀ (s4 : Int) (g1 : List Int), inv s4 g1 → ksl r0 (fun s : (List Int) × Int × (List Int) × Unit => ((s.1 = s0) ∧ inv s.2.1 s.2.2.1) ∧ μ s.2.1 s.2.2.1 < μ s4 g1) (fun s4q g1q => inv s4q g1q ∧ μ s4q g1q < μ s4 g1) s0 s4 g1) : Md.Loop (s0, s4, g1, ()) (kbl (r0, ())) :=
  ⟨⟨fun s : (List Int) × Int × (List Int) × Unit => (s.1 = s0) ∧ inv s.2.1 s.2.2.1, fun s : (List Int) × Int × (List Int) × Unit => μ s.2.1 s.2.2.1, ⟨rfl, h0⟩, fun (s0p, s4p, g1p, ()) ⟨eq0, hi⟩ => by
    have eq0 : s0p = s0 := eq0; subst s0p; exact mpr_of (by kernel_rfl) ((congrArg (fun k => ksl r0 (fun s : (List Int) × Int × (List Int) × Unit => ((s.1 = s0) ∧ inv s.2.1 s.2.2.1) ∧ μ s.2.1 s.2.2.1 < μ s4p g1p) k s0 s4p g1p) (lpk2 (rfl : s0 = s0) inv (fun s4q g1q => μ s4q g1q < μ s4p g1p))).mpr (hs s4p g1p hi))⟩⟩
def krp (r0 : List Int) (nx2 : HL TB.den k21.hs → Prop) (k1 : Int → Int → Prop) (s0 : List Int) (s4 : Int) (s35 : List Int) (s36 : Int) (g1 : List Int) (s6 : Int) (s37 : Int) : Prop :=
(decide (s37 < s36) = true →
(0 ≤ s37) ∧ s37 < (s35.length : Int) ∧ (0 ≤ IntKind.i64.wrap (8 * s37)) ∧ let v5 : Int := ishl .u64 (IntKind.u64.wrap (ix s35 s37)) (IntKind.i64.wrap (8 * s37))
(g1 = g1) ∧ k1 (ior .u64 s6 v5 : Int) (IntKind.i64.wrap (s37 + 1) : Int)) ∧
(decide (s37 < s36) = false →
 g1.length = g1.length ∧ (g1.length + [s6].length) * 8 ≤ 140737488355328 ∧ g1.length + [s6].length ≤ maxLen ∧ (g1 ++ [s6] = g1 ++ [s6]) ∧ nx2 (s0, (IntKind.i64.wrap (s4 + 7) : Int), (g1 ++ [s6] : List Int), ()))
set_option maxRecDepth 100000 in
theorem k14u {r0 : List Int} {nx2 : HL TB.den k21.hs → Prop} {s0 : List Int} {s4 : Int} {s35 : List Int} {s36 : Int} {g1 : List Int} {s6 : Int} {s37 : Int} (inv : Int → Int → Prop) (μ : Int → Int → Nat) (h0 : inv s6 s37) (hs : ∀ (s6 : Int) (s37 : Int), inv s6 s37 → krp r0 nx2 (fun s6q s37q => inv s6q s37q ∧ μ s6q s37q < μ s6 s37) s0 s4 s35 s36 g1 s6 s37) : Md.Loop (s0, s4, s6, s35, s36, s37, g1, ()) (kbm (r0, ()) nx2) :=
  ⟨⟨fun s : (List Int) × Int × Int × (List Int) × Int × Int × (List Int) × Unit => (s.1 = s0 ∧ s.2.1 = s4 ∧ s.2.2.2.1 = s35 ∧ s.2.2.2.2.1 = s36 ∧ s.2.2.2.2.2.2.1 = g1) ∧ inv s.2.2.1 s.2.2.2.2.2.1, fun s : (List Int) × Int × Int × (List Int) × Int × Int × (List Int) × Unit => μ s.2.2.1 s.2.2.2.2.2.1, ⟨⟨rfl, rfl, rfl, rfl, rfl⟩, h0⟩, fun (s0p, s4p, s6p, s35p, s36p, s37p, g1p, ()) ⟨⟨eq0, eq1, eq2, eq3, eq4⟩, hi⟩ => by
    have eq0 : s0p = s0 := eq0; subst s0p; have eq1 : s4p = s4 := eq1; subst s4p; have eq2 : s35p = s35 := eq2; subst s35p; have eq3 : s36p = s36 := eq3; subst s36p; have eq4 : g1p = g1 := eq4; subst g1p; exact mpr_of (by kernel_rfl) ((congrArg (fun k => krp r0 nx2 k s0 s4 s35 s36 g1 s6p s37p) (lpk2 (⟨rfl, rfl, rfl, rfl, rfl⟩ : s0 = s0 ∧ s4 = s4 ∧ s35 = s35 ∧ s36 = s36 ∧ g1 = g1) inv (fun s6q s37q => μ s6q s37q < μ s6p s37p))).mpr (hs s6p s37p hi))⟩⟩
theorem bd87 : Callable Try.prog 87 := ⟨by rw [Try.func87]; kernel_rfl, by rw [Try.func87]; show some _ ≠ some _; decide⟩
theorem k11u (p0 : List Int) (h : By p0 ∧ p0.length ≤ 1099511627776) : khd (p0, ()) (((packS p0) : List Int), ()) := by
  obtain ⟨hb, hl⟩ := h
  refine k19m ?_
  rw [wi ((p0.length : Int) + 7) (by omega) (by omega), wi ((p0.length : Int) + 7 - 1) (by omega) (by omega)]
  try simp only []
  rw [tdiv_nn _ _ (by omega), wi (((p0.length : Int) + 7 - 1) / 7) (by omega) (by omega), wi (1 + ((p0.length : Int) + 7 - 1) / 7) (by omega) (by omega), wu (p0.length : Int) (by omega) (by omega)]
  refine ⟨by omega, by omega, by omega, by unfold maxLen; omega, by omega, ⟨by omega, by decide⟩, by trivial, by trivial, ?_⟩
  refine k15s (fun i g => 0 ≤ i ∧ i ≤ p0.length + 7 ∧ g ++ packN p0.length (p0.drop i.toNat) = packS p0 ∧ (g.length : Int) ≤ 1 + i) (fun i _ => (p0.length + 7 - i).toNat) ⟨by omega, by omega, rfl, by show (1 : Int) ≤ _; omega⟩ ?_
  rintro i g ⟨g0, g1, g2, g3⟩
  refine ⟨fun h => ?_, fun h => ?_⟩
  · have h := of_decide_eq_true h
    have h7 : IntKind.i64.wrap (i + 7) = i + 7 := wi (i + 7) (by omega) (by omega)
    rw [h7]
    have ev : ((p0.take (if (p0.length : Int) < i + 7 then (p0.length : Int) else i + 7).toNat).drop i.toNat) = (p0.drop i.toNat).take 7 := by
      split
      · rw [Int.toNat_natCast, List.take_length, List.take_of_length_le (by simp; omega)]
      · rw [List.drop_take, show (i + 7).toNat - i.toNat = 7 by omega]
    simp only [ev]
    refine ⟨g0, by split <;> omega, by split <;> omega, by trivial, ?_⟩
    have hpb : By ((p0.drop i.toNat).take 7) := (hb.drop _).take _
    have hpl : ((p0.drop i.toNat).take 7).length ≤ 7 := by simp; omega
    have hnext : g ++ [val ((p0.drop i.toNat).take 7)] ++ packN p0.length (p0.drop (i + 7).toNat) = packS p0 := by
      rw [← g2, List.append_assoc]
      congr 1
      have h5 : (p0.drop i.toNat).length ≤ p0.length := by simp
      have h6 := kmv p0.length (p0.drop i.toNat) h5 (by intro h7; have := congrArg List.length h7; simp at this; omega)
      rw [h6, List.drop_drop, show i.toNat + 7 = (i + 7).toNat by omega]
      rfl
    generalize (p0.drop i.toNat).take 7 = part at *
    refine k14u (fun n k => 0 ≤ k ∧ k ≤ part.length ∧ n = val (part.take k.toNat)) (fun _ k => (part.length - k).toNat) ⟨by omega, by omega, rfl⟩ ?_
    rintro n k ⟨k0, k1, rfl⟩
    refine ⟨fun hk => ?_, fun hk => ?_⟩
    · have hk := of_decide_eq_true hk
      have hx := hpb _ (ix_mem part k k0 hk)
      have hlen : ((part.take k.toNat).length : Int) = k := by rw [List.length_take]; omega
      rw [wi (8 * k) (by omega) (by omega), wu (ix part k) (by omega) (by omega), wi (k + 1) (by omega) (by omega)]
      have := ior_val (part.take k.toNat) (ix part k) (hpb.take _) (by omega) hx
      rw [hlen] at this
      simp only [this]
      refine ⟨k0, hk, by omega, by trivial, ⟨by omega, by omega, ?_⟩, by omega⟩
      rw [ka part k k0 hk]
    · have hk := of_decide_eq_false hk
      have e1 : part.take k.toNat = part := List.take_of_length_le (by omega)
      rw [e1, h7]
      refine ⟨by trivial, by simp only [List.length_cons, List.length_nil]; omega, by simp only [List.length_cons, List.length_nil]; unfold maxLen; omega, by trivial, ⟨rfl, (?_ : 0 ≤ i + 7 ∧ i + 7 ≤ p0.length + 7 ∧ _ ∧ _)⟩, (?_ : (p0.length + 7 - (i + 7)).toNat < (p0.length + 7 - i).toNat)⟩
      · exact ⟨by omega, by omega, hnext, by simp only [List.length_append, List.length_cons, List.length_nil]; omega⟩
      · omega
  · have h := of_decide_eq_false h
    rw [List.drop_eq_nil_of_le (by omega)] at g2
    have : packN p0.length ([] : List Int) = [] := by cases p0.length <;> rfl
    rw [this, List.append_nil] at g2
    exact g2
noncomputable def kpf : Con TB.den := k1o.fnR (fun x => (fun (p0 : List Int) => By p0 ∧ p0.length ≤ 1099511627776) x.1) fun x => ((fun (p0 : List Int) => ((packS p0) : List Int)) x.1, ())
theorem k18s : kpf.Ok Try.prog TB := Con.ok_fn k1o bd87 fun x h => k153 (k11u x.1 h)
end Go.Proofs.Ytnmakgfmimagmaa
namespace Go.Proofs.Ytnmakgfmimagmaa
open Go Go.Bv Go.Cv Go.Md Go.RowKit
def kp : Con TB.den := Con.mk0 62 [.one (.d (.int .u64)), .one (.d (.sl (.int .u8)))] [] (.one (.one (.d (.int .u64)))) []
abbrev klb := HL TB.den (hsT kp.ins (hsOs kp.pre))
abbrev ka6 := HL TB.den (hsV kp.res (hsOs kp.post))
noncomputable def k6p : Cx TB := ⟨inf, [kpf, kqi], [], 4, []⟩
noncomputable def kb2 : Code := Try.f62.body.getD .skip
noncomputable def kcz : List ResultVar := Try.f62.results.toList
noncomputable def kj2 (o : ka6) : An TB := .no
noncomputable def kb8 (x : klb) (o : ka6) : Prop := WPh TB k6p 9 0 kb2 (kj2 o) (kp.st TB x) (retTQ TB k6p kp kcz o)
set_option maxRecDepth 100000 in
theorem ktg (o : ka6) : OblH TB k6p 9 0 kb2 (kj2 o) (retTQ TB k6p kp kcz o) :=
  OblH.of_eq (X := (True ∧ (True ∧ True))) (by kernel_rfl) ⟨trivial, ⟨trivial, trivial⟩⟩
set_option maxRecDepth 100000 in
theorem kty {x : klb} {o : ka6} (h : kb8 x o) : SoundH Try.prog kp.f ((kp.args idf x).map (er TB)) ((kp.obs idf x).map (erO TB)) (er TB (kp.val idf o)) ((kp.ops idf o).map (erO TB)) :=
  Con.soundH (c := kp) (C := k6p) TBok ⟨inf_ok, (all_cons k18s (all_cons k17o all_nil)), all_nil⟩ mix Try.func62 (show Try.f62.body = some kb2 by kernel_rfl) (show Try.f62.ntmps = 9 by kernel_rfl) (show Try.f62.results.toList = kcz by kernel_rfl) rfl h (ktg o)
set_option maxRecDepth 100000 in
theorem kw8 {p0 : Int} {p1 : List Int} {r0 : Int} (h :
((By p1 ∧ p1.length ≤ 1099511627776) ∧ ((18446744069414584321 : Int) = 18446744069414584321 ∧ U64 p0 ∧ Us (packS p1) ∧ (packS p1).length ≤ 1099511627776) ∧ (hashS p0 (packS p1)) = r0)) : kb8 (p0, p1, ()) (r0, ()) := WPh.of_eq (by kernel_rfl) h
theorem bd62 : Callable Try.prog 62 := ⟨by rw [Try.func62]; kernel_rfl, by rw [Try.func62]; show some _ ≠ some _; decide⟩
theorem krx (p0 : Int) (p1 : List Int) (h : U64 p0 ∧ By p1 ∧ p1.length ≤ 1099511627775) : kb8 (p0, p1, ()) (((hashB p0 p1) : Int), ()) := by
  obtain ⟨h1, h2, h3⟩ := h
  refine kw8 ⟨⟨h2, by omega⟩, ⟨rfl, h1, ?_, ?_⟩, rfl⟩
  · intro x hx
    rcases List.mem_cons.1 hx with rfl | hx
    · omega
    · exact k142 _ _ h2 x hx
  · have := khz p1.length p1
    simp only [packS, List.length_cons]
    omega
noncomputable def kbt : Con TB.den := kp.fnR (fun x => (fun (p0 : Int) (p1 : List Int) => U64 p0 ∧ By p1 ∧ p1.length ≤ 1099511627775) x.1 x.2.1) fun x => ((fun (p0 : Int) (p1 : List Int) => ((hashB p0 p1) : Int)) x.1 x.2.1, ())
theorem kiv : kbt.Ok Try.prog TB := Con.ok_fn kp bd62 fun x h => kty (krx x.1 x.2.1 h)
end Go.Proofs.Ytnmakgfmimagmaa
namespace Go.Proofs.Ytnmakgfmimagmaa
open Go Go.Bv Go.Cv Go.Md Go.RowKit
def kj : Con TB.den := Con.mk0 37 [.agg [.d (.int .u64), .d (.int .i64), .d (.int .u64), .d (.int .u64), .d (.int .u64), .d (.sl (.st 1))], .one (.d (.sl (.int .u64)))] [] (.one (.one (.d (.int .u64)))) []
abbrev klc := HL TB.den (hsT kj.ins (hsOs kj.pre))
abbrev k3r := HL TB.den (hsV kj.res (hsOs kj.post))
noncomputable def k3k : Cx TB := ⟨inf, [kh9, kgu, kbt], [], 4, []⟩
noncomputable def k5x : Code := Try.f37.body.getD .skip
noncomputable def k6n : List ResultVar := Try.f37.results.toList
noncomputable def kw9 (o : k3r) : Exit → TSt TB.den → Prop := thenT TB (fun s => ghs TB [] s fun s => WP TB k3k 22 0 (cB (cB (cB k5x))) .no s (retTQ TB k3k kj k6n o)) (retTQ TB k3k kj k6n o)
def k4r : Tm := ⟨[], [], [5, 10, 11, 12], [.one (.d (.sl (.int .u8))), .one (.d (.sl (.int .u64))), .one (.d (.int .i64)), .one (.d (.int .i64))], 1⟩
noncomputable def kwh (o : k3r) (nx1 : HL TB.den k4r.hs → Prop) : Exit → TSt TB.den → Prop := thenT TB (fun s => k4r.mat TB 0 s nx1) (blockT TB 0 (kw9 o))
noncomputable def k6o (o : k3r) (nx1 : HL TB.den k4r.hs → Prop) (i : HL TB.den k4r.hs) : Prop := WP TB k3k 22 0 (cA (cA (cB (cA (cB (cB k5x)))))) .no (k4r.fill TB i) (kwh o nx1)
noncomputable def kw4 (o : k3r) : An TB := .lp [] k4r (k6o o) fun nx1 => .no
noncomputable def kw6 (o : k3r) : An TB := .nd [] .no [] (.nd [] (.nd [] .no [] (kw4 o)) [] .no)
noncomputable def kj4 (o : k3r) : An TB := .nd [] .no [] (kw6 o)
noncomputable def kbp (x : klc) (o : k3r) : Prop := WPh TB k3k 22 0 k5x (kj4 o) (kj.st TB x) (retTQ TB k3k kj k6n o)
set_option maxRecDepth 100000 in
theorem ku0 (o : k3r) : OblH TB k3k 22 0 k5x (kj4 o) (retTQ TB k3k kj k6n o) :=
  OblH.of_eq (X := (True ∧ (True ∧ ((True ∧ ((∀ nx i, (k6o o) nx i = (k6o o) nx i) ∧ ∀ nx1 : HL TB.den k4r.hs → Prop, (True ∧ ((True ∧ True) ∧ ((True ∧ True) ∧ True))))) ∧ (True ∧ True))))) (by kernel_rfl) ⟨trivial, ⟨trivial, ⟨⟨trivial, ⟨fun _ _ => rfl, fun _ => ⟨trivial, ⟨⟨trivial, trivial⟩, ⟨⟨trivial, trivial⟩, trivial⟩⟩⟩⟩⟩, ⟨trivial, trivial⟩⟩⟩⟩
set_option maxRecDepth 100000 in
theorem ku4 {x : klc} {o : k3r} (h : kbp x o) : SoundH Try.prog kj.f ((kj.args idf x).map (er TB)) ((kj.obs idf x).map (erO TB)) (er TB (kj.val idf o)) ((kj.ops idf o).map (erO TB)) :=
  Con.soundH (c := kj) (C := k3k) TBok ⟨inf_ok, (all_cons kqh (all_cons knc (all_cons kiv all_nil))), all_nil⟩ mix Try.func37 (show Try.f37.body = some k5x by kernel_rfl) (show Try.f37.ntmps = 22 by kernel_rfl) (show Try.f37.results.toList = k6n by kernel_rfl) rfl h (ku0 o)
set_option maxRecDepth 100000 in
theorem kw7 {p0 : TBlock} {p1 : List Int} {r0 : Int} (h :
((BR p0 ∧ p0.Txs.length ≤ 64) ∧ Md.Loop (((hdrS p0) : List Int), p1, ((p1.length : Int) : Int), (0 : Int), ()) (k6o (r0, ())))) : kbp (p0.Parent, p0.Height, p0.Miner, p0.Work, p0.Nonce, p0.Txs, p1, ()) (r0, ()) := WPh.of_eq (by kernel_rfl) h
def kj5 (r0 : Int) (k1 : List Int → Int → Prop) (s10 : List Int) (s11 : Int) (s5 : List Int) (s12 : Int) : Prop :=
(decide (s12 < s11) = true →
(0 ≤ s12) ∧ s12 < (s10.length : Int) ∧ (U64 (ix s10 s12) ∧ s5.length ≤ 137438953472) ∧ k1 ((s5 ++ dig 8 (ix s10 s12)) : List Int) (IntKind.i64.wrap (s12 + 1) : Int)) ∧
(decide (s12 < s11) = false →
(U64 (15 : Int) ∧ By s5 ∧ s5.length ≤ 1099511627775) ∧ (hashB (15 : Int) s5) = r0)
set_option maxRecDepth 100000 in
theorem kte {r0 : Int} {s10 : List Int} {s11 : Int} {s5 : List Int} {s12 : Int} (inv : List Int → Int → Prop) (μ : List Int → Int → Nat) (h0 : inv s5 s12) (hs : ∀ (s5 : List Int) (s12 : Int), inv s5 s12 → kj5 r0 (fun s5q s12q => inv s5q s12q ∧ μ s5q s12q < μ s5 s12) s10 s11 s5 s12) : Md.Loop (s5, s10, s11, s12, ()) (k6o (r0, ())) :=
  ⟨⟨fun s : (List Int) × (List Int) × Int × Int × Unit => (s.2.1 = s10 ∧ s.2.2.1 = s11) ∧ inv s.1 s.2.2.2.1, fun s : (List Int) × (List Int) × Int × Int × Unit => μ s.1 s.2.2.2.1, ⟨⟨rfl, rfl⟩, h0⟩, fun (s5p, s10p, s11p, s12p, ()) ⟨⟨eq0, eq1⟩, hi⟩ => by
    have eq0 : s10p = s10 := eq0; subst s10p; have eq1 : s11p = s11 := eq1; subst s11p; exact mpr_of (by kernel_rfl) ((congrArg (fun k => kj5 r0 k s10 s11 s5p s12p) (lpk2 (⟨rfl, rfl⟩ : s10 = s10 ∧ s11 = s11) inv (fun s5q s12q => μ s5q s12q < μ s5p s12p))).mpr (hs s5p s12p hi))⟩⟩
theorem bd37 : Callable Try.prog 37 := ⟨by rw [Try.func37]; kernel_rfl, by rw [Try.func37]; show some _ ≠ some _; decide⟩
theorem ks1 (p0 : TBlock) (p1 : List Int) (h : BR p0 ∧ p0.Txs.length ≤ 64 ∧ Us p1 ∧ p1.length ≤ 64) : kbp (p0.Parent, p0.Height, p0.Miner, p0.Work, p0.Nonce, p0.Txs, p1, ()) (((hashB 15 (hdrS p0 ++ p1.flatMap (dig 8))) : Int), ()) := by
  obtain ⟨hr, hl, hu, hul⟩ := h
  refine kw7 ⟨⟨hr, hl⟩, kte (fun l i => 0 ≤ i ∧ i ≤ p1.length ∧ l = hdrS p0 ++ (p1.take i.toNat).flatMap (dig 8)) (fun _ i => (p1.length - i).toNat) ⟨by omega, by omega, by simp⟩ ?_⟩
  rintro l i ⟨g0, g1, rfl⟩
  have hle : (hdrS p0 ++ (p1.take i.toNat).flatMap (dig 8)).length ≤ 1000 := by
    rw [List.length_append, kcx, k63, List.length_take]
    omega
  refine ⟨fun hh => ?_, fun hh => ?_⟩
  · have hh := of_decide_eq_true hh
    have hm := ix_mem p1 i g0 hh
    rw [inc i p1.length g0 hh (by omega)]
    refine ⟨g0, hh, ⟨hu _ hm, by omega⟩, ⟨by omega, by omega, ?_⟩, by omega⟩
    rw [ka p1 i g0 hh, List.flatMap_append, List.append_assoc]
    simp
  · have hh := of_decide_eq_false hh
    rw [List.take_of_length_le (by omega)] at hle ⊢
    exact ⟨⟨by omega, (hdrS_by p0).append (k13z p1), by omega⟩, rfl⟩
noncomputable def kc0 : Con TB.den := kj.fnR (fun x => (fun (p0 : TBlock) (p1 : List Int) => BR p0 ∧ p0.Txs.length ≤ 64 ∧ Us p1 ∧ p1.length ≤ 64) (TBlock.mk x.1 x.2.1 x.2.2.1 x.2.2.2.1 x.2.2.2.2.1 x.2.2.2.2.2.1) x.2.2.2.2.2.2.1) fun x => ((fun (p0 : TBlock) (p1 : List Int) => ((hashB 15 (hdrS p0 ++ p1.flatMap (dig 8))) : Int)) (TBlock.mk x.1 x.2.1 x.2.2.1 x.2.2.2.1 x.2.2.2.2.1 x.2.2.2.2.2.1) x.2.2.2.2.2.2.1, ())
theorem kiy : kc0.Ok Try.prog TB := Con.ok_fn kj bd37 fun x h => ku4 (ks1 (TBlock.mk x.1 x.2.1 x.2.2.1 x.2.2.2.1 x.2.2.2.2.1 x.2.2.2.2.2.1) x.2.2.2.2.2.2.1 h)
end Go.Proofs.Ytnmakgfmimagmaa
namespace Go.Proofs.Ytnmakgfmimagmaa
open Go Go.Bv Go.Cv Go.Md Go.RowKit
def k5w : Con TB.den := Con.mk0 63 [.agg [.d (.int .u64), .d (.sl (.int .u64)), .d (.sl (.st 0)), .d (.int .u64), .d (.int .u64), .d (.int .u64), .d (.int .u64), .d (.int .u64), .d (.int .i64), .d (.sl (.int .u8))]] [] (.one (.one (.d (.int .u64)))) []
abbrev tx_ID_I := HL TB.den (hsT k5w.ins (hsOs k5w.pre))
abbrev tx_ID_O := HL TB.den (hsV k5w.res (hsOs k5w.post))
noncomputable def knp : Cx TB := ⟨inf, [kgr, kbt], [], 4, []⟩
noncomputable def ktl : Code := Try.f63.body.getD .skip
noncomputable def k133 : List ResultVar := Try.f63.results.toList
noncomputable def k1hf (o : tx_ID_O) : An TB := .no
noncomputable def ktz (x : tx_ID_I) (o : tx_ID_O) : Prop := WPh TB knp 14 0 ktl (k1hf o) (k5w.st TB x) (retTQ TB knp k5w k133 o)
set_option maxRecDepth 100000 in
theorem k1l7 (o : tx_ID_O) : OblH TB knp 14 0 ktl (k1hf o) (retTQ TB knp k5w k133 o) :=
  OblH.of_eq (X := (True ∧ (True ∧ ((True ∧ ((True ∧ True) ∧ True)) ∧ (True ∧ True))))) (by kernel_rfl) ⟨trivial, ⟨trivial, ⟨⟨trivial, ⟨⟨trivial, trivial⟩, trivial⟩⟩, ⟨trivial, trivial⟩⟩⟩⟩
set_option maxRecDepth 100000 in
theorem k1lf {x : tx_ID_I} {o : tx_ID_O} (h : ktz x o) : SoundH Try.prog k5w.f ((k5w.args idf x).map (er TB)) ((k5w.obs idf x).map (erO TB)) (er TB (k5w.val idf o)) ((k5w.ops idf o).map (erO TB)) :=
  Con.soundH (c := k5w) (C := knp) TBok ⟨inf_ok, (all_cons kop (all_cons kiv all_nil)), all_nil⟩ mix Try.func63 (show Try.f63.body = some ktl by kernel_rfl) (show Try.f63.ntmps = 14 by kernel_rfl) (show Try.f63.results.toList = k133 by kernel_rfl) rfl h (k1l7 o)
set_option maxRecDepth 100000 in
theorem k1md {p0 : TTx} {r0 : Int} (h :
((TR p0) ∧ let r1 : List Int := (if validE p0 = 0 then encT p0 p0.Proof else [])
(((validE p0) != 0) = true →
 0 = r0) ∧
(((validE p0) != 0) = false →
(U64 (14 : Int) ∧ By r1 ∧ r1.length ≤ 1099511627775) ∧ (hashB (14 : Int) r1) = r0))) : ktz (p0.Anchor, p0.Marks, p0.Outs, p0.Deposit, p0.Withdraw, p0.Fee, p0.Account, p0.Nonce, p0.Expiry, p0.Proof, ()) (r0, ()) := WPh.of_eq (by kernel_rfl) h
theorem bd63 : Callable Try.prog 63 := ⟨by rw [Try.func63]; kernel_rfl, by rw [Try.func63]; show some _ ≠ some _; decide⟩
theorem k1ks (p0 : TTx) (h : TR p0) : ktz (p0.Anchor, p0.Marks, p0.Outs, p0.Deposit, p0.Withdraw, p0.Fee, p0.Account, p0.Nonce, p0.Expiry, p0.Proof, ()) (((idS p0) : Int), ()) := by
  refine k1md ⟨h, ?_⟩
  unfold idS
  refine ⟨fun e => ?_, fun e => ?_⟩
  · have e : validE p0 ≠ 0 := by simpa using e
    rw [if_neg e]
  · have e : validE p0 = 0 := by simpa using e
    have v := (k71 p0).1 e
    rw [if_pos e, if_pos e]
    exact ⟨⟨by omega, encT_by h.p, by have := v.enc_len p0.Proof; have := v.pl; omega⟩, rfl⟩
noncomputable def k1b8 : Con TB.den := k5w.fnR (fun x => (fun (p0 : TTx) => TR p0) (TTx.mk x.1 x.2.1 x.2.2.1 x.2.2.2.1 x.2.2.2.2.1 x.2.2.2.2.2.1 x.2.2.2.2.2.2.1 x.2.2.2.2.2.2.2.1 x.2.2.2.2.2.2.2.2.1 x.2.2.2.2.2.2.2.2.2.1)) fun x => ((fun (p0 : TTx) => ((idS p0) : Int)) (TTx.mk x.1 x.2.1 x.2.2.1 x.2.2.2.1 x.2.2.2.2.1 x.2.2.2.2.2.1 x.2.2.2.2.2.2.1 x.2.2.2.2.2.2.2.1 x.2.2.2.2.2.2.2.2.1 x.2.2.2.2.2.2.2.2.2.1), ())
theorem k1n6 : k1b8.Ok Try.prog TB := Con.ok_fn k5w bd63 fun x h => k1lf (k1ks (TTx.mk x.1 x.2.1 x.2.2.1 x.2.2.2.1 x.2.2.2.2.1 x.2.2.2.2.2.1 x.2.2.2.2.2.2.1 x.2.2.2.2.2.2.2.1 x.2.2.2.2.2.2.2.2.1 x.2.2.2.2.2.2.2.2.2.1) h)
end Go.Proofs.Ytnmakgfmimagmaa
namespace Go.Proofs.Ytnmakgfmimagmaa
open Go Go.Bv Go.Cv Go.Md Go.RowKit
def kg : Con TB.den := Con.mk0 38 [.agg [.d (.int .u64), .d (.int .i64), .d (.int .u64), .d (.int .u64), .d (.int .u64), .d (.sl (.st 1))]] [] (.one (.one (.d (.sl (.int .u64))))) []
abbrev kiu := HL TB.den (hsT kg.ins (hsOs kg.pre))
abbrev k3j := HL TB.den (hsV kg.res (hsOs kg.post))
noncomputable def k31 : Cx TB := ⟨inf, [k1b8], [], 4, []⟩
noncomputable def k5p : Code := Try.f38.body.getD .skip
noncomputable def k6e : List ResultVar := Try.f38.results.toList
noncomputable def ktk (o : k3j) : Exit → TSt TB.den → Prop := thenT TB (fun s => ghs TB [] s fun s => WP TB k31 24 0 (cB (cB (cB k5p))) .no s (retTQ TB k31 kg k6e o)) (retTQ TB k31 kg k6e o)
def k4g : Tm := ⟨[2], [.tip (.int .u64)], [3, 11, 12, 13], [.one (.own 0), .one (.d (.sl (.st 1))), .one (.d (.int .i64)), .one (.d (.int .i64))], 3⟩
noncomputable def ktp (o : k3j) (nx1 : HL TB.den k4g.hs → Prop) : Exit → TSt TB.den → Prop := thenT TB (fun s => k4g.mat TB 0 s nx1) (blockT TB 0 (ktk o))
noncomputable def k60 (o : k3j) (nx1 : HL TB.den k4g.hs → Prop) (i : HL TB.den k4g.hs) : Prop := WP TB k31 24 0 (cA (cA (cB (cA (cB (cB k5p)))))) .no (k4g.fill TB i) (ktp o nx1)
noncomputable def kt7 (o : k3j) : An TB := .lp [.frz 1 [3]] k4g (k60 o) fun nx1 => .no
noncomputable def kug (o : k3j) : An TB := .nd [] .no [] (.nd [] (.nd [] .no [] (kt7 o)) [] .no)
noncomputable def kim (o : k3j) : An TB := .nd [] .no [] (kug o)
noncomputable def ka8 (x : kiu) (o : k3j) : Prop := WPh TB k31 24 0 k5p (kim o) (kg.st TB x) (retTQ TB k31 kg k6e o)
set_option maxRecDepth 100000 in
theorem ksp (o : k3j) : OblH TB k31 24 0 k5p (kim o) (retTQ TB k31 kg k6e o) :=
  OblH.of_eq (X := (True ∧ (True ∧ ((True ∧ ((∀ nx i, (k60 o) nx i = (k60 o) nx i) ∧ ∀ nx1 : HL TB.den k4g.hs → Prop, (True ∧ ((True ∧ True) ∧ ((True ∧ True) ∧ True))))) ∧ (True ∧ True))))) (by kernel_rfl) ⟨trivial, ⟨trivial, ⟨⟨trivial, ⟨fun _ _ => rfl, fun _ => ⟨trivial, ⟨⟨trivial, trivial⟩, ⟨⟨trivial, trivial⟩, trivial⟩⟩⟩⟩⟩, ⟨trivial, trivial⟩⟩⟩⟩
set_option maxRecDepth 100000 in
theorem ksv {x : kiu} {o : k3j} (h : ka8 x o) : SoundH Try.prog kg.f ((kg.args idf x).map (er TB)) ((kg.obs idf x).map (erO TB)) (er TB (kg.val idf o)) ((kg.ops idf o).map (erO TB)) :=
  Con.soundH (c := kg) (C := k31) TBok ⟨inf_ok, (all_cons k1n6 all_nil), all_nil⟩ mix Try.func38 (show Try.f38.body = some k5p by kernel_rfl) (show Try.f38.ntmps = 24 by kernel_rfl) (show Try.f38.results.toList = k6e by kernel_rfl) rfl h (ksp o)
set_option maxRecDepth 100000 in
theorem kuc {p0 : TBlock} {r0 : List Int} (h :
(0 ≤ (0 : Int) ∧ (0 : Int) ≤ (p0.Txs.length : Int) ∧ ((p0.Txs.length : Int).toNat * 8 ≤ 140737488355328) ∧ ((p0.Txs.length : Int).toNat ≤ maxLen) ∧ (0 = (List.replicate 0 (0 : Int)).length) ∧ (List.replicate 0 (0 : Int) = List.replicate 0 (0 : Int)) ∧ Md.Loop (p0.Txs, ((p0.Txs.length : Int) : Int), (0 : Int), (List.replicate 0 (0 : Int) : List Int), ()) (k60 (r0, ())))) : ka8 (p0.Parent, p0.Height, p0.Miner, p0.Work, p0.Nonce, p0.Txs, ()) (r0, ()) := WPh.of_eq (by kernel_rfl) h
def khr (r0 : List Int) (k1 : Int → List Int → Prop) (s11 : List TTx) (s12 : Int) (s13 : Int) (g2 : List Int) : Prop :=
(decide (s13 < s12) = true →
(0 ≤ s13) ∧ s13 < (s11.length : Int) ∧ (TR (ix s11 s13)) ∧ g2.length = g2.length ∧ (g2.length + [(idS (ix s11 s13))].length) * 8 ≤ 140737488355328 ∧ g2.length + [(idS (ix s11 s13))].length ≤ maxLen ∧ (g2 ++ [(idS (ix s11 s13))] = g2 ++ [(idS (ix s11 s13))]) ∧ k1 (IntKind.i64.wrap (s13 + 1) : Int) (g2 ++ [(idS (ix s11 s13))] : List Int)) ∧
(decide (s13 < s12) = false →
 g2 = r0)
set_option maxRecDepth 100000 in
theorem ks7 {r0 : List Int} {s11 : List TTx} {s12 : Int} {s13 : Int} {g2 : List Int} (inv : Int → List Int → Prop) (μ : Int → List Int → Nat) (h0 : inv s13 g2) (hs : ∀ (s13 : Int) (g2 : List Int), inv s13 g2 → khr r0 (fun s13q g2q => inv s13q g2q ∧ μ s13q g2q < μ s13 g2) s11 s12 s13 g2) : Md.Loop (s11, s12, s13, g2, ()) (k60 (r0, ())) :=
  ⟨⟨fun s : (List TTx) × Int × Int × (List Int) × Unit => (s.1 = s11 ∧ s.2.1 = s12) ∧ inv s.2.2.1 s.2.2.2.1, fun s : (List TTx) × Int × Int × (List Int) × Unit => μ s.2.2.1 s.2.2.2.1, ⟨⟨rfl, rfl⟩, h0⟩, fun (s11p, s12p, s13p, g2p, ()) ⟨⟨eq0, eq1⟩, hi⟩ => by
    have eq0 : s11p = s11 := eq0; subst s11p; have eq1 : s12p = s12 := eq1; subst s12p; exact mpr_of (by kernel_rfl) ((congrArg (fun k => khr r0 k s11 s12 s13p g2p) (lpk2 (⟨rfl, rfl⟩ : s11 = s11 ∧ s12 = s12) inv (fun s13q g2q => μ s13q g2q < μ s13p g2p))).mpr (hs s13p g2p hi))⟩⟩
theorem bd38 : Callable Try.prog 38 := ⟨by rw [Try.func38]; kernel_rfl, by rw [Try.func38]; show some _ ≠ some _; decide⟩
theorem kqt (p0 : TBlock) (h : (∀ x ∈ p0.Txs, TR x) ∧ p0.Txs.length ≤ 64) : ka8 (p0.Parent, p0.Height, p0.Miner, p0.Work, p0.Nonce, p0.Txs, ()) (((p0.Txs.map idS) : List Int), ()) := by
  obtain ⟨hr, hl⟩ := h
  refine kuc ⟨by omega, by omega, by omega, by unfold maxLen; omega, by simp, rfl, ?_⟩
  refine ks7 (fun i g => 0 ≤ i ∧ i ≤ p0.Txs.length ∧ g = (p0.Txs.take i.toNat).map idS) (fun i _ => (p0.Txs.length - i).toNat) ⟨by omega, by omega, by simp⟩ ?_
  rintro i g ⟨g0, g1, rfl⟩
  refine ⟨fun hh => ?_, fun hh => ?_⟩
  · have hh := of_decide_eq_true hh
    have hm := ix_mem p0.Txs i g0 hh
    rw [inc i p0.Txs.length g0 hh (by omega)]
    refine ⟨g0, hh, hr _ hm, rfl, by simp; omega, by simp; unfold maxLen; omega, rfl, ⟨by omega, by omega, ?_⟩, by omega⟩
    rw [ka p0.Txs i g0 hh]
    simp
  · have hh := of_decide_eq_false hh
    rw [List.take_of_length_le (by omega)]
noncomputable def kan : Con TB.den := kg.fnR (fun x => (fun (p0 : TBlock) => (∀ x ∈ p0.Txs, TR x) ∧ p0.Txs.length ≤ 64) (TBlock.mk x.1 x.2.1 x.2.2.1 x.2.2.2.1 x.2.2.2.2.1 x.2.2.2.2.2.1)) fun x => ((fun (p0 : TBlock) => ((p0.Txs.map idS) : List Int)) (TBlock.mk x.1 x.2.1 x.2.2.1 x.2.2.2.1 x.2.2.2.2.1 x.2.2.2.2.2.1), ())
theorem khy : kan.Ok Try.prog TB := Con.ok_fn kg bd38 fun x h => ksv (kqt (TBlock.mk x.1 x.2.1 x.2.2.1 x.2.2.2.1 x.2.2.2.2.1 x.2.2.2.2.2.1) h)
end Go.Proofs.Ytnmakgfmimagmaa
namespace Go.Proofs.Ytnmakgfmimagmaa
open Go Go.Bv Go.Cv Go.Md Go.RowKit
def k43 : Con TB.den := Con.mk0 17 [.agg [.d (.int .u64), .d (.int .i64), .d (.int .u64), .d (.int .u64), .d (.int .u64), .d (.sl (.st 1))]] [] (.one (.one (.d (.int .u64)))) []
abbrev k16h := HL TB.den (hsT k43.ins (hsOs k43.pre))
abbrev kms := HL TB.den (hsV k43.res (hsOs k43.post))
noncomputable def kg1 : Cx TB := ⟨inf, [kd7, kan, kc0], [], 4, []⟩
noncomputable def klz : Code := Try.f17.body.getD .skip
noncomputable def kr4 : List ResultVar := Try.f17.results.toList
noncomputable def k11c (o : kms) : An TB := .no
noncomputable def km9 (x : k16h) (o : kms) : Prop := WPh TB kg1 10 0 klz (k11c o) (k43.st TB x) (retTQ TB kg1 k43 kr4 o)
set_option maxRecDepth 100000 in
theorem k1gf (o : kms) : OblH TB kg1 10 0 klz (k11c o) (retTQ TB kg1 k43 kr4 o) :=
  OblH.of_eq (X := (True ∧ ((True ∧ ((True ∧ True) ∧ True)) ∧ (True ∧ True)))) (by kernel_rfl) ⟨trivial, ⟨⟨trivial, ⟨⟨trivial, trivial⟩, trivial⟩⟩, ⟨trivial, trivial⟩⟩⟩
set_option maxRecDepth 100000 in
theorem k1f2 {x : k16h} {o : kms} (h : km9 x o) : SoundH Try.prog k43.f ((k43.args idf x).map (er TB)) ((k43.obs idf x).map (erO TB)) (er TB (k43.val idf o)) ((k43.ops idf o).map (erO TB)) :=
  Con.soundH (c := k43) (C := kg1) TBok ⟨inf_ok, (all_cons kjs (all_cons khy (all_cons kiy all_nil))), all_nil⟩ mix Try.func17 (show Try.f17.body = some klz by kernel_rfl) (show Try.f17.ntmps = 10 by kernel_rfl) (show Try.f17.results.toList = kr4 by kernel_rfl) rfl h (k1gf o)
set_option maxRecDepth 100000 in
theorem k1jl {p0 : TBlock} {r0 : Int} (h :
((∀ x ∈ p0.Txs, TR x) ∧ (((validB p0) != 0) = true →
 0 = r0) ∧
(((validB p0) != 0) = false →
((∀ x ∈ p0.Txs, TR x) ∧ p0.Txs.length ≤ 64) ∧ (BR p0 ∧ p0.Txs.length ≤ 64 ∧ Us (p0.Txs.map idS) ∧ (p0.Txs.map idS).length ≤ 64) ∧ let r1 : Int := (hashB 15 (hdrS p0 ++ (p0.Txs.map idS).flatMap (dig 8)))
 r1 = r0))) : km9 (p0.Parent, p0.Height, p0.Miner, p0.Work, p0.Nonce, p0.Txs, ()) (r0, ()) := WPh.of_eq (by kernel_rfl) h
theorem bd17 : Callable Try.prog 17 := ⟨by rw [Try.func17]; kernel_rfl, by rw [Try.func17]; show some _ ≠ some _; decide⟩
theorem k1bm (p0 : TBlock) (h : BR p0) : km9 (p0.Parent, p0.Height, p0.Miner, p0.Work, p0.Nonce, p0.Txs, ()) (((idB p0) : Int), ()) := by
  refine k1jl ⟨h.t, fun e => ?_, fun e => ?_⟩
  · have e : ¬ validB p0 = 0 := by simpa using e
    unfold idB
    rw [if_neg e]
  · have e : validB p0 = 0 := by simpa using e
    have v := (kcv p0).1 e
    have hl := v.h.l
    unfold idB
    rw [if_pos e]
    exact ⟨⟨h.t, hl⟩, ⟨h, hl, idS_us _, by simpa using hl⟩, rfl⟩
noncomputable def kn2 : Con TB.den := k43.fnR (fun x => (fun (p0 : TBlock) => BR p0) (TBlock.mk x.1 x.2.1 x.2.2.1 x.2.2.2.1 x.2.2.2.2.1 x.2.2.2.2.2.1)) fun x => ((fun (p0 : TBlock) => ((idB p0) : Int)) (TBlock.mk x.1 x.2.1 x.2.2.1 x.2.2.2.1 x.2.2.2.2.1 x.2.2.2.2.2.1), ())
theorem k11a : kn2.Ok Try.prog TB := Con.ok_fn k43 bd17 fun x h => k1f2 (k1bm (TBlock.mk x.1 x.2.1 x.2.2.1 x.2.2.2.1 x.2.2.2.2.1 x.2.2.2.2.2.1) h)
end Go.Proofs.Ytnmakgfmimagmaa
namespace Go.Proofs.Ytnmakgfmimagmaa
open Go Go.Bv Go.Cv Go.Md Go.RowKit
def k1c : Con TB.den := Con.mk0 25 [.agg [.d (.int .u64), .d (.int .i64), .d (.int .u64), .d (.int .u64), .d (.int .u64), .d (.sl (.st 1))]] [] (.tup [.one (.d (.sl (.int .u8))), .one (.d (.int .i64))]) []
abbrev ksf := HL TB.den (hsT k1c.ins (hsOs k1c.pre))
abbrev k5a := HL TB.den (hsV k1c.res (hsOs k1c.post))
noncomputable def k4w : Cx TB := ⟨inf, [kd7, kh9, kgr, kkg], [], 4, []⟩
noncomputable def k7x : Code := Try.f25.body.getD .skip
noncomputable def k9r : List ResultVar := Try.f25.results.toList
noncomputable def k15j (o : k5a) : Exit → TSt TB.den → Prop := thenT TB (fun s => ghs TB [] s fun s => WP TB k4w 37 0 (cB (cB (cB (cB k7x)))) .no s (retTQ TB k4w k1c k9r o)) (retTQ TB k4w k1c k9r o)
def k65 : Tm := ⟨[], [], [5, 18, 19, 20], [.one (.d (.sl (.int .u8))), .one (.d (.sl (.st 1))), .one (.d (.int .i64)), .one (.d (.int .i64))], 1⟩
noncomputable def k14k (o : k5a) (nx1 : HL TB.den k65.hs → Prop) : Exit → TSt TB.den → Prop := thenT TB (fun s => k65.mat TB 0 s nx1) (blockT TB 0 (k15j o))
noncomputable def ka4 (o : k5a) (nx1 : HL TB.den k65.hs → Prop) (i : HL TB.den k65.hs) : Prop := WP TB k4w 37 0 (cA (cA (cB (cA (cB (cB (cB k7x))))))) .no (k65.fill TB i) (k14k o nx1)
noncomputable def k16w (o : k5a) : An TB := .nd [] .no [] (.lp [] k65 (ka4 o) fun nx1 => .no)
noncomputable def k155 (o : k5a) : An TB := .nd [] .no [] (.nd [] .no [] (.nd [] (k16w o) [] .no))
noncomputable def kpc (o : k5a) : An TB := .nd [] .no [] (k155 o)
noncomputable def kfv (x : ksf) (o : k5a) : Prop := WPh TB k4w 37 0 k7x (kpc o) (k1c.st TB x) (retTQ TB k4w k1c k9r o)
set_option maxRecDepth 100000 in
theorem k13d (o : k5a) : OblH TB k4w 37 0 k7x (kpc o) (retTQ TB k4w k1c k9r o) :=
  OblH.of_eq (X := (True ∧ ((True ∧ (True ∧ ((True ∧ True) ∧ True))) ∧ (True ∧ ((True ∧ ((∀ nx i, (ka4 o) nx i = (ka4 o) nx i) ∧ ∀ nx1 : HL TB.den k65.hs → Prop, (True ∧ ((True ∧ True) ∧ ((True ∧ (True ∧ ((True ∧ ((True ∧ True) ∧ True)) ∧ True))) ∧ True))))) ∧ (True ∧ True)))))) (by kernel_rfl) ⟨trivial, ⟨⟨trivial, ⟨trivial, ⟨⟨trivial, trivial⟩, trivial⟩⟩⟩, ⟨trivial, ⟨⟨trivial, ⟨fun _ _ => rfl, fun _ => ⟨trivial, ⟨⟨trivial, trivial⟩, ⟨⟨trivial, ⟨trivial, ⟨⟨trivial, ⟨⟨trivial, trivial⟩, trivial⟩⟩, trivial⟩⟩⟩, trivial⟩⟩⟩⟩⟩, ⟨trivial, trivial⟩⟩⟩⟩⟩
set_option maxRecDepth 100000 in
theorem k139 {x : ksf} {o : k5a} (h : kfv x o) : SoundH Try.prog k1c.f ((k1c.args idf x).map (er TB)) ((k1c.obs idf x).map (erO TB)) (er TB (k1c.val idf o)) ((k1c.ops idf o).map (erO TB)) :=
  Con.soundH (c := k1c) (C := k4w) TBok ⟨inf_ok, (all_cons kjs (all_cons kqh (all_cons kop (all_cons kvs all_nil)))), all_nil⟩ mix Try.func25 (show Try.f25.body = some k7x by kernel_rfl) (show Try.f25.ntmps = 37 by kernel_rfl) (show Try.f25.results.toList = k9r by kernel_rfl) rfl h (k13d o)
set_option maxRecDepth 100000 in
theorem k165 {p0 : TBlock} {r0 : List Int} {r1 : Int} (h :
((∀ x ∈ p0.Txs, TR x) ∧ (((validB p0) != 0) = true →
([] : List Int) = r0 ∧ (validB p0) = r1) ∧
(((validB p0) != 0) = false →
(BR p0 ∧ p0.Txs.length ≤ 64) ∧ Md.Loop (((hdrS p0) : List Int), p0.Txs, ((p0.Txs.length : Int) : Int), (0 : Int), ()) (ka4 (r0, r1, ()))))) : kfv (p0.Parent, p0.Height, p0.Miner, p0.Work, p0.Nonce, p0.Txs, ()) (r0, r1, ()) := WPh.of_eq (by kernel_rfl) h
def kp9 (r0 : List Int) (r1 : Int) (k1 : List Int → Int → Prop) (s18 : List TTx) (s19 : Int) (s5 : List Int) (s20 : Int) : Prop :=
(decide (s20 < s19) = true →
(0 ≤ s20) ∧ s20 < (s18.length : Int) ∧ (TR (ix s18 s20)) ∧ let r2 : List Int := (if validE (ix s18 s20) = 0 then encT (ix s18 s20) (ix s18 s20).Proof else [])
(((validE (ix s18 s20)) != 0) = true →
([] : List Int) = r0 ∧ (validE (ix s18 s20)) = r1) ∧
(((validE (ix s18 s20)) != 0) = false →
(s5.length ≤ 68719476736 ∧ r2.length ≤ 4294967295) ∧ k1 ((s5 ++ encB r2) : List Int) (IntKind.i64.wrap (s20 + 1) : Int))) ∧
(decide (s20 < s19) = false →
 s5 = r0 ∧ 0 = r1)
set_option maxRecDepth 100000 in
theorem k13k {r0 : List Int} {r1 : Int} {s18 : List TTx} {s19 : Int} {s5 : List Int} {s20 : Int} (inv : List Int → Int → Prop) (μ : List Int → Int → Nat) (h0 : inv s5 s20) (hs : ∀ (s5 : List Int) (s20 : Int), inv s5 s20 → kp9 r0 r1 (fun s5q s20q => inv s5q s20q ∧ μ s5q s20q < μ s5 s20) s18 s19 s5 s20) : Md.Loop (s5, s18, s19, s20, ()) (ka4 (r0, r1, ())) :=
  ⟨⟨fun s : (List Int) × (List TTx) × Int × Int × Unit => (s.2.1 = s18 ∧ s.2.2.1 = s19) ∧ inv s.1 s.2.2.2.1, fun s : (List Int) × (List TTx) × Int × Int × Unit => μ s.1 s.2.2.2.1, ⟨⟨rfl, rfl⟩, h0⟩, fun (s5p, s18p, s19p, s20p, ()) ⟨⟨eq0, eq1⟩, hi⟩ => by
    have eq0 : s18p = s18 := eq0; subst s18p; have eq1 : s19p = s19 := eq1; subst s19p; exact mpr_of (by kernel_rfl) ((congrArg (fun k => kp9 r0 r1 k s18 s19 s5p s20p) (lpk2 (⟨rfl, rfl⟩ : s18 = s18 ∧ s19 = s19) inv (fun s5q s20q => μ s5q s20q < μ s5p s20p))).mpr (hs s5p s20p hi))⟩⟩
theorem bd25 : Callable Try.prog 25 := ⟨by rw [Try.func25]; kernel_rfl, by rw [Try.func25]; show some _ ≠ some _; decide⟩
theorem kzi (p0 : TBlock) (h : BR p0) : kfv (p0.Parent, p0.Height, p0.Miner, p0.Work, p0.Nonce, p0.Txs, ()) (((if validB p0 = 0 then encBk p0 else []) : List Int), ((validB p0) : Int), ()) := by
  refine k165 ⟨h.t, fun e => ?_, fun e => ?_⟩
  · have e : validB p0 ≠ 0 := by simpa using e
    rw [if_neg e]
    exact ⟨rfl, rfl⟩
  · have e : validB p0 = 0 := by simpa using e
    have v := (kcv p0).1 e
    have hl := v.h.l
    rw [if_pos e]
    refine ⟨⟨h, hl⟩, k13k (fun l i => 0 ≤ i ∧ i ≤ p0.Txs.length ∧ l = hdrS p0 ++ (p0.Txs.take i.toNat).flatMap encTx) (fun _ i => (p0.Txs.length - i).toNat) ⟨by omega, by omega, by simp⟩ ?_⟩
    rintro l i ⟨g0, g1, rfl⟩
    refine ⟨fun hh => ?_, fun hh => ?_⟩
    · have hh := of_decide_eq_true hh
      have hm := ix_mem p0.Txs i g0 hh
      have hv := v.t _ hm
      have vt := (k71 _).1 hv
      have hle := kvx (p0.Txs.take i.toNat) (fun x hx => v.t x (List.mem_of_mem_take hx))
      rw [List.length_take] at hle
      have h3 := vt.enc_len (ix p0.Txs i).Proof
      have h4 := vt.pl
      refine ⟨g0, hh, h.t _ hm, ?_⟩
      rw [if_pos hv]
      refine ⟨fun e2 => ?_, fun _ => ?_⟩
      · rw [hv] at e2; cases e2
      · rw [inc i p0.Txs.length g0 hh (by omega)]
        refine ⟨⟨by rw [List.length_append, kcx]; omega, by omega⟩, ⟨by omega, by omega, ?_⟩, by omega⟩
        rw [ka p0.Txs i g0 hh, List.flatMap_append, List.append_assoc]
        simp [encTx]
    · have hh := of_decide_eq_false hh
      rw [List.take_of_length_le (by omega), e]
      exact ⟨rfl, rfl⟩
noncomputable def knq : Con TB.den := k1c.fnR (fun x => (fun (p0 : TBlock) => BR p0) (TBlock.mk x.1 x.2.1 x.2.2.1 x.2.2.2.1 x.2.2.2.2.1 x.2.2.2.2.2.1)) fun x => ((fun (p0 : TBlock) => ((if validB p0 = 0 then encBk p0 else []) : List Int)) (TBlock.mk x.1 x.2.1 x.2.2.1 x.2.2.2.1 x.2.2.2.2.1 x.2.2.2.2.2.1), (fun (p0 : TBlock) => ((validB p0) : Int)) (TBlock.mk x.1 x.2.1 x.2.2.1 x.2.2.2.1 x.2.2.2.2.1 x.2.2.2.2.2.1), ())
theorem k17a : knq.Ok Try.prog TB := Con.ok_fn k1c bd25 fun x h => k139 (kzi (TBlock.mk x.1 x.2.1 x.2.2.1 x.2.2.2.1 x.2.2.2.2.1 x.2.2.2.2.2.1) h)
end Go.Proofs.Ytnmakgfmimagmaa
namespace Go.Proofs.Ytnmakgfmimagmaa
open Go Go.Bv Go.Cv Go.Md Go.RowKit
def k1y : Con TB.den := Con.mk0 68 [.one (.d (.sl (.int .u64)))] [] (.one (.one (.d (.sl (.int .u64))))) []
abbrev kry := HL TB.den (hsT k1y.ins (hsOs k1y.pre))
abbrev kf3 := HL TB.den (hsV k1y.res (hsOs k1y.post))
noncomputable def ka0 : Cx TB := ⟨inf, [], [], 4, []⟩
noncomputable def kfq : Code := Try.f68.body.getD .skip
noncomputable def kil : List ResultVar := Try.f68.results.toList
noncomputable def kq3 (o : kf3) : An TB := .no
noncomputable def kfr (x : kry) (o : kf3) : Prop := WPh TB ka0 8 0 kfq (kq3 o) (k1y.st TB x) (retTQ TB ka0 k1y kil o)
set_option maxRecDepth 100000 in
theorem k13f (o : kf3) : OblH TB ka0 8 0 kfq (kq3 o) (retTQ TB ka0 k1y kil o) :=
  OblH.of_eq (X := (True ∧ ((True ∧ ((True ∧ True) ∧ True)) ∧ (True ∧ True)))) (by kernel_rfl) ⟨trivial, ⟨⟨trivial, ⟨⟨trivial, trivial⟩, trivial⟩⟩, ⟨trivial, trivial⟩⟩⟩
set_option maxRecDepth 100000 in
theorem k12l {x : kry} {o : kf3} (h : kfr x o) : SoundH Try.prog k1y.f ((k1y.args idf x).map (er TB)) ((k1y.obs idf x).map (erO TB)) (er TB (k1y.val idf o)) ((k1y.ops idf o).map (erO TB)) :=
  Con.soundH (c := k1y) (C := ka0) TBok ⟨inf_ok, all_nil, all_nil⟩ mix Try.func68 (show Try.f68.body = some kfq by kernel_rfl) (show Try.f68.ntmps = 8 by kernel_rfl) (show Try.f68.results.toList = kil by kernel_rfl) rfl h (k13f o)
set_option maxRecDepth 100000 in
theorem k17m {p0 : List Int} {r0 : List Int} (h :
(∀ z4 : Bool, (z4 = true → p0 = []) → (z4 = true →
([] : List Int) = r0) ∧
(z4 = false →
(([] : List Int).length + p0.length) * 8 ≤ 140737488355328 ∧ ([] : List Int).length + p0.length ≤ maxLen ∧ ([] : List Int) ++ p0 = r0))) : kfr (p0, ()) (r0, ()) := WPh.of_eq (by kernel_rfl) h
theorem bd68 : Callable Try.prog 68 := ⟨by rw [Try.func68]; kernel_rfl, by rw [Try.func68]; show some _ ≠ some _; decide⟩
theorem k103 (p0 : List Int) (h : p0.length ≤ 4294967295) : kfr (p0, ()) ((p0 : List Int), ()) := by
  refine k17m fun z hz => ⟨fun h => (hz h).symm, fun h => ⟨by simp; omega, by simp; unfold maxLen; omega, rfl⟩⟩
noncomputable def koa : Con TB.den := k1y.fnR (fun x => (fun (p0 : List Int) => p0.length ≤ 4294967295) x.1) fun x => ((fun (p0 : List Int) => (p0 : List Int)) x.1, ())
theorem k151 : koa.Ok Try.prog TB := Con.ok_fn k1y bd68 fun x h => k12l (k103 x.1 h)
end Go.Proofs.Ytnmakgfmimagmaa
namespace Go.Proofs.Ytnmakgfmimagmaa
open Go Go.Bv Go.Cv Go.Md Go.RowKit
def ku : Con TB.den := Con.mk0 67 [.one (.d (.sl (.st 1)))] [] (.one (.one (.d (.sl (.st 1))))) []
abbrev kmg := HL TB.den (hsT ku.ins (hsOs ku.pre))
abbrev kak := HL TB.den (hsV ku.res (hsOs ku.post))
noncomputable def k79 : Cx TB := ⟨inf, [], [], 4, []⟩
noncomputable def kc2 : Code := Try.f67.body.getD .skip
noncomputable def kdj : List ResultVar := Try.f67.results.toList
noncomputable def kl9 (o : kak) : An TB := .no
noncomputable def kc3 (x : kmg) (o : kak) : Prop := WPh TB k79 8 0 kc2 (kl9 o) (ku.st TB x) (retTQ TB k79 ku kdj o)
set_option maxRecDepth 100000 in
theorem kwe (o : kak) : OblH TB k79 8 0 kc2 (kl9 o) (retTQ TB k79 ku kdj o) :=
  OblH.of_eq (X := (True ∧ ((True ∧ ((True ∧ True) ∧ True)) ∧ (True ∧ True)))) (by kernel_rfl) ⟨trivial, ⟨⟨trivial, ⟨⟨trivial, trivial⟩, trivial⟩⟩, ⟨trivial, trivial⟩⟩⟩
set_option maxRecDepth 100000 in
theorem kwb {x : kmg} {o : kak} (h : kc3 x o) : SoundH Try.prog ku.f ((ku.args idf x).map (er TB)) ((ku.obs idf x).map (erO TB)) (er TB (ku.val idf o)) ((ku.ops idf o).map (erO TB)) :=
  Con.soundH (c := ku) (C := k79) TBok ⟨inf_ok, all_nil, all_nil⟩ mix Try.func67 (show Try.f67.body = some kc2 by kernel_rfl) (show Try.f67.ntmps = 8 by kernel_rfl) (show Try.f67.results.toList = kdj by kernel_rfl) rfl h (kwe o)
set_option maxRecDepth 100000 in
theorem kxn {p0 : List TTx} {r0 : List TTx} (h :
(∀ z4 : Bool, (z4 = true → p0 = []) → (z4 = true →
([] : List TTx) = r0) ∧
(z4 = false →
(([] : List TTx).length + p0.length) * 128 ≤ 140737488355328 ∧ ([] : List TTx).length + p0.length ≤ maxLen ∧ ([] : List TTx) ++ p0 = r0))) : kc3 (p0, ()) (r0, ()) := WPh.of_eq (by kernel_rfl) h
theorem bd67 : Callable Try.prog 67 := ⟨by rw [Try.func67]; kernel_rfl, by rw [Try.func67]; show some _ ≠ some _; decide⟩
theorem kuf (p0 : List TTx) (h : p0.length ≤ 4294967295) : kc3 (p0, ()) ((p0 : List TTx), ()) := by
  refine kxn fun z hz => ⟨fun h => (hz h).symm, fun h => ⟨by simp; omega, by simp; unfold maxLen; omega, rfl⟩⟩
noncomputable def kj0 : Con TB.den := ku.fnR (fun x => (fun (p0 : List TTx) => p0.length ≤ 4294967295) x.1) fun x => ((fun (p0 : List TTx) => (p0 : List TTx)) x.1, ())
theorem kwn : kj0.Ok Try.prog TB := Con.ok_fn ku bd67 fun x h => kwb (kuf x.1 h)
end Go.Proofs.Ytnmakgfmimagmaa
namespace Go.Proofs.Ytnmakgfmimagmaa
open Go Go.Bv Go.Cv Go.Md Go.RowKit
def k1n : Con TB.den := Con.mk0 43 [.agg [.d (.int .u64), .d (.int .i64), .d (.int .u64), .d (.int .u64), .d (.int .u64), .d (.sl (.st 1))]] [] (.one (.agg [.d (.int .u64), .d (.int .i64), .d (.int .u64), .d (.int .u64), .d (.int .u64), .d (.sl (.st 1))])) []
abbrev kv8 := HL TB.den (hsT k1n.ins (hsOs k1n.pre))
abbrev k6l := HL TB.den (hsV k1n.res (hsOs k1n.post))
noncomputable def k58 : Cx TB := ⟨inf, [kj0, koa], [], 4, []⟩
noncomputable def k91 : Code := Try.f43.body.getD .skip
noncomputable def kb7 : List ResultVar := Try.f43.results.toList
noncomputable def k19o (o : k6l) : Exit → TSt TB.den → Prop := thenT TB (fun s => ghs TB [] s fun s => WP TB k58 71 0 (cB (cB (cB k91))) .no s (retTQ TB k58 k1n kb7 o)) (retTQ TB k58 k1n kb7 o)
def k6s : Tm := ⟨[0, 1], [.cells [.d (.int .u64), .d (.int .i64), .d (.int .u64), .d (.int .u64), .d (.int .u64), .d (.sl (.st 1))], .cells [.d (.int .u64), .d (.int .i64), .d (.int .u64), .d (.int .u64), .d (.int .u64), .full (.st 1)]], [1, 2, 12, 13], [.one (.ptr 0 0), .one (.ptr 1 0), .one (.d (.int .i64)), .one (.d (.int .i64))], 2⟩
noncomputable def k18a (o : k6l) (nx1 : HL TB.den k6s.hs → Prop) : Exit → TSt TB.den → Prop := thenT TB (fun s => k6s.mat TB 0 s nx1) (blockT TB 0 (k19o o))
noncomputable def kbe (o : k6l) (nx1 : HL TB.den k6s.hs → Prop) (i : HL TB.den k6s.hs) : Prop := WP TB k58 71 0 (cA (cA (cB (cA (cB (cB k91)))))) .no (k6s.fill TB i) (k18a o nx1)
noncomputable def k19a (o : k6l) : An TB := .nd [] .no [] (.lp [] k6s (kbe o) fun nx1 => .no)
noncomputable def ksu (o : k6l) : An TB := .nd [] .no [] (.nd [] .no [] (.nd [] (k19a o) [] .no))
noncomputable def khe (x : kv8) (o : k6l) : Prop := WPh TB k58 71 0 k91 (ksu o) (k1n.st TB x) (retTQ TB k58 k1n kb7 o)
set_option maxRecDepth 100000 in
theorem k14l (o : k6l) : OblH TB k58 71 0 k91 (ksu o) (retTQ TB k58 k1n kb7 o) :=
  OblH.of_eq (X := (True ∧ (True ∧ ((True ∧ ((∀ nx i, (kbe o) nx i = (kbe o) nx i) ∧ ∀ nx1 : HL TB.den k6s.hs → Prop, (True ∧ ((True ∧ True) ∧ ((True ∧ (True ∧ (True ∧ (True ∧ ((True ∧ True) ∧ True))))) ∧ True))))) ∧ (True ∧ True))))) (by kernel_rfl) ⟨trivial, ⟨trivial, ⟨⟨trivial, ⟨fun _ _ => rfl, fun _ => ⟨trivial, ⟨⟨trivial, trivial⟩, ⟨⟨trivial, ⟨trivial, ⟨trivial, ⟨trivial, ⟨⟨trivial, trivial⟩, trivial⟩⟩⟩⟩⟩, trivial⟩⟩⟩⟩⟩, ⟨trivial, trivial⟩⟩⟩⟩
set_option maxRecDepth 100000 in
theorem k14x {x : kv8} {o : k6l} (h : khe x o) : SoundH Try.prog k1n.f ((k1n.args idf x).map (er TB)) ((k1n.obs idf x).map (erO TB)) (er TB (k1n.val idf o)) ((k1n.ops idf o).map (erO TB)) :=
  Con.soundH (c := k1n) (C := k58) TBok ⟨inf_ok, (all_cons kwn (all_cons k151 all_nil)), all_nil⟩ mix Try.func43 (show Try.f43.body = some k91 by kernel_rfl) (show Try.f43.ntmps = 71 by kernel_rfl) (show Try.f43.results.toList = kb7 by kernel_rfl) rfl h (k14l o)
set_option maxRecDepth 100000 in
theorem k19g {p0 : TBlock} {r0 : TBlock} (h :
((p0.Txs.length ≤ 4294967295) ∧ Md.Loop (((p0.Txs.length : Int) : Int), (0 : Int), p0.Parent, p0.Height, p0.Miner, p0.Work, p0.Nonce, p0.Txs, (0 : Int), (0 : Int), (0 : Int), (0 : Int), (0 : Int), (([] : List TTx) : List TTx), ()) (kbe (r0.Parent, r0.Height, r0.Miner, r0.Work, r0.Nonce, r0.Txs, ())))) : khe (p0.Parent, p0.Height, p0.Miner, p0.Work, p0.Nonce, p0.Txs, ()) (r0.Parent, r0.Height, r0.Miner, r0.Work, r0.Nonce, r0.Txs, ()) := WPh.of_eq (by kernel_rfl) h
def ksn (r0 : TBlock) (k1 : Prop) (s12 : Int) (s13 : Int) (h0_0 : Int) (h0_1 : Int) (h0_2 : Int) (h0_3 : Int) (h0_4 : Int) (h0_5 : List TTx) (h1_0 : Int) (h1_1 : Int) (h1_2 : Int) (h1_3 : Int) (h1_4 : Int) (h1_5 : List TTx) : Prop :=
(decide (s13 < s12) = true →
(0 ≤ s13) ∧ s13 < (h0_5.length : Int) ∧ (((ix h0_5 s13).Marks).length ≤ 4294967295) ∧ False) ∧
(decide (s13 < s12) = false →
 h0_0 = r0.Parent ∧ h0_1 = r0.Height ∧ h0_2 = r0.Miner ∧ h0_3 = r0.Work ∧ h0_4 = r0.Nonce ∧ h0_5 = r0.Txs)
set_option maxRecDepth 100000 in
theorem k15g {r0 : TBlock} {s12 : Int} {s13 : Int} {h0_0 : Int} {h0_1 : Int} {h0_2 : Int} {h0_3 : Int} {h0_4 : Int} {h0_5 : List TTx} {h1_0 : Int} {h1_1 : Int} {h1_2 : Int} {h1_3 : Int} {h1_4 : Int} {h1_5 : List TTx} (inv : Prop) (μ : Nat) (h0 : inv) (hs : inv → ksn r0 (inv ∧ μ < μ) s12 s13 h0_0 h0_1 h0_2 h0_3 h0_4 h0_5 h1_0 h1_1 h1_2 h1_3 h1_4 h1_5) : Md.Loop (s12, s13, h0_0, h0_1, h0_2, h0_3, h0_4, h0_5, h1_0, h1_1, h1_2, h1_3, h1_4, h1_5, ()) (kbe (r0.Parent, r0.Height, r0.Miner, r0.Work, r0.Nonce, r0.Txs, ())) :=
  ⟨⟨fun s : Int × Int × Int × Int × Int × Int × Int × (List TTx) × Int × Int × Int × Int × Int × (List TTx) × Unit => (s.1 = s12 ∧ s.2.1 = s13 ∧ s.2.2.1 = h0_0 ∧ s.2.2.2.1 = h0_1 ∧ s.2.2.2.2.1 = h0_2 ∧ s.2.2.2.2.2.1 = h0_3 ∧ s.2.2.2.2.2.2.1 = h0_4 ∧ s.2.2.2.2.2.2.2.1 = h0_5 ∧ s.2.2.2.2.2.2.2.2.1 = h1_0 ∧ s.2.2.2.2.2.2.2.2.2.1 = h1_1 ∧ s.2.2.2.2.2.2.2.2.2.2.1 = h1_2 ∧ s.2.2.2.2.2.2.2.2.2.2.2.1 = h1_3 ∧ s.2.2.2.2.2.2.2.2.2.2.2.2.1 = h1_4 ∧ s.2.2.2.2.2.2.2.2.2.2.2.2.2.1 = h1_5) ∧ inv, fun s : Int × Int × Int × Int × Int × Int × Int × (List TTx) × Int × Int × Int × Int × Int × (List TTx) × Unit => μ, ⟨⟨rfl, rfl, rfl, rfl, rfl, rfl, rfl, rfl, rfl, rfl, rfl, rfl, rfl, rfl⟩, h0⟩, fun (s12p, s13p, h0_0p, h0_1p, h0_2p, h0_3p, h0_4p, h0_5p, h1_0p, h1_1p, h1_2p, h1_3p, h1_4p, h1_5p, ()) ⟨⟨eq0, eq1, eq2, eq3, eq4, eq5, eq6, eq7, eq8, eq9, eq10, eq11, eq12, eq13⟩, hi⟩ => by
    have eq0 : s12p = s12 := eq0; subst s12p; have eq1 : s13p = s13 := eq1; subst s13p; have eq2 : h0_0p = h0_0 := eq2; subst h0_0p; have eq3 : h0_1p = h0_1 := eq3; subst h0_1p; have eq4 : h0_2p = h0_2 := eq4; subst h0_2p; have eq5 : h0_3p = h0_3 := eq5; subst h0_3p; have eq6 : h0_4p = h0_4 := eq6; subst h0_4p; have eq7 : h0_5p = h0_5 := eq7; subst h0_5p; have eq8 : h1_0p = h1_0 := eq8; subst h1_0p; have eq9 : h1_1p = h1_1 := eq9; subst h1_1p; have eq10 : h1_2p = h1_2 := eq10; subst h1_2p; have eq11 : h1_3p = h1_3 := eq11; subst h1_3p; have eq12 : h1_4p = h1_4 := eq12; subst h1_4p; have eq13 : h1_5p = h1_5 := eq13; subst h1_5p; exact mpr_of (by kernel_rfl) ((congrArg (fun k => ksn r0 k s12 s13 h0_0 h0_1 h0_2 h0_3 h0_4 h0_5 h1_0 h1_1 h1_2 h1_3 h1_4 h1_5) (lpk0 (⟨rfl, rfl, rfl, rfl, rfl, rfl, rfl, rfl, rfl, rfl, rfl, rfl, rfl, rfl⟩ : s12 = s12 ∧ s13 = s13 ∧ h0_0 = h0_0 ∧ h0_1 = h0_1 ∧ h0_2 = h0_2 ∧ h0_3 = h0_3 ∧ h0_4 = h0_4 ∧ h0_5 = h0_5 ∧ h1_0 = h1_0 ∧ h1_1 = h1_1 ∧ h1_2 = h1_2 ∧ h1_3 = h1_3 ∧ h1_4 = h1_4 ∧ h1_5 = h1_5) inv (μ < μ))).mpr (hs hi))⟩⟩
theorem bd43 : Callable Try.prog 43 := ⟨by rw [Try.func43]; kernel_rfl, by rw [Try.func43]; show some _ ≠ some _; decide⟩
theorem k145 (p0 : TBlock) (h : p0.Txs = []) : khe (p0.Parent, p0.Height, p0.Miner, p0.Work, p0.Nonce, p0.Txs, ()) ((p0.Parent : Int), (p0.Height : Int), (p0.Miner : Int), (p0.Work : Int), (p0.Nonce : Int), (p0.Txs : List TTx), ()) := by
  refine k19g ⟨by rw [h]; decide, k15g True 0 trivial fun _ => ⟨fun hh => ?_, fun _ => ⟨rfl, rfl, rfl, rfl, rfl, rfl⟩⟩⟩
  have hh := of_decide_eq_true hh
  rw [h] at hh
  exact absurd hh (by decide)
noncomputable def kq4 : Con TB.den := k1n.fnR (fun x => (fun (p0 : TBlock) => p0.Txs = []) (TBlock.mk x.1 x.2.1 x.2.2.1 x.2.2.2.1 x.2.2.2.2.1 x.2.2.2.2.2.1)) fun x => ((fun (p0 : TBlock) => (p0.Parent : Int)) (TBlock.mk x.1 x.2.1 x.2.2.1 x.2.2.2.1 x.2.2.2.2.1 x.2.2.2.2.2.1), (fun (p0 : TBlock) => (p0.Height : Int)) (TBlock.mk x.1 x.2.1 x.2.2.1 x.2.2.2.1 x.2.2.2.2.1 x.2.2.2.2.2.1), (fun (p0 : TBlock) => (p0.Miner : Int)) (TBlock.mk x.1 x.2.1 x.2.2.1 x.2.2.2.1 x.2.2.2.2.1 x.2.2.2.2.2.1), (fun (p0 : TBlock) => (p0.Work : Int)) (TBlock.mk x.1 x.2.1 x.2.2.1 x.2.2.2.1 x.2.2.2.2.1 x.2.2.2.2.2.1), (fun (p0 : TBlock) => (p0.Nonce : Int)) (TBlock.mk x.1 x.2.1 x.2.2.1 x.2.2.2.1 x.2.2.2.2.1 x.2.2.2.2.2.1), (fun (p0 : TBlock) => (p0.Txs : List TTx)) (TBlock.mk x.1 x.2.1 x.2.2.1 x.2.2.2.1 x.2.2.2.2.1 x.2.2.2.2.2.1), ())
theorem k18m : kq4.Ok Try.prog TB := Con.ok_fn k1n bd43 fun x h => k14x (k145 (TBlock.mk x.1 x.2.1 x.2.2.1 x.2.2.2.1 x.2.2.2.2.1 x.2.2.2.2.2.1) h)
end Go.Proofs.Ytnmakgfmimagmaa
namespace Go.Proofs.Ytnmakgfmimagmaa
open Go Go.Bv Go.Cv Go.Md Go.RowKit
def k1e : Con TB.den := Con.mk0 22 [.agg [.d (.int .u64), .d (.int .i64), .d (.int .u64), .d (.int .u64), .d (.int .u64), .d (.sl (.st 1))], .one (.d (.int .i64))] [] (.tup [.agg [.d (.int .u64), .d (.int .i64), .d (.int .u64), .d (.int .u64), .d (.int .u64), .d (.sl (.st 1))], .one (.d (.bool))]) []
abbrev kxm := HL TB.den (hsT k1e.ins (hsOs k1e.pre))
abbrev k4l := HL TB.den (hsV k1e.res (hsOs k1e.post))
noncomputable def k3p : Cx TB := ⟨inf, [kd7, kan, kc0, kq4], [], 4, []⟩
noncomputable def k5z : Code := Try.f22.body.getD .skip
noncomputable def k7t : List ResultVar := Try.f22.results.toList
noncomputable def k1bo (o : k4l) : Exit → TSt TB.den → Prop := thenT TB (fun s => ghs TB [] s fun s => WP TB k3p 38 0 (cB (cB (cB (cB k5z)))) .no s (retTQ TB k3p k1e k7t o)) (retTQ TB k3p k1e k7t o)
def k7r : Tm := ⟨[0, 1], [.cells [.d (.int .u64), .d (.int .i64), .d (.int .u64), .d (.int .u64), .d (.int .u64), .d (.sl (.st 1))], .cells [.d (.int .u64), .d (.int .i64), .d (.int .u64), .d (.int .u64), .d (.int .u64), .full (.st 1)]], [1, 2, 4, 6], [.one (.d (.int .i64)), .one (.ptr 0 0), .one (.ptr 1 0), .one (.d (.sl (.int .u64)))], 2⟩
noncomputable def k1bj (o : k4l) (nx1 : HL TB.den k7r.hs → Prop) : Exit → TSt TB.den → Prop := thenT TB (fun s => k7r.mat TB 0 s nx1) (blockT TB 0 (k1bo o))
noncomputable def kcf (o : k4l) (nx1 : HL TB.den k7r.hs → Prop) (i : HL TB.den k7r.hs) : Prop := WP TB k3p 38 0 (cA (cA (cA (cB (cB (cB k5z)))))) .no (k7r.fill TB i) (k1bj o nx1)
noncomputable def kuy (o : k4l) : An TB := .nd [] (.lp [] k7r (kcf o) fun nx1 => .no) [] .no
noncomputable def k1cf (o : k4l) : Exit → TSt TB.den → Prop := thenT TB (fun s => ghs TB [] s fun s => WP TB k3p 38 0 (cB (cB k5z)) (.nd [] .no [] (kuy o)) s (retTQ TB k3p k1e k7t o)) (retTQ TB k3p k1e k7t o)
def kf9 : Tm := ⟨[0, 1], [.cells [.d (.int .u64), .d (.int .i64), .d (.int .u64), .d (.int .u64), .d (.int .u64), .d (.sl (.st 1))], .cells [.d (.int .u64), .d (.int .i64), .d (.int .u64), .d (.int .u64), .d (.int .u64), .full (.st 1)]], [1, 2, 4, 13], [.one (.d (.int .i64)), .one (.ptr 0 0), .one (.ptr 1 0), .one (.d (.bool))], 2⟩
noncomputable def krn (o : k4l) (i : HL TB.den kf9.hs) : Prop := ghs TB [] (kf9.fill TB i) fun s => WP TB k3p 38 0 (cB (cA (cB k5z))) .no s (k1cf o)
structure k9d (o : k4l) (i : HL TB.den kf9.hs) : Prop where
  h : krn o i
noncomputable def k191 (o : k4l) : An TB := .nd [] (.jn kf9 (k9d o) [] .no [] .no) [] (.nd [] .no [] (kuy o))
noncomputable def kus (o : k4l) : An TB := .nd [] .no [] (k191 o)
noncomputable def ki3 (x : kxm) (o : k4l) : Prop := WPh TB k3p 38 0 k5z (kus o) (k1e.st TB x) (retTQ TB k3p k1e k7t o)
set_option maxRecDepth 100000 in
theorem k18b (o : k4l) : OblH TB k3p 38 0 k5z (kus o) (retTQ TB k3p k1e k7t o) :=
  OblH.of_eq (X := (True ∧ ((True ∧ (∀ i, (k9d o) i = (krn o) i) ∧ ((True ∧ True) ∧ True)) ∧ (True ∧ (((∀ nx i, (kcf o) nx i = (kcf o) nx i) ∧ ∀ nx1 : HL TB.den k7r.hs → Prop, ((True ∧ (True ∧ True)) ∧ (((True ∧ ((True ∧ True) ∧ True)) ∧ ((True ∧ (True ∧ True)) ∧ True)) ∧ True))) ∧ (True ∧ True)))))) (by kernel_rfl) ⟨trivial, ⟨⟨trivial, fun _ => propext ⟨fun h => h.1, fun h => ⟨h⟩⟩, ⟨⟨trivial, trivial⟩, trivial⟩⟩, ⟨trivial, ⟨⟨fun _ _ => rfl, fun _ => ⟨⟨trivial, ⟨trivial, trivial⟩⟩, ⟨⟨⟨trivial, ⟨⟨trivial, trivial⟩, trivial⟩⟩, ⟨⟨trivial, ⟨trivial, trivial⟩⟩, trivial⟩⟩, trivial⟩⟩⟩, ⟨trivial, trivial⟩⟩⟩⟩⟩
set_option maxRecDepth 100000 in
theorem k183 {x : kxm} {o : k4l} (h : ki3 x o) : SoundH Try.prog k1e.f ((k1e.args idf x).map (er TB)) ((k1e.obs idf x).map (erO TB)) (er TB (k1e.val idf o)) ((k1e.ops idf o).map (erO TB)) :=
  Con.soundH (c := k1e) (C := k3p) TBok ⟨inf_ok, (all_cons kjs (all_cons khy (all_cons kiy (all_cons k18m all_nil)))), all_nil⟩ mix Try.func22 (show Try.f22.body = some k5z by kernel_rfl) (show Try.f22.ntmps = 38 by kernel_rfl) (show Try.f22.results.toList = k7t by kernel_rfl) rfl h (k18b o)
set_option maxRecDepth 100000 in
theorem k1dr {p0 : TBlock} {p1 : Int} {r0 : TBlock} {r1 : Bool} (h :
((decide (p1 ≤ 0) = true →
 k9d (r0.Parent, r0.Height, r0.Miner, r0.Work, r0.Nonce, r0.Txs, r1, ()) (p1, true, p0.Parent, p0.Height, p0.Miner, p0.Work, p0.Nonce, p0.Txs, (0 : Int), (0 : Int), (0 : Int), (0 : Int), (0 : Int), (([] : List TTx) : List TTx), ())) ∧
(decide (p1 ≤ 0) = false →
(∀ x ∈ p0.Txs, TR x) ∧ k9d (r0.Parent, r0.Height, r0.Miner, r0.Work, r0.Nonce, r0.Txs, r1, ()) (p1, (((validB p0) != 0) : Bool), p0.Parent, p0.Height, p0.Miner, p0.Work, p0.Nonce, p0.Txs, (0 : Int), (0 : Int), (0 : Int), (0 : Int), (0 : Int), (([] : List TTx) : List TTx), ())))) : ki3 (p0.Parent, p0.Height, p0.Miner, p0.Work, p0.Nonce, p0.Txs, p1, ()) (r0.Parent, r0.Height, r0.Miner, r0.Work, r0.Nonce, r0.Txs, r1, ()) := WPh.of_eq (by kernel_rfl) h
set_option maxRecDepth 100000 in
theorem k12s {r0 : TBlock} {r1 : Bool} {s1 : Int} {s13 : Bool} {h0_0 : Int} {h0_1 : Int} {h0_2 : Int} {h0_3 : Int} {h0_4 : Int} {h0_5 : List TTx} {h1_0 : Int} {h1_1 : Int} {h1_2 : Int} {h1_3 : Int} {h1_4 : Int} {h1_5 : List TTx} (h :
((s13 = true →
 0 = r0.Parent ∧ 0 = r0.Height ∧ 0 = r0.Miner ∧ 0 = r0.Work ∧ 0 = r0.Nonce ∧ ([] : List TTx) = r0.Txs ∧ false = r1) ∧
(s13 = false →
((∀ x ∈ (TBlock.mk h0_0 h0_1 h0_2 h0_3 h0_4 h0_5).Txs, TR x) ∧ (TBlock.mk h0_0 h0_1 h0_2 h0_3 h0_4 h0_5).Txs.length ≤ 64) ∧ let r2 : List Int := ((TBlock.mk h0_0 h0_1 h0_2 h0_3 h0_4 h0_5).Txs.map idS)
 Md.Loop (s1, r2, h0_0, h0_1, h0_2, h0_3, h0_4, h0_5, h1_0, h1_1, h1_2, h1_3, h1_4, h1_5, ()) (kcf (r0.Parent, r0.Height, r0.Miner, r0.Work, r0.Nonce, r0.Txs, r1, ()))))) : k9d (r0.Parent, r0.Height, r0.Miner, r0.Work, r0.Nonce, r0.Txs, r1, ()) (s1, s13, h0_0, h0_1, h0_2, h0_3, h0_4, h0_5, h1_0, h1_1, h1_2, h1_3, h1_4, h1_5, ()) := ⟨mpr_of (by kernel_rfl) h⟩
def kvq (r0 : TBlock) (r1 : Bool) (k1 : Int → Int → Prop) (s6 : List Int) (h0_0 : Int) (h0_1 : Int) (h0_2 : Int) (h0_3 : Int) (h0_5 : List TTx) (h1_0 : Int) (h1_1 : Int) (h1_2 : Int) (h1_3 : Int) (h1_4 : Int) (h1_5 : List TTx) (s1 : Int) (h0_4 : Int) : Prop :=
(decide (0 < s1) = true →
(BR (TBlock.mk h0_0 h0_1 h0_2 h0_3 h0_4 h0_5) ∧ (TBlock.mk h0_0 h0_1 h0_2 h0_3 h0_4 h0_5).Txs.length ≤ 64 ∧ Us s6 ∧ s6.length ≤ 64) ∧ let r3 : Int := (hashB 15 (hdrS (TBlock.mk h0_0 h0_1 h0_2 h0_3 h0_4 h0_5) ++ s6.flatMap (dig 8)))
(h0_3 ≠ 0) ∧ (((Int.tmod r3 h0_3) == 0) = true →
((TBlock.mk h0_0 h0_1 h0_2 h0_3 h0_4 h0_5).Txs = []) ∧ h0_0 = r0.Parent ∧ h0_1 = r0.Height ∧ h0_2 = r0.Miner ∧ h0_3 = r0.Work ∧ h0_4 = r0.Nonce ∧ h0_5 = r0.Txs ∧ true = r1) ∧
(((Int.tmod r3 h0_3) == 0) = false →
((h0_4 == 18446744073709551615) = true →
 0 = r0.Parent ∧ 0 = r0.Height ∧ 0 = r0.Miner ∧ 0 = r0.Work ∧ 0 = r0.Nonce ∧ ([] : List TTx) = r0.Txs ∧ false = r1) ∧
((h0_4 == 18446744073709551615) = false →
 k1 (IntKind.i64.wrap (s1 - 1) : Int) (IntKind.u64.wrap (h0_4 + 1) : Int)))) ∧
(decide (0 < s1) = false →
 0 = r0.Parent ∧ 0 = r0.Height ∧ 0 = r0.Miner ∧ 0 = r0.Work ∧ 0 = r0.Nonce ∧ ([] : List TTx) = r0.Txs ∧ false = r1)
set_option maxRecDepth 100000 in
theorem k19p {r0 : TBlock} {r1 : Bool} {s6 : List Int} {h0_0 : Int} {h0_1 : Int} {h0_2 : Int} {h0_3 : Int} {h0_5 : List TTx} {h1_0 : Int} {h1_1 : Int} {h1_2 : Int} {h1_3 : Int} {h1_4 : Int} {h1_5 : List TTx} {s1 : Int} {h0_4 : Int} (inv : Int → Int → Prop) (μ : Int → Int → Nat) (h0 : inv s1 h0_4) (hs : ∀ (s1 : Int) (h0_4 : Int), inv s1 h0_4 → kvq r0 r1 (fun s1q h0_4q => inv s1q h0_4q ∧ μ s1q h0_4q < μ s1 h0_4) s6 h0_0 h0_1 h0_2 h0_3 h0_5 h1_0 h1_1 h1_2 h1_3 h1_4 h1_5 s1 h0_4) : Md.Loop (s1, s6, h0_0, h0_1, h0_2, h0_3, h0_4, h0_5, h1_0, h1_1, h1_2, h1_3, h1_4, h1_5, ()) (kcf (r0.Parent, r0.Height, r0.Miner, r0.Work, r0.Nonce, r0.Txs, r1, ())) :=
  ⟨⟨fun s : Int × (List Int) × Int × Int × Int × Int × Int × (List TTx) × Int × Int × Int × Int × Int × (List TTx) × Unit => (s.2.1 = s6 ∧ s.2.2.1 = h0_0 ∧ s.2.2.2.1 = h0_1 ∧ s.2.2.2.2.1 = h0_2 ∧ s.2.2.2.2.2.1 = h0_3 ∧ s.2.2.2.2.2.2.2.1 = h0_5 ∧ s.2.2.2.2.2.2.2.2.1 = h1_0 ∧ s.2.2.2.2.2.2.2.2.2.1 = h1_1 ∧ s.2.2.2.2.2.2.2.2.2.2.1 = h1_2 ∧ s.2.2.2.2.2.2.2.2.2.2.2.1 = h1_3 ∧ s.2.2.2.2.2.2.2.2.2.2.2.2.1 = h1_4 ∧ s.2.2.2.2.2.2.2.2.2.2.2.2.2.1 = h1_5) ∧ inv s.1 s.2.2.2.2.2.2.1, fun s : Int × (List Int) × Int × Int × Int × Int × Int × (List TTx) × Int × Int × Int × Int × Int × (List TTx) × Unit => μ s.1 s.2.2.2.2.2.2.1, ⟨⟨rfl, rfl, rfl, rfl, rfl, rfl, rfl, rfl, rfl, rfl, rfl, rfl⟩, h0⟩, fun (s1p, s6p, h0_0p, h0_1p, h0_2p, h0_3p, h0_4p, h0_5p, h1_0p, h1_1p, h1_2p, h1_3p, h1_4p, h1_5p, ()) ⟨⟨eq0, eq1, eq2, eq3, eq4, eq5, eq6, eq7, eq8, eq9, eq10, eq11⟩, hi⟩ => by
    have eq0 : s6p = s6 := eq0; subst s6p; have eq1 : h0_0p = h0_0 := eq1; subst h0_0p; have eq2 : h0_1p = h0_1 := eq2; subst h0_1p; have eq3 : h0_2p = h0_2 := eq3; subst h0_2p; have eq4 : h0_3p = h0_3 := eq4; subst h0_3p; have eq5 : h0_5p = h0_5 := eq5; subst h0_5p; have eq6 : h1_0p = h1_0 := eq6; subst h1_0p; have eq7 : h1_1p = h1_1 := eq7; subst h1_1p; have eq8 : h1_2p = h1_2 := eq8; subst h1_2p; have eq9 : h1_3p = h1_3 := eq9; subst h1_3p; have eq10 : h1_4p = h1_4 := eq10; subst h1_4p; have eq11 : h1_5p = h1_5 := eq11; subst h1_5p; exact mpr_of (by kernel_rfl) ((congrArg (fun k => kvq r0 r1 k s6 h0_0 h0_1 h0_2 h0_3 h0_5 h1_0 h1_1 h1_2 h1_3 h1_4 h1_5 s1p h0_4p) (lpk2 (⟨rfl, rfl, rfl, rfl, rfl, rfl, rfl, rfl, rfl, rfl, rfl, rfl⟩ : s6 = s6 ∧ h0_0 = h0_0 ∧ h0_1 = h0_1 ∧ h0_2 = h0_2 ∧ h0_3 = h0_3 ∧ h0_5 = h0_5 ∧ h1_0 = h1_0 ∧ h1_1 = h1_1 ∧ h1_2 = h1_2 ∧ h1_3 = h1_3 ∧ h1_4 = h1_4 ∧ h1_5 = h1_5) inv (fun s1q h0_4q => μ s1q h0_4q < μ s1p h0_4p))).mpr (hs s1p h0_4p hi))⟩⟩
theorem bd22 : Callable Try.prog 22 := ⟨by rw [Try.func22]; kernel_rfl, by rw [Try.func22]; show some _ ≠ some _; decide⟩
theorem k15b (p0 : TBlock) (p1 : Int) (h : BR p0 ∧ p0.Txs = [] ∧ p1 ≤ 9223372036854775807) : ki3 (p0.Parent, p0.Height, p0.Miner, p0.Work, p0.Nonce, p0.Txs, p1, ()) ((((mineS p0 p1).b).Parent : Int), (((mineS p0 p1).b).Height : Int), (((mineS p0 p1).b).Miner : Int), (((mineS p0 p1).b).Work : Int), (((mineS p0 p1).b).Nonce : Int), (((mineS p0 p1).b).Txs : List TTx), (((mineS p0 p1).ok) : Bool), ()) := by
  obtain ⟨hr, ht, hp⟩ := h
  have j1 : ∀ s, (s = true → mineS p0 p1 = ⟨zeroB, false⟩) → (s = false → 0 < p1 ∧ validB p0 = 0) → k9d ((mineS p0 p1).b.Parent, (mineS p0 p1).b.Height, (mineS p0 p1).b.Miner, (mineS p0 p1).b.Work, (mineS p0 p1).b.Nonce, (mineS p0 p1).b.Txs, (mineS p0 p1).ok, ()) (p1, s, p0.Parent, p0.Height, p0.Miner, p0.Work, p0.Nonce, p0.Txs, (0 : Int), (0 : Int), (0 : Int), (0 : Int), (0 : Int), (([] : List TTx) : List TTx), ()) := by
    intro s h1 h2
    refine k12s (r0 := (mineS p0 p1).b) ⟨fun e => ?_, fun e => ?_⟩
    · rw [h1 e]
      exact ⟨rfl, rfl, rfl, rfl, rfl, rfl, rfl⟩
    · obtain ⟨q1, q2⟩ := h2 e
      have v := (kcv p0).1 q2
      have hl := v.h.l
      have hw := v.h.w0
      simp only [ku5]
      refine ⟨⟨hr.t, hl⟩, ?_⟩
      have es : mineS p0 p1 = mineN p1.toNat p0 := if_neg (by omega)
      refine k19p (r0 := (mineS p0 p1).b) (fun k n => 0 ≤ k ∧ k ≤ p1 ∧ U64 n ∧ mineS p0 p1 = mineN k.toNat ⟨p0.Parent, p0.Height, p0.Miner, p0.Work, n, p0.Txs⟩) (fun k _ => k.toNat) ⟨by omega, by omega, hr.n, es⟩ ?_
      rintro k n ⟨g0, g1, g2, g3⟩
      refine ⟨fun hh => ?_, fun hh => ?_⟩
      · have hh := of_decide_eq_true hh
        have hb : BR ⟨p0.Parent, p0.Height, p0.Miner, p0.Work, n, p0.Txs⟩ := ⟨hr.p, hr.m, hr.w, g2, hr.h, hr.t⟩
        have hu : Us (p0.Txs.map idS) := fun x hx => by obtain ⟨t, _, rfl⟩ := List.mem_map.1 hx; exact idS_u64 t
        have e1 : k.toNat = (k - 1).toNat + 1 := by omega
        rw [e1] at g3
        refine ⟨⟨hb, hl, hu, by simp; omega⟩, by omega, fun e2 => ?_, fun e2 => ?_⟩
        · have e2 : Int.tmod (hashB 15 (namS ⟨p0.Parent, p0.Height, p0.Miner, p0.Work, n, p0.Txs⟩)) p0.Work = 0 := by simpa [namS] using e2
          have g3 : mineS p0 p1 = ⟨⟨p0.Parent, p0.Height, p0.Miner, p0.Work, n, p0.Txs⟩, true⟩ := by rw [g3]; exact if_pos e2
          rw [g3]
          exact ⟨ht, rfl, rfl, rfl, rfl, rfl, rfl, rfl⟩
        · have e2 : ¬ Int.tmod (hashB 15 (namS ⟨p0.Parent, p0.Height, p0.Miner, p0.Work, n, p0.Txs⟩)) p0.Work = 0 := by simpa [namS] using e2
          refine ⟨fun e3 => ?_, fun e3 => ?_⟩
          · have e3 : n = 18446744073709551615 := by simpa using e3
            have g3 : mineS p0 p1 = ⟨zeroB, false⟩ := by rw [g3]; exact (if_neg e2).trans (if_pos e3)
            rw [g3]
            exact ⟨rfl, rfl, rfl, rfl, rfl, rfl, rfl⟩
          · have e3 : ¬ n = 18446744073709551615 := by simpa using e3
            have g3 : mineS p0 p1 = mineN (k - 1).toNat ⟨p0.Parent, p0.Height, p0.Miner, p0.Work, n + 1, p0.Txs⟩ := by rw [g3]; exact (if_neg e2).trans (if_neg e3)
            rw [wi (k - 1) (by omega) (by omega), wu (n + 1) (by omega) (by omega)]
            exact ⟨⟨by omega, by omega, by omega, g3⟩, by omega⟩
      · have hh := of_decide_eq_false hh
        have g3 : mineS p0 p1 = ⟨zeroB, false⟩ := by rw [g3, show k.toNat = 0 by omega]; rfl
        rw [g3]
        exact ⟨rfl, rfl, rfl, rfl, rfl, rfl, rfl⟩
  refine k1dr (r0 := (mineS p0 p1).b) ⟨fun e => ?_, fun e => ?_⟩
  · have e := of_decide_eq_true e
    exact j1 _ (fun _ => if_pos (.inl e)) (fun h => by cases h)
  · have e := of_decide_eq_false e
    refine ⟨hr.t, j1 _ (fun h => if_pos (.inr (by simpa using h))) (fun h => ⟨by omega, by simpa using h⟩)⟩
noncomputable def krh : Con TB.den := k1e.fnR (fun x => (fun (p0 : TBlock) (p1 : Int) => BR p0 ∧ p0.Txs = [] ∧ p1 ≤ 9223372036854775807) (TBlock.mk x.1 x.2.1 x.2.2.1 x.2.2.2.1 x.2.2.2.2.1 x.2.2.2.2.2.1) x.2.2.2.2.2.2.1) fun x => ((fun (p0 : TBlock) (p1 : Int) => (((mineS p0 p1).b).Parent : Int)) (TBlock.mk x.1 x.2.1 x.2.2.1 x.2.2.2.1 x.2.2.2.2.1 x.2.2.2.2.2.1) x.2.2.2.2.2.2.1, (fun (p0 : TBlock) (p1 : Int) => (((mineS p0 p1).b).Height : Int)) (TBlock.mk x.1 x.2.1 x.2.2.1 x.2.2.2.1 x.2.2.2.2.1 x.2.2.2.2.2.1) x.2.2.2.2.2.2.1, (fun (p0 : TBlock) (p1 : Int) => (((mineS p0 p1).b).Miner : Int)) (TBlock.mk x.1 x.2.1 x.2.2.1 x.2.2.2.1 x.2.2.2.2.1 x.2.2.2.2.2.1) x.2.2.2.2.2.2.1, (fun (p0 : TBlock) (p1 : Int) => (((mineS p0 p1).b).Work : Int)) (TBlock.mk x.1 x.2.1 x.2.2.1 x.2.2.2.1 x.2.2.2.2.1 x.2.2.2.2.2.1) x.2.2.2.2.2.2.1, (fun (p0 : TBlock) (p1 : Int) => (((mineS p0 p1).b).Nonce : Int)) (TBlock.mk x.1 x.2.1 x.2.2.1 x.2.2.2.1 x.2.2.2.2.1 x.2.2.2.2.2.1) x.2.2.2.2.2.2.1, (fun (p0 : TBlock) (p1 : Int) => (((mineS p0 p1).b).Txs : List TTx)) (TBlock.mk x.1 x.2.1 x.2.2.1 x.2.2.2.1 x.2.2.2.2.1 x.2.2.2.2.2.1) x.2.2.2.2.2.2.1, (fun (p0 : TBlock) (p1 : Int) => (((mineS p0 p1).ok) : Bool)) (TBlock.mk x.1 x.2.1 x.2.2.1 x.2.2.2.1 x.2.2.2.2.1 x.2.2.2.2.2.1) x.2.2.2.2.2.2.1, ())
theorem k1cu : krh.Ok Try.prog TB := Con.ok_fn k1e bd22 fun x h => k183 (k15b (TBlock.mk x.1 x.2.1 x.2.2.1 x.2.2.2.1 x.2.2.2.2.1 x.2.2.2.2.2.1) x.2.2.2.2.2.2.1 h)
end Go.Proofs.Ytnmakgfmimagmaa
namespace Go.Proofs.Ytnmakgfmimagmaa
open Go Go.Bv Go.Cv Go.Md Go.RowKit
def k23 : Con TB.den := Con.mk0 33 [.one (.d (.int .u64)), .one (.d (.int .i64))] [] (.one (.one (.d (.sl (.int .u8))))) []
abbrev kx2 := HL TB.den (hsT k23.ins (hsOs k23.pre))
abbrev k66 := HL TB.den (hsV k23.res (hsOs k23.post))
noncomputable def k5s : Cx TB := ⟨inf, [], [], 4, []⟩
noncomputable def k9q : Code := Try.f33.body.getD .skip
noncomputable def kcn : List ResultVar := Try.f33.results.toList
noncomputable def k1ds (o : k66) : Exit → TSt TB.den → Prop := thenT TB (fun s => ghs TB [] s fun s => WP TB k5s 21 0 (cB (cB (cB k9q))) .no s (retTQ TB k5s k23 kcn o)) (retTQ TB k5s k23 kcn o)
def k7m : Tm := ⟨[0], [.tip (.int .u8)], [0, 1, 5, 6], [.one (.d (.int .u64)), .one (.d (.int .i64)), .one (.own 0), .one (.d (.int .i64))], 1⟩
noncomputable def k1bz (o : k66) (nx1 : HL TB.den k7m.hs → Prop) : Exit → TSt TB.den → Prop := thenT TB (fun s => k7m.mat TB 0 s nx1) (blockT TB 0 (k1ds o))
noncomputable def kcg (o : k66) (nx1 : HL TB.den k7m.hs → Prop) (i : HL TB.den k7m.hs) : Prop := WP TB k5s 21 0 (cA (cA (cB (cA (cB (cB k9q)))))) .no (k7m.fill TB i) (k1bz o nx1)
noncomputable def k1e3 (o : k66) : An TB := .lp [.tok 5 (.int .u8)] k7m (kcg o) fun nx1 => .no
noncomputable def k1cw (o : k66) : An TB := .nd [] .no [] (.nd [] (.nd [] .no [] (k1e3 o)) [] .no)
noncomputable def kvb (o : k66) : An TB := .nd [] .no [] (k1cw o)
noncomputable def ki0 (x : kx2) (o : k66) : Prop := WPh TB k5s 21 0 k9q (kvb o) (k23.st TB x) (retTQ TB k5s k23 kcn o)
set_option maxRecDepth 100000 in
theorem k185 (o : k66) : OblH TB k5s 21 0 k9q (kvb o) (retTQ TB k5s k23 kcn o) :=
  OblH.of_eq (X := (True ∧ (True ∧ ((True ∧ ((∀ nx i, (kcg o) nx i = (kcg o) nx i) ∧ ∀ nx1 : HL TB.den k7m.hs → Prop, ((True ∧ (True ∧ True)) ∧ ((True ∧ True) ∧ True)))) ∧ (True ∧ True))))) (by kernel_rfl) ⟨trivial, ⟨trivial, ⟨⟨trivial, ⟨fun _ _ => rfl, fun _ => ⟨⟨trivial, ⟨trivial, trivial⟩⟩, ⟨⟨trivial, trivial⟩, trivial⟩⟩⟩⟩, ⟨trivial, trivial⟩⟩⟩⟩
set_option maxRecDepth 100000 in
theorem k196 {x : kx2} {o : k66} (h : ki0 x o) : SoundH Try.prog k23.f ((k23.args idf x).map (er TB)) ((k23.obs idf x).map (erO TB)) (er TB (k23.val idf o)) ((k23.ops idf o).map (erO TB)) :=
  Con.soundH (c := k23) (C := k5s) TBok ⟨inf_ok, all_nil, all_nil⟩ mix Try.func33 (show Try.f33.body = some k9q by kernel_rfl) (show Try.f33.ntmps = 21 by kernel_rfl) (show Try.f33.results.toList = kcn by kernel_rfl) rfl h (k185 o)
set_option maxRecDepth 100000 in
theorem k1do {p0 : Int} {p1 : Int} {r0 : List Int} (h :
((([] : List Int) = ([] : List Int)) ∧ Md.Loop (p0, p1, (0 : Int), (([] : List Int) : List Int), ()) (kcg (r0, ())))) : ki0 (p0, p1, ()) (r0, ()) := WPh.of_eq (by kernel_rfl) h
def kv0 (r0 : List Int) (k1 : Int → Int → List Int → Prop) (s1 : Int) (s0 : Int) (s6 : Int) (g0 : List Int) : Prop :=
(decide (s6 < s1) = true →
 g0.length = g0.length ∧ (g0.length + [IntKind.u8.wrap (Int.tmod s0 256)].length) * 1 ≤ 140737488355328 ∧ g0.length + [IntKind.u8.wrap (Int.tmod s0 256)].length ≤ maxLen ∧ let v1 : List Int := g0 ++ [IntKind.u8.wrap (Int.tmod s0 256)]
(v1 = v1) ∧ k1 (IntKind.u64.wrap (Int.tdiv s0 256) : Int) (IntKind.i64.wrap (s6 + 1) : Int) v1) ∧
(decide (s6 < s1) = false →
 g0 = r0)
set_option maxRecDepth 100000 in
theorem k189 {r0 : List Int} {s1 : Int} {s0 : Int} {s6 : Int} {g0 : List Int} (inv : Int → Int → List Int → Prop) (μ : Int → Int → List Int → Nat) (h0 : inv s0 s6 g0) (hs : ∀ (s0 : Int) (s6 : Int) (g0 : List Int), inv s0 s6 g0 → kv0 r0 (fun s0q s6q g0q => inv s0q s6q g0q ∧ μ s0q s6q g0q < μ s0 s6 g0) s1 s0 s6 g0) : Md.Loop (s0, s1, s6, g0, ()) (kcg (r0, ())) :=
  ⟨⟨fun s : Int × Int × Int × (List Int) × Unit => (s.2.1 = s1) ∧ inv s.1 s.2.2.1 s.2.2.2.1, fun s : Int × Int × Int × (List Int) × Unit => μ s.1 s.2.2.1 s.2.2.2.1, ⟨rfl, h0⟩, fun (s0p, s1p, s6p, g0p, ()) ⟨eq0, hi⟩ => by
    have eq0 : s1p = s1 := eq0; subst s1p; exact mpr_of (by kernel_rfl) ((congrArg (fun k => kv0 r0 k s1 s0p s6p g0p) (lpk3 (rfl : s1 = s1) inv (fun s0q s6q g0q => μ s0q s6q g0q < μ s0p s6p g0p))).mpr (hs s0p s6p g0p hi))⟩⟩
theorem bd33 : Callable Try.prog 33 := ⟨by rw [Try.func33]; kernel_rfl, by rw [Try.func33]; show some _ ≠ some _; decide⟩
theorem k14w (p0 : Int) (p1 : Int) (h : U64 p0 ∧ 0 ≤ p1 ∧ p1 ≤ 8) : ki0 (p0, p1, ()) (((dig p1.toNat p0) : List Int), ()) := by
  obtain ⟨h1, h2, h3⟩ := h
  refine k1do ⟨rfl, k189 (fun n i g => 0 ≤ i ∧ i ≤ p1 ∧ U64 n ∧ n = p0 / 256 ^ i.toNat ∧ g = dig i.toNat p0) (fun _ i _ => (p1 - i).toNat) ⟨by omega, by omega, h1, by simp, by simp [dig]⟩ ?_⟩
  rintro n i g ⟨g0, g1, g2, g3, rfl⟩
  refine ⟨fun h => ?_, fun h => ?_⟩
  · have h := of_decide_eq_true h
    rw [inc i p1 g0 h (by omega), tmod_nn _ _ g2.1, tdiv_nn _ _ g2.1, u8w, wu (n / 256) (by omega) (by omega)]
    refine ⟨rfl, ?_, ?_, rfl, ⟨by omega, by omega, ⟨by omega, by omega⟩, ?_, ?_⟩, by omega⟩
    · simp; omega
    · simp; unfold maxLen; omega
    · rw [g3, show (i + 1).toNat = i.toNat + 1 by omega, Int.ediv_ediv_of_nonneg (Int.le_of_lt (kf0 _)), Int.pow_succ]
    · rw [show (i + 1).toNat = i.toNat + 1 by omega, ku8, g3]
      congr 2
      omega
  · have h := of_decide_eq_false h
    rw [show i = p1 by omega]
noncomputable def kf8 : Con TB.den := k23.fnR (fun x => (fun (p0 : Int) (p1 : Int) => U64 p0 ∧ 0 ≤ p1 ∧ p1 ≤ 8) x.1 x.2.1) fun x => ((fun (p0 : Int) (p1 : Int) => ((dig p1.toNat p0) : List Int)) x.1 x.2.1, ())
theorem klx : kf8.Ok Try.prog TB := Con.ok_fn k23 bd33 fun x h => k196 (k14w x.1 x.2.1 h)
end Go.Proofs.Ytnmakgfmimagmaa
namespace Go.Proofs.Ytnmakgfmimagmaa
open Go Go.Bv Go.Cv Go.Md Go.RowKit
def k1b : Con TB.den := Con.mk0 33 [.one (.d (.int .u64)), .one (.d (.int .i64))] [] (.one (.one (.own 0))) [.tip (.int .u8)]
abbrev ks2 := HL TB.den (hsT k1b.ins (hsOs k1b.pre))
abbrev k55 := HL TB.den (hsV k1b.res (hsOs k1b.post))
noncomputable def k4y : Cx TB := ⟨inf, [], [], 4, []⟩
noncomputable def k80 : Code := Try.f33.body.getD .skip
noncomputable def k9n : List ResultVar := Try.f33.results.toList
noncomputable def k14b (o : k55) : Exit → TSt TB.den → Prop := thenT TB (fun s => ghs TB [] s fun s => WP TB k4y 21 0 (cB (cB (cB k80))) .no s (retTQ TB k4y k1b k9n o)) (retTQ TB k4y k1b k9n o)
def k61 : Tm := ⟨[0], [.tip (.int .u8)], [0, 1, 5, 6], [.one (.d (.int .u64)), .one (.d (.int .i64)), .one (.own 0), .one (.d (.int .i64))], 1⟩
noncomputable def k14p (o : k55) (nx1 : HL TB.den k61.hs → Prop) : Exit → TSt TB.den → Prop := thenT TB (fun s => k61.mat TB 0 s nx1) (blockT TB 0 (k14b o))
noncomputable def k9k (o : k55) (nx1 : HL TB.den k61.hs → Prop) (i : HL TB.den k61.hs) : Prop := WP TB k4y 21 0 (cA (cA (cB (cA (cB (cB k80)))))) .no (k61.fill TB i) (k14p o nx1)
noncomputable def k15x (o : k55) : An TB := .lp [.tok 5 (.int .u8)] k61 (k9k o) fun nx1 => .no
noncomputable def k17d (o : k55) : An TB := .nd [] .no [] (.nd [] (.nd [] .no [] (k15x o)) [] .no)
noncomputable def kps (o : k55) : An TB := .nd [] .no [] (k17d o)
noncomputable def kfx (x : ks2) (o : k55) : Prop := WPh TB k4y 21 0 k80 (kps o) (k1b.st TB x) (retTQ TB k4y k1b k9n o)
set_option maxRecDepth 100000 in
theorem k12y (o : k55) : OblH TB k4y 21 0 k80 (kps o) (retTQ TB k4y k1b k9n o) :=
  OblH.of_eq (X := (True ∧ (True ∧ ((True ∧ ((∀ nx i, (k9k o) nx i = (k9k o) nx i) ∧ ∀ nx1 : HL TB.den k61.hs → Prop, ((True ∧ (True ∧ True)) ∧ ((True ∧ True) ∧ True)))) ∧ (True ∧ True))))) (by kernel_rfl) ⟨trivial, ⟨trivial, ⟨⟨trivial, ⟨fun _ _ => rfl, fun _ => ⟨⟨trivial, ⟨trivial, trivial⟩⟩, ⟨⟨trivial, trivial⟩, trivial⟩⟩⟩⟩, ⟨trivial, trivial⟩⟩⟩⟩
set_option maxRecDepth 100000 in
theorem k12x {x : ks2} {o : k55} (h : kfx x o) : SoundH Try.prog k1b.f ((k1b.args idf x).map (er TB)) ((k1b.obs idf x).map (erO TB)) (er TB (k1b.val idf o)) ((k1b.ops idf o).map (erO TB)) :=
  Con.soundH (c := k1b) (C := k4y) TBok ⟨inf_ok, all_nil, all_nil⟩ mix Try.func33 (show Try.f33.body = some k80 by kernel_rfl) (show Try.f33.ntmps = 21 by kernel_rfl) (show Try.f33.results.toList = k9n by kernel_rfl) rfl h (k12y o)
set_option maxRecDepth 100000 in
theorem k163 {p0 : Int} {p1 : Int} {e0 : List Int} (h :
((([] : List Int) = ([] : List Int)) ∧ Md.Loop (p0, p1, (0 : Int), (([] : List Int) : List Int), ()) (k9k (e0, ())))) : kfx (p0, p1, ()) (e0, ()) := WPh.of_eq (by kernel_rfl) h
def kqe (e0 : List Int) (k1 : Int → Int → List Int → Prop) (s1 : Int) (s0 : Int) (s6 : Int) (g0 : List Int) : Prop :=
(decide (s6 < s1) = true →
 g0.length = g0.length ∧ (g0.length + [IntKind.u8.wrap (Int.tmod s0 256)].length) * 1 ≤ 140737488355328 ∧ g0.length + [IntKind.u8.wrap (Int.tmod s0 256)].length ≤ maxLen ∧ let v1 : List Int := g0 ++ [IntKind.u8.wrap (Int.tmod s0 256)]
(v1 = v1) ∧ k1 (IntKind.u64.wrap (Int.tdiv s0 256) : Int) (IntKind.i64.wrap (s6 + 1) : Int) v1) ∧
(decide (s6 < s1) = false →
(g0 = g0) ∧ g0 = e0)
set_option maxRecDepth 100000 in
theorem k12k {e0 : List Int} {s1 : Int} {s0 : Int} {s6 : Int} {g0 : List Int} (inv : Int → Int → List Int → Prop) (μ : Int → Int → List Int → Nat) (h0 : inv s0 s6 g0) (hs : ∀ (s0 : Int) (s6 : Int) (g0 : List Int), inv s0 s6 g0 → kqe e0 (fun s0q s6q g0q => inv s0q s6q g0q ∧ μ s0q s6q g0q < μ s0 s6 g0) s1 s0 s6 g0) : Md.Loop (s0, s1, s6, g0, ()) (k9k (e0, ())) :=
  ⟨⟨fun s : Int × Int × Int × (List Int) × Unit => (s.2.1 = s1) ∧ inv s.1 s.2.2.1 s.2.2.2.1, fun s : Int × Int × Int × (List Int) × Unit => μ s.1 s.2.2.1 s.2.2.2.1, ⟨rfl, h0⟩, fun (s0p, s1p, s6p, g0p, ()) ⟨eq0, hi⟩ => by
    have eq0 : s1p = s1 := eq0; subst s1p; exact mpr_of (by kernel_rfl) ((congrArg (fun k => kqe e0 k s1 s0p s6p g0p) (lpk3 (rfl : s1 = s1) inv (fun s0q s6q g0q => μ s0q s6q g0q < μ s0p s6p g0p))).mpr (hs s0p s6p g0p hi))⟩⟩
theorem k104 (p0 : Int) (p1 : Int) (h : U64 p0 ∧ 0 ≤ p1 ∧ p1 ≤ 8) : kfx (p0, p1, ()) (((dig p1.toNat p0) : List Int), ()) := by
  obtain ⟨h1, h2, h3⟩ := h
  refine k163 ⟨rfl, k12k (fun n i g => 0 ≤ i ∧ i ≤ p1 ∧ U64 n ∧ n = p0 / 256 ^ i.toNat ∧ g = dig i.toNat p0) (fun _ i _ => (p1 - i).toNat) ⟨by omega, by omega, h1, by simp, by simp [dig]⟩ ?_⟩
  rintro n i g ⟨g0, g1, g2, g3, rfl⟩
  refine ⟨fun h => ?_, fun h => ?_⟩
  · have h := of_decide_eq_true h
    rw [inc i p1 g0 h (by omega), tmod_nn _ _ g2.1, tdiv_nn _ _ g2.1, u8w, wu (n / 256) (by omega) (by omega)]
    refine ⟨rfl, ?_, ?_, rfl, ⟨by omega, by omega, ⟨by omega, by omega⟩, ?_, ?_⟩, by omega⟩
    · simp; omega
    · simp; unfold maxLen; omega
    · rw [g3, show (i + 1).toNat = i.toNat + 1 by omega, Int.ediv_ediv_of_nonneg (Int.le_of_lt (kf0 _)), Int.pow_succ]
    · rw [show (i + 1).toNat = i.toNat + 1 by omega, ku8, g3]
      congr 2
      omega
  · have h := of_decide_eq_false h
    exact ⟨rfl, by rw [show i = p1 by omega]⟩
noncomputable def kbz : Con TB.den := k1b.fnR (fun x => (fun (p0 : Int) (p1 : Int) => U64 p0 ∧ 0 ≤ p1 ∧ p1 ≤ 8) x.1 x.2.1) fun x => ((fun (p0 : Int) (p1 : Int) => ((dig p1.toNat p0) : List Int)) x.1 x.2.1, ())
theorem kii : kbz.Ok Try.prog TB := Con.ok_fn k1b bd33 fun x h => k12x (k104 x.1 x.2.1 h)
end Go.Proofs.Ytnmakgfmimagmaa
namespace Go.Proofs.Ytnmakgfmimagmaa
open Go Go.Bv Go.Cv Go.Md Go.RowKit
def k45 : Con TB.den := Con.mk0 35 [.one (.d (.int .i64))] [] (.one (.one (.d (.sl (.int .u8))))) []
abbrev k1a6 := HL TB.den (hsT k45.ins (hsOs k45.pre))
abbrev khj := HL TB.den (hsV k45.res (hsOs k45.post))
noncomputable def kbw : Cx TB := ⟨inf, [kf8], [], 4, []⟩
noncomputable def ki2 : Code := Try.f35.body.getD .skip
noncomputable def kmt : List ResultVar := Try.f35.results.toList
def kkx : Tm := ⟨[], [], [0], [.one (.d (.int .i64))], 0⟩
noncomputable def k11h (o : khj) (i : HL TB.den kkx.hs) : Prop := ghs TB [] (kkx.fill TB i) fun s => WP TB kbw 12 0 (cB (cB ki2)) .no s (retTQ TB kbw k45 kmt o)
structure kc9 (o : khj) (i : HL TB.den kkx.hs) : Prop where
  h : k11h o i
noncomputable def k16c (o : khj) : An TB := .nd [] .no [] (.jn kkx (kc9 o) [] .no [] .no)
noncomputable def kor (x : k1a6) (o : khj) : Prop := WPh TB kbw 12 0 ki2 (k16c o) (k45.st TB x) (retTQ TB kbw k45 kmt o)
set_option maxRecDepth 100000 in
theorem k1jc (o : khj) : OblH TB kbw 12 0 ki2 (k16c o) (retTQ TB kbw k45 kmt o) :=
  OblH.of_eq (X := (True ∧ ((True ∧ (True ∧ True)) ∧ (∀ i, (kc9 o) i = (k11h o) i) ∧ (True ∧ True)))) (by kernel_rfl) ⟨trivial, ⟨⟨trivial, ⟨trivial, trivial⟩⟩, fun _ => propext ⟨fun h => h.1, fun h => ⟨h⟩⟩, ⟨trivial, trivial⟩⟩⟩
set_option maxRecDepth 100000 in
theorem k1iq {x : k1a6} {o : khj} (h : kor x o) : SoundH Try.prog k45.f ((k45.args idf x).map (er TB)) ((k45.obs idf x).map (erO TB)) (er TB (k45.val idf o)) ((k45.ops idf o).map (erO TB)) :=
  Con.soundH (c := k45) (C := kbw) TBok ⟨inf_ok, (all_cons klx all_nil), all_nil⟩ mix Try.func35 (show Try.f35.body = some ki2 by kernel_rfl) (show Try.f35.ntmps = 12 by kernel_rfl) (show Try.f35.results.toList = kmt by kernel_rfl) rfl h (k1jc o)
set_option maxRecDepth 100000 in
theorem k1kd {p0 : Int} {r0 : List Int} (h :
((decide (p0 < 0) = true →
 kc9 (r0, ()) ((0 : Int), ())) ∧
(decide (p0 < 0) = false →
(decide (4294967296 ≤ p0) = true →
 kc9 (r0, ()) ((0 : Int), ())) ∧
(decide (4294967296 ≤ p0) = false →
 kc9 (r0, ()) (p0, ()))))) : kor (p0, ()) (r0, ()) := WPh.of_eq (by kernel_rfl) h
set_option maxRecDepth 100000 in
theorem k1cr {r0 : List Int} {s0 : Int} (h :
((U64 (IntKind.u64.wrap s0) ∧ 0 ≤ (4 : Int) ∧ (4 : Int) ≤ 8) ∧ let r1 : List Int := (dig (4 : Int).toNat (IntKind.u64.wrap s0))
 r1 = r0)) : kc9 (r0, ()) (s0, ()) := ⟨mpr_of (by kernel_rfl) h⟩
theorem bd35 : Callable Try.prog 35 := ⟨by rw [Try.func35]; kernel_rfl, by rw [Try.func35]; show some _ ≠ some _; decide⟩
theorem k1g8 (p0 : Int) : kor (p0, ()) (((dig 4 (len4 p0)) : List Int), ()) := by
  have j : ∀ n, 0 ≤ n → n ≤ 4294967295 → len4 p0 = n → kc9 ((dig 4 (len4 p0) : List Int), ()) (n, ()) := by
    intro n h0 h1 e
    refine k1cr ?_
    rw [wu n (by omega) (by omega), e]
    exact ⟨⟨⟨h0, by omega⟩, by omega⟩, rfl⟩
  refine k1kd ⟨fun h => j 0 (by omega) (by omega) ?_, fun h => ⟨fun h' => j 0 (by omega) (by omega) ?_, fun h' => j p0 ?_ ?_ ?_⟩⟩
  · have h := of_decide_eq_true h; exact if_pos (.inl h)
  · have h' := of_decide_eq_true h'; exact if_pos (.inr (by omega))
  · have h := of_decide_eq_false h; omega
  · have h' := of_decide_eq_false h'; omega
  · have h := of_decide_eq_false h; have h' := of_decide_eq_false h'; exact len4_in ⟨by omega, by omega⟩
noncomputable def kqj : Con TB.den := k45.totR fun x => ((fun (p0 : Int) => ((dig 4 (len4 p0)) : List Int)) x.1, ())
theorem k169 : kqj.Ok Try.prog TB := Con.ok_tot k45 bd35 fun x => k1iq (k1g8 x.1)
end Go.Proofs.Ytnmakgfmimagmaa
namespace Go.Proofs.Ytnmakgfmimagmaa
open Go Go.Bv Go.Cv Go.Md Go.RowKit
def k2x : Con TB.den := Con.mk0 35 [.one (.d (.int .i64))] [] (.one (.one (.own 0))) [.tip (.int .u8)]
abbrev k10u := HL TB.den (hsT k2x.ins (hsOs k2x.pre))
abbrev kcy := HL TB.den (hsV k2x.res (hsOs k2x.post))
noncomputable def k8r : Cx TB := ⟨inf, [kbz], [], 4, []⟩
noncomputable def kf7 : Code := Try.f35.body.getD .skip
noncomputable def kit : List ResultVar := Try.f35.results.toList
def kgp : Tm := ⟨[], [], [0], [.one (.d (.int .i64))], 0⟩
noncomputable def kvo (o : kcy) (i : HL TB.den kgp.hs) : Prop := ghs TB [] (kgp.fill TB i) fun s => WP TB k8r 12 0 (cB (cB kf7)) .no s (retTQ TB k8r k2x kit o)
structure k9b (o : kcy) (i : HL TB.den kgp.hs) : Prop where
  h : kvo o i
noncomputable def kx3 (o : kcy) : An TB := .nd [] .no [] (.jn kgp (k9b o) [] .no [] .no)
noncomputable def kjb (x : k10u) (o : kcy) : Prop := WPh TB k8r 12 0 kf7 (kx3 o) (k2x.st TB x) (retTQ TB k8r k2x kit o)
set_option maxRecDepth 100000 in
theorem k1cm (o : kcy) : OblH TB k8r 12 0 kf7 (kx3 o) (retTQ TB k8r k2x kit o) :=
  OblH.of_eq (X := (True ∧ ((True ∧ (True ∧ True)) ∧ (∀ i, (k9b o) i = (kvo o) i) ∧ (True ∧ True)))) (by kernel_rfl) ⟨trivial, ⟨⟨trivial, ⟨trivial, trivial⟩⟩, fun _ => propext ⟨fun h => h.1, fun h => ⟨h⟩⟩, ⟨trivial, trivial⟩⟩⟩
set_option maxRecDepth 100000 in
theorem k1ba {x : k10u} {o : kcy} (h : kjb x o) : SoundH Try.prog k2x.f ((k2x.args idf x).map (er TB)) ((k2x.obs idf x).map (erO TB)) (er TB (k2x.val idf o)) ((k2x.ops idf o).map (erO TB)) :=
  Con.soundH (c := k2x) (C := k8r) TBok ⟨inf_ok, (all_cons kii all_nil), all_nil⟩ mix Try.func35 (show Try.f35.body = some kf7 by kernel_rfl) (show Try.f35.ntmps = 12 by kernel_rfl) (show Try.f35.results.toList = kit by kernel_rfl) rfl h (k1cm o)
set_option maxRecDepth 100000 in
theorem k1f7 {p0 : Int} {e0 : List Int} (h :
((decide (p0 < 0) = true →
 k9b (e0, ()) ((0 : Int), ())) ∧
(decide (p0 < 0) = false →
(decide (4294967296 ≤ p0) = true →
 k9b (e0, ()) ((0 : Int), ())) ∧
(decide (4294967296 ≤ p0) = false →
 k9b (e0, ()) (p0, ()))))) : kjb (p0, ()) (e0, ()) := WPh.of_eq (by kernel_rfl) h
set_option maxRecDepth 100000 in
theorem k15p {e0 : List Int} {s0 : Int} (h :
((U64 (IntKind.u64.wrap s0) ∧ 0 ≤ (4 : Int) ∧ (4 : Int) ≤ 8) ∧ let r1 : List Int := (dig (4 : Int).toNat (IntKind.u64.wrap s0))
(r1 = r1) ∧ r1 = e0)) : k9b (e0, ()) (s0, ()) := ⟨mpr_of (by kernel_rfl) h⟩
theorem k19y (p0 : Int) : kjb (p0, ()) (((dig 4 (len4 p0)) : List Int), ()) := by
  have j : ∀ n, 0 ≤ n → n ≤ 4294967295 → len4 p0 = n → k9b ((dig 4 (len4 p0) : List Int), ()) (n, ()) := by
    intro n h0 h1 e
    refine k15p ?_
    rw [wu n (by omega) (by omega), e]
    exact ⟨⟨⟨h0, by omega⟩, by omega⟩, by trivial, rfl⟩
  refine k1f7 ⟨fun h => j 0 (by omega) (by omega) ?_, fun h => ⟨fun h' => j 0 (by omega) (by omega) ?_, fun h' => j p0 ?_ ?_ ?_⟩⟩
  · have h := of_decide_eq_true h; exact if_pos (.inl h)
  · have h' := of_decide_eq_true h'; exact if_pos (.inr (by omega))
  · have h := of_decide_eq_false h; omega
  · have h' := of_decide_eq_false h'; omega
  · have h := of_decide_eq_false h; have h' := of_decide_eq_false h'; exact len4_in ⟨by omega, by omega⟩
noncomputable def klq : Con TB.den := k2x.totR fun x => ((fun (p0 : Int) => ((dig 4 (len4 p0)) : List Int)) x.1, ())
theorem kx7 : klq.Ok Try.prog TB := Con.ok_tot k2x bd35 fun x => k1ba (k19y x.1)
end Go.Proofs.Ytnmakgfmimagmaa
namespace Go.Proofs.Ytnmakgfmimagmaa
open Go Go.Bv Go.Cv Go.Md Go.RowKit
def k3g : Con TB.den := Con.mk0 36 [.one (.d (.sl (.int .u8)))] [] (.one (.one (.d (.sl (.int .u8))))) []
abbrev k11g := HL TB.den (hsT k3g.ins (hsOs k3g.pre))
abbrev kkq := HL TB.den (hsV k3g.res (hsOs k3g.post))
noncomputable def kei : Cx TB := ⟨inf, [klq], [], 4, []⟩
noncomputable def kk2 : Code := Try.f36.body.getD .skip
noncomputable def kn1 : List ResultVar := Try.f36.results.toList
noncomputable def kwp (o : kkq) : An TB := .no
noncomputable def kjd (x : k11g) (o : kkq) : Prop := WPh TB kei 8 0 kk2 (kwp o) (k3g.st TB x) (retTQ TB kei k3g kn1 o)
set_option maxRecDepth 100000 in
theorem k1ct (o : kkq) : OblH TB kei 8 0 kk2 (kwp o) (retTQ TB kei k3g kn1 o) :=
  OblH.of_eq (X := (True ∧ (True ∧ True))) (by kernel_rfl) ⟨trivial, ⟨trivial, trivial⟩⟩
set_option maxRecDepth 100000 in
theorem k1cp {x : k11g} {o : kkq} (h : kjd x o) : SoundH Try.prog k3g.f ((k3g.args idf x).map (er TB)) ((k3g.obs idf x).map (erO TB)) (er TB (k3g.val idf o)) ((k3g.ops idf o).map (erO TB)) :=
  Con.soundH (c := k3g) (C := kei) TBok ⟨inf_ok, (all_cons kx7 all_nil), all_nil⟩ mix Try.func36 (show Try.f36.body = some kk2 by kernel_rfl) (show Try.f36.ntmps = 8 by kernel_rfl) (show Try.f36.results.toList = kn1 by kernel_rfl) rfl h (k1ct o)
set_option maxRecDepth 100000 in
theorem k1hs {p0 : List Int} {r0 : List Int} (h :
((dig 4 (len4 (p0.length : Int))).length = (dig 4 (len4 (p0.length : Int))).length ∧ ((dig 4 (len4 (p0.length : Int))).length + p0.length) * 1 ≤ 140737488355328 ∧ (dig 4 (len4 (p0.length : Int))).length + p0.length ≤ maxLen ∧ (dig 4 (len4 (p0.length : Int))) ++ p0 = r0)) : kjd (p0, ()) (r0, ()) := WPh.of_eq (by kernel_rfl) h
theorem bd36 : Callable Try.prog 36 := ⟨by rw [Try.func36]; kernel_rfl, by rw [Try.func36]; show some _ ≠ some _; decide⟩
theorem k18u (p0 : List Int) (h : p0.length ≤ 4294967295) : kjd (p0, ()) (((encB p0) : List Int), ()) := by
  refine k1hs ⟨by trivial, ?_, ?_, rfl⟩
  · simp; omega
  · simp; unfold maxLen; omega
noncomputable def kv9 : Con TB.den := k3g.fnR (fun x => (fun (p0 : List Int) => p0.length ≤ 4294967295) x.1) fun x => ((fun (p0 : List Int) => ((encB p0) : List Int)) x.1, ())
theorem k1fm : kv9.Ok Try.prog TB := Con.ok_fn k3g bd36 fun x h => k1cp (k18u x.1 h)
end Go.Proofs.Ytnmakgfmimagmaa
namespace Go.Proofs.Ytnmakgfmimagmaa
open Go Go.Bv Go.Cv Go.Md Go.RowKit
def k33 : Con TB.den := Con.mk0 34 [.one (.d (.sl (.int .u64)))] [] (.one (.one (.d (.sl (.int .u8))))) []
abbrev k16a := HL TB.den (hsT k33.ins (hsOs k33.pre))
abbrev k9t := HL TB.den (hsV k33.res (hsOs k33.post))
noncomputable def k74 : Cx TB := ⟨inf, [klq, kf8], [], 4, []⟩
noncomputable def kce : Code := Try.f34.body.getD .skip
noncomputable def kgj : List ResultVar := Try.f34.results.toList
noncomputable def k1jf (o : k9t) : Exit → TSt TB.den → Prop := thenT TB (fun s => ghs TB [] s fun s => WP TB k74 22 0 (cB (cB (cB kce))) .no s (retTQ TB k74 k33 kgj o)) (retTQ TB k74 k33 kgj o)
def kad : Tm := ⟨[0], [.tip (.int .u8)], [0, 3, 4], [.one (.d (.sl (.int .u64))), .one (.own 0), .one (.d (.int .i64))], 1⟩
noncomputable def k1i1 (o : k9t) (nx1 : HL TB.den kad.hs → Prop) : Exit → TSt TB.den → Prop := thenT TB (fun s => kad.mat TB 0 s nx1) (blockT TB 0 (k1jf o))
noncomputable def kgl (o : k9t) (nx1 : HL TB.den kad.hs → Prop) (i : HL TB.den kad.hs) : Prop := WP TB k74 22 0 (cA (cA (cB (cA (cB (cB kce)))))) .no (kad.fill TB i) (k1i1 o nx1)
noncomputable def k1i8 (o : k9t) : An TB := .nd [] .no [] (.lp [] kad (kgl o) fun nx1 => .no)
noncomputable def k10z (o : k9t) : An TB := .nd [] .no [] (.nd [] .no [] (.nd [] (k1i8 o) [] .no))
noncomputable def kly (x : k16a) (o : k9t) : Prop := WPh TB k74 22 0 kce (k10z o) (k33.st TB x) (retTQ TB k74 k33 kgj o)
set_option maxRecDepth 100000 in
theorem k1eq (o : k9t) : OblH TB k74 22 0 kce (k10z o) (retTQ TB k74 k33 kgj o) :=
  OblH.of_eq (X := (True ∧ (True ∧ ((True ∧ ((∀ nx i, (kgl o) nx i = (kgl o) nx i) ∧ ∀ nx1 : HL TB.den kad.hs → Prop, ((True ∧ (True ∧ True)) ∧ (True ∧ True)))) ∧ (True ∧ True))))) (by kernel_rfl) ⟨trivial, ⟨trivial, ⟨⟨trivial, ⟨fun _ _ => rfl, fun _ => ⟨⟨trivial, ⟨trivial, trivial⟩⟩, ⟨trivial, trivial⟩⟩⟩⟩, ⟨trivial, trivial⟩⟩⟩⟩
set_option maxRecDepth 100000 in
theorem k1em {x : k16a} {o : k9t} (h : kly x o) : SoundH Try.prog k33.f ((k33.args idf x).map (er TB)) ((k33.obs idf x).map (erO TB)) (er TB (k33.val idf o)) ((k33.ops idf o).map (erO TB)) :=
  Con.soundH (c := k33) (C := k74) TBok ⟨inf_ok, (all_cons kx7 (all_cons klx all_nil)), all_nil⟩ mix Try.func34 (show Try.f34.body = some kce by kernel_rfl) (show Try.f34.ntmps = 22 by kernel_rfl) (show Try.f34.results.toList = kgj by kernel_rfl) rfl h (k1eq o)
set_option maxRecDepth 100000 in
theorem k1i6 {p0 : List Int} {r0 : List Int} (h :
(((dig 4 (len4 (p0.length : Int))) = (dig 4 (len4 (p0.length : Int)))) ∧ Md.Loop (p0, (0 : Int), ((dig 4 (len4 (p0.length : Int))) : List Int), ()) (kgl (r0, ())))) : kly (p0, ()) (r0, ()) := WPh.of_eq (by kernel_rfl) h
def k11p (r0 : List Int) (k1 : Int → List Int → Prop) (s0 : List Int) (s4 : Int) (g0 : List Int) : Prop :=
(decide (s4 < (s0.length : Int)) = true →
(0 ≤ s4) ∧ s4 < (s0.length : Int) ∧ (U64 (ix s0 s4) ∧ 0 ≤ (8 : Int) ∧ (8 : Int) ≤ 8) ∧ g0.length = g0.length ∧ (g0.length + (dig (8 : Int).toNat (ix s0 s4)).length) * 1 ≤ 140737488355328 ∧ g0.length + (dig (8 : Int).toNat (ix s0 s4)).length ≤ maxLen ∧ (g0 ++ (dig (8 : Int).toNat (ix s0 s4)) = g0 ++ (dig (8 : Int).toNat (ix s0 s4))) ∧ k1 (IntKind.i64.wrap (s4 + 1) : Int) (g0 ++ (dig (8 : Int).toNat (ix s0 s4)) : List Int)) ∧
(decide (s4 < (s0.length : Int)) = false →
 g0 = r0)
set_option maxRecDepth 100000 in
theorem k1eb {r0 : List Int} {s0 : List Int} {s4 : Int} {g0 : List Int} (inv : Int → List Int → Prop) (μ : Int → List Int → Nat) (h0 : inv s4 g0) (hs : ∀ (s4 : Int) (g0 : List Int), inv s4 g0 → k11p r0 (fun s4q g0q => inv s4q g0q ∧ μ s4q g0q < μ s4 g0) s0 s4 g0) : Md.Loop (s0, s4, g0, ()) (kgl (r0, ())) :=
  ⟨⟨fun s : (List Int) × Int × (List Int) × Unit => (s.1 = s0) ∧ inv s.2.1 s.2.2.1, fun s : (List Int) × Int × (List Int) × Unit => μ s.2.1 s.2.2.1, ⟨rfl, h0⟩, fun (s0p, s4p, g0p, ()) ⟨eq0, hi⟩ => by
    have eq0 : s0p = s0 := eq0; subst s0p; exact mpr_of (by kernel_rfl) ((congrArg (fun k => k11p r0 k s0 s4p g0p) (lpk2 (rfl : s0 = s0) inv (fun s4q g0q => μ s4q g0q < μ s4p g0p))).mpr (hs s4p g0p hi))⟩⟩
theorem bd34 : Callable Try.prog 34 := ⟨by rw [Try.func34]; kernel_rfl, by rw [Try.func34]; show some _ ≠ some _; decide⟩
theorem k1dn (p0 : List Int) (h : Us p0 ∧ p0.length ≤ 4294967295) : kly (p0, ()) (((encL p0) : List Int), ()) := by
  obtain ⟨h1, h2⟩ := h
  refine k1i6 ⟨rfl, k1eb (fun i g => 0 ≤ i ∧ i ≤ p0.length ∧ g = dig 4 (len4 p0.length) ++ (p0.take i.toNat).flatMap (dig 8)) (fun i _ => (p0.length - i).toNat) ⟨by omega, by omega, by simp⟩ ?_⟩
  rintro i g ⟨g0, g1, rfl⟩
  refine ⟨fun h => ?_, fun h => ?_⟩
  · have h := of_decide_eq_true h
    have hx := h1 _ (ix_mem p0 i g0 h)
    rw [inc i p0.length g0 h (by omega)]
    have hlen : (dig 4 (len4 p0.length) ++ (p0.take i.toNat).flatMap (dig 8)).length ≤ 4 + 8 * p0.length := by simp only [List.length_append, k19, k63, List.length_take]; omega
    refine ⟨g0, h, ⟨hx, by omega⟩, rfl, ?_, ?_, rfl, ⟨by omega, by omega, ?_⟩, by omega⟩
    · rw [k19]; omega
    · rw [k19]; unfold maxLen; omega
    · rw [ka p0 i g0 h, List.flatMap_append, List.append_assoc]
      simp
  · have h := of_decide_eq_false h
    rw [List.take_of_length_le (by omega)]
    rfl
noncomputable def kwl : Con TB.den := k33.fnR (fun x => (fun (p0 : List Int) => Us p0 ∧ p0.length ≤ 4294967295) x.1) fun x => ((fun (p0 : List Int) => ((encL p0) : List Int)) x.1, ())
theorem k1j5 : kwl.Ok Try.prog TB := Con.ok_fn k33 bd34 fun x h => k1em (k1dn x.1 h)
end Go.Proofs.Ytnmakgfmimagmaa
namespace Go.Proofs.Ytnmakgfmimagmaa
open Go Go.Bv Go.Cv Go.Md Go.RowKit
def k1r : Con TB.den := Con.mk0 16 [.agg [.d (.int .u64), .d (.sl (.int .u64)), .d (.sl (.st 0)), .d (.int .u64), .d (.int .u64), .d (.int .u64), .d (.int .u64), .d (.int .u64), .d (.int .i64), .d (.sl (.int .u8))]] [] (.one (.one (.d (.sl (.int .u8))))) []
abbrev k11b := HL TB.den (hsT k1r.ins (hsOs k1r.pre))
abbrev k25 := HL TB.den (hsV k1r.res (hsOs k1r.post))
noncomputable def k2y : Cx TB := ⟨inf, [kbz, kwl, kqj, kv9], [], 4, []⟩
noncomputable def k4q : Code := Try.f16.body.getD .skip
noncomputable def k96 : List ResultVar := Try.f16.results.toList
noncomputable def k1gw (o : k25) : Exit → TSt TB.den → Prop := thenT TB (fun s => ghs TB [] s fun s => WP TB k2y 97 0 (cB (cB (cB (cB (cB (cB (cB k4q))))))) .no s (retTQ TB k2y k1r k96 o)) (retTQ TB k2y k1r k96 o)
def k98 : Tm := ⟨[0, 1], [.cells [.d (.int .u64), .d (.sl (.int .u64)), .d (.sl (.st 0)), .d (.int .u64), .d (.int .u64), .d (.int .u64), .d (.int .u64), .d (.int .u64), .d (.int .i64), .d (.sl (.int .u8))], .tip (.int .u8)], [1, 3, 8, 9], [.one (.ptr 0 0), .one (.own 1), .one (.full (.int .u64)), .one (.d (.int .i64))], 3⟩
noncomputable def k1fg (o : k25) (nx3 : HL TB.den k98.hs → Prop) : Exit → TSt TB.den → Prop := thenT TB (fun s => k98.mat TB 0 s nx3) (blockT TB 4 (k1gw o))
noncomputable def kej (o : k25) (nx3 : HL TB.den k98.hs → Prop) (i : HL TB.den k98.hs) : Prop := WP TB k2y 97 0 (cA (cA (cB (cA (cB (cB (cB (cB (cB (cB k4q)))))))))) .no (k98.fill TB i) (k1fg o nx3)
noncomputable def kwm (o : k25) : An TB := .nd [] .no [] (.lp [] k98 (kej o) fun nx3 => .no)
noncomputable def k1he (o : k25) : Exit → TSt TB.den → Prop := thenT TB (fun s => ghs TB [] s fun s => WP TB k2y 97 0 (cB (cB (cB (cB (cB k4q))))) (.nd [] .no [] (.nd [] (kwm o) [] .no)) s (retTQ TB k2y k1r k96 o)) (retTQ TB k2y k1r k96 o)
def k2z : Tm := ⟨[0, 1], [.cells [.d (.int .u64), .d (.sl (.int .u64)), .d (.sl (.st 0)), .d (.int .u64), .d (.int .u64), .d (.int .u64), .d (.int .u64), .d (.int .u64), .d (.int .i64), .d (.sl (.int .u8))], .tip (.int .u8)], [1, 3, 4], [.one (.ptr 0 0), .one (.own 1), .one (.d (.int .i64))], 2⟩
noncomputable def ko1 (o : k25) (nx2 : HL TB.den k2z.hs → Prop) : Exit → TSt TB.den → Prop := thenT TB (fun s => k2z.mat TB 0 s nx2) (blockT TB 0 (k1he o))
noncomputable def kxo (o : k25) (nx2 : HL TB.den k2z.hs → Prop) : Exit → TSt TB.den → Prop := thenT TB (fun s => ghs TB [] s fun s => WP TB k2y 97 0 (cB (cB (cA (cA (cB (cA (cB (cB (cB (cB k4q)))))))))) .no s (ko1 o nx2)) (ko1 o nx2)
noncomputable def k1gi (o : k25) (nx2 : HL TB.den k2z.hs → Prop) : Exit → TSt TB.den → Prop := thenT TB (fun s => ghs TB [] s fun s => WP TB k2y 97 0 (cB (cB (cB (cA (cA (cB (cA (cA (cB (cA (cB (cB (cB (cB k4q)))))))))))))) .no s (blockT TB 1 (kxo o nx2))) (blockT TB 1 (kxo o nx2))
def k8x : Tm := ⟨[0, 1, 2], [.cells [.d (.int .u64), .d (.sl (.int .u64)), .d (.sl (.st 0)), .d (.int .u64), .d (.int .u64), .d (.int .u64), .d (.int .u64), .d (.int .u64), .d (.int .i64), .d (.sl (.int .u8))], .tip (.int .u8), .cells [.d (.int .u64), .d (.int .u64), .d (.int .u64), .d (.sl (.int .u64))]], [1, 3, 4, 5, 6, 7], [.one (.ptr 0 0), .one (.own 1), .one (.d (.int .i64)), .one (.ptr 2 0), .one (.full (.int .u64)), .one (.d (.int .i64))], 4⟩
noncomputable def k1dh (o : k25) (nx2 : HL TB.den k2z.hs → Prop) (nx1 : HL TB.den k8x.hs → Prop) : Exit → TSt TB.den → Prop := thenT TB (fun s => k8x.mat TB 0 s nx1) (blockT TB 2 (k1gi o nx2))
noncomputable def keb (o : k25) (nx2 : HL TB.den k2z.hs → Prop) (nx1 : HL TB.den k8x.hs → Prop) (i : HL TB.den k8x.hs) : Prop := WP TB k2y 97 0 (cA (cA (cB (cA (cB (cB (cA (cA (cB (cA (cA (cB (cA (cB (cB (cB (cB k4q))))))))))))))))) .no (k8x.fill TB i) (k1dh o nx2 nx1)
noncomputable def k1dv (o : k25) (nx2 : HL TB.den k2z.hs → Prop) : An TB := .nd [] .no [] (.lp [] k8x (keb o nx2) fun nx1 => .no)
noncomputable def kuv (o : k25) (nx2 : HL TB.den k2z.hs → Prop) : An TB := .nd [] .no [] (.nd [] .no [] (.nd [] (k1dv o nx2) [] .no))
noncomputable def kev (o : k25) (nx2 : HL TB.den k2z.hs → Prop) (i : HL TB.den k2z.hs) : Prop := WP TB k2y 97 0 (cA (cA (cB (cA (cB (cB (cB (cB k4q)))))))) (.nd [] .no [] (.nd [] (kuv o nx2) [] .no)) (k2z.fill TB i) (ko1 o nx2)
noncomputable def k1df (o : k25) : An TB := .lp [] k2z (kev o) fun nx2 => (.nd [] .no [] (.nd [] (kuv o nx2) [] .no))
noncomputable def k1br (o : k25) : An TB := .nd [] (.nd [] .no [] (k1df o)) [] (.nd [] .no [] (.nd [] (kwm o) [] .no))
noncomputable def k1dz (o : k25) : An TB := .nd [] .no [] (.nd [] .no [] (.nd [] .no [] (k1br o)))
noncomputable def kxr (o : k25) : An TB := .nd [] .no [] (k1dz o)
noncomputable def kj8 (x : k11b) (o : k25) : Prop := WPh TB k2y 97 0 k4q (kxr o) (k1r.st TB x) (retTQ TB k2y k1r k96 o)
set_option maxRecDepth 100000 in
theorem k1bp (o : k25) : OblH TB k2y 97 0 k4q (kxr o) (retTQ TB k2y k1r k96 o) :=
  OblH.of_eq (X := (True ∧ (True ∧ (True ∧ (True ∧ ((True ∧ ((∀ nx i, (kev o) nx i = (kev o) nx i) ∧ ∀ nx2 : HL TB.den k2z.hs → Prop, ((True ∧ (True ∧ True)) ∧ ((True ∧ (True ∧ ((True ∧ ((∀ nx i, (keb o nx2) nx i = (keb o nx2) nx i) ∧ ∀ nx1 : HL TB.den k8x.hs → Prop, ((True ∧ (True ∧ True)) ∧ (True ∧ True)))) ∧ True))) ∧ True)))) ∧ (True ∧ ((True ∧ ((∀ nx i, (kej o) nx i = (kej o) nx i) ∧ ∀ nx3 : HL TB.den k98.hs → Prop, ((True ∧ (True ∧ True)) ∧ (True ∧ True)))) ∧ (True ∧ (True ∧ True)))))))))) (by kernel_rfl) ⟨trivial, ⟨trivial, ⟨trivial, ⟨trivial, ⟨⟨trivial, ⟨fun _ _ => rfl, fun _ => ⟨⟨trivial, ⟨trivial, trivial⟩⟩, ⟨⟨trivial, ⟨trivial, ⟨⟨trivial, ⟨fun _ _ => rfl, fun _ => ⟨⟨trivial, ⟨trivial, trivial⟩⟩, ⟨trivial, trivial⟩⟩⟩⟩, trivial⟩⟩⟩, trivial⟩⟩⟩⟩, ⟨trivial, ⟨⟨trivial, ⟨fun _ _ => rfl, fun _ => ⟨⟨trivial, ⟨trivial, trivial⟩⟩, ⟨trivial, trivial⟩⟩⟩⟩, ⟨trivial, ⟨trivial, trivial⟩⟩⟩⟩⟩⟩⟩⟩⟩
set_option maxRecDepth 100000 in
theorem k1dm {x : k11b} {o : k25} (h : kj8 x o) : SoundH Try.prog k1r.f ((k1r.args idf x).map (er TB)) ((k1r.obs idf x).map (erO TB)) (er TB (k1r.val idf o)) ((k1r.ops idf o).map (erO TB)) :=
  Con.soundH (c := k1r) (C := k2y) TBok ⟨inf_ok, (all_cons kii (all_cons k1j5 (all_cons k169 (all_cons k1fm all_nil)))), all_nil⟩ mix Try.func16 (show Try.f16.body = some k4q by kernel_rfl) (show Try.f16.ntmps = 97 by kernel_rfl) (show Try.f16.results.toList = k96 by kernel_rfl) rfl h (k1bp o)
set_option maxRecDepth 100000 in
theorem k1hg {p0 : TTx} {r0 : List Int} (h :
((U64 p0.Anchor ∧ 0 ≤ (8 : Int) ∧ (8 : Int) ≤ 8) ∧ (Us p0.Marks ∧ p0.Marks.length ≤ 4294967295) ∧ (dig (8 : Int).toNat p0.Anchor).length = (dig (8 : Int).toNat p0.Anchor).length ∧ ((dig (8 : Int).toNat p0.Anchor).length + (encL p0.Marks).length) * 1 ≤ 140737488355328 ∧ (dig (8 : Int).toNat p0.Anchor).length + (encL p0.Marks).length ≤ maxLen ∧ let v1 : List Int := (dig (8 : Int).toNat p0.Anchor) ++ (encL p0.Marks)
 v1.length = v1.length ∧ (v1.length + (dig 4 (len4 (p0.Outs.length : Int))).length) * 1 ≤ 140737488355328 ∧ v1.length + (dig 4 (len4 (p0.Outs.length : Int))).length ≤ maxLen ∧ let v2 : List Int := v1 ++ (dig 4 (len4 (p0.Outs.length : Int)))
(v2 = v2) ∧ Md.Loop ((0 : Int), p0.Anchor, p0.Marks, p0.Outs, p0.Deposit, p0.Withdraw, p0.Fee, p0.Account, p0.Nonce, p0.Expiry, p0.Proof, v2, ()) (kev (r0, ())))) : kj8 (p0.Anchor, p0.Marks, p0.Outs, p0.Deposit, p0.Withdraw, p0.Fee, p0.Account, p0.Nonce, p0.Expiry, p0.Proof, ()) (r0, ()) := WPh.of_eq (by kernel_rfl) h
def ky9 (r0 : List Int) (nx2 : HL TB.den k2z.hs → Prop) (k2 : Int → List Int → Prop) (h0_0 : Int) (h0_1 : List Int) (h0_2 : List TOut) (h0_3 : Int) (h0_4 : Int) (h0_5 : Int) (h0_6 : Int) (h0_7 : Int) (h0_8 : Int) (h0_9 : List Int) (s4 : Int) (g1 : List Int) : Prop :=
(decide (s4 < (h0_2.length : Int)) = true →
(0 ≤ s4) ∧ s4 < (h0_2.length : Int) ∧ let v3 : List Int := [(ix h0_2 s4).Commit, (ix h0_2 s4).Point_a0, (ix h0_2 s4).Point_a1]
(g1 = g1) ∧ Md.Loop (s4, v3, (0 : Int), h0_0, h0_1, h0_2, h0_3, h0_4, h0_5, h0_6, h0_7, h0_8, h0_9, ((ix h0_2 s4).Commit : Int), ((ix h0_2 s4).Point_a0 : Int), ((ix h0_2 s4).Point_a1 : Int), ((ix h0_2 s4).Cipher : List Int), g1, ()) (keb (r0, ()) nx2)) ∧
(decide (s4 < (h0_2.length : Int)) = false →
(g1 = g1) ∧ Md.Loop (([h0_3, h0_4, h0_5, h0_6, h0_7] : List Int), (0 : Int), h0_0, h0_1, h0_2, h0_3, h0_4, h0_5, h0_6, h0_7, h0_8, h0_9, g1, ()) (kej (r0, ())))
set_option maxRecDepth 100000 in
theorem k1c0 {r0 : List Int} {h0_0 : Int} {h0_1 : List Int} {h0_2 : List TOut} {h0_3 : Int} {h0_4 : Int} {h0_5 : Int} {h0_6 : Int} {h0_7 : Int} {h0_8 : Int} {h0_9 : List Int} {s4 : Int} {g1 : List Int} (inv : Int → List Int → Prop) (μ : Int → List Int → Nat) (h0 : inv s4 g1) (hs : ∀ (s4 : Int) (g1 : List Int), inv s4 g1 → ky9 r0 (fun s : Int × Int × (List Int) × (List TOut) × Int × Int × Int × Int × Int × Int × (List Int) × (List Int) × Unit => ((s.2.1 = h0_0 ∧ s.2.2.1 = h0_1 ∧ s.2.2.2.1 = h0_2 ∧ s.2.2.2.2.1 = h0_3 ∧ s.2.2.2.2.2.1 = h0_4 ∧ s.2.2.2.2.2.2.1 = h0_5 ∧ s.2.2.2.2.2.2.2.1 = h0_6 ∧ s.2.2.2.2.2.2.2.2.1 = h0_7 ∧ s.2.2.2.2.2.2.2.2.2.1 = h0_8 ∧ s.2.2.2.2.2.2.2.2.2.2.1 = h0_9) ∧ inv s.1 s.2.2.2.2.2.2.2.2.2.2.2.1) ∧ μ s.1 s.2.2.2.2.2.2.2.2.2.2.2.1 < μ s4 g1) (fun s4q g1q => inv s4q g1q ∧ μ s4q g1q < μ s4 g1) h0_0 h0_1 h0_2 h0_3 h0_4 h0_5 h0_6 h0_7 h0_8 h0_9 s4 g1) : Md.Loop (s4, h0_0, h0_1, h0_2, h0_3, h0_4, h0_5, h0_6, h0_7, h0_8, h0_9, g1, ()) (kev (r0, ())) :=
  ⟨⟨fun s : Int × Int × (List Int) × (List TOut) × Int × Int × Int × Int × Int × Int × (List Int) × (List Int) × Unit => (s.2.1 = h0_0 ∧ s.2.2.1 = h0_1 ∧ s.2.2.2.1 = h0_2 ∧ s.2.2.2.2.1 = h0_3 ∧ s.2.2.2.2.2.1 = h0_4 ∧ s.2.2.2.2.2.2.1 = h0_5 ∧ s.2.2.2.2.2.2.2.1 = h0_6 ∧ s.2.2.2.2.2.2.2.2.1 = h0_7 ∧ s.2.2.2.2.2.2.2.2.2.1 = h0_8 ∧ s.2.2.2.2.2.2.2.2.2.2.1 = h0_9) ∧ inv s.1 s.2.2.2.2.2.2.2.2.2.2.2.1, fun s : Int × Int × (List Int) × (List TOut) × Int × Int × Int × Int × Int × Int × (List Int) × (List Int) × Unit => μ s.1 s.2.2.2.2.2.2.2.2.2.2.2.1, ⟨⟨rfl, rfl, rfl, rfl, rfl, rfl, rfl, rfl, rfl, rfl⟩, h0⟩, fun (s4p, h0_0p, h0_1p, h0_2p, h0_3p, h0_4p, h0_5p, h0_6p, h0_7p, h0_8p, h0_9p, g1p, ()) ⟨⟨eq0, eq1, eq2, eq3, eq4, eq5, eq6, eq7, eq8, eq9⟩, hi⟩ => by
    have eq0 : h0_0p = h0_0 := eq0; subst h0_0p; have eq1 : h0_1p = h0_1 := eq1; subst h0_1p; have eq2 : h0_2p = h0_2 := eq2; subst h0_2p; have eq3 : h0_3p = h0_3 := eq3; subst h0_3p; have eq4 : h0_4p = h0_4 := eq4; subst h0_4p; have eq5 : h0_5p = h0_5 := eq5; subst h0_5p; have eq6 : h0_6p = h0_6 := eq6; subst h0_6p; have eq7 : h0_7p = h0_7 := eq7; subst h0_7p; have eq8 : h0_8p = h0_8 := eq8; subst h0_8p; have eq9 : h0_9p = h0_9 := eq9; subst h0_9p; exact mpr_of (by kernel_rfl) ((congrArg (fun k => ky9 r0 (fun s : Int × Int × (List Int) × (List TOut) × Int × Int × Int × Int × Int × Int × (List Int) × (List Int) × Unit => ((s.2.1 = h0_0 ∧ s.2.2.1 = h0_1 ∧ s.2.2.2.1 = h0_2 ∧ s.2.2.2.2.1 = h0_3 ∧ s.2.2.2.2.2.1 = h0_4 ∧ s.2.2.2.2.2.2.1 = h0_5 ∧ s.2.2.2.2.2.2.2.1 = h0_6 ∧ s.2.2.2.2.2.2.2.2.1 = h0_7 ∧ s.2.2.2.2.2.2.2.2.2.1 = h0_8 ∧ s.2.2.2.2.2.2.2.2.2.2.1 = h0_9) ∧ inv s.1 s.2.2.2.2.2.2.2.2.2.2.2.1) ∧ μ s.1 s.2.2.2.2.2.2.2.2.2.2.2.1 < μ s4p g1p) k h0_0 h0_1 h0_2 h0_3 h0_4 h0_5 h0_6 h0_7 h0_8 h0_9 s4p g1p) (lpk2 (⟨rfl, rfl, rfl, rfl, rfl, rfl, rfl, rfl, rfl, rfl⟩ : h0_0 = h0_0 ∧ h0_1 = h0_1 ∧ h0_2 = h0_2 ∧ h0_3 = h0_3 ∧ h0_4 = h0_4 ∧ h0_5 = h0_5 ∧ h0_6 = h0_6 ∧ h0_7 = h0_7 ∧ h0_8 = h0_8 ∧ h0_9 = h0_9) inv (fun s4q g1q => μ s4q g1q < μ s4p g1p))).mpr (hs s4p g1p hi))⟩⟩
def kws (r0 : List Int) (nx2 : HL TB.den k2z.hs → Prop) (k1 : Int → List Int → Prop) (s4 : Int) (s6 : List Int) (h0_0 : Int) (h0_1 : List Int) (h0_2 : List TOut) (h0_3 : Int) (h0_4 : Int) (h0_5 : Int) (h0_6 : Int) (h0_7 : Int) (h0_8 : Int) (h0_9 : List Int) (h2_0 : Int) (h2_1 : Int) (h2_2 : Int) (h2_3 : List Int) (s7 : Int) (g1 : List Int) : Prop :=
(decide (s7 < (s6.length : Int)) = true →
(0 ≤ s7) ∧ s7 < (s6.length : Int) ∧ (U64 (ix s6 s7) ∧ 0 ≤ (8 : Int) ∧ (8 : Int) ≤ 8) ∧ g1.length = g1.length ∧ (g1.length + (dig (8 : Int).toNat (ix s6 s7)).length) * 1 ≤ 140737488355328 ∧ g1.length + (dig (8 : Int).toNat (ix s6 s7)).length ≤ maxLen ∧ (g1 ++ (dig (8 : Int).toNat (ix s6 s7)) = g1 ++ (dig (8 : Int).toNat (ix s6 s7))) ∧ k1 (IntKind.i64.wrap (s7 + 1) : Int) (g1 ++ (dig (8 : Int).toNat (ix s6 s7)) : List Int)) ∧
(decide (s7 < (s6.length : Int)) = false →
(Us h2_3 ∧ h2_3.length ≤ 4294967295) ∧ g1.length = g1.length ∧ (g1.length + (encL h2_3).length) * 1 ≤ 140737488355328 ∧ g1.length + (encL h2_3).length ≤ maxLen ∧ (g1 ++ (encL h2_3) = g1 ++ (encL h2_3)) ∧ nx2 ((IntKind.i64.wrap (s4 + 1) : Int), h0_0, h0_1, h0_2, h0_3, h0_4, h0_5, h0_6, h0_7, h0_8, h0_9, (g1 ++ (encL h2_3) : List Int), ()))
set_option maxRecDepth 100000 in
theorem k1c3 {r0 : List Int} {nx2 : HL TB.den k2z.hs → Prop} {s4 : Int} {s6 : List Int} {h0_0 : Int} {h0_1 : List Int} {h0_2 : List TOut} {h0_3 : Int} {h0_4 : Int} {h0_5 : Int} {h0_6 : Int} {h0_7 : Int} {h0_8 : Int} {h0_9 : List Int} {h2_0 : Int} {h2_1 : Int} {h2_2 : Int} {h2_3 : List Int} {s7 : Int} {g1 : List Int} (inv : Int → List Int → Prop) (μ : Int → List Int → Nat) (h0 : inv s7 g1) (hs : ∀ (s7 : Int) (g1 : List Int), inv s7 g1 → kws r0 nx2 (fun s7q g1q => inv s7q g1q ∧ μ s7q g1q < μ s7 g1) s4 s6 h0_0 h0_1 h0_2 h0_3 h0_4 h0_5 h0_6 h0_7 h0_8 h0_9 h2_0 h2_1 h2_2 h2_3 s7 g1) : Md.Loop (s4, s6, s7, h0_0, h0_1, h0_2, h0_3, h0_4, h0_5, h0_6, h0_7, h0_8, h0_9, h2_0, h2_1, h2_2, h2_3, g1, ()) (keb (r0, ()) nx2) :=
  ⟨⟨fun s : Int × (List Int) × Int × Int × (List Int) × (List TOut) × Int × Int × Int × Int × Int × Int × (List Int) × Int × Int × Int × (List Int) × (List Int) × Unit => (s.1 = s4 ∧ s.2.1 = s6 ∧ s.2.2.2.1 = h0_0 ∧ s.2.2.2.2.1 = h0_1 ∧ s.2.2.2.2.2.1 = h0_2 ∧ s.2.2.2.2.2.2.1 = h0_3 ∧ s.2.2.2.2.2.2.2.1 = h0_4 ∧ s.2.2.2.2.2.2.2.2.1 = h0_5 ∧ s.2.2.2.2.2.2.2.2.2.1 = h0_6 ∧ s.2.2.2.2.2.2.2.2.2.2.1 = h0_7 ∧ s.2.2.2.2.2.2.2.2.2.2.2.1 = h0_8 ∧ s.2.2.2.2.2.2.2.2.2.2.2.2.1 = h0_9 ∧ s.2.2.2.2.2.2.2.2.2.2.2.2.2.1 = h2_0 ∧ s.2.2.2.2.2.2.2.2.2.2.2.2.2.2.1 = h2_1 ∧ s.2.2.2.2.2.2.2.2.2.2.2.2.2.2.2.1 = h2_2 ∧ s.2.2.2.2.2.2.2.2.2.2.2.2.2.2.2.2.1 = h2_3) ∧ inv s.2.2.1 s.2.2.2.2.2.2.2.2.2.2.2.2.2.2.2.2.2.1, fun s : Int × (List Int) × Int × Int × (List Int) × (List TOut) × Int × Int × Int × Int × Int × Int × (List Int) × Int × Int × Int × (List Int) × (List Int) × Unit => μ s.2.2.1 s.2.2.2.2.2.2.2.2.2.2.2.2.2.2.2.2.2.1, ⟨⟨rfl, rfl, rfl, rfl, rfl, rfl, rfl, rfl, rfl, rfl, rfl, rfl, rfl, rfl, rfl, rfl⟩, h0⟩, fun (s4p, s6p, s7p, h0_0p, h0_1p, h0_2p, h0_3p, h0_4p, h0_5p, h0_6p, h0_7p, h0_8p, h0_9p, h2_0p, h2_1p, h2_2p, h2_3p, g1p, ()) ⟨⟨eq0, eq1, eq2, eq3, eq4, eq5, eq6, eq7, eq8, eq9, eq10, eq11, eq12, eq13, eq14, eq15⟩, hi⟩ => by
    have eq0 : s4p = s4 := eq0; subst s4p; have eq1 : s6p = s6 := eq1; subst s6p; have eq2 : h0_0p = h0_0 := eq2; subst h0_0p; have eq3 : h0_1p = h0_1 := eq3; subst h0_1p; have eq4 : h0_2p = h0_2 := eq4; subst h0_2p; have eq5 : h0_3p = h0_3 := eq5; subst h0_3p; have eq6 : h0_4p = h0_4 := eq6; subst h0_4p; have eq7 : h0_5p = h0_5 := eq7; subst h0_5p; have eq8 : h0_6p = h0_6 := eq8; subst h0_6p; have eq9 : h0_7p = h0_7 := eq9; subst h0_7p; have eq10 : h0_8p = h0_8 := eq10; subst h0_8p; have eq11 : h0_9p = h0_9 := eq11; subst h0_9p; have eq12 : h2_0p = h2_0 := eq12; subst h2_0p; have eq13 : h2_1p = h2_1 := eq13; subst h2_1p; have eq14 : h2_2p = h2_2 := eq14; subst h2_2p; have eq15 : h2_3p = h2_3 := eq15; subst h2_3p; exact mpr_of (by kernel_rfl) ((congrArg (fun k => kws r0 nx2 k s4 s6 h0_0 h0_1 h0_2 h0_3 h0_4 h0_5 h0_6 h0_7 h0_8 h0_9 h2_0 h2_1 h2_2 h2_3 s7p g1p) (lpk2 (⟨rfl, rfl, rfl, rfl, rfl, rfl, rfl, rfl, rfl, rfl, rfl, rfl, rfl, rfl, rfl, rfl⟩ : s4 = s4 ∧ s6 = s6 ∧ h0_0 = h0_0 ∧ h0_1 = h0_1 ∧ h0_2 = h0_2 ∧ h0_3 = h0_3 ∧ h0_4 = h0_4 ∧ h0_5 = h0_5 ∧ h0_6 = h0_6 ∧ h0_7 = h0_7 ∧ h0_8 = h0_8 ∧ h0_9 = h0_9 ∧ h2_0 = h2_0 ∧ h2_1 = h2_1 ∧ h2_2 = h2_2 ∧ h2_3 = h2_3) inv (fun s7q g1q => μ s7q g1q < μ s7p g1p))).mpr (hs s7p g1p hi))⟩⟩
def kyi (r0 : List Int) (k3 : Int → List Int → Prop) (s8 : List Int) (h0_0 : Int) (h0_1 : List Int) (h0_2 : List TOut) (h0_3 : Int) (h0_4 : Int) (h0_5 : Int) (h0_6 : Int) (h0_7 : Int) (h0_8 : Int) (h0_9 : List Int) (s9 : Int) (g1 : List Int) : Prop :=
(decide (s9 < (s8.length : Int)) = true →
(0 ≤ s9) ∧ s9 < (s8.length : Int) ∧ (U64 (ix s8 s9) ∧ 0 ≤ (8 : Int) ∧ (8 : Int) ≤ 8) ∧ g1.length = g1.length ∧ (g1.length + (dig (8 : Int).toNat (ix s8 s9)).length) * 1 ≤ 140737488355328 ∧ g1.length + (dig (8 : Int).toNat (ix s8 s9)).length ≤ maxLen ∧ (g1 ++ (dig (8 : Int).toNat (ix s8 s9)) = g1 ++ (dig (8 : Int).toNat (ix s8 s9))) ∧ k3 (IntKind.i64.wrap (s9 + 1) : Int) (g1 ++ (dig (8 : Int).toNat (ix s8 s9)) : List Int)) ∧
(decide (s9 < (s8.length : Int)) = false →
 g1.length = g1.length ∧ (g1.length + (dig 4 (len4 h0_8)).length) * 1 ≤ 140737488355328 ∧ g1.length + (dig 4 (len4 h0_8)).length ≤ maxLen ∧ (h0_9.length ≤ 4294967295) ∧ (g1 ++ (dig 4 (len4 h0_8))).length = (g1 ++ (dig 4 (len4 h0_8))).length ∧ ((g1 ++ (dig 4 (len4 h0_8))).length + (encB h0_9).length) * 1 ≤ 140737488355328 ∧ (g1 ++ (dig 4 (len4 h0_8))).length + (encB h0_9).length ≤ maxLen ∧ let v4 : List Int := (g1 ++ (dig 4 (len4 h0_8))) ++ (encB h0_9)
 v4 = r0)
set_option maxRecDepth 100000 in
theorem k1be {r0 : List Int} {s8 : List Int} {h0_0 : Int} {h0_1 : List Int} {h0_2 : List TOut} {h0_3 : Int} {h0_4 : Int} {h0_5 : Int} {h0_6 : Int} {h0_7 : Int} {h0_8 : Int} {h0_9 : List Int} {s9 : Int} {g1 : List Int} (inv : Int → List Int → Prop) (μ : Int → List Int → Nat) (h0 : inv s9 g1) (hs : ∀ (s9 : Int) (g1 : List Int), inv s9 g1 → kyi r0 (fun s9q g1q => inv s9q g1q ∧ μ s9q g1q < μ s9 g1) s8 h0_0 h0_1 h0_2 h0_3 h0_4 h0_5 h0_6 h0_7 h0_8 h0_9 s9 g1) : Md.Loop (s8, s9, h0_0, h0_1, h0_2, h0_3, h0_4, h0_5, h0_6, h0_7, h0_8, h0_9, g1, ()) (kej (r0, ())) :=
  ⟨⟨fun s : (List Int) × Int × Int × (List Int) × (List TOut) × Int × Int × Int × Int × Int × Int × (List Int) × (List Int) × Unit => (s.1 = s8 ∧ s.2.2.1 = h0_0 ∧ s.2.2.2.1 = h0_1 ∧ s.2.2.2.2.1 = h0_2 ∧ s.2.2.2.2.2.1 = h0_3 ∧ s.2.2.2.2.2.2.1 = h0_4 ∧ s.2.2.2.2.2.2.2.1 = h0_5 ∧ s.2.2.2.2.2.2.2.2.1 = h0_6 ∧ s.2.2.2.2.2.2.2.2.2.1 = h0_7 ∧ s.2.2.2.2.2.2.2.2.2.2.1 = h0_8 ∧ s.2.2.2.2.2.2.2.2.2.2.2.1 = h0_9) ∧ inv s.2.1 s.2.2.2.2.2.2.2.2.2.2.2.2.1, fun s : (List Int) × Int × Int × (List Int) × (List TOut) × Int × Int × Int × Int × Int × Int × (List Int) × (List Int) × Unit => μ s.2.1 s.2.2.2.2.2.2.2.2.2.2.2.2.1, ⟨⟨rfl, rfl, rfl, rfl, rfl, rfl, rfl, rfl, rfl, rfl, rfl⟩, h0⟩, fun (s8p, s9p, h0_0p, h0_1p, h0_2p, h0_3p, h0_4p, h0_5p, h0_6p, h0_7p, h0_8p, h0_9p, g1p, ()) ⟨⟨eq0, eq1, eq2, eq3, eq4, eq5, eq6, eq7, eq8, eq9, eq10⟩, hi⟩ => by
    have eq0 : s8p = s8 := eq0; subst s8p; have eq1 : h0_0p = h0_0 := eq1; subst h0_0p; have eq2 : h0_1p = h0_1 := eq2; subst h0_1p; have eq3 : h0_2p = h0_2 := eq3; subst h0_2p; have eq4 : h0_3p = h0_3 := eq4; subst h0_3p; have eq5 : h0_4p = h0_4 := eq5; subst h0_4p; have eq6 : h0_5p = h0_5 := eq6; subst h0_5p; have eq7 : h0_6p = h0_6 := eq7; subst h0_6p; have eq8 : h0_7p = h0_7 := eq8; subst h0_7p; have eq9 : h0_8p = h0_8 := eq9; subst h0_8p; have eq10 : h0_9p = h0_9 := eq10; subst h0_9p; exact mpr_of (by kernel_rfl) ((congrArg (fun k => kyi r0 k s8 h0_0 h0_1 h0_2 h0_3 h0_4 h0_5 h0_6 h0_7 h0_8 h0_9 s9p g1p) (lpk2 (⟨rfl, rfl, rfl, rfl, rfl, rfl, rfl, rfl, rfl, rfl, rfl⟩ : s8 = s8 ∧ h0_0 = h0_0 ∧ h0_1 = h0_1 ∧ h0_2 = h0_2 ∧ h0_3 = h0_3 ∧ h0_4 = h0_4 ∧ h0_5 = h0_5 ∧ h0_6 = h0_6 ∧ h0_7 = h0_7 ∧ h0_8 = h0_8 ∧ h0_9 = h0_9) inv (fun s9q g1q => μ s9q g1q < μ s9p g1p))).mpr (hs s9p g1p hi))⟩⟩
theorem bd16 : Callable Try.prog 16 := ⟨by rw [Try.func16]; kernel_rfl, by rw [Try.func16]; show some _ ≠ some _; decide⟩
theorem k19l (p0 : TTx) (h : TR p0 ∧ TL p0 ∧ p0.Outs.length ≤ 1048576 ∧ (∀ x ∈ p0.Outs, x.Cipher.length ≤ 1024)) : kj8 (p0.Anchor, p0.Marks, p0.Outs, p0.Deposit, p0.Withdraw, p0.Fee, p0.Account, p0.Nonce, p0.Expiry, p0.Proof, ()) (((encT p0 p0.Proof) : List Int), ()) := by
  obtain ⟨hr, hl, ho, hc⟩ := h
  have hm := hl.m
  have hpl := hl.p
  refine k1hg ⟨⟨hr.a, by omega⟩, ⟨hr.m, hm⟩, rfl, ?_, ?_, rfl, ?_, ?_, rfl, ?_⟩
  · simp; omega
  · simp; unfold maxLen; omega
  · simp; omega
  · simp; unfold maxLen; omega
  have hb := fun i : Int => kao (p0.Outs.take i.toNat) 1024 (fun x hx => hc x (List.mem_of_mem_take hx))
  have hb : ∀ i : Int, ((p0.Outs.take i.toNat).flatMap encO).length ≤ 8700000000 := by
    intro i
    have := hb i
    rw [List.length_take] at this
    refine Nat.le_trans this ?_
    have : min i.toNat p0.Outs.length ≤ 1048576 := by omega
    have := Nat.mul_le_mul_left (28 + 8 * 1024) this
    omega
  have hpre : (dig 8 p0.Anchor ++ encL p0.Marks ++ dig 4 (len4 p0.Outs.length)).length ≤ 40000000000 := by simp; omega
  generalize hP : dig 8 p0.Anchor ++ encL p0.Marks ++ dig 4 (len4 p0.Outs.length) = P at *
  refine k1c0 (fun i g => 0 ≤ i ∧ i ≤ p0.Outs.length ∧ g = P ++ (p0.Outs.take i.toNat).flatMap encO) (fun i _ => (p0.Outs.length - i).toNat) ⟨by omega, by omega, by rw [← hP]; simp⟩ ?_
  rintro i g ⟨g0, g1, rfl⟩
  have hbi := hb i
  generalize hB : P ++ (p0.Outs.take i.toNat).flatMap encO = B at *
  have hBl : B.length ≤ 50000000000 := by rw [← hB, List.length_append]; omega
  refine ⟨fun h => ?_, fun h => ?_⟩
  · have h := of_decide_eq_true h
    have hx := hr.o _ (ix_mem p0.Outs i g0 h)
    have hxc := hc _ (ix_mem p0.Outs i g0 h)
    refine ⟨g0, h, rfl, ?_⟩
    refine k1c3 (fun k g => 0 ≤ k ∧ k ≤ 3 ∧ g = B ++ ([(ix p0.Outs i).Commit, (ix p0.Outs i).Point_a0, (ix p0.Outs i).Point_a1].take k.toNat).flatMap (dig 8)) (fun k _ => (3 - k).toNat) ⟨by omega, by omega, by simp⟩ ?_
    rintro k g ⟨k0, k1, rfl⟩
    have hul : Us [(ix p0.Outs i).Commit, (ix p0.Outs i).Point_a0, (ix p0.Outs i).Point_a1] := by
      intro x hx'
      simp only [List.mem_cons, List.not_mem_nil, or_false] at hx'
      rcases hx' with rfl | rfl | rfl
      · exact hx.c
      · exact hx.p0
      · exact hx.p1
    have hll : ([(ix p0.Outs i).Commit, (ix p0.Outs i).Point_a0, (ix p0.Outs i).Point_a1].length : Int) = 3 := rfl
    generalize hLd : [(ix p0.Outs i).Commit, (ix p0.Outs i).Point_a0, (ix p0.Outs i).Point_a1] = Lc at *
    have hgl : (B ++ (Lc.take k.toNat).flatMap (dig 8)).length ≤ 50000000024 := by simp only [List.length_append, k63, List.length_take]; omega
    refine ⟨fun hk => ?_, fun hk => ?_⟩
    · have hk := of_decide_eq_true hk
      rw [inc k 3 k0 (by omega) (by omega)]
      refine ⟨k0, hk, ⟨hul _ (ix_mem Lc k k0 hk), by omega⟩, rfl, ?_, ?_, rfl, ⟨by omega, by omega, ?_⟩, by omega⟩
      · rw [k19]; omega
      · rw [k19]; unfold maxLen; omega
      · rw [ka Lc k k0 hk, List.flatMap_append, List.append_assoc]
        simp
    · have hk := of_decide_eq_false hk
      rw [List.take_of_length_le (by omega)] at hgl ⊢
      have hi := inc i p0.Outs.length g0 h (by omega)
      rw [hi]
      have nxt : (0 ≤ i + 1 ∧ i + 1 ≤ p0.Outs.length ∧ B ++ Lc.flatMap (dig 8) ++ encL (ix p0.Outs i).Cipher = P ++ (p0.Outs.take (i + 1).toNat).flatMap encO) ∧ (p0.Outs.length - (i + 1)).toNat < (p0.Outs.length - i).toNat := by
        refine ⟨⟨by omega, by omega, ?_⟩, by omega⟩
        rw [ka p0.Outs i g0 h, List.flatMap_append, ← List.append_assoc, hB, ← hLd]
        simp [encO, List.append_assoc]
      refine ⟨⟨hx.ci, by omega⟩, rfl, ?_, ?_, rfl, ⟨⟨rfl, rfl, rfl, rfl, rfl, rfl, rfl, rfl, rfl, rfl⟩, nxt.1⟩, nxt.2⟩
      · rw [k88]; omega
      · rw [k88]; unfold maxLen; omega
  · have h := of_decide_eq_false h
    refine ⟨rfl, ?_⟩
    have hul : Us [p0.Deposit, p0.Withdraw, p0.Fee, p0.Account, p0.Nonce] := by
      intro x hx'
      simp only [List.mem_cons, List.not_mem_nil, or_false] at hx'
      rcases hx' with rfl | rfl | rfl | rfl | rfl
      · exact hr.d
      · exact hr.w
      · exact hr.f
      · exact hr.ac
      · exact hr.n
    have hll : ([p0.Deposit, p0.Withdraw, p0.Fee, p0.Account, p0.Nonce].length : Int) = 5 := rfl
    refine k1be (fun k g => 0 ≤ k ∧ k ≤ 5 ∧ g = B ++ ([p0.Deposit, p0.Withdraw, p0.Fee, p0.Account, p0.Nonce].take k.toNat).flatMap (dig 8)) (fun k _ => (5 - k).toNat) ⟨by omega, by omega, by simp⟩ ?_
    rintro k g ⟨k0, k1, rfl⟩
    generalize hLd : [p0.Deposit, p0.Withdraw, p0.Fee, p0.Account, p0.Nonce] = Lc at *
    have hgl : (B ++ (Lc.take k.toNat).flatMap (dig 8)).length ≤ 50000000040 := by simp only [List.length_append, k63, List.length_take]; omega
    refine ⟨fun hk => ?_, fun hk => ?_⟩
    · have hk := of_decide_eq_true hk
      rw [inc k 5 k0 (by omega) (by omega)]
      refine ⟨k0, hk, ⟨hul _ (ix_mem Lc k k0 hk), by omega⟩, rfl, ?_, ?_, rfl, ⟨by omega, by omega, ?_⟩, by omega⟩
      · rw [k19]; omega
      · rw [k19]; unfold maxLen; omega
      · rw [ka Lc k k0 hk, List.flatMap_append, List.append_assoc]
        simp
    · have hk := of_decide_eq_false hk
      rw [List.take_of_length_le (by omega)] at hgl ⊢
      refine ⟨rfl, ?_, ?_, hpl, by trivial, ?_, ?_, ?_⟩
      · rw [k19]; omega
      · rw [k19]; unfold maxLen; omega
      · rw [List.length_append, k19, kl4]; omega
      · rw [List.length_append, k19, kl4]; unfold maxLen; omega
      · rw [← hB, ← hLd, ← hP, List.take_of_length_le (by omega)]
        simp [encT, List.append_assoc]
noncomputable def kch : Con TB.den := k1r.fnR (fun x => (fun (p0 : TTx) => TR p0 ∧ TL p0 ∧ p0.Outs.length ≤ 1048576 ∧ (∀ x ∈ p0.Outs, x.Cipher.length ≤ 1024)) (TTx.mk x.1 x.2.1 x.2.2.1 x.2.2.2.1 x.2.2.2.2.1 x.2.2.2.2.2.1 x.2.2.2.2.2.2.1 x.2.2.2.2.2.2.2.1 x.2.2.2.2.2.2.2.2.1 x.2.2.2.2.2.2.2.2.2.1)) fun x => ((fun (p0 : TTx) => ((encT p0 p0.Proof) : List Int)) (TTx.mk x.1 x.2.1 x.2.2.1 x.2.2.2.1 x.2.2.2.2.1 x.2.2.2.2.2.1 x.2.2.2.2.2.2.1 x.2.2.2.2.2.2.2.1 x.2.2.2.2.2.2.2.2.1 x.2.2.2.2.2.2.2.2.2.1), ())
theorem khs : kch.Ok Try.prog TB := Con.ok_fn k1r bd16 fun x h => k1dm (k19l (TTx.mk x.1 x.2.1 x.2.2.1 x.2.2.2.1 x.2.2.2.2.1 x.2.2.2.2.2.1 x.2.2.2.2.2.2.1 x.2.2.2.2.2.2.2.1 x.2.2.2.2.2.2.2.2.1 x.2.2.2.2.2.2.2.2.2.1) h)
end Go.Proofs.Ytnmakgfmimagmaa
namespace Go.Proofs.Ytnmakgfmimagmaa
open Go Go.Bv Go.Cv Go.Md Go.RowKit
def kz : Con TB.den := Con.mk0 66 [.one (.d (.sl (.int .u8))), .one (.d (.sl (.int .u8)))] [] (.one (.one (.d (.bool)))) []
abbrev kpt := HL TB.den (hsT kz.ins (hsOs kz.pre))
abbrev k5g := HL TB.den (hsV kz.res (hsOs kz.post))
noncomputable def k4e : Cx TB := ⟨inf, [], [], 4, []⟩
noncomputable def k78 : Code := Try.f66.body.getD .skip
noncomputable def k97 : List ResultVar := Try.f66.results.toList
noncomputable def k11s (o : k5g) : Exit → TSt TB.den → Prop := thenT TB (fun s => ghs TB [] s fun s => WP TB k4e 26 0 (cB (cB (cB k78))) .no s (retTQ TB k4e kz k97 o)) (retTQ TB k4e kz k97 o)
def k5v : Tm := ⟨[], [], [0, 1, 5], [.one (.d (.sl (.int .u8))), .one (.d (.sl (.int .u8))), .one (.d (.int .i64))], 0⟩
noncomputable def k12u (o : k5g) (nx1 : HL TB.den k5v.hs → Prop) : Exit → TSt TB.den → Prop := thenT TB (fun s => k5v.mat TB 0 s nx1) (blockT TB 0 (k11s o))
noncomputable def k8p (o : k5g) (nx1 : HL TB.den k5v.hs → Prop) (i : HL TB.den k5v.hs) : Prop := WP TB k4e 26 0 (cA (cA (cB (cA (cB (cB k78)))))) .no (k5v.fill TB i) (k12u o nx1)
noncomputable def k132 (o : k5g) : An TB := .nd [] .no [] (.lp [] k5v (k8p o) fun nx1 => .no)
noncomputable def kny (o : k5g) : An TB := .nd [] .no [] (.nd [] .no [] (.nd [] (k132 o) [] .no))
noncomputable def ke3 (x : kpt) (o : k5g) : Prop := WPh TB k4e 26 0 k78 (kny o) (kz.st TB x) (retTQ TB k4e kz k97 o)
set_option maxRecDepth 100000 in
theorem kzg (o : k5g) : OblH TB k4e 26 0 k78 (kny o) (retTQ TB k4e kz k97 o) :=
  OblH.of_eq (X := (True ∧ ((True ∧ ((True ∧ True) ∧ True)) ∧ ((True ∧ ((∀ nx i, (k8p o) nx i = (k8p o) nx i) ∧ ∀ nx1 : HL TB.den k5v.hs → Prop, ((True ∧ (True ∧ True)) ∧ ((True ∧ ((True ∧ True) ∧ True)) ∧ True)))) ∧ (True ∧ True))))) (by kernel_rfl) ⟨trivial, ⟨⟨trivial, ⟨⟨trivial, trivial⟩, trivial⟩⟩, ⟨⟨trivial, ⟨fun _ _ => rfl, fun _ => ⟨⟨trivial, ⟨trivial, trivial⟩⟩, ⟨⟨trivial, ⟨⟨trivial, trivial⟩, trivial⟩⟩, trivial⟩⟩⟩⟩, ⟨trivial, trivial⟩⟩⟩⟩
set_option maxRecDepth 100000 in
theorem kzr {x : kpt} {o : k5g} (h : ke3 x o) : SoundH Try.prog kz.f ((kz.args idf x).map (er TB)) ((kz.obs idf x).map (erO TB)) (er TB (kz.val idf o)) ((kz.ops idf o).map (erO TB)) :=
  Con.soundH (c := kz) (C := k4e) TBok ⟨inf_ok, all_nil, all_nil⟩ mix Try.func66 (show Try.f66.body = some k78 by kernel_rfl) (show Try.f66.ntmps = 26 by kernel_rfl) (show Try.f66.results.toList = k97 by kernel_rfl) rfl h (kzg o)
set_option maxRecDepth 100000 in
theorem k13p {p0 : List Int} {p1 : List Int} {r0 : Bool} (h :
((((p0.length : Int) != (p1.length : Int)) = true →
 false = r0) ∧
(((p0.length : Int) != (p1.length : Int)) = false →
 Md.Loop (p0, p1, (0 : Int), ()) (k8p (r0, ()))))) : ke3 (p0, p1, ()) (r0, ()) := WPh.of_eq (by kernel_rfl) h
def kn4 (r0 : Bool) (k1 : Int → Prop) (s0 : List Int) (s1 : List Int) (s5 : Int) : Prop :=
(decide (s5 < (s0.length : Int)) = true →
(0 ≤ s5) ∧ s5 < (s0.length : Int) ∧ (0 ≤ s5) ∧ s5 < (s1.length : Int) ∧ (((ix s0 s5) != (ix s1 s5)) = true →
 false = r0) ∧
(((ix s0 s5) != (ix s1 s5)) = false →
 k1 (IntKind.i64.wrap (s5 + 1) : Int))) ∧
(decide (s5 < (s0.length : Int)) = false →
 true = r0)
set_option maxRecDepth 100000 in
theorem kzm {r0 : Bool} {s0 : List Int} {s1 : List Int} {s5 : Int} (inv : Int → Prop) (μ : Int → Nat) (h0 : inv s5) (hs : ∀ (s5 : Int), inv s5 → kn4 r0 (fun s5q => inv s5q ∧ μ s5q < μ s5) s0 s1 s5) : Md.Loop (s0, s1, s5, ()) (k8p (r0, ())) :=
  ⟨⟨fun s : (List Int) × (List Int) × Int × Unit => (s.1 = s0 ∧ s.2.1 = s1) ∧ inv s.2.2.1, fun s : (List Int) × (List Int) × Int × Unit => μ s.2.2.1, ⟨⟨rfl, rfl⟩, h0⟩, fun (s0p, s1p, s5p, ()) ⟨⟨eq0, eq1⟩, hi⟩ => by
    have eq0 : s0p = s0 := eq0; subst s0p; have eq1 : s1p = s1 := eq1; subst s1p; exact mpr_of (by kernel_rfl) ((congrArg (fun k => kn4 r0 k s0 s1 s5p) (lpk1 (⟨rfl, rfl⟩ : s0 = s0 ∧ s1 = s1) inv (fun s5q => μ s5q < μ s5p))).mpr (hs s5p hi))⟩⟩
theorem bd66 : Callable Try.prog 66 := ⟨by rw [Try.func66]; kernel_rfl, by rw [Try.func66]; show some _ ≠ some _; decide⟩
theorem ky6 (p0 : List Int) (p1 : List Int) (h : p0.length ≤ 9223372036854775807) : ke3 (p0, p1, ()) (((decide (p0 = p1)) : Bool), ()) := by
  refine k13p ⟨fun e => ?_, fun e => ?_⟩
  · have e : ¬ (p0.length : Int) = p1.length := by simpa using e
    rw [decide_eq_false (by rintro rfl; exact e rfl)]
  · have e : (p0.length : Int) = p1.length := by simpa using e
    refine kzm (fun i => 0 ≤ i ∧ i ≤ p0.length ∧ p0.take i.toNat = p1.take i.toNat) (fun i => (p0.length - i).toNat) ⟨by omega, by omega, by simp⟩ ?_
    rintro i ⟨g0, g1, g2⟩
    refine ⟨fun hh => ?_, fun hh => ?_⟩
    · have hh := of_decide_eq_true hh
      refine ⟨g0, hh, g0, by omega, fun e2 => ?_, fun e2 => ?_⟩
      · have e2 : ¬ ix p0 i = ix p1 i := by simpa using e2
        rw [decide_eq_false (by rintro rfl; exact e2 rfl)]
      · have e2 : ix p0 i = ix p1 i := by simpa using e2
        rw [inc i p0.length g0 hh (by omega)]
        refine ⟨⟨by omega, by omega, ?_⟩, by omega⟩
        rw [ka p0 i g0 hh, ka p1 i g0 (by omega), g2, e2]
    · have hh := of_decide_eq_false hh
      rw [List.take_of_length_le (by omega), List.take_of_length_le (by omega)] at g2
      rw [decide_eq_true g2]
noncomputable def kme : Con TB.den := kz.fnR (fun x => (fun (p0 : List Int) (p1 : List Int) => p0.length ≤ 9223372036854775807) x.1 x.2.1) fun x => ((fun (p0 : List Int) (p1 : List Int) => ((decide (p0 = p1)) : Bool)) x.1 x.2.1, ())
theorem k12n : kme.Ok Try.prog TB := Con.ok_fn kz bd66 fun x h => kzr (ky6 x.1 x.2.1 h)
end Go.Proofs.Ytnmakgfmimagmaa
namespace Go.Proofs.Ytnmakgfmimagmaa
open Go Go.Bv Go.Cv Go.Md Go.RowKit
def k32 : Con TB.den := Con.mk0 40 [.agg [.d (.int .u64), .d (.sl (.int .u64)), .d (.sl (.st 0)), .d (.int .u64), .d (.int .u64), .d (.int .u64), .d (.int .u64), .d (.int .u64), .d (.int .i64), .d (.sl (.int .u8))], .agg [.d (.int .u64), .d (.sl (.int .u64)), .d (.sl (.st 0)), .d (.int .u64), .d (.int .u64), .d (.int .u64), .d (.int .u64), .d (.int .u64), .d (.int .i64), .d (.sl (.int .u8))]] [] (.one (.one (.d (.bool)))) []
abbrev k17h := HL TB.den (hsT k32.ins (hsOs k32.pre))
abbrev k9s := HL TB.den (hsV k32.res (hsOs k32.post))
noncomputable def k72 : Cx TB := ⟨inf, [kch, kme], [], 4, []⟩
noncomputable def kcd : Code := Try.f40.body.getD .skip
noncomputable def kg8 : List ResultVar := Try.f40.results.toList
noncomputable def k1i4 (o : k9s) : Exit → TSt TB.den → Prop := thenT TB (fun s => ghs TB [] s fun s => WP TB k72 47 0 (cB (cB (cB kcd))) .no s (retTQ TB k72 k32 kg8 o)) (retTQ TB k72 k32 kg8 o)
def kaf : Tm := ⟨[0, 1], [.cells [.d (.int .u64), .d (.sl (.int .u64)), .d (.sl (.st 0)), .d (.int .u64), .d (.int .u64), .d (.int .u64), .d (.int .u64), .d (.int .u64), .d (.int .i64), .d (.sl (.int .u8))], .cells [.d (.int .u64), .d (.sl (.int .u64)), .d (.sl (.st 0)), .d (.int .u64), .d (.int .u64), .d (.int .u64), .d (.int .u64), .d (.int .u64), .d (.int .i64), .d (.sl (.int .u8))]], [2, 3, 5], [.one (.ptr 0 0), .one (.ptr 1 0), .one (.d (.int .i64))], 2⟩
noncomputable def k1jg (o : k9s) (nx1 : HL TB.den kaf.hs → Prop) : Exit → TSt TB.den → Prop := thenT TB (fun s => kaf.mat TB 0 s nx1) (blockT TB 0 (k1i4 o))
noncomputable def kgg (o : k9s) (nx1 : HL TB.den kaf.hs → Prop) (i : HL TB.den kaf.hs) : Prop := WP TB k72 47 0 (cA (cA (cB (cA (cB (cB kcd)))))) .no (kaf.fill TB i) (k1jg o nx1)
noncomputable def k1j7 (o : k9s) : An TB := .nd [] .no [] (.lp [] kaf (kgg o) fun nx1 => .no)
noncomputable def k11i (o : k9s) : An TB := .nd [] .no [] (.nd [] .no [] (.nd [] (k1j7 o) [] .no))
noncomputable def km0 (x : k17h) (o : k9s) : Prop := WPh TB k72 47 0 kcd (k11i o) (k32.st TB x) (retTQ TB k72 k32 kg8 o)
set_option maxRecDepth 100000 in
theorem k1ft (o : k9s) : OblH TB k72 47 0 kcd (k11i o) (retTQ TB k72 k32 kg8 o) :=
  OblH.of_eq (X := (True ∧ ((True ∧ ((True ∧ True) ∧ True)) ∧ ((True ∧ ((∀ nx i, (kgg o) nx i = (kgg o) nx i) ∧ ∀ nx1 : HL TB.den kaf.hs → Prop, ((True ∧ (True ∧ True)) ∧ ((True ∧ ((True ∧ True) ∧ True)) ∧ True)))) ∧ (True ∧ True))))) (by kernel_rfl) ⟨trivial, ⟨⟨trivial, ⟨⟨trivial, trivial⟩, trivial⟩⟩, ⟨⟨trivial, ⟨fun _ _ => rfl, fun _ => ⟨⟨trivial, ⟨trivial, trivial⟩⟩, ⟨⟨trivial, ⟨⟨trivial, trivial⟩, trivial⟩⟩, trivial⟩⟩⟩⟩, ⟨trivial, trivial⟩⟩⟩⟩
set_option maxRecDepth 100000 in
theorem k1gv {x : k17h} {o : k9s} (h : km0 x o) : SoundH Try.prog k32.f ((k32.args idf x).map (er TB)) ((k32.obs idf x).map (erO TB)) (er TB (k32.val idf o)) ((k32.ops idf o).map (erO TB)) :=
  Con.soundH (c := k32) (C := k72) TBok ⟨inf_ok, (all_cons khs (all_cons k12n all_nil)), all_nil⟩ mix Try.func40 (show Try.f40.body = some kcd by kernel_rfl) (show Try.f40.ntmps = 47 by kernel_rfl) (show Try.f40.results.toList = kg8 by kernel_rfl) rfl h (k1ft o)
set_option maxRecDepth 100000 in
theorem k1j0 {p0 : TTx} {p1 : TTx} {r0 : Bool} (h :
(let v1 : Bool := ((p0.Outs.length : Int) != (p1.Outs.length : Int))
(v1 = true →
 false = r0) ∧
(v1 = false →
((p0.Expiry != p1.Expiry) = true →
 false = r0) ∧
((p0.Expiry != p1.Expiry) = false →
 Md.Loop ((0 : Int), p0.Anchor, p0.Marks, p0.Outs, p0.Deposit, p0.Withdraw, p0.Fee, p0.Account, p0.Nonce, p0.Expiry, p0.Proof, p1.Anchor, p1.Marks, p1.Outs, p1.Deposit, p1.Withdraw, p1.Fee, p1.Account, p1.Nonce, p1.Expiry, p1.Proof, ()) (kgg (r0, ())))))) : km0 (p0.Anchor, p0.Marks, p0.Outs, p0.Deposit, p0.Withdraw, p0.Fee, p0.Account, p0.Nonce, p0.Expiry, p0.Proof, p1.Anchor, p1.Marks, p1.Outs, p1.Deposit, p1.Withdraw, p1.Fee, p1.Account, p1.Nonce, p1.Expiry, p1.Proof, ()) (r0, ()) := WPh.of_eq (by kernel_rfl) h
def k10b (r0 : Bool) (k1 : Int → Prop) (h0_0 : Int) (h0_1 : List Int) (h0_2 : List TOut) (h0_3 : Int) (h0_4 : Int) (h0_5 : Int) (h0_6 : Int) (h0_7 : Int) (h0_8 : Int) (h0_9 : List Int) (h1_0 : Int) (h1_1 : List Int) (h1_2 : List TOut) (h1_3 : Int) (h1_4 : Int) (h1_5 : Int) (h1_6 : Int) (h1_7 : Int) (h1_8 : Int) (h1_9 : List Int) (s5 : Int) : Prop :=
(decide (s5 < (h0_2.length : Int)) = true →
(0 ≤ s5) ∧ s5 < (h0_2.length : Int) ∧ (0 ≤ s5) ∧ s5 < (h1_2.length : Int) ∧ let v2 : Bool := ((((ix h0_2 s5).Cipher).length : Int) != (((ix h1_2 s5).Cipher).length : Int))
(v2 = true →
 false = r0) ∧
(v2 = false →
 k1 (IntKind.i64.wrap (s5 + 1) : Int))) ∧
(decide (s5 < (h0_2.length : Int)) = false →
(TR (TTx.mk h0_0 h0_1 h0_2 h0_3 h0_4 h0_5 h0_6 h0_7 h0_8 h0_9) ∧ TL (TTx.mk h0_0 h0_1 h0_2 h0_3 h0_4 h0_5 h0_6 h0_7 h0_8 h0_9) ∧ (TTx.mk h0_0 h0_1 h0_2 h0_3 h0_4 h0_5 h0_6 h0_7 h0_8 h0_9).Outs.length ≤ 1048576 ∧ (∀ x ∈ (TTx.mk h0_0 h0_1 h0_2 h0_3 h0_4 h0_5 h0_6 h0_7 h0_8 h0_9).Outs, x.Cipher.length ≤ 1024)) ∧ let r3 : List Int := (encT (TTx.mk h0_0 h0_1 h0_2 h0_3 h0_4 h0_5 h0_6 h0_7 h0_8 h0_9) (TTx.mk h0_0 h0_1 h0_2 h0_3 h0_4 h0_5 h0_6 h0_7 h0_8 h0_9).Proof)
(TR (TTx.mk h1_0 h1_1 h1_2 h1_3 h1_4 h1_5 h1_6 h1_7 h1_8 h1_9) ∧ TL (TTx.mk h1_0 h1_1 h1_2 h1_3 h1_4 h1_5 h1_6 h1_7 h1_8 h1_9) ∧ (TTx.mk h1_0 h1_1 h1_2 h1_3 h1_4 h1_5 h1_6 h1_7 h1_8 h1_9).Outs.length ≤ 1048576 ∧ (∀ x ∈ (TTx.mk h1_0 h1_1 h1_2 h1_3 h1_4 h1_5 h1_6 h1_7 h1_8 h1_9).Outs, x.Cipher.length ≤ 1024)) ∧ let r4 : List Int := (encT (TTx.mk h1_0 h1_1 h1_2 h1_3 h1_4 h1_5 h1_6 h1_7 h1_8 h1_9) (TTx.mk h1_0 h1_1 h1_2 h1_3 h1_4 h1_5 h1_6 h1_7 h1_8 h1_9).Proof)
(r3.length ≤ 9223372036854775807) ∧ (decide (r3 = r4)) = r0)
set_option maxRecDepth 100000 in
theorem k1ho {r0 : Bool} {h0_0 : Int} {h0_1 : List Int} {h0_2 : List TOut} {h0_3 : Int} {h0_4 : Int} {h0_5 : Int} {h0_6 : Int} {h0_7 : Int} {h0_8 : Int} {h0_9 : List Int} {h1_0 : Int} {h1_1 : List Int} {h1_2 : List TOut} {h1_3 : Int} {h1_4 : Int} {h1_5 : Int} {h1_6 : Int} {h1_7 : Int} {h1_8 : Int} {h1_9 : List Int} {s5 : Int} (inv : Int → Prop) (μ : Int → Nat) (h0 : inv s5) (hs : ∀ (s5 : Int), inv s5 → k10b r0 (fun s5q => inv s5q ∧ μ s5q < μ s5) h0_0 h0_1 h0_2 h0_3 h0_4 h0_5 h0_6 h0_7 h0_8 h0_9 h1_0 h1_1 h1_2 h1_3 h1_4 h1_5 h1_6 h1_7 h1_8 h1_9 s5) : Md.Loop (s5, h0_0, h0_1, h0_2, h0_3, h0_4, h0_5, h0_6, h0_7, h0_8, h0_9, h1_0, h1_1, h1_2, h1_3, h1_4, h1_5, h1_6, h1_7, h1_8, h1_9, ()) (kgg (r0, ())) :=
  ⟨⟨fun s : Int × Int × (List Int) × (List TOut) × Int × Int × Int × Int × Int × Int × (List Int) × Int × (List Int) × (List TOut) × Int × Int × Int × Int × Int × Int × (List Int) × Unit => (s.2.1 = h0_0 ∧ s.2.2.1 = h0_1 ∧ s.2.2.2.1 = h0_2 ∧ s.2.2.2.2.1 = h0_3 ∧ s.2.2.2.2.2.1 = h0_4 ∧ s.2.2.2.2.2.2.1 = h0_5 ∧ s.2.2.2.2.2.2.2.1 = h0_6 ∧ s.2.2.2.2.2.2.2.2.1 = h0_7 ∧ s.2.2.2.2.2.2.2.2.2.1 = h0_8 ∧ s.2.2.2.2.2.2.2.2.2.2.1 = h0_9 ∧ s.2.2.2.2.2.2.2.2.2.2.2.1 = h1_0 ∧ s.2.2.2.2.2.2.2.2.2.2.2.2.1 = h1_1 ∧ s.2.2.2.2.2.2.2.2.2.2.2.2.2.1 = h1_2 ∧ s.2.2.2.2.2.2.2.2.2.2.2.2.2.2.1 = h1_3 ∧ s.2.2.2.2.2.2.2.2.2.2.2.2.2.2.2.1 = h1_4 ∧ s.2.2.2.2.2.2.2.2.2.2.2.2.2.2.2.2.1 = h1_5 ∧ s.2.2.2.2.2.2.2.2.2.2.2.2.2.2.2.2.2.1 = h1_6 ∧ s.2.2.2.2.2.2.2.2.2.2.2.2.2.2.2.2.2.2.1 = h1_7 ∧ s.2.2.2.2.2.2.2.2.2.2.2.2.2.2.2.2.2.2.2.1 = h1_8 ∧ s.2.2.2.2.2.2.2.2.2.2.2.2.2.2.2.2.2.2.2.2.1 = h1_9) ∧ inv s.1, fun s : Int × Int × (List Int) × (List TOut) × Int × Int × Int × Int × Int × Int × (List Int) × Int × (List Int) × (List TOut) × Int × Int × Int × Int × Int × Int × (List Int) × Unit => μ s.1, ⟨⟨rfl, rfl, rfl, rfl, rfl, rfl, rfl, rfl, rfl, rfl, rfl, rfl, rfl, rfl, rfl, rfl, rfl, rfl, rfl, rfl⟩, h0⟩, fun (s5p, h0_0p, h0_1p, h0_2p, h0_3p, h0_4p, h0_5p, h0_6p, h0_7p, h0_8p, h0_9p, h1_0p, h1_1p, h1_2p, h1_3p, h1_4p, h1_5p, h1_6p, h1_7p, h1_8p, h1_9p, ()) ⟨⟨eq0, eq1, eq2, eq3, eq4, eq5, eq6, eq7, eq8, eq9, eq10, eq11, eq12, eq13, eq14, eq15, eq16, eq17, eq18, eq19⟩, hi⟩ => by
    have eq0 : h0_0p = h0_0 := eq0; subst h0_0p; have eq1 : h0_1p = h0_1 := eq1; subst h0_1p; have eq2 : h0_2p = h0_2 := eq2; subst h0_2p; have eq3 : h0_3p = h0_3 := eq3; subst h0_3p; have eq4 : h0_4p = h0_4 := eq4; subst h0_4p; have eq5 : h0_5p = h0_5 := eq5; subst h0_5p; have eq6 : h0_6p = h0_6 := eq6; subst h0_6p; have eq7 : h0_7p = h0_7 := eq7; subst h0_7p; have eq8 : h0_8p = h0_8 := eq8; subst h0_8p; have eq9 : h0_9p = h0_9 := eq9; subst h0_9p; have eq10 : h1_0p = h1_0 := eq10; subst h1_0p; have eq11 : h1_1p = h1_1 := eq11; subst h1_1p; have eq12 : h1_2p = h1_2 := eq12; subst h1_2p; have eq13 : h1_3p = h1_3 := eq13; subst h1_3p; have eq14 : h1_4p = h1_4 := eq14; subst h1_4p; have eq15 : h1_5p = h1_5 := eq15; subst h1_5p; have eq16 : h1_6p = h1_6 := eq16; subst h1_6p; have eq17 : h1_7p = h1_7 := eq17; subst h1_7p; have eq18 : h1_8p = h1_8 := eq18; subst h1_8p; have eq19 : h1_9p = h1_9 := eq19; subst h1_9p; exact mpr_of (by kernel_rfl) ((congrArg (fun k => k10b r0 k h0_0 h0_1 h0_2 h0_3 h0_4 h0_5 h0_6 h0_7 h0_8 h0_9 h1_0 h1_1 h1_2 h1_3 h1_4 h1_5 h1_6 h1_7 h1_8 h1_9 s5p) (lpk1 (⟨rfl, rfl, rfl, rfl, rfl, rfl, rfl, rfl, rfl, rfl, rfl, rfl, rfl, rfl, rfl, rfl, rfl, rfl, rfl, rfl⟩ : h0_0 = h0_0 ∧ h0_1 = h0_1 ∧ h0_2 = h0_2 ∧ h0_3 = h0_3 ∧ h0_4 = h0_4 ∧ h0_5 = h0_5 ∧ h0_6 = h0_6 ∧ h0_7 = h0_7 ∧ h0_8 = h0_8 ∧ h0_9 = h0_9 ∧ h1_0 = h1_0 ∧ h1_1 = h1_1 ∧ h1_2 = h1_2 ∧ h1_3 = h1_3 ∧ h1_4 = h1_4 ∧ h1_5 = h1_5 ∧ h1_6 = h1_6 ∧ h1_7 = h1_7 ∧ h1_8 = h1_8 ∧ h1_9 = h1_9) inv (fun s5q => μ s5q < μ s5p))).mpr (hs s5p hi))⟩⟩
theorem bd40 : Callable Try.prog 40 := ⟨by rw [Try.func40]; kernel_rfl, by rw [Try.func40]; show some _ ≠ some _; decide⟩
theorem k1cv (p0 : TTx) (p1 : TTx) (h : TD p0 ∧ TD p1) : km0 (p0.Anchor, p0.Marks, p0.Outs, p0.Deposit, p0.Withdraw, p0.Fee, p0.Account, p0.Nonce, p0.Expiry, p0.Proof, p1.Anchor, p1.Marks, p1.Outs, p1.Deposit, p1.Withdraw, p1.Fee, p1.Account, p1.Nonce, p1.Expiry, p1.Proof, ()) (((sameT p0 p1) : Bool), ()) := by
  obtain ⟨⟨hr, hl, ho, hc⟩, hr', hl', ho', hc'⟩ := h
  refine k1j0 ⟨fun e => ?_, fun e => ⟨fun e2 => ?_, fun e2 => ?_⟩⟩
  · have e : ¬ ((p0.Outs.length : Int) = p1.Outs.length) := by simpa using e
    unfold sameT
    rw [decide_eq_false (by omega)]
    rfl
  · have e2 : ¬ p0.Expiry = p1.Expiry := by simpa using e2
    unfold sameT
    simp [e2]
  have e : (p0.Outs.length : Int) = p1.Outs.length := by simpa using e
  have e2 : p0.Expiry = p1.Expiry := by simpa using e2
  refine k1ho (fun i => 0 ≤ i ∧ i ≤ p0.Outs.length ∧ (p0.Outs.take i.toNat).map (·.Cipher.length) = (p1.Outs.take i.toNat).map (·.Cipher.length)) (fun i => (p0.Outs.length - i).toNat) ⟨by omega, by omega, by simp⟩ ?_
  rintro i ⟨g0, g1, g2⟩
  refine ⟨fun hh => ?_, fun hh => ?_⟩
  · have hh := of_decide_eq_true hh
    refine ⟨g0, hh, g0, by omega, fun e3 => ?_, fun e3 => ?_⟩
    · have e3 : ¬ (((ix p0.Outs i).Cipher.length : Int) = (ix p1.Outs i).Cipher.length) := by simpa using e3
      unfold sameT
      rw [decide_eq_false (p := p0.Outs.map _ = p1.Outs.map _)]
      · simp
      · intro h
        have h2 := congrArg (fun l => l[i.toNat]?) h
        simp only [List.getElem?_map] at h2
        rw [List.getElem?_eq_getElem (by omega), List.getElem?_eq_getElem (by omega)] at h2
        rw [ix_nat _ i g0 hh, ix_nat _ i g0 (by omega)] at e3
        simp at h2
        omega
    · have e3 : (((ix p0.Outs i).Cipher.length : Int) = (ix p1.Outs i).Cipher.length) := by simpa using e3
      rw [inc i p0.Outs.length g0 hh (by omega)]
      refine ⟨⟨by omega, by omega, ?_⟩, by omega⟩
      rw [ka _ i g0 hh, ka _ i g0 (by omega), List.map_append, List.map_append, g2]
      simp
      omega
  · have hh := of_decide_eq_false hh
    rw [List.take_of_length_le (by omega), List.take_of_length_le (by omega)] at g2
    simp only [TTx_eta]
    have hlen := kao p0.Outs 1024 hc
    refine ⟨⟨hr, hl, ho, hc⟩, ⟨hr', hl', ho', hc'⟩, ?_, ?_⟩
    · rw [k11n]
      have := hl.m
      have := hl.p
      have : (28 + 8 * 1024) * p0.Outs.length ≤ (28 + 8 * 1024) * 1048576 := Nat.mul_le_mul_left _ ho
      omega
    · unfold sameT
      rw [decide_eq_true (p := p0.Outs.length = p1.Outs.length) (by omega), decide_eq_true g2, beq_iff_eq.2 e2]
      simp
noncomputable def kyn : Con TB.den := k32.fnR (fun x => (fun (p0 : TTx) (p1 : TTx) => TD p0 ∧ TD p1) (TTx.mk x.1 x.2.1 x.2.2.1 x.2.2.2.1 x.2.2.2.2.1 x.2.2.2.2.2.1 x.2.2.2.2.2.2.1 x.2.2.2.2.2.2.2.1 x.2.2.2.2.2.2.2.2.1 x.2.2.2.2.2.2.2.2.2.1) (TTx.mk x.2.2.2.2.2.2.2.2.2.2.1 x.2.2.2.2.2.2.2.2.2.2.2.1 x.2.2.2.2.2.2.2.2.2.2.2.2.1 x.2.2.2.2.2.2.2.2.2.2.2.2.2.1 x.2.2.2.2.2.2.2.2.2.2.2.2.2.2.1 x.2.2.2.2.2.2.2.2.2.2.2.2.2.2.2.1 x.2.2.2.2.2.2.2.2.2.2.2.2.2.2.2.2.1 x.2.2.2.2.2.2.2.2.2.2.2.2.2.2.2.2.2.1 x.2.2.2.2.2.2.2.2.2.2.2.2.2.2.2.2.2.2.1 x.2.2.2.2.2.2.2.2.2.2.2.2.2.2.2.2.2.2.2.1)) fun x => ((fun (p0 : TTx) (p1 : TTx) => ((sameT p0 p1) : Bool)) (TTx.mk x.1 x.2.1 x.2.2.1 x.2.2.2.1 x.2.2.2.2.1 x.2.2.2.2.2.1 x.2.2.2.2.2.2.1 x.2.2.2.2.2.2.2.1 x.2.2.2.2.2.2.2.2.1 x.2.2.2.2.2.2.2.2.2.1) (TTx.mk x.2.2.2.2.2.2.2.2.2.2.1 x.2.2.2.2.2.2.2.2.2.2.2.1 x.2.2.2.2.2.2.2.2.2.2.2.2.1 x.2.2.2.2.2.2.2.2.2.2.2.2.2.1 x.2.2.2.2.2.2.2.2.2.2.2.2.2.2.1 x.2.2.2.2.2.2.2.2.2.2.2.2.2.2.2.1 x.2.2.2.2.2.2.2.2.2.2.2.2.2.2.2.2.1 x.2.2.2.2.2.2.2.2.2.2.2.2.2.2.2.2.2.1 x.2.2.2.2.2.2.2.2.2.2.2.2.2.2.2.2.2.2.1 x.2.2.2.2.2.2.2.2.2.2.2.2.2.2.2.2.2.2.2.1), ())
theorem k1iv : kyn.Ok Try.prog TB := Con.ok_fn k32 bd40 fun x h => k1gv (k1cv (TTx.mk x.1 x.2.1 x.2.2.1 x.2.2.2.1 x.2.2.2.2.1 x.2.2.2.2.2.1 x.2.2.2.2.2.2.1 x.2.2.2.2.2.2.2.1 x.2.2.2.2.2.2.2.2.1 x.2.2.2.2.2.2.2.2.2.1) (TTx.mk x.2.2.2.2.2.2.2.2.2.2.1 x.2.2.2.2.2.2.2.2.2.2.2.1 x.2.2.2.2.2.2.2.2.2.2.2.2.1 x.2.2.2.2.2.2.2.2.2.2.2.2.2.1 x.2.2.2.2.2.2.2.2.2.2.2.2.2.2.1 x.2.2.2.2.2.2.2.2.2.2.2.2.2.2.2.1 x.2.2.2.2.2.2.2.2.2.2.2.2.2.2.2.2.1 x.2.2.2.2.2.2.2.2.2.2.2.2.2.2.2.2.2.1 x.2.2.2.2.2.2.2.2.2.2.2.2.2.2.2.2.2.2.1 x.2.2.2.2.2.2.2.2.2.2.2.2.2.2.2.2.2.2.2.1) h)
end Go.Proofs.Ytnmakgfmimagmaa
namespace Go.Proofs.Ytnmakgfmimagmaa
open Go Go.Bv Go.Cv Go.Md Go.RowKit
def k35 : Con TB.den := Con.mk0 19 [.agg [.d (.int .u64), .d (.int .i64), .d (.int .u64), .d (.int .u64), .d (.int .u64), .d (.sl (.st 1))], .agg [.d (.int .u64), .d (.int .i64), .d (.int .u64), .d (.int .u64), .d (.int .u64), .d (.sl (.st 1))]] [] (.one (.one (.d (.bool)))) []
abbrev k16v := HL TB.den (hsT k35.ins (hsOs k35.pre))
abbrev ka5 := HL TB.den (hsV k35.res (hsOs k35.post))
noncomputable def k77 : Cx TB := ⟨inf, [kyn], [], 4, []⟩
noncomputable def kck : Code := Try.f19.body.getD .skip
noncomputable def kg4 : List ResultVar := Try.f19.results.toList
noncomputable def k1j3 (o : ka5) : Exit → TSt TB.den → Prop := thenT TB (fun s => ghs TB [] s fun s => WP TB k77 67 0 (cB (cB (cB kck))) .no s (retTQ TB k77 k35 kg4 o)) (retTQ TB k77 k35 kg4 o)
def kae : Tm := ⟨[0, 1], [.cells [.d (.int .u64), .d (.int .i64), .d (.int .u64), .d (.int .u64), .d (.int .u64), .d (.sl (.st 1))], .cells [.d (.int .u64), .d (.int .i64), .d (.int .u64), .d (.int .u64), .d (.int .u64), .d (.sl (.st 1))]], [2, 3, 5], [.one (.ptr 0 0), .one (.ptr 1 0), .one (.d (.int .i64))], 2⟩
noncomputable def k1i9 (o : ka5) (nx1 : HL TB.den kae.hs → Prop) : Exit → TSt TB.den → Prop := thenT TB (fun s => kae.mat TB 0 s nx1) (blockT TB 0 (k1j3 o))
noncomputable def kg0 (o : ka5) (nx1 : HL TB.den kae.hs → Prop) (i : HL TB.den kae.hs) : Prop := WP TB k77 67 0 (cA (cA (cB (cA (cB (cB kck)))))) .no (kae.fill TB i) (k1i9 o nx1)
noncomputable def k1ib (o : ka5) : An TB := .nd [] .no [] (.lp [] kae (kg0 o) fun nx1 => .no)
noncomputable def k11f (o : ka5) : An TB := .nd [] .no [] (.nd [] .no [] (.nd [] (k1ib o) [] .no))
noncomputable def km2 (x : k16v) (o : ka5) : Prop := WPh TB k77 67 0 kck (k11f o) (k35.st TB x) (retTQ TB k77 k35 kg4 o)
set_option maxRecDepth 100000 in
theorem k1ga (o : ka5) : OblH TB k77 67 0 kck (k11f o) (retTQ TB k77 k35 kg4 o) :=
  OblH.of_eq (X := (True ∧ ((True ∧ ((True ∧ True) ∧ True)) ∧ ((True ∧ ((∀ nx i, (kg0 o) nx i = (kg0 o) nx i) ∧ ∀ nx1 : HL TB.den kae.hs → Prop, ((True ∧ (True ∧ True)) ∧ ((True ∧ ((True ∧ True) ∧ True)) ∧ True)))) ∧ (True ∧ True))))) (by kernel_rfl) ⟨trivial, ⟨⟨trivial, ⟨⟨trivial, trivial⟩, trivial⟩⟩, ⟨⟨trivial, ⟨fun _ _ => rfl, fun _ => ⟨⟨trivial, ⟨trivial, trivial⟩⟩, ⟨⟨trivial, ⟨⟨trivial, trivial⟩, trivial⟩⟩, trivial⟩⟩⟩⟩, ⟨trivial, trivial⟩⟩⟩⟩
set_option maxRecDepth 100000 in
theorem k1hz {x : k16v} {o : ka5} (h : km2 x o) : SoundH Try.prog k35.f ((k35.args idf x).map (er TB)) ((k35.obs idf x).map (erO TB)) (er TB (k35.val idf o)) ((k35.ops idf o).map (erO TB)) :=
  Con.soundH (c := k35) (C := k77) TBok ⟨inf_ok, (all_cons k1iv all_nil), all_nil⟩ mix Try.func19 (show Try.f19.body = some kck by kernel_rfl) (show Try.f19.ntmps = 67 by kernel_rfl) (show Try.f19.results.toList = kg4 by kernel_rfl) rfl h (k1ga o)
set_option maxRecDepth 100000 in
theorem k1ii {p0 : TBlock} {p1 : TBlock} {r0 : Bool} (h :
(((p0.Parent != p1.Parent) = true →
 false = r0) ∧
((p0.Parent != p1.Parent) = false →
((p0.Height != p1.Height) = true →
 false = r0) ∧
((p0.Height != p1.Height) = false →
((p0.Miner != p1.Miner) = true →
 false = r0) ∧
((p0.Miner != p1.Miner) = false →
((p0.Work != p1.Work) = true →
 false = r0) ∧
((p0.Work != p1.Work) = false →
((p0.Nonce != p1.Nonce) = true →
 false = r0) ∧
((p0.Nonce != p1.Nonce) = false →
 let v1 : Bool := ((p0.Txs.length : Int) != (p1.Txs.length : Int))
(v1 = true →
 false = r0) ∧
(v1 = false →
 Md.Loop ((0 : Int), p0.Parent, p0.Height, p0.Miner, p0.Work, p0.Nonce, p0.Txs, p1.Parent, p1.Height, p1.Miner, p1.Work, p1.Nonce, p1.Txs, ()) (kg0 (r0, ())))))))))) : km2 (p0.Parent, p0.Height, p0.Miner, p0.Work, p0.Nonce, p0.Txs, p1.Parent, p1.Height, p1.Miner, p1.Work, p1.Nonce, p1.Txs, ()) (r0, ()) := WPh.of_eq (by kernel_rfl) h
def k10a (r0 : Bool) (k1 : Int → Prop) (h0_0 : Int) (h0_1 : Int) (h0_2 : Int) (h0_3 : Int) (h0_4 : Int) (h0_5 : List TTx) (h1_0 : Int) (h1_1 : Int) (h1_2 : Int) (h1_3 : Int) (h1_4 : Int) (h1_5 : List TTx) (s5 : Int) : Prop :=
(decide (s5 < (h0_5.length : Int)) = true →
(0 ≤ s5) ∧ s5 < (h0_5.length : Int) ∧ (0 ≤ s5) ∧ s5 < (h1_5.length : Int) ∧ (TD (ix h0_5 s5) ∧ TD (ix h1_5 s5)) ∧ ((!(sameT (ix h0_5 s5) (ix h1_5 s5))) = true →
 false = r0) ∧
((!(sameT (ix h0_5 s5) (ix h1_5 s5))) = false →
 k1 (IntKind.i64.wrap (s5 + 1) : Int))) ∧
(decide (s5 < (h0_5.length : Int)) = false →
 true = r0)
set_option maxRecDepth 100000 in
theorem k1h2 {r0 : Bool} {h0_0 : Int} {h0_1 : Int} {h0_2 : Int} {h0_3 : Int} {h0_4 : Int} {h0_5 : List TTx} {h1_0 : Int} {h1_1 : Int} {h1_2 : Int} {h1_3 : Int} {h1_4 : Int} {h1_5 : List TTx} {s5 : Int} (inv : Int → Prop) (μ : Int → Nat) (h0 : inv s5) (hs : ∀ (s5 : Int), inv s5 → k10a r0 (fun s5q => inv s5q ∧ μ s5q < μ s5) h0_0 h0_1 h0_2 h0_3 h0_4 h0_5 h1_0 h1_1 h1_2 h1_3 h1_4 h1_5 s5) : Md.Loop (s5, h0_0, h0_1, h0_2, h0_3, h0_4, h0_5, h1_0, h1_1, h1_2, h1_3, h1_4, h1_5, ()) (kg0 (r0, ())) :=
  ⟨⟨fun s : Int × Int × Int × Int × Int × Int × (List TTx) × Int × Int × Int × Int × Int × (List TTx) × Unit => (s.2.1 = h0_0 ∧ s.2.2.1 = h0_1 ∧ s.2.2.2.1 = h0_2 ∧ s.2.2.2.2.1 = h0_3 ∧ s.2.2.2.2.2.1 = h0_4 ∧ s.2.2.2.2.2.2.1 = h0_5 ∧ s.2.2.2.2.2.2.2.1 = h1_0 ∧ s.2.2.2.2.2.2.2.2.1 = h1_1 ∧ s.2.2.2.2.2.2.2.2.2.1 = h1_2 ∧ s.2.2.2.2.2.2.2.2.2.2.1 = h1_3 ∧ s.2.2.2.2.2.2.2.2.2.2.2.1 = h1_4 ∧ s.2.2.2.2.2.2.2.2.2.2.2.2.1 = h1_5) ∧ inv s.1, fun s : Int × Int × Int × Int × Int × Int × (List TTx) × Int × Int × Int × Int × Int × (List TTx) × Unit => μ s.1, ⟨⟨rfl, rfl, rfl, rfl, rfl, rfl, rfl, rfl, rfl, rfl, rfl, rfl⟩, h0⟩, fun (s5p, h0_0p, h0_1p, h0_2p, h0_3p, h0_4p, h0_5p, h1_0p, h1_1p, h1_2p, h1_3p, h1_4p, h1_5p, ()) ⟨⟨eq0, eq1, eq2, eq3, eq4, eq5, eq6, eq7, eq8, eq9, eq10, eq11⟩, hi⟩ => by
    have eq0 : h0_0p = h0_0 := eq0; subst h0_0p; have eq1 : h0_1p = h0_1 := eq1; subst h0_1p; have eq2 : h0_2p = h0_2 := eq2; subst h0_2p; have eq3 : h0_3p = h0_3 := eq3; subst h0_3p; have eq4 : h0_4p = h0_4 := eq4; subst h0_4p; have eq5 : h0_5p = h0_5 := eq5; subst h0_5p; have eq6 : h1_0p = h1_0 := eq6; subst h1_0p; have eq7 : h1_1p = h1_1 := eq7; subst h1_1p; have eq8 : h1_2p = h1_2 := eq8; subst h1_2p; have eq9 : h1_3p = h1_3 := eq9; subst h1_3p; have eq10 : h1_4p = h1_4 := eq10; subst h1_4p; have eq11 : h1_5p = h1_5 := eq11; subst h1_5p; exact mpr_of (by kernel_rfl) ((congrArg (fun k => k10a r0 k h0_0 h0_1 h0_2 h0_3 h0_4 h0_5 h1_0 h1_1 h1_2 h1_3 h1_4 h1_5 s5p) (lpk1 (⟨rfl, rfl, rfl, rfl, rfl, rfl, rfl, rfl, rfl, rfl, rfl, rfl⟩ : h0_0 = h0_0 ∧ h0_1 = h0_1 ∧ h0_2 = h0_2 ∧ h0_3 = h0_3 ∧ h0_4 = h0_4 ∧ h0_5 = h0_5 ∧ h1_0 = h1_0 ∧ h1_1 = h1_1 ∧ h1_2 = h1_2 ∧ h1_3 = h1_3 ∧ h1_4 = h1_4 ∧ h1_5 = h1_5) inv (fun s5q => μ s5q < μ s5p))).mpr (hs s5p hi))⟩⟩
theorem bd19 : Callable Try.prog 19 := ⟨by rw [Try.func19]; kernel_rfl, by rw [Try.func19]; show some _ ≠ some _; decide⟩
theorem k1cd (p0 : TBlock) (p1 : TBlock) (h : p0.Txs.length ≤ 9223372036854775807 ∧ (∀ x ∈ p0.Txs, TD x) ∧ (∀ x ∈ p1.Txs, TD x)) : km2 (p0.Parent, p0.Height, p0.Miner, p0.Work, p0.Nonce, p0.Txs, p1.Parent, p1.Height, p1.Miner, p1.Work, p1.Nonce, p1.Txs, ()) (((sameB p0 p1) : Bool), ()) := by
  obtain ⟨hl, ha, hb⟩ := h
  have no : ∀ {P : Prop}, ¬ P → (P → False) := fun h => h
  have nf : (¬ (p0.Parent = p1.Parent ∧ p0.Height = p1.Height ∧ p0.Miner = p1.Miner ∧ p0.Work = p1.Work ∧ p0.Nonce = p1.Nonce ∧ p0.Txs.length = p1.Txs.length ∧ ∀ i : Nat, i < p0.Txs.length → sameT (ix p0.Txs (i : Int)) (ix p1.Txs (i : Int)) = true)) → false = sameB p0 p1 := fun h => (decide_eq_false h).symm
  refine k1ii ⟨fun e => nf fun q => ?_, fun e1 => ⟨fun e => nf fun q => ?_, fun e2 => ⟨fun e => nf fun q => ?_, fun e3 => ⟨fun e => nf fun q => ?_, fun e4 => ⟨fun e => nf fun q => ?_, fun e5 => ⟨fun e => nf fun q => ?_, fun e6 => ?_⟩⟩⟩⟩⟩⟩
  · simp [q.1] at e
  · simp [q.2.1] at e
  · simp [q.2.2.1] at e
  · simp [q.2.2.2.1] at e
  · simp [q.2.2.2.2.1] at e
  · simp [q.2.2.2.2.2.1] at e
  simp only [bne_eq_false_iff_eq] at e1 e2 e3 e4 e5 e6
  have e6 : p0.Txs.length = p1.Txs.length := by omega
  refine k1h2 (fun i => 0 ≤ i ∧ i ≤ p0.Txs.length ∧ ∀ j : Nat, (j : Int) < i → sameT (ix p0.Txs (j : Int)) (ix p1.Txs (j : Int)) = true) (fun i => (p0.Txs.length - i).toNat) ⟨by omega, by omega, fun j hj => by omega⟩ ?_
  rintro i ⟨g0, g1, g2⟩
  refine ⟨fun hh => ?_, fun hh => ?_⟩
  · have hh := of_decide_eq_true hh
    rw [inc i p0.Txs.length g0 hh (by omega)]
    refine ⟨g0, hh, g0, by omega, ⟨ha _ (ix_mem _ i g0 hh), hb _ (ix_mem _ i g0 (by omega))⟩, fun e => nf fun q => ?_, fun e => ⟨⟨by omega, by omega, fun j hj => ?_⟩, by omega⟩⟩
    · have := q.2.2.2.2.2.2 i.toNat (by omega)
      rw [show ((i.toNat : Nat) : Int) = i by omega] at this
      rw [this] at e
      cases e
    · rcases Int.lt_or_eq_of_le (Int.le_of_lt_add_one hj) with h | h
      · exact g2 j h
      · rw [h]; simpa using e
  · have hh := of_decide_eq_false hh
    exact (decide_eq_true ⟨e1, e2, e3, e4, e5, e6, fun j hj => g2 j (by omega)⟩).symm
noncomputable def knd : Con TB.den := k35.fnR (fun x => (fun (p0 : TBlock) (p1 : TBlock) => p0.Txs.length ≤ 9223372036854775807 ∧ (∀ x ∈ p0.Txs, TD x) ∧ (∀ x ∈ p1.Txs, TD x)) (TBlock.mk x.1 x.2.1 x.2.2.1 x.2.2.2.1 x.2.2.2.2.1 x.2.2.2.2.2.1) (TBlock.mk x.2.2.2.2.2.2.1 x.2.2.2.2.2.2.2.1 x.2.2.2.2.2.2.2.2.1 x.2.2.2.2.2.2.2.2.2.1 x.2.2.2.2.2.2.2.2.2.2.1 x.2.2.2.2.2.2.2.2.2.2.2.1)) fun x => ((fun (p0 : TBlock) (p1 : TBlock) => ((sameB p0 p1) : Bool)) (TBlock.mk x.1 x.2.1 x.2.2.1 x.2.2.2.1 x.2.2.2.2.1 x.2.2.2.2.2.1) (TBlock.mk x.2.2.2.2.2.2.1 x.2.2.2.2.2.2.2.1 x.2.2.2.2.2.2.2.2.1 x.2.2.2.2.2.2.2.2.2.1 x.2.2.2.2.2.2.2.2.2.2.1 x.2.2.2.2.2.2.2.2.2.2.2.1), ())
theorem k113 : knd.Ok Try.prog TB := Con.ok_fn k35 bd19 fun x h => k1hz (k1cd (TBlock.mk x.1 x.2.1 x.2.2.1 x.2.2.2.1 x.2.2.2.2.1 x.2.2.2.2.2.1) (TBlock.mk x.2.2.2.2.2.2.1 x.2.2.2.2.2.2.2.1 x.2.2.2.2.2.2.2.2.1 x.2.2.2.2.2.2.2.2.2.1 x.2.2.2.2.2.2.2.2.2.2.1 x.2.2.2.2.2.2.2.2.2.2.2.1) h)
end Go.Proofs.Ytnmakgfmimagmaa
namespace Go.Proofs.Ytnmakgfmimagmaa
open Go Go.Bv Go.Cv Go.Md Go.RowKit
def k3b : Con TB.den := Con.mk0 10 [] [] (.one (.one (.d (.bool)))) []
abbrev k115 := HL TB.den (hsT k3b.ins (hsOs k3b.pre))
abbrev kl6 := HL TB.den (hsV k3b.res (hsOs k3b.post))
noncomputable def kdd : Cx TB := ⟨inf, [knq, krh, knd], [], 4, []⟩
noncomputable def kjl : Code := Try.f10.body.getD .skip
noncomputable def kni : List ResultVar := Try.f10.results.toList
noncomputable def kye (o : kl6) : An TB := .no
noncomputable def kjp (x : k115) (o : kl6) : Prop := WPh TB kdd 32 0 kjl (kye o) (k3b.st TB x) (retTQ TB kdd k3b kni o)
set_option maxRecDepth 100000 in
theorem k1cs (o : kl6) : OblH TB kdd 32 0 kjl (kye o) (retTQ TB kdd k3b kni o) :=
  OblH.of_eq (X := (True ∧ (True ∧ (True ∧ (True ∧ (True ∧ True)))))) (by kernel_rfl) ⟨trivial, ⟨trivial, ⟨trivial, ⟨trivial, ⟨trivial, trivial⟩⟩⟩⟩⟩
set_option maxRecDepth 100000 in
theorem k1d3 {x : k115} {o : kl6} (h : kjp x o) : SoundH Try.prog k3b.f ((k3b.args idf x).map (er TB)) ((k3b.obs idf x).map (erO TB)) (er TB (k3b.val idf o)) ((k3b.ops idf o).map (erO TB)) :=
  Con.soundH (c := k3b) (C := kdd) TBok ⟨inf_ok, (all_cons k17a (all_cons k1cu (all_cons k113 all_nil))), all_nil⟩ mix Try.func10 (show Try.f10.body = some kjl by kernel_rfl) (show Try.f10.ntmps = 32 by kernel_rfl) (show Try.f10.results.toList = kni by kernel_rfl) rfl h (k1cs o)
set_option maxRecDepth 100000 in
theorem k1ff  {r0 : Bool} (h :
((BR (TBlock.mk 0 1 0 1 0 ([] : List TTx))) ∧ let r1 : List Int := (if validB (TBlock.mk 0 1 0 1 0 ([] : List TTx)) = 0 then encBk (TBlock.mk 0 1 0 1 0 ([] : List TTx)) else [])
 let r2 : Int := (validB (TBlock.mk 0 1 0 1 0 ([] : List TTx)))
(BR (TBlock.mk 0 1 0 1 0 ([] : List TTx)) ∧ (TBlock.mk 0 1 0 1 0 ([] : List TTx)).Txs = [] ∧ (1 : Int) ≤ 9223372036854775807) ∧ let r3 : Int := ((mineS (TBlock.mk 0 1 0 1 0 ([] : List TTx)) (1 : Int)).b).Parent
 let r4 : Int := ((mineS (TBlock.mk 0 1 0 1 0 ([] : List TTx)) (1 : Int)).b).Height
 let r5 : Int := ((mineS (TBlock.mk 0 1 0 1 0 ([] : List TTx)) (1 : Int)).b).Miner
 let r6 : Int := ((mineS (TBlock.mk 0 1 0 1 0 ([] : List TTx)) (1 : Int)).b).Work
 let r7 : Int := ((mineS (TBlock.mk 0 1 0 1 0 ([] : List TTx)) (1 : Int)).b).Nonce
 let r8 : List TTx := ((mineS (TBlock.mk 0 1 0 1 0 ([] : List TTx)) (1 : Int)).b).Txs
 let r9 : Bool := ((mineS (TBlock.mk 0 1 0 1 0 ([] : List TTx)) (1 : Int)).ok)
(((r1.length : Int) == 40) = true →
((r2 == 0) = true →
(r9 = true →
((TBlock.mk 0 1 0 1 0 ([] : List TTx)).Txs.length ≤ 9223372036854775807 ∧ (∀ x ∈ (TBlock.mk 0 1 0 1 0 ([] : List TTx)).Txs, TD x) ∧ (∀ x ∈ (TBlock.mk r3 r4 r5 r6 r7 r8).Txs, TD x)) ∧ let r10 : Bool := (sameB (TBlock.mk 0 1 0 1 0 ([] : List TTx)) (TBlock.mk r3 r4 r5 r6 r7 r8))
 r10 = r0) ∧
(r9 = false →
 false = r0)) ∧
((r2 == 0) = false →
 false = r0)) ∧
(((r1.length : Int) == 40) = false →
 false = r0))) : kjp (()) (r0, ()) := WPh.of_eq (by kernel_rfl) h
theorem bd10 : Callable Try.prog 10 := ⟨by rw [Try.func10]; kernel_rfl, by rw [Try.func10]; show some _ ≠ some _; decide⟩
theorem k19e : kjp (()) ((true : Bool), ()) := by
  have r1 : BR ⟨0, 1, 0, 1, 0, []⟩ := ⟨by decide, by decide, by decide, by decide, by decide, (by intro x hx; cases hx)⟩
  have v1 : validB ⟨0, 1, 0, 1, 0, []⟩ = 0 := by decide +kernel
  have m1 : mineS ⟨0, 1, 0, 1, 0, []⟩ 1 = ⟨⟨0, 1, 0, 1, 0, []⟩, true⟩ := by
    unfold mineS
    rw [if_neg (by rw [v1]; decide)]
    exact if_pos (Int.tmod_one _)
  have l1 : (encBk ⟨0, 1, 0, 1, 0, []⟩).length = 40 := by simp [encBk]
  have s1 : sameB ⟨0, 1, 0, 1, 0, []⟩ ⟨0, 1, 0, 1, 0, []⟩ = true := decide_eq_true ⟨rfl, rfl, rfl, rfl, rfl, rfl, fun i hi => absurd hi (Nat.not_lt_zero i)⟩
  refine k1ff ?_
  simp [r1, v1, m1, l1, s1]
noncomputable def kln : Con TB.den := k3b.totR fun x => ((true : Bool), ())
theorem kwx : kln.Ok Try.prog TB := Con.ok_tot k3b bd10 fun x => k1d3 (k19e )
end Go.Proofs.Ytnmakgfmimagmaa
namespace Go.Proofs.Ytnmakgfmimagmaa
open Go Go.Bv Go.Cv Go.Md Go.RowKit
def k4i : Con TB.den := Con.mk0 94 [.one (.d (.int .u64))] [] (.one (.agg [.d (.int .u64), .d (.int .u64), .d (.int .u64)])) []
abbrev k1a4 := HL TB.den (hsT k4i.ins (hsOs k4i.pre))
abbrev kqa := HL TB.den (hsV k4i.res (hsOs k4i.post))
noncomputable def kia : Cx TB := ⟨inf, [], [], 4, []⟩
noncomputable def koo : Code := Try.f94.body.getD .skip
noncomputable def kts : List ResultVar := Try.f94.results.toList
noncomputable def k14h (o : kqa) : An TB := .no
noncomputable def kn3 (x : k1a4) (o : kqa) : Prop := WPh TB kia 26 0 koo (k14h o) (k4i.st TB x) (retTQ TB kia k4i kts o)
set_option maxRecDepth 100000 in
theorem k1jh (o : kqa) : OblH TB kia 26 0 koo (k14h o) (retTQ TB kia k4i kts o) :=
  OblH.of_eq (X := (True ∧ ((True ∧ (True ∧ ((True ∧ True) ∧ (True ∧ ((True ∧ True) ∧ (True ∧ ((True ∧ True) ∧ (True ∧ ((True ∧ True) ∧ (True ∧ ((True ∧ True) ∧ (True ∧ ((True ∧ True) ∧ (True ∧ ((True ∧ True) ∧ True))))))))))))))) ∧ (True ∧ True)))) (by kernel_rfl) ⟨trivial, ⟨⟨trivial, ⟨trivial, ⟨⟨trivial, trivial⟩, ⟨trivial, ⟨⟨trivial, trivial⟩, ⟨trivial, ⟨⟨trivial, trivial⟩, ⟨trivial, ⟨⟨trivial, trivial⟩, ⟨trivial, ⟨⟨trivial, trivial⟩, ⟨trivial, ⟨⟨trivial, trivial⟩, ⟨trivial, ⟨⟨trivial, trivial⟩, trivial⟩⟩⟩⟩⟩⟩⟩⟩⟩⟩⟩⟩⟩⟩⟩, ⟨trivial, trivial⟩⟩⟩
set_option maxRecDepth 100000 in
theorem k1jb {x : k1a4} {o : kqa} (h : kn3 x o) : SoundH Try.prog k4i.f ((k4i.args idf x).map (er TB)) ((k4i.obs idf x).map (erO TB)) (er TB (k4i.val idf o)) ((k4i.ops idf o).map (erO TB)) :=
  Con.soundH (c := k4i) (C := kia) TBok ⟨inf_ok, all_nil, all_nil⟩ mix Try.func94 (show Try.f94.body = some koo by kernel_rfl) (show Try.f94.ntmps = 26 by kernel_rfl) (show Try.f94.results.toList = kts by kernel_rfl) rfl h (k1jh o)
set_option maxRecDepth 100000 in
theorem k1jo {p0 : Int} {r0 : TA3} (h :
(((p0 == 17) = true →
 3 = r0.a0 ∧ 4 = r0.a1 ∧ 3 = r0.a2) ∧
((p0 == 17) = false →
((p0 == 97) = true →
 5 = r0.a0 ∧ 5 = r0.a1 ∧ 5 = r0.a2) ∧
((p0 == 97) = false →
((p0 == 193) = true →
 5 = r0.a0 ∧ 6 = r0.a1 ∧ 5 = r0.a2) ∧
((p0 == 193) = false →
((p0 == 257) = true →
 3 = r0.a0 ∧ 8 = r0.a1 ∧ 3 = r0.a2) ∧
((p0 == 257) = false →
((p0 == 12289) = true →
 11 = r0.a0 ∧ 12 = r0.a1 ∧ 5 = r0.a2) ∧
((p0 == 12289) = false →
((p0 == 65537) = true →
 3 = r0.a0 ∧ 16 = r0.a1 ∧ 3 = r0.a2) ∧
((p0 == 65537) = false →
((p0 == 18446744069414584321) = true →
 7 = r0.a0 ∧ 32 = r0.a1 ∧ 7 = r0.a2) ∧
((p0 == 18446744069414584321) = false →
 0 = r0.a0 ∧ 0 = r0.a1 ∧ 0 = r0.a2))))))))) : kn3 (p0, ()) (r0.a0, r0.a1, r0.a2, ()) := WPh.of_eq (by kernel_rfl) h
theorem bd94 : Callable Try.prog 94 := ⟨by rw [Try.func94]; kernel_rfl, by rw [Try.func94]; show some _ ≠ some _; decide⟩
theorem k1fq (p0 : Int) (h : p0 = 18446744069414584321) : kn3 (p0, ()) ((7 : Int), (32 : Int), (7 : Int), ()) := by
  refine k1jo (r0 := TA3.mk 7 32 7) ?_
  simp [h]
noncomputable def kqq : Con TB.den := k4i.fnR (fun x => (fun (p0 : Int) => p0 = 18446744069414584321) x.1) fun x => ((fun (p0 : Int) => (7 : Int)) x.1, (fun (p0 : Int) => (32 : Int)) x.1, (fun (p0 : Int) => (7 : Int)) x.1, ())
theorem k167 : kqq.Ok Try.prog TB := Con.ok_fn k4i bd94 fun x h => k1jb (k1fq x.1 h)
end Go.Proofs.Ytnmakgfmimagmaa
namespace Go.Proofs.Ytnmakgfmimagmaa
open Go Go.Bv Go.Cv Go.Md Go.RowKit
def k39 : Con TB.den := Con.mk0 88 [.one (.d (.int .u64))] [] (.one (.one (.d (.bool)))) []
abbrev k10k := HL TB.den (hsT k39.ins (hsOs k39.pre))
abbrev kl0 := HL TB.den (hsV k39.res (hsOs k39.post))
noncomputable def ke4 : Cx TB := ⟨inf, [kqq], [], 4, []⟩
noncomputable def kjq : Code := Try.f88.body.getD .skip
noncomputable def koc : List ResultVar := Try.f88.results.toList
noncomputable def ky4 (o : kl0) : An TB := .no
noncomputable def kk0 (x : k10k) (o : kl0) : Prop := WPh TB ke4 7 0 kjq (ky4 o) (k39.st TB x) (retTQ TB ke4 k39 koc o)
set_option maxRecDepth 100000 in
theorem k1bs (o : kl0) : OblH TB ke4 7 0 kjq (ky4 o) (retTQ TB ke4 k39 koc o) :=
  OblH.of_eq (X := (True ∧ (True ∧ True))) (by kernel_rfl) ⟨trivial, ⟨trivial, trivial⟩⟩
set_option maxRecDepth 100000 in
theorem k1dl {x : k10k} {o : kl0} (h : kk0 x o) : SoundH Try.prog k39.f ((k39.args idf x).map (er TB)) ((k39.obs idf x).map (erO TB)) (er TB (k39.val idf o)) ((k39.ops idf o).map (erO TB)) :=
  Con.soundH (c := k39) (C := ke4) TBok ⟨inf_ok, (all_cons k167 all_nil), all_nil⟩ mix Try.func88 (show Try.f88.body = some kjq by kernel_rfl) (show Try.f88.ntmps = 7 by kernel_rfl) (show Try.f88.results.toList = koc by kernel_rfl) rfl h (k1bs o)
set_option maxRecDepth 100000 in
theorem k1fh {p0 : Int} {r0 : Bool} (h :
((p0 = 18446744069414584321) ∧ decide (0 < (7 : Int)) = r0)) : kk0 (p0, ()) (r0, ()) := WPh.of_eq (by kernel_rfl) h
theorem bd88 : Callable Try.prog 88 := ⟨by rw [Try.func88]; kernel_rfl, by rw [Try.func88]; show some _ ≠ some _; decide⟩
theorem k19b (p0 : Int) (h : p0 = 18446744069414584321) : kk0 (p0, ()) ((true : Bool), ()) := by
  exact k1fh ⟨h, rfl⟩
noncomputable def k7k : Con TB.den := k39.fnR (fun x => (fun (p0 : Int) => p0 = 18446744069414584321) x.1) fun x => ((fun (p0 : Int) => (true : Bool)) x.1, ())
theorem kau : k7k.Ok Try.prog TB := Con.ok_fn k39 bd88 fun x h => k1dl (k19b x.1 h)
end Go.Proofs.Ytnmakgfmimagmaa
namespace Go.Proofs.Ytnmakgfmimagmaa
open Go Go.Bv Go.Cv Go.Md Go.RowKit
def k4b : Con TB.den := Con.mk0 95 [.one (.d (.int .u64)), .one (.d (.int .u64)), .one (.d (.int .u64))] [] (.one (.one (.d (.int .u64)))) []
abbrev k1a7 := HL TB.den (hsT k4b.ins (hsOs k4b.pre))
abbrev kq2 := HL TB.den (hsV k4b.res (hsOs k4b.post))
noncomputable def kip : Cx TB := ⟨inf, [k7k], [], 4, []⟩
noncomputable def kno : Code := Try.f95.body.getD .skip
noncomputable def ktw : List ResultVar := Try.f95.results.toList
noncomputable def k16t (o : kq2) : An TB := .no
noncomputable def knx (x : k1a7) (o : kq2) : Prop := WPh TB kip 29 0 kno (k16t o) (k4b.st TB x) (retTQ TB kip k4b ktw o)
set_option maxRecDepth 100000 in
theorem k1ip (o : kq2) : OblH TB kip 29 0 kno (k16t o) (retTQ TB kip k4b ktw o) :=
  OblH.of_eq (X := (True ∧ ((True ∧ ((True ∧ True) ∧ True)) ∧ (True ∧ ((True ∧ ((True ∧ True) ∧ True)) ∧ (True ∧ True)))))) (by kernel_rfl) ⟨trivial, ⟨⟨trivial, ⟨⟨trivial, trivial⟩, trivial⟩⟩, ⟨trivial, ⟨⟨trivial, ⟨⟨trivial, trivial⟩, trivial⟩⟩, ⟨trivial, trivial⟩⟩⟩⟩⟩
set_option maxRecDepth 100000 in
theorem k1ig {x : k1a7} {o : kq2} (h : knx x o) : SoundH Try.prog k4b.f ((k4b.args idf x).map (er TB)) ((k4b.obs idf x).map (erO TB)) (er TB (k4b.val idf o)) ((k4b.ops idf o).map (erO TB)) :=
  Con.soundH (c := k4b) (C := kip) TBok ⟨inf_ok, (all_cons kau all_nil), all_nil⟩ mix Try.func95 (show Try.f95.body = some kno by kernel_rfl) (show Try.f95.ntmps = 29 by kernel_rfl) (show Try.f95.results.toList = ktw by kernel_rfl) rfl h (k1ip o)
set_option maxRecDepth 100000 in
theorem k1k2 {p0 : Int} {p1 : Int} {p2 : Int} {r0 : Int} (h :
((p0 = 18446744069414584321) ∧ ((!true) = true →
 0 = r0) ∧
((!true) = false →
(p0 ≠ 0) ∧ (p0 ≠ 0) ∧ let v1 : Bool := decide ((IntKind.u64.wrap (p0 - (Int.tmod p2 p0))) ≤ (Int.tmod p1 p0))
(v1 = true →
 let v2 : Int := IntKind.u64.wrap ((Int.tmod p1 p0) - (IntKind.u64.wrap (p0 - (Int.tmod p2 p0))))
 v2 = r0) ∧
(v1 = false →
 let v3 : Int := IntKind.u64.wrap ((Int.tmod p1 p0) + (Int.tmod p2 p0))
 v3 = r0)))) : knx (p0, p1, p2, ()) (r0, ()) := WPh.of_eq (by kernel_rfl) h
theorem bd95 : Callable Try.prog 95 := ⟨by rw [Try.func95]; kernel_rfl, by rw [Try.func95]; show some _ ≠ some _; decide⟩
theorem k1h4 (p0 : Int) (p1 : Int) (p2 : Int) (h : p0 = 18446744069414584321 ∧ U64 p1 ∧ U64 p2) : knx (p0, p1, p2, ()) ((((p1 + p2) % 18446744069414584321) : Int), ()) := by
  obtain ⟨rfl, h1, h2⟩ := h
  refine k1k2 ⟨rfl, fun h => by simp at h, fun _ => ?_⟩
  rw [tmod_nn _ _ h1.1, tmod_nn _ _ h2.1]
  simp only [u64w]
  refine ⟨by omega, by omega, fun h => ?_, fun h => ?_⟩
  · have h := of_decide_eq_true h
    omega
  · have h := of_decide_eq_false h
    omega
noncomputable def kg7 : Con TB.den := k4b.fnR (fun x => (fun (p0 : Int) (p1 : Int) (p2 : Int) => p0 = 18446744069414584321 ∧ U64 p1 ∧ U64 p2) x.1 x.2.1 x.2.2.1) fun x => ((fun (p0 : Int) (p1 : Int) (p2 : Int) => (((p1 + p2) % 18446744069414584321) : Int)) x.1 x.2.1 x.2.2.1, ())
theorem kmo : kg7.Ok Try.prog TB := Con.ok_fn k4b bd95 fun x h => k1ig (k1h4 x.1 x.2.1 x.2.2.1 h)
end Go.Proofs.Ytnmakgfmimagmaa
namespace Go.Proofs.Ytnmakgfmimagmaa
open Go Go.Bv Go.Cv Go.Md Go.RowKit
def k4a : Con TB.den := Con.mk0 96 [.one (.d (.int .u64)), .one (.d (.int .u64)), .one (.d (.int .u64))] [] (.one (.one (.d (.int .u64)))) []
abbrev k1ak := HL TB.den (hsT k4a.ins (hsOs k4a.pre))
abbrev kqd := HL TB.den (hsV k4a.res (hsOs k4a.post))
noncomputable def kho : Cx TB := ⟨inf, [k7k, kj7, kjz], [], 4, []⟩
noncomputable def ko8 : Code := Try.f96.body.getD .skip
noncomputable def kth : List ResultVar := Try.f96.results.toList
noncomputable def k16k (o : kqd) : An TB := .no
noncomputable def knr (x : k1ak) (o : kqd) : Prop := WPh TB kho 32 0 ko8 (k16k o) (k4a.st TB x) (retTQ TB kho k4a kth o)
set_option maxRecDepth 100000 in
theorem k1io (o : kqd) : OblH TB kho 32 0 ko8 (k16k o) (retTQ TB kho k4a kth o) :=
  OblH.of_eq (X := (True ∧ ((True ∧ ((True ∧ True) ∧ True)) ∧ (True ∧ (True ∧ (True ∧ True)))))) (by kernel_rfl) ⟨trivial, ⟨⟨trivial, ⟨⟨trivial, trivial⟩, trivial⟩⟩, ⟨trivial, ⟨trivial, ⟨trivial, trivial⟩⟩⟩⟩⟩
set_option maxRecDepth 100000 in
theorem k1i5 {x : k1ak} {o : kqd} (h : knr x o) : SoundH Try.prog k4a.f ((k4a.args idf x).map (er TB)) ((k4a.obs idf x).map (erO TB)) (er TB (k4a.val idf o)) ((k4a.ops idf o).map (erO TB)) :=
  Con.soundH (c := k4a) (C := kho) TBok ⟨inf_ok, (all_cons kau (all_cons kuj (all_cons kvk all_nil))), all_nil⟩ mix Try.func96 (show Try.f96.body = some ko8 by kernel_rfl) (show Try.f96.ntmps = 32 by kernel_rfl) (show Try.f96.results.toList = kth by kernel_rfl) rfl h (k1io o)
set_option maxRecDepth 100000 in
theorem k1ka {p0 : Int} {p1 : Int} {p2 : Int} {r0 : Int} (h :
((p0 = 18446744069414584321) ∧ ((!true) = true →
 0 = r0) ∧
((!true) = false →
(p0 ≠ 0) ∧ (p0 ≠ 0) ∧ (U64 (Int.tmod p1 p0) ∧ U64 (Int.tmod p2 p0)) ∧ let r1 : Int := ((Int.tmod p1 p0) * (Int.tmod p2 p0) / 18446744073709551616)
 let r2 : Int := ((Int.tmod p1 p0) * (Int.tmod p2 p0) % 18446744073709551616)
(U64 r1 ∧ U64 r2 ∧ U64 p0 ∧ r1 < p0) ∧ ((r1 * 18446744073709551616 + r2) % p0) = r0))) : knr (p0, p1, p2, ()) (r0, ()) := WPh.of_eq (by kernel_rfl) h
theorem bd96 : Callable Try.prog 96 := ⟨by rw [Try.func96]; kernel_rfl, by rw [Try.func96]; show some _ ≠ some _; decide⟩
theorem k1gj (p0 : Int) (p1 : Int) (p2 : Int) (h : p0 = 18446744069414584321 ∧ U64 p1 ∧ U64 p2) : knr (p0, p1, p2, ()) (((p1 * p2 % 18446744069414584321) : Int), ()) := by
  obtain ⟨rfl, h1, h2⟩ := h
  refine k1ka ⟨rfl, fun h => by simp at h, fun _ => ?_⟩
  rw [tmod_nn _ _ h1.1, tmod_nn _ _ h2.1, Int.mul_emod p1 p2]
  have a1 : 0 ≤ p1 % 18446744069414584321 ∧ p1 % 18446744069414584321 < 18446744069414584321 := by omega
  have a2 : 0 ≤ p2 % 18446744069414584321 ∧ p2 % 18446744069414584321 < 18446744069414584321 := by omega
  generalize p1 % 18446744069414584321 = a at *
  generalize p2 % 18446744069414584321 = b at *
  have h3 : 0 ≤ a * b := Int.mul_nonneg a1.1 a2.1
  have h4 : a * b ≤ 18446744069414584320 * 18446744069414584320 := Int.mul_le_mul (by omega) (by omega) a2.1 (by omega)
  generalize a * b = m at *
  refine ⟨by omega, by omega, ⟨⟨by omega, by omega⟩, ⟨by omega, by omega⟩⟩, ⟨⟨by omega, by omega⟩, ⟨by omega, by omega⟩, ⟨by omega, by omega⟩, by omega⟩, ?_⟩
  rw [show m / 18446744073709551616 * 18446744073709551616 + m % 18446744073709551616 = m by omega]
noncomputable def krd : Con TB.den := k4a.fnR (fun x => (fun (p0 : Int) (p1 : Int) (p2 : Int) => p0 = 18446744069414584321 ∧ U64 p1 ∧ U64 p2) x.1 x.2.1 x.2.2.1) fun x => ((fun (p0 : Int) (p1 : Int) (p2 : Int) => ((p1 * p2 % 18446744069414584321) : Int)) x.1 x.2.1 x.2.2.1, ())
theorem k17i : krd.Ok Try.prog TB := Con.ok_fn k4a bd96 fun x h => k1i5 (k1gj x.1 x.2.1 x.2.2.1 h)
end Go.Proofs.Ytnmakgfmimagmaa
namespace Go.Proofs.Ytnmakgfmimagmaa
open Go Go.Bv Go.Cv Go.Md Go.RowKit
def k1q : Con TB.den := Con.mk0 105 [.one (.d (.int .u64))] [] (.one (.one (.d (.int .u64)))) []
abbrev ks0 := HL TB.den (hsT k1q.ins (hsOs k1q.pre))
abbrev kf6 := HL TB.den (hsV k1q.res (hsOs k1q.post))
noncomputable def k9m : Cx TB := ⟨inf, [kqq], [], 4, []⟩
noncomputable def kft : Code := Try.f105.body.getD .skip
noncomputable def khx : List ResultVar := Try.f105.results.toList
noncomputable def kpl (o : kf6) : An TB := .no
noncomputable def kfy (x : ks0) (o : kf6) : Prop := WPh TB k9m 6 0 kft (kpl o) (k1q.st TB x) (retTQ TB k9m k1q khx o)
set_option maxRecDepth 100000 in
theorem k12c (o : kf6) : OblH TB k9m 6 0 kft (kpl o) (retTQ TB k9m k1q khx o) :=
  OblH.of_eq (X := (True ∧ (True ∧ True))) (by kernel_rfl) ⟨trivial, ⟨trivial, trivial⟩⟩
set_option maxRecDepth 100000 in
theorem k13y {x : ks0} {o : kf6} (h : kfy x o) : SoundH Try.prog k1q.f ((k1q.args idf x).map (er TB)) ((k1q.obs idf x).map (erO TB)) (er TB (k1q.val idf o)) ((k1q.ops idf o).map (erO TB)) :=
  Con.soundH (c := k1q) (C := k9m) TBok ⟨inf_ok, (all_cons k167 all_nil), all_nil⟩ mix Try.func105 (show Try.f105.body = some kft by kernel_rfl) (show Try.f105.ntmps = 6 by kernel_rfl) (show Try.f105.results.toList = khx by kernel_rfl) rfl h (k12c o)
set_option maxRecDepth 100000 in
theorem k16m {p0 : Int} {r0 : Int} (h :
((p0 = 18446744069414584321) ∧ 7 = r0)) : kfy (p0, ()) (r0, ()) := WPh.of_eq (by kernel_rfl) h
theorem bd105 : Callable Try.prog 105 := ⟨by rw [Try.func105]; kernel_rfl, by rw [Try.func105]; show some _ ≠ some _; decide⟩
theorem kzn (p0 : Int) (h : p0 = 18446744069414584321) : kfy (p0, ()) ((7 : Int), ()) := by
  exact k16m ⟨h, rfl⟩
noncomputable def koj : Con TB.den := k1q.fnR (fun x => (fun (p0 : Int) => p0 = 18446744069414584321) x.1) fun x => ((fun (p0 : Int) => (7 : Int)) x.1, ())
theorem k152 : koj.Ok Try.prog TB := Con.ok_fn k1q bd105 fun x h => k13y (kzn x.1 h)
end Go.Proofs.Ytnmakgfmimagmaa
