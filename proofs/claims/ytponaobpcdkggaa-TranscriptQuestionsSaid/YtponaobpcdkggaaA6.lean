/-
  Parts of the proofs that the laws of this seat hold of every input, merged by a program: a machine over pure data that is sound for the model, what each function of the translation does in it, and plain lemmas. No conditions but those in each theorem.
-/
import Derived.Test.YtponaobpcdkggaaA5
set_option linter.all false
namespace Go.Proofs.Ytponaobpcdkggaa
open Go Go.Bv Go.Cv Go.Md Go.RowKit
def k1a : Con TB.den := Con.mk0 46 [.one (.row 0), .one (.d (.int .i64)), .one (.d (.int .i64)), .one (.d (.int .i64))] [.vec (.int .i64)] (.tup []) [.vec (.int .i64)]
abbrev kf5 := HL TB.den (hsT k1a.ins (hsOs k1a.pre))
abbrev ki := HL TB.den (hsV k1a.res (hsOs k1a.post))
noncomputable def k1p : Cx TB := ⟨inf, [k9w, kch, k9u, kaz, kam, k7z, k6w, k9m, kbx], [], 4, []⟩
noncomputable def k20 : Code := Try.f46.body.getD .skip
noncomputable def k71 : List ResultVar := Try.f46.results.toList
noncomputable def knm (o : ki) : Exit → TSt TB.den → Prop := blockT TB 0 (retTQ TB k1p k1a k71 o)
def kg : Tm := ⟨[0], [.vec (.int .i64)], [0, 1, 2, 3, 8, 9], [.one (.row 0), .one (.d (.int .i64)), .one (.d (.int .i64)), .one (.d (.int .i64)), .one (.d (.bool)), .one (.d (.bool))], 1⟩
noncomputable def k3r (o : ki) (nx1 : HL TB.den kg.hs → Prop) : Exit → TSt TB.den → Prop := thenT TB (fun s => kg.mat TB 1 s nx1) (knm o)
noncomputable def koc (o : ki) (nx1 : HL TB.den kg.hs → Prop) : Exit → TSt TB.den → Prop := thenT TB (fun s => ghs TB [] s fun s => WP TB k1p 134 1 (cB (cB (cB (cB (cB (cB (cB (cB (cA (cA (cA (cB (cB k20))))))))))))) .no s (blockT TB 1 (k3r o nx1))) (blockT TB 1 (k3r o nx1))
def k6l : Tm := ⟨[0], [.vec (.int .i64)], [0, 1, 2, 3, 8, 9, 10, 11, 87], [.one (.row 0), .one (.d (.int .i64)), .one (.d (.int .i64)), .one (.d (.int .i64)), .one (.d (.bool)), .one (.d (.bool)), .one (.d (.int .i64)), .one (.d (.int .i64)), .one (.d (.bool))], 61⟩
noncomputable def kd3 (o : ki) (nx1 : HL TB.den kg.hs → Prop) (i : HL TB.den k6l.hs) : Prop := ghs TB [] (k6l.fill TB i) fun s => WP TB k1p 134 1 (cB (cA (cB (cB (cB (cB (cB (cB (cB (cA (cA (cA (cB (cB k20)))))))))))))) .no s (koc o nx1)
structure ke5 (o : ki) (nx1 : HL TB.den kg.hs → Prop) (i : HL TB.den k6l.hs) : Prop where
  h : kd3 o nx1 i
noncomputable def kdq (o : ki) (nx1 : HL TB.den kg.hs → Prop) : An TB := .jn k6l (ke5 o nx1) [] .no [] .no
def k5j : Tm := ⟨[0], [.vec (.int .i64)], [0, 1, 2, 3, 8, 9, 10, 11], [.one (.row 0), .one (.d (.int .i64)), .one (.d (.int .i64)), .one (.d (.int .i64)), .one (.d (.bool)), .one (.d (.bool)), .one (.d (.int .i64)), .one (.d (.int .i64))], 1⟩
noncomputable def kd2 (o : ki) (nx1 : HL TB.den kg.hs → Prop) (i : HL TB.den k5j.hs) : Prop := ghs TB [] (k5j.fill TB i) fun s => WP TB k1p 134 1 (cB (cB (cB (cB (cB (cB (cB (cA (cA (cA (cB (cB k20)))))))))))) (.nd [] (kdq o nx1) [] .no) s (blockT TB 1 (k3r o nx1))
structure k8w (o : ki) (nx1 : HL TB.den kg.hs → Prop) (i : HL TB.den k5j.hs) : Prop where
  h : kd2 o nx1 i
noncomputable def knw (o : ki) (nx1 : HL TB.den kg.hs → Prop) : Exit → TSt TB.den → Prop := thenT TB (fun s => k5j.mat TB 1 s (k8w o nx1)) (blockT TB 1 (k3r o nx1))
def k6n : Tm := ⟨[0], [.vec (.int .i64)], [0, 1, 2, 3, 8, 9, 10, 11, 68], [.one (.row 0), .one (.d (.int .i64)), .one (.d (.int .i64)), .one (.d (.int .i64)), .one (.d (.bool)), .one (.d (.bool)), .one (.d (.int .i64)), .one (.d (.int .i64)), .one (.d (.bool))], 1⟩
noncomputable def kd6 (o : ki) (nx1 : HL TB.den kg.hs → Prop) (i : HL TB.den k6n.hs) : Prop := ghs TB [] (k6n.fill TB i) fun s => WP TB k1p 134 1 (cB (cA (cB (cB (cB (cB (cB (cB (cA (cA (cA (cB (cB k20))))))))))))) .no s (knw o nx1)
structure kdn (o : ki) (nx1 : HL TB.den kg.hs → Prop) (i : HL TB.den k6n.hs) : Prop where
  h : kd6 o nx1 i
noncomputable def ko5 (o : ki) (nx1 : HL TB.den kg.hs → Prop) : An TB := .jn k6n (kdn o nx1) [] .no [] .no
noncomputable def kdu (o : ki) (nx1 : HL TB.den kg.hs → Prop) : An TB := .jn k5j (k8w o nx1) [] (ko5 o nx1) [] (.nd [] (kdq o nx1) [] .no)
def k6k : Tm := ⟨[0], [.vec (.int .i64)], [0, 1, 2, 3, 8, 9, 10, 11, 12], [.one (.row 0), .one (.d (.int .i64)), .one (.d (.int .i64)), .one (.d (.int .i64)), .one (.d (.bool)), .one (.d (.bool)), .one (.d (.int .i64)), .one (.d (.int .i64)), .one (.d (.int .i64))], 1⟩
noncomputable def kd7 (o : ki) (nx1 : HL TB.den kg.hs → Prop) (i : HL TB.den k6k.hs) : Prop := ghs TB [] (k6k.fill TB i) fun s => WP TB k1p 134 1 (cB (cB (cB (cB (cB (cB (cA (cA (cA (cB (cB k20))))))))))) (kdu o nx1) s (blockT TB 1 (k3r o nx1))
structure kdm (o : ki) (nx1 : HL TB.den kg.hs → Prop) (i : HL TB.den k6k.hs) : Prop where
  h : kd7 o nx1 i
noncomputable def kcz (o : ki) (nx1 : HL TB.den kg.hs → Prop) : An TB := .jn k6k (kdm o nx1) [] .no [] (kdu o nx1)
def k6m : Tm := ⟨[0], [.vec (.int .i64)], [0, 1, 2, 3, 8, 9, 10], [.one (.row 0), .one (.d (.int .i64)), .one (.d (.int .i64)), .one (.d (.int .i64)), .one (.d (.bool)), .one (.d (.bool)), .one (.d (.int .i64))], 1⟩
noncomputable def kd5 (o : ki) (nx1 : HL TB.den kg.hs → Prop) (i : HL TB.den k6m.hs) : Prop := ghs TB [] (k6m.fill TB i) fun s => WP TB k1p 134 1 (cB (cB (cB (cB (cA (cA (cA (cB (cB k20))))))))) (.nd [] .no [] (kcz o nx1)) s (blockT TB 1 (k3r o nx1))
structure k70 (o : ki) (nx1 : HL TB.den kg.hs → Prop) (i : HL TB.den k6m.hs) : Prop where
  h : kd5 o nx1 i
noncomputable def kmy (o : ki) (nx1 : HL TB.den kg.hs → Prop) : An TB := .jn k6m (k70 o nx1) [] .no [] (.nd [] .no [] (kcz o nx1))
noncomputable def kcu (o : ki) (nx1 : HL TB.den kg.hs → Prop) : An TB := .nd [] .no [] (.nd [] .no [] (kmy o nx1))
noncomputable def k5o (o : ki) (nx1 : HL TB.den kg.hs → Prop) (i : HL TB.den kg.hs) : Prop := WP TB k1p 134 1 (cA (cA (cB (cB k20)))) (.nd [] .no [] (kcu o nx1)) (kg.fill TB i) (k3r o nx1)
noncomputable def kmz (o : ki) : An TB := .lp [] kg (k5o o) fun nx1 => (.nd [] .no [] (kcu o nx1))
noncomputable def kea (o : ki) : An TB := .nd [] .no [] (.nd [] .no [] (kmz o))
noncomputable def k89 (x : kf5) (o : ki) : Prop := WPh TB k1p 134 1 k20 (kea o) (k1a.st TB x) (retTQ TB k1p k1a k71 o)
set_option maxRecDepth 100000 in
theorem kn2 (o : ki) : OblH TB k1p 134 1 k20 (kea o) (retTQ TB k1p k1a k71 o) :=
  OblH.of_eq (X := (True ∧ (True ∧ ((∀ nx i, (k5o o) nx i = (k5o o) nx i) ∧ ∀ nx1 : HL TB.den kg.hs → Prop, (True ∧ ((True ∧ ((True ∧ True) ∧ True)) ∧ ((True ∧ ((True ∧ True) ∧ True)) ∧ ((True ∧ ((True ∧ True) ∧ True)) ∧ (∀ i, (k70 o nx1) i = (kd5 o nx1) i) ∧ (True ∧ ((True ∧ ((True ∧ (True ∧ True)) ∧ True)) ∧ (∀ i, (kdm o nx1) i = (kd7 o nx1) i) ∧ ((True ∧ (∀ i, (kdn o nx1) i = (kd6 o nx1) i) ∧ ((True ∧ (True ∧ True)) ∧ True)) ∧ (∀ i, (k8w o nx1) i = (kd2 o nx1) i) ∧ ((True ∧ (∀ i, (ke5 o nx1) i = (kd3 o nx1) i) ∧ ((True ∧ (True ∧ True)) ∧ True)) ∧ (True ∧ (True ∧ (True ∧ (True ∧ (True ∧ ((True ∧ (True ∧ True)) ∧ (True ∧ (True ∧ True)))))))))))))))))))) (by kernel_rfl) ⟨trivial, ⟨trivial, ⟨fun _ _ => rfl, fun _ => ⟨trivial, ⟨⟨trivial, ⟨⟨trivial, trivial⟩, trivial⟩⟩, ⟨⟨trivial, ⟨⟨trivial, trivial⟩, trivial⟩⟩, ⟨⟨trivial, ⟨⟨trivial, trivial⟩, trivial⟩⟩, fun _ => propext ⟨fun h => h.1, fun h => ⟨h⟩⟩, ⟨trivial, ⟨⟨trivial, ⟨⟨trivial, ⟨trivial, trivial⟩⟩, trivial⟩⟩, fun _ => propext ⟨fun h => h.1, fun h => ⟨h⟩⟩, ⟨⟨trivial, fun _ => propext ⟨fun h => h.1, fun h => ⟨h⟩⟩, ⟨⟨trivial, ⟨trivial, trivial⟩⟩, trivial⟩⟩, fun _ => propext ⟨fun h => h.1, fun h => ⟨h⟩⟩, ⟨⟨trivial, fun _ => propext ⟨fun h => h.1, fun h => ⟨h⟩⟩, ⟨⟨trivial, ⟨trivial, trivial⟩⟩, trivial⟩⟩, ⟨trivial, ⟨trivial, ⟨trivial, ⟨trivial, ⟨trivial, ⟨⟨trivial, ⟨trivial, trivial⟩⟩, ⟨trivial, ⟨trivial, trivial⟩⟩⟩⟩⟩⟩⟩⟩⟩⟩⟩⟩⟩⟩⟩⟩⟩⟩⟩
set_option maxRecDepth 100000 in
theorem knd {x : kf5} {o : ki} (h : k89 x o) : SoundH Try.prog k1a.f ((k1a.args idf x).map (er TB)) ((k1a.obs idf x).map (erO TB)) (er TB (k1a.val idf o)) ((k1a.ops idf o).map (erO TB)) :=
  Con.soundH (c := k1a) (C := k1p) TBok ⟨inf_ok, (all_cons kjl (all_cons kn3 (all_cons kjj (all_cons kl0 (all_cons kjz (all_cons ket (all_cons k8e (all_cons kir (all_cons km9 all_nil))))))))), all_nil⟩ mix Try.func46 (show Try.f46.body = some k20 by kernel_rfl) (show Try.f46.ntmps = 134 by kernel_rfl) (show Try.f46.results.toList = k71 by kernel_rfl) rfl h (kn2 o)
set_option maxRecDepth 100000 in
theorem ko6 {p1 : Int} {p2 : Int} {p3 : Int} {w0 : List Int} {e0 : List Int} (h :
((w0.length = w0.length) ∧ Md.Loop (p1, p2, p3, true, true, w0, ()) (k5o (e0, ())))) : k89 (p1, p2, p3, w0, ()) (e0, ()) := WPh.of_eq (by kernel_rfl) h
def k8x (e0 : List Int) (nx1 : HL TB.den kg.hs → Prop) (k1 : Int → Int → List Int → Prop) (s2 : Int) (s8 : Bool) (s9 : Bool) (s1 : Int) (s3 : Int) (g0 : List Int) : Prop :=
 let v1 : Bool := decide ((IntKind.i64.wrap (s2 - s1)) ≤ 12)
(v1 = true →
(g0.length = g0.length) ∧ (s1 = 0 ∧ s2 = g0.length ∧ g0.length ≤ 1000000) ∧ (srt g0) = e0) ∧
(v1 = false →
((s3 == 0) = true →
(g0.length = g0.length) ∧ ∃ r5 : List Int, k83 (s1, s2, g0, ()) (r5, ()) ∧ r5 = e0) ∧
((s3 == 0) = false →
((!s8) = true →
(g0.length = g0.length) ∧ ∃ r7 : List Int, k6r (s1, s2, g0, ()) (r7, ()) ∧ (g0.length = r7.length) ∧ k70 (e0, ()) nx1 (s1, s2, (IntKind.i64.wrap (s3 - 1) : Int), s8, s9, (IntKind.i64.wrap (s2 - s1) : Int), r7, ())) ∧
((!s8) = false →
(g0.length = g0.length) ∧ k70 (e0, ()) nx1 (s1, s2, s3, s8, s9, (IntKind.i64.wrap (s2 - s1) : Int), g0, ()))))
set_option maxRecDepth 100000 in
theorem kn5 {e0 : List Int} {s2 : Int} {s8 : Bool} {s9 : Bool} {s1 : Int} {s3 : Int} {g0 : List Int} (inv : Int → Int → List Int → Prop) (μ : Int → Int → List Int → Nat) (h0 : inv s1 s3 g0) (hs : ∀ (s1 : Int) (s3 : Int) (g0 : List Int), inv s1 s3 g0 → k8x e0 (fun s : Int × Int × Int × Bool × Bool × (List Int) × Unit => ((s.2.1 = s2 ∧ s.2.2.2.1 = s8 ∧ s.2.2.2.2.1 = s9) ∧ inv s.1 s.2.2.1 s.2.2.2.2.2.1) ∧ μ s.1 s.2.2.1 s.2.2.2.2.2.1 < μ s1 s3 g0) (fun s1q s3q g0q => inv s1q s3q g0q ∧ μ s1q s3q g0q < μ s1 s3 g0) s2 s8 s9 s1 s3 g0) : Md.Loop (s1, s2, s3, s8, s9, g0, ()) (k5o (e0, ())) :=
  ⟨⟨fun s : Int × Int × Int × Bool × Bool × (List Int) × Unit => (s.2.1 = s2 ∧ s.2.2.2.1 = s8 ∧ s.2.2.2.2.1 = s9) ∧ inv s.1 s.2.2.1 s.2.2.2.2.2.1, fun s : Int × Int × Int × Bool × Bool × (List Int) × Unit => μ s.1 s.2.2.1 s.2.2.2.2.2.1, ⟨⟨rfl, rfl, rfl⟩, h0⟩, fun (s1p, s2p, s3p, s8p, s9p, g0p, ()) ⟨⟨eq0, eq1, eq2⟩, hi⟩ => by
    have eq0 : s2p = s2 := eq0; subst s2p; have eq1 : s8p = s8 := eq1; subst s8p; have eq2 : s9p = s9 := eq2; subst s9p; exact mpr_of (by kernel_rfl) ((congrArg (fun k => k8x e0 (fun s : Int × Int × Int × Bool × Bool × (List Int) × Unit => ((s.2.1 = s2 ∧ s.2.2.2.1 = s8 ∧ s.2.2.2.2.1 = s9) ∧ inv s.1 s.2.2.1 s.2.2.2.2.2.1) ∧ μ s.1 s.2.2.1 s.2.2.2.2.2.1 < μ s1p s3p g0p) k s2 s8 s9 s1p s3p g0p) (lpk3 (⟨rfl, rfl, rfl⟩ : s2 = s2 ∧ s8 = s8 ∧ s9 = s9) inv (fun s1q s3q g0q => μ s1q s3q g0q < μ s1p s3p g0p))).mpr (hs s1p s3p g0p hi))⟩⟩
theorem bd46 : Callable Try.prog 46 := ⟨by rw [Try.func46]; kernel_rfl, by rw [Try.func46]; show some _ ≠ some _; decide⟩
theorem klz (p1 : Int) (p2 : Int) (p3 : Int) (w0 : List Int) (h : p1 = 0 ∧ p2 = w0.length ∧ w0.length ≤ 12) : k89 (p1, p2, p3, w0, ()) (((srt w0) : List Int), ()) := by
  obtain ⟨rfl, rfl, h3⟩ := h
  refine ko6 ⟨rfl, kn5 (fun a _ g => a = 0 ∧ g = w0) (fun _ _ _ => 0) ⟨rfl, rfl⟩ ?_⟩
  rintro a b g ⟨rfl, rfl⟩
  have e : decide (IntKind.i64.wrap ((g.length : Int) - 0) ≤ 12) = true := by
    rw [wi _ (by omega) (by omega)]
    exact decide_eq_true (by omega)
  unfold k8x
  dsimp only
  rw [e]
  exact ⟨fun _ => ⟨rfl, ⟨rfl, rfl, by omega⟩, rfl⟩, fun h => by cases h⟩
noncomputable def kd0 : Con TB.den := k1a.fnR (fun x => (fun (p1 : Int) (p2 : Int) (p3 : Int) (w0 : List Int) => p1 = 0 ∧ p2 = w0.length ∧ w0.length ≤ 12) x.1 x.2.1 x.2.2.1 x.2.2.2.1) fun x => ((fun (p1 : Int) (p2 : Int) (p3 : Int) (w0 : List Int) => ((srt w0) : List Int)) x.1 x.2.1 x.2.2.1 x.2.2.2.1, ())
theorem ko3 : kd0.Ok Try.prog TB := Con.ok_fn k1a bd46 fun x h => knd (klz x.1 x.2.1 x.2.2.1 x.2.2.2.1 h)
end Go.Proofs.Ytponaobpcdkggaa
namespace Go.Proofs.Ytponaobpcdkggaa
open Go Go.Bv Go.Cv Go.Md Go.RowKit
def k2d : Con TB.den := Con.mk0 37 [.one (.row 0)] [.vec (.int .i64)] (.tup []) [.vec (.int .i64)]
abbrev kqe := HL TB.den (hsT k2d.ins (hsOs k2d.pre))
abbrev kda := HL TB.den (hsV k2d.res (hsOs k2d.post))
noncomputable def k9c : Cx TB := ⟨inf, [kru, kd0], [], 4, []⟩
noncomputable def kf9 : Code := Try.f37.body.getD .skip
noncomputable def khr : List ResultVar := Try.f37.results.toList
noncomputable def kp0 (o : kda) : An TB := .no
noncomputable def kfe (x : kqe) (o : kda) : Prop := WPh TB k9c 11 1 kf9 (kp0 o) (k2d.st TB x) (retTQ TB k9c k2d khr o)
set_option maxRecDepth 100000 in
theorem kxg (o : kda) : OblH TB k9c 11 1 kf9 (kp0 o) (retTQ TB k9c k2d khr o) :=
  OblH.of_eq (X := (True ∧ True)) (by kernel_rfl) ⟨trivial, trivial⟩
set_option maxRecDepth 100000 in
theorem kxe {x : kqe} {o : kda} (h : kfe x o) : SoundH Try.prog k2d.f ((k2d.args idf x).map (er TB)) ((k2d.obs idf x).map (erO TB)) (er TB (k2d.val idf o)) ((k2d.ops idf o).map (erO TB)) :=
  Con.soundH (c := k2d) (C := k9c) TBok ⟨inf_ok, (all_cons k106 (all_cons ko3 all_nil)), all_nil⟩ mix Try.func37 (show Try.f37.body = some kf9 by kernel_rfl) (show Try.f37.ntmps = 11 by kernel_rfl) (show Try.f37.results.toList = khr by kernel_rfl) rfl h (kxg o)
set_option maxRecDepth 100000 in
theorem kyh {w0 : List Int} {e0 : List Int} (h :
((U64 (IntKind.u64.wrap (w0.length : Int))) ∧ let r1 : Int := (len64 (IntKind.u64.wrap (w0.length : Int)))
(w0.length = w0.length) ∧ ((0 : Int) = 0 ∧ (w0.length : Int) = w0.length ∧ w0.length ≤ 12) ∧ (srt w0) = e0)) : kfe (w0, ()) (e0, ()) := WPh.of_eq (by kernel_rfl) h
theorem bd37 : Callable Try.prog 37 := ⟨by rw [Try.func37]; kernel_rfl, by rw [Try.func37]; show some _ ≠ some _; decide⟩
theorem kvv (w0 : List Int) (h : w0.length ≤ 12) : kfe (w0, ()) (((srt w0) : List Int), ()) := by
  refine kyh ⟨by rw [wu _ (by omega) (by omega)]; omega, ?_⟩
  exact ⟨rfl, ⟨rfl, rfl, h⟩, rfl⟩
noncomputable def knh : Con TB.den := k2d.fnR (fun x => (fun (w0 : List Int) => w0.length ≤ 12) x.1) fun x => ((fun (w0 : List Int) => ((srt w0) : List Int)) x.1, ())
theorem kz2 : knh.Ok Try.prog TB := Con.ok_fn k2d bd37 fun x h => kxe (kvv x.1 h)
end Go.Proofs.Ytponaobpcdkggaa
namespace Go.Proofs.Ytponaobpcdkggaa
open Go Go.Bv Go.Cv Go.Md Go.RowKit
def ky : Con TB.den := Con.mk0 26 [.one (.ptr 0 0), .agg [.d (.int .u64), .d (.int .u64)], .one (.d (.int .i64)), .one (.d (.int .i64))] [.cells [.d (.bool), .d (.int .u64), .d (.int .i64), .own 1, .mp 2, .mp 3, .mp 4], .tip (.st 1), .map (.str) (.int .i64), .map (.str) (.sl (.int .u64)), .map (.str) (.bool)] (.tup [.one (.d (.sl (.int .i64))), .agg [.d (.int .u64), .d (.int .u64)]]) [.cells [.d (.bool), .d (.int .u64), .d (.int .i64), .own 1, .mp 2, .mp 3, .mp 4], .tip (.st 1), .map (.str) (.int .i64), .map (.str) (.sl (.int .u64)), .map (.str) (.bool)]
abbrev khb := HL TB.den (hsT ky.ins (hsOs ky.pre))
abbrev k14 := HL TB.den (hsV ky.res (hsOs ky.post))
noncomputable def k1e : Cx TB := ⟨inf, [ka4, kly, knh], [], 4, []⟩
noncomputable def k2o : Code := Try.f26.body.getD .skip
noncomputable def k36 : List ResultVar := Try.f26.results.toList
noncomputable def kgo (o : k14) : An TB := .nd [] .no [] (.nd [] .no [] (.nd [] .no [] (.rt [.frz 8 [8]])))
noncomputable def kr8 (o : k14) : Exit → TSt TB.den → Prop := thenT TB (fun s => ghs TB [] s fun s => WP TB k1e 82 5 (cB (cB (cB (cB (cB k2o))))) (kgo o) s (retTQ TB k1e ky k36 o)) (retTQ TB k1e ky k36 o)
def k4j : Tm := ⟨[0, 1, 2, 3, 4, 5, 6, 7], [.cells [.d (.bool), .d (.int .u64), .d (.int .i64), .own 1, .mp 2, .mp 3, .mp 4], .tip (.st 1), .map (.str) (.int .i64), .map (.str) (.sl (.int .u64)), .map (.str) (.bool), .cells [.d (.int .u64), .d (.int .u64)], .cells [.d (.int .u64), .d (.int .u64)], .vec (.int .i64)], [0, 2, 3, 5, 9, 10, 40, 41], [.one (.ptr 0 0), .one (.d (.int .i64)), .one (.d (.int .i64)), .one (.ptr 5 0), .one (.ptr 6 0), .one (.row 7), .one (.d (.int .i64)), .one (.d (.int .i64))], 8⟩
noncomputable def kr4 (o : k14) (nx2 : HL TB.den k4j.hs → Prop) : Exit → TSt TB.den → Prop := thenT TB (fun s => k4j.mat TB 5 s nx2) (blockT TB 2 (kr8 o))
noncomputable def k6f (o : k14) (nx2 : HL TB.den k4j.hs → Prop) (i : HL TB.den k4j.hs) : Prop := WP TB k1e 82 5 (cA (cA (cB (cA (cB (cB (cB (cB k2o)))))))) .no (k4j.fill TB i) (kr4 o nx2)
noncomputable def kqu (o : k14) : An TB := .lp [] k4j (k6f o) fun nx2 => .no
noncomputable def kgq (o : k14) : An TB := .nd [] (.nd [] .no [] (kqu o)) [] (kgo o)
noncomputable def kr0 (o : k14) : Exit → TSt TB.den → Prop := thenT TB (fun s => ghs TB [] s fun s => WP TB k1e 82 5 (cB (cB (cB (cB k2o)))) (kgq o) s (retTQ TB k1e ky k36 o)) (retTQ TB k1e ky k36 o)
def k4k : Tm := ⟨[0, 1, 2, 3, 4, 5, 6, 7], [.cells [.d (.bool), .d (.int .u64), .d (.int .i64), .own 1, .mp 2, .mp 3, .mp 4], .tip (.st 1), .map (.str) (.int .i64), .map (.str) (.sl (.int .u64)), .map (.str) (.bool), .cells [.d (.int .u64), .d (.int .u64)], .cells [.d (.int .u64), .d (.int .u64)], .vec (.int .i64)], [0, 2, 3, 5, 9, 10, 31, 32], [.one (.ptr 0 0), .one (.d (.int .i64)), .one (.d (.int .i64)), .one (.ptr 5 0), .one (.ptr 6 0), .one (.row 7), .one (.d (.int .i64)), .one (.d (.int .i64))], 8⟩
noncomputable def kqr (o : k14) (nx1 : HL TB.den k4k.hs → Prop) : Exit → TSt TB.den → Prop := thenT TB (fun s => k4k.mat TB 5 s nx1) (blockT TB 0 (kr0 o))
noncomputable def k6e (o : k14) (nx1 : HL TB.den k4k.hs → Prop) (i : HL TB.den k4k.hs) : Prop := WP TB k1e 82 5 (cA (cA (cB (cA (cB (cB (cB k2o))))))) .no (k4k.fill TB i) (kqr o nx1)
noncomputable def kpp (o : k14) : An TB := .lp [] k4k (k6e o) fun nx1 => .no
noncomputable def kfy (o : k14) : An TB := .nd [] (.nd [] .no [] (kpp o)) [] (kgq o)
noncomputable def kpt (o : k14) : Exit → TSt TB.den → Prop := thenT TB (fun s => ghs TB [] s fun s => WP TB k1e 82 5 (cB (cB k2o)) (.nd [] .no [] (kfy o)) s (retTQ TB k1e ky k36 o)) (retTQ TB k1e ky k36 o)
def k7p : Tm := ⟨[0, 1, 2, 3, 4, 5, 6], [.cells [.d (.bool), .d (.int .u64), .d (.int .i64), .own 1, .mp 2, .mp 3, .mp 4], .tip (.st 1), .map (.str) (.int .i64), .map (.str) (.sl (.int .u64)), .map (.str) (.bool), .cells [.d (.int .u64), .d (.int .u64)], .cells [.d (.int .u64), .d (.int .u64)]], [0, 2, 3, 5, 9, 26], [.one (.ptr 0 0), .one (.d (.int .i64)), .one (.d (.int .i64)), .one (.ptr 5 0), .one (.ptr 6 0), .one (.d (.bool))], 7⟩
noncomputable def kfw (o : k14) (i : HL TB.den k7p.hs) : Prop := ghs TB [] (k7p.fill TB i) fun s => WP TB k1e 82 5 (cB (cA (cB k2o))) .no s (kpt o)
structure k4i (o : k14) (i : HL TB.den k7p.hs) : Prop where
  h : kfw o i
noncomputable def kpz (o : k14) : An TB := .jn k7p (k4i o) [] .no [] .no
noncomputable def kps (o : k14) : An TB := .nd [] (kpz o) [] (.nd [] .no [] (kfy o))
noncomputable def kgl (o : k14) : An TB := .nd [] .no [] (kps o)
noncomputable def k9e (x : khb) (o : k14) : Prop := WPh TB k1e 82 5 k2o (kgl o) (ky.st TB x) (retTQ TB k1e ky k36 o)
set_option maxRecDepth 100000 in
theorem kq1 (o : k14) : OblH TB k1e 82 5 k2o (kgl o) (retTQ TB k1e ky k36 o) :=
  OblH.of_eq (X := (True ∧ ((True ∧ (∀ i, (k4i o) i = (kfw o) i) ∧ ((True ∧ True) ∧ True)) ∧ (True ∧ ((True ∧ ((∀ nx i, (k6e o) nx i = (k6e o) nx i) ∧ ∀ nx1 : HL TB.den k4k.hs → Prop, (True ∧ ((True ∧ True) ∧ ((True ∧ True) ∧ True))))) ∧ ((True ∧ ((∀ nx i, (k6f o) nx i = (k6f o) nx i) ∧ ∀ nx2 : HL TB.den k4j.hs → Prop, (True ∧ ((True ∧ True) ∧ ((True ∧ (True ∧ (True ∧ (True ∧ True)))) ∧ True))))) ∧ (True ∧ (True ∧ (True ∧ True))))))))) (by kernel_rfl) ⟨trivial, ⟨⟨trivial, fun _ => propext ⟨fun h => h.1, fun h => ⟨h⟩⟩, ⟨⟨trivial, trivial⟩, trivial⟩⟩, ⟨trivial, ⟨⟨trivial, ⟨fun _ _ => rfl, fun _ => ⟨trivial, ⟨⟨trivial, trivial⟩, ⟨⟨trivial, trivial⟩, trivial⟩⟩⟩⟩⟩, ⟨⟨trivial, ⟨fun _ _ => rfl, fun _ => ⟨trivial, ⟨⟨trivial, trivial⟩, ⟨⟨trivial, ⟨trivial, ⟨trivial, ⟨trivial, trivial⟩⟩⟩⟩, trivial⟩⟩⟩⟩⟩, ⟨trivial, ⟨trivial, ⟨trivial, trivial⟩⟩⟩⟩⟩⟩⟩⟩
set_option maxRecDepth 100000 in
theorem kpr {x : khb} {o : k14} (h : k9e x o) : SoundH Try.prog ky.f ((ky.args idf x).map (er TB)) ((ky.obs idf x).map (erO TB)) (er TB (ky.val idf o)) ((ky.ops idf o).map (erO TB)) :=
  Con.soundH (c := ky) (C := k1e) TBok ⟨inf_ok, (all_cons kgf (all_cons kxh (all_cons kz2 all_nil))), all_nil⟩ mix Try.func26 (show Try.f26.body = some k2o by kernel_rfl) (show Try.f26.ntmps = 82 by kernel_rfl) (show Try.f26.results.toList = k36 by kernel_rfl) rfl h (kq1 o)
set_option maxRecDepth 100000 in
theorem kqw {p1 : TTranscript} {p2 : Int} {p3 : Int} {c0_0 : Bool} {c0_1 : Int} {c0_2 : Int} {w1 : List TQuestion} {w2k : List ByteArray} {w2v : List Int} {w3k : List ByteArray} {w3v : List (List Int)} {w4k : List ByteArray} {w4v : List Bool} {r0 : List Int} {r1 : TTranscript} {d0_0 : Bool} {d0_1 : Int} {d0_2 : Int} {e1 : List TQuestion} {e2k : List ByteArray} {e2v : List Int} {e3k : List ByteArray} {e3v : List (List Int)} {e4k : List ByteArray} {e4v : List Bool} (h :
((decide (p3 < 0) = true →
(w1 = w1) ∧ k4i (r0, r1.State, r1.Count, d0_0, d0_1, d0_2, e1, e2k, e2v, e3k, e3v, e4k, e4v, ()) (p2, p3, true, c0_0, c0_1, c0_2, p1.State, p1.Count, (0 : Int), (0 : Int), w1, w2k, w2v, w3k, w3v, w4k, w4v, ())) ∧
(decide (p3 < 0) = false →
(decide (p2 < p3) = true →
(w1 = w1) ∧ k4i (r0, r1.State, r1.Count, d0_0, d0_1, d0_2, e1, e2k, e2v, e3k, e3v, e4k, e4v, ()) (p2, p3, true, c0_0, c0_1, c0_2, p1.State, p1.Count, (0 : Int), (0 : Int), w1, w2k, w2v, w3k, w3v, w4k, w4v, ())) ∧
(decide (p2 < p3) = false →
(w1 = w1) ∧ k4i (r0, r1.State, r1.Count, d0_0, d0_1, d0_2, e1, e2k, e2v, e3k, e3v, e4k, e4v, ()) (p2, p3, (decide (1024 < p2) : Bool), c0_0, c0_1, c0_2, p1.State, p1.Count, (0 : Int), (0 : Int), w1, w2k, w2v, w3k, w3v, w4k, w4v, ()))))) : k9e (p1.State, p1.Count, p2, p3, c0_0, c0_1, c0_2, w1, w2k, w2v, w3k, w3v, w4k, w4v, ()) (r0, r1.State, r1.Count, d0_0, d0_1, d0_2, e1, e2k, e2v, e3k, e3v, e4k, e4v, ()) := WPh.of_eq (by kernel_rfl) h
set_option maxRecDepth 100000 in
theorem kdh {r0 : List Int} {r1 : TTranscript} {d0_0 : Bool} {d0_1 : Int} {d0_2 : Int} {e1 : List TQuestion} {e2k : List ByteArray} {e2v : List Int} {e3k : List ByteArray} {e3v : List (List Int)} {e4k : List ByteArray} {e4v : List Bool} {s2 : Int} {s3 : Int} {s26 : Bool} {h0_0 : Bool} {h0_1 : Int} {h0_2 : Int} {h5_0 : Int} {h5_1 : Int} {h6_0 : Int} {h6_1 : Int} {g1 : List TQuestion} {g2k : List ByteArray} {g2v : List Int} {g3k : List ByteArray} {g3v : List (List Int)} {g4k : List ByteArray} {g4v : List Bool} (h :
((s26 = true →
(g1 = g1) ∧ ([] : List Int) = r0 ∧ h5_0 = r1.State ∧ h5_1 = r1.Count ∧ h0_0 = d0_0 ∧ h0_1 = d0_1 ∧ h0_2 = d0_2 ∧ g1 = e1 ∧ g2k = e2k ∧ g2v = e2v ∧ g3k = e3k ∧ g3v = e3v ∧ g4k = e4k ∧ g4v = e4v) ∧
(s26 = false →
 0 ≤ s2 ∧ s2 ≤ s2 ∧ (s2.toNat * 8 ≤ 140737488355328) ∧ (s2.toNat ≤ maxLen) ∧ (g1 = g1) ∧ (s2.toNat = (List.replicate s2.toNat (0 : Int)).length) ∧ Md.Loop (s2, s3, ((s2.toNat : Int) : Int), (0 : Int), h0_0, h0_1, h0_2, h5_0, h5_1, h6_0, h6_1, g1, g2k, g2v, g3k, g3v, g4k, g4v, (List.replicate s2.toNat (0 : Int) : List Int), ()) (k6e (r0, r1.State, r1.Count, d0_0, d0_1, d0_2, e1, e2k, e2v, e3k, e3v, e4k, e4v, ()))))) : k4i (r0, r1.State, r1.Count, d0_0, d0_1, d0_2, e1, e2k, e2v, e3k, e3v, e4k, e4v, ()) (s2, s3, s26, h0_0, h0_1, h0_2, h5_0, h5_1, h6_0, h6_1, g1, g2k, g2v, g3k, g3v, g4k, g4v, ()) := ⟨mpr_of (by kernel_rfl) h⟩
def kge (r0 : List Int) (r1 : TTranscript) (d0_0 : Bool) (d0_1 : Int) (d0_2 : Int) (e1 : List TQuestion) (e2k : List ByteArray) (e2v : List Int) (e3k : List ByteArray) (e3v : List (List Int)) (e4k : List ByteArray) (e4v : List Bool) (k1 : Int → List Int → Prop) (s2 : Int) (s3 : Int) (s31 : Int) (h0_0 : Bool) (h0_1 : Int) (h0_2 : Int) (h5_0 : Int) (h5_1 : Int) (h6_0 : Int) (h6_1 : Int) (g1 : List TQuestion) (g2k : List ByteArray) (g2v : List Int) (g3k : List ByteArray) (g3v : List (List Int)) (g4k : List ByteArray) (g4v : List Bool) (s32 : Int) (g7 : List Int) : Prop :=
(decide (s32 < s31) = true →
(0 ≤ s32 ∧ s32 < (g7.length : Int)) ∧ (0 ≤ s32 ∧ s32 < (g7.length : Int)) ∧ (g1 = g1) ∧ (g7.length = (g7.set s32.toNat s32).length) ∧ k1 (IntKind.i64.wrap (s32 + 1) : Int) (g7.set s32.toNat s32 : List Int)) ∧
(decide (s32 < s31) = false →
(g1 = g1) ∧ (g7.length = g7.length) ∧ Md.Loop (s2, s3, s3, (0 : Int), h0_0, h0_1, h0_2, h5_0, h5_1, h6_0, h6_1, g1, g2k, g2v, g3k, g3v, g4k, g4v, g7, ()) (k6f (r0, r1.State, r1.Count, d0_0, d0_1, d0_2, e1, e2k, e2v, e3k, e3v, e4k, e4v, ())))
set_option maxRecDepth 100000 in
theorem kpo {r0 : List Int} {r1 : TTranscript} {d0_0 : Bool} {d0_1 : Int} {d0_2 : Int} {e1 : List TQuestion} {e2k : List ByteArray} {e2v : List Int} {e3k : List ByteArray} {e3v : List (List Int)} {e4k : List ByteArray} {e4v : List Bool} {s2 : Int} {s3 : Int} {s31 : Int} {h0_0 : Bool} {h0_1 : Int} {h0_2 : Int} {h5_0 : Int} {h5_1 : Int} {h6_0 : Int} {h6_1 : Int} {g1 : List TQuestion} {g2k : List ByteArray} {g2v : List Int} {g3k : List ByteArray} {g3v : List (List Int)} {g4k : List ByteArray} {g4v : List Bool} {s32 : Int} {g7 : List Int} (inv : Int → List Int → Prop) (μ : Int → List Int → Nat) (h0 : inv s32 g7) (hs : ∀ (s32 : Int) (g7 : List Int), inv s32 g7 → kge r0 r1 d0_0 d0_1 d0_2 e1 e2k e2v e3k e3v e4k e4v (fun s32q g7q => inv s32q g7q ∧ μ s32q g7q < μ s32 g7) s2 s3 s31 h0_0 h0_1 h0_2 h5_0 h5_1 h6_0 h6_1 g1 g2k g2v g3k g3v g4k g4v s32 g7) : Md.Loop (s2, s3, s31, s32, h0_0, h0_1, h0_2, h5_0, h5_1, h6_0, h6_1, g1, g2k, g2v, g3k, g3v, g4k, g4v, g7, ()) (k6e (r0, r1.State, r1.Count, d0_0, d0_1, d0_2, e1, e2k, e2v, e3k, e3v, e4k, e4v, ())) :=
  ⟨⟨fun s : Int × Int × Int × Int × Bool × Int × Int × Int × Int × Int × Int × (List TQuestion) × (List ByteArray) × (List Int) × (List ByteArray) × (List (List Int)) × (List ByteArray) × (List Bool) × (List Int) × Unit => (s.1 = s2 ∧ s.2.1 = s3 ∧ s.2.2.1 = s31 ∧ s.2.2.2.2.1 = h0_0 ∧ s.2.2.2.2.2.1 = h0_1 ∧ s.2.2.2.2.2.2.1 = h0_2 ∧ s.2.2.2.2.2.2.2.1 = h5_0 ∧ s.2.2.2.2.2.2.2.2.1 = h5_1 ∧ s.2.2.2.2.2.2.2.2.2.1 = h6_0 ∧ s.2.2.2.2.2.2.2.2.2.2.1 = h6_1 ∧ s.2.2.2.2.2.2.2.2.2.2.2.1 = g1 ∧ s.2.2.2.2.2.2.2.2.2.2.2.2.1 = g2k ∧ s.2.2.2.2.2.2.2.2.2.2.2.2.2.1 = g2v ∧ s.2.2.2.2.2.2.2.2.2.2.2.2.2.2.1 = g3k ∧ s.2.2.2.2.2.2.2.2.2.2.2.2.2.2.2.1 = g3v ∧ s.2.2.2.2.2.2.2.2.2.2.2.2.2.2.2.2.1 = g4k ∧ s.2.2.2.2.2.2.2.2.2.2.2.2.2.2.2.2.2.1 = g4v) ∧ inv s.2.2.2.1 s.2.2.2.2.2.2.2.2.2.2.2.2.2.2.2.2.2.2.1, fun s : Int × Int × Int × Int × Bool × Int × Int × Int × Int × Int × Int × (List TQuestion) × (List ByteArray) × (List Int) × (List ByteArray) × (List (List Int)) × (List ByteArray) × (List Bool) × (List Int) × Unit => μ s.2.2.2.1 s.2.2.2.2.2.2.2.2.2.2.2.2.2.2.2.2.2.2.1, ⟨⟨rfl, rfl, rfl, rfl, rfl, rfl, rfl, rfl, rfl, rfl, rfl, rfl, rfl, rfl, rfl, rfl, rfl⟩, h0⟩, fun (s2p, s3p, s31p, s32p, h0_0p, h0_1p, h0_2p, h5_0p, h5_1p, h6_0p, h6_1p, g1p, g2kp, g2vp, g3kp, g3vp, g4kp, g4vp, g7p, ()) ⟨⟨eq0, eq1, eq2, eq3, eq4, eq5, eq6, eq7, eq8, eq9, eq10, eq11, eq12, eq13, eq14, eq15, eq16⟩, hi⟩ => by
    have eq0 : s2p = s2 := eq0; subst s2p; have eq1 : s3p = s3 := eq1; subst s3p; have eq2 : s31p = s31 := eq2; subst s31p; have eq3 : h0_0p = h0_0 := eq3; subst h0_0p; have eq4 : h0_1p = h0_1 := eq4; subst h0_1p; have eq5 : h0_2p = h0_2 := eq5; subst h0_2p; have eq6 : h5_0p = h5_0 := eq6; subst h5_0p; have eq7 : h5_1p = h5_1 := eq7; subst h5_1p; have eq8 : h6_0p = h6_0 := eq8; subst h6_0p; have eq9 : h6_1p = h6_1 := eq9; subst h6_1p; have eq10 : g1p = g1 := eq10; subst g1p; have eq11 : g2kp = g2k := eq11; subst g2kp; have eq12 : g2vp = g2v := eq12; subst g2vp; have eq13 : g3kp = g3k := eq13; subst g3kp; have eq14 : g3vp = g3v := eq14; subst g3vp; have eq15 : g4kp = g4k := eq15; subst g4kp; have eq16 : g4vp = g4v := eq16; subst g4vp; exact mpr_of (by kernel_rfl) ((congrArg (fun k => kge r0 r1 d0_0 d0_1 d0_2 e1 e2k e2v e3k e3v e4k e4v k s2 s3 s31 h0_0 h0_1 h0_2 h5_0 h5_1 h6_0 h6_1 g1 g2k g2v g3k g3v g4k g4v s32p g7p) (lpk2 (⟨rfl, rfl, rfl, rfl, rfl, rfl, rfl, rfl, rfl, rfl, rfl, rfl, rfl, rfl, rfl, rfl, rfl⟩ : s2 = s2 ∧ s3 = s3 ∧ s31 = s31 ∧ h0_0 = h0_0 ∧ h0_1 = h0_1 ∧ h0_2 = h0_2 ∧ h5_0 = h5_0 ∧ h5_1 = h5_1 ∧ h6_0 = h6_0 ∧ h6_1 = h6_1 ∧ g1 = g1 ∧ g2k = g2k ∧ g2v = g2v ∧ g3k = g3k ∧ g3v = g3v ∧ g4k = g4k ∧ g4v = g4v) inv (fun s32q g7q => μ s32q g7q < μ s32p g7p))).mpr (hs s32p g7p hi))⟩⟩
def kgi (r0 : List Int) (r1 : TTranscript) (d0_0 : Bool) (d0_1 : Int) (d0_2 : Int) (e1 : List TQuestion) (e2k : List ByteArray) (e2v : List Int) (e3k : List ByteArray) (e3v : List (List Int)) (e4k : List ByteArray) (e4v : List Bool) (k2 : Int → Bool → Int → Int → Int → Int → List TQuestion → List ByteArray → List Int → List ByteArray → List (List Int) → List ByteArray → List Bool → List Int → Prop) (s2 : Int) (s3 : Int) (s40 : Int) (h6_0 : Int) (h6_1 : Int) (s41 : Int) (h0_0 : Bool) (h0_1 : Int) (h0_2 : Int) (h5_0 : Int) (h5_1 : Int) (g1 : List TQuestion) (g2k : List ByteArray) (g2v : List Int) (g3k : List ByteArray) (g3v : List (List Int)) (g4k : List ByteArray) (g4v : List Bool) (g7 : List Int) : Prop :=
(decide (s41 < s40) = true →
(g1 = g1) ∧ ((U64 (TTranscript.mk h5_0 h5_1).State ∧ U64 (TTranscript.mk h5_0 h5_1).Count) ∧ OOk (OS.mk h0_0 h0_1 h0_2 g1 g2k g2v g3k g3v g4k g4v)) ∧ let r2 : Int := ((chO (OS.mk h0_0 h0_1 h0_2 g1 g2k g2v g3k g3v g4k g4v) (TTranscript.mk h5_0 h5_1) (18446744069414584321 : Int)).n)
 let r3 : Int := ((chO (OS.mk h0_0 h0_1 h0_2 g1 g2k g2v g3k g3v g4k g4v) (TTranscript.mk h5_0 h5_1) (18446744069414584321 : Int)).t).State
 let r4 : Int := ((chO (OS.mk h0_0 h0_1 h0_2 g1 g2k g2v g3k g3v g4k g4v) (TTranscript.mk h5_0 h5_1) (18446744069414584321 : Int)).t).Count
 let r5 : Bool := ((chO (OS.mk h0_0 h0_1 h0_2 g1 g2k g2v g3k g3v g4k g4v) (TTranscript.mk h5_0 h5_1) (18446744069414584321 : Int)).o.a)
 let r6 : Int := ((chO (OS.mk h0_0 h0_1 h0_2 g1 g2k g2v g3k g3v g4k g4v) (TTranscript.mk h5_0 h5_1) (18446744069414584321 : Int)).o.b)
 let r7 : Int := ((chO (OS.mk h0_0 h0_1 h0_2 g1 g2k g2v g3k g3v g4k g4v) (TTranscript.mk h5_0 h5_1) (18446744069414584321 : Int)).o.c)
 let r8 : List TQuestion := ((chO (OS.mk h0_0 h0_1 h0_2 g1 g2k g2v g3k g3v g4k g4v) (TTranscript.mk h5_0 h5_1) (18446744069414584321 : Int)).o.q)
 let r9 : List ByteArray := ((chO (OS.mk h0_0 h0_1 h0_2 g1 g2k g2v g3k g3v g4k g4v) (TTranscript.mk h5_0 h5_1) (18446744069414584321 : Int)).o.k)
 let r10 : List Int := ((chO (OS.mk h0_0 h0_1 h0_2 g1 g2k g2v g3k g3v g4k g4v) (TTranscript.mk h5_0 h5_1) (18446744069414584321 : Int)).o.v)
 let r11 : List ByteArray := ((chO (OS.mk h0_0 h0_1 h0_2 g1 g2k g2v g3k g3v g4k g4v) (TTranscript.mk h5_0 h5_1) (18446744069414584321 : Int)).o.s)
 let r12 : List (List Int) := ((chO (OS.mk h0_0 h0_1 h0_2 g1 g2k g2v g3k g3v g4k g4v) (TTranscript.mk h5_0 h5_1) (18446744069414584321 : Int)).o.t)
 let r13 : List ByteArray := ((chO (OS.mk h0_0 h0_1 h0_2 g1 g2k g2v g3k g3v g4k g4v) (TTranscript.mk h5_0 h5_1) (18446744069414584321 : Int)).o.x)
 let r14 : List Bool := ((chO (OS.mk h0_0 h0_1 h0_2 g1 g2k g2v g3k g3v g4k g4v) (TTranscript.mk h5_0 h5_1) (18446744069414584321 : Int)).o.y)
 let v15 : Int := IntKind.u64.wrap (IntKind.i64.wrap (s2 - s41))
(v15 ≠ 0) ∧ let v16 : Int := IntKind.i64.wrap (s41 + (IntKind.i64.wrap (Int.tmod r2 v15)))
(0 ≤ v16 ∧ v16 < (g7.length : Int)) ∧ (0 ≤ v16 ∧ v16 < (g7.length : Int)) ∧ (0 ≤ s41 ∧ s41 < (g7.length : Int)) ∧ (0 ≤ s41 ∧ s41 < (g7.length : Int)) ∧ (0 ≤ s41 ∧ s41 < (g7.length : Int)) ∧ (0 ≤ s41 ∧ s41 < (g7.length : Int)) ∧ (0 ≤ v16 ∧ v16 < (g7.length : Int)) ∧ (0 ≤ v16 ∧ v16 < ((g7.set s41.toNat (ix g7 v16)).length : Int)) ∧ (r8 = r8) ∧ (g7.length = ((g7.set s41.toNat (ix g7 v16)).set v16.toNat (ix g7 s41)).length) ∧ k2 (IntKind.i64.wrap (s41 + 1) : Int) r5 r6 r7 r3 r4 r8 r9 r10 r11 r12 r13 r14 ((g7.set s41.toNat (ix g7 v16)).set v16.toNat (ix g7 s41) : List Int)) ∧
(decide (s41 < s40) = false →
(0 ≤ s3) ∧ s3 ≤ (g7.length : Int) ∧ (0 ≤ (0 : Int) ∧ 0 ≤ (s3.toNat : Int) ∧ (0 : Int).toNat + (s3.toNat : Int).toNat ≤ g7.length ∧ g7.length ≤ 1000000) ∧ let r17 : List Int := ((g7.drop (0 : Int).toNat).take (s3.toNat : Int).toNat)
(r17.length = r17.length) ∧ (r17.length ≤ 12) ∧ (r17.length = (srt r17).length) ∧ (g1 = g1) ∧ (srt r17) = r0 ∧ h5_0 = r1.State ∧ h5_1 = r1.Count ∧ h0_0 = d0_0 ∧ h0_1 = d0_1 ∧ h0_2 = d0_2 ∧ g1 = e1 ∧ g2k = e2k ∧ g2v = e2v ∧ g3k = e3k ∧ g3v = e3v ∧ g4k = e4k ∧ g4v = e4v)
set_option maxRecDepth 100000 in
theorem kq8 {r0 : List Int} {r1 : TTranscript} {d0_0 : Bool} {d0_1 : Int} {d0_2 : Int} {e1 : List TQuestion} {e2k : List ByteArray} {e2v : List Int} {e3k : List ByteArray} {e3v : List (List Int)} {e4k : List ByteArray} {e4v : List Bool} {s2 : Int} {s3 : Int} {s40 : Int} {h6_0 : Int} {h6_1 : Int} {s41 : Int} {h0_0 : Bool} {h0_1 : Int} {h0_2 : Int} {h5_0 : Int} {h5_1 : Int} {g1 : List TQuestion} {g2k : List ByteArray} {g2v : List Int} {g3k : List ByteArray} {g3v : List (List Int)} {g4k : List ByteArray} {g4v : List Bool} {g7 : List Int} (inv : Int → Bool → Int → Int → Int → Int → List TQuestion → List ByteArray → List Int → List ByteArray → List (List Int) → List ByteArray → List Bool → List Int → Prop) (μ : Int → Bool → Int → Int → Int → Int → List TQuestion → List ByteArray → List Int → List ByteArray → List (List Int) → List ByteArray → List Bool → List Int → Nat) (h0 : inv s41 h0_0 h0_1 h0_2 h5_0 h5_1 g1 g2k g2v g3k g3v g4k g4v g7) (hs : ∀ (s41 : Int) (h0_0 : Bool) (h0_1 : Int) (h0_2 : Int) (h5_0 : Int) (h5_1 : Int) (g1 : List TQuestion) (g2k : List ByteArray) (g2v : List Int) (g3k : List ByteArray) (g3v : List (List Int)) (g4k : List ByteArray) (g4v : List Bool) (g7 : List Int), inv s41 h0_0 h0_1 h0_2 h5_0 h5_1 g1 g2k g2v g3k g3v g4k g4v g7 → kgi r0 r1 d0_0 d0_1 d0_2 e1 e2k e2v e3k e3v e4k e4v (fun s41q h0_0q h0_1q h0_2q h5_0q h5_1q g1q g2kq g2vq g3kq g3vq g4kq g4vq g7q => inv s41q h0_0q h0_1q h0_2q h5_0q h5_1q g1q g2kq g2vq g3kq g3vq g4kq g4vq g7q ∧ μ s41q h0_0q h0_1q h0_2q h5_0q h5_1q g1q g2kq g2vq g3kq g3vq g4kq g4vq g7q < μ s41 h0_0 h0_1 h0_2 h5_0 h5_1 g1 g2k g2v g3k g3v g4k g4v g7) s2 s3 s40 h6_0 h6_1 s41 h0_0 h0_1 h0_2 h5_0 h5_1 g1 g2k g2v g3k g3v g4k g4v g7) : Md.Loop (s2, s3, s40, s41, h0_0, h0_1, h0_2, h5_0, h5_1, h6_0, h6_1, g1, g2k, g2v, g3k, g3v, g4k, g4v, g7, ()) (k6f (r0, r1.State, r1.Count, d0_0, d0_1, d0_2, e1, e2k, e2v, e3k, e3v, e4k, e4v, ())) :=
  ⟨⟨fun s : Int × Int × Int × Int × Bool × Int × Int × Int × Int × Int × Int × (List TQuestion) × (List ByteArray) × (List Int) × (List ByteArray) × (List (List Int)) × (List ByteArray) × (List Bool) × (List Int) × Unit => (s.1 = s2 ∧ s.2.1 = s3 ∧ s.2.2.1 = s40 ∧ s.2.2.2.2.2.2.2.2.2.1 = h6_0 ∧ s.2.2.2.2.2.2.2.2.2.2.1 = h6_1) ∧ inv s.2.2.2.1 s.2.2.2.2.1 s.2.2.2.2.2.1 s.2.2.2.2.2.2.1 s.2.2.2.2.2.2.2.1 s.2.2.2.2.2.2.2.2.1 s.2.2.2.2.2.2.2.2.2.2.2.1 s.2.2.2.2.2.2.2.2.2.2.2.2.1 s.2.2.2.2.2.2.2.2.2.2.2.2.2.1 s.2.2.2.2.2.2.2.2.2.2.2.2.2.2.1 s.2.2.2.2.2.2.2.2.2.2.2.2.2.2.2.1 s.2.2.2.2.2.2.2.2.2.2.2.2.2.2.2.2.1 s.2.2.2.2.2.2.2.2.2.2.2.2.2.2.2.2.2.1 s.2.2.2.2.2.2.2.2.2.2.2.2.2.2.2.2.2.2.1, fun s : Int × Int × Int × Int × Bool × Int × Int × Int × Int × Int × Int × (List TQuestion) × (List ByteArray) × (List Int) × (List ByteArray) × (List (List Int)) × (List ByteArray) × (List Bool) × (List Int) × Unit => μ s.2.2.2.1 s.2.2.2.2.1 s.2.2.2.2.2.1 s.2.2.2.2.2.2.1 s.2.2.2.2.2.2.2.1 s.2.2.2.2.2.2.2.2.1 s.2.2.2.2.2.2.2.2.2.2.2.1 s.2.2.2.2.2.2.2.2.2.2.2.2.1 s.2.2.2.2.2.2.2.2.2.2.2.2.2.1 s.2.2.2.2.2.2.2.2.2.2.2.2.2.2.1 s.2.2.2.2.2.2.2.2.2.2.2.2.2.2.2.1 s.2.2.2.2.2.2.2.2.2.2.2.2.2.2.2.2.1 s.2.2.2.2.2.2.2.2.2.2.2.2.2.2.2.2.2.1 s.2.2.2.2.2.2.2.2.2.2.2.2.2.2.2.2.2.2.1, ⟨⟨rfl, rfl, rfl, rfl, rfl⟩, h0⟩, fun (s2p, s3p, s40p, s41p, h0_0p, h0_1p, h0_2p, h5_0p, h5_1p, h6_0p, h6_1p, g1p, g2kp, g2vp, g3kp, g3vp, g4kp, g4vp, g7p, ()) ⟨⟨eq0, eq1, eq2, eq3, eq4⟩, hi⟩ => by
    have eq0 : s2p = s2 := eq0; subst s2p; have eq1 : s3p = s3 := eq1; subst s3p; have eq2 : s40p = s40 := eq2; subst s40p; have eq3 : h6_0p = h6_0 := eq3; subst h6_0p; have eq4 : h6_1p = h6_1 := eq4; subst h6_1p; exact mpr_of (by kernel_rfl) ((congrArg (fun k => kgi r0 r1 d0_0 d0_1 d0_2 e1 e2k e2v e3k e3v e4k e4v k s2 s3 s40 h6_0 h6_1 s41p h0_0p h0_1p h0_2p h5_0p h5_1p g1p g2kp g2vp g3kp g3vp g4kp g4vp g7p) (lpk14 (⟨rfl, rfl, rfl, rfl, rfl⟩ : s2 = s2 ∧ s3 = s3 ∧ s40 = s40 ∧ h6_0 = h6_0 ∧ h6_1 = h6_1) inv (fun s41q h0_0q h0_1q h0_2q h5_0q h5_1q g1q g2kq g2vq g3kq g3vq g4kq g4vq g7q => μ s41q h0_0q h0_1q h0_2q h5_0q h5_1q g1q g2kq g2vq g3kq g3vq g4kq g4vq g7q < μ s41p h0_0p h0_1p h0_2p h5_0p h5_1p g1p g2kp g2vp g3kp g3vp g4kp g4vp g7p))).mpr (hs s41p h0_0p h0_1p h0_2p h5_0p h5_1p g1p g2kp g2vp g3kp g3vp g4kp g4vp g7p hi))⟩⟩
theorem bd26 : Callable Try.prog 26 := ⟨by rw [Try.func26]; kernel_rfl, by rw [Try.func26]; show some _ ≠ some _; decide⟩
theorem kp5 (p1 : TTranscript) (p2 : Int) (p3 : Int) (c0_0 : Bool) (c0_1 : Int) (c0_2 : Int) (w1 : List TQuestion) (w2k : List ByteArray) (w2v : List Int) (w3k : List ByteArray) (w3v : List (List Int)) (w4k : List ByteArray) (w4v : List Bool) (h : (U64 p1.State ∧ U64 p1.Count) ∧ (OOk (OS.mk c0_0 c0_1 c0_2 w1 w2k w2v w3k w3v w4k w4v) ∧ w1.length ≤ 900000) ∧ p3 ≤ 12) : k9e (p1.State, p1.Count, p2, p3, c0_0, c0_1, c0_2, w1, w2k, w2v, w3k, w3v, w4k, w4v, ()) ((((posO (OS.mk c0_0 c0_1 c0_2 w1 w2k w2v w3k w3v w4k w4v) p1 p2 p3).g) : List Int), (((posO (OS.mk c0_0 c0_1 c0_2 w1 w2k w2v w3k w3v w4k w4v) p1 p2 p3).t).State : Int), (((posO (OS.mk c0_0 c0_1 c0_2 w1 w2k w2v w3k w3v w4k w4v) p1 p2 p3).t).Count : Int), (((posO (OS.mk c0_0 c0_1 c0_2 w1 w2k w2v w3k w3v w4k w4v) p1 p2 p3).o.a) : Bool), (((posO (OS.mk c0_0 c0_1 c0_2 w1 w2k w2v w3k w3v w4k w4v) p1 p2 p3).o.b) : Int), (((posO (OS.mk c0_0 c0_1 c0_2 w1 w2k w2v w3k w3v w4k w4v) p1 p2 p3).o.c) : Int), (((posO (OS.mk c0_0 c0_1 c0_2 w1 w2k w2v w3k w3v w4k w4v) p1 p2 p3).o.q) : List TQuestion), (((posO (OS.mk c0_0 c0_1 c0_2 w1 w2k w2v w3k w3v w4k w4v) p1 p2 p3).o.k) : List ByteArray), (((posO (OS.mk c0_0 c0_1 c0_2 w1 w2k w2v w3k w3v w4k w4v) p1 p2 p3).o.v) : List Int), (((posO (OS.mk c0_0 c0_1 c0_2 w1 w2k w2v w3k w3v w4k w4v) p1 p2 p3).o.s) : List ByteArray), (((posO (OS.mk c0_0 c0_1 c0_2 w1 w2k w2v w3k w3v w4k w4v) p1 p2 p3).o.t) : List (List Int)), (((posO (OS.mk c0_0 c0_1 c0_2 w1 w2k w2v w3k w3v w4k w4v) p1 p2 p3).o.x) : List ByteArray), (((posO (OS.mk c0_0 c0_1 c0_2 w1 w2k w2v w3k w3v w4k w4v) p1 p2 p3).o.y) : List Bool), ()) := by
  obtain ⟨⟨h1, h2⟩, ⟨h3, h4⟩, h5⟩ := h
  generalize hA : posO (OS.mk c0_0 c0_1 c0_2 w1 w2k w2v w3k w3v w4k w4v) p1 p2 p3 = A
  have bad : (p3 < 0 ∨ p2 < p3 ∨ 1024 < p2) → A = ⟨OS.mk c0_0 c0_1 c0_2 w1 w2k w2v w3k w3v w4k w4v, p1, []⟩ := fun hb => by rw [← hA]; exact if_pos hb
  have jb : A = ⟨OS.mk c0_0 c0_1 c0_2 w1 w2k w2v w3k w3v w4k w4v, p1, []⟩ → k4i (A.g, A.t.State, A.t.Count, A.o.a, A.o.b, A.o.c, A.o.q, A.o.k, A.o.v, A.o.s, A.o.t, A.o.x, A.o.y, ()) (p2, p3, true, c0_0, c0_1, c0_2, p1.State, p1.Count, (0 : Int), (0 : Int), w1, w2k, w2v, w3k, w3v, w4k, w4v, ()) := by
    rintro rfl
    exact kdh (r1 := p1) ⟨fun _ => ⟨rfl, rfl, rfl, rfl, rfl, rfl, rfl, rfl, rfl, rfl, rfl, rfl, rfl, rfl⟩, fun h => by cases h⟩
  refine kqw (r1 := A.t) ⟨fun e => ⟨rfl, jb (bad (.inl (of_decide_eq_true e)))⟩, fun e => ⟨fun e2 => ⟨rfl, jb (bad (.inr (.inl (of_decide_eq_true e2))))⟩, fun e2 => ⟨rfl, ?_⟩⟩⟩
  have e := of_decide_eq_false e
  have e2 := of_decide_eq_false e2
  by_cases e3 : 1024 < p2
  · rw [decide_eq_true e3]
    exact jb (bad (.inr (.inr e3)))
  rw [decide_eq_false e3]
  have hg : A = ⟨(posS p2 p3.toNat 0 ⟨OS.mk c0_0 c0_1 c0_2 w1 w2k w2v w3k w3v w4k w4v, p1, rng p2.toNat⟩).o, (posS p2 p3.toNat 0 ⟨OS.mk c0_0 c0_1 c0_2 w1 w2k w2v w3k w3v w4k w4v, p1, rng p2.toNat⟩).t, srt ((posS p2 p3.toNat 0 ⟨OS.mk c0_0 c0_1 c0_2 w1 w2k w2v w3k w3v w4k w4v, p1, rng p2.toNat⟩).g.take p3.toNat)⟩ := by
    rw [← hA]; exact if_neg (by omega)
  clear hA bad jb
  generalize hS : posS p2 p3.toNat 0 ⟨OS.mk c0_0 c0_1 c0_2 w1 w2k w2v w3k w3v w4k w4v, p1, rng p2.toNat⟩ = S at hg
  subst hg
  refine kdh (r1 := S.t) ⟨(fun h => by cases h), fun _ => ⟨by omega, by omega, by omega, by unfold maxLen; omega, rfl, by simp, ?_⟩⟩
  refine kpo (r1 := S.t) (SetI (fun (j : Nat) => (j : Int)) p2.toNat) (fun i _ => (p2.toNat - i).toNat) (SetI.start (by simp)) ?_
  intro i g hi
  have i0 := hi.1
  have il := hi.2.2.1
  refine ⟨fun hh => ?_, fun hh => ?_⟩
  · have hh := of_decide_eq_true hh
    exact ⟨⟨i0, by omega⟩, ⟨i0, by omega⟩, rfl, by rw [List.length_set], hi.next hh (by omega) (by omega)⟩
  have hh := of_decide_eq_false hh
  have hgr : g = rng p2.toNat := hi.done hh
  subst hgr
  refine ⟨rfl, rfl, ?_⟩
  refine kq8 (r1 := S.t) (fun i a b c ts tc q k v s t x y g => (0 ≤ i ∧ i ≤ p3) ∧ U64 ts ∧ U64 tc ∧ (OOk (OS.mk a b c q k v s t x y) ∧ q.length ≤ 900000 + i.toNat) ∧ (g.length : Int) = p2 ∧ posS p2 (p3 - i).toNat i ⟨OS.mk a b c q k v s t x y, ⟨ts, tc⟩, g⟩ = S)
    (fun i _ _ _ _ _ _ _ _ _ _ _ _ _ => (p3 - i).toNat) ⟨⟨by omega, by omega⟩, h1, h2, ⟨h3, by omega⟩, by rw [k13s]; omega, by rw [Int.sub_zero]; exact hS⟩ ?_
  rintro i a b c ts tc q k v s t x y g ⟨⟨g0, g1⟩, g2, g3, ⟨g4, g5⟩, g6, g7⟩
  refine ⟨fun hh => ?_, fun hh => ?_⟩
  · have hh := of_decide_eq_true hh
    refine ⟨rfl, ⟨⟨g2, g3⟩, g4⟩, ?_⟩
    dsimp only
    obtain ⟨q1, q2, q3, q4⟩ := g4.ch ⟨ts, tc⟩ 18446744069414584321 (show q.length ≤ 999999 by omega)
    obtain ⟨q5, q6, q7⟩ := q4 rfl
    rw [show (p3 - i).toNat = (p3 - (i + 1)).toNat + 1 by omega] at g7
    have e5 : IntKind.u64.wrap (IntKind.i64.wrap (p2 - i)) = p2 - i := by rw [wi _ (by omega) (by omega), wu _ (by omega) (by omega)]
    rw [e5]
    generalize hC : chO (OS.mk a b c q k v s t x y) ⟨ts, tc⟩ 18446744069414584321 = C at *
    have hj : 0 ≤ C.n % (p2 - i) ∧ C.n % (p2 - i) < p2 - i := ⟨Int.emod_nonneg _ (by omega), Int.emod_lt_of_pos _ (by omega)⟩
    have e6 : IntKind.i64.wrap (i + IntKind.i64.wrap (Int.tmod C.n (p2 - i))) = i + C.n % (p2 - i) := by
      rw [tmod_nn _ _ q5, wi (C.n % (p2 - i)) (by omega) (by omega), wi _ (by omega) (by omega)]
    rw [e6, wi (i + 1) (by omega) (by omega)]
    have e7 : posN p2 i ⟨OS.mk a b c q k v s t x y, ⟨ts, tc⟩, g⟩ = ⟨C.o, C.t, swp g i (i + C.n % (p2 - i))⟩ := by unfold posN; simp only [hC]
    have g7 : posS p2 (p3 - (i + 1)).toNat (i + 1) (posN p2 i ⟨OS.mk a b c q k v s t x y, ⟨ts, tc⟩, g⟩) = S := g7
    rw [e7] at g7
    refine ⟨by omega, ⟨by omega, by omega⟩, ⟨by omega, by omega⟩, ⟨by omega, by omega⟩, ⟨by omega, by omega⟩, ⟨by omega, by omega⟩, ⟨by omega, by omega⟩, ⟨by omega, by omega⟩, ⟨by omega, by rw [List.length_set]; omega⟩, rfl, by rw [List.length_set, List.length_set], ⟨⟨by omega, by omega⟩, ?_, q7, ⟨q1, ?_⟩, ?_, g7⟩, by omega⟩
    · rw [q3]; exact g2
    · have q2 : C.o.q.length ≤ q.length + 1 := q2
      omega
    · rw [List.length_set, List.length_set]; exact g6
  · have hh := of_decide_eq_false hh
    rw [show (p3 - i).toNat = 0 by omega] at g7
    have g7 : (⟨OS.mk a b c q k v s t x y, ⟨ts, tc⟩, g⟩ : PS) = S := g7
    subst g7
    refine ⟨by omega, by omega, ⟨by omega, by omega, by simp; omega, by omega⟩, ?_⟩
    dsimp only
    refine ⟨rfl, ?_, ?_⟩
    · rw [List.length_take]; simp; omega
    · refine ⟨by rw [k1bb], rfl, by rw [Int.toNat_natCast, show (0 : Int).toNat = 0 from rfl, List.drop_zero], rfl, rfl, rfl, rfl, rfl, rfl, rfl, rfl, rfl, rfl, rfl, rfl⟩
noncomputable def kft : Con TB.den := ky.fnR (fun x => (fun (p1 : TTranscript) (p2 : Int) (p3 : Int) (c0_0 : Bool) (c0_1 : Int) (c0_2 : Int) (w1 : List TQuestion) (w2k : List ByteArray) (w2v : List Int) (w3k : List ByteArray) (w3v : List (List Int)) (w4k : List ByteArray) (w4v : List Bool) => (U64 p1.State ∧ U64 p1.Count) ∧ (OOk (OS.mk c0_0 c0_1 c0_2 w1 w2k w2v w3k w3v w4k w4v) ∧ w1.length ≤ 900000) ∧ p3 ≤ 12) (TTranscript.mk x.1 x.2.1) x.2.2.1 x.2.2.2.1 x.2.2.2.2.1 x.2.2.2.2.2.1 x.2.2.2.2.2.2.1 x.2.2.2.2.2.2.2.1 x.2.2.2.2.2.2.2.2.1 x.2.2.2.2.2.2.2.2.2.1 x.2.2.2.2.2.2.2.2.2.2.1 x.2.2.2.2.2.2.2.2.2.2.2.1 x.2.2.2.2.2.2.2.2.2.2.2.2.1 x.2.2.2.2.2.2.2.2.2.2.2.2.2.1) fun x => ((fun (p1 : TTranscript) (p2 : Int) (p3 : Int) (c0_0 : Bool) (c0_1 : Int) (c0_2 : Int) (w1 : List TQuestion) (w2k : List ByteArray) (w2v : List Int) (w3k : List ByteArray) (w3v : List (List Int)) (w4k : List ByteArray) (w4v : List Bool) => (((posO (OS.mk c0_0 c0_1 c0_2 w1 w2k w2v w3k w3v w4k w4v) p1 p2 p3).g) : List Int)) (TTranscript.mk x.1 x.2.1) x.2.2.1 x.2.2.2.1 x.2.2.2.2.1 x.2.2.2.2.2.1 x.2.2.2.2.2.2.1 x.2.2.2.2.2.2.2.1 x.2.2.2.2.2.2.2.2.1 x.2.2.2.2.2.2.2.2.2.1 x.2.2.2.2.2.2.2.2.2.2.1 x.2.2.2.2.2.2.2.2.2.2.2.1 x.2.2.2.2.2.2.2.2.2.2.2.2.1 x.2.2.2.2.2.2.2.2.2.2.2.2.2.1, (fun (p1 : TTranscript) (p2 : Int) (p3 : Int) (c0_0 : Bool) (c0_1 : Int) (c0_2 : Int) (w1 : List TQuestion) (w2k : List ByteArray) (w2v : List Int) (w3k : List ByteArray) (w3v : List (List Int)) (w4k : List ByteArray) (w4v : List Bool) => (((posO (OS.mk c0_0 c0_1 c0_2 w1 w2k w2v w3k w3v w4k w4v) p1 p2 p3).t).State : Int)) (TTranscript.mk x.1 x.2.1) x.2.2.1 x.2.2.2.1 x.2.2.2.2.1 x.2.2.2.2.2.1 x.2.2.2.2.2.2.1 x.2.2.2.2.2.2.2.1 x.2.2.2.2.2.2.2.2.1 x.2.2.2.2.2.2.2.2.2.1 x.2.2.2.2.2.2.2.2.2.2.1 x.2.2.2.2.2.2.2.2.2.2.2.1 x.2.2.2.2.2.2.2.2.2.2.2.2.1 x.2.2.2.2.2.2.2.2.2.2.2.2.2.1, (fun (p1 : TTranscript) (p2 : Int) (p3 : Int) (c0_0 : Bool) (c0_1 : Int) (c0_2 : Int) (w1 : List TQuestion) (w2k : List ByteArray) (w2v : List Int) (w3k : List ByteArray) (w3v : List (List Int)) (w4k : List ByteArray) (w4v : List Bool) => (((posO (OS.mk c0_0 c0_1 c0_2 w1 w2k w2v w3k w3v w4k w4v) p1 p2 p3).t).Count : Int)) (TTranscript.mk x.1 x.2.1) x.2.2.1 x.2.2.2.1 x.2.2.2.2.1 x.2.2.2.2.2.1 x.2.2.2.2.2.2.1 x.2.2.2.2.2.2.2.1 x.2.2.2.2.2.2.2.2.1 x.2.2.2.2.2.2.2.2.2.1 x.2.2.2.2.2.2.2.2.2.2.1 x.2.2.2.2.2.2.2.2.2.2.2.1 x.2.2.2.2.2.2.2.2.2.2.2.2.1 x.2.2.2.2.2.2.2.2.2.2.2.2.2.1, (fun (p1 : TTranscript) (p2 : Int) (p3 : Int) (c0_0 : Bool) (c0_1 : Int) (c0_2 : Int) (w1 : List TQuestion) (w2k : List ByteArray) (w2v : List Int) (w3k : List ByteArray) (w3v : List (List Int)) (w4k : List ByteArray) (w4v : List Bool) => (((posO (OS.mk c0_0 c0_1 c0_2 w1 w2k w2v w3k w3v w4k w4v) p1 p2 p3).o.a) : Bool)) (TTranscript.mk x.1 x.2.1) x.2.2.1 x.2.2.2.1 x.2.2.2.2.1 x.2.2.2.2.2.1 x.2.2.2.2.2.2.1 x.2.2.2.2.2.2.2.1 x.2.2.2.2.2.2.2.2.1 x.2.2.2.2.2.2.2.2.2.1 x.2.2.2.2.2.2.2.2.2.2.1 x.2.2.2.2.2.2.2.2.2.2.2.1 x.2.2.2.2.2.2.2.2.2.2.2.2.1 x.2.2.2.2.2.2.2.2.2.2.2.2.2.1, (fun (p1 : TTranscript) (p2 : Int) (p3 : Int) (c0_0 : Bool) (c0_1 : Int) (c0_2 : Int) (w1 : List TQuestion) (w2k : List ByteArray) (w2v : List Int) (w3k : List ByteArray) (w3v : List (List Int)) (w4k : List ByteArray) (w4v : List Bool) => (((posO (OS.mk c0_0 c0_1 c0_2 w1 w2k w2v w3k w3v w4k w4v) p1 p2 p3).o.b) : Int)) (TTranscript.mk x.1 x.2.1) x.2.2.1 x.2.2.2.1 x.2.2.2.2.1 x.2.2.2.2.2.1 x.2.2.2.2.2.2.1 x.2.2.2.2.2.2.2.1 x.2.2.2.2.2.2.2.2.1 x.2.2.2.2.2.2.2.2.2.1 x.2.2.2.2.2.2.2.2.2.2.1 x.2.2.2.2.2.2.2.2.2.2.2.1 x.2.2.2.2.2.2.2.2.2.2.2.2.1 x.2.2.2.2.2.2.2.2.2.2.2.2.2.1, (fun (p1 : TTranscript) (p2 : Int) (p3 : Int) (c0_0 : Bool) (c0_1 : Int) (c0_2 : Int) (w1 : List TQuestion) (w2k : List ByteArray) (w2v : List Int) (w3k : List ByteArray) (w3v : List (List Int)) (w4k : List ByteArray) (w4v : List Bool) => (((posO (OS.mk c0_0 c0_1 c0_2 w1 w2k w2v w3k w3v w4k w4v) p1 p2 p3).o.c) : Int)) (TTranscript.mk x.1 x.2.1) x.2.2.1 x.2.2.2.1 x.2.2.2.2.1 x.2.2.2.2.2.1 x.2.2.2.2.2.2.1 x.2.2.2.2.2.2.2.1 x.2.2.2.2.2.2.2.2.1 x.2.2.2.2.2.2.2.2.2.1 x.2.2.2.2.2.2.2.2.2.2.1 x.2.2.2.2.2.2.2.2.2.2.2.1 x.2.2.2.2.2.2.2.2.2.2.2.2.1 x.2.2.2.2.2.2.2.2.2.2.2.2.2.1, (fun (p1 : TTranscript) (p2 : Int) (p3 : Int) (c0_0 : Bool) (c0_1 : Int) (c0_2 : Int) (w1 : List TQuestion) (w2k : List ByteArray) (w2v : List Int) (w3k : List ByteArray) (w3v : List (List Int)) (w4k : List ByteArray) (w4v : List Bool) => (((posO (OS.mk c0_0 c0_1 c0_2 w1 w2k w2v w3k w3v w4k w4v) p1 p2 p3).o.q) : List TQuestion)) (TTranscript.mk x.1 x.2.1) x.2.2.1 x.2.2.2.1 x.2.2.2.2.1 x.2.2.2.2.2.1 x.2.2.2.2.2.2.1 x.2.2.2.2.2.2.2.1 x.2.2.2.2.2.2.2.2.1 x.2.2.2.2.2.2.2.2.2.1 x.2.2.2.2.2.2.2.2.2.2.1 x.2.2.2.2.2.2.2.2.2.2.2.1 x.2.2.2.2.2.2.2.2.2.2.2.2.1 x.2.2.2.2.2.2.2.2.2.2.2.2.2.1, (fun (p1 : TTranscript) (p2 : Int) (p3 : Int) (c0_0 : Bool) (c0_1 : Int) (c0_2 : Int) (w1 : List TQuestion) (w2k : List ByteArray) (w2v : List Int) (w3k : List ByteArray) (w3v : List (List Int)) (w4k : List ByteArray) (w4v : List Bool) => (((posO (OS.mk c0_0 c0_1 c0_2 w1 w2k w2v w3k w3v w4k w4v) p1 p2 p3).o.k) : List ByteArray)) (TTranscript.mk x.1 x.2.1) x.2.2.1 x.2.2.2.1 x.2.2.2.2.1 x.2.2.2.2.2.1 x.2.2.2.2.2.2.1 x.2.2.2.2.2.2.2.1 x.2.2.2.2.2.2.2.2.1 x.2.2.2.2.2.2.2.2.2.1 x.2.2.2.2.2.2.2.2.2.2.1 x.2.2.2.2.2.2.2.2.2.2.2.1 x.2.2.2.2.2.2.2.2.2.2.2.2.1 x.2.2.2.2.2.2.2.2.2.2.2.2.2.1, (fun (p1 : TTranscript) (p2 : Int) (p3 : Int) (c0_0 : Bool) (c0_1 : Int) (c0_2 : Int) (w1 : List TQuestion) (w2k : List ByteArray) (w2v : List Int) (w3k : List ByteArray) (w3v : List (List Int)) (w4k : List ByteArray) (w4v : List Bool) => (((posO (OS.mk c0_0 c0_1 c0_2 w1 w2k w2v w3k w3v w4k w4v) p1 p2 p3).o.v) : List Int)) (TTranscript.mk x.1 x.2.1) x.2.2.1 x.2.2.2.1 x.2.2.2.2.1 x.2.2.2.2.2.1 x.2.2.2.2.2.2.1 x.2.2.2.2.2.2.2.1 x.2.2.2.2.2.2.2.2.1 x.2.2.2.2.2.2.2.2.2.1 x.2.2.2.2.2.2.2.2.2.2.1 x.2.2.2.2.2.2.2.2.2.2.2.1 x.2.2.2.2.2.2.2.2.2.2.2.2.1 x.2.2.2.2.2.2.2.2.2.2.2.2.2.1, (fun (p1 : TTranscript) (p2 : Int) (p3 : Int) (c0_0 : Bool) (c0_1 : Int) (c0_2 : Int) (w1 : List TQuestion) (w2k : List ByteArray) (w2v : List Int) (w3k : List ByteArray) (w3v : List (List Int)) (w4k : List ByteArray) (w4v : List Bool) => (((posO (OS.mk c0_0 c0_1 c0_2 w1 w2k w2v w3k w3v w4k w4v) p1 p2 p3).o.s) : List ByteArray)) (TTranscript.mk x.1 x.2.1) x.2.2.1 x.2.2.2.1 x.2.2.2.2.1 x.2.2.2.2.2.1 x.2.2.2.2.2.2.1 x.2.2.2.2.2.2.2.1 x.2.2.2.2.2.2.2.2.1 x.2.2.2.2.2.2.2.2.2.1 x.2.2.2.2.2.2.2.2.2.2.1 x.2.2.2.2.2.2.2.2.2.2.2.1 x.2.2.2.2.2.2.2.2.2.2.2.2.1 x.2.2.2.2.2.2.2.2.2.2.2.2.2.1, (fun (p1 : TTranscript) (p2 : Int) (p3 : Int) (c0_0 : Bool) (c0_1 : Int) (c0_2 : Int) (w1 : List TQuestion) (w2k : List ByteArray) (w2v : List Int) (w3k : List ByteArray) (w3v : List (List Int)) (w4k : List ByteArray) (w4v : List Bool) => (((posO (OS.mk c0_0 c0_1 c0_2 w1 w2k w2v w3k w3v w4k w4v) p1 p2 p3).o.t) : List (List Int))) (TTranscript.mk x.1 x.2.1) x.2.2.1 x.2.2.2.1 x.2.2.2.2.1 x.2.2.2.2.2.1 x.2.2.2.2.2.2.1 x.2.2.2.2.2.2.2.1 x.2.2.2.2.2.2.2.2.1 x.2.2.2.2.2.2.2.2.2.1 x.2.2.2.2.2.2.2.2.2.2.1 x.2.2.2.2.2.2.2.2.2.2.2.1 x.2.2.2.2.2.2.2.2.2.2.2.2.1 x.2.2.2.2.2.2.2.2.2.2.2.2.2.1, (fun (p1 : TTranscript) (p2 : Int) (p3 : Int) (c0_0 : Bool) (c0_1 : Int) (c0_2 : Int) (w1 : List TQuestion) (w2k : List ByteArray) (w2v : List Int) (w3k : List ByteArray) (w3v : List (List Int)) (w4k : List ByteArray) (w4v : List Bool) => (((posO (OS.mk c0_0 c0_1 c0_2 w1 w2k w2v w3k w3v w4k w4v) p1 p2 p3).o.x) : List ByteArray)) (TTranscript.mk x.1 x.2.1) x.2.2.1 x.2.2.2.1 x.2.2.2.2.1 x.2.2.2.2.2.1 x.2.2.2.2.2.2.1 x.2.2.2.2.2.2.2.1 x.2.2.2.2.2.2.2.2.1 x.2.2.2.2.2.2.2.2.2.1 x.2.2.2.2.2.2.2.2.2.2.1 x.2.2.2.2.2.2.2.2.2.2.2.1 x.2.2.2.2.2.2.2.2.2.2.2.2.1 x.2.2.2.2.2.2.2.2.2.2.2.2.2.1, (fun (p1 : TTranscript) (p2 : Int) (p3 : Int) (c0_0 : Bool) (c0_1 : Int) (c0_2 : Int) (w1 : List TQuestion) (w2k : List ByteArray) (w2v : List Int) (w3k : List ByteArray) (w3v : List (List Int)) (w4k : List ByteArray) (w4v : List Bool) => (((posO (OS.mk c0_0 c0_1 c0_2 w1 w2k w2v w3k w3v w4k w4v) p1 p2 p3).o.y) : List Bool)) (TTranscript.mk x.1 x.2.1) x.2.2.1 x.2.2.2.1 x.2.2.2.2.1 x.2.2.2.2.2.1 x.2.2.2.2.2.2.1 x.2.2.2.2.2.2.2.1 x.2.2.2.2.2.2.2.2.1 x.2.2.2.2.2.2.2.2.2.1 x.2.2.2.2.2.2.2.2.2.2.1 x.2.2.2.2.2.2.2.2.2.2.2.1 x.2.2.2.2.2.2.2.2.2.2.2.2.1 x.2.2.2.2.2.2.2.2.2.2.2.2.2.1, ())
theorem kr5 : kft.Ok Try.prog TB := Con.ok_fn ky bd26 fun x h => kpr (kp5 (TTranscript.mk x.1 x.2.1) x.2.2.1 x.2.2.2.1 x.2.2.2.2.1 x.2.2.2.2.2.1 x.2.2.2.2.2.2.1 x.2.2.2.2.2.2.2.1 x.2.2.2.2.2.2.2.2.1 x.2.2.2.2.2.2.2.2.2.1 x.2.2.2.2.2.2.2.2.2.2.1 x.2.2.2.2.2.2.2.2.2.2.2.1 x.2.2.2.2.2.2.2.2.2.2.2.2.1 x.2.2.2.2.2.2.2.2.2.2.2.2.2.1 h)
end Go.Proofs.Ytponaobpcdkggaa
namespace Go.Proofs.Ytponaobpcdkggaa
open Go Go.Bv Go.Cv Go.Md Go.RowKit
def k4t : Con TB.den := Con.mk0 10 [] [] (.one (.one (.d (.bool)))) []
abbrev k10b := HL TB.den (hsT k4t.ins (hsOs k4t.pre))
abbrev kov := HL TB.den (hsV k4t.res (hsOs k4t.post))
noncomputable def kh6 : Cx TB := ⟨inf, [kqh, kpj, ka4, kft, kyb, kyp], [], 4, []⟩
noncomputable def ko0 : Code := Try.f10.body.getD .skip
noncomputable def ks7 : List ResultVar := Try.f10.results.toList
noncomputable def kyc (o : kov) : An TB := .no
noncomputable def ko8 (x : k10b) (o : kov) : Prop := WPh TB kh6 49 0 ko0 (kyc o) (k4t.st TB x) (retTQ TB kh6 k4t ks7 o)
set_option maxRecDepth 100000 in
theorem k16k (o : kov) : OblH TB kh6 49 0 ko0 (kyc o) (retTQ TB kh6 k4t ks7 o) :=
  OblH.of_eq (X := (True ∧ (True ∧ ((True ∧ ((True ∧ True) ∧ True)) ∧ (True ∧ (True ∧ (True ∧ (True ∧ True)))))))) (by kernel_rfl) ⟨trivial, ⟨trivial, ⟨⟨trivial, ⟨⟨trivial, trivial⟩, trivial⟩⟩, ⟨trivial, ⟨trivial, ⟨trivial, ⟨trivial, trivial⟩⟩⟩⟩⟩⟩⟩
set_option maxRecDepth 100000 in
theorem k16s {x : k10b} {o : kov} (h : ko8 x o) : SoundH Try.prog k4t.f ((k4t.args idf x).map (er TB)) ((k4t.obs idf x).map (erO TB)) (er TB (k4t.val idf o)) ((k4t.ops idf o).map (erO TB)) :=
  Con.soundH (c := k4t) (C := kh6) TBok ⟨inf_ok, (all_cons k10y (all_cons kzh (all_cons kgf (all_cons kr5 (all_cons k1ac (all_cons k1aj all_nil)))))), all_nil⟩ mix Try.func10 (show Try.f10.body = some ko0 by kernel_rfl) (show Try.f10.ntmps = 49 by kernel_rfl) (show Try.f10.results.toList = ks7 by kernel_rfl) rfl h (k16k o)
set_option maxRecDepth 100000 in
theorem k18z  {r0 : Bool} (h :
((([] : List TQuestion) = ([] : List TQuestion)) ∧ ((U64 (TTranscript.mk (5 : Int) 0).State ∧ U64 (TTranscript.mk (5 : Int) 0).Count) ∧ OOk (OS.mk false (0 : Int) (0 : Int) ([] : List TQuestion) [] [] [] [] [] [])) ∧ let r1 : Int := ((chO (OS.mk false (0 : Int) (0 : Int) ([] : List TQuestion) [] [] [] [] [] []) (TTranscript.mk (5 : Int) 0) (18446744069414584321 : Int)).n)
 let r2 : Int := ((chO (OS.mk false (0 : Int) (0 : Int) ([] : List TQuestion) [] [] [] [] [] []) (TTranscript.mk (5 : Int) 0) (18446744069414584321 : Int)).t).State
 let r3 : Int := ((chO (OS.mk false (0 : Int) (0 : Int) ([] : List TQuestion) [] [] [] [] [] []) (TTranscript.mk (5 : Int) 0) (18446744069414584321 : Int)).t).Count
 let r4 : Bool := ((chO (OS.mk false (0 : Int) (0 : Int) ([] : List TQuestion) [] [] [] [] [] []) (TTranscript.mk (5 : Int) 0) (18446744069414584321 : Int)).o.a)
 let r5 : Int := ((chO (OS.mk false (0 : Int) (0 : Int) ([] : List TQuestion) [] [] [] [] [] []) (TTranscript.mk (5 : Int) 0) (18446744069414584321 : Int)).o.b)
 let r6 : Int := ((chO (OS.mk false (0 : Int) (0 : Int) ([] : List TQuestion) [] [] [] [] [] []) (TTranscript.mk (5 : Int) 0) (18446744069414584321 : Int)).o.c)
 let r7 : List TQuestion := ((chO (OS.mk false (0 : Int) (0 : Int) ([] : List TQuestion) [] [] [] [] [] []) (TTranscript.mk (5 : Int) 0) (18446744069414584321 : Int)).o.q)
 let r8 : List ByteArray := ((chO (OS.mk false (0 : Int) (0 : Int) ([] : List TQuestion) [] [] [] [] [] []) (TTranscript.mk (5 : Int) 0) (18446744069414584321 : Int)).o.k)
 let r9 : List Int := ((chO (OS.mk false (0 : Int) (0 : Int) ([] : List TQuestion) [] [] [] [] [] []) (TTranscript.mk (5 : Int) 0) (18446744069414584321 : Int)).o.v)
 let r10 : List ByteArray := ((chO (OS.mk false (0 : Int) (0 : Int) ([] : List TQuestion) [] [] [] [] [] []) (TTranscript.mk (5 : Int) 0) (18446744069414584321 : Int)).o.s)
 let r11 : List (List Int) := ((chO (OS.mk false (0 : Int) (0 : Int) ([] : List TQuestion) [] [] [] [] [] []) (TTranscript.mk (5 : Int) 0) (18446744069414584321 : Int)).o.t)
 let r12 : List ByteArray := ((chO (OS.mk false (0 : Int) (0 : Int) ([] : List TQuestion) [] [] [] [] [] []) (TTranscript.mk (5 : Int) 0) (18446744069414584321 : Int)).o.x)
 let r13 : List Bool := ((chO (OS.mk false (0 : Int) (0 : Int) ([] : List TQuestion) [] [] [] [] [] []) (TTranscript.mk (5 : Int) 0) (18446744069414584321 : Int)).o.y)
(r7 = r7) ∧ ((U64 (TTranscript.mk r2 r3).State ∧ U64 (TTranscript.mk r2 r3).Count) ∧ OOk (OS.mk r4 r5 r6 r7 r8 r9 r10 r11 r12 r13)) ∧ let r14 : Int := ((chO (OS.mk r4 r5 r6 r7 r8 r9 r10 r11 r12 r13) (TTranscript.mk r2 r3) (97 : Int)).n)
 let r15 : Int := ((chO (OS.mk r4 r5 r6 r7 r8 r9 r10 r11 r12 r13) (TTranscript.mk r2 r3) (97 : Int)).t).State
 let r16 : Int := ((chO (OS.mk r4 r5 r6 r7 r8 r9 r10 r11 r12 r13) (TTranscript.mk r2 r3) (97 : Int)).t).Count
 let r17 : Bool := ((chO (OS.mk r4 r5 r6 r7 r8 r9 r10 r11 r12 r13) (TTranscript.mk r2 r3) (97 : Int)).o.a)
 let r18 : Int := ((chO (OS.mk r4 r5 r6 r7 r8 r9 r10 r11 r12 r13) (TTranscript.mk r2 r3) (97 : Int)).o.b)
 let r19 : Int := ((chO (OS.mk r4 r5 r6 r7 r8 r9 r10 r11 r12 r13) (TTranscript.mk r2 r3) (97 : Int)).o.c)
 let r20 : List TQuestion := ((chO (OS.mk r4 r5 r6 r7 r8 r9 r10 r11 r12 r13) (TTranscript.mk r2 r3) (97 : Int)).o.q)
 let r21 : List ByteArray := ((chO (OS.mk r4 r5 r6 r7 r8 r9 r10 r11 r12 r13) (TTranscript.mk r2 r3) (97 : Int)).o.k)
 let r22 : List Int := ((chO (OS.mk r4 r5 r6 r7 r8 r9 r10 r11 r12 r13) (TTranscript.mk r2 r3) (97 : Int)).o.v)
 let r23 : List ByteArray := ((chO (OS.mk r4 r5 r6 r7 r8 r9 r10 r11 r12 r13) (TTranscript.mk r2 r3) (97 : Int)).o.s)
 let r24 : List (List Int) := ((chO (OS.mk r4 r5 r6 r7 r8 r9 r10 r11 r12 r13) (TTranscript.mk r2 r3) (97 : Int)).o.t)
 let r25 : List ByteArray := ((chO (OS.mk r4 r5 r6 r7 r8 r9 r10 r11 r12 r13) (TTranscript.mk r2 r3) (97 : Int)).o.x)
 let r26 : List Bool := ((chO (OS.mk r4 r5 r6 r7 r8 r9 r10 r11 r12 r13) (TTranscript.mk r2 r3) (97 : Int)).o.y)
(r20 = r20) ∧ ((U64 (TTranscript.mk r15 r16).State ∧ U64 (TTranscript.mk r15 r16).Count) ∧ (OOk (OS.mk r17 r18 r19 r20 r21 r22 r23 r24 r25 r26) ∧ r20.length ≤ 900000) ∧ (4 : Int) ≤ 12) ∧ let r27 : List Int := ((posO (OS.mk r17 r18 r19 r20 r21 r22 r23 r24 r25 r26) (TTranscript.mk r15 r16) (4 : Int) (4 : Int)).g)
 let r28 : Int := ((posO (OS.mk r17 r18 r19 r20 r21 r22 r23 r24 r25 r26) (TTranscript.mk r15 r16) (4 : Int) (4 : Int)).t).State
 let r29 : Int := ((posO (OS.mk r17 r18 r19 r20 r21 r22 r23 r24 r25 r26) (TTranscript.mk r15 r16) (4 : Int) (4 : Int)).t).Count
 let r30 : Bool := ((posO (OS.mk r17 r18 r19 r20 r21 r22 r23 r24 r25 r26) (TTranscript.mk r15 r16) (4 : Int) (4 : Int)).o.a)
 let r31 : Int := ((posO (OS.mk r17 r18 r19 r20 r21 r22 r23 r24 r25 r26) (TTranscript.mk r15 r16) (4 : Int) (4 : Int)).o.b)
 let r32 : Int := ((posO (OS.mk r17 r18 r19 r20 r21 r22 r23 r24 r25 r26) (TTranscript.mk r15 r16) (4 : Int) (4 : Int)).o.c)
 let r33 : List TQuestion := ((posO (OS.mk r17 r18 r19 r20 r21 r22 r23 r24 r25 r26) (TTranscript.mk r15 r16) (4 : Int) (4 : Int)).o.q)
 let r34 : List ByteArray := ((posO (OS.mk r17 r18 r19 r20 r21 r22 r23 r24 r25 r26) (TTranscript.mk r15 r16) (4 : Int) (4 : Int)).o.k)
 let r35 : List Int := ((posO (OS.mk r17 r18 r19 r20 r21 r22 r23 r24 r25 r26) (TTranscript.mk r15 r16) (4 : Int) (4 : Int)).o.v)
 let r36 : List ByteArray := ((posO (OS.mk r17 r18 r19 r20 r21 r22 r23 r24 r25 r26) (TTranscript.mk r15 r16) (4 : Int) (4 : Int)).o.s)
 let r37 : List (List Int) := ((posO (OS.mk r17 r18 r19 r20 r21 r22 r23 r24 r25 r26) (TTranscript.mk r15 r16) (4 : Int) (4 : Int)).o.t)
 let r38 : List ByteArray := ((posO (OS.mk r17 r18 r19 r20 r21 r22 r23 r24 r25 r26) (TTranscript.mk r15 r16) (4 : Int) (4 : Int)).o.x)
 let r39 : List Bool := ((posO (OS.mk r17 r18 r19 r20 r21 r22 r23 r24 r25 r26) (TTranscript.mk r15 r16) (4 : Int) (4 : Int)).o.y)
((18446744069414584321 : Int) = 18446744069414584321 ∧ U64 (19 : Int) ∧ Us [5, 0] ∧ [5, 0].length ≤ 1099511627776) ∧ ((r1 == (hashS (19 : Int) [5, 0])) = true →
((18446744069414584321 : Int) = 18446744069414584321 ∧ U64 (19 : Int) ∧ Us [5, 1] ∧ [5, 1].length ≤ 1099511627776) ∧ let v40 : Bool := (r14 == (Int.tmod (hashS (19 : Int) [5, 1]) 97))
(v40 = true →
(((r15 == 5) && ((r16 == 2) && true)) = true →
(r27.length ≤ 9223372036854775807) ∧ (decide (r27 = [0, 1, 2, 3])) = r0) ∧
(((r15 == 5) && ((r16 == 2) && true)) = false →
 false = r0)) ∧
(v40 = false →
 false = r0)) ∧
((r1 == (hashS (19 : Int) [5, 0])) = false →
 false = r0))) : ko8 (()) (r0, ()) := WPh.of_eq (by kernel_rfl) h
theorem bd10 : Callable Try.prog 10 := ⟨by rw [Try.func10]; kernel_rfl, by rw [Try.func10]; show some _ ≠ some _; decide⟩
theorem k145 : ko8 (()) ((true : Bool), ()) := by
  have z : RR (OS.mk false 0 0 [] [] [] [] [] [] []) := RR.z
  have zo : OOk (OS.mk false 0 0 [] [] [] [] [] [] []) := OOk.z false 0
  obtain ⟨a1, a2, _, a4⟩ := z.ch (t := ⟨5, 0⟩) (p := 18446744069414584321) (by decide) (by decide) (by decide)
  have b1 := zo.ch ⟨5, 0⟩ 18446744069414584321 (by decide)
  refine k18z ⟨rfl, ⟨⟨by decide, by decide⟩, zo⟩, ?_⟩
  dsimp only
  generalize chO (OS.mk false 0 0 [] [] [] [] [] [] []) ⟨5, 0⟩ 18446744069414584321 = c1 at *
  simp only [OS_eta, k132]
  have e2 : c1.t = ⟨5, 1⟩ := a2
  rw [e2]
  have b2 : c1.o.q.length ≤ 1 := b1.2.1
  obtain ⟨d1, d2, _, d4⟩ := a4.ch (t := ⟨5, 1⟩) (p := 97) (by decide) (by decide) (by decide)
  have f1 := b1.1.ch ⟨5, 1⟩ 97 (by omega)
  refine ⟨(by first | exact rfl | exact True.intro), ⟨⟨by decide, by decide⟩, b1.1⟩, ?_⟩
  generalize chO c1.o ⟨5, 1⟩ 97 = c2 at *
  have e3 : c2.t = ⟨5, 2⟩ := d2
  rw [e3]
  have f2 : c2.o.q.length ≤ c1.o.q.length + 1 := f1.2.1
  refine ⟨(by first | exact rfl | exact True.intro), ⟨⟨by decide, by decide⟩, ⟨f1.1, by omega⟩, by decide⟩, ?_⟩
  have hp := k1dz f1.1 ⟨5, 2⟩ (n := 4) (by decide) (by omega)
  have h5 : valH 19 [5, 0] = hashS 19 [5, 0] := rfl
  have h6 : valH 19 [5, 1] = hashS 19 [5, 1] := rfl
  have g5 : Int.tmod (hashS 19 [5, 0]) 18446744069414584321 = hashS 19 [5, 0] := by
    have := k15g 19 [5, 0]
    have := k17p 19 [5, 0]
    rw [tmod_nn _ _ (by omega)]
    omega
  rw [hp, a1, d1, h5, h6, g5]
  refine ⟨⟨(by first | exact rfl | exact True.intro), by decide, (by intro x hx; simp at hx; omega), by decide⟩, fun _ => ⟨⟨(by first | exact rfl | exact True.intro), by decide, (by intro x hx; simp at hx; omega), by decide⟩, fun _ => ⟨fun _ => ⟨by decide, by decide⟩, fun h => by simp at h⟩, fun h => by simp at h⟩, fun h => by simp at h⟩
noncomputable def kwn : Con TB.den := k4t.totR fun x => ((true : Bool), ())
theorem k18l : kwn.Ok Try.prog TB := Con.ok_tot k4t bd10 fun x => k16s (k145 )
end Go.Proofs.Ytponaobpcdkggaa
namespace Go.Proofs.Ytponaobpcdkggaa
open Go Go.Bv Go.Cv Go.Md Go.RowKit
def k4l : Con TB.den := Con.mk0 15 [.one (.d (.sl (.int .u64))), .one (.d (.sl (.int .u64)))] [] (.one (.one (.d (.bool)))) []
abbrev k12w := HL TB.den (hsT k4l.ins (hsOs k4l.pre))
abbrev kcf := HL TB.den (hsV k4l.res (hsOs k4l.post))
noncomputable def k98 : Cx TB := ⟨inf, [], [], 4, []⟩
noncomputable def kg3 : Code := Try.f15.body.getD .skip
noncomputable def kke : List ResultVar := Try.f15.results.toList
noncomputable def k1ah (o : kcf) : Exit → TSt TB.den → Prop := thenT TB (fun s => ghs TB [] s fun s => WP TB k98 26 0 (cB (cB (cB kg3))) .no s (retTQ TB k98 k4l kke o)) (retTQ TB k98 k4l kke o)
def kco : Tm := ⟨[], [], [0, 1, 5], [.one (.d (.sl (.int .u64))), .one (.d (.sl (.int .u64))), .one (.d (.int .i64))], 0⟩
noncomputable def k1a0 (o : kcf) (nx1 : HL TB.den kco.hs → Prop) : Exit → TSt TB.den → Prop := thenT TB (fun s => kco.mat TB 0 s nx1) (blockT TB 0 (k1ah o))
noncomputable def kk6 (o : kcf) (nx1 : HL TB.den kco.hs → Prop) (i : HL TB.den kco.hs) : Prop := WP TB k98 26 0 (cA (cA (cB (cA (cB (cB kg3)))))) .no (kco.fill TB i) (k1a0 o nx1)
noncomputable def k1a8 (o : kcf) : An TB := .nd [] .no [] (.lp [] kco (kk6 o) fun nx1 => .no)
noncomputable def k10q (o : kcf) : An TB := .nd [] .no [] (.nd [] .no [] (.nd [] (k1a8 o) [] .no))
noncomputable def kq9 (x : k12w) (o : kcf) : Prop := WPh TB k98 26 0 kg3 (k10q o) (k4l.st TB x) (retTQ TB k98 k4l kke o)
set_option maxRecDepth 100000 in
theorem k17h (o : kcf) : OblH TB k98 26 0 kg3 (k10q o) (retTQ TB k98 k4l kke o) :=
  OblH.of_eq (X := (True ∧ ((True ∧ ((True ∧ True) ∧ True)) ∧ ((True ∧ ((∀ nx i, (kk6 o) nx i = (kk6 o) nx i) ∧ ∀ nx1 : HL TB.den kco.hs → Prop, ((True ∧ (True ∧ True)) ∧ ((True ∧ ((True ∧ True) ∧ True)) ∧ True)))) ∧ (True ∧ True))))) (by kernel_rfl) ⟨trivial, ⟨⟨trivial, ⟨⟨trivial, trivial⟩, trivial⟩⟩, ⟨⟨trivial, ⟨fun _ _ => rfl, fun _ => ⟨⟨trivial, ⟨trivial, trivial⟩⟩, ⟨⟨trivial, ⟨⟨trivial, trivial⟩, trivial⟩⟩, trivial⟩⟩⟩⟩, ⟨trivial, trivial⟩⟩⟩⟩
set_option maxRecDepth 100000 in
theorem k17f {x : k12w} {o : kcf} (h : kq9 x o) : SoundH Try.prog k4l.f ((k4l.args idf x).map (er TB)) ((k4l.obs idf x).map (erO TB)) (er TB (k4l.val idf o)) ((k4l.ops idf o).map (erO TB)) :=
  Con.soundH (c := k4l) (C := k98) TBok ⟨inf_ok, all_nil, all_nil⟩ mix Try.func15 (show Try.f15.body = some kg3 by kernel_rfl) (show Try.f15.ntmps = 26 by kernel_rfl) (show Try.f15.results.toList = kke by kernel_rfl) rfl h (k17h o)
set_option maxRecDepth 100000 in
theorem k1ae {p0 : List Int} {p1 : List Int} {r0 : Bool} (h :
((((p0.length : Int) != (p1.length : Int)) = true →
 false = r0) ∧
(((p0.length : Int) != (p1.length : Int)) = false →
 Md.Loop (p0, p1, (0 : Int), ()) (kk6 (r0, ()))))) : kq9 (p0, p1, ()) (r0, ()) := WPh.of_eq (by kernel_rfl) h
def k103 (r0 : Bool) (k1 : Int → Prop) (s0 : List Int) (s1 : List Int) (s5 : Int) : Prop :=
(decide (s5 < (s0.length : Int)) = true →
(0 ≤ s5) ∧ s5 < (s0.length : Int) ∧ (0 ≤ s5) ∧ s5 < (s1.length : Int) ∧ (((ix s0 s5) != (ix s1 s5)) = true →
 false = r0) ∧
(((ix s0 s5) != (ix s1 s5)) = false →
 k1 (IntKind.i64.wrap (s5 + 1) : Int))) ∧
(decide (s5 < (s0.length : Int)) = false →
 true = r0)
set_option maxRecDepth 100000 in
theorem k17m {r0 : Bool} {s0 : List Int} {s1 : List Int} {s5 : Int} (inv : Int → Prop) (μ : Int → Nat) (h0 : inv s5) (hs : ∀ (s5 : Int), inv s5 → k103 r0 (fun s5q => inv s5q ∧ μ s5q < μ s5) s0 s1 s5) : Md.Loop (s0, s1, s5, ()) (kk6 (r0, ())) :=
  ⟨⟨fun s : (List Int) × (List Int) × Int × Unit => (s.1 = s0 ∧ s.2.1 = s1) ∧ inv s.2.2.1, fun s : (List Int) × (List Int) × Int × Unit => μ s.2.2.1, ⟨⟨rfl, rfl⟩, h0⟩, fun (s0p, s1p, s5p, ()) ⟨⟨eq0, eq1⟩, hi⟩ => by
    have eq0 : s0p = s0 := eq0; subst s0p; have eq1 : s1p = s1 := eq1; subst s1p; exact mpr_of (by kernel_rfl) ((congrArg (fun k => k103 r0 k s0 s1 s5p) (lpk1 (⟨rfl, rfl⟩ : s0 = s0 ∧ s1 = s1) inv (fun s5q => μ s5q < μ s5p))).mpr (hs s5p hi))⟩⟩
theorem bd15 : Callable Try.prog 15 := ⟨by rw [Try.func15]; kernel_rfl, by rw [Try.func15]; show some _ ≠ some _; decide⟩
theorem k178 (p0 : List Int) (p1 : List Int) (h : p0.length ≤ 9223372036854775807) : kq9 (p0, p1, ()) (((decide (p0 = p1)) : Bool), ()) := by
  refine k1ae ⟨fun e => ?_, fun e => ?_⟩
  · have e : ¬ (p0.length : Int) = p1.length := by simpa using e
    rw [decide_eq_false (by rintro rfl; exact e rfl)]
  · have e : (p0.length : Int) = p1.length := by simpa using e
    refine k17m (fun i => 0 ≤ i ∧ i ≤ p0.length ∧ p0.take i.toNat = p1.take i.toNat) (fun i => (p0.length - i).toNat) ⟨by omega, by omega, by simp⟩ ?_
    rintro i ⟨g0, g1, g2⟩
    refine ⟨fun hh => ?_, fun hh => ?_⟩
    · have hh := of_decide_eq_true hh
      refine ⟨g0, hh, g0, by omega, fun e2 => ?_, fun e2 => ?_⟩
      · have e2 : ¬ ix p0 i = ix p1 i := by simpa using e2
        rw [decide_eq_false (by rintro rfl; exact e2 rfl)]
      · have e2 : ix p0 i = ix p1 i := by simpa using e2
        rw [inc i p0.length g0 hh (by omega)]
        refine ⟨⟨by omega, by omega, ?_⟩, by omega⟩
        rw [k9b p0 i g0 hh, k9b p1 i g0 (by omega), g2, e2]
    · have hh := of_decide_eq_false hh
      rw [List.take_of_length_le (by omega), List.take_of_length_le (by omega)] at g2
      rw [decide_eq_true g2]
noncomputable def kyl : Con TB.den := k4l.fnR (fun x => (fun (p0 : List Int) (p1 : List Int) => p0.length ≤ 9223372036854775807) x.1 x.2.1) fun x => ((fun (p0 : List Int) (p1 : List Int) => ((decide (p0 = p1)) : Bool)) x.1 x.2.1, ())
theorem k1aa : kyl.Ok Try.prog TB := Con.ok_fn k4l bd15 fun x h => k17f (k178 x.1 x.2.1 h)
end Go.Proofs.Ytponaobpcdkggaa
namespace Go.Proofs.Ytponaobpcdkggaa
open Go Go.Bv Go.Cv Go.Md Go.RowKit
def k1k : Con TB.den := Con.mk0 14 [.agg [.d (.int .u64), .d (.int .u64)], .one (.d (.int .i64))] [] (.one (.one (.d (.sl (.sl (.int .u64)))))) []
abbrev kk5 := HL TB.den (hsT k1k.ins (hsOs k1k.pre))
abbrev k3w := HL TB.den (hsV k1k.res (hsOs k1k.post))
noncomputable def k3n : Cx TB := ⟨inf, [], [], 4, []⟩
noncomputable def k6c : Code := Try.f14.body.getD .skip
noncomputable def k77 : List ResultVar := Try.f14.results.toList
noncomputable def ksv (o : k3w) : Exit → TSt TB.den → Prop := thenT TB (fun s => ghs TB [] s fun s => WP TB k3n 33 0 (cB (cB (cB (cB k6c)))) (.nd [] .no [] (.rt [.frz 1 [4]])) s (retTQ TB k3n k1k k77 o)) (retTQ TB k3n k1k k77 o)
def k52 : Tm := ⟨[0, 1], [.cells [.d (.int .u64), .d (.int .u64)], .vec (.sl (.int .u64))], [2, 5, 16, 17], [.one (.ptr 0 0), .one (.row 1), .one (.d (.int .i64)), .one (.d (.int .i64))], 2⟩
noncomputable def kt5 (o : k3w) (nx1 : HL TB.den k52.hs → Prop) : Exit → TSt TB.den → Prop := thenT TB (fun s => k52.mat TB 0 s nx1) (blockT TB 0 (ksv o))
noncomputable def k76 (o : k3w) (nx1 : HL TB.den k52.hs → Prop) (i : HL TB.den k52.hs) : Prop := WP TB k3n 33 0 (cA (cA (cB (cA (cB (cB (cB k6c))))))) .no (k52.fill TB i) (kt5 o nx1)
noncomputable def kt6 (o : k3w) : An TB := .lp [] k52 (k76 o) fun nx1 => .no
noncomputable def kt4 (o : k3w) : An TB := .nd [] (.nd [] .no [] (kt6 o)) [] (.nd [] .no [] (.rt [.frz 1 [4]]))
noncomputable def kj1 (o : k3w) : An TB := .nd [] .no [] (.nd [] .no [] (.nd [] .no [] (kt4 o)))
noncomputable def kat (x : kk5) (o : k3w) : Prop := WPh TB k3n 33 0 k6c (kj1 o) (k1k.st TB x) (retTQ TB k3n k1k k77 o)
set_option maxRecDepth 100000 in
theorem krp (o : k3w) : OblH TB k3n 33 0 k6c (kj1 o) (retTQ TB k3n k1k k77 o) :=
  OblH.of_eq (X := (True ∧ ((True ∧ ((True ∧ True) ∧ True)) ∧ (True ∧ ((True ∧ ((∀ nx i, (k76 o) nx i = (k76 o) nx i) ∧ ∀ nx1 : HL TB.den k52.hs → Prop, (True ∧ ((True ∧ True) ∧ ((True ∧ True) ∧ True))))) ∧ (True ∧ True)))))) (by kernel_rfl) ⟨trivial, ⟨⟨trivial, ⟨⟨trivial, trivial⟩, trivial⟩⟩, ⟨trivial, ⟨⟨trivial, ⟨fun _ _ => rfl, fun _ => ⟨trivial, ⟨⟨trivial, trivial⟩, ⟨⟨trivial, trivial⟩, trivial⟩⟩⟩⟩⟩, ⟨trivial, trivial⟩⟩⟩⟩⟩
set_option maxRecDepth 100000 in
theorem ksi {x : kk5} {o : k3w} (h : kat x o) : SoundH Try.prog k1k.f ((k1k.args idf x).map (er TB)) ((k1k.obs idf x).map (erO TB)) (er TB (k1k.val idf o)) ((k1k.ops idf o).map (erO TB)) :=
  Con.soundH (c := k1k) (C := k3n) TBok ⟨inf_ok, all_nil, all_nil⟩ mix Try.func14 (show Try.f14.body = some k6c by kernel_rfl) (show Try.f14.ntmps = 33 by kernel_rfl) (show Try.f14.results.toList = k77 by kernel_rfl) rfl h (krp o)
set_option maxRecDepth 100000 in
theorem ksq {p0 : TTranscript} {p1 : Int} {r0 : List (List Int)} (h :
((decide (p1 < 1) = true →
([] : List (List Int)) = r0) ∧
(decide (p1 < 1) = false →
(decide (4096 < p1) = true →
([] : List (List Int)) = r0) ∧
(decide (4096 < p1) = false →
 0 ≤ p1 ∧ p1 ≤ p1 ∧ (p1.toNat * 24 ≤ 140737488355328) ∧ (p1.toNat ≤ maxLen) ∧ (p1.toNat = (List.replicate p1.toNat ([] : List Int)).length) ∧ Md.Loop (((p1.toNat : Int) : Int), (0 : Int), p0.State, p0.Count, (List.replicate p1.toNat ([] : List Int) : List (List Int)), ()) (k76 (r0, ())))))) : kat (p0.State, p0.Count, p1, ()) (r0, ()) := WPh.of_eq (by kernel_rfl) h
def kiw (r0 : List (List Int)) (k1 : Int → List (List Int) → Prop) (s16 : Int) (h0_0 : Int) (h0_1 : Int) (s17 : Int) (g1 : List (List Int)) : Prop :=
(decide (s17 < s16) = true →
 let v1 : Int := IntKind.u64.wrap (h0_1 + (IntKind.u64.wrap s17))
(0 ≤ s17 ∧ s17 < (g1.length : Int)) ∧ (0 ≤ s17 ∧ s17 < (g1.length : Int)) ∧ (g1.length = (g1.set s17.toNat [h0_0, v1]).length) ∧ k1 (IntKind.i64.wrap (s17 + 1) : Int) (g1.set s17.toNat [h0_0, v1] : List (List Int))) ∧
(decide (s17 < s16) = false →
(g1.length = g1.length) ∧ g1 = r0)
set_option maxRecDepth 100000 in
theorem krb {r0 : List (List Int)} {s16 : Int} {h0_0 : Int} {h0_1 : Int} {s17 : Int} {g1 : List (List Int)} (inv : Int → List (List Int) → Prop) (μ : Int → List (List Int) → Nat) (h0 : inv s17 g1) (hs : ∀ (s17 : Int) (g1 : List (List Int)), inv s17 g1 → kiw r0 (fun s17q g1q => inv s17q g1q ∧ μ s17q g1q < μ s17 g1) s16 h0_0 h0_1 s17 g1) : Md.Loop (s16, s17, h0_0, h0_1, g1, ()) (k76 (r0, ())) :=
  ⟨⟨fun s : Int × Int × Int × Int × (List (List Int)) × Unit => (s.1 = s16 ∧ s.2.2.1 = h0_0 ∧ s.2.2.2.1 = h0_1) ∧ inv s.2.1 s.2.2.2.2.1, fun s : Int × Int × Int × Int × (List (List Int)) × Unit => μ s.2.1 s.2.2.2.2.1, ⟨⟨rfl, rfl, rfl⟩, h0⟩, fun (s16p, s17p, h0_0p, h0_1p, g1p, ()) ⟨⟨eq0, eq1, eq2⟩, hi⟩ => by
    have eq0 : s16p = s16 := eq0; subst s16p; have eq1 : h0_0p = h0_0 := eq1; subst h0_0p; have eq2 : h0_1p = h0_1 := eq2; subst h0_1p; exact mpr_of (by kernel_rfl) ((congrArg (fun k => kiw r0 k s16 h0_0 h0_1 s17p g1p) (lpk2 (⟨rfl, rfl, rfl⟩ : s16 = s16 ∧ h0_0 = h0_0 ∧ h0_1 = h0_1) inv (fun s17q g1q => μ s17q g1q < μ s17p g1p))).mpr (hs s17p g1p hi))⟩⟩
theorem bd14 : Callable Try.prog 14 := ⟨by rw [Try.func14]; kernel_rfl, by rw [Try.func14]; show some _ ≠ some _; decide⟩
theorem kqx (p0 : TTranscript) (p1 : Int) (h : U64 p0.Count) : kat (p0.State, p0.Count, p1, ()) (((if p1 < 1 ∨ 4096 < p1 then [] else (List.range p1.toNat).map (fun (j : Nat) => [p0.State, (p0.Count + (j : Int)) % 18446744073709551616])) : List (List Int)), ()) := by
  refine ksq ⟨fun e => ?_, fun e => ⟨fun e2 => ?_, fun e2 => ?_⟩⟩
  · rw [if_pos (.inl (of_decide_eq_true e))]
  · rw [if_pos (.inr (of_decide_eq_true e2))]
  · have e := of_decide_eq_false e
    have e2 := of_decide_eq_false e2
    rw [if_neg (by omega)]
    refine ⟨by omega, by omega, by omega, by unfold maxLen; omega, by simp, ?_⟩
    refine krb (SetI (fun (j : Nat) => [p0.State, (p0.Count + (j : Int)) % 18446744073709551616]) p1.toNat) (fun i _ => (p1.toNat - i).toNat) (SetI.start (by simp)) ?_
    intro i g hi
    have hlen := hi.2.2.1
    refine ⟨fun hh => ?_, fun hh => ?_⟩
    · have hh := of_decide_eq_true hh
      try dsimp only
      have h0 := hi.1
      rw [wu i h0 (by omega), u64w]
      exact ⟨⟨h0, by omega⟩, ⟨h0, by omega⟩, by rw [List.length_set], hi.next hh (by omega) (by rw [show ((i.toNat : Nat) : Int) = i by omega])⟩
    · have hh := of_decide_eq_false hh
      exact ⟨rfl, hi.done hh⟩
noncomputable def kgv : Con TB.den := k1k.fnR (fun x => (fun (p0 : TTranscript) (p1 : Int) => U64 p0.Count) (TTranscript.mk x.1 x.2.1) x.2.2.1) fun x => ((fun (p0 : TTranscript) (p1 : Int) => ((if p1 < 1 ∨ 4096 < p1 then [] else (List.range p1.toNat).map (fun (j : Nat) => [p0.State, (p0.Count + (j : Int)) % 18446744073709551616])) : List (List Int))) (TTranscript.mk x.1 x.2.1) x.2.2.1, ())
theorem kt7 : kgv.Ok Try.prog TB := Con.ok_fn k1k bd14 fun x h => ksi (kqx (TTranscript.mk x.1 x.2.1) x.2.2.1 h)
end Go.Proofs.Ytponaobpcdkggaa
namespace Go.Proofs.Ytponaobpcdkggaa
open Go Go.Bv Go.Cv Go.Md Go.RowKit
def k12 : Con TB.den := Con.mk0 4 [.agg [.d (.int .u64), .d (.int .u64)], .one (.d (.int .i64))] [] (.one (.one (.d (.bool)))) []
abbrev kgh := HL TB.den (hsT k12.ins (hsOs k12.pre))
abbrev k15 := HL TB.den (hsV k12.res (hsOs k12.post))
noncomputable def k1b : Cx TB := ⟨inf, [kwn, kgv, kyl], [], 4, []⟩
noncomputable def k2g : Code := Try.f4.body.getD .skip
noncomputable def k2s : List ResultVar := Try.f4.results.toList
noncomputable def kq3 (o : k15) : Exit → TSt TB.den → Prop := thenT TB (fun s => ghs TB [] s fun s => WP TB k1b 59 0 (cB (cB (cB (cB (cB (cB k2g)))))) .no s (retTQ TB k1b k12 k2s o)) (retTQ TB k1b k12 k2s o)
def k4d : Tm := ⟨[0], [.cells [.d (.int .u64), .d (.int .u64)]], [2, 40, 41, 42], [.one (.ptr 0 0), .one (.d (.sl (.sl (.int .u64)))), .one (.d (.int .i64)), .one (.d (.int .i64))], 1⟩
noncomputable def kq6 (o : k15) (nx1 : HL TB.den k4d.hs → Prop) : Exit → TSt TB.den → Prop := thenT TB (fun s => k4d.mat TB 0 s nx1) (blockT TB 0 (kq3 o))
noncomputable def k67 (o : k15) (nx1 : HL TB.den k4d.hs → Prop) (i : HL TB.den k4d.hs) : Prop := WP TB k1b 59 0 (cA (cA (cB (cA (cB (cB (cB (cB (cB k2g))))))))) .no (k4d.fill TB i) (kq6 o nx1)
noncomputable def kq4 (o : k15) : An TB := .lp [] k4d (k67 o) fun nx1 => .no
noncomputable def kg6 (o : k15) : An TB := .nd [] .no [] (.nd [] (.nd [] .no [] (kq4 o)) [] .no)
noncomputable def kqa (o : k15) : Exit → TSt TB.den → Prop := thenT TB (fun s => ghs TB [] s fun s => WP TB k1b 59 0 (cB (cB (cB (cB k2g)))) (kg6 o) s (retTQ TB k1b k12 k2s o)) (retTQ TB k1b k12 k2s o)
def k7c : Tm := ⟨[0], [.cells [.d (.int .u64), .d (.int .u64)]], [1, 2, 5, 32], [.one (.d (.int .i64)), .one (.ptr 0 0), .one (.d (.sl (.sl (.int .u64)))), .one (.d (.bool))], 1⟩
noncomputable def kf0 (o : k15) (i : HL TB.den k7c.hs) : Prop := ghs TB [] (k7c.fill TB i) fun s => WP TB k1b 59 0 (cB (cA (cB (cB (cB k2g))))) .no s (kqa o)
structure k53 (o : k15) (i : HL TB.den k7c.hs) : Prop where
  h : kf0 o i
noncomputable def kpg (o : k15) : An TB := .jn k7c (k53 o) [] .no [] .no
noncomputable def kf4 (o : k15) : An TB := .nd [] (kpg o) [] (kg6 o)
noncomputable def kpe (o : k15) : Exit → TSt TB.den → Prop := thenT TB (fun s => ghs TB [] s fun s => WP TB k1b 59 0 (cB (cB k2g)) (.nd [] .no [] (kf4 o)) s (retTQ TB k1b k12 k2s o)) (retTQ TB k1b k12 k2s o)
def k7d : Tm := ⟨[0], [.cells [.d (.int .u64), .d (.int .u64)]], [1, 2, 22], [.one (.d (.int .i64)), .one (.ptr 0 0), .one (.d (.bool))], 1⟩
noncomputable def kez (o : k15) (i : HL TB.den k7d.hs) : Prop := ghs TB [] (k7d.fill TB i) fun s => WP TB k1b 59 0 (cB (cA (cB k2g))) .no s (kpe o)
structure k3k (o : k15) (i : HL TB.den k7d.hs) : Prop where
  h : kez o i
noncomputable def kp8 (o : k15) : An TB := .jn k7d (k3k o) [] .no [] .no
noncomputable def kpk (o : k15) : An TB := .nd [] (kp8 o) [] (.nd [] .no [] (kf4 o))
noncomputable def kg7 (o : k15) : An TB := .nd [] .no [] (kpk o)
noncomputable def k8y (x : kgh) (o : k15) : Prop := WPh TB k1b 59 0 k2g (kg7 o) (k12.st TB x) (retTQ TB k1b k12 k2s o)
set_option maxRecDepth 100000 in
theorem kp2 (o : k15) : OblH TB k1b 59 0 k2g (kg7 o) (retTQ TB k1b k12 k2s o) :=
  OblH.of_eq (X := (True ∧ ((True ∧ (∀ i, (k3k o) i = (kez o) i) ∧ ((True ∧ True) ∧ True)) ∧ (True ∧ ((True ∧ (∀ i, (k53 o) i = (kf0 o) i) ∧ ((True ∧ True) ∧ True)) ∧ ((True ∧ ((True ∧ True) ∧ True)) ∧ ((True ∧ ((∀ nx i, (k67 o) nx i = (k67 o) nx i) ∧ ∀ nx1 : HL TB.den k4d.hs → Prop, (True ∧ ((True ∧ True) ∧ ((True ∧ (True ∧ ((True ∧ True) ∧ True))) ∧ True))))) ∧ (True ∧ True)))))))) (by kernel_rfl) ⟨trivial, ⟨⟨trivial, fun _ => propext ⟨fun h => h.1, fun h => ⟨h⟩⟩, ⟨⟨trivial, trivial⟩, trivial⟩⟩, ⟨trivial, ⟨⟨trivial, fun _ => propext ⟨fun h => h.1, fun h => ⟨h⟩⟩, ⟨⟨trivial, trivial⟩, trivial⟩⟩, ⟨⟨trivial, ⟨⟨trivial, trivial⟩, trivial⟩⟩, ⟨⟨trivial, ⟨fun _ _ => rfl, fun _ => ⟨trivial, ⟨⟨trivial, trivial⟩, ⟨⟨trivial, ⟨trivial, ⟨⟨trivial, trivial⟩, trivial⟩⟩⟩, trivial⟩⟩⟩⟩⟩, ⟨trivial, trivial⟩⟩⟩⟩⟩⟩⟩
set_option maxRecDepth 100000 in
theorem kpa {x : kgh} {o : k15} (h : k8y x o) : SoundH Try.prog k12.f ((k12.args idf x).map (er TB)) ((k12.obs idf x).map (erO TB)) (er TB (k12.val idf o)) ((k12.ops idf o).map (erO TB)) :=
  Con.soundH (c := k12) (C := k1b) TBok ⟨inf_ok, (all_cons k18l (all_cons kt7 (all_cons k1aa all_nil))), all_nil⟩ mix Try.func4 (show Try.f4.body = some k2g by kernel_rfl) (show Try.f4.ntmps = 59 by kernel_rfl) (show Try.f4.results.toList = k2s by kernel_rfl) rfl h (kp2 o)
set_option maxRecDepth 100000 in
theorem kq5 {p0 : TTranscript} {p1 : Int} {r0 : Bool} (h :
(((!true) = true →
 k3k (r0, ()) (p1, true, p0.State, p0.Count, ())) ∧
((!true) = false →
(decide (4611686018427387904 ≤ p0.Count) = true →
 k3k (r0, ()) (p1, true, p0.State, p0.Count, ())) ∧
(decide (4611686018427387904 ≤ p0.Count) = false →
(decide (100 < p1) = true →
 k3k (r0, ()) (p1, (decide (p1 ≤ 4096) : Bool), p0.State, p0.Count, ())) ∧
(decide (100 < p1) = false →
 k3k (r0, ()) (p1, false, p0.State, p0.Count, ())))))) : k8y (p0.State, p0.Count, p1, ()) (r0, ()) := WPh.of_eq (by kernel_rfl) h
set_option maxRecDepth 100000 in
theorem kn6 {r0 : Bool} {s1 : Int} {s22 : Bool} {h0_0 : Int} {h0_1 : Int} (h :
((s22 = true →
 true = r0) ∧
(s22 = false →
(U64 (TTranscript.mk h0_0 h0_1).Count) ∧ let r1 : List (List Int) := (if s1 < 1 ∨ 4096 < s1 then [] else (List.range s1.toNat).map (fun (j : Nat) => [(TTranscript.mk h0_0 h0_1).State, ((TTranscript.mk h0_0 h0_1).Count + (j : Int)) % 18446744073709551616]))
(decide (s1 < 1) = true →
 k53 (r0, ()) (s1, r1, true, h0_0, h0_1, ())) ∧
(decide (s1 < 1) = false →
 k53 (r0, ()) (s1, r1, (decide (4096 < s1) : Bool), h0_0, h0_1, ()))))) : k3k (r0, ()) (s1, s22, h0_0, h0_1, ()) := ⟨mpr_of (by kernel_rfl) h⟩
set_option maxRecDepth 100000 in
theorem kn4 {r0 : Bool} {s1 : Int} {s5 : List (List Int)} {s32 : Bool} {h0_0 : Int} {h0_1 : Int} (h :
((s32 = true →
((s5.length : Int) == 0) = r0) ∧
(s32 = false →
(((s5.length : Int) != s1) = true →
 false = r0) ∧
(((s5.length : Int) != s1) = false →
 Md.Loop (s5, ((s5.length : Int) : Int), (0 : Int), h0_0, h0_1, ()) (k67 (r0, ())))))) : k53 (r0, ()) (s1, s5, s32, h0_0, h0_1, ()) := ⟨mpr_of (by kernel_rfl) h⟩
def kg4 (r0 : Bool) (k1 : Int → Prop) (s40 : List (List Int)) (s41 : Int) (h0_0 : Int) (h0_1 : Int) (s42 : Int) : Prop :=
(decide (s42 < s41) = true →
(0 ≤ s42) ∧ s42 < (s40.length : Int) ∧ let v2 : Int := IntKind.u64.wrap (h0_1 + (IntKind.u64.wrap s42))
((ix s40 s42).length ≤ 9223372036854775807) ∧ ((!(decide ((ix s40 s42) = [h0_0, v2]))) = true →
 false = r0) ∧
((!(decide ((ix s40 s42) = [h0_0, v2]))) = false →
 k1 (IntKind.i64.wrap (s42 + 1) : Int))) ∧
(decide (s42 < s41) = false →
 true = r0)
set_option maxRecDepth 100000 in
theorem kpl {r0 : Bool} {s40 : List (List Int)} {s41 : Int} {h0_0 : Int} {h0_1 : Int} {s42 : Int} (inv : Int → Prop) (μ : Int → Nat) (h0 : inv s42) (hs : ∀ (s42 : Int), inv s42 → kg4 r0 (fun s42q => inv s42q ∧ μ s42q < μ s42) s40 s41 h0_0 h0_1 s42) : Md.Loop (s40, s41, s42, h0_0, h0_1, ()) (k67 (r0, ())) :=
  ⟨⟨fun s : (List (List Int)) × Int × Int × Int × Int × Unit => (s.1 = s40 ∧ s.2.1 = s41 ∧ s.2.2.2.1 = h0_0 ∧ s.2.2.2.2.1 = h0_1) ∧ inv s.2.2.1, fun s : (List (List Int)) × Int × Int × Int × Int × Unit => μ s.2.2.1, ⟨⟨rfl, rfl, rfl, rfl⟩, h0⟩, fun (s40p, s41p, s42p, h0_0p, h0_1p, ()) ⟨⟨eq0, eq1, eq2, eq3⟩, hi⟩ => by
    have eq0 : s40p = s40 := eq0; subst s40p; have eq1 : s41p = s41 := eq1; subst s41p; have eq2 : h0_0p = h0_0 := eq2; subst h0_0p; have eq3 : h0_1p = h0_1 := eq3; subst h0_1p; exact mpr_of (by kernel_rfl) ((congrArg (fun k => kg4 r0 k s40 s41 h0_0 h0_1 s42p) (lpk1 (⟨rfl, rfl, rfl, rfl⟩ : s40 = s40 ∧ s41 = s41 ∧ h0_0 = h0_0 ∧ h0_1 = h0_1) inv (fun s42q => μ s42q < μ s42p))).mpr (hs s42p hi))⟩⟩
theorem ko2 (p0 : TTranscript) (p1 : Int) (h : U64 p0.State ∧ U64 p0.Count) : k8y (p0.State, p0.Count, p1, ()) ((true : Bool), ()) := by
  obtain ⟨h1, h2⟩ := h
  have j1 : ∀ s, (s = false → p0.Count < 4611686018427387904 ∧ (p1 ≤ 100 ∨ 4096 < p1)) → k3k (true, ()) (p1, s, p0.State, p0.Count, ()) := by
    intro s hs
    refine kn6 ⟨fun _ => (by first | exact rfl | exact True.intro), fun e => ?_⟩
    obtain ⟨q1, q2⟩ := hs e
    refine ⟨h2, ?_⟩
    dsimp only
    have j2 : ∀ s (l : List (List Int)), l = (if p1 < 1 ∨ 4096 < p1 then [] else (List.range p1.toNat).map (fun (j : Nat) => [p0.State, (p0.Count + (j : Int)) % 18446744073709551616])) → (s = true → p1 < 1 ∨ 4096 < p1) → (s = false → 1 ≤ p1 ∧ p1 ≤ 100) → k53 (true, ()) (p1, l, s, p0.State, p0.Count, ()) := by
      intro s l he s1 s2
      refine kn4 ⟨fun e2 => ?_, fun e2 => ?_⟩
      · rw [if_pos (s1 e2)] at he; subst he; rfl
      · obtain ⟨q3, q4⟩ := s2 e2
        rw [if_neg (by omega)] at he
        have hl : (l.length : Int) = p1 := by rw [he]; simp; omega
        rw [hl]
        refine ⟨fun e3 => by simp at e3, fun _ => ?_⟩
        refine kpl (fun i => 0 ≤ i ∧ i ≤ p1) (fun i => (p1 - i).toNat) ⟨by omega, by omega⟩ ?_
        rintro i ⟨g0, g1⟩
        refine ⟨fun hh => ?_, fun _ => rfl⟩
        have hh := of_decide_eq_true hh
        have hx : ix l i = [p0.State, (p0.Count + i) % 18446744073709551616] := by
          rw [ix_nat _ _ g0 (by omega)]
          simp only [he]
          simp only [List.getElem_map, List.getElem_range]
          rw [show ((i.toNat : Nat) : Int) = i by omega]
        refine ⟨g0, by omega, ?_⟩
        dsimp only
        rw [hx, wu i g0 (by omega), u64w, wi (i + 1) (by omega) (by omega)]
        exact ⟨by simp, fun h => by simp at h, fun _ => ⟨⟨by omega, by omega⟩, by omega⟩⟩
    exact ⟨fun e2 => j2 _ _ rfl (fun _ => .inl (of_decide_eq_true e2)) (fun h => by cases h), fun e2 => j2 _ _ rfl (fun h => .inr (of_decide_eq_true h)) (fun h => by have := of_decide_eq_false e2; have := of_decide_eq_false h; omega)⟩
  refine kq5 ⟨fun h => by simp at h, fun _ => ⟨fun _ => j1 _ (fun h => by cases h), fun e => ⟨fun e2 => j1 _ fun h => ?_, fun e2 => j1 _ fun _ => ?_⟩⟩⟩
  · have e := of_decide_eq_false e
    have h := of_decide_eq_false h
    exact ⟨by omega, .inr (by omega)⟩
  · have e := of_decide_eq_false e
    have e2 := of_decide_eq_false e2
    exact ⟨by omega, .inl (by omega)⟩
end Go.Proofs.Ytponaobpcdkggaa
