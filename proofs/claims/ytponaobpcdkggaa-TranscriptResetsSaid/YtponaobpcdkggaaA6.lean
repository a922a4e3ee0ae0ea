/-
  Parts of the proofs that the laws of this seat hold of every input, merged by a program: a machine over pure data that is sound for the model, what each function of the translation does in it, and plain lemmas. No conditions but those in each theorem.
-/
import Derived.Test.YtponaobpcdkggaaA5
set_option linter.all false
namespace Go.Proofs.Ytponaobpcdkggaa
open Go Go.Bv Go.Cv Go.Md Go.RowKit
def k19 : Con TB.den := Con.mk0 46 [.one (.row 0), .one (.d (.int .i64)), .one (.d (.int .i64)), .one (.d (.int .i64))] [.vec (.int .i64)] (.tup []) [.vec (.int .i64)]
abbrev kh2 := HL TB.den (hsT k19.ins (hsOs k19.pre))
abbrev ki := HL TB.den (hsV k19.res (hsOs k19.post))
noncomputable def k1p : Cx TB := ⟨inf, [kb7, ke1, kb2, kci, kc6, k92, k7h, kas, kdk], [], 4, []⟩
noncomputable def k25 : Code := Try.f46.body.getD .skip
noncomputable def k7t : List ResultVar := Try.f46.results.toList
noncomputable def kr7 (o : ki) : Exit → TSt TB.den → Prop := blockT TB 0 (retTQ TB k1p k19 k7t o)
def kg : Tm := ⟨[0], [.vec (.int .i64)], [0, 1, 2, 3, 8, 9], [.one (.row 0), .one (.d (.int .i64)), .one (.d (.int .i64)), .one (.d (.int .i64)), .one (.d (.bool)), .one (.d (.bool))], 1⟩
noncomputable def k40 (o : ki) (nx1 : HL TB.den kg.hs → Prop) : Exit → TSt TB.den → Prop := thenT TB (fun s => kg.mat TB 1 s nx1) (kr7 o)
noncomputable def krj (o : ki) (nx1 : HL TB.den kg.hs → Prop) : Exit → TSt TB.den → Prop := thenT TB (fun s => ghs TB [] s fun s => WP TB k1p 134 1 (cB (cB (cB (cB (cB (cB (cB (cB (cA (cA (cA (cB (cB k25))))))))))))) .no s (blockT TB 1 (k40 o nx1))) (blockT TB 1 (k40 o nx1))
def k7b : Tm := ⟨[0], [.vec (.int .i64)], [0, 1, 2, 3, 8, 9, 10, 11, 87], [.one (.row 0), .one (.d (.int .i64)), .one (.d (.int .i64)), .one (.d (.int .i64)), .one (.d (.bool)), .one (.d (.bool)), .one (.d (.int .i64)), .one (.d (.int .i64)), .one (.d (.bool))], 61⟩
noncomputable def keu (o : ki) (nx1 : HL TB.den kg.hs → Prop) (i : HL TB.den k7b.hs) : Prop := ghs TB [] (k7b.fill TB i) fun s => WP TB k1p 134 1 (cB (cA (cB (cB (cB (cB (cB (cB (cB (cA (cA (cA (cB (cB k25)))))))))))))) .no s (krj o nx1)
structure kfi (o : ki) (nx1 : HL TB.den kg.hs → Prop) (i : HL TB.den k7b.hs) : Prop where
  h : keu o nx1 i
noncomputable def kfs (o : ki) (nx1 : HL TB.den kg.hs → Prop) : An TB := .jn k7b (kfi o nx1) [] .no [] .no
def k64 : Tm := ⟨[0], [.vec (.int .i64)], [0, 1, 2, 3, 8, 9, 10, 11], [.one (.row 0), .one (.d (.int .i64)), .one (.d (.int .i64)), .one (.d (.int .i64)), .one (.d (.bool)), .one (.d (.bool)), .one (.d (.int .i64)), .one (.d (.int .i64))], 1⟩
noncomputable def kep (o : ki) (nx1 : HL TB.den kg.hs → Prop) (i : HL TB.den k64.hs) : Prop := ghs TB [] (k64.fill TB i) fun s => WP TB k1p 134 1 (cB (cB (cB (cB (cB (cB (cB (cA (cA (cA (cB (cB k25)))))))))))) (.nd [] (kfs o nx1) [] .no) s (blockT TB 1 (k40 o nx1))
structure kaa (o : ki) (nx1 : HL TB.den kg.hs → Prop) (i : HL TB.den k64.hs) : Prop where
  h : kep o nx1 i
noncomputable def kre (o : ki) (nx1 : HL TB.den kg.hs → Prop) : Exit → TSt TB.den → Prop := thenT TB (fun s => k64.mat TB 1 s (kaa o nx1)) (blockT TB 1 (k40 o nx1))
def k79 : Tm := ⟨[0], [.vec (.int .i64)], [0, 1, 2, 3, 8, 9, 10, 11, 68], [.one (.row 0), .one (.d (.int .i64)), .one (.d (.int .i64)), .one (.d (.int .i64)), .one (.d (.bool)), .one (.d (.bool)), .one (.d (.int .i64)), .one (.d (.int .i64)), .one (.d (.bool))], 1⟩
noncomputable def kf1 (o : ki) (nx1 : HL TB.den kg.hs → Prop) (i : HL TB.den k79.hs) : Prop := ghs TB [] (k79.fill TB i) fun s => WP TB k1p 134 1 (cB (cA (cB (cB (cB (cB (cB (cB (cA (cA (cA (cB (cB k25))))))))))))) .no s (kre o nx1)
structure kgb (o : ki) (nx1 : HL TB.den kg.hs → Prop) (i : HL TB.den k79.hs) : Prop where
  h : kf1 o nx1 i
noncomputable def kr2 (o : ki) (nx1 : HL TB.den kg.hs → Prop) : An TB := .jn k79 (kgb o nx1) [] .no [] .no
noncomputable def kgo (o : ki) (nx1 : HL TB.den kg.hs → Prop) : An TB := .jn k64 (kaa o nx1) [] (kr2 o nx1) [] (.nd [] (kfs o nx1) [] .no)
def k7c : Tm := ⟨[0], [.vec (.int .i64)], [0, 1, 2, 3, 8, 9, 10, 11, 12], [.one (.row 0), .one (.d (.int .i64)), .one (.d (.int .i64)), .one (.d (.int .i64)), .one (.d (.bool)), .one (.d (.bool)), .one (.d (.int .i64)), .one (.d (.int .i64)), .one (.d (.int .i64))], 1⟩
noncomputable def kf4 (o : ki) (nx1 : HL TB.den kg.hs → Prop) (i : HL TB.den k7c.hs) : Prop := ghs TB [] (k7c.fill TB i) fun s => WP TB k1p 134 1 (cB (cB (cB (cB (cB (cB (cA (cA (cA (cB (cB k25))))))))))) (kgo o nx1) s (blockT TB 1 (k40 o nx1))
structure kgj (o : ki) (nx1 : HL TB.den kg.hs → Prop) (i : HL TB.den k7c.hs) : Prop where
  h : kf4 o nx1 i
noncomputable def kes (o : ki) (nx1 : HL TB.den kg.hs → Prop) : An TB := .jn k7c (kgj o nx1) [] .no [] (kgo o nx1)
def k7d : Tm := ⟨[0], [.vec (.int .i64)], [0, 1, 2, 3, 8, 9, 10], [.one (.row 0), .one (.d (.int .i64)), .one (.d (.int .i64)), .one (.d (.int .i64)), .one (.d (.bool)), .one (.d (.bool)), .one (.d (.int .i64))], 1⟩
noncomputable def kf0 (o : ki) (nx1 : HL TB.den kg.hs → Prop) (i : HL TB.den k7d.hs) : Prop := ghs TB [] (k7d.fill TB i) fun s => WP TB k1p 134 1 (cB (cB (cB (cB (cA (cA (cA (cB (cB k25))))))))) (.nd [] .no [] (kes o nx1)) s (blockT TB 1 (k40 o nx1))
structure k7x (o : ki) (nx1 : HL TB.den kg.hs → Prop) (i : HL TB.den k7d.hs) : Prop where
  h : kf0 o nx1 i
noncomputable def kpx (o : ki) (nx1 : HL TB.den kg.hs → Prop) : An TB := .jn k7d (k7x o nx1) [] .no [] (.nd [] .no [] (kes o nx1))
noncomputable def keo (o : ki) (nx1 : HL TB.den kg.hs → Prop) : An TB := .nd [] .no [] (.nd [] .no [] (kpx o nx1))
noncomputable def k68 (o : ki) (nx1 : HL TB.den kg.hs → Prop) (i : HL TB.den kg.hs) : Prop := WP TB k1p 134 1 (cA (cA (cB (cB k25)))) (.nd [] .no [] (keo o nx1)) (kg.fill TB i) (k40 o nx1)
noncomputable def kq0 (o : ki) : An TB := .lp [] kg (k68 o) fun nx1 => (.nd [] .no [] (keo o nx1))
noncomputable def kfx (o : ki) : An TB := .nd [] .no [] (.nd [] .no [] (kq0 o))
noncomputable def k9c (x : kh2) (o : ki) : Prop := WPh TB k1p 134 1 k25 (kfx o) (k19.st TB x) (retTQ TB k1p k19 k7t o)
set_option maxRecDepth 100000 in
theorem kq9 (o : ki) : OblH TB k1p 134 1 k25 (kfx o) (retTQ TB k1p k19 k7t o) :=
  OblH.of_eq (X := (True ∧ (True ∧ ((∀ nx i, (k68 o) nx i = (k68 o) nx i) ∧ ∀ nx1 : HL TB.den kg.hs → Prop, (True ∧ ((True ∧ ((True ∧ True) ∧ True)) ∧ ((True ∧ ((True ∧ True) ∧ True)) ∧ ((True ∧ ((True ∧ True) ∧ True)) ∧ (∀ i, (k7x o nx1) i = (kf0 o nx1) i) ∧ (True ∧ ((True ∧ ((True ∧ (True ∧ True)) ∧ True)) ∧ (∀ i, (kgj o nx1) i = (kf4 o nx1) i) ∧ ((True ∧ (∀ i, (kgb o nx1) i = (kf1 o nx1) i) ∧ ((True ∧ (True ∧ True)) ∧ True)) ∧ (∀ i, (kaa o nx1) i = (kep o nx1) i) ∧ ((True ∧ (∀ i, (kfi o nx1) i = (keu o nx1) i) ∧ ((True ∧ (True ∧ True)) ∧ True)) ∧ (True ∧ (True ∧ (True ∧ (True ∧ (True ∧ ((True ∧ (True ∧ True)) ∧ (True ∧ (True ∧ True)))))))))))))))))))) (by kernel_rfl) ⟨trivial, ⟨trivial, ⟨fun _ _ => rfl, fun _ => ⟨trivial, ⟨⟨trivial, ⟨⟨trivial, trivial⟩, trivial⟩⟩, ⟨⟨trivial, ⟨⟨trivial, trivial⟩, trivial⟩⟩, ⟨⟨trivial, ⟨⟨trivial, trivial⟩, trivial⟩⟩, fun _ => propext ⟨fun h => h.1, fun h => ⟨h⟩⟩, ⟨trivial, ⟨⟨trivial, ⟨⟨trivial, ⟨trivial, trivial⟩⟩, trivial⟩⟩, fun _ => propext ⟨fun h => h.1, fun h => ⟨h⟩⟩, ⟨⟨trivial, fun _ => propext ⟨fun h => h.1, fun h => ⟨h⟩⟩, ⟨⟨trivial, ⟨trivial, trivial⟩⟩, trivial⟩⟩, fun _ => propext ⟨fun h => h.1, fun h => ⟨h⟩⟩, ⟨⟨trivial, fun _ => propext ⟨fun h => h.1, fun h => ⟨h⟩⟩, ⟨⟨trivial, ⟨trivial, trivial⟩⟩, trivial⟩⟩, ⟨trivial, ⟨trivial, ⟨trivial, ⟨trivial, ⟨trivial, ⟨⟨trivial, ⟨trivial, trivial⟩⟩, ⟨trivial, ⟨trivial, trivial⟩⟩⟩⟩⟩⟩⟩⟩⟩⟩⟩⟩⟩⟩⟩⟩⟩⟩⟩
set_option maxRecDepth 100000 in
theorem kqb {x : kh2} {o : ki} (h : k9c x o) : SoundH Try.prog k19.f ((k19.args idf x).map (er TB)) ((k19.obs idf x).map (erO TB)) (er TB (k19.val idf o)) ((k19.ops idf o).map (erO TB)) :=
  Con.soundH (c := k19) (C := k1p) TBok ⟨inf_ok, (all_cons klo (all_cons kpz (all_cons km3 (all_cons kne (all_cons kme (all_cons kgw (all_cons k9f (all_cons kkv (all_cons kp4 all_nil))))))))), all_nil⟩ mix Try.func46 (show Try.f46.body = some k25 by kernel_rfl) (show Try.f46.ntmps = 134 by kernel_rfl) (show Try.f46.results.toList = k7t by kernel_rfl) rfl h (kq9 o)
set_option maxRecDepth 100000 in
theorem krq {p1 : Int} {p2 : Int} {p3 : Int} {w0 : List Int} {e0 : List Int} (h :
((w0.length = w0.length) ∧ Md.Loop (p1, p2, p3, true, true, w0, ()) (k68 (e0, ())))) : k9c (p1, p2, p3, w0, ()) (e0, ()) := WPh.of_eq (by kernel_rfl) h
def kad (e0 : List Int) (nx1 : HL TB.den kg.hs → Prop) (k1 : Int → Int → List Int → Prop) (s2 : Int) (s8 : Bool) (s9 : Bool) (s1 : Int) (s3 : Int) (g0 : List Int) : Prop :=
 let v1 : Bool := decide ((IntKind.i64.wrap (s2 - s1)) ≤ 12)
(v1 = true →
(g0.length = g0.length) ∧ (s1 = 0 ∧ s2 = g0.length ∧ g0.length ≤ 1000000) ∧ (srt g0) = e0) ∧
(v1 = false →
((s3 == 0) = true →
(g0.length = g0.length) ∧ ∃ r5 : List Int, k96 (s1, s2, g0, ()) (r5, ()) ∧ r5 = e0) ∧
((s3 == 0) = false →
((!s8) = true →
(g0.length = g0.length) ∧ ∃ r7 : List Int, k7f (s1, s2, g0, ()) (r7, ()) ∧ (g0.length = r7.length) ∧ k7x (e0, ()) nx1 (s1, s2, (IntKind.i64.wrap (s3 - 1) : Int), s8, s9, (IntKind.i64.wrap (s2 - s1) : Int), r7, ())) ∧
((!s8) = false →
(g0.length = g0.length) ∧ k7x (e0, ()) nx1 (s1, s2, s3, s8, s9, (IntKind.i64.wrap (s2 - s1) : Int), g0, ()))))
set_option maxRecDepth 100000 in
theorem kq8 {e0 : List Int} {s2 : Int} {s8 : Bool} {s9 : Bool} {s1 : Int} {s3 : Int} {g0 : List Int} (inv : Int → Int → List Int → Prop) (μ : Int → Int → List Int → Nat) (h0 : inv s1 s3 g0) (hs : ∀ (s1 : Int) (s3 : Int) (g0 : List Int), inv s1 s3 g0 → kad e0 (fun s : Int × Int × Int × Bool × Bool × (List Int) × Unit => ((s.2.1 = s2 ∧ s.2.2.2.1 = s8 ∧ s.2.2.2.2.1 = s9) ∧ inv s.1 s.2.2.1 s.2.2.2.2.2.1) ∧ μ s.1 s.2.2.1 s.2.2.2.2.2.1 < μ s1 s3 g0) (fun s1q s3q g0q => inv s1q s3q g0q ∧ μ s1q s3q g0q < μ s1 s3 g0) s2 s8 s9 s1 s3 g0) : Md.Loop (s1, s2, s3, s8, s9, g0, ()) (k68 (e0, ())) :=
  ⟨⟨fun s : Int × Int × Int × Bool × Bool × (List Int) × Unit => (s.2.1 = s2 ∧ s.2.2.2.1 = s8 ∧ s.2.2.2.2.1 = s9) ∧ inv s.1 s.2.2.1 s.2.2.2.2.2.1, fun s : Int × Int × Int × Bool × Bool × (List Int) × Unit => μ s.1 s.2.2.1 s.2.2.2.2.2.1, ⟨⟨rfl, rfl, rfl⟩, h0⟩, fun (s1p, s2p, s3p, s8p, s9p, g0p, ()) ⟨⟨eq0, eq1, eq2⟩, hi⟩ => by
    have eq0 : s2p = s2 := eq0; subst s2p; have eq1 : s8p = s8 := eq1; subst s8p; have eq2 : s9p = s9 := eq2; subst s9p; exact mpr_of (by kernel_rfl) ((congrArg (fun k => kad e0 (fun s : Int × Int × Int × Bool × Bool × (List Int) × Unit => ((s.2.1 = s2 ∧ s.2.2.2.1 = s8 ∧ s.2.2.2.2.1 = s9) ∧ inv s.1 s.2.2.1 s.2.2.2.2.2.1) ∧ μ s.1 s.2.2.1 s.2.2.2.2.2.1 < μ s1p s3p g0p) k s2 s8 s9 s1p s3p g0p) (lpk3 (⟨rfl, rfl, rfl⟩ : s2 = s2 ∧ s8 = s8 ∧ s9 = s9) inv (fun s1q s3q g0q => μ s1q s3q g0q < μ s1p s3p g0p))).mpr (hs s1p s3p g0p hi))⟩⟩
theorem bd46 : Callable Try.prog 46 := ⟨by rw [Try.func46]; kernel_rfl, by rw [Try.func46]; show some _ ≠ some _; decide⟩
theorem kos (p1 : Int) (p2 : Int) (p3 : Int) (w0 : List Int) (h : p1 = 0 ∧ p2 = w0.length ∧ w0.length ≤ 12) : k9c (p1, p2, p3, w0, ()) (((srt w0) : List Int), ()) := by
  obtain ⟨rfl, rfl, h3⟩ := h
  refine krq ⟨rfl, kq8 (fun a _ g => a = 0 ∧ g = w0) (fun _ _ _ => 0) ⟨rfl, rfl⟩ ?_⟩
  rintro a b g ⟨rfl, rfl⟩
  have e : decide (IntKind.i64.wrap ((g.length : Int) - 0) ≤ 12) = true := by
    rw [wi _ (by omega) (by omega)]
    exact decide_eq_true (by omega)
  unfold kad
  dsimp only
  rw [e]
  exact ⟨fun _ => ⟨rfl, ⟨rfl, rfl, by omega⟩, rfl⟩, fun h => by cases h⟩
noncomputable def kev : Con TB.den := k19.fnR (fun x => (fun (p1 : Int) (p2 : Int) (p3 : Int) (w0 : List Int) => p1 = 0 ∧ p2 = w0.length ∧ w0.length ≤ 12) x.1 x.2.1 x.2.2.1 x.2.2.2.1) fun x => ((fun (p1 : Int) (p2 : Int) (p3 : Int) (w0 : List Int) => ((srt w0) : List Int)) x.1 x.2.1 x.2.2.1 x.2.2.2.1, ())
theorem krn : kev.Ok Try.prog TB := Con.ok_fn k19 bd46 fun x h => kqb (kos x.1 x.2.1 x.2.2.1 x.2.2.2.1 h)
end Go.Proofs.Ytponaobpcdkggaa
namespace Go.Proofs.Ytponaobpcdkggaa
open Go Go.Bv Go.Cv Go.Md Go.RowKit
def k2h : Con TB.den := Con.mk0 37 [.one (.row 0)] [.vec (.int .i64)] (.tup []) [.vec (.int .i64)]
abbrev ktg := HL TB.den (hsT k2h.ins (hsOs k2h.pre))
abbrev kf7 := HL TB.den (hsV k2h.res (hsOs k2h.post))
noncomputable def kal : Cx TB := ⟨inf, [kvh, kev], [], 4, []⟩
noncomputable def khi : Code := Try.f37.body.getD .skip
noncomputable def kiv : List ResultVar := Try.f37.results.toList
noncomputable def ks9 (o : kf7) : An TB := .no
noncomputable def khn (x : ktg) (o : kf7) : Prop := WPh TB kal 11 1 khi (ks9 o) (k2h.st TB x) (retTQ TB kal k2h kiv o)
set_option maxRecDepth 100000 in
theorem k121 (o : kf7) : OblH TB kal 11 1 khi (ks9 o) (retTQ TB kal k2h kiv o) :=
  OblH.of_eq (X := (True ∧ True)) (by kernel_rfl) ⟨trivial, trivial⟩
set_option maxRecDepth 100000 in
theorem k123 {x : ktg} {o : kf7} (h : khn x o) : SoundH Try.prog k2h.f ((k2h.args idf x).map (er TB)) ((k2h.obs idf x).map (erO TB)) (er TB (k2h.val idf o)) ((k2h.ops idf o).map (erO TB)) :=
  Con.soundH (c := k2h) (C := kal) TBok ⟨inf_ok, (all_cons k155 (all_cons krn all_nil)), all_nil⟩ mix Try.func37 (show Try.f37.body = some khi by kernel_rfl) (show Try.f37.ntmps = 11 by kernel_rfl) (show Try.f37.results.toList = kiv by kernel_rfl) rfl h (k121 o)
set_option maxRecDepth 100000 in
theorem k130 {w0 : List Int} {e0 : List Int} (h :
((U64 (IntKind.u64.wrap (w0.length : Int))) ∧ let r1 : Int := (len64 (IntKind.u64.wrap (w0.length : Int)))
(w0.length = w0.length) ∧ ((0 : Int) = 0 ∧ (w0.length : Int) = w0.length ∧ w0.length ≤ 12) ∧ (srt w0) = e0)) : khn (w0, ()) (e0, ()) := WPh.of_eq (by kernel_rfl) h
theorem bd37 : Callable Try.prog 37 := ⟨by rw [Try.func37]; kernel_rfl, by rw [Try.func37]; show some _ ≠ some _; decide⟩
theorem k10j (w0 : List Int) (h : w0.length ≤ 12) : khn (w0, ()) (((srt w0) : List Int), ()) := by
  refine k130 ⟨by rw [wu _ (by omega) (by omega)]; omega, ?_⟩
  exact ⟨rfl, ⟨rfl, rfl, h⟩, rfl⟩
noncomputable def kqd : Con TB.den := k2h.fnR (fun x => (fun (w0 : List Int) => w0.length ≤ 12) x.1) fun x => ((fun (w0 : List Int) => ((srt w0) : List Int)) x.1, ())
theorem k12s : kqd.Ok Try.prog TB := Con.ok_fn k2h bd37 fun x h => k123 (k10j x.1 h)
end Go.Proofs.Ytponaobpcdkggaa
namespace Go.Proofs.Ytponaobpcdkggaa
open Go Go.Bv Go.Cv Go.Md Go.RowKit
def ky : Con TB.den := Con.mk0 26 [.one (.ptr 0 0), .agg [.d (.int .u64), .d (.int .u64)], .one (.d (.int .i64)), .one (.d (.int .i64))] [.cells [.d (.bool), .d (.int .u64), .d (.int .i64), .own 1, .mp 2, .mp 3, .mp 4], .tip (.st 1), .map (.str) (.int .i64), .map (.str) (.sl (.int .u64)), .map (.str) (.bool)] (.tup [.one (.d (.sl (.int .i64))), .agg [.d (.int .u64), .d (.int .u64)]]) [.cells [.d (.bool), .d (.int .u64), .d (.int .i64), .own 1, .mp 2, .mp 3, .mp 4], .tip (.st 1), .map (.str) (.int .i64), .map (.str) (.sl (.int .u64)), .map (.str) (.bool)]
abbrev kji := HL TB.den (hsT ky.ins (hsOs ky.pre))
abbrev k13 := HL TB.den (hsV ky.res (hsOs ky.post))
noncomputable def k1c : Cx TB := ⟨inf, [k6x, kox, kqd], [], 4, []⟩
noncomputable def k2v : Code := Try.f26.body.getD .skip
noncomputable def k3d : List ResultVar := Try.f26.results.toList
noncomputable def kis (o : k13) : An TB := .nd [] .no [] (.nd [] .no [] (.nd [] .no [] (.rt [.frz 8 [8]])))
noncomputable def ku0 (o : k13) : Exit → TSt TB.den → Prop := thenT TB (fun s => ghs TB [] s fun s => WP TB k1c 82 5 (cB (cB (cB (cB (cB k2v))))) (kis o) s (retTQ TB k1c ky k3d o)) (retTQ TB k1c ky k3d o)
def k4y : Tm := ⟨[0, 1, 2, 3, 4, 5, 6, 7], [.cells [.d (.bool), .d (.int .u64), .d (.int .i64), .own 1, .mp 2, .mp 3, .mp 4], .tip (.st 1), .map (.str) (.int .i64), .map (.str) (.sl (.int .u64)), .map (.str) (.bool), .cells [.d (.int .u64), .d (.int .u64)], .cells [.d (.int .u64), .d (.int .u64)], .vec (.int .i64)], [0, 2, 3, 5, 9, 10, 40, 41], [.one (.ptr 0 0), .one (.d (.int .i64)), .one (.d (.int .i64)), .one (.ptr 5 0), .one (.ptr 6 0), .one (.row 7), .one (.d (.int .i64)), .one (.d (.int .i64))], 8⟩
noncomputable def ku7 (o : k13) (nx2 : HL TB.den k4y.hs → Prop) : Exit → TSt TB.den → Prop := thenT TB (fun s => k4y.mat TB 5 s nx2) (blockT TB 2 (ku0 o))
noncomputable def k72 (o : k13) (nx2 : HL TB.den k4y.hs → Prop) (i : HL TB.den k4y.hs) : Prop := WP TB k1c 82 5 (cA (cA (cB (cA (cB (cB (cB (cB k2v)))))))) .no (k4y.fill TB i) (ku7 o nx2)
noncomputable def ktq (o : k13) : An TB := .lp [] k4y (k72 o) fun nx2 => .no
noncomputable def kit (o : k13) : An TB := .nd [] (.nd [] .no [] (ktq o)) [] (kis o)
noncomputable def ku2 (o : k13) : Exit → TSt TB.den → Prop := thenT TB (fun s => ghs TB [] s fun s => WP TB k1c 82 5 (cB (cB (cB (cB k2v)))) (kit o) s (retTQ TB k1c ky k3d o)) (retTQ TB k1c ky k3d o)
def k50 : Tm := ⟨[0, 1, 2, 3, 4, 5, 6, 7], [.cells [.d (.bool), .d (.int .u64), .d (.int .i64), .own 1, .mp 2, .mp 3, .mp 4], .tip (.st 1), .map (.str) (.int .i64), .map (.str) (.sl (.int .u64)), .map (.str) (.bool), .cells [.d (.int .u64), .d (.int .u64)], .cells [.d (.int .u64), .d (.int .u64)], .vec (.int .i64)], [0, 2, 3, 5, 9, 10, 31, 32], [.one (.ptr 0 0), .one (.d (.int .i64)), .one (.d (.int .i64)), .one (.ptr 5 0), .one (.ptr 6 0), .one (.row 7), .one (.d (.int .i64)), .one (.d (.int .i64))], 8⟩
noncomputable def ku9 (o : k13) (nx1 : HL TB.den k50.hs → Prop) : Exit → TSt TB.den → Prop := thenT TB (fun s => k50.mat TB 5 s nx1) (blockT TB 0 (ku2 o))
noncomputable def k74 (o : k13) (nx1 : HL TB.den k50.hs → Prop) (i : HL TB.den k50.hs) : Prop := WP TB k1c 82 5 (cA (cA (cB (cA (cB (cB (cB k2v))))))) .no (k50.fill TB i) (ku9 o nx1)
noncomputable def ksv (o : k13) : An TB := .lp [] k50 (k74 o) fun nx1 => .no
noncomputable def ki8 (o : k13) : An TB := .nd [] (.nd [] .no [] (ksv o)) [] (kit o)
noncomputable def kta (o : k13) : Exit → TSt TB.den → Prop := thenT TB (fun s => ghs TB [] s fun s => WP TB k1c 82 5 (cB (cB k2v)) (.nd [] .no [] (ki8 o)) s (retTQ TB k1c ky k3d o)) (retTQ TB k1c ky k3d o)
def k8n : Tm := ⟨[0, 1, 2, 3, 4, 5, 6], [.cells [.d (.bool), .d (.int .u64), .d (.int .i64), .own 1, .mp 2, .mp 3, .mp 4], .tip (.st 1), .map (.str) (.int .i64), .map (.str) (.sl (.int .u64)), .map (.str) (.bool), .cells [.d (.int .u64), .d (.int .u64)], .cells [.d (.int .u64), .d (.int .u64)]], [0, 2, 3, 5, 9, 26], [.one (.ptr 0 0), .one (.d (.int .i64)), .one (.d (.int .i64)), .one (.ptr 5 0), .one (.ptr 6 0), .one (.d (.bool))], 7⟩
noncomputable def ki9 (o : k13) (i : HL TB.den k8n.hs) : Prop := ghs TB [] (k8n.fill TB i) fun s => WP TB k1c 82 5 (cB (cA (cB k2v))) .no s (kta o)
structure k4z (o : k13) (i : HL TB.den k8n.hs) : Prop where
  h : ki9 o i
noncomputable def kt5 (o : k13) : An TB := .jn k8n (k4z o) [] .no [] .no
noncomputable def kt8 (o : k13) : An TB := .nd [] (kt5 o) [] (.nd [] .no [] (ki8 o))
noncomputable def kij (o : k13) : An TB := .nd [] .no [] (kt8 o)
noncomputable def kb0 (x : kji) (o : k13) : Prop := WPh TB k1c 82 5 k2v (kij o) (ky.st TB x) (retTQ TB k1c ky k3d o)
set_option maxRecDepth 100000 in
theorem ksy (o : k13) : OblH TB k1c 82 5 k2v (kij o) (retTQ TB k1c ky k3d o) :=
  OblH.of_eq (X := (True ∧ ((True ∧ (∀ i, (k4z o) i = (ki9 o) i) ∧ ((True ∧ True) ∧ True)) ∧ (True ∧ ((True ∧ ((∀ nx i, (k74 o) nx i = (k74 o) nx i) ∧ ∀ nx1 : HL TB.den k50.hs → Prop, (True ∧ ((True ∧ True) ∧ ((True ∧ True) ∧ True))))) ∧ ((True ∧ ((∀ nx i, (k72 o) nx i = (k72 o) nx i) ∧ ∀ nx2 : HL TB.den k4y.hs → Prop, (True ∧ ((True ∧ True) ∧ ((True ∧ (True ∧ (True ∧ (True ∧ True)))) ∧ True))))) ∧ (True ∧ (True ∧ (True ∧ True))))))))) (by kernel_rfl) ⟨trivial, ⟨⟨trivial, fun _ => propext ⟨fun h => h.1, fun h => ⟨h⟩⟩, ⟨⟨trivial, trivial⟩, trivial⟩⟩, ⟨trivial, ⟨⟨trivial, ⟨fun _ _ => rfl, fun _ => ⟨trivial, ⟨⟨trivial, trivial⟩, ⟨⟨trivial, trivial⟩, trivial⟩⟩⟩⟩⟩, ⟨⟨trivial, ⟨fun _ _ => rfl, fun _ => ⟨trivial, ⟨⟨trivial, trivial⟩, ⟨⟨trivial, ⟨trivial, ⟨trivial, ⟨trivial, trivial⟩⟩⟩⟩, trivial⟩⟩⟩⟩⟩, ⟨trivial, ⟨trivial, ⟨trivial, trivial⟩⟩⟩⟩⟩⟩⟩⟩
set_option maxRecDepth 100000 in
theorem kt9 {x : kji} {o : k13} (h : kb0 x o) : SoundH Try.prog ky.f ((ky.args idf x).map (er TB)) ((ky.obs idf x).map (erO TB)) (er TB (ky.val idf o)) ((ky.ops idf o).map (erO TB)) :=
  Con.soundH (c := ky) (C := k1c) TBok ⟨inf_ok, (all_cons k95 (all_cons k11v (all_cons k12s all_nil))), all_nil⟩ mix Try.func26 (show Try.f26.body = some k2v by kernel_rfl) (show Try.f26.ntmps = 82 by kernel_rfl) (show Try.f26.results.toList = k3d by kernel_rfl) rfl h (ksy o)
set_option maxRecDepth 100000 in
theorem ku8 {p1 : TTranscript} {p2 : Int} {p3 : Int} {c0_0 : Bool} {c0_1 : Int} {c0_2 : Int} {w1 : List TQuestion} {w2k : List ByteArray} {w2v : List Int} {w3k : List ByteArray} {w3v : List (List Int)} {w4k : List ByteArray} {w4v : List Bool} {r0 : List Int} {r1 : TTranscript} {d0_0 : Bool} {d0_1 : Int} {d0_2 : Int} {e1 : List TQuestion} {e2k : List ByteArray} {e2v : List Int} {e3k : List ByteArray} {e3v : List (List Int)} {e4k : List ByteArray} {e4v : List Bool} (h :
((decide (p3 < 0) = true →
(w1 = w1) ∧ k4z (r0, r1.State, r1.Count, d0_0, d0_1, d0_2, e1, e2k, e2v, e3k, e3v, e4k, e4v, ()) (p2, p3, true, c0_0, c0_1, c0_2, p1.State, p1.Count, (0 : Int), (0 : Int), w1, w2k, w2v, w3k, w3v, w4k, w4v, ())) ∧
(decide (p3 < 0) = false →
(decide (p2 < p3) = true →
(w1 = w1) ∧ k4z (r0, r1.State, r1.Count, d0_0, d0_1, d0_2, e1, e2k, e2v, e3k, e3v, e4k, e4v, ()) (p2, p3, true, c0_0, c0_1, c0_2, p1.State, p1.Count, (0 : Int), (0 : Int), w1, w2k, w2v, w3k, w3v, w4k, w4v, ())) ∧
(decide (p2 < p3) = false →
(w1 = w1) ∧ k4z (r0, r1.State, r1.Count, d0_0, d0_1, d0_2, e1, e2k, e2v, e3k, e3v, e4k, e4v, ()) (p2, p3, (decide (1024 < p2) : Bool), c0_0, c0_1, c0_2, p1.State, p1.Count, (0 : Int), (0 : Int), w1, w2k, w2v, w3k, w3v, w4k, w4v, ()))))) : kb0 (p1.State, p1.Count, p2, p3, c0_0, c0_1, c0_2, w1, w2k, w2v, w3k, w3v, w4k, w4v, ()) (r0, r1.State, r1.Count, d0_0, d0_1, d0_2, e1, e2k, e2v, e3k, e3v, e4k, e4v, ()) := WPh.of_eq (by kernel_rfl) h
set_option maxRecDepth 100000 in
theorem kgc {r0 : List Int} {r1 : TTranscript} {d0_0 : Bool} {d0_1 : Int} {d0_2 : Int} {e1 : List TQuestion} {e2k : List ByteArray} {e2v : List Int} {e3k : List ByteArray} {e3v : List (List Int)} {e4k : List ByteArray} {e4v : List Bool} {s2 : Int} {s3 : Int} {s26 : Bool} {h0_0 : Bool} {h0_1 : Int} {h0_2 : Int} {h5_0 : Int} {h5_1 : Int} {h6_0 : Int} {h6_1 : Int} {g1 : List TQuestion} {g2k : List ByteArray} {g2v : List Int} {g3k : List ByteArray} {g3v : List (List Int)} {g4k : List ByteArray} {g4v : List Bool} (h :
((s26 = true →
(g1 = g1) ∧ ([] : List Int) = r0 ∧ h5_0 = r1.State ∧ h5_1 = r1.Count ∧ h0_0 = d0_0 ∧ h0_1 = d0_1 ∧ h0_2 = d0_2 ∧ g1 = e1 ∧ g2k = e2k ∧ g2v = e2v ∧ g3k = e3k ∧ g3v = e3v ∧ g4k = e4k ∧ g4v = e4v) ∧
(s26 = false →
 0 ≤ s2 ∧ s2 ≤ s2 ∧ (s2.toNat * 8 ≤ 140737488355328) ∧ (s2.toNat ≤ maxLen) ∧ (g1 = g1) ∧ (s2.toNat = (List.replicate s2.toNat (0 : Int)).length) ∧ Md.Loop (s2, s3, ((s2.toNat : Int) : Int), (0 : Int), h0_0, h0_1, h0_2, h5_0, h5_1, h6_0, h6_1, g1, g2k, g2v, g3k, g3v, g4k, g4v, (List.replicate s2.toNat (0 : Int) : List Int), ()) (k74 (r0, r1.State, r1.Count, d0_0, d0_1, d0_2, e1, e2k, e2v, e3k, e3v, e4k, e4v, ()))))) : k4z (r0, r1.State, r1.Count, d0_0, d0_1, d0_2, e1, e2k, e2v, e3k, e3v, e4k, e4v, ()) (s2, s3, s26, h0_0, h0_1, h0_2, h5_0, h5_1, h6_0, h6_1, g1, g2k, g2v, g3k, g3v, g4k, g4v, ()) := ⟨mpr_of (by kernel_rfl) h⟩
def kiq (r0 : List Int) (r1 : TTranscript) (d0_0 : Bool) (d0_1 : Int) (d0_2 : Int) (e1 : List TQuestion) (e2k : List ByteArray) (e2v : List Int) (e3k : List ByteArray) (e3v : List (List Int)) (e4k : List ByteArray) (e4v : List Bool) (k1 : Int → List Int → Prop) (s2 : Int) (s3 : Int) (s31 : Int) (h0_0 : Bool) (h0_1 : Int) (h0_2 : Int) (h5_0 : Int) (h5_1 : Int) (h6_0 : Int) (h6_1 : Int) (g1 : List TQuestion) (g2k : List ByteArray) (g2v : List Int) (g3k : List ByteArray) (g3v : List (List Int)) (g4k : List ByteArray) (g4v : List Bool) (s32 : Int) (g7 : List Int) : Prop :=
(decide (s32 < s31) = true →
(0 ≤ s32 ∧ s32 < (g7.length : Int)) ∧ (0 ≤ s32 ∧ s32 < (g7.length : Int)) ∧ (g1 = g1) ∧ (g7.length = (g7.set s32.toNat s32).length) ∧ k1 (IntKind.i64.wrap (s32 + 1) : Int) (g7.set s32.toNat s32 : List Int)) ∧
(decide (s32 < s31) = false →
(g1 = g1) ∧ (g7.length = g7.length) ∧ Md.Loop (s2, s3, s3, (0 : Int), h0_0, h0_1, h0_2, h5_0, h5_1, h6_0, h6_1, g1, g2k, g2v, g3k, g3v, g4k, g4v, g7, ()) (k72 (r0, r1.State, r1.Count, d0_0, d0_1, d0_2, e1, e2k, e2v, e3k, e3v, e4k, e4v, ())))
set_option maxRecDepth 100000 in
theorem kt2 {r0 : List Int} {r1 : TTranscript} {d0_0 : Bool} {d0_1 : Int} {d0_2 : Int} {e1 : List TQuestion} {e2k : List ByteArray} {e2v : List Int} {e3k : List ByteArray} {e3v : List (List Int)} {e4k : List ByteArray} {e4v : List Bool} {s2 : Int} {s3 : Int} {s31 : Int} {h0_0 : Bool} {h0_1 : Int} {h0_2 : Int} {h5_0 : Int} {h5_1 : Int} {h6_0 : Int} {h6_1 : Int} {g1 : List TQuestion} {g2k : List ByteArray} {g2v : List Int} {g3k : List ByteArray} {g3v : List (List Int)} {g4k : List ByteArray} {g4v : List Bool} {s32 : Int} {g7 : List Int} (inv : Int → List Int → Prop) (μ : Int → List Int → Nat) (h0 : inv s32 g7) (hs : ∀ (s32 : Int) (g7 : List Int), inv s32 g7 → kiq r0 r1 d0_0 d0_1 d0_2 e1 e2k e2v e3k e3v e4k e4v (fun s32q g7q => inv s32q g7q ∧ μ s32q g7q < μ s32 g7) s2 s3 s31 h0_0 h0_1 h0_2 h5_0 h5_1 h6_0 h6_1 g1 g2k g2v g3k g3v g4k g4v s32 g7) : Md.Loop (s2, s3, s31, s32, h0_0, h0_1, h0_2, h5_0, h5_1, h6_0, h6_1, g1, g2k, g2v, g3k, g3v, g4k, g4v, g7, ()) (k74 (r0, r1.State, r1.Count, d0_0, d0_1, d0_2, e1, e2k, e2v, e3k, e3v, e4k, e4v, ())) :=
  ⟨⟨fun s : Int × Int × Int × Int × Bool × Int × Int × Int × Int × Int × Int × (List TQuestion) × (List ByteArray) × (List Int) × (List ByteArray) × (List (List Int)) × (List ByteArray) × (List Bool) × (List Int) × Unit => (s.1 = s2 ∧ s.2.1 = s3 ∧ s.2.2.1 = s31 ∧ s.2.2.2.2.1 = h0_0 ∧ s.2.2.2.2.2.1 = h0_1 ∧ s.2.2.2.2.2.2.1 = h0_2 ∧ s.2.2.2.2.2.2.2.1 = h5_0 ∧ s.2.2.2.2.2.2.2.2.1 = h5_1 ∧ s.2.2.2.2.2.2.2.2.2.1 = h6_0 ∧ s.2.2.2.2.2.2.2.2.2.2.1 = h6_1 ∧ s.2.2.2.2.2.2.2.2.2.2.2.1 = g1 ∧ s.2.2.2.2.2.2.2.2.2.2.2.2.1 = g2k ∧ s.2.2.2.2.2.2.2.2.2.2.2.2.2.1 = g2v ∧ s.2.2.2.2.2.2.2.2.2.2.2.2.2.2.1 = g3k ∧ s.2.2.2.2.2.2.2.2.2.2.2.2.2.2.2.1 = g3v ∧ s.2.2.2.2.2.2.2.2.2.2.2.2.2.2.2.2.1 = g4k ∧ s.2.2.2.2.2.2.2.2.2.2.2.2.2.2.2.2.2.1 = g4v) ∧ inv s.2.2.2.1 s.2.2.2.2.2.2.2.2.2.2.2.2.2.2.2.2.2.2.1, fun s : Int × Int × Int × Int × Bool × Int × Int × Int × Int × Int × Int × (List TQuestion) × (List ByteArray) × (List Int) × (List ByteArray) × (List (List Int)) × (List ByteArray) × (List Bool) × (List Int) × Unit => μ s.2.2.2.1 s.2.2.2.2.2.2.2.2.2.2.2.2.2.2.2.2.2.2.1, ⟨⟨rfl, rfl, rfl, rfl, rfl, rfl, rfl, rfl, rfl, rfl, rfl, rfl, rfl, rfl, rfl, rfl, rfl⟩, h0⟩, fun (s2p, s3p, s31p, s32p, h0_0p, h0_1p, h0_2p, h5_0p, h5_1p, h6_0p, h6_1p, g1p, g2kp, g2vp, g3kp, g3vp, g4kp, g4vp, g7p, ()) ⟨⟨eq0, eq1, eq2, eq3, eq4, eq5, eq6, eq7, eq8, eq9, eq10, eq11, eq12, eq13, eq14, eq15, eq16⟩, hi⟩ => by
    have eq0 : s2p = s2 := eq0; subst s2p; have eq1 : s3p = s3 := eq1; subst s3p; have eq2 : s31p = s31 := eq2; subst s31p; have eq3 : h0_0p = h0_0 := eq3; subst h0_0p; have eq4 : h0_1p = h0_1 := eq4; subst h0_1p; have eq5 : h0_2p = h0_2 := eq5; subst h0_2p; have eq6 : h5_0p = h5_0 := eq6; subst h5_0p; have eq7 : h5_1p = h5_1 := eq7; subst h5_1p; have eq8 : h6_0p = h6_0 := eq8; subst h6_0p; have eq9 : h6_1p = h6_1 := eq9; subst h6_1p; have eq10 : g1p = g1 := eq10; subst g1p; have eq11 : g2kp = g2k := eq11; subst g2kp; have eq12 : g2vp = g2v := eq12; subst g2vp; have eq13 : g3kp = g3k := eq13; subst g3kp; have eq14 : g3vp = g3v := eq14; subst g3vp; have eq15 : g4kp = g4k := eq15; subst g4kp; have eq16 : g4vp = g4v := eq16; subst g4vp; exact mpr_of (by kernel_rfl) ((congrArg (fun k => kiq r0 r1 d0_0 d0_1 d0_2 e1 e2k e2v e3k e3v e4k e4v k s2 s3 s31 h0_0 h0_1 h0_2 h5_0 h5_1 h6_0 h6_1 g1 g2k g2v g3k g3v g4k g4v s32p g7p) (lpk2 (⟨rfl, rfl, rfl, rfl, rfl, rfl, rfl, rfl, rfl, rfl, rfl, rfl, rfl, rfl, rfl, rfl, rfl⟩ : s2 = s2 ∧ s3 = s3 ∧ s31 = s31 ∧ h0_0 = h0_0 ∧ h0_1 = h0_1 ∧ h0_2 = h0_2 ∧ h5_0 = h5_0 ∧ h5_1 = h5_1 ∧ h6_0 = h6_0 ∧ h6_1 = h6_1 ∧ g1 = g1 ∧ g2k = g2k ∧ g2v = g2v ∧ g3k = g3k ∧ g3v = g3v ∧ g4k = g4k ∧ g4v = g4v) inv (fun s32q g7q => μ s32q g7q < μ s32p g7p))).mpr (hs s32p g7p hi))⟩⟩
def kim (r0 : List Int) (r1 : TTranscript) (d0_0 : Bool) (d0_1 : Int) (d0_2 : Int) (e1 : List TQuestion) (e2k : List ByteArray) (e2v : List Int) (e3k : List ByteArray) (e3v : List (List Int)) (e4k : List ByteArray) (e4v : List Bool) (k2 : Int → Bool → Int → Int → Int → Int → List TQuestion → List ByteArray → List Int → List ByteArray → List (List Int) → List ByteArray → List Bool → List Int → Prop) (s2 : Int) (s3 : Int) (s40 : Int) (h6_0 : Int) (h6_1 : Int) (s41 : Int) (h0_0 : Bool) (h0_1 : Int) (h0_2 : Int) (h5_0 : Int) (h5_1 : Int) (g1 : List TQuestion) (g2k : List ByteArray) (g2v : List Int) (g3k : List ByteArray) (g3v : List (List Int)) (g4k : List ByteArray) (g4v : List Bool) (g7 : List Int) : Prop :=
(decide (s41 < s40) = true →
(g1 = g1) ∧ ((U64 (TTranscript.mk h5_0 h5_1).State ∧ U64 (TTranscript.mk h5_0 h5_1).Count) ∧ OOk (OS.mk h0_0 h0_1 h0_2 g1 g2k g2v g3k g3v g4k g4v)) ∧ let r2 : Int := ((chO (OS.mk h0_0 h0_1 h0_2 g1 g2k g2v g3k g3v g4k g4v) (TTranscript.mk h5_0 h5_1) (18446744069414584321 : Int)).n)
 let r3 : Int := ((chO (OS.mk h0_0 h0_1 h0_2 g1 g2k g2v g3k g3v g4k g4v) (TTranscript.mk h5_0 h5_1) (18446744069414584321 : Int)).t).State
 let r4 : Int := ((chO (OS.mk h0_0 h0_1 h0_2 g1 g2k g2v g3k g3v g4k g4v) (TTranscript.mk h5_0 h5_1) (18446744069414584321 : Int)).t).Count
 let r5 : Bool := ((chO (OS.mk h0_0 h0_1 h0_2 g1 g2k g2v g3k g3v g4k g4v) (TTranscript.mk h5_0 h5_1) (18446744069414584321 : Int)).o.a)
 let r6 : Int := ((chO (OS.mk h0_0 h0_1 h0_2 g1 g2k g2v g3k g3v g4k g4v) (TTranscript.mk h5_0 h5_1) (18446744069414584321 : Int)).o.b)
 let r7 : Int := ((chO (OS.mk h0_0 h0_1 h0_2 g1 g2k g2v g3k g3v g4k g4v) (TTranscript.mk h5_0 h5_1) (18446744069414584321 : Int)).o.c)
 let r8 : List TQuestion := ((chO (OS.mk h0_0 h0_1 h0_2 g1 g2k g2v g3k g3v g4k g4v) (TTranscript.mk h5_0 h5_1) (18446744069414584321 : Int)).o.q)
 let r9 : List ByteArray := ((chO (OS.mk h0_0 h0_1 h0_2 g1 g2k g2v g3k g3v g4k g4v) (TTranscript.mk h5_0 h5_1) (18446744069414584321 : Int)).o.k)
 let r10 : List Int := ((chO (OS.mk h0_0 h0_1 h0_2 g1 g2k g2v g3k g3v g4k g4v) (TTranscript.mk h5_0 h5_1) (18446744069414584321 : Int)).o.v)
 let r11 : List ByteArray := ((chO (OS.mk h0_0 h0_1 h0_2 g1 g2k g2v g3k g3v g4k g4v) (TTranscript.mk h5_0 h5_1) (18446744069414584321 : Int)).o.s)
 let r12 : List (List Int) := ((chO (OS.mk h0_0 h0_1 h0_2 g1 g2k g2v g3k g3v g4k g4v) (TTranscript.mk h5_0 h5_1) (18446744069414584321 : Int)).o.t)
 let r13 : List ByteArray := ((chO (OS.mk h0_0 h0_1 h0_2 g1 g2k g2v g3k g3v g4k g4v) (TTranscript.mk h5_0 h5_1) (18446744069414584321 : Int)).o.x)
 let r14 : List Bool := ((chO (OS.mk h0_0 h0_1 h0_2 g1 g2k g2v g3k g3v g4k g4v) (TTranscript.mk h5_0 h5_1) (18446744069414584321 : Int)).o.y)
 let v15 : Int := IntKind.u64.wrap (IntKind.i64.wrap (s2 - s41))
(v15 ≠ 0) ∧ let v16 : Int := IntKind.i64.wrap (s41 + (IntKind.i64.wrap (Int.tmod r2 v15)))
(0 ≤ v16 ∧ v16 < (g7.length : Int)) ∧ (0 ≤ v16 ∧ v16 < (g7.length : Int)) ∧ (0 ≤ s41 ∧ s41 < (g7.length : Int)) ∧ (0 ≤ s41 ∧ s41 < (g7.length : Int)) ∧ (0 ≤ s41 ∧ s41 < (g7.length : Int)) ∧ (0 ≤ s41 ∧ s41 < (g7.length : Int)) ∧ (0 ≤ v16 ∧ v16 < (g7.length : Int)) ∧ (0 ≤ v16 ∧ v16 < ((g7.set s41.toNat (ix g7 v16)).length : Int)) ∧ (r8 = r8) ∧ (g7.length = ((g7.set s41.toNat (ix g7 v16)).set v16.toNat (ix g7 s41)).length) ∧ k2 (IntKind.i64.wrap (s41 + 1) : Int) r5 r6 r7 r3 r4 r8 r9 r10 r11 r12 r13 r14 ((g7.set s41.toNat (ix g7 v16)).set v16.toNat (ix g7 s41) : List Int)) ∧
(decide (s41 < s40) = false →
(0 ≤ s3) ∧ s3 ≤ (g7.length : Int) ∧ (0 ≤ (0 : Int) ∧ 0 ≤ (s3.toNat : Int) ∧ (0 : Int).toNat + (s3.toNat : Int).toNat ≤ g7.length ∧ g7.length ≤ 1000000) ∧ let r17 : List Int := ((g7.drop (0 : Int).toNat).take (s3.toNat : Int).toNat)
(r17.length = r17.length) ∧ (r17.length ≤ 12) ∧ (r17.length = (srt r17).length) ∧ (g1 = g1) ∧ (srt r17) = r0 ∧ h5_0 = r1.State ∧ h5_1 = r1.Count ∧ h0_0 = d0_0 ∧ h0_1 = d0_1 ∧ h0_2 = d0_2 ∧ g1 = e1 ∧ g2k = e2k ∧ g2v = e2v ∧ g3k = e3k ∧ g3v = e3v ∧ g4k = e4k ∧ g4v = e4v)
set_option maxRecDepth 100000 in
theorem kss {r0 : List Int} {r1 : TTranscript} {d0_0 : Bool} {d0_1 : Int} {d0_2 : Int} {e1 : List TQuestion} {e2k : List ByteArray} {e2v : List Int} {e3k : List ByteArray} {e3v : List (List Int)} {e4k : List ByteArray} {e4v : List Bool} {s2 : Int} {s3 : Int} {s40 : Int} {h6_0 : Int} {h6_1 : Int} {s41 : Int} {h0_0 : Bool} {h0_1 : Int} {h0_2 : Int} {h5_0 : Int} {h5_1 : Int} {g1 : List TQuestion} {g2k : List ByteArray} {g2v : List Int} {g3k : List ByteArray} {g3v : List (List Int)} {g4k : List ByteArray} {g4v : List Bool} {g7 : List Int} (inv : Int → Bool → Int → Int → Int → Int → List TQuestion → List ByteArray → List Int → List ByteArray → List (List Int) → List ByteArray → List Bool → List Int → Prop) (μ : Int → Bool → Int → Int → Int → Int → List TQuestion → List ByteArray → List Int → List ByteArray → List (List Int) → List ByteArray → List Bool → List Int → Nat) (h0 : inv s41 h0_0 h0_1 h0_2 h5_0 h5_1 g1 g2k g2v g3k g3v g4k g4v g7) (hs : ∀ (s41 : Int) (h0_0 : Bool) (h0_1 : Int) (h0_2 : Int) (h5_0 : Int) (h5_1 : Int) (g1 : List TQuestion) (g2k : List ByteArray) (g2v : List Int) (g3k : List ByteArray) (g3v : List (List Int)) (g4k : List ByteArray) (g4v : List Bool) (g7 : List Int), inv s41 h0_0 h0_1 h0_2 h5_0 h5_1 g1 g2k g2v g3k g3v g4k g4v g7 → kim r0 r1 d0_0 d0_1 d0_2 e1 e2k e2v e3k e3v e4k e4v (fun s41q h0_0q h0_1q h0_2q h5_0q h5_1q g1q g2kq g2vq g3kq g3vq g4kq g4vq g7q => inv s41q h0_0q h0_1q h0_2q h5_0q h5_1q g1q g2kq g2vq g3kq g3vq g4kq g4vq g7q ∧ μ s41q h0_0q h0_1q h0_2q h5_0q h5_1q g1q g2kq g2vq g3kq g3vq g4kq g4vq g7q < μ s41 h0_0 h0_1 h0_2 h5_0 h5_1 g1 g2k g2v g3k g3v g4k g4v g7) s2 s3 s40 h6_0 h6_1 s41 h0_0 h0_1 h0_2 h5_0 h5_1 g1 g2k g2v g3k g3v g4k g4v g7) : Md.Loop (s2, s3, s40, s41, h0_0, h0_1, h0_2, h5_0, h5_1, h6_0, h6_1, g1, g2k, g2v, g3k, g3v, g4k, g4v, g7, ()) (k72 (r0, r1.State, r1.Count, d0_0, d0_1, d0_2, e1, e2k, e2v, e3k, e3v, e4k, e4v, ())) :=
  ⟨⟨fun s : Int × Int × Int × Int × Bool × Int × Int × Int × Int × Int × Int × (List TQuestion) × (List ByteArray) × (List Int) × (List ByteArray) × (List (List Int)) × (List ByteArray) × (List Bool) × (List Int) × Unit => (s.1 = s2 ∧ s.2.1 = s3 ∧ s.2.2.1 = s40 ∧ s.2.2.2.2.2.2.2.2.2.1 = h6_0 ∧ s.2.2.2.2.2.2.2.2.2.2.1 = h6_1) ∧ inv s.2.2.2.1 s.2.2.2.2.1 s.2.2.2.2.2.1 s.2.2.2.2.2.2.1 s.2.2.2.2.2.2.2.1 s.2.2.2.2.2.2.2.2.1 s.2.2.2.2.2.2.2.2.2.2.2.1 s.2.2.2.2.2.2.2.2.2.2.2.2.1 s.2.2.2.2.2.2.2.2.2.2.2.2.2.1 s.2.2.2.2.2.2.2.2.2.2.2.2.2.2.1 s.2.2.2.2.2.2.2.2.2.2.2.2.2.2.2.1 s.2.2.2.2.2.2.2.2.2.2.2.2.2.2.2.2.1 s.2.2.2.2.2.2.2.2.2.2.2.2.2.2.2.2.2.1 s.2.2.2.2.2.2.2.2.2.2.2.2.2.2.2.2.2.2.1, fun s : Int × Int × Int × Int × Bool × Int × Int × Int × Int × Int × Int × (List TQuestion) × (List ByteArray) × (List Int) × (List ByteArray) × (List (List Int)) × (List ByteArray) × (List Bool) × (List Int) × Unit => μ s.2.2.2.1 s.2.2.2.2.1 s.2.2.2.2.2.1 s.2.2.2.2.2.2.1 s.2.2.2.2.2.2.2.1 s.2.2.2.2.2.2.2.2.1 s.2.2.2.2.2.2.2.2.2.2.2.1 s.2.2.2.2.2.2.2.2.2.2.2.2.1 s.2.2.2.2.2.2.2.2.2.2.2.2.2.1 s.2.2.2.2.2.2.2.2.2.2.2.2.2.2.1 s.2.2.2.2.2.2.2.2.2.2.2.2.2.2.2.1 s.2.2.2.2.2.2.2.2.2.2.2.2.2.2.2.2.1 s.2.2.2.2.2.2.2.2.2.2.2.2.2.2.2.2.2.1 s.2.2.2.2.2.2.2.2.2.2.2.2.2.2.2.2.2.2.1, ⟨⟨rfl, rfl, rfl, rfl, rfl⟩, h0⟩, fun (s2p, s3p, s40p, s41p, h0_0p, h0_1p, h0_2p, h5_0p, h5_1p, h6_0p, h6_1p, g1p, g2kp, g2vp, g3kp, g3vp, g4kp, g4vp, g7p, ()) ⟨⟨eq0, eq1, eq2, eq3, eq4⟩, hi⟩ => by
    have eq0 : s2p = s2 := eq0; subst s2p; have eq1 : s3p = s3 := eq1; subst s3p; have eq2 : s40p = s40 := eq2; subst s40p; have eq3 : h6_0p = h6_0 := eq3; subst h6_0p; have eq4 : h6_1p = h6_1 := eq4; subst h6_1p; exact mpr_of (by kernel_rfl) ((congrArg (fun k => kim r0 r1 d0_0 d0_1 d0_2 e1 e2k e2v e3k e3v e4k e4v k s2 s3 s40 h6_0 h6_1 s41p h0_0p h0_1p h0_2p h5_0p h5_1p g1p g2kp g2vp g3kp g3vp g4kp g4vp g7p) (lpk14 (⟨rfl, rfl, rfl, rfl, rfl⟩ : s2 = s2 ∧ s3 = s3 ∧ s40 = s40 ∧ h6_0 = h6_0 ∧ h6_1 = h6_1) inv (fun s41q h0_0q h0_1q h0_2q h5_0q h5_1q g1q g2kq g2vq g3kq g3vq g4kq g4vq g7q => μ s41q h0_0q h0_1q h0_2q h5_0q h5_1q g1q g2kq g2vq g3kq g3vq g4kq g4vq g7q < μ s41p h0_0p h0_1p h0_2p h5_0p h5_1p g1p g2kp g2vp g3kp g3vp g4kp g4vp g7p))).mpr (hs s41p h0_0p h0_1p h0_2p h5_0p h5_1p g1p g2kp g2vp g3kp g3vp g4kp g4vp g7p hi))⟩⟩
theorem bd26 : Callable Try.prog 26 := ⟨by rw [Try.func26]; kernel_rfl, by rw [Try.func26]; show some _ ≠ some _; decide⟩
theorem ksb (p1 : TTranscript) (p2 : Int) (p3 : Int) (c0_0 : Bool) (c0_1 : Int) (c0_2 : Int) (w1 : List TQuestion) (w2k : List ByteArray) (w2v : List Int) (w3k : List ByteArray) (w3v : List (List Int)) (w4k : List ByteArray) (w4v : List Bool) (h : (U64 p1.State ∧ U64 p1.Count) ∧ (OOk (OS.mk c0_0 c0_1 c0_2 w1 w2k w2v w3k w3v w4k w4v) ∧ w1.length ≤ 900000) ∧ p3 ≤ 12) : kb0 (p1.State, p1.Count, p2, p3, c0_0, c0_1, c0_2, w1, w2k, w2v, w3k, w3v, w4k, w4v, ()) ((((posO (OS.mk c0_0 c0_1 c0_2 w1 w2k w2v w3k w3v w4k w4v) p1 p2 p3).g) : List Int), (((posO (OS.mk c0_0 c0_1 c0_2 w1 w2k w2v w3k w3v w4k w4v) p1 p2 p3).t).State : Int), (((posO (OS.mk c0_0 c0_1 c0_2 w1 w2k w2v w3k w3v w4k w4v) p1 p2 p3).t).Count : Int), (((posO (OS.mk c0_0 c0_1 c0_2 w1 w2k w2v w3k w3v w4k w4v) p1 p2 p3).o.a) : Bool), (((posO (OS.mk c0_0 c0_1 c0_2 w1 w2k w2v w3k w3v w4k w4v) p1 p2 p3).o.b) : Int), (((posO (OS.mk c0_0 c0_1 c0_2 w1 w2k w2v w3k w3v w4k w4v) p1 p2 p3).o.c) : Int), (((posO (OS.mk c0_0 c0_1 c0_2 w1 w2k w2v w3k w3v w4k w4v) p1 p2 p3).o.q) : List TQuestion), (((posO (OS.mk c0_0 c0_1 c0_2 w1 w2k w2v w3k w3v w4k w4v) p1 p2 p3).o.k) : List ByteArray), (((posO (OS.mk c0_0 c0_1 c0_2 w1 w2k w2v w3k w3v w4k w4v) p1 p2 p3).o.v) : List Int), (((posO (OS.mk c0_0 c0_1 c0_2 w1 w2k w2v w3k w3v w4k w4v) p1 p2 p3).o.s) : List ByteArray), (((posO (OS.mk c0_0 c0_1 c0_2 w1 w2k w2v w3k w3v w4k w4v) p1 p2 p3).o.t) : List (List Int)), (((posO (OS.mk c0_0 c0_1 c0_2 w1 w2k w2v w3k w3v w4k w4v) p1 p2 p3).o.x) : List ByteArray), (((posO (OS.mk c0_0 c0_1 c0_2 w1 w2k w2v w3k w3v w4k w4v) p1 p2 p3).o.y) : List Bool), ()) := by
  obtain ⟨⟨h1, h2⟩, ⟨h3, h4⟩, h5⟩ := h
  generalize hA : posO (OS.mk c0_0 c0_1 c0_2 w1 w2k w2v w3k w3v w4k w4v) p1 p2 p3 = A
  have bad : (p3 < 0 ∨ p2 < p3 ∨ 1024 < p2) → A = ⟨OS.mk c0_0 c0_1 c0_2 w1 w2k w2v w3k w3v w4k w4v, p1, []⟩ := fun hb => by rw [← hA]; exact if_pos hb
  have jb : A = ⟨OS.mk c0_0 c0_1 c0_2 w1 w2k w2v w3k w3v w4k w4v, p1, []⟩ → k4z (A.g, A.t.State, A.t.Count, A.o.a, A.o.b, A.o.c, A.o.q, A.o.k, A.o.v, A.o.s, A.o.t, A.o.x, A.o.y, ()) (p2, p3, true, c0_0, c0_1, c0_2, p1.State, p1.Count, (0 : Int), (0 : Int), w1, w2k, w2v, w3k, w3v, w4k, w4v, ()) := by
    rintro rfl
    exact kgc (r1 := p1) ⟨fun _ => ⟨rfl, rfl, rfl, rfl, rfl, rfl, rfl, rfl, rfl, rfl, rfl, rfl, rfl, rfl⟩, fun h => by cases h⟩
  refine ku8 (r1 := A.t) ⟨fun e => ⟨rfl, jb (bad (.inl (of_decide_eq_true e)))⟩, fun e => ⟨fun e2 => ⟨rfl, jb (bad (.inr (.inl (of_decide_eq_true e2))))⟩, fun e2 => ⟨rfl, ?_⟩⟩⟩
  have e := of_decide_eq_false e
  have e2 := of_decide_eq_false e2
  by_cases e3 : 1024 < p2
  · rw [decide_eq_true e3]
    exact jb (bad (.inr (.inr e3)))
  rw [decide_eq_false e3]
  have hg : A = ⟨(posS p2 p3.toNat 0 ⟨OS.mk c0_0 c0_1 c0_2 w1 w2k w2v w3k w3v w4k w4v, p1, rng p2.toNat⟩).o, (posS p2 p3.toNat 0 ⟨OS.mk c0_0 c0_1 c0_2 w1 w2k w2v w3k w3v w4k w4v, p1, rng p2.toNat⟩).t, srt ((posS p2 p3.toNat 0 ⟨OS.mk c0_0 c0_1 c0_2 w1 w2k w2v w3k w3v w4k w4v, p1, rng p2.toNat⟩).g.take p3.toNat)⟩ := by
    rw [← hA]; exact if_neg (by omega)
  clear hA bad jb
  generalize hS : posS p2 p3.toNat 0 ⟨OS.mk c0_0 c0_1 c0_2 w1 w2k w2v w3k w3v w4k w4v, p1, rng p2.toNat⟩ = S at hg
  subst hg
  refine kgc (r1 := S.t) ⟨(fun h => by cases h), fun _ => ⟨by omega, by omega, by omega, by unfold maxLen; omega, rfl, by simp, ?_⟩⟩
  refine kt2 (r1 := S.t) (SetI (fun (j : Nat) => (j : Int)) p2.toNat) (fun i _ => (p2.toNat - i).toNat) (SetI.start (by simp)) ?_
  intro i g hi
  have i0 := hi.1
  have il := hi.2.2.1
  refine ⟨fun hh => ?_, fun hh => ?_⟩
  · have hh := of_decide_eq_true hh
    exact ⟨⟨i0, by omega⟩, ⟨i0, by omega⟩, rfl, by rw [List.length_set], hi.next hh (by omega) (by omega)⟩
  have hh := of_decide_eq_false hh
  have hgr : g = rng p2.toNat := hi.done hh
  subst hgr
  refine ⟨rfl, rfl, ?_⟩
  refine kss (r1 := S.t) (fun i a b c ts tc q k v s t x y g => (0 ≤ i ∧ i ≤ p3) ∧ U64 ts ∧ U64 tc ∧ (OOk (OS.mk a b c q k v s t x y) ∧ q.length ≤ 900000 + i.toNat) ∧ (g.length : Int) = p2 ∧ posS p2 (p3 - i).toNat i ⟨OS.mk a b c q k v s t x y, ⟨ts, tc⟩, g⟩ = S)
    (fun i _ _ _ _ _ _ _ _ _ _ _ _ _ => (p3 - i).toNat) ⟨⟨by omega, by omega⟩, h1, h2, ⟨h3, by omega⟩, by rw [k190]; omega, by rw [Int.sub_zero]; exact hS⟩ ?_
  rintro i a b c ts tc q k v s t x y g ⟨⟨g0, g1⟩, g2, g3, ⟨g4, g5⟩, g6, g7⟩
  refine ⟨fun hh => ?_, fun hh => ?_⟩
  · have hh := of_decide_eq_true hh
    refine ⟨rfl, ⟨⟨g2, g3⟩, g4⟩, ?_⟩
    dsimp only
    obtain ⟨q1, q2, q3, q4⟩ := g4.ch ⟨ts, tc⟩ 18446744069414584321 (show q.length ≤ 999999 by omega)
    obtain ⟨q5, q6, q7⟩ := q4 rfl
    rw [show (p3 - i).toNat = (p3 - (i + 1)).toNat + 1 by omega] at g7
    have e5 : IntKind.u64.wrap (IntKind.i64.wrap (p2 - i)) = p2 - i := by rw [wi _ (by omega) (by omega), wu _ (by omega) (by omega)]
    rw [e5]
    generalize hC : chO (OS.mk a b c q k v s t x y) ⟨ts, tc⟩ 18446744069414584321 = C at *
    have hj : 0 ≤ C.n % (p2 - i) ∧ C.n % (p2 - i) < p2 - i := ⟨Int.emod_nonneg _ (by omega), Int.emod_lt_of_pos _ (by omega)⟩
    have e6 : IntKind.i64.wrap (i + IntKind.i64.wrap (Int.tmod C.n (p2 - i))) = i + C.n % (p2 - i) := by
      rw [tmod_nn _ _ q5, wi (C.n % (p2 - i)) (by omega) (by omega), wi _ (by omega) (by omega)]
    rw [e6, wi (i + 1) (by omega) (by omega)]
    have e7 : posN p2 i ⟨OS.mk a b c q k v s t x y, ⟨ts, tc⟩, g⟩ = ⟨C.o, C.t, swp g i (i + C.n % (p2 - i))⟩ := by unfold posN; simp only [hC]
    have g7 : posS p2 (p3 - (i + 1)).toNat (i + 1) (posN p2 i ⟨OS.mk a b c q k v s t x y, ⟨ts, tc⟩, g⟩) = S := g7
    rw [e7] at g7
    refine ⟨by omega, ⟨by omega, by omega⟩, ⟨by omega, by omega⟩, ⟨by omega, by omega⟩, ⟨by omega, by omega⟩, ⟨by omega, by omega⟩, ⟨by omega, by omega⟩, ⟨by omega, by omega⟩, ⟨by omega, by rw [List.length_set]; omega⟩, rfl, by rw [List.length_set, List.length_set], ⟨⟨by omega, by omega⟩, ?_, q7, ⟨q1, ?_⟩, ?_, g7⟩, by omega⟩
    · rw [q3]; exact g2
    · have q2 : C.o.q.length ≤ q.length + 1 := q2
      omega
    · rw [List.length_set, List.length_set]; exact g6
  · have hh := of_decide_eq_false hh
    rw [show (p3 - i).toNat = 0 by omega] at g7
    have g7 : (⟨OS.mk a b c q k v s t x y, ⟨ts, tc⟩, g⟩ : PS) = S := g7
    subst g7
    refine ⟨by omega, by omega, ⟨by omega, by omega, by simp; omega, by omega⟩, ?_⟩
    dsimp only
    refine ⟨rfl, ?_, ?_⟩
    · rw [List.length_take]; simp; omega
    · refine ⟨by rw [k1hr], rfl, by rw [Int.toNat_natCast, show (0 : Int).toNat = 0 from rfl, List.drop_zero], rfl, rfl, rfl, rfl, rfl, rfl, rfl, rfl, rfl, rfl, rfl, rfl⟩
noncomputable def khv : Con TB.den := ky.fnR (fun x => (fun (p1 : TTranscript) (p2 : Int) (p3 : Int) (c0_0 : Bool) (c0_1 : Int) (c0_2 : Int) (w1 : List TQuestion) (w2k : List ByteArray) (w2v : List Int) (w3k : List ByteArray) (w3v : List (List Int)) (w4k : List ByteArray) (w4v : List Bool) => (U64 p1.State ∧ U64 p1.Count) ∧ (OOk (OS.mk c0_0 c0_1 c0_2 w1 w2k w2v w3k w3v w4k w4v) ∧ w1.length ≤ 900000) ∧ p3 ≤ 12) (TTranscript.mk x.1 x.2.1) x.2.2.1 x.2.2.2.1 x.2.2.2.2.1 x.2.2.2.2.2.1 x.2.2.2.2.2.2.1 x.2.2.2.2.2.2.2.1 x.2.2.2.2.2.2.2.2.1 x.2.2.2.2.2.2.2.2.2.1 x.2.2.2.2.2.2.2.2.2.2.1 x.2.2.2.2.2.2.2.2.2.2.2.1 x.2.2.2.2.2.2.2.2.2.2.2.2.1 x.2.2.2.2.2.2.2.2.2.2.2.2.2.1) fun x => ((fun (p1 : TTranscript) (p2 : Int) (p3 : Int) (c0_0 : Bool) (c0_1 : Int) (c0_2 : Int) (w1 : List TQuestion) (w2k : List ByteArray) (w2v : List Int) (w3k : List ByteArray) (w3v : List (List Int)) (w4k : List ByteArray) (w4v : List Bool) => (((posO (OS.mk c0_0 c0_1 c0_2 w1 w2k w2v w3k w3v w4k w4v) p1 p2 p3).g) : List Int)) (TTranscript.mk x.1 x.2.1) x.2.2.1 x.2.2.2.1 x.2.2.2.2.1 x.2.2.2.2.2.1 x.2.2.2.2.2.2.1 x.2.2.2.2.2.2.2.1 x.2.2.2.2.2.2.2.2.1 x.2.2.2.2.2.2.2.2.2.1 x.2.2.2.2.2.2.2.2.2.2.1 x.2.2.2.2.2.2.2.2.2.2.2.1 x.2.2.2.2.2.2.2.2.2.2.2.2.1 x.2.2.2.2.2.2.2.2.2.2.2.2.2.1, (fun (p1 : TTranscript) (p2 : Int) (p3 : Int) (c0_0 : Bool) (c0_1 : Int) (c0_2 : Int) (w1 : List TQuestion) (w2k : List ByteArray) (w2v : List Int) (w3k : List ByteArray) (w3v : List (List Int)) (w4k : List ByteArray) (w4v : List Bool) => (((posO (OS.mk c0_0 c0_1 c0_2 w1 w2k w2v w3k w3v w4k w4v) p1 p2 p3).t).State : Int)) (TTranscript.mk x.1 x.2.1) x.2.2.1 x.2.2.2.1 x.2.2.2.2.1 x.2.2.2.2.2.1 x.2.2.2.2.2.2.1 x.2.2.2.2.2.2.2.1 x.2.2.2.2.2.2.2.2.1 x.2.2.2.2.2.2.2.2.2.1 x.2.2.2.2.2.2.2.2.2.2.1 x.2.2.2.2.2.2.2.2.2.2.2.1 x.2.2.2.2.2.2.2.2.2.2.2.2.1 x.2.2.2.2.2.2.2.2.2.2.2.2.2.1, (fun (p1 : TTranscript) (p2 : Int) (p3 : Int) (c0_0 : Bool) (c0_1 : Int) (c0_2 : Int) (w1 : List TQuestion) (w2k : List ByteArray) (w2v : List Int) (w3k : List ByteArray) (w3v : List (List Int)) (w4k : List ByteArray) (w4v : List Bool) => (((posO (OS.mk c0_0 c0_1 c0_2 w1 w2k w2v w3k w3v w4k w4v) p1 p2 p3).t).Count : Int)) (TTranscript.mk x.1 x.2.1) x.2.2.1 x.2.2.2.1 x.2.2.2.2.1 x.2.2.2.2.2.1 x.2.2.2.2.2.2.1 x.2.2.2.2.2.2.2.1 x.2.2.2.2.2.2.2.2.1 x.2.2.2.2.2.2.2.2.2.1 x.2.2.2.2.2.2.2.2.2.2.1 x.2.2.2.2.2.2.2.2.2.2.2.1 x.2.2.2.2.2.2.2.2.2.2.2.2.1 x.2.2.2.2.2.2.2.2.2.2.2.2.2.1, (fun (p1 : TTranscript) (p2 : Int) (p3 : Int) (c0_0 : Bool) (c0_1 : Int) (c0_2 : Int) (w1 : List TQuestion) (w2k : List ByteArray) (w2v : List Int) (w3k : List ByteArray) (w3v : List (List Int)) (w4k : List ByteArray) (w4v : List Bool) => (((posO (OS.mk c0_0 c0_1 c0_2 w1 w2k w2v w3k w3v w4k w4v) p1 p2 p3).o.a) : Bool)) (TTranscript.mk x.1 x.2.1) x.2.2.1 x.2.2.2.1 x.2.2.2.2.1 x.2.2.2.2.2.1 x.2.2.2.2.2.2.1 x.2.2.2.2.2.2.2.1 x.2.2.2.2.2.2.2.2.1 x.2.2.2.2.2.2.2.2.2.1 x.2.2.2.2.2.2.2.2.2.2.1 x.2.2.2.2.2.2.2.2.2.2.2.1 x.2.2.2.2.2.2.2.2.2.2.2.2.1 x.2.2.2.2.2.2.2.2.2.2.2.2.2.1, (fun (p1 : TTranscript) (p2 : Int) (p3 : Int) (c0_0 : Bool) (c0_1 : Int) (c0_2 : Int) (w1 : List TQuestion) (w2k : List ByteArray) (w2v : List Int) (w3k : List ByteArray) (w3v : List (List Int)) (w4k : List ByteArray) (w4v : List Bool) => (((posO (OS.mk c0_0 c0_1 c0_2 w1 w2k w2v w3k w3v w4k w4v) p1 p2 p3).o.b) : Int)) (TTranscript.mk x.1 x.2.1) x.2.2.1 x.2.2.2.1 x.2.2.2.2.1 x.2.2.2.2.2.1 x.2.2.2.2.2.2.1 x.2.2.2.2.2.2.2.1 x.2.2.2.2.2.2.2.2.1 x.2.2.2.2.2.2.2.2.2.1 x.2.2.2.2.2.2.2.2.2.2.1 x.2.2.2.2.2.2.2.2.2.2.2.1 x.2.2.2.2.2.2.2.2.2.2.2.2.1 x.2.2.2.2.2.2.2.2.2.2.2.2.2.1, (fun (p1 : TTranscript) (p2 : Int) (p3 : Int) (c0_0 : Bool) (c0_1 : Int) (c0_2 : Int) (w1 : List TQuestion) (w2k : List ByteArray) (w2v : List Int) (w3k : List ByteArray) (w3v : List (List Int)) (w4k : List ByteArray) (w4v : List Bool) => (((posO (OS.mk c0_0 c0_1 c0_2 w1 w2k w2v w3k w3v w4k w4v) p1 p2 p3).o.c) : Int)) (TTranscript.mk x.1 x.2.1) x.2.2.1 x.2.2.2.1 x.2.2.2.2.1 x.2.2.2.2.2.1 x.2.2.2.2.2.2.1 x.2.2.2.2.2.2.2.1 x.2.2.2.2.2.2.2.2.1 x.2.2.2.2.2.2.2.2.2.1 x.2.2.2.2.2.2.2.2.2.2.1 x.2.2.2.2.2.2.2.2.2.2.2.1 x.2.2.2.2.2.2.2.2.2.2.2.2.1 x.2.2.2.2.2.2.2.2.2.2.2.2.2.1, (fun (p1 : TTranscript) (p2 : Int) (p3 : Int) (c0_0 : Bool) (c0_1 : Int) (c0_2 : Int) (w1 : List TQuestion) (w2k : List ByteArray) (w2v : List Int) (w3k : List ByteArray) (w3v : List (List Int)) (w4k : List ByteArray) (w4v : List Bool) => (((posO (OS.mk c0_0 c0_1 c0_2 w1 w2k w2v w3k w3v w4k w4v) p1 p2 p3).o.q) : List TQuestion)) (TTranscript.mk x.1 x.2.1) x.2.2.1 x.2.2.2.1 x.2.2.2.2.1 x.2.2.2.2.2.1 x.2.2.2.2.2.2.1 x.2.2.2.2.2.2.2.1 x.2.2.2.2.2.2.2.2.1 x.2.2.2.2.2.2.2.2.2.1 x.2.2.2.2.2.2.2.2.2.2.1 x.2.2.2.2.2.2.2.2.2.2.2.1 x.2.2.2.2.2.2.2.2.2.2.2.2.1 x.2.2.2.2.2.2.2.2.2.2.2.2.2.1, (fun (p1 : TTranscript) (p2 : Int) (p3 : Int) (c0_0 : Bool) (c0_1 : Int) (c0_2 : Int) (w1 : List TQuestion) (w2k : List ByteArray) (w2v : List Int) (w3k : List ByteArray) (w3v : List (List Int)) (w4k : List ByteArray) (w4v : List Bool) => (((posO (OS.mk c0_0 c0_1 c0_2 w1 w2k w2v w3k w3v w4k w4v) p1 p2 p3).o.k) : List ByteArray)) (TTranscript.mk x.1 x.2.1) x.2.2.1 x.2.2.2.1 x.2.2.2.2.1 x.2.2.2.2.2.1 x.2.2.2.2.2.2.1 x.2.2.2.2.2.2.2.1 x.2.2.2.2.2.2.2.2.1 x.2.2.2.2.2.2.2.2.2.1 x.2.2.2.2.2.2.2.2.2.2.1 x.2.2.2.2.2.2.2.2.2.2.2.1 x.2.2.2.2.2.2.2.2.2.2.2.2.1 x.2.2.2.2.2.2.2.2.2.2.2.2.2.1, (fun (p1 : TTranscript) (p2 : Int) (p3 : Int) (c0_0 : Bool) (c0_1 : Int) (c0_2 : Int) (w1 : List TQuestion) (w2k : List ByteArray) (w2v : List Int) (w3k : List ByteArray) (w3v : List (List Int)) (w4k : List ByteArray) (w4v : List Bool) => (((posO (OS.mk c0_0 c0_1 c0_2 w1 w2k w2v w3k w3v w4k w4v) p1 p2 p3).o.v) : List Int)) (TTranscript.mk x.1 x.2.1) x.2.2.1 x.2.2.2.1 x.2.2.2.2.1 x.2.2.2.2.2.1 x.2.2.2.2.2.2.1 x.2.2.2.2.2.2.2.1 x.2.2.2.2.2.2.2.2.1 x.2.2.2.2.2.2.2.2.2.1 x.2.2.2.2.2.2.2.2.2.2.1 x.2.2.2.2.2.2.2.2.2.2.2.1 x.2.2.2.2.2.2.2.2.2.2.2.2.1 x.2.2.2.2.2.2.2.2.2.2.2.2.2.1, (fun (p1 : TTranscript) (p2 : Int) (p3 : Int) (c0_0 : Bool) (c0_1 : Int) (c0_2 : Int) (w1 : List TQuestion) (w2k : List ByteArray) (w2v : List Int) (w3k : List ByteArray) (w3v : List (List Int)) (w4k : List ByteArray) (w4v : List Bool) => (((posO (OS.mk c0_0 c0_1 c0_2 w1 w2k w2v w3k w3v w4k w4v) p1 p2 p3).o.s) : List ByteArray)) (TTranscript.mk x.1 x.2.1) x.2.2.1 x.2.2.2.1 x.2.2.2.2.1 x.2.2.2.2.2.1 x.2.2.2.2.2.2.1 x.2.2.2.2.2.2.2.1 x.2.2.2.2.2.2.2.2.1 x.2.2.2.2.2.2.2.2.2.1 x.2.2.2.2.2.2.2.2.2.2.1 x.2.2.2.2.2.2.2.2.2.2.2.1 x.2.2.2.2.2.2.2.2.2.2.2.2.1 x.2.2.2.2.2.2.2.2.2.2.2.2.2.1, (fun (p1 : TTranscript) (p2 : Int) (p3 : Int) (c0_0 : Bool) (c0_1 : Int) (c0_2 : Int) (w1 : List TQuestion) (w2k : List ByteArray) (w2v : List Int) (w3k : List ByteArray) (w3v : List (List Int)) (w4k : List ByteArray) (w4v : List Bool) => (((posO (OS.mk c0_0 c0_1 c0_2 w1 w2k w2v w3k w3v w4k w4v) p1 p2 p3).o.t) : List (List Int))) (TTranscript.mk x.1 x.2.1) x.2.2.1 x.2.2.2.1 x.2.2.2.2.1 x.2.2.2.2.2.1 x.2.2.2.2.2.2.1 x.2.2.2.2.2.2.2.1 x.2.2.2.2.2.2.2.2.1 x.2.2.2.2.2.2.2.2.2.1 x.2.2.2.2.2.2.2.2.2.2.1 x.2.2.2.2.2.2.2.2.2.2.2.1 x.2.2.2.2.2.2.2.2.2.2.2.2.1 x.2.2.2.2.2.2.2.2.2.2.2.2.2.1, (fun (p1 : TTranscript) (p2 : Int) (p3 : Int) (c0_0 : Bool) (c0_1 : Int) (c0_2 : Int) (w1 : List TQuestion) (w2k : List ByteArray) (w2v : List Int) (w3k : List ByteArray) (w3v : List (List Int)) (w4k : List ByteArray) (w4v : List Bool) => (((posO (OS.mk c0_0 c0_1 c0_2 w1 w2k w2v w3k w3v w4k w4v) p1 p2 p3).o.x) : List ByteArray)) (TTranscript.mk x.1 x.2.1) x.2.2.1 x.2.2.2.1 x.2.2.2.2.1 x.2.2.2.2.2.1 x.2.2.2.2.2.2.1 x.2.2.2.2.2.2.2.1 x.2.2.2.2.2.2.2.2.1 x.2.2.2.2.2.2.2.2.2.1 x.2.2.2.2.2.2.2.2.2.2.1 x.2.2.2.2.2.2.2.2.2.2.2.1 x.2.2.2.2.2.2.2.2.2.2.2.2.1 x.2.2.2.2.2.2.2.2.2.2.2.2.2.1, (fun (p1 : TTranscript) (p2 : Int) (p3 : Int) (c0_0 : Bool) (c0_1 : Int) (c0_2 : Int) (w1 : List TQuestion) (w2k : List ByteArray) (w2v : List Int) (w3k : List ByteArray) (w3v : List (List Int)) (w4k : List ByteArray) (w4v : List Bool) => (((posO (OS.mk c0_0 c0_1 c0_2 w1 w2k w2v w3k w3v w4k w4v) p1 p2 p3).o.y) : List Bool)) (TTranscript.mk x.1 x.2.1) x.2.2.1 x.2.2.2.1 x.2.2.2.2.1 x.2.2.2.2.2.1 x.2.2.2.2.2.2.1 x.2.2.2.2.2.2.2.1 x.2.2.2.2.2.2.2.2.1 x.2.2.2.2.2.2.2.2.2.1 x.2.2.2.2.2.2.2.2.2.2.1 x.2.2.2.2.2.2.2.2.2.2.2.1 x.2.2.2.2.2.2.2.2.2.2.2.2.1 x.2.2.2.2.2.2.2.2.2.2.2.2.2.1, ())
theorem ku3 : khv.Ok Try.prog TB := Con.ok_fn ky bd26 fun x h => kt9 (ksb (TTranscript.mk x.1 x.2.1) x.2.2.1 x.2.2.2.1 x.2.2.2.2.1 x.2.2.2.2.2.1 x.2.2.2.2.2.2.1 x.2.2.2.2.2.2.2.1 x.2.2.2.2.2.2.2.2.1 x.2.2.2.2.2.2.2.2.2.1 x.2.2.2.2.2.2.2.2.2.2.1 x.2.2.2.2.2.2.2.2.2.2.2.1 x.2.2.2.2.2.2.2.2.2.2.2.2.1 x.2.2.2.2.2.2.2.2.2.2.2.2.2.1 h)
end Go.Proofs.Ytponaobpcdkggaa
namespace Go.Proofs.Ytponaobpcdkggaa
open Go Go.Bv Go.Cv Go.Md Go.RowKit
def k57 : Con TB.den := Con.mk0 10 [] [] (.one (.one (.d (.bool)))) []
abbrev k14q := HL TB.den (hsT k57.ins (hsOs k57.pre))
abbrev ks3 := HL TB.den (hsV k57.res (hsOs k57.post))
noncomputable def kjw : Cx TB := ⟨inf, [kc5, ke4, k6x, khv, kuk, k12d], [], 4, []⟩
noncomputable def kri : Code := Try.f10.body.getD .skip
noncomputable def kul : List ResultVar := Try.f10.results.toList
noncomputable def k12p (o : ks3) : An TB := .no
noncomputable def krg (x : k14q) (o : ks3) : Prop := WPh TB kjw 49 0 kri (k12p o) (k57.st TB x) (retTQ TB kjw k57 kul o)
set_option maxRecDepth 100000 in
theorem k1br (o : ks3) : OblH TB kjw 49 0 kri (k12p o) (retTQ TB kjw k57 kul o) :=
  OblH.of_eq (X := (True ∧ (True ∧ ((True ∧ ((True ∧ True) ∧ True)) ∧ (True ∧ (True ∧ (True ∧ (True ∧ True)))))))) (by kernel_rfl) ⟨trivial, ⟨trivial, ⟨⟨trivial, ⟨⟨trivial, trivial⟩, trivial⟩⟩, ⟨trivial, ⟨trivial, ⟨trivial, ⟨trivial, trivial⟩⟩⟩⟩⟩⟩⟩
set_option maxRecDepth 100000 in
theorem k1cd {x : k14q} {o : ks3} (h : krg x o) : SoundH Try.prog k57.f ((k57.args idf x).map (er TB)) ((k57.obs idf x).map (erO TB)) (er TB (k57.val idf o)) ((k57.ops idf o).map (erO TB)) :=
  Con.soundH (c := k57) (C := kjw) TBok ⟨inf_ok, (all_cons khd (all_cons km1 (all_cons k95 (all_cons ku3 (all_cons k151 (all_cons k1fj all_nil)))))), all_nil⟩ mix Try.func10 (show Try.f10.body = some kri by kernel_rfl) (show Try.f10.ntmps = 49 by kernel_rfl) (show Try.f10.results.toList = kul by kernel_rfl) rfl h (k1br o)
set_option maxRecDepth 100000 in
theorem k1dh  {r0 : Bool} (h :
((([] : List TQuestion) = ([] : List TQuestion)) ∧ ((U64 (TTranscript.mk (5 : Int) 0).State ∧ U64 (TTranscript.mk (5 : Int) 0).Count) ∧ OOk (OS.mk false (0 : Int) (0 : Int) ([] : List TQuestion) [] [] [] [] [] [])) ∧ let r1 : Int := ((chO (OS.mk false (0 : Int) (0 : Int) ([] : List TQuestion) [] [] [] [] [] []) (TTranscript.mk (5 : Int) 0) (18446744069414584321 : Int)).n)
 let r2 : Int := ((chO (OS.mk false (0 : Int) (0 : Int) ([] : List TQuestion) [] [] [] [] [] []) (TTranscript.mk (5 : Int) 0) (18446744069414584321 : Int)).t).State
 let r3 : Int := ((chO (OS.mk false (0 : Int) (0 : Int) ([] : List TQuestion) [] [] [] [] [] []) (TTranscript.mk (5 : Int) 0) (18446744069414584321 : Int)).t).Count
 let r4 : Bool := ((chO (OS.mk false (0 : Int) (0 : Int) ([] : List TQuestion) [] [] [] [] [] []) (TTranscript.mk (5 : Int) 0) (18446744069414584321 : Int)).o.a)
 let r5 : Int := ((chO (OS.mk false (0 : Int) (0 : Int) ([] : List TQuestion) [] [] [] [] [] []) (TTranscript.mk (5 : Int) 0) (18446744069414584321 : Int)).o.b)
 let r6 : Int := ((chO (OS.mk false (0 : Int) (0 : Int) ([] : List TQuestion) [] [] [] [] [] []) (TTranscript.mk (5 : Int) 0) (18446744069414584321 : Int)).o.c)
 let r7 : List TQuestion := ((chO (OS.mk false (0 : Int) (0 : Int) ([] : List TQuestion) [] [] [] [] [] []) (TTranscript.mk (5 : Int) 0) (18446744069414584321 : Int)).o.q)
 let r8 : List ByteArray := ((chO (OS.mk false (0 : Int) (0 : Int) ([] : List TQuestion) [] [] [] [] [] []) (TTranscript.mk (5 : Int) 0) (18446744069414584321 : Int)).o.k)
 let r9 : List Int := ((chO (OS.mk false (0 : Int) (0 : Int) ([] : List TQuestion) [] [] [] [] [] []) (TTranscript.mk (5 : Int) 0) (18446744069414584321 : Int)).o.v)
 let r10 : List ByteArray := ((chO (OS.mk false (0 : Int) (0 : Int) ([] : List TQuestion) [] [] [] [] [] []) (TTranscript.mk (5 : Int) 0) (18446744069414584321 : Int)).o.s)
 let r11 : List (List Int) := ((chO (OS.mk false (0 : Int) (0 : Int) ([] : List TQuestion) [] [] [] [] [] []) (TTranscript.mk (5 : Int) 0) (18446744069414584321 : Int)).o.t)
 let r12 : List ByteArray := ((chO (OS.mk false (0 : Int) (0 : Int) ([] : List TQuestion) [] [] [] [] [] []) (TTranscript.mk (5 : Int) 0) (18446744069414584321 : Int)).o.x)
 let r13 : List Bool := ((chO (OS.mk false (0 : Int) (0 : Int) ([] : List TQuestion) [] [] [] [] [] []) (TTranscript.mk (5 : Int) 0) (18446744069414584321 : Int)).o.y)
(r7 = r7) ∧ ((U64 (TTranscript.mk r2 r3).State ∧ U64 (TTranscript.mk r2 r3).Count) ∧ OOk (OS.mk r4 r5 r6 r7 r8 r9 r10 r11 r12 r13)) ∧ let r14 : Int := ((chO (OS.mk r4 r5 r6 r7 r8 r9 r10 r11 r12 r13) (TTranscript.mk r2 r3) (97 : Int)).n)
 let r15 : Int := ((chO (OS.mk r4 r5 r6 r7 r8 r9 r10 r11 r12 r13) (TTranscript.mk r2 r3) (97 : Int)).t).State
 let r16 : Int := ((chO (OS.mk r4 r5 r6 r7 r8 r9 r10 r11 r12 r13) (TTranscript.mk r2 r3) (97 : Int)).t).Count
 let r17 : Bool := ((chO (OS.mk r4 r5 r6 r7 r8 r9 r10 r11 r12 r13) (TTranscript.mk r2 r3) (97 : Int)).o.a)
 let r18 : Int := ((chO (OS.mk r4 r5 r6 r7 r8 r9 r10 r11 r12 r13) (TTranscript.mk r2 r3) (97 : Int)).o.b)
 let r19 : Int := ((chO (OS.mk r4 r5 r6 r7 r8 r9 r10 r11 r12 r13) (TTranscript.mk r2 r3) (97 : Int)).o.c)
 let r20 : List TQuestion := ((chO (OS.mk r4 r5 r6 r7 r8 r9 r10 r11 r12 r13) (TTranscript.mk r2 r3) (97 : Int)).o.q)
 let r21 : List ByteArray := ((chO (OS.mk r4 r5 r6 r7 r8 r9 r10 r11 r12 r13) (TTranscript.mk r2 r3) (97 : Int)).o.k)
 let r22 : List Int := ((chO (OS.mk r4 r5 r6 r7 r8 r9 r10 r11 r12 r13) (TTranscript.mk r2 r3) (97 : Int)).o.v)
 let r23 : List ByteArray := ((chO (OS.mk r4 r5 r6 r7 r8 r9 r10 r11 r12 r13) (TTranscript.mk r2 r3) (97 : Int)).o.s)
 let r24 : List (List Int) := ((chO (OS.mk r4 r5 r6 r7 r8 r9 r10 r11 r12 r13) (TTranscript.mk r2 r3) (97 : Int)).o.t)
 let r25 : List ByteArray := ((chO (OS.mk r4 r5 r6 r7 r8 r9 r10 r11 r12 r13) (TTranscript.mk r2 r3) (97 : Int)).o.x)
 let r26 : List Bool := ((chO (OS.mk r4 r5 r6 r7 r8 r9 r10 r11 r12 r13) (TTranscript.mk r2 r3) (97 : Int)).o.y)
(r20 = r20) ∧ ((U64 (TTranscript.mk r15 r16).State ∧ U64 (TTranscript.mk r15 r16).Count) ∧ (OOk (OS.mk r17 r18 r19 r20 r21 r22 r23 r24 r25 r26) ∧ r20.length ≤ 900000) ∧ (4 : Int) ≤ 12) ∧ let r27 : List Int := ((posO (OS.mk r17 r18 r19 r20 r21 r22 r23 r24 r25 r26) (TTranscript.mk r15 r16) (4 : Int) (4 : Int)).g)
 let r28 : Int := ((posO (OS.mk r17 r18 r19 r20 r21 r22 r23 r24 r25 r26) (TTranscript.mk r15 r16) (4 : Int) (4 : Int)).t).State
 let r29 : Int := ((posO (OS.mk r17 r18 r19 r20 r21 r22 r23 r24 r25 r26) (TTranscript.mk r15 r16) (4 : Int) (4 : Int)).t).Count
 let r30 : Bool := ((posO (OS.mk r17 r18 r19 r20 r21 r22 r23 r24 r25 r26) (TTranscript.mk r15 r16) (4 : Int) (4 : Int)).o.a)
 let r31 : Int := ((posO (OS.mk r17 r18 r19 r20 r21 r22 r23 r24 r25 r26) (TTranscript.mk r15 r16) (4 : Int) (4 : Int)).o.b)
 let r32 : Int := ((posO (OS.mk r17 r18 r19 r20 r21 r22 r23 r24 r25 r26) (TTranscript.mk r15 r16) (4 : Int) (4 : Int)).o.c)
 let r33 : List TQuestion := ((posO (OS.mk r17 r18 r19 r20 r21 r22 r23 r24 r25 r26) (TTranscript.mk r15 r16) (4 : Int) (4 : Int)).o.q)
 let r34 : List ByteArray := ((posO (OS.mk r17 r18 r19 r20 r21 r22 r23 r24 r25 r26) (TTranscript.mk r15 r16) (4 : Int) (4 : Int)).o.k)
 let r35 : List Int := ((posO (OS.mk r17 r18 r19 r20 r21 r22 r23 r24 r25 r26) (TTranscript.mk r15 r16) (4 : Int) (4 : Int)).o.v)
 let r36 : List ByteArray := ((posO (OS.mk r17 r18 r19 r20 r21 r22 r23 r24 r25 r26) (TTranscript.mk r15 r16) (4 : Int) (4 : Int)).o.s)
 let r37 : List (List Int) := ((posO (OS.mk r17 r18 r19 r20 r21 r22 r23 r24 r25 r26) (TTranscript.mk r15 r16) (4 : Int) (4 : Int)).o.t)
 let r38 : List ByteArray := ((posO (OS.mk r17 r18 r19 r20 r21 r22 r23 r24 r25 r26) (TTranscript.mk r15 r16) (4 : Int) (4 : Int)).o.x)
 let r39 : List Bool := ((posO (OS.mk r17 r18 r19 r20 r21 r22 r23 r24 r25 r26) (TTranscript.mk r15 r16) (4 : Int) (4 : Int)).o.y)
((18446744069414584321 : Int) = 18446744069414584321 ∧ U64 (19 : Int) ∧ Us [5, 0] ∧ [5, 0].length ≤ 1099511627776) ∧ ((r1 == (hashS (19 : Int) [5, 0])) = true →
((18446744069414584321 : Int) = 18446744069414584321 ∧ U64 (19 : Int) ∧ Us [5, 1] ∧ [5, 1].length ≤ 1099511627776) ∧ let v40 : Bool := (r14 == (Int.tmod (hashS (19 : Int) [5, 1]) 97))
(v40 = true →
(((r15 == 5) && ((r16 == 2) && true)) = true →
(r27.length ≤ 9223372036854775807) ∧ (decide (r27 = [0, 1, 2, 3])) = r0) ∧
(((r15 == 5) && ((r16 == 2) && true)) = false →
 false = r0)) ∧
(v40 = false →
 false = r0)) ∧
((r1 == (hashS (19 : Int) [5, 0])) = false →
 false = r0))) : krg (()) (r0, ()) := WPh.of_eq (by kernel_rfl) h
theorem bd10 : Callable Try.prog 10 := ⟨by rw [Try.func10]; kernel_rfl, by rw [Try.func10]; show some _ ≠ some _; decide⟩
theorem k19n : krg (()) ((true : Bool), ()) := by
  have z : RR (OS.mk false 0 0 [] [] [] [] [] [] []) := RR.z
  have zo : OOk (OS.mk false 0 0 [] [] [] [] [] [] []) := OOk.z false 0
  obtain ⟨a1, a2, _, a4⟩ := z.ch (t := ⟨5, 0⟩) (p := 18446744069414584321) (by decide) (by decide) (by decide)
  have b1 := zo.ch ⟨5, 0⟩ 18446744069414584321 (by decide)
  refine k1dh ⟨rfl, ⟨⟨by decide, by decide⟩, zo⟩, ?_⟩
  dsimp only
  generalize chO (OS.mk false 0 0 [] [] [] [] [] [] []) ⟨5, 0⟩ 18446744069414584321 = c1 at *
  simp only [OS_eta, k17w]
  have e2 : c1.t = ⟨5, 1⟩ := a2
  rw [e2]
  have b2 : c1.o.q.length ≤ 1 := b1.2.1
  obtain ⟨d1, d2, _, d4⟩ := a4.ch (t := ⟨5, 1⟩) (p := 97) (by decide) (by decide) (by decide)
  have f1 := b1.1.ch ⟨5, 1⟩ 97 (by omega)
  refine ⟨(by first | exact rfl | exact True.intro), ⟨⟨by decide, by decide⟩, b1.1⟩, ?_⟩
  generalize chO c1.o ⟨5, 1⟩ 97 = c2 at *
  have e3 : c2.t = ⟨5, 2⟩ := d2
  rw [e3]
  have f2 : c2.o.q.length ≤ c1.o.q.length + 1 := f1.2.1
  refine ⟨(by first | exact rfl | exact True.intro), ⟨⟨by decide, by decide⟩, ⟨f1.1, by omega⟩, by decide⟩, ?_⟩
  have hp := k1jt f1.1 ⟨5, 2⟩ (n := 4) (by decide) (by omega)
  have h5 : valH 19 [5, 0] = hashS 19 [5, 0] := rfl
  have h6 : valH 19 [5, 1] = hashS 19 [5, 1] := rfl
  have g5 : Int.tmod (hashS 19 [5, 0]) 18446744069414584321 = hashS 19 [5, 0] := by
    have := k12t 19 [5, 0]
    have := k15z 19 [5, 0]
    rw [tmod_nn _ _ (by omega)]
    omega
  rw [hp, a1, d1, h5, h6, g5]
  refine ⟨⟨(by first | exact rfl | exact True.intro), by decide, (by intro x hx; simp at hx; omega), by decide⟩, fun _ => ⟨⟨(by first | exact rfl | exact True.intro), by decide, (by intro x hx; simp at hx; omega), by decide⟩, fun _ => ⟨fun _ => ⟨by decide, by decide⟩, fun h => by simp at h⟩, fun h => by simp at h⟩, fun h => by simp at h⟩
noncomputable def kn8 : Con TB.den := k57.totR fun x => ((true : Bool), ())
theorem kum : kn8.Ok Try.prog TB := Con.ok_tot k57 bd10 fun x => k1cd (k19n )
end Go.Proofs.Ytponaobpcdkggaa
namespace Go.Proofs.Ytponaobpcdkggaa
open Go Go.Bv Go.Cv Go.Md Go.RowKit
def k1y : Con TB.den := Con.mk0 13 [.one (.ptr 0 0), .agg [.d (.int .u64), .d (.int .u64)], .one (.d (.int .u64)), .one (.d (.sl (.int .u64)))] [.cells [.d (.bool), .d (.int .u64), .d (.int .i64), .own 1, .mp 2, .mp 3, .mp 4], .tip (.st 1), .map (.str) (.int .i64), .map (.str) (.sl (.int .u64)), .map (.str) (.bool)] (.one (.agg [.d (.int .u64), .d (.int .u64)])) [.cells [.d (.bool), .d (.int .u64), .d (.int .i64), .own 1, .mp 2, .mp 3, .mp 4], .tip (.st 1), .map (.str) (.int .i64), .map (.str) (.sl (.int .u64)), .map (.str) (.bool)]
abbrev ko2 := HL TB.den (hsT k1y.ins (hsOs k1y.pre))
abbrev kbb := HL TB.den (hsV k1y.res (hsOs k1y.post))
noncomputable def k8i : Cx TB := ⟨inf, [klw], [], 4, []⟩
noncomputable def kcv : Code := Try.f13.body.getD .skip
noncomputable def kej : List ResultVar := Try.f13.results.toList
noncomputable def kmc (o : kbb) : An TB := .no
noncomputable def kcx (x : ko2) (o : kbb) : Prop := WPh TB k8i 20 5 kcv (kmc o) (k1y.st TB x) (retTQ TB k8i k1y kej o)
set_option maxRecDepth 100000 in
theorem kwl (o : kbb) : OblH TB k8i 20 5 kcv (kmc o) (retTQ TB k8i k1y kej o) :=
  OblH.of_eq (X := (True ∧ (True ∧ (True ∧ True)))) (by kernel_rfl) ⟨trivial, ⟨trivial, ⟨trivial, trivial⟩⟩⟩
set_option maxRecDepth 100000 in
theorem kw9 {x : ko2} {o : kbb} (h : kcx x o) : SoundH Try.prog k1y.f ((k1y.args idf x).map (er TB)) ((k1y.obs idf x).map (erO TB)) (er TB (k1y.val idf o)) ((k1y.ops idf o).map (erO TB)) :=
  Con.soundH (c := k1y) (C := k8i) TBok ⟨inf_ok, (all_cons kvc all_nil), all_nil⟩ mix Try.func13 (show Try.f13.body = some kcv by kernel_rfl) (show Try.f13.ntmps = 20 by kernel_rfl) (show Try.f13.results.toList = kej by kernel_rfl) rfl h (kwl o)
set_option maxRecDepth 100000 in
theorem kxx {p1 : TTranscript} {p2 : Int} {p3 : List Int} {c0_0 : Bool} {c0_1 : Int} {c0_2 : Int} {w1 : List TQuestion} {w2k : List ByteArray} {w2v : List Int} {w3k : List ByteArray} {w3v : List (List Int)} {w4k : List ByteArray} {w4v : List Bool} {r0 : TTranscript} {d0_0 : Bool} {d0_1 : Int} {d0_2 : Int} {e1 : List TQuestion} {e2k : List ByteArray} {e2v : List Int} {e3k : List ByteArray} {e3v : List (List Int)} {e4k : List ByteArray} {e4v : List Bool} (h :
(([p1.State, p2].length + p3.length) * 8 ≤ 140737488355328 ∧ [p1.State, p2].length + p3.length ≤ maxLen ∧ (w1 = w1) ∧ (U64 (18 : Int) ∧ (Us ([p1.State, p2] ++ p3) ∧ ([p1.State, p2] ++ p3).length ≤ 1000000000) ∧ OOk (OS.mk c0_0 c0_1 c0_2 w1 w2k w2v w3k w3v w4k w4v)) ∧ let r1 : Int := ((hO (OS.mk c0_0 c0_1 c0_2 w1 w2k w2v w3k w3v w4k w4v) (18 : Int) ([p1.State, p2] ++ p3)).n)
 let r2 : Bool := ((hO (OS.mk c0_0 c0_1 c0_2 w1 w2k w2v w3k w3v w4k w4v) (18 : Int) ([p1.State, p2] ++ p3)).o.a)
 let r3 : Int := ((hO (OS.mk c0_0 c0_1 c0_2 w1 w2k w2v w3k w3v w4k w4v) (18 : Int) ([p1.State, p2] ++ p3)).o.b)
 let r4 : Int := ((hO (OS.mk c0_0 c0_1 c0_2 w1 w2k w2v w3k w3v w4k w4v) (18 : Int) ([p1.State, p2] ++ p3)).o.c)
 let r5 : List TQuestion := ((hO (OS.mk c0_0 c0_1 c0_2 w1 w2k w2v w3k w3v w4k w4v) (18 : Int) ([p1.State, p2] ++ p3)).o.q)
 let r6 : List ByteArray := ((hO (OS.mk c0_0 c0_1 c0_2 w1 w2k w2v w3k w3v w4k w4v) (18 : Int) ([p1.State, p2] ++ p3)).o.k)
 let r7 : List Int := ((hO (OS.mk c0_0 c0_1 c0_2 w1 w2k w2v w3k w3v w4k w4v) (18 : Int) ([p1.State, p2] ++ p3)).o.v)
 let r8 : List ByteArray := ((hO (OS.mk c0_0 c0_1 c0_2 w1 w2k w2v w3k w3v w4k w4v) (18 : Int) ([p1.State, p2] ++ p3)).o.s)
 let r9 : List (List Int) := ((hO (OS.mk c0_0 c0_1 c0_2 w1 w2k w2v w3k w3v w4k w4v) (18 : Int) ([p1.State, p2] ++ p3)).o.t)
 let r10 : List ByteArray := ((hO (OS.mk c0_0 c0_1 c0_2 w1 w2k w2v w3k w3v w4k w4v) (18 : Int) ([p1.State, p2] ++ p3)).o.x)
 let r11 : List Bool := ((hO (OS.mk c0_0 c0_1 c0_2 w1 w2k w2v w3k w3v w4k w4v) (18 : Int) ([p1.State, p2] ++ p3)).o.y)
(r5 = r5) ∧ r1 = r0.State ∧ 0 = r0.Count ∧ r2 = d0_0 ∧ r3 = d0_1 ∧ r4 = d0_2 ∧ r5 = e1 ∧ r6 = e2k ∧ r7 = e2v ∧ r8 = e3k ∧ r9 = e3v ∧ r10 = e4k ∧ r11 = e4v)) : kcx (p1.State, p1.Count, p2, p3, c0_0, c0_1, c0_2, w1, w2k, w2v, w3k, w3v, w4k, w4v, ()) (r0.State, r0.Count, d0_0, d0_1, d0_2, e1, e2k, e2v, e3k, e3v, e4k, e4v, ()) := WPh.of_eq (by kernel_rfl) h
theorem bd13 : Callable Try.prog 13 := ⟨by rw [Try.func13]; kernel_rfl, by rw [Try.func13]; show some _ ≠ some _; decide⟩
theorem kw4 (p1 : TTranscript) (p2 : Int) (p3 : List Int) (c0_0 : Bool) (c0_1 : Int) (c0_2 : Int) (w1 : List TQuestion) (w2k : List ByteArray) (w2v : List Int) (w3k : List ByteArray) (w3v : List (List Int)) (w4k : List ByteArray) (w4v : List Bool) (h : U64 p1.State ∧ U64 p2 ∧ (Us p3 ∧ p3.length ≤ 999999990) ∧ OOk (OS.mk c0_0 c0_1 c0_2 w1 w2k w2v w3k w3v w4k w4v)) : kcx (p1.State, p1.Count, p2, p3, c0_0, c0_1, c0_2, w1, w2k, w2v, w3k, w3v, w4k, w4v, ()) ((((abO (OS.mk c0_0 c0_1 c0_2 w1 w2k w2v w3k w3v w4k w4v) p1 p2 p3).t).State : Int), (((abO (OS.mk c0_0 c0_1 c0_2 w1 w2k w2v w3k w3v w4k w4v) p1 p2 p3).t).Count : Int), (((abO (OS.mk c0_0 c0_1 c0_2 w1 w2k w2v w3k w3v w4k w4v) p1 p2 p3).o.a) : Bool), (((abO (OS.mk c0_0 c0_1 c0_2 w1 w2k w2v w3k w3v w4k w4v) p1 p2 p3).o.b) : Int), (((abO (OS.mk c0_0 c0_1 c0_2 w1 w2k w2v w3k w3v w4k w4v) p1 p2 p3).o.c) : Int), (((abO (OS.mk c0_0 c0_1 c0_2 w1 w2k w2v w3k w3v w4k w4v) p1 p2 p3).o.q) : List TQuestion), (((abO (OS.mk c0_0 c0_1 c0_2 w1 w2k w2v w3k w3v w4k w4v) p1 p2 p3).o.k) : List ByteArray), (((abO (OS.mk c0_0 c0_1 c0_2 w1 w2k w2v w3k w3v w4k w4v) p1 p2 p3).o.v) : List Int), (((abO (OS.mk c0_0 c0_1 c0_2 w1 w2k w2v w3k w3v w4k w4v) p1 p2 p3).o.s) : List ByteArray), (((abO (OS.mk c0_0 c0_1 c0_2 w1 w2k w2v w3k w3v w4k w4v) p1 p2 p3).o.t) : List (List Int)), (((abO (OS.mk c0_0 c0_1 c0_2 w1 w2k w2v w3k w3v w4k w4v) p1 p2 p3).o.x) : List ByteArray), (((abO (OS.mk c0_0 c0_1 c0_2 w1 w2k w2v w3k w3v w4k w4v) p1 p2 p3).o.y) : List Bool), ()) := by
  obtain ⟨h1, h2, ⟨h3, h4⟩, h5⟩ := h
  refine kxx (r0 := (abO (OS.mk c0_0 c0_1 c0_2 w1 w2k w2v w3k w3v w4k w4v) p1 p2 p3).t) ⟨by simp; omega, by simp; unfold maxLen; omega, rfl, ⟨by decide, ⟨fun x hx => ?_, by simp; omega⟩, h5⟩, rfl, rfl, rfl, rfl, rfl, rfl, rfl, rfl, rfl, rfl, rfl, rfl, rfl⟩
  rcases List.mem_append.1 hx with hx | hx
  · rcases List.mem_cons.1 hx with rfl | hx
    · exact h1
    · rw [List.mem_singleton.1 hx]; exact h2
  · exact h3 x hx
noncomputable def kdt : Con TB.den := k1y.fnR (fun x => (fun (p1 : TTranscript) (p2 : Int) (p3 : List Int) (c0_0 : Bool) (c0_1 : Int) (c0_2 : Int) (w1 : List TQuestion) (w2k : List ByteArray) (w2v : List Int) (w3k : List ByteArray) (w3v : List (List Int)) (w4k : List ByteArray) (w4v : List Bool) => U64 p1.State ∧ U64 p2 ∧ (Us p3 ∧ p3.length ≤ 999999990) ∧ OOk (OS.mk c0_0 c0_1 c0_2 w1 w2k w2v w3k w3v w4k w4v)) (TTranscript.mk x.1 x.2.1) x.2.2.1 x.2.2.2.1 x.2.2.2.2.1 x.2.2.2.2.2.1 x.2.2.2.2.2.2.1 x.2.2.2.2.2.2.2.1 x.2.2.2.2.2.2.2.2.1 x.2.2.2.2.2.2.2.2.2.1 x.2.2.2.2.2.2.2.2.2.2.1 x.2.2.2.2.2.2.2.2.2.2.2.1 x.2.2.2.2.2.2.2.2.2.2.2.2.1 x.2.2.2.2.2.2.2.2.2.2.2.2.2.1) fun x => ((fun (p1 : TTranscript) (p2 : Int) (p3 : List Int) (c0_0 : Bool) (c0_1 : Int) (c0_2 : Int) (w1 : List TQuestion) (w2k : List ByteArray) (w2v : List Int) (w3k : List ByteArray) (w3v : List (List Int)) (w4k : List ByteArray) (w4v : List Bool) => (((abO (OS.mk c0_0 c0_1 c0_2 w1 w2k w2v w3k w3v w4k w4v) p1 p2 p3).t).State : Int)) (TTranscript.mk x.1 x.2.1) x.2.2.1 x.2.2.2.1 x.2.2.2.2.1 x.2.2.2.2.2.1 x.2.2.2.2.2.2.1 x.2.2.2.2.2.2.2.1 x.2.2.2.2.2.2.2.2.1 x.2.2.2.2.2.2.2.2.2.1 x.2.2.2.2.2.2.2.2.2.2.1 x.2.2.2.2.2.2.2.2.2.2.2.1 x.2.2.2.2.2.2.2.2.2.2.2.2.1 x.2.2.2.2.2.2.2.2.2.2.2.2.2.1, (fun (p1 : TTranscript) (p2 : Int) (p3 : List Int) (c0_0 : Bool) (c0_1 : Int) (c0_2 : Int) (w1 : List TQuestion) (w2k : List ByteArray) (w2v : List Int) (w3k : List ByteArray) (w3v : List (List Int)) (w4k : List ByteArray) (w4v : List Bool) => (((abO (OS.mk c0_0 c0_1 c0_2 w1 w2k w2v w3k w3v w4k w4v) p1 p2 p3).t).Count : Int)) (TTranscript.mk x.1 x.2.1) x.2.2.1 x.2.2.2.1 x.2.2.2.2.1 x.2.2.2.2.2.1 x.2.2.2.2.2.2.1 x.2.2.2.2.2.2.2.1 x.2.2.2.2.2.2.2.2.1 x.2.2.2.2.2.2.2.2.2.1 x.2.2.2.2.2.2.2.2.2.2.1 x.2.2.2.2.2.2.2.2.2.2.2.1 x.2.2.2.2.2.2.2.2.2.2.2.2.1 x.2.2.2.2.2.2.2.2.2.2.2.2.2.1, (fun (p1 : TTranscript) (p2 : Int) (p3 : List Int) (c0_0 : Bool) (c0_1 : Int) (c0_2 : Int) (w1 : List TQuestion) (w2k : List ByteArray) (w2v : List Int) (w3k : List ByteArray) (w3v : List (List Int)) (w4k : List ByteArray) (w4v : List Bool) => (((abO (OS.mk c0_0 c0_1 c0_2 w1 w2k w2v w3k w3v w4k w4v) p1 p2 p3).o.a) : Bool)) (TTranscript.mk x.1 x.2.1) x.2.2.1 x.2.2.2.1 x.2.2.2.2.1 x.2.2.2.2.2.1 x.2.2.2.2.2.2.1 x.2.2.2.2.2.2.2.1 x.2.2.2.2.2.2.2.2.1 x.2.2.2.2.2.2.2.2.2.1 x.2.2.2.2.2.2.2.2.2.2.1 x.2.2.2.2.2.2.2.2.2.2.2.1 x.2.2.2.2.2.2.2.2.2.2.2.2.1 x.2.2.2.2.2.2.2.2.2.2.2.2.2.1, (fun (p1 : TTranscript) (p2 : Int) (p3 : List Int) (c0_0 : Bool) (c0_1 : Int) (c0_2 : Int) (w1 : List TQuestion) (w2k : List ByteArray) (w2v : List Int) (w3k : List ByteArray) (w3v : List (List Int)) (w4k : List ByteArray) (w4v : List Bool) => (((abO (OS.mk c0_0 c0_1 c0_2 w1 w2k w2v w3k w3v w4k w4v) p1 p2 p3).o.b) : Int)) (TTranscript.mk x.1 x.2.1) x.2.2.1 x.2.2.2.1 x.2.2.2.2.1 x.2.2.2.2.2.1 x.2.2.2.2.2.2.1 x.2.2.2.2.2.2.2.1 x.2.2.2.2.2.2.2.2.1 x.2.2.2.2.2.2.2.2.2.1 x.2.2.2.2.2.2.2.2.2.2.1 x.2.2.2.2.2.2.2.2.2.2.2.1 x.2.2.2.2.2.2.2.2.2.2.2.2.1 x.2.2.2.2.2.2.2.2.2.2.2.2.2.1, (fun (p1 : TTranscript) (p2 : Int) (p3 : List Int) (c0_0 : Bool) (c0_1 : Int) (c0_2 : Int) (w1 : List TQuestion) (w2k : List ByteArray) (w2v : List Int) (w3k : List ByteArray) (w3v : List (List Int)) (w4k : List ByteArray) (w4v : List Bool) => (((abO (OS.mk c0_0 c0_1 c0_2 w1 w2k w2v w3k w3v w4k w4v) p1 p2 p3).o.c) : Int)) (TTranscript.mk x.1 x.2.1) x.2.2.1 x.2.2.2.1 x.2.2.2.2.1 x.2.2.2.2.2.1 x.2.2.2.2.2.2.1 x.2.2.2.2.2.2.2.1 x.2.2.2.2.2.2.2.2.1 x.2.2.2.2.2.2.2.2.2.1 x.2.2.2.2.2.2.2.2.2.2.1 x.2.2.2.2.2.2.2.2.2.2.2.1 x.2.2.2.2.2.2.2.2.2.2.2.2.1 x.2.2.2.2.2.2.2.2.2.2.2.2.2.1, (fun (p1 : TTranscript) (p2 : Int) (p3 : List Int) (c0_0 : Bool) (c0_1 : Int) (c0_2 : Int) (w1 : List TQuestion) (w2k : List ByteArray) (w2v : List Int) (w3k : List ByteArray) (w3v : List (List Int)) (w4k : List ByteArray) (w4v : List Bool) => (((abO (OS.mk c0_0 c0_1 c0_2 w1 w2k w2v w3k w3v w4k w4v) p1 p2 p3).o.q) : List TQuestion)) (TTranscript.mk x.1 x.2.1) x.2.2.1 x.2.2.2.1 x.2.2.2.2.1 x.2.2.2.2.2.1 x.2.2.2.2.2.2.1 x.2.2.2.2.2.2.2.1 x.2.2.2.2.2.2.2.2.1 x.2.2.2.2.2.2.2.2.2.1 x.2.2.2.2.2.2.2.2.2.2.1 x.2.2.2.2.2.2.2.2.2.2.2.1 x.2.2.2.2.2.2.2.2.2.2.2.2.1 x.2.2.2.2.2.2.2.2.2.2.2.2.2.1, (fun (p1 : TTranscript) (p2 : Int) (p3 : List Int) (c0_0 : Bool) (c0_1 : Int) (c0_2 : Int) (w1 : List TQuestion) (w2k : List ByteArray) (w2v : List Int) (w3k : List ByteArray) (w3v : List (List Int)) (w4k : List ByteArray) (w4v : List Bool) => (((abO (OS.mk c0_0 c0_1 c0_2 w1 w2k w2v w3k w3v w4k w4v) p1 p2 p3).o.k) : List ByteArray)) (TTranscript.mk x.1 x.2.1) x.2.2.1 x.2.2.2.1 x.2.2.2.2.1 x.2.2.2.2.2.1 x.2.2.2.2.2.2.1 x.2.2.2.2.2.2.2.1 x.2.2.2.2.2.2.2.2.1 x.2.2.2.2.2.2.2.2.2.1 x.2.2.2.2.2.2.2.2.2.2.1 x.2.2.2.2.2.2.2.2.2.2.2.1 x.2.2.2.2.2.2.2.2.2.2.2.2.1 x.2.2.2.2.2.2.2.2.2.2.2.2.2.1, (fun (p1 : TTranscript) (p2 : Int) (p3 : List Int) (c0_0 : Bool) (c0_1 : Int) (c0_2 : Int) (w1 : List TQuestion) (w2k : List ByteArray) (w2v : List Int) (w3k : List ByteArray) (w3v : List (List Int)) (w4k : List ByteArray) (w4v : List Bool) => (((abO (OS.mk c0_0 c0_1 c0_2 w1 w2k w2v w3k w3v w4k w4v) p1 p2 p3).o.v) : List Int)) (TTranscript.mk x.1 x.2.1) x.2.2.1 x.2.2.2.1 x.2.2.2.2.1 x.2.2.2.2.2.1 x.2.2.2.2.2.2.1 x.2.2.2.2.2.2.2.1 x.2.2.2.2.2.2.2.2.1 x.2.2.2.2.2.2.2.2.2.1 x.2.2.2.2.2.2.2.2.2.2.1 x.2.2.2.2.2.2.2.2.2.2.2.1 x.2.2.2.2.2.2.2.2.2.2.2.2.1 x.2.2.2.2.2.2.2.2.2.2.2.2.2.1, (fun (p1 : TTranscript) (p2 : Int) (p3 : List Int) (c0_0 : Bool) (c0_1 : Int) (c0_2 : Int) (w1 : List TQuestion) (w2k : List ByteArray) (w2v : List Int) (w3k : List ByteArray) (w3v : List (List Int)) (w4k : List ByteArray) (w4v : List Bool) => (((abO (OS.mk c0_0 c0_1 c0_2 w1 w2k w2v w3k w3v w4k w4v) p1 p2 p3).o.s) : List ByteArray)) (TTranscript.mk x.1 x.2.1) x.2.2.1 x.2.2.2.1 x.2.2.2.2.1 x.2.2.2.2.2.1 x.2.2.2.2.2.2.1 x.2.2.2.2.2.2.2.1 x.2.2.2.2.2.2.2.2.1 x.2.2.2.2.2.2.2.2.2.1 x.2.2.2.2.2.2.2.2.2.2.1 x.2.2.2.2.2.2.2.2.2.2.2.1 x.2.2.2.2.2.2.2.2.2.2.2.2.1 x.2.2.2.2.2.2.2.2.2.2.2.2.2.1, (fun (p1 : TTranscript) (p2 : Int) (p3 : List Int) (c0_0 : Bool) (c0_1 : Int) (c0_2 : Int) (w1 : List TQuestion) (w2k : List ByteArray) (w2v : List Int) (w3k : List ByteArray) (w3v : List (List Int)) (w4k : List ByteArray) (w4v : List Bool) => (((abO (OS.mk c0_0 c0_1 c0_2 w1 w2k w2v w3k w3v w4k w4v) p1 p2 p3).o.t) : List (List Int))) (TTranscript.mk x.1 x.2.1) x.2.2.1 x.2.2.2.1 x.2.2.2.2.1 x.2.2.2.2.2.1 x.2.2.2.2.2.2.1 x.2.2.2.2.2.2.2.1 x.2.2.2.2.2.2.2.2.1 x.2.2.2.2.2.2.2.2.2.1 x.2.2.2.2.2.2.2.2.2.2.1 x.2.2.2.2.2.2.2.2.2.2.2.1 x.2.2.2.2.2.2.2.2.2.2.2.2.1 x.2.2.2.2.2.2.2.2.2.2.2.2.2.1, (fun (p1 : TTranscript) (p2 : Int) (p3 : List Int) (c0_0 : Bool) (c0_1 : Int) (c0_2 : Int) (w1 : List TQuestion) (w2k : List ByteArray) (w2v : List Int) (w3k : List ByteArray) (w3v : List (List Int)) (w4k : List ByteArray) (w4v : List Bool) => (((abO (OS.mk c0_0 c0_1 c0_2 w1 w2k w2v w3k w3v w4k w4v) p1 p2 p3).o.x) : List ByteArray)) (TTranscript.mk x.1 x.2.1) x.2.2.1 x.2.2.2.1 x.2.2.2.2.1 x.2.2.2.2.2.1 x.2.2.2.2.2.2.1 x.2.2.2.2.2.2.2.1 x.2.2.2.2.2.2.2.2.1 x.2.2.2.2.2.2.2.2.2.1 x.2.2.2.2.2.2.2.2.2.2.1 x.2.2.2.2.2.2.2.2.2.2.2.1 x.2.2.2.2.2.2.2.2.2.2.2.2.1 x.2.2.2.2.2.2.2.2.2.2.2.2.2.1, (fun (p1 : TTranscript) (p2 : Int) (p3 : List Int) (c0_0 : Bool) (c0_1 : Int) (c0_2 : Int) (w1 : List TQuestion) (w2k : List ByteArray) (w2v : List Int) (w3k : List ByteArray) (w3v : List (List Int)) (w4k : List ByteArray) (w4v : List Bool) => (((abO (OS.mk c0_0 c0_1 c0_2 w1 w2k w2v w3k w3v w4k w4v) p1 p2 p3).o.y) : List Bool)) (TTranscript.mk x.1 x.2.1) x.2.2.1 x.2.2.2.1 x.2.2.2.2.1 x.2.2.2.2.2.1 x.2.2.2.2.2.2.1 x.2.2.2.2.2.2.2.1 x.2.2.2.2.2.2.2.2.1 x.2.2.2.2.2.2.2.2.2.1 x.2.2.2.2.2.2.2.2.2.2.1 x.2.2.2.2.2.2.2.2.2.2.2.1 x.2.2.2.2.2.2.2.2.2.2.2.2.1 x.2.2.2.2.2.2.2.2.2.2.2.2.2.1, ())
theorem kmn : kdt.Ok Try.prog TB := Con.ok_fn k1y bd13 fun x h => kw9 (kw4 (TTranscript.mk x.1 x.2.1) x.2.2.1 x.2.2.2.1 x.2.2.2.2.1 x.2.2.2.2.2.1 x.2.2.2.2.2.2.1 x.2.2.2.2.2.2.2.1 x.2.2.2.2.2.2.2.2.1 x.2.2.2.2.2.2.2.2.2.1 x.2.2.2.2.2.2.2.2.2.2.1 x.2.2.2.2.2.2.2.2.2.2.2.1 x.2.2.2.2.2.2.2.2.2.2.2.2.1 x.2.2.2.2.2.2.2.2.2.2.2.2.2.1 h)
end Go.Proofs.Ytponaobpcdkggaa
namespace Go.Proofs.Ytponaobpcdkggaa
open Go Go.Bv Go.Cv Go.Md Go.RowKit
def k1k : Con TB.den := Con.mk0 3 [.one (.d (.int .u64)), .agg [.d (.int .u64), .d (.sl (.int .u64))], .one (.d (.int .u8))] [] (.one (.one (.d (.bool)))) []
abbrev kmw := HL TB.den (hsT k1k.ins (hsOs k1k.pre))
abbrev k26 := HL TB.den (hsV k1k.res (hsOs k1k.post))
noncomputable def k2b : Cx TB := ⟨inf, [kc5, kn8, ke4, k6x, kdt], [], 4, []⟩
noncomputable def k4w : Code := Try.f3.body.getD .skip
noncomputable def k5l : List ResultVar := Try.f3.results.toList
noncomputable def kwi (o : k26) : Exit → TSt TB.den → Prop := thenT TB (fun s => ghs TB [] s fun s => WP TB k2b 66 0 (cB (cB (cB (cB (cB k4w))))) .no s (retTQ TB k2b k1k k5l o)) (retTQ TB k2b k1k k5l o)
def k5k : Tm := ⟨[0, 1, 6, 2, 3, 4, 5], [.cells [.d (.int .u64), .d (.sl (.int .u64))], .cells [.d (.bool), .d (.int .u64), .d (.int .i64), .own 3, .mp 4, .mp 5, .mp 6], .cells [.d (.int .u64), .d (.int .u64)], .tip (.st 1), .map (.str) (.int .i64), .map (.str) (.sl (.int .u64)), .map (.str) (.bool)], [0, 2, 4, 7, 8, 31, 32], [.one (.d (.int .u64)), .one (.d (.int .u8)), .one (.ptr 0 0), .one (.ptr 1 0), .one (.ptr 2 0), .one (.d (.int .i64)), .one (.d (.int .i64))], 7⟩
noncomputable def kx0 (o : k26) (nx1 : HL TB.den k5k.hs → Prop) : Exit → TSt TB.den → Prop := thenT TB (fun s => k5k.mat TB 0 s nx1) (blockT TB 0 (kwi o))
noncomputable def k84 (o : k26) (nx1 : HL TB.den k5k.hs → Prop) (i : HL TB.den k5k.hs) : Prop := WP TB k2b 66 0 (cA (cA (cB (cA (cB (cB (cB (cB k4w)))))))) .no (k5k.fill TB i) (kx0 o nx1)
noncomputable def kwb (o : k26) : An TB := .lp [] k5k (k84 o) fun nx1 => .no
noncomputable def kle (o : k26) : An TB := .nd [] .no [] (.nd [] (.nd [] .no [] (kwb o)) [] .no)
noncomputable def kx1 (o : k26) : Exit → TSt TB.den → Prop := thenT TB (fun s => ghs TB [] s fun s => WP TB k2b 66 0 (cB (cB (cB k4w))) (kle o) s (retTQ TB k2b k1k k5l o)) (retTQ TB k2b k1k k5l o)
def k9j : Tm := ⟨[0, 1, 2, 3, 4, 5], [.cells [.d (.int .u64), .d (.sl (.int .u64))], .cells [.d (.bool), .d (.int .u64), .d (.int .i64), .own 2, .mp 3, .mp 4, .mp 5], .tip (.st 1), .map (.str) (.int .i64), .map (.str) (.sl (.int .u64)), .map (.str) (.bool)], [0, 2, 4, 7, 21], [.one (.d (.int .u64)), .one (.d (.int .u8)), .one (.ptr 0 0), .one (.ptr 1 0), .one (.d (.bool))], 6⟩
noncomputable def kju (o : k26) (i : HL TB.den k9j.hs) : Prop := ghs TB [] (k9j.fill TB i) fun s => WP TB k2b 66 0 (cB (cA (cB (cB k4w)))) .no s (kx1 o)
structure k5n (o : k26) (i : HL TB.den k9j.hs) : Prop where
  h : kju o i
noncomputable def kwh (o : k26) : An TB := .jn k9j (k5n o) [] .no [] .no
noncomputable def kv8 (o : k26) : An TB := .nd [] (kwh o) [] (kle o)
noncomputable def kl4 (o : k26) : An TB := .nd [] .no [] (.nd [] .no [] (kv8 o))
noncomputable def kc8 (x : kmw) (o : k26) : Prop := WPh TB k2b 66 0 k4w (kl4 o) (k1k.st TB x) (retTQ TB k2b k1k k5l o)
set_option maxRecDepth 100000 in
theorem kw2 (o : k26) : OblH TB k2b 66 0 k4w (kl4 o) (retTQ TB k2b k1k k5l o) :=
  OblH.of_eq (X := (True ∧ (True ∧ ((True ∧ (∀ i, (k5n o) i = (kju o) i) ∧ ((True ∧ True) ∧ True)) ∧ (True ∧ ((True ∧ ((∀ nx i, (k84 o) nx i = (k84 o) nx i) ∧ ∀ nx1 : HL TB.den k5k.hs → Prop, (True ∧ ((True ∧ True) ∧ (True ∧ True))))) ∧ (True ∧ True))))))) (by kernel_rfl) ⟨trivial, ⟨trivial, ⟨⟨trivial, fun _ => propext ⟨fun h => h.1, fun h => ⟨h⟩⟩, ⟨⟨trivial, trivial⟩, trivial⟩⟩, ⟨trivial, ⟨⟨trivial, ⟨fun _ _ => rfl, fun _ => ⟨trivial, ⟨⟨trivial, trivial⟩, ⟨trivial, trivial⟩⟩⟩⟩⟩, ⟨trivial, trivial⟩⟩⟩⟩⟩⟩
set_option maxRecDepth 100000 in
theorem kuj {x : kmw} {o : k26} (h : kc8 x o) : SoundH Try.prog k1k.f ((k1k.args idf x).map (er TB)) ((k1k.obs idf x).map (erO TB)) (er TB (k1k.val idf o)) ((k1k.ops idf o).map (erO TB)) :=
  Con.soundH (c := k1k) (C := k2b) TBok ⟨inf_ok, (all_cons khd (all_cons kum (all_cons km1 (all_cons k95 (all_cons kmn all_nil))))), all_nil⟩ mix Try.func3 (show Try.f3.body = some k4w by kernel_rfl) (show Try.f3.ntmps = 66 by kernel_rfl) (show Try.f3.results.toList = k5l by kernel_rfl) rfl h (kw2 o)
set_option maxRecDepth 100000 in
theorem kws {p0 : Int} {p1 : TMessage} {p2 : Int} {r0 : Bool} (h :
(((!true) = true →
(([] : List TQuestion) = ([] : List TQuestion)) ∧ k5n (r0, ()) (p0, p2, true, p1.Tag, p1.L, false, (0 : Int), (0 : Int), (([] : List TQuestion) : List TQuestion), ([] : List ByteArray), ([] : List Int), ([] : List ByteArray), ([] : List (List Int)), ([] : List ByteArray), ([] : List Bool), ())) ∧
((!true) = false →
(decide (40 < (p1.L.length : Int)) = true →
(([] : List TQuestion) = ([] : List TQuestion)) ∧ k5n (r0, ()) (p0, p2, true, p1.Tag, p1.L, false, (0 : Int), (0 : Int), (([] : List TQuestion) : List TQuestion), ([] : List ByteArray), ([] : List Int), ([] : List ByteArray), ([] : List (List Int)), ([] : List ByteArray), ([] : List Bool), ())) ∧
(decide (40 < (p1.L.length : Int)) = false →
(([] : List TQuestion) = ([] : List TQuestion)) ∧ k5n (r0, ()) (p0, p2, false, p1.Tag, p1.L, false, (0 : Int), (0 : Int), (([] : List TQuestion) : List TQuestion), ([] : List ByteArray), ([] : List Int), ([] : List ByteArray), ([] : List (List Int)), ([] : List ByteArray), ([] : List Bool), ()))))) : kc8 (p0, p1.Tag, p1.L, p2, ()) (r0, ()) := WPh.of_eq (by kernel_rfl) h
set_option maxRecDepth 100000 in
theorem kt4 {r0 : Bool} {s0 : Int} {s2 : Int} {s21 : Bool} {h0_0 : Int} {h0_1 : List Int} {h1_0 : Bool} {h1_1 : Int} {h1_2 : Int} {g2 : List TQuestion} {g3k : List ByteArray} {g3v : List Int} {g4k : List ByteArray} {g4v : List (List Int)} {g5k : List ByteArray} {g5v : List Bool} (h :
((s21 = true →
(true = true →
 true = r0) ∧
(true = false →
 false = r0)) ∧
(s21 = false →
(g2 = g2) ∧ Md.Loop (s0, s2, (Int.tmod (IntKind.i64.wrap s2) 8 : Int), (0 : Int), h0_0, h0_1, h1_0, h1_1, h1_2, s0, (0 : Int), g2, g3k, g3v, g4k, g4v, g5k, g5v, ()) (k84 (r0, ()))))) : k5n (r0, ()) (s0, s2, s21, h0_0, h0_1, h1_0, h1_1, h1_2, g2, g3k, g3v, g4k, g4v, g5k, g5v, ()) := ⟨mpr_of (by kernel_rfl) h⟩
def kl6 (r0 : Bool) (k1 : Int → Bool → Int → Int → Int → Int → List TQuestion → List ByteArray → List Int → List ByteArray → List (List Int) → List ByteArray → List Bool → Prop) (s0 : Int) (s2 : Int) (s31 : Int) (h0_0 : Int) (h0_1 : List Int) (s32 : Int) (h1_0 : Bool) (h1_1 : Int) (h1_2 : Int) (h6_0 : Int) (h6_1 : Int) (g2 : List TQuestion) (g3k : List ByteArray) (g3v : List Int) (g4k : List ByteArray) (g4v : List (List Int)) (g5k : List ByteArray) (g5v : List Bool) : Prop :=
(decide (s32 < s31) = true →
(g2 = g2) ∧ ((U64 (TTranscript.mk h6_0 h6_1).State ∧ U64 (TTranscript.mk h6_0 h6_1).Count) ∧ OOk (OS.mk h1_0 h1_1 h1_2 g2 g3k g3v g4k g4v g5k g5v)) ∧ let r1 : Int := ((chO (OS.mk h1_0 h1_1 h1_2 g2 g3k g3v g4k g4v g5k g5v) (TTranscript.mk h6_0 h6_1) (257 : Int)).n)
 let r2 : Int := ((chO (OS.mk h1_0 h1_1 h1_2 g2 g3k g3v g4k g4v g5k g5v) (TTranscript.mk h6_0 h6_1) (257 : Int)).t).State
 let r3 : Int := ((chO (OS.mk h1_0 h1_1 h1_2 g2 g3k g3v g4k g4v g5k g5v) (TTranscript.mk h6_0 h6_1) (257 : Int)).t).Count
 let r4 : Bool := ((chO (OS.mk h1_0 h1_1 h1_2 g2 g3k g3v g4k g4v g5k g5v) (TTranscript.mk h6_0 h6_1) (257 : Int)).o.a)
 let r5 : Int := ((chO (OS.mk h1_0 h1_1 h1_2 g2 g3k g3v g4k g4v g5k g5v) (TTranscript.mk h6_0 h6_1) (257 : Int)).o.b)
 let r6 : Int := ((chO (OS.mk h1_0 h1_1 h1_2 g2 g3k g3v g4k g4v g5k g5v) (TTranscript.mk h6_0 h6_1) (257 : Int)).o.c)
 let r7 : List TQuestion := ((chO (OS.mk h1_0 h1_1 h1_2 g2 g3k g3v g4k g4v g5k g5v) (TTranscript.mk h6_0 h6_1) (257 : Int)).o.q)
 let r8 : List ByteArray := ((chO (OS.mk h1_0 h1_1 h1_2 g2 g3k g3v g4k g4v g5k g5v) (TTranscript.mk h6_0 h6_1) (257 : Int)).o.k)
 let r9 : List Int := ((chO (OS.mk h1_0 h1_1 h1_2 g2 g3k g3v g4k g4v g5k g5v) (TTranscript.mk h6_0 h6_1) (257 : Int)).o.v)
 let r10 : List ByteArray := ((chO (OS.mk h1_0 h1_1 h1_2 g2 g3k g3v g4k g4v g5k g5v) (TTranscript.mk h6_0 h6_1) (257 : Int)).o.s)
 let r11 : List (List Int) := ((chO (OS.mk h1_0 h1_1 h1_2 g2 g3k g3v g4k g4v g5k g5v) (TTranscript.mk h6_0 h6_1) (257 : Int)).o.t)
 let r12 : List ByteArray := ((chO (OS.mk h1_0 h1_1 h1_2 g2 g3k g3v g4k g4v g5k g5v) (TTranscript.mk h6_0 h6_1) (257 : Int)).o.x)
 let r13 : List Bool := ((chO (OS.mk h1_0 h1_1 h1_2 g2 g3k g3v g4k g4v g5k g5v) (TTranscript.mk h6_0 h6_1) (257 : Int)).o.y)
(r7 = r7) ∧ k1 (IntKind.i64.wrap (s32 + 1) : Int) r4 r5 r6 r2 r3 r7 r8 r9 r10 r11 r12 r13) ∧
(decide (s32 < s31) = false →
 let v14 : Bool := ((h6_0 == s0) && ((h6_1 == IntKind.u64.wrap (Int.tmod s2 8)) && true))
(v14 = true →
(g2 = g2) ∧ (U64 (TTranscript.mk h6_0 h6_1).State ∧ U64 h0_0 ∧ (Us h0_1 ∧ h0_1.length ≤ 999999990) ∧ OOk (OS.mk h1_0 h1_1 h1_2 g2 g3k g3v g4k g4v g5k g5v)) ∧ let r15 : Int := ((abO (OS.mk h1_0 h1_1 h1_2 g2 g3k g3v g4k g4v g5k g5v) (TTranscript.mk h6_0 h6_1) h0_0 h0_1).t).State
 let r16 : Int := ((abO (OS.mk h1_0 h1_1 h1_2 g2 g3k g3v g4k g4v g5k g5v) (TTranscript.mk h6_0 h6_1) h0_0 h0_1).t).Count
 let r17 : Bool := ((abO (OS.mk h1_0 h1_1 h1_2 g2 g3k g3v g4k g4v g5k g5v) (TTranscript.mk h6_0 h6_1) h0_0 h0_1).o.a)
 let r18 : Int := ((abO (OS.mk h1_0 h1_1 h1_2 g2 g3k g3v g4k g4v g5k g5v) (TTranscript.mk h6_0 h6_1) h0_0 h0_1).o.b)
 let r19 : Int := ((abO (OS.mk h1_0 h1_1 h1_2 g2 g3k g3v g4k g4v g5k g5v) (TTranscript.mk h6_0 h6_1) h0_0 h0_1).o.c)
 let r20 : List TQuestion := ((abO (OS.mk h1_0 h1_1 h1_2 g2 g3k g3v g4k g4v g5k g5v) (TTranscript.mk h6_0 h6_1) h0_0 h0_1).o.q)
 let r21 : List ByteArray := ((abO (OS.mk h1_0 h1_1 h1_2 g2 g3k g3v g4k g4v g5k g5v) (TTranscript.mk h6_0 h6_1) h0_0 h0_1).o.k)
 let r22 : List Int := ((abO (OS.mk h1_0 h1_1 h1_2 g2 g3k g3v g4k g4v g5k g5v) (TTranscript.mk h6_0 h6_1) h0_0 h0_1).o.v)
 let r23 : List ByteArray := ((abO (OS.mk h1_0 h1_1 h1_2 g2 g3k g3v g4k g4v g5k g5v) (TTranscript.mk h6_0 h6_1) h0_0 h0_1).o.s)
 let r24 : List (List Int) := ((abO (OS.mk h1_0 h1_1 h1_2 g2 g3k g3v g4k g4v g5k g5v) (TTranscript.mk h6_0 h6_1) h0_0 h0_1).o.t)
 let r25 : List ByteArray := ((abO (OS.mk h1_0 h1_1 h1_2 g2 g3k g3v g4k g4v g5k g5v) (TTranscript.mk h6_0 h6_1) h0_0 h0_1).o.x)
 let r26 : List Bool := ((abO (OS.mk h1_0 h1_1 h1_2 g2 g3k g3v g4k g4v g5k g5v) (TTranscript.mk h6_0 h6_1) h0_0 h0_1).o.y)
(r20 = r20) ∧ (U64 (TTranscript.mk s0 0).State ∧ U64 h0_0 ∧ (Us h0_1 ∧ h0_1.length ≤ 999999990) ∧ OOk (OS.mk r17 r18 r19 r20 r21 r22 r23 r24 r25 r26)) ∧ let r27 : Int := ((abO (OS.mk r17 r18 r19 r20 r21 r22 r23 r24 r25 r26) (TTranscript.mk s0 0) h0_0 h0_1).t).State
 let r28 : Int := ((abO (OS.mk r17 r18 r19 r20 r21 r22 r23 r24 r25 r26) (TTranscript.mk s0 0) h0_0 h0_1).t).Count
 let r29 : Bool := ((abO (OS.mk r17 r18 r19 r20 r21 r22 r23 r24 r25 r26) (TTranscript.mk s0 0) h0_0 h0_1).o.a)
 let r30 : Int := ((abO (OS.mk r17 r18 r19 r20 r21 r22 r23 r24 r25 r26) (TTranscript.mk s0 0) h0_0 h0_1).o.b)
 let r31 : Int := ((abO (OS.mk r17 r18 r19 r20 r21 r22 r23 r24 r25 r26) (TTranscript.mk s0 0) h0_0 h0_1).o.c)
 let r32 : List TQuestion := ((abO (OS.mk r17 r18 r19 r20 r21 r22 r23 r24 r25 r26) (TTranscript.mk s0 0) h0_0 h0_1).o.q)
 let r33 : List ByteArray := ((abO (OS.mk r17 r18 r19 r20 r21 r22 r23 r24 r25 r26) (TTranscript.mk s0 0) h0_0 h0_1).o.k)
 let r34 : List Int := ((abO (OS.mk r17 r18 r19 r20 r21 r22 r23 r24 r25 r26) (TTranscript.mk s0 0) h0_0 h0_1).o.v)
 let r35 : List ByteArray := ((abO (OS.mk r17 r18 r19 r20 r21 r22 r23 r24 r25 r26) (TTranscript.mk s0 0) h0_0 h0_1).o.s)
 let r36 : List (List Int) := ((abO (OS.mk r17 r18 r19 r20 r21 r22 r23 r24 r25 r26) (TTranscript.mk s0 0) h0_0 h0_1).o.t)
 let r37 : List ByteArray := ((abO (OS.mk r17 r18 r19 r20 r21 r22 r23 r24 r25 r26) (TTranscript.mk s0 0) h0_0 h0_1).o.x)
 let r38 : List Bool := ((abO (OS.mk r17 r18 r19 r20 r21 r22 r23 r24 r25 r26) (TTranscript.mk s0 0) h0_0 h0_1).o.y)
((r15 == r27) && ((r16 == r28) && true)) = r0) ∧
(v14 = false →
 false = r0))
set_option maxRecDepth 100000 in
theorem kuy {r0 : Bool} {s0 : Int} {s2 : Int} {s31 : Int} {h0_0 : Int} {h0_1 : List Int} {s32 : Int} {h1_0 : Bool} {h1_1 : Int} {h1_2 : Int} {h6_0 : Int} {h6_1 : Int} {g2 : List TQuestion} {g3k : List ByteArray} {g3v : List Int} {g4k : List ByteArray} {g4v : List (List Int)} {g5k : List ByteArray} {g5v : List Bool} (inv : Int → Bool → Int → Int → Int → Int → List TQuestion → List ByteArray → List Int → List ByteArray → List (List Int) → List ByteArray → List Bool → Prop) (μ : Int → Bool → Int → Int → Int → Int → List TQuestion → List ByteArray → List Int → List ByteArray → List (List Int) → List ByteArray → List Bool → Nat) (h0 : inv s32 h1_0 h1_1 h1_2 h6_0 h6_1 g2 g3k g3v g4k g4v g5k g5v) (hs : ∀ (s32 : Int) (h1_0 : Bool) (h1_1 : Int) (h1_2 : Int) (h6_0 : Int) (h6_1 : Int) (g2 : List TQuestion) (g3k : List ByteArray) (g3v : List Int) (g4k : List ByteArray) (g4v : List (List Int)) (g5k : List ByteArray) (g5v : List Bool), inv s32 h1_0 h1_1 h1_2 h6_0 h6_1 g2 g3k g3v g4k g4v g5k g5v → kl6 r0 (fun s32q h1_0q h1_1q h1_2q h6_0q h6_1q g2q g3kq g3vq g4kq g4vq g5kq g5vq => inv s32q h1_0q h1_1q h1_2q h6_0q h6_1q g2q g3kq g3vq g4kq g4vq g5kq g5vq ∧ μ s32q h1_0q h1_1q h1_2q h6_0q h6_1q g2q g3kq g3vq g4kq g4vq g5kq g5vq < μ s32 h1_0 h1_1 h1_2 h6_0 h6_1 g2 g3k g3v g4k g4v g5k g5v) s0 s2 s31 h0_0 h0_1 s32 h1_0 h1_1 h1_2 h6_0 h6_1 g2 g3k g3v g4k g4v g5k g5v) : Md.Loop (s0, s2, s31, s32, h0_0, h0_1, h1_0, h1_1, h1_2, h6_0, h6_1, g2, g3k, g3v, g4k, g4v, g5k, g5v, ()) (k84 (r0, ())) :=
  ⟨⟨fun s : Int × Int × Int × Int × Int × (List Int) × Bool × Int × Int × Int × Int × (List TQuestion) × (List ByteArray) × (List Int) × (List ByteArray) × (List (List Int)) × (List ByteArray) × (List Bool) × Unit => (s.1 = s0 ∧ s.2.1 = s2 ∧ s.2.2.1 = s31 ∧ s.2.2.2.2.1 = h0_0 ∧ s.2.2.2.2.2.1 = h0_1) ∧ inv s.2.2.2.1 s.2.2.2.2.2.2.1 s.2.2.2.2.2.2.2.1 s.2.2.2.2.2.2.2.2.1 s.2.2.2.2.2.2.2.2.2.1 s.2.2.2.2.2.2.2.2.2.2.1 s.2.2.2.2.2.2.2.2.2.2.2.1 s.2.2.2.2.2.2.2.2.2.2.2.2.1 s.2.2.2.2.2.2.2.2.2.2.2.2.2.1 s.2.2.2.2.2.2.2.2.2.2.2.2.2.2.1 s.2.2.2.2.2.2.2.2.2.2.2.2.2.2.2.1 s.2.2.2.2.2.2.2.2.2.2.2.2.2.2.2.2.1 s.2.2.2.2.2.2.2.2.2.2.2.2.2.2.2.2.2.1, fun s : Int × Int × Int × Int × Int × (List Int) × Bool × Int × Int × Int × Int × (List TQuestion) × (List ByteArray) × (List Int) × (List ByteArray) × (List (List Int)) × (List ByteArray) × (List Bool) × Unit => μ s.2.2.2.1 s.2.2.2.2.2.2.1 s.2.2.2.2.2.2.2.1 s.2.2.2.2.2.2.2.2.1 s.2.2.2.2.2.2.2.2.2.1 s.2.2.2.2.2.2.2.2.2.2.1 s.2.2.2.2.2.2.2.2.2.2.2.1 s.2.2.2.2.2.2.2.2.2.2.2.2.1 s.2.2.2.2.2.2.2.2.2.2.2.2.2.1 s.2.2.2.2.2.2.2.2.2.2.2.2.2.2.1 s.2.2.2.2.2.2.2.2.2.2.2.2.2.2.2.1 s.2.2.2.2.2.2.2.2.2.2.2.2.2.2.2.2.1 s.2.2.2.2.2.2.2.2.2.2.2.2.2.2.2.2.2.1, ⟨⟨rfl, rfl, rfl, rfl, rfl⟩, h0⟩, fun (s0p, s2p, s31p, s32p, h0_0p, h0_1p, h1_0p, h1_1p, h1_2p, h6_0p, h6_1p, g2p, g3kp, g3vp, g4kp, g4vp, g5kp, g5vp, ()) ⟨⟨eq0, eq1, eq2, eq3, eq4⟩, hi⟩ => by
    have eq0 : s0p = s0 := eq0; subst s0p; have eq1 : s2p = s2 := eq1; subst s2p; have eq2 : s31p = s31 := eq2; subst s31p; have eq3 : h0_0p = h0_0 := eq3; subst h0_0p; have eq4 : h0_1p = h0_1 := eq4; subst h0_1p; exact mpr_of (by kernel_rfl) ((congrArg (fun k => kl6 r0 k s0 s2 s31 h0_0 h0_1 s32p h1_0p h1_1p h1_2p h6_0p h6_1p g2p g3kp g3vp g4kp g4vp g5kp g5vp) (lpk13 (⟨rfl, rfl, rfl, rfl, rfl⟩ : s0 = s0 ∧ s2 = s2 ∧ s31 = s31 ∧ h0_0 = h0_0 ∧ h0_1 = h0_1) inv (fun s32q h1_0q h1_1q h1_2q h6_0q h6_1q g2q g3kq g3vq g4kq g4vq g5kq g5vq => μ s32q h1_0q h1_1q h1_2q h6_0q h6_1q g2q g3kq g3vq g4kq g4vq g5kq g5vq < μ s32p h1_0p h1_1p h1_2p h6_0p h6_1p g2p g3kp g3vp g4kp g4vp g5kp g5vp))).mpr (hs s32p h1_0p h1_1p h1_2p h6_0p h6_1p g2p g3kp g3vp g4kp g4vp g5kp g5vp hi))⟩⟩
theorem ktr (p0 : Int) (p1 : TMessage) (p2 : Int) (h : U64 p0 ∧ MU p1 ∧ 0 ≤ p2 ∧ p2 < 256) : kc8 (p0, p1.Tag, p1.L, p2, ()) ((true : Bool), ()) := by
  obtain ⟨h1, h2, h4, h5⟩ := h
  have z : RR (OS.mk false 0 0 [] [] [] [] [] [] []) := RR.z
  have zo : OOk (OS.mk false 0 0 [] [] [] [] [] [] []) := OOk.z false 0
  have en : Int.tmod (IntKind.i64.wrap p2) 8 = p2 % 8 := by rw [wi _ (by omega) (by omega), tmod_nn _ _ h4]
  have en2 : IntKind.u64.wrap (Int.tmod p2 8) = p2 % 8 := by rw [tmod_nn _ _ h4, wu _ (by omega) (by omega)]
  have j1 : ∀ s, (s = false → p1.L.length ≤ 40) → k5n (true, ()) (p0, p2, s, p1.Tag, p1.L, false, (0 : Int), (0 : Int), ([] : List TQuestion), ([] : List ByteArray), ([] : List Int), ([] : List ByteArray), ([] : List (List Int)), ([] : List ByteArray), ([] : List Bool), ()) := by
    intro s hs
    refine kt4 ⟨fun _ => by simp, fun e => ⟨(by first | exact rfl | exact True.intro), ?_⟩⟩
    have hl := hs e
    rw [en]
    refine kuy (fun i a b c ts tc q k v s t x y => (0 ≤ i ∧ i ≤ p2 % 8) ∧ ts = p0 ∧ tc = i ∧ RR (OS.mk a b c q k v s t x y) ∧ OOk (OS.mk a b c q k v s t x y) ∧ q.length ≤ i.toNat)
      (fun i _ _ _ _ _ _ _ _ _ _ _ _ => (p2 % 8 - i).toNat) ⟨⟨by omega, by omega⟩, rfl, rfl, z, zo, by simp⟩ ?_
    rintro i a b c ts tc q k v s t x y ⟨⟨g0, g1⟩, rfl, rfl, g2, g3, g4⟩
    refine ⟨fun hh => ?_, fun hh => ?_⟩
    · have hh := of_decide_eq_true hh
      obtain ⟨a1, a2, a3, a4⟩ := g2.ch (t := ⟨ts, tc⟩) (p := 257) h1 (by show U64 tc; omega) (by decide)
      obtain ⟨b1, b2, _, _⟩ := g3.ch ⟨ts, tc⟩ 257 (show q.length ≤ 999999 by omega)
      have b2 : (chO (OS.mk a b c q k v s t x y) ⟨ts, tc⟩ 257).o.q.length ≤ q.length + 1 := b2
      refine ⟨rfl, ⟨⟨h1, by show U64 tc; omega⟩, g3⟩, ?_⟩
      dsimp only
      generalize chO (OS.mk a b c q k v s t x y) ⟨ts, tc⟩ 257 = C at *
      have a2 : C.t = ⟨ts, tc + 1⟩ := by rw [a2]; show TTranscript.mk ts ((tc + 1) % 18446744073709551616) = _; rw [Int.emod_eq_of_lt (by omega) (by omega)]
      rw [a2, wi (tc + 1) (by omega) (by omega)]
      exact ⟨(by first | exact rfl | exact True.intro), ⟨⟨by omega, by omega⟩, rfl, rfl, a4, b1, by omega⟩, by omega⟩
    · have hh := of_decide_eq_false hh
      have e7 : tc = p2 % 8 := by omega
      rw [en2, ← e7]
      dsimp only
      have hu := us2 h1 h2.t h2.l
      obtain ⟨a1, a2, a3⟩ := g2.h (label := 18) (l := [ts, p1.Tag] ++ p1.L) (by decide) hu
      obtain ⟨b1, _, _⟩ := g3.h 18 (l := [ts, p1.Tag] ++ p1.L) (by simp; omega) (show q.length ≤ 999999 by omega)
      refine ⟨fun _ => ⟨(by first | exact rfl | exact True.intro), ⟨h1, h2.t, ⟨h2.l, by omega⟩, g3⟩, ?_⟩, fun h => by simp at h⟩
      have hA : abO (OS.mk a b c q k v s t x y) ⟨ts, tc⟩ p1.Tag p1.L = ⟨⟨valH 18 ([ts, p1.Tag] ++ p1.L), 0⟩, (hO (OS.mk a b c q k v s t x y) 18 ([ts, p1.Tag] ++ p1.L)).o⟩ := by
        unfold abO; rw [show (hO (OS.mk a b c q k v s t x y) 18 ([(TTranscript.mk ts tc).State, p1.Tag] ++ p1.L)).n = _ from a1]
      rw [hA]
      obtain ⟨d1, _, _⟩ := a3.h (label := 18) (l := [ts, p1.Tag] ++ p1.L) (by decide) hu
      generalize (hO (OS.mk a b c q k v s t x y) 18 ([ts, p1.Tag] ++ p1.L)).o = O1 at *
      refine ⟨(by first | exact rfl | exact True.intro), ⟨h1, h2.t, ⟨h2.l, by omega⟩, b1⟩, ?_⟩
      have hB : abO O1 ⟨ts, 0⟩ p1.Tag p1.L = ⟨⟨valH 18 ([ts, p1.Tag] ++ p1.L), 0⟩, (hO O1 18 ([ts, p1.Tag] ++ p1.L)).o⟩ := by
        unfold abO; rw [show (hO O1 18 ([(TTranscript.mk ts 0).State, p1.Tag] ++ p1.L)).n = _ from d1]
      show ((valH 18 ([ts, p1.Tag] ++ p1.L) == (abO O1 ⟨ts, 0⟩ p1.Tag p1.L).t.State) && (((0 : Int) == (abO O1 ⟨ts, 0⟩ p1.Tag p1.L).t.Count) && true)) = true
      rw [hB]
      simp
  refine kws ⟨fun h => by simp at h, fun _ => ⟨fun _ => ⟨rfl, j1 _ (fun h => by cases h)⟩, fun e => ⟨rfl, j1 _ fun _ => ?_⟩⟩⟩
  have := of_decide_eq_false e
  omega
end Go.Proofs.Ytponaobpcdkggaa
namespace Go.Proofs.Ytponaobpcdkggaa
open Go Go.Bv Go.Cv Go.Md Go.RowKit
def k2u : Con TB.den := Con.mk0 18 [.one (.ptr 0 0), .one (.d (.int .u64)), .one (.d (.sl (.st 0)))] [.cells [.d (.bool), .d (.int .u64), .d (.int .i64), .own 1, .mp 2, .mp 3, .mp 4], .tip (.st 1), .map (.str) (.int .i64), .map (.str) (.sl (.int .u64)), .map (.str) (.bool)] (.one (.agg [.d (.int .u64), .d (.int .u64)])) [.cells [.d (.bool), .d (.int .u64), .d (.int .i64), .own 1, .mp 2, .mp 3, .mp 4], .tip (.st 1), .map (.str) (.int .i64), .map (.str) (.sl (.int .u64)), .map (.str) (.bool)]
abbrev kze := HL TB.den (hsT k2u.ins (hsOs k2u.pre))
abbrev k8x := HL TB.den (hsV k2u.res (hsOs k2u.post))
noncomputable def k77 : Cx TB := ⟨inf, [ke4, kdt], [], 4, []⟩
noncomputable def kc4 : Code := Try.f18.body.getD .skip
noncomputable def ke6 : List ResultVar := Try.f18.results.toList
noncomputable def k18s (o : k8x) : Exit → TSt TB.den → Prop := thenT TB (fun s => ghs TB [] s fun s => WP TB k77 29 5 (cB (cB (cB kc4))) .no s (retTQ TB k77 k2u ke6 o)) (retTQ TB k77 k2u ke6 o)
def k9b : Tm := ⟨[0, 1, 2, 3, 4, 5, 6], [.cells [.d (.bool), .d (.int .u64), .d (.int .i64), .own 1, .mp 2, .mp 3, .mp 4], .tip (.st 1), .map (.str) (.int .i64), .map (.str) (.sl (.int .u64)), .map (.str) (.bool), .cells [.d (.int .u64), .d (.int .u64)], .cells [.d (.int .u64), .d (.int .u64)]], [0, 6, 7, 12, 13, 14], [.one (.ptr 0 0), .one (.ptr 5 0), .one (.ptr 6 0), .one (.d (.sl (.st 0))), .one (.d (.int .i64)), .one (.d (.int .i64))], 7⟩
noncomputable def k186 (o : k8x) (nx1 : HL TB.den k9b.hs → Prop) : Exit → TSt TB.den → Prop := thenT TB (fun s => k9b.mat TB 5 s nx1) (blockT TB 0 (k18s o))
noncomputable def kea (o : k8x) (nx1 : HL TB.den k9b.hs → Prop) (i : HL TB.den k9b.hs) : Prop := WP TB k77 29 5 (cA (cA (cB (cA (cB (cB kc4)))))) .no (k9b.fill TB i) (k186 o nx1)
noncomputable def k17z (o : k8x) : An TB := .nd [] .no [] (.lp [] k9b (kea o) fun nx1 => .no)
noncomputable def kxd (o : k8x) : An TB := .nd [] .no [] (.nd [] .no [] (.nd [] (k17z o) [] .no))
noncomputable def kln (x : kze) (o : k8x) : Prop := WPh TB k77 29 5 kc4 (kxd o) (k2u.st TB x) (retTQ TB k77 k2u ke6 o)
set_option maxRecDepth 100000 in
theorem k16s (o : k8x) : OblH TB k77 29 5 kc4 (kxd o) (retTQ TB k77 k2u ke6 o) :=
  OblH.of_eq (X := (True ∧ (True ∧ ((True ∧ ((∀ nx i, (kea o) nx i = (kea o) nx i) ∧ ∀ nx1 : HL TB.den k9b.hs → Prop, (True ∧ ((True ∧ True) ∧ ((True ∧ True) ∧ True))))) ∧ (True ∧ True))))) (by kernel_rfl) ⟨trivial, ⟨trivial, ⟨⟨trivial, ⟨fun _ _ => rfl, fun _ => ⟨trivial, ⟨⟨trivial, trivial⟩, ⟨⟨trivial, trivial⟩, trivial⟩⟩⟩⟩⟩, ⟨trivial, trivial⟩⟩⟩⟩
set_option maxRecDepth 100000 in
theorem k16u {x : kze} {o : k8x} (h : kln x o) : SoundH Try.prog k2u.f ((k2u.args idf x).map (er TB)) ((k2u.obs idf x).map (erO TB)) (er TB (k2u.val idf o)) ((k2u.ops idf o).map (erO TB)) :=
  Con.soundH (c := k2u) (C := k77) TBok ⟨inf_ok, (all_cons km1 (all_cons kmn all_nil)), all_nil⟩ mix Try.func18 (show Try.f18.body = some kc4 by kernel_rfl) (show Try.f18.ntmps = 29 by kernel_rfl) (show Try.f18.results.toList = ke6 by kernel_rfl) rfl h (k16s o)
set_option maxRecDepth 100000 in
theorem k192 {p1 : Int} {p2 : List TMessage} {c0_0 : Bool} {c0_1 : Int} {c0_2 : Int} {w1 : List TQuestion} {w2k : List ByteArray} {w2v : List Int} {w3k : List ByteArray} {w3v : List (List Int)} {w4k : List ByteArray} {w4v : List Bool} {r0 : TTranscript} {d0_0 : Bool} {d0_1 : Int} {d0_2 : Int} {e1 : List TQuestion} {e2k : List ByteArray} {e2v : List Int} {e3k : List ByteArray} {e3v : List (List Int)} {e4k : List ByteArray} {e4v : List Bool} (h :
((w1 = w1) ∧ Md.Loop (p2, ((p2.length : Int) : Int), (0 : Int), c0_0, c0_1, c0_2, (0 : Int), (0 : Int), p1, (0 : Int), w1, w2k, w2v, w3k, w3v, w4k, w4v, ()) (kea (r0.State, r0.Count, d0_0, d0_1, d0_2, e1, e2k, e2v, e3k, e3v, e4k, e4v, ())))) : kln (p1, p2, c0_0, c0_1, c0_2, w1, w2k, w2v, w3k, w3v, w4k, w4v, ()) (r0.State, r0.Count, d0_0, d0_1, d0_2, e1, e2k, e2v, e3k, e3v, e4k, e4v, ()) := WPh.of_eq (by kernel_rfl) h
def kxj (r0 : TTranscript) (d0_0 : Bool) (d0_1 : Int) (d0_2 : Int) (e1 : List TQuestion) (e2k : List ByteArray) (e2v : List Int) (e3k : List ByteArray) (e3v : List (List Int)) (e4k : List ByteArray) (e4v : List Bool) (k1 : Int → Bool → Int → Int → Int → Int → List TQuestion → List ByteArray → List Int → List ByteArray → List (List Int) → List ByteArray → List Bool → Prop) (s12 : List TMessage) (s13 : Int) (h5_0 : Int) (h5_1 : Int) (s14 : Int) (h0_0 : Bool) (h0_1 : Int) (h0_2 : Int) (h6_0 : Int) (h6_1 : Int) (g1 : List TQuestion) (g2k : List ByteArray) (g2v : List Int) (g3k : List ByteArray) (g3v : List (List Int)) (g4k : List ByteArray) (g4v : List Bool) : Prop :=
(decide (s14 < s13) = true →
(0 ≤ s14) ∧ s14 < (s12.length : Int) ∧ (([] : List Int).length + ((ix s12 s14).L).length) * 8 ≤ 140737488355328 ∧ ([] : List Int).length + ((ix s12 s14).L).length ≤ maxLen ∧ (g1 = g1) ∧ (U64 (TTranscript.mk h6_0 h6_1).State ∧ U64 ((ix s12 s14).Tag) ∧ (Us (([] : List Int) ++ ((ix s12 s14).L)) ∧ (([] : List Int) ++ ((ix s12 s14).L)).length ≤ 999999990) ∧ OOk (OS.mk h0_0 h0_1 h0_2 g1 g2k g2v g3k g3v g4k g4v)) ∧ let r1 : Int := ((abO (OS.mk h0_0 h0_1 h0_2 g1 g2k g2v g3k g3v g4k g4v) (TTranscript.mk h6_0 h6_1) ((ix s12 s14).Tag) (([] : List Int) ++ ((ix s12 s14).L))).t).State
 let r2 : Int := ((abO (OS.mk h0_0 h0_1 h0_2 g1 g2k g2v g3k g3v g4k g4v) (TTranscript.mk h6_0 h6_1) ((ix s12 s14).Tag) (([] : List Int) ++ ((ix s12 s14).L))).t).Count
 let r3 : Bool := ((abO (OS.mk h0_0 h0_1 h0_2 g1 g2k g2v g3k g3v g4k g4v) (TTranscript.mk h6_0 h6_1) ((ix s12 s14).Tag) (([] : List Int) ++ ((ix s12 s14).L))).o.a)
 let r4 : Int := ((abO (OS.mk h0_0 h0_1 h0_2 g1 g2k g2v g3k g3v g4k g4v) (TTranscript.mk h6_0 h6_1) ((ix s12 s14).Tag) (([] : List Int) ++ ((ix s12 s14).L))).o.b)
 let r5 : Int := ((abO (OS.mk h0_0 h0_1 h0_2 g1 g2k g2v g3k g3v g4k g4v) (TTranscript.mk h6_0 h6_1) ((ix s12 s14).Tag) (([] : List Int) ++ ((ix s12 s14).L))).o.c)
 let r6 : List TQuestion := ((abO (OS.mk h0_0 h0_1 h0_2 g1 g2k g2v g3k g3v g4k g4v) (TTranscript.mk h6_0 h6_1) ((ix s12 s14).Tag) (([] : List Int) ++ ((ix s12 s14).L))).o.q)
 let r7 : List ByteArray := ((abO (OS.mk h0_0 h0_1 h0_2 g1 g2k g2v g3k g3v g4k g4v) (TTranscript.mk h6_0 h6_1) ((ix s12 s14).Tag) (([] : List Int) ++ ((ix s12 s14).L))).o.k)
 let r8 : List Int := ((abO (OS.mk h0_0 h0_1 h0_2 g1 g2k g2v g3k g3v g4k g4v) (TTranscript.mk h6_0 h6_1) ((ix s12 s14).Tag) (([] : List Int) ++ ((ix s12 s14).L))).o.v)
 let r9 : List ByteArray := ((abO (OS.mk h0_0 h0_1 h0_2 g1 g2k g2v g3k g3v g4k g4v) (TTranscript.mk h6_0 h6_1) ((ix s12 s14).Tag) (([] : List Int) ++ ((ix s12 s14).L))).o.s)
 let r10 : List (List Int) := ((abO (OS.mk h0_0 h0_1 h0_2 g1 g2k g2v g3k g3v g4k g4v) (TTranscript.mk h6_0 h6_1) ((ix s12 s14).Tag) (([] : List Int) ++ ((ix s12 s14).L))).o.t)
 let r11 : List ByteArray := ((abO (OS.mk h0_0 h0_1 h0_2 g1 g2k g2v g3k g3v g4k g4v) (TTranscript.mk h6_0 h6_1) ((ix s12 s14).Tag) (([] : List Int) ++ ((ix s12 s14).L))).o.x)
 let r12 : List Bool := ((abO (OS.mk h0_0 h0_1 h0_2 g1 g2k g2v g3k g3v g4k g4v) (TTranscript.mk h6_0 h6_1) ((ix s12 s14).Tag) (([] : List Int) ++ ((ix s12 s14).L))).o.y)
(r6 = r6) ∧ k1 (IntKind.i64.wrap (s14 + 1) : Int) r3 r4 r5 r1 r2 r6 r7 r8 r9 r10 r11 r12) ∧
(decide (s14 < s13) = false →
(g1 = g1) ∧ h6_0 = r0.State ∧ h6_1 = r0.Count ∧ h0_0 = d0_0 ∧ h0_1 = d0_1 ∧ h0_2 = d0_2 ∧ g1 = e1 ∧ g2k = e2k ∧ g2v = e2v ∧ g3k = e3k ∧ g3v = e3v ∧ g4k = e4k ∧ g4v = e4v)
set_option maxRecDepth 100000 in
theorem k16h {r0 : TTranscript} {d0_0 : Bool} {d0_1 : Int} {d0_2 : Int} {e1 : List TQuestion} {e2k : List ByteArray} {e2v : List Int} {e3k : List ByteArray} {e3v : List (List Int)} {e4k : List ByteArray} {e4v : List Bool} {s12 : List TMessage} {s13 : Int} {h5_0 : Int} {h5_1 : Int} {s14 : Int} {h0_0 : Bool} {h0_1 : Int} {h0_2 : Int} {h6_0 : Int} {h6_1 : Int} {g1 : List TQuestion} {g2k : List ByteArray} {g2v : List Int} {g3k : List ByteArray} {g3v : List (List Int)} {g4k : List ByteArray} {g4v : List Bool} (inv : Int → Bool → Int → Int → Int → Int → List TQuestion → List ByteArray → List Int → List ByteArray → List (List Int) → List ByteArray → List Bool → Prop) (μ : Int → Bool → Int → Int → Int → Int → List TQuestion → List ByteArray → List Int → List ByteArray → List (List Int) → List ByteArray → List Bool → Nat) (h0 : inv s14 h0_0 h0_1 h0_2 h6_0 h6_1 g1 g2k g2v g3k g3v g4k g4v) (hs : ∀ (s14 : Int) (h0_0 : Bool) (h0_1 : Int) (h0_2 : Int) (h6_0 : Int) (h6_1 : Int) (g1 : List TQuestion) (g2k : List ByteArray) (g2v : List Int) (g3k : List ByteArray) (g3v : List (List Int)) (g4k : List ByteArray) (g4v : List Bool), inv s14 h0_0 h0_1 h0_2 h6_0 h6_1 g1 g2k g2v g3k g3v g4k g4v → kxj r0 d0_0 d0_1 d0_2 e1 e2k e2v e3k e3v e4k e4v (fun s14q h0_0q h0_1q h0_2q h6_0q h6_1q g1q g2kq g2vq g3kq g3vq g4kq g4vq => inv s14q h0_0q h0_1q h0_2q h6_0q h6_1q g1q g2kq g2vq g3kq g3vq g4kq g4vq ∧ μ s14q h0_0q h0_1q h0_2q h6_0q h6_1q g1q g2kq g2vq g3kq g3vq g4kq g4vq < μ s14 h0_0 h0_1 h0_2 h6_0 h6_1 g1 g2k g2v g3k g3v g4k g4v) s12 s13 h5_0 h5_1 s14 h0_0 h0_1 h0_2 h6_0 h6_1 g1 g2k g2v g3k g3v g4k g4v) : Md.Loop (s12, s13, s14, h0_0, h0_1, h0_2, h5_0, h5_1, h6_0, h6_1, g1, g2k, g2v, g3k, g3v, g4k, g4v, ()) (kea (r0.State, r0.Count, d0_0, d0_1, d0_2, e1, e2k, e2v, e3k, e3v, e4k, e4v, ())) :=
  ⟨⟨fun s : (List TMessage) × Int × Int × Bool × Int × Int × Int × Int × Int × Int × (List TQuestion) × (List ByteArray) × (List Int) × (List ByteArray) × (List (List Int)) × (List ByteArray) × (List Bool) × Unit => (s.1 = s12 ∧ s.2.1 = s13 ∧ s.2.2.2.2.2.2.1 = h5_0 ∧ s.2.2.2.2.2.2.2.1 = h5_1) ∧ inv s.2.2.1 s.2.2.2.1 s.2.2.2.2.1 s.2.2.2.2.2.1 s.2.2.2.2.2.2.2.2.1 s.2.2.2.2.2.2.2.2.2.1 s.2.2.2.2.2.2.2.2.2.2.1 s.2.2.2.2.2.2.2.2.2.2.2.1 s.2.2.2.2.2.2.2.2.2.2.2.2.1 s.2.2.2.2.2.2.2.2.2.2.2.2.2.1 s.2.2.2.2.2.2.2.2.2.2.2.2.2.2.1 s.2.2.2.2.2.2.2.2.2.2.2.2.2.2.2.1 s.2.2.2.2.2.2.2.2.2.2.2.2.2.2.2.2.1, fun s : (List TMessage) × Int × Int × Bool × Int × Int × Int × Int × Int × Int × (List TQuestion) × (List ByteArray) × (List Int) × (List ByteArray) × (List (List Int)) × (List ByteArray) × (List Bool) × Unit => μ s.2.2.1 s.2.2.2.1 s.2.2.2.2.1 s.2.2.2.2.2.1 s.2.2.2.2.2.2.2.2.1 s.2.2.2.2.2.2.2.2.2.1 s.2.2.2.2.2.2.2.2.2.2.1 s.2.2.2.2.2.2.2.2.2.2.2.1 s.2.2.2.2.2.2.2.2.2.2.2.2.1 s.2.2.2.2.2.2.2.2.2.2.2.2.2.1 s.2.2.2.2.2.2.2.2.2.2.2.2.2.2.1 s.2.2.2.2.2.2.2.2.2.2.2.2.2.2.2.1 s.2.2.2.2.2.2.2.2.2.2.2.2.2.2.2.2.1, ⟨⟨rfl, rfl, rfl, rfl⟩, h0⟩, fun (s12p, s13p, s14p, h0_0p, h0_1p, h0_2p, h5_0p, h5_1p, h6_0p, h6_1p, g1p, g2kp, g2vp, g3kp, g3vp, g4kp, g4vp, ()) ⟨⟨eq0, eq1, eq2, eq3⟩, hi⟩ => by
    have eq0 : s12p = s12 := eq0; subst s12p; have eq1 : s13p = s13 := eq1; subst s13p; have eq2 : h5_0p = h5_0 := eq2; subst h5_0p; have eq3 : h5_1p = h5_1 := eq3; subst h5_1p; exact mpr_of (by kernel_rfl) ((congrArg (fun k => kxj r0 d0_0 d0_1 d0_2 e1 e2k e2v e3k e3v e4k e4v k s12 s13 h5_0 h5_1 s14p h0_0p h0_1p h0_2p h6_0p h6_1p g1p g2kp g2vp g3kp g3vp g4kp g4vp) (lpk13 (⟨rfl, rfl, rfl, rfl⟩ : s12 = s12 ∧ s13 = s13 ∧ h5_0 = h5_0 ∧ h5_1 = h5_1) inv (fun s14q h0_0q h0_1q h0_2q h6_0q h6_1q g1q g2kq g2vq g3kq g3vq g4kq g4vq => μ s14q h0_0q h0_1q h0_2q h6_0q h6_1q g1q g2kq g2vq g3kq g3vq g4kq g4vq < μ s14p h0_0p h0_1p h0_2p h6_0p h6_1p g1p g2kp g2vp g3kp g3vp g4kp g4vp))).mpr (hs s14p h0_0p h0_1p h0_2p h6_0p h6_1p g1p g2kp g2vp g3kp g3vp g4kp g4vp hi))⟩⟩
theorem bd18 : Callable Try.prog 18 := ⟨by rw [Try.func18]; kernel_rfl, by rw [Try.func18]; show some _ ≠ some _; decide⟩
theorem k146 (p1 : Int) (p2 : List TMessage) (c0_0 : Bool) (c0_1 : Int) (c0_2 : Int) (w1 : List TQuestion) (w2k : List ByteArray) (w2v : List Int) (w3k : List ByteArray) (w3v : List (List Int)) (w4k : List ByteArray) (w4v : List Bool) (h : U64 p1 ∧ ((∀ m ∈ p2, MR m) ∧ p2.length ≤ 1000) ∧ OOk (OS.mk c0_0 c0_1 c0_2 w1 w2k w2v w3k w3v w4k w4v) ∧ w1.length ≤ 900000) : kln (p1, p2, c0_0, c0_1, c0_2, w1, w2k, w2v, w3k, w3v, w4k, w4v, ()) ((((absO (OS.mk c0_0 c0_1 c0_2 w1 w2k w2v w3k w3v w4k w4v) (TTranscript.mk p1 0) p2).t).State : Int), (((absO (OS.mk c0_0 c0_1 c0_2 w1 w2k w2v w3k w3v w4k w4v) (TTranscript.mk p1 0) p2).t).Count : Int), (((absO (OS.mk c0_0 c0_1 c0_2 w1 w2k w2v w3k w3v w4k w4v) (TTranscript.mk p1 0) p2).o.a) : Bool), (((absO (OS.mk c0_0 c0_1 c0_2 w1 w2k w2v w3k w3v w4k w4v) (TTranscript.mk p1 0) p2).o.b) : Int), (((absO (OS.mk c0_0 c0_1 c0_2 w1 w2k w2v w3k w3v w4k w4v) (TTranscript.mk p1 0) p2).o.c) : Int), (((absO (OS.mk c0_0 c0_1 c0_2 w1 w2k w2v w3k w3v w4k w4v) (TTranscript.mk p1 0) p2).o.q) : List TQuestion), (((absO (OS.mk c0_0 c0_1 c0_2 w1 w2k w2v w3k w3v w4k w4v) (TTranscript.mk p1 0) p2).o.k) : List ByteArray), (((absO (OS.mk c0_0 c0_1 c0_2 w1 w2k w2v w3k w3v w4k w4v) (TTranscript.mk p1 0) p2).o.v) : List Int), (((absO (OS.mk c0_0 c0_1 c0_2 w1 w2k w2v w3k w3v w4k w4v) (TTranscript.mk p1 0) p2).o.s) : List ByteArray), (((absO (OS.mk c0_0 c0_1 c0_2 w1 w2k w2v w3k w3v w4k w4v) (TTranscript.mk p1 0) p2).o.t) : List (List Int)), (((absO (OS.mk c0_0 c0_1 c0_2 w1 w2k w2v w3k w3v w4k w4v) (TTranscript.mk p1 0) p2).o.x) : List ByteArray), (((absO (OS.mk c0_0 c0_1 c0_2 w1 w2k w2v w3k w3v w4k w4v) (TTranscript.mk p1 0) p2).o.y) : List Bool), ()) := by
  obtain ⟨h1, ⟨h2, h3⟩, h4, h5⟩ := h
  generalize hO0 : absO (OS.mk c0_0 c0_1 c0_2 w1 w2k w2v w3k w3v w4k w4v) (TTranscript.mk p1 0) p2 = A
  refine k192 (r0 := A.t) ⟨rfl, k16h (r0 := A.t) (fun i a b c ts tc q k v s t x y => (0 ≤ i ∧ i ≤ p2.length) ∧ U64 ts ∧ absO (OS.mk a b c q k v s t x y) (TTranscript.mk ts tc) (p2.drop i.toNat) = A ∧ OOk (OS.mk a b c q k v s t x y) ∧ q.length ≤ 900000 + i.toNat)
    (fun i _ _ _ _ _ _ _ _ _ _ _ _ => (p2.length - i).toNat) ⟨⟨by omega, by omega⟩, h1, hO0, h4, by omega⟩ ?_⟩
  rintro i a b c ts tc q k v s t x y ⟨⟨g0, g1⟩, g2, g3, g4, g5⟩
  refine ⟨fun hh => ?_, fun hh => ?_⟩
  · have hh := of_decide_eq_true hh
    have hm := h2 _ (ix_mem p2 i g0 hh)
    have hn := hm.n
    rw [drop_ix p2 i g0 hh] at g3
    simp only [List.nil_append]
    have g6 := g4.h 18 (l := [ts, (ix p2 i).Tag] ++ (ix p2 i).L) (by simp; omega) (show q.length ≤ 999999 by omega)
    have g7 := g4.lt 18 ([ts, (ix p2 i).Tag] ++ (ix p2 i).L)
    refine ⟨g0, hh, by simp; omega, by simp; unfold maxLen; omega, (by first | exact rfl | exact True.intro), ⟨g2, hm.t, ⟨hm.l, by omega⟩, g4⟩, (by first | exact rfl | exact True.intro), ?_⟩
    rw [inc i p2.length g0 hh (by omega)]
    refine ⟨⟨⟨by omega, by omega⟩, ?_, g3, g6.1, ?_⟩, by omega⟩
    · exact ⟨g7.1, Int.lt_trans g7.2 (by decide)⟩
    · have : (hO (OS.mk a b c q k v s t x y) 18 ([ts, (ix p2 i).Tag] ++ (ix p2 i).L)).o.q.length ≤ q.length + 1 := g6.2.2
      exact Nat.le_trans this (by omega)
  · have hh := of_decide_eq_false hh
    rw [List.drop_eq_nil_of_le (by omega)] at g3
    rw [← g3]
    exact ⟨rfl, rfl, rfl, rfl, rfl, rfl, rfl, rfl, rfl, rfl, rfl, rfl, rfl⟩
noncomputable def kw5 : Con TB.den := k2u.fnR (fun x => (fun (p1 : Int) (p2 : List TMessage) (c0_0 : Bool) (c0_1 : Int) (c0_2 : Int) (w1 : List TQuestion) (w2k : List ByteArray) (w2v : List Int) (w3k : List ByteArray) (w3v : List (List Int)) (w4k : List ByteArray) (w4v : List Bool) => U64 p1 ∧ ((∀ m ∈ p2, MR m) ∧ p2.length ≤ 1000) ∧ OOk (OS.mk c0_0 c0_1 c0_2 w1 w2k w2v w3k w3v w4k w4v) ∧ w1.length ≤ 900000) x.1 x.2.1 x.2.2.1 x.2.2.2.1 x.2.2.2.2.1 x.2.2.2.2.2.1 x.2.2.2.2.2.2.1 x.2.2.2.2.2.2.2.1 x.2.2.2.2.2.2.2.2.1 x.2.2.2.2.2.2.2.2.2.1 x.2.2.2.2.2.2.2.2.2.2.1 x.2.2.2.2.2.2.2.2.2.2.2.1) fun x => ((fun (p1 : Int) (p2 : List TMessage) (c0_0 : Bool) (c0_1 : Int) (c0_2 : Int) (w1 : List TQuestion) (w2k : List ByteArray) (w2v : List Int) (w3k : List ByteArray) (w3v : List (List Int)) (w4k : List ByteArray) (w4v : List Bool) => (((absO (OS.mk c0_0 c0_1 c0_2 w1 w2k w2v w3k w3v w4k w4v) (TTranscript.mk p1 0) p2).t).State : Int)) x.1 x.2.1 x.2.2.1 x.2.2.2.1 x.2.2.2.2.1 x.2.2.2.2.2.1 x.2.2.2.2.2.2.1 x.2.2.2.2.2.2.2.1 x.2.2.2.2.2.2.2.2.1 x.2.2.2.2.2.2.2.2.2.1 x.2.2.2.2.2.2.2.2.2.2.1 x.2.2.2.2.2.2.2.2.2.2.2.1, (fun (p1 : Int) (p2 : List TMessage) (c0_0 : Bool) (c0_1 : Int) (c0_2 : Int) (w1 : List TQuestion) (w2k : List ByteArray) (w2v : List Int) (w3k : List ByteArray) (w3v : List (List Int)) (w4k : List ByteArray) (w4v : List Bool) => (((absO (OS.mk c0_0 c0_1 c0_2 w1 w2k w2v w3k w3v w4k w4v) (TTranscript.mk p1 0) p2).t).Count : Int)) x.1 x.2.1 x.2.2.1 x.2.2.2.1 x.2.2.2.2.1 x.2.2.2.2.2.1 x.2.2.2.2.2.2.1 x.2.2.2.2.2.2.2.1 x.2.2.2.2.2.2.2.2.1 x.2.2.2.2.2.2.2.2.2.1 x.2.2.2.2.2.2.2.2.2.2.1 x.2.2.2.2.2.2.2.2.2.2.2.1, (fun (p1 : Int) (p2 : List TMessage) (c0_0 : Bool) (c0_1 : Int) (c0_2 : Int) (w1 : List TQuestion) (w2k : List ByteArray) (w2v : List Int) (w3k : List ByteArray) (w3v : List (List Int)) (w4k : List ByteArray) (w4v : List Bool) => (((absO (OS.mk c0_0 c0_1 c0_2 w1 w2k w2v w3k w3v w4k w4v) (TTranscript.mk p1 0) p2).o.a) : Bool)) x.1 x.2.1 x.2.2.1 x.2.2.2.1 x.2.2.2.2.1 x.2.2.2.2.2.1 x.2.2.2.2.2.2.1 x.2.2.2.2.2.2.2.1 x.2.2.2.2.2.2.2.2.1 x.2.2.2.2.2.2.2.2.2.1 x.2.2.2.2.2.2.2.2.2.2.1 x.2.2.2.2.2.2.2.2.2.2.2.1, (fun (p1 : Int) (p2 : List TMessage) (c0_0 : Bool) (c0_1 : Int) (c0_2 : Int) (w1 : List TQuestion) (w2k : List ByteArray) (w2v : List Int) (w3k : List ByteArray) (w3v : List (List Int)) (w4k : List ByteArray) (w4v : List Bool) => (((absO (OS.mk c0_0 c0_1 c0_2 w1 w2k w2v w3k w3v w4k w4v) (TTranscript.mk p1 0) p2).o.b) : Int)) x.1 x.2.1 x.2.2.1 x.2.2.2.1 x.2.2.2.2.1 x.2.2.2.2.2.1 x.2.2.2.2.2.2.1 x.2.2.2.2.2.2.2.1 x.2.2.2.2.2.2.2.2.1 x.2.2.2.2.2.2.2.2.2.1 x.2.2.2.2.2.2.2.2.2.2.1 x.2.2.2.2.2.2.2.2.2.2.2.1, (fun (p1 : Int) (p2 : List TMessage) (c0_0 : Bool) (c0_1 : Int) (c0_2 : Int) (w1 : List TQuestion) (w2k : List ByteArray) (w2v : List Int) (w3k : List ByteArray) (w3v : List (List Int)) (w4k : List ByteArray) (w4v : List Bool) => (((absO (OS.mk c0_0 c0_1 c0_2 w1 w2k w2v w3k w3v w4k w4v) (TTranscript.mk p1 0) p2).o.c) : Int)) x.1 x.2.1 x.2.2.1 x.2.2.2.1 x.2.2.2.2.1 x.2.2.2.2.2.1 x.2.2.2.2.2.2.1 x.2.2.2.2.2.2.2.1 x.2.2.2.2.2.2.2.2.1 x.2.2.2.2.2.2.2.2.2.1 x.2.2.2.2.2.2.2.2.2.2.1 x.2.2.2.2.2.2.2.2.2.2.2.1, (fun (p1 : Int) (p2 : List TMessage) (c0_0 : Bool) (c0_1 : Int) (c0_2 : Int) (w1 : List TQuestion) (w2k : List ByteArray) (w2v : List Int) (w3k : List ByteArray) (w3v : List (List Int)) (w4k : List ByteArray) (w4v : List Bool) => (((absO (OS.mk c0_0 c0_1 c0_2 w1 w2k w2v w3k w3v w4k w4v) (TTranscript.mk p1 0) p2).o.q) : List TQuestion)) x.1 x.2.1 x.2.2.1 x.2.2.2.1 x.2.2.2.2.1 x.2.2.2.2.2.1 x.2.2.2.2.2.2.1 x.2.2.2.2.2.2.2.1 x.2.2.2.2.2.2.2.2.1 x.2.2.2.2.2.2.2.2.2.1 x.2.2.2.2.2.2.2.2.2.2.1 x.2.2.2.2.2.2.2.2.2.2.2.1, (fun (p1 : Int) (p2 : List TMessage) (c0_0 : Bool) (c0_1 : Int) (c0_2 : Int) (w1 : List TQuestion) (w2k : List ByteArray) (w2v : List Int) (w3k : List ByteArray) (w3v : List (List Int)) (w4k : List ByteArray) (w4v : List Bool) => (((absO (OS.mk c0_0 c0_1 c0_2 w1 w2k w2v w3k w3v w4k w4v) (TTranscript.mk p1 0) p2).o.k) : List ByteArray)) x.1 x.2.1 x.2.2.1 x.2.2.2.1 x.2.2.2.2.1 x.2.2.2.2.2.1 x.2.2.2.2.2.2.1 x.2.2.2.2.2.2.2.1 x.2.2.2.2.2.2.2.2.1 x.2.2.2.2.2.2.2.2.2.1 x.2.2.2.2.2.2.2.2.2.2.1 x.2.2.2.2.2.2.2.2.2.2.2.1, (fun (p1 : Int) (p2 : List TMessage) (c0_0 : Bool) (c0_1 : Int) (c0_2 : Int) (w1 : List TQuestion) (w2k : List ByteArray) (w2v : List Int) (w3k : List ByteArray) (w3v : List (List Int)) (w4k : List ByteArray) (w4v : List Bool) => (((absO (OS.mk c0_0 c0_1 c0_2 w1 w2k w2v w3k w3v w4k w4v) (TTranscript.mk p1 0) p2).o.v) : List Int)) x.1 x.2.1 x.2.2.1 x.2.2.2.1 x.2.2.2.2.1 x.2.2.2.2.2.1 x.2.2.2.2.2.2.1 x.2.2.2.2.2.2.2.1 x.2.2.2.2.2.2.2.2.1 x.2.2.2.2.2.2.2.2.2.1 x.2.2.2.2.2.2.2.2.2.2.1 x.2.2.2.2.2.2.2.2.2.2.2.1, (fun (p1 : Int) (p2 : List TMessage) (c0_0 : Bool) (c0_1 : Int) (c0_2 : Int) (w1 : List TQuestion) (w2k : List ByteArray) (w2v : List Int) (w3k : List ByteArray) (w3v : List (List Int)) (w4k : List ByteArray) (w4v : List Bool) => (((absO (OS.mk c0_0 c0_1 c0_2 w1 w2k w2v w3k w3v w4k w4v) (TTranscript.mk p1 0) p2).o.s) : List ByteArray)) x.1 x.2.1 x.2.2.1 x.2.2.2.1 x.2.2.2.2.1 x.2.2.2.2.2.1 x.2.2.2.2.2.2.1 x.2.2.2.2.2.2.2.1 x.2.2.2.2.2.2.2.2.1 x.2.2.2.2.2.2.2.2.2.1 x.2.2.2.2.2.2.2.2.2.2.1 x.2.2.2.2.2.2.2.2.2.2.2.1, (fun (p1 : Int) (p2 : List TMessage) (c0_0 : Bool) (c0_1 : Int) (c0_2 : Int) (w1 : List TQuestion) (w2k : List ByteArray) (w2v : List Int) (w3k : List ByteArray) (w3v : List (List Int)) (w4k : List ByteArray) (w4v : List Bool) => (((absO (OS.mk c0_0 c0_1 c0_2 w1 w2k w2v w3k w3v w4k w4v) (TTranscript.mk p1 0) p2).o.t) : List (List Int))) x.1 x.2.1 x.2.2.1 x.2.2.2.1 x.2.2.2.2.1 x.2.2.2.2.2.1 x.2.2.2.2.2.2.1 x.2.2.2.2.2.2.2.1 x.2.2.2.2.2.2.2.2.1 x.2.2.2.2.2.2.2.2.2.1 x.2.2.2.2.2.2.2.2.2.2.1 x.2.2.2.2.2.2.2.2.2.2.2.1, (fun (p1 : Int) (p2 : List TMessage) (c0_0 : Bool) (c0_1 : Int) (c0_2 : Int) (w1 : List TQuestion) (w2k : List ByteArray) (w2v : List Int) (w3k : List ByteArray) (w3v : List (List Int)) (w4k : List ByteArray) (w4v : List Bool) => (((absO (OS.mk c0_0 c0_1 c0_2 w1 w2k w2v w3k w3v w4k w4v) (TTranscript.mk p1 0) p2).o.x) : List ByteArray)) x.1 x.2.1 x.2.2.1 x.2.2.2.1 x.2.2.2.2.1 x.2.2.2.2.2.1 x.2.2.2.2.2.2.1 x.2.2.2.2.2.2.2.1 x.2.2.2.2.2.2.2.2.1 x.2.2.2.2.2.2.2.2.2.1 x.2.2.2.2.2.2.2.2.2.2.1 x.2.2.2.2.2.2.2.2.2.2.2.1, (fun (p1 : Int) (p2 : List TMessage) (c0_0 : Bool) (c0_1 : Int) (c0_2 : Int) (w1 : List TQuestion) (w2k : List ByteArray) (w2v : List Int) (w3k : List ByteArray) (w3v : List (List Int)) (w4k : List ByteArray) (w4v : List Bool) => (((absO (OS.mk c0_0 c0_1 c0_2 w1 w2k w2v w3k w3v w4k w4v) (TTranscript.mk p1 0) p2).o.y) : List Bool)) x.1 x.2.1 x.2.2.1 x.2.2.2.1 x.2.2.2.2.1 x.2.2.2.2.2.1 x.2.2.2.2.2.2.1 x.2.2.2.2.2.2.2.1 x.2.2.2.2.2.2.2.2.1 x.2.2.2.2.2.2.2.2.2.1 x.2.2.2.2.2.2.2.2.2.2.1 x.2.2.2.2.2.2.2.2.2.2.2.1, ())
theorem k18z : kw5.Ok Try.prog TB := Con.ok_fn k2u bd18 fun x h => k16u (k146 x.1 x.2.1 x.2.2.1 x.2.2.2.1 x.2.2.2.2.1 x.2.2.2.2.2.1 x.2.2.2.2.2.2.1 x.2.2.2.2.2.2.2.1 x.2.2.2.2.2.2.2.2.1 x.2.2.2.2.2.2.2.2.2.1 x.2.2.2.2.2.2.2.2.2.2.1 x.2.2.2.2.2.2.2.2.2.2.2.1 h)
end Go.Proofs.Ytponaobpcdkggaa
namespace Go.Proofs.Ytponaobpcdkggaa
open Go Go.Bv Go.Cv Go.Md Go.RowKit
def k1r : Con TB.den := Con.mk0 32 [.agg [.d (.int .u64), .d (.sl (.int .u64)), .d (.int .u64)]] [] (.one (.agg [.d (.int .u64), .d (.sl (.int .u64)), .d (.int .u64)])) []
abbrev kla := HL TB.den (hsT k1r.ins (hsOs k1r.pre))
abbrev ka4 := HL TB.den (hsV k1r.res (hsOs k1r.post))
noncomputable def k7m : Cx TB := ⟨inf, [kls], [], 4, []⟩
noncomputable def kbi : Code := Try.f32.body.getD .skip
noncomputable def kd3 : List ResultVar := Try.f32.results.toList
noncomputable def kjn (o : ka4) : An TB := .no
noncomputable def kbh (x : kla) (o : ka4) : Prop := WPh TB k7m 11 0 kbi (kjn o) (k1r.st TB x) (retTQ TB k7m k1r kd3 o)
set_option maxRecDepth 100000 in
theorem ktv (o : ka4) : OblH TB k7m 11 0 kbi (kjn o) (retTQ TB k7m k1r kd3 o) :=
  OblH.of_eq (X := (True ∧ (True ∧ True))) (by kernel_rfl) ⟨trivial, ⟨trivial, trivial⟩⟩
set_option maxRecDepth 100000 in
theorem ktu {x : kla} {o : ka4} (h : kbh x o) : SoundH Try.prog k1r.f ((k1r.args idf x).map (er TB)) ((k1r.obs idf x).map (erO TB)) (er TB (k1r.val idf o)) ((k1r.ops idf o).map (erO TB)) :=
  Con.soundH (c := k1r) (C := k7m) TBok ⟨inf_ok, (all_cons kug all_nil), all_nil⟩ mix Try.func32 (show Try.f32.body = some kbi by kernel_rfl) (show Try.f32.ntmps = 11 by kernel_rfl) (show Try.f32.results.toList = kd3 by kernel_rfl) rfl h (ktv o)
set_option maxRecDepth 100000 in
theorem kuc {p0 : TQuestion} {r0 : TQuestion} (h :
((p0.Elems.length ≤ 1000000000) ∧ p0.Label = r0.Label ∧ p0.Elems = r0.Elems ∧ p0.Answer = r0.Answer)) : kbh (p0.Label, p0.Elems, p0.Answer, ()) (r0.Label, r0.Elems, r0.Answer, ()) := WPh.of_eq (by kernel_rfl) h
theorem bd32 : Callable Try.prog 32 := ⟨by rw [Try.func32]; kernel_rfl, by rw [Try.func32]; show some _ ≠ some _; decide⟩
theorem ksz (p0 : TQuestion) (h : p0.Elems.length ≤ 1000000000) : kbh (p0.Label, p0.Elems, p0.Answer, ()) ((p0.Label : Int), (p0.Elems : List Int), (p0.Answer : Int), ()) := by
  exact kuc (r0 := p0) ⟨h, rfl, rfl, rfl⟩
noncomputable def kil : Con TB.den := k1r.fnR (fun x => (fun (p0 : TQuestion) => p0.Elems.length ≤ 1000000000) (TQuestion.mk x.1 x.2.1 x.2.2.1)) fun x => ((fun (p0 : TQuestion) => (p0.Label : Int)) (TQuestion.mk x.1 x.2.1 x.2.2.1), (fun (p0 : TQuestion) => (p0.Elems : List Int)) (TQuestion.mk x.1 x.2.1 x.2.2.1), (fun (p0 : TQuestion) => (p0.Answer : Int)) (TQuestion.mk x.1 x.2.1 x.2.2.1), ())
theorem kvi : kil.Ok Try.prog TB := Con.ok_fn k1r bd32 fun x h => ktu (ksz (TQuestion.mk x.1 x.2.1 x.2.2.1) h)
end Go.Proofs.Ytponaobpcdkggaa
namespace Go.Proofs.Ytponaobpcdkggaa
open Go Go.Bv Go.Cv Go.Md Go.RowKit
def k1s : Con TB.den := Con.mk0 31 [.one (.ptr 0 0)] [.cells [.d (.bool), .d (.int .u64), .d (.int .i64), .own 1, .mp 2, .mp 3, .mp 4], .tip (.st 1), .map (.str) (.int .i64), .map (.str) (.sl (.int .u64)), .map (.str) (.bool)] (.one (.one (.d (.sl (.st 1))))) [.cells [.d (.bool), .d (.int .u64), .d (.int .i64), .own 1, .mp 2, .mp 3, .mp 4], .tip (.st 1), .map (.str) (.int .i64), .map (.str) (.sl (.int .u64)), .map (.str) (.bool)]
abbrev kpt := HL TB.den (hsT k1s.ins (hsOs k1s.pre))
abbrev k4x := HL TB.den (hsV k1s.res (hsOs k1s.post))
noncomputable def k4j : Cx TB := ⟨inf, [kil], [], 4, []⟩
noncomputable def k85 : Code := Try.f31.body.getD .skip
noncomputable def k8y : List ResultVar := Try.f31.results.toList
noncomputable def kza (o : k4x) : Exit → TSt TB.den → Prop := thenT TB (fun s => ghs TB [] s fun s => WP TB k4j 29 5 (cB (cB (cB k85))) (.nd [] .no [] (.rt [.frz 5 [2]])) s (retTQ TB k4j k1s k8y o)) (retTQ TB k4j k1s k8y o)
def k69 : Tm := ⟨[0, 1, 2, 3, 4, 5], [.cells [.d (.bool), .d (.int .u64), .d (.int .i64), .own 1, .mp 2, .mp 3, .mp 4], .tip (.st 1), .map (.str) (.int .i64), .map (.str) (.sl (.int .u64)), .map (.str) (.bool), .vec (.st 1)], [3, 15, 16, 17], [.one (.row 5), .one (.own 1), .one (.d (.int .i64)), .one (.d (.int .i64))], 6⟩
noncomputable def kzb (o : k4x) (nx1 : HL TB.den k69.hs → Prop) : Exit → TSt TB.den → Prop := thenT TB (fun s => k69.mat TB 5 s nx1) (blockT TB 0 (kza o))
noncomputable def k94 (o : k4x) (nx1 : HL TB.den k69.hs → Prop) (i : HL TB.den k69.hs) : Prop := WP TB k4j 29 5 (cA (cA (cB (cA (cB (cB k85)))))) .no (k69.fill TB i) (kzb o nx1)
noncomputable def kzl (o : k4x) : An TB := .lp [] k69 (k94 o) fun nx1 => .no
noncomputable def kyv (o : k4x) : An TB := .nd [] (.nd [] .no [] (kzl o)) [] (.nd [] .no [] (.rt [.frz 5 [2]]))
noncomputable def ko1 (o : k4x) : An TB := .nd [] .no [] (.nd [] .no [] (kyv o))
noncomputable def kdu (x : kpt) (o : k4x) : Prop := WPh TB k4j 29 5 k85 (ko1 o) (k1s.st TB x) (retTQ TB k4j k1s k8y o)
set_option maxRecDepth 100000 in
theorem kyb (o : k4x) : OblH TB k4j 29 5 k85 (ko1 o) (retTQ TB k4j k1s k8y o) :=
  OblH.of_eq (X := (True ∧ (True ∧ ((True ∧ ((∀ nx i, (k94 o) nx i = (k94 o) nx i) ∧ ∀ nx1 : HL TB.den k69.hs → Prop, (True ∧ ((True ∧ True) ∧ ((True ∧ True) ∧ True))))) ∧ (True ∧ True))))) (by kernel_rfl) ⟨trivial, ⟨trivial, ⟨⟨trivial, ⟨fun _ _ => rfl, fun _ => ⟨trivial, ⟨⟨trivial, trivial⟩, ⟨⟨trivial, trivial⟩, trivial⟩⟩⟩⟩⟩, ⟨trivial, trivial⟩⟩⟩⟩
set_option maxRecDepth 100000 in
theorem kyf {x : kpt} {o : k4x} (h : kdu x o) : SoundH Try.prog k1s.f ((k1s.args idf x).map (er TB)) ((k1s.obs idf x).map (erO TB)) (er TB (k1s.val idf o)) ((k1s.ops idf o).map (erO TB)) :=
  Con.soundH (c := k1s) (C := k4j) TBok ⟨inf_ok, (all_cons kvi all_nil), all_nil⟩ mix Try.func31 (show Try.f31.body = some k85 by kernel_rfl) (show Try.f31.ntmps = 29 by kernel_rfl) (show Try.f31.results.toList = k8y by kernel_rfl) rfl h (kyb o)
set_option maxRecDepth 100000 in
theorem kzj {c0_0 : Bool} {c0_1 : Int} {c0_2 : Int} {w1 : List TQuestion} {w2k : List ByteArray} {w2v : List Int} {w3k : List ByteArray} {w3v : List (List Int)} {w4k : List ByteArray} {w4v : List Bool} {r0 : List TQuestion} {d0_0 : Bool} {d0_1 : Int} {d0_2 : Int} {e1 : List TQuestion} {e2k : List ByteArray} {e2v : List Int} {e3k : List ByteArray} {e3v : List (List Int)} {e4k : List ByteArray} {e4v : List Bool} (h :
(0 ≤ (w1.length : Int) ∧ (w1.length : Int) ≤ (w1.length : Int) ∧ ((w1.length : Int).toNat * 40 ≤ 140737488355328) ∧ ((w1.length : Int).toNat ≤ maxLen) ∧ (w1 = w1) ∧ (w1 = w1) ∧ ((w1.length : Int).toNat = (List.replicate ((w1.length : Int).toNat) (default : TQuestion)).length) ∧ Md.Loop (((w1.length : Int) : Int), (0 : Int), c0_0, c0_1, c0_2, w1, w2k, w2v, w3k, w3v, w4k, w4v, (List.replicate ((w1.length : Int).toNat) (default : TQuestion) : List TQuestion), ()) (k94 (r0, d0_0, d0_1, d0_2, e1, e2k, e2v, e3k, e3v, e4k, e4v, ())))) : kdu (c0_0, c0_1, c0_2, w1, w2k, w2v, w3k, w3v, w4k, w4v, ()) (r0, d0_0, d0_1, d0_2, e1, e2k, e2v, e3k, e3v, e4k, e4v, ()) := WPh.of_eq (by kernel_rfl) h
def knx (r0 : List TQuestion) (d0_0 : Bool) (d0_1 : Int) (d0_2 : Int) (e1 : List TQuestion) (e2k : List ByteArray) (e2v : List Int) (e3k : List ByteArray) (e3v : List (List Int)) (e4k : List ByteArray) (e4v : List Bool) (k1 : Int → List TQuestion → Prop) (s16 : Int) (h0_0 : Bool) (h0_1 : Int) (h0_2 : Int) (g1 : List TQuestion) (g2k : List ByteArray) (g2v : List Int) (g3k : List ByteArray) (g3v : List (List Int)) (g4k : List ByteArray) (g4v : List Bool) (s17 : Int) (g5 : List TQuestion) : Prop :=
(decide (s17 < s16) = true →
(0 ≤ s17) ∧ s17 < (g1.length : Int) ∧ ((ix g1 s17).Elems.length ≤ 1000000000) ∧ (0 ≤ s17 ∧ s17 < (g5.length : Int)) ∧ (0 ≤ s17 ∧ s17 < (g5.length : Int)) ∧ (g1 = g1) ∧ (g1 = g1) ∧ (g5.length = (g5.set s17.toNat (ix g1 s17)).length) ∧ k1 (IntKind.i64.wrap (s17 + 1) : Int) (g5.set s17.toNat (ix g1 s17) : List TQuestion)) ∧
(decide (s17 < s16) = false →
(g5.length = g5.length) ∧ (g1 = g1) ∧ g5 = r0 ∧ h0_0 = d0_0 ∧ h0_1 = d0_1 ∧ h0_2 = d0_2 ∧ g1 = e1 ∧ g2k = e2k ∧ g2v = e2v ∧ g3k = e3k ∧ g3v = e3v ∧ g4k = e4k ∧ g4v = e4v)
set_option maxRecDepth 100000 in
theorem ky5 {r0 : List TQuestion} {d0_0 : Bool} {d0_1 : Int} {d0_2 : Int} {e1 : List TQuestion} {e2k : List ByteArray} {e2v : List Int} {e3k : List ByteArray} {e3v : List (List Int)} {e4k : List ByteArray} {e4v : List Bool} {s16 : Int} {h0_0 : Bool} {h0_1 : Int} {h0_2 : Int} {g1 : List TQuestion} {g2k : List ByteArray} {g2v : List Int} {g3k : List ByteArray} {g3v : List (List Int)} {g4k : List ByteArray} {g4v : List Bool} {s17 : Int} {g5 : List TQuestion} (inv : Int → List TQuestion → Prop) (μ : Int → List TQuestion → Nat) (h0 : inv s17 g5) (hs : ∀ (s17 : Int) (g5 : List TQuestion), inv s17 g5 → knx r0 d0_0 d0_1 d0_2 e1 e2k e2v e3k e3v e4k e4v (fun s17q g5q => inv s17q g5q ∧ μ s17q g5q < μ s17 g5) s16 h0_0 h0_1 h0_2 g1 g2k g2v g3k g3v g4k g4v s17 g5) : Md.Loop (s16, s17, h0_0, h0_1, h0_2, g1, g2k, g2v, g3k, g3v, g4k, g4v, g5, ()) (k94 (r0, d0_0, d0_1, d0_2, e1, e2k, e2v, e3k, e3v, e4k, e4v, ())) :=
  ⟨⟨fun s : Int × Int × Bool × Int × Int × (List TQuestion) × (List ByteArray) × (List Int) × (List ByteArray) × (List (List Int)) × (List ByteArray) × (List Bool) × (List TQuestion) × Unit => (s.1 = s16 ∧ s.2.2.1 = h0_0 ∧ s.2.2.2.1 = h0_1 ∧ s.2.2.2.2.1 = h0_2 ∧ s.2.2.2.2.2.1 = g1 ∧ s.2.2.2.2.2.2.1 = g2k ∧ s.2.2.2.2.2.2.2.1 = g2v ∧ s.2.2.2.2.2.2.2.2.1 = g3k ∧ s.2.2.2.2.2.2.2.2.2.1 = g3v ∧ s.2.2.2.2.2.2.2.2.2.2.1 = g4k ∧ s.2.2.2.2.2.2.2.2.2.2.2.1 = g4v) ∧ inv s.2.1 s.2.2.2.2.2.2.2.2.2.2.2.2.1, fun s : Int × Int × Bool × Int × Int × (List TQuestion) × (List ByteArray) × (List Int) × (List ByteArray) × (List (List Int)) × (List ByteArray) × (List Bool) × (List TQuestion) × Unit => μ s.2.1 s.2.2.2.2.2.2.2.2.2.2.2.2.1, ⟨⟨rfl, rfl, rfl, rfl, rfl, rfl, rfl, rfl, rfl, rfl, rfl⟩, h0⟩, fun (s16p, s17p, h0_0p, h0_1p, h0_2p, g1p, g2kp, g2vp, g3kp, g3vp, g4kp, g4vp, g5p, ()) ⟨⟨eq0, eq1, eq2, eq3, eq4, eq5, eq6, eq7, eq8, eq9, eq10⟩, hi⟩ => by
    have eq0 : s16p = s16 := eq0; subst s16p; have eq1 : h0_0p = h0_0 := eq1; subst h0_0p; have eq2 : h0_1p = h0_1 := eq2; subst h0_1p; have eq3 : h0_2p = h0_2 := eq3; subst h0_2p; have eq4 : g1p = g1 := eq4; subst g1p; have eq5 : g2kp = g2k := eq5; subst g2kp; have eq6 : g2vp = g2v := eq6; subst g2vp; have eq7 : g3kp = g3k := eq7; subst g3kp; have eq8 : g3vp = g3v := eq8; subst g3vp; have eq9 : g4kp = g4k := eq9; subst g4kp; have eq10 : g4vp = g4v := eq10; subst g4vp; exact mpr_of (by kernel_rfl) ((congrArg (fun k => knx r0 d0_0 d0_1 d0_2 e1 e2k e2v e3k e3v e4k e4v k s16 h0_0 h0_1 h0_2 g1 g2k g2v g3k g3v g4k g4v s17p g5p) (lpk2 (⟨rfl, rfl, rfl, rfl, rfl, rfl, rfl, rfl, rfl, rfl, rfl⟩ : s16 = s16 ∧ h0_0 = h0_0 ∧ h0_1 = h0_1 ∧ h0_2 = h0_2 ∧ g1 = g1 ∧ g2k = g2k ∧ g2v = g2v ∧ g3k = g3k ∧ g3v = g3v ∧ g4k = g4k ∧ g4v = g4v) inv (fun s17q g5q => μ s17q g5q < μ s17p g5p))).mpr (hs s17p g5p hi))⟩⟩
theorem bd31 : Callable Try.prog 31 := ⟨by rw [Try.func31]; kernel_rfl, by rw [Try.func31]; show some _ ≠ some _; decide⟩
theorem kwa (c0_0 : Bool) (c0_1 : Int) (c0_2 : Int) (w1 : List TQuestion) (w2k : List ByteArray) (w2v : List Int) (w3k : List ByteArray) (w3v : List (List Int)) (w4k : List ByteArray) (w4v : List Bool) (h : w1.length ≤ 1000000 ∧ ∀ x ∈ w1, x.Elems.length ≤ 1000000000) : kdu (c0_0, c0_1, c0_2, w1, w2k, w2v, w3k, w3v, w4k, w4v, ()) ((w1 : List TQuestion), (c0_0 : Bool), (c0_1 : Int), (c0_2 : Int), (w1 : List TQuestion), (w2k : List ByteArray), (w2v : List Int), (w3k : List ByteArray), (w3v : List (List Int)), (w4k : List ByteArray), (w4v : List Bool), ()) := by
  obtain ⟨h1, h2⟩ := h
  refine kzj ⟨by omega, by omega, by omega, by unfold maxLen; omega, rfl, rfl, by simp, ?_⟩
  refine ky5 (SetI (fun (j : Nat) => ix w1 (j : Int)) w1.length) (fun i _ => (w1.length - i).toNat) (SetI.start (by simp)) ?_
  intro i g hi
  refine ⟨fun hh => ?_, fun hh => ?_⟩
  · have hh := of_decide_eq_true hh
    have e : (ix w1 i : TQuestion) = ix w1 ((i.toNat : Nat) : Int) := by rw [show ((i.toNat : Nat) : Int) = i by have := hi.1; omega]
    have hlen := hi.2.2.1
    exact ⟨hi.1, hh, h2 _ (ix_mem w1 i hi.1 hh), ⟨hi.1, by omega⟩, ⟨hi.1, by omega⟩, rfl, rfl, by rw [List.length_set], hi.next hh (by omega) e⟩
  · have hh := of_decide_eq_false hh
    have := hi.done hh
    rw [k1ja] at this
    exact ⟨rfl, rfl, this, rfl, rfl, rfl, rfl, rfl, rfl, rfl, rfl, rfl, rfl⟩
noncomputable def kmg : Con TB.den := k1s.fnR (fun x => (fun (c0_0 : Bool) (c0_1 : Int) (c0_2 : Int) (w1 : List TQuestion) (w2k : List ByteArray) (w2v : List Int) (w3k : List ByteArray) (w3v : List (List Int)) (w4k : List ByteArray) (w4v : List Bool) => w1.length ≤ 1000000 ∧ ∀ x ∈ w1, x.Elems.length ≤ 1000000000) x.1 x.2.1 x.2.2.1 x.2.2.2.1 x.2.2.2.2.1 x.2.2.2.2.2.1 x.2.2.2.2.2.2.1 x.2.2.2.2.2.2.2.1 x.2.2.2.2.2.2.2.2.1 x.2.2.2.2.2.2.2.2.2.1) fun x => ((fun (c0_0 : Bool) (c0_1 : Int) (c0_2 : Int) (w1 : List TQuestion) (w2k : List ByteArray) (w2v : List Int) (w3k : List ByteArray) (w3v : List (List Int)) (w4k : List ByteArray) (w4v : List Bool) => (w1 : List TQuestion)) x.1 x.2.1 x.2.2.1 x.2.2.2.1 x.2.2.2.2.1 x.2.2.2.2.2.1 x.2.2.2.2.2.2.1 x.2.2.2.2.2.2.2.1 x.2.2.2.2.2.2.2.2.1 x.2.2.2.2.2.2.2.2.2.1, (fun (c0_0 : Bool) (c0_1 : Int) (c0_2 : Int) (w1 : List TQuestion) (w2k : List ByteArray) (w2v : List Int) (w3k : List ByteArray) (w3v : List (List Int)) (w4k : List ByteArray) (w4v : List Bool) => (c0_0 : Bool)) x.1 x.2.1 x.2.2.1 x.2.2.2.1 x.2.2.2.2.1 x.2.2.2.2.2.1 x.2.2.2.2.2.2.1 x.2.2.2.2.2.2.2.1 x.2.2.2.2.2.2.2.2.1 x.2.2.2.2.2.2.2.2.2.1, (fun (c0_0 : Bool) (c0_1 : Int) (c0_2 : Int) (w1 : List TQuestion) (w2k : List ByteArray) (w2v : List Int) (w3k : List ByteArray) (w3v : List (List Int)) (w4k : List ByteArray) (w4v : List Bool) => (c0_1 : Int)) x.1 x.2.1 x.2.2.1 x.2.2.2.1 x.2.2.2.2.1 x.2.2.2.2.2.1 x.2.2.2.2.2.2.1 x.2.2.2.2.2.2.2.1 x.2.2.2.2.2.2.2.2.1 x.2.2.2.2.2.2.2.2.2.1, (fun (c0_0 : Bool) (c0_1 : Int) (c0_2 : Int) (w1 : List TQuestion) (w2k : List ByteArray) (w2v : List Int) (w3k : List ByteArray) (w3v : List (List Int)) (w4k : List ByteArray) (w4v : List Bool) => (c0_2 : Int)) x.1 x.2.1 x.2.2.1 x.2.2.2.1 x.2.2.2.2.1 x.2.2.2.2.2.1 x.2.2.2.2.2.2.1 x.2.2.2.2.2.2.2.1 x.2.2.2.2.2.2.2.2.1 x.2.2.2.2.2.2.2.2.2.1, (fun (c0_0 : Bool) (c0_1 : Int) (c0_2 : Int) (w1 : List TQuestion) (w2k : List ByteArray) (w2v : List Int) (w3k : List ByteArray) (w3v : List (List Int)) (w4k : List ByteArray) (w4v : List Bool) => (w1 : List TQuestion)) x.1 x.2.1 x.2.2.1 x.2.2.2.1 x.2.2.2.2.1 x.2.2.2.2.2.1 x.2.2.2.2.2.2.1 x.2.2.2.2.2.2.2.1 x.2.2.2.2.2.2.2.2.1 x.2.2.2.2.2.2.2.2.2.1, (fun (c0_0 : Bool) (c0_1 : Int) (c0_2 : Int) (w1 : List TQuestion) (w2k : List ByteArray) (w2v : List Int) (w3k : List ByteArray) (w3v : List (List Int)) (w4k : List ByteArray) (w4v : List Bool) => (w2k : List ByteArray)) x.1 x.2.1 x.2.2.1 x.2.2.2.1 x.2.2.2.2.1 x.2.2.2.2.2.1 x.2.2.2.2.2.2.1 x.2.2.2.2.2.2.2.1 x.2.2.2.2.2.2.2.2.1 x.2.2.2.2.2.2.2.2.2.1, (fun (c0_0 : Bool) (c0_1 : Int) (c0_2 : Int) (w1 : List TQuestion) (w2k : List ByteArray) (w2v : List Int) (w3k : List ByteArray) (w3v : List (List Int)) (w4k : List ByteArray) (w4v : List Bool) => (w2v : List Int)) x.1 x.2.1 x.2.2.1 x.2.2.2.1 x.2.2.2.2.1 x.2.2.2.2.2.1 x.2.2.2.2.2.2.1 x.2.2.2.2.2.2.2.1 x.2.2.2.2.2.2.2.2.1 x.2.2.2.2.2.2.2.2.2.1, (fun (c0_0 : Bool) (c0_1 : Int) (c0_2 : Int) (w1 : List TQuestion) (w2k : List ByteArray) (w2v : List Int) (w3k : List ByteArray) (w3v : List (List Int)) (w4k : List ByteArray) (w4v : List Bool) => (w3k : List ByteArray)) x.1 x.2.1 x.2.2.1 x.2.2.2.1 x.2.2.2.2.1 x.2.2.2.2.2.1 x.2.2.2.2.2.2.1 x.2.2.2.2.2.2.2.1 x.2.2.2.2.2.2.2.2.1 x.2.2.2.2.2.2.2.2.2.1, (fun (c0_0 : Bool) (c0_1 : Int) (c0_2 : Int) (w1 : List TQuestion) (w2k : List ByteArray) (w2v : List Int) (w3k : List ByteArray) (w3v : List (List Int)) (w4k : List ByteArray) (w4v : List Bool) => (w3v : List (List Int))) x.1 x.2.1 x.2.2.1 x.2.2.2.1 x.2.2.2.2.1 x.2.2.2.2.2.1 x.2.2.2.2.2.2.1 x.2.2.2.2.2.2.2.1 x.2.2.2.2.2.2.2.2.1 x.2.2.2.2.2.2.2.2.2.1, (fun (c0_0 : Bool) (c0_1 : Int) (c0_2 : Int) (w1 : List TQuestion) (w2k : List ByteArray) (w2v : List Int) (w3k : List ByteArray) (w3v : List (List Int)) (w4k : List ByteArray) (w4v : List Bool) => (w4k : List ByteArray)) x.1 x.2.1 x.2.2.1 x.2.2.2.1 x.2.2.2.2.1 x.2.2.2.2.2.1 x.2.2.2.2.2.2.1 x.2.2.2.2.2.2.2.1 x.2.2.2.2.2.2.2.2.1 x.2.2.2.2.2.2.2.2.2.1, (fun (c0_0 : Bool) (c0_1 : Int) (c0_2 : Int) (w1 : List TQuestion) (w2k : List ByteArray) (w2v : List Int) (w3k : List ByteArray) (w3v : List (List Int)) (w4k : List ByteArray) (w4v : List Bool) => (w4v : List Bool)) x.1 x.2.1 x.2.2.1 x.2.2.2.1 x.2.2.2.2.1 x.2.2.2.2.2.1 x.2.2.2.2.2.2.1 x.2.2.2.2.2.2.2.1 x.2.2.2.2.2.2.2.2.1 x.2.2.2.2.2.2.2.2.2.1, ())
theorem kzq : kmg.Ok Try.prog TB := Con.ok_fn k1s bd31 fun x h => kyf (kwa x.1 x.2.1 x.2.2.1 x.2.2.2.1 x.2.2.2.2.1 x.2.2.2.2.2.1 x.2.2.2.2.2.2.1 x.2.2.2.2.2.2.2.1 x.2.2.2.2.2.2.2.2.1 x.2.2.2.2.2.2.2.2.2.1 h)
end Go.Proofs.Ytponaobpcdkggaa
namespace Go.Proofs.Ytponaobpcdkggaa
open Go Go.Bv Go.Cv Go.Md Go.RowKit
def k52 : Con TB.den := Con.mk0 15 [.one (.d (.sl (.int .u64))), .one (.d (.sl (.int .u64)))] [] (.one (.one (.d (.bool)))) []
abbrev k188 := HL TB.den (hsT k52.ins (hsOs k52.pre))
abbrev keg := HL TB.den (hsV k52.res (hsOs k52.post))
noncomputable def kai : Cx TB := ⟨inf, [], [], 4, []⟩
noncomputable def khr : Code := Try.f15.body.getD .skip
noncomputable def kn0 : List ResultVar := Try.f15.results.toList
noncomputable def k1fk (o : keg) : Exit → TSt TB.den → Prop := thenT TB (fun s => ghs TB [] s fun s => WP TB kai 26 0 (cB (cB (cB khr))) .no s (retTQ TB kai k52 kn0 o)) (retTQ TB kai k52 kn0 o)
def kel : Tm := ⟨[], [], [0, 1, 5], [.one (.d (.sl (.int .u64))), .one (.d (.sl (.int .u64))), .one (.d (.int .i64))], 0⟩
noncomputable def k1gi (o : keg) (nx1 : HL TB.den kel.hs → Prop) : Exit → TSt TB.den → Prop := thenT TB (fun s => kel.mat TB 0 s nx1) (blockT TB 0 (k1fk o))
noncomputable def kmm (o : keg) (nx1 : HL TB.den kel.hs → Prop) (i : HL TB.den kel.hs) : Prop := WP TB kai 26 0 (cA (cA (cB (cA (cB (cB khr)))))) .no (kel.fill TB i) (k1gi o nx1)
noncomputable def k1ga (o : keg) : An TB := .nd [] .no [] (.lp [] kel (kmm o) fun nx1 => .no)
noncomputable def k15h (o : keg) : An TB := .nd [] .no [] (.nd [] .no [] (.nd [] (k1ga o) [] .no))
noncomputable def kst (x : k188) (o : keg) : Prop := WPh TB kai 26 0 khr (k15h o) (k52.st TB x) (retTQ TB kai k52 kn0 o)
set_option maxRecDepth 100000 in
theorem k1ep (o : keg) : OblH TB kai 26 0 khr (k15h o) (retTQ TB kai k52 kn0 o) :=
  OblH.of_eq (X := (True ∧ ((True ∧ ((True ∧ True) ∧ True)) ∧ ((True ∧ ((∀ nx i, (kmm o) nx i = (kmm o) nx i) ∧ ∀ nx1 : HL TB.den kel.hs → Prop, ((True ∧ (True ∧ True)) ∧ ((True ∧ ((True ∧ True) ∧ True)) ∧ True)))) ∧ (True ∧ True))))) (by kernel_rfl) ⟨trivial, ⟨⟨trivial, ⟨⟨trivial, trivial⟩, trivial⟩⟩, ⟨⟨trivial, ⟨fun _ _ => rfl, fun _ => ⟨⟨trivial, ⟨trivial, trivial⟩⟩, ⟨⟨trivial, ⟨⟨trivial, trivial⟩, trivial⟩⟩, trivial⟩⟩⟩⟩, ⟨trivial, trivial⟩⟩⟩⟩
set_option maxRecDepth 100000 in
theorem k1ej {x : k188} {o : keg} (h : kst x o) : SoundH Try.prog k52.f ((k52.args idf x).map (er TB)) ((k52.obs idf x).map (erO TB)) (er TB (k52.val idf o)) ((k52.ops idf o).map (erO TB)) :=
  Con.soundH (c := k52) (C := kai) TBok ⟨inf_ok, all_nil, all_nil⟩ mix Try.func15 (show Try.f15.body = some khr by kernel_rfl) (show Try.f15.ntmps = 26 by kernel_rfl) (show Try.f15.results.toList = kn0 by kernel_rfl) rfl h (k1ep o)
set_option maxRecDepth 100000 in
theorem k1g8 {p0 : List Int} {p1 : List Int} {r0 : Bool} (h :
((((p0.length : Int) != (p1.length : Int)) = true →
 false = r0) ∧
(((p0.length : Int) != (p1.length : Int)) = false →
 Md.Loop (p0, p1, (0 : Int), ()) (kmm (r0, ()))))) : kst (p0, p1, ()) (r0, ()) := WPh.of_eq (by kernel_rfl) h
def k14w (r0 : Bool) (k1 : Int → Prop) (s0 : List Int) (s1 : List Int) (s5 : Int) : Prop :=
(decide (s5 < (s0.length : Int)) = true →
(0 ≤ s5) ∧ s5 < (s0.length : Int) ∧ (0 ≤ s5) ∧ s5 < (s1.length : Int) ∧ (((ix s0 s5) != (ix s1 s5)) = true →
 false = r0) ∧
(((ix s0 s5) != (ix s1 s5)) = false →
 k1 (IntKind.i64.wrap (s5 + 1) : Int))) ∧
(decide (s5 < (s0.length : Int)) = false →
 true = r0)
set_option maxRecDepth 100000 in
theorem k1dq {r0 : Bool} {s0 : List Int} {s1 : List Int} {s5 : Int} (inv : Int → Prop) (μ : Int → Nat) (h0 : inv s5) (hs : ∀ (s5 : Int), inv s5 → k14w r0 (fun s5q => inv s5q ∧ μ s5q < μ s5) s0 s1 s5) : Md.Loop (s0, s1, s5, ()) (kmm (r0, ())) :=
  ⟨⟨fun s : (List Int) × (List Int) × Int × Unit => (s.1 = s0 ∧ s.2.1 = s1) ∧ inv s.2.2.1, fun s : (List Int) × (List Int) × Int × Unit => μ s.2.2.1, ⟨⟨rfl, rfl⟩, h0⟩, fun (s0p, s1p, s5p, ()) ⟨⟨eq0, eq1⟩, hi⟩ => by
    have eq0 : s0p = s0 := eq0; subst s0p; have eq1 : s1p = s1 := eq1; subst s1p; exact mpr_of (by kernel_rfl) ((congrArg (fun k => k14w r0 k s0 s1 s5p) (lpk1 (⟨rfl, rfl⟩ : s0 = s0 ∧ s1 = s1) inv (fun s5q => μ s5q < μ s5p))).mpr (hs s5p hi))⟩⟩
theorem bd15 : Callable Try.prog 15 := ⟨by rw [Try.func15]; kernel_rfl, by rw [Try.func15]; show some _ ≠ some _; decide⟩
theorem k1c6 (p0 : List Int) (p1 : List Int) (h : p0.length ≤ 9223372036854775807) : kst (p0, p1, ()) (((decide (p0 = p1)) : Bool), ()) := by
  refine k1g8 ⟨fun e => ?_, fun e => ?_⟩
  · have e : ¬ (p0.length : Int) = p1.length := by simpa using e
    rw [decide_eq_false (by rintro rfl; exact e rfl)]
  · have e : (p0.length : Int) = p1.length := by simpa using e
    refine k1dq (fun i => 0 ≤ i ∧ i ≤ p0.length ∧ p0.take i.toNat = p1.take i.toNat) (fun i => (p0.length - i).toNat) ⟨by omega, by omega, by simp⟩ ?_
    rintro i ⟨g0, g1, g2⟩
    refine ⟨fun hh => ?_, fun hh => ?_⟩
    · have hh := of_decide_eq_true hh
      refine ⟨g0, hh, g0, by omega, fun e2 => ?_, fun e2 => ?_⟩
      · have e2 : ¬ ix p0 i = ix p1 i := by simpa using e2
        rw [decide_eq_false (by rintro rfl; exact e2 rfl)]
      · have e2 : ix p0 i = ix p1 i := by simpa using e2
        rw [inc i p0.length g0 hh (by omega)]
        refine ⟨⟨by omega, by omega, ?_⟩, by omega⟩
        rw [k7e p0 i g0 hh, k7e p1 i g0 (by omega), g2, e2]
    · have hh := of_decide_eq_false hh
      rw [List.take_of_length_le (by omega), List.take_of_length_le (by omega)] at g2
      rw [decide_eq_true g2]
noncomputable def kot : Con TB.den := k52.fnR (fun x => (fun (p0 : List Int) (p1 : List Int) => p0.length ≤ 9223372036854775807) x.1 x.2.1) fun x => ((fun (p0 : List Int) (p1 : List Int) => ((decide (p0 = p1)) : Bool)) x.1 x.2.1, ())
theorem kyp : kot.Ok Try.prog TB := Con.ok_fn k52 bd15 fun x h => k1ej (k1c6 x.1 x.2.1 h)
end Go.Proofs.Ytponaobpcdkggaa
namespace Go.Proofs.Ytponaobpcdkggaa
open Go Go.Bv Go.Cv Go.Md Go.RowKit
def k3b : Con TB.den := Con.mk0 19 [.one (.ptr 0 0), .one (.d (.sl (.st 1)))] [.cells [.d (.bool), .d (.int .u64), .d (.int .i64), .own 1, .mp 2, .mp 3, .mp 4], .tip (.st 1), .map (.str) (.int .i64), .map (.str) (.sl (.int .u64)), .map (.str) (.bool)] (.one (.one (.d (.bool)))) [.cells [.d (.bool), .d (.int .u64), .d (.int .i64), .own 1, .mp 2, .mp 3, .mp 4], .tip (.st 1), .map (.str) (.int .i64), .map (.str) (.sl (.int .u64)), .map (.str) (.bool)]
abbrev k10z := HL TB.den (hsT k3b.ins (hsOs k3b.pre))
abbrev k8l := HL TB.den (hsV k3b.res (hsOs k3b.post))
noncomputable def k7u : Cx TB := ⟨inf, [kmg, kot], [], 4, []⟩
noncomputable def kd0 : Code := Try.f19.body.getD .skip
noncomputable def kgs : List ResultVar := Try.f19.results.toList
noncomputable def k19x (o : k8l) : Exit → TSt TB.den → Prop := thenT TB (fun s => ghs TB [] s fun s => WP TB k7u 58 5 (cB (cB (cB (cB kd0)))) .no s (retTQ TB k7u k3b kgs o)) (retTQ TB k7u k3b kgs o)
def kab : Tm := ⟨[0, 1, 2, 3, 4], [.cells [.d (.bool), .d (.int .u64), .d (.int .i64), .own 1, .mp 2, .mp 3, .mp 4], .tip (.st 1), .map (.str) (.int .i64), .map (.str) (.sl (.int .u64)), .map (.str) (.bool)], [1, 5, 15, 16], [.one (.d (.sl (.st 1))), .one (.d (.sl (.st 1))), .one (.d (.int .i64)), .one (.d (.int .i64))], 5⟩
noncomputable def k19h (o : k8l) (nx1 : HL TB.den kab.hs → Prop) : Exit → TSt TB.den → Prop := thenT TB (fun s => kab.mat TB 5 s nx1) (blockT TB 0 (k19x o))
noncomputable def kft (o : k8l) (nx1 : HL TB.den kab.hs → Prop) (i : HL TB.den kab.hs) : Prop := WP TB k7u 58 5 (cA (cA (cB (cA (cB (cB (cB kd0))))))) .no (kab.fill TB i) (k19h o nx1)
noncomputable def k19k (o : k8l) : An TB := .nd [] .no [] (.lp [] kab (kft o) fun nx1 => .no)
noncomputable def k1a0 (o : k8l) : An TB := .nd [] .no [] (.nd [] .no [] (.nd [] (k19k o) [] .no))
noncomputable def kzt (o : k8l) : An TB := .nd [] .no [] (k1a0 o)
noncomputable def knj (x : k10z) (o : k8l) : Prop := WPh TB k7u 58 5 kd0 (kzt o) (k3b.st TB x) (retTQ TB k7u k3b kgs o)
set_option maxRecDepth 100000 in
theorem k17y (o : k8l) : OblH TB k7u 58 5 kd0 (kzt o) (retTQ TB k7u k3b kgs o) :=
  OblH.of_eq (X := (True ∧ (True ∧ ((True ∧ ((True ∧ True) ∧ True)) ∧ ((True ∧ ((∀ nx i, (kft o) nx i = (kft o) nx i) ∧ ∀ nx1 : HL TB.den kab.hs → Prop, (True ∧ ((True ∧ True) ∧ ((True ∧ (True ∧ ((True ∧ True) ∧ True))) ∧ True))))) ∧ (True ∧ True)))))) (by kernel_rfl) ⟨trivial, ⟨trivial, ⟨⟨trivial, ⟨⟨trivial, trivial⟩, trivial⟩⟩, ⟨⟨trivial, ⟨fun _ _ => rfl, fun _ => ⟨trivial, ⟨⟨trivial, trivial⟩, ⟨⟨trivial, ⟨trivial, ⟨⟨trivial, trivial⟩, trivial⟩⟩⟩, trivial⟩⟩⟩⟩⟩, ⟨trivial, trivial⟩⟩⟩⟩⟩
set_option maxRecDepth 100000 in
theorem k17l {x : k10z} {o : k8l} (h : knj x o) : SoundH Try.prog k3b.f ((k3b.args idf x).map (er TB)) ((k3b.obs idf x).map (erO TB)) (er TB (k3b.val idf o)) ((k3b.ops idf o).map (erO TB)) :=
  Con.soundH (c := k3b) (C := k7u) TBok ⟨inf_ok, (all_cons kzq (all_cons kyp all_nil)), all_nil⟩ mix Try.func19 (show Try.f19.body = some kd0 by kernel_rfl) (show Try.f19.ntmps = 58 by kernel_rfl) (show Try.f19.results.toList = kgs by kernel_rfl) rfl h (k17y o)
set_option maxRecDepth 100000 in
theorem k19b {p1 : List TQuestion} {c0_0 : Bool} {c0_1 : Int} {c0_2 : Int} {w1 : List TQuestion} {w2k : List ByteArray} {w2v : List Int} {w3k : List ByteArray} {w3v : List (List Int)} {w4k : List ByteArray} {w4v : List Bool} {r0 : Bool} {d0_0 : Bool} {d0_1 : Int} {d0_2 : Int} {e1 : List TQuestion} {e2k : List ByteArray} {e2v : List Int} {e3k : List ByteArray} {e3v : List (List Int)} {e4k : List ByteArray} {e4v : List Bool} (h :
((w1 = w1) ∧ (w1.length ≤ 1000000 ∧ ∀ x ∈ w1, x.Elems.length ≤ 1000000000) ∧ (((w1.length : Int) != (p1.length : Int)) = true →
(w1 = w1) ∧ false = r0 ∧ c0_0 = d0_0 ∧ c0_1 = d0_1 ∧ c0_2 = d0_2 ∧ w1 = e1 ∧ w2k = e2k ∧ w2v = e2v ∧ w3k = e3k ∧ w3v = e3v ∧ w4k = e4k ∧ w4v = e4v) ∧
(((w1.length : Int) != (p1.length : Int)) = false →
(w1 = w1) ∧ Md.Loop (p1, w1, ((w1.length : Int) : Int), (0 : Int), c0_0, c0_1, c0_2, w1, w2k, w2v, w3k, w3v, w4k, w4v, ()) (kft (r0, d0_0, d0_1, d0_2, e1, e2k, e2v, e3k, e3v, e4k, e4v, ()))))) : knj (p1, c0_0, c0_1, c0_2, w1, w2k, w2v, w3k, w3v, w4k, w4v, ()) (r0, d0_0, d0_1, d0_2, e1, e2k, e2v, e3k, e3v, e4k, e4v, ()) := WPh.of_eq (by kernel_rfl) h
def kz9 (r0 : Bool) (d0_0 : Bool) (d0_1 : Int) (d0_2 : Int) (e1 : List TQuestion) (e2k : List ByteArray) (e2v : List Int) (e3k : List ByteArray) (e3v : List (List Int)) (e4k : List ByteArray) (e4v : List Bool) (k1 : Int → Prop) (s1 : List TQuestion) (s5 : List TQuestion) (s15 : Int) (h0_0 : Bool) (h0_1 : Int) (h0_2 : Int) (g1 : List TQuestion) (g2k : List ByteArray) (g2v : List Int) (g3k : List ByteArray) (g3v : List (List Int)) (g4k : List ByteArray) (g4v : List Bool) (s16 : Int) : Prop :=
(decide (s16 < s15) = true →
(0 ≤ s16) ∧ s16 < (s5.length : Int) ∧ (0 ≤ s16) ∧ s16 < (s1.length : Int) ∧ let v1 : Bool := (((ix s5 s16).Label) != ((ix s1 s16).Label))
(v1 = true →
(g1 = g1) ∧ false = r0 ∧ h0_0 = d0_0 ∧ h0_1 = d0_1 ∧ h0_2 = d0_2 ∧ g1 = e1 ∧ g2k = e2k ∧ g2v = e2v ∧ g3k = e3k ∧ g3v = e3v ∧ g4k = e4k ∧ g4v = e4v) ∧
(v1 = false →
(0 ≤ s16) ∧ s16 < (s5.length : Int) ∧ (0 ≤ s16) ∧ s16 < (s1.length : Int) ∧ let v2 : Bool := (((ix s5 s16).Answer) != ((ix s1 s16).Answer))
(v2 = true →
(g1 = g1) ∧ false = r0 ∧ h0_0 = d0_0 ∧ h0_1 = d0_1 ∧ h0_2 = d0_2 ∧ g1 = e1 ∧ g2k = e2k ∧ g2v = e2v ∧ g3k = e3k ∧ g3v = e3v ∧ g4k = e4k ∧ g4v = e4v) ∧
(v2 = false →
(0 ≤ s16) ∧ s16 < (s5.length : Int) ∧ (0 ≤ s16) ∧ s16 < (s1.length : Int) ∧ (((ix s5 s16).Elems).length ≤ 9223372036854775807) ∧ let r3 : Bool := (decide (((ix s5 s16).Elems) = ((ix s1 s16).Elems)))
((!r3) = true →
(g1 = g1) ∧ false = r0 ∧ h0_0 = d0_0 ∧ h0_1 = d0_1 ∧ h0_2 = d0_2 ∧ g1 = e1 ∧ g2k = e2k ∧ g2v = e2v ∧ g3k = e3k ∧ g3v = e3v ∧ g4k = e4k ∧ g4v = e4v) ∧
((!r3) = false →
(g1 = g1) ∧ k1 (IntKind.i64.wrap (s16 + 1) : Int))))) ∧
(decide (s16 < s15) = false →
(g1 = g1) ∧ true = r0 ∧ h0_0 = d0_0 ∧ h0_1 = d0_1 ∧ h0_2 = d0_2 ∧ g1 = e1 ∧ g2k = e2k ∧ g2v = e2v ∧ g3k = e3k ∧ g3v = e3v ∧ g4k = e4k ∧ g4v = e4v)
set_option maxRecDepth 100000 in
theorem k17k {r0 : Bool} {d0_0 : Bool} {d0_1 : Int} {d0_2 : Int} {e1 : List TQuestion} {e2k : List ByteArray} {e2v : List Int} {e3k : List ByteArray} {e3v : List (List Int)} {e4k : List ByteArray} {e4v : List Bool} {s1 : List TQuestion} {s5 : List TQuestion} {s15 : Int} {h0_0 : Bool} {h0_1 : Int} {h0_2 : Int} {g1 : List TQuestion} {g2k : List ByteArray} {g2v : List Int} {g3k : List ByteArray} {g3v : List (List Int)} {g4k : List ByteArray} {g4v : List Bool} {s16 : Int} (inv : Int → Prop) (μ : Int → Nat) (h0 : inv s16) (hs : ∀ (s16 : Int), inv s16 → kz9 r0 d0_0 d0_1 d0_2 e1 e2k e2v e3k e3v e4k e4v (fun s16q => inv s16q ∧ μ s16q < μ s16) s1 s5 s15 h0_0 h0_1 h0_2 g1 g2k g2v g3k g3v g4k g4v s16) : Md.Loop (s1, s5, s15, s16, h0_0, h0_1, h0_2, g1, g2k, g2v, g3k, g3v, g4k, g4v, ()) (kft (r0, d0_0, d0_1, d0_2, e1, e2k, e2v, e3k, e3v, e4k, e4v, ())) :=
  ⟨⟨fun s : (List TQuestion) × (List TQuestion) × Int × Int × Bool × Int × Int × (List TQuestion) × (List ByteArray) × (List Int) × (List ByteArray) × (List (List Int)) × (List ByteArray) × (List Bool) × Unit => (s.1 = s1 ∧ s.2.1 = s5 ∧ s.2.2.1 = s15 ∧ s.2.2.2.2.1 = h0_0 ∧ s.2.2.2.2.2.1 = h0_1 ∧ s.2.2.2.2.2.2.1 = h0_2 ∧ s.2.2.2.2.2.2.2.1 = g1 ∧ s.2.2.2.2.2.2.2.2.1 = g2k ∧ s.2.2.2.2.2.2.2.2.2.1 = g2v ∧ s.2.2.2.2.2.2.2.2.2.2.1 = g3k ∧ s.2.2.2.2.2.2.2.2.2.2.2.1 = g3v ∧ s.2.2.2.2.2.2.2.2.2.2.2.2.1 = g4k ∧ s.2.2.2.2.2.2.2.2.2.2.2.2.2.1 = g4v) ∧ inv s.2.2.2.1, fun s : (List TQuestion) × (List TQuestion) × Int × Int × Bool × Int × Int × (List TQuestion) × (List ByteArray) × (List Int) × (List ByteArray) × (List (List Int)) × (List ByteArray) × (List Bool) × Unit => μ s.2.2.2.1, ⟨⟨rfl, rfl, rfl, rfl, rfl, rfl, rfl, rfl, rfl, rfl, rfl, rfl, rfl⟩, h0⟩, fun (s1p, s5p, s15p, s16p, h0_0p, h0_1p, h0_2p, g1p, g2kp, g2vp, g3kp, g3vp, g4kp, g4vp, ()) ⟨⟨eq0, eq1, eq2, eq3, eq4, eq5, eq6, eq7, eq8, eq9, eq10, eq11, eq12⟩, hi⟩ => by
    have eq0 : s1p = s1 := eq0; subst s1p; have eq1 : s5p = s5 := eq1; subst s5p; have eq2 : s15p = s15 := eq2; subst s15p; have eq3 : h0_0p = h0_0 := eq3; subst h0_0p; have eq4 : h0_1p = h0_1 := eq4; subst h0_1p; have eq5 : h0_2p = h0_2 := eq5; subst h0_2p; have eq6 : g1p = g1 := eq6; subst g1p; have eq7 : g2kp = g2k := eq7; subst g2kp; have eq8 : g2vp = g2v := eq8; subst g2vp; have eq9 : g3kp = g3k := eq9; subst g3kp; have eq10 : g3vp = g3v := eq10; subst g3vp; have eq11 : g4kp = g4k := eq11; subst g4kp; have eq12 : g4vp = g4v := eq12; subst g4vp; exact mpr_of (by kernel_rfl) ((congrArg (fun k => kz9 r0 d0_0 d0_1 d0_2 e1 e2k e2v e3k e3v e4k e4v k s1 s5 s15 h0_0 h0_1 h0_2 g1 g2k g2v g3k g3v g4k g4v s16p) (lpk1 (⟨rfl, rfl, rfl, rfl, rfl, rfl, rfl, rfl, rfl, rfl, rfl, rfl, rfl⟩ : s1 = s1 ∧ s5 = s5 ∧ s15 = s15 ∧ h0_0 = h0_0 ∧ h0_1 = h0_1 ∧ h0_2 = h0_2 ∧ g1 = g1 ∧ g2k = g2k ∧ g2v = g2v ∧ g3k = g3k ∧ g3v = g3v ∧ g4k = g4k ∧ g4v = g4v) inv (fun s16q => μ s16q < μ s16p))).mpr (hs s16p hi))⟩⟩
theorem bd19 : Callable Try.prog 19 := ⟨by rw [Try.func19]; kernel_rfl, by rw [Try.func19]; show some _ ≠ some _; decide⟩
theorem k171 (p1 : List TQuestion) (c0_0 : Bool) (c0_1 : Int) (c0_2 : Int) (w1 : List TQuestion) (w2k : List ByteArray) (w2v : List Int) (w3k : List ByteArray) (w3v : List (List Int)) (w4k : List ByteArray) (w4v : List Bool) (h : w1.length ≤ 1000000 ∧ ∀ x ∈ w1, x.Elems.length ≤ 1000000000) : knj (p1, c0_0, c0_1, c0_2, w1, w2k, w2v, w3k, w3v, w4k, w4v, ()) (((decide (w1 = p1)) : Bool), (c0_0 : Bool), (c0_1 : Int), (c0_2 : Int), (w1 : List TQuestion), (w2k : List ByteArray), (w2v : List Int), (w3k : List ByteArray), (w3v : List (List Int)), (w4k : List ByteArray), (w4v : List Bool), ()) := by
  obtain ⟨h1, h2⟩ := h
  refine k19b ⟨rfl, ⟨h1, h2⟩, ?_⟩
  try dsimp only
  refine ⟨fun e => ?_, fun e => ?_⟩
  · have e : ¬ (w1.length : Int) = p1.length := by simpa using e
    rw [decide_eq_false (by rintro rfl; exact e rfl)]
    exact ⟨rfl, rfl, rfl, rfl, rfl, rfl, rfl, rfl, rfl, rfl, rfl, rfl⟩
  · have e : (w1.length : Int) = p1.length := by simpa using e
    refine ⟨rfl, ?_⟩
    have no : ∀ i : Int, 0 ≤ i → i < w1.length → ¬ ix w1 i = ix p1 i → decide (w1 = p1) = false := fun i g0 hh hne => decide_eq_false (by rintro rfl; exact hne rfl)
    refine k17k (fun i => 0 ≤ i ∧ i ≤ w1.length ∧ w1.take i.toNat = p1.take i.toNat) (fun i => (w1.length - i).toNat) ⟨by omega, by omega, by simp⟩ ?_
    rintro i ⟨g0, g1, g2⟩
    refine ⟨fun hh => ?_, fun hh => ?_⟩
    · have hh := of_decide_eq_true hh
      refine ⟨g0, hh, g0, by omega, ?_⟩
      try dsimp only
      refine ⟨fun e2 => ?_, fun e2 => ?_⟩
      · have e2 : ¬ (ix w1 i).Label = (ix p1 i).Label := by simpa using e2
        rw [no i g0 hh fun q => e2 (by rw [q])]
        exact ⟨rfl, rfl, rfl, rfl, rfl, rfl, rfl, rfl, rfl, rfl, rfl, rfl⟩
      have e2 : (ix w1 i).Label = (ix p1 i).Label := by simpa using e2
      refine ⟨g0, hh, g0, by omega, ?_⟩
      try dsimp only
      refine ⟨fun e3 => ?_, fun e3 => ?_⟩
      · have e3 : ¬ (ix w1 i).Answer = (ix p1 i).Answer := by simpa using e3
        rw [no i g0 hh fun q => e3 (by rw [q])]
        exact ⟨rfl, rfl, rfl, rfl, rfl, rfl, rfl, rfl, rfl, rfl, rfl, rfl⟩
      have e3 : (ix w1 i).Answer = (ix p1 i).Answer := by simpa using e3
      refine ⟨g0, hh, g0, by omega, by have := h2 _ (ix_mem w1 i g0 hh); omega, fun e4 => ?_, fun e4 => ?_⟩
      · have e4 : ¬ (ix w1 i).Elems = (ix p1 i).Elems := by simpa using e4
        rw [no i g0 hh fun q => e4 (by rw [q])]
        exact ⟨rfl, rfl, rfl, rfl, rfl, rfl, rfl, rfl, rfl, rfl, rfl, rfl⟩
      · have e4 : (ix w1 i).Elems = (ix p1 i).Elems := by simpa using e4
        rw [inc i w1.length g0 hh (by omega)]
        refine ⟨rfl, ⟨by omega, by omega, ?_⟩, by omega⟩
        have e5 : ix w1 i = ix p1 i := by
          rw [← k11g (ix w1 i), ← k11g (ix p1 i), e2, e3, e4]
        rw [k7e w1 i g0 hh, k7e p1 i g0 (by omega), g2, e5]
    · have hh := of_decide_eq_false hh
      rw [List.take_of_length_le (by omega), List.take_of_length_le (by omega)] at g2
      rw [decide_eq_true g2]
      exact ⟨rfl, rfl, rfl, rfl, rfl, rfl, rfl, rfl, rfl, rfl, rfl, rfl⟩
noncomputable def kpk : Con TB.den := k3b.fnR (fun x => (fun (p1 : List TQuestion) (c0_0 : Bool) (c0_1 : Int) (c0_2 : Int) (w1 : List TQuestion) (w2k : List ByteArray) (w2v : List Int) (w3k : List ByteArray) (w3v : List (List Int)) (w4k : List ByteArray) (w4v : List Bool) => w1.length ≤ 1000000 ∧ ∀ x ∈ w1, x.Elems.length ≤ 1000000000) x.1 x.2.1 x.2.2.1 x.2.2.2.1 x.2.2.2.2.1 x.2.2.2.2.2.1 x.2.2.2.2.2.2.1 x.2.2.2.2.2.2.2.1 x.2.2.2.2.2.2.2.2.1 x.2.2.2.2.2.2.2.2.2.1 x.2.2.2.2.2.2.2.2.2.2.1) fun x => ((fun (p1 : List TQuestion) (c0_0 : Bool) (c0_1 : Int) (c0_2 : Int) (w1 : List TQuestion) (w2k : List ByteArray) (w2v : List Int) (w3k : List ByteArray) (w3v : List (List Int)) (w4k : List ByteArray) (w4v : List Bool) => ((decide (w1 = p1)) : Bool)) x.1 x.2.1 x.2.2.1 x.2.2.2.1 x.2.2.2.2.1 x.2.2.2.2.2.1 x.2.2.2.2.2.2.1 x.2.2.2.2.2.2.2.1 x.2.2.2.2.2.2.2.2.1 x.2.2.2.2.2.2.2.2.2.1 x.2.2.2.2.2.2.2.2.2.2.1, (fun (p1 : List TQuestion) (c0_0 : Bool) (c0_1 : Int) (c0_2 : Int) (w1 : List TQuestion) (w2k : List ByteArray) (w2v : List Int) (w3k : List ByteArray) (w3v : List (List Int)) (w4k : List ByteArray) (w4v : List Bool) => (c0_0 : Bool)) x.1 x.2.1 x.2.2.1 x.2.2.2.1 x.2.2.2.2.1 x.2.2.2.2.2.1 x.2.2.2.2.2.2.1 x.2.2.2.2.2.2.2.1 x.2.2.2.2.2.2.2.2.1 x.2.2.2.2.2.2.2.2.2.1 x.2.2.2.2.2.2.2.2.2.2.1, (fun (p1 : List TQuestion) (c0_0 : Bool) (c0_1 : Int) (c0_2 : Int) (w1 : List TQuestion) (w2k : List ByteArray) (w2v : List Int) (w3k : List ByteArray) (w3v : List (List Int)) (w4k : List ByteArray) (w4v : List Bool) => (c0_1 : Int)) x.1 x.2.1 x.2.2.1 x.2.2.2.1 x.2.2.2.2.1 x.2.2.2.2.2.1 x.2.2.2.2.2.2.1 x.2.2.2.2.2.2.2.1 x.2.2.2.2.2.2.2.2.1 x.2.2.2.2.2.2.2.2.2.1 x.2.2.2.2.2.2.2.2.2.2.1, (fun (p1 : List TQuestion) (c0_0 : Bool) (c0_1 : Int) (c0_2 : Int) (w1 : List TQuestion) (w2k : List ByteArray) (w2v : List Int) (w3k : List ByteArray) (w3v : List (List Int)) (w4k : List ByteArray) (w4v : List Bool) => (c0_2 : Int)) x.1 x.2.1 x.2.2.1 x.2.2.2.1 x.2.2.2.2.1 x.2.2.2.2.2.1 x.2.2.2.2.2.2.1 x.2.2.2.2.2.2.2.1 x.2.2.2.2.2.2.2.2.1 x.2.2.2.2.2.2.2.2.2.1 x.2.2.2.2.2.2.2.2.2.2.1, (fun (p1 : List TQuestion) (c0_0 : Bool) (c0_1 : Int) (c0_2 : Int) (w1 : List TQuestion) (w2k : List ByteArray) (w2v : List Int) (w3k : List ByteArray) (w3v : List (List Int)) (w4k : List ByteArray) (w4v : List Bool) => (w1 : List TQuestion)) x.1 x.2.1 x.2.2.1 x.2.2.2.1 x.2.2.2.2.1 x.2.2.2.2.2.1 x.2.2.2.2.2.2.1 x.2.2.2.2.2.2.2.1 x.2.2.2.2.2.2.2.2.1 x.2.2.2.2.2.2.2.2.2.1 x.2.2.2.2.2.2.2.2.2.2.1, (fun (p1 : List TQuestion) (c0_0 : Bool) (c0_1 : Int) (c0_2 : Int) (w1 : List TQuestion) (w2k : List ByteArray) (w2v : List Int) (w3k : List ByteArray) (w3v : List (List Int)) (w4k : List ByteArray) (w4v : List Bool) => (w2k : List ByteArray)) x.1 x.2.1 x.2.2.1 x.2.2.2.1 x.2.2.2.2.1 x.2.2.2.2.2.1 x.2.2.2.2.2.2.1 x.2.2.2.2.2.2.2.1 x.2.2.2.2.2.2.2.2.1 x.2.2.2.2.2.2.2.2.2.1 x.2.2.2.2.2.2.2.2.2.2.1, (fun (p1 : List TQuestion) (c0_0 : Bool) (c0_1 : Int) (c0_2 : Int) (w1 : List TQuestion) (w2k : List ByteArray) (w2v : List Int) (w3k : List ByteArray) (w3v : List (List Int)) (w4k : List ByteArray) (w4v : List Bool) => (w2v : List Int)) x.1 x.2.1 x.2.2.1 x.2.2.2.1 x.2.2.2.2.1 x.2.2.2.2.2.1 x.2.2.2.2.2.2.1 x.2.2.2.2.2.2.2.1 x.2.2.2.2.2.2.2.2.1 x.2.2.2.2.2.2.2.2.2.1 x.2.2.2.2.2.2.2.2.2.2.1, (fun (p1 : List TQuestion) (c0_0 : Bool) (c0_1 : Int) (c0_2 : Int) (w1 : List TQuestion) (w2k : List ByteArray) (w2v : List Int) (w3k : List ByteArray) (w3v : List (List Int)) (w4k : List ByteArray) (w4v : List Bool) => (w3k : List ByteArray)) x.1 x.2.1 x.2.2.1 x.2.2.2.1 x.2.2.2.2.1 x.2.2.2.2.2.1 x.2.2.2.2.2.2.1 x.2.2.2.2.2.2.2.1 x.2.2.2.2.2.2.2.2.1 x.2.2.2.2.2.2.2.2.2.1 x.2.2.2.2.2.2.2.2.2.2.1, (fun (p1 : List TQuestion) (c0_0 : Bool) (c0_1 : Int) (c0_2 : Int) (w1 : List TQuestion) (w2k : List ByteArray) (w2v : List Int) (w3k : List ByteArray) (w3v : List (List Int)) (w4k : List ByteArray) (w4v : List Bool) => (w3v : List (List Int))) x.1 x.2.1 x.2.2.1 x.2.2.2.1 x.2.2.2.2.1 x.2.2.2.2.2.1 x.2.2.2.2.2.2.1 x.2.2.2.2.2.2.2.1 x.2.2.2.2.2.2.2.2.1 x.2.2.2.2.2.2.2.2.2.1 x.2.2.2.2.2.2.2.2.2.2.1, (fun (p1 : List TQuestion) (c0_0 : Bool) (c0_1 : Int) (c0_2 : Int) (w1 : List TQuestion) (w2k : List ByteArray) (w2v : List Int) (w3k : List ByteArray) (w3v : List (List Int)) (w4k : List ByteArray) (w4v : List Bool) => (w4k : List ByteArray)) x.1 x.2.1 x.2.2.1 x.2.2.2.1 x.2.2.2.2.1 x.2.2.2.2.2.1 x.2.2.2.2.2.2.1 x.2.2.2.2.2.2.2.1 x.2.2.2.2.2.2.2.2.1 x.2.2.2.2.2.2.2.2.2.1 x.2.2.2.2.2.2.2.2.2.2.1, (fun (p1 : List TQuestion) (c0_0 : Bool) (c0_1 : Int) (c0_2 : Int) (w1 : List TQuestion) (w2k : List ByteArray) (w2v : List Int) (w3k : List ByteArray) (w3v : List (List Int)) (w4k : List ByteArray) (w4v : List Bool) => (w4v : List Bool)) x.1 x.2.1 x.2.2.1 x.2.2.2.1 x.2.2.2.2.1 x.2.2.2.2.2.1 x.2.2.2.2.2.2.1 x.2.2.2.2.2.2.2.1 x.2.2.2.2.2.2.2.2.1 x.2.2.2.2.2.2.2.2.2.1 x.2.2.2.2.2.2.2.2.2.2.1, ())
theorem kz7 : kpk.Ok Try.prog TB := Con.ok_fn k3b bd19 fun x h => k17l (k171 x.1 x.2.1 x.2.2.1 x.2.2.2.1 x.2.2.2.2.1 x.2.2.2.2.2.1 x.2.2.2.2.2.2.1 x.2.2.2.2.2.2.2.1 x.2.2.2.2.2.2.2.2.1 x.2.2.2.2.2.2.2.2.2.1 x.2.2.2.2.2.2.2.2.2.2.1 h)
end Go.Proofs.Ytponaobpcdkggaa
namespace Go.Proofs.Ytponaobpcdkggaa
open Go Go.Bv Go.Cv Go.Md Go.RowKit
def k4v : Con TB.den := Con.mk0 23 [.one (.own 0), .one (.d (.int .u64)), .one (.d (.sl (.int .u64)))] [.tip (.st 1)] (.tup [.one (.own 0), .one (.d (.int .u64))]) [.tip (.st 1)]
abbrev k1bc := HL TB.den (hsT k4v.ins (hsOs k4v.pre))
abbrev k6l := HL TB.den (hsV k4v.res (hsOs k4v.post))
noncomputable def k6p : Cx TB := ⟨inf, [kuk, kot], [], 4, []⟩
noncomputable def k98 : Code := Try.f23.body.getD .skip
noncomputable def kha : List ResultVar := Try.f23.results.toList
noncomputable def k1hf (o : k6l) : Exit → TSt TB.den → Prop := thenT TB (fun s => ghs TB [] s fun s => WP TB k6p 60 1 (cB (cB (cB (cB k98)))) .no s (retTQ TB k6p k4v kha o)) (retTQ TB k6p k4v kha o)
def k7y : Tm := ⟨[0, 1], [.tip (.st 1), .cells [.d (.int .u64), .d (.sl (.int .u64)), .d (.int .u64)]], [0, 1, 2, 9, 10], [.one (.own 0), .one (.d (.int .u64)), .one (.d (.sl (.int .u64))), .one (.ptr 1 0), .one (.d (.int .i64))], 2⟩
noncomputable def kzz (o : k6l) (nx2 : HL TB.den k7y.hs → Prop) : Exit → TSt TB.den → Prop := thenT TB (fun s => k7y.mat TB 1 s nx2) (blockT TB 2 (k1hf o))
noncomputable def k1hh (o : k6l) (nx2 : HL TB.den k7y.hs → Prop) : Exit → TSt TB.den → Prop := thenT TB (fun s => ghs TB [] s fun s => WP TB k6p 60 1 (cB (cB (cA (cA (cB (cA (cB (cB (cB k98))))))))) .no s (kzz o nx2)) (kzz o nx2)
def ks4 : Tm := ⟨[0, 1], [.tip (.st 1), .cells [.d (.int .u64), .d (.sl (.int .u64)), .d (.int .u64)]], [0, 1, 2, 9, 10, 50], [.one (.own 0), .one (.d (.int .u64)), .one (.d (.sl (.int .u64))), .one (.ptr 1 0), .one (.d (.int .i64)), .one (.d (.bool))], 2⟩
noncomputable def k158 (o : k6l) (nx2 : HL TB.den k7y.hs → Prop) (i : HL TB.den ks4.hs) : Prop := ghs TB [] (ks4.fill TB i) fun s => WP TB k6p 60 1 (cB (cA (cA (cB (cA (cA (cB (cA (cB (cB (cB k98))))))))))) .no s (blockT TB 3 (k1hh o nx2))
structure kpn (o : k6l) (nx2 : HL TB.den k7y.hs → Prop) (i : HL TB.den ks4.hs) : Prop where
  h : k158 o nx2 i
noncomputable def k18t (o : k6l) (nx2 : HL TB.den k7y.hs → Prop) : An TB := .nd [] (.jn ks4 (kpn o nx2) [] .no [] .no) [] .no
noncomputable def koo (o : k6l) (nx2 : HL TB.den k7y.hs → Prop) (i : HL TB.den k7y.hs) : Prop := WP TB k6p 60 1 (cA (cA (cB (cA (cB (cB (cB k98))))))) (.nd [] .no [] (k18t o nx2)) (k7y.fill TB i) (kzz o nx2)
noncomputable def k17e (o : k6l) : An TB := .lp [] k7y (koo o) fun nx2 => (.nd [] .no [] (k18t o nx2))
noncomputable def k1h1 (o : k6l) : Exit → TSt TB.den → Prop := thenT TB (fun s => ghs TB [] s fun s => WP TB k6p 60 1 (cB (cB k98)) (.nd [] .no [] (.nd [] (.nd [] .no [] (k17e o)) [] .no)) s (retTQ TB k6p k4v kha o)) (retTQ TB k6p k4v kha o)
def khg : Tm := ⟨[0], [.tip (.st 1)], [0, 1, 2, 8], [.one (.own 0), .one (.d (.int .u64)), .one (.d (.sl (.int .u64))), .one (.d (.int .i64))], 1⟩
noncomputable def k1ho (o : k6l) (nx1 : HL TB.den khg.hs → Prop) : Exit → TSt TB.den → Prop := thenT TB (fun s => khg.mat TB 1 s nx1) (blockT TB 0 (k1h1 o))
noncomputable def kp8 (o : k6l) (nx1 : HL TB.den khg.hs → Prop) (i : HL TB.den khg.hs) : Prop := WP TB k6p 60 1 (cA (cA (cB (cA (cB k98))))) .no (khg.fill TB i) (k1ho o nx1)
noncomputable def k1g9 (o : k6l) : An TB := .nd [] .no [] (.lp [] khg (kp8 o) fun nx1 => .no)
noncomputable def k1fl (o : k6l) : An TB := .nd [] (k1g9 o) [] (.nd [] .no [] (.nd [] (.nd [] .no [] (k17e o)) [] .no))
noncomputable def k198 (o : k6l) : An TB := .nd [] .no [] (k1fl o)
noncomputable def kv4 (x : k1bc) (o : k6l) : Prop := WPh TB k6p 60 1 k98 (k198 o) (k4v.st TB x) (retTQ TB k6p k4v kha o)
set_option maxRecDepth 100000 in
theorem k1gb (o : k6l) : OblH TB k6p 60 1 k98 (k198 o) (retTQ TB k6p k4v kha o) :=
  OblH.of_eq (X := (True ∧ ((True ∧ ((∀ nx i, (kp8 o) nx i = (kp8 o) nx i) ∧ ∀ nx1 : HL TB.den khg.hs → Prop, ((True ∧ (True ∧ True)) ∧ ((True ∧ ((True ∧ True) ∧ True)) ∧ True)))) ∧ (True ∧ ((True ∧ ((∀ nx i, (koo o) nx i = (koo o) nx i) ∧ ∀ nx2 : HL TB.den k7y.hs → Prop, ((True ∧ (True ∧ True)) ∧ ((True ∧ (∀ i, (kpn o nx2) i = (k158 o nx2) i) ∧ ((True ∧ True) ∧ True)) ∧ True)))) ∧ (True ∧ True)))))) (by kernel_rfl) ⟨trivial, ⟨⟨trivial, ⟨fun _ _ => rfl, fun _ => ⟨⟨trivial, ⟨trivial, trivial⟩⟩, ⟨⟨trivial, ⟨⟨trivial, trivial⟩, trivial⟩⟩, trivial⟩⟩⟩⟩, ⟨trivial, ⟨⟨trivial, ⟨fun _ _ => rfl, fun _ => ⟨⟨trivial, ⟨trivial, trivial⟩⟩, ⟨⟨trivial, fun _ => propext ⟨fun h => h.1, fun h => ⟨h⟩⟩, ⟨⟨trivial, trivial⟩, trivial⟩⟩, trivial⟩⟩⟩⟩, ⟨trivial, trivial⟩⟩⟩⟩⟩
set_option maxRecDepth 100000 in
theorem k1fn {x : k1bc} {o : k6l} (h : kv4 x o) : SoundH Try.prog k4v.f ((k4v.args idf x).map (er TB)) ((k4v.obs idf x).map (erO TB)) (er TB (k4v.val idf o)) ((k4v.ops idf o).map (erO TB)) :=
  Con.soundH (c := k4v) (C := k6p) TBok ⟨inf_ok, (all_cons k151 (all_cons kyp all_nil)), all_nil⟩ mix Try.func23 (show Try.f23.body = some k98 by kernel_rfl) (show Try.f23.ntmps = 60 by kernel_rfl) (show Try.f23.results.toList = kha by kernel_rfl) rfl h (k1gb o)
set_option maxRecDepth 100000 in
theorem k1hi {p1 : Int} {p2 : List Int} {w0 : List TQuestion} {r1 : Int} {e0 : List TQuestion} (h :
((w0 = w0) ∧ Md.Loop (p1, p2, (0 : Int), w0, ()) (kp8 (r1, e0, ())))) : kv4 (p1, p2, w0, ()) (r1, e0, ()) := WPh.of_eq (by kernel_rfl) h
set_option maxRecDepth 100000 in
theorem k11e {r1 : Int} {e0 : List TQuestion} {nx2 : HL TB.den k7y.hs → Prop} {s1 : Int} {s2 : List Int} {s10 : Int} {s50 : Bool} {h1_0 : Int} {h1_1 : List Int} {h1_2 : Int} {g0 : List TQuestion} (h :
((s50 = true →
(g0 = g0) ∧ h1_2 = r1 ∧ g0 = e0) ∧
(s50 = false →
(g0 = g0) ∧ nx2 (s1, s2, (IntKind.i64.wrap (s10 + 1) : Int), h1_0, h1_1, h1_2, g0, ())))) : kpn (r1, e0, ()) nx2 (s1, s2, s10, s50, h1_0, h1_1, h1_2, g0, ()) := ⟨mpr_of (by kernel_rfl) h⟩
def k18m (r1 : Int) (e0 : List TQuestion) (k1 : Int → Prop) (s1 : Int) (s2 : List Int) (g0 : List TQuestion) (s8 : Int) : Prop :=
(decide (s8 < (s2.length : Int)) = true →
(0 ≤ s8) ∧ s8 < (s2.length : Int) ∧ let v2 : Bool := decide (18446744069414584321 ≤ (ix s2 s8))
(v2 = true →
(g0 = g0) ∧ 0 = r1 ∧ g0 = e0) ∧
(v2 = false →
(g0 = g0) ∧ k1 (IntKind.i64.wrap (s8 + 1) : Int))) ∧
(decide (s8 < (s2.length : Int)) = false →
((18446744069414584321 : Int) = 18446744069414584321 ∧ U64 s1 ∧ Us s2 ∧ s2.length ≤ 1099511627776) ∧ (g0 = g0) ∧ Md.Loop (s1, s2, (0 : Int), s1, s2, ((hashS s1 s2) : Int), g0, ()) (koo (r1, e0, ())))
set_option maxRecDepth 100000 in
theorem k1g4 {r1 : Int} {e0 : List TQuestion} {s1 : Int} {s2 : List Int} {g0 : List TQuestion} {s8 : Int} (inv : Int → Prop) (μ : Int → Nat) (h0 : inv s8) (hs : ∀ (s8 : Int), inv s8 → k18m r1 e0 (fun s8q => inv s8q ∧ μ s8q < μ s8) s1 s2 g0 s8) : Md.Loop (s1, s2, s8, g0, ()) (kp8 (r1, e0, ())) :=
  ⟨⟨fun s : Int × (List Int) × Int × (List TQuestion) × Unit => (s.1 = s1 ∧ s.2.1 = s2 ∧ s.2.2.2.1 = g0) ∧ inv s.2.2.1, fun s : Int × (List Int) × Int × (List TQuestion) × Unit => μ s.2.2.1, ⟨⟨rfl, rfl, rfl⟩, h0⟩, fun (s1p, s2p, s8p, g0p, ()) ⟨⟨eq0, eq1, eq2⟩, hi⟩ => by
    have eq0 : s1p = s1 := eq0; subst s1p; have eq1 : s2p = s2 := eq1; subst s2p; have eq2 : g0p = g0 := eq2; subst g0p; exact mpr_of (by kernel_rfl) ((congrArg (fun k => k18m r1 e0 k s1 s2 g0 s8p) (lpk1 (⟨rfl, rfl, rfl⟩ : s1 = s1 ∧ s2 = s2 ∧ g0 = g0) inv (fun s8q => μ s8q < μ s8p))).mpr (hs s8p hi))⟩⟩
def k18l (r1 : Int) (e0 : List TQuestion) (nx2 : HL TB.den k7y.hs → Prop) (k2 : Int → Prop) (s1 : Int) (s2 : List Int) (h1_0 : Int) (h1_1 : List Int) (h1_2 : Int) (g0 : List TQuestion) (s10 : Int) : Prop :=
(decide (s10 < (g0.length : Int)) = true →
(0 ≤ s10) ∧ s10 < (g0.length : Int) ∧ ((((ix g0 s10).Label) == s1) = true →
(0 ≤ s10) ∧ s10 < (g0.length : Int) ∧ (((ix g0 s10).Elems).length ≤ 9223372036854775807) ∧ (g0 = g0) ∧ kpn (r1, e0, ()) nx2 (s1, s2, s10, ((decide (((ix g0 s10).Elems) = s2)) : Bool), h1_0, h1_1, h1_2, g0, ())) ∧
((((ix g0 s10).Label) == s1) = false →
(g0 = g0) ∧ kpn (r1, e0, ()) nx2 (s1, s2, s10, false, h1_0, h1_1, h1_2, g0, ()))) ∧
(decide (s10 < (g0.length : Int)) = false →
 g0.length = g0.length ∧ (g0.length + [TQuestion.mk h1_0 h1_1 h1_2].length) * 40 ≤ 140737488355328 ∧ g0.length + [TQuestion.mk h1_0 h1_1 h1_2].length ≤ maxLen ∧ (g0 ++ [TQuestion.mk h1_0 h1_1 h1_2] = g0 ++ [TQuestion.mk h1_0 h1_1 h1_2]) ∧ h1_2 = r1 ∧ g0 ++ [TQuestion.mk h1_0 h1_1 h1_2] = e0)
set_option maxRecDepth 100000 in
theorem k1gh {r1 : Int} {e0 : List TQuestion} {s1 : Int} {s2 : List Int} {h1_0 : Int} {h1_1 : List Int} {h1_2 : Int} {g0 : List TQuestion} {s10 : Int} (inv : Int → Prop) (μ : Int → Nat) (h0 : inv s10) (hs : ∀ (s10 : Int), inv s10 → k18l r1 e0 (fun s : Int × (List Int) × Int × Int × (List Int) × Int × (List TQuestion) × Unit => ((s.1 = s1 ∧ s.2.1 = s2 ∧ s.2.2.2.1 = h1_0 ∧ s.2.2.2.2.1 = h1_1 ∧ s.2.2.2.2.2.1 = h1_2 ∧ s.2.2.2.2.2.2.1 = g0) ∧ inv s.2.2.1) ∧ μ s.2.2.1 < μ s10) (fun s10q => inv s10q ∧ μ s10q < μ s10) s1 s2 h1_0 h1_1 h1_2 g0 s10) : Md.Loop (s1, s2, s10, h1_0, h1_1, h1_2, g0, ()) (koo (r1, e0, ())) :=
  ⟨⟨fun s : Int × (List Int) × Int × Int × (List Int) × Int × (List TQuestion) × Unit => (s.1 = s1 ∧ s.2.1 = s2 ∧ s.2.2.2.1 = h1_0 ∧ s.2.2.2.2.1 = h1_1 ∧ s.2.2.2.2.2.1 = h1_2 ∧ s.2.2.2.2.2.2.1 = g0) ∧ inv s.2.2.1, fun s : Int × (List Int) × Int × Int × (List Int) × Int × (List TQuestion) × Unit => μ s.2.2.1, ⟨⟨rfl, rfl, rfl, rfl, rfl, rfl⟩, h0⟩, fun (s1p, s2p, s10p, h1_0p, h1_1p, h1_2p, g0p, ()) ⟨⟨eq0, eq1, eq2, eq3, eq4, eq5⟩, hi⟩ => by
    have eq0 : s1p = s1 := eq0; subst s1p; have eq1 : s2p = s2 := eq1; subst s2p; have eq2 : h1_0p = h1_0 := eq2; subst h1_0p; have eq3 : h1_1p = h1_1 := eq3; subst h1_1p; have eq4 : h1_2p = h1_2 := eq4; subst h1_2p; have eq5 : g0p = g0 := eq5; subst g0p; exact mpr_of (by kernel_rfl) ((congrArg (fun k => k18l r1 e0 (fun s : Int × (List Int) × Int × Int × (List Int) × Int × (List TQuestion) × Unit => ((s.1 = s1 ∧ s.2.1 = s2 ∧ s.2.2.2.1 = h1_0 ∧ s.2.2.2.2.1 = h1_1 ∧ s.2.2.2.2.2.1 = h1_2 ∧ s.2.2.2.2.2.2.1 = g0) ∧ inv s.2.2.1) ∧ μ s.2.2.1 < μ s10p) k s1 s2 h1_0 h1_1 h1_2 g0 s10p) (lpk1 (⟨rfl, rfl, rfl, rfl, rfl, rfl⟩ : s1 = s1 ∧ s2 = s2 ∧ h1_0 = h1_0 ∧ h1_1 = h1_1 ∧ h1_2 = h1_2 ∧ g0 = g0) inv (fun s10q => μ s10q < μ s10p))).mpr (hs s10p hi))⟩⟩
theorem bd23 : Callable Try.prog 23 := ⟨by rw [Try.func23]; kernel_rfl, by rw [Try.func23]; show some _ ≠ some _; decide⟩
theorem k1ew (p1 : Int) (p2 : List Int) (w0 : List TQuestion) (h : U64 p1 ∧ (Us p2 ∧ p2.length ≤ 1000000000) ∧ QL w0 1000000) : kv4 (p1, p2, w0, ()) (((valH p1 p2) : Int), ((askQ w0 p1 p2) : List TQuestion), ()) := by
  obtain ⟨h1, ⟨h2, h3⟩, h4, h5⟩ := h
  refine k1hi ⟨rfl, k1g4 (AllI (fun x => decide (x < 18446744069414584321)) p2) (fun i => (p2.length - i).toNat) AllI.start ?_⟩
  intro i hi
  refine ⟨fun hh => ?_, fun hh => ?_⟩
  · have hh := of_decide_eq_true hh
    refine ⟨hi.1, hh, ?_⟩
    try dsimp only
    refine ⟨fun e => ?_, fun e => ?_⟩
    · have e := of_decide_eq_true e
      have hb : allB p2 = false := hi.bad hh (decide_eq_false (by omega))
      unfold valH askQ
      rw [if_neg (by rw [hb]; decide), if_neg (by rw [hb]; decide)]
      exact ⟨rfl, rfl, rfl⟩
    · have e := of_decide_eq_false e
      exact ⟨rfl, hi.next hh (by omega) (decide_eq_true (by omega))⟩
  · have hh := of_decide_eq_false hh
    have hb : allB p2 = true := hi.done hh
    have e1 : valH p1 p2 = hashS p1 p2 := if_pos hb
    have e2 : askQ w0 p1 p2 = if knows w0 p1 p2 = true then w0 else w0 ++ [⟨p1, p2, hashS p1 p2⟩] := if_pos hb
    rw [e1, e2]
    refine ⟨⟨rfl, h1, h2, by omega⟩, rfl, ?_⟩
    refine k1gh (fun i => 0 ≤ i ∧ i ≤ w0.length ∧ ∀ x ∈ w0.take i.toNat, ¬ (x.Label = p1 ∧ x.Elems = p2)) (fun i => (w0.length - i).toNat) ⟨by omega, by omega, by simp⟩ ?_
    rintro i ⟨g0, g1, g2⟩
    have nxt : i < w0.length → ¬ ((ix w0 i).Label = p1 ∧ (ix w0 i).Elems = p2) → (0 ≤ IntKind.i64.wrap (i + 1) ∧ IntKind.i64.wrap (i + 1) ≤ w0.length ∧ ∀ x ∈ w0.take (IntKind.i64.wrap (i + 1)).toNat, ¬ (x.Label = p1 ∧ x.Elems = p2)) ∧ ((w0.length : Int) - IntKind.i64.wrap (i + 1)).toNat < ((w0.length : Int) - i).toNat := by
      intro hh hne
      rw [inc i w0.length g0 hh (by omega)]
      refine ⟨⟨by omega, by omega, fun x hx => ?_⟩, by omega⟩
      rw [k7e w0 i g0 hh] at hx
      rcases List.mem_append.1 hx with hx | hx
      · exact g2 x hx
      · rw [List.mem_singleton.1 hx]; exact hne
    refine ⟨fun hh => ?_, fun hh => ?_⟩
    · have hh := of_decide_eq_true hh
      refine ⟨g0, hh, fun e3 => ?_, fun e3 => ?_⟩
      · have e3 : (ix w0 i).Label = p1 := by simpa using e3
        have hel := h5 _ (ix_mem w0 i g0 hh)
        refine ⟨g0, hh, by omega, rfl, k11e ⟨fun e4 => ?_, fun e4 => ?_⟩⟩
        · have e4 : (ix w0 i).Elems = p2 := of_decide_eq_true e4
          rw [if_pos (kxg.2 ⟨_, ix_mem w0 i g0 hh, e3, e4⟩)]
          exact ⟨rfl, rfl, rfl⟩
        · have e4 : ¬ (ix w0 i).Elems = p2 := of_decide_eq_false e4
          exact ⟨rfl, ⟨⟨rfl, rfl, rfl, rfl, rfl, rfl⟩, (nxt hh fun q => e4 q.2).1⟩, (nxt hh fun q => e4 q.2).2⟩
      · have e3 : ¬ (ix w0 i).Label = p1 := by simpa using e3
        exact ⟨rfl, k11e ⟨(fun e4 => by cases e4), fun _ => ⟨rfl, ⟨⟨rfl, rfl, rfl, rfl, rfl, rfl⟩, (nxt hh fun q => e3 q.1).1⟩, (nxt hh fun q => e3 q.1).2⟩⟩⟩
    · have hh := of_decide_eq_false hh
      rw [List.take_of_length_le (by omega)] at g2
      rw [if_neg (fun hk => by obtain ⟨x, hx, hxl⟩ := kxg.1 hk; exact g2 x hx hxl)]
      exact ⟨rfl, by simp; omega, by simp; unfold maxLen; omega, rfl, rfl, rfl⟩
noncomputable def kyj : Con TB.den := k4v.fnR (fun x => (fun (p1 : Int) (p2 : List Int) (w0 : List TQuestion) => U64 p1 ∧ (Us p2 ∧ p2.length ≤ 1000000000) ∧ QL w0 1000000) x.1 x.2.1 x.2.2.1) fun x => ((fun (p1 : Int) (p2 : List Int) (w0 : List TQuestion) => ((valH p1 p2) : Int)) x.1 x.2.1 x.2.2.1, (fun (p1 : Int) (p2 : List Int) (w0 : List TQuestion) => ((askQ w0 p1 p2) : List TQuestion)) x.1 x.2.1 x.2.2.1, ())
theorem k17b : kyj.Ok Try.prog TB := Con.ok_fn k4v bd23 fun x h => k1fn (k1ew x.1 x.2.1 x.2.2.1 h)
end Go.Proofs.Ytponaobpcdkggaa
namespace Go.Proofs.Ytponaobpcdkggaa
open Go Go.Bv Go.Cv Go.Md Go.RowKit
def k3q : Con TB.den := Con.mk0 17 [.one (.d (.int .u64)), .one (.d (.sl (.st 0)))] [] (.tup [.one (.d (.int .u64)), .one (.d (.sl (.st 1)))]) []
abbrev k13l := HL TB.den (hsT k3q.ins (hsOs k3q.pre))
abbrev k9g := HL TB.den (hsV k3q.res (hsOs k3q.post))
noncomputable def k8q : Cx TB := ⟨inf, [kyj], [], 4, []⟩
noncomputable def kec : Code := Try.f17.body.getD .skip
noncomputable def ki6 : List ResultVar := Try.f17.results.toList
noncomputable def k1cq (o : k9g) : Exit → TSt TB.den → Prop := thenT TB (fun s => ghs TB [] s fun s => WP TB k8q 35 0 (cB (cB (cB kec))) .no s (retTQ TB k8q k3q ki6 o)) (retTQ TB k8q k3q ki6 o)
def kbk : Tm := ⟨[1], [.tip (.st 1)], [0, 1, 6, 7], [.one (.d (.int .u64)), .one (.d (.sl (.st 0))), .one (.own 0), .one (.d (.int .i64))], 2⟩
noncomputable def k1bz (o : k9g) (nx1 : HL TB.den kbk.hs → Prop) : Exit → TSt TB.den → Prop := thenT TB (fun s => kbk.mat TB 0 s nx1) (blockT TB 0 (k1cq o))
noncomputable def ki5 (o : k9g) (nx1 : HL TB.den kbk.hs → Prop) (i : HL TB.den kbk.hs) : Prop := WP TB k8q 35 0 (cA (cA (cB (cA (cB (cB kec)))))) .no (kbk.fill TB i) (k1bz o nx1)
noncomputable def k1by (o : k9g) : An TB := .lp [.tok 6 (.st 1)] kbk (ki5 o) fun nx1 => .no
noncomputable def k1bs (o : k9g) : An TB := .nd [] .no [] (.nd [] (.nd [] .no [] (k1by o)) [] .no)
noncomputable def k10u (o : k9g) : An TB := .nd [] .no [] (k1bs o)
noncomputable def kpq (x : k13l) (o : k9g) : Prop := WPh TB k8q 35 0 kec (k10u o) (k3q.st TB x) (retTQ TB k8q k3q ki6 o)
set_option maxRecDepth 100000 in
theorem k1ab (o : k9g) : OblH TB k8q 35 0 kec (k10u o) (retTQ TB k8q k3q ki6 o) :=
  OblH.of_eq (X := (True ∧ (True ∧ ((True ∧ ((∀ nx i, (ki5 o) nx i = (ki5 o) nx i) ∧ ∀ nx1 : HL TB.den kbk.hs → Prop, ((True ∧ (True ∧ True)) ∧ (True ∧ True)))) ∧ (True ∧ True))))) (by kernel_rfl) ⟨trivial, ⟨trivial, ⟨⟨trivial, ⟨fun _ _ => rfl, fun _ => ⟨⟨trivial, ⟨trivial, trivial⟩⟩, ⟨trivial, trivial⟩⟩⟩⟩, ⟨trivial, trivial⟩⟩⟩⟩
set_option maxRecDepth 100000 in
theorem k1a8 {x : k13l} {o : k9g} (h : kpq x o) : SoundH Try.prog k3q.f ((k3q.args idf x).map (er TB)) ((k3q.obs idf x).map (erO TB)) (er TB (k3q.val idf o)) ((k3q.ops idf o).map (erO TB)) :=
  Con.soundH (c := k3q) (C := k8q) TBok ⟨inf_ok, (all_cons k17b all_nil), all_nil⟩ mix Try.func17 (show Try.f17.body = some kec by kernel_rfl) (show Try.f17.ntmps = 35 by kernel_rfl) (show Try.f17.results.toList = ki6 by kernel_rfl) rfl h (k1ab o)
set_option maxRecDepth 100000 in
theorem k1d1 {p0 : Int} {p1 : List TMessage} {r0 : Int} {r1 : List TQuestion} (h :
((([] : List TQuestion) = ([] : List TQuestion)) ∧ Md.Loop (p0, p1, (0 : Int), (([] : List TQuestion) : List TQuestion), ()) (ki5 (r0, r1, ())))) : kpq (p0, p1, ()) (r0, r1, ()) := WPh.of_eq (by kernel_rfl) h
def k11t (r0 : Int) (r1 : List TQuestion) (k1 : Int → Int → List TQuestion → Prop) (s1 : List TMessage) (s0 : Int) (s7 : Int) (g1 : List TQuestion) : Prop :=
(decide (s7 < (s1.length : Int)) = true →
(0 ≤ s7) ∧ s7 < (s1.length : Int) ∧ (0 ≤ s7) ∧ s7 < (s1.length : Int) ∧ ([s0, (ix s1 s7).Tag].length + ((ix s1 s7).L).length) * 8 ≤ 140737488355328 ∧ [s0, (ix s1 s7).Tag].length + ((ix s1 s7).L).length ≤ maxLen ∧ (g1 = g1) ∧ (U64 (18 : Int) ∧ (Us ([s0, (ix s1 s7).Tag] ++ ((ix s1 s7).L)) ∧ ([s0, (ix s1 s7).Tag] ++ ((ix s1 s7).L)).length ≤ 1000000000) ∧ QL g1 1000000) ∧ let r2 : Int := (valH (18 : Int) ([s0, (ix s1 s7).Tag] ++ ((ix s1 s7).L)))
 let r3 : List TQuestion := (askQ g1 (18 : Int) ([s0, (ix s1 s7).Tag] ++ ((ix s1 s7).L)))
(r3 = r3) ∧ k1 r2 (IntKind.i64.wrap (s7 + 1) : Int) r3) ∧
(decide (s7 < (s1.length : Int)) = false →
 s0 = r0 ∧ g1 = r1)
set_option maxRecDepth 100000 in
theorem k19p {r0 : Int} {r1 : List TQuestion} {s1 : List TMessage} {s0 : Int} {s7 : Int} {g1 : List TQuestion} (inv : Int → Int → List TQuestion → Prop) (μ : Int → Int → List TQuestion → Nat) (h0 : inv s0 s7 g1) (hs : ∀ (s0 : Int) (s7 : Int) (g1 : List TQuestion), inv s0 s7 g1 → k11t r0 r1 (fun s0q s7q g1q => inv s0q s7q g1q ∧ μ s0q s7q g1q < μ s0 s7 g1) s1 s0 s7 g1) : Md.Loop (s0, s1, s7, g1, ()) (ki5 (r0, r1, ())) :=
  ⟨⟨fun s : Int × (List TMessage) × Int × (List TQuestion) × Unit => (s.2.1 = s1) ∧ inv s.1 s.2.2.1 s.2.2.2.1, fun s : Int × (List TMessage) × Int × (List TQuestion) × Unit => μ s.1 s.2.2.1 s.2.2.2.1, ⟨rfl, h0⟩, fun (s0p, s1p, s7p, g1p, ()) ⟨eq0, hi⟩ => by
    have eq0 : s1p = s1 := eq0; subst s1p; exact mpr_of (by kernel_rfl) ((congrArg (fun k => k11t r0 r1 k s1 s0p s7p g1p) (lpk3 (rfl : s1 = s1) inv (fun s0q s7q g1q => μ s0q s7q g1q < μ s0p s7p g1p))).mpr (hs s0p s7p g1p hi))⟩⟩
theorem bd17 : Callable Try.prog 17 := ⟨by rw [Try.func17]; kernel_rfl, by rw [Try.func17]; show some _ ≠ some _; decide⟩
theorem k18w (p0 : Int) (p1 : List TMessage) (h : U64 p0 ∧ (∀ m ∈ p1, MR m) ∧ p1.length ≤ 1000) : kpq (p0, p1, ()) ((((refA p0 [] p1).s) : Int), (((refA p0 [] p1).q) : List TQuestion), ()) := by
  obtain ⟨h1, h2, h3⟩ := h
  generalize hA : refA p0 [] p1 = A
  refine k1d1 ⟨rfl, k19p (fun s i q => (0 ≤ i ∧ i ≤ p1.length) ∧ U64 s ∧ refA s q (p1.drop i.toNat) = A ∧ QL q i.toNat) (fun _ i _ => (p1.length - i).toNat) ⟨⟨by omega, by omega⟩, h1, hA, ⟨by simp, fun x hx => by cases hx⟩⟩ ?_⟩
  rintro s i q ⟨⟨g0, g1⟩, g2, g3, g4⟩
  refine ⟨fun hh => ?_, fun hh => ?_⟩
  · have hh := of_decide_eq_true hh
    have hm := h2 _ (ix_mem p1 i g0 hh)
    have hn := hm.n
    have hq := g4.n
    rw [drop_ix p1 i g0 hh] at g3
    have hle : ([s, (ix p1 i).Tag] ++ (ix p1 i).L).length ≤ 1000000000 := by simp; omega
    have g5 := g4.ask (label := 18) hle
    refine ⟨g0, hh, g0, hh, by simp; omega, by simp; unfold maxLen; omega, rfl, ⟨by decide, ⟨us2 g2 hm.t hm.l, hle⟩, ⟨by omega, g4.e⟩⟩, ?_⟩
    try dsimp only
    rw [inc i p1.length g0 hh (by omega)]
    refine ⟨rfl, ⟨⟨by omega, by omega⟩, (valH_lt _ _).1, g3, ?_⟩, by omega⟩
    rw [show (i + 1).toNat = i.toNat + 1 by omega]
    exact g5
  · have hh := of_decide_eq_false hh
    rw [List.drop_eq_nil_of_le (by omega)] at g3
    rw [← g3]
    exact ⟨rfl, rfl⟩
noncomputable def kyw : Con TB.den := k3q.fnR (fun x => (fun (p0 : Int) (p1 : List TMessage) => U64 p0 ∧ (∀ m ∈ p1, MR m) ∧ p1.length ≤ 1000) x.1 x.2.1) fun x => ((fun (p0 : Int) (p1 : List TMessage) => (((refA p0 [] p1).s) : Int)) x.1 x.2.1, (fun (p0 : Int) (p1 : List TMessage) => (((refA p0 [] p1).q) : List TQuestion)) x.1 x.2.1, ())
theorem k1d4 : kyw.Ok Try.prog TB := Con.ok_fn k3q bd17 fun x h => k1a8 (k18w x.1 x.2.1 h)
end Go.Proofs.Ytponaobpcdkggaa
namespace Go.Proofs.Ytponaobpcdkggaa
open Go Go.Bv Go.Cv Go.Md Go.RowKit
def k4d : Con TB.den := Con.mk0 16 [.one (.d (.sl (.st 0)))] [] (.one (.one (.d (.bool)))) []
abbrev k14u := HL TB.den (hsT k4d.ins (hsOs k4d.pre))
abbrev kcm := HL TB.den (hsV k4d.res (hsOs k4d.post))
noncomputable def k9t : Cx TB := ⟨inf, [], [], 4, []⟩
noncomputable def kfg : Code := Try.f16.body.getD .skip
noncomputable def kk7 : List ResultVar := Try.f16.results.toList
noncomputable def k1dz (o : kcm) : Exit → TSt TB.den → Prop := thenT TB (fun s => ghs TB [] s fun s => WP TB k9t 20 0 (cB (cB kfg)) .no s (retTQ TB k9t k4d kk7 o)) (retTQ TB k9t k4d kk7 o)
def kd2 : Tm := ⟨[], [], [0, 3], [.one (.d (.sl (.st 0))), .one (.d (.int .i64))], 0⟩
noncomputable def k1em (o : kcm) (nx1 : HL TB.den kd2.hs → Prop) : Exit → TSt TB.den → Prop := thenT TB (fun s => kd2.mat TB 0 s nx1) (blockT TB 0 (k1dz o))
noncomputable def kjk (o : kcm) (nx1 : HL TB.den kd2.hs → Prop) (i : HL TB.den kd2.hs) : Prop := WP TB k9t 20 0 (cA (cA (cB (cA (cB kfg))))) .no (kd2.fill TB i) (k1em o nx1)
noncomputable def k1eg (o : kcm) : An TB := .nd [] .no [] (.lp [] kd2 (kjk o) fun nx1 => .no)
noncomputable def k133 (o : kcm) : An TB := .nd [] .no [] (.nd [] (k1eg o) [] .no)
noncomputable def krp (x : k14u) (o : kcm) : Prop := WPh TB k9t 20 0 kfg (k133 o) (k4d.st TB x) (retTQ TB k9t k4d kk7 o)
set_option maxRecDepth 100000 in
theorem k1cn (o : kcm) : OblH TB k9t 20 0 kfg (k133 o) (retTQ TB k9t k4d kk7 o) :=
  OblH.of_eq (X := (True ∧ ((True ∧ ((∀ nx i, (kjk o) nx i = (kjk o) nx i) ∧ ∀ nx1 : HL TB.den kd2.hs → Prop, ((True ∧ (True ∧ True)) ∧ ((True ∧ ((True ∧ True) ∧ True)) ∧ True)))) ∧ (True ∧ True)))) (by kernel_rfl) ⟨trivial, ⟨⟨trivial, ⟨fun _ _ => rfl, fun _ => ⟨⟨trivial, ⟨trivial, trivial⟩⟩, ⟨⟨trivial, ⟨⟨trivial, trivial⟩, trivial⟩⟩, trivial⟩⟩⟩⟩, ⟨trivial, trivial⟩⟩⟩
set_option maxRecDepth 100000 in
theorem k1cs {x : k14u} {o : kcm} (h : krp x o) : SoundH Try.prog k4d.f ((k4d.args idf x).map (er TB)) ((k4d.obs idf x).map (erO TB)) (er TB (k4d.val idf o)) ((k4d.ops idf o).map (erO TB)) :=
  Con.soundH (c := k4d) (C := k9t) TBok ⟨inf_ok, all_nil, all_nil⟩ mix Try.func16 (show Try.f16.body = some kfg by kernel_rfl) (show Try.f16.ntmps = 20 by kernel_rfl) (show Try.f16.results.toList = kk7 by kernel_rfl) rfl h (k1cn o)
set_option maxRecDepth 100000 in
theorem k1ef {p0 : List TMessage} {r0 : Bool} (h :
(Md.Loop (p0, (0 : Int), ()) (kjk (r0, ())))) : krp (p0, ()) (r0, ()) := WPh.of_eq (by kernel_rfl) h
def k132 (r0 : Bool) (k1 : Int → Prop) (s0 : List TMessage) (s3 : Int) : Prop :=
(decide (s3 < (s0.length : Int)) = true →
(0 ≤ s3) ∧ s3 < (s0.length : Int) ∧ let v1 : Bool := decide (40 < (((ix s0 s3).L).length : Int))
(v1 = true →
 false = r0) ∧
(v1 = false →
 k1 (IntKind.i64.wrap (s3 + 1) : Int))) ∧
(decide (s3 < (s0.length : Int)) = false →
 decide ((s0.length : Int) ≤ 20) = r0)
set_option maxRecDepth 100000 in
theorem k1c1 {r0 : Bool} {s0 : List TMessage} {s3 : Int} (inv : Int → Prop) (μ : Int → Nat) (h0 : inv s3) (hs : ∀ (s3 : Int), inv s3 → k132 r0 (fun s3q => inv s3q ∧ μ s3q < μ s3) s0 s3) : Md.Loop (s0, s3, ()) (kjk (r0, ())) :=
  ⟨⟨fun s : (List TMessage) × Int × Unit => (s.1 = s0) ∧ inv s.2.1, fun s : (List TMessage) × Int × Unit => μ s.2.1, ⟨rfl, h0⟩, fun (s0p, s3p, ()) ⟨eq0, hi⟩ => by
    have eq0 : s0p = s0 := eq0; subst s0p; exact mpr_of (by kernel_rfl) ((congrArg (fun k => k132 r0 k s0 s3p) (lpk1 (rfl : s0 = s0) inv (fun s3q => μ s3q < μ s3p))).mpr (hs s3p hi))⟩⟩
theorem bd16 : Callable Try.prog 16 := ⟨by rw [Try.func16]; kernel_rfl, by rw [Try.func16]; show some _ ≠ some _; decide⟩
theorem k1ai (p0 : List TMessage) (h : p0.length ≤ 9223372036854775807) : krp (p0, ()) (((decide (p0.length ≤ 20) && p0.all (fun m => decide (m.L.length ≤ 40))) : Bool), ()) := by
  refine k1ef (k1c1 (AllI (fun m => decide (m.L.length ≤ 40)) p0) (fun i => (p0.length - i).toNat) AllI.start ?_)
  intro i hi
  refine ⟨fun hh => ?_, fun hh => ?_⟩
  · have hh := of_decide_eq_true hh
    refine ⟨hi.1, hh, ?_⟩
    try dsimp only
    refine ⟨fun e => ?_, fun e => ?_⟩
    · have e := of_decide_eq_true e
      rw [hi.bad hh (decide_eq_false (by omega)), Bool.and_false]
    · have e := of_decide_eq_false e
      exact hi.next hh (by omega) (decide_eq_true (by omega))
  · have hh := of_decide_eq_false hh
    rw [hi.done hh, Bool.and_true]
    congr 1
    exact propext ⟨fun h => by omega, fun h => by omega⟩
noncomputable def k10s : Con TB.den := k4d.fnR (fun x => (fun (p0 : List TMessage) => p0.length ≤ 9223372036854775807) x.1) fun x => ((fun (p0 : List TMessage) => ((decide (p0.length ≤ 20) && p0.all (fun m => decide (m.L.length ≤ 40))) : Bool)) x.1, ())
theorem k1ee : k10s.Ok Try.prog TB := Con.ok_fn k4d bd16 fun x h => k1cs (k1ai x.1 h)
end Go.Proofs.Ytponaobpcdkggaa
namespace Go.Proofs.Ytponaobpcdkggaa
open Go Go.Bv Go.Cv Go.Md Go.RowKit
def k1w : Con TB.den := Con.mk0 5 [.one (.d (.int .u64)), .one (.d (.sl (.st 0)))] [] (.one (.one (.d (.bool)))) []
abbrev kma := HL TB.den (hsT k1w.ins (hsOs k1w.pre))
abbrev k53 := HL TB.den (hsV k1w.res (hsOs k1w.post))
noncomputable def k3v : Cx TB := ⟨inf, [kc5, kn8, k10s, kyw, kw5, kpk], [], 4, []⟩
noncomputable def k6z : Code := Try.f5.body.getD .skip
noncomputable def k81 : List ResultVar := Try.f5.results.toList
noncomputable def kwu (o : k53) : Exit → TSt TB.den → Prop := thenT TB (fun s => ghs TB [] s fun s => WP TB k3v 43 0 (cB (cB (cB k6z))) .no s (retTQ TB k3v k1w k81 o)) (retTQ TB k3v k1w k81 o)
def k9i : Tm := ⟨[0, 1, 2, 3, 4], [.cells [.d (.bool), .d (.int .u64), .d (.int .i64), .own 1, .mp 2, .mp 3, .mp 4], .tip (.st 1), .map (.str) (.int .i64), .map (.str) (.sl (.int .u64)), .map (.str) (.bool)], [0, 1, 5, 19], [.one (.d (.int .u64)), .one (.d (.sl (.st 0))), .one (.ptr 0 0), .one (.d (.bool))], 5⟩
noncomputable def kjm (o : k53) (i : HL TB.den k9i.hs) : Prop := ghs TB [] (k9i.fill TB i) fun s => WP TB k3v 43 0 (cB (cA (cB (cB k6z)))) .no s (kwu o)
structure k5m (o : k53) (i : HL TB.den k9i.hs) : Prop where
  h : kjm o i
noncomputable def kwz (o : k53) : An TB := .jn k9i (k5m o) [] .no [] .no
noncomputable def kl5 (o : k53) : An TB := .nd [] .no [] (.nd [] .no [] (.nd [] (kwz o) [] .no))
noncomputable def kc7 (x : kma) (o : k53) : Prop := WPh TB k3v 43 0 k6z (kl5 o) (k1w.st TB x) (retTQ TB k3v k1w k81 o)
set_option maxRecDepth 100000 in
theorem kvj (o : k53) : OblH TB k3v 43 0 k6z (kl5 o) (retTQ TB k3v k1w k81 o) :=
  OblH.of_eq (X := (True ∧ (True ∧ ((True ∧ (∀ i, (k5m o) i = (kjm o) i) ∧ ((True ∧ True) ∧ True)) ∧ (True ∧ (True ∧ True)))))) (by kernel_rfl) ⟨trivial, ⟨trivial, ⟨⟨trivial, fun _ => propext ⟨fun h => h.1, fun h => ⟨h⟩⟩, ⟨⟨trivial, trivial⟩, trivial⟩⟩, ⟨trivial, ⟨trivial, trivial⟩⟩⟩⟩⟩
set_option maxRecDepth 100000 in
theorem kv2 {x : kma} {o : k53} (h : kc7 x o) : SoundH Try.prog k1w.f ((k1w.args idf x).map (er TB)) ((k1w.obs idf x).map (erO TB)) (er TB (k1w.val idf o)) ((k1w.ops idf o).map (erO TB)) :=
  Con.soundH (c := k1w) (C := k3v) TBok ⟨inf_ok, (all_cons khd (all_cons kum (all_cons k1ee (all_cons k1d4 (all_cons k18z (all_cons kz7 all_nil)))))), all_nil⟩ mix Try.func5 (show Try.f5.body = some k6z by kernel_rfl) (show Try.f5.ntmps = 43 by kernel_rfl) (show Try.f5.results.toList = k81 by kernel_rfl) rfl h (kvj o)
set_option maxRecDepth 100000 in
theorem kx2 {p0 : Int} {p1 : List TMessage} {r0 : Bool} (h :
(((!true) = true →
(([] : List TQuestion) = ([] : List TQuestion)) ∧ k5m (r0, ()) (p0, p1, true, false, (0 : Int), (0 : Int), (([] : List TQuestion) : List TQuestion), ([] : List ByteArray), ([] : List Int), ([] : List ByteArray), ([] : List (List Int)), ([] : List ByteArray), ([] : List Bool), ())) ∧
((!true) = false →
(p1.length ≤ 9223372036854775807) ∧ let r1 : Bool := (decide (p1.length ≤ 20) && p1.all (fun m => decide (m.L.length ≤ 40)))
((!r1) = true →
(([] : List TQuestion) = ([] : List TQuestion)) ∧ k5m (r0, ()) (p0, p1, true, false, (0 : Int), (0 : Int), (([] : List TQuestion) : List TQuestion), ([] : List ByteArray), ([] : List Int), ([] : List ByteArray), ([] : List (List Int)), ([] : List ByteArray), ([] : List Bool), ())) ∧
((!r1) = false →
(([] : List TQuestion) = ([] : List TQuestion)) ∧ k5m (r0, ()) (p0, p1, false, false, (0 : Int), (0 : Int), (([] : List TQuestion) : List TQuestion), ([] : List ByteArray), ([] : List Int), ([] : List ByteArray), ([] : List (List Int)), ([] : List ByteArray), ([] : List Bool), ()))))) : kc7 (p0, p1, ()) (r0, ()) := WPh.of_eq (by kernel_rfl) h
set_option maxRecDepth 100000 in
theorem kt0 {r0 : Bool} {s0 : Int} {s1 : List TMessage} {s19 : Bool} {h0_0 : Bool} {h0_1 : Int} {h0_2 : Int} {g1 : List TQuestion} {g2k : List ByteArray} {g2v : List Int} {g3k : List ByteArray} {g3v : List (List Int)} {g4k : List ByteArray} {g4v : List Bool} (h :
((s19 = true →
(true = true →
 true = r0) ∧
(true = false →
 false = r0)) ∧
(s19 = false →
(U64 s0 ∧ (∀ m ∈ s1, MR m) ∧ s1.length ≤ 1000) ∧ (g1 = g1) ∧ (U64 s0 ∧ ((∀ m ∈ s1, MR m) ∧ s1.length ≤ 1000) ∧ OOk (OS.mk h0_0 h0_1 h0_2 g1 g2k g2v g3k g3v g4k g4v) ∧ g1.length ≤ 900000) ∧ let r2 : Int := ((absO (OS.mk h0_0 h0_1 h0_2 g1 g2k g2v g3k g3v g4k g4v) (TTranscript.mk s0 0) s1).t).State
 let r3 : Int := ((absO (OS.mk h0_0 h0_1 h0_2 g1 g2k g2v g3k g3v g4k g4v) (TTranscript.mk s0 0) s1).t).Count
 let r4 : Bool := ((absO (OS.mk h0_0 h0_1 h0_2 g1 g2k g2v g3k g3v g4k g4v) (TTranscript.mk s0 0) s1).o.a)
 let r5 : Int := ((absO (OS.mk h0_0 h0_1 h0_2 g1 g2k g2v g3k g3v g4k g4v) (TTranscript.mk s0 0) s1).o.b)
 let r6 : Int := ((absO (OS.mk h0_0 h0_1 h0_2 g1 g2k g2v g3k g3v g4k g4v) (TTranscript.mk s0 0) s1).o.c)
 let r7 : List TQuestion := ((absO (OS.mk h0_0 h0_1 h0_2 g1 g2k g2v g3k g3v g4k g4v) (TTranscript.mk s0 0) s1).o.q)
 let r8 : List ByteArray := ((absO (OS.mk h0_0 h0_1 h0_2 g1 g2k g2v g3k g3v g4k g4v) (TTranscript.mk s0 0) s1).o.k)
 let r9 : List Int := ((absO (OS.mk h0_0 h0_1 h0_2 g1 g2k g2v g3k g3v g4k g4v) (TTranscript.mk s0 0) s1).o.v)
 let r10 : List ByteArray := ((absO (OS.mk h0_0 h0_1 h0_2 g1 g2k g2v g3k g3v g4k g4v) (TTranscript.mk s0 0) s1).o.s)
 let r11 : List (List Int) := ((absO (OS.mk h0_0 h0_1 h0_2 g1 g2k g2v g3k g3v g4k g4v) (TTranscript.mk s0 0) s1).o.t)
 let r12 : List ByteArray := ((absO (OS.mk h0_0 h0_1 h0_2 g1 g2k g2v g3k g3v g4k g4v) (TTranscript.mk s0 0) s1).o.x)
 let r13 : List Bool := ((absO (OS.mk h0_0 h0_1 h0_2 g1 g2k g2v g3k g3v g4k g4v) (TTranscript.mk s0 0) s1).o.y)
 let v14 : Bool := ((r2 == ((refA s0 [] s1).s)) && ((r3 == 0) && true))
(v14 = true →
(r7 = r7) ∧ (r7.length ≤ 1000000 ∧ ∀ x ∈ r7, x.Elems.length ≤ 1000000000) ∧ (decide (r7 = ((refA s0 [] s1).q))) = r0) ∧
(v14 = false →
 false = r0)))) : k5m (r0, ()) (s0, s1, s19, h0_0, h0_1, h0_2, g1, g2k, g2v, g3k, g3v, g4k, g4v, ()) := ⟨mpr_of (by kernel_rfl) h⟩
theorem ktp (p0 : Int) (p1 : List TMessage) (h : U64 p0 ∧ (∀ m ∈ p1, MU m) ∧ p1.length ≤ 9223372036854775807) : kc7 (p0, p1, ()) ((true : Bool), ()) := by
  obtain ⟨h0, h1, h2⟩ := h
  have z : RR (OS.mk false 0 0 [] [] [] [] [] [] []) := RR.z
  have zo : OOk (OS.mk false 0 0 [] [] [] [] [] [] []) := OOk.z false 0
  have j1 : ∀ s, (s = false → p1.length ≤ 20 ∧ ∀ m ∈ p1, m.L.length ≤ 40) → k5m (true, ()) (p0, p1, s, false, (0 : Int), (0 : Int), ([] : List TQuestion), ([] : List ByteArray), ([] : List Int), ([] : List ByteArray), ([] : List (List Int)), ([] : List ByteArray), ([] : List Bool), ()) := by
    intro s hs
    refine kt0 ⟨fun _ => by simp, fun e => ?_⟩
    obtain ⟨q1, q2⟩ := hs e
    have hm : ∀ m ∈ p1, MR m := fun m hm => ⟨(h1 m hm).t, (h1 m hm).l, by have := q2 m hm; omega⟩
    obtain ⟨k1, k2, k3, k4, k5⟩ := abs_ref p1 _ ⟨p0, 0⟩ z h0 hm
    obtain ⟨k6, k7⟩ := absO_ok p1 _ ⟨p0, 0⟩ zo hm (by show 0 + _ ≤ _; omega)
    refine ⟨⟨h0, hm, by omega⟩, (by first | exact rfl | exact True.intro), ⟨h0, ⟨hm, by omega⟩, zo, by decide⟩, ?_⟩
    dsimp only
    generalize absO (OS.mk false 0 0 [] [] [] [] [] [] []) ⟨p0, 0⟩ p1 = A at *
    have e1 : A.t.State = (refA p0 [] p1).s := k1
    have e2 : A.o.q = (refA p0 [] p1).q := k2
    have e3 : A.t.Count = 0 := by rcases k4 with k4 | k4; rw [k4]; exact k4
    rw [e1, e3]
    refine ⟨fun _ => ⟨(by first | exact rfl | exact True.intro), ⟨k6.q, k6.e⟩, by rw [e2]; simp⟩, fun h => by simp at h⟩
  refine kx2 ⟨fun h => by simp at h, fun _ => ⟨h2, ?_⟩⟩
  dsimp only
  refine ⟨fun _ => ⟨rfl, j1 _ (fun h => by cases h)⟩, fun e => ⟨rfl, j1 _ fun _ => ?_⟩⟩
  simpa using e
end Go.Proofs.Ytponaobpcdkggaa
namespace Go.Proofs.Ytponaobpcdkggaa
open Go Go.Bv Go.Cv Go.Md Go.RowKit
def k1j : Con TB.den := Con.mk0 14 [.agg [.d (.int .u64), .d (.int .u64)], .one (.d (.int .i64))] [] (.one (.one (.d (.sl (.sl (.int .u64)))))) []
abbrev kmh := HL TB.den (hsT k1j.ins (hsOs k1j.pre))
abbrev k45 := HL TB.den (hsV k1j.res (hsOs k1j.post))
noncomputable def k3w : Cx TB := ⟨inf, [], [], 4, []⟩
noncomputable def k76 : Code := Try.f14.body.getD .skip
noncomputable def k82 : List ResultVar := Try.f14.results.toList
noncomputable def kwm (o : k45) : Exit → TSt TB.den → Prop := thenT TB (fun s => ghs TB [] s fun s => WP TB k3w 33 0 (cB (cB (cB (cB k76)))) (.nd [] .no [] (.rt [.frz 1 [4]])) s (retTQ TB k3w k1j k82 o)) (retTQ TB k3w k1j k82 o)
def k5o : Tm := ⟨[0, 1], [.cells [.d (.int .u64), .d (.int .u64)], .vec (.sl (.int .u64))], [2, 5, 16, 17], [.one (.ptr 0 0), .one (.row 1), .one (.d (.int .i64)), .one (.d (.int .i64))], 2⟩
noncomputable def kwj (o : k45) (nx1 : HL TB.den k5o.hs → Prop) : Exit → TSt TB.den → Prop := thenT TB (fun s => k5o.mat TB 0 s nx1) (blockT TB 0 (kwm o))
noncomputable def k80 (o : k45) (nx1 : HL TB.den k5o.hs → Prop) (i : HL TB.den k5o.hs) : Prop := WP TB k3w 33 0 (cA (cA (cB (cA (cB (cB (cB k76))))))) .no (k5o.fill TB i) (kwj o nx1)
noncomputable def kwk (o : k45) : An TB := .lp [] k5o (k80 o) fun nx1 => .no
noncomputable def kwx (o : k45) : An TB := .nd [] (.nd [] .no [] (kwk o)) [] (.nd [] .no [] (.rt [.frz 1 [4]]))
noncomputable def kld (o : k45) : An TB := .nd [] .no [] (.nd [] .no [] (.nd [] .no [] (kwx o)))
noncomputable def kcf (x : kmh) (o : k45) : Prop := WPh TB k3w 33 0 k76 (kld o) (k1j.st TB x) (retTQ TB k3w k1j k82 o)
set_option maxRecDepth 100000 in
theorem kv7 (o : k45) : OblH TB k3w 33 0 k76 (kld o) (retTQ TB k3w k1j k82 o) :=
  OblH.of_eq (X := (True ∧ ((True ∧ ((True ∧ True) ∧ True)) ∧ (True ∧ ((True ∧ ((∀ nx i, (k80 o) nx i = (k80 o) nx i) ∧ ∀ nx1 : HL TB.den k5o.hs → Prop, (True ∧ ((True ∧ True) ∧ ((True ∧ True) ∧ True))))) ∧ (True ∧ True)))))) (by kernel_rfl) ⟨trivial, ⟨⟨trivial, ⟨⟨trivial, trivial⟩, trivial⟩⟩, ⟨trivial, ⟨⟨trivial, ⟨fun _ _ => rfl, fun _ => ⟨trivial, ⟨⟨trivial, trivial⟩, ⟨⟨trivial, trivial⟩, trivial⟩⟩⟩⟩⟩, ⟨trivial, trivial⟩⟩⟩⟩⟩
set_option maxRecDepth 100000 in
theorem kuw {x : kmh} {o : k45} (h : kcf x o) : SoundH Try.prog k1j.f ((k1j.args idf x).map (er TB)) ((k1j.obs idf x).map (erO TB)) (er TB (k1j.val idf o)) ((k1j.ops idf o).map (erO TB)) :=
  Con.soundH (c := k1j) (C := k3w) TBok ⟨inf_ok, all_nil, all_nil⟩ mix Try.func14 (show Try.f14.body = some k76 by kernel_rfl) (show Try.f14.ntmps = 33 by kernel_rfl) (show Try.f14.results.toList = k82 by kernel_rfl) rfl h (kv7 o)
set_option maxRecDepth 100000 in
theorem kww {p0 : TTranscript} {p1 : Int} {r0 : List (List Int)} (h :
((decide (p1 < 1) = true →
([] : List (List Int)) = r0) ∧
(decide (p1 < 1) = false →
(decide (4096 < p1) = true →
([] : List (List Int)) = r0) ∧
(decide (4096 < p1) = false →
 0 ≤ p1 ∧ p1 ≤ p1 ∧ (p1.toNat * 24 ≤ 140737488355328) ∧ (p1.toNat ≤ maxLen) ∧ (p1.toNat = (List.replicate p1.toNat ([] : List Int)).length) ∧ Md.Loop (((p1.toNat : Int) : Int), (0 : Int), p0.State, p0.Count, (List.replicate p1.toNat ([] : List Int) : List (List Int)), ()) (k80 (r0, ())))))) : kcf (p0.State, p0.Count, p1, ()) (r0, ()) := WPh.of_eq (by kernel_rfl) h
def klc (r0 : List (List Int)) (k1 : Int → List (List Int) → Prop) (s16 : Int) (h0_0 : Int) (h0_1 : Int) (s17 : Int) (g1 : List (List Int)) : Prop :=
(decide (s17 < s16) = true →
 let v1 : Int := IntKind.u64.wrap (h0_1 + (IntKind.u64.wrap s17))
(0 ≤ s17 ∧ s17 < (g1.length : Int)) ∧ (0 ≤ s17 ∧ s17 < (g1.length : Int)) ∧ (g1.length = (g1.set s17.toNat [h0_0, v1]).length) ∧ k1 (IntKind.i64.wrap (s17 + 1) : Int) (g1.set s17.toNat [h0_0, v1] : List (List Int))) ∧
(decide (s17 < s16) = false →
(g1.length = g1.length) ∧ g1 = r0)
set_option maxRecDepth 100000 in
theorem kva {r0 : List (List Int)} {s16 : Int} {h0_0 : Int} {h0_1 : Int} {s17 : Int} {g1 : List (List Int)} (inv : Int → List (List Int) → Prop) (μ : Int → List (List Int) → Nat) (h0 : inv s17 g1) (hs : ∀ (s17 : Int) (g1 : List (List Int)), inv s17 g1 → klc r0 (fun s17q g1q => inv s17q g1q ∧ μ s17q g1q < μ s17 g1) s16 h0_0 h0_1 s17 g1) : Md.Loop (s16, s17, h0_0, h0_1, g1, ()) (k80 (r0, ())) :=
  ⟨⟨fun s : Int × Int × Int × Int × (List (List Int)) × Unit => (s.1 = s16 ∧ s.2.2.1 = h0_0 ∧ s.2.2.2.1 = h0_1) ∧ inv s.2.1 s.2.2.2.2.1, fun s : Int × Int × Int × Int × (List (List Int)) × Unit => μ s.2.1 s.2.2.2.2.1, ⟨⟨rfl, rfl, rfl⟩, h0⟩, fun (s16p, s17p, h0_0p, h0_1p, g1p, ()) ⟨⟨eq0, eq1, eq2⟩, hi⟩ => by
    have eq0 : s16p = s16 := eq0; subst s16p; have eq1 : h0_0p = h0_0 := eq1; subst h0_0p; have eq2 : h0_1p = h0_1 := eq2; subst h0_1p; exact mpr_of (by kernel_rfl) ((congrArg (fun k => klc r0 k s16 h0_0 h0_1 s17p g1p) (lpk2 (⟨rfl, rfl, rfl⟩ : s16 = s16 ∧ h0_0 = h0_0 ∧ h0_1 = h0_1) inv (fun s17q g1q => μ s17q g1q < μ s17p g1p))).mpr (hs s17p g1p hi))⟩⟩
theorem bd14 : Callable Try.prog 14 := ⟨by rw [Try.func14]; kernel_rfl, by rw [Try.func14]; show some _ ≠ some _; decide⟩
theorem ktw (p0 : TTranscript) (p1 : Int) (h : U64 p0.Count) : kcf (p0.State, p0.Count, p1, ()) (((if p1 < 1 ∨ 4096 < p1 then [] else (List.range p1.toNat).map (fun (j : Nat) => [p0.State, (p0.Count + (j : Int)) % 18446744073709551616])) : List (List Int)), ()) := by
  refine kww ⟨fun e => ?_, fun e => ⟨fun e2 => ?_, fun e2 => ?_⟩⟩
  · rw [if_pos (.inl (of_decide_eq_true e))]
  · rw [if_pos (.inr (of_decide_eq_true e2))]
  · have e := of_decide_eq_false e
    have e2 := of_decide_eq_false e2
    rw [if_neg (by omega)]
    refine ⟨by omega, by omega, by omega, by unfold maxLen; omega, by simp, ?_⟩
    refine kva (SetI (fun (j : Nat) => [p0.State, (p0.Count + (j : Int)) % 18446744073709551616]) p1.toNat) (fun i _ => (p1.toNat - i).toNat) (SetI.start (by simp)) ?_
    intro i g hi
    have hlen := hi.2.2.1
    refine ⟨fun hh => ?_, fun hh => ?_⟩
    · have hh := of_decide_eq_true hh
      try dsimp only
      have h0 := hi.1
      rw [wu i h0 (by omega), u64w]
      exact ⟨⟨h0, by omega⟩, ⟨h0, by omega⟩, by rw [List.length_set], hi.next hh (by omega) (by rw [show ((i.toNat : Nat) : Int) = i by omega])⟩
    · have hh := of_decide_eq_false hh
      exact ⟨rfl, hi.done hh⟩
noncomputable def kk3 : Con TB.den := k1j.fnR (fun x => (fun (p0 : TTranscript) (p1 : Int) => U64 p0.Count) (TTranscript.mk x.1 x.2.1) x.2.2.1) fun x => ((fun (p0 : TTranscript) (p1 : Int) => ((if p1 < 1 ∨ 4096 < p1 then [] else (List.range p1.toNat).map (fun (j : Nat) => [p0.State, (p0.Count + (j : Int)) % 18446744073709551616])) : List (List Int))) (TTranscript.mk x.1 x.2.1) x.2.2.1, ())
theorem kwd : kk3.Ok Try.prog TB := Con.ok_fn k1j bd14 fun x h => kuw (ktw (TTranscript.mk x.1 x.2.1) x.2.2.1 h)
end Go.Proofs.Ytponaobpcdkggaa
namespace Go.Proofs.Ytponaobpcdkggaa
open Go Go.Bv Go.Cv Go.Md Go.RowKit
def k17 : Con TB.den := Con.mk0 7 [.agg [.d (.int .u64), .d (.int .u64)], .one (.d (.int .u64)), .one (.d (.int .u8))] [] (.one (.one (.d (.bool)))) []
abbrev khy := HL TB.den (hsT k17.ins (hsOs k17.pre))
abbrev k1f := HL TB.den (hsV k17.res (hsOs k17.post))
noncomputable def k1t : Cx TB := ⟨inf, [kc5, kn8, kk3, kot, k6x, kyj, kpk], [], 4, []⟩
noncomputable def k3u : Code := Try.f7.body.getD .skip
noncomputable def k4c : List ResultVar := Try.f7.results.toList
noncomputable def kso (o : k1f) : Exit → TSt TB.den → Prop := thenT TB (fun s => ghs TB [] s fun s => WP TB k1t 112 0 (cB (cB (cB (cB (cB (cB (cB (cB (cB k3u))))))))) .no s (retTQ TB k1t k17 k4c o)) (retTQ TB k1t k17 k4c o)
def k4f : Tm := ⟨[0, 1, 7, 6, 2, 3, 4, 5], [.cells [.d (.int .u64), .d (.int .u64)], .cells [.d (.bool), .d (.int .u64), .d (.int .i64), .own 4, .mp 5, .mp 6, .mp 7], .tip (.st 1), .cells [.d (.int .u64), .d (.int .u64)], .tip (.st 1), .map (.str) (.int .i64), .map (.str) (.sl (.int .u64)), .map (.str) (.bool)], [1, 3, 7, 9, 10, 11, 44, 45], [.one (.d (.int .u64)), .one (.ptr 0 0), .one (.ptr 1 0), .one (.d (.sl (.sl (.int .u64)))), .one (.own 2), .one (.ptr 3 0), .one (.d (.int .i64)), .one (.d (.int .i64))], 8⟩
noncomputable def ksg (o : k1f) (nx1 : HL TB.den k4f.hs → Prop) : Exit → TSt TB.den → Prop := thenT TB (fun s => k4f.mat TB 0 s nx1) (blockT TB 0 (kso o))
noncomputable def k5f (o : k1f) (nx1 : HL TB.den k4f.hs → Prop) (i : HL TB.den k4f.hs) : Prop := WP TB k1t 112 0 (cA (cA (cB (cA (cB (cB (cB (cB (cB (cB (cB (cB k3u)))))))))))) .no (k4f.fill TB i) (ksg o nx1)
noncomputable def ksh (o : k1f) : An TB := .lp [.tok 10 (.st 1)] k4f (k5f o) fun nx1 => .no
noncomputable def kse (o : k1f) : An TB := .nd [] (.nd [] .no [] (ksh o)) [] .no
noncomputable def kqu (o : k1f) : An TB := .nd [] .no [] (.nd [] .no [] (kse o))
noncomputable def kfm (o : k1f) : An TB := .nd [] .no [] (.nd [] .no [] (kqu o))
noncomputable def kqt (o : k1f) : Exit → TSt TB.den → Prop := thenT TB (fun s => ghs TB [] s fun s => WP TB k1t 112 0 (cB (cB (cB k3u))) (.nd [] .no [] (kfm o)) s (retTQ TB k1t k17 k4c o)) (retTQ TB k1t k17 k4c o)
def k7s : Tm := ⟨[0, 1, 2, 3, 4, 5], [.cells [.d (.int .u64), .d (.int .u64)], .cells [.d (.bool), .d (.int .u64), .d (.int .i64), .own 2, .mp 3, .mp 4, .mp 5], .tip (.st 1), .map (.str) (.int .i64), .map (.str) (.sl (.int .u64)), .map (.str) (.bool)], [1, 2, 3, 7, 27], [.one (.d (.int .u64)), .one (.d (.int .u8)), .one (.ptr 0 0), .one (.ptr 1 0), .one (.d (.bool))], 6⟩
noncomputable def kgp (o : k1f) (i : HL TB.den k7s.hs) : Prop := ghs TB [] (k7s.fill TB i) fun s => WP TB k1t 112 0 (cB (cA (cB (cB k3u)))) .no s (kqt o)
structure k4a (o : k1f) (i : HL TB.den k7s.hs) : Prop where
  h : kgp o i
noncomputable def kqm (o : k1f) : An TB := .jn k7s (k4a o) [] .no [] .no
noncomputable def kqv (o : k1f) : An TB := .nd [] (kqm o) [] (.nd [] .no [] (kfm o))
noncomputable def kh5 (o : k1f) : An TB := .nd [] .no [] (.nd [] .no [] (kqv o))
noncomputable def k9z (x : khy) (o : k1f) : Prop := WPh TB k1t 112 0 k3u (kh5 o) (k17.st TB x) (retTQ TB k1t k17 k4c o)
set_option maxRecDepth 100000 in
theorem kqw (o : k1f) : OblH TB k1t 112 0 k3u (kh5 o) (retTQ TB k1t k17 k4c o) :=
  OblH.of_eq (X := (True ∧ (True ∧ ((True ∧ (∀ i, (k4a o) i = (kgp o) i) ∧ ((True ∧ True) ∧ True)) ∧ (True ∧ (True ∧ ((True ∧ ((True ∧ True) ∧ True)) ∧ (True ∧ (True ∧ ((True ∧ ((∀ nx i, (k5f o) nx i = (k5f o) nx i) ∧ ∀ nx1 : HL TB.den k4f.hs → Prop, (True ∧ ((True ∧ True) ∧ ((True ∧ (True ∧ (True ∧ ((True ∧ ((True ∧ True) ∧ True)) ∧ (True ∧ (True ∧ ((True ∧ (((True ∧ ((True ∧ True) ∧ True)) ∧ True) ∧ True)) ∧ (True ∧ (True ∧ ((True ∧ True) ∧ True)))))))))) ∧ True))))) ∧ (True ∧ True))))))))))) (by kernel_rfl) ⟨trivial, ⟨trivial, ⟨⟨trivial, fun _ => propext ⟨fun h => h.1, fun h => ⟨h⟩⟩, ⟨⟨trivial, trivial⟩, trivial⟩⟩, ⟨trivial, ⟨trivial, ⟨⟨trivial, ⟨⟨trivial, trivial⟩, trivial⟩⟩, ⟨trivial, ⟨trivial, ⟨⟨trivial, ⟨fun _ _ => rfl, fun _ => ⟨trivial, ⟨⟨trivial, trivial⟩, ⟨⟨trivial, ⟨trivial, ⟨trivial, ⟨⟨trivial, ⟨⟨trivial, trivial⟩, trivial⟩⟩, ⟨trivial, ⟨trivial, ⟨⟨trivial, ⟨⟨⟨trivial, ⟨⟨trivial, trivial⟩, trivial⟩⟩, trivial⟩, trivial⟩⟩, ⟨trivial, ⟨trivial, ⟨⟨trivial, trivial⟩, trivial⟩⟩⟩⟩⟩⟩⟩⟩⟩⟩, trivial⟩⟩⟩⟩⟩, ⟨trivial, trivial⟩⟩⟩⟩⟩⟩⟩⟩⟩⟩
set_option maxRecDepth 100000 in
theorem kqk {x : khy} {o : k1f} (h : k9z x o) : SoundH Try.prog k17.f ((k17.args idf x).map (er TB)) ((k17.obs idf x).map (erO TB)) (er TB (k17.val idf o)) ((k17.ops idf o).map (erO TB)) :=
  Con.soundH (c := k17) (C := k1t) TBok ⟨inf_ok, (all_cons khd (all_cons kum (all_cons kwd (all_cons kyp (all_cons k95 (all_cons k17b (all_cons kz7 all_nil))))))), all_nil⟩ mix Try.func7 (show Try.f7.body = some k3u by kernel_rfl) (show Try.f7.ntmps = 112 by kernel_rfl) (show Try.f7.results.toList = k4c by kernel_rfl) rfl h (kqw o)
set_option maxRecDepth 100000 in
theorem ksn {p0 : TTranscript} {p1 : Int} {p2 : Int} {r0 : Bool} (h :
(((!true) = true →
(([] : List TQuestion) = ([] : List TQuestion)) ∧ k4a (r0, ()) (p1, p2, true, p0.State, p0.Count, false, (0 : Int), (0 : Int), (([] : List TQuestion) : List TQuestion), ([] : List ByteArray), ([] : List Int), ([] : List ByteArray), ([] : List (List Int)), ([] : List ByteArray), ([] : List Bool), ())) ∧
((!true) = false →
(([] : List TQuestion) = ([] : List TQuestion)) ∧ k4a (r0, ()) (p1, p2, (decide (4611686018427387904 ≤ p0.Count) : Bool), p0.State, p0.Count, false, (0 : Int), (0 : Int), (([] : List TQuestion) : List TQuestion), ([] : List ByteArray), ([] : List Int), ([] : List ByteArray), ([] : List (List Int)), ([] : List ByteArray), ([] : List Bool), ())))) : k9z (p0.State, p0.Count, p1, p2, ()) (r0, ()) := WPh.of_eq (by kernel_rfl) h
set_option maxRecDepth 100000 in
theorem kpl {r0 : Bool} {s1 : Int} {s2 : Int} {s27 : Bool} {h0_0 : Int} {h0_1 : Int} {h1_0 : Bool} {h1_1 : Int} {h1_2 : Int} {g2 : List TQuestion} {g3k : List ByteArray} {g3v : List Int} {g4k : List ByteArray} {g4v : List (List Int)} {g5k : List ByteArray} {g5v : List Bool} (h :
((s27 = true →
(true = true →
 true = r0) ∧
(true = false →
 false = r0)) ∧
(s27 = false →
(U64 (TTranscript.mk h0_0 h0_1).Count) ∧ let r1 : List (List Int) := (if (Int.tmod (IntKind.i64.wrap s2) 20) < 1 ∨ 4096 < (Int.tmod (IntKind.i64.wrap s2) 20) then [] else (List.range (Int.tmod (IntKind.i64.wrap s2) 20).toNat).map (fun (j : Nat) => [(TTranscript.mk h0_0 h0_1).State, ((TTranscript.mk h0_0 h0_1).Count + (j : Int)) % 18446744073709551616]))
 let v2 : Bool := ((r1.length : Int) != (Int.tmod (IntKind.i64.wrap s2) 20))
(v2 = true →
 false = r0) ∧
(v2 = false →
(g2 = g2) ∧ (([] : List TQuestion) = ([] : List TQuestion)) ∧ Md.Loop (s1, r1, (Int.tmod (IntKind.i64.wrap s2) 20 : Int), (0 : Int), h0_0, h0_1, h1_0, h1_1, h1_2, h0_0, h0_1, (([] : List TQuestion) : List TQuestion), g2, g3k, g3v, g4k, g4v, g5k, g5v, ()) (k5f (r0, ())))))) : k4a (r0, ()) (s1, s2, s27, h0_0, h0_1, h1_0, h1_1, h1_2, g2, g3k, g3v, g4k, g4v, g5k, g5v, ()) := ⟨mpr_of (by kernel_rfl) h⟩
def kh0 (r0 : Bool) (k1 : Int → Bool → Int → Int → Int → Int → List TQuestion → List TQuestion → List ByteArray → List Int → List ByteArray → List (List Int) → List ByteArray → List Bool → Prop) (s1 : Int) (s9 : List (List Int)) (s44 : Int) (h0_0 : Int) (h0_1 : Int) (s45 : Int) (h1_0 : Bool) (h1_1 : Int) (h1_2 : Int) (h6_0 : Int) (h6_1 : Int) (g7 : List TQuestion) (g2 : List TQuestion) (g3k : List ByteArray) (g3v : List Int) (g4k : List ByteArray) (g4v : List (List Int)) (g5k : List ByteArray) (g5v : List Bool) : Prop :=
(decide (s45 < s44) = true →
 let v3 : Int := IntKind.u64.wrap (h0_1 + (IntKind.u64.wrap s45))
(0 ≤ s45) ∧ s45 < (s9.length : Int) ∧ ((ix s9 s45).length ≤ 9223372036854775807) ∧ ((!(decide ((ix s9 s45) = [h0_0, v3]))) = true →
 false = r0) ∧
((!(decide ((ix s9 s45) = [h0_0, v3]))) = false →
(g2 = g2) ∧ ((U64 (TTranscript.mk h6_0 h6_1).State ∧ U64 (TTranscript.mk h6_0 h6_1).Count) ∧ OOk (OS.mk h1_0 h1_1 h1_2 g2 g3k g3v g4k g4v g5k g5v)) ∧ let r4 : Int := ((chO (OS.mk h1_0 h1_1 h1_2 g2 g3k g3v g4k g4v g5k g5v) (TTranscript.mk h6_0 h6_1) s1).n)
 let r5 : Int := ((chO (OS.mk h1_0 h1_1 h1_2 g2 g3k g3v g4k g4v g5k g5v) (TTranscript.mk h6_0 h6_1) s1).t).State
 let r6 : Int := ((chO (OS.mk h1_0 h1_1 h1_2 g2 g3k g3v g4k g4v g5k g5v) (TTranscript.mk h6_0 h6_1) s1).t).Count
 let r7 : Bool := ((chO (OS.mk h1_0 h1_1 h1_2 g2 g3k g3v g4k g4v g5k g5v) (TTranscript.mk h6_0 h6_1) s1).o.a)
 let r8 : Int := ((chO (OS.mk h1_0 h1_1 h1_2 g2 g3k g3v g4k g4v g5k g5v) (TTranscript.mk h6_0 h6_1) s1).o.b)
 let r9 : Int := ((chO (OS.mk h1_0 h1_1 h1_2 g2 g3k g3v g4k g4v g5k g5v) (TTranscript.mk h6_0 h6_1) s1).o.c)
 let r10 : List TQuestion := ((chO (OS.mk h1_0 h1_1 h1_2 g2 g3k g3v g4k g4v g5k g5v) (TTranscript.mk h6_0 h6_1) s1).o.q)
 let r11 : List ByteArray := ((chO (OS.mk h1_0 h1_1 h1_2 g2 g3k g3v g4k g4v g5k g5v) (TTranscript.mk h6_0 h6_1) s1).o.k)
 let r12 : List Int := ((chO (OS.mk h1_0 h1_1 h1_2 g2 g3k g3v g4k g4v g5k g5v) (TTranscript.mk h6_0 h6_1) s1).o.v)
 let r13 : List ByteArray := ((chO (OS.mk h1_0 h1_1 h1_2 g2 g3k g3v g4k g4v g5k g5v) (TTranscript.mk h6_0 h6_1) s1).o.s)
 let r14 : List (List Int) := ((chO (OS.mk h1_0 h1_1 h1_2 g2 g3k g3v g4k g4v g5k g5v) (TTranscript.mk h6_0 h6_1) s1).o.t)
 let r15 : List ByteArray := ((chO (OS.mk h1_0 h1_1 h1_2 g2 g3k g3v g4k g4v g5k g5v) (TTranscript.mk h6_0 h6_1) s1).o.x)
 let r16 : List Bool := ((chO (OS.mk h1_0 h1_1 h1_2 g2 g3k g3v g4k g4v g5k g5v) (TTranscript.mk h6_0 h6_1) s1).o.y)
((s1 == 0) = true →
((r4 != 0) = true →
 false = r0) ∧
((r4 != 0) = false →
 let v17 : Bool := (!((r5 == h0_0) && ((r6 == h0_1) && true)))
(v17 = true →
 false = r0) ∧
(v17 = false →
(r10 = r10) ∧ (g7 = g7) ∧ k1 (IntKind.i64.wrap (s45 + 1) : Int) r7 r8 r9 r5 r6 g7 r10 r11 r12 r13 r14 r15 r16))) ∧
((s1 == 0) = false →
(g7 = g7) ∧ (U64 (19 : Int) ∧ (Us [h0_0, v3] ∧ [h0_0, v3].length ≤ 1000000000) ∧ QL g7 1000000) ∧ (s1 ≠ 0) ∧ let v18 : Bool := (r4 != (Int.tmod (valH (19 : Int) [h0_0, v3]) s1))
(v18 = true →
 false = r0) ∧
(v18 = false →
((r5 != h0_0) = true →
 false = r0) ∧
((r5 != h0_0) = false →
 let v19 : Int := IntKind.u64.wrap (h0_1 + (IntKind.u64.wrap s45))
((r6 != (IntKind.u64.wrap (v19 + 1))) = true →
 false = r0) ∧
((r6 != (IntKind.u64.wrap (v19 + 1))) = false →
(r10 = r10) ∧ ((askQ g7 (19 : Int) [h0_0, v3]) = (askQ g7 (19 : Int) [h0_0, v3])) ∧ k1 (IntKind.i64.wrap (s45 + 1) : Int) r7 r8 r9 r5 r6 ((askQ g7 (19 : Int) [h0_0, v3]) : List TQuestion) r10 r11 r12 r13 r14 r15 r16)))))) ∧
(decide (s45 < s44) = false →
(g2 = g2) ∧ (g2.length ≤ 1000000 ∧ ∀ x ∈ g2, x.Elems.length ≤ 1000000000) ∧ (decide (g2 = g7)) = r0)
set_option maxRecDepth 100000 in
theorem kqi {r0 : Bool} {s1 : Int} {s9 : List (List Int)} {s44 : Int} {h0_0 : Int} {h0_1 : Int} {s45 : Int} {h1_0 : Bool} {h1_1 : Int} {h1_2 : Int} {h6_0 : Int} {h6_1 : Int} {g7 : List TQuestion} {g2 : List TQuestion} {g3k : List ByteArray} {g3v : List Int} {g4k : List ByteArray} {g4v : List (List Int)} {g5k : List ByteArray} {g5v : List Bool} (inv : Int → Bool → Int → Int → Int → Int → List TQuestion → List TQuestion → List ByteArray → List Int → List ByteArray → List (List Int) → List ByteArray → List Bool → Prop) (μ : Int → Bool → Int → Int → Int → Int → List TQuestion → List TQuestion → List ByteArray → List Int → List ByteArray → List (List Int) → List ByteArray → List Bool → Nat) (h0 : inv s45 h1_0 h1_1 h1_2 h6_0 h6_1 g7 g2 g3k g3v g4k g4v g5k g5v) (hs : ∀ (s45 : Int) (h1_0 : Bool) (h1_1 : Int) (h1_2 : Int) (h6_0 : Int) (h6_1 : Int) (g7 : List TQuestion) (g2 : List TQuestion) (g3k : List ByteArray) (g3v : List Int) (g4k : List ByteArray) (g4v : List (List Int)) (g5k : List ByteArray) (g5v : List Bool), inv s45 h1_0 h1_1 h1_2 h6_0 h6_1 g7 g2 g3k g3v g4k g4v g5k g5v → kh0 r0 (fun s45q h1_0q h1_1q h1_2q h6_0q h6_1q g7q g2q g3kq g3vq g4kq g4vq g5kq g5vq => inv s45q h1_0q h1_1q h1_2q h6_0q h6_1q g7q g2q g3kq g3vq g4kq g4vq g5kq g5vq ∧ μ s45q h1_0q h1_1q h1_2q h6_0q h6_1q g7q g2q g3kq g3vq g4kq g4vq g5kq g5vq < μ s45 h1_0 h1_1 h1_2 h6_0 h6_1 g7 g2 g3k g3v g4k g4v g5k g5v) s1 s9 s44 h0_0 h0_1 s45 h1_0 h1_1 h1_2 h6_0 h6_1 g7 g2 g3k g3v g4k g4v g5k g5v) : Md.Loop (s1, s9, s44, s45, h0_0, h0_1, h1_0, h1_1, h1_2, h6_0, h6_1, g7, g2, g3k, g3v, g4k, g4v, g5k, g5v, ()) (k5f (r0, ())) :=
  ⟨⟨fun s : Int × (List (List Int)) × Int × Int × Int × Int × Bool × Int × Int × Int × Int × (List TQuestion) × (List TQuestion) × (List ByteArray) × (List Int) × (List ByteArray) × (List (List Int)) × (List ByteArray) × (List Bool) × Unit => (s.1 = s1 ∧ s.2.1 = s9 ∧ s.2.2.1 = s44 ∧ s.2.2.2.2.1 = h0_0 ∧ s.2.2.2.2.2.1 = h0_1) ∧ inv s.2.2.2.1 s.2.2.2.2.2.2.1 s.2.2.2.2.2.2.2.1 s.2.2.2.2.2.2.2.2.1 s.2.2.2.2.2.2.2.2.2.1 s.2.2.2.2.2.2.2.2.2.2.1 s.2.2.2.2.2.2.2.2.2.2.2.1 s.2.2.2.2.2.2.2.2.2.2.2.2.1 s.2.2.2.2.2.2.2.2.2.2.2.2.2.1 s.2.2.2.2.2.2.2.2.2.2.2.2.2.2.1 s.2.2.2.2.2.2.2.2.2.2.2.2.2.2.2.1 s.2.2.2.2.2.2.2.2.2.2.2.2.2.2.2.2.1 s.2.2.2.2.2.2.2.2.2.2.2.2.2.2.2.2.2.1 s.2.2.2.2.2.2.2.2.2.2.2.2.2.2.2.2.2.2.1, fun s : Int × (List (List Int)) × Int × Int × Int × Int × Bool × Int × Int × Int × Int × (List TQuestion) × (List TQuestion) × (List ByteArray) × (List Int) × (List ByteArray) × (List (List Int)) × (List ByteArray) × (List Bool) × Unit => μ s.2.2.2.1 s.2.2.2.2.2.2.1 s.2.2.2.2.2.2.2.1 s.2.2.2.2.2.2.2.2.1 s.2.2.2.2.2.2.2.2.2.1 s.2.2.2.2.2.2.2.2.2.2.1 s.2.2.2.2.2.2.2.2.2.2.2.1 s.2.2.2.2.2.2.2.2.2.2.2.2.1 s.2.2.2.2.2.2.2.2.2.2.2.2.2.1 s.2.2.2.2.2.2.2.2.2.2.2.2.2.2.1 s.2.2.2.2.2.2.2.2.2.2.2.2.2.2.2.1 s.2.2.2.2.2.2.2.2.2.2.2.2.2.2.2.2.1 s.2.2.2.2.2.2.2.2.2.2.2.2.2.2.2.2.2.1 s.2.2.2.2.2.2.2.2.2.2.2.2.2.2.2.2.2.2.1, ⟨⟨rfl, rfl, rfl, rfl, rfl⟩, h0⟩, fun (s1p, s9p, s44p, s45p, h0_0p, h0_1p, h1_0p, h1_1p, h1_2p, h6_0p, h6_1p, g7p, g2p, g3kp, g3vp, g4kp, g4vp, g5kp, g5vp, ()) ⟨⟨eq0, eq1, eq2, eq3, eq4⟩, hi⟩ => by
    have eq0 : s1p = s1 := eq0; subst s1p; have eq1 : s9p = s9 := eq1; subst s9p; have eq2 : s44p = s44 := eq2; subst s44p; have eq3 : h0_0p = h0_0 := eq3; subst h0_0p; have eq4 : h0_1p = h0_1 := eq4; subst h0_1p; exact mpr_of (by kernel_rfl) ((congrArg (fun k => kh0 r0 k s1 s9 s44 h0_0 h0_1 s45p h1_0p h1_1p h1_2p h6_0p h6_1p g7p g2p g3kp g3vp g4kp g4vp g5kp g5vp) (lpk14 (⟨rfl, rfl, rfl, rfl, rfl⟩ : s1 = s1 ∧ s9 = s9 ∧ s44 = s44 ∧ h0_0 = h0_0 ∧ h0_1 = h0_1) inv (fun s45q h1_0q h1_1q h1_2q h6_0q h6_1q g7q g2q g3kq g3vq g4kq g4vq g5kq g5vq => μ s45q h1_0q h1_1q h1_2q h6_0q h6_1q g7q g2q g3kq g3vq g4kq g4vq g5kq g5vq < μ s45p h1_0p h1_1p h1_2p h6_0p h6_1p g7p g2p g3kp g3vp g4kp g4vp g5kp g5vp))).mpr (hs s45p h1_0p h1_1p h1_2p h6_0p h6_1p g7p g2p g3kp g3vp g4kp g4vp g5kp g5vp hi))⟩⟩
theorem kq1 (p0 : TTranscript) (p1 : Int) (p2 : Int) (h : (U64 p0.State ∧ U64 p0.Count) ∧ U64 p1 ∧ 0 ≤ p2 ∧ p2 < 256) : k9z (p0.State, p0.Count, p1, p2, ()) ((true : Bool), ()) := by
  obtain ⟨⟨h1, h2⟩, h3, h4, h5⟩ := h
  have z : RR (OS.mk false 0 0 [] [] [] [] [] [] []) := RR.z
  have zo : OOk (OS.mk false 0 0 [] [] [] [] [] [] []) := OOk.z false 0
  have en : Int.tmod (IntKind.i64.wrap p2) 20 = p2 % 20 := by rw [wi _ (by omega) (by omega), tmod_nn _ _ h4]
  have j1 : ∀ s, (s = false → p0.Count < 4611686018427387904) → k4a (true, ()) (p1, p2, s, p0.State, p0.Count, false, (0 : Int), (0 : Int), ([] : List TQuestion), ([] : List ByteArray), ([] : List Int), ([] : List ByteArray), ([] : List (List Int)), ([] : List ByteArray), ([] : List Bool), ()) := by
    intro s hs
    refine kpl ⟨fun _ => by simp, fun e => ?_⟩
    have hc := hs e
    refine ⟨h2, ?_⟩
    rw [en]
    dsimp only
    generalize hn : p2 % 20 = n
    have n0 : 0 ≤ n := by omega
    have n1 : n < 20 := by omega
    obtain ⟨l, hl⟩ : ∃ l : List (List Int), l = if n < 1 ∨ 4096 < n then [] else (List.range n.toNat).map (fun (j : Nat) => [p0.State, (p0.Count + (j : Int)) % 18446744073709551616]) := ⟨_, rfl⟩
    have hln : (l.length : Int) = n := by
      rw [hl]
      split
      · simp; omega
      · simp; omega
    have hix : ∀ i, 0 ≤ i → i < n → ix l i = [p0.State, p0.Count + i] := by
      intro i i0 i1
      rw [if_neg (by omega)] at hl
      rw [ix_nat _ _ i0 (by omega)]
      simp only [hl, List.getElem_map, List.getElem_range]
      rw [show ((i.toNat : Nat) : Int) = i by omega, Int.emod_eq_of_lt (by omega) (by omega)]
    have fin : k4a (true, ()) (p1, p2, s, p0.State, p0.Count, false, (0 : Int), (0 : Int), ([] : List TQuestion), ([] : List ByteArray), ([] : List Int), ([] : List ByteArray), ([] : List (List Int)), ([] : List ByteArray), ([] : List Bool), ()) → True := fun _ => trivial
    clear fin
    have main : ((l.length : Int) != n) = true → False := by rw [hln]; simp
    have lp : Md.Loop (p1, l, n, (0 : Int), p0.State, p0.Count, false, (0 : Int), (0 : Int), p0.State, p0.Count, ([] : List TQuestion), ([] : List TQuestion), ([] : List ByteArray), ([] : List Int), ([] : List ByteArray), ([] : List (List Int)), ([] : List ByteArray), ([] : List Bool), ()) (k5f (true, ())) := by
      refine kqi (fun i a b c ts tc g q k v s t x y => (0 ≤ i ∧ i ≤ n) ∧ ts = p0.State ∧ tc = (if p1 = 0 then p0.Count else p0.Count + i) ∧ RR (OS.mk a b c q k v s t x y) ∧ OOk (OS.mk a b c q k v s t x y) ∧ q.length ≤ i.toNat ∧ g = q)
        (fun i _ _ _ _ _ _ _ _ _ _ _ _ _ => (n - i).toNat) ⟨⟨by omega, by omega⟩, rfl, by split <;> omega, z, zo, by simp, rfl⟩ ?_
      rintro i a b c ts tc g q k v s t x y ⟨⟨g0, g1⟩, rfl, rfl, g2, g3, g4, rfl⟩
      refine ⟨fun hh => ?_, fun hh => ⟨(by first | exact rfl | exact True.intro), ⟨g3.q, g3.e⟩, by simp⟩⟩
      have hh := of_decide_eq_true hh
      dsimp only
      have e4 : IntKind.u64.wrap (p0.Count + IntKind.u64.wrap i) = p0.Count + i := by rw [wu i g0 (by omega), wu _ (by omega) (by omega)]
      rw [e4, hix i g0 hh]
      refine ⟨g0, by omega, by simp, fun h => by simp at h, fun _ => ⟨(by first | exact rfl | exact True.intro), ⟨⟨h1, by show U64 (if p1 = 0 then _ else _); split <;> omega⟩, g3⟩, ?_⟩⟩
      by_cases hp : p1 = 0
      · subst hp
        have ec : ∀ (o : OS) (t : TTranscript), chO o t 0 = ⟨0, t, o⟩ := fun o t => if_pos rfl
        simp only [ec, if_pos]
        refine ⟨fun _ => ⟨fun h => by simp at h, fun _ => ⟨fun h => by simp at h, fun _ => ⟨(by first | exact rfl | exact True.intro), (by first | exact rfl | exact True.intro), ?_⟩⟩⟩, fun h => by simp at h⟩
        rw [wi (i + 1) (by omega) (by omega)]
        exact ⟨⟨⟨by omega, by omega⟩, (by first | exact rfl | exact True.intro), (by first | exact rfl | exact True.intro | simp), g2, g3, by omega, (by first | exact rfl | exact True.intro)⟩, by omega⟩
      · rw [if_neg hp]
        obtain ⟨a1, a2, a3, a4⟩ := g2.ch (t := ⟨p0.State, p0.Count + i⟩) (p := p1) h1 (by show U64 (p0.Count + i); omega) hp
        obtain ⟨b1, b2, _, _⟩ := g3.ch ⟨p0.State, p0.Count + i⟩ p1 (show g.length ≤ 999999 by omega)
        have a3 : (chO (OS.mk a b c g k v s t x y) ⟨p0.State, p0.Count + i⟩ p1).o.q = askQ g 19 [p0.State, p0.Count + i] := a3
        have b2 : (chO (OS.mk a b c g k v s t x y) ⟨p0.State, p0.Count + i⟩ p1).o.q.length ≤ g.length + 1 := b2
        generalize chO (OS.mk a b c g k v s t x y) ⟨p0.State, p0.Count + i⟩ p1 = C at *
        have a2 : C.t = ⟨p0.State, p0.Count + i + 1⟩ := by rw [a2]; show TTranscript.mk p0.State ((p0.Count + i + 1) % 18446744073709551616) = _; rw [Int.emod_eq_of_lt (by omega) (by omega)]
        rw [a1, a2]
        refine ⟨fun h => absurd (by simpa using h) hp, fun _ => ⟨(by first | exact rfl | exact True.intro), ⟨by decide, ⟨us2 (l := []) h1 (by omega) (fun x hx => by cases hx), by simp⟩, ⟨by omega, g3.e⟩⟩, hp, fun h => by simp at h, fun _ => ⟨fun h => by simp at h, fun _ => ?_⟩⟩⟩
        rw [wu (p0.Count + i + 1) (by omega) (by omega), wi (i + 1) (by omega) (by omega)]
        refine ⟨fun h => by simp at h, fun _ => ⟨(by first | exact rfl | exact True.intro), (by first | exact rfl | exact True.intro), ?_⟩⟩
        exact ⟨⟨⟨by omega, by omega⟩, rfl, by rw [if_neg hp]; show p0.Count + i + 1 = _; omega, a4, b1, by omega, a3.symm⟩, by omega⟩
    rw [← hl]
    exact ⟨fun h => absurd h (by rw [hln]; simp), fun _ => ⟨(by first | exact rfl | exact True.intro), (by first | exact rfl | exact True.intro), lp⟩⟩
  refine ksn ⟨fun h => by simp at h, fun _ => ⟨rfl, j1 _ fun h => ?_⟩⟩
  have := of_decide_eq_false h
  omega
end Go.Proofs.Ytponaobpcdkggaa
