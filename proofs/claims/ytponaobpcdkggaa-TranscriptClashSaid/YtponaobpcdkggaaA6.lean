/-
  Parts of the proofs that the laws of this seat hold of every input, merged by a program: a machine over pure data that is sound for the model, what each function of the translation does in it, and plain lemmas. No conditions but those in each theorem.
-/
import Derived.Test.YtponaobpcdkggaaA5
set_option linter.all false
namespace Go.Proofs.Ytponaobpcdkggaa
open Go Go.Bv Go.Cv Go.Md Go.RowKit
def kp : Con TB.den := Con.mk0 55 [.one (.row 0), .one (.d (.int .i64)), .one (.d (.int .i64))] [.vec (.int .i64)] (.tup []) [.vec (.int .i64)]
abbrev kbl := HL TB.den (hsT kp.ins (hsOs kp.pre))
abbrev k14 := HL TB.den (hsV kp.res (hsOs kp.post))
noncomputable def k1w : Cx TB := ⟨inf, [k6u], [], 4, []⟩
noncomputable def k34 : Code := Try.f55.body.getD .skip
noncomputable def k5p : List ResultVar := Try.f55.results.toList
noncomputable def kkh (o : k14) : Exit → TSt TB.den → Prop := blockT TB 0 (retTQ TB k1w kp k5p o)
def ko : Tm := ⟨[0], [.vec (.int .i64)], [0, 1, 2, 6], [.one (.row 0), .one (.d (.int .i64)), .one (.d (.int .i64)), .one (.d (.int .i64))], 1⟩
noncomputable def k7f (o : k14) (nx2 : HL TB.den ko.hs → Prop) : Exit → TSt TB.den → Prop := thenT TB (fun s => ko.mat TB 1 s nx2) (kkh o)
noncomputable def kko (o : k14) (nx2 : HL TB.den ko.hs → Prop) : Exit → TSt TB.den → Prop := thenT TB (fun s => ghs TB [] s fun s => WP TB k1w 49 1 (cB (cB (cA (cA (cB k34))))) .no s (k7f o nx2)) (k7f o nx2)
noncomputable def kks (o : k14) (nx2 : HL TB.den ko.hs → Prop) : Exit → TSt TB.den → Prop := blockT TB 2 (blockT TB 1 (kko o nx2))
def k2n : Tm := ⟨[0], [.vec (.int .i64)], [0, 1, 2, 6, 7], [.one (.row 0), .one (.d (.int .i64)), .one (.d (.int .i64)), .one (.d (.int .i64)), .one (.d (.int .i64))], 1⟩
noncomputable def kkj (o : k14) (nx2 : HL TB.den ko.hs → Prop) (nx1 : HL TB.den k2n.hs → Prop) : Exit → TSt TB.den → Prop := thenT TB (fun s => k2n.mat TB 1 s nx1) (kks o nx2)
noncomputable def k4h (o : k14) (nx2 : HL TB.den ko.hs → Prop) (nx1 : HL TB.den k2n.hs → Prop) (i : HL TB.den k2n.hs) : Prop := WP TB k1w 49 1 (cA (cA (cB (cA (cA (cB (cA (cA (cB k34))))))))) .no (k2n.fill TB i) (kkj o nx2 nx1)
noncomputable def kkc (o : k14) (nx2 : HL TB.den ko.hs → Prop) : An TB := .lp [] k2n (k4h o nx2) fun nx1 => .no
noncomputable def kb5 (o : k14) (nx2 : HL TB.den ko.hs → Prop) : An TB := .nd [] (.nd [] .no [] (kkc o nx2)) [] .no
noncomputable def k4i (o : k14) (nx2 : HL TB.den ko.hs → Prop) (i : HL TB.den ko.hs) : Prop := WP TB k1w 49 1 (cA (cA (cB k34))) (.nd [] .no [] (kb5 o nx2)) (ko.fill TB i) (k7f o nx2)
noncomputable def kjm (o : k14) : An TB := .lp [] ko (k4i o) fun nx2 => (.nd [] .no [] (kb5 o nx2))
noncomputable def kay (o : k14) : An TB := .nd [] .no [] (kjm o)
noncomputable def k70 (x : kbl) (o : k14) : Prop := WPh TB k1w 49 1 k34 (kay o) (kp.st TB x) (retTQ TB k1w kp k5p o)
set_option maxRecDepth 100000 in
theorem kj6 (o : k14) : OblH TB k1w 49 1 k34 (kay o) (retTQ TB k1w kp k5p o) :=
  OblH.of_eq (X := (True ∧ ((∀ nx i, (k4i o) nx i = (k4i o) nx i) ∧ ∀ nx2 : HL TB.den ko.hs → Prop, ((True ∧ (True ∧ True)) ∧ ((True ∧ ((∀ nx i, (k4h o nx2) nx i = (k4h o nx2) nx i) ∧ ∀ nx1 : HL TB.den k2n.hs → Prop, ((True ∧ (True ∧ True)) ∧ (True ∧ True)))) ∧ True))))) (by kernel_rfl) ⟨trivial, ⟨fun _ _ => rfl, fun _ => ⟨⟨trivial, ⟨trivial, trivial⟩⟩, ⟨⟨trivial, ⟨fun _ _ => rfl, fun _ => ⟨⟨trivial, ⟨trivial, trivial⟩⟩, ⟨trivial, trivial⟩⟩⟩⟩, trivial⟩⟩⟩⟩
set_option maxRecDepth 100000 in
theorem kjd {x : kbl} {o : k14} (h : k70 x o) : SoundH Try.prog kp.f ((kp.args idf x).map (er TB)) ((kp.obs idf x).map (erO TB)) (er TB (kp.val idf o)) ((kp.ops idf o).map (erO TB)) :=
  Con.soundH (c := kp) (C := k1w) TBok ⟨inf_ok, (all_cons k8l all_nil), all_nil⟩ mix Try.func55 (show Try.f55.body = some k34 by kernel_rfl) (show Try.f55.ntmps = 49 by kernel_rfl) (show Try.f55.results.toList = k5p by kernel_rfl) rfl h (kj6 o)
set_option maxRecDepth 100000 in
theorem kk4 {p1 : Int} {p2 : Int} {w0 : List Int} {e0 : List Int} (h :
((w0.length = w0.length) ∧ Md.Loop (p1, p2, (IntKind.i64.wrap (p1 + 1) : Int), w0, ()) (k4i (e0, ())))) : k70 (p1, p2, w0, ()) (e0, ()) := WPh.of_eq (by kernel_rfl) h
def kb6 (e0 : List Int) (nx2 : HL TB.den ko.hs → Prop) (k2 : Int → List Int → Prop) (s1 : Int) (s2 : Int) (s6 : Int) (g0 : List Int) : Prop :=
(decide (s6 < s2) = true →
(g0.length = g0.length) ∧ Md.Loop (s1, s2, s6, s6, g0, ()) (k4h (e0, ()) nx2)) ∧
(decide (s6 < s2) = false →
 g0 = e0)
set_option maxRecDepth 100000 in
theorem kjg {e0 : List Int} {s1 : Int} {s2 : Int} {s6 : Int} {g0 : List Int} (inv : Int → List Int → Prop) (μ : Int → List Int → Nat) (h0 : inv s6 g0) (hs : ∀ (s6 : Int) (g0 : List Int), inv s6 g0 → kb6 e0 (fun s : Int × Int × Int × (List Int) × Unit => ((s.1 = s1 ∧ s.2.1 = s2) ∧ inv s.2.2.1 s.2.2.2.1) ∧ μ s.2.2.1 s.2.2.2.1 < μ s6 g0) (fun s6q g0q => inv s6q g0q ∧ μ s6q g0q < μ s6 g0) s1 s2 s6 g0) : Md.Loop (s1, s2, s6, g0, ()) (k4i (e0, ())) :=
  ⟨⟨fun s : Int × Int × Int × (List Int) × Unit => (s.1 = s1 ∧ s.2.1 = s2) ∧ inv s.2.2.1 s.2.2.2.1, fun s : Int × Int × Int × (List Int) × Unit => μ s.2.2.1 s.2.2.2.1, ⟨⟨rfl, rfl⟩, h0⟩, fun (s1p, s2p, s6p, g0p, ()) ⟨⟨eq0, eq1⟩, hi⟩ => by
    have eq0 : s1p = s1 := eq0; subst s1p; have eq1 : s2p = s2 := eq1; subst s2p; exact mpr_of (by kernel_rfl) ((congrArg (fun k => kb6 e0 (fun s : Int × Int × Int × (List Int) × Unit => ((s.1 = s1 ∧ s.2.1 = s2) ∧ inv s.2.2.1 s.2.2.2.1) ∧ μ s.2.2.1 s.2.2.2.1 < μ s6p g0p) k s1 s2 s6p g0p) (lpk2 (⟨rfl, rfl⟩ : s1 = s1 ∧ s2 = s2) inv (fun s6q g0q => μ s6q g0q < μ s6p g0p))).mpr (hs s6p g0p hi))⟩⟩
def kb7 (e0 : List Int) (nx2 : HL TB.den ko.hs → Prop) (k1 : Int → List Int → Prop) (s1 : Int) (s2 : Int) (s6 : Int) (s7 : Int) (g0 : List Int) : Prop :=
(decide (s1 < s7) = true →
(0 ≤ s7 ∧ s7 < (g0.length : Int)) ∧ (0 ≤ s7 ∧ s7 < (g0.length : Int)) ∧ (0 ≤ IntKind.i64.wrap (s7 - 1) ∧ IntKind.i64.wrap (s7 - 1) < (g0.length : Int)) ∧ (0 ≤ IntKind.i64.wrap (s7 - 1) ∧ IntKind.i64.wrap (s7 - 1) < (g0.length : Int)) ∧ let r1 : Bool := (decide ((ix g0 s7) < (ix g0 (IntKind.i64.wrap (s7 - 1)))))
(r1 = true →
(0 ≤ IntKind.i64.wrap (s7 - 1) ∧ IntKind.i64.wrap (s7 - 1) < (g0.length : Int)) ∧ (0 ≤ IntKind.i64.wrap (s7 - 1) ∧ IntKind.i64.wrap (s7 - 1) < (g0.length : Int)) ∧ (0 ≤ s7 ∧ s7 < (g0.length : Int)) ∧ (0 ≤ s7 ∧ s7 < (g0.length : Int)) ∧ (0 ≤ s7 ∧ s7 < (g0.length : Int)) ∧ (0 ≤ s7 ∧ s7 < (g0.length : Int)) ∧ (0 ≤ IntKind.i64.wrap (s7 - 1) ∧ IntKind.i64.wrap (s7 - 1) < (g0.length : Int)) ∧ (0 ≤ IntKind.i64.wrap (s7 - 1) ∧ IntKind.i64.wrap (s7 - 1) < ((g0.set s7.toNat (ix g0 (IntKind.i64.wrap (s7 - 1)))).length : Int)) ∧ (g0.length = ((g0.set s7.toNat (ix g0 (IntKind.i64.wrap (s7 - 1)))).set (IntKind.i64.wrap (s7 - 1)).toNat (ix g0 s7)).length) ∧ k1 (IntKind.i64.wrap (s7 - 1) : Int) ((g0.set s7.toNat (ix g0 (IntKind.i64.wrap (s7 - 1)))).set (IntKind.i64.wrap (s7 - 1)).toNat (ix g0 s7) : List Int)) ∧
(r1 = false →
(g0.length = g0.length) ∧ nx2 (s1, s2, (IntKind.i64.wrap (s6 + 1) : Int), g0, ()))) ∧
(decide (s1 < s7) = false →
(g0.length = g0.length) ∧ nx2 (s1, s2, (IntKind.i64.wrap (s6 + 1) : Int), g0, ()))
set_option maxRecDepth 100000 in
theorem kj7 {e0 : List Int} {nx2 : HL TB.den ko.hs → Prop} {s1 : Int} {s2 : Int} {s6 : Int} {s7 : Int} {g0 : List Int} (inv : Int → List Int → Prop) (μ : Int → List Int → Nat) (h0 : inv s7 g0) (hs : ∀ (s7 : Int) (g0 : List Int), inv s7 g0 → kb7 e0 nx2 (fun s7q g0q => inv s7q g0q ∧ μ s7q g0q < μ s7 g0) s1 s2 s6 s7 g0) : Md.Loop (s1, s2, s6, s7, g0, ()) (k4h (e0, ()) nx2) :=
  ⟨⟨fun s : Int × Int × Int × Int × (List Int) × Unit => (s.1 = s1 ∧ s.2.1 = s2 ∧ s.2.2.1 = s6) ∧ inv s.2.2.2.1 s.2.2.2.2.1, fun s : Int × Int × Int × Int × (List Int) × Unit => μ s.2.2.2.1 s.2.2.2.2.1, ⟨⟨rfl, rfl, rfl⟩, h0⟩, fun (s1p, s2p, s6p, s7p, g0p, ()) ⟨⟨eq0, eq1, eq2⟩, hi⟩ => by
    have eq0 : s1p = s1 := eq0; subst s1p; have eq1 : s2p = s2 := eq1; subst s2p; have eq2 : s6p = s6 := eq2; subst s6p; exact mpr_of (by kernel_rfl) ((congrArg (fun k => kb7 e0 nx2 k s1 s2 s6 s7p g0p) (lpk2 (⟨rfl, rfl, rfl⟩ : s1 = s1 ∧ s2 = s2 ∧ s6 = s6) inv (fun s7q g0q => μ s7q g0q < μ s7p g0p))).mpr (hs s7p g0p hi))⟩⟩
theorem bd55 : Callable Try.prog 55 := ⟨by rw [Try.func55]; kernel_rfl, by rw [Try.func55]; show some _ ≠ some _; decide⟩
theorem kie (p1 : Int) (p2 : Int) (w0 : List Int) (h : p1 = 0 ∧ p2 = w0.length ∧ w0.length ≤ 1000000) : k70 (p1, p2, w0, ()) (((srt w0) : List Int), ()) := by
  obtain ⟨rfl, rfl, h3⟩ := h
  refine kk4 ⟨rfl, ?_⟩
  refine kjg (fun i g => 1 ≤ i ∧ (i ≤ w0.length ∨ i = 1) ∧ g.Perm w0 ∧ SortedTo g i.toNat) (fun i _ => (w0.length + 2 - i).toNat) ⟨by decide, .inr rfl, List.Perm.refl _, fun a b hab hb => ?_⟩ ?_
  · have : (IntKind.i64.wrap (0 + 1)).toNat = 1 := by decide
    omega
  rintro i g ⟨g0, g1, g2, g3⟩
  have hlen := g2.length_eq
  refine ⟨fun hh => ?_, fun hh => ?_⟩
  · have hh := of_decide_eq_true hh
    refine ⟨rfl, ?_⟩
    refine kj7 (fun j g => (0 ≤ j ∧ j ≤ i) ∧ g.Perm w0 ∧ SortedBut g (i.toNat + 1) j.toNat) (fun j _ => j.toNat) ⟨⟨by omega, by omega⟩, g2, g3.but⟩ ?_
    rintro j g ⟨⟨k0, k1⟩, k2, k3⟩
    have hlen := k2.length_eq
    have nxt : ∀ {g : List Int}, g.Perm w0 → SortedTo g (i.toNat + 1) → (1 ≤ IntKind.i64.wrap (i + 1) ∧ (IntKind.i64.wrap (i + 1) ≤ w0.length ∨ IntKind.i64.wrap (i + 1) = 1) ∧ g.Perm w0 ∧ SortedTo g (IntKind.i64.wrap (i + 1)).toNat) ∧ ((w0.length : Int) + 2 - IntKind.i64.wrap (i + 1)).toNat < ((w0.length : Int) + 2 - i).toNat := by
      intro g q1 q2
      rw [wi (i + 1) (by omega) (by omega)]
      exact ⟨⟨by omega, .inl (by omega), q1, by rw [show (i + 1).toNat = i.toNat + 1 by omega]; exact q2⟩, by omega⟩
    refine ⟨fun h2 => ?_, fun h2 => ?_⟩
    · have h2 := of_decide_eq_true h2
      rw [wi (j - 1) (by omega) (by omega)]
      have ej : (j - 1).toNat = j.toNat - 1 := by omega
      have x1 := ix_getD g j k0 (by omega)
      have x2 := ix_getD g (j - 1) (by omega) (by omega)
      rw [ej] at x2
      refine ⟨⟨by omega, by omega⟩, ⟨by omega, by omega⟩, ⟨by omega, by omega⟩, ⟨by omega, by omega⟩, fun h5 => ?_, fun h5 => ?_⟩
      · have h5 := of_decide_eq_true h5
        rw [x1, x2] at h5
        refine ⟨⟨by omega, by omega⟩, ⟨by omega, by omega⟩, ⟨by omega, by omega⟩, ⟨by omega, by omega⟩, ⟨by omega, by omega⟩, ⟨by omega, by omega⟩, ⟨by omega, by omega⟩, ⟨by omega, by rw [List.length_set]; omega⟩, by rw [List.length_set, List.length_set], ⟨⟨by omega, by omega⟩, ?_, ?_⟩, by omega⟩
        · exact (k18m g j (j - 1) k0 (by omega) (by omega) (by omega)).trans k2
        · rw [ej]
          exact k3.step (by omega) (by omega) (by omega) h5 x1 x2
      · have h5 := of_decide_eq_false h5
        rw [x1, x2] at h5
        exact ⟨rfl, ⟨⟨rfl, rfl⟩, (nxt k2 (k3.stop (by omega) (by omega) (by omega))).1⟩, (nxt k2 (k3.stop (by omega) (by omega) (by omega))).2⟩
    · have h2 := of_decide_eq_false h2
      have ej : j.toNat = 0 := by omega
      rw [ej] at k3
      exact ⟨rfl, ⟨⟨rfl, rfl⟩, (nxt k2 k3.zero).1⟩, (nxt k2 k3.zero).2⟩
  · have hh := of_decide_eq_false hh
    have : SortedTo g g.length := fun a b hab hb => g3 a b hab (by omega)
    exact srt_eq g2 this.all
noncomputable def ka8 : Con TB.den := kp.fnR (fun x => (fun (p1 : Int) (p2 : Int) (w0 : List Int) => p1 = 0 ∧ p2 = w0.length ∧ w0.length ≤ 1000000) x.1 x.2.1 x.2.2.1) fun x => ((fun (p1 : Int) (p2 : Int) (w0 : List Int) => ((srt w0) : List Int)) x.1 x.2.1 x.2.2.1, ())
theorem kkr : ka8.Ok Try.prog TB := Con.ok_fn kp bd55 fun x h => kjd (kie x.1 x.2.1 x.2.2.1 h)
end Go.Proofs.Ytponaobpcdkggaa
namespace Go.Proofs.Ytponaobpcdkggaa
open Go Go.Bv Go.Cv Go.Md Go.RowKit
def kh : Con TB.den := Con.mk0 60 [.one (.row 0), .one (.d (.int .i64)), .one (.d (.int .i64))] [.vec (.int .i64)] (.one (.one (.d (.bool)))) [.vec (.int .i64)]
abbrev k8v := HL TB.den (hsT kh.ins (hsOs kh.pre))
abbrev ka := HL TB.den (hsV kh.res (hsOs kh.post))
noncomputable def km : Cx TB := ⟨inf, [k6u], [], 4, []⟩
noncomputable def k12 : Code := Try.f60.body.getD .skip
noncomputable def k3a : List ResultVar := Try.f60.results.toList
noncomputable def kfw (o : ka) : Exit → TSt TB.den → Prop := thenT TB (fun s => ghs TB [] s fun s => WP TB km 133 1 (cB (cB (cB k12))) .no s (retTQ TB km kh k3a o)) (retTQ TB km kh k3a o)
def kb : Tm := ⟨[0], [.vec (.int .i64)], [0, 1, 2, 7, 8], [.one (.row 0), .one (.d (.int .i64)), .one (.d (.int .i64)), .one (.d (.int .i64)), .one (.d (.int .i64))], 1⟩
noncomputable def k61 (o : ka) (nx2 : HL TB.den kb.hs → Prop) : Exit → TSt TB.den → Prop := thenT TB (fun s => kb.mat TB 1 s nx2) (blockT TB 0 (kfw o))
noncomputable def kft (o : ka) (nx2 : HL TB.den kb.hs → Prop) : Exit → TSt TB.den → Prop := thenT TB (fun s => ghs TB [] s fun s => WP TB km 133 1 (cB (cB (cA (cA (cB (cA (cB (cB k12)))))))) .no s (k61 o nx2)) (k61 o nx2)
noncomputable def k39 (o : ka) (nx2 : HL TB.den kb.hs → Prop) : Exit → TSt TB.den → Prop := blockT TB 1 (kft o nx2)
noncomputable def kfu (o : ka) (nx2 : HL TB.den kb.hs → Prop) : Exit → TSt TB.den → Prop := blockT TB 6 (k39 o nx2)
def k22 : Tm := ⟨[0], [.vec (.int .i64)], [0, 1, 2, 7, 8, 10], [.one (.row 0), .one (.d (.int .i64)), .one (.d (.int .i64)), .one (.d (.int .i64)), .one (.d (.int .i64)), .one (.d (.int .i64))], 137⟩
noncomputable def kfx (o : ka) (nx2 : HL TB.den kb.hs → Prop) (nx4 : HL TB.den k22.hs → Prop) : Exit → TSt TB.den → Prop := thenT TB (fun s => k22.mat TB 1 s nx4) (kfu o nx2)
noncomputable def k5z (o : ka) (nx2 : HL TB.den kb.hs → Prop) (nx4 : HL TB.den k22.hs → Prop) (i : HL TB.den k22.hs) : Prop := WP TB km 133 1 (cA (cA (cB (cA (cB (cB (cB (cB (cB (cB (cA (cA (cB (cA (cA (cB (cA (cB (cB k12))))))))))))))))))) .no (k22.fill TB i) (kfx o nx2 nx4)
noncomputable def kfe (o : ka) (nx2 : HL TB.den kb.hs → Prop) : An TB := .lp [] k22 (k5z o nx2) fun nx4 => .no
noncomputable def kfb (o : ka) (nx2 : HL TB.den kb.hs → Prop) : An TB := .nd [] .no [] (kfe o nx2)
noncomputable def ker (o : ka) (nx2 : HL TB.den kb.hs → Prop) : An TB := .nd [] (kfb o nx2) [] .no
noncomputable def k8c (o : ka) (nx2 : HL TB.den kb.hs → Prop) : An TB := .nd [] .no [] (ker o nx2)
def k35 : Tm := ⟨[0], [.vec (.int .i64)], [0, 1, 2, 7, 8], [.one (.row 0), .one (.d (.int .i64)), .one (.d (.int .i64)), .one (.d (.int .i64)), .one (.d (.int .i64))], 137⟩
noncomputable def k88 (o : ka) (nx2 : HL TB.den kb.hs → Prop) (i : HL TB.den k35.hs) : Prop := ghs TB [] (k35.fill TB i) fun s => WP TB km 133 1 (cB (cB (cB (cB (cB (cA (cA (cB (cA (cA (cB (cA (cB (cB k12)))))))))))))) (k8c o nx2) s (k39 o nx2)
structure k60 (o : ka) (nx2 : HL TB.den kb.hs → Prop) (i : HL TB.den k35.hs) : Prop where
  h : k88 o nx2 i
noncomputable def kev (o : ka) (nx2 : HL TB.den kb.hs → Prop) : Exit → TSt TB.den → Prop := thenT TB (fun s => k35.mat TB 1 s (k60 o nx2)) (k39 o nx2)
noncomputable def kf9 (o : ka) (nx2 : HL TB.den kb.hs → Prop) : Exit → TSt TB.den → Prop := blockT TB 4 (kev o nx2)
def k21 : Tm := ⟨[0], [.vec (.int .i64)], [0, 1, 2, 7, 8, 9], [.one (.row 0), .one (.d (.int .i64)), .one (.d (.int .i64)), .one (.d (.int .i64)), .one (.d (.int .i64)), .one (.d (.int .i64))], 137⟩
noncomputable def kee (o : ka) (nx2 : HL TB.den kb.hs → Prop) (nx3 : HL TB.den k21.hs → Prop) : Exit → TSt TB.den → Prop := thenT TB (fun s => k21.mat TB 1 s nx3) (kf9 o nx2)
noncomputable def k62 (o : ka) (nx2 : HL TB.den kb.hs → Prop) (nx3 : HL TB.den k21.hs → Prop) (i : HL TB.den k21.hs) : Prop := WP TB km 133 1 (cA (cA (cB (cA (cB (cA (cB (cB (cB (cB (cA (cA (cB (cA (cA (cB (cA (cB (cB k12))))))))))))))))))) .no (k21.fill TB i) (kee o nx2 nx3)
noncomputable def kfl (o : ka) (nx2 : HL TB.den kb.hs → Prop) : An TB := .lp [] k21 (k62 o nx2) fun nx3 => .no
noncomputable def ke8 (o : ka) (nx2 : HL TB.den kb.hs → Prop) : An TB := .nd [] .no [] (kfl o nx2)
noncomputable def kfq (o : ka) (nx2 : HL TB.den kb.hs → Prop) : An TB := .nd [] (ke8 o nx2) [] .no
noncomputable def kes (o : ka) (nx2 : HL TB.den kb.hs → Prop) : An TB := .nd [] .no [] (kfq o nx2)
noncomputable def kf8 (o : ka) (nx2 : HL TB.den kb.hs → Prop) : An TB := .jn k35 (k60 o nx2) [] (kes o nx2) [] (k8c o nx2)
noncomputable def kfd (o : ka) (nx2 : HL TB.den kb.hs → Prop) : An TB := .nd [] .no [] (kf8 o nx2)
noncomputable def kfn (o : ka) (nx2 : HL TB.den kb.hs → Prop) : An TB := .nd [] .no [] (kfd o nx2)
noncomputable def k84 (o : ka) (nx2 : HL TB.den kb.hs → Prop) : An TB := .nd [] .no [] (kfn o nx2)
def k36 : Tm := ⟨[0], [.vec (.int .i64)], [0, 1, 2, 7, 8], [.one (.row 0), .one (.d (.int .i64)), .one (.d (.int .i64)), .one (.d (.int .i64)), .one (.d (.int .i64))], 65⟩
noncomputable def k8b (o : ka) (nx2 : HL TB.den kb.hs → Prop) (i : HL TB.den k36.hs) : Prop := ghs TB [] (k36.fill TB i) fun s => WP TB km 133 1 (cB (cA (cA (cB (cA (cA (cB (cA (cB (cB k12)))))))))) (k84 o nx2) s (k39 o nx2)
structure k5x (o : ka) (nx2 : HL TB.den kb.hs → Prop) (i : HL TB.den k36.hs) : Prop where
  h : k8b o nx2 i
noncomputable def kf0 (o : ka) (nx2 : HL TB.den kb.hs → Prop) : Exit → TSt TB.den → Prop := thenT TB (fun s => k36.mat TB 1 s (k5x o nx2)) (k39 o nx2)
noncomputable def kf5 (o : ka) (nx2 : HL TB.den kb.hs → Prop) : Exit → TSt TB.den → Prop := blockT TB 2 (kf0 o nx2)
def k23 : Tm := ⟨[0], [.vec (.int .i64)], [0, 1, 2, 7, 8], [.one (.row 0), .one (.d (.int .i64)), .one (.d (.int .i64)), .one (.d (.int .i64)), .one (.d (.int .i64))], 1⟩
noncomputable def kf3 (o : ka) (nx2 : HL TB.den kb.hs → Prop) (nx1 : HL TB.den k23.hs → Prop) : Exit → TSt TB.den → Prop := thenT TB (fun s => k23.mat TB 1 s nx1) (kf5 o nx2)
noncomputable def k63 (o : ka) (nx2 : HL TB.den kb.hs → Prop) (nx1 : HL TB.den k23.hs → Prop) (i : HL TB.den k23.hs) : Prop := WP TB km 133 1 (cA (cA (cA (cA (cA (cB (cA (cA (cB (cA (cB (cB k12)))))))))))) .no (k23.fill TB i) (kf3 o nx2 nx1)
noncomputable def kec (o : ka) (nx2 : HL TB.den kb.hs → Prop) : An TB := .lp [] k23 (k63 o nx2) fun nx1 => .no
noncomputable def keg (o : ka) (nx2 : HL TB.den kb.hs → Prop) : An TB := .jn k36 (k5x o nx2) [] (kec o nx2) [] (k84 o nx2)
noncomputable def ket (o : ka) (nx2 : HL TB.den kb.hs → Prop) : An TB := .nd [] (keg o nx2) [] .no
noncomputable def k85 (o : ka) (nx2 : HL TB.den kb.hs → Prop) : An TB := .nd [] .no [] (ket o nx2)
noncomputable def k5y (o : ka) (nx2 : HL TB.den kb.hs → Prop) (i : HL TB.den kb.hs) : Prop := WP TB km 133 1 (cA (cA (cB (cA (cB (cB k12)))))) (k85 o nx2) (kb.fill TB i) (k61 o nx2)
noncomputable def kf7 (o : ka) : An TB := .lp [] kb (k5y o) fun nx2 => (k85 o nx2)
noncomputable def kew (o : ka) : An TB := .nd [] (.nd [] .no [] (kf7 o)) [] .no
noncomputable def k8e (o : ka) : An TB := .nd [] .no [] (.nd [] .no [] (kew o))
noncomputable def k7y (x : k8v) (o : ka) : Prop := WPh TB km 133 1 k12 (k8e o) (kh.st TB x) (retTQ TB km kh k3a o)
set_option maxRecDepth 100000 in
theorem kf1 (o : ka) : OblH TB km 133 1 k12 (k8e o) (retTQ TB km kh k3a o) :=
  OblH.of_eq (X := (True ∧ (True ∧ ((True ∧ ((∀ nx i, (k5y o) nx i = (k5y o) nx i) ∧ ∀ nx2 : HL TB.den kb.hs → Prop, ((True ∧ (True ∧ True)) ∧ ((((∀ nx i, (k63 o nx2) nx i = (k63 o nx2) nx i) ∧ ∀ nx1 : HL TB.den k23.hs → Prop, ((True ∧ (True ∧ True)) ∧ True)) ∧ (∀ i, (k5x o nx2) i = (k8b o nx2) i) ∧ ((True ∧ ((True ∧ True) ∧ True)) ∧ ((True ∧ ((True ∧ True) ∧ True)) ∧ (True ∧ ((True ∧ ((True ∧ ((∀ nx i, (k62 o nx2) nx i = (k62 o nx2) nx i) ∧ ∀ nx3 : HL TB.den k21.hs → Prop, ((True ∧ (True ∧ True)) ∧ (((True ∧ (True ∧ True)) ∧ True) ∧ True)))) ∧ True)) ∧ (∀ i, (k60 o nx2) i = (k88 o nx2) i) ∧ (True ∧ ((True ∧ ((∀ nx i, (k5z o nx2) nx i = (k5z o nx2) nx i) ∧ ∀ nx4 : HL TB.den k22.hs → Prop, ((True ∧ (True ∧ True)) ∧ (((True ∧ (True ∧ True)) ∧ True) ∧ True)))) ∧ True))))))) ∧ True)))) ∧ (True ∧ True))))) (by kernel_rfl) ⟨trivial, ⟨trivial, ⟨⟨trivial, ⟨fun _ _ => rfl, fun _ => ⟨⟨trivial, ⟨trivial, trivial⟩⟩, ⟨⟨⟨fun _ _ => rfl, fun _ => ⟨⟨trivial, ⟨trivial, trivial⟩⟩, trivial⟩⟩, fun _ => propext ⟨fun h => h.1, fun h => ⟨h⟩⟩, ⟨⟨trivial, ⟨⟨trivial, trivial⟩, trivial⟩⟩, ⟨⟨trivial, ⟨⟨trivial, trivial⟩, trivial⟩⟩, ⟨trivial, ⟨⟨trivial, ⟨⟨trivial, ⟨fun _ _ => rfl, fun _ => ⟨⟨trivial, ⟨trivial, trivial⟩⟩, ⟨⟨⟨trivial, ⟨trivial, trivial⟩⟩, trivial⟩, trivial⟩⟩⟩⟩, trivial⟩⟩, fun _ => propext ⟨fun h => h.1, fun h => ⟨h⟩⟩, ⟨trivial, ⟨⟨trivial, ⟨fun _ _ => rfl, fun _ => ⟨⟨trivial, ⟨trivial, trivial⟩⟩, ⟨⟨⟨trivial, ⟨trivial, trivial⟩⟩, trivial⟩, trivial⟩⟩⟩⟩, trivial⟩⟩⟩⟩⟩⟩⟩, trivial⟩⟩⟩⟩, ⟨trivial, trivial⟩⟩⟩⟩
set_option maxRecDepth 100000 in
theorem kfg {x : k8v} {o : ka} (h : k7y x o) : SoundH Try.prog kh.f ((kh.args idf x).map (er TB)) ((kh.obs idf x).map (erO TB)) (er TB (kh.val idf o)) ((kh.ops idf o).map (erO TB)) :=
  Con.soundH (c := kh) (C := km) TBok ⟨inf_ok, (all_cons k8l all_nil), all_nil⟩ mix Try.func60 (show Try.f60.body = some k12 by kernel_rfl) (show Try.f60.ntmps = 133 by kernel_rfl) (show Try.f60.results.toList = k3a by kernel_rfl) rfl h (kf1 o)
theorem bd60 : Callable Try.prog 60 := ⟨by rw [Try.func60]; kernel_rfl, by rw [Try.func60]; show some _ ≠ some _; decide⟩
noncomputable def k87 : Con TB.den := kh.relR k7y
theorem kfv : k87.Ok Try.prog TB := Con.ok_rel kh bd60 fun _ _ h => kfg h
end Go.Proofs.Ytponaobpcdkggaa
namespace Go.Proofs.Ytponaobpcdkggaa
open Go Go.Bv Go.Cv Go.Md Go.RowKit
def kn : Con TB.den := Con.mk0 62 [.one (.row 0), .one (.d (.int .i64)), .one (.d (.int .i64)), .one (.d (.int .i64))] [.vec (.int .i64)] (.one (.one (.d (.int .i64)))) [.vec (.int .i64)]
abbrev kb0 := HL TB.den (hsT kn.ins (hsOs kn.pre))
abbrev ke := HL TB.den (hsV kn.res (hsOs kn.post))
noncomputable def k16 : Cx TB := ⟨inf, [k6u], [], 4, []⟩
noncomputable def k1p : Code := Try.f62.body.getD .skip
noncomputable def k49 : List ResultVar := Try.f62.results.toList
noncomputable def kjq (o : ke) : Exit → TSt TB.den → Prop := thenT TB (fun s => ghs TB [] s fun s => WP TB k16 84 1 (cB (cB (cB (cB k1p)))) .no s (retTQ TB k16 kn k49 o)) (retTQ TB k16 kn k49 o)
def kf : Tm := ⟨[0], [.vec (.int .i64)], [0, 1, 9, 10], [.one (.row 0), .one (.d (.int .i64)), .one (.d (.int .i64)), .one (.d (.int .i64))], 65⟩
noncomputable def k48 (o : ke) (nx2 : HL TB.den kf.hs → Prop) : Exit → TSt TB.den → Prop := thenT TB (fun s => kf.mat TB 1 s nx2) (blockT TB 0 (kjq o))
def k43 : Tm := ⟨[0], [.vec (.int .i64)], [0, 1, 9, 10], [.one (.row 0), .one (.d (.int .i64)), .one (.d (.int .i64)), .one (.d (.int .i64))], 181⟩
noncomputable def k9r (o : ke) (nx2 : HL TB.den kf.hs → Prop) (i : HL TB.den k43.hs) : Prop := ghs TB [] (k43.fill TB i) fun s => WP TB k16 84 1 (cB (cB (cA (cA (cA (cA (cB (cB (cB k1p))))))))) .no s (blockT TB 1 (k48 o nx2))
structure k76 (o : ke) (nx2 : HL TB.den kf.hs → Prop) (i : HL TB.den k43.hs) : Prop where
  h : k9r o nx2 i
noncomputable def kjr (o : ke) (nx2 : HL TB.den kf.hs → Prop) : Exit → TSt TB.den → Prop := thenT TB (fun s => k43.mat TB 1 s (k76 o nx2)) (blockT TB 1 (k48 o nx2))
def k2i : Tm := ⟨[0], [.vec (.int .i64)], [0, 1, 9, 10], [.one (.row 0), .one (.d (.int .i64)), .one (.d (.int .i64)), .one (.d (.int .i64))], 125⟩
noncomputable def kjc (o : ke) (nx2 : HL TB.den kf.hs → Prop) (nx3 : HL TB.den k2i.hs → Prop) : Exit → TSt TB.den → Prop := thenT TB (fun s => k2i.mat TB 1 s nx3) (blockT TB 4 (kjr o nx2))
noncomputable def k7b (o : ke) (nx2 : HL TB.den kf.hs → Prop) (nx3 : HL TB.den k2i.hs → Prop) (i : HL TB.den k2i.hs) : Prop := WP TB k16 84 1 (cA (cA (cA (cB (cA (cA (cA (cA (cB (cB (cB k1p))))))))))) .no (k2i.fill TB i) (kjc o nx2 nx3)
noncomputable def kjp (o : ke) (nx2 : HL TB.den kf.hs → Prop) : An TB := .lp [] k2i (k7b o nx2) fun nx3 => .no
noncomputable def kae (o : ke) (nx2 : HL TB.den kf.hs → Prop) : An TB := .jn k43 (k76 o nx2) [] (kjp o nx2) [] .no
def k44 : Tm := ⟨[0], [.vec (.int .i64)], [0, 1, 9, 10], [.one (.row 0), .one (.d (.int .i64)), .one (.d (.int .i64)), .one (.d (.int .i64))], 125⟩
noncomputable def ka1 (o : ke) (nx2 : HL TB.den kf.hs → Prop) (i : HL TB.den k44.hs) : Prop := ghs TB [] (k44.fill TB i) fun s => WP TB k16 84 1 (cB (cA (cA (cA (cA (cB (cB (cB k1p)))))))) (kae o nx2) s (blockT TB 1 (k48 o nx2))
structure k77 (o : ke) (nx2 : HL TB.den kf.hs → Prop) (i : HL TB.den k44.hs) : Prop where
  h : ka1 o nx2 i
noncomputable def kjl (o : ke) (nx2 : HL TB.den kf.hs → Prop) : Exit → TSt TB.den → Prop := thenT TB (fun s => k44.mat TB 1 s (k77 o nx2)) (blockT TB 1 (k48 o nx2))
def k2h : Tm := ⟨[0], [.vec (.int .i64)], [0, 1, 9, 10], [.one (.row 0), .one (.d (.int .i64)), .one (.d (.int .i64)), .one (.d (.int .i64))], 65⟩
noncomputable def kiv (o : ke) (nx2 : HL TB.den kf.hs → Prop) (nx1 : HL TB.den k2h.hs → Prop) : Exit → TSt TB.den → Prop := thenT TB (fun s => k2h.mat TB 1 s nx1) (blockT TB 2 (kjl o nx2))
noncomputable def k74 (o : ke) (nx2 : HL TB.den kf.hs → Prop) (nx1 : HL TB.den k2h.hs → Prop) (i : HL TB.den k2h.hs) : Prop := WP TB k16 84 1 (cA (cA (cA (cA (cA (cA (cA (cB (cB (cB k1p)))))))))) .no (k2h.fill TB i) (kiv o nx2 nx1)
noncomputable def khv (o : ke) (nx2 : HL TB.den kf.hs → Prop) : An TB := .lp [] k2h (k74 o nx2) fun nx1 => .no
noncomputable def k9x (o : ke) (nx2 : HL TB.den kf.hs → Prop) : An TB := .jn k44 (k77 o nx2) [] (khv o nx2) [] (kae o nx2)
noncomputable def k75 (o : ke) (nx2 : HL TB.den kf.hs → Prop) (i : HL TB.den kf.hs) : Prop := WP TB k16 84 1 (cA (cA (cA (cB (cB (cB k1p)))))) (k9x o nx2) (kf.fill TB i) (k48 o nx2)
noncomputable def ki5 (o : ke) : An TB := .lp [] kf (k75 o) fun nx2 => (k9x o nx2)
noncomputable def kig (o : ke) : An TB := .nd [] .no [] (.nd [] (ki5 o) [] .no)
noncomputable def ka9 (o : ke) : An TB := .nd [] .no [] (.nd [] .no [] (kig o))
noncomputable def k9j (x : kb0) (o : ke) : Prop := WPh TB k16 84 1 k1p (ka9 o) (kn.st TB x) (retTQ TB k16 kn k49 o)
set_option maxRecDepth 100000 in
theorem kin (o : ke) : OblH TB k16 84 1 k1p (ka9 o) (retTQ TB k16 kn k49 o) :=
  OblH.of_eq (X := (True ∧ (True ∧ (True ∧ (((∀ nx i, (k75 o) nx i = (k75 o) nx i) ∧ ∀ nx2 : HL TB.den kf.hs → Prop, (((∀ nx i, (k74 o nx2) nx i = (k74 o nx2) nx i) ∧ ∀ nx1 : HL TB.den k2h.hs → Prop, ((True ∧ (True ∧ True)) ∧ True)) ∧ (∀ i, (k77 o nx2) i = (ka1 o nx2) i) ∧ (((∀ nx i, (k7b o nx2) nx i = (k7b o nx2) nx i) ∧ ∀ nx3 : HL TB.den k2i.hs → Prop, ((True ∧ (True ∧ True)) ∧ True)) ∧ (∀ i, (k76 o nx2) i = (k9r o nx2) i) ∧ ((True ∧ (True ∧ True)) ∧ (True ∧ (True ∧ True)))))) ∧ (True ∧ True)))))) (by kernel_rfl) ⟨trivial, ⟨trivial, ⟨trivial, ⟨⟨fun _ _ => rfl, fun _ => ⟨⟨fun _ _ => rfl, fun _ => ⟨⟨trivial, ⟨trivial, trivial⟩⟩, trivial⟩⟩, fun _ => propext ⟨fun h => h.1, fun h => ⟨h⟩⟩, ⟨⟨fun _ _ => rfl, fun _ => ⟨⟨trivial, ⟨trivial, trivial⟩⟩, trivial⟩⟩, fun _ => propext ⟨fun h => h.1, fun h => ⟨h⟩⟩, ⟨⟨trivial, ⟨trivial, trivial⟩⟩, ⟨trivial, ⟨trivial, trivial⟩⟩⟩⟩⟩⟩, ⟨trivial, trivial⟩⟩⟩⟩⟩
set_option maxRecDepth 100000 in
theorem khz {x : kb0} {o : ke} (h : k9j x o) : SoundH Try.prog kn.f ((kn.args idf x).map (er TB)) ((kn.obs idf x).map (erO TB)) (er TB (kn.val idf o)) ((kn.ops idf o).map (erO TB)) :=
  Con.soundH (c := kn) (C := k16) TBok ⟨inf_ok, (all_cons k8l all_nil), all_nil⟩ mix Try.func62 (show Try.f62.body = some k1p by kernel_rfl) (show Try.f62.ntmps = 84 by kernel_rfl) (show Try.f62.results.toList = k49 by kernel_rfl) rfl h (kin o)
theorem bd62 : Callable Try.prog 62 := ⟨by rw [Try.func62]; kernel_rfl, by rw [Try.func62]; show some _ ≠ some _; decide⟩
noncomputable def ka3 : Con TB.den := kn.relR k9j
theorem kje : ka3.Ok Try.prog TB := Con.ok_rel kn bd62 fun _ _ h => khz h
end Go.Proofs.Ytponaobpcdkggaa
namespace Go.Proofs.Ytponaobpcdkggaa
open Go Go.Bv Go.Cv Go.Md Go.RowKit
def kl : Con TB.den := Con.mk0 63 [.one (.row 0), .one (.d (.int .i64)), .one (.d (.int .i64)), .one (.d (.int .i64))] [.vec (.int .i64)] (.tup [.one (.d (.int .i64)), .one (.d (.bool))]) [.vec (.int .i64)]
abbrev kdz := HL TB.den (hsT kl.ins (hsOs kl.pre))
abbrev kc := HL TB.den (hsV kl.res (hsOs kl.post))
noncomputable def kk : Cx TB := ⟨inf, [k6u], [], 4, []⟩
noncomputable def k1c : Code := Try.f63.body.getD .skip
noncomputable def k27 : List ResultVar := Try.f63.results.toList
noncomputable def knn (o : kc) : Exit → TSt TB.den → Prop := thenT TB (fun s => ghs TB [] s fun s => WP TB kk 168 1 (cB (cB (cB (cB (cB (cB (cB (cB (cB (cB k1c)))))))))) .no s (retTQ TB kk kl k27 o)) (retTQ TB kk kl k27 o)
def kj : Tm := ⟨[0], [.vec (.int .i64)], [0, 1, 10, 11], [.one (.row 0), .one (.d (.int .i64)), .one (.d (.int .i64)), .one (.d (.int .i64))], 245⟩
noncomputable def k5d (o : kc) (nx4 : HL TB.den kj.hs → Prop) : Exit → TSt TB.den → Prop := thenT TB (fun s => kj.mat TB 1 s nx4) (blockT TB 4 (knn o))
def k52 : Tm := ⟨[0], [.vec (.int .i64)], [0, 1, 10, 11], [.one (.row 0), .one (.d (.int .i64)), .one (.d (.int .i64)), .one (.d (.int .i64))], 361⟩
noncomputable def kcp (o : kc) (nx4 : HL TB.den kj.hs → Prop) (i : HL TB.den k52.hs) : Prop := ghs TB [] (k52.fill TB i) fun s => WP TB kk 168 1 (cB (cB (cA (cA (cA (cA (cB (cB (cB (cB (cB (cB (cB (cB (cB k1c))))))))))))))) .no s (blockT TB 5 (k5d o nx4))
structure k8p (o : kc) (nx4 : HL TB.den kj.hs → Prop) (i : HL TB.den k52.hs) : Prop where
  h : kcp o nx4 i
noncomputable def knj (o : kc) (nx4 : HL TB.den kj.hs → Prop) : Exit → TSt TB.den → Prop := thenT TB (fun s => k52.mat TB 1 s (k8p o nx4)) (blockT TB 5 (k5d o nx4))
def k3f : Tm := ⟨[0], [.vec (.int .i64)], [0, 1, 10, 11], [.one (.row 0), .one (.d (.int .i64)), .one (.d (.int .i64)), .one (.d (.int .i64))], 301⟩
noncomputable def knl (o : kc) (nx4 : HL TB.den kj.hs → Prop) (nx5 : HL TB.den k3f.hs → Prop) : Exit → TSt TB.den → Prop := thenT TB (fun s => k3f.mat TB 1 s nx5) (blockT TB 8 (knj o nx4))
noncomputable def k8r (o : kc) (nx4 : HL TB.den kj.hs → Prop) (nx5 : HL TB.den k3f.hs → Prop) (i : HL TB.den k3f.hs) : Prop := WP TB kk 168 1 (cA (cA (cA (cB (cA (cA (cA (cA (cB (cB (cB (cB (cB (cB (cB (cB (cB k1c))))))))))))))))) .no (k3f.fill TB i) (knl o nx4 nx5)
noncomputable def knu (o : kc) (nx4 : HL TB.den kj.hs → Prop) : An TB := .lp [] k3f (k8r o nx4) fun nx5 => .no
noncomputable def kdc (o : kc) (nx4 : HL TB.den kj.hs → Prop) : An TB := .jn k52 (k8p o nx4) [] (knu o nx4) [] .no
def k55 : Tm := ⟨[0], [.vec (.int .i64)], [0, 1, 10, 11], [.one (.row 0), .one (.d (.int .i64)), .one (.d (.int .i64)), .one (.d (.int .i64))], 301⟩
noncomputable def kcr (o : kc) (nx4 : HL TB.den kj.hs → Prop) (i : HL TB.den k55.hs) : Prop := ghs TB [] (k55.fill TB i) fun s => WP TB kk 168 1 (cB (cA (cA (cA (cA (cB (cB (cB (cB (cB (cB (cB (cB (cB k1c)))))))))))))) (kdc o nx4) s (blockT TB 5 (k5d o nx4))
structure k8u (o : kc) (nx4 : HL TB.den kj.hs → Prop) (i : HL TB.den k55.hs) : Prop where
  h : kcr o nx4 i
noncomputable def ko5 (o : kc) (nx4 : HL TB.den kj.hs → Prop) : Exit → TSt TB.den → Prop := thenT TB (fun s => k55.mat TB 1 s (k8u o nx4)) (blockT TB 5 (k5d o nx4))
def k3e : Tm := ⟨[0], [.vec (.int .i64)], [0, 1, 10, 11], [.one (.row 0), .one (.d (.int .i64)), .one (.d (.int .i64)), .one (.d (.int .i64))], 245⟩
noncomputable def kmw (o : kc) (nx4 : HL TB.den kj.hs → Prop) (nx3 : HL TB.den k3e.hs → Prop) : Exit → TSt TB.den → Prop := thenT TB (fun s => k3e.mat TB 1 s nx3) (blockT TB 6 (ko5 o nx4))
noncomputable def k8i (o : kc) (nx4 : HL TB.den kj.hs → Prop) (nx3 : HL TB.den k3e.hs → Prop) (i : HL TB.den k3e.hs) : Prop := WP TB kk 168 1 (cA (cA (cA (cA (cA (cA (cA (cB (cB (cB (cB (cB (cB (cB (cB (cB k1c)))))))))))))))) .no (k3e.fill TB i) (kmw o nx4 nx3)
noncomputable def kmt (o : kc) (nx4 : HL TB.den kj.hs → Prop) : An TB := .lp [] k3e (k8i o nx4) fun nx3 => .no
noncomputable def kcq (o : kc) (nx4 : HL TB.den kj.hs → Prop) : An TB := .jn k55 (k8u o nx4) [] (kmt o nx4) [] (kdc o nx4)
noncomputable def k8o (o : kc) (nx4 : HL TB.den kj.hs → Prop) (i : HL TB.den kj.hs) : Prop := WP TB kk 168 1 (cA (cA (cA (cB (cB (cB (cB (cB (cB (cB (cB (cB k1c)))))))))))) (kcq o nx4) (kj.fill TB i) (k5d o nx4)
noncomputable def kmq (o : kc) : An TB := .lp [] kj (k8o o) fun nx4 => (kcq o nx4)
noncomputable def kn0 (o : kc) : An TB := .nd [] .no [] (.nd [] (kmq o) [] .no)
noncomputable def kck (o : kc) : An TB := .nd [] .no [] (.nd [] .no [] (kn0 o))
def k54 : Tm := ⟨[0], [.vec (.int .i64)], [0, 1, 10, 11], [.one (.row 0), .one (.d (.int .i64)), .one (.d (.int .i64)), .one (.d (.int .i64))], 181⟩
noncomputable def kco (o : kc) (i : HL TB.den k54.hs) : Prop := ghs TB [] (k54.fill TB i) fun s => WP TB kk 168 1 (cB (cB (cB (cB (cB k1c))))) (.nd [] .no [] (kck o)) s (retTQ TB kk kl k27 o)
structure k8f (o : kc) (i : HL TB.den k54.hs) : Prop where
  h : kco o i
noncomputable def kmr (o : kc) : Exit → TSt TB.den → Prop := thenT TB (fun s => k54.mat TB 1 s (k8f o)) (retTQ TB kk kl k27 o)
def k3g : Tm := ⟨[0], [.vec (.int .i64)], [0, 1, 10, 11], [.one (.row 0), .one (.d (.int .i64)), .one (.d (.int .i64)), .one (.d (.int .i64))], 121⟩
noncomputable def kn1 (o : kc) (nx2 : HL TB.den k3g.hs → Prop) : Exit → TSt TB.den → Prop := thenT TB (fun s => k3g.mat TB 1 s nx2) (blockT TB 2 (kmr o))
noncomputable def k8m (o : kc) (nx2 : HL TB.den k3g.hs → Prop) (i : HL TB.den k3g.hs) : Prop := WP TB kk 168 1 (cA (cA (cA (cB (cB (cB (cB k1c))))))) .no (k3g.fill TB i) (kn1 o nx2)
noncomputable def kmx (o : kc) : An TB := .lp [] k3g (k8m o) fun nx2 => .no
noncomputable def kcm (o : kc) : An TB := .jn k54 (k8f o) [] (kmx o) [] (.nd [] .no [] (kck o))
def k53 : Tm := ⟨[0], [.vec (.int .i64)], [0, 1, 10, 11], [.one (.row 0), .one (.d (.int .i64)), .one (.d (.int .i64)), .one (.d (.int .i64))], 121⟩
noncomputable def kcn (o : kc) (i : HL TB.den k53.hs) : Prop := ghs TB [] (k53.fill TB i) fun s => WP TB kk 168 1 (cB (cB (cB (cB k1c)))) (kcm o) s (retTQ TB kk kl k27 o)
structure k8j (o : kc) (i : HL TB.den k53.hs) : Prop where
  h : kcn o i
noncomputable def kmu (o : kc) : Exit → TSt TB.den → Prop := thenT TB (fun s => k53.mat TB 1 s (k8j o)) (retTQ TB kk kl k27 o)
def k3h : Tm := ⟨[0], [.vec (.int .i64)], [0, 1, 10, 11], [.one (.row 0), .one (.d (.int .i64)), .one (.d (.int .i64)), .one (.d (.int .i64))], 65⟩
noncomputable def kms (o : kc) (nx1 : HL TB.den k3h.hs → Prop) : Exit → TSt TB.den → Prop := thenT TB (fun s => k3h.mat TB 1 s nx1) (blockT TB 0 (kmu o))
noncomputable def k8w (o : kc) (nx1 : HL TB.den k3h.hs → Prop) (i : HL TB.den k3h.hs) : Prop := WP TB kk 168 1 (cA (cA (cA (cB (cB (cB k1c)))))) .no (k3h.fill TB i) (kms o nx1)
noncomputable def kmo (o : kc) : An TB := .lp [] k3h (k8w o) fun nx1 => .no
noncomputable def kmp (o : kc) : An TB := .jn k53 (k8j o) [] (kmo o) [] (kcm o)
noncomputable def kmz (o : kc) : An TB := .nd [] .no [] (.nd [] .no [] (kmp o))
noncomputable def kd4 (o : kc) : An TB := .nd [] .no [] (kmz o)
noncomputable def kby (x : kdz) (o : kc) : Prop := WPh TB kk 168 1 k1c (kd4 o) (kl.st TB x) (retTQ TB kk kl k27 o)
set_option maxRecDepth 100000 in
theorem kmv (o : kc) : OblH TB kk 168 1 k1c (kd4 o) (retTQ TB kk kl k27 o) :=
  OblH.of_eq (X := (True ∧ (True ∧ (True ∧ (((∀ nx i, (k8w o) nx i = (k8w o) nx i) ∧ ∀ nx1 : HL TB.den k3h.hs → Prop, ((True ∧ (True ∧ True)) ∧ True)) ∧ (∀ i, (k8j o) i = (kcn o) i) ∧ (((∀ nx i, (k8m o) nx i = (k8m o) nx i) ∧ ∀ nx2 : HL TB.den k3g.hs → Prop, ((True ∧ (True ∧ True)) ∧ True)) ∧ (∀ i, (k8f o) i = (kco o) i) ∧ ((True ∧ ((True ∧ (True ∧ True)) ∧ True)) ∧ (True ∧ (True ∧ (True ∧ (((∀ nx i, (k8o o) nx i = (k8o o) nx i) ∧ ∀ nx4 : HL TB.den kj.hs → Prop, (((∀ nx i, (k8i o nx4) nx i = (k8i o nx4) nx i) ∧ ∀ nx3 : HL TB.den k3e.hs → Prop, ((True ∧ (True ∧ True)) ∧ True)) ∧ (∀ i, (k8u o nx4) i = (kcr o nx4) i) ∧ (((∀ nx i, (k8r o nx4) nx i = (k8r o nx4) nx i) ∧ ∀ nx5 : HL TB.den k3f.hs → Prop, ((True ∧ (True ∧ True)) ∧ True)) ∧ (∀ i, (k8p o nx4) i = (kcp o nx4) i) ∧ ((True ∧ (True ∧ True)) ∧ (True ∧ (True ∧ True)))))) ∧ (True ∧ (True ∧ True))))))))))))) (by kernel_rfl) ⟨trivial, ⟨trivial, ⟨trivial, ⟨⟨fun _ _ => rfl, fun _ => ⟨⟨trivial, ⟨trivial, trivial⟩⟩, trivial⟩⟩, fun _ => propext ⟨fun h => h.1, fun h => ⟨h⟩⟩, ⟨⟨fun _ _ => rfl, fun _ => ⟨⟨trivial, ⟨trivial, trivial⟩⟩, trivial⟩⟩, fun _ => propext ⟨fun h => h.1, fun h => ⟨h⟩⟩, ⟨⟨trivial, ⟨⟨trivial, ⟨trivial, trivial⟩⟩, trivial⟩⟩, ⟨trivial, ⟨trivial, ⟨trivial, ⟨⟨fun _ _ => rfl, fun _ => ⟨⟨fun _ _ => rfl, fun _ => ⟨⟨trivial, ⟨trivial, trivial⟩⟩, trivial⟩⟩, fun _ => propext ⟨fun h => h.1, fun h => ⟨h⟩⟩, ⟨⟨fun _ _ => rfl, fun _ => ⟨⟨trivial, ⟨trivial, trivial⟩⟩, trivial⟩⟩, fun _ => propext ⟨fun h => h.1, fun h => ⟨h⟩⟩, ⟨⟨trivial, ⟨trivial, trivial⟩⟩, ⟨trivial, ⟨trivial, trivial⟩⟩⟩⟩⟩⟩, ⟨trivial, ⟨trivial, trivial⟩⟩⟩⟩⟩⟩⟩⟩⟩⟩⟩⟩
set_option maxRecDepth 100000 in
theorem kmy {x : kdz} {o : kc} (h : kby x o) : SoundH Try.prog kl.f ((kl.args idf x).map (er TB)) ((kl.obs idf x).map (erO TB)) (er TB (kl.val idf o)) ((kl.ops idf o).map (erO TB)) :=
  Con.soundH (c := kl) (C := kk) TBok ⟨inf_ok, (all_cons k8l all_nil), all_nil⟩ mix Try.func63 (show Try.f63.body = some k1c by kernel_rfl) (show Try.f63.ntmps = 168 by kernel_rfl) (show Try.f63.results.toList = k27 by kernel_rfl) rfl h (kmv o)
theorem bd63 : Callable Try.prog 63 := ⟨by rw [Try.func63]; kernel_rfl, by rw [Try.func63]; show some _ ≠ some _; decide⟩
noncomputable def kcl : Con TB.den := kl.relR kby
theorem ko4 : kcl.Ok Try.prog TB := Con.ok_rel kl bd63 fun _ _ h => kmy h
end Go.Proofs.Ytponaobpcdkggaa
namespace Go.Proofs.Ytponaobpcdkggaa
open Go Go.Bv Go.Cv Go.Md Go.RowKit
def ku : Con TB.den := Con.mk0 59 [.one (.row 0), .one (.d (.int .i64)), .one (.d (.int .i64))] [.vec (.int .i64)] (.tup []) [.vec (.int .i64)]
abbrev kc2 := HL TB.den (hsT ku.ins (hsOs ku.pre))
abbrev k2e := HL TB.den (hsV ku.res (hsOs ku.post))
noncomputable def k2q : Cx TB := ⟨inf, [], [], 4, []⟩
noncomputable def k5l : Code := Try.f59.body.getD .skip
noncomputable def k5v : List ResultVar := Try.f59.results.toList
noncomputable def kky (o : k2e) : Exit → TSt TB.den → Prop := blockT TB 0 (retTQ TB k2q ku k5v o)
def k2r : Tm := ⟨[0], [.vec (.int .i64)], [0, 6, 7], [.one (.row 0), .one (.d (.int .i64)), .one (.d (.int .i64))], 1⟩
noncomputable def kl5 (o : k2e) (nx1 : HL TB.den k2r.hs → Prop) : Exit → TSt TB.den → Prop := thenT TB (fun s => k2r.mat TB 1 s nx1) (kky o)
noncomputable def k7q (o : k2e) (nx1 : HL TB.den k2r.hs → Prop) (i : HL TB.den k2r.hs) : Prop := WP TB k2q 32 1 (cA (cA (cB (cB k5l)))) .no (k2r.fill TB i) (kl5 o nx1)
noncomputable def kkz (o : k2e) : An TB := .lp [] k2r (k7q o) fun nx1 => .no
noncomputable def kbm (o : k2e) : An TB := .nd [] .no [] (.nd [] .no [] (kkz o))
noncomputable def kac (x : kc2) (o : k2e) : Prop := WPh TB k2q 32 1 k5l (kbm o) (ku.st TB x) (retTQ TB k2q ku k5v o)
set_option maxRecDepth 100000 in
theorem kk7 (o : k2e) : OblH TB k2q 32 1 k5l (kbm o) (retTQ TB k2q ku k5v o) :=
  OblH.of_eq (X := (True ∧ (True ∧ ((∀ nx i, (k7q o) nx i = (k7q o) nx i) ∧ ∀ nx1 : HL TB.den k2r.hs → Prop, ((True ∧ (True ∧ True)) ∧ (True ∧ (True ∧ True))))))) (by kernel_rfl) ⟨trivial, ⟨trivial, ⟨fun _ _ => rfl, fun _ => ⟨⟨trivial, ⟨trivial, trivial⟩⟩, ⟨trivial, ⟨trivial, trivial⟩⟩⟩⟩⟩⟩
set_option maxRecDepth 100000 in
theorem kki {x : kc2} {o : k2e} (h : kac x o) : SoundH Try.prog ku.f ((ku.args idf x).map (er TB)) ((ku.obs idf x).map (erO TB)) (er TB (ku.val idf o)) ((ku.ops idf o).map (erO TB)) :=
  Con.soundH (c := ku) (C := k2q) TBok ⟨inf_ok, all_nil, all_nil⟩ mix Try.func59 (show Try.f59.body = some k5l by kernel_rfl) (show Try.f59.ntmps = 32 by kernel_rfl) (show Try.f59.results.toList = k5v by kernel_rfl) rfl h (kk7 o)
theorem bd59 : Callable Try.prog 59 := ⟨by rw [Try.func59]; kernel_rfl, by rw [Try.func59]; show some _ ≠ some _; decide⟩
noncomputable def kav : Con TB.den := ku.relR kac
theorem kl4 : kav.Ok Try.prog TB := Con.ok_rel ku bd59 fun _ _ h => kki h
end Go.Proofs.Ytponaobpcdkggaa
namespace Go.Proofs.Ytponaobpcdkggaa
open Go Go.Bv Go.Cv Go.Md Go.RowKit
def k18 : Con TB.den := Con.mk0 46 [.one (.row 0), .one (.d (.int .i64)), .one (.d (.int .i64)), .one (.d (.int .i64))] [.vec (.int .i64)] (.tup []) [.vec (.int .i64)]
abbrev kg3 := HL TB.den (hsT k18.ins (hsOs k18.pre))
abbrev ki := HL TB.den (hsV k18.res (hsOs k18.post))
noncomputable def k1l : Cx TB := ⟨inf, [ka8, kd6, kaf, kbp, kav, k87, k6u, ka3, kcl], [], 4, []⟩
noncomputable def k20 : Code := Try.f46.body.getD .skip
noncomputable def k79 : List ResultVar := Try.f46.results.toList
noncomputable def kpx (o : ki) : Exit → TSt TB.den → Prop := blockT TB 0 (retTQ TB k1l k18 k79 o)
def kg : Tm := ⟨[0], [.vec (.int .i64)], [0, 1, 2, 3, 8, 9], [.one (.row 0), .one (.d (.int .i64)), .one (.d (.int .i64)), .one (.d (.int .i64)), .one (.d (.bool)), .one (.d (.bool))], 1⟩
noncomputable def k3p (o : ki) (nx1 : HL TB.den kg.hs → Prop) : Exit → TSt TB.den → Prop := thenT TB (fun s => kg.mat TB 1 s nx1) (kpx o)
noncomputable def kpc (o : ki) (nx1 : HL TB.den kg.hs → Prop) : Exit → TSt TB.den → Prop := thenT TB (fun s => ghs TB [] s fun s => WP TB k1l 134 1 (cB (cB (cB (cB (cB (cB (cB (cB (cA (cA (cA (cB (cB k20))))))))))))) .no s (blockT TB 1 (k3p o nx1))) (blockT TB 1 (k3p o nx1))
def k6q : Tm := ⟨[0], [.vec (.int .i64)], [0, 1, 2, 3, 8, 9, 10, 11, 87], [.one (.row 0), .one (.d (.int .i64)), .one (.d (.int .i64)), .one (.d (.int .i64)), .one (.d (.bool)), .one (.d (.bool)), .one (.d (.int .i64)), .one (.d (.int .i64)), .one (.d (.bool))], 61⟩
noncomputable def kdt (o : ki) (nx1 : HL TB.den kg.hs → Prop) (i : HL TB.den k6q.hs) : Prop := ghs TB [] (k6q.fill TB i) fun s => WP TB k1l 134 1 (cB (cA (cB (cB (cB (cB (cB (cB (cB (cA (cA (cA (cB (cB k20)))))))))))))) .no s (kpc o nx1)
structure kfi (o : ki) (nx1 : HL TB.den kg.hs → Prop) (i : HL TB.den k6q.hs) : Prop where
  h : kdt o nx1 i
noncomputable def kei (o : ki) (nx1 : HL TB.den kg.hs → Prop) : An TB := .jn k6q (kfi o nx1) [] .no [] .no
def k5m : Tm := ⟨[0], [.vec (.int .i64)], [0, 1, 2, 3, 8, 9, 10, 11], [.one (.row 0), .one (.d (.int .i64)), .one (.d (.int .i64)), .one (.d (.int .i64)), .one (.d (.bool)), .one (.d (.bool)), .one (.d (.int .i64)), .one (.d (.int .i64))], 1⟩
noncomputable def ke1 (o : ki) (nx1 : HL TB.den kg.hs → Prop) (i : HL TB.den k5m.hs) : Prop := ghs TB [] (k5m.fill TB i) fun s => WP TB k1l 134 1 (cB (cB (cB (cB (cB (cB (cB (cA (cA (cA (cB (cB k20)))))))))))) (.nd [] (kei o nx1) [] .no) s (blockT TB 1 (k3p o nx1))
structure k9c (o : ki) (nx1 : HL TB.den kg.hs → Prop) (i : HL TB.den k5m.hs) : Prop where
  h : ke1 o nx1 i
noncomputable def kp0 (o : ki) (nx1 : HL TB.den kg.hs → Prop) : Exit → TSt TB.den → Prop := thenT TB (fun s => k5m.mat TB 1 s (k9c o nx1)) (blockT TB 1 (k3p o nx1))
def k6o : Tm := ⟨[0], [.vec (.int .i64)], [0, 1, 2, 3, 8, 9, 10, 11, 68], [.one (.row 0), .one (.d (.int .i64)), .one (.d (.int .i64)), .one (.d (.int .i64)), .one (.d (.bool)), .one (.d (.bool)), .one (.d (.int .i64)), .one (.d (.int .i64)), .one (.d (.bool))], 1⟩
noncomputable def kdv (o : ki) (nx1 : HL TB.den kg.hs → Prop) (i : HL TB.den k6o.hs) : Prop := ghs TB [] (k6o.fill TB i) fun s => WP TB k1l 134 1 (cB (cA (cB (cB (cB (cB (cB (cB (cA (cA (cA (cB (cB k20))))))))))))) .no s (kp0 o nx1)
structure keu (o : ki) (nx1 : HL TB.den kg.hs → Prop) (i : HL TB.den k6o.hs) : Prop where
  h : kdv o nx1 i
noncomputable def kpy (o : ki) (nx1 : HL TB.den kg.hs → Prop) : An TB := .jn k6o (keu o nx1) [] .no [] .no
noncomputable def ke9 (o : ki) (nx1 : HL TB.den kg.hs → Prop) : An TB := .jn k5m (k9c o nx1) [] (kpy o nx1) [] (.nd [] (kei o nx1) [] .no)
def k6s : Tm := ⟨[0], [.vec (.int .i64)], [0, 1, 2, 3, 8, 9, 10, 11, 12], [.one (.row 0), .one (.d (.int .i64)), .one (.d (.int .i64)), .one (.d (.int .i64)), .one (.d (.bool)), .one (.d (.bool)), .one (.d (.int .i64)), .one (.d (.int .i64)), .one (.d (.int .i64))], 1⟩
noncomputable def kdy (o : ki) (nx1 : HL TB.den kg.hs → Prop) (i : HL TB.den k6s.hs) : Prop := ghs TB [] (k6s.fill TB i) fun s => WP TB k1l 134 1 (cB (cB (cB (cB (cB (cB (cA (cA (cA (cB (cB k20))))))))))) (ke9 o nx1) s (blockT TB 1 (k3p o nx1))
structure kf6 (o : ki) (nx1 : HL TB.den kg.hs → Prop) (i : HL TB.den k6s.hs) : Prop where
  h : kdy o nx1 i
noncomputable def kdo (o : ki) (nx1 : HL TB.den kg.hs → Prop) : An TB := .jn k6s (kf6 o nx1) [] .no [] (ke9 o nx1)
def k6r : Tm := ⟨[0], [.vec (.int .i64)], [0, 1, 2, 3, 8, 9, 10], [.one (.row 0), .one (.d (.int .i64)), .one (.d (.int .i64)), .one (.d (.int .i64)), .one (.d (.bool)), .one (.d (.bool)), .one (.d (.int .i64))], 1⟩
noncomputable def kdu (o : ki) (nx1 : HL TB.den kg.hs → Prop) (i : HL TB.den k6r.hs) : Prop := ghs TB [] (k6r.fill TB i) fun s => WP TB k1l 134 1 (cB (cB (cB (cB (cA (cA (cA (cB (cB k20))))))))) (.nd [] .no [] (kdo o nx1)) s (blockT TB 1 (k3p o nx1))
structure k7a (o : ki) (nx1 : HL TB.den kg.hs → Prop) (i : HL TB.den k6r.hs) : Prop where
  h : kdu o nx1 i
noncomputable def kol (o : ki) (nx1 : HL TB.den kg.hs → Prop) : An TB := .jn k6r (k7a o nx1) [] .no [] (.nd [] .no [] (kdo o nx1))
noncomputable def kds (o : ki) (nx1 : HL TB.den kg.hs → Prop) : An TB := .nd [] .no [] (.nd [] .no [] (kol o nx1))
noncomputable def k5t (o : ki) (nx1 : HL TB.den kg.hs → Prop) (i : HL TB.den kg.hs) : Prop := WP TB k1l 134 1 (cA (cA (cB (cB k20)))) (.nd [] .no [] (kds o nx1)) (kg.fill TB i) (k3p o nx1)
noncomputable def koi (o : ki) : An TB := .lp [] kg (k5t o) fun nx1 => (.nd [] .no [] (kds o nx1))
noncomputable def kea (o : ki) : An TB := .nd [] .no [] (.nd [] .no [] (koi o))
noncomputable def k8q (x : kg3) (o : ki) : Prop := WPh TB k1l 134 1 k20 (kea o) (k18.st TB x) (retTQ TB k1l k18 k79 o)
set_option maxRecDepth 100000 in
theorem kob (o : ki) : OblH TB k1l 134 1 k20 (kea o) (retTQ TB k1l k18 k79 o) :=
  OblH.of_eq (X := (True ∧ (True ∧ ((∀ nx i, (k5t o) nx i = (k5t o) nx i) ∧ ∀ nx1 : HL TB.den kg.hs → Prop, (True ∧ ((True ∧ ((True ∧ True) ∧ True)) ∧ ((True ∧ ((True ∧ True) ∧ True)) ∧ ((True ∧ ((True ∧ True) ∧ True)) ∧ (∀ i, (k7a o nx1) i = (kdu o nx1) i) ∧ (True ∧ ((True ∧ ((True ∧ (True ∧ True)) ∧ True)) ∧ (∀ i, (kf6 o nx1) i = (kdy o nx1) i) ∧ ((True ∧ (∀ i, (keu o nx1) i = (kdv o nx1) i) ∧ ((True ∧ (True ∧ True)) ∧ True)) ∧ (∀ i, (k9c o nx1) i = (ke1 o nx1) i) ∧ ((True ∧ (∀ i, (kfi o nx1) i = (kdt o nx1) i) ∧ ((True ∧ (True ∧ True)) ∧ True)) ∧ (True ∧ (True ∧ (True ∧ (True ∧ (True ∧ ((True ∧ (True ∧ True)) ∧ (True ∧ (True ∧ True)))))))))))))))))))) (by kernel_rfl) ⟨trivial, ⟨trivial, ⟨fun _ _ => rfl, fun _ => ⟨trivial, ⟨⟨trivial, ⟨⟨trivial, trivial⟩, trivial⟩⟩, ⟨⟨trivial, ⟨⟨trivial, trivial⟩, trivial⟩⟩, ⟨⟨trivial, ⟨⟨trivial, trivial⟩, trivial⟩⟩, fun _ => propext ⟨fun h => h.1, fun h => ⟨h⟩⟩, ⟨trivial, ⟨⟨trivial, ⟨⟨trivial, ⟨trivial, trivial⟩⟩, trivial⟩⟩, fun _ => propext ⟨fun h => h.1, fun h => ⟨h⟩⟩, ⟨⟨trivial, fun _ => propext ⟨fun h => h.1, fun h => ⟨h⟩⟩, ⟨⟨trivial, ⟨trivial, trivial⟩⟩, trivial⟩⟩, fun _ => propext ⟨fun h => h.1, fun h => ⟨h⟩⟩, ⟨⟨trivial, fun _ => propext ⟨fun h => h.1, fun h => ⟨h⟩⟩, ⟨⟨trivial, ⟨trivial, trivial⟩⟩, trivial⟩⟩, ⟨trivial, ⟨trivial, ⟨trivial, ⟨trivial, ⟨trivial, ⟨⟨trivial, ⟨trivial, trivial⟩⟩, ⟨trivial, ⟨trivial, trivial⟩⟩⟩⟩⟩⟩⟩⟩⟩⟩⟩⟩⟩⟩⟩⟩⟩⟩⟩
set_option maxRecDepth 100000 in
theorem koh {x : kg3} {o : ki} (h : k8q x o) : SoundH Try.prog k18.f ((k18.args idf x).map (er TB)) ((k18.obs idf x).map (erO TB)) (er TB (k18.val idf o)) ((k18.ops idf o).map (erO TB)) :=
  Con.soundH (c := k18) (C := k1l) TBok ⟨inf_ok, (all_cons kkr (all_cons koc (all_cons kk9 (all_cons kly (all_cons kl4 (all_cons kfv (all_cons k8l (all_cons kje (all_cons ko4 all_nil))))))))), all_nil⟩ mix Try.func46 (show Try.f46.body = some k20 by kernel_rfl) (show Try.f46.ntmps = 134 by kernel_rfl) (show Try.f46.results.toList = k79 by kernel_rfl) rfl h (kob o)
set_option maxRecDepth 100000 in
theorem kpg {p1 : Int} {p2 : Int} {p3 : Int} {w0 : List Int} {e0 : List Int} (h :
((w0.length = w0.length) ∧ Md.Loop (p1, p2, p3, true, true, w0, ()) (k5t (e0, ())))) : k8q (p1, p2, p3, w0, ()) (e0, ()) := WPh.of_eq (by kernel_rfl) h
def k9g (e0 : List Int) (nx1 : HL TB.den kg.hs → Prop) (k1 : Int → Int → List Int → Prop) (s2 : Int) (s8 : Bool) (s9 : Bool) (s1 : Int) (s3 : Int) (g0 : List Int) : Prop :=
 let v1 : Bool := decide ((IntKind.i64.wrap (s2 - s1)) ≤ 12)
(v1 = true →
(g0.length = g0.length) ∧ (s1 = 0 ∧ s2 = g0.length ∧ g0.length ≤ 1000000) ∧ (srt g0) = e0) ∧
(v1 = false →
((s3 == 0) = true →
(g0.length = g0.length) ∧ ∃ r5 : List Int, k8d (s1, s2, g0, ()) (r5, ()) ∧ r5 = e0) ∧
((s3 == 0) = false →
((!s8) = true →
(g0.length = g0.length) ∧ ∃ r7 : List Int, k6v (s1, s2, g0, ()) (r7, ()) ∧ (g0.length = r7.length) ∧ k7a (e0, ()) nx1 (s1, s2, (IntKind.i64.wrap (s3 - 1) : Int), s8, s9, (IntKind.i64.wrap (s2 - s1) : Int), r7, ())) ∧
((!s8) = false →
(g0.length = g0.length) ∧ k7a (e0, ()) nx1 (s1, s2, s3, s8, s9, (IntKind.i64.wrap (s2 - s1) : Int), g0, ()))))
set_option maxRecDepth 100000 in
theorem ko9 {e0 : List Int} {s2 : Int} {s8 : Bool} {s9 : Bool} {s1 : Int} {s3 : Int} {g0 : List Int} (inv : Int → Int → List Int → Prop) (μ : Int → Int → List Int → Nat) (h0 : inv s1 s3 g0) (hs : ∀ (s1 : Int) (s3 : Int) (g0 : List Int), inv s1 s3 g0 → k9g e0 (fun s : Int × Int × Int × Bool × Bool × (List Int) × Unit => ((s.2.1 = s2 ∧ s.2.2.2.1 = s8 ∧ s.2.2.2.2.1 = s9) ∧ inv s.1 s.2.2.1 s.2.2.2.2.2.1) ∧ μ s.1 s.2.2.1 s.2.2.2.2.2.1 < μ s1 s3 g0) (fun s1q s3q g0q => inv s1q s3q g0q ∧ μ s1q s3q g0q < μ s1 s3 g0) s2 s8 s9 s1 s3 g0) : Md.Loop (s1, s2, s3, s8, s9, g0, ()) (k5t (e0, ())) :=
  ⟨⟨fun s : Int × Int × Int × Bool × Bool × (List Int) × Unit => (s.2.1 = s2 ∧ s.2.2.2.1 = s8 ∧ s.2.2.2.2.1 = s9) ∧ inv s.1 s.2.2.1 s.2.2.2.2.2.1, fun s : Int × Int × Int × Bool × Bool × (List Int) × Unit => μ s.1 s.2.2.1 s.2.2.2.2.2.1, ⟨⟨rfl, rfl, rfl⟩, h0⟩, fun (s1p, s2p, s3p, s8p, s9p, g0p, ()) ⟨⟨eq0, eq1, eq2⟩, hi⟩ => by
    have eq0 : s2p = s2 := eq0; subst s2p; have eq1 : s8p = s8 := eq1; subst s8p; have eq2 : s9p = s9 := eq2; subst s9p; exact mpr_of (by kernel_rfl) ((congrArg (fun k => k9g e0 (fun s : Int × Int × Int × Bool × Bool × (List Int) × Unit => ((s.2.1 = s2 ∧ s.2.2.2.1 = s8 ∧ s.2.2.2.2.1 = s9) ∧ inv s.1 s.2.2.1 s.2.2.2.2.2.1) ∧ μ s.1 s.2.2.1 s.2.2.2.2.2.1 < μ s1p s3p g0p) k s2 s8 s9 s1p s3p g0p) (lpk3 (⟨rfl, rfl, rfl⟩ : s2 = s2 ∧ s8 = s8 ∧ s9 = s9) inv (fun s1q s3q g0q => μ s1q s3q g0q < μ s1p s3p g0p))).mpr (hs s1p s3p g0p hi))⟩⟩
theorem bd46 : Callable Try.prog 46 := ⟨by rw [Try.func46]; kernel_rfl, by rw [Try.func46]; show some _ ≠ some _; decide⟩
theorem kn6 (p1 : Int) (p2 : Int) (p3 : Int) (w0 : List Int) (h : p1 = 0 ∧ p2 = w0.length ∧ w0.length ≤ 12) : k8q (p1, p2, p3, w0, ()) (((srt w0) : List Int), ()) := by
  obtain ⟨rfl, rfl, h3⟩ := h
  refine kpg ⟨rfl, ko9 (fun a _ g => a = 0 ∧ g = w0) (fun _ _ _ => 0) ⟨rfl, rfl⟩ ?_⟩
  rintro a b g ⟨rfl, rfl⟩
  have e : decide (IntKind.i64.wrap ((g.length : Int) - 0) ≤ 12) = true := by
    rw [wi _ (by omega) (by omega)]
    exact decide_eq_true (by omega)
  unfold k9g
  dsimp only
  rw [e]
  exact ⟨fun _ => ⟨rfl, ⟨rfl, rfl, by omega⟩, rfl⟩, fun h => by cases h⟩
noncomputable def kdx : Con TB.den := k18.fnR (fun x => (fun (p1 : Int) (p2 : Int) (p3 : Int) (w0 : List Int) => p1 = 0 ∧ p2 = w0.length ∧ w0.length ≤ 12) x.1 x.2.1 x.2.2.1 x.2.2.2.1) fun x => ((fun (p1 : Int) (p2 : Int) (p3 : Int) (w0 : List Int) => ((srt w0) : List Int)) x.1 x.2.1 x.2.2.1 x.2.2.2.1, ())
theorem kpo : kdx.Ok Try.prog TB := Con.ok_fn k18 bd46 fun x h => koh (kn6 x.1 x.2.1 x.2.2.1 x.2.2.2.1 h)
end Go.Proofs.Ytponaobpcdkggaa
namespace Go.Proofs.Ytponaobpcdkggaa
open Go Go.Bv Go.Cv Go.Md Go.RowKit
def k2a : Con TB.den := Con.mk0 37 [.one (.row 0)] [.vec (.int .i64)] (.tup []) [.vec (.int .i64)]
abbrev kre := HL TB.den (hsT k2a.ins (hsOs k2a.pre))
abbrev ke3 := HL TB.den (hsV k2a.res (hsOs k2a.post))
noncomputable def k9y : Cx TB := ⟨inf, [ktf, kdx], [], 4, []⟩
noncomputable def kgc : Code := Try.f37.body.getD .skip
noncomputable def ki6 : List ResultVar := Try.f37.results.toList
noncomputable def kqn (o : ke3) : An TB := .no
noncomputable def kg7 (x : kre) (o : ke3) : Prop := WPh TB k9y 11 1 kgc (kqn o) (k2a.st TB x) (retTQ TB k9y k2a ki6 o)
set_option maxRecDepth 100000 in
theorem kzc (o : ke3) : OblH TB k9y 11 1 kgc (kqn o) (retTQ TB k9y k2a ki6 o) :=
  OblH.of_eq (X := (True ∧ True)) (by kernel_rfl) ⟨trivial, trivial⟩
set_option maxRecDepth 100000 in
theorem kz8 {x : kre} {o : ke3} (h : kg7 x o) : SoundH Try.prog k2a.f ((k2a.args idf x).map (er TB)) ((k2a.obs idf x).map (erO TB)) (er TB (k2a.val idf o)) ((k2a.ops idf o).map (erO TB)) :=
  Con.soundH (c := k2a) (C := k9y) TBok ⟨inf_ok, (all_cons k123 (all_cons kpo all_nil)), all_nil⟩ mix Try.func37 (show Try.f37.body = some kgc by kernel_rfl) (show Try.f37.ntmps = 11 by kernel_rfl) (show Try.f37.results.toList = ki6 by kernel_rfl) rfl h (kzc o)
set_option maxRecDepth 100000 in
theorem kzl {w0 : List Int} {e0 : List Int} (h :
((U64 (IntKind.u64.wrap (w0.length : Int))) ∧ let r1 : Int := (len64 (IntKind.u64.wrap (w0.length : Int)))
(w0.length = w0.length) ∧ ((0 : Int) = 0 ∧ (w0.length : Int) = w0.length ∧ w0.length ≤ 12) ∧ (srt w0) = e0)) : kg7 (w0, ()) (e0, ()) := WPh.of_eq (by kernel_rfl) h
theorem bd37 : Callable Try.prog 37 := ⟨by rw [Try.func37]; kernel_rfl, by rw [Try.func37]; show some _ ≠ some _; decide⟩
theorem kx7 (w0 : List Int) (h : w0.length ≤ 12) : kg7 (w0, ()) (((srt w0) : List Int), ()) := by
  refine kzl ⟨by rw [wu _ (by omega) (by omega)]; omega, ?_⟩
  exact ⟨rfl, ⟨rfl, rfl, h⟩, rfl⟩
noncomputable def kor : Con TB.den := k2a.fnR (fun x => (fun (w0 : List Int) => w0.length ≤ 12) x.1) fun x => ((fun (w0 : List Int) => ((srt w0) : List Int)) x.1, ())
theorem k10b : kor.Ok Try.prog TB := Con.ok_fn k2a bd37 fun x h => kz8 (kx7 x.1 h)
end Go.Proofs.Ytponaobpcdkggaa
namespace Go.Proofs.Ytponaobpcdkggaa
open Go Go.Bv Go.Cv Go.Md Go.RowKit
def ky : Con TB.den := Con.mk0 26 [.one (.ptr 0 0), .agg [.d (.int .u64), .d (.int .u64)], .one (.d (.int .i64)), .one (.d (.int .i64))] [.cells [.d (.bool), .d (.int .u64), .d (.int .i64), .own 1, .mp 2, .mp 3, .mp 4], .tip (.st 1), .map (.str) (.int .i64), .map (.str) (.sl (.int .u64)), .map (.str) (.bool)] (.tup [.one (.d (.sl (.int .i64))), .agg [.d (.int .u64), .d (.int .u64)]]) [.cells [.d (.bool), .d (.int .u64), .d (.int .i64), .own 1, .mp 2, .mp 3, .mp 4], .tip (.st 1), .map (.str) (.int .i64), .map (.str) (.sl (.int .u64)), .map (.str) (.bool)]
abbrev kih := HL TB.den (hsT ky.ins (hsOs ky.pre))
abbrev k13 := HL TB.den (hsV ky.res (hsOs ky.post))
noncomputable def k1b : Cx TB := ⟨inf, [kal, kne, kor], [], 4, []⟩
noncomputable def k2o : Code := Try.f26.body.getD .skip
noncomputable def k37 : List ResultVar := Try.f26.results.toList
noncomputable def khf (o : k13) : An TB := .nd [] .no [] (.nd [] .no [] (.nd [] .no [] (.rt [.frz 8 [8]])))
noncomputable def ks5 (o : k13) : Exit → TSt TB.den → Prop := thenT TB (fun s => ghs TB [] s fun s => WP TB k1b 82 5 (cB (cB (cB (cB (cB k2o))))) (khf o) s (retTQ TB k1b ky k37 o)) (retTQ TB k1b ky k37 o)
def k4l : Tm := ⟨[0, 1, 2, 3, 4, 5, 6, 7], [.cells [.d (.bool), .d (.int .u64), .d (.int .i64), .own 1, .mp 2, .mp 3, .mp 4], .tip (.st 1), .map (.str) (.int .i64), .map (.str) (.sl (.int .u64)), .map (.str) (.bool), .cells [.d (.int .u64), .d (.int .u64)], .cells [.d (.int .u64), .d (.int .u64)], .vec (.int .i64)], [0, 2, 3, 5, 9, 10, 40, 41], [.one (.ptr 0 0), .one (.d (.int .i64)), .one (.d (.int .i64)), .one (.ptr 5 0), .one (.ptr 6 0), .one (.row 7), .one (.d (.int .i64)), .one (.d (.int .i64))], 8⟩
noncomputable def kry (o : k13) (nx2 : HL TB.den k4l.hs → Prop) : Exit → TSt TB.den → Prop := thenT TB (fun s => k4l.mat TB 5 s nx2) (blockT TB 2 (ks5 o))
noncomputable def k6m (o : k13) (nx2 : HL TB.den k4l.hs → Prop) (i : HL TB.den k4l.hs) : Prop := WP TB k1b 82 5 (cA (cA (cB (cA (cB (cB (cB (cB k2o)))))))) .no (k4l.fill TB i) (kry o nx2)
noncomputable def ks4 (o : k13) : An TB := .lp [] k4l (k6m o) fun nx2 => .no
noncomputable def khe (o : k13) : An TB := .nd [] (.nd [] .no [] (ks4 o)) [] (khf o)
noncomputable def krr (o : k13) : Exit → TSt TB.den → Prop := thenT TB (fun s => ghs TB [] s fun s => WP TB k1b 82 5 (cB (cB (cB (cB k2o)))) (khe o) s (retTQ TB k1b ky k37 o)) (retTQ TB k1b ky k37 o)
def k4k : Tm := ⟨[0, 1, 2, 3, 4, 5, 6, 7], [.cells [.d (.bool), .d (.int .u64), .d (.int .i64), .own 1, .mp 2, .mp 3, .mp 4], .tip (.st 1), .map (.str) (.int .i64), .map (.str) (.sl (.int .u64)), .map (.str) (.bool), .cells [.d (.int .u64), .d (.int .u64)], .cells [.d (.int .u64), .d (.int .u64)], .vec (.int .i64)], [0, 2, 3, 5, 9, 10, 31, 32], [.one (.ptr 0 0), .one (.d (.int .i64)), .one (.d (.int .i64)), .one (.ptr 5 0), .one (.ptr 6 0), .one (.row 7), .one (.d (.int .i64)), .one (.d (.int .i64))], 8⟩
noncomputable def krs (o : k13) (nx1 : HL TB.den k4k.hs → Prop) : Exit → TSt TB.den → Prop := thenT TB (fun s => k4k.mat TB 5 s nx1) (blockT TB 0 (krr o))
noncomputable def k6k (o : k13) (nx1 : HL TB.den k4k.hs → Prop) (i : HL TB.den k4k.hs) : Prop := WP TB k1b 82 5 (cA (cA (cB (cA (cB (cB (cB k2o))))))) .no (k4k.fill TB i) (krs o nx1)
noncomputable def kqs (o : k13) : An TB := .lp [] k4k (k6k o) fun nx1 => .no
noncomputable def kgl (o : k13) : An TB := .nd [] (.nd [] .no [] (kqs o)) [] (khe o)
noncomputable def kqq (o : k13) : Exit → TSt TB.den → Prop := thenT TB (fun s => ghs TB [] s fun s => WP TB k1b 82 5 (cB (cB k2o)) (.nd [] .no [] (kgl o)) s (retTQ TB k1b ky k37 o)) (retTQ TB k1b ky k37 o)
def k7x : Tm := ⟨[0, 1, 2, 3, 4, 5, 6], [.cells [.d (.bool), .d (.int .u64), .d (.int .i64), .own 1, .mp 2, .mp 3, .mp 4], .tip (.st 1), .map (.str) (.int .i64), .map (.str) (.sl (.int .u64)), .map (.str) (.bool), .cells [.d (.int .u64), .d (.int .u64)], .cells [.d (.int .u64), .d (.int .u64)]], [0, 2, 3, 5, 9, 26], [.one (.ptr 0 0), .one (.d (.int .i64)), .one (.d (.int .i64)), .one (.ptr 5 0), .one (.ptr 6 0), .one (.d (.bool))], 7⟩
noncomputable def kgs (o : k13) (i : HL TB.den k7x.hs) : Prop := ghs TB [] (k7x.fill TB i) fun s => WP TB k1b 82 5 (cB (cA (cB k2o))) .no s (kqq o)
structure k4n (o : k13) (i : HL TB.den k7x.hs) : Prop where
  h : kgs o i
noncomputable def kqt (o : k13) : An TB := .jn k7x (k4n o) [] .no [] .no
noncomputable def kqz (o : k13) : An TB := .nd [] (kqt o) [] (.nd [] .no [] (kgl o))
noncomputable def khl (o : k13) : An TB := .nd [] .no [] (kqz o)
noncomputable def k9z (x : kih) (o : k13) : Prop := WPh TB k1b 82 5 k2o (khl o) (ky.st TB x) (retTQ TB k1b ky k37 o)
set_option maxRecDepth 100000 in
theorem kr7 (o : k13) : OblH TB k1b 82 5 k2o (khl o) (retTQ TB k1b ky k37 o) :=
  OblH.of_eq (X := (True ∧ ((True ∧ (∀ i, (k4n o) i = (kgs o) i) ∧ ((True ∧ True) ∧ True)) ∧ (True ∧ ((True ∧ ((∀ nx i, (k6k o) nx i = (k6k o) nx i) ∧ ∀ nx1 : HL TB.den k4k.hs → Prop, (True ∧ ((True ∧ True) ∧ ((True ∧ True) ∧ True))))) ∧ ((True ∧ ((∀ nx i, (k6m o) nx i = (k6m o) nx i) ∧ ∀ nx2 : HL TB.den k4l.hs → Prop, (True ∧ ((True ∧ True) ∧ ((True ∧ (True ∧ (True ∧ (True ∧ True)))) ∧ True))))) ∧ (True ∧ (True ∧ (True ∧ True))))))))) (by kernel_rfl) ⟨trivial, ⟨⟨trivial, fun _ => propext ⟨fun h => h.1, fun h => ⟨h⟩⟩, ⟨⟨trivial, trivial⟩, trivial⟩⟩, ⟨trivial, ⟨⟨trivial, ⟨fun _ _ => rfl, fun _ => ⟨trivial, ⟨⟨trivial, trivial⟩, ⟨⟨trivial, trivial⟩, trivial⟩⟩⟩⟩⟩, ⟨⟨trivial, ⟨fun _ _ => rfl, fun _ => ⟨trivial, ⟨⟨trivial, trivial⟩, ⟨⟨trivial, ⟨trivial, ⟨trivial, ⟨trivial, trivial⟩⟩⟩⟩, trivial⟩⟩⟩⟩⟩, ⟨trivial, ⟨trivial, ⟨trivial, trivial⟩⟩⟩⟩⟩⟩⟩⟩
set_option maxRecDepth 100000 in
theorem kr1 {x : kih} {o : k13} (h : k9z x o) : SoundH Try.prog ky.f ((ky.args idf x).map (er TB)) ((ky.obs idf x).map (erO TB)) (er TB (ky.val idf o)) ((ky.ops idf o).map (erO TB)) :=
  Con.soundH (c := ky) (C := k1b) TBok ⟨inf_ok, (all_cons khd (all_cons kze (all_cons k10b all_nil))), all_nil⟩ mix Try.func26 (show Try.f26.body = some k2o by kernel_rfl) (show Try.f26.ntmps = 82 by kernel_rfl) (show Try.f26.results.toList = k37 by kernel_rfl) rfl h (kr7 o)
set_option maxRecDepth 100000 in
theorem krz {p1 : TTranscript} {p2 : Int} {p3 : Int} {c0_0 : Bool} {c0_1 : Int} {c0_2 : Int} {w1 : List TQuestion} {w2k : List ByteArray} {w2v : List Int} {w3k : List ByteArray} {w3v : List (List Int)} {w4k : List ByteArray} {w4v : List Bool} {r0 : List Int} {r1 : TTranscript} {d0_0 : Bool} {d0_1 : Int} {d0_2 : Int} {e1 : List TQuestion} {e2k : List ByteArray} {e2v : List Int} {e3k : List ByteArray} {e3v : List (List Int)} {e4k : List ByteArray} {e4v : List Bool} (h :
((decide (p3 < 0) = true →
(w1 = w1) ∧ k4n (r0, r1.State, r1.Count, d0_0, d0_1, d0_2, e1, e2k, e2v, e3k, e3v, e4k, e4v, ()) (p2, p3, true, c0_0, c0_1, c0_2, p1.State, p1.Count, (0 : Int), (0 : Int), w1, w2k, w2v, w3k, w3v, w4k, w4v, ())) ∧
(decide (p3 < 0) = false →
(decide (p2 < p3) = true →
(w1 = w1) ∧ k4n (r0, r1.State, r1.Count, d0_0, d0_1, d0_2, e1, e2k, e2v, e3k, e3v, e4k, e4v, ()) (p2, p3, true, c0_0, c0_1, c0_2, p1.State, p1.Count, (0 : Int), (0 : Int), w1, w2k, w2v, w3k, w3v, w4k, w4v, ())) ∧
(decide (p2 < p3) = false →
(w1 = w1) ∧ k4n (r0, r1.State, r1.Count, d0_0, d0_1, d0_2, e1, e2k, e2v, e3k, e3v, e4k, e4v, ()) (p2, p3, (decide (1024 < p2) : Bool), c0_0, c0_1, c0_2, p1.State, p1.Count, (0 : Int), (0 : Int), w1, w2k, w2v, w3k, w3v, w4k, w4v, ()))))) : k9z (p1.State, p1.Count, p2, p3, c0_0, c0_1, c0_2, w1, w2k, w2v, w3k, w3v, w4k, w4v, ()) (r0, r1.State, r1.Count, d0_0, d0_1, d0_2, e1, e2k, e2v, e3k, e3v, e4k, e4v, ()) := WPh.of_eq (by kernel_rfl) h
set_option maxRecDepth 100000 in
theorem keo {r0 : List Int} {r1 : TTranscript} {d0_0 : Bool} {d0_1 : Int} {d0_2 : Int} {e1 : List TQuestion} {e2k : List ByteArray} {e2v : List Int} {e3k : List ByteArray} {e3v : List (List Int)} {e4k : List ByteArray} {e4v : List Bool} {s2 : Int} {s3 : Int} {s26 : Bool} {h0_0 : Bool} {h0_1 : Int} {h0_2 : Int} {h5_0 : Int} {h5_1 : Int} {h6_0 : Int} {h6_1 : Int} {g1 : List TQuestion} {g2k : List ByteArray} {g2v : List Int} {g3k : List ByteArray} {g3v : List (List Int)} {g4k : List ByteArray} {g4v : List Bool} (h :
((s26 = true →
(g1 = g1) ∧ ([] : List Int) = r0 ∧ h5_0 = r1.State ∧ h5_1 = r1.Count ∧ h0_0 = d0_0 ∧ h0_1 = d0_1 ∧ h0_2 = d0_2 ∧ g1 = e1 ∧ g2k = e2k ∧ g2v = e2v ∧ g3k = e3k ∧ g3v = e3v ∧ g4k = e4k ∧ g4v = e4v) ∧
(s26 = false →
 0 ≤ s2 ∧ s2 ≤ s2 ∧ (s2.toNat * 8 ≤ 140737488355328) ∧ (s2.toNat ≤ maxLen) ∧ (g1 = g1) ∧ (s2.toNat = (List.replicate s2.toNat (0 : Int)).length) ∧ Md.Loop (s2, s3, ((s2.toNat : Int) : Int), (0 : Int), h0_0, h0_1, h0_2, h5_0, h5_1, h6_0, h6_1, g1, g2k, g2v, g3k, g3v, g4k, g4v, (List.replicate s2.toNat (0 : Int) : List Int), ()) (k6k (r0, r1.State, r1.Count, d0_0, d0_1, d0_2, e1, e2k, e2v, e3k, e3v, e4k, e4v, ()))))) : k4n (r0, r1.State, r1.Count, d0_0, d0_1, d0_2, e1, e2k, e2v, e3k, e3v, e4k, e4v, ()) (s2, s3, s26, h0_0, h0_1, h0_2, h5_0, h5_1, h6_0, h6_1, g1, g2k, g2v, g3k, g3v, g4k, g4v, ()) := ⟨mpr_of (by kernel_rfl) h⟩
def kh6 (r0 : List Int) (r1 : TTranscript) (d0_0 : Bool) (d0_1 : Int) (d0_2 : Int) (e1 : List TQuestion) (e2k : List ByteArray) (e2v : List Int) (e3k : List ByteArray) (e3v : List (List Int)) (e4k : List ByteArray) (e4v : List Bool) (k1 : Int → List Int → Prop) (s2 : Int) (s3 : Int) (s31 : Int) (h0_0 : Bool) (h0_1 : Int) (h0_2 : Int) (h5_0 : Int) (h5_1 : Int) (h6_0 : Int) (h6_1 : Int) (g1 : List TQuestion) (g2k : List ByteArray) (g2v : List Int) (g3k : List ByteArray) (g3v : List (List Int)) (g4k : List ByteArray) (g4v : List Bool) (s32 : Int) (g7 : List Int) : Prop :=
(decide (s32 < s31) = true →
(0 ≤ s32 ∧ s32 < (g7.length : Int)) ∧ (0 ≤ s32 ∧ s32 < (g7.length : Int)) ∧ (g1 = g1) ∧ (g7.length = (g7.set s32.toNat s32).length) ∧ k1 (IntKind.i64.wrap (s32 + 1) : Int) (g7.set s32.toNat s32 : List Int)) ∧
(decide (s32 < s31) = false →
(g1 = g1) ∧ (g7.length = g7.length) ∧ Md.Loop (s2, s3, s3, (0 : Int), h0_0, h0_1, h0_2, h5_0, h5_1, h6_0, h6_1, g1, g2k, g2v, g3k, g3v, g4k, g4v, g7, ()) (k6m (r0, r1.State, r1.Count, d0_0, d0_1, d0_2, e1, e2k, e2v, e3k, e3v, e4k, e4v, ())))
set_option maxRecDepth 100000 in
theorem kr4 {r0 : List Int} {r1 : TTranscript} {d0_0 : Bool} {d0_1 : Int} {d0_2 : Int} {e1 : List TQuestion} {e2k : List ByteArray} {e2v : List Int} {e3k : List ByteArray} {e3v : List (List Int)} {e4k : List ByteArray} {e4v : List Bool} {s2 : Int} {s3 : Int} {s31 : Int} {h0_0 : Bool} {h0_1 : Int} {h0_2 : Int} {h5_0 : Int} {h5_1 : Int} {h6_0 : Int} {h6_1 : Int} {g1 : List TQuestion} {g2k : List ByteArray} {g2v : List Int} {g3k : List ByteArray} {g3v : List (List Int)} {g4k : List ByteArray} {g4v : List Bool} {s32 : Int} {g7 : List Int} (inv : Int → List Int → Prop) (μ : Int → List Int → Nat) (h0 : inv s32 g7) (hs : ∀ (s32 : Int) (g7 : List Int), inv s32 g7 → kh6 r0 r1 d0_0 d0_1 d0_2 e1 e2k e2v e3k e3v e4k e4v (fun s32q g7q => inv s32q g7q ∧ μ s32q g7q < μ s32 g7) s2 s3 s31 h0_0 h0_1 h0_2 h5_0 h5_1 h6_0 h6_1 g1 g2k g2v g3k g3v g4k g4v s32 g7) : Md.Loop (s2, s3, s31, s32, h0_0, h0_1, h0_2, h5_0, h5_1, h6_0, h6_1, g1, g2k, g2v, g3k, g3v, g4k, g4v, g7, ()) (k6k (r0, r1.State, r1.Count, d0_0, d0_1, d0_2, e1, e2k, e2v, e3k, e3v, e4k, e4v, ())) :=
  ⟨⟨fun s : Int × Int × Int × Int × Bool × Int × Int × Int × Int × Int × Int × (List TQuestion) × (List ByteArray) × (List Int) × (List ByteArray) × (List (List Int)) × (List ByteArray) × (List Bool) × (List Int) × Unit => (s.1 = s2 ∧ s.2.1 = s3 ∧ s.2.2.1 = s31 ∧ s.2.2.2.2.1 = h0_0 ∧ s.2.2.2.2.2.1 = h0_1 ∧ s.2.2.2.2.2.2.1 = h0_2 ∧ s.2.2.2.2.2.2.2.1 = h5_0 ∧ s.2.2.2.2.2.2.2.2.1 = h5_1 ∧ s.2.2.2.2.2.2.2.2.2.1 = h6_0 ∧ s.2.2.2.2.2.2.2.2.2.2.1 = h6_1 ∧ s.2.2.2.2.2.2.2.2.2.2.2.1 = g1 ∧ s.2.2.2.2.2.2.2.2.2.2.2.2.1 = g2k ∧ s.2.2.2.2.2.2.2.2.2.2.2.2.2.1 = g2v ∧ s.2.2.2.2.2.2.2.2.2.2.2.2.2.2.1 = g3k ∧ s.2.2.2.2.2.2.2.2.2.2.2.2.2.2.2.1 = g3v ∧ s.2.2.2.2.2.2.2.2.2.2.2.2.2.2.2.2.1 = g4k ∧ s.2.2.2.2.2.2.2.2.2.2.2.2.2.2.2.2.2.1 = g4v) ∧ inv s.2.2.2.1 s.2.2.2.2.2.2.2.2.2.2.2.2.2.2.2.2.2.2.1, fun s : Int × Int × Int × Int × Bool × Int × Int × Int × Int × Int × Int × (List TQuestion) × (List ByteArray) × (List Int) × (List ByteArray) × (List (List Int)) × (List ByteArray) × (List Bool) × (List Int) × Unit => μ s.2.2.2.1 s.2.2.2.2.2.2.2.2.2.2.2.2.2.2.2.2.2.2.1, ⟨⟨rfl, rfl, rfl, rfl, rfl, rfl, rfl, rfl, rfl, rfl, rfl, rfl, rfl, rfl, rfl, rfl, rfl⟩, h0⟩, fun (s2p, s3p, s31p, s32p, h0_0p, h0_1p, h0_2p, h5_0p, h5_1p, h6_0p, h6_1p, g1p, g2kp, g2vp, g3kp, g3vp, g4kp, g4vp, g7p, ()) ⟨⟨eq0, eq1, eq2, eq3, eq4, eq5, eq6, eq7, eq8, eq9, eq10, eq11, eq12, eq13, eq14, eq15, eq16⟩, hi⟩ => by
    have eq0 : s2p = s2 := eq0; subst s2p; have eq1 : s3p = s3 := eq1; subst s3p; have eq2 : s31p = s31 := eq2; subst s31p; have eq3 : h0_0p = h0_0 := eq3; subst h0_0p; have eq4 : h0_1p = h0_1 := eq4; subst h0_1p; have eq5 : h0_2p = h0_2 := eq5; subst h0_2p; have eq6 : h5_0p = h5_0 := eq6; subst h5_0p; have eq7 : h5_1p = h5_1 := eq7; subst h5_1p; have eq8 : h6_0p = h6_0 := eq8; subst h6_0p; have eq9 : h6_1p = h6_1 := eq9; subst h6_1p; have eq10 : g1p = g1 := eq10; subst g1p; have eq11 : g2kp = g2k := eq11; subst g2kp; have eq12 : g2vp = g2v := eq12; subst g2vp; have eq13 : g3kp = g3k := eq13; subst g3kp; have eq14 : g3vp = g3v := eq14; subst g3vp; have eq15 : g4kp = g4k := eq15; subst g4kp; have eq16 : g4vp = g4v := eq16; subst g4vp; exact mpr_of (by kernel_rfl) ((congrArg (fun k => kh6 r0 r1 d0_0 d0_1 d0_2 e1 e2k e2v e3k e3v e4k e4v k s2 s3 s31 h0_0 h0_1 h0_2 h5_0 h5_1 h6_0 h6_1 g1 g2k g2v g3k g3v g4k g4v s32p g7p) (lpk2 (⟨rfl, rfl, rfl, rfl, rfl, rfl, rfl, rfl, rfl, rfl, rfl, rfl, rfl, rfl, rfl, rfl, rfl⟩ : s2 = s2 ∧ s3 = s3 ∧ s31 = s31 ∧ h0_0 = h0_0 ∧ h0_1 = h0_1 ∧ h0_2 = h0_2 ∧ h5_0 = h5_0 ∧ h5_1 = h5_1 ∧ h6_0 = h6_0 ∧ h6_1 = h6_1 ∧ g1 = g1 ∧ g2k = g2k ∧ g2v = g2v ∧ g3k = g3k ∧ g3v = g3v ∧ g4k = g4k ∧ g4v = g4v) inv (fun s32q g7q => μ s32q g7q < μ s32p g7p))).mpr (hs s32p g7p hi))⟩⟩
def khi (r0 : List Int) (r1 : TTranscript) (d0_0 : Bool) (d0_1 : Int) (d0_2 : Int) (e1 : List TQuestion) (e2k : List ByteArray) (e2v : List Int) (e3k : List ByteArray) (e3v : List (List Int)) (e4k : List ByteArray) (e4v : List Bool) (k2 : Int → Bool → Int → Int → Int → Int → List TQuestion → List ByteArray → List Int → List ByteArray → List (List Int) → List ByteArray → List Bool → List Int → Prop) (s2 : Int) (s3 : Int) (s40 : Int) (h6_0 : Int) (h6_1 : Int) (s41 : Int) (h0_0 : Bool) (h0_1 : Int) (h0_2 : Int) (h5_0 : Int) (h5_1 : Int) (g1 : List TQuestion) (g2k : List ByteArray) (g2v : List Int) (g3k : List ByteArray) (g3v : List (List Int)) (g4k : List ByteArray) (g4v : List Bool) (g7 : List Int) : Prop :=
(decide (s41 < s40) = true →
(g1 = g1) ∧ ((U64 (TTranscript.mk h5_0 h5_1).State ∧ U64 (TTranscript.mk h5_0 h5_1).Count) ∧ OOk (OS.mk h0_0 h0_1 h0_2 g1 g2k g2v g3k g3v g4k g4v)) ∧ let r2 : Int := ((chO (OS.mk h0_0 h0_1 h0_2 g1 g2k g2v g3k g3v g4k g4v) (TTranscript.mk h5_0 h5_1) (18446744069414584321 : Int)).n)
 let r3 : Int := ((chO (OS.mk h0_0 h0_1 h0_2 g1 g2k g2v g3k g3v g4k g4v) (TTranscript.mk h5_0 h5_1) (18446744069414584321 : Int)).t).State
 let r4 : Int := ((chO (OS.mk h0_0 h0_1 h0_2 g1 g2k g2v g3k g3v g4k g4v) (TTranscript.mk h5_0 h5_1) (18446744069414584321 : Int)).t).Count
 let r5 : Bool := ((chO (OS.mk h0_0 h0_1 h0_2 g1 g2k g2v g3k g3v g4k g4v) (TTranscript.mk h5_0 h5_1) (18446744069414584321 : Int)).o.a)
 let r6 : Int := ((chO (OS.mk h0_0 h0_1 h0_2 g1 g2k g2v g3k g3v g4k g4v) (TTranscript.mk h5_0 h5_1) (18446744069414584321 : Int)).o.b)
 let r7 : Int := ((chO (OS.mk h0_0 h0_1 h0_2 g1 g2k g2v g3k g3v g4k g4v) (TTranscript.mk h5_0 h5_1) (18446744069414584321 : Int)).o.c)
 let r8 : List TQuestion := ((chO (OS.mk h0_0 h0_1 h0_2 g1 g2k g2v g3k g3v g4k g4v) (TTranscript.mk h5_0 h5_1) (18446744069414584321 : Int)).o.q)
 let r9 : List ByteArray := ((chO (OS.mk h0_0 h0_1 h0_2 g1 g2k g2v g3k g3v g4k g4v) (TTranscript.mk h5_0 h5_1) (18446744069414584321 : Int)).o.k)
 let r10 : List Int := ((chO (OS.mk h0_0 h0_1 h0_2 g1 g2k g2v g3k g3v g4k g4v) (TTranscript.mk h5_0 h5_1) (18446744069414584321 : Int)).o.v)
 let r11 : List ByteArray := ((chO (OS.mk h0_0 h0_1 h0_2 g1 g2k g2v g3k g3v g4k g4v) (TTranscript.mk h5_0 h5_1) (18446744069414584321 : Int)).o.s)
 let r12 : List (List Int) := ((chO (OS.mk h0_0 h0_1 h0_2 g1 g2k g2v g3k g3v g4k g4v) (TTranscript.mk h5_0 h5_1) (18446744069414584321 : Int)).o.t)
 let r13 : List ByteArray := ((chO (OS.mk h0_0 h0_1 h0_2 g1 g2k g2v g3k g3v g4k g4v) (TTranscript.mk h5_0 h5_1) (18446744069414584321 : Int)).o.x)
 let r14 : List Bool := ((chO (OS.mk h0_0 h0_1 h0_2 g1 g2k g2v g3k g3v g4k g4v) (TTranscript.mk h5_0 h5_1) (18446744069414584321 : Int)).o.y)
 let v15 : Int := IntKind.u64.wrap (IntKind.i64.wrap (s2 - s41))
(v15 ≠ 0) ∧ let v16 : Int := IntKind.i64.wrap (s41 + (IntKind.i64.wrap (Int.tmod r2 v15)))
(0 ≤ v16 ∧ v16 < (g7.length : Int)) ∧ (0 ≤ v16 ∧ v16 < (g7.length : Int)) ∧ (0 ≤ s41 ∧ s41 < (g7.length : Int)) ∧ (0 ≤ s41 ∧ s41 < (g7.length : Int)) ∧ (0 ≤ s41 ∧ s41 < (g7.length : Int)) ∧ (0 ≤ s41 ∧ s41 < (g7.length : Int)) ∧ (0 ≤ v16 ∧ v16 < (g7.length : Int)) ∧ (0 ≤ v16 ∧ v16 < ((g7.set s41.toNat (ix g7 v16)).length : Int)) ∧ (r8 = r8) ∧ (g7.length = ((g7.set s41.toNat (ix g7 v16)).set v16.toNat (ix g7 s41)).length) ∧ k2 (IntKind.i64.wrap (s41 + 1) : Int) r5 r6 r7 r3 r4 r8 r9 r10 r11 r12 r13 r14 ((g7.set s41.toNat (ix g7 v16)).set v16.toNat (ix g7 s41) : List Int)) ∧
(decide (s41 < s40) = false →
(0 ≤ s3) ∧ s3 ≤ (g7.length : Int) ∧ (0 ≤ (0 : Int) ∧ 0 ≤ (s3.toNat : Int) ∧ (0 : Int).toNat + (s3.toNat : Int).toNat ≤ g7.length ∧ g7.length ≤ 1000000) ∧ let r17 : List Int := ((g7.drop (0 : Int).toNat).take (s3.toNat : Int).toNat)
(r17.length = r17.length) ∧ (r17.length ≤ 12) ∧ (r17.length = (srt r17).length) ∧ (g1 = g1) ∧ (srt r17) = r0 ∧ h5_0 = r1.State ∧ h5_1 = r1.Count ∧ h0_0 = d0_0 ∧ h0_1 = d0_1 ∧ h0_2 = d0_2 ∧ g1 = e1 ∧ g2k = e2k ∧ g2v = e2v ∧ g3k = e3k ∧ g3v = e3v ∧ g4k = e4k ∧ g4v = e4v)
set_option maxRecDepth 100000 in
theorem kr2 {r0 : List Int} {r1 : TTranscript} {d0_0 : Bool} {d0_1 : Int} {d0_2 : Int} {e1 : List TQuestion} {e2k : List ByteArray} {e2v : List Int} {e3k : List ByteArray} {e3v : List (List Int)} {e4k : List ByteArray} {e4v : List Bool} {s2 : Int} {s3 : Int} {s40 : Int} {h6_0 : Int} {h6_1 : Int} {s41 : Int} {h0_0 : Bool} {h0_1 : Int} {h0_2 : Int} {h5_0 : Int} {h5_1 : Int} {g1 : List TQuestion} {g2k : List ByteArray} {g2v : List Int} {g3k : List ByteArray} {g3v : List (List Int)} {g4k : List ByteArray} {g4v : List Bool} {g7 : List Int} (inv : Int → Bool → Int → Int → Int → Int → List TQuestion → List ByteArray → List Int → List ByteArray → List (List Int) → List ByteArray → List Bool → List Int → Prop) (μ : Int → Bool → Int → Int → Int → Int → List TQuestion → List ByteArray → List Int → List ByteArray → List (List Int) → List ByteArray → List Bool → List Int → Nat) (h0 : inv s41 h0_0 h0_1 h0_2 h5_0 h5_1 g1 g2k g2v g3k g3v g4k g4v g7) (hs : ∀ (s41 : Int) (h0_0 : Bool) (h0_1 : Int) (h0_2 : Int) (h5_0 : Int) (h5_1 : Int) (g1 : List TQuestion) (g2k : List ByteArray) (g2v : List Int) (g3k : List ByteArray) (g3v : List (List Int)) (g4k : List ByteArray) (g4v : List Bool) (g7 : List Int), inv s41 h0_0 h0_1 h0_2 h5_0 h5_1 g1 g2k g2v g3k g3v g4k g4v g7 → khi r0 r1 d0_0 d0_1 d0_2 e1 e2k e2v e3k e3v e4k e4v (fun s41q h0_0q h0_1q h0_2q h5_0q h5_1q g1q g2kq g2vq g3kq g3vq g4kq g4vq g7q => inv s41q h0_0q h0_1q h0_2q h5_0q h5_1q g1q g2kq g2vq g3kq g3vq g4kq g4vq g7q ∧ μ s41q h0_0q h0_1q h0_2q h5_0q h5_1q g1q g2kq g2vq g3kq g3vq g4kq g4vq g7q < μ s41 h0_0 h0_1 h0_2 h5_0 h5_1 g1 g2k g2v g3k g3v g4k g4v g7) s2 s3 s40 h6_0 h6_1 s41 h0_0 h0_1 h0_2 h5_0 h5_1 g1 g2k g2v g3k g3v g4k g4v g7) : Md.Loop (s2, s3, s40, s41, h0_0, h0_1, h0_2, h5_0, h5_1, h6_0, h6_1, g1, g2k, g2v, g3k, g3v, g4k, g4v, g7, ()) (k6m (r0, r1.State, r1.Count, d0_0, d0_1, d0_2, e1, e2k, e2v, e3k, e3v, e4k, e4v, ())) :=
  ⟨⟨fun s : Int × Int × Int × Int × Bool × Int × Int × Int × Int × Int × Int × (List TQuestion) × (List ByteArray) × (List Int) × (List ByteArray) × (List (List Int)) × (List ByteArray) × (List Bool) × (List Int) × Unit => (s.1 = s2 ∧ s.2.1 = s3 ∧ s.2.2.1 = s40 ∧ s.2.2.2.2.2.2.2.2.2.1 = h6_0 ∧ s.2.2.2.2.2.2.2.2.2.2.1 = h6_1) ∧ inv s.2.2.2.1 s.2.2.2.2.1 s.2.2.2.2.2.1 s.2.2.2.2.2.2.1 s.2.2.2.2.2.2.2.1 s.2.2.2.2.2.2.2.2.1 s.2.2.2.2.2.2.2.2.2.2.2.1 s.2.2.2.2.2.2.2.2.2.2.2.2.1 s.2.2.2.2.2.2.2.2.2.2.2.2.2.1 s.2.2.2.2.2.2.2.2.2.2.2.2.2.2.1 s.2.2.2.2.2.2.2.2.2.2.2.2.2.2.2.1 s.2.2.2.2.2.2.2.2.2.2.2.2.2.2.2.2.1 s.2.2.2.2.2.2.2.2.2.2.2.2.2.2.2.2.2.1 s.2.2.2.2.2.2.2.2.2.2.2.2.2.2.2.2.2.2.1, fun s : Int × Int × Int × Int × Bool × Int × Int × Int × Int × Int × Int × (List TQuestion) × (List ByteArray) × (List Int) × (List ByteArray) × (List (List Int)) × (List ByteArray) × (List Bool) × (List Int) × Unit => μ s.2.2.2.1 s.2.2.2.2.1 s.2.2.2.2.2.1 s.2.2.2.2.2.2.1 s.2.2.2.2.2.2.2.1 s.2.2.2.2.2.2.2.2.1 s.2.2.2.2.2.2.2.2.2.2.2.1 s.2.2.2.2.2.2.2.2.2.2.2.2.1 s.2.2.2.2.2.2.2.2.2.2.2.2.2.1 s.2.2.2.2.2.2.2.2.2.2.2.2.2.2.1 s.2.2.2.2.2.2.2.2.2.2.2.2.2.2.2.1 s.2.2.2.2.2.2.2.2.2.2.2.2.2.2.2.2.1 s.2.2.2.2.2.2.2.2.2.2.2.2.2.2.2.2.2.1 s.2.2.2.2.2.2.2.2.2.2.2.2.2.2.2.2.2.2.1, ⟨⟨rfl, rfl, rfl, rfl, rfl⟩, h0⟩, fun (s2p, s3p, s40p, s41p, h0_0p, h0_1p, h0_2p, h5_0p, h5_1p, h6_0p, h6_1p, g1p, g2kp, g2vp, g3kp, g3vp, g4kp, g4vp, g7p, ()) ⟨⟨eq0, eq1, eq2, eq3, eq4⟩, hi⟩ => by
    have eq0 : s2p = s2 := eq0; subst s2p; have eq1 : s3p = s3 := eq1; subst s3p; have eq2 : s40p = s40 := eq2; subst s40p; have eq3 : h6_0p = h6_0 := eq3; subst h6_0p; have eq4 : h6_1p = h6_1 := eq4; subst h6_1p; exact mpr_of (by kernel_rfl) ((congrArg (fun k => khi r0 r1 d0_0 d0_1 d0_2 e1 e2k e2v e3k e3v e4k e4v k s2 s3 s40 h6_0 h6_1 s41p h0_0p h0_1p h0_2p h5_0p h5_1p g1p g2kp g2vp g3kp g3vp g4kp g4vp g7p) (lpk14 (⟨rfl, rfl, rfl, rfl, rfl⟩ : s2 = s2 ∧ s3 = s3 ∧ s40 = s40 ∧ h6_0 = h6_0 ∧ h6_1 = h6_1) inv (fun s41q h0_0q h0_1q h0_2q h5_0q h5_1q g1q g2kq g2vq g3kq g3vq g4kq g4vq g7q => μ s41q h0_0q h0_1q h0_2q h5_0q h5_1q g1q g2kq g2vq g3kq g3vq g4kq g4vq g7q < μ s41p h0_0p h0_1p h0_2p h5_0p h5_1p g1p g2kp g2vp g3kp g3vp g4kp g4vp g7p))).mpr (hs s41p h0_0p h0_1p h0_2p h5_0p h5_1p g1p g2kp g2vp g3kp g3vp g4kp g4vp g7p hi))⟩⟩
theorem bd26 : Callable Try.prog 26 := ⟨by rw [Try.func26]; kernel_rfl, by rw [Try.func26]; show some _ ≠ some _; decide⟩
theorem kqp (p1 : TTranscript) (p2 : Int) (p3 : Int) (c0_0 : Bool) (c0_1 : Int) (c0_2 : Int) (w1 : List TQuestion) (w2k : List ByteArray) (w2v : List Int) (w3k : List ByteArray) (w3v : List (List Int)) (w4k : List ByteArray) (w4v : List Bool) (h : (U64 p1.State ∧ U64 p1.Count) ∧ (OOk (OS.mk c0_0 c0_1 c0_2 w1 w2k w2v w3k w3v w4k w4v) ∧ w1.length ≤ 900000) ∧ p3 ≤ 12) : k9z (p1.State, p1.Count, p2, p3, c0_0, c0_1, c0_2, w1, w2k, w2v, w3k, w3v, w4k, w4v, ()) ((((posO (OS.mk c0_0 c0_1 c0_2 w1 w2k w2v w3k w3v w4k w4v) p1 p2 p3).g) : List Int), (((posO (OS.mk c0_0 c0_1 c0_2 w1 w2k w2v w3k w3v w4k w4v) p1 p2 p3).t).State : Int), (((posO (OS.mk c0_0 c0_1 c0_2 w1 w2k w2v w3k w3v w4k w4v) p1 p2 p3).t).Count : Int), (((posO (OS.mk c0_0 c0_1 c0_2 w1 w2k w2v w3k w3v w4k w4v) p1 p2 p3).o.a) : Bool), (((posO (OS.mk c0_0 c0_1 c0_2 w1 w2k w2v w3k w3v w4k w4v) p1 p2 p3).o.b) : Int), (((posO (OS.mk c0_0 c0_1 c0_2 w1 w2k w2v w3k w3v w4k w4v) p1 p2 p3).o.c) : Int), (((posO (OS.mk c0_0 c0_1 c0_2 w1 w2k w2v w3k w3v w4k w4v) p1 p2 p3).o.q) : List TQuestion), (((posO (OS.mk c0_0 c0_1 c0_2 w1 w2k w2v w3k w3v w4k w4v) p1 p2 p3).o.k) : List ByteArray), (((posO (OS.mk c0_0 c0_1 c0_2 w1 w2k w2v w3k w3v w4k w4v) p1 p2 p3).o.v) : List Int), (((posO (OS.mk c0_0 c0_1 c0_2 w1 w2k w2v w3k w3v w4k w4v) p1 p2 p3).o.s) : List ByteArray), (((posO (OS.mk c0_0 c0_1 c0_2 w1 w2k w2v w3k w3v w4k w4v) p1 p2 p3).o.t) : List (List Int)), (((posO (OS.mk c0_0 c0_1 c0_2 w1 w2k w2v w3k w3v w4k w4v) p1 p2 p3).o.x) : List ByteArray), (((posO (OS.mk c0_0 c0_1 c0_2 w1 w2k w2v w3k w3v w4k w4v) p1 p2 p3).o.y) : List Bool), ()) := by
  obtain ⟨⟨h1, h2⟩, ⟨h3, h4⟩, h5⟩ := h
  generalize hA : posO (OS.mk c0_0 c0_1 c0_2 w1 w2k w2v w3k w3v w4k w4v) p1 p2 p3 = A
  have bad : (p3 < 0 ∨ p2 < p3 ∨ 1024 < p2) → A = ⟨OS.mk c0_0 c0_1 c0_2 w1 w2k w2v w3k w3v w4k w4v, p1, []⟩ := fun hb => by rw [← hA]; exact if_pos hb
  have jb : A = ⟨OS.mk c0_0 c0_1 c0_2 w1 w2k w2v w3k w3v w4k w4v, p1, []⟩ → k4n (A.g, A.t.State, A.t.Count, A.o.a, A.o.b, A.o.c, A.o.q, A.o.k, A.o.v, A.o.s, A.o.t, A.o.x, A.o.y, ()) (p2, p3, true, c0_0, c0_1, c0_2, p1.State, p1.Count, (0 : Int), (0 : Int), w1, w2k, w2v, w3k, w3v, w4k, w4v, ()) := by
    rintro rfl
    exact keo (r1 := p1) ⟨fun _ => ⟨rfl, rfl, rfl, rfl, rfl, rfl, rfl, rfl, rfl, rfl, rfl, rfl, rfl, rfl⟩, fun h => by cases h⟩
  refine krz (r1 := A.t) ⟨fun e => ⟨rfl, jb (bad (.inl (of_decide_eq_true e)))⟩, fun e => ⟨fun e2 => ⟨rfl, jb (bad (.inr (.inl (of_decide_eq_true e2))))⟩, fun e2 => ⟨rfl, ?_⟩⟩⟩
  have e := of_decide_eq_false e
  have e2 := of_decide_eq_false e2
  by_cases e3 : 1024 < p2
  · rw [decide_eq_true e3]
    exact jb (bad (.inr (.inr e3)))
  rw [decide_eq_false e3]
  have hg : A = ⟨(posS p2 p3.toNat 0 ⟨OS.mk c0_0 c0_1 c0_2 w1 w2k w2v w3k w3v w4k w4v, p1, rng p2.toNat⟩).o, (posS p2 p3.toNat 0 ⟨OS.mk c0_0 c0_1 c0_2 w1 w2k w2v w3k w3v w4k w4v, p1, rng p2.toNat⟩).t, srt ((posS p2 p3.toNat 0 ⟨OS.mk c0_0 c0_1 c0_2 w1 w2k w2v w3k w3v w4k w4v, p1, rng p2.toNat⟩).g.take p3.toNat)⟩ := by
    rw [← hA]; exact if_neg (by omega)
  clear hA bad jb
  generalize hS : posS p2 p3.toNat 0 ⟨OS.mk c0_0 c0_1 c0_2 w1 w2k w2v w3k w3v w4k w4v, p1, rng p2.toNat⟩ = S at hg
  subst hg
  refine keo (r1 := S.t) ⟨(fun h => by cases h), fun _ => ⟨by omega, by omega, by omega, by unfold maxLen; omega, rfl, by simp, ?_⟩⟩
  refine kr4 (r1 := S.t) (SetI (fun (j : Nat) => (j : Int)) p2.toNat) (fun i _ => (p2.toNat - i).toNat) (SetI.start (by simp)) ?_
  intro i g hi
  have i0 := hi.1
  have il := hi.2.2.1
  refine ⟨fun hh => ?_, fun hh => ?_⟩
  · have hh := of_decide_eq_true hh
    exact ⟨⟨i0, by omega⟩, ⟨i0, by omega⟩, rfl, by rw [List.length_set], hi.next hh (by omega) (by omega)⟩
  have hh := of_decide_eq_false hh
  have hgr : g = rng p2.toNat := hi.done hh
  subst hgr
  refine ⟨rfl, rfl, ?_⟩
  refine kr2 (r1 := S.t) (fun i a b c ts tc q k v s t x y g => (0 ≤ i ∧ i ≤ p3) ∧ U64 ts ∧ U64 tc ∧ (OOk (OS.mk a b c q k v s t x y) ∧ q.length ≤ 900000 + i.toNat) ∧ (g.length : Int) = p2 ∧ posS p2 (p3 - i).toNat i ⟨OS.mk a b c q k v s t x y, ⟨ts, tc⟩, g⟩ = S)
    (fun i _ _ _ _ _ _ _ _ _ _ _ _ _ => (p3 - i).toNat) ⟨⟨by omega, by omega⟩, h1, h2, ⟨h3, by omega⟩, by rw [k158]; omega, by rw [Int.sub_zero]; exact hS⟩ ?_
  rintro i a b c ts tc q k v s t x y g ⟨⟨g0, g1⟩, g2, g3, ⟨g4, g5⟩, g6, g7⟩
  refine ⟨fun hh => ?_, fun hh => ?_⟩
  · have hh := of_decide_eq_true hh
    refine ⟨rfl, ⟨⟨g2, g3⟩, g4⟩, ?_⟩
    dsimp only
    obtain ⟨q1, q2, q3, q4⟩ := g4.ch ⟨ts, tc⟩ 18446744069414584321 (show q.length ≤ 999999 by omega)
    obtain ⟨q5, q6, q7⟩ := q4 rfl
    rw [show (p3 - i).toNat = (p3 - (i + 1)).toNat + 1 by omega] at g7
    have e5 : IntKind.u64.wrap (IntKind.i64.wrap (p2 - i)) = p2 - i := by rw [wi _ (by omega) (by omega), wu _ (by omega) (by omega)]
    rw [e5]
    generalize hC : chO (OS.mk a b c q k v s t x y) ⟨ts, tc⟩ 18446744069414584321 = C at *
    have hj : 0 ≤ C.n % (p2 - i) ∧ C.n % (p2 - i) < p2 - i := ⟨Int.emod_nonneg _ (by omega), Int.emod_lt_of_pos _ (by omega)⟩
    have e6 : IntKind.i64.wrap (i + IntKind.i64.wrap (Int.tmod C.n (p2 - i))) = i + C.n % (p2 - i) := by
      rw [tmod_nn _ _ q5, wi (C.n % (p2 - i)) (by omega) (by omega), wi _ (by omega) (by omega)]
    rw [e6, wi (i + 1) (by omega) (by omega)]
    have e7 : posN p2 i ⟨OS.mk a b c q k v s t x y, ⟨ts, tc⟩, g⟩ = ⟨C.o, C.t, swp g i (i + C.n % (p2 - i))⟩ := by unfold posN; simp only [hC]
    have g7 : posS p2 (p3 - (i + 1)).toNat (i + 1) (posN p2 i ⟨OS.mk a b c q k v s t x y, ⟨ts, tc⟩, g⟩) = S := g7
    rw [e7] at g7
    refine ⟨by omega, ⟨by omega, by omega⟩, ⟨by omega, by omega⟩, ⟨by omega, by omega⟩, ⟨by omega, by omega⟩, ⟨by omega, by omega⟩, ⟨by omega, by omega⟩, ⟨by omega, by omega⟩, ⟨by omega, by rw [List.length_set]; omega⟩, rfl, by rw [List.length_set, List.length_set], ⟨⟨by omega, by omega⟩, ?_, q7, ⟨q1, ?_⟩, ?_, g7⟩, by omega⟩
    · rw [q3]; exact g2
    · have q2 : C.o.q.length ≤ q.length + 1 := q2
      omega
    · rw [List.length_set, List.length_set]; exact g6
  · have hh := of_decide_eq_false hh
    rw [show (p3 - i).toNat = 0 by omega] at g7
    have g7 : (⟨OS.mk a b c q k v s t x y, ⟨ts, tc⟩, g⟩ : PS) = S := g7
    subst g7
    refine ⟨by omega, by omega, ⟨by omega, by omega, by simp; omega, by omega⟩, ?_⟩
    dsimp only
    refine ⟨rfl, ?_, ?_⟩
    · rw [List.length_take]; simp; omega
    · refine ⟨by rw [k1eo], rfl, by rw [Int.toNat_natCast, show (0 : Int).toNat = 0 from rfl, List.drop_zero], rfl, rfl, rfl, rfl, rfl, rfl, rfl, rfl, rfl, rfl, rfl, rfl⟩
noncomputable def kgx : Con TB.den := ky.fnR (fun x => (fun (p1 : TTranscript) (p2 : Int) (p3 : Int) (c0_0 : Bool) (c0_1 : Int) (c0_2 : Int) (w1 : List TQuestion) (w2k : List ByteArray) (w2v : List Int) (w3k : List ByteArray) (w3v : List (List Int)) (w4k : List ByteArray) (w4v : List Bool) => (U64 p1.State ∧ U64 p1.Count) ∧ (OOk (OS.mk c0_0 c0_1 c0_2 w1 w2k w2v w3k w3v w4k w4v) ∧ w1.length ≤ 900000) ∧ p3 ≤ 12) (TTranscript.mk x.1 x.2.1) x.2.2.1 x.2.2.2.1 x.2.2.2.2.1 x.2.2.2.2.2.1 x.2.2.2.2.2.2.1 x.2.2.2.2.2.2.2.1 x.2.2.2.2.2.2.2.2.1 x.2.2.2.2.2.2.2.2.2.1 x.2.2.2.2.2.2.2.2.2.2.1 x.2.2.2.2.2.2.2.2.2.2.2.1 x.2.2.2.2.2.2.2.2.2.2.2.2.1 x.2.2.2.2.2.2.2.2.2.2.2.2.2.1) fun x => ((fun (p1 : TTranscript) (p2 : Int) (p3 : Int) (c0_0 : Bool) (c0_1 : Int) (c0_2 : Int) (w1 : List TQuestion) (w2k : List ByteArray) (w2v : List Int) (w3k : List ByteArray) (w3v : List (List Int)) (w4k : List ByteArray) (w4v : List Bool) => (((posO (OS.mk c0_0 c0_1 c0_2 w1 w2k w2v w3k w3v w4k w4v) p1 p2 p3).g) : List Int)) (TTranscript.mk x.1 x.2.1) x.2.2.1 x.2.2.2.1 x.2.2.2.2.1 x.2.2.2.2.2.1 x.2.2.2.2.2.2.1 x.2.2.2.2.2.2.2.1 x.2.2.2.2.2.2.2.2.1 x.2.2.2.2.2.2.2.2.2.1 x.2.2.2.2.2.2.2.2.2.2.1 x.2.2.2.2.2.2.2.2.2.2.2.1 x.2.2.2.2.2.2.2.2.2.2.2.2.1 x.2.2.2.2.2.2.2.2.2.2.2.2.2.1, (fun (p1 : TTranscript) (p2 : Int) (p3 : Int) (c0_0 : Bool) (c0_1 : Int) (c0_2 : Int) (w1 : List TQuestion) (w2k : List ByteArray) (w2v : List Int) (w3k : List ByteArray) (w3v : List (List Int)) (w4k : List ByteArray) (w4v : List Bool) => (((posO (OS.mk c0_0 c0_1 c0_2 w1 w2k w2v w3k w3v w4k w4v) p1 p2 p3).t).State : Int)) (TTranscript.mk x.1 x.2.1) x.2.2.1 x.2.2.2.1 x.2.2.2.2.1 x.2.2.2.2.2.1 x.2.2.2.2.2.2.1 x.2.2.2.2.2.2.2.1 x.2.2.2.2.2.2.2.2.1 x.2.2.2.2.2.2.2.2.2.1 x.2.2.2.2.2.2.2.2.2.2.1 x.2.2.2.2.2.2.2.2.2.2.2.1 x.2.2.2.2.2.2.2.2.2.2.2.2.1 x.2.2.2.2.2.2.2.2.2.2.2.2.2.1, (fun (p1 : TTranscript) (p2 : Int) (p3 : Int) (c0_0 : Bool) (c0_1 : Int) (c0_2 : Int) (w1 : List TQuestion) (w2k : List ByteArray) (w2v : List Int) (w3k : List ByteArray) (w3v : List (List Int)) (w4k : List ByteArray) (w4v : List Bool) => (((posO (OS.mk c0_0 c0_1 c0_2 w1 w2k w2v w3k w3v w4k w4v) p1 p2 p3).t).Count : Int)) (TTranscript.mk x.1 x.2.1) x.2.2.1 x.2.2.2.1 x.2.2.2.2.1 x.2.2.2.2.2.1 x.2.2.2.2.2.2.1 x.2.2.2.2.2.2.2.1 x.2.2.2.2.2.2.2.2.1 x.2.2.2.2.2.2.2.2.2.1 x.2.2.2.2.2.2.2.2.2.2.1 x.2.2.2.2.2.2.2.2.2.2.2.1 x.2.2.2.2.2.2.2.2.2.2.2.2.1 x.2.2.2.2.2.2.2.2.2.2.2.2.2.1, (fun (p1 : TTranscript) (p2 : Int) (p3 : Int) (c0_0 : Bool) (c0_1 : Int) (c0_2 : Int) (w1 : List TQuestion) (w2k : List ByteArray) (w2v : List Int) (w3k : List ByteArray) (w3v : List (List Int)) (w4k : List ByteArray) (w4v : List Bool) => (((posO (OS.mk c0_0 c0_1 c0_2 w1 w2k w2v w3k w3v w4k w4v) p1 p2 p3).o.a) : Bool)) (TTranscript.mk x.1 x.2.1) x.2.2.1 x.2.2.2.1 x.2.2.2.2.1 x.2.2.2.2.2.1 x.2.2.2.2.2.2.1 x.2.2.2.2.2.2.2.1 x.2.2.2.2.2.2.2.2.1 x.2.2.2.2.2.2.2.2.2.1 x.2.2.2.2.2.2.2.2.2.2.1 x.2.2.2.2.2.2.2.2.2.2.2.1 x.2.2.2.2.2.2.2.2.2.2.2.2.1 x.2.2.2.2.2.2.2.2.2.2.2.2.2.1, (fun (p1 : TTranscript) (p2 : Int) (p3 : Int) (c0_0 : Bool) (c0_1 : Int) (c0_2 : Int) (w1 : List TQuestion) (w2k : List ByteArray) (w2v : List Int) (w3k : List ByteArray) (w3v : List (List Int)) (w4k : List ByteArray) (w4v : List Bool) => (((posO (OS.mk c0_0 c0_1 c0_2 w1 w2k w2v w3k w3v w4k w4v) p1 p2 p3).o.b) : Int)) (TTranscript.mk x.1 x.2.1) x.2.2.1 x.2.2.2.1 x.2.2.2.2.1 x.2.2.2.2.2.1 x.2.2.2.2.2.2.1 x.2.2.2.2.2.2.2.1 x.2.2.2.2.2.2.2.2.1 x.2.2.2.2.2.2.2.2.2.1 x.2.2.2.2.2.2.2.2.2.2.1 x.2.2.2.2.2.2.2.2.2.2.2.1 x.2.2.2.2.2.2.2.2.2.2.2.2.1 x.2.2.2.2.2.2.2.2.2.2.2.2.2.1, (fun (p1 : TTranscript) (p2 : Int) (p3 : Int) (c0_0 : Bool) (c0_1 : Int) (c0_2 : Int) (w1 : List TQuestion) (w2k : List ByteArray) (w2v : List Int) (w3k : List ByteArray) (w3v : List (List Int)) (w4k : List ByteArray) (w4v : List Bool) => (((posO (OS.mk c0_0 c0_1 c0_2 w1 w2k w2v w3k w3v w4k w4v) p1 p2 p3).o.c) : Int)) (TTranscript.mk x.1 x.2.1) x.2.2.1 x.2.2.2.1 x.2.2.2.2.1 x.2.2.2.2.2.1 x.2.2.2.2.2.2.1 x.2.2.2.2.2.2.2.1 x.2.2.2.2.2.2.2.2.1 x.2.2.2.2.2.2.2.2.2.1 x.2.2.2.2.2.2.2.2.2.2.1 x.2.2.2.2.2.2.2.2.2.2.2.1 x.2.2.2.2.2.2.2.2.2.2.2.2.1 x.2.2.2.2.2.2.2.2.2.2.2.2.2.1, (fun (p1 : TTranscript) (p2 : Int) (p3 : Int) (c0_0 : Bool) (c0_1 : Int) (c0_2 : Int) (w1 : List TQuestion) (w2k : List ByteArray) (w2v : List Int) (w3k : List ByteArray) (w3v : List (List Int)) (w4k : List ByteArray) (w4v : List Bool) => (((posO (OS.mk c0_0 c0_1 c0_2 w1 w2k w2v w3k w3v w4k w4v) p1 p2 p3).o.q) : List TQuestion)) (TTranscript.mk x.1 x.2.1) x.2.2.1 x.2.2.2.1 x.2.2.2.2.1 x.2.2.2.2.2.1 x.2.2.2.2.2.2.1 x.2.2.2.2.2.2.2.1 x.2.2.2.2.2.2.2.2.1 x.2.2.2.2.2.2.2.2.2.1 x.2.2.2.2.2.2.2.2.2.2.1 x.2.2.2.2.2.2.2.2.2.2.2.1 x.2.2.2.2.2.2.2.2.2.2.2.2.1 x.2.2.2.2.2.2.2.2.2.2.2.2.2.1, (fun (p1 : TTranscript) (p2 : Int) (p3 : Int) (c0_0 : Bool) (c0_1 : Int) (c0_2 : Int) (w1 : List TQuestion) (w2k : List ByteArray) (w2v : List Int) (w3k : List ByteArray) (w3v : List (List Int)) (w4k : List ByteArray) (w4v : List Bool) => (((posO (OS.mk c0_0 c0_1 c0_2 w1 w2k w2v w3k w3v w4k w4v) p1 p2 p3).o.k) : List ByteArray)) (TTranscript.mk x.1 x.2.1) x.2.2.1 x.2.2.2.1 x.2.2.2.2.1 x.2.2.2.2.2.1 x.2.2.2.2.2.2.1 x.2.2.2.2.2.2.2.1 x.2.2.2.2.2.2.2.2.1 x.2.2.2.2.2.2.2.2.2.1 x.2.2.2.2.2.2.2.2.2.2.1 x.2.2.2.2.2.2.2.2.2.2.2.1 x.2.2.2.2.2.2.2.2.2.2.2.2.1 x.2.2.2.2.2.2.2.2.2.2.2.2.2.1, (fun (p1 : TTranscript) (p2 : Int) (p3 : Int) (c0_0 : Bool) (c0_1 : Int) (c0_2 : Int) (w1 : List TQuestion) (w2k : List ByteArray) (w2v : List Int) (w3k : List ByteArray) (w3v : List (List Int)) (w4k : List ByteArray) (w4v : List Bool) => (((posO (OS.mk c0_0 c0_1 c0_2 w1 w2k w2v w3k w3v w4k w4v) p1 p2 p3).o.v) : List Int)) (TTranscript.mk x.1 x.2.1) x.2.2.1 x.2.2.2.1 x.2.2.2.2.1 x.2.2.2.2.2.1 x.2.2.2.2.2.2.1 x.2.2.2.2.2.2.2.1 x.2.2.2.2.2.2.2.2.1 x.2.2.2.2.2.2.2.2.2.1 x.2.2.2.2.2.2.2.2.2.2.1 x.2.2.2.2.2.2.2.2.2.2.2.1 x.2.2.2.2.2.2.2.2.2.2.2.2.1 x.2.2.2.2.2.2.2.2.2.2.2.2.2.1, (fun (p1 : TTranscript) (p2 : Int) (p3 : Int) (c0_0 : Bool) (c0_1 : Int) (c0_2 : Int) (w1 : List TQuestion) (w2k : List ByteArray) (w2v : List Int) (w3k : List ByteArray) (w3v : List (List Int)) (w4k : List ByteArray) (w4v : List Bool) => (((posO (OS.mk c0_0 c0_1 c0_2 w1 w2k w2v w3k w3v w4k w4v) p1 p2 p3).o.s) : List ByteArray)) (TTranscript.mk x.1 x.2.1) x.2.2.1 x.2.2.2.1 x.2.2.2.2.1 x.2.2.2.2.2.1 x.2.2.2.2.2.2.1 x.2.2.2.2.2.2.2.1 x.2.2.2.2.2.2.2.2.1 x.2.2.2.2.2.2.2.2.2.1 x.2.2.2.2.2.2.2.2.2.2.1 x.2.2.2.2.2.2.2.2.2.2.2.1 x.2.2.2.2.2.2.2.2.2.2.2.2.1 x.2.2.2.2.2.2.2.2.2.2.2.2.2.1, (fun (p1 : TTranscript) (p2 : Int) (p3 : Int) (c0_0 : Bool) (c0_1 : Int) (c0_2 : Int) (w1 : List TQuestion) (w2k : List ByteArray) (w2v : List Int) (w3k : List ByteArray) (w3v : List (List Int)) (w4k : List ByteArray) (w4v : List Bool) => (((posO (OS.mk c0_0 c0_1 c0_2 w1 w2k w2v w3k w3v w4k w4v) p1 p2 p3).o.t) : List (List Int))) (TTranscript.mk x.1 x.2.1) x.2.2.1 x.2.2.2.1 x.2.2.2.2.1 x.2.2.2.2.2.1 x.2.2.2.2.2.2.1 x.2.2.2.2.2.2.2.1 x.2.2.2.2.2.2.2.2.1 x.2.2.2.2.2.2.2.2.2.1 x.2.2.2.2.2.2.2.2.2.2.1 x.2.2.2.2.2.2.2.2.2.2.2.1 x.2.2.2.2.2.2.2.2.2.2.2.2.1 x.2.2.2.2.2.2.2.2.2.2.2.2.2.1, (fun (p1 : TTranscript) (p2 : Int) (p3 : Int) (c0_0 : Bool) (c0_1 : Int) (c0_2 : Int) (w1 : List TQuestion) (w2k : List ByteArray) (w2v : List Int) (w3k : List ByteArray) (w3v : List (List Int)) (w4k : List ByteArray) (w4v : List Bool) => (((posO (OS.mk c0_0 c0_1 c0_2 w1 w2k w2v w3k w3v w4k w4v) p1 p2 p3).o.x) : List ByteArray)) (TTranscript.mk x.1 x.2.1) x.2.2.1 x.2.2.2.1 x.2.2.2.2.1 x.2.2.2.2.2.1 x.2.2.2.2.2.2.1 x.2.2.2.2.2.2.2.1 x.2.2.2.2.2.2.2.2.1 x.2.2.2.2.2.2.2.2.2.1 x.2.2.2.2.2.2.2.2.2.2.1 x.2.2.2.2.2.2.2.2.2.2.2.1 x.2.2.2.2.2.2.2.2.2.2.2.2.1 x.2.2.2.2.2.2.2.2.2.2.2.2.2.1, (fun (p1 : TTranscript) (p2 : Int) (p3 : Int) (c0_0 : Bool) (c0_1 : Int) (c0_2 : Int) (w1 : List TQuestion) (w2k : List ByteArray) (w2v : List Int) (w3k : List ByteArray) (w3v : List (List Int)) (w4k : List ByteArray) (w4v : List Bool) => (((posO (OS.mk c0_0 c0_1 c0_2 w1 w2k w2v w3k w3v w4k w4v) p1 p2 p3).o.y) : List Bool)) (TTranscript.mk x.1 x.2.1) x.2.2.1 x.2.2.2.1 x.2.2.2.2.1 x.2.2.2.2.2.1 x.2.2.2.2.2.2.1 x.2.2.2.2.2.2.2.1 x.2.2.2.2.2.2.2.2.1 x.2.2.2.2.2.2.2.2.2.1 x.2.2.2.2.2.2.2.2.2.2.1 x.2.2.2.2.2.2.2.2.2.2.2.1 x.2.2.2.2.2.2.2.2.2.2.2.2.1 x.2.2.2.2.2.2.2.2.2.2.2.2.2.1, ())
theorem krp : kgx.Ok Try.prog TB := Con.ok_fn ky bd26 fun x h => kr1 (kqp (TTranscript.mk x.1 x.2.1) x.2.2.1 x.2.2.2.1 x.2.2.2.2.1 x.2.2.2.2.2.1 x.2.2.2.2.2.2.1 x.2.2.2.2.2.2.2.1 x.2.2.2.2.2.2.2.2.1 x.2.2.2.2.2.2.2.2.2.1 x.2.2.2.2.2.2.2.2.2.2.1 x.2.2.2.2.2.2.2.2.2.2.2.1 x.2.2.2.2.2.2.2.2.2.2.2.2.1 x.2.2.2.2.2.2.2.2.2.2.2.2.2.1 h)
end Go.Proofs.Ytponaobpcdkggaa
namespace Go.Proofs.Ytponaobpcdkggaa
open Go Go.Bv Go.Cv Go.Md Go.RowKit
def k4w : Con TB.den := Con.mk0 10 [] [] (.one (.one (.d (.bool)))) []
abbrev k126 := HL TB.den (hsT k4w.ins (hsOs k4w.pre))
abbrev kq3 := HL TB.den (hsV k4w.res (hsOs k4w.post))
noncomputable def khp : Cx TB := ⟨inf, [kkd, kix, kal, kgx, kzv, kzn], [], 4, []⟩
noncomputable def kpa : Code := Try.f10.body.getD .skip
noncomputable def kt7 : List ResultVar := Try.f10.results.toList
noncomputable def k10n (o : kq3) : An TB := .no
noncomputable def kp9 (x : k126) (o : kq3) : Prop := WPh TB khp 49 0 kpa (k10n o) (k4w.st TB x) (retTQ TB khp k4w kt7 o)
set_option maxRecDepth 100000 in
theorem k1ab (o : kq3) : OblH TB khp 49 0 kpa (k10n o) (retTQ TB khp k4w kt7 o) :=
  OblH.of_eq (X := (True ∧ (True ∧ ((True ∧ ((True ∧ True) ∧ True)) ∧ (True ∧ (True ∧ (True ∧ (True ∧ True)))))))) (by kernel_rfl) ⟨trivial, ⟨trivial, ⟨⟨trivial, ⟨⟨trivial, trivial⟩, trivial⟩⟩, ⟨trivial, ⟨trivial, ⟨trivial, ⟨trivial, trivial⟩⟩⟩⟩⟩⟩⟩
set_option maxRecDepth 100000 in
theorem k19w {x : k126} {o : kq3} (h : kp9 x o) : SoundH Try.prog k4w.f ((k4w.args idf x).map (er TB)) ((k4w.obs idf x).map (erO TB)) (er TB (k4w.val idf o)) ((k4w.ops idf o).map (erO TB)) :=
  Con.soundH (c := k4w) (C := khp) TBok ⟨inf_ok, (all_cons ktl (all_cons kra (all_cons khd (all_cons krp (all_cons k1de (all_cons k1d5 all_nil)))))), all_nil⟩ mix Try.func10 (show Try.f10.body = some kpa by kernel_rfl) (show Try.f10.ntmps = 49 by kernel_rfl) (show Try.f10.results.toList = kt7 by kernel_rfl) rfl h (k1ab o)
set_option maxRecDepth 100000 in
theorem k1bg  {r0 : Bool} (h :
((([] : List TQuestion) = ([] : List TQuestion)) ∧ ((U64 (TTranscript.mk (5 : Int) 0).State ∧ U64 (TTranscript.mk (5 : Int) 0).Count) ∧ OOk (OS.mk false (0 : Int) (0 : Int) ([] : List TQuestion) [] [] [] [] [] [])) ∧ let r1 : Int := ((chO (OS.mk false (0 : Int) (0 : Int) ([] : List TQuestion) [] [] [] [] [] []) (TTranscript.mk (5 : Int) 0) (18446744069414584321 : Int)).n)
 let r2 : Int := ((chO (OS.mk false (0 : Int) (0 : Int) ([] : List TQuestion) [] [] [] [] [] []) (TTranscript.mk (5 : Int) 0) (18446744069414584321 : Int)).t).State
 let r3 : Int := ((chO (OS.mk false (0 : Int) (0 : Int) ([] : List TQuestion) [] [] [] [] [] []) (TTranscript.mk (5 : Int) 0) (18446744069414584321 : Int)).t).Count
 let r4 : Bool := ((chO (OS.mk false (0 : Int) (0 : Int) ([] : List TQuestion) [] [] [] [] [] []) (TTranscript.mk (5 : Int) 0) (18446744069414584321 : Int)).o.a)
 let r5 : Int := ((chO (OS.mk false (0 : Int) (0 : Int) ([] : List TQuestion) [] [] [] [] [] []) (TTranscript.mk (5 : Int) 0) (18446744069414584321 : Int)).o.b)
 let r6 : Int := ((chO (OS.mk false (0 : Int) (0 : Int) ([] : List TQuestion) [] [] [] [] [] []) (TTranscript.mk (5 : Int) 0) (18446744069414584321 : Int)).o.c)
 let r7 : List TQuestion := ((chO (OS.mk false (0 : Int) (0 : Int) ([] : List TQuestion) [] [] [] [] [] []) (TTranscript.mk (5 : Int) 0) (18446744069414584321 : Int)).o.q)
 let r8 : List ByteArray := ((chO (OS.mk false (0 : Int) (0 : Int) ([] : List TQuestion) [] [] [] [] [] []) (TTranscript.mk (5 : Int) 0) (18446744069414584321 : Int)).o.k)
 let r9 : List Int := ((chO (OS.mk false (0 : Int) (0 : Int) ([] : List TQuestion) [] [] [] [] [] []) (TTranscript.mk (5 : Int) 0) (18446744069414584321 : Int)).o.v)
 let r10 : List ByteArray := ((chO (OS.mk false (0 : Int) (0 : Int) ([] : List TQuestion) [] [] [] [] [] []) (TTranscript.mk (5 : Int) 0) (18446744069414584321 : Int)).o.s)
 let r11 : List (List Int) := ((chO (OS.mk false (0 : Int) (0 : Int) ([] : List TQuestion) [] [] [] [] [] []) (TTranscript.mk (5 : Int) 0) (18446744069414584321 : Int)).o.t)
 let r12 : List ByteArray := ((chO (OS.mk false (0 : Int) (0 : Int) ([] : List TQuestion) [] [] [] [] [] []) (TTranscript.mk (5 : Int) 0) (18446744069414584321 : Int)).o.x)
 let r13 : List Bool := ((chO (OS.mk false (0 : Int) (0 : Int) ([] : List TQuestion) [] [] [] [] [] []) (TTranscript.mk (5 : Int) 0) (18446744069414584321 : Int)).o.y)
(r7 = r7) ∧ ((U64 (TTranscript.mk r2 r3).State ∧ U64 (TTranscript.mk r2 r3).Count) ∧ OOk (OS.mk r4 r5 r6 r7 r8 r9 r10 r11 r12 r13)) ∧ let r14 : Int := ((chO (OS.mk r4 r5 r6 r7 r8 r9 r10 r11 r12 r13) (TTranscript.mk r2 r3) (97 : Int)).n)
 let r15 : Int := ((chO (OS.mk r4 r5 r6 r7 r8 r9 r10 r11 r12 r13) (TTranscript.mk r2 r3) (97 : Int)).t).State
 let r16 : Int := ((chO (OS.mk r4 r5 r6 r7 r8 r9 r10 r11 r12 r13) (TTranscript.mk r2 r3) (97 : Int)).t).Count
 let r17 : Bool := ((chO (OS.mk r4 r5 r6 r7 r8 r9 r10 r11 r12 r13) (TTranscript.mk r2 r3) (97 : Int)).o.a)
 let r18 : Int := ((chO (OS.mk r4 r5 r6 r7 r8 r9 r10 r11 r12 r13) (TTranscript.mk r2 r3) (97 : Int)).o.b)
 let r19 : Int := ((chO (OS.mk r4 r5 r6 r7 r8 r9 r10 r11 r12 r13) (TTranscript.mk r2 r3) (97 : Int)).o.c)
 let r20 : List TQuestion := ((chO (OS.mk r4 r5 r6 r7 r8 r9 r10 r11 r12 r13) (TTranscript.mk r2 r3) (97 : Int)).o.q)
 let r21 : List ByteArray := ((chO (OS.mk r4 r5 r6 r7 r8 r9 r10 r11 r12 r13) (TTranscript.mk r2 r3) (97 : Int)).o.k)
 let r22 : List Int := ((chO (OS.mk r4 r5 r6 r7 r8 r9 r10 r11 r12 r13) (TTranscript.mk r2 r3) (97 : Int)).o.v)
 let r23 : List ByteArray := ((chO (OS.mk r4 r5 r6 r7 r8 r9 r10 r11 r12 r13) (TTranscript.mk r2 r3) (97 : Int)).o.s)
 let r24 : List (List Int) := ((chO (OS.mk r4 r5 r6 r7 r8 r9 r10 r11 r12 r13) (TTranscript.mk r2 r3) (97 : Int)).o.t)
 let r25 : List ByteArray := ((chO (OS.mk r4 r5 r6 r7 r8 r9 r10 r11 r12 r13) (TTranscript.mk r2 r3) (97 : Int)).o.x)
 let r26 : List Bool := ((chO (OS.mk r4 r5 r6 r7 r8 r9 r10 r11 r12 r13) (TTranscript.mk r2 r3) (97 : Int)).o.y)
(r20 = r20) ∧ ((U64 (TTranscript.mk r15 r16).State ∧ U64 (TTranscript.mk r15 r16).Count) ∧ (OOk (OS.mk r17 r18 r19 r20 r21 r22 r23 r24 r25 r26) ∧ r20.length ≤ 900000) ∧ (4 : Int) ≤ 12) ∧ let r27 : List Int := ((posO (OS.mk r17 r18 r19 r20 r21 r22 r23 r24 r25 r26) (TTranscript.mk r15 r16) (4 : Int) (4 : Int)).g)
 let r28 : Int := ((posO (OS.mk r17 r18 r19 r20 r21 r22 r23 r24 r25 r26) (TTranscript.mk r15 r16) (4 : Int) (4 : Int)).t).State
 let r29 : Int := ((posO (OS.mk r17 r18 r19 r20 r21 r22 r23 r24 r25 r26) (TTranscript.mk r15 r16) (4 : Int) (4 : Int)).t).Count
 let r30 : Bool := ((posO (OS.mk r17 r18 r19 r20 r21 r22 r23 r24 r25 r26) (TTranscript.mk r15 r16) (4 : Int) (4 : Int)).o.a)
 let r31 : Int := ((posO (OS.mk r17 r18 r19 r20 r21 r22 r23 r24 r25 r26) (TTranscript.mk r15 r16) (4 : Int) (4 : Int)).o.b)
 let r32 : Int := ((posO (OS.mk r17 r18 r19 r20 r21 r22 r23 r24 r25 r26) (TTranscript.mk r15 r16) (4 : Int) (4 : Int)).o.c)
 let r33 : List TQuestion := ((posO (OS.mk r17 r18 r19 r20 r21 r22 r23 r24 r25 r26) (TTranscript.mk r15 r16) (4 : Int) (4 : Int)).o.q)
 let r34 : List ByteArray := ((posO (OS.mk r17 r18 r19 r20 r21 r22 r23 r24 r25 r26) (TTranscript.mk r15 r16) (4 : Int) (4 : Int)).o.k)
 let r35 : List Int := ((posO (OS.mk r17 r18 r19 r20 r21 r22 r23 r24 r25 r26) (TTranscript.mk r15 r16) (4 : Int) (4 : Int)).o.v)
 let r36 : List ByteArray := ((posO (OS.mk r17 r18 r19 r20 r21 r22 r23 r24 r25 r26) (TTranscript.mk r15 r16) (4 : Int) (4 : Int)).o.s)
 let r37 : List (List Int) := ((posO (OS.mk r17 r18 r19 r20 r21 r22 r23 r24 r25 r26) (TTranscript.mk r15 r16) (4 : Int) (4 : Int)).o.t)
 let r38 : List ByteArray := ((posO (OS.mk r17 r18 r19 r20 r21 r22 r23 r24 r25 r26) (TTranscript.mk r15 r16) (4 : Int) (4 : Int)).o.x)
 let r39 : List Bool := ((posO (OS.mk r17 r18 r19 r20 r21 r22 r23 r24 r25 r26) (TTranscript.mk r15 r16) (4 : Int) (4 : Int)).o.y)
((18446744069414584321 : Int) = 18446744069414584321 ∧ U64 (19 : Int) ∧ Us [5, 0] ∧ [5, 0].length ≤ 1099511627776) ∧ ((r1 == (hashS (19 : Int) [5, 0])) = true →
((18446744069414584321 : Int) = 18446744069414584321 ∧ U64 (19 : Int) ∧ Us [5, 1] ∧ [5, 1].length ≤ 1099511627776) ∧ let v40 : Bool := (r14 == (Int.tmod (hashS (19 : Int) [5, 1]) 97))
(v40 = true →
(((r15 == 5) && ((r16 == 2) && true)) = true →
(r27.length ≤ 9223372036854775807) ∧ (decide (r27 = [0, 1, 2, 3])) = r0) ∧
(((r15 == 5) && ((r16 == 2) && true)) = false →
 false = r0)) ∧
(v40 = false →
 false = r0)) ∧
((r1 == (hashS (19 : Int) [5, 0])) = false →
 false = r0))) : kp9 (()) (r0, ()) := WPh.of_eq (by kernel_rfl) h
theorem bd10 : Callable Try.prog 10 := ⟨by rw [Try.func10]; kernel_rfl, by rw [Try.func10]; show some _ ≠ some _; decide⟩
theorem k16q : kp9 (()) ((true : Bool), ()) := by
  have z : RR (OS.mk false 0 0 [] [] [] [] [] [] []) := RR.z
  have zo : OOk (OS.mk false 0 0 [] [] [] [] [] [] []) := OOk.z false 0
  obtain ⟨a1, a2, _, a4⟩ := z.ch (t := ⟨5, 0⟩) (p := 18446744069414584321) (by decide) (by decide) (by decide)
  have b1 := zo.ch ⟨5, 0⟩ 18446744069414584321 (by decide)
  refine k1bg ⟨rfl, ⟨⟨by decide, by decide⟩, zo⟩, ?_⟩
  dsimp only
  generalize chO (OS.mk false 0 0 [] [] [] [] [] [] []) ⟨5, 0⟩ 18446744069414584321 = c1 at *
  simp only [OS_eta, k14x]
  have e2 : c1.t = ⟨5, 1⟩ := a2
  rw [e2]
  have b2 : c1.o.q.length ≤ 1 := b1.2.1
  obtain ⟨d1, d2, _, d4⟩ := a4.ch (t := ⟨5, 1⟩) (p := 97) (by decide) (by decide) (by decide)
  have f1 := b1.1.ch ⟨5, 1⟩ 97 (by omega)
  refine ⟨(by first | exact rfl | exact True.intro), ⟨⟨by decide, by decide⟩, b1.1⟩, ?_⟩
  generalize chO c1.o ⟨5, 1⟩ 97 = c2 at *
  have e3 : c2.t = ⟨5, 2⟩ := d2
  rw [e3]
  have f2 : c2.o.q.length ≤ c1.o.q.length + 1 := f1.2.1
  refine ⟨(by first | exact rfl | exact True.intro), ⟨⟨by decide, by decide⟩, ⟨f1.1, by omega⟩, by decide⟩, ?_⟩
  have hp := k1h7 f1.1 ⟨5, 2⟩ (n := 4) (by decide) (by omega)
  have h5 : valH 19 [5, 0] = hashS 19 [5, 0] := rfl
  have h6 : valH 19 [5, 1] = hashS 19 [5, 1] := rfl
  have g5 : Int.tmod (hashS 19 [5, 0]) 18446744069414584321 = hashS 19 [5, 0] := by
    have := k10t 19 [5, 0]
    have := k13f 19 [5, 0]
    rw [tmod_nn _ _ (by omega)]
    omega
  rw [hp, a1, d1, h5, h6, g5]
  refine ⟨⟨(by first | exact rfl | exact True.intro), by decide, (by intro x hx; simp at hx; omega), by decide⟩, fun _ => ⟨⟨(by first | exact rfl | exact True.intro), by decide, (by intro x hx; simp at hx; omega), by decide⟩, fun _ => ⟨fun _ => ⟨by decide, by decide⟩, fun h => by simp at h⟩, fun h => by simp at h⟩, fun h => by simp at h⟩
noncomputable def kyi : Con TB.den := k4w.totR fun x => ((true : Bool), ())
theorem k1bn : kyi.Ok Try.prog TB := Con.ok_tot k4w bd10 fun x => k19w (k16q )
end Go.Proofs.Ytponaobpcdkggaa
namespace Go.Proofs.Ytponaobpcdkggaa
open Go Go.Bv Go.Cv Go.Md Go.RowKit
def k4p : Con TB.den := Con.mk0 15 [.one (.d (.sl (.int .u64))), .one (.d (.sl (.int .u64)))] [] (.one (.one (.d (.bool)))) []
abbrev k15x := HL TB.den (hsT k4p.ins (hsOs k4p.pre))
abbrev kde := HL TB.den (hsV k4p.res (hsOs k4p.post))
noncomputable def k9o : Cx TB := ⟨inf, [], [], 4, []⟩
noncomputable def kgp : Code := Try.f15.body.getD .skip
noncomputable def kl3 : List ResultVar := Try.f15.results.toList
noncomputable def k1df (o : kde) : Exit → TSt TB.den → Prop := thenT TB (fun s => ghs TB [] s fun s => WP TB k9o 26 0 (cB (cB (cB kgp))) .no s (retTQ TB k9o k4p kl3 o)) (retTQ TB k9o k4p kl3 o)
def kdi : Tm := ⟨[], [], [0, 1, 5], [.one (.d (.sl (.int .u64))), .one (.d (.sl (.int .u64))), .one (.d (.int .i64))], 0⟩
noncomputable def k1d0 (o : kde) (nx1 : HL TB.den kdi.hs → Prop) : Exit → TSt TB.den → Prop := thenT TB (fun s => kdi.mat TB 0 s nx1) (blockT TB 0 (k1df o))
noncomputable def klg (o : kde) (nx1 : HL TB.den kdi.hs → Prop) (i : HL TB.den kdi.hs) : Prop := WP TB k9o 26 0 (cA (cA (cB (cA (cB (cB kgp)))))) .no (kdi.fill TB i) (k1d0 o nx1)
noncomputable def k1ds (o : kde) : An TB := .nd [] .no [] (.lp [] kdi (klg o) fun nx1 => .no)
noncomputable def k128 (o : kde) : An TB := .nd [] .no [] (.nd [] .no [] (.nd [] (k1ds o) [] .no))
noncomputable def kr3 (x : k15x) (o : kde) : Prop := WPh TB k9o 26 0 kgp (k128 o) (k4p.st TB x) (retTQ TB k9o k4p kl3 o)
set_option maxRecDepth 100000 in
theorem k1c7 (o : kde) : OblH TB k9o 26 0 kgp (k128 o) (retTQ TB k9o k4p kl3 o) :=
  OblH.of_eq (X := (True ∧ ((True ∧ ((True ∧ True) ∧ True)) ∧ ((True ∧ ((∀ nx i, (klg o) nx i = (klg o) nx i) ∧ ∀ nx1 : HL TB.den kdi.hs → Prop, ((True ∧ (True ∧ True)) ∧ ((True ∧ ((True ∧ True) ∧ True)) ∧ True)))) ∧ (True ∧ True))))) (by kernel_rfl) ⟨trivial, ⟨⟨trivial, ⟨⟨trivial, trivial⟩, trivial⟩⟩, ⟨⟨trivial, ⟨fun _ _ => rfl, fun _ => ⟨⟨trivial, ⟨trivial, trivial⟩⟩, ⟨⟨trivial, ⟨⟨trivial, trivial⟩, trivial⟩⟩, trivial⟩⟩⟩⟩, ⟨trivial, trivial⟩⟩⟩⟩
set_option maxRecDepth 100000 in
theorem k1ap {x : k15x} {o : kde} (h : kr3 x o) : SoundH Try.prog k4p.f ((k4p.args idf x).map (er TB)) ((k4p.obs idf x).map (erO TB)) (er TB (k4p.val idf o)) ((k4p.ops idf o).map (erO TB)) :=
  Con.soundH (c := k4p) (C := k9o) TBok ⟨inf_ok, all_nil, all_nil⟩ mix Try.func15 (show Try.f15.body = some kgp by kernel_rfl) (show Try.f15.ntmps = 26 by kernel_rfl) (show Try.f15.results.toList = kl3 by kernel_rfl) rfl h (k1c7 o)
set_option maxRecDepth 100000 in
theorem k1ct {p0 : List Int} {p1 : List Int} {r0 : Bool} (h :
((((p0.length : Int) != (p1.length : Int)) = true →
 false = r0) ∧
(((p0.length : Int) != (p1.length : Int)) = false →
 Md.Loop (p0, p1, (0 : Int), ()) (klg (r0, ()))))) : kr3 (p0, p1, ()) (r0, ()) := WPh.of_eq (by kernel_rfl) h
def k12j (r0 : Bool) (k1 : Int → Prop) (s0 : List Int) (s1 : List Int) (s5 : Int) : Prop :=
(decide (s5 < (s0.length : Int)) = true →
(0 ≤ s5) ∧ s5 < (s0.length : Int) ∧ (0 ≤ s5) ∧ s5 < (s1.length : Int) ∧ (((ix s0 s5) != (ix s1 s5)) = true →
 false = r0) ∧
(((ix s0 s5) != (ix s1 s5)) = false →
 k1 (IntKind.i64.wrap (s5 + 1) : Int))) ∧
(decide (s5 < (s0.length : Int)) = false →
 true = r0)
set_option maxRecDepth 100000 in
theorem k1ag {r0 : Bool} {s0 : List Int} {s1 : List Int} {s5 : Int} (inv : Int → Prop) (μ : Int → Nat) (h0 : inv s5) (hs : ∀ (s5 : Int), inv s5 → k12j r0 (fun s5q => inv s5q ∧ μ s5q < μ s5) s0 s1 s5) : Md.Loop (s0, s1, s5, ()) (klg (r0, ())) :=
  ⟨⟨fun s : (List Int) × (List Int) × Int × Unit => (s.1 = s0 ∧ s.2.1 = s1) ∧ inv s.2.2.1, fun s : (List Int) × (List Int) × Int × Unit => μ s.2.2.1, ⟨⟨rfl, rfl⟩, h0⟩, fun (s0p, s1p, s5p, ()) ⟨⟨eq0, eq1⟩, hi⟩ => by
    have eq0 : s0p = s0 := eq0; subst s0p; have eq1 : s1p = s1 := eq1; subst s1p; exact mpr_of (by kernel_rfl) ((congrArg (fun k => k12j r0 k s0 s1 s5p) (lpk1 (⟨rfl, rfl⟩ : s0 = s0 ∧ s1 = s1) inv (fun s5q => μ s5q < μ s5p))).mpr (hs s5p hi))⟩⟩
theorem bd15 : Callable Try.prog 15 := ⟨by rw [Try.func15]; kernel_rfl, by rw [Try.func15]; show some _ ≠ some _; decide⟩
theorem k19f (p0 : List Int) (p1 : List Int) (h : p0.length ≤ 9223372036854775807) : kr3 (p0, p1, ()) (((decide (p0 = p1)) : Bool), ()) := by
  refine k1ct ⟨fun e => ?_, fun e => ?_⟩
  · have e : ¬ (p0.length : Int) = p1.length := by simpa using e
    rw [decide_eq_false (by rintro rfl; exact e rfl)]
  · have e : (p0.length : Int) = p1.length := by simpa using e
    refine k1ag (fun i => 0 ≤ i ∧ i ≤ p0.length ∧ p0.take i.toNat = p1.take i.toNat) (fun i => (p0.length - i).toNat) ⟨by omega, by omega, by simp⟩ ?_
    rintro i ⟨g0, g1, g2⟩
    refine ⟨fun hh => ?_, fun hh => ?_⟩
    · have hh := of_decide_eq_true hh
      refine ⟨g0, hh, g0, by omega, fun e2 => ?_, fun e2 => ?_⟩
      · have e2 : ¬ ix p0 i = ix p1 i := by simpa using e2
        rw [decide_eq_false (by rintro rfl; exact e2 rfl)]
      · have e2 : ix p0 i = ix p1 i := by simpa using e2
        rw [inc i p0.length g0 hh (by omega)]
        refine ⟨⟨by omega, by omega, ?_⟩, by omega⟩
        rw [k69 p0 i g0 hh, k69 p1 i g0 (by omega), g2, e2]
    · have hh := of_decide_eq_false hh
      rw [List.take_of_length_le (by omega), List.take_of_length_le (by omega)] at g2
      rw [decide_eq_true g2]
noncomputable def kzz : Con TB.den := k4p.fnR (fun x => (fun (p0 : List Int) (p1 : List Int) => p0.length ≤ 9223372036854775807) x.1 x.2.1) fun x => ((fun (p0 : List Int) (p1 : List Int) => ((decide (p0 = p1)) : Bool)) x.1 x.2.1, ())
theorem k1d4 : kzz.Ok Try.prog TB := Con.ok_fn k4p bd15 fun x h => k1ap (k19f x.1 x.2.1 h)
end Go.Proofs.Ytponaobpcdkggaa
namespace Go.Proofs.Ytponaobpcdkggaa
open Go Go.Bv Go.Cv Go.Md Go.RowKit
def k45 : Con TB.den := Con.mk0 21 [.one (.d (.sl (.st 0))), .one (.d (.sl (.st 0)))] [] (.one (.one (.d (.bool)))) []
abbrev k12m := HL TB.den (hsT k45.ins (hsOs k45.pre))
abbrev kbj := HL TB.den (hsV k45.res (hsOs k45.post))
noncomputable def k8g : Cx TB := ⟨inf, [kzz], [], 4, []⟩
noncomputable def kf4 : Code := Try.f21.body.getD .skip
noncomputable def kis : List ResultVar := Try.f21.results.toList
noncomputable def k1b7 (o : kbj) : Exit → TSt TB.den → Prop := thenT TB (fun s => ghs TB [] s fun s => WP TB k8g 42 0 (cB (cB (cB kf4))) .no s (retTQ TB k8g k45 kis o)) (retTQ TB k8g k45 kis o)
def kbz : Tm := ⟨[], [], [0, 1, 5], [.one (.d (.sl (.st 0))), .one (.d (.sl (.st 0))), .one (.d (.int .i64))], 0⟩
noncomputable def k1bo (o : kbj) (nx1 : HL TB.den kbz.hs → Prop) : Exit → TSt TB.den → Prop := thenT TB (fun s => kbz.mat TB 0 s nx1) (blockT TB 0 (k1b7 o))
noncomputable def khw (o : kbj) (nx1 : HL TB.den kbz.hs → Prop) (i : HL TB.den kbz.hs) : Prop := WP TB k8g 42 0 (cA (cA (cB (cA (cB (cB kf4)))))) .no (kbz.fill TB i) (k1bo o nx1)
noncomputable def k1b4 (o : kbj) : An TB := .nd [] .no [] (.lp [] kbz (khw o) fun nx1 => .no)
noncomputable def k115 (o : kbj) : An TB := .nd [] .no [] (.nd [] .no [] (.nd [] (k1b4 o) [] .no))
noncomputable def kpl (x : k12m) (o : kbj) : Prop := WPh TB k8g 42 0 kf4 (k115 o) (k45.st TB x) (retTQ TB k8g k45 kis o)
set_option maxRecDepth 100000 in
theorem k191 (o : kbj) : OblH TB k8g 42 0 kf4 (k115 o) (retTQ TB k8g k45 kis o) :=
  OblH.of_eq (X := (True ∧ ((True ∧ ((True ∧ True) ∧ True)) ∧ ((True ∧ ((∀ nx i, (khw o) nx i = (khw o) nx i) ∧ ∀ nx1 : HL TB.den kbz.hs → Prop, ((True ∧ (True ∧ True)) ∧ ((True ∧ ((True ∧ True) ∧ True)) ∧ True)))) ∧ (True ∧ True))))) (by kernel_rfl) ⟨trivial, ⟨⟨trivial, ⟨⟨trivial, trivial⟩, trivial⟩⟩, ⟨⟨trivial, ⟨fun _ _ => rfl, fun _ => ⟨⟨trivial, ⟨trivial, trivial⟩⟩, ⟨⟨trivial, ⟨⟨trivial, trivial⟩, trivial⟩⟩, trivial⟩⟩⟩⟩, ⟨trivial, trivial⟩⟩⟩⟩
set_option maxRecDepth 100000 in
theorem k1a5 {x : k12m} {o : kbj} (h : kpl x o) : SoundH Try.prog k45.f ((k45.args idf x).map (er TB)) ((k45.obs idf x).map (erO TB)) (er TB (k45.val idf o)) ((k45.ops idf o).map (erO TB)) :=
  Con.soundH (c := k45) (C := k8g) TBok ⟨inf_ok, (all_cons k1d4 all_nil), all_nil⟩ mix Try.func21 (show Try.f21.body = some kf4 by kernel_rfl) (show Try.f21.ntmps = 42 by kernel_rfl) (show Try.f21.results.toList = kis by kernel_rfl) rfl h (k191 o)
set_option maxRecDepth 100000 in
theorem k1bx {p0 : List TMessage} {p1 : List TMessage} {r0 : Bool} (h :
((((p0.length : Int) != (p1.length : Int)) = true →
 false = r0) ∧
(((p0.length : Int) != (p1.length : Int)) = false →
 Md.Loop (p0, p1, (0 : Int), ()) (khw (r0, ()))))) : kpl (p0, p1, ()) (r0, ()) := WPh.of_eq (by kernel_rfl) h
def k10s (r0 : Bool) (k1 : Int → Prop) (s0 : List TMessage) (s1 : List TMessage) (s5 : Int) : Prop :=
(decide (s5 < (s0.length : Int)) = true →
(0 ≤ s5) ∧ s5 < (s0.length : Int) ∧ (0 ≤ s5) ∧ s5 < (s1.length : Int) ∧ ((((ix s0 s5).Tag) != ((ix s1 s5).Tag)) = true →
 false = r0) ∧
((((ix s0 s5).Tag) != ((ix s1 s5).Tag)) = false →
(0 ≤ s5) ∧ s5 < (s0.length : Int) ∧ (0 ≤ s5) ∧ s5 < (s1.length : Int) ∧ (((ix s0 s5).L).length ≤ 9223372036854775807) ∧ let r1 : Bool := (decide (((ix s0 s5).L) = ((ix s1 s5).L)))
((!r1) = true →
 false = r0) ∧
((!r1) = false →
 k1 (IntKind.i64.wrap (s5 + 1) : Int)))) ∧
(decide (s5 < (s0.length : Int)) = false →
 true = r0)
set_option maxRecDepth 100000 in
theorem k19j {r0 : Bool} {s0 : List TMessage} {s1 : List TMessage} {s5 : Int} (inv : Int → Prop) (μ : Int → Nat) (h0 : inv s5) (hs : ∀ (s5 : Int), inv s5 → k10s r0 (fun s5q => inv s5q ∧ μ s5q < μ s5) s0 s1 s5) : Md.Loop (s0, s1, s5, ()) (khw (r0, ())) :=
  ⟨⟨fun s : (List TMessage) × (List TMessage) × Int × Unit => (s.1 = s0 ∧ s.2.1 = s1) ∧ inv s.2.2.1, fun s : (List TMessage) × (List TMessage) × Int × Unit => μ s.2.2.1, ⟨⟨rfl, rfl⟩, h0⟩, fun (s0p, s1p, s5p, ()) ⟨⟨eq0, eq1⟩, hi⟩ => by
    have eq0 : s0p = s0 := eq0; subst s0p; have eq1 : s1p = s1 := eq1; subst s1p; exact mpr_of (by kernel_rfl) ((congrArg (fun k => k10s r0 k s0 s1 s5p) (lpk1 (⟨rfl, rfl⟩ : s0 = s0 ∧ s1 = s1) inv (fun s5q => μ s5q < μ s5p))).mpr (hs s5p hi))⟩⟩
theorem bd21 : Callable Try.prog 21 := ⟨by rw [Try.func21]; kernel_rfl, by rw [Try.func21]; show some _ ≠ some _; decide⟩
theorem k16u (p0 : List TMessage) (p1 : List TMessage) (h : p0.length ≤ 9223372036854775807 ∧ ∀ m ∈ p0, m.L.length ≤ 9223372036854775807) : kpl (p0, p1, ()) (((decide (p0 = p1)) : Bool), ()) := by
  obtain ⟨h1, h2⟩ := h
  refine k1bx ⟨fun e => ?_, fun e => ?_⟩
  · have e : ¬ (p0.length : Int) = p1.length := by simpa using e
    rw [decide_eq_false (by rintro rfl; exact e rfl)]
  · have e : (p0.length : Int) = p1.length := by simpa using e
    refine k19j (fun i => 0 ≤ i ∧ i ≤ p0.length ∧ p0.take i.toNat = p1.take i.toNat) (fun i => (p0.length - i).toNat) ⟨by omega, by omega, by simp⟩ ?_
    rintro i ⟨g0, g1, g2⟩
    refine ⟨fun hh => ?_, fun hh => ?_⟩
    · have hh := of_decide_eq_true hh
      refine ⟨g0, hh, g0, by omega, fun e2 => ?_, fun e2 => ⟨g0, hh, g0, by omega, h2 _ (ix_mem p0 i g0 hh), ?_⟩⟩
      · have e2 : ¬ (ix p0 i).Tag = (ix p1 i).Tag := by simpa using e2
        rw [decide_eq_false (by rintro rfl; exact e2 rfl)]
      · have e2 : (ix p0 i).Tag = (ix p1 i).Tag := by simpa using e2
        dsimp only
        refine ⟨fun e3 => ?_, fun e3 => ?_⟩
        · have e3 : ¬ (ix p0 i).L = (ix p1 i).L := by simpa using e3
          rw [decide_eq_false (by rintro rfl; exact e3 rfl)]
        · have e3 : (ix p0 i).L = (ix p1 i).L := by simpa using e3
          rw [inc i p0.length g0 hh (by omega)]
          refine ⟨⟨by omega, by omega, ?_⟩, by omega⟩
          have e4 : ix p0 i = ix p1 i := by rw [← knb (ix p0 i), ← knb (ix p1 i), e2, e3]
          rw [k69 p0 i g0 hh, k69 p1 i g0 (by omega), g2, e4]
    · have hh := of_decide_eq_false hh
      rw [List.take_of_length_le (by omega), List.take_of_length_le (by omega)] at g2
      rw [decide_eq_true g2]
noncomputable def kya : Con TB.den := k45.fnR (fun x => (fun (p0 : List TMessage) (p1 : List TMessage) => p0.length ≤ 9223372036854775807 ∧ ∀ m ∈ p0, m.L.length ≤ 9223372036854775807) x.1 x.2.1) fun x => ((fun (p0 : List TMessage) (p1 : List TMessage) => ((decide (p0 = p1)) : Bool)) x.1 x.2.1, ())
theorem k1bl : kya.Ok Try.prog TB := Con.ok_fn k45 bd21 fun x h => k1a5 (k16u x.1 x.2.1 h)
end Go.Proofs.Ytponaobpcdkggaa
namespace Go.Proofs.Ytponaobpcdkggaa
open Go Go.Bv Go.Cv Go.Md Go.RowKit
def k31 : Con TB.den := Con.mk0 20 [.one (.d (.sl (.st 0)))] [] (.one (.one (.d (.bool)))) []
abbrev kyg := HL TB.den (hsT k31.ins (hsOs k31.pre))
abbrev k59 := HL TB.den (hsV k31.res (hsOs k31.post))
noncomputable def k5u : Cx TB := ⟨inf, [], [], 4, []⟩
noncomputable def k82 : Code := Try.f20.body.getD .skip
noncomputable def kef : List ResultVar := Try.f20.results.toList
noncomputable def k172 (o : k59) : Exit → TSt TB.den → Prop := thenT TB (fun s => ghs TB [] s fun s => WP TB k5u 36 0 (cB (cB k82)) .no s (retTQ TB k5u k31 kef o)) (retTQ TB k5u k31 kef o)
def k3r : Tm := ⟨[], [], [0, 3], [.one (.d (.sl (.st 0))), .one (.d (.int .i64))], 0⟩
noncomputable def kpt (o : k59) (nx2 : HL TB.den k3r.hs → Prop) : Exit → TSt TB.den → Prop := thenT TB (fun s => k3r.mat TB 0 s nx2) (blockT TB 0 (k172 o))
noncomputable def k16y (o : k59) (nx2 : HL TB.den k3r.hs → Prop) : Exit → TSt TB.den → Prop := thenT TB (fun s => ghs TB [] s fun s => WP TB k5u 36 0 (cB (cB (cA (cA (cB (cA (cB k82))))))) .no s (kpt o nx2)) (kpt o nx2)
def k9e : Tm := ⟨[], [], [0, 3, 4], [.one (.d (.sl (.st 0))), .one (.d (.int .i64)), .one (.d (.int .i64))], 0⟩
noncomputable def k17r (o : k59) (nx2 : HL TB.den k3r.hs → Prop) (nx1 : HL TB.den k9e.hs → Prop) : Exit → TSt TB.den → Prop := thenT TB (fun s => k9e.mat TB 0 s nx1) (blockT TB 2 (blockT TB 1 (k16y o nx2)))
noncomputable def kfj (o : k59) (nx2 : HL TB.den k3r.hs → Prop) (nx1 : HL TB.den k9e.hs → Prop) (i : HL TB.den k9e.hs) : Prop := WP TB k5u 36 0 (cA (cA (cB (cB (cA (cA (cB (cA (cA (cB (cA (cB k82)))))))))))) .no (k9e.fill TB i) (k17r o nx2 nx1)
noncomputable def k17u (o : k59) (nx2 : HL TB.den k3r.hs → Prop) : An TB := .nd [] .no [] (.lp [] k9e (kfj o nx2) fun nx1 => .no)
noncomputable def kuk (o : k59) (nx2 : HL TB.den k3r.hs → Prop) : An TB := .nd [] .no [] (.nd [] (.nd [] .no [] (k17u o nx2)) [] .no)
noncomputable def ke7 (o : k59) (nx2 : HL TB.den k3r.hs → Prop) (i : HL TB.den k3r.hs) : Prop := WP TB k5u 36 0 (cA (cA (cB (cA (cB k82))))) (kuk o nx2) (k3r.fill TB i) (kpt o nx2)
noncomputable def k15i (o : k59) : An TB := .lp [] k3r (ke7 o) fun nx2 => (kuk o nx2)
noncomputable def kww (o : k59) : An TB := .nd [] .no [] (.nd [] (.nd [] .no [] (k15i o)) [] .no)
noncomputable def km9 (x : kyg) (o : k59) : Prop := WPh TB k5u 36 0 k82 (kww o) (k31.st TB x) (retTQ TB k5u k31 kef o)
set_option maxRecDepth 100000 in
theorem k16i (o : k59) : OblH TB k5u 36 0 k82 (kww o) (retTQ TB k5u k31 kef o) :=
  OblH.of_eq (X := (True ∧ ((True ∧ ((∀ nx i, (ke7 o) nx i = (ke7 o) nx i) ∧ ∀ nx2 : HL TB.den k3r.hs → Prop, ((True ∧ (True ∧ True)) ∧ (((True ∧ ((True ∧ True) ∧ True)) ∧ (True ∧ ((∀ nx i, (kfj o nx2) nx i = (kfj o nx2) nx i) ∧ ∀ nx1 : HL TB.den k9e.hs → Prop, ((True ∧ (True ∧ True)) ∧ ((True ∧ ((True ∧ True) ∧ True)) ∧ True))))) ∧ True)))) ∧ (True ∧ True)))) (by kernel_rfl) ⟨trivial, ⟨⟨trivial, ⟨fun _ _ => rfl, fun _ => ⟨⟨trivial, ⟨trivial, trivial⟩⟩, ⟨⟨⟨trivial, ⟨⟨trivial, trivial⟩, trivial⟩⟩, ⟨trivial, ⟨fun _ _ => rfl, fun _ => ⟨⟨trivial, ⟨trivial, trivial⟩⟩, ⟨⟨trivial, ⟨⟨trivial, trivial⟩, trivial⟩⟩, trivial⟩⟩⟩⟩⟩, trivial⟩⟩⟩⟩, ⟨trivial, trivial⟩⟩⟩
set_option maxRecDepth 100000 in
theorem k14r {x : kyg} {o : k59} (h : km9 x o) : SoundH Try.prog k31.f ((k31.args idf x).map (er TB)) ((k31.obs idf x).map (erO TB)) (er TB (k31.val idf o)) ((k31.ops idf o).map (erO TB)) :=
  Con.soundH (c := k31) (C := k5u) TBok ⟨inf_ok, all_nil, all_nil⟩ mix Try.func20 (show Try.f20.body = some k82 by kernel_rfl) (show Try.f20.ntmps = 36 by kernel_rfl) (show Try.f20.results.toList = kef by kernel_rfl) rfl h (k16i o)
set_option maxRecDepth 100000 in
theorem k17m {p0 : List TMessage} {r0 : Bool} (h :
(Md.Loop (p0, (0 : Int), ()) (ke7 (r0, ())))) : km9 (p0, ()) (r0, ()) := WPh.of_eq (by kernel_rfl) h
def kwa (r0 : Bool) (nx2 : HL TB.den k3r.hs → Prop) (k2 : Int → Prop) (s0 : List TMessage) (s3 : Int) : Prop :=
(decide (s3 < (s0.length : Int)) = true →
(0 ≤ s3) ∧ s3 < (s0.length : Int) ∧ let v1 : Bool := decide (18446744069414584321 ≤ ((ix s0 s3).Tag))
(v1 = true →
 false = r0) ∧
(v1 = false →
 Md.Loop (s0, s3, (0 : Int), ()) (kfj (r0, ()) nx2))) ∧
(decide (s3 < (s0.length : Int)) = false →
 true = r0)
set_option maxRecDepth 100000 in
theorem k15a {r0 : Bool} {s0 : List TMessage} {s3 : Int} (inv : Int → Prop) (μ : Int → Nat) (h0 : inv s3) (hs : ∀ (s3 : Int), inv s3 → kwa r0 (fun s : (List TMessage) × Int × Unit => ((s.1 = s0) ∧ inv s.2.1) ∧ μ s.2.1 < μ s3) (fun s3q => inv s3q ∧ μ s3q < μ s3) s0 s3) : Md.Loop (s0, s3, ()) (ke7 (r0, ())) :=
  ⟨⟨fun s : (List TMessage) × Int × Unit => (s.1 = s0) ∧ inv s.2.1, fun s : (List TMessage) × Int × Unit => μ s.2.1, ⟨rfl, h0⟩, fun (s0p, s3p, ()) ⟨eq0, hi⟩ => by
    have eq0 : s0p = s0 := eq0; subst s0p; exact mpr_of (by kernel_rfl) ((congrArg (fun k => kwa r0 (fun s : (List TMessage) × Int × Unit => ((s.1 = s0) ∧ inv s.2.1) ∧ μ s.2.1 < μ s3p) k s0 s3p) (lpk1 (rfl : s0 = s0) inv (fun s3q => μ s3q < μ s3p))).mpr (hs s3p hi))⟩⟩
def kwy (r0 : Bool) (nx2 : HL TB.den k3r.hs → Prop) (k1 : Int → Prop) (s0 : List TMessage) (s3 : Int) (s4 : Int) : Prop :=
(0 ≤ s3) ∧ s3 < (s0.length : Int) ∧ let v2 : Bool := decide (s4 < (((ix s0 s3).L).length : Int))
(v2 = true →
(0 ≤ s3) ∧ s3 < (s0.length : Int) ∧ (0 ≤ s4) ∧ s4 < (((ix s0 s3).L).length : Int) ∧ let v3 : Bool := decide (18446744069414584321 ≤ (ix ((ix s0 s3).L) s4))
(v3 = true →
 false = r0) ∧
(v3 = false →
 k1 (IntKind.i64.wrap (s4 + 1) : Int))) ∧
(v2 = false →
 nx2 (s0, (IntKind.i64.wrap (s3 + 1) : Int), ()))
set_option maxRecDepth 100000 in
theorem k15g {r0 : Bool} {nx2 : HL TB.den k3r.hs → Prop} {s0 : List TMessage} {s3 : Int} {s4 : Int} (inv : Int → Prop) (μ : Int → Nat) (h0 : inv s4) (hs : ∀ (s4 : Int), inv s4 → kwy r0 nx2 (fun s4q => inv s4q ∧ μ s4q < μ s4) s0 s3 s4) : Md.Loop (s0, s3, s4, ()) (kfj (r0, ()) nx2) :=
  ⟨⟨fun s : (List TMessage) × Int × Int × Unit => (s.1 = s0 ∧ s.2.1 = s3) ∧ inv s.2.2.1, fun s : (List TMessage) × Int × Int × Unit => μ s.2.2.1, ⟨⟨rfl, rfl⟩, h0⟩, fun (s0p, s3p, s4p, ()) ⟨⟨eq0, eq1⟩, hi⟩ => by
    have eq0 : s0p = s0 := eq0; subst s0p; have eq1 : s3p = s3 := eq1; subst s3p; exact mpr_of (by kernel_rfl) ((congrArg (fun k => kwy r0 nx2 k s0 s3 s4p) (lpk1 (⟨rfl, rfl⟩ : s0 = s0 ∧ s3 = s3) inv (fun s4q => μ s4q < μ s4p))).mpr (hs s4p hi))⟩⟩
theorem bd20 : Callable Try.prog 20 := ⟨by rw [Try.func20]; kernel_rfl, by rw [Try.func20]; show some _ ≠ some _; decide⟩
theorem k13w (p0 : List TMessage) (h : p0.length ≤ 9223372036854775807 ∧ ∀ m ∈ p0, m.L.length ≤ 9223372036854775807) : km9 (p0, ()) (((p0.all (fun m => decide (m.Tag < 18446744069414584321) && allB m.L)) : Bool), ()) := by
  obtain ⟨h1, h2⟩ := h
  refine k17m (k15a (AllI (fun m => decide (m.Tag < 18446744069414584321) && allB m.L) p0) (fun i => (p0.length - i).toNat) AllI.start ?_)
  intro i hi
  refine ⟨fun hh => ?_, fun hh => ?_⟩
  · have hh := of_decide_eq_true hh
    have hl := h2 _ (ix_mem p0 i hi.1 hh)
    refine ⟨hi.1, hh, ?_⟩
    dsimp only
    refine ⟨fun e => ?_, fun e => ?_⟩
    · have e := of_decide_eq_true e
      rw [hi.bad hh (by rw [decide_eq_false (by omega)]; rfl)]
    · have e := of_decide_eq_false e
      refine k15g (AllI (fun x => decide (x < 18446744069414584321)) (ix p0 i).L) (fun j => ((ix p0 i).L.length - j).toNat) AllI.start ?_
      intro j hj
      refine ⟨hi.1, hh, ?_⟩
      dsimp only
      refine ⟨fun h3 => ?_, fun h3 => ?_⟩
      · have h3 := of_decide_eq_true h3
        refine ⟨hi.1, hh, hj.1, h3, fun e2 => ?_, fun e2 => ?_⟩
        · have e2 := of_decide_eq_true e2
          have hb : allB (ix p0 i).L = false := hj.bad h3 (decide_eq_false (by omega))
          rw [hi.bad hh (by rw [hb, Bool.and_false])]
        · have e2 := of_decide_eq_false e2
          exact hj.next h3 (by omega) (decide_eq_true (by omega))
      · have h3 := of_decide_eq_false h3
        have hb : allB (ix p0 i).L = true := hj.done h3
        obtain ⟨q1, q2⟩ := hi.next hh (by omega) (by rw [hb, decide_eq_true (by omega)]; rfl)
        exact ⟨⟨rfl, q1⟩, q2⟩
  · have hh := of_decide_eq_false hh
    exact (hi.done hh).symm
noncomputable def kv5 : Con TB.den := k31.fnR (fun x => (fun (p0 : List TMessage) => p0.length ≤ 9223372036854775807 ∧ ∀ m ∈ p0, m.L.length ≤ 9223372036854775807) x.1) fun x => ((fun (p0 : List TMessage) => ((p0.all (fun m => decide (m.Tag < 18446744069414584321) && allB m.L)) : Bool)) x.1, ())
theorem k16r : kv5.Ok Try.prog TB := Con.ok_fn k31 bd20 fun x h => k14r (k13w x.1 h)
end Go.Proofs.Ytponaobpcdkggaa
namespace Go.Proofs.Ytponaobpcdkggaa
open Go Go.Bv Go.Cv Go.Md Go.RowKit
def k46 : Con TB.den := Con.mk0 16 [.one (.d (.sl (.st 0)))] [] (.one (.one (.d (.bool)))) []
abbrev k125 := HL TB.den (hsT k46.ins (hsOs k46.pre))
abbrev kbn := HL TB.den (hsV k46.res (hsOs k46.post))
noncomputable def k8x : Cx TB := ⟨inf, [], [], 4, []⟩
noncomputable def kfm : Code := Try.f16.body.getD .skip
noncomputable def kir : List ResultVar := Try.f16.results.toList
noncomputable def k1cb (o : kbn) : Exit → TSt TB.den → Prop := thenT TB (fun s => ghs TB [] s fun s => WP TB k8x 20 0 (cB (cB kfm)) .no s (retTQ TB k8x k46 kir o)) (retTQ TB k8x k46 kir o)
def kbu : Tm := ⟨[], [], [0, 3], [.one (.d (.sl (.st 0))), .one (.d (.int .i64))], 0⟩
noncomputable def k1bs (o : kbn) (nx1 : HL TB.den kbu.hs → Prop) : Exit → TSt TB.den → Prop := thenT TB (fun s => kbu.mat TB 0 s nx1) (blockT TB 0 (k1cb o))
noncomputable def ki7 (o : kbn) (nx1 : HL TB.den kbu.hs → Prop) (i : HL TB.den kbu.hs) : Prop := WP TB k8x 20 0 (cA (cA (cB (cA (cB kfm))))) .no (kbu.fill TB i) (k1bs o nx1)
noncomputable def k1cr (o : kbn) : An TB := .nd [] .no [] (.lp [] kbu (ki7 o) fun nx1 => .no)
noncomputable def k103 (o : kbn) : An TB := .nd [] .no [] (.nd [] (k1cr o) [] .no)
noncomputable def kp6 (x : k125) (o : kbn) : Prop := WPh TB k8x 20 0 kfm (k103 o) (k46.st TB x) (retTQ TB k8x k46 kir o)
set_option maxRecDepth 100000 in
theorem k1a2 (o : kbn) : OblH TB k8x 20 0 kfm (k103 o) (retTQ TB k8x k46 kir o) :=
  OblH.of_eq (X := (True ∧ ((True ∧ ((∀ nx i, (ki7 o) nx i = (ki7 o) nx i) ∧ ∀ nx1 : HL TB.den kbu.hs → Prop, ((True ∧ (True ∧ True)) ∧ ((True ∧ ((True ∧ True) ∧ True)) ∧ True)))) ∧ (True ∧ True)))) (by kernel_rfl) ⟨trivial, ⟨⟨trivial, ⟨fun _ _ => rfl, fun _ => ⟨⟨trivial, ⟨trivial, trivial⟩⟩, ⟨⟨trivial, ⟨⟨trivial, trivial⟩, trivial⟩⟩, trivial⟩⟩⟩⟩, ⟨trivial, trivial⟩⟩⟩
set_option maxRecDepth 100000 in
theorem k195 {x : k125} {o : kbn} (h : kp6 x o) : SoundH Try.prog k46.f ((k46.args idf x).map (er TB)) ((k46.obs idf x).map (erO TB)) (er TB (k46.val idf o)) ((k46.ops idf o).map (erO TB)) :=
  Con.soundH (c := k46) (C := k8x) TBok ⟨inf_ok, all_nil, all_nil⟩ mix Try.func16 (show Try.f16.body = some kfm by kernel_rfl) (show Try.f16.ntmps = 20 by kernel_rfl) (show Try.f16.results.toList = kir by kernel_rfl) rfl h (k1a2 o)
set_option maxRecDepth 100000 in
theorem k1av {p0 : List TMessage} {r0 : Bool} (h :
(Md.Loop (p0, (0 : Int), ()) (ki7 (r0, ())))) : kp6 (p0, ()) (r0, ()) := WPh.of_eq (by kernel_rfl) h
def k10z (r0 : Bool) (k1 : Int → Prop) (s0 : List TMessage) (s3 : Int) : Prop :=
(decide (s3 < (s0.length : Int)) = true →
(0 ≤ s3) ∧ s3 < (s0.length : Int) ∧ let v1 : Bool := decide (40 < (((ix s0 s3).L).length : Int))
(v1 = true →
 false = r0) ∧
(v1 = false →
 k1 (IntKind.i64.wrap (s3 + 1) : Int))) ∧
(decide (s3 < (s0.length : Int)) = false →
 decide ((s0.length : Int) ≤ 20) = r0)
set_option maxRecDepth 100000 in
theorem k19m {r0 : Bool} {s0 : List TMessage} {s3 : Int} (inv : Int → Prop) (μ : Int → Nat) (h0 : inv s3) (hs : ∀ (s3 : Int), inv s3 → k10z r0 (fun s3q => inv s3q ∧ μ s3q < μ s3) s0 s3) : Md.Loop (s0, s3, ()) (ki7 (r0, ())) :=
  ⟨⟨fun s : (List TMessage) × Int × Unit => (s.1 = s0) ∧ inv s.2.1, fun s : (List TMessage) × Int × Unit => μ s.2.1, ⟨rfl, h0⟩, fun (s0p, s3p, ()) ⟨eq0, hi⟩ => by
    have eq0 : s0p = s0 := eq0; subst s0p; exact mpr_of (by kernel_rfl) ((congrArg (fun k => k10z r0 k s0 s3p) (lpk1 (rfl : s0 = s0) inv (fun s3q => μ s3q < μ s3p))).mpr (hs s3p hi))⟩⟩
theorem bd16 : Callable Try.prog 16 := ⟨by rw [Try.func16]; kernel_rfl, by rw [Try.func16]; show some _ ≠ some _; decide⟩
theorem k17o (p0 : List TMessage) (h : p0.length ≤ 9223372036854775807) : kp6 (p0, ()) (((decide (p0.length ≤ 20) && p0.all (fun m => decide (m.L.length ≤ 40))) : Bool), ()) := by
  refine k1av (k19m (AllI (fun m => decide (m.L.length ≤ 40)) p0) (fun i => (p0.length - i).toNat) AllI.start ?_)
  intro i hi
  refine ⟨fun hh => ?_, fun hh => ?_⟩
  · have hh := of_decide_eq_true hh
    refine ⟨hi.1, hh, ?_⟩
    try dsimp only
    refine ⟨fun e => ?_, fun e => ?_⟩
    · have e := of_decide_eq_true e
      rw [hi.bad hh (decide_eq_false (by omega)), Bool.and_false]
    · have e := of_decide_eq_false e
      exact hi.next hh (by omega) (decide_eq_true (by omega))
  · have hh := of_decide_eq_false hh
    rw [hi.done hh, Bool.and_true]
    congr 1
    exact propext ⟨fun h => by omega, fun h => by omega⟩
noncomputable def kyh : Con TB.den := k46.fnR (fun x => (fun (p0 : List TMessage) => p0.length ≤ 9223372036854775807) x.1) fun x => ((fun (p0 : List TMessage) => ((decide (p0.length ≤ 20) && p0.all (fun m => decide (m.L.length ≤ 40))) : Bool)) x.1, ())
theorem k1bi : kyh.Ok Try.prog TB := Con.ok_fn k46 bd16 fun x h => k195 (k17o x.1 h)
end Go.Proofs.Ytponaobpcdkggaa
namespace Go.Proofs.Ytponaobpcdkggaa
open Go Go.Bv Go.Cv Go.Md Go.RowKit
def k1u : Con TB.den := Con.mk0 6 [.one (.d (.int .u64)), .one (.d (.sl (.st 0))), .one (.d (.sl (.st 0)))] [] (.one (.one (.d (.bool)))) []
abbrev kmf := HL TB.den (hsT k1u.ins (hsOs k1u.pre))
abbrev k51 := HL TB.den (hsV k1u.res (hsOs k1u.post))
noncomputable def k3w : Cx TB := ⟨inf, [kkd, kyi, kyh, kv5, kt6, kya, klh], [], 4, []⟩
noncomputable def k6y : Code := Try.f6.body.getD .skip
noncomputable def k7p : List ResultVar := Try.f6.results.toList
noncomputable def kvp (o : k51) : Exit → TSt TB.den → Prop := thenT TB (fun s => ghs TB [] s fun s => WP TB k3w 82 0 (cB (cB (cB k6y))) .no s (retTQ TB k3w k1u k7p o)) (retTQ TB k3w k1u k7p o)
def k97 : Tm := ⟨[0, 1, 2, 3, 4], [.cells [.d (.bool), .d (.int .u64), .d (.int .i64), .own 1, .mp 2, .mp 3, .mp 4], .tip (.st 1), .map (.str) (.int .i64), .map (.str) (.sl (.int .u64)), .map (.str) (.bool)], [0, 1, 2, 7, 50], [.one (.d (.int .u64)), .one (.d (.sl (.st 0))), .one (.d (.sl (.st 0))), .one (.ptr 0 0), .one (.d (.bool))], 5⟩
noncomputable def kk1 (o : k51) (i : HL TB.den k97.hs) : Prop := ghs TB [] (k97.fill TB i) fun s => WP TB k3w 82 0 (cB (cA (cB (cB k6y)))) .no s (kvp o)
structure k2g (o : k51) (i : HL TB.den k97.hs) : Prop where
  h : kk1 o i
noncomputable def kvq (o : k51) : An TB := .jn k97 (k2g o) [] .no [] .no
noncomputable def kl8 (o : k51) : An TB := .nd [] .no [] (.nd [] .no [] (.nd [] (kvq o) [] .no))
noncomputable def kca (x : kmf) (o : k51) : Prop := WPh TB k3w 82 0 k6y (kl8 o) (k1u.st TB x) (retTQ TB k3w k1u k7p o)
set_option maxRecDepth 100000 in
theorem kts (o : k51) : OblH TB k3w 82 0 k6y (kl8 o) (retTQ TB k3w k1u k7p o) :=
  OblH.of_eq (X := (True ∧ (True ∧ ((True ∧ (∀ i, (k2g o) i = (kk1 o) i) ∧ ((True ∧ True) ∧ True)) ∧ (True ∧ ((True ∧ ((True ∧ True) ∧ True)) ∧ (True ∧ (True ∧ True)))))))) (by kernel_rfl) ⟨trivial, ⟨trivial, ⟨⟨trivial, fun _ => propext ⟨fun h => h.1, fun h => ⟨h⟩⟩, ⟨⟨trivial, trivial⟩, trivial⟩⟩, ⟨trivial, ⟨⟨trivial, ⟨⟨trivial, trivial⟩, trivial⟩⟩, ⟨trivial, ⟨trivial, trivial⟩⟩⟩⟩⟩⟩⟩
set_option maxRecDepth 100000 in
theorem kty {x : kmf} {o : k51} (h : kca x o) : SoundH Try.prog k1u.f ((k1u.args idf x).map (er TB)) ((k1u.obs idf x).map (erO TB)) (er TB (k1u.val idf o)) ((k1u.ops idf o).map (erO TB)) :=
  Con.soundH (c := k1u) (C := k3w) TBok ⟨inf_ok, (all_cons ktl (all_cons k1bn (all_cons k1bi (all_cons k16r (all_cons k155 (all_cons k1bl (all_cons kw6 all_nil))))))), all_nil⟩ mix Try.func6 (show Try.f6.body = some k6y by kernel_rfl) (show Try.f6.ntmps = 82 by kernel_rfl) (show Try.f6.results.toList = k7p by kernel_rfl) rfl h (kts o)
set_option maxRecDepth 100000 in
theorem kv7 {p0 : Int} {p1 : List TMessage} {p2 : List TMessage} {r0 : Bool} (h :
(((!true) = true →
(([] : List TQuestion) = ([] : List TQuestion)) ∧ k2g (r0, ()) (p0, p1, p2, true, false, (0 : Int), (0 : Int), (([] : List TQuestion) : List TQuestion), ([] : List ByteArray), ([] : List Int), ([] : List ByteArray), ([] : List (List Int)), ([] : List ByteArray), ([] : List Bool), ())) ∧
((!true) = false →
(p1.length ≤ 9223372036854775807) ∧ let r1 : Bool := (decide (p1.length ≤ 20) && p1.all (fun m => decide (m.L.length ≤ 40)))
((!r1) = true →
(([] : List TQuestion) = ([] : List TQuestion)) ∧ k2g (r0, ()) (p0, p1, p2, true, false, (0 : Int), (0 : Int), (([] : List TQuestion) : List TQuestion), ([] : List ByteArray), ([] : List Int), ([] : List ByteArray), ([] : List (List Int)), ([] : List ByteArray), ([] : List Bool), ())) ∧
((!r1) = false →
(p2.length ≤ 9223372036854775807) ∧ let r2 : Bool := (decide (p2.length ≤ 20) && p2.all (fun m => decide (m.L.length ≤ 40)))
((!r2) = true →
(([] : List TQuestion) = ([] : List TQuestion)) ∧ k2g (r0, ()) (p0, p1, p2, true, false, (0 : Int), (0 : Int), (([] : List TQuestion) : List TQuestion), ([] : List ByteArray), ([] : List Int), ([] : List ByteArray), ([] : List (List Int)), ([] : List ByteArray), ([] : List Bool), ())) ∧
((!r2) = false →
(decide (18446744069414584321 ≤ p0) = true →
(([] : List TQuestion) = ([] : List TQuestion)) ∧ k2g (r0, ()) (p0, p1, p2, true, false, (0 : Int), (0 : Int), (([] : List TQuestion) : List TQuestion), ([] : List ByteArray), ([] : List Int), ([] : List ByteArray), ([] : List (List Int)), ([] : List ByteArray), ([] : List Bool), ())) ∧
(decide (18446744069414584321 ≤ p0) = false →
(((p1.length : Int) != (p2.length : Int)) = true →
(([] : List TQuestion) = ([] : List TQuestion)) ∧ k2g (r0, ()) (p0, p1, p2, true, false, (0 : Int), (0 : Int), (([] : List TQuestion) : List TQuestion), ([] : List ByteArray), ([] : List Int), ([] : List ByteArray), ([] : List (List Int)), ([] : List ByteArray), ([] : List Bool), ())) ∧
(((p1.length : Int) != (p2.length : Int)) = false →
(p1.length ≤ 9223372036854775807 ∧ ∀ m ∈ p1, m.L.length ≤ 9223372036854775807) ∧ let r3 : Bool := (p1.all (fun m => decide (m.Tag < 18446744069414584321) && allB m.L))
((!r3) = true →
(([] : List TQuestion) = ([] : List TQuestion)) ∧ k2g (r0, ()) (p0, p1, p2, true, false, (0 : Int), (0 : Int), (([] : List TQuestion) : List TQuestion), ([] : List ByteArray), ([] : List Int), ([] : List ByteArray), ([] : List (List Int)), ([] : List ByteArray), ([] : List Bool), ())) ∧
((!r3) = false →
(p2.length ≤ 9223372036854775807 ∧ ∀ m ∈ p2, m.L.length ≤ 9223372036854775807) ∧ let r4 : Bool := (p2.all (fun m => decide (m.Tag < 18446744069414584321) && allB m.L))
(([] : List TQuestion) = ([] : List TQuestion)) ∧ k2g (r0, ()) (p0, p1, p2, ((!r4) : Bool), false, (0 : Int), (0 : Int), (([] : List TQuestion) : List TQuestion), ([] : List ByteArray), ([] : List Int), ([] : List ByteArray), ([] : List (List Int)), ([] : List ByteArray), ([] : List Bool), ()))))))))) : kca (p0, p1, p2, ()) (r0, ()) := WPh.of_eq (by kernel_rfl) h
set_option maxRecDepth 100000 in
theorem krt {r0 : Bool} {s0 : Int} {s1 : List TMessage} {s2 : List TMessage} {s50 : Bool} {h0_0 : Bool} {h0_1 : Int} {h0_2 : Int} {g1 : List TQuestion} {g2k : List ByteArray} {g2v : List Int} {g3k : List ByteArray} {g3v : List (List Int)} {g4k : List ByteArray} {g4v : List Bool} (h :
((s50 = true →
(true = true →
 true = r0) ∧
(true = false →
 false = r0)) ∧
(s50 = false →
(g1 = g1) ∧ (U64 s0 ∧ ((∀ m ∈ s1, MR m) ∧ s1.length ≤ 1000) ∧ OOk (OS.mk h0_0 h0_1 h0_2 g1 g2k g2v g3k g3v g4k g4v) ∧ g1.length ≤ 900000) ∧ let r5 : Int := ((absO (OS.mk h0_0 h0_1 h0_2 g1 g2k g2v g3k g3v g4k g4v) (TTranscript.mk s0 0) s1).t).State
 let r6 : Int := ((absO (OS.mk h0_0 h0_1 h0_2 g1 g2k g2v g3k g3v g4k g4v) (TTranscript.mk s0 0) s1).t).Count
 let r7 : Bool := ((absO (OS.mk h0_0 h0_1 h0_2 g1 g2k g2v g3k g3v g4k g4v) (TTranscript.mk s0 0) s1).o.a)
 let r8 : Int := ((absO (OS.mk h0_0 h0_1 h0_2 g1 g2k g2v g3k g3v g4k g4v) (TTranscript.mk s0 0) s1).o.b)
 let r9 : Int := ((absO (OS.mk h0_0 h0_1 h0_2 g1 g2k g2v g3k g3v g4k g4v) (TTranscript.mk s0 0) s1).o.c)
 let r10 : List TQuestion := ((absO (OS.mk h0_0 h0_1 h0_2 g1 g2k g2v g3k g3v g4k g4v) (TTranscript.mk s0 0) s1).o.q)
 let r11 : List ByteArray := ((absO (OS.mk h0_0 h0_1 h0_2 g1 g2k g2v g3k g3v g4k g4v) (TTranscript.mk s0 0) s1).o.k)
 let r12 : List Int := ((absO (OS.mk h0_0 h0_1 h0_2 g1 g2k g2v g3k g3v g4k g4v) (TTranscript.mk s0 0) s1).o.v)
 let r13 : List ByteArray := ((absO (OS.mk h0_0 h0_1 h0_2 g1 g2k g2v g3k g3v g4k g4v) (TTranscript.mk s0 0) s1).o.s)
 let r14 : List (List Int) := ((absO (OS.mk h0_0 h0_1 h0_2 g1 g2k g2v g3k g3v g4k g4v) (TTranscript.mk s0 0) s1).o.t)
 let r15 : List ByteArray := ((absO (OS.mk h0_0 h0_1 h0_2 g1 g2k g2v g3k g3v g4k g4v) (TTranscript.mk s0 0) s1).o.x)
 let r16 : List Bool := ((absO (OS.mk h0_0 h0_1 h0_2 g1 g2k g2v g3k g3v g4k g4v) (TTranscript.mk s0 0) s1).o.y)
(r10 = r10) ∧ (U64 s0 ∧ ((∀ m ∈ s2, MR m) ∧ s2.length ≤ 1000) ∧ OOk (OS.mk r7 r8 r9 r10 r11 r12 r13 r14 r15 r16) ∧ r10.length ≤ 900000) ∧ let r17 : Int := ((absO (OS.mk r7 r8 r9 r10 r11 r12 r13 r14 r15 r16) (TTranscript.mk s0 0) s2).t).State
 let r18 : Int := ((absO (OS.mk r7 r8 r9 r10 r11 r12 r13 r14 r15 r16) (TTranscript.mk s0 0) s2).t).Count
 let r19 : Bool := ((absO (OS.mk r7 r8 r9 r10 r11 r12 r13 r14 r15 r16) (TTranscript.mk s0 0) s2).o.a)
 let r20 : Int := ((absO (OS.mk r7 r8 r9 r10 r11 r12 r13 r14 r15 r16) (TTranscript.mk s0 0) s2).o.b)
 let r21 : Int := ((absO (OS.mk r7 r8 r9 r10 r11 r12 r13 r14 r15 r16) (TTranscript.mk s0 0) s2).o.c)
 let r22 : List TQuestion := ((absO (OS.mk r7 r8 r9 r10 r11 r12 r13 r14 r15 r16) (TTranscript.mk s0 0) s2).o.q)
 let r23 : List ByteArray := ((absO (OS.mk r7 r8 r9 r10 r11 r12 r13 r14 r15 r16) (TTranscript.mk s0 0) s2).o.k)
 let r24 : List Int := ((absO (OS.mk r7 r8 r9 r10 r11 r12 r13 r14 r15 r16) (TTranscript.mk s0 0) s2).o.v)
 let r25 : List ByteArray := ((absO (OS.mk r7 r8 r9 r10 r11 r12 r13 r14 r15 r16) (TTranscript.mk s0 0) s2).o.s)
 let r26 : List (List Int) := ((absO (OS.mk r7 r8 r9 r10 r11 r12 r13 r14 r15 r16) (TTranscript.mk s0 0) s2).o.t)
 let r27 : List ByteArray := ((absO (OS.mk r7 r8 r9 r10 r11 r12 r13 r14 r15 r16) (TTranscript.mk s0 0) s2).o.x)
 let r28 : List Bool := ((absO (OS.mk r7 r8 r9 r10 r11 r12 r13 r14 r15 r16) (TTranscript.mk s0 0) s2).o.y)
(s1.length ≤ 9223372036854775807 ∧ ∀ m ∈ s1, m.L.length ≤ 9223372036854775807) ∧ ((decide (s1 = s2)) = true →
((r5 == r17) && ((r6 == r18) && true)) = r0) ∧
((decide (s1 = s2)) = false →
(r22 = r22) ∧ (r22.length ≤ 1000000 ∧ ∀ x ∈ r22, x.Elems.length ≤ 1000000000) ∧ let v29 : Bool := (!((r5 == r17) && ((r6 == r18) && true)))
(v29 = true →
 true = r0) ∧
(v29 = false →
((collF r22).f) = r0))))) : k2g (r0, ()) (s0, s1, s2, s50, h0_0, h0_1, h0_2, g1, g2k, g2v, g3k, g3v, g4k, g4v, ()) := ⟨mpr_of (by kernel_rfl) h⟩
theorem kso (p0 : Int) (p1 : List TMessage) (p2 : List TMessage) (h : U64 p0 ∧ ((∀ m ∈ p1, MU m) ∧ p1.length ≤ 9223372036854775807) ∧ (∀ m ∈ p2, MU m) ∧ p2.length ≤ 9223372036854775807) : kca (p0, p1, p2, ()) ((true : Bool), ()) := by
  obtain ⟨h0, ⟨hx, hxl⟩, hy, hyl⟩ := h
  have z : RR (OS.mk false 0 0 [] [] [] [] [] [] []) := RR.z
  have zo : OOk (OS.mk false 0 0 [] [] [] [] [] [] []) := OOk.z false 0
  have j1 : ∀ s, (s = false → (∀ m ∈ p1, MR m ∧ MB m) ∧ (∀ m ∈ p2, MR m ∧ MB m) ∧ p1.length ≤ 20 ∧ p2.length ≤ 20 ∧ p1.length = p2.length ∧ p0 < 18446744069414584321) → k2g (true, ()) (p0, p1, p2, s, false, (0 : Int), (0 : Int), ([] : List TQuestion), ([] : List ByteArray), ([] : List Int), ([] : List ByteArray), ([] : List (List Int)), ([] : List ByteArray), ([] : List Bool), ()) := by
    intro s hs
    refine krt ⟨fun _ => by simp, fun e => ?_⟩
    obtain ⟨q1, q2, q3, q4, q5, q6⟩ := hs e
    have m1 : ∀ m ∈ p1, MR m := fun m hm => (q1 m hm).1
    have m2 : ∀ m ∈ p2, MR m := fun m hm => (q2 m hm).1
    obtain ⟨k1, k2, k3, k4, k5⟩ := abs_ref p1 _ ⟨p0, 0⟩ z h0 m1
    obtain ⟨k6, k7⟩ := absO_ok p1 _ ⟨p0, 0⟩ zo m1 (by show 0 + _ ≤ _; omega)
    refine ⟨(by first | exact rfl | exact True.intro), ⟨h0, ⟨m1, by omega⟩, zo, by decide⟩, ?_⟩
    dsimp only
    generalize absO (OS.mk false 0 0 [] [] [] [] [] [] []) ⟨p0, 0⟩ p1 = A at *
    have k7 : A.o.q.length ≤ p1.length := Nat.le_trans k7 (by show 0 + _ ≤ _; omega)
    have e1 : A.t.State = refS p0 p1 := k1.trans (refA_s _ _ _)
    have e2 : A.o.q = (refA p0 [] p1).q := k2
    have e3 : A.t.Count = 0 := by rcases k4 with k4 | k4; rw [k4]; exact k4
    obtain ⟨n1, n2, n3, n4, n5⟩ := abs_ref p2 A.o ⟨p0, 0⟩ k3 h0 m2
    obtain ⟨n6, n7⟩ := absO_ok p2 A.o ⟨p0, 0⟩ k6 m2 (by omega)
    simp only [OS_eta]
    refine ⟨(by first | exact rfl | exact True.intro), ⟨h0, ⟨m2, by omega⟩, k6, by omega⟩, ?_⟩
    generalize absO A.o ⟨p0, 0⟩ p2 = B at *
    have e4 : B.t.State = refS p0 p2 := n1.trans (refA_s _ _ _)
    have e5 : B.o.q = (refA p0 A.o.q p2).q := n2
    have e6 : B.t.Count = 0 := by rcases n4 with n4 | n4; rw [n4]; exact n4
    rw [e1, e3, e4, e6]
    refine ⟨⟨by omega, fun m hm => by have := (m1 m hm).n; omega⟩, fun e7 => ?_, fun e7 => ⟨(by first | exact rfl | exact True.intro), ⟨n6.q, n6.e⟩, ?_⟩⟩
    · have e7 : p1 = p2 := of_decide_eq_true e7
      rw [e7]; simp
    · have e7 : ¬ p1 = p2 := of_decide_eq_false e7
      refine ⟨fun _ => by simp, fun e8 => ?_⟩
      have e8 : refS p0 p1 = refS p0 p2 := by simpa using e8
      obtain ⟨a, b, c1, c2, c3, c4⟩ := k1bm p1 p2 p0 p0 q5 e8 (.inr e7)
      obtain ⟨d1, x, d2, d3, d4⟩ := k12y p1 p0 [] q6 (fun m hm => (q1 m hm).2) a c3
      obtain ⟨f1, y, f2, f3, f4⟩ := k12y p2 p0 A.o.q q6 (fun m hm => (q2 m hm).2) b c4
      rw [← e2] at d2
      have d2 := k14m p2 p0 A.o.q x d2
      rw [← e5] at d2 f2
      refine k1f5 d2 f2 (fun e => c1 (by rw [← d4, ← f4, e])) ?_
      rw [n3.n x d2, n3.n y f2, d3, d4, f3, f4]
      unfold valH at c2
      rw [if_pos d1, if_pos f1] at c2
      exact c2
  have bad : ∀ s, s = true → k2g (true, ()) (p0, p1, p2, s, false, (0 : Int), (0 : Int), ([] : List TQuestion), ([] : List ByteArray), ([] : List Int), ([] : List ByteArray), ([] : List (List Int)), ([] : List ByteArray), ([] : List Bool), ()) := fun s h => j1 s fun h2 => by rw [h] at h2; cases h2
  refine kv7 ⟨fun h => by simp at h, fun _ => ⟨hxl, ?_⟩⟩
  dsimp only
  refine ⟨fun _ => ⟨rfl, bad _ rfl⟩, fun s1 => ⟨hyl, ?_⟩⟩
  have s1 : p1.length ≤ 20 ∧ ∀ m ∈ p1, m.L.length ≤ 40 := by simpa using s1
  refine ⟨fun _ => ⟨rfl, bad _ rfl⟩, fun s2 => ?_⟩
  have s2 : p2.length ≤ 20 ∧ ∀ m ∈ p2, m.L.length ≤ 40 := by simpa using s2
  refine ⟨fun _ => ⟨rfl, bad _ rfl⟩, fun s3 => ⟨fun _ => ⟨rfl, bad _ rfl⟩, fun s4 => ⟨⟨by omega, fun m hm => by have := s1.2 m hm; omega⟩, fun _ => ⟨rfl, bad _ rfl⟩, fun s5 => ⟨⟨by omega, fun m hm => by have := s2.2 m hm; omega⟩, rfl, j1 _ fun s6 => ?_⟩⟩⟩⟩
  have s3 := of_decide_eq_false s3
  have s4 : (p1.length : Int) = p2.length := by simpa using s4
  have s5 : ∀ m ∈ p1, m.Tag < 18446744069414584321 ∧ allB m.L = true := by simpa using s5
  have s6 : ∀ m ∈ p2, m.Tag < 18446744069414584321 ∧ allB m.L = true := by simpa using s6
  exact ⟨fun m hm => ⟨⟨(hx m hm).t, (hx m hm).l, by have := s1.2 m hm; omega⟩, (s5 m hm).1, (s5 m hm).2⟩, fun m hm => ⟨⟨(hy m hm).t, (hy m hm).l, by have := s2.2 m hm; omega⟩, (s6 m hm).1, (s6 m hm).2⟩, s1.1, s2.1, by omega, by omega⟩
end Go.Proofs.Ytponaobpcdkggaa
