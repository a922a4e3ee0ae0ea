/-
  Parts of the proofs that the laws of this seat hold of every input, merged by a program: a machine over pure data that is sound for the model, what each function of the translation does in it, and plain lemmas. No conditions but those in each theorem.
-/
import Derived.Test.YtponaobpcdkggaaA4
set_option linter.all false
namespace Go.Proofs.Ytponaobpcdkggaa
open Go Go.Bv Go.Cv Go.Md Go.RowKit
def k1m : Con TB.den := Con.mk0 43 [.one (.own 0), .one (.d (.int .u64))] [.tip (.int .u8)] (.one (.one (.own 0))) [.tip (.int .u8)]
abbrev kny := HL TB.den (hsT k1m.ins (hsOs k1m.pre))
abbrev k5e := HL TB.den (hsV k1m.res (hsOs k1m.post))
noncomputable def k44 : Cx TB := ⟨inf, [], [], 4, []⟩
noncomputable def k7n : Code := Try.f43.body.getD .skip
noncomputable def k8g : List ResultVar := Try.f43.results.toList
noncomputable def kxz (o : k5e) : Exit → TSt TB.den → Prop := thenT TB (fun s => ghs TB [] s fun s => WP TB k44 16 1 (cB (cB k7n)) .no s (retTQ TB k44 k1m k8g o)) (retTQ TB k44 k1m k8g o)
def k5z : Tm := ⟨[0], [.tip (.int .u8)], [0, 1, 5], [.one (.own 0), .one (.d (.int .u64)), .one (.d (.int .i64))], 1⟩
noncomputable def kyi (o : k5e) (nx1 : HL TB.den k5z.hs → Prop) : Exit → TSt TB.den → Prop := thenT TB (fun s => k5z.mat TB 1 s nx1) (blockT TB 0 (kxz o))
noncomputable def k8j (o : k5e) (nx1 : HL TB.den k5z.hs → Prop) (i : HL TB.den k5z.hs) : Prop := WP TB k44 16 1 (cA (cA (cB (cA (cB k7n))))) .no (k5z.fill TB i) (kyi o nx1)
noncomputable def kyk (o : k5e) : An TB := .lp [] k5z (k8j o) fun nx1 => .no
noncomputable def kmv (o : k5e) : An TB := .nd [] .no [] (.nd [] (.nd [] .no [] (kyk o)) [] .no)
noncomputable def kd5 (x : kny) (o : k5e) : Prop := WPh TB k44 16 1 k7n (kmv o) (k1m.st TB x) (retTQ TB k44 k1m k8g o)
set_option maxRecDepth 100000 in
theorem kwp (o : k5e) : OblH TB k44 16 1 k7n (kmv o) (retTQ TB k44 k1m k8g o) :=
  OblH.of_eq (X := (True ∧ ((True ∧ ((∀ nx i, (k8j o) nx i = (k8j o) nx i) ∧ ∀ nx1 : HL TB.den k5z.hs → Prop, (True ∧ ((True ∧ True) ∧ ((True ∧ True) ∧ True))))) ∧ (True ∧ True)))) (by kernel_rfl) ⟨trivial, ⟨⟨trivial, ⟨fun _ _ => rfl, fun _ => ⟨trivial, ⟨⟨trivial, trivial⟩, ⟨⟨trivial, trivial⟩, trivial⟩⟩⟩⟩⟩, ⟨trivial, trivial⟩⟩⟩
set_option maxRecDepth 100000 in
theorem kwr {x : kny} {o : k5e} (h : kd5 x o) : SoundH Try.prog k1m.f ((k1m.args idf x).map (er TB)) ((k1m.obs idf x).map (erO TB)) (er TB (k1m.val idf o)) ((k1m.ops idf o).map (erO TB)) :=
  Con.soundH (c := k1m) (C := k44) TBok ⟨inf_ok, all_nil, all_nil⟩ mix Try.func43 (show Try.f43.body = some k7n by kernel_rfl) (show Try.f43.ntmps = 16 by kernel_rfl) (show Try.f43.results.toList = k8g by kernel_rfl) rfl h (kwp o)
set_option maxRecDepth 100000 in
theorem ky9 {p1 : Int} {w0 : List Int} {e0 : List Int} (h :
((w0 = w0) ∧ Md.Loop (p1, (0 : Int), w0, ()) (k8j (e0, ())))) : kd5 (p1, w0, ()) (e0, ()) := WPh.of_eq (by kernel_rfl) h
def kmy (e0 : List Int) (k1 : Int → Int → List Int → Prop) (s1 : Int) (s5 : Int) (g0 : List Int) : Prop :=
(decide (s5 < 8) = true →
 g0.length = g0.length ∧ (g0.length + [IntKind.u8.wrap s1].length) * 1 ≤ 140737488355328 ∧ g0.length + [IntKind.u8.wrap s1].length ≤ maxLen ∧ (g0 ++ [IntKind.u8.wrap s1] = g0 ++ [IntKind.u8.wrap s1]) ∧ k1 (ishr .u64 s1 8 : Int) (IntKind.i64.wrap (s5 + 1) : Int) (g0 ++ [IntKind.u8.wrap s1] : List Int)) ∧
(decide (s5 < 8) = false →
(g0 = g0) ∧ g0 = e0)
set_option maxRecDepth 100000 in
theorem kwg {e0 : List Int} {s1 : Int} {s5 : Int} {g0 : List Int} (inv : Int → Int → List Int → Prop) (μ : Int → Int → List Int → Nat) (h0 : inv s1 s5 g0) (hs : ∀ (s1 : Int) (s5 : Int) (g0 : List Int), inv s1 s5 g0 → kmy e0 (fun s1q s5q g0q => inv s1q s5q g0q ∧ μ s1q s5q g0q < μ s1 s5 g0) s1 s5 g0) : Md.Loop (s1, s5, g0, ()) (k8j (e0, ())) :=
  ⟨⟨fun s : Int × Int × (List Int) × Unit => (True) ∧ inv s.1 s.2.1 s.2.2.1, fun s : Int × Int × (List Int) × Unit => μ s.1 s.2.1 s.2.2.1, ⟨trivial, h0⟩, fun (s1p, s5p, g0p, ()) ⟨_, hi⟩ => by
    exact mpr_of (by kernel_rfl) ((congrArg (fun k => kmy e0 k s1p s5p g0p) (lpk3 (trivial : True) inv (fun s1q s5q g0q => μ s1q s5q g0q < μ s1p s5p g0p))).mpr (hs s1p s5p g0p hi))⟩⟩
theorem bd43 : Callable Try.prog 43 := ⟨by rw [Try.func43]; kernel_rfl, by rw [Try.func43]; show some _ ≠ some _; decide⟩
theorem kv6 (p1 : Int) (w0 : List Int) (h : U64 p1 ∧ w0.length ≤ 137438953472) : kd5 (p1, w0, ()) (((w0 ++ dig 8 p1) : List Int), ()) := by
  obtain ⟨h1, h2⟩ := h
  refine ky9 ⟨rfl, kwg (fun n i g => 0 ≤ i ∧ i ≤ 8 ∧ U64 n ∧ n = p1 / 256 ^ i.toNat ∧ g = w0 ++ dig i.toNat p1) (fun _ i _ => (8 - i).toNat) ⟨by omega, by omega, h1, by simp, by simp [dig]⟩ ?_⟩
  rintro n i g ⟨g0, g1, g2, g3, rfl⟩
  refine ⟨fun h => ?_, fun h => ?_⟩
  · have h := of_decide_eq_true h
    rw [inc i 8 g0 h (by omega), ishr8, u8w]
    refine ⟨rfl, ?_, ?_, rfl, ⟨by omega, by omega, ⟨by omega, by omega⟩, ?_, ?_⟩, by omega⟩
    · simp; omega
    · simp; unfold maxLen; omega
    · rw [g3, show (i + 1).toNat = i.toNat + 1 by omega, Int.ediv_ediv_of_nonneg (Int.le_of_lt (k1hv _)), Int.pow_succ]
    · rw [show (i + 1).toNat = i.toNat + 1 by omega, k1db, List.append_assoc, g3]
  · have h := of_decide_eq_false h
    exact ⟨rfl, by rw [show i = 8 by omega]; rfl⟩
noncomputable def klf : Con TB.den := k1m.fnR (fun x => (fun (p1 : Int) (w0 : List Int) => U64 p1 ∧ w0.length ≤ 137438953472) x.1 x.2.1) fun x => ((fun (p1 : Int) (w0 : List Int) => ((w0 ++ dig 8 p1) : List Int)) x.1 x.2.1, ())
theorem kxy : klf.Ok Try.prog TB := Con.ok_fn k1m bd43 fun x h => kwr (kv6 x.1 x.2.1 h)
end Go.Proofs.Ytponaobpcdkggaa
namespace Go.Proofs.Ytponaobpcdkggaa
open Go Go.Bv Go.Cv Go.Md Go.RowKit
def k2y : Con TB.den := Con.mk0 34 [.one (.d (.sl (.int .u64))), .one (.d (.sl (.int .u64)))] [] (.one (.one (.d (.str)))) []
abbrev k13b := HL TB.den (hsT k2y.ins (hsOs k2y.pre))
abbrev k6b := HL TB.den (hsV k2y.res (hsOs k2y.post))
noncomputable def k5p : Cx TB := ⟨inf, [klf], [], 4, []⟩
noncomputable def k99 : Code := Try.f34.body.getD .skip
noncomputable def kbn : List ResultVar := Try.f34.results.toList
noncomputable def k1cm (o : k6b) : Exit → TSt TB.den → Prop := thenT TB (fun s => ghs TB [] s fun s => WP TB k5p 39 0 (cB (cB (cB (cB k99)))) .no s (retTQ TB k5p k2y kbn o)) (retTQ TB k5p k2y kbn o)
def kbm : Tm := ⟨[1], [.tip (.int .u8)], [5, 27, 28, 29], [.one (.own 0), .one (.d (.sl (.int .u64))), .one (.d (.int .i64)), .one (.d (.int .i64))], 2⟩
noncomputable def k1cp (o : k6b) (nx2 : HL TB.den kbm.hs → Prop) : Exit → TSt TB.den → Prop := thenT TB (fun s => kbm.mat TB 0 s nx2) (blockT TB 2 (k1cm o))
noncomputable def ki1 (o : k6b) (nx2 : HL TB.den kbm.hs → Prop) (i : HL TB.den kbm.hs) : Prop := WP TB k5p 39 0 (cA (cA (cB (cA (cB (cB (cB k99))))))) .no (kbm.fill TB i) (k1cp o nx2)
noncomputable def k11r (o : k6b) : An TB := .nd [] .no [] (.lp [] kbm (ki1 o) fun nx2 => .no)
noncomputable def k1c7 (o : k6b) : Exit → TSt TB.den → Prop := thenT TB (fun s => ghs TB [] s fun s => WP TB k5p 39 0 (cB (cB (cB k99))) (.nd [] (k11r o) [] .no) s (retTQ TB k5p k2y kbn o)) (retTQ TB k5p k2y kbn o)
def kbg : Tm := ⟨[1], [.tip (.int .u8)], [0, 5, 17, 18, 19], [.one (.d (.sl (.int .u64))), .one (.own 0), .one (.d (.sl (.int .u64))), .one (.d (.int .i64)), .one (.d (.int .i64))], 2⟩
noncomputable def k1cj (o : k6b) (nx1 : HL TB.den kbg.hs → Prop) : Exit → TSt TB.den → Prop := thenT TB (fun s => kbg.mat TB 0 s nx1) (blockT TB 0 (k1c7 o))
noncomputable def khq (o : k6b) (nx1 : HL TB.den kbg.hs → Prop) (i : HL TB.den kbg.hs) : Prop := WP TB k5p 39 0 (cA (cA (cB (cA (cB (cB k99)))))) .no (kbg.fill TB i) (k1cj o nx1)
noncomputable def k19i (o : k6b) : An TB := .lp [.frz 0 [5]] kbg (khq o) fun nx1 => .no
noncomputable def k1ak (o : k6b) : An TB := .nd [] (.nd [] .no [] (k19i o)) [] (.nd [] (k11r o) [] .no)
noncomputable def k118 (o : k6b) : An TB := .nd [] .no [] (.nd [] .no [] (k1ak o))
noncomputable def kp3 (x : k13b) (o : k6b) : Prop := WPh TB k5p 39 0 k99 (k118 o) (k2y.st TB x) (retTQ TB k5p k2y kbn o)
set_option maxRecDepth 100000 in
theorem k1a5 (o : k6b) : OblH TB k5p 39 0 k99 (k118 o) (retTQ TB k5p k2y kbn o) :=
  OblH.of_eq (X := (True ∧ (True ∧ ((True ∧ ((∀ nx i, (khq o) nx i = (khq o) nx i) ∧ ∀ nx1 : HL TB.den kbg.hs → Prop, (True ∧ ((True ∧ True) ∧ ((True ∧ True) ∧ True))))) ∧ ((True ∧ ((∀ nx i, (ki1 o) nx i = (ki1 o) nx i) ∧ ∀ nx2 : HL TB.den kbm.hs → Prop, (True ∧ ((True ∧ True) ∧ ((True ∧ True) ∧ True))))) ∧ (True ∧ True)))))) (by kernel_rfl) ⟨trivial, ⟨trivial, ⟨⟨trivial, ⟨fun _ _ => rfl, fun _ => ⟨trivial, ⟨⟨trivial, trivial⟩, ⟨⟨trivial, trivial⟩, trivial⟩⟩⟩⟩⟩, ⟨⟨trivial, ⟨fun _ _ => rfl, fun _ => ⟨trivial, ⟨⟨trivial, trivial⟩, ⟨⟨trivial, trivial⟩, trivial⟩⟩⟩⟩⟩, ⟨trivial, trivial⟩⟩⟩⟩⟩
set_option maxRecDepth 100000 in
theorem k1a4 {x : k13b} {o : k6b} (h : kp3 x o) : SoundH Try.prog k2y.f ((k2y.args idf x).map (er TB)) ((k2y.obs idf x).map (erO TB)) (er TB (k2y.val idf o)) ((k2y.ops idf o).map (erO TB)) :=
  Con.soundH (c := k2y) (C := k5p) TBok ⟨inf_ok, (all_cons kxy all_nil), all_nil⟩ mix Try.func34 (show Try.f34.body = some k99 by kernel_rfl) (show Try.f34.ntmps = 39 by kernel_rfl) (show Try.f34.results.toList = kbn by kernel_rfl) rfl h (k1a5 o)
set_option maxRecDepth 100000 in
theorem k1cg {p0 : List Int} {p1 : List Int} {r0 : ByteArray} (h :
(let v1 : Int := IntKind.i64.wrap ((p1.length : Int) + (p0.length : Int))
 0 ≤ (0 : Int) ∧ (0 : Int) ≤ IntKind.i64.wrap (8 * v1) ∧ ((IntKind.i64.wrap (8 * v1)).toNat * 1 ≤ 140737488355328) ∧ ((IntKind.i64.wrap (8 * v1)).toNat ≤ maxLen) ∧ (0 = (List.replicate 0 (0 : Int)).length) ∧ (List.replicate 0 (0 : Int) = List.replicate 0 (0 : Int)) ∧ Md.Loop (p0, p1, ((p1.length : Int) : Int), (0 : Int), (List.replicate 0 (0 : Int) : List Int), ()) (khq (r0, ())))) : kp3 (p0, p1, ()) (r0, ()) := WPh.of_eq (by kernel_rfl) h
def k114 (r0 : ByteArray) (k1 : Int → List Int → Prop) (s0 : List Int) (s17 : List Int) (s18 : Int) (s19 : Int) (g1 : List Int) : Prop :=
(decide (s19 < s18) = true →
(0 ≤ s19) ∧ s19 < (s17.length : Int) ∧ (g1 = g1) ∧ (U64 (ix s17 s19) ∧ g1.length ≤ 137438953472) ∧ ((g1 ++ dig 8 (ix s17 s19)) = (g1 ++ dig 8 (ix s17 s19))) ∧ k1 (IntKind.i64.wrap (s19 + 1) : Int) ((g1 ++ dig 8 (ix s17 s19)) : List Int)) ∧
(decide (s19 < s18) = false →
(g1 = g1) ∧ Md.Loop (s0, ((s0.length : Int) : Int), (0 : Int), g1, ()) (ki1 (r0, ())))
set_option maxRecDepth 100000 in
theorem k1ae {r0 : ByteArray} {s0 : List Int} {s17 : List Int} {s18 : Int} {s19 : Int} {g1 : List Int} (inv : Int → List Int → Prop) (μ : Int → List Int → Nat) (h0 : inv s19 g1) (hs : ∀ (s19 : Int) (g1 : List Int), inv s19 g1 → k114 r0 (fun s19q g1q => inv s19q g1q ∧ μ s19q g1q < μ s19 g1) s0 s17 s18 s19 g1) : Md.Loop (s0, s17, s18, s19, g1, ()) (khq (r0, ())) :=
  ⟨⟨fun s : (List Int) × (List Int) × Int × Int × (List Int) × Unit => (s.1 = s0 ∧ s.2.1 = s17 ∧ s.2.2.1 = s18) ∧ inv s.2.2.2.1 s.2.2.2.2.1, fun s : (List Int) × (List Int) × Int × Int × (List Int) × Unit => μ s.2.2.2.1 s.2.2.2.2.1, ⟨⟨rfl, rfl, rfl⟩, h0⟩, fun (s0p, s17p, s18p, s19p, g1p, ()) ⟨⟨eq0, eq1, eq2⟩, hi⟩ => by
    have eq0 : s0p = s0 := eq0; subst s0p; have eq1 : s17p = s17 := eq1; subst s17p; have eq2 : s18p = s18 := eq2; subst s18p; exact mpr_of (by kernel_rfl) ((congrArg (fun k => k114 r0 k s0 s17 s18 s19p g1p) (lpk2 (⟨rfl, rfl, rfl⟩ : s0 = s0 ∧ s17 = s17 ∧ s18 = s18) inv (fun s19q g1q => μ s19q g1q < μ s19p g1p))).mpr (hs s19p g1p hi))⟩⟩
def k110 (r0 : ByteArray) (k2 : Int → List Int → Prop) (s27 : List Int) (s28 : Int) (s29 : Int) (g1 : List Int) : Prop :=
(decide (s29 < s28) = true →
(0 ≤ s29) ∧ s29 < (s27.length : Int) ∧ (g1 = g1) ∧ (U64 (ix s27 s29) ∧ g1.length ≤ 137438953472) ∧ ((g1 ++ dig 8 (ix s27 s29)) = (g1 ++ dig 8 (ix s27 s29))) ∧ k2 (IntKind.i64.wrap (s29 + 1) : Int) ((g1 ++ dig 8 (ix s27 s29)) : List Int)) ∧
(decide (s29 < s28) = false →
 strOfNums g1 = r0)
set_option maxRecDepth 100000 in
theorem k1ac {r0 : ByteArray} {s27 : List Int} {s28 : Int} {s29 : Int} {g1 : List Int} (inv : Int → List Int → Prop) (μ : Int → List Int → Nat) (h0 : inv s29 g1) (hs : ∀ (s29 : Int) (g1 : List Int), inv s29 g1 → k110 r0 (fun s29q g1q => inv s29q g1q ∧ μ s29q g1q < μ s29 g1) s27 s28 s29 g1) : Md.Loop (s27, s28, s29, g1, ()) (ki1 (r0, ())) :=
  ⟨⟨fun s : (List Int) × Int × Int × (List Int) × Unit => (s.1 = s27 ∧ s.2.1 = s28) ∧ inv s.2.2.1 s.2.2.2.1, fun s : (List Int) × Int × Int × (List Int) × Unit => μ s.2.2.1 s.2.2.2.1, ⟨⟨rfl, rfl⟩, h0⟩, fun (s27p, s28p, s29p, g1p, ()) ⟨⟨eq0, eq1⟩, hi⟩ => by
    have eq0 : s27p = s27 := eq0; subst s27p; have eq1 : s28p = s28 := eq1; subst s28p; exact mpr_of (by kernel_rfl) ((congrArg (fun k => k110 r0 k s27 s28 s29p g1p) (lpk2 (⟨rfl, rfl⟩ : s27 = s27 ∧ s28 = s28) inv (fun s29q g1q => μ s29q g1q < μ s29p g1p))).mpr (hs s29p g1p hi))⟩⟩
theorem bd34 : Callable Try.prog 34 := ⟨by rw [Try.func34]; kernel_rfl, by rw [Try.func34]; show some _ ≠ some _; decide⟩
theorem k18g (p0 : List Int) (p1 : List Int) (h : Us p0 ∧ Us p1 ∧ p0.length ≤ 1073741824 ∧ p1.length ≤ 1073741824) : kp3 (p0, p1, ()) (((keyB p1 p0) : ByteArray), ()) := by
  obtain ⟨h0, h1, h2, h3⟩ := h
  refine k1cg ?_
  rw [wi ((p1.length : Int) + p0.length) (by omega) (by omega)]
  simp only []
  rw [wi (8 * ((p1.length : Int) + p0.length)) (by omega) (by omega)]
  refine ⟨by omega, by omega, by omega, by unfold maxLen; omega, by trivial, by trivial, ?_⟩
  refine k1ae (fun i g => FlatI (dig 8) [] p1 i g) (fun i _ => (p1.length - i).toNat) FlatI.start ?_
  intro i g hg
  have hl := hg.len 8 (fun x _ => by simp)
  refine ⟨fun hh => ?_, fun hh => ?_⟩
  · have hh := of_decide_eq_true hh
    exact ⟨hg.1, hh, rfl, ⟨h1 _ (ix_mem p1 i hg.1 hh), by simp at hl; omega⟩, by trivial, hg.next hh (by omega) rfl⟩
  · have hh := of_decide_eq_false hh
    have e := hg.done hh
    refine ⟨rfl, k1ac (fun j g => FlatI (dig 8) (p1.flatMap (dig 8)) p0 j g) (fun j _ => (p0.length - j).toNat) (by rw [e]; exact FlatI.start) ?_⟩
    intro j g2 hg2
    have hl2 := hg2.len 8 (fun x _ => by simp)
    have hl3 := k13k p1
    refine ⟨fun hh2 => ?_, fun hh2 => ?_⟩
    · have hh2 := of_decide_eq_true hh2
      exact ⟨hg2.1, hh2, rfl, ⟨h0 _ (ix_mem p0 j hg2.1 hh2), by omega⟩, by trivial, hg2.next hh2 (by omega) rfl⟩
    · rw [hg2.done (of_decide_eq_false hh2)]; rfl
noncomputable def kz4 : Con TB.den := k2y.fnR (fun x => (fun (p0 : List Int) (p1 : List Int) => Us p0 ∧ Us p1 ∧ p0.length ≤ 1073741824 ∧ p1.length ≤ 1073741824) x.1 x.2.1) fun x => ((fun (p0 : List Int) (p1 : List Int) => ((keyB p1 p0) : ByteArray)) x.1 x.2.1, ())
theorem k1co : kz4.Ok Try.prog TB := Con.ok_fn k2y bd34 fun x h => k1a4 (k18g x.1 x.2.1 h)
end Go.Proofs.Ytponaobpcdkggaa
namespace Go.Proofs.Ytponaobpcdkggaa
open Go Go.Bv Go.Cv Go.Md Go.RowKit
def k3y : Con TB.den := Con.mk0 44 [.agg [.d (.int .u64)]] [] (.one (.one (.d (.bool)))) []
abbrev k11d := HL TB.den (hsT k3y.ins (hsOs k3y.pre))
abbrev kn7 := HL TB.den (hsV k3y.res (hsOs k3y.post))
noncomputable def kgr : Cx TB := ⟨inf, [], [], 4, []⟩
noncomputable def knl : Code := Try.f44.body.getD .skip
noncomputable def kqp : List ResultVar := Try.f44.results.toList
noncomputable def kzk (o : kn7) : An TB := .no
noncomputable def knu (x : k11d) (o : kn7) : Prop := WPh TB kgr 13 0 knl (kzk o) (k3y.st TB x) (retTQ TB kgr k3y kqp o)
set_option maxRecDepth 100000 in
theorem k18f (o : kn7) : OblH TB kgr 13 0 knl (kzk o) (retTQ TB kgr k3y kqp o) :=
  OblH.of_eq (X := (True ∧ ((True ∧ ((True ∧ (True ∧ (True ∧ (True ∧ (True ∧ (True ∧ (True ∧ (True ∧ (True ∧ (True ∧ (True ∧ (True ∧ True)))))))))))) ∧ ((True ∧ True) ∧ True))) ∧ (True ∧ True)))) (by kernel_rfl) ⟨trivial, ⟨⟨trivial, ⟨⟨trivial, ⟨trivial, ⟨trivial, ⟨trivial, ⟨trivial, ⟨trivial, ⟨trivial, ⟨trivial, ⟨trivial, ⟨trivial, ⟨trivial, ⟨trivial, trivial⟩⟩⟩⟩⟩⟩⟩⟩⟩⟩⟩⟩, ⟨⟨trivial, trivial⟩, trivial⟩⟩⟩, ⟨trivial, trivial⟩⟩⟩
set_option maxRecDepth 100000 in
theorem k18v {x : k11d} {o : kn7} (h : knu x o) : SoundH Try.prog k3y.f ((k3y.args idf x).map (er TB)) ((k3y.obs idf x).map (erO TB)) (er TB (k3y.val idf o)) ((k3y.ops idf o).map (erO TB)) :=
  Con.soundH (c := k3y) (C := kgr) TBok ⟨inf_ok, all_nil, all_nil⟩ mix Try.func44 (show Try.f44.body = some knl by kernel_rfl) (show Try.f44.ntmps = 13 by kernel_rfl) (show Try.f44.results.toList = kqp by kernel_rfl) rfl h (k18f o)
set_option maxRecDepth 100000 in
theorem k1aj {p0 : TField} {r0 : Bool} (h :
(((p0.P == 18446744069414584321) = true →
((p0.P == 18446744069414584321) = true →
 true = r0) ∧
((p0.P == 18446744069414584321) = false →
 false = r0)) ∧
((p0.P == 18446744069414584321) = false →
((p0.P == 17) = true →
((p0.P == 17) = true →
 true = r0) ∧
((p0.P == 17) = false →
 false = r0)) ∧
((p0.P == 17) = false →
((p0.P == 97) = true →
((p0.P == 97) = true →
 true = r0) ∧
((p0.P == 97) = false →
 false = r0)) ∧
((p0.P == 97) = false →
((p0.P == 193) = true →
((p0.P == 193) = true →
 true = r0) ∧
((p0.P == 193) = false →
 false = r0)) ∧
((p0.P == 193) = false →
((p0.P == 257) = true →
((p0.P == 257) = true →
 true = r0) ∧
((p0.P == 257) = false →
 false = r0)) ∧
((p0.P == 257) = false →
((p0.P == 12289) = true →
((p0.P == 12289) = true →
 true = r0) ∧
((p0.P == 12289) = false →
 false = r0)) ∧
((p0.P == 12289) = false →
((p0.P == 65537) = true →
 true = r0) ∧
((p0.P == 65537) = false →
 false = r0))))))))) : knu (p0.P, ()) (r0, ()) := WPh.of_eq (by kernel_rfl) h
theorem bd44 : Callable Try.prog 44 := ⟨by rw [Try.func44]; kernel_rfl, by rw [Try.func44]; show some _ ≠ some _; decide⟩
theorem k172 (p0 : TField) (h : p0.P = 18446744069414584321) : knu (p0.P, ()) ((true : Bool), ()) := by
  refine k1aj ?_
  simp [h]
noncomputable def k9h : Con TB.den := k3y.fnR (fun x => (fun (p0 : TField) => p0.P = 18446744069414584321) (TField.mk x.1)) fun x => ((fun (p0 : TField) => (true : Bool)) (TField.mk x.1), ())
theorem kcr : k9h.Ok Try.prog TB := Con.ok_fn k3y bd44 fun x h => k18v (k172 (TField.mk x.1) h)
end Go.Proofs.Ytponaobpcdkggaa
namespace Go.Proofs.Ytponaobpcdkggaa
open Go Go.Bv Go.Cv Go.Md Go.RowKit
def k4g : Con TB.den := Con.mk0 72 [.agg [.d (.int .u64)], .one (.d (.int .u64)), .one (.d (.int .u64))] [] (.one (.one (.d (.int .u64)))) []
abbrev k150 := HL TB.den (hsT k4g.ins (hsOs k4g.pre))
abbrev kck := HL TB.den (hsV k4g.res (hsOs k4g.post))
noncomputable def k9a : Cx TB := ⟨inf, [], [x87], 4, []⟩
noncomputable def kg5 : Code := Try.f72.body.getD .skip
noncomputable def kj6 : List ResultVar := Try.f72.results.toList
noncomputable def k1du (o : kck) : Exit → TSt TB.den → Prop := thenT TB (fun s => ghs TB [] s fun s => WP TB k9a 28 0 (cB (cB (cB kg5))) .no s (retTQ TB k9a k4g kj6 o)) (retTQ TB k9a k4g kj6 o)
def kn6 : Tm := ⟨[0], [.cells [.d (.int .u64)]], [3, 7, 22], [.one (.ptr 0 0), .one (.d (.int .u64)), .one (.d (.bool))], 1⟩
noncomputable def k10q (o : kck) (i : HL TB.den kn6.hs) : Prop := ghs TB [] (kn6.fill TB i) fun s => WP TB k9a 28 0 (cB (cA (cB (cB kg5)))) .no s (k1du o)
structure kjh (o : kck) (i : HL TB.den kn6.hs) : Prop where
  h : k10q o i
noncomputable def k1f1 (o : kck) : An TB := .nd [] (.jn kn6 (kjh o) [] .no [] .no) [] .no
noncomputable def k13u (o : kck) : An TB := .nd [] .no [] (.nd [] .no [] (k1f1 o))
noncomputable def kr6 (x : k150) (o : kck) : Prop := WPh TB k9a 28 0 kg5 (k13u o) (k4g.st TB x) (retTQ TB k9a k4g kj6 o)
set_option maxRecDepth 100000 in
theorem k1cb (o : kck) : OblH TB k9a 28 0 kg5 (k13u o) (retTQ TB k9a k4g kj6 o) :=
  OblH.of_eq (X := (True ∧ (True ∧ ((True ∧ (∀ i, (kjh o) i = (k10q o) i) ∧ (True ∧ True)) ∧ (True ∧ True))))) (by kernel_rfl) ⟨trivial, ⟨trivial, ⟨⟨trivial, fun _ => propext ⟨fun h => h.1, fun h => ⟨h⟩⟩, ⟨trivial, trivial⟩⟩, ⟨trivial, trivial⟩⟩⟩⟩
set_option maxRecDepth 100000 in
theorem k1bt {x : k150} {o : kck} (h : kr6 x o) : SoundH Try.prog k4g.f ((k4g.args idf x).map (er TB)) ((k4g.obs idf x).map (erO TB)) (er TB (k4g.val idf o)) ((k4g.ops idf o).map (erO TB)) :=
  Con.soundH (c := k4g) (C := k9a) TBok ⟨inf_ok, all_nil, (all_cons x87_ok all_nil)⟩ mix Try.func72 (show Try.f72.body = some kg5 by kernel_rfl) (show Try.f72.ntmps = 28 by kernel_rfl) (show Try.f72.results.toList = kj6 by kernel_rfl) rfl h (k1cb o)
set_option maxRecDepth 100000 in
theorem k1f8 {p0 : TField} {p1 : Int} {p2 : Int} {r0 : Int} (h :
((0 ≤ p1 ∧ 0 ≤ p2 ∧ 0 ≤ (0 : Int) ∧ (0 : Int) ≤ 1) ∧ let r1 : Int := (p1 + p2 + (0 : Int)) % 18446744073709551616
 let r2 : Int := (p1 + p2 + (0 : Int)) / 18446744073709551616
((r2 != 0) = true →
 kjh (r0, ()) (r1, true, p0.P, ())) ∧
((r2 != 0) = false →
 kjh (r0, ()) (r1, (decide (p0.P ≤ r1) : Bool), p0.P, ())))) : kr6 (p0.P, p1, p2, ()) (r0, ()) := WPh.of_eq (by kernel_rfl) h
set_option maxRecDepth 100000 in
theorem kxi {r0 : Int} {s7 : Int} {s22 : Bool} {h0_0 : Int} (h :
((s22 = true →
 IntKind.u64.wrap (s7 - h0_0) = r0) ∧
(s22 = false →
 s7 = r0))) : kjh (r0, ()) (s7, s22, h0_0, ()) := ⟨mpr_of (by kernel_rfl) h⟩
theorem bd72 : Callable Try.prog 72 := ⟨by rw [Try.func72]; kernel_rfl, by rw [Try.func72]; show some _ ≠ some _; decide⟩
theorem k19o (p0 : TField) (p1 : Int) (p2 : Int) (h : p0.P = 18446744069414584321 ∧ (0 ≤ p1 ∧ p1 < 18446744069414584321) ∧ (0 ≤ p2 ∧ p2 < 18446744069414584321)) : kr6 (p0.P, p1, p2, ()) ((((p1 + p2) % 18446744069414584321) : Int), ()) := by
  obtain ⟨hP, h1, h2⟩ := h
  refine k1f8 ⟨by omega, ?_, ?_⟩
  · intro h
    refine kxi ⟨fun _ => ?_, fun h => by simp at h⟩
    have h : (p1 + p2 + 0) / 18446744073709551616 ≠ 0 := by simpa using h
    rw [hP, u64w]; omega
  · intro h
    have h : (p1 + p2 + 0) / 18446744073709551616 = 0 := by simpa using h
    refine kxi ⟨fun g => ?_, fun g => ?_⟩
    · have g := of_decide_eq_true g
      rw [hP] at g ⊢
      rw [u64w]; omega
    · have g := of_decide_eq_false g
      rw [hP] at g
      omega
noncomputable def k10v : Con TB.den := k4g.fnR (fun x => (fun (p0 : TField) (p1 : Int) (p2 : Int) => p0.P = 18446744069414584321 ∧ (0 ≤ p1 ∧ p1 < 18446744069414584321) ∧ (0 ≤ p2 ∧ p2 < 18446744069414584321)) (TField.mk x.1) x.2.1 x.2.2.1) fun x => ((fun (p0 : TField) (p1 : Int) (p2 : Int) => (((p1 + p2) % 18446744069414584321) : Int)) (TField.mk x.1) x.2.1 x.2.2.1, ())
theorem k1d7 : k10v.Ok Try.prog TB := Con.ok_fn k4g bd72 fun x h => k1bt (k19o (TField.mk x.1) x.2.1 x.2.2.1 h)
end Go.Proofs.Ytponaobpcdkggaa
namespace Go.Proofs.Ytponaobpcdkggaa
open Go Go.Bv Go.Cv Go.Md Go.RowKit
def k30 : Con TB.den := Con.mk0 73 [.agg [.d (.int .u64)], .one (.d (.int .u64))] [] (.one (.one (.d (.int .u64)))) []
abbrev kxh := HL TB.den (hsT k30.ins (hsOs k30.pre))
abbrev kih := HL TB.den (hsV k30.res (hsOs k30.post))
noncomputable def kd7 : Cx TB := ⟨inf, [], [], 4, []⟩
noncomputable def kj7 : Code := Try.f73.body.getD .skip
noncomputable def knf : List ResultVar := Try.f73.results.toList
noncomputable def kv9 (o : kih) : An TB := .no
noncomputable def kje (x : kxh) (o : kih) : Prop := WPh TB kd7 14 0 kj7 (kv9 o) (k30.st TB x) (retTQ TB kd7 k30 knf o)
set_option maxRecDepth 100000 in
theorem k143 (o : kih) : OblH TB kd7 14 0 kj7 (kv9 o) (retTQ TB kd7 k30 knf o) :=
  OblH.of_eq (X := (True ∧ ((True ∧ (True ∧ True)) ∧ (True ∧ True)))) (by kernel_rfl) ⟨trivial, ⟨⟨trivial, ⟨trivial, trivial⟩⟩, ⟨trivial, trivial⟩⟩⟩
set_option maxRecDepth 100000 in
theorem k145 {x : kxh} {o : kih} (h : kje x o) : SoundH Try.prog k30.f ((k30.args idf x).map (er TB)) ((k30.obs idf x).map (erO TB)) (er TB (k30.val idf o)) ((k30.ops idf o).map (erO TB)) :=
  Con.soundH (c := k30) (C := kd7) TBok ⟨inf_ok, all_nil, all_nil⟩ mix Try.func73 (show Try.f73.body = some kj7 by kernel_rfl) (show Try.f73.ntmps = 14 by kernel_rfl) (show Try.f73.results.toList = knf by kernel_rfl) rfl h (k143 o)
set_option maxRecDepth 100000 in
theorem k16a {p0 : TField} {p1 : Int} {r0 : Int} (h :
((decide (p0.P ≤ p1) = true →
(p0.P ≠ 0) ∧ Int.tmod p1 p0.P = r0) ∧
(decide (p0.P ≤ p1) = false →
 p1 = r0))) : kje (p0.P, p1, ()) (r0, ()) := WPh.of_eq (by kernel_rfl) h
theorem bd73 : Callable Try.prog 73 := ⟨by rw [Try.func73]; kernel_rfl, by rw [Try.func73]; show some _ ≠ some _; decide⟩
theorem k12o (p0 : TField) (p1 : Int) (h : 0 < p0.P ∧ 0 ≤ p1) : kje (p0.P, p1, ()) (((p1 % p0.P) : Int), ()) := by
  refine k16a ⟨fun h1 => ⟨by omega, tmod_nn _ _ h.2⟩, fun h1 => ?_⟩
  simp at h1
  rw [Int.emod_eq_of_lt (by omega) (by omega)]
noncomputable def kbw : Con TB.den := k30.fnR (fun x => (fun (p0 : TField) (p1 : Int) => 0 < p0.P ∧ 0 ≤ p1) (TField.mk x.1) x.2.1) fun x => ((fun (p0 : TField) (p1 : Int) => ((p1 % p0.P) : Int)) (TField.mk x.1) x.2.1, ())
theorem khk : kbw.Ok Try.prog TB := Con.ok_fn k30 bd73 fun x h => k145 (k12o (TField.mk x.1) x.2.1 h)
end Go.Proofs.Ytponaobpcdkggaa
namespace Go.Proofs.Ytponaobpcdkggaa
open Go Go.Bv Go.Cv Go.Md Go.RowKit
def k59 : Con TB.den := Con.mk0 52 [.agg [.d (.int .u64)], .one (.d (.int .u64)), .one (.d (.int .u64))] [] (.one (.one (.d (.int .u64)))) []
abbrev k157 := HL TB.den (hsT k59.ins (hsOs k59.pre))
abbrev kry := HL TB.den (hsV k59.res (hsOs k59.post))
noncomputable def kjj : Cx TB := ⟨inf, [k9h, kbw, k10v], [], 4, []⟩
noncomputable def kqj : Code := Try.f52.body.getD .skip
noncomputable def kve : List ResultVar := Try.f52.results.toList
noncomputable def k12b (o : kry) : An TB := .no
noncomputable def krk (x : k157) (o : kry) : Prop := WPh TB kjj 18 0 kqj (k12b o) (k59.st TB x) (retTQ TB kjj k59 kve o)
set_option maxRecDepth 100000 in
theorem k1cf (o : kry) : OblH TB kjj 18 0 kqj (k12b o) (retTQ TB kjj k59 kve o) :=
  OblH.of_eq (X := (True ∧ ((True ∧ ((True ∧ True) ∧ True)) ∧ (True ∧ True)))) (by kernel_rfl) ⟨trivial, ⟨⟨trivial, ⟨⟨trivial, trivial⟩, trivial⟩⟩, ⟨trivial, trivial⟩⟩⟩
set_option maxRecDepth 100000 in
theorem k1bu {x : k157} {o : kry} (h : krk x o) : SoundH Try.prog k59.f ((k59.args idf x).map (er TB)) ((k59.obs idf x).map (erO TB)) (er TB (k59.val idf o)) ((k59.ops idf o).map (erO TB)) :=
  Con.soundH (c := k59) (C := kjj) TBok ⟨inf_ok, (all_cons kcr (all_cons khk (all_cons k1d7 all_nil))), all_nil⟩ mix Try.func52 (show Try.f52.body = some kqj by kernel_rfl) (show Try.f52.ntmps = 18 by kernel_rfl) (show Try.f52.results.toList = kve by kernel_rfl) rfl h (k1cf o)
set_option maxRecDepth 100000 in
theorem k1e3 {p0 : TField} {p1 : Int} {p2 : Int} {r0 : Int} (h :
((p0.P = 18446744069414584321) ∧ ((!true) = true →
 0 = r0) ∧
((!true) = false →
(0 < p0.P ∧ 0 ≤ p1) ∧ (0 < p0.P ∧ 0 ≤ p2) ∧ (p0.P = 18446744069414584321 ∧ (0 ≤ (p1 % p0.P) ∧ (p1 % p0.P) < 18446744069414584321) ∧ (0 ≤ (p2 % p0.P) ∧ (p2 % p0.P) < 18446744069414584321)) ∧ let r1 : Int := (((p1 % p0.P) + (p2 % p0.P)) % 18446744069414584321)
 r1 = r0))) : krk (p0.P, p1, p2, ()) (r0, ()) := WPh.of_eq (by kernel_rfl) h
theorem bd52 : Callable Try.prog 52 := ⟨by rw [Try.func52]; kernel_rfl, by rw [Try.func52]; show some _ ≠ some _; decide⟩
theorem k19t (p0 : TField) (p1 : Int) (p2 : Int) (h : p0.P = 18446744069414584321 ∧ U64 p1 ∧ U64 p2) : krk (p0.P, p1, p2, ()) ((((p1 + p2) % 18446744069414584321) : Int), ()) := by
  obtain ⟨hP, h1, h2⟩ := h
  refine k1e3 ⟨hP, ?_⟩
  simp only [hP]
  refine ⟨fun h => by simp at h, fun _ => ⟨by omega, by omega, ⟨by trivial, by omega, by omega⟩, ?_⟩⟩
  omega
noncomputable def kn3 : Con TB.den := k59.fnR (fun x => (fun (p0 : TField) (p1 : Int) (p2 : Int) => p0.P = 18446744069414584321 ∧ U64 p1 ∧ U64 p2) (TField.mk x.1) x.2.1 x.2.2.1) fun x => ((fun (p0 : TField) (p1 : Int) (p2 : Int) => (((p1 + p2) % 18446744069414584321) : Int)) (TField.mk x.1) x.2.1 x.2.2.1, ())
theorem kvw : kn3.Ok Try.prog TB := Con.ok_fn k59 bd52 fun x h => k1bu (k19t (TField.mk x.1) x.2.1 x.2.2.1 h)
end Go.Proofs.Ytponaobpcdkggaa
namespace Go.Proofs.Ytponaobpcdkggaa
open Go Go.Bv Go.Cv Go.Md Go.RowKit
def k56 : Con TB.den := Con.mk0 74 [.agg [.d (.int .u64)], .one (.d (.int .u64)), .one (.d (.int .u64))] [] (.one (.one (.d (.int .u64)))) []
abbrev k14v := HL TB.den (hsT k56.ins (hsOs k56.pre))
abbrev ks5 := HL TB.den (hsV k56.res (hsOs k56.post))
noncomputable def kjg : Cx TB := ⟨inf, [kqs, kql], [], 4, []⟩
noncomputable def kr5 : Code := Try.f74.body.getD .skip
noncomputable def kuh : List ResultVar := Try.f74.results.toList
noncomputable def k12h (o : ks5) : An TB := .no
noncomputable def kqn (x : k14v) (o : ks5) : Prop := WPh TB kjg 26 0 kr5 (k12h o) (k56.st TB x) (retTQ TB kjg k56 kuh o)
set_option maxRecDepth 100000 in
theorem k1ct (o : ks5) : OblH TB kjg 26 0 kr5 (k12h o) (retTQ TB kjg k56 kuh o) :=
  OblH.of_eq (X := (True ∧ (True ∧ (True ∧ (True ∧ True))))) (by kernel_rfl) ⟨trivial, ⟨trivial, ⟨trivial, ⟨trivial, trivial⟩⟩⟩⟩
set_option maxRecDepth 100000 in
theorem k1c5 {x : k14v} {o : ks5} (h : kqn x o) : SoundH Try.prog k56.f ((k56.args idf x).map (er TB)) ((k56.obs idf x).map (erO TB)) (er TB (k56.val idf o)) ((k56.ops idf o).map (erO TB)) :=
  Con.soundH (c := k56) (C := kjg) TBok ⟨inf_ok, (all_cons k11k (all_cons k11b all_nil)), all_nil⟩ mix Try.func74 (show Try.f74.body = some kr5 by kernel_rfl) (show Try.f74.ntmps = 26 by kernel_rfl) (show Try.f74.results.toList = kuh by kernel_rfl) rfl h (k1ct o)
set_option maxRecDepth 100000 in
theorem k1f3 {p0 : TField} {p1 : Int} {p2 : Int} {r0 : Int} (h :
((U64 p1 ∧ U64 p2) ∧ (U64 (p1 * p2 / 18446744073709551616) ∧ U64 (p1 * p2 % 18446744073709551616) ∧ U64 p0.P ∧ (p1 * p2 / 18446744073709551616) < p0.P) ∧ let r1 : Int := (((p1 * p2 / 18446744073709551616) * 18446744073709551616 + (p1 * p2 % 18446744073709551616)) / p0.P)
 let r2 : Int := (((p1 * p2 / 18446744073709551616) * 18446744073709551616 + (p1 * p2 % 18446744073709551616)) % p0.P)
 r2 = r0)) : kqn (p0.P, p1, p2, ()) (r0, ()) := WPh.of_eq (by kernel_rfl) h
theorem bd74 : Callable Try.prog 74 := ⟨by rw [Try.func74]; kernel_rfl, by rw [Try.func74]; show some _ ≠ some _; decide⟩
theorem k1a9 (p0 : TField) (p1 : Int) (p2 : Int) (h : p0.P = 18446744069414584321 ∧ (0 ≤ p1 ∧ p1 < 18446744069414584321) ∧ (0 ≤ p2 ∧ p2 < 18446744069414584321)) : kqn (p0.P, p1, p2, ()) (((p1 * p2 % 18446744069414584321) : Int), ()) := by
  obtain ⟨hP, h1, h2⟩ := h
  have h3 : 0 ≤ p1 * p2 := Int.mul_nonneg h1.1 h2.1
  have h4 : p1 * p2 ≤ 18446744069414584320 * 18446744069414584320 := Int.mul_le_mul (by omega) (by omega) h2.1 (by omega)
  refine k1f3 ⟨⟨by omega, by omega⟩, ?_⟩
  simp only [hP]
  generalize p1 * p2 = m at *
  refine ⟨⟨⟨by omega, by omega⟩, ⟨by omega, by omega⟩, by omega, by omega⟩, ?_⟩
  rw [show m / 18446744073709551616 * 18446744073709551616 + m % 18446744073709551616 = m by omega]
noncomputable def ksw : Con TB.den := k56.fnR (fun x => (fun (p0 : TField) (p1 : Int) (p2 : Int) => p0.P = 18446744069414584321 ∧ (0 ≤ p1 ∧ p1 < 18446744069414584321) ∧ (0 ≤ p2 ∧ p2 < 18446744069414584321)) (TField.mk x.1) x.2.1 x.2.2.1) fun x => ((fun (p0 : TField) (p1 : Int) (p2 : Int) => ((p1 * p2 % 18446744069414584321) : Int)) (TField.mk x.1) x.2.1 x.2.2.1, ())
theorem k12n : ksw.Ok Try.prog TB := Con.ok_fn k56 bd74 fun x h => k1c5 (k1a9 (TField.mk x.1) x.2.1 x.2.2.1 h)
end Go.Proofs.Ytponaobpcdkggaa
namespace Go.Proofs.Ytponaobpcdkggaa
open Go Go.Bv Go.Cv Go.Md Go.RowKit
def k5d : Con TB.den := Con.mk0 53 [.agg [.d (.int .u64)], .one (.d (.int .u64)), .one (.d (.int .u64))] [] (.one (.one (.d (.int .u64)))) []
abbrev k156 := HL TB.den (hsT k5d.ins (hsOs k5d.pre))
abbrev ks2 := HL TB.den (hsV k5d.res (hsOs k5d.post))
noncomputable def kk6 : Cx TB := ⟨inf, [k9h, kbw, ksw], [], 4, []⟩
noncomputable def krl : Code := Try.f53.body.getD .skip
noncomputable def kuq : List ResultVar := Try.f53.results.toList
noncomputable def k138 (o : ks2) : An TB := .no
noncomputable def krc (x : k156) (o : ks2) : Prop := WPh TB kk6 18 0 krl (k138 o) (k5d.st TB x) (retTQ TB kk6 k5d kuq o)
set_option maxRecDepth 100000 in
theorem k1c3 (o : ks2) : OblH TB kk6 18 0 krl (k138 o) (retTQ TB kk6 k5d kuq o) :=
  OblH.of_eq (X := (True ∧ ((True ∧ ((True ∧ True) ∧ True)) ∧ (True ∧ True)))) (by kernel_rfl) ⟨trivial, ⟨⟨trivial, ⟨⟨trivial, trivial⟩, trivial⟩⟩, ⟨trivial, trivial⟩⟩⟩
set_option maxRecDepth 100000 in
theorem k1ca {x : k156} {o : ks2} (h : krc x o) : SoundH Try.prog k5d.f ((k5d.args idf x).map (er TB)) ((k5d.obs idf x).map (erO TB)) (er TB (k5d.val idf o)) ((k5d.ops idf o).map (erO TB)) :=
  Con.soundH (c := k5d) (C := kk6) TBok ⟨inf_ok, (all_cons kcr (all_cons khk (all_cons k12n all_nil))), all_nil⟩ mix Try.func53 (show Try.f53.body = some krl by kernel_rfl) (show Try.f53.ntmps = 18 by kernel_rfl) (show Try.f53.results.toList = kuq by kernel_rfl) rfl h (k1c3 o)
set_option maxRecDepth 100000 in
theorem k1ea {p0 : TField} {p1 : Int} {p2 : Int} {r0 : Int} (h :
((p0.P = 18446744069414584321) ∧ ((!true) = true →
 0 = r0) ∧
((!true) = false →
(0 < p0.P ∧ 0 ≤ p1) ∧ (0 < p0.P ∧ 0 ≤ p2) ∧ (p0.P = 18446744069414584321 ∧ (0 ≤ (p1 % p0.P) ∧ (p1 % p0.P) < 18446744069414584321) ∧ (0 ≤ (p2 % p0.P) ∧ (p2 % p0.P) < 18446744069414584321)) ∧ let r1 : Int := ((p1 % p0.P) * (p2 % p0.P) % 18446744069414584321)
 r1 = r0))) : krc (p0.P, p1, p2, ()) (r0, ()) := WPh.of_eq (by kernel_rfl) h
theorem bd53 : Callable Try.prog 53 := ⟨by rw [Try.func53]; kernel_rfl, by rw [Try.func53]; show some _ ≠ some _; decide⟩
theorem k1a1 (p0 : TField) (p1 : Int) (p2 : Int) (h : p0.P = 18446744069414584321 ∧ U64 p1 ∧ U64 p2) : krc (p0.P, p1, p2, ()) (((p1 * p2 % 18446744069414584321) : Int), ()) := by
  obtain ⟨hP, h1, h2⟩ := h
  refine k1ea ⟨hP, ?_⟩
  simp only [hP]
  refine ⟨fun h => by simp at h, fun _ => ⟨by omega, by omega, ⟨by trivial, by omega, by omega⟩, ?_⟩⟩
  exact (Int.mul_emod _ _ _).symm
noncomputable def k11s : Con TB.den := k5d.fnR (fun x => (fun (p0 : TField) (p1 : Int) (p2 : Int) => p0.P = 18446744069414584321 ∧ U64 p1 ∧ U64 p2) (TField.mk x.1) x.2.1 x.2.2.1) fun x => ((fun (p0 : TField) (p1 : Int) (p2 : Int) => ((p1 * p2 % 18446744069414584321) : Int)) (TField.mk x.1) x.2.1 x.2.2.1, ())
theorem k1ev : k11s.Ok Try.prog TB := Con.ok_fn k5d bd53 fun x h => k1ca (k1a1 (TField.mk x.1) x.2.1 x.2.2.1 h)
end Go.Proofs.Ytponaobpcdkggaa
namespace Go.Proofs.Ytponaobpcdkggaa
open Go Go.Bv Go.Cv Go.Md Go.RowKit
def k35 : Con TB.den := Con.mk0 88 [.agg [.d (.int .u64)]] [] (.tup [.one (.d (.int .u64)), .one (.d (.int .i64)), .one (.d (.int .u64))]) []
abbrev kxq := HL TB.den (hsT k35.ins (hsOs k35.pre))
abbrev kio := HL TB.den (hsV k35.res (hsOs k35.post))
noncomputable def kct : Cx TB := ⟨inf, [], [], 4, []⟩
noncomputable def kjx : Code := Try.f88.body.getD .skip
noncomputable def knm : List ResultVar := Try.f88.results.toList
noncomputable def kvf (o : kio) : An TB := .no
noncomputable def kjb (x : kxq) (o : kio) : Prop := WPh TB kct 21 0 kjx (kvf o) (k35.st TB x) (retTQ TB kct k35 knm o)
set_option maxRecDepth 100000 in
theorem k14a (o : kio) : OblH TB kct 21 0 kjx (kvf o) (retTQ TB kct k35 knm o) :=
  OblH.of_eq (X := (True ∧ ((True ∧ (True ∧ ((True ∧ True) ∧ (True ∧ ((True ∧ True) ∧ (True ∧ ((True ∧ True) ∧ (True ∧ ((True ∧ True) ∧ (True ∧ ((True ∧ True) ∧ (True ∧ ((True ∧ True) ∧ (True ∧ ((True ∧ True) ∧ True))))))))))))))) ∧ (True ∧ True)))) (by kernel_rfl) ⟨trivial, ⟨⟨trivial, ⟨trivial, ⟨⟨trivial, trivial⟩, ⟨trivial, ⟨⟨trivial, trivial⟩, ⟨trivial, ⟨⟨trivial, trivial⟩, ⟨trivial, ⟨⟨trivial, trivial⟩, ⟨trivial, ⟨⟨trivial, trivial⟩, ⟨trivial, ⟨⟨trivial, trivial⟩, ⟨trivial, ⟨⟨trivial, trivial⟩, trivial⟩⟩⟩⟩⟩⟩⟩⟩⟩⟩⟩⟩⟩⟩⟩, ⟨trivial, trivial⟩⟩⟩
set_option maxRecDepth 100000 in
theorem k14m {x : kxq} {o : kio} (h : kjb x o) : SoundH Try.prog k35.f ((k35.args idf x).map (er TB)) ((k35.obs idf x).map (erO TB)) (er TB (k35.val idf o)) ((k35.ops idf o).map (erO TB)) :=
  Con.soundH (c := k35) (C := kct) TBok ⟨inf_ok, all_nil, all_nil⟩ mix Try.func88 (show Try.f88.body = some kjx by kernel_rfl) (show Try.f88.ntmps = 21 by kernel_rfl) (show Try.f88.results.toList = knm by kernel_rfl) rfl h (k14a o)
set_option maxRecDepth 100000 in
theorem k170 {p0 : TField} {r0 : Int} {r1 : Int} {r2 : Int} (h :
(((p0.P == 17) = true →
 3 = r0 ∧ 4 = r1 ∧ 3 = r2) ∧
((p0.P == 17) = false →
((p0.P == 97) = true →
 5 = r0 ∧ 5 = r1 ∧ 5 = r2) ∧
((p0.P == 97) = false →
((p0.P == 193) = true →
 5 = r0 ∧ 6 = r1 ∧ 5 = r2) ∧
((p0.P == 193) = false →
((p0.P == 257) = true →
 3 = r0 ∧ 8 = r1 ∧ 3 = r2) ∧
((p0.P == 257) = false →
((p0.P == 12289) = true →
 11 = r0 ∧ 12 = r1 ∧ 5 = r2) ∧
((p0.P == 12289) = false →
((p0.P == 65537) = true →
 3 = r0 ∧ 16 = r1 ∧ 3 = r2) ∧
((p0.P == 65537) = false →
((p0.P == 18446744069414584321) = true →
 7 = r0 ∧ 32 = r1 ∧ 7 = r2) ∧
((p0.P == 18446744069414584321) = false →
 0 = r0 ∧ 0 = r1 ∧ 0 = r2))))))))) : kjb (p0.P, ()) (r0, r1, r2, ()) := WPh.of_eq (by kernel_rfl) h
theorem bd88 : Callable Try.prog 88 := ⟨by rw [Try.func88]; kernel_rfl, by rw [Try.func88]; show some _ ≠ some _; decide⟩
theorem k12a (p0 : TField) (h : p0.P = 18446744069414584321) : kjb (p0.P, ()) ((7 : Int), (32 : Int), (7 : Int), ()) := by
  refine k170 ?_
  simp [h]
noncomputable def ktl : Con TB.den := k35.fnR (fun x => (fun (p0 : TField) => p0.P = 18446744069414584321) (TField.mk x.1)) fun x => ((fun (p0 : TField) => (7 : Int)) (TField.mk x.1), (fun (p0 : TField) => (32 : Int)) (TField.mk x.1), (fun (p0 : TField) => (7 : Int)) (TField.mk x.1), ())
theorem k16f : ktl.Ok Try.prog TB := Con.ok_fn k35 bd88 fun x h => k14m (k12a (TField.mk x.1) h)
end Go.Proofs.Ytponaobpcdkggaa
namespace Go.Proofs.Ytponaobpcdkggaa
open Go Go.Bv Go.Cv Go.Md Go.RowKit
def k2t : Con TB.den := Con.mk0 75 [.agg [.d (.int .u64)]] [] (.one (.one (.d (.int .u64)))) []
abbrev kw0 := HL TB.den (hsT k2t.ins (hsOs k2t.pre))
abbrev khl := HL TB.den (hsV k2t.res (hsOs k2t.post))
noncomputable def kbu : Cx TB := ⟨inf, [ktl], [], 4, []⟩
noncomputable def kic : Code := Try.f75.body.getD .skip
noncomputable def klp : List ResultVar := Try.f75.results.toList
noncomputable def kth (o : khl) : An TB := .no
noncomputable def kif (x : kw0) (o : khl) : Prop := WPh TB kbu 13 0 kic (kth o) (k2t.st TB x) (retTQ TB kbu k2t klp o)
set_option maxRecDepth 100000 in
theorem k13n (o : khl) : OblH TB kbu 13 0 kic (kth o) (retTQ TB kbu k2t klp o) :=
  OblH.of_eq (X := (True ∧ (True ∧ (True ∧ True)))) (by kernel_rfl) ⟨trivial, ⟨trivial, ⟨trivial, trivial⟩⟩⟩
set_option maxRecDepth 100000 in
theorem k136 {x : kw0} {o : khl} (h : kif x o) : SoundH Try.prog k2t.f ((k2t.args idf x).map (er TB)) ((k2t.obs idf x).map (erO TB)) (er TB (k2t.val idf o)) ((k2t.ops idf o).map (erO TB)) :=
  Con.soundH (c := k2t) (C := kbu) TBok ⟨inf_ok, (all_cons k16f all_nil), all_nil⟩ mix Try.func75 (show Try.f75.body = some kic by kernel_rfl) (show Try.f75.ntmps = 13 by kernel_rfl) (show Try.f75.results.toList = klp by kernel_rfl) rfl h (k13n o)
set_option maxRecDepth 100000 in
theorem k14i {p0 : TField} {r0 : Int} (h :
((p0.P = 18446744069414584321) ∧ 7 = r0)) : kif (p0.P, ()) (r0, ()) := WPh.of_eq (by kernel_rfl) h
theorem bd75 : Callable Try.prog 75 := ⟨by rw [Try.func75]; kernel_rfl, by rw [Try.func75]; show some _ ≠ some _; decide⟩
theorem k120 (p0 : TField) (h : p0.P = 18446744069414584321) : kif (p0.P, ()) ((7 : Int), ()) := by
  exact k14i ⟨h, rfl⟩
noncomputable def ksc : Con TB.den := k2t.fnR (fun x => (fun (p0 : TField) => p0.P = 18446744069414584321) (TField.mk x.1)) fun x => ((fun (p0 : TField) => (7 : Int)) (TField.mk x.1), ())
theorem k142 : ksc.Ok Try.prog TB := Con.ok_fn k2t bd75 fun x h => k136 (k120 (TField.mk x.1) h)
end Go.Proofs.Ytponaobpcdkggaa
namespace Go.Proofs.Ytponaobpcdkggaa
open Go Go.Bv Go.Cv Go.Md Go.RowKit
def k48 : Con TB.den := Con.mk0 89 [.agg [.d (.int .u64)], .one (.d (.int .u64)), .one (.d (.int .u64))] [] (.one (.one (.d (.int .u64)))) []
abbrev k154 := HL TB.den (hsT k48.ins (hsOs k48.pre))
abbrev k8e := HL TB.den (hsV k48.res (hsOs k48.post))
noncomputable def k8h : Cx TB := ⟨inf, [ksw], [], 4, []⟩
noncomputable def kcq : Code := Try.f89.body.getD .skip
noncomputable def kjy : List ResultVar := Try.f89.results.toList
noncomputable def k1dy (o : k8e) : Exit → TSt TB.den → Prop := thenT TB (fun s => ghs TB [] s fun s => WP TB k8h 26 0 (cB (cB (cB kcq))) .no s (retTQ TB k8h k48 kjy o)) (retTQ TB k8h k48 kjy o)
def k6u : Tm := ⟨[0], [.cells [.d (.int .u64)]], [1, 2, 3, 7], [.one (.d (.int .u64)), .one (.d (.int .u64)), .one (.ptr 0 0), .one (.d (.int .u64))], 1⟩
noncomputable def k12i (o : k8e) (nx1 : HL TB.den k6u.hs → Prop) : Exit → TSt TB.den → Prop := thenT TB (fun s => k6u.mat TB 0 s nx1) (blockT TB 0 (k1dy o))
def kn5 : Tm := ⟨[0], [.cells [.d (.int .u64)]], [1, 2, 3, 7], [.one (.d (.int .u64)), .one (.d (.int .u64)), .one (.ptr 0 0), .one (.d (.int .u64))], 1⟩
noncomputable def k11q (o : k8e) (nx1 : HL TB.den k6u.hs → Prop) (i : HL TB.den kn5.hs) : Prop := ghs TB [] (kn5.fill TB i) fun s => WP TB k8h 26 0 (cB (cA (cB (cA (cA (cA (cB (cB kcq)))))))) .no s (blockT TB 1 (k12i o nx1))
structure kge (o : k8e) (nx1 : HL TB.den k6u.hs → Prop) (i : HL TB.den kn5.hs) : Prop where
  h : k11q o nx1 i
noncomputable def k13r (o : k8e) (nx1 : HL TB.den k6u.hs → Prop) : An TB := .nd [] .no [] (.jn kn5 (kge o nx1) [] .no [] .no)
noncomputable def kj8 (o : k8e) (nx1 : HL TB.den k6u.hs → Prop) (i : HL TB.den k6u.hs) : Prop := WP TB k8h 26 0 (cA (cA (cA (cB (cB kcq))))) (k13r o nx1) (k6u.fill TB i) (k12i o nx1)
noncomputable def k1ff (o : k8e) : An TB := .lp [] k6u (kj8 o) fun nx1 => (k13r o nx1)
noncomputable def k12r (o : k8e) : An TB := .nd [] .no [] (.nd [] .no [] (.nd [] (k1ff o) [] .no))
noncomputable def krs (x : k154) (o : k8e) : Prop := WPh TB k8h 26 0 kcq (k12r o) (k48.st TB x) (retTQ TB k8h k48 kjy o)
set_option maxRecDepth 100000 in
theorem k1cz (o : k8e) : OblH TB k8h 26 0 kcq (k12r o) (retTQ TB k8h k48 kjy o) :=
  OblH.of_eq (X := (True ∧ (True ∧ (((∀ nx i, (kj8 o) nx i = (kj8 o) nx i) ∧ ∀ nx1 : HL TB.den k6u.hs → Prop, ((True ∧ (True ∧ True)) ∧ ((True ∧ (True ∧ True)) ∧ (∀ i, (kge o nx1) i = (k11q o nx1) i) ∧ (True ∧ (True ∧ (True ∧ True)))))) ∧ (True ∧ True))))) (by kernel_rfl) ⟨trivial, ⟨trivial, ⟨⟨fun _ _ => rfl, fun _ => ⟨⟨trivial, ⟨trivial, trivial⟩⟩, ⟨⟨trivial, ⟨trivial, trivial⟩⟩, fun _ => propext ⟨fun h => h.1, fun h => ⟨h⟩⟩, ⟨trivial, ⟨trivial, ⟨trivial, trivial⟩⟩⟩⟩⟩⟩, ⟨trivial, trivial⟩⟩⟩⟩
set_option maxRecDepth 100000 in
theorem k1cr {x : k154} {o : k8e} (h : krs x o) : SoundH Try.prog k48.f ((k48.args idf x).map (er TB)) ((k48.obs idf x).map (erO TB)) (er TB (k48.val idf o)) ((k48.ops idf o).map (erO TB)) :=
  Con.soundH (c := k48) (C := k8h) TBok ⟨inf_ok, (all_cons k12n all_nil), all_nil⟩ mix Try.func89 (show Try.f89.body = some kcq by kernel_rfl) (show Try.f89.ntmps = 26 by kernel_rfl) (show Try.f89.results.toList = kjy by kernel_rfl) rfl h (k1cz o)
set_option maxRecDepth 100000 in
theorem k1fe {p0 : TField} {p1 : Int} {p2 : Int} {r0 : Int} (h :
(Md.Loop (p1, p2, (1 : Int), p0.P, ()) (kj8 (r0, ())))) : krs (p0.P, p1, p2, ()) (r0, ()) := WPh.of_eq (by kernel_rfl) h
set_option maxRecDepth 100000 in
theorem k17f {r0 : Int} {nx1 : HL TB.den k6u.hs → Prop} {s1 : Int} {s2 : Int} {s7 : Int} {h0_0 : Int} (h :
((decide (0 < (ishr .u64 s2 1)) = true →
((TField.mk h0_0).P = 18446744069414584321 ∧ (0 ≤ s1 ∧ s1 < 18446744069414584321) ∧ (0 ≤ s1 ∧ s1 < 18446744069414584321)) ∧ nx1 (((s1 * s1 % 18446744069414584321) : Int), (ishr .u64 s2 1 : Int), s7, h0_0, ())) ∧
(decide (0 < (ishr .u64 s2 1)) = false →
 nx1 (s1, (ishr .u64 s2 1 : Int), s7, h0_0, ())))) : kge (r0, ()) nx1 (s1, s2, s7, h0_0, ()) := ⟨mpr_of (by kernel_rfl) h⟩
def k12j (r0 : Int) (nx1 : HL TB.den k6u.hs → Prop) (k1 : Int → Int → Int → Prop) (h0_0 : Int) (s1 : Int) (s2 : Int) (s7 : Int) : Prop :=
(decide (0 < s2) = true →
(((iand .u64 s2 1) == 1) = true →
((TField.mk h0_0).P = 18446744069414584321 ∧ (0 ≤ s7 ∧ s7 < 18446744069414584321) ∧ (0 ≤ s1 ∧ s1 < 18446744069414584321)) ∧ kge (r0, ()) nx1 (s1, s2, ((s7 * s1 % 18446744069414584321) : Int), h0_0, ())) ∧
(((iand .u64 s2 1) == 1) = false →
 kge (r0, ()) nx1 (s1, s2, s7, h0_0, ()))) ∧
(decide (0 < s2) = false →
 s7 = r0)
set_option maxRecDepth 100000 in
theorem k1cx {r0 : Int} {h0_0 : Int} {s1 : Int} {s2 : Int} {s7 : Int} (inv : Int → Int → Int → Prop) (μ : Int → Int → Int → Nat) (h0 : inv s1 s2 s7) (hs : ∀ (s1 : Int) (s2 : Int) (s7 : Int), inv s1 s2 s7 → k12j r0 (fun s : Int × Int × Int × Int × Unit => ((s.2.2.2.1 = h0_0) ∧ inv s.1 s.2.1 s.2.2.1) ∧ μ s.1 s.2.1 s.2.2.1 < μ s1 s2 s7) (fun s1q s2q s7q => inv s1q s2q s7q ∧ μ s1q s2q s7q < μ s1 s2 s7) h0_0 s1 s2 s7) : Md.Loop (s1, s2, s7, h0_0, ()) (kj8 (r0, ())) :=
  ⟨⟨fun s : Int × Int × Int × Int × Unit => (s.2.2.2.1 = h0_0) ∧ inv s.1 s.2.1 s.2.2.1, fun s : Int × Int × Int × Int × Unit => μ s.1 s.2.1 s.2.2.1, ⟨rfl, h0⟩, fun (s1p, s2p, s7p, h0_0p, ()) ⟨eq0, hi⟩ => by
    have eq0 : h0_0p = h0_0 := eq0; subst h0_0p; exact mpr_of (by kernel_rfl) ((congrArg (fun k => k12j r0 (fun s : Int × Int × Int × Int × Unit => ((s.2.2.2.1 = h0_0) ∧ inv s.1 s.2.1 s.2.2.1) ∧ μ s.1 s.2.1 s.2.2.1 < μ s1p s2p s7p) k h0_0 s1p s2p s7p) (lpk3 (rfl : h0_0 = h0_0) inv (fun s1q s2q s7q => μ s1q s2q s7q < μ s1p s2p s7p))).mpr (hs s1p s2p s7p hi))⟩⟩
theorem bd89 : Callable Try.prog 89 := ⟨by rw [Try.func89]; kernel_rfl, by rw [Try.func89]; show some _ ≠ some _; decide⟩
theorem k1aa (p0 : TField) (p1 : Int) (p2 : Int) (h : p0.P = 18446744069414584321 ∧ (0 ≤ p1 ∧ p1 < 18446744069414584321) ∧ U64 p2) : krs (p0.P, p1, p2, ()) (((pw p1 p2) : Int), ()) := by
  obtain ⟨hP, h1, h2⟩ := h
  refine k1fe ?_
  rw [hP]
  refine k1cx (fun a e r => (0 ≤ a ∧ a < 18446744069414584321) ∧ U64 e ∧ (0 ≤ r ∧ r < 18446744069414584321) ∧ (r * a ^ e.toNat) % 18446744069414584321 = pw p1 p2) (fun a e r => e.toNat) ⟨h1, h2, by omega, by rw [Int.one_mul]; rfl⟩ ?_
  rintro a e r ⟨ha, he, hr, hv⟩
  have jj : ∀ nx r', (0 ≤ r' ∧ r' < 18446744069414584321) → 0 < e → (r' * (a * a) ^ (e / 2).toNat) % 18446744069414584321 = pw p1 p2 → (∀ a', (0 ≤ a' ∧ a' < 18446744069414584321) → r' * a' ^ (e / 2).toNat % 18446744069414584321 = pw p1 p2 → nx (a', (e / 2 : Int), r', (18446744069414584321 : Int), ())) → kge ((pw p1 p2 : Int), ()) nx (a, e, r', (18446744069414584321 : Int), ()) := by
    intro nx r' hr' he' hv' hn
    refine k17f ?_
    rw [ishr1]
    refine ⟨fun h => ⟨⟨rfl, ha, ha⟩, ?_⟩, fun h => ?_⟩
    · refine hn _ ⟨Int.emod_nonneg _ (by omega), Int.emod_lt_of_pos _ (by omega)⟩ ?_
      rw [← hv', Int.mul_emod, Int.mul_emod r' ((a * a) ^ _), kzw]
    · have h : ¬ 0 < e / 2 := of_decide_eq_false h
      refine hn _ ha ?_
      rw [show (e / 2).toNat = 0 by omega] at hv' ⊢
      simpa using hv'
  refine ⟨fun h => ?_, fun h => ?_⟩
  · have h := of_decide_eq_true h
    rw [k1j6 e he]
    have nxt : ∀ a' r', (0 ≤ a' ∧ a' < 18446744069414584321) → (0 ≤ r' ∧ r' < 18446744069414584321) → r' * a' ^ (e / 2).toNat % 18446744069414584321 = pw p1 p2 → ((0 ≤ a' ∧ a' < 18446744069414584321) ∧ U64 (e / 2) ∧ (0 ≤ r' ∧ r' < 18446744069414584321) ∧ r' * a' ^ (e / 2).toNat % 18446744069414584321 = pw p1 p2) ∧ (e / 2).toNat < e.toNat := fun a' r' h1 h2 h3 => ⟨⟨h1, ⟨by omega, by omega⟩, h2, h3⟩, by omega⟩
    have hpow : ∀ k : Nat, a ^ (2 * k) = (a * a) ^ k := fun k => by rw [Int.pow_mul]; congr 1; rw [Int.pow_succ, Int.pow_succ, Int.pow_zero, Int.one_mul]
    refine ⟨fun h1 => ⟨⟨rfl, hr, ha⟩, ?_⟩, fun h1 => ?_⟩
    · have h1 : e % 2 = 1 := by simpa using h1
      refine jj _ _ ⟨Int.emod_nonneg _ (by omega), Int.emod_lt_of_pos _ (by omega)⟩ h ?_ fun a' ha' hv' => ⟨⟨rfl, (nxt a' _ ha' ⟨Int.emod_nonneg _ (by omega), Int.emod_lt_of_pos _ (by omega)⟩ hv').1⟩, (nxt a' _ ha' ⟨Int.emod_nonneg _ (by omega), Int.emod_lt_of_pos _ (by omega)⟩ hv').2⟩
      rw [← hv, show e.toNat = 2 * (e / 2).toNat + 1 by omega, Int.pow_succ, hpow, Int.mul_emod, Int.emod_emod_of_dvd _ (Int.dvd_refl _), ← Int.mul_emod]
      congr 1
      grind
    · have h1 : ¬ e % 2 = 1 := by simpa using h1
      refine jj _ _ hr h ?_ fun a' ha' hv' => ⟨⟨rfl, (nxt a' _ ha' hr hv').1⟩, (nxt a' _ ha' hr hv').2⟩
      rw [← hv, ← hpow, show e.toNat = 2 * (e / 2).toNat by omega]
  · have h : ¬ 0 < e := of_decide_eq_false h
    rw [show e.toNat = 0 by omega, Int.pow_zero, Int.mul_one, Int.emod_eq_of_lt hr.1 hr.2] at hv
    exact hv
noncomputable def k11j : Con TB.den := k48.fnR (fun x => (fun (p0 : TField) (p1 : Int) (p2 : Int) => p0.P = 18446744069414584321 ∧ (0 ≤ p1 ∧ p1 < 18446744069414584321) ∧ U64 p2) (TField.mk x.1) x.2.1 x.2.2.1) fun x => ((fun (p0 : TField) (p1 : Int) (p2 : Int) => ((pw p1 p2) : Int)) (TField.mk x.1) x.2.1 x.2.2.1, ())
theorem k1dw : k11j.Ok Try.prog TB := Con.ok_fn k48 bd89 fun x h => k1cr (k1aa (TField.mk x.1) x.2.1 x.2.2.1 h)
end Go.Proofs.Ytponaobpcdkggaa
namespace Go.Proofs.Ytponaobpcdkggaa
open Go Go.Bv Go.Cv Go.Md Go.RowKit
def k58 : Con TB.den := Con.mk0 76 [.agg [.d (.int .u64)], .one (.d (.int .u64)), .one (.d (.int .u64))] [] (.one (.one (.d (.int .u64)))) []
abbrev k152 := HL TB.den (hsT k58.ins (hsOs k58.pre))
abbrev krw := HL TB.den (hsV k58.res (hsOs k58.post))
noncomputable def kjt : Cx TB := ⟨inf, [k9h, kbw, k11j], [], 4, []⟩
noncomputable def krd : Code := Try.f76.body.getD .skip
noncomputable def kvq : List ResultVar := Try.f76.results.toList
noncomputable def k13h (o : krw) : An TB := .no
noncomputable def krb (x : k152) (o : krw) : Prop := WPh TB kjt 16 0 krd (k13h o) (k58.st TB x) (retTQ TB kjt k58 kvq o)
set_option maxRecDepth 100000 in
theorem k1c2 (o : krw) : OblH TB kjt 16 0 krd (k13h o) (retTQ TB kjt k58 kvq o) :=
  OblH.of_eq (X := (True ∧ ((True ∧ ((True ∧ True) ∧ True)) ∧ (True ∧ True)))) (by kernel_rfl) ⟨trivial, ⟨⟨trivial, ⟨⟨trivial, trivial⟩, trivial⟩⟩, ⟨trivial, trivial⟩⟩⟩
set_option maxRecDepth 100000 in
theorem k1bq {x : k152} {o : krw} (h : krb x o) : SoundH Try.prog k58.f ((k58.args idf x).map (er TB)) ((k58.obs idf x).map (erO TB)) (er TB (k58.val idf o)) ((k58.ops idf o).map (erO TB)) :=
  Con.soundH (c := k58) (C := kjt) TBok ⟨inf_ok, (all_cons kcr (all_cons khk (all_cons k1dw all_nil))), all_nil⟩ mix Try.func76 (show Try.f76.body = some krd by kernel_rfl) (show Try.f76.ntmps = 16 by kernel_rfl) (show Try.f76.results.toList = kvq by kernel_rfl) rfl h (k1c2 o)
set_option maxRecDepth 100000 in
theorem k1e0 {p0 : TField} {p1 : Int} {p2 : Int} {r0 : Int} (h :
((p0.P = 18446744069414584321) ∧ ((!true) = true →
 0 = r0) ∧
((!true) = false →
(0 < p0.P ∧ 0 ≤ p1) ∧ (p0.P = 18446744069414584321 ∧ (0 ≤ (p1 % p0.P) ∧ (p1 % p0.P) < 18446744069414584321) ∧ U64 p2) ∧ (pw (p1 % p0.P) p2) = r0))) : krb (p0.P, p1, p2, ()) (r0, ()) := WPh.of_eq (by kernel_rfl) h
theorem bd76 : Callable Try.prog 76 := ⟨by rw [Try.func76]; kernel_rfl, by rw [Try.func76]; show some _ ≠ some _; decide⟩
theorem k19e (p0 : TField) (p1 : Int) (p2 : Int) (h : p0.P = 18446744069414584321 ∧ U64 p1 ∧ U64 p2) : krb (p0.P, p1, p2, ()) (((pw (p1 % 18446744069414584321) p2) : Int), ()) := by
  obtain ⟨hP, h1, h2⟩ := h
  refine k1e0 ⟨hP, fun h => by simp at h, fun _ => ⟨by omega, ?_⟩⟩
  simp only [hP]
  exact ⟨⟨by trivial, by omega, h2⟩, trivial⟩
noncomputable def k11o : Con TB.den := k58.fnR (fun x => (fun (p0 : TField) (p1 : Int) (p2 : Int) => p0.P = 18446744069414584321 ∧ U64 p1 ∧ U64 p2) (TField.mk x.1) x.2.1 x.2.2.1) fun x => ((fun (p0 : TField) (p1 : Int) (p2 : Int) => ((pw (p1 % 18446744069414584321) p2) : Int)) (TField.mk x.1) x.2.1 x.2.2.1, ())
theorem k1fg : k11o.Ok Try.prog TB := Con.ok_fn k58 bd76 fun x h => k1bq (k19e (TField.mk x.1) x.2.1 x.2.2.1 h)
end Go.Proofs.Ytponaobpcdkggaa
namespace Go.Proofs.Ytponaobpcdkggaa
open Go Go.Bv Go.Cv Go.Md Go.RowKit
def k3m : Con TB.den := Con.mk0 90 [.agg [.d (.int .u64)], .one (.d (.int .u64))] [] (.one (.one (.d (.int .u64)))) []
abbrev kz0 := HL TB.den (hsT k3m.ins (hsOs k3m.pre))
abbrev kkz := HL TB.den (hsV k3m.res (hsOs k3m.post))
noncomputable def ke7 : Cx TB := ⟨inf, [k9h, kbw], [], 4, []⟩
noncomputable def klx : Code := Try.f90.body.getD .skip
noncomputable def kp9 : List ResultVar := Try.f90.results.toList
noncomputable def kxl (o : kkz) : An TB := .no
noncomputable def klr (x : kz0) (o : kkz) : Prop := WPh TB ke7 11 0 klx (kxl o) (k3m.st TB x) (retTQ TB ke7 k3m kp9 o)
set_option maxRecDepth 100000 in
theorem k16c (o : kkz) : OblH TB ke7 11 0 klx (kxl o) (retTQ TB ke7 k3m kp9 o) :=
  OblH.of_eq (X := (True ∧ ((True ∧ ((True ∧ True) ∧ True)) ∧ (True ∧ True)))) (by kernel_rfl) ⟨trivial, ⟨⟨trivial, ⟨⟨trivial, trivial⟩, trivial⟩⟩, ⟨trivial, trivial⟩⟩⟩
set_option maxRecDepth 100000 in
theorem k15n {x : kz0} {o : kkz} (h : klr x o) : SoundH Try.prog k3m.f ((k3m.args idf x).map (er TB)) ((k3m.obs idf x).map (erO TB)) (er TB (k3m.val idf o)) ((k3m.ops idf o).map (erO TB)) :=
  Con.soundH (c := k3m) (C := ke7) TBok ⟨inf_ok, (all_cons kcr (all_cons khk all_nil)), all_nil⟩ mix Try.func90 (show Try.f90.body = some klx by kernel_rfl) (show Try.f90.ntmps = 11 by kernel_rfl) (show Try.f90.results.toList = kp9 by kernel_rfl) rfl h (k16c o)
set_option maxRecDepth 100000 in
theorem k191 {p0 : TField} {p1 : Int} {r0 : Int} (h :
((p0.P = 18446744069414584321) ∧ ((!true) = true →
 0 = r0) ∧
((!true) = false →
(0 < p0.P ∧ 0 ≤ p1) ∧ (p1 % p0.P) = r0))) : klr (p0.P, p1, ()) (r0, ()) := WPh.of_eq (by kernel_rfl) h
theorem bd90 : Callable Try.prog 90 := ⟨by rw [Try.func90]; kernel_rfl, by rw [Try.func90]; show some _ ≠ some _; decide⟩
theorem k149 (p0 : TField) (p1 : Int) (h : p0.P = 18446744069414584321 ∧ U64 p1) : klr (p0.P, p1, ()) (((p1 % 18446744069414584321) : Int), ()) := by
  obtain ⟨hP, h1⟩ := h
  refine k191 ⟨hP, fun h => by simp at h, fun _ => ⟨by omega, ?_⟩⟩
  simp only [hP]
noncomputable def kvx : Con TB.den := k3m.fnR (fun x => (fun (p0 : TField) (p1 : Int) => p0.P = 18446744069414584321 ∧ U64 p1) (TField.mk x.1) x.2.1) fun x => ((fun (p0 : TField) (p1 : Int) => ((p1 % 18446744069414584321) : Int)) (TField.mk x.1) x.2.1, ())
theorem k18a : kvx.Ok Try.prog TB := Con.ok_fn k3m bd90 fun x h => k15n (k149 (TField.mk x.1) x.2.1 h)
end Go.Proofs.Ytponaobpcdkggaa
namespace Go.Proofs.Ytponaobpcdkggaa
open Go Go.Bv Go.Cv Go.Md Go.RowKit
def k1v : Con TB.den := Con.mk0 77 [.one (.d (.int .u64)), .one (.d (.int .i64)), .one (.d (.int .i64))] [] (.one (.one (.d (.int .u64)))) []
abbrev kml := HL TB.den (hsT k1v.ins (hsOs k1v.pre))
abbrev kak := HL TB.den (hsV k1v.res (hsOs k1v.post))
noncomputable def k83 : Cx TB := ⟨inf, [kvx], [], 4, []⟩
noncomputable def kca : Code := Try.f77.body.getD .skip
noncomputable def kdr : List ResultVar := Try.f77.results.toList
noncomputable def kl8 (o : kak) : An TB := .no
noncomputable def kcb (x : kml) (o : kak) : Prop := WPh TB k83 31 0 kca (kl8 o) (k1v.st TB x) (retTQ TB k83 k1v kdr o)
set_option maxRecDepth 100000 in
theorem kvb (o : kak) : OblH TB k83 31 0 kca (kl8 o) (retTQ TB k83 k1v kdr o) :=
  OblH.of_eq (X := (True ∧ ((True ∧ ((True ∧ True) ∧ True)) ∧ (True ∧ True)))) (by kernel_rfl) ⟨trivial, ⟨⟨trivial, ⟨⟨trivial, trivial⟩, trivial⟩⟩, ⟨trivial, trivial⟩⟩⟩
set_option maxRecDepth 100000 in
theorem kw1 {x : kml} {o : kak} (h : kcb x o) : SoundH Try.prog k1v.f ((k1v.args idf x).map (er TB)) ((k1v.obs idf x).map (erO TB)) (er TB (k1v.val idf o)) ((k1v.ops idf o).map (erO TB)) :=
  Con.soundH (c := k1v) (C := k83) TBok ⟨inf_ok, (all_cons k18a all_nil), all_nil⟩ mix Try.func77 (show Try.f77.body = some kca by kernel_rfl) (show Try.f77.ntmps = 31 by kernel_rfl) (show Try.f77.results.toList = kdr by kernel_rfl) rfl h (kvb o)
set_option maxRecDepth 100000 in
theorem kwy {p0 : Int} {p1 : Int} {p2 : Int} {r0 : Int} (h :
((decide (p1 < 0) = true →
 0 = r0) ∧
(decide (p1 < 0) = false →
(decide (8 ≤ p1) = true →
 0 = r0) ∧
(decide (8 ≤ p1) = false →
(decide (p2 < 0) = true →
 0 = r0) ∧
(decide (p2 < 0) = false →
(decide (2 < p2) = true →
 0 = r0) ∧
(decide (2 < p2) = false →
 let v1 : Int := IntKind.i64.wrap ((IntKind.i64.wrap (3 * p1)) + p2)
 let v2 : Int := IntKind.u64.wrap (IntKind.i64.wrap (v1 + 1))
 let v3 : Int := IntKind.u64.wrap (v2 * 11400714819323198485)
((TField.mk p0).P = 18446744069414584321 ∧ U64 v3) ∧ (v3 % 18446744069414584321) = r0)))))) : kcb (p0, p1, p2, ()) (r0, ()) := WPh.of_eq (by kernel_rfl) h
theorem bd77 : Callable Try.prog 77 := ⟨by rw [Try.func77]; kernel_rfl, by rw [Try.func77]; show some _ ≠ some _; decide⟩
theorem ku1 (p0 : Int) (p1 : Int) (p2 : Int) (h : p0 = 18446744069414584321 ∧ (0 ≤ p1 ∧ p1 < 8) ∧ 0 ≤ p2 ∧ p2 < 3) : kcb (p0, p1, p2, ()) (((rc p1 p2) : Int), ()) := by
  obtain ⟨hP, h1, h2⟩ := h
  refine kwy ⟨fun h => ?_, fun _ => ⟨fun h => ?_, fun _ => ⟨fun h => ?_, fun _ => ⟨fun h => ?_, fun _ => ?_⟩⟩⟩⟩
  · simp at h; omega
  · simp at h; omega
  · simp at h; omega
  · simp at h; omega
  · simp only []
    rw [wi (3 * p1) (by omega) (by omega), wi (3 * p1 + p2) (by omega) (by omega), wi (3 * p1 + p2 + 1) (by omega) (by omega), wu (3 * p1 + p2 + 1) (by omega) (by omega), u64w]
    exact ⟨⟨hP, by omega, by omega⟩, rfl⟩
noncomputable def kkc : Con TB.den := k1v.fnR (fun x => (fun (p0 : Int) (p1 : Int) (p2 : Int) => p0 = 18446744069414584321 ∧ (0 ≤ p1 ∧ p1 < 8) ∧ 0 ≤ p2 ∧ p2 < 3) x.1 x.2.1 x.2.2.1) fun x => ((fun (p0 : Int) (p1 : Int) (p2 : Int) => ((rc p1 p2) : Int)) x.1 x.2.1 x.2.2.1, ())
theorem kwv : kkc.Ok Try.prog TB := Con.ok_fn k1v bd77 fun x h => kw1 (ku1 x.1 x.2.1 x.2.2.1 h)
end Go.Proofs.Ytponaobpcdkggaa
namespace Go.Proofs.Ytponaobpcdkggaa
open Go Go.Bv Go.Cv Go.Md Go.RowKit
def k2l : Con TB.den := Con.mk0 78 [.one (.d (.int .u64)), .agg [.d (.int .u64), .d (.int .u64), .d (.int .u64)]] [] (.one (.agg [.d (.int .u64), .d (.int .u64), .d (.int .u64)])) []
abbrev ktf := HL TB.den (hsT k2l.ins (hsOs k2l.pre))
abbrev kf9 := HL TB.den (hsV k2l.res (hsOs k2l.post))
noncomputable def kat : Cx TB := ⟨inf, [kn3], [], 4, []⟩
noncomputable def khe : Code := Try.f78.body.getD .skip
noncomputable def kj2 : List ResultVar := Try.f78.results.toList
noncomputable def ks7 (o : kf9) : An TB := .no
noncomputable def khp (x : ktf) (o : kf9) : Prop := WPh TB kat 35 0 khe (ks7 o) (k2l.st TB x) (retTQ TB kat k2l kj2 o)
set_option maxRecDepth 100000 in
theorem k11w (o : kf9) : OblH TB kat 35 0 khe (ks7 o) (retTQ TB kat k2l kj2 o) :=
  OblH.of_eq (X := (True ∧ (True ∧ (True ∧ (True ∧ True))))) (by kernel_rfl) ⟨trivial, ⟨trivial, ⟨trivial, ⟨trivial, trivial⟩⟩⟩⟩
set_option maxRecDepth 100000 in
theorem k124 {x : ktf} {o : kf9} (h : khp x o) : SoundH Try.prog k2l.f ((k2l.args idf x).map (er TB)) ((k2l.obs idf x).map (erO TB)) (er TB (k2l.val idf o)) ((k2l.ops idf o).map (erO TB)) :=
  Con.soundH (c := k2l) (C := kat) TBok ⟨inf_ok, (all_cons kvw all_nil), all_nil⟩ mix Try.func78 (show Try.f78.body = some khe by kernel_rfl) (show Try.f78.ntmps = 35 by kernel_rfl) (show Try.f78.results.toList = kj2 by kernel_rfl) rfl h (k11w o)
set_option maxRecDepth 100000 in
theorem k134 {p0 : Int} {p1 : TA3} {r0 : TA3} (h :
(((TField.mk p0).P = 18446744069414584321 ∧ U64 p1.a0 ∧ U64 p1.a1) ∧ ((TField.mk p0).P = 18446744069414584321 ∧ U64 ((p1.a0 + p1.a1) % 18446744069414584321) ∧ U64 p1.a2) ∧ let r1 : Int := ((((p1.a0 + p1.a1) % 18446744069414584321) + p1.a2) % 18446744069414584321)
((TField.mk p0).P = 18446744069414584321 ∧ U64 p1.a0 ∧ U64 r1) ∧ ((TField.mk p0).P = 18446744069414584321 ∧ U64 p1.a1 ∧ U64 r1) ∧ ((TField.mk p0).P = 18446744069414584321 ∧ U64 p1.a2 ∧ U64 r1) ∧ ((p1.a0 + r1) % 18446744069414584321) = r0.a0 ∧ ((p1.a1 + r1) % 18446744069414584321) = r0.a1 ∧ ((p1.a2 + r1) % 18446744069414584321) = r0.a2)) : khp (p0, p1.a0, p1.a1, p1.a2, ()) (r0.a0, r0.a1, r0.a2, ()) := WPh.of_eq (by kernel_rfl) h
theorem bd78 : Callable Try.prog 78 := ⟨by rw [Try.func78]; kernel_rfl, by rw [Try.func78]; show some _ ≠ some _; decide⟩
theorem k10i (p0 : Int) (p1 : TA3) (h : p0 = 18446744069414584321 ∧ S3 p1) : khp (p0, p1.a0, p1.a1, p1.a2, ()) (((mixS p1).a0 : Int), ((mixS p1).a1 : Int), ((mixS p1).a2 : Int), ()) := by
  obtain ⟨hP, h0, h1, h2⟩ := h
  refine k134 ?_
  simp only [hP]
  exact ⟨⟨by trivial, h0, h1⟩, ⟨by trivial, by omega, h2⟩, ⟨by trivial, h0, by omega⟩, ⟨by trivial, h1, by omega⟩, ⟨by trivial, h2, by omega⟩, rfl, rfl, rfl⟩
noncomputable def kqh : Con TB.den := k2l.fnR (fun x => (fun (p0 : Int) (p1 : TA3) => p0 = 18446744069414584321 ∧ S3 p1) x.1 (TA3.mk x.2.1 x.2.2.1 x.2.2.2.1)) fun x => ((fun (p0 : Int) (p1 : TA3) => ((mixS p1).a0 : Int)) x.1 (TA3.mk x.2.1 x.2.2.1 x.2.2.2.1), (fun (p0 : Int) (p1 : TA3) => ((mixS p1).a1 : Int)) x.1 (TA3.mk x.2.1 x.2.2.1 x.2.2.2.1), (fun (p0 : Int) (p1 : TA3) => ((mixS p1).a2 : Int)) x.1 (TA3.mk x.2.1 x.2.2.1 x.2.2.2.1), ())
theorem k12y : kqh.Ok Try.prog TB := Con.ok_fn k2l bd78 fun x h => k124 (k10i x.1 (TA3.mk x.2.1 x.2.2.1 x.2.2.2.1) h)
end Go.Proofs.Ytponaobpcdkggaa
namespace Go.Proofs.Ytponaobpcdkggaa
open Go Go.Bv Go.Cv Go.Md Go.RowKit
def k1n : Con TB.den := Con.mk0 54 [.one (.d (.int .u64)), .agg [.d (.int .u64), .d (.int .u64), .d (.int .u64)]] [] (.one (.agg [.d (.int .u64), .d (.int .u64), .d (.int .u64)])) []
abbrev ko4 := HL TB.den (hsT k1n.ins (hsOs k1n.pre))
abbrev k1x := HL TB.den (hsV k1n.res (hsOs k1n.post))
noncomputable def k2m : Cx TB := ⟨inf, [k9h, ksc, kkc, kn3, k11o, kqh], [], 4, []⟩
noncomputable def k4e : Code := Try.f54.body.getD .skip
noncomputable def k8c : List ResultVar := Try.f54.results.toList
noncomputable def kyg (o : k1x) : Exit → TSt TB.den → Prop := thenT TB (fun s => ghs TB [] s fun s => WP TB k2m 43 0 (cB (cB (cB (cB (cB k4e))))) .no s (retTQ TB k2m k1n k8c o)) (retTQ TB k2m k1n k8c o)
def k1o : Tm := ⟨[0, 1, 2], [.cells [.d (.int .u64), .d (.int .u64), .d (.int .u64)], .cells [.d (.int .u64), .d (.int .u64), .d (.int .u64)], .cells [.d (.int .u64)]], [0, 3, 4, 5, 6, 17], [.one (.d (.int .u64)), .one (.ptr 0 0), .one (.ptr 1 0), .one (.ptr 2 0), .one (.d (.int .u64)), .one (.d (.int .i64))], 3⟩
noncomputable def kei (o : k1x) (nx2 : HL TB.den k1o.hs → Prop) : Exit → TSt TB.den → Prop := thenT TB (fun s => k1o.mat TB 0 s nx2) (blockT TB 0 (kyg o))
noncomputable def kms (o : k1x) (nx2 : HL TB.den k1o.hs → Prop) : Exit → TSt TB.den → Prop := thenT TB (fun s => ghs TB [] s fun s => WP TB k2m 43 0 (cB (cB (cB (cA (cA (cB (cA (cB (cB (cB (cB k4e))))))))))) .no s (kei o nx2)) (kei o nx2)
noncomputable def kya (o : k1x) (nx2 : HL TB.den k1o.hs → Prop) : Exit → TSt TB.den → Prop := thenT TB (fun s => ghs TB [] s fun s => WP TB k2m 43 0 (cB (cB (cA (cA (cB (cB (cA (cA (cB (cA (cB (cB (cB (cB k4e)))))))))))))) .no s (blockT TB 1 (kms o nx2))) (blockT TB 1 (kms o nx2))
def k61 : Tm := ⟨[0, 1, 2], [.cells [.d (.int .u64), .d (.int .u64), .d (.int .u64)], .cells [.d (.int .u64), .d (.int .u64), .d (.int .u64)], .cells [.d (.int .u64)]], [0, 3, 4, 5, 6, 7, 17, 20], [.one (.d (.int .u64)), .one (.ptr 0 0), .one (.ptr 1 0), .one (.ptr 2 0), .one (.d (.int .u64)), .one (.d (.int .i64)), .one (.d (.int .i64)), .one (.d (.int .i64))], 3⟩
noncomputable def kyq (o : k1x) (nx2 : HL TB.den k1o.hs → Prop) (nx1 : HL TB.den k61.hs → Prop) : Exit → TSt TB.den → Prop := thenT TB (fun s => k61.mat TB 0 s nx1) (blockT TB 2 (kya o nx2))
noncomputable def k8f (o : k1x) (nx2 : HL TB.den k1o.hs → Prop) (nx1 : HL TB.den k61.hs → Prop) (i : HL TB.den k61.hs) : Prop := WP TB k2m 43 0 (cA (cA (cB (cA (cB (cA (cA (cB (cB (cA (cA (cB (cA (cB (cB (cB (cB k4e))))))))))))))))) .no (k61.fill TB i) (kyq o nx2 nx1)
noncomputable def ky4 (o : k1x) (nx2 : HL TB.den k1o.hs → Prop) : An TB := .lp [] k61 (k8f o nx2) fun nx1 => .no
noncomputable def ky1 (o : k1x) (nx2 : HL TB.den k1o.hs → Prop) : An TB := .nd [] .no [] (.nd [] (.nd [] .no [] (ky4 o nx2)) [] .no)
noncomputable def kl9 (o : k1x) (nx2 : HL TB.den k1o.hs → Prop) : An TB := .nd [] .no [] (.nd [] .no [] (.nd [] (ky1 o nx2) [] .no))
noncomputable def k8b (o : k1x) (nx2 : HL TB.den k1o.hs → Prop) (i : HL TB.den k1o.hs) : Prop := WP TB k2m 43 0 (cA (cA (cB (cA (cB (cB (cB (cB k4e)))))))) (kl9 o nx2) (k1o.fill TB i) (kei o nx2)
noncomputable def kw7 (o : k1x) : An TB := .lp [] k1o (k8b o) fun nx2 => (kl9 o nx2)
noncomputable def kwe (o : k1x) : An TB := .nd [] .no [] (.nd [] (.nd [] .no [] (kw7 o)) [] .no)
noncomputable def kmt (o : k1x) : An TB := .nd [] .no [] (.nd [] .no [] (.nd [] .no [] (kwe o)))
noncomputable def kda (x : ko4) (o : k1x) : Prop := WPh TB k2m 43 0 k4e (kmt o) (k1n.st TB x) (retTQ TB k2m k1n k8c o)
set_option maxRecDepth 100000 in
theorem kwt (o : k1x) : OblH TB k2m 43 0 k4e (kmt o) (retTQ TB k2m k1n k8c o) :=
  OblH.of_eq (X := (True ∧ (True ∧ ((True ∧ ((True ∧ True) ∧ True)) ∧ (True ∧ ((True ∧ ((∀ nx i, (k8b o) nx i = (k8b o) nx i) ∧ ∀ nx2 : HL TB.den k1o.hs → Prop, (True ∧ ((True ∧ True) ∧ ((True ∧ ((True ∧ ((∀ nx i, (k8f o nx2) nx i = (k8f o nx2) nx i) ∧ ∀ nx1 : HL TB.den k61.hs → Prop, (True ∧ ((True ∧ True) ∧ ((True ∧ True) ∧ True))))) ∧ True)) ∧ True))))) ∧ (True ∧ True))))))) (by kernel_rfl) ⟨trivial, ⟨trivial, ⟨⟨trivial, ⟨⟨trivial, trivial⟩, trivial⟩⟩, ⟨trivial, ⟨⟨trivial, ⟨fun _ _ => rfl, fun _ => ⟨trivial, ⟨⟨trivial, trivial⟩, ⟨⟨trivial, ⟨⟨trivial, ⟨fun _ _ => rfl, fun _ => ⟨trivial, ⟨⟨trivial, trivial⟩, ⟨⟨trivial, trivial⟩, trivial⟩⟩⟩⟩⟩, trivial⟩⟩, trivial⟩⟩⟩⟩⟩, ⟨trivial, trivial⟩⟩⟩⟩⟩⟩
set_option maxRecDepth 100000 in
theorem kwo {x : ko4} {o : k1x} (h : kda x o) : SoundH Try.prog k1n.f ((k1n.args idf x).map (er TB)) ((k1n.obs idf x).map (erO TB)) (er TB (k1n.val idf o)) ((k1n.ops idf o).map (erO TB)) :=
  Con.soundH (c := k1n) (C := k2m) TBok ⟨inf_ok, (all_cons kcr (all_cons k142 (all_cons kwv (all_cons kvw (all_cons k1fg (all_cons k12y all_nil)))))), all_nil⟩ mix Try.func54 (show Try.f54.body = some k4e by kernel_rfl) (show Try.f54.ntmps = 43 by kernel_rfl) (show Try.f54.results.toList = k8c by kernel_rfl) rfl h (kwt o)
set_option maxRecDepth 100000 in
theorem kyo {p0 : Int} {p1 : TA3} {r0 : TA3} (h :
(((TField.mk p0).P = 18446744069414584321) ∧ ((!true) = true →
 0 = r0.a0 ∧ 0 = r0.a1 ∧ 0 = r0.a2) ∧
((!true) = false →
((TField.mk p0).P = 18446744069414584321) ∧ Md.Loop (p0, (7 : Int), (0 : Int), p1.a0, p1.a1, p1.a2, (0 : Int), (0 : Int), (0 : Int), p0, ()) (k8b (r0.a0, r0.a1, r0.a2, ()))))) : kda (p0, p1.a0, p1.a1, p1.a2, ()) (r0.a0, r0.a1, r0.a2, ()) := WPh.of_eq (by kernel_rfl) h
def kmx (r0 : TA3) (nx2 : HL TB.den k1o.hs → Prop) (k2 : Int → Int → Int → Int → Prop) (s0 : Int) (s6 : Int) (h1_0 : Int) (h1_1 : Int) (h1_2 : Int) (h2_0 : Int) (s17 : Int) (h0_0 : Int) (h0_1 : Int) (h0_2 : Int) : Prop :=
(decide (s17 < 8) = true →
 Md.Loop (s0, s6, s17, s17, (0 : Int), h0_0, h0_1, h0_2, h1_0, h1_1, h1_2, h2_0, ()) (k8f (r0.a0, r0.a1, r0.a2, ()) nx2)) ∧
(decide (s17 < 8) = false →
 h0_0 = r0.a0 ∧ h0_1 = r0.a1 ∧ h0_2 = r0.a2)
set_option maxRecDepth 100000 in
theorem kwn {r0 : TA3} {s0 : Int} {s6 : Int} {h1_0 : Int} {h1_1 : Int} {h1_2 : Int} {h2_0 : Int} {s17 : Int} {h0_0 : Int} {h0_1 : Int} {h0_2 : Int} (inv : Int → Int → Int → Int → Prop) (μ : Int → Int → Int → Int → Nat) (h0 : inv s17 h0_0 h0_1 h0_2) (hs : ∀ (s17 : Int) (h0_0 : Int) (h0_1 : Int) (h0_2 : Int), inv s17 h0_0 h0_1 h0_2 → kmx r0 (fun s : Int × Int × Int × Int × Int × Int × Int × Int × Int × Int × Unit => ((s.1 = s0 ∧ s.2.1 = s6 ∧ s.2.2.2.2.2.2.1 = h1_0 ∧ s.2.2.2.2.2.2.2.1 = h1_1 ∧ s.2.2.2.2.2.2.2.2.1 = h1_2 ∧ s.2.2.2.2.2.2.2.2.2.1 = h2_0) ∧ inv s.2.2.1 s.2.2.2.1 s.2.2.2.2.1 s.2.2.2.2.2.1) ∧ μ s.2.2.1 s.2.2.2.1 s.2.2.2.2.1 s.2.2.2.2.2.1 < μ s17 h0_0 h0_1 h0_2) (fun s17q h0_0q h0_1q h0_2q => inv s17q h0_0q h0_1q h0_2q ∧ μ s17q h0_0q h0_1q h0_2q < μ s17 h0_0 h0_1 h0_2) s0 s6 h1_0 h1_1 h1_2 h2_0 s17 h0_0 h0_1 h0_2) : Md.Loop (s0, s6, s17, h0_0, h0_1, h0_2, h1_0, h1_1, h1_2, h2_0, ()) (k8b (r0.a0, r0.a1, r0.a2, ())) :=
  ⟨⟨fun s : Int × Int × Int × Int × Int × Int × Int × Int × Int × Int × Unit => (s.1 = s0 ∧ s.2.1 = s6 ∧ s.2.2.2.2.2.2.1 = h1_0 ∧ s.2.2.2.2.2.2.2.1 = h1_1 ∧ s.2.2.2.2.2.2.2.2.1 = h1_2 ∧ s.2.2.2.2.2.2.2.2.2.1 = h2_0) ∧ inv s.2.2.1 s.2.2.2.1 s.2.2.2.2.1 s.2.2.2.2.2.1, fun s : Int × Int × Int × Int × Int × Int × Int × Int × Int × Int × Unit => μ s.2.2.1 s.2.2.2.1 s.2.2.2.2.1 s.2.2.2.2.2.1, ⟨⟨rfl, rfl, rfl, rfl, rfl, rfl⟩, h0⟩, fun (s0p, s6p, s17p, h0_0p, h0_1p, h0_2p, h1_0p, h1_1p, h1_2p, h2_0p, ()) ⟨⟨eq0, eq1, eq2, eq3, eq4, eq5⟩, hi⟩ => by
    have eq0 : s0p = s0 := eq0; subst s0p; have eq1 : s6p = s6 := eq1; subst s6p; have eq2 : h1_0p = h1_0 := eq2; subst h1_0p; have eq3 : h1_1p = h1_1 := eq3; subst h1_1p; have eq4 : h1_2p = h1_2 := eq4; subst h1_2p; have eq5 : h2_0p = h2_0 := eq5; subst h2_0p; exact mpr_of (by kernel_rfl) ((congrArg (fun k => kmx r0 (fun s : Int × Int × Int × Int × Int × Int × Int × Int × Int × Int × Unit => ((s.1 = s0 ∧ s.2.1 = s6 ∧ s.2.2.2.2.2.2.1 = h1_0 ∧ s.2.2.2.2.2.2.2.1 = h1_1 ∧ s.2.2.2.2.2.2.2.2.1 = h1_2 ∧ s.2.2.2.2.2.2.2.2.2.1 = h2_0) ∧ inv s.2.2.1 s.2.2.2.1 s.2.2.2.2.1 s.2.2.2.2.2.1) ∧ μ s.2.2.1 s.2.2.2.1 s.2.2.2.2.1 s.2.2.2.2.2.1 < μ s17p h0_0p h0_1p h0_2p) k s0 s6 h1_0 h1_1 h1_2 h2_0 s17p h0_0p h0_1p h0_2p) (lpk4 (⟨rfl, rfl, rfl, rfl, rfl, rfl⟩ : s0 = s0 ∧ s6 = s6 ∧ h1_0 = h1_0 ∧ h1_1 = h1_1 ∧ h1_2 = h1_2 ∧ h2_0 = h2_0) inv (fun s17q h0_0q h0_1q h0_2q => μ s17q h0_0q h0_1q h0_2q < μ s17p h0_0p h0_1p h0_2p))).mpr (hs s17p h0_0p h0_1p h0_2p hi))⟩⟩
def kmi (r0 : TA3) (nx2 : HL TB.den k1o.hs → Prop) (k1 : Int → Int → Int → Int → Prop) (s0 : Int) (s6 : Int) (s7 : Int) (s17 : Int) (h1_0 : Int) (h1_1 : Int) (h1_2 : Int) (h2_0 : Int) (s20 : Int) (h0_0 : Int) (h0_1 : Int) (h0_2 : Int) : Prop :=
(decide (s20 < 3) = true →
(0 ≤ s20 ∧ s20 < (3 : Int)) ∧ (0 ≤ s20 ∧ s20 < (3 : Int)) ∧ (s0 = 18446744069414584321 ∧ (0 ≤ s7 ∧ s7 < 8) ∧ 0 ≤ s20 ∧ s20 < 3) ∧ ((TField.mk h2_0).P = 18446744069414584321 ∧ U64 (ix [h0_0, h0_1, h0_2] s20) ∧ U64 (rc s7 s20)) ∧ let r1 : Int := (((ix [h0_0, h0_1, h0_2] s20) + (rc s7 s20)) % 18446744069414584321)
((TField.mk h2_0).P = 18446744069414584321 ∧ U64 r1 ∧ U64 s6) ∧ (0 ≤ s20 ∧ s20 < (3 : Int)) ∧ (0 ≤ s20 ∧ s20 < (3 : Int)) ∧ k1 (IntKind.i64.wrap (s20 + 1) : Int) ((bif decide (s20 = (0 : Int)) then (pw (r1 % 18446744069414584321) s6) else h0_0) : Int) ((bif decide (s20 = (1 : Int)) then (pw (r1 % 18446744069414584321) s6) else h0_1) : Int) ((bif decide (s20 = (2 : Int)) then (pw (r1 % 18446744069414584321) s6) else h0_2) : Int)) ∧
(decide (s20 < 3) = false →
(s0 = 18446744069414584321 ∧ S3 (TA3.mk h0_0 h0_1 h0_2)) ∧ nx2 (s0, s6, (IntKind.i64.wrap (s17 + 1) : Int), ((mixS (TA3.mk h0_0 h0_1 h0_2)).a0 : Int), ((mixS (TA3.mk h0_0 h0_1 h0_2)).a1 : Int), ((mixS (TA3.mk h0_0 h0_1 h0_2)).a2 : Int), h1_0, h1_1, h1_2, h2_0, ()))
set_option maxRecDepth 100000 in
theorem kwc {r0 : TA3} {nx2 : HL TB.den k1o.hs → Prop} {s0 : Int} {s6 : Int} {s7 : Int} {s17 : Int} {h1_0 : Int} {h1_1 : Int} {h1_2 : Int} {h2_0 : Int} {s20 : Int} {h0_0 : Int} {h0_1 : Int} {h0_2 : Int} (inv : Int → Int → Int → Int → Prop) (μ : Int → Int → Int → Int → Nat) (h0 : inv s20 h0_0 h0_1 h0_2) (hs : ∀ (s20 : Int) (h0_0 : Int) (h0_1 : Int) (h0_2 : Int), inv s20 h0_0 h0_1 h0_2 → kmi r0 nx2 (fun s20q h0_0q h0_1q h0_2q => inv s20q h0_0q h0_1q h0_2q ∧ μ s20q h0_0q h0_1q h0_2q < μ s20 h0_0 h0_1 h0_2) s0 s6 s7 s17 h1_0 h1_1 h1_2 h2_0 s20 h0_0 h0_1 h0_2) : Md.Loop (s0, s6, s7, s17, s20, h0_0, h0_1, h0_2, h1_0, h1_1, h1_2, h2_0, ()) (k8f (r0.a0, r0.a1, r0.a2, ()) nx2) :=
  ⟨⟨fun s : Int × Int × Int × Int × Int × Int × Int × Int × Int × Int × Int × Int × Unit => (s.1 = s0 ∧ s.2.1 = s6 ∧ s.2.2.1 = s7 ∧ s.2.2.2.1 = s17 ∧ s.2.2.2.2.2.2.2.2.1 = h1_0 ∧ s.2.2.2.2.2.2.2.2.2.1 = h1_1 ∧ s.2.2.2.2.2.2.2.2.2.2.1 = h1_2 ∧ s.2.2.2.2.2.2.2.2.2.2.2.1 = h2_0) ∧ inv s.2.2.2.2.1 s.2.2.2.2.2.1 s.2.2.2.2.2.2.1 s.2.2.2.2.2.2.2.1, fun s : Int × Int × Int × Int × Int × Int × Int × Int × Int × Int × Int × Int × Unit => μ s.2.2.2.2.1 s.2.2.2.2.2.1 s.2.2.2.2.2.2.1 s.2.2.2.2.2.2.2.1, ⟨⟨rfl, rfl, rfl, rfl, rfl, rfl, rfl, rfl⟩, h0⟩, fun (s0p, s6p, s7p, s17p, s20p, h0_0p, h0_1p, h0_2p, h1_0p, h1_1p, h1_2p, h2_0p, ()) ⟨⟨eq0, eq1, eq2, eq3, eq4, eq5, eq6, eq7⟩, hi⟩ => by
    have eq0 : s0p = s0 := eq0; subst s0p; have eq1 : s6p = s6 := eq1; subst s6p; have eq2 : s7p = s7 := eq2; subst s7p; have eq3 : s17p = s17 := eq3; subst s17p; have eq4 : h1_0p = h1_0 := eq4; subst h1_0p; have eq5 : h1_1p = h1_1 := eq5; subst h1_1p; have eq6 : h1_2p = h1_2 := eq6; subst h1_2p; have eq7 : h2_0p = h2_0 := eq7; subst h2_0p; exact mpr_of (by kernel_rfl) ((congrArg (fun k => kmi r0 nx2 k s0 s6 s7 s17 h1_0 h1_1 h1_2 h2_0 s20p h0_0p h0_1p h0_2p) (lpk4 (⟨rfl, rfl, rfl, rfl, rfl, rfl, rfl, rfl⟩ : s0 = s0 ∧ s6 = s6 ∧ s7 = s7 ∧ s17 = s17 ∧ h1_0 = h1_0 ∧ h1_1 = h1_1 ∧ h1_2 = h1_2 ∧ h2_0 = h2_0) inv (fun s20q h0_0q h0_1q h0_2q => μ s20q h0_0q h0_1q h0_2q < μ s20p h0_0p h0_1p h0_2p))).mpr (hs s20p h0_0p h0_1p h0_2p hi))⟩⟩
theorem bd54 : Callable Try.prog 54 := ⟨by rw [Try.func54]; kernel_rfl, by rw [Try.func54]; show some _ ≠ some _; decide⟩
theorem kvk (p0 : Int) (p1 : TA3) (h : p0 = 18446744069414584321 ∧ S3 p1) : kda (p0, p1.a0, p1.a1, p1.a2, ()) (((permS p1).a0 : Int), ((permS p1).a1 : Int), ((permS p1).a2 : Int), ()) := by
  obtain ⟨hP, hs⟩ := h
  subst hP
  refine kyo ⟨rfl, fun h => by simp at h, fun _ => ⟨rfl, ?_⟩⟩
  refine kwn (r0 := permS p1) (fun n a b c => 0 ≤ n ∧ n ≤ 8 ∧ (⟨a, b, c⟩ : TA3) = rnds n.toNat p1 ∧ S3 ⟨a, b, c⟩) (fun n _ _ _ => (8 - n).toNat) ⟨by omega, by omega, rfl, hs⟩ ?_
  rintro n a b c ⟨g0, g1, g2, g3⟩
  refine ⟨fun h => ?_, fun h => ?_⟩
  · have h := of_decide_eq_true h
    refine kwc (r0 := permS p1) (fun i x y z => (i = 0 ∧ x = a ∧ y = b ∧ z = c) ∨ (i = 1 ∧ x = pw ((a + rc n 0) % 18446744069414584321) 7 ∧ y = b ∧ z = c) ∨ (i = 2 ∧ x = pw ((a + rc n 0) % 18446744069414584321) 7 ∧ y = pw ((b + rc n 1) % 18446744069414584321) 7 ∧ z = c) ∨ (i = 3 ∧ x = pw ((a + rc n 0) % 18446744069414584321) 7 ∧ y = pw ((b + rc n 1) % 18446744069414584321) 7 ∧ z = pw ((c + rc n 2) % 18446744069414584321) 7)) (fun i _ _ _ => (3 - i).toNat) (.inl ⟨rfl, rfl, rfl, rfl⟩) ?_
    intro i x y z hi
    have hrc : ∀ k, U64 (rc n k) := fun k => by unfold rc; omega
    have hpw : ∀ k e, 0 ≤ pw k e ∧ pw k e < 18446744069414584321 := fun k e => ⟨Int.emod_nonneg _ (by omega), Int.emod_lt_of_pos _ (by omega)⟩
    obtain ⟨h3a, h3b, h3c⟩ := g3
    refine ⟨fun hh => ?_, fun hh => ?_⟩
    · have hh := of_decide_eq_true hh
      rcases hi with ⟨rfl, rfl, rfl, rfl⟩ | ⟨rfl, rfl, rfl, rfl⟩ | ⟨rfl, rfl, rfl, rfl⟩ | ⟨rfl, _⟩
      · refine ⟨by omega, by omega, ⟨rfl, by omega, by omega⟩, ⟨rfl, h3a, hrc _⟩, ⟨rfl, ?_, by omega⟩, by omega, by omega, .inr (.inl ⟨rfl, ?_, rfl, rfl⟩), by decide⟩
        · exact ⟨Int.emod_nonneg _ (by omega), Int.lt_trans (Int.emod_lt_of_pos _ (by omega)) (by omega)⟩
        · show pw ((x + rc n 0) % 18446744069414584321 % 18446744069414584321) 7 = _
          rw [Int.emod_emod_of_dvd _ (Int.dvd_refl _)]
      · refine ⟨by omega, by omega, ⟨rfl, by omega, by omega⟩, ⟨rfl, h3b, hrc _⟩, ⟨rfl, ?_, by omega⟩, by omega, by omega, .inr (.inr (.inl ⟨rfl, rfl, ?_, rfl⟩)), by decide⟩
        · exact ⟨Int.emod_nonneg _ (by omega), Int.lt_trans (Int.emod_lt_of_pos _ (by omega)) (by omega)⟩
        · show pw ((y + rc n 1) % 18446744069414584321 % 18446744069414584321) 7 = _
          rw [Int.emod_emod_of_dvd _ (Int.dvd_refl _)]
      · refine ⟨by omega, by omega, ⟨rfl, by omega, by omega⟩, ⟨rfl, h3c, hrc _⟩, ⟨rfl, ?_, by omega⟩, by omega, by omega, .inr (.inr (.inr ⟨rfl, rfl, rfl, ?_⟩)), by decide⟩
        · exact ⟨Int.emod_nonneg _ (by omega), Int.lt_trans (Int.emod_lt_of_pos _ (by omega)) (by omega)⟩
        · show pw ((z + rc n 2) % 18446744069414584321 % 18446744069414584321) 7 = _
          rw [Int.emod_emod_of_dvd _ (Int.dvd_refl _)]
      · omega
    · have hh := of_decide_eq_false hh
      rcases hi with ⟨rfl, _⟩ | ⟨rfl, _⟩ | ⟨rfl, _⟩ | ⟨rfl, rfl, rfl, rfl⟩
      · omega
      · omega
      · omega
      · have e : rnds (n + 1).toNat p1 = rnd ⟨a, b, c⟩ n := by
          rw [show (n + 1).toNat = n.toNat + 1 by omega]
          show rnd (rnds n.toNat p1) (n.toNat : Int) = _
          rw [← g2, show (n.toNat : Int) = n by omega]
        have hS : S3 (rnds (n + 1).toNat p1) := by
          rw [e]
          unfold rnd mixS S3
          dsimp only
          omega
        have hinc : IntKind.i64.wrap (n + 1) = n + 1 := wi _ (by omega) (by omega)
        rw [hinc]
        refine ⟨⟨rfl, by unfold S3; have := hpw ((a + rc n 0) % 18446744069414584321) 7; have := hpw ((b + rc n 1) % 18446744069414584321) 7; have := hpw ((c + rc n 2) % 18446744069414584321) 7; dsimp only; omega⟩, ⟨⟨rfl, rfl, rfl, rfl, rfl, rfl⟩, (?_ : 0 ≤ n + 1 ∧ n + 1 ≤ 8 ∧ _ ∧ _)⟩, (?_ : (8 - (n + 1)).toNat < (8 - n).toNat)⟩
        · refine ⟨by omega, by omega, e.symm, ?_⟩
          rw [e] at hS
          exact hS
        · omega
  · have h := of_decide_eq_false h
    rw [show n = 8 by omega] at g2
    have g2 : (⟨a, b, c⟩ : TA3) = permS p1 := g2
    rw [← g2]
    exact ⟨rfl, rfl, rfl⟩
noncomputable def kl7 : Con TB.den := k1n.fnR (fun x => (fun (p0 : Int) (p1 : TA3) => p0 = 18446744069414584321 ∧ S3 p1) x.1 (TA3.mk x.2.1 x.2.2.1 x.2.2.2.1)) fun x => ((fun (p0 : Int) (p1 : TA3) => ((permS p1).a0 : Int)) x.1 (TA3.mk x.2.1 x.2.2.1 x.2.2.2.1), (fun (p0 : Int) (p1 : TA3) => ((permS p1).a1 : Int)) x.1 (TA3.mk x.2.1 x.2.2.1 x.2.2.2.1), (fun (p0 : Int) (p1 : TA3) => ((permS p1).a2 : Int)) x.1 (TA3.mk x.2.1 x.2.2.1 x.2.2.2.1), ())
theorem ky8 : kl7.Ok Try.prog TB := Con.ok_fn k1n bd54 fun x h => kwo (kvk x.1 (TA3.mk x.2.1 x.2.2.1 x.2.2.2.1) h)
end Go.Proofs.Ytponaobpcdkggaa
namespace Go.Proofs.Ytponaobpcdkggaa
open Go Go.Bv Go.Cv Go.Md Go.RowKit
def k2j : Con TB.den := Con.mk0 45 [.one (.d (.int .u64)), .one (.d (.int .u64)), .one (.d (.sl (.int .u64)))] [] (.one (.agg [.d (.int .u64), .d (.int .u64), .d (.int .u64)])) []
abbrev kx6 := HL TB.den (hsT k2j.ins (hsOs k2j.pre))
abbrev k4i := HL TB.den (hsV k2j.res (hsOs k2j.post))
noncomputable def k5b : Cx TB := ⟨inf, [k11s, kn3, kl7], [], 4, []⟩
noncomputable def k7g : Code := Try.f45.body.getD .skip
noncomputable def kdb : List ResultVar := Try.f45.results.toList
noncomputable def k169 (o : k4i) : Exit → TSt TB.den → Prop := thenT TB (fun s => ghs TB [] s fun s => WP TB k5b 61 0 (cB (cB (cB (cB (cB k7g))))) .no s (retTQ TB k5b k2j kdb o)) (retTQ TB k5b k2j kdb o)
def k41 : Tm := ⟨[0, 1, 38], [.cells [.d (.int .u64), .d (.int .u64), .d (.int .u64)], .cells [.d (.int .u64)], .cells [.d (.int .u64), .d (.int .u64), .d (.int .u64)]], [0, 2, 6, 7, 8, 9], [.one (.d (.int .u64)), .one (.d (.sl (.int .u64))), .one (.ptr 0 0), .one (.ptr 1 0), .one (.ptr 2 0), .one (.d (.int .i64))], 46⟩
noncomputable def kno (o : k4i) (nx1 : HL TB.den k41.hs → Prop) : Exit → TSt TB.den → Prop := thenT TB (fun s => k41.mat TB 0 s nx1) (blockT TB 0 (k169 o))
noncomputable def k167 (o : k4i) (nx1 : HL TB.den k41.hs → Prop) : Exit → TSt TB.den → Prop := thenT TB (fun s => ghs TB [] s fun s => WP TB k5b 61 0 (cB (cB (cA (cA (cB (cA (cB (cB (cB (cB k7g)))))))))) .no s (kno o nx1)) (kno o nx1)
def kf6 : Tm := ⟨[0, 1, 38], [.cells [.d (.int .u64), .d (.int .u64), .d (.int .u64)], .cells [.d (.int .u64)], .cells [.d (.int .u64), .d (.int .u64), .d (.int .u64)]], [0, 2, 6, 7, 8, 9], [.one (.d (.int .u64)), .one (.d (.sl (.int .u64))), .one (.ptr 0 0), .one (.ptr 1 0), .one (.ptr 2 0), .one (.d (.int .i64))], 86⟩
noncomputable def ktn (o : k4i) (nx1 : HL TB.den k41.hs → Prop) (i : HL TB.den kf6.hs) : Prop := ghs TB [] (kf6.fill TB i) fun s => WP TB k5b 61 0 (cB (cB (cA (cA (cB (cA (cA (cB (cA (cB (cB (cB (cB k7g))))))))))))) .no s (blockT TB 1 (k167 o nx1))
structure kae (o : k4i) (nx1 : HL TB.den k41.hs → Prop) (i : HL TB.den kf6.hs) : Prop where
  h : ktn o nx1 i
noncomputable def kvd (o : k4i) (nx1 : HL TB.den k41.hs → Prop) : An TB := .nd [] .no [] (.jn kf6 (kae o nx1) [] .no [] .no)
noncomputable def kcy (o : k4i) (nx1 : HL TB.den k41.hs → Prop) (i : HL TB.den k41.hs) : Prop := WP TB k5b 61 0 (cA (cA (cB (cA (cB (cB (cB (cB k7g)))))))) (.nd [] .no [] (.nd [] (kvd o nx1) [] .no)) (k41.fill TB i) (kno o nx1)
noncomputable def k16y (o : k4i) : An TB := .lp [] k41 (kcy o) fun nx1 => (.nd [] .no [] (.nd [] (kvd o nx1) [] .no))
noncomputable def k16v (o : k4i) : An TB := .nd [] .no [] (.nd [] (.nd [] .no [] (k16y o)) [] .no)
noncomputable def kut (o : k4i) : An TB := .nd [] .no [] (.nd [] .no [] (.nd [] .no [] (k16v o)))
noncomputable def kjp (x : kx6) (o : k4i) : Prop := WPh TB k5b 61 0 k7g (kut o) (k2j.st TB x) (retTQ TB k5b k2j kdb o)
set_option maxRecDepth 100000 in
theorem k14j (o : k4i) : OblH TB k5b 61 0 k7g (kut o) (retTQ TB k5b k2j kdb o) :=
  OblH.of_eq (X := (True ∧ (True ∧ (True ∧ ((True ∧ ((True ∧ True) ∧ True)) ∧ ((True ∧ ((∀ nx i, (kcy o) nx i = (kcy o) nx i) ∧ ∀ nx1 : HL TB.den k41.hs → Prop, ((True ∧ (True ∧ True)) ∧ ((True ∧ ((True ∧ (True ∧ True)) ∧ (∀ i, (kae o nx1) i = (ktn o nx1) i) ∧ True)) ∧ True)))) ∧ (True ∧ True))))))) (by kernel_rfl) ⟨trivial, ⟨trivial, ⟨trivial, ⟨⟨trivial, ⟨⟨trivial, trivial⟩, trivial⟩⟩, ⟨⟨trivial, ⟨fun _ _ => rfl, fun _ => ⟨⟨trivial, ⟨trivial, trivial⟩⟩, ⟨⟨trivial, ⟨⟨trivial, ⟨trivial, trivial⟩⟩, fun _ => propext ⟨fun h => h.1, fun h => ⟨h⟩⟩, trivial⟩⟩, trivial⟩⟩⟩⟩, ⟨trivial, trivial⟩⟩⟩⟩⟩⟩
set_option maxRecDepth 100000 in
theorem k148 {x : kx6} {o : k4i} (h : kjp x o) : SoundH Try.prog k2j.f ((k2j.args idf x).map (er TB)) ((k2j.obs idf x).map (erO TB)) (er TB (k2j.val idf o)) ((k2j.ops idf o).map (erO TB)) :=
  Con.soundH (c := k2j) (C := k5b) TBok ⟨inf_ok, (all_cons k1ev (all_cons kvw (all_cons ky8 all_nil))), all_nil⟩ mix Try.func45 (show Try.f45.body = some k7g by kernel_rfl) (show Try.f45.ntmps = 61 by kernel_rfl) (show Try.f45.results.toList = kdb by kernel_rfl) rfl h (k14j o)
set_option maxRecDepth 100000 in
theorem k16k {p0 : Int} {p1 : Int} {p2 : List Int} {r0 : TA3} (h :
(((TField.mk p0).P = 18446744069414584321 ∧ U64 p1 ∧ U64 (65536 : Int)) ∧ let r1 : Int := (p1 * (65536 : Int) % 18446744069414584321)
((TField.mk p0).P = 18446744069414584321 ∧ U64 r1 ∧ U64 (IntKind.u64.wrap (p2.length : Int))) ∧ let r2 : Int := ((r1 + (IntKind.u64.wrap (p2.length : Int))) % 18446744069414584321)
(((p2.length : Int) == 0) = true →
(p0 = 18446744069414584321 ∧ S3 (TA3.mk 0 0 r2)) ∧ (permS (TA3.mk 0 0 r2)).a0 = r0.a0 ∧ (permS (TA3.mk 0 0 r2)).a1 = r0.a1 ∧ (permS (TA3.mk 0 0 r2)).a2 = r0.a2) ∧
(((p2.length : Int) == 0) = false →
 Md.Loop (p0, p2, (0 : Int), (0 : Int), (0 : Int), (0 : Int), p0, (0 : Int), (0 : Int), r2, ()) (kcy (r0.a0, r0.a1, r0.a2, ()))))) : kjp (p0, p1, p2, ()) (r0.a0, r0.a1, r0.a2, ()) := WPh.of_eq (by kernel_rfl) h
set_option maxRecDepth 100000 in
theorem k125 {r0 : TA3} {nx1 : HL TB.den k41.hs → Prop} {s0 : Int} {s2 : List Int} {s9 : Int} {h0_0 : Int} {h0_1 : Int} {h0_2 : Int} {h1_0 : Int} {h38_0 : Int} {h38_1 : Int} {h38_2 : Int} (h :
((s0 = 18446744069414584321 ∧ S3 (TA3.mk h38_0 h38_1 h38_2)) ∧ nx1 (s0, s2, (IntKind.i64.wrap (s9 + 2) : Int), h0_0, h0_1, h0_2, h1_0, ((permS (TA3.mk h38_0 h38_1 h38_2)).a0 : Int), ((permS (TA3.mk h38_0 h38_1 h38_2)).a1 : Int), ((permS (TA3.mk h38_0 h38_1 h38_2)).a2 : Int), ()))) : kae (r0.a0, r0.a1, r0.a2, ()) nx1 (s0, s2, s9, h0_0, h0_1, h0_2, h1_0, h38_0, h38_1, h38_2, ()) := ⟨mpr_of (by kernel_rfl) h⟩
def kvr (r0 : TA3) (nx1 : HL TB.den k41.hs → Prop) (k1 : Int → Int → Int → Int → Prop) (s0 : Int) (s2 : List Int) (h0_0 : Int) (h0_1 : Int) (h0_2 : Int) (h1_0 : Int) (s9 : Int) (h38_0 : Int) (h38_1 : Int) (h38_2 : Int) : Prop :=
(decide (s9 < (s2.length : Int)) = true →
(0 ≤ s9) ∧ s9 < (s2.length : Int) ∧ ((TField.mk h1_0).P = 18446744069414584321 ∧ U64 h38_0 ∧ U64 (ix s2 s9)) ∧ let r3 : Int := ((h38_0 + (ix s2 s9)) % 18446744069414584321)
 let v4 : Bool := decide ((IntKind.i64.wrap (s9 + 1)) < (s2.length : Int))
(v4 = true →
(0 ≤ IntKind.i64.wrap (s9 + 1)) ∧ IntKind.i64.wrap (s9 + 1) < (s2.length : Int) ∧ ((TField.mk h1_0).P = 18446744069414584321 ∧ U64 h38_1 ∧ U64 (ix s2 (IntKind.i64.wrap (s9 + 1)))) ∧ let r5 : Int := ((h38_1 + (ix s2 (IntKind.i64.wrap (s9 + 1)))) % 18446744069414584321)
 kae (r0.a0, r0.a1, r0.a2, ()) nx1 (s0, s2, s9, h0_0, h0_1, h0_2, h1_0, r3, r5, h38_2, ())) ∧
(v4 = false →
 kae (r0.a0, r0.a1, r0.a2, ()) nx1 (s0, s2, s9, h0_0, h0_1, h0_2, h1_0, r3, h38_1, h38_2, ()))) ∧
(decide (s9 < (s2.length : Int)) = false →
 h38_0 = r0.a0 ∧ h38_1 = r0.a1 ∧ h38_2 = r0.a2)
set_option maxRecDepth 100000 in
theorem k14h {r0 : TA3} {s0 : Int} {s2 : List Int} {h0_0 : Int} {h0_1 : Int} {h0_2 : Int} {h1_0 : Int} {s9 : Int} {h38_0 : Int} {h38_1 : Int} {h38_2 : Int} (inv : Int → Int → Int → Int → Prop) (μ : Int → Int → Int → Int → Nat) (h0 : inv s9 h38_0 h38_1 h38_2) (hs : ∀ (s9 : Int) (h38_0 : Int) (h38_1 : Int) (h38_2 : Int), inv s9 h38_0 h38_1 h38_2 → kvr r0 (fun s : Int × (List Int) × Int × Int × Int × Int × Int × Int × Int × Int × Unit => ((s.1 = s0 ∧ s.2.1 = s2 ∧ s.2.2.2.1 = h0_0 ∧ s.2.2.2.2.1 = h0_1 ∧ s.2.2.2.2.2.1 = h0_2 ∧ s.2.2.2.2.2.2.1 = h1_0) ∧ inv s.2.2.1 s.2.2.2.2.2.2.2.1 s.2.2.2.2.2.2.2.2.1 s.2.2.2.2.2.2.2.2.2.1) ∧ μ s.2.2.1 s.2.2.2.2.2.2.2.1 s.2.2.2.2.2.2.2.2.1 s.2.2.2.2.2.2.2.2.2.1 < μ s9 h38_0 h38_1 h38_2) (fun s9q h38_0q h38_1q h38_2q => inv s9q h38_0q h38_1q h38_2q ∧ μ s9q h38_0q h38_1q h38_2q < μ s9 h38_0 h38_1 h38_2) s0 s2 h0_0 h0_1 h0_2 h1_0 s9 h38_0 h38_1 h38_2) : Md.Loop (s0, s2, s9, h0_0, h0_1, h0_2, h1_0, h38_0, h38_1, h38_2, ()) (kcy (r0.a0, r0.a1, r0.a2, ())) :=
  ⟨⟨fun s : Int × (List Int) × Int × Int × Int × Int × Int × Int × Int × Int × Unit => (s.1 = s0 ∧ s.2.1 = s2 ∧ s.2.2.2.1 = h0_0 ∧ s.2.2.2.2.1 = h0_1 ∧ s.2.2.2.2.2.1 = h0_2 ∧ s.2.2.2.2.2.2.1 = h1_0) ∧ inv s.2.2.1 s.2.2.2.2.2.2.2.1 s.2.2.2.2.2.2.2.2.1 s.2.2.2.2.2.2.2.2.2.1, fun s : Int × (List Int) × Int × Int × Int × Int × Int × Int × Int × Int × Unit => μ s.2.2.1 s.2.2.2.2.2.2.2.1 s.2.2.2.2.2.2.2.2.1 s.2.2.2.2.2.2.2.2.2.1, ⟨⟨rfl, rfl, rfl, rfl, rfl, rfl⟩, h0⟩, fun (s0p, s2p, s9p, h0_0p, h0_1p, h0_2p, h1_0p, h38_0p, h38_1p, h38_2p, ()) ⟨⟨eq0, eq1, eq2, eq3, eq4, eq5⟩, hi⟩ => by
    have eq0 : s0p = s0 := eq0; subst s0p; have eq1 : s2p = s2 := eq1; subst s2p; have eq2 : h0_0p = h0_0 := eq2; subst h0_0p; have eq3 : h0_1p = h0_1 := eq3; subst h0_1p; have eq4 : h0_2p = h0_2 := eq4; subst h0_2p; have eq5 : h1_0p = h1_0 := eq5; subst h1_0p; exact mpr_of (by kernel_rfl) ((congrArg (fun k => kvr r0 (fun s : Int × (List Int) × Int × Int × Int × Int × Int × Int × Int × Int × Unit => ((s.1 = s0 ∧ s.2.1 = s2 ∧ s.2.2.2.1 = h0_0 ∧ s.2.2.2.2.1 = h0_1 ∧ s.2.2.2.2.2.1 = h0_2 ∧ s.2.2.2.2.2.2.1 = h1_0) ∧ inv s.2.2.1 s.2.2.2.2.2.2.2.1 s.2.2.2.2.2.2.2.2.1 s.2.2.2.2.2.2.2.2.2.1) ∧ μ s.2.2.1 s.2.2.2.2.2.2.2.1 s.2.2.2.2.2.2.2.2.1 s.2.2.2.2.2.2.2.2.2.1 < μ s9p h38_0p h38_1p h38_2p) k s0 s2 h0_0 h0_1 h0_2 h1_0 s9p h38_0p h38_1p h38_2p) (lpk4 (⟨rfl, rfl, rfl, rfl, rfl, rfl⟩ : s0 = s0 ∧ s2 = s2 ∧ h0_0 = h0_0 ∧ h0_1 = h0_1 ∧ h0_2 = h0_2 ∧ h1_0 = h1_0) inv (fun s9q h38_0q h38_1q h38_2q => μ s9q h38_0q h38_1q h38_2q < μ s9p h38_0p h38_1p h38_2p))).mpr (hs s9p h38_0p h38_1p h38_2p hi))⟩⟩
theorem bd45 : Callable Try.prog 45 := ⟨by rw [Try.func45]; kernel_rfl, by rw [Try.func45]; show some _ ≠ some _; decide⟩
theorem k13p (p0 : Int) (p1 : Int) (p2 : List Int) (h : p0 = 18446744069414584321 ∧ U64 p1 ∧ Us p2 ∧ p2.length ≤ 1099511627776) : kjp (p0, p1, p2, ()) (((absS p1 p2).a0 : Int), ((absS p1 p2).a1 : Int), ((absS p1 p2).a2 : Int), ()) := by
  obtain ⟨hP, h1, h2, h3⟩ := h
  subst hP
  have hp : ∀ s : TA3, S3 (permS s) := fun s => by
    show S3 (rnd _ _)
    unfold rnd mixS S3
    dsimp only
    omega
  have hi : S3 (absI p1 p2) := by unfold absI S3; dsimp only; omega
  have e : IntKind.u64.wrap (p2.length : Int) = p2.length := wu _ (by omega) (by omega)
  have em : (p1 * 65536 % 18446744069414584321 + (p2.length : Int)) % 18446744069414584321 = (absI p1 p2).a2 := rfl
  refine k16k ?_
  rw [e]
  refine ⟨⟨rfl, h1, by omega⟩, ⟨rfl, by omega, by omega⟩, fun h => ?_, fun h => ?_⟩
  · have h : p2 = [] := by simpa using h
    refine ⟨⟨rfl, ?_⟩, ?_⟩
    · exact hi
    · have : permS ⟨0, 0, (p1 * 65536 % 18446744069414584321 + (p2.length : Int)) % 18446744069414584321⟩ = absS p1 p2 := by unfold absS; rw [if_pos h]; rfl
      rw [this]
      exact ⟨rfl, rfl, rfl⟩
  · have h : p2 ≠ [] := by simpa using h
    have hv : absL p2 (absI p1 p2) = absS p1 p2 := by unfold absS; rw [if_neg h]
    rw [em]
    refine k14h (r0 := absS p1 p2) (fun i a b c => 0 ≤ i ∧ i ≤ p2.length + 1 ∧ absL (p2.drop i.toNat) ⟨a, b, c⟩ = absS p1 p2 ∧ S3 ⟨a, b, c⟩) (fun i _ _ _ => (p2.length + 2 - i).toNat) ⟨by omega, by omega, hv, hi⟩ ?_
    rintro i a b c ⟨g0, g1, g2, g3⟩
    obtain ⟨h3a, h3b, h3c⟩ := g3
    refine ⟨fun hh => ?_, fun hh => ?_⟩
    · have hh := of_decide_eq_true hh
      have hx := h2 _ (ix_mem p2 i g0 hh)
      rw [wi (i + 1) (by omega) (by omega)]
      have fin : ∀ nx x y z, S3 ⟨x, y, z⟩ → absL (p2.drop (i + 2).toNat) (permS ⟨x, y, z⟩) = absS p1 p2 → (0 ≤ i + 2 ∧ i + 2 ≤ p2.length + 1 ∧ absL (p2.drop (i + 2).toNat) (permS ⟨x, y, z⟩) = absS p1 p2 ∧ S3 (permS ⟨x, y, z⟩) → (p2.length + 2 - (i + 2)).toNat < (p2.length + 2 - i).toNat → nx ((18446744069414584321 : Int), p2, (i + 2 : Int), (0 : Int), (0 : Int), (0 : Int), (18446744069414584321 : Int), (permS ⟨x, y, z⟩).a0, (permS ⟨x, y, z⟩).a1, (permS ⟨x, y, z⟩).a2, ())) → kae ((absS p1 p2).a0, (absS p1 p2).a1, (absS p1 p2).a2, ()) nx ((18446744069414584321 : Int), p2, i, (0 : Int), (0 : Int), (0 : Int), (18446744069414584321 : Int), x, y, z, ()) := by
        intro nx x y z hS hv' hn
        refine k125 (r0 := absS p1 p2) ?_
        rw [wi (i + 2) (by omega) (by omega)]
        exact ⟨⟨rfl, hS⟩, hn ⟨by omega, by omega, hv', hp _⟩ (by omega)⟩
      have hdrop := drop_ix p2 i g0 hh
      rw [hdrop] at g2
      refine ⟨g0, hh, ⟨rfl, h3a, hx⟩, fun h5 => ?_, fun h5 => ?_⟩
      · have h5 := of_decide_eq_true h5
        have hy := h2 _ (ix_mem p2 (i + 1) (by omega) h5)
        rw [drop_ix p2 (i + 1) (by omega) h5, show i + 1 + 1 = i + 2 by omega] at g2
        refine ⟨by omega, h5, ⟨rfl, h3b, hy⟩, fin _ _ _ _ (S3m (by omega) (by omega) h3c) g2 fun k1 k2 => ⟨⟨⟨rfl, rfl, rfl, rfl, rfl, rfl⟩, k1⟩, k2⟩⟩
      · have h5 := of_decide_eq_false h5
        have ed : p2.drop (i + 1).toNat = [] := List.drop_eq_nil_of_le (by omega)
        have ed2 : p2.drop (i + 2).toNat = [] := List.drop_eq_nil_of_le (by omega)
        rw [ed] at g2
        exact fin _ _ _ _ (S3m (by omega) h3b h3c) (by rw [ed2]; exact g2) fun k1 k2 => ⟨⟨⟨rfl, rfl, rfl, rfl, rfl, rfl⟩, k1⟩, k2⟩
    · have hh := of_decide_eq_false hh
      rw [List.drop_eq_nil_of_le (by omega)] at g2
      have g2 : (⟨a, b, c⟩ : TA3) = absS p1 p2 := g2
      rw [← g2]
      exact ⟨rfl, rfl, rfl⟩
noncomputable def ktk : Con TB.den := k2j.fnR (fun x => (fun (p0 : Int) (p1 : Int) (p2 : List Int) => p0 = 18446744069414584321 ∧ U64 p1 ∧ Us p2 ∧ p2.length ≤ 1099511627776) x.1 x.2.1 x.2.2.1) fun x => ((fun (p0 : Int) (p1 : Int) (p2 : List Int) => ((absS p1 p2).a0 : Int)) x.1 x.2.1 x.2.2.1, (fun (p0 : Int) (p1 : Int) (p2 : List Int) => ((absS p1 p2).a1 : Int)) x.1 x.2.1 x.2.2.1, (fun (p0 : Int) (p1 : Int) (p2 : List Int) => ((absS p1 p2).a2 : Int)) x.1 x.2.1 x.2.2.1, ())
theorem k15m : ktk.Ok Try.prog TB := Con.ok_fn k2j bd45 fun x h => k148 (k13p x.1 x.2.1 x.2.2.1 h)
end Go.Proofs.Ytponaobpcdkggaa
namespace Go.Proofs.Ytponaobpcdkggaa
open Go Go.Bv Go.Cv Go.Md Go.RowKit
def k3z : Con TB.den := Con.mk0 35 [.one (.d (.int .u64)), .one (.d (.int .u64)), .one (.d (.sl (.int .u64)))] [] (.one (.one (.d (.int .u64)))) []
abbrev k11l := HL TB.den (hsT k3z.ins (hsOs k3z.pre))
abbrev kn9 := HL TB.den (hsV k3z.res (hsOs k3z.post))
noncomputable def kfy : Cx TB := ⟨inf, [k9h, ktk], [], 4, []⟩
noncomputable def knc : Code := Try.f35.body.getD .skip
noncomputable def kro : List ResultVar := Try.f35.results.toList
noncomputable def kzr (o : kn9) : An TB := .no
noncomputable def knk (x : k11l) (o : kn9) : Prop := WPh TB kfy 16 0 knc (kzr o) (k3z.st TB x) (retTQ TB kfy k3z kro o)
set_option maxRecDepth 100000 in
theorem k18n (o : kn9) : OblH TB kfy 16 0 knc (kzr o) (retTQ TB kfy k3z kro o) :=
  OblH.of_eq (X := (True ∧ ((True ∧ ((True ∧ True) ∧ True)) ∧ (True ∧ True)))) (by kernel_rfl) ⟨trivial, ⟨⟨trivial, ⟨⟨trivial, trivial⟩, trivial⟩⟩, ⟨trivial, trivial⟩⟩⟩
set_option maxRecDepth 100000 in
theorem k17r {x : k11l} {o : kn9} (h : knk x o) : SoundH Try.prog k3z.f ((k3z.args idf x).map (er TB)) ((k3z.obs idf x).map (erO TB)) (er TB (k3z.val idf o)) ((k3z.ops idf o).map (erO TB)) :=
  Con.soundH (c := k3z) (C := kfy) TBok ⟨inf_ok, (all_cons kcr (all_cons k15m all_nil)), all_nil⟩ mix Try.func35 (show Try.f35.body = some knc by kernel_rfl) (show Try.f35.ntmps = 16 by kernel_rfl) (show Try.f35.results.toList = kro by kernel_rfl) rfl h (k18n o)
set_option maxRecDepth 100000 in
theorem k19g {p0 : Int} {p1 : Int} {p2 : List Int} {r0 : Int} (h :
(((TField.mk p0).P = 18446744069414584321) ∧ ((!true) = true →
 0 = r0) ∧
((!true) = false →
(p0 = 18446744069414584321 ∧ U64 p1 ∧ Us p2 ∧ p2.length ≤ 1099511627776) ∧ (absS p1 p2).a0 = r0))) : knk (p0, p1, p2, ()) (r0, ()) := WPh.of_eq (by kernel_rfl) h
theorem bd35 : Callable Try.prog 35 := ⟨by rw [Try.func35]; kernel_rfl, by rw [Try.func35]; show some _ ≠ some _; decide⟩
theorem k16g (p0 : Int) (p1 : Int) (p2 : List Int) (h : p0 = 18446744069414584321 ∧ U64 p1 ∧ Us p2 ∧ p2.length ≤ 1099511627776) : knk (p0, p1, p2, ()) (((hashS p1 p2) : Int), ()) := by
  obtain ⟨hP, h1, h2, h3⟩ := h
  subst hP
  exact k19g ⟨rfl, fun h => by simp at h, fun _ => ⟨⟨rfl, h1, h2, h3⟩, rfl⟩⟩
noncomputable def kxt : Con TB.den := k3z.fnR (fun x => (fun (p0 : Int) (p1 : Int) (p2 : List Int) => p0 = 18446744069414584321 ∧ U64 p1 ∧ Us p2 ∧ p2.length ≤ 1099511627776) x.1 x.2.1 x.2.2.1) fun x => ((fun (p0 : Int) (p1 : Int) (p2 : List Int) => ((hashS p1 p2) : Int)) x.1 x.2.1 x.2.2.1, ())
theorem k19j : kxt.Ok Try.prog TB := Con.ok_fn k3z bd35 fun x h => k17r (k16g x.1 x.2.1 x.2.2.1 h)
end Go.Proofs.Ytponaobpcdkggaa
namespace Go.Proofs.Ytponaobpcdkggaa
open Go Go.Bv Go.Cv Go.Md Go.RowKit
def k2r : Con TB.den := Con.mk0 30 [.one (.ptr 0 0), .one (.d (.int .u64)), .one (.d (.sl (.int .u64)))] [.cells [.d (.bool), .d (.int .u64), .d (.int .i64), .own 1, .mp 2, .mp 3, .mp 4], .tip (.st 1), .map (.str) (.int .i64), .map (.str) (.sl (.int .u64)), .map (.str) (.bool)] (.one (.one (.d (.int .u64)))) [.cells [.d (.bool), .d (.int .u64), .d (.int .i64), .own 1, .mp 2, .mp 3, .mp 4], .tip (.st 1), .map (.str) (.int .i64), .map (.str) (.sl (.int .u64)), .map (.str) (.bool)]
abbrev kx9 := HL TB.den (hsT k2r.ins (hsOs k2r.pre))
abbrev k8a := HL TB.den (hsV k2r.res (hsOs k2r.post))
noncomputable def k8u : Cx TB := ⟨inf, [kqf, kz4, kti, kxt, kqg], [], 4, []⟩
noncomputable def ke8 : Code := Try.f30.body.getD .skip
noncomputable def kho : List ResultVar := Try.f30.results.toList
def kf5 : Tm := ⟨[0, 1, 2, 3, 4], [.cells [.d (.bool), .d (.int .u64), .d (.int .i64), .own 1, .mp 2, .mp 3, .mp 4], .tip (.st 1), .map (.str) (.int .i64), .map (.str) (.sl (.int .u64)), .map (.str) (.bool)], [0, 1, 2, 7, 10], [.one (.ptr 0 0), .one (.d (.int .u64)), .one (.d (.sl (.int .u64))), .one (.d (.str)), .one (.d (.int .u64))], 6⟩
noncomputable def ktd (o : k8a) (i : HL TB.den kf5.hs) : Prop := ghs TB [] (kf5.fill TB i) fun s => WP TB k8u 52 5 (cB (cB (cB (cB (cB (cB ke8)))))) .no s (retTQ TB k8u k2r kho o)
structure kd6 (o : k8a) (i : HL TB.den kf5.hs) : Prop where
  h : ktd o i
noncomputable def k162 (o : k8a) : An TB := .nd [] .no [] (.jn kf5 (kd6 o) [] .no [] .no)
noncomputable def k163 (o : k8a) : An TB := .nd [] .no [] (.nd [] .no [] (.nd [] .no [] (k162 o)))
noncomputable def kvy (o : k8a) : An TB := .nd [] .no [] (k163 o)
noncomputable def kiy (x : kx9) (o : k8a) : Prop := WPh TB k8u 52 5 ke8 (kvy o) (k2r.st TB x) (retTQ TB k8u k2r kho o)
set_option maxRecDepth 100000 in
theorem k14k (o : k8a) : OblH TB k8u 52 5 ke8 (kvy o) (retTQ TB k8u k2r kho o) :=
  OblH.of_eq (X := (True ∧ ((True ∧ ((True ∧ True) ∧ True)) ∧ (True ∧ ((True ∧ (True ∧ ((True ∧ True) ∧ True))) ∧ (True ∧ ((True ∧ (True ∧ True)) ∧ (∀ i, (kd6 o) i = (ktd o) i) ∧ (True ∧ (True ∧ True))))))))) (by kernel_rfl) ⟨trivial, ⟨⟨trivial, ⟨⟨trivial, trivial⟩, trivial⟩⟩, ⟨trivial, ⟨⟨trivial, ⟨trivial, ⟨⟨trivial, trivial⟩, trivial⟩⟩⟩, ⟨trivial, ⟨⟨trivial, ⟨trivial, trivial⟩⟩, fun _ => propext ⟨fun h => h.1, fun h => ⟨h⟩⟩, ⟨trivial, ⟨trivial, trivial⟩⟩⟩⟩⟩⟩⟩⟩
set_option maxRecDepth 100000 in
theorem k13y {x : kx9} {o : k8a} (h : kiy x o) : SoundH Try.prog k2r.f ((k2r.args idf x).map (er TB)) ((k2r.obs idf x).map (erO TB)) (er TB (k2r.val idf o)) ((k2r.ops idf o).map (erO TB)) :=
  Con.soundH (c := k2r) (C := k8u) TBok ⟨inf_ok, (all_cons k12f (all_cons k1co (all_cons k176 (all_cons k19j (all_cons k139 all_nil))))), all_nil⟩ mix Try.func30 (show Try.f30.body = some ke8 by kernel_rfl) (show Try.f30.ntmps = 52 by kernel_rfl) (show Try.f30.results.toList = kho by kernel_rfl) rfl h (k14k o)
set_option maxRecDepth 100000 in
theorem k175 {p1 : Int} {p2 : List Int} {c0_0 : Bool} {c0_1 : Int} {c0_2 : Int} {w1 : List TQuestion} {w2k : List ByteArray} {w2v : List Int} {w3k : List ByteArray} {w3v : List (List Int)} {w4k : List ByteArray} {w4v : List Bool} {r0 : Int} {d0_0 : Bool} {d0_1 : Int} {d0_2 : Int} {e1 : List TQuestion} {e2k : List ByteArray} {e2v : List Int} {e3k : List ByteArray} {e3v : List (List Int)} {e4k : List ByteArray} {e4v : List Bool} (h :
((p2.length ≤ 9223372036854775807) ∧ ((!(allB p2)) = true →
(w1 = w1) ∧ 0 = r0 ∧ c0_0 = d0_0 ∧ c0_1 = d0_1 ∧ c0_2 = d0_2 ∧ w1 = e1 ∧ w2k = e2k ∧ w2v = e2v ∧ w3k = e3k ∧ w3v = e3v ∧ w4k = e4k ∧ w4v = e4v) ∧
((!(allB p2)) = false →
(Us p2 ∧ Us [p1] ∧ p2.length ≤ 1073741824 ∧ [p1].length ≤ 1073741824) ∧ w2k.length = w2v.length ∧ let v1 : Int := mVal (BEq.beq (keyB [p1] p2)) w2k w2v (0 : Int)
(mHas (BEq.beq (keyB [p1] p2)) w2k = true →
(0 ≤ v1) ∧ v1 < (w1.length : Int) ∧ (w1 = w1) ∧ (ix w1 v1).Answer = r0 ∧ c0_0 = d0_0 ∧ c0_1 = d0_1 ∧ c0_2 = d0_2 ∧ w1 = e1 ∧ w2k = e2k ∧ w2v = e2v ∧ w3k = e3k ∧ w3v = e3v ∧ w4k = e4k ∧ w4v = e4v) ∧
(mHas (BEq.beq (keyB [p1] p2)) w2k = false →
(c0_0 = true →
(w1 = w1) ∧ let r2 : Int := ((drO (OS.mk c0_0 c0_1 c0_2 w1 w2k w2v w3k w3v w4k w4v)).n)
 let r3 : Bool := ((drO (OS.mk c0_0 c0_1 c0_2 w1 w2k w2v w3k w3v w4k w4v)).o.a)
 let r4 : Int := ((drO (OS.mk c0_0 c0_1 c0_2 w1 w2k w2v w3k w3v w4k w4v)).o.b)
 let r5 : Int := ((drO (OS.mk c0_0 c0_1 c0_2 w1 w2k w2v w3k w3v w4k w4v)).o.c)
 let r6 : List TQuestion := ((drO (OS.mk c0_0 c0_1 c0_2 w1 w2k w2v w3k w3v w4k w4v)).o.q)
 let r7 : List ByteArray := ((drO (OS.mk c0_0 c0_1 c0_2 w1 w2k w2v w3k w3v w4k w4v)).o.k)
 let r8 : List Int := ((drO (OS.mk c0_0 c0_1 c0_2 w1 w2k w2v w3k w3v w4k w4v)).o.v)
 let r9 : List ByteArray := ((drO (OS.mk c0_0 c0_1 c0_2 w1 w2k w2v w3k w3v w4k w4v)).o.s)
 let r10 : List (List Int) := ((drO (OS.mk c0_0 c0_1 c0_2 w1 w2k w2v w3k w3v w4k w4v)).o.t)
 let r11 : List ByteArray := ((drO (OS.mk c0_0 c0_1 c0_2 w1 w2k w2v w3k w3v w4k w4v)).o.x)
 let r12 : List Bool := ((drO (OS.mk c0_0 c0_1 c0_2 w1 w2k w2v w3k w3v w4k w4v)).o.y)
(r6 = r6) ∧ kd6 (r0, d0_0, d0_1, d0_2, e1, e2k, e2v, e3k, e3v, e4k, e4v, ()) (p1, p2, ((keyB [p1] p2) : ByteArray), r2, r3, r4, r5, r6, r7, r8, r9, r10, r11, r12, ())) ∧
(c0_0 = false →
((18446744069414584321 : Int) = 18446744069414584321 ∧ U64 p1 ∧ Us p2 ∧ p2.length ≤ 1099511627776) ∧ (w1 = w1) ∧ kd6 (r0, d0_0, d0_1, d0_2, e1, e2k, e2v, e3k, e3v, e4k, e4v, ()) (p1, p2, ((keyB [p1] p2) : ByteArray), ((hashS p1 p2) : Int), c0_0, c0_1, c0_2, w1, w2k, w2v, w3k, w3v, w4k, w4v, ())))))) : kiy (p1, p2, c0_0, c0_1, c0_2, w1, w2k, w2v, w3k, w3v, w4k, w4v, ()) (r0, d0_0, d0_1, d0_2, e1, e2k, e2v, e3k, e3v, e4k, e4v, ()) := WPh.of_eq (by kernel_rfl) h
set_option maxRecDepth 100000 in
theorem kqc {r0 : Int} {d0_0 : Bool} {d0_1 : Int} {d0_2 : Int} {e1 : List TQuestion} {e2k : List ByteArray} {e2v : List Int} {e3k : List ByteArray} {e3v : List (List Int)} {e4k : List ByteArray} {e4v : List Bool} {s1 : Int} {s2 : List Int} {s7 : ByteArray} {s10 : Int} {h0_0 : Bool} {h0_1 : Int} {h0_2 : Int} {g1 : List TQuestion} {g2k : List ByteArray} {g2v : List Int} {g3k : List ByteArray} {g3v : List (List Int)} {g4k : List ByteArray} {g4v : List Bool} (h :
((g1 = g1) ∧ (g2k.length = g2v.length ∧ g1.length ≤ 1000000 ∧ s2.length ≤ 1000000000) ∧ let r13 : Bool := ((recO (OS.mk h0_0 h0_1 h0_2 g1 g2k g2v g3k g3v g4k g4v) s7 s1 s2 s10).a)
 let r14 : Int := ((recO (OS.mk h0_0 h0_1 h0_2 g1 g2k g2v g3k g3v g4k g4v) s7 s1 s2 s10).b)
 let r15 : Int := ((recO (OS.mk h0_0 h0_1 h0_2 g1 g2k g2v g3k g3v g4k g4v) s7 s1 s2 s10).c)
 let r16 : List TQuestion := ((recO (OS.mk h0_0 h0_1 h0_2 g1 g2k g2v g3k g3v g4k g4v) s7 s1 s2 s10).q)
 let r17 : List ByteArray := ((recO (OS.mk h0_0 h0_1 h0_2 g1 g2k g2v g3k g3v g4k g4v) s7 s1 s2 s10).k)
 let r18 : List Int := ((recO (OS.mk h0_0 h0_1 h0_2 g1 g2k g2v g3k g3v g4k g4v) s7 s1 s2 s10).v)
 let r19 : List ByteArray := ((recO (OS.mk h0_0 h0_1 h0_2 g1 g2k g2v g3k g3v g4k g4v) s7 s1 s2 s10).s)
 let r20 : List (List Int) := ((recO (OS.mk h0_0 h0_1 h0_2 g1 g2k g2v g3k g3v g4k g4v) s7 s1 s2 s10).t)
 let r21 : List ByteArray := ((recO (OS.mk h0_0 h0_1 h0_2 g1 g2k g2v g3k g3v g4k g4v) s7 s1 s2 s10).x)
 let r22 : List Bool := ((recO (OS.mk h0_0 h0_1 h0_2 g1 g2k g2v g3k g3v g4k g4v) s7 s1 s2 s10).y)
(r16 = r16) ∧ s10 = r0 ∧ r13 = d0_0 ∧ r14 = d0_1 ∧ r15 = d0_2 ∧ r16 = e1 ∧ r17 = e2k ∧ r18 = e2v ∧ r19 = e3k ∧ r20 = e3v ∧ r21 = e4k ∧ r22 = e4v)) : kd6 (r0, d0_0, d0_1, d0_2, e1, e2k, e2v, e3k, e3v, e4k, e4v, ()) (s1, s2, s7, s10, h0_0, h0_1, h0_2, g1, g2k, g2v, g3k, g3v, g4k, g4v, ()) := ⟨mpr_of (by kernel_rfl) h⟩
theorem bd30 : Callable Try.prog 30 := ⟨by rw [Try.func30]; kernel_rfl, by rw [Try.func30]; show some _ ≠ some _; decide⟩
theorem k13m (p1 : Int) (p2 : List Int) (c0_0 : Bool) (c0_1 : Int) (c0_2 : Int) (w1 : List TQuestion) (w2k : List ByteArray) (w2v : List Int) (w3k : List ByteArray) (w3v : List (List Int)) (w4k : List ByteArray) (w4v : List Bool) (h : U64 p1 ∧ (Us p2 ∧ p2.length ≤ 1000000000) ∧ OOk (OS.mk c0_0 c0_1 c0_2 w1 w2k w2v w3k w3v w4k w4v)) : kiy (p1, p2, c0_0, c0_1, c0_2, w1, w2k, w2v, w3k, w3v, w4k, w4v, ()) ((((hO (OS.mk c0_0 c0_1 c0_2 w1 w2k w2v w3k w3v w4k w4v) p1 p2).n) : Int), (((hO (OS.mk c0_0 c0_1 c0_2 w1 w2k w2v w3k w3v w4k w4v) p1 p2).o.a) : Bool), (((hO (OS.mk c0_0 c0_1 c0_2 w1 w2k w2v w3k w3v w4k w4v) p1 p2).o.b) : Int), (((hO (OS.mk c0_0 c0_1 c0_2 w1 w2k w2v w3k w3v w4k w4v) p1 p2).o.c) : Int), (((hO (OS.mk c0_0 c0_1 c0_2 w1 w2k w2v w3k w3v w4k w4v) p1 p2).o.q) : List TQuestion), (((hO (OS.mk c0_0 c0_1 c0_2 w1 w2k w2v w3k w3v w4k w4v) p1 p2).o.k) : List ByteArray), (((hO (OS.mk c0_0 c0_1 c0_2 w1 w2k w2v w3k w3v w4k w4v) p1 p2).o.v) : List Int), (((hO (OS.mk c0_0 c0_1 c0_2 w1 w2k w2v w3k w3v w4k w4v) p1 p2).o.s) : List ByteArray), (((hO (OS.mk c0_0 c0_1 c0_2 w1 w2k w2v w3k w3v w4k w4v) p1 p2).o.t) : List (List Int)), (((hO (OS.mk c0_0 c0_1 c0_2 w1 w2k w2v w3k w3v w4k w4v) p1 p2).o.x) : List ByteArray), (((hO (OS.mk c0_0 c0_1 c0_2 w1 w2k w2v w3k w3v w4k w4v) p1 p2).o.y) : List Bool), ()) := by
  obtain ⟨h1, ⟨h2, h3⟩, h4⟩ := h
  have hl := h4.or.len
  have hq := h4.q
  refine k175 ⟨by omega, fun e => ?_, fun e => ?_⟩
  · have e : allB p2 = false := by simpa using e
    unfold hO
    rw [if_neg (by rw [e]; decide)]
    exact ⟨rfl, rfl, rfl, rfl, rfl, rfl, rfl, rfl, rfl, rfl, rfl, rfl⟩
  · have e : allB p2 = true := by simpa using e
    refine ⟨⟨h2, fun x hx => by rw [List.mem_singleton.1 hx]; exact h1, by omega, by simp⟩, hl, ?_⟩
    try dsimp only
    refine ⟨fun e2 => ?_, fun e2 => ?_⟩
    · have := k1f5 h4 e2
      unfold hO
      rw [if_pos e, if_pos e2]
      exact ⟨this.1, this.2, rfl, rfl, rfl, rfl, rfl, rfl, rfl, rfl, rfl, rfl, rfl, rfl⟩
    · have e3 : ¬ mHas (BEq.beq (keyB [p1] p2)) (OS.mk c0_0 c0_1 c0_2 w1 w2k w2v w3k w3v w4k w4v).k = true := by rw [e2]; decide
      unfold hO
      rw [if_pos e, if_neg e3]
      refine ⟨fun e4 => ?_, fun e4 => ?_⟩
      · subst e4
        exact ⟨rfl, rfl, kqc ⟨rfl, ⟨hl, hq, h3⟩, rfl, rfl, rfl, rfl, rfl, rfl, rfl, rfl, rfl, rfl, rfl, rfl⟩⟩
      · subst e4
        exact ⟨⟨rfl, h1, h2, by omega⟩, rfl, kqc ⟨rfl, ⟨hl, hq, h3⟩, rfl, rfl, rfl, rfl, rfl, rfl, rfl, rfl, rfl, rfl, rfl, rfl⟩⟩
noncomputable def klw : Con TB.den := k2r.fnR (fun x => (fun (p1 : Int) (p2 : List Int) (c0_0 : Bool) (c0_1 : Int) (c0_2 : Int) (w1 : List TQuestion) (w2k : List ByteArray) (w2v : List Int) (w3k : List ByteArray) (w3v : List (List Int)) (w4k : List ByteArray) (w4v : List Bool) => U64 p1 ∧ (Us p2 ∧ p2.length ≤ 1000000000) ∧ OOk (OS.mk c0_0 c0_1 c0_2 w1 w2k w2v w3k w3v w4k w4v)) x.1 x.2.1 x.2.2.1 x.2.2.2.1 x.2.2.2.2.1 x.2.2.2.2.2.1 x.2.2.2.2.2.2.1 x.2.2.2.2.2.2.2.1 x.2.2.2.2.2.2.2.2.1 x.2.2.2.2.2.2.2.2.2.1 x.2.2.2.2.2.2.2.2.2.2.1 x.2.2.2.2.2.2.2.2.2.2.2.1) fun x => ((fun (p1 : Int) (p2 : List Int) (c0_0 : Bool) (c0_1 : Int) (c0_2 : Int) (w1 : List TQuestion) (w2k : List ByteArray) (w2v : List Int) (w3k : List ByteArray) (w3v : List (List Int)) (w4k : List ByteArray) (w4v : List Bool) => (((hO (OS.mk c0_0 c0_1 c0_2 w1 w2k w2v w3k w3v w4k w4v) p1 p2).n) : Int)) x.1 x.2.1 x.2.2.1 x.2.2.2.1 x.2.2.2.2.1 x.2.2.2.2.2.1 x.2.2.2.2.2.2.1 x.2.2.2.2.2.2.2.1 x.2.2.2.2.2.2.2.2.1 x.2.2.2.2.2.2.2.2.2.1 x.2.2.2.2.2.2.2.2.2.2.1 x.2.2.2.2.2.2.2.2.2.2.2.1, (fun (p1 : Int) (p2 : List Int) (c0_0 : Bool) (c0_1 : Int) (c0_2 : Int) (w1 : List TQuestion) (w2k : List ByteArray) (w2v : List Int) (w3k : List ByteArray) (w3v : List (List Int)) (w4k : List ByteArray) (w4v : List Bool) => (((hO (OS.mk c0_0 c0_1 c0_2 w1 w2k w2v w3k w3v w4k w4v) p1 p2).o.a) : Bool)) x.1 x.2.1 x.2.2.1 x.2.2.2.1 x.2.2.2.2.1 x.2.2.2.2.2.1 x.2.2.2.2.2.2.1 x.2.2.2.2.2.2.2.1 x.2.2.2.2.2.2.2.2.1 x.2.2.2.2.2.2.2.2.2.1 x.2.2.2.2.2.2.2.2.2.2.1 x.2.2.2.2.2.2.2.2.2.2.2.1, (fun (p1 : Int) (p2 : List Int) (c0_0 : Bool) (c0_1 : Int) (c0_2 : Int) (w1 : List TQuestion) (w2k : List ByteArray) (w2v : List Int) (w3k : List ByteArray) (w3v : List (List Int)) (w4k : List ByteArray) (w4v : List Bool) => (((hO (OS.mk c0_0 c0_1 c0_2 w1 w2k w2v w3k w3v w4k w4v) p1 p2).o.b) : Int)) x.1 x.2.1 x.2.2.1 x.2.2.2.1 x.2.2.2.2.1 x.2.2.2.2.2.1 x.2.2.2.2.2.2.1 x.2.2.2.2.2.2.2.1 x.2.2.2.2.2.2.2.2.1 x.2.2.2.2.2.2.2.2.2.1 x.2.2.2.2.2.2.2.2.2.2.1 x.2.2.2.2.2.2.2.2.2.2.2.1, (fun (p1 : Int) (p2 : List Int) (c0_0 : Bool) (c0_1 : Int) (c0_2 : Int) (w1 : List TQuestion) (w2k : List ByteArray) (w2v : List Int) (w3k : List ByteArray) (w3v : List (List Int)) (w4k : List ByteArray) (w4v : List Bool) => (((hO (OS.mk c0_0 c0_1 c0_2 w1 w2k w2v w3k w3v w4k w4v) p1 p2).o.c) : Int)) x.1 x.2.1 x.2.2.1 x.2.2.2.1 x.2.2.2.2.1 x.2.2.2.2.2.1 x.2.2.2.2.2.2.1 x.2.2.2.2.2.2.2.1 x.2.2.2.2.2.2.2.2.1 x.2.2.2.2.2.2.2.2.2.1 x.2.2.2.2.2.2.2.2.2.2.1 x.2.2.2.2.2.2.2.2.2.2.2.1, (fun (p1 : Int) (p2 : List Int) (c0_0 : Bool) (c0_1 : Int) (c0_2 : Int) (w1 : List TQuestion) (w2k : List ByteArray) (w2v : List Int) (w3k : List ByteArray) (w3v : List (List Int)) (w4k : List ByteArray) (w4v : List Bool) => (((hO (OS.mk c0_0 c0_1 c0_2 w1 w2k w2v w3k w3v w4k w4v) p1 p2).o.q) : List TQuestion)) x.1 x.2.1 x.2.2.1 x.2.2.2.1 x.2.2.2.2.1 x.2.2.2.2.2.1 x.2.2.2.2.2.2.1 x.2.2.2.2.2.2.2.1 x.2.2.2.2.2.2.2.2.1 x.2.2.2.2.2.2.2.2.2.1 x.2.2.2.2.2.2.2.2.2.2.1 x.2.2.2.2.2.2.2.2.2.2.2.1, (fun (p1 : Int) (p2 : List Int) (c0_0 : Bool) (c0_1 : Int) (c0_2 : Int) (w1 : List TQuestion) (w2k : List ByteArray) (w2v : List Int) (w3k : List ByteArray) (w3v : List (List Int)) (w4k : List ByteArray) (w4v : List Bool) => (((hO (OS.mk c0_0 c0_1 c0_2 w1 w2k w2v w3k w3v w4k w4v) p1 p2).o.k) : List ByteArray)) x.1 x.2.1 x.2.2.1 x.2.2.2.1 x.2.2.2.2.1 x.2.2.2.2.2.1 x.2.2.2.2.2.2.1 x.2.2.2.2.2.2.2.1 x.2.2.2.2.2.2.2.2.1 x.2.2.2.2.2.2.2.2.2.1 x.2.2.2.2.2.2.2.2.2.2.1 x.2.2.2.2.2.2.2.2.2.2.2.1, (fun (p1 : Int) (p2 : List Int) (c0_0 : Bool) (c0_1 : Int) (c0_2 : Int) (w1 : List TQuestion) (w2k : List ByteArray) (w2v : List Int) (w3k : List ByteArray) (w3v : List (List Int)) (w4k : List ByteArray) (w4v : List Bool) => (((hO (OS.mk c0_0 c0_1 c0_2 w1 w2k w2v w3k w3v w4k w4v) p1 p2).o.v) : List Int)) x.1 x.2.1 x.2.2.1 x.2.2.2.1 x.2.2.2.2.1 x.2.2.2.2.2.1 x.2.2.2.2.2.2.1 x.2.2.2.2.2.2.2.1 x.2.2.2.2.2.2.2.2.1 x.2.2.2.2.2.2.2.2.2.1 x.2.2.2.2.2.2.2.2.2.2.1 x.2.2.2.2.2.2.2.2.2.2.2.1, (fun (p1 : Int) (p2 : List Int) (c0_0 : Bool) (c0_1 : Int) (c0_2 : Int) (w1 : List TQuestion) (w2k : List ByteArray) (w2v : List Int) (w3k : List ByteArray) (w3v : List (List Int)) (w4k : List ByteArray) (w4v : List Bool) => (((hO (OS.mk c0_0 c0_1 c0_2 w1 w2k w2v w3k w3v w4k w4v) p1 p2).o.s) : List ByteArray)) x.1 x.2.1 x.2.2.1 x.2.2.2.1 x.2.2.2.2.1 x.2.2.2.2.2.1 x.2.2.2.2.2.2.1 x.2.2.2.2.2.2.2.1 x.2.2.2.2.2.2.2.2.1 x.2.2.2.2.2.2.2.2.2.1 x.2.2.2.2.2.2.2.2.2.2.1 x.2.2.2.2.2.2.2.2.2.2.2.1, (fun (p1 : Int) (p2 : List Int) (c0_0 : Bool) (c0_1 : Int) (c0_2 : Int) (w1 : List TQuestion) (w2k : List ByteArray) (w2v : List Int) (w3k : List ByteArray) (w3v : List (List Int)) (w4k : List ByteArray) (w4v : List Bool) => (((hO (OS.mk c0_0 c0_1 c0_2 w1 w2k w2v w3k w3v w4k w4v) p1 p2).o.t) : List (List Int))) x.1 x.2.1 x.2.2.1 x.2.2.2.1 x.2.2.2.2.1 x.2.2.2.2.2.1 x.2.2.2.2.2.2.1 x.2.2.2.2.2.2.2.1 x.2.2.2.2.2.2.2.2.1 x.2.2.2.2.2.2.2.2.2.1 x.2.2.2.2.2.2.2.2.2.2.1 x.2.2.2.2.2.2.2.2.2.2.2.1, (fun (p1 : Int) (p2 : List Int) (c0_0 : Bool) (c0_1 : Int) (c0_2 : Int) (w1 : List TQuestion) (w2k : List ByteArray) (w2v : List Int) (w3k : List ByteArray) (w3v : List (List Int)) (w4k : List ByteArray) (w4v : List Bool) => (((hO (OS.mk c0_0 c0_1 c0_2 w1 w2k w2v w3k w3v w4k w4v) p1 p2).o.x) : List ByteArray)) x.1 x.2.1 x.2.2.1 x.2.2.2.1 x.2.2.2.2.1 x.2.2.2.2.2.1 x.2.2.2.2.2.2.1 x.2.2.2.2.2.2.2.1 x.2.2.2.2.2.2.2.2.1 x.2.2.2.2.2.2.2.2.2.1 x.2.2.2.2.2.2.2.2.2.2.1 x.2.2.2.2.2.2.2.2.2.2.2.1, (fun (p1 : Int) (p2 : List Int) (c0_0 : Bool) (c0_1 : Int) (c0_2 : Int) (w1 : List TQuestion) (w2k : List ByteArray) (w2v : List Int) (w3k : List ByteArray) (w3v : List (List Int)) (w4k : List ByteArray) (w4v : List Bool) => (((hO (OS.mk c0_0 c0_1 c0_2 w1 w2k w2v w3k w3v w4k w4v) p1 p2).o.y) : List Bool)) x.1 x.2.1 x.2.2.1 x.2.2.2.1 x.2.2.2.2.1 x.2.2.2.2.2.1 x.2.2.2.2.2.2.1 x.2.2.2.2.2.2.2.1 x.2.2.2.2.2.2.2.2.1 x.2.2.2.2.2.2.2.2.2.1 x.2.2.2.2.2.2.2.2.2.2.1 x.2.2.2.2.2.2.2.2.2.2.2.1, ())
theorem kvc : klw.Ok Try.prog TB := Con.ok_fn k2r bd30 fun x h => k13y (k13m x.1 x.2.1 x.2.2.1 x.2.2.2.1 x.2.2.2.2.1 x.2.2.2.2.2.1 x.2.2.2.2.2.2.1 x.2.2.2.2.2.2.2.1 x.2.2.2.2.2.2.2.2.1 x.2.2.2.2.2.2.2.2.2.1 x.2.2.2.2.2.2.2.2.2.2.1 x.2.2.2.2.2.2.2.2.2.2.2.1 h)
end Go.Proofs.Ytponaobpcdkggaa
namespace Go.Proofs.Ytponaobpcdkggaa
open Go Go.Bv Go.Cv Go.Md Go.RowKit
def k1l : Con TB.den := Con.mk0 12 [.one (.ptr 0 0), .agg [.d (.int .u64), .d (.int .u64)], .one (.d (.int .u64))] [.cells [.d (.bool), .d (.int .u64), .d (.int .i64), .own 1, .mp 2, .mp 3, .mp 4], .tip (.st 1), .map (.str) (.int .i64), .map (.str) (.sl (.int .u64)), .map (.str) (.bool)] (.tup [.one (.d (.int .u64)), .agg [.d (.int .u64), .d (.int .u64)]]) [.cells [.d (.bool), .d (.int .u64), .d (.int .i64), .own 1, .mp 2, .mp 3, .mp 4], .tip (.st 1), .map (.str) (.int .i64), .map (.str) (.sl (.int .u64)), .map (.str) (.bool)]
abbrev kjl := HL TB.den (hsT k1l.ins (hsOs k1l.pre))
abbrev k9n := HL TB.den (hsV k1l.res (hsOs k1l.post))
noncomputable def k71 : Cx TB := ⟨inf, [klw], [], 4, []⟩
noncomputable def kay : Code := Try.f12.body.getD .skip
noncomputable def kce : List ResultVar := Try.f12.results.toList
noncomputable def kin (o : k9n) : An TB := .no
noncomputable def kaq (x : kjl) (o : k9n) : Prop := WPh TB k71 28 5 kay (kin o) (k1l.st TB x) (retTQ TB k71 k1l kce o)
set_option maxRecDepth 100000 in
theorem ksx (o : k9n) : OblH TB k71 28 5 kay (kin o) (retTQ TB k71 k1l kce o) :=
  OblH.of_eq (X := (True ∧ ((True ∧ ((True ∧ True) ∧ True)) ∧ (True ∧ (True ∧ True))))) (by kernel_rfl) ⟨trivial, ⟨⟨trivial, ⟨⟨trivial, trivial⟩, trivial⟩⟩, ⟨trivial, ⟨trivial, trivial⟩⟩⟩⟩
set_option maxRecDepth 100000 in
theorem ksu {x : kjl} {o : k9n} (h : kaq x o) : SoundH Try.prog k1l.f ((k1l.args idf x).map (er TB)) ((k1l.obs idf x).map (erO TB)) (er TB (k1l.val idf o)) ((k1l.ops idf o).map (erO TB)) :=
  Con.soundH (c := k1l) (C := k71) TBok ⟨inf_ok, (all_cons kvc all_nil), all_nil⟩ mix Try.func12 (show Try.f12.body = some kay by kernel_rfl) (show Try.f12.ntmps = 28 by kernel_rfl) (show Try.f12.results.toList = kce by kernel_rfl) rfl h (ksx o)
set_option maxRecDepth 100000 in
theorem ku6 {p1 : TTranscript} {p2 : Int} {c0_0 : Bool} {c0_1 : Int} {c0_2 : Int} {w1 : List TQuestion} {w2k : List ByteArray} {w2v : List Int} {w3k : List ByteArray} {w3v : List (List Int)} {w4k : List ByteArray} {w4v : List Bool} {r0 : Int} {r1 : TTranscript} {d0_0 : Bool} {d0_1 : Int} {d0_2 : Int} {e1 : List TQuestion} {e2k : List ByteArray} {e2v : List Int} {e3k : List ByteArray} {e3v : List (List Int)} {e4k : List ByteArray} {e4v : List Bool} (h :
(((p2 == 0) = true →
(w1 = w1) ∧ 0 = r0 ∧ p1.State = r1.State ∧ p1.Count = r1.Count ∧ c0_0 = d0_0 ∧ c0_1 = d0_1 ∧ c0_2 = d0_2 ∧ w1 = e1 ∧ w2k = e2k ∧ w2v = e2v ∧ w3k = e3k ∧ w3v = e3v ∧ w4k = e4k ∧ w4v = e4v) ∧
((p2 == 0) = false →
(w1 = w1) ∧ (U64 (19 : Int) ∧ (Us [p1.State, p1.Count] ∧ [p1.State, p1.Count].length ≤ 1000000000) ∧ OOk (OS.mk c0_0 c0_1 c0_2 w1 w2k w2v w3k w3v w4k w4v)) ∧ let r2 : Int := ((hO (OS.mk c0_0 c0_1 c0_2 w1 w2k w2v w3k w3v w4k w4v) (19 : Int) [p1.State, p1.Count]).n)
 let r3 : Bool := ((hO (OS.mk c0_0 c0_1 c0_2 w1 w2k w2v w3k w3v w4k w4v) (19 : Int) [p1.State, p1.Count]).o.a)
 let r4 : Int := ((hO (OS.mk c0_0 c0_1 c0_2 w1 w2k w2v w3k w3v w4k w4v) (19 : Int) [p1.State, p1.Count]).o.b)
 let r5 : Int := ((hO (OS.mk c0_0 c0_1 c0_2 w1 w2k w2v w3k w3v w4k w4v) (19 : Int) [p1.State, p1.Count]).o.c)
 let r6 : List TQuestion := ((hO (OS.mk c0_0 c0_1 c0_2 w1 w2k w2v w3k w3v w4k w4v) (19 : Int) [p1.State, p1.Count]).o.q)
 let r7 : List ByteArray := ((hO (OS.mk c0_0 c0_1 c0_2 w1 w2k w2v w3k w3v w4k w4v) (19 : Int) [p1.State, p1.Count]).o.k)
 let r8 : List Int := ((hO (OS.mk c0_0 c0_1 c0_2 w1 w2k w2v w3k w3v w4k w4v) (19 : Int) [p1.State, p1.Count]).o.v)
 let r9 : List ByteArray := ((hO (OS.mk c0_0 c0_1 c0_2 w1 w2k w2v w3k w3v w4k w4v) (19 : Int) [p1.State, p1.Count]).o.s)
 let r10 : List (List Int) := ((hO (OS.mk c0_0 c0_1 c0_2 w1 w2k w2v w3k w3v w4k w4v) (19 : Int) [p1.State, p1.Count]).o.t)
 let r11 : List ByteArray := ((hO (OS.mk c0_0 c0_1 c0_2 w1 w2k w2v w3k w3v w4k w4v) (19 : Int) [p1.State, p1.Count]).o.x)
 let r12 : List Bool := ((hO (OS.mk c0_0 c0_1 c0_2 w1 w2k w2v w3k w3v w4k w4v) (19 : Int) [p1.State, p1.Count]).o.y)
(p2 ≠ 0) ∧ (r6 = r6) ∧ Int.tmod r2 p2 = r0 ∧ p1.State = r1.State ∧ IntKind.u64.wrap (p1.Count + 1) = r1.Count ∧ r3 = d0_0 ∧ r4 = d0_1 ∧ r5 = d0_2 ∧ r6 = e1 ∧ r7 = e2k ∧ r8 = e2v ∧ r9 = e3k ∧ r10 = e3v ∧ r11 = e4k ∧ r12 = e4v))) : kaq (p1.State, p1.Count, p2, c0_0, c0_1, c0_2, w1, w2k, w2v, w3k, w3v, w4k, w4v, ()) (r0, r1.State, r1.Count, d0_0, d0_1, d0_2, e1, e2k, e2v, e3k, e3v, e4k, e4v, ()) := WPh.of_eq (by kernel_rfl) h
theorem bd12 : Callable Try.prog 12 := ⟨by rw [Try.func12]; kernel_rfl, by rw [Try.func12]; show some _ ≠ some _; decide⟩
theorem ksi (p1 : TTranscript) (p2 : Int) (c0_0 : Bool) (c0_1 : Int) (c0_2 : Int) (w1 : List TQuestion) (w2k : List ByteArray) (w2v : List Int) (w3k : List ByteArray) (w3v : List (List Int)) (w4k : List ByteArray) (w4v : List Bool) (h : (U64 p1.State ∧ U64 p1.Count) ∧ OOk (OS.mk c0_0 c0_1 c0_2 w1 w2k w2v w3k w3v w4k w4v)) : kaq (p1.State, p1.Count, p2, c0_0, c0_1, c0_2, w1, w2k, w2v, w3k, w3v, w4k, w4v, ()) ((((chO (OS.mk c0_0 c0_1 c0_2 w1 w2k w2v w3k w3v w4k w4v) p1 p2).n) : Int), (((chO (OS.mk c0_0 c0_1 c0_2 w1 w2k w2v w3k w3v w4k w4v) p1 p2).t).State : Int), (((chO (OS.mk c0_0 c0_1 c0_2 w1 w2k w2v w3k w3v w4k w4v) p1 p2).t).Count : Int), (((chO (OS.mk c0_0 c0_1 c0_2 w1 w2k w2v w3k w3v w4k w4v) p1 p2).o.a) : Bool), (((chO (OS.mk c0_0 c0_1 c0_2 w1 w2k w2v w3k w3v w4k w4v) p1 p2).o.b) : Int), (((chO (OS.mk c0_0 c0_1 c0_2 w1 w2k w2v w3k w3v w4k w4v) p1 p2).o.c) : Int), (((chO (OS.mk c0_0 c0_1 c0_2 w1 w2k w2v w3k w3v w4k w4v) p1 p2).o.q) : List TQuestion), (((chO (OS.mk c0_0 c0_1 c0_2 w1 w2k w2v w3k w3v w4k w4v) p1 p2).o.k) : List ByteArray), (((chO (OS.mk c0_0 c0_1 c0_2 w1 w2k w2v w3k w3v w4k w4v) p1 p2).o.v) : List Int), (((chO (OS.mk c0_0 c0_1 c0_2 w1 w2k w2v w3k w3v w4k w4v) p1 p2).o.s) : List ByteArray), (((chO (OS.mk c0_0 c0_1 c0_2 w1 w2k w2v w3k w3v w4k w4v) p1 p2).o.t) : List (List Int)), (((chO (OS.mk c0_0 c0_1 c0_2 w1 w2k w2v w3k w3v w4k w4v) p1 p2).o.x) : List ByteArray), (((chO (OS.mk c0_0 c0_1 c0_2 w1 w2k w2v w3k w3v w4k w4v) p1 p2).o.y) : List Bool), ()) := by
  obtain ⟨⟨h1, h2⟩, h3⟩ := h
  refine ku6 (r1 := (chO (OS.mk c0_0 c0_1 c0_2 w1 w2k w2v w3k w3v w4k w4v) p1 p2).t) ⟨fun e => ?_, fun e => ?_⟩
  · have e : p2 = 0 := by simpa using e
    unfold chO
    rw [if_pos e]
    exact ⟨rfl, rfl, rfl, rfl, rfl, rfl, rfl, rfl, rfl, rfl, rfl, rfl, rfl, rfl⟩
  · have e : ¬ p2 = 0 := by simpa using e
    unfold chO
    rw [if_neg e]
    refine ⟨rfl, ⟨by decide, ⟨fun x hx => ?_, by simp⟩, h3⟩, e, rfl, rfl, rfl, rfl, rfl, rfl, rfl, rfl, rfl, rfl, rfl, rfl, rfl, rfl⟩
    rcases List.mem_cons.1 hx with rfl | hx
    · exact h1
    · rw [List.mem_singleton.1 hx]; exact h2
noncomputable def k6x : Con TB.den := k1l.fnR (fun x => (fun (p1 : TTranscript) (p2 : Int) (c0_0 : Bool) (c0_1 : Int) (c0_2 : Int) (w1 : List TQuestion) (w2k : List ByteArray) (w2v : List Int) (w3k : List ByteArray) (w3v : List (List Int)) (w4k : List ByteArray) (w4v : List Bool) => (U64 p1.State ∧ U64 p1.Count) ∧ OOk (OS.mk c0_0 c0_1 c0_2 w1 w2k w2v w3k w3v w4k w4v)) (TTranscript.mk x.1 x.2.1) x.2.2.1 x.2.2.2.1 x.2.2.2.2.1 x.2.2.2.2.2.1 x.2.2.2.2.2.2.1 x.2.2.2.2.2.2.2.1 x.2.2.2.2.2.2.2.2.1 x.2.2.2.2.2.2.2.2.2.1 x.2.2.2.2.2.2.2.2.2.2.1 x.2.2.2.2.2.2.2.2.2.2.2.1 x.2.2.2.2.2.2.2.2.2.2.2.2.1) fun x => ((fun (p1 : TTranscript) (p2 : Int) (c0_0 : Bool) (c0_1 : Int) (c0_2 : Int) (w1 : List TQuestion) (w2k : List ByteArray) (w2v : List Int) (w3k : List ByteArray) (w3v : List (List Int)) (w4k : List ByteArray) (w4v : List Bool) => (((chO (OS.mk c0_0 c0_1 c0_2 w1 w2k w2v w3k w3v w4k w4v) p1 p2).n) : Int)) (TTranscript.mk x.1 x.2.1) x.2.2.1 x.2.2.2.1 x.2.2.2.2.1 x.2.2.2.2.2.1 x.2.2.2.2.2.2.1 x.2.2.2.2.2.2.2.1 x.2.2.2.2.2.2.2.2.1 x.2.2.2.2.2.2.2.2.2.1 x.2.2.2.2.2.2.2.2.2.2.1 x.2.2.2.2.2.2.2.2.2.2.2.1 x.2.2.2.2.2.2.2.2.2.2.2.2.1, (fun (p1 : TTranscript) (p2 : Int) (c0_0 : Bool) (c0_1 : Int) (c0_2 : Int) (w1 : List TQuestion) (w2k : List ByteArray) (w2v : List Int) (w3k : List ByteArray) (w3v : List (List Int)) (w4k : List ByteArray) (w4v : List Bool) => (((chO (OS.mk c0_0 c0_1 c0_2 w1 w2k w2v w3k w3v w4k w4v) p1 p2).t).State : Int)) (TTranscript.mk x.1 x.2.1) x.2.2.1 x.2.2.2.1 x.2.2.2.2.1 x.2.2.2.2.2.1 x.2.2.2.2.2.2.1 x.2.2.2.2.2.2.2.1 x.2.2.2.2.2.2.2.2.1 x.2.2.2.2.2.2.2.2.2.1 x.2.2.2.2.2.2.2.2.2.2.1 x.2.2.2.2.2.2.2.2.2.2.2.1 x.2.2.2.2.2.2.2.2.2.2.2.2.1, (fun (p1 : TTranscript) (p2 : Int) (c0_0 : Bool) (c0_1 : Int) (c0_2 : Int) (w1 : List TQuestion) (w2k : List ByteArray) (w2v : List Int) (w3k : List ByteArray) (w3v : List (List Int)) (w4k : List ByteArray) (w4v : List Bool) => (((chO (OS.mk c0_0 c0_1 c0_2 w1 w2k w2v w3k w3v w4k w4v) p1 p2).t).Count : Int)) (TTranscript.mk x.1 x.2.1) x.2.2.1 x.2.2.2.1 x.2.2.2.2.1 x.2.2.2.2.2.1 x.2.2.2.2.2.2.1 x.2.2.2.2.2.2.2.1 x.2.2.2.2.2.2.2.2.1 x.2.2.2.2.2.2.2.2.2.1 x.2.2.2.2.2.2.2.2.2.2.1 x.2.2.2.2.2.2.2.2.2.2.2.1 x.2.2.2.2.2.2.2.2.2.2.2.2.1, (fun (p1 : TTranscript) (p2 : Int) (c0_0 : Bool) (c0_1 : Int) (c0_2 : Int) (w1 : List TQuestion) (w2k : List ByteArray) (w2v : List Int) (w3k : List ByteArray) (w3v : List (List Int)) (w4k : List ByteArray) (w4v : List Bool) => (((chO (OS.mk c0_0 c0_1 c0_2 w1 w2k w2v w3k w3v w4k w4v) p1 p2).o.a) : Bool)) (TTranscript.mk x.1 x.2.1) x.2.2.1 x.2.2.2.1 x.2.2.2.2.1 x.2.2.2.2.2.1 x.2.2.2.2.2.2.1 x.2.2.2.2.2.2.2.1 x.2.2.2.2.2.2.2.2.1 x.2.2.2.2.2.2.2.2.2.1 x.2.2.2.2.2.2.2.2.2.2.1 x.2.2.2.2.2.2.2.2.2.2.2.1 x.2.2.2.2.2.2.2.2.2.2.2.2.1, (fun (p1 : TTranscript) (p2 : Int) (c0_0 : Bool) (c0_1 : Int) (c0_2 : Int) (w1 : List TQuestion) (w2k : List ByteArray) (w2v : List Int) (w3k : List ByteArray) (w3v : List (List Int)) (w4k : List ByteArray) (w4v : List Bool) => (((chO (OS.mk c0_0 c0_1 c0_2 w1 w2k w2v w3k w3v w4k w4v) p1 p2).o.b) : Int)) (TTranscript.mk x.1 x.2.1) x.2.2.1 x.2.2.2.1 x.2.2.2.2.1 x.2.2.2.2.2.1 x.2.2.2.2.2.2.1 x.2.2.2.2.2.2.2.1 x.2.2.2.2.2.2.2.2.1 x.2.2.2.2.2.2.2.2.2.1 x.2.2.2.2.2.2.2.2.2.2.1 x.2.2.2.2.2.2.2.2.2.2.2.1 x.2.2.2.2.2.2.2.2.2.2.2.2.1, (fun (p1 : TTranscript) (p2 : Int) (c0_0 : Bool) (c0_1 : Int) (c0_2 : Int) (w1 : List TQuestion) (w2k : List ByteArray) (w2v : List Int) (w3k : List ByteArray) (w3v : List (List Int)) (w4k : List ByteArray) (w4v : List Bool) => (((chO (OS.mk c0_0 c0_1 c0_2 w1 w2k w2v w3k w3v w4k w4v) p1 p2).o.c) : Int)) (TTranscript.mk x.1 x.2.1) x.2.2.1 x.2.2.2.1 x.2.2.2.2.1 x.2.2.2.2.2.1 x.2.2.2.2.2.2.1 x.2.2.2.2.2.2.2.1 x.2.2.2.2.2.2.2.2.1 x.2.2.2.2.2.2.2.2.2.1 x.2.2.2.2.2.2.2.2.2.2.1 x.2.2.2.2.2.2.2.2.2.2.2.1 x.2.2.2.2.2.2.2.2.2.2.2.2.1, (fun (p1 : TTranscript) (p2 : Int) (c0_0 : Bool) (c0_1 : Int) (c0_2 : Int) (w1 : List TQuestion) (w2k : List ByteArray) (w2v : List Int) (w3k : List ByteArray) (w3v : List (List Int)) (w4k : List ByteArray) (w4v : List Bool) => (((chO (OS.mk c0_0 c0_1 c0_2 w1 w2k w2v w3k w3v w4k w4v) p1 p2).o.q) : List TQuestion)) (TTranscript.mk x.1 x.2.1) x.2.2.1 x.2.2.2.1 x.2.2.2.2.1 x.2.2.2.2.2.1 x.2.2.2.2.2.2.1 x.2.2.2.2.2.2.2.1 x.2.2.2.2.2.2.2.2.1 x.2.2.2.2.2.2.2.2.2.1 x.2.2.2.2.2.2.2.2.2.2.1 x.2.2.2.2.2.2.2.2.2.2.2.1 x.2.2.2.2.2.2.2.2.2.2.2.2.1, (fun (p1 : TTranscript) (p2 : Int) (c0_0 : Bool) (c0_1 : Int) (c0_2 : Int) (w1 : List TQuestion) (w2k : List ByteArray) (w2v : List Int) (w3k : List ByteArray) (w3v : List (List Int)) (w4k : List ByteArray) (w4v : List Bool) => (((chO (OS.mk c0_0 c0_1 c0_2 w1 w2k w2v w3k w3v w4k w4v) p1 p2).o.k) : List ByteArray)) (TTranscript.mk x.1 x.2.1) x.2.2.1 x.2.2.2.1 x.2.2.2.2.1 x.2.2.2.2.2.1 x.2.2.2.2.2.2.1 x.2.2.2.2.2.2.2.1 x.2.2.2.2.2.2.2.2.1 x.2.2.2.2.2.2.2.2.2.1 x.2.2.2.2.2.2.2.2.2.2.1 x.2.2.2.2.2.2.2.2.2.2.2.1 x.2.2.2.2.2.2.2.2.2.2.2.2.1, (fun (p1 : TTranscript) (p2 : Int) (c0_0 : Bool) (c0_1 : Int) (c0_2 : Int) (w1 : List TQuestion) (w2k : List ByteArray) (w2v : List Int) (w3k : List ByteArray) (w3v : List (List Int)) (w4k : List ByteArray) (w4v : List Bool) => (((chO (OS.mk c0_0 c0_1 c0_2 w1 w2k w2v w3k w3v w4k w4v) p1 p2).o.v) : List Int)) (TTranscript.mk x.1 x.2.1) x.2.2.1 x.2.2.2.1 x.2.2.2.2.1 x.2.2.2.2.2.1 x.2.2.2.2.2.2.1 x.2.2.2.2.2.2.2.1 x.2.2.2.2.2.2.2.2.1 x.2.2.2.2.2.2.2.2.2.1 x.2.2.2.2.2.2.2.2.2.2.1 x.2.2.2.2.2.2.2.2.2.2.2.1 x.2.2.2.2.2.2.2.2.2.2.2.2.1, (fun (p1 : TTranscript) (p2 : Int) (c0_0 : Bool) (c0_1 : Int) (c0_2 : Int) (w1 : List TQuestion) (w2k : List ByteArray) (w2v : List Int) (w3k : List ByteArray) (w3v : List (List Int)) (w4k : List ByteArray) (w4v : List Bool) => (((chO (OS.mk c0_0 c0_1 c0_2 w1 w2k w2v w3k w3v w4k w4v) p1 p2).o.s) : List ByteArray)) (TTranscript.mk x.1 x.2.1) x.2.2.1 x.2.2.2.1 x.2.2.2.2.1 x.2.2.2.2.2.1 x.2.2.2.2.2.2.1 x.2.2.2.2.2.2.2.1 x.2.2.2.2.2.2.2.2.1 x.2.2.2.2.2.2.2.2.2.1 x.2.2.2.2.2.2.2.2.2.2.1 x.2.2.2.2.2.2.2.2.2.2.2.1 x.2.2.2.2.2.2.2.2.2.2.2.2.1, (fun (p1 : TTranscript) (p2 : Int) (c0_0 : Bool) (c0_1 : Int) (c0_2 : Int) (w1 : List TQuestion) (w2k : List ByteArray) (w2v : List Int) (w3k : List ByteArray) (w3v : List (List Int)) (w4k : List ByteArray) (w4v : List Bool) => (((chO (OS.mk c0_0 c0_1 c0_2 w1 w2k w2v w3k w3v w4k w4v) p1 p2).o.t) : List (List Int))) (TTranscript.mk x.1 x.2.1) x.2.2.1 x.2.2.2.1 x.2.2.2.2.1 x.2.2.2.2.2.1 x.2.2.2.2.2.2.1 x.2.2.2.2.2.2.2.1 x.2.2.2.2.2.2.2.2.1 x.2.2.2.2.2.2.2.2.2.1 x.2.2.2.2.2.2.2.2.2.2.1 x.2.2.2.2.2.2.2.2.2.2.2.1 x.2.2.2.2.2.2.2.2.2.2.2.2.1, (fun (p1 : TTranscript) (p2 : Int) (c0_0 : Bool) (c0_1 : Int) (c0_2 : Int) (w1 : List TQuestion) (w2k : List ByteArray) (w2v : List Int) (w3k : List ByteArray) (w3v : List (List Int)) (w4k : List ByteArray) (w4v : List Bool) => (((chO (OS.mk c0_0 c0_1 c0_2 w1 w2k w2v w3k w3v w4k w4v) p1 p2).o.x) : List ByteArray)) (TTranscript.mk x.1 x.2.1) x.2.2.1 x.2.2.2.1 x.2.2.2.2.1 x.2.2.2.2.2.1 x.2.2.2.2.2.2.1 x.2.2.2.2.2.2.2.1 x.2.2.2.2.2.2.2.2.1 x.2.2.2.2.2.2.2.2.2.1 x.2.2.2.2.2.2.2.2.2.2.1 x.2.2.2.2.2.2.2.2.2.2.2.1 x.2.2.2.2.2.2.2.2.2.2.2.2.1, (fun (p1 : TTranscript) (p2 : Int) (c0_0 : Bool) (c0_1 : Int) (c0_2 : Int) (w1 : List TQuestion) (w2k : List ByteArray) (w2v : List Int) (w3k : List ByteArray) (w3v : List (List Int)) (w4k : List ByteArray) (w4v : List Bool) => (((chO (OS.mk c0_0 c0_1 c0_2 w1 w2k w2v w3k w3v w4k w4v) p1 p2).o.y) : List Bool)) (TTranscript.mk x.1 x.2.1) x.2.2.1 x.2.2.2.1 x.2.2.2.2.1 x.2.2.2.2.2.1 x.2.2.2.2.2.2.1 x.2.2.2.2.2.2.2.1 x.2.2.2.2.2.2.2.2.1 x.2.2.2.2.2.2.2.2.2.1 x.2.2.2.2.2.2.2.2.2.2.1 x.2.2.2.2.2.2.2.2.2.2.2.1 x.2.2.2.2.2.2.2.2.2.2.2.2.1, ())
theorem k95 : k6x.Ok Try.prog TB := Con.ok_fn k1l bd12 fun x h => ksu (ksi (TTranscript.mk x.1 x.2.1) x.2.2.1 x.2.2.2.1 x.2.2.2.2.1 x.2.2.2.2.2.1 x.2.2.2.2.2.2.1 x.2.2.2.2.2.2.2.1 x.2.2.2.2.2.2.2.2.1 x.2.2.2.2.2.2.2.2.2.1 x.2.2.2.2.2.2.2.2.2.2.1 x.2.2.2.2.2.2.2.2.2.2.2.1 x.2.2.2.2.2.2.2.2.2.2.2.2.1 h)
end Go.Proofs.Ytponaobpcdkggaa
namespace Go.Proofs.Ytponaobpcdkggaa
open Go Go.Bv Go.Cv Go.Md Go.RowKit
def k2q : Con TB.den := Con.mk0 11 [.one (.d (.int .u64))] [] (.one (.agg [.d (.int .u64), .d (.int .u64)])) []
abbrev kw6 := HL TB.den (hsT k2q.ins (hsOs k2q.pre))
abbrev khc := HL TB.den (hsV k2q.res (hsOs k2q.post))
noncomputable def kc0 : Cx TB := ⟨inf, [], [], 4, []⟩
noncomputable def kib : Code := Try.f11.body.getD .skip
noncomputable def km0 : List ResultVar := Try.f11.results.toList
noncomputable def ktm (o : khc) : An TB := .no
noncomputable def kie (x : kw6) (o : khc) : Prop := WPh TB kc0 5 0 kib (ktm o) (k2q.st TB x) (retTQ TB kc0 k2q km0 o)
set_option maxRecDepth 100000 in
theorem k12u (o : khc) : OblH TB kc0 5 0 kib (ktm o) (retTQ TB kc0 k2q km0 o) :=
  OblH.of_eq (X := (True ∧ (True ∧ True))) (by kernel_rfl) ⟨trivial, ⟨trivial, trivial⟩⟩
set_option maxRecDepth 100000 in
theorem k12x {x : kw6} {o : khc} (h : kie x o) : SoundH Try.prog k2q.f ((k2q.args idf x).map (er TB)) ((k2q.obs idf x).map (erO TB)) (er TB (k2q.val idf o)) ((k2q.ops idf o).map (erO TB)) :=
  Con.soundH (c := k2q) (C := kc0) TBok ⟨inf_ok, all_nil, all_nil⟩ mix Try.func11 (show Try.f11.body = some kib by kernel_rfl) (show Try.f11.ntmps = 5 by kernel_rfl) (show Try.f11.results.toList = km0 by kernel_rfl) rfl h (k12u o)
set_option maxRecDepth 100000 in
theorem k14c {p0 : Int} {r0 : TTranscript} (h :
(p0 = r0.State ∧ 0 = r0.Count)) : kie (p0, ()) (r0.State, r0.Count, ()) := WPh.of_eq (by kernel_rfl) h
theorem bd11 : Callable Try.prog 11 := ⟨by rw [Try.func11]; kernel_rfl, by rw [Try.func11]; show some _ ≠ some _; decide⟩
theorem k11u (p0 : Int) : kie (p0, ()) ((p0 : Int), (0 : Int), ()) := by
  exact k14c (r0 := ⟨p0, 0⟩) ⟨rfl, rfl⟩
noncomputable def ke4 : Con TB.den := k2q.totR fun x => ((fun (p0 : Int) => (p0 : Int)) x.1, (fun (p0 : Int) => (0 : Int)) x.1, ())
theorem km1 : ke4.Ok Try.prog TB := Con.ok_tot k2q bd11 fun x => k12x (k11u x.1)
end Go.Proofs.Ytponaobpcdkggaa
namespace Go.Proofs.Ytponaobpcdkggaa
open Go Go.Bv Go.Cv Go.Md Go.RowKit
def k2d : Con TB.den := Con.mk0 36 [.one (.view 0)] [.vec (.int .i64)] (.one (.one (.row 1))) [.vec (.int .i64), .vec (.int .i64)]
abbrev ksd := HL TB.den (hsT k2d.ins (hsOs k2d.pre))
abbrev kau := HL TB.den (hsV k2d.res (hsOs k2d.post))
noncomputable def ka6 : Cx TB := ⟨inf, [], [], 4, [5, 7]⟩
noncomputable def kfa : Code := Try.f36.body.getD .skip
noncomputable def kid : List ResultVar := Try.f36.results.toList
noncomputable def k11y (o : kau) : An TB := .nd [] .no [] (.nd [] (.nd [] .no [] (.rt [.rnil 2 (.int .i64)])) [] .no)
noncomputable def kqe (o : kau) : An TB := .nd [] .no [] (.nd [] (k11y o) [] .no)
noncomputable def kfn (x : ksd) (o : kau) : Prop := WPh TB ka6 8 1 kfa (kqe o) (k2d.st TB x) (retTQ TB ka6 k2d kid o)
set_option maxRecDepth 100000 in
theorem k106 (o : kau) : OblH TB ka6 8 1 kfa (kqe o) (retTQ TB ka6 k2d kid o) :=
  OblH.of_eq (X := (True ∧ ((True ∧ ((True ∧ True) ∧ True)) ∧ (True ∧ True)))) (by kernel_rfl) ⟨trivial, ⟨⟨trivial, ⟨⟨trivial, trivial⟩, trivial⟩⟩, ⟨trivial, trivial⟩⟩⟩
set_option maxRecDepth 100000 in
theorem k10l {x : ksd} {o : kau} (h : kfn x o) : SoundH Try.prog k2d.f ((k2d.args idf x).map (er TB)) ((k2d.obs idf x).map (erO TB)) (er TB (k2d.val idf o)) ((k2d.ops idf o).map (erO TB)) :=
  Con.soundH (c := k2d) (C := ka6) TBok ⟨inf_ok, all_nil, all_nil⟩ mix Try.func36 (show Try.f36.body = some kfa by kernel_rfl) (show Try.f36.ntmps = 8 by kernel_rfl) (show Try.f36.results.toList = kid by kernel_rfl) rfl h (k106 o)
set_option maxRecDepth 100000 in
theorem k11z {p0o : Int} {p0n : Int} {w0 : List Int} {e0 : List Int} {e1 : List Int} (h :
(∀ z4 : Bool, (z4 = true → p0n.toNat = 0) → (z4 = true →
(0 = ([] : List Int).length) ∧ w0 = e0 ∧ ([] : List Int) = e1) ∧
(z4 = false →
([] : List Int).length = ([] : List Int).length ∧ p0o.toNat + p0n.toNat ≤ w0.length ∧ (([] : List Int).length + ((w0.drop p0o.toNat).take p0n.toNat).length) * 8 ≤ 140737488355328 ∧ ([] : List Int).length + ((w0.drop p0o.toNat).take p0n.toNat).length ≤ maxLen ∧ let v5 : List Int := ([] : List Int) ++ ((w0.drop p0o.toNat).take p0n.toNat)
(v5.length = v5.length) ∧ w0 = e0 ∧ v5 = e1))) : kfn (p0o, p0n, w0, ()) (e0, e1, ()) := WPh.of_eq (by kernel_rfl) h
theorem bd36 : Callable Try.prog 36 := ⟨by rw [Try.func36]; kernel_rfl, by rw [Try.func36]; show some _ ≠ some _; decide⟩
theorem kzp (p0o : Int) (p0n : Int) (w0 : List Int) (h : 0 ≤ p0o ∧ 0 ≤ p0n ∧ p0o.toNat + p0n.toNat ≤ w0.length ∧ w0.length ≤ 1000000) : kfn (p0o, p0n, w0, ()) ((w0 : List Int), (((w0.drop p0o.toNat).take p0n.toNat) : List Int), ()) := by
  obtain ⟨h1, h2, h3, h4⟩ := h
  have hl : ((w0.drop p0o.toNat).take p0n.toNat).length = p0n.toNat := by rw [List.length_take, List.length_drop]; omega
  refine k11z fun z hz => ⟨fun e => ?_, fun e => ?_⟩
  · have := hz e
    rw [this]
    exact ⟨rfl, rfl, by simp⟩
  · exact ⟨rfl, h3, by rw [hl]; simp; omega, by rw [hl]; simp; unfold maxLen; omega, by simp⟩
noncomputable def kox : Con TB.den := k2d.fnR (fun x => (fun (p0o : Int) (p0n : Int) (w0 : List Int) => 0 ≤ p0o ∧ 0 ≤ p0n ∧ p0o.toNat + p0n.toNat ≤ w0.length ∧ w0.length ≤ 1000000) x.1 x.2.1 x.2.2.1) fun x => ((fun (p0o : Int) (p0n : Int) (w0 : List Int) => (w0 : List Int)) x.1 x.2.1 x.2.2.1, (fun (p0o : Int) (p0n : Int) (w0 : List Int) => (((w0.drop p0o.toNat).take p0n.toNat) : List Int)) x.1 x.2.1 x.2.2.1, ())
theorem k11v : kox.Ok Try.prog TB := Con.ok_fn k2d bd36 fun x h => k10l (kzp x.1 x.2.1 x.2.2.1 h)
end Go.Proofs.Ytponaobpcdkggaa
namespace Go.Proofs.Ytponaobpcdkggaa
open Go Go.Bv Go.Cv Go.Md Go.RowKit
def k60 : Con TB.den := Con.mk0 47 [.one (.d (.int .u64))] [] (.one (.one (.d (.int .i64)))) []
abbrev k183 := HL TB.den (hsT k60.ins (hsOs k60.pre))
abbrev ktt := HL TB.den (hsV k60.res (hsOs k60.post))
noncomputable def kmu : Cx TB := ⟨inf, [kqq], [], 4, []⟩
noncomputable def kt7 : Code := Try.f47.body.getD .skip
noncomputable def ky2 : List ResultVar := Try.f47.results.toList
noncomputable def k15f (o : ktt) : An TB := .no
noncomputable def ksq (x : k183) (o : ktt) : Prop := WPh TB kmu 8 0 kt7 (k15f o) (k60.st TB x) (retTQ TB kmu k60 ky2 o)
set_option maxRecDepth 100000 in
theorem k1dm (o : ktt) : OblH TB kmu 8 0 kt7 (k15f o) (retTQ TB kmu k60 ky2 o) :=
  OblH.of_eq (X := (True ∧ (((True ∧ True) ∧ True) ∧ (True ∧ True)))) (by kernel_rfl) ⟨trivial, ⟨⟨⟨trivial, trivial⟩, trivial⟩, ⟨trivial, trivial⟩⟩⟩
set_option maxRecDepth 100000 in
theorem k1eb {x : k183} {o : ktt} (h : ksq x o) : SoundH Try.prog k60.f ((k60.args idf x).map (er TB)) ((k60.obs idf x).map (erO TB)) (er TB (k60.val idf o)) ((k60.ops idf o).map (erO TB)) :=
  Con.soundH (c := k60) (C := kmu) TBok ⟨inf_ok, (all_cons k11m all_nil), all_nil⟩ mix Try.func47 (show Try.f47.body = some kt7 by kernel_rfl) (show Try.f47.ntmps = 8 by kernel_rfl) (show Try.f47.results.toList = ky2 by kernel_rfl) rfl h (k1dm o)
set_option maxRecDepth 100000 in
theorem k1fz {p0 : Int} {r0 : Int} (h :
((U64 p0) ∧ (len64 p0) = r0)) : ksq (p0, ()) (r0, ()) := WPh.of_eq (by kernel_rfl) h
theorem bd47 : Callable Try.prog 47 := ⟨by rw [Try.func47]; kernel_rfl, by rw [Try.func47]; show some _ ≠ some _; decide⟩
theorem k1cu (p0 : Int) (h : U64 p0) : ksq (p0, ()) (((len64 p0) : Int), ()) := by
  exact k1fz ⟨h, rfl⟩
noncomputable def kvh : Con TB.den := k60.fnR (fun x => (fun (p0 : Int) => U64 p0) x.1) fun x => ((fun (p0 : Int) => ((len64 p0) : Int)) x.1, ())
theorem k155 : kvh.Ok Try.prog TB := Con.ok_fn k60 bd47 fun x h => k1eb (k1cu x.1 h)
end Go.Proofs.Ytponaobpcdkggaa
namespace Go.Proofs.Ytponaobpcdkggaa
open Go Go.Bv Go.Cv Go.Md Go.RowKit
def k34 : Con TB.den := Con.mk0 84 [.one (.d (.int .i64))] [] (.one (.one (.d (.bool)))) []
abbrev kxw := HL TB.den (hsT k34.ins (hsOs k34.pre))
abbrev kig := HL TB.den (hsV k34.res (hsOs k34.post))
noncomputable def kcw : Cx TB := ⟨inf, [], [], 4, []⟩
noncomputable def kjs : Code := Try.f84.body.getD .skip
noncomputable def kni : List ResultVar := Try.f84.results.toList
noncomputable def kui (o : kig) : An TB := .no
noncomputable def kiw (x : kxw) (o : kig) : Prop := WPh TB kcw 6 0 kjs (kui o) (k34.st TB x) (retTQ TB kcw k34 kni o)
set_option maxRecDepth 100000 in
theorem k141 (o : kig) : OblH TB kcw 6 0 kjs (kui o) (retTQ TB kcw k34 kni o) :=
  OblH.of_eq (X := (True ∧ (True ∧ True))) (by kernel_rfl) ⟨trivial, ⟨trivial, trivial⟩⟩
set_option maxRecDepth 100000 in
theorem k147 {x : kxw} {o : kig} (h : kiw x o) : SoundH Try.prog k34.f ((k34.args idf x).map (er TB)) ((k34.obs idf x).map (erO TB)) (er TB (k34.val idf o)) ((k34.ops idf o).map (erO TB)) :=
  Con.soundH (c := k34) (C := kcw) TBok ⟨inf_ok, all_nil, all_nil⟩ mix Try.func84 (show Try.f84.body = some kjs by kernel_rfl) (show Try.f84.ntmps = 6 by kernel_rfl) (show Try.f84.results.toList = kni by kernel_rfl) rfl h (k141 o)
set_option maxRecDepth 100000 in
theorem k173 {p0 : Int} {r0 : Bool} (h :
((p0 != p0) = r0)) : kiw (p0, ()) (r0, ()) := WPh.of_eq (by kernel_rfl) h
theorem bd84 : Callable Try.prog 84 := ⟨by rw [Try.func84]; kernel_rfl, by rw [Try.func84]; show some _ ≠ some _; decide⟩
theorem k13e (p0 : Int) : kiw (p0, ()) ((false : Bool), ()) := by
  exact k173 (by simp)
noncomputable def ktj : Con TB.den := k34.totR fun x => ((fun (p0 : Int) => (false : Bool)) x.1, ())
theorem k16t : ktj.Ok Try.prog TB := Con.ok_tot k34 bd84 fun x => k147 (k13e x.1)
end Go.Proofs.Ytponaobpcdkggaa
namespace Go.Proofs.Ytponaobpcdkggaa
open Go Go.Bv Go.Cv Go.Md Go.RowKit
def k3l : Con TB.den := Con.mk0 61 [.one (.d (.int .i64)), .one (.d (.int .i64))] [] (.one (.one (.d (.bool)))) []
abbrev kyu := HL TB.den (hsT k3l.ins (hsOs k3l.pre))
abbrev kkk := HL TB.den (hsV k3l.res (hsOs k3l.post))
noncomputable def ke5 : Cx TB := ⟨inf, [ktj], [], 4, []⟩
noncomputable def klt : Code := Try.f61.body.getD .skip
noncomputable def kpf : List ResultVar := Try.f61.results.toList
noncomputable def kx3 (o : kkk) : An TB := .no
noncomputable def km5 (x : kyu) (o : kkk) : Prop := WPh TB ke5 17 0 klt (kx3 o) (k3l.st TB x) (retTQ TB ke5 k3l kpf o)
set_option maxRecDepth 100000 in
theorem k16p (o : kkk) : OblH TB ke5 17 0 klt (kx3 o) (retTQ TB ke5 k3l kpf o) :=
  OblH.of_eq (X := (True ∧ (True ∧ True))) (by kernel_rfl) ⟨trivial, ⟨trivial, trivial⟩⟩
set_option maxRecDepth 100000 in
theorem k16o {x : kyu} {o : kkk} (h : km5 x o) : SoundH Try.prog k3l.f ((k3l.args idf x).map (er TB)) ((k3l.obs idf x).map (erO TB)) (er TB (k3l.val idf o)) ((k3l.ops idf o).map (erO TB)) :=
  Con.soundH (c := k3l) (C := ke5) TBok ⟨inf_ok, (all_cons k16t all_nil), all_nil⟩ mix Try.func61 (show Try.f61.body = some klt by kernel_rfl) (show Try.f61.ntmps = 17 by kernel_rfl) (show Try.f61.results.toList = kpf by kernel_rfl) rfl h (k16p o)
set_option maxRecDepth 100000 in
theorem k17j {p0 : Int} {p1 : Int} {r0 : Bool} (h :
((false = true →
((!false) = true →
 true = r0) ∧
((!false) = false →
 decide (p0 < p1) = r0)) ∧
(false = false →
 decide (p0 < p1) = r0))) : km5 (p0, p1, ()) (r0, ()) := WPh.of_eq (by kernel_rfl) h
theorem bd61 : Callable Try.prog 61 := ⟨by rw [Try.func61]; kernel_rfl, by rw [Try.func61]; show some _ ≠ some _; decide⟩
theorem k14g (p0 : Int) (p1 : Int) : km5 (p0, p1, ()) (((decide (p0 < p1)) : Bool), ()) := by
  exact k17j ⟨fun h => by simp at h, fun _ => rfl⟩
noncomputable def k7h : Con TB.den := k3l.totR fun x => ((fun (p0 : Int) (p1 : Int) => ((decide (p0 < p1)) : Bool)) x.1 x.2.1, ())
theorem k9f : k7h.Ok Try.prog TB := Con.ok_tot k3l bd61 fun x => k16o (k14g x.1 x.2.1)
end Go.Proofs.Ytponaobpcdkggaa
namespace Go.Proofs.Ytponaobpcdkggaa
open Go Go.Bv Go.Cv Go.Md Go.RowKit
def k1q : Con TB.den := Con.mk0 80 [.one (.d (.int .i64))] [] (.one (.one (.d (.int .u64)))) []
abbrev kl3 := HL TB.den (hsT k1q.ins (hsOs k1q.pre))
abbrev ka5 := HL TB.den (hsV k1q.res (hsOs k1q.post))
noncomputable def k7l : Cx TB := ⟨inf, [kvh], [], 4, []⟩
noncomputable def kbe : Code := Try.f80.body.getD .skip
noncomputable def kd9 : List ResultVar := Try.f80.results.toList
noncomputable def kkb (o : ka5) : An TB := .no
noncomputable def ki2 (x : kl3) (o : ka5) : Prop := WPh TB k7l 7 0 kbe (kkb o) (k1q.st TB x) (retTQ TB k7l k1q kd9 o)
set_option maxRecDepth 100000 in
theorem kts (o : ka5) : OblH TB k7l 7 0 kbe (kkb o) (retTQ TB k7l k1q kd9 o) :=
  OblH.of_eq (X := (True ∧ (True ∧ True))) (by kernel_rfl) ⟨trivial, ⟨trivial, trivial⟩⟩
set_option maxRecDepth 100000 in
theorem ktz {x : kl3} {o : ka5} (h : ki2 x o) : SoundH Try.prog k1q.f ((k1q.args idf x).map (er TB)) ((k1q.obs idf x).map (erO TB)) (er TB (k1q.val idf o)) ((k1q.ops idf o).map (erO TB)) :=
  Con.soundH (c := k1q) (C := k7l) TBok ⟨inf_ok, (all_cons k155 all_nil), all_nil⟩ mix Try.func80 (show Try.f80.body = some kbe by kernel_rfl) (show Try.f80.ntmps = 7 by kernel_rfl) (show Try.f80.results.toList = kd9 by kernel_rfl) rfl h (kts o)
theorem bd80 : Callable Try.prog 80 := ⟨by rw [Try.func80]; kernel_rfl, by rw [Try.func80]; show some _ ≠ some _; decide⟩
noncomputable def kir : Con TB.den := k1q.relR ki2
theorem kv1 : kir.Ok Try.prog TB := Con.ok_rel k1q bd80 fun _ _ h => ktz h
end Go.Proofs.Ytponaobpcdkggaa
namespace Go.Proofs.Ytponaobpcdkggaa
open Go Go.Bv Go.Cv Go.Md Go.RowKit
def k33 : Con TB.den := Con.mk0 81 [.one (.ptr 0 0)] [.cells [.d (.int .u64)]] (.one (.one (.d (.int .u64)))) [.cells [.d (.int .u64)]]
abbrev kxe := HL TB.den (hsT k33.ins (hsOs k33.pre))
abbrev kik := HL TB.den (hsV k33.res (hsOs k33.post))
noncomputable def kcs : Cx TB := ⟨inf, [], [], 4, []⟩
noncomputable def kjf : Code := Try.f81.body.getD .skip
noncomputable def knn : List ResultVar := Try.f81.results.toList
noncomputable def kvu (o : kik) : An TB := .no
noncomputable def ks6 (x : kxe) (o : kik) : Prop := WPh TB kcs 33 1 kjf (kvu o) (k33.st TB x) (retTQ TB kcs k33 knn o)
set_option maxRecDepth 100000 in
theorem k144 (o : kik) : OblH TB kcs 33 1 kjf (kvu o) (retTQ TB kcs k33 knn o) :=
  OblH.of_eq (X := (True ∧ (True ∧ (True ∧ (True ∧ (True ∧ True)))))) (by kernel_rfl) ⟨trivial, ⟨trivial, ⟨trivial, ⟨trivial, ⟨trivial, trivial⟩⟩⟩⟩⟩
set_option maxRecDepth 100000 in
theorem k140 {x : kxe} {o : kik} (h : ks6 x o) : SoundH Try.prog k33.f ((k33.args idf x).map (er TB)) ((k33.obs idf x).map (erO TB)) (er TB (k33.val idf o)) ((k33.ops idf o).map (erO TB)) :=
  Con.soundH (c := k33) (C := kcs) TBok ⟨inf_ok, all_nil, all_nil⟩ mix Try.func81 (show Try.f81.body = some kjf by kernel_rfl) (show Try.f81.ntmps = 33 by kernel_rfl) (show Try.f81.results.toList = knn by kernel_rfl) rfl h (k144 o)
theorem bd81 : Callable Try.prog 81 := ⟨by rw [Try.func81]; kernel_rfl, by rw [Try.func81]; show some _ ≠ some _; decide⟩
noncomputable def kte : Con TB.den := k33.relR ks6
theorem k15v : kte.Ok Try.prog TB := Con.ok_rel k33 bd81 fun _ _ h => k140 h
end Go.Proofs.Ytponaobpcdkggaa
namespace Go.Proofs.Ytponaobpcdkggaa
open Go Go.Bv Go.Cv Go.Md Go.RowKit
def ko : Con TB.den := Con.mk0 57 [.one (.row 0), .one (.d (.int .i64)), .one (.d (.int .i64))] [.vec (.int .i64)] (.tup []) [.vec (.int .i64)]
abbrev kcj := HL TB.den (hsT ko.ins (hsOs ko.pre))
abbrev kz := HL TB.den (hsV ko.res (hsOs ko.post))
noncomputable def k22 : Cx TB := ⟨inf, [kir, kte], [], 4, []⟩
noncomputable def k37 : Code := Try.f57.body.getD .skip
noncomputable def k66 : List ResultVar := Try.f57.results.toList
noncomputable def klq (o : kz) : Exit → TSt TB.den → Prop := blockT TB 0 (retTQ TB k22 ko k66 o)
def k1e : Tm := ⟨[0, 1], [.vec (.int .i64), .cells [.d (.int .u64)]], [0, 1, 6, 7, 8, 9], [.one (.row 0), .one (.d (.int .i64)), .one (.d (.int .i64)), .one (.ptr 1 0), .one (.d (.int .u64)), .one (.d (.int .i64))], 2⟩
noncomputable def k88 (o : kz) (nx1 : HL TB.den k1e.hs → Prop) : Exit → TSt TB.den → Prop := thenT TB (fun s => k1e.mat TB 1 s nx1) (klq o)
noncomputable def kll (o : kz) (nx1 : HL TB.den k1e.hs → Prop) : Exit → TSt TB.den → Prop := thenT TB (fun s => ghs TB [] s fun s => WP TB k22 65 1 (cB (cB (cA (cA (cB (cB (cB (cA (cB (cB k37)))))))))) .no s (k88 o nx1)) (k88 o nx1)
def k63 : Tm := ⟨[0, 1], [.vec (.int .i64), .cells [.d (.int .u64)]], [0, 1, 6, 7, 8, 9, 10], [.one (.row 0), .one (.d (.int .i64)), .one (.d (.int .i64)), .one (.ptr 1 0), .one (.d (.int .u64)), .one (.d (.int .i64)), .one (.d (.int .i64))], 2⟩
noncomputable def kb3 (o : kz) (nx1 : HL TB.den k1e.hs → Prop) (i : HL TB.den k63.hs) : Prop := ghs TB [] (k63.fill TB i) fun s => WP TB k22 65 1 (cB (cB (cA (cA (cB (cA (cA (cB (cB (cB (cA (cB (cB k37))))))))))))) .no s (blockT TB 1 (kll o nx1))
structure kc3 (o : kz) (nx1 : HL TB.den k1e.hs → Prop) (i : HL TB.den k63.hs) : Prop where
  h : kb3 o nx1 i
noncomputable def kly (o : kz) (nx1 : HL TB.den k1e.hs → Prop) : An TB := .jn k63 (kc3 o nx1) [] .no [] .no
noncomputable def kc1 (o : kz) (nx1 : HL TB.den k1e.hs → Prop) : An TB := .nd [] (.nd [] .no [] (kly o nx1)) [] .no
noncomputable def k86 (o : kz) (nx1 : HL TB.den k1e.hs → Prop) (i : HL TB.den k1e.hs) : Prop := WP TB k22 65 1 (cA (cA (cB (cB (cB (cA (cB (cB k37)))))))) (.nd [] .no [] (kc1 o nx1)) (k1e.fill TB i) (k88 o nx1)
noncomputable def klu (o : kz) : An TB := .lp [] k1e (k86 o) fun nx1 => (.nd [] .no [] (kc1 o nx1))
noncomputable def km6 (o : kz) : An TB := .nd [] .no [] (.nd [] .no [] (klu o))
noncomputable def kkg (o : kz) : An TB := .nd [] (.nd [] .no [] (km6 o)) [] .no
noncomputable def kbr (o : kz) : An TB := .nd [] .no [] (.nd [] .no [] (kkg o))
noncomputable def k7f (x : kcj) (o : kz) : Prop := WPh TB k22 65 1 k37 (kbr o) (ko.st TB x) (retTQ TB k22 ko k66 o)
set_option maxRecDepth 100000 in
theorem kl0 (o : kz) : OblH TB k22 65 1 k37 (kbr o) (retTQ TB k22 ko k66 o) :=
  OblH.of_eq (X := (True ∧ (True ∧ ((True ∧ (True ∧ (True ∧ ((∀ nx i, (k86 o) nx i = (k86 o) nx i) ∧ ∀ nx1 : HL TB.den k1e.hs → Prop, ((True ∧ (True ∧ True)) ∧ ((True ∧ ((True ∧ (True ∧ True)) ∧ (∀ i, (kc3 o nx1) i = (kb3 o nx1) i) ∧ True)) ∧ True)))))) ∧ True)))) (by kernel_rfl) ⟨trivial, ⟨trivial, ⟨⟨trivial, ⟨trivial, ⟨trivial, ⟨fun _ _ => rfl, fun _ => ⟨⟨trivial, ⟨trivial, trivial⟩⟩, ⟨⟨trivial, ⟨⟨trivial, ⟨trivial, trivial⟩⟩, fun _ => propext ⟨fun h => h.1, fun h => ⟨h⟩⟩, trivial⟩⟩, trivial⟩⟩⟩⟩⟩⟩, trivial⟩⟩⟩
set_option maxRecDepth 100000 in
theorem kku {x : kcj} {o : kz} (h : k7f x o) : SoundH Try.prog ko.f ((ko.args idf x).map (er TB)) ((ko.obs idf x).map (erO TB)) (er TB (ko.val idf o)) ((ko.ops idf o).map (erO TB)) :=
  Con.soundH (c := ko) (C := k22) TBok ⟨inf_ok, (all_cons kv1 (all_cons k15v all_nil)), all_nil⟩ mix Try.func57 (show Try.f57.body = some k37 by kernel_rfl) (show Try.f57.ntmps = 65 by kernel_rfl) (show Try.f57.results.toList = k66 by kernel_rfl) rfl h (kl0 o)
theorem bd57 : Callable Try.prog 57 := ⟨by rw [Try.func57]; kernel_rfl, by rw [Try.func57]; show some _ ≠ some _; decide⟩
noncomputable def kb2 : Con TB.den := ko.relR k7f
theorem km3 : kb2.Ok Try.prog TB := Con.ok_rel ko bd57 fun _ _ h => kku h
end Go.Proofs.Ytponaobpcdkggaa
namespace Go.Proofs.Ytponaobpcdkggaa
open Go Go.Bv Go.Cv Go.Md Go.RowKit
def k1h : Con TB.den := Con.mk0 91 [.one (.row 0), .one (.d (.int .i64)), .one (.d (.int .i64)), .one (.ptr 1 0)] [.vec (.int .i64), .cells [.d (.int .i64)]] (.tup [.one (.d (.int .i64)), .one (.d (.int .i64))]) [.vec (.int .i64), .cells [.d (.int .i64)]]
abbrev kht := HL TB.den (hsT k1h.ins (hsOs k1h.pre))
abbrev k8m := HL TB.den (hsV k1h.res (hsOs k1h.post))
noncomputable def k6n : Cx TB := ⟨inf, [k7h], [], 4, []⟩
noncomputable def k9w : Code := Try.f91.body.getD .skip
noncomputable def kap : List ResultVar := Try.f91.results.toList
noncomputable def kh4 (o : k8m) : An TB := .no
noncomputable def ken (x : kht) (o : k8m) : Prop := WPh TB k6n 28 2 k9w (kh4 o) (k1h.st TB x) (retTQ TB k6n k1h kap o)
set_option maxRecDepth 100000 in
theorem krf (o : k8m) : OblH TB k6n 28 2 k9w (kh4 o) (retTQ TB k6n k1h kap o) :=
  OblH.of_eq (X := (True ∧ ((True ∧ ((True ∧ (True ∧ True)) ∧ True)) ∧ (True ∧ True)))) (by kernel_rfl) ⟨trivial, ⟨⟨trivial, ⟨⟨trivial, ⟨trivial, trivial⟩⟩, trivial⟩⟩, ⟨trivial, trivial⟩⟩⟩
set_option maxRecDepth 100000 in
theorem kqz {x : kht} {o : k8m} (h : ken x o) : SoundH Try.prog k1h.f ((k1h.args idf x).map (er TB)) ((k1h.obs idf x).map (erO TB)) (er TB (k1h.val idf o)) ((k1h.ops idf o).map (erO TB)) :=
  Con.soundH (c := k1h) (C := k6n) TBok ⟨inf_ok, (all_cons k9f all_nil), all_nil⟩ mix Try.func91 (show Try.f91.body = some k9w by kernel_rfl) (show Try.f91.ntmps = 28 by kernel_rfl) (show Try.f91.results.toList = kap by kernel_rfl) rfl h (krf o)
theorem bd91 : Callable Try.prog 91 := ⟨by rw [Try.func91]; kernel_rfl, by rw [Try.func91]; show some _ ≠ some _; decide⟩
noncomputable def kgt : Con TB.den := k1h.relR ken
theorem ksa : kgt.Ok Try.prog TB := Con.ok_rel k1h bd91 fun _ _ h => kqz h
end Go.Proofs.Ytponaobpcdkggaa
namespace Go.Proofs.Ytponaobpcdkggaa
open Go Go.Bv Go.Cv Go.Md Go.RowKit
def k1g : Con TB.den := Con.mk0 83 [.one (.row 0), .one (.d (.int .i64)), .one (.d (.int .i64)), .one (.d (.int .i64)), .one (.ptr 1 0)] [.vec (.int .i64), .cells [.d (.int .i64)]] (.one (.one (.d (.int .i64)))) [.vec (.int .i64), .cells [.d (.int .i64)]]
abbrev khs := HL TB.den (hsT k1g.ins (hsOs k1g.pre))
abbrev k8p := HL TB.den (hsV k1g.res (hsOs k1g.post))
noncomputable def k6m : Cx TB := ⟨inf, [kgt], [], 4, []⟩
noncomputable def ka0 : Code := Try.f83.body.getD .skip
noncomputable def kaz : List ResultVar := Try.f83.results.toList
noncomputable def kh6 (o : k8p) : An TB := .no
noncomputable def kf3 (x : khs) (o : k8p) : Prop := WPh TB k6m 36 2 ka0 (kh6 o) (k1g.st TB x) (retTQ TB k6m k1g kaz o)
set_option maxRecDepth 100000 in
theorem krh (o : k8p) : OblH TB k6m 36 2 ka0 (kh6 o) (retTQ TB k6m k1g kaz o) :=
  OblH.of_eq (X := (True ∧ (True ∧ (True ∧ (True ∧ (True ∧ True)))))) (by kernel_rfl) ⟨trivial, ⟨trivial, ⟨trivial, ⟨trivial, ⟨trivial, trivial⟩⟩⟩⟩⟩
set_option maxRecDepth 100000 in
theorem kqr {x : khs} {o : k8p} (h : kf3 x o) : SoundH Try.prog k1g.f ((k1g.args idf x).map (er TB)) ((k1g.obs idf x).map (erO TB)) (er TB (k1g.val idf o)) ((k1g.ops idf o).map (erO TB)) :=
  Con.soundH (c := k1g) (C := k6m) TBok ⟨inf_ok, (all_cons ksa all_nil), all_nil⟩ mix Try.func83 (show Try.f83.body = some ka0 by kernel_rfl) (show Try.f83.ntmps = 36 by kernel_rfl) (show Try.f83.results.toList = kaz by kernel_rfl) rfl h (krh o)
theorem bd83 : Callable Try.prog 83 := ⟨by rw [Try.func83]; kernel_rfl, by rw [Try.func83]; show some _ ≠ some _; decide⟩
noncomputable def ka9 : Con TB.den := k1g.relR kf3
theorem kgz : ka9.Ok Try.prog TB := Con.ok_rel k1g bd83 fun _ _ h => kqr h
end Go.Proofs.Ytponaobpcdkggaa
namespace Go.Proofs.Ytponaobpcdkggaa
open Go Go.Bv Go.Cv Go.Md Go.RowKit
def kw : Con TB.den := Con.mk0 82 [.one (.row 0), .one (.d (.int .i64)), .one (.ptr 1 0)] [.vec (.int .i64), .cells [.d (.int .i64)]] (.one (.one (.d (.int .i64)))) [.vec (.int .i64), .cells [.d (.int .i64)]]
abbrev kc2 := HL TB.den (hsT kw.ins (hsOs kw.pre))
abbrev k67 := HL TB.den (hsV kw.res (hsOs kw.post))
noncomputable def k4k : Cx TB := ⟨inf, [ka9], [], 4, []⟩
noncomputable def k78 : Code := Try.f82.body.getD .skip
noncomputable def k7r : List ResultVar := Try.f82.results.toList
noncomputable def kb4 (o : k67) : An TB := .no
noncomputable def kaf (x : kc2) (o : k67) : Prop := WPh TB k4k 15 2 k78 (kb4 o) (kw.st TB x) (retTQ TB k4k kw k7r o)
set_option maxRecDepth 100000 in
theorem kk0 (o : k67) : OblH TB k4k 15 2 k78 (kb4 o) (retTQ TB k4k kw k7r o) :=
  OblH.of_eq (X := (True ∧ (True ∧ True))) (by kernel_rfl) ⟨trivial, ⟨trivial, trivial⟩⟩
set_option maxRecDepth 100000 in
theorem kjq {x : kc2} {o : k67} (h : kaf x o) : SoundH Try.prog kw.f ((kw.args idf x).map (er TB)) ((kw.obs idf x).map (erO TB)) (er TB (kw.val idf o)) ((kw.ops idf o).map (erO TB)) :=
  Con.soundH (c := kw) (C := k4k) TBok ⟨inf_ok, (all_cons kgz all_nil), all_nil⟩ mix Try.func82 (show Try.f82.body = some k78 by kernel_rfl) (show Try.f82.ntmps = 15 by kernel_rfl) (show Try.f82.results.toList = k7r by kernel_rfl) rfl h (kk0 o)
theorem bd82 : Callable Try.prog 82 := ⟨by rw [Try.func82]; kernel_rfl, by rw [Try.func82]; show some _ ≠ some _; decide⟩
noncomputable def kam : Con TB.den := kw.relR kaf
theorem kkw : kam.Ok Try.prog TB := Con.ok_rel kw bd82 fun _ _ h => kjq h
end Go.Proofs.Ytponaobpcdkggaa
namespace Go.Proofs.Ytponaobpcdkggaa
open Go Go.Bv Go.Cv Go.Md Go.RowKit
def kr : Con TB.den := Con.mk0 58 [.one (.row 0), .one (.d (.int .i64)), .one (.d (.int .i64))] [.vec (.int .i64)] (.tup [.one (.d (.int .i64)), .one (.d (.int .i64))]) [.vec (.int .i64)]
abbrev kdi := HL TB.den (hsT kr.ins (hsOs kr.pre))
abbrev k1a := HL TB.den (hsV kr.res (hsOs kr.post))
noncomputable def k2c : Cx TB := ⟨inf, [kam, ka9], [], 4, []⟩
noncomputable def k4t : Code := Try.f58.body.getD .skip
noncomputable def k5c : List ResultVar := Try.f58.results.toList
def k54 : Tm := ⟨[0, 1], [.vec (.int .i64), .cells [.d (.int .i64)]], [9, 11], [.one (.ptr 1 0), .one (.d (.int .i64))], 2⟩
noncomputable def kcn (o : k1a) (i : HL TB.den k54.hs) : Prop := ghs TB [] (k54.fill TB i) fun s => WP TB k2c 57 1 (cB (cB (cB (cB (cB (cB (cB k4t))))))) .no s (retTQ TB k2c kr k5c o)
structure k8s (o : k1a) (i : HL TB.den k54.hs) : Prop where
  h : kcn o i
noncomputable def knb (o : k1a) : Exit → TSt TB.den → Prop := thenT TB (fun s => k54.mat TB 1 s (k8s o)) (retTQ TB k2c kr k5c o)
def k6d : Tm := ⟨[0, 1], [.vec (.int .i64), .cells [.d (.int .i64)]], [0, 9, 10, 11, 12], [.one (.row 0), .one (.ptr 1 0), .one (.d (.int .i64)), .one (.d (.int .i64)), .one (.d (.int .i64))], 2⟩
noncomputable def kcl (o : k1a) (i : HL TB.den k6d.hs) : Prop := ghs TB [] (k6d.fill TB i) fun s => WP TB k2c 57 1 (cB (cA (cB (cA (cB (cB (cB (cB (cB (cB k4t)))))))))) .no s (knb o)
structure kdc (o : k1a) (i : HL TB.den k6d.hs) : Prop where
  h : kcl o i
noncomputable def knt (o : k1a) : An TB := .jn k6d (kdc o) [] .no [] .no
noncomputable def knp (o : k1a) : An TB := .nd [] .no [] (.nd [] (knt o) [] .no)
noncomputable def knw (o : k1a) : An TB := .jn k54 (k8s o) [] (knp o) [] .no
noncomputable def kns (o : k1a) : An TB := .nd [] .no [] (.nd [] .no [] (knw o))
noncomputable def knr (o : k1a) : An TB := .nd [] .no [] (.nd [] .no [] (kns o))
noncomputable def kdd (o : k1a) : An TB := .nd [] .no [] (.nd [] .no [] (knr o))
noncomputable def kbz (x : kdi) (o : k1a) : Prop := WPh TB k2c 57 1 k4t (kdd o) (kr.st TB x) (retTQ TB k2c kr k5c o)
set_option maxRecDepth 100000 in
theorem kmq (o : k1a) : OblH TB k2c 57 1 k4t (kdd o) (retTQ TB k2c kr k5c o) :=
  OblH.of_eq (X := (True ∧ (True ∧ (True ∧ (True ∧ (True ∧ (True ∧ ((True ∧ (((True ∧ ((True ∧ (True ∧ True)) ∧ True)) ∧ (∀ i, (kdc o) i = (kcl o) i) ∧ True) ∧ True)) ∧ (∀ i, (k8s o) i = (kcn o) i) ∧ (True ∧ (True ∧ ((True ∧ True) ∧ (True ∧ ((True ∧ True) ∧ (True ∧ True)))))))))))))) (by kernel_rfl) ⟨trivial, ⟨trivial, ⟨trivial, ⟨trivial, ⟨trivial, ⟨trivial, ⟨⟨trivial, ⟨⟨⟨trivial, ⟨⟨trivial, ⟨trivial, trivial⟩⟩, trivial⟩⟩, fun _ => propext ⟨fun h => h.1, fun h => ⟨h⟩⟩, trivial⟩, trivial⟩⟩, fun _ => propext ⟨fun h => h.1, fun h => ⟨h⟩⟩, ⟨trivial, ⟨trivial, ⟨⟨trivial, trivial⟩, ⟨trivial, ⟨⟨trivial, trivial⟩, ⟨trivial, trivial⟩⟩⟩⟩⟩⟩⟩⟩⟩⟩⟩⟩⟩
set_option maxRecDepth 100000 in
theorem kn1 {x : kdi} {o : k1a} (h : kbz x o) : SoundH Try.prog kr.f ((kr.args idf x).map (er TB)) ((kr.obs idf x).map (erO TB)) (er TB (kr.val idf o)) ((kr.ops idf o).map (erO TB)) :=
  Con.soundH (c := kr) (C := k2c) TBok ⟨inf_ok, (all_cons kkw (all_cons kgz all_nil)), all_nil⟩ mix Try.func58 (show Try.f58.body = some k4t by kernel_rfl) (show Try.f58.ntmps = 57 by kernel_rfl) (show Try.f58.results.toList = k5c by kernel_rfl) rfl h (kmq o)
theorem bd58 : Callable Try.prog 58 := ⟨by rw [Try.func58]; kernel_rfl, by rw [Try.func58]; show some _ ≠ some _; decide⟩
noncomputable def kci : Con TB.den := kr.relR kbz
theorem kne : kci.Ok Try.prog TB := Con.ok_rel kr bd58 fun _ _ h => kn1 h
end Go.Proofs.Ytponaobpcdkggaa
namespace Go.Proofs.Ytponaobpcdkggaa
open Go Go.Bv Go.Cv Go.Md Go.RowKit
def k15 : Con TB.den := Con.mk0 79 [.one (.row 0), .one (.d (.int .i64)), .one (.d (.int .i64)), .one (.d (.int .i64))] [.vec (.int .i64)] (.tup []) [.vec (.int .i64)]
abbrev kfu := HL TB.den (hsT k15.ins (hsOs k15.pre))
abbrev k18 := HL TB.den (hsV k15.res (hsOs k15.post))
noncomputable def k2g : Cx TB := ⟨inf, [k7h], [], 4, []⟩
noncomputable def k47 : Code := Try.f79.body.getD .skip
noncomputable def k7a : List ResultVar := Try.f79.results.toList
noncomputable def kq4 (o : k18) : Exit → TSt TB.den → Prop := blockT TB 0 (retTQ TB k2g k15 k7a o)
def k1b : Tm := ⟨[0], [.vec (.int .i64)], [0, 2, 3, 8], [.one (.row 0), .one (.d (.int .i64)), .one (.d (.int .i64)), .one (.d (.int .i64))], 1⟩
noncomputable def k9y (o : k18) (nx1 : HL TB.den k1b.hs → Prop) : Exit → TSt TB.den → Prop := thenT TB (fun s => k1b.mat TB 1 s nx1) (kq4 o)
def k5v : Tm := ⟨[0], [.vec (.int .i64)], [0, 2, 3, 8, 9], [.one (.row 0), .one (.d (.int .i64)), .one (.d (.int .i64)), .one (.d (.int .i64)), .one (.d (.int .i64))], 81⟩
noncomputable def kee (o : k18) (nx1 : HL TB.den k1b.hs → Prop) (i : HL TB.den k5v.hs) : Prop := ghs TB [] (k5v.fill TB i) fun s => WP TB k2g 76 1 (cB (cB (cB (cA (cA (cA (cB k47))))))) .no s (blockT TB 1 (k9y o nx1))
structure k9x (o : k18) (nx1 : HL TB.den k1b.hs → Prop) (i : HL TB.den k5v.hs) : Prop where
  h : kee o nx1 i
noncomputable def kq6 (o : k18) (nx1 : HL TB.den k1b.hs → Prop) : Exit → TSt TB.den → Prop := thenT TB (fun s => k5v.mat TB 1 s (k9x o nx1)) (blockT TB 1 (k9y o nx1))
def k75 : Tm := ⟨[0], [.vec (.int .i64)], [0, 2, 3, 8, 9, 36], [.one (.row 0), .one (.d (.int .i64)), .one (.d (.int .i64)), .one (.d (.int .i64)), .one (.d (.int .i64)), .one (.d (.bool))], 81⟩
noncomputable def ked (o : k18) (nx1 : HL TB.den k1b.hs → Prop) (i : HL TB.den k75.hs) : Prop := ghs TB [] (k75.fill TB i) fun s => WP TB k2g 76 1 (cB (cA (cB (cB (cA (cA (cA (cB k47)))))))) .no s (kq6 o nx1)
structure kez (o : k18) (nx1 : HL TB.den k1b.hs → Prop) (i : HL TB.den k75.hs) : Prop where
  h : ked o nx1 i
noncomputable def kpy (o : k18) (nx1 : HL TB.den k1b.hs → Prop) : An TB := .jn k75 (kez o nx1) [] .no [] .no
noncomputable def kpw (o : k18) (nx1 : HL TB.den k1b.hs → Prop) : An TB := .jn k5v (k9x o nx1) [] (kpy o nx1) [] .no
noncomputable def kex (o : k18) (nx1 : HL TB.den k1b.hs → Prop) : An TB := .nd [] .no [] (.nd [] .no [] (kpw o nx1))
noncomputable def ka1 (o : k18) (nx1 : HL TB.den k1b.hs → Prop) (i : HL TB.den k1b.hs) : Prop := WP TB k2g 76 1 (cA (cA (cB k47))) (kex o nx1) (k1b.fill TB i) (k9y o nx1)
noncomputable def kph (o : k18) : An TB := .lp [] k1b (ka1 o) fun nx1 => (kex o nx1)
noncomputable def ker (o : k18) : An TB := .nd [] .no [] (kph o)
noncomputable def kdj (x : kfu) (o : k18) : Prop := WPh TB k2g 76 1 k47 (ker o) (k15.st TB x) (retTQ TB k2g k15 k7a o)
set_option maxRecDepth 100000 in
theorem kpd (o : k18) : OblH TB k2g 76 1 k47 (ker o) (retTQ TB k2g k15 k7a o) :=
  OblH.of_eq (X := (True ∧ ((∀ nx i, (ka1 o) nx i = (ka1 o) nx i) ∧ ∀ nx1 : HL TB.den k1b.hs → Prop, (True ∧ ((True ∧ (True ∧ True)) ∧ ((True ∧ (∀ i, (kez o nx1) i = (ked o nx1) i) ∧ (True ∧ True)) ∧ (∀ i, (k9x o nx1) i = (kee o nx1) i) ∧ ((True ∧ (True ∧ True)) ∧ (True ∧ True)))))))) (by kernel_rfl) ⟨trivial, ⟨fun _ _ => rfl, fun _ => ⟨trivial, ⟨⟨trivial, ⟨trivial, trivial⟩⟩, ⟨⟨trivial, fun _ => propext ⟨fun h => h.1, fun h => ⟨h⟩⟩, ⟨trivial, trivial⟩⟩, fun _ => propext ⟨fun h => h.1, fun h => ⟨h⟩⟩, ⟨⟨trivial, ⟨trivial, trivial⟩⟩, ⟨trivial, trivial⟩⟩⟩⟩⟩⟩⟩
set_option maxRecDepth 100000 in
theorem kpu {x : kfu} {o : k18} (h : kdj x o) : SoundH Try.prog k15.f ((k15.args idf x).map (er TB)) ((k15.obs idf x).map (erO TB)) (er TB (k15.val idf o)) ((k15.ops idf o).map (erO TB)) :=
  Con.soundH (c := k15) (C := k2g) TBok ⟨inf_ok, (all_cons k9f all_nil), all_nil⟩ mix Try.func79 (show Try.f79.body = some k47 by kernel_rfl) (show Try.f79.ntmps = 76 by kernel_rfl) (show Try.f79.results.toList = k7a by kernel_rfl) rfl h (kpd o)
theorem bd79 : Callable Try.prog 79 := ⟨by rw [Try.func79]; kernel_rfl, by rw [Try.func79]; show some _ ≠ some _; decide⟩
noncomputable def ke3 : Con TB.den := k15.relR kdj
theorem kq5 : ke3.Ok Try.prog TB := Con.ok_rel k15 bd79 fun _ _ h => kpu h
end Go.Proofs.Ytponaobpcdkggaa
namespace Go.Proofs.Ytponaobpcdkggaa
open Go Go.Bv Go.Cv Go.Md Go.RowKit
def kx : Con TB.den := Con.mk0 56 [.one (.row 0), .one (.d (.int .i64)), .one (.d (.int .i64))] [.vec (.int .i64)] (.tup []) [.vec (.int .i64)]
abbrev kg6 := HL TB.den (hsT kx.ins (hsOs kx.pre))
abbrev k1i := HL TB.den (hsV kx.res (hsOs kx.post))
noncomputable def k20 : Cx TB := ⟨inf, [ke3], [], 4, []⟩
noncomputable def k46 : Code := Try.f56.body.getD .skip
noncomputable def k4u : List ResultVar := Try.f56.results.toList
noncomputable def kq7 (o : k1i) : Exit → TSt TB.den → Prop := blockT TB 2 (retTQ TB k20 kx k4u o)
def k3s : Tm := ⟨[0], [.vec (.int .i64)], [0, 6, 7, 10], [.one (.row 0), .one (.d (.int .i64)), .one (.d (.int .i64)), .one (.d (.int .i64))], 1⟩
noncomputable def kq3 (o : k1i) (nx2 : HL TB.den k3s.hs → Prop) : Exit → TSt TB.den → Prop := thenT TB (fun s => k3s.mat TB 1 s nx2) (kq7 o)
noncomputable def ka3 (o : k1i) (nx2 : HL TB.den k3s.hs → Prop) (i : HL TB.den k3s.hs) : Prop := WP TB k20 56 1 (cA (cA (cB (cB (cB (cB (cB k46))))))) .no (k3s.fill TB i) (kq3 o nx2)
noncomputable def ket (o : k1i) : An TB := .lp [] k3s (ka3 o) fun nx2 => .no
noncomputable def kq2 (o : k1i) : Exit → TSt TB.den → Prop := thenT TB (fun s => ghs TB [] s fun s => WP TB k20 56 1 (cB (cB (cB (cB k46)))) (.nd [] .no [] (ket o)) s (retTQ TB k20 kx k4u o)) (retTQ TB k20 kx k4u o)
def k3t : Tm := ⟨[0], [.vec (.int .i64)], [0, 6, 7, 8, 9], [.one (.row 0), .one (.d (.int .i64)), .one (.d (.int .i64)), .one (.d (.int .i64)), .one (.d (.int .i64))], 1⟩
noncomputable def kqa (o : k1i) (nx1 : HL TB.den k3t.hs → Prop) : Exit → TSt TB.den → Prop := thenT TB (fun s => k3t.mat TB 1 s nx1) (blockT TB 0 (kq2 o))
noncomputable def ka2 (o : k1i) (nx1 : HL TB.den k3t.hs → Prop) (i : HL TB.den k3t.hs) : Prop := WP TB k20 56 1 (cA (cA (cB (cA (cB (cB (cB k46))))))) .no (k3t.fill TB i) (kqa o nx1)
noncomputable def kol (o : k1i) : An TB := .lp [] k3t (ka2 o) fun nx1 => .no
noncomputable def kpv (o : k1i) : An TB := .nd [] (.nd [] .no [] (kol o)) [] (.nd [] .no [] (ket o))
noncomputable def kps (o : k1i) : An TB := .nd [] .no [] (.nd [] .no [] (kpv o))
noncomputable def kew (o : k1i) : An TB := .nd [] .no [] (kps o)
noncomputable def k96 (x : kg6) (o : k1i) : Prop := WPh TB k20 56 1 k46 (kew o) (kx.st TB x) (retTQ TB k20 kx k4u o)
set_option maxRecDepth 100000 in
theorem kpa (o : k1i) : OblH TB k20 56 1 k46 (kew o) (retTQ TB k20 kx k4u o) :=
  OblH.of_eq (X := (True ∧ (True ∧ (True ∧ ((True ∧ ((∀ nx i, (ka2 o) nx i = (ka2 o) nx i) ∧ ∀ nx1 : HL TB.den k3t.hs → Prop, ((True ∧ (True ∧ True)) ∧ (True ∧ True)))) ∧ (True ∧ ((∀ nx i, (ka3 o) nx i = (ka3 o) nx i) ∧ ∀ nx2 : HL TB.den k3s.hs → Prop, ((True ∧ (True ∧ True)) ∧ ((True ∧ True) ∧ True))))))))) (by kernel_rfl) ⟨trivial, ⟨trivial, ⟨trivial, ⟨⟨trivial, ⟨fun _ _ => rfl, fun _ => ⟨⟨trivial, ⟨trivial, trivial⟩⟩, ⟨trivial, trivial⟩⟩⟩⟩, ⟨trivial, ⟨fun _ _ => rfl, fun _ => ⟨⟨trivial, ⟨trivial, trivial⟩⟩, ⟨⟨trivial, trivial⟩, trivial⟩⟩⟩⟩⟩⟩⟩⟩
set_option maxRecDepth 100000 in
theorem kpc {x : kg6} {o : k1i} (h : k96 x o) : SoundH Try.prog kx.f ((kx.args idf x).map (er TB)) ((kx.obs idf x).map (erO TB)) (er TB (kx.val idf o)) ((kx.ops idf o).map (erO TB)) :=
  Con.soundH (c := kx) (C := k20) TBok ⟨inf_ok, (all_cons kq5 all_nil), all_nil⟩ mix Try.func56 (show Try.f56.body = some k46 by kernel_rfl) (show Try.f56.ntmps = 56 by kernel_rfl) (show Try.f56.results.toList = k4u by kernel_rfl) rfl h (kpa o)
theorem bd56 : Callable Try.prog 56 := ⟨by rw [Try.func56]; kernel_rfl, by rw [Try.func56]; show some _ ≠ some _; decide⟩
noncomputable def ke1 : Con TB.den := kx.relR k96
theorem kpz : ke1.Ok Try.prog TB := Con.ok_rel kx bd56 fun _ _ h => kpc h
end Go.Proofs.Ytponaobpcdkggaa
namespace Go.Proofs.Ytponaobpcdkggaa
open Go Go.Bv Go.Cv Go.Md Go.RowKit
def kp : Con TB.den := Con.mk0 55 [.one (.row 0), .one (.d (.int .i64)), .one (.d (.int .i64))] [.vec (.int .i64)] (.tup []) [.vec (.int .i64)]
abbrev kcp := HL TB.den (hsT kp.ins (hsOs kp.pre))
abbrev k14 := HL TB.den (hsV kp.res (hsOs kp.post))
noncomputable def k21 : Cx TB := ⟨inf, [k7h], [], 4, []⟩
noncomputable def k3c : Code := Try.f55.body.getD .skip
noncomputable def k65 : List ResultVar := Try.f55.results.toList
noncomputable def klz (o : k14) : Exit → TSt TB.den → Prop := blockT TB 0 (retTQ TB k21 kp k65 o)
def kq : Tm := ⟨[0], [.vec (.int .i64)], [0, 1, 2, 6], [.one (.row 0), .one (.d (.int .i64)), .one (.d (.int .i64)), .one (.d (.int .i64))], 1⟩
noncomputable def k87 (o : k14) (nx2 : HL TB.den kq.hs → Prop) : Exit → TSt TB.den → Prop := thenT TB (fun s => kq.mat TB 1 s nx2) (klz o)
noncomputable def klk (o : k14) (nx2 : HL TB.den kq.hs → Prop) : Exit → TSt TB.den → Prop := thenT TB (fun s => ghs TB [] s fun s => WP TB k21 49 1 (cB (cB (cA (cA (cB k3c))))) .no s (k87 o nx2)) (k87 o nx2)
noncomputable def klg (o : k14) (nx2 : HL TB.den kq.hs → Prop) : Exit → TSt TB.den → Prop := blockT TB 2 (blockT TB 1 (klk o nx2))
def k2s : Tm := ⟨[0], [.vec (.int .i64)], [0, 1, 2, 6, 7], [.one (.row 0), .one (.d (.int .i64)), .one (.d (.int .i64)), .one (.d (.int .i64)), .one (.d (.int .i64))], 1⟩
noncomputable def km8 (o : k14) (nx2 : HL TB.den kq.hs → Prop) (nx1 : HL TB.den k2s.hs → Prop) : Exit → TSt TB.den → Prop := thenT TB (fun s => k2s.mat TB 1 s nx1) (klg o nx2)
noncomputable def k4r (o : k14) (nx2 : HL TB.den kq.hs → Prop) (nx1 : HL TB.den k2s.hs → Prop) (i : HL TB.den k2s.hs) : Prop := WP TB k21 49 1 (cA (cA (cB (cA (cA (cB (cA (cA (cB k3c))))))))) .no (k2s.fill TB i) (km8 o nx2 nx1)
noncomputable def km2 (o : k14) (nx2 : HL TB.den kq.hs → Prop) : An TB := .lp [] k2s (k4r o nx2) fun nx1 => .no
noncomputable def kbt (o : k14) (nx2 : HL TB.den kq.hs → Prop) : An TB := .nd [] (.nd [] .no [] (km2 o nx2)) [] .no
noncomputable def k4s (o : k14) (nx2 : HL TB.den kq.hs → Prop) (i : HL TB.den kq.hs) : Prop := WP TB k21 49 1 (cA (cA (cB k3c))) (.nd [] .no [] (kbt o nx2)) (kq.fill TB i) (k87 o nx2)
noncomputable def kl1 (o : k14) : An TB := .lp [] kq (k4s o) fun nx2 => (.nd [] .no [] (kbt o nx2))
noncomputable def kby (o : k14) : An TB := .nd [] .no [] (kl1 o)
noncomputable def k7j (x : kcp) (o : k14) : Prop := WPh TB k21 49 1 k3c (kby o) (kp.st TB x) (retTQ TB k21 kp k65 o)
set_option maxRecDepth 100000 in
theorem kko (o : k14) : OblH TB k21 49 1 k3c (kby o) (retTQ TB k21 kp k65 o) :=
  OblH.of_eq (X := (True ∧ ((∀ nx i, (k4s o) nx i = (k4s o) nx i) ∧ ∀ nx2 : HL TB.den kq.hs → Prop, ((True ∧ (True ∧ True)) ∧ ((True ∧ ((∀ nx i, (k4r o nx2) nx i = (k4r o nx2) nx i) ∧ ∀ nx1 : HL TB.den k2s.hs → Prop, ((True ∧ (True ∧ True)) ∧ (True ∧ True)))) ∧ True))))) (by kernel_rfl) ⟨trivial, ⟨fun _ _ => rfl, fun _ => ⟨⟨trivial, ⟨trivial, trivial⟩⟩, ⟨⟨trivial, ⟨fun _ _ => rfl, fun _ => ⟨⟨trivial, ⟨trivial, trivial⟩⟩, ⟨trivial, trivial⟩⟩⟩⟩, trivial⟩⟩⟩⟩
set_option maxRecDepth 100000 in
theorem kki {x : kcp} {o : k14} (h : k7j x o) : SoundH Try.prog kp.f ((kp.args idf x).map (er TB)) ((kp.obs idf x).map (erO TB)) (er TB (kp.val idf o)) ((kp.ops idf o).map (erO TB)) :=
  Con.soundH (c := kp) (C := k21) TBok ⟨inf_ok, (all_cons k9f all_nil), all_nil⟩ mix Try.func55 (show Try.f55.body = some k3c by kernel_rfl) (show Try.f55.ntmps = 49 by kernel_rfl) (show Try.f55.results.toList = k65 by kernel_rfl) rfl h (kko o)
set_option maxRecDepth 100000 in
theorem km4 {p1 : Int} {p2 : Int} {w0 : List Int} {e0 : List Int} (h :
((w0.length = w0.length) ∧ Md.Loop (p1, p2, (IntKind.i64.wrap (p1 + 1) : Int), w0, ()) (k4s (e0, ())))) : k7j (p1, p2, w0, ()) (e0, ()) := WPh.of_eq (by kernel_rfl) h
def kbs (e0 : List Int) (nx2 : HL TB.den kq.hs → Prop) (k2 : Int → List Int → Prop) (s1 : Int) (s2 : Int) (s6 : Int) (g0 : List Int) : Prop :=
(decide (s6 < s2) = true →
(g0.length = g0.length) ∧ Md.Loop (s1, s2, s6, s6, g0, ()) (k4r (e0, ()) nx2)) ∧
(decide (s6 < s2) = false →
 g0 = e0)
set_option maxRecDepth 100000 in
theorem kkj {e0 : List Int} {s1 : Int} {s2 : Int} {s6 : Int} {g0 : List Int} (inv : Int → List Int → Prop) (μ : Int → List Int → Nat) (h0 : inv s6 g0) (hs : ∀ (s6 : Int) (g0 : List Int), inv s6 g0 → kbs e0 (fun s : Int × Int × Int × (List Int) × Unit => ((s.1 = s1 ∧ s.2.1 = s2) ∧ inv s.2.2.1 s.2.2.2.1) ∧ μ s.2.2.1 s.2.2.2.1 < μ s6 g0) (fun s6q g0q => inv s6q g0q ∧ μ s6q g0q < μ s6 g0) s1 s2 s6 g0) : Md.Loop (s1, s2, s6, g0, ()) (k4s (e0, ())) :=
  ⟨⟨fun s : Int × Int × Int × (List Int) × Unit => (s.1 = s1 ∧ s.2.1 = s2) ∧ inv s.2.2.1 s.2.2.2.1, fun s : Int × Int × Int × (List Int) × Unit => μ s.2.2.1 s.2.2.2.1, ⟨⟨rfl, rfl⟩, h0⟩, fun (s1p, s2p, s6p, g0p, ()) ⟨⟨eq0, eq1⟩, hi⟩ => by
    have eq0 : s1p = s1 := eq0; subst s1p; have eq1 : s2p = s2 := eq1; subst s2p; exact mpr_of (by kernel_rfl) ((congrArg (fun k => kbs e0 (fun s : Int × Int × Int × (List Int) × Unit => ((s.1 = s1 ∧ s.2.1 = s2) ∧ inv s.2.2.1 s.2.2.2.1) ∧ μ s.2.2.1 s.2.2.2.1 < μ s6p g0p) k s1 s2 s6p g0p) (lpk2 (⟨rfl, rfl⟩ : s1 = s1 ∧ s2 = s2) inv (fun s6q g0q => μ s6q g0q < μ s6p g0p))).mpr (hs s6p g0p hi))⟩⟩
def kbx (e0 : List Int) (nx2 : HL TB.den kq.hs → Prop) (k1 : Int → List Int → Prop) (s1 : Int) (s2 : Int) (s6 : Int) (s7 : Int) (g0 : List Int) : Prop :=
(decide (s1 < s7) = true →
(0 ≤ s7 ∧ s7 < (g0.length : Int)) ∧ (0 ≤ s7 ∧ s7 < (g0.length : Int)) ∧ (0 ≤ IntKind.i64.wrap (s7 - 1) ∧ IntKind.i64.wrap (s7 - 1) < (g0.length : Int)) ∧ (0 ≤ IntKind.i64.wrap (s7 - 1) ∧ IntKind.i64.wrap (s7 - 1) < (g0.length : Int)) ∧ let r1 : Bool := (decide ((ix g0 s7) < (ix g0 (IntKind.i64.wrap (s7 - 1)))))
(r1 = true →
(0 ≤ IntKind.i64.wrap (s7 - 1) ∧ IntKind.i64.wrap (s7 - 1) < (g0.length : Int)) ∧ (0 ≤ IntKind.i64.wrap (s7 - 1) ∧ IntKind.i64.wrap (s7 - 1) < (g0.length : Int)) ∧ (0 ≤ s7 ∧ s7 < (g0.length : Int)) ∧ (0 ≤ s7 ∧ s7 < (g0.length : Int)) ∧ (0 ≤ s7 ∧ s7 < (g0.length : Int)) ∧ (0 ≤ s7 ∧ s7 < (g0.length : Int)) ∧ (0 ≤ IntKind.i64.wrap (s7 - 1) ∧ IntKind.i64.wrap (s7 - 1) < (g0.length : Int)) ∧ (0 ≤ IntKind.i64.wrap (s7 - 1) ∧ IntKind.i64.wrap (s7 - 1) < ((g0.set s7.toNat (ix g0 (IntKind.i64.wrap (s7 - 1)))).length : Int)) ∧ (g0.length = ((g0.set s7.toNat (ix g0 (IntKind.i64.wrap (s7 - 1)))).set (IntKind.i64.wrap (s7 - 1)).toNat (ix g0 s7)).length) ∧ k1 (IntKind.i64.wrap (s7 - 1) : Int) ((g0.set s7.toNat (ix g0 (IntKind.i64.wrap (s7 - 1)))).set (IntKind.i64.wrap (s7 - 1)).toNat (ix g0 s7) : List Int)) ∧
(r1 = false →
(g0.length = g0.length) ∧ nx2 (s1, s2, (IntKind.i64.wrap (s6 + 1) : Int), g0, ()))) ∧
(decide (s1 < s7) = false →
(g0.length = g0.length) ∧ nx2 (s1, s2, (IntKind.i64.wrap (s6 + 1) : Int), g0, ()))
set_option maxRecDepth 100000 in
theorem kkf {e0 : List Int} {nx2 : HL TB.den kq.hs → Prop} {s1 : Int} {s2 : Int} {s6 : Int} {s7 : Int} {g0 : List Int} (inv : Int → List Int → Prop) (μ : Int → List Int → Nat) (h0 : inv s7 g0) (hs : ∀ (s7 : Int) (g0 : List Int), inv s7 g0 → kbx e0 nx2 (fun s7q g0q => inv s7q g0q ∧ μ s7q g0q < μ s7 g0) s1 s2 s6 s7 g0) : Md.Loop (s1, s2, s6, s7, g0, ()) (k4r (e0, ()) nx2) :=
  ⟨⟨fun s : Int × Int × Int × Int × (List Int) × Unit => (s.1 = s1 ∧ s.2.1 = s2 ∧ s.2.2.1 = s6) ∧ inv s.2.2.2.1 s.2.2.2.2.1, fun s : Int × Int × Int × Int × (List Int) × Unit => μ s.2.2.2.1 s.2.2.2.2.1, ⟨⟨rfl, rfl, rfl⟩, h0⟩, fun (s1p, s2p, s6p, s7p, g0p, ()) ⟨⟨eq0, eq1, eq2⟩, hi⟩ => by
    have eq0 : s1p = s1 := eq0; subst s1p; have eq1 : s2p = s2 := eq1; subst s2p; have eq2 : s6p = s6 := eq2; subst s6p; exact mpr_of (by kernel_rfl) ((congrArg (fun k => kbx e0 nx2 k s1 s2 s6 s7p g0p) (lpk2 (⟨rfl, rfl, rfl⟩ : s1 = s1 ∧ s2 = s2 ∧ s6 = s6) inv (fun s7q g0q => μ s7q g0q < μ s7p g0p))).mpr (hs s7p g0p hi))⟩⟩
theorem bd55 : Callable Try.prog 55 := ⟨by rw [Try.func55]; kernel_rfl, by rw [Try.func55]; show some _ ≠ some _; decide⟩
theorem kk4 (p1 : Int) (p2 : Int) (w0 : List Int) (h : p1 = 0 ∧ p2 = w0.length ∧ w0.length ≤ 1000000) : k7j (p1, p2, w0, ()) (((srt w0) : List Int), ()) := by
  obtain ⟨rfl, rfl, h3⟩ := h
  refine km4 ⟨rfl, ?_⟩
  refine kkj (fun i g => 1 ≤ i ∧ (i ≤ w0.length ∨ i = 1) ∧ g.Perm w0 ∧ SortedTo g i.toNat) (fun i _ => (w0.length + 2 - i).toNat) ⟨by decide, .inr rfl, List.Perm.refl _, fun a b hab hb => ?_⟩ ?_
  · have : (IntKind.i64.wrap (0 + 1)).toNat = 1 := by decide
    omega
  rintro i g ⟨g0, g1, g2, g3⟩
  have hlen := g2.length_eq
  refine ⟨fun hh => ?_, fun hh => ?_⟩
  · have hh := of_decide_eq_true hh
    refine ⟨rfl, ?_⟩
    refine kkf (fun j g => (0 ≤ j ∧ j ≤ i) ∧ g.Perm w0 ∧ SortedBut g (i.toNat + 1) j.toNat) (fun j _ => j.toNat) ⟨⟨by omega, by omega⟩, g2, g3.but⟩ ?_
    rintro j g ⟨⟨k0, k1⟩, k2, k3⟩
    have hlen := k2.length_eq
    have nxt : ∀ {g : List Int}, g.Perm w0 → SortedTo g (i.toNat + 1) → (1 ≤ IntKind.i64.wrap (i + 1) ∧ (IntKind.i64.wrap (i + 1) ≤ w0.length ∨ IntKind.i64.wrap (i + 1) = 1) ∧ g.Perm w0 ∧ SortedTo g (IntKind.i64.wrap (i + 1)).toNat) ∧ ((w0.length : Int) + 2 - IntKind.i64.wrap (i + 1)).toNat < ((w0.length : Int) + 2 - i).toNat := by
      intro g q1 q2
      rw [wi (i + 1) (by omega) (by omega)]
      exact ⟨⟨by omega, .inl (by omega), q1, by rw [show (i + 1).toNat = i.toNat + 1 by omega]; exact q2⟩, by omega⟩
    refine ⟨fun h2 => ?_, fun h2 => ?_⟩
    · have h2 := of_decide_eq_true h2
      rw [wi (j - 1) (by omega) (by omega)]
      have ej : (j - 1).toNat = j.toNat - 1 := by omega
      have x1 := ix_getD g j k0 (by omega)
      have x2 := ix_getD g (j - 1) (by omega) (by omega)
      rw [ej] at x2
      refine ⟨⟨by omega, by omega⟩, ⟨by omega, by omega⟩, ⟨by omega, by omega⟩, ⟨by omega, by omega⟩, fun h5 => ?_, fun h5 => ?_⟩
      · have h5 := of_decide_eq_true h5
        rw [x1, x2] at h5
        refine ⟨⟨by omega, by omega⟩, ⟨by omega, by omega⟩, ⟨by omega, by omega⟩, ⟨by omega, by omega⟩, ⟨by omega, by omega⟩, ⟨by omega, by omega⟩, ⟨by omega, by omega⟩, ⟨by omega, by rw [List.length_set]; omega⟩, by rw [List.length_set, List.length_set], ⟨⟨by omega, by omega⟩, ?_, ?_⟩, by omega⟩
        · exact (k1av g j (j - 1) k0 (by omega) (by omega) (by omega)).trans k2
        · rw [ej]
          exact k3.step (by omega) (by omega) (by omega) h5 x1 x2
      · have h5 := of_decide_eq_false h5
        rw [x1, x2] at h5
        exact ⟨rfl, ⟨⟨rfl, rfl⟩, (nxt k2 (k3.stop (by omega) (by omega) (by omega))).1⟩, (nxt k2 (k3.stop (by omega) (by omega) (by omega))).2⟩
    · have h2 := of_decide_eq_false h2
      have ej : j.toNat = 0 := by omega
      rw [ej] at k3
      exact ⟨rfl, ⟨⟨rfl, rfl⟩, (nxt k2 k3.zero).1⟩, (nxt k2 k3.zero).2⟩
  · have hh := of_decide_eq_false hh
    have : SortedTo g g.length := fun a b hab hb => g3 a b hab (by omega)
    exact srt_eq g2 this.all
noncomputable def kb7 : Con TB.den := kp.fnR (fun x => (fun (p1 : Int) (p2 : Int) (w0 : List Int) => p1 = 0 ∧ p2 = w0.length ∧ w0.length ≤ 1000000) x.1 x.2.1 x.2.2.1) fun x => ((fun (p1 : Int) (p2 : Int) (w0 : List Int) => ((srt w0) : List Int)) x.1 x.2.1 x.2.2.1, ())
theorem klo : kb7.Ok Try.prog TB := Con.ok_fn kp bd55 fun x h => kki (kk4 x.1 x.2.1 x.2.2.1 h)
end Go.Proofs.Ytponaobpcdkggaa
namespace Go.Proofs.Ytponaobpcdkggaa
open Go Go.Bv Go.Cv Go.Md Go.RowKit
def kh : Con TB.den := Con.mk0 60 [.one (.row 0), .one (.d (.int .i64)), .one (.d (.int .i64))] [.vec (.int .i64)] (.one (.one (.d (.bool)))) [.vec (.int .i64)]
abbrev k9p := HL TB.den (hsT kh.ins (hsOs kh.pre))
abbrev ka := HL TB.den (hsV kh.res (hsOs kh.post))
noncomputable def km : Cx TB := ⟨inf, [k7h], [], 4, []⟩
noncomputable def k12 : Code := Try.f60.body.getD .skip
noncomputable def k3g : List ResultVar := Try.f60.results.toList
noncomputable def kgv (o : ka) : Exit → TSt TB.den → Prop := thenT TB (fun s => ghs TB [] s fun s => WP TB km 133 1 (cB (cB (cB k12))) .no s (retTQ TB km kh k3g o)) (retTQ TB km kh k3g o)
def kb : Tm := ⟨[0], [.vec (.int .i64)], [0, 1, 2, 7, 8], [.one (.row 0), .one (.d (.int .i64)), .one (.d (.int .i64)), .one (.d (.int .i64)), .one (.d (.int .i64))], 1⟩
noncomputable def k6e (o : ka) (nx2 : HL TB.den kb.hs → Prop) : Exit → TSt TB.den → Prop := thenT TB (fun s => kb.mat TB 1 s nx2) (blockT TB 0 (kgv o))
noncomputable def kgy (o : ka) (nx2 : HL TB.den kb.hs → Prop) : Exit → TSt TB.den → Prop := thenT TB (fun s => ghs TB [] s fun s => WP TB km 133 1 (cB (cB (cA (cA (cB (cA (cB (cB k12)))))))) .no s (k6e o nx2)) (k6e o nx2)
noncomputable def k3f (o : ka) (nx2 : HL TB.den kb.hs → Prop) : Exit → TSt TB.den → Prop := blockT TB 1 (kgy o nx2)
noncomputable def kgx (o : ka) (nx2 : HL TB.den kb.hs → Prop) : Exit → TSt TB.den → Prop := blockT TB 6 (k3f o nx2)
def k28 : Tm := ⟨[0], [.vec (.int .i64)], [0, 1, 2, 7, 8, 10], [.one (.row 0), .one (.d (.int .i64)), .one (.d (.int .i64)), .one (.d (.int .i64)), .one (.d (.int .i64)), .one (.d (.int .i64))], 137⟩
noncomputable def kgu (o : ka) (nx2 : HL TB.den kb.hs → Prop) (nx4 : HL TB.den k28.hs → Prop) : Exit → TSt TB.den → Prop := thenT TB (fun s => k28.mat TB 1 s nx4) (kgx o nx2)
noncomputable def k6j (o : ka) (nx2 : HL TB.den kb.hs → Prop) (nx4 : HL TB.den k28.hs → Prop) (i : HL TB.den k28.hs) : Prop := WP TB km 133 1 (cA (cA (cB (cA (cB (cB (cB (cB (cB (cB (cA (cA (cB (cA (cA (cB (cA (cB (cB k12))))))))))))))))))) .no (k28.fill TB i) (kgu o nx2 nx4)
noncomputable def kfo (o : ka) (nx2 : HL TB.den kb.hs → Prop) : An TB := .lp [] k28 (k6j o nx2) fun nx4 => .no
noncomputable def kfb (o : ka) (nx2 : HL TB.den kb.hs → Prop) : An TB := .nd [] .no [] (kfo o nx2)
noncomputable def kg8 (o : ka) (nx2 : HL TB.den kb.hs → Prop) : An TB := .nd [] (kfb o nx2) [] .no
noncomputable def k8w (o : ka) (nx2 : HL TB.den kb.hs → Prop) : An TB := .nd [] .no [] (kg8 o nx2)
def k38 : Tm := ⟨[0], [.vec (.int .i64)], [0, 1, 2, 7, 8], [.one (.row 0), .one (.d (.int .i64)), .one (.d (.int .i64)), .one (.d (.int .i64)), .one (.d (.int .i64))], 137⟩
noncomputable def k93 (o : ka) (nx2 : HL TB.den kb.hs → Prop) (i : HL TB.den k38.hs) : Prop := ghs TB [] (k38.fill TB i) fun s => WP TB km 133 1 (cB (cB (cB (cB (cB (cA (cA (cB (cA (cA (cB (cA (cB (cB k12)))))))))))))) (k8w o nx2) s (k3f o nx2)
structure k6h (o : ka) (nx2 : HL TB.den kb.hs → Prop) (i : HL TB.den k38.hs) : Prop where
  h : k93 o nx2 i
noncomputable def kgi (o : ka) (nx2 : HL TB.den kb.hs → Prop) : Exit → TSt TB.den → Prop := thenT TB (fun s => k38.mat TB 1 s (k6h o nx2)) (k3f o nx2)
noncomputable def kfl (o : ka) (nx2 : HL TB.den kb.hs → Prop) : Exit → TSt TB.den → Prop := blockT TB 4 (kgi o nx2)
def k27 : Tm := ⟨[0], [.vec (.int .i64)], [0, 1, 2, 7, 8, 9], [.one (.row 0), .one (.d (.int .i64)), .one (.d (.int .i64)), .one (.d (.int .i64)), .one (.d (.int .i64)), .one (.d (.int .i64))], 137⟩
noncomputable def kgk (o : ka) (nx2 : HL TB.den kb.hs → Prop) (nx3 : HL TB.den k27.hs → Prop) : Exit → TSt TB.den → Prop := thenT TB (fun s => k27.mat TB 1 s nx3) (kfl o nx2)
noncomputable def k6k (o : ka) (nx2 : HL TB.den kb.hs → Prop) (nx3 : HL TB.den k27.hs → Prop) (i : HL TB.den k27.hs) : Prop := WP TB km 133 1 (cA (cA (cB (cA (cB (cA (cB (cB (cB (cB (cA (cA (cB (cA (cA (cB (cA (cB (cB k12))))))))))))))))))) .no (k27.fill TB i) (kgk o nx2 nx3)
noncomputable def kg2 (o : ka) (nx2 : HL TB.den kb.hs → Prop) : An TB := .lp [] k27 (k6k o nx2) fun nx3 => .no
noncomputable def kg4 (o : ka) (nx2 : HL TB.den kb.hs → Prop) : An TB := .nd [] .no [] (kg2 o nx2)
noncomputable def kfq (o : ka) (nx2 : HL TB.den kb.hs → Prop) : An TB := .nd [] (kg4 o nx2) [] .no
noncomputable def kg7 (o : ka) (nx2 : HL TB.den kb.hs → Prop) : An TB := .nd [] .no [] (kfq o nx2)
noncomputable def kfk (o : ka) (nx2 : HL TB.den kb.hs → Prop) : An TB := .jn k38 (k6h o nx2) [] (kg7 o nx2) [] (k8w o nx2)
noncomputable def kfr (o : ka) (nx2 : HL TB.den kb.hs → Prop) : An TB := .nd [] .no [] (kfk o nx2)
noncomputable def kfe (o : ka) (nx2 : HL TB.den kb.hs → Prop) : An TB := .nd [] .no [] (kfr o nx2)
noncomputable def k90 (o : ka) (nx2 : HL TB.den kb.hs → Prop) : An TB := .nd [] .no [] (kfe o nx2)
def k39 : Tm := ⟨[0], [.vec (.int .i64)], [0, 1, 2, 7, 8], [.one (.row 0), .one (.d (.int .i64)), .one (.d (.int .i64)), .one (.d (.int .i64)), .one (.d (.int .i64))], 65⟩
noncomputable def k8v (o : ka) (nx2 : HL TB.den kb.hs → Prop) (i : HL TB.den k39.hs) : Prop := ghs TB [] (k39.fill TB i) fun s => WP TB km 133 1 (cB (cA (cA (cB (cA (cA (cB (cA (cB (cB k12)))))))))) (k90 o nx2) s (k3f o nx2)
structure k6i (o : ka) (nx2 : HL TB.den kb.hs → Prop) (i : HL TB.den k39.hs) : Prop where
  h : k8v o nx2 i
noncomputable def kgh (o : ka) (nx2 : HL TB.den kb.hs → Prop) : Exit → TSt TB.den → Prop := thenT TB (fun s => k39.mat TB 1 s (k6i o nx2)) (k3f o nx2)
noncomputable def kg3 (o : ka) (nx2 : HL TB.den kb.hs → Prop) : Exit → TSt TB.den → Prop := blockT TB 2 (kgh o nx2)
def k29 : Tm := ⟨[0], [.vec (.int .i64)], [0, 1, 2, 7, 8], [.one (.row 0), .one (.d (.int .i64)), .one (.d (.int .i64)), .one (.d (.int .i64)), .one (.d (.int .i64))], 1⟩
noncomputable def kfc (o : ka) (nx2 : HL TB.den kb.hs → Prop) (nx1 : HL TB.den k29.hs → Prop) : Exit → TSt TB.den → Prop := thenT TB (fun s => k29.mat TB 1 s nx1) (kg3 o nx2)
noncomputable def k6f (o : ka) (nx2 : HL TB.den kb.hs → Prop) (nx1 : HL TB.den k29.hs → Prop) (i : HL TB.den k29.hs) : Prop := WP TB km 133 1 (cA (cA (cA (cA (cA (cB (cA (cA (cB (cA (cB (cB k12)))))))))))) .no (k29.fill TB i) (kfc o nx2 nx1)
noncomputable def kg1 (o : ka) (nx2 : HL TB.den kb.hs → Prop) : An TB := .lp [] k29 (k6f o nx2) fun nx1 => .no
noncomputable def kga (o : ka) (nx2 : HL TB.den kb.hs → Prop) : An TB := .jn k39 (k6i o nx2) [] (kg1 o nx2) [] (k90 o nx2)
noncomputable def kfz (o : ka) (nx2 : HL TB.den kb.hs → Prop) : An TB := .nd [] (kga o nx2) [] .no
noncomputable def k8z (o : ka) (nx2 : HL TB.den kb.hs → Prop) : An TB := .nd [] .no [] (kfz o nx2)
noncomputable def k6g (o : ka) (nx2 : HL TB.den kb.hs → Prop) (i : HL TB.den kb.hs) : Prop := WP TB km 133 1 (cA (cA (cB (cA (cB (cB k12)))))) (k8z o nx2) (kb.fill TB i) (k6e o nx2)
noncomputable def kgl (o : ka) : An TB := .lp [] kb (k6g o) fun nx2 => (k8z o nx2)
noncomputable def kgf (o : ka) : An TB := .nd [] (.nd [] .no [] (kgl o)) [] .no
noncomputable def k97 (o : ka) : An TB := .nd [] .no [] (.nd [] .no [] (kgf o))
noncomputable def k8r (x : k9p) (o : ka) : Prop := WPh TB km 133 1 k12 (k97 o) (kh.st TB x) (retTQ TB km kh k3g o)
set_option maxRecDepth 100000 in
theorem kfv (o : ka) : OblH TB km 133 1 k12 (k97 o) (retTQ TB km kh k3g o) :=
  OblH.of_eq (X := (True ∧ (True ∧ ((True ∧ ((∀ nx i, (k6g o) nx i = (k6g o) nx i) ∧ ∀ nx2 : HL TB.den kb.hs → Prop, ((True ∧ (True ∧ True)) ∧ ((((∀ nx i, (k6f o nx2) nx i = (k6f o nx2) nx i) ∧ ∀ nx1 : HL TB.den k29.hs → Prop, ((True ∧ (True ∧ True)) ∧ True)) ∧ (∀ i, (k6i o nx2) i = (k8v o nx2) i) ∧ ((True ∧ ((True ∧ True) ∧ True)) ∧ ((True ∧ ((True ∧ True) ∧ True)) ∧ (True ∧ ((True ∧ ((True ∧ ((∀ nx i, (k6k o nx2) nx i = (k6k o nx2) nx i) ∧ ∀ nx3 : HL TB.den k27.hs → Prop, ((True ∧ (True ∧ True)) ∧ (((True ∧ (True ∧ True)) ∧ True) ∧ True)))) ∧ True)) ∧ (∀ i, (k6h o nx2) i = (k93 o nx2) i) ∧ (True ∧ ((True ∧ ((∀ nx i, (k6j o nx2) nx i = (k6j o nx2) nx i) ∧ ∀ nx4 : HL TB.den k28.hs → Prop, ((True ∧ (True ∧ True)) ∧ (((True ∧ (True ∧ True)) ∧ True) ∧ True)))) ∧ True))))))) ∧ True)))) ∧ (True ∧ True))))) (by kernel_rfl) ⟨trivial, ⟨trivial, ⟨⟨trivial, ⟨fun _ _ => rfl, fun _ => ⟨⟨trivial, ⟨trivial, trivial⟩⟩, ⟨⟨⟨fun _ _ => rfl, fun _ => ⟨⟨trivial, ⟨trivial, trivial⟩⟩, trivial⟩⟩, fun _ => propext ⟨fun h => h.1, fun h => ⟨h⟩⟩, ⟨⟨trivial, ⟨⟨trivial, trivial⟩, trivial⟩⟩, ⟨⟨trivial, ⟨⟨trivial, trivial⟩, trivial⟩⟩, ⟨trivial, ⟨⟨trivial, ⟨⟨trivial, ⟨fun _ _ => rfl, fun _ => ⟨⟨trivial, ⟨trivial, trivial⟩⟩, ⟨⟨⟨trivial, ⟨trivial, trivial⟩⟩, trivial⟩, trivial⟩⟩⟩⟩, trivial⟩⟩, fun _ => propext ⟨fun h => h.1, fun h => ⟨h⟩⟩, ⟨trivial, ⟨⟨trivial, ⟨fun _ _ => rfl, fun _ => ⟨⟨trivial, ⟨trivial, trivial⟩⟩, ⟨⟨⟨trivial, ⟨trivial, trivial⟩⟩, trivial⟩, trivial⟩⟩⟩⟩, trivial⟩⟩⟩⟩⟩⟩⟩, trivial⟩⟩⟩⟩, ⟨trivial, trivial⟩⟩⟩⟩
set_option maxRecDepth 100000 in
theorem kgm {x : k9p} {o : ka} (h : k8r x o) : SoundH Try.prog kh.f ((kh.args idf x).map (er TB)) ((kh.obs idf x).map (erO TB)) (er TB (kh.val idf o)) ((kh.ops idf o).map (erO TB)) :=
  Con.soundH (c := kh) (C := km) TBok ⟨inf_ok, (all_cons k9f all_nil), all_nil⟩ mix Try.func60 (show Try.f60.body = some k12 by kernel_rfl) (show Try.f60.ntmps = 133 by kernel_rfl) (show Try.f60.results.toList = k3g by kernel_rfl) rfl h (kfv o)
theorem bd60 : Callable Try.prog 60 := ⟨by rw [Try.func60]; kernel_rfl, by rw [Try.func60]; show some _ ≠ some _; decide⟩
noncomputable def k92 : Con TB.den := kh.relR k8r
theorem kgw : k92.Ok Try.prog TB := Con.ok_rel kh bd60 fun _ _ h => kgm h
end Go.Proofs.Ytponaobpcdkggaa
namespace Go.Proofs.Ytponaobpcdkggaa
open Go Go.Bv Go.Cv Go.Md Go.RowKit
def kn : Con TB.den := Con.mk0 62 [.one (.row 0), .one (.d (.int .i64)), .one (.d (.int .i64)), .one (.d (.int .i64))] [.vec (.int .i64)] (.one (.one (.d (.int .i64)))) [.vec (.int .i64)]
abbrev kbv := HL TB.den (hsT kn.ins (hsOs kn.pre))
abbrev ke := HL TB.den (hsV kn.res (hsOs kn.post))
noncomputable def k16 : Cx TB := ⟨inf, [k7h], [], 4, []⟩
noncomputable def k1u : Code := Try.f62.body.getD .skip
noncomputable def k4m : List ResultVar := Try.f62.results.toList
noncomputable def kkn (o : ke) : Exit → TSt TB.den → Prop := thenT TB (fun s => ghs TB [] s fun s => WP TB k16 84 1 (cB (cB (cB (cB k1u)))) .no s (retTQ TB k16 kn k4m o)) (retTQ TB k16 kn k4m o)
def kf : Tm := ⟨[0], [.vec (.int .i64)], [0, 1, 9, 10], [.one (.row 0), .one (.d (.int .i64)), .one (.d (.int .i64)), .one (.d (.int .i64))], 65⟩
noncomputable def k4l (o : ke) (nx2 : HL TB.den kf.hs → Prop) : Exit → TSt TB.den → Prop := thenT TB (fun s => kf.mat TB 1 s nx2) (blockT TB 0 (kkn o))
def k4h : Tm := ⟨[0], [.vec (.int .i64)], [0, 1, 9, 10], [.one (.row 0), .one (.d (.int .i64)), .one (.d (.int .i64)), .one (.d (.int .i64))], 181⟩
noncomputable def kav (o : ke) (nx2 : HL TB.den kf.hs → Prop) (i : HL TB.den k4h.hs) : Prop := ghs TB [] (k4h.fill TB i) fun s => WP TB k16 84 1 (cB (cB (cA (cA (cA (cA (cB (cB (cB k1u))))))))) .no s (blockT TB 1 (k4l o nx2))
structure k7w (o : ke) (nx2 : HL TB.den kf.hs → Prop) (i : HL TB.den k4h.hs) : Prop where
  h : kav o nx2 i
noncomputable def kkr (o : ke) (nx2 : HL TB.den kf.hs → Prop) : Exit → TSt TB.den → Prop := thenT TB (fun s => k4h.mat TB 1 s (k7w o nx2)) (blockT TB 1 (k4l o nx2))
def k2n : Tm := ⟨[0], [.vec (.int .i64)], [0, 1, 9, 10], [.one (.row 0), .one (.d (.int .i64)), .one (.d (.int .i64)), .one (.d (.int .i64))], 125⟩
noncomputable def kky (o : ke) (nx2 : HL TB.den kf.hs → Prop) (nx3 : HL TB.den k2n.hs → Prop) : Exit → TSt TB.den → Prop := thenT TB (fun s => k2n.mat TB 1 s nx3) (blockT TB 4 (kkr o nx2))
noncomputable def k7z (o : ke) (nx2 : HL TB.den kf.hs → Prop) (nx3 : HL TB.den k2n.hs → Prop) (i : HL TB.den k2n.hs) : Prop := WP TB k16 84 1 (cA (cA (cA (cB (cA (cA (cA (cA (cB (cB (cB k1u))))))))))) .no (k2n.fill TB i) (kky o nx2 nx3)
noncomputable def kkl (o : ke) (nx2 : HL TB.den kf.hs → Prop) : An TB := .lp [] k2n (k7z o nx2) fun nx3 => .no
noncomputable def kba (o : ke) (nx2 : HL TB.den kf.hs → Prop) : An TB := .jn k4h (k7w o nx2) [] (kkl o nx2) [] .no
def k4b : Tm := ⟨[0], [.vec (.int .i64)], [0, 1, 9, 10], [.one (.row 0), .one (.d (.int .i64)), .one (.d (.int .i64)), .one (.d (.int .i64))], 125⟩
noncomputable def kaw (o : ke) (nx2 : HL TB.den kf.hs → Prop) (i : HL TB.den k4b.hs) : Prop := ghs TB [] (k4b.fill TB i) fun s => WP TB k16 84 1 (cB (cA (cA (cA (cA (cB (cB (cB k1u)))))))) (kba o nx2) s (blockT TB 1 (k4l o nx2))
structure k7q (o : ke) (nx2 : HL TB.den kf.hs → Prop) (i : HL TB.den k4b.hs) : Prop where
  h : kaw o nx2 i
noncomputable def kks (o : ke) (nx2 : HL TB.den kf.hs → Prop) : Exit → TSt TB.den → Prop := thenT TB (fun s => k4b.mat TB 1 s (k7q o nx2)) (blockT TB 1 (k4l o nx2))
def k2o : Tm := ⟨[0], [.vec (.int .i64)], [0, 1, 9, 10], [.one (.row 0), .one (.d (.int .i64)), .one (.d (.int .i64)), .one (.d (.int .i64))], 65⟩
noncomputable def kj4 (o : ke) (nx2 : HL TB.den kf.hs → Prop) (nx1 : HL TB.den k2o.hs → Prop) : Exit → TSt TB.den → Prop := thenT TB (fun s => k2o.mat TB 1 s nx1) (blockT TB 2 (kks o nx2))
noncomputable def k7p (o : ke) (nx2 : HL TB.den kf.hs → Prop) (nx1 : HL TB.den k2o.hs → Prop) (i : HL TB.den k2o.hs) : Prop := WP TB k16 84 1 (cA (cA (cA (cA (cA (cA (cA (cB (cB (cB k1u)))))))))) .no (k2o.fill TB i) (kj4 o nx2 nx1)
noncomputable def kj9 (o : ke) (nx2 : HL TB.den kf.hs → Prop) : An TB := .lp [] k2o (k7p o nx2) fun nx1 => .no
noncomputable def kax (o : ke) (nx2 : HL TB.den kf.hs → Prop) : An TB := .jn k4b (k7q o nx2) [] (kj9 o nx2) [] (kba o nx2)
noncomputable def k7v (o : ke) (nx2 : HL TB.den kf.hs → Prop) (i : HL TB.den kf.hs) : Prop := WP TB k16 84 1 (cA (cA (cA (cB (cB (cB k1u)))))) (kax o nx2) (kf.fill TB i) (k4l o nx2)
noncomputable def kiz (o : ke) : An TB := .lp [] kf (k7v o) fun nx2 => (kax o nx2)
noncomputable def kke (o : ke) : An TB := .nd [] .no [] (.nd [] (kiz o) [] .no)
noncomputable def kb9 (o : ke) : An TB := .nd [] .no [] (.nd [] .no [] (kke o))
noncomputable def kag (x : kbv) (o : ke) : Prop := WPh TB k16 84 1 k1u (kb9 o) (kn.st TB x) (retTQ TB k16 kn k4m o)
set_option maxRecDepth 100000 in
theorem kj3 (o : ke) : OblH TB k16 84 1 k1u (kb9 o) (retTQ TB k16 kn k4m o) :=
  OblH.of_eq (X := (True ∧ (True ∧ (True ∧ (((∀ nx i, (k7v o) nx i = (k7v o) nx i) ∧ ∀ nx2 : HL TB.den kf.hs → Prop, (((∀ nx i, (k7p o nx2) nx i = (k7p o nx2) nx i) ∧ ∀ nx1 : HL TB.den k2o.hs → Prop, ((True ∧ (True ∧ True)) ∧ True)) ∧ (∀ i, (k7q o nx2) i = (kaw o nx2) i) ∧ (((∀ nx i, (k7z o nx2) nx i = (k7z o nx2) nx i) ∧ ∀ nx3 : HL TB.den k2n.hs → Prop, ((True ∧ (True ∧ True)) ∧ True)) ∧ (∀ i, (k7w o nx2) i = (kav o nx2) i) ∧ ((True ∧ (True ∧ True)) ∧ (True ∧ (True ∧ True)))))) ∧ (True ∧ True)))))) (by kernel_rfl) ⟨trivial, ⟨trivial, ⟨trivial, ⟨⟨fun _ _ => rfl, fun _ => ⟨⟨fun _ _ => rfl, fun _ => ⟨⟨trivial, ⟨trivial, trivial⟩⟩, trivial⟩⟩, fun _ => propext ⟨fun h => h.1, fun h => ⟨h⟩⟩, ⟨⟨fun _ _ => rfl, fun _ => ⟨⟨trivial, ⟨trivial, trivial⟩⟩, trivial⟩⟩, fun _ => propext ⟨fun h => h.1, fun h => ⟨h⟩⟩, ⟨⟨trivial, ⟨trivial, trivial⟩⟩, ⟨trivial, ⟨trivial, trivial⟩⟩⟩⟩⟩⟩, ⟨trivial, trivial⟩⟩⟩⟩⟩
set_option maxRecDepth 100000 in
theorem kj1 {x : kbv} {o : ke} (h : kag x o) : SoundH Try.prog kn.f ((kn.args idf x).map (er TB)) ((kn.obs idf x).map (erO TB)) (er TB (kn.val idf o)) ((kn.ops idf o).map (erO TB)) :=
  Con.soundH (c := kn) (C := k16) TBok ⟨inf_ok, (all_cons k9f all_nil), all_nil⟩ mix Try.func62 (show Try.f62.body = some k1u by kernel_rfl) (show Try.f62.ntmps = 84 by kernel_rfl) (show Try.f62.results.toList = k4m by kernel_rfl) rfl h (kj3 o)
theorem bd62 : Callable Try.prog 62 := ⟨by rw [Try.func62]; kernel_rfl, by rw [Try.func62]; show some _ ≠ some _; decide⟩
noncomputable def kas : Con TB.den := kn.relR kag
theorem kkv : kas.Ok Try.prog TB := Con.ok_rel kn bd62 fun _ _ h => kj1 h
end Go.Proofs.Ytponaobpcdkggaa
namespace Go.Proofs.Ytponaobpcdkggaa
open Go Go.Bv Go.Cv Go.Md Go.RowKit
def kj : Con TB.den := Con.mk0 63 [.one (.row 0), .one (.d (.int .i64)), .one (.d (.int .i64)), .one (.d (.int .i64))] [.vec (.int .i64)] (.tup [.one (.d (.int .i64)), .one (.d (.bool))]) [.vec (.int .i64)]
abbrev kf2 := HL TB.den (hsT kj.ins (hsOs kj.pre))
abbrev kc := HL TB.den (hsV kj.res (hsOs kj.post))
noncomputable def kl : Cx TB := ⟨inf, [k7h], [], 4, []⟩
noncomputable def k1d : Code := Try.f63.body.getD .skip
noncomputable def k2e : List ResultVar := Try.f63.results.toList
noncomputable def kpo (o : kc) : Exit → TSt TB.den → Prop := thenT TB (fun s => ghs TB [] s fun s => WP TB kl 168 1 (cB (cB (cB (cB (cB (cB (cB (cB (cB (cB k1d)))))))))) .no s (retTQ TB kl kj k2e o)) (retTQ TB kl kj k2e o)
def kk : Tm := ⟨[0], [.vec (.int .i64)], [0, 1, 10, 11], [.one (.row 0), .one (.d (.int .i64)), .one (.d (.int .i64)), .one (.d (.int .i64))], 245⟩
noncomputable def k5s (o : kc) (nx4 : HL TB.den kk.hs → Prop) : Exit → TSt TB.den → Prop := thenT TB (fun s => kk.mat TB 1 s nx4) (blockT TB 4 (kpo o))
def k5i : Tm := ⟨[0], [.vec (.int .i64)], [0, 1, 10, 11], [.one (.row 0), .one (.d (.int .i64)), .one (.d (.int .i64)), .one (.d (.int .i64))], 361⟩
noncomputable def kdl (o : kc) (nx4 : HL TB.den kk.hs → Prop) (i : HL TB.den k5i.hs) : Prop := ghs TB [] (k5i.fill TB i) fun s => WP TB kl 168 1 (cB (cB (cA (cA (cA (cA (cB (cB (cB (cB (cB (cB (cB (cB (cB k1d))))))))))))))) .no s (blockT TB 5 (k5s o nx4))
structure k9e (o : kc) (nx4 : HL TB.den kk.hs → Prop) (i : HL TB.den k5i.hs) : Prop where
  h : kdl o nx4 i
noncomputable def koq (o : kc) (nx4 : HL TB.den kk.hs → Prop) : Exit → TSt TB.den → Prop := thenT TB (fun s => k5i.mat TB 1 s (k9e o nx4)) (blockT TB 5 (k5s o nx4))
def k3k : Tm := ⟨[0], [.vec (.int .i64)], [0, 1, 10, 11], [.one (.row 0), .one (.d (.int .i64)), .one (.d (.int .i64)), .one (.d (.int .i64))], 301⟩
noncomputable def kok (o : kc) (nx4 : HL TB.den kk.hs → Prop) (nx5 : HL TB.den k3k.hs → Prop) : Exit → TSt TB.den → Prop := thenT TB (fun s => k3k.mat TB 1 s nx5) (blockT TB 8 (koq o nx4))
noncomputable def k9l (o : kc) (nx4 : HL TB.den kk.hs → Prop) (nx5 : HL TB.den k3k.hs → Prop) (i : HL TB.den k3k.hs) : Prop := WP TB kl 168 1 (cA (cA (cA (cB (cA (cA (cA (cA (cB (cB (cB (cB (cB (cB (cB (cB (cB k1d))))))))))))))))) .no (k3k.fill TB i) (kok o nx4 nx5)
noncomputable def koz (o : kc) (nx4 : HL TB.den kk.hs → Prop) : An TB := .lp [] k3k (k9l o nx4) fun nx5 => .no
noncomputable def kdz (o : kc) (nx4 : HL TB.den kk.hs → Prop) : An TB := .jn k5i (k9e o nx4) [] (koz o nx4) [] .no
def k5j : Tm := ⟨[0], [.vec (.int .i64)], [0, 1, 10, 11], [.one (.row 0), .one (.d (.int .i64)), .one (.d (.int .i64)), .one (.d (.int .i64))], 301⟩
noncomputable def kdh (o : kc) (nx4 : HL TB.den kk.hs → Prop) (i : HL TB.den k5j.hs) : Prop := ghs TB [] (k5j.fill TB i) fun s => WP TB kl 168 1 (cB (cA (cA (cA (cA (cB (cB (cB (cB (cB (cB (cB (cB (cB k1d)))))))))))))) (kdz o nx4) s (blockT TB 5 (k5s o nx4))
structure k9q (o : kc) (nx4 : HL TB.den kk.hs → Prop) (i : HL TB.den k5j.hs) : Prop where
  h : kdh o nx4 i
noncomputable def kp1 (o : kc) (nx4 : HL TB.den kk.hs → Prop) : Exit → TSt TB.den → Prop := thenT TB (fun s => k5j.mat TB 1 s (k9q o nx4)) (blockT TB 5 (k5s o nx4))
def k3j : Tm := ⟨[0], [.vec (.int .i64)], [0, 1, 10, 11], [.one (.row 0), .one (.d (.int .i64)), .one (.d (.int .i64)), .one (.d (.int .i64))], 245⟩
noncomputable def ko8 (o : kc) (nx4 : HL TB.den kk.hs → Prop) (nx3 : HL TB.den k3j.hs → Prop) : Exit → TSt TB.den → Prop := thenT TB (fun s => k3j.mat TB 1 s nx3) (blockT TB 6 (kp1 o nx4))
noncomputable def k9u (o : kc) (nx4 : HL TB.den kk.hs → Prop) (nx3 : HL TB.den k3j.hs → Prop) (i : HL TB.den k3j.hs) : Prop := WP TB kl 168 1 (cA (cA (cA (cA (cA (cA (cA (cB (cB (cB (cB (cB (cB (cB (cB (cB k1d)))))))))))))))) .no (k3j.fill TB i) (ko8 o nx4 nx3)
noncomputable def ko9 (o : kc) (nx4 : HL TB.den kk.hs → Prop) : An TB := .lp [] k3j (k9u o nx4) fun nx3 => .no
noncomputable def kdm (o : kc) (nx4 : HL TB.den kk.hs → Prop) : An TB := .jn k5j (k9q o nx4) [] (ko9 o nx4) [] (kdz o nx4)
noncomputable def k9r (o : kc) (nx4 : HL TB.den kk.hs → Prop) (i : HL TB.den kk.hs) : Prop := WP TB kl 168 1 (cA (cA (cA (cB (cB (cB (cB (cB (cB (cB (cB (cB k1d)))))))))))) (kdm o nx4) (kk.fill TB i) (k5s o nx4)
noncomputable def koc (o : kc) : An TB := .lp [] kk (k9r o) fun nx4 => (kdm o nx4)
noncomputable def koe (o : kc) : An TB := .nd [] .no [] (.nd [] (koc o) [] .no)
noncomputable def kdn (o : kc) : An TB := .nd [] .no [] (.nd [] .no [] (koe o))
def k5g : Tm := ⟨[0], [.vec (.int .i64)], [0, 1, 10, 11], [.one (.row 0), .one (.d (.int .i64)), .one (.d (.int .i64)), .one (.d (.int .i64))], 181⟩
noncomputable def kdg (o : kc) (i : HL TB.den k5g.hs) : Prop := ghs TB [] (k5g.fill TB i) fun s => WP TB kl 168 1 (cB (cB (cB (cB (cB k1d))))) (.nd [] .no [] (kdn o)) s (retTQ TB kl kj k2e o)
structure k9o (o : kc) (i : HL TB.den k5g.hs) : Prop where
  h : kdg o i
noncomputable def kob (o : kc) : Exit → TSt TB.den → Prop := thenT TB (fun s => k5g.mat TB 1 s (k9o o)) (retTQ TB kl kj k2e o)
def k3o : Tm := ⟨[0], [.vec (.int .i64)], [0, 1, 10, 11], [.one (.row 0), .one (.d (.int .i64)), .one (.d (.int .i64)), .one (.d (.int .i64))], 121⟩
noncomputable def ko7 (o : kc) (nx2 : HL TB.den k3o.hs → Prop) : Exit → TSt TB.den → Prop := thenT TB (fun s => k3o.mat TB 1 s nx2) (blockT TB 2 (kob o))
noncomputable def k9m (o : kc) (nx2 : HL TB.den k3o.hs → Prop) (i : HL TB.den k3o.hs) : Prop := WP TB kl 168 1 (cA (cA (cA (cB (cB (cB (cB k1d))))))) .no (k3o.fill TB i) (ko7 o nx2)
noncomputable def kod (o : kc) : An TB := .lp [] k3o (k9m o) fun nx2 => .no
noncomputable def kdp (o : kc) : An TB := .jn k5g (k9o o) [] (kod o) [] (.nd [] .no [] (kdn o))
def k5h : Tm := ⟨[0], [.vec (.int .i64)], [0, 1, 10, 11], [.one (.row 0), .one (.d (.int .i64)), .one (.d (.int .i64)), .one (.d (.int .i64))], 121⟩
noncomputable def kdo (o : kc) (i : HL TB.den k5h.hs) : Prop := ghs TB [] (k5h.fill TB i) fun s => WP TB kl 168 1 (cB (cB (cB (cB k1d)))) (kdp o) s (retTQ TB kl kj k2e o)
structure k9d (o : kc) (i : HL TB.den k5h.hs) : Prop where
  h : kdo o i
noncomputable def ko6 (o : kc) : Exit → TSt TB.den → Prop := thenT TB (fun s => k5h.mat TB 1 s (k9d o)) (retTQ TB kl kj k2e o)
def k3n : Tm := ⟨[0], [.vec (.int .i64)], [0, 1, 10, 11], [.one (.row 0), .one (.d (.int .i64)), .one (.d (.int .i64)), .one (.d (.int .i64))], 65⟩
noncomputable def koa (o : kc) (nx1 : HL TB.den k3n.hs → Prop) : Exit → TSt TB.den → Prop := thenT TB (fun s => k3n.mat TB 1 s nx1) (blockT TB 0 (ko6 o))
noncomputable def k9s (o : kc) (nx1 : HL TB.den k3n.hs → Prop) (i : HL TB.den k3n.hs) : Prop := WP TB kl 168 1 (cA (cA (cA (cB (cB (cB k1d)))))) .no (k3n.fill TB i) (koa o nx1)
noncomputable def kof (o : kc) : An TB := .lp [] k3n (k9s o) fun nx1 => .no
noncomputable def kog (o : kc) : An TB := .jn k5h (k9d o) [] (kof o) [] (kdp o)
noncomputable def koh (o : kc) : An TB := .nd [] .no [] (.nd [] .no [] (kog o))
noncomputable def ke2 (o : kc) : An TB := .nd [] .no [] (koh o)
noncomputable def kde (x : kf2) (o : kc) : Prop := WPh TB kl 168 1 k1d (ke2 o) (kj.st TB x) (retTQ TB kl kj k2e o)
set_option maxRecDepth 100000 in
theorem koi (o : kc) : OblH TB kl 168 1 k1d (ke2 o) (retTQ TB kl kj k2e o) :=
  OblH.of_eq (X := (True ∧ (True ∧ (True ∧ (((∀ nx i, (k9s o) nx i = (k9s o) nx i) ∧ ∀ nx1 : HL TB.den k3n.hs → Prop, ((True ∧ (True ∧ True)) ∧ True)) ∧ (∀ i, (k9d o) i = (kdo o) i) ∧ (((∀ nx i, (k9m o) nx i = (k9m o) nx i) ∧ ∀ nx2 : HL TB.den k3o.hs → Prop, ((True ∧ (True ∧ True)) ∧ True)) ∧ (∀ i, (k9o o) i = (kdg o) i) ∧ ((True ∧ ((True ∧ (True ∧ True)) ∧ True)) ∧ (True ∧ (True ∧ (True ∧ (((∀ nx i, (k9r o) nx i = (k9r o) nx i) ∧ ∀ nx4 : HL TB.den kk.hs → Prop, (((∀ nx i, (k9u o nx4) nx i = (k9u o nx4) nx i) ∧ ∀ nx3 : HL TB.den k3j.hs → Prop, ((True ∧ (True ∧ True)) ∧ True)) ∧ (∀ i, (k9q o nx4) i = (kdh o nx4) i) ∧ (((∀ nx i, (k9l o nx4) nx i = (k9l o nx4) nx i) ∧ ∀ nx5 : HL TB.den k3k.hs → Prop, ((True ∧ (True ∧ True)) ∧ True)) ∧ (∀ i, (k9e o nx4) i = (kdl o nx4) i) ∧ ((True ∧ (True ∧ True)) ∧ (True ∧ (True ∧ True)))))) ∧ (True ∧ (True ∧ True))))))))))))) (by kernel_rfl) ⟨trivial, ⟨trivial, ⟨trivial, ⟨⟨fun _ _ => rfl, fun _ => ⟨⟨trivial, ⟨trivial, trivial⟩⟩, trivial⟩⟩, fun _ => propext ⟨fun h => h.1, fun h => ⟨h⟩⟩, ⟨⟨fun _ _ => rfl, fun _ => ⟨⟨trivial, ⟨trivial, trivial⟩⟩, trivial⟩⟩, fun _ => propext ⟨fun h => h.1, fun h => ⟨h⟩⟩, ⟨⟨trivial, ⟨⟨trivial, ⟨trivial, trivial⟩⟩, trivial⟩⟩, ⟨trivial, ⟨trivial, ⟨trivial, ⟨⟨fun _ _ => rfl, fun _ => ⟨⟨fun _ _ => rfl, fun _ => ⟨⟨trivial, ⟨trivial, trivial⟩⟩, trivial⟩⟩, fun _ => propext ⟨fun h => h.1, fun h => ⟨h⟩⟩, ⟨⟨fun _ _ => rfl, fun _ => ⟨⟨trivial, ⟨trivial, trivial⟩⟩, trivial⟩⟩, fun _ => propext ⟨fun h => h.1, fun h => ⟨h⟩⟩, ⟨⟨trivial, ⟨trivial, trivial⟩⟩, ⟨trivial, ⟨trivial, trivial⟩⟩⟩⟩⟩⟩, ⟨trivial, ⟨trivial, trivial⟩⟩⟩⟩⟩⟩⟩⟩⟩⟩⟩⟩
set_option maxRecDepth 100000 in
theorem ko5 {x : kf2} {o : kc} (h : kde x o) : SoundH Try.prog kj.f ((kj.args idf x).map (er TB)) ((kj.obs idf x).map (erO TB)) (er TB (kj.val idf o)) ((kj.ops idf o).map (erO TB)) :=
  Con.soundH (c := kj) (C := kl) TBok ⟨inf_ok, (all_cons k9f all_nil), all_nil⟩ mix Try.func63 (show Try.f63.body = some k1d by kernel_rfl) (show Try.f63.ntmps = 168 by kernel_rfl) (show Try.f63.results.toList = k2e by kernel_rfl) rfl h (koi o)
theorem bd63 : Callable Try.prog 63 := ⟨by rw [Try.func63]; kernel_rfl, by rw [Try.func63]; show some _ ≠ some _; decide⟩
noncomputable def kdk : Con TB.den := kj.relR kde
theorem kp4 : kdk.Ok Try.prog TB := Con.ok_rel kj bd63 fun _ _ h => ko5 h
end Go.Proofs.Ytponaobpcdkggaa
namespace Go.Proofs.Ytponaobpcdkggaa
open Go Go.Bv Go.Cv Go.Md Go.RowKit
def ku : Con TB.den := Con.mk0 59 [.one (.row 0), .one (.d (.int .i64)), .one (.d (.int .i64))] [.vec (.int .i64)] (.tup []) [.vec (.int .i64)]
abbrev kcz := HL TB.den (hsT ku.ins (hsOs ku.pre))
abbrev k2i := HL TB.den (hsV ku.res (hsOs ku.post))
noncomputable def k2w : Cx TB := ⟨inf, [], [], 4, []⟩
noncomputable def k62 : Code := Try.f59.body.getD .skip
noncomputable def k6c : List ResultVar := Try.f59.results.toList
noncomputable def kmk (o : k2i) : Exit → TSt TB.den → Prop := blockT TB 0 (retTQ TB k2w ku k6c o)
def k2x : Tm := ⟨[0], [.vec (.int .i64)], [0, 6, 7], [.one (.row 0), .one (.d (.int .i64)), .one (.d (.int .i64))], 1⟩
noncomputable def kmz (o : k2i) (nx1 : HL TB.den k2x.hs → Prop) : Exit → TSt TB.den → Prop := thenT TB (fun s => k2x.mat TB 1 s nx1) (kmk o)
noncomputable def k8k (o : k2i) (nx1 : HL TB.den k2x.hs → Prop) (i : HL TB.den k2x.hs) : Prop := WP TB k2w 32 1 (cA (cA (cB (cB k62)))) .no (k2x.fill TB i) (kmz o nx1)
noncomputable def kmd (o : k2i) : An TB := .lp [] k2x (k8k o) fun nx1 => .no
noncomputable def kch (o : k2i) : An TB := .nd [] .no [] (.nd [] .no [] (kmd o))
noncomputable def kb8 (x : kcz) (o : k2i) : Prop := WPh TB k2w 32 1 k62 (kch o) (ku.st TB x) (retTQ TB k2w ku k6c o)
set_option maxRecDepth 100000 in
theorem km7 (o : k2i) : OblH TB k2w 32 1 k62 (kch o) (retTQ TB k2w ku k6c o) :=
  OblH.of_eq (X := (True ∧ (True ∧ ((∀ nx i, (k8k o) nx i = (k8k o) nx i) ∧ ∀ nx1 : HL TB.den k2x.hs → Prop, ((True ∧ (True ∧ True)) ∧ (True ∧ (True ∧ True))))))) (by kernel_rfl) ⟨trivial, ⟨trivial, ⟨fun _ _ => rfl, fun _ => ⟨⟨trivial, ⟨trivial, trivial⟩⟩, ⟨trivial, ⟨trivial, trivial⟩⟩⟩⟩⟩⟩
set_option maxRecDepth 100000 in
theorem klj {x : kcz} {o : k2i} (h : kb8 x o) : SoundH Try.prog ku.f ((ku.args idf x).map (er TB)) ((ku.obs idf x).map (erO TB)) (er TB (ku.val idf o)) ((ku.ops idf o).map (erO TB)) :=
  Con.soundH (c := ku) (C := k2w) TBok ⟨inf_ok, all_nil, all_nil⟩ mix Try.func59 (show Try.f59.body = some k62 by kernel_rfl) (show Try.f59.ntmps = 32 by kernel_rfl) (show Try.f59.results.toList = k6c by kernel_rfl) rfl h (km7 o)
theorem bd59 : Callable Try.prog 59 := ⟨by rw [Try.func59]; kernel_rfl, by rw [Try.func59]; show some _ ≠ some _; decide⟩
noncomputable def kc6 : Con TB.den := ku.relR kb8
theorem kme : kc6.Ok Try.prog TB := Con.ok_rel ku bd59 fun _ _ h => klj h
end Go.Proofs.Ytponaobpcdkggaa
