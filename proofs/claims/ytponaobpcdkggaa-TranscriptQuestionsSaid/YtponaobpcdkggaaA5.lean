/-
  Parts of the proofs that the laws of this seat hold of every input, merged by a program: a machine over pure data that is sound for the model, what each function of the translation does in it, and plain lemmas. No conditions but those in each theorem.
-/
import Derived.Test.YtponaobpcdkggaaA4
set_option linter.all false
namespace Go.Proofs.Ytponaobpcdkggaa
open Go Go.Bv Go.Cv Go.Md Go.RowKit
def k2r : Con TB.den := Con.mk0 34 [.one (.d (.sl (.int .u64))), .one (.d (.sl (.int .u64)))] [] (.one (.one (.d (.str)))) []
abbrev kyd := HL TB.den (hsT k2r.ins (hsOs k2r.pre))
abbrev k5p := HL TB.den (hsV k2r.res (hsOs k2r.post))
noncomputable def k56 : Cx TB := ⟨inf, [kj3], [], 4, []⟩
noncomputable def k8l : Code := Try.f34.body.getD .skip
noncomputable def ka8 : List ResultVar := Try.f34.results.toList
noncomputable def k16u (o : k5p) : Exit → TSt TB.den → Prop := thenT TB (fun s => ghs TB [] s fun s => WP TB k56 39 0 (cB (cB (cB (cB k8l)))) .no s (retTQ TB k56 k2r ka8 o)) (retTQ TB k56 k2r ka8 o)
def ka9 : Tm := ⟨[1], [.tip (.int .u8)], [5, 27, 28, 29], [.one (.own 0), .one (.d (.sl (.int .u64))), .one (.d (.int .i64)), .one (.d (.int .i64))], 2⟩
noncomputable def k16g (o : k5p) (nx2 : HL TB.den ka9.hs → Prop) : Exit → TSt TB.den → Prop := thenT TB (fun s => ka9.mat TB 0 s nx2) (blockT TB 2 (k16u o))
noncomputable def kg1 (o : k5p) (nx2 : HL TB.den ka9.hs → Prop) (i : HL TB.den ka9.hs) : Prop := WP TB k56 39 0 (cA (cA (cB (cA (cB (cB (cB k8l))))))) .no (ka9.fill TB i) (k16g o nx2)
noncomputable def kx2 (o : k5p) : An TB := .nd [] .no [] (.lp [] ka9 (kg1 o) fun nx2 => .no)
noncomputable def k16d (o : k5p) : Exit → TSt TB.den → Prop := thenT TB (fun s => ghs TB [] s fun s => WP TB k56 39 0 (cB (cB (cB k8l))) (.nd [] (kx2 o) [] .no) s (retTQ TB k56 k2r ka8 o)) (retTQ TB k56 k2r ka8 o)
def ka3 : Tm := ⟨[1], [.tip (.int .u8)], [0, 5, 17, 18, 19], [.one (.d (.sl (.int .u64))), .one (.own 0), .one (.d (.sl (.int .u64))), .one (.d (.int .i64)), .one (.d (.int .i64))], 2⟩
noncomputable def k17b (o : k5p) (nx1 : HL TB.den ka3.hs → Prop) : Exit → TSt TB.den → Prop := thenT TB (fun s => ka3.mat TB 0 s nx1) (blockT TB 0 (k16d o))
noncomputable def kfr (o : k5p) (nx1 : HL TB.den ka3.hs → Prop) (i : HL TB.den ka3.hs) : Prop := WP TB k56 39 0 (cA (cA (cB (cA (cB (cB k8l)))))) .no (ka3.fill TB i) (k17b o nx1)
noncomputable def k153 (o : k5p) : An TB := .lp [.frz 0 [5]] ka3 (kfr o) fun nx1 => .no
noncomputable def k14s (o : k5p) : An TB := .nd [] (.nd [] .no [] (k153 o)) [] (.nd [] (kx2 o) [] .no)
noncomputable def kwd (o : k5p) : An TB := .nd [] .no [] (.nd [] .no [] (k14s o))
noncomputable def klu (x : kyd) (o : k5p) : Prop := WPh TB k56 39 0 k8l (kwd o) (k2r.st TB x) (retTQ TB k56 k2r ka8 o)
set_option maxRecDepth 100000 in
theorem k148 (o : k5p) : OblH TB k56 39 0 k8l (kwd o) (retTQ TB k56 k2r ka8 o) :=
  OblH.of_eq (X := (True ∧ (True ∧ ((True ∧ ((∀ nx i, (kfr o) nx i = (kfr o) nx i) ∧ ∀ nx1 : HL TB.den ka3.hs → Prop, (True ∧ ((True ∧ True) ∧ ((True ∧ True) ∧ True))))) ∧ ((True ∧ ((∀ nx i, (kg1 o) nx i = (kg1 o) nx i) ∧ ∀ nx2 : HL TB.den ka9.hs → Prop, (True ∧ ((True ∧ True) ∧ ((True ∧ True) ∧ True))))) ∧ (True ∧ True)))))) (by kernel_rfl) ⟨trivial, ⟨trivial, ⟨⟨trivial, ⟨fun _ _ => rfl, fun _ => ⟨trivial, ⟨⟨trivial, trivial⟩, ⟨⟨trivial, trivial⟩, trivial⟩⟩⟩⟩⟩, ⟨⟨trivial, ⟨fun _ _ => rfl, fun _ => ⟨trivial, ⟨⟨trivial, trivial⟩, ⟨⟨trivial, trivial⟩, trivial⟩⟩⟩⟩⟩, ⟨trivial, trivial⟩⟩⟩⟩⟩
set_option maxRecDepth 100000 in
theorem k142 {x : kyd} {o : k5p} (h : klu x o) : SoundH Try.prog k2r.f ((k2r.args idf x).map (er TB)) ((k2r.obs idf x).map (erO TB)) (er TB (k2r.val idf o)) ((k2r.ops idf o).map (erO TB)) :=
  Con.soundH (c := k2r) (C := k56) TBok ⟨inf_ok, (all_cons kuc all_nil), all_nil⟩ mix Try.func34 (show Try.f34.body = some k8l by kernel_rfl) (show Try.f34.ntmps = 39 by kernel_rfl) (show Try.f34.results.toList = ka8 by kernel_rfl) rfl h (k148 o)
set_option maxRecDepth 100000 in
theorem k16m {p0 : List Int} {p1 : List Int} {r0 : ByteArray} (h :
(let v1 : Int := IntKind.i64.wrap ((p1.length : Int) + (p0.length : Int))
 0 ≤ (0 : Int) ∧ (0 : Int) ≤ IntKind.i64.wrap (8 * v1) ∧ ((IntKind.i64.wrap (8 * v1)).toNat * 1 ≤ 140737488355328) ∧ ((IntKind.i64.wrap (8 * v1)).toNat ≤ maxLen) ∧ (0 = (List.replicate 0 (0 : Int)).length) ∧ (List.replicate 0 (0 : Int) = List.replicate 0 (0 : Int)) ∧ Md.Loop (p0, p1, ((p1.length : Int) : Int), (0 : Int), (List.replicate 0 (0 : Int) : List Int), ()) (kfr (r0, ())))) : klu (p0, p1, ()) (r0, ()) := WPh.of_eq (by kernel_rfl) h
def kws (r0 : ByteArray) (k1 : Int → List Int → Prop) (s0 : List Int) (s17 : List Int) (s18 : Int) (s19 : Int) (g1 : List Int) : Prop :=
(decide (s19 < s18) = true →
(0 ≤ s19) ∧ s19 < (s17.length : Int) ∧ (g1 = g1) ∧ (U64 (ix s17 s19) ∧ g1.length ≤ 137438953472) ∧ ((g1 ++ dig 8 (ix s17 s19)) = (g1 ++ dig 8 (ix s17 s19))) ∧ k1 (IntKind.i64.wrap (s19 + 1) : Int) ((g1 ++ dig 8 (ix s17 s19)) : List Int)) ∧
(decide (s19 < s18) = false →
(g1 = g1) ∧ Md.Loop (s0, ((s0.length : Int) : Int), (0 : Int), g1, ()) (kg1 (r0, ())))
set_option maxRecDepth 100000 in
theorem k14f {r0 : ByteArray} {s0 : List Int} {s17 : List Int} {s18 : Int} {s19 : Int} {g1 : List Int} (inv : Int → List Int → Prop) (μ : Int → List Int → Nat) (h0 : inv s19 g1) (hs : ∀ (s19 : Int) (g1 : List Int), inv s19 g1 → kws r0 (fun s19q g1q => inv s19q g1q ∧ μ s19q g1q < μ s19 g1) s0 s17 s18 s19 g1) : Md.Loop (s0, s17, s18, s19, g1, ()) (kfr (r0, ())) :=
  ⟨⟨fun s : (List Int) × (List Int) × Int × Int × (List Int) × Unit => (s.1 = s0 ∧ s.2.1 = s17 ∧ s.2.2.1 = s18) ∧ inv s.2.2.2.1 s.2.2.2.2.1, fun s : (List Int) × (List Int) × Int × Int × (List Int) × Unit => μ s.2.2.2.1 s.2.2.2.2.1, ⟨⟨rfl, rfl, rfl⟩, h0⟩, fun (s0p, s17p, s18p, s19p, g1p, ()) ⟨⟨eq0, eq1, eq2⟩, hi⟩ => by
    have eq0 : s0p = s0 := eq0; subst s0p; have eq1 : s17p = s17 := eq1; subst s17p; have eq2 : s18p = s18 := eq2; subst s18p; exact mpr_of (by kernel_rfl) ((congrArg (fun k => kws r0 k s0 s17 s18 s19p g1p) (lpk2 (⟨rfl, rfl, rfl⟩ : s0 = s0 ∧ s17 = s17 ∧ s18 = s18) inv (fun s19q g1q => μ s19q g1q < μ s19p g1p))).mpr (hs s19p g1p hi))⟩⟩
def kww (r0 : ByteArray) (k2 : Int → List Int → Prop) (s27 : List Int) (s28 : Int) (s29 : Int) (g1 : List Int) : Prop :=
(decide (s29 < s28) = true →
(0 ≤ s29) ∧ s29 < (s27.length : Int) ∧ (g1 = g1) ∧ (U64 (ix s27 s29) ∧ g1.length ≤ 137438953472) ∧ ((g1 ++ dig 8 (ix s27 s29)) = (g1 ++ dig 8 (ix s27 s29))) ∧ k2 (IntKind.i64.wrap (s29 + 1) : Int) ((g1 ++ dig 8 (ix s27 s29)) : List Int)) ∧
(decide (s29 < s28) = false →
 strOfNums g1 = r0)
set_option maxRecDepth 100000 in
theorem k154 {r0 : ByteArray} {s27 : List Int} {s28 : Int} {s29 : Int} {g1 : List Int} (inv : Int → List Int → Prop) (μ : Int → List Int → Nat) (h0 : inv s29 g1) (hs : ∀ (s29 : Int) (g1 : List Int), inv s29 g1 → kww r0 (fun s29q g1q => inv s29q g1q ∧ μ s29q g1q < μ s29 g1) s27 s28 s29 g1) : Md.Loop (s27, s28, s29, g1, ()) (kg1 (r0, ())) :=
  ⟨⟨fun s : (List Int) × Int × Int × (List Int) × Unit => (s.1 = s27 ∧ s.2.1 = s28) ∧ inv s.2.2.1 s.2.2.2.1, fun s : (List Int) × Int × Int × (List Int) × Unit => μ s.2.2.1 s.2.2.2.1, ⟨⟨rfl, rfl⟩, h0⟩, fun (s27p, s28p, s29p, g1p, ()) ⟨⟨eq0, eq1⟩, hi⟩ => by
    have eq0 : s27p = s27 := eq0; subst s27p; have eq1 : s28p = s28 := eq1; subst s28p; exact mpr_of (by kernel_rfl) ((congrArg (fun k => kww r0 k s27 s28 s29p g1p) (lpk2 (⟨rfl, rfl⟩ : s27 = s27 ∧ s28 = s28) inv (fun s29q g1q => μ s29q g1q < μ s29p g1p))).mpr (hs s29p g1p hi))⟩⟩
theorem bd34 : Callable Try.prog 34 := ⟨by rw [Try.func34]; kernel_rfl, by rw [Try.func34]; show some _ ≠ some _; decide⟩
theorem k12s (p0 : List Int) (p1 : List Int) (h : Us p0 ∧ Us p1 ∧ p0.length ≤ 1073741824 ∧ p1.length ≤ 1073741824) : klu (p0, p1, ()) (((keyB p1 p0) : ByteArray), ()) := by
  obtain ⟨h0, h1, h2, h3⟩ := h
  refine k16m ?_
  rw [wi ((p1.length : Int) + p0.length) (by omega) (by omega)]
  simp only []
  rw [wi (8 * ((p1.length : Int) + p0.length)) (by omega) (by omega)]
  refine ⟨by omega, by omega, by omega, by unfold maxLen; omega, by trivial, by trivial, ?_⟩
  refine k14f (fun i g => FlatI (dig 8) [] p1 i g) (fun i _ => (p1.length - i).toNat) FlatI.start ?_
  intro i g hg
  have hl := hg.len 8 (fun x _ => by simp)
  refine ⟨fun hh => ?_, fun hh => ?_⟩
  · have hh := of_decide_eq_true hh
    exact ⟨hg.1, hh, rfl, ⟨h1 _ (ix_mem p1 i hg.1 hh), by simp at hl; omega⟩, by trivial, hg.next hh (by omega) rfl⟩
  · have hh := of_decide_eq_false hh
    have e := hg.done hh
    refine ⟨rfl, k154 (fun j g => FlatI (dig 8) (p1.flatMap (dig 8)) p0 j g) (fun j _ => (p0.length - j).toNat) (by rw [e]; exact FlatI.start) ?_⟩
    intro j g2 hg2
    have hl2 := hg2.len 8 (fun x _ => by simp)
    have hl3 := kyr p1
    refine ⟨fun hh2 => ?_, fun hh2 => ?_⟩
    · have hh2 := of_decide_eq_true hh2
      exact ⟨hg2.1, hh2, rfl, ⟨h0 _ (ix_mem p0 j hg2.1 hh2), by omega⟩, by trivial, hg2.next hh2 (by omega) rfl⟩
    · rw [hg2.done (of_decide_eq_false hh2)]; rfl
noncomputable def kuz : Con TB.den := k2r.fnR (fun x => (fun (p0 : List Int) (p1 : List Int) => Us p0 ∧ Us p1 ∧ p0.length ≤ 1073741824 ∧ p1.length ≤ 1073741824) x.1 x.2.1) fun x => ((fun (p0 : List Int) (p1 : List Int) => ((keyB p1 p0) : ByteArray)) x.1 x.2.1, ())
theorem k16x : kuz.Ok Try.prog TB := Con.ok_fn k2r bd34 fun x h => k142 (k12s x.1 x.2.1 h)
end Go.Proofs.Ytponaobpcdkggaa
namespace Go.Proofs.Ytponaobpcdkggaa
open Go Go.Bv Go.Cv Go.Md Go.RowKit
def k3q : Con TB.den := Con.mk0 44 [.agg [.d (.int .u64)]] [] (.one (.one (.d (.bool)))) []
abbrev kwu := HL TB.den (hsT k3q.ins (hsOs k3q.pre))
abbrev kki := HL TB.den (hsV k3q.res (hsOs k3q.post))
noncomputable def ked : Cx TB := ⟨inf, [], [], 4, []⟩
noncomputable def kkw : Code := Try.f44.body.getD .skip
noncomputable def koo : List ResultVar := Try.f44.results.toList
noncomputable def kvb (o : kki) : An TB := .no
noncomputable def kl2 (x : kwu) (o : kki) : Prop := WPh TB ked 13 0 kkw (kvb o) (k3q.st TB x) (retTQ TB ked k3q koo o)
set_option maxRecDepth 100000 in
theorem k12h (o : kki) : OblH TB ked 13 0 kkw (kvb o) (retTQ TB ked k3q koo o) :=
  OblH.of_eq (X := (True ∧ ((True ∧ ((True ∧ (True ∧ (True ∧ (True ∧ (True ∧ (True ∧ (True ∧ (True ∧ (True ∧ (True ∧ (True ∧ (True ∧ True)))))))))))) ∧ ((True ∧ True) ∧ True))) ∧ (True ∧ True)))) (by kernel_rfl) ⟨trivial, ⟨⟨trivial, ⟨⟨trivial, ⟨trivial, ⟨trivial, ⟨trivial, ⟨trivial, ⟨trivial, ⟨trivial, ⟨trivial, ⟨trivial, ⟨trivial, ⟨trivial, ⟨trivial, trivial⟩⟩⟩⟩⟩⟩⟩⟩⟩⟩⟩⟩, ⟨⟨trivial, trivial⟩, trivial⟩⟩⟩, ⟨trivial, trivial⟩⟩⟩
set_option maxRecDepth 100000 in
theorem k12m {x : kwu} {o : kki} (h : kl2 x o) : SoundH Try.prog k3q.f ((k3q.args idf x).map (er TB)) ((k3q.obs idf x).map (erO TB)) (er TB (k3q.val idf o)) ((k3q.ops idf o).map (erO TB)) :=
  Con.soundH (c := k3q) (C := ked) TBok ⟨inf_ok, all_nil, all_nil⟩ mix Try.func44 (show Try.f44.body = some kkw by kernel_rfl) (show Try.f44.ntmps = 13 by kernel_rfl) (show Try.f44.results.toList = koo by kernel_rfl) rfl h (k12h o)
set_option maxRecDepth 100000 in
theorem k143 {p0 : TField} {r0 : Bool} (h :
(((p0.P == 18446744069414584321) = true →
((p0.P == 18446744069414584321) = true →
 true = r0) ∧
((p0.P == 18446744069414584321) = false →
 false = r0)) ∧
((p0.P == 18446744069414584321) = false →
((p0.P == 17) = true →
((p0.P == 17) = true →
 true = r0) ∧
((p0.P == 17) = false →
 false = r0)) ∧
((p0.P == 17) = false →
((p0.P == 97) = true →
((p0.P == 97) = true →
 true = r0) ∧
((p0.P == 97) = false →
 false = r0)) ∧
((p0.P == 97) = false →
((p0.P == 193) = true →
((p0.P == 193) = true →
 true = r0) ∧
((p0.P == 193) = false →
 false = r0)) ∧
((p0.P == 193) = false →
((p0.P == 257) = true →
((p0.P == 257) = true →
 true = r0) ∧
((p0.P == 257) = false →
 false = r0)) ∧
((p0.P == 257) = false →
((p0.P == 12289) = true →
((p0.P == 12289) = true →
 true = r0) ∧
((p0.P == 12289) = false →
 false = r0)) ∧
((p0.P == 12289) = false →
((p0.P == 65537) = true →
 true = r0) ∧
((p0.P == 65537) = false →
 false = r0))))))))) : kl2 (p0.P, ()) (r0, ()) := WPh.of_eq (by kernel_rfl) h
theorem bd44 : Callable Try.prog 44 := ⟨by rw [Try.func44]; kernel_rfl, by rw [Try.func44]; show some _ ≠ some _; decide⟩
theorem k12c (p0 : TField) (h : p0.P = 18446744069414584321) : kl2 (p0.P, ()) ((true : Bool), ()) := by
  refine k143 ?_
  simp [h]
noncomputable def k8b : Con TB.den := k3q.fnR (fun x => (fun (p0 : TField) => p0.P = 18446744069414584321) (TField.mk x.1)) fun x => ((fun (p0 : TField) => (true : Bool)) (TField.mk x.1), ())
theorem kb8 : k8b.Ok Try.prog TB := Con.ok_fn k3q bd44 fun x h => k12m (k12c (TField.mk x.1) h)
end Go.Proofs.Ytponaobpcdkggaa
namespace Go.Proofs.Ytponaobpcdkggaa
open Go Go.Bv Go.Cv Go.Md Go.RowKit
def k42 : Con TB.den := Con.mk0 72 [.agg [.d (.int .u64)], .one (.d (.int .u64)), .one (.d (.int .u64))] [] (.one (.one (.d (.int .u64)))) []
abbrev k10j := HL TB.den (hsT k42.ins (hsOs k42.pre))
abbrev kb4 := HL TB.den (hsV k42.res (hsOs k42.post))
noncomputable def k86 : Cx TB := ⟨inf, [], [x87], 4, []⟩
noncomputable def kds : Code := Try.f72.body.getD .skip
noncomputable def khi : List ResultVar := Try.f72.results.toList
noncomputable def k17l (o : kb4) : Exit → TSt TB.den → Prop := thenT TB (fun s => ghs TB [] s fun s => WP TB k86 28 0 (cB (cB (cB kds))) .no s (retTQ TB k86 k42 khi o)) (retTQ TB k86 k42 khi o)
def kkn : Tm := ⟨[0], [.cells [.d (.int .u64)]], [3, 7, 22], [.one (.ptr 0 0), .one (.d (.int .u64)), .one (.d (.bool))], 1⟩
noncomputable def kwk (o : kb4) (i : HL TB.den kkn.hs) : Prop := ghs TB [] (kkn.fill TB i) fun s => WP TB k86 28 0 (cB (cA (cB (cB kds)))) .no s (k17l o)
structure khc (o : kb4) (i : HL TB.den kkn.hs) : Prop where
  h : kwk o i
noncomputable def k19c (o : kb4) : An TB := .nd [] (.jn kkn (khc o) [] .no [] .no) [] .no
noncomputable def kyk (o : kb4) : An TB := .nd [] .no [] (.nd [] .no [] (k19c o))
noncomputable def knp (x : k10j) (o : kb4) : Prop := WPh TB k86 28 0 kds (kyk o) (k42.st TB x) (retTQ TB k86 k42 khi o)
set_option maxRecDepth 100000 in
theorem k17d (o : kb4) : OblH TB k86 28 0 kds (kyk o) (retTQ TB k86 k42 khi o) :=
  OblH.of_eq (X := (True ∧ (True ∧ ((True ∧ (∀ i, (khc o) i = (kwk o) i) ∧ (True ∧ True)) ∧ (True ∧ True))))) (by kernel_rfl) ⟨trivial, ⟨trivial, ⟨⟨trivial, fun _ => propext ⟨fun h => h.1, fun h => ⟨h⟩⟩, ⟨trivial, trivial⟩⟩, ⟨trivial, trivial⟩⟩⟩⟩
set_option maxRecDepth 100000 in
theorem k16r {x : k10j} {o : kb4} (h : knp x o) : SoundH Try.prog k42.f ((k42.args idf x).map (er TB)) ((k42.obs idf x).map (erO TB)) (er TB (k42.val idf o)) ((k42.ops idf o).map (erO TB)) :=
  Con.soundH (c := k42) (C := k86) TBok ⟨inf_ok, all_nil, (all_cons x87_ok all_nil)⟩ mix Try.func72 (show Try.f72.body = some kds by kernel_rfl) (show Try.f72.ntmps = 28 by kernel_rfl) (show Try.f72.results.toList = khi by kernel_rfl) rfl h (k17d o)
set_option maxRecDepth 100000 in
theorem k18u {p0 : TField} {p1 : Int} {p2 : Int} {r0 : Int} (h :
((0 ≤ p1 ∧ 0 ≤ p2 ∧ 0 ≤ (0 : Int) ∧ (0 : Int) ≤ 1) ∧ let r1 : Int := (p1 + p2 + (0 : Int)) % 18446744073709551616
 let r2 : Int := (p1 + p2 + (0 : Int)) / 18446744073709551616
((r2 != 0) = true →
 khc (r0, ()) (r1, true, p0.P, ())) ∧
((r2 != 0) = false →
 khc (r0, ()) (r1, (decide (p0.P ≤ r1) : Bool), p0.P, ())))) : knp (p0.P, p1, p2, ()) (r0, ()) := WPh.of_eq (by kernel_rfl) h
set_option maxRecDepth 100000 in
theorem kto {r0 : Int} {s7 : Int} {s22 : Bool} {h0_0 : Int} (h :
((s22 = true →
 IntKind.u64.wrap (s7 - h0_0) = r0) ∧
(s22 = false →
 s7 = r0))) : khc (r0, ()) (s7, s22, h0_0, ()) := ⟨mpr_of (by kernel_rfl) h⟩
theorem bd72 : Callable Try.prog 72 := ⟨by rw [Try.func72]; kernel_rfl, by rw [Try.func72]; show some _ ≠ some _; decide⟩
theorem k14x (p0 : TField) (p1 : Int) (p2 : Int) (h : p0.P = 18446744069414584321 ∧ (0 ≤ p1 ∧ p1 < 18446744069414584321) ∧ (0 ≤ p2 ∧ p2 < 18446744069414584321)) : knp (p0.P, p1, p2, ()) ((((p1 + p2) % 18446744069414584321) : Int), ()) := by
  obtain ⟨hP, h1, h2⟩ := h
  refine k18u ⟨by omega, ?_, ?_⟩
  · intro h
    refine kto ⟨fun _ => ?_, fun h => by simp at h⟩
    have h : (p1 + p2 + 0) / 18446744073709551616 ≠ 0 := by simpa using h
    rw [hP, u64w]; omega
  · intro h
    have h : (p1 + p2 + 0) / 18446744073709551616 = 0 := by simpa using h
    refine kto ⟨fun g => ?_, fun g => ?_⟩
    · have g := of_decide_eq_true g
      rw [hP] at g ⊢
      rw [u64w]; omega
    · have g := of_decide_eq_false g
      rw [hP] at g
      omega
noncomputable def kwg : Con TB.den := k42.fnR (fun x => (fun (p0 : TField) (p1 : Int) (p2 : Int) => p0.P = 18446744069414584321 ∧ (0 ≤ p1 ∧ p1 < 18446744069414584321) ∧ (0 ≤ p2 ∧ p2 < 18446744069414584321)) (TField.mk x.1) x.2.1 x.2.2.1) fun x => ((fun (p0 : TField) (p1 : Int) (p2 : Int) => (((p1 + p2) % 18446744069414584321) : Int)) (TField.mk x.1) x.2.1 x.2.2.1, ())
theorem k184 : kwg.Ok Try.prog TB := Con.ok_fn k42 bd72 fun x h => k16r (k14x (TField.mk x.1) x.2.1 x.2.2.1 h)
end Go.Proofs.Ytponaobpcdkggaa
namespace Go.Proofs.Ytponaobpcdkggaa
open Go Go.Bv Go.Cv Go.Md Go.RowKit
def k2v : Con TB.den := Con.mk0 73 [.agg [.d (.int .u64)], .one (.d (.int .u64))] [] (.one (.one (.d (.int .u64)))) []
abbrev kta := HL TB.den (hsT k2v.ins (hsOs k2v.pre))
abbrev kgt := HL TB.den (hsV k2v.res (hsOs k2v.post))
noncomputable def kbr : Cx TB := ⟨inf, [], [], 4, []⟩
noncomputable def khx : Code := Try.f73.body.getD .skip
noncomputable def kl8 : List ResultVar := Try.f73.results.toList
noncomputable def ks5 (o : kgt) : An TB := .no
noncomputable def kh7 (x : kta) (o : kgt) : Prop := WPh TB kbr 14 0 khx (ks5 o) (k2v.st TB x) (retTQ TB kbr k2v kl8 o)
set_option maxRecDepth 100000 in
theorem kzq (o : kgt) : OblH TB kbr 14 0 khx (ks5 o) (retTQ TB kbr k2v kl8 o) :=
  OblH.of_eq (X := (True ∧ ((True ∧ (True ∧ True)) ∧ (True ∧ True)))) (by kernel_rfl) ⟨trivial, ⟨⟨trivial, ⟨trivial, trivial⟩⟩, ⟨trivial, trivial⟩⟩⟩
set_option maxRecDepth 100000 in
theorem kzm {x : kta} {o : kgt} (h : kh7 x o) : SoundH Try.prog k2v.f ((k2v.args idf x).map (er TB)) ((k2v.obs idf x).map (erO TB)) (er TB (k2v.val idf o)) ((k2v.ops idf o).map (erO TB)) :=
  Con.soundH (c := k2v) (C := kbr) TBok ⟨inf_ok, all_nil, all_nil⟩ mix Try.func73 (show Try.f73.body = some khx by kernel_rfl) (show Try.f73.ntmps = 14 by kernel_rfl) (show Try.f73.results.toList = kl8 by kernel_rfl) rfl h (kzq o)
set_option maxRecDepth 100000 in
theorem k10z {p0 : TField} {p1 : Int} {r0 : Int} (h :
((decide (p0.P ≤ p1) = true →
(p0.P ≠ 0) ∧ Int.tmod p1 p0.P = r0) ∧
(decide (p0.P ≤ p1) = false →
 p1 = r0))) : kh7 (p0.P, p1, ()) (r0, ()) := WPh.of_eq (by kernel_rfl) h
theorem bd73 : Callable Try.prog 73 := ⟨by rw [Try.func73]; kernel_rfl, by rw [Try.func73]; show some _ ≠ some _; decide⟩
theorem kxz (p0 : TField) (p1 : Int) (h : 0 < p0.P ∧ 0 ≤ p1) : kh7 (p0.P, p1, ()) (((p1 % p0.P) : Int), ()) := by
  refine k10z ⟨fun h1 => ⟨by omega, tmod_nn _ _ h.2⟩, fun h1 => ?_⟩
  simp at h1
  rw [Int.emod_eq_of_lt (by omega) (by omega)]
noncomputable def kaj : Con TB.den := k2v.fnR (fun x => (fun (p0 : TField) (p1 : Int) => 0 < p0.P ∧ 0 ≤ p1) (TField.mk x.1) x.2.1) fun x => ((fun (p0 : TField) (p1 : Int) => ((p1 % p0.P) : Int)) (TField.mk x.1) x.2.1, ())
theorem kfl : kaj.Ok Try.prog TB := Con.ok_fn k2v bd73 fun x h => kzm (kxz (TField.mk x.1) x.2.1 h)
end Go.Proofs.Ytponaobpcdkggaa
namespace Go.Proofs.Ytponaobpcdkggaa
open Go Go.Bv Go.Cv Go.Md Go.RowKit
def k4q : Con TB.den := Con.mk0 52 [.agg [.d (.int .u64)], .one (.d (.int .u64)), .one (.d (.int .u64))] [] (.one (.one (.d (.int .u64)))) []
abbrev k10a := HL TB.den (hsT k4q.ins (hsOs k4q.pre))
abbrev koq := HL TB.den (hsV k4q.res (hsOs k4q.post))
noncomputable def kh4 : Cx TB := ⟨inf, [k8b, kaj, kwg], [], 4, []⟩
noncomputable def knq : Code := Try.f52.body.getD .skip
noncomputable def krt : List ResultVar := Try.f52.results.toList
noncomputable def ky8 (o : koq) : An TB := .no
noncomputable def knn (x : k10a) (o : koq) : Prop := WPh TB kh4 18 0 knq (ky8 o) (k4q.st TB x) (retTQ TB kh4 k4q krt o)
set_option maxRecDepth 100000 in
theorem k172 (o : koq) : OblH TB kh4 18 0 knq (ky8 o) (retTQ TB kh4 k4q krt o) :=
  OblH.of_eq (X := (True ∧ ((True ∧ ((True ∧ True) ∧ True)) ∧ (True ∧ True)))) (by kernel_rfl) ⟨trivial, ⟨⟨trivial, ⟨⟨trivial, trivial⟩, trivial⟩⟩, ⟨trivial, trivial⟩⟩⟩
set_option maxRecDepth 100000 in
theorem k16t {x : k10a} {o : koq} (h : knn x o) : SoundH Try.prog k4q.f ((k4q.args idf x).map (er TB)) ((k4q.obs idf x).map (erO TB)) (er TB (k4q.val idf o)) ((k4q.ops idf o).map (erO TB)) :=
  Con.soundH (c := k4q) (C := kh4) TBok ⟨inf_ok, (all_cons kb8 (all_cons kfl (all_cons k184 all_nil))), all_nil⟩ mix Try.func52 (show Try.f52.body = some knq by kernel_rfl) (show Try.f52.ntmps = 18 by kernel_rfl) (show Try.f52.results.toList = krt by kernel_rfl) rfl h (k172 o)
set_option maxRecDepth 100000 in
theorem k17w {p0 : TField} {p1 : Int} {p2 : Int} {r0 : Int} (h :
((p0.P = 18446744069414584321) ∧ ((!true) = true →
 0 = r0) ∧
((!true) = false →
(0 < p0.P ∧ 0 ≤ p1) ∧ (0 < p0.P ∧ 0 ≤ p2) ∧ (p0.P = 18446744069414584321 ∧ (0 ≤ (p1 % p0.P) ∧ (p1 % p0.P) < 18446744069414584321) ∧ (0 ≤ (p2 % p0.P) ∧ (p2 % p0.P) < 18446744069414584321)) ∧ let r1 : Int := (((p1 % p0.P) + (p2 % p0.P)) % 18446744069414584321)
 r1 = r0))) : knn (p0.P, p1, p2, ()) (r0, ()) := WPh.of_eq (by kernel_rfl) h
theorem bd52 : Callable Try.prog 52 := ⟨by rw [Try.func52]; kernel_rfl, by rw [Try.func52]; show some _ ≠ some _; decide⟩
theorem k14z (p0 : TField) (p1 : Int) (p2 : Int) (h : p0.P = 18446744069414584321 ∧ U64 p1 ∧ U64 p2) : knn (p0.P, p1, p2, ()) ((((p1 + p2) % 18446744069414584321) : Int), ()) := by
  obtain ⟨hP, h1, h2⟩ := h
  refine k17w ⟨hP, ?_⟩
  simp only [hP]
  refine ⟨fun h => by simp at h, fun _ => ⟨by omega, by omega, ⟨by trivial, by omega, by omega⟩, ?_⟩⟩
  omega
noncomputable def kkk : Con TB.den := k4q.fnR (fun x => (fun (p0 : TField) (p1 : Int) (p2 : Int) => p0.P = 18446744069414584321 ∧ U64 p1 ∧ U64 p2) (TField.mk x.1) x.2.1 x.2.2.1) fun x => ((fun (p0 : TField) (p1 : Int) (p2 : Int) => (((p1 + p2) % 18446744069414584321) : Int)) (TField.mk x.1) x.2.1 x.2.2.1, ())
theorem krw : kkk.Ok Try.prog TB := Con.ok_fn k4q bd52 fun x h => k16t (k14z (TField.mk x.1) x.2.1 x.2.2.1 h)
end Go.Proofs.Ytponaobpcdkggaa
namespace Go.Proofs.Ytponaobpcdkggaa
open Go Go.Bv Go.Cv Go.Md Go.RowKit
def k4v : Con TB.den := Con.mk0 74 [.agg [.d (.int .u64)], .one (.d (.int .u64)), .one (.d (.int .u64))] [] (.one (.one (.d (.int .u64)))) []
abbrev k10n := HL TB.den (hsT k4v.ins (hsOs k4v.pre))
abbrev koz := HL TB.den (hsV k4v.res (hsOs k4v.post))
noncomputable def kgy : Cx TB := ⟨inf, [kns, koi], [], 4, []⟩
noncomputable def kno : Code := Try.f74.body.getD .skip
noncomputable def krg : List ResultVar := Try.f74.results.toList
noncomputable def kz1 (o : koz) : An TB := .no
noncomputable def knr (x : k10n) (o : koz) : Prop := WPh TB kgy 26 0 kno (kz1 o) (k4v.st TB x) (retTQ TB kgy k4v krg o)
set_option maxRecDepth 100000 in
theorem k16i (o : koz) : OblH TB kgy 26 0 kno (kz1 o) (retTQ TB kgy k4v krg o) :=
  OblH.of_eq (X := (True ∧ (True ∧ (True ∧ (True ∧ True))))) (by kernel_rfl) ⟨trivial, ⟨trivial, ⟨trivial, ⟨trivial, trivial⟩⟩⟩⟩
set_option maxRecDepth 100000 in
theorem k16e {x : k10n} {o : koz} (h : knr x o) : SoundH Try.prog k4v.f ((k4v.args idf x).map (er TB)) ((k4v.obs idf x).map (erO TB)) (er TB (k4v.val idf o)) ((k4v.ops idf o).map (erO TB)) :=
  Con.soundH (c := k4v) (C := kgy) TBok ⟨inf_ok, (all_cons kwp (all_cons kwb all_nil)), all_nil⟩ mix Try.func74 (show Try.f74.body = some kno by kernel_rfl) (show Try.f74.ntmps = 26 by kernel_rfl) (show Try.f74.results.toList = krg by kernel_rfl) rfl h (k16i o)
set_option maxRecDepth 100000 in
theorem k180 {p0 : TField} {p1 : Int} {p2 : Int} {r0 : Int} (h :
((U64 p1 ∧ U64 p2) ∧ (U64 (p1 * p2 / 18446744073709551616) ∧ U64 (p1 * p2 % 18446744073709551616) ∧ U64 p0.P ∧ (p1 * p2 / 18446744073709551616) < p0.P) ∧ let r1 : Int := (((p1 * p2 / 18446744073709551616) * 18446744073709551616 + (p1 * p2 % 18446744073709551616)) / p0.P)
 let r2 : Int := (((p1 * p2 / 18446744073709551616) * 18446744073709551616 + (p1 * p2 % 18446744073709551616)) % p0.P)
 r2 = r0)) : knr (p0.P, p1, p2, ()) (r0, ()) := WPh.of_eq (by kernel_rfl) h
theorem bd74 : Callable Try.prog 74 := ⟨by rw [Try.func74]; kernel_rfl, by rw [Try.func74]; show some _ ≠ some _; decide⟩
theorem k14a (p0 : TField) (p1 : Int) (p2 : Int) (h : p0.P = 18446744069414584321 ∧ (0 ≤ p1 ∧ p1 < 18446744069414584321) ∧ (0 ≤ p2 ∧ p2 < 18446744069414584321)) : knr (p0.P, p1, p2, ()) (((p1 * p2 % 18446744069414584321) : Int), ()) := by
  obtain ⟨hP, h1, h2⟩ := h
  have h3 : 0 ≤ p1 * p2 := Int.mul_nonneg h1.1 h2.1
  have h4 : p1 * p2 ≤ 18446744069414584320 * 18446744069414584320 := Int.mul_le_mul (by omega) (by omega) h2.1 (by omega)
  refine k180 ⟨⟨by omega, by omega⟩, ?_⟩
  simp only [hP]
  generalize p1 * p2 = m at *
  refine ⟨⟨⟨by omega, by omega⟩, ⟨by omega, by omega⟩, by omega, by omega⟩, ?_⟩
  rw [show m / 18446744073709551616 * 18446744073709551616 + m % 18446744073709551616 = m by omega]
noncomputable def kpy : Con TB.den := k4v.fnR (fun x => (fun (p0 : TField) (p1 : Int) (p2 : Int) => p0.P = 18446744069414584321 ∧ (0 ≤ p1 ∧ p1 < 18446744069414584321) ∧ (0 ≤ p2 ∧ p2 < 18446744069414584321)) (TField.mk x.1) x.2.1 x.2.2.1) fun x => ((fun (p0 : TField) (p1 : Int) (p2 : Int) => ((p1 * p2 % 18446744069414584321) : Int)) (TField.mk x.1) x.2.1 x.2.2.1, ())
theorem kz9 : kpy.Ok Try.prog TB := Con.ok_fn k4v bd74 fun x h => k16e (k14a (TField.mk x.1) x.2.1 x.2.2.1 h)
end Go.Proofs.Ytponaobpcdkggaa
namespace Go.Proofs.Ytponaobpcdkggaa
open Go Go.Bv Go.Cv Go.Md Go.RowKit
def k4r : Con TB.den := Con.mk0 53 [.agg [.d (.int .u64)], .one (.d (.int .u64)), .one (.d (.int .u64))] [] (.one (.one (.d (.int .u64)))) []
abbrev k107 := HL TB.den (hsT k4r.ins (hsOs k4r.pre))
abbrev kor := HL TB.den (hsV k4r.res (hsOs k4r.post))
noncomputable def ki6 : Cx TB := ⟨inf, [k8b, kaj, kpy], [], 4, []⟩
noncomputable def koe : Code := Try.f53.body.getD .skip
noncomputable def ksg : List ResultVar := Try.f53.results.toList
noncomputable def kz3 (o : kor) : An TB := .no
noncomputable def ko1 (x : k107) (o : kor) : Prop := WPh TB ki6 18 0 koe (kz3 o) (k4r.st TB x) (retTQ TB ki6 k4r ksg o)
set_option maxRecDepth 100000 in
theorem k16f (o : kor) : OblH TB ki6 18 0 koe (kz3 o) (retTQ TB ki6 k4r ksg o) :=
  OblH.of_eq (X := (True ∧ ((True ∧ ((True ∧ True) ∧ True)) ∧ (True ∧ True)))) (by kernel_rfl) ⟨trivial, ⟨⟨trivial, ⟨⟨trivial, trivial⟩, trivial⟩⟩, ⟨trivial, trivial⟩⟩⟩
set_option maxRecDepth 100000 in
theorem k17a {x : k107} {o : kor} (h : ko1 x o) : SoundH Try.prog k4r.f ((k4r.args idf x).map (er TB)) ((k4r.obs idf x).map (erO TB)) (er TB (k4r.val idf o)) ((k4r.ops idf o).map (erO TB)) :=
  Con.soundH (c := k4r) (C := ki6) TBok ⟨inf_ok, (all_cons kb8 (all_cons kfl (all_cons kz9 all_nil))), all_nil⟩ mix Try.func53 (show Try.f53.body = some koe by kernel_rfl) (show Try.f53.ntmps = 18 by kernel_rfl) (show Try.f53.results.toList = ksg by kernel_rfl) rfl h (k16f o)
set_option maxRecDepth 100000 in
theorem k17v {p0 : TField} {p1 : Int} {p2 : Int} {r0 : Int} (h :
((p0.P = 18446744069414584321) ∧ ((!true) = true →
 0 = r0) ∧
((!true) = false →
(0 < p0.P ∧ 0 ≤ p1) ∧ (0 < p0.P ∧ 0 ≤ p2) ∧ (p0.P = 18446744069414584321 ∧ (0 ≤ (p1 % p0.P) ∧ (p1 % p0.P) < 18446744069414584321) ∧ (0 ≤ (p2 % p0.P) ∧ (p2 % p0.P) < 18446744069414584321)) ∧ let r1 : Int := ((p1 % p0.P) * (p2 % p0.P) % 18446744069414584321)
 r1 = r0))) : ko1 (p0.P, p1, p2, ()) (r0, ()) := WPh.of_eq (by kernel_rfl) h
theorem bd53 : Callable Try.prog 53 := ⟨by rw [Try.func53]; kernel_rfl, by rw [Try.func53]; show some _ ≠ some _; decide⟩
theorem k14p (p0 : TField) (p1 : Int) (p2 : Int) (h : p0.P = 18446744069414584321 ∧ U64 p1 ∧ U64 p2) : ko1 (p0.P, p1, p2, ()) (((p1 * p2 % 18446744069414584321) : Int), ()) := by
  obtain ⟨hP, h1, h2⟩ := h
  refine k17v ⟨hP, ?_⟩
  simp only [hP]
  refine ⟨fun h => by simp at h, fun _ => ⟨by omega, by omega, ⟨by trivial, by omega, by omega⟩, ?_⟩⟩
  exact (Int.mul_emod _ _ _).symm
noncomputable def kwo : Con TB.den := k4r.fnR (fun x => (fun (p0 : TField) (p1 : Int) (p2 : Int) => p0.P = 18446744069414584321 ∧ U64 p1 ∧ U64 p2) (TField.mk x.1) x.2.1 x.2.2.1) fun x => ((fun (p0 : TField) (p1 : Int) (p2 : Int) => ((p1 * p2 % 18446744069414584321) : Int)) (TField.mk x.1) x.2.1 x.2.2.1, ())
theorem k19m : kwo.Ok Try.prog TB := Con.ok_fn k4r bd53 fun x h => k17a (k14p (TField.mk x.1) x.2.1 x.2.2.1 h)
end Go.Proofs.Ytponaobpcdkggaa
namespace Go.Proofs.Ytponaobpcdkggaa
open Go Go.Bv Go.Cv Go.Md Go.RowKit
def k30 : Con TB.den := Con.mk0 88 [.agg [.d (.int .u64)]] [] (.tup [.one (.d (.int .u64)), .one (.d (.int .i64)), .one (.d (.int .u64))]) []
abbrev ktt := HL TB.den (hsT k30.ins (hsOs k30.pre))
abbrev kgs := HL TB.den (hsV k30.res (hsOs k30.post))
noncomputable def kbg : Cx TB := ⟨inf, [], [], 4, []⟩
noncomputable def khz : Code := Try.f88.body.getD .skip
noncomputable def kl7 : List ResultVar := Try.f88.results.toList
noncomputable def krc (o : kgs) : An TB := .no
noncomputable def khw (x : ktt) (o : kgs) : Prop := WPh TB kbg 21 0 khz (krc o) (k30.st TB x) (retTQ TB kbg k30 kl7 o)
set_option maxRecDepth 100000 in
theorem kze (o : kgs) : OblH TB kbg 21 0 khz (krc o) (retTQ TB kbg k30 kl7 o) :=
  OblH.of_eq (X := (True ∧ ((True ∧ (True ∧ ((True ∧ True) ∧ (True ∧ ((True ∧ True) ∧ (True ∧ ((True ∧ True) ∧ (True ∧ ((True ∧ True) ∧ (True ∧ ((True ∧ True) ∧ (True ∧ ((True ∧ True) ∧ (True ∧ ((True ∧ True) ∧ True))))))))))))))) ∧ (True ∧ True)))) (by kernel_rfl) ⟨trivial, ⟨⟨trivial, ⟨trivial, ⟨⟨trivial, trivial⟩, ⟨trivial, ⟨⟨trivial, trivial⟩, ⟨trivial, ⟨⟨trivial, trivial⟩, ⟨trivial, ⟨⟨trivial, trivial⟩, ⟨trivial, ⟨⟨trivial, trivial⟩, ⟨trivial, ⟨⟨trivial, trivial⟩, ⟨trivial, ⟨⟨trivial, trivial⟩, trivial⟩⟩⟩⟩⟩⟩⟩⟩⟩⟩⟩⟩⟩⟩⟩, ⟨trivial, trivial⟩⟩⟩
set_option maxRecDepth 100000 in
theorem kzz {x : ktt} {o : kgs} (h : khw x o) : SoundH Try.prog k30.f ((k30.args idf x).map (er TB)) ((k30.obs idf x).map (erO TB)) (er TB (k30.val idf o)) ((k30.ops idf o).map (erO TB)) :=
  Con.soundH (c := k30) (C := kbg) TBok ⟨inf_ok, all_nil, all_nil⟩ mix Try.func88 (show Try.f88.body = some khz by kernel_rfl) (show Try.f88.ntmps = 21 by kernel_rfl) (show Try.f88.results.toList = kl7 by kernel_rfl) rfl h (kze o)
set_option maxRecDepth 100000 in
theorem k10u {p0 : TField} {r0 : Int} {r1 : Int} {r2 : Int} (h :
(((p0.P == 17) = true →
 3 = r0 ∧ 4 = r1 ∧ 3 = r2) ∧
((p0.P == 17) = false →
((p0.P == 97) = true →
 5 = r0 ∧ 5 = r1 ∧ 5 = r2) ∧
((p0.P == 97) = false →
((p0.P == 193) = true →
 5 = r0 ∧ 6 = r1 ∧ 5 = r2) ∧
((p0.P == 193) = false →
((p0.P == 257) = true →
 3 = r0 ∧ 8 = r1 ∧ 3 = r2) ∧
((p0.P == 257) = false →
((p0.P == 12289) = true →
 11 = r0 ∧ 12 = r1 ∧ 5 = r2) ∧
((p0.P == 12289) = false →
((p0.P == 65537) = true →
 3 = r0 ∧ 16 = r1 ∧ 3 = r2) ∧
((p0.P == 65537) = false →
((p0.P == 18446744069414584321) = true →
 7 = r0 ∧ 32 = r1 ∧ 7 = r2) ∧
((p0.P == 18446744069414584321) = false →
 0 = r0 ∧ 0 = r1 ∧ 0 = r2))))))))) : khw (p0.P, ()) (r0, r1, r2, ()) := WPh.of_eq (by kernel_rfl) h
theorem bd88 : Callable Try.prog 88 := ⟨by rw [Try.func88]; kernel_rfl, by rw [Try.func88]; show some _ ≠ some _; decide⟩
theorem kxy (p0 : TField) (h : p0.P = 18446744069414584321) : khw (p0.P, ()) ((7 : Int), (32 : Int), (7 : Int), ()) := by
  refine k10u ?_
  simp [h]
noncomputable def kql : Con TB.den := k30.fnR (fun x => (fun (p0 : TField) => p0.P = 18446744069414584321) (TField.mk x.1)) fun x => ((fun (p0 : TField) => (7 : Int)) (TField.mk x.1), (fun (p0 : TField) => (32 : Int)) (TField.mk x.1), (fun (p0 : TField) => (7 : Int)) (TField.mk x.1), ())
theorem k11g : kql.Ok Try.prog TB := Con.ok_fn k30 bd88 fun x h => kzz (kxy (TField.mk x.1) h)
end Go.Proofs.Ytponaobpcdkggaa
namespace Go.Proofs.Ytponaobpcdkggaa
open Go Go.Bv Go.Cv Go.Md Go.RowKit
def k2m : Con TB.den := Con.mk0 75 [.agg [.d (.int .u64)]] [] (.one (.one (.d (.int .u64)))) []
abbrev krh := HL TB.den (hsT k2m.ins (hsOs k2m.pre))
abbrev kfn := HL TB.den (hsV k2m.res (hsOs k2m.post))
noncomputable def kal : Cx TB := ⟨inf, [kql], [], 4, []⟩
noncomputable def kga : Code := Try.f75.body.getD .skip
noncomputable def kjs : List ResultVar := Try.f75.results.toList
noncomputable def kqm (o : kfn) : An TB := .no
noncomputable def kg9 (x : krh) (o : kfn) : Prop := WPh TB kal 13 0 kga (kqm o) (k2m.st TB x) (retTQ TB kal k2m kjs o)
set_option maxRecDepth 100000 in
theorem ky3 (o : kfn) : OblH TB kal 13 0 kga (kqm o) (retTQ TB kal k2m kjs o) :=
  OblH.of_eq (X := (True ∧ (True ∧ (True ∧ True)))) (by kernel_rfl) ⟨trivial, ⟨trivial, ⟨trivial, trivial⟩⟩⟩
set_option maxRecDepth 100000 in
theorem kxw {x : krh} {o : kfn} (h : kg9 x o) : SoundH Try.prog k2m.f ((k2m.args idf x).map (er TB)) ((k2m.obs idf x).map (erO TB)) (er TB (k2m.val idf o)) ((k2m.ops idf o).map (erO TB)) :=
  Con.soundH (c := k2m) (C := kal) TBok ⟨inf_ok, (all_cons k11g all_nil), all_nil⟩ mix Try.func75 (show Try.f75.body = some kga by kernel_rfl) (show Try.f75.ntmps = 13 by kernel_rfl) (show Try.f75.results.toList = kjs by kernel_rfl) rfl h (ky3 o)
set_option maxRecDepth 100000 in
theorem kzi {p0 : TField} {r0 : Int} (h :
((p0.P = 18446744069414584321) ∧ 7 = r0)) : kg9 (p0.P, ()) (r0, ()) := WPh.of_eq (by kernel_rfl) h
theorem bd75 : Callable Try.prog 75 := ⟨by rw [Try.func75]; kernel_rfl, by rw [Try.func75]; show some _ ≠ some _; decide⟩
theorem kxb (p0 : TField) (h : p0.P = 18446744069414584321) : kg9 (p0.P, ()) ((7 : Int), ()) := by
  exact kzi ⟨h, rfl⟩
noncomputable def kpm : Con TB.den := k2m.fnR (fun x => (fun (p0 : TField) => p0.P = 18446744069414584321) (TField.mk x.1)) fun x => ((fun (p0 : TField) => (7 : Int)) (TField.mk x.1), ())
theorem kzy : kpm.Ok Try.prog TB := Con.ok_fn k2m bd75 fun x h => kxw (kxb (TField.mk x.1) h)
end Go.Proofs.Ytponaobpcdkggaa
namespace Go.Proofs.Ytponaobpcdkggaa
open Go Go.Bv Go.Cv Go.Md Go.RowKit
def k44 : Con TB.den := Con.mk0 89 [.agg [.d (.int .u64)], .one (.d (.int .u64)), .one (.d (.int .u64))] [] (.one (.one (.d (.int .u64)))) []
abbrev k10f := HL TB.den (hsT k44.ins (hsOs k44.pre))
abbrev k7i := HL TB.den (hsV k44.res (hsOs k44.post))
noncomputable def k7f : Cx TB := ⟨inf, [kpy], [], 4, []⟩
noncomputable def kb7 : Code := Try.f89.body.getD .skip
noncomputable def ki3 : List ResultVar := Try.f89.results.toList
noncomputable def k187 (o : k7i) : Exit → TSt TB.den → Prop := thenT TB (fun s => ghs TB [] s fun s => WP TB k7f 26 0 (cB (cB (cB kb7))) .no s (retTQ TB k7f k44 ki3 o)) (retTQ TB k7f k44 ki3 o)
def k65 : Tm := ⟨[0], [.cells [.d (.int .u64)]], [1, 2, 3, 7], [.one (.d (.int .u64)), .one (.d (.int .u64)), .one (.ptr 0 0), .one (.d (.int .u64))], 1⟩
noncomputable def kxx (o : k7i) (nx1 : HL TB.den k65.hs → Prop) : Exit → TSt TB.den → Prop := thenT TB (fun s => k65.mat TB 0 s nx1) (blockT TB 0 (k187 o))
def kkj : Tm := ⟨[0], [.cells [.d (.int .u64)]], [1, 2, 3, 7], [.one (.d (.int .u64)), .one (.d (.int .u64)), .one (.ptr 0 0), .one (.d (.int .u64))], 1⟩
noncomputable def kwx (o : k7i) (nx1 : HL TB.den k65.hs → Prop) (i : HL TB.den kkj.hs) : Prop := ghs TB [] (kkj.fill TB i) fun s => WP TB k7f 26 0 (cB (cA (cB (cA (cA (cA (cB (cB kb7)))))))) .no s (blockT TB 1 (kxx o nx1))
structure kdp (o : k7i) (nx1 : HL TB.den k65.hs → Prop) (i : HL TB.den kkj.hs) : Prop where
  h : kwx o nx1 i
noncomputable def kyg (o : k7i) (nx1 : HL TB.den k65.hs → Prop) : An TB := .nd [] .no [] (.jn kkj (kdp o nx1) [] .no [] .no)
noncomputable def khj (o : k7i) (nx1 : HL TB.den k65.hs → Prop) (i : HL TB.den k65.hs) : Prop := WP TB k7f 26 0 (cA (cA (cA (cB (cB kb7))))) (kyg o nx1) (k65.fill TB i) (kxx o nx1)
noncomputable def k19i (o : k7i) : An TB := .lp [] k65 (khj o) fun nx1 => (kyg o nx1)
noncomputable def kxp (o : k7i) : An TB := .nd [] .no [] (.nd [] .no [] (.nd [] (k19i o) [] .no))
noncomputable def ko9 (x : k10f) (o : k7i) : Prop := WPh TB k7f 26 0 kb7 (kxp o) (k44.st TB x) (retTQ TB k7f k44 ki3 o)
set_option maxRecDepth 100000 in
theorem k16a (o : k7i) : OblH TB k7f 26 0 kb7 (kxp o) (retTQ TB k7f k44 ki3 o) :=
  OblH.of_eq (X := (True ∧ (True ∧ (((∀ nx i, (khj o) nx i = (khj o) nx i) ∧ ∀ nx1 : HL TB.den k65.hs → Prop, ((True ∧ (True ∧ True)) ∧ ((True ∧ (True ∧ True)) ∧ (∀ i, (kdp o nx1) i = (kwx o nx1) i) ∧ (True ∧ (True ∧ (True ∧ True)))))) ∧ (True ∧ True))))) (by kernel_rfl) ⟨trivial, ⟨trivial, ⟨⟨fun _ _ => rfl, fun _ => ⟨⟨trivial, ⟨trivial, trivial⟩⟩, ⟨⟨trivial, ⟨trivial, trivial⟩⟩, fun _ => propext ⟨fun h => h.1, fun h => ⟨h⟩⟩, ⟨trivial, ⟨trivial, ⟨trivial, trivial⟩⟩⟩⟩⟩⟩, ⟨trivial, trivial⟩⟩⟩⟩
set_option maxRecDepth 100000 in
theorem k16j {x : k10f} {o : k7i} (h : ko9 x o) : SoundH Try.prog k44.f ((k44.args idf x).map (er TB)) ((k44.obs idf x).map (erO TB)) (er TB (k44.val idf o)) ((k44.ops idf o).map (erO TB)) :=
  Con.soundH (c := k44) (C := k7f) TBok ⟨inf_ok, (all_cons kz9 all_nil), all_nil⟩ mix Try.func89 (show Try.f89.body = some kb7 by kernel_rfl) (show Try.f89.ntmps = 26 by kernel_rfl) (show Try.f89.results.toList = ki3 by kernel_rfl) rfl h (k16a o)
set_option maxRecDepth 100000 in
theorem k19f {p0 : TField} {p1 : Int} {p2 : Int} {r0 : Int} (h :
(Md.Loop (p1, p2, (1 : Int), p0.P, ()) (khj (r0, ())))) : ko9 (p0.P, p1, p2, ()) (r0, ()) := WPh.of_eq (by kernel_rfl) h
set_option maxRecDepth 100000 in
theorem k13f {r0 : Int} {nx1 : HL TB.den k65.hs → Prop} {s1 : Int} {s2 : Int} {s7 : Int} {h0_0 : Int} (h :
((decide (0 < (ishr .u64 s2 1)) = true →
((TField.mk h0_0).P = 18446744069414584321 ∧ (0 ≤ s1 ∧ s1 < 18446744069414584321) ∧ (0 ≤ s1 ∧ s1 < 18446744069414584321)) ∧ nx1 (((s1 * s1 % 18446744069414584321) : Int), (ishr .u64 s2 1 : Int), s7, h0_0, ())) ∧
(decide (0 < (ishr .u64 s2 1)) = false →
 nx1 (s1, (ishr .u64 s2 1 : Int), s7, h0_0, ())))) : kdp (r0, ()) nx1 (s1, s2, s7, h0_0, ()) := ⟨mpr_of (by kernel_rfl) h⟩
def kyo (r0 : Int) (nx1 : HL TB.den k65.hs → Prop) (k1 : Int → Int → Int → Prop) (h0_0 : Int) (s1 : Int) (s2 : Int) (s7 : Int) : Prop :=
(decide (0 < s2) = true →
(((iand .u64 s2 1) == 1) = true →
((TField.mk h0_0).P = 18446744069414584321 ∧ (0 ≤ s7 ∧ s7 < 18446744069414584321) ∧ (0 ≤ s1 ∧ s1 < 18446744069414584321)) ∧ kdp (r0, ()) nx1 (s1, s2, ((s7 * s1 % 18446744069414584321) : Int), h0_0, ())) ∧
(((iand .u64 s2 1) == 1) = false →
 kdp (r0, ()) nx1 (s1, s2, s7, h0_0, ()))) ∧
(decide (0 < s2) = false →
 s7 = r0)
set_option maxRecDepth 100000 in
theorem k174 {r0 : Int} {h0_0 : Int} {s1 : Int} {s2 : Int} {s7 : Int} (inv : Int → Int → Int → Prop) (μ : Int → Int → Int → Nat) (h0 : inv s1 s2 s7) (hs : ∀ (s1 : Int) (s2 : Int) (s7 : Int), inv s1 s2 s7 → kyo r0 (fun s : Int × Int × Int × Int × Unit => ((s.2.2.2.1 = h0_0) ∧ inv s.1 s.2.1 s.2.2.1) ∧ μ s.1 s.2.1 s.2.2.1 < μ s1 s2 s7) (fun s1q s2q s7q => inv s1q s2q s7q ∧ μ s1q s2q s7q < μ s1 s2 s7) h0_0 s1 s2 s7) : Md.Loop (s1, s2, s7, h0_0, ()) (khj (r0, ())) :=
  ⟨⟨fun s : Int × Int × Int × Int × Unit => (s.2.2.2.1 = h0_0) ∧ inv s.1 s.2.1 s.2.2.1, fun s : Int × Int × Int × Int × Unit => μ s.1 s.2.1 s.2.2.1, ⟨rfl, h0⟩, fun (s1p, s2p, s7p, h0_0p, ()) ⟨eq0, hi⟩ => by
    have eq0 : h0_0p = h0_0 := eq0; subst h0_0p; exact mpr_of (by kernel_rfl) ((congrArg (fun k => kyo r0 (fun s : Int × Int × Int × Int × Unit => ((s.2.2.2.1 = h0_0) ∧ inv s.1 s.2.1 s.2.2.1) ∧ μ s.1 s.2.1 s.2.2.1 < μ s1p s2p s7p) k h0_0 s1p s2p s7p) (lpk3 (rfl : h0_0 = h0_0) inv (fun s1q s2q s7q => μ s1q s2q s7q < μ s1p s2p s7p))).mpr (hs s1p s2p s7p hi))⟩⟩
theorem bd89 : Callable Try.prog 89 := ⟨by rw [Try.func89]; kernel_rfl, by rw [Try.func89]; show some _ ≠ some _; decide⟩
theorem k14h (p0 : TField) (p1 : Int) (p2 : Int) (h : p0.P = 18446744069414584321 ∧ (0 ≤ p1 ∧ p1 < 18446744069414584321) ∧ U64 p2) : ko9 (p0.P, p1, p2, ()) (((pw p1 p2) : Int), ()) := by
  obtain ⟨hP, h1, h2⟩ := h
  refine k19f ?_
  rw [hP]
  refine k174 (fun a e r => (0 ≤ a ∧ a < 18446744069414584321) ∧ U64 e ∧ (0 ≤ r ∧ r < 18446744069414584321) ∧ (r * a ^ e.toNat) % 18446744069414584321 = pw p1 p2) (fun a e r => e.toNat) ⟨h1, h2, by omega, by rw [Int.one_mul]; rfl⟩ ?_
  rintro a e r ⟨ha, he, hr, hv⟩
  have jj : ∀ nx r', (0 ≤ r' ∧ r' < 18446744069414584321) → 0 < e → (r' * (a * a) ^ (e / 2).toNat) % 18446744069414584321 = pw p1 p2 → (∀ a', (0 ≤ a' ∧ a' < 18446744069414584321) → r' * a' ^ (e / 2).toNat % 18446744069414584321 = pw p1 p2 → nx (a', (e / 2 : Int), r', (18446744069414584321 : Int), ())) → kdp ((pw p1 p2 : Int), ()) nx (a, e, r', (18446744069414584321 : Int), ()) := by
    intro nx r' hr' he' hv' hn
    refine k13f ?_
    rw [ishr1]
    refine ⟨fun h => ⟨⟨rfl, ha, ha⟩, ?_⟩, fun h => ?_⟩
    · refine hn _ ⟨Int.emod_nonneg _ (by omega), Int.emod_lt_of_pos _ (by omega)⟩ ?_
      rw [← hv', Int.mul_emod, Int.mul_emod r' ((a * a) ^ _), kvk]
    · have h : ¬ 0 < e / 2 := of_decide_eq_false h
      refine hn _ ha ?_
      rw [show (e / 2).toNat = 0 by omega] at hv' ⊢
      simpa using hv'
  refine ⟨fun h => ?_, fun h => ?_⟩
  · have h := of_decide_eq_true h
    rw [k1cx e he]
    have nxt : ∀ a' r', (0 ≤ a' ∧ a' < 18446744069414584321) → (0 ≤ r' ∧ r' < 18446744069414584321) → r' * a' ^ (e / 2).toNat % 18446744069414584321 = pw p1 p2 → ((0 ≤ a' ∧ a' < 18446744069414584321) ∧ U64 (e / 2) ∧ (0 ≤ r' ∧ r' < 18446744069414584321) ∧ r' * a' ^ (e / 2).toNat % 18446744069414584321 = pw p1 p2) ∧ (e / 2).toNat < e.toNat := fun a' r' h1 h2 h3 => ⟨⟨h1, ⟨by omega, by omega⟩, h2, h3⟩, by omega⟩
    have hpow : ∀ k : Nat, a ^ (2 * k) = (a * a) ^ k := fun k => by rw [Int.pow_mul]; congr 1; rw [Int.pow_succ, Int.pow_succ, Int.pow_zero, Int.one_mul]
    refine ⟨fun h1 => ⟨⟨rfl, hr, ha⟩, ?_⟩, fun h1 => ?_⟩
    · have h1 : e % 2 = 1 := by simpa using h1
      refine jj _ _ ⟨Int.emod_nonneg _ (by omega), Int.emod_lt_of_pos _ (by omega)⟩ h ?_ fun a' ha' hv' => ⟨⟨rfl, (nxt a' _ ha' ⟨Int.emod_nonneg _ (by omega), Int.emod_lt_of_pos _ (by omega)⟩ hv').1⟩, (nxt a' _ ha' ⟨Int.emod_nonneg _ (by omega), Int.emod_lt_of_pos _ (by omega)⟩ hv').2⟩
      rw [← hv, show e.toNat = 2 * (e / 2).toNat + 1 by omega, Int.pow_succ, hpow, Int.mul_emod, Int.emod_emod_of_dvd _ (Int.dvd_refl _), ← Int.mul_emod]
      congr 1
      grind
    · have h1 : ¬ e % 2 = 1 := by simpa using h1
      refine jj _ _ hr h ?_ fun a' ha' hv' => ⟨⟨rfl, (nxt a' _ ha' hr hv').1⟩, (nxt a' _ ha' hr hv').2⟩
      rw [← hv, ← hpow, show e.toNat = 2 * (e / 2).toNat by omega]
  · have h : ¬ 0 < e := of_decide_eq_false h
    rw [show e.toNat = 0 by omega, Int.pow_zero, Int.mul_one, Int.emod_eq_of_lt hr.1 hr.2] at hv
    exact hv
noncomputable def kx0 : Con TB.den := k44.fnR (fun x => (fun (p0 : TField) (p1 : Int) (p2 : Int) => p0.P = 18446744069414584321 ∧ (0 ≤ p1 ∧ p1 < 18446744069414584321) ∧ U64 p2) (TField.mk x.1) x.2.1 x.2.2.1) fun x => ((fun (p0 : TField) (p1 : Int) (p2 : Int) => ((pw p1 p2) : Int)) (TField.mk x.1) x.2.1 x.2.2.1, ())
theorem k17q : kx0.Ok Try.prog TB := Con.ok_fn k44 bd89 fun x h => k16j (k14h (TField.mk x.1) x.2.1 x.2.2.1 h)
end Go.Proofs.Ytponaobpcdkggaa
namespace Go.Proofs.Ytponaobpcdkggaa
open Go Go.Bv Go.Cv Go.Md Go.RowKit
def k4u : Con TB.den := Con.mk0 76 [.agg [.d (.int .u64)], .one (.d (.int .u64)), .one (.d (.int .u64))] [] (.one (.one (.d (.int .u64)))) []
abbrev k101 := HL TB.den (hsT k4u.ins (hsOs k4u.pre))
abbrev kot := HL TB.den (hsV k4u.res (hsOs k4u.post))
noncomputable def ki4 : Cx TB := ⟨inf, [k8b, kaj, kx0], [], 4, []⟩
noncomputable def koh : Code := Try.f76.body.getD .skip
noncomputable def kro : List ResultVar := Try.f76.results.toList
noncomputable def ky6 (o : kot) : An TB := .no
noncomputable def knl (x : k101) (o : kot) : Prop := WPh TB ki4 16 0 koh (ky6 o) (k4u.st TB x) (retTQ TB ki4 k4u kro o)
set_option maxRecDepth 100000 in
theorem k17c (o : kot) : OblH TB ki4 16 0 koh (ky6 o) (retTQ TB ki4 k4u kro o) :=
  OblH.of_eq (X := (True ∧ ((True ∧ ((True ∧ True) ∧ True)) ∧ (True ∧ True)))) (by kernel_rfl) ⟨trivial, ⟨⟨trivial, ⟨⟨trivial, trivial⟩, trivial⟩⟩, ⟨trivial, trivial⟩⟩⟩
set_option maxRecDepth 100000 in
theorem k16l {x : k101} {o : kot} (h : knl x o) : SoundH Try.prog k4u.f ((k4u.args idf x).map (er TB)) ((k4u.obs idf x).map (erO TB)) (er TB (k4u.val idf o)) ((k4u.ops idf o).map (erO TB)) :=
  Con.soundH (c := k4u) (C := ki4) TBok ⟨inf_ok, (all_cons kb8 (all_cons kfl (all_cons k17q all_nil))), all_nil⟩ mix Try.func76 (show Try.f76.body = some koh by kernel_rfl) (show Try.f76.ntmps = 16 by kernel_rfl) (show Try.f76.results.toList = kro by kernel_rfl) rfl h (k17c o)
set_option maxRecDepth 100000 in
theorem k19e {p0 : TField} {p1 : Int} {p2 : Int} {r0 : Int} (h :
((p0.P = 18446744069414584321) ∧ ((!true) = true →
 0 = r0) ∧
((!true) = false →
(0 < p0.P ∧ 0 ≤ p1) ∧ (p0.P = 18446744069414584321 ∧ (0 ≤ (p1 % p0.P) ∧ (p1 % p0.P) < 18446744069414584321) ∧ U64 p2) ∧ (pw (p1 % p0.P) p2) = r0))) : knl (p0.P, p1, p2, ()) (r0, ()) := WPh.of_eq (by kernel_rfl) h
theorem bd76 : Callable Try.prog 76 := ⟨by rw [Try.func76]; kernel_rfl, by rw [Try.func76]; show some _ ≠ some _; decide⟩
theorem k14r (p0 : TField) (p1 : Int) (p2 : Int) (h : p0.P = 18446744069414584321 ∧ U64 p1 ∧ U64 p2) : knl (p0.P, p1, p2, ()) (((pw (p1 % 18446744069414584321) p2) : Int), ()) := by
  obtain ⟨hP, h1, h2⟩ := h
  refine k19e ⟨hP, fun h => by simp at h, fun _ => ⟨by omega, ?_⟩⟩
  simp only [hP]
  exact ⟨⟨by trivial, by omega, h2⟩, trivial⟩
noncomputable def kwq : Con TB.den := k4u.fnR (fun x => (fun (p0 : TField) (p1 : Int) (p2 : Int) => p0.P = 18446744069414584321 ∧ U64 p1 ∧ U64 p2) (TField.mk x.1) x.2.1 x.2.2.1) fun x => ((fun (p0 : TField) (p1 : Int) (p2 : Int) => ((pw (p1 % 18446744069414584321) p2) : Int)) (TField.mk x.1) x.2.1 x.2.2.1, ())
theorem k19d : kwq.Ok Try.prog TB := Con.ok_fn k4u bd76 fun x h => k16l (k14r (TField.mk x.1) x.2.1 x.2.2.1 h)
end Go.Proofs.Ytponaobpcdkggaa
namespace Go.Proofs.Ytponaobpcdkggaa
open Go Go.Bv Go.Cv Go.Md Go.RowKit
def k3e : Con TB.den := Con.mk0 90 [.agg [.d (.int .u64)], .one (.d (.int .u64))] [] (.one (.one (.d (.int .u64)))) []
abbrev kv6 := HL TB.den (hsT k3e.ins (hsOs k3e.pre))
abbrev kiv := HL TB.den (hsV k3e.res (hsOs k3e.post))
noncomputable def kck : Cx TB := ⟨inf, [k8b, kaj], [], 4, []⟩
noncomputable def kja : Code := Try.f90.body.getD .skip
noncomputable def kmi : List ResultVar := Try.f90.results.toList
noncomputable def ktm (o : kiv) : An TB := .no
noncomputable def kjn (x : kv6) (o : kiv) : Prop := WPh TB kck 11 0 kja (ktm o) (k3e.st TB x) (retTQ TB kck k3e kmi o)
set_option maxRecDepth 100000 in
theorem k11q (o : kiv) : OblH TB kck 11 0 kja (ktm o) (retTQ TB kck k3e kmi o) :=
  OblH.of_eq (X := (True ∧ ((True ∧ ((True ∧ True) ∧ True)) ∧ (True ∧ True)))) (by kernel_rfl) ⟨trivial, ⟨⟨trivial, ⟨⟨trivial, trivial⟩, trivial⟩⟩, ⟨trivial, trivial⟩⟩⟩
set_option maxRecDepth 100000 in
theorem k11p {x : kv6} {o : kiv} (h : kjn x o) : SoundH Try.prog k3e.f ((k3e.args idf x).map (er TB)) ((k3e.obs idf x).map (erO TB)) (er TB (k3e.val idf o)) ((k3e.ops idf o).map (erO TB)) :=
  Con.soundH (c := k3e) (C := kck) TBok ⟨inf_ok, (all_cons kb8 (all_cons kfl all_nil)), all_nil⟩ mix Try.func90 (show Try.f90.body = some kja by kernel_rfl) (show Try.f90.ntmps = 11 by kernel_rfl) (show Try.f90.results.toList = kmi by kernel_rfl) rfl h (k11q o)
set_option maxRecDepth 100000 in
theorem k12o {p0 : TField} {p1 : Int} {r0 : Int} (h :
((p0.P = 18446744069414584321) ∧ ((!true) = true →
 0 = r0) ∧
((!true) = false →
(0 < p0.P ∧ 0 ≤ p1) ∧ (p1 % p0.P) = r0))) : kjn (p0.P, p1, ()) (r0, ()) := WPh.of_eq (by kernel_rfl) h
theorem bd90 : Callable Try.prog 90 := ⟨by rw [Try.func90]; kernel_rfl, by rw [Try.func90]; show some _ ≠ some _; decide⟩
theorem kzw (p0 : TField) (p1 : Int) (h : p0.P = 18446744069414584321 ∧ U64 p1) : kjn (p0.P, p1, ()) (((p1 % 18446744069414584321) : Int), ()) := by
  obtain ⟨hP, h1⟩ := h
  refine k12o ⟨hP, fun h => by simp at h, fun _ => ⟨by omega, ?_⟩⟩
  simp only [hP]
noncomputable def kri : Con TB.den := k3e.fnR (fun x => (fun (p0 : TField) (p1 : Int) => p0.P = 18446744069414584321 ∧ U64 p1) (TField.mk x.1) x.2.1) fun x => ((fun (p0 : TField) (p1 : Int) => ((p1 % 18446744069414584321) : Int)) (TField.mk x.1) x.2.1, ())
theorem k138 : kri.Ok Try.prog TB := Con.ok_fn k3e bd90 fun x h => k11p (kzw (TField.mk x.1) x.2.1 h)
end Go.Proofs.Ytponaobpcdkggaa
namespace Go.Proofs.Ytponaobpcdkggaa
open Go Go.Bv Go.Cv Go.Md Go.RowKit
def k1s : Con TB.den := Con.mk0 77 [.one (.d (.int .u64)), .one (.d (.int .i64)), .one (.d (.int .i64))] [] (.one (.one (.d (.int .u64)))) []
abbrev kkc := HL TB.den (hsT k1s.ins (hsOs k1s.pre))
abbrev k97 := HL TB.den (hsV k1s.res (hsOs k1s.post))
noncomputable def k75 : Cx TB := ⟨inf, [kri], [], 4, []⟩
noncomputable def kav : Code := Try.f77.body.getD .skip
noncomputable def kc3 : List ResultVar := Try.f77.results.toList
noncomputable def kiy (o : k97) : An TB := .no
noncomputable def kas (x : kkc) (o : k97) : Prop := WPh TB k75 31 0 kav (kiy o) (k1s.st TB x) (retTQ TB k75 k1s kc3 o)
set_option maxRecDepth 100000 in
theorem ks8 (o : k97) : OblH TB k75 31 0 kav (kiy o) (retTQ TB k75 k1s kc3 o) :=
  OblH.of_eq (X := (True ∧ ((True ∧ ((True ∧ True) ∧ True)) ∧ (True ∧ True)))) (by kernel_rfl) ⟨trivial, ⟨⟨trivial, ⟨⟨trivial, trivial⟩, trivial⟩⟩, ⟨trivial, trivial⟩⟩⟩
set_option maxRecDepth 100000 in
theorem kse {x : kkc} {o : k97} (h : kas x o) : SoundH Try.prog k1s.f ((k1s.args idf x).map (er TB)) ((k1s.obs idf x).map (erO TB)) (er TB (k1s.val idf o)) ((k1s.ops idf o).map (erO TB)) :=
  Con.soundH (c := k1s) (C := k75) TBok ⟨inf_ok, (all_cons k138 all_nil), all_nil⟩ mix Try.func77 (show Try.f77.body = some kav by kernel_rfl) (show Try.f77.ntmps = 31 by kernel_rfl) (show Try.f77.results.toList = kc3 by kernel_rfl) rfl h (ks8 o)
set_option maxRecDepth 100000 in
theorem ksx {p0 : Int} {p1 : Int} {p2 : Int} {r0 : Int} (h :
((decide (p1 < 0) = true →
 0 = r0) ∧
(decide (p1 < 0) = false →
(decide (8 ≤ p1) = true →
 0 = r0) ∧
(decide (8 ≤ p1) = false →
(decide (p2 < 0) = true →
 0 = r0) ∧
(decide (p2 < 0) = false →
(decide (2 < p2) = true →
 0 = r0) ∧
(decide (2 < p2) = false →
 let v1 : Int := IntKind.i64.wrap ((IntKind.i64.wrap (3 * p1)) + p2)
 let v2 : Int := IntKind.u64.wrap (IntKind.i64.wrap (v1 + 1))
 let v3 : Int := IntKind.u64.wrap (v2 * 11400714819323198485)
((TField.mk p0).P = 18446744069414584321 ∧ U64 v3) ∧ (v3 % 18446744069414584321) = r0)))))) : kas (p0, p1, p2, ()) (r0, ()) := WPh.of_eq (by kernel_rfl) h
theorem bd77 : Callable Try.prog 77 := ⟨by rw [Try.func77]; kernel_rfl, by rw [Try.func77]; show some _ ≠ some _; decide⟩
theorem kr3 (p0 : Int) (p1 : Int) (p2 : Int) (h : p0 = 18446744069414584321 ∧ (0 ≤ p1 ∧ p1 < 8) ∧ 0 ≤ p2 ∧ p2 < 3) : kas (p0, p1, p2, ()) (((rc p1 p2) : Int), ()) := by
  obtain ⟨hP, h1, h2⟩ := h
  refine ksx ⟨fun h => ?_, fun _ => ⟨fun h => ?_, fun _ => ⟨fun h => ?_, fun _ => ⟨fun h => ?_, fun _ => ?_⟩⟩⟩⟩
  · simp at h; omega
  · simp at h; omega
  · simp at h; omega
  · simp at h; omega
  · simp only []
    rw [wi (3 * p1) (by omega) (by omega), wi (3 * p1 + p2) (by omega) (by omega), wi (3 * p1 + p2 + 1) (by omega) (by omega), wu (3 * p1 + p2 + 1) (by omega) (by omega), u64w]
    exact ⟨⟨hP, by omega, by omega⟩, rfl⟩
noncomputable def ki7 : Con TB.den := k1s.fnR (fun x => (fun (p0 : Int) (p1 : Int) (p2 : Int) => p0 = 18446744069414584321 ∧ (0 ≤ p1 ∧ p1 < 8) ∧ 0 ≤ p2 ∧ p2 < 3) x.1 x.2.1 x.2.2.1) fun x => ((fun (p0 : Int) (p1 : Int) (p2 : Int) => ((rc p1 p2) : Int)) x.1 x.2.1 x.2.2.1, ())
theorem ksw : ki7.Ok Try.prog TB := Con.ok_fn k1s bd77 fun x h => kse (kr3 x.1 x.2.1 x.2.2.1 h)
end Go.Proofs.Ytponaobpcdkggaa
namespace Go.Proofs.Ytponaobpcdkggaa
open Go Go.Bv Go.Cv Go.Md Go.RowKit
def k2b : Con TB.den := Con.mk0 78 [.one (.d (.int .u64)), .agg [.d (.int .u64), .d (.int .u64), .d (.int .u64)]] [] (.one (.agg [.d (.int .u64), .d (.int .u64), .d (.int .u64)])) []
abbrev kqj := HL TB.den (hsT k2b.ins (hsOs k2b.pre))
abbrev kdb := HL TB.den (hsV k2b.res (hsOs k2b.post))
noncomputable def k9r : Cx TB := ⟨inf, [kkk], [], 4, []⟩
noncomputable def kfb : Code := Try.f78.body.getD .skip
noncomputable def kh5 : List ResultVar := Try.f78.results.toList
noncomputable def kpi (o : kdb) : An TB := .no
noncomputable def kfh (x : kqj) (o : kdb) : Prop := WPh TB k9r 35 0 kfb (kpi o) (k2b.st TB x) (retTQ TB k9r k2b kh5 o)
set_option maxRecDepth 100000 in
theorem kxj (o : kdb) : OblH TB k9r 35 0 kfb (kpi o) (retTQ TB k9r k2b kh5 o) :=
  OblH.of_eq (X := (True ∧ (True ∧ (True ∧ (True ∧ True))))) (by kernel_rfl) ⟨trivial, ⟨trivial, ⟨trivial, ⟨trivial, trivial⟩⟩⟩⟩
set_option maxRecDepth 100000 in
theorem kxa {x : kqj} {o : kdb} (h : kfh x o) : SoundH Try.prog k2b.f ((k2b.args idf x).map (er TB)) ((k2b.obs idf x).map (erO TB)) (er TB (k2b.val idf o)) ((k2b.ops idf o).map (erO TB)) :=
  Con.soundH (c := k2b) (C := k9r) TBok ⟨inf_ok, (all_cons krw all_nil), all_nil⟩ mix Try.func78 (show Try.f78.body = some kfb by kernel_rfl) (show Try.f78.ntmps = 35 by kernel_rfl) (show Try.f78.results.toList = kh5 by kernel_rfl) rfl h (kxj o)
set_option maxRecDepth 100000 in
theorem kz5 {p0 : Int} {p1 : TA3} {r0 : TA3} (h :
(((TField.mk p0).P = 18446744069414584321 ∧ U64 p1.a0 ∧ U64 p1.a1) ∧ ((TField.mk p0).P = 18446744069414584321 ∧ U64 ((p1.a0 + p1.a1) % 18446744069414584321) ∧ U64 p1.a2) ∧ let r1 : Int := ((((p1.a0 + p1.a1) % 18446744069414584321) + p1.a2) % 18446744069414584321)
((TField.mk p0).P = 18446744069414584321 ∧ U64 p1.a0 ∧ U64 r1) ∧ ((TField.mk p0).P = 18446744069414584321 ∧ U64 p1.a1 ∧ U64 r1) ∧ ((TField.mk p0).P = 18446744069414584321 ∧ U64 p1.a2 ∧ U64 r1) ∧ ((p1.a0 + r1) % 18446744069414584321) = r0.a0 ∧ ((p1.a1 + r1) % 18446744069414584321) = r0.a1 ∧ ((p1.a2 + r1) % 18446744069414584321) = r0.a2)) : kfh (p0, p1.a0, p1.a1, p1.a2, ()) (r0.a0, r0.a1, r0.a2, ()) := WPh.of_eq (by kernel_rfl) h
theorem bd78 : Callable Try.prog 78 := ⟨by rw [Try.func78]; kernel_rfl, by rw [Try.func78]; show some _ ≠ some _; decide⟩
theorem kw3 (p0 : Int) (p1 : TA3) (h : p0 = 18446744069414584321 ∧ S3 p1) : kfh (p0, p1.a0, p1.a1, p1.a2, ()) (((mixS p1).a0 : Int), ((mixS p1).a1 : Int), ((mixS p1).a2 : Int), ()) := by
  obtain ⟨hP, h0, h1, h2⟩ := h
  refine kz5 ?_
  simp only [hP]
  exact ⟨⟨by trivial, h0, h1⟩, ⟨by trivial, by omega, h2⟩, ⟨by trivial, h0, by omega⟩, ⟨by trivial, h1, by omega⟩, ⟨by trivial, h2, by omega⟩, rfl, rfl, rfl⟩
noncomputable def kng : Con TB.den := k2b.fnR (fun x => (fun (p0 : Int) (p1 : TA3) => p0 = 18446744069414584321 ∧ S3 p1) x.1 (TA3.mk x.2.1 x.2.2.1 x.2.2.2.1)) fun x => ((fun (p0 : Int) (p1 : TA3) => ((mixS p1).a0 : Int)) x.1 (TA3.mk x.2.1 x.2.2.1 x.2.2.2.1), (fun (p0 : Int) (p1 : TA3) => ((mixS p1).a1 : Int)) x.1 (TA3.mk x.2.1 x.2.2.1 x.2.2.2.1), (fun (p0 : Int) (p1 : TA3) => ((mixS p1).a2 : Int)) x.1 (TA3.mk x.2.1 x.2.2.1 x.2.2.2.1), ())
theorem kz7 : kng.Ok Try.prog TB := Con.ok_fn k2b bd78 fun x h => kxa (kw3 x.1 (TA3.mk x.2.1 x.2.2.1 x.2.2.2.1) h)
end Go.Proofs.Ytponaobpcdkggaa
namespace Go.Proofs.Ytponaobpcdkggaa
open Go Go.Bv Go.Cv Go.Md Go.RowKit
def k1m : Con TB.den := Con.mk0 54 [.one (.d (.int .u64)), .agg [.d (.int .u64), .d (.int .u64), .d (.int .u64)]] [] (.one (.agg [.d (.int .u64), .d (.int .u64), .d (.int .u64)])) []
abbrev klb := HL TB.den (hsT k1m.ins (hsOs k1m.pre))
abbrev k1t := HL TB.den (hsV k1m.res (hsOs k1m.post))
noncomputable def k2f : Cx TB := ⟨inf, [k8b, kpm, ki7, kkk, kwq, kng], [], 4, []⟩
noncomputable def k40 : Code := Try.f54.body.getD .skip
noncomputable def k7m : List ResultVar := Try.f54.results.toList
noncomputable def kue (o : k1t) : Exit → TSt TB.den → Prop := thenT TB (fun s => ghs TB [] s fun s => WP TB k2f 43 0 (cB (cB (cB (cB (cB k40))))) .no s (retTQ TB k2f k1m k7m o)) (retTQ TB k2f k1m k7m o)
def k1n : Tm := ⟨[0, 1, 2], [.cells [.d (.int .u64), .d (.int .u64), .d (.int .u64)], .cells [.d (.int .u64), .d (.int .u64), .d (.int .u64)], .cells [.d (.int .u64)]], [0, 3, 4, 5, 6, 17], [.one (.d (.int .u64)), .one (.ptr 0 0), .one (.ptr 1 0), .one (.ptr 2 0), .one (.d (.int .u64)), .one (.d (.int .i64))], 3⟩
noncomputable def kcn (o : k1t) (nx2 : HL TB.den k1n.hs → Prop) : Exit → TSt TB.den → Prop := thenT TB (fun s => k1n.mat TB 0 s nx2) (blockT TB 0 (kue o))
noncomputable def kkf (o : k1t) (nx2 : HL TB.den k1n.hs → Prop) : Exit → TSt TB.den → Prop := thenT TB (fun s => ghs TB [] s fun s => WP TB k2f 43 0 (cB (cB (cB (cA (cA (cB (cA (cB (cB (cB (cB k40))))))))))) .no s (kcn o nx2)) (kcn o nx2)
noncomputable def kua (o : k1t) (nx2 : HL TB.den k1n.hs → Prop) : Exit → TSt TB.den → Prop := thenT TB (fun s => ghs TB [] s fun s => WP TB k2f 43 0 (cB (cB (cA (cA (cB (cB (cA (cA (cB (cA (cB (cB (cB (cB k40)))))))))))))) .no s (blockT TB 1 (kkf o nx2))) (blockT TB 1 (kkf o nx2))
def k5f : Tm := ⟨[0, 1, 2], [.cells [.d (.int .u64), .d (.int .u64), .d (.int .u64)], .cells [.d (.int .u64), .d (.int .u64), .d (.int .u64)], .cells [.d (.int .u64)]], [0, 3, 4, 5, 6, 7, 17, 20], [.one (.d (.int .u64)), .one (.ptr 0 0), .one (.ptr 1 0), .one (.ptr 2 0), .one (.d (.int .u64)), .one (.d (.int .i64)), .one (.d (.int .i64)), .one (.d (.int .i64))], 3⟩
noncomputable def kug (o : k1t) (nx2 : HL TB.den k1n.hs → Prop) (nx1 : HL TB.den k5f.hs → Prop) : Exit → TSt TB.den → Prop := thenT TB (fun s => k5f.mat TB 0 s nx1) (blockT TB 2 (kua o nx2))
noncomputable def k7g (o : k1t) (nx2 : HL TB.den k1n.hs → Prop) (nx1 : HL TB.den k5f.hs → Prop) (i : HL TB.den k5f.hs) : Prop := WP TB k2f 43 0 (cA (cA (cB (cA (cB (cA (cA (cB (cB (cA (cA (cB (cA (cB (cB (cB (cB k40))))))))))))))))) .no (k5f.fill TB i) (kug o nx2 nx1)
noncomputable def ku3 (o : k1t) (nx2 : HL TB.den k1n.hs → Prop) : An TB := .lp [] k5f (k7g o nx2) fun nx1 => .no
noncomputable def kud (o : k1t) (nx2 : HL TB.den k1n.hs → Prop) : An TB := .nd [] .no [] (.nd [] (.nd [] .no [] (ku3 o nx2)) [] .no)
noncomputable def kj0 (o : k1t) (nx2 : HL TB.den k1n.hs → Prop) : An TB := .nd [] .no [] (.nd [] .no [] (.nd [] (kud o nx2) [] .no))
noncomputable def k7l (o : k1t) (nx2 : HL TB.den k1n.hs → Prop) (i : HL TB.den k1n.hs) : Prop := WP TB k2f 43 0 (cA (cA (cB (cA (cB (cB (cB (cB k40)))))))) (kj0 o nx2) (k1n.fill TB i) (kcn o nx2)
noncomputable def kt1 (o : k1t) : An TB := .lp [] k1n (k7l o) fun nx2 => (kj0 o nx2)
noncomputable def kt8 (o : k1t) : An TB := .nd [] .no [] (.nd [] (.nd [] .no [] (kt1 o)) [] .no)
noncomputable def kk3 (o : k1t) : An TB := .nd [] .no [] (.nd [] .no [] (.nd [] .no [] (kt8 o)))
noncomputable def kba (x : klb) (o : k1t) : Prop := WPh TB k2f 43 0 k40 (kk3 o) (k1m.st TB x) (retTQ TB k2f k1m k7m o)
set_option maxRecDepth 100000 in
theorem ksu (o : k1t) : OblH TB k2f 43 0 k40 (kk3 o) (retTQ TB k2f k1m k7m o) :=
  OblH.of_eq (X := (True ∧ (True ∧ ((True ∧ ((True ∧ True) ∧ True)) ∧ (True ∧ ((True ∧ ((∀ nx i, (k7l o) nx i = (k7l o) nx i) ∧ ∀ nx2 : HL TB.den k1n.hs → Prop, (True ∧ ((True ∧ True) ∧ ((True ∧ ((True ∧ ((∀ nx i, (k7g o nx2) nx i = (k7g o nx2) nx i) ∧ ∀ nx1 : HL TB.den k5f.hs → Prop, (True ∧ ((True ∧ True) ∧ ((True ∧ True) ∧ True))))) ∧ True)) ∧ True))))) ∧ (True ∧ True))))))) (by kernel_rfl) ⟨trivial, ⟨trivial, ⟨⟨trivial, ⟨⟨trivial, trivial⟩, trivial⟩⟩, ⟨trivial, ⟨⟨trivial, ⟨fun _ _ => rfl, fun _ => ⟨trivial, ⟨⟨trivial, trivial⟩, ⟨⟨trivial, ⟨⟨trivial, ⟨fun _ _ => rfl, fun _ => ⟨trivial, ⟨⟨trivial, trivial⟩, ⟨⟨trivial, trivial⟩, trivial⟩⟩⟩⟩⟩, trivial⟩⟩, trivial⟩⟩⟩⟩⟩, ⟨trivial, trivial⟩⟩⟩⟩⟩⟩
set_option maxRecDepth 100000 in
theorem kss {x : klb} {o : k1t} (h : kba x o) : SoundH Try.prog k1m.f ((k1m.args idf x).map (er TB)) ((k1m.obs idf x).map (erO TB)) (er TB (k1m.val idf o)) ((k1m.ops idf o).map (erO TB)) :=
  Con.soundH (c := k1m) (C := k2f) TBok ⟨inf_ok, (all_cons kb8 (all_cons kzy (all_cons ksw (all_cons krw (all_cons k19d (all_cons kz7 all_nil)))))), all_nil⟩ mix Try.func54 (show Try.f54.body = some k40 by kernel_rfl) (show Try.f54.ntmps = 43 by kernel_rfl) (show Try.f54.results.toList = k7m by kernel_rfl) rfl h (ksu o)
set_option maxRecDepth 100000 in
theorem ku7 {p0 : Int} {p1 : TA3} {r0 : TA3} (h :
(((TField.mk p0).P = 18446744069414584321) ∧ ((!true) = true →
 0 = r0.a0 ∧ 0 = r0.a1 ∧ 0 = r0.a2) ∧
((!true) = false →
((TField.mk p0).P = 18446744069414584321) ∧ Md.Loop (p0, (7 : Int), (0 : Int), p1.a0, p1.a1, p1.a2, (0 : Int), (0 : Int), (0 : Int), p0, ()) (k7l (r0.a0, r0.a1, r0.a2, ()))))) : kba (p0, p1.a0, p1.a1, p1.a2, ()) (r0.a0, r0.a1, r0.a2, ()) := WPh.of_eq (by kernel_rfl) h
def kk0 (r0 : TA3) (nx2 : HL TB.den k1n.hs → Prop) (k2 : Int → Int → Int → Int → Prop) (s0 : Int) (s6 : Int) (h1_0 : Int) (h1_1 : Int) (h1_2 : Int) (h2_0 : Int) (s17 : Int) (h0_0 : Int) (h0_1 : Int) (h0_2 : Int) : Prop :=
(decide (s17 < 8) = true →
 Md.Loop (s0, s6, s17, s17, (0 : Int), h0_0, h0_1, h0_2, h1_0, h1_1, h1_2, h2_0, ()) (k7g (r0.a0, r0.a1, r0.a2, ()) nx2)) ∧
(decide (s17 < 8) = false →
 h0_0 = r0.a0 ∧ h0_1 = r0.a1 ∧ h0_2 = r0.a2)
set_option maxRecDepth 100000 in
theorem ksr {r0 : TA3} {s0 : Int} {s6 : Int} {h1_0 : Int} {h1_1 : Int} {h1_2 : Int} {h2_0 : Int} {s17 : Int} {h0_0 : Int} {h0_1 : Int} {h0_2 : Int} (inv : Int → Int → Int → Int → Prop) (μ : Int → Int → Int → Int → Nat) (h0 : inv s17 h0_0 h0_1 h0_2) (hs : ∀ (s17 : Int) (h0_0 : Int) (h0_1 : Int) (h0_2 : Int), inv s17 h0_0 h0_1 h0_2 → kk0 r0 (fun s : Int × Int × Int × Int × Int × Int × Int × Int × Int × Int × Unit => ((s.1 = s0 ∧ s.2.1 = s6 ∧ s.2.2.2.2.2.2.1 = h1_0 ∧ s.2.2.2.2.2.2.2.1 = h1_1 ∧ s.2.2.2.2.2.2.2.2.1 = h1_2 ∧ s.2.2.2.2.2.2.2.2.2.1 = h2_0) ∧ inv s.2.2.1 s.2.2.2.1 s.2.2.2.2.1 s.2.2.2.2.2.1) ∧ μ s.2.2.1 s.2.2.2.1 s.2.2.2.2.1 s.2.2.2.2.2.1 < μ s17 h0_0 h0_1 h0_2) (fun s17q h0_0q h0_1q h0_2q => inv s17q h0_0q h0_1q h0_2q ∧ μ s17q h0_0q h0_1q h0_2q < μ s17 h0_0 h0_1 h0_2) s0 s6 h1_0 h1_1 h1_2 h2_0 s17 h0_0 h0_1 h0_2) : Md.Loop (s0, s6, s17, h0_0, h0_1, h0_2, h1_0, h1_1, h1_2, h2_0, ()) (k7l (r0.a0, r0.a1, r0.a2, ())) :=
  ⟨⟨fun s : Int × Int × Int × Int × Int × Int × Int × Int × Int × Int × Unit => (s.1 = s0 ∧ s.2.1 = s6 ∧ s.2.2.2.2.2.2.1 = h1_0 ∧ s.2.2.2.2.2.2.2.1 = h1_1 ∧ s.2.2.2.2.2.2.2.2.1 = h1_2 ∧ s.2.2.2.2.2.2.2.2.2.1 = h2_0) ∧ inv s.2.2.1 s.2.2.2.1 s.2.2.2.2.1 s.2.2.2.2.2.1, fun s : Int × Int × Int × Int × Int × Int × Int × Int × Int × Int × Unit => μ s.2.2.1 s.2.2.2.1 s.2.2.2.2.1 s.2.2.2.2.2.1, ⟨⟨rfl, rfl, rfl, rfl, rfl, rfl⟩, h0⟩, fun (s0p, s6p, s17p, h0_0p, h0_1p, h0_2p, h1_0p, h1_1p, h1_2p, h2_0p, ()) ⟨⟨eq0, eq1, eq2, eq3, eq4, eq5⟩, hi⟩ => by
    have eq0 : s0p = s0 := eq0; subst s0p; have eq1 : s6p = s6 := eq1; subst s6p; have eq2 : h1_0p = h1_0 := eq2; subst h1_0p; have eq3 : h1_1p = h1_1 := eq3; subst h1_1p; have eq4 : h1_2p = h1_2 := eq4; subst h1_2p; have eq5 : h2_0p = h2_0 := eq5; subst h2_0p; exact mpr_of (by kernel_rfl) ((congrArg (fun k => kk0 r0 (fun s : Int × Int × Int × Int × Int × Int × Int × Int × Int × Int × Unit => ((s.1 = s0 ∧ s.2.1 = s6 ∧ s.2.2.2.2.2.2.1 = h1_0 ∧ s.2.2.2.2.2.2.2.1 = h1_1 ∧ s.2.2.2.2.2.2.2.2.1 = h1_2 ∧ s.2.2.2.2.2.2.2.2.2.1 = h2_0) ∧ inv s.2.2.1 s.2.2.2.1 s.2.2.2.2.1 s.2.2.2.2.2.1) ∧ μ s.2.2.1 s.2.2.2.1 s.2.2.2.2.1 s.2.2.2.2.2.1 < μ s17p h0_0p h0_1p h0_2p) k s0 s6 h1_0 h1_1 h1_2 h2_0 s17p h0_0p h0_1p h0_2p) (lpk4 (⟨rfl, rfl, rfl, rfl, rfl, rfl⟩ : s0 = s0 ∧ s6 = s6 ∧ h1_0 = h1_0 ∧ h1_1 = h1_1 ∧ h1_2 = h1_2 ∧ h2_0 = h2_0) inv (fun s17q h0_0q h0_1q h0_2q => μ s17q h0_0q h0_1q h0_2q < μ s17p h0_0p h0_1p h0_2p))).mpr (hs s17p h0_0p h0_1p h0_2p hi))⟩⟩
def kk9 (r0 : TA3) (nx2 : HL TB.den k1n.hs → Prop) (k1 : Int → Int → Int → Int → Prop) (s0 : Int) (s6 : Int) (s7 : Int) (s17 : Int) (h1_0 : Int) (h1_1 : Int) (h1_2 : Int) (h2_0 : Int) (s20 : Int) (h0_0 : Int) (h0_1 : Int) (h0_2 : Int) : Prop :=
(decide (s20 < 3) = true →
(0 ≤ s20 ∧ s20 < (3 : Int)) ∧ (0 ≤ s20 ∧ s20 < (3 : Int)) ∧ (s0 = 18446744069414584321 ∧ (0 ≤ s7 ∧ s7 < 8) ∧ 0 ≤ s20 ∧ s20 < 3) ∧ ((TField.mk h2_0).P = 18446744069414584321 ∧ U64 (ix [h0_0, h0_1, h0_2] s20) ∧ U64 (rc s7 s20)) ∧ let r1 : Int := (((ix [h0_0, h0_1, h0_2] s20) + (rc s7 s20)) % 18446744069414584321)
((TField.mk h2_0).P = 18446744069414584321 ∧ U64 r1 ∧ U64 s6) ∧ (0 ≤ s20 ∧ s20 < (3 : Int)) ∧ (0 ≤ s20 ∧ s20 < (3 : Int)) ∧ k1 (IntKind.i64.wrap (s20 + 1) : Int) ((bif decide (s20 = (0 : Int)) then (pw (r1 % 18446744069414584321) s6) else h0_0) : Int) ((bif decide (s20 = (1 : Int)) then (pw (r1 % 18446744069414584321) s6) else h0_1) : Int) ((bif decide (s20 = (2 : Int)) then (pw (r1 % 18446744069414584321) s6) else h0_2) : Int)) ∧
(decide (s20 < 3) = false →
(s0 = 18446744069414584321 ∧ S3 (TA3.mk h0_0 h0_1 h0_2)) ∧ nx2 (s0, s6, (IntKind.i64.wrap (s17 + 1) : Int), ((mixS (TA3.mk h0_0 h0_1 h0_2)).a0 : Int), ((mixS (TA3.mk h0_0 h0_1 h0_2)).a1 : Int), ((mixS (TA3.mk h0_0 h0_1 h0_2)).a2 : Int), h1_0, h1_1, h1_2, h2_0, ()))
set_option maxRecDepth 100000 in
theorem kt2 {r0 : TA3} {nx2 : HL TB.den k1n.hs → Prop} {s0 : Int} {s6 : Int} {s7 : Int} {s17 : Int} {h1_0 : Int} {h1_1 : Int} {h1_2 : Int} {h2_0 : Int} {s20 : Int} {h0_0 : Int} {h0_1 : Int} {h0_2 : Int} (inv : Int → Int → Int → Int → Prop) (μ : Int → Int → Int → Int → Nat) (h0 : inv s20 h0_0 h0_1 h0_2) (hs : ∀ (s20 : Int) (h0_0 : Int) (h0_1 : Int) (h0_2 : Int), inv s20 h0_0 h0_1 h0_2 → kk9 r0 nx2 (fun s20q h0_0q h0_1q h0_2q => inv s20q h0_0q h0_1q h0_2q ∧ μ s20q h0_0q h0_1q h0_2q < μ s20 h0_0 h0_1 h0_2) s0 s6 s7 s17 h1_0 h1_1 h1_2 h2_0 s20 h0_0 h0_1 h0_2) : Md.Loop (s0, s6, s7, s17, s20, h0_0, h0_1, h0_2, h1_0, h1_1, h1_2, h2_0, ()) (k7g (r0.a0, r0.a1, r0.a2, ()) nx2) :=
  ⟨⟨fun s : Int × Int × Int × Int × Int × Int × Int × Int × Int × Int × Int × Int × Unit => (s.1 = s0 ∧ s.2.1 = s6 ∧ s.2.2.1 = s7 ∧ s.2.2.2.1 = s17 ∧ s.2.2.2.2.2.2.2.2.1 = h1_0 ∧ s.2.2.2.2.2.2.2.2.2.1 = h1_1 ∧ s.2.2.2.2.2.2.2.2.2.2.1 = h1_2 ∧ s.2.2.2.2.2.2.2.2.2.2.2.1 = h2_0) ∧ inv s.2.2.2.2.1 s.2.2.2.2.2.1 s.2.2.2.2.2.2.1 s.2.2.2.2.2.2.2.1, fun s : Int × Int × Int × Int × Int × Int × Int × Int × Int × Int × Int × Int × Unit => μ s.2.2.2.2.1 s.2.2.2.2.2.1 s.2.2.2.2.2.2.1 s.2.2.2.2.2.2.2.1, ⟨⟨rfl, rfl, rfl, rfl, rfl, rfl, rfl, rfl⟩, h0⟩, fun (s0p, s6p, s7p, s17p, s20p, h0_0p, h0_1p, h0_2p, h1_0p, h1_1p, h1_2p, h2_0p, ()) ⟨⟨eq0, eq1, eq2, eq3, eq4, eq5, eq6, eq7⟩, hi⟩ => by
    have eq0 : s0p = s0 := eq0; subst s0p; have eq1 : s6p = s6 := eq1; subst s6p; have eq2 : s7p = s7 := eq2; subst s7p; have eq3 : s17p = s17 := eq3; subst s17p; have eq4 : h1_0p = h1_0 := eq4; subst h1_0p; have eq5 : h1_1p = h1_1 := eq5; subst h1_1p; have eq6 : h1_2p = h1_2 := eq6; subst h1_2p; have eq7 : h2_0p = h2_0 := eq7; subst h2_0p; exact mpr_of (by kernel_rfl) ((congrArg (fun k => kk9 r0 nx2 k s0 s6 s7 s17 h1_0 h1_1 h1_2 h2_0 s20p h0_0p h0_1p h0_2p) (lpk4 (⟨rfl, rfl, rfl, rfl, rfl, rfl, rfl, rfl⟩ : s0 = s0 ∧ s6 = s6 ∧ s7 = s7 ∧ s17 = s17 ∧ h1_0 = h1_0 ∧ h1_1 = h1_1 ∧ h1_2 = h1_2 ∧ h2_0 = h2_0) inv (fun s20q h0_0q h0_1q h0_2q => μ s20q h0_0q h0_1q h0_2q < μ s20p h0_0p h0_1p h0_2p))).mpr (hs s20p h0_0p h0_1p h0_2p hi))⟩⟩
theorem bd54 : Callable Try.prog 54 := ⟨by rw [Try.func54]; kernel_rfl, by rw [Try.func54]; show some _ ≠ some _; decide⟩
theorem krl (p0 : Int) (p1 : TA3) (h : p0 = 18446744069414584321 ∧ S3 p1) : kba (p0, p1.a0, p1.a1, p1.a2, ()) (((permS p1).a0 : Int), ((permS p1).a1 : Int), ((permS p1).a2 : Int), ()) := by
  obtain ⟨hP, hs⟩ := h
  subst hP
  refine ku7 ⟨rfl, fun h => by simp at h, fun _ => ⟨rfl, ?_⟩⟩
  refine ksr (r0 := permS p1) (fun n a b c => 0 ≤ n ∧ n ≤ 8 ∧ (⟨a, b, c⟩ : TA3) = rnds n.toNat p1 ∧ S3 ⟨a, b, c⟩) (fun n _ _ _ => (8 - n).toNat) ⟨by omega, by omega, rfl, hs⟩ ?_
  rintro n a b c ⟨g0, g1, g2, g3⟩
  refine ⟨fun h => ?_, fun h => ?_⟩
  · have h := of_decide_eq_true h
    refine kt2 (r0 := permS p1) (fun i x y z => (i = 0 ∧ x = a ∧ y = b ∧ z = c) ∨ (i = 1 ∧ x = pw ((a + rc n 0) % 18446744069414584321) 7 ∧ y = b ∧ z = c) ∨ (i = 2 ∧ x = pw ((a + rc n 0) % 18446744069414584321) 7 ∧ y = pw ((b + rc n 1) % 18446744069414584321) 7 ∧ z = c) ∨ (i = 3 ∧ x = pw ((a + rc n 0) % 18446744069414584321) 7 ∧ y = pw ((b + rc n 1) % 18446744069414584321) 7 ∧ z = pw ((c + rc n 2) % 18446744069414584321) 7)) (fun i _ _ _ => (3 - i).toNat) (.inl ⟨rfl, rfl, rfl, rfl⟩) ?_
    intro i x y z hi
    have hrc : ∀ k, U64 (rc n k) := fun k => by unfold rc; omega
    have hpw : ∀ k e, 0 ≤ pw k e ∧ pw k e < 18446744069414584321 := fun k e => ⟨Int.emod_nonneg _ (by omega), Int.emod_lt_of_pos _ (by omega)⟩
    obtain ⟨h3a, h3b, h3c⟩ := g3
    refine ⟨fun hh => ?_, fun hh => ?_⟩
    · have hh := of_decide_eq_true hh
      rcases hi with ⟨rfl, rfl, rfl, rfl⟩ | ⟨rfl, rfl, rfl, rfl⟩ | ⟨rfl, rfl, rfl, rfl⟩ | ⟨rfl, _⟩
      · refine ⟨by omega, by omega, ⟨rfl, by omega, by omega⟩, ⟨rfl, h3a, hrc _⟩, ⟨rfl, ?_, by omega⟩, by omega, by omega, .inr (.inl ⟨rfl, ?_, rfl, rfl⟩), by decide⟩
        · exact ⟨Int.emod_nonneg _ (by omega), Int.lt_trans (Int.emod_lt_of_pos _ (by omega)) (by omega)⟩
        · show pw ((x + rc n 0) % 18446744069414584321 % 18446744069414584321) 7 = _
          rw [Int.emod_emod_of_dvd _ (Int.dvd_refl _)]
      · refine ⟨by omega, by omega, ⟨rfl, by omega, by omega⟩, ⟨rfl, h3b, hrc _⟩, ⟨rfl, ?_, by omega⟩, by omega, by omega, .inr (.inr (.inl ⟨rfl, rfl, ?_, rfl⟩)), by decide⟩
        · exact ⟨Int.emod_nonneg _ (by omega), Int.lt_trans (Int.emod_lt_of_pos _ (by omega)) (by omega)⟩
        · show pw ((y + rc n 1) % 18446744069414584321 % 18446744069414584321) 7 = _
          rw [Int.emod_emod_of_dvd _ (Int.dvd_refl _)]
      · refine ⟨by omega, by omega, ⟨rfl, by omega, by omega⟩, ⟨rfl, h3c, hrc _⟩, ⟨rfl, ?_, by omega⟩, by omega, by omega, .inr (.inr (.inr ⟨rfl, rfl, rfl, ?_⟩)), by decide⟩
        · exact ⟨Int.emod_nonneg _ (by omega), Int.lt_trans (Int.emod_lt_of_pos _ (by omega)) (by omega)⟩
        · show pw ((z + rc n 2) % 18446744069414584321 % 18446744069414584321) 7 = _
          rw [Int.emod_emod_of_dvd _ (Int.dvd_refl _)]
      · omega
    · have hh := of_decide_eq_false hh
      rcases hi with ⟨rfl, _⟩ | ⟨rfl, _⟩ | ⟨rfl, _⟩ | ⟨rfl, rfl, rfl, rfl⟩
      · omega
      · omega
      · omega
      · have e : rnds (n + 1).toNat p1 = rnd ⟨a, b, c⟩ n := by
          rw [show (n + 1).toNat = n.toNat + 1 by omega]
          show rnd (rnds n.toNat p1) (n.toNat : Int) = _
          rw [← g2, show (n.toNat : Int) = n by omega]
        have hS : S3 (rnds (n + 1).toNat p1) := by
          rw [e]
          unfold rnd mixS S3
          dsimp only
          omega
        have hinc : IntKind.i64.wrap (n + 1) = n + 1 := wi _ (by omega) (by omega)
        rw [hinc]
        refine ⟨⟨rfl, by unfold S3; have := hpw ((a + rc n 0) % 18446744069414584321) 7; have := hpw ((b + rc n 1) % 18446744069414584321) 7; have := hpw ((c + rc n 2) % 18446744069414584321) 7; dsimp only; omega⟩, ⟨⟨rfl, rfl, rfl, rfl, rfl, rfl⟩, (?_ : 0 ≤ n + 1 ∧ n + 1 ≤ 8 ∧ _ ∧ _)⟩, (?_ : (8 - (n + 1)).toNat < (8 - n).toNat)⟩
        · refine ⟨by omega, by omega, e.symm, ?_⟩
          rw [e] at hS
          exact hS
        · omega
  · have h := of_decide_eq_false h
    rw [show n = 8 by omega] at g2
    have g2 : (⟨a, b, c⟩ : TA3) = permS p1 := g2
    rw [← g2]
    exact ⟨rfl, rfl, rfl⟩
noncomputable def kj2 : Con TB.den := k1m.fnR (fun x => (fun (p0 : Int) (p1 : TA3) => p0 = 18446744069414584321 ∧ S3 p1) x.1 (TA3.mk x.2.1 x.2.2.1 x.2.2.2.1)) fun x => ((fun (p0 : Int) (p1 : TA3) => ((permS p1).a0 : Int)) x.1 (TA3.mk x.2.1 x.2.2.1 x.2.2.2.1), (fun (p0 : Int) (p1 : TA3) => ((permS p1).a1 : Int)) x.1 (TA3.mk x.2.1 x.2.2.1 x.2.2.2.1), (fun (p0 : Int) (p1 : TA3) => ((permS p1).a2 : Int)) x.1 (TA3.mk x.2.1 x.2.2.1 x.2.2.2.1), ())
theorem kuk : kj2.Ok Try.prog TB := Con.ok_fn k1m bd54 fun x h => kss (krl x.1 (TA3.mk x.2.1 x.2.2.1 x.2.2.2.1) h)
end Go.Proofs.Ytponaobpcdkggaa
namespace Go.Proofs.Ytponaobpcdkggaa
open Go Go.Bv Go.Cv Go.Md Go.RowKit
def k2c : Con TB.den := Con.mk0 45 [.one (.d (.int .u64)), .one (.d (.int .u64)), .one (.d (.sl (.int .u64)))] [] (.one (.agg [.d (.int .u64), .d (.int .u64), .d (.int .u64)])) []
abbrev ktl := HL TB.den (hsT k2c.ins (hsOs k2c.pre))
abbrev k45 := HL TB.den (hsV k2c.res (hsOs k2c.post))
noncomputable def k4p : Cx TB := ⟨inf, [kwo, kkk, kj2], [], 4, []⟩
noncomputable def k6q : Code := Try.f45.body.getD .skip
noncomputable def kbi : List ResultVar := Try.f45.results.toList
noncomputable def k128 (o : k45) : Exit → TSt TB.den → Prop := thenT TB (fun s => ghs TB [] s fun s => WP TB k4p 61 0 (cB (cB (cB (cB (cB k6q))))) .no s (retTQ TB k4p k2c kbi o)) (retTQ TB k4p k2c kbi o)
def k3t : Tm := ⟨[0, 1, 38], [.cells [.d (.int .u64), .d (.int .u64), .d (.int .u64)], .cells [.d (.int .u64)], .cells [.d (.int .u64), .d (.int .u64), .d (.int .u64)]], [0, 2, 6, 7, 8, 9], [.one (.d (.int .u64)), .one (.d (.sl (.int .u64))), .one (.ptr 0 0), .one (.ptr 1 0), .one (.ptr 2 0), .one (.d (.int .i64))], 46⟩
noncomputable def kl3 (o : k45) (nx1 : HL TB.den k3t.hs → Prop) : Exit → TSt TB.den → Prop := thenT TB (fun s => k3t.mat TB 0 s nx1) (blockT TB 0 (k128 o))
noncomputable def k120 (o : k45) (nx1 : HL TB.den k3t.hs → Prop) : Exit → TSt TB.den → Prop := thenT TB (fun s => ghs TB [] s fun s => WP TB k4p 61 0 (cB (cB (cA (cA (cB (cA (cB (cB (cB (cB k6q)))))))))) .no s (kl3 o nx1)) (kl3 o nx1)
def kd8 : Tm := ⟨[0, 1, 38], [.cells [.d (.int .u64), .d (.int .u64), .d (.int .u64)], .cells [.d (.int .u64)], .cells [.d (.int .u64), .d (.int .u64), .d (.int .u64)]], [0, 2, 6, 7, 8, 9], [.one (.d (.int .u64)), .one (.d (.sl (.int .u64))), .one (.ptr 0 0), .one (.ptr 1 0), .one (.ptr 2 0), .one (.d (.int .i64))], 86⟩
noncomputable def kqc (o : k45) (nx1 : HL TB.den k3t.hs → Prop) (i : HL TB.den kd8.hs) : Prop := ghs TB [] (kd8.fill TB i) fun s => WP TB k4p 61 0 (cB (cB (cA (cA (cB (cA (cA (cB (cA (cB (cB (cB (cB k6q))))))))))))) .no s (blockT TB 1 (k120 o nx1))
structure k91 (o : k45) (nx1 : HL TB.den k3t.hs → Prop) (i : HL TB.den kd8.hs) : Prop where
  h : kqc o nx1 i
noncomputable def ksn (o : k45) (nx1 : HL TB.den k3t.hs → Prop) : An TB := .nd [] .no [] (.jn kd8 (k91 o nx1) [] .no [] .no)
noncomputable def kbc (o : k45) (nx1 : HL TB.den k3t.hs → Prop) (i : HL TB.den k3t.hs) : Prop := WP TB k4p 61 0 (cA (cA (cB (cA (cB (cB (cB (cB k6q)))))))) (.nd [] .no [] (.nd [] (ksn o nx1) [] .no)) (k3t.fill TB i) (kl3 o nx1)
noncomputable def k115 (o : k45) : An TB := .lp [] k3t (kbc o) fun nx1 => (.nd [] .no [] (.nd [] (ksn o nx1) [] .no))
noncomputable def k11x (o : k45) : An TB := .nd [] .no [] (.nd [] (.nd [] .no [] (k115 o)) [] .no)
noncomputable def ksb (o : k45) : An TB := .nd [] .no [] (.nd [] .no [] (.nd [] .no [] (k11x o)))
noncomputable def kha (x : ktl) (o : k45) : Prop := WPh TB k4p 61 0 k6q (ksb o) (k2c.st TB x) (retTQ TB k4p k2c kbi o)
set_option maxRecDepth 100000 in
theorem kzo (o : k45) : OblH TB k4p 61 0 k6q (ksb o) (retTQ TB k4p k2c kbi o) :=
  OblH.of_eq (X := (True ∧ (True ∧ (True ∧ ((True ∧ ((True ∧ True) ∧ True)) ∧ ((True ∧ ((∀ nx i, (kbc o) nx i = (kbc o) nx i) ∧ ∀ nx1 : HL TB.den k3t.hs → Prop, ((True ∧ (True ∧ True)) ∧ ((True ∧ ((True ∧ (True ∧ True)) ∧ (∀ i, (k91 o nx1) i = (kqc o nx1) i) ∧ True)) ∧ True)))) ∧ (True ∧ True))))))) (by kernel_rfl) ⟨trivial, ⟨trivial, ⟨trivial, ⟨⟨trivial, ⟨⟨trivial, trivial⟩, trivial⟩⟩, ⟨⟨trivial, ⟨fun _ _ => rfl, fun _ => ⟨⟨trivial, ⟨trivial, trivial⟩⟩, ⟨⟨trivial, ⟨⟨trivial, ⟨trivial, trivial⟩⟩, fun _ => propext ⟨fun h => h.1, fun h => ⟨h⟩⟩, trivial⟩⟩, trivial⟩⟩⟩⟩, ⟨trivial, trivial⟩⟩⟩⟩⟩⟩
set_option maxRecDepth 100000 in
theorem kzs {x : ktl} {o : k45} (h : kha x o) : SoundH Try.prog k2c.f ((k2c.args idf x).map (er TB)) ((k2c.obs idf x).map (erO TB)) (er TB (k2c.val idf o)) ((k2c.ops idf o).map (erO TB)) :=
  Con.soundH (c := k2c) (C := k4p) TBok ⟨inf_ok, (all_cons k19m (all_cons krw (all_cons kuk all_nil))), all_nil⟩ mix Try.func45 (show Try.f45.body = some k6q by kernel_rfl) (show Try.f45.ntmps = 61 by kernel_rfl) (show Try.f45.results.toList = kbi by kernel_rfl) rfl h (kzo o)
set_option maxRecDepth 100000 in
theorem k12a {p0 : Int} {p1 : Int} {p2 : List Int} {r0 : TA3} (h :
(((TField.mk p0).P = 18446744069414584321 ∧ U64 p1 ∧ U64 (65536 : Int)) ∧ let r1 : Int := (p1 * (65536 : Int) % 18446744069414584321)
((TField.mk p0).P = 18446744069414584321 ∧ U64 r1 ∧ U64 (IntKind.u64.wrap (p2.length : Int))) ∧ let r2 : Int := ((r1 + (IntKind.u64.wrap (p2.length : Int))) % 18446744069414584321)
(((p2.length : Int) == 0) = true →
(p0 = 18446744069414584321 ∧ S3 (TA3.mk 0 0 r2)) ∧ (permS (TA3.mk 0 0 r2)).a0 = r0.a0 ∧ (permS (TA3.mk 0 0 r2)).a1 = r0.a1 ∧ (permS (TA3.mk 0 0 r2)).a2 = r0.a2) ∧
(((p2.length : Int) == 0) = false →
 Md.Loop (p0, p2, (0 : Int), (0 : Int), (0 : Int), (0 : Int), p0, (0 : Int), (0 : Int), r2, ()) (kbc (r0.a0, r0.a1, r0.a2, ()))))) : kha (p0, p1, p2, ()) (r0.a0, r0.a1, r0.a2, ()) := WPh.of_eq (by kernel_rfl) h
set_option maxRecDepth 100000 in
theorem kxm {r0 : TA3} {nx1 : HL TB.den k3t.hs → Prop} {s0 : Int} {s2 : List Int} {s9 : Int} {h0_0 : Int} {h0_1 : Int} {h0_2 : Int} {h1_0 : Int} {h38_0 : Int} {h38_1 : Int} {h38_2 : Int} (h :
((s0 = 18446744069414584321 ∧ S3 (TA3.mk h38_0 h38_1 h38_2)) ∧ nx1 (s0, s2, (IntKind.i64.wrap (s9 + 2) : Int), h0_0, h0_1, h0_2, h1_0, ((permS (TA3.mk h38_0 h38_1 h38_2)).a0 : Int), ((permS (TA3.mk h38_0 h38_1 h38_2)).a1 : Int), ((permS (TA3.mk h38_0 h38_1 h38_2)).a2 : Int), ()))) : k91 (r0.a0, r0.a1, r0.a2, ()) nx1 (s0, s2, s9, h0_0, h0_1, h0_2, h1_0, h38_0, h38_1, h38_2, ()) := ⟨mpr_of (by kernel_rfl) h⟩
def kry (r0 : TA3) (nx1 : HL TB.den k3t.hs → Prop) (k1 : Int → Int → Int → Int → Prop) (s0 : Int) (s2 : List Int) (h0_0 : Int) (h0_1 : Int) (h0_2 : Int) (h1_0 : Int) (s9 : Int) (h38_0 : Int) (h38_1 : Int) (h38_2 : Int) : Prop :=
(decide (s9 < (s2.length : Int)) = true →
(0 ≤ s9) ∧ s9 < (s2.length : Int) ∧ ((TField.mk h1_0).P = 18446744069414584321 ∧ U64 h38_0 ∧ U64 (ix s2 s9)) ∧ let r3 : Int := ((h38_0 + (ix s2 s9)) % 18446744069414584321)
 let v4 : Bool := decide ((IntKind.i64.wrap (s9 + 1)) < (s2.length : Int))
(v4 = true →
(0 ≤ IntKind.i64.wrap (s9 + 1)) ∧ IntKind.i64.wrap (s9 + 1) < (s2.length : Int) ∧ ((TField.mk h1_0).P = 18446744069414584321 ∧ U64 h38_1 ∧ U64 (ix s2 (IntKind.i64.wrap (s9 + 1)))) ∧ let r5 : Int := ((h38_1 + (ix s2 (IntKind.i64.wrap (s9 + 1)))) % 18446744069414584321)
 k91 (r0.a0, r0.a1, r0.a2, ()) nx1 (s0, s2, s9, h0_0, h0_1, h0_2, h1_0, r3, r5, h38_2, ())) ∧
(v4 = false →
 k91 (r0.a0, r0.a1, r0.a2, ()) nx1 (s0, s2, s9, h0_0, h0_1, h0_2, h1_0, r3, h38_1, h38_2, ()))) ∧
(decide (s9 < (s2.length : Int)) = false →
 h38_0 = r0.a0 ∧ h38_1 = r0.a1 ∧ h38_2 = r0.a2)
set_option maxRecDepth 100000 in
theorem kzu {r0 : TA3} {s0 : Int} {s2 : List Int} {h0_0 : Int} {h0_1 : Int} {h0_2 : Int} {h1_0 : Int} {s9 : Int} {h38_0 : Int} {h38_1 : Int} {h38_2 : Int} (inv : Int → Int → Int → Int → Prop) (μ : Int → Int → Int → Int → Nat) (h0 : inv s9 h38_0 h38_1 h38_2) (hs : ∀ (s9 : Int) (h38_0 : Int) (h38_1 : Int) (h38_2 : Int), inv s9 h38_0 h38_1 h38_2 → kry r0 (fun s : Int × (List Int) × Int × Int × Int × Int × Int × Int × Int × Int × Unit => ((s.1 = s0 ∧ s.2.1 = s2 ∧ s.2.2.2.1 = h0_0 ∧ s.2.2.2.2.1 = h0_1 ∧ s.2.2.2.2.2.1 = h0_2 ∧ s.2.2.2.2.2.2.1 = h1_0) ∧ inv s.2.2.1 s.2.2.2.2.2.2.2.1 s.2.2.2.2.2.2.2.2.1 s.2.2.2.2.2.2.2.2.2.1) ∧ μ s.2.2.1 s.2.2.2.2.2.2.2.1 s.2.2.2.2.2.2.2.2.1 s.2.2.2.2.2.2.2.2.2.1 < μ s9 h38_0 h38_1 h38_2) (fun s9q h38_0q h38_1q h38_2q => inv s9q h38_0q h38_1q h38_2q ∧ μ s9q h38_0q h38_1q h38_2q < μ s9 h38_0 h38_1 h38_2) s0 s2 h0_0 h0_1 h0_2 h1_0 s9 h38_0 h38_1 h38_2) : Md.Loop (s0, s2, s9, h0_0, h0_1, h0_2, h1_0, h38_0, h38_1, h38_2, ()) (kbc (r0.a0, r0.a1, r0.a2, ())) :=
  ⟨⟨fun s : Int × (List Int) × Int × Int × Int × Int × Int × Int × Int × Int × Unit => (s.1 = s0 ∧ s.2.1 = s2 ∧ s.2.2.2.1 = h0_0 ∧ s.2.2.2.2.1 = h0_1 ∧ s.2.2.2.2.2.1 = h0_2 ∧ s.2.2.2.2.2.2.1 = h1_0) ∧ inv s.2.2.1 s.2.2.2.2.2.2.2.1 s.2.2.2.2.2.2.2.2.1 s.2.2.2.2.2.2.2.2.2.1, fun s : Int × (List Int) × Int × Int × Int × Int × Int × Int × Int × Int × Unit => μ s.2.2.1 s.2.2.2.2.2.2.2.1 s.2.2.2.2.2.2.2.2.1 s.2.2.2.2.2.2.2.2.2.1, ⟨⟨rfl, rfl, rfl, rfl, rfl, rfl⟩, h0⟩, fun (s0p, s2p, s9p, h0_0p, h0_1p, h0_2p, h1_0p, h38_0p, h38_1p, h38_2p, ()) ⟨⟨eq0, eq1, eq2, eq3, eq4, eq5⟩, hi⟩ => by
    have eq0 : s0p = s0 := eq0; subst s0p; have eq1 : s2p = s2 := eq1; subst s2p; have eq2 : h0_0p = h0_0 := eq2; subst h0_0p; have eq3 : h0_1p = h0_1 := eq3; subst h0_1p; have eq4 : h0_2p = h0_2 := eq4; subst h0_2p; have eq5 : h1_0p = h1_0 := eq5; subst h1_0p; exact mpr_of (by kernel_rfl) ((congrArg (fun k => kry r0 (fun s : Int × (List Int) × Int × Int × Int × Int × Int × Int × Int × Int × Unit => ((s.1 = s0 ∧ s.2.1 = s2 ∧ s.2.2.2.1 = h0_0 ∧ s.2.2.2.2.1 = h0_1 ∧ s.2.2.2.2.2.1 = h0_2 ∧ s.2.2.2.2.2.2.1 = h1_0) ∧ inv s.2.2.1 s.2.2.2.2.2.2.2.1 s.2.2.2.2.2.2.2.2.1 s.2.2.2.2.2.2.2.2.2.1) ∧ μ s.2.2.1 s.2.2.2.2.2.2.2.1 s.2.2.2.2.2.2.2.2.1 s.2.2.2.2.2.2.2.2.2.1 < μ s9p h38_0p h38_1p h38_2p) k s0 s2 h0_0 h0_1 h0_2 h1_0 s9p h38_0p h38_1p h38_2p) (lpk4 (⟨rfl, rfl, rfl, rfl, rfl, rfl⟩ : s0 = s0 ∧ s2 = s2 ∧ h0_0 = h0_0 ∧ h0_1 = h0_1 ∧ h0_2 = h0_2 ∧ h1_0 = h1_0) inv (fun s9q h38_0q h38_1q h38_2q => μ s9q h38_0q h38_1q h38_2q < μ s9p h38_0p h38_1p h38_2p))).mpr (hs s9p h38_0p h38_1p h38_2p hi))⟩⟩
theorem bd45 : Callable Try.prog 45 := ⟨by rw [Try.func45]; kernel_rfl, by rw [Try.func45]; show some _ ≠ some _; decide⟩
theorem kya (p0 : Int) (p1 : Int) (p2 : List Int) (h : p0 = 18446744069414584321 ∧ U64 p1 ∧ Us p2 ∧ p2.length ≤ 1099511627776) : kha (p0, p1, p2, ()) (((absS p1 p2).a0 : Int), ((absS p1 p2).a1 : Int), ((absS p1 p2).a2 : Int), ()) := by
  obtain ⟨hP, h1, h2, h3⟩ := h
  subst hP
  have hp : ∀ s : TA3, S3 (permS s) := fun s => by
    show S3 (rnd _ _)
    unfold rnd mixS S3
    dsimp only
    omega
  have hi : S3 (absI p1 p2) := by unfold absI S3; dsimp only; omega
  have e : IntKind.u64.wrap (p2.length : Int) = p2.length := wu _ (by omega) (by omega)
  have em : (p1 * 65536 % 18446744069414584321 + (p2.length : Int)) % 18446744069414584321 = (absI p1 p2).a2 := rfl
  refine k12a ?_
  rw [e]
  refine ⟨⟨rfl, h1, by omega⟩, ⟨rfl, by omega, by omega⟩, fun h => ?_, fun h => ?_⟩
  · have h : p2 = [] := by simpa using h
    refine ⟨⟨rfl, ?_⟩, ?_⟩
    · exact hi
    · have : permS ⟨0, 0, (p1 * 65536 % 18446744069414584321 + (p2.length : Int)) % 18446744069414584321⟩ = absS p1 p2 := by unfold absS; rw [if_pos h]; rfl
      rw [this]
      exact ⟨rfl, rfl, rfl⟩
  · have h : p2 ≠ [] := by simpa using h
    have hv : absL p2 (absI p1 p2) = absS p1 p2 := by unfold absS; rw [if_neg h]
    rw [em]
    refine kzu (r0 := absS p1 p2) (fun i a b c => 0 ≤ i ∧ i ≤ p2.length + 1 ∧ absL (p2.drop i.toNat) ⟨a, b, c⟩ = absS p1 p2 ∧ S3 ⟨a, b, c⟩) (fun i _ _ _ => (p2.length + 2 - i).toNat) ⟨by omega, by omega, hv, hi⟩ ?_
    rintro i a b c ⟨g0, g1, g2, g3⟩
    obtain ⟨h3a, h3b, h3c⟩ := g3
    refine ⟨fun hh => ?_, fun hh => ?_⟩
    · have hh := of_decide_eq_true hh
      have hx := h2 _ (ix_mem p2 i g0 hh)
      rw [wi (i + 1) (by omega) (by omega)]
      have fin : ∀ nx x y z, S3 ⟨x, y, z⟩ → absL (p2.drop (i + 2).toNat) (permS ⟨x, y, z⟩) = absS p1 p2 → (0 ≤ i + 2 ∧ i + 2 ≤ p2.length + 1 ∧ absL (p2.drop (i + 2).toNat) (permS ⟨x, y, z⟩) = absS p1 p2 ∧ S3 (permS ⟨x, y, z⟩) → (p2.length + 2 - (i + 2)).toNat < (p2.length + 2 - i).toNat → nx ((18446744069414584321 : Int), p2, (i + 2 : Int), (0 : Int), (0 : Int), (0 : Int), (18446744069414584321 : Int), (permS ⟨x, y, z⟩).a0, (permS ⟨x, y, z⟩).a1, (permS ⟨x, y, z⟩).a2, ())) → k91 ((absS p1 p2).a0, (absS p1 p2).a1, (absS p1 p2).a2, ()) nx ((18446744069414584321 : Int), p2, i, (0 : Int), (0 : Int), (0 : Int), (18446744069414584321 : Int), x, y, z, ()) := by
        intro nx x y z hS hv' hn
        refine kxm (r0 := absS p1 p2) ?_
        rw [wi (i + 2) (by omega) (by omega)]
        exact ⟨⟨rfl, hS⟩, hn ⟨by omega, by omega, hv', hp _⟩ (by omega)⟩
      have hdrop := drop_ix p2 i g0 hh
      rw [hdrop] at g2
      refine ⟨g0, hh, ⟨rfl, h3a, hx⟩, fun h5 => ?_, fun h5 => ?_⟩
      · have h5 := of_decide_eq_true h5
        have hy := h2 _ (ix_mem p2 (i + 1) (by omega) h5)
        rw [drop_ix p2 (i + 1) (by omega) h5, show i + 1 + 1 = i + 2 by omega] at g2
        refine ⟨by omega, h5, ⟨rfl, h3b, hy⟩, fin _ _ _ _ (S3m (by omega) (by omega) h3c) g2 fun k1 k2 => ⟨⟨⟨rfl, rfl, rfl, rfl, rfl, rfl⟩, k1⟩, k2⟩⟩
      · have h5 := of_decide_eq_false h5
        have ed : p2.drop (i + 1).toNat = [] := List.drop_eq_nil_of_le (by omega)
        have ed2 : p2.drop (i + 2).toNat = [] := List.drop_eq_nil_of_le (by omega)
        rw [ed] at g2
        exact fin _ _ _ _ (S3m (by omega) h3b h3c) (by rw [ed2]; exact g2) fun k1 k2 => ⟨⟨⟨rfl, rfl, rfl, rfl, rfl, rfl⟩, k1⟩, k2⟩
    · have hh := of_decide_eq_false hh
      rw [List.drop_eq_nil_of_le (by omega)] at g2
      have g2 : (⟨a, b, c⟩ : TA3) = absS p1 p2 := g2
      rw [← g2]
      exact ⟨rfl, rfl, rfl⟩
noncomputable def kqg : Con TB.den := k2c.fnR (fun x => (fun (p0 : Int) (p1 : Int) (p2 : List Int) => p0 = 18446744069414584321 ∧ U64 p1 ∧ Us p2 ∧ p2.length ≤ 1099511627776) x.1 x.2.1 x.2.2.1) fun x => ((fun (p0 : Int) (p1 : Int) (p2 : List Int) => ((absS p1 p2).a0 : Int)) x.1 x.2.1 x.2.2.1, (fun (p0 : Int) (p1 : Int) (p2 : List Int) => ((absS p1 p2).a1 : Int)) x.1 x.2.1 x.2.2.1, (fun (p0 : Int) (p1 : Int) (p2 : List Int) => ((absS p1 p2).a2 : Int)) x.1 x.2.1 x.2.2.1, ())
theorem k121 : kqg.Ok Try.prog TB := Con.ok_fn k2c bd45 fun x h => kzs (kya x.1 x.2.1 x.2.2.1 h)
end Go.Proofs.Ytponaobpcdkggaa
namespace Go.Proofs.Ytponaobpcdkggaa
open Go Go.Bv Go.Cv Go.Md Go.RowKit
def k3s : Con TB.den := Con.mk0 35 [.one (.d (.int .u64)), .one (.d (.int .u64)), .one (.d (.sl (.int .u64)))] [] (.one (.one (.d (.int .u64)))) []
abbrev kwh := HL TB.den (hsT k3s.ins (hsOs k3s.pre))
abbrev kkl := HL TB.den (hsV k3s.res (hsOs k3s.post))
noncomputable def kdz : Cx TB := ⟨inf, [k8b, kqg], [], 4, []⟩
noncomputable def kl9 : Code := Try.f35.body.getD .skip
noncomputable def kok : List ResultVar := Try.f35.results.toList
noncomputable def kuq (o : kkl) : An TB := .no
noncomputable def kku (x : kwh) (o : kkl) : Prop := WPh TB kdz 16 0 kl9 (kuq o) (k3s.st TB x) (retTQ TB kdz k3s kok o)
set_option maxRecDepth 100000 in
theorem k136 (o : kkl) : OblH TB kdz 16 0 kl9 (kuq o) (retTQ TB kdz k3s kok o) :=
  OblH.of_eq (X := (True ∧ ((True ∧ ((True ∧ True) ∧ True)) ∧ (True ∧ True)))) (by kernel_rfl) ⟨trivial, ⟨⟨trivial, ⟨⟨trivial, trivial⟩, trivial⟩⟩, ⟨trivial, trivial⟩⟩⟩
set_option maxRecDepth 100000 in
theorem k137 {x : kwh} {o : kkl} (h : kku x o) : SoundH Try.prog k3s.f ((k3s.args idf x).map (er TB)) ((k3s.obs idf x).map (erO TB)) (er TB (k3s.val idf o)) ((k3s.ops idf o).map (erO TB)) :=
  Con.soundH (c := k3s) (C := kdz) TBok ⟨inf_ok, (all_cons kb8 (all_cons k121 all_nil)), all_nil⟩ mix Try.func35 (show Try.f35.body = some kl9 by kernel_rfl) (show Try.f35.ntmps = 16 by kernel_rfl) (show Try.f35.results.toList = kok by kernel_rfl) rfl h (k136 o)
set_option maxRecDepth 100000 in
theorem k14w {p0 : Int} {p1 : Int} {p2 : List Int} {r0 : Int} (h :
(((TField.mk p0).P = 18446744069414584321) ∧ ((!true) = true →
 0 = r0) ∧
((!true) = false →
(p0 = 18446744069414584321 ∧ U64 p1 ∧ Us p2 ∧ p2.length ≤ 1099511627776) ∧ (absS p1 p2).a0 = r0))) : kku (p0, p1, p2, ()) (r0, ()) := WPh.of_eq (by kernel_rfl) h
theorem bd35 : Callable Try.prog 35 := ⟨by rw [Try.func35]; kernel_rfl, by rw [Try.func35]; show some _ ≠ some _; decide⟩
theorem k126 (p0 : Int) (p1 : Int) (p2 : List Int) (h : p0 = 18446744069414584321 ∧ U64 p1 ∧ Us p2 ∧ p2.length ≤ 1099511627776) : kku (p0, p1, p2, ()) (((hashS p1 p2) : Int), ()) := by
  obtain ⟨hP, h1, h2, h3⟩ := h
  subst hP
  exact k14w ⟨rfl, fun h => by simp at h, fun _ => ⟨⟨rfl, h1, h2, h3⟩, rfl⟩⟩
noncomputable def ktx : Con TB.den := k3s.fnR (fun x => (fun (p0 : Int) (p1 : Int) (p2 : List Int) => p0 = 18446744069414584321 ∧ U64 p1 ∧ Us p2 ∧ p2.length ≤ 1099511627776) x.1 x.2.1 x.2.2.1) fun x => ((fun (p0 : Int) (p1 : Int) (p2 : List Int) => ((hashS p1 p2) : Int)) x.1 x.2.1 x.2.2.1, ())
theorem k14u : ktx.Ok Try.prog TB := Con.ok_fn k3s bd35 fun x h => k137 (k126 x.1 x.2.1 x.2.2.1 h)
end Go.Proofs.Ytponaobpcdkggaa
namespace Go.Proofs.Ytponaobpcdkggaa
open Go Go.Bv Go.Cv Go.Md Go.RowKit
def k2k : Con TB.den := Con.mk0 30 [.one (.ptr 0 0), .one (.d (.int .u64)), .one (.d (.sl (.int .u64)))] [.cells [.d (.bool), .d (.int .u64), .d (.int .i64), .own 1, .mp 2, .mp 3, .mp 4], .tip (.st 1), .map (.str) (.int .i64), .map (.str) (.sl (.int .u64)), .map (.str) (.bool)] (.one (.one (.d (.int .u64)))) [.cells [.d (.bool), .d (.int .u64), .d (.int .i64), .own 1, .mp 2, .mp 3, .mp 4], .tip (.st 1), .map (.str) (.int .i64), .map (.str) (.sl (.int .u64)), .map (.str) (.bool)]
abbrev ktu := HL TB.den (hsT k2k.ins (hsOs k2k.pre))
abbrev k7e := HL TB.den (hsV k2k.res (hsOs k2k.post))
noncomputable def k7u : Cx TB := ⟨inf, [knf, kuz, kqp, ktx, knk], [], 4, []⟩
noncomputable def kce : Code := Try.f30.body.getD .skip
noncomputable def kfj : List ResultVar := Try.f30.results.toList
def kdc : Tm := ⟨[0, 1, 2, 3, 4], [.cells [.d (.bool), .d (.int .u64), .d (.int .i64), .own 1, .mp 2, .mp 3, .mp 4], .tip (.st 1), .map (.str) (.int .i64), .map (.str) (.sl (.int .u64)), .map (.str) (.bool)], [0, 1, 2, 7, 10], [.one (.ptr 0 0), .one (.d (.int .u64)), .one (.d (.sl (.int .u64))), .one (.d (.str)), .one (.d (.int .u64))], 6⟩
noncomputable def kqi (o : k7e) (i : HL TB.den kdc.hs) : Prop := ghs TB [] (kdc.fill TB i) fun s => WP TB k7u 52 5 (cB (cB (cB (cB (cB (cB kce)))))) .no s (retTQ TB k7u k2k kfj o)
structure kbd (o : k7e) (i : HL TB.den kdc.hs) : Prop where
  h : kqi o i
noncomputable def k11m (o : k7e) : An TB := .nd [] .no [] (.jn kdc (kbd o) [] .no [] .no)
noncomputable def k11h (o : k7e) : An TB := .nd [] .no [] (.nd [] .no [] (.nd [] .no [] (k11m o)))
noncomputable def ks2 (o : k7e) : An TB := .nd [] .no [] (k11h o)
noncomputable def kgw (x : ktu) (o : k7e) : Prop := WPh TB k7u 52 5 kce (ks2 o) (k2k.st TB x) (retTQ TB k7u k2k kfj o)
set_option maxRecDepth 100000 in
theorem kzb (o : k7e) : OblH TB k7u 52 5 kce (ks2 o) (retTQ TB k7u k2k kfj o) :=
  OblH.of_eq (X := (True ∧ ((True ∧ ((True ∧ True) ∧ True)) ∧ (True ∧ ((True ∧ (True ∧ ((True ∧ True) ∧ True))) ∧ (True ∧ ((True ∧ (True ∧ True)) ∧ (∀ i, (kbd o) i = (kqi o) i) ∧ (True ∧ (True ∧ True))))))))) (by kernel_rfl) ⟨trivial, ⟨⟨trivial, ⟨⟨trivial, trivial⟩, trivial⟩⟩, ⟨trivial, ⟨⟨trivial, ⟨trivial, ⟨⟨trivial, trivial⟩, trivial⟩⟩⟩, ⟨trivial, ⟨⟨trivial, ⟨trivial, trivial⟩⟩, fun _ => propext ⟨fun h => h.1, fun h => ⟨h⟩⟩, ⟨trivial, ⟨trivial, trivial⟩⟩⟩⟩⟩⟩⟩⟩
set_option maxRecDepth 100000 in
theorem kzg {x : ktu} {o : k7e} (h : kgw x o) : SoundH Try.prog k2k.f ((k2k.args idf x).map (er TB)) ((k2k.obs idf x).map (erO TB)) (er TB (k2k.val idf o)) ((k2k.ops idf o).map (erO TB)) :=
  Con.soundH (c := k2k) (C := k7u) TBok ⟨inf_ok, (all_cons kyj (all_cons k16x (all_cons k113 (all_cons k14u (all_cons ky4 all_nil))))), all_nil⟩ mix Try.func30 (show Try.f30.body = some kce by kernel_rfl) (show Try.f30.ntmps = 52 by kernel_rfl) (show Try.f30.results.toList = kfj by kernel_rfl) rfl h (kzb o)
set_option maxRecDepth 100000 in
theorem k11j {p1 : Int} {p2 : List Int} {c0_0 : Bool} {c0_1 : Int} {c0_2 : Int} {w1 : List TQuestion} {w2k : List ByteArray} {w2v : List Int} {w3k : List ByteArray} {w3v : List (List Int)} {w4k : List ByteArray} {w4v : List Bool} {r0 : Int} {d0_0 : Bool} {d0_1 : Int} {d0_2 : Int} {e1 : List TQuestion} {e2k : List ByteArray} {e2v : List Int} {e3k : List ByteArray} {e3v : List (List Int)} {e4k : List ByteArray} {e4v : List Bool} (h :
((p2.length ≤ 9223372036854775807) ∧ ((!(allB p2)) = true →
(w1 = w1) ∧ 0 = r0 ∧ c0_0 = d0_0 ∧ c0_1 = d0_1 ∧ c0_2 = d0_2 ∧ w1 = e1 ∧ w2k = e2k ∧ w2v = e2v ∧ w3k = e3k ∧ w3v = e3v ∧ w4k = e4k ∧ w4v = e4v) ∧
((!(allB p2)) = false →
(Us p2 ∧ Us [p1] ∧ p2.length ≤ 1073741824 ∧ [p1].length ≤ 1073741824) ∧ w2k.length = w2v.length ∧ let v1 : Int := mVal (BEq.beq (keyB [p1] p2)) w2k w2v (0 : Int)
(mHas (BEq.beq (keyB [p1] p2)) w2k = true →
(0 ≤ v1) ∧ v1 < (w1.length : Int) ∧ (w1 = w1) ∧ (ix w1 v1).Answer = r0 ∧ c0_0 = d0_0 ∧ c0_1 = d0_1 ∧ c0_2 = d0_2 ∧ w1 = e1 ∧ w2k = e2k ∧ w2v = e2v ∧ w3k = e3k ∧ w3v = e3v ∧ w4k = e4k ∧ w4v = e4v) ∧
(mHas (BEq.beq (keyB [p1] p2)) w2k = false →
(c0_0 = true →
(w1 = w1) ∧ let r2 : Int := ((drO (OS.mk c0_0 c0_1 c0_2 w1 w2k w2v w3k w3v w4k w4v)).n)
 let r3 : Bool := ((drO (OS.mk c0_0 c0_1 c0_2 w1 w2k w2v w3k w3v w4k w4v)).o.a)
 let r4 : Int := ((drO (OS.mk c0_0 c0_1 c0_2 w1 w2k w2v w3k w3v w4k w4v)).o.b)
 let r5 : Int := ((drO (OS.mk c0_0 c0_1 c0_2 w1 w2k w2v w3k w3v w4k w4v)).o.c)
 let r6 : List TQuestion := ((drO (OS.mk c0_0 c0_1 c0_2 w1 w2k w2v w3k w3v w4k w4v)).o.q)
 let r7 : List ByteArray := ((drO (OS.mk c0_0 c0_1 c0_2 w1 w2k w2v w3k w3v w4k w4v)).o.k)
 let r8 : List Int := ((drO (OS.mk c0_0 c0_1 c0_2 w1 w2k w2v w3k w3v w4k w4v)).o.v)
 let r9 : List ByteArray := ((drO (OS.mk c0_0 c0_1 c0_2 w1 w2k w2v w3k w3v w4k w4v)).o.s)
 let r10 : List (List Int) := ((drO (OS.mk c0_0 c0_1 c0_2 w1 w2k w2v w3k w3v w4k w4v)).o.t)
 let r11 : List ByteArray := ((drO (OS.mk c0_0 c0_1 c0_2 w1 w2k w2v w3k w3v w4k w4v)).o.x)
 let r12 : List Bool := ((drO (OS.mk c0_0 c0_1 c0_2 w1 w2k w2v w3k w3v w4k w4v)).o.y)
(r6 = r6) ∧ kbd (r0, d0_0, d0_1, d0_2, e1, e2k, e2v, e3k, e3v, e4k, e4v, ()) (p1, p2, ((keyB [p1] p2) : ByteArray), r2, r3, r4, r5, r6, r7, r8, r9, r10, r11, r12, ())) ∧
(c0_0 = false →
((18446744069414584321 : Int) = 18446744069414584321 ∧ U64 p1 ∧ Us p2 ∧ p2.length ≤ 1099511627776) ∧ (w1 = w1) ∧ kbd (r0, d0_0, d0_1, d0_2, e1, e2k, e2v, e3k, e3v, e4k, e4v, ()) (p1, p2, ((keyB [p1] p2) : ByteArray), ((hashS p1 p2) : Int), c0_0, c0_1, c0_2, w1, w2k, w2v, w3k, w3v, w4k, w4v, ())))))) : kgw (p1, p2, c0_0, c0_1, c0_2, w1, w2k, w2v, w3k, w3v, w4k, w4v, ()) (r0, d0_0, d0_1, d0_2, e1, e2k, e2v, e3k, e3v, e4k, e4v, ()) := WPh.of_eq (by kernel_rfl) h
set_option maxRecDepth 100000 in
theorem knj {r0 : Int} {d0_0 : Bool} {d0_1 : Int} {d0_2 : Int} {e1 : List TQuestion} {e2k : List ByteArray} {e2v : List Int} {e3k : List ByteArray} {e3v : List (List Int)} {e4k : List ByteArray} {e4v : List Bool} {s1 : Int} {s2 : List Int} {s7 : ByteArray} {s10 : Int} {h0_0 : Bool} {h0_1 : Int} {h0_2 : Int} {g1 : List TQuestion} {g2k : List ByteArray} {g2v : List Int} {g3k : List ByteArray} {g3v : List (List Int)} {g4k : List ByteArray} {g4v : List Bool} (h :
((g1 = g1) ∧ (g2k.length = g2v.length ∧ g1.length ≤ 1000000 ∧ s2.length ≤ 1000000000) ∧ let r13 : Bool := ((recO (OS.mk h0_0 h0_1 h0_2 g1 g2k g2v g3k g3v g4k g4v) s7 s1 s2 s10).a)
 let r14 : Int := ((recO (OS.mk h0_0 h0_1 h0_2 g1 g2k g2v g3k g3v g4k g4v) s7 s1 s2 s10).b)
 let r15 : Int := ((recO (OS.mk h0_0 h0_1 h0_2 g1 g2k g2v g3k g3v g4k g4v) s7 s1 s2 s10).c)
 let r16 : List TQuestion := ((recO (OS.mk h0_0 h0_1 h0_2 g1 g2k g2v g3k g3v g4k g4v) s7 s1 s2 s10).q)
 let r17 : List ByteArray := ((recO (OS.mk h0_0 h0_1 h0_2 g1 g2k g2v g3k g3v g4k g4v) s7 s1 s2 s10).k)
 let r18 : List Int := ((recO (OS.mk h0_0 h0_1 h0_2 g1 g2k g2v g3k g3v g4k g4v) s7 s1 s2 s10).v)
 let r19 : List ByteArray := ((recO (OS.mk h0_0 h0_1 h0_2 g1 g2k g2v g3k g3v g4k g4v) s7 s1 s2 s10).s)
 let r20 : List (List Int) := ((recO (OS.mk h0_0 h0_1 h0_2 g1 g2k g2v g3k g3v g4k g4v) s7 s1 s2 s10).t)
 let r21 : List ByteArray := ((recO (OS.mk h0_0 h0_1 h0_2 g1 g2k g2v g3k g3v g4k g4v) s7 s1 s2 s10).x)
 let r22 : List Bool := ((recO (OS.mk h0_0 h0_1 h0_2 g1 g2k g2v g3k g3v g4k g4v) s7 s1 s2 s10).y)
(r16 = r16) ∧ s10 = r0 ∧ r13 = d0_0 ∧ r14 = d0_1 ∧ r15 = d0_2 ∧ r16 = e1 ∧ r17 = e2k ∧ r18 = e2v ∧ r19 = e3k ∧ r20 = e3v ∧ r21 = e4k ∧ r22 = e4v)) : kbd (r0, d0_0, d0_1, d0_2, e1, e2k, e2v, e3k, e3v, e4k, e4v, ()) (s1, s2, s7, s10, h0_0, h0_1, h0_2, g1, g2k, g2v, g3k, g3v, g4k, g4v, ()) := ⟨mpr_of (by kernel_rfl) h⟩
theorem bd30 : Callable Try.prog 30 := ⟨by rw [Try.func30]; kernel_rfl, by rw [Try.func30]; show some _ ≠ some _; decide⟩
theorem kyn (p1 : Int) (p2 : List Int) (c0_0 : Bool) (c0_1 : Int) (c0_2 : Int) (w1 : List TQuestion) (w2k : List ByteArray) (w2v : List Int) (w3k : List ByteArray) (w3v : List (List Int)) (w4k : List ByteArray) (w4v : List Bool) (h : U64 p1 ∧ (Us p2 ∧ p2.length ≤ 1000000000) ∧ OOk (OS.mk c0_0 c0_1 c0_2 w1 w2k w2v w3k w3v w4k w4v)) : kgw (p1, p2, c0_0, c0_1, c0_2, w1, w2k, w2v, w3k, w3v, w4k, w4v, ()) ((((hO (OS.mk c0_0 c0_1 c0_2 w1 w2k w2v w3k w3v w4k w4v) p1 p2).n) : Int), (((hO (OS.mk c0_0 c0_1 c0_2 w1 w2k w2v w3k w3v w4k w4v) p1 p2).o.a) : Bool), (((hO (OS.mk c0_0 c0_1 c0_2 w1 w2k w2v w3k w3v w4k w4v) p1 p2).o.b) : Int), (((hO (OS.mk c0_0 c0_1 c0_2 w1 w2k w2v w3k w3v w4k w4v) p1 p2).o.c) : Int), (((hO (OS.mk c0_0 c0_1 c0_2 w1 w2k w2v w3k w3v w4k w4v) p1 p2).o.q) : List TQuestion), (((hO (OS.mk c0_0 c0_1 c0_2 w1 w2k w2v w3k w3v w4k w4v) p1 p2).o.k) : List ByteArray), (((hO (OS.mk c0_0 c0_1 c0_2 w1 w2k w2v w3k w3v w4k w4v) p1 p2).o.v) : List Int), (((hO (OS.mk c0_0 c0_1 c0_2 w1 w2k w2v w3k w3v w4k w4v) p1 p2).o.s) : List ByteArray), (((hO (OS.mk c0_0 c0_1 c0_2 w1 w2k w2v w3k w3v w4k w4v) p1 p2).o.t) : List (List Int)), (((hO (OS.mk c0_0 c0_1 c0_2 w1 w2k w2v w3k w3v w4k w4v) p1 p2).o.x) : List ByteArray), (((hO (OS.mk c0_0 c0_1 c0_2 w1 w2k w2v w3k w3v w4k w4v) p1 p2).o.y) : List Bool), ()) := by
  obtain ⟨h1, ⟨h2, h3⟩, h4⟩ := h
  have hl := h4.or.len
  have hq := h4.q
  refine k11j ⟨by omega, fun e => ?_, fun e => ?_⟩
  · have e : allB p2 = false := by simpa using e
    unfold hO
    rw [if_neg (by rw [e]; decide)]
    exact ⟨rfl, rfl, rfl, rfl, rfl, rfl, rfl, rfl, rfl, rfl, rfl, rfl⟩
  · have e : allB p2 = true := by simpa using e
    refine ⟨⟨h2, fun x hx => by rw [List.mem_singleton.1 hx]; exact h1, by omega, by simp⟩, hl, ?_⟩
    try dsimp only
    refine ⟨fun e2 => ?_, fun e2 => ?_⟩
    · have := k17u h4 e2
      unfold hO
      rw [if_pos e, if_pos e2]
      exact ⟨this.1, this.2, rfl, rfl, rfl, rfl, rfl, rfl, rfl, rfl, rfl, rfl, rfl, rfl⟩
    · have e3 : ¬ mHas (BEq.beq (keyB [p1] p2)) (OS.mk c0_0 c0_1 c0_2 w1 w2k w2v w3k w3v w4k w4v).k = true := by rw [e2]; decide
      unfold hO
      rw [if_pos e, if_neg e3]
      refine ⟨fun e4 => ?_, fun e4 => ?_⟩
      · subst e4
        exact ⟨rfl, rfl, knj ⟨rfl, ⟨hl, hq, h3⟩, rfl, rfl, rfl, rfl, rfl, rfl, rfl, rfl, rfl, rfl, rfl, rfl⟩⟩
      · subst e4
        exact ⟨⟨rfl, h1, h2, by omega⟩, rfl, knj ⟨rfl, ⟨hl, hq, h3⟩, rfl, rfl, rfl, rfl, rfl, rfl, rfl, rfl, rfl, rfl, rfl, rfl⟩⟩
noncomputable def kqf : Con TB.den := k2k.fnR (fun x => (fun (p1 : Int) (p2 : List Int) (c0_0 : Bool) (c0_1 : Int) (c0_2 : Int) (w1 : List TQuestion) (w2k : List ByteArray) (w2v : List Int) (w3k : List ByteArray) (w3v : List (List Int)) (w4k : List ByteArray) (w4v : List Bool) => U64 p1 ∧ (Us p2 ∧ p2.length ≤ 1000000000) ∧ OOk (OS.mk c0_0 c0_1 c0_2 w1 w2k w2v w3k w3v w4k w4v)) x.1 x.2.1 x.2.2.1 x.2.2.2.1 x.2.2.2.2.1 x.2.2.2.2.2.1 x.2.2.2.2.2.2.1 x.2.2.2.2.2.2.2.1 x.2.2.2.2.2.2.2.2.1 x.2.2.2.2.2.2.2.2.2.1 x.2.2.2.2.2.2.2.2.2.2.1 x.2.2.2.2.2.2.2.2.2.2.2.1) fun x => ((fun (p1 : Int) (p2 : List Int) (c0_0 : Bool) (c0_1 : Int) (c0_2 : Int) (w1 : List TQuestion) (w2k : List ByteArray) (w2v : List Int) (w3k : List ByteArray) (w3v : List (List Int)) (w4k : List ByteArray) (w4v : List Bool) => (((hO (OS.mk c0_0 c0_1 c0_2 w1 w2k w2v w3k w3v w4k w4v) p1 p2).n) : Int)) x.1 x.2.1 x.2.2.1 x.2.2.2.1 x.2.2.2.2.1 x.2.2.2.2.2.1 x.2.2.2.2.2.2.1 x.2.2.2.2.2.2.2.1 x.2.2.2.2.2.2.2.2.1 x.2.2.2.2.2.2.2.2.2.1 x.2.2.2.2.2.2.2.2.2.2.1 x.2.2.2.2.2.2.2.2.2.2.2.1, (fun (p1 : Int) (p2 : List Int) (c0_0 : Bool) (c0_1 : Int) (c0_2 : Int) (w1 : List TQuestion) (w2k : List ByteArray) (w2v : List Int) (w3k : List ByteArray) (w3v : List (List Int)) (w4k : List ByteArray) (w4v : List Bool) => (((hO (OS.mk c0_0 c0_1 c0_2 w1 w2k w2v w3k w3v w4k w4v) p1 p2).o.a) : Bool)) x.1 x.2.1 x.2.2.1 x.2.2.2.1 x.2.2.2.2.1 x.2.2.2.2.2.1 x.2.2.2.2.2.2.1 x.2.2.2.2.2.2.2.1 x.2.2.2.2.2.2.2.2.1 x.2.2.2.2.2.2.2.2.2.1 x.2.2.2.2.2.2.2.2.2.2.1 x.2.2.2.2.2.2.2.2.2.2.2.1, (fun (p1 : Int) (p2 : List Int) (c0_0 : Bool) (c0_1 : Int) (c0_2 : Int) (w1 : List TQuestion) (w2k : List ByteArray) (w2v : List Int) (w3k : List ByteArray) (w3v : List (List Int)) (w4k : List ByteArray) (w4v : List Bool) => (((hO (OS.mk c0_0 c0_1 c0_2 w1 w2k w2v w3k w3v w4k w4v) p1 p2).o.b) : Int)) x.1 x.2.1 x.2.2.1 x.2.2.2.1 x.2.2.2.2.1 x.2.2.2.2.2.1 x.2.2.2.2.2.2.1 x.2.2.2.2.2.2.2.1 x.2.2.2.2.2.2.2.2.1 x.2.2.2.2.2.2.2.2.2.1 x.2.2.2.2.2.2.2.2.2.2.1 x.2.2.2.2.2.2.2.2.2.2.2.1, (fun (p1 : Int) (p2 : List Int) (c0_0 : Bool) (c0_1 : Int) (c0_2 : Int) (w1 : List TQuestion) (w2k : List ByteArray) (w2v : List Int) (w3k : List ByteArray) (w3v : List (List Int)) (w4k : List ByteArray) (w4v : List Bool) => (((hO (OS.mk c0_0 c0_1 c0_2 w1 w2k w2v w3k w3v w4k w4v) p1 p2).o.c) : Int)) x.1 x.2.1 x.2.2.1 x.2.2.2.1 x.2.2.2.2.1 x.2.2.2.2.2.1 x.2.2.2.2.2.2.1 x.2.2.2.2.2.2.2.1 x.2.2.2.2.2.2.2.2.1 x.2.2.2.2.2.2.2.2.2.1 x.2.2.2.2.2.2.2.2.2.2.1 x.2.2.2.2.2.2.2.2.2.2.2.1, (fun (p1 : Int) (p2 : List Int) (c0_0 : Bool) (c0_1 : Int) (c0_2 : Int) (w1 : List TQuestion) (w2k : List ByteArray) (w2v : List Int) (w3k : List ByteArray) (w3v : List (List Int)) (w4k : List ByteArray) (w4v : List Bool) => (((hO (OS.mk c0_0 c0_1 c0_2 w1 w2k w2v w3k w3v w4k w4v) p1 p2).o.q) : List TQuestion)) x.1 x.2.1 x.2.2.1 x.2.2.2.1 x.2.2.2.2.1 x.2.2.2.2.2.1 x.2.2.2.2.2.2.1 x.2.2.2.2.2.2.2.1 x.2.2.2.2.2.2.2.2.1 x.2.2.2.2.2.2.2.2.2.1 x.2.2.2.2.2.2.2.2.2.2.1 x.2.2.2.2.2.2.2.2.2.2.2.1, (fun (p1 : Int) (p2 : List Int) (c0_0 : Bool) (c0_1 : Int) (c0_2 : Int) (w1 : List TQuestion) (w2k : List ByteArray) (w2v : List Int) (w3k : List ByteArray) (w3v : List (List Int)) (w4k : List ByteArray) (w4v : List Bool) => (((hO (OS.mk c0_0 c0_1 c0_2 w1 w2k w2v w3k w3v w4k w4v) p1 p2).o.k) : List ByteArray)) x.1 x.2.1 x.2.2.1 x.2.2.2.1 x.2.2.2.2.1 x.2.2.2.2.2.1 x.2.2.2.2.2.2.1 x.2.2.2.2.2.2.2.1 x.2.2.2.2.2.2.2.2.1 x.2.2.2.2.2.2.2.2.2.1 x.2.2.2.2.2.2.2.2.2.2.1 x.2.2.2.2.2.2.2.2.2.2.2.1, (fun (p1 : Int) (p2 : List Int) (c0_0 : Bool) (c0_1 : Int) (c0_2 : Int) (w1 : List TQuestion) (w2k : List ByteArray) (w2v : List Int) (w3k : List ByteArray) (w3v : List (List Int)) (w4k : List ByteArray) (w4v : List Bool) => (((hO (OS.mk c0_0 c0_1 c0_2 w1 w2k w2v w3k w3v w4k w4v) p1 p2).o.v) : List Int)) x.1 x.2.1 x.2.2.1 x.2.2.2.1 x.2.2.2.2.1 x.2.2.2.2.2.1 x.2.2.2.2.2.2.1 x.2.2.2.2.2.2.2.1 x.2.2.2.2.2.2.2.2.1 x.2.2.2.2.2.2.2.2.2.1 x.2.2.2.2.2.2.2.2.2.2.1 x.2.2.2.2.2.2.2.2.2.2.2.1, (fun (p1 : Int) (p2 : List Int) (c0_0 : Bool) (c0_1 : Int) (c0_2 : Int) (w1 : List TQuestion) (w2k : List ByteArray) (w2v : List Int) (w3k : List ByteArray) (w3v : List (List Int)) (w4k : List ByteArray) (w4v : List Bool) => (((hO (OS.mk c0_0 c0_1 c0_2 w1 w2k w2v w3k w3v w4k w4v) p1 p2).o.s) : List ByteArray)) x.1 x.2.1 x.2.2.1 x.2.2.2.1 x.2.2.2.2.1 x.2.2.2.2.2.1 x.2.2.2.2.2.2.1 x.2.2.2.2.2.2.2.1 x.2.2.2.2.2.2.2.2.1 x.2.2.2.2.2.2.2.2.2.1 x.2.2.2.2.2.2.2.2.2.2.1 x.2.2.2.2.2.2.2.2.2.2.2.1, (fun (p1 : Int) (p2 : List Int) (c0_0 : Bool) (c0_1 : Int) (c0_2 : Int) (w1 : List TQuestion) (w2k : List ByteArray) (w2v : List Int) (w3k : List ByteArray) (w3v : List (List Int)) (w4k : List ByteArray) (w4v : List Bool) => (((hO (OS.mk c0_0 c0_1 c0_2 w1 w2k w2v w3k w3v w4k w4v) p1 p2).o.t) : List (List Int))) x.1 x.2.1 x.2.2.1 x.2.2.2.1 x.2.2.2.2.1 x.2.2.2.2.2.1 x.2.2.2.2.2.2.1 x.2.2.2.2.2.2.2.1 x.2.2.2.2.2.2.2.2.1 x.2.2.2.2.2.2.2.2.2.1 x.2.2.2.2.2.2.2.2.2.2.1 x.2.2.2.2.2.2.2.2.2.2.2.1, (fun (p1 : Int) (p2 : List Int) (c0_0 : Bool) (c0_1 : Int) (c0_2 : Int) (w1 : List TQuestion) (w2k : List ByteArray) (w2v : List Int) (w3k : List ByteArray) (w3v : List (List Int)) (w4k : List ByteArray) (w4v : List Bool) => (((hO (OS.mk c0_0 c0_1 c0_2 w1 w2k w2v w3k w3v w4k w4v) p1 p2).o.x) : List ByteArray)) x.1 x.2.1 x.2.2.1 x.2.2.2.1 x.2.2.2.2.1 x.2.2.2.2.2.1 x.2.2.2.2.2.2.1 x.2.2.2.2.2.2.2.1 x.2.2.2.2.2.2.2.2.1 x.2.2.2.2.2.2.2.2.2.1 x.2.2.2.2.2.2.2.2.2.2.1 x.2.2.2.2.2.2.2.2.2.2.2.1, (fun (p1 : Int) (p2 : List Int) (c0_0 : Bool) (c0_1 : Int) (c0_2 : Int) (w1 : List TQuestion) (w2k : List ByteArray) (w2v : List Int) (w3k : List ByteArray) (w3v : List (List Int)) (w4k : List ByteArray) (w4v : List Bool) => (((hO (OS.mk c0_0 c0_1 c0_2 w1 w2k w2v w3k w3v w4k w4v) p1 p2).o.y) : List Bool)) x.1 x.2.1 x.2.2.1 x.2.2.2.1 x.2.2.2.2.1 x.2.2.2.2.2.1 x.2.2.2.2.2.2.1 x.2.2.2.2.2.2.2.1 x.2.2.2.2.2.2.2.2.1 x.2.2.2.2.2.2.2.2.2.1 x.2.2.2.2.2.2.2.2.2.2.1 x.2.2.2.2.2.2.2.2.2.2.2.1, ())
theorem k10v : kqf.Ok Try.prog TB := Con.ok_fn k2k bd30 fun x h => kzg (kyn x.1 x.2.1 x.2.2.1 x.2.2.2.1 x.2.2.2.2.1 x.2.2.2.2.2.1 x.2.2.2.2.2.2.1 x.2.2.2.2.2.2.2.1 x.2.2.2.2.2.2.2.2.1 x.2.2.2.2.2.2.2.2.2.1 x.2.2.2.2.2.2.2.2.2.2.1 x.2.2.2.2.2.2.2.2.2.2.2.1 h)
end Go.Proofs.Ytponaobpcdkggaa
namespace Go.Proofs.Ytponaobpcdkggaa
open Go Go.Bv Go.Cv Go.Md Go.RowKit
def k1l : Con TB.den := Con.mk0 12 [.one (.ptr 0 0), .agg [.d (.int .u64), .d (.int .u64)], .one (.d (.int .u64))] [.cells [.d (.bool), .d (.int .u64), .d (.int .i64), .own 1, .mp 2, .mp 3, .mp 4], .tip (.st 1), .map (.str) (.int .i64), .map (.str) (.sl (.int .u64)), .map (.str) (.bool)] (.tup [.one (.d (.int .u64)), .agg [.d (.int .u64), .d (.int .u64)]]) [.cells [.d (.bool), .d (.int .u64), .d (.int .i64), .own 1, .mp 2, .mp 3, .mp 4], .tip (.st 1), .map (.str) (.int .i64), .map (.str) (.sl (.int .u64)), .map (.str) (.bool)]
abbrev kh1 := HL TB.den (hsT k1l.ins (hsOs k1l.pre))
abbrev k8h := HL TB.den (hsV k1l.res (hsOs k1l.post))
noncomputable def k6d : Cx TB := ⟨inf, [kqf], [], 4, []⟩
noncomputable def k9p : Code := Try.f12.body.getD .skip
noncomputable def kau : List ResultVar := Try.f12.results.toList
noncomputable def kgn (o : k8h) : An TB := .no
noncomputable def k9o (x : kh1) (o : k8h) : Prop := WPh TB k6d 28 5 k9p (kgn o) (k1l.st TB x) (retTQ TB k6d k1l kau o)
set_option maxRecDepth 100000 in
theorem kpq (o : k8h) : OblH TB k6d 28 5 k9p (kgn o) (retTQ TB k6d k1l kau o) :=
  OblH.of_eq (X := (True ∧ ((True ∧ ((True ∧ True) ∧ True)) ∧ (True ∧ (True ∧ True))))) (by kernel_rfl) ⟨trivial, ⟨⟨trivial, ⟨⟨trivial, trivial⟩, trivial⟩⟩, ⟨trivial, ⟨trivial, trivial⟩⟩⟩⟩
set_option maxRecDepth 100000 in
theorem kpv {x : kh1} {o : k8h} (h : k9o x o) : SoundH Try.prog k1l.f ((k1l.args idf x).map (er TB)) ((k1l.obs idf x).map (erO TB)) (er TB (k1l.val idf o)) ((k1l.ops idf o).map (erO TB)) :=
  Con.soundH (c := k1l) (C := k6d) TBok ⟨inf_ok, (all_cons k10v all_nil), all_nil⟩ mix Try.func12 (show Try.f12.body = some k9p by kernel_rfl) (show Try.f12.ntmps = 28 by kernel_rfl) (show Try.f12.results.toList = kau by kernel_rfl) rfl h (kpq o)
set_option maxRecDepth 100000 in
theorem kr2 {p1 : TTranscript} {p2 : Int} {c0_0 : Bool} {c0_1 : Int} {c0_2 : Int} {w1 : List TQuestion} {w2k : List ByteArray} {w2v : List Int} {w3k : List ByteArray} {w3v : List (List Int)} {w4k : List ByteArray} {w4v : List Bool} {r0 : Int} {r1 : TTranscript} {d0_0 : Bool} {d0_1 : Int} {d0_2 : Int} {e1 : List TQuestion} {e2k : List ByteArray} {e2v : List Int} {e3k : List ByteArray} {e3v : List (List Int)} {e4k : List ByteArray} {e4v : List Bool} (h :
(((p2 == 0) = true →
(w1 = w1) ∧ 0 = r0 ∧ p1.State = r1.State ∧ p1.Count = r1.Count ∧ c0_0 = d0_0 ∧ c0_1 = d0_1 ∧ c0_2 = d0_2 ∧ w1 = e1 ∧ w2k = e2k ∧ w2v = e2v ∧ w3k = e3k ∧ w3v = e3v ∧ w4k = e4k ∧ w4v = e4v) ∧
((p2 == 0) = false →
(w1 = w1) ∧ (U64 (19 : Int) ∧ (Us [p1.State, p1.Count] ∧ [p1.State, p1.Count].length ≤ 1000000000) ∧ OOk (OS.mk c0_0 c0_1 c0_2 w1 w2k w2v w3k w3v w4k w4v)) ∧ let r2 : Int := ((hO (OS.mk c0_0 c0_1 c0_2 w1 w2k w2v w3k w3v w4k w4v) (19 : Int) [p1.State, p1.Count]).n)
 let r3 : Bool := ((hO (OS.mk c0_0 c0_1 c0_2 w1 w2k w2v w3k w3v w4k w4v) (19 : Int) [p1.State, p1.Count]).o.a)
 let r4 : Int := ((hO (OS.mk c0_0 c0_1 c0_2 w1 w2k w2v w3k w3v w4k w4v) (19 : Int) [p1.State, p1.Count]).o.b)
 let r5 : Int := ((hO (OS.mk c0_0 c0_1 c0_2 w1 w2k w2v w3k w3v w4k w4v) (19 : Int) [p1.State, p1.Count]).o.c)
 let r6 : List TQuestion := ((hO (OS.mk c0_0 c0_1 c0_2 w1 w2k w2v w3k w3v w4k w4v) (19 : Int) [p1.State, p1.Count]).o.q)
 let r7 : List ByteArray := ((hO (OS.mk c0_0 c0_1 c0_2 w1 w2k w2v w3k w3v w4k w4v) (19 : Int) [p1.State, p1.Count]).o.k)
 let r8 : List Int := ((hO (OS.mk c0_0 c0_1 c0_2 w1 w2k w2v w3k w3v w4k w4v) (19 : Int) [p1.State, p1.Count]).o.v)
 let r9 : List ByteArray := ((hO (OS.mk c0_0 c0_1 c0_2 w1 w2k w2v w3k w3v w4k w4v) (19 : Int) [p1.State, p1.Count]).o.s)
 let r10 : List (List Int) := ((hO (OS.mk c0_0 c0_1 c0_2 w1 w2k w2v w3k w3v w4k w4v) (19 : Int) [p1.State, p1.Count]).o.t)
 let r11 : List ByteArray := ((hO (OS.mk c0_0 c0_1 c0_2 w1 w2k w2v w3k w3v w4k w4v) (19 : Int) [p1.State, p1.Count]).o.x)
 let r12 : List Bool := ((hO (OS.mk c0_0 c0_1 c0_2 w1 w2k w2v w3k w3v w4k w4v) (19 : Int) [p1.State, p1.Count]).o.y)
(p2 ≠ 0) ∧ (r6 = r6) ∧ Int.tmod r2 p2 = r0 ∧ p1.State = r1.State ∧ IntKind.u64.wrap (p1.Count + 1) = r1.Count ∧ r3 = d0_0 ∧ r4 = d0_1 ∧ r5 = d0_2 ∧ r6 = e1 ∧ r7 = e2k ∧ r8 = e2v ∧ r9 = e3k ∧ r10 = e3v ∧ r11 = e4k ∧ r12 = e4v))) : k9o (p1.State, p1.Count, p2, c0_0, c0_1, c0_2, w1, w2k, w2v, w3k, w3v, w4k, w4v, ()) (r0, r1.State, r1.Count, d0_0, d0_1, d0_2, e1, e2k, e2v, e3k, e3v, e4k, e4v, ()) := WPh.of_eq (by kernel_rfl) h
theorem bd12 : Callable Try.prog 12 := ⟨by rw [Try.func12]; kernel_rfl, by rw [Try.func12]; show some _ ≠ some _; decide⟩
theorem kp6 (p1 : TTranscript) (p2 : Int) (c0_0 : Bool) (c0_1 : Int) (c0_2 : Int) (w1 : List TQuestion) (w2k : List ByteArray) (w2v : List Int) (w3k : List ByteArray) (w3v : List (List Int)) (w4k : List ByteArray) (w4v : List Bool) (h : (U64 p1.State ∧ U64 p1.Count) ∧ OOk (OS.mk c0_0 c0_1 c0_2 w1 w2k w2v w3k w3v w4k w4v)) : k9o (p1.State, p1.Count, p2, c0_0, c0_1, c0_2, w1, w2k, w2v, w3k, w3v, w4k, w4v, ()) ((((chO (OS.mk c0_0 c0_1 c0_2 w1 w2k w2v w3k w3v w4k w4v) p1 p2).n) : Int), (((chO (OS.mk c0_0 c0_1 c0_2 w1 w2k w2v w3k w3v w4k w4v) p1 p2).t).State : Int), (((chO (OS.mk c0_0 c0_1 c0_2 w1 w2k w2v w3k w3v w4k w4v) p1 p2).t).Count : Int), (((chO (OS.mk c0_0 c0_1 c0_2 w1 w2k w2v w3k w3v w4k w4v) p1 p2).o.a) : Bool), (((chO (OS.mk c0_0 c0_1 c0_2 w1 w2k w2v w3k w3v w4k w4v) p1 p2).o.b) : Int), (((chO (OS.mk c0_0 c0_1 c0_2 w1 w2k w2v w3k w3v w4k w4v) p1 p2).o.c) : Int), (((chO (OS.mk c0_0 c0_1 c0_2 w1 w2k w2v w3k w3v w4k w4v) p1 p2).o.q) : List TQuestion), (((chO (OS.mk c0_0 c0_1 c0_2 w1 w2k w2v w3k w3v w4k w4v) p1 p2).o.k) : List ByteArray), (((chO (OS.mk c0_0 c0_1 c0_2 w1 w2k w2v w3k w3v w4k w4v) p1 p2).o.v) : List Int), (((chO (OS.mk c0_0 c0_1 c0_2 w1 w2k w2v w3k w3v w4k w4v) p1 p2).o.s) : List ByteArray), (((chO (OS.mk c0_0 c0_1 c0_2 w1 w2k w2v w3k w3v w4k w4v) p1 p2).o.t) : List (List Int)), (((chO (OS.mk c0_0 c0_1 c0_2 w1 w2k w2v w3k w3v w4k w4v) p1 p2).o.x) : List ByteArray), (((chO (OS.mk c0_0 c0_1 c0_2 w1 w2k w2v w3k w3v w4k w4v) p1 p2).o.y) : List Bool), ()) := by
  obtain ⟨⟨h1, h2⟩, h3⟩ := h
  refine kr2 (r1 := (chO (OS.mk c0_0 c0_1 c0_2 w1 w2k w2v w3k w3v w4k w4v) p1 p2).t) ⟨fun e => ?_, fun e => ?_⟩
  · have e : p2 = 0 := by simpa using e
    unfold chO
    rw [if_pos e]
    exact ⟨rfl, rfl, rfl, rfl, rfl, rfl, rfl, rfl, rfl, rfl, rfl, rfl, rfl, rfl⟩
  · have e : ¬ p2 = 0 := by simpa using e
    unfold chO
    rw [if_neg e]
    refine ⟨rfl, ⟨by decide, ⟨fun x hx => ?_, by simp⟩, h3⟩, e, rfl, rfl, rfl, rfl, rfl, rfl, rfl, rfl, rfl, rfl, rfl, rfl, rfl, rfl⟩
    rcases List.mem_cons.1 hx with rfl | hx
    · exact h1
    · rw [List.mem_singleton.1 hx]; exact h2
noncomputable def ka4 : Con TB.den := k1l.fnR (fun x => (fun (p1 : TTranscript) (p2 : Int) (c0_0 : Bool) (c0_1 : Int) (c0_2 : Int) (w1 : List TQuestion) (w2k : List ByteArray) (w2v : List Int) (w3k : List ByteArray) (w3v : List (List Int)) (w4k : List ByteArray) (w4v : List Bool) => (U64 p1.State ∧ U64 p1.Count) ∧ OOk (OS.mk c0_0 c0_1 c0_2 w1 w2k w2v w3k w3v w4k w4v)) (TTranscript.mk x.1 x.2.1) x.2.2.1 x.2.2.2.1 x.2.2.2.2.1 x.2.2.2.2.2.1 x.2.2.2.2.2.2.1 x.2.2.2.2.2.2.2.1 x.2.2.2.2.2.2.2.2.1 x.2.2.2.2.2.2.2.2.2.1 x.2.2.2.2.2.2.2.2.2.2.1 x.2.2.2.2.2.2.2.2.2.2.2.1 x.2.2.2.2.2.2.2.2.2.2.2.2.1) fun x => ((fun (p1 : TTranscript) (p2 : Int) (c0_0 : Bool) (c0_1 : Int) (c0_2 : Int) (w1 : List TQuestion) (w2k : List ByteArray) (w2v : List Int) (w3k : List ByteArray) (w3v : List (List Int)) (w4k : List ByteArray) (w4v : List Bool) => (((chO (OS.mk c0_0 c0_1 c0_2 w1 w2k w2v w3k w3v w4k w4v) p1 p2).n) : Int)) (TTranscript.mk x.1 x.2.1) x.2.2.1 x.2.2.2.1 x.2.2.2.2.1 x.2.2.2.2.2.1 x.2.2.2.2.2.2.1 x.2.2.2.2.2.2.2.1 x.2.2.2.2.2.2.2.2.1 x.2.2.2.2.2.2.2.2.2.1 x.2.2.2.2.2.2.2.2.2.2.1 x.2.2.2.2.2.2.2.2.2.2.2.1 x.2.2.2.2.2.2.2.2.2.2.2.2.1, (fun (p1 : TTranscript) (p2 : Int) (c0_0 : Bool) (c0_1 : Int) (c0_2 : Int) (w1 : List TQuestion) (w2k : List ByteArray) (w2v : List Int) (w3k : List ByteArray) (w3v : List (List Int)) (w4k : List ByteArray) (w4v : List Bool) => (((chO (OS.mk c0_0 c0_1 c0_2 w1 w2k w2v w3k w3v w4k w4v) p1 p2).t).State : Int)) (TTranscript.mk x.1 x.2.1) x.2.2.1 x.2.2.2.1 x.2.2.2.2.1 x.2.2.2.2.2.1 x.2.2.2.2.2.2.1 x.2.2.2.2.2.2.2.1 x.2.2.2.2.2.2.2.2.1 x.2.2.2.2.2.2.2.2.2.1 x.2.2.2.2.2.2.2.2.2.2.1 x.2.2.2.2.2.2.2.2.2.2.2.1 x.2.2.2.2.2.2.2.2.2.2.2.2.1, (fun (p1 : TTranscript) (p2 : Int) (c0_0 : Bool) (c0_1 : Int) (c0_2 : Int) (w1 : List TQuestion) (w2k : List ByteArray) (w2v : List Int) (w3k : List ByteArray) (w3v : List (List Int)) (w4k : List ByteArray) (w4v : List Bool) => (((chO (OS.mk c0_0 c0_1 c0_2 w1 w2k w2v w3k w3v w4k w4v) p1 p2).t).Count : Int)) (TTranscript.mk x.1 x.2.1) x.2.2.1 x.2.2.2.1 x.2.2.2.2.1 x.2.2.2.2.2.1 x.2.2.2.2.2.2.1 x.2.2.2.2.2.2.2.1 x.2.2.2.2.2.2.2.2.1 x.2.2.2.2.2.2.2.2.2.1 x.2.2.2.2.2.2.2.2.2.2.1 x.2.2.2.2.2.2.2.2.2.2.2.1 x.2.2.2.2.2.2.2.2.2.2.2.2.1, (fun (p1 : TTranscript) (p2 : Int) (c0_0 : Bool) (c0_1 : Int) (c0_2 : Int) (w1 : List TQuestion) (w2k : List ByteArray) (w2v : List Int) (w3k : List ByteArray) (w3v : List (List Int)) (w4k : List ByteArray) (w4v : List Bool) => (((chO (OS.mk c0_0 c0_1 c0_2 w1 w2k w2v w3k w3v w4k w4v) p1 p2).o.a) : Bool)) (TTranscript.mk x.1 x.2.1) x.2.2.1 x.2.2.2.1 x.2.2.2.2.1 x.2.2.2.2.2.1 x.2.2.2.2.2.2.1 x.2.2.2.2.2.2.2.1 x.2.2.2.2.2.2.2.2.1 x.2.2.2.2.2.2.2.2.2.1 x.2.2.2.2.2.2.2.2.2.2.1 x.2.2.2.2.2.2.2.2.2.2.2.1 x.2.2.2.2.2.2.2.2.2.2.2.2.1, (fun (p1 : TTranscript) (p2 : Int) (c0_0 : Bool) (c0_1 : Int) (c0_2 : Int) (w1 : List TQuestion) (w2k : List ByteArray) (w2v : List Int) (w3k : List ByteArray) (w3v : List (List Int)) (w4k : List ByteArray) (w4v : List Bool) => (((chO (OS.mk c0_0 c0_1 c0_2 w1 w2k w2v w3k w3v w4k w4v) p1 p2).o.b) : Int)) (TTranscript.mk x.1 x.2.1) x.2.2.1 x.2.2.2.1 x.2.2.2.2.1 x.2.2.2.2.2.1 x.2.2.2.2.2.2.1 x.2.2.2.2.2.2.2.1 x.2.2.2.2.2.2.2.2.1 x.2.2.2.2.2.2.2.2.2.1 x.2.2.2.2.2.2.2.2.2.2.1 x.2.2.2.2.2.2.2.2.2.2.2.1 x.2.2.2.2.2.2.2.2.2.2.2.2.1, (fun (p1 : TTranscript) (p2 : Int) (c0_0 : Bool) (c0_1 : Int) (c0_2 : Int) (w1 : List TQuestion) (w2k : List ByteArray) (w2v : List Int) (w3k : List ByteArray) (w3v : List (List Int)) (w4k : List ByteArray) (w4v : List Bool) => (((chO (OS.mk c0_0 c0_1 c0_2 w1 w2k w2v w3k w3v w4k w4v) p1 p2).o.c) : Int)) (TTranscript.mk x.1 x.2.1) x.2.2.1 x.2.2.2.1 x.2.2.2.2.1 x.2.2.2.2.2.1 x.2.2.2.2.2.2.1 x.2.2.2.2.2.2.2.1 x.2.2.2.2.2.2.2.2.1 x.2.2.2.2.2.2.2.2.2.1 x.2.2.2.2.2.2.2.2.2.2.1 x.2.2.2.2.2.2.2.2.2.2.2.1 x.2.2.2.2.2.2.2.2.2.2.2.2.1, (fun (p1 : TTranscript) (p2 : Int) (c0_0 : Bool) (c0_1 : Int) (c0_2 : Int) (w1 : List TQuestion) (w2k : List ByteArray) (w2v : List Int) (w3k : List ByteArray) (w3v : List (List Int)) (w4k : List ByteArray) (w4v : List Bool) => (((chO (OS.mk c0_0 c0_1 c0_2 w1 w2k w2v w3k w3v w4k w4v) p1 p2).o.q) : List TQuestion)) (TTranscript.mk x.1 x.2.1) x.2.2.1 x.2.2.2.1 x.2.2.2.2.1 x.2.2.2.2.2.1 x.2.2.2.2.2.2.1 x.2.2.2.2.2.2.2.1 x.2.2.2.2.2.2.2.2.1 x.2.2.2.2.2.2.2.2.2.1 x.2.2.2.2.2.2.2.2.2.2.1 x.2.2.2.2.2.2.2.2.2.2.2.1 x.2.2.2.2.2.2.2.2.2.2.2.2.1, (fun (p1 : TTranscript) (p2 : Int) (c0_0 : Bool) (c0_1 : Int) (c0_2 : Int) (w1 : List TQuestion) (w2k : List ByteArray) (w2v : List Int) (w3k : List ByteArray) (w3v : List (List Int)) (w4k : List ByteArray) (w4v : List Bool) => (((chO (OS.mk c0_0 c0_1 c0_2 w1 w2k w2v w3k w3v w4k w4v) p1 p2).o.k) : List ByteArray)) (TTranscript.mk x.1 x.2.1) x.2.2.1 x.2.2.2.1 x.2.2.2.2.1 x.2.2.2.2.2.1 x.2.2.2.2.2.2.1 x.2.2.2.2.2.2.2.1 x.2.2.2.2.2.2.2.2.1 x.2.2.2.2.2.2.2.2.2.1 x.2.2.2.2.2.2.2.2.2.2.1 x.2.2.2.2.2.2.2.2.2.2.2.1 x.2.2.2.2.2.2.2.2.2.2.2.2.1, (fun (p1 : TTranscript) (p2 : Int) (c0_0 : Bool) (c0_1 : Int) (c0_2 : Int) (w1 : List TQuestion) (w2k : List ByteArray) (w2v : List Int) (w3k : List ByteArray) (w3v : List (List Int)) (w4k : List ByteArray) (w4v : List Bool) => (((chO (OS.mk c0_0 c0_1 c0_2 w1 w2k w2v w3k w3v w4k w4v) p1 p2).o.v) : List Int)) (TTranscript.mk x.1 x.2.1) x.2.2.1 x.2.2.2.1 x.2.2.2.2.1 x.2.2.2.2.2.1 x.2.2.2.2.2.2.1 x.2.2.2.2.2.2.2.1 x.2.2.2.2.2.2.2.2.1 x.2.2.2.2.2.2.2.2.2.1 x.2.2.2.2.2.2.2.2.2.2.1 x.2.2.2.2.2.2.2.2.2.2.2.1 x.2.2.2.2.2.2.2.2.2.2.2.2.1, (fun (p1 : TTranscript) (p2 : Int) (c0_0 : Bool) (c0_1 : Int) (c0_2 : Int) (w1 : List TQuestion) (w2k : List ByteArray) (w2v : List Int) (w3k : List ByteArray) (w3v : List (List Int)) (w4k : List ByteArray) (w4v : List Bool) => (((chO (OS.mk c0_0 c0_1 c0_2 w1 w2k w2v w3k w3v w4k w4v) p1 p2).o.s) : List ByteArray)) (TTranscript.mk x.1 x.2.1) x.2.2.1 x.2.2.2.1 x.2.2.2.2.1 x.2.2.2.2.2.1 x.2.2.2.2.2.2.1 x.2.2.2.2.2.2.2.1 x.2.2.2.2.2.2.2.2.1 x.2.2.2.2.2.2.2.2.2.1 x.2.2.2.2.2.2.2.2.2.2.1 x.2.2.2.2.2.2.2.2.2.2.2.1 x.2.2.2.2.2.2.2.2.2.2.2.2.1, (fun (p1 : TTranscript) (p2 : Int) (c0_0 : Bool) (c0_1 : Int) (c0_2 : Int) (w1 : List TQuestion) (w2k : List ByteArray) (w2v : List Int) (w3k : List ByteArray) (w3v : List (List Int)) (w4k : List ByteArray) (w4v : List Bool) => (((chO (OS.mk c0_0 c0_1 c0_2 w1 w2k w2v w3k w3v w4k w4v) p1 p2).o.t) : List (List Int))) (TTranscript.mk x.1 x.2.1) x.2.2.1 x.2.2.2.1 x.2.2.2.2.1 x.2.2.2.2.2.1 x.2.2.2.2.2.2.1 x.2.2.2.2.2.2.2.1 x.2.2.2.2.2.2.2.2.1 x.2.2.2.2.2.2.2.2.2.1 x.2.2.2.2.2.2.2.2.2.2.1 x.2.2.2.2.2.2.2.2.2.2.2.1 x.2.2.2.2.2.2.2.2.2.2.2.2.1, (fun (p1 : TTranscript) (p2 : Int) (c0_0 : Bool) (c0_1 : Int) (c0_2 : Int) (w1 : List TQuestion) (w2k : List ByteArray) (w2v : List Int) (w3k : List ByteArray) (w3v : List (List Int)) (w4k : List ByteArray) (w4v : List Bool) => (((chO (OS.mk c0_0 c0_1 c0_2 w1 w2k w2v w3k w3v w4k w4v) p1 p2).o.x) : List ByteArray)) (TTranscript.mk x.1 x.2.1) x.2.2.1 x.2.2.2.1 x.2.2.2.2.1 x.2.2.2.2.2.1 x.2.2.2.2.2.2.1 x.2.2.2.2.2.2.2.1 x.2.2.2.2.2.2.2.2.1 x.2.2.2.2.2.2.2.2.2.1 x.2.2.2.2.2.2.2.2.2.2.1 x.2.2.2.2.2.2.2.2.2.2.2.1 x.2.2.2.2.2.2.2.2.2.2.2.2.1, (fun (p1 : TTranscript) (p2 : Int) (c0_0 : Bool) (c0_1 : Int) (c0_2 : Int) (w1 : List TQuestion) (w2k : List ByteArray) (w2v : List Int) (w3k : List ByteArray) (w3v : List (List Int)) (w4k : List ByteArray) (w4v : List Bool) => (((chO (OS.mk c0_0 c0_1 c0_2 w1 w2k w2v w3k w3v w4k w4v) p1 p2).o.y) : List Bool)) (TTranscript.mk x.1 x.2.1) x.2.2.1 x.2.2.2.1 x.2.2.2.2.1 x.2.2.2.2.2.1 x.2.2.2.2.2.2.1 x.2.2.2.2.2.2.2.1 x.2.2.2.2.2.2.2.2.1 x.2.2.2.2.2.2.2.2.2.1 x.2.2.2.2.2.2.2.2.2.2.1 x.2.2.2.2.2.2.2.2.2.2.2.1 x.2.2.2.2.2.2.2.2.2.2.2.2.1, ())
theorem kgf : ka4.Ok Try.prog TB := Con.ok_fn k1l bd12 fun x h => kpv (kp6 (TTranscript.mk x.1 x.2.1) x.2.2.1 x.2.2.2.1 x.2.2.2.2.1 x.2.2.2.2.2.1 x.2.2.2.2.2.2.1 x.2.2.2.2.2.2.2.1 x.2.2.2.2.2.2.2.2.1 x.2.2.2.2.2.2.2.2.2.1 x.2.2.2.2.2.2.2.2.2.2.1 x.2.2.2.2.2.2.2.2.2.2.2.1 x.2.2.2.2.2.2.2.2.2.2.2.2.1 h)
end Go.Proofs.Ytponaobpcdkggaa
namespace Go.Proofs.Ytponaobpcdkggaa
open Go Go.Bv Go.Cv Go.Md Go.RowKit
def k2l : Con TB.den := Con.mk0 11 [.one (.d (.int .u64))] [] (.one (.agg [.d (.int .u64), .d (.int .u64)])) []
abbrev ksk := HL TB.den (hsT k2l.ins (hsOs k2l.pre))
abbrev kfm := HL TB.den (hsV k2l.res (hsOs k2l.post))
noncomputable def kag : Cx TB := ⟨inf, [], [], 4, []⟩
noncomputable def kgc : Code := Try.f11.body.getD .skip
noncomputable def kjo : List ResultVar := Try.f11.results.toList
noncomputable def kqo (o : kfm) : An TB := .no
noncomputable def kgd (x : ksk) (o : kfm) : Prop := WPh TB kag 5 0 kgc (kqo o) (k2l.st TB x) (retTQ TB kag k2l kjo o)
set_option maxRecDepth 100000 in
theorem kxu (o : kfm) : OblH TB kag 5 0 kgc (kqo o) (retTQ TB kag k2l kjo o) :=
  OblH.of_eq (X := (True ∧ (True ∧ True))) (by kernel_rfl) ⟨trivial, ⟨trivial, trivial⟩⟩
set_option maxRecDepth 100000 in
theorem kyy {x : ksk} {o : kfm} (h : kgd x o) : SoundH Try.prog k2l.f ((k2l.args idf x).map (er TB)) ((k2l.obs idf x).map (erO TB)) (er TB (k2l.val idf o)) ((k2l.ops idf o).map (erO TB)) :=
  Con.soundH (c := k2l) (C := kag) TBok ⟨inf_ok, all_nil, all_nil⟩ mix Try.func11 (show Try.f11.body = some kgc by kernel_rfl) (show Try.f11.ntmps = 5 by kernel_rfl) (show Try.f11.results.toList = kjo by kernel_rfl) rfl h (kxu o)
set_option maxRecDepth 100000 in
theorem kzl {p0 : Int} {r0 : TTranscript} (h :
(p0 = r0.State ∧ 0 = r0.Count)) : kgd (p0, ()) (r0.State, r0.Count, ()) := WPh.of_eq (by kernel_rfl) h
theorem bd11 : Callable Try.prog 11 := ⟨by rw [Try.func11]; kernel_rfl, by rw [Try.func11]; show some _ ≠ some _; decide⟩
theorem kxo (p0 : Int) : kgd (p0, ()) ((p0 : Int), (0 : Int), ()) := by
  exact kzl (r0 := ⟨p0, 0⟩) ⟨rfl, rfl⟩
noncomputable def kpj : Con TB.den := k2l.totR fun x => ((fun (p0 : Int) => (p0 : Int)) x.1, (fun (p0 : Int) => (0 : Int)) x.1, ())
theorem kzh : kpj.Ok Try.prog TB := Con.ok_tot k2l bd11 fun x => kyy (kxo x.1)
end Go.Proofs.Ytponaobpcdkggaa
namespace Go.Proofs.Ytponaobpcdkggaa
open Go Go.Bv Go.Cv Go.Md Go.RowKit
def k26 : Con TB.den := Con.mk0 36 [.one (.view 0)] [.vec (.int .i64)] (.one (.one (.row 1))) [.vec (.int .i64), .vec (.int .i64)]
abbrev kpc := HL TB.den (hsT k26.ins (hsOs k26.pre))
abbrev k9i := HL TB.den (hsV k26.res (hsOs k26.post))
noncomputable def k8v : Cx TB := ⟨inf, [], [], 4, [5, 7]⟩
noncomputable def ke2 : Code := Try.f36.body.getD .skip
noncomputable def kgb : List ResultVar := Try.f36.results.toList
noncomputable def kxi (o : k9i) : An TB := .nd [] .no [] (.nd [] (.nd [] .no [] (.rt [.rnil 2 (.int .i64)])) [] .no)
noncomputable def kni (o : k9i) : An TB := .nd [] .no [] (.nd [] (kxi o) [] .no)
noncomputable def kdk (x : kpc) (o : k9i) : Prop := WPh TB k8v 8 1 ke2 (kni o) (k26.st TB x) (retTQ TB k8v k26 kgb o)
set_option maxRecDepth 100000 in
theorem kvl (o : k9i) : OblH TB k8v 8 1 ke2 (kni o) (retTQ TB k8v k26 kgb o) :=
  OblH.of_eq (X := (True ∧ ((True ∧ ((True ∧ True) ∧ True)) ∧ (True ∧ True)))) (by kernel_rfl) ⟨trivial, ⟨⟨trivial, ⟨⟨trivial, trivial⟩, trivial⟩⟩, ⟨trivial, trivial⟩⟩⟩
set_option maxRecDepth 100000 in
theorem kw7 {x : kpc} {o : k9i} (h : kdk x o) : SoundH Try.prog k26.f ((k26.args idf x).map (er TB)) ((k26.obs idf x).map (erO TB)) (er TB (k26.val idf o)) ((k26.ops idf o).map (erO TB)) :=
  Con.soundH (c := k26) (C := k8v) TBok ⟨inf_ok, all_nil, all_nil⟩ mix Try.func36 (show Try.f36.body = some ke2 by kernel_rfl) (show Try.f36.ntmps = 8 by kernel_rfl) (show Try.f36.results.toList = kgb by kernel_rfl) rfl h (kvl o)
set_option maxRecDepth 100000 in
theorem kxl {p0o : Int} {p0n : Int} {w0 : List Int} {e0 : List Int} {e1 : List Int} (h :
(∀ z4 : Bool, (z4 = true → p0n.toNat = 0) → (z4 = true →
(0 = ([] : List Int).length) ∧ w0 = e0 ∧ ([] : List Int) = e1) ∧
(z4 = false →
([] : List Int).length = ([] : List Int).length ∧ p0o.toNat + p0n.toNat ≤ w0.length ∧ (([] : List Int).length + ((w0.drop p0o.toNat).take p0n.toNat).length) * 8 ≤ 140737488355328 ∧ ([] : List Int).length + ((w0.drop p0o.toNat).take p0n.toNat).length ≤ maxLen ∧ let v5 : List Int := ([] : List Int) ++ ((w0.drop p0o.toNat).take p0n.toNat)
(v5.length = v5.length) ∧ w0 = e0 ∧ v5 = e1))) : kdk (p0o, p0n, w0, ()) (e0, e1, ()) := WPh.of_eq (by kernel_rfl) h
theorem bd36 : Callable Try.prog 36 := ⟨by rw [Try.func36]; kernel_rfl, by rw [Try.func36]; show some _ ≠ some _; decide⟩
theorem kuu (p0o : Int) (p0n : Int) (w0 : List Int) (h : 0 ≤ p0o ∧ 0 ≤ p0n ∧ p0o.toNat + p0n.toNat ≤ w0.length ∧ w0.length ≤ 1000000) : kdk (p0o, p0n, w0, ()) ((w0 : List Int), (((w0.drop p0o.toNat).take p0n.toNat) : List Int), ()) := by
  obtain ⟨h1, h2, h3, h4⟩ := h
  have hl : ((w0.drop p0o.toNat).take p0n.toNat).length = p0n.toNat := by rw [List.length_take, List.length_drop]; omega
  refine kxl fun z hz => ⟨fun e => ?_, fun e => ?_⟩
  · have := hz e
    rw [this]
    exact ⟨rfl, rfl, by simp⟩
  · exact ⟨rfl, h3, by rw [hl]; simp; omega, by rw [hl]; simp; unfold maxLen; omega, by simp⟩
noncomputable def kly : Con TB.den := k26.fnR (fun x => (fun (p0o : Int) (p0n : Int) (w0 : List Int) => 0 ≤ p0o ∧ 0 ≤ p0n ∧ p0o.toNat + p0n.toNat ≤ w0.length ∧ w0.length ≤ 1000000) x.1 x.2.1 x.2.2.1) fun x => ((fun (p0o : Int) (p0n : Int) (w0 : List Int) => (w0 : List Int)) x.1 x.2.1 x.2.2.1, (fun (p0o : Int) (p0n : Int) (w0 : List Int) => (((w0.drop p0o.toNat).take p0n.toNat) : List Int)) x.1 x.2.1 x.2.2.1, ())
theorem kxh : kly.Ok Try.prog TB := Con.ok_fn k26 bd36 fun x h => kw7 (kuu x.1 x.2.1 x.2.2.1 h)
end Go.Proofs.Ytponaobpcdkggaa
namespace Go.Proofs.Ytponaobpcdkggaa
open Go Go.Bv Go.Cv Go.Md Go.RowKit
def k5d : Con TB.den := Con.mk0 47 [.one (.d (.int .u64))] [] (.one (.one (.d (.int .i64)))) []
abbrev k139 := HL TB.den (hsT k5d.ins (hsOs k5d.pre))
abbrev kqz := HL TB.den (hsV k5d.res (hsOs k5d.post))
noncomputable def kk1 : Cx TB := ⟨inf, [kob], [], 4, []⟩
noncomputable def kq7 : Code := Try.f47.body.getD .skip
noncomputable def ku0 : List ResultVar := Try.f47.results.toList
noncomputable def k10i (o : kqz) : An TB := .no
noncomputable def kpw (x : k139) (o : kqz) : Prop := WPh TB kk1 8 0 kq7 (k10i o) (k5d.st TB x) (retTQ TB kk1 k5d ku0 o)
set_option maxRecDepth 100000 in
theorem k17x (o : kqz) : OblH TB kk1 8 0 kq7 (k10i o) (retTQ TB kk1 k5d ku0 o) :=
  OblH.of_eq (X := (True ∧ (((True ∧ True) ∧ True) ∧ (True ∧ True)))) (by kernel_rfl) ⟨trivial, ⟨⟨⟨trivial, trivial⟩, trivial⟩, ⟨trivial, trivial⟩⟩⟩
set_option maxRecDepth 100000 in
theorem k17g {x : k139} {o : kqz} (h : kpw x o) : SoundH Try.prog k5d.f ((k5d.args idf x).map (er TB)) ((k5d.obs idf x).map (erO TB)) (er TB (k5d.val idf o)) ((k5d.ops idf o).map (erO TB)) :=
  Con.soundH (c := k5d) (C := kk1) TBok ⟨inf_ok, (all_cons kwc all_nil), all_nil⟩ mix Try.func47 (show Try.f47.body = some kq7 by kernel_rfl) (show Try.f47.ntmps = 8 by kernel_rfl) (show Try.f47.results.toList = ku0 by kernel_rfl) rfl h (k17x o)
set_option maxRecDepth 100000 in
theorem k1a2 {p0 : Int} {r0 : Int} (h :
((U64 p0) ∧ (len64 p0) = r0)) : kpw (p0, ()) (r0, ()) := WPh.of_eq (by kernel_rfl) h
theorem bd47 : Callable Try.prog 47 := ⟨by rw [Try.func47]; kernel_rfl, by rw [Try.func47]; show some _ ≠ some _; decide⟩
theorem k16n (p0 : Int) (h : U64 p0) : kpw (p0, ()) (((len64 p0) : Int), ()) := by
  exact k1a2 ⟨h, rfl⟩
noncomputable def kru : Con TB.den := k5d.fnR (fun x => (fun (p0 : Int) => U64 p0) x.1) fun x => ((fun (p0 : Int) => ((len64 p0) : Int)) x.1, ())
theorem k106 : kru.Ok Try.prog TB := Con.ok_fn k5d bd47 fun x h => k17g (k16n x.1 h)
end Go.Proofs.Ytponaobpcdkggaa
namespace Go.Proofs.Ytponaobpcdkggaa
open Go Go.Bv Go.Cv Go.Md Go.RowKit
def k2y : Con TB.den := Con.mk0 84 [.one (.d (.int .i64))] [] (.one (.one (.d (.bool)))) []
abbrev ktk := HL TB.den (hsT k2y.ins (hsOs k2y.pre))
abbrev kgm := HL TB.den (hsV k2y.res (hsOs k2y.post))
noncomputable def kbe : Cx TB := ⟨inf, [], [], 4, []⟩
noncomputable def khe : Code := Try.f84.body.getD .skip
noncomputable def kl1 : List ResultVar := Try.f84.results.toList
noncomputable def krx (o : kgm) : An TB := .no
noncomputable def khv (x : ktk) (o : kgm) : Prop := WPh TB kbe 6 0 khe (krx o) (k2y.st TB x) (retTQ TB kbe k2y kl1 o)
set_option maxRecDepth 100000 in
theorem k100 (o : kgm) : OblH TB kbe 6 0 khe (krx o) (retTQ TB kbe k2y kl1 o) :=
  OblH.of_eq (X := (True ∧ (True ∧ True))) (by kernel_rfl) ⟨trivial, ⟨trivial, trivial⟩⟩
set_option maxRecDepth 100000 in
theorem kzr {x : ktk} {o : kgm} (h : khv x o) : SoundH Try.prog k2y.f ((k2y.args idf x).map (er TB)) ((k2y.obs idf x).map (erO TB)) (er TB (k2y.val idf o)) ((k2y.ops idf o).map (erO TB)) :=
  Con.soundH (c := k2y) (C := kbe) TBok ⟨inf_ok, all_nil, all_nil⟩ mix Try.func84 (show Try.f84.body = some khe by kernel_rfl) (show Try.f84.ntmps = 6 by kernel_rfl) (show Try.f84.results.toList = kl1 by kernel_rfl) rfl h (k100 o)
set_option maxRecDepth 100000 in
theorem k11i {p0 : Int} {r0 : Bool} (h :
((p0 != p0) = r0)) : khv (p0, ()) (r0, ()) := WPh.of_eq (by kernel_rfl) h
theorem bd84 : Callable Try.prog 84 := ⟨by rw [Try.func84]; kernel_rfl, by rw [Try.func84]; show some _ ≠ some _; decide⟩
theorem kyv (p0 : Int) : khv (p0, ()) ((false : Bool), ()) := by
  exact k11i (by simp)
noncomputable def kqd : Con TB.den := k2y.totR fun x => ((fun (p0 : Int) => (false : Bool)) x.1, ())
theorem k117 : kqd.Ok Try.prog TB := Con.ok_tot k2y bd84 fun x => kzr (kyv x.1)
end Go.Proofs.Ytponaobpcdkggaa
namespace Go.Proofs.Ytponaobpcdkggaa
open Go Go.Bv Go.Cv Go.Md Go.RowKit
def k3f : Con TB.den := Con.mk0 61 [.one (.d (.int .i64)), .one (.d (.int .i64))] [] (.one (.one (.d (.bool)))) []
abbrev kur := HL TB.den (hsT k3f.ins (hsOs k3f.pre))
abbrev kii := HL TB.den (hsV k3f.res (hsOs k3f.post))
noncomputable def kcj : Cx TB := ⟨inf, [kqd], [], 4, []⟩
noncomputable def kjd : Code := Try.f61.body.getD .skip
noncomputable def kmx : List ResultVar := Try.f61.results.toList
noncomputable def ktw (o : kii) : An TB := .no
noncomputable def kj8 (x : kur) (o : kii) : Prop := WPh TB kcj 17 0 kjd (ktw o) (k3f.st TB x) (retTQ TB kcj k3f kmx o)
set_option maxRecDepth 100000 in
theorem k11a (o : kii) : OblH TB kcj 17 0 kjd (ktw o) (retTQ TB kcj k3f kmx o) :=
  OblH.of_eq (X := (True ∧ (True ∧ True))) (by kernel_rfl) ⟨trivial, ⟨trivial, trivial⟩⟩
set_option maxRecDepth 100000 in
theorem k10t {x : kur} {o : kii} (h : kj8 x o) : SoundH Try.prog k3f.f ((k3f.args idf x).map (er TB)) ((k3f.obs idf x).map (erO TB)) (er TB (k3f.val idf o)) ((k3f.ops idf o).map (erO TB)) :=
  Con.soundH (c := k3f) (C := kcj) TBok ⟨inf_ok, (all_cons k117 all_nil), all_nil⟩ mix Try.func61 (show Try.f61.body = some kjd by kernel_rfl) (show Try.f61.ntmps = 17 by kernel_rfl) (show Try.f61.results.toList = kmx by kernel_rfl) rfl h (k11a o)
set_option maxRecDepth 100000 in
theorem k13a {p0 : Int} {p1 : Int} {r0 : Bool} (h :
((false = true →
((!false) = true →
 true = r0) ∧
((!false) = false →
 decide (p0 < p1) = r0)) ∧
(false = false →
 decide (p0 < p1) = r0))) : kj8 (p0, p1, ()) (r0, ()) := WPh.of_eq (by kernel_rfl) h
theorem bd61 : Callable Try.prog 61 := ⟨by rw [Try.func61]; kernel_rfl, by rw [Try.func61]; show some _ ≠ some _; decide⟩
theorem kzp (p0 : Int) (p1 : Int) : kj8 (p0, p1, ()) (((decide (p0 < p1)) : Bool), ()) := by
  exact k13a ⟨fun h => by simp at h, fun _ => rfl⟩
noncomputable def k6w : Con TB.den := k3f.totR fun x => ((fun (p0 : Int) (p1 : Int) => ((decide (p0 < p1)) : Bool)) x.1 x.2.1, ())
theorem k8e : k6w.Ok Try.prog TB := Con.ok_tot k3f bd61 fun x => k10t (kzp x.1 x.2.1)
end Go.Proofs.Ytponaobpcdkggaa
namespace Go.Proofs.Ytponaobpcdkggaa
open Go Go.Bv Go.Cv Go.Md Go.RowKit
def k1q : Con TB.den := Con.mk0 80 [.one (.d (.int .i64))] [] (.one (.one (.d (.int .u64)))) []
abbrev kix := HL TB.den (hsT k1q.ins (hsOs k1q.pre))
abbrev k8u := HL TB.den (hsV k1q.res (hsOs k1q.post))
noncomputable def k6s : Cx TB := ⟨inf, [kru], [], 4, []⟩
noncomputable def ka5 : Code := Try.f80.body.getD .skip
noncomputable def kb9 : List ResultVar := Try.f80.results.toList
noncomputable def khd (o : k8u) : An TB := .no
noncomputable def kg2 (x : kix) (o : k8u) : Prop := WPh TB k6s 7 0 ka5 (khd o) (k1q.st TB x) (retTQ TB k6s k1q kb9 o)
set_option maxRecDepth 100000 in
theorem kqt (o : k8u) : OblH TB k6s 7 0 ka5 (khd o) (retTQ TB k6s k1q kb9 o) :=
  OblH.of_eq (X := (True ∧ (True ∧ True))) (by kernel_rfl) ⟨trivial, ⟨trivial, trivial⟩⟩
set_option maxRecDepth 100000 in
theorem kqs {x : kix} {o : k8u} (h : kg2 x o) : SoundH Try.prog k1q.f ((k1q.args idf x).map (er TB)) ((k1q.obs idf x).map (erO TB)) (er TB (k1q.val idf o)) ((k1q.ops idf o).map (erO TB)) :=
  Con.soundH (c := k1q) (C := k6s) TBok ⟨inf_ok, (all_cons k106 all_nil), all_nil⟩ mix Try.func80 (show Try.f80.body = some ka5 by kernel_rfl) (show Try.f80.ntmps = 7 by kernel_rfl) (show Try.f80.results.toList = kb9 by kernel_rfl) rfl h (kqt o)
theorem bd80 : Callable Try.prog 80 := ⟨by rw [Try.func80]; kernel_rfl, by rw [Try.func80]; show some _ ≠ some _; decide⟩
noncomputable def kgg : Con TB.den := k1q.relR kg2
theorem ksh : kgg.Ok Try.prog TB := Con.ok_rel k1q bd80 fun _ _ h => kqs h
end Go.Proofs.Ytponaobpcdkggaa
namespace Go.Proofs.Ytponaobpcdkggaa
open Go Go.Bv Go.Cv Go.Md Go.RowKit
def k2w : Con TB.den := Con.mk0 81 [.one (.ptr 0 0)] [.cells [.d (.int .u64)]] (.one (.one (.d (.int .u64)))) [.cells [.d (.int .u64)]]
abbrev ktb := HL TB.den (hsT k2w.ins (hsOs k2w.pre))
abbrev kgj := HL TB.den (hsV k2w.res (hsOs k2w.post))
noncomputable def kbq : Cx TB := ⟨inf, [], [], 4, []⟩
noncomputable def khh : Code := Try.f81.body.getD .skip
noncomputable def kko : List ResultVar := Try.f81.results.toList
noncomputable def ks0 (o : kgj) : An TB := .no
noncomputable def kp7 (x : ktb) (o : kgj) : Prop := WPh TB kbq 33 1 khh (ks0 o) (k2w.st TB x) (retTQ TB kbq k2w kko o)
set_option maxRecDepth 100000 in
theorem kzc (o : kgj) : OblH TB kbq 33 1 khh (ks0 o) (retTQ TB kbq k2w kko o) :=
  OblH.of_eq (X := (True ∧ (True ∧ (True ∧ (True ∧ (True ∧ True)))))) (by kernel_rfl) ⟨trivial, ⟨trivial, ⟨trivial, ⟨trivial, ⟨trivial, trivial⟩⟩⟩⟩⟩
set_option maxRecDepth 100000 in
theorem kzx {x : ktb} {o : kgj} (h : kp7 x o) : SoundH Try.prog k2w.f ((k2w.args idf x).map (er TB)) ((k2w.obs idf x).map (erO TB)) (er TB (k2w.val idf o)) ((k2w.ops idf o).map (erO TB)) :=
  Con.soundH (c := k2w) (C := kbq) TBok ⟨inf_ok, all_nil, all_nil⟩ mix Try.func81 (show Try.f81.body = some khh by kernel_rfl) (show Try.f81.ntmps = 33 by kernel_rfl) (show Try.f81.results.toList = kko by kernel_rfl) rfl h (kzc o)
theorem bd81 : Callable Try.prog 81 := ⟨by rw [Try.func81]; kernel_rfl, by rw [Try.func81]; show some _ ≠ some _; decide⟩
noncomputable def kqq : Con TB.den := k2w.relR kp7
theorem k11y : kqq.Ok Try.prog TB := Con.ok_rel k2w bd81 fun _ _ h => kzx h
end Go.Proofs.Ytponaobpcdkggaa
namespace Go.Proofs.Ytponaobpcdkggaa
open Go Go.Bv Go.Cv Go.Md Go.RowKit
def kp : Con TB.den := Con.mk0 57 [.one (.row 0), .one (.d (.int .i64)), .one (.d (.int .i64))] [.vec (.int .i64)] (.tup []) [.vec (.int .i64)]
abbrev kb0 := HL TB.den (hsT kp.ins (hsOs kp.pre))
abbrev kz := HL TB.den (hsV kp.res (hsOs kp.post))
noncomputable def k1w : Cx TB := ⟨inf, [kgg, kqq], [], 4, []⟩
noncomputable def k33 : Code := Try.f57.body.getD .skip
noncomputable def k5m : List ResultVar := Try.f57.results.toList
noncomputable def kj7 (o : kz) : Exit → TSt TB.den → Prop := blockT TB 0 (retTQ TB k1w kp k5m o)
def k1g : Tm := ⟨[0, 1], [.vec (.int .i64), .cells [.d (.int .u64)]], [0, 1, 6, 7, 8, 9], [.one (.row 0), .one (.d (.int .i64)), .one (.d (.int .i64)), .one (.ptr 1 0), .one (.d (.int .u64)), .one (.d (.int .i64))], 2⟩
noncomputable def k7a (o : kz) (nx1 : HL TB.den k1g.hs → Prop) : Exit → TSt TB.den → Prop := thenT TB (fun s => k1g.mat TB 1 s nx1) (kj7 o)
noncomputable def kjf (o : kz) (nx1 : HL TB.den k1g.hs → Prop) : Exit → TSt TB.den → Prop := thenT TB (fun s => ghs TB [] s fun s => WP TB k1w 65 1 (cB (cB (cA (cA (cB (cB (cB (cA (cB (cB k33)))))))))) .no s (k7a o nx1)) (k7a o nx1)
def k5h : Tm := ⟨[0, 1], [.vec (.int .i64), .cells [.d (.int .u64)]], [0, 1, 6, 7, 8, 9, 10], [.one (.row 0), .one (.d (.int .i64)), .one (.d (.int .i64)), .one (.ptr 1 0), .one (.d (.int .u64)), .one (.d (.int .i64)), .one (.d (.int .i64))], 2⟩
noncomputable def k9x (o : kz) (nx1 : HL TB.den k1g.hs → Prop) (i : HL TB.den k5h.hs) : Prop := ghs TB [] (k5h.fill TB i) fun s => WP TB k1w 65 1 (cB (cB (cA (cA (cB (cA (cA (cB (cB (cB (cA (cB (cB k33))))))))))))) .no s (blockT TB 1 (kjf o nx1))
structure kar (o : kz) (nx1 : HL TB.den k1g.hs → Prop) (i : HL TB.den k5h.hs) : Prop where
  h : k9x o nx1 i
noncomputable def kjk (o : kz) (nx1 : HL TB.den k1g.hs → Prop) : An TB := .jn k5h (kar o nx1) [] .no [] .no
noncomputable def kah (o : kz) (nx1 : HL TB.den k1g.hs → Prop) : An TB := .nd [] (.nd [] .no [] (kjk o nx1)) [] .no
noncomputable def k78 (o : kz) (nx1 : HL TB.den k1g.hs → Prop) (i : HL TB.den k1g.hs) : Prop := WP TB k1w 65 1 (cA (cA (cB (cB (cB (cA (cB (cB k33)))))))) (.nd [] .no [] (kah o nx1)) (k1g.fill TB i) (k7a o nx1)
noncomputable def kj9 (o : kz) : An TB := .lp [] k1g (k78 o) fun nx1 => (.nd [] .no [] (kah o nx1))
noncomputable def kjm (o : kz) : An TB := .nd [] .no [] (.nd [] .no [] (kj9 o))
noncomputable def kig (o : kz) : An TB := .nd [] (.nd [] .no [] (kjm o)) [] .no
noncomputable def kai (o : kz) : An TB := .nd [] .no [] (.nd [] .no [] (kig o))
noncomputable def k6r (x : kb0) (o : kz) : Prop := WPh TB k1w 65 1 k33 (kai o) (kp.st TB x) (retTQ TB k1w kp k5m o)
set_option maxRecDepth 100000 in
theorem ki8 (o : kz) : OblH TB k1w 65 1 k33 (kai o) (retTQ TB k1w kp k5m o) :=
  OblH.of_eq (X := (True ∧ (True ∧ ((True ∧ (True ∧ (True ∧ ((∀ nx i, (k78 o) nx i = (k78 o) nx i) ∧ ∀ nx1 : HL TB.den k1g.hs → Prop, ((True ∧ (True ∧ True)) ∧ ((True ∧ ((True ∧ (True ∧ True)) ∧ (∀ i, (kar o nx1) i = (k9x o nx1) i) ∧ True)) ∧ True)))))) ∧ True)))) (by kernel_rfl) ⟨trivial, ⟨trivial, ⟨⟨trivial, ⟨trivial, ⟨trivial, ⟨fun _ _ => rfl, fun _ => ⟨⟨trivial, ⟨trivial, trivial⟩⟩, ⟨⟨trivial, ⟨⟨trivial, ⟨trivial, trivial⟩⟩, fun _ => propext ⟨fun h => h.1, fun h => ⟨h⟩⟩, trivial⟩⟩, trivial⟩⟩⟩⟩⟩⟩, trivial⟩⟩⟩
set_option maxRecDepth 100000 in
theorem kij {x : kb0} {o : kz} (h : k6r x o) : SoundH Try.prog kp.f ((kp.args idf x).map (er TB)) ((kp.obs idf x).map (erO TB)) (er TB (kp.val idf o)) ((kp.ops idf o).map (erO TB)) :=
  Con.soundH (c := kp) (C := k1w) TBok ⟨inf_ok, (all_cons ksh (all_cons k11y all_nil)), all_nil⟩ mix Try.func57 (show Try.f57.body = some k33 by kernel_rfl) (show Try.f57.ntmps = 65 by kernel_rfl) (show Try.f57.results.toList = k5m by kernel_rfl) rfl h (ki8 o)
theorem bd57 : Callable Try.prog 57 := ⟨by rw [Try.func57]; kernel_rfl, by rw [Try.func57]; show some _ ≠ some _; decide⟩
noncomputable def k9u : Con TB.den := kp.relR k6r
theorem kjj : k9u.Ok Try.prog TB := Con.ok_rel kp bd57 fun _ _ h => kij h
end Go.Proofs.Ytponaobpcdkggaa
namespace Go.Proofs.Ytponaobpcdkggaa
open Go Go.Bv Go.Cv Go.Md Go.RowKit
def k1h : Con TB.den := Con.mk0 91 [.one (.row 0), .one (.d (.int .i64)), .one (.d (.int .i64)), .one (.ptr 1 0)] [.vec (.int .i64), .cells [.d (.int .i64)]] (.tup [.one (.d (.int .i64)), .one (.d (.int .i64))]) [.vec (.int .i64), .cells [.d (.int .i64)]]
abbrev kfs := HL TB.den (hsT k1h.ins (hsOs k1h.pre))
abbrev k7q := HL TB.den (hsV k1h.res (hsOs k1h.post))
noncomputable def k60 : Cx TB := ⟨inf, [k6w], [], 4, []⟩
noncomputable def k8n : Code := Try.f91.body.getD .skip
noncomputable def k9f : List ResultVar := Try.f91.results.toList
noncomputable def kf1 (o : k7q) : An TB := .no
noncomputable def kcy (x : kfs) (o : k7q) : Prop := WPh TB k60 28 2 k8n (kf1 o) (k1h.st TB x) (retTQ TB k60 k1h k9f o)
set_option maxRecDepth 100000 in
theorem knv (o : k7q) : OblH TB k60 28 2 k8n (kf1 o) (retTQ TB k60 k1h k9f o) :=
  OblH.of_eq (X := (True ∧ ((True ∧ ((True ∧ (True ∧ True)) ∧ True)) ∧ (True ∧ True)))) (by kernel_rfl) ⟨trivial, ⟨⟨trivial, ⟨⟨trivial, ⟨trivial, trivial⟩⟩, trivial⟩⟩, ⟨trivial, trivial⟩⟩⟩
set_option maxRecDepth 100000 in
theorem kod {x : kfs} {o : k7q} (h : kcy x o) : SoundH Try.prog k1h.f ((k1h.args idf x).map (er TB)) ((k1h.obs idf x).map (erO TB)) (er TB (k1h.val idf o)) ((k1h.ops idf o).map (erO TB)) :=
  Con.soundH (c := k1h) (C := k60) TBok ⟨inf_ok, (all_cons k8e all_nil), all_nil⟩ mix Try.func91 (show Try.f91.body = some k8n by kernel_rfl) (show Try.f91.ntmps = 28 by kernel_rfl) (show Try.f91.results.toList = k9f by kernel_rfl) rfl h (knv o)
theorem bd91 : Callable Try.prog 91 := ⟨by rw [Try.func91]; kernel_rfl, by rw [Try.func91]; show some _ ≠ some _; decide⟩
noncomputable def kdw : Con TB.den := k1h.relR kcy
theorem kp4 : kdw.Ok Try.prog TB := Con.ok_rel k1h bd91 fun _ _ h => kod h
end Go.Proofs.Ytponaobpcdkggaa
namespace Go.Proofs.Ytponaobpcdkggaa
open Go Go.Bv Go.Cv Go.Md Go.RowKit
def k1i : Con TB.den := Con.mk0 83 [.one (.row 0), .one (.d (.int .i64)), .one (.d (.int .i64)), .one (.d (.int .i64)), .one (.ptr 1 0)] [.vec (.int .i64), .cells [.d (.int .i64)]] (.one (.one (.d (.int .i64)))) [.vec (.int .i64), .cells [.d (.int .i64)]]
abbrev kg5 := HL TB.den (hsT k1i.ins (hsOs k1i.pre))
abbrev k7o := HL TB.den (hsV k1i.res (hsOs k1i.post))
noncomputable def k5z : Cx TB := ⟨inf, [kdw], [], 4, []⟩
noncomputable def k8t : Code := Try.f83.body.getD .skip
noncomputable def k9g : List ResultVar := Try.f83.results.toList
noncomputable def kf8 (o : k7o) : An TB := .no
noncomputable def kcx (x : kg5) (o : k7o) : Prop := WPh TB k5z 36 2 k8t (kf8 o) (k1i.st TB x) (retTQ TB k5z k1i k9g o)
set_option maxRecDepth 100000 in
theorem ko4 (o : k7o) : OblH TB k5z 36 2 k8t (kf8 o) (retTQ TB k5z k1i k9g o) :=
  OblH.of_eq (X := (True ∧ (True ∧ (True ∧ (True ∧ (True ∧ True)))))) (by kernel_rfl) ⟨trivial, ⟨trivial, ⟨trivial, ⟨trivial, ⟨trivial, trivial⟩⟩⟩⟩⟩
set_option maxRecDepth 100000 in
theorem knu {x : kg5} {o : k7o} (h : kcx x o) : SoundH Try.prog k1i.f ((k1i.args idf x).map (er TB)) ((k1i.obs idf x).map (erO TB)) (er TB (k1i.val idf o)) ((k1i.ops idf o).map (erO TB)) :=
  Con.soundH (c := k1i) (C := k5z) TBok ⟨inf_ok, (all_cons kp4 all_nil), all_nil⟩ mix Try.func83 (show Try.f83.body = some k8t by kernel_rfl) (show Try.f83.ntmps = 36 by kernel_rfl) (show Try.f83.results.toList = k9g by kernel_rfl) rfl h (ko4 o)
theorem bd83 : Callable Try.prog 83 := ⟨by rw [Try.func83]; kernel_rfl, by rw [Try.func83]; show some _ ≠ some _; decide⟩
noncomputable def k93 : Con TB.den := k1i.relR kcx
theorem kf6 : k93.Ok Try.prog TB := Con.ok_rel k1i bd83 fun _ _ h => knu h
end Go.Proofs.Ytponaobpcdkggaa
namespace Go.Proofs.Ytponaobpcdkggaa
open Go Go.Bv Go.Cv Go.Md Go.RowKit
def kw : Con TB.den := Con.mk0 82 [.one (.row 0), .one (.d (.int .i64)), .one (.ptr 1 0)] [.vec (.int .i64), .cells [.d (.int .i64)]] (.one (.one (.d (.int .i64)))) [.vec (.int .i64), .cells [.d (.int .i64)]]
abbrev kap := HL TB.den (hsT kw.ins (hsOs kw.pre))
abbrev k5l := HL TB.den (hsV kw.res (hsOs kw.post))
noncomputable def k46 : Cx TB := ⟨inf, [k93], [], 4, []⟩
noncomputable def k6i : Code := Try.f82.body.getD .skip
noncomputable def k6x : List ResultVar := Try.f82.results.toList
noncomputable def k9v (o : k5l) : An TB := .no
noncomputable def k94 (x : kap) (o : k5l) : Prop := WPh TB k46 15 2 k6i (k9v o) (kw.st TB x) (retTQ TB k46 kw k6x o)
set_option maxRecDepth 100000 in
theorem khm (o : k5l) : OblH TB k46 15 2 k6i (k9v o) (retTQ TB k46 kw k6x o) :=
  OblH.of_eq (X := (True ∧ (True ∧ True))) (by kernel_rfl) ⟨trivial, ⟨trivial, trivial⟩⟩
set_option maxRecDepth 100000 in
theorem kh2 {x : kap} {o : k5l} (h : k94 x o) : SoundH Try.prog kw.f ((kw.args idf x).map (er TB)) ((kw.obs idf x).map (erO TB)) (er TB (kw.val idf o)) ((kw.ops idf o).map (erO TB)) :=
  Con.soundH (c := kw) (C := k46) TBok ⟨inf_ok, (all_cons kf6 all_nil), all_nil⟩ mix Try.func82 (show Try.f82.body = some k6i by kernel_rfl) (show Try.f82.ntmps = 15 by kernel_rfl) (show Try.f82.results.toList = k6x by kernel_rfl) rfl h (khm o)
theorem bd82 : Callable Try.prog 82 := ⟨by rw [Try.func82]; kernel_rfl, by rw [Try.func82]; show some _ ≠ some _; decide⟩
noncomputable def k9k : Con TB.den := kw.relR k94
theorem kih : k9k.Ok Try.prog TB := Con.ok_rel kw bd82 fun _ _ h => kh2 h
end Go.Proofs.Ytponaobpcdkggaa
namespace Go.Proofs.Ytponaobpcdkggaa
open Go Go.Bv Go.Cv Go.Md Go.RowKit
def kr : Con TB.den := Con.mk0 58 [.one (.row 0), .one (.d (.int .i64)), .one (.d (.int .i64))] [.vec (.int .i64)] (.tup [.one (.d (.int .i64)), .one (.d (.int .i64))]) [.vec (.int .i64)]
abbrev kbw := HL TB.den (hsT kr.ins (hsOs kr.pre))
abbrev k1c := HL TB.den (hsV kr.res (hsOs kr.post))
noncomputable def k25 : Cx TB := ⟨inf, [k9k, k93], [], 4, []⟩
noncomputable def k4e : Code := Try.f58.body.getD .skip
noncomputable def k4s : List ResultVar := Try.f58.results.toList
def k4m : Tm := ⟨[0, 1], [.vec (.int .i64), .cells [.d (.int .i64)]], [9, 11], [.one (.ptr 1 0), .one (.d (.int .i64))], 2⟩
noncomputable def kb6 (o : k1c) (i : HL TB.den k4m.hs) : Prop := ghs TB [] (k4m.fill TB i) fun s => WP TB k25 57 1 (cB (cB (cB (cB (cB (cB (cB k4e))))))) .no s (retTQ TB k25 kr k4s o)
structure k7t (o : k1c) (i : HL TB.den k4m.hs) : Prop where
  h : kb6 o i
noncomputable def kkx (o : k1c) : Exit → TSt TB.den → Prop := thenT TB (fun s => k4m.mat TB 1 s (k7t o)) (retTQ TB k25 kr k4s o)
def k5q : Tm := ⟨[0, 1], [.vec (.int .i64), .cells [.d (.int .i64)]], [0, 9, 10, 11, 12], [.one (.row 0), .one (.ptr 1 0), .one (.d (.int .i64)), .one (.d (.int .i64)), .one (.d (.int .i64))], 2⟩
noncomputable def kb5 (o : k1c) (i : HL TB.den k5q.hs) : Prop := ghs TB [] (k5q.fill TB i) fun s => WP TB k25 57 1 (cB (cA (cB (cA (cB (cB (cB (cB (cB (cB k4e)))))))))) .no s (kkx o)
structure kbl (o : k1c) (i : HL TB.den k5q.hs) : Prop where
  h : kb5 o i
noncomputable def kky (o : k1c) : An TB := .jn k5q (kbl o) [] .no [] .no
noncomputable def kl4 (o : k1c) : An TB := .nd [] .no [] (.nd [] (kky o) [] .no)
noncomputable def kkv (o : k1c) : An TB := .jn k4m (k7t o) [] (kl4 o) [] .no
noncomputable def kks (o : k1c) : An TB := .nd [] .no [] (.nd [] .no [] (kkv o))
noncomputable def kkz (o : k1c) : An TB := .nd [] .no [] (.nd [] .no [] (kks o))
noncomputable def kbm (o : k1c) : An TB := .nd [] .no [] (.nd [] .no [] (kkz o))
noncomputable def kaq (x : kbw) (o : k1c) : Prop := WPh TB k25 57 1 k4e (kbm o) (kr.st TB x) (retTQ TB k25 kr k4s o)
set_option maxRecDepth 100000 in
theorem kju (o : k1c) : OblH TB k25 57 1 k4e (kbm o) (retTQ TB k25 kr k4s o) :=
  OblH.of_eq (X := (True ∧ (True ∧ (True ∧ (True ∧ (True ∧ (True ∧ ((True ∧ (((True ∧ ((True ∧ (True ∧ True)) ∧ True)) ∧ (∀ i, (kbl o) i = (kb5 o) i) ∧ True) ∧ True)) ∧ (∀ i, (k7t o) i = (kb6 o) i) ∧ (True ∧ (True ∧ ((True ∧ True) ∧ (True ∧ ((True ∧ True) ∧ (True ∧ True)))))))))))))) (by kernel_rfl) ⟨trivial, ⟨trivial, ⟨trivial, ⟨trivial, ⟨trivial, ⟨trivial, ⟨⟨trivial, ⟨⟨⟨trivial, ⟨⟨trivial, ⟨trivial, trivial⟩⟩, trivial⟩⟩, fun _ => propext ⟨fun h => h.1, fun h => ⟨h⟩⟩, trivial⟩, trivial⟩⟩, fun _ => propext ⟨fun h => h.1, fun h => ⟨h⟩⟩, ⟨trivial, ⟨trivial, ⟨⟨trivial, trivial⟩, ⟨trivial, ⟨⟨trivial, trivial⟩, ⟨trivial, trivial⟩⟩⟩⟩⟩⟩⟩⟩⟩⟩⟩⟩⟩
set_option maxRecDepth 100000 in
theorem kk4 {x : kbw} {o : k1c} (h : kaq x o) : SoundH Try.prog kr.f ((kr.args idf x).map (er TB)) ((kr.obs idf x).map (erO TB)) (er TB (kr.val idf o)) ((kr.ops idf o).map (erO TB)) :=
  Con.soundH (c := kr) (C := k25) TBok ⟨inf_ok, (all_cons kih (all_cons kf6 all_nil)), all_nil⟩ mix Try.func58 (show Try.f58.body = some k4e by kernel_rfl) (show Try.f58.ntmps = 57 by kernel_rfl) (show Try.f58.results.toList = k4s by kernel_rfl) rfl h (kju o)
theorem bd58 : Callable Try.prog 58 := ⟨by rw [Try.func58]; kernel_rfl, by rw [Try.func58]; show some _ ≠ some _; decide⟩
noncomputable def kaz : Con TB.den := kr.relR kaq
theorem kl0 : kaz.Ok Try.prog TB := Con.ok_rel kr bd58 fun _ _ h => kk4 h
end Go.Proofs.Ytponaobpcdkggaa
namespace Go.Proofs.Ytponaobpcdkggaa
open Go Go.Bv Go.Cv Go.Md Go.RowKit
def k17 : Con TB.den := Con.mk0 79 [.one (.row 0), .one (.d (.int .i64)), .one (.d (.int .i64)), .one (.d (.int .i64))] [.vec (.int .i64)] (.tup []) [.vec (.int .i64)]
abbrev kdl := HL TB.den (hsT k17.ins (hsOs k17.pre))
abbrev k19 := HL TB.den (hsV k17.res (hsOs k17.post))
noncomputable def k29 : Cx TB := ⟨inf, [k6w], [], 4, []⟩
noncomputable def k3x : Code := Try.f79.body.getD .skip
noncomputable def k6j : List ResultVar := Try.f79.results.toList
noncomputable def kn0 (o : k19) : Exit → TSt TB.den → Prop := blockT TB 0 (retTQ TB k29 k17 k6j o)
def k1d : Tm := ⟨[0], [.vec (.int .i64)], [0, 2, 3, 8], [.one (.row 0), .one (.d (.int .i64)), .one (.d (.int .i64)), .one (.d (.int .i64))], 1⟩
noncomputable def k8p (o : k19) (nx1 : HL TB.den k1d.hs → Prop) : Exit → TSt TB.den → Prop := thenT TB (fun s => k1d.mat TB 1 s nx1) (kn0 o)
def k5b : Tm := ⟨[0], [.vec (.int .i64)], [0, 2, 3, 8, 9], [.one (.row 0), .one (.d (.int .i64)), .one (.d (.int .i64)), .one (.d (.int .i64)), .one (.d (.int .i64))], 81⟩
noncomputable def kcm (o : k19) (nx1 : HL TB.den k1d.hs → Prop) (i : HL TB.den k5b.hs) : Prop := ghs TB [] (k5b.fill TB i) fun s => WP TB k29 76 1 (cB (cB (cB (cA (cA (cA (cB k3x))))))) .no s (blockT TB 1 (k8p o nx1))
structure k8r (o : k19) (nx1 : HL TB.den k1d.hs → Prop) (i : HL TB.den k5b.hs) : Prop where
  h : kcm o nx1 i
noncomputable def kn7 (o : k19) (nx1 : HL TB.den k1d.hs → Prop) : Exit → TSt TB.den → Prop := thenT TB (fun s => k5b.mat TB 1 s (k8r o nx1)) (blockT TB 1 (k8p o nx1))
def k6h : Tm := ⟨[0], [.vec (.int .i64)], [0, 2, 3, 8, 9, 36], [.one (.row 0), .one (.d (.int .i64)), .one (.d (.int .i64)), .one (.d (.int .i64)), .one (.d (.int .i64)), .one (.d (.bool))], 81⟩
noncomputable def kca (o : k19) (nx1 : HL TB.den k1d.hs → Prop) (i : HL TB.den k6h.hs) : Prop := ghs TB [] (k6h.fill TB i) fun s => WP TB k29 76 1 (cB (cA (cB (cB (cA (cA (cA (cB k3x)))))))) .no s (kn7 o nx1)
structure kct (o : k19) (nx1 : HL TB.den k1d.hs → Prop) (i : HL TB.den k6h.hs) : Prop where
  h : kca o nx1 i
noncomputable def kna (o : k19) (nx1 : HL TB.den k1d.hs → Prop) : An TB := .jn k6h (kct o nx1) [] .no [] .no
noncomputable def kn8 (o : k19) (nx1 : HL TB.den k1d.hs → Prop) : An TB := .jn k5b (k8r o nx1) [] (kna o nx1) [] .no
noncomputable def kd4 (o : k19) (nx1 : HL TB.den k1d.hs → Prop) : An TB := .nd [] .no [] (.nd [] .no [] (kn8 o nx1))
noncomputable def k8o (o : k19) (nx1 : HL TB.den k1d.hs → Prop) (i : HL TB.den k1d.hs) : Prop := WP TB k29 76 1 (cA (cA (cB k3x))) (kd4 o nx1) (k1d.fill TB i) (k8p o nx1)
noncomputable def km7 (o : k19) : An TB := .lp [] k1d (k8o o) fun nx1 => (kd4 o nx1)
noncomputable def kcw (o : k19) : An TB := .nd [] .no [] (km7 o)
noncomputable def kbv (x : kdl) (o : k19) : Prop := WPh TB k29 76 1 k3x (kcw o) (k17.st TB x) (retTQ TB k29 k17 k6j o)
set_option maxRecDepth 100000 in
theorem km8 (o : k19) : OblH TB k29 76 1 k3x (kcw o) (retTQ TB k29 k17 k6j o) :=
  OblH.of_eq (X := (True ∧ ((∀ nx i, (k8o o) nx i = (k8o o) nx i) ∧ ∀ nx1 : HL TB.den k1d.hs → Prop, (True ∧ ((True ∧ (True ∧ True)) ∧ ((True ∧ (∀ i, (kct o nx1) i = (kca o nx1) i) ∧ (True ∧ True)) ∧ (∀ i, (k8r o nx1) i = (kcm o nx1) i) ∧ ((True ∧ (True ∧ True)) ∧ (True ∧ True)))))))) (by kernel_rfl) ⟨trivial, ⟨fun _ _ => rfl, fun _ => ⟨trivial, ⟨⟨trivial, ⟨trivial, trivial⟩⟩, ⟨⟨trivial, fun _ => propext ⟨fun h => h.1, fun h => ⟨h⟩⟩, ⟨trivial, trivial⟩⟩, fun _ => propext ⟨fun h => h.1, fun h => ⟨h⟩⟩, ⟨⟨trivial, ⟨trivial, trivial⟩⟩, ⟨trivial, trivial⟩⟩⟩⟩⟩⟩⟩
set_option maxRecDepth 100000 in
theorem kmu {x : kdl} {o : k19} (h : kbv x o) : SoundH Try.prog k17.f ((k17.args idf x).map (er TB)) ((k17.obs idf x).map (erO TB)) (er TB (k17.val idf o)) ((k17.ops idf o).map (erO TB)) :=
  Con.soundH (c := k17) (C := k29) TBok ⟨inf_ok, (all_cons k8e all_nil), all_nil⟩ mix Try.func79 (show Try.f79.body = some k3x by kernel_rfl) (show Try.f79.ntmps = 76 by kernel_rfl) (show Try.f79.results.toList = k6j by kernel_rfl) rfl h (km8 o)
theorem bd79 : Callable Try.prog 79 := ⟨by rw [Try.func79]; kernel_rfl, by rw [Try.func79]; show some _ ≠ some _; decide⟩
noncomputable def kci : Con TB.den := k17.relR kbv
theorem kne : kci.Ok Try.prog TB := Con.ok_rel k17 bd79 fun _ _ h => kmu h
end Go.Proofs.Ytponaobpcdkggaa
namespace Go.Proofs.Ytponaobpcdkggaa
open Go Go.Bv Go.Cv Go.Md Go.RowKit
def kx : Con TB.den := Con.mk0 56 [.one (.row 0), .one (.d (.int .i64)), .one (.d (.int .i64))] [.vec (.int .i64)] (.tup []) [.vec (.int .i64)]
abbrev ke4 := HL TB.den (hsT kx.ins (hsOs kx.pre))
abbrev k1j := HL TB.den (hsV kx.res (hsOs kx.post))
noncomputable def k1v : Cx TB := ⟨inf, [kci], [], 4, []⟩
noncomputable def k3y : Code := Try.f56.body.getD .skip
noncomputable def k4h : List ResultVar := Try.f56.results.toList
noncomputable def knc (o : k1j) : Exit → TSt TB.den → Prop := blockT TB 2 (retTQ TB k1v kx k4h o)
def k3m : Tm := ⟨[0], [.vec (.int .i64)], [0, 6, 7, 10], [.one (.row 0), .one (.d (.int .i64)), .one (.d (.int .i64)), .one (.d (.int .i64))], 1⟩
noncomputable def kn1 (o : k1j) (nx2 : HL TB.den k3m.hs → Prop) : Exit → TSt TB.den → Prop := thenT TB (fun s => k3m.mat TB 1 s nx2) (knc o)
noncomputable def k8q (o : k1j) (nx2 : HL TB.den k3m.hs → Prop) (i : HL TB.den k3m.hs) : Prop := WP TB k1v 56 1 (cA (cA (cB (cB (cB (cB (cB k3y))))))) .no (k3m.fill TB i) (kn1 o nx2)
noncomputable def kcv (o : k1j) : An TB := .lp [] k3m (k8q o) fun nx2 => .no
noncomputable def kn9 (o : k1j) : Exit → TSt TB.den → Prop := thenT TB (fun s => ghs TB [] s fun s => WP TB k1v 56 1 (cB (cB (cB (cB k3y)))) (.nd [] .no [] (kcv o)) s (retTQ TB k1v kx k4h o)) (retTQ TB k1v kx k4h o)
def k3l : Tm := ⟨[0], [.vec (.int .i64)], [0, 6, 7, 8, 9], [.one (.row 0), .one (.d (.int .i64)), .one (.d (.int .i64)), .one (.d (.int .i64)), .one (.d (.int .i64))], 1⟩
noncomputable def knb (o : k1j) (nx1 : HL TB.den k3l.hs → Prop) : Exit → TSt TB.den → Prop := thenT TB (fun s => k3l.mat TB 1 s nx1) (blockT TB 0 (kn9 o))
noncomputable def k8s (o : k1j) (nx1 : HL TB.den k3l.hs → Prop) (i : HL TB.den k3l.hs) : Prop := WP TB k1v 56 1 (cA (cA (cB (cA (cB (cB (cB k3y))))))) .no (k3l.fill TB i) (knb o nx1)
noncomputable def kml (o : k1j) : An TB := .lp [] k3l (k8s o) fun nx1 => .no
noncomputable def kmq (o : k1j) : An TB := .nd [] (.nd [] .no [] (kml o)) [] (.nd [] .no [] (kcv o))
noncomputable def klv (o : k1j) : An TB := .nd [] .no [] (.nd [] .no [] (kmq o))
noncomputable def kcs (o : k1j) : An TB := .nd [] .no [] (klv o)
noncomputable def k83 (x : ke4) (o : k1j) : Prop := WPh TB k1v 56 1 k3y (kcs o) (kx.st TB x) (retTQ TB k1v kx k4h o)
set_option maxRecDepth 100000 in
theorem klt (o : k1j) : OblH TB k1v 56 1 k3y (kcs o) (retTQ TB k1v kx k4h o) :=
  OblH.of_eq (X := (True ∧ (True ∧ (True ∧ ((True ∧ ((∀ nx i, (k8s o) nx i = (k8s o) nx i) ∧ ∀ nx1 : HL TB.den k3l.hs → Prop, ((True ∧ (True ∧ True)) ∧ (True ∧ True)))) ∧ (True ∧ ((∀ nx i, (k8q o) nx i = (k8q o) nx i) ∧ ∀ nx2 : HL TB.den k3m.hs → Prop, ((True ∧ (True ∧ True)) ∧ ((True ∧ True) ∧ True))))))))) (by kernel_rfl) ⟨trivial, ⟨trivial, ⟨trivial, ⟨⟨trivial, ⟨fun _ _ => rfl, fun _ => ⟨⟨trivial, ⟨trivial, trivial⟩⟩, ⟨trivial, trivial⟩⟩⟩⟩, ⟨trivial, ⟨fun _ _ => rfl, fun _ => ⟨⟨trivial, ⟨trivial, trivial⟩⟩, ⟨⟨trivial, trivial⟩, trivial⟩⟩⟩⟩⟩⟩⟩⟩
set_option maxRecDepth 100000 in
theorem kma {x : ke4} {o : k1j} (h : k83 x o) : SoundH Try.prog kx.f ((kx.args idf x).map (er TB)) ((kx.obs idf x).map (erO TB)) (er TB (kx.val idf o)) ((kx.ops idf o).map (erO TB)) :=
  Con.soundH (c := kx) (C := k1v) TBok ⟨inf_ok, (all_cons kne all_nil), all_nil⟩ mix Try.func56 (show Try.f56.body = some k3y by kernel_rfl) (show Try.f56.ntmps = 56 by kernel_rfl) (show Try.f56.results.toList = k4h by kernel_rfl) rfl h (klt o)
theorem bd56 : Callable Try.prog 56 := ⟨by rw [Try.func56]; kernel_rfl, by rw [Try.func56]; show some _ ≠ some _; decide⟩
noncomputable def kch : Con TB.den := kx.relR k83
theorem kn3 : kch.Ok Try.prog TB := Con.ok_rel kx bd56 fun _ _ h => kma h
end Go.Proofs.Ytponaobpcdkggaa
namespace Go.Proofs.Ytponaobpcdkggaa
open Go Go.Bv Go.Cv Go.Md Go.RowKit
def ko : Con TB.den := Con.mk0 55 [.one (.row 0), .one (.d (.int .i64)), .one (.d (.int .i64))] [.vec (.int .i64)] (.tup []) [.vec (.int .i64)]
abbrev kb1 := HL TB.den (hsT ko.ins (hsOs ko.pre))
abbrev k16 := HL TB.den (hsV ko.res (hsOs ko.post))
noncomputable def k1x : Cx TB := ⟨inf, [k6w], [], 4, []⟩
noncomputable def k32 : Code := Try.f55.body.getD .skip
noncomputable def k5k : List ResultVar := Try.f55.results.toList
noncomputable def kjc (o : k16) : Exit → TSt TB.den → Prop := blockT TB 0 (retTQ TB k1x ko k5k o)
def kq : Tm := ⟨[0], [.vec (.int .i64)], [0, 1, 2, 6], [.one (.row 0), .one (.d (.int .i64)), .one (.d (.int .i64)), .one (.d (.int .i64))], 1⟩
noncomputable def k79 (o : k16) (nx2 : HL TB.den kq.hs → Prop) : Exit → TSt TB.den → Prop := thenT TB (fun s => kq.mat TB 1 s nx2) (kjc o)
noncomputable def kjb (o : k16) (nx2 : HL TB.den kq.hs → Prop) : Exit → TSt TB.den → Prop := thenT TB (fun s => ghs TB [] s fun s => WP TB k1x 49 1 (cB (cB (cA (cA (cB k32))))) .no s (k79 o nx2)) (k79 o nx2)
noncomputable def kjp (o : k16) (nx2 : HL TB.den kq.hs → Prop) : Exit → TSt TB.den → Prop := blockT TB 2 (blockT TB 1 (kjb o nx2))
def k2n : Tm := ⟨[0], [.vec (.int .i64)], [0, 1, 2, 6, 7], [.one (.row 0), .one (.d (.int .i64)), .one (.d (.int .i64)), .one (.d (.int .i64)), .one (.d (.int .i64))], 1⟩
noncomputable def kjg (o : k16) (nx2 : HL TB.den kq.hs → Prop) (nx1 : HL TB.den k2n.hs → Prop) : Exit → TSt TB.den → Prop := thenT TB (fun s => k2n.mat TB 1 s nx1) (kjp o nx2)
noncomputable def k4f (o : k16) (nx2 : HL TB.den kq.hs → Prop) (nx1 : HL TB.den k2n.hs → Prop) (i : HL TB.den k2n.hs) : Prop := WP TB k1x 49 1 (cA (cA (cB (cA (cA (cB (cA (cA (cB k32))))))))) .no (k2n.fill TB i) (kjg o nx2 nx1)
noncomputable def kjq (o : k16) (nx2 : HL TB.den kq.hs → Prop) : An TB := .lp [] k2n (k4f o nx2) fun nx1 => .no
noncomputable def kan (o : k16) (nx2 : HL TB.den kq.hs → Prop) : An TB := .nd [] (.nd [] .no [] (kjq o nx2)) [] .no
noncomputable def k4g (o : k16) (nx2 : HL TB.den kq.hs → Prop) (i : HL TB.den kq.hs) : Prop := WP TB k1x 49 1 (cA (cA (cB k32))) (.nd [] .no [] (kan o nx2)) (kq.fill TB i) (k79 o nx2)
noncomputable def kic (o : k16) : An TB := .lp [] kq (k4g o) fun nx2 => (.nd [] .no [] (kan o nx2))
noncomputable def kak (o : k16) : An TB := .nd [] .no [] (kic o)
noncomputable def k6o (x : kb1) (o : k16) : Prop := WPh TB k1x 49 1 k32 (kak o) (ko.st TB x) (retTQ TB k1x ko k5k o)
set_option maxRecDepth 100000 in
theorem kiq (o : k16) : OblH TB k1x 49 1 k32 (kak o) (retTQ TB k1x ko k5k o) :=
  OblH.of_eq (X := (True ∧ ((∀ nx i, (k4g o) nx i = (k4g o) nx i) ∧ ∀ nx2 : HL TB.den kq.hs → Prop, ((True ∧ (True ∧ True)) ∧ ((True ∧ ((∀ nx i, (k4f o nx2) nx i = (k4f o nx2) nx i) ∧ ∀ nx1 : HL TB.den k2n.hs → Prop, ((True ∧ (True ∧ True)) ∧ (True ∧ True)))) ∧ True))))) (by kernel_rfl) ⟨trivial, ⟨fun _ _ => rfl, fun _ => ⟨⟨trivial, ⟨trivial, trivial⟩⟩, ⟨⟨trivial, ⟨fun _ _ => rfl, fun _ => ⟨⟨trivial, ⟨trivial, trivial⟩⟩, ⟨trivial, trivial⟩⟩⟩⟩, trivial⟩⟩⟩⟩
set_option maxRecDepth 100000 in
theorem kib {x : kb1} {o : k16} (h : k6o x o) : SoundH Try.prog ko.f ((ko.args idf x).map (er TB)) ((ko.obs idf x).map (erO TB)) (er TB (ko.val idf o)) ((ko.ops idf o).map (erO TB)) :=
  Con.soundH (c := ko) (C := k1x) TBok ⟨inf_ok, (all_cons k8e all_nil), all_nil⟩ mix Try.func55 (show Try.f55.body = some k32 by kernel_rfl) (show Try.f55.ntmps = 49 by kernel_rfl) (show Try.f55.results.toList = k5k by kernel_rfl) rfl h (kiq o)
set_option maxRecDepth 100000 in
theorem kjh {p1 : Int} {p2 : Int} {w0 : List Int} {e0 : List Int} (h :
((w0.length = w0.length) ∧ Md.Loop (p1, p2, (IntKind.i64.wrap (p1 + 1) : Int), w0, ()) (k4g (e0, ())))) : k6o (p1, p2, w0, ()) (e0, ()) := WPh.of_eq (by kernel_rfl) h
def kaf (e0 : List Int) (nx2 : HL TB.den kq.hs → Prop) (k2 : Int → List Int → Prop) (s1 : Int) (s2 : Int) (s6 : Int) (g0 : List Int) : Prop :=
(decide (s6 < s2) = true →
(g0.length = g0.length) ∧ Md.Loop (s1, s2, s6, s6, g0, ()) (k4f (e0, ()) nx2)) ∧
(decide (s6 < s2) = false →
 g0 = e0)
set_option maxRecDepth 100000 in
theorem kiu {e0 : List Int} {s1 : Int} {s2 : Int} {s6 : Int} {g0 : List Int} (inv : Int → List Int → Prop) (μ : Int → List Int → Nat) (h0 : inv s6 g0) (hs : ∀ (s6 : Int) (g0 : List Int), inv s6 g0 → kaf e0 (fun s : Int × Int × Int × (List Int) × Unit => ((s.1 = s1 ∧ s.2.1 = s2) ∧ inv s.2.2.1 s.2.2.2.1) ∧ μ s.2.2.1 s.2.2.2.1 < μ s6 g0) (fun s6q g0q => inv s6q g0q ∧ μ s6q g0q < μ s6 g0) s1 s2 s6 g0) : Md.Loop (s1, s2, s6, g0, ()) (k4g (e0, ())) :=
  ⟨⟨fun s : Int × Int × Int × (List Int) × Unit => (s.1 = s1 ∧ s.2.1 = s2) ∧ inv s.2.2.1 s.2.2.2.1, fun s : Int × Int × Int × (List Int) × Unit => μ s.2.2.1 s.2.2.2.1, ⟨⟨rfl, rfl⟩, h0⟩, fun (s1p, s2p, s6p, g0p, ()) ⟨⟨eq0, eq1⟩, hi⟩ => by
    have eq0 : s1p = s1 := eq0; subst s1p; have eq1 : s2p = s2 := eq1; subst s2p; exact mpr_of (by kernel_rfl) ((congrArg (fun k => kaf e0 (fun s : Int × Int × Int × (List Int) × Unit => ((s.1 = s1 ∧ s.2.1 = s2) ∧ inv s.2.2.1 s.2.2.2.1) ∧ μ s.2.2.1 s.2.2.2.1 < μ s6p g0p) k s1 s2 s6p g0p) (lpk2 (⟨rfl, rfl⟩ : s1 = s1 ∧ s2 = s2) inv (fun s6q g0q => μ s6q g0q < μ s6p g0p))).mpr (hs s6p g0p hi))⟩⟩
def kae (e0 : List Int) (nx2 : HL TB.den kq.hs → Prop) (k1 : Int → List Int → Prop) (s1 : Int) (s2 : Int) (s6 : Int) (s7 : Int) (g0 : List Int) : Prop :=
(decide (s1 < s7) = true →
(0 ≤ s7 ∧ s7 < (g0.length : Int)) ∧ (0 ≤ s7 ∧ s7 < (g0.length : Int)) ∧ (0 ≤ IntKind.i64.wrap (s7 - 1) ∧ IntKind.i64.wrap (s7 - 1) < (g0.length : Int)) ∧ (0 ≤ IntKind.i64.wrap (s7 - 1) ∧ IntKind.i64.wrap (s7 - 1) < (g0.length : Int)) ∧ let r1 : Bool := (decide ((ix g0 s7) < (ix g0 (IntKind.i64.wrap (s7 - 1)))))
(r1 = true →
(0 ≤ IntKind.i64.wrap (s7 - 1) ∧ IntKind.i64.wrap (s7 - 1) < (g0.length : Int)) ∧ (0 ≤ IntKind.i64.wrap (s7 - 1) ∧ IntKind.i64.wrap (s7 - 1) < (g0.length : Int)) ∧ (0 ≤ s7 ∧ s7 < (g0.length : Int)) ∧ (0 ≤ s7 ∧ s7 < (g0.length : Int)) ∧ (0 ≤ s7 ∧ s7 < (g0.length : Int)) ∧ (0 ≤ s7 ∧ s7 < (g0.length : Int)) ∧ (0 ≤ IntKind.i64.wrap (s7 - 1) ∧ IntKind.i64.wrap (s7 - 1) < (g0.length : Int)) ∧ (0 ≤ IntKind.i64.wrap (s7 - 1) ∧ IntKind.i64.wrap (s7 - 1) < ((g0.set s7.toNat (ix g0 (IntKind.i64.wrap (s7 - 1)))).length : Int)) ∧ (g0.length = ((g0.set s7.toNat (ix g0 (IntKind.i64.wrap (s7 - 1)))).set (IntKind.i64.wrap (s7 - 1)).toNat (ix g0 s7)).length) ∧ k1 (IntKind.i64.wrap (s7 - 1) : Int) ((g0.set s7.toNat (ix g0 (IntKind.i64.wrap (s7 - 1)))).set (IntKind.i64.wrap (s7 - 1)).toNat (ix g0 s7) : List Int)) ∧
(r1 = false →
(g0.length = g0.length) ∧ nx2 (s1, s2, (IntKind.i64.wrap (s6 + 1) : Int), g0, ()))) ∧
(decide (s1 < s7) = false →
(g0.length = g0.length) ∧ nx2 (s1, s2, (IntKind.i64.wrap (s6 + 1) : Int), g0, ()))
set_option maxRecDepth 100000 in
theorem kit {e0 : List Int} {nx2 : HL TB.den kq.hs → Prop} {s1 : Int} {s2 : Int} {s6 : Int} {s7 : Int} {g0 : List Int} (inv : Int → List Int → Prop) (μ : Int → List Int → Nat) (h0 : inv s7 g0) (hs : ∀ (s7 : Int) (g0 : List Int), inv s7 g0 → kae e0 nx2 (fun s7q g0q => inv s7q g0q ∧ μ s7q g0q < μ s7 g0) s1 s2 s6 s7 g0) : Md.Loop (s1, s2, s6, s7, g0, ()) (k4f (e0, ()) nx2) :=
  ⟨⟨fun s : Int × Int × Int × Int × (List Int) × Unit => (s.1 = s1 ∧ s.2.1 = s2 ∧ s.2.2.1 = s6) ∧ inv s.2.2.2.1 s.2.2.2.2.1, fun s : Int × Int × Int × Int × (List Int) × Unit => μ s.2.2.2.1 s.2.2.2.2.1, ⟨⟨rfl, rfl, rfl⟩, h0⟩, fun (s1p, s2p, s6p, s7p, g0p, ()) ⟨⟨eq0, eq1, eq2⟩, hi⟩ => by
    have eq0 : s1p = s1 := eq0; subst s1p; have eq1 : s2p = s2 := eq1; subst s2p; have eq2 : s6p = s6 := eq2; subst s6p; exact mpr_of (by kernel_rfl) ((congrArg (fun k => kae e0 nx2 k s1 s2 s6 s7p g0p) (lpk2 (⟨rfl, rfl, rfl⟩ : s1 = s1 ∧ s2 = s2 ∧ s6 = s6) inv (fun s7q g0q => μ s7q g0q < μ s7p g0p))).mpr (hs s7p g0p hi))⟩⟩
theorem bd55 : Callable Try.prog 55 := ⟨by rw [Try.func55]; kernel_rfl, by rw [Try.func55]; show some _ ≠ some _; decide⟩
theorem kho (p1 : Int) (p2 : Int) (w0 : List Int) (h : p1 = 0 ∧ p2 = w0.length ∧ w0.length ≤ 1000000) : k6o (p1, p2, w0, ()) (((srt w0) : List Int), ()) := by
  obtain ⟨rfl, rfl, h3⟩ := h
  refine kjh ⟨rfl, ?_⟩
  refine kiu (fun i g => 1 ≤ i ∧ (i ≤ w0.length ∨ i = 1) ∧ g.Perm w0 ∧ SortedTo g i.toNat) (fun i _ => (w0.length + 2 - i).toNat) ⟨by decide, .inr rfl, List.Perm.refl _, fun a b hab hb => ?_⟩ ?_
  · have : (IntKind.i64.wrap (0 + 1)).toNat = 1 := by decide
    omega
  rintro i g ⟨g0, g1, g2, g3⟩
  have hlen := g2.length_eq
  refine ⟨fun hh => ?_, fun hh => ?_⟩
  · have hh := of_decide_eq_true hh
    refine ⟨rfl, ?_⟩
    refine kit (fun j g => (0 ≤ j ∧ j ≤ i) ∧ g.Perm w0 ∧ SortedBut g (i.toNat + 1) j.toNat) (fun j _ => j.toNat) ⟨⟨by omega, by omega⟩, g2, g3.but⟩ ?_
    rintro j g ⟨⟨k0, k1⟩, k2, k3⟩
    have hlen := k2.length_eq
    have nxt : ∀ {g : List Int}, g.Perm w0 → SortedTo g (i.toNat + 1) → (1 ≤ IntKind.i64.wrap (i + 1) ∧ (IntKind.i64.wrap (i + 1) ≤ w0.length ∨ IntKind.i64.wrap (i + 1) = 1) ∧ g.Perm w0 ∧ SortedTo g (IntKind.i64.wrap (i + 1)).toNat) ∧ ((w0.length : Int) + 2 - IntKind.i64.wrap (i + 1)).toNat < ((w0.length : Int) + 2 - i).toNat := by
      intro g q1 q2
      rw [wi (i + 1) (by omega) (by omega)]
      exact ⟨⟨by omega, .inl (by omega), q1, by rw [show (i + 1).toNat = i.toNat + 1 by omega]; exact q2⟩, by omega⟩
    refine ⟨fun h2 => ?_, fun h2 => ?_⟩
    · have h2 := of_decide_eq_true h2
      rw [wi (j - 1) (by omega) (by omega)]
      have ej : (j - 1).toNat = j.toNat - 1 := by omega
      have x1 := ix_getD g j k0 (by omega)
      have x2 := ix_getD g (j - 1) (by omega) (by omega)
      rw [ej] at x2
      refine ⟨⟨by omega, by omega⟩, ⟨by omega, by omega⟩, ⟨by omega, by omega⟩, ⟨by omega, by omega⟩, fun h5 => ?_, fun h5 => ?_⟩
      · have h5 := of_decide_eq_true h5
        rw [x1, x2] at h5
        refine ⟨⟨by omega, by omega⟩, ⟨by omega, by omega⟩, ⟨by omega, by omega⟩, ⟨by omega, by omega⟩, ⟨by omega, by omega⟩, ⟨by omega, by omega⟩, ⟨by omega, by omega⟩, ⟨by omega, by rw [List.length_set]; omega⟩, by rw [List.length_set, List.length_set], ⟨⟨by omega, by omega⟩, ?_, ?_⟩, by omega⟩
        · exact (k166 g j (j - 1) k0 (by omega) (by omega) (by omega)).trans k2
        · rw [ej]
          exact k3.step (by omega) (by omega) (by omega) h5 x1 x2
      · have h5 := of_decide_eq_false h5
        rw [x1, x2] at h5
        exact ⟨rfl, ⟨⟨rfl, rfl⟩, (nxt k2 (k3.stop (by omega) (by omega) (by omega))).1⟩, (nxt k2 (k3.stop (by omega) (by omega) (by omega))).2⟩
    · have h2 := of_decide_eq_false h2
      have ej : j.toNat = 0 := by omega
      rw [ej] at k3
      exact ⟨rfl, ⟨⟨rfl, rfl⟩, (nxt k2 k3.zero).1⟩, (nxt k2 k3.zero).2⟩
  · have hh := of_decide_eq_false hh
    have : SortedTo g g.length := fun a b hab hb => g3 a b hab (by omega)
    exact srt_eq g2 this.all
noncomputable def k9w : Con TB.den := ko.fnR (fun x => (fun (p1 : Int) (p2 : Int) (w0 : List Int) => p1 = 0 ∧ p2 = w0.length ∧ w0.length ≤ 1000000) x.1 x.2.1 x.2.2.1) fun x => ((fun (p1 : Int) (p2 : Int) (w0 : List Int) => ((srt w0) : List Int)) x.1 x.2.1 x.2.2.1, ())
theorem kjl : k9w.Ok Try.prog TB := Con.ok_fn ko bd55 fun x h => kib (kho x.1 x.2.1 x.2.2.1 h)
end Go.Proofs.Ytponaobpcdkggaa
namespace Go.Proofs.Ytponaobpcdkggaa
open Go Go.Bv Go.Cv Go.Md Go.RowKit
def kh : Con TB.den := Con.mk0 60 [.one (.row 0), .one (.d (.int .i64)), .one (.d (.int .i64))] [.vec (.int .i64)] (.one (.one (.d (.bool)))) [.vec (.int .i64)]
abbrev k8j := HL TB.den (hsT kh.ins (hsOs kh.pre))
abbrev ka := HL TB.den (hsV kh.res (hsOs kh.post))
noncomputable def km : Cx TB := ⟨inf, [k6w], [], 4, []⟩
noncomputable def k13 : Code := Try.f60.body.getD .skip
noncomputable def k38 : List ResultVar := Try.f60.results.toList
noncomputable def kev (o : ka) : Exit → TSt TB.den → Prop := thenT TB (fun s => ghs TB [] s fun s => WP TB km 133 1 (cB (cB (cB k13))) .no s (retTQ TB km kh k38 o)) (retTQ TB km kh k38 o)
def kb : Tm := ⟨[0], [.vec (.int .i64)], [0, 1, 2, 7, 8], [.one (.row 0), .one (.d (.int .i64)), .one (.d (.int .i64)), .one (.d (.int .i64)), .one (.d (.int .i64))], 1⟩
noncomputable def k5w (o : ka) (nx2 : HL TB.den kb.hs → Prop) : Exit → TSt TB.den → Prop := thenT TB (fun s => kb.mat TB 1 s nx2) (blockT TB 0 (kev o))
noncomputable def keu (o : ka) (nx2 : HL TB.den kb.hs → Prop) : Exit → TSt TB.den → Prop := thenT TB (fun s => ghs TB [] s fun s => WP TB km 133 1 (cB (cB (cA (cA (cB (cA (cB (cB k13)))))))) .no s (k5w o nx2)) (k5w o nx2)
noncomputable def k39 (o : ka) (nx2 : HL TB.den kb.hs → Prop) : Exit → TSt TB.den → Prop := blockT TB 1 (keu o nx2)
noncomputable def kex (o : ka) (nx2 : HL TB.den kb.hs → Prop) : Exit → TSt TB.den → Prop := blockT TB 6 (k39 o nx2)
def k22 : Tm := ⟨[0], [.vec (.int .i64)], [0, 1, 2, 7, 8, 10], [.one (.row 0), .one (.d (.int .i64)), .one (.d (.int .i64)), .one (.d (.int .i64)), .one (.d (.int .i64)), .one (.d (.int .i64))], 137⟩
noncomputable def kew (o : ka) (nx2 : HL TB.den kb.hs → Prop) (nx4 : HL TB.den k22.hs → Prop) : Exit → TSt TB.den → Prop := thenT TB (fun s => k22.mat TB 1 s nx4) (kex o nx2)
noncomputable def k5v (o : ka) (nx2 : HL TB.den kb.hs → Prop) (nx4 : HL TB.den k22.hs → Prop) (i : HL TB.den k22.hs) : Prop := WP TB km 133 1 (cA (cA (cB (cA (cB (cB (cB (cB (cB (cB (cA (cA (cB (cA (cA (cB (cA (cB (cB k13))))))))))))))))))) .no (k22.fill TB i) (kew o nx2 nx4)
noncomputable def kdy (o : ka) (nx2 : HL TB.den kb.hs → Prop) : An TB := .lp [] k22 (k5v o nx2) fun nx4 => .no
noncomputable def kdr (o : ka) (nx2 : HL TB.den kb.hs → Prop) : An TB := .nd [] .no [] (kdy o nx2)
noncomputable def kes (o : ka) (nx2 : HL TB.den kb.hs → Prop) : An TB := .nd [] (kdr o nx2) [] .no
noncomputable def k7y (o : ka) (nx2 : HL TB.den kb.hs → Prop) : An TB := .nd [] .no [] (kes o nx2)
def k35 : Tm := ⟨[0], [.vec (.int .i64)], [0, 1, 2, 7, 8], [.one (.row 0), .one (.d (.int .i64)), .one (.d (.int .i64)), .one (.d (.int .i64)), .one (.d (.int .i64))], 137⟩
noncomputable def k80 (o : ka) (nx2 : HL TB.den kb.hs → Prop) (i : HL TB.den k35.hs) : Prop := ghs TB [] (k35.fill TB i) fun s => WP TB km 133 1 (cB (cB (cB (cB (cB (cA (cA (cB (cA (cA (cB (cA (cB (cB k13)))))))))))))) (k7y o nx2) s (k39 o nx2)
structure k5x (o : ka) (nx2 : HL TB.den kb.hs → Prop) (i : HL TB.den k35.hs) : Prop where
  h : k80 o nx2 i
noncomputable def kej (o : ka) (nx2 : HL TB.den kb.hs → Prop) : Exit → TSt TB.den → Prop := thenT TB (fun s => k35.mat TB 1 s (k5x o nx2)) (k39 o nx2)
noncomputable def ken (o : ka) (nx2 : HL TB.den kb.hs → Prop) : Exit → TSt TB.den → Prop := blockT TB 4 (kej o nx2)
def k21 : Tm := ⟨[0], [.vec (.int .i64)], [0, 1, 2, 7, 8, 9], [.one (.row 0), .one (.d (.int .i64)), .one (.d (.int .i64)), .one (.d (.int .i64)), .one (.d (.int .i64)), .one (.d (.int .i64))], 137⟩
noncomputable def kdo (o : ka) (nx2 : HL TB.den kb.hs → Prop) (nx3 : HL TB.den k21.hs → Prop) : Exit → TSt TB.den → Prop := thenT TB (fun s => k21.mat TB 1 s nx3) (ken o nx2)
noncomputable def k5s (o : ka) (nx2 : HL TB.den kb.hs → Prop) (nx3 : HL TB.den k21.hs → Prop) (i : HL TB.den k21.hs) : Prop := WP TB km 133 1 (cA (cA (cB (cA (cB (cA (cB (cB (cB (cB (cA (cA (cB (cA (cA (cB (cA (cB (cB k13))))))))))))))))))) .no (k21.fill TB i) (kdo o nx2 nx3)
noncomputable def kef (o : ka) (nx2 : HL TB.den kb.hs → Prop) : An TB := .lp [] k21 (k5s o nx2) fun nx3 => .no
noncomputable def keb (o : ka) (nx2 : HL TB.den kb.hs → Prop) : An TB := .nd [] .no [] (kef o nx2)
noncomputable def keh (o : ka) (nx2 : HL TB.den kb.hs → Prop) : An TB := .nd [] (keb o nx2) [] .no
noncomputable def keg (o : ka) (nx2 : HL TB.den kb.hs → Prop) : An TB := .nd [] .no [] (keh o nx2)
noncomputable def kem (o : ka) (nx2 : HL TB.den kb.hs → Prop) : An TB := .jn k35 (k5x o nx2) [] (keg o nx2) [] (k7y o nx2)
noncomputable def kdg (o : ka) (nx2 : HL TB.den kb.hs → Prop) : An TB := .nd [] .no [] (kem o nx2)
noncomputable def ke0 (o : ka) (nx2 : HL TB.den kb.hs → Prop) : An TB := .nd [] .no [] (kdg o nx2)
noncomputable def k7w (o : ka) (nx2 : HL TB.den kb.hs → Prop) : An TB := .nd [] .no [] (ke0 o nx2)
def k34 : Tm := ⟨[0], [.vec (.int .i64)], [0, 1, 2, 7, 8], [.one (.row 0), .one (.d (.int .i64)), .one (.d (.int .i64)), .one (.d (.int .i64)), .one (.d (.int .i64))], 65⟩
noncomputable def k7x (o : ka) (nx2 : HL TB.den kb.hs → Prop) (i : HL TB.den k34.hs) : Prop := ghs TB [] (k34.fill TB i) fun s => WP TB km 133 1 (cB (cA (cA (cB (cA (cA (cB (cA (cB (cB k13)))))))))) (k7w o nx2) s (k39 o nx2)
structure k5y (o : ka) (nx2 : HL TB.den kb.hs → Prop) (i : HL TB.den k34.hs) : Prop where
  h : k7x o nx2 i
noncomputable def ke9 (o : ka) (nx2 : HL TB.den kb.hs → Prop) : Exit → TSt TB.den → Prop := thenT TB (fun s => k34.mat TB 1 s (k5y o nx2)) (k39 o nx2)
noncomputable def kec (o : ka) (nx2 : HL TB.den kb.hs → Prop) : Exit → TSt TB.den → Prop := blockT TB 2 (ke9 o nx2)
def k23 : Tm := ⟨[0], [.vec (.int .i64)], [0, 1, 2, 7, 8], [.one (.row 0), .one (.d (.int .i64)), .one (.d (.int .i64)), .one (.d (.int .i64)), .one (.d (.int .i64))], 1⟩
noncomputable def kek (o : ka) (nx2 : HL TB.den kb.hs → Prop) (nx1 : HL TB.den k23.hs → Prop) : Exit → TSt TB.den → Prop := thenT TB (fun s => k23.mat TB 1 s nx1) (kec o nx2)
noncomputable def k5t (o : ka) (nx2 : HL TB.den kb.hs → Prop) (nx1 : HL TB.den k23.hs → Prop) (i : HL TB.den k23.hs) : Prop := WP TB km 133 1 (cA (cA (cA (cA (cA (cB (cA (cA (cB (cA (cB (cB k13)))))))))))) .no (k23.fill TB i) (kek o nx2 nx1)
noncomputable def kdv (o : ka) (nx2 : HL TB.den kb.hs → Prop) : An TB := .lp [] k23 (k5t o nx2) fun nx1 => .no
noncomputable def ke8 (o : ka) (nx2 : HL TB.den kb.hs → Prop) : An TB := .jn k34 (k5y o nx2) [] (kdv o nx2) [] (k7w o nx2)
noncomputable def kep (o : ka) (nx2 : HL TB.den kb.hs → Prop) : An TB := .nd [] (ke8 o nx2) [] .no
noncomputable def k81 (o : ka) (nx2 : HL TB.den kb.hs → Prop) : An TB := .nd [] .no [] (kep o nx2)
noncomputable def k5u (o : ka) (nx2 : HL TB.den kb.hs → Prop) (i : HL TB.den kb.hs) : Prop := WP TB km 133 1 (cA (cA (cB (cA (cB (cB k13)))))) (k81 o nx2) (kb.fill TB i) (k5w o nx2)
noncomputable def kdi (o : ka) : An TB := .lp [] kb (k5u o) fun nx2 => (k81 o nx2)
noncomputable def kei (o : ka) : An TB := .nd [] (.nd [] .no [] (kdi o)) [] .no
noncomputable def k84 (o : ka) : An TB := .nd [] .no [] (.nd [] .no [] (kei o))
noncomputable def k7s (x : k8j) (o : ka) : Prop := WPh TB km 133 1 k13 (k84 o) (kh.st TB x) (retTQ TB km kh k38 o)
set_option maxRecDepth 100000 in
theorem kdt (o : ka) : OblH TB km 133 1 k13 (k84 o) (retTQ TB km kh k38 o) :=
  OblH.of_eq (X := (True ∧ (True ∧ ((True ∧ ((∀ nx i, (k5u o) nx i = (k5u o) nx i) ∧ ∀ nx2 : HL TB.den kb.hs → Prop, ((True ∧ (True ∧ True)) ∧ ((((∀ nx i, (k5t o nx2) nx i = (k5t o nx2) nx i) ∧ ∀ nx1 : HL TB.den k23.hs → Prop, ((True ∧ (True ∧ True)) ∧ True)) ∧ (∀ i, (k5y o nx2) i = (k7x o nx2) i) ∧ ((True ∧ ((True ∧ True) ∧ True)) ∧ ((True ∧ ((True ∧ True) ∧ True)) ∧ (True ∧ ((True ∧ ((True ∧ ((∀ nx i, (k5s o nx2) nx i = (k5s o nx2) nx i) ∧ ∀ nx3 : HL TB.den k21.hs → Prop, ((True ∧ (True ∧ True)) ∧ (((True ∧ (True ∧ True)) ∧ True) ∧ True)))) ∧ True)) ∧ (∀ i, (k5x o nx2) i = (k80 o nx2) i) ∧ (True ∧ ((True ∧ ((∀ nx i, (k5v o nx2) nx i = (k5v o nx2) nx i) ∧ ∀ nx4 : HL TB.den k22.hs → Prop, ((True ∧ (True ∧ True)) ∧ (((True ∧ (True ∧ True)) ∧ True) ∧ True)))) ∧ True))))))) ∧ True)))) ∧ (True ∧ True))))) (by kernel_rfl) ⟨trivial, ⟨trivial, ⟨⟨trivial, ⟨fun _ _ => rfl, fun _ => ⟨⟨trivial, ⟨trivial, trivial⟩⟩, ⟨⟨⟨fun _ _ => rfl, fun _ => ⟨⟨trivial, ⟨trivial, trivial⟩⟩, trivial⟩⟩, fun _ => propext ⟨fun h => h.1, fun h => ⟨h⟩⟩, ⟨⟨trivial, ⟨⟨trivial, trivial⟩, trivial⟩⟩, ⟨⟨trivial, ⟨⟨trivial, trivial⟩, trivial⟩⟩, ⟨trivial, ⟨⟨trivial, ⟨⟨trivial, ⟨fun _ _ => rfl, fun _ => ⟨⟨trivial, ⟨trivial, trivial⟩⟩, ⟨⟨⟨trivial, ⟨trivial, trivial⟩⟩, trivial⟩, trivial⟩⟩⟩⟩, trivial⟩⟩, fun _ => propext ⟨fun h => h.1, fun h => ⟨h⟩⟩, ⟨trivial, ⟨⟨trivial, ⟨fun _ _ => rfl, fun _ => ⟨⟨trivial, ⟨trivial, trivial⟩⟩, ⟨⟨⟨trivial, ⟨trivial, trivial⟩⟩, trivial⟩, trivial⟩⟩⟩⟩, trivial⟩⟩⟩⟩⟩⟩⟩, trivial⟩⟩⟩⟩, ⟨trivial, trivial⟩⟩⟩⟩
set_option maxRecDepth 100000 in
theorem kdf {x : k8j} {o : ka} (h : k7s x o) : SoundH Try.prog kh.f ((kh.args idf x).map (er TB)) ((kh.obs idf x).map (erO TB)) (er TB (kh.val idf o)) ((kh.ops idf o).map (erO TB)) :=
  Con.soundH (c := kh) (C := km) TBok ⟨inf_ok, (all_cons k8e all_nil), all_nil⟩ mix Try.func60 (show Try.f60.body = some k13 by kernel_rfl) (show Try.f60.ntmps = 133 by kernel_rfl) (show Try.f60.results.toList = k38 by kernel_rfl) rfl h (kdt o)
theorem bd60 : Callable Try.prog 60 := ⟨by rw [Try.func60]; kernel_rfl, by rw [Try.func60]; show some _ ≠ some _; decide⟩
noncomputable def k7z : Con TB.den := kh.relR k7s
theorem ket : k7z.Ok Try.prog TB := Con.ok_rel kh bd60 fun _ _ h => kdf h
end Go.Proofs.Ytponaobpcdkggaa
namespace Go.Proofs.Ytponaobpcdkggaa
open Go Go.Bv Go.Cv Go.Md Go.RowKit
def kn : Con TB.den := Con.mk0 62 [.one (.row 0), .one (.d (.int .i64)), .one (.d (.int .i64)), .one (.d (.int .i64))] [.vec (.int .i64)] (.one (.one (.d (.int .i64)))) [.vec (.int .i64)]
abbrev kao := HL TB.den (hsT kn.ins (hsOs kn.pre))
abbrev ke := HL TB.den (hsV kn.res (hsOs kn.post))
noncomputable def k18 : Cx TB := ⟨inf, [k6w], [], 4, []⟩
noncomputable def k1r : Code := Try.f62.body.getD .skip
noncomputable def k47 : List ResultVar := Try.f62.results.toList
noncomputable def kio (o : ke) : Exit → TSt TB.den → Prop := thenT TB (fun s => ghs TB [] s fun s => WP TB k18 84 1 (cB (cB (cB (cB k1r)))) .no s (retTQ TB k18 kn k47 o)) (retTQ TB k18 kn k47 o)
def kf : Tm := ⟨[0], [.vec (.int .i64)], [0, 1, 9, 10], [.one (.row 0), .one (.d (.int .i64)), .one (.d (.int .i64)), .one (.d (.int .i64))], 65⟩
noncomputable def k48 (o : ke) (nx2 : HL TB.den kf.hs → Prop) : Exit → TSt TB.den → Prop := thenT TB (fun s => kf.mat TB 1 s nx2) (blockT TB 0 (kio o))
def k43 : Tm := ⟨[0], [.vec (.int .i64)], [0, 1, 9, 10], [.one (.row 0), .one (.d (.int .i64)), .one (.d (.int .i64)), .one (.d (.int .i64))], 181⟩
noncomputable def k9q (o : ke) (nx2 : HL TB.den kf.hs → Prop) (i : HL TB.den k43.hs) : Prop := ghs TB [] (k43.fill TB i) fun s => WP TB k18 84 1 (cB (cB (cA (cA (cA (cA (cB (cB (cB k1r))))))))) .no s (blockT TB 1 (k48 o nx2))
structure k72 (o : ke) (nx2 : HL TB.den kf.hs → Prop) (i : HL TB.den k43.hs) : Prop where
  h : k9q o nx2 i
noncomputable def kif (o : ke) (nx2 : HL TB.den kf.hs → Prop) : Exit → TSt TB.den → Prop := thenT TB (fun s => k43.mat TB 1 s (k72 o nx2)) (blockT TB 1 (k48 o nx2))
def k2h : Tm := ⟨[0], [.vec (.int .i64)], [0, 1, 9, 10], [.one (.row 0), .one (.d (.int .i64)), .one (.d (.int .i64)), .one (.d (.int .i64))], 125⟩
noncomputable def kik (o : ke) (nx2 : HL TB.den kf.hs → Prop) (nx3 : HL TB.den k2h.hs → Prop) : Exit → TSt TB.den → Prop := thenT TB (fun s => k2h.mat TB 1 s nx3) (blockT TB 4 (kif o nx2))
noncomputable def k6y (o : ke) (nx2 : HL TB.den kf.hs → Prop) (nx3 : HL TB.den k2h.hs → Prop) (i : HL TB.den k2h.hs) : Prop := WP TB k18 84 1 (cA (cA (cA (cB (cA (cA (cA (cA (cB (cB (cB k1r))))))))))) .no (k2h.fill TB i) (kik o nx2 nx3)
noncomputable def kid (o : ke) (nx2 : HL TB.den kf.hs → Prop) : An TB := .lp [] k2h (k6y o nx2) fun nx3 => .no
noncomputable def k9s (o : ke) (nx2 : HL TB.den kf.hs → Prop) : An TB := .jn k43 (k72 o nx2) [] (kid o nx2) [] .no
def k3z : Tm := ⟨[0], [.vec (.int .i64)], [0, 1, 9, 10], [.one (.row 0), .one (.d (.int .i64)), .one (.d (.int .i64)), .one (.d (.int .i64))], 125⟩
noncomputable def k9h (o : ke) (nx2 : HL TB.den kf.hs → Prop) (i : HL TB.den k3z.hs) : Prop := ghs TB [] (k3z.fill TB i) fun s => WP TB k18 84 1 (cB (cA (cA (cA (cA (cB (cB (cB k1r)))))))) (k9s o nx2) s (blockT TB 1 (k48 o nx2))
structure k6z (o : ke) (nx2 : HL TB.den kf.hs → Prop) (i : HL TB.den k3z.hs) : Prop where
  h : k9h o nx2 i
noncomputable def kil (o : ke) (nx2 : HL TB.den kf.hs → Prop) : Exit → TSt TB.den → Prop := thenT TB (fun s => k3z.mat TB 1 s (k6z o nx2)) (blockT TB 1 (k48 o nx2))
def k2i : Tm := ⟨[0], [.vec (.int .i64)], [0, 1, 9, 10], [.one (.row 0), .one (.d (.int .i64)), .one (.d (.int .i64)), .one (.d (.int .i64))], 65⟩
noncomputable def khu (o : ke) (nx2 : HL TB.den kf.hs → Prop) (nx1 : HL TB.den k2i.hs → Prop) : Exit → TSt TB.den → Prop := thenT TB (fun s => k2i.mat TB 1 s nx1) (blockT TB 2 (kil o nx2))
noncomputable def k74 (o : ke) (nx2 : HL TB.den kf.hs → Prop) (nx1 : HL TB.den k2i.hs → Prop) (i : HL TB.den k2i.hs) : Prop := WP TB k18 84 1 (cA (cA (cA (cA (cA (cA (cA (cB (cB (cB k1r)))))))))) .no (k2i.fill TB i) (khu o nx2 nx1)
noncomputable def kgz (o : ke) (nx2 : HL TB.den kf.hs → Prop) : An TB := .lp [] k2i (k74 o nx2) fun nx1 => .no
noncomputable def k9a (o : ke) (nx2 : HL TB.den kf.hs → Prop) : An TB := .jn k3z (k6z o nx2) [] (kgz o nx2) [] (k9s o nx2)
noncomputable def k73 (o : ke) (nx2 : HL TB.den kf.hs → Prop) (i : HL TB.den kf.hs) : Prop := WP TB k18 84 1 (cA (cA (cA (cB (cB (cB k1r)))))) (k9a o nx2) (kf.fill TB i) (k48 o nx2)
noncomputable def khq (o : ke) : An TB := .lp [] kf (k73 o) fun nx2 => (k9a o nx2)
noncomputable def khp (o : ke) : An TB := .nd [] .no [] (.nd [] (khq o) [] .no)
noncomputable def ka0 (o : ke) : An TB := .nd [] .no [] (.nd [] .no [] (khp o))
noncomputable def k95 (x : kao) (o : ke) : Prop := WPh TB k18 84 1 k1r (ka0 o) (kn.st TB x) (retTQ TB k18 kn k47 o)
set_option maxRecDepth 100000 in
theorem ki0 (o : ke) : OblH TB k18 84 1 k1r (ka0 o) (retTQ TB k18 kn k47 o) :=
  OblH.of_eq (X := (True ∧ (True ∧ (True ∧ (((∀ nx i, (k73 o) nx i = (k73 o) nx i) ∧ ∀ nx2 : HL TB.den kf.hs → Prop, (((∀ nx i, (k74 o nx2) nx i = (k74 o nx2) nx i) ∧ ∀ nx1 : HL TB.den k2i.hs → Prop, ((True ∧ (True ∧ True)) ∧ True)) ∧ (∀ i, (k6z o nx2) i = (k9h o nx2) i) ∧ (((∀ nx i, (k6y o nx2) nx i = (k6y o nx2) nx i) ∧ ∀ nx3 : HL TB.den k2h.hs → Prop, ((True ∧ (True ∧ True)) ∧ True)) ∧ (∀ i, (k72 o nx2) i = (k9q o nx2) i) ∧ ((True ∧ (True ∧ True)) ∧ (True ∧ (True ∧ True)))))) ∧ (True ∧ True)))))) (by kernel_rfl) ⟨trivial, ⟨trivial, ⟨trivial, ⟨⟨fun _ _ => rfl, fun _ => ⟨⟨fun _ _ => rfl, fun _ => ⟨⟨trivial, ⟨trivial, trivial⟩⟩, trivial⟩⟩, fun _ => propext ⟨fun h => h.1, fun h => ⟨h⟩⟩, ⟨⟨fun _ _ => rfl, fun _ => ⟨⟨trivial, ⟨trivial, trivial⟩⟩, trivial⟩⟩, fun _ => propext ⟨fun h => h.1, fun h => ⟨h⟩⟩, ⟨⟨trivial, ⟨trivial, trivial⟩⟩, ⟨trivial, ⟨trivial, trivial⟩⟩⟩⟩⟩⟩, ⟨trivial, trivial⟩⟩⟩⟩⟩
set_option maxRecDepth 100000 in
theorem khf {x : kao} {o : ke} (h : k95 x o) : SoundH Try.prog kn.f ((kn.args idf x).map (er TB)) ((kn.obs idf x).map (erO TB)) (er TB (kn.val idf o)) ((kn.ops idf o).map (erO TB)) :=
  Con.soundH (c := kn) (C := k18) TBok ⟨inf_ok, (all_cons k8e all_nil), all_nil⟩ mix Try.func62 (show Try.f62.body = some k1r by kernel_rfl) (show Try.f62.ntmps = 84 by kernel_rfl) (show Try.f62.results.toList = k47 by kernel_rfl) rfl h (ki0 o)
theorem bd62 : Callable Try.prog 62 := ⟨by rw [Try.func62]; kernel_rfl, by rw [Try.func62]; show some _ ≠ some _; decide⟩
noncomputable def k9m : Con TB.den := kn.relR k95
theorem kir : k9m.Ok Try.prog TB := Con.ok_rel kn bd62 fun _ _ h => khf h
end Go.Proofs.Ytponaobpcdkggaa
namespace Go.Proofs.Ytponaobpcdkggaa
open Go Go.Bv Go.Cv Go.Md Go.RowKit
def kk : Con TB.den := Con.mk0 63 [.one (.row 0), .one (.d (.int .i64)), .one (.d (.int .i64)), .one (.d (.int .i64))] [.vec (.int .i64)] (.tup [.one (.d (.int .i64)), .one (.d (.bool))]) [.vec (.int .i64)]
abbrev kd1 := HL TB.den (hsT kk.ins (hsOs kk.pre))
abbrev kc := HL TB.den (hsV kk.res (hsOs kk.post))
noncomputable def kj : Cx TB := ⟨inf, [k6w], [], 4, []⟩
noncomputable def k1f : Code := Try.f63.body.getD .skip
noncomputable def k28 : List ResultVar := Try.f63.results.toList
noncomputable def kmg (o : kc) : Exit → TSt TB.den → Prop := thenT TB (fun s => ghs TB [] s fun s => WP TB kj 168 1 (cB (cB (cB (cB (cB (cB (cB (cB (cB (cB k1f)))))))))) .no s (retTQ TB kj kk k28 o)) (retTQ TB kj kk k28 o)
def kl : Tm := ⟨[0], [.vec (.int .i64)], [0, 1, 10, 11], [.one (.row 0), .one (.d (.int .i64)), .one (.d (.int .i64)), .one (.d (.int .i64))], 245⟩
noncomputable def k5c (o : kc) (nx4 : HL TB.den kl.hs → Prop) : Exit → TSt TB.den → Prop := thenT TB (fun s => kl.mat TB 1 s nx4) (blockT TB 4 (kmg o))
def k4y : Tm := ⟨[0], [.vec (.int .i64)], [0, 1, 10, 11], [.one (.row 0), .one (.d (.int .i64)), .one (.d (.int .i64)), .one (.d (.int .i64))], 361⟩
noncomputable def kc0 (o : kc) (nx4 : HL TB.den kl.hs → Prop) (i : HL TB.den k4y.hs) : Prop := ghs TB [] (k4y.fill TB i) fun s => WP TB kj 168 1 (cB (cB (cA (cA (cA (cA (cB (cB (cB (cB (cB (cB (cB (cB (cB k1f))))))))))))))) .no s (blockT TB 5 (k5c o nx4))
structure k85 (o : kc) (nx4 : HL TB.den kl.hs → Prop) (i : HL TB.den k4y.hs) : Prop where
  h : kc0 o nx4 i
noncomputable def kmn (o : kc) (nx4 : HL TB.den kl.hs → Prop) : Exit → TSt TB.den → Prop := thenT TB (fun s => k4y.mat TB 1 s (k85 o nx4)) (blockT TB 5 (k5c o nx4))
def k3b : Tm := ⟨[0], [.vec (.int .i64)], [0, 1, 10, 11], [.one (.row 0), .one (.d (.int .i64)), .one (.d (.int .i64)), .one (.d (.int .i64))], 301⟩
noncomputable def km6 (o : kc) (nx4 : HL TB.den kl.hs → Prop) (nx5 : HL TB.den k3b.hs → Prop) : Exit → TSt TB.den → Prop := thenT TB (fun s => k3b.mat TB 1 s nx5) (blockT TB 8 (kmn o nx4))
noncomputable def k8i (o : kc) (nx4 : HL TB.den kl.hs → Prop) (nx5 : HL TB.den k3b.hs → Prop) (i : HL TB.den k3b.hs) : Prop := WP TB kj 168 1 (cA (cA (cA (cB (cA (cA (cA (cA (cB (cB (cB (cB (cB (cB (cB (cB (cB k1f))))))))))))))))) .no (k3b.fill TB i) (km6 o nx4 nx5)
noncomputable def kms (o : kc) (nx4 : HL TB.den kl.hs → Prop) : An TB := .lp [] k3b (k8i o nx4) fun nx5 => .no
noncomputable def kcd (o : kc) (nx4 : HL TB.den kl.hs → Prop) : An TB := .jn k4y (k85 o nx4) [] (kms o nx4) [] .no
def k4z : Tm := ⟨[0], [.vec (.int .i64)], [0, 1, 10, 11], [.one (.row 0), .one (.d (.int .i64)), .one (.d (.int .i64)), .one (.d (.int .i64))], 301⟩
noncomputable def kbz (o : kc) (nx4 : HL TB.den kl.hs → Prop) (i : HL TB.den k4z.hs) : Prop := ghs TB [] (k4z.fill TB i) fun s => WP TB kj 168 1 (cB (cA (cA (cA (cA (cB (cB (cB (cB (cB (cB (cB (cB (cB k1f)))))))))))))) (kcd o nx4) s (blockT TB 5 (k5c o nx4))
structure k87 (o : kc) (nx4 : HL TB.den kl.hs → Prop) (i : HL TB.den k4z.hs) : Prop where
  h : kbz o nx4 i
noncomputable def klx (o : kc) (nx4 : HL TB.den kl.hs → Prop) : Exit → TSt TB.den → Prop := thenT TB (fun s => k4z.mat TB 1 s (k87 o nx4)) (blockT TB 5 (k5c o nx4))
def k3g : Tm := ⟨[0], [.vec (.int .i64)], [0, 1, 10, 11], [.one (.row 0), .one (.d (.int .i64)), .one (.d (.int .i64)), .one (.d (.int .i64))], 245⟩
noncomputable def klh (o : kc) (nx4 : HL TB.den kl.hs → Prop) (nx3 : HL TB.den k3g.hs → Prop) : Exit → TSt TB.den → Prop := thenT TB (fun s => k3g.mat TB 1 s nx3) (blockT TB 6 (klx o nx4))
noncomputable def k8d (o : kc) (nx4 : HL TB.den kl.hs → Prop) (nx3 : HL TB.den k3g.hs → Prop) (i : HL TB.den k3g.hs) : Prop := WP TB kj 168 1 (cA (cA (cA (cA (cA (cA (cA (cB (cB (cB (cB (cB (cB (cB (cB (cB k1f)))))))))))))))) .no (k3g.fill TB i) (klh o nx4 nx3)
noncomputable def kls (o : kc) (nx4 : HL TB.den kl.hs → Prop) : An TB := .lp [] k3g (k8d o nx4) fun nx3 => .no
noncomputable def kc1 (o : kc) (nx4 : HL TB.den kl.hs → Prop) : An TB := .jn k4z (k87 o nx4) [] (kls o nx4) [] (kcd o nx4)
noncomputable def k8g (o : kc) (nx4 : HL TB.den kl.hs → Prop) (i : HL TB.den kl.hs) : Prop := WP TB kj 168 1 (cA (cA (cA (cB (cB (cB (cB (cB (cB (cB (cB (cB k1f)))))))))))) (kc1 o nx4) (kl.fill TB i) (k5c o nx4)
noncomputable def klq (o : kc) : An TB := .lp [] kl (k8g o) fun nx4 => (kc1 o nx4)
noncomputable def klk (o : kc) : An TB := .nd [] .no [] (.nd [] (klq o) [] .no)
noncomputable def kbu (o : kc) : An TB := .nd [] .no [] (.nd [] .no [] (klk o))
def k50 : Tm := ⟨[0], [.vec (.int .i64)], [0, 1, 10, 11], [.one (.row 0), .one (.d (.int .i64)), .one (.d (.int .i64)), .one (.d (.int .i64))], 181⟩
noncomputable def kbs (o : kc) (i : HL TB.den k50.hs) : Prop := ghs TB [] (k50.fill TB i) fun s => WP TB kj 168 1 (cB (cB (cB (cB (cB k1f))))) (.nd [] .no [] (kbu o)) s (retTQ TB kj kk k28 o)
structure k8k (o : kc) (i : HL TB.den k50.hs) : Prop where
  h : kbs o i
noncomputable def klp (o : kc) : Exit → TSt TB.den → Prop := thenT TB (fun s => k50.mat TB 1 s (k8k o)) (retTQ TB kj kk k28 o)
def k3a : Tm := ⟨[0], [.vec (.int .i64)], [0, 1, 10, 11], [.one (.row 0), .one (.d (.int .i64)), .one (.d (.int .i64)), .one (.d (.int .i64))], 121⟩
noncomputable def klj (o : kc) (nx2 : HL TB.den k3a.hs → Prop) : Exit → TSt TB.den → Prop := thenT TB (fun s => k3a.mat TB 1 s nx2) (blockT TB 2 (klp o))
noncomputable def k8f (o : kc) (nx2 : HL TB.den k3a.hs → Prop) (i : HL TB.den k3a.hs) : Prop := WP TB kj 168 1 (cA (cA (cA (cB (cB (cB (cB k1f))))))) .no (k3a.fill TB i) (klj o nx2)
noncomputable def klg (o : kc) : An TB := .lp [] k3a (k8f o) fun nx2 => .no
noncomputable def kby (o : kc) : An TB := .jn k50 (k8k o) [] (klg o) [] (.nd [] .no [] (kbu o))
def k51 : Tm := ⟨[0], [.vec (.int .i64)], [0, 1, 10, 11], [.one (.row 0), .one (.d (.int .i64)), .one (.d (.int .i64)), .one (.d (.int .i64))], 121⟩
noncomputable def kbt (o : kc) (i : HL TB.den k51.hs) : Prop := ghs TB [] (k51.fill TB i) fun s => WP TB kj 168 1 (cB (cB (cB (cB k1f)))) (kby o) s (retTQ TB kj kk k28 o)
structure k88 (o : kc) (i : HL TB.den k51.hs) : Prop where
  h : kbt o i
noncomputable def klo (o : kc) : Exit → TSt TB.den → Prop := thenT TB (fun s => k51.mat TB 1 s (k88 o)) (retTQ TB kj kk k28 o)
def k3d : Tm := ⟨[0], [.vec (.int .i64)], [0, 1, 10, 11], [.one (.row 0), .one (.d (.int .i64)), .one (.d (.int .i64)), .one (.d (.int .i64))], 65⟩
noncomputable def klf (o : kc) (nx1 : HL TB.den k3d.hs → Prop) : Exit → TSt TB.den → Prop := thenT TB (fun s => k3d.mat TB 1 s nx1) (blockT TB 0 (klo o))
noncomputable def k8a (o : kc) (nx1 : HL TB.den k3d.hs → Prop) (i : HL TB.den k3d.hs) : Prop := WP TB kj 168 1 (cA (cA (cA (cB (cB (cB k1f)))))) .no (k3d.fill TB i) (klf o nx1)
noncomputable def klm (o : kc) : An TB := .lp [] k3d (k8a o) fun nx1 => .no
noncomputable def kli (o : kc) : An TB := .jn k51 (k88 o) [] (klm o) [] (kby o)
noncomputable def kll (o : kc) : An TB := .nd [] .no [] (.nd [] .no [] (kli o))
noncomputable def kcg (o : kc) : An TB := .nd [] .no [] (kll o)
noncomputable def kbk (x : kd1) (o : kc) : Prop := WPh TB kj 168 1 k1f (kcg o) (kk.st TB x) (retTQ TB kj kk k28 o)
set_option maxRecDepth 100000 in
theorem klr (o : kc) : OblH TB kj 168 1 k1f (kcg o) (retTQ TB kj kk k28 o) :=
  OblH.of_eq (X := (True ∧ (True ∧ (True ∧ (((∀ nx i, (k8a o) nx i = (k8a o) nx i) ∧ ∀ nx1 : HL TB.den k3d.hs → Prop, ((True ∧ (True ∧ True)) ∧ True)) ∧ (∀ i, (k88 o) i = (kbt o) i) ∧ (((∀ nx i, (k8f o) nx i = (k8f o) nx i) ∧ ∀ nx2 : HL TB.den k3a.hs → Prop, ((True ∧ (True ∧ True)) ∧ True)) ∧ (∀ i, (k8k o) i = (kbs o) i) ∧ ((True ∧ ((True ∧ (True ∧ True)) ∧ True)) ∧ (True ∧ (True ∧ (True ∧ (((∀ nx i, (k8g o) nx i = (k8g o) nx i) ∧ ∀ nx4 : HL TB.den kl.hs → Prop, (((∀ nx i, (k8d o nx4) nx i = (k8d o nx4) nx i) ∧ ∀ nx3 : HL TB.den k3g.hs → Prop, ((True ∧ (True ∧ True)) ∧ True)) ∧ (∀ i, (k87 o nx4) i = (kbz o nx4) i) ∧ (((∀ nx i, (k8i o nx4) nx i = (k8i o nx4) nx i) ∧ ∀ nx5 : HL TB.den k3b.hs → Prop, ((True ∧ (True ∧ True)) ∧ True)) ∧ (∀ i, (k85 o nx4) i = (kc0 o nx4) i) ∧ ((True ∧ (True ∧ True)) ∧ (True ∧ (True ∧ True)))))) ∧ (True ∧ (True ∧ True))))))))))))) (by kernel_rfl) ⟨trivial, ⟨trivial, ⟨trivial, ⟨⟨fun _ _ => rfl, fun _ => ⟨⟨trivial, ⟨trivial, trivial⟩⟩, trivial⟩⟩, fun _ => propext ⟨fun h => h.1, fun h => ⟨h⟩⟩, ⟨⟨fun _ _ => rfl, fun _ => ⟨⟨trivial, ⟨trivial, trivial⟩⟩, trivial⟩⟩, fun _ => propext ⟨fun h => h.1, fun h => ⟨h⟩⟩, ⟨⟨trivial, ⟨⟨trivial, ⟨trivial, trivial⟩⟩, trivial⟩⟩, ⟨trivial, ⟨trivial, ⟨trivial, ⟨⟨fun _ _ => rfl, fun _ => ⟨⟨fun _ _ => rfl, fun _ => ⟨⟨trivial, ⟨trivial, trivial⟩⟩, trivial⟩⟩, fun _ => propext ⟨fun h => h.1, fun h => ⟨h⟩⟩, ⟨⟨fun _ _ => rfl, fun _ => ⟨⟨trivial, ⟨trivial, trivial⟩⟩, trivial⟩⟩, fun _ => propext ⟨fun h => h.1, fun h => ⟨h⟩⟩, ⟨⟨trivial, ⟨trivial, trivial⟩⟩, ⟨trivial, ⟨trivial, trivial⟩⟩⟩⟩⟩⟩, ⟨trivial, ⟨trivial, trivial⟩⟩⟩⟩⟩⟩⟩⟩⟩⟩⟩⟩
set_option maxRecDepth 100000 in
theorem kln {x : kd1} {o : kc} (h : kbk x o) : SoundH Try.prog kk.f ((kk.args idf x).map (er TB)) ((kk.obs idf x).map (erO TB)) (er TB (kk.val idf o)) ((kk.ops idf o).map (erO TB)) :=
  Con.soundH (c := kk) (C := kj) TBok ⟨inf_ok, (all_cons k8e all_nil), all_nil⟩ mix Try.func63 (show Try.f63.body = some k1f by kernel_rfl) (show Try.f63.ntmps = 168 by kernel_rfl) (show Try.f63.results.toList = k28 by kernel_rfl) rfl h (klr o)
theorem bd63 : Callable Try.prog 63 := ⟨by rw [Try.func63]; kernel_rfl, by rw [Try.func63]; show some _ ≠ some _; decide⟩
noncomputable def kbx : Con TB.den := kk.relR kbk
theorem km9 : kbx.Ok Try.prog TB := Con.ok_rel kk bd63 fun _ _ h => kln h
end Go.Proofs.Ytponaobpcdkggaa
namespace Go.Proofs.Ytponaobpcdkggaa
open Go Go.Bv Go.Cv Go.Md Go.RowKit
def ku : Con TB.den := Con.mk0 59 [.one (.row 0), .one (.d (.int .i64)), .one (.d (.int .i64))] [.vec (.int .i64)] (.tup []) [.vec (.int .i64)]
abbrev kbb := HL TB.den (hsT ku.ins (hsOs ku.pre))
abbrev k2e := HL TB.den (hsV ku.res (hsOs ku.post))
noncomputable def k2p : Cx TB := ⟨inf, [], [], 4, []⟩
noncomputable def k5i : Code := Try.f59.body.getD .skip
noncomputable def k5r : List ResultVar := Try.f59.results.toList
noncomputable def kjx (o : k2e) : Exit → TSt TB.den → Prop := blockT TB 0 (retTQ TB k2p ku k5r o)
def k2q : Tm := ⟨[0], [.vec (.int .i64)], [0, 6, 7], [.one (.row 0), .one (.d (.int .i64)), .one (.d (.int .i64))], 1⟩
noncomputable def kkb (o : k2e) (nx1 : HL TB.den k2q.hs → Prop) : Exit → TSt TB.den → Prop := thenT TB (fun s => k2q.mat TB 1 s nx1) (kjx o)
noncomputable def k7k (o : k2e) (nx1 : HL TB.den k2q.hs → Prop) (i : HL TB.den k2q.hs) : Prop := WP TB k2p 32 1 (cA (cA (cB (cB k5i)))) .no (k2q.fill TB i) (kkb o nx1)
noncomputable def kkh (o : k2e) : An TB := .lp [] k2q (k7k o) fun nx1 => .no
noncomputable def kb3 (o : k2e) : An TB := .nd [] .no [] (.nd [] .no [] (kkh o))
noncomputable def k9t (x : kbb) (o : k2e) : Prop := WPh TB k2p 32 1 k5i (kb3 o) (ku.st TB x) (retTQ TB k2p ku k5r o)
set_option maxRecDepth 100000 in
theorem kj4 (o : k2e) : OblH TB k2p 32 1 k5i (kb3 o) (retTQ TB k2p ku k5r o) :=
  OblH.of_eq (X := (True ∧ (True ∧ ((∀ nx i, (k7k o) nx i = (k7k o) nx i) ∧ ∀ nx1 : HL TB.den k2q.hs → Prop, ((True ∧ (True ∧ True)) ∧ (True ∧ (True ∧ True))))))) (by kernel_rfl) ⟨trivial, ⟨trivial, ⟨fun _ _ => rfl, fun _ => ⟨⟨trivial, ⟨trivial, trivial⟩⟩, ⟨trivial, ⟨trivial, trivial⟩⟩⟩⟩⟩⟩
set_option maxRecDepth 100000 in
theorem kj6 {x : kbb} {o : k2e} (h : k9t x o) : SoundH Try.prog ku.f ((ku.args idf x).map (er TB)) ((ku.obs idf x).map (erO TB)) (er TB (ku.val idf o)) ((ku.ops idf o).map (erO TB)) :=
  Con.soundH (c := ku) (C := k2p) TBok ⟨inf_ok, all_nil, all_nil⟩ mix Try.func59 (show Try.f59.body = some k5i by kernel_rfl) (show Try.f59.ntmps = 32 by kernel_rfl) (show Try.f59.results.toList = k5r by kernel_rfl) rfl h (kj4 o)
theorem bd59 : Callable Try.prog 59 := ⟨by rw [Try.func59]; kernel_rfl, by rw [Try.func59]; show some _ ≠ some _; decide⟩
noncomputable def kam : Con TB.den := ku.relR k9t
theorem kjz : kam.Ok Try.prog TB := Con.ok_rel ku bd59 fun _ _ h => kj6 h
end Go.Proofs.Ytponaobpcdkggaa
