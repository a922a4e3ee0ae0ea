/-
  Parts of the proofs that the laws of this seat hold of every input, merged by a program: a machine over pure data that is sound for the model, what each function of the translation does in it, and plain lemmas. No conditions but those in each theorem.
-/
import Derived.Test.YtpffhgljgpjenaaA4
set_option linter.all false
set_option maxRecDepth 100000
noncomputable section
namespace Go.Proofs.Ytpffhgljgpjenaa
open Go Go.Bv Go.Cv Go.Md Go.RowKit
def k3n : Con TB.den := Con.mk0 14 [] [] (.one (.one (.ptr 0 0))) [.cells [.d (.bool), .d (.int .u64), .d (.int .i64), .d (.sl (.st 3)), .mp 1, .mp 2, .mp 3], .map (.str) (.int .i64), .map (.str) (.sl (.int .u64)), .map (.str) (.bool)]
abbrev kzf := HL TB.den (hsT k3n.ins (hsOs k3n.pre))
abbrev ki6 := HL TB.den (hsV k3n.res (hsOs k3n.post))
def kc8 : Cx TB := ⟨inf, [kky], [], 4, []⟩
def kin : Code := Try.f14.body.getD .skip
def kn9 : List ResultVar := Try.f14.results.toList
def kx4 (o : ki6) : An TB := .no
def kjb (x : kzf) (o : ki6) : Prop := WPh TB kc8 2 0 kin (kx4 o) (k3n.st TB x) (retTQ TB kc8 k3n kn9 o)
theorem k1b4 (o : ki6) : OblH TB kc8 2 0 kin (kx4 o) (retTQ TB kc8 k3n kn9 o) :=
 OblH.ofC (X := True) (by kernel_rfl) trivial
theorem k1cm {x : kzf} {o : ki6} (h : kjb x o) : k3n.Snd Try.prog x o :=
 Con.soundH (c := k3n) (C := kc8) TBok ⟨inf_ok, (all_cons k11s all_nil), all_nil⟩ mix Try.func14 (show Try.f14.body = some kin by kernel_rfl) (show Try.f14.ntmps = 2 by kernel_rfl) (show Try.f14.results.toList = kn9 by kernel_rfl) rfl h (k1b4 o)
theorem k1cy  {d0_0 : Bool} {d0_1 : Int} {d0_2 : Int} {d0_3 : List TQuestion} {e1k : List ByteArray} {e1v : List Int} {e2k : List ByteArray} {e2v : List (List Int)} {e3k : List ByteArray} {e3v : List Bool} (h :
(false = d0_0 ∧ 0 = d0_1 ∧ 0 = d0_2 ∧ [] = d0_3 ∧ [] = e1k ∧ [] = e1v ∧ [] = e2k ∧ [] = e2v ∧ [] = e3k ∧ [] = e3v)) : kjb (()) (d0_0, d0_1, d0_2, d0_3, e1k, e1v, e2k, e2v, e3k, e3v, ()) := WPh.of_eq (by kernel_rfl) h
theorem bd14 : Callable Try.prog 14 := ⟨by rw [Try.func14]; kernel_rfl, by rw [Try.func14]; show some _ ≠ some _; decide⟩
theorem k182 : kjb (()) ((false : Bool), (0 : Int), (0 : Int), ([] : List TQuestion), ([] : List ByteArray), ([] : List Int), ([] : List ByteArray), ([] : List (List Int)), ([] : List ByteArray), ([] : List Bool), ()) := by
 exact k1cy ⟨rfl, rfl, rfl, rfl, rfl, rfl, rfl, rfl, rfl, rfl⟩
def ku0 : Con TB.den := k3n.totR fun x => ((false : Bool), (0 : Int), (0 : Int), ([] : List TQuestion), ([] : List ByteArray), ([] : List Int), ([] : List ByteArray), ([] : List (List Int)), ([] : List ByteArray), ([] : List Bool), ())
theorem k1ek : ku0.Ok Try.prog TB := Con.ok_tot k3n bd14 fun x => k1cm (k182 )
def k3s : Con TB.den := Con.mk0 103 [.agg [.d (.int .u64)]] [] (.one (.one (.d (.bool)))) []
abbrev k103 := HL TB.den (hsT k3s.ins (hsOs k3s.pre))
abbrev kij := HL TB.den (hsV k3s.res (hsOs k3s.post))
def kc6 : Cx TB := ⟨inf, [], [], 4, []⟩
def kj1 : Code := Try.f103.body.getD .skip
def kmw : List ResultVar := Try.f103.results.toList
def kvw (o : kij) : An TB := .no
def kji (x : k103) (o : kij) : Prop := WPh TB kc6 13 0 kj1 (kvw o) (k3s.st TB x) (retTQ TB kc6 k3s kmw o)
theorem k1bg (o : kij) : OblH TB kc6 13 0 kj1 (kvw o) (retTQ TB kc6 k3s kmw o) :=
 OblH.ofC (X := True) (by kernel_rfl) trivial
theorem k1cn {x : k103} {o : kij} (h : kji x o) : k3s.Snd Try.prog x o :=
 Con.soundH (c := k3s) (C := kc6) TBok ⟨inf_ok, all_nil, all_nil⟩ mix Try.func103 (show Try.f103.body = some kj1 by kernel_rfl) (show Try.f103.ntmps = 13 by kernel_rfl) (show Try.f103.results.toList = kmw by kernel_rfl) rfl h (k1bg o)
theorem k1ev {p0 : TField} {r0 : Bool} (h :
(((p0.P == 18446744069414584321) = true →
((p0.P == 18446744069414584321) = true →
 true = r0) ∧
((p0.P == 18446744069414584321) = false →
 false = r0)) ∧
((p0.P == 18446744069414584321) = false →
((p0.P == 17) = true →
((p0.P == 17) = true →
 true = r0) ∧
((p0.P == 17) = false →
 false = r0)) ∧
((p0.P == 17) = false →
((p0.P == 97) = true →
((p0.P == 97) = true →
 true = r0) ∧
((p0.P == 97) = false →
 false = r0)) ∧
((p0.P == 97) = false →
((p0.P == 193) = true →
((p0.P == 193) = true →
 true = r0) ∧
((p0.P == 193) = false →
 false = r0)) ∧
((p0.P == 193) = false →
((p0.P == 257) = true →
((p0.P == 257) = true →
 true = r0) ∧
((p0.P == 257) = false →
 false = r0)) ∧
((p0.P == 257) = false →
((p0.P == 12289) = true →
((p0.P == 12289) = true →
 true = r0) ∧
((p0.P == 12289) = false →
 false = r0)) ∧
((p0.P == 12289) = false →
((p0.P == 65537) = true →
 true = r0) ∧
((p0.P == 65537) = false →
 false = r0))))))))) : kji (p0.P, ()) (r0, ()) := WPh.of_eq (by kernel_rfl) h
theorem bd103 : Callable Try.prog 103 := ⟨by rw [Try.func103]; kernel_rfl, by rw [Try.func103]; show some _ ≠ some _; decide⟩
theorem k19u (p0 : TField) (h : p0.P = 18446744069414584321) : kji (p0.P, ()) ((true : Bool), ()) := by
 refine k1ev ?_
 simp [h]
def k6x : Con TB.den := k3s.fnR (fun x => (fun (p0 : TField) => p0.P = 18446744069414584321) (TField.mk x.1)) fun x => ((fun (p0 : TField) => (true : Bool)) (TField.mk x.1), ())
theorem k9p : k6x.Ok Try.prog TB := Con.ok_fn k3s bd103 fun x h => k1cn (k19u (TField.mk x.1) h)
def k48 : Con TB.den := Con.mk0 117 [.agg [.d (.int .u64)], .one (.d (.int .u64)), .one (.d (.int .u64))] [] (.one (.one (.d (.int .u64)))) []
abbrev k16x := HL TB.den (hsT k48.ins (hsOs k48.pre))
abbrev k9o := HL TB.den (hsV k48.res (hsOs k48.post))
def k84 : Cx TB := ⟨inf, [], [x130], 4, []⟩
def kd1 : Code := Try.f117.body.getD .skip
def kkx : List ResultVar := Try.f117.results.toList
def k1lk (o : k9o) := qS TB k84 28 0 (cB (cB (cB kd1))) .no (retTQ TB k84 k48 kkx o)
def kig : Tm := ⟨[0], [.cells [.d (.int .u64)]], [3, 7, 22], [.one (.ptr 0 0), .one (.d (.int .u64)), .one (.d (.bool))], 1⟩
def kzj (o : k9o) (i : HL TB.den kig.hs) : Prop := ghs TB [] (kig.fill TB i) fun s => WP TB k84 28 0 (cB (cA (cB (cB kd1)))) .no s (k1lk o)
structure kfw (o : k9o) (i : HL TB.den kig.hs) : Prop where
 h : kzj o i
def k1jy (o : k9o) : An TB := .nd [] (.jn kig (kfw o) [] .no [] .no) [] .no
def k122 (o : k9o) : An TB := .nd [] .no [] (.nd [] .no [] (k1jy o))
def kml (x : k16x) (o : k9o) : Prop := WPh TB k84 28 0 kd1 (k122 o) (k48.st TB x) (retTQ TB k84 k48 kkx o)
theorem k1h0 (o : k9o) : OblH TB k84 28 0 kd1 (k122 o) (retTQ TB k84 k48 kkx o) :=
 OblH.ofC (X := ((∀ i, (kfw o) i = kzj o i) ∧ True)) (by kernel_rfl) ⟨fun _ => propext ⟨fun h => h.1, fun h => ⟨h⟩⟩, trivial⟩
theorem k1gc {x : k16x} {o : k9o} (h : kml x o) : k48.Snd Try.prog x o :=
 Con.soundH (c := k48) (C := k84) TBok ⟨inf_ok, all_nil, (all_cons x130_ok all_nil)⟩ mix Try.func117 (show Try.f117.body = some kd1 by kernel_rfl) (show Try.f117.ntmps = 28 by kernel_rfl) (show Try.f117.results.toList = kkx by kernel_rfl) rfl h (k1h0 o)
theorem k1km {p0 : TField} {p1 : Int} {p2 : Int} {r0 : Int} (h :
((0 ≤ p1 ∧ 0 ≤ p2 ∧ 0 ≤ (0 : Int) ∧ (0 : Int) ≤ 1) ∧ let r1 : Int := (p1 + p2 + (0 : Int)) % 18446744073709551616
 let r2 : Int := (p1 + p2 + (0 : Int)) / 18446744073709551616
((r2 != 0) = true →
 kfw (r0, ()) (r1, true, p0.P, ())) ∧
((r2 != 0) = false →
 kfw (r0, ()) (r1, (decide (p0.P ≤ r1) : Bool), p0.P, ())))) : kml (p0.P, p1, p2, ()) (r0, ()) := WPh.of_eq (by kernel_rfl) h
theorem ktr {r0 : Int} {s7 : Int} {s22 : Bool} {h0_0 : Int} (h :
((s22 = true →
 IntKind.u64.wrap (s7 - h0_0) = r0) ∧
(s22 = false →
 s7 = r0))) : kfw (r0, ()) (s7, s22, h0_0, ()) := ⟨mpr_of (by kernel_rfl) h⟩
theorem bd117 : Callable Try.prog 117 := ⟨by rw [Try.func117]; kernel_rfl, by rw [Try.func117]; show some _ ≠ some _; decide⟩
theorem k1f1 (p0 : TField) (p1 : Int) (p2 : Int) (h : p0.P = 18446744069414584321 ∧ (0 ≤ p1 ∧ p1 < 18446744069414584321) ∧ (0 ≤ p2 ∧ p2 < 18446744069414584321)) : kml (p0.P, p1, p2, ()) ((((p1 + p2) % 18446744069414584321) : Int), ()) := by
 obtain ⟨hP, h1, h2⟩ := h
 refine k1km ⟨by omega, ?_, ?_⟩
 ·intro h
  refine ktr ⟨fun _ => ?_, fun h => by simp at h⟩
  have h : (p1 + p2 + 0) / 18446744073709551616 ≠ 0 := by simpa using h
  rw [hP, u64w]; omega
 ·intro h
  have h : (p1 + p2 + 0) / 18446744073709551616 = 0 := by simpa using h
  refine ktr ⟨fun g => ?_, fun g => ?_⟩
  ·have g := of_decide_eq_true g
   rw [hP] at g ⊢
   rw [u64w]; omega
  ·have g := of_decide_eq_false g
   rw [hP] at g
   omega
def kzk : Con TB.den := k48.fnR (fun x => (fun (p0 : TField) (p1 : Int) (p2 : Int) => p0.P = 18446744069414584321 ∧ (0 ≤ p1 ∧ p1 < 18446744069414584321) ∧ (0 ≤ p2 ∧ p2 < 18446744069414584321)) (TField.mk x.1) x.2.1 x.2.2.1) fun x => ((fun (p0 : TField) (p1 : Int) (p2 : Int) => (((p1 + p2) % 18446744069414584321) : Int)) (TField.mk x.1) x.2.1 x.2.2.1, ())
theorem k1kl : kzk.Ok Try.prog TB := Con.ok_fn k48 bd117 fun x h => k1gc (k1f1 (TField.mk x.1) x.2.1 x.2.2.1 h)
def k2l : Con TB.den := Con.mk0 118 [.agg [.d (.int .u64)], .one (.d (.int .u64))] [] (.one (.one (.d (.int .u64)))) []
abbrev ku3 := HL TB.den (hsT k2l.ins (hsOs k2l.pre))
abbrev kew := HL TB.den (hsV k2l.res (hsOs k2l.post))
def ka1 : Cx TB := ⟨inf, [], [], 4, []⟩
def kgb : Code := Try.f118.body.getD .skip
def kil : List ResultVar := Try.f118.results.toList
def krw (o : kew) : An TB := .no
def kgc (x : ku3) (o : kew) : Prop := WPh TB ka1 14 0 kgb (krw o) (k2l.st TB x) (retTQ TB ka1 k2l kil o)
theorem k16h (o : kew) : OblH TB ka1 14 0 kgb (krw o) (retTQ TB ka1 k2l kil o) :=
 OblH.ofC (X := True) (by kernel_rfl) trivial
theorem k15w {x : ku3} {o : kew} (h : kgc x o) : k2l.Snd Try.prog x o :=
 Con.soundH (c := k2l) (C := ka1) TBok ⟨inf_ok, all_nil, all_nil⟩ mix Try.func118 (show Try.f118.body = some kgb by kernel_rfl) (show Try.f118.ntmps = 14 by kernel_rfl) (show Try.f118.results.toList = kil by kernel_rfl) rfl h (k16h o)
theorem k18t {p0 : TField} {p1 : Int} {r0 : Int} (h :
((decide (p0.P ≤ p1) = true →
(p0.P ≠ 0) ∧ Int.tmod p1 p0.P = r0) ∧
(decide (p0.P ≤ p1) = false →
 p1 = r0))) : kgc (p0.P, p1, ()) (r0, ()) := WPh.of_eq (by kernel_rfl) h
theorem bd118 : Callable Try.prog 118 := ⟨by rw [Try.func118]; kernel_rfl, by rw [Try.func118]; show some _ ≠ some _; decide⟩
theorem k127 (p0 : TField) (p1 : Int) (h : 0 < p0.P ∧ 0 ≤ p1) : kgc (p0.P, p1, ()) (((p1 % p0.P) : Int), ()) := by
 refine k18t ⟨fun h1 => ⟨by omega, tmod_nn _ _ h.2⟩, fun h1 => ?_⟩
 simp at h1
 rw [Int.emod_eq_of_lt (by omega) (by omega)]
def k98 : Con TB.den := k2l.fnR (fun x => (fun (p0 : TField) (p1 : Int) => 0 < p0.P ∧ 0 ≤ p1) (TField.mk x.1) x.2.1) fun x => ((fun (p0 : TField) (p1 : Int) => ((p1 % p0.P) : Int)) (TField.mk x.1) x.2.1, ())
theorem kdo : k98.Ok Try.prog TB := Con.ok_fn k2l bd118 fun x h => k15w (k127 (TField.mk x.1) x.2.1 h)
def k5k : Con TB.den := Con.mk0 110 [.agg [.d (.int .u64)], .one (.d (.int .u64)), .one (.d (.int .u64))] [] (.one (.one (.d (.int .u64)))) []
abbrev k179 := HL TB.den (hsT k5k.ins (hsOs k5k.pre))
abbrev kne := HL TB.den (hsV k5k.res (hsOs k5k.post))
def kfu : Cx TB := ⟨inf, [k6x, k98, kzk], [], 4, []⟩
def kmg : Code := Try.f110.body.getD .skip
def ks1 : List ResultVar := Try.f110.results.toList
def k14m (o : kne) : An TB := .no
def kms (x : k179) (o : kne) : Prop := WPh TB kfu 18 0 kmg (k14m o) (k5k.st TB x) (retTQ TB kfu k5k ks1 o)
theorem k1ig (o : kne) : OblH TB kfu 18 0 kmg (k14m o) (retTQ TB kfu k5k ks1 o) :=
 OblH.ofC (X := True) (by kernel_rfl) trivial
theorem k1hf {x : k179} {o : kne} (h : kms x o) : k5k.Snd Try.prog x o :=
 Con.soundH (c := k5k) (C := kfu) TBok ⟨inf_ok, (all_cons k9p (all_cons kdo (all_cons k1kl all_nil))), all_nil⟩ mix Try.func110 (show Try.f110.body = some kmg by kernel_rfl) (show Try.f110.ntmps = 18 by kernel_rfl) (show Try.f110.results.toList = ks1 by kernel_rfl) rfl h (k1ig o)
theorem k1k2 {p0 : TField} {p1 : Int} {p2 : Int} {r0 : Int} (h :
((p0.P = 18446744069414584321) ∧ ((!true) = true →
 0 = r0) ∧
((!true) = false →
(0 < p0.P ∧ 0 ≤ p1) ∧ (0 < p0.P ∧ 0 ≤ p2) ∧ (p0.P = 18446744069414584321 ∧ (0 ≤ (p1 % p0.P) ∧ (p1 % p0.P) < 18446744069414584321) ∧ (0 ≤ (p2 % p0.P) ∧ (p2 % p0.P) < 18446744069414584321)) ∧ let r1 : Int := (((p1 % p0.P) + (p2 % p0.P)) % 18446744069414584321)
 r1 = r0))) : kms (p0.P, p1, p2, ()) (r0, ()) := WPh.of_eq (by kernel_rfl) h
theorem bd110 : Callable Try.prog 110 := ⟨by rw [Try.func110]; kernel_rfl, by rw [Try.func110]; show some _ ≠ some _; decide⟩
theorem k1f5 (p0 : TField) (p1 : Int) (p2 : Int) (h : p0.P = 18446744069414584321 ∧ U64 p1 ∧ U64 p2) : kms (p0.P, p1, p2, ()) ((((p1 + p2) % 18446744069414584321) : Int), ()) := by
 obtain ⟨hP, h1, h2⟩ := h
 refine k1k2 ⟨hP, ?_⟩
 simp only [hP]
 refine ⟨fun h => by simp at h, fun _ => ⟨by omega, by omega, ⟨by trivial, by omega, by omega⟩, ?_⟩⟩
 omega
def ki9 : Con TB.den := k5k.fnR (fun x => (fun (p0 : TField) (p1 : Int) (p2 : Int) => p0.P = 18446744069414584321 ∧ U64 p1 ∧ U64 p2) (TField.mk x.1) x.2.1 x.2.2.1) fun x => ((fun (p0 : TField) (p1 : Int) (p2 : Int) => (((p1 + p2) % 18446744069414584321) : Int)) (TField.mk x.1) x.2.1 x.2.2.1, ())
theorem ksk : ki9.Ok Try.prog TB := Con.ok_fn k5k bd110 fun x h => k1hf (k1f5 (TField.mk x.1) x.2.1 x.2.2.1 h)
def k5g : Con TB.den := Con.mk0 119 [.agg [.d (.int .u64)], .one (.d (.int .u64)), .one (.d (.int .u64))] [] (.one (.one (.d (.int .u64)))) []
abbrev k175 := HL TB.den (hsT k5g.ins (hsOs k5g.pre))
abbrev kni := HL TB.den (hsV k5g.res (hsOs k5g.post))
def kfb : Cx TB := ⟨inf, [kmq, klz], [], 4, []⟩
def kmb : Code := Try.f119.body.getD .skip
def krq : List ResultVar := Try.f119.results.toList
def k15b (o : kni) : An TB := .no
def kmc (x : k175) (o : kni) : Prop := WPh TB kfb 26 0 kmb (k15b o) (k5g.st TB x) (retTQ TB kfb k5g krq o)
theorem k1gd (o : kni) : OblH TB kfb 26 0 kmb (k15b o) (retTQ TB kfb k5g krq o) :=
 OblH.ofC (X := True) (by kernel_rfl) trivial
theorem k1ha {x : k175} {o : kni} (h : kmc x o) : k5g.Snd Try.prog x o :=
 Con.soundH (c := k5g) (C := kfb) TBok ⟨inf_ok, (all_cons k10a (all_cons kyw all_nil)), all_nil⟩ mix Try.func119 (show Try.f119.body = some kmb by kernel_rfl) (show Try.f119.ntmps = 26 by kernel_rfl) (show Try.f119.results.toList = krq by kernel_rfl) rfl h (k1gd o)
theorem k1ji {p0 : TField} {p1 : Int} {p2 : Int} {r0 : Int} (h :
((U64 p1 ∧ U64 p2) ∧ (U64 (p1 * p2 / 18446744073709551616) ∧ U64 (p1 * p2 % 18446744073709551616) ∧ U64 p0.P ∧ (p1 * p2 / 18446744073709551616) < p0.P) ∧ let r1 : Int := (((p1 * p2 / 18446744073709551616) * 18446744073709551616 + (p1 * p2 % 18446744073709551616)) / p0.P)
 let r2 : Int := (((p1 * p2 / 18446744073709551616) * 18446744073709551616 + (p1 * p2 % 18446744073709551616)) % p0.P)
 r2 = r0)) : kmc (p0.P, p1, p2, ()) (r0, ()) := WPh.of_eq (by kernel_rfl) h
theorem bd119 : Callable Try.prog 119 := ⟨by rw [Try.func119]; kernel_rfl, by rw [Try.func119]; show some _ ≠ some _; decide⟩
theorem k1ct (p0 : TField) (p1 : Int) (p2 : Int) (h : p0.P = 18446744069414584321 ∧ (0 ≤ p1 ∧ p1 < 18446744069414584321) ∧ (0 ≤ p2 ∧ p2 < 18446744069414584321)) : kmc (p0.P, p1, p2, ()) (((p1 * p2 % 18446744069414584321) : Int), ()) := by
 obtain ⟨hP, h1, h2⟩ := h
 have h3 : 0 ≤ p1 * p2 := Int.mul_nonneg h1.1 h2.1
 have h4 : p1 * p2 ≤ 18446744069414584320 * 18446744069414584320 := Int.mul_le_mul (by omega) (by omega) h2.1 (by omega)
 refine k1ji ⟨⟨by omega, by omega⟩, ?_⟩
 simp only [hP]
 generalize p1 * p2 = m at *
 refine ⟨⟨⟨by omega, by omega⟩, ⟨by omega, by omega⟩, by omega, by omega⟩, ?_⟩
 rw [show m / 18446744073709551616 * 18446744073709551616 + m % 18446744073709551616 = m by omega]
def koy : Con TB.den := k5g.fnR (fun x => (fun (p0 : TField) (p1 : Int) (p2 : Int) => p0.P = 18446744069414584321 ∧ (0 ≤ p1 ∧ p1 < 18446744069414584321) ∧ (0 ≤ p2 ∧ p2 < 18446744069414584321)) (TField.mk x.1) x.2.1 x.2.2.1) fun x => ((fun (p0 : TField) (p1 : Int) (p2 : Int) => ((p1 * p2 % 18446744069414584321) : Int)) (TField.mk x.1) x.2.1 x.2.2.1, ())
theorem k13s : koy.Ok Try.prog TB := Con.ok_fn k5g bd119 fun x h => k1ha (k1ct (TField.mk x.1) x.2.1 x.2.2.1 h)
def k5f : Con TB.den := Con.mk0 111 [.agg [.d (.int .u64)], .one (.d (.int .u64)), .one (.d (.int .u64))] [] (.one (.one (.d (.int .u64)))) []
abbrev k16z := HL TB.den (hsT k5f.ins (hsOs k5f.pre))
abbrev knf := HL TB.den (hsV k5f.res (hsOs k5f.post))
def kfa : Cx TB := ⟨inf, [k6x, k98, koy], [], 4, []⟩
def kme : Code := Try.f111.body.getD .skip
def kqz : List ResultVar := Try.f111.results.toList
def k15c (o : knf) : An TB := .no
def kmp (x : k16z) (o : knf) : Prop := WPh TB kfa 18 0 kme (k15c o) (k5f.st TB x) (retTQ TB kfa k5f kqz o)
theorem k1hv (o : knf) : OblH TB kfa 18 0 kme (k15c o) (retTQ TB kfa k5f kqz o) :=
 OblH.ofC (X := True) (by kernel_rfl) trivial
theorem k1hg {x : k16z} {o : knf} (h : kmp x o) : k5f.Snd Try.prog x o :=
 Con.soundH (c := k5f) (C := kfa) TBok ⟨inf_ok, (all_cons k9p (all_cons kdo (all_cons k13s all_nil))), all_nil⟩ mix Try.func111 (show Try.f111.body = some kme by kernel_rfl) (show Try.f111.ntmps = 18 by kernel_rfl) (show Try.f111.results.toList = kqz by kernel_rfl) rfl h (k1hv o)
theorem k1kb {p0 : TField} {p1 : Int} {p2 : Int} {r0 : Int} (h :
((p0.P = 18446744069414584321) ∧ ((!true) = true →
 0 = r0) ∧
((!true) = false →
(0 < p0.P ∧ 0 ≤ p1) ∧ (0 < p0.P ∧ 0 ≤ p2) ∧ (p0.P = 18446744069414584321 ∧ (0 ≤ (p1 % p0.P) ∧ (p1 % p0.P) < 18446744069414584321) ∧ (0 ≤ (p2 % p0.P) ∧ (p2 % p0.P) < 18446744069414584321)) ∧ let r1 : Int := ((p1 % p0.P) * (p2 % p0.P) % 18446744069414584321)
 r1 = r0))) : kmp (p0.P, p1, p2, ()) (r0, ()) := WPh.of_eq (by kernel_rfl) h
theorem bd111 : Callable Try.prog 111 := ⟨by rw [Try.func111]; kernel_rfl, by rw [Try.func111]; show some _ ≠ some _; decide⟩
theorem k1ec (p0 : TField) (p1 : Int) (p2 : Int) (h : p0.P = 18446744069414584321 ∧ U64 p1 ∧ U64 p2) : kmp (p0.P, p1, p2, ()) (((p1 * p2 % 18446744069414584321) : Int), ()) := by
 obtain ⟨hP, h1, h2⟩ := h
 refine k1kb ⟨hP, ?_⟩
 simp only [hP]
 refine ⟨fun h => by simp at h, fun _ => ⟨by omega, by omega, ⟨by trivial, by omega, by omega⟩, ?_⟩⟩
 exact (Int.mul_emod _ _ _).symm
def kyx : Con TB.den := k5f.fnR (fun x => (fun (p0 : TField) (p1 : Int) (p2 : Int) => p0.P = 18446744069414584321 ∧ U64 p1 ∧ U64 p2) (TField.mk x.1) x.2.1 x.2.2.1) fun x => ((fun (p0 : TField) (p1 : Int) (p2 : Int) => ((p1 * p2 % 18446744069414584321) : Int)) (TField.mk x.1) x.2.1 x.2.2.1, ())
theorem k1k7 : kyx.Ok Try.prog TB := Con.ok_fn k5f bd111 fun x h => k1hg (k1ec (TField.mk x.1) x.2.1 x.2.2.1 h)
def k2j : Con TB.den := Con.mk0 131 [.agg [.d (.int .u64)]] [] (.tup [.one (.d (.int .u64)), .one (.d (.int .i64)), .one (.d (.int .u64))]) []
abbrev ktx := HL TB.den (hsT k2j.ins (hsOs k2j.pre))
abbrev keu := HL TB.den (hsV k2j.res (hsOs k2j.post))
def k9y : Cx TB := ⟨inf, [], [], 4, []⟩
def kfk : Code := Try.f131.body.getD .skip
def kj5 : List ResultVar := Try.f131.results.toList
def ks7 (o : keu) : An TB := .no
def kg7 (x : ktx) (o : keu) : Prop := WPh TB k9y 21 0 kfk (ks7 o) (k2j.st TB x) (retTQ TB k9y k2j kj5 o)
theorem k16j (o : keu) : OblH TB k9y 21 0 kfk (ks7 o) (retTQ TB k9y k2j kj5 o) :=
 OblH.ofC (X := True) (by kernel_rfl) trivial
theorem k16m {x : ktx} {o : keu} (h : kg7 x o) : k2j.Snd Try.prog x o :=
 Con.soundH (c := k2j) (C := k9y) TBok ⟨inf_ok, all_nil, all_nil⟩ mix Try.func131 (show Try.f131.body = some kfk by kernel_rfl) (show Try.f131.ntmps = 21 by kernel_rfl) (show Try.f131.results.toList = kj5 by kernel_rfl) rfl h (k16j o)
theorem k19w {p0 : TField} {r0 : Int} {r1 : Int} {r2 : Int} (h :
(((p0.P == 17) = true →
 3 = r0 ∧ 4 = r1 ∧ 3 = r2) ∧
((p0.P == 17) = false →
((p0.P == 97) = true →
 5 = r0 ∧ 5 = r1 ∧ 5 = r2) ∧
((p0.P == 97) = false →
((p0.P == 193) = true →
 5 = r0 ∧ 6 = r1 ∧ 5 = r2) ∧
((p0.P == 193) = false →
((p0.P == 257) = true →
 3 = r0 ∧ 8 = r1 ∧ 3 = r2) ∧
((p0.P == 257) = false →
((p0.P == 12289) = true →
 11 = r0 ∧ 12 = r1 ∧ 5 = r2) ∧
((p0.P == 12289) = false →
((p0.P == 65537) = true →
 3 = r0 ∧ 16 = r1 ∧ 3 = r2) ∧
((p0.P == 65537) = false →
((p0.P == 18446744069414584321) = true →
 7 = r0 ∧ 32 = r1 ∧ 7 = r2) ∧
((p0.P == 18446744069414584321) = false →
 0 = r0 ∧ 0 = r1 ∧ 0 = r2))))))))) : kg7 (p0.P, ()) (r0, r1, r2, ()) := WPh.of_eq (by kernel_rfl) h
theorem bd131 : Callable Try.prog 131 := ⟨by rw [Try.func131]; kernel_rfl, by rw [Try.func131]; show some _ ≠ some _; decide⟩
theorem k141 (p0 : TField) (h : p0.P = 18446744069414584321) : kg7 (p0.P, ()) ((7 : Int), (32 : Int), (7 : Int), ()) := by
 refine k19w ?_
 simp [h]
def kpr : Con TB.den := k2j.fnR (fun x => (fun (p0 : TField) => p0.P = 18446744069414584321) (TField.mk x.1)) fun x => ((fun (p0 : TField) => (7 : Int)) (TField.mk x.1), (fun (p0 : TField) => (32 : Int)) (TField.mk x.1), (fun (p0 : TField) => (7 : Int)) (TField.mk x.1), ())
theorem k183 : kpr.Ok Try.prog TB := Con.ok_fn k2j bd131 fun x h => k16m (k141 (TField.mk x.1) h)
def k24 : Con TB.den := Con.mk0 120 [.agg [.d (.int .u64)]] [] (.one (.one (.d (.int .u64)))) []
abbrev ksc := HL TB.den (hsT k24.ins (hsOs k24.pre))
abbrev kd6 := HL TB.den (hsV k24.res (hsOs k24.post))
def k97 : Cx TB := ⟨inf, [kpr], [], 4, []⟩
def kek : Code := Try.f120.body.getD .skip
def kha : List ResultVar := Try.f120.results.toList
def kpq (o : kd6) : An TB := .no
def kef (x : ksc) (o : kd6) : Prop := WPh TB k97 13 0 kek (kpq o) (k24.st TB x) (retTQ TB k97 k24 kha o)
theorem k130 (o : kd6) : OblH TB k97 13 0 kek (kpq o) (retTQ TB k97 k24 kha o) :=
 OblH.ofC (X := True) (by kernel_rfl) trivial
theorem k13d {x : ksc} {o : kd6} (h : kef x o) : k24.Snd Try.prog x o :=
 Con.soundH (c := k24) (C := k97) TBok ⟨inf_ok, (all_cons k183 all_nil), all_nil⟩ mix Try.func120 (show Try.f120.body = some kek by kernel_rfl) (show Try.f120.ntmps = 13 by kernel_rfl) (show Try.f120.results.toList = kha by kernel_rfl) rfl h (k130 o)
theorem k16t {p0 : TField} {r0 : Int} (h :
((p0.P = 18446744069414584321) ∧ 7 = r0)) : kef (p0.P, ()) (r0, ()) := WPh.of_eq (by kernel_rfl) h
theorem bd120 : Callable Try.prog 120 := ⟨by rw [Try.func120]; kernel_rfl, by rw [Try.func120]; show some _ ≠ some _; decide⟩
theorem k116 (p0 : TField) (h : p0.P = 18446744069414584321) : kef (p0.P, ()) ((7 : Int), ()) := by
 exact k16t ⟨h, rfl⟩
def knx : Con TB.den := k24.fnR (fun x => (fun (p0 : TField) => p0.P = 18446744069414584321) (TField.mk x.1)) fun x => ((fun (p0 : TField) => (7 : Int)) (TField.mk x.1), ())
theorem k16c : knx.Ok Try.prog TB := Con.ok_fn k24 bd120 fun x h => k13d (k116 (TField.mk x.1) h)
def k4h : Con TB.den := Con.mk0 132 [.agg [.d (.int .u64)], .one (.d (.int .u64)), .one (.d (.int .u64))] [] (.one (.one (.d (.int .u64)))) []
abbrev k17c := HL TB.den (hsT k4h.ins (hsOs k4h.pre))
abbrev k64 := HL TB.den (hsV k4h.res (hsOs k4h.post))
def k78 : Cx TB := ⟨inf, [koy], [], 4, []⟩
def k9r : Code := Try.f132.body.getD .skip
def kk9 : List ResultVar := Try.f132.results.toList
def k121 (o : k64) := qS TB k78 26 0 (cB (cB (cB k9r))) .no (retTQ TB k78 k4h kk9 o)
def k3m : Tm := ⟨[0], [.cells [.d (.int .u64)]], [1, 2, 3, 7], [.one (.d (.int .u64)), .one (.d (.int .u64)), .one (.ptr 0 0), .one (.d (.int .u64))], 1⟩
def k1k3 (o : k64) (nx1 : NX TB k3m) := blockT TB 1 (qM TB 0 k3m nx1 (blockT TB 0 (k121 o)))
def kif : Tm := ⟨[0], [.cells [.d (.int .u64)]], [1, 2, 3, 7], [.one (.d (.int .u64)), .one (.d (.int .u64)), .one (.ptr 0 0), .one (.d (.int .u64))], 1⟩
def kzl (o : k64) (nx1 : NX TB k3m) (i : HL TB.den kif.hs) : Prop := ghs TB [] (kif.fill TB i) fun s => WP TB k78 26 0 (cB (cA (cB (cA (cA (cA (cB (cB k9r)))))))) .no s (k1k3 o nx1)
structure kcj (o : k64) (nx1 : NX TB k3m) (i : HL TB.den kif.hs) : Prop where
 h : kzl o nx1 i
def k125 (o : k64) (nx1 : NX TB k3m) : An TB := .nd [] .no [] (.jn kif (kcj o nx1) [] .no [] .no)
def kfi (o : k64) (nx1 : NX TB k3m) (i : HL TB.den k3m.hs) : Prop := WP TB k78 26 0 (cA (cA (cA (cB (cB k9r))))) (k125 o nx1) (k3m.fill TB i) (qM TB 0 k3m nx1 (blockT TB 0 (k121 o)))
def k1j9 (o : k64) : An TB := .lp [] k3m (kfi o) fun nx1 => (k125 o nx1)
def k12b (o : k64) : An TB := .nd [] .no [] (.nd [] .no [] (.nd [] (k1j9 o) [] .no))
def kmj (x : k17c) (o : k64) : Prop := WPh TB k78 26 0 k9r (k12b o) (k4h.st TB x) (retTQ TB k78 k4h kk9 o)
theorem k1gf (o : k64) : OblH TB k78 26 0 k9r (k12b o) (retTQ TB k78 k4h kk9 o) :=
 OblH.ofC (X := ((∀ nx i, (kfi o) nx i = (kfi o) nx i) ∧ (∀ nx1 : NX TB k3m, ((∀ i, (kcj o nx1) i = kzl o nx1 i) ∧ True)) ∧ True)) (by kernel_rfl) ⟨fun _ _ => rfl, fun _ => ⟨fun _ => propext ⟨fun h => h.1, fun h => ⟨h⟩⟩, trivial⟩, trivial⟩
theorem k1gq {x : k17c} {o : k64} (h : kmj x o) : k4h.Snd Try.prog x o :=
 Con.soundH (c := k4h) (C := k78) TBok ⟨inf_ok, (all_cons k13s all_nil), all_nil⟩ mix Try.func132 (show Try.f132.body = some k9r by kernel_rfl) (show Try.f132.ntmps = 26 by kernel_rfl) (show Try.f132.results.toList = kk9 by kernel_rfl) rfl h (k1gf o)
theorem k1ju {p0 : TField} {p1 : Int} {p2 : Int} {r0 : Int} (h :
(Md.Loop (p1, p2, (1 : Int), p0.P, ()) (kfi (r0, ())))) : kmj (p0.P, p1, p2, ()) (r0, ()) := WPh.of_eq (by kernel_rfl) h
theorem k1b8 {r0 : Int} {nx1 : NX TB k3m} {s1 : Int} {s2 : Int} {s7 : Int} {h0_0 : Int} (h :
((decide (0 < (ishr .u64 s2 1)) = true →
((TField.mk h0_0).P = 18446744069414584321 ∧ (0 ≤ s1 ∧ s1 < 18446744069414584321) ∧ (0 ≤ s1 ∧ s1 < 18446744069414584321)) ∧ nx1 (((s1 * s1 % 18446744069414584321) : Int), (ishr .u64 s2 1 : Int), s7, h0_0, ())) ∧
(decide (0 < (ishr .u64 s2 1)) = false →
 nx1 (s1, (ishr .u64 s2 1 : Int), s7, h0_0, ())))) : kcj (r0, ()) nx1 (s1, s2, s7, h0_0, ()) := ⟨mpr_of (by kernel_rfl) h⟩
def k13q (r0 : Int) (nx1 : NX TB k3m) (k1 : Int → Int → Int → Prop) (h0_0 : Int) (s1 : Int) (s2 : Int) (s7 : Int) : Prop :=
(decide (0 < s2) = true →
(((iand .u64 s2 1) == 1) = true →
((TField.mk h0_0).P = 18446744069414584321 ∧ (0 ≤ s7 ∧ s7 < 18446744069414584321) ∧ (0 ≤ s1 ∧ s1 < 18446744069414584321)) ∧ kcj (r0, ()) nx1 (s1, s2, ((s7 * s1 % 18446744069414584321) : Int), h0_0, ())) ∧
(((iand .u64 s2 1) == 1) = false →
 kcj (r0, ()) nx1 (s1, s2, s7, h0_0, ()))) ∧
(decide (0 < s2) = false →
 s7 = r0)
theorem k1i2 {r0 : Int} {h0_0 : Int} {s1 : Int} {s2 : Int} {s7 : Int} (inv : Int → Int → Int → Prop) (μ : Int → Int → Int → Nat) (h0 : inv s1 s2 s7) (hs : ∀ (s1 : Int) (s2 : Int) (s7 : Int), inv s1 s2 s7 → k13q r0 (fun s : Int × Int × Int × Int × Unit => ((s.2.2.2.1 = h0_0) ∧ inv s.1 s.2.1 s.2.2.1) ∧ μ s.1 s.2.1 s.2.2.1 < μ s1 s2 s7) (fun s1q s2q s7q => inv s1q s2q s7q ∧ μ s1q s2q s7q < μ s1 s2 s7) h0_0 s1 s2 s7) : Md.Loop (s1, s2, s7, h0_0, ()) (kfi (r0, ())) :=
 ⟨⟨fun s : Int × Int × Int × Int × Unit => (s.2.2.2.1 = h0_0) ∧ inv s.1 s.2.1 s.2.2.1, fun s : Int × Int × Int × Int × Unit => μ s.1 s.2.1 s.2.2.1, ⟨rfl, h0⟩, fun (s1p, s2p, s7p, h0_0p, ()) ⟨eq0, hi⟩ => by
  have eq0 : h0_0p = h0_0 := eq0; subst h0_0p; exact mpr_of (by kernel_rfl) ((congrArg (fun k => k13q r0 (fun s : Int × Int × Int × Int × Unit => ((s.2.2.2.1 = h0_0) ∧ inv s.1 s.2.1 s.2.2.1) ∧ μ s.1 s.2.1 s.2.2.1 < μ s1p s2p s7p) k h0_0 s1p s2p s7p) (lpk3 (rfl : h0_0 = h0_0) inv (fun s1q s2q s7q => μ s1q s2q s7q < μ s1p s2p s7p))).mpr (hs s1p s2p s7p hi))⟩⟩
theorem bd132 : Callable Try.prog 132 := ⟨by rw [Try.func132]; kernel_rfl, by rw [Try.func132]; show some _ ≠ some _; decide⟩
theorem k1eu (p0 : TField) (p1 : Int) (p2 : Int) (h : p0.P = 18446744069414584321 ∧ (0 ≤ p1 ∧ p1 < 18446744069414584321) ∧ U64 p2) : kmj (p0.P, p1, p2, ()) (((pw p1 p2) : Int), ()) := by
 obtain ⟨hP, h1, h2⟩ := h
 refine k1ju ?_
 rw [hP]
 refine k1i2 (fun a e r => (0 ≤ a ∧ a < 18446744069414584321) ∧ U64 e ∧ (0 ≤ r ∧ r < 18446744069414584321) ∧ (r * a ^ e.toNat) % 18446744069414584321 = pw p1 p2) (fun a e r => e.toNat) ⟨h1, h2, by omega, by rw [Int.one_mul]; rfl⟩ ?_
 rintro a e r ⟨ha, he, hr, hv⟩
 have jj : ∀ nx r', (0 ≤ r' ∧ r' < 18446744069414584321) → 0 < e → (r' * (a * a) ^ (e / 2).toNat) % 18446744069414584321 = pw p1 p2 → (∀ a', (0 ≤ a' ∧ a' < 18446744069414584321) → r' * a' ^ (e / 2).toNat % 18446744069414584321 = pw p1 p2 → nx (a', (e / 2 : Int), r', (18446744069414584321 : Int), ())) → kcj ((pw p1 p2 : Int), ()) nx (a, e, r', (18446744069414584321 : Int), ()) := by
  intro nx r' hr' he' hv' hn
  refine k1b8 ?_
  rw [ishr1]
  refine ⟨fun h => ⟨⟨rfl, ha, ha⟩, ?_⟩, fun h => ?_⟩
  ·refine hn _ ⟨Int.emod_nonneg _ (by omega), Int.emod_lt_of_pos _ (by omega)⟩ ?_
   rw [← hv', Int.mul_emod, Int.mul_emod r' ((a * a) ^ _), ky9]
  ·have h : ¬ 0 < e / 2 := of_decide_eq_false h
   refine hn _ ha ?_
   rw [show (e / 2).toNat = 0 by omega] at hv' ⊢
   simpa using hv'
 refine ⟨fun h => ?_, fun h => ?_⟩
 ·have h := of_decide_eq_true h
  rw [k1p2 e he]
  have nxt : ∀ a' r', (0 ≤ a' ∧ a' < 18446744069414584321) → (0 ≤ r' ∧ r' < 18446744069414584321) → r' * a' ^ (e / 2).toNat % 18446744069414584321 = pw p1 p2 → ((0 ≤ a' ∧ a' < 18446744069414584321) ∧ U64 (e / 2) ∧ (0 ≤ r' ∧ r' < 18446744069414584321) ∧ r' * a' ^ (e / 2).toNat % 18446744069414584321 = pw p1 p2) ∧ (e / 2).toNat < e.toNat := fun a' r' h1 h2 h3 => ⟨⟨h1, ⟨by omega, by omega⟩, h2, h3⟩, by omega⟩
  have hpow : ∀ k : Nat, a ^ (2 * k) = (a * a) ^ k := fun k => by rw [Int.pow_mul]; congr 1; rw [Int.pow_succ, Int.pow_succ, Int.pow_zero, Int.one_mul]
  refine ⟨fun h1 => ⟨⟨rfl, hr, ha⟩, ?_⟩, fun h1 => ?_⟩
  ·have h1 : e % 2 = 1 := by simpa using h1
   refine jj _ _ ⟨Int.emod_nonneg _ (by omega), Int.emod_lt_of_pos _ (by omega)⟩ h ?_ fun a' ha' hv' => ⟨⟨rfl, (nxt a' _ ha' ⟨Int.emod_nonneg _ (by omega), Int.emod_lt_of_pos _ (by omega)⟩ hv').1⟩, (nxt a' _ ha' ⟨Int.emod_nonneg _ (by omega), Int.emod_lt_of_pos _ (by omega)⟩ hv').2⟩
   rw [← hv, show e.toNat = 2 * (e / 2).toNat + 1 by omega, Int.pow_succ, hpow, Int.mul_emod, Int.emod_emod_of_dvd _ (Int.dvd_refl _), ← Int.mul_emod]
   congr 1
   grind
  ·have h1 : ¬ e % 2 = 1 := by simpa using h1
   refine jj _ _ hr h ?_ fun a' ha' hv' => ⟨⟨rfl, (nxt a' _ ha' hr hv').1⟩, (nxt a' _ ha' hr hv').2⟩
   rw [← hv, ← hpow, show e.toNat = 2 * (e / 2).toNat by omega]
 ·have h : ¬ 0 < e := of_decide_eq_false h
  rw [show e.toNat = 0 by omega, Int.pow_zero, Int.mul_one, Int.emod_eq_of_lt hr.1 hr.2] at hv
  exact hv
def k104 : Con TB.den := k4h.fnR (fun x => (fun (p0 : TField) (p1 : Int) (p2 : Int) => p0.P = 18446744069414584321 ∧ (0 ≤ p1 ∧ p1 < 18446744069414584321) ∧ U64 p2) (TField.mk x.1) x.2.1 x.2.2.1) fun x => ((fun (p0 : TField) (p1 : Int) (p2 : Int) => ((pw p1 p2) : Int)) (TField.mk x.1) x.2.1 x.2.2.1, ())
theorem k1im : k104.Ok Try.prog TB := Con.ok_fn k4h bd132 fun x h => k1gq (k1eu (TField.mk x.1) x.2.1 x.2.2.1 h)
def k50 : Con TB.den := Con.mk0 121 [.agg [.d (.int .u64)], .one (.d (.int .u64)), .one (.d (.int .u64))] [] (.one (.one (.d (.int .u64)))) []
abbrev k17a := HL TB.den (hsT k50.ins (hsOs k50.pre))
abbrev knj := HL TB.den (hsV k50.res (hsOs k50.post))
def kfo : Cx TB := ⟨inf, [k6x, k98, k104], [], 4, []⟩
def km3 : Code := Try.f121.body.getD .skip
def kqx : List ResultVar := Try.f121.results.toList
def k13v (o : knj) : An TB := .no
def km7 (x : k17a) (o : knj) : Prop := WPh TB kfo 16 0 km3 (k13v o) (k50.st TB x) (retTQ TB kfo k50 kqx o)
theorem k1gi (o : knj) : OblH TB kfo 16 0 km3 (k13v o) (retTQ TB kfo k50 kqx o) :=
 OblH.ofC (X := True) (by kernel_rfl) trivial
theorem k1hk {x : k17a} {o : knj} (h : km7 x o) : k50.Snd Try.prog x o :=
 Con.soundH (c := k50) (C := kfo) TBok ⟨inf_ok, (all_cons k9p (all_cons kdo (all_cons k1im all_nil))), all_nil⟩ mix Try.func121 (show Try.f121.body = some km3 by kernel_rfl) (show Try.f121.ntmps = 16 by kernel_rfl) (show Try.f121.results.toList = kqx by kernel_rfl) rfl h (k1gi o)
theorem k1j2 {p0 : TField} {p1 : Int} {p2 : Int} {r0 : Int} (h :
((p0.P = 18446744069414584321) ∧ ((!true) = true →
 0 = r0) ∧
((!true) = false →
(0 < p0.P ∧ 0 ≤ p1) ∧ (p0.P = 18446744069414584321 ∧ (0 ≤ (p1 % p0.P) ∧ (p1 % p0.P) < 18446744069414584321) ∧ U64 p2) ∧ (pw (p1 % p0.P) p2) = r0))) : km7 (p0.P, p1, p2, ()) (r0, ()) := WPh.of_eq (by kernel_rfl) h
theorem bd121 : Callable Try.prog 121 := ⟨by rw [Try.func121]; kernel_rfl, by rw [Try.func121]; show some _ ≠ some _; decide⟩
theorem k1e9 (p0 : TField) (p1 : Int) (p2 : Int) (h : p0.P = 18446744069414584321 ∧ U64 p1 ∧ U64 p2) : km7 (p0.P, p1, p2, ()) (((pw (p1 % 18446744069414584321) p2) : Int), ()) := by
 obtain ⟨hP, h1, h2⟩ := h
 refine k1j2 ⟨hP, fun h => by simp at h, fun _ => ⟨by omega, ?_⟩⟩
 simp only [hP]
 exact ⟨⟨by trivial, by omega, h2⟩, trivial⟩
def kz3 : Con TB.den := k50.fnR (fun x => (fun (p0 : TField) (p1 : Int) (p2 : Int) => p0.P = 18446744069414584321 ∧ U64 p1 ∧ U64 p2) (TField.mk x.1) x.2.1 x.2.2.1) fun x => ((fun (p0 : TField) (p1 : Int) (p2 : Int) => ((pw (p1 % 18446744069414584321) p2) : Int)) (TField.mk x.1) x.2.1 x.2.2.1, ())
theorem k1k0 : kz3.Ok Try.prog TB := Con.ok_fn k50 bd121 fun x h => k1hk (k1e9 (TField.mk x.1) x.2.1 x.2.2.1 h)
def k30 : Con TB.den := Con.mk0 133 [.agg [.d (.int .u64)], .one (.d (.int .u64))] [] (.one (.one (.d (.int .u64)))) []
abbrev kwu := HL TB.den (hsT k30.ins (hsOs k30.pre))
abbrev kgt := HL TB.den (hsV k30.res (hsOs k30.post))
def kb3 : Cx TB := ⟨inf, [k6x, k98], [], 4, []⟩
def kh5 : Code := Try.f133.body.getD .skip
def kk6 : List ResultVar := Try.f133.results.toList
def ktu (o : kgt) : An TB := .no
def kh8 (x : kwu) (o : kgt) : Prop := WPh TB kb3 11 0 kh5 (ktu o) (k30.st TB x) (retTQ TB kb3 k30 kk6 o)
theorem k190 (o : kgt) : OblH TB kb3 11 0 kh5 (ktu o) (retTQ TB kb3 k30 kk6 o) :=
 OblH.ofC (X := True) (by kernel_rfl) trivial
theorem k18f {x : kwu} {o : kgt} (h : kh8 x o) : k30.Snd Try.prog x o :=
 Con.soundH (c := k30) (C := kb3) TBok ⟨inf_ok, (all_cons k9p (all_cons kdo all_nil)), all_nil⟩ mix Try.func133 (show Try.f133.body = some kh5 by kernel_rfl) (show Try.f133.ntmps = 11 by kernel_rfl) (show Try.f133.results.toList = kk6 by kernel_rfl) rfl h (k190 o)
theorem k1bb {p0 : TField} {p1 : Int} {r0 : Int} (h :
((p0.P = 18446744069414584321) ∧ ((!true) = true →
 0 = r0) ∧
((!true) = false →
(0 < p0.P ∧ 0 ≤ p1) ∧ (p1 % p0.P) = r0))) : kh8 (p0.P, p1, ()) (r0, ()) := WPh.of_eq (by kernel_rfl) h
theorem bd133 : Callable Try.prog 133 := ⟨by rw [Try.func133]; kernel_rfl, by rw [Try.func133]; show some _ ≠ some _; decide⟩
theorem k168 (p0 : TField) (p1 : Int) (h : p0.P = 18446744069414584321 ∧ U64 p1) : kh8 (p0.P, p1, ()) (((p1 % 18446744069414584321) : Int), ()) := by
 obtain ⟨hP, h1⟩ := h
 refine k1bb ⟨hP, fun h => by simp at h, fun _ => ⟨by omega, ?_⟩⟩
 simp only [hP]
def ks9 : Con TB.den := k30.fnR (fun x => (fun (p0 : TField) (p1 : Int) => p0.P = 18446744069414584321 ∧ U64 p1) (TField.mk x.1) x.2.1) fun x => ((fun (p0 : TField) (p1 : Int) => ((p1 % 18446744069414584321) : Int)) (TField.mk x.1) x.2.1, ())
theorem k1as : ks9.Ok Try.prog TB := Con.ok_fn k30 bd133 fun x h => k18f (k168 (TField.mk x.1) x.2.1 h)
def kk : Con TB.den := Con.mk0 122 [.one (.d (.int .u64)), .one (.d (.int .i64)), .one (.d (.int .i64))] [] (.one (.one (.d (.int .u64)))) []
abbrev khw := HL TB.den (hsT kk.ins (hsOs kk.pre))
abbrev k7x := HL TB.den (hsV kk.res (hsOs kk.post))
def k5s : Cx TB := ⟨inf, [ks9], [], 4, []⟩
def k9h : Code := Try.f122.body.getD .skip
def kaj : List ResultVar := Try.f122.results.toList
def kh1 (o : k7x) : An TB := .no
def k9f (x : khw) (o : k7x) : Prop := WPh TB k5s 31 0 k9h (kh1 o) (kk.st TB x) (retTQ TB k5s kk kaj o)
theorem ks0 (o : k7x) : OblH TB k5s 31 0 k9h (kh1 o) (retTQ TB k5s kk kaj o) :=
 OblH.ofC (X := True) (by kernel_rfl) trivial
theorem kra {x : khw} {o : k7x} (h : k9f x o) : kk.Snd Try.prog x o :=
 Con.soundH (c := kk) (C := k5s) TBok ⟨inf_ok, (all_cons k1as all_nil), all_nil⟩ mix Try.func122 (show Try.f122.body = some k9h by kernel_rfl) (show Try.f122.ntmps = 31 by kernel_rfl) (show Try.f122.results.toList = kaj by kernel_rfl) rfl h (ks0 o)
theorem ksz {p0 : Int} {p1 : Int} {p2 : Int} {r0 : Int} (h :
((decide (p1 < 0) = true →
 0 = r0) ∧
(decide (p1 < 0) = false →
(decide (8 ≤ p1) = true →
 0 = r0) ∧
(decide (8 ≤ p1) = false →
(decide (p2 < 0) = true →
 0 = r0) ∧
(decide (p2 < 0) = false →
(decide (2 < p2) = true →
 0 = r0) ∧
(decide (2 < p2) = false →
 let v1 : Int := IntKind.i64.wrap ((IntKind.i64.wrap (3 * p1)) + p2)
 let v2 : Int := IntKind.u64.wrap (IntKind.i64.wrap (v1 + 1))
 let v3 : Int := IntKind.u64.wrap (v2 * 11400714819323198485)
((TField.mk p0).P = 18446744069414584321 ∧ U64 v3) ∧ (v3 % 18446744069414584321) = r0)))))) : k9f (p0, p1, p2, ()) (r0, ()) := WPh.of_eq (by kernel_rfl) h
theorem bd122 : Callable Try.prog 122 := ⟨by rw [Try.func122]; kernel_rfl, by rw [Try.func122]; show some _ ≠ some _; decide⟩
theorem kqm (p0 : Int) (p1 : Int) (p2 : Int) (h : p0 = 18446744069414584321 ∧ (0 ≤ p1 ∧ p1 < 8) ∧ 0 ≤ p2 ∧ p2 < 3) : k9f (p0, p1, p2, ()) (((rc p1 p2) : Int), ()) := by
 obtain ⟨hP, h1, h2⟩ := h
 refine ksz ⟨fun h => ?_, fun _ => ⟨fun h => ?_, fun _ => ⟨fun h => ?_, fun _ => ⟨fun h => ?_, fun _ => ?_⟩⟩⟩⟩
 ·simp at h; omega
 ·simp at h; omega
 ·simp at h; omega
 ·simp at h; omega
 ·simp only []
  rw [wi (3 * p1) (by omega) (by omega), wi (3 * p1 + p2) (by omega) (by omega), wi (3 * p1 + p2 + 1) (by omega) (by omega), wu (3 * p1 + p2 + 1) (by omega) (by omega), u64w]
  exact ⟨⟨hP, by omega, by omega⟩, rfl⟩
def kg3 : Con TB.den := kk.fnR (fun x => (fun (p0 : Int) (p1 : Int) (p2 : Int) => p0 = 18446744069414584321 ∧ (0 ≤ p1 ∧ p1 < 8) ∧ 0 ≤ p2 ∧ p2 < 3) x.1 x.2.1 x.2.2.1) fun x => ((fun (p0 : Int) (p1 : Int) (p2 : Int) => ((rc p1 p2) : Int)) x.1 x.2.1 x.2.2.1, ())
theorem kss : kg3.Ok Try.prog TB := Con.ok_fn kk bd122 fun x h => kra (kqm x.1 x.2.1 x.2.2.1 h)
def k1s : Con TB.den := Con.mk0 123 [.one (.d (.int .u64)), .agg [.d (.int .u64), .d (.int .u64), .d (.int .u64)]] [] (.one (.agg [.d (.int .u64), .d (.int .u64), .d (.int .u64)])) []
abbrev kqc := HL TB.den (hsT k1s.ins (hsOs k1s.pre))
abbrev kbv := HL TB.den (hsV k1s.res (hsOs k1s.post))
def k8h : Cx TB := ⟨inf, [ki9], [], 4, []⟩
def kda : Code := Try.f123.body.getD .skip
def kf9 : List ResultVar := Try.f123.results.toList
def ko9 (o : kbv) : An TB := .no
def kd9 (x : kqc) (o : kbv) : Prop := WPh TB k8h 35 0 kda (ko9 o) (k1s.st TB x) (retTQ TB k8h k1s kf9 o)
theorem k117 (o : kbv) : OblH TB k8h 35 0 kda (ko9 o) (retTQ TB k8h k1s kf9 o) :=
 OblH.ofC (X := True) (by kernel_rfl) trivial
theorem k10t {x : kqc} {o : kbv} (h : kd9 x o) : k1s.Snd Try.prog x o :=
 Con.soundH (c := k1s) (C := k8h) TBok ⟨inf_ok, (all_cons ksk all_nil), all_nil⟩ mix Try.func123 (show Try.f123.body = some kda by kernel_rfl) (show Try.f123.ntmps = 35 by kernel_rfl) (show Try.f123.results.toList = kf9 by kernel_rfl) rfl h (k117 o)
theorem k12r {p0 : Int} {p1 : TA3} {r0 : TA3} (h :
(((TField.mk p0).P = 18446744069414584321 ∧ U64 p1.a0 ∧ U64 p1.a1) ∧ ((TField.mk p0).P = 18446744069414584321 ∧ U64 ((p1.a0 + p1.a1) % 18446744069414584321) ∧ U64 p1.a2) ∧ let r1 : Int := ((((p1.a0 + p1.a1) % 18446744069414584321) + p1.a2) % 18446744069414584321)
((TField.mk p0).P = 18446744069414584321 ∧ U64 p1.a0 ∧ U64 r1) ∧ ((TField.mk p0).P = 18446744069414584321 ∧ U64 p1.a1 ∧ U64 r1) ∧ ((TField.mk p0).P = 18446744069414584321 ∧ U64 p1.a2 ∧ U64 r1) ∧ ((p1.a0 + r1) % 18446744069414584321) = r0.a0 ∧ ((p1.a1 + r1) % 18446744069414584321) = r0.a1 ∧ ((p1.a2 + r1) % 18446744069414584321) = r0.a2)) : kd9 (p0, p1.a0, p1.a1, p1.a2, ()) (r0.a0, r0.a1, r0.a2, ()) := WPh.of_eq (by kernel_rfl) h
theorem bd123 : Callable Try.prog 123 := ⟨by rw [Try.func123]; kernel_rfl, by rw [Try.func123]; show some _ ≠ some _; decide⟩
theorem kxn (p0 : Int) (p1 : TA3) (h : p0 = 18446744069414584321 ∧ S3 p1) : kd9 (p0, p1.a0, p1.a1, p1.a2, ()) (((mixS p1).a0 : Int), ((mixS p1).a1 : Int), ((mixS p1).a2 : Int), ()) := by
 obtain ⟨hP, h0, h1, h2⟩ := h
 refine k12r ?_
 simp only [hP]
 exact ⟨⟨by trivial, h0, h1⟩, ⟨by trivial, by omega, h2⟩, ⟨by trivial, h0, by omega⟩, ⟨by trivial, h1, by omega⟩, ⟨by trivial, h2, by omega⟩, rfl, rfl, rfl⟩
def klf : Con TB.den := k1s.fnR (fun x => (fun (p0 : Int) (p1 : TA3) => p0 = 18446744069414584321 ∧ S3 p1) x.1 (TA3.mk x.2.1 x.2.2.1 x.2.2.2.1)) fun x => ((fun (p0 : Int) (p1 : TA3) => ((mixS p1).a0 : Int)) x.1 (TA3.mk x.2.1 x.2.2.1 x.2.2.2.1), (fun (p0 : Int) (p1 : TA3) => ((mixS p1).a1 : Int)) x.1 (TA3.mk x.2.1 x.2.2.1 x.2.2.2.1), (fun (p0 : Int) (p1 : TA3) => ((mixS p1).a2 : Int)) x.1 (TA3.mk x.2.1 x.2.2.1 x.2.2.2.1), ())
theorem k12q : klf.Ok Try.prog TB := Con.ok_fn k1s bd123 fun x h => k10t (kxn x.1 (TA3.mk x.2.1 x.2.2.1 x.2.2.2.1) h)
def ki : Con TB.den := Con.mk0 112 [.one (.d (.int .u64)), .agg [.d (.int .u64), .d (.int .u64), .d (.int .u64)]] [] (.one (.agg [.d (.int .u64), .d (.int .u64), .d (.int .u64)])) []
abbrev kjs := HL TB.den (hsT ki.ins (hsOs ki.pre))
abbrev kc := HL TB.den (hsV ki.res (hsOs ki.post))
def kp : Cx TB := ⟨inf, [k6x, knx, kg3, ki9, kz3, klf], [], 4, []⟩
def k1v : Code := Try.f112.body.getD .skip
def k7u : List ResultVar := Try.f112.results.toList
def kuh (o : kc) := qS TB kp 43 0 (cB (cB (cB (cB (cB k1v))))) .no (retTQ TB kp ki k7u o)
def ka : Tm := ⟨[0, 1, 2], [.cells [.d (.int .u64), .d (.int .u64), .d (.int .u64)], .cells [.d (.int .u64), .d (.int .u64), .d (.int .u64)], .cells [.d (.int .u64)]], [0, 3, 4, 5, 6, 17], [.one (.d (.int .u64)), .one (.ptr 0 0), .one (.ptr 1 0), .one (.ptr 2 0), .one (.d (.int .u64)), .one (.d (.int .i64))], 3⟩
def ki2 (o : kc) (nx2 : NX TB ka) := qM TB 0 ka nx2 (blockT TB 0 (kuh o))
def kug (o : kc) (nx2 : NX TB ka) := qS TB kp 43 0 (cB (cB (cB (cA (cA (cB (cA (cB (cB (cB (cB k1v))))))))))) .no (ki2 o nx2)
def kut (o : kc) (nx2 : NX TB ka) := qS TB kp 43 0 (cB (cB (cA (cA (cB (cB (cA (cA (cB (cA (cB (cB (cB (cB k1v)))))))))))))) .no (blockT TB 1 (kug o nx2))
def k35 : Tm := ⟨[0, 1, 2], [.cells [.d (.int .u64), .d (.int .u64), .d (.int .u64)], .cells [.d (.int .u64), .d (.int .u64), .d (.int .u64)], .cells [.d (.int .u64)]], [0, 3, 4, 5, 6, 7, 17, 20], [.one (.d (.int .u64)), .one (.ptr 0 0), .one (.ptr 1 0), .one (.ptr 2 0), .one (.d (.int .u64)), .one (.d (.int .i64)), .one (.d (.int .i64)), .one (.d (.int .i64))], 3⟩
def kuy (o : kc) (nx2 : NX TB ka) (nx1 : NX TB k35) := qM TB 0 k35 nx1 (blockT TB 2 (kut o nx2))
def k67 (o : kc) (nx2 : NX TB ka) (nx1 : NX TB k35) (i : HL TB.den k35.hs) : Prop := WP TB kp 43 0 (cA (cA (cB (cA (cB (cA (cA (cB (cB (cA (cA (cB (cA (cB (cB (cB (cB k1v))))))))))))))))) .no (k35.fill TB i) (kuy o nx2 nx1)
def kv6 (o : kc) (nx2 : NX TB ka) : An TB := .lp [] k35 (k67 o nx2) fun nx1 => .no
def kuj (o : kc) (nx2 : NX TB ka) : An TB := .nd [] .no [] (.nd [] (.nd [] .no [] (kv6 o nx2)) [] .no)
def kgy (o : kc) (nx2 : NX TB ka) : An TB := .nd [] .no [] (.nd [] .no [] (.nd [] (kuj o nx2) [] .no))
def k65 (o : kc) (nx2 : NX TB ka) (i : HL TB.den ka.hs) : Prop := WP TB kp 43 0 (cA (cA (cB (cA (cB (cB (cB (cB k1v)))))))) (kgy o nx2) (ka.fill TB i) (ki2 o nx2)
def kt1 (o : kc) : An TB := .lp [] ka (k65 o) fun nx2 => (kgy o nx2)
def ksr (o : kc) : An TB := .nd [] .no [] (.nd [] (.nd [] .no [] (kt1 o)) [] .no)
def khi (o : kc) : An TB := .nd [] .no [] (.nd [] .no [] (.nd [] .no [] (ksr o)))
def k9z (x : kjs) (o : kc) : Prop := WPh TB kp 43 0 k1v (khi o) (ki.st TB x) (retTQ TB kp ki k7u o)
theorem kt0 (o : kc) : OblH TB kp 43 0 k1v (khi o) (retTQ TB kp ki k7u o) :=
 OblH.ofC (X := ((∀ nx i, (k65 o) nx i = (k65 o) nx i) ∧ (∀ nx2 : NX TB ka, ((∀ nx i, (k67 o nx2) nx i = (k67 o nx2) nx i) ∧ (∀ nx1 : NX TB k35, True) ∧ True)) ∧ True)) (by kernel_rfl) ⟨fun _ _ => rfl, fun _ => ⟨fun _ _ => rfl, fun _ => trivial, trivial⟩, trivial⟩
theorem ksy {x : kjs} {o : kc} (h : k9z x o) : ki.Snd Try.prog x o :=
 Con.soundH (c := ki) (C := kp) TBok ⟨inf_ok, (all_cons k9p (all_cons k16c (all_cons kss (all_cons ksk (all_cons k1k0 (all_cons k12q all_nil)))))), all_nil⟩ mix Try.func112 (show Try.f112.body = some k1v by kernel_rfl) (show Try.f112.ntmps = 43 by kernel_rfl) (show Try.f112.results.toList = k7u by kernel_rfl) rfl h (kt0 o)
theorem kv2 {p0 : Int} {p1 : TA3} {r0 : TA3} (h :
(((TField.mk p0).P = 18446744069414584321) ∧ ((!true) = true →
 0 = r0.a0 ∧ 0 = r0.a1 ∧ 0 = r0.a2) ∧
((!true) = false →
((TField.mk p0).P = 18446744069414584321) ∧ Md.Loop (p0, (7 : Int), (0 : Int), p1.a0, p1.a1, p1.a2, (0 : Int), (0 : Int), (0 : Int), p0, ()) (k65 (r0.a0, r0.a1, r0.a2, ()))))) : k9z (p0, p1.a0, p1.a1, p1.a2, ()) (r0.a0, r0.a1, r0.a2, ()) := WPh.of_eq (by kernel_rfl) h
def khk (r0 : TA3) (nx2 : NX TB ka) (k2 : Int → Int → Int → Int → Prop) (s0 : Int) (s6 : Int) (h1_0 : Int) (h1_1 : Int) (h1_2 : Int) (h2_0 : Int) (s17 : Int) (h0_0 : Int) (h0_1 : Int) (h0_2 : Int) : Prop :=
(decide (s17 < 8) = true →
 Md.Loop (s0, s6, s17, s17, (0 : Int), h0_0, h0_1, h0_2, h1_0, h1_1, h1_2, h2_0, ()) (k67 (r0.a0, r0.a1, r0.a2, ()) nx2)) ∧
(decide (s17 < 8) = false →
 h0_0 = r0.a0 ∧ h0_1 = r0.a1 ∧ h0_2 = r0.a2)
theorem kt5 {r0 : TA3} {s0 : Int} {s6 : Int} {h1_0 : Int} {h1_1 : Int} {h1_2 : Int} {h2_0 : Int} {s17 : Int} {h0_0 : Int} {h0_1 : Int} {h0_2 : Int} (inv : Int → Int → Int → Int → Prop) (μ : Int → Int → Int → Int → Nat) (h0 : inv s17 h0_0 h0_1 h0_2) (hs : ∀ (s17 : Int) (h0_0 : Int) (h0_1 : Int) (h0_2 : Int), inv s17 h0_0 h0_1 h0_2 → khk r0 (fun s : Int × Int × Int × Int × Int × Int × Int × Int × Int × Int × Unit => ((s.1 = s0 ∧ s.2.1 = s6 ∧ s.2.2.2.2.2.2.1 = h1_0 ∧ s.2.2.2.2.2.2.2.1 = h1_1 ∧ s.2.2.2.2.2.2.2.2.1 = h1_2 ∧ s.2.2.2.2.2.2.2.2.2.1 = h2_0) ∧ inv s.2.2.1 s.2.2.2.1 s.2.2.2.2.1 s.2.2.2.2.2.1) ∧ μ s.2.2.1 s.2.2.2.1 s.2.2.2.2.1 s.2.2.2.2.2.1 < μ s17 h0_0 h0_1 h0_2) (fun s17q h0_0q h0_1q h0_2q => inv s17q h0_0q h0_1q h0_2q ∧ μ s17q h0_0q h0_1q h0_2q < μ s17 h0_0 h0_1 h0_2) s0 s6 h1_0 h1_1 h1_2 h2_0 s17 h0_0 h0_1 h0_2) : Md.Loop (s0, s6, s17, h0_0, h0_1, h0_2, h1_0, h1_1, h1_2, h2_0, ()) (k65 (r0.a0, r0.a1, r0.a2, ())) :=
 ⟨⟨fun s : Int × Int × Int × Int × Int × Int × Int × Int × Int × Int × Unit => (s.1 = s0 ∧ s.2.1 = s6 ∧ s.2.2.2.2.2.2.1 = h1_0 ∧ s.2.2.2.2.2.2.2.1 = h1_1 ∧ s.2.2.2.2.2.2.2.2.1 = h1_2 ∧ s.2.2.2.2.2.2.2.2.2.1 = h2_0) ∧ inv s.2.2.1 s.2.2.2.1 s.2.2.2.2.1 s.2.2.2.2.2.1, fun s : Int × Int × Int × Int × Int × Int × Int × Int × Int × Int × Unit => μ s.2.2.1 s.2.2.2.1 s.2.2.2.2.1 s.2.2.2.2.2.1, ⟨⟨rfl, rfl, rfl, rfl, rfl, rfl⟩, h0⟩, fun (s0p, s6p, s17p, h0_0p, h0_1p, h0_2p, h1_0p, h1_1p, h1_2p, h2_0p, ()) ⟨⟨eq0, eq1, eq2, eq3, eq4, eq5⟩, hi⟩ => by
  have eq0 : s0p = s0 := eq0; subst s0p; have eq1 : s6p = s6 := eq1; subst s6p; have eq2 : h1_0p = h1_0 := eq2; subst h1_0p; have eq3 : h1_1p = h1_1 := eq3; subst h1_1p; have eq4 : h1_2p = h1_2 := eq4; subst h1_2p; have eq5 : h2_0p = h2_0 := eq5; subst h2_0p; exact mpr_of (by kernel_rfl) ((congrArg (fun k => khk r0 (fun s : Int × Int × Int × Int × Int × Int × Int × Int × Int × Int × Unit => ((s.1 = s0 ∧ s.2.1 = s6 ∧ s.2.2.2.2.2.2.1 = h1_0 ∧ s.2.2.2.2.2.2.2.1 = h1_1 ∧ s.2.2.2.2.2.2.2.2.1 = h1_2 ∧ s.2.2.2.2.2.2.2.2.2.1 = h2_0) ∧ inv s.2.2.1 s.2.2.2.1 s.2.2.2.2.1 s.2.2.2.2.2.1) ∧ μ s.2.2.1 s.2.2.2.1 s.2.2.2.2.1 s.2.2.2.2.2.1 < μ s17p h0_0p h0_1p h0_2p) k s0 s6 h1_0 h1_1 h1_2 h2_0 s17p h0_0p h0_1p h0_2p) (lpk4 (⟨rfl, rfl, rfl, rfl, rfl, rfl⟩ : s0 = s0 ∧ s6 = s6 ∧ h1_0 = h1_0 ∧ h1_1 = h1_1 ∧ h1_2 = h1_2 ∧ h2_0 = h2_0) inv (fun s17q h0_0q h0_1q h0_2q => μ s17q h0_0q h0_1q h0_2q < μ s17p h0_0p h0_1p h0_2p))).mpr (hs s17p h0_0p h0_1p h0_2p hi))⟩⟩
def khf (r0 : TA3) (nx2 : NX TB ka) (k1 : Int → Int → Int → Int → Prop) (s0 : Int) (s6 : Int) (s7 : Int) (s17 : Int) (h1_0 : Int) (h1_1 : Int) (h1_2 : Int) (h2_0 : Int) (s20 : Int) (h0_0 : Int) (h0_1 : Int) (h0_2 : Int) : Prop :=
(decide (s20 < 3) = true →
(0 ≤ s20 ∧ s20 < (3 : Int)) ∧ (0 ≤ s20 ∧ s20 < (3 : Int)) ∧ (s0 = 18446744069414584321 ∧ (0 ≤ s7 ∧ s7 < 8) ∧ 0 ≤ s20 ∧ s20 < 3) ∧ ((TField.mk h2_0).P = 18446744069414584321 ∧ U64 (ix [h0_0, h0_1, h0_2] s20) ∧ U64 (rc s7 s20)) ∧ let r1 : Int := (((ix [h0_0, h0_1, h0_2] s20) + (rc s7 s20)) % 18446744069414584321)
((TField.mk h2_0).P = 18446744069414584321 ∧ U64 r1 ∧ U64 s6) ∧ (0 ≤ s20 ∧ s20 < (3 : Int)) ∧ (0 ≤ s20 ∧ s20 < (3 : Int)) ∧ k1 (IntKind.i64.wrap (s20 + 1) : Int) ((bif decide (s20 = (0 : Int)) then (pw (r1 % 18446744069414584321) s6) else h0_0) : Int) ((bif decide (s20 = (1 : Int)) then (pw (r1 % 18446744069414584321) s6) else h0_1) : Int) ((bif decide (s20 = (2 : Int)) then (pw (r1 % 18446744069414584321) s6) else h0_2) : Int)) ∧
(decide (s20 < 3) = false →
(s0 = 18446744069414584321 ∧ S3 (TA3.mk h0_0 h0_1 h0_2)) ∧ nx2 (s0, s6, (IntKind.i64.wrap (s17 + 1) : Int), ((mixS (TA3.mk h0_0 h0_1 h0_2)).a0 : Int), ((mixS (TA3.mk h0_0 h0_1 h0_2)).a1 : Int), ((mixS (TA3.mk h0_0 h0_1 h0_2)).a2 : Int), h1_0, h1_1, h1_2, h2_0, ()))
theorem ksu {r0 : TA3} {nx2 : NX TB ka} {s0 : Int} {s6 : Int} {s7 : Int} {s17 : Int} {h1_0 : Int} {h1_1 : Int} {h1_2 : Int} {h2_0 : Int} {s20 : Int} {h0_0 : Int} {h0_1 : Int} {h0_2 : Int} (inv : Int → Int → Int → Int → Prop) (μ : Int → Int → Int → Int → Nat) (h0 : inv s20 h0_0 h0_1 h0_2) (hs : ∀ (s20 : Int) (h0_0 : Int) (h0_1 : Int) (h0_2 : Int), inv s20 h0_0 h0_1 h0_2 → khf r0 nx2 (fun s20q h0_0q h0_1q h0_2q => inv s20q h0_0q h0_1q h0_2q ∧ μ s20q h0_0q h0_1q h0_2q < μ s20 h0_0 h0_1 h0_2) s0 s6 s7 s17 h1_0 h1_1 h1_2 h2_0 s20 h0_0 h0_1 h0_2) : Md.Loop (s0, s6, s7, s17, s20, h0_0, h0_1, h0_2, h1_0, h1_1, h1_2, h2_0, ()) (k67 (r0.a0, r0.a1, r0.a2, ()) nx2) :=
 ⟨⟨fun s : Int × Int × Int × Int × Int × Int × Int × Int × Int × Int × Int × Int × Unit => (s.1 = s0 ∧ s.2.1 = s6 ∧ s.2.2.1 = s7 ∧ s.2.2.2.1 = s17 ∧ s.2.2.2.2.2.2.2.2.1 = h1_0 ∧ s.2.2.2.2.2.2.2.2.2.1 = h1_1 ∧ s.2.2.2.2.2.2.2.2.2.2.1 = h1_2 ∧ s.2.2.2.2.2.2.2.2.2.2.2.1 = h2_0) ∧ inv s.2.2.2.2.1 s.2.2.2.2.2.1 s.2.2.2.2.2.2.1 s.2.2.2.2.2.2.2.1, fun s : Int × Int × Int × Int × Int × Int × Int × Int × Int × Int × Int × Int × Unit => μ s.2.2.2.2.1 s.2.2.2.2.2.1 s.2.2.2.2.2.2.1 s.2.2.2.2.2.2.2.1, ⟨⟨rfl, rfl, rfl, rfl, rfl, rfl, rfl, rfl⟩, h0⟩, fun (s0p, s6p, s7p, s17p, s20p, h0_0p, h0_1p, h0_2p, h1_0p, h1_1p, h1_2p, h2_0p, ()) ⟨⟨eq0, eq1, eq2, eq3, eq4, eq5, eq6, eq7⟩, hi⟩ => by
  have eq0 : s0p = s0 := eq0; subst s0p; have eq1 : s6p = s6 := eq1; subst s6p; have eq2 : s7p = s7 := eq2; subst s7p; have eq3 : s17p = s17 := eq3; subst s17p; have eq4 : h1_0p = h1_0 := eq4; subst h1_0p; have eq5 : h1_1p = h1_1 := eq5; subst h1_1p; have eq6 : h1_2p = h1_2 := eq6; subst h1_2p; have eq7 : h2_0p = h2_0 := eq7; subst h2_0p; exact mpr_of (by kernel_rfl) ((congrArg (fun k => khf r0 nx2 k s0 s6 s7 s17 h1_0 h1_1 h1_2 h2_0 s20p h0_0p h0_1p h0_2p) (lpk4 (⟨rfl, rfl, rfl, rfl, rfl, rfl, rfl, rfl⟩ : s0 = s0 ∧ s6 = s6 ∧ s7 = s7 ∧ s17 = s17 ∧ h1_0 = h1_0 ∧ h1_1 = h1_1 ∧ h1_2 = h1_2 ∧ h2_0 = h2_0) inv (fun s20q h0_0q h0_1q h0_2q => μ s20q h0_0q h0_1q h0_2q < μ s20p h0_0p h0_1p h0_2p))).mpr (hs s20p h0_0p h0_1p h0_2p hi))⟩⟩
theorem bd112 : Callable Try.prog 112 := ⟨by rw [Try.func112]; kernel_rfl, by rw [Try.func112]; show some _ ≠ some _; decide⟩
theorem ks8 (p0 : Int) (p1 : TA3) (h : p0 = 18446744069414584321 ∧ S3 p1) : k9z (p0, p1.a0, p1.a1, p1.a2, ()) (((permS p1).a0 : Int), ((permS p1).a1 : Int), ((permS p1).a2 : Int), ()) := by
 obtain ⟨hP, hs⟩ := h
 subst hP
 refine kv2 ⟨rfl, fun h => by simp at h, fun _ => ⟨rfl, ?_⟩⟩
 refine kt5 (r0 := permS p1) (fun n a b c => 0 ≤ n ∧ n ≤ 8 ∧ (⟨a, b, c⟩ : TA3) = rnds n.toNat p1 ∧ S3 ⟨a, b, c⟩) (fun n _ _ _ => (8 - n).toNat) ⟨by omega, by omega, rfl, hs⟩ ?_
 rintro n a b c ⟨g0, g1, g2, g3⟩
 refine ⟨fun h => ?_, fun h => ?_⟩
 ·have h := of_decide_eq_true h
  refine ksu (r0 := permS p1) (fun i x y z => (i = 0 ∧ x = a ∧ y = b ∧ z = c) ∨ (i = 1 ∧ x = pw ((a + rc n 0) % 18446744069414584321) 7 ∧ y = b ∧ z = c) ∨ (i = 2 ∧ x = pw ((a + rc n 0) % 18446744069414584321) 7 ∧ y = pw ((b + rc n 1) % 18446744069414584321) 7 ∧ z = c) ∨ (i = 3 ∧ x = pw ((a + rc n 0) % 18446744069414584321) 7 ∧ y = pw ((b + rc n 1) % 18446744069414584321) 7 ∧ z = pw ((c + rc n 2) % 18446744069414584321) 7)) (fun i _ _ _ => (3 - i).toNat) (.inl ⟨rfl, rfl, rfl, rfl⟩) ?_
  intro i x y z hi
  have hrc : ∀ k, U64 (rc n k) := fun k => by unfold rc; omega
  have hpw : ∀ k e, 0 ≤ pw k e ∧ pw k e < 18446744069414584321 := fun k e => ⟨Int.emod_nonneg _ (by omega), Int.emod_lt_of_pos _ (by omega)⟩
  obtain ⟨h3a, h3b, h3c⟩ := g3
  refine ⟨fun hh => ?_, fun hh => ?_⟩
  ·have hh := of_decide_eq_true hh
   rcases hi with ⟨rfl, rfl, rfl, rfl⟩ | ⟨rfl, rfl, rfl, rfl⟩ | ⟨rfl, rfl, rfl, rfl⟩ | ⟨rfl, _⟩
   ·refine ⟨by omega, by omega, ⟨rfl, by omega, by omega⟩, ⟨rfl, h3a, hrc _⟩, ⟨rfl, ?_, by omega⟩, by omega, by omega, .inr (.inl ⟨rfl, ?_, rfl, rfl⟩), by decide⟩
    ·exact ⟨Int.emod_nonneg _ (by omega), Int.lt_trans (Int.emod_lt_of_pos _ (by omega)) (by omega)⟩
    ·show pw ((x + rc n 0) % 18446744069414584321 % 18446744069414584321) 7 = _
     rw [Int.emod_emod_of_dvd _ (Int.dvd_refl _)]
   ·refine ⟨by omega, by omega, ⟨rfl, by omega, by omega⟩, ⟨rfl, h3b, hrc _⟩, ⟨rfl, ?_, by omega⟩, by omega, by omega, .inr (.inr (.inl ⟨rfl, rfl, ?_, rfl⟩)), by decide⟩
    ·exact ⟨Int.emod_nonneg _ (by omega), Int.lt_trans (Int.emod_lt_of_pos _ (by omega)) (by omega)⟩
    ·show pw ((y + rc n 1) % 18446744069414584321 % 18446744069414584321) 7 = _
     rw [Int.emod_emod_of_dvd _ (Int.dvd_refl _)]
   ·refine ⟨by omega, by omega, ⟨rfl, by omega, by omega⟩, ⟨rfl, h3c, hrc _⟩, ⟨rfl, ?_, by omega⟩, by omega, by omega, .inr (.inr (.inr ⟨rfl, rfl, rfl, ?_⟩)), by decide⟩
    ·exact ⟨Int.emod_nonneg _ (by omega), Int.lt_trans (Int.emod_lt_of_pos _ (by omega)) (by omega)⟩
    ·show pw ((z + rc n 2) % 18446744069414584321 % 18446744069414584321) 7 = _
     rw [Int.emod_emod_of_dvd _ (Int.dvd_refl _)]
   ·omega
  ·have hh := of_decide_eq_false hh
   rcases hi with ⟨rfl, _⟩ | ⟨rfl, _⟩ | ⟨rfl, _⟩ | ⟨rfl, rfl, rfl, rfl⟩
   ·omega
   ·omega
   ·omega
   ·have e : rnds (n + 1).toNat p1 = rnd ⟨a, b, c⟩ n := by
     rw [show (n + 1).toNat = n.toNat + 1 by omega]
     show rnd (rnds n.toNat p1) (n.toNat : Int) = _
     rw [← g2, show (n.toNat : Int) = n by omega]
    have hS : S3 (rnds (n + 1).toNat p1) := by
     rw [e]
     unfold rnd mixS S3
     dsimp only
     omega
    have hinc : IntKind.i64.wrap (n + 1) = n + 1 := wi _ (by omega) (by omega)
    rw [hinc]
    refine ⟨⟨rfl, by unfold S3; have := hpw ((a + rc n 0) % 18446744069414584321) 7; have := hpw ((b + rc n 1) % 18446744069414584321) 7; have := hpw ((c + rc n 2) % 18446744069414584321) 7; dsimp only; omega⟩, ⟨⟨rfl, rfl, rfl, rfl, rfl, rfl⟩, (?_ : 0 ≤ n + 1 ∧ n + 1 ≤ 8 ∧ _ ∧ _)⟩, (?_ : (8 - (n + 1)).toNat < (8 - n).toNat)⟩
    ·refine ⟨by omega, by omega, e.symm, ?_⟩
     rw [e] at hS
     exact hS
    ·omega
 ·have h := of_decide_eq_false h
  rw [show n = 8 by omega] at g2
  have g2 : (⟨a, b, c⟩ : TA3) = permS p1 := g2
  rw [← g2]
  exact ⟨rfl, rfl, rfl⟩
def kgz : Con TB.den := ki.fnR (fun x => (fun (p0 : Int) (p1 : TA3) => p0 = 18446744069414584321 ∧ S3 p1) x.1 (TA3.mk x.2.1 x.2.2.1 x.2.2.2.1)) fun x => ((fun (p0 : Int) (p1 : TA3) => ((permS p1).a0 : Int)) x.1 (TA3.mk x.2.1 x.2.2.1 x.2.2.2.1), (fun (p0 : Int) (p1 : TA3) => ((permS p1).a1 : Int)) x.1 (TA3.mk x.2.1 x.2.2.1 x.2.2.2.1), (fun (p0 : Int) (p1 : TA3) => ((permS p1).a2 : Int)) x.1 (TA3.mk x.2.1 x.2.2.1 x.2.2.2.1), ())
theorem kv7 : kgz.Ok Try.prog TB := Con.ok_fn ki bd112 fun x h => ksy (ks8 x.1 (TA3.mk x.2.1 x.2.2.1 x.2.2.2.1) h)
def k22 : Con TB.den := Con.mk0 104 [.one (.d (.int .u64)), .one (.d (.int .u64)), .one (.d (.sl (.int .u64)))] [] (.one (.agg [.d (.int .u64), .d (.int .u64), .d (.int .u64)])) []
abbrev ktz := HL TB.den (hsT k22.ins (hsOs k22.pre))
abbrev k1y := HL TB.den (hsV k22.res (hsOs k22.post))
def k34 : Cx TB := ⟨inf, [kyx, ki9, kgz], [], 4, []⟩
def k5e : Code := Try.f104.body.getD .skip
def kdl : List ResultVar := Try.f104.results.toList
def k18q (o : k1y) := qS TB k34 61 0 (cB (cB (cB (cB (cB k5e))))) .no (retTQ TB k34 k22 kdl o)
def k1k : Tm := ⟨[0, 1, 38], [.cells [.d (.int .u64), .d (.int .u64), .d (.int .u64)], .cells [.d (.int .u64)], .cells [.d (.int .u64), .d (.int .u64), .d (.int .u64)]], [0, 2, 6, 7, 8, 9], [.one (.d (.int .u64)), .one (.d (.sl (.int .u64))), .one (.ptr 0 0), .one (.ptr 1 0), .one (.ptr 2 0), .one (.d (.int .i64))], 46⟩
def kqv (o : k1y) (nx1 : NX TB k1k) := qM TB 0 k1k nx1 (blockT TB 0 (k18q o))
def k19t (o : k1y) (nx1 : NX TB k1k) := qS TB k34 61 0 (cB (cB (cA (cA (cB (cA (cB (cB (cB (cB k5e)))))))))) .no (kqv o nx1)
def kbu : Tm := ⟨[0, 1, 38], [.cells [.d (.int .u64), .d (.int .u64), .d (.int .u64)], .cells [.d (.int .u64)], .cells [.d (.int .u64), .d (.int .u64), .d (.int .u64)]], [0, 2, 6, 7, 8, 9], [.one (.d (.int .u64)), .one (.d (.sl (.int .u64))), .one (.ptr 0 0), .one (.ptr 1 0), .one (.ptr 2 0), .one (.d (.int .i64))], 86⟩
def kps (o : k1y) (nx1 : NX TB k1k) (i : HL TB.den kbu.hs) : Prop := ghs TB [] (kbu.fill TB i) fun s => WP TB k34 61 0 (cB (cB (cA (cA (cB (cA (cA (cB (cA (cB (cB (cB (cB k5e))))))))))))) .no s (blockT TB 1 (k19t o nx1))
structure k7o (o : k1y) (nx1 : NX TB k1k) (i : HL TB.den kbu.hs) : Prop where
 h : kps o nx1 i
def kse (o : k1y) (nx1 : NX TB k1k) : An TB := .nd [] .no [] (.jn kbu (k7o o nx1) [] .no [] .no)
def ka2 (o : k1y) (nx1 : NX TB k1k) (i : HL TB.den k1k.hs) : Prop := WP TB k34 61 0 (cA (cA (cB (cA (cB (cB (cB (cB k5e)))))))) (.nd [] .no [] (.nd [] (kse o nx1) [] .no)) (k1k.fill TB i) (kqv o nx1)
def k197 (o : k1y) : An TB := .lp [] k1k (ka2 o) fun nx1 => (.nd [] .no [] (.nd [] (kse o nx1) [] .no))
def k180 (o : k1y) : An TB := .nd [] .no [] (.nd [] (.nd [] .no [] (k197 o)) [] .no)
def ks2 (o : k1y) : An TB := .nd [] .no [] (.nd [] .no [] (.nd [] .no [] (k180 o)))
def kg1 (x : ktz) (o : k1y) : Prop := WPh TB k34 61 0 k5e (ks2 o) (k22.st TB x) (retTQ TB k34 k22 kdl o)
theorem k15q (o : k1y) : OblH TB k34 61 0 k5e (ks2 o) (retTQ TB k34 k22 kdl o) :=
 OblH.ofC (X := ((∀ nx i, (ka2 o) nx i = (ka2 o) nx i) ∧ (∀ nx1 : NX TB k1k, ((∀ i, (k7o o nx1) i = kps o nx1 i) ∧ True)) ∧ True)) (by kernel_rfl) ⟨fun _ _ => rfl, fun _ => ⟨fun _ => propext ⟨fun h => h.1, fun h => ⟨h⟩⟩, trivial⟩, trivial⟩
theorem k15k {x : ktz} {o : k1y} (h : kg1 x o) : k22.Snd Try.prog x o :=
 Con.soundH (c := k22) (C := k34) TBok ⟨inf_ok, (all_cons k1k7 (all_cons ksk (all_cons kv7 all_nil))), all_nil⟩ mix Try.func104 (show Try.f104.body = some k5e by kernel_rfl) (show Try.f104.ntmps = 61 by kernel_rfl) (show Try.f104.results.toList = kdl by kernel_rfl) rfl h (k15q o)
theorem k19x {p0 : Int} {p1 : Int} {p2 : List Int} {r0 : TA3} (h :
(((TField.mk p0).P = 18446744069414584321 ∧ U64 p1 ∧ U64 (65536 : Int)) ∧ let r1 : Int := (p1 * (65536 : Int) % 18446744069414584321)
((TField.mk p0).P = 18446744069414584321 ∧ U64 r1 ∧ U64 (IntKind.u64.wrap (p2.length : Int))) ∧ let r2 : Int := ((r1 + (IntKind.u64.wrap (p2.length : Int))) % 18446744069414584321)
(((p2.length : Int) == 0) = true →
(p0 = 18446744069414584321 ∧ S3 (TA3.mk 0 0 r2)) ∧ (permS (TA3.mk 0 0 r2)).a0 = r0.a0 ∧ (permS (TA3.mk 0 0 r2)).a1 = r0.a1 ∧ (permS (TA3.mk 0 0 r2)).a2 = r0.a2) ∧
(((p2.length : Int) == 0) = false →
 Md.Loop (p0, p2, (0 : Int), (0 : Int), (0 : Int), (0 : Int), p0, (0 : Int), (0 : Int), r2, ()) (ka2 (r0.a0, r0.a1, r0.a2, ()))))) : kg1 (p0, p1, p2, ()) (r0.a0, r0.a1, r0.a2, ()) := WPh.of_eq (by kernel_rfl) h
theorem k11i {r0 : TA3} {nx1 : NX TB k1k} {s0 : Int} {s2 : List Int} {s9 : Int} {h0_0 : Int} {h0_1 : Int} {h0_2 : Int} {h1_0 : Int} {h38_0 : Int} {h38_1 : Int} {h38_2 : Int} (h :
((s0 = 18446744069414584321 ∧ S3 (TA3.mk h38_0 h38_1 h38_2)) ∧ nx1 (s0, s2, (IntKind.i64.wrap (s9 + 2) : Int), h0_0, h0_1, h0_2, h1_0, ((permS (TA3.mk h38_0 h38_1 h38_2)).a0 : Int), ((permS (TA3.mk h38_0 h38_1 h38_2)).a1 : Int), ((permS (TA3.mk h38_0 h38_1 h38_2)).a2 : Int), ()))) : k7o (r0.a0, r0.a1, r0.a2, ()) nx1 (s0, s2, s9, h0_0, h0_1, h0_2, h1_0, h38_0, h38_1, h38_2, ()) := ⟨mpr_of (by kernel_rfl) h⟩
def krj (r0 : TA3) (nx1 : NX TB k1k) (k1 : Int → Int → Int → Int → Prop) (s0 : Int) (s2 : List Int) (h0_0 : Int) (h0_1 : Int) (h0_2 : Int) (h1_0 : Int) (s9 : Int) (h38_0 : Int) (h38_1 : Int) (h38_2 : Int) : Prop :=
(decide (s9 < (s2.length : Int)) = true →
(0 ≤ s9) ∧ s9 < (s2.length : Int) ∧ ((TField.mk h1_0).P = 18446744069414584321 ∧ U64 h38_0 ∧ U64 (ix s2 s9)) ∧ let r3 : Int := ((h38_0 + (ix s2 s9)) % 18446744069414584321)
 let v4 : Bool := decide ((IntKind.i64.wrap (s9 + 1)) < (s2.length : Int))
(v4 = true →
(0 ≤ IntKind.i64.wrap (s9 + 1)) ∧ IntKind.i64.wrap (s9 + 1) < (s2.length : Int) ∧ ((TField.mk h1_0).P = 18446744069414584321 ∧ U64 h38_1 ∧ U64 (ix s2 (IntKind.i64.wrap (s9 + 1)))) ∧ let r5 : Int := ((h38_1 + (ix s2 (IntKind.i64.wrap (s9 + 1)))) % 18446744069414584321)
 k7o (r0.a0, r0.a1, r0.a2, ()) nx1 (s0, s2, s9, h0_0, h0_1, h0_2, h1_0, r3, r5, h38_2, ())) ∧
(v4 = false →
 k7o (r0.a0, r0.a1, r0.a2, ()) nx1 (s0, s2, s9, h0_0, h0_1, h0_2, h1_0, r3, h38_1, h38_2, ()))) ∧
(decide (s9 < (s2.length : Int)) = false →
 h38_0 = r0.a0 ∧ h38_1 = r0.a1 ∧ h38_2 = r0.a2)
theorem k16g {r0 : TA3} {s0 : Int} {s2 : List Int} {h0_0 : Int} {h0_1 : Int} {h0_2 : Int} {h1_0 : Int} {s9 : Int} {h38_0 : Int} {h38_1 : Int} {h38_2 : Int} (inv : Int → Int → Int → Int → Prop) (μ : Int → Int → Int → Int → Nat) (h0 : inv s9 h38_0 h38_1 h38_2) (hs : ∀ (s9 : Int) (h38_0 : Int) (h38_1 : Int) (h38_2 : Int), inv s9 h38_0 h38_1 h38_2 → krj r0 (fun s : Int × (List Int) × Int × Int × Int × Int × Int × Int × Int × Int × Unit => ((s.1 = s0 ∧ s.2.1 = s2 ∧ s.2.2.2.1 = h0_0 ∧ s.2.2.2.2.1 = h0_1 ∧ s.2.2.2.2.2.1 = h0_2 ∧ s.2.2.2.2.2.2.1 = h1_0) ∧ inv s.2.2.1 s.2.2.2.2.2.2.2.1 s.2.2.2.2.2.2.2.2.1 s.2.2.2.2.2.2.2.2.2.1) ∧ μ s.2.2.1 s.2.2.2.2.2.2.2.1 s.2.2.2.2.2.2.2.2.1 s.2.2.2.2.2.2.2.2.2.1 < μ s9 h38_0 h38_1 h38_2) (fun s9q h38_0q h38_1q h38_2q => inv s9q h38_0q h38_1q h38_2q ∧ μ s9q h38_0q h38_1q h38_2q < μ s9 h38_0 h38_1 h38_2) s0 s2 h0_0 h0_1 h0_2 h1_0 s9 h38_0 h38_1 h38_2) : Md.Loop (s0, s2, s9, h0_0, h0_1, h0_2, h1_0, h38_0, h38_1, h38_2, ()) (ka2 (r0.a0, r0.a1, r0.a2, ())) :=
 ⟨⟨fun s : Int × (List Int) × Int × Int × Int × Int × Int × Int × Int × Int × Unit => (s.1 = s0 ∧ s.2.1 = s2 ∧ s.2.2.2.1 = h0_0 ∧ s.2.2.2.2.1 = h0_1 ∧ s.2.2.2.2.2.1 = h0_2 ∧ s.2.2.2.2.2.2.1 = h1_0) ∧ inv s.2.2.1 s.2.2.2.2.2.2.2.1 s.2.2.2.2.2.2.2.2.1 s.2.2.2.2.2.2.2.2.2.1, fun s : Int × (List Int) × Int × Int × Int × Int × Int × Int × Int × Int × Unit => μ s.2.2.1 s.2.2.2.2.2.2.2.1 s.2.2.2.2.2.2.2.2.1 s.2.2.2.2.2.2.2.2.2.1, ⟨⟨rfl, rfl, rfl, rfl, rfl, rfl⟩, h0⟩, fun (s0p, s2p, s9p, h0_0p, h0_1p, h0_2p, h1_0p, h38_0p, h38_1p, h38_2p, ()) ⟨⟨eq0, eq1, eq2, eq3, eq4, eq5⟩, hi⟩ => by
  have eq0 : s0p = s0 := eq0; subst s0p; have eq1 : s2p = s2 := eq1; subst s2p; have eq2 : h0_0p = h0_0 := eq2; subst h0_0p; have eq3 : h0_1p = h0_1 := eq3; subst h0_1p; have eq4 : h0_2p = h0_2 := eq4; subst h0_2p; have eq5 : h1_0p = h1_0 := eq5; subst h1_0p; exact mpr_of (by kernel_rfl) ((congrArg (fun k => krj r0 (fun s : Int × (List Int) × Int × Int × Int × Int × Int × Int × Int × Int × Unit => ((s.1 = s0 ∧ s.2.1 = s2 ∧ s.2.2.2.1 = h0_0 ∧ s.2.2.2.2.1 = h0_1 ∧ s.2.2.2.2.2.1 = h0_2 ∧ s.2.2.2.2.2.2.1 = h1_0) ∧ inv s.2.2.1 s.2.2.2.2.2.2.2.1 s.2.2.2.2.2.2.2.2.1 s.2.2.2.2.2.2.2.2.2.1) ∧ μ s.2.2.1 s.2.2.2.2.2.2.2.1 s.2.2.2.2.2.2.2.2.1 s.2.2.2.2.2.2.2.2.2.1 < μ s9p h38_0p h38_1p h38_2p) k s0 s2 h0_0 h0_1 h0_2 h1_0 s9p h38_0p h38_1p h38_2p) (lpk4 (⟨rfl, rfl, rfl, rfl, rfl, rfl⟩ : s0 = s0 ∧ s2 = s2 ∧ h0_0 = h0_0 ∧ h0_1 = h0_1 ∧ h0_2 = h0_2 ∧ h1_0 = h1_0) inv (fun s9q h38_0q h38_1q h38_2q => μ s9q h38_0q h38_1q h38_2q < μ s9p h38_0p h38_1p h38_2p))).mpr (hs s9p h38_0p h38_1p h38_2p hi))⟩⟩
theorem bd104 : Callable Try.prog 104 := ⟨by rw [Try.func104]; kernel_rfl, by rw [Try.func104]; show some _ ≠ some _; decide⟩
theorem k12j (p0 : Int) (p1 : Int) (p2 : List Int) (h : p0 = 18446744069414584321 ∧ U64 p1 ∧ Us p2 ∧ p2.length ≤ 1099511627776) : kg1 (p0, p1, p2, ()) (((absS p1 p2).a0 : Int), ((absS p1 p2).a1 : Int), ((absS p1 p2).a2 : Int), ()) := by
 obtain ⟨hP, h1, h2, h3⟩ := h
 subst hP
 have hp : ∀ s : TA3, S3 (permS s) := fun s => by
  show S3 (rnd _ _)
  unfold rnd mixS S3
  dsimp only
  omega
 have hi : S3 (absI p1 p2) := by unfold absI S3; dsimp only; omega
 have e : IntKind.u64.wrap (p2.length : Int) = p2.length := wu _ (by omega) (by omega)
 have em : (p1 * 65536 % 18446744069414584321 + (p2.length : Int)) % 18446744069414584321 = (absI p1 p2).a2 := rfl
 refine k19x ?_
 rw [e]
 refine ⟨⟨rfl, h1, by omega⟩, ⟨rfl, by omega, by omega⟩, fun h => ?_, fun h => ?_⟩
 ·have h : p2 = [] := by simpa using h
  refine ⟨⟨rfl, ?_⟩, ?_⟩
  ·exact hi
  ·have : permS ⟨0, 0, (p1 * 65536 % 18446744069414584321 + (p2.length : Int)) % 18446744069414584321⟩ = absS p1 p2 := by unfold absS; rw [if_pos h]; rfl
   rw [this]
   exact ⟨rfl, rfl, rfl⟩
 ·have h : p2 ≠ [] := by simpa using h
  have hv : absL p2 (absI p1 p2) = absS p1 p2 := by unfold absS; rw [if_neg h]
  rw [em]
  refine k16g (r0 := absS p1 p2) (fun i a b c => 0 ≤ i ∧ i ≤ p2.length + 1 ∧ absL (p2.drop i.toNat) ⟨a, b, c⟩ = absS p1 p2 ∧ S3 ⟨a, b, c⟩) (fun i _ _ _ => (p2.length + 2 - i).toNat) ⟨by omega, by omega, hv, hi⟩ ?_
  rintro i a b c ⟨g0, g1, g2, g3⟩
  obtain ⟨h3a, h3b, h3c⟩ := g3
  refine ⟨fun hh => ?_, fun hh => ?_⟩
  ·have hh := of_decide_eq_true hh
   have hx := h2 _ (ix_mem p2 i g0 hh)
   rw [wi (i + 1) (by omega) (by omega)]
   have fin : ∀ nx x y z, S3 ⟨x, y, z⟩ → absL (p2.drop (i + 2).toNat) (permS ⟨x, y, z⟩) = absS p1 p2 → (0 ≤ i + 2 ∧ i + 2 ≤ p2.length + 1 ∧ absL (p2.drop (i + 2).toNat) (permS ⟨x, y, z⟩) = absS p1 p2 ∧ S3 (permS ⟨x, y, z⟩) → (p2.length + 2 - (i + 2)).toNat < (p2.length + 2 - i).toNat → nx ((18446744069414584321 : Int), p2, (i + 2 : Int), (0 : Int), (0 : Int), (0 : Int), (18446744069414584321 : Int), (permS ⟨x, y, z⟩).a0, (permS ⟨x, y, z⟩).a1, (permS ⟨x, y, z⟩).a2, ())) → k7o ((absS p1 p2).a0, (absS p1 p2).a1, (absS p1 p2).a2, ()) nx ((18446744069414584321 : Int), p2, i, (0 : Int), (0 : Int), (0 : Int), (18446744069414584321 : Int), x, y, z, ()) := by
    intro nx x y z hS hv' hn
    refine k11i (r0 := absS p1 p2) ?_
    rw [wi (i + 2) (by omega) (by omega)]
    exact ⟨⟨rfl, hS⟩, hn ⟨by omega, by omega, hv', hp _⟩ (by omega)⟩
   have hdrop := drop_ix p2 i g0 hh
   rw [hdrop] at g2
   refine ⟨g0, hh, ⟨rfl, h3a, hx⟩, fun h5 => ?_, fun h5 => ?_⟩
   ·have h5 := of_decide_eq_true h5
    have hy := h2 _ (ix_mem p2 (i + 1) (by omega) h5)
    rw [drop_ix p2 (i + 1) (by omega) h5, show i + 1 + 1 = i + 2 by omega] at g2
    refine ⟨by omega, h5, ⟨rfl, h3b, hy⟩, fin _ _ _ _ (S3m (by omega) (by omega) h3c) g2 fun k1 k2 => ⟨⟨⟨rfl, rfl, rfl, rfl, rfl, rfl⟩, k1⟩, k2⟩⟩
   ·have h5 := of_decide_eq_false h5
    have ed : p2.drop (i + 1).toNat = [] := List.drop_eq_nil_of_le (by omega)
    have ed2 : p2.drop (i + 2).toNat = [] := List.drop_eq_nil_of_le (by omega)
    rw [ed] at g2
    exact fin _ _ _ _ (S3m (by omega) h3b h3c) (by rw [ed2]; exact g2) fun k1 k2 => ⟨⟨⟨rfl, rfl, rfl, rfl, rfl, rfl⟩, k1⟩, k2⟩
  ·have hh := of_decide_eq_false hh
   rw [List.drop_eq_nil_of_le (by omega)] at g2
   have g2 : (⟨a, b, c⟩ : TA3) = absS p1 p2 := g2
   rw [← g2]
   exact ⟨rfl, rfl, rfl⟩
def kpt : Con TB.den := k22.fnR (fun x => (fun (p0 : Int) (p1 : Int) (p2 : List Int) => p0 = 18446744069414584321 ∧ U64 p1 ∧ Us p2 ∧ p2.length ≤ 1099511627776) x.1 x.2.1 x.2.2.1) fun x => ((fun (p0 : Int) (p1 : Int) (p2 : List Int) => ((absS p1 p2).a0 : Int)) x.1 x.2.1 x.2.2.1, (fun (p0 : Int) (p1 : Int) (p2 : List Int) => ((absS p1 p2).a1 : Int)) x.1 x.2.1 x.2.2.1, (fun (p0 : Int) (p1 : Int) (p2 : List Int) => ((absS p1 p2).a2 : Int)) x.1 x.2.1 x.2.2.1, ())
theorem k1a3 : kpt.Ok Try.prog TB := Con.ok_fn k22 bd104 fun x h => k15k (k12j x.1 x.2.1 x.2.2.1 h)
def k3u : Con TB.den := Con.mk0 82 [.one (.d (.int .u64)), .one (.d (.int .u64)), .one (.d (.sl (.int .u64)))] [] (.one (.one (.d (.int .u64)))) []
abbrev kzm := HL TB.den (hsT k3u.ins (hsOs k3u.pre))
abbrev kia := HL TB.den (hsV k3u.res (hsOs k3u.post))
def kbw : Cx TB := ⟨inf, [k6x, kpt], [], 4, []⟩
def kis : Code := Try.f82.body.getD .skip
def kmf : List ResultVar := Try.f82.results.toList
def kw0 (o : kia) : An TB := .no
def kix (x : kzm) (o : kia) : Prop := WPh TB kbw 16 0 kis (kw0 o) (k3u.st TB x) (retTQ TB kbw k3u kmf o)
theorem k1c3 (o : kia) : OblH TB kbw 16 0 kis (kw0 o) (retTQ TB kbw k3u kmf o) :=
 OblH.ofC (X := True) (by kernel_rfl) trivial
theorem k1b1 {x : kzm} {o : kia} (h : kix x o) : k3u.Snd Try.prog x o :=
 Con.soundH (c := k3u) (C := kbw) TBok ⟨inf_ok, (all_cons k9p (all_cons k1a3 all_nil)), all_nil⟩ mix Try.func82 (show Try.f82.body = some kis by kernel_rfl) (show Try.f82.ntmps = 16 by kernel_rfl) (show Try.f82.results.toList = kmf by kernel_rfl) rfl h (k1c3 o)
theorem k1e6 {p0 : Int} {p1 : Int} {p2 : List Int} {r0 : Int} (h :
(((TField.mk p0).P = 18446744069414584321) ∧ ((!true) = true →
 0 = r0) ∧
((!true) = false →
(p0 = 18446744069414584321 ∧ U64 p1 ∧ Us p2 ∧ p2.length ≤ 1099511627776) ∧ (absS p1 p2).a0 = r0))) : kix (p0, p1, p2, ()) (r0, ()) := WPh.of_eq (by kernel_rfl) h
theorem bd82 : Callable Try.prog 82 := ⟨by rw [Try.func82]; kernel_rfl, by rw [Try.func82]; show some _ ≠ some _; decide⟩
theorem k187 (p0 : Int) (p1 : Int) (p2 : List Int) (h : p0 = 18446744069414584321 ∧ U64 p1 ∧ Us p2 ∧ p2.length ≤ 1099511627776) : kix (p0, p1, p2, ()) (((hashS p1 p2) : Int), ()) := by
 obtain ⟨hP, h1, h2, h3⟩ := h
 subst hP
 exact k1e6 ⟨rfl, fun h => by simp at h, fun _ => ⟨⟨rfl, h1, h2, h3⟩, rfl⟩⟩
def kf0 : Con TB.den := k3u.fnR (fun x => (fun (p0 : Int) (p1 : Int) (p2 : List Int) => p0 = 18446744069414584321 ∧ U64 p1 ∧ Us p2 ∧ p2.length ≤ 1099511627776) x.1 x.2.1 x.2.2.1) fun x => ((fun (p0 : Int) (p1 : Int) (p2 : List Int) => ((hashS p1 p2) : Int)) x.1 x.2.1 x.2.2.1, ())
theorem kmm : kf0.Ok Try.prog TB := Con.ok_fn k3u bd82 fun x h => k1b1 (k187 x.1 x.2.1 x.2.2.1 h)
def k5a : Con TB.den := Con.mk0 77 [.one (.d (.int .u64)), .one (.d (.sl (.int .u64)))] [] (.one (.one (.d (.int .u64)))) []
abbrev k17n := HL TB.den (hsT k5a.ins (hsOs k5a.pre))
abbrev knq := HL TB.den (hsV k5a.res (hsOs k5a.post))
def kfv : Cx TB := ⟨inf, [kf0], [], 4, []⟩
def kmo : Code := Try.f77.body.getD .skip
def kr8 : List ResultVar := Try.f77.results.toList
def k159 (o : knq) : An TB := .no
def kn4 (x : k17n) (o : knq) : Prop := WPh TB kfv 8 0 kmo (k159 o) (k5a.st TB x) (retTQ TB kfv k5a kr8 o)
theorem k1gl (o : knq) : OblH TB kfv 8 0 kmo (k159 o) (retTQ TB kfv k5a kr8 o) :=
 OblH.ofC (X := True) (by kernel_rfl) trivial
theorem k1hm {x : k17n} {o : knq} (h : kn4 x o) : k5a.Snd Try.prog x o :=
 Con.soundH (c := k5a) (C := kfv) TBok ⟨inf_ok, (all_cons kmm all_nil), all_nil⟩ mix Try.func77 (show Try.f77.body = some kmo by kernel_rfl) (show Try.f77.ntmps = 8 by kernel_rfl) (show Try.f77.results.toList = kr8 by kernel_rfl) rfl h (k1gl o)
theorem k1kq {p0 : Int} {p1 : List Int} {r0 : Int} (h :
(((18446744069414584321 : Int) = 18446744069414584321 ∧ U64 p0 ∧ Us p1 ∧ p1.length ≤ 1099511627776) ∧ (hashS p0 p1) = r0)) : kn4 (p0, p1, ()) (r0, ()) := WPh.of_eq (by kernel_rfl) h
theorem bd77 : Callable Try.prog 77 := ⟨by rw [Try.func77]; kernel_rfl, by rw [Try.func77]; show some _ ≠ some _; decide⟩
theorem k1dm (p0 : Int) (p1 : List Int) (h : U64 p0 ∧ Us p1 ∧ p1.length ≤ 1099511627776) : kn4 (p0, p1, ()) (((hashS p0 p1) : Int), ()) := by
 exact k1kq ⟨⟨rfl, h.1, h.2.1, h.2.2⟩, rfl⟩
def kp3 : Con TB.den := k5a.fnR (fun x => (fun (p0 : Int) (p1 : List Int) => U64 p0 ∧ Us p1 ∧ p1.length ≤ 1099511627776) x.1 x.2.1) fun x => ((fun (p0 : Int) (p1 : List Int) => ((hashS p0 p1) : Int)) x.1 x.2.1, ())
theorem k128 : kp3.Ok Try.prog TB := Con.ok_fn k5a bd77 fun x h => k1hm (k1dm x.1 x.2.1 h)
def k2w : Con TB.den := Con.mk0 35 [.one (.d (.int .u64))] [] (.one (.one (.d (.int .u64)))) []
abbrev kvg := HL TB.den (hsT k2w.ins (hsOs k2w.pre))
abbrev kgj := HL TB.den (hsV k2w.res (hsOs k2w.post))
def kaw : Cx TB := ⟨inf, [kp3], [], 4, []⟩
def khb : Code := Try.f35.body.getD .skip
def kkj : List ResultVar := Try.f35.results.toList
def kt9 (o : kgj) : An TB := .no
def kh4 (x : kvg) (o : kgj) : Prop := WPh TB kaw 6 0 khb (kt9 o) (k2w.st TB x) (retTQ TB kaw k2w kkj o)
theorem k18d (o : kgj) : OblH TB kaw 6 0 khb (kt9 o) (retTQ TB kaw k2w kkj o) :=
 OblH.ofC (X := True) (by kernel_rfl) trivial
theorem k18k {x : kvg} {o : kgj} (h : kh4 x o) : k2w.Snd Try.prog x o :=
 Con.soundH (c := k2w) (C := kaw) TBok ⟨inf_ok, (all_cons k128 all_nil), all_nil⟩ mix Try.func35 (show Try.f35.body = some khb by kernel_rfl) (show Try.f35.ntmps = 6 by kernel_rfl) (show Try.f35.results.toList = kkj by kernel_rfl) rfl h (k18d o)
theorem k1aw {p0 : Int} {r0 : Int} (h :
((U64 (7 : Int) ∧ Us [p0] ∧ [p0].length ≤ 1099511627776) ∧ (hashS (7 : Int) [p0]) = r0)) : kh4 (p0, ()) (r0, ()) := WPh.of_eq (by kernel_rfl) h
theorem bd35 : Callable Try.prog 35 := ⟨by rw [Try.func35]; kernel_rfl, by rw [Try.func35]; show some _ ≠ some _; decide⟩
theorem k164 (p0 : Int) (h : U64 p0) : kh4 (p0, ()) (((acctS p0) : Int), ()) := by
 exact k1aw ⟨⟨by decide, (by intro x hx; rw [List.mem_singleton] at hx; subst hx; exact h), by simp⟩, rfl⟩
def ksh : Con TB.den := k2w.fnR (fun x => (fun (p0 : Int) => U64 p0) x.1) fun x => ((fun (p0 : Int) => ((acctS p0) : Int)) x.1, ())
theorem k1at : ksh.Ok Try.prog TB := Con.ok_fn k2w bd35 fun x h => k18k (k164 x.1 h)
def k1g : Con TB.den := Con.mk0 79 [.one (.d (.sl (.int .u64)))] [] (.one (.one (.d (.bool)))) []
abbrev kpy := HL TB.den (hsT k1g.ins (hsOs k1g.pre))
abbrev k4n := HL TB.den (hsV k1g.res (hsOs k1g.post))
def k3x : Cx TB := ⟨inf, [], [], 4, []⟩
def k6y : Code := Try.f79.body.getD .skip
def kb8 : List ResultVar := Try.f79.results.toList
def k157 (o : k4n) := qS TB k3x 14 0 (cB (cB k6y)) .no (retTQ TB k3x k1g kb8 o)
def k5m : Tm := ⟨[], [], [5, 6, 7], [.one (.d (.sl (.int .u64))), .one (.d (.int .i64)), .one (.d (.int .i64))], 0⟩
def k124 (o : k4n) (nx1 : NX TB k5m) := qM TB 0 k5m nx1 (blockT TB 0 (k157 o))
def k86 (o : k4n) (nx1 : NX TB k5m) (i : HL TB.den k5m.hs) : Prop := WP TB k3x 14 0 (cA (cA (cB (cA (cB k6y))))) .no (k5m.fill TB i) (k124 o nx1)
def k158 (o : k4n) : An TB := .lp [] k5m (k86 o) fun nx1 => .no
def kod (o : k4n) : An TB := .nd [] .no [] (.nd [] (.nd [] .no [] (k158 o)) [] .no)
def kdf (x : kpy) (o : k4n) : Prop := WPh TB k3x 14 0 k6y (kod o) (k1g.st TB x) (retTQ TB k3x k1g kb8 o)
theorem k10p (o : k4n) : OblH TB k3x 14 0 k6y (kod o) (retTQ TB k3x k1g kb8 o) :=
 OblH.ofC (X := ((∀ nx i, (k86 o) nx i = (k86 o) nx i) ∧ (∀ nx1 : NX TB k5m, True) ∧ True)) (by kernel_rfl) ⟨fun _ _ => rfl, fun _ => trivial, trivial⟩
theorem k11n {x : kpy} {o : k4n} (h : kdf x o) : k1g.Snd Try.prog x o :=
 Con.soundH (c := k1g) (C := k3x) TBok ⟨inf_ok, all_nil, all_nil⟩ mix Try.func79 (show Try.f79.body = some k6y by kernel_rfl) (show Try.f79.ntmps = 14 by kernel_rfl) (show Try.f79.results.toList = kb8 by kernel_rfl) rfl h (k10p o)
theorem k143 {p0 : List Int} {r0 : Bool} (h :
(Md.Loop (p0, ((p0.length : Int) : Int), (0 : Int), ()) (k86 (r0, ())))) : kdf (p0, ()) (r0, ()) := WPh.of_eq (by kernel_rfl) h
def ko7 (r0 : Bool) (k1 : Int → Prop) (s5 : List Int) (s6 : Int) (s7 : Int) : Prop :=
(decide (s7 < s6) = true →
(0 ≤ s7) ∧ s7 < (s5.length : Int) ∧ let v1 : Bool := decide (18446744069414584321 ≤ (ix s5 s7))
(v1 = true →
 false = r0) ∧
(v1 = false →
 k1 (IntKind.i64.wrap (s7 + 1) : Int))) ∧
(decide (s7 < s6) = false →
 true = r0)
theorem k10k {r0 : Bool} {s5 : List Int} {s6 : Int} {s7 : Int} (inv : Int → Prop) (μ : Int → Nat) (h0 : inv s7) (hs : ∀ (s7 : Int), inv s7 → ko7 r0 (fun s7q => inv s7q ∧ μ s7q < μ s7) s5 s6 s7) : Md.Loop (s5, s6, s7, ()) (k86 (r0, ())) :=
 ⟨⟨fun s : (List Int) × Int × Int × Unit => (s.1 = s5 ∧ s.2.1 = s6) ∧ inv s.2.2.1, fun s : (List Int) × Int × Int × Unit => μ s.2.2.1, ⟨⟨rfl, rfl⟩, h0⟩, fun (s5p, s6p, s7p, ()) ⟨⟨eq0, eq1⟩, hi⟩ => by
  have eq0 : s5p = s5 := eq0; subst s5p; have eq1 : s6p = s6 := eq1; subst s6p; exact mpr_of (by kernel_rfl) ((congrArg (fun k => ko7 r0 k s5 s6 s7p) (lpk1 (⟨rfl, rfl⟩ : s5 = s5 ∧ s6 = s6) inv (fun s7q => μ s7q < μ s7p))).mpr (hs s7p hi))⟩⟩
theorem bd79 : Callable Try.prog 79 := ⟨by rw [Try.func79]; kernel_rfl, by rw [Try.func79]; show some _ ≠ some _; decide⟩
theorem kyh (p0 : List Int) (h : p0.length ≤ 9223372036854775807) : kdf (p0, ()) (((allB p0) : Bool), ()) := by
 refine k143 (k10k (AllI (fun x => decide (x < 18446744069414584321)) p0) (fun i => (p0.length - i).toNat) AllI.start ?_)
 intro i hi
 refine ⟨fun hh => ?_, fun hh => (hi.done (of_decide_eq_false hh)).symm⟩
 have hh := of_decide_eq_true hh
 exact ⟨hi.1, hh, fun e => (hi.bad hh (by simpa using e)).symm, fun e => hi.next hh (by omega) (by simpa using e)⟩
def klo : Con TB.den := k1g.fnR (fun x => (fun (p0 : List Int) => p0.length ≤ 9223372036854775807) x.1) fun x => ((fun (p0 : List Int) => ((allB p0) : Bool)) x.1, ())
theorem k13k : klo.Ok Try.prog TB := Con.ok_fn k1g bd79 fun x h => k11n (kyh x.1 h)
def kj : Con TB.den := Con.mk0 102 [.one (.own 0), .one (.d (.int .u64))] [.tip (.int .u8)] (.one (.one (.own 0))) [.tip (.int .u8)]
abbrev kju := HL TB.den (hsT kj.ins (hsOs kj.pre))
abbrev k2n := HL TB.den (hsV kj.res (hsOs kj.post))
def k2a : Cx TB := ⟨inf, [], [], 4, []⟩
def k4z : Code := Try.f102.body.getD .skip
def k7w : List ResultVar := Try.f102.results.toList
def kv4 (o : k2n) := qS TB k2a 16 1 (cB (cB k4z)) .no (retTQ TB k2a kj k7w o)
def k33 : Tm := ⟨[0], [.tip (.int .u8)], [0, 1, 5], [.one (.own 0), .one (.d (.int .u64)), .one (.d (.int .i64))], 1⟩
def ku7 (o : k2n) (nx1 : NX TB k33) := qM TB 1 k33 nx1 (blockT TB 0 (kv4 o))
def k69 (o : k2n) (nx1 : NX TB k33) (i : HL TB.den k33.hs) : Prop := WP TB k2a 16 1 (cA (cA (cB (cA (cB k4z))))) .no (k33.fill TB i) (ku7 o nx1)
def kv1 (o : k2n) : An TB := .lp [] k33 (k69 o) fun nx1 => .no
def kho (o : k2n) : An TB := .nd [] .no [] (.nd [] (.nd [] .no [] (kv1 o)) [] .no)
def k9u (x : kju) (o : k2n) : Prop := WPh TB k2a 16 1 k4z (kho o) (kj.st TB x) (retTQ TB k2a kj k7w o)
theorem ksw (o : k2n) : OblH TB k2a 16 1 k4z (kho o) (retTQ TB k2a kj k7w o) :=
 OblH.ofC (X := ((∀ nx i, (k69 o) nx i = (k69 o) nx i) ∧ (∀ nx1 : NX TB k33, True) ∧ True)) (by kernel_rfl) ⟨fun _ _ => rfl, fun _ => trivial, trivial⟩
theorem kt2 {x : kju} {o : k2n} (h : k9u x o) : kj.Snd Try.prog x o :=
 Con.soundH (c := kj) (C := k2a) TBok ⟨inf_ok, all_nil, all_nil⟩ mix Try.func102 (show Try.f102.body = some k4z by kernel_rfl) (show Try.f102.ntmps = 16 by kernel_rfl) (show Try.f102.results.toList = k7w by kernel_rfl) rfl h (ksw o)
theorem kus {p1 : Int} {w0 : List Int} {e0 : List Int} (h :
((w0 = w0) ∧ Md.Loop (p1, (0 : Int), w0, ()) (k69 (e0, ())))) : k9u (p1, w0, ()) (e0, ()) := WPh.of_eq (by kernel_rfl) h
def ki3 (e0 : List Int) (k1 : Int → Int → List Int → Prop) (s1 : Int) (s5 : Int) (g0 : List Int) : Prop :=
(decide (s5 < 8) = true →
 g0.length = g0.length ∧ (g0.length + [IntKind.u8.wrap s1].length) * 1 ≤ 140737488355328 ∧ g0.length + [IntKind.u8.wrap s1].length ≤ maxLen ∧ (g0 ++ [IntKind.u8.wrap s1] = g0 ++ [IntKind.u8.wrap s1]) ∧ k1 (ishr .u64 s1 8 : Int) (IntKind.i64.wrap (s5 + 1) : Int) (g0 ++ [IntKind.u8.wrap s1] : List Int)) ∧
(decide (s5 < 8) = false →
(g0 = g0) ∧ g0 = e0)
theorem ksv {e0 : List Int} {s1 : Int} {s5 : Int} {g0 : List Int} (inv : Int → Int → List Int → Prop) (μ : Int → Int → List Int → Nat) (h0 : inv s1 s5 g0) (hs : ∀ (s1 : Int) (s5 : Int) (g0 : List Int), inv s1 s5 g0 → ki3 e0 (fun s1q s5q g0q => inv s1q s5q g0q ∧ μ s1q s5q g0q < μ s1 s5 g0) s1 s5 g0) : Md.Loop (s1, s5, g0, ()) (k69 (e0, ())) :=
 ⟨⟨fun s : Int × Int × (List Int) × Unit => (True) ∧ inv s.1 s.2.1 s.2.2.1, fun s : Int × Int × (List Int) × Unit => μ s.1 s.2.1 s.2.2.1, ⟨trivial, h0⟩, fun (s1p, s5p, g0p, ()) ⟨_, hi⟩ => by
  exact mpr_of (by kernel_rfl) ((congrArg (fun k => ki3 e0 k s1p s5p g0p) (lpk3 (trivial : True) inv (fun s1q s5q g0q => μ s1q s5q g0q < μ s1p s5p g0p))).mpr (hs s1p s5p g0p hi))⟩⟩
theorem bd102 : Callable Try.prog 102 := ⟨by rw [Try.func102]; kernel_rfl, by rw [Try.func102]; show some _ ≠ some _; decide⟩
theorem krl (p1 : Int) (w0 : List Int) (h : U64 p1 ∧ w0.length ≤ 137438953472) : k9u (p1, w0, ()) (((w0 ++ dig 8 p1) : List Int), ()) := by
 obtain ⟨h1, h2⟩ := h
 refine kus ⟨rfl, ksv (fun n i g => 0 ≤ i ∧ i ≤ 8 ∧ U64 n ∧ n = p1 / 256 ^ i.toNat ∧ g = w0 ++ dig i.toNat p1) (fun _ i _ => (8 - i).toNat) ⟨by omega, by omega, h1, by simp, by simp [dig]⟩ ?_⟩
 rintro n i g ⟨g0, g1, g2, g3, rfl⟩
 refine ⟨fun h => ?_, fun h => ?_⟩
 ·have h := of_decide_eq_true h
  rw [inc i 8 g0 h (by omega), ishr8, u8w]
  refine ⟨rfl, ?_, ?_, rfl, ⟨by omega, by omega, ⟨by omega, by omega⟩, ?_, ?_⟩, by omega⟩
  ·simp; omega
  ·simp; unfold maxLen; omega
  ·rw [g3, show (i + 1).toNat = i.toNat + 1 by omega, Int.ediv_ediv_of_nonneg (Int.le_of_lt (kgk _)), Int.pow_succ]
  ·rw [show (i + 1).toNat = i.toNat + 1 by omega, k19o, List.append_assoc, g3]
 ·have h := of_decide_eq_false h
  exact ⟨rfl, by rw [show i = 8 by omega]; rfl⟩
def kh0 : Con TB.den := kj.fnR (fun x => (fun (p1 : Int) (w0 : List Int) => U64 p1 ∧ w0.length ≤ 137438953472) x.1 x.2.1) fun x => ((fun (p1 : Int) (w0 : List Int) => ((w0 ++ dig 8 p1) : List Int)) x.1 x.2.1, ())
theorem kuf : kh0.Ok Try.prog TB := Con.ok_fn kj bd102 fun x h => kt2 (krl x.1 x.2.1 h)
def k2s : Con TB.den := Con.mk0 80 [.one (.d (.sl (.int .u64))), .one (.d (.sl (.int .u64)))] [] (.one (.one (.d (.str)))) []
abbrev k14z := HL TB.den (hsT k2s.ins (hsOs k2s.pre))
abbrev k5h := HL TB.den (hsV k2s.res (hsOs k2s.post))
def k4a : Cx TB := ⟨inf, [kh0], [], 4, []⟩
def k7a : Code := Try.f80.body.getD .skip
def ke7 : List ResultVar := Try.f80.results.toList
def k1ht (o : k5h) := qS TB k4a 39 0 (cB (cB (cB (cB k7a)))) .no (retTQ TB k4a k2s ke7 o)
def kar : Tm := ⟨[1], [.tip (.int .u8)], [5, 27, 28, 29], [.one (.own 0), .one (.d (.sl (.int .u64))), .one (.d (.int .i64)), .one (.d (.int .i64))], 2⟩
def ke1 (o : k5h) (nx2 : NX TB kar) (i : HL TB.den kar.hs) : Prop := WP TB k4a 39 0 (cA (cA (cB (cA (cB (cB (cB k7a))))))) .no (kar.fill TB i) (qM TB 0 kar nx2 (blockT TB 2 (k1ht o)))
def kzv (o : k5h) : An TB := .nd [] .no [] (.lp [] kar (ke1 o) fun nx2 => .no)
def k1he (o : k5h) := qS TB k4a 39 0 (cB (cB (cB k7a))) (.nd [] (kzv o) [] .no) (retTQ TB k4a k2s ke7 o)
def kap : Tm := ⟨[1], [.tip (.int .u8)], [0, 5, 17, 18, 19], [.one (.d (.sl (.int .u64))), .one (.own 0), .one (.d (.sl (.int .u64))), .one (.d (.int .i64)), .one (.d (.int .i64))], 2⟩
def kdx (o : k5h) (nx1 : NX TB kap) (i : HL TB.den kap.hs) : Prop := WP TB k4a 39 0 (cA (cA (cB (cA (cB (cB k7a)))))) .no (kap.fill TB i) (qM TB 0 kap nx1 (blockT TB 0 (k1he o)))
def k1gr (o : k5h) : An TB := .lp [.frz 0 [5]] kap (kdx o) fun nx1 => .no
def k1h6 (o : k5h) : An TB := .nd [] (.nd [] .no [] (k1gr o)) [] (.nd [] (kzv o) [] .no)
def kzo (o : k5h) : An TB := .nd [] .no [] (.nd [] .no [] (k1h6 o))
def kkb (x : k14z) (o : k5h) : Prop := WPh TB k4a 39 0 k7a (kzo o) (k2s.st TB x) (retTQ TB k4a k2s ke7 o)
theorem k1da (o : k5h) : OblH TB k4a 39 0 k7a (kzo o) (retTQ TB k4a k2s ke7 o) :=
 OblH.ofC (X := ((∀ nx i, (kdx o) nx i = (kdx o) nx i) ∧ (∀ nx1 : NX TB kap, True) ∧ (∀ nx i, (ke1 o) nx i = (ke1 o) nx i) ∧ (∀ nx2 : NX TB kar, True) ∧ True)) (by kernel_rfl) ⟨fun _ _ => rfl, fun _ => trivial, fun _ _ => rfl, fun _ => trivial, trivial⟩
theorem k1dx {x : k14z} {o : k5h} (h : kkb x o) : k2s.Snd Try.prog x o :=
 Con.soundH (c := k2s) (C := k4a) TBok ⟨inf_ok, (all_cons kuf all_nil), all_nil⟩ mix Try.func80 (show Try.f80.body = some k7a by kernel_rfl) (show Try.f80.ntmps = 39 by kernel_rfl) (show Try.f80.results.toList = ke7 by kernel_rfl) rfl h (k1da o)
theorem k1hu {p0 : List Int} {p1 : List Int} {r0 : ByteArray} (h :
(let v1 : Int := IntKind.i64.wrap ((p1.length : Int) + (p0.length : Int))
 0 ≤ (0 : Int) ∧ (0 : Int) ≤ IntKind.i64.wrap (8 * v1) ∧ ((IntKind.i64.wrap (8 * v1)).toNat * 1 ≤ 140737488355328) ∧ ((IntKind.i64.wrap (8 * v1)).toNat ≤ maxLen) ∧ (0 = (List.replicate 0 (0 : Int)).length) ∧ (List.replicate 0 (0 : Int) = List.replicate 0 (0 : Int)) ∧ Md.Loop (p0, p1, ((p1.length : Int) : Int), (0 : Int), (List.replicate 0 (0 : Int) : List Int), ()) (kdx (r0, ())))) : kkb (p0, p1, ()) (r0, ()) := WPh.of_eq (by kernel_rfl) h
def k10d (r0 : ByteArray) (k1 : Int → List Int → Prop) (s0 : List Int) (s17 : List Int) (s18 : Int) (s19 : Int) (g1 : List Int) : Prop :=
(decide (s19 < s18) = true →
(0 ≤ s19) ∧ s19 < (s17.length : Int) ∧ (g1 = g1) ∧ (U64 (ix s17 s19) ∧ g1.length ≤ 137438953472) ∧ ((g1 ++ dig 8 (ix s17 s19)) = (g1 ++ dig 8 (ix s17 s19))) ∧ k1 (IntKind.i64.wrap (s19 + 1) : Int) ((g1 ++ dig 8 (ix s17 s19)) : List Int)) ∧
(decide (s19 < s18) = false →
(g1 = g1) ∧ Md.Loop (s0, ((s0.length : Int) : Int), (0 : Int), g1, ()) (ke1 (r0, ())))
theorem k1e4 {r0 : ByteArray} {s0 : List Int} {s17 : List Int} {s18 : Int} {s19 : Int} {g1 : List Int} (inv : Int → List Int → Prop) (μ : Int → List Int → Nat) (h0 : inv s19 g1) (hs : ∀ (s19 : Int) (g1 : List Int), inv s19 g1 → k10d r0 (fun s19q g1q => inv s19q g1q ∧ μ s19q g1q < μ s19 g1) s0 s17 s18 s19 g1) : Md.Loop (s0, s17, s18, s19, g1, ()) (kdx (r0, ())) :=
 ⟨⟨fun s : (List Int) × (List Int) × Int × Int × (List Int) × Unit => (s.1 = s0 ∧ s.2.1 = s17 ∧ s.2.2.1 = s18) ∧ inv s.2.2.2.1 s.2.2.2.2.1, fun s : (List Int) × (List Int) × Int × Int × (List Int) × Unit => μ s.2.2.2.1 s.2.2.2.2.1, ⟨⟨rfl, rfl, rfl⟩, h0⟩, fun (s0p, s17p, s18p, s19p, g1p, ()) ⟨⟨eq0, eq1, eq2⟩, hi⟩ => by
  have eq0 : s0p = s0 := eq0; subst s0p; have eq1 : s17p = s17 := eq1; subst s17p; have eq2 : s18p = s18 := eq2; subst s18p; exact mpr_of (by kernel_rfl) ((congrArg (fun k => k10d r0 k s0 s17 s18 s19p g1p) (lpk2 (⟨rfl, rfl, rfl⟩ : s0 = s0 ∧ s17 = s17 ∧ s18 = s18) inv (fun s19q g1q => μ s19q g1q < μ s19p g1p))).mpr (hs s19p g1p hi))⟩⟩
def k109 (r0 : ByteArray) (k2 : Int → List Int → Prop) (s27 : List Int) (s28 : Int) (s29 : Int) (g1 : List Int) : Prop :=
(decide (s29 < s28) = true →
(0 ≤ s29) ∧ s29 < (s27.length : Int) ∧ (g1 = g1) ∧ (U64 (ix s27 s29) ∧ g1.length ≤ 137438953472) ∧ ((g1 ++ dig 8 (ix s27 s29)) = (g1 ++ dig 8 (ix s27 s29))) ∧ k2 (IntKind.i64.wrap (s29 + 1) : Int) ((g1 ++ dig 8 (ix s27 s29)) : List Int)) ∧
(decide (s29 < s28) = false →
 strOfNums g1 = r0)
theorem k1f0 {r0 : ByteArray} {s27 : List Int} {s28 : Int} {s29 : Int} {g1 : List Int} (inv : Int → List Int → Prop) (μ : Int → List Int → Nat) (h0 : inv s29 g1) (hs : ∀ (s29 : Int) (g1 : List Int), inv s29 g1 → k109 r0 (fun s29q g1q => inv s29q g1q ∧ μ s29q g1q < μ s29 g1) s27 s28 s29 g1) : Md.Loop (s27, s28, s29, g1, ()) (ke1 (r0, ())) :=
 ⟨⟨fun s : (List Int) × Int × Int × (List Int) × Unit => (s.1 = s27 ∧ s.2.1 = s28) ∧ inv s.2.2.1 s.2.2.2.1, fun s : (List Int) × Int × Int × (List Int) × Unit => μ s.2.2.1 s.2.2.2.1, ⟨⟨rfl, rfl⟩, h0⟩, fun (s27p, s28p, s29p, g1p, ()) ⟨⟨eq0, eq1⟩, hi⟩ => by
  have eq0 : s27p = s27 := eq0; subst s27p; have eq1 : s28p = s28 := eq1; subst s28p; exact mpr_of (by kernel_rfl) ((congrArg (fun k => k109 r0 k s27 s28 s29p g1p) (lpk2 (⟨rfl, rfl⟩ : s27 = s27 ∧ s28 = s28) inv (fun s29q g1q => μ s29q g1q < μ s29p g1p))).mpr (hs s29p g1p hi))⟩⟩
theorem bd80 : Callable Try.prog 80 := ⟨by rw [Try.func80]; kernel_rfl, by rw [Try.func80]; show some _ ≠ some _; decide⟩
theorem k1bs (p0 : List Int) (p1 : List Int) (h : Us p0 ∧ Us p1 ∧ p0.length ≤ 1073741824 ∧ p1.length ≤ 1073741824) : kkb (p0, p1, ()) (((keyB p1 p0) : ByteArray), ()) := by
 obtain ⟨h0, h1, h2, h3⟩ := h
 refine k1hu ?_
 rw [wi ((p1.length : Int) + p0.length) (by omega) (by omega)]
 simp only []
 rw [wi (8 * ((p1.length : Int) + p0.length)) (by omega) (by omega)]
 refine ⟨by omega, by omega, by omega, by unfold maxLen; omega, by trivial, by trivial, ?_⟩
 refine k1e4 (fun i g => FlatI (dig 8) [] p1 i g) (fun i _ => (p1.length - i).toNat) FlatI.start ?_
 intro i g hg
 have hl := hg.len 8 (fun x _ => by simp)
 refine ⟨fun hh => ?_, fun hh => ?_⟩
 ·have hh := of_decide_eq_true hh
  exact ⟨hg.1, hh, rfl, ⟨h1 _ (ix_mem p1 i hg.1 hh), by simp at hl; omega⟩, by trivial, hg.next hh (by omega) rfl⟩
 ·have hh := of_decide_eq_false hh
  have e := hg.done hh
  refine ⟨rfl, k1f0 (fun j g => FlatI (dig 8) (p1.flatMap (dig 8)) p0 j g) (fun j _ => (p0.length - j).toNat) (by rw [e]; exact FlatI.start) ?_⟩
  intro j g2 hg2
  have hl2 := hg2.len 8 (fun x _ => by simp)
  have hl3 := kqy p1
  refine ⟨fun hh2 => ?_, fun hh2 => ?_⟩
  ·have hh2 := of_decide_eq_true hh2
   exact ⟨hg2.1, hh2, rfl, ⟨h0 _ (ix_mem p0 j hg2.1 hh2), by omega⟩, by trivial, hg2.next hh2 (by omega) rfl⟩
  ·rw [hg2.done (of_decide_eq_false hh2)]; rfl
def kws : Con TB.den := k2s.fnR (fun x => (fun (p0 : List Int) (p1 : List Int) => Us p0 ∧ Us p1 ∧ p0.length ≤ 1073741824 ∧ p1.length ≤ 1073741824) x.1 x.2.1) fun x => ((fun (p0 : List Int) (p1 : List Int) => ((keyB p1 p0) : ByteArray)) x.1 x.2.1, ())
theorem k1ge : kws.Ok Try.prog TB := Con.ok_fn k2s bd80 fun x h => k1dx (k1bs x.1 x.2.1 h)
def k3k : Con TB.den := Con.mk0 75 [.one (.ptr 0 0), .one (.d (.int .u64)), .one (.d (.sl (.int .u64)))] [.cells [.d (.bool), .d (.int .u64), .d (.int .i64), .d (.sl (.st 3)), .mp 1, .mp 2, .mp 3], .map (.str) (.int .i64), .map (.str) (.sl (.int .u64)), .map (.str) (.bool)] (.tup [.one (.d (.int .u64)), .one (.d (.bool))]) [.cells [.d (.bool), .d (.int .u64), .d (.int .i64), .d (.sl (.st 3)), .mp 1, .mp 2, .mp 3], .map (.str) (.int .i64), .map (.str) (.sl (.int .u64)), .map (.str) (.bool)]
abbrev kzn := HL TB.den (hsT k3k.ins (hsOs k3k.pre))
abbrev kii := HL TB.den (hsV k3k.res (hsOs k3k.post))
def kcf : Cx TB := ⟨inf, [klo, kws, kf0], [], 4, []⟩
def kj3 : Code := Try.f75.body.getD .skip
def km5 : List ResultVar := Try.f75.results.toList
def kvv (o : kii) : An TB := .no
def kiz (x : kzn) (o : kii) : Prop := WPh TB kcf 41 4 kj3 (kvv o) (k3k.st TB x) (retTQ TB kcf k3k km5 o)
theorem k1bz (o : kii) : OblH TB kcf 41 4 kj3 (kvv o) (retTQ TB kcf k3k km5 o) :=
 OblH.ofC (X := True) (by kernel_rfl) trivial
theorem k1ck {x : kzn} {o : kii} (h : kiz x o) : k3k.Snd Try.prog x o :=
 Con.soundH (c := k3k) (C := kcf) TBok ⟨inf_ok, (all_cons k13k (all_cons k1ge (all_cons kmm all_nil))), all_nil⟩ mix Try.func75 (show Try.f75.body = some kj3 by kernel_rfl) (show Try.f75.ntmps = 41 by kernel_rfl) (show Try.f75.results.toList = km5 by kernel_rfl) rfl h (k1bz o)
theorem k1es {p1 : Int} {p2 : List Int} {c0_0 : Bool} {c0_1 : Int} {c0_2 : Int} {c0_3 : List TQuestion} {w1k : List ByteArray} {w1v : List Int} {w2k : List ByteArray} {w2v : List (List Int)} {w3k : List ByteArray} {w3v : List Bool} {r0 : Int} {r1 : Bool} {d0_0 : Bool} {d0_1 : Int} {d0_2 : Int} {d0_3 : List TQuestion} {e1k : List ByteArray} {e1v : List Int} {e2k : List ByteArray} {e2v : List (List Int)} {e3k : List ByteArray} {e3v : List Bool} (h :
((p2.length ≤ 9223372036854775807) ∧ ((!(allB p2)) = true →
 0 = r0 ∧ false = r1 ∧ c0_0 = d0_0 ∧ c0_1 = d0_1 ∧ c0_2 = d0_2 ∧ c0_3 = d0_3 ∧ w1k = e1k ∧ w1v = e1v ∧ w2k = e2k ∧ w2v = e2v ∧ w3k = e3k ∧ w3v = e3v) ∧
((!(allB p2)) = false →
(Us p2 ∧ Us [p1] ∧ p2.length ≤ 1073741824 ∧ [p1].length ≤ 1073741824) ∧ w1k.length = w1v.length ∧ let v2 : Int := mVal (BEq.beq (keyB [p1] p2)) w1k w1v (0 : Int)
(mHas (BEq.beq (keyB [p1] p2)) w1k = true →
(0 ≤ v2) ∧ v2 < (c0_3.length : Int) ∧ (ix c0_3 v2).Answer = r0 ∧ true = r1 ∧ c0_0 = d0_0 ∧ c0_1 = d0_1 ∧ c0_2 = d0_2 ∧ c0_3 = d0_3 ∧ w1k = e1k ∧ w1v = e1v ∧ w2k = e2k ∧ w2v = e2v ∧ w3k = e3k ∧ w3v = e3v) ∧
(mHas (BEq.beq (keyB [p1] p2)) w1k = false →
(c0_0 = true →
 0 = r0 ∧ false = r1 ∧ c0_0 = d0_0 ∧ c0_1 = d0_1 ∧ c0_2 = d0_2 ∧ c0_3 = d0_3 ∧ w1k = e1k ∧ w1v = e1v ∧ w2k = e2k ∧ w2v = e2v ∧ w3k = e3k ∧ w3v = e3v) ∧
(c0_0 = false →
((18446744069414584321 : Int) = 18446744069414584321 ∧ U64 p1 ∧ Us p2 ∧ p2.length ≤ 1099511627776) ∧ (hashS p1 p2) = r0 ∧ true = r1 ∧ c0_0 = d0_0 ∧ c0_1 = d0_1 ∧ c0_2 = d0_2 ∧ c0_3 = d0_3 ∧ w1k = e1k ∧ w1v = e1v ∧ w2k = e2k ∧ w2v = e2v ∧ w3k = e3k ∧ w3v = e3v))))) : kiz (p1, p2, c0_0, c0_1, c0_2, c0_3, w1k, w1v, w2k, w2v, w3k, w3v, ()) (r0, r1, d0_0, d0_1, d0_2, d0_3, e1k, e1v, e2k, e2v, e3k, e3v, ()) := WPh.of_eq (by kernel_rfl) h
theorem bd75 : Callable Try.prog 75 := ⟨by rw [Try.func75]; kernel_rfl, by rw [Try.func75]; show some _ ≠ some _; decide⟩
theorem k1a6 (p1 : Int) (p2 : List Int) (c0_0 : Bool) (c0_1 : Int) (c0_2 : Int) (c0_3 : List TQuestion) (w1k : List ByteArray) (w1v : List Int) (w2k : List ByteArray) (w2v : List (List Int)) (w3k : List ByteArray) (w3v : List Bool) (h : U64 p1 ∧ Us p2 ∧ p2.length ≤ 1073741824 ∧ OrOk w1k w1v c0_3) : kiz (p1, p2, c0_0, c0_1, c0_2, c0_3, w1k, w1v, w2k, w2v, w3k, w3v, ()) ((((pk c0_0 c0_3 w1k w1v p1 p2).getD 0) : Int), (((pk c0_0 c0_3 w1k w1v p1 p2).isSome) : Bool), (c0_0 : Bool), (c0_1 : Int), (c0_2 : Int), (c0_3 : List TQuestion), (w1k : List ByteArray), (w1v : List Int), (w2k : List ByteArray), (w2v : List (List Int)), (w3k : List ByteArray), (w3v : List Bool), ()) := by
 obtain ⟨h1, h2, h3, ho⟩ := h
 have hu : Us [p1] := by intro x hx; rw [List.mem_singleton] at hx; subst hx; exact h1
 refine k1es ⟨by omega, fun e => ?_, fun e => ⟨⟨h2, hu, h3, by simp⟩, ho.len, fun hm => ?_, fun hm => ⟨fun hi => ?_, fun hi => ⟨⟨rfl, h1, h2, by omega⟩, ?_⟩⟩⟩⟩
 ·have e : allB p2 = false := by simpa using e
  simp [pk, e]
 ·have e : allB p2 = true := by simpa using e
  have hv := ho.rng _ (k1p1 (z := (0 : Int)) hm ho.len)
  refine ⟨hv.1, hv.2, ?_⟩
  simp [pk, e, hm]
 ·have e : allB p2 = true := by simpa using e
  simp [pk, e, hm, hi]
 ·have e : allB p2 = true := by simpa using e
  simp [pk, e, hm, hi]
def kl2 : Con TB.den := k3k.fnR (fun x => (fun (p1 : Int) (p2 : List Int) (c0_0 : Bool) (c0_1 : Int) (c0_2 : Int) (c0_3 : List TQuestion) (w1k : List ByteArray) (w1v : List Int) (w2k : List ByteArray) (w2v : List (List Int)) (w3k : List ByteArray) (w3v : List Bool) => U64 p1 ∧ Us p2 ∧ p2.length ≤ 1073741824 ∧ OrOk w1k w1v c0_3) x.1 x.2.1 x.2.2.1 x.2.2.2.1 x.2.2.2.2.1 x.2.2.2.2.2.1 x.2.2.2.2.2.2.1 x.2.2.2.2.2.2.2.1 x.2.2.2.2.2.2.2.2.1 x.2.2.2.2.2.2.2.2.2.1 x.2.2.2.2.2.2.2.2.2.2.1 x.2.2.2.2.2.2.2.2.2.2.2.1) fun x => ((fun (p1 : Int) (p2 : List Int) (c0_0 : Bool) (c0_1 : Int) (c0_2 : Int) (c0_3 : List TQuestion) (w1k : List ByteArray) (w1v : List Int) (w2k : List ByteArray) (w2v : List (List Int)) (w3k : List ByteArray) (w3v : List Bool) => (((pk c0_0 c0_3 w1k w1v p1 p2).getD 0) : Int)) x.1 x.2.1 x.2.2.1 x.2.2.2.1 x.2.2.2.2.1 x.2.2.2.2.2.1 x.2.2.2.2.2.2.1 x.2.2.2.2.2.2.2.1 x.2.2.2.2.2.2.2.2.1 x.2.2.2.2.2.2.2.2.2.1 x.2.2.2.2.2.2.2.2.2.2.1 x.2.2.2.2.2.2.2.2.2.2.2.1, (fun (p1 : Int) (p2 : List Int) (c0_0 : Bool) (c0_1 : Int) (c0_2 : Int) (c0_3 : List TQuestion) (w1k : List ByteArray) (w1v : List Int) (w2k : List ByteArray) (w2v : List (List Int)) (w3k : List ByteArray) (w3v : List Bool) => (((pk c0_0 c0_3 w1k w1v p1 p2).isSome) : Bool)) x.1 x.2.1 x.2.2.1 x.2.2.2.1 x.2.2.2.2.1 x.2.2.2.2.2.1 x.2.2.2.2.2.2.1 x.2.2.2.2.2.2.2.1 x.2.2.2.2.2.2.2.2.1 x.2.2.2.2.2.2.2.2.2.1 x.2.2.2.2.2.2.2.2.2.2.1 x.2.2.2.2.2.2.2.2.2.2.2.1, (fun (p1 : Int) (p2 : List Int) (c0_0 : Bool) (c0_1 : Int) (c0_2 : Int) (c0_3 : List TQuestion) (w1k : List ByteArray) (w1v : List Int) (w2k : List ByteArray) (w2v : List (List Int)) (w3k : List ByteArray) (w3v : List Bool) => (c0_0 : Bool)) x.1 x.2.1 x.2.2.1 x.2.2.2.1 x.2.2.2.2.1 x.2.2.2.2.2.1 x.2.2.2.2.2.2.1 x.2.2.2.2.2.2.2.1 x.2.2.2.2.2.2.2.2.1 x.2.2.2.2.2.2.2.2.2.1 x.2.2.2.2.2.2.2.2.2.2.1 x.2.2.2.2.2.2.2.2.2.2.2.1, (fun (p1 : Int) (p2 : List Int) (c0_0 : Bool) (c0_1 : Int) (c0_2 : Int) (c0_3 : List TQuestion) (w1k : List ByteArray) (w1v : List Int) (w2k : List ByteArray) (w2v : List (List Int)) (w3k : List ByteArray) (w3v : List Bool) => (c0_1 : Int)) x.1 x.2.1 x.2.2.1 x.2.2.2.1 x.2.2.2.2.1 x.2.2.2.2.2.1 x.2.2.2.2.2.2.1 x.2.2.2.2.2.2.2.1 x.2.2.2.2.2.2.2.2.1 x.2.2.2.2.2.2.2.2.2.1 x.2.2.2.2.2.2.2.2.2.2.1 x.2.2.2.2.2.2.2.2.2.2.2.1, (fun (p1 : Int) (p2 : List Int) (c0_0 : Bool) (c0_1 : Int) (c0_2 : Int) (c0_3 : List TQuestion) (w1k : List ByteArray) (w1v : List Int) (w2k : List ByteArray) (w2v : List (List Int)) (w3k : List ByteArray) (w3v : List Bool) => (c0_2 : Int)) x.1 x.2.1 x.2.2.1 x.2.2.2.1 x.2.2.2.2.1 x.2.2.2.2.2.1 x.2.2.2.2.2.2.1 x.2.2.2.2.2.2.2.1 x.2.2.2.2.2.2.2.2.1 x.2.2.2.2.2.2.2.2.2.1 x.2.2.2.2.2.2.2.2.2.2.1 x.2.2.2.2.2.2.2.2.2.2.2.1, (fun (p1 : Int) (p2 : List Int) (c0_0 : Bool) (c0_1 : Int) (c0_2 : Int) (c0_3 : List TQuestion) (w1k : List ByteArray) (w1v : List Int) (w2k : List ByteArray) (w2v : List (List Int)) (w3k : List ByteArray) (w3v : List Bool) => (c0_3 : List TQuestion)) x.1 x.2.1 x.2.2.1 x.2.2.2.1 x.2.2.2.2.1 x.2.2.2.2.2.1 x.2.2.2.2.2.2.1 x.2.2.2.2.2.2.2.1 x.2.2.2.2.2.2.2.2.1 x.2.2.2.2.2.2.2.2.2.1 x.2.2.2.2.2.2.2.2.2.2.1 x.2.2.2.2.2.2.2.2.2.2.2.1, (fun (p1 : Int) (p2 : List Int) (c0_0 : Bool) (c0_1 : Int) (c0_2 : Int) (c0_3 : List TQuestion) (w1k : List ByteArray) (w1v : List Int) (w2k : List ByteArray) (w2v : List (List Int)) (w3k : List ByteArray) (w3v : List Bool) => (w1k : List ByteArray)) x.1 x.2.1 x.2.2.1 x.2.2.2.1 x.2.2.2.2.1 x.2.2.2.2.2.1 x.2.2.2.2.2.2.1 x.2.2.2.2.2.2.2.1 x.2.2.2.2.2.2.2.2.1 x.2.2.2.2.2.2.2.2.2.1 x.2.2.2.2.2.2.2.2.2.2.1 x.2.2.2.2.2.2.2.2.2.2.2.1, (fun (p1 : Int) (p2 : List Int) (c0_0 : Bool) (c0_1 : Int) (c0_2 : Int) (c0_3 : List TQuestion) (w1k : List ByteArray) (w1v : List Int) (w2k : List ByteArray) (w2v : List (List Int)) (w3k : List ByteArray) (w3v : List Bool) => (w1v : List Int)) x.1 x.2.1 x.2.2.1 x.2.2.2.1 x.2.2.2.2.1 x.2.2.2.2.2.1 x.2.2.2.2.2.2.1 x.2.2.2.2.2.2.2.1 x.2.2.2.2.2.2.2.2.1 x.2.2.2.2.2.2.2.2.2.1 x.2.2.2.2.2.2.2.2.2.2.1 x.2.2.2.2.2.2.2.2.2.2.2.1, (fun (p1 : Int) (p2 : List Int) (c0_0 : Bool) (c0_1 : Int) (c0_2 : Int) (c0_3 : List TQuestion) (w1k : List ByteArray) (w1v : List Int) (w2k : List ByteArray) (w2v : List (List Int)) (w3k : List ByteArray) (w3v : List Bool) => (w2k : List ByteArray)) x.1 x.2.1 x.2.2.1 x.2.2.2.1 x.2.2.2.2.1 x.2.2.2.2.2.1 x.2.2.2.2.2.2.1 x.2.2.2.2.2.2.2.1 x.2.2.2.2.2.2.2.2.1 x.2.2.2.2.2.2.2.2.2.1 x.2.2.2.2.2.2.2.2.2.2.1 x.2.2.2.2.2.2.2.2.2.2.2.1, (fun (p1 : Int) (p2 : List Int) (c0_0 : Bool) (c0_1 : Int) (c0_2 : Int) (c0_3 : List TQuestion) (w1k : List ByteArray) (w1v : List Int) (w2k : List ByteArray) (w2v : List (List Int)) (w3k : List ByteArray) (w3v : List Bool) => (w2v : List (List Int))) x.1 x.2.1 x.2.2.1 x.2.2.2.1 x.2.2.2.2.1 x.2.2.2.2.2.1 x.2.2.2.2.2.2.1 x.2.2.2.2.2.2.2.1 x.2.2.2.2.2.2.2.2.1 x.2.2.2.2.2.2.2.2.2.1 x.2.2.2.2.2.2.2.2.2.2.1 x.2.2.2.2.2.2.2.2.2.2.2.1, (fun (p1 : Int) (p2 : List Int) (c0_0 : Bool) (c0_1 : Int) (c0_2 : Int) (c0_3 : List TQuestion) (w1k : List ByteArray) (w1v : List Int) (w2k : List ByteArray) (w2v : List (List Int)) (w3k : List ByteArray) (w3v : List Bool) => (w3k : List ByteArray)) x.1 x.2.1 x.2.2.1 x.2.2.2.1 x.2.2.2.2.1 x.2.2.2.2.2.1 x.2.2.2.2.2.2.1 x.2.2.2.2.2.2.2.1 x.2.2.2.2.2.2.2.2.1 x.2.2.2.2.2.2.2.2.2.1 x.2.2.2.2.2.2.2.2.2.2.1 x.2.2.2.2.2.2.2.2.2.2.2.1, (fun (p1 : Int) (p2 : List Int) (c0_0 : Bool) (c0_1 : Int) (c0_2 : Int) (c0_3 : List TQuestion) (w1k : List ByteArray) (w1v : List Int) (w2k : List ByteArray) (w2v : List (List Int)) (w3k : List ByteArray) (w3v : List Bool) => (w3v : List Bool)) x.1 x.2.1 x.2.2.1 x.2.2.2.1 x.2.2.2.2.1 x.2.2.2.2.2.1 x.2.2.2.2.2.2.1 x.2.2.2.2.2.2.2.1 x.2.2.2.2.2.2.2.2.1 x.2.2.2.2.2.2.2.2.2.1 x.2.2.2.2.2.2.2.2.2.2.1 x.2.2.2.2.2.2.2.2.2.2.2.1, ())
theorem kwr : kl2.Ok Try.prog TB := Con.ok_fn k3k bd75 fun x h => k1ck (k1a6 x.1 x.2.1 x.2.2.1 x.2.2.2.1 x.2.2.2.2.1 x.2.2.2.2.2.1 x.2.2.2.2.2.2.1 x.2.2.2.2.2.2.2.1 x.2.2.2.2.2.2.2.2.1 x.2.2.2.2.2.2.2.2.2.1 x.2.2.2.2.2.2.2.2.2.2.1 x.2.2.2.2.2.2.2.2.2.2.2.1 h)
def k4f : Con TB.den := Con.mk0 74 [.agg [.d (.int .u64), .d (.int .u64), .d (.int .u64), .d (.int .u64)]] [] (.one (.one (.d (.bool)))) []
abbrev k138 := HL TB.den (hsT k4f.ins (hsOs k4f.pre))
abbrev kk7 := HL TB.den (hsV k4f.res (hsOs k4f.post))
def ke2 : Cx TB := ⟨inf, [], [], 4, []⟩
def kkc : Code := Try.f74.body.getD .skip
def kp7 : List ResultVar := Try.f74.results.toList
def k10f (o : kk7) : An TB := .no
def kk4 (x : k138) (o : kk7) : Prop := WPh TB ke2 21 0 kkc (k10f o) (k4f.st TB x) (retTQ TB ke2 k4f kp7 o)
theorem k1dn (o : kk7) : OblH TB ke2 21 0 kkc (k10f o) (retTQ TB ke2 k4f kp7 o) :=
 OblH.ofC (X := True) (by kernel_rfl) trivial
theorem k1dq {x : k138} {o : kk7} (h : kk4 x o) : k4f.Snd Try.prog x o :=
 Con.soundH (c := k4f) (C := ke2) TBok ⟨inf_ok, all_nil, all_nil⟩ mix Try.func74 (show Try.f74.body = some kkc by kernel_rfl) (show Try.f74.ntmps = 21 by kernel_rfl) (show Try.f74.results.toList = kp7 by kernel_rfl) rfl h (k1dn o)
theorem k1gm {p0 : TNote} {r0 : Bool} (h :
((decide (p0.Value ≤ 4294967295) = true →
(decide (p0.Owner < 18446744069414584321) = true →
(decide (p0.Rho < 18446744069414584321) = true →
 decide (p0.Blind < 18446744069414584321) = r0) ∧
(decide (p0.Rho < 18446744069414584321) = false →
 false = r0)) ∧
(decide (p0.Owner < 18446744069414584321) = false →
 false = r0)) ∧
(decide (p0.Value ≤ 4294967295) = false →
 false = r0))) : kk4 (p0.Value, p0.Owner, p0.Rho, p0.Blind, ()) (r0, ()) := WPh.of_eq (by kernel_rfl) h
theorem bd74 : Callable Try.prog 74 := ⟨by rw [Try.func74]; kernel_rfl, by rw [Try.func74]; show some _ ≠ some _; decide⟩
theorem k1ai (p0 : TNote) : kk4 (p0.Value, p0.Owner, p0.Rho, p0.Blind, ()) (((noteV p0) : Bool), ()) := by
 refine k1gm ?_
 unfold noteV
 grind
def kgv : Con TB.den := k4f.totR fun x => ((fun (p0 : TNote) => ((noteV p0) : Bool)) (TNote.mk x.1 x.2.1 x.2.2.1 x.2.2.2.1), ())
theorem kp8 : kgv.Ok Try.prog TB := Con.ok_tot k4f bd74 fun x => k1dq (k1ai (TNote.mk x.1 x.2.1 x.2.2.1 x.2.2.2.1))
def k2i : Con TB.den := Con.mk0 76 [.agg [.d (.int .u64), .d (.int .u64), .d (.int .u64), .d (.int .u64)]] [] (.one (.one (.d (.sl (.int .u64))))) []
abbrev ktc := HL TB.den (hsT k2i.ins (hsOs k2i.pre))
abbrev kex := HL TB.den (hsV k2i.res (hsOs k2i.post))
def ka3 : Cx TB := ⟨inf, [], [], 4, []⟩
def kfc : Code := Try.f76.body.getD .skip
def kj9 : List ResultVar := Try.f76.results.toList
def ksl (o : kex) : An TB := .no
def kfj (x : ktc) (o : kex) : Prop := WPh TB ka3 12 0 kfc (ksl o) (k2i.st TB x) (retTQ TB ka3 k2i kj9 o)
theorem k16r (o : kex) : OblH TB ka3 12 0 kfc (ksl o) (retTQ TB ka3 k2i kj9 o) :=
 OblH.ofC (X := True) (by kernel_rfl) trivial
theorem k16b {x : ktc} {o : kex} (h : kfj x o) : k2i.Snd Try.prog x o :=
 Con.soundH (c := k2i) (C := ka3) TBok ⟨inf_ok, all_nil, all_nil⟩ mix Try.func76 (show Try.f76.body = some kfc by kernel_rfl) (show Try.f76.ntmps = 12 by kernel_rfl) (show Try.f76.results.toList = kj9 by kernel_rfl) rfl h (k16r o)
theorem k19s {p0 : TNote} {r0 : List Int} (h :
([p0.Value, p0.Owner, p0.Rho, p0.Blind] = r0)) : kfj (p0.Value, p0.Owner, p0.Rho, p0.Blind, ()) (r0, ()) := WPh.of_eq (by kernel_rfl) h
theorem bd76 : Callable Try.prog 76 := ⟨by rw [Try.func76]; kernel_rfl, by rw [Try.func76]; show some _ ≠ some _; decide⟩
theorem k12z (p0 : TNote) : kfj (p0.Value, p0.Owner, p0.Rho, p0.Blind, ()) (((noteL p0) : List Int), ()) := by
 exact k19s rfl
def kpv : Con TB.den := k2i.totR fun x => ((fun (p0 : TNote) => ((noteL p0) : List Int)) (TNote.mk x.1 x.2.1 x.2.2.1 x.2.2.2.1), ())
theorem k19c : kpv.Ok Try.prog TB := Con.ok_tot k2i bd76 fun x => k16b (k12z (TNote.mk x.1 x.2.1 x.2.2.1 x.2.2.2.1))
def k1t : Con TB.den := Con.mk0 34 [.one (.ptr 0 0), .agg [.d (.int .u64), .d (.int .u64), .d (.int .u64), .d (.int .u64)]] [.cells [.d (.bool), .d (.int .u64), .d (.int .i64), .d (.sl (.st 3)), .mp 1, .mp 2, .mp 3], .map (.str) (.int .i64), .map (.str) (.sl (.int .u64)), .map (.str) (.bool)] (.tup [.one (.d (.int .u64)), .one (.d (.bool))]) [.cells [.d (.bool), .d (.int .u64), .d (.int .i64), .d (.sl (.st 3)), .mp 1, .mp 2, .mp 3], .map (.str) (.int .i64), .map (.str) (.sl (.int .u64)), .map (.str) (.bool)]
abbrev kpn := HL TB.den (hsT k1t.ins (hsOs k1t.pre))
abbrev kbo := HL TB.den (hsV k1t.res (hsOs k1t.post))
def k7y : Cx TB := ⟨inf, [kgv, kpv, kl2], [], 4, []⟩
def kd4 : Code := Try.f34.body.getD .skip
def kfg : List ResultVar := Try.f34.results.toList
def kob (o : kbo) : An TB := .no
def kd8 (x : kpn) (o : kbo) : Prop := WPh TB k7y 15 4 kd4 (kob o) (k1t.st TB x) (retTQ TB k7y k1t kfg o)
theorem k10n (o : kbo) : OblH TB k7y 15 4 kd4 (kob o) (retTQ TB k7y k1t kfg o) :=
 OblH.ofC (X := True) (by kernel_rfl) trivial
theorem k11g {x : kpn} {o : kbo} (h : kd8 x o) : k1t.Snd Try.prog x o :=
 Con.soundH (c := k1t) (C := k7y) TBok ⟨inf_ok, (all_cons kp8 (all_cons k19c (all_cons kwr all_nil))), all_nil⟩ mix Try.func34 (show Try.f34.body = some kd4 by kernel_rfl) (show Try.f34.ntmps = 15 by kernel_rfl) (show Try.f34.results.toList = kfg by kernel_rfl) rfl h (k10n o)
theorem k11y {p1 : TNote} {c0_0 : Bool} {c0_1 : Int} {c0_2 : Int} {c0_3 : List TQuestion} {w1k : List ByteArray} {w1v : List Int} {w2k : List ByteArray} {w2v : List (List Int)} {w3k : List ByteArray} {w3v : List Bool} {r0 : Int} {r1 : Bool} {d0_0 : Bool} {d0_1 : Int} {d0_2 : Int} {d0_3 : List TQuestion} {e1k : List ByteArray} {e1v : List Int} {e2k : List ByteArray} {e2v : List (List Int)} {e3k : List ByteArray} {e3v : List Bool} (h :
(((!(noteV p1)) = true →
 0 = r0 ∧ false = r1 ∧ c0_0 = d0_0 ∧ c0_1 = d0_1 ∧ c0_2 = d0_2 ∧ c0_3 = d0_3 ∧ w1k = e1k ∧ w1v = e1v ∧ w2k = e2k ∧ w2v = e2v ∧ w3k = e3k ∧ w3v = e3v) ∧
((!(noteV p1)) = false →
(U64 (2 : Int) ∧ Us (noteL p1) ∧ (noteL p1).length ≤ 1073741824 ∧ OrOk w1k w1v c0_3) ∧ let r2 : Int := ((pk c0_0 c0_3 w1k w1v (2 : Int) (noteL p1)).getD 0)
 let r3 : Bool := ((pk c0_0 c0_3 w1k w1v (2 : Int) (noteL p1)).isSome)
 r2 = r0 ∧ r3 = r1 ∧ c0_0 = d0_0 ∧ c0_1 = d0_1 ∧ c0_2 = d0_2 ∧ c0_3 = d0_3 ∧ w1k = e1k ∧ w1v = e1v ∧ w2k = e2k ∧ w2v = e2v ∧ w3k = e3k ∧ w3v = e3v))) : kd8 (p1.Value, p1.Owner, p1.Rho, p1.Blind, c0_0, c0_1, c0_2, c0_3, w1k, w1v, w2k, w2v, w3k, w3v, ()) (r0, r1, d0_0, d0_1, d0_2, d0_3, e1k, e1v, e2k, e2v, e3k, e3v, ()) := WPh.of_eq (by kernel_rfl) h
theorem bd34 : Callable Try.prog 34 := ⟨by rw [Try.func34]; kernel_rfl, by rw [Try.func34]; show some _ ≠ some _; decide⟩
theorem kyk (p1 : TNote) (c0_0 : Bool) (c0_1 : Int) (c0_2 : Int) (c0_3 : List TQuestion) (w1k : List ByteArray) (w1v : List Int) (w2k : List ByteArray) (w2v : List (List Int)) (w3k : List ByteArray) (w3v : List Bool) (h : NR p1 ∧ OrOk w1k w1v c0_3) : kd8 (p1.Value, p1.Owner, p1.Rho, p1.Blind, c0_0, c0_1, c0_2, c0_3, w1k, w1v, w2k, w2v, w3k, w3v, ()) ((((commP (pk c0_0 c0_3 w1k w1v) p1).getD 0) : Int), (((commP (pk c0_0 c0_3 w1k w1v) p1).isSome) : Bool), (c0_0 : Bool), (c0_1 : Int), (c0_2 : Int), (c0_3 : List TQuestion), (w1k : List ByteArray), (w1v : List Int), (w2k : List ByteArray), (w2v : List (List Int)), (w3k : List ByteArray), (w3v : List Bool), ()) := by
 obtain ⟨h1, ho⟩ := h
 have hu : Us (noteL p1) := by
  intro x hx
  simp only [noteL, List.mem_cons, List.not_mem_nil, or_false] at hx
  rcases hx with rfl | rfl | rfl | rfl
  ·exact h1.v
  ·exact h1.o
  ·exact h1.r
  ·exact h1.b
 refine k11y ?_
 simp only [k13o]
 unfold commP
 refine ⟨fun e => ?_, fun e => ⟨⟨by decide, hu, by simp [noteL], ho⟩, ?_⟩⟩
 ·have e : noteV p1 = false := by simpa using e
  simp [e]
 ·have e : noteV p1 = true := by simpa using e
  simp [e]
def kej : Con TB.den := k1t.fnR (fun x => (fun (p1 : TNote) (c0_0 : Bool) (c0_1 : Int) (c0_2 : Int) (c0_3 : List TQuestion) (w1k : List ByteArray) (w1v : List Int) (w2k : List ByteArray) (w2v : List (List Int)) (w3k : List ByteArray) (w3v : List Bool) => NR p1 ∧ OrOk w1k w1v c0_3) (TNote.mk x.1 x.2.1 x.2.2.1 x.2.2.2.1) x.2.2.2.2.1 x.2.2.2.2.2.1 x.2.2.2.2.2.2.1 x.2.2.2.2.2.2.2.1 x.2.2.2.2.2.2.2.2.1 x.2.2.2.2.2.2.2.2.2.1 x.2.2.2.2.2.2.2.2.2.2.1 x.2.2.2.2.2.2.2.2.2.2.2.1 x.2.2.2.2.2.2.2.2.2.2.2.2.1 x.2.2.2.2.2.2.2.2.2.2.2.2.2.1) fun x => ((fun (p1 : TNote) (c0_0 : Bool) (c0_1 : Int) (c0_2 : Int) (c0_3 : List TQuestion) (w1k : List ByteArray) (w1v : List Int) (w2k : List ByteArray) (w2v : List (List Int)) (w3k : List ByteArray) (w3v : List Bool) => (((commP (pk c0_0 c0_3 w1k w1v) p1).getD 0) : Int)) (TNote.mk x.1 x.2.1 x.2.2.1 x.2.2.2.1) x.2.2.2.2.1 x.2.2.2.2.2.1 x.2.2.2.2.2.2.1 x.2.2.2.2.2.2.2.1 x.2.2.2.2.2.2.2.2.1 x.2.2.2.2.2.2.2.2.2.1 x.2.2.2.2.2.2.2.2.2.2.1 x.2.2.2.2.2.2.2.2.2.2.2.1 x.2.2.2.2.2.2.2.2.2.2.2.2.1 x.2.2.2.2.2.2.2.2.2.2.2.2.2.1, (fun (p1 : TNote) (c0_0 : Bool) (c0_1 : Int) (c0_2 : Int) (c0_3 : List TQuestion) (w1k : List ByteArray) (w1v : List Int) (w2k : List ByteArray) (w2v : List (List Int)) (w3k : List ByteArray) (w3v : List Bool) => (((commP (pk c0_0 c0_3 w1k w1v) p1).isSome) : Bool)) (TNote.mk x.1 x.2.1 x.2.2.1 x.2.2.2.1) x.2.2.2.2.1 x.2.2.2.2.2.1 x.2.2.2.2.2.2.1 x.2.2.2.2.2.2.2.1 x.2.2.2.2.2.2.2.2.1 x.2.2.2.2.2.2.2.2.2.1 x.2.2.2.2.2.2.2.2.2.2.1 x.2.2.2.2.2.2.2.2.2.2.2.1 x.2.2.2.2.2.2.2.2.2.2.2.2.1 x.2.2.2.2.2.2.2.2.2.2.2.2.2.1, (fun (p1 : TNote) (c0_0 : Bool) (c0_1 : Int) (c0_2 : Int) (c0_3 : List TQuestion) (w1k : List ByteArray) (w1v : List Int) (w2k : List ByteArray) (w2v : List (List Int)) (w3k : List ByteArray) (w3v : List Bool) => (c0_0 : Bool)) (TNote.mk x.1 x.2.1 x.2.2.1 x.2.2.2.1) x.2.2.2.2.1 x.2.2.2.2.2.1 x.2.2.2.2.2.2.1 x.2.2.2.2.2.2.2.1 x.2.2.2.2.2.2.2.2.1 x.2.2.2.2.2.2.2.2.2.1 x.2.2.2.2.2.2.2.2.2.2.1 x.2.2.2.2.2.2.2.2.2.2.2.1 x.2.2.2.2.2.2.2.2.2.2.2.2.1 x.2.2.2.2.2.2.2.2.2.2.2.2.2.1, (fun (p1 : TNote) (c0_0 : Bool) (c0_1 : Int) (c0_2 : Int) (c0_3 : List TQuestion) (w1k : List ByteArray) (w1v : List Int) (w2k : List ByteArray) (w2v : List (List Int)) (w3k : List ByteArray) (w3v : List Bool) => (c0_1 : Int)) (TNote.mk x.1 x.2.1 x.2.2.1 x.2.2.2.1) x.2.2.2.2.1 x.2.2.2.2.2.1 x.2.2.2.2.2.2.1 x.2.2.2.2.2.2.2.1 x.2.2.2.2.2.2.2.2.1 x.2.2.2.2.2.2.2.2.2.1 x.2.2.2.2.2.2.2.2.2.2.1 x.2.2.2.2.2.2.2.2.2.2.2.1 x.2.2.2.2.2.2.2.2.2.2.2.2.1 x.2.2.2.2.2.2.2.2.2.2.2.2.2.1, (fun (p1 : TNote) (c0_0 : Bool) (c0_1 : Int) (c0_2 : Int) (c0_3 : List TQuestion) (w1k : List ByteArray) (w1v : List Int) (w2k : List ByteArray) (w2v : List (List Int)) (w3k : List ByteArray) (w3v : List Bool) => (c0_2 : Int)) (TNote.mk x.1 x.2.1 x.2.2.1 x.2.2.2.1) x.2.2.2.2.1 x.2.2.2.2.2.1 x.2.2.2.2.2.2.1 x.2.2.2.2.2.2.2.1 x.2.2.2.2.2.2.2.2.1 x.2.2.2.2.2.2.2.2.2.1 x.2.2.2.2.2.2.2.2.2.2.1 x.2.2.2.2.2.2.2.2.2.2.2.1 x.2.2.2.2.2.2.2.2.2.2.2.2.1 x.2.2.2.2.2.2.2.2.2.2.2.2.2.1, (fun (p1 : TNote) (c0_0 : Bool) (c0_1 : Int) (c0_2 : Int) (c0_3 : List TQuestion) (w1k : List ByteArray) (w1v : List Int) (w2k : List ByteArray) (w2v : List (List Int)) (w3k : List ByteArray) (w3v : List Bool) => (c0_3 : List TQuestion)) (TNote.mk x.1 x.2.1 x.2.2.1 x.2.2.2.1) x.2.2.2.2.1 x.2.2.2.2.2.1 x.2.2.2.2.2.2.1 x.2.2.2.2.2.2.2.1 x.2.2.2.2.2.2.2.2.1 x.2.2.2.2.2.2.2.2.2.1 x.2.2.2.2.2.2.2.2.2.2.1 x.2.2.2.2.2.2.2.2.2.2.2.1 x.2.2.2.2.2.2.2.2.2.2.2.2.1 x.2.2.2.2.2.2.2.2.2.2.2.2.2.1, (fun (p1 : TNote) (c0_0 : Bool) (c0_1 : Int) (c0_2 : Int) (c0_3 : List TQuestion) (w1k : List ByteArray) (w1v : List Int) (w2k : List ByteArray) (w2v : List (List Int)) (w3k : List ByteArray) (w3v : List Bool) => (w1k : List ByteArray)) (TNote.mk x.1 x.2.1 x.2.2.1 x.2.2.2.1) x.2.2.2.2.1 x.2.2.2.2.2.1 x.2.2.2.2.2.2.1 x.2.2.2.2.2.2.2.1 x.2.2.2.2.2.2.2.2.1 x.2.2.2.2.2.2.2.2.2.1 x.2.2.2.2.2.2.2.2.2.2.1 x.2.2.2.2.2.2.2.2.2.2.2.1 x.2.2.2.2.2.2.2.2.2.2.2.2.1 x.2.2.2.2.2.2.2.2.2.2.2.2.2.1, (fun (p1 : TNote) (c0_0 : Bool) (c0_1 : Int) (c0_2 : Int) (c0_3 : List TQuestion) (w1k : List ByteArray) (w1v : List Int) (w2k : List ByteArray) (w2v : List (List Int)) (w3k : List ByteArray) (w3v : List Bool) => (w1v : List Int)) (TNote.mk x.1 x.2.1 x.2.2.1 x.2.2.2.1) x.2.2.2.2.1 x.2.2.2.2.2.1 x.2.2.2.2.2.2.1 x.2.2.2.2.2.2.2.1 x.2.2.2.2.2.2.2.2.1 x.2.2.2.2.2.2.2.2.2.1 x.2.2.2.2.2.2.2.2.2.2.1 x.2.2.2.2.2.2.2.2.2.2.2.1 x.2.2.2.2.2.2.2.2.2.2.2.2.1 x.2.2.2.2.2.2.2.2.2.2.2.2.2.1, (fun (p1 : TNote) (c0_0 : Bool) (c0_1 : Int) (c0_2 : Int) (c0_3 : List TQuestion) (w1k : List ByteArray) (w1v : List Int) (w2k : List ByteArray) (w2v : List (List Int)) (w3k : List ByteArray) (w3v : List Bool) => (w2k : List ByteArray)) (TNote.mk x.1 x.2.1 x.2.2.1 x.2.2.2.1) x.2.2.2.2.1 x.2.2.2.2.2.1 x.2.2.2.2.2.2.1 x.2.2.2.2.2.2.2.1 x.2.2.2.2.2.2.2.2.1 x.2.2.2.2.2.2.2.2.2.1 x.2.2.2.2.2.2.2.2.2.2.1 x.2.2.2.2.2.2.2.2.2.2.2.1 x.2.2.2.2.2.2.2.2.2.2.2.2.1 x.2.2.2.2.2.2.2.2.2.2.2.2.2.1, (fun (p1 : TNote) (c0_0 : Bool) (c0_1 : Int) (c0_2 : Int) (c0_3 : List TQuestion) (w1k : List ByteArray) (w1v : List Int) (w2k : List ByteArray) (w2v : List (List Int)) (w3k : List ByteArray) (w3v : List Bool) => (w2v : List (List Int))) (TNote.mk x.1 x.2.1 x.2.2.1 x.2.2.2.1) x.2.2.2.2.1 x.2.2.2.2.2.1 x.2.2.2.2.2.2.1 x.2.2.2.2.2.2.2.1 x.2.2.2.2.2.2.2.2.1 x.2.2.2.2.2.2.2.2.2.1 x.2.2.2.2.2.2.2.2.2.2.1 x.2.2.2.2.2.2.2.2.2.2.2.1 x.2.2.2.2.2.2.2.2.2.2.2.2.1 x.2.2.2.2.2.2.2.2.2.2.2.2.2.1, (fun (p1 : TNote) (c0_0 : Bool) (c0_1 : Int) (c0_2 : Int) (c0_3 : List TQuestion) (w1k : List ByteArray) (w1v : List Int) (w2k : List ByteArray) (w2v : List (List Int)) (w3k : List ByteArray) (w3v : List Bool) => (w3k : List ByteArray)) (TNote.mk x.1 x.2.1 x.2.2.1 x.2.2.2.1) x.2.2.2.2.1 x.2.2.2.2.2.1 x.2.2.2.2.2.2.1 x.2.2.2.2.2.2.2.1 x.2.2.2.2.2.2.2.2.1 x.2.2.2.2.2.2.2.2.2.1 x.2.2.2.2.2.2.2.2.2.2.1 x.2.2.2.2.2.2.2.2.2.2.2.1 x.2.2.2.2.2.2.2.2.2.2.2.2.1 x.2.2.2.2.2.2.2.2.2.2.2.2.2.1, (fun (p1 : TNote) (c0_0 : Bool) (c0_1 : Int) (c0_2 : Int) (c0_3 : List TQuestion) (w1k : List ByteArray) (w1v : List Int) (w2k : List ByteArray) (w2v : List (List Int)) (w3k : List ByteArray) (w3v : List Bool) => (w3v : List Bool)) (TNote.mk x.1 x.2.1 x.2.2.1 x.2.2.2.1) x.2.2.2.2.1 x.2.2.2.2.2.1 x.2.2.2.2.2.2.1 x.2.2.2.2.2.2.2.1 x.2.2.2.2.2.2.2.2.1 x.2.2.2.2.2.2.2.2.2.1 x.2.2.2.2.2.2.2.2.2.2.1 x.2.2.2.2.2.2.2.2.2.2.2.1 x.2.2.2.2.2.2.2.2.2.2.2.2.1 x.2.2.2.2.2.2.2.2.2.2.2.2.2.1, ())
theorem kox : kej.Ok Try.prog TB := Con.ok_fn k1t bd34 fun x h => k11g (kyk (TNote.mk x.1 x.2.1 x.2.2.1 x.2.2.2.1) x.2.2.2.2.1 x.2.2.2.2.2.1 x.2.2.2.2.2.2.1 x.2.2.2.2.2.2.2.1 x.2.2.2.2.2.2.2.2.1 x.2.2.2.2.2.2.2.2.2.1 x.2.2.2.2.2.2.2.2.2.2.1 x.2.2.2.2.2.2.2.2.2.2.2.1 x.2.2.2.2.2.2.2.2.2.2.2.2.1 x.2.2.2.2.2.2.2.2.2.2.2.2.2.1 h)
def k1f : Con TB.den := Con.mk0 10 [.agg [.d (.sl (.st 0)), .d (.sl (.st 1)), .d (.int .u64)]] [] (.one (.one (.d (.int .u64)))) []
abbrev kpk := HL TB.den (hsT k1f.ins (hsOs k1f.pre))
abbrev k3a := HL TB.den (hsV k1f.res (hsOs k1f.post))
def k3v : Cx TB := ⟨inf, [], [], 4, []⟩
def k71 : Code := Try.f10.body.getD .skip
def kba : List ResultVar := Try.f10.results.toList
def k13h (o : k3a) := qS TB k3v 20 0 (cB (cB (cB k71))) .no (retTQ TB k3v k1f kba o)
def k5i : Tm := ⟨[], [], [3, 7, 8, 9], [.one (.d (.int .u64)), .one (.d (.sl (.st 0))), .one (.d (.int .i64)), .one (.d (.int .i64))], 1⟩
def k12a (o : k3a) (nx1 : NX TB k5i) := qM TB 0 k5i nx1 (blockT TB 0 (k13h o))
def k88 (o : k3a) (nx1 : NX TB k5i) (i : HL TB.den k5i.hs) : Prop := WP TB k3v 20 0 (cA (cA (cB (cA (cB (cB k71)))))) .no (k5i.fill TB i) (k12a o nx1)
def k153 (o : k3a) : An TB := .lp [] k5i (k88 o) fun nx1 => .no
def k135 (o : k3a) : An TB := .nd [] .no [] (.nd [] (.nd [] .no [] (k153 o)) [] .no)
def koc (o : k3a) : An TB := .nd [] .no [] (k135 o)
def kdp (x : kpk) (o : k3a) : Prop := WPh TB k3v 20 0 k71 (koc o) (k1f.st TB x) (retTQ TB k3v k1f kba o)
theorem k11r (o : k3a) : OblH TB k3v 20 0 k71 (koc o) (retTQ TB k3v k1f kba o) :=
 OblH.ofC (X := ((∀ nx i, (k88 o) nx i = (k88 o) nx i) ∧ (∀ nx1 : NX TB k5i, True) ∧ True)) (by kernel_rfl) ⟨fun _ _ => rfl, fun _ => trivial, trivial⟩
theorem k11f {x : kpk} {o : k3a} (h : kdp x o) : k1f.Snd Try.prog x o :=
 Con.soundH (c := k1f) (C := k3v) TBok ⟨inf_ok, all_nil, all_nil⟩ mix Try.func10 (show Try.f10.body = some k71 by kernel_rfl) (show Try.f10.ntmps = 20 by kernel_rfl) (show Try.f10.results.toList = kba by kernel_rfl) rfl h (k11r o)
theorem k14w {p0 : TWitness} {r0 : Int} (h :
(Md.Loop ((0 : Int), p0.Ins, ((p0.Ins.length : Int) : Int), (0 : Int), ()) (k88 (r0, ())))) : kdp (p0.Ins, p0.Outs, p0.Secret, ()) (r0, ()) := WPh.of_eq (by kernel_rfl) h
def kof (r0 : Int) (k1 : Int → Int → Prop) (s7 : List TSpent) (s8 : Int) (s3 : Int) (s9 : Int) : Prop :=
(decide (s9 < s8) = true →
(0 ≤ s9) ∧ s9 < (s7.length : Int) ∧ let v1 : Int := IntKind.u64.wrap (s3 + ((ix s7 s9).Note_Value))
 k1 v1 (IntKind.i64.wrap (s9 + 1) : Int)) ∧
(decide (s9 < s8) = false →
 s3 = r0)
theorem k11l {r0 : Int} {s7 : List TSpent} {s8 : Int} {s3 : Int} {s9 : Int} (inv : Int → Int → Prop) (μ : Int → Int → Nat) (h0 : inv s3 s9) (hs : ∀ (s3 : Int) (s9 : Int), inv s3 s9 → kof r0 (fun s3q s9q => inv s3q s9q ∧ μ s3q s9q < μ s3 s9) s7 s8 s3 s9) : Md.Loop (s3, s7, s8, s9, ()) (k88 (r0, ())) :=
 ⟨⟨fun s : Int × (List TSpent) × Int × Int × Unit => (s.2.1 = s7 ∧ s.2.2.1 = s8) ∧ inv s.1 s.2.2.2.1, fun s : Int × (List TSpent) × Int × Int × Unit => μ s.1 s.2.2.2.1, ⟨⟨rfl, rfl⟩, h0⟩, fun (s3p, s7p, s8p, s9p, ()) ⟨⟨eq0, eq1⟩, hi⟩ => by
  have eq0 : s7p = s7 := eq0; subst s7p; have eq1 : s8p = s8 := eq1; subst s8p; exact mpr_of (by kernel_rfl) ((congrArg (fun k => kof r0 k s7 s8 s3p s9p) (lpk2 (⟨rfl, rfl⟩ : s7 = s7 ∧ s8 = s8) inv (fun s3q s9q => μ s3q s9q < μ s3p s9p))).mpr (hs s3p s9p hi))⟩⟩
theorem bd10 : Callable Try.prog 10 := ⟨by rw [Try.func10]; kernel_rfl, by rw [Try.func10]; show some _ ≠ some _; decide⟩
theorem ky4 (p0 : TWitness) (h : p0.Ins.length ≤ 9223372036854775807) : kdp (p0.Ins, p0.Outs, p0.Secret, ()) (((inS p0.Ins) : Int), ()) := by
 refine k14w (k11l (fun s i => FoldI (fun s x => (s + x.Note_Value) % 18446744073709551616) 0 p0.Ins i s) (fun s i => (p0.Ins.length - i).toNat) FoldI.start ?_)
 intro s i hi
 refine ⟨fun hh => ?_, fun hh => hi.done (of_decide_eq_false hh)⟩
 have hh := of_decide_eq_true hh
 exact ⟨hi.1, hh, hi.next hh (by omega) (by rw [u64w])⟩
def kel : Con TB.den := k1f.fnR (fun x => (fun (p0 : TWitness) => p0.Ins.length ≤ 9223372036854775807) (TWitness.mk x.1 x.2.1 x.2.2.1)) fun x => ((fun (p0 : TWitness) => ((inS p0.Ins) : Int)) (TWitness.mk x.1 x.2.1 x.2.2.1), ())
theorem kon : kel.Ok Try.prog TB := Con.ok_fn k1f bd10 fun x h => k11f (ky4 (TWitness.mk x.1 x.2.1 x.2.2.1) h)
def k15 : Con TB.den := Con.mk0 12 [.agg [.d (.sl (.st 0)), .d (.sl (.st 1)), .d (.int .u64)]] [] (.one (.one (.d (.int .u64)))) []
abbrev koq := HL TB.den (hsT k15.ins (hsOs k15.pre))
abbrev k2v := HL TB.den (hsV k15.res (hsOs k15.post))
def k37 : Cx TB := ⟨inf, [], [], 4, []⟩
def k6p : Code := Try.f12.body.getD .skip
def kag : List ResultVar := Try.f12.results.toList
def k11q (o : k2v) := qS TB k37 19 0 (cB (cB (cB k6p))) .no (retTQ TB k37 k15 kag o)
def k4r : Tm := ⟨[], [], [3, 7, 8, 9], [.one (.d (.int .u64)), .one (.d (.sl (.st 1))), .one (.d (.int .i64)), .one (.d (.int .i64))], 1⟩
def k111 (o : k2v) (nx1 : NX TB k4r) := qM TB 0 k4r nx1 (blockT TB 0 (k11q o))
def k7j (o : k2v) (nx1 : NX TB k4r) (i : HL TB.den k4r.hs) : Prop := WP TB k37 19 0 (cA (cA (cB (cA (cB (cB k6p)))))) .no (k4r.fill TB i) (k111 o nx1)
def k118 (o : k2v) : An TB := .lp [] k4r (k7j o) fun nx1 => .no
def k11u (o : k2v) : An TB := .nd [] .no [] (.nd [] (.nd [] .no [] (k118 o)) [] .no)
def klp (o : k2v) : An TB := .nd [] .no [] (k11u o)
def kc0 (x : koq) (o : k2v) : Prop := WPh TB k37 19 0 k6p (klp o) (k15.st TB x) (retTQ TB k37 k15 kag o)
theorem ky6 (o : k2v) : OblH TB k37 19 0 k6p (klp o) (retTQ TB k37 k15 kag o) :=
 OblH.ofC (X := ((∀ nx i, (k7j o) nx i = (k7j o) nx i) ∧ (∀ nx1 : NX TB k4r, True) ∧ True)) (by kernel_rfl) ⟨fun _ _ => rfl, fun _ => trivial, trivial⟩
theorem kxv {x : koq} {o : k2v} (h : kc0 x o) : k15.Snd Try.prog x o :=
 Con.soundH (c := k15) (C := k37) TBok ⟨inf_ok, all_nil, all_nil⟩ mix Try.func12 (show Try.f12.body = some k6p by kernel_rfl) (show Try.f12.ntmps = 19 by kernel_rfl) (show Try.f12.results.toList = kag by kernel_rfl) rfl h (ky6 o)
theorem k10s {p0 : TWitness} {r0 : Int} (h :
(Md.Loop ((0 : Int), p0.Outs, ((p0.Outs.length : Int) : Int), (0 : Int), ()) (k7j (r0, ())))) : kc0 (p0.Ins, p0.Outs, p0.Secret, ()) (r0, ()) := WPh.of_eq (by kernel_rfl) h
def klg (r0 : Int) (k1 : Int → Int → Prop) (s7 : List TNote) (s8 : Int) (s3 : Int) (s9 : Int) : Prop :=
(decide (s9 < s8) = true →
(0 ≤ s9) ∧ s9 < (s7.length : Int) ∧ let v1 : Int := IntKind.u64.wrap (s3 + ((ix s7 s9).Value))
 k1 v1 (IntKind.i64.wrap (s9 + 1) : Int)) ∧
(decide (s9 < s8) = false →
 s3 = r0)
theorem kyo {r0 : Int} {s7 : List TNote} {s8 : Int} {s3 : Int} {s9 : Int} (inv : Int → Int → Prop) (μ : Int → Int → Nat) (h0 : inv s3 s9) (hs : ∀ (s3 : Int) (s9 : Int), inv s3 s9 → klg r0 (fun s3q s9q => inv s3q s9q ∧ μ s3q s9q < μ s3 s9) s7 s8 s3 s9) : Md.Loop (s3, s7, s8, s9, ()) (k7j (r0, ())) :=
 ⟨⟨fun s : Int × (List TNote) × Int × Int × Unit => (s.2.1 = s7 ∧ s.2.2.1 = s8) ∧ inv s.1 s.2.2.2.1, fun s : Int × (List TNote) × Int × Int × Unit => μ s.1 s.2.2.2.1, ⟨⟨rfl, rfl⟩, h0⟩, fun (s3p, s7p, s8p, s9p, ()) ⟨⟨eq0, eq1⟩, hi⟩ => by
  have eq0 : s7p = s7 := eq0; subst s7p; have eq1 : s8p = s8 := eq1; subst s8p; exact mpr_of (by kernel_rfl) ((congrArg (fun k => klg r0 k s7 s8 s3p s9p) (lpk2 (⟨rfl, rfl⟩ : s7 = s7 ∧ s8 = s8) inv (fun s3q s9q => μ s3q s9q < μ s3p s9p))).mpr (hs s3p s9p hi))⟩⟩
theorem bd12 : Callable Try.prog 12 := ⟨by rw [Try.func12]; kernel_rfl, by rw [Try.func12]; show some _ ≠ some _; decide⟩
theorem kxc (p0 : TWitness) (h : p0.Outs.length ≤ 9223372036854775807) : kc0 (p0.Ins, p0.Outs, p0.Secret, ()) (((outS p0.Outs) : Int), ()) := by
 refine k10s (kyo (fun s i => FoldI (fun s x => (s + x.Value) % 18446744073709551616) 0 p0.Outs i s) (fun s i => (p0.Outs.length - i).toNat) FoldI.start ?_)
 intro s i hi
 refine ⟨fun hh => ?_, fun hh => hi.done (of_decide_eq_false hh)⟩
 have hh := of_decide_eq_true hh
 exact ⟨hi.1, hh, hi.next hh (by omega) (by rw [u64w])⟩
def kdg : Con TB.den := k15.fnR (fun x => (fun (p0 : TWitness) => p0.Outs.length ≤ 9223372036854775807) (TWitness.mk x.1 x.2.1 x.2.2.1)) fun x => ((fun (p0 : TWitness) => ((outS p0.Outs) : Int)) (TWitness.mk x.1 x.2.1 x.2.2.1), ())
theorem kll : kdg.Ok Try.prog TB := Con.ok_fn k15 bd12 fun x h => kxv (kxc (TWitness.mk x.1 x.2.1 x.2.2.1) h)
def kx : Con TB.den := Con.mk0 68 [.one (.d (.sl (.int .u64)))] [] (.one (.one (.d (.bool)))) []
abbrev klh := HL TB.den (hsT kx.ins (hsOs kx.pre))
abbrev k39 := HL TB.den (hsV kx.res (hsOs kx.post))
def k2y : Cx TB := ⟨inf, [], [], 4, []⟩
def k6d : Code := Try.f68.body.getD .skip
def k9e : List ResultVar := Try.f68.results.toList
def kxd (o : k39) := qS TB k2y 14 0 (cB (cB k6d)) .no (retTQ TB k2y kx k9e o)
def k42 : Tm := ⟨[], [], [5, 6, 7], [.one (.d (.sl (.int .u64))), .one (.d (.int .i64)), .one (.d (.int .i64))], 0⟩
def kyv (o : k39) (nx1 : NX TB k42) := qM TB 0 k42 nx1 (blockT TB 0 (kxd o))
def k73 (o : k39) (nx1 : NX TB k42) (i : HL TB.den k42.hs) : Prop := WP TB k2y 14 0 (cA (cA (cB (cA (cB k6d))))) .no (k42.fill TB i) (kyv o nx1)
def kxl (o : k39) : An TB := .lp [] k42 (k73 o) fun nx1 => .no
def kkq (o : k39) : An TB := .nd [] .no [] (.nd [] (.nd [] .no [] (kxl o)) [] .no)
def kbl (x : klh) (o : k39) : Prop := WPh TB k2y 14 0 k6d (kkq o) (kx.st TB x) (retTQ TB k2y kx k9e o)
theorem kwc (o : k39) : OblH TB k2y 14 0 k6d (kkq o) (retTQ TB k2y kx k9e o) :=
 OblH.ofC (X := ((∀ nx i, (k73 o) nx i = (k73 o) nx i) ∧ (∀ nx1 : NX TB k42, True) ∧ True)) (by kernel_rfl) ⟨fun _ _ => rfl, fun _ => trivial, trivial⟩
theorem kwi {x : klh} {o : k39} (h : kbl x o) : kx.Snd Try.prog x o :=
 Con.soundH (c := kx) (C := k2y) TBok ⟨inf_ok, all_nil, all_nil⟩ mix Try.func68 (show Try.f68.body = some k6d by kernel_rfl) (show Try.f68.ntmps = 14 by kernel_rfl) (show Try.f68.results.toList = k9e by kernel_rfl) rfl h (kwc o)
theorem kyg {p0 : List Int} {r0 : Bool} (h :
(Md.Loop (p0, ((p0.length : Int) : Int), (0 : Int), ()) (k73 (r0, ())))) : kbl (p0, ()) (r0, ()) := WPh.of_eq (by kernel_rfl) h
def kkd (r0 : Bool) (k1 : Int → Prop) (s5 : List Int) (s6 : Int) (s7 : Int) : Prop :=
(decide (s7 < s6) = true →
(0 ≤ s7) ∧ s7 < (s5.length : Int) ∧ let v1 : Bool := decide (18446744069414584321 ≤ (ix s5 s7))
(v1 = true →
 false = r0) ∧
(v1 = false →
 k1 (IntKind.i64.wrap (s7 + 1) : Int))) ∧
(decide (s7 < s6) = false →
 true = r0)
theorem kw1 {r0 : Bool} {s5 : List Int} {s6 : Int} {s7 : Int} (inv : Int → Prop) (μ : Int → Nat) (h0 : inv s7) (hs : ∀ (s7 : Int), inv s7 → kkd r0 (fun s7q => inv s7q ∧ μ s7q < μ s7) s5 s6 s7) : Md.Loop (s5, s6, s7, ()) (k73 (r0, ())) :=
 ⟨⟨fun s : (List Int) × Int × Int × Unit => (s.1 = s5 ∧ s.2.1 = s6) ∧ inv s.2.2.1, fun s : (List Int) × Int × Int × Unit => μ s.2.2.1, ⟨⟨rfl, rfl⟩, h0⟩, fun (s5p, s6p, s7p, ()) ⟨⟨eq0, eq1⟩, hi⟩ => by
  have eq0 : s5p = s5 := eq0; subst s5p; have eq1 : s6p = s6 := eq1; subst s6p; exact mpr_of (by kernel_rfl) ((congrArg (fun k => kkd r0 k s5 s6 s7p) (lpk1 (⟨rfl, rfl⟩ : s5 = s5 ∧ s6 = s6) inv (fun s7q => μ s7q < μ s7p))).mpr (hs s7p hi))⟩⟩
theorem bd68 : Callable Try.prog 68 := ⟨by rw [Try.func68]; kernel_rfl, by rw [Try.func68]; show some _ ≠ some _; decide⟩
theorem ku8 (p0 : List Int) (h : p0.length ≤ 9223372036854775807) : kbl (p0, ()) (((allB p0) : Bool), ()) := by
 refine kyg (kw1 (AllI (fun x => decide (x < 18446744069414584321)) p0) (fun i => (p0.length - i).toNat) AllI.start ?_)
 intro i hi
 refine ⟨fun hh => ?_, fun hh => (hi.done (of_decide_eq_false hh)).symm⟩
 have hh := of_decide_eq_true hh
 exact ⟨hi.1, hh, fun e => (hi.bad hh (by simpa using e)).symm, fun e => hi.next hh (by omega) (by simpa using e)⟩
def k8m : Con TB.den := kx.fnR (fun x => (fun (p0 : List Int) => p0.length ≤ 9223372036854775807) x.1) fun x => ((fun (p0 : List Int) => ((allB p0) : Bool)) x.1, ())
theorem kdq : k8m.Ok Try.prog TB := Con.ok_fn kx bd68 fun x h => kwi (ku8 x.1 h)
def k1n : Con TB.den := Con.mk0 70 [.one (.d (.sl (.st 1)))] [] (.one (.one (.d (.bool)))) []
abbrev kr3 := HL TB.den (hsT k1n.ins (hsOs k1n.pre))
abbrev k5n := HL TB.den (hsV k1n.res (hsOs k1n.post))
def k4q : Cx TB := ⟨inf, [kgv], [], 4, []⟩
def k7m : Code := Try.f70.body.getD .skip
def kbt : List ResultVar := Try.f70.results.toList
def k15u (o : k5n) := qS TB k4q 15 0 (cB (cB k7m)) .no (retTQ TB k4q k1n kbt o)
def k5x : Tm := ⟨[], [], [5, 6, 7], [.one (.d (.sl (.st 1))), .one (.d (.int .i64)), .one (.d (.int .i64))], 0⟩
def k16n (o : k5n) (nx1 : NX TB k5x) := qM TB 0 k5x nx1 (blockT TB 0 (k15u o))
def k9c (o : k5n) (nx1 : NX TB k5x) (i : HL TB.den k5x.hs) : Prop := WP TB k4q 15 0 (cA (cA (cB (cA (cB k7m))))) .no (k5x.fill TB i) (k16n o nx1)
def k15y (o : k5n) : An TB := .lp [] k5x (k9c o) fun nx1 => .no
def kqh (o : k5n) : An TB := .nd [] .no [] (.nd [] (.nd [] .no [] (k15y o)) [] .no)
def ker (x : kr3) (o : k5n) : Prop := WPh TB k4q 15 0 k7m (kqh o) (k1n.st TB x) (retTQ TB k4q k1n kbt o)
theorem k150 (o : k5n) : OblH TB k4q 15 0 k7m (kqh o) (retTQ TB k4q k1n kbt o) :=
 OblH.ofC (X := ((∀ nx i, (k9c o) nx i = (k9c o) nx i) ∧ (∀ nx1 : NX TB k5x, True) ∧ True)) (by kernel_rfl) ⟨fun _ _ => rfl, fun _ => trivial, trivial⟩
theorem k14u {x : kr3} {o : k5n} (h : ker x o) : k1n.Snd Try.prog x o :=
 Con.soundH (c := k1n) (C := k4q) TBok ⟨inf_ok, (all_cons kp8 all_nil), all_nil⟩ mix Try.func70 (show Try.f70.body = some k7m by kernel_rfl) (show Try.f70.ntmps = 15 by kernel_rfl) (show Try.f70.results.toList = kbt by kernel_rfl) rfl h (k150 o)
theorem k15v {p0 : List TNote} {r0 : Bool} (h :
(Md.Loop (p0, ((p0.length : Int) : Int), (0 : Int), ()) (k9c (r0, ())))) : ker (p0, ()) (r0, ()) := WPh.of_eq (by kernel_rfl) h
def kq7 (r0 : Bool) (k1 : Int → Prop) (s5 : List TNote) (s6 : Int) (s7 : Int) : Prop :=
(decide (s7 < s6) = true →
(0 ≤ s7) ∧ s7 < (s5.length : Int) ∧ ((!(noteV (ix s5 s7))) = true →
 false = r0) ∧
((!(noteV (ix s5 s7))) = false →
 k1 (IntKind.i64.wrap (s7 + 1) : Int))) ∧
(decide (s7 < s6) = false →
 true = r0)
theorem k14l {r0 : Bool} {s5 : List TNote} {s6 : Int} {s7 : Int} (inv : Int → Prop) (μ : Int → Nat) (h0 : inv s7) (hs : ∀ (s7 : Int), inv s7 → kq7 r0 (fun s7q => inv s7q ∧ μ s7q < μ s7) s5 s6 s7) : Md.Loop (s5, s6, s7, ()) (k9c (r0, ())) :=
 ⟨⟨fun s : (List TNote) × Int × Int × Unit => (s.1 = s5 ∧ s.2.1 = s6) ∧ inv s.2.2.1, fun s : (List TNote) × Int × Int × Unit => μ s.2.2.1, ⟨⟨rfl, rfl⟩, h0⟩, fun (s5p, s6p, s7p, ()) ⟨⟨eq0, eq1⟩, hi⟩ => by
  have eq0 : s5p = s5 := eq0; subst s5p; have eq1 : s6p = s6 := eq1; subst s6p; exact mpr_of (by kernel_rfl) ((congrArg (fun k => kq7 r0 k s5 s6 s7p) (lpk1 (⟨rfl, rfl⟩ : s5 = s5 ∧ s6 = s6) inv (fun s7q => μ s7q < μ s7p))).mpr (hs s7p hi))⟩⟩
theorem bd70 : Callable Try.prog 70 := ⟨by rw [Try.func70]; kernel_rfl, by rw [Try.func70]; show some _ ≠ some _; decide⟩
theorem k11h (p0 : List TNote) (h : p0.length ≤ 9223372036854775807) : ker (p0, ()) (((p0.all noteV) : Bool), ()) := by
 refine k15v (k14l (AllI noteV p0) (fun i => (p0.length - i).toNat) AllI.start ?_)
 intro i hi
 refine ⟨fun hh => ?_, fun hh => (hi.done (of_decide_eq_false hh)).symm⟩
 have hh := of_decide_eq_true hh
 exact ⟨hi.1, hh, fun e => (hi.bad hh (by simpa using e)).symm, fun e => hi.next hh (by omega) (by simpa using e)⟩
def kfr : Con TB.den := k1n.fnR (fun x => (fun (p0 : List TNote) => p0.length ≤ 9223372036854775807) x.1) fun x => ((fun (p0 : List TNote) => ((p0.all noteV) : Bool)) x.1, ())
theorem kq2 : kfr.Ok Try.prog TB := Con.ok_fn k1n bd70 fun x h => k14u (k11h x.1 h)
def kz : Con TB.den := Con.mk0 69 [.agg [.d (.int .u64), .d (.int .u64), .d (.int .u64), .d (.int .u64), .d (.int .u64), .d (.int .i64), .d (.int .i64), .d (.sl (.int .u64)), .d (.bool)]] [] (.one (.one (.d (.bool)))) []
abbrev kk5 := HL TB.den (hsT kz.ins (hsOs kz.pre))
abbrev k9j := HL TB.den (hsV kz.res (hsOs kz.post))
def k6u : Cx TB := ⟨inf, [kgv, k8m], [], 4, []⟩
def kal : Code := Try.f69.body.getD .skip
def kc5 : List ResultVar := Try.f69.results.toList
def kjo (o : k9j) : An TB := .no
def kah (x : kk5) (o : k9j) : Prop := WPh TB k6u 43 0 kal (kjo o) (kz.st TB x) (retTQ TB k6u kz kc5 o)
theorem kuo (o : k9j) : OblH TB k6u 43 0 kal (kjo o) (retTQ TB k6u kz kc5 o) :=
 OblH.ofC (X := True) (by kernel_rfl) trivial
theorem kub {x : kk5} {o : k9j} (h : kah x o) : kz.Snd Try.prog x o :=
 Con.soundH (c := kz) (C := k6u) TBok ⟨inf_ok, (all_cons kp8 (all_cons kdq all_nil)), all_nil⟩ mix Try.func69 (show Try.f69.body = some kal by kernel_rfl) (show Try.f69.ntmps = 43 by kernel_rfl) (show Try.f69.results.toList = kc5 by kernel_rfl) rfl h (kuo o)
theorem kwj {p0 : TSpent} {r0 : Bool} (h :
(let r1 : Bool := (noteV (TNote.mk p0.Note_Value p0.Note_Owner p0.Note_Rho p0.Note_Blind))
(r1 = true →
([p0.Key].length ≤ 9223372036854775807) ∧ ((allB [p0.Key]) = true →
(decide (0 ≤ p0.Number) = true →
(decide (p0.Number < 4) = true →
(decide (0 ≤ p0.Position) = true →
(decide (p0.Position ≤ 4095) = true →
(decide ((p0.Path.length : Int) ≤ 12) = true →
(p0.Path.length ≤ 9223372036854775807) ∧ (allB p0.Path) = r0) ∧
(decide ((p0.Path.length : Int) ≤ 12) = false →
 false = r0)) ∧
(decide (p0.Position ≤ 4095) = false →
 false = r0)) ∧
(decide (0 ≤ p0.Position) = false →
 false = r0)) ∧
(decide (p0.Number < 4) = false →
 false = r0)) ∧
(decide (0 ≤ p0.Number) = false →
 false = r0)) ∧
((allB [p0.Key]) = false →
 false = r0)) ∧
(r1 = false →
 false = r0))) : kah (p0.Note_Value, p0.Note_Owner, p0.Note_Rho, p0.Note_Blind, p0.Key, p0.Number, p0.Position, p0.Path, p0.Dummy, ()) (r0, ()) := WPh.of_eq (by kernel_rfl) h
theorem bd69 : Callable Try.prog 69 := ⟨by rw [Try.func69]; kernel_rfl, by rw [Try.func69]; show some _ ≠ some _; decide⟩
theorem ksq (p0 : TSpent) (h : p0.Path.length ≤ 9223372036854775807) : kah (p0.Note_Value, p0.Note_Owner, p0.Note_Rho, p0.Note_Blind, p0.Key, p0.Number, p0.Position, p0.Path, p0.Dummy, ()) (((spendV p0) : Bool), ()) := by
 have e1 : allB [p0.Key] = decide (p0.Key < 18446744069414584321) := by simp [allB]
 have e2 : (decide ((p0.Path.length : Int) ≤ 12)) = decide (p0.Path.length ≤ 12) := by congr 1; apply propext; omega
 refine kwj ?_
 simp only [e1, e2]
 unfold spendV noteOf
 have : [p0.Key].length ≤ 9223372036854775807 := by simp
 grind
def kbg : Con TB.den := kz.fnR (fun x => (fun (p0 : TSpent) => p0.Path.length ≤ 9223372036854775807) (TSpent.mk x.1 x.2.1 x.2.2.1 x.2.2.2.1 x.2.2.2.2.1 x.2.2.2.2.2.1 x.2.2.2.2.2.2.1 x.2.2.2.2.2.2.2.1 x.2.2.2.2.2.2.2.2.1)) fun x => ((fun (p0 : TSpent) => ((spendV p0) : Bool)) (TSpent.mk x.1 x.2.1 x.2.2.1 x.2.2.2.1 x.2.2.2.2.1 x.2.2.2.2.2.1 x.2.2.2.2.2.2.1 x.2.2.2.2.2.2.2.1 x.2.2.2.2.2.2.2.2.1), ())
theorem kjp : kbg.Ok Try.prog TB := Con.ok_fn kz bd69 fun x h => kub (ksq (TSpent.mk x.1 x.2.1 x.2.2.1 x.2.2.2.1 x.2.2.2.2.1 x.2.2.2.2.2.1 x.2.2.2.2.2.2.1 x.2.2.2.2.2.2.2.1 x.2.2.2.2.2.2.2.2.1) h)
def k1m : Con TB.den := Con.mk0 31 [.agg [.d (.int .i64), .d (.int .u64), .d (.sl (.int .u64)), .d (.sl (.int .u64)), .d (.sl (.int .u64)), .d (.int .u64), .d (.int .u64), .d (.int .u64), .d (.int .u64), .d (.int .u64)], .agg [.d (.sl (.st 0)), .d (.sl (.st 1)), .d (.int .u64)]] [] (.one (.one (.d (.bool)))) []
abbrev ksf := HL TB.den (hsT k1m.ins (hsOs k1m.pre))
abbrev k32 := HL TB.den (hsV k1m.res (hsOs k1m.post))
def k4p : Cx TB := ⟨inf, [k8m, kbg, kfr], [], 4, []⟩
def k7n : Code := Try.f31.body.getD .skip
def kbs : List ResultVar := Try.f31.results.toList
def k169 (o : k32) := qS TB k4p 122 0 (cB (cB (cB (cB (cB (cB (cB k7n))))))) .no (retTQ TB k4p k1m kbs o)
def k5w : Tm := ⟨[0, 1], [.cells [.d (.int .i64), .d (.int .u64), .d (.sl (.int .u64)), .d (.sl (.int .u64)), .d (.sl (.int .u64)), .d (.int .u64), .d (.int .u64), .d (.int .u64), .d (.int .u64), .d (.int .u64)], .cells [.d (.sl (.st 0)), .d (.sl (.st 1)), .d (.int .u64)]], [2, 3, 93, 94, 95], [.one (.ptr 0 0), .one (.ptr 1 0), .one (.d (.sl (.st 0))), .one (.d (.int .i64)), .one (.d (.int .i64))], 3⟩
def k16i (o : k32) (nx1 : NX TB k5w) := qM TB 0 k5w nx1 (blockT TB 0 (k169 o))
def k9a (o : k32) (nx1 : NX TB k5w) (i : HL TB.den k5w.hs) : Prop := WP TB k4p 122 0 (cA (cA (cB (cA (cB (cB (cB (cB (cB (cB k7n)))))))))) .no (k5w.fill TB i) (k16i o nx1)
def k15i (o : k32) : An TB := .lp [] k5w (k9a o) fun nx1 => .no
def k16d (o : k32) : An TB := .nd [] .no [] (.nd [] (.nd [] .no [] (k15i o)) [] .no)
def k145 (o : k32) : An TB := .nd [] .no [] (.nd [] .no [] (.nd [] .no [] (k16d o)))
def kq6 (o : k32) : An TB := .nd [] .no [] (.nd [] .no [] (k145 o))
def kep (x : ksf) (o : k32) : Prop := WPh TB k4p 122 0 k7n (kq6 o) (k1m.st TB x) (retTQ TB k4p k1m kbs o)
theorem k13l (o : k32) : OblH TB k4p 122 0 k7n (kq6 o) (retTQ TB k4p k1m kbs o) :=
 OblH.ofC (X := ((∀ nx i, (k9a o) nx i = (k9a o) nx i) ∧ (∀ nx1 : NX TB k5w, True) ∧ True)) (by kernel_rfl) ⟨fun _ _ => rfl, fun _ => trivial, trivial⟩
theorem k13n {x : ksf} {o : k32} (h : kep x o) : k1m.Snd Try.prog x o :=
 Con.soundH (c := k1m) (C := k4p) TBok ⟨inf_ok, (all_cons kdq (all_cons kjp (all_cons kq2 all_nil))), all_nil⟩ mix Try.func31 (show Try.f31.body = some k7n by kernel_rfl) (show Try.f31.ntmps = 122 by kernel_rfl) (show Try.f31.results.toList = kbs by kernel_rfl) rfl h (k13l o)
theorem k16s {p0 : TStatement} {p1 : TWitness} {r0 : Bool} (h :
((decide (p0.Depth < 1) = true →
 false = r0) ∧
(decide (p0.Depth < 1) = false →
(decide (12 < p0.Depth) = true →
 false = r0) ∧
(decide (12 < p0.Depth) = false →
([p0.Anchor, p0.Account, p0.Bind, p1.Secret].length ≤ 9223372036854775807) ∧ let r1 : Bool := (allB [p0.Anchor, p0.Account, p0.Bind, p1.Secret])
((!r1) = true →
 false = r0) ∧
((!r1) = false →
(decide (4294967295 < p0.Deposit) = true →
 false = r0) ∧
(decide (4294967295 < p0.Deposit) = false →
(decide (4294967295 < p0.Withdraw) = true →
 false = r0) ∧
(decide (4294967295 < p0.Withdraw) = false →
(decide (4294967295 < p0.Fee) = true →
 false = r0) ∧
(decide (4294967295 < p0.Fee) = false →
(p0.Marks.length ≤ 9223372036854775807) ∧ ((!(allB p0.Marks)) = true →
 false = r0) ∧
((!(allB p0.Marks)) = false →
(p0.Commits.length ≤ 9223372036854775807) ∧ ((!(allB p0.Commits)) = true →
 false = r0) ∧
((!(allB p0.Commits)) = false →
(p0.Rhos.length ≤ 9223372036854775807) ∧ ((!(allB p0.Rhos)) = true →
 false = r0) ∧
((!(allB p0.Rhos)) = false →
 let v2 : Bool := ((p1.Ins.length : Int) != (p0.Marks.length : Int))
(v2 = true →
 false = r0) ∧
(v2 = false →
(decide (4 < (p1.Ins.length : Int)) = true →
 false = r0) ∧
(decide (4 < (p1.Ins.length : Int)) = false →
 let v3 : Bool := ((p1.Outs.length : Int) != (p0.Commits.length : Int))
(v3 = true →
 false = r0) ∧
(v3 = false →
 let v4 : Bool := ((p1.Outs.length : Int) != (p0.Rhos.length : Int))
(v4 = true →
 false = r0) ∧
(v4 = false →
(decide (4 < (p1.Outs.length : Int)) = true →
 false = r0) ∧
(decide (4 < (p1.Outs.length : Int)) = false →
 Md.Loop (p1.Ins, ((p1.Ins.length : Int) : Int), (0 : Int), p0.Depth, p0.Anchor, p0.Marks, p0.Commits, p0.Rhos, p0.Deposit, p0.Withdraw, p0.Fee, p0.Account, p0.Bind, p1.Ins, p1.Outs, p1.Secret, ()) (k9a (r0, ())))))))))))))))))) : kep (p0.Depth, p0.Anchor, p0.Marks, p0.Commits, p0.Rhos, p0.Deposit, p0.Withdraw, p0.Fee, p0.Account, p0.Bind, p1.Ins, p1.Outs, p1.Secret, ()) (r0, ()) := WPh.of_eq (by kernel_rfl) h
def kq8 (r0 : Bool) (k1 : Int → Prop) (s93 : List TSpent) (s94 : Int) (h0_0 : Int) (h0_1 : Int) (h0_2 : List Int) (h0_3 : List Int) (h0_4 : List Int) (h0_5 : Int) (h0_6 : Int) (h0_7 : Int) (h0_8 : Int) (h0_9 : Int) (h1_0 : List TSpent) (h1_1 : List TNote) (h1_2 : Int) (s95 : Int) : Prop :=
(decide (s95 < s94) = true →
(0 ≤ s95) ∧ s95 < (s93.length : Int) ∧ ((ix s93 s95).Path.length ≤ 9223372036854775807) ∧ ((!(spendV (ix s93 s95))) = true →
 false = r0) ∧
((!(spendV (ix s93 s95))) = false →
 let v5 : Bool := ((((ix s93 s95).Path).length : Int) != h0_0)
(v5 = true →
 false = r0) ∧
(v5 = false →
(0 ≤ h0_0) ∧ let v6 : Bool := decide ((ishl .i64 1 h0_0) ≤ ((ix s93 s95).Position))
(v6 = true →
 false = r0) ∧
(v6 = false →
 k1 (IntKind.i64.wrap (s95 + 1) : Int))))) ∧
(decide (s95 < s94) = false →
(h1_1.length ≤ 9223372036854775807) ∧ (h1_1.all noteV) = r0)
theorem k14y {r0 : Bool} {s93 : List TSpent} {s94 : Int} {h0_0 : Int} {h0_1 : Int} {h0_2 : List Int} {h0_3 : List Int} {h0_4 : List Int} {h0_5 : Int} {h0_6 : Int} {h0_7 : Int} {h0_8 : Int} {h0_9 : Int} {h1_0 : List TSpent} {h1_1 : List TNote} {h1_2 : Int} {s95 : Int} (inv : Int → Prop) (μ : Int → Nat) (h0 : inv s95) (hs : ∀ (s95 : Int), inv s95 → kq8 r0 (fun s95q => inv s95q ∧ μ s95q < μ s95) s93 s94 h0_0 h0_1 h0_2 h0_3 h0_4 h0_5 h0_6 h0_7 h0_8 h0_9 h1_0 h1_1 h1_2 s95) : Md.Loop (s93, s94, s95, h0_0, h0_1, h0_2, h0_3, h0_4, h0_5, h0_6, h0_7, h0_8, h0_9, h1_0, h1_1, h1_2, ()) (k9a (r0, ())) :=
 ⟨⟨fun s : (List TSpent) × Int × Int × Int × Int × (List Int) × (List Int) × (List Int) × Int × Int × Int × Int × Int × (List TSpent) × (List TNote) × Int × Unit => (s.1 = s93 ∧ s.2.1 = s94 ∧ s.2.2.2.1 = h0_0 ∧ s.2.2.2.2.1 = h0_1 ∧ s.2.2.2.2.2.1 = h0_2 ∧ s.2.2.2.2.2.2.1 = h0_3 ∧ s.2.2.2.2.2.2.2.1 = h0_4 ∧ s.2.2.2.2.2.2.2.2.1 = h0_5 ∧ s.2.2.2.2.2.2.2.2.2.1 = h0_6 ∧ s.2.2.2.2.2.2.2.2.2.2.1 = h0_7 ∧ s.2.2.2.2.2.2.2.2.2.2.2.1 = h0_8 ∧ s.2.2.2.2.2.2.2.2.2.2.2.2.1 = h0_9 ∧ s.2.2.2.2.2.2.2.2.2.2.2.2.2.1 = h1_0 ∧ s.2.2.2.2.2.2.2.2.2.2.2.2.2.2.1 = h1_1 ∧ s.2.2.2.2.2.2.2.2.2.2.2.2.2.2.2.1 = h1_2) ∧ inv s.2.2.1, fun s : (List TSpent) × Int × Int × Int × Int × (List Int) × (List Int) × (List Int) × Int × Int × Int × Int × Int × (List TSpent) × (List TNote) × Int × Unit => μ s.2.2.1, ⟨⟨rfl, rfl, rfl, rfl, rfl, rfl, rfl, rfl, rfl, rfl, rfl, rfl, rfl, rfl, rfl⟩, h0⟩, fun (s93p, s94p, s95p, h0_0p, h0_1p, h0_2p, h0_3p, h0_4p, h0_5p, h0_6p, h0_7p, h0_8p, h0_9p, h1_0p, h1_1p, h1_2p, ()) ⟨⟨eq0, eq1, eq2, eq3, eq4, eq5, eq6, eq7, eq8, eq9, eq10, eq11, eq12, eq13, eq14⟩, hi⟩ => by
  have eq0 : s93p = s93 := eq0; subst s93p; have eq1 : s94p = s94 := eq1; subst s94p; have eq2 : h0_0p = h0_0 := eq2; subst h0_0p; have eq3 : h0_1p = h0_1 := eq3; subst h0_1p; have eq4 : h0_2p = h0_2 := eq4; subst h0_2p; have eq5 : h0_3p = h0_3 := eq5; subst h0_3p; have eq6 : h0_4p = h0_4 := eq6; subst h0_4p; have eq7 : h0_5p = h0_5 := eq7; subst h0_5p; have eq8 : h0_6p = h0_6 := eq8; subst h0_6p; have eq9 : h0_7p = h0_7 := eq9; subst h0_7p; have eq10 : h0_8p = h0_8 := eq10; subst h0_8p; have eq11 : h0_9p = h0_9 := eq11; subst h0_9p; have eq12 : h1_0p = h1_0 := eq12; subst h1_0p; have eq13 : h1_1p = h1_1 := eq13; subst h1_1p; have eq14 : h1_2p = h1_2 := eq14; subst h1_2p; exact mpr_of (by kernel_rfl) ((congrArg (fun k => kq8 r0 k s93 s94 h0_0 h0_1 h0_2 h0_3 h0_4 h0_5 h0_6 h0_7 h0_8 h0_9 h1_0 h1_1 h1_2 s95p) (lpk1 (⟨rfl, rfl, rfl, rfl, rfl, rfl, rfl, rfl, rfl, rfl, rfl, rfl, rfl, rfl, rfl⟩ : s93 = s93 ∧ s94 = s94 ∧ h0_0 = h0_0 ∧ h0_1 = h0_1 ∧ h0_2 = h0_2 ∧ h0_3 = h0_3 ∧ h0_4 = h0_4 ∧ h0_5 = h0_5 ∧ h0_6 = h0_6 ∧ h0_7 = h0_7 ∧ h0_8 = h0_8 ∧ h0_9 = h0_9 ∧ h1_0 = h1_0 ∧ h1_1 = h1_1 ∧ h1_2 = h1_2) inv (fun s95q => μ s95q < μ s95p))).mpr (hs s95p hi))⟩⟩
theorem bd31 : Callable Try.prog 31 := ⟨by rw [Try.func31]; kernel_rfl, by rw [Try.func31]; show some _ ≠ some _; decide⟩
theorem k10m (p0 : TStatement) (p1 : TWitness) (h : SR p0 ∧ WR p1) : kep (p0.Depth, p0.Anchor, p0.Marks, p0.Commits, p0.Rhos, p0.Deposit, p0.Withdraw, p0.Fee, p0.Account, p0.Bind, p1.Ins, p1.Outs, p1.Secret, ()) (((relV p0 p1) : Bool), ()) := by
 obtain ⟨hs, hw⟩ := h
 have l1 := hs.ml
 have l2 := hs.cl
 have l3 := hs.rl
 have l4 := hw.il
 have l5 := hw.ol
 have bad : ∀ b : Bool, (relV p0 p1 = true → b = true) → b = false → false = relV p0 p1 := by
  intro b h hb
  cases hr : relV p0 p1 with
  | false => rfl
  | true => have := h hr; rw [this] at hb; cases hb
 have hf : relV p0 p1 = true ↔ (1 ≤ p0.Depth ∧ p0.Depth ≤ 12 ∧ allB [p0.Anchor, p0.Account, p0.Bind, p1.Secret] = true ∧ p0.Deposit ≤ 4294967295 ∧ p0.Withdraw ≤ 4294967295 ∧ p0.Fee ≤ 4294967295 ∧ allB p0.Marks = true ∧ allB p0.Commits = true ∧ allB p0.Rhos = true ∧ p1.Ins.length = p0.Marks.length ∧ p1.Ins.length ≤ 4 ∧ p1.Outs.length = p0.Commits.length ∧ p1.Outs.length = p0.Rhos.length ∧ p1.Outs.length ≤ 4 ∧ p1.Ins.all (inV p0.Depth) = true ∧ p1.Outs.all noteV = true) := by
  unfold relV
  simp only [Bool.and_eq_true, decide_eq_true_eq, and_assoc]
 have no : ¬ (1 ≤ p0.Depth ∧ p0.Depth ≤ 12 ∧ allB [p0.Anchor, p0.Account, p0.Bind, p1.Secret] = true ∧ p0.Deposit ≤ 4294967295 ∧ p0.Withdraw ≤ 4294967295 ∧ p0.Fee ≤ 4294967295 ∧ allB p0.Marks = true ∧ allB p0.Commits = true ∧ allB p0.Rhos = true ∧ p1.Ins.length = p0.Marks.length ∧ p1.Ins.length ≤ 4 ∧ p1.Outs.length = p0.Commits.length ∧ p1.Outs.length = p0.Rhos.length ∧ p1.Outs.length ≤ 4 ∧ p1.Ins.all (inV p0.Depth) = true ∧ p1.Outs.all noteV = true) → false = relV p0 p1 := by
  intro h
  cases hr : relV p0 p1 with
  | false => rfl
  | true => exact (h (hf.1 hr)).elim
 clear bad
 refine k16s ⟨fun h => no fun a => ?_, fun h1 => ⟨fun h => no fun a => ?_, fun h2 => ⟨by simp, fun h => no fun a => ?_, fun h3 => ⟨fun h => no fun a => ?_, fun h4 => ⟨fun h => no fun a => ?_, fun h5 => ⟨fun h => no fun a => ?_, fun h6 => ⟨by omega, fun h => no fun a => ?_, fun h7 => ⟨by omega, fun h => no fun a => ?_, fun h8 => ⟨by omega, fun h => no fun a => ?_, fun h9 => ⟨fun h => no fun a => ?_, fun h10 => ⟨fun h => no fun a => ?_, fun h11 => ⟨fun h => no fun a => ?_, fun h12 => ⟨fun h => no fun a => ?_, fun h13 => ⟨fun h => no fun a => ?_, fun h14 => ?_⟩⟩⟩⟩⟩⟩⟩⟩⟩⟩⟩⟩⟩⟩
 ·have h := of_decide_eq_true h; omega
 ·have h := of_decide_eq_true h; omega
 ·rw [a.2.2.1] at h; cases h
 ·have h := of_decide_eq_true h; omega
 ·have h := of_decide_eq_true h; omega
 ·have h := of_decide_eq_true h; omega
 ·rw [a.2.2.2.2.2.2.1] at h; cases h
 ·rw [a.2.2.2.2.2.2.2.1] at h; cases h
 ·rw [a.2.2.2.2.2.2.2.2.1] at h; cases h
 ·have h : ¬ (p1.Ins.length : Int) = p0.Marks.length := by simpa using h
  omega
 ·have h := of_decide_eq_true h; omega
 ·have h : ¬ (p1.Outs.length : Int) = p0.Commits.length := by simpa using h
  omega
 ·have h : ¬ (p1.Outs.length : Int) = p0.Rhos.length := by simpa using h
  omega
 ·have h := of_decide_eq_true h; omega
 have h1 := of_decide_eq_false h1
 have h2 := of_decide_eq_false h2
 have h3 : allB [p0.Anchor, p0.Account, p0.Bind, p1.Secret] = true := by simpa using h3
 have h4 := of_decide_eq_false h4
 have h5 := of_decide_eq_false h5
 have h6 := of_decide_eq_false h6
 have h7 : allB p0.Marks = true := by simpa using h7
 have h8 : allB p0.Commits = true := by simpa using h8
 have h9 : allB p0.Rhos = true := by simpa using h9
 have h10 : (p1.Ins.length : Int) = p0.Marks.length := by simpa using h10
 have h11 := of_decide_eq_false h11
 have h12 : (p1.Outs.length : Int) = p0.Commits.length := by simpa using h12
 have h13 : (p1.Outs.length : Int) = p0.Rhos.length := by simpa using h13
 have h14 := of_decide_eq_false h14
 have hd : ishl .i64 1 p0.Depth = 2 ^ p0.Depth.toNat := by
  have h0 : 0 ≤ p0.Depth ∧ p0.Depth ≤ 12 := by omega
  obtain ⟨d, hd⟩ := Int.eq_ofNat_of_zero_le h0.1
  rw [hd] at h0 ⊢
  have h0 : d ≤ 12 := by omega
  have key : ∀ d : Nat, d ≤ 12 → ishl .i64 1 (d : Int) = 2 ^ d := by decide +kernel
  exact key d h0
 refine k14y (AllI (inV p0.Depth) p1.Ins) (fun i => (p1.Ins.length - i).toNat) AllI.start ?_
 intro i hi
 refine ⟨fun hh => ?_, fun hh => ?_⟩
 ·have hh := of_decide_eq_true hh
  have hx := hw.i _ (ix_mem p1.Ins i hi.1 hh)
  have nb : inV p0.Depth (ix p1.Ins i) = false → false = relV p0 p1 := fun hb => no fun a => by
   rw [hi.bad hh hb] at a; exact absurd a.2.2.2.2.2.2.2.2.2.2.2.2.2.2.1 (by simp)
  refine ⟨hi.1, hh, by have := hx.pl; show (ix p1.Ins i).Path.length ≤ _; omega, fun e => nb ?_, fun e => ⟨fun e2 => nb ?_, fun e2 => ⟨by omega, fun e3 => nb ?_, fun e3 => hi.next hh (by omega) ?_⟩⟩⟩
  ·have e : spendV (ix p1.Ins i) = false := by simpa using e
   simp [inV, e]
  ·have e2 : ¬ ((ix p1.Ins i).Path.length : Int) = p0.Depth := by simpa using e2
   simp [inV, e2]
  ·have e3 := of_decide_eq_true e3
   rw [hd] at e3
   simp only [inV, Bool.and_eq_false_iff, decide_eq_false_iff_not]
   right; omega
  ·have e : spendV (ix p1.Ins i) = true := by simpa using e
   have e2 : ((ix p1.Ins i).Path.length : Int) = p0.Depth := by simpa using e2
   have e3 := of_decide_eq_false e3
   rw [hd] at e3
   simp only [inV, e, Bool.true_and, Bool.and_eq_true, decide_eq_true_eq]
   exact ⟨e2, by omega⟩
 ·have ha := hi.done (of_decide_eq_false hh)
  refine ⟨by omega, ?_⟩
  cases hn : p1.Outs.all noteV with
  | false => exact no fun a => by rw [hn] at a; exact absurd a.2.2.2.2.2.2.2.2.2.2.2.2.2.2.2 (by simp)
  | true => exact (hf.2 ⟨by omega, by omega, h3, by omega, by omega, by omega, h7, h8, h9, by omega, by omega, by omega, by omega, by omega, ha, hn⟩).symm
def kge : Con TB.den := k1m.fnR (fun x => (fun (p0 : TStatement) (p1 : TWitness) => SR p0 ∧ WR p1) (TStatement.mk x.1 x.2.1 x.2.2.1 x.2.2.2.1 x.2.2.2.2.1 x.2.2.2.2.2.1 x.2.2.2.2.2.2.1 x.2.2.2.2.2.2.2.1 x.2.2.2.2.2.2.2.2.1 x.2.2.2.2.2.2.2.2.2.1) (TWitness.mk x.2.2.2.2.2.2.2.2.2.2.1 x.2.2.2.2.2.2.2.2.2.2.2.1 x.2.2.2.2.2.2.2.2.2.2.2.2.1)) fun x => ((fun (p0 : TStatement) (p1 : TWitness) => ((relV p0 p1) : Bool)) (TStatement.mk x.1 x.2.1 x.2.2.1 x.2.2.2.1 x.2.2.2.2.1 x.2.2.2.2.2.1 x.2.2.2.2.2.2.1 x.2.2.2.2.2.2.2.1 x.2.2.2.2.2.2.2.2.1 x.2.2.2.2.2.2.2.2.2.1) (TWitness.mk x.2.2.2.2.2.2.2.2.2.2.1 x.2.2.2.2.2.2.2.2.2.2.2.1 x.2.2.2.2.2.2.2.2.2.2.2.2.1), ())
theorem kqd : kge.Ok Try.prog TB := Con.ok_fn k1m bd31 fun x h => k13n (k10m (TStatement.mk x.1 x.2.1 x.2.2.1 x.2.2.2.1 x.2.2.2.2.1 x.2.2.2.2.2.1 x.2.2.2.2.2.2.1 x.2.2.2.2.2.2.2.1 x.2.2.2.2.2.2.2.2.1 x.2.2.2.2.2.2.2.2.2.1) (TWitness.mk x.2.2.2.2.2.2.2.2.2.2.1 x.2.2.2.2.2.2.2.2.2.2.2.1 x.2.2.2.2.2.2.2.2.2.2.2.2.1) h)
def k2h : Con TB.den := Con.mk0 101 [.one (.d (.int .u64)), .one (.d (.int .u64))] [] (.one (.one (.d (.int .u64)))) []
abbrev kt7 := HL TB.den (hsT k2h.ins (hsOs k2h.pre))
abbrev kez := HL TB.den (hsV k2h.res (hsOs k2h.post))
def k9w : Cx TB := ⟨inf, [kf0], [], 4, []⟩
def kfl : Code := Try.f101.body.getD .skip
def kjf : List ResultVar := Try.f101.results.toList
def krt (o : kez) : An TB := .no
def kgd (x : kt7) (o : kez) : Prop := WPh TB k9w 9 0 kfl (krt o) (k2h.st TB x) (retTQ TB k9w k2h kjf o)
theorem k16l (o : kez) : OblH TB k9w 9 0 kfl (krt o) (retTQ TB k9w k2h kjf o) :=
 OblH.ofC (X := True) (by kernel_rfl) trivial
theorem k15p {x : kt7} {o : kez} (h : kgd x o) : k2h.Snd Try.prog x o :=
 Con.soundH (c := k2h) (C := k9w) TBok ⟨inf_ok, (all_cons kmm all_nil), all_nil⟩ mix Try.func101 (show Try.f101.body = some kfl by kernel_rfl) (show Try.f101.ntmps = 9 by kernel_rfl) (show Try.f101.results.toList = kjf by kernel_rfl) rfl h (k16l o)
theorem k18w {p0 : Int} {p1 : Int} {r0 : Int} (h :
(((18446744069414584321 : Int) = 18446744069414584321 ∧ U64 (6 : Int) ∧ Us [p0, p1] ∧ [p0, p1].length ≤ 1099511627776) ∧ (hashS (6 : Int) [p0, p1]) = r0)) : kgd (p0, p1, ()) (r0, ()) := WPh.of_eq (by kernel_rfl) h
theorem bd101 : Callable Try.prog 101 := ⟨by rw [Try.func101]; kernel_rfl, by rw [Try.func101]; show some _ ≠ some _; decide⟩
theorem k14v (p0 : Int) (p1 : Int) (h : U64 p0 ∧ U64 p1) : kgd (p0, p1, ()) (((hashS 6 [p0, p1]) : Int), ()) := by
 refine k18w ⟨⟨rfl, by decide, ?_, by simp⟩, rfl⟩
 intro x hx
 simp only [List.mem_cons, List.not_mem_nil, or_false] at hx
 rcases hx with rfl | rfl
 ·exact h.1
 ·exact h.2
def kq3 : Con TB.den := k2h.fnR (fun x => (fun (p0 : Int) (p1 : Int) => U64 p0 ∧ U64 p1) x.1 x.2.1) fun x => ((fun (p0 : Int) (p1 : Int) => ((hashS 6 [p0, p1]) : Int)) x.1 x.2.1, ())
theorem k18r : kq3.Ok Try.prog TB := Con.ok_fn k2h bd101 fun x h => k15p (k14v x.1 x.2.1 h)
def k1c : Con TB.den := Con.mk0 73 [.one (.d (.int .u64)), .one (.d (.int .i64)), .one (.d (.sl (.int .u64)))] [] (.one (.one (.d (.int .u64)))) []
abbrev krg := HL TB.den (hsT k1c.ins (hsOs k1c.pre))
abbrev k17 := HL TB.den (hsV k1c.res (hsOs k1c.post))
def k26 : Cx TB := ⟨inf, [kq3], [], 4, []⟩
def k4s : Code := Try.f73.body.getD .skip
def k94 : List ResultVar := Try.f73.results.toList
def k166 (o : k17) := qS TB k26 60 0 (cB (cB (cB (cB (cB k4s))))) .no (retTQ TB k26 k1c k94 o)
def k5y : Tm := ⟨[], [], [1, 9, 40, 41, 42], [.one (.d (.int .i64)), .one (.d (.int .u64)), .one (.d (.sl (.int .u64))), .one (.d (.int .i64)), .one (.d (.int .i64))], 0⟩
def k15s (o : k17) (nx2 : NX TB k5y) := qM TB 0 k5y nx2 (blockT TB 2 (k166 o))
def k93 (o : k17) (nx2 : NX TB k5y) (i : HL TB.den k5y.hs) : Prop := WP TB k26 60 0 (cA (cA (cB (cA (cB (cB (cB (cB k4s)))))))) .no (k5y.fill TB i) (k15s o nx2)
def k167 (o : k17) : An TB := .lp [] k5y (k93 o) fun nx2 => .no
def kq4 (o : k17) : An TB := .nd [] .no [] (.nd [] (.nd [] .no [] (k167 o)) [] .no)
def k16o (o : k17) := qS TB k26 60 0 (cB (cB (cB k4s))) (kq4 o) (retTQ TB k26 k1c k94 o)
def k60 : Tm := ⟨[], [], [0, 1, 2, 30, 31, 32], [.one (.d (.int .u64)), .one (.d (.int .i64)), .one (.d (.sl (.int .u64))), .one (.d (.sl (.int .u64))), .one (.d (.int .i64)), .one (.d (.int .i64))], 0⟩
def k162 (o : k17) (nx1 : NX TB k60) := qM TB 0 k60 nx1 (blockT TB 0 (k16o o))
def k96 (o : k17) (nx1 : NX TB k60) (i : HL TB.den k60.hs) : Prop := WP TB k26 60 0 (cA (cA (cB (cA (cB (cB k4s)))))) .no (k60.fill TB i) (k162 o nx1)
def k13w (o : k17) : An TB := .lp [] k60 (k96 o) fun nx1 => .no
def k120 (o : k17) : An TB := .nd [] (.nd [] .no [] (k13w o)) [] (kq4 o)
def kqg (o : k17) : An TB := .nd [] .no [] (.nd [] .no [] (k120 o))
def kei (x : krg) (o : k17) : Prop := WPh TB k26 60 0 k4s (kqg o) (k1c.st TB x) (retTQ TB k26 k1c k94 o)
theorem k12y (o : k17) : OblH TB k26 60 0 k4s (kqg o) (retTQ TB k26 k1c k94 o) :=
 OblH.ofC (X := ((∀ nx i, (k96 o) nx i = (k96 o) nx i) ∧ (∀ nx1 : NX TB k60, True) ∧ (∀ nx i, (k93 o) nx i = (k93 o) nx i) ∧ (∀ nx2 : NX TB k5y, True) ∧ True)) (by kernel_rfl) ⟨fun _ _ => rfl, fun _ => trivial, fun _ _ => rfl, fun _ => trivial, trivial⟩
theorem k133 {x : krg} {o : k17} (h : kei x o) : k1c.Snd Try.prog x o :=
 Con.soundH (c := k1c) (C := k26) TBok ⟨inf_ok, (all_cons k18r all_nil), all_nil⟩ mix Try.func73 (show Try.f73.body = some k4s by kernel_rfl) (show Try.f73.ntmps = 60 by kernel_rfl) (show Try.f73.results.toList = k94 by kernel_rfl) rfl h (k12y o)
theorem k15t {p0 : Int} {p1 : Int} {p2 : List Int} {r0 : Int} (h :
((decide (12 < (p2.length : Int)) = true →
 0 = r0) ∧
(decide (12 < (p2.length : Int)) = false →
(decide (p1 < 0) = true →
 0 = r0) ∧
(decide (p1 < 0) = false →
(0 ≤ (p2.length : Int)) ∧ let v1 : Bool := decide ((ishl .i64 1 (p2.length : Int)) ≤ p1)
(v1 = true →
 0 = r0) ∧
(v1 = false →
(decide (18446744069414584321 ≤ p0) = true →
 0 = r0) ∧
(decide (18446744069414584321 ≤ p0) = false →
 Md.Loop (p0, p1, p2, p2, ((p2.length : Int) : Int), (0 : Int), ()) (k96 (r0, ())))))))) : kei (p0, p1, p2, ()) (r0, ()) := WPh.of_eq (by kernel_rfl) h
def kq1 (r0 : Int) (k1 : Int → Prop) (s0 : Int) (s1 : Int) (s2 : List Int) (s30 : List Int) (s31 : Int) (s32 : Int) : Prop :=
(decide (s32 < s31) = true →
(0 ≤ s32) ∧ s32 < (s30.length : Int) ∧ let v2 : Bool := decide (18446744069414584321 ≤ (ix s30 s32))
(v2 = true →
 0 = r0) ∧
(v2 = false →
 k1 (IntKind.i64.wrap (s32 + 1) : Int))) ∧
(decide (s32 < s31) = false →
 Md.Loop (s1, s0, s2, ((s2.length : Int) : Int), (0 : Int), ()) (k93 (r0, ())))
theorem k12e {r0 : Int} {s0 : Int} {s1 : Int} {s2 : List Int} {s30 : List Int} {s31 : Int} {s32 : Int} (inv : Int → Prop) (μ : Int → Nat) (h0 : inv s32) (hs : ∀ (s32 : Int), inv s32 → kq1 r0 (fun s32q => inv s32q ∧ μ s32q < μ s32) s0 s1 s2 s30 s31 s32) : Md.Loop (s0, s1, s2, s30, s31, s32, ()) (k96 (r0, ())) :=
 ⟨⟨fun s : Int × Int × (List Int) × (List Int) × Int × Int × Unit => (s.1 = s0 ∧ s.2.1 = s1 ∧ s.2.2.1 = s2 ∧ s.2.2.2.1 = s30 ∧ s.2.2.2.2.1 = s31) ∧ inv s.2.2.2.2.2.1, fun s : Int × Int × (List Int) × (List Int) × Int × Int × Unit => μ s.2.2.2.2.2.1, ⟨⟨rfl, rfl, rfl, rfl, rfl⟩, h0⟩, fun (s0p, s1p, s2p, s30p, s31p, s32p, ()) ⟨⟨eq0, eq1, eq2, eq3, eq4⟩, hi⟩ => by
  have eq0 : s0p = s0 := eq0; subst s0p; have eq1 : s1p = s1 := eq1; subst s1p; have eq2 : s2p = s2 := eq2; subst s2p; have eq3 : s30p = s30 := eq3; subst s30p; have eq4 : s31p = s31 := eq4; subst s31p; exact mpr_of (by kernel_rfl) ((congrArg (fun k => kq1 r0 k s0 s1 s2 s30 s31 s32p) (lpk1 (⟨rfl, rfl, rfl, rfl, rfl⟩ : s0 = s0 ∧ s1 = s1 ∧ s2 = s2 ∧ s30 = s30 ∧ s31 = s31) inv (fun s32q => μ s32q < μ s32p))).mpr (hs s32p hi))⟩⟩
def kqb (r0 : Int) (k2 : Int → Int → Prop) (s1 : Int) (s40 : List Int) (s41 : Int) (s9 : Int) (s42 : Int) : Prop :=
(decide (s42 < s41) = true →
(0 ≤ s42) ∧ s42 < (s40.length : Int) ∧ (0 ≤ s42) ∧ (((iand .i64 (ishr .i64 s1 s42) 1) == 0) = true →
(U64 s9 ∧ U64 (ix s40 s42)) ∧ k2 ((hashS 6 [s9, (ix s40 s42)]) : Int) (IntKind.i64.wrap (s42 + 1) : Int)) ∧
(((iand .i64 (ishr .i64 s1 s42) 1) == 0) = false →
(U64 (ix s40 s42) ∧ U64 s9) ∧ k2 ((hashS 6 [(ix s40 s42), s9]) : Int) (IntKind.i64.wrap (s42 + 1) : Int))) ∧
(decide (s42 < s41) = false →
 s9 = r0)
theorem k14g {r0 : Int} {s1 : Int} {s40 : List Int} {s41 : Int} {s9 : Int} {s42 : Int} (inv : Int → Int → Prop) (μ : Int → Int → Nat) (h0 : inv s9 s42) (hs : ∀ (s9 : Int) (s42 : Int), inv s9 s42 → kqb r0 (fun s9q s42q => inv s9q s42q ∧ μ s9q s42q < μ s9 s42) s1 s40 s41 s9 s42) : Md.Loop (s1, s9, s40, s41, s42, ()) (k93 (r0, ())) :=
 ⟨⟨fun s : Int × Int × (List Int) × Int × Int × Unit => (s.1 = s1 ∧ s.2.2.1 = s40 ∧ s.2.2.2.1 = s41) ∧ inv s.2.1 s.2.2.2.2.1, fun s : Int × Int × (List Int) × Int × Int × Unit => μ s.2.1 s.2.2.2.2.1, ⟨⟨rfl, rfl, rfl⟩, h0⟩, fun (s1p, s9p, s40p, s41p, s42p, ()) ⟨⟨eq0, eq1, eq2⟩, hi⟩ => by
  have eq0 : s1p = s1 := eq0; subst s1p; have eq1 : s40p = s40 := eq1; subst s40p; have eq2 : s41p = s41 := eq2; subst s41p; exact mpr_of (by kernel_rfl) ((congrArg (fun k => kqb r0 k s1 s40 s41 s9p s42p) (lpk2 (⟨rfl, rfl, rfl⟩ : s1 = s1 ∧ s40 = s40 ∧ s41 = s41) inv (fun s9q s42q => μ s9q s42q < μ s9p s42p))).mpr (hs s9p s42p hi))⟩⟩
theorem bd73 : Callable Try.prog 73 := ⟨by rw [Try.func73]; kernel_rfl, by rw [Try.func73]; show some _ ≠ some _; decide⟩
theorem k11k (p0 : Int) (p1 : Int) (p2 : List Int) (h : U64 p0 ∧ Us p2 ∧ p2.length ≤ 1073741824 ∧ p1 ≤ 9223372036854775807) : kei (p0, p1, p2, ()) (((climbS p0 p1 p2) : Int), ()) := by
 obtain ⟨h0, h2, h3, h4⟩ := h
 have sh : ∀ d : Nat, d ≤ 12 → ishl .i64 1 (d : Int) = 2 ^ d := by decide +kernel
 refine k15t ⟨fun e => ?_, fun e => ⟨fun e2 => ?_, fun e2 => ⟨by omega, fun e3 => ?_, fun e3 => ⟨fun e4 => ?_, fun e4 => ?_⟩⟩⟩⟩
 ·have e := of_decide_eq_true e
  unfold climbS
  rw [if_neg (by omega)]
 ·have e2 := of_decide_eq_true e2
  unfold climbS
  rw [if_neg (by omega)]
 ·have e := of_decide_eq_false e
  have e3 := of_decide_eq_true e3
  rw [sh _ (by omega)] at e3
  unfold climbS
  rw [if_neg (fun a => by have := a.2.2.1; omega)]
 ·have e4 := of_decide_eq_true e4
  unfold climbS
  rw [if_neg (by omega)]
 have e := of_decide_eq_false e
 have e2 := of_decide_eq_false e2
 have e3 := of_decide_eq_false e3
 have e4 := of_decide_eq_false e4
 rw [sh _ (by omega)] at e3
 refine k12e (AllI (fun x => decide (x < 18446744069414584321)) p2) (fun i => (p2.length - i).toNat) AllI.start ?_
 intro i hi
 refine ⟨fun hh => ?_, fun hh => ?_⟩
 ·have hh := of_decide_eq_true hh
  refine ⟨hi.1, hh, fun e5 => ?_, fun e5 => hi.next hh (by omega) (by simpa using e5)⟩
  have hb : allB p2 = false := hi.bad hh (by simpa using e5)
  unfold climbS
  rw [if_neg (fun a => by rw [hb] at a; exact absurd a.2.2.2.2 (by simp))]
 ·have ha : allB p2 = true := hi.done (of_decide_eq_false hh)
  have hc : climbS p0 p1 p2 = climbL p0 p1 p2 := by
   unfold climbS
   rw [if_pos ⟨by omega, by omega, by omega, by omega, ha⟩]
  rw [hc]
  have hpos : p1 < 4096 := by
   have h1 : (2 : Int) ^ p2.length ≤ 2 ^ 12 := by exact_mod_cast Nat.pow_le_pow_right (by omega) (by omega)
   omega
  refine k14g (fun d i => 0 ≤ i ∧ i ≤ p2.length ∧ U64 d ∧ climbL d (p1 / 2 ^ i.toNat) (p2.drop i.toNat) = climbL p0 p1 p2) (fun d i => (p2.length - i).toNat) ⟨by omega, by omega, h0, by simp⟩ ?_
  rintro d i ⟨g0, g1, g2, g3⟩
  refine ⟨fun hh => ?_, fun hh => ?_⟩
  ·have hh := of_decide_eq_true hh
   have hx := h2 _ (ix_mem p2 i g0 hh)
   rw [drop_ix p2 i g0 hh] at g3
   have nx := inc i p2.length g0 hh (by omega)
   have hq : p1 / 2 ^ i.toNat / 2 = p1 / 2 ^ (i + 1).toNat := by
    rw [show (i + 1).toNat = i.toNat + 1 by omega, Int.pow_succ, Int.ediv_ediv_of_nonneg (Int.le_of_lt (Int.pow_pos (by omega)))]
   have hbit : iand .i64 (ishr .i64 p1 i) 1 = p1 / 2 ^ i.toNat % 2 := by
    have hs : ishr .i64 p1 i = p1 / 2 ^ i.toNat := by
     rw [kjh, show min i.toNat IntKind.i64.bits = i.toNat from Nat.min_eq_left (by show i.toNat ≤ 64; omega)]
     simp
    rw [hs]
    have hb0 : 0 ≤ p1 / 2 ^ i.toNat := Int.ediv_nonneg (by omega) (Int.le_of_lt (Int.pow_pos (by omega)))
    have hb1 : p1 / 2 ^ i.toNat ≤ p1 := Int.ediv_le_self _ (by omega)
    exact k1ki _ ⟨hb0, by omega⟩
   rw [hbit]
   have g3 : climbL (if p1 / 2 ^ i.toNat % 2 = 0 then hashS 6 [d, ix p2 i] else hashS 6 [ix p2 i, d]) (p1 / 2 ^ i.toNat / 2) (p2.drop (i + 1).toNat) = climbL p0 p1 p2 := g3
   rw [hq] at g3
   refine ⟨g0, hh, g0, fun hb => ?_, fun hb => ?_⟩
   ·have hb : p1 / 2 ^ i.toNat % 2 = 0 := by simpa using hb
    rw [if_pos hb] at g3
    rw [nx]
    exact ⟨⟨g2, hx⟩, ⟨by omega, by omega, kot _ _, g3⟩, by omega⟩
   ·have hb : ¬ p1 / 2 ^ i.toNat % 2 = 0 := by simpa using hb
    rw [if_neg hb] at g3
    rw [nx]
    exact ⟨⟨hx, g2⟩, ⟨by omega, by omega, kot _ _, g3⟩, by omega⟩
  ·have hh := of_decide_eq_false hh
   rw [List.drop_eq_nil_of_le (by omega)] at g3
   exact g3
def kou : Con TB.den := k1c.fnR (fun x => (fun (p0 : Int) (p1 : Int) (p2 : List Int) => U64 p0 ∧ Us p2 ∧ p2.length ≤ 1073741824 ∧ p1 ≤ 9223372036854775807) x.1 x.2.1 x.2.2.1) fun x => ((fun (p0 : Int) (p1 : Int) (p2 : List Int) => ((climbS p0 p1 p2) : Int)) x.1 x.2.1 x.2.2.1, ())
theorem k161 : kou.Ok Try.prog TB := Con.ok_fn k1c bd73 fun x h => k133 (k11k x.1 x.2.1 x.2.2.1 h)
def k2g : Con TB.den := Con.mk0 100 [.one (.d (.int .i64))] [] (.one (.one (.d (.bool)))) []
abbrev ktn := HL TB.den (hsT k2g.ins (hsOs k2g.pre))
abbrev kf2 := HL TB.den (hsV k2g.res (hsOs k2g.post))
def ka6 : Cx TB := ⟨inf, [], [], 4, []⟩
def kfd : Code := Try.f100.body.getD .skip
def kiy : List ResultVar := Try.f100.results.toList
def ksd (o : kf2) : An TB := .no
def kf7 (x : ktn) (o : kf2) : Prop := WPh TB ka6 9 0 kfd (ksd o) (k2g.st TB x) (retTQ TB ka6 k2g kiy o)
theorem k15r (o : kf2) : OblH TB ka6 9 0 kfd (ksd o) (retTQ TB ka6 k2g kiy o) :=
 OblH.ofC (X := True) (by kernel_rfl) trivial
theorem k15m {x : ktn} {o : kf2} (h : kf7 x o) : k2g.Snd Try.prog x o :=
 Con.soundH (c := k2g) (C := ka6) TBok ⟨inf_ok, all_nil, all_nil⟩ mix Try.func100 (show Try.f100.body = some kfd by kernel_rfl) (show Try.f100.ntmps = 9 by kernel_rfl) (show Try.f100.results.toList = kiy by kernel_rfl) rfl h (k15r o)
theorem k195 {p0 : Int} {r0 : Bool} (h :
((decide (0 ≤ p0) = true →
 decide (p0 < 4) = r0) ∧
(decide (0 ≤ p0) = false →
 false = r0))) : kf7 (p0, ()) (r0, ()) := WPh.of_eq (by kernel_rfl) h
theorem bd100 : Callable Try.prog 100 := ⟨by rw [Try.func100]; kernel_rfl, by rw [Try.func100]; show some _ ≠ some _; decide⟩
theorem k14e (p0 : Int) : kf7 (p0, ()) (((decide (0 ≤ p0) && decide (p0 < 4)) : Bool), ()) := by
 refine k195 ?_
 grind
def kpm : Con TB.den := k2g.totR fun x => ((fun (p0 : Int) => ((decide (0 ≤ p0) && decide (p0 < 4)) : Bool)) x.1, ())
theorem k191 : kpm.Ok Try.prog TB := Con.ok_tot k2g bd100 fun x => k15m (k14e x.1)
def k4i : Con TB.den := Con.mk0 71 [.one (.d (.int .u64)), .one (.d (.int .i64))] [] (.one (.one (.d (.int .u64)))) []
abbrev k12w := HL TB.den (hsT k4i.ins (hsOs k4i.pre))
abbrev kjz := HL TB.den (hsV k4i.res (hsOs k4i.post))
def ke0 : Cx TB := ⟨inf, [kpm, kp3], [], 4, []⟩
def kkn : Code := Try.f71.body.getD .skip
def kp0 : List ResultVar := Try.f71.results.toList
def kz8 (o : kjz) : An TB := .no
def kkl (x : k12w) (o : kjz) : Prop := WPh TB ke0 13 0 kkn (kz8 o) (k4i.st TB x) (retTQ TB ke0 k4i kp0 o)
theorem k1eb (o : kjz) : OblH TB ke0 13 0 kkn (kz8 o) (retTQ TB ke0 k4i kp0 o) :=
 OblH.ofC (X := True) (by kernel_rfl) trivial
theorem k1e1 {x : k12w} {o : kjz} (h : kkl x o) : k4i.Snd Try.prog x o :=
 Con.soundH (c := k4i) (C := ke0) TBok ⟨inf_ok, (all_cons k191 (all_cons k128 all_nil)), all_nil⟩ mix Try.func71 (show Try.f71.body = some kkn by kernel_rfl) (show Try.f71.ntmps = 13 by kernel_rfl) (show Try.f71.results.toList = kp0 by kernel_rfl) rfl h (k1eb o)
theorem k1i8 {p0 : Int} {p1 : Int} {r0 : Int} (h :
(((!(decide (0 ≤ p1) && decide (p1 < 4))) = true →
 0 = r0) ∧
((!(decide (0 ≤ p1) && decide (p1 < 4))) = false →
(U64 (1 : Int) ∧ Us [p0, IntKind.u64.wrap p1] ∧ [p0, IntKind.u64.wrap p1].length ≤ 1099511627776) ∧ let r1 : Int := (hashS (1 : Int) [p0, IntKind.u64.wrap p1])
 r1 = r0))) : kkl (p0, p1, ()) (r0, ()) := WPh.of_eq (by kernel_rfl) h
theorem bd71 : Callable Try.prog 71 := ⟨by rw [Try.func71]; kernel_rfl, by rw [Try.func71]; show some _ ≠ some _; decide⟩
theorem k1bp (p0 : Int) (p1 : Int) (h : U64 p0 ∧ -9223372036854775808 ≤ p1 ∧ p1 ≤ 9223372036854775807) : kkl (p0, p1, ()) (((ownerS p0 p1) : Int), ()) := by
 obtain ⟨h0, h1, h2⟩ := h
 refine k1i8 ⟨fun e => ?_, fun e => ?_⟩
 ·unfold ownerS
  rw [if_neg (by simp at e; omega)]
 ·have e : 0 ≤ p1 ∧ p1 < 4 := by simpa using e
  rw [wu p1 (by omega) (by omega)]
  refine ⟨⟨by decide, ?_, by simp⟩, ?_⟩
  ·intro x hx
   simp only [List.mem_cons, List.not_mem_nil, or_false] at hx
   rcases hx with rfl | rfl
   ·exact h0
   ·omega
  ·unfold ownerS
   rw [if_pos e]
def kwp : Con TB.den := k4i.fnR (fun x => (fun (p0 : Int) (p1 : Int) => U64 p0 ∧ -9223372036854775808 ≤ p1 ∧ p1 ≤ 9223372036854775807) x.1 x.2.1) fun x => ((fun (p0 : Int) (p1 : Int) => ((ownerS p0 p1) : Int)) x.1 x.2.1, ())
theorem k1id : kwp.Ok Try.prog TB := Con.ok_fn k4i bd71 fun x h => k1e1 (k1bp x.1 x.2.1 h)
def k2t : Con TB.den := Con.mk0 72 [.one (.ptr 0 0), .one (.d (.int .u64)), .one (.d (.int .u64))] [.cells [.d (.bool), .d (.int .u64), .d (.int .i64), .d (.sl (.st 3)), .mp 1, .mp 2, .mp 3], .map (.str) (.int .i64), .map (.str) (.sl (.int .u64)), .map (.str) (.bool)] (.tup [.one (.d (.int .u64)), .one (.d (.bool))]) [.cells [.d (.bool), .d (.int .u64), .d (.int .i64), .d (.sl (.st 3)), .mp 1, .mp 2, .mp 3], .map (.str) (.int .i64), .map (.str) (.sl (.int .u64)), .map (.str) (.bool)]
abbrev k10g := HL TB.den (hsT k2t.ins (hsOs k2t.pre))
abbrev k7d := HL TB.den (hsV k2t.res (hsOs k2t.post))
def k6q : Cx TB := ⟨inf, [kl2], [], 4, []⟩
def ka8 : Code := Try.f72.body.getD .skip
def kgi : List ResultVar := Try.f72.results.toList
def k1e3 (o : k7d) := qS TB k6q 21 4 (cB (cB ka8)) .no (retTQ TB k6q k2t kgi o)
def kes : Tm := ⟨[0, 1, 2, 3], [.cells [.d (.bool), .d (.int .u64), .d (.int .i64), .d (.sl (.st 3)), .mp 1, .mp 2, .mp 3], .map (.str) (.int .i64), .map (.str) (.sl (.int .u64)), .map (.str) (.bool)], [0, 1, 2, 13], [.one (.ptr 0 0), .one (.d (.int .u64)), .one (.d (.int .u64)), .one (.d (.bool))], 4⟩
def ktq (o : k7d) (i : HL TB.den kes.hs) : Prop := ghs TB [] (kes.fill TB i) fun s => WP TB k6q 21 4 (cB (cA (cB ka8))) .no s (k1e3 o)
structure k9s (o : k7d) (i : HL TB.den kes.hs) : Prop where
 h : ktq o i
def k1de (o : k7d) : An TB := .nd [] (.jn kes (k9s o) [] .no [] .no) [] .no
def kvk (o : k7d) : An TB := .nd [] .no [] (k1de o)
def kir (x : k10g) (o : k7d) : Prop := WPh TB k6q 21 4 ka8 (kvk o) (k2t.st TB x) (retTQ TB k6q k2t kgi o)
theorem k1av (o : k7d) : OblH TB k6q 21 4 ka8 (kvk o) (retTQ TB k6q k2t kgi o) :=
 OblH.ofC (X := ((∀ i, (k9s o) i = ktq o i) ∧ True)) (by kernel_rfl) ⟨fun _ => propext ⟨fun h => h.1, fun h => ⟨h⟩⟩, trivial⟩
theorem k1bi {x : k10g} {o : k7d} (h : kir x o) : k2t.Snd Try.prog x o :=
 Con.soundH (c := k2t) (C := k6q) TBok ⟨inf_ok, (all_cons kwr all_nil), all_nil⟩ mix Try.func72 (show Try.f72.body = some ka8 by kernel_rfl) (show Try.f72.ntmps = 21 by kernel_rfl) (show Try.f72.results.toList = kgi by kernel_rfl) rfl h (k1av o)
theorem k1d5 {p1 : Int} {p2 : Int} {c0_0 : Bool} {c0_1 : Int} {c0_2 : Int} {c0_3 : List TQuestion} {w1k : List ByteArray} {w1v : List Int} {w2k : List ByteArray} {w2v : List (List Int)} {w3k : List ByteArray} {w3v : List Bool} {r0 : Int} {r1 : Bool} {d0_0 : Bool} {d0_1 : Int} {d0_2 : Int} {d0_3 : List TQuestion} {e1k : List ByteArray} {e1v : List Int} {e2k : List ByteArray} {e2v : List (List Int)} {e3k : List ByteArray} {e3v : List Bool} (h :
((decide (18446744069414584321 ≤ p1) = true →
 k9s (r0, r1, d0_0, d0_1, d0_2, d0_3, e1k, e1v, e2k, e2v, e3k, e3v, ()) (p1, p2, true, c0_0, c0_1, c0_2, c0_3, w1k, w1v, w2k, w2v, w3k, w3v, ())) ∧
(decide (18446744069414584321 ≤ p1) = false →
 k9s (r0, r1, d0_0, d0_1, d0_2, d0_3, e1k, e1v, e2k, e2v, e3k, e3v, ()) (p1, p2, (decide (18446744069414584321 ≤ p2) : Bool), c0_0, c0_1, c0_2, c0_3, w1k, w1v, w2k, w2v, w3k, w3v, ())))) : kir (p1, p2, c0_0, c0_1, c0_2, c0_3, w1k, w1v, w2k, w2v, w3k, w3v, ()) (r0, r1, d0_0, d0_1, d0_2, d0_3, e1k, e1v, e2k, e2v, e3k, e3v, ()) := WPh.of_eq (by kernel_rfl) h
theorem k15h {r0 : Int} {r1 : Bool} {d0_0 : Bool} {d0_1 : Int} {d0_2 : Int} {d0_3 : List TQuestion} {e1k : List ByteArray} {e1v : List Int} {e2k : List ByteArray} {e2v : List (List Int)} {e3k : List ByteArray} {e3v : List Bool} {s1 : Int} {s2 : Int} {s13 : Bool} {h0_0 : Bool} {h0_1 : Int} {h0_2 : Int} {h0_3 : List TQuestion} {g1k : List ByteArray} {g1v : List Int} {g2k : List ByteArray} {g2v : List (List Int)} {g3k : List ByteArray} {g3v : List Bool} (h :
((s13 = true →
 0 = r0 ∧ false = r1 ∧ h0_0 = d0_0 ∧ h0_1 = d0_1 ∧ h0_2 = d0_2 ∧ h0_3 = d0_3 ∧ g1k = e1k ∧ g1v = e1v ∧ g2k = e2k ∧ g2v = e2v ∧ g3k = e3k ∧ g3v = e3v) ∧
(s13 = false →
(U64 (3 : Int) ∧ Us [s1, s2] ∧ [s1, s2].length ≤ 1073741824 ∧ OrOk g1k g1v h0_3) ∧ let r2 : Int := ((pk h0_0 h0_3 g1k g1v (3 : Int) [s1, s2]).getD 0)
 let r3 : Bool := ((pk h0_0 h0_3 g1k g1v (3 : Int) [s1, s2]).isSome)
 r2 = r0 ∧ r3 = r1 ∧ h0_0 = d0_0 ∧ h0_1 = d0_1 ∧ h0_2 = d0_2 ∧ h0_3 = d0_3 ∧ g1k = e1k ∧ g1v = e1v ∧ g2k = e2k ∧ g2v = e2v ∧ g3k = e3k ∧ g3v = e3v))) : k9s (r0, r1, d0_0, d0_1, d0_2, d0_3, e1k, e1v, e2k, e2v, e3k, e3v, ()) (s1, s2, s13, h0_0, h0_1, h0_2, h0_3, g1k, g1v, g2k, g2v, g3k, g3v, ()) := ⟨mpr_of (by kernel_rfl) h⟩
theorem bd72 : Callable Try.prog 72 := ⟨by rw [Try.func72]; kernel_rfl, by rw [Try.func72]; show some _ ≠ some _; decide⟩
theorem k18e (p1 : Int) (p2 : Int) (c0_0 : Bool) (c0_1 : Int) (c0_2 : Int) (c0_3 : List TQuestion) (w1k : List ByteArray) (w1v : List Int) (w2k : List ByteArray) (w2v : List (List Int)) (w3k : List ByteArray) (w3v : List Bool) (h : U64 p1 ∧ U64 p2 ∧ OrOk w1k w1v c0_3) : kir (p1, p2, c0_0, c0_1, c0_2, c0_3, w1k, w1v, w2k, w2v, w3k, w3v, ()) ((((markP (pk c0_0 c0_3 w1k w1v) p1 p2).getD 0) : Int), (((markP (pk c0_0 c0_3 w1k w1v) p1 p2).isSome) : Bool), (c0_0 : Bool), (c0_1 : Int), (c0_2 : Int), (c0_3 : List TQuestion), (w1k : List ByteArray), (w1v : List Int), (w2k : List ByteArray), (w2v : List (List Int)), (w3k : List ByteArray), (w3v : List Bool), ()) := by
 obtain ⟨h1, h2, ho⟩ := h
 have j1 : ∀ s : Bool, s = decide (¬ (p1 < 18446744069414584321 ∧ p2 < 18446744069414584321)) → k9s (((markP (pk c0_0 c0_3 w1k w1v) p1 p2).getD 0 : Int), ((markP (pk c0_0 c0_3 w1k w1v) p1 p2).isSome : Bool), c0_0, c0_1, c0_2, c0_3, w1k, w1v, w2k, w2v, w3k, w3v, ()) (p1, p2, s, c0_0, c0_1, c0_2, c0_3, w1k, w1v, w2k, w2v, w3k, w3v, ()) := by
  intro s hs
  refine k15h ⟨fun e => ?_, fun e => ?_⟩
  ·rw [e] at hs
   have hs := of_decide_eq_true hs.symm
   unfold markP
   rw [if_neg hs]
   simp
  ·rw [e] at hs
   have hs : p1 < 18446744069414584321 ∧ p2 < 18446744069414584321 := by simpa using hs.symm
   unfold markP
   rw [if_pos hs]
   refine ⟨⟨by decide, ?_, by simp, ho⟩, ?_⟩
   ·intro x hx
    simp only [List.mem_cons, List.not_mem_nil, or_false] at hx
    rcases hx with rfl | rfl
    ·exact h1
    ·exact h2
   ·simp
 refine k1d5 ⟨fun e => j1 _ ?_, fun e => j1 _ ?_⟩
 ·have e := of_decide_eq_true e
  symm; apply decide_eq_true; omega
 ·have e := of_decide_eq_false e
  congr 1; apply propext; omega
def ktj : Con TB.den := k2t.fnR (fun x => (fun (p1 : Int) (p2 : Int) (c0_0 : Bool) (c0_1 : Int) (c0_2 : Int) (c0_3 : List TQuestion) (w1k : List ByteArray) (w1v : List Int) (w2k : List ByteArray) (w2v : List (List Int)) (w3k : List ByteArray) (w3v : List Bool) => U64 p1 ∧ U64 p2 ∧ OrOk w1k w1v c0_3) x.1 x.2.1 x.2.2.1 x.2.2.2.1 x.2.2.2.2.1 x.2.2.2.2.2.1 x.2.2.2.2.2.2.1 x.2.2.2.2.2.2.2.1 x.2.2.2.2.2.2.2.2.1 x.2.2.2.2.2.2.2.2.2.1 x.2.2.2.2.2.2.2.2.2.2.1 x.2.2.2.2.2.2.2.2.2.2.2.1) fun x => ((fun (p1 : Int) (p2 : Int) (c0_0 : Bool) (c0_1 : Int) (c0_2 : Int) (c0_3 : List TQuestion) (w1k : List ByteArray) (w1v : List Int) (w2k : List ByteArray) (w2v : List (List Int)) (w3k : List ByteArray) (w3v : List Bool) => (((markP (pk c0_0 c0_3 w1k w1v) p1 p2).getD 0) : Int)) x.1 x.2.1 x.2.2.1 x.2.2.2.1 x.2.2.2.2.1 x.2.2.2.2.2.1 x.2.2.2.2.2.2.1 x.2.2.2.2.2.2.2.1 x.2.2.2.2.2.2.2.2.1 x.2.2.2.2.2.2.2.2.2.1 x.2.2.2.2.2.2.2.2.2.2.1 x.2.2.2.2.2.2.2.2.2.2.2.1, (fun (p1 : Int) (p2 : Int) (c0_0 : Bool) (c0_1 : Int) (c0_2 : Int) (c0_3 : List TQuestion) (w1k : List ByteArray) (w1v : List Int) (w2k : List ByteArray) (w2v : List (List Int)) (w3k : List ByteArray) (w3v : List Bool) => (((markP (pk c0_0 c0_3 w1k w1v) p1 p2).isSome) : Bool)) x.1 x.2.1 x.2.2.1 x.2.2.2.1 x.2.2.2.2.1 x.2.2.2.2.2.1 x.2.2.2.2.2.2.1 x.2.2.2.2.2.2.2.1 x.2.2.2.2.2.2.2.2.1 x.2.2.2.2.2.2.2.2.2.1 x.2.2.2.2.2.2.2.2.2.2.1 x.2.2.2.2.2.2.2.2.2.2.2.1, (fun (p1 : Int) (p2 : Int) (c0_0 : Bool) (c0_1 : Int) (c0_2 : Int) (c0_3 : List TQuestion) (w1k : List ByteArray) (w1v : List Int) (w2k : List ByteArray) (w2v : List (List Int)) (w3k : List ByteArray) (w3v : List Bool) => (c0_0 : Bool)) x.1 x.2.1 x.2.2.1 x.2.2.2.1 x.2.2.2.2.1 x.2.2.2.2.2.1 x.2.2.2.2.2.2.1 x.2.2.2.2.2.2.2.1 x.2.2.2.2.2.2.2.2.1 x.2.2.2.2.2.2.2.2.2.1 x.2.2.2.2.2.2.2.2.2.2.1 x.2.2.2.2.2.2.2.2.2.2.2.1, (fun (p1 : Int) (p2 : Int) (c0_0 : Bool) (c0_1 : Int) (c0_2 : Int) (c0_3 : List TQuestion) (w1k : List ByteArray) (w1v : List Int) (w2k : List ByteArray) (w2v : List (List Int)) (w3k : List ByteArray) (w3v : List Bool) => (c0_1 : Int)) x.1 x.2.1 x.2.2.1 x.2.2.2.1 x.2.2.2.2.1 x.2.2.2.2.2.1 x.2.2.2.2.2.2.1 x.2.2.2.2.2.2.2.1 x.2.2.2.2.2.2.2.2.1 x.2.2.2.2.2.2.2.2.2.1 x.2.2.2.2.2.2.2.2.2.2.1 x.2.2.2.2.2.2.2.2.2.2.2.1, (fun (p1 : Int) (p2 : Int) (c0_0 : Bool) (c0_1 : Int) (c0_2 : Int) (c0_3 : List TQuestion) (w1k : List ByteArray) (w1v : List Int) (w2k : List ByteArray) (w2v : List (List Int)) (w3k : List ByteArray) (w3v : List Bool) => (c0_2 : Int)) x.1 x.2.1 x.2.2.1 x.2.2.2.1 x.2.2.2.2.1 x.2.2.2.2.2.1 x.2.2.2.2.2.2.1 x.2.2.2.2.2.2.2.1 x.2.2.2.2.2.2.2.2.1 x.2.2.2.2.2.2.2.2.2.1 x.2.2.2.2.2.2.2.2.2.2.1 x.2.2.2.2.2.2.2.2.2.2.2.1, (fun (p1 : Int) (p2 : Int) (c0_0 : Bool) (c0_1 : Int) (c0_2 : Int) (c0_3 : List TQuestion) (w1k : List ByteArray) (w1v : List Int) (w2k : List ByteArray) (w2v : List (List Int)) (w3k : List ByteArray) (w3v : List Bool) => (c0_3 : List TQuestion)) x.1 x.2.1 x.2.2.1 x.2.2.2.1 x.2.2.2.2.1 x.2.2.2.2.2.1 x.2.2.2.2.2.2.1 x.2.2.2.2.2.2.2.1 x.2.2.2.2.2.2.2.2.1 x.2.2.2.2.2.2.2.2.2.1 x.2.2.2.2.2.2.2.2.2.2.1 x.2.2.2.2.2.2.2.2.2.2.2.1, (fun (p1 : Int) (p2 : Int) (c0_0 : Bool) (c0_1 : Int) (c0_2 : Int) (c0_3 : List TQuestion) (w1k : List ByteArray) (w1v : List Int) (w2k : List ByteArray) (w2v : List (List Int)) (w3k : List ByteArray) (w3v : List Bool) => (w1k : List ByteArray)) x.1 x.2.1 x.2.2.1 x.2.2.2.1 x.2.2.2.2.1 x.2.2.2.2.2.1 x.2.2.2.2.2.2.1 x.2.2.2.2.2.2.2.1 x.2.2.2.2.2.2.2.2.1 x.2.2.2.2.2.2.2.2.2.1 x.2.2.2.2.2.2.2.2.2.2.1 x.2.2.2.2.2.2.2.2.2.2.2.1, (fun (p1 : Int) (p2 : Int) (c0_0 : Bool) (c0_1 : Int) (c0_2 : Int) (c0_3 : List TQuestion) (w1k : List ByteArray) (w1v : List Int) (w2k : List ByteArray) (w2v : List (List Int)) (w3k : List ByteArray) (w3v : List Bool) => (w1v : List Int)) x.1 x.2.1 x.2.2.1 x.2.2.2.1 x.2.2.2.2.1 x.2.2.2.2.2.1 x.2.2.2.2.2.2.1 x.2.2.2.2.2.2.2.1 x.2.2.2.2.2.2.2.2.1 x.2.2.2.2.2.2.2.2.2.1 x.2.2.2.2.2.2.2.2.2.2.1 x.2.2.2.2.2.2.2.2.2.2.2.1, (fun (p1 : Int) (p2 : Int) (c0_0 : Bool) (c0_1 : Int) (c0_2 : Int) (c0_3 : List TQuestion) (w1k : List ByteArray) (w1v : List Int) (w2k : List ByteArray) (w2v : List (List Int)) (w3k : List ByteArray) (w3v : List Bool) => (w2k : List ByteArray)) x.1 x.2.1 x.2.2.1 x.2.2.2.1 x.2.2.2.2.1 x.2.2.2.2.2.1 x.2.2.2.2.2.2.1 x.2.2.2.2.2.2.2.1 x.2.2.2.2.2.2.2.2.1 x.2.2.2.2.2.2.2.2.2.1 x.2.2.2.2.2.2.2.2.2.2.1 x.2.2.2.2.2.2.2.2.2.2.2.1, (fun (p1 : Int) (p2 : Int) (c0_0 : Bool) (c0_1 : Int) (c0_2 : Int) (c0_3 : List TQuestion) (w1k : List ByteArray) (w1v : List Int) (w2k : List ByteArray) (w2v : List (List Int)) (w3k : List ByteArray) (w3v : List Bool) => (w2v : List (List Int))) x.1 x.2.1 x.2.2.1 x.2.2.2.1 x.2.2.2.2.1 x.2.2.2.2.2.1 x.2.2.2.2.2.2.1 x.2.2.2.2.2.2.2.1 x.2.2.2.2.2.2.2.2.1 x.2.2.2.2.2.2.2.2.2.1 x.2.2.2.2.2.2.2.2.2.2.1 x.2.2.2.2.2.2.2.2.2.2.2.1, (fun (p1 : Int) (p2 : Int) (c0_0 : Bool) (c0_1 : Int) (c0_2 : Int) (c0_3 : List TQuestion) (w1k : List ByteArray) (w1v : List Int) (w2k : List ByteArray) (w2v : List (List Int)) (w3k : List ByteArray) (w3v : List Bool) => (w3k : List ByteArray)) x.1 x.2.1 x.2.2.1 x.2.2.2.1 x.2.2.2.2.1 x.2.2.2.2.2.1 x.2.2.2.2.2.2.1 x.2.2.2.2.2.2.2.1 x.2.2.2.2.2.2.2.2.1 x.2.2.2.2.2.2.2.2.2.1 x.2.2.2.2.2.2.2.2.2.2.1 x.2.2.2.2.2.2.2.2.2.2.2.1, (fun (p1 : Int) (p2 : Int) (c0_0 : Bool) (c0_1 : Int) (c0_2 : Int) (c0_3 : List TQuestion) (w1k : List ByteArray) (w1v : List Int) (w2k : List ByteArray) (w2v : List (List Int)) (w3k : List ByteArray) (w3v : List Bool) => (w3v : List Bool)) x.1 x.2.1 x.2.2.1 x.2.2.2.1 x.2.2.2.2.1 x.2.2.2.2.2.1 x.2.2.2.2.2.2.1 x.2.2.2.2.2.2.2.1 x.2.2.2.2.2.2.2.2.1 x.2.2.2.2.2.2.2.2.2.1 x.2.2.2.2.2.2.2.2.2.2.1 x.2.2.2.2.2.2.2.2.2.2.2.1, ())
theorem k1dg : ktj.Ok Try.prog TB := Con.ok_fn k2t bd72 fun x h => k1bi (k18e x.1 x.2.1 x.2.2.1 x.2.2.2.1 x.2.2.2.2.1 x.2.2.2.2.2.1 x.2.2.2.2.2.2.1 x.2.2.2.2.2.2.2.1 x.2.2.2.2.2.2.2.2.1 x.2.2.2.2.2.2.2.2.2.1 x.2.2.2.2.2.2.2.2.2.2.1 x.2.2.2.2.2.2.2.2.2.2.2.1 h)
def k1i : Con TB.den := Con.mk0 33 [.one (.ptr 0 0), .agg [.d (.int .i64), .d (.int .u64), .d (.sl (.int .u64)), .d (.sl (.int .u64)), .d (.sl (.int .u64)), .d (.int .u64), .d (.int .u64), .d (.int .u64), .d (.int .u64), .d (.int .u64)], .agg [.d (.int .u64), .d (.int .u64), .d (.int .u64), .d (.int .u64), .d (.int .u64), .d (.int .i64), .d (.int .i64), .d (.sl (.int .u64)), .d (.bool)], .one (.d (.int .u64))] [.cells [.d (.bool), .d (.int .u64), .d (.int .i64), .d (.sl (.st 3)), .mp 1, .mp 2, .mp 3], .map (.str) (.int .i64), .map (.str) (.sl (.int .u64)), .map (.str) (.bool)] (.one (.one (.d (.int .i64)))) [.cells [.d (.bool), .d (.int .u64), .d (.int .i64), .d (.sl (.st 3)), .mp 1, .mp 2, .mp 3], .map (.str) (.int .i64), .map (.str) (.sl (.int .u64)), .map (.str) (.bool)]
abbrev koo := HL TB.den (hsT k1i.ins (hsOs k1i.pre))
abbrev kb5 := HL TB.den (hsV k1i.res (hsOs k1i.post))
def k7i : Cx TB := ⟨inf, [kwp, ktj, kej, kou], [], 4, []⟩
def kc7 : Code := Try.f33.body.getD .skip
def ked : List ResultVar := Try.f33.results.toList
def kln (o : kb5) : An TB := .no
def kby (x : koo) (o : kb5) : Prop := WPh TB k7i 64 4 kc7 (kln o) (k1i.st TB x) (retTQ TB k7i k1i ked o)
theorem kyc (o : kb5) : OblH TB k7i 64 4 kc7 (kln o) (retTQ TB k7i k1i ked o) :=
 OblH.ofC (X := True) (by kernel_rfl) trivial
theorem kyn {x : koo} {o : kb5} (h : kby x o) : k1i.Snd Try.prog x o :=
 Con.soundH (c := k1i) (C := k7i) TBok ⟨inf_ok, (all_cons k1id (all_cons k1dg (all_cons kox (all_cons k161 all_nil)))), all_nil⟩ mix Try.func33 (show Try.f33.body = some kc7 by kernel_rfl) (show Try.f33.ntmps = 64 by kernel_rfl) (show Try.f33.results.toList = ked by kernel_rfl) rfl h (kyc o)
theorem k10r {p1 : TStatement} {p2 : TSpent} {p3 : Int} {c0_0 : Bool} {c0_1 : Int} {c0_2 : Int} {c0_3 : List TQuestion} {w1k : List ByteArray} {w1v : List Int} {w2k : List ByteArray} {w2v : List (List Int)} {w3k : List ByteArray} {w3v : List Bool} {r0 : Int} {d0_0 : Bool} {d0_1 : Int} {d0_2 : Int} {d0_3 : List TQuestion} {e1k : List ByteArray} {e1v : List Int} {e2k : List ByteArray} {e2v : List (List Int)} {e3k : List ByteArray} {e3v : List Bool} (h :
((U64 p2.Key ∧ -9223372036854775808 ≤ p2.Number ∧ p2.Number ≤ 9223372036854775807) ∧ let v1 : Bool := (p2.Note_Owner != (ownerS p2.Key p2.Number))
(v1 = true →
 21 = r0 ∧ c0_0 = d0_0 ∧ c0_1 = d0_1 ∧ c0_2 = d0_2 ∧ c0_3 = d0_3 ∧ w1k = e1k ∧ w1v = e1v ∧ w2k = e2k ∧ w2v = e2v ∧ w3k = e3k ∧ w3v = e3v) ∧
(v1 = false →
(U64 p2.Key ∧ U64 p2.Note_Rho ∧ OrOk w1k w1v c0_3) ∧ let r2 : Int := ((markP (pk c0_0 c0_3 w1k w1v) p2.Key p2.Note_Rho).getD 0)
 let r3 : Bool := ((markP (pk c0_0 c0_3 w1k w1v) p2.Key p2.Note_Rho).isSome)
((!r3) = true →
 12 = r0 ∧ c0_0 = d0_0 ∧ c0_1 = d0_1 ∧ c0_2 = d0_2 ∧ c0_3 = d0_3 ∧ w1k = e1k ∧ w1v = e1v ∧ w2k = e2k ∧ w2v = e2v ∧ w3k = e3k ∧ w3v = e3v) ∧
((!r3) = false →
((r2 != p3) = true →
 12 = r0 ∧ c0_0 = d0_0 ∧ c0_1 = d0_1 ∧ c0_2 = d0_2 ∧ c0_3 = d0_3 ∧ w1k = e1k ∧ w1v = e1v ∧ w2k = e2k ∧ w2v = e2v ∧ w3k = e3k ∧ w3v = e3v) ∧
((r2 != p3) = false →
(p2.Dummy = true →
((p2.Note_Value != 0) = true →
 13 = r0 ∧ c0_0 = d0_0 ∧ c0_1 = d0_1 ∧ c0_2 = d0_2 ∧ c0_3 = d0_3 ∧ w1k = e1k ∧ w1v = e1v ∧ w2k = e2k ∧ w2v = e2v ∧ w3k = e3k ∧ w3v = e3v) ∧
((p2.Note_Value != 0) = false →
 0 = r0 ∧ c0_0 = d0_0 ∧ c0_1 = d0_1 ∧ c0_2 = d0_2 ∧ c0_3 = d0_3 ∧ w1k = e1k ∧ w1v = e1v ∧ w2k = e2k ∧ w2v = e2v ∧ w3k = e3k ∧ w3v = e3v)) ∧
(p2.Dummy = false →
(NR (TNote.mk p2.Note_Value p2.Note_Owner p2.Note_Rho p2.Note_Blind) ∧ OrOk w1k w1v c0_3) ∧ let r4 : Int := ((commP (pk c0_0 c0_3 w1k w1v) (TNote.mk p2.Note_Value p2.Note_Owner p2.Note_Rho p2.Note_Blind)).getD 0)
 let r5 : Bool := ((commP (pk c0_0 c0_3 w1k w1v) (TNote.mk p2.Note_Value p2.Note_Owner p2.Note_Rho p2.Note_Blind)).isSome)
((!r5) = true →
 11 = r0 ∧ c0_0 = d0_0 ∧ c0_1 = d0_1 ∧ c0_2 = d0_2 ∧ c0_3 = d0_3 ∧ w1k = e1k ∧ w1v = e1v ∧ w2k = e2k ∧ w2v = e2v ∧ w3k = e3k ∧ w3v = e3v) ∧
((!r5) = false →
(U64 r4 ∧ Us p2.Path ∧ p2.Path.length ≤ 1073741824 ∧ p2.Position ≤ 9223372036854775807) ∧ let v6 : Bool := ((climbS r4 p2.Position p2.Path) != p1.Anchor)
(v6 = true →
 11 = r0 ∧ c0_0 = d0_0 ∧ c0_1 = d0_1 ∧ c0_2 = d0_2 ∧ c0_3 = d0_3 ∧ w1k = e1k ∧ w1v = e1v ∧ w2k = e2k ∧ w2v = e2v ∧ w3k = e3k ∧ w3v = e3v) ∧
(v6 = false →
 0 = r0 ∧ c0_0 = d0_0 ∧ c0_1 = d0_1 ∧ c0_2 = d0_2 ∧ c0_3 = d0_3 ∧ w1k = e1k ∧ w1v = e1v ∧ w2k = e2k ∧ w2v = e2v ∧ w3k = e3k ∧ w3v = e3v)))))))) : kby (p1.Depth, p1.Anchor, p1.Marks, p1.Commits, p1.Rhos, p1.Deposit, p1.Withdraw, p1.Fee, p1.Account, p1.Bind, p2.Note_Value, p2.Note_Owner, p2.Note_Rho, p2.Note_Blind, p2.Key, p2.Number, p2.Position, p2.Path, p2.Dummy, p3, c0_0, c0_1, c0_2, c0_3, w1k, w1v, w2k, w2v, w3k, w3v, ()) (r0, d0_0, d0_1, d0_2, d0_3, e1k, e1v, e2k, e2v, e3k, e3v, ()) := WPh.of_eq (by kernel_rfl) h
theorem bd33 : Callable Try.prog 33 := ⟨by rw [Try.func33]; kernel_rfl, by rw [Try.func33]; show some _ ≠ some _; decide⟩
theorem kwe (p1 : TStatement) (p2 : TSpent) (p3 : Int) (c0_0 : Bool) (c0_1 : Int) (c0_2 : Int) (c0_3 : List TQuestion) (w1k : List ByteArray) (w1v : List Int) (w2k : List ByteArray) (w2v : List (List Int)) (w3k : List ByteArray) (w3v : List Bool) (h : PR p2 ∧ OrOk w1k w1v c0_3 ∧ (∀ l a, (pk c0_0 c0_3 w1k w1v) l a = none ∨ ∃ n, (pk c0_0 c0_3 w1k w1v) l a = some n ∧ U64 n)) : kby (p1.Depth, p1.Anchor, p1.Marks, p1.Commits, p1.Rhos, p1.Deposit, p1.Withdraw, p1.Fee, p1.Account, p1.Bind, p2.Note_Value, p2.Note_Owner, p2.Note_Rho, p2.Note_Blind, p2.Key, p2.Number, p2.Position, p2.Path, p2.Dummy, p3, c0_0, c0_1, c0_2, c0_3, w1k, w1v, w2k, w2v, w3k, w3v, ()) (((inE (pk c0_0 c0_3 w1k w1v) p1.Anchor p3 p2) : Int), (c0_0 : Bool), (c0_1 : Int), (c0_2 : Int), (c0_3 : List TQuestion), (w1k : List ByteArray), (w1v : List Int), (w2k : List ByteArray), (w2v : List (List Int)), (w3k : List ByteArray), (w3v : List Bool), ()) := by
 obtain ⟨hp, ho, hu⟩ := h
 have hm : markP (pk c0_0 c0_3 w1k w1v) p2.Key p2.Note_Rho = none ∨ ∃ n, markP (pk c0_0 c0_3 w1k w1v) p2.Key p2.Note_Rho = some n ∧ U64 n := by unfold markP; split; exact hu _ _; exact .inl rfl
 have hc : commP (pk c0_0 c0_3 w1k w1v) (noteOf p2) = none ∨ ∃ n, commP (pk c0_0 c0_3 w1k w1v) (noteOf p2) = some n ∧ U64 n := by unfold commP; split; exact hu _ _; exact .inl rfl
 have hcu : U64 ((commP (pk c0_0 c0_3 w1k w1v) (noteOf p2)).getD 0) := by
  rcases hc with h | ⟨n, h, hn⟩
  ·rw [h]; decide
  ·rw [h]; exact hn
 have en : noteOf p2 = ⟨p2.Note_Value, p2.Note_Owner, p2.Note_Rho, p2.Note_Blind⟩ := rfl
 refine k10r ⟨⟨hp.k, hp.nu.1, hp.nu.2⟩, ?_⟩
 simp only [← en]
 unfold inE
 refine ⟨fun e => ?_, fun e => ⟨⟨hp.k, hp.n.r, ho⟩, fun e2 => ?_, fun e2 => ⟨fun e3 => ?_, fun e3 => ⟨fun e4 => ⟨fun e5 => ?_, fun e5 => ?_⟩, fun e4 => ⟨⟨hp.n, ho⟩, fun e6 => ?_, fun e6 => ⟨⟨hcu, hp.pa, hp.pl, hp.po.2⟩, fun e7 => ?_, fun e7 => ?_⟩⟩⟩⟩⟩⟩
 all_goals simp_all
def kkp : Con TB.den := k1i.fnR (fun x => (fun (p1 : TStatement) (p2 : TSpent) (p3 : Int) (c0_0 : Bool) (c0_1 : Int) (c0_2 : Int) (c0_3 : List TQuestion) (w1k : List ByteArray) (w1v : List Int) (w2k : List ByteArray) (w2v : List (List Int)) (w3k : List ByteArray) (w3v : List Bool) => PR p2 ∧ OrOk w1k w1v c0_3 ∧ (∀ l a, (pk c0_0 c0_3 w1k w1v) l a = none ∨ ∃ n, (pk c0_0 c0_3 w1k w1v) l a = some n ∧ U64 n)) (TStatement.mk x.1 x.2.1 x.2.2.1 x.2.2.2.1 x.2.2.2.2.1 x.2.2.2.2.2.1 x.2.2.2.2.2.2.1 x.2.2.2.2.2.2.2.1 x.2.2.2.2.2.2.2.2.1 x.2.2.2.2.2.2.2.2.2.1) (TSpent.mk x.2.2.2.2.2.2.2.2.2.2.1 x.2.2.2.2.2.2.2.2.2.2.2.1 x.2.2.2.2.2.2.2.2.2.2.2.2.1 x.2.2.2.2.2.2.2.2.2.2.2.2.2.1 x.2.2.2.2.2.2.2.2.2.2.2.2.2.2.1 x.2.2.2.2.2.2.2.2.2.2.2.2.2.2.2.1 x.2.2.2.2.2.2.2.2.2.2.2.2.2.2.2.2.1 x.2.2.2.2.2.2.2.2.2.2.2.2.2.2.2.2.2.1 x.2.2.2.2.2.2.2.2.2.2.2.2.2.2.2.2.2.2.1) x.2.2.2.2.2.2.2.2.2.2.2.2.2.2.2.2.2.2.2.1 x.2.2.2.2.2.2.2.2.2.2.2.2.2.2.2.2.2.2.2.2.1 x.2.2.2.2.2.2.2.2.2.2.2.2.2.2.2.2.2.2.2.2.2.1 x.2.2.2.2.2.2.2.2.2.2.2.2.2.2.2.2.2.2.2.2.2.2.1 x.2.2.2.2.2.2.2.2.2.2.2.2.2.2.2.2.2.2.2.2.2.2.2.1 x.2.2.2.2.2.2.2.2.2.2.2.2.2.2.2.2.2.2.2.2.2.2.2.2.1 x.2.2.2.2.2.2.2.2.2.2.2.2.2.2.2.2.2.2.2.2.2.2.2.2.2.1 x.2.2.2.2.2.2.2.2.2.2.2.2.2.2.2.2.2.2.2.2.2.2.2.2.2.2.1 x.2.2.2.2.2.2.2.2.2.2.2.2.2.2.2.2.2.2.2.2.2.2.2.2.2.2.2.1 x.2.2.2.2.2.2.2.2.2.2.2.2.2.2.2.2.2.2.2.2.2.2.2.2.2.2.2.2.1 x.2.2.2.2.2.2.2.2.2.2.2.2.2.2.2.2.2.2.2.2.2.2.2.2.2.2.2.2.2.1) fun x => ((fun (p1 : TStatement) (p2 : TSpent) (p3 : Int) (c0_0 : Bool) (c0_1 : Int) (c0_2 : Int) (c0_3 : List TQuestion) (w1k : List ByteArray) (w1v : List Int) (w2k : List ByteArray) (w2v : List (List Int)) (w3k : List ByteArray) (w3v : List Bool) => ((inE (pk c0_0 c0_3 w1k w1v) p1.Anchor p3 p2) : Int)) (TStatement.mk x.1 x.2.1 x.2.2.1 x.2.2.2.1 x.2.2.2.2.1 x.2.2.2.2.2.1 x.2.2.2.2.2.2.1 x.2.2.2.2.2.2.2.1 x.2.2.2.2.2.2.2.2.1 x.2.2.2.2.2.2.2.2.2.1) (TSpent.mk x.2.2.2.2.2.2.2.2.2.2.1 x.2.2.2.2.2.2.2.2.2.2.2.1 x.2.2.2.2.2.2.2.2.2.2.2.2.1 x.2.2.2.2.2.2.2.2.2.2.2.2.2.1 x.2.2.2.2.2.2.2.2.2.2.2.2.2.2.1 x.2.2.2.2.2.2.2.2.2.2.2.2.2.2.2.1 x.2.2.2.2.2.2.2.2.2.2.2.2.2.2.2.2.1 x.2.2.2.2.2.2.2.2.2.2.2.2.2.2.2.2.2.1 x.2.2.2.2.2.2.2.2.2.2.2.2.2.2.2.2.2.2.1) x.2.2.2.2.2.2.2.2.2.2.2.2.2.2.2.2.2.2.2.1 x.2.2.2.2.2.2.2.2.2.2.2.2.2.2.2.2.2.2.2.2.1 x.2.2.2.2.2.2.2.2.2.2.2.2.2.2.2.2.2.2.2.2.2.1 x.2.2.2.2.2.2.2.2.2.2.2.2.2.2.2.2.2.2.2.2.2.2.1 x.2.2.2.2.2.2.2.2.2.2.2.2.2.2.2.2.2.2.2.2.2.2.2.1 x.2.2.2.2.2.2.2.2.2.2.2.2.2.2.2.2.2.2.2.2.2.2.2.2.1 x.2.2.2.2.2.2.2.2.2.2.2.2.2.2.2.2.2.2.2.2.2.2.2.2.2.1 x.2.2.2.2.2.2.2.2.2.2.2.2.2.2.2.2.2.2.2.2.2.2.2.2.2.2.1 x.2.2.2.2.2.2.2.2.2.2.2.2.2.2.2.2.2.2.2.2.2.2.2.2.2.2.2.1 x.2.2.2.2.2.2.2.2.2.2.2.2.2.2.2.2.2.2.2.2.2.2.2.2.2.2.2.2.1 x.2.2.2.2.2.2.2.2.2.2.2.2.2.2.2.2.2.2.2.2.2.2.2.2.2.2.2.2.2.1, (fun (p1 : TStatement) (p2 : TSpent) (p3 : Int) (c0_0 : Bool) (c0_1 : Int) (c0_2 : Int) (c0_3 : List TQuestion) (w1k : List ByteArray) (w1v : List Int) (w2k : List ByteArray) (w2v : List (List Int)) (w3k : List ByteArray) (w3v : List Bool) => (c0_0 : Bool)) (TStatement.mk x.1 x.2.1 x.2.2.1 x.2.2.2.1 x.2.2.2.2.1 x.2.2.2.2.2.1 x.2.2.2.2.2.2.1 x.2.2.2.2.2.2.2.1 x.2.2.2.2.2.2.2.2.1 x.2.2.2.2.2.2.2.2.2.1) (TSpent.mk x.2.2.2.2.2.2.2.2.2.2.1 x.2.2.2.2.2.2.2.2.2.2.2.1 x.2.2.2.2.2.2.2.2.2.2.2.2.1 x.2.2.2.2.2.2.2.2.2.2.2.2.2.1 x.2.2.2.2.2.2.2.2.2.2.2.2.2.2.1 x.2.2.2.2.2.2.2.2.2.2.2.2.2.2.2.1 x.2.2.2.2.2.2.2.2.2.2.2.2.2.2.2.2.1 x.2.2.2.2.2.2.2.2.2.2.2.2.2.2.2.2.2.1 x.2.2.2.2.2.2.2.2.2.2.2.2.2.2.2.2.2.2.1) x.2.2.2.2.2.2.2.2.2.2.2.2.2.2.2.2.2.2.2.1 x.2.2.2.2.2.2.2.2.2.2.2.2.2.2.2.2.2.2.2.2.1 x.2.2.2.2.2.2.2.2.2.2.2.2.2.2.2.2.2.2.2.2.2.1 x.2.2.2.2.2.2.2.2.2.2.2.2.2.2.2.2.2.2.2.2.2.2.1 x.2.2.2.2.2.2.2.2.2.2.2.2.2.2.2.2.2.2.2.2.2.2.2.1 x.2.2.2.2.2.2.2.2.2.2.2.2.2.2.2.2.2.2.2.2.2.2.2.2.1 x.2.2.2.2.2.2.2.2.2.2.2.2.2.2.2.2.2.2.2.2.2.2.2.2.2.1 x.2.2.2.2.2.2.2.2.2.2.2.2.2.2.2.2.2.2.2.2.2.2.2.2.2.2.1 x.2.2.2.2.2.2.2.2.2.2.2.2.2.2.2.2.2.2.2.2.2.2.2.2.2.2.2.1 x.2.2.2.2.2.2.2.2.2.2.2.2.2.2.2.2.2.2.2.2.2.2.2.2.2.2.2.2.1 x.2.2.2.2.2.2.2.2.2.2.2.2.2.2.2.2.2.2.2.2.2.2.2.2.2.2.2.2.2.1, (fun (p1 : TStatement) (p2 : TSpent) (p3 : Int) (c0_0 : Bool) (c0_1 : Int) (c0_2 : Int) (c0_3 : List TQuestion) (w1k : List ByteArray) (w1v : List Int) (w2k : List ByteArray) (w2v : List (List Int)) (w3k : List ByteArray) (w3v : List Bool) => (c0_1 : Int)) (TStatement.mk x.1 x.2.1 x.2.2.1 x.2.2.2.1 x.2.2.2.2.1 x.2.2.2.2.2.1 x.2.2.2.2.2.2.1 x.2.2.2.2.2.2.2.1 x.2.2.2.2.2.2.2.2.1 x.2.2.2.2.2.2.2.2.2.1) (TSpent.mk x.2.2.2.2.2.2.2.2.2.2.1 x.2.2.2.2.2.2.2.2.2.2.2.1 x.2.2.2.2.2.2.2.2.2.2.2.2.1 x.2.2.2.2.2.2.2.2.2.2.2.2.2.1 x.2.2.2.2.2.2.2.2.2.2.2.2.2.2.1 x.2.2.2.2.2.2.2.2.2.2.2.2.2.2.2.1 x.2.2.2.2.2.2.2.2.2.2.2.2.2.2.2.2.1 x.2.2.2.2.2.2.2.2.2.2.2.2.2.2.2.2.2.1 x.2.2.2.2.2.2.2.2.2.2.2.2.2.2.2.2.2.2.1) x.2.2.2.2.2.2.2.2.2.2.2.2.2.2.2.2.2.2.2.1 x.2.2.2.2.2.2.2.2.2.2.2.2.2.2.2.2.2.2.2.2.1 x.2.2.2.2.2.2.2.2.2.2.2.2.2.2.2.2.2.2.2.2.2.1 x.2.2.2.2.2.2.2.2.2.2.2.2.2.2.2.2.2.2.2.2.2.2.1 x.2.2.2.2.2.2.2.2.2.2.2.2.2.2.2.2.2.2.2.2.2.2.2.1 x.2.2.2.2.2.2.2.2.2.2.2.2.2.2.2.2.2.2.2.2.2.2.2.2.1 x.2.2.2.2.2.2.2.2.2.2.2.2.2.2.2.2.2.2.2.2.2.2.2.2.2.1 x.2.2.2.2.2.2.2.2.2.2.2.2.2.2.2.2.2.2.2.2.2.2.2.2.2.2.1 x.2.2.2.2.2.2.2.2.2.2.2.2.2.2.2.2.2.2.2.2.2.2.2.2.2.2.2.1 x.2.2.2.2.2.2.2.2.2.2.2.2.2.2.2.2.2.2.2.2.2.2.2.2.2.2.2.2.1 x.2.2.2.2.2.2.2.2.2.2.2.2.2.2.2.2.2.2.2.2.2.2.2.2.2.2.2.2.2.1, (fun (p1 : TStatement) (p2 : TSpent) (p3 : Int) (c0_0 : Bool) (c0_1 : Int) (c0_2 : Int) (c0_3 : List TQuestion) (w1k : List ByteArray) (w1v : List Int) (w2k : List ByteArray) (w2v : List (List Int)) (w3k : List ByteArray) (w3v : List Bool) => (c0_2 : Int)) (TStatement.mk x.1 x.2.1 x.2.2.1 x.2.2.2.1 x.2.2.2.2.1 x.2.2.2.2.2.1 x.2.2.2.2.2.2.1 x.2.2.2.2.2.2.2.1 x.2.2.2.2.2.2.2.2.1 x.2.2.2.2.2.2.2.2.2.1) (TSpent.mk x.2.2.2.2.2.2.2.2.2.2.1 x.2.2.2.2.2.2.2.2.2.2.2.1 x.2.2.2.2.2.2.2.2.2.2.2.2.1 x.2.2.2.2.2.2.2.2.2.2.2.2.2.1 x.2.2.2.2.2.2.2.2.2.2.2.2.2.2.1 x.2.2.2.2.2.2.2.2.2.2.2.2.2.2.2.1 x.2.2.2.2.2.2.2.2.2.2.2.2.2.2.2.2.1 x.2.2.2.2.2.2.2.2.2.2.2.2.2.2.2.2.2.1 x.2.2.2.2.2.2.2.2.2.2.2.2.2.2.2.2.2.2.1) x.2.2.2.2.2.2.2.2.2.2.2.2.2.2.2.2.2.2.2.1 x.2.2.2.2.2.2.2.2.2.2.2.2.2.2.2.2.2.2.2.2.1 x.2.2.2.2.2.2.2.2.2.2.2.2.2.2.2.2.2.2.2.2.2.1 x.2.2.2.2.2.2.2.2.2.2.2.2.2.2.2.2.2.2.2.2.2.2.1 x.2.2.2.2.2.2.2.2.2.2.2.2.2.2.2.2.2.2.2.2.2.2.2.1 x.2.2.2.2.2.2.2.2.2.2.2.2.2.2.2.2.2.2.2.2.2.2.2.2.1 x.2.2.2.2.2.2.2.2.2.2.2.2.2.2.2.2.2.2.2.2.2.2.2.2.2.1 x.2.2.2.2.2.2.2.2.2.2.2.2.2.2.2.2.2.2.2.2.2.2.2.2.2.2.1 x.2.2.2.2.2.2.2.2.2.2.2.2.2.2.2.2.2.2.2.2.2.2.2.2.2.2.2.1 x.2.2.2.2.2.2.2.2.2.2.2.2.2.2.2.2.2.2.2.2.2.2.2.2.2.2.2.2.1 x.2.2.2.2.2.2.2.2.2.2.2.2.2.2.2.2.2.2.2.2.2.2.2.2.2.2.2.2.2.1, (fun (p1 : TStatement) (p2 : TSpent) (p3 : Int) (c0_0 : Bool) (c0_1 : Int) (c0_2 : Int) (c0_3 : List TQuestion) (w1k : List ByteArray) (w1v : List Int) (w2k : List ByteArray) (w2v : List (List Int)) (w3k : List ByteArray) (w3v : List Bool) => (c0_3 : List TQuestion)) (TStatement.mk x.1 x.2.1 x.2.2.1 x.2.2.2.1 x.2.2.2.2.1 x.2.2.2.2.2.1 x.2.2.2.2.2.2.1 x.2.2.2.2.2.2.2.1 x.2.2.2.2.2.2.2.2.1 x.2.2.2.2.2.2.2.2.2.1) (TSpent.mk x.2.2.2.2.2.2.2.2.2.2.1 x.2.2.2.2.2.2.2.2.2.2.2.1 x.2.2.2.2.2.2.2.2.2.2.2.2.1 x.2.2.2.2.2.2.2.2.2.2.2.2.2.1 x.2.2.2.2.2.2.2.2.2.2.2.2.2.2.1 x.2.2.2.2.2.2.2.2.2.2.2.2.2.2.2.1 x.2.2.2.2.2.2.2.2.2.2.2.2.2.2.2.2.1 x.2.2.2.2.2.2.2.2.2.2.2.2.2.2.2.2.2.1 x.2.2.2.2.2.2.2.2.2.2.2.2.2.2.2.2.2.2.1) x.2.2.2.2.2.2.2.2.2.2.2.2.2.2.2.2.2.2.2.1 x.2.2.2.2.2.2.2.2.2.2.2.2.2.2.2.2.2.2.2.2.1 x.2.2.2.2.2.2.2.2.2.2.2.2.2.2.2.2.2.2.2.2.2.1 x.2.2.2.2.2.2.2.2.2.2.2.2.2.2.2.2.2.2.2.2.2.2.1 x.2.2.2.2.2.2.2.2.2.2.2.2.2.2.2.2.2.2.2.2.2.2.2.1 x.2.2.2.2.2.2.2.2.2.2.2.2.2.2.2.2.2.2.2.2.2.2.2.2.1 x.2.2.2.2.2.2.2.2.2.2.2.2.2.2.2.2.2.2.2.2.2.2.2.2.2.1 x.2.2.2.2.2.2.2.2.2.2.2.2.2.2.2.2.2.2.2.2.2.2.2.2.2.2.1 x.2.2.2.2.2.2.2.2.2.2.2.2.2.2.2.2.2.2.2.2.2.2.2.2.2.2.2.1 x.2.2.2.2.2.2.2.2.2.2.2.2.2.2.2.2.2.2.2.2.2.2.2.2.2.2.2.2.1 x.2.2.2.2.2.2.2.2.2.2.2.2.2.2.2.2.2.2.2.2.2.2.2.2.2.2.2.2.2.1, (fun (p1 : TStatement) (p2 : TSpent) (p3 : Int) (c0_0 : Bool) (c0_1 : Int) (c0_2 : Int) (c0_3 : List TQuestion) (w1k : List ByteArray) (w1v : List Int) (w2k : List ByteArray) (w2v : List (List Int)) (w3k : List ByteArray) (w3v : List Bool) => (w1k : List ByteArray)) (TStatement.mk x.1 x.2.1 x.2.2.1 x.2.2.2.1 x.2.2.2.2.1 x.2.2.2.2.2.1 x.2.2.2.2.2.2.1 x.2.2.2.2.2.2.2.1 x.2.2.2.2.2.2.2.2.1 x.2.2.2.2.2.2.2.2.2.1) (TSpent.mk x.2.2.2.2.2.2.2.2.2.2.1 x.2.2.2.2.2.2.2.2.2.2.2.1 x.2.2.2.2.2.2.2.2.2.2.2.2.1 x.2.2.2.2.2.2.2.2.2.2.2.2.2.1 x.2.2.2.2.2.2.2.2.2.2.2.2.2.2.1 x.2.2.2.2.2.2.2.2.2.2.2.2.2.2.2.1 x.2.2.2.2.2.2.2.2.2.2.2.2.2.2.2.2.1 x.2.2.2.2.2.2.2.2.2.2.2.2.2.2.2.2.2.1 x.2.2.2.2.2.2.2.2.2.2.2.2.2.2.2.2.2.2.1) x.2.2.2.2.2.2.2.2.2.2.2.2.2.2.2.2.2.2.2.1 x.2.2.2.2.2.2.2.2.2.2.2.2.2.2.2.2.2.2.2.2.1 x.2.2.2.2.2.2.2.2.2.2.2.2.2.2.2.2.2.2.2.2.2.1 x.2.2.2.2.2.2.2.2.2.2.2.2.2.2.2.2.2.2.2.2.2.2.1 x.2.2.2.2.2.2.2.2.2.2.2.2.2.2.2.2.2.2.2.2.2.2.2.1 x.2.2.2.2.2.2.2.2.2.2.2.2.2.2.2.2.2.2.2.2.2.2.2.2.1 x.2.2.2.2.2.2.2.2.2.2.2.2.2.2.2.2.2.2.2.2.2.2.2.2.2.1 x.2.2.2.2.2.2.2.2.2.2.2.2.2.2.2.2.2.2.2.2.2.2.2.2.2.2.1 x.2.2.2.2.2.2.2.2.2.2.2.2.2.2.2.2.2.2.2.2.2.2.2.2.2.2.2.1 x.2.2.2.2.2.2.2.2.2.2.2.2.2.2.2.2.2.2.2.2.2.2.2.2.2.2.2.2.1 x.2.2.2.2.2.2.2.2.2.2.2.2.2.2.2.2.2.2.2.2.2.2.2.2.2.2.2.2.2.1, (fun (p1 : TStatement) (p2 : TSpent) (p3 : Int) (c0_0 : Bool) (c0_1 : Int) (c0_2 : Int) (c0_3 : List TQuestion) (w1k : List ByteArray) (w1v : List Int) (w2k : List ByteArray) (w2v : List (List Int)) (w3k : List ByteArray) (w3v : List Bool) => (w1v : List Int)) (TStatement.mk x.1 x.2.1 x.2.2.1 x.2.2.2.1 x.2.2.2.2.1 x.2.2.2.2.2.1 x.2.2.2.2.2.2.1 x.2.2.2.2.2.2.2.1 x.2.2.2.2.2.2.2.2.1 x.2.2.2.2.2.2.2.2.2.1) (TSpent.mk x.2.2.2.2.2.2.2.2.2.2.1 x.2.2.2.2.2.2.2.2.2.2.2.1 x.2.2.2.2.2.2.2.2.2.2.2.2.1 x.2.2.2.2.2.2.2.2.2.2.2.2.2.1 x.2.2.2.2.2.2.2.2.2.2.2.2.2.2.1 x.2.2.2.2.2.2.2.2.2.2.2.2.2.2.2.1 x.2.2.2.2.2.2.2.2.2.2.2.2.2.2.2.2.1 x.2.2.2.2.2.2.2.2.2.2.2.2.2.2.2.2.2.1 x.2.2.2.2.2.2.2.2.2.2.2.2.2.2.2.2.2.2.1) x.2.2.2.2.2.2.2.2.2.2.2.2.2.2.2.2.2.2.2.1 x.2.2.2.2.2.2.2.2.2.2.2.2.2.2.2.2.2.2.2.2.1 x.2.2.2.2.2.2.2.2.2.2.2.2.2.2.2.2.2.2.2.2.2.1 x.2.2.2.2.2.2.2.2.2.2.2.2.2.2.2.2.2.2.2.2.2.2.1 x.2.2.2.2.2.2.2.2.2.2.2.2.2.2.2.2.2.2.2.2.2.2.2.1 x.2.2.2.2.2.2.2.2.2.2.2.2.2.2.2.2.2.2.2.2.2.2.2.2.1 x.2.2.2.2.2.2.2.2.2.2.2.2.2.2.2.2.2.2.2.2.2.2.2.2.2.1 x.2.2.2.2.2.2.2.2.2.2.2.2.2.2.2.2.2.2.2.2.2.2.2.2.2.2.1 x.2.2.2.2.2.2.2.2.2.2.2.2.2.2.2.2.2.2.2.2.2.2.2.2.2.2.2.1 x.2.2.2.2.2.2.2.2.2.2.2.2.2.2.2.2.2.2.2.2.2.2.2.2.2.2.2.2.1 x.2.2.2.2.2.2.2.2.2.2.2.2.2.2.2.2.2.2.2.2.2.2.2.2.2.2.2.2.2.1, (fun (p1 : TStatement) (p2 : TSpent) (p3 : Int) (c0_0 : Bool) (c0_1 : Int) (c0_2 : Int) (c0_3 : List TQuestion) (w1k : List ByteArray) (w1v : List Int) (w2k : List ByteArray) (w2v : List (List Int)) (w3k : List ByteArray) (w3v : List Bool) => (w2k : List ByteArray)) (TStatement.mk x.1 x.2.1 x.2.2.1 x.2.2.2.1 x.2.2.2.2.1 x.2.2.2.2.2.1 x.2.2.2.2.2.2.1 x.2.2.2.2.2.2.2.1 x.2.2.2.2.2.2.2.2.1 x.2.2.2.2.2.2.2.2.2.1) (TSpent.mk x.2.2.2.2.2.2.2.2.2.2.1 x.2.2.2.2.2.2.2.2.2.2.2.1 x.2.2.2.2.2.2.2.2.2.2.2.2.1 x.2.2.2.2.2.2.2.2.2.2.2.2.2.1 x.2.2.2.2.2.2.2.2.2.2.2.2.2.2.1 x.2.2.2.2.2.2.2.2.2.2.2.2.2.2.2.1 x.2.2.2.2.2.2.2.2.2.2.2.2.2.2.2.2.1 x.2.2.2.2.2.2.2.2.2.2.2.2.2.2.2.2.2.1 x.2.2.2.2.2.2.2.2.2.2.2.2.2.2.2.2.2.2.1) x.2.2.2.2.2.2.2.2.2.2.2.2.2.2.2.2.2.2.2.1 x.2.2.2.2.2.2.2.2.2.2.2.2.2.2.2.2.2.2.2.2.1 x.2.2.2.2.2.2.2.2.2.2.2.2.2.2.2.2.2.2.2.2.2.1 x.2.2.2.2.2.2.2.2.2.2.2.2.2.2.2.2.2.2.2.2.2.2.1 x.2.2.2.2.2.2.2.2.2.2.2.2.2.2.2.2.2.2.2.2.2.2.2.1 x.2.2.2.2.2.2.2.2.2.2.2.2.2.2.2.2.2.2.2.2.2.2.2.2.1 x.2.2.2.2.2.2.2.2.2.2.2.2.2.2.2.2.2.2.2.2.2.2.2.2.2.1 x.2.2.2.2.2.2.2.2.2.2.2.2.2.2.2.2.2.2.2.2.2.2.2.2.2.2.1 x.2.2.2.2.2.2.2.2.2.2.2.2.2.2.2.2.2.2.2.2.2.2.2.2.2.2.2.1 x.2.2.2.2.2.2.2.2.2.2.2.2.2.2.2.2.2.2.2.2.2.2.2.2.2.2.2.2.1 x.2.2.2.2.2.2.2.2.2.2.2.2.2.2.2.2.2.2.2.2.2.2.2.2.2.2.2.2.2.1, (fun (p1 : TStatement) (p2 : TSpent) (p3 : Int) (c0_0 : Bool) (c0_1 : Int) (c0_2 : Int) (c0_3 : List TQuestion) (w1k : List ByteArray) (w1v : List Int) (w2k : List ByteArray) (w2v : List (List Int)) (w3k : List ByteArray) (w3v : List Bool) => (w2v : List (List Int))) (TStatement.mk x.1 x.2.1 x.2.2.1 x.2.2.2.1 x.2.2.2.2.1 x.2.2.2.2.2.1 x.2.2.2.2.2.2.1 x.2.2.2.2.2.2.2.1 x.2.2.2.2.2.2.2.2.1 x.2.2.2.2.2.2.2.2.2.1) (TSpent.mk x.2.2.2.2.2.2.2.2.2.2.1 x.2.2.2.2.2.2.2.2.2.2.2.1 x.2.2.2.2.2.2.2.2.2.2.2.2.1 x.2.2.2.2.2.2.2.2.2.2.2.2.2.1 x.2.2.2.2.2.2.2.2.2.2.2.2.2.2.1 x.2.2.2.2.2.2.2.2.2.2.2.2.2.2.2.1 x.2.2.2.2.2.2.2.2.2.2.2.2.2.2.2.2.1 x.2.2.2.2.2.2.2.2.2.2.2.2.2.2.2.2.2.1 x.2.2.2.2.2.2.2.2.2.2.2.2.2.2.2.2.2.2.1) x.2.2.2.2.2.2.2.2.2.2.2.2.2.2.2.2.2.2.2.1 x.2.2.2.2.2.2.2.2.2.2.2.2.2.2.2.2.2.2.2.2.1 x.2.2.2.2.2.2.2.2.2.2.2.2.2.2.2.2.2.2.2.2.2.1 x.2.2.2.2.2.2.2.2.2.2.2.2.2.2.2.2.2.2.2.2.2.2.1 x.2.2.2.2.2.2.2.2.2.2.2.2.2.2.2.2.2.2.2.2.2.2.2.1 x.2.2.2.2.2.2.2.2.2.2.2.2.2.2.2.2.2.2.2.2.2.2.2.2.1 x.2.2.2.2.2.2.2.2.2.2.2.2.2.2.2.2.2.2.2.2.2.2.2.2.2.1 x.2.2.2.2.2.2.2.2.2.2.2.2.2.2.2.2.2.2.2.2.2.2.2.2.2.2.1 x.2.2.2.2.2.2.2.2.2.2.2.2.2.2.2.2.2.2.2.2.2.2.2.2.2.2.2.1 x.2.2.2.2.2.2.2.2.2.2.2.2.2.2.2.2.2.2.2.2.2.2.2.2.2.2.2.2.1 x.2.2.2.2.2.2.2.2.2.2.2.2.2.2.2.2.2.2.2.2.2.2.2.2.2.2.2.2.2.1, (fun (p1 : TStatement) (p2 : TSpent) (p3 : Int) (c0_0 : Bool) (c0_1 : Int) (c0_2 : Int) (c0_3 : List TQuestion) (w1k : List ByteArray) (w1v : List Int) (w2k : List ByteArray) (w2v : List (List Int)) (w3k : List ByteArray) (w3v : List Bool) => (w3k : List ByteArray)) (TStatement.mk x.1 x.2.1 x.2.2.1 x.2.2.2.1 x.2.2.2.2.1 x.2.2.2.2.2.1 x.2.2.2.2.2.2.1 x.2.2.2.2.2.2.2.1 x.2.2.2.2.2.2.2.2.1 x.2.2.2.2.2.2.2.2.2.1) (TSpent.mk x.2.2.2.2.2.2.2.2.2.2.1 x.2.2.2.2.2.2.2.2.2.2.2.1 x.2.2.2.2.2.2.2.2.2.2.2.2.1 x.2.2.2.2.2.2.2.2.2.2.2.2.2.1 x.2.2.2.2.2.2.2.2.2.2.2.2.2.2.1 x.2.2.2.2.2.2.2.2.2.2.2.2.2.2.2.1 x.2.2.2.2.2.2.2.2.2.2.2.2.2.2.2.2.1 x.2.2.2.2.2.2.2.2.2.2.2.2.2.2.2.2.2.1 x.2.2.2.2.2.2.2.2.2.2.2.2.2.2.2.2.2.2.1) x.2.2.2.2.2.2.2.2.2.2.2.2.2.2.2.2.2.2.2.1 x.2.2.2.2.2.2.2.2.2.2.2.2.2.2.2.2.2.2.2.2.1 x.2.2.2.2.2.2.2.2.2.2.2.2.2.2.2.2.2.2.2.2.2.1 x.2.2.2.2.2.2.2.2.2.2.2.2.2.2.2.2.2.2.2.2.2.2.1 x.2.2.2.2.2.2.2.2.2.2.2.2.2.2.2.2.2.2.2.2.2.2.2.1 x.2.2.2.2.2.2.2.2.2.2.2.2.2.2.2.2.2.2.2.2.2.2.2.2.1 x.2.2.2.2.2.2.2.2.2.2.2.2.2.2.2.2.2.2.2.2.2.2.2.2.2.1 x.2.2.2.2.2.2.2.2.2.2.2.2.2.2.2.2.2.2.2.2.2.2.2.2.2.2.1 x.2.2.2.2.2.2.2.2.2.2.2.2.2.2.2.2.2.2.2.2.2.2.2.2.2.2.2.1 x.2.2.2.2.2.2.2.2.2.2.2.2.2.2.2.2.2.2.2.2.2.2.2.2.2.2.2.2.1 x.2.2.2.2.2.2.2.2.2.2.2.2.2.2.2.2.2.2.2.2.2.2.2.2.2.2.2.2.2.1, (fun (p1 : TStatement) (p2 : TSpent) (p3 : Int) (c0_0 : Bool) (c0_1 : Int) (c0_2 : Int) (c0_3 : List TQuestion) (w1k : List ByteArray) (w1v : List Int) (w2k : List ByteArray) (w2v : List (List Int)) (w3k : List ByteArray) (w3v : List Bool) => (w3v : List Bool)) (TStatement.mk x.1 x.2.1 x.2.2.1 x.2.2.2.1 x.2.2.2.2.1 x.2.2.2.2.2.1 x.2.2.2.2.2.2.1 x.2.2.2.2.2.2.2.1 x.2.2.2.2.2.2.2.2.1 x.2.2.2.2.2.2.2.2.2.1) (TSpent.mk x.2.2.2.2.2.2.2.2.2.2.1 x.2.2.2.2.2.2.2.2.2.2.2.1 x.2.2.2.2.2.2.2.2.2.2.2.2.1 x.2.2.2.2.2.2.2.2.2.2.2.2.2.1 x.2.2.2.2.2.2.2.2.2.2.2.2.2.2.1 x.2.2.2.2.2.2.2.2.2.2.2.2.2.2.2.1 x.2.2.2.2.2.2.2.2.2.2.2.2.2.2.2.2.1 x.2.2.2.2.2.2.2.2.2.2.2.2.2.2.2.2.2.1 x.2.2.2.2.2.2.2.2.2.2.2.2.2.2.2.2.2.2.1) x.2.2.2.2.2.2.2.2.2.2.2.2.2.2.2.2.2.2.2.1 x.2.2.2.2.2.2.2.2.2.2.2.2.2.2.2.2.2.2.2.2.1 x.2.2.2.2.2.2.2.2.2.2.2.2.2.2.2.2.2.2.2.2.2.1 x.2.2.2.2.2.2.2.2.2.2.2.2.2.2.2.2.2.2.2.2.2.2.1 x.2.2.2.2.2.2.2.2.2.2.2.2.2.2.2.2.2.2.2.2.2.2.2.1 x.2.2.2.2.2.2.2.2.2.2.2.2.2.2.2.2.2.2.2.2.2.2.2.2.1 x.2.2.2.2.2.2.2.2.2.2.2.2.2.2.2.2.2.2.2.2.2.2.2.2.2.1 x.2.2.2.2.2.2.2.2.2.2.2.2.2.2.2.2.2.2.2.2.2.2.2.2.2.2.1 x.2.2.2.2.2.2.2.2.2.2.2.2.2.2.2.2.2.2.2.2.2.2.2.2.2.2.2.1 x.2.2.2.2.2.2.2.2.2.2.2.2.2.2.2.2.2.2.2.2.2.2.2.2.2.2.2.2.1 x.2.2.2.2.2.2.2.2.2.2.2.2.2.2.2.2.2.2.2.2.2.2.2.2.2.2.2.2.2.1, ())
theorem k10j : kkp.Ok Try.prog TB := Con.ok_fn k1i bd33 fun x h => kyn (kwe (TStatement.mk x.1 x.2.1 x.2.2.1 x.2.2.2.1 x.2.2.2.2.1 x.2.2.2.2.2.1 x.2.2.2.2.2.2.1 x.2.2.2.2.2.2.2.1 x.2.2.2.2.2.2.2.2.1 x.2.2.2.2.2.2.2.2.2.1) (TSpent.mk x.2.2.2.2.2.2.2.2.2.2.1 x.2.2.2.2.2.2.2.2.2.2.2.1 x.2.2.2.2.2.2.2.2.2.2.2.2.1 x.2.2.2.2.2.2.2.2.2.2.2.2.2.1 x.2.2.2.2.2.2.2.2.2.2.2.2.2.2.1 x.2.2.2.2.2.2.2.2.2.2.2.2.2.2.2.1 x.2.2.2.2.2.2.2.2.2.2.2.2.2.2.2.2.1 x.2.2.2.2.2.2.2.2.2.2.2.2.2.2.2.2.2.1 x.2.2.2.2.2.2.2.2.2.2.2.2.2.2.2.2.2.2.1) x.2.2.2.2.2.2.2.2.2.2.2.2.2.2.2.2.2.2.2.1 x.2.2.2.2.2.2.2.2.2.2.2.2.2.2.2.2.2.2.2.2.1 x.2.2.2.2.2.2.2.2.2.2.2.2.2.2.2.2.2.2.2.2.2.1 x.2.2.2.2.2.2.2.2.2.2.2.2.2.2.2.2.2.2.2.2.2.2.1 x.2.2.2.2.2.2.2.2.2.2.2.2.2.2.2.2.2.2.2.2.2.2.2.1 x.2.2.2.2.2.2.2.2.2.2.2.2.2.2.2.2.2.2.2.2.2.2.2.2.1 x.2.2.2.2.2.2.2.2.2.2.2.2.2.2.2.2.2.2.2.2.2.2.2.2.2.1 x.2.2.2.2.2.2.2.2.2.2.2.2.2.2.2.2.2.2.2.2.2.2.2.2.2.2.1 x.2.2.2.2.2.2.2.2.2.2.2.2.2.2.2.2.2.2.2.2.2.2.2.2.2.2.2.1 x.2.2.2.2.2.2.2.2.2.2.2.2.2.2.2.2.2.2.2.2.2.2.2.2.2.2.2.2.1 x.2.2.2.2.2.2.2.2.2.2.2.2.2.2.2.2.2.2.2.2.2.2.2.2.2.2.2.2.2.1 h)
end Go.Proofs.Ytpffhgljgpjenaa
end
