/-
  Parts of the proofs that the laws of this seat hold of every input, merged by a program: a machine over pure data that is sound for the model, what each function of the translation does in it, and plain lemmas. No conditions but those in each theorem.
-/
import Derived.Test.YtpffhgljgpjenaaA6
set_option linter.all false
set_option maxRecDepth 100000
noncomputable section
namespace Go.Proofs.Ytpffhgljgpjenaa
open Go Go.Bv Go.Cv Go.Md Go.RowKit
def k13 : Con TB.den := Con.mk0 24 [.agg [.d (.sl (.st 0)), .d (.sl (.st 1)), .d (.int .u64)]] [] (.tup [.one (.d (.sl (.int .u8))), .one (.d (.int .i64))]) []
abbrev kpl := HL TB.den (hsT k13.ins (hsOs k13.pre))
abbrev kb := HL TB.den (hsV k13.res (hsOs k13.post))
def k12 : Cx TB := ⟨inf, [ki1, k12d, kh2, kpc, kzx], [], 4, []⟩
def k27 : Code := Try.f24.body.getD .skip
def k89 : List ResultVar := Try.f24.results.toList
def k12h (o : kb) := qS TB k12 70 0 (cB (cB (cB (cB (cB (cB k27)))))) .no (retTQ TB k12 k13 k89 o)
def k5j : Tm := ⟨[0], [.cells [.d (.sl (.st 0)), .d (.sl (.st 1)), .d (.int .u64)]], [1, 4, 56, 57, 58], [.one (.ptr 0 0), .one (.d (.sl (.int .u8))), .one (.d (.sl (.st 1))), .one (.d (.int .i64)), .one (.d (.int .i64))], 1⟩
def k14s (o : kb) (nx2 : NX TB k5j) := qM TB 0 k5j nx2 (blockT TB 2 (k12h o))
def k8b (o : kb) (nx2 : NX TB k5j) (i : HL TB.den k5j.hs) : Prop := WP TB k12 70 0 (cA (cA (cB (cA (cB (cB (cB (cB (cB k27))))))))) .no (k5j.fill TB i) (k14s o nx2)
def k12f (o : kb) : An TB := .lp [] k5j (k8b o) fun nx2 => .no
def koa (o : kb) : An TB := .nd [] .no [] (.nd [] (.nd [] .no [] (k12f o)) [] .no)
def k148 (o : kb) := qS TB k12 70 0 (cB (cB (cB (cB k27)))) (koa o) (retTQ TB k12 k13 k89 o)
def kg : Tm := ⟨[0], [.cells [.d (.sl (.st 0)), .d (.sl (.st 1)), .d (.int .u64)]], [1, 4, 18, 19, 20], [.one (.ptr 0 0), .one (.d (.sl (.int .u8))), .one (.d (.sl (.st 0))), .one (.d (.int .i64)), .one (.d (.int .i64))], 1⟩
def ko5 (o : kb) (nx1 : NX TB kg) := qM TB 0 kg nx1 (blockT TB 0 (k148 o))
def k12l (o : kb) (nx1 : NX TB kg) := qS TB k12 70 0 (cB (cB (cB (cA (cA (cB (cA (cB (cB (cB k27)))))))))) .no (ko5 o nx1)
def kaf : Tm := ⟨[0], [.cells [.d (.sl (.st 0)), .d (.sl (.st 1)), .d (.int .u64)]], [1, 4, 7, 18, 19, 20], [.one (.ptr 0 0), .one (.d (.sl (.int .u8))), .one (.d (.int .i64)), .one (.d (.sl (.st 0))), .one (.d (.int .i64)), .one (.d (.int .i64))], 2⟩
def klj (o : kb) (nx1 : NX TB kg) (i : HL TB.den kaf.hs) : Prop := ghs TB [] (kaf.fill TB i) fun s => WP TB k12 70 0 (cB (cB (cB (cB (cB (cB (cB (cB (cA (cA (cB (cB (cA (cA (cB (cA (cB (cB (cB k27))))))))))))))))))) .no s (blockT TB 1 (k12l o nx1))
structure k8f (o : kb) (nx1 : NX TB kg) (i : HL TB.den kaf.hs) : Prop where
 h : klj o nx1 i
def k11c (o : kb) (nx1 : NX TB kg) : An TB := .jn kaf (k8f o nx1) [] .no [] .no
def k10z (o : kb) (nx1 : NX TB kg) : An TB := .nd [] .no [] (.nd [] .no [] (.nd [] .no [] (k11c o nx1)))
def k11w (o : kb) (nx1 : NX TB kg) : An TB := .nd [] .no [] (.nd [] .no [] (.nd [] .no [] (k10z o nx1)))
def kle (o : kb) (nx1 : NX TB kg) : An TB := .nd [] .no [] (.nd [] (.nd [] .no [] (k11w o nx1)) [] .no)
def k8g (o : kb) (nx1 : NX TB kg) (i : HL TB.den kg.hs) : Prop := WP TB k12 70 0 (cA (cA (cB (cA (cB (cB (cB k27))))))) (.nd [] .no [] (kle o nx1)) (kg.fill TB i) (ko5 o nx1)
def k113 (o : kb) : An TB := .lp [] kg (k8g o) fun nx1 => (.nd [] .no [] (kle o nx1))
def k119 (o : kb) : An TB := .nd [] (.nd [] .no [] (k113 o)) [] (koa o)
def kov (o : kb) : An TB := .nd [] .no [] (.nd [] .no [] (.nd [] .no [] (k119 o)))
def kdi (x : kpl) (o : kb) : Prop := WPh TB k12 70 0 k27 (kov o) (k13.st TB x) (retTQ TB k12 k13 k89 o)
theorem k11t (o : kb) : OblH TB k12 70 0 k27 (kov o) (retTQ TB k12 k13 k89 o) :=
 OblH.ofC (X := ((∀ nx i, (k8g o) nx i = (k8g o) nx i) ∧ (∀ nx1 : NX TB kg, ((∀ i, (k8f o nx1) i = klj o nx1 i) ∧ True)) ∧ (∀ nx i, (k8b o) nx i = (k8b o) nx i) ∧ (∀ nx2 : NX TB k5j, True) ∧ True)) (by kernel_rfl) ⟨fun _ _ => rfl, fun _ => ⟨fun _ => propext ⟨fun h => h.1, fun h => ⟨h⟩⟩, trivial⟩, fun _ _ => rfl, fun _ => trivial, trivial⟩
theorem k11v {x : kpl} {o : kb} (h : kdi x o) : k13.Snd Try.prog x o :=
 Con.soundH (c := k13) (C := k12) TBok ⟨inf_ok, (all_cons kxb (all_cons k1ml (all_cons kud (all_cons k155 (all_cons k1jq all_nil))))), all_nil⟩ mix Try.func24 (show Try.f24.body = some k27 by kernel_rfl) (show Try.f24.ntmps = 70 by kernel_rfl) (show Try.f24.results.toList = k89 by kernel_rfl) rfl h (k11t o)
theorem k12c {p0 : TWitness} {r0 : List Int} {r1 : Int} (h :
((p0.Ins.length ≤ 9223372036854775807 ∧ p0.Outs.length ≤ 9223372036854775807 ∧ (∀ x ∈ p0.Ins, x.Path.length ≤ 9223372036854775807)) ∧ ((!(rightV p0)) = true →
([] : List Int) = r0 ∧ 1 = r1) ∧
((!(rightV p0)) = false →
((-9223372036854775808 ≤ (p0.Ins.length : Int) ∧ (p0.Ins.length : Int) ≤ 9223372036854775807) ∧ ([] : List Int).length ≤ 137438953472) ∧ let r2 : List Int := (([] : List Int) ++ dig 4 (len4 (p0.Ins.length : Int)))
 Md.Loop (r2, p0.Ins, ((p0.Ins.length : Int) : Int), (0 : Int), p0.Ins, p0.Outs, p0.Secret, ()) (k8g (r0, r1, ()))))) : kdi (p0.Ins, p0.Outs, p0.Secret, ()) (r0, r1, ()) := WPh.of_eq (by kernel_rfl) h
theorem kjv {r0 : List Int} {r1 : Int} {nx1 : NX TB kg} {s4 : List Int} {s7 : Int} {s18 : List TSpent} {s19 : Int} {s20 : Int} {h0_0 : List TSpent} {h0_1 : List TNote} {h0_2 : Int} (h :
(((-9223372036854775808 ≤ s7 ∧ s7 ≤ 9223372036854775807) ∧ s4.length ≤ 137438953472) ∧ nx1 (((s4 ++ dig 4 (len4 s7)) : List Int), s18, s19, (IntKind.i64.wrap (s20 + 1) : Int), h0_0, h0_1, h0_2, ()))) : k8f (r0, r1, ()) nx1 (s4, s7, s18, s19, s20, h0_0, h0_1, h0_2, ()) := ⟨mpr_of (by kernel_rfl) h⟩
def kow (r0 : List Int) (r1 : Int) (nx1 : NX TB kg) (k1 : List Int → Int → Prop) (s18 : List TSpent) (s19 : Int) (h0_0 : List TSpent) (h0_1 : List TNote) (h0_2 : Int) (s4 : List Int) (s20 : Int) : Prop :=
(decide (s20 < s19) = true →
(0 ≤ s20) ∧ s20 < (s18.length : Int) ∧ (NR (TNote.mk ((ix s18 s20).Note_Value) ((ix s18 s20).Note_Owner) ((ix s18 s20).Note_Rho) ((ix s18 s20).Note_Blind)) ∧ s4.length ≤ 68719476736) ∧ let r3 : List Int := (s4 ++ encN (TNote.mk ((ix s18 s20).Note_Value) ((ix s18 s20).Note_Owner) ((ix s18 s20).Note_Rho) ((ix s18 s20).Note_Blind)))
(U64 ((ix s18 s20).Key) ∧ r3.length ≤ 137438953472) ∧ ((-9223372036854775808 ≤ ((ix s18 s20).Number) ∧ ((ix s18 s20).Number) ≤ 9223372036854775807) ∧ (r3 ++ dig 8 ((ix s18 s20).Key)).length ≤ 137438953472) ∧ let r4 : List Int := ((r3 ++ dig 8 ((ix s18 s20).Key)) ++ dig 4 (len4 ((ix s18 s20).Number)))
((-9223372036854775808 ≤ ((ix s18 s20).Position) ∧ ((ix s18 s20).Position) ≤ 9223372036854775807) ∧ r4.length ≤ 137438953472) ∧ let r5 : List Int := (r4 ++ dig 4 (len4 ((ix s18 s20).Position)))
(Us ((ix s18 s20).Path) ∧ r5.length ≤ 68719476736 ∧ ((ix s18 s20).Path).length ≤ 4294967295) ∧ ((ix s18 s20).Dummy = true →
 k8f (r0, r1, ()) nx1 (((r5 ++ encL ((ix s18 s20).Path)) : List Int), (1 : Int), s18, s19, s20, h0_0, h0_1, h0_2, ())) ∧
((ix s18 s20).Dummy = false →
 k8f (r0, r1, ()) nx1 (((r5 ++ encL ((ix s18 s20).Path)) : List Int), (0 : Int), s18, s19, s20, h0_0, h0_1, h0_2, ()))) ∧
(decide (s20 < s19) = false →
((-9223372036854775808 ≤ (h0_1.length : Int) ∧ (h0_1.length : Int) ≤ 9223372036854775807) ∧ s4.length ≤ 137438953472) ∧ Md.Loop (((s4 ++ dig 4 (len4 (h0_1.length : Int))) : List Int), h0_1, ((h0_1.length : Int) : Int), (0 : Int), h0_0, h0_1, h0_2, ()) (k8b (r0, r1, ())))
theorem k10l {r0 : List Int} {r1 : Int} {s18 : List TSpent} {s19 : Int} {h0_0 : List TSpent} {h0_1 : List TNote} {h0_2 : Int} {s4 : List Int} {s20 : Int} (inv : List Int → Int → Prop) (μ : List Int → Int → Nat) (h0 : inv s4 s20) (hs : ∀ (s4 : List Int) (s20 : Int), inv s4 s20 → kow r0 r1 (fun s : (List Int) × (List TSpent) × Int × Int × (List TSpent) × (List TNote) × Int × Unit => ((s.2.1 = s18 ∧ s.2.2.1 = s19 ∧ s.2.2.2.2.1 = h0_0 ∧ s.2.2.2.2.2.1 = h0_1 ∧ s.2.2.2.2.2.2.1 = h0_2) ∧ inv s.1 s.2.2.2.1) ∧ μ s.1 s.2.2.2.1 < μ s4 s20) (fun s4q s20q => inv s4q s20q ∧ μ s4q s20q < μ s4 s20) s18 s19 h0_0 h0_1 h0_2 s4 s20) : Md.Loop (s4, s18, s19, s20, h0_0, h0_1, h0_2, ()) (k8g (r0, r1, ())) :=
 ⟨⟨fun s : (List Int) × (List TSpent) × Int × Int × (List TSpent) × (List TNote) × Int × Unit => (s.2.1 = s18 ∧ s.2.2.1 = s19 ∧ s.2.2.2.2.1 = h0_0 ∧ s.2.2.2.2.2.1 = h0_1 ∧ s.2.2.2.2.2.2.1 = h0_2) ∧ inv s.1 s.2.2.2.1, fun s : (List Int) × (List TSpent) × Int × Int × (List TSpent) × (List TNote) × Int × Unit => μ s.1 s.2.2.2.1, ⟨⟨rfl, rfl, rfl, rfl, rfl⟩, h0⟩, fun (s4p, s18p, s19p, s20p, h0_0p, h0_1p, h0_2p, ()) ⟨⟨eq0, eq1, eq2, eq3, eq4⟩, hi⟩ => by
  have eq0 : s18p = s18 := eq0; subst s18p; have eq1 : s19p = s19 := eq1; subst s19p; have eq2 : h0_0p = h0_0 := eq2; subst h0_0p; have eq3 : h0_1p = h0_1 := eq3; subst h0_1p; have eq4 : h0_2p = h0_2 := eq4; subst h0_2p; exact mpr_of (by kernel_rfl) ((congrArg (fun k => kow r0 r1 (fun s : (List Int) × (List TSpent) × Int × Int × (List TSpent) × (List TNote) × Int × Unit => ((s.2.1 = s18 ∧ s.2.2.1 = s19 ∧ s.2.2.2.2.1 = h0_0 ∧ s.2.2.2.2.2.1 = h0_1 ∧ s.2.2.2.2.2.2.1 = h0_2) ∧ inv s.1 s.2.2.2.1) ∧ μ s.1 s.2.2.2.1 < μ s4p s20p) k s18 s19 h0_0 h0_1 h0_2 s4p s20p) (lpk2 (⟨rfl, rfl, rfl, rfl, rfl⟩ : s18 = s18 ∧ s19 = s19 ∧ h0_0 = h0_0 ∧ h0_1 = h0_1 ∧ h0_2 = h0_2) inv (fun s4q s20q => μ s4q s20q < μ s4p s20p))).mpr (hs s4p s20p hi))⟩⟩
def kom (r0 : List Int) (r1 : Int) (k2 : List Int → Int → Prop) (s56 : List TNote) (s57 : Int) (h0_0 : List TSpent) (h0_1 : List TNote) (h0_2 : Int) (s4 : List Int) (s58 : Int) : Prop :=
(decide (s58 < s57) = true →
(0 ≤ s58) ∧ s58 < (s56.length : Int) ∧ (NR (ix s56 s58) ∧ s4.length ≤ 68719476736) ∧ k2 ((s4 ++ encN (ix s56 s58)) : List Int) (IntKind.i64.wrap (s58 + 1) : Int)) ∧
(decide (s58 < s57) = false →
(U64 h0_2 ∧ s4.length ≤ 137438953472) ∧ (s4 ++ dig 8 h0_2) = r0 ∧ 0 = r1)
theorem k110 {r0 : List Int} {r1 : Int} {s56 : List TNote} {s57 : Int} {h0_0 : List TSpent} {h0_1 : List TNote} {h0_2 : Int} {s4 : List Int} {s58 : Int} (inv : List Int → Int → Prop) (μ : List Int → Int → Nat) (h0 : inv s4 s58) (hs : ∀ (s4 : List Int) (s58 : Int), inv s4 s58 → kom r0 r1 (fun s4q s58q => inv s4q s58q ∧ μ s4q s58q < μ s4 s58) s56 s57 h0_0 h0_1 h0_2 s4 s58) : Md.Loop (s4, s56, s57, s58, h0_0, h0_1, h0_2, ()) (k8b (r0, r1, ())) :=
 ⟨⟨fun s : (List Int) × (List TNote) × Int × Int × (List TSpent) × (List TNote) × Int × Unit => (s.2.1 = s56 ∧ s.2.2.1 = s57 ∧ s.2.2.2.2.1 = h0_0 ∧ s.2.2.2.2.2.1 = h0_1 ∧ s.2.2.2.2.2.2.1 = h0_2) ∧ inv s.1 s.2.2.2.1, fun s : (List Int) × (List TNote) × Int × Int × (List TSpent) × (List TNote) × Int × Unit => μ s.1 s.2.2.2.1, ⟨⟨rfl, rfl, rfl, rfl, rfl⟩, h0⟩, fun (s4p, s56p, s57p, s58p, h0_0p, h0_1p, h0_2p, ()) ⟨⟨eq0, eq1, eq2, eq3, eq4⟩, hi⟩ => by
  have eq0 : s56p = s56 := eq0; subst s56p; have eq1 : s57p = s57 := eq1; subst s57p; have eq2 : h0_0p = h0_0 := eq2; subst h0_0p; have eq3 : h0_1p = h0_1 := eq3; subst h0_1p; have eq4 : h0_2p = h0_2 := eq4; subst h0_2p; exact mpr_of (by kernel_rfl) ((congrArg (fun k => kom r0 r1 k s56 s57 h0_0 h0_1 h0_2 s4p s58p) (lpk2 (⟨rfl, rfl, rfl, rfl, rfl⟩ : s56 = s56 ∧ s57 = s57 ∧ h0_0 = h0_0 ∧ h0_1 = h0_1 ∧ h0_2 = h0_2) inv (fun s4q s58q => μ s4q s58q < μ s4p s58p))).mpr (hs s4p s58p hi))⟩⟩
theorem bd24 : Callable Try.prog 24 := ⟨by rw [Try.func24]; kernel_rfl, by rw [Try.func24]; show some _ ≠ some _; decide⟩
theorem kyi (p0 : TWitness) (h : WQ p0) : kdi (p0.Ins, p0.Outs, p0.Secret, ()) (((if rightV p0 = true then encW p0 else []) : List Int), ((if rightV p0 = true then 0 else 1 : Int) : Int), ()) := by
 refine k12c ⟨⟨h.il, h.ol, fun x hx => (h.i x hx).pl⟩, fun e => ?_, fun e => ?_⟩
 ·have e : rightV p0 = false := by simpa using e
  rw [e]; exact ⟨rfl, rfl⟩
 have e : rightV p0 = true := by simpa using e
 rw [if_pos e, if_pos e]
 obtain ⟨v1, v2, v3, v4, v5⟩ := kde.1 e
 refine ⟨⟨⟨by omega, by omega⟩, by simp⟩, ?_⟩
 refine k10l (fun g i => 0 ≤ i ∧ i ≤ p0.Ins.length ∧ g = dig 4 (len4 (p0.Ins.length : Int)) ++ (p0.Ins.take i.toNat).flatMap encSp) (fun _ i => (p0.Ins.length - i).toNat) ⟨by omega, by omega, by simp⟩ ?_
 rintro g i ⟨g0, g1, rfl⟩
 have hle := ka9 encSp 200 (p0.Ins.take i.toNat) fun x hx => by
  have := (kd3.1 (v4 x (List.mem_of_mem_take hx))).2.2.2.2.2.2.1
  rw [k1o9]; omega
 rw [List.length_take] at hle
 have hgl : (dig 4 (len4 (p0.Ins.length : Int)) ++ (p0.Ins.take i.toNat).flatMap encSp).length ≤ 1000 := by
  rw [List.length_append, k3b]; omega
 refine ⟨fun hh => ?_, fun hh => ?_⟩
 ·have hh := of_decide_eq_true hh
  have hm := ix_mem p0.Ins i g0 hh
  have hx := h.i _ hm
  obtain ⟨w1, w2, w3, w4, w5, w6, w7, w8⟩ := kd3.1 (v4 _ hm)
  have hx1 : NR (noteOf (ix p0.Ins i)) := hx.n
  have hinv : ∀ d : Int, (d = if (ix p0.Ins i).Dummy = true then 1 else 0) → (0 ≤ i + 1 ∧ i + 1 ≤ p0.Ins.length ∧ (((((((dig 4 (len4 (p0.Ins.length : Int)) ++ (p0.Ins.take i.toNat).flatMap encSp) ++ encN (noteOf (ix p0.Ins i))) ++ dig 8 (ix p0.Ins i).Key) ++ dig 4 (len4 (ix p0.Ins i).Number)) ++ dig 4 (len4 (ix p0.Ins i).Position)) ++ encL (ix p0.Ins i).Path) ++ dig 4 (len4 d)) = dig 4 (len4 (p0.Ins.length : Int)) ++ (p0.Ins.take (i + 1).toNat).flatMap encSp) ∧ (p0.Ins.length - (i + 1)).toNat < (p0.Ins.length - i).toNat := by
   rintro d rfl
   refine ⟨⟨by omega, by omega, ?_⟩, by omega⟩
   rw [k2f p0.Ins i g0 hh, List.flatMap_append]
   simp [encSp, List.append_assoc]
  have hlen : (((((((dig 4 (len4 (p0.Ins.length : Int)) ++ (p0.Ins.take i.toNat).flatMap encSp) ++ encN (noteOf (ix p0.Ins i))) ++ dig 8 (ix p0.Ins i).Key) ++ dig 4 (len4 (ix p0.Ins i).Number)) ++ dig 4 (len4 (ix p0.Ins i).Position)) ++ encL (ix p0.Ins i).Path)).length ≤ 137438953472 := by
   simp only [List.length_append, k3b, kj7, k1ko] at hgl ⊢; omega
  refine ⟨g0, hh, ⟨hx1, by omega⟩, ⟨hx.k, ?_⟩, ⟨hx.nu, ?_⟩, ⟨hx.po, ?_⟩, ⟨hx.pa, ?_, by omega⟩, fun e => kjv ⟨⟨by omega, hlen⟩, by rw [inc i p0.Ins.length g0 hh (by omega)]; exact ⟨⟨⟨rfl, rfl, rfl, rfl, rfl⟩, (hinv _ (by rw [if_pos e])).1⟩, (hinv 1 (by rw [if_pos e])).2⟩⟩, fun e => kjv ⟨⟨by omega, hlen⟩, by rw [inc i p0.Ins.length g0 hh (by omega)]; exact ⟨⟨⟨rfl, rfl, rfl, rfl, rfl⟩, (hinv _ (by rw [if_neg (by rw [e]; decide)])).1⟩, (hinv 0 (by rw [if_neg (by rw [e]; decide)])).2⟩⟩⟩
  ·rw [List.length_append, kj7]; omega
  ·rw [List.length_append, List.length_append, kj7, k3b]; omega
  ·simp only [List.length_append, k3b, kj7] at hgl ⊢; omega
  ·simp only [List.length_append, k3b, kj7] at hgl ⊢; omega
 ·have hh := of_decide_eq_false hh
  rw [List.take_of_length_le (by omega)] at hgl ⊢
  refine ⟨⟨⟨by omega, by omega⟩, by omega⟩, ?_⟩
  refine k110 (fun g i => 0 ≤ i ∧ i ≤ p0.Outs.length ∧ g = (dig 4 (len4 (p0.Ins.length : Int)) ++ p0.Ins.flatMap encSp) ++ dig 4 (len4 (p0.Outs.length : Int)) ++ (p0.Outs.take i.toNat).flatMap encN) (fun _ i => (p0.Outs.length - i).toNat) ⟨by omega, by omega, by simp⟩ ?_
  rintro g i ⟨g0, g1, rfl⟩
  have hle := ka9 encN 32 (p0.Outs.take i.toNat) fun x hx => by rw [kj7]; omega
  rw [List.length_take] at hle
  have hgl2 : ((dig 4 (len4 (p0.Ins.length : Int)) ++ p0.Ins.flatMap encSp) ++ dig 4 (len4 (p0.Outs.length : Int)) ++ (p0.Outs.take i.toNat).flatMap encN).length ≤ 2000 := by
   rw [List.length_append, List.length_append, k3b]; omega
  refine ⟨fun hh => ?_, fun hh => ?_⟩
  ·have hh := of_decide_eq_true hh
   have hm := ix_mem p0.Outs i g0 hh
   rw [inc i p0.Outs.length g0 hh (by omega)]
   refine ⟨g0, hh, ⟨h.o _ hm, by omega⟩, ⟨by omega, by omega, ?_⟩, by omega⟩
   rw [k2f p0.Outs i g0 hh, List.flatMap_append]
   simp [List.append_assoc]
  ·have hh := of_decide_eq_false hh
   rw [List.take_of_length_le (by omega)]  at hgl2 ⊢
   refine ⟨⟨h.s, by omega⟩, ?_, rfl⟩
   simp [encW, List.append_assoc]
def klv : Con TB.den := k13.fnR (fun x => (fun (p0 : TWitness) => WQ p0) (TWitness.mk x.1 x.2.1 x.2.2.1)) fun x => ((fun (p0 : TWitness) => ((if rightV p0 = true then encW p0 else []) : List Int)) (TWitness.mk x.1 x.2.1 x.2.2.1), (fun (p0 : TWitness) => ((if rightV p0 = true then 0 else 1 : Int) : Int)) (TWitness.mk x.1 x.2.1 x.2.2.1), ())
theorem k14p : klv.Ok Try.prog TB := Con.ok_fn k13 bd24 fun x h => k11v (kyi (TWitness.mk x.1 x.2.1 x.2.2.1) h)
def k1h : Con TB.den := Con.mk0 7 [.one (.d (.sl (.int .u8)))] [] (.one (.one (.d (.bool)))) []
abbrev kku := HL TB.den (hsT k1h.ins (hsOs k1h.pre))
abbrev k2z := HL TB.den (hsV k1h.res (hsOs k1h.post))
def k2m : Cx TB := ⟨inf, [k105, klq, kw5, k13e, klv], [], 4, []⟩
def k5t : Code := Try.f7.body.getD .skip
def k8j : List ResultVar := Try.f7.results.toList
def kwk (o : k2z) := qS TB k2m 61 0 (cB (cB k5t)) .no (retTQ TB k2m k1h k8j o)
def k7t : Tm := ⟨[], [], [0, 15], [.one (.d (.sl (.int .u8))), .one (.d (.bool))], 0⟩
def khr (o : k2z) (i : HL TB.den k7t.hs) : Prop := ghs TB [] (k7t.fill TB i) fun s => WP TB k2m 61 0 (cB (cA (cB k5t))) .no s (kwk o)
structure k4x (o : k2z) (i : HL TB.den k7t.hs) : Prop where
 h : khr o i
def kvh (o : k2z) : An TB := .jn k7t (k4x o) [] .no [] .no
def kjk (o : k2z) : An TB := .nd [] .no [] (.nd [] (kvh o) [] .no)
def kai (x : kku) (o : k2z) : Prop := WPh TB k2m 61 0 k5t (kjk o) (k1h.st TB x) (retTQ TB k2m k1h k8j o)
theorem kuk (o : k2z) : OblH TB k2m 61 0 k5t (kjk o) (retTQ TB k2m k1h k8j o) :=
 OblH.ofC (X := ((∀ i, (k4x o) i = khr o i) ∧ True)) (by kernel_rfl) ⟨fun _ => propext ⟨fun h => h.1, fun h => ⟨h⟩⟩, trivial⟩
theorem kuz {x : kku} {o : k2z} (h : kai x o) : k1h.Snd Try.prog x o :=
 Con.soundH (c := k1h) (C := k2m) TBok ⟨inf_ok, (all_cons k1jc (all_cons k13f (all_cons k1gy (all_cons k1mr (all_cons k14p all_nil))))), all_nil⟩ mix Try.func7 (show Try.f7.body = some k5t by kernel_rfl) (show Try.f7.ntmps = 61 by kernel_rfl) (show Try.f7.results.toList = k8j by kernel_rfl) rfl h (kuk o)
theorem kww {p0 : List Int} {r0 : Bool} (h :
(((!true) = true →
 k4x (r0, ()) (p0, true, ())) ∧
((!true) = false →
 k4x (r0, ()) (p0, (decide (2000 < (p0.length : Int)) : Bool), ())))) : kai (p0, ()) (r0, ()) := WPh.of_eq (by kernel_rfl) h
theorem krx {r0 : Bool} {s0 : List Int} {s15 : Bool} (h :
((s15 = true →
 true = r0) ∧
(s15 = false →
(([] : List Int).length + s0.length) * 1 ≤ 140737488355328 ∧ ([] : List Int).length + s0.length ≤ maxLen ∧ (By (([] : List Int) ++ s0) ∧ (([] : List Int) ++ s0).length ≤ 137438953472) ∧ ∀ (r3 : TWitness) (r4 : Int), (r3 = ((decW (([] : List Int) ++ s0)).1) ∧ r4 = ((decW (([] : List Int) ++ s0)).2)) → (By s0 ∧ s0.length ≤ 137438953472) ∧ ∀ (r7 : TWitness) (r8 : Bool), (r7 = ((decW s0).1) ∧ r8 = (decide ((decW s0).2 = 0))) → ((!r8) = true →
(WQ r3 ∧ WQ (TWitness.mk ([] : List TSpent) ([] : List TNote) 0)) ∧ let r9 : Bool := (sameW r3 (TWitness.mk ([] : List TSpent) ([] : List TNote) 0))
(r9 = true →
(r4 == 2) = r0) ∧
(r9 = false →
 false = r0)) ∧
((!r8) = false →
(WQ r3) ∧ let r10 : List Int := (if rightV r3 = true then encW r3 else [])
 let r11 : Int := (if rightV r3 = true then 0 else 1 : Int)
(WQ r3 ∧ WQ r7) ∧ ((sameW r3 r7) = true →
((r4 == 0) = true →
((r11 == 0) = true →
 let v12 : Bool := ((strOfNums r10).toList == (strOfNums s0).toList)
 v12 = r0) ∧
((r11 == 0) = false →
 false = r0)) ∧
((r4 == 0) = false →
 false = r0)) ∧
((sameW r3 r7) = false →
 false = r0))))) : k4x (r0, ()) (s0, s15, ()) := ⟨mpr_of (by kernel_rfl) h⟩
theorem kst (p0 : List Int) (h : By p0 ∧ p0.length ≤ 9223372036854775807) : kai (p0, ()) ((true : Bool), ()) := by
 obtain ⟨hb, hl⟩ := h
 have zq : WQ zeroW := ⟨(by intro x hx; cases hx), (by decide), (by intro x hx; cases hx), (by decide), (by decide)⟩
 have j : ∀ s, (s = false → p0.length ≤ 2000) → k4x (true, ()) (p0, s, ()) := by
  intro s hs
  refine krx ⟨fun _ => rfl, fun h => ?_⟩
  have h := hs h
  refine ⟨by simp; omega, by simp; unfold maxLen; omega, ⟨hb, by simp; omega⟩, ?_⟩
  rw [List.nil_append]
  rintro _ _ ⟨rfl, rfl⟩
  refine ⟨⟨hb, by omega⟩, ?_⟩
  rintro _ _ ⟨rfl, rfl⟩
  rcases k1nr p0 with ⟨w, hE, e⟩ | e
  ·rw [e]
   refine ⟨fun h => by simp at h, fun _ => ⟨hE.r, ⟨hE.r, hE.r⟩, fun _ => ⟨fun _ => ⟨fun _ => ?_, fun h => ?_⟩, fun h => by simp at h⟩, fun h => ?_⟩⟩
   ·show ((strOfNums (if rightV w = true then encW w else [])).toList == (strOfNums p0).toList) = true
    rw [if_pos hE.v, hE.e]
    exact beq_self_eq_true _
   ·have h : ((if rightV w = true then 0 else 1 : Int) == 0) = false := h
    rw [if_pos hE.v] at h
    cases h
   ·have h : sameW w w = false := h
    rw [k1aa] at h
    cases h
  ·rw [e]
   refine ⟨fun _ => ⟨⟨zq, zq⟩, fun _ => rfl, fun h => ?_⟩, fun h => by simp at h⟩
   have h : sameW zeroW zeroW = false := h
   rw [k1aa] at h
   cases h
 exact kww ⟨fun h => by simp at h, fun _ => j _ fun h => by have := of_decide_eq_false h; omega⟩
end Go.Proofs.Ytpffhgljgpjenaa
end
