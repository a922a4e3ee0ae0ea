/-
  Closed facts on the types and the functions of this translation, printed by a program (facts.py). Each by a run in the kernel.
-/
import Derived.Test.YtjaignojekmfgaaRows
import Derived.Test.YtjaignojekmfgaaBvWk
namespace Go.Proofs.Ytjaignojekmfgaa
open Go.Bv
theorem tf1 :
    (Bv.elemOf Try.prog 22 = some (true, 3)) ∧
    (Bv.elemOf Try.prog 27 = some (true, 3)) ∧
    (Bv.elemOf Try.prog 43 = some (true, 3)) ∧
    (eqT Try.prog 47 = some [.int .u64, .int .u64, .int .u64]) ∧
    (fldOf Try.prog 25 0 = some (0, false, 1)) ∧
    (fldOf Try.prog 25 1 = some (1, false, 1)) ∧
    (fldOf Try.prog 25 2 = some (2, false, 1)) ∧
    (fldOf Try.prog 25 3 = some (3, false, 1)) ∧
    (fldOf Try.prog 29 0 = some (0, false, 1)) ∧
    (fldOf Try.prog 45 0 = some (0, false, 1)) ∧
    (fldOf Try.prog 45 1 = some (1, false, 1)) ∧
    (fldOf Try.prog 45 2 = some (2, false, 1)) ∧
    (fldOf Try.prog 47 0 = some (0, false, 1)) ∧
    (fldOf Try.prog 47 1 = some (1, false, 1)) ∧
    (fldOf Try.prog 47 2 = some (2, false, 1)) ∧
    (fldOf Try.prog 57 0 = some (0, false, 1)) ∧
    (fldOf Try.prog 57 1 = some (1, false, 1)) ∧
    (fldOf Try.prog 57 2 = some (2, false, 1)) ∧
    (plOf Try.prog 29 = some [(0, 1)]) ∧
    (plOf Try.prog 47 = some [(0, 1), (1, 1), (2, 1)]) ∧
    (plOf Try.prog 57 = some [(0, 1), (1, 1), (2, 1)]) ∧
    (rowOf Try.prog 22 = some (3, 24)) ∧
    (rowOf Try.prog 27 = some (3, 24)) ∧
    (tyOf Try.prog 22 = some (false, 1)) ∧
    (tyOf Try.prog 23 = some (false, 1)) ∧
    (tyOf Try.prog 25 = some (true, 4)) ∧
    (tyOf Try.prog 27 = some (false, 1)) ∧
    (tyOf Try.prog 29 = some (true, 1)) ∧
    (tyOf Try.prog 45 = some (true, 3)) ∧
    (tyOf Try.prog 47 = some (true, 3)) ∧
    (tyOf Try.prog 5 = some (false, 1)) ∧
    (tyOf Try.prog 57 = some (true, 3)) ∧
    (zeroV Try.prog 29 = some [.full 3 []]) ∧
    (zeroV Try.prog 45 = some [.d (.int .u8 0), .d (.int .u64 0), .d (.int .u64 0)]) ∧
    (zeroV Try.prog 47 = some [.d (.int .u64 0), .d (.int .u64 0), .d (.int .u64 0)]) ∧
    (zeroV Try.prog 57 = some [.d (.int .u64 0), .d (.int .u64 0), .d (.int .u64 0)]) :=
  ⟨by kernel_rfl, by kernel_rfl, by kernel_rfl, by kernel_rfl, by kernel_rfl, by kernel_rfl, by kernel_rfl, by kernel_rfl, by kernel_rfl, by kernel_rfl, by kernel_rfl, by kernel_rfl, by kernel_rfl, by kernel_rfl, by kernel_rfl, by kernel_rfl, by kernel_rfl, by kernel_rfl, by kernel_rfl, by kernel_rfl, by kernel_rfl, by kernel_rfl, by kernel_rfl, by kernel_rfl, by kernel_rfl, by kernel_rfl, by kernel_rfl, by kernel_rfl, by kernel_rfl, by kernel_rfl, by kernel_rfl, by kernel_rfl, by kernel_rfl, by kernel_rfl, by kernel_rfl, by kernel_rfl⟩
theorem mix : Try.prog.follows .mixedOrders = true := by kernel_rfl
theorem tu :
    (Try.prog.underlying 3 = some (.int .i64)) ∧
    (Try.prog.underlying 4 = some (.bool)) ∧
    (Try.prog.underlying 22 = some (.slice 47)) ∧
    (Try.prog.underlying 27 = some (.slice 57)) ∧
    (Try.prog.underlying 43 = some (.slice 45)) ∧
    (Try.prog.underlying 66 = some (.int .u64)) :=
  ⟨Try.underlying3, Try.underlying4, Try.underlying22, Try.underlying27, Try.underlying43, Try.underlying66⟩
theorem bd9 : Callable Try.prog 9 := ⟨by rw [Try.func9]; rfl, by rw [Try.func9]; show some _ ≠ some _; decide⟩
theorem bd10 : Callable Try.prog 10 := ⟨by rw [Try.func10]; rfl, by rw [Try.func10]; show some _ ≠ some _; decide⟩
theorem bd11 : Callable Try.prog 11 := ⟨by rw [Try.func11]; rfl, by rw [Try.func11]; show some _ ≠ some _; decide⟩
theorem bd12 : Callable Try.prog 12 := ⟨by rw [Try.func12]; rfl, by rw [Try.func12]; show some _ ≠ some _; decide⟩
theorem bd13 : Callable Try.prog 13 := ⟨by rw [Try.func13]; rfl, by rw [Try.func13]; show some _ ≠ some _; decide⟩
theorem bd14 : Callable Try.prog 14 := ⟨by rw [Try.func14]; rfl, by rw [Try.func14]; show some _ ≠ some _; decide⟩
theorem bd15 : Callable Try.prog 15 := ⟨by rw [Try.func15]; rfl, by rw [Try.func15]; show some _ ≠ some _; decide⟩
theorem bd16 : Callable Try.prog 16 := ⟨by rw [Try.func16]; rfl, by rw [Try.func16]; show some _ ≠ some _; decide⟩
theorem bd17 : Callable Try.prog 17 := ⟨by rw [Try.func17]; rfl, by rw [Try.func17]; show some _ ≠ some _; decide⟩
theorem bd18 : Callable Try.prog 18 := ⟨by rw [Try.func18]; rfl, by rw [Try.func18]; show some _ ≠ some _; decide⟩
theorem bd19 : Callable Try.prog 19 := ⟨by rw [Try.func19]; rfl, by rw [Try.func19]; show some _ ≠ some _; decide⟩
theorem bd20 : Callable Try.prog 20 := ⟨by rw [Try.func20]; rfl, by rw [Try.func20]; show some _ ≠ some _; decide⟩
theorem bd21 : Callable Try.prog 21 := ⟨by rw [Try.func21]; rfl, by rw [Try.func21]; show some _ ≠ some _; decide⟩
theorem bd22 : Callable Try.prog 22 := ⟨by rw [Try.func22]; rfl, by rw [Try.func22]; show some _ ≠ some _; decide⟩
theorem bd23 : Callable Try.prog 23 := ⟨by rw [Try.func23]; rfl, by rw [Try.func23]; show some _ ≠ some _; decide⟩
theorem bd24 : Callable Try.prog 24 := ⟨by rw [Try.func24]; rfl, by rw [Try.func24]; show some _ ≠ some _; decide⟩
theorem bd25 : Callable Try.prog 25 := ⟨by rw [Try.func25]; rfl, by rw [Try.func25]; show some _ ≠ some _; decide⟩
theorem bd26 : Callable Try.prog 26 := ⟨by rw [Try.func26]; rfl, by rw [Try.func26]; show some _ ≠ some _; decide⟩
theorem bd27 : Callable Try.prog 27 := ⟨by rw [Try.func27]; rfl, by rw [Try.func27]; show some _ ≠ some _; decide⟩
theorem bd28 : Callable Try.prog 28 := ⟨by rw [Try.func28]; rfl, by rw [Try.func28]; show some _ ≠ some _; decide⟩
theorem bd29 : Callable Try.prog 29 := ⟨by rw [Try.func29]; rfl, by rw [Try.func29]; show some _ ≠ some _; decide⟩
theorem bd30 : Callable Try.prog 30 := ⟨by rw [Try.func30]; rfl, by rw [Try.func30]; show some _ ≠ some _; decide⟩
theorem bd31 : Callable Try.prog 31 := ⟨by rw [Try.func31]; rfl, by rw [Try.func31]; show some _ ≠ some _; decide⟩
theorem x32 (x y c : Int) (hx : 0 ≤ x) (hy : 0 ≤ y) (hc0 : 0 ≤ c) (hc : c ≤ 1) : SoundX Try.prog 32 [.d (.int .u64 x), .d (.int .u64 y), .d (.int .u64 c)] (.tup [.d (.int .u64 ((x + y + c) % 18446744073709551616)), .d (.int .u64 ((x + y + c) / 18446744073709551616))]) := soundX_add64 Try.func32 (by kernel_rfl) (by kernel_rfl) (by kernel_rfl) (by kernel_rfl) x y c hx hy hc0 hc
theorem bd33 : Callable Try.prog 33 := ⟨by rw [Try.func33]; rfl, by rw [Try.func33]; show some _ ≠ some _; decide⟩
theorem bd34 : Callable Try.prog 34 := ⟨by rw [Try.func34]; rfl, by rw [Try.func34]; show some _ ≠ some _; decide⟩
theorem bd35 : Callable Try.prog 35 := ⟨by rw [Try.func35]; rfl, by rw [Try.func35]; show some _ ≠ some _; decide⟩
theorem bd36 : Callable Try.prog 36 := ⟨by rw [Try.func36]; rfl, by rw [Try.func36]; show some _ ≠ some _; decide⟩
theorem bd37 : Callable Try.prog 37 := ⟨by rw [Try.func37]; rfl, by rw [Try.func37]; show some _ ≠ some _; decide⟩
end Go.Proofs.Ytjaignojekmfgaa
