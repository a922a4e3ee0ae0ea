/-
  What the functions ask and return, as plain propositions (printed by a program).
-/
import Derived.Test.YtjaignojekmfgaaBvPre
namespace Go.Md
open Go Go.Bv Go.RowKit
structure SIDBalanceNonce where
  ID : Int
  Balance : Int
  Nonce : Int
  deriving Inhabited

structure SLIDAmountNonce where
  L : List SIDBalanceNonce
  ID : Int
  Amount : Int
  Nonce : Int
  deriving Inhabited

structure SAccounts where
  Accounts : List SIDBalanceNonce
  deriving Inhabited

structure SKindIDAmount where
  Kind : Int
  ID : Int
  Amount : Int
  deriving Inhabited

def cmp_isNaN_uint64_Ret (p0 : Int) (r0 : Bool) : Prop :=
  ((p0 != p0) = r0)
def cmp_Compare_uint64_Ret (p0 : Int) (p1 : Int) (r0 : Int) : Prop :=
  (∃ y1 : Bool, (cmp_isNaN_uint64_Ret p0 y1) ∧ (∃ y2 : Bool, (cmp_isNaN_uint64_Ret p1 y2) ∧ (((y1) = true → (((y2) = true → (0 = r0)) ∧ ((y2) = false → ((-1) = r0)))) ∧ ((y1) = false → (((y2) = true → (1 = r0)) ∧ ((y2) = false → (((decide (p0 < p1)) = true → ((-1) = r0)) ∧ ((decide (p0 < p1)) = false → (((decide (p1 < p0)) = true → (1 = r0)) ∧ ((decide (p1 < p0)) = false → (0 = r0)))))))))))
def ledger_find_1_Ret (p0 : SIDBalanceNonce) (p1 : Int) (r0 : Int) : Prop :=
  (∃ y1 : Int, (cmp_Compare_uint64_Ret p0.ID p1 y1) ∧ (y1 = r0))
def slices_BinarySearchFunc_ledger_Account_ledger_Account_uint64_edger_find_1_J1 (r0 : Int) (r1 : Bool) (j5 : Int) (b1 : Bool) : Prop :=
  (j5 = r0) ∧ (b1 = r1)
def slices_BinarySearchFunc_ledger_Account_ledger_Account_uint64_edger_find_1_L2 (p0 : List SIDBalanceNonce) (p1 : Int) (r0 : Int) (r1 : Bool) (nx1 : (Int × Int) → Prop) (j3 : Int) (j4 : Int) : Prop :=
  ((decide (j3 < j4)) = true → ((0 ≤ IntKind.i64.wrap (ishr .u64 (IntKind.u64.wrap (IntKind.i64.wrap (j3 + j4))) 1)) ∧ ((IntKind.i64.wrap (ishr .u64 (IntKind.u64.wrap (IntKind.i64.wrap (j3 + j4))) 1) < ((List.length p0 : Nat) : Int)) ∧ (∃ y1 : Int, (ledger_find_1_Ret (ix p0 (IntKind.i64.wrap (ishr .u64 (IntKind.u64.wrap (IntKind.i64.wrap (j3 + j4))) 1))) p1 y1) ∧ (((decide (y1 < 0)) = true → (nx1 (IntKind.i64.wrap ((IntKind.i64.wrap (ishr .u64 (IntKind.u64.wrap (IntKind.i64.wrap (j3 + j4))) 1)) + 1), j4))) ∧ ((decide (y1 < 0)) = false → (nx1 (j3, IntKind.i64.wrap (ishr .u64 (IntKind.u64.wrap (IntKind.i64.wrap (j3 + j4))) 1))))))))) ∧ ((decide (j3 < j4)) = false → (((decide (j3 < ((List.length p0 : Nat) : Int))) = true → 0 ≤ j3) ∧ (((decide (j3 < ((List.length p0 : Nat) : Int))) = true → j3 < ((List.length p0 : Nat) : Int)) ∧ (∃ y2 : Int, ((decide (j3 < ((List.length p0 : Nat) : Int))) = true → ledger_find_1_Ret (ix p0 j3) p1 y2) ∧ (slices_BinarySearchFunc_ledger_Account_ledger_Account_uint64_edger_find_1_J1 r0 r1 j3 ((decide (j3 < ((List.length p0 : Nat) : Int))) && (y2 == 0)))))))
def slices_BinarySearchFunc_ledger_Account_ledger_Account_uint64_edger_find_1_Ret (p0 : List SIDBalanceNonce) (p1 : Int) (r0 : Int) (r1 : Bool) : Prop :=
  Loop (0, ((List.length p0 : Nat) : Int)) (fun nx x => slices_BinarySearchFunc_ledger_Account_ledger_Account_uint64_edger_find_1_L2 p0 p1 r0 r1 nx x.1 x.2)
def ledger_find_Ret (p0 : SAccounts) (p1 : Int) (r0 : Int) (r1 : Bool) : Prop :=
  (∃ y1 : Int, ∃ y2 : Bool, (slices_BinarySearchFunc_ledger_Account_ledger_Account_uint64_edger_find_1_Ret p0.Accounts p1 y1 y2) ∧ ((y1 = r0) ∧ (y2 = r1)))
def ledger_Get_Ret (p0 : SAccounts) (p1 : Int) (r0 : Int) (r1 : Int) : Prop :=
  (∃ y1 : Int, ∃ y2 : Bool, (ledger_find_Ret p0 p1 y1 y2) ∧ (((!y2) = true → ((0 = r0) ∧ (0 = r1))) ∧ ((!y2) = false → ((0 ≤ y1) ∧ ((y1 < ((List.length p0.Accounts : Nat) : Int)) ∧ ((0 ≤ y1) ∧ ((y1 < ((List.length p0.Accounts : Nat) : Int)) ∧ ((((ix p0.Accounts y1).Balance) = r0) ∧ (((ix p0.Accounts y1).Nonce) = r1)))))))))
def ledger_exceeds_J1 (r0 : Bool) (b1 : Bool) : Prop :=
  (b1 = r0)
def ledger_exceeds_Ret (p0 : Int) (p1 : Int) (r0 : Bool) : Prop :=
  ledger_exceeds_J1 r0 ((decide (9223372036854775807 < p0)) || (decide (IntKind.u64.wrap (9223372036854775807 - p0) < p1)))
def slices_Clone_ledger_Account_ledger_Account_Ret (p0 : List SIDBalanceNonce) (r0 : List SIDBalanceNonce) : Prop :=
  ∀ z1 : Bool, (z1 = true → p0 = []) → (((z1) = true → (([] : List SIDBalanceNonce) = r0)) ∧ ((z1) = false → (((List.length p0) * 24 ≤ 140737488355328) ∧ (((List.length p0) ≤ maxLen) ∧ ((([] : List SIDBalanceNonce) ++ p0) = r0)))))
def ledger_set_J1 (p0 : SAccounts) (r0 : SAccounts) (j1 : List SIDBalanceNonce) (j2 : Int) : Prop :=
  (0 ≤ j2) ∧ ((j2 ≤ ((List.length p0.Accounts : Nat) : Int)) ∧ ((((List.length j1) + ((min (List.length p0.Accounts) (List.length p0.Accounts)) - j2.toNat)) * 24 ≤ 140737488355328) ∧ ((((List.length j1) + ((min (List.length p0.Accounts) (List.length p0.Accounts)) - j2.toNat)) ≤ maxLen) ∧ ((SAccounts.mk (j1 ++ (List.drop j2.toNat (List.take (List.length p0.Accounts) p0.Accounts)))) = r0))))
def ledger_set_J2 (p0 : SAccounts) (r0 : SAccounts) (y1 : Int) (y2 : Bool) (j1 : List SIDBalanceNonce) : Prop :=
  ((y2) = true → (ledger_set_J1 p0 r0 j1 (IntKind.i64.wrap (y1 + 1)))) ∧ ((y2) = false → (ledger_set_J1 p0 r0 j1 y1))
def ledger_set_J3 (p0 : SAccounts) (p1 : SIDBalanceNonce) (r0 : SAccounts) (y1 : Int) (y2 : Bool) (y3 : List SIDBalanceNonce) (b1 : Bool) : Prop :=
  ((b1) = true → ((((List.length y3) + 1) * 24 ≤ 140737488355328) ∧ ((((List.length y3) + 1) ≤ maxLen) ∧ (ledger_set_J2 p0 r0 y1 y2 (y3 ++ [p1]))))) ∧ ((b1) = false → (ledger_set_J2 p0 r0 y1 y2 y3))
def ledger_set_Ret (p0 : SAccounts) (p1 : SIDBalanceNonce) (r0 : SAccounts) : Prop :=
  (∃ y1 : Int, ∃ y2 : Bool, (ledger_find_Ret p0 p1.ID y1 y2) ∧ ((0 ≤ y1) ∧ ((y1 ≤ ((List.length p0.Accounts : Nat) : Int)) ∧ (∃ y3 : List SIDBalanceNonce, (slices_Clone_ledger_Account_ledger_Account_Ret (List.take y1.toNat p0.Accounts) y3) ∧ (ledger_set_J3 p0 p1 r0 y1 y2 y3 ((p1.Balance != 0) || (p1.Nonce != 0)))))))
def ledger_Credit_Ret (p0 : SAccounts) (p1 : Int) (p2 : Int) (r0 : SAccounts) (r1 : Int) : Prop :=
  (∃ y1 : Int, ∃ y2 : Int, (ledger_Get_Ret p0 p1 y1 y2) ∧ (∃ y3 : Bool, (ledger_exceeds_Ret y1 p2 y3) ∧ (((y3) = true → (((SAccounts.mk ([] : List SIDBalanceNonce)) = r0) ∧ (1 = r1))) ∧ ((y3) = false → (∃ y4 : SAccounts, (ledger_set_Ret p0 (SIDBalanceNonce.mk p1 (IntKind.u64.wrap (y1 + p2)) y2) y4) ∧ ((y4 = r0) ∧ (0 = r1)))))))
def ledger_Debit_J1 (p0 : SAccounts) (p1 : Int) (p2 : Int) (p3 : Int) (r0 : SAccounts) (r1 : Int) (y1 : Int) (b1 : Bool) : Prop :=
  ((b1) = true → (((SAccounts.mk ([] : List SIDBalanceNonce)) = r0) ∧ (20 = r1))) ∧ ((b1) = false → (((decide (y1 < p2)) = true → (((SAccounts.mk ([] : List SIDBalanceNonce)) = r0) ∧ (15 = r1))) ∧ ((decide (y1 < p2)) = false → (∃ y3 : SAccounts, (ledger_set_Ret p0 (SIDBalanceNonce.mk p1 (IntKind.u64.wrap (y1 - p2)) (IntKind.u64.wrap (p3 + 1))) y3) ∧ ((y3 = r0) ∧ (0 = r1))))))
def ledger_Debit_Ret (p0 : SAccounts) (p1 : Int) (p2 : Int) (p3 : Int) (r0 : SAccounts) (r1 : Int) : Prop :=
  (∃ y1 : Int, ∃ y2 : Int, (ledger_Get_Ret p0 p1 y1 y2) ∧ (((p2 == 0) = true → (((SAccounts.mk ([] : List SIDBalanceNonce)) = r0) ∧ (1 = r1))) ∧ ((p2 == 0) = false → (ledger_Debit_J1 p0 p1 p2 p3 r0 r1 y1 ((p3 != y2) || (p3 == 18446744073709551615))))))
def ledger_Undebit_J1 (p0 : SAccounts) (p1 : Int) (p2 : Int) (p3 : Int) (r0 : SAccounts) (r1 : Int) (y1 : Int) (y2 : Int) (b1 : Bool) : Prop :=
  ((b1) = true → (((SAccounts.mk ([] : List SIDBalanceNonce)) = r0) ∧ (1 = r1))) ∧ ((b1) = false → ((((IntKind.u64.wrap (y2 - 1)) != p3) = true → (((SAccounts.mk ([] : List SIDBalanceNonce)) = r0) ∧ (20 = r1))) ∧ (((IntKind.u64.wrap (y2 - 1)) != p3) = false → (∃ y4 : SAccounts, (ledger_set_Ret p0 (SIDBalanceNonce.mk p1 (IntKind.u64.wrap (y1 + p2)) p3) y4) ∧ ((y4 = r0) ∧ (0 = r1))))))
def ledger_Undebit_Ret (p0 : SAccounts) (p1 : Int) (p2 : Int) (p3 : Int) (r0 : SAccounts) (r1 : Int) : Prop :=
  (∃ y1 : Int, ∃ y2 : Int, (ledger_Get_Ret p0 p1 y1 y2) ∧ (∃ y3 : Bool, ((p2 == 0) = false → ledger_exceeds_Ret y1 p2 y3) ∧ (ledger_Undebit_J1 p0 p1 p2 p3 r0 r1 y1 y2 (((p2 == 0) || y3) || (y2 == 0)))))
def ledger_Uncredit_Ret (p0 : SAccounts) (p1 : Int) (p2 : Int) (r0 : SAccounts) (r1 : Int) : Prop :=
  (∃ y1 : Int, ∃ y2 : Int, (ledger_Get_Ret p0 p1 y1 y2) ∧ (((decide (y1 < p2)) = true → (((SAccounts.mk ([] : List SIDBalanceNonce)) = r0) ∧ (1 = r1))) ∧ ((decide (y1 < p2)) = false → (∃ y3 : SAccounts, (ledger_set_Ret p0 (SIDBalanceNonce.mk p1 (IntKind.u64.wrap (y1 - p2)) y2) y3) ∧ ((y3 = r0) ∧ (0 = r1))))))
def moidorelaw44_awake_J1 (r0 : Bool) (b1 : Bool) : Prop :=
  (b1 = r0)
def moidorelaw44_awake_Ret (r0 : Bool) : Prop :=
  (∃ y1 : SAccounts, ∃ y2 : Int, (ledger_Credit_Ret (SAccounts.mk ([] : List SIDBalanceNonce)) 5 10 y1 y2) ∧ (∃ y3 : SAccounts, ∃ y4 : Int, (ledger_Debit_Ret y1 5 10 0 y3 y4) ∧ (∃ y5 : SAccounts, ∃ y6 : Int, (ledger_Debit_Ret y3 5 10 0 y5 y6) ∧ (∃ y7 : SAccounts, ∃ y8 : Int, (ledger_Undebit_Ret y3 5 10 0 y7 y8) ∧ (∃ y9 : SAccounts, ∃ y10 : Int, (ledger_Uncredit_Ret y7 5 10 y9 y10) ∧ (∃ y11 : Int, ∃ y12 : Int, (ledger_Get_Ret y3 5 y11 y12) ∧ (moidorelaw44_awake_J1 r0 ((((((((y2 == 0) && (y4 == 0)) && (y6 == 20)) && (y8 == 0)) && (y10 == 0)) && (y11 == 0)) && (y12 == 1)) && (((List.length y9.Accounts : Nat) : Int) == 0)))))))))
def moidoreref44_Valid_J1 (r0 : Bool) (nx1 : Int → Prop) (j2 : Int) (b1 : Bool) : Prop :=
  ((b1) = true → (false = r0)) ∧ ((b1) = false → (nx1 (IntKind.i64.wrap (j2 + 1))))
def moidoreref44_Valid_L2 (p0 : List SIDBalanceNonce) (r0 : Bool) (nx1 : Int → Prop) (j2 : Int) : Prop :=
  ((decide (j2 < ((List.length p0 : Nat) : Int))) = true → ((0 ≤ j2) ∧ ((j2 < ((List.length p0 : Nat) : Int)) ∧ (((decide (18446744069414584321 ≤ (ix p0 j2).ID)) = false → 0 ≤ j2) ∧ (((decide (18446744069414584321 ≤ (ix p0 j2).ID)) = false → j2 < ((List.length p0 : Nat) : Int)) ∧ ((((decide (18446744069414584321 ≤ (ix p0 j2).ID)) || (decide (9223372036854775807 < (ix p0 j2).Balance))) = false → 0 ≤ j2) ∧ ((((decide (18446744069414584321 ≤ (ix p0 j2).ID)) || (decide (9223372036854775807 < (ix p0 j2).Balance))) = false → j2 < ((List.length p0 : Nat) : Int)) ∧ ((((decide (18446744069414584321 ≤ (ix p0 j2).ID)) || (decide (9223372036854775807 < (ix p0 j2).Balance))) = false → (((ix p0 j2).Balance) == 0) = true → 0 ≤ j2) ∧ ((((decide (18446744069414584321 ≤ (ix p0 j2).ID)) || (decide (9223372036854775807 < (ix p0 j2).Balance))) = false → (((ix p0 j2).Balance) == 0) = true → j2 < ((List.length p0 : Nat) : Int)) ∧ (((((decide (18446744069414584321 ≤ (ix p0 j2).ID)) || (decide (9223372036854775807 < (ix p0 j2).Balance))) || ((((ix p0 j2).Balance) == 0) && (((ix p0 j2).Nonce) == 0))) = false → (decide (0 < j2)) = true → 0 ≤ j2) ∧ (((((decide (18446744069414584321 ≤ (ix p0 j2).ID)) || (decide (9223372036854775807 < (ix p0 j2).Balance))) || ((((ix p0 j2).Balance) == 0) && (((ix p0 j2).Nonce) == 0))) = false → (decide (0 < j2)) = true → j2 < ((List.length p0 : Nat) : Int)) ∧ (((((decide (18446744069414584321 ≤ (ix p0 j2).ID)) || (decide (9223372036854775807 < (ix p0 j2).Balance))) || ((((ix p0 j2).Balance) == 0) && (((ix p0 j2).Nonce) == 0))) = false → (decide (0 < j2)) = true → 0 ≤ IntKind.i64.wrap (j2 - 1)) ∧ (((((decide (18446744069414584321 ≤ (ix p0 j2).ID)) || (decide (9223372036854775807 < (ix p0 j2).Balance))) || ((((ix p0 j2).Balance) == 0) && (((ix p0 j2).Nonce) == 0))) = false → (decide (0 < j2)) = true → IntKind.i64.wrap (j2 - 1) < ((List.length p0 : Nat) : Int)) ∧ (moidoreref44_Valid_J1 r0 nx1 j2 ((((decide (18446744069414584321 ≤ (ix p0 j2).ID)) || (decide (9223372036854775807 < (ix p0 j2).Balance))) || ((((ix p0 j2).Balance) == 0) && (((ix p0 j2).Nonce) == 0))) || ((decide (0 < j2)) && (decide ((ix p0 j2).ID ≤ (ix p0 (IntKind.i64.wrap (j2 - 1))).ID)))))))))))))))))) ∧ ((decide (j2 < ((List.length p0 : Nat) : Int))) = false → (true = r0))
def moidoreref44_Valid_Ret (p0 : List SIDBalanceNonce) (r0 : Bool) : Prop :=
  Loop 0 (fun nx x => moidoreref44_Valid_L2 p0 r0 nx x)
def moidorelaw44_Case_right_J1 (r0 : Bool) (b1 : Bool) : Prop :=
  (b1 = r0)
def moidorelaw44_Case_right_Ret (p0 : SLIDAmountNonce) (r0 : Bool) : Prop :=
  (∃ y1 : Bool, ((decide (((List.length p0.L : Nat) : Int) ≤ 20)) = true → moidoreref44_Valid_Ret p0.L y1) ∧ (moidorelaw44_Case_right_J1 r0 (((decide (((List.length p0.L : Nat) : Int) ≤ 20)) && y1) && (decide (p0.ID < 18446744069414584321)))))
def moidorelaw44_own_L1 (p0 : List SIDBalanceNonce) (r0 : SAccounts) (nx1 : (Int × (List SIDBalanceNonce)) → Prop) (j3 : Int) (j4 : List SIDBalanceNonce) : Prop :=
  ((decide (j3 < ((List.length p0 : Nat) : Int))) = true → ((0 ≤ j3) ∧ ((j3 < ((List.length p0 : Nat) : Int)) ∧ ((((List.length j4) + 1) * 24 ≤ 140737488355328) ∧ ((((List.length j4) + 1) ≤ maxLen) ∧ (nx1 (IntKind.i64.wrap (j3 + 1), j4 ++ [(ix p0 j3)]))))))) ∧ ((decide (j3 < ((List.length p0 : Nat) : Int))) = false → ((SAccounts.mk j4) = r0))
def moidorelaw44_own_Ret (p0 : List SIDBalanceNonce) (r0 : SAccounts) : Prop :=
  Loop (0, ([] : List SIDBalanceNonce)) (fun nx x => moidorelaw44_own_L1 p0 r0 nx x.1 x.2)
def moidoreref44_Get_L1 (p0 : List SIDBalanceNonce) (p1 : Int) (r0 : SIDBalanceNonce) (nx1 : Int → Prop) (j2 : Int) : Prop :=
  ((decide (j2 < ((List.length p0 : Nat) : Int))) = true → ((0 ≤ j2) ∧ ((j2 < ((List.length p0 : Nat) : Int)) ∧ (((((ix p0 j2).ID) == p1) = true → ((0 ≤ j2) ∧ ((j2 < ((List.length p0 : Nat) : Int)) ∧ ((ix p0 j2) = r0)))) ∧ ((((ix p0 j2).ID) == p1) = false → (nx1 (IntKind.i64.wrap (j2 + 1)))))))) ∧ ((decide (j2 < ((List.length p0 : Nat) : Int))) = false → ((SIDBalanceNonce.mk p1 0 0) = r0))
def moidoreref44_Get_Ret (p0 : List SIDBalanceNonce) (p1 : Int) (r0 : SIDBalanceNonce) : Prop :=
  Loop 0 (fun nx x => moidoreref44_Get_L1 p0 p1 r0 nx x)
def moidoreref44_set_J1 (nx2 : ((List SIDBalanceNonce) × Int) → Prop) (j9 : Int) (j10 : List SIDBalanceNonce) : Prop :=
  nx2 (j10, IntKind.i64.wrap (j9 + 1))
def moidoreref44_set_L2 (p0 : List SIDBalanceNonce) (p1 : SIDBalanceNonce) (r0 : List SIDBalanceNonce) (nx2 : ((List SIDBalanceNonce) × Int) → Prop) (j8 : List SIDBalanceNonce) (j9 : Int) : Prop :=
  ((decide (j9 < ((List.length p0 : Nat) : Int))) = true → ((0 ≤ j9) ∧ ((j9 < ((List.length p0 : Nat) : Int)) ∧ (((decide (p1.ID < (ix p0 j9).ID)) = true → ((0 ≤ j9) ∧ ((j9 < ((List.length p0 : Nat) : Int)) ∧ ((((List.length j8) + 1) * 24 ≤ 140737488355328) ∧ ((((List.length j8) + 1) ≤ maxLen) ∧ (moidoreref44_set_J1 nx2 j9 (j8 ++ [(ix p0 j9)]))))))) ∧ ((decide (p1.ID < (ix p0 j9).ID)) = false → (moidoreref44_set_J1 nx2 j9 j8)))))) ∧ ((decide (j9 < ((List.length p0 : Nat) : Int))) = false → (j8 = r0))
def moidoreref44_set_J3 (p0 : List SIDBalanceNonce) (p1 : SIDBalanceNonce) (r0 : List SIDBalanceNonce) (j5 : List SIDBalanceNonce) : Prop :=
  Loop (j5, 0) (fun nx x => moidoreref44_set_L2 p0 p1 r0 nx x.1 x.2)
def moidoreref44_set_J4 (p0 : List SIDBalanceNonce) (p1 : SIDBalanceNonce) (r0 : List SIDBalanceNonce) (j3 : List SIDBalanceNonce) (b2 : Bool) : Prop :=
  ((b2) = true → ((((List.length j3) + 1) * 24 ≤ 140737488355328) ∧ ((((List.length j3) + 1) ≤ maxLen) ∧ (moidoreref44_set_J3 p0 p1 r0 (j3 ++ [p1]))))) ∧ ((b2) = false → (moidoreref44_set_J3 p0 p1 r0 j3))
def moidoreref44_set_J5 (p0 : List SIDBalanceNonce) (p1 : SIDBalanceNonce) (r0 : List SIDBalanceNonce) (nx1 : ((List SIDBalanceNonce) × Int) → Prop) (j3 : List SIDBalanceNonce) (j4 : Int) (b1 : Bool) : Prop :=
  ((b1) = true → ((0 ≤ j4) ∧ ((j4 < ((List.length p0 : Nat) : Int)) ∧ ((((List.length j3) + 1) * 24 ≤ 140737488355328) ∧ ((((List.length j3) + 1) ≤ maxLen) ∧ (nx1 (j3 ++ [(ix p0 j4)], IntKind.i64.wrap (j4 + 1)))))))) ∧ ((b1) = false → (moidoreref44_set_J4 p0 p1 r0 j3 ((decide (0 < p1.Balance)) || (decide (0 < p1.Nonce)))))
def moidoreref44_set_L6 (p0 : List SIDBalanceNonce) (p1 : SIDBalanceNonce) (r0 : List SIDBalanceNonce) (nx1 : ((List SIDBalanceNonce) × Int) → Prop) (j3 : List SIDBalanceNonce) (j4 : Int) : Prop :=
  ((decide (j4 < ((List.length p0 : Nat) : Int))) = true → 0 ≤ j4) ∧ (((decide (j4 < ((List.length p0 : Nat) : Int))) = true → j4 < ((List.length p0 : Nat) : Int)) ∧ (moidoreref44_set_J5 p0 p1 r0 nx1 j3 j4 ((decide (j4 < ((List.length p0 : Nat) : Int))) && (decide ((ix p0 j4).ID < p1.ID)))))
def moidoreref44_set_Ret (p0 : List SIDBalanceNonce) (p1 : SIDBalanceNonce) (r0 : List SIDBalanceNonce) : Prop :=
  Loop (([] : List SIDBalanceNonce), 0) (fun nx x => moidoreref44_set_L6 p0 p1 r0 nx x.1 x.2)
def moidoreref44_Credit_Ret (p0 : List SIDBalanceNonce) (p1 : Int) (p2 : Int) (r0 : List SIDBalanceNonce) (r1 : Int) : Prop :=
  (∃ y1 : SIDBalanceNonce, (moidoreref44_Get_Ret p0 p1 y1) ∧ (((decide (IntKind.u64.wrap (9223372036854775807 - y1.Balance) < p2)) = true → ((([] : List SIDBalanceNonce) = r0) ∧ (1 = r1))) ∧ ((decide (IntKind.u64.wrap (9223372036854775807 - y1.Balance) < p2)) = false → (∃ y2 : List SIDBalanceNonce, (moidoreref44_set_Ret p0 (SIDBalanceNonce.mk y1.ID (IntKind.u64.wrap (y1.Balance + p2)) y1.Nonce) y2) ∧ ((y2 = r0) ∧ (0 = r1))))))
def moidoreref44_Uncredit_Ret (p0 : List SIDBalanceNonce) (p1 : Int) (p2 : Int) (r0 : List SIDBalanceNonce) (r1 : Int) : Prop :=
  (∃ y1 : SIDBalanceNonce, (moidoreref44_Get_Ret p0 p1 y1) ∧ (((decide (y1.Balance < p2)) = true → ((([] : List SIDBalanceNonce) = r0) ∧ (1 = r1))) ∧ ((decide (y1.Balance < p2)) = false → (∃ y2 : List SIDBalanceNonce, (moidoreref44_set_Ret p0 (SIDBalanceNonce.mk y1.ID (IntKind.u64.wrap (y1.Balance - p2)) y1.Nonce) y2) ∧ ((y2 = r0) ∧ (0 = r1))))))
def moidorelaw44_back_L1 (p0 : SAccounts) (r0 : List SIDBalanceNonce) (nx1 : ((List SIDBalanceNonce) × Int) → Prop) (j3 : List SIDBalanceNonce) (j4 : Int) : Prop :=
  ((decide (j4 < ((List.length p0.Accounts : Nat) : Int))) = true → ((0 ≤ j4) ∧ ((j4 < ((List.length p0.Accounts : Nat) : Int)) ∧ ((((List.length j3) + 1) * 24 ≤ 140737488355328) ∧ ((((List.length j3) + 1) ≤ maxLen) ∧ (nx1 (j3 ++ [(ix p0.Accounts j4)], IntKind.i64.wrap (j4 + 1)))))))) ∧ ((decide (j4 < ((List.length p0.Accounts : Nat) : Int))) = false → (j3 = r0))
def moidorelaw44_back_Ret (p0 : SAccounts) (r0 : List SIDBalanceNonce) : Prop :=
  Loop (([] : List SIDBalanceNonce), 0) (fun nx x => moidorelaw44_back_L1 p0 r0 nx x.1 x.2)
def moidoreref44_Same_L1 (p0 : List SIDBalanceNonce) (p1 : List SIDBalanceNonce) (r0 : Bool) (nx1 : Int → Prop) (j2 : Int) : Prop :=
  ((decide (j2 < ((List.length p0 : Nat) : Int))) = true → ((0 ≤ j2) ∧ ((j2 < ((List.length p0 : Nat) : Int)) ∧ ((0 ≤ j2) ∧ ((j2 < ((List.length p1 : Nat) : Int)) ∧ (((!((((ix p0 j2).ID) == ((ix p1 j2).ID)) && ((((ix p0 j2).Balance) == ((ix p1 j2).Balance)) && ((((ix p0 j2).Nonce) == ((ix p1 j2).Nonce)) && true)))) = true → (false = r0)) ∧ ((!((((ix p0 j2).ID) == ((ix p1 j2).ID)) && ((((ix p0 j2).Balance) == ((ix p1 j2).Balance)) && ((((ix p0 j2).Nonce) == ((ix p1 j2).Nonce)) && true)))) = false → (nx1 (IntKind.i64.wrap (j2 + 1)))))))))) ∧ ((decide (j2 < ((List.length p0 : Nat) : Int))) = false → (true = r0))
def moidoreref44_Same_Ret (p0 : List SIDBalanceNonce) (p1 : List SIDBalanceNonce) (r0 : Bool) : Prop :=
  ((((List.length p0 : Nat) : Int) != ((List.length p1 : Nat) : Int)) = true → (false = r0)) ∧ ((((List.length p0 : Nat) : Int) != ((List.length p1 : Nat) : Int)) = false → (Loop 0 (fun nx x => moidoreref44_Same_L1 p0 p1 r0 nx x)))
def moidorelaw44_LedgerCredit_J1 (r0 : Bool) (b2 : Bool) : Prop :=
  (b2 = r0)
def moidorelaw44_LedgerCredit_J2 (p0 : SLIDAmountNonce) (r0 : Bool) (b1 : Bool) : Prop :=
  ((b1) = true → (∃ y3 : Bool, (moidorelaw44_awake_Ret y3) ∧ (y3 = r0))) ∧ ((b1) = false → (∃ y4 : SAccounts, (moidorelaw44_own_Ret p0.L y4) ∧ (∃ y5 : SAccounts, ∃ y6 : Int, (ledger_Credit_Ret y4 p0.ID p0.Amount y5 y6) ∧ (∃ y7 : List SIDBalanceNonce, ∃ y8 : Int, (moidoreref44_Credit_Ret p0.L p0.ID p0.Amount y7 y8) ∧ (∃ y9 : SAccounts, (moidorelaw44_own_Ret p0.L y9) ∧ (∃ y10 : SAccounts, ∃ y11 : Int, (ledger_Uncredit_Ret y9 p0.ID p0.Amount y10 y11) ∧ (∃ y12 : List SIDBalanceNonce, ∃ y13 : Int, (moidoreref44_Uncredit_Ret p0.L p0.ID p0.Amount y12 y13) ∧ (∃ y14 : List SIDBalanceNonce, ((y6 == y8) = true → moidorelaw44_back_Ret y5 y14) ∧ (∃ y15 : Bool, ((y6 == y8) = true → moidoreref44_Same_Ret y14 y7 y15) ∧ (∃ y16 : List SIDBalanceNonce, ((((y6 == y8) && y15) && (y11 == y13)) = true → moidorelaw44_back_Ret y10 y16) ∧ (∃ y17 : Bool, ((((y6 == y8) && y15) && (y11 == y13)) = true → moidoreref44_Same_Ret y16 y12 y17) ∧ (moidorelaw44_LedgerCredit_J1 r0 ((((y6 == y8) && y15) && (y11 == y13)) && y17)))))))))))))
def moidorelaw44_LedgerCredit_Ret (p0 : SLIDAmountNonce) (r0 : Bool) : Prop :=
  (∃ y1 : Bool, (moidorelaw44_awake_Ret y1) ∧ (∃ y2 : Bool, ((!y1) = false → moidorelaw44_Case_right_Ret p0 y2) ∧ (moidorelaw44_LedgerCredit_J2 p0 r0 ((!y1) || (!y2)))))
def moidoreref44_Debit_J1 (p0 : List SIDBalanceNonce) (p2 : Int) (r0 : List SIDBalanceNonce) (r1 : Int) (y1 : SIDBalanceNonce) (b1 : Bool) : Prop :=
  ((b1) = true → ((([] : List SIDBalanceNonce) = r0) ∧ (20 = r1))) ∧ ((b1) = false → (((decide (y1.Balance < p2)) = true → ((([] : List SIDBalanceNonce) = r0) ∧ (15 = r1))) ∧ ((decide (y1.Balance < p2)) = false → (∃ y2 : List SIDBalanceNonce, (moidoreref44_set_Ret p0 (SIDBalanceNonce.mk y1.ID (IntKind.u64.wrap (y1.Balance - p2)) (IntKind.u64.wrap (y1.Nonce + 1))) y2) ∧ ((y2 = r0) ∧ (0 = r1))))))
def moidoreref44_Debit_Ret (p0 : List SIDBalanceNonce) (p1 : Int) (p2 : Int) (p3 : Int) (r0 : List SIDBalanceNonce) (r1 : Int) : Prop :=
  (∃ y1 : SIDBalanceNonce, (moidoreref44_Get_Ret p0 p1 y1) ∧ (((p2 == 0) = true → ((([] : List SIDBalanceNonce) = r0) ∧ (1 = r1))) ∧ ((p2 == 0) = false → (moidoreref44_Debit_J1 p0 p2 r0 r1 y1 ((p3 != y1.Nonce) || (p3 == 18446744073709551615))))))
def moidoreref44_Undebit_J1 (p0 : List SIDBalanceNonce) (p2 : Int) (p3 : Int) (r0 : List SIDBalanceNonce) (r1 : Int) (y1 : SIDBalanceNonce) (b1 : Bool) : Prop :=
  ((b1) = true → ((([] : List SIDBalanceNonce) = r0) ∧ (1 = r1))) ∧ ((b1) = false → ((((IntKind.u64.wrap (y1.Nonce - 1)) != p3) = true → ((([] : List SIDBalanceNonce) = r0) ∧ (20 = r1))) ∧ (((IntKind.u64.wrap (y1.Nonce - 1)) != p3) = false → (∃ y2 : List SIDBalanceNonce, (moidoreref44_set_Ret p0 (SIDBalanceNonce.mk y1.ID (IntKind.u64.wrap (y1.Balance + p2)) (IntKind.u64.wrap (y1.Nonce - 1))) y2) ∧ ((y2 = r0) ∧ (0 = r1))))))
def moidoreref44_Undebit_Ret (p0 : List SIDBalanceNonce) (p1 : Int) (p2 : Int) (p3 : Int) (r0 : List SIDBalanceNonce) (r1 : Int) : Prop :=
  (∃ y1 : SIDBalanceNonce, (moidoreref44_Get_Ret p0 p1 y1) ∧ (moidoreref44_Undebit_J1 p0 p2 p3 r0 r1 y1 (((p2 == 0) || (decide (IntKind.u64.wrap (9223372036854775807 - y1.Balance) < p2))) || (y1.Nonce == 0))))
def moidorelaw44_LedgerDebit_J1 (r0 : Bool) (b2 : Bool) : Prop :=
  (b2 = r0)
def moidorelaw44_LedgerDebit_J2 (p0 : SLIDAmountNonce) (r0 : Bool) (b1 : Bool) : Prop :=
  ((b1) = true → (∃ y3 : Bool, (moidorelaw44_awake_Ret y3) ∧ (y3 = r0))) ∧ ((b1) = false → (∃ y4 : SAccounts, (moidorelaw44_own_Ret p0.L y4) ∧ (∃ y5 : SAccounts, ∃ y6 : Int, (ledger_Debit_Ret y4 p0.ID p0.Amount p0.Nonce y5 y6) ∧ (∃ y7 : List SIDBalanceNonce, ∃ y8 : Int, (moidoreref44_Debit_Ret p0.L p0.ID p0.Amount p0.Nonce y7 y8) ∧ (∃ y9 : SAccounts, (moidorelaw44_own_Ret p0.L y9) ∧ (∃ y10 : SAccounts, ∃ y11 : Int, (ledger_Undebit_Ret y9 p0.ID p0.Amount p0.Nonce y10 y11) ∧ (∃ y12 : List SIDBalanceNonce, ∃ y13 : Int, (moidoreref44_Undebit_Ret p0.L p0.ID p0.Amount p0.Nonce y12 y13) ∧ (∃ y14 : List SIDBalanceNonce, ((y6 == y8) = true → moidorelaw44_back_Ret y5 y14) ∧ (∃ y15 : Bool, ((y6 == y8) = true → moidoreref44_Same_Ret y14 y7 y15) ∧ (∃ y16 : List SIDBalanceNonce, ((((y6 == y8) && y15) && (y11 == y13)) = true → moidorelaw44_back_Ret y10 y16) ∧ (∃ y17 : Bool, ((((y6 == y8) && y15) && (y11 == y13)) = true → moidoreref44_Same_Ret y16 y12 y17) ∧ (moidorelaw44_LedgerDebit_J1 r0 ((((y6 == y8) && y15) && (y11 == y13)) && y17)))))))))))))
def moidorelaw44_LedgerDebit_Ret (p0 : SLIDAmountNonce) (r0 : Bool) : Prop :=
  (∃ y1 : Bool, (moidorelaw44_awake_Ret y1) ∧ (∃ y2 : Bool, ((!y1) = false → moidorelaw44_Case_right_Ret p0 y2) ∧ (moidorelaw44_LedgerDebit_J2 p0 r0 ((!y1) || (!y2)))))
def moidorelaw44_LedgerUndo_J1 (p0 : SLIDAmountNonce) (r0 : Bool) (y4 : SAccounts) : Prop :=
  (∃ y9 : List SIDBalanceNonce, (moidorelaw44_back_Ret y4 y9) ∧ (∃ y10 : Bool, (moidoreref44_Same_Ret y9 p0.L y10) ∧ (y10 = r0)))
def moidorelaw44_LedgerUndo_J2 (p0 : SLIDAmountNonce) (r0 : Bool) (y4 : SAccounts) (b2 : Bool) : Prop :=
  ((b2) = true → (false = r0)) ∧ ((b2) = false → (moidorelaw44_LedgerUndo_J1 p0 r0 y4))
def moidorelaw44_LedgerUndo_J3 (p0 : SLIDAmountNonce) (r0 : Bool) (y4 : SAccounts) : Prop :=
  (∃ y7 : SAccounts, ∃ y8 : Int, (ledger_Debit_Ret y4 p0.ID p0.Amount p0.Nonce y7 y8) ∧ (((y8 == 0) = true → (∃ y9 : SAccounts, ∃ y10 : Int, (ledger_Undebit_Ret y7 p0.ID p0.Amount p0.Nonce y9 y10) ∧ (∃ y11 : List SIDBalanceNonce, ((y10 != 0) = false → moidorelaw44_back_Ret y9 y11) ∧ (∃ y12 : Bool, ((y10 != 0) = false → moidoreref44_Same_Ret y11 p0.L y12) ∧ (moidorelaw44_LedgerUndo_J2 p0 r0 y4 ((y10 != 0) || (!y12))))))) ∧ ((y8 == 0) = false → (moidorelaw44_LedgerUndo_J1 p0 r0 y4))))
def moidorelaw44_LedgerUndo_J4 (p0 : SLIDAmountNonce) (r0 : Bool) (y4 : SAccounts) (b2 : Bool) : Prop :=
  ((b2) = true → (false = r0)) ∧ ((b2) = false → (moidorelaw44_LedgerUndo_J3 p0 r0 y4))
def moidorelaw44_LedgerUndo_J5 (p0 : SLIDAmountNonce) (r0 : Bool) (b1 : Bool) : Prop :=
  ((b1) = true → (∃ y3 : Bool, (moidorelaw44_awake_Ret y3) ∧ (y3 = r0))) ∧ ((b1) = false → (∃ y4 : SAccounts, (moidorelaw44_own_Ret p0.L y4) ∧ (∃ y5 : SAccounts, ∃ y6 : Int, (ledger_Credit_Ret y4 p0.ID p0.Amount y5 y6) ∧ (((y6 == 0) = true → (∃ y7 : SAccounts, ∃ y8 : Int, (ledger_Uncredit_Ret y5 p0.ID p0.Amount y7 y8) ∧ (∃ y9 : List SIDBalanceNonce, ((y8 != 0) = false → moidorelaw44_back_Ret y7 y9) ∧ (∃ y10 : Bool, ((y8 != 0) = false → moidoreref44_Same_Ret y9 p0.L y10) ∧ (moidorelaw44_LedgerUndo_J4 p0 r0 y4 ((y8 != 0) || (!y10))))))) ∧ ((y6 == 0) = false → (moidorelaw44_LedgerUndo_J3 p0 r0 y4))))))
def moidorelaw44_LedgerUndo_Ret (p0 : SLIDAmountNonce) (r0 : Bool) : Prop :=
  (∃ y1 : Bool, (moidorelaw44_awake_Ret y1) ∧ (∃ y2 : Bool, ((!y1) = false → moidorelaw44_Case_right_Ret p0 y2) ∧ (moidorelaw44_LedgerUndo_J5 p0 r0 ((!y1) || (!y2)))))
def ledger_Valid_J1 (r0 : Bool) (nx1 : Int → Prop) (j2 : Int) (b2 : Bool) : Prop :=
  ((b2) = true → (false = r0)) ∧ ((b2) = false → (nx1 (IntKind.i64.wrap (j2 + 1))))
def ledger_Valid_J2 (p0 : SAccounts) (r0 : Bool) (nx1 : Int → Prop) (j2 : Int) (b1 : Bool) : Prop :=
  ((b1) = true → (false = r0)) ∧ ((b1) = false → (((decide (0 < j2)) = true → 0 ≤ IntKind.i64.wrap (j2 - 1)) ∧ (((decide (0 < j2)) = true → IntKind.i64.wrap (j2 - 1) < ((List.length p0.Accounts : Nat) : Int)) ∧ (ledger_Valid_J1 r0 nx1 j2 ((decide (0 < j2)) && (decide ((ix p0.Accounts j2).ID ≤ (ix p0.Accounts (IntKind.i64.wrap (j2 - 1))).ID)))))))
def ledger_Valid_L3 (p0 : SAccounts) (r0 : Bool) (nx1 : Int → Prop) (j2 : Int) : Prop :=
  ((decide (j2 < ((List.length p0.Accounts : Nat) : Int))) = true → ((0 ≤ j2) ∧ ((j2 < ((List.length p0.Accounts : Nat) : Int)) ∧ (ledger_Valid_J2 p0 r0 nx1 j2 (((decide (18446744069414584321 ≤ (ix p0.Accounts j2).ID)) || (decide (9223372036854775807 < (ix p0.Accounts j2).Balance))) || ((((ix p0.Accounts j2).Balance) == 0) && (((ix p0.Accounts j2).Nonce) == 0))))))) ∧ ((decide (j2 < ((List.length p0.Accounts : Nat) : Int))) = false → (true = r0))
def ledger_Valid_Ret (p0 : SAccounts) (r0 : Bool) : Prop :=
  Loop 0 (fun nx x => ledger_Valid_L3 p0 r0 nx x)
def moidorelaw44_LedgerValid_J1 (r0 : Bool) (b1 : Bool) : Prop :=
  (b1 = r0)
def moidorelaw44_LedgerValid_Ret (p0 : List SIDBalanceNonce) (r0 : Bool) : Prop :=
  (∃ y1 : Bool, (moidorelaw44_awake_Ret y1) ∧ (∃ y2 : SAccounts, (y1 = true → (decide (20 < ((List.length p0 : Nat) : Int))) = false → moidorelaw44_own_Ret p0 y2) ∧ (∃ y3 : Bool, (y1 = true → (decide (20 < ((List.length p0 : Nat) : Int))) = false → ledger_Valid_Ret y2 y3) ∧ (∃ y4 : Bool, (y1 = true → (decide (20 < ((List.length p0 : Nat) : Int))) = false → moidoreref44_Valid_Ret p0 y4) ∧ (moidorelaw44_LedgerValid_J1 r0 (y1 && ((decide (20 < ((List.length p0 : Nat) : Int))) || (y3 == y4))))))))
def moidorelaw44_LedgerMatchesModel_J1 (r0 : Bool) (nx1 : ((List SIDBalanceNonce) × Int × (List SIDBalanceNonce)) → Prop) (j5 : Int) (j11 : List SIDBalanceNonce) (j12 : List SIDBalanceNonce) (b2 : Bool) : Prop :=
  ((b2) = true → (false = r0)) ∧ ((b2) = false → (nx1 (j11, IntKind.i64.wrap (j5 + 1), j12)))
def moidorelaw44_LedgerMatchesModel_J2 (r0 : Bool) (nx1 : ((List SIDBalanceNonce) × Int × (List SIDBalanceNonce)) → Prop) (j5 : Int) (j11 : List SIDBalanceNonce) (j12 : List SIDBalanceNonce) : Prop :=
  (∃ y4 : List SIDBalanceNonce, (moidorelaw44_back_Ret (SAccounts.mk j12) y4) ∧ (∃ y5 : Bool, (moidoreref44_Same_Ret y4 j11 y5) ∧ (∃ y6 : Bool, ((!y5) = false → ledger_Valid_Ret (SAccounts.mk j12) y6) ∧ (moidorelaw44_LedgerMatchesModel_J1 r0 nx1 j5 j11 j12 ((!y5) || (!y6))))))
def moidorelaw44_LedgerMatchesModel_J3 (r0 : Bool) (nx1 : ((List SIDBalanceNonce) × Int × (List SIDBalanceNonce)) → Prop) (j4 : List SIDBalanceNonce) (j5 : Int) (j6 : List SIDBalanceNonce) (j7 : List SIDBalanceNonce) (j8 : Int) (j9 : Int) (j10 : List SIDBalanceNonce) : Prop :=
  ((j8 != j9) = true → (false = r0)) ∧ ((j8 != j9) = false → (((j8 == 0) = true → (moidorelaw44_LedgerMatchesModel_J2 r0 nx1 j5 j7 j10)) ∧ ((j8 == 0) = false → (moidorelaw44_LedgerMatchesModel_J2 r0 nx1 j5 j4 j6))))
def moidorelaw44_LedgerMatchesModel_L4 (p0 : List SKindIDAmount) (r0 : Bool) (nx1 : ((List SIDBalanceNonce) × Int × (List SIDBalanceNonce)) → Prop) (j4 : List SIDBalanceNonce) (j5 : Int) (j6 : List SIDBalanceNonce) : Prop :=
  ((decide (j5 < ((List.length p0 : Nat) : Int))) = true → ((0 ≤ j5) ∧ ((j5 < ((List.length p0 : Nat) : Int)) ∧ (((decide (18446744069414584321 ≤ (ix p0 j5).ID)) = true → (true = r0)) ∧ ((decide (18446744069414584321 ≤ (ix p0 j5).ID)) = false → (∃ y3 : SIDBalanceNonce, (moidoreref44_Get_Ret j4 ((ix p0 j5).ID) y3) ∧ ((((Int.tmod ((ix p0 j5).Kind) 4) == 0) = true → (∃ y4 : SAccounts, ∃ y5 : Int, (ledger_Credit_Ret (SAccounts.mk j6) ((ix p0 j5).ID) ((ix p0 j5).Amount) y4 y5) ∧ (∃ y6 : List SIDBalanceNonce, ∃ y7 : Int, (moidoreref44_Credit_Ret j4 ((ix p0 j5).ID) ((ix p0 j5).Amount) y6 y7) ∧ (moidorelaw44_LedgerMatchesModel_J3 r0 nx1 j4 j5 j6 y6 y5 y7 y4.Accounts)))) ∧ (((Int.tmod ((ix p0 j5).Kind) 4) == 0) = false → ((((Int.tmod ((ix p0 j5).Kind) 4) == 1) = true → (∃ y8 : SAccounts, ∃ y9 : Int, (ledger_Debit_Ret (SAccounts.mk j6) ((ix p0 j5).ID) ((ix p0 j5).Amount) y3.Nonce y8 y9) ∧ (∃ y10 : List SIDBalanceNonce, ∃ y11 : Int, (moidoreref44_Debit_Ret j4 ((ix p0 j5).ID) ((ix p0 j5).Amount) y3.Nonce y10 y11) ∧ (moidorelaw44_LedgerMatchesModel_J3 r0 nx1 j4 j5 j6 y10 y9 y11 y8.Accounts)))) ∧ (((Int.tmod ((ix p0 j5).Kind) 4) == 1) = false → ((((Int.tmod ((ix p0 j5).Kind) 4) == 2) = true → (∃ y12 : SAccounts, ∃ y13 : Int, (ledger_Uncredit_Ret (SAccounts.mk j6) ((ix p0 j5).ID) ((ix p0 j5).Amount) y12 y13) ∧ (∃ y14 : List SIDBalanceNonce, ∃ y15 : Int, (moidoreref44_Uncredit_Ret j4 ((ix p0 j5).ID) ((ix p0 j5).Amount) y14 y15) ∧ (moidorelaw44_LedgerMatchesModel_J3 r0 nx1 j4 j5 j6 y14 y13 y15 y12.Accounts)))) ∧ (((Int.tmod ((ix p0 j5).Kind) 4) == 2) = false → (∃ y16 : SAccounts, ∃ y17 : Int, (ledger_Undebit_Ret (SAccounts.mk j6) ((ix p0 j5).ID) ((ix p0 j5).Amount) (IntKind.u64.wrap (y3.Nonce - 1)) y16 y17) ∧ (∃ y18 : List SIDBalanceNonce, ∃ y19 : Int, (moidoreref44_Undebit_Ret j4 ((ix p0 j5).ID) ((ix p0 j5).Amount) (IntKind.u64.wrap (y3.Nonce - 1)) y18 y19) ∧ (moidorelaw44_LedgerMatchesModel_J3 r0 nx1 j4 j5 j6 y18 y17 y19 y16.Accounts))))))))))))))) ∧ ((decide (j5 < ((List.length p0 : Nat) : Int))) = false → (true = r0))
def moidorelaw44_LedgerMatchesModel_J5 (p0 : List SKindIDAmount) (r0 : Bool) (b1 : Bool) : Prop :=
  ((b1) = true → (∃ y2 : Bool, (moidorelaw44_awake_Ret y2) ∧ (y2 = r0))) ∧ ((b1) = false → (Loop (([] : List SIDBalanceNonce), 0, ([] : List SIDBalanceNonce)) (fun nx x => moidorelaw44_LedgerMatchesModel_L4 p0 r0 nx x.1 x.2.1 x.2.2)))
def moidorelaw44_LedgerMatchesModel_Ret (p0 : List SKindIDAmount) (r0 : Bool) : Prop :=
  (∃ y1 : Bool, (moidorelaw44_awake_Ret y1) ∧ (moidorelaw44_LedgerMatchesModel_J5 p0 r0 ((!y1) || (decide (40 < ((List.length p0 : Nat) : Int))))))
def ledger_Total_L1 (p0 : SAccounts) (r0 : Int) (r1 : Int) (nx1 : (Int × Int) → Prop) (j3 : Int) (j4 : Int) : Prop :=
  ((decide (j4 < ((List.length p0.Accounts : Nat) : Int))) = true → ((0 ≤ j4) ∧ ((j4 < ((List.length p0.Accounts : Nat) : Int)) ∧ ((0 ≤ j3) ∧ ((0 ≤ (ix p0.Accounts j4).Balance) ∧ (((((j3 + ((ix p0.Accounts j4).Balance) + 0) / 18446744073709551616) != 0) = true → ((0 = r0) ∧ (3 = r1))) ∧ ((((j3 + ((ix p0.Accounts j4).Balance) + 0) / 18446744073709551616) != 0) = false → (nx1 ((j3 + ((ix p0.Accounts j4).Balance) + 0) % 18446744073709551616, IntKind.i64.wrap (j4 + 1)))))))))) ∧ ((decide (j4 < ((List.length p0.Accounts : Nat) : Int))) = false → ((j3 = r0) ∧ (0 = r1)))
def ledger_Total_Ret (p0 : SAccounts) (r0 : Int) (r1 : Int) : Prop :=
  Loop (0, 0) (fun nx x => ledger_Total_L1 p0 r0 r1 nx x.1 x.2)
def moidoreref44_Total_L1 (p0 : List SIDBalanceNonce) (r0 : Int) (r1 : Int) (nx1 : (Int × Int) → Prop) (j3 : Int) (j4 : Int) : Prop :=
  ((decide (j4 < ((List.length p0 : Nat) : Int))) = true → ((0 ≤ j4) ∧ ((j4 < ((List.length p0 : Nat) : Int)) ∧ (((decide (IntKind.u64.wrap (j3 + ((ix p0 j4).Balance)) < j3)) = true → ((0 = r0) ∧ (3 = r1))) ∧ ((decide (IntKind.u64.wrap (j3 + ((ix p0 j4).Balance)) < j3)) = false → ((0 ≤ j4) ∧ ((j4 < ((List.length p0 : Nat) : Int)) ∧ (nx1 (IntKind.u64.wrap (j3 + ((ix p0 j4).Balance)), IntKind.i64.wrap (j4 + 1)))))))))) ∧ ((decide (j4 < ((List.length p0 : Nat) : Int))) = false → ((j3 = r0) ∧ (0 = r1)))
def moidoreref44_Total_Ret (p0 : List SIDBalanceNonce) (r0 : Int) (r1 : Int) : Prop :=
  Loop (0, 0) (fun nx x => moidoreref44_Total_L1 p0 r0 r1 nx x.1 x.2)
def moidorelaw44_LedgerGet_J1 (r0 : Bool) (b2 : Bool) : Prop :=
  (b2 = r0)
def moidorelaw44_LedgerGet_J2 (p0 : SLIDAmountNonce) (r0 : Bool) (b1 : Bool) : Prop :=
  ((b1) = true → (∃ y3 : Bool, (moidorelaw44_awake_Ret y3) ∧ (y3 = r0))) ∧ ((b1) = false → (∃ y4 : SAccounts, (moidorelaw44_own_Ret p0.L y4) ∧ (∃ y5 : Int, ∃ y6 : Int, (ledger_Get_Ret y4 p0.ID y5 y6) ∧ (∃ y7 : SAccounts, (moidorelaw44_own_Ret p0.L y7) ∧ (∃ y8 : Int, ∃ y9 : Int, (ledger_Total_Ret y7 y8 y9) ∧ (∃ y10 : Int, ∃ y11 : Int, (moidoreref44_Total_Ret p0.L y10 y11) ∧ (∃ y12 : SIDBalanceNonce, (moidoreref44_Get_Ret p0.L p0.ID y12) ∧ (moidorelaw44_LedgerGet_J1 r0 ((((y5 == y12.Balance) && (y6 == y12.Nonce)) && (y8 == y10)) && (y9 == y11))))))))))
def moidorelaw44_LedgerGet_Ret (p0 : SLIDAmountNonce) (r0 : Bool) : Prop :=
  (∃ y1 : Bool, (moidorelaw44_awake_Ret y1) ∧ (∃ y2 : Bool, ((!y1) = false → moidorelaw44_Case_right_Ret p0 y2) ∧ (moidorelaw44_LedgerGet_J2 p0 r0 ((!y1) || (!y2)))))
def encSIDBalanceNonce (x : SIDBalanceNonce) : D := .agg [.int .u64 x.ID, .int .u64 x.Balance, .int .u64 x.Nonce]
def encSLIDAmountNonce (x : SLIDAmountNonce) : D := .agg [.slice 3 (List.map encSIDBalanceNonce x.L), .int .u64 x.ID, .int .u64 x.Amount, .int .u64 x.Nonce]
def encSAccounts (x : SAccounts) : D := .agg [.slice 3 (List.map encSIDBalanceNonce x.Accounts)]
def encSKindIDAmount (x : SKindIDAmount) : D := .agg [.int .u8 x.Kind, .int .u64 x.ID, .int .u64 x.Amount]
end Go.Md
