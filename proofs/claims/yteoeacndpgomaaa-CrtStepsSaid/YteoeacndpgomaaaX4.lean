/-
  Texts of this proof, one behind the other: Db, RBase, REvR, RAds, RNatA, RMul64, RNatB, RNatL, RBits, RDiv64, RDivW, RShift, RTakes, RGuess, RDivM, RGcd, RDec. No condition of their own.
-/
import Derived.Test.YteoeacndpgomaaaX3
import Derived.Laws.Bits64b
import Derived.Lib.Mul64
section
namespace Go.Proofs.Yteoeacndpgomaaa.F
open Go.Proofs.Yteoeacndpgomaaa.E Go Go.RowKit Go.Proofs.YteoeacndpgomaaaW.PrintWords Go.Proofs.YteoeacndpgomaaaW.PrintLast
set_option linter.unusedVariables false
set_option maxRecDepth 100000
theorem bigint_Int_Sign.f_eq (k : Nat) (a0_0 : Bool) (a0_1 : List Int) : bigint_Int_Sign.f k a0_0 a0_1 = ((if a0_0 = true then some (-1) else (if (a0_1.length : Int) > 0 then some 1 else some 0)) : Option Int) := by rw [bigint_Int_Sign.f_def]; kernel_rfl
theorem bigint_Of.f_eq (k : Nat) (a0 : Int) : bigint_Of.f k a0 = ((if a0 < 0 then some (true, ([(IntKind.u64.wrap (-(IntKind.u64.wrap a0)))] : List Int)) else (if a0 = 0 then some (false, ([] : List Int)) else some (false, ([(IntKind.u64.wrap a0)] : List Int)))) : Option (Bool × List Int)) := by rw [← WK_eq, bigint_Of.f_def]; kernel_rfl
theorem nat_trim.l2_eq (k : Nat) (x0 : List Int) (x3 : Int) : nat_trim.l2 (k + 1) x0 x3 = ((if x3 > 0 then (if 0 ≤ (wrap64 (x3 - 1)) then (if (wrap64 (x3 - 1)) < (x0.length : Int) then (if (rd x0 (wrap64 (x3 - 1))) = 0 then nat_trim.l2 k x0 (wrap64 (x3 - 1)) else (if 0 ≤ x3 then (if x3 ≤ (x0.length : Int) then some (x0.take (x3 : Int).toNat) else none) else none)) else none) else none) else (if 0 ≤ x3 then (if x3 ≤ (x0.length : Int) then some (x0.take (x3 : Int).toNat) else none) else none)) : Option (List Int)) := by rw [← W64_eq]; kernel_rfl
theorem nat_trim.f_eq (k : Nat) (a0 : List Int) : nat_trim.f k a0 = (nat_trim.l2 k a0 (a0.length : Int) : Option (List Int)) := by rw [nat_trim.f_def]; kernel_rfl
theorem nat_Cmp.l7_eq (k : Nat) (x0 : List Int) (x1 : List Int) (x5 : Int) : nat_Cmp.l7 (k + 1) x0 x1 x5 = ((if x5 ≥ 0 then (if 0 ≤ x5 then (if x5 < (x0.length : Int) then (if 0 ≤ x5 then (if x5 < (x1.length : Int) then (if (rd x0 x5) < (rd x1 x5) then some (-1) else (if 0 ≤ x5 then (if x5 < (x0.length : Int) then (if 0 ≤ x5 then (if x5 < (x1.length : Int) then (if (rd x0 x5) > (rd x1 x5) then some 1 else nat_Cmp.l7 k x0 x1 (wrap64 (x5 - 1))) else none) else none) else none) else none)) else none) else none) else none) else none) else some 0) : Option Int) := by rw [← W64_eq]; kernel_rfl
theorem nat_Cmp.f_eq (k : Nat) (a0 : List Int) (a1 : List Int) : nat_Cmp.f k a0 a1 = (((nat_trim.f k a0).bind fun t0 => ((nat_trim.f k a1).bind fun t1 => (if (t0.length : Int) < (t1.length : Int) then some (-1) else (if (t0.length : Int) > (t1.length : Int) then some 1 else nat_Cmp.l7 k t0 t1 (wrap64 ((t0.length : Int) - 1)))))) : Option Int) := by rw [← W64_eq, nat_Cmp.f_def]; kernel_rfl
theorem bigint_made.f_eq (k : Nat) (a0 : Bool) (a1 : List Int) : bigint_made.f k a0 a1 = ((if a0 = true then some ((decide ((a1.length : Int) > 0)), a1) else some (false, a1)) : Option (Bool × List Int)) := by rw [bigint_made.f_def]; kernel_rfl
theorem nat_at.f_eq (k : Nat) (a0 : List Int) (a1 : Int) : nat_at.f k a0 a1 = ((if a1 < (a0.length : Int) then (if 0 ≤ a1 then (if a1 < (a0.length : Int) then some (rd a0 a1) else none) else none) else some 0) : Option Int) := by rw [nat_at.f_def]; kernel_rfl
theorem nat_Add.l4_eq (k : Nat) (x0 : List Int) (x1 : List Int) (x5 : List Int) (x6 : Int) (x16 : Int) (x17 : Int) : nat_Add.l4 (k + 1) x0 x1 x5 x6 x16 x17 = ((if x17 < x16 then ((nat_at.f k x0 x17).bind fun t0 => ((nat_at.f k x1 x17).bind fun t1 => (if x6 ≤ 1 then (if 0 ≤ x17 then (if x17 < (x5.length : Int) then nat_Add.l4 k x0 x1 (x5.set (x17 : Int).toNat (adS t0 t1 x6)) (adC t0 t1 x6) x16 (wrap64 (x17 + 1)) else none) else none) else none))) else ((nat_trim.f k x5).bind fun t0 => some t0)) : Option (List Int)) := by rw [← W64_eq]; kernel_rfl
theorem nat_Add.f_eq (k : Nat) (a0 : List Int) (a1 : List Int) : nat_Add.f k a0 a1 = ((if (a1.length : Int) > (a0.length : Int) then (if 0 ≤ (wrap64 ((a1.length : Int) + 1)) then (if ((wrap64 ((a1.length : Int) + 1)) : Int).toNat ≤ 35184372088832 then nat_Add.l4 k a0 a1 (List.replicate ((wrap64 ((a1.length : Int) + 1)) : Int).toNat (0 : Int)) 0 ((List.replicate ((wrap64 ((a1.length : Int) + 1)) : Int).toNat (0 : Int)).length : Int) 0 else none) else none) else (if 0 ≤ (wrap64 ((a0.length : Int) + 1)) then (if ((wrap64 ((a0.length : Int) + 1)) : Int).toNat ≤ 35184372088832 then nat_Add.l4 k a0 a1 (List.replicate ((wrap64 ((a0.length : Int) + 1)) : Int).toNat (0 : Int)) 0 ((List.replicate ((wrap64 ((a0.length : Int) + 1)) : Int).toNat (0 : Int)).length : Int) 0 else none) else none)) : Option (List Int)) := by rw [← W64_eq, nat_Add.f_def]; kernel_rfl
theorem nat_less.l4_eq (k : Nat) (x0 : List Int) (x1 : List Int) (x5 : List Int) (x6 : Int) (x12 : Int) (x13 : Int) : nat_less.l4 (k + 1) x0 x1 x5 x6 x12 x13 = ((if x13 < x12 then (if 0 ≤ x13 then (if x13 < (x0.length : Int) then ((nat_at.f k x1 x13).bind fun t0 => (if x6 ≤ 1 then (if 0 ≤ x13 then (if x13 < (x5.length : Int) then nat_less.l4 k x0 x1 (x5.set (x13 : Int).toNat (sbS (rd x0 x13) t0 x6)) (sbC (rd x0 x13) t0 x6) x12 (wrap64 (x13 + 1)) else none) else none) else none)) else none) else none) else ((nat_trim.f k x5).bind fun t0 => some t0)) : Option (List Int)) := by rw [← W64_eq]; kernel_rfl
theorem nat_less.f_eq (k : Nat) (a0 : List Int) (a1 : List Int) : nat_less.f k a0 a1 = ((if 0 ≤ (a0.length : Int) then (if ((a0.length : Int) : Int).toNat ≤ 35184372088832 then nat_less.l4 k a0 a1 (List.replicate ((a0.length : Int) : Int).toNat (0 : Int)) 0 ((List.replicate ((a0.length : Int) : Int).toNat (0 : Int)).length : Int) 0 else none) else none) : Option (List Int)) := by rw [nat_less.f_def]; kernel_rfl
theorem nat_Sub.f_eq (k : Nat) (a0 : List Int) (a1 : List Int) : nat_Sub.f k a0 a1 = (((nat_trim.f k a0).bind fun t0 => ((nat_trim.f k a1).bind fun t1 => ((nat_Cmp.f k t0 t1).bind fun t2 => (if t2 < 0 then some (([] : List Int), 1) else ((nat_less.f k t0 t1).bind fun t3 => some (t3, 0)))))) : Option (List Int × Int)) := by rw [nat_Sub.f_def]; kernel_rfl
theorem bigint_Int_Add.f_eq (k : Nat) (a0_0 : Bool) (a0_1 : List Int) (a1_0 : Bool) (a1_1 : List Int) : bigint_Int_Add.f k a0_0 a0_1 a1_0 a1_1 = ((if a0_0 = a1_0 then ((nat_Add.f k a0_1 a1_1).bind fun t0 => ((bigint_made.f k a0_0 t0).bind fun t1 => some (t1.1, t1.2))) else ((nat_Cmp.f k a0_1 a1_1).bind fun t0 => (if t0 < 0 then ((nat_Sub.f k a1_1 a0_1).bind fun t1 => ((bigint_made.f k a1_0 t1.1).bind fun t2 => some (t2.1, t2.2))) else ((nat_Sub.f k a0_1 a1_1).bind fun t1 => ((bigint_made.f k a0_0 t1.1).bind fun t2 => some (t2.1, t2.2)))))) : Option (Bool × List Int)) := by rw [bigint_Int_Add.f_def]; kernel_rfl
theorem bigint_Int_Neg.f_eq (k : Nat) (a0_0 : Bool) (a0_1 : List Int) : bigint_Int_Neg.f k a0_0 a0_1 = (((bigint_made.f k (!a0_0) a0_1).bind fun t0 => some (t0.1, t0.2)) : Option (Bool × List Int)) := by rw [bigint_Int_Neg.f_def]; kernel_rfl
theorem bigint_Int_Sub.f_eq (k : Nat) (a0_0 : Bool) (a0_1 : List Int) (a1_0 : Bool) (a1_1 : List Int) : bigint_Int_Sub.f k a0_0 a0_1 a1_0 a1_1 = (((bigint_Int_Neg.f k a1_0 a1_1).bind fun t0 => ((bigint_Int_Add.f k a0_0 a0_1 t0.1 t0.2).bind fun t1 => some (t1.1, t1.2))) : Option (Bool × List Int)) := by rw [bigint_Int_Sub.f_def]; kernel_rfl
theorem bits_Div64.l24_eq (k : Nat) (x2 : Int) (x8 : Int) (x9 : Int) (x10 : Int) (x14 : Int) (x15 : Int) (x16 : Int) (x17 : Int) (x18 : Int) : bits_Div64.l24 (k + 1) x2 x8 x9 x10 x14 x15 x16 x17 x18 = ((if x18 ≥ 4294967296 then (if (IntKind.u64.wrap (x16 + x9)) ≥ 4294967296 then (if 0 ≤ x8 then some ((IntKind.u64.wrap ((IntKind.u64.wrap (x15 * 4294967296)) + (IntKind.u64.wrap (x18 - 1)))), (shr .u64 (IntKind.u64.wrap ((IntKind.u64.wrap ((IntKind.u64.wrap (x17 * 4294967296)) + x14)) - (IntKind.u64.wrap ((IntKind.u64.wrap (x18 - 1)) * x2)))) x8)) else none) else bits_Div64.l24 k x2 x8 x9 x10 x14 x15 (IntKind.u64.wrap (x16 + x9)) x17 (IntKind.u64.wrap (x18 - 1))) else (if (IntKind.u64.wrap (x18 * x10)) > (IntKind.u64.wrap ((IntKind.u64.wrap (4294967296 * x16)) + x14)) then (if (IntKind.u64.wrap (x16 + x9)) ≥ 4294967296 then (if 0 ≤ x8 then some ((IntKind.u64.wrap ((IntKind.u64.wrap (x15 * 4294967296)) + (IntKind.u64.wrap (x18 - 1)))), (shr .u64 (IntKind.u64.wrap ((IntKind.u64.wrap ((IntKind.u64.wrap (x17 * 4294967296)) + x14)) - (IntKind.u64.wrap ((IntKind.u64.wrap (x18 - 1)) * x2)))) x8)) else none) else bits_Div64.l24 k x2 x8 x9 x10 x14 x15 (IntKind.u64.wrap (x16 + x9)) x17 (IntKind.u64.wrap (x18 - 1))) else (if 0 ≤ x8 then some ((IntKind.u64.wrap ((IntKind.u64.wrap (x15 * 4294967296)) + x18)), (shr .u64 (IntKind.u64.wrap ((IntKind.u64.wrap ((IntKind.u64.wrap (x17 * 4294967296)) + x14)) - (IntKind.u64.wrap (x18 * x2)))) x8)) else none))) : Option (Int × Int)) := by rw [← WK_eq]; kernel_rfl
theorem bits_Div64.l17_eq (k : Nat) (x2 : Int) (x8 : Int) (x9 : Int) (x10 : Int) (x11 : Int) (x13 : Int) (x14 : Int) (x15 : Int) (x16 : Int) : bits_Div64.l17 (k + 1) x2 x8 x9 x10 x11 x13 x14 x15 x16 = ((if x15 ≥ 4294967296 then (if (IntKind.u64.wrap (x16 + x9)) ≥ 4294967296 then (if x9 = 0 then none else bits_Div64.l24 k x2 x8 x9 x10 x14 (IntKind.u64.wrap (x15 - 1)) (IntKind.u64.wrap ((IntKind.u64.wrap ((IntKind.u64.wrap ((IntKind.u64.wrap (x11 * 4294967296)) + x13)) - (IntKind.u64.wrap ((IntKind.u64.wrap (x15 - 1)) * x2)))) - (IntKind.u64.wrap ((IntKind.u64.wrap (Int.tdiv (IntKind.u64.wrap ((IntKind.u64.wrap ((IntKind.u64.wrap (x11 * 4294967296)) + x13)) - (IntKind.u64.wrap ((IntKind.u64.wrap (x15 - 1)) * x2)))) x9)) * x9)))) (IntKind.u64.wrap ((IntKind.u64.wrap ((IntKind.u64.wrap (x11 * 4294967296)) + x13)) - (IntKind.u64.wrap ((IntKind.u64.wrap (x15 - 1)) * x2)))) (IntKind.u64.wrap (Int.tdiv (IntKind.u64.wrap ((IntKind.u64.wrap ((IntKind.u64.wrap (x11 * 4294967296)) + x13)) - (IntKind.u64.wrap ((IntKind.u64.wrap (x15 - 1)) * x2)))) x9))) else bits_Div64.l17 k x2 x8 x9 x10 x11 x13 x14 (IntKind.u64.wrap (x15 - 1)) (IntKind.u64.wrap (x16 + x9))) else (if (IntKind.u64.wrap (x15 * x10)) > (IntKind.u64.wrap ((IntKind.u64.wrap (4294967296 * x16)) + x13)) then (if (IntKind.u64.wrap (x16 + x9)) ≥ 4294967296 then (if x9 = 0 then none else bits_Div64.l24 k x2 x8 x9 x10 x14 (IntKind.u64.wrap (x15 - 1)) (IntKind.u64.wrap ((IntKind.u64.wrap ((IntKind.u64.wrap ((IntKind.u64.wrap (x11 * 4294967296)) + x13)) - (IntKind.u64.wrap ((IntKind.u64.wrap (x15 - 1)) * x2)))) - (IntKind.u64.wrap ((IntKind.u64.wrap (Int.tdiv (IntKind.u64.wrap ((IntKind.u64.wrap ((IntKind.u64.wrap (x11 * 4294967296)) + x13)) - (IntKind.u64.wrap ((IntKind.u64.wrap (x15 - 1)) * x2)))) x9)) * x9)))) (IntKind.u64.wrap ((IntKind.u64.wrap ((IntKind.u64.wrap (x11 * 4294967296)) + x13)) - (IntKind.u64.wrap ((IntKind.u64.wrap (x15 - 1)) * x2)))) (IntKind.u64.wrap (Int.tdiv (IntKind.u64.wrap ((IntKind.u64.wrap ((IntKind.u64.wrap (x11 * 4294967296)) + x13)) - (IntKind.u64.wrap ((IntKind.u64.wrap (x15 - 1)) * x2)))) x9))) else bits_Div64.l17 k x2 x8 x9 x10 x11 x13 x14 (IntKind.u64.wrap (x15 - 1)) (IntKind.u64.wrap (x16 + x9))) else (if x9 = 0 then none else bits_Div64.l24 k x2 x8 x9 x10 x14 x15 (IntKind.u64.wrap ((IntKind.u64.wrap ((IntKind.u64.wrap ((IntKind.u64.wrap (x11 * 4294967296)) + x13)) - (IntKind.u64.wrap (x15 * x2)))) - (IntKind.u64.wrap ((IntKind.u64.wrap (Int.tdiv (IntKind.u64.wrap ((IntKind.u64.wrap ((IntKind.u64.wrap (x11 * 4294967296)) + x13)) - (IntKind.u64.wrap (x15 * x2)))) x9)) * x9)))) (IntKind.u64.wrap ((IntKind.u64.wrap ((IntKind.u64.wrap (x11 * 4294967296)) + x13)) - (IntKind.u64.wrap (x15 * x2)))) (IntKind.u64.wrap (Int.tdiv (IntKind.u64.wrap ((IntKind.u64.wrap ((IntKind.u64.wrap (x11 * 4294967296)) + x13)) - (IntKind.u64.wrap (x15 * x2)))) x9))))) : Option (Int × Int)) := by rw [← WK_eq]; kernel_rfl
theorem bits_Div64.f_eq (k : Nat) (a0 : Int) (a1 : Int) (a2 : Int) : bits_Div64.f k a0 a1 a2 = ((if a2 = 0 then none else (if a2 ≤ a0 then none else (if a0 = 0 then (if a2 = 0 then none else (if a2 = 0 then none else some ((IntKind.u64.wrap (Int.tdiv a1 a2)), (Int.tmod a1 a2)))) else ((bits_LeadingZeros64.f k a2).bind fun t0 => (if 0 ≤ (IntKind.u64.wrap t0) then (if 0 ≤ (IntKind.u64.wrap t0) then (if 0 ≤ (IntKind.u64.wrap (64 - (IntKind.u64.wrap t0))) then (if 0 ≤ (IntKind.u64.wrap t0) then (if (shr .u64 (shl .u64 a2 (IntKind.u64.wrap t0)) 32) = 0 then none else bits_Div64.l17 k (shl .u64 a2 (IntKind.u64.wrap t0)) (IntKind.u64.wrap t0) (shr .u64 (shl .u64 a2 (IntKind.u64.wrap t0)) 32) (bits .and .u64 (shl .u64 a2 (IntKind.u64.wrap t0)) 4294967295) (bits .or .u64 (shl .u64 a0 (IntKind.u64.wrap t0)) (shr .u64 a1 (IntKind.u64.wrap (64 - (IntKind.u64.wrap t0))))) (shr .u64 (shl .u64 a1 (IntKind.u64.wrap t0)) 32) (bits .and .u64 (shl .u64 a1 (IntKind.u64.wrap t0)) 4294967295) (IntKind.u64.wrap (Int.tdiv (bits .or .u64 (shl .u64 a0 (IntKind.u64.wrap t0)) (shr .u64 a1 (IntKind.u64.wrap (64 - (IntKind.u64.wrap t0))))) (shr .u64 (shl .u64 a2 (IntKind.u64.wrap t0)) 32))) (IntKind.u64.wrap ((bits .or .u64 (shl .u64 a0 (IntKind.u64.wrap t0)) (shr .u64 a1 (IntKind.u64.wrap (64 - (IntKind.u64.wrap t0))))) - (IntKind.u64.wrap ((IntKind.u64.wrap (Int.tdiv (bits .or .u64 (shl .u64 a0 (IntKind.u64.wrap t0)) (shr .u64 a1 (IntKind.u64.wrap (64 - (IntKind.u64.wrap t0))))) (shr .u64 (shl .u64 a2 (IntKind.u64.wrap t0)) 32))) * (shr .u64 (shl .u64 a2 (IntKind.u64.wrap t0)) 32)))))) else none) else none) else none) else none))))) : Option (Int × Int)) := by rw [← WK_eq, bits_Div64.f_def]; kernel_rfl
theorem nat_DivWord.l6_eq (k : Nat) (x0 : List Int) (x1 : Int) (x7 : List Int) (x8 : Int) (x9 : Int) : nat_DivWord.l6 (k + 1) x0 x1 x7 x8 x9 = ((if x9 ≥ 0 then (if 0 ≤ x9 then (if x9 < (x0.length : Int) then ((bits_Div64.f k x8 (rd x0 x9) x1).bind fun t0 => (if 0 ≤ x9 then (if x9 < (x7.length : Int) then nat_DivWord.l6 k x0 x1 (x7.set (x9 : Int).toNat t0.1) t0.2 (wrap64 (x9 - 1)) else none) else none)) else none) else none) else ((nat_trim.f k x7).bind fun t0 => some (t0, x8, 0))) : Option (List Int × Int × Int)) := by rw [← W64_eq]; kernel_rfl
theorem nat_DivWord.f_eq (k : Nat) (a0 : List Int) (a1 : Int) : nat_DivWord.f k a0 a1 = ((if a1 = 0 then some (([] : List Int), 0, 10) else (if 0 ≤ (a0.length : Int) then (if ((a0.length : Int) : Int).toNat ≤ 35184372088832 then nat_DivWord.l6 k a0 a1 (List.replicate ((a0.length : Int) : Int).toNat (0 : Int)) 0 (wrap64 ((a0.length : Int) - 1)) else none) else none)) : Option (List Int × Int × Int)) := by rw [← W64_eq, nat_DivWord.f_def]; kernel_rfl
theorem nat_Norm.f_eq (k : Nat) (a0 : List Int) : nat_Norm.f k a0 = (((nat_trim.f k a0).bind fun t0 => (if (([] : List Int).length + t0.length) ≤ 17592186044416 then some (([] : List Int) ++ t0) else none)) : Option (List Int)) := by rw [nat_Norm.f_def]; kernel_rfl
theorem nat_shifted.l3_eq (k : Nat) (x1 : Int) (x5 : List Int) (x12 : List Int) (x13 : Int) (x14 : Int) : nat_shifted.l3 (k + 1) x1 x5 x12 x13 x14 = ((if x14 < x13 then (if 0 ≤ x14 then (if x14 < (x12.length : Int) then (if 0 ≤ x14 then (if x14 < (x5.length : Int) then (if 0 ≤ x1 then (if 0 ≤ x14 then (if x14 < (x5.length : Int) then (if 0 ≤ (IntKind.u64.wrap (64 - x1)) then (if 0 ≤ (wrap64 (x14 + 1)) then (if (wrap64 (x14 + 1)) < ((x5.set (x14 : Int).toNat (bits .or .u64 (rd x5 x14) (shl .u64 (rd x12 x14) x1))).length : Int) then nat_shifted.l3 k x1 ((x5.set (x14 : Int).toNat (bits .or .u64 (rd x5 x14) (shl .u64 (rd x12 x14) x1))).set ((wrap64 (x14 + 1)) : Int).toNat (shr .u64 (rd x12 x14) (IntKind.u64.wrap (64 - x1)))) x12 x13 (wrap64 (x14 + 1)) else none) else none) else none) else none) else none) else none) else none) else none) else none) else none) else some x5) : Option (List Int)) := by rw [← W64_eq, ← WK_eq]; kernel_rfl
theorem nat_shifted.f_eq (k : Nat) (a0 : List Int) (a1 : Int) : nat_shifted.f k a0 a1 = ((if 0 ≤ (wrap64 ((a0.length : Int) + 1)) then (if ((wrap64 ((a0.length : Int) + 1)) : Int).toNat ≤ 35184372088832 then nat_shifted.l3 k a1 (List.replicate ((wrap64 ((a0.length : Int) + 1)) : Int).toNat (0 : Int)) a0 (a0.length : Int) 0 else none) else none) : Option (List Int)) := by rw [← W64_eq, nat_shifted.f_def]; kernel_rfl
theorem nat_beyond.f_eq (k : Nat) (a0 : Int) (a1 : Int) (a2 : Int) (a3 : Int) : nat_beyond.f k a0 a1 a2 a3 = (((bits_Mul64.f k a0 a1).bind fun t0 => (if t0.1 > a2 then some true else (if t0.1 = a2 then some (decide (t0.2 > a3)) else some false))) : Option Bool) := by rw [nat_beyond.f_def]; kernel_rfl
theorem nat_guess.l10_eq (k : Nat) (x2 : Int) (x3 : Int) (x4 : Int) (x14 : Int) (x15 : Int) (x16 : Int) : nat_guess.l10 (k + 1) x2 x3 x4 x14 x15 x16 = ((if x16 = 0 then ((nat_beyond.f k x14 x4 x15 x2).bind fun t0 => (if t0 = true then nat_guess.l10 k x2 x3 x4 (IntKind.u64.wrap (x14 - 1)) (adS x15 x3 0) (adC x15 x3 0) else some x14)) else some x14) : Option Int) := by rw [← WK_eq]; kernel_rfl
theorem nat_guess.l4_eq (k : Nat) (x2 : Int) (x3 : Int) (x4 : Int) (x11 : Int) (x12 : Int) (x13 : Int) : nat_guess.l4 (k + 1) x2 x3 x4 x11 x12 x13 = ((if x13 = 0 then ((nat_beyond.f k x11 x4 x12 x2).bind fun t0 => (if t0 = true then nat_guess.l4 k x2 x3 x4 (IntKind.u64.wrap (x11 - 1)) (adS x12 x3 0) (adC x12 x3 0) else some x11)) else some x11) : Option Int) := by rw [← WK_eq]; kernel_rfl
theorem nat_guess.f_eq (k : Nat) (a0 : Int) (a1 : Int) (a2 : Int) (a3 : Int) (a4 : Int) : nat_guess.f k a0 a1 a2 a3 a4 = ((if a0 ≥ a3 then nat_guess.l4 k a2 a3 a4 18446744073709551615 (adS a1 a3 0) (adC a1 a3 0) else ((bits_Div64.f k a0 a1 a3).bind fun t0 => nat_guess.l10 k a2 a3 a4 t0.1 t0.2 0)) : Option Int) := by rw [nat_guess.f_def]; kernel_rfl
theorem nat_takes.l3_eq (k : Nat) (x0 : List Int) (x1 : List Int) (x2 : Int) (x3 : Int) (x9 : Int) (x10 : Int) (x11 : Int) : nat_takes.l3 (k + 1) x0 x1 x2 x3 x9 x10 x11 = ((if x11 ≤ (x1.length : Int) then ((nat_at.f k x1 x11).bind fun t0 => ((bits_Mul64.f k t0 x2).bind fun t1 => (if 0 ≤ (wrap64 (x3 + x11)) then (if (wrap64 (x3 + x11)) < (x0.length : Int) then (if x10 ≤ 1 then (if 0 ≤ (wrap64 (x3 + x11)) then (if (wrap64 (x3 + x11)) < (x0.length : Int) then nat_takes.l3 k (x0.set ((wrap64 (x3 + x11)) : Int).toNat (sbS (rd x0 (wrap64 (x3 + x11))) (adS t1.2 x9 0) x10)) x1 x2 x3 (IntKind.u64.wrap (t1.1 + (adC t1.2 x9 0))) (sbC (rd x0 (wrap64 (x3 + x11))) (adS t1.2 x9 0) x10) (wrap64 (x11 + 1)) else none) else none) else none) else none) else none))) else some ((decide (x10 > 0)), x0)) : Option (Bool × List Int)) := by rw [← W64_eq, ← WK_eq]; kernel_rfl
theorem nat_takes.f_eq (k : Nat) (a0 : List Int) (a1 : List Int) (a2 : Int) (a3 : Int) : nat_takes.f k a0 a1 a2 a3 = (nat_takes.l3 k a0 a1 a2 a3 0 0 0 : Option (Bool × List Int)) := by rw [nat_takes.f_def]; kernel_rfl
theorem nat_gives.l2_eq (k : Nat) (x0 : List Int) (x1 : List Int) (x2 : Int) (x6 : Int) (x7 : Int) : nat_gives.l2 (k + 1) x0 x1 x2 x6 x7 = ((if x7 ≤ (x1.length : Int) then (if 0 ≤ (wrap64 (x2 + x7)) then (if (wrap64 (x2 + x7)) < (x0.length : Int) then ((nat_at.f k x1 x7).bind fun t0 => (if x6 ≤ 1 then (if 0 ≤ (wrap64 (x2 + x7)) then (if (wrap64 (x2 + x7)) < (x0.length : Int) then nat_gives.l2 k (x0.set ((wrap64 (x2 + x7)) : Int).toNat (adS (rd x0 (wrap64 (x2 + x7))) t0 x6)) x1 x2 (adC (rd x0 (wrap64 (x2 + x7))) t0 x6) (wrap64 (x7 + 1)) else none) else none) else none)) else none) else none) else some x0) : Option (List Int)) := by rw [← W64_eq]; kernel_rfl
theorem nat_gives.f_eq (k : Nat) (a0 : List Int) (a1 : List Int) (a2 : Int) : nat_gives.f k a0 a1 a2 = (nat_gives.l2 k a0 a1 a2 0 0 : Option (List Int)) := by rw [nat_gives.f_def]; kernel_rfl
theorem nat_Shr.l9_eq (k : Nat) (x0 : List Int) (x1 : Int) (x6 : List Int) (x25 : Int) (x26 : Int) : nat_Shr.l9 (k + 1) x0 x1 x6 x25 x26 = ((if x26 < x25 then (if 0 ≤ x26 then (if x26 < (x0.length : Int) then (if 0 ≤ (IntKind.u64.wrap (Int.tmod x1 64)) then ((nat_at.f k x0 (wrap64 (x26 + 1))).bind fun t0 => (if 0 ≤ (IntKind.u64.wrap (wrap64 (64 - (Int.tmod x1 64)))) then (if 0 ≤ x26 then (if x26 < (x6.length : Int) then nat_Shr.l9 k x0 x1 (x6.set (x26 : Int).toNat (bits .or .u64 (shr .u64 (rd x0 x26) (IntKind.u64.wrap (Int.tmod x1 64))) (shl .u64 t0 (IntKind.u64.wrap (wrap64 (64 - (Int.tmod x1 64))))))) x25 (wrap64 (x26 + 1)) else none) else none) else none)) else none) else none) else none) else ((nat_trim.f k x6).bind fun t0 => some (t0, 0))) : Option (List Int × Int)) := by rw [← W64_eq, ← WK_eq]; kernel_rfl
theorem nat_Shr.f_eq (k : Nat) (a0 : List Int) (a1 : Int) : nat_Shr.f k a0 a1 = ((if a1 < 0 then some (([] : List Int), 1) else ((nat_trim.f k a0).bind fun t0 => (if (wrap64 (Int.tdiv a1 64)) ≥ (t0.length : Int) then some (([] : List Int), 0) else (if 0 ≤ (wrap64 (Int.tdiv a1 64)) then (if (wrap64 (Int.tdiv a1 64)) ≤ (t0.length : Int) then (if 0 ≤ ((t0.drop ((wrap64 (Int.tdiv a1 64)) : Int).toNat).length : Int) then (if (((t0.drop ((wrap64 (Int.tdiv a1 64)) : Int).toNat).length : Int) : Int).toNat ≤ 35184372088832 then nat_Shr.l9 k (t0.drop ((wrap64 (Int.tdiv a1 64)) : Int).toNat) a1 (List.replicate (((t0.drop ((wrap64 (Int.tdiv a1 64)) : Int).toNat).length : Int) : Int).toNat (0 : Int)) ((List.replicate (((t0.drop ((wrap64 (Int.tdiv a1 64)) : Int).toNat).length : Int) : Int).toNat (0 : Int)).length : Int) 0 else none) else none) else none) else none)))) : Option (List Int × Int)) := by rw [← W64_eq, nat_Shr.f_def]; kernel_rfl
theorem nat_DivMod.l14_eq (k : Nat) (x10 : Int) (x11 : List Int) (x12 : List Int) (x13 : Int) (x14 : List Int) (x15 : Int) : nat_DivMod.l14 (k + 1) x10 x11 x12 x13 x14 x15 = ((if x15 ≥ 0 then (if 0 ≤ (wrap64 (x15 + x13)) then (if (wrap64 (x15 + x13)) < (x11.length : Int) then (if 0 ≤ (wrap64 ((wrap64 (x15 + x13)) - 1)) then (if (wrap64 ((wrap64 (x15 + x13)) - 1)) < (x11.length : Int) then (if 0 ≤ (wrap64 ((wrap64 (x15 + x13)) - 2)) then (if (wrap64 ((wrap64 (x15 + x13)) - 2)) < (x11.length : Int) then (if 0 ≤ (wrap64 (x13 - 1)) then (if (wrap64 (x13 - 1)) < (x12.length : Int) then (if 0 ≤ (wrap64 (x13 - 2)) then (if (wrap64 (x13 - 2)) < (x12.length : Int) then ((nat_guess.f k (rd x11 (wrap64 (x15 + x13))) (rd x11 (wrap64 ((wrap64 (x15 + x13)) - 1))) (rd x11 (wrap64 ((wrap64 (x15 + x13)) - 2))) (rd x12 (wrap64 (x13 - 1))) (rd x12 (wrap64 (x13 - 2)))).bind fun t0 => ((nat_takes.f k x11 x12 t0 x15).bind fun t1 => (if t1.1 = true then ((nat_gives.f k t1.2 x12 x15).bind fun t2 => (if 0 ≤ x15 then (if x15 < (x14.length : Int) then nat_DivMod.l14 k x10 t2 x12 x13 (x14.set (x15 : Int).toNat (IntKind.u64.wrap (t0 - 1))) (wrap64 (x15 - 1)) else none) else none)) else (if 0 ≤ x15 then (if x15 < (x14.length : Int) then nat_DivMod.l14 k x10 t1.2 x12 x13 (x14.set (x15 : Int).toNat t0) (wrap64 (x15 - 1)) else none) else none)))) else none) else none) else none) else none) else none) else none) else none) else none) else none) else none) else ((nat_Shr.f k x11 (wrap64 x10)).bind fun t0 => ((nat_trim.f k x14).bind fun t1 => some (t1, t0.1, t0.2)))) : Option (List Int × List Int × Int)) := by rw [← W64_eq, ← WK_eq]; kernel_rfl
theorem nat_DivMod.f_eq (k : Nat) (a0 : List Int) (a1 : List Int) : nat_DivMod.f k a0 a1 = (((nat_trim.f k a0).bind fun t0 => ((nat_trim.f k a1).bind fun t1 => (if (t1.length : Int) = 0 then some (([] : List Int), ([] : List Int), 10) else ((nat_Cmp.f k t0 t1).bind fun t2 => (if t2 < 0 then ((nat_Norm.f k t0).bind fun t3 => some (([] : List Int), t3, 0)) else (if (t1.length : Int) = 1 then (if 0 < (t1.length : Int) then ((nat_DivWord.f k t0 (rd t1 0)).bind fun t3 => ((nat_Norm.f k ([t3.2.1] : List Int)).bind fun t4 => some (t3.1, t4, t3.2.2))) else none) else (if 0 ≤ (wrap64 ((t1.length : Int) - 1)) then (if (wrap64 ((t1.length : Int) - 1)) < (t1.length : Int) then ((bits_LeadingZeros64.f k (rd t1 (wrap64 ((t1.length : Int) - 1)))).bind fun t3 => ((nat_shifted.f k t0 (IntKind.u64.wrap t3)).bind fun t4 => ((nat_shifted.f k t1 (IntKind.u64.wrap t3)).bind fun t5 => ((nat_trim.f k t5).bind fun t6 => (if 0 ≤ (wrap64 ((t4.length : Int) - (t6.length : Int))) then (if ((wrap64 ((t4.length : Int) - (t6.length : Int))) : Int).toNat ≤ 35184372088832 then nat_DivMod.l14 k (IntKind.u64.wrap t3) t4 t6 (t6.length : Int) (List.replicate ((wrap64 ((t4.length : Int) - (t6.length : Int))) : Int).toNat (0 : Int)) (wrap64 (((List.replicate ((wrap64 ((t4.length : Int) - (t6.length : Int))) : Int).toNat (0 : Int)).length : Int) - 1)) else none) else none))))) else none) else none))))))) : Option (List Int × List Int × Int)) := by rw [← W64_eq, ← WK_eq, nat_DivMod.f_def]; kernel_rfl
theorem bigint_Int_QuoRem.f_eq (k : Nat) (a0_0 : Bool) (a0_1 : List Int) (a1_0 : Bool) (a1_1 : List Int) : bigint_Int_QuoRem.f k a0_0 a0_1 a1_0 a1_1 = (((nat_DivMod.f k a0_1 a1_1).bind fun t0 => (if t0.2.2 = 0 then ((bigint_made.f k (!(decide (a0_0 = a1_0))) t0.1).bind fun t1 => ((bigint_made.f k a0_0 t0.2.1).bind fun t2 => some (t1.1, t1.2, t2.1, t2.2, 0))) else some (false, ([] : List Int), false, ([] : List Int), t0.2.2))) : Option (Bool × List Int × Bool × List Int × Int)) := by rw [bigint_Int_QuoRem.f_def]; kernel_rfl
theorem bigint_Int_DivMod.f_eq (k : Nat) (a0_0 : Bool) (a0_1 : List Int) (a1_0 : Bool) (a1_1 : List Int) : bigint_Int_DivMod.f k a0_0 a0_1 a1_0 a1_1 = (((bigint_Int_QuoRem.f k a0_0 a0_1 a1_0 a1_1).bind fun t0 => ((bigint_Int_Sign.f k t0.2.2.1 t0.2.2.2.1).bind fun t1 => ((bigint_Int_Sign.f k a1_0 a1_1).bind fun t2 => (if (wrap64 (t1 * t2)) < 0 then ((bigint_Of.f k 1).bind fun t3 => ((bigint_Int_Sub.f k t0.1 t0.2.1 t3.1 t3.2).bind fun t4 => ((bigint_Int_Add.f k t0.2.2.1 t0.2.2.2.1 a1_0 a1_1).bind fun t5 => some (t4.1, t4.2, t5.1, t5.2, t0.2.2.2.2)))) else some (t0.1, t0.2.1, t0.2.2.1, t0.2.2.2.1, t0.2.2.2.2))))) : Option (Bool × List Int × Bool × List Int × Int)) := by rw [← W64_eq, bigint_Int_DivMod.f_def]; kernel_rfl
theorem bigint_Int_Mod.f_eq (k : Nat) (a0_0 : Bool) (a0_1 : List Int) (a1 : Int) : bigint_Int_Mod.f k a0_0 a0_1 a1 = (((nat_DivWord.f k a0_1 a1).bind fun t0 => (if a0_0 = true then (if t0.2.1 > 0 then some ((IntKind.u64.wrap (a1 - t0.2.1)), t0.2.2) else some (t0.2.1, t0.2.2)) else some (t0.2.1, t0.2.2))) : Option (Int × Int)) := by rw [← WK_eq, bigint_Int_Mod.f_def]; kernel_rfl
theorem crt_may.f_eq (k : Nat) (a0 : Int) : crt_may.f k a0 = ((if a0 ≥ 2 then some (decide (a0 < 9223372036854775808)) else some false) : Option Bool) := by rw [crt_may.f_def]; kernel_rfl
theorem bits_Rem64.f_eq (k : Nat) (a0 : Int) (a1 : Int) (a2 : Int) : bits_Rem64.f k a0 a1 a2 = ((if a2 = 0 then none else ((bits_Div64.f k (Int.tmod a0 a2) a1 a2).bind fun t0 => some t0.2)) : Option Int) := by rw [bits_Rem64.f_def]; kernel_rfl
theorem word_Field_Mul.f_eq (k : Nat) (a0_0 : Int) (a0_1 : Int) (a0_2 : Int) (a1 : Int) (a2 : Int) : word_Field_Mul.f k a0_0 a0_1 a0_2 a1 a2 = ((if a0_0 = 0 then none else (if a0_0 = 0 then none else ((bits_Mul64.f k (Int.tmod a1 a0_0) (Int.tmod a2 a0_0)).bind fun t0 => ((bits_Rem64.f k t0.1 t0.2 a0_0).bind fun t1 => some t1)))) : Option Int) := by rw [word_Field_Mul.f_def]; kernel_rfl
theorem word_New.l7_eq (k : Nat) (x0 : Int) (x5 : Int) (x15_0 : Int) (x15_1 : Int) (x15_2 : Int) (x20 : Int) : word_New.l7 (k + 1) x0 x5 x15_0 x15_1 x15_2 x20 = ((if x20 < 5 then word_New.l7 k x0 (IntKind.u64.wrap (x5 * (IntKind.u64.wrap (2 - (IntKind.u64.wrap (x0 * x5)))))) x15_0 x15_1 x15_2 (wrap64 (x20 + 1)) else (if x0 = 0 then none else ((word_Field_Mul.f k x15_0 (IntKind.u64.wrap (-x5)) x15_2 (Int.tmod (IntKind.u64.wrap (-x0)) x0) (Int.tmod (IntKind.u64.wrap (-x0)) x0)).bind fun t0 => some ((some (x15_0, (IntKind.u64.wrap (-x5)), t0, ())), 0)))) : Option ((Option (Int × Int × Int × Unit)) × Int)) := by rw [← W64_eq, ← WK_eq]; kernel_rfl
theorem word_New.f_eq (k : Nat) (a0 : Int) : word_New.f k a0 = ((if a0 < 2 then some (none, 1) else (if a0 ≥ 9223372036854775808 then some (none, 1) else (if (bits .and .u64 a0 1) = 1 then word_New.l7 k a0 a0 a0 0 0 0 else some ((some (a0, 0, 0, ())), 0)))) : Option ((Option (Int × Int × Int × Unit)) × Int)) := by rw [word_New.f_def]; kernel_rfl
theorem word_Field_Sub.f_eq (k : Nat) (a0_0 : Int) (a0_1 : Int) (a0_2 : Int) (a1 : Int) (a2 : Int) : word_Field_Sub.f k a0_0 a0_1 a0_2 a1 a2 = ((if a0_0 = 0 then none else (if a0_0 = 0 then none else (if (Int.tmod a1 a0_0) < (Int.tmod a2 a0_0) then some (IntKind.u64.wrap ((IntKind.u64.wrap ((Int.tmod a1 a0_0) + a0_0)) - (Int.tmod a2 a0_0))) else some (IntKind.u64.wrap ((Int.tmod a1 a0_0) - (Int.tmod a2 a0_0)))))) : Option Int) := by rw [← WK_eq, word_Field_Sub.f_def]; kernel_rfl
theorem word_Field_Inv.l8_eq (k : Nat) (x0_0 : Int) (x0_1 : Int) (x0_2 : Int) (x6 : Int) (x7 : Int) (x8 : Int) (x9 : Int) : word_Field_Inv.l8 (k + 1) x0_0 x0_1 x0_2 x6 x7 x8 x9 = ((if x7 > 0 then (if x7 = 0 then none else ((word_Field_Mul.f k x0_0 x0_1 x0_2 (IntKind.u64.wrap (Int.tdiv x6 x7)) x9).bind fun t0 => ((word_Field_Sub.f k x0_0 x0_1 x0_2 x8 t0).bind fun t1 => word_Field_Inv.l8 k x0_0 x0_1 x0_2 x7 (IntKind.u64.wrap (x6 - (IntKind.u64.wrap ((IntKind.u64.wrap (Int.tdiv x6 x7)) * x7)))) x9 t1))) else (if x6 = 1 then some (x8, 0) else some (0, 11))) : Option (Int × Int)) := by rw [← WK_eq]; kernel_rfl
theorem word_Field_Inv.f_eq (k : Nat) (a0_0 : Int) (a0_1 : Int) (a0_2 : Int) (a1 : Int) : word_Field_Inv.f k a0_0 a0_1 a0_2 a1 = ((if a0_0 = 0 then none else (if (Int.tmod a1 a0_0) = 0 then some (0, 10) else word_Field_Inv.l8 k a0_0 a0_1 a0_2 a0_0 (Int.tmod a1 a0_0) 0 1)) : Option (Int × Int)) := by rw [word_Field_Inv.f_def]; kernel_rfl
theorem nat_into.l12_eq (k : Nat) (x0 : List Int) (x8 : Int) (x14 : Int) : nat_into.l12 (k + 1) x0 x8 x14 = ((if x8 > 0 then (if 0 ≤ x14 then (if x14 < (x0.length : Int) then (if 0 ≤ x14 then (if x14 < (x0.length : Int) then nat_into.l12 k (x0.set (x14 : Int).toNat (adS (rd x0 x14) x8 0)) (adC (rd x0 x14) x8 0) (wrap64 (x14 + 1)) else none) else none) else none) else none) else some x0) : Option (List Int)) := by rw [← W64_eq]; kernel_rfl
theorem nat_into.l2_eq (k : Nat) (x0 : List Int) (x1 : List Int) (x2 : Int) (x3 : Int) (x8 : Int) (x15 : List Int) (x16 : Int) (x17 : Int) : nat_into.l2 (k + 1) x0 x1 x2 x3 x8 x15 x16 x17 = ((if x17 < x16 then (if 0 ≤ x17 then (if x17 < (x15.length : Int) then ((bits_Mul64.f k (rd x15 x17) x2).bind fun t0 => (if 0 ≤ (wrap64 (x3 + x17)) then (if (wrap64 (x3 + x17)) < (x0.length : Int) then (if 0 ≤ (wrap64 (x3 + x17)) then (if (wrap64 (x3 + x17)) < (x0.length : Int) then nat_into.l2 k (x0.set ((wrap64 (x3 + x17)) : Int).toNat (adS (rd x0 (wrap64 (x3 + x17))) (adS t0.2 x8 0) 0)) x1 x2 x3 (IntKind.u64.wrap ((IntKind.u64.wrap (t0.1 + (adC t0.2 x8 0))) + (adC (rd x0 (wrap64 (x3 + x17))) (adS t0.2 x8 0) 0))) x15 x16 (wrap64 (x17 + 1)) else none) else none) else none) else none)) else none) else none) else nat_into.l12 k x0 x8 (wrap64 (x3 + (x1.length : Int)))) : Option (List Int)) := by rw [← W64_eq, ← WK_eq]; kernel_rfl
theorem nat_into.f_eq (k : Nat) (a0 : List Int) (a1 : List Int) (a2 : Int) (a3 : Int) : nat_into.f k a0 a1 a2 a3 = (nat_into.l2 k a0 a1 a2 a3 0 a1 (a1.length : Int) 0 : Option (List Int)) := by rw [nat_into.f_def]; kernel_rfl
theorem nat_Mul.l4_eq (k : Nat) (x0 : List Int) (x5 : List Int) (x19 : List Int) (x20 : Int) (x21 : Int) : nat_Mul.l4 (k + 1) x0 x5 x19 x20 x21 = ((if x21 < x20 then (if 0 ≤ x21 then (if x21 < (x19.length : Int) then ((nat_into.f k x5 x0 (rd x19 x21) x21).bind fun t0 => nat_Mul.l4 k x0 t0 x19 x20 (wrap64 (x21 + 1))) else none) else none) else ((nat_trim.f k x5).bind fun t0 => some t0)) : Option (List Int)) := by rw [← W64_eq]; kernel_rfl
theorem nat_Mul.f_eq (k : Nat) (a0 : List Int) (a1 : List Int) : nat_Mul.f k a0 a1 = (((nat_trim.f k a0).bind fun t0 => ((nat_trim.f k a1).bind fun t1 => (if 0 ≤ (wrap64 ((wrap64 ((t0.length : Int) + (t1.length : Int))) + 1)) then (if ((wrap64 ((wrap64 ((t0.length : Int) + (t1.length : Int))) + 1)) : Int).toNat ≤ 35184372088832 then nat_Mul.l4 k t0 (List.replicate ((wrap64 ((wrap64 ((t0.length : Int) + (t1.length : Int))) + 1)) : Int).toNat (0 : Int)) t1 (t1.length : Int) 0 else none) else none))) : Option (List Int)) := by rw [← W64_eq, nat_Mul.f_def]; kernel_rfl
theorem bigint_Int_Mul.f_eq (k : Nat) (a0_0 : Bool) (a0_1 : List Int) (a1_0 : Bool) (a1_1 : List Int) : bigint_Int_Mul.f k a0_0 a0_1 a1_0 a1_1 = (((nat_Mul.f k a0_1 a1_1).bind fun t0 => ((bigint_made.f k (!(decide (a0_0 = a1_0))) t0).bind fun t1 => some (t1.1, t1.2))) : Option (Bool × List Int)) := by rw [bigint_Int_Mul.f_def]; kernel_rfl
theorem bigint_From.f_eq (k : Nat) (a0 : Bool) (a1 : List Int) : bigint_From.f k a0 a1 = (((nat_Norm.f k a1).bind fun t0 => ((bigint_made.f k a0 t0).bind fun t1 => some (t1.1, t1.2))) : Option (Bool × List Int)) := by rw [bigint_From.f_def]; kernel_rfl
theorem crt_of.f_eq (k : Nat) (a0 : Int) : crt_of.f k a0 = (((bigint_From.f k false ([a0] : List Int)).bind fun t0 => some (t0.1, t0.2)) : Option (Bool × List Int)) := by rw [crt_of.f_def]; kernel_rfl
theorem crt_Step.f_eq (k : Nat) (a0_0 : Bool) (a0_1 : List Int) (a1_0 : Bool) (a1_1 : List Int) (a2 : Int) (a3 : Int) : crt_Step.f k a0_0 a0_1 a1_0 a1_1 a2 a3 = (((bigint_Int_Sign.f k a1_0 a1_1).bind fun t0 => (if t0 ≤ 0 then some (false, ([] : List Int), false, ([] : List Int), 1) else ((crt_may.f k a3).bind fun t1 => (if (!t1) = true then some (false, ([] : List Int), false, ([] : List Int), 1) else ((word_New.f k a3).bind fun t2 => (Option.elim t2.1 ((if t2.2 = 0 then ((bigint_Int_DivMod.f k a0_0 a0_1 a1_0 a1_1).bind fun t3 => ((bigint_Int_Mod.f k a1_0 a1_1 a3).bind fun t4 => ((bigint_Int_Mod.f k t3.2.2.1 t3.2.2.2.1 a3).bind fun t5 => none))) else some (false, ([] : List Int), false, ([] : List Int), t2.2))) fun t3 => (if t2.2 = 0 then ((bigint_Int_DivMod.f k a0_0 a0_1 a1_0 a1_1).bind fun t4 => ((bigint_Int_Mod.f k a1_0 a1_1 a3).bind fun t5 => ((bigint_Int_Mod.f k t4.2.2.1 t4.2.2.2.1 a3).bind fun t6 => ((word_Field_Inv.f k t3.1 t3.2.1 t3.2.2.1 t5.1).bind fun t7 => (if t7.2 = 0 then ((word_Field_Sub.f k t3.1 t3.2.1 t3.2.2.1 a2 t6.1).bind fun t8 => ((word_Field_Mul.f k t3.1 t3.2.1 t3.2.2.1 t8 t7.1).bind fun t9 => ((crt_of.f k t9).bind fun t10 => ((bigint_Int_Mul.f k a1_0 a1_1 t10.1 t10.2).bind fun t11 => ((bigint_Int_Add.f k t4.2.2.1 t4.2.2.2.1 t11.1 t11.2).bind fun t12 => ((crt_of.f k a3).bind fun t13 => ((bigint_Int_Mul.f k a1_0 a1_1 t13.1 t13.2).bind fun t14 => some (t12.1, t12.2, t14.1, t14.2, 0)))))))) else some (false, ([] : List Int), false, ([] : List Int), 11)))))) else some (false, ([] : List Int), false, ([] : List Int), t2.2)))))))) : Option (Bool × List Int × Bool × List Int × Int)) := by rw [crt_Step.f_def]; kernel_rfl
theorem crt_wrong.l4_eq (k : Nat) (x1 : List Int) (x12 : List Int) (x13 : Int) (x14 : Int) : crt_wrong.l4 (k + 1) x1 x12 x13 x14 = ((if x14 < x13 then (if 0 ≤ x14 then (if x14 < (x12.length : Int) then ((crt_may.f k (rd x12 x14)).bind fun t0 => (if (!t0) = true then some 1 else crt_wrong.l4 k x1 x12 x13 (wrap64 (x14 + 1)))) else none) else none) else (if (x1.length : Int) > 1024 then some 13 else some 0)) : Option Int) := by rw [← W64_eq]; kernel_rfl
theorem crt_wrong.f_eq (k : Nat) (a0 : List Int) (a1 : List Int) : crt_wrong.f k a0 a1 = ((if (a0.length : Int) = (a1.length : Int) then crt_wrong.l4 k a1 a1 (a1.length : Int) 0 else some 1) : Option Int) := by rw [crt_wrong.f_def]; kernel_rfl
theorem crt_Lift.l1000_eq (k : Nat) (x0 : List Int) (x1 : List Int) (x4_0 : Bool) (x4_1 : List Int) (x5_0 : Bool) (x5_1 : List Int) (x8_0 : Bool) (x8_1 : List Int) (x9_0 : Bool) (x9_1 : List Int) (x11 : Int) : crt_Lift.l1000 (k + 1) x0 x1 x4_0 x4_1 x5_0 x5_1 x8_0 x8_1 x9_0 x9_1 x11 = ((if x11 < (x1.length : Int) then (if 0 ≤ x11 then (if x11 < (x0.length : Int) then (if 0 ≤ x11 then (if x11 < (x1.length : Int) then ((crt_Step.f k x8_0 x8_1 x9_0 x9_1 (rd x0 x11) (rd x1 x11)).bind fun t0 => (if t0.2.2.2.2 = 0 then crt_Lift.l1000 k x0 x1 x4_0 x4_1 x5_0 x5_1 t0.1 t0.2.1 t0.2.2.1 t0.2.2.2.1 (wrap64 (x11 + 1)) else some (false, ([] : List Int), false, ([] : List Int), t0.2.2.2.2))) else none) else none) else none) else none) else some (x8_0, x8_1, x9_0, x9_1, 0)) : Option (Bool × List Int × Bool × List Int × Int)) := by rw [← W64_eq]; kernel_rfl
theorem crt_Lift.f_eq (k : Nat) (a0 : List Int) (a1 : List Int) : crt_Lift.f k a0 a1 = (((crt_wrong.f k a0 a1).bind fun t0 => (if t0 = 0 then ((bigint_Of.f k 1).bind fun t1 => (if 0 < (a1.length : Int) then (if 0 < (a0.length : Int) then (if 0 < (a1.length : Int) then ((crt_Step.f k false ([] : List Int) t1.1 t1.2 (rd a0 0) (rd a1 0)).bind fun t2 => (if t2.2.2.2.2 = 0 then crt_Lift.l1000 k a0 a1 false ([] : List Int) false ([] : List Int) t2.1 t2.2.1 t2.2.2.1 t2.2.2.2.1 (wrap64 (0 + 1)) else some (false, ([] : List Int), false, ([] : List Int), t2.2.2.2.2))) else none) else none) else some (false, ([] : List Int), t1.1, t1.2, 0))) else some (false, ([] : List Int), false, ([] : List Int), t0))) : Option (Bool × List Int × Bool × List Int × Int)) := by rw [← W64_eq, crt_Lift.f_def]; kernel_rfl
theorem nat_Print.l14_eq (k : Nat) (x3 : List Int) (x6 : Int) (x7 : Int) : nat_Print.l14 (k + 1) x3 x6 x7 = ((if x6 < x7 then (if 0 ≤ x7 then (if x7 < (x3.length : Int) then (if 0 ≤ x6 then (if x6 < (x3.length : Int) then (if 0 ≤ x6 then (if x6 < (x3.length : Int) then (if 0 ≤ x7 then (if x7 < ((x3.set (x6 : Int).toNat (rd x3 x7)).length : Int) then nat_Print.l14 k ((x3.set (x6 : Int).toNat (rd x3 x7)).set (x7 : Int).toNat (rd x3 x6)) (wrap64 (x6 + 1)) (wrap64 (x7 - 1)) else none) else none) else none) else none) else none) else none) else none) else none) else (if x3.length ≤ 9223372036854775807 then some (Go.strOfNums x3) else none)) : Option ByteArray) := by rw [← W64_eq]; kernel_rfl
theorem nat_Print.l9_eq (k : Nat) (x0 : List Int) (x3 : List Int) (x4 : Int) (x5 : Int) : nat_Print.l9 (k + 1) x0 x3 x4 x5 = ((if x5 < 19 then (if x4 > 0 then (if (x3.length + ([((IntKind.u64.wrap (48 + (Int.tmod x4 10))) % 256)] : List Int).length) ≤ 140737488355328 then nat_Print.l9 k x0 (x3 ++ ([((IntKind.u64.wrap (48 + (Int.tmod x4 10))) % 256)] : List Int)) (IntKind.u64.wrap (Int.tdiv x4 10)) (wrap64 (x5 + 1)) else none) else (if (x0.length : Int) > 0 then (if (x3.length + ([((IntKind.u64.wrap (48 + (Int.tmod x4 10))) % 256)] : List Int).length) ≤ 140737488355328 then nat_Print.l9 k x0 (x3 ++ ([((IntKind.u64.wrap (48 + (Int.tmod x4 10))) % 256)] : List Int)) (IntKind.u64.wrap (Int.tdiv x4 10)) (wrap64 (x5 + 1)) else none) else nat_Print.l5 k x0 x3)) else nat_Print.l5 k x0 x3) : Option ByteArray) := by rw [← W64_eq, ← WK_eq]; kernel_rfl
theorem nat_Print.l5_eq (k : Nat) (x0 : List Int) (x3 : List Int) : nat_Print.l5 (k + 1) x0 x3 = ((if (x0.length : Int) > 0 then ((nat_DivWord.f k x0 10000000000000000000).bind fun t0 => nat_Print.l9 k t0.1 x3 t0.2.1 0) else nat_Print.l14 k x3 0 (wrap64 ((x3.length : Int) - 1))) : Option ByteArray) := by rw [← W64_eq]; kernel_rfl
theorem nat_Print.f_eq (k : Nat) (a0 : List Int) : nat_Print.f k a0 = (((nat_Norm.f k a0).bind fun t0 => (if (t0.length : Int) = 0 then some (ByteArray.mk (Array.mk [48])) else nat_Print.l5 k t0 ([] : List Int))) : Option ByteArray) := by rw [nat_Print.f_def]; kernel_rfl
theorem bigint_Int_Print.f_eq (k : Nat) (a0_0 : Bool) (a0_1 : List Int) : bigint_Int_Print.f k a0_0 a0_1 = (((nat_Print.f k a0_1).bind fun t0 => (if a0_0 = true then (if ((ByteArray.mk (Array.mk [45])).size + t0.size) ≤ 9223372036854775807 then some (tApp (ByteArray.mk (Array.mk [45])) t0) else none) else some t0)) : Option ByteArray) := by rw [bigint_Int_Print.f_def]; kernel_rfl
theorem bigint_Int_Cmp.f_eq (k : Nat) (a0_0 : Bool) (a0_1 : List Int) (a1_0 : Bool) (a1_1 : List Int) : bigint_Int_Cmp.f k a0_0 a0_1 a1_0 a1_1 = ((if a0_0 = true then (if a1_0 = true then ((nat_Cmp.f k a1_1 a0_1).bind fun t0 => some t0) else (if a0_0 = true then some (-1) else (if a1_0 = true then some 1 else ((nat_Cmp.f k a0_1 a1_1).bind fun t0 => some t0)))) else (if a0_0 = true then some (-1) else (if a1_0 = true then some 1 else ((nat_Cmp.f k a0_1 a1_1).bind fun t0 => some t0)))) : Option Int) := by rw [bigint_Int_Cmp.f_def]; kernel_rfl
theorem crt_Near.f_eq (k : Nat) (a0_0 : Bool) (a0_1 : List Int) (a1_0 : Bool) (a1_1 : List Int) : crt_Near.f k a0_0 a0_1 a1_0 a1_1 = (((bigint_Int_Sign.f k a1_0 a1_1).bind fun t0 => (if t0 ≤ 0 then some (false, ([] : List Int), 1) else ((bigint_Int_DivMod.f k a0_0 a0_1 a1_0 a1_1).bind fun t1 => ((bigint_Int_Add.f k t1.2.2.1 t1.2.2.2.1 t1.2.2.1 t1.2.2.2.1).bind fun t2 => ((bigint_Int_Cmp.f k t2.1 t2.2 a1_0 a1_1).bind fun t3 => (if t3 > 0 then ((bigint_Int_Sub.f k t1.2.2.1 t1.2.2.2.1 a1_0 a1_1).bind fun t4 => some (t4.1, t4.2, t1.2.2.2.2)) else some (t1.2.2.1, t1.2.2.2.1, t1.2.2.2.2))))))) : Option (Bool × List Int × Int)) := by rw [crt_Near.f_def]; kernel_rfl
theorem vinculumlaw05_awake.f_eq (k : Nat) : vinculumlaw05_awake.f k = (((crt_Lift.f k ([2, 3] : List Int) ([5, 7] : List Int)).bind fun t0 => ((bigint_Of.f k 17).bind fun t1 => ((bigint_Of.f k 35).bind fun t2 => ((crt_Near.f k t1.1 t1.2 t2.1 t2.2).bind fun t3 => ((bigint_Of.f k 18).bind fun t4 => ((bigint_Of.f k 35).bind fun t5 => ((crt_Near.f k t4.1 t4.2 t5.1 t5.2).bind fun t6 => ((crt_Lift.f k ([1, 1] : List Int) ([4, 6] : List Int)).bind fun t7 => ((bigint_Int_Print.f k t0.1 t0.2.1).bind fun t8 => (if (tEq t8 (ByteArray.mk (Array.mk [49, 55]))) = true then ((bigint_Int_Print.f k t0.2.2.1 t0.2.2.2.1).bind fun t9 => (if (tEq t9 (ByteArray.mk (Array.mk [51, 53]))) = true then (if t0.2.2.2.2 = 0 then ((bigint_Int_Print.f k t3.1 t3.2.1).bind fun t10 => (if (tEq t10 (ByteArray.mk (Array.mk [49, 55]))) = true then (if t3.2.2 = 0 then ((bigint_Int_Print.f k t6.1 t6.2.1).bind fun t11 => (if (tEq t11 (ByteArray.mk (Array.mk [45, 49, 55]))) = true then (if t6.2.2 = 0 then some (decide (t7.2.2.2.2 = 11)) else some false) else some false)) else some false) else some false)) else some false) else some false)) else some false)))))))))) : Option Bool) := by rw [vinculumlaw05_awake.f_def]; kernel_rfl
theorem vinculumref03_May.f_eq (k : Nat) (a0 : Int) : vinculumref03_May.f k a0 = ((if a0 ≥ 2 then some (decide (a0 < 9223372036854775808)) else some false) : Option Bool) := by rw [vinculumref03_May.f_def]; kernel_rfl
theorem vinculumref03_Gcd.l1_eq (k : Nat) (x0 : Int) (x1 : Int) : vinculumref03_Gcd.l1 (k + 1) x0 x1 = ((if x1 > 0 then (if x1 = 0 then none else vinculumref03_Gcd.l1 k x1 (Int.tmod x0 x1)) else some x0) : Option Int) := by kernel_rfl
theorem vinculumref03_Gcd.f_eq (k : Nat) (a0 : Int) (a1 : Int) : vinculumref03_Gcd.f k a0 a1 = (vinculumref03_Gcd.l1 k a0 a1 : Option Int) := by rw [vinculumref03_Gcd.f_def]; kernel_rfl
theorem vinculumref05_Wrong.l14_eq (k : Nat) (x1 : List Int) (x6 : Int) (x7 : Int) : vinculumref05_Wrong.l14 (k + 1) x1 x6 x7 = ((if x7 < x6 then (if 0 ≤ x6 then (if x6 < (x1.length : Int) then (if 0 ≤ x7 then (if x7 < (x1.length : Int) then ((vinculumref03_Gcd.f k (rd x1 x6) (rd x1 x7)).bind fun t0 => (if t0 = 1 then vinculumref05_Wrong.l14 k x1 x6 (wrap64 (x7 + 1)) else some 11)) else none) else none) else none) else none) else vinculumref05_Wrong.l11 k x1 (wrap64 (x6 + 1))) : Option Int) := by rw [← W64_eq]; kernel_rfl
theorem vinculumref05_Wrong.l11_eq (k : Nat) (x1 : List Int) (x6 : Int) : vinculumref05_Wrong.l11 (k + 1) x1 x6 = ((if x6 < (x1.length : Int) then vinculumref05_Wrong.l14 k x1 x6 0 else some 0) : Option Int) := by kernel_rfl
theorem vinculumref05_Wrong.l4_eq (k : Nat) (x1 : List Int) (x5 : Int) : vinculumref05_Wrong.l4 (k + 1) x1 x5 = ((if x5 < (x1.length : Int) then (if 0 ≤ x5 then (if x5 < (x1.length : Int) then ((vinculumref03_May.f k (rd x1 x5)).bind fun t0 => (if (!t0) = true then some 1 else vinculumref05_Wrong.l4 k x1 (wrap64 (x5 + 1)))) else none) else none) else (if (x1.length : Int) > 1024 then some 13 else vinculumref05_Wrong.l11 k x1 0)) : Option Int) := by rw [← W64_eq]; kernel_rfl
theorem vinculumref05_Wrong.f_eq (k : Nat) (a0 : Int) (a1 : List Int) : vinculumref05_Wrong.f k a0 a1 = ((if a0 = (a1.length : Int) then vinculumref05_Wrong.l4 k a1 0 else some 1) : Option Int) := by rw [vinculumref05_Wrong.f_def]; kernel_rfl
theorem vinculumref02_made.f_eq (k : Nat) (a0 : Bool) (a1 : ByteArray) : vinculumref02_made.f k a0 a1 = ((if a0 = true then some ((!(decide ((tEq a1 (ByteArray.mk (Array.mk [48]))) = true))), a1) else some (false, a1)) : Option (Bool × ByteArray)) := by rw [vinculumref02_made.f_def]; kernel_rfl
theorem vinculumref01_strip.l1_eq (k : Nat) (x0 : ByteArray) : vinculumref01_strip.l1 (k + 1) x0 = ((if (x0.size : Int) > 1 then (if 0 < (x0.size : Int) then (if (bt x0 0) = 48 then (if 1 ≤ (x0.size : Int) then vinculumref01_strip.l1 k (tCut x0 (1 : Int).toNat x0.size) else none) else (if (tEq x0 (ByteArray.mk (Array.mk []))) = true then some (ByteArray.mk (Array.mk [48])) else some x0)) else none) else (if (tEq x0 (ByteArray.mk (Array.mk []))) = true then some (ByteArray.mk (Array.mk [48])) else some x0)) : Option ByteArray) := by kernel_rfl
theorem vinculumref01_strip.f_eq (k : Nat) (a0 : ByteArray) : vinculumref01_strip.f k a0 = (vinculumref01_strip.l1 k a0 : Option ByteArray) := by rw [vinculumref01_strip.f_def]; kernel_rfl
theorem vinculumref01_turned.l3_eq (k : Nat) (x0 : List Int) (x3 : List Int) (x4 : Int) : vinculumref01_turned.l3 (k + 1) x0 x3 x4 = ((if x4 ≥ 0 then (if 0 ≤ x4 then (if x4 < (x0.length : Int) then (if (x3.length + ([(rd x0 x4)] : List Int).length) ≤ 140737488355328 then vinculumref01_turned.l3 k x0 (x3 ++ ([(rd x0 x4)] : List Int)) (wrap64 (x4 - 1)) else none) else none) else none) else (if x3.length ≤ 9223372036854775807 then some (Go.strOfNums x3) else none)) : Option ByteArray) := by rw [← W64_eq]; kernel_rfl
theorem vinculumref01_turned.f_eq (k : Nat) (a0 : List Int) : vinculumref01_turned.f k a0 = (vinculumref01_turned.l3 k a0 ([] : List Int) (wrap64 ((a0.length : Int) - 1)) : Option ByteArray) := by rw [← W64_eq, vinculumref01_turned.f_def]; kernel_rfl
theorem vinculumref01_digit.f_eq (k : Nat) (a0 : ByteArray) (a1 : Int) : vinculumref01_digit.f k a0 a1 = ((if a1 ≥ (a0.size : Int) then some 0 else (if 0 ≤ (wrap64 ((wrap64 ((a0.size : Int) - 1)) - a1)) then (if (wrap64 ((wrap64 ((a0.size : Int) - 1)) - a1)) < (a0.size : Int) then some (wrap64 (((bt a0 (wrap64 ((wrap64 ((a0.size : Int) - 1)) - a1))) - 48) % 256)) else none) else none)) : Option Int) := by rw [← W64_eq, vinculumref01_digit.f_def]; kernel_rfl
theorem vinculumref01_Mul.l12_eq (k : Nat) (x5 : List Int) (x8 : List Int) (x9 : Int) (x10 : Int) : vinculumref01_Mul.l12 (k + 1) x5 x8 x9 x10 = ((if x10 < (x5.length : Int) then (if 0 ≤ x10 then (if x10 < (x5.length : Int) then (if (x8.length + ([((wrap64 (48 + (Int.tmod (wrap64 ((rd x5 x10) + x9)) 10))) % 256)] : List Int).length) ≤ 140737488355328 then vinculumref01_Mul.l12 k x5 (x8 ++ ([((wrap64 (48 + (Int.tmod (wrap64 ((rd x5 x10) + x9)) 10))) % 256)] : List Int)) (wrap64 (Int.tdiv (wrap64 ((rd x5 x10) + x9)) 10)) (wrap64 (x10 + 1)) else none) else none) else none) else ((vinculumref01_turned.f k x8).bind fun t0 => ((vinculumref01_strip.f k t0).bind fun t1 => some t1))) : Option ByteArray) := by rw [← W64_eq]; kernel_rfl
theorem vinculumref01_Mul.l6_eq (k : Nat) (x0 : ByteArray) (x1 : ByteArray) (x5 : List Int) (x6 : Int) (x7 : Int) : vinculumref01_Mul.l6 (k + 1) x0 x1 x5 x6 x7 = ((if x7 < (x1.size : Int) then (if 0 ≤ (wrap64 (x6 + x7)) then (if (wrap64 (x6 + x7)) < (x5.length : Int) then ((vinculumref01_digit.f k x0 x6).bind fun t0 => ((vinculumref01_digit.f k x1 x7).bind fun t1 => (if 0 ≤ (wrap64 (x6 + x7)) then (if (wrap64 (x6 + x7)) < (x5.length : Int) then vinculumref01_Mul.l6 k x0 x1 (x5.set ((wrap64 (x6 + x7)) : Int).toNat (wrap64 ((rd x5 (wrap64 (x6 + x7))) + (wrap64 (t0 * t1))))) x6 (wrap64 (x7 + 1)) else none) else none))) else none) else none) else vinculumref01_Mul.l3 k x0 x1 x5 (wrap64 (x6 + 1))) : Option ByteArray) := by rw [← W64_eq]; kernel_rfl
theorem vinculumref01_Mul.l3_eq (k : Nat) (x0 : ByteArray) (x1 : ByteArray) (x5 : List Int) (x6 : Int) : vinculumref01_Mul.l3 (k + 1) x0 x1 x5 x6 = ((if x6 < (x0.size : Int) then vinculumref01_Mul.l6 k x0 x1 x5 x6 0 else vinculumref01_Mul.l12 k x5 ([] : List Int) 0 0) : Option ByteArray) := by kernel_rfl
theorem vinculumref01_Mul.f_eq (k : Nat) (a0 : ByteArray) (a1 : ByteArray) : vinculumref01_Mul.f k a0 a1 = ((if 0 ≤ (wrap64 ((wrap64 ((a0.size : Int) + (a1.size : Int))) + 1)) then (if ((wrap64 ((wrap64 ((a0.size : Int) + (a1.size : Int))) + 1)) : Int).toNat ≤ 35184372088832 then vinculumref01_Mul.l3 k a0 a1 (List.replicate ((wrap64 ((wrap64 ((a0.size : Int) + (a1.size : Int))) + 1)) : Int).toNat (0 : Int)) 0 else none) else none) : Option ByteArray) := by rw [← W64_eq, vinculumref01_Mul.f_def]; kernel_rfl
theorem vinculumref02_Mul.f_eq (k : Nat) (a0_0 : Bool) (a0_1 : ByteArray) (a1_0 : Bool) (a1_1 : ByteArray) : vinculumref02_Mul.f k a0_0 a0_1 a1_0 a1_1 = (((vinculumref01_Mul.f k a0_1 a1_1).bind fun t0 => ((vinculumref02_made.f k (!(decide (a0_0 = a1_0))) t0).bind fun t1 => some (t1.1, t1.2))) : Option (Bool × ByteArray)) := by rw [vinculumref02_Mul.f_def]; kernel_rfl
theorem vinculumref01_Word.l2_eq (k : Nat) (x0 : Int) (x3 : List Int) : vinculumref01_Word.l2 (k + 1) x0 x3 = ((if x0 > 0 then (if (x3.length + ([((IntKind.u64.wrap (48 + (Int.tmod x0 10))) % 256)] : List Int).length) ≤ 140737488355328 then vinculumref01_Word.l2 k (IntKind.u64.wrap (Int.tdiv x0 10)) (x3 ++ ([((IntKind.u64.wrap (48 + (Int.tmod x0 10))) % 256)] : List Int)) else none) else ((vinculumref01_turned.f k x3).bind fun t0 => ((vinculumref01_strip.f k t0).bind fun t1 => some t1))) : Option ByteArray) := by rw [← WK_eq]; kernel_rfl
theorem vinculumref01_Word.f_eq (k : Nat) (a0 : Int) : vinculumref01_Word.f k a0 = (vinculumref01_Word.l2 k a0 ([] : List Int) : Option ByteArray) := by rw [vinculumref01_Word.f_def]; kernel_rfl
theorem vinculumref05_All.l3_eq (k : Nat) (x0 : List Int) (x2_0 : Bool) (x2_1 : ByteArray) (x3_0 : Bool) (x3_1 : ByteArray) (x4 : Int) : vinculumref05_All.l3 (k + 1) x0 x2_0 x2_1 x3_0 x3_1 x4 = ((if x4 < (x0.length : Int) then (if 0 ≤ x4 then (if x4 < (x0.length : Int) then ((vinculumref01_Word.f k (rd x0 x4)).bind fun t0 => ((vinculumref02_Mul.f k x3_0 x3_1 false t0).bind fun t1 => vinculumref05_All.l3 k x0 x2_0 x2_1 t1.1 t1.2 (wrap64 (x4 + 1)))) else none) else none) else some (x3_0, x3_1)) : Option (Bool × ByteArray)) := by rw [← W64_eq]; kernel_rfl
theorem vinculumref05_All.f_eq (k : Nat) (a0 : List Int) : vinculumref05_All.f k a0 = (vinculumref05_All.l3 k a0 false (ByteArray.mk (Array.mk [])) false (ByteArray.mk (Array.mk [49])) 0 : Option (Bool × ByteArray)) := by rw [vinculumref05_All.f_def]; kernel_rfl
theorem vinculumref02_Print.f_eq (k : Nat) (a0_0 : Bool) (a0_1 : ByteArray) : vinculumref02_Print.f k a0_0 a0_1 = ((if a0_0 = true then (if ((ByteArray.mk (Array.mk [45])).size + a0_1.size) ≤ 9223372036854775807 then some (tApp (ByteArray.mk (Array.mk [45])) a0_1) else none) else some a0_1) : Option ByteArray) := by rw [vinculumref02_Print.f_def]; kernel_rfl
theorem vinculumlaw02_Is.f_eq (k : Nat) (a0_0 : Bool) (a0_1 : List Int) (a1_0 : Bool) (a1_1 : ByteArray) : vinculumlaw02_Is.f k a0_0 a0_1 a1_0 a1_1 = (((bigint_Int_Print.f k a0_0 a0_1).bind fun t0 => ((vinculumref02_Print.f k a1_0 a1_1).bind fun t1 => some (decide ((tEq t0 t1) = true)))) : Option Bool) := by rw [vinculumlaw02_Is.f_def]; kernel_rfl
theorem vinculumref01_Parse.l4_eq (k : Nat) (x0 : ByteArray) (x3 : Int) : vinculumref01_Parse.l4 (k + 1) x0 x3 = ((if x3 < (x0.size : Int) then (if 0 ≤ x3 then (if x3 < (x0.size : Int) then (if (bt x0 x3) < 48 then some 16 else (if 0 ≤ x3 then (if x3 < (x0.size : Int) then (if (bt x0 x3) > 57 then some 16 else vinculumref01_Parse.l4 k x0 (wrap64 (x3 + 1))) else none) else none)) else none) else none) else (if (x0.size : Int) > 20000 then some 13 else some 0)) : Option Int) := by rw [← W64_eq]; kernel_rfl
theorem vinculumref01_Parse.f_eq (k : Nat) (a0 : ByteArray) : vinculumref01_Parse.f k a0 = ((if (tEq a0 (ByteArray.mk (Array.mk []))) = true then some 16 else (if (a0.size : Int) > 1 then (if 0 < (a0.size : Int) then (if (bt a0 0) = 48 then some 16 else vinculumref01_Parse.l4 k a0 0) else none) else vinculumref01_Parse.l4 k a0 0)) : Option Int) := by rw [vinculumref01_Parse.f_def]; kernel_rfl
theorem vinculumref02_Parse.f_eq (k : Nat) (a0 : ByteArray) : vinculumref02_Parse.f k a0 = ((if (tEq a0 (ByteArray.mk (Array.mk []))) = true then ((vinculumref01_Parse.f k a0).bind fun t0 => (if t0 = 0 then ((vinculumref02_made.f k false a0).bind fun t1 => some (t1.1, t1.2, 0)) else some (false, (ByteArray.mk (Array.mk [48])), t0))) else (if 0 < (a0.size : Int) then (if (bt a0 0) = 45 then (if 1 ≤ (a0.size : Int) then ((vinculumref01_Parse.f k (tCut a0 (1 : Int).toNat a0.size)).bind fun t0 => (if t0 = 0 then (if (bt a0 0) = 45 then (if (tEq (tCut a0 (1 : Int).toNat a0.size) (ByteArray.mk (Array.mk [48]))) = true then some (false, (ByteArray.mk (Array.mk [48])), 16) else ((vinculumref02_made.f k (decide ((bt a0 0) = 45)) (tCut a0 (1 : Int).toNat a0.size)).bind fun t1 => some (t1.1, t1.2, 0))) else ((vinculumref02_made.f k (decide ((bt a0 0) = 45)) (tCut a0 (1 : Int).toNat a0.size)).bind fun t1 => some (t1.1, t1.2, 0))) else some (false, (ByteArray.mk (Array.mk [48])), t0))) else none) else ((vinculumref01_Parse.f k a0).bind fun t0 => (if t0 = 0 then (if (bt a0 0) = 45 then (if (tEq a0 (ByteArray.mk (Array.mk [48]))) = true then some (false, (ByteArray.mk (Array.mk [48])), 16) else ((vinculumref02_made.f k (decide ((bt a0 0) = 45)) a0).bind fun t1 => some (t1.1, t1.2, 0))) else ((vinculumref02_made.f k (decide ((bt a0 0) = 45)) a0).bind fun t1 => some (t1.1, t1.2, 0))) else some (false, (ByteArray.mk (Array.mk [48])), t0)))) else none)) : Option (Bool × ByteArray × Int)) := by rw [vinculumref02_Parse.f_def]; kernel_rfl
theorem vinculumref02_Sign.f_eq (k : Nat) (a0_0 : Bool) (a0_1 : ByteArray) : vinculumref02_Sign.f k a0_0 a0_1 = ((if (tEq a0_1 (ByteArray.mk (Array.mk [48]))) = true then some 0 else (if a0_0 = true then some (-1) else some 1)) : Option Int) := by rw [vinculumref02_Sign.f_def]; kernel_rfl
theorem vinculumref01_Cmp.f_eq (k : Nat) (a0 : ByteArray) (a1 : ByteArray) : vinculumref01_Cmp.f k a0 a1 = ((if (a0.size : Int) = (a1.size : Int) then (if (tLt a0 a1) = true then some (-1) else (if (match (tLt a0 a1) with | true => true | false => (tEq a0 a1)) = true then some 0 else some 1)) else (if (a0.size : Int) < (a1.size : Int) then some (-1) else some 1)) : Option Int) := by rw [vinculumref01_Cmp.f_def]; kernel_rfl
theorem vinculumref01_Add.l4_eq (k : Nat) (x0 : ByteArray) (x1 : ByteArray) (x5 : List Int) (x6 : Int) (x7 : Int) : vinculumref01_Add.l4 (k + 1) x0 x1 x5 x6 x7 = ((if x7 < (x0.size : Int) then ((vinculumref01_digit.f k x0 x7).bind fun t0 => ((vinculumref01_digit.f k x1 x7).bind fun t1 => (if (x5.length + ([((wrap64 (48 + (Int.tmod (wrap64 ((wrap64 (t0 + t1)) + x6)) 10))) % 256)] : List Int).length) ≤ 140737488355328 then vinculumref01_Add.l4 k x0 x1 (x5 ++ ([((wrap64 (48 + (Int.tmod (wrap64 ((wrap64 (t0 + t1)) + x6)) 10))) % 256)] : List Int)) (wrap64 (Int.tdiv (wrap64 ((wrap64 (t0 + t1)) + x6)) 10)) (wrap64 (x7 + 1)) else none))) else (if x7 < (x1.size : Int) then ((vinculumref01_digit.f k x0 x7).bind fun t0 => ((vinculumref01_digit.f k x1 x7).bind fun t1 => (if (x5.length + ([((wrap64 (48 + (Int.tmod (wrap64 ((wrap64 (t0 + t1)) + x6)) 10))) % 256)] : List Int).length) ≤ 140737488355328 then vinculumref01_Add.l4 k x0 x1 (x5 ++ ([((wrap64 (48 + (Int.tmod (wrap64 ((wrap64 (t0 + t1)) + x6)) 10))) % 256)] : List Int)) (wrap64 (Int.tdiv (wrap64 ((wrap64 (t0 + t1)) + x6)) 10)) (wrap64 (x7 + 1)) else none))) else (if x6 > 0 then ((vinculumref01_digit.f k x0 x7).bind fun t0 => ((vinculumref01_digit.f k x1 x7).bind fun t1 => (if (x5.length + ([((wrap64 (48 + (Int.tmod (wrap64 ((wrap64 (t0 + t1)) + x6)) 10))) % 256)] : List Int).length) ≤ 140737488355328 then vinculumref01_Add.l4 k x0 x1 (x5 ++ ([((wrap64 (48 + (Int.tmod (wrap64 ((wrap64 (t0 + t1)) + x6)) 10))) % 256)] : List Int)) (wrap64 (Int.tdiv (wrap64 ((wrap64 (t0 + t1)) + x6)) 10)) (wrap64 (x7 + 1)) else none))) else ((vinculumref01_turned.f k x5).bind fun t0 => ((vinculumref01_strip.f k t0).bind fun t1 => some t1))))) : Option ByteArray) := by rw [← W64_eq]; kernel_rfl
theorem vinculumref01_Add.f_eq (k : Nat) (a0 : ByteArray) (a1 : ByteArray) : vinculumref01_Add.f k a0 a1 = (vinculumref01_Add.l4 k a0 a1 ([] : List Int) 0 0 : Option ByteArray) := by rw [vinculumref01_Add.f_def]; kernel_rfl
theorem vinculumref01_Sub.l4_eq (k : Nat) (x0 : ByteArray) (x1 : ByteArray) (x5 : List Int) (x6 : Int) (x7 : Int) : vinculumref01_Sub.l4 (k + 1) x0 x1 x5 x6 x7 = ((if x7 < (x0.size : Int) then ((vinculumref01_digit.f k x0 x7).bind fun t0 => ((vinculumref01_digit.f k x1 x7).bind fun t1 => (if (wrap64 ((wrap64 (t0 - t1)) - x6)) < 0 then (if (x5.length + ([((wrap64 (48 + (wrap64 ((wrap64 ((wrap64 (t0 - t1)) - x6)) + 10)))) % 256)] : List Int).length) ≤ 140737488355328 then vinculumref01_Sub.l4 k x0 x1 (x5 ++ ([((wrap64 (48 + (wrap64 ((wrap64 ((wrap64 (t0 - t1)) - x6)) + 10)))) % 256)] : List Int)) 1 (wrap64 (x7 + 1)) else none) else (if (x5.length + ([((wrap64 (48 + (wrap64 ((wrap64 (t0 - t1)) - x6)))) % 256)] : List Int).length) ≤ 140737488355328 then vinculumref01_Sub.l4 k x0 x1 (x5 ++ ([((wrap64 (48 + (wrap64 ((wrap64 (t0 - t1)) - x6)))) % 256)] : List Int)) 0 (wrap64 (x7 + 1)) else none)))) else ((vinculumref01_turned.f k x5).bind fun t0 => ((vinculumref01_strip.f k t0).bind fun t1 => some t1))) : Option ByteArray) := by rw [← W64_eq]; kernel_rfl
theorem vinculumref01_Sub.f_eq (k : Nat) (a0 : ByteArray) (a1 : ByteArray) : vinculumref01_Sub.f k a0 a1 = (vinculumref01_Sub.l4 k a0 a1 ([] : List Int) 0 0 : Option ByteArray) := by rw [vinculumref01_Sub.f_def]; kernel_rfl
theorem vinculumref02_Add.f_eq (k : Nat) (a0_0 : Bool) (a0_1 : ByteArray) (a1_0 : Bool) (a1_1 : ByteArray) : vinculumref02_Add.f k a0_0 a0_1 a1_0 a1_1 = ((if a0_0 = a1_0 then ((vinculumref01_Add.f k a0_1 a1_1).bind fun t0 => ((vinculumref02_made.f k a0_0 t0).bind fun t1 => some (t1.1, t1.2))) else ((vinculumref01_Cmp.f k a0_1 a1_1).bind fun t0 => (if t0 ≥ 0 then ((vinculumref01_Sub.f k a0_1 a1_1).bind fun t1 => ((vinculumref02_made.f k a0_0 t1).bind fun t2 => some (t2.1, t2.2))) else ((vinculumref01_Sub.f k a1_1 a0_1).bind fun t1 => ((vinculumref02_made.f k a1_0 t1).bind fun t2 => some (t2.1, t2.2)))))) : Option (Bool × ByteArray)) := by rw [vinculumref02_Add.f_def]; kernel_rfl
theorem vinculumref02_Neg.f_eq (k : Nat) (a0_0 : Bool) (a0_1 : ByteArray) : vinculumref02_Neg.f k a0_0 a0_1 = (((vinculumref02_made.f k (!a0_0) a0_1).bind fun t0 => some (t0.1, t0.2)) : Option (Bool × ByteArray)) := by rw [vinculumref02_Neg.f_def]; kernel_rfl
theorem vinculumref02_Sub.f_eq (k : Nat) (a0_0 : Bool) (a0_1 : ByteArray) (a1_0 : Bool) (a1_1 : ByteArray) : vinculumref02_Sub.f k a0_0 a0_1 a1_0 a1_1 = (((vinculumref02_Neg.f k a1_0 a1_1).bind fun t0 => ((vinculumref02_Add.f k a0_0 a0_1 t0.1 t0.2).bind fun t1 => some (t1.1, t1.2))) : Option (Bool × ByteArray)) := by rw [vinculumref02_Sub.f_def]; kernel_rfl
theorem vinculumref01_DivMod.l8_eq (k : Nat) (x0 : ByteArray) (x1 : ByteArray) (x6 : List Int) (x7 : ByteArray) (x8 : Int) (x9 : Int) : vinculumref01_DivMod.l8 (k + 1) x0 x1 x6 x7 x8 x9 = (((vinculumref01_Cmp.f k x7 x1).bind fun t0 => (if t0 ≥ 0 then ((vinculumref01_Sub.f k x7 x1).bind fun t1 => vinculumref01_DivMod.l8 k x0 x1 x6 t1 x8 (wrap64 (x9 + 1))) else (if (x6.length + ([((wrap64 (48 + x9)) % 256)] : List Int).length) ≤ 140737488355328 then vinculumref01_DivMod.l4 k x0 x1 (x6 ++ ([((wrap64 (48 + x9)) % 256)] : List Int)) x7 (wrap64 (x8 + 1)) else none))) : Option (ByteArray × ByteArray)) := by rw [← W64_eq]; kernel_rfl
theorem vinculumref01_DivMod.l4_eq (k : Nat) (x0 : ByteArray) (x1 : ByteArray) (x6 : List Int) (x7 : ByteArray) (x8 : Int) : vinculumref01_DivMod.l4 (k + 1) x0 x1 x6 x7 x8 = ((if x8 < (x0.size : Int) then (if 0 ≤ (wrap64 (x8 + 1)) then (if (wrap64 (x8 + 1)) ≤ (x0.size : Int) then (if 0 ≤ x8 then (if x8 ≤ (wrap64 (x8 + 1)) then (if (x7.size + (tCut x0 (x8 : Int).toNat ((wrap64 (x8 + 1)) : Int).toNat).size) ≤ 9223372036854775807 then ((vinculumref01_strip.f k (tApp x7 (tCut x0 (x8 : Int).toNat ((wrap64 (x8 + 1)) : Int).toNat))).bind fun t0 => vinculumref01_DivMod.l8 k x0 x1 x6 t0 x8 0) else none) else none) else none) else none) else none) else (if x6.length ≤ 9223372036854775807 then ((vinculumref01_strip.f k (Go.strOfNums x6)).bind fun t0 => some (t0, x7)) else none)) : Option (ByteArray × ByteArray)) := by rw [← W64_eq]; kernel_rfl
theorem vinculumref01_DivMod.f_eq (k : Nat) (a0 : ByteArray) (a1 : ByteArray) : vinculumref01_DivMod.f k a0 a1 = (vinculumref01_DivMod.l4 k a0 a1 ([] : List Int) (ByteArray.mk (Array.mk [48])) 0 : Option (ByteArray × ByteArray)) := by rw [vinculumref01_DivMod.f_def]; kernel_rfl
theorem vinculumref02_QuoRem.f_eq (k : Nat) (a0_0 : Bool) (a0_1 : ByteArray) (a1_0 : Bool) (a1_1 : ByteArray) : vinculumref02_QuoRem.f k a0_0 a0_1 a1_0 a1_1 = (((vinculumref01_DivMod.f k a0_1 a1_1).bind fun t0 => ((vinculumref02_made.f k (!(decide (a0_0 = a1_0))) t0.1).bind fun t1 => ((vinculumref02_made.f k a0_0 t0.2).bind fun t2 => some (t1.1, t1.2, t2.1, t2.2)))) : Option (Bool × ByteArray × Bool × ByteArray)) := by rw [vinculumref02_QuoRem.f_def]; kernel_rfl
theorem vinculumref02_DivMod.f_eq (k : Nat) (a0_0 : Bool) (a0_1 : ByteArray) (a1_0 : Bool) (a1_1 : ByteArray) : vinculumref02_DivMod.f k a0_0 a0_1 a1_0 a1_1 = (((vinculumref02_QuoRem.f k a0_0 a0_1 a1_0 a1_1).bind fun t0 => ((vinculumref02_Sign.f k t0.2.2.1 t0.2.2.2).bind fun t1 => (if t1 = 0 then some (t0.1, t0.2.1, t0.2.2.1, t0.2.2.2) else ((vinculumref02_Sign.f k t0.2.2.1 t0.2.2.2).bind fun t2 => ((vinculumref02_Sign.f k a1_0 a1_1).bind fun t3 => (if t2 = t3 then some (t0.1, t0.2.1, t0.2.2.1, t0.2.2.2) else ((vinculumref02_Sub.f k t0.1 t0.2.1 false (ByteArray.mk (Array.mk [49]))).bind fun t4 => ((vinculumref02_Add.f k t0.2.2.1 t0.2.2.2 a1_0 a1_1).bind fun t5 => some (t4.1, t4.2, t5.1, t5.2))))))))) : Option (Bool × ByteArray × Bool × ByteArray)) := by rw [vinculumref02_DivMod.f_def]; kernel_rfl
theorem vinculumref05_Left.l4_eq (k : Nat) (x6_0 : Bool) (x6_1 : ByteArray) (x7 : Int) (x8 : Int) : vinculumref05_Left.l4 (k + 1) x6_0 x6_1 x7 x8 = ((if x8 < (x6_1.size : Int) then (if 0 ≤ x8 then (if x8 < (x6_1.size : Int) then vinculumref05_Left.l4 k x6_0 x6_1 (IntKind.u64.wrap ((IntKind.u64.wrap (10 * x7)) + (IntKind.u64.wrap (((bt x6_1 x8) - 48) % 256)))) (wrap64 (x8 + 1)) else none) else none) else some x7) : Option Int) := by rw [← W64_eq, ← WK_eq]; kernel_rfl
theorem vinculumref05_Left.f_eq (k : Nat) (a0_0 : Bool) (a0_1 : ByteArray) (a1 : Int) : vinculumref05_Left.f k a0_0 a0_1 a1 = (((vinculumref01_Word.f k a1).bind fun t0 => ((vinculumref02_DivMod.f k a0_0 a0_1 false t0).bind fun t1 => vinculumref05_Left.l4 k t1.2.2.1 t1.2.2.2 0 0)) : Option Int) := by rw [vinculumref05_Left.f_def]; kernel_rfl
theorem vinculumlaw05_CrtLifts.l14_eq (k : Nat) (x0 : List Int) (x1 : List Int) (x10_0 : Bool) (x10_1 : ByteArray) (x11 : Int) (x12 : Int) : vinculumlaw05_CrtLifts.l14 (k + 1) x0 x1 x10_0 x10_1 x11 x12 = ((if x12 < (x1.length : Int) then (if 0 ≤ x12 then (if x12 < (x1.length : Int) then ((vinculumref05_Left.f k x10_0 x10_1 (rd x1 x12)).bind fun t0 => (if 0 ≤ x12 then (if x12 < (x0.length : Int) then (if 0 ≤ x12 then (if x12 < (x1.length : Int) then (if (rd x1 x12) = 0 then none else (if t0 = (Int.tmod (rd x0 x12) (rd x1 x12)) then vinculumlaw05_CrtLifts.l14 k x0 x1 x10_0 x10_1 x11 (wrap64 (x12 + 1)) else some false)) else none) else none) else none) else none)) else none) else none) else (if x11 = 0 then ((vinculumlaw05_awake.f k).bind fun t0 => some t0) else some false)) : Option Bool) := by rw [← W64_eq]; kernel_rfl
theorem vinculumlaw05_CrtLifts.f_eq (k : Nat) (a0 : List Int) (a1 : List Int) : vinculumlaw05_CrtLifts.f k a0 a1 = ((if (a0.length : Int) > 12 then ((vinculumlaw05_awake.f k).bind fun t0 => some t0) else (if (a1.length : Int) > 12 then ((vinculumlaw05_awake.f k).bind fun t0 => some t0) else ((crt_Lift.f k a0 a1).bind fun t0 => ((vinculumref05_Wrong.f k (a0.length : Int) a1).bind fun t1 => (if t0.2.2.2.2 = t1 then (if t0.2.2.2.2 = 0 then ((vinculumref05_All.f k a1).bind fun t2 => ((vinculumlaw02_Is.f k t0.2.2.1 t0.2.2.2.1 t2.1 t2.2).bind fun t3 => (if (!t3) = true then some false else ((bigint_Int_Sign.f k t0.1 t0.2.1).bind fun t4 => (if t4 < 0 then some false else ((bigint_Int_Cmp.f k t0.1 t0.2.1 t0.2.2.1 t0.2.2.2.1).bind fun t5 => (if t5 ≥ 0 then some false else ((bigint_Int_Print.f k t0.1 t0.2.1).bind fun t6 => ((vinculumref02_Parse.f k t6).bind fun t7 => vinculumlaw05_CrtLifts.l14 k a0 a1 t7.1 t7.2.1 t7.2.2 0))))))))) else ((bigint_Int_Sign.f k t0.1 t0.2.1).bind fun t2 => (if t2 = 0 then ((bigint_Int_Sign.f k t0.2.2.1 t0.2.2.2.1).bind fun t3 => (if t3 = 0 then ((vinculumlaw05_awake.f k).bind fun t4 => some t4) else some false)) else some false))) else some false))))) : Option Bool) := by rw [vinculumlaw05_CrtLifts.f_def]; kernel_rfl
theorem vinculumlaw02_Few.f_eq (k : Nat) (a0_0 : Bool) (a0_1 : List Int) : vinculumlaw02_Few.f k a0_0 a0_1 = (some (decide ((a0_1.length : Int) ≤ 8)) : Option Bool) := by rw [vinculumlaw02_Few.f_def]; kernel_rfl
theorem vinculumlaw02_Of.f_eq (k : Nat) (a0_0 : Bool) (a0_1 : List Int) : vinculumlaw02_Of.f k a0_0 a0_1 = (((bigint_From.f k a0_0 a0_1).bind fun t0 => some (t0.1, t0.2)) : Option (Bool × List Int)) := by rw [vinculumlaw02_Of.f_def]; kernel_rfl
theorem vinculumref01_Of.l3_eq (k : Nat) (x0 : List Int) (x3 : ByteArray) (x4 : Int) : vinculumref01_Of.l3 (k + 1) x0 x3 x4 = ((if x4 ≥ 0 then ((vinculumref01_Mul.f k x3 (ByteArray.mk (Array.mk [49, 56, 52, 52, 54, 55, 52, 52, 48, 55, 51, 55, 48, 57, 53, 53, 49, 54, 49, 54]))).bind fun t0 => (if 0 ≤ x4 then (if x4 < (x0.length : Int) then ((vinculumref01_Word.f k (rd x0 x4)).bind fun t1 => ((vinculumref01_Add.f k t0 t1).bind fun t2 => vinculumref01_Of.l3 k x0 t2 (wrap64 (x4 - 1)))) else none) else none)) else some x3) : Option ByteArray) := by rw [← W64_eq]; kernel_rfl
theorem vinculumref01_Of.f_eq (k : Nat) (a0 : List Int) : vinculumref01_Of.f k a0 = (vinculumref01_Of.l3 k a0 (ByteArray.mk (Array.mk [48])) (wrap64 ((a0.length : Int) - 1)) : Option ByteArray) := by rw [← W64_eq, vinculumref01_Of.f_def]; kernel_rfl
theorem vinculumref02_Of.f_eq (k : Nat) (a0 : Bool) (a1 : List Int) : vinculumref02_Of.f k a0 a1 = (((vinculumref01_Of.f k a1).bind fun t0 => ((vinculumref02_made.f k a0 t0).bind fun t1 => some (t1.1, t1.2))) : Option (Bool × ByteArray)) := by rw [vinculumref02_Of.f_def]; kernel_rfl
theorem vinculumlaw02_Plain.f_eq (k : Nat) (a0_0 : Bool) (a0_1 : List Int) : vinculumlaw02_Plain.f k a0_0 a0_1 = (((vinculumref02_Of.f k a0_0 a0_1).bind fun t0 => some (t0.1, t0.2)) : Option (Bool × ByteArray)) := by rw [vinculumlaw02_Plain.f_def]; kernel_rfl
theorem vinculumref02_Cmp.f_eq (k : Nat) (a0_0 : Bool) (a0_1 : ByteArray) (a1_0 : Bool) (a1_1 : ByteArray) : vinculumref02_Cmp.f k a0_0 a0_1 a1_0 a1_1 = (((vinculumref02_Sub.f k a0_0 a0_1 a1_0 a1_1).bind fun t0 => ((vinculumref02_Sign.f k t0.1 t0.2).bind fun t1 => some t1)) : Option Int) := by rw [vinculumref02_Cmp.f_def]; kernel_rfl
theorem vinculumref05_Near.f_eq (k : Nat) (a0_0 : Bool) (a0_1 : ByteArray) (a1_0 : Bool) (a1_1 : ByteArray) : vinculumref05_Near.f k a0_0 a0_1 a1_0 a1_1 = (((vinculumref02_DivMod.f k a0_0 a0_1 a1_0 a1_1).bind fun t0 => ((vinculumref02_Add.f k t0.2.2.1 t0.2.2.2 t0.2.2.1 t0.2.2.2).bind fun t1 => ((vinculumref02_Cmp.f k t1.1 t1.2 a1_0 a1_1).bind fun t2 => (if t2 > 0 then ((vinculumref02_Sub.f k t0.2.2.1 t0.2.2.2 a1_0 a1_1).bind fun t3 => some (t3.1, t3.2)) else some (t0.2.2.1, t0.2.2.2))))) : Option (Bool × ByteArray)) := by rw [vinculumref05_Near.f_def]; kernel_rfl
theorem vinculumlaw05_CrtNears.f_eq (k : Nat) (a0_0 : Bool) (a0_1 : List Int) (a1_0 : Bool) (a1_1 : List Int) : vinculumlaw05_CrtNears.f k a0_0 a0_1 a1_0 a1_1 = (((vinculumlaw02_Few.f k a0_0 a0_1).bind fun t0 => (if (!t0) = true then ((vinculumlaw05_awake.f k).bind fun t1 => some t1) else ((vinculumlaw02_Few.f k a1_0 a1_1).bind fun t1 => (if (!t1) = true then ((vinculumlaw05_awake.f k).bind fun t2 => some t2) else ((vinculumlaw02_Of.f k a0_0 a0_1).bind fun t2 => ((vinculumlaw02_Of.f k a1_0 a1_1).bind fun t3 => ((crt_Near.f k t2.1 t2.2 t3.1 t3.2).bind fun t4 => ((vinculumlaw02_Plain.f k a1_0 a1_1).bind fun t5 => ((vinculumref02_Sign.f k t5.1 t5.2).bind fun t6 => (if t6 ≤ 0 then (if t4.2.2 = 1 then ((bigint_Int_Sign.f k t4.1 t4.2.1).bind fun t7 => (if t7 = 0 then ((vinculumlaw05_awake.f k).bind fun t8 => some t8) else some false)) else some false) else (if t4.2.2 = 0 then ((vinculumlaw02_Plain.f k a0_0 a0_1).bind fun t7 => ((vinculumref05_Near.f k t7.1 t7.2 t5.1 t5.2).bind fun t8 => ((vinculumlaw02_Is.f k t4.1 t4.2.1 t8.1 t8.2).bind fun t9 => (if t9 = true then ((vinculumlaw05_awake.f k).bind fun t10 => some t10) else some false)))) else some false))))))))))) : Option Bool) := by rw [vinculumlaw05_CrtNears.f_def]; kernel_rfl
theorem bigint_Int_Exact.f_eq (k : Nat) (a0_0 : Bool) (a0_1 : List Int) (a1_0 : Bool) (a1_1 : List Int) : bigint_Int_Exact.f k a0_0 a0_1 a1_0 a1_1 = (((bigint_Int_QuoRem.f k a0_0 a0_1 a1_0 a1_1).bind fun t0 => (if t0.2.2.2.2 = 0 then ((bigint_Int_Sign.f k t0.2.2.1 t0.2.2.2.1).bind fun t1 => (if t1 = 0 then some (t0.1, t0.2.1, 0) else some (false, ([] : List Int), 11))) else some (false, ([] : List Int), t0.2.2.2.2))) : Option (Bool × List Int × Int)) := by rw [bigint_Int_Exact.f_def]; kernel_rfl
theorem vinculumlaw05_CrtSteps.f_eq (k : Nat) (a0_0 : Bool) (a0_1 : List Int) (a1_0 : Bool) (a1_1 : List Int) (a2_0 : Int) (a2_1 : Int) : vinculumlaw05_CrtSteps.f k a0_0 a0_1 a1_0 a1_1 a2_0 a2_1 = ((if (a0_1.length : Int) > 4 then ((vinculumlaw05_awake.f k).bind fun t0 => some t0) else (if (a1_1.length : Int) > 4 then ((vinculumlaw05_awake.f k).bind fun t0 => some t0) else ((vinculumlaw02_Of.f k a0_0 a0_1).bind fun t0 => ((vinculumlaw02_Of.f k a1_0 a1_1).bind fun t1 => ((crt_Step.f k t0.1 t0.2 t1.1 t1.2 a2_0 a2_1).bind fun t2 => ((bigint_Int_Sign.f k t1.1 t1.2).bind fun t3 => (if t3 ≤ 0 then (if t2.2.2.2.2 = 1 then ((bigint_Int_Sign.f k t2.1 t2.2.1).bind fun t4 => (if t4 = 0 then ((bigint_Int_Sign.f k t2.2.2.1 t2.2.2.2.1).bind fun t5 => (if t5 = 0 then ((vinculumlaw05_awake.f k).bind fun t6 => some t6) else some false)) else some false)) else some false) else ((vinculumref03_May.f k a2_1).bind fun t4 => (if (!t4) = true then (if t2.2.2.2.2 = 1 then ((bigint_Int_Sign.f k t2.1 t2.2.1).bind fun t5 => (if t5 = 0 then ((bigint_Int_Sign.f k t2.2.2.1 t2.2.2.2.1).bind fun t6 => (if t6 = 0 then ((vinculumlaw05_awake.f k).bind fun t7 => some t7) else some false)) else some false)) else some false) else ((vinculumlaw02_Plain.f k a1_0 a1_1).bind fun t5 => ((vinculumref05_Left.f k t5.1 t5.2 a2_1).bind fun t6 => ((vinculumref03_Gcd.f k t6 a2_1).bind fun t7 => (if t7 = 1 then (if t2.2.2.2.2 = 0 then ((bigint_Int_Sign.f k t2.1 t2.2.1).bind fun t8 => (if t8 < 0 then some false else ((bigint_Int_Cmp.f k t2.1 t2.2.1 t2.2.2.1 t2.2.2.2.1).bind fun t9 => (if t9 ≥ 0 then some false else ((bigint_Int_DivMod.f k t2.1 t2.2.1 t1.1 t1.2).bind fun t10 => ((bigint_Int_DivMod.f k t0.1 t0.2 t1.1 t1.2).bind fun t11 => ((bigint_Int_Mod.f k t2.1 t2.2.1 a2_1).bind fun t12 => ((bigint_Int_Exact.f k t2.2.2.1 t2.2.2.2.1 t1.1 t1.2).bind fun t13 => (if t10.2.2.2.2 = 0 then (if t11.2.2.2.2 = 0 then ((bigint_Int_Cmp.f k t10.2.2.1 t10.2.2.2.1 t11.2.2.1 t11.2.2.2.1).bind fun t14 => (if t14 = 0 then (if t12.2 = 0 then (if a2_1 = 0 then none else (if t12.1 = (Int.tmod a2_0 a2_1) then (if t13.2.2 = 0 then ((bigint_Int_Print.f k t13.1 t13.2.1).bind fun t15 => ((vinculumref05_Left.f k false t15 4611686018427387904).bind fun t16 => (if t16 = (Int.tmod a2_1 4611686018427387904) then ((vinculumlaw05_awake.f k).bind fun t17 => some t17) else some false))) else some false) else some false)) else some false) else some false)) else some false) else some false))))))))) else some false) else (if t2.2.2.2.2 = 11 then ((bigint_Int_Sign.f k t2.1 t2.2.1).bind fun t8 => (if t8 = 0 then ((bigint_Int_Sign.f k t2.2.2.1 t2.2.2.2.1).bind fun t9 => (if t9 = 0 then ((vinculumlaw05_awake.f k).bind fun t10 => some t10) else some false)) else some false)) else some false)))))))))))))) : Option Bool) := by rw [vinculumlaw05_CrtSteps.f_def]; kernel_rfl
theorem crt_Parts.l9_eq (k : Nat) (x2_0 : Bool) (x2_1 : List Int) (x8 : List Int) (x23 : List Int) (x24 : Int) (x25 : Int) : crt_Parts.l9 (k + 1) x2_0 x2_1 x8 x23 x24 x25 = ((if x25 < x24 then (if 0 ≤ x25 then (if x25 < (x23.length : Int) then ((bigint_Int_Mod.f k x2_0 x2_1 (rd x23 x25)).bind fun t0 => (if t0.2 = 0 then (if (x8.length + ([t0.1] : List Int).length) ≤ 17592186044416 then crt_Parts.l9 k x2_0 x2_1 (x8 ++ ([t0.1] : List Int)) x23 x24 (wrap64 (x25 + 1)) else none) else some (([] : List Int), t0.2))) else none) else none) else some (x8, 0)) : Option (List Int × Int)) := by rw [← W64_eq]; kernel_rfl
theorem crt_Parts.l2_eq (k : Nat) (x1 : List Int) (x2_0 : Bool) (x2_1 : List Int) (x13 : List Int) (x14 : Int) (x15 : Int) : crt_Parts.l2 (k + 1) x1 x2_0 x2_1 x13 x14 x15 = ((if x15 < x14 then (if 0 ≤ x15 then (if x15 < (x13.length : Int) then ((crt_may.f k (rd x13 x15)).bind fun t0 => (if (!t0) = true then some (([] : List Int), 1) else crt_Parts.l2 k x1 x2_0 x2_1 x13 x14 (wrap64 (x15 + 1)))) else none) else none) else crt_Parts.l9 k x2_0 x2_1 ([] : List Int) x1 (x1.length : Int) 0) : Option (List Int × Int)) := by rw [← W64_eq]; kernel_rfl
theorem crt_Parts.f_eq (k : Nat) (a0_0 : Bool) (a0_1 : List Int) (a1 : List Int) : crt_Parts.f k a0_0 a0_1 a1 = (crt_Parts.l2 k a1 a0_0 a0_1 a1 (a1.length : Int) 0 : Option (List Int × Int)) := by rw [crt_Parts.f_def]; kernel_rfl
theorem vinculumlaw05_CrtParts.l12_eq (k : Nat) (x1 : List Int) (x2_0 : Bool) (x2_1 : List Int) (x5 : List Int) (x8 : Int) : vinculumlaw05_CrtParts.l12 (k + 1) x1 x2_0 x2_1 x5 x8 = ((if x8 < (x5.length : Int) then (if 0 ≤ x8 then (if x8 < (x5.length : Int) then ((vinculumlaw02_Plain.f k x2_0 x2_1).bind fun t0 => (if 0 ≤ x8 then (if x8 < (x1.length : Int) then ((vinculumref05_Left.f k t0.1 t0.2 (rd x1 x8)).bind fun t1 => (if (rd x5 x8) = t1 then vinculumlaw05_CrtParts.l12 k x1 x2_0 x2_1 x5 (wrap64 (x8 + 1)) else some false)) else none) else none)) else none) else none) else ((vinculumlaw05_awake.f k).bind fun t0 => some t0)) : Option Bool) := by rw [← W64_eq]; kernel_rfl
theorem vinculumlaw05_CrtParts.l5_eq (k : Nat) (x1 : List Int) (x2_0 : Bool) (x2_1 : List Int) (x5 : List Int) (x6 : Int) (x7 : Int) : vinculumlaw05_CrtParts.l5 (k + 1) x1 x2_0 x2_1 x5 x6 x7 = ((if x7 < (x1.length : Int) then (if 0 ≤ x7 then (if x7 < (x1.length : Int) then ((vinculumref03_May.f k (rd x1 x7)).bind fun t0 => (if (!t0) = true then (if x6 = 1 then (if (x5.length : Int) = 0 then ((vinculumlaw05_awake.f k).bind fun t1 => some t1) else some false) else some false) else vinculumlaw05_CrtParts.l5 k x1 x2_0 x2_1 x5 x6 (wrap64 (x7 + 1)))) else none) else none) else (if x6 = 0 then (if (x5.length : Int) = (x1.length : Int) then vinculumlaw05_CrtParts.l12 k x1 x2_0 x2_1 x5 0 else some false) else some false)) : Option Bool) := by rw [← W64_eq]; kernel_rfl
theorem vinculumlaw05_CrtParts.f_eq (k : Nat) (a0_0 : Bool) (a0_1 : List Int) (a1 : List Int) : vinculumlaw05_CrtParts.f k a0_0 a0_1 a1 = (((vinculumlaw02_Few.f k a0_0 a0_1).bind fun t0 => (if (!t0) = true then ((vinculumlaw05_awake.f k).bind fun t1 => some t1) else (if (a1.length : Int) > 20 then ((vinculumlaw05_awake.f k).bind fun t1 => some t1) else ((vinculumlaw02_Of.f k a0_0 a0_1).bind fun t1 => ((crt_Parts.f k t1.1 t1.2 a1).bind fun t2 => vinculumlaw05_CrtParts.l5 k a1 a0_0 a0_1 t2.1 t2.2 0))))) : Option Bool) := by rw [vinculumlaw05_CrtParts.f_def]; kernel_rfl
theorem crt_Join.f_eq (k : Nat) (a0 : List Int) (a1 : List Int) : crt_Join.f k a0 a1 = (((crt_Lift.f k a0 a1).bind fun t0 => (if t0.2.2.2.2 = 0 then ((crt_Near.f k t0.1 t0.2.1 t0.2.2.1 t0.2.2.2.1).bind fun t1 => some (t1.1, t1.2.1, t1.2.2)) else some (false, ([] : List Int), t0.2.2.2.2))) : Option (Bool × List Int × Int)) := by rw [crt_Join.f_def]; kernel_rfl
theorem nat_up.f_eq (k : Nat) (a0 : List Int) (a1 : Int) : nat_up.f k a0 a1 = ((if (a0.length : Int) = 0 then some ([] : List Int) else (if 0 ≤ a1 then (if a1 ≤ (wrap64 (a1 + (a0.length : Int))) then (if ((wrap64 (a1 + (a0.length : Int))) : Int).toNat ≤ 35184372088832 then (if ((List.replicate (a1 : Int).toNat (0 : Int)).length + a0.length) ≤ 17592186044416 then some ((List.replicate (a1 : Int).toNat (0 : Int)) ++ a0) else none) else none) else none) else none)) : Option (List Int)) := by rw [← W64_eq, nat_up.f_def]; kernel_rfl
theorem nat_Shl.f_eq (k : Nat) (a0 : List Int) (a1 : Int) : nat_Shl.f k a0 a1 = ((if a1 < 0 then some (([] : List Int), 1) else (if a1 > 262144 then some (([] : List Int), 13) else ((nat_trim.f k a0).bind fun t0 => ((nat_shifted.f k t0 (IntKind.u64.wrap (Int.tmod a1 64))).bind fun t1 => ((nat_up.f k t1 (wrap64 (Int.tdiv a1 64))).bind fun t2 => ((nat_trim.f k t2).bind fun t3 => some (t3, 0))))))) : Option (List Int × Int)) := by rw [← W64_eq, ← WK_eq, nat_Shl.f_def]; kernel_rfl
theorem bigint_Int_Nat.f_eq (k : Nat) (a0_0 : Bool) (a0_1 : List Int) : bigint_Int_Nat.f k a0_0 a0_1 = (((nat_Norm.f k a0_1).bind fun t0 => some t0) : Option (List Int)) := by rw [bigint_Int_Nat.f_def]; kernel_rfl
theorem crt_Enough.l3_eq (k : Nat) (x0 : Int) (x5_0 : Bool) (x5_1 : List Int) (x11 : List Int) (x12 : Int) (x13 : Int) : crt_Enough.l3 (k + 1) x0 x5_0 x5_1 x11 x12 x13 = ((if x13 < x12 then (if 0 ≤ x13 then (if x13 < (x11.length : Int) then ((crt_may.f k (rd x11 x13)).bind fun t0 => (if (!t0) = true then some false else ((crt_of.f k (rd x11 x13)).bind fun t1 => ((bigint_Int_Mul.f k x5_0 x5_1 t1.1 t1.2).bind fun t2 => crt_Enough.l3 k x0 t2.1 t2.2 x11 x12 (wrap64 (x13 + 1)))))) else none) else none) else (if x0 < 0 then some false else (if x0 > 100000 then some false else ((nat_Shl.f k ([1] : List Int) (wrap64 (x0 + 1))).bind fun t0 => (if t0.2 = 0 then ((bigint_Int_Nat.f k x5_0 x5_1).bind fun t1 => ((nat_Cmp.f k t1 t0.1).bind fun t2 => some (decide (t2 > 0)))) else some false))))) : Option Bool) := by rw [← W64_eq]; kernel_rfl
theorem crt_Enough.f_eq (k : Nat) (a0 : Int) (a1 : List Int) : crt_Enough.f k a0 a1 = (((bigint_Of.f k 1).bind fun t0 => crt_Enough.l3 k a0 t0.1 t0.2 a1 (a1.length : Int) 0) : Option Bool) := by rw [crt_Enough.f_def]; kernel_rfl
theorem vinculumref01_Double.l3_eq (k : Nat) (x0 : Int) (x3 : ByteArray) (x4 : Int) : vinculumref01_Double.l3 (k + 1) x0 x3 x4 = ((if x4 < x0 then ((vinculumref01_Add.f k x3 x3).bind fun t0 => vinculumref01_Double.l3 k x0 t0 (wrap64 (x4 + 1))) else some x3) : Option ByteArray) := by rw [← W64_eq]; kernel_rfl
theorem vinculumref01_Double.f_eq (k : Nat) (a0 : Int) : vinculumref01_Double.f k a0 = (vinculumref01_Double.l3 k a0 (ByteArray.mk (Array.mk [49])) 0 : Option ByteArray) := by rw [vinculumref01_Double.f_def]; kernel_rfl
theorem vinculumref05_Enough.l2_eq (k : Nat) (x0 : Int) (x1 : List Int) (x5 : Int) : vinculumref05_Enough.l2 (k + 1) x0 x1 x5 = ((if x5 < (x1.length : Int) then (if 0 ≤ x5 then (if x5 < (x1.length : Int) then ((vinculumref03_May.f k (rd x1 x5)).bind fun t0 => (if (!t0) = true then some false else vinculumref05_Enough.l2 k x0 x1 (wrap64 (x5 + 1)))) else none) else none) else (if x0 ≥ 0 then (if x0 ≤ (wrap64 (64 * (x1.length : Int))) then ((vinculumref05_All.f k x1).bind fun t0 => ((vinculumref01_Double.f k (wrap64 (x0 + 1))).bind fun t1 => ((vinculumref01_Cmp.f k t0.2 t1).bind fun t2 => some (decide (t2 > 0))))) else some false) else some false)) : Option Bool) := by rw [← W64_eq]; kernel_rfl
theorem vinculumref05_Enough.f_eq (k : Nat) (a0 : Int) (a1 : List Int) : vinculumref05_Enough.f k a0 a1 = (vinculumref05_Enough.l2 k a0 a1 0 : Option Bool) := by rw [vinculumref05_Enough.f_def]; kernel_rfl
theorem vinculumlaw05_CrtEnough.f_eq (k : Nat) (a0 : Int) (a1 : List Int) (a2 : List Int) : vinculumlaw05_CrtEnough.f k a0 a1 a2 = ((if (a2.length : Int) > 8 then ((vinculumlaw05_awake.f k).bind fun t0 => some t0) else (if (a1.length : Int) > 8 then ((vinculumlaw05_awake.f k).bind fun t0 => some t0) else ((crt_Join.f k a1 a2).bind fun t0 => ((crt_Lift.f k a1 a2).bind fun t1 => (if t0.2.2 = t1.2.2.2.2 then (if t0.2.2 = 0 then ((crt_Near.f k t1.1 t1.2.1 t1.2.2.1 t1.2.2.2.1).bind fun t2 => (if t2.2.2 = 0 then ((bigint_Int_Cmp.f k t2.1 t2.2.1 t0.1 t0.2.1).bind fun t3 => (if t3 = 0 then ((crt_Enough.f k a0 a2).bind fun t4 => ((vinculumref05_Enough.f k a0 a2).bind fun t5 => (if t4 = t5 then ((vinculumlaw05_awake.f k).bind fun t6 => some t6) else some false))) else some false)) else some false)) else ((bigint_Int_Sign.f k t0.1 t0.2.1).bind fun t2 => (if t2 = 0 then ((crt_Enough.f k a0 a2).bind fun t3 => ((vinculumref05_Enough.f k a0 a2).bind fun t4 => (if t3 = t4 then ((vinculumlaw05_awake.f k).bind fun t5 => some t5) else some false))) else some false))) else some false))))) : Option Bool) := by rw [vinculumlaw05_CrtEnough.f_def]; kernel_rfl
theorem nat_Bits.f_eq (k : Nat) (a0 : List Int) : nat_Bits.f k a0 = (((nat_trim.f k a0).bind fun t0 => (if (t0.length : Int) = 0 then some 0 else (if 0 ≤ (wrap64 ((t0.length : Int) - 1)) then (if (wrap64 ((t0.length : Int) - 1)) < (t0.length : Int) then ((bits_Len64.f k (rd t0 (wrap64 ((t0.length : Int) - 1)))).bind fun t1 => some (wrap64 ((wrap64 (64 * (wrap64 ((t0.length : Int) - 1)))) + t1))) else none) else none))) : Option Int) := by rw [← W64_eq, nat_Bits.f_def]; kernel_rfl
theorem bigint_Int_Bits.f_eq (k : Nat) (a0_0 : Bool) (a0_1 : List Int) : bigint_Int_Bits.f k a0_0 a0_1 = (((nat_Bits.f k a0_1).bind fun t0 => some t0) : Option Int) := by rw [bigint_Int_Bits.f_def]; kernel_rfl
theorem vinculumlaw05_CrtBack.f_eq (k : Nat) (a0_0 : Bool) (a0_1 : List Int) (a1 : List Int) : vinculumlaw05_CrtBack.f k a0_0 a0_1 a1 = (((vinculumlaw02_Few.f k a0_0 a0_1).bind fun t0 => (if (!t0) = true then ((vinculumlaw05_awake.f k).bind fun t1 => some t1) else (if (a1.length : Int) > 12 then ((vinculumlaw05_awake.f k).bind fun t1 => some t1) else ((vinculumlaw02_Of.f k a0_0 a0_1).bind fun t1 => ((vinculumref05_Wrong.f k (a1.length : Int) a1).bind fun t2 => (if t2 = 0 then ((bigint_Int_Bits.f k t1.1 t1.2).bind fun t3 => ((crt_Enough.f k t3 a1).bind fun t4 => (if (!t4) = true then ((vinculumlaw05_awake.f k).bind fun t5 => some t5) else ((crt_Parts.f k t1.1 t1.2 a1).bind fun t5 => ((crt_Join.f k t5.1 a1).bind fun t6 => (if t5.2 = 0 then (if t6.2.2 = 0 then ((bigint_Int_Cmp.f k t6.1 t6.2.1 t1.1 t1.2).bind fun t7 => (if t7 = 0 then ((vinculumlaw05_awake.f k).bind fun t8 => some t8) else some false)) else some false) else some false)))))) else ((vinculumlaw05_awake.f k).bind fun t3 => some t3))))))) : Option Bool) := by rw [vinculumlaw05_CrtBack.f_def]; kernel_rfl
end Go.Proofs.Yteoeacndpgomaaa.F
end
section
/-
  Plain numbers and words for this seat's laws: words of 64 bits, the model's sums and differences with carry, numbers as lists of words. No condition.
-/
namespace Go.Proofs.Yteoeacndpgomaaa.Pure
open Go.RowKit Go.Proofs.Yteoeacndpgomaaa.F Go.Proofs.YteoeacndpgomaaaW.PrintWords Go.Proofs.YteoeacndpgomaaaW.PrintLast Go.Proofs.YteoeacndpgomaaaW.PrintMore
set_option linter.unusedVariables false
set_option linter.unusedSimpArgs false

/-- A word. -/
def U (x : Int) : Prop := 0 ≤ x ∧ x < 18446744073709551616
/-- All are words. -/
def WF (l : List Int) : Prop := ∀ x ∈ l, U x
theorem U_of_wf {x : Int} (h : (Lit.int .u64 x).wf = true) : U x := by
  simp [Lit.wf, IntKind.min, IntKind.max, IntKind.signed, IntKind.bits] at h
  exact ⟨by omega, by omega⟩
theorem WF_of_wf {l : List Int} (h : ∀ x ∈ l, (Lit.int .u64 x).wf = true) : WF l := fun x hx => U_of_wf (h x hx)
theorem wu (x : Int) : IntKind.u64.wrap x = x % 18446744073709551616 := by rw [IntKind.wrap_u64]
theorem wu_of {x : Int} (h : U x) : IntKind.u64.wrap x = x := by have := h.1; have := h.2; rw [wu]; omega
theorem w64_of {x : Int} (h0 : -9223372036854775808 ≤ x) (h1 : x ≤ 9223372036854775807) : wrap64 x = x := by unfold wrap64; omega
theorem w64_nat {a : Nat} (h : a ≤ 1099511627780) : wrap64 (a : Int) = (a : Int) := w64_of (by omega) (by omega)
theorem w64_add {a b : Nat} (h : a + b ≤ 1099511627780) : wrap64 ((a : Int) + (b : Int)) = ((a + b : Nat) : Int) := by rw [w64_of (by omega) (by omega)]; omega
theorem w64_succ {a : Nat} (h : a ≤ 1099511627779) : wrap64 ((a : Int) + 1) = ((a + 1 : Nat) : Int) := by rw [w64_of (by omega) (by omega)]; omega
theorem w64_pred {a : Nat} (h : a ≤ 1099511627779) : wrap64 (((a + 1 : Nat) : Int) - 1) = (a : Int) := by rw [w64_of (by omega) (by omega)]; omega
theorem w64_dec {a : Nat} (h : a ≤ 1099511627779) : wrap64 ((a : Int) - 1) = (a : Int) - 1 := w64_of (by omega) (by omega)

/-! ### numbers as lists of words, the lowest one first -/
def nv : List Int → Nat
  | [] => 0
  | x :: xs => x.toNat + 18446744073709551616 * nv xs
theorem WF.nil : WF [] := fun x hx => by cases hx
theorem WF.head {x : Int} {l : List Int} (h : WF (x :: l)) : U x := h x (by simp)
theorem WF.tail {x : Int} {l : List Int} (h : WF (x :: l)) : WF l := fun y hy => h y (by simp [hy])
theorem WF.cons {x : Int} {l : List Int} (hx : U x) (h : WF l) : WF (x :: l) := fun y hy => by
  rcases List.mem_cons.1 hy with rfl | hy
  · exact hx
  · exact h y hy
theorem WF.append {a b : List Int} (ha : WF a) (hb : WF b) : WF (a ++ b) := fun x hx => by
  rcases List.mem_append.1 hx with h | h
  · exact ha x h
  · exact hb x h
theorem WF.take {l : List Int} (h : WF l) (n : Nat) : WF (l.take n) := fun x hx => h x (List.mem_of_mem_take hx)
theorem WF.drop {l : List Int} (h : WF l) (n : Nat) : WF (l.drop n) := fun x hx => h x (List.mem_of_mem_drop hx)
theorem WF.set {l : List Int} (h : WF l) (n : Nat) {v : Int} (hv : U v) : WF (l.set n v) := fun x hx => by
  rcases List.mem_or_eq_of_mem_set hx with hx | rfl
  · exact h x hx
  · exact hv
theorem WF.zeros (n : Nat) : WF (List.replicate n 0) := fun x hx => by
  have := List.eq_of_mem_replicate hx
  subst this
  exact ⟨by omega, by omega⟩
theorem rd_of {l : List Int} {i : Int} {n : Nat} (hn : i = n) (h : n < l.length) : rd l i = l[n] := by
  subst hn
  simp [rd, List.getD_eq_getElem?_getD, h]
theorem WF.get {l : List Int} (h : WF l) {n : Nat} (hn : n < l.length) : U l[n] := h _ (List.getElem_mem hn)
theorem WF.rdU {l : List Int} (h : WF l) (i : Int) : U (rd l i) := by
  by_cases hi : i.toNat < l.length
  · have e : rd l i = l[i.toNat] := by simp [rd, List.getD_eq_getElem?_getD, hi]
    rw [e]; exact h.get hi
  · have e : rd l i = 0 := by simp [rd, List.getD_eq_getElem?_getD, List.getElem?_eq_none (Nat.le_of_not_lt hi)]
    rw [e]; exact ⟨by omega, by omega⟩
theorem nv_append (a b : List Int) : nv (a ++ b) = nv a + 18446744073709551616 ^ a.length * nv b := by
  induction a with
  | nil => simp [nv]
  | cons x xs ih => simp only [List.cons_append, nv, ih, List.length_cons, Nat.pow_succ]; grind
theorem nv_zeros (n : Nat) : nv (List.replicate n 0) = 0 := by
  induction n with
  | zero => rfl
  | succ n ih => simp [List.replicate_succ, nv, ih]
theorem nv_lt {l : List Int} (h : WF l) : nv l < 18446744073709551616 ^ l.length := by
  induction l with
  | nil => simp [nv]
  | cons x xs ih =>
    have h1 := ih h.tail
    have h2 := h.head
    have := h2.1; have := h2.2
    simp only [nv, List.length_cons, Nat.pow_succ]
    have h3 : nv xs + 1 ≤ 18446744073709551616 ^ xs.length := h1
    have h4 := Nat.mul_le_mul_left 18446744073709551616 h3
    rw [Nat.mul_comm (18446744073709551616 ^ xs.length)]
    omega
theorem nv_set (l : List Int) (n : Nat) (v : Int) (hn : n < l.length) : nv (l.set n v) + l[n].toNat * 18446744073709551616 ^ n = nv l + v.toNat * 18446744073709551616 ^ n := by
  induction l generalizing n with
  | nil => simp at hn
  | cons x xs ih =>
    cases n with
    | zero => simp [nv]; omega
    | succ n =>
      have h1 := ih n (by simpa using hn)
      simp only [List.set_cons_succ, nv, List.getElem_cons_succ, Nat.pow_succ]
      grind
theorem nv_split (l : List Int) (n : Nat) (hn : n ≤ l.length) : nv l = nv (l.take n) + 18446744073709551616 ^ n * nv (l.drop n) := by
  have := nv_append (l.take n) (l.drop n)
  rw [List.take_append_drop, List.length_take, Nat.min_eq_left hn] at this
  exact this
theorem nv_take_succ (l : List Int) (n : Nat) (hn : n < l.length) : nv (l.take (n + 1)) = nv (l.take n) + 18446744073709551616 ^ n * l[n].toNat := by
  rw [List.take_succ_eq_append_getElem hn, nv_append, List.length_take, Nat.min_eq_left (by omega)]
  simp [nv]
theorem nv_drop (l : List Int) (n : Nat) (hn : n < l.length) : nv (l.drop n) = l[n].toNat + 18446744073709551616 * nv (l.drop (n + 1)) := by
  rw [List.drop_eq_getElem_cons hn]; rfl

/-- The words of a number. -/
def limbs (n : Nat) : List Int := if h : n = 0 then [] else ((n % 18446744073709551616 : Nat) : Int) :: limbs (n / 18446744073709551616)
termination_by n
decreasing_by omega
theorem limbs_zero : limbs 0 = [] := by rw [limbs]; simp
theorem limbs_pos {n : Nat} (h : n ≠ 0) : limbs n = ((n % 18446744073709551616 : Nat) : Int) :: limbs (n / 18446744073709551616) := by rw [limbs]; simp [h]
theorem nv_limbs (n : Nat) : nv (limbs n) = n := by
  induction n using Nat.strongRecOn with
  | _ n ih =>
    by_cases h : n = 0
    · subst h; rw [limbs_zero]; rfl
    · rw [limbs_pos h, nv, ih (n / 18446744073709551616) (by omega)]; omega
theorem limbs_WF (n : Nat) : WF (limbs n) := by
  induction n using Nat.strongRecOn with
  | _ n ih =>
    by_cases h : n = 0
    · subst h; rw [limbs_zero]; exact WF.nil
    · rw [limbs_pos h]; exact WF.cons ⟨by omega, by omega⟩ (ih _ (by omega))
/-- No word 0 at the end. -/
def Nz (l : List Int) : Prop := ∀ h : l ≠ [], l.getLast h ≠ 0
theorem Nz.nil : Nz [] := fun h => absurd rfl h
theorem nv_pos_of_Nz {l : List Int} (hw : WF l) (hz : Nz l) (hl : l ≠ []) : 0 < nv l := by
  induction l with
  | nil => exact absurd rfl hl
  | cons x xs ih =>
    simp only [nv]
    by_cases hx : xs = []
    · subst hx
      have h1 := hz hl
      simp at h1
      have := hw.head.1
      omega
    · have h1 := ih hw.tail (fun h => by have := hz (by simp); rwa [List.getLast_cons h] at this) hx
      omega
theorem limbs_of {l : List Int} (hw : WF l) (hz : Nz l) : l = limbs (nv l) := by
  induction l with
  | nil => rw [nv, limbs_zero]
  | cons x xs ih =>
    have hx := hw.head
    have := hx.1; have := hx.2
    have hp := nv_pos_of_Nz hw hz (by simp)
    have hz' : Nz xs := fun h => by have := hz (by simp); rwa [List.getLast_cons h] at this
    rw [limbs_pos (by omega)]
    simp only [nv]
    have e1 : (x.toNat + 18446744073709551616 * nv xs) % 18446744073709551616 = x.toNat := by omega
    have e2 : (x.toNat + 18446744073709551616 * nv xs) / 18446744073709551616 = nv xs := by omega
    rw [e1, e2, ← ih hw.tail hz', Int.toNat_of_nonneg hx.1]
theorem limbs_Nz (n : Nat) : Nz (limbs n) := by
  induction n using Nat.strongRecOn with
  | _ n ih =>
    by_cases h : n = 0
    · subst h; rw [limbs_zero]; exact Nz.nil
    · intro hne
      have e := limbs_pos h
      by_cases h2 : n / 18446744073709551616 = 0
      · have : limbs n = [((n % 18446744073709551616 : Nat) : Int)] := by rw [e, h2, limbs_zero]
        simp only [this, List.getLast_singleton]
        omega
      · have h3 : limbs (n / 18446744073709551616) ≠ [] := by rw [limbs_pos h2]; simp
        have h4 := ih _ (by omega) h3
        have : (limbs n).getLast hne = (limbs (n / 18446744073709551616)).getLast h3 := by simp only [e]; rw [List.getLast_cons h3]
        rw [this]; exact h4
theorem limbs_length_le {n m : Nat} (h : n < 18446744073709551616 ^ m) : (limbs n).length ≤ m := by
  induction m generalizing n with
  | zero => have : n = 0 := by simpa using h
            subst this; rw [limbs_zero]; simp
  | succ m ih =>
    by_cases h0 : n = 0
    · subst h0; rw [limbs_zero]; simp
    · rw [limbs_pos h0]
      have : n / 18446744073709551616 < 18446744073709551616 ^ m := by
        rw [Nat.pow_succ] at h
        exact Nat.div_lt_of_lt_mul (by rw [Nat.mul_comm]; exact h)
      have := ih this
      simp; omega
theorem limbs_inj {a b : Nat} (h : limbs a = limbs b) : a = b := by rw [← nv_limbs a, h, nv_limbs]
theorem limbs_eq_nil {n : Nat} : limbs n = [] ↔ n = 0 := ⟨fun h => by rw [← nv_limbs n, h]; rfl, fun h => by rw [h, limbs_zero]⟩
theorem limbs_length_pos {n : Nat} (h : n ≠ 0) : 0 < (limbs n).length := by rw [limbs_pos h]; simp
/-- How many words: the number is below. -/
theorem lt_pow_limbs (n : Nat) : n < 18446744073709551616 ^ (limbs n).length := by have := nv_lt (limbs_WF n); rwa [nv_limbs] at this
theorem pow_le_limbs {n : Nat} (h : n ≠ 0) : 18446744073709551616 ^ ((limbs n).length - 1) ≤ n := by
  induction n using Nat.strongRecOn with
  | _ n ih =>
    rw [limbs_pos h]
    by_cases h2 : n / 18446744073709551616 = 0
    · rw [h2, limbs_zero]; simp; omega
    · have h1 := ih _ (by omega) h2
      have h3 := limbs_length_pos h2
      simp only [List.length_cons, Nat.add_sub_cancel]
      have e : (limbs (n / 18446744073709551616)).length = ((limbs (n / 18446744073709551616)).length - 1) + 1 := by omega
      rw [e, Nat.pow_succ]
      have := Nat.mul_le_mul_right 18446744073709551616 h1
      omega
theorem limbs_length_mono {a b : Nat} (h : a ≤ b) : (limbs a).length ≤ (limbs b).length := limbs_length_le (Nat.lt_of_le_of_lt h (lt_pow_limbs b))
theorem limbs_take_last {n : Nat} (h : n ≠ 0) : ∃ (t : List Int) (x : Int), limbs n = t ++ [x] ∧ WF t ∧ U x ∧ x ≠ 0 := by
  have hne : limbs n ≠ [] := by rw [limbs_pos h]; simp
  refine ⟨(limbs n).dropLast, (limbs n).getLast hne, (List.dropLast_concat_getLast hne).symm, fun y hy => limbs_WF n y (List.dropLast_subset _ hy), limbs_WF n _ (List.getLast_mem hne), limbs_Nz n hne⟩
end Go.Proofs.Yteoeacndpgomaaa.Pure
end
section
/-
  Enough rounds, whatever the function that is called again. No condition.
-/
namespace Go.Proofs.Yteoeacndpgomaaa.Pure
open Go.RowKit Go.Proofs.Yteoeacndpgomaaa.F Go.Proofs.YteoeacndpgomaaaW.PrintWords Go.Proofs.YteoeacndpgomaaaW.PrintLast Go.Proofs.YteoeacndpgomaaaW.PrintMore
set_option linter.unusedVariables false
set_option linter.unusedSimpArgs false
section
variable {T α β : Type} {H : T → Prop}
/-- For enough rounds, for whatever R of that kind, g answers r. -/
def EvR (H : T → Prop) (g : T → Nat → Option α) (r : α) : Prop := ∃ k0, ∀ k, k0 ≤ k → ∀ R, H R → g R k = some r
theorem EvR.of {g : Nat → Option α} {r : α} (h : Ev g r) : EvR H (fun _ k => g k) r := by
  obtain ⟨k0, h0⟩ := h
  exact ⟨k0, fun k hk R _ => h0 k hk⟩
theorem EvR.now (r : α) : EvR H (fun _ _ => some r) r := ⟨0, fun _ _ _ _ => rfl⟩
theorem EvR.step {g g' : T → Nat → Option α} {r : α} (hs : ∀ R k, g R (k + 1) = g' R k) (h : EvR H g' r) : EvR H g r := by
  obtain ⟨k0, h0⟩ := h
  refine ⟨k0 + 1, fun k hk R hR => ?_⟩
  obtain ⟨j, rfl⟩ : ∃ j, k = j + 1 := ⟨k - 1, by omega⟩
  rw [hs]; exact h0 j (by omega) R hR
theorem EvR.congr {g g' : T → Nat → Option α} {r : α} (he : ∀ R, H R → ∀ k, g R k = g' R k) (h : EvR H g' r) : EvR H g r := by
  obtain ⟨k0, h0⟩ := h
  exact ⟨k0, fun k hk R hR => (he R hR k).trans (h0 k hk R hR)⟩
theorem EvR.bind {f : T → Nat → Option α} {c : T → Nat → α → Option β} {a : α} {r : β} (h1 : EvR H f a) (h2 : EvR H (fun R k => c R k a) r) : EvR H (fun R k => (f R k).bind (c R k)) r := by
  obtain ⟨k1, h1⟩ := h1
  obtain ⟨k2, h2⟩ := h2
  refine ⟨max k1 k2, fun k hk R hR => ?_⟩
  show (f R k).bind (c R k) = _
  rw [h1 k (by omega) R hR]
  exact h2 k (by omega) R hR
/-- The function itself, by rounds. -/
theorem EvR.fin {g : T → Nat → Option α} {r : α} {f : Nat → T} (h : EvR H g r) (hf : ∃ k0, ∀ k, k0 ≤ k → H (f k)) : Ev (fun k => g (f k) k) r := by
  obtain ⟨k1, h1⟩ := h
  obtain ⟨k2, h2⟩ := hf
  exact ⟨max k1 k2, fun k hk => h1 k (by omega) _ (h2 k (by omega))⟩
end
theorem Ev.pos {α : Type} {c : Prop} [Decidable c] {a b : Nat → Option α} {r : α} (h : c) (g : Ev a r) : Ev (fun k => if c then a k else b k) r := Ev.congr (fun k => if_pos h) g
theorem Ev.neg {α : Type} {c : Prop} [Decidable c] {a b : Nat → Option α} {r : α} (h : ¬ c) (g : Ev b r) : Ev (fun k => if c then a k else b k) r := Ev.congr (fun k => if_neg h) g
section
variable {T α : Type} {H : T → Prop}
theorem EvR.pos {c : Prop} [Decidable c] {a b : T → Nat → Option α} {r : α} (h : c) (g : EvR H a r) : EvR H (fun R k => if c then a R k else b R k) r := EvR.congr (fun R _ k => if_pos h) g
theorem EvR.neg {c : Prop} [Decidable c] {a b : T → Nat → Option α} {r : α} (h : ¬ c) (g : EvR H b r) : EvR H (fun R k => if c then a R k else b R k) r := EvR.congr (fun R _ k => if_neg h) g
end
theorem Ev.ret {α : Type} {a r : α} (h : a = r) : Ev (fun _ => some a) r := h ▸ Ev.now a
end Go.Proofs.Yteoeacndpgomaaa.Pure
end
section
/-
  Sums and differences of words with a carry, as the engine has them. Conditions: words; a carry of 0 or 1.
-/
namespace Go.Proofs.Yteoeacndpgomaaa.Pure
open Go.RowKit Go.Proofs.Yteoeacndpgomaaa.F Go.Proofs.YteoeacndpgomaaaW.PrintWords Go.Proofs.YteoeacndpgomaaaW.PrintLast Go.Proofs.YteoeacndpgomaaaW.PrintMore
open Go.Proofs.Yteoeacndpgomaaa.E (adS adC sbS sbC adS_eq adC_eq sbS_eq sbC_eq adS0 adC0 sbS0 sbC0)
set_option linter.unusedVariables false
set_option linter.unusedSimpArgs false
theorem adS_of {x y c : Int} (hx : 0 ≤ x) (hy : 0 ≤ y) (hc : 0 ≤ c) : adS x y c = (x + y + c) % 18446744073709551616 := by rw [adS_eq]; unfold adS0; omega
theorem adC_of {x y c : Int} (hx : 0 ≤ x) (hy : 0 ≤ y) (hc : 0 ≤ c) : adC x y c = (x + y + c) / 18446744073709551616 := by rw [adC_eq]; unfold adC0; omega
theorem sbS_of {x y c : Int} (hx : U x) (hy : U y) (hc : 0 ≤ c) (hc1 : c ≤ 1) : sbS x y c = (x - y - c) % 18446744073709551616 := by
  have := hx.1; have := hx.2; have := hy.1; have := hy.2; rw [sbS_eq]; unfold sbS0; omega
theorem sbC_of {x y c : Int} (hx : U x) (hy : U y) (hc : 0 ≤ c) (hc1 : c ≤ 1) : sbC x y c = if x < y + c then 1 else 0 := by
  have := hx.1; have := hx.2; have := hy.1; have := hy.2; rw [sbC_eq]; unfold sbC0
  by_cases h : x < y + c
  · rw [if_pos h, if_pos (by omega)]; rfl
  · rw [if_neg h, if_neg (by omega)]; rfl
/-- Sum and carry of words are the sum. -/
theorem ad_word {x y c : Int} (hx : U x) (hy : U y) (h0 : 0 ≤ c) (h1 : c ≤ 1) : U (adS x y c) ∧ 0 ≤ adC x y c ∧ adC x y c ≤ 1 ∧ x.toNat + y.toNat + c.toNat = (adS x y c).toNat + (adC x y c).toNat * 18446744073709551616 := by
  have := hx.1; have := hx.2; have := hy.1; have := hy.2
  have eS := adS_of hx.1 hy.1 h0
  have eC := adC_of hx.1 hy.1 h0
  rw [eS, eC]
  exact ⟨⟨by omega, by omega⟩, by omega, by omega, by omega⟩
end Go.Proofs.Yteoeacndpgomaaa.Pure
end
section
/-
  What package nat's trim, Norm, at, Cmp, Add compute (numbers as lists of words). Conditions: all are words, no list is longer than 2 to the 40th.
-/
namespace Go.Proofs.Yteoeacndpgomaaa.Pure
open Go.RowKit Go.Proofs.Yteoeacndpgomaaa.F Go.Proofs.YteoeacndpgomaaaW.PrintWords Go.Proofs.YteoeacndpgomaaaW.PrintLast Go.Proofs.YteoeacndpgomaaaW.PrintMore
open Go.Proofs.Yteoeacndpgomaaa.E (adS adC sbS sbC)
set_option linter.unusedVariables false
set_option linter.unusedSimpArgs false
theorem nv_take_rd (l : List Int) (i : Nat) : nv (l.take (i + 1)) = nv (l.take i) + 18446744073709551616 ^ i * (rd l i).toNat := by
  by_cases h : i < l.length
  · rw [nv_take_succ l i h, rd_of rfl h]
  · have e : rd l i = 0 := by simp [rd, List.getD_eq_getElem?_getD, List.getElem?_eq_none (Nat.le_of_not_lt h)]
    rw [List.take_of_length_le (by omega), List.take_of_length_le (by omega), e]; simp
theorem nv_set_take (l : List Int) (i : Nat) (v : Int) (h : i < l.length) : nv ((l.set i v).take (i + 1)) = nv (l.take i) + 18446744073709551616 ^ i * v.toNat := by
  rw [nv_take_rd, rd_of rfl (by simpa using h), List.take_set_of_le (by omega)]
  simp
theorem nv_take_all (l : List Int) {n : Nat} (h : l.length ≤ n) : nv (l.take n) = nv l := by rw [List.take_of_length_le h]
theorem rd_set_ne (l : List Int) (i j : Nat) (v : Int) (h : i ≠ j) : rd (l.set i v) j = rd l j := by
  simp [rd, List.getD_eq_getElem?_getD, List.getElem?_set, h]
theorem nv_limbs_length {l : List Int} (hw : WF l) : (limbs (nv l)).length ≤ l.length := limbs_length_le (nv_lt hw)
/-! ### trim, Norm, at -/
theorem trim_l2 {l : List Int} (hw : WF l) (hl : l.length ≤ 1099511627776) : ∀ n : Nat, n ≤ l.length → Ev (fun k => nat_trim.l2 k l (n : Int)) (limbs (nv (l.take n)))
  | 0, hn => Ev.step (fun k => nat_trim.l2_eq ..) (Ev.neg (by omega) (Ev.pos (by omega) (Ev.pos (by omega) (Ev.ret (by simp [nv, limbs_zero])))))
  | n + 1, hn => by
    refine Ev.step (fun k => nat_trim.l2_eq ..) ?_
    rw [w64_pred (show n ≤ 1099511627779 by omega), rd_of rfl (show n < l.length by omega)]
    refine Ev.pos (by omega) (Ev.pos (by omega) (Ev.pos (by omega) ?_))
    by_cases h0 : l[n] = 0
    · have g := trim_l2 hw hl n (by omega)
      rw [nv_take_succ l n (by omega), h0]
      refine Ev.pos rfl ?_
      simpa using g
    · refine Ev.neg h0 (Ev.pos (by omega) (Ev.pos (by omega) (Ev.ret ?_)))
      rw [Int.toNat_natCast]
      refine limbs_of (hw.take _) (fun hne => ?_)
      have : (l.take (n + 1)).getLast hne = l[n] := by
        rw [List.getLast_eq_getElem]
        simp [List.length_take, Nat.min_eq_left hn]
      rw [this]; exact h0
theorem trim_ev {l : List Int} (hw : WF l) (hl : l.length ≤ 1099511627776) : Ev (fun k => nat_trim.f k l) (limbs (nv l)) := by
  have g := trim_l2 hw hl l.length (Nat.le_refl _)
  rw [List.take_length] at g
  exact Ev.congr (fun k => nat_trim.f_eq ..) g
theorem trim_limbs {n : Nat} (hl : (limbs n).length ≤ 1099511627776) : Ev (fun k => nat_trim.f k (limbs n)) (limbs n) := by
  have := trim_ev (limbs_WF n) hl
  rwa [nv_limbs] at this
theorem norm_ev {l : List Int} (hw : WF l) (hl : l.length ≤ 1099511627776) : Ev (fun k => nat_Norm.f k l) (limbs (nv l)) := by
  have := nv_limbs_length hw
  exact Ev.congr (fun k => nat_Norm.f_eq ..) (Ev.bind (trim_ev hw hl) (Ev.pos (by simp; omega) (Ev.ret (by simp))))
theorem at_ev (l : List Int) (n : Nat) : Ev (fun k => nat_at.f k l (n : Int)) (rd l n) := by
  refine Ev.congr (fun k => nat_at.f_eq ..) ?_
  by_cases h : n < l.length
  · exact Ev.pos (by omega) (Ev.pos (by omega) (Ev.pos (by omega) (Ev.now _)))
  · refine Ev.neg (by omega) (Ev.ret ?_)
    simp [rd, List.getD_eq_getElem?_getD, List.getElem?_eq_none (Nat.le_of_not_lt h)]
/-! ### Cmp -/
def cmpI (a b : Nat) : Int := if a < b then -1 else if a = b then 0 else 1
theorem cmpI_add (a b c : Nat) : cmpI (a + c) (b + c) = cmpI a b := by unfold cmpI; simp
theorem cmp_l7 {x y : List Int} (hx : WF x) (hy : WF y) (hxy : x.length = y.length) (hl : x.length ≤ 1099511627776) : ∀ n : Nat, n ≤ x.length → Ev (fun k => nat_Cmp.l7 k x y ((n : Int) - 1)) (cmpI (nv (x.take n)) (nv (y.take n)))
  | 0, hn => Ev.step (fun k => nat_Cmp.l7_eq ..) (Ev.neg (by omega) (Ev.ret (by simp [cmpI, nv])))
  | n + 1, hn => by
    have g := cmp_l7 hx hy hxy hl n (by omega)
    have hn1 : n < x.length := hn
    have hn2 : n < y.length := hxy ▸ hn
    have e0 : ((n + 1 : Nat) : Int) - 1 = (n : Nat) := by omega
    have e1 : wrap64 ((n : Int) - 1) = (n : Int) - 1 := w64_of (by omega) (by omega)
    refine Ev.step (fun k => nat_Cmp.l7_eq ..) ?_
    rw [e0, e1, rd_of rfl hn1, rd_of rfl hn2, nv_take_succ x n hn1, nv_take_succ y n hn2]
    clear e1
    refine Ev.pos (by omega) (Ev.pos (by omega) (Ev.pos (by omega) (Ev.pos (by omega) (Ev.pos (by omega) ?_))))
    have b1 := nv_lt (hx.take n); have b2 := nv_lt (hy.take n)
    rw [List.length_take, Nat.min_eq_left (by omega)] at b1 b2
    have u1 := hx.get hn1; have u2 := hy.get hn2
    have := u1.1; have := u1.2; have := u2.1; have := u2.2
    generalize 18446744073709551616 ^ n = P at *
    generalize nv (x.take n) = a at *
    generalize nv (y.take n) = b at *
    generalize ep : x[n] = p at *
    generalize eq : y[n] = q at *
    by_cases h1 : p < q
    · refine Ev.pos h1 (Ev.ret ?_)
      have h2 : p.toNat + 1 ≤ q.toNat := by omega
      have h3 := Nat.mul_le_mul_left P h2
      have : a + P * p.toNat < b + P * q.toNat := by rw [Nat.mul_add] at h3; omega
      simp [cmpI, this]
    · refine Ev.neg h1 (Ev.pos (by omega) (Ev.pos (by omega) (Ev.pos (by omega) (Ev.pos (by omega) ?_))))
      by_cases h2 : p > q
      · refine Ev.pos h2 (Ev.ret ?_)
        have h2 : q.toNat + 1 ≤ p.toNat := by omega
        have h3 := Nat.mul_le_mul_left P h2
        have h4 : b + P * q.toNat < a + P * p.toNat := by rw [Nat.mul_add] at h3; omega
        have h5 : ¬ a + P * p.toNat < b + P * q.toNat := by omega
        have h6 : ¬ a + P * p.toNat = b + P * q.toNat := by omega
        simp [cmpI, h5, h6]
      · have e2 : p = q := by omega
        rw [e2, cmpI_add]
        exact Ev.neg (by omega) g
theorem cmp_ev {x y : List Int} (hx : WF x) (hy : WF y) (lx : x.length ≤ 1099511627776) (ly : y.length ≤ 1099511627776) : Ev (fun k => nat_Cmp.f k x y) (cmpI (nv x) (nv y)) := by
  refine Ev.congr (fun k => nat_Cmp.f_eq ..) (Ev.bind (trim_ev hx lx) (Ev.bind (trim_ev hy ly) ?_))
  have hla : (limbs (nv x)).length ≤ 1099511627776 := Nat.le_trans (nv_limbs_length hx) lx
  generalize nv x = a at *
  generalize nv y = b
  by_cases h1 : (limbs a).length < (limbs b).length
  · have h2 : a < b := by
      rcases Nat.lt_or_ge a b with h | h
      · exact h
      · have := limbs_length_mono h; omega
    exact Ev.pos (by omega) (Ev.ret (by simp [cmpI, h2]))
  · by_cases h2 : (limbs b).length < (limbs a).length
    · have h3 : b < a := by
        rcases Nat.lt_or_ge b a with h | h
        · exact h
        · have := limbs_length_mono h; omega
      have h4 : ¬ a < b := by omega
      have h5 : ¬ a = b := by omega
      exact Ev.neg (by omega) (Ev.pos (by omega) (Ev.ret (by simp [cmpI, h4, h5])))
    · have e : wrap64 (((limbs a).length : Int) - 1) = ((limbs a).length : Int) - 1 := w64_of (by omega) (by omega)
      have g := cmp_l7 (limbs_WF a) (limbs_WF b) (by omega) hla (limbs a).length (Nat.le_refl _)
      rw [List.take_length, List.take_of_length_le (by omega), nv_limbs, nv_limbs] at g
      rw [e]
      exact Ev.neg (by omega) (Ev.neg (by omega) g)
/-! ### Add -/
theorem add_l4 {x y : List Int} (hx : WF x) (hy : WF y) {m : Nat} (hm : m ≤ 1099511627776) (hlt : nv (x.take m) + nv (y.take m) < 18446744073709551616 ^ m) : ∀ (d i : Nat) (out : List Int) (c : Int), m - i = d → i ≤ m → out.length = m → WF out → 0 ≤ c → c ≤ 1 →
    nv (x.take i) + nv (y.take i) = nv (out.take i) + c.toNat * 18446744073709551616 ^ i →
    Ev (fun k => nat_Add.l4 k x y out c (m : Int) (i : Int)) (limbs (nv (x.take m) + nv (y.take m)))
  | 0, i, out, c, hd, hi, hl, hw, h0, h1, hv => by
    have : i = m := by omega
    subst this
    refine Ev.step (fun k => nat_Add.l4_eq ..) (Ev.neg (by omega) ?_)
    have hc : c.toNat = 0 := by
      rcases Nat.eq_zero_or_pos c.toNat with h | h
      · exact h
      · have h5 := Nat.le_mul_of_pos_left (18446744073709551616 ^ i) h
        rw [hv] at hlt
        exact absurd (Nat.le_trans h5 (Nat.le_add_left _ _)) (Nat.not_le.2 hlt)
    rw [hv, hc, List.take_of_length_le (by omega), Nat.zero_mul, Nat.add_zero]
    exact Ev.bind (trim_ev hw (by omega)) (Ev.now _)
  | d + 1, i, out, c, hd, hi, hl, hw, h0, h1, hv => by
    obtain ⟨uS, cc0, cc1, e3⟩ := ad_word (hx.rdU (i : Int)) (hy.rdU (i : Int)) h0 h1
    have g := add_l4 hx hy hm hlt d (i + 1) (out.set i (adS (rd x i) (rd y i) c)) (adC (rd x i) (rd y i) c) (by omega) (by omega) (by simpa using hl) (hw.set _ uS) cc0 cc1 (by
      rw [nv_take_rd, nv_take_rd, nv_set_take _ _ _ (by omega), Nat.pow_succ]
      generalize 18446744073709551616 ^ i = P at *
      have e4 := congrArg (P * ·) e3
      simp only [Nat.mul_add] at e4
      grind)
    rw [← w64_succ (a := i) (by omega)] at g
    refine Ev.step (fun k => nat_Add.l4_eq ..) (Ev.pos (by omega) (Ev.bind (at_ev x i) (Ev.bind (at_ev y i) (Ev.pos h1 (Ev.pos (by omega) (Ev.pos (by omega) ?_))))))
    rw [Int.toNat_natCast]
    exact g
theorem add_ev {x y : List Int} (hx : WF x) (hy : WF y) (lx : x.length ≤ 549755813888) (ly : y.length ≤ 549755813888) : Ev (fun k => nat_Add.f k x y) (limbs (nv x + nv y)) := by
  have main : ∀ m, m ≤ 549755813889 → x.length < m → y.length < m → Ev (fun k => nat_Add.l4 k x y (List.replicate m 0) 0 (m : Int) 0) (limbs (nv x + nv y)) := fun m hm h1 h2 => by
    have b1 := nv_lt hx; have b2 := nv_lt hy
    have p1 : 18446744073709551616 ^ x.length ≤ 18446744073709551616 ^ (m - 1) := Nat.pow_le_pow_right (by omega) (by omega)
    have p2 : 18446744073709551616 ^ y.length ≤ 18446744073709551616 ^ (m - 1) := Nat.pow_le_pow_right (by omega) (by omega)
    have p3 : 18446744073709551616 ^ m = 18446744073709551616 ^ (m - 1) * 18446744073709551616 := by rw [← Nat.pow_succ]; congr 1; omega
    have g := add_l4 hx hy (m := m) (by omega) (by rw [nv_take_all x (by omega), nv_take_all y (by omega)]; omega) m 0 (List.replicate m 0) 0 rfl (Nat.zero_le _) (by simp) (WF.zeros m) (by omega) (by omega) (by simp [nv])
    rwa [nv_take_all x (by omega), nv_take_all y (by omega)] at g
  refine Ev.congr (fun k => nat_Add.f_eq ..) ?_
  rw [w64_succ (by omega), w64_succ (by omega)]
  simp only [Int.toNat_natCast, List.length_replicate]
  by_cases h : (y.length : Int) > (x.length : Int)
  · exact Ev.pos h (Ev.pos (by omega) (Ev.pos (by omega) (main _ (by omega) (by omega) (by omega))))
  · exact Ev.neg h (Ev.pos (by omega) (Ev.pos (by omega) (main _ (by omega) (by omega) (by omega))))
end Go.Proofs.Yteoeacndpgomaaa.Pure
end
section
/-
  What math/bits.Mul64 computes. No condition.
-/
namespace Go.Proofs.Yteoeacndpgomaaa.Pure
open Go.RowKit Go.Proofs.Yteoeacndpgomaaa.F Go.Proofs.YteoeacndpgomaaaW.PrintWords Go.Proofs.YteoeacndpgomaaaW.PrintLast Go.Proofs.YteoeacndpgomaaaW.PrintMore
set_option linter.unusedVariables false
set_option linter.unusedSimpArgs false

/-! ### Mul64 -/
theorem maskN (a : Nat) (ha : a < 18446744073709551616) : Go.bits .and .u64 (a : Int) 4294967295 = ((a % 4294967296 : Nat) : Int) := by
  have h := bits_and_u64_nat a 4294967295 ha (by omega)
  have e : a &&& 4294967295 = a % 4294967296 := Nat.and_two_pow_sub_one_eq_mod a 32
  rw [e] at h
  exact h
theorem divN (a : Nat) : (a : Int) / 4294967296 = ((a / 4294967296 : Nat) : Int) := by omega
theorem mulN (a b : Nat) : (a : Int) * (b : Int) = ((a * b : Nat) : Int) := (Int.natCast_mul a b).symm
theorem addN (a b : Nat) : (a : Int) + (b : Int) = ((a + b : Nat) : Int) := (Int.natCast_add a b).symm
theorem wrapN (a : Nat) (ha : a < 18446744073709551616) : IntKind.u64.wrap (a : Int) = (a : Int) := by rw [wu]; omega
theorem wrapM (a : Nat) : IntKind.u64.wrap (a : Int) = ((a % 18446744073709551616 : Nat) : Int) := by rw [wu]; omega
theorem mul64_f (k : Nat) {x y : Nat} (hx : x < 18446744073709551616) (hy : y < 18446744073709551616) : bits_Mul64.f k (x : Int) (y : Int) = some (((x * y / 18446744073709551616 : Nat) : Int), ((x * y % 18446744073709551616 : Nat) : Int)) := by
  unfold bits_Mul64.f
  rw [isW_nat hx, isW_nat hy]
  simp only [Bool.and_self, if_true, Int.toNat_natCast]
theorem mul64_ev {x y : Nat} (hx : x < 18446744073709551616) (hy : y < 18446744073709551616) : Ev (fun k => bits_Mul64.f k (x : Int) (y : Int)) (((x * y / 18446744073709551616 : Nat) : Int), ((x * y % 18446744073709551616 : Nat) : Int)) := ⟨0, fun k _ => mul64_f k hx hy⟩
end Go.Proofs.Yteoeacndpgomaaa.Pure
end
section
/-
  What package nat's into and Mul compute (numbers as lists of words). Conditions: all are words, no list is longer than 2 to the 40th.
-/
namespace Go.Proofs.Yteoeacndpgomaaa.Pure
open Go.RowKit Go.Proofs.Yteoeacndpgomaaa.F Go.Proofs.YteoeacndpgomaaaW.PrintWords Go.Proofs.YteoeacndpgomaaaW.PrintLast Go.Proofs.YteoeacndpgomaaaW.PrintMore
open Go.Proofs.Yteoeacndpgomaaa.E (adS adC sbS sbC)
set_option linter.unusedVariables false
set_option linter.unusedSimpArgs false
theorem U_mul_le {v w : Int} (hv : U v) (hw : U w) : 0 ≤ v * w ∧ v * w ≤ 340282366920938463426481119284349108225 := by
  have := hv.1; have := hv.2; have := hw.1; have := hw.2
  refine ⟨Int.mul_nonneg hv.1 hw.1, ?_⟩
  have := Int.mul_le_mul (show v ≤ 18446744073709551615 by omega) (show w ≤ 18446744073709551615 by omega) hw.1 (by omega)
  omega
/-- One word of a sum, with what is carried. -/
theorem carry_step {a a' o s c c' P T : Nat} (e3 : o + c = s + c' * 18446744073709551616) (h1 : a' + o * P = a + s * P) (hv : a + c * P = T) : a' + c' * (P * 18446744073709551616) = T := by
  have e4 : o * P + c * P = s * P + c' * (P * 18446744073709551616) := by
    rw [← Nat.add_mul, e3, Nat.add_mul, Nat.mul_assoc, Nat.mul_comm 18446744073709551616 P]
  omega
theorem carry_step2 {a a' o c s c' P Q N x w v : Nat} (e3 : o + v * w + c = s + c' * 18446744073709551616) (h1 : a' + o * (Q * P) = a + s * (Q * P)) (hv : a + c * (Q * P) = N + w * x * Q) : a' + c' * (Q * P * 18446744073709551616) = N + w * (x + P * v) * Q := by
  have e4 : o * (Q * P) + v * w * (Q * P) + c * (Q * P) = s * (Q * P) + c' * (Q * P * 18446744073709551616) := by
    rw [← Nat.add_mul, ← Nat.add_mul, e3, Nat.add_mul, Nat.mul_assoc c', Nat.mul_comm 18446744073709551616]
  have e5 : w * (x + P * v) * Q = w * x * Q + v * w * (Q * P) := by grind
  rw [e5]; omega
theorem mul64 {v w : Int} (hv : U v) (hw : U w) : Ev (fun k => bits_Mul64.f k v w) (v * w / 18446744073709551616, v * w % 18446744073709551616) := by
  obtain ⟨a, rfl⟩ := Int.eq_ofNat_of_zero_le hv.1
  obtain ⟨b, rfl⟩ := Int.eq_ofNat_of_zero_le hw.1
  have h1 := hv.2; have h2 := hw.2
  have g := mul64_ev (x := a) (y := b) (by omega) (by omega)
  rw [Int.natCast_ediv, Int.natCast_emod, Int.natCast_mul] at g
  exact g
theorem into_l12 {T L : Nat} (hT : T < 18446744073709551616 ^ L) (hL : L ≤ 1099511627776) : ∀ (d j : Nat) (out : List Int) (c : Int), L - j = d → j ≤ L → out.length = L → WF out → U c → nv out + c.toNat * 18446744073709551616 ^ j = T →
    ∃ out' : List Int, WF out' ∧ out'.length = L ∧ nv out' = T ∧ Ev (fun k => nat_into.l12 k out c (j : Int)) out'
  | 0, j, out, c, hd, hj, hl, hw, hc, hv => by
    have : j = L := by omega
    subst this
    have := hc.1
    have h0 : c.toNat = 0 := by
      rcases Nat.eq_zero_or_pos c.toNat with h | h
      · exact h
      · have := Nat.mul_le_mul_right (18446744073709551616 ^ j) h; omega
    exact ⟨out, hw, hl, by rw [h0] at hv; omega, Ev.step (fun k => nat_into.l12_eq ..) (Ev.neg (by omega) (Ev.now _))⟩
  | d + 1, j, out, c, hd, hj, hl, hw, hc, hv => by
    have q1 : j < L := by omega
    have q4 : j < out.length := by omega
    have q5 : (j : Int) < (out.length : Int) := by omega
    have := hc.1; have := hc.2
    by_cases h0 : c > 0
    · have uo := hw.rdU (j : Int)
      have := uo.1; have := uo.2
      have eS := adS_of uo.1 hc.1 (Int.le_refl 0)
      have eC := adC_of uo.1 hc.1 (Int.le_refl 0)
      obtain ⟨out', hw', hl', hv', he⟩ := into_l12 hT hL d (j + 1) (out.set j (adS (rd out j) c 0)) (adC (rd out j) c 0) (by omega) (by omega) (by rw [List.length_set]; exact hl) (hw.set _ ⟨by rw [eS]; omega, by rw [eS]; omega⟩) ⟨by rw [eC]; omega, by rw [eC]; omega⟩ (by
        have h1 := nv_set out j (adS (rd out j) c 0) q4
        rw [← rd_of (l := out) (i := (j : Int)) rfl q4] at h1
        have e3 : (rd out j).toNat + c.toNat = (adS (rd out j) c 0).toNat + (adC (rd out j) c 0).toNat * 18446744073709551616 := by rw [eS, eC]; omega
        rw [Nat.pow_succ]
        exact carry_step e3 h1 hv)
      rw [← w64_succ (a := j) (by omega)] at he
      refine ⟨out', hw', hl', hv', Ev.step (fun k => nat_into.l12_eq ..) (Ev.pos h0 (Ev.pos (Int.natCast_nonneg j) (Ev.pos q5 (Ev.pos (Int.natCast_nonneg j) (Ev.pos q5 ?_)))))⟩
      rw [Int.toNat_natCast]
      exact he
    · have h0' : c.toNat = 0 := by omega
      exact ⟨out, hw, hl, by rw [h0'] at hv; omega, Ev.step (fun k => nat_into.l12_eq ..) (Ev.neg h0 (Ev.now _))⟩
/-- A product of two words and two words more fit into two words. -/
theorem mac_int (M o c lo c1 s c2 : Int) (m0 : 0 ≤ M) (m1 : M ≤ 340282366920938463426481119284349108225) (o0 : 0 ≤ o) (o1 : o < 18446744073709551616) (c0 : 0 ≤ c) (cl : c < 18446744073709551616)
    (e1 : lo = (M % 18446744073709551616 + c) % 18446744073709551616) (e2 : c1 = (M % 18446744073709551616 + c) / 18446744073709551616) (e3 : s = (o + lo) % 18446744073709551616) (e4 : c2 = (o + lo) / 18446744073709551616) :
    o + M + c = s + (M / 18446744073709551616 + c1 + c2) * 18446744073709551616 ∧ 0 ≤ M / 18446744073709551616 + c1 + c2 ∧ M / 18446744073709551616 + c1 + c2 < 18446744073709551616 ∧ 0 ≤ s ∧ s < 18446744073709551616 ∧ 0 ≤ c1 ∧ 0 ≤ c2 ∧ 0 ≤ lo := by
  have h1 := Int.mul_ediv_add_emod M 18446744073709551616
  have h2 := Int.emod_nonneg M (show (18446744073709551616 : Int) ≠ 0 by decide)
  have h3 := Int.emod_lt_of_pos M (show (0 : Int) < 18446744073709551616 by decide)
  generalize M / 18446744073709551616 = h at *
  generalize M % 18446744073709551616 = l at *
  have f1 : l + c = lo + c1 * 18446744073709551616 := by omega
  have f2 : o + lo = s + c2 * 18446744073709551616 := by omega
  have f3 : 0 ≤ c1 := by omega
  have f4 : 0 ≤ lo := by omega
  have f5 : 0 ≤ c2 := by omega
  have f6 : 0 ≤ s ∧ s < 18446744073709551616 := by omega
  clear e1 e2 e3 e4
  have f7 : o + M + c = s + (h + c1 + c2) * 18446744073709551616 := by omega
  exact ⟨f7, by omega, by omega, f6.1, f6.2, f3, f5, f4⟩
theorem mac {v w o c : Int} (hv : U v) (hw : U w) (ho : U o) (hc : U c) :
    IntKind.u64.wrap (IntKind.u64.wrap (v * w / 18446744073709551616 + adC (v * w % 18446744073709551616) c 0) + adC o (adS (v * w % 18446744073709551616) c 0) 0) = v * w / 18446744073709551616 + adC (v * w % 18446744073709551616) c 0 + adC o (adS (v * w % 18446744073709551616) c 0) 0 ∧
    U (v * w / 18446744073709551616 + adC (v * w % 18446744073709551616) c 0 + adC o (adS (v * w % 18446744073709551616) c 0) 0) ∧ U (adS o (adS (v * w % 18446744073709551616) c 0) 0) ∧
    o.toNat + v.toNat * w.toNat + c.toNat = (adS o (adS (v * w % 18446744073709551616) c 0) 0).toNat + (v * w / 18446744073709551616 + adC (v * w % 18446744073709551616) c 0 + adC o (adS (v * w % 18446744073709551616) c 0) 0).toNat * 18446744073709551616 := by
  obtain ⟨m0, m1⟩ := U_mul_le hv hw
  have e5 : (v * w).toNat = v.toNat * w.toNat := Int.toNat_mul hv.1 hw.1
  rw [← e5]
  generalize v * w = M at *
  have lo0 : 0 ≤ M % 18446744073709551616 := Int.emod_nonneg M (by decide)
  have eS := adS_of lo0 hc.1 (Int.le_refl 0)
  have eC := adC_of lo0 hc.1 (Int.le_refl 0)
  rw [Int.add_zero] at eS eC
  generalize hlo : adS (M % 18446744073709551616) c 0 = lo at *
  generalize hc1 : adC (M % 18446744073709551616) c 0 = c1 at *
  have lo1 : 0 ≤ lo := by rw [eS]; exact Int.emod_nonneg _ (by decide)
  have eS2 := adS_of ho.1 lo1 (Int.le_refl 0)
  have eC2 := adC_of ho.1 lo1 (Int.le_refl 0)
  rw [Int.add_zero] at eS2 eC2
  generalize hs : adS o lo 0 = s at *
  generalize hc2 : adC o lo 0 = c2 at *
  obtain ⟨f7, f8, f9, f10, f11, f12, f13, f14⟩ := mac_int M o c lo c1 s c2 m0 m1 ho.1 ho.2 hc.1 hc.2 eS eC eS2 eC2
  have h2 := Int.ediv_nonneg m0 (show (0 : Int) ≤ 18446744073709551616 by decide)
  clear eS eC eS2 eC2 hlo hc1 hs hc2 hv hw
  generalize M / 18446744073709551616 = h at *
  have := ho.1; have := hc.1
  refine ⟨?_, ⟨f8, f9⟩, ⟨f10, f11⟩, by omega⟩
  rw [wu_of (x := h + c1) ⟨by omega, by omega⟩, wu_of ⟨f8, f9⟩]
theorem into_l2 {x : List Int} {w : Int} {p L N0 : Nat} (hx : WF x) (hw0 : U w) (hT : N0 + w.toNat * nv x * 18446744073709551616 ^ p < 18446744073709551616 ^ L) (hL : L ≤ 1099511627776) (hpl : p + x.length ≤ L) : ∀ (d i : Nat) (out : List Int) (c : Int), x.length - i = d → i ≤ x.length → out.length = L → WF out → U c →
    nv out + c.toNat * 18446744073709551616 ^ (p + i) = N0 + w.toNat * nv (x.take i) * 18446744073709551616 ^ p →
    ∃ out' : List Int, WF out' ∧ out'.length = L ∧ nv out' = N0 + w.toNat * nv x * 18446744073709551616 ^ p ∧ Ev (fun k => nat_into.l2 k out x w (p : Int) c x (x.length : Int) (i : Int)) out'
  | 0, i, out, c, hd, hi, hl, hw, hc, hv => by
    have : i = x.length := by omega
    subst this
    rw [List.take_length] at hv
    obtain ⟨out', hw', hl', hv', he⟩ := into_l12 hT hL (L - (p + x.length)) (p + x.length) out c rfl hpl hl hw hc hv
    have e1 : wrap64 ((p : Int) + (x.length : Int)) = ((p + x.length : Nat) : Int) := w64_add (Nat.le_trans hpl (Nat.le_trans hL (by decide)))
    refine ⟨out', hw', hl', hv', Ev.step (fun k => nat_into.l2_eq ..) (Ev.neg (Int.lt_irrefl _) ?_)⟩
    rw [e1]
    exact he
  | d + 1, i, out, c, hd, hi, hl, hw, hc, hv => by
    have q1 : i < x.length := by omega
    have q4 : p + i < out.length := by omega
    have q5 : ((p + i : Nat) : Int) < (out.length : Int) := by omega
    have q7 : (i : Int) < (x.length : Int) := by omega
    have q9 : p + i ≤ 1099511627776 := Nat.le_trans (Nat.le_of_lt (hl ▸ q4)) hL
    have q2 : x.length - (i + 1) = d := by omega
    have e1 : wrap64 ((i : Int) + 1) = ((i + 1 : Nat) : Int) := w64_succ (Nat.le_trans (Nat.le_add_left i p) (Nat.le_trans q9 (by decide)))
    have e2 : wrap64 ((p : Int) + (i : Int)) = ((p + i : Nat) : Int) := w64_add (Nat.le_trans q9 (by decide))
    have ux := hx.rdU (i : Int); have uo := hw.rdU ((p + i : Nat) : Int)
    obtain ⟨ew, uc, us, e3⟩ := mac ux hw0 uo hc
    have gm := mul64 ux hw0
    generalize hs : adS (rd out ((p + i : Nat) : Int)) (adS (rd x i * w % 18446744073709551616) c 0) 0 = s at *
    generalize hcc : rd x i * w / 18446744073709551616 + adC (rd x i * w % 18446744073709551616) c 0 + adC (rd out ((p + i : Nat) : Int)) (adS (rd x i * w % 18446744073709551616) c 0) 0 = cc at *
    obtain ⟨out', hw', hl', hv', he⟩ := into_l2 hx hw0 hT hL hpl d (i + 1) (out.set (p + i) s) cc q2 q1 (by rw [List.length_set]; exact hl) (hw.set _ us) uc (by
      have h1 := nv_set out (p + i) s q4
      rw [← rd_of (l := out) (i := ((p + i : Nat) : Int)) rfl q4] at h1
      rw [nv_take_rd]
      have e6 : 18446744073709551616 ^ (p + (i + 1)) = 18446744073709551616 ^ (p + i) * 18446744073709551616 := by rw [← Nat.add_assoc, Nat.pow_succ]
      have e7 : 18446744073709551616 ^ (p + i) = 18446744073709551616 ^ p * 18446744073709551616 ^ i := Nat.pow_add _ _ _
      rw [e6, e7]
      rw [e7] at h1 hv
      exact carry_step2 e3 h1 hv)
    refine ⟨out', hw', hl', hv', Ev.step (fun k => nat_into.l2_eq ..) (Ev.pos q7 (Ev.pos (Int.natCast_nonneg i) (Ev.pos q7 (Ev.bind gm ?_))))⟩
    rw [e2]
    refine Ev.pos (Int.natCast_nonneg (p + i)) (Ev.pos q5 (Ev.pos (Int.natCast_nonneg (p + i)) (Ev.pos q5 ?_)))
    rw [hs, ew, e1, Int.toNat_natCast]
    exact he
theorem mul_l4 {x y : List Int} (hx : WF x) (hy : WF y) {L : Nat} (hL : L = x.length + y.length + 1) (hL2 : L ≤ 1099511627776) : ∀ (d i : Nat) (out : List Int), y.length - i = d → i ≤ y.length → out.length = L → WF out → nv out = nv x * nv (y.take i) →
    Ev (fun k => nat_Mul.l4 k x out y (y.length : Int) (i : Int)) (limbs (nv x * nv y))
  | 0, i, out, hd, hi, hl, hw, hv => by
    have : i = y.length := by omega
    subst this
    rw [List.take_length] at hv
    refine Ev.step (fun k => nat_Mul.l4_eq ..) (Ev.neg (by omega) ?_)
    rw [← hv]
    exact Ev.bind (trim_ev hw (by omega)) (Ev.now _)
  | d + 1, i, out, hd, hi, hl, hw, hv => by
    have q1 : i < y.length := by omega
    have q5 : (i : Int) < (y.length : Int) := by omega
    have q6 : i + x.length ≤ L := by omega
    have q8 : x.length + y.length < L := by omega
    have e1 : wrap64 ((i : Int) + 1) = ((i + 1 : Nat) : Int) := w64_succ (by omega)
    have uy := hy.rdU (i : Int)
    have hb : nv out + (rd y i).toNat * nv x * 18446744073709551616 ^ i = nv x * nv (y.take (i + 1)) := by
      rw [hv, nv_take_rd]; grind
    have hlt : nv x * nv (y.take (i + 1)) < 18446744073709551616 ^ L := by
      have a1 := nv_lt hx; have a2 := nv_lt (hy.take (i + 1))
      rw [List.length_take, Nat.min_eq_left q1] at a2
      have a3 : 18446744073709551616 ^ (i + 1) ≤ 18446744073709551616 ^ y.length := Nat.pow_le_pow_right (by decide) q1
      have a4 := Nat.mul_le_mul (Nat.le_of_lt a1) (Nat.le_of_lt (Nat.lt_of_lt_of_le a2 a3))
      rw [← Nat.pow_add] at a4
      have a5 : 18446744073709551616 ^ (x.length + y.length) < 18446744073709551616 ^ L := Nat.pow_lt_pow_right (by decide) q8
      exact Nat.lt_of_le_of_lt a4 a5
    obtain ⟨o1, hw1, hl1, hv1, he1⟩ := into_l2 (p := i) (N0 := nv out) hx uy (by rw [hb]; exact hlt) hL2 q6 x.length 0 out 0 (Nat.sub_zero _) (Nat.zero_le _) hl hw ⟨by decide, by decide⟩ (by simp [nv])
    have g := mul_l4 hx hy hL hL2 d (i + 1) o1 (by omega) q1 hl1 hw1 (by rw [hv1, hb])
    rw [← e1] at g
    exact Ev.step (fun k => nat_Mul.l4_eq ..) (Ev.pos q5 (Ev.pos (Int.natCast_nonneg i) (Ev.pos q5 (Ev.bind (Ev.congr (fun k => nat_into.f_eq ..) he1) g))))
theorem mul_ev {x y : List Int} (hx : WF x) (hy : WF y) (lx : x.length ≤ 274877906944) (ly : y.length ≤ 274877906944) : Ev (fun k => nat_Mul.f k x y) (limbs (nv x * nv y)) := by
  refine Ev.congr (fun k => nat_Mul.f_eq ..) (Ev.bind (trim_ev hx (by omega)) (Ev.bind (trim_ev hy (by omega)) ?_))
  have la := nv_limbs_length hx; have lb := nv_limbs_length hy
  generalize nv x = a at *
  generalize nv y = b at *
  have e0 : wrap64 ((wrap64 (((limbs a).length : Int) + ((limbs b).length : Int))) + 1) = (((limbs a).length + (limbs b).length + 1 : Nat) : Int) := by
    rw [w64_of (x := ((limbs a).length : Int) + ((limbs b).length : Int)) (by omega) (by omega), w64_of (by omega) (by omega)]; omega
  generalize hm : (limbs a).length + (limbs b).length + 1 = L at e0
  have g := mul_l4 (limbs_WF a) (limbs_WF b) hm.symm (by omega) (limbs b).length 0 (List.replicate L 0) rfl (Nat.zero_le _) (by simp) (WF.zeros L) (by simp [nv, nv_zeros])
  rw [nv_limbs, nv_limbs] at g
  rw [e0, Int.toNat_natCast]
  exact Ev.pos (by omega) (Ev.pos (by omega) g)
end Go.Proofs.Yteoeacndpgomaaa.Pure
end
section
/-
  What package nat's less and Sub compute; sums, products, differences of short numbers. Condition: no list is longer than 1000.
-/
namespace Go.Proofs.Yteoeacndpgomaaa.Pure
open Go.RowKit Go.Proofs.Yteoeacndpgomaaa.F Go.Proofs.YteoeacndpgomaaaW.PrintWords Go.Proofs.YteoeacndpgomaaaW.PrintLast Go.Proofs.YteoeacndpgomaaaW.PrintMore
open Go.Proofs.Yteoeacndpgomaaa.E (adS adC sbS sbC)
set_option linter.unusedVariables false
set_option linter.unusedSimpArgs false
theorem lent_step {a b o p q s c c' P : Nat} (e3 : p + c' * 18446744073709551616 = q + c + s) (hv : a + c * P = o + b) : a + P * p + c' * (P * 18446744073709551616) = o + P * s + (b + P * q) := by
  have e4 : P * p + c' * (P * 18446744073709551616) = P * q + c * P + P * s := by
    have := congrArg (P * ·) e3
    simp only [Nat.mul_add] at this
    rw [Nat.mul_comm c P, ← this, Nat.mul_comm P (c' * _), Nat.mul_assoc, Nat.mul_comm 18446744073709551616 P]
  omega
theorem sb_word {x y c : Int} (hx : U x) (hy : U y) (h0 : 0 ≤ c) (h1 : c ≤ 1) : U (sbS x y c) ∧ 0 ≤ sbC x y c ∧ sbC x y c ≤ 1 ∧ x.toNat + (sbC x y c).toNat * 18446744073709551616 = y.toNat + c.toNat + (sbS x y c).toNat := by
  rw [sbS_of hx hy h0 h1, sbC_of hx hy h0 h1]
  have := hx.1; have := hx.2; have := hy.1; have := hy.2
  by_cases h : x < y + c
  · rw [if_pos h]
    refine ⟨⟨by omega, by omega⟩, by omega, by omega, by omega⟩
  · rw [if_neg h]
    refine ⟨⟨by omega, by omega⟩, by omega, by omega, by omega⟩
theorem less_l4 {x y : List Int} (hx : WF x) (hy : WF y) (hl : x.length ≤ 1099511627776) (hyx : y.length ≤ x.length) (hle : nv y ≤ nv x) : ∀ (d i : Nat) (out : List Int) (c : Int), x.length - i = d → i ≤ x.length → out.length = x.length → WF out → 0 ≤ c → c ≤ 1 →
    nv (x.take i) + c.toNat * 18446744073709551616 ^ i = nv (out.take i) + nv (y.take i) →
    Ev (fun k => nat_less.l4 k x y out c (x.length : Int) (i : Int)) (limbs (nv x - nv y))
  | 0, i, out, c, hd, hi, ho, hw, h0, h1, hv => by
    have : i = x.length := by omega
    subst this
    rw [List.take_length, List.take_of_length_le (Nat.le_of_eq ho), List.take_of_length_le hyx] at hv
    have b3 := nv_lt hw
    rw [ho] at b3
    have hc : c.toNat = 0 := by
      rcases Nat.eq_zero_or_pos c.toNat with h | h
      · exact h
      · have h5 := Nat.le_mul_of_pos_left (18446744073709551616 ^ x.length) h
        omega
    rw [hc, Nat.zero_mul, Nat.add_zero] at hv
    rw [Nat.sub_eq_of_eq_add hv]
    exact Ev.step (fun k => nat_less.l4_eq ..) (Ev.neg (Int.lt_irrefl _) (Ev.bind (trim_ev hw (ho.symm ▸ hl)) (Ev.now _)))
  | d + 1, i, out, c, hd, hi, ho, hw, h0, h1, hv => by
    have q1 : i < x.length := by omega
    have q5 : (i : Int) < (x.length : Int) := by omega
    have q6 : (i : Int) < (out.length : Int) := by omega
    have q2 : x.length - (i + 1) = d := by omega
    have q8 : i < out.length := by omega
    have e1 : wrap64 ((i : Int) + 1) = ((i + 1 : Nat) : Int) := w64_succ (Nat.le_trans (Nat.le_of_lt q1) (Nat.le_trans hl (by decide)))
    obtain ⟨us, c0, c1, e3⟩ := sb_word (hx.rdU (i : Int)) (hy.rdU (i : Int)) h0 h1
    have g := less_l4 hx hy hl hyx hle d (i + 1) (out.set i (sbS (rd x i) (rd y i) c)) (sbC (rd x i) (rd y i) c) q2 q1 (by rw [List.length_set]; exact ho) (hw.set _ us) c0 c1 (by
      rw [nv_set_take _ _ _ q8, nv_take_rd x, nv_take_rd y, Nat.pow_succ]
      exact lent_step e3 hv)
    rw [← e1] at g
    refine Ev.step (fun k => nat_less.l4_eq ..) (Ev.pos q5 (Ev.pos (Int.natCast_nonneg i) (Ev.pos q5 (Ev.bind (at_ev y i) (Ev.pos h1 (Ev.pos (Int.natCast_nonneg i) (Ev.pos q6 ?_)))))))
    rw [Int.toNat_natCast]
    exact g
theorem less_ev {x y : List Int} (hx : WF x) (hy : WF y) (lx : x.length ≤ 274877906944) (hyx : y.length ≤ x.length) (hle : nv y ≤ nv x) : Ev (fun k => nat_less.f k x y) (limbs (nv x - nv y)) := by
  have g := less_l4 hx hy (by omega) hyx hle x.length 0 (List.replicate x.length 0) 0 rfl (Nat.zero_le _) (by simp) (WF.zeros _) (by omega) (by omega) (by simp [nv])
  refine Ev.congr (fun k => nat_less.f_eq ..) ?_
  rw [Int.toNat_natCast, List.length_replicate]
  exact Ev.pos (Int.natCast_nonneg _) (Ev.pos (by omega) g)
theorem lessL {a b : Nat} (ha : (limbs a).length ≤ 1000) (h : b ≤ a) : Ev (fun k => nat_less.f k (limbs a) (limbs b)) (limbs (a - b)) := by
  have := less_ev (limbs_WF a) (limbs_WF b) (Nat.le_trans ha (by decide)) (limbs_length_mono h) (by rw [nv_limbs, nv_limbs]; exact h)
  rwa [nv_limbs, nv_limbs] at this
theorem cmpI_lt {a b : Nat} : cmpI a b < 0 ↔ a < b := by
  unfold cmpI
  by_cases h : a < b
  · rw [if_pos h]; simp [h]
  · rw [if_neg h]
    by_cases h2 : a = b
    · rw [if_pos h2]; simp [h]
    · rw [if_neg h2]; simp [h]
theorem sub_ev {x y : List Int} (hx : WF x) (hy : WF y) (lx : x.length ≤ 1000) (ly : y.length ≤ 1000) : Ev (fun k => nat_Sub.f k x y) (if nv x < nv y then ([], 1) else (limbs (nv x - nv y), 0)) := by
  refine Ev.congr (fun k => nat_Sub.f_eq ..) (Ev.bind (trim_ev hx (Nat.le_trans lx (by decide))) (Ev.bind (trim_ev hy (Nat.le_trans ly (by decide))) ?_))
  have h1 := limbs_length_le (nv_lt hx)
  have h2 := limbs_length_le (nv_lt hy)
  have c := cmp_ev (limbs_WF (nv x)) (limbs_WF (nv y)) (by omega) (by omega)
  rw [nv_limbs, nv_limbs] at c
  refine Ev.bind c ?_
  by_cases h : nv x < nv y
  · rw [if_pos h]
    exact Ev.pos (cmpI_lt.2 h) (Ev.now _)
  · rw [if_neg h]
    exact Ev.neg (fun h4 => h (cmpI_lt.1 h4)) (Ev.bind (lessL (by omega) (by omega)) (Ev.now _))
theorem sml {l : List Int} {n m : Nat} (h : l.length ≤ n) (hn : n ≤ m) : l.length ≤ m := Nat.le_trans h hn
theorem limbs_sml {n : Nat} {m : Nat} (h : n < 18446744073709551616 ^ m) (hm : m ≤ 1000) : (limbs n).length ≤ 1000 := Nat.le_trans (limbs_length_le h) hm
theorem addL {a b : Nat} (ha : (limbs a).length ≤ 1000) (hb : (limbs b).length ≤ 1000) : Ev (fun k => nat_Add.f k (limbs a) (limbs b)) (limbs (a + b)) := by
  have := add_ev (limbs_WF a) (limbs_WF b) (Nat.le_trans ha (by decide)) (Nat.le_trans hb (by decide))
  rwa [nv_limbs, nv_limbs] at this
theorem addX {l : List Int} (hw : WF l) {b : Nat} (ha : l.length ≤ 1000) (hb : (limbs b).length ≤ 1000) : Ev (fun k => nat_Add.f k l (limbs b)) (limbs (nv l + b)) := by
  have := add_ev hw (limbs_WF b) (Nat.le_trans ha (by decide)) (Nat.le_trans hb (by decide))
  rwa [nv_limbs] at this
theorem addY {l : List Int} (hw : WF l) {b : Nat} (ha : l.length ≤ 1000) (hb : (limbs b).length ≤ 1000) : Ev (fun k => nat_Add.f k (limbs b) l) (limbs (b + nv l)) := by
  have := add_ev (limbs_WF b) hw (Nat.le_trans hb (by decide)) (Nat.le_trans ha (by decide))
  rwa [nv_limbs] at this
theorem addXX {x y : List Int} (hx : WF x) (hy : WF y) (lx : x.length ≤ 1000) (ly : y.length ≤ 1000) : Ev (fun k => nat_Add.f k x y) (limbs (nv x + nv y)) := add_ev hx hy (Nat.le_trans lx (by decide)) (Nat.le_trans ly (by decide))
/-- Two numbers that are one. -/
theorem cmpL {a b : Nat} (h : a = b) (ha : (limbs a).length ≤ 1000) : Ev (fun k => nat_Cmp.f k (limbs a) (limbs b)) 0 := by
  subst h
  have := cmp_ev (limbs_WF a) (limbs_WF a) (Nat.le_trans ha (by decide)) (Nat.le_trans ha (by decide))
  rw [nv_limbs] at this
  simpa [cmpI] using this
theorem len_add {a b p q : Nat} (ha : a < 18446744073709551616 ^ p) (hb : b < 18446744073709551616 ^ q) (h : p + q + 1 ≤ 1000) : (limbs (a + b)).length ≤ 1000 := by
  refine Nat.le_trans (limbs_length_le (m := p + q + 1) ?_) h
  have h1 : 18446744073709551616 ^ p ≤ 18446744073709551616 ^ (p + q) := Nat.pow_le_pow_right (by decide) (Nat.le_add_right p q)
  have h2 : 18446744073709551616 ^ q ≤ 18446744073709551616 ^ (p + q) := Nat.pow_le_pow_right (by decide) (Nat.le_add_left q p)
  have h3 : 18446744073709551616 ^ (p + q + 1) = 18446744073709551616 ^ (p + q) * 18446744073709551616 := Nat.pow_succ _ _
  generalize 18446744073709551616 ^ (p + q + 1) = A at *
  generalize 18446744073709551616 ^ (p + q) = B at *
  generalize 18446744073709551616 ^ p = C at *
  generalize 18446744073709551616 ^ q = D at *
  omega
theorem len_mul {a b p q : Nat} (ha : a < 18446744073709551616 ^ p) (hb : b < 18446744073709551616 ^ q) (h : p + q ≤ 1000) : (limbs (a * b)).length ≤ 1000 := by
  refine Nat.le_trans (limbs_length_le (m := p + q) ?_) h
  rw [Nat.pow_add]
  exact Nat.mul_lt_mul'' ha hb
theorem pow_up {a p q : Nat} (ha : a < 18446744073709551616 ^ p) (h : p ≤ q) : a < 18446744073709551616 ^ q := Nat.lt_of_lt_of_le ha (Nat.pow_le_pow_right (by decide) h)
theorem lt_add {a b p : Nat} (ha : a < 18446744073709551616 ^ p) (hb : b < 18446744073709551616 ^ p) : a + b < 18446744073709551616 ^ (p + 1) := by
  rw [Nat.pow_succ]
  generalize 18446744073709551616 ^ p = C at *
  omega
theorem lt_mul {a b p q : Nat} (ha : a < 18446744073709551616 ^ p) (hb : b < 18446744073709551616 ^ q) : a * b < 18446744073709551616 ^ (p + q) := by
  rw [Nat.pow_add]; exact Nat.mul_lt_mul'' ha hb

theorem mulX {l : List Int} (hw : WF l) {b : Nat} (ha : l.length ≤ 1000) (hb : (limbs b).length ≤ 1000) : Ev (fun k => nat_Mul.f k l (limbs b)) (limbs (nv l * b)) := by
  have := mul_ev hw (limbs_WF b) (Nat.le_trans ha (by decide)) (Nat.le_trans hb (by decide))
  rwa [nv_limbs] at this
theorem mulY {l : List Int} (hw : WF l) {b : Nat} (ha : l.length ≤ 1000) (hb : (limbs b).length ≤ 1000) : Ev (fun k => nat_Mul.f k (limbs b) l) (limbs (b * nv l)) := by
  have := mul_ev (limbs_WF b) hw (Nat.le_trans hb (by decide)) (Nat.le_trans ha (by decide))
  rwa [nv_limbs] at this
theorem mulXX {x y : List Int} (hx : WF x) (hy : WF y) (lx : x.length ≤ 1000) (ly : y.length ≤ 1000) : Ev (fun k => nat_Mul.f k x y) (limbs (nv x * nv y)) := mul_ev hx hy (Nat.le_trans lx (by decide)) (Nat.le_trans ly (by decide))
theorem mulL {a b : Nat} (ha : (limbs a).length ≤ 1000) (hb : (limbs b).length ≤ 1000) : Ev (fun k => nat_Mul.f k (limbs a) (limbs b)) (limbs (a * b)) := by
  have := mul_ev (limbs_WF a) (limbs_WF b) (Nat.le_trans ha (by decide)) (Nat.le_trans hb (by decide))
  rwa [nv_limbs, nv_limbs] at this
end Go.Proofs.Yteoeacndpgomaaa.Pure
end
section
/-
  How many bits a word has: Len64, LeadingZeros64. No condition.
-/
namespace Go.Proofs.Yteoeacndpgomaaa.Pure
open Go.RowKit Go.Proofs.Yteoeacndpgomaaa.F Go.Proofs.YteoeacndpgomaaaW.PrintWords Go.Proofs.YteoeacndpgomaaaW.PrintLast Go.Proofs.YteoeacndpgomaaaW.PrintMore
set_option linter.unusedVariables false
set_option linter.unusedSimpArgs false

/-- How many bits. -/
def bits (n : Nat) : Nat := if n = 0 then 0 else Nat.log2 n + 1
theorem lt_bits (n : Nat) : n < 2 ^ bits n := by
  unfold bits
  by_cases h : n = 0
  · subst h; decide
  · rw [if_neg h]; exact Nat.lt_log2_self
theorem le_bits {n i : Nat} (h : 2 ^ i ≤ n) : i < bits n := by
  have h0 : n ≠ 0 := by have := Nat.pow_pos (n := i) (show 0 < 2 by decide); omega
  unfold bits
  rw [if_neg h0]
  exact Nat.lt_succ_of_le ((Nat.le_log2 h0).2 h)
theorem bits_unique {n i : Nat} (h1 : n < 2 ^ i) (h2 : i = 0 ∨ 2 ^ (i - 1) ≤ n) : bits n = i := by
  have h3 : bits n ≤ i := Nat.le_of_not_lt fun h => by
    have h4 : i ≤ bits n - 1 := by omega
    have h5 : bits n ≠ 0 := by omega
    have h6 : 2 ^ (bits n - 1) ≤ n := by
      unfold bits at h5 ⊢
      by_cases h0 : n = 0
      · rw [if_pos h0] at h5; exact absurd rfl h5
      · rw [if_neg h0]; exact Nat.log2_self_le h0
    have := Nat.pow_le_pow_right (n := 2) (by decide) h4
    omega
  rcases h2 with h2 | h2
  · omega
  · have := le_bits h2; omega
theorem bits_le {n : Nat} (h : bits n ≠ 0) : 2 ^ (bits n - 1) ≤ n := by
  unfold bits at h ⊢
  by_cases h0 : n = 0
  · rw [if_pos h0] at h; exact absurd rfl h
  · rw [if_neg h0]; exact Nat.log2_self_le h0
theorem bits_shift {x s : Nat} (h : 2 ^ s ≤ x) : bits x = s + bits (x / 2 ^ s) := by
  have hp : 0 < 2 ^ s := Nat.pow_pos (by decide)
  have h0 : 1 ≤ x / 2 ^ s := (Nat.le_div_iff_mul_le hp).2 (by omega)
  have hb : bits (x / 2 ^ s) ≠ 0 := by unfold bits; rw [if_neg (by omega)]; omega
  apply bits_unique
  · rw [Nat.pow_add]
    have h1 := lt_bits (x / 2 ^ s)
    rw [Nat.mul_comm]
    exact (Nat.div_lt_iff_lt_mul hp).1 h1
  · refine .inr ?_
    have e : s + bits (x / 2 ^ s) - 1 = s + (bits (x / 2 ^ s) - 1) := by omega
    rw [e, Nat.pow_add, Nat.mul_comm]
    exact (Nat.le_div_iff_mul_le hp).1 (bits_le hb)
theorem bitLen_aux : ∀ (f x : Nat), x < 2 ^ f → Lib.bitLenAux f x = bits x
  | 0, x, h => by
    have : x = 0 := by simpa using h
    subst this; rfl
  | f + 1, x, h => by
    unfold Lib.bitLenAux
    by_cases h0 : x = 0
    · subst h0; rfl
    · rw [if_neg h0, bitLen_aux f (x / 2) (by rw [Nat.pow_succ] at h; omega)]
      by_cases h1 : x = 1
      · subst h1; rfl
      · have := bits_shift (x := x) (s := 1) (by omega)
        rw [this]
theorem bitLen_eq {x : Nat} (h : x < 18446744073709551616) : Lib.bitLen x = bits x := bitLen_aux 64 x h
theorem len64_ev {a : Nat} (ha : a < 18446744073709551616) : Ev (fun k => bits_Len64.f k (a : Int)) (bits a : Int) := by
  refine Ev.congr (fun k => ?_) (Ev.now _)
  unfold bits_Len64.f
  rw [if_pos (isW_nat ha), Int.toNat_natCast, bitLen_eq ha]
theorem bits_le64 {a : Nat} (ha : a < 18446744073709551616) : bits a ≤ 64 := Nat.le_of_not_lt fun h => by
  have h1 := bits_le (show bits a ≠ 0 by omega)
  have h2 : 2 ^ 64 ≤ 2 ^ (bits a - 1) := Nat.pow_le_pow_right (by decide) (by omega)
  omega
theorem lz64_ev {a : Nat} (ha : a < 18446744073709551616) : Ev (fun k => bits_LeadingZeros64.f k (a : Int)) ((64 - bits a : Nat) : Int) := by
  have h := bits_le64 ha
  refine Ev.congr (fun k => ?_) (Ev.now _)
  unfold bits_LeadingZeros64.f
  rw [if_pos (isW_nat ha), Int.toNat_natCast, bitLen_eq ha]
  congr 1
  omega
end Go.Proofs.Yteoeacndpgomaaa.Pure
end
section
/-
  Two words by one: what bits.Div64 computes. Condition: the high word is below the divisor.
-/
namespace Go.Proofs.Yteoeacndpgomaaa.Pure
open Go.RowKit Go.Proofs.Yteoeacndpgomaaa.F Go.Proofs.YteoeacndpgomaaaW.PrintWords Go.Proofs.YteoeacndpgomaaaW.PrintLast Go.Proofs.YteoeacndpgomaaaW.PrintMore
set_option linter.unusedVariables false
set_option linter.unusedSimpArgs false

/-- The facts of a half: V = p·b + o, u below V, a digit d; a guess t with rest r. -/
structure Half (V p o u d t r : Nat) : Prop where
  hV : V = p * 4294967296 + o
  hp : 2147483648 ≤ p
  hp2 : p < 4294967296
  ho : o < 4294967296
  hu : u < V
  hd : d < 4294967296
  inv : t * p + r = u
  le : (u * 4294967296 + d) / V ≤ t
  top : t ≤ 4294967297
theorem half_mul {V p o u d t r : Nat} (h : Half V p o u d t r) : t * V = (u - r) * 4294967296 + t * o ∧ r ≤ u := by
  have h1 := h.inv
  have e : t * V = t * p * 4294967296 + t * o := by rw [h.hV, Nat.mul_add, Nat.mul_assoc]
  rw [e]
  generalize t * p = m at *
  constructor
  · have : m = u - r := by omega
    rw [this]
  · omega
theorem half_over {V p o u d t r : Nat} (h : Half V p o u d t r) (c : 4294967296 * r + d < t * o) : (u * 4294967296 + d) / V < t := by
  obtain ⟨e, hr⟩ := half_mul h
  have hV : 0 < V := Nat.lt_of_le_of_lt (Nat.zero_le _) h.hu
  rw [Nat.div_lt_iff_lt_mul hV, e]
  generalize t * o = m at *
  clear e h
  omega
theorem half_fit {V p o u d t r : Nat} (h : Half V p o u d t r) (c : t * o ≤ 4294967296 * r + d) : (u * 4294967296 + d) / V = t := by
  obtain ⟨e, hr⟩ := half_mul h
  have hV : 0 < V := Nat.lt_of_le_of_lt (Nat.zero_le _) h.hu
  apply Nat.le_antisymm h.le
  rw [Nat.le_div_iff_mul_le hV, e]
  generalize t * o = m at *
  clear e h
  omega
theorem half_lt {V u d : Nat} (hu : u < V) (hd : d < 4294967296) : (u * 4294967296 + d) / V < 4294967296 := by
  rw [Nat.div_lt_iff_lt_mul (Nat.lt_of_le_of_lt (Nat.zero_le _) hu)]
  omega
/-- One less, where the guess was too great. -/
theorem half_next {V p o u d t r : Nat} (h : Half V p o u d t r) (c : 4294967296 ≤ t ∨ 4294967296 * r + d < t * o) : ∃ t', t = t' + 1 ∧ Half V p o u d t' (r + p) ∧ t' ≤ 4294967296 := by
  have hlt : (u * 4294967296 + d) / V < t := by
    rcases c with c | c
    · exact Nat.lt_of_lt_of_le (half_lt h.hu h.hd) c
    · exact half_over h c
  obtain ⟨t', rfl⟩ : ∃ m, t = m + 1 := ⟨t - 1, by have := Nat.lt_of_le_of_lt (Nat.zero_le _) hlt; clear hlt c; omega⟩
  have h1 := h.inv
  have h2 := h.top
  rw [Nat.add_mul, Nat.one_mul] at h1
  exact ⟨t', rfl, ⟨h.hV, h.hp, h.hp2, h.ho, h.hu, h.hd, by clear hlt c; omega, Nat.le_of_lt_succ hlt, by clear hlt c; omega⟩, by clear hlt c; omega⟩
theorem half_big {V p o u d t r : Nat} (h : Half V p o u d t r) (ht : t ≤ 4294967296) (hr : 4294967296 ≤ r) : (u * 4294967296 + d) / V = t := by
  apply half_fit h
  have h1 : t * o ≤ 4294967296 * 4294967295 := Nat.mul_le_mul ht (by have := h.ho; omega)
  generalize t * o = m at *
  clear h
  omega
/-- The first guess. -/
theorem half_first {V p o u d : Nat} (hV : V = p * 4294967296 + o) (hp : 2147483648 ≤ p) (hp2 : p < 4294967296) (ho : o < 4294967296) (hu : u < V) (hd : d < 4294967296) : Half V p o u d (u / p) (u % p) := by
  have hp0 : 0 < p := by omega
  have e := Nat.div_add_mod u p
  have hm := Nat.mod_lt u hp0
  refine ⟨hV, hp, hp2, ho, hu, hd, by rw [Nat.mul_comm]; exact e, ?_, ?_⟩
  · have hVp : p * 4294967296 ≤ V := by omega
    refine Nat.le_of_lt_succ ((Nat.div_lt_iff_lt_mul (by omega)).2 ?_)
    have h1 : (u / p + 1) * (p * 4294967296) ≤ (u / p + 1) * V := Nat.mul_le_mul_left _ hVp
    refine Nat.lt_of_lt_of_le ?_ h1
    have h2 : (u / p + 1) * (p * 4294967296) = (p * (u / p) + p) * 4294967296 := by grind
    rw [h2]
    generalize p * (u / p) = m at *
    clear h1 h2 hVp
    omega
  · refine Nat.le_of_lt_succ ((Nat.div_lt_iff_lt_mul hp0).2 ?_)
    clear e hm
    omega
theorem half_word {V p o u d t r : Nat} (h : Half V p o u d t r) (hr : r < 4294967296) : t * o < 18446744073709551616 ∧ 4294967296 * r + d < 18446744073709551616 := by
  have h1 : t * o ≤ 4294967297 * 4294967295 := Nat.mul_le_mul h.top (by have := h.ho; omega)
  have := h.hd
  constructor
  · generalize t * o = m at *
    clear h
    omega
  · clear h h1
    omega
theorem wrap_lt {t p r o d : Nat} (h1 : t * o < 18446744073709551616) (h2 : 4294967296 * r + d < 18446744073709551616) :
    IntKind.u64.wrap ((t : Int) * (o : Int)) = ((t * o : Nat) : Int) ∧ IntKind.u64.wrap ((IntKind.u64.wrap (4294967296 * (r : Int))) + (d : Int)) = ((4294967296 * r + d : Nat) : Int) := by
  constructor
  · rw [mulN, wrapN _ h1]
  · have e : (4294967296 : Int) * (r : Int) = ((4294967296 * r : Nat) : Int) := by omega
    rw [e, wrapN _ (by omega), addN, wrapN _ h2]
theorem wrap_dec {t' : Nat} (h : t' ≤ 4294967296) : IntKind.u64.wrap (((t' + 1 : Nat) : Int) - 1) = (t' : Int) := by
  have e : ((t' + 1 : Nat) : Int) - 1 = (t' : Int) := by omega
  rw [e, wrapN _ (by omega)]
theorem wrap_inc {r p : Nat} (h : r < 4294967296) (h2 : p < 4294967296) : IntKind.u64.wrap ((r : Int) + (p : Int)) = ((r + p : Nat) : Int) := by
  rw [addN, wrapN _ (by omega)]
/-- What the second half answers. -/
theorem d64_l24 {V s p o u d q1 : Nat} (R : Int × Int) (hR : R = (IntKind.u64.wrap ((IntKind.u64.wrap ((q1 : Int) * 4294967296)) + (((u * 4294967296 + d) / V : Nat) : Int)), shr .u64 (IntKind.u64.wrap ((IntKind.u64.wrap ((IntKind.u64.wrap ((u : Int) * 4294967296)) + (d : Int))) - (IntKind.u64.wrap ((((u * 4294967296 + d) / V : Nat) : Int) * (V : Int))))) (s : Int))) :
    ∀ (n t r : Nat), 4294967296 - r ≤ n → r < 4294967296 → Half V p o u d t r → Ev (fun k => bits_Div64.l24 k (V : Int) (s : Int) (p : Int) (o : Int) (d : Int) (q1 : Int) (r : Int) (u : Int) (t : Int)) R := by
  intro n
  induction n with
  | zero => intro t r hn hr; omega
  | succ n ih =>
    intro t r hn hr h
    obtain ⟨w1, w2⟩ := half_word h hr
    obtain ⟨e1, e2⟩ := wrap_lt (p := p) w1 w2
    have down : (4294967296 ≤ t ∨ 4294967296 * r + d < t * o) → Ev (fun k => (if (IntKind.u64.wrap ((r : Int) + (p : Int))) ≥ 4294967296 then (if 0 ≤ (s : Int) then some ((IntKind.u64.wrap ((IntKind.u64.wrap ((q1 : Int) * 4294967296)) + (IntKind.u64.wrap ((t : Int) - 1)))), (shr .u64 (IntKind.u64.wrap ((IntKind.u64.wrap ((IntKind.u64.wrap ((u : Int) * 4294967296)) + (d : Int))) - (IntKind.u64.wrap ((IntKind.u64.wrap ((t : Int) - 1)) * (V : Int))))) (s : Int))) else none) else bits_Div64.l24 k (V : Int) (s : Int) (p : Int) (o : Int) (d : Int) (q1 : Int) (IntKind.u64.wrap ((r : Int) + (p : Int))) (u : Int) (IntKind.u64.wrap ((t : Int) - 1)))) R := fun c => by
      obtain ⟨t', rfl, h', ht'⟩ := half_next h c
      have e3 := wrap_dec ht'
      have e4 := wrap_inc hr h.hp2
      have hp := h.hp
      by_cases hb : r + p ≥ 4294967296
      · rw [half_big h' ht' hb] at hR
        refine Ev.congr (fun k => ?_) (Ev.now R)
        rw [e4, if_pos (by clear e1 e2 e3 e4 hR; omega), if_pos (Int.natCast_nonneg s), e3, hR]
      · refine Ev.congr (fun k => ?_) (ih t' (r + p) (by clear e1 e2 e3 e4 hR; omega) (by clear e1 e2 e3 e4 hR; omega) h')
        rw [e4, if_neg (by clear e1 e2 e3 e4 hR; omega), e3]
    by_cases c1 : 4294967296 ≤ t
    · exact Ev.step (fun k => (bits_Div64.l24_eq ..).trans (if_pos (Int.ofNat_le.2 c1))) (down (.inl c1))
    · have c1' : ¬ ((t : Int) ≥ 4294967296) := by clear e1 e2 hR; omega
      by_cases c2 : 4294967296 * r + d < t * o
      · exact Ev.step (fun k => (bits_Div64.l24_eq ..).trans ((if_neg c1').trans (if_pos (by rw [e1, e2]; exact Int.ofNat_lt.2 c2)))) (down (.inr c2))
      · rw [half_fit h (Nat.le_of_not_lt c2)] at hR
        refine Ev.step (f := fun k => some R) (fun k => (bits_Div64.l24_eq ..).trans ((if_neg c1').trans ((if_neg ?_).trans ((if_pos (Int.natCast_nonneg s)).trans ?_)))) (Ev.now _)
        · rw [e1, e2]; exact fun h3 => c2 (Int.ofNat_lt.1 h3)
        · rw [hR]
/-! ### shifts and their sums -/
theorem shl_nat (a : Nat) {s : Nat} (hs : s ≤ 64) : shl .u64 (a : Int) (s : Int) = ((a * 2 ^ s % 18446744073709551616 : Nat) : Int) := by
  unfold shl
  have e : min ((s : Int).toNat) (IntKind.bits .u64) = s := by rw [Int.toNat_natCast]; exact Nat.min_eq_left hs
  rw [e, wu]
  have e2 : (a : Int) * 2 ^ s = ((a * 2 ^ s : Nat) : Int) := by simp
  rw [e2]; rfl
theorem shr_nat (a : Nat) {s : Nat} (hs : s ≤ 64) : shr .u64 (a : Int) (s : Int) = ((a / 2 ^ s : Nat) : Int) := by
  unfold shr
  have e : min ((s : Int).toNat) (IntKind.bits .u64) = s := by rw [Int.toNat_natCast]; exact Nat.min_eq_left hs
  rw [e]
  have e2 : (2 : Int) ^ s = ((2 ^ s : Nat) : Int) := by simp
  rw [e2]; rfl
theorem shr32 (a : Nat) : shr .u64 (a : Int) 32 = ((a / 4294967296 : Nat) : Int) := shr_nat a (s := 32) (by decide)
theorem or_add {a b s : Nat} (hb : b < 2 ^ s) (h : a * 2 ^ s + b < 18446744073709551616) : Go.bits .or .u64 ((a * 2 ^ s : Nat) : Int) (b : Int) = ((a * 2 ^ s + b : Nat) : Int) := by
  rw [bits_or_u64_nat _ _ (by omega) (by omega), Nat.mul_comm a, Nat.two_pow_add_eq_or_of_lt hb]
theorem shift_split {lo s : Nat} (hs : s ≤ 64) : lo * 2 ^ s = lo / 2 ^ (64 - s) * 18446744073709551616 + lo * 2 ^ s % 18446744073709551616 := by
  have e : (18446744073709551616 : Nat) = 2 ^ (64 - s) * 2 ^ s := by rw [← Nat.pow_add, Nat.sub_add_cancel hs]
  have h := Nat.div_add_mod (lo * 2 ^ s) 18446744073709551616
  have h2 : lo * 2 ^ s / 18446744073709551616 = lo / 2 ^ (64 - s) := by
    rw [e, Nat.mul_div_mul_right _ _ (Nat.pow_pos (by decide))]
  rw [h2] at h
  rw [Nat.mul_comm (lo / 2 ^ (64 - s))]
  exact h.symm
theorem norm_y {y : Nat} (h0 : 0 < y) (h : y < 18446744073709551616) : 9223372036854775808 ≤ y * 2 ^ (64 - bits y) ∧ y * 2 ^ (64 - bits y) < 18446744073709551616 ∧ 64 - bits y ≤ 63 := by
  have hb := bits_le64 h
  have h1 := lt_bits y
  have hb0 : bits y ≠ 0 := by unfold bits; rw [if_neg (by omega)]; omega
  have h2 := bits_le hb0
  have e1 : (18446744073709551616 : Nat) = 2 ^ bits y * 2 ^ (64 - bits y) := by rw [← Nat.pow_add, Nat.add_sub_cancel' hb]
  have e2 : (9223372036854775808 : Nat) = 2 ^ (bits y - 1) * 2 ^ (64 - bits y) := by
    rw [← Nat.pow_add, show bits y - 1 + (64 - bits y) = 63 by omega]
  have hp : 0 < 2 ^ (64 - bits y) := Nat.pow_pos (by decide)
  refine ⟨?_, ?_, by omega⟩
  · rw [e2]; exact Nat.mul_le_mul_right _ h2
  · rw [e1]; exact Nat.mul_lt_mul_of_pos_right h1 hp
theorem wrap3 (a c e : Int) : IntKind.u64.wrap ((IntKind.u64.wrap ((IntKind.u64.wrap a) + c)) - (IntKind.u64.wrap e)) = (a + c - e) % 18446744073709551616 := by
  rw [wu, wu, wu, wu]; omega
theorem wrap_rest {u V d : Nat} (hV : V ≤ 18446744073709551616) (hu : u < V) : IntKind.u64.wrap ((IntKind.u64.wrap ((IntKind.u64.wrap ((u : Int) * 4294967296)) + (d : Int))) - (IntKind.u64.wrap ((((u * 4294967296 + d) / V : Nat) : Int) * (V : Int)))) = (((u * 4294967296 + d) % V : Nat) : Int) := by
  rw [wrap3]
  have h := Nat.div_add_mod (u * 4294967296 + d) V
  have hm := Nat.mod_lt (u * 4294967296 + d) (show 0 < V by omega)
  have e : (((u * 4294967296 + d) / V : Nat) : Int) * (V : Int) = ((V * ((u * 4294967296 + d) / V) : Nat) : Int) := by rw [mulN, Nat.mul_comm]
  rw [e]
  generalize V * ((u * 4294967296 + d) / V) = m at *
  generalize (u * 4294967296 + d) % V = r at *
  clear e
  omega
theorem wrap_mod {u p : Nat} (hu : u < 18446744073709551616) : IntKind.u64.wrap ((u : Int) - (IntKind.u64.wrap (((u / p : Nat) : Int) * (p : Int)))) = ((u % p : Nat) : Int) := by
  have h := Nat.div_add_mod u p
  rw [mulN, Nat.mul_comm]
  rw [wu, wu]
  generalize p * (u / p) = m at *
  generalize u % p = r at *
  omega
theorem tdivN (a b : Nat) : Int.tdiv (a : Int) (b : Int) = ((a / b : Nat) : Int) := rfl
theorem tmodN (a b : Nat) : Int.tmod (a : Int) (b : Int) = ((a % b : Nat) : Int) := rfl
theorem join_core {V u un q1 u2 q0 r M2 : Nat} (h1 : V * q1 + u2 = u * 4294967296 + un / 4294967296) (h2 : V * q0 + r = u2 * 4294967296 + un % 4294967296) (hM : M2 = u * 18446744073709551616 + un) : M2 = V * (q1 * 4294967296 + q0) + r := by
  rw [hM, Nat.mul_add, ← Nat.mul_assoc]
  generalize V * q1 = a at *
  generalize V * q0 = b at *
  omega
theorem join_end {V M2 Q r y s M : Nat} (hM : M * 2 ^ s = V * Q + r) (hV : V = y * 2 ^ s) (hy : 0 < y) (hr : r < V) : Q = M / y ∧ r / 2 ^ s = M % y := by
  have hp : 0 < 2 ^ s := Nat.pow_pos (by decide)
  have hV0 : 0 < V := by rw [hV]; exact Nat.mul_pos hy hp
  have d1 : M * 2 ^ s / (y * 2 ^ s) = M / y := Nat.mul_div_mul_right _ _ hp
  have m1 : M * 2 ^ s % (y * 2 ^ s) = M % y * 2 ^ s := Nat.mul_mod_mul_right _ _ _
  rw [hM, ← hV] at d1 m1
  rw [Nat.mul_add_div hV0, Nat.div_eq_of_lt hr] at d1
  rw [Nat.mul_add_mod, Nat.mod_eq_of_lt hr] at m1
  exact ⟨by rw [← d1]; rfl, by rw [m1, Nat.mul_div_cancel _ hp]⟩
theorem join_shift {hi lo s u un : Nat} (hs : s ≤ 64) (hu : u = hi * 2 ^ s + lo / 2 ^ (64 - s)) (hun : un = lo * 2 ^ s % 18446744073709551616) : (hi * 18446744073709551616 + lo) * 2 ^ s = u * 18446744073709551616 + un := by
  have := shift_split (lo := lo) hs
  rw [Nat.add_mul, this, ← hun, hu, Nat.add_mul (hi * 2 ^ s)]
  have e : hi * 18446744073709551616 * 2 ^ s = hi * 2 ^ s * 18446744073709551616 := by rw [Nat.mul_assoc, Nat.mul_comm 18446744073709551616, Nat.mul_assoc]
  rw [e, Nat.add_assoc]
theorem d64_next {V s p o u d un0 u2 : Nat} (hp0 : 0 < p) (hV1 : V ≤ 18446744073709551616) (hu : u < V) (hu2 : u2 = (u * 4294967296 + d) % V) (R : Int × Int) (H : Ev (fun k => bits_Div64.l24 k (V : Int) (s : Int) (p : Int) (o : Int) (un0 : Int) (((u * 4294967296 + d) / V : Nat) : Int) ((u2 % p : Nat) : Int) (u2 : Int) ((u2 / p : Nat) : Int)) R) (q : Int) (hq : q = (((u * 4294967296 + d) / V : Nat) : Int)) :
    Ev (fun k => (if (p : Int) = 0 then none else bits_Div64.l24 k (V : Int) (s : Int) (p : Int) (o : Int) (un0 : Int) q (IntKind.u64.wrap ((IntKind.u64.wrap ((IntKind.u64.wrap ((IntKind.u64.wrap ((u : Int) * 4294967296)) + (d : Int))) - (IntKind.u64.wrap (q * (V : Int))))) - (IntKind.u64.wrap ((IntKind.u64.wrap (Int.tdiv (IntKind.u64.wrap ((IntKind.u64.wrap ((IntKind.u64.wrap ((u : Int) * 4294967296)) + (d : Int))) - (IntKind.u64.wrap (q * (V : Int))))) (p : Int))) * (p : Int))))) (IntKind.u64.wrap ((IntKind.u64.wrap ((IntKind.u64.wrap ((u : Int) * 4294967296)) + (d : Int))) - (IntKind.u64.wrap (q * (V : Int))))) (IntKind.u64.wrap (Int.tdiv (IntKind.u64.wrap ((IntKind.u64.wrap ((IntKind.u64.wrap ((u : Int) * 4294967296)) + (d : Int))) - (IntKind.u64.wrap (q * (V : Int))))) (p : Int))))) R := by
  have hlt : u2 < 18446744073709551616 := by rw [hu2]; exact Nat.lt_of_lt_of_le (Nat.mod_lt _ (by omega)) hV1
  refine Ev.congr (fun k => ?_) H
  have e1 := wrap_rest (d := d) hV1 hu
  rw [← hu2] at e1
  have e2 : IntKind.u64.wrap (Int.tdiv (u2 : Int) (p : Int)) = ((u2 / p : Nat) : Int) := by
    rw [tdivN]; exact wrapN _ (Nat.lt_of_le_of_lt (Nat.div_le_self _ _) hlt)
  have e3 := wrap_mod (p := p) hlt
  have hpne : ¬ (p : Int) = 0 := by clear e1 e2 e3; omega
  rw [if_neg hpne, hq, e1, e2, e3]
theorem d64_l17 {V s p o u d un0 : Nat} (hp0 : 0 < p) (hV1 : V ≤ 18446744073709551616) (hu : u < V) (R : Int × Int) (H : Ev (fun k => bits_Div64.l24 k (V : Int) (s : Int) (p : Int) (o : Int) (un0 : Int) (((u * 4294967296 + d) / V : Nat) : Int) (((u * 4294967296 + d) % V % p : Nat) : Int) (((u * 4294967296 + d) % V : Nat) : Int) (((u * 4294967296 + d) % V / p : Nat) : Int)) R) :
    ∀ (n t r : Nat), 4294967296 - r ≤ n → r < 4294967296 → Half V p o u d t r → Ev (fun k => bits_Div64.l17 k (V : Int) (s : Int) (p : Int) (o : Int) (u : Int) (d : Int) (un0 : Int) (t : Int) (r : Int)) R := by
  intro n
  induction n with
  | zero => intro t r hn hr; omega
  | succ n ih =>
    intro t r hn hr h
    obtain ⟨w1, w2⟩ := half_word h hr
    obtain ⟨e1, e2⟩ := wrap_lt (p := p) w1 w2
    have nx := d64_next hp0 hV1 hu rfl R H
    by_cases c : 4294967296 ≤ t ∨ 4294967296 * r + d < t * o
    · obtain ⟨t', ht1, h', ht'⟩ := half_next h c
      have e3 : IntKind.u64.wrap ((t : Int) - 1) = (t' : Int) := by rw [ht1]; exact wrap_dec ht'
      have e4 := wrap_inc hr h.hp2
      have hp := h.hp
      by_cases hb : r + p ≥ 4294967296
      · have hb' : IntKind.u64.wrap ((r : Int) + (p : Int)) ≥ 4294967296 := by rw [e4]; exact Int.ofNat_le.2 hb
        have nx' := nx (IntKind.u64.wrap ((t : Int) - 1)) (by rw [e3, half_big h' ht' hb])
        by_cases c1 : 4294967296 ≤ t
        · exact Ev.step (fun k => (bits_Div64.l17_eq ..).trans ((if_pos (Int.ofNat_le.2 c1)).trans (if_pos hb'))) nx'
        · have c1' : ¬ ((t : Int) ≥ 4294967296) := fun hc => c1 (Int.ofNat_le.1 hc)
          have c2 := c.resolve_left c1
          exact Ev.step (fun k => (bits_Div64.l17_eq ..).trans ((if_neg c1').trans ((if_pos (by rw [e1, e2]; exact Int.ofNat_lt.2 c2)).trans (if_pos hb')))) nx'
      · have hb' : ¬ IntKind.u64.wrap ((r : Int) + (p : Int)) ≥ 4294967296 := by rw [e4]; exact fun hc => hb (Int.ofNat_le.1 hc)
        have nx' := ih t' (r + p) (by clear e1 e2 e3 e4 hb'; omega) (Nat.lt_of_not_le hb) h'
        by_cases c1 : 4294967296 ≤ t
        · refine Ev.step (fun k => (bits_Div64.l17_eq ..).trans ((if_pos (Int.ofNat_le.2 c1)).trans ((if_neg hb').trans ?_))) nx'
          rw [e3, e4]
        · have c1' : ¬ ((t : Int) ≥ 4294967296) := fun hc => c1 (Int.ofNat_le.1 hc)
          have c2 := c.resolve_left c1
          refine Ev.step (fun k => (bits_Div64.l17_eq ..).trans ((if_neg c1').trans ((if_pos (by rw [e1, e2]; exact Int.ofNat_lt.2 c2)).trans ((if_neg hb').trans ?_)))) nx'
          rw [e3, e4]
    · have c1' : ¬ ((t : Int) ≥ 4294967296) := fun hc => c (.inl (Int.ofNat_le.1 hc))
      have c2 : t * o ≤ 4294967296 * r + d := Nat.le_of_not_lt fun hc => c (.inr hc)
      exact Ev.step (fun k => (bits_Div64.l17_eq ..).trans ((if_neg c1').trans (if_neg (by rw [e1, e2]; exact fun h3 => absurd (Int.ofNat_lt.1 h3) (Nat.not_lt.2 c2))))) (nx (t : Int) (by rw [half_fit h c2]))
theorem d64_core {V s p o u d1 d0 u2 : Nat} (hV : V = p * 4294967296 + o) (hp : 2147483648 ≤ p) (hp2 : p < 4294967296) (ho : o < 4294967296) (hV1 : V ≤ 18446744073709551616) (hu : u < V) (hd1 : d1 < 4294967296) (hd0 : d0 < 4294967296) (hs : s ≤ 64) (hu2 : u2 = (u * 4294967296 + d1) % V) :
    Ev (fun k => bits_Div64.l17 k (V : Int) (s : Int) (p : Int) (o : Int) (u : Int) (d1 : Int) (d0 : Int) ((u / p : Nat) : Int) ((u % p : Nat) : Int)) (IntKind.u64.wrap ((IntKind.u64.wrap ((((u * 4294967296 + d1) / V : Nat) : Int) * 4294967296)) + (((u2 * 4294967296 + d0) / V : Nat) : Int)), (((u2 * 4294967296 + d0) % V / 2 ^ s : Nat) : Int)) := by
  have hp0 : 0 < p := by omega
  have hu2V : u2 < V := by rw [hu2]; exact Nat.mod_lt _ (Nat.lt_of_le_of_lt (Nat.zero_le _) hu)
  have er := wrap_rest (d := d0) hV1 hu2V
  have es := shr_nat ((u2 * 4294967296 + d0) % V) hs
  have m1 := Nat.mod_lt u hp0
  have m2 := Nat.mod_lt u2 hp0
  subst hu2
  refine d64_l17 hp0 hV1 hu _ (d64_l24 _ ?_ 4294967296 _ _ (Nat.sub_le _ _) (Nat.lt_trans m2 hp2) (half_first hV hp hp2 ho hu2V hd0)) 4294967296 _ _ (Nat.sub_le _ _) (Nat.lt_trans m1 hp2) (half_first hV hp hp2 ho hu hd1)
  rw [er, es]
theorem d64_nat {hi lo y : Nat} (hy : hi < y) (hy2 : y < 18446744073709551616) (hlo : lo < 18446744073709551616) : Ev (fun k => bits_Div64.f k (hi : Int) (lo : Int) (y : Int)) ((((hi * 18446744073709551616 + lo) / y : Nat) : Int), (((hi * 18446744073709551616 + lo) % y : Nat) : Int)) := by
  simp only [bits_Div64.f_eq]
  have y0 : 0 < y := by omega
  refine Ev.congr (fun k => if_neg (show ¬ (y : Int) = 0 by omega)) (Ev.congr (fun k => if_neg (show ¬ (y : Int) ≤ (hi : Int) by omega)) ?_)
  by_cases h0 : hi = 0
  · subst h0
    refine Ev.congr (fun k => (if_pos rfl).trans ((if_neg (show ¬ (y : Int) = 0 by omega)).trans (if_neg (show ¬ (y : Int) = 0 by omega)))) ?_
    have e1 : IntKind.u64.wrap (Int.tdiv (lo : Int) (y : Int)) = ((lo / y : Nat) : Int) := by
      rw [tdivN]; exact wrapN _ (Nat.lt_of_le_of_lt (Nat.div_le_self _ _) hlo)
    rw [e1, tmodN, Nat.zero_mul, Nat.zero_add]
    exact Ev.now _
  · refine Ev.congr (fun k => if_neg (show ¬ (hi : Int) = 0 by omega)) (Ev.bind (lz64_ev hy2) ?_)
    obtain ⟨n1, n2, n3⟩ := norm_y y0 hy2
    have hsplit := shift_split (lo := lo) (s := 64 - bits y) (by omega)
    generalize hs : 64 - bits y = s at *
    have hs64 : s ≤ 64 := by omega
    have ws : IntKind.u64.wrap (s : Int) = (s : Int) := wrapN _ (by omega)
    have ws2 : IntKind.u64.wrap (64 - (s : Int)) = ((64 - s : Nat) : Int) := by
      have e : (64 : Int) - (s : Int) = ((64 - s : Nat) : Int) := by omega
      rw [e, wrapN _ (by omega)]
    have hpos : 0 < 2 ^ s := Nat.pow_pos (by decide)
    have hlt : lo / 2 ^ (64 - s) < 2 ^ s := by
      rw [Nat.div_lt_iff_lt_mul (Nat.pow_pos (by decide)), ← Nat.pow_add, Nat.add_sub_cancel' hs64]; exact hlo
    have hule : (hi + 1) * 2 ^ s ≤ y * 2 ^ s := Nat.mul_le_mul_right _ hy
    rw [Nat.add_mul, Nat.one_mul] at hule
    have huV : hi * 2 ^ s + lo / 2 ^ (64 - s) < y * 2 ^ s := by omega
    have hhi : hi * 2 ^ s < 18446744073709551616 := by omega
    have ev : shl .u64 (y : Int) (s : Int) = ((y * 2 ^ s : Nat) : Int) := by rw [shl_nat y hs64, Nat.mod_eq_of_lt n2]
    have eh : shl .u64 (hi : Int) (s : Int) = ((hi * 2 ^ s : Nat) : Int) := by rw [shl_nat hi hs64, Nat.mod_eq_of_lt hhi]
    have el : shr .u64 (lo : Int) ((64 - s : Nat) : Int) = ((lo / 2 ^ (64 - s) : Nat) : Int) := shr_nat lo (by omega)
    have eo := or_add hlt (Nat.lt_trans huV n2)
    have en : shl .u64 (lo : Int) (s : Int) = ((lo * 2 ^ s % 18446744073709551616 : Nat) : Int) := shl_nat lo hs64
    rw [ws, ws2, ev, eh, el, eo, en]
    clear ws ws2 ev eh el eo en
    have hun : lo * 2 ^ s % 18446744073709551616 < 18446744073709551616 := Nat.mod_lt _ (by decide)
    have hM := join_shift (hi := hi) (lo := lo) (un := lo * 2 ^ s % 18446744073709551616) hs64 rfl rfl
    generalize hu : hi * 2 ^ s + lo / 2 ^ (64 - s) = u at *
    generalize hue : lo * 2 ^ s % 18446744073709551616 = un at *
    generalize hV : y * 2 ^ s = V at *
    have hV64 : V ≤ 18446744073709551616 := Nat.le_of_lt n2
    have hsplitV : V = V / 4294967296 * 4294967296 + V % 4294967296 := by omega
    have hp : 2147483648 ≤ V / 4294967296 := by omega
    have hp2 : V / 4294967296 < 4294967296 := by omega
    have ho : V % 4294967296 < 4294967296 := Nat.mod_lt _ (by decide)
    have hpne : ¬ (((V / 4294967296 : Nat) : Int) = 0) := by omega
    have hd1 : un / 4294967296 < 4294967296 := by omega
    have hd0 : un % 4294967296 < 4294967296 := Nat.mod_lt _ (by decide)
    have hu64 : u < 18446744073709551616 := by omega
    have core := d64_core (s := s) hsplitV hp hp2 ho hV64 huV hd1 hd0 hs64 rfl
    have j1 := Nat.div_add_mod (u * 4294967296 + un / 4294967296) V
    have j2 := Nat.div_add_mod ((u * 4294967296 + un / 4294967296) % V * 4294967296 + un % 4294967296) V
    have hK := join_core j1 j2 hM
    have hr := Nat.mod_lt ((u * 4294967296 + un / 4294967296) % V * 4294967296 + un % 4294967296) (show 0 < V by omega)
    obtain ⟨f1, f2⟩ := join_end (M2 := 0) hK hV.symm y0 hr
    have q1lt := half_lt huV hd1
    have hQ : (hi * 18446744073709551616 + lo) / y < 18446744073709551616 := by
      rw [Nat.div_lt_iff_lt_mul y0]; omega
    rw [← f1] at hQ
    have eq1 : IntKind.u64.wrap ((IntKind.u64.wrap ((((u * 4294967296 + un / 4294967296) / V : Nat) : Int) * 4294967296)) + ((((u * 4294967296 + un / 4294967296) % V * 4294967296 + un % 4294967296) / V : Nat) : Int)) = (((hi * 18446744073709551616 + lo) / y : Nat) : Int) := by
      rw [← f1]
      have e : (((u * 4294967296 + un / 4294967296) / V : Nat) : Int) * 4294967296 = (((u * 4294967296 + un / 4294967296) / V * 4294967296 : Nat) : Int) := mulN _ 4294967296
      rw [e, wrapN _ (Nat.lt_of_le_of_lt (Nat.le_add_right _ _) hQ), addN, wrapN _ hQ]
    rw [eq1, f2] at core
    have em : Go.bits .and .u64 (V : Int) 4294967295 = ((V % 4294967296 : Nat) : Int) := maskN V n2
    have em2 : Go.bits .and .u64 (un : Int) 4294967295 = ((un % 4294967296 : Nat) : Int) := maskN un hun
    have et : IntKind.u64.wrap (Int.tdiv (u : Int) ((V / 4294967296 : Nat) : Int)) = ((u / (V / 4294967296) : Nat) : Int) := by
      rw [tdivN]; exact wrapN _ (Nat.lt_of_le_of_lt (Nat.div_le_self _ _) hu64)
    have ew := wrap_mod (p := V / 4294967296) hu64
    rw [shr32 V, shr32 un]
    refine Ev.congr (fun k => (if_pos (Int.natCast_nonneg s)).trans ((if_pos (Int.natCast_nonneg s)).trans ((if_pos (Int.natCast_nonneg (64 - s))).trans ((if_pos (Int.natCast_nonneg s)).trans (if_neg hpne))))) ?_
    rw [em, em2, et, ew]
    exact core
theorem div64 {hi lo y : Int} (h0 : 0 ≤ hi) (hy : hi < y) (hy2 : y < 18446744073709551616) (hlo : U lo) : Ev (fun k => bits_Div64.f k hi lo y) ((hi * 18446744073709551616 + lo) / y, (hi * 18446744073709551616 + lo) % y) := by
  obtain ⟨a, rfl⟩ := Int.eq_ofNat_of_zero_le h0
  obtain ⟨b, rfl⟩ := Int.eq_ofNat_of_zero_le hlo.1
  obtain ⟨c, rfl⟩ := Int.eq_ofNat_of_zero_le (show 0 ≤ y by omega)
  have := hlo.2
  have g := d64_nat (hi := a) (lo := b) (y := c) (by omega) (by omega) (by omega)
  simpa using g
end Go.Proofs.Yteoeacndpgomaaa.Pure
end
section
/-
  A number by a word: what nat.DivWord computes. Condition: the list is shorter than 2 to the 40th.
-/
namespace Go.Proofs.Yteoeacndpgomaaa.Pure
open Go.RowKit Go.Proofs.Yteoeacndpgomaaa.F Go.Proofs.YteoeacndpgomaaaW.PrintWords Go.Proofs.YteoeacndpgomaaaW.PrintLast Go.Proofs.YteoeacndpgomaaaW.PrintMore
open Go.Proofs.Yteoeacndpgomaaa.E (adS adC sbS sbC)
set_option linter.unusedVariables false
set_option linter.unusedSimpArgs false
theorem divw_l6 (x : List Int) (w W : Nat) (hx : WF x) (hl : x.length ≤ 274877906944) (h0 : 0 < w) (hw : w < 18446744073709551616) : ∀ (n : Nat) (out : List Int) (left : Nat), n ≤ x.length → out.length = x.length → WF out → left < w → nv (out.take n) = 0 → (nv out) * w + 18446744073709551616 ^ n * left + nv (x.take n) = nv x →
    Ev (fun k => nat_DivWord.l6 k x (w : Int) out (left : Int) ((n : Int) - 1)) (limbs (nv x / w), ((nv x % w : Nat) : Int), 0) := by
  intro n
  induction n with
  | zero =>
    intro out left hn ho hW hlt hz hv
    rw [List.take_zero, show nv [] = 0 from rfl, Nat.add_zero, Nat.pow_zero, Nat.one_mul] at hv
    have e1 : nv x / w = nv out := by rw [← hv, Nat.mul_comm, Nat.mul_add_div h0, Nat.div_eq_of_lt hlt, Nat.add_zero]
    have e2 : nv x % w = left := by rw [← hv, Nat.mul_comm, Nat.mul_add_mod, Nat.mod_eq_of_lt hlt]
    rw [e1, e2]
    exact Ev.step (fun k => nat_DivWord.l6_eq ..) (Ev.neg (by decide) (Ev.bind (trim_ev hW (by rw [ho]; omega)) (Ev.now _)))
  | succ n ih =>
    intro out left hn ho hW hlt hz hv
    have hn0 : n < x.length := hn
    have ho0 : n < out.length := by rw [ho]; exact hn
    have e0 : ((n + 1 : Nat) : Int) - 1 = (n : Int) := by omega
    have hr : rd x (n : Int) = x[n] := rd_of rfl hn0
    have hu := hx.get hn0
    have ht := nv_take_succ x n hn0
    have hzt := nv_take_succ out n ho0
    have hset := nv_set out n (((left * 18446744073709551616 + (x[n]).toNat) / w : Nat) : Int) ho0
    obtain ⟨a, ha⟩ := Int.eq_ofNat_of_zero_le hu.1
    have ha2 : a < 18446744073709551616 := by have := hu.2; rw [ha] at this; exact Int.ofNat_lt.1 this
    rw [ha] at hr ht hset
    rw [Int.toNat_natCast] at ht hset
    have g := d64_nat hlt hw ha2
    have hQ : (left * 18446744073709551616 + a) / w < 18446744073709551616 := by
      rw [Nat.div_lt_iff_lt_mul h0]; clear hv hset hzt ht hz; omega
    have hout0 : (out[n]).toNat = 0 := by
      rw [hzt] at hz
      have h1 := Nat.eq_zero_of_add_eq_zero_left hz
      rcases Nat.mul_eq_zero.1 h1 with h2 | h2
      · exact absurd h2 (Nat.pos_iff_ne_zero.1 (Nat.pow_pos (by decide)))
      · exact h2
    have hz' : nv (out.take n) = 0 := by rw [hzt] at hz; exact Nat.eq_zero_of_add_eq_zero_right hz
    rw [hout0, Nat.zero_mul, Nat.add_zero] at hset
    have hdm := Nat.div_add_mod (left * 18446744073709551616 + a) w
    have hrlt := Nat.mod_lt (left * 18446744073709551616 + a) h0
    generalize (left * 18446744073709551616 + a) / w = q at *
    generalize (left * 18446744073709551616 + a) % w = r at *
    rw [Int.toNat_natCast] at hset
    have hv' : nv (out.set n (q : Int)) * w + 18446744073709551616 ^ n * r + nv (x.take n) = nv x := by
      rw [hset, ← hv, ht, Nat.pow_succ]
      have e : 18446744073709551616 ^ n * (w * q + r) = 18446744073709551616 ^ n * (left * 18446744073709551616 + a) := by rw [hdm]
      generalize 18446744073709551616 ^ n = P at *
      clear hv ht hset hzt hz hdm
      grind
    have hzs : nv ((out.set n (q : Int)).take n) = 0 := by rw [List.take_set_of_le (Nat.le_refl n)]; exact hz'
    have hUq : U (q : Int) := ⟨Int.natCast_nonneg q, by exact Int.ofNat_lt.2 hQ⟩
    have ho1 : (n : Int) < (out.length : Int) := Int.ofNat_lt.2 ho0
    have e1 : wrap64 ((n : Int) - 1) = (n : Int) - 1 := w64_dec (by clear hv ht hset hzt hz hdm hv' e0; omega)
    have gi := ih _ r (Nat.le_of_lt hn0) (by rw [List.length_set]; exact ho) (hW.set n hUq) hrlt hzs hv'
    refine Ev.step (fun k => nat_DivWord.l6_eq ..) ?_
    rw [e0, hr, e1, Int.toNat_natCast]
    exact Ev.pos (Int.natCast_nonneg n) (Ev.pos (Int.natCast_nonneg n) (Ev.pos (Int.ofNat_lt.2 hn0) (Ev.bind g (Ev.pos (Int.natCast_nonneg n) (Ev.pos ho1 gi)))))
theorem divw_ev {x : List Int} (hx : WF x) (hl : x.length ≤ 1000000) {w : Nat} (h0 : 0 < w) (hw : w < 18446744073709551616) : Ev (fun k => nat_DivWord.f k x (w : Int)) (limbs (nv x / w), ((nv x % w : Nat) : Int), 0) := by
  have g := divw_l6 x w 0 hx (by omega) h0 hw x.length (List.replicate x.length 0) 0 (Nat.le_refl _) (List.length_replicate ..) (WF.zeros _) h0 (by rw [List.take_replicate, nv_zeros]) (by rw [nv_zeros, List.take_length]; simp)
  refine Ev.congr (fun k => nat_DivWord.f_eq ..) ?_
  rw [w64_dec (by omega), Int.toNat_natCast]
  exact Ev.neg (by omega) (Ev.pos (Int.natCast_nonneg _) (Ev.pos (by omega) g))
theorem divw_zero (x : List Int) : Ev (fun k => nat_DivWord.f k x 0) ([], 0, 10) := by
  exact Ev.congr (fun k => nat_DivWord.f_eq ..) (Ev.pos rfl (Ev.now _))
end Go.Proofs.Yteoeacndpgomaaa.Pure
end
section
/-
  A number moved by bits, and how many it has: what nat's shifted, Shr, Bits compute. Condition: no list is longer than a million words.
-/
namespace Go.Proofs.Yteoeacndpgomaaa.Pure
open Go.RowKit Go.Proofs.Yteoeacndpgomaaa.F Go.Proofs.YteoeacndpgomaaaW.PrintWords Go.Proofs.YteoeacndpgomaaaW.PrintLast Go.Proofs.YteoeacndpgomaaaW.PrintMore
open Go.Proofs.Yteoeacndpgomaaa.E (adS adC sbS sbC)
set_option linter.unusedVariables false
set_option linter.unusedSimpArgs false
theorem dm_of {a p q P : Nat} (h : a = p + P * q) (hp : p < P) : a % P = p ∧ a / P = q := by
  subst h
  exact ⟨by rw [Nat.add_mul_mod_self_left, Nat.mod_eq_of_lt hp], by rw [Nat.add_mul_div_left _ _ (Nat.lt_of_le_of_lt (Nat.zero_le _) hp), Nat.div_eq_of_lt hp, Nat.zero_add]⟩
theorem limbs_take (a n : Nat) : limbs (nv ((limbs a).take n)) = limbs (a % 18446744073709551616 ^ n) := by
  congr 1
  by_cases h : n ≤ (limbs a).length
  · have h1 := nv_split (limbs a) n h
    rw [nv_limbs] at h1
    have h2 := nv_lt ((limbs_WF a).take n)
    rw [List.length_take, Nat.min_eq_left h] at h2
    exact (dm_of h1 h2).1.symm
  · have h3 := lt_pow_limbs a
    have h4 : a < 18446744073709551616 ^ n := Nat.lt_of_lt_of_le h3 (Nat.pow_le_pow_right (by decide) (by omega))
    rw [List.take_of_length_le (by omega), nv_limbs, Nat.mod_eq_of_lt h4]
theorem limbs_drop (a n : Nat) : (limbs a).drop n = limbs (a / 18446744073709551616 ^ n) := by
  by_cases h : n < (limbs a).length
  · have hne : (limbs a).drop n ≠ [] := by
      intro h'; have := List.drop_eq_nil_iff.1 h'; omega
    have hz : Nz ((limbs a).drop n) := fun h' => by
      rw [List.getLast_drop]
      exact limbs_Nz a _
    have h0 := limbs_of ((limbs_WF a).drop n) hz
    rw [h0]
    congr 1
    have h1 := nv_split (limbs a) n (by omega)
    rw [nv_limbs] at h1
    have h2 := nv_lt ((limbs_WF a).take n)
    rw [List.length_take, Nat.min_eq_left (by omega)] at h2
    exact (dm_of h1 h2).2.symm
  · have h3 := lt_pow_limbs a
    have h4 : a < 18446744073709551616 ^ n := Nat.lt_of_lt_of_le h3 (Nat.pow_le_pow_right (by decide) (by omega))
    rw [Nat.div_eq_of_lt h4, limbs_zero, List.drop_eq_nil_iff]; omega
/-- A word moved up: what stays and what goes over. -/
theorem word_up {v s : Nat} (hv : v < 18446744073709551616) (hs : s ≤ 64) : v / 2 ^ (64 - s) < 2 ^ s ∧ v * 2 ^ s % 18446744073709551616 = v * 2 ^ s % 18446744073709551616 / 2 ^ s * 2 ^ s := by
  constructor
  · rw [Nat.div_lt_iff_lt_mul (Nat.pow_pos (by decide)), ← Nat.pow_add, Nat.add_sub_cancel' (by omega)]; exact hv
  · have e : (18446744073709551616 : Nat) = 2 ^ (64 - s) * 2 ^ s := by rw [← Nat.pow_add, Nat.sub_add_cancel (by omega)]
    rw [e, Nat.mul_mod_mul_right, Nat.mul_div_cancel _ (Nat.pow_pos (by decide))]
theorem or_low {v c s : Nat} (hv : v < 18446744073709551616) (hs : s ≤ 64) (hc : c < 2 ^ s) : Go.bits .or .u64 (c : Int) (shl .u64 (v : Int) (s : Int)) = ((c + v * 2 ^ s % 18446744073709551616 : Nat) : Int) ∧ c + v * 2 ^ s % 18446744073709551616 < 18446744073709551616 := by
  rw [shl_nat v (by omega)]
  obtain ⟨-, h2⟩ := word_up hv hs
  have hm : v * 2 ^ s % 18446744073709551616 < 18446744073709551616 := Nat.mod_lt _ (by decide)
  have e : (18446744073709551616 : Nat) = 2 ^ (64 - s) * 2 ^ s := by rw [← Nat.pow_add, Nat.sub_add_cancel (by omega)]
  have hlt : v * 2 ^ s % 18446744073709551616 / 2 ^ s + 1 ≤ 2 ^ (64 - s) := by
    refine Nat.succ_le_of_lt ((Nat.div_lt_iff_lt_mul (Nat.pow_pos (by decide))).2 ?_)
    rw [← e]; exact hm
  have h3 := Nat.mul_le_mul_right (2 ^ s) hlt
  rw [← e, Nat.add_mul, Nat.one_mul, ← h2] at h3
  have hc64 : c < 18446744073709551616 := by omega
  refine ⟨?_, by omega⟩
  rw [bits_or_u64_nat _ _ hc64 hm, h2]
  generalize v * 2 ^ s % 18446744073709551616 / 2 ^ s = m
  rw [Nat.or_comm, Nat.mul_comm m, ← Nat.two_pow_add_eq_or_of_lt hc, Nat.add_comm]
theorem nv_one (m : Nat) : nv [(m : Int)] = m := by simp [nv]
theorem shift_step {o c m q X v S P B : Nat} (hv : o + P * c = X * S) (hsp : v * S = q * B + m) : o + P * (c + m) + P * B * q = (X + P * v) * S := by
  have h1 : (X + P * v) * S = X * S + P * (v * S) := by grind
  rw [h1, hsp, ← hv]; grind
theorem shifted_l3 (x : List Int) (s : Nat) (hx : WF x) (hl : x.length ≤ 1000000) (hs : s ≤ 63) : ∀ (d i : Nat) (out : List Int) (c : Nat), x.length - i = d → (hi : i ≤ x.length) → (ho : out.length = x.length + 1) → WF out → out[i]'(by omega) = (c : Int) → c < 2 ^ s → nv (out.take i) + 18446744073709551616 ^ i * c = nv (x.take i) * 2 ^ s →
    ∃ out', out'.length = x.length + 1 ∧ WF out' ∧ nv out' = nv x * 2 ^ s ∧ Ev (fun k => nat_shifted.l3 k (s : Int) out x (x.length : Int) (i : Int)) out' := by
  intro d
  induction d with
  | zero =>
    intro i out c hd hi ho hW hc hlt hv
    have hi2 : i = x.length := by clear hv; omega
    subst hi2
    refine ⟨out, ho, hW, ?_, Ev.step (fun k => nat_shifted.l3_eq ..) (Ev.neg (Int.lt_irrefl _) (Ev.now _))⟩
    · have h1 := nv_take_succ out x.length (by rw [ho]; exact Nat.lt_succ_self _)
      have h2 : out.take (x.length + 1) = out := by rw [← ho, List.take_length]
      rw [h2, hc, Int.toNat_natCast, hv, List.take_length] at h1
      exact h1
  | succ d ih =>
    intro i out c hd hi ho hW hc hlt hv
    have hi0 : i < x.length := by clear hv; omega
    have hio : i < out.length := by rw [ho]; exact Nat.lt_succ_of_lt hi0
    have hio1 : i + 1 < out.length := by rw [ho]; exact Nat.succ_lt_succ hi0
    have hd' : x.length - (i + 1) = d := by clear hv; omega
    have hu := hx.get hi0
    have ht := nv_take_succ x i hi0
    have hr : rd x (i : Int) = x[i] := rd_of rfl hi0
    have hro : rd out (i : Int) = (c : Int) := by rw [rd_of rfl hio, hc]
    obtain ⟨v, hve⟩ := Int.eq_ofNat_of_zero_le hu.1
    have hv64 : v < 18446744073709551616 := by have := hu.2; rw [hve] at this; exact Int.ofNat_lt.1 this
    rw [hve] at hr ht
    rw [Int.toNat_natCast] at ht
    obtain ⟨o1, o2⟩ := or_low hv64 (show s ≤ 64 by omega) hlt
    obtain ⟨u1, u2⟩ := word_up hv64 (show s ≤ 64 by omega)
    have hsp := shift_split (lo := v) (s := s) (by omega)
    have er := shr_nat v (s := 64 - s) (by omega)
    have ws2 : IntKind.u64.wrap (64 - (s : Int)) = ((64 - s : Nat) : Int) := by
      have e : (64 : Int) - (s : Int) = ((64 - s : Nat) : Int) := by clear hv ht; omega
      rw [e, wrapN _ (by clear hv ht; omega)]
    have hU1 : U ((c + v * 2 ^ s % 18446744073709551616 : Nat) : Int) := ⟨Int.natCast_nonneg _, Int.ofNat_lt.2 o2⟩
    have hc64 : v / 2 ^ (64 - s) < 18446744073709551616 := Nat.lt_of_le_of_lt (Nat.div_le_self _ _) hv64
    have hU2 : U ((v / 2 ^ (64 - s) : Nat) : Int) := ⟨Int.natCast_nonneg _, Int.ofNat_lt.2 hc64⟩
    have hlen : ((out.set i ((c + v * 2 ^ s % 18446744073709551616 : Nat) : Int)).set (i + 1) ((v / 2 ^ (64 - s) : Nat) : Int)).length = x.length + 1 := by rw [List.length_set, List.length_set]; exact ho
    have htk : ((out.set i ((c + v * 2 ^ s % 18446744073709551616 : Nat) : Int)).set (i + 1) ((v / 2 ^ (64 - s) : Nat) : Int)).take (i + 1) = out.take i ++ [((c + v * 2 ^ s % 18446744073709551616 : Nat) : Int)] := by
      rw [List.take_set_of_le (Nat.le_refl _), List.take_succ_eq_append_getElem (by rw [List.length_set]; exact hio), List.take_set_of_le (Nat.le_refl _), List.getElem_set_self]
    have hv' : nv (((out.set i ((c + v * 2 ^ s % 18446744073709551616 : Nat) : Int)).set (i + 1) ((v / 2 ^ (64 - s) : Nat) : Int)).take (i + 1)) + 18446744073709551616 ^ (i + 1) * (v / 2 ^ (64 - s)) = nv (x.take (i + 1)) * 2 ^ s := by
      rw [htk, nv_append, List.length_take, Nat.min_eq_left (Nat.le_of_lt hio), ht]
      rw [nv_one, Nat.pow_succ]
      exact shift_step hv hsp
    obtain ⟨out', g1, g2, g3, g4⟩ := ih (i + 1) ((out.set i ((c + v * 2 ^ s % 18446744073709551616 : Nat) : Int)).set (i + 1) ((v / 2 ^ (64 - s) : Nat) : Int)) (v / 2 ^ (64 - s)) hd' hi0 hlen ((hW.set i hU1).set (i + 1) hU2) (List.getElem_set_self _) u1 hv'
    refine ⟨out', g1, g2, g3, Ev.step (fun k => nat_shifted.l3_eq ..) ?_⟩
    have e1 : wrap64 ((i : Int) + 1) = ((i + 1 : Nat) : Int) := w64_succ (by clear hv ht hsp htk hv' er ws2; omega)
    rw [e1, ws2, hr, hro, o1, er, Int.toNat_natCast, Int.toNat_natCast]
    refine Ev.pos (Int.ofNat_lt.2 hi0) (Ev.pos (Int.natCast_nonneg i) (Ev.pos (Int.ofNat_lt.2 hi0) (Ev.pos (Int.natCast_nonneg i) (Ev.pos (Int.ofNat_lt.2 hio) (Ev.pos (Int.natCast_nonneg s) (Ev.pos (Int.natCast_nonneg i) (Ev.pos (Int.ofNat_lt.2 hio) (Ev.pos (Int.natCast_nonneg (64 - s)) (Ev.pos (Int.natCast_nonneg (i + 1)) (Ev.pos ?_ g4))))))))))
    rw [List.length_set]; exact Int.ofNat_lt.2 hio1
theorem shifted_ev {x : List Int} (hx : WF x) (hl : x.length ≤ 1000000) {s : Nat} (hs : s ≤ 63) : ∃ out, out.length = x.length + 1 ∧ WF out ∧ nv out = nv x * 2 ^ s ∧ Ev (fun k => nat_shifted.f k x (s : Int)) out := by
  obtain ⟨out, h1, h2, h3, h4⟩ := shifted_l3 x s hx hl hs _ 0 (List.replicate (x.length + 1) 0) 0 rfl (Nat.zero_le _) (List.length_replicate ..) (WF.zeros _) (by rw [List.getElem_replicate]; rfl) (Nat.pow_pos (by decide)) (by simp [nv])
  refine ⟨out, h1, h2, h3, Ev.congr (fun k => nat_shifted.f_eq ..) ?_⟩
  have e1 : wrap64 ((x.length : Int) + 1) = ((x.length + 1 : Nat) : Int) := w64_succ (by omega)
  rw [e1, Int.toNat_natCast]
  exact Ev.pos (Int.natCast_nonneg _) (Ev.pos (by clear e1; omega) h4)

/-! ### Shr -/
theorem nv_drop_mod {l : List Int} (hw : WF l) (n : Nat) : rd l (n : Int) = ((nv (l.drop n) % 18446744073709551616 : Nat) : Int) := by
  by_cases h : n < l.length
  · have hu := hw.get h
    have h1 := hu.1; have h2 := hu.2
    rw [rd_of rfl h, nv_drop l n h]
    generalize l[n] = a at *
    omega
  · rw [List.drop_of_length_le (Nat.le_of_not_lt h)]
    simp [rd, List.getD_eq_getElem?_getD, List.getElem?_eq_none (Nat.le_of_not_lt h), nv]
theorem down_word {a D r : Nat} (hr : r ≤ 63) : (a + 18446744073709551616 * D) / 2 ^ r = a / 2 ^ r + (D % 18446744073709551616) * 2 ^ (64 - r) % 18446744073709551616 + 18446744073709551616 * (D / 2 ^ r) := by
  have hp : 0 < 2 ^ r := Nat.pow_pos (by decide)
  have e : (18446744073709551616 : Nat) = 2 ^ (64 - r) * 2 ^ r := by rw [← Nat.pow_add, Nat.sub_add_cancel (by omega)]
  have e1 : (a + 18446744073709551616 * D) / 2 ^ r = a / 2 ^ r + 2 ^ (64 - r) * D := by
    rw [show a + 18446744073709551616 * D = a + 2 ^ r * (2 ^ (64 - r) * D) by rw [← Nat.mul_assoc, Nat.mul_comm (2 ^ r), ← e], Nat.add_mul_div_left _ _ hp]
  have e2 : 2 ^ (64 - r) * D / 18446744073709551616 = D / 2 ^ r := by rw [e, Nat.mul_div_mul_left _ _ (Nat.pow_pos (by decide))]
  have e3 : 2 ^ (64 - r) * D % 18446744073709551616 = (D % 18446744073709551616) * 2 ^ (64 - r) % 18446744073709551616 := by rw [Nat.mul_comm, Nat.mod_mul_mod]
  have e4 := Nat.mod_add_div (2 ^ (64 - r) * D) 18446744073709551616
  rw [e1, Nat.add_assoc, ← e3, ← e2, e4]
theorem down_step {o w P B D' r' N : Nat} (h : o + P * (w + B * D') = N) : o + P * w + P * B * D' = N := by
  rw [← h, Nat.mul_add]; grind
theorem shr_l9 (x : List Int) (n : Nat) (hx : WF x) (hl : x.length ≤ 1000000) : ∀ (d i : Nat) (out : List Int), x.length - i = d → (hi : i ≤ x.length) → (ho : out.length = x.length) → WF out → nv (out.take i) + 18446744073709551616 ^ i * (nv (x.drop i) / 2 ^ (n % 64)) = nv x / 2 ^ (n % 64) →
    Ev (fun k => nat_Shr.l9 k x (n : Int) out (x.length : Int) (i : Int)) (limbs (nv x / 2 ^ (n % 64)), 0) := by
  intro d
  induction d with
  | zero =>
    intro i out hd hi ho hW hv
    have hi2 : i = x.length := by clear hv; omega
    subst hi2
    rw [List.drop_length, ← ho, List.take_length, show nv [] = 0 from rfl, Nat.zero_div, Nat.mul_zero, Nat.add_zero] at hv
    have g := trim_ev hW (by rw [ho]; omega)
    rw [hv] at g
    exact Ev.step (fun k => nat_Shr.l9_eq ..) (Ev.neg (Int.lt_irrefl _) (Ev.bind g (Ev.now _)))
  | succ d ih =>
    intro i out hd hi ho hW hv
    have hi0 : i < x.length := by clear hv; omega
    have hio : i < out.length := by rw [ho]; exact hi0
    have hd' : x.length - (i + 1) = d := by clear hv; omega
    have hr63 : n % 64 ≤ 63 := by clear hv; omega
    have hu := hx.get hi0
    have hr : rd x (i : Int) = x[i] := rd_of rfl hi0
    have hdr := nv_drop x i hi0
    have hr1 := nv_drop_mod hx (i + 1)
    obtain ⟨v, hve⟩ := Int.eq_ofNat_of_zero_le hu.1
    have hv64 : v < 18446744073709551616 := by have := hu.2; rw [hve] at this; exact Int.ofNat_lt.1 this
    rw [hve] at hr hdr
    rw [Int.toNat_natCast] at hdr
    have hD64 : nv (x.drop (i + 1)) % 18446744073709551616 < 18446744073709551616 := Nat.mod_lt _ (by decide)
    have hdown := down_word (a := v) (D := nv (x.drop (i + 1))) hr63
    rw [← hdr] at hdown
    have e64 : 64 - (64 - n % 64) = n % 64 := by clear hv; omega
    have hq : v / 2 ^ (n % 64) < 2 ^ (64 - n % 64) := by
      have := (word_up (s := 64 - n % 64) hv64 (Nat.sub_le _ _)).1
      rwa [e64] at this
    obtain ⟨o1, o2⟩ := or_low (c := v / 2 ^ (n % 64)) (s := 64 - n % 64) hD64 (Nat.sub_le _ _) hq
    have er := shr_nat v (s := n % 64) (by clear hv; omega)
    have hv' : nv ((out.set i ((v / 2 ^ (n % 64) + nv (x.drop (i + 1)) % 18446744073709551616 * 2 ^ (64 - n % 64) % 18446744073709551616 : Nat) : Int)).take (i + 1)) + 18446744073709551616 ^ (i + 1) * (nv (x.drop (i + 1)) / 2 ^ (n % 64)) = nv x / 2 ^ (n % 64) := by
      rw [nv_set_take out i _ hio, Int.toNat_natCast, Nat.pow_succ]
      rw [hdown] at hv
      exact down_step (r' := 0) hv
    have hU1 : U ((v / 2 ^ (n % 64) + nv (x.drop (i + 1)) % 18446744073709551616 * 2 ^ (64 - n % 64) % 18446744073709551616 : Nat) : Int) := ⟨Int.natCast_nonneg _, Int.ofNat_lt.2 o2⟩
    have gi := (ih (i + 1) (out.set i ((v / 2 ^ (n % 64) + nv (x.drop (i + 1)) % 18446744073709551616 * 2 ^ (64 - n % 64) % 18446744073709551616 : Nat) : Int)) hd' hi0 (by rw [List.length_set]; exact ho) (hW.set i hU1) hv')
    clear hv hv' hdown hdr
    have t1 : Int.tmod (n : Int) 64 = ((n % 64 : Nat) : Int) := tmodN n 64
    have t2 : IntKind.u64.wrap ((n % 64 : Nat) : Int) = ((n % 64 : Nat) : Int) := wrapN _ (by omega)
    have t3 : wrap64 (64 - ((n % 64 : Nat) : Int)) = ((64 - n % 64 : Nat) : Int) := by rw [w64_of (by omega) (by omega)]; omega
    have t4 : IntKind.u64.wrap ((64 - n % 64 : Nat) : Int) = ((64 - n % 64 : Nat) : Int) := wrapN _ (by omega)
    have e1 : wrap64 ((i : Int) + 1) = ((i + 1 : Nat) : Int) := w64_succ (by clear t1 t2 t3 t4; omega)
    refine Ev.step (fun k => nat_Shr.l9_eq ..) ?_
    rw [e1, t1, t2, t3, t4]
    refine Ev.pos (Int.ofNat_lt.2 hi0) (Ev.pos (Int.natCast_nonneg i) (Ev.pos (Int.ofNat_lt.2 hi0) (Ev.pos (Int.natCast_nonneg (n % 64)) (Ev.bind (at_ev x (i + 1)) (Ev.pos (Int.natCast_nonneg (64 - n % 64)) (Ev.pos (Int.natCast_nonneg i) (Ev.pos (Int.ofNat_lt.2 hio) ?_)))))))
    rw [hr, hr1, er, o1, Int.toNat_natCast]
    exact gi
theorem pow_bits (q r : Nat) : 2 ^ (64 * q + r) = 18446744073709551616 ^ q * 2 ^ r := by
  rw [Nat.pow_add, Nat.pow_mul]
theorem shr_ev {x : List Int} (hx : WF x) (hl : x.length ≤ 1000000) {n : Nat} (hn : n < 9223372036854775808) : Ev (fun k => nat_Shr.f k x (n : Int)) (limbs (nv x / 2 ^ n), 0) := by
  refine Ev.congr (fun k => nat_Shr.f_eq ..) (Ev.neg (by omega) (Ev.bind (trim_ev hx (Nat.le_trans hl (by decide))) ?_))
  have hla := limbs_length_le (nv_lt hx)
  generalize nv x = a at *
  have hdm : 2 ^ n = 18446744073709551616 ^ (n / 64) * 2 ^ (n % 64) := by rw [← pow_bits, Nat.div_add_mod]
  have t1 : wrap64 (Int.tdiv (n : Int) 64) = ((n / 64 : Nat) : Int) := by
    have : Int.tdiv (n : Int) 64 = ((n / 64 : Nat) : Int) := tdivN n 64
    rw [this, w64_of (by omega) (by omega)]
  rw [t1]
  by_cases h : (limbs a).length ≤ n / 64
  · refine Ev.congr (fun k => if_pos (by clear t1 hdm; omega)) ?_
    have h1 : a / 2 ^ n = 0 := by
      apply Nat.div_eq_of_lt
      rw [hdm]
      have h2 := pow_up (lt_pow_limbs a) h
      exact Nat.lt_of_lt_of_le h2 (Nat.le_mul_of_pos_right _ (Nat.pow_pos (by decide)))
    rw [h1, limbs_zero]
    exact Ev.now _
  · have e : a / 2 ^ n = nv (limbs (a / 18446744073709551616 ^ (n / 64))) / 2 ^ (n % 64) := by rw [nv_limbs, hdm, Nat.div_div_eq_div_mul]
    have hlen : (limbs (a / 18446744073709551616 ^ (n / 64))).length ≤ 1000000 := by
      have h3 : (limbs a).length ≤ 1000000 := Nat.le_trans hla hl
      exact Nat.le_trans (limbs_length_mono (Nat.div_le_self _ _)) h3
    clear hdm
    refine Ev.congr (fun k => if_neg (by clear t1; omega)) (Ev.congr (fun k => if_pos (Int.natCast_nonneg _)) (Ev.congr (fun k => if_pos (by clear t1; omega)) ?_))
    rw [Int.toNat_natCast, limbs_drop, e, Int.toNat_natCast]
    refine Ev.pos (Int.natCast_nonneg _) (Ev.pos (by clear t1 e; omega) ?_)
    have g := shr_l9 (limbs (a / 18446744073709551616 ^ (n / 64))) n (limbs_WF _) hlen _ 0 (List.replicate (limbs (a / 18446744073709551616 ^ (n / 64))).length 0) rfl (Nat.zero_le _) (List.length_replicate ..) (WF.zeros _) (by simp [nv])
    rw [List.length_replicate]
    exact g
theorem pow_words (q : Nat) : 18446744073709551616 ^ q = 2 ^ (64 * q) := by
  have := pow_bits q 0
  rw [Nat.pow_zero, Nat.mul_one, Nat.add_zero] at this
  exact this.symm
theorem pow_lt_words {m q : Nat} (h : m < 64 * q) : 2 ^ m < 18446744073709551616 ^ q := by
  rw [pow_words]; exact Nat.pow_lt_pow_right (by decide) h
theorem far_zero {a n q : Nat} (h : a < 18446744073709551616 ^ q) (hn : 64 * q ≤ n) : a / 2 ^ n = 0 := by
  rw [pow_words] at h
  exact Nat.div_eq_of_lt (Nat.lt_of_lt_of_le h (Nat.pow_le_pow_right (by decide) hn))
theorem bits_le_pow {a n : Nat} (h : a < 2 ^ n) : bits a ≤ n := Nat.le_of_not_lt fun h2 => by
  have h1 := bits_le (show bits a ≠ 0 by omega)
  have h3 : 2 ^ n ≤ 2 ^ (bits a - 1) := Nat.pow_le_pow_right (by decide) (by omega)
  omega
theorem bits_le_words {a q : Nat} (h : a < 18446744073709551616 ^ q) : bits a ≤ 64 * q := by
  rw [pow_words] at h; exact bits_le_pow h
theorem shr_neg {x : List Int} {n : Int} (hn : n < 0) : Ev (fun k => nat_Shr.f k x n) ([], 1) := by
  exact Ev.congr (fun k => nat_Shr.f_eq ..) (Ev.pos hn (Ev.now _))

/-! ### Bits -/
theorem bits_limbs {t : List Int} {v : Nat} (ht : WF t) (hv : v ≠ 0) : bits (nv t + 18446744073709551616 ^ t.length * v) = 64 * t.length + bits v := by
  have hb : bits v ≠ 0 := by have := le_bits (n := v) (i := 0) (by rw [Nat.pow_zero]; omega); omega
  have h1 := lt_bits v
  have h2 := bits_le hb
  have h3 := nv_lt ht
  have e0 := pow_bits t.length 0
  rw [Nat.pow_zero, Nat.mul_one, Nat.add_zero] at e0
  rw [← e0] at h3 ⊢
  apply bits_unique
  · rw [Nat.pow_add]
    have h4 := Nat.mul_le_mul_left (2 ^ (64 * t.length)) (Nat.succ_le_of_lt h1)
    rw [Nat.succ_eq_add_one, Nat.mul_add, Nat.mul_one] at h4
    omega
  · refine .inr ?_
    have e : 64 * t.length + bits v - 1 = 64 * t.length + (bits v - 1) := by omega
    rw [e, Nat.pow_add]
    have h4 := Nat.mul_le_mul_left (2 ^ (64 * t.length)) h2
    omega
theorem natbits_ev {x : List Int} (hx : WF x) (hl : x.length ≤ 1000000) : Ev (fun k => nat_Bits.f k x) (bits (nv x) : Int) := by
  refine Ev.congr (fun k => nat_Bits.f_eq ..) (Ev.bind (trim_ev hx (Nat.le_trans hl (by decide))) ?_)
  have hla := limbs_length_le (nv_lt hx)
  generalize hae : nv x = a at *
  by_cases h : a = 0
  · subst h
    rw [limbs_zero]
    refine Ev.congr (fun k => if_pos rfl) ?_
    exact Ev.now _
  · obtain ⟨t, v, e, ht, hv, hv0⟩ := limbs_take_last h
    obtain ⟨w, rfl⟩ := Int.eq_ofNat_of_zero_le hv.1
    have hw : w < 18446744073709551616 := Int.ofNat_lt.1 hv.2
    have hw0 : w ≠ 0 := fun h => hv0 (by rw [h]; rfl)
    have hb := bits_limbs ht hw0
    have ea : a = nv t + 18446744073709551616 ^ t.length * w := by
      have h1 := nv_limbs a
      rw [e, nv_append, nv_one] at h1
      exact h1.symm
    rw [← ea] at hb
    have hlen : (limbs a).length = t.length + 1 := by rw [e, List.length_append]; rfl
    have hr : rd (limbs a) (t.length : Int) = (w : Int) := by
      have h2 : t.length < (limbs a).length := by rw [hlen]; exact Nat.lt_succ_self _
      rw [rd_of rfl h2]
      simp [e]
    have hb64 := bits_le64 hw
    have ht6 : t.length ≤ 1000000 := by clear ea hb; omega
    have e1 : wrap64 (((t.length + 1 : Nat) : Int) - 1) = (t.length : Int) := w64_pred (by clear ea hb; omega)
    have e2 : wrap64 (64 * (t.length : Int)) = ((64 * t.length : Nat) : Int) := by rw [w64_of (by clear ea hb e1; omega) (by clear ea hb e1; omega)]; clear ea hb e1; omega
    have e3 : wrap64 (((64 * t.length : Nat) : Int) + ((bits w : Nat) : Int)) = ((64 * t.length + bits w : Nat) : Int) := w64_add (by clear ea hb e1 e2; omega)
    rw [hlen, e1, hr, e2, hb]
    refine Ev.congr (fun k => if_neg (by clear ea hb e1 e2 e3; omega)) (Ev.congr (fun k => if_pos (Int.natCast_nonneg _)) (Ev.congr (fun k => if_pos (by clear ea hb e1 e2 e3; omega)) ?_))
    refine Ev.bind (len64_ev hw) ?_
    rw [e3]
    exact Ev.now _
end Go.Proofs.Yteoeacndpgomaaa.Pure
end
section
/-
  Long division's steps on words: what nat.takes and nat.gives compute. Conditions: all are words, no list is longer than a million words.
-/
namespace Go.Proofs.Yteoeacndpgomaaa.Pure
open Go.RowKit Go.Proofs.Yteoeacndpgomaaa.F Go.Proofs.YteoeacndpgomaaaW.PrintWords Go.Proofs.YteoeacndpgomaaaW.PrintLast Go.Proofs.YteoeacndpgomaaaW.PrintMore
open Go.Proofs.Yteoeacndpgomaaa.E (adS adC sbS sbC)
set_option linter.unusedVariables false
set_option linter.unusedSimpArgs false
theorem rd_word {l : List Int} (hw : WF l) (i : Int) : ∃ a : Nat, rd l i = (a : Int) ∧ a < 18446744073709551616 := by
  have h := hw.rdU i
  obtain ⟨a, e⟩ := Int.eq_ofNat_of_zero_le h.1
  exact ⟨a, e, by have := h.2; rw [e] at this; exact Int.ofNat_lt.1 this⟩
theorem mul_carry {a q c : Nat} (ha : a < 18446744073709551616) (hq : q < 18446744073709551616) (hc : c < 18446744073709551616) :
    a * q / 18446744073709551616 + (a * q % 18446744073709551616 + c) / 18446744073709551616 < 18446744073709551616 ∧ (a * q / 18446744073709551616 + (a * q % 18446744073709551616 + c) / 18446744073709551616) * 18446744073709551616 + (a * q % 18446744073709551616 + c) % 18446744073709551616 = a * q + c := by
  have h1 : a * q ≤ 18446744073709551615 * 18446744073709551615 := Nat.mul_le_mul (by omega) (by omega)
  generalize a * q = p at *
  omega
theorem take_word {U' U x s P W0 q V v c c' l l' lo T : Nat} (h1 : U' + x * P = U + s * P) (h2 : U + q * V * W0 = T + P * (c + l)) (h3 : c' * 18446744073709551616 + lo = v * q + c) (h4 : x + l' * 18446744073709551616 = lo + l + s) {R : Nat} (hP : P = W0 * R) : U' + q * (V + R * v) * W0 = T + P * 18446744073709551616 * (c' + l') := by
  have e1 : q * (V + R * v) * W0 = q * V * W0 + P * (v * q) := by rw [hP]; grind
  have e2 : P * (v * q) + P * c = P * (c' * 18446744073709551616) + P * lo := by rw [← Nat.mul_add, ← h3, Nat.mul_add]
  have e3 : P * x + P * (l' * 18446744073709551616) = P * lo + P * l + P * s := by rw [← Nat.mul_add, h4, Nat.mul_add, Nat.mul_add]
  have e4 : P * 18446744073709551616 * (c' + l') = P * (c' * 18446744073709551616) + P * (l' * 18446744073709551616) := by grind
  rw [e1, e4]
  rw [Nat.mul_comm x P, Nat.mul_comm s P] at h1
  rw [Nat.mul_add] at h2
  omega
theorem takes_l3 (v : List Int) (hv : WF v) (q j : Nat) (hq : q < 18446744073709551616) (N L : Nat) (up : List Int) (hL : L ≤ 1000000) (hj : j + v.length < L) : ∀ (d i : Nat) (u : List Int) (c l : Nat), v.length + 1 - i = d → i ≤ v.length + 1 → u.length = L → WF u → c < 18446744073709551616 → l ≤ 1 → u.drop (j + v.length + 1) = up → (i = v.length + 1 → c = 0) →
    nv u + q * nv (v.take i) * 18446744073709551616 ^ j = N + 18446744073709551616 ^ (j + i) * (c + l) →
    ∃ (u' : List Int) (b : Nat), u'.length = L ∧ WF u' ∧ b ≤ 1 ∧ u'.drop (j + v.length + 1) = up ∧ nv u' + q * nv v * 18446744073709551616 ^ j = N + 18446744073709551616 ^ (j + v.length + 1) * b ∧ Ev (fun k => nat_takes.l3 k u v (q : Int) (j : Int) (c : Int) (l : Int) (i : Int)) (decide ((b : Int) > 0), u') := by
  intro d
  induction d with
  | zero =>
    intro i u c l hd hi hu hW hc hl hup h0 hN
    have hi2 : i = v.length + 1 := by clear hN; omega
    have hc0 := h0 hi2
    subst hi2; subst hc0
    rw [nv_take_all v (by omega), Nat.zero_add] at hN
    refine ⟨u, l, hu, hW, hl, hup, hN, Ev.step (fun k => nat_takes.l3_eq ..) (Ev.neg (by clear hN; omega) (Ev.now _))⟩
  | succ d ih =>
    intro i u c l hd hi hu hW hc hl hup h0 hN
    have hi0 : i ≤ v.length := by clear hN; omega
    have hd' : v.length + 1 - (i + 1) = d := by clear hN; omega
    have hji : j + i < u.length := by clear hN; omega
    have hjd : j + i < j + v.length + 1 := by clear hN; omega
    have hw1 : j + i ≤ 1099511627780 := by clear hN; omega
    have hw2 : i ≤ 1099511627779 := by clear hN; omega
    obtain ⟨a, ea, ha⟩ := rd_word hv (i : Int)
    obtain ⟨x, ex, hx⟩ := rd_word hW ((j + i : Nat) : Int)
    obtain ⟨m1, m2⟩ := mul_carry ha hq hc
    have hlo : (a * q % 18446744073709551616 + c) % 18446744073709551616 < 18446744073709551616 := Nat.mod_lt _ (by decide)
    have eA : adS ((a * q % 18446744073709551616 : Nat) : Int) (c : Int) 0 = (((a * q % 18446744073709551616 + c) % 18446744073709551616 : Nat) : Int) := by
      rw [adS_of (Int.natCast_nonneg _) (Int.natCast_nonneg _) (Int.le_refl _)]; clear hN; generalize a * q = p; omega
    have eC : adC ((a * q % 18446744073709551616 : Nat) : Int) (c : Int) 0 = (((a * q % 18446744073709551616 + c) / 18446744073709551616 : Nat) : Int) := by
      rw [adC_of (Int.natCast_nonneg _) (Int.natCast_nonneg _) (Int.le_refl _)]; clear hN; generalize a * q = p; omega
    have hUx : U (x : Int) := ⟨Int.natCast_nonneg _, Int.ofNat_lt.2 hx⟩
    have hUlo : U (((a * q % 18446744073709551616 + c) % 18446744073709551616 : Nat) : Int) := ⟨Int.natCast_nonneg _, Int.ofNat_lt.2 hlo⟩
    obtain ⟨us, c0, c1, e3⟩ := sb_word hUx hUlo (Int.natCast_nonneg l) (by clear hN; omega)
    obtain ⟨s, es⟩ := Int.eq_ofNat_of_zero_le us.1
    obtain ⟨l', el'⟩ := Int.eq_ofNat_of_zero_le c0
    rw [es] at us
    rw [es, el'] at e3
    rw [el'] at c1
    simp only [Int.toNat_natCast] at e3
    have hgx : u[j + i] = (x : Int) := by rw [← ex, rd_of rfl hji]
    have hset := nv_set u (j + i) (s : Int) hji
    rw [hgx, Int.toNat_natCast, Int.toNat_natCast] at hset
    have htk : nv (v.take (i + 1)) = nv (v.take i) + 18446744073709551616 ^ i * a := by rw [nv_take_rd, ea, Int.toNat_natCast]
    have hN' : nv (u.set (j + i) (s : Int)) + q * nv (v.take (i + 1)) * 18446744073709551616 ^ j = N + 18446744073709551616 ^ (j + (i + 1)) * ((a * q / 18446744073709551616 + (a * q % 18446744073709551616 + c) / 18446744073709551616) + l') := by
      rw [htk, ← Nat.add_assoc, Nat.pow_succ]
      exact take_word hset hN m2 e3 (Nat.pow_add ..)
    have hup' : (u.set (j + i) (s : Int)).drop (j + v.length + 1) = up := by rw [List.drop_set_of_lt hjd, hup]
    have h0' : i + 1 = v.length + 1 → a * q / 18446744073709551616 + (a * q % 18446744073709551616 + c) / 18446744073709551616 = 0 := fun h => by
      have hiv : ¬ i < v.length := by omega
      have a0 : a = 0 := by
        have : rd v (i : Int) = 0 := by simp [rd, List.getD_eq_getElem?_getD, List.getElem?_eq_none (Nat.le_of_not_lt hiv)]
        rw [this] at ea; exact (Int.ofNat_inj.1 ea).symm
      subst a0
      rw [Nat.zero_mul, Nat.zero_mod, Nat.zero_div, Nat.zero_add, Nat.zero_add, Nat.div_eq_of_lt hc]
    obtain ⟨u', b, r1, r2, r3, r4, r5, r6⟩ := ih (i + 1) (u.set (j + i) (s : Int)) _ l' hd' (Nat.succ_le_succ hi0) (by rw [List.length_set]; exact hu) (hW.set _ us) m1 (by clear hN hN' m2 e3; omega) hup' h0' hN'
    refine ⟨u', b, r1, r2, r3, r4, r5, Ev.step (fun k => nat_takes.l3_eq ..) ?_⟩
    clear hN hN' m2 e3 hset htk r5
    have hl1 : (l : Int) ≤ 1 := by omega
    have w1 : wrap64 ((j : Int) + (i : Int)) = ((j + i : Nat) : Int) := w64_add hw1
    have w2 : wrap64 ((i : Int) + 1) = ((i + 1 : Nat) : Int) := w64_succ hw2
    have w3 : IntKind.u64.wrap (((a * q / 18446744073709551616 : Nat) : Int) + (((a * q % 18446744073709551616 + c) / 18446744073709551616 : Nat) : Int)) = ((a * q / 18446744073709551616 + (a * q % 18446744073709551616 + c) / 18446744073709551616 : Nat) : Int) := by
      rw [addN, wrapN _ m1]
    have ga := at_ev v i
    rw [ea] at ga
    refine Ev.pos (Int.ofNat_le.2 hi0) (Ev.bind ga (Ev.bind (mul64_ev ha hq) ?_))
    dsimp only
    rw [w1, w2, eA, eC, w3, ex, es, el', Int.toNat_natCast]
    exact Ev.pos (Int.natCast_nonneg _) (Ev.pos (Int.ofNat_lt.2 hji) (Ev.pos hl1 (Ev.pos (Int.natCast_nonneg _) (Ev.pos (Int.ofNat_lt.2 hji) r6))))
theorem takes_ev {u v : List Int} (hu : WF u) (hv : WF v) {q j : Nat} (hq : q < 18446744073709551616) (hL : u.length ≤ 1000000) (hj : j + v.length < u.length) :
    ∃ (u' : List Int) (b : Nat), u'.length = u.length ∧ WF u' ∧ b ≤ 1 ∧ u'.drop (j + v.length + 1) = u.drop (j + v.length + 1) ∧ nv u' + q * nv v * 18446744073709551616 ^ j = nv u + 18446744073709551616 ^ (j + v.length + 1) * b ∧ Ev (fun k => nat_takes.f k u v (q : Int) (j : Int)) (decide ((b : Int) > 0), u') := by
  obtain ⟨u', b, r1, r2, r3, r4, r5, r6⟩ := takes_l3 v hv q j hq (nv u) u.length _ hL hj _ 0 u 0 0 rfl (Nat.zero_le _) rfl hu (by decide) (by decide) rfl (fun h => by cases h) (by simp [nv])
  exact ⟨u', b, r1, r2, r3, r4, r5, Ev.congr (fun k => nat_takes.f_eq ..) r6⟩

theorem give_word {U' U x s P W0 V v c c' T : Nat} (h1 : U' + x * P = U + s * P) (h2 : U + P * c = T + V * W0) (h3 : s + c' * 18446744073709551616 = x + v + c) {R : Nat} (hP : P = W0 * R) : U' + P * 18446744073709551616 * c' = T + (V + R * v) * W0 := by
  have e1 : (V + R * v) * W0 = V * W0 + P * v := by rw [hP]; grind
  have e2 : P * s + P * (c' * 18446744073709551616) = P * x + P * v + P * c := by rw [← Nat.mul_add, h3, Nat.mul_add, Nat.mul_add]
  have e4 : P * 18446744073709551616 * c' = P * (c' * 18446744073709551616) := by grind
  rw [e1, e4]
  rw [Nat.mul_comm x P, Nat.mul_comm s P] at h1
  omega
theorem gives_l2 (v : List Int) (hv : WF v) (j : Nat) (N L : Nat) (up : List Int) (hL : L ≤ 1000000) (hj : j + v.length < L) : ∀ (d i : Nat) (u : List Int) (c : Nat), v.length + 1 - i = d → i ≤ v.length + 1 → u.length = L → WF u → c ≤ 1 → u.drop (j + v.length + 1) = up →
    nv u + 18446744073709551616 ^ (j + i) * c = N + nv (v.take i) * 18446744073709551616 ^ j →
    ∃ (u' : List Int) (b : Nat), u'.length = L ∧ WF u' ∧ b ≤ 1 ∧ u'.drop (j + v.length + 1) = up ∧ nv u' + 18446744073709551616 ^ (j + v.length + 1) * b = N + nv v * 18446744073709551616 ^ j ∧ Ev (fun k => nat_gives.l2 k u v (j : Int) (c : Int) (i : Int)) u' := by
  intro d
  induction d with
  | zero =>
    intro i u c hd hi hu hW hc hup hN
    have hi2 : i = v.length + 1 := by clear hN; omega
    subst hi2
    rw [nv_take_all v (by omega)] at hN
    refine ⟨u, c, hu, hW, hc, hup, hN, Ev.step (fun k => nat_gives.l2_eq ..) (Ev.neg (by clear hN; omega) (Ev.now _))⟩
  | succ d ih =>
    intro i u c hd hi hu hW hc hup hN
    have hi0 : i ≤ v.length := by clear hN; omega
    have hd' : v.length + 1 - (i + 1) = d := by clear hN; omega
    have hji : j + i < u.length := by clear hN; omega
    have hjd : j + i < j + v.length + 1 := by clear hN; omega
    have hw1 : j + i ≤ 1099511627780 := by clear hN; omega
    have hw2 : i ≤ 1099511627779 := by clear hN; omega
    obtain ⟨a, ea, ha⟩ := rd_word hv (i : Int)
    obtain ⟨x, ex, hx⟩ := rd_word hW ((j + i : Nat) : Int)
    have eA : adS (x : Int) (a : Int) (c : Int) = (((x + a + c) % 18446744073709551616 : Nat) : Int) := by
      rw [adS_of (Int.natCast_nonneg _) (Int.natCast_nonneg _) (Int.natCast_nonneg _)]; clear hN; omega
    have eC : adC (x : Int) (a : Int) (c : Int) = (((x + a + c) / 18446744073709551616 : Nat) : Int) := by
      rw [adC_of (Int.natCast_nonneg _) (Int.natCast_nonneg _) (Int.natCast_nonneg _)]; clear hN; omega
    have us : U (((x + a + c) % 18446744073709551616 : Nat) : Int) := ⟨Int.natCast_nonneg _, Int.ofNat_lt.2 (Nat.mod_lt _ (by decide))⟩
    have hgx : u[j + i] = (x : Int) := by rw [← ex, rd_of rfl hji]
    have hset := nv_set u (j + i) (((x + a + c) % 18446744073709551616 : Nat) : Int) hji
    rw [hgx, Int.toNat_natCast, Int.toNat_natCast] at hset
    have htk : nv (v.take (i + 1)) = nv (v.take i) + 18446744073709551616 ^ i * a := by rw [nv_take_rd, ea, Int.toNat_natCast]
    have e3 : (x + a + c) % 18446744073709551616 + (x + a + c) / 18446744073709551616 * 18446744073709551616 = x + a + c := by rw [Nat.mul_comm]; exact Nat.mod_add_div _ _
    have hN' : nv (u.set (j + i) (((x + a + c) % 18446744073709551616 : Nat) : Int)) + 18446744073709551616 ^ (j + (i + 1)) * ((x + a + c) / 18446744073709551616) = N + nv (v.take (i + 1)) * 18446744073709551616 ^ j := by
      rw [htk, ← Nat.add_assoc j, Nat.pow_succ]
      exact give_word hset hN e3 (Nat.pow_add ..)
    have hup' : (u.set (j + i) (((x + a + c) % 18446744073709551616 : Nat) : Int)).drop (j + v.length + 1) = up := by rw [List.drop_set_of_lt hjd, hup]
    obtain ⟨u', b, r1, r2, r3, r4, r5, r6⟩ := ih (i + 1) (u.set (j + i) (((x + a + c) % 18446744073709551616 : Nat) : Int)) _ hd' (Nat.succ_le_succ hi0) (by rw [List.length_set]; exact hu) (hW.set _ us) (by clear hN hN' e3; omega) hup' hN'
    refine ⟨u', b, r1, r2, r3, r4, r5, Ev.step (fun k => nat_gives.l2_eq ..) ?_⟩
    clear hN hN' e3 hset htk r5
    have hc1 : (c : Int) ≤ 1 := by omega
    have w1 : wrap64 ((j : Int) + (i : Int)) = ((j + i : Nat) : Int) := w64_add hw1
    have w2 : wrap64 ((i : Int) + 1) = ((i + 1 : Nat) : Int) := w64_succ hw2
    have ga := at_ev v i
    rw [ea] at ga
    rw [w1, w2, ex]
    refine Ev.pos (Int.ofNat_le.2 hi0) (Ev.pos (Int.natCast_nonneg _) (Ev.pos (Int.ofNat_lt.2 hji) (Ev.bind ga (Ev.pos hc1 (Ev.pos (Int.natCast_nonneg _) (Ev.pos (Int.ofNat_lt.2 hji) ?_))))))
    rw [eA, eC, Int.toNat_natCast]
    exact r6
theorem gives_ev {u v : List Int} (hu : WF u) (hv : WF v) {j : Nat} (hL : u.length ≤ 1000000) (hj : j + v.length < u.length) :
    ∃ (u' : List Int) (b : Nat), u'.length = u.length ∧ WF u' ∧ b ≤ 1 ∧ u'.drop (j + v.length + 1) = u.drop (j + v.length + 1) ∧ nv u' + 18446744073709551616 ^ (j + v.length + 1) * b = nv u + nv v * 18446744073709551616 ^ j ∧ Ev (fun k => nat_gives.f k u v (j : Int)) u' := by
  obtain ⟨u', b, r1, r2, r3, r4, r5, r6⟩ := gives_l2 v hv j (nv u) u.length _ hL hj _ 0 u 0 rfl (Nat.zero_le _) rfl hu (by decide) rfl (by simp [nv])
  exact ⟨u', b, r1, r2, r3, r4, r5, Ev.congr (fun k => nat_gives.f_eq ..) r6⟩
end Go.Proofs.Yteoeacndpgomaaa.Pure
end
section
/-
  A digit of a quotient: what nat.beyond and nat.guess compute. Conditions: all are words; the divisor's highest word has its highest bit.
-/
namespace Go.Proofs.Yteoeacndpgomaaa.Pure
open Go.RowKit Go.Proofs.Yteoeacndpgomaaa.F Go.Proofs.YteoeacndpgomaaaW.PrintWords Go.Proofs.YteoeacndpgomaaaW.PrintLast Go.Proofs.YteoeacndpgomaaaW.PrintMore
open Go.Proofs.Yteoeacndpgomaaa.E (adS adC sbS sbC)
set_option linter.unusedVariables false
set_option linter.unusedSimpArgs false
theorem beyond_ev {q v left u : Nat} (hq : q < 18446744073709551616) (hv : v < 18446744073709551616) (hl : left < 18446744073709551616) (hu : u < 18446744073709551616) : Ev (fun k => nat_beyond.f k (q : Int) (v : Int) (left : Int) (u : Int)) (decide (left * 18446744073709551616 + u < q * v)) := by
  refine Ev.congr (fun k => nat_beyond.f_eq ..) (Ev.bind (mul64_ev hq hv) ?_)
  dsimp only
  generalize q * v = p
  by_cases h1 : ((p / 18446744073709551616 : Nat) : Int) > (left : Int)
  · exact Ev.pos h1 (Ev.ret (decide_eq_true (by omega)).symm)
  · refine Ev.neg h1 ?_
    by_cases h2 : ((p / 18446744073709551616 : Nat) : Int) = (left : Int)
    · refine Ev.pos h2 (Ev.ret ?_)
      apply decide_eq_decide.2
      omega
    · exact Ev.neg h2 (Ev.ret (decide_eq_false (by omega)).symm)
/-- A guess that is none too great, and the greatest such one or a word's greatest. -/
structure Fit (T W Q : Nat) : Prop where
  lt : Q < 18446744073709551616
  le : Q * W ≤ T
  max : Q = 18446744073709551615 ∨ T < (Q + 1) * W
theorem fit_over {q v1 v0 L u0 T W M : Nat} (hM : q * v1 + L = M) (hT : T = M * 18446744073709551616 + u0) (hW : W = v1 * 18446744073709551616 + v0) (hq : q < 18446744073709551616) (hv : v0 < 18446744073709551616) (hL : 18446744073709551616 ≤ L) : q * W ≤ T := by
  have h1 : q * v0 ≤ 18446744073709551616 * 18446744073709551616 := Nat.mul_le_mul (Nat.le_of_lt hq) (Nat.le_of_lt hv)
  have h2 : q * W = q * v1 * 18446744073709551616 + q * v0 := by rw [hW]; grind
  rw [h2, hT, ← hM]
  generalize q * v1 = a at *
  generalize q * v0 = b at *
  omega
theorem fit_cmp {q v1 v0 L u0 T W M : Nat} (hM : q * v1 + L = M) (hT : T = M * 18446744073709551616 + u0) (hW : W = v1 * 18446744073709551616 + v0) : (L * 18446744073709551616 + u0 < q * v0 ↔ T < q * W) := by
  have h2 : q * W = q * v1 * 18446744073709551616 + q * v0 := by rw [hW]; grind
  rw [h2, hT, ← hM]
  generalize q * v1 = a at *
  generalize q * v0 = b at *
  omega
theorem q_dec {q : Nat} (h : q + 1 < 18446744073709551616) : IntKind.u64.wrap (((q + 1 : Nat) : Int) - 1) = (q : Int) := by
  have e : ((q + 1 : Nat) : Int) - 1 = (q : Int) := by omega
  rw [e, wrapN _ (by omega)]
theorem left_next {left v1 L c : Nat} (hL : L < 18446744073709551616) (h1 : v1 < 18446744073709551616) : adS (L : Int) (v1 : Int) 0 = (((L + v1) % 18446744073709551616 : Nat) : Int) ∧ adC (L : Int) (v1 : Int) 0 = (((L + v1) / 18446744073709551616 : Nat) : Int) := by
  rw [adS_of (Int.natCast_nonneg _) (Int.natCast_nonneg _) (Int.le_refl _), adC_of (Int.natCast_nonneg _) (Int.natCast_nonneg _) (Int.le_refl _)]
  constructor <;> omega
theorem guess_l4 {T W M v1 v0 u0 : Nat} (h1 : v1 < 18446744073709551616) (h0 : v0 < 18446744073709551616) (hu : u0 < 18446744073709551616) (hT : T = M * 18446744073709551616 + u0) (hW : W = v1 * 18446744073709551616 + v0) :
    ∀ (q L : Nat), q < 18446744073709551616 → q * v1 + L = M → (q = 18446744073709551615 ∨ T < (q + 1) * W) →
    ∃ Q, Fit T W Q ∧ Ev (fun k => nat_guess.l4 k (u0 : Int) (v1 : Int) (v0 : Int) (q : Int) ((L % 18446744073709551616 : Nat) : Int) ((L / 18446744073709551616 : Nat) : Int)) (Q : Int) := by
  intro q
  induction q with
  | zero =>
    intro L hq hM hm
    refine ⟨0, ⟨by decide, by rw [Nat.zero_mul]; exact Nat.zero_le _, hm⟩, Ev.step (fun k => nat_guess.l4_eq ..) ?_⟩
    by_cases hc : ((L / 18446744073709551616 : Nat) : Int) = 0
    · exact Ev.pos hc (Ev.bind (beyond_ev hq h0 (Nat.mod_lt _ (by decide)) hu) (Ev.neg (by rw [Nat.zero_mul]; simp) (Ev.now _)))
    · exact Ev.neg hc (Ev.now _)
  | succ q ih =>
    intro L hq hM hm
    by_cases hc : ((L / 18446744073709551616 : Nat) : Int) = 0
    · have hL : L < 18446744073709551616 := by clear hM hm hT hW; omega
      have hLm : L % 18446744073709551616 = L := Nat.mod_eq_of_lt hL
      have hcmp := fit_cmp hM hT hW
      by_cases hb : L * 18446744073709551616 + u0 < (q + 1) * v0
      · obtain ⟨Q, g1, g2⟩ := ih (L + v1) (Nat.lt_of_succ_lt hq) (by rw [← hM, Nat.add_mul]; clear hM hm hT hW hcmp hb; generalize q * v1 = a; omega) (.inr (hcmp.1 hb))
        obtain ⟨e1, e2⟩ := left_next (left := 0) (c := 0) hL h1
        refine ⟨Q, g1, Ev.step (fun k => nat_guess.l4_eq ..) (Ev.pos hc ?_)⟩
        rw [hLm, q_dec hq, e1, e2]
        exact Ev.bind (beyond_ev hq h0 hL hu) (Ev.pos (decide_eq_true hb) g2)
      · refine ⟨q + 1, ⟨hq, Nat.le_of_not_lt fun h => hb (hcmp.2 h), hm⟩, Ev.step (fun k => nat_guess.l4_eq ..) (Ev.pos hc ?_)⟩
        rw [hLm]
        exact Ev.bind (beyond_ev hq h0 hL hu) (Ev.neg (by rw [decide_eq_false hb]; decide) (Ev.now _))
    · refine ⟨q + 1, ⟨hq, fit_over hM hT hW hq h0 (by clear hM hm hT hW; omega), hm⟩, Ev.step (fun k => nat_guess.l4_eq ..) (Ev.neg hc (Ev.now _))⟩
theorem guess_l10 {T W M v1 v0 u0 : Nat} (h1 : v1 < 18446744073709551616) (h0 : v0 < 18446744073709551616) (hu : u0 < 18446744073709551616) (hT : T = M * 18446744073709551616 + u0) (hW : W = v1 * 18446744073709551616 + v0) :
    ∀ (q L : Nat), q < 18446744073709551616 → q * v1 + L = M → (q = 18446744073709551615 ∨ T < (q + 1) * W) →
    ∃ Q, Fit T W Q ∧ Ev (fun k => nat_guess.l10 k (u0 : Int) (v1 : Int) (v0 : Int) (q : Int) ((L % 18446744073709551616 : Nat) : Int) ((L / 18446744073709551616 : Nat) : Int)) (Q : Int) := by
  intro q
  induction q with
  | zero =>
    intro L hq hM hm
    refine ⟨0, ⟨by decide, by rw [Nat.zero_mul]; exact Nat.zero_le _, hm⟩, Ev.step (fun k => nat_guess.l10_eq ..) ?_⟩
    by_cases hc : ((L / 18446744073709551616 : Nat) : Int) = 0
    · exact Ev.pos hc (Ev.bind (beyond_ev hq h0 (Nat.mod_lt _ (by decide)) hu) (Ev.neg (by rw [Nat.zero_mul]; simp) (Ev.now _)))
    · exact Ev.neg hc (Ev.now _)
  | succ q ih =>
    intro L hq hM hm
    by_cases hc : ((L / 18446744073709551616 : Nat) : Int) = 0
    · have hL : L < 18446744073709551616 := by clear hM hm hT hW; omega
      have hLm : L % 18446744073709551616 = L := Nat.mod_eq_of_lt hL
      have hcmp := fit_cmp hM hT hW
      by_cases hb : L * 18446744073709551616 + u0 < (q + 1) * v0
      · obtain ⟨Q, g1, g2⟩ := ih (L + v1) (Nat.lt_of_succ_lt hq) (by rw [← hM, Nat.add_mul]; clear hM hm hT hW hcmp hb; generalize q * v1 = a; omega) (.inr (hcmp.1 hb))
        obtain ⟨e1, e2⟩ := left_next (left := 0) (c := 0) hL h1
        refine ⟨Q, g1, Ev.step (fun k => nat_guess.l10_eq ..) (Ev.pos hc ?_)⟩
        rw [hLm, q_dec hq, e1, e2]
        exact Ev.bind (beyond_ev hq h0 hL hu) (Ev.pos (decide_eq_true hb) g2)
      · refine ⟨q + 1, ⟨hq, Nat.le_of_not_lt fun h => hb (hcmp.2 h), hm⟩, Ev.step (fun k => nat_guess.l10_eq ..) (Ev.pos hc ?_)⟩
        rw [hLm]
        exact Ev.bind (beyond_ev hq h0 hL hu) (Ev.neg (by rw [decide_eq_false hb]; decide) (Ev.now _))
    · refine ⟨q + 1, ⟨hq, fit_over hM hT hW hq h0 (by clear hM hm hT hW; omega), hm⟩, Ev.step (fun k => nat_guess.l10_eq ..) (Ev.neg hc (Ev.now _))⟩
theorem guess_first {q v1 v0 u0 T W M : Nat} (hT : T = M * 18446744073709551616 + u0) (hW : W = v1 * 18446744073709551616 + v0) (hu : u0 < 18446744073709551616) (h : M < (q + 1) * v1) : T < (q + 1) * W := by
  have h2 : (q + 1) * W = (q + 1) * v1 * 18446744073709551616 + (q + 1) * v0 := by rw [hW]; grind
  rw [h2, hT]
  generalize (q + 1) * v1 = a at *
  generalize (q + 1) * v0 = b at *
  omega
theorem guess_ev {u2 u1 u0 v1 v0 : Nat} (hu1 : u1 < 18446744073709551616) (hu0 : u0 < 18446744073709551616) (h1 : v1 < 18446744073709551616) (h0 : v0 < 18446744073709551616) (hp : 0 < v1) (h2 : u2 ≤ v1) :
    ∃ Q, Fit ((u2 * 18446744073709551616 + u1) * 18446744073709551616 + u0) (v1 * 18446744073709551616 + v0) Q ∧ Ev (fun k => nat_guess.f k (u2 : Int) (u1 : Int) (u0 : Int) (v1 : Int) (v0 : Int)) (Q : Int) := by
  by_cases h : (u2 : Int) ≥ (v1 : Int)
  · have e : u2 = v1 := by omega
    obtain ⟨e1, e2⟩ := left_next (left := 0) (c := 0) hu1 h1
    obtain ⟨Q, g1, g2⟩ := guess_l4 (M := u2 * 18446744073709551616 + u1) h1 h0 hu0 rfl rfl 18446744073709551615 (u1 + v1) (by decide) (by rw [e]; omega) (.inl rfl)
    refine ⟨Q, g1, Ev.congr (fun k => nat_guess.f_eq ..) (Ev.pos h ?_)⟩
    rw [e1, e2]
    exact g2
  · have hlt : u2 < v1 := by omega
    have hdm := Nat.div_add_mod (u2 * 18446744073709551616 + u1) v1
    have hml := Nat.mod_lt (u2 * 18446744073709551616 + u1) hp
    have hq : (u2 * 18446744073709551616 + u1) / v1 < 18446744073709551616 := by
      apply Nat.div_lt_of_lt_mul
      rw [Nat.mul_comm]; clear hdm hml; omega
    obtain ⟨Q, g1, g2⟩ := guess_l10 (M := u2 * 18446744073709551616 + u1) h1 h0 hu0 rfl rfl _ ((u2 * 18446744073709551616 + u1) % v1) hq (by rw [Nat.mul_comm]; exact hdm) (.inr (guess_first rfl rfl hu0 (by
      rw [Nat.add_mul, Nat.one_mul, ← Nat.mul_comm v1]; clear hq; generalize v1 * ((u2 * 18446744073709551616 + u1) / v1) = a at *; omega)))
    refine ⟨Q, g1, Ev.congr (fun k => nat_guess.f_eq ..) (Ev.neg h (Ev.bind (d64_nat hlt h1 hu1) ?_))⟩
    have hmm : (u2 * 18446744073709551616 + u1) % v1 < 18446744073709551616 := Nat.lt_trans hml h1
    rw [Nat.mod_eq_of_lt hmm, Nat.div_eq_of_lt hmm] at g2
    exact g2
end Go.Proofs.Yteoeacndpgomaaa.Pure
end
section
/-
  Long division: what nat.DivMod computes. Conditions: all are words, no list is longer than 900000 words.
-/
namespace Go.Proofs.Yteoeacndpgomaaa.Pure
open Go.RowKit Go.Proofs.Yteoeacndpgomaaa.F Go.Proofs.YteoeacndpgomaaaW.PrintWords Go.Proofs.YteoeacndpgomaaaW.PrintLast Go.Proofs.YteoeacndpgomaaaW.PrintMore
open Go.Proofs.Yteoeacndpgomaaa.E (adS adC sbS sbC)
set_option linter.unusedVariables false
set_option linter.unusedSimpArgs false

theorem digit_core {N V P R T W Q K2 : Nat} (hP : 0 < P) (hR : 0 < R) (hT : T = N / (P * R)) (hW : W = V / R) (hV : 18446744073709551616 * 18446744073709551616 * R ≤ 2 * V) (hN : N < P * 18446744073709551616 * V) (f : Fit T W Q) : N / (P * V) ≤ Q ∧ Q ≤ N / (P * V) + 1 := by
  have hVp : 0 < V := Nat.pos_of_ne_zero fun h => by rw [h, Nat.mul_zero] at hN; exact absurd hN (Nat.not_lt_zero _)
  have hPV : 0 < P * V := Nat.mul_pos hP hVp
  have hPR : 0 < P * R := Nat.mul_pos hP hR
  have hqN : N / (P * V) * (P * V) ≤ N := Nat.div_mul_le_self _ _
  have hNq : N < (N / (P * V) + 1) * (P * V) := by rw [Nat.mul_comm]; exact Nat.lt_mul_div_succ N hPV
  have hWR : W * R ≤ V := by rw [hW]; exact Nat.div_mul_le_self _ _
  have hVW : V < (W + 1) * R := by rw [hW, Nat.mul_comm]; exact Nat.lt_mul_div_succ V hR
  have hqB : N / (P * V) < 18446744073709551616 := by
    apply Nat.div_lt_of_lt_mul
    have e : P * V * 18446744073709551616 = P * 18446744073709551616 * V := by grind
    rw [e]; exact hN
  have hWB : 18446744073709551616 ≤ W := by
    rw [hW]
    apply (Nat.le_div_iff_mul_le hR).2
    have h1 : 18446744073709551616 * 18446744073709551616 * R = 2 * (9223372036854775808 * 18446744073709551616 * R) := by grind
    rw [h1] at hV
    have h2 := Nat.le_of_mul_le_mul_left hV (by decide)
    refine Nat.le_trans (Nat.mul_le_mul_right R ?_) h2
    decide
  generalize N / (P * V) = q at *
  constructor
  · rcases f.max with h | h
    · rw [h]; omega
    · have h1 : q * W ≤ T := by
        rw [hT]
        apply (Nat.le_div_iff_mul_le hPR).2
        have e : q * W * (P * R) = q * P * (W * R) := by grind
        rw [e]
        refine Nat.le_trans (Nat.mul_le_mul_left (q * P) hWR) ?_
        rw [Nat.mul_assoc]; exact hqN
      have h2 := Nat.lt_of_le_of_lt h1 h
      exact Nat.le_of_lt_succ (Nat.lt_of_mul_lt_mul_right h2)
  · apply Nat.le_of_not_lt
    intro h
    have hle := f.le
    rw [hT] at hle
    have h1 := (Nat.le_div_iff_mul_le hPR).1 hle
    have h2 : (q + 1) * (P * V) ≤ (Q - 1) * (P * V) := Nat.mul_le_mul_right _ (by omega)
    have h3 : (Q - 1) * (P * V) ≤ (Q - 1) * (W + 1) * (P * R) := by
      have e : (Q - 1) * (W + 1) * (P * R) = (Q - 1) * (P * ((W + 1) * R)) := by grind
      rw [e]
      exact Nat.mul_le_mul_left _ (Nat.mul_le_mul_left _ (Nat.le_of_lt hVW))
    have h4 : Q * W * (P * R) < (Q - 1) * (W + 1) * (P * R) := Nat.lt_of_le_of_lt h1 (Nat.lt_of_lt_of_le hNq (Nat.le_trans h2 h3))
    have h5 := Nat.lt_of_mul_lt_mul_right h4
    have hQ := f.lt
    obtain ⟨Q', rfl⟩ : ∃ m, Q = m + 1 := ⟨Q - 1, by omega⟩
    rw [Nat.add_sub_cancel, Nat.add_mul, Nat.mul_add, Nat.one_mul, Nat.mul_one] at h5
    omega
theorem nv_drop_div {l : List Int} (hw : WF l) (p : Nat) : nv (l.drop p) = nv l / 18446744073709551616 ^ p := by
  by_cases h : p ≤ l.length
  · have h1 := nv_lt (hw.take p)
    rw [List.length_take, Nat.min_eq_left h] at h1
    exact (dm_of (nv_split l p h) h1).2.symm
  · rw [List.drop_of_length_le (by omega), Nat.div_eq_of_lt (pow_up (nv_lt hw) (by omega))]; rfl
theorem div_limb {l : List Int} (hw : WF l) {p a : Nat} (h : rd l (p : Int) = (a : Int)) : nv l / 18446744073709551616 ^ p = a + 18446744073709551616 * (nv l / 18446744073709551616 ^ (p + 1)) := by
  have h1 := nv_drop_mod hw p
  rw [h, nv_drop_div hw] at h1
  have h2 : a = nv l / 18446744073709551616 ^ p % 18446744073709551616 := Int.ofNat_inj.1 h1
  have h3 := Nat.mod_add_div (nv l / 18446744073709551616 ^ p) 18446744073709551616
  rw [← h2, Nat.div_div_eq_div_mul, ← Nat.pow_succ] at h3
  exact h3.symm
theorem three_words {u : List Int} (hw : WF u) {p u0 u1 u2 : Nat} (h0 : rd u (p : Int) = (u0 : Int)) (h1 : rd u ((p + 1 : Nat) : Int) = (u1 : Int)) (h2 : rd u ((p + 2 : Nat) : Int) = (u2 : Int)) (hz : nv u < 18446744073709551616 ^ (p + 3)) : nv u / 18446744073709551616 ^ p = (u2 * 18446744073709551616 + u1) * 18446744073709551616 + u0 ∧ u2 = nv u / 18446744073709551616 ^ (p + 2) := by
  have e0 := div_limb hw h0
  have e1 := div_limb hw h1
  have e2 := div_limb hw h2
  rw [show p + 2 + 1 = p + 3 from rfl, Nat.div_eq_of_lt hz] at e2
  rw [e0, e1, e2]
  omega
theorem two_words {v : List Int} (hw : WF v) {p v0 v1 : Nat} (h0 : rd v (p : Int) = (v0 : Int)) (h1 : rd v ((p + 1 : Nat) : Int) = (v1 : Int)) (hz : nv v < 18446744073709551616 ^ (p + 2)) : nv v / 18446744073709551616 ^ p = v1 * 18446744073709551616 + v0 ∧ v1 = nv v / 18446744073709551616 ^ (p + 1) := by
  have e0 := div_limb hw h0
  have e1 := div_limb hw h1
  rw [show p + 1 + 1 = p + 2 from rfl, Nat.div_eq_of_lt hz] at e1
  rw [e0, e1]
  omega
theorem first_le {N V P A v1 u2 : Nat} (hA : 0 < A) (hP : 0 < P) (hN : N < P * V) (h1 : v1 = V / A) (h2 : u2 = N / (P * A)) : u2 ≤ v1 := by
  rw [h2]
  apply Nat.le_of_lt_succ
  apply Nat.div_lt_of_lt_mul
  refine Nat.lt_of_lt_of_le hN ?_
  rw [Nat.mul_assoc]
  refine Nat.mul_le_mul_left P ?_
  rw [h1]
  exact Nat.le_of_lt (Nat.lt_mul_div_succ V hA)
/-- A guess that was none too great. -/
theorem step_fine {N V P Q U' : Nat} (hPV : 0 < P * V) (h : U' + Q * V * P = N) (hq : N / (P * V) ≤ Q) : Q = N / (P * V) ∧ U' < P * V := by
  have e : Q * V * P = P * V * Q := by grind
  rw [e] at h
  have h1 : Q ≤ N / (P * V) := (Nat.le_div_iff_mul_le hPV).2 (by rw [Nat.mul_comm]; omega)
  have h2 : Q = N / (P * V) := Nat.le_antisymm h1 hq
  refine ⟨h2, ?_⟩
  have h3 := Nat.div_add_mod N (P * V)
  have h4 := Nat.mod_lt N hPV
  rw [← h2] at h3
  omega
/-- A guess that was one too great. -/
theorem step_back {N V P Q U' U'' E b2 : Nat} (hPV : 0 < P * V) (h : U' + Q * V * P = N + E) (hq : Q ≤ N / (P * V) + 1) (hU' : U' < E) (hU'' : U'' < E) (hb : b2 ≤ 1) (h2 : U'' + E * b2 = U' + V * P) : ∃ q, Q = q + 1 ∧ U'' + q * V * P = N ∧ U'' < P * V := by
  have e : Q * V * P = P * V * Q := by grind
  rw [e] at h
  have h1 : N < P * V * Q := by omega
  have h3 : N / (P * V) < Q := Nat.div_lt_of_lt_mul h1
  have h4 : Q = N / (P * V) + 1 := by omega
  refine ⟨N / (P * V), h4, ?_⟩
  have h5 := Nat.div_add_mod N (P * V)
  have h6 := Nat.mod_lt N hPV
  have e2 : N / (P * V) * V * P = P * V * (N / (P * V)) := by grind
  have e3 : P * V * Q = P * V * (N / (P * V)) + P * V := by rw [h4, Nat.mul_add, Nat.mul_one]
  rw [e2]
  rw [e3] at h
  rw [Nat.mul_comm V P] at h2
  have hb2 : b2 = 1 := by
    rcases Nat.lt_or_ge b2 1 with h0 | h0
    · have : b2 = 0 := by omega
      rw [this, Nat.mul_zero, Nat.add_zero] at h2
      omega
    · omega
  rw [hb2, Nat.mul_one] at h2
  clear e e2 e3 h1 h3 h4
  generalize N / (P * V) = q at *
  generalize P * V * q = z at *
  omega
theorem same_top {u u' : List Int} (hu : WF u) (hu' : WF u') {p : Nat} (h : u'.drop p = u.drop p) (hz : nv u < 18446744073709551616 ^ p) : nv u' < 18446744073709551616 ^ p := by
  have h1 := nv_drop_div hu' p
  rw [h, nv_drop_div hu, Nat.div_eq_of_lt hz] at h1
  have hp : 0 < 18446744073709551616 ^ p := Nat.pow_pos (by decide)
  apply Nat.lt_of_not_le
  intro h2
  have := Nat.div_pos h2 hp
  omega
theorem quot_end {X V U Q : Nat} (h : U + Q * V = X) (hU : U < V) : Q = X / V ∧ U = X % V := by
  have := dm_of (a := X) (p := U) (q := Q) (P := V) (by rw [← h, Nat.mul_comm]) hU
  exact ⟨this.2.symm, this.1.symm⟩
theorem quot_step {U N q V P X Q' Q : Nat} (h1 : U + q * V * P = N) (h2 : N + Q * V = X) (h3 : Q' = Q + q * P) : U + Q' * V = X := by
  rw [h3, ← h2, ← h1]; grind
theorem idx1 {n K2 : Nat} (h : n + K2 + 2 ≤ 1099511627779) : wrap64 ((n : Int) + ((K2 + 2 : Nat) : Int)) = ((n + K2 + 2 : Nat) : Int) := w64_add (Nat.le_trans h (by decide))
theorem idx2 {n K2 : Nat} (h : n + K2 + 2 ≤ 1099511627779) : wrap64 (((n + K2 + 2 : Nat) : Int) - 1) = ((n + K2 + 1 : Nat) : Int) := w64_pred (by omega)
theorem idx3 {n K2 : Nat} (h : n + K2 + 2 ≤ 1099511627779) : wrap64 (((n + K2 + 2 : Nat) : Int) - 2) = ((n + K2 : Nat) : Int) := by rw [w64_of (by omega) (by omega)]; omega
theorem idx4 {n K2 : Nat} (h : n + K2 + 2 ≤ 1099511627779) : wrap64 (((K2 + 2 : Nat) : Int) - 1) = ((K2 + 1 : Nat) : Int) := w64_pred (by omega)
theorem idx5 {n K2 : Nat} (h : n + K2 + 2 ≤ 1099511627779) : wrap64 (((K2 + 2 : Nat) : Int) - 2) = (K2 : Int) := by rw [w64_of (by omega) (by omega)]; omega
theorem dm_l14 (v : List Int) (hv : WF v) (K2 s m X : Nat) (hK : v.length = K2 + 2) (hs : s ≤ 63) (hL : m + (K2 + 2) ≤ 1000000) (hn : 18446744073709551616 ^ (K2 + 2) ≤ 2 * nv v) :
    ∀ (n : Nat) (u Q : List Int), n ≤ m → u.length = m + (K2 + 2) → WF u → nv u < 18446744073709551616 ^ n * nv v → Q.length = m → WF Q → nv (Q.take n) = 0 → nv u + nv Q * nv v = X →
    Ev (fun k => nat_DivMod.l14 k (s : Int) u v ((K2 + 2 : Nat) : Int) Q ((n : Int) - 1)) (limbs (X / nv v), limbs (X % nv v / 2 ^ s), 0) := by
  intro n
  induction n with
  | zero =>
    intro u Q _ hu hW hN hQ hWQ hz hX
    rw [Nat.pow_zero, Nat.one_mul] at hN
    obtain ⟨e1, e2⟩ := quot_end hX hN
    have g1 := shr_ev hW (by rw [hu]; exact hL) (show s < 9223372036854775808 by omega)
    have g2 := trim_ev hWQ (by rw [hQ]; clear hn hN hX e1 e2; omega)
    rw [e2] at g1
    rw [e1] at g2
    have w : wrap64 (s : Int) = (s : Int) := by
      clear hN hX e1 e2 hn g1 g2
      exact w64_nat (by omega)
    refine Ev.step (fun k => nat_DivMod.l14_eq ..) (Ev.neg (by decide) ?_)
    rw [w]
    exact Ev.bind g1 (Ev.bind g2 (Ev.now _))
  | succ n ih =>
    intro u Q hnm hu hW hN hQ hWQ hz hX
    have hB : ∀ p, 0 < 18446744073709551616 ^ p := fun p => Nat.pow_pos (by decide)
    have hVlt := nv_lt hv
    rw [hK] at hVlt
    have hVp : 0 < nv v := Nat.pos_of_ne_zero fun h => by rw [h] at hn; exact absurd hn (Nat.not_le.2 (hB _))
    have hPV : 0 < 18446744073709551616 ^ n * nv v := Nat.mul_pos (hB _) hVp
    have hj : n + v.length < u.length := by clear hn hN hX hVlt hPV; omega
    have hul : u.length ≤ 1000000 := by rw [hu]; exact hL
    have hE : nv u < 18446744073709551616 ^ (n + K2 + 3) := by
      have e : n + K2 + 3 = (n + 1) + (K2 + 2) := by omega
      rw [e, Nat.pow_add]
      exact Nat.lt_of_lt_of_le hN (Nat.mul_le_mul_left _ (Nat.le_of_lt hVlt))
    have hE' : nv u < 18446744073709551616 ^ (n + v.length + 1) := by rw [hK]; exact hE
    obtain ⟨u0, r0, b0⟩ := rd_word hW ((n + K2 : Nat) : Int)
    obtain ⟨u1, r1, b1⟩ := rd_word hW ((n + K2 + 1 : Nat) : Int)
    obtain ⟨u2, r2, b2⟩ := rd_word hW ((n + K2 + 2 : Nat) : Int)
    obtain ⟨v0, s0, c0⟩ := rd_word hv ((K2 : Nat) : Int)
    obtain ⟨v1, s1, c1⟩ := rd_word hv ((K2 + 1 : Nat) : Int)
    obtain ⟨t1, t2⟩ := three_words hW r0 r1 r2 hE
    obtain ⟨x1, x2⟩ := two_words hv s0 s1 hVlt
    have hle : u2 ≤ v1 := first_le (P := 18446744073709551616 ^ (n + 1)) (A := 18446744073709551616 ^ (K2 + 1)) (hB _) (hB _) hN x2 (by rw [t2, ← Nat.pow_add]; congr 2; omega)
    have hv1p : 0 < v1 := by
      rw [x2]
      apply Nat.div_pos _ (hB _)
      have e : 18446744073709551616 ^ (K2 + 2) = 2 * (9223372036854775808 * 18446744073709551616 ^ (K2 + 1)) := by rw [Nat.pow_succ]; grind
      rw [e] at hn
      exact Nat.le_trans (Nat.le_mul_of_pos_left _ (by decide)) (Nat.le_of_mul_le_mul_left hn (by decide))
    obtain ⟨G, fit, gev⟩ := guess_ev b1 b0 c1 c0 hv1p hle
    rw [← t1, ← x1] at fit
    have hcore := digit_core (N := nv u) (V := nv v) (P := 18446744073709551616 ^ n) (R := 18446744073709551616 ^ K2) (K2 := 0) (hB _) (hB _) (by rw [← Nat.pow_add]) rfl (by
      have e : 18446744073709551616 ^ (K2 + 2) = 18446744073709551616 * 18446744073709551616 * 18446744073709551616 ^ K2 := by rw [Nat.pow_succ, Nat.pow_succ]; grind
      rw [← e]; exact hn) (by rw [← Nat.pow_succ]; exact hN) fit
    obtain ⟨ua, b, la, wa, hb, da, na, gta⟩ := takes_ev hW hv fit.lt hul hj
    have hUa := same_top hW wa da hE'
    have hnQ : n < Q.length := by rw [hQ]; exact hnm
    have hQn : Q[n].toNat = 0 := by
      have h1 := nv_take_succ Q n hnQ
      rw [hz] at h1
      rcases Nat.eq_zero_or_pos Q[n].toNat with h | h
      · exact h
      · have := Nat.mul_pos (hB n) h; omega
    have hzn : nv (Q.take n) = 0 := by
      have h1 := nv_take_succ Q n hnQ
      rw [hz] at h1; omega
    have hset : ∀ q : Nat, nv (Q.set n (q : Int)) = nv Q + q * 18446744073709551616 ^ n := fun q => by
      have h1 := nv_set Q n (q : Int) hnQ
      rw [hQn, Nat.zero_mul, Nat.add_zero, Int.toNat_natCast] at h1
      exact h1
    -- the code's reads
    have i1 : n + (K2 + 2) < u.length := by rw [hu]; clear hn hN hX hVlt hPV hE hE' t1 t2 x1 x2 hcore na hset hQn hzn hz hUa; omega
    have step : ∀ (R : List Int × List Int × Int), Ev (fun k => (nat_takes.f k u v (G : Int) (n : Int)).bind fun bt228 => if bt228.1 = true then ((nat_gives.f k bt228.2 v (n : Int)).bind fun t230 => (if 0 ≤ (n : Int) then (if (n : Int) < (Q.length : Int) then (nat_DivMod.l14 k (s : Int) t230 v ((K2 + 2 : Nat) : Int) (Q.set n (IntKind.u64.wrap ((G : Int) - 1))) (wrap64 ((n : Int) - 1))) else (none)) else (none))) else (if 0 ≤ (n : Int) then (if (n : Int) < (Q.length : Int) then (nat_DivMod.l14 k (s : Int) bt228.2 v ((K2 + 2 : Nat) : Int) (Q.set n (G : Int)) (wrap64 ((n : Int) - 1))) else (none)) else (none))) R → Ev (fun k => nat_DivMod.l14 k (s : Int) u v ((K2 + 2 : Nat) : Int) Q (((n + 1 : Nat) : Int) - 1)) R := by
      intro R hR
      clear hn hN hX hVlt hPV hE hE' t1 t2 x1 x2 hcore na hset hQn hzn hz hUa
      have e0 : ((n + 1 : Nat) : Int) - 1 = (n : Int) := by omega
      have q0 : n + K2 + 2 ≤ 1099511627779 := by omega
      have q1 : ((n + K2 + 2 : Nat) : Int) < (u.length : Int) := by omega
      have q2 : ((n + K2 + 1 : Nat) : Int) < (u.length : Int) := by omega
      have q3 : ((n + K2 : Nat) : Int) < (u.length : Int) := by omega
      have q4 : ((K2 + 1 : Nat) : Int) < (v.length : Int) := by omega
      have q5 : (K2 : Int) < (v.length : Int) := by omega
      refine Ev.step (fun k => nat_DivMod.l14_eq ..) ?_
      rw [e0, idx1 q0, idx2 q0, idx3 q0, idx4 q0, idx5 q0, r2, r1, r0, s1, s0, Int.toNat_natCast]
      exact Ev.pos (Int.natCast_nonneg n) (Ev.pos (Int.natCast_nonneg (n + K2 + 2)) (Ev.pos q1 (Ev.pos (Int.natCast_nonneg (n + K2 + 1)) (Ev.pos q2 (Ev.pos (Int.natCast_nonneg (n + K2)) (Ev.pos q3 (Ev.pos (Int.natCast_nonneg (K2 + 1)) (Ev.pos q4 (Ev.pos (Int.natCast_nonneg K2) (Ev.pos q5 (Ev.bind gev hR)))))))))))
    have hUG : U (G : Int) := ⟨Int.natCast_nonneg _, Int.ofNat_lt.2 fit.lt⟩
    have w1 : wrap64 ((n : Int) - 1) = (n : Int) - 1 := w64_dec (by clear hn hN hX hVlt hPV hE hE' t1 t2 x1 x2 hcore na hset hQn hzn hz hUa; omega)
    have hnQi : (n : Int) < (Q.length : Int) := Int.ofNat_lt.2 hnQ
    have hn0 := Int.natCast_nonneg n
    apply step
    refine Ev.bind gta ?_
    rw [w1]
    rcases Nat.eq_zero_or_pos b with hb0 | hb0
    · subst hb0
      rw [Nat.mul_zero, Nat.add_zero] at na
      obtain ⟨f1, f2⟩ := step_fine hPV na hcore.1
      have g := ih ua (Q.set n (G : Int)) (Nat.le_of_lt hnm) (by rw [la]; exact hu) wa f2 (by rw [List.length_set]; exact hQ) (hWQ.set n hUG) (by rw [List.take_set_of_le (Nat.le_refl n)]; exact hzn) (quot_step na hX (hset G))
      exact Ev.congr (fun k => if_neg (show ¬ decide (((0 : Nat) : Int) > 0) = true by decide)) (Ev.congr (fun k => if_pos hn0) (Ev.congr (fun k => if_pos hnQi) g))
    · have hb1 : b = 1 := Nat.le_antisymm hb hb0
      subst hb1
      rw [Nat.mul_one] at na
      obtain ⟨ug, b2, lg, wg, hb2, dg, ng, ggv⟩ := gives_ev wa hv (j := n) (by rw [la]; exact hul) (by rw [la]; exact hj)
      have hUg := same_top wa wg dg hUa
      obtain ⟨q, f0, f1, f2⟩ := step_back hPV na hcore.2 hUa hUg hb2 ng
      subst f0
      have hUq : U (q : Int) := ⟨Int.natCast_nonneg _, Int.ofNat_lt.2 (Nat.lt_of_succ_lt fit.lt)⟩
      have g := ih ug (Q.set n (q : Int)) (Nat.le_of_lt hnm) (by rw [lg, la]; exact hu) wg f2 (by rw [List.length_set]; exact hQ) (hWQ.set n hUq) (by rw [List.take_set_of_le (Nat.le_refl n)]; exact hzn) (quot_step f1 hX (hset q))
      rw [q_dec fit.lt]
      exact Ev.congr (fun k => if_pos (show decide (((1 : Nat) : Int) > 0) = true by decide)) (Ev.bind ggv (Ev.congr (fun k => if_pos hn0) (Ev.congr (fun k => if_pos hnQi) g)))

/-! ### DivMod -/
theorem limbs_one {b : Nat} (h0 : b ≠ 0) (h : b < 18446744073709551616) : limbs b = [(b : Int)] := by
  rw [limbs_pos h0, Nat.div_eq_of_lt h, limbs_zero, Nat.mod_eq_of_lt h]
theorem half_b {P z : Nat} (h : P * 9223372036854775808 ≤ z) : P * 18446744073709551616 ≤ 2 * z := by
  have e : P * 18446744073709551616 = 2 * (P * 9223372036854775808) := by rw [Nat.mul_left_comm]
  rw [e]; exact Nat.mul_le_mul_left 2 h
/-- A number moved up so far that its highest bit is a word's highest. -/
theorem norm_num {b w : Nat} {t : List Int} (ht : WF t) (hw0 : 0 < w) (hw : w < 18446744073709551616) (hb : b = nv t + 18446744073709551616 ^ t.length * w) : 18446744073709551616 ^ (t.length + 1) ≤ 2 * (b * 2 ^ (64 - bits w)) ∧ b * 2 ^ (64 - bits w) < 18446744073709551616 ^ (t.length + 1) := by
  obtain ⟨n1, n2, n3⟩ := norm_y hw0 hw
  have h1 := nv_lt ht
  have h2 := lt_bits w
  have hbl := bits_le64 hw
  have e1 : (18446744073709551616 : Nat) = 2 ^ bits w * 2 ^ (64 - bits w) := by rw [← Nat.pow_add, Nat.add_sub_cancel' hbl]
  have h3 : (w + 1) * 2 ^ (64 - bits w) ≤ 18446744073709551616 := by rw [e1]; exact Nat.mul_le_mul_right _ h2
  have h4 : b < 18446744073709551616 ^ t.length * (w + 1) := by rw [hb, Nat.mul_add, Nat.mul_one]; clear e1 h3; omega
  have hp : 0 < 2 ^ (64 - bits w) := Nat.pow_pos (by decide)
  rw [Nat.pow_succ]
  constructor
  · have h5 : 18446744073709551616 ^ t.length * w ≤ b := by rw [hb]; exact Nat.le_add_left _ _
    have h6 := Nat.mul_le_mul_right (2 ^ (64 - bits w)) h5
    have h7 := Nat.mul_le_mul_left (18446744073709551616 ^ t.length) n1
    rw [Nat.mul_assoc] at h6
    have h8 := Nat.le_trans h7 h6
    exact half_b h8
  · have h5 := Nat.mul_lt_mul_of_pos_right h4 hp
    rw [Nat.mul_assoc] at h5
    exact Nat.lt_of_lt_of_le h5 (Nat.mul_le_mul_left _ h3)
theorem limbs_length_of {c p : Nat} (h1 : 18446744073709551616 ^ (p + 1) ≤ 2 * c) (h2 : c < 18446744073709551616 ^ (p + 1)) : (limbs c).length = p + 1 := by
  apply Nat.le_antisymm (limbs_length_le h2)
  apply Nat.lt_of_not_le
  intro h3
  have h4 := pow_up (lt_pow_limbs c) h3
  rw [Nat.pow_succ] at h1
  have hp : 0 < 18446744073709551616 ^ p := Nat.pow_pos (by decide)
  generalize 18446744073709551616 ^ p = P at *
  omega
theorem start_lt {a s V m la K : Nat} (ha : a < 18446744073709551616 ^ la) (hs : s ≤ 63) (hV : 18446744073709551616 ^ K ≤ 2 * V) (hm : m + K = la + 1) : a * 2 ^ s < 18446744073709551616 ^ m * V := by
  have h1 : a * 2 ^ s * 2 ≤ a * 18446744073709551616 := by
    rw [Nat.mul_assoc, ← Nat.pow_succ]
    refine Nat.mul_le_mul_left a ?_
    have : 2 ^ (s + 1) ≤ 2 ^ 64 := Nat.pow_le_pow_right (by decide) (by omega)
    exact this
  have h2 : a * 18446744073709551616 < 18446744073709551616 ^ (la + 1) := by rw [Nat.pow_succ]; exact Nat.mul_lt_mul_of_pos_right ha (by decide)
  have h3 := Nat.mul_le_mul_left (18446744073709551616 ^ m) hV
  rw [← Nat.pow_add, hm] at h3
  have h4 : 18446744073709551616 ^ m * (2 * V) = 2 * (18446744073709551616 ^ m * V) := by grind
  rw [h4] at h3
  have h5 := Nat.lt_of_le_of_lt h1 (Nat.lt_of_lt_of_le h2 h3)
  clear h1 h2 h3 h4 ha hV
  generalize a * 2 ^ s = z at *
  generalize 18446744073709551616 ^ m * V = y at *
  omega
theorem dm_len {la t : Nat} (h : la + 1 = la - t + (t + 1)) (h2 : la ≤ 1099511627775) : wrap64 (((la + 1 : Nat) : Int) - ((t + 1 : Nat) : Int)) = ((la - t : Nat) : Int) := by
  rw [w64_of (by omega) (by omega)]; omega
theorem dm_zero {x y : List Int} (hx : WF x) (hy : WF y) (lx : x.length ≤ 900000) (ly : y.length ≤ 900000) (h : nv y = 0) : Ev (fun k => nat_DivMod.f k x y) ([], [], 10) := by
  have gy := trim_ev hy (Nat.le_trans ly (by decide))
  rw [h, limbs_zero] at gy
  exact Ev.congr (fun k => nat_DivMod.f_eq ..) (Ev.bind (trim_ev hx (Nat.le_trans lx (by decide))) (Ev.bind gy (Ev.pos rfl (Ev.now _))))
theorem dm_ev {x y : List Int} (hx : WF x) (hy : WF y) (lx : x.length ≤ 900000) (ly : y.length ≤ 900000) (h : nv y ≠ 0) : Ev (fun k => nat_DivMod.f k x y) (limbs (nv x / nv y), limbs (nv x % nv y), 0) := by
  refine Ev.congr (fun k => nat_DivMod.f_eq ..) (Ev.bind (trim_ev hx (Nat.le_trans lx (by decide))) (Ev.bind (trim_ev hy (Nat.le_trans ly (by decide))) ?_))
  have la : (limbs (nv x)).length ≤ 900000 := Nat.le_trans (limbs_length_le (nv_lt hx)) lx
  have lb : (limbs (nv y)).length ≤ 900000 := Nat.le_trans (limbs_length_le (nv_lt hy)) ly
  generalize nv x = a at *
  generalize nv y = b at *
  have hbp := limbs_length_pos h
  refine Ev.congr (fun k => if_neg (by omega)) ?_
  have gc := cmp_ev (limbs_WF a) (limbs_WF b) (Nat.le_trans la (by decide)) (Nat.le_trans lb (by decide))
  rw [nv_limbs, nv_limbs] at gc
  refine Ev.bind gc ?_
  by_cases hab : a < b
  · have hc : cmpI a b < 0 := by rw [cmpI, if_pos hab]; decide
    have gn := norm_ev (limbs_WF a) (Nat.le_trans la (by decide))
    rw [nv_limbs] at gn
    rw [Nat.div_eq_of_lt hab, Nat.mod_eq_of_lt hab, limbs_zero]
    exact Ev.congr (fun k => if_pos hc) (Ev.bind gn (Ev.now _))
  · have hc : ¬ cmpI a b < 0 := fun h4 => hab (by
      unfold cmpI at h4
      by_cases h5 : a < b
      · exact h5
      · rw [if_neg h5] at h4
        by_cases h6 : a = b
        · rw [if_pos h6] at h4; exact absurd h4 (by decide)
        · rw [if_neg h6] at h4; exact absurd h4 (by decide))
    refine Ev.congr (fun k => if_neg hc) ?_
    by_cases h1 : (limbs b).length = 1
    · refine Ev.congr (fun k => if_pos (by omega)) (Ev.congr (fun k => if_pos (by omega)) ?_)
      have hb64 : b < 18446744073709551616 := by
        have := lt_pow_limbs b
        rw [h1, Nat.pow_one] at this; exact this
      have hr : rd (limbs b) 0 = (b : Int) := by rw [limbs_one h hb64]; rfl
      rw [hr]
      have gd := divw_ev (limbs_WF a) (Nat.le_trans la (by decide)) (Nat.pos_of_ne_zero h) hb64
      rw [nv_limbs] at gd
      have hm := Nat.mod_lt a (Nat.pos_of_ne_zero h)
      have hU : WF [((a % b : Nat) : Int)] := WF.cons ⟨Int.natCast_nonneg _, Int.ofNat_lt.2 (Nat.lt_trans hm hb64)⟩ WF.nil
      have gn := norm_ev hU (by simp)
      rw [nv_one] at gn
      exact Ev.bind gd (Ev.bind gn (Ev.now _))
    · refine Ev.congr (fun k => if_neg (by omega)) ?_
      obtain ⟨t, v, e, ht, hv, hv0⟩ := limbs_take_last h
      obtain ⟨w, rfl⟩ := Int.eq_ofNat_of_zero_le hv.1
      have hw : w < 18446744073709551616 := Int.ofNat_lt.1 hv.2
      have hw0 : 0 < w := Nat.pos_of_ne_zero fun h => hv0 (by rw [h]; rfl)
      have eb : b = nv t + 18446744073709551616 ^ t.length * w := by
        have h1 := nv_limbs b
        rw [e, nv_append, nv_one] at h1
        exact h1.symm
      have hlen : (limbs b).length = t.length + 1 := by rw [e, List.length_append]; rfl
      have hr : rd (limbs b) (t.length : Int) = (w : Int) := by
        have h2 : t.length < (limbs b).length := by rw [hlen]; exact Nat.lt_succ_self _
        rw [rd_of rfl h2]
        simp [e]
      obtain ⟨n1, n2⟩ := norm_num ht hw0 hw eb
      obtain ⟨-, -, hs⟩ := norm_y hw0 hw
      have hK := limbs_length_of n1 n2
      have hlab := limbs_length_mono (Nat.le_of_not_lt hab)
      obtain ⟨K2, hK2⟩ : ∃ m, t.length = m + 1 := ⟨t.length - 1, by clear eb n1 n2; omega⟩
      obtain ⟨ou, u1, u2, u3, u4⟩ := shifted_ev (limbs_WF a) (Nat.le_trans la (by decide)) hs
      obtain ⟨ov, v1, v2, v3, v4⟩ := shifted_ev (limbs_WF b) (Nat.le_trans lb (by decide)) hs
      rw [nv_limbs] at u3 v3
      have gv := trim_ev v2 (by rw [v1]; clear eb n1 n2 u3 v3; omega)
      rw [v3] at gv
      have hlz := lz64_ev hw
      have hms : (limbs a).length + 1 = (limbs a).length - t.length + (t.length + 1) := by clear eb n1 n2 u3 v3; omega
      have hst := start_lt (lt_pow_limbs a) hs n1 hms.symm
      have q0 : ((limbs b).length : Int) - 1 = (t.length : Int) := by rw [hlen]; clear eb n1 n2 u3 v3 hst; omega
      have q1 : wrap64 (((limbs b).length : Int) - 1) = (t.length : Int) := by rw [w64_dec (Nat.le_trans lb (by decide)), q0]
      have q2 : wrap64 ((ou.length : Int) - ((limbs (b * 2 ^ (64 - bits w))).length : Int)) = (((limbs a).length - t.length : Nat) : Int) := by
        rw [hK, u1]; exact dm_len hms (Nat.le_trans la (by decide))
      have q3 : (t.length : Int) < ((limbs b).length : Int) := by rw [hlen]; clear eb n1 n2 u3 v3 hst q1 q2; omega
      have q4 : (limbs a).length - t.length ≤ 35184372088832 := by clear eb n1 n2 u3 v3 hst q1 q2; omega
      have q5 : (limbs a).length - t.length ≤ 1099511627779 := by clear eb n1 n2 u3 v3 hst q1 q2; omega
      have q6 : (limbs a).length - t.length + (K2 + 2) ≤ 1000000 := by clear eb n1 n2 u3 v3 hst q1 q2; omega
      have hsw : IntKind.u64.wrap ((64 - bits w : Nat) : Int) = ((64 - bits w : Nat) : Int) := wrapN _ (by clear eb n1 n2 u3 v3 hst q1 q2; omega)
      rw [hK2] at hK n1 n2 hms hst
      have g := dm_l14 (limbs (b * 2 ^ (64 - bits w))) (limbs_WF _) K2 (64 - bits w) ((limbs a).length - t.length) (a * 2 ^ (64 - bits w)) hK hs q6 (by rw [nv_limbs]; exact n1) ((limbs a).length - t.length) ou (List.replicate ((limbs a).length - t.length) 0) (Nat.le_refl _) (by rw [u1, hK2]; exact hms) u2 (by rw [u3, nv_limbs, hK2]; exact hst) (List.length_replicate ..) (WF.zeros _) (by rw [List.take_replicate, nv_zeros]) (by rw [nv_zeros, Nat.zero_mul, u3]; rfl)
      rw [nv_limbs, Nat.mul_div_mul_right _ _ (Nat.pow_pos (by decide)), Nat.mul_mod_mul_right, Nat.mul_div_cancel _ (Nat.pow_pos (by decide))] at g
      rw [q1, hr]
      refine Ev.congr (fun k => if_pos (Int.natCast_nonneg _)) (Ev.congr (fun k => if_pos q3) (Ev.bind hlz ?_))
      rw [hsw]
      refine Ev.bind u4 (Ev.bind v4 (Ev.bind gv ?_))
      rw [q2]
      rw [Int.toNat_natCast, List.length_replicate, w64_dec q5, hK]
      exact Ev.pos (Int.natCast_nonneg _) (Ev.pos q4 g)
end Go.Proofs.Yteoeacndpgomaaa.Pure
end
section
/-
  The greatest common divisor of two numbers: what nat.Gcd computes. Conditions: all are words, no list is longer than 900000 words.
-/
namespace Go.Proofs.Yteoeacndpgomaaa.Pure
open Go.RowKit Go.Proofs.Yteoeacndpgomaaa.F Go.Proofs.YteoeacndpgomaaaW.PrintWords Go.Proofs.YteoeacndpgomaaaW.PrintLast Go.Proofs.YteoeacndpgomaaaW.PrintMore
open Go.Proofs.Yteoeacndpgomaaa.E (adS adC sbS sbC)
set_option linter.unusedVariables false
set_option linter.unusedSimpArgs false
end Go.Proofs.Yteoeacndpgomaaa.Pure
end
section
/-
  Numbers as decimal digits. No condition.
-/
namespace Go.Proofs.Yteoeacndpgomaaa.Pure
open Go.RowKit Go.Proofs.Yteoeacndpgomaaa.F Go.Proofs.YteoeacndpgomaaaW.PrintWords Go.Proofs.YteoeacndpgomaaaW.PrintLast Go.Proofs.YteoeacndpgomaaaW.PrintMore
set_option linter.unusedVariables false
set_option linter.unusedSimpArgs false

/-- Bytes as a text. -/
def tx (l : List UInt8) : ByteArray := ⟨l.toArray⟩
theorem tx_toList (l : List UInt8) : (tx l).toList = l := by rw [ByteArray.toList_eq]; simp [tx]
theorem tx_size (l : List UInt8) : (tx l).size = l.length := by simp [tx, ByteArray.size]
theorem tx_eta (s : ByteArray) : tx s.data.toList = s := by cases s; simp [tx]
theorem tx_append (a b : List UInt8) : tx a ++ tx b = tx (a ++ b) := by
  have : (tx a ++ tx b).data = (tx (a ++ b)).data := by rw [ByteArray.data_append]; simp [tx]
  cases h1 : tx a ++ tx b; cases h2 : tx (a ++ b); simp_all
theorem tx_extract (l : List UInt8) (a b : Nat) : (tx l).extract a b = tx ((l.drop a).take (b - a)) := by
  have h := Lib.extract_data (tx l) a b
  have e := tx_eta ((tx l).extract a b)
  rw [h] at e
  rw [← e]; simp [tx]
theorem tx_bt (l : List UInt8) (i : Nat) (h : i < l.length) : bt (tx l) (i : Int) = ((l[i]).toNat : Int) := by
  unfold bt
  have h' : (i : Int).toNat < (tx l).size := by rw [tx_size]; simpa using h
  rw [dif_pos h']
  rfl
theorem tx_inj {a b : List UInt8} (h : tx a = tx b) : a = b := by rw [← tx_toList a, h, tx_toList]

/-- All are digits. -/
def DS (l : List UInt8) : Prop := ∀ b ∈ l, 48 ≤ b.toNat ∧ b.toNat ≤ 57
/-- The number of digits, the highest one first. -/
def sv (l : List UInt8) : Nat := l.foldl (fun a b => 10 * a + (b.toNat - 48)) 0
theorem sv_snoc (l : List UInt8) (b : UInt8) : sv (l ++ [b]) = 10 * sv l + (b.toNat - 48) := by simp [sv, List.foldl_append]
theorem sv_nil : sv [] = 0 := rfl
theorem sv_foldl (l : List UInt8) (a : Nat) : l.foldl (fun a b => 10 * a + (b.toNat - 48)) a = a * 10 ^ l.length + sv l := by
  induction l generalizing a with
  | nil => simp [sv]
  | cons x xs ih =>
    simp only [List.foldl_cons, List.length_cons, sv]
    rw [ih, ih (10 * 0 + (x.toNat - 48)), Nat.pow_succ]
    grind
theorem sv_cons (x : UInt8) (l : List UInt8) : sv (x :: l) = (x.toNat - 48) * 10 ^ l.length + sv l := by
  rw [sv, List.foldl_cons, sv_foldl]; simp
theorem sv_append (a b : List UInt8) : sv (a ++ b) = sv a * 10 ^ b.length + sv b := by rw [sv, List.foldl_append, sv_foldl]; rfl
theorem DS.nil : DS [] := fun b h => by cases h
theorem DS.tail {x : UInt8} {l : List UInt8} (h : DS (x :: l)) : DS l := fun b hb => h b (by simp [hb])
theorem DS.head {x : UInt8} {l : List UInt8} (h : DS (x :: l)) : 48 ≤ x.toNat ∧ x.toNat ≤ 57 := h x (by simp)
theorem DS.append {a b : List UInt8} (ha : DS a) (hb : DS b) : DS (a ++ b) := fun x hx => by
  rcases List.mem_append.1 hx with h | h
  · exact ha x h
  · exact hb x h
theorem sv_lt {l : List UInt8} (h : DS l) : sv l < 10 ^ l.length := by
  induction l with
  | nil => simp [sv]
  | cons x xs ih =>
    have h1 := ih h.tail
    have h2 := h.head
    rw [sv_cons, List.length_cons, Nat.pow_succ]
    have h3 : x.toNat - 48 ≤ 9 := by omega
    have h4 := Nat.mul_le_mul_right (10 ^ xs.length) h3
    generalize 10 ^ xs.length = P at *
    omega
/-- The byte of a digit. -/
def dg (n : Nat) : UInt8 := UInt8.ofNat (48 + n % 10)
theorem dg_toNat (n : Nat) : (dg n).toNat = 48 + n % 10 := by
  unfold dg
  rw [UInt8.toNat_ofNat']
  omega
theorem dg_of {b : UInt8} (h : 48 ≤ b.toNat ∧ b.toNat ≤ 57) : dg (b.toNat - 48) = b := by
  apply UInt8.toNat.inj
  rw [dg_toNat]; omega
/-- A number's digits, the highest one first. -/
def ds (n : Nat) : List UInt8 := if n < 10 then [dg n] else ds (n / 10) ++ [dg n]
termination_by n
decreasing_by omega
theorem ds_small {n : Nat} (h : n < 10) : ds n = [dg n] := by rw [ds, if_pos h]
theorem ds_big {n : Nat} (h : ¬ n < 10) : ds n = ds (n / 10) ++ [dg n] := by rw [ds, if_neg h]
theorem ds_DS (n : Nat) : DS (ds n) := by
  induction n using Nat.strongRecOn with
  | _ n ih =>
    by_cases h : n < 10
    · rw [ds_small h]
      intro b hb
      obtain rfl := List.mem_singleton.1 hb
      rw [dg_toNat]; omega
    · rw [ds_big h]
      refine (ih (n / 10) (by omega)).append ?_
      intro b hb
      obtain rfl := List.mem_singleton.1 hb
      rw [dg_toNat]; omega
theorem sv_ds (n : Nat) : sv (ds n) = n := by
  induction n using Nat.strongRecOn with
  | _ n ih =>
    by_cases h : n < 10
    · rw [ds_small h]; simp [sv, dg_toNat]; omega
    · rw [ds_big h, sv_snoc, ih (n / 10) (by omega), dg_toNat]; omega
theorem ds_ne (n : Nat) : ds n ≠ [] := by
  by_cases h : n < 10
  · rw [ds_small h]; simp
  · rw [ds_big h]; simp
theorem ds_inj {a b : Nat} (h : ds a = ds b) : a = b := by rw [← sv_ds a, h, sv_ds]
/-- A number's text. -/
def dec (n : Nat) : ByteArray := tx (ds n)
theorem dec_inj {a b : Nat} (h : dec a = dec b) : a = b := ds_inj (tx_inj h)
theorem ds_length_pos (n : Nat) : 0 < (ds n).length := List.length_pos_iff.2 (ds_ne n)
theorem lt_pow_ds (n : Nat) : n < 10 ^ (ds n).length := by have := sv_lt (ds_DS n); rwa [sv_ds] at this
theorem ds_length_le {n m : Nat} (h : n < 10 ^ m) (hm : 0 < m) : (ds n).length ≤ m := by
  induction m generalizing n with
  | zero => omega
  | succ m ih =>
    by_cases h1 : n < 10
    · rw [ds_small h1]; simp
    · rw [ds_big h1]
      have h2 : n / 10 < 10 ^ m := Nat.div_lt_of_lt_mul (by rw [Nat.pow_succ, Nat.mul_comm] at h; exact h)
      have h3 : 0 < m := by
        rcases Nat.eq_zero_or_pos m with h4 | h4
        · subst h4; simp at h; omega
        · exact h4
      have := ih h2 h3
      simp; omega
theorem ds_length_mono {a b : Nat} (h : a ≤ b) : (ds a).length ≤ (ds b).length := ds_length_le (Nat.lt_of_le_of_lt h (lt_pow_ds b)) (ds_length_pos b)
/-- Digits without 0 ahead are a number's. -/
theorem ds_of {l : List UInt8} (h : DS l) (hne : l ≠ []) (h0 : l.length = 1 ∨ ∀ h : l ≠ [], l.head h ≠ 48) : l = ds (sv l) := by
  have key : ∀ (n : Nat) (l : List UInt8), l.length = n → DS l → l ≠ [] → (l.length = 1 ∨ ∀ h : l ≠ [], l.head h ≠ 48) → l = ds (sv l) := by
    intro n
    induction n with
    | zero => intro l hl _ hne; exact absurd (List.length_eq_zero_iff.1 hl) hne
    | succ n ih =>
      intro l hl hd hne h0
      have hlast := List.dropLast_concat_getLast hne
      generalize hi : l.dropLast = i at hlast
      generalize hx : l.getLast hne = x at hlast
      subst hlast
      have hx' : 48 ≤ x.toNat ∧ x.toNat ≤ 57 := hd x (by simp)
      have hdi : DS i := fun b hb => hd b (by simp [hb])
      by_cases hi0 : i = []
      · subst hi0
        have : sv ([] ++ [x]) = x.toNat - 48 := by rw [sv_snoc, sv_nil]; omega
        rw [this, ds_small (by omega), dg_of hx']; rfl
      · have h1 : ∀ h : i ≠ [], i.head h ≠ 48 := fun h => by
          rcases h0 with h0 | h0
          · simp at h0; exact absurd h0 h
          · have := h0 (by simp)
            rwa [List.head_append_of_ne_nil h] at this
        have e := ih i (by simpa using hl) hdi hi0 (.inr h1)
        have hpos : 1 ≤ sv i := by
          cases i with
          | nil => exact absurd rfl hi0
          | cons a r =>
            have h2 := h1 (by simp)
            have h3 := (hdi.head)
            rw [sv_cons]
            have h4 : 1 ≤ a.toNat - 48 := by
              have : a.toNat ≠ 48 := fun h5 => h2 (UInt8.toNat.inj (by simpa using h5))
              omega
            have h5 := Nat.mul_le_mul h4 (Nat.pow_pos (n := r.length) (show 0 < 10 by decide))
            omega
        rw [sv_snoc, ds_big (by omega)]
        have e1 : (10 * sv i + (x.toNat - 48)) / 10 = sv i := by omega
        have e2 : dg (10 * sv i + (x.toNat - 48)) = x := by
          apply UInt8.toNat.inj
          rw [dg_toNat]; omega
        rw [e1, e2, ← e]
  exact key _ l rfl h hne h0
theorem ds_head {n : Nat} (h : 10 ≤ n) : ∀ h : ds n ≠ [], (ds n).head h ≠ 48 := by
  induction n using Nat.strongRecOn with
  | _ n ih =>
    intro hne
    have e := ds_big (show ¬ n < 10 by omega)
    by_cases h1 : n / 10 < 10
    · have e2 := ds_small h1
      have e3 : ds n = [dg (n / 10), dg n] := by rw [e, e2]; rfl
      simp only [e3, List.head_cons]
      intro h2
      have h3 := congrArg UInt8.toNat h2
      rw [dg_toNat] at h3
      have : (48 : UInt8).toNat = 48 := rfl
      omega
    · have h2 := ih (n / 10) (by omega) (by omega) (ds_ne _)
      have h3 : (ds n).head hne = (ds (n / 10)).head (ds_ne _) := by simp only [e]; rw [List.head_append_of_ne_nil (ds_ne _)]
      rw [h3]; exact h2
/-- The digit at a place from the end. -/
theorem ds_get (n i : Nat) (h : i < (ds n).length) : ((ds n)[(ds n).length - 1 - i]'(by omega)).toNat = 48 + n / 10 ^ i % 10 := by
  induction i generalizing n with
  | zero =>
    by_cases h1 : n < 10
    · have e := ds_small h1
      simp only [e]; simp [dg_toNat]
    · have e := ds_big h1
      have : (ds n)[(ds n).length - 1 - 0]'(by omega) = dg n := by
        simp only [e]; simp
      rw [this, dg_toNat]; simp
  | succ i ih =>
    by_cases h1 : n < 10
    · rw [ds_small h1] at h; simp at h
    · have e := ds_big h1
      have hl : (ds n).length = (ds (n / 10)).length + 1 := by rw [e]; simp
      have h2 : i < (ds (n / 10)).length := by omega
      have h3 := ih (n / 10) h2
      have : (ds n)[(ds n).length - 1 - (i + 1)]'(by omega) = (ds (n / 10))[(ds (n / 10)).length - 1 - i]'(by omega) := by
        simp only [e]
        rw [List.getElem_append_left (by simp; omega)]
        congr 1
        simp; omega
      rw [this, h3, Nat.pow_succ, Nat.mul_comm, Nat.div_div_eq_div_mul]
end Go.Proofs.Yteoeacndpgomaaa.Pure
end
