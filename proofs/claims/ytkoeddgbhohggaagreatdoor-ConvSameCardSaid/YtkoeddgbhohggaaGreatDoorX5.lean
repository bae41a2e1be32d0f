/-
  Texts of this proof, one behind the other: Db, RBase, RBits, RMul64, RDiv64, RFieldW, RPrimeA, RFermat, RStrong, RTable, RTell, RField, RTwos, RRef3, RTwo, RRoots, RProth, RPock. No condition of their own.
-/
import Derived.Test.YtkoeddgbhohggaaGreatDoorX4
import Derived.Laws.Bits64b
import Derived.Lib.Mul64
import Derived.Lib.TrailingZeros
section
namespace Go.Proofs.YtkoeddgbhohggaaGreatDoor.F
open Go.Proofs.YtkoeddgbhohggaaGreatDoor.E Go Go.RowKit Go.Proofs.YtkoeddgbhohggaaGreatDoorW.PrintWords Go.Proofs.YtkoeddgbhohggaaGreatDoorW.PrintLast
set_option linter.unusedVariables false
set_option maxRecDepth 100000
theorem Zz13.l24_eq (k : Nat) (x2 x8 x9 x10 x14 x15 x16 x17 x18 : Int) : Zz13.l24 (k + 1) x2 x8 x9 x10 x14 x15 x16 x17 x18 = ((if x18 ≥ 4294967296 then (if (IntKind.u64.wrap (x16 + x9)) ≥ 4294967296 then (if 0 ≤ x8 then some ((IntKind.u64.wrap ((IntKind.u64.wrap (x15 * 4294967296)) + (IntKind.u64.wrap (x18 - 1)))), (shr .u64 (IntKind.u64.wrap ((IntKind.u64.wrap ((IntKind.u64.wrap (x17 * 4294967296)) + x14)) - (IntKind.u64.wrap ((IntKind.u64.wrap (x18 - 1)) * x2)))) x8)) else none) else Zz13.l24 k x2 x8 x9 x10 x14 x15 (IntKind.u64.wrap (x16 + x9)) x17 (IntKind.u64.wrap (x18 - 1))) else (if (IntKind.u64.wrap (x18 * x10)) > (IntKind.u64.wrap ((IntKind.u64.wrap (4294967296 * x16)) + x14)) then (if (IntKind.u64.wrap (x16 + x9)) ≥ 4294967296 then (if 0 ≤ x8 then some ((IntKind.u64.wrap ((IntKind.u64.wrap (x15 * 4294967296)) + (IntKind.u64.wrap (x18 - 1)))), (shr .u64 (IntKind.u64.wrap ((IntKind.u64.wrap ((IntKind.u64.wrap (x17 * 4294967296)) + x14)) - (IntKind.u64.wrap ((IntKind.u64.wrap (x18 - 1)) * x2)))) x8)) else none) else Zz13.l24 k x2 x8 x9 x10 x14 x15 (IntKind.u64.wrap (x16 + x9)) x17 (IntKind.u64.wrap (x18 - 1))) else (if 0 ≤ x8 then some ((IntKind.u64.wrap ((IntKind.u64.wrap (x15 * 4294967296)) + x18)), (shr .u64 (IntKind.u64.wrap ((IntKind.u64.wrap ((IntKind.u64.wrap (x17 * 4294967296)) + x14)) - (IntKind.u64.wrap (x18 * x2)))) x8)) else none))) : Option (Int × Int)) := by rw [← WK_eq]; kernel_rfl
theorem Zz13.l17_eq (k : Nat) (x2 x8 x9 x10 x11 x13 x14 x15 x16 : Int) : Zz13.l17 (k + 1) x2 x8 x9 x10 x11 x13 x14 x15 x16 = ((if x15 ≥ 4294967296 then (if (IntKind.u64.wrap (x16 + x9)) ≥ 4294967296 then (if x9 = 0 then none else Zz13.l24 k x2 x8 x9 x10 x14 (IntKind.u64.wrap (x15 - 1)) (IntKind.u64.wrap ((IntKind.u64.wrap ((IntKind.u64.wrap ((IntKind.u64.wrap (x11 * 4294967296)) + x13)) - (IntKind.u64.wrap ((IntKind.u64.wrap (x15 - 1)) * x2)))) - (IntKind.u64.wrap ((IntKind.u64.wrap (Int.tdiv (IntKind.u64.wrap ((IntKind.u64.wrap ((IntKind.u64.wrap (x11 * 4294967296)) + x13)) - (IntKind.u64.wrap ((IntKind.u64.wrap (x15 - 1)) * x2)))) x9)) * x9)))) (IntKind.u64.wrap ((IntKind.u64.wrap ((IntKind.u64.wrap (x11 * 4294967296)) + x13)) - (IntKind.u64.wrap ((IntKind.u64.wrap (x15 - 1)) * x2)))) (IntKind.u64.wrap (Int.tdiv (IntKind.u64.wrap ((IntKind.u64.wrap ((IntKind.u64.wrap (x11 * 4294967296)) + x13)) - (IntKind.u64.wrap ((IntKind.u64.wrap (x15 - 1)) * x2)))) x9))) else Zz13.l17 k x2 x8 x9 x10 x11 x13 x14 (IntKind.u64.wrap (x15 - 1)) (IntKind.u64.wrap (x16 + x9))) else (if (IntKind.u64.wrap (x15 * x10)) > (IntKind.u64.wrap ((IntKind.u64.wrap (4294967296 * x16)) + x13)) then (if (IntKind.u64.wrap (x16 + x9)) ≥ 4294967296 then (if x9 = 0 then none else Zz13.l24 k x2 x8 x9 x10 x14 (IntKind.u64.wrap (x15 - 1)) (IntKind.u64.wrap ((IntKind.u64.wrap ((IntKind.u64.wrap ((IntKind.u64.wrap (x11 * 4294967296)) + x13)) - (IntKind.u64.wrap ((IntKind.u64.wrap (x15 - 1)) * x2)))) - (IntKind.u64.wrap ((IntKind.u64.wrap (Int.tdiv (IntKind.u64.wrap ((IntKind.u64.wrap ((IntKind.u64.wrap (x11 * 4294967296)) + x13)) - (IntKind.u64.wrap ((IntKind.u64.wrap (x15 - 1)) * x2)))) x9)) * x9)))) (IntKind.u64.wrap ((IntKind.u64.wrap ((IntKind.u64.wrap (x11 * 4294967296)) + x13)) - (IntKind.u64.wrap ((IntKind.u64.wrap (x15 - 1)) * x2)))) (IntKind.u64.wrap (Int.tdiv (IntKind.u64.wrap ((IntKind.u64.wrap ((IntKind.u64.wrap (x11 * 4294967296)) + x13)) - (IntKind.u64.wrap ((IntKind.u64.wrap (x15 - 1)) * x2)))) x9))) else Zz13.l17 k x2 x8 x9 x10 x11 x13 x14 (IntKind.u64.wrap (x15 - 1)) (IntKind.u64.wrap (x16 + x9))) else (if x9 = 0 then none else Zz13.l24 k x2 x8 x9 x10 x14 x15 (IntKind.u64.wrap ((IntKind.u64.wrap ((IntKind.u64.wrap ((IntKind.u64.wrap (x11 * 4294967296)) + x13)) - (IntKind.u64.wrap (x15 * x2)))) - (IntKind.u64.wrap ((IntKind.u64.wrap (Int.tdiv (IntKind.u64.wrap ((IntKind.u64.wrap ((IntKind.u64.wrap (x11 * 4294967296)) + x13)) - (IntKind.u64.wrap (x15 * x2)))) x9)) * x9)))) (IntKind.u64.wrap ((IntKind.u64.wrap ((IntKind.u64.wrap (x11 * 4294967296)) + x13)) - (IntKind.u64.wrap (x15 * x2)))) (IntKind.u64.wrap (Int.tdiv (IntKind.u64.wrap ((IntKind.u64.wrap ((IntKind.u64.wrap (x11 * 4294967296)) + x13)) - (IntKind.u64.wrap (x15 * x2)))) x9))))) : Option (Int × Int)) := by rw [← WK_eq]; kernel_rfl
theorem Zz13.f_eq (k : Nat) (a0 a1 a2 : Int) : Zz13.f k a0 a1 a2 = ((if a2 = 0 then none else (if a2 ≤ a0 then none else (if a0 = 0 then (if a2 = 0 then none else (if a2 = 0 then none else some ((IntKind.u64.wrap (Int.tdiv a1 a2)), (Int.tmod a1 a2)))) else ((Zz14.f k a2).bind fun t0 => (if 0 ≤ (IntKind.u64.wrap t0) then (if 0 ≤ (IntKind.u64.wrap t0) then (if 0 ≤ (IntKind.u64.wrap (64 - (IntKind.u64.wrap t0))) then (if 0 ≤ (IntKind.u64.wrap t0) then (if (shr .u64 (shl .u64 a2 (IntKind.u64.wrap t0)) 32) = 0 then none else Zz13.l17 k (shl .u64 a2 (IntKind.u64.wrap t0)) (IntKind.u64.wrap t0) (shr .u64 (shl .u64 a2 (IntKind.u64.wrap t0)) 32) (bits .and .u64 (shl .u64 a2 (IntKind.u64.wrap t0)) 4294967295) (bits .or .u64 (shl .u64 a0 (IntKind.u64.wrap t0)) (shr .u64 a1 (IntKind.u64.wrap (64 - (IntKind.u64.wrap t0))))) (shr .u64 (shl .u64 a1 (IntKind.u64.wrap t0)) 32) (bits .and .u64 (shl .u64 a1 (IntKind.u64.wrap t0)) 4294967295) (IntKind.u64.wrap (Int.tdiv (bits .or .u64 (shl .u64 a0 (IntKind.u64.wrap t0)) (shr .u64 a1 (IntKind.u64.wrap (64 - (IntKind.u64.wrap t0))))) (shr .u64 (shl .u64 a2 (IntKind.u64.wrap t0)) 32))) (IntKind.u64.wrap ((bits .or .u64 (shl .u64 a0 (IntKind.u64.wrap t0)) (shr .u64 a1 (IntKind.u64.wrap (64 - (IntKind.u64.wrap t0))))) - (IntKind.u64.wrap ((IntKind.u64.wrap (Int.tdiv (bits .or .u64 (shl .u64 a0 (IntKind.u64.wrap t0)) (shr .u64 a1 (IntKind.u64.wrap (64 - (IntKind.u64.wrap t0))))) (shr .u64 (shl .u64 a2 (IntKind.u64.wrap t0)) 32))) * (shr .u64 (shl .u64 a2 (IntKind.u64.wrap t0)) 32)))))) else none) else none) else none) else none))))) : Option (Int × Int)) := by rw [← WK_eq, Zz13.f_def]; kernel_rfl
theorem Zz60.l2_eq (k : Nat) (x0 : List Int) (x3 : Int) : Zz60.l2 (k + 1) x0 x3 = ((if x3 > 0 then (if 0 ≤ (wrap64 (x3 - 1)) then (if (wrap64 (x3 - 1)) < (x0.length : Int) then (if (rd x0 (wrap64 (x3 - 1))) = 0 then Zz60.l2 k x0 (wrap64 (x3 - 1)) else (if 0 ≤ x3 then (if x3 ≤ (x0.length : Int) then some (x0.take (x3 : Int).toNat) else none) else none)) else none) else none) else (if 0 ≤ x3 then (if x3 ≤ (x0.length : Int) then some (x0.take (x3 : Int).toNat) else none) else none)) : Option (List Int)) := by rw [← W64_eq]; kernel_rfl
theorem Zz60.f_eq (k : Nat) (a0 : List Int) : Zz60.f k a0 = (Zz60.l2 k a0 (a0.length : Int) : Option (List Int)) := by rw [Zz60.f_def]; kernel_rfl
theorem Zz45.l6_eq (k : Nat) (x0 : List Int) (x1 : Int) (x7 : List Int) (x8 x9 : Int) : Zz45.l6 (k + 1) x0 x1 x7 x8 x9 = ((if x9 ≥ 0 then (if 0 ≤ x9 then (if x9 < (x0.length : Int) then ((Zz13.f k x8 (rd x0 x9) x1).bind fun t0 => (if 0 ≤ x9 then (if x9 < (x7.length : Int) then Zz45.l6 k x0 x1 (x7.set (x9 : Int).toNat t0.1) t0.2 (wrap64 (x9 - 1)) else none) else none)) else none) else none) else ((Zz60.f k x7).bind fun t0 => some (t0, x8, 0))) : Option (List Int × Int × Int)) := by rw [← W64_eq]; kernel_rfl
theorem Zz45.f_eq (k : Nat) (a0 : List Int) (a1 : Int) : Zz45.f k a0 a1 = ((if a1 = 0 then some (([] : List Int), 0, 10) else (if 0 ≤ (a0.length : Int) then (if ((a0.length : Int) : Int).toNat ≤ 35184372088832 then Zz45.l6 k a0 a1 (List.replicate ((a0.length : Int) : Int).toNat (0 : Int)) 0 (wrap64 ((a0.length : Int) - 1)) else none) else none)) : Option (List Int × Int × Int)) := by rw [← W64_eq, Zz45.f_def]; kernel_rfl
theorem Zz3.f_eq (k : Nat) (a0_0 : Bool) (a0_1 : List Int) (a1 : Int) : Zz3.f k a0_0 a0_1 a1 = (((Zz45.f k a0_1 a1).bind fun t0 => (if a0_0 = true then (if t0.2.1 > 0 then some ((IntKind.u64.wrap (a1 - t0.2.1)), t0.2.2) else some (t0.2.1, t0.2.2)) else some (t0.2.1, t0.2.2))) : Option (Int × Int)) := by rw [← WK_eq, Zz3.f_def]; kernel_rfl
theorem Zz19.f_eq (k : Nat) (a0 a1 a2 : Int) : Zz19.f k a0 a1 a2 = ((if a2 = 0 then none else ((Zz13.f k (Int.tmod a0 a2) a1 a2).bind fun t0 => some t0.2)) : Option Int) := by rw [Zz19.f_def]; kernel_rfl
theorem Zz110.f_eq (k : Nat) (a0_0 a0_1 a0_2 a1 a2 : Int) : Zz110.f k a0_0 a0_1 a0_2 a1 a2 = ((if a0_0 = 0 then none else (if a0_0 = 0 then none else ((Zz18.f k (Int.tmod a1 a0_0) (Int.tmod a2 a0_0)).bind fun t0 => ((Zz19.f k t0.1 t0.2 a0_0).bind fun t1 => some t1)))) : Option Int) := by rw [Zz110.f_def]; kernel_rfl
theorem Zz114.l7_eq (k : Nat) (x0 x5 x15_0 x15_1 x15_2 x20 : Int) : Zz114.l7 (k + 1) x0 x5 x15_0 x15_1 x15_2 x20 = ((if x20 < 5 then Zz114.l7 k x0 (IntKind.u64.wrap (x5 * (IntKind.u64.wrap (2 - (IntKind.u64.wrap (x0 * x5)))))) x15_0 x15_1 x15_2 (wrap64 (x20 + 1)) else (if x0 = 0 then none else ((Zz110.f k x15_0 (IntKind.u64.wrap (-x5)) x15_2 (Int.tmod (IntKind.u64.wrap (-x0)) x0) (Int.tmod (IntKind.u64.wrap (-x0)) x0)).bind fun t0 => some ((some (x15_0, (IntKind.u64.wrap (-x5)), t0, ())), 0)))) : Option ((Option (Int × Int × Int × Unit)) × Int)) := by rw [← W64_eq, ← WK_eq]; kernel_rfl
theorem Zz114.f_eq (k : Nat) (a0 : Int) : Zz114.f k a0 = ((if a0 < 2 then some (none, 1) else (if a0 ≥ 9223372036854775808 then some (none, 1) else (if (bits .and .u64 a0 1) = 1 then Zz114.l7 k a0 a0 a0 0 0 0 else some ((some (a0, 0, 0, ())), 0)))) : Option ((Option (Int × Int × Int × Unit)) × Int)) := by rw [Zz114.f_def]; kernel_rfl
theorem Zz29.f_eq (k : Nat) (a0 a1 : List Int) : Zz29.f k a0 a1 = ((if (a0.length : Int) > 0 then (if (a1.length : Int) > 0 then (if (wrap64 ((a0.length : Int) + (a1.length : Int))) > 1048576 then some 13 else some 0) else some 0) else some 0) : Option Int) := by rw [← W64_eq, Zz29.f_def]; kernel_rfl
theorem Zz15.f_eq (k : Nat) (a0 : Int) : Zz15.f k a0 = (((Zz17.f k a0).bind fun t0 => some t0) : Option Int) := by rw [Zz15.f_def]; kernel_rfl
theorem Zz65.f_eq (k : Nat) : Zz65.f k = (some (2, 3, 5, 7, 11, 13, 17, 19, 23, 29, 31, 37) : Option (Int × Int × Int × Int × Int × Int × Int × Int × Int × Int × Int × Int)) := by rw [Zz65.f_def]; kernel_rfl
theorem Zz67.f_eq (k : Nat) (a0 a1 a2 : Int) : Zz67.f k a0 a1 a2 = (((Zz18.f k a0 a1).bind fun t0 => ((Zz19.f k t0.1 t0.2 a2).bind fun t1 => some t1)) : Option Int) := by rw [Zz67.f_def]; kernel_rfl
theorem Zz69.l12_eq (k : Nat) (x0 x6 x37 x38 : Int) : Zz69.l12 (k + 1) x0 x6 x37 x38 = ((if x38 < x37 then (if x6 = (IntKind.u64.wrap (x0 - 1)) then some true else ((Zz67.f k x6 x6 x0).bind fun t0 => Zz69.l12 k x0 t0 x37 (wrap64 (x38 + 1)))) else some false) : Option Bool) := by rw [← W64_eq, ← WK_eq]; kernel_rfl
theorem Zz69.l4_eq (k : Nat) (x0 x5 x6 x7 x8 : Int) : Zz69.l4 (k + 1) x0 x5 x6 x7 x8 = ((if x8 > 0 then (if (bits .and .u64 x8 1) = 1 then ((Zz67.f k x6 x7 x0).bind fun t0 => ((Zz67.f k x7 x7 x0).bind fun t1 => Zz69.l4 k x0 x5 t0 t1 (shr .u64 x8 1))) else ((Zz67.f k x7 x7 x0).bind fun t0 => Zz69.l4 k x0 x5 x6 t0 (shr .u64 x8 1))) else (if x6 = 1 then some true else Zz69.l12 k x0 x6 x5 0)) : Option Bool) := by kernel_rfl
theorem Zz69.f_eq (k : Nat) (a0 a1 : Int) : Zz69.f k a0 a1 = (((Zz20.f k (IntKind.u64.wrap (a0 - 1))).bind fun t0 => (if a0 = 0 then none else (if 0 ≤ (IntKind.u64.wrap t0) then Zz69.l4 k a0 t0 1 (Int.tmod a1 a0) (shr .u64 (IntKind.u64.wrap (a0 - 1)) (IntKind.u64.wrap t0)) else none))) : Option Bool) := by rw [← WK_eq, Zz69.f_def]; kernel_rfl
theorem Zz62.l10_eq (k : Nat) (x0 x21_0 x21_1 x21_2 x21_3 x21_4 x21_5 x21_6 x21_7 x21_8 x21_9 x21_10 x21_11 x22 : Int) : Zz62.l10 (k + 1) x0 x21_0 x21_1 x21_2 x21_3 x21_4 x21_5 x21_6 x21_7 x21_8 x21_9 x21_10 x21_11 x22 = ((if x22 < 12 then (if 0 ≤ x22 then (if x22 < 12 then ((Zz69.f k x0 (rd ([x21_0, x21_1, x21_2, x21_3, x21_4, x21_5, x21_6, x21_7, x21_8, x21_9, x21_10, x21_11] : List Int) x22)).bind fun t0 => (if (!t0) = true then some false else Zz62.l10 k x0 x21_0 x21_1 x21_2 x21_3 x21_4 x21_5 x21_6 x21_7 x21_8 x21_9 x21_10 x21_11 (wrap64 (x22 + 1)))) else none) else none) else some true) : Option Bool) := by rw [← W64_eq]; kernel_rfl
theorem Zz62.l4_eq (k : Nat) (x0 x9_0 x9_1 x9_2 x9_3 x9_4 x9_5 x9_6 x9_7 x9_8 x9_9 x9_10 x9_11 x10 : Int) : Zz62.l4 (k + 1) x0 x9_0 x9_1 x9_2 x9_3 x9_4 x9_5 x9_6 x9_7 x9_8 x9_9 x9_10 x9_11 x10 = ((if x10 < 12 then (if 0 ≤ x10 then (if x10 < 12 then (if (rd ([x9_0, x9_1, x9_2, x9_3, x9_4, x9_5, x9_6, x9_7, x9_8, x9_9, x9_10, x9_11] : List Int) x10) = 0 then none else (if (Int.tmod x0 (rd ([x9_0, x9_1, x9_2, x9_3, x9_4, x9_5, x9_6, x9_7, x9_8, x9_9, x9_10, x9_11] : List Int) x10)) = 0 then some (decide (x0 = (rd ([x9_0, x9_1, x9_2, x9_3, x9_4, x9_5, x9_6, x9_7, x9_8, x9_9, x9_10, x9_11] : List Int) x10))) else Zz62.l4 k x0 x9_0 x9_1 x9_2 x9_3 x9_4 x9_5 x9_6 x9_7 x9_8 x9_9 x9_10 x9_11 (wrap64 (x10 + 1)))) else none) else none) else ((Zz65.f k).bind fun t0 => Zz62.l10 k x0 t0.1 t0.2.1 t0.2.2.1 t0.2.2.2.1 t0.2.2.2.2.1 t0.2.2.2.2.2.1 t0.2.2.2.2.2.2.1 t0.2.2.2.2.2.2.2.1 t0.2.2.2.2.2.2.2.2.1 t0.2.2.2.2.2.2.2.2.2.1 t0.2.2.2.2.2.2.2.2.2.2.1 t0.2.2.2.2.2.2.2.2.2.2.2 0)) : Option Bool) := by rw [← W64_eq]; kernel_rfl
theorem Zz62.f_eq (k : Nat) (a0 : Int) : Zz62.f k a0 = ((if a0 < 2 then some false else ((Zz65.f k).bind fun t0 => Zz62.l4 k a0 t0.1 t0.2.1 t0.2.2.1 t0.2.2.2.1 t0.2.2.2.2.1 t0.2.2.2.2.2.1 t0.2.2.2.2.2.2.1 t0.2.2.2.2.2.2.2.1 t0.2.2.2.2.2.2.2.2.1 t0.2.2.2.2.2.2.2.2.2.1 t0.2.2.2.2.2.2.2.2.2.2.1 t0.2.2.2.2.2.2.2.2.2.2.2 0)) : Option Bool) := by rw [Zz62.f_def]; kernel_rfl
theorem Zz64.l8_eq (k : Nat) (x1 x8 : Int) (x9 : List Int) (x10 : Int) : Zz64.l8 (k + 1) x1 x8 x9 x10 = ((if x10 > 0 then ((Zz62.f k (IntKind.u64.wrap ((IntKind.u64.wrap (x10 * x8)) + 1))).bind fun t0 => (if t0 = true then (if (x9.length + ([(IntKind.u64.wrap ((IntKind.u64.wrap (x10 * x8)) + 1))] : List Int).length) ≤ 17592186044416 then (if ((x9 ++ ([(IntKind.u64.wrap ((IntKind.u64.wrap (x10 * x8)) + 1))] : List Int)).length : Int) = x1 then some ((x9 ++ ([(IntKind.u64.wrap ((IntKind.u64.wrap (x10 * x8)) + 1))] : List Int)), 0) else Zz64.l8 k x1 x8 (x9 ++ ([(IntKind.u64.wrap ((IntKind.u64.wrap (x10 * x8)) + 1))] : List Int)) (IntKind.u64.wrap (x10 - 1))) else none) else (if (x9.length : Int) = x1 then some (x9, 0) else Zz64.l8 k x1 x8 x9 (IntKind.u64.wrap (x10 - 1))))) else some (([] : List Int), 19)) : Option (List Int × Int)) := by rw [← WK_eq]; kernel_rfl
theorem Zz64.f_eq (k : Nat) (a0 a1 a2 : Int) : Zz64.f k a0 a1 a2 = ((if a0 < 1 then some (([] : List Int), 1) else (if a0 > 40 then some (([] : List Int), 1) else (if a1 < 1 then some (([] : List Int), 1) else (if a1 > 64 then some (([] : List Int), 1) else (if a2 > 9223372036854775808 then some (([] : List Int), 1) else (if 0 ≤ (IntKind.u64.wrap a0) then (if a2 < 2 then some (([] : List Int), 19) else (if (shl .u64 1 (IntKind.u64.wrap a0)) = 0 then none else Zz64.l8 k a1 (shl .u64 1 (IntKind.u64.wrap a0)) ([] : List Int) (IntKind.u64.wrap (Int.tdiv (IntKind.u64.wrap (a2 - 2)) (shl .u64 1 (IntKind.u64.wrap a0)))))) else none)))))) : Option (List Int × Int)) := by rw [← WK_eq, Zz64.f_def]; exact Eq.trans (b := ((@Decidable.rec (a0 < 1) (fun _ => Option (List Int × Int)) (fun _ => (@Decidable.rec (a0 > 40) (fun _ => Option (List Int × Int)) (fun _ => (@Decidable.rec (a1 < 1) (fun _ => Option (List Int × Int)) (fun _ => (@Decidable.rec (a1 > 64) (fun _ => Option (List Int × Int)) (fun _ => (@Decidable.rec (a2 > 9223372036854775808) (fun _ => Option (List Int × Int)) (fun _ => (@Decidable.rec (0 ≤ (WK .u64 a0)) (fun _ => Option (List Int × Int)) (fun _ => none) (fun _ => (@Decidable.rec (a2 < 2) (fun _ => Option (List Int × Int)) (fun _ => (@Decidable.rec ((shl .u64 1 (WK .u64 a0)) = 0) (fun _ => Option (List Int × Int)) (fun _ => Zz64.l8 k a1 (shl .u64 1 (WK .u64 a0)) ([] : List Int) (WK .u64 (Int.tdiv (WK .u64 (a2 - 2)) (shl .u64 1 (WK .u64 a0))))) (fun _ => none) inferInstance)) (fun _ => some (([] : List Int), 19)) inferInstance)) inferInstance)) (fun _ => some (([] : List Int), 1)) inferInstance)) (fun _ => some (([] : List Int), 1)) inferInstance)) (fun _ => some (([] : List Int), 1)) inferInstance)) (fun _ => some (([] : List Int), 1)) inferInstance)) (fun _ => some (([] : List Int), 1)) inferInstance) : Option (List Int × Int))) (by kernel_rfl) (by kernel_rfl)
theorem Zz113.f_eq (k : Nat) (a0_0 a0_1 a0_2 a1 a2 : Int) : Zz113.f k a0_0 a0_1 a0_2 a1 a2 = ((if a0_0 = 0 then none else (if a0_0 = 0 then none else (if (Int.tmod a1 a0_0) < (Int.tmod a2 a0_0) then some (IntKind.u64.wrap ((IntKind.u64.wrap ((Int.tmod a1 a0_0) + a0_0)) - (Int.tmod a2 a0_0))) else some (IntKind.u64.wrap ((Int.tmod a1 a0_0) - (Int.tmod a2 a0_0)))))) : Option Int) := by rw [← WK_eq, Zz113.f_def]; kernel_rfl
theorem Zz109.l8_eq (k : Nat) (x0_0 x0_1 x0_2 x6 x7 x8 x9 : Int) : Zz109.l8 (k + 1) x0_0 x0_1 x0_2 x6 x7 x8 x9 = ((if x7 > 0 then (if x7 = 0 then none else ((Zz110.f k x0_0 x0_1 x0_2 (IntKind.u64.wrap (Int.tdiv x6 x7)) x9).bind fun t0 => ((Zz113.f k x0_0 x0_1 x0_2 x8 t0).bind fun t1 => Zz109.l8 k x0_0 x0_1 x0_2 x7 (IntKind.u64.wrap (x6 - (IntKind.u64.wrap ((IntKind.u64.wrap (Int.tdiv x6 x7)) * x7)))) x9 t1))) else (if x6 = 1 then some (x8, 0) else some (0, 11))) : Option (Int × Int)) := by rw [← WK_eq]; kernel_rfl
theorem Zz109.f_eq (k : Nat) (a0_0 a0_1 a0_2 a1 : Int) : Zz109.f k a0_0 a0_1 a0_2 a1 = ((if a0_0 = 0 then none else (if (Int.tmod a1 a0_0) = 0 then some (0, 10) else Zz109.l8 k a0_0 a0_1 a0_2 a0_0 (Int.tmod a1 a0_0) 0 1)) : Option (Int × Int)) := by rw [Zz109.f_def]; kernel_rfl
theorem Zz66.f_eq (k : Nat) (a0 : Int) : Zz66.f k a0 = ((if a0 ≥ 9223372036854775808 then some (none, 14) else ((Zz62.f k a0).bind fun t0 => (if (!t0) = true then some (none, 14) else ((Zz114.f k a0).bind fun t1 => (Option.elim t1.1 (some (none, t1.2)) fun t2 => some ((some (t2.1, t2.2.1, t2.2.2.1, ())), t1.2)))))) : Option ((Option (Int × Int × Int × Unit)) × Int)) := by rw [Zz66.f_def]; kernel_rfl
theorem Zz111.f_eq (k : Nat) (a0_0 a0_1 a0_2 a1 : Int) : Zz111.f k a0_0 a0_1 a0_2 a1 = ((if a0_0 = 0 then none else some (Int.tmod a1 a0_0)) : Option Int) := by rw [Zz111.f_def]; kernel_rfl
theorem Zz112.l2_eq (k : Nat) (x0_0 x0_1 x0_2 x1 x2 x7 : Int) : Zz112.l2 (k + 1) x0_0 x0_1 x0_2 x1 x2 x7 = ((if x2 = 0 then some x7 else (if (bits .and .u64 x2 1) = 1 then ((Zz110.f k x0_0 x0_1 x0_2 x7 x1).bind fun t0 => ((Zz110.f k x0_0 x0_1 x0_2 x1 x1).bind fun t1 => Zz112.l2 k x0_0 x0_1 x0_2 t1 (shr .u64 x2 1) t0)) else ((Zz110.f k x0_0 x0_1 x0_2 x1 x1).bind fun t0 => Zz112.l2 k x0_0 x0_1 x0_2 t0 (shr .u64 x2 1) x7))) : Option Int) := by kernel_rfl
theorem Zz112.f_eq (k : Nat) (a0_0 a0_1 a0_2 a1 a2 : Int) : Zz112.f k a0_0 a0_1 a0_2 a1 a2 = (((Zz111.f k a0_0 a0_1 a0_2 1).bind fun t0 => Zz112.l2 k a0_0 a0_1 a0_2 a1 a2 t0) : Option Int) := by rw [Zz112.f_def]; kernel_rfl
theorem Zz68.l2_eq (k : Nat) (x0_0 x0_1 x0_2 x1 x7 : Int) : Zz68.l2 (k + 1) x0_0 x0_1 x0_2 x1 x7 = ((if x7 < 63 then (if x1 = 1 then some (x7, true) else ((Zz110.f k x0_0 x0_1 x0_2 x1 x1).bind fun t0 => Zz68.l2 k x0_0 x0_1 x0_2 t0 (wrap64 (x7 + 1)))) else some (0, false)) : Option (Int × Bool)) := by rw [← W64_eq]; kernel_rfl
theorem Zz68.f_eq (k : Nat) (a0_0 a0_1 a0_2 a1 : Int) : Zz68.f k a0_0 a0_1 a0_2 a1 = (Zz68.l2 k a0_0 a0_1 a0_2 a1 0 : Option (Int × Bool)) := by rw [Zz68.f_def]; kernel_rfl
theorem Zz63.l8_eq (k : Nat) (x0 x1 x6_0 x6_1 x6_2 x8 : Int) : Zz63.l8 (k + 1) x0 x1 x6_0 x6_1 x6_2 x8 = ((if 0 ≤ (IntKind.u64.wrap x1) then ((Zz112.f k x6_0 x6_1 x6_2 x8 (shr .u64 (IntKind.u64.wrap (x0 - 1)) (IntKind.u64.wrap x1))).bind fun t0 => ((Zz68.f k x6_0 x6_1 x6_2 t0).bind fun t1 => (if (!t1.2) = true then Zz63.l8 k x0 x1 x6_0 x6_1 x6_2 (IntKind.u64.wrap (x8 + 1)) else (if t1.1 = x1 then some (t0, 0) else Zz63.l8 k x0 x1 x6_0 x6_1 x6_2 (IntKind.u64.wrap (x8 + 1)))))) else none) : Option (Int × Int)) := by rw [← WK_eq]; kernel_rfl
theorem Zz63.f_eq (k : Nat) (a0 a1 : Int) : Zz63.f k a0 a1 = (((Zz66.f k a0).bind fun t0 => (Option.elim t0.1 ((if t0.2 = 0 then (if a1 < 0 then some (0, 1) else (if a1 > 62 then some (0, 1) else (if 0 ≤ (IntKind.u64.wrap a1) then (if (bits .and .u64 (IntKind.u64.wrap (a0 - 1)) (IntKind.u64.wrap ((shl .u64 1 (IntKind.u64.wrap a1)) - 1))) = 0 then none else some (0, 1)) else none))) else some (0, t0.2))) fun t1 => (if t0.2 = 0 then (if a1 < 0 then some (0, 1) else (if a1 > 62 then some (0, 1) else (if 0 ≤ (IntKind.u64.wrap a1) then (if (bits .and .u64 (IntKind.u64.wrap (a0 - 1)) (IntKind.u64.wrap ((shl .u64 1 (IntKind.u64.wrap a1)) - 1))) = 0 then Zz63.l8 k a0 a1 t1.1 t1.2.1 t1.2.2.1 1 else some (0, 1)) else none))) else some (0, t0.2)))) : Option (Int × Int)) := by rw [← WK_eq, Zz63.f_def]; kernel_rfl
theorem Zz73.l11_eq (k : Nat) (x1 x6 x7 x8_0 x8_1 x8_2 x10 : Int) (x34 : List Int) (x36_0 x36_1 x36_2 x36_3 x36_4 : Int) : Zz73.l11 (k + 1) x1 x6 x7 x8_0 x8_1 x8_2 x10 x34 x36_0 x36_1 x36_2 x36_3 x36_4 = ((if x10 ≥ 0 then (if 0 ≤ x10 then (if x10 < (x34.length : Int) then ((Zz110.f k x8_0 x8_1 x8_2 x6 x6).bind fun t0 => Zz73.l11 k x1 t0 x7 x8_0 x8_1 x8_2 (wrap64 (x10 - 1)) (x34.set (x10 : Int).toNat x6) x36_0 x36_1 x36_2 x36_3 x36_4) else none) else none) else (if x1 > 0 then ((Zz109.f k x8_0 x8_1 x8_2 2).bind fun t0 => some ((some ((x36_0, x36_1, x36_2, ()), x36_3, x34, t0.1, ())), t0.2)) else some ((some ((x36_0, x36_1, x36_2, ()), x36_3, x34, x36_4, ())), x7))) : Option ((Option ((Int × Int × Int × Unit) × Int × List Int × Int × Unit)) × Int)) := by rw [← W64_eq]; kernel_rfl
theorem Zz73.f_eq (k : Nat) (a0 a1 : Int) : Zz73.f k a0 a1 = ((if a1 > 20 then some (none, 13) else ((Zz63.f k a0 a1).bind fun t0 => (if t0.2 = 0 then ((Zz114.f k a0).bind fun t1 => (Option.elim t1.1 ((if t1.2 = 0 then (if 0 ≤ (wrap64 (a1 + 1)) then (if ((wrap64 (a1 + 1)) : Int).toNat ≤ 35184372088832 then none else none) else none) else some (none, t1.2))) fun t2 => (if t1.2 = 0 then (if 0 ≤ (wrap64 (a1 + 1)) then (if ((wrap64 (a1 + 1)) : Int).toNat ≤ 35184372088832 then Zz73.l11 k a1 t0.1 t1.2 t2.1 t2.2.1 t2.2.2.1 a1 (List.replicate ((wrap64 (a1 + 1)) : Int).toNat (0 : Int)) t2.1 t2.2.1 t2.2.2.1 a1 0 else none) else none) else some (none, t1.2)))) else some (none, t0.2)))) : Option ((Option ((Int × Int × Int × Unit) × Int × List Int × Int × Unit)) × Int)) := by rw [← W64_eq, Zz73.f_def]; kernel_rfl
theorem Zz34.l7_eq (k : Nat) (x5_0 : Option ((Int × Int × Int × Unit) × Int × List Int × Int × Unit)) (x5_1 : Option ((Int × Int × Int × Unit) × Int × List Int × Int × Unit)) (x5_2 : Option ((Int × Int × Int × Unit) × Int × List Int × Int × Unit)) (x6 : Int) (x7 : List Int) (x26 x27 : Int) : Zz34.l7 (k + 1) x5_0 x5_1 x5_2 x6 x7 x26 x27 = ((Option.elim x5_0 ((Option.elim x5_1 ((Option.elim x5_2 ((if x27 < x26 then (if 0 ≤ x27 then (if x27 < (x7.length : Int) then ((Zz73.f k (rd x7 x27) x6).bind fun t0 => (Option.elim t0.1 ((if x27 = 0 then (if t0.2 = 0 then Zz34.l7 k none none none x6 x7 x26 (wrap64 (x27 + 1)) else some (none, none, none, ([] : List Int), t0.2)) else (if x27 = 1 then (if t0.2 = 0 then Zz34.l7 k none none none x6 x7 x26 (wrap64 (x27 + 1)) else some (none, none, none, ([] : List Int), t0.2)) else (if x27 = 2 then (if t0.2 = 0 then Zz34.l7 k none none none x6 x7 x26 (wrap64 (x27 + 1)) else some (none, none, none, ([] : List Int), t0.2)) else none)))) fun t1 => (if x27 = 0 then (if t0.2 = 0 then Zz34.l7 k (some ((t1.1.1, t1.1.2.1, t1.1.2.2.1, ()), t1.2.1, t1.2.2.1, t1.2.2.2.1, ())) none none x6 x7 x26 (wrap64 (x27 + 1)) else some ((some ((t1.1.1, t1.1.2.1, t1.1.2.2.1, ()), t1.2.1, t1.2.2.1, t1.2.2.2.1, ())), none, none, ([] : List Int), t0.2)) else (if x27 = 1 then (if t0.2 = 0 then Zz34.l7 k none (some ((t1.1.1, t1.1.2.1, t1.1.2.2.1, ()), t1.2.1, t1.2.2.1, t1.2.2.2.1, ())) none x6 x7 x26 (wrap64 (x27 + 1)) else some (none, (some ((t1.1.1, t1.1.2.1, t1.1.2.2.1, ()), t1.2.1, t1.2.2.1, t1.2.2.2.1, ())), none, ([] : List Int), t0.2)) else (if x27 = 2 then (if t0.2 = 0 then Zz34.l7 k none none (some ((t1.1.1, t1.1.2.1, t1.1.2.2.1, ()), t1.2.1, t1.2.2.1, t1.2.2.2.1, ())) x6 x7 x26 (wrap64 (x27 + 1)) else some (none, none, (some ((t1.1.1, t1.1.2.1, t1.1.2.2.1, ()), t1.2.1, t1.2.2.1, t1.2.2.2.1, ())), ([] : List Int), t0.2)) else none))))) else none) else none) else some (none, none, none, x7, 0))) fun t0 => (if x27 < x26 then (if 0 ≤ x27 then (if x27 < (x7.length : Int) then ((Zz73.f k (rd x7 x27) x6).bind fun t1 => (Option.elim t1.1 ((if x27 = 0 then (if t1.2 = 0 then Zz34.l7 k none none (some ((t0.1.1, t0.1.2.1, t0.1.2.2.1, ()), t0.2.1, t0.2.2.1, t0.2.2.2.1, ())) x6 x7 x26 (wrap64 (x27 + 1)) else some (none, none, (some ((t0.1.1, t0.1.2.1, t0.1.2.2.1, ()), t0.2.1, t0.2.2.1, t0.2.2.2.1, ())), ([] : List Int), t1.2)) else (if x27 = 1 then (if t1.2 = 0 then Zz34.l7 k none none (some ((t0.1.1, t0.1.2.1, t0.1.2.2.1, ()), t0.2.1, t0.2.2.1, t0.2.2.2.1, ())) x6 x7 x26 (wrap64 (x27 + 1)) else some (none, none, (some ((t0.1.1, t0.1.2.1, t0.1.2.2.1, ()), t0.2.1, t0.2.2.1, t0.2.2.2.1, ())), ([] : List Int), t1.2)) else (if x27 = 2 then (if t1.2 = 0 then Zz34.l7 k none none none x6 x7 x26 (wrap64 (x27 + 1)) else some (none, none, none, ([] : List Int), t1.2)) else none)))) fun t2 => (if x27 = 0 then (if t1.2 = 0 then Zz34.l7 k (some ((t2.1.1, t2.1.2.1, t2.1.2.2.1, ()), t2.2.1, t2.2.2.1, t2.2.2.2.1, ())) none (some ((t0.1.1, t0.1.2.1, t0.1.2.2.1, ()), t0.2.1, t0.2.2.1, t0.2.2.2.1, ())) x6 x7 x26 (wrap64 (x27 + 1)) else some ((some ((t2.1.1, t2.1.2.1, t2.1.2.2.1, ()), t2.2.1, t2.2.2.1, t2.2.2.2.1, ())), none, (some ((t0.1.1, t0.1.2.1, t0.1.2.2.1, ()), t0.2.1, t0.2.2.1, t0.2.2.2.1, ())), ([] : List Int), t1.2)) else (if x27 = 1 then (if t1.2 = 0 then Zz34.l7 k none (some ((t2.1.1, t2.1.2.1, t2.1.2.2.1, ()), t2.2.1, t2.2.2.1, t2.2.2.2.1, ())) (some ((t0.1.1, t0.1.2.1, t0.1.2.2.1, ()), t0.2.1, t0.2.2.1, t0.2.2.2.1, ())) x6 x7 x26 (wrap64 (x27 + 1)) else some (none, (some ((t2.1.1, t2.1.2.1, t2.1.2.2.1, ()), t2.2.1, t2.2.2.1, t2.2.2.2.1, ())), (some ((t0.1.1, t0.1.2.1, t0.1.2.2.1, ()), t0.2.1, t0.2.2.1, t0.2.2.2.1, ())), ([] : List Int), t1.2)) else (if x27 = 2 then (if t1.2 = 0 then Zz34.l7 k none none (some ((t2.1.1, t2.1.2.1, t2.1.2.2.1, ()), t2.2.1, t2.2.2.1, t2.2.2.2.1, ())) x6 x7 x26 (wrap64 (x27 + 1)) else some (none, none, (some ((t2.1.1, t2.1.2.1, t2.1.2.2.1, ()), t2.2.1, t2.2.2.1, t2.2.2.2.1, ())), ([] : List Int), t1.2)) else none))))) else none) else none) else some (none, none, (some ((t0.1.1, t0.1.2.1, t0.1.2.2.1, ()), t0.2.1, t0.2.2.1, t0.2.2.2.1, ())), x7, 0)))) fun t0 => (Option.elim x5_2 ((if x27 < x26 then (if 0 ≤ x27 then (if x27 < (x7.length : Int) then ((Zz73.f k (rd x7 x27) x6).bind fun t1 => (Option.elim t1.1 ((if x27 = 0 then (if t1.2 = 0 then Zz34.l7 k none (some ((t0.1.1, t0.1.2.1, t0.1.2.2.1, ()), t0.2.1, t0.2.2.1, t0.2.2.2.1, ())) none x6 x7 x26 (wrap64 (x27 + 1)) else some (none, (some ((t0.1.1, t0.1.2.1, t0.1.2.2.1, ()), t0.2.1, t0.2.2.1, t0.2.2.2.1, ())), none, ([] : List Int), t1.2)) else (if x27 = 1 then (if t1.2 = 0 then Zz34.l7 k none none none x6 x7 x26 (wrap64 (x27 + 1)) else some (none, none, none, ([] : List Int), t1.2)) else (if x27 = 2 then (if t1.2 = 0 then Zz34.l7 k none (some ((t0.1.1, t0.1.2.1, t0.1.2.2.1, ()), t0.2.1, t0.2.2.1, t0.2.2.2.1, ())) none x6 x7 x26 (wrap64 (x27 + 1)) else some (none, (some ((t0.1.1, t0.1.2.1, t0.1.2.2.1, ()), t0.2.1, t0.2.2.1, t0.2.2.2.1, ())), none, ([] : List Int), t1.2)) else none)))) fun t2 => (if x27 = 0 then (if t1.2 = 0 then Zz34.l7 k (some ((t2.1.1, t2.1.2.1, t2.1.2.2.1, ()), t2.2.1, t2.2.2.1, t2.2.2.2.1, ())) (some ((t0.1.1, t0.1.2.1, t0.1.2.2.1, ()), t0.2.1, t0.2.2.1, t0.2.2.2.1, ())) none x6 x7 x26 (wrap64 (x27 + 1)) else some ((some ((t2.1.1, t2.1.2.1, t2.1.2.2.1, ()), t2.2.1, t2.2.2.1, t2.2.2.2.1, ())), (some ((t0.1.1, t0.1.2.1, t0.1.2.2.1, ()), t0.2.1, t0.2.2.1, t0.2.2.2.1, ())), none, ([] : List Int), t1.2)) else (if x27 = 1 then (if t1.2 = 0 then Zz34.l7 k none (some ((t2.1.1, t2.1.2.1, t2.1.2.2.1, ()), t2.2.1, t2.2.2.1, t2.2.2.2.1, ())) none x6 x7 x26 (wrap64 (x27 + 1)) else some (none, (some ((t2.1.1, t2.1.2.1, t2.1.2.2.1, ()), t2.2.1, t2.2.2.1, t2.2.2.2.1, ())), none, ([] : List Int), t1.2)) else (if x27 = 2 then (if t1.2 = 0 then Zz34.l7 k none (some ((t0.1.1, t0.1.2.1, t0.1.2.2.1, ()), t0.2.1, t0.2.2.1, t0.2.2.2.1, ())) (some ((t2.1.1, t2.1.2.1, t2.1.2.2.1, ()), t2.2.1, t2.2.2.1, t2.2.2.2.1, ())) x6 x7 x26 (wrap64 (x27 + 1)) else some (none, (some ((t0.1.1, t0.1.2.1, t0.1.2.2.1, ()), t0.2.1, t0.2.2.1, t0.2.2.2.1, ())), (some ((t2.1.1, t2.1.2.1, t2.1.2.2.1, ()), t2.2.1, t2.2.2.1, t2.2.2.2.1, ())), ([] : List Int), t1.2)) else none))))) else none) else none) else some (none, (some ((t0.1.1, t0.1.2.1, t0.1.2.2.1, ()), t0.2.1, t0.2.2.1, t0.2.2.2.1, ())), none, x7, 0))) fun t1 => (if x27 < x26 then (if 0 ≤ x27 then (if x27 < (x7.length : Int) then ((Zz73.f k (rd x7 x27) x6).bind fun t2 => (Option.elim t2.1 ((if x27 = 0 then (if t2.2 = 0 then Zz34.l7 k none (some ((t0.1.1, t0.1.2.1, t0.1.2.2.1, ()), t0.2.1, t0.2.2.1, t0.2.2.2.1, ())) (some ((t1.1.1, t1.1.2.1, t1.1.2.2.1, ()), t1.2.1, t1.2.2.1, t1.2.2.2.1, ())) x6 x7 x26 (wrap64 (x27 + 1)) else some (none, (some ((t0.1.1, t0.1.2.1, t0.1.2.2.1, ()), t0.2.1, t0.2.2.1, t0.2.2.2.1, ())), (some ((t1.1.1, t1.1.2.1, t1.1.2.2.1, ()), t1.2.1, t1.2.2.1, t1.2.2.2.1, ())), ([] : List Int), t2.2)) else (if x27 = 1 then (if t2.2 = 0 then Zz34.l7 k none none (some ((t1.1.1, t1.1.2.1, t1.1.2.2.1, ()), t1.2.1, t1.2.2.1, t1.2.2.2.1, ())) x6 x7 x26 (wrap64 (x27 + 1)) else some (none, none, (some ((t1.1.1, t1.1.2.1, t1.1.2.2.1, ()), t1.2.1, t1.2.2.1, t1.2.2.2.1, ())), ([] : List Int), t2.2)) else (if x27 = 2 then (if t2.2 = 0 then Zz34.l7 k none (some ((t0.1.1, t0.1.2.1, t0.1.2.2.1, ()), t0.2.1, t0.2.2.1, t0.2.2.2.1, ())) none x6 x7 x26 (wrap64 (x27 + 1)) else some (none, (some ((t0.1.1, t0.1.2.1, t0.1.2.2.1, ()), t0.2.1, t0.2.2.1, t0.2.2.2.1, ())), none, ([] : List Int), t2.2)) else none)))) fun t3 => (if x27 = 0 then (if t2.2 = 0 then Zz34.l7 k (some ((t3.1.1, t3.1.2.1, t3.1.2.2.1, ()), t3.2.1, t3.2.2.1, t3.2.2.2.1, ())) (some ((t0.1.1, t0.1.2.1, t0.1.2.2.1, ()), t0.2.1, t0.2.2.1, t0.2.2.2.1, ())) (some ((t1.1.1, t1.1.2.1, t1.1.2.2.1, ()), t1.2.1, t1.2.2.1, t1.2.2.2.1, ())) x6 x7 x26 (wrap64 (x27 + 1)) else some ((some ((t3.1.1, t3.1.2.1, t3.1.2.2.1, ()), t3.2.1, t3.2.2.1, t3.2.2.2.1, ())), (some ((t0.1.1, t0.1.2.1, t0.1.2.2.1, ()), t0.2.1, t0.2.2.1, t0.2.2.2.1, ())), (some ((t1.1.1, t1.1.2.1, t1.1.2.2.1, ()), t1.2.1, t1.2.2.1, t1.2.2.2.1, ())), ([] : List Int), t2.2)) else (if x27 = 1 then (if t2.2 = 0 then Zz34.l7 k none (some ((t3.1.1, t3.1.2.1, t3.1.2.2.1, ()), t3.2.1, t3.2.2.1, t3.2.2.2.1, ())) (some ((t1.1.1, t1.1.2.1, t1.1.2.2.1, ()), t1.2.1, t1.2.2.1, t1.2.2.2.1, ())) x6 x7 x26 (wrap64 (x27 + 1)) else some (none, (some ((t3.1.1, t3.1.2.1, t3.1.2.2.1, ()), t3.2.1, t3.2.2.1, t3.2.2.2.1, ())), (some ((t1.1.1, t1.1.2.1, t1.1.2.2.1, ()), t1.2.1, t1.2.2.1, t1.2.2.2.1, ())), ([] : List Int), t2.2)) else (if x27 = 2 then (if t2.2 = 0 then Zz34.l7 k none (some ((t0.1.1, t0.1.2.1, t0.1.2.2.1, ()), t0.2.1, t0.2.2.1, t0.2.2.2.1, ())) (some ((t3.1.1, t3.1.2.1, t3.1.2.2.1, ()), t3.2.1, t3.2.2.1, t3.2.2.2.1, ())) x6 x7 x26 (wrap64 (x27 + 1)) else some (none, (some ((t0.1.1, t0.1.2.1, t0.1.2.2.1, ()), t0.2.1, t0.2.2.1, t0.2.2.2.1, ())), (some ((t3.1.1, t3.1.2.1, t3.1.2.2.1, ()), t3.2.1, t3.2.2.1, t3.2.2.2.1, ())), ([] : List Int), t2.2)) else none))))) else none) else none) else some (none, (some ((t0.1.1, t0.1.2.1, t0.1.2.2.1, ()), t0.2.1, t0.2.2.1, t0.2.2.2.1, ())), (some ((t1.1.1, t1.1.2.1, t1.1.2.2.1, ()), t1.2.1, t1.2.2.1, t1.2.2.2.1, ())), x7, 0))))) fun t0 => (Option.elim x5_1 ((Option.elim x5_2 ((if x27 < x26 then (if 0 ≤ x27 then (if x27 < (x7.length : Int) then ((Zz73.f k (rd x7 x27) x6).bind fun t1 => (Option.elim t1.1 ((if x27 = 0 then (if t1.2 = 0 then Zz34.l7 k none none none x6 x7 x26 (wrap64 (x27 + 1)) else some (none, none, none, ([] : List Int), t1.2)) else (if x27 = 1 then (if t1.2 = 0 then Zz34.l7 k (some ((t0.1.1, t0.1.2.1, t0.1.2.2.1, ()), t0.2.1, t0.2.2.1, t0.2.2.2.1, ())) none none x6 x7 x26 (wrap64 (x27 + 1)) else some ((some ((t0.1.1, t0.1.2.1, t0.1.2.2.1, ()), t0.2.1, t0.2.2.1, t0.2.2.2.1, ())), none, none, ([] : List Int), t1.2)) else (if x27 = 2 then (if t1.2 = 0 then Zz34.l7 k (some ((t0.1.1, t0.1.2.1, t0.1.2.2.1, ()), t0.2.1, t0.2.2.1, t0.2.2.2.1, ())) none none x6 x7 x26 (wrap64 (x27 + 1)) else some ((some ((t0.1.1, t0.1.2.1, t0.1.2.2.1, ()), t0.2.1, t0.2.2.1, t0.2.2.2.1, ())), none, none, ([] : List Int), t1.2)) else none)))) fun t2 => (if x27 = 0 then (if t1.2 = 0 then Zz34.l7 k (some ((t2.1.1, t2.1.2.1, t2.1.2.2.1, ()), t2.2.1, t2.2.2.1, t2.2.2.2.1, ())) none none x6 x7 x26 (wrap64 (x27 + 1)) else some ((some ((t2.1.1, t2.1.2.1, t2.1.2.2.1, ()), t2.2.1, t2.2.2.1, t2.2.2.2.1, ())), none, none, ([] : List Int), t1.2)) else (if x27 = 1 then (if t1.2 = 0 then Zz34.l7 k (some ((t0.1.1, t0.1.2.1, t0.1.2.2.1, ()), t0.2.1, t0.2.2.1, t0.2.2.2.1, ())) (some ((t2.1.1, t2.1.2.1, t2.1.2.2.1, ()), t2.2.1, t2.2.2.1, t2.2.2.2.1, ())) none x6 x7 x26 (wrap64 (x27 + 1)) else some ((some ((t0.1.1, t0.1.2.1, t0.1.2.2.1, ()), t0.2.1, t0.2.2.1, t0.2.2.2.1, ())), (some ((t2.1.1, t2.1.2.1, t2.1.2.2.1, ()), t2.2.1, t2.2.2.1, t2.2.2.2.1, ())), none, ([] : List Int), t1.2)) else (if x27 = 2 then (if t1.2 = 0 then Zz34.l7 k (some ((t0.1.1, t0.1.2.1, t0.1.2.2.1, ()), t0.2.1, t0.2.2.1, t0.2.2.2.1, ())) none (some ((t2.1.1, t2.1.2.1, t2.1.2.2.1, ()), t2.2.1, t2.2.2.1, t2.2.2.2.1, ())) x6 x7 x26 (wrap64 (x27 + 1)) else some ((some ((t0.1.1, t0.1.2.1, t0.1.2.2.1, ()), t0.2.1, t0.2.2.1, t0.2.2.2.1, ())), none, (some ((t2.1.1, t2.1.2.1, t2.1.2.2.1, ()), t2.2.1, t2.2.2.1, t2.2.2.2.1, ())), ([] : List Int), t1.2)) else none))))) else none) else none) else some ((some ((t0.1.1, t0.1.2.1, t0.1.2.2.1, ()), t0.2.1, t0.2.2.1, t0.2.2.2.1, ())), none, none, x7, 0))) fun t1 => (if x27 < x26 then (if 0 ≤ x27 then (if x27 < (x7.length : Int) then ((Zz73.f k (rd x7 x27) x6).bind fun t2 => (Option.elim t2.1 ((if x27 = 0 then (if t2.2 = 0 then Zz34.l7 k none none (some ((t1.1.1, t1.1.2.1, t1.1.2.2.1, ()), t1.2.1, t1.2.2.1, t1.2.2.2.1, ())) x6 x7 x26 (wrap64 (x27 + 1)) else some (none, none, (some ((t1.1.1, t1.1.2.1, t1.1.2.2.1, ()), t1.2.1, t1.2.2.1, t1.2.2.2.1, ())), ([] : List Int), t2.2)) else (if x27 = 1 then (if t2.2 = 0 then Zz34.l7 k (some ((t0.1.1, t0.1.2.1, t0.1.2.2.1, ()), t0.2.1, t0.2.2.1, t0.2.2.2.1, ())) none (some ((t1.1.1, t1.1.2.1, t1.1.2.2.1, ()), t1.2.1, t1.2.2.1, t1.2.2.2.1, ())) x6 x7 x26 (wrap64 (x27 + 1)) else some ((some ((t0.1.1, t0.1.2.1, t0.1.2.2.1, ()), t0.2.1, t0.2.2.1, t0.2.2.2.1, ())), none, (some ((t1.1.1, t1.1.2.1, t1.1.2.2.1, ()), t1.2.1, t1.2.2.1, t1.2.2.2.1, ())), ([] : List Int), t2.2)) else (if x27 = 2 then (if t2.2 = 0 then Zz34.l7 k (some ((t0.1.1, t0.1.2.1, t0.1.2.2.1, ()), t0.2.1, t0.2.2.1, t0.2.2.2.1, ())) none none x6 x7 x26 (wrap64 (x27 + 1)) else some ((some ((t0.1.1, t0.1.2.1, t0.1.2.2.1, ()), t0.2.1, t0.2.2.1, t0.2.2.2.1, ())), none, none, ([] : List Int), t2.2)) else none)))) fun t3 => (if x27 = 0 then (if t2.2 = 0 then Zz34.l7 k (some ((t3.1.1, t3.1.2.1, t3.1.2.2.1, ()), t3.2.1, t3.2.2.1, t3.2.2.2.1, ())) none (some ((t1.1.1, t1.1.2.1, t1.1.2.2.1, ()), t1.2.1, t1.2.2.1, t1.2.2.2.1, ())) x6 x7 x26 (wrap64 (x27 + 1)) else some ((some ((t3.1.1, t3.1.2.1, t3.1.2.2.1, ()), t3.2.1, t3.2.2.1, t3.2.2.2.1, ())), none, (some ((t1.1.1, t1.1.2.1, t1.1.2.2.1, ()), t1.2.1, t1.2.2.1, t1.2.2.2.1, ())), ([] : List Int), t2.2)) else (if x27 = 1 then (if t2.2 = 0 then Zz34.l7 k (some ((t0.1.1, t0.1.2.1, t0.1.2.2.1, ()), t0.2.1, t0.2.2.1, t0.2.2.2.1, ())) (some ((t3.1.1, t3.1.2.1, t3.1.2.2.1, ()), t3.2.1, t3.2.2.1, t3.2.2.2.1, ())) (some ((t1.1.1, t1.1.2.1, t1.1.2.2.1, ()), t1.2.1, t1.2.2.1, t1.2.2.2.1, ())) x6 x7 x26 (wrap64 (x27 + 1)) else some ((some ((t0.1.1, t0.1.2.1, t0.1.2.2.1, ()), t0.2.1, t0.2.2.1, t0.2.2.2.1, ())), (some ((t3.1.1, t3.1.2.1, t3.1.2.2.1, ()), t3.2.1, t3.2.2.1, t3.2.2.2.1, ())), (some ((t1.1.1, t1.1.2.1, t1.1.2.2.1, ()), t1.2.1, t1.2.2.1, t1.2.2.2.1, ())), ([] : List Int), t2.2)) else (if x27 = 2 then (if t2.2 = 0 then Zz34.l7 k (some ((t0.1.1, t0.1.2.1, t0.1.2.2.1, ()), t0.2.1, t0.2.2.1, t0.2.2.2.1, ())) none (some ((t3.1.1, t3.1.2.1, t3.1.2.2.1, ()), t3.2.1, t3.2.2.1, t3.2.2.2.1, ())) x6 x7 x26 (wrap64 (x27 + 1)) else some ((some ((t0.1.1, t0.1.2.1, t0.1.2.2.1, ()), t0.2.1, t0.2.2.1, t0.2.2.2.1, ())), none, (some ((t3.1.1, t3.1.2.1, t3.1.2.2.1, ()), t3.2.1, t3.2.2.1, t3.2.2.2.1, ())), ([] : List Int), t2.2)) else none))))) else none) else none) else some ((some ((t0.1.1, t0.1.2.1, t0.1.2.2.1, ()), t0.2.1, t0.2.2.1, t0.2.2.2.1, ())), none, (some ((t1.1.1, t1.1.2.1, t1.1.2.2.1, ()), t1.2.1, t1.2.2.1, t1.2.2.2.1, ())), x7, 0)))) fun t1 => (Option.elim x5_2 ((if x27 < x26 then (if 0 ≤ x27 then (if x27 < (x7.length : Int) then ((Zz73.f k (rd x7 x27) x6).bind fun t2 => (Option.elim t2.1 ((if x27 = 0 then (if t2.2 = 0 then Zz34.l7 k none (some ((t1.1.1, t1.1.2.1, t1.1.2.2.1, ()), t1.2.1, t1.2.2.1, t1.2.2.2.1, ())) none x6 x7 x26 (wrap64 (x27 + 1)) else some (none, (some ((t1.1.1, t1.1.2.1, t1.1.2.2.1, ()), t1.2.1, t1.2.2.1, t1.2.2.2.1, ())), none, ([] : List Int), t2.2)) else (if x27 = 1 then (if t2.2 = 0 then Zz34.l7 k (some ((t0.1.1, t0.1.2.1, t0.1.2.2.1, ()), t0.2.1, t0.2.2.1, t0.2.2.2.1, ())) none none x6 x7 x26 (wrap64 (x27 + 1)) else some ((some ((t0.1.1, t0.1.2.1, t0.1.2.2.1, ()), t0.2.1, t0.2.2.1, t0.2.2.2.1, ())), none, none, ([] : List Int), t2.2)) else (if x27 = 2 then (if t2.2 = 0 then Zz34.l7 k (some ((t0.1.1, t0.1.2.1, t0.1.2.2.1, ()), t0.2.1, t0.2.2.1, t0.2.2.2.1, ())) (some ((t1.1.1, t1.1.2.1, t1.1.2.2.1, ()), t1.2.1, t1.2.2.1, t1.2.2.2.1, ())) none x6 x7 x26 (wrap64 (x27 + 1)) else some ((some ((t0.1.1, t0.1.2.1, t0.1.2.2.1, ()), t0.2.1, t0.2.2.1, t0.2.2.2.1, ())), (some ((t1.1.1, t1.1.2.1, t1.1.2.2.1, ()), t1.2.1, t1.2.2.1, t1.2.2.2.1, ())), none, ([] : List Int), t2.2)) else none)))) fun t3 => (if x27 = 0 then (if t2.2 = 0 then Zz34.l7 k (some ((t3.1.1, t3.1.2.1, t3.1.2.2.1, ()), t3.2.1, t3.2.2.1, t3.2.2.2.1, ())) (some ((t1.1.1, t1.1.2.1, t1.1.2.2.1, ()), t1.2.1, t1.2.2.1, t1.2.2.2.1, ())) none x6 x7 x26 (wrap64 (x27 + 1)) else some ((some ((t3.1.1, t3.1.2.1, t3.1.2.2.1, ()), t3.2.1, t3.2.2.1, t3.2.2.2.1, ())), (some ((t1.1.1, t1.1.2.1, t1.1.2.2.1, ()), t1.2.1, t1.2.2.1, t1.2.2.2.1, ())), none, ([] : List Int), t2.2)) else (if x27 = 1 then (if t2.2 = 0 then Zz34.l7 k (some ((t0.1.1, t0.1.2.1, t0.1.2.2.1, ()), t0.2.1, t0.2.2.1, t0.2.2.2.1, ())) (some ((t3.1.1, t3.1.2.1, t3.1.2.2.1, ()), t3.2.1, t3.2.2.1, t3.2.2.2.1, ())) none x6 x7 x26 (wrap64 (x27 + 1)) else some ((some ((t0.1.1, t0.1.2.1, t0.1.2.2.1, ()), t0.2.1, t0.2.2.1, t0.2.2.2.1, ())), (some ((t3.1.1, t3.1.2.1, t3.1.2.2.1, ()), t3.2.1, t3.2.2.1, t3.2.2.2.1, ())), none, ([] : List Int), t2.2)) else (if x27 = 2 then (if t2.2 = 0 then Zz34.l7 k (some ((t0.1.1, t0.1.2.1, t0.1.2.2.1, ()), t0.2.1, t0.2.2.1, t0.2.2.2.1, ())) (some ((t1.1.1, t1.1.2.1, t1.1.2.2.1, ()), t1.2.1, t1.2.2.1, t1.2.2.2.1, ())) (some ((t3.1.1, t3.1.2.1, t3.1.2.2.1, ()), t3.2.1, t3.2.2.1, t3.2.2.2.1, ())) x6 x7 x26 (wrap64 (x27 + 1)) else some ((some ((t0.1.1, t0.1.2.1, t0.1.2.2.1, ()), t0.2.1, t0.2.2.1, t0.2.2.2.1, ())), (some ((t1.1.1, t1.1.2.1, t1.1.2.2.1, ()), t1.2.1, t1.2.2.1, t1.2.2.2.1, ())), (some ((t3.1.1, t3.1.2.1, t3.1.2.2.1, ()), t3.2.1, t3.2.2.1, t3.2.2.2.1, ())), ([] : List Int), t2.2)) else none))))) else none) else none) else some ((some ((t0.1.1, t0.1.2.1, t0.1.2.2.1, ()), t0.2.1, t0.2.2.1, t0.2.2.2.1, ())), (some ((t1.1.1, t1.1.2.1, t1.1.2.2.1, ()), t1.2.1, t1.2.2.1, t1.2.2.2.1, ())), none, x7, 0))) fun t2 => (if x27 < x26 then (if 0 ≤ x27 then (if x27 < (x7.length : Int) then ((Zz73.f k (rd x7 x27) x6).bind fun t3 => (Option.elim t3.1 ((if x27 = 0 then (if t3.2 = 0 then Zz34.l7 k none (some ((t1.1.1, t1.1.2.1, t1.1.2.2.1, ()), t1.2.1, t1.2.2.1, t1.2.2.2.1, ())) (some ((t2.1.1, t2.1.2.1, t2.1.2.2.1, ()), t2.2.1, t2.2.2.1, t2.2.2.2.1, ())) x6 x7 x26 (wrap64 (x27 + 1)) else some (none, (some ((t1.1.1, t1.1.2.1, t1.1.2.2.1, ()), t1.2.1, t1.2.2.1, t1.2.2.2.1, ())), (some ((t2.1.1, t2.1.2.1, t2.1.2.2.1, ()), t2.2.1, t2.2.2.1, t2.2.2.2.1, ())), ([] : List Int), t3.2)) else (if x27 = 1 then (if t3.2 = 0 then Zz34.l7 k (some ((t0.1.1, t0.1.2.1, t0.1.2.2.1, ()), t0.2.1, t0.2.2.1, t0.2.2.2.1, ())) none (some ((t2.1.1, t2.1.2.1, t2.1.2.2.1, ()), t2.2.1, t2.2.2.1, t2.2.2.2.1, ())) x6 x7 x26 (wrap64 (x27 + 1)) else some ((some ((t0.1.1, t0.1.2.1, t0.1.2.2.1, ()), t0.2.1, t0.2.2.1, t0.2.2.2.1, ())), none, (some ((t2.1.1, t2.1.2.1, t2.1.2.2.1, ()), t2.2.1, t2.2.2.1, t2.2.2.2.1, ())), ([] : List Int), t3.2)) else (if x27 = 2 then (if t3.2 = 0 then Zz34.l7 k (some ((t0.1.1, t0.1.2.1, t0.1.2.2.1, ()), t0.2.1, t0.2.2.1, t0.2.2.2.1, ())) (some ((t1.1.1, t1.1.2.1, t1.1.2.2.1, ()), t1.2.1, t1.2.2.1, t1.2.2.2.1, ())) none x6 x7 x26 (wrap64 (x27 + 1)) else some ((some ((t0.1.1, t0.1.2.1, t0.1.2.2.1, ()), t0.2.1, t0.2.2.1, t0.2.2.2.1, ())), (some ((t1.1.1, t1.1.2.1, t1.1.2.2.1, ()), t1.2.1, t1.2.2.1, t1.2.2.2.1, ())), none, ([] : List Int), t3.2)) else none)))) fun t4 => (if x27 = 0 then (if t3.2 = 0 then Zz34.l7 k (some ((t4.1.1, t4.1.2.1, t4.1.2.2.1, ()), t4.2.1, t4.2.2.1, t4.2.2.2.1, ())) (some ((t1.1.1, t1.1.2.1, t1.1.2.2.1, ()), t1.2.1, t1.2.2.1, t1.2.2.2.1, ())) (some ((t2.1.1, t2.1.2.1, t2.1.2.2.1, ()), t2.2.1, t2.2.2.1, t2.2.2.2.1, ())) x6 x7 x26 (wrap64 (x27 + 1)) else some ((some ((t4.1.1, t4.1.2.1, t4.1.2.2.1, ()), t4.2.1, t4.2.2.1, t4.2.2.2.1, ())), (some ((t1.1.1, t1.1.2.1, t1.1.2.2.1, ()), t1.2.1, t1.2.2.1, t1.2.2.2.1, ())), (some ((t2.1.1, t2.1.2.1, t2.1.2.2.1, ()), t2.2.1, t2.2.2.1, t2.2.2.2.1, ())), ([] : List Int), t3.2)) else (if x27 = 1 then (if t3.2 = 0 then Zz34.l7 k (some ((t0.1.1, t0.1.2.1, t0.1.2.2.1, ()), t0.2.1, t0.2.2.1, t0.2.2.2.1, ())) (some ((t4.1.1, t4.1.2.1, t4.1.2.2.1, ()), t4.2.1, t4.2.2.1, t4.2.2.2.1, ())) (some ((t2.1.1, t2.1.2.1, t2.1.2.2.1, ()), t2.2.1, t2.2.2.1, t2.2.2.2.1, ())) x6 x7 x26 (wrap64 (x27 + 1)) else some ((some ((t0.1.1, t0.1.2.1, t0.1.2.2.1, ()), t0.2.1, t0.2.2.1, t0.2.2.2.1, ())), (some ((t4.1.1, t4.1.2.1, t4.1.2.2.1, ()), t4.2.1, t4.2.2.1, t4.2.2.2.1, ())), (some ((t2.1.1, t2.1.2.1, t2.1.2.2.1, ()), t2.2.1, t2.2.2.1, t2.2.2.2.1, ())), ([] : List Int), t3.2)) else (if x27 = 2 then (if t3.2 = 0 then Zz34.l7 k (some ((t0.1.1, t0.1.2.1, t0.1.2.2.1, ()), t0.2.1, t0.2.2.1, t0.2.2.2.1, ())) (some ((t1.1.1, t1.1.2.1, t1.1.2.2.1, ()), t1.2.1, t1.2.2.1, t1.2.2.2.1, ())) (some ((t4.1.1, t4.1.2.1, t4.1.2.2.1, ()), t4.2.1, t4.2.2.1, t4.2.2.2.1, ())) x6 x7 x26 (wrap64 (x27 + 1)) else some ((some ((t0.1.1, t0.1.2.1, t0.1.2.2.1, ()), t0.2.1, t0.2.2.1, t0.2.2.2.1, ())), (some ((t1.1.1, t1.1.2.1, t1.1.2.2.1, ()), t1.2.1, t1.2.2.1, t1.2.2.2.1, ())), (some ((t4.1.1, t4.1.2.1, t4.1.2.2.1, ()), t4.2.1, t4.2.2.1, t4.2.2.2.1, ())), ([] : List Int), t3.2)) else none))))) else none) else none) else some ((some ((t0.1.1, t0.1.2.1, t0.1.2.2.1, ()), t0.2.1, t0.2.2.1, t0.2.2.2.1, ())), (some ((t1.1.1, t1.1.2.1, t1.1.2.2.1, ()), t1.2.1, t1.2.2.1, t1.2.2.2.1, ())), (some ((t2.1.1, t2.1.2.1, t2.1.2.2.1, ()), t2.2.1, t2.2.2.1, t2.2.2.2.1, ())), x7, 0))))) : Option ((Option ((Int × Int × Int × Unit) × Int × List Int × Int × Unit)) × (Option ((Int × Int × Int × Unit) × Int × List Int × Int × Unit)) × (Option ((Int × Int × Int × Unit) × Int × List Int × Int × Unit)) × List Int × Int)) := by cases x5_0 <;> cases x5_1 <;> cases x5_2 <;> (rw [← W64_eq]; kernel_rfl)
theorem Zz34.f_eq (k : Nat) (a0 : Int) : Zz34.f k a0 = (((Zz15.f k (IntKind.u64.wrap (wrap64 (a0 - 1)))).bind fun t0 => (if 1 > t0 then ((Zz64.f k 1 3 9223372036854775808).bind fun t1 => (if t1.2 = 0 then Zz34.l7 k none none none t0 t1.1 (t1.1.length : Int) 0 else some (none, none, none, ([] : List Int), t1.2))) else ((Zz64.f k t0 3 9223372036854775808).bind fun t1 => (if t1.2 = 0 then Zz34.l7 k none none none t0 t1.1 (t1.1.length : Int) 0 else some (none, none, none, ([] : List Int), t1.2))))) : Option ((Option ((Int × Int × Int × Unit) × Int × List Int × Int × Unit)) × (Option ((Int × Int × Int × Unit) × Int × List Int × Int × Unit)) × (Option ((Int × Int × Int × Unit) × Int × List Int × Int × Unit)) × List Int × Int)) := by rw [← W64_eq, ← WK_eq, Zz34.f_def]; kernel_rfl
theorem Zz76.f_eq (k : Nat) (a0 : Option ((Int × Int × Int × Unit) × Int × List Int × Int × Unit)) : Zz76.f k a0 = ((Option.elim a0 (some 0) fun t0 => (if 0 ≤ (IntKind.u64.wrap t0.2.1) then some (shl .i64 1 (IntKind.u64.wrap t0.2.1)) else none)) : Option Int) := by rw [← WK_eq, Zz76.f_def]; kernel_rfl
theorem Zz108.f_eq (k : Nat) (a0_0 a0_1 a0_2 a1 a2 : Int) : Zz108.f k a0_0 a0_1 a0_2 a1 a2 = ((if a0_0 = 0 then none else (if a0_0 = 0 then none else (if (IntKind.u64.wrap ((Int.tmod a1 a0_0) + (Int.tmod a2 a0_0))) ≥ a0_0 then some (IntKind.u64.wrap ((IntKind.u64.wrap ((Int.tmod a1 a0_0) + (Int.tmod a2 a0_0))) - a0_0)) else some (IntKind.u64.wrap ((Int.tmod a1 a0_0) + (Int.tmod a2 a0_0)))))) : Option Int) := by rw [← WK_eq, Zz108.f_def]; kernel_rfl
theorem Zz80.l3_eq (k : Nat) (x0_0 x0_1 x0_2 x0_3 : Int) (x0_4 : List Int) (x0_5 x1 x2 x6_0 x6_1 x6_2 x7 x10 x11 : Int) : Zz80.l3 (k + 1) x0_0 x0_1 x0_2 x0_3 x0_4 x0_5 x1 x2 x6_0 x6_1 x6_2 x7 x10 x11 = ((if x11 < x10 then ((Zz110.f k x0_0 x0_1 x0_2 x7 x7).bind fun t0 => Zz80.l3 k x0_0 x0_1 x0_2 x0_3 x0_4 x0_5 x1 x2 x6_0 x6_1 x6_2 t0 x10 (wrap64 (x11 + 1))) else some (x1, x2, x7)) : Option (Int × Int × Int)) := by rw [← W64_eq]; kernel_rfl
theorem Zz80.f_eq (k : Nat) (a0 : Option ((Int × Int × Int × Unit) × Int × List Int × Int × Unit)) (a1 a2 : Int) : Zz80.f k a0 a1 a2 = ((Option.elim a0 (none) fun t0 => Zz80.l3 k t0.1.1 t0.1.2.1 t0.1.2.2.1 t0.2.1 t0.2.2.1 t0.2.2.2.1 a1 a2 0 0 0 a2 (wrap64 (a1 - 1)) 0) : Option (Int × Int × Int)) := by rw [← W64_eq, Zz80.f_def]; kernel_rfl
theorem Zz78.f_eq (k : Nat) (a0 : Option ((Int × Int × Int × Unit) × Int × List Int × Int × Unit)) (a1_0 a1_1 a1_2 : Int) : Zz78.f k a0 a1_0 a1_1 a1_2 = ((Option.elim a0 (((Zz80.f k none (wrap64 (a1_0 - 1)) a1_1).bind fun t0 => some (t0.1, t0.2.1, t0.2.2))) fun t0 => ((Zz80.f k (some ((t0.1.1, t0.1.2.1, t0.1.2.2.1, ()), t0.2.1, t0.2.2.1, t0.2.2.2.1, ())) (wrap64 (a1_0 - 1)) a1_1).bind fun t1 => some (t1.1, t1.2.1, t1.2.2))) : Option (Int × Int × Int)) := by rw [← W64_eq, Zz78.f_def]; kernel_rfl
theorem Zz82.f_eq (k : Nat) (a0 : Option ((Int × Int × Int × Unit) × Int × List Int × Int × Unit)) (a1_0 a1_1 a1_2 : Int) : Zz82.f k a0 a1_0 a1_1 a1_2 = ((Option.elim a0 (none) fun t0 => (if 0 ≤ a1_0 then (if a1_0 < (t0.2.2.1.length : Int) then ((Zz110.f k t0.1.1 t0.1.2.1 t0.1.2.2.1 a1_1 (rd t0.2.2.1 a1_0)).bind fun t1 => ((Zz80.f k (some ((t0.1.1, t0.1.2.1, t0.1.2.2.1, ()), t0.2.1, t0.2.2.1, t0.2.2.2.1, ())) (wrap64 (a1_0 - 1)) t1).bind fun t2 => some (t2.1, t2.2.1, t2.2.2))) else none) else none)) : Option (Int × Int × Int)) := by rw [← W64_eq, Zz82.f_def]; kernel_rfl
theorem Zz83.l8_eq (R : (Option ((Int × Int × Int × Unit) × Int × List Int × Int × Unit)) → (List Int) → Int → Int → Int → Int → Option (List Int)) (k : Nat) (x0_0 x0_1 x0_2 x0_3 : Int) (x0_4 : List Int) (x0_5 : Int) (x1 : List Int) (x3 x6_0 x6_1 x6_2 x9 : Int) (x10 x11 : List Int) (x33 x34 : Int) : Zz83.l8 R (k + 1) x0_0 x0_1 x0_2 x0_3 x0_4 x0_5 x1 x3 x6_0 x6_1 x6_2 x9 x10 x11 x33 x34 = ((if x34 < x33 then (if 0 ≤ (wrap64 (x9 + x34)) then (if (wrap64 (x9 + x34)) < (x1.length : Int) then ((Zz110.f k x0_0 x0_1 x0_2 x6_2 (rd x1 (wrap64 (x9 + x34)))).bind fun t0 => (if 0 ≤ x34 then (if x34 < (x1.length : Int) then ((Zz108.f k x0_0 x0_1 x0_2 (rd x1 x34) t0).bind fun t1 => (if 0 ≤ x34 then (if x34 < (x1.length : Int) then ((Zz113.f k x0_0 x0_1 x0_2 (rd x1 x34) t0).bind fun t2 => (if 0 ≤ x34 then (if x34 < (x10.length : Int) then (if 0 ≤ x34 then (if x34 < (x11.length : Int) then Zz83.l8 R k x0_0 x0_1 x0_2 x0_3 x0_4 x0_5 x1 x3 x6_0 x6_1 x6_2 x9 (x10.set (x34 : Int).toNat t1) (x11.set (x34 : Int).toNat t2) x33 (wrap64 (x34 + 1)) else none) else none) else none) else none)) else none) else none)) else none) else none)) else none) else none) else ((Zz78.f k (some ((x0_0, x0_1, x0_2, ()), x0_3, x0_4, x0_5, ())) x6_0 x6_1 x6_2).bind fun t0 => (if x9 < x3 then ((R (some ((x0_0, x0_1, x0_2, ()), x0_3, x0_4, x0_5, ())) x10 t0.1 t0.2.1 t0.2.2 x9).bind fun t1 => (if x3 > x9 then ((Zz82.f k (some ((x0_0, x0_1, x0_2, ()), x0_3, x0_4, x0_5, ())) x6_0 x6_1 x6_2).bind fun t2 => ((R (some ((x0_0, x0_1, x0_2, ()), x0_3, x0_4, x0_5, ())) x11 t2.1 t2.2.1 t2.2.2 (wrap64 (x3 - x9))).bind fun t3 => (if (t1.length + t3.length) ≤ 17592186044416 then some (t1 ++ t3) else none))) else some t1)) else ((R (some ((x0_0, x0_1, x0_2, ()), x0_3, x0_4, x0_5, ())) x10 t0.1 t0.2.1 t0.2.2 x3).bind fun t1 => (if x3 > x9 then ((Zz82.f k (some ((x0_0, x0_1, x0_2, ()), x0_3, x0_4, x0_5, ())) x6_0 x6_1 x6_2).bind fun t2 => ((R (some ((x0_0, x0_1, x0_2, ()), x0_3, x0_4, x0_5, ())) x11 t2.1 t2.2.1 t2.2.2 (wrap64 (x3 - x9))).bind fun t3 => (if (t1.length + t3.length) ≤ 17592186044416 then some (t1 ++ t3) else none))) else some t1))))) : Option (List Int)) := by rw [← W64_eq]; kernel_rfl
theorem Zz83.v_eq (R : (Option ((Int × Int × Int × Unit) × Int × List Int × Int × Unit)) → (List Int) → Int → Int → Int → Int → Option (List Int)) (k : Nat) (a0 : Option ((Int × Int × Int × Unit) × Int × List Int × Int × Unit)) (a1 : List Int) (a2_0 a2_1 a2_2 a3 : Int) : Zz83.v R k a0 a1 a2_0 a2_1 a2_2 a3 = ((Option.elim a0 ((if a3 = 0 then some ([] : List Int) else (if a2_0 = 0 then (if 0 < (a1.length : Int) then some ([(rd a1 0)] : List Int) else none) else (if 0 ≤ (wrap64 (Int.tdiv (a1.length : Int) 2)) then (if ((wrap64 (Int.tdiv (a1.length : Int) 2)) : Int).toNat ≤ 35184372088832 then (if 0 ≤ (wrap64 (Int.tdiv (a1.length : Int) 2)) then (if ((wrap64 (Int.tdiv (a1.length : Int) 2)) : Int).toNat ≤ 35184372088832 then none else none) else none) else none) else none)))) fun t0 => (if a3 = 0 then some ([] : List Int) else (if a2_0 = 0 then (if 0 < (a1.length : Int) then some ([(rd a1 0)] : List Int) else none) else (if 0 ≤ (wrap64 (Int.tdiv (a1.length : Int) 2)) then (if ((wrap64 (Int.tdiv (a1.length : Int) 2)) : Int).toNat ≤ 35184372088832 then (if 0 ≤ (wrap64 (Int.tdiv (a1.length : Int) 2)) then (if ((wrap64 (Int.tdiv (a1.length : Int) 2)) : Int).toNat ≤ 35184372088832 then Zz83.l8 R k t0.1.1 t0.1.2.1 t0.1.2.2.1 t0.2.1 t0.2.2.1 t0.2.2.2.1 a1 a3 a2_0 a2_1 a2_2 (wrap64 (Int.tdiv (a1.length : Int) 2)) (List.replicate ((wrap64 (Int.tdiv (a1.length : Int) 2)) : Int).toNat (0 : Int)) (List.replicate ((wrap64 (Int.tdiv (a1.length : Int) 2)) : Int).toNat (0 : Int)) (wrap64 (Int.tdiv (a1.length : Int) 2)) 0 else none) else none) else none) else none)))) : Option (List Int)) := by rw [← W64_eq]; kernel_rfl
theorem Zz81.l3_eq (k : Nat) (x0_0 x0_1 x0_2 x0_3 : Int) (x0_4 : List Int) (x0_5 : Int) (x5 x11 : List Int) (x12 x13 : Int) : Zz81.l3 (k + 1) x0_0 x0_1 x0_2 x0_3 x0_4 x0_5 x5 x11 x12 x13 = ((if x13 < x12 then (if 0 ≤ x13 then (if x13 < (x11.length : Int) then ((Zz111.f k x0_0 x0_1 x0_2 (rd x11 x13)).bind fun t0 => (if 0 ≤ x13 then (if x13 < (x5.length : Int) then Zz81.l3 k x0_0 x0_1 x0_2 x0_3 x0_4 x0_5 (x5.set (x13 : Int).toNat t0) x11 x12 (wrap64 (x13 + 1)) else none) else none)) else none) else none) else some x5) : Option (List Int)) := by rw [← W64_eq]; kernel_rfl
theorem Zz81.f_eq (k : Nat) (a0 : Option ((Int × Int × Int × Unit) × Int × List Int × Int × Unit)) (a1 : List Int) : Zz81.f k a0 a1 = ((Option.elim a0 (((Zz76.f k none).bind fun t0 => (if 0 ≤ t0 then (if (t0 : Int).toNat ≤ 35184372088832 then none else none) else none))) fun t0 => ((Zz76.f k (some ((t0.1.1, t0.1.2.1, t0.1.2.2.1, ()), t0.2.1, t0.2.2.1, t0.2.2.2.1, ()))).bind fun t1 => (if 0 ≤ t1 then (if (t1 : Int).toNat ≤ 35184372088832 then Zz81.l3 k t0.1.1 t0.1.2.1 t0.1.2.2.1 t0.2.1 t0.2.2.1 t0.2.2.2.1 (List.replicate (t1 : Int).toNat (0 : Int)) a1 (a1.length : Int) 0 else none) else none))) : Option (List Int)) := by rw [Zz81.f_def]; kernel_rfl
theorem Zz75.f_eq (k : Nat) (a0 : Option ((Int × Int × Int × Unit) × Int × List Int × Int × Unit)) (a1 : List Int) (a2 : Int) : Zz75.f k a0 a1 a2 = ((Option.elim a0 (some (([] : List Int), 2)) fun t0 => ((Zz76.f k (some ((t0.1.1, t0.1.2.1, t0.1.2.2.1, ()), t0.2.1, t0.2.2.1, t0.2.2.2.1, ()))).bind fun t1 => (if (a1.length : Int) > t1 then some (([] : List Int), 13) else (if a2 < 0 then some (([] : List Int), 1) else ((Zz76.f k (some ((t0.1.1, t0.1.2.1, t0.1.2.2.1, ()), t0.2.1, t0.2.2.1, t0.2.2.2.1, ()))).bind fun t2 => (if a2 > t2 then some (([] : List Int), 1) else ((Zz81.f k (some ((t0.1.1, t0.1.2.1, t0.1.2.2.1, ()), t0.2.1, t0.2.2.1, t0.2.2.2.1, ())) a1).bind fun t3 => ((Zz80.f k (some ((t0.1.1, t0.1.2.1, t0.1.2.2.1, ()), t0.2.1, t0.2.2.1, t0.2.2.2.1, ())) t0.2.1 1).bind fun t4 => ((Zz83.f k (some ((t0.1.1, t0.1.2.1, t0.1.2.2.1, ()), t0.2.1, t0.2.2.1, t0.2.2.2.1, ())) t3 t4.1 t4.2.1 t4.2.2 a2).bind fun t5 => some (t5, 0)))))))))) : Option (List Int × Int)) := by rw [Zz75.f_def]; kernel_rfl
theorem Zz79.l11_eq (R : (Option ((Int × Int × Int × Unit) × Int × List Int × Int × Unit)) → (List Int) → (List Int) → Int → Int → Int → Option (List Int)) (k : Nat) (x0_0 x0_1 x0_2 x0_3 : Int) (x0_4 : List Int) (x0_5 x4 x8_0 x8_1 x8_2 : Int) (x12 x15 x16 : List Int) (x66 x67 : Int) : Zz79.l11 R (k + 1) x0_0 x0_1 x0_2 x0_3 x0_4 x0_5 x4 x8_0 x8_1 x8_2 x12 x15 x16 x66 x67 = ((if x67 < x66 then (if 0 ≤ x67 then (if x67 < (x15.length : Int) then (if 0 ≤ x67 then (if x67 < (x12.length : Int) then ((Zz110.f k x0_0 x0_1 x0_2 x8_2 (rd x12 x67)).bind fun t0 => ((Zz113.f k x0_0 x0_1 x0_2 (rd x15 x67) t0).bind fun t1 => (if 0 ≤ x67 then (if x67 < (x16.length : Int) then (if 0 ≤ x67 then (if x67 < (x12.length : Int) then (if 0 ≤ (wrap64 (x4 + x67)) then (if (wrap64 (x4 + x67)) < ((x16.set (x67 : Int).toNat t1).length : Int) then Zz79.l11 R k x0_0 x0_1 x0_2 x0_3 x0_4 x0_5 x4 x8_0 x8_1 x8_2 x12 x15 ((x16.set (x67 : Int).toNat t1).set ((wrap64 (x4 + x67)) : Int).toNat (rd x12 x67)) x66 (wrap64 (x67 + 1)) else none) else none) else none) else none) else none) else none))) else none) else none) else none) else none) else some x16) : Option (List Int)) := by rw [← W64_eq]; kernel_rfl
theorem Zz79.l5_eq (R : (Option ((Int × Int × Int × Unit) × Int × List Int × Int × Unit)) → (List Int) → (List Int) → Int → Int → Int → Option (List Int)) (k : Nat) (x0_0 x0_1 x0_2 x0_3 : Int) (x0_4 : List Int) (x0_5 : Int) (x1 x2 : List Int) (x4 x8_0 x8_1 x8_2 x11 : Int) (x12 x13 : List Int) (x14 : Int) : Zz79.l5 R (k + 1) x0_0 x0_1 x0_2 x0_3 x0_4 x0_5 x1 x2 x4 x8_0 x8_1 x8_2 x11 x12 x13 x14 = ((if x14 < x4 then (if 0 ≤ (wrap64 (x14 - x11)) then (if (wrap64 (x14 - x11)) < (x2.length : Int) then (if 0 ≤ x14 then (if x14 < (x12.length : Int) then ((Zz110.f k x0_0 x0_1 x0_2 x8_2 (rd x12 x14)).bind fun t0 => ((Zz108.f k x0_0 x0_1 x0_2 (rd x2 (wrap64 (x14 - x11))) t0).bind fun t1 => (if (x13.length + ([t1] : List Int).length) ≤ 17592186044416 then Zz79.l5 R k x0_0 x0_1 x0_2 x0_3 x0_4 x0_5 x1 x2 x4 x8_0 x8_1 x8_2 x11 x12 (x13 ++ ([t1] : List Int)) (wrap64 (x14 + 1)) else none))) else none) else none) else none) else none) else ((Zz78.f k (some ((x0_0, x0_1, x0_2, ()), x0_3, x0_4, x0_5, ())) x8_0 x8_1 x8_2).bind fun t0 => ((R (some ((x0_0, x0_1, x0_2, ()), x0_3, x0_4, x0_5, ())) x1 x13 t0.1 t0.2.1 t0.2.2).bind fun t1 => (if 0 ≤ (wrap64 (2 * x4)) then (if ((wrap64 (2 * x4)) : Int).toNat ≤ 35184372088832 then Zz79.l11 R k x0_0 x0_1 x0_2 x0_3 x0_4 x0_5 x4 x8_0 x8_1 x8_2 x12 t1 (List.replicate ((wrap64 (2 * x4)) : Int).toNat (0 : Int)) x4 0 else none) else none)))) : Option (List Int)) := by rw [← W64_eq]; kernel_rfl
theorem Zz79.f_eq (R : (Option ((Int × Int × Int × Unit) × Int × List Int × Int × Unit)) → (List Int) → (List Int) → Int → Int → Int → Option (List Int)) (k : Nat) (a0 : Option ((Int × Int × Int × Unit) × Int × List Int × Int × Unit)) (a1 a2 : List Int) (a3_0 a3_1 a3_2 a4 : Int) : Zz79.f R k a0 a1 a2 a3_0 a3_1 a3_2 a4 = ((Option.elim a0 ((if 0 ≤ (wrap64 (a4 - (a1.length : Int))) then (if (wrap64 (a4 - (a1.length : Int))) ≤ (a2.length : Int) then none else none) else none)) fun t0 => (if 0 ≤ (wrap64 (a4 - (a1.length : Int))) then (if (wrap64 (a4 - (a1.length : Int))) ≤ (a2.length : Int) then Zz79.l5 R k t0.1.1 t0.1.2.1 t0.1.2.2.1 t0.2.1 t0.2.2.1 t0.2.2.2.1 a1 a2 a4 a3_0 a3_1 a3_2 (a1.length : Int) (a2.drop ((wrap64 (a4 - (a1.length : Int))) : Int).toNat) ([] : List Int) (a1.length : Int) else none) else none)) : Option (List Int)) := by rw [← W64_eq, Zz79.f_def]; kernel_rfl
theorem Zz84.l21_eq (R : (Option ((Int × Int × Int × Unit) × Int × List Int × Int × Unit)) → (List Int) → (List Int) → Int → Int → Int → Option (List Int)) (k : Nat) (x0_0 x0_1 x0_2 x0_3 : Int) (x0_4 : List Int) (x0_5 x10 : Int) (x11 x16 : List Int) (x17 : Int) (x19 : List Int) (x117 x118 : Int) : Zz84.l21 R (k + 1) x0_0 x0_1 x0_2 x0_3 x0_4 x0_5 x10 x11 x16 x17 x19 x117 x118 = ((if x118 < x117 then (if 0 ≤ x118 then (if x118 < (x11.length : Int) then (if 0 ≤ x118 then (if x118 < (x16.length : Int) then ((Zz108.f k x0_0 x0_1 x0_2 (rd x11 x118) (rd x16 x118)).bind fun t0 => ((Zz110.f k x0_0 x0_1 x0_2 x0_5 t0).bind fun t1 => (if 0 ≤ x118 then (if x118 < (x19.length : Int) then (if 0 ≤ x118 then (if x118 < (x11.length : Int) then (if 0 ≤ x118 then (if x118 < (x16.length : Int) then ((Zz113.f k x0_0 x0_1 x0_2 (rd x11 x118) (rd x16 x118)).bind fun t2 => ((Zz110.f k x0_0 x0_1 x0_2 x0_5 t2).bind fun t3 => ((Zz110.f k x0_0 x0_1 x0_2 x17 t3).bind fun t4 => (if 0 ≤ (wrap64 (x10 + x118)) then (if (wrap64 (x10 + x118)) < ((x19.set (x118 : Int).toNat t1).length : Int) then Zz84.l21 R k x0_0 x0_1 x0_2 x0_3 x0_4 x0_5 x10 x11 x16 x17 ((x19.set (x118 : Int).toNat t1).set ((wrap64 (x10 + x118)) : Int).toNat t4) x117 (wrap64 (x118 + 1)) else none) else none)))) else none) else none) else none) else none) else none) else none))) else none) else none) else none) else none) else some x19) : Option (List Int)) := by rw [← W64_eq]; kernel_rfl
theorem Zz84.l13_eq (R : (Option ((Int × Int × Int × Unit) × Int × List Int × Int × Unit)) → (List Int) → (List Int) → Int → Int → Int → Option (List Int)) (k : Nat) (x0_0 x0_1 x0_2 x0_3 : Int) (x0_4 : List Int) (x0_5 : Int) (x1 : List Int) (x7_0 x7_1 x7_2 x9 x10 : Int) (x11 x12 : List Int) (x13 : Int) (x64 : List Int) (x65 x66 : Int) : Zz84.l13 R (k + 1) x0_0 x0_1 x0_2 x0_3 x0_4 x0_5 x1 x7_0 x7_1 x7_2 x9 x10 x11 x12 x13 x64 x65 x66 = ((if x66 < x65 then (if 0 ≤ x66 then (if x66 < (x64.length : Int) then (if 0 ≤ (wrap64 ((wrap64 (x9 - x10)) + x66)) then (if (wrap64 ((wrap64 (x9 - x10)) + x66)) < (x11.length : Int) then ((Zz110.f k x0_0 x0_1 x0_2 x13 (rd x64 x66)).bind fun t0 => ((Zz113.f k x0_0 x0_1 x0_2 (rd x11 (wrap64 ((wrap64 (x9 - x10)) + x66))) t0).bind fun t1 => (if (x12.length + ([t1] : List Int).length) ≤ 17592186044416 then Zz84.l13 R k x0_0 x0_1 x0_2 x0_3 x0_4 x0_5 x1 x7_0 x7_1 x7_2 x9 x10 x11 (x12 ++ ([t1] : List Int)) x13 x64 x65 (wrap64 (x66 + 1)) else none))) else none) else none) else none) else none) else (if 0 ≤ x10 then (if x10 ≤ (x1.length : Int) then ((Zz82.f k (some ((x0_0, x0_1, x0_2, ()), x0_3, x0_4, x0_5, ())) x7_0 x7_1 x7_2).bind fun t0 => ((R (some ((x0_0, x0_1, x0_2, ()), x0_3, x0_4, x0_5, ())) (x1.drop (x10 : Int).toNat) x12 t0.1 t0.2.1 t0.2.2).bind fun t1 => ((Zz109.f k x0_0 x0_1 x0_2 x7_2).bind fun t2 => (if 0 ≤ (wrap64 (2 * x10)) then (if ((wrap64 (2 * x10)) : Int).toNat ≤ 35184372088832 then Zz84.l21 R k x0_0 x0_1 x0_2 x0_3 x0_4 x0_5 x10 x11 t1 t2.1 (List.replicate ((wrap64 (2 * x10)) : Int).toNat (0 : Int)) x10 0 else none) else none)))) else none) else none)) : Option (List Int)) := by rw [← W64_eq]; kernel_rfl
theorem Zz84.v_eq (R : (Option ((Int × Int × Int × Unit) × Int × List Int × Int × Unit)) → (List Int) → (List Int) → Int → Int → Int → Option (List Int)) (k : Nat) (a0 : Option ((Int × Int × Int × Unit) × Int × List Int × Int × Unit)) (a1 a2 : List Int) (a3_0 a3_1 a3_2 : Int) : Zz84.v R k a0 a1 a2 a3_0 a3_1 a3_2 = ((Option.elim a0 ((if (a1.length : Int) = 0 then some a2 else (if a3_0 = 0 then some a1 else (if 0 ≤ (IntKind.u64.wrap (wrap64 (a3_0 - 1))) then (if (a1.length : Int) < (shl .i64 1 (IntKind.u64.wrap (wrap64 (a3_0 - 1)))) then ((Zz79.f R k none a1 a2 a3_0 a3_1 a3_2 (shl .i64 1 (IntKind.u64.wrap (wrap64 (a3_0 - 1))))).bind fun t0 => some t0) else (if 0 ≤ (shl .i64 1 (IntKind.u64.wrap (wrap64 (a3_0 - 1)))) then (if (shl .i64 1 (IntKind.u64.wrap (wrap64 (a3_0 - 1)))) ≤ (a1.length : Int) then (if 0 ≤ (shl .i64 1 (IntKind.u64.wrap (wrap64 (a3_0 - 1)))) then (if (shl .i64 1 (IntKind.u64.wrap (wrap64 (a3_0 - 1)))) ≤ (shl .i64 1 (IntKind.u64.wrap (wrap64 (a3_0 - 1)))) then ((Zz78.f k none a3_0 a3_1 a3_2).bind fun t0 => ((R none (a1.take ((shl .i64 1 (IntKind.u64.wrap (wrap64 (a3_0 - 1)))) : Int).toNat) ([] : List Int) t0.1 t0.2.1 t0.2.2).bind fun t1 => none)) else none) else none) else none) else none)) else none)))) fun t0 => (if (a1.length : Int) = 0 then some a2 else (if a3_0 = 0 then some a1 else (if 0 ≤ (IntKind.u64.wrap (wrap64 (a3_0 - 1))) then (if (a1.length : Int) < (shl .i64 1 (IntKind.u64.wrap (wrap64 (a3_0 - 1)))) then ((Zz79.f R k (some ((t0.1.1, t0.1.2.1, t0.1.2.2.1, ()), t0.2.1, t0.2.2.1, t0.2.2.2.1, ())) a1 a2 a3_0 a3_1 a3_2 (shl .i64 1 (IntKind.u64.wrap (wrap64 (a3_0 - 1))))).bind fun t1 => some t1) else (if 0 ≤ (shl .i64 1 (IntKind.u64.wrap (wrap64 (a3_0 - 1)))) then (if (shl .i64 1 (IntKind.u64.wrap (wrap64 (a3_0 - 1)))) ≤ (a1.length : Int) then (if 0 ≤ (shl .i64 1 (IntKind.u64.wrap (wrap64 (a3_0 - 1)))) then (if (shl .i64 1 (IntKind.u64.wrap (wrap64 (a3_0 - 1)))) ≤ (shl .i64 1 (IntKind.u64.wrap (wrap64 (a3_0 - 1)))) then ((Zz78.f k (some ((t0.1.1, t0.1.2.1, t0.1.2.2.1, ()), t0.2.1, t0.2.2.1, t0.2.2.2.1, ())) a3_0 a3_1 a3_2).bind fun t1 => ((R (some ((t0.1.1, t0.1.2.1, t0.1.2.2.1, ()), t0.2.1, t0.2.2.1, t0.2.2.2.1, ())) (a1.take ((shl .i64 1 (IntKind.u64.wrap (wrap64 (a3_0 - 1)))) : Int).toNat) ([] : List Int) t1.1 t1.2.1 t1.2.2).bind fun t2 => ((Zz108.f k t0.1.1 t0.1.2.1 t0.1.2.2.1 a3_2 a3_2).bind fun t3 => Zz84.l13 R k t0.1.1 t0.1.2.1 t0.1.2.2.1 t0.2.1 t0.2.2.1 t0.2.2.2.1 a1 a3_0 a3_1 a3_2 (a1.length : Int) (shl .i64 1 (IntKind.u64.wrap (wrap64 (a3_0 - 1)))) t2 ([] : List Int) t3 a2 (a2.length : Int) 0))) else none) else none) else none) else none)) else none)))) : Option (List Int)) := by rw [← W64_eq, ← WK_eq]; kernel_rfl
theorem Zz74.f_eq (k : Nat) (a0 : Option ((Int × Int × Int × Unit) × Int × List Int × Int × Unit)) (a1 : List Int) : Zz74.f k a0 a1 = ((Option.elim a0 (some (([] : List Int), 2)) fun t0 => ((Zz76.f k (some ((t0.1.1, t0.1.2.1, t0.1.2.2.1, ()), t0.2.1, t0.2.2.1, t0.2.2.2.1, ()))).bind fun t1 => (if (a1.length : Int) > t1 then some (([] : List Int), 13) else ((Zz81.f k (some ((t0.1.1, t0.1.2.1, t0.1.2.2.1, ()), t0.2.1, t0.2.2.1, t0.2.2.2.1, ())) a1).bind fun t2 => (if 0 ≤ (a1.length : Int) then (if (a1.length : Int) ≤ (t2.length : Int) then (if 0 ≤ (a1.length : Int) then (if (a1.length : Int) ≤ (a1.length : Int) then ((Zz76.f k (some ((t0.1.1, t0.1.2.1, t0.1.2.2.1, ()), t0.2.1, t0.2.2.1, t0.2.2.2.1, ()))).bind fun t3 => (if 0 ≤ (wrap64 (t3 - (a1.length : Int))) then (if ((wrap64 (t3 - (a1.length : Int))) : Int).toNat ≤ 35184372088832 then ((Zz80.f k (some ((t0.1.1, t0.1.2.1, t0.1.2.2.1, ()), t0.2.1, t0.2.2.1, t0.2.2.2.1, ())) t0.2.1 1).bind fun t4 => ((Zz84.f k (some ((t0.1.1, t0.1.2.1, t0.1.2.2.1, ()), t0.2.1, t0.2.2.1, t0.2.2.2.1, ())) (t2.take ((a1.length : Int) : Int).toNat) (List.replicate ((wrap64 (t3 - (a1.length : Int))) : Int).toNat (0 : Int)) t4.1 t4.2.1 t4.2.2).bind fun t5 => (if 0 ≤ (a1.length : Int) then (if (a1.length : Int) ≤ (t5.length : Int) then (if 0 ≤ (a1.length : Int) then (if (a1.length : Int) ≤ (a1.length : Int) then some ((t5.take ((a1.length : Int) : Int).toNat), 0) else none) else none) else none) else none))) else none) else none)) else none) else none) else none) else none))))) : Option (List Int × Int)) := by rw [← W64_eq, Zz74.f_def]; kernel_rfl
theorem Zz77.l15_eq (k : Nat) (x0_0 x0_1 x0_2 x0_3 : Int) (x0_4 : List Int) (x0_5 : Int) (x9 x11 : List Int) (x56 x57 : Int) : Zz77.l15 (k + 1) x0_0 x0_1 x0_2 x0_3 x0_4 x0_5 x9 x11 x56 x57 = ((if x57 < x56 then (if 0 ≤ x57 then (if x57 < (x9.length : Int) then (if 0 ≤ x57 then (if x57 < (x11.length : Int) then ((Zz110.f k x0_0 x0_1 x0_2 (rd x9 x57) (rd x11 x57)).bind fun t0 => (if 0 ≤ x57 then (if x57 < (x9.length : Int) then Zz77.l15 k x0_0 x0_1 x0_2 x0_3 x0_4 x0_5 (x9.set (x57 : Int).toNat t0) x11 x56 (wrap64 (x57 + 1)) else none) else none)) else none) else none) else none) else none) else ((Zz74.f k (some ((x0_0, x0_1, x0_2, ()), x0_3, x0_4, x0_5, ())) x9).bind fun t0 => some (t0.1, t0.2))) : Option (List Int × Int)) := by rw [← W64_eq]; kernel_rfl
theorem Zz77.f_eq (k : Nat) (a0 : Option ((Int × Int × Int × Unit) × Int × List Int × Int × Unit)) (a1 a2 : List Int) : Zz77.f k a0 a1 a2 = ((Option.elim a0 (some (([] : List Int), 2)) fun t0 => (if (a1.length : Int) = 0 then some (([] : List Int), 0) else (if (a2.length : Int) = 0 then some (([] : List Int), 0) else ((Zz76.f k (some ((t0.1.1, t0.1.2.1, t0.1.2.2.1, ()), t0.2.1, t0.2.2.1, t0.2.2.2.1, ()))).bind fun t1 => (if (wrap64 ((wrap64 ((a1.length : Int) + (a2.length : Int))) - 1)) > t1 then some (([] : List Int), 13) else ((Zz75.f k (some ((t0.1.1, t0.1.2.1, t0.1.2.2.1, ()), t0.2.1, t0.2.2.1, t0.2.2.2.1, ())) a1 (wrap64 ((wrap64 ((a1.length : Int) + (a2.length : Int))) - 1))).bind fun t2 => (if t2.2 = 0 then ((Zz75.f k (some ((t0.1.1, t0.1.2.1, t0.1.2.2.1, ()), t0.2.1, t0.2.2.1, t0.2.2.2.1, ())) a2 (wrap64 ((wrap64 ((a1.length : Int) + (a2.length : Int))) - 1))).bind fun t3 => (if t3.2 = 0 then Zz77.l15 k t0.1.1 t0.1.2.1 t0.1.2.2.1 t0.2.1 t0.2.2.1 t0.2.2.2.1 t2.1 t3.1 (t2.1.length : Int) 0 else some (([] : List Int), t3.2))) else some (([] : List Int), t2.2)))))))) : Option (List Int × Int)) := by rw [← W64_eq, Zz77.f_def]; kernel_rfl
theorem Zz33.l4_eq (k : Nat) (x0 x1 x7_0 x7_1 x7_2 : List Int) (x8_0 : Option ((Int × Int × Int × Unit) × Int × List Int × Int × Unit)) (x8_1 : Option ((Int × Int × Int × Unit) × Int × List Int × Int × Unit)) (x8_2 : Option ((Int × Int × Int × Unit) × Int × List Int × Int × Unit)) (x9 : List Int) (x10 x11 : Int) : Zz33.l4 (k + 1) x0 x1 x7_0 x7_1 x7_2 x8_0 x8_1 x8_2 x9 x10 x11 = ((Option.elim x8_0 ((Option.elim x8_1 ((Option.elim x8_2 ((if x11 < 3 then (if x10 = 0 then (if x11 = 0 then ((Zz77.f k none x0 x1).bind fun t0 => (if x11 = 0 then Zz33.l4 k x0 x1 t0.1 x7_1 x7_2 none none none x9 t0.2 (wrap64 (x11 + 1)) else (if x11 = 1 then Zz33.l4 k x0 x1 x7_0 t0.1 x7_2 none none none x9 t0.2 (wrap64 (x11 + 1)) else (if x11 = 2 then Zz33.l4 k x0 x1 x7_0 x7_1 t0.1 none none none x9 t0.2 (wrap64 (x11 + 1)) else none)))) else (if x11 = 1 then ((Zz77.f k none x0 x1).bind fun t0 => (if x11 = 0 then Zz33.l4 k x0 x1 t0.1 x7_1 x7_2 none none none x9 t0.2 (wrap64 (x11 + 1)) else (if x11 = 1 then Zz33.l4 k x0 x1 x7_0 t0.1 x7_2 none none none x9 t0.2 (wrap64 (x11 + 1)) else (if x11 = 2 then Zz33.l4 k x0 x1 x7_0 x7_1 t0.1 none none none x9 t0.2 (wrap64 (x11 + 1)) else none)))) else (if x11 = 2 then ((Zz77.f k none x0 x1).bind fun t0 => (if x11 = 0 then Zz33.l4 k x0 x1 t0.1 x7_1 x7_2 none none none x9 t0.2 (wrap64 (x11 + 1)) else (if x11 = 1 then Zz33.l4 k x0 x1 x7_0 t0.1 x7_2 none none none x9 t0.2 (wrap64 (x11 + 1)) else (if x11 = 2 then Zz33.l4 k x0 x1 x7_0 x7_1 t0.1 none none none x9 t0.2 (wrap64 (x11 + 1)) else none)))) else none))) else some (x7_0, x7_1, x7_2, x9, x10)) else some (x7_0, x7_1, x7_2, x9, x10))) fun t0 => (if x11 < 3 then (if x10 = 0 then (if x11 = 0 then ((Zz77.f k none x0 x1).bind fun t1 => (if x11 = 0 then Zz33.l4 k x0 x1 t1.1 x7_1 x7_2 none none (some ((t0.1.1, t0.1.2.1, t0.1.2.2.1, ()), t0.2.1, t0.2.2.1, t0.2.2.2.1, ())) x9 t1.2 (wrap64 (x11 + 1)) else (if x11 = 1 then Zz33.l4 k x0 x1 x7_0 t1.1 x7_2 none none (some ((t0.1.1, t0.1.2.1, t0.1.2.2.1, ()), t0.2.1, t0.2.2.1, t0.2.2.2.1, ())) x9 t1.2 (wrap64 (x11 + 1)) else (if x11 = 2 then Zz33.l4 k x0 x1 x7_0 x7_1 t1.1 none none (some ((t0.1.1, t0.1.2.1, t0.1.2.2.1, ()), t0.2.1, t0.2.2.1, t0.2.2.2.1, ())) x9 t1.2 (wrap64 (x11 + 1)) else none)))) else (if x11 = 1 then ((Zz77.f k none x0 x1).bind fun t1 => (if x11 = 0 then Zz33.l4 k x0 x1 t1.1 x7_1 x7_2 none none (some ((t0.1.1, t0.1.2.1, t0.1.2.2.1, ()), t0.2.1, t0.2.2.1, t0.2.2.2.1, ())) x9 t1.2 (wrap64 (x11 + 1)) else (if x11 = 1 then Zz33.l4 k x0 x1 x7_0 t1.1 x7_2 none none (some ((t0.1.1, t0.1.2.1, t0.1.2.2.1, ()), t0.2.1, t0.2.2.1, t0.2.2.2.1, ())) x9 t1.2 (wrap64 (x11 + 1)) else (if x11 = 2 then Zz33.l4 k x0 x1 x7_0 x7_1 t1.1 none none (some ((t0.1.1, t0.1.2.1, t0.1.2.2.1, ()), t0.2.1, t0.2.2.1, t0.2.2.2.1, ())) x9 t1.2 (wrap64 (x11 + 1)) else none)))) else (if x11 = 2 then ((Zz77.f k (some ((t0.1.1, t0.1.2.1, t0.1.2.2.1, ()), t0.2.1, t0.2.2.1, t0.2.2.2.1, ())) x0 x1).bind fun t1 => (if x11 = 0 then Zz33.l4 k x0 x1 t1.1 x7_1 x7_2 none none (some ((t0.1.1, t0.1.2.1, t0.1.2.2.1, ()), t0.2.1, t0.2.2.1, t0.2.2.2.1, ())) x9 t1.2 (wrap64 (x11 + 1)) else (if x11 = 1 then Zz33.l4 k x0 x1 x7_0 t1.1 x7_2 none none (some ((t0.1.1, t0.1.2.1, t0.1.2.2.1, ()), t0.2.1, t0.2.2.1, t0.2.2.2.1, ())) x9 t1.2 (wrap64 (x11 + 1)) else (if x11 = 2 then Zz33.l4 k x0 x1 x7_0 x7_1 t1.1 none none (some ((t0.1.1, t0.1.2.1, t0.1.2.2.1, ()), t0.2.1, t0.2.2.1, t0.2.2.2.1, ())) x9 t1.2 (wrap64 (x11 + 1)) else none)))) else none))) else some (x7_0, x7_1, x7_2, x9, x10)) else some (x7_0, x7_1, x7_2, x9, x10)))) fun t0 => (Option.elim x8_2 ((if x11 < 3 then (if x10 = 0 then (if x11 = 0 then ((Zz77.f k none x0 x1).bind fun t1 => (if x11 = 0 then Zz33.l4 k x0 x1 t1.1 x7_1 x7_2 none (some ((t0.1.1, t0.1.2.1, t0.1.2.2.1, ()), t0.2.1, t0.2.2.1, t0.2.2.2.1, ())) none x9 t1.2 (wrap64 (x11 + 1)) else (if x11 = 1 then Zz33.l4 k x0 x1 x7_0 t1.1 x7_2 none (some ((t0.1.1, t0.1.2.1, t0.1.2.2.1, ()), t0.2.1, t0.2.2.1, t0.2.2.2.1, ())) none x9 t1.2 (wrap64 (x11 + 1)) else (if x11 = 2 then Zz33.l4 k x0 x1 x7_0 x7_1 t1.1 none (some ((t0.1.1, t0.1.2.1, t0.1.2.2.1, ()), t0.2.1, t0.2.2.1, t0.2.2.2.1, ())) none x9 t1.2 (wrap64 (x11 + 1)) else none)))) else (if x11 = 1 then ((Zz77.f k (some ((t0.1.1, t0.1.2.1, t0.1.2.2.1, ()), t0.2.1, t0.2.2.1, t0.2.2.2.1, ())) x0 x1).bind fun t1 => (if x11 = 0 then Zz33.l4 k x0 x1 t1.1 x7_1 x7_2 none (some ((t0.1.1, t0.1.2.1, t0.1.2.2.1, ()), t0.2.1, t0.2.2.1, t0.2.2.2.1, ())) none x9 t1.2 (wrap64 (x11 + 1)) else (if x11 = 1 then Zz33.l4 k x0 x1 x7_0 t1.1 x7_2 none (some ((t0.1.1, t0.1.2.1, t0.1.2.2.1, ()), t0.2.1, t0.2.2.1, t0.2.2.2.1, ())) none x9 t1.2 (wrap64 (x11 + 1)) else (if x11 = 2 then Zz33.l4 k x0 x1 x7_0 x7_1 t1.1 none (some ((t0.1.1, t0.1.2.1, t0.1.2.2.1, ()), t0.2.1, t0.2.2.1, t0.2.2.2.1, ())) none x9 t1.2 (wrap64 (x11 + 1)) else none)))) else (if x11 = 2 then ((Zz77.f k none x0 x1).bind fun t1 => (if x11 = 0 then Zz33.l4 k x0 x1 t1.1 x7_1 x7_2 none (some ((t0.1.1, t0.1.2.1, t0.1.2.2.1, ()), t0.2.1, t0.2.2.1, t0.2.2.2.1, ())) none x9 t1.2 (wrap64 (x11 + 1)) else (if x11 = 1 then Zz33.l4 k x0 x1 x7_0 t1.1 x7_2 none (some ((t0.1.1, t0.1.2.1, t0.1.2.2.1, ()), t0.2.1, t0.2.2.1, t0.2.2.2.1, ())) none x9 t1.2 (wrap64 (x11 + 1)) else (if x11 = 2 then Zz33.l4 k x0 x1 x7_0 x7_1 t1.1 none (some ((t0.1.1, t0.1.2.1, t0.1.2.2.1, ()), t0.2.1, t0.2.2.1, t0.2.2.2.1, ())) none x9 t1.2 (wrap64 (x11 + 1)) else none)))) else none))) else some (x7_0, x7_1, x7_2, x9, x10)) else some (x7_0, x7_1, x7_2, x9, x10))) fun t1 => (if x11 < 3 then (if x10 = 0 then (if x11 = 0 then ((Zz77.f k none x0 x1).bind fun t2 => (if x11 = 0 then Zz33.l4 k x0 x1 t2.1 x7_1 x7_2 none (some ((t0.1.1, t0.1.2.1, t0.1.2.2.1, ()), t0.2.1, t0.2.2.1, t0.2.2.2.1, ())) (some ((t1.1.1, t1.1.2.1, t1.1.2.2.1, ()), t1.2.1, t1.2.2.1, t1.2.2.2.1, ())) x9 t2.2 (wrap64 (x11 + 1)) else (if x11 = 1 then Zz33.l4 k x0 x1 x7_0 t2.1 x7_2 none (some ((t0.1.1, t0.1.2.1, t0.1.2.2.1, ()), t0.2.1, t0.2.2.1, t0.2.2.2.1, ())) (some ((t1.1.1, t1.1.2.1, t1.1.2.2.1, ()), t1.2.1, t1.2.2.1, t1.2.2.2.1, ())) x9 t2.2 (wrap64 (x11 + 1)) else (if x11 = 2 then Zz33.l4 k x0 x1 x7_0 x7_1 t2.1 none (some ((t0.1.1, t0.1.2.1, t0.1.2.2.1, ()), t0.2.1, t0.2.2.1, t0.2.2.2.1, ())) (some ((t1.1.1, t1.1.2.1, t1.1.2.2.1, ()), t1.2.1, t1.2.2.1, t1.2.2.2.1, ())) x9 t2.2 (wrap64 (x11 + 1)) else none)))) else (if x11 = 1 then ((Zz77.f k (some ((t0.1.1, t0.1.2.1, t0.1.2.2.1, ()), t0.2.1, t0.2.2.1, t0.2.2.2.1, ())) x0 x1).bind fun t2 => (if x11 = 0 then Zz33.l4 k x0 x1 t2.1 x7_1 x7_2 none (some ((t0.1.1, t0.1.2.1, t0.1.2.2.1, ()), t0.2.1, t0.2.2.1, t0.2.2.2.1, ())) (some ((t1.1.1, t1.1.2.1, t1.1.2.2.1, ()), t1.2.1, t1.2.2.1, t1.2.2.2.1, ())) x9 t2.2 (wrap64 (x11 + 1)) else (if x11 = 1 then Zz33.l4 k x0 x1 x7_0 t2.1 x7_2 none (some ((t0.1.1, t0.1.2.1, t0.1.2.2.1, ()), t0.2.1, t0.2.2.1, t0.2.2.2.1, ())) (some ((t1.1.1, t1.1.2.1, t1.1.2.2.1, ()), t1.2.1, t1.2.2.1, t1.2.2.2.1, ())) x9 t2.2 (wrap64 (x11 + 1)) else (if x11 = 2 then Zz33.l4 k x0 x1 x7_0 x7_1 t2.1 none (some ((t0.1.1, t0.1.2.1, t0.1.2.2.1, ()), t0.2.1, t0.2.2.1, t0.2.2.2.1, ())) (some ((t1.1.1, t1.1.2.1, t1.1.2.2.1, ()), t1.2.1, t1.2.2.1, t1.2.2.2.1, ())) x9 t2.2 (wrap64 (x11 + 1)) else none)))) else (if x11 = 2 then ((Zz77.f k (some ((t1.1.1, t1.1.2.1, t1.1.2.2.1, ()), t1.2.1, t1.2.2.1, t1.2.2.2.1, ())) x0 x1).bind fun t2 => (if x11 = 0 then Zz33.l4 k x0 x1 t2.1 x7_1 x7_2 none (some ((t0.1.1, t0.1.2.1, t0.1.2.2.1, ()), t0.2.1, t0.2.2.1, t0.2.2.2.1, ())) (some ((t1.1.1, t1.1.2.1, t1.1.2.2.1, ()), t1.2.1, t1.2.2.1, t1.2.2.2.1, ())) x9 t2.2 (wrap64 (x11 + 1)) else (if x11 = 1 then Zz33.l4 k x0 x1 x7_0 t2.1 x7_2 none (some ((t0.1.1, t0.1.2.1, t0.1.2.2.1, ()), t0.2.1, t0.2.2.1, t0.2.2.2.1, ())) (some ((t1.1.1, t1.1.2.1, t1.1.2.2.1, ()), t1.2.1, t1.2.2.1, t1.2.2.2.1, ())) x9 t2.2 (wrap64 (x11 + 1)) else (if x11 = 2 then Zz33.l4 k x0 x1 x7_0 x7_1 t2.1 none (some ((t0.1.1, t0.1.2.1, t0.1.2.2.1, ()), t0.2.1, t0.2.2.1, t0.2.2.2.1, ())) (some ((t1.1.1, t1.1.2.1, t1.1.2.2.1, ()), t1.2.1, t1.2.2.1, t1.2.2.2.1, ())) x9 t2.2 (wrap64 (x11 + 1)) else none)))) else none))) else some (x7_0, x7_1, x7_2, x9, x10)) else some (x7_0, x7_1, x7_2, x9, x10))))) fun t0 => (Option.elim x8_1 ((Option.elim x8_2 ((if x11 < 3 then (if x10 = 0 then (if x11 = 0 then ((Zz77.f k (some ((t0.1.1, t0.1.2.1, t0.1.2.2.1, ()), t0.2.1, t0.2.2.1, t0.2.2.2.1, ())) x0 x1).bind fun t1 => (if x11 = 0 then Zz33.l4 k x0 x1 t1.1 x7_1 x7_2 (some ((t0.1.1, t0.1.2.1, t0.1.2.2.1, ()), t0.2.1, t0.2.2.1, t0.2.2.2.1, ())) none none x9 t1.2 (wrap64 (x11 + 1)) else (if x11 = 1 then Zz33.l4 k x0 x1 x7_0 t1.1 x7_2 (some ((t0.1.1, t0.1.2.1, t0.1.2.2.1, ()), t0.2.1, t0.2.2.1, t0.2.2.2.1, ())) none none x9 t1.2 (wrap64 (x11 + 1)) else (if x11 = 2 then Zz33.l4 k x0 x1 x7_0 x7_1 t1.1 (some ((t0.1.1, t0.1.2.1, t0.1.2.2.1, ()), t0.2.1, t0.2.2.1, t0.2.2.2.1, ())) none none x9 t1.2 (wrap64 (x11 + 1)) else none)))) else (if x11 = 1 then ((Zz77.f k none x0 x1).bind fun t1 => (if x11 = 0 then Zz33.l4 k x0 x1 t1.1 x7_1 x7_2 (some ((t0.1.1, t0.1.2.1, t0.1.2.2.1, ()), t0.2.1, t0.2.2.1, t0.2.2.2.1, ())) none none x9 t1.2 (wrap64 (x11 + 1)) else (if x11 = 1 then Zz33.l4 k x0 x1 x7_0 t1.1 x7_2 (some ((t0.1.1, t0.1.2.1, t0.1.2.2.1, ()), t0.2.1, t0.2.2.1, t0.2.2.2.1, ())) none none x9 t1.2 (wrap64 (x11 + 1)) else (if x11 = 2 then Zz33.l4 k x0 x1 x7_0 x7_1 t1.1 (some ((t0.1.1, t0.1.2.1, t0.1.2.2.1, ()), t0.2.1, t0.2.2.1, t0.2.2.2.1, ())) none none x9 t1.2 (wrap64 (x11 + 1)) else none)))) else (if x11 = 2 then ((Zz77.f k none x0 x1).bind fun t1 => (if x11 = 0 then Zz33.l4 k x0 x1 t1.1 x7_1 x7_2 (some ((t0.1.1, t0.1.2.1, t0.1.2.2.1, ()), t0.2.1, t0.2.2.1, t0.2.2.2.1, ())) none none x9 t1.2 (wrap64 (x11 + 1)) else (if x11 = 1 then Zz33.l4 k x0 x1 x7_0 t1.1 x7_2 (some ((t0.1.1, t0.1.2.1, t0.1.2.2.1, ()), t0.2.1, t0.2.2.1, t0.2.2.2.1, ())) none none x9 t1.2 (wrap64 (x11 + 1)) else (if x11 = 2 then Zz33.l4 k x0 x1 x7_0 x7_1 t1.1 (some ((t0.1.1, t0.1.2.1, t0.1.2.2.1, ()), t0.2.1, t0.2.2.1, t0.2.2.2.1, ())) none none x9 t1.2 (wrap64 (x11 + 1)) else none)))) else none))) else some (x7_0, x7_1, x7_2, x9, x10)) else some (x7_0, x7_1, x7_2, x9, x10))) fun t1 => (if x11 < 3 then (if x10 = 0 then (if x11 = 0 then ((Zz77.f k (some ((t0.1.1, t0.1.2.1, t0.1.2.2.1, ()), t0.2.1, t0.2.2.1, t0.2.2.2.1, ())) x0 x1).bind fun t2 => (if x11 = 0 then Zz33.l4 k x0 x1 t2.1 x7_1 x7_2 (some ((t0.1.1, t0.1.2.1, t0.1.2.2.1, ()), t0.2.1, t0.2.2.1, t0.2.2.2.1, ())) none (some ((t1.1.1, t1.1.2.1, t1.1.2.2.1, ()), t1.2.1, t1.2.2.1, t1.2.2.2.1, ())) x9 t2.2 (wrap64 (x11 + 1)) else (if x11 = 1 then Zz33.l4 k x0 x1 x7_0 t2.1 x7_2 (some ((t0.1.1, t0.1.2.1, t0.1.2.2.1, ()), t0.2.1, t0.2.2.1, t0.2.2.2.1, ())) none (some ((t1.1.1, t1.1.2.1, t1.1.2.2.1, ()), t1.2.1, t1.2.2.1, t1.2.2.2.1, ())) x9 t2.2 (wrap64 (x11 + 1)) else (if x11 = 2 then Zz33.l4 k x0 x1 x7_0 x7_1 t2.1 (some ((t0.1.1, t0.1.2.1, t0.1.2.2.1, ()), t0.2.1, t0.2.2.1, t0.2.2.2.1, ())) none (some ((t1.1.1, t1.1.2.1, t1.1.2.2.1, ()), t1.2.1, t1.2.2.1, t1.2.2.2.1, ())) x9 t2.2 (wrap64 (x11 + 1)) else none)))) else (if x11 = 1 then ((Zz77.f k none x0 x1).bind fun t2 => (if x11 = 0 then Zz33.l4 k x0 x1 t2.1 x7_1 x7_2 (some ((t0.1.1, t0.1.2.1, t0.1.2.2.1, ()), t0.2.1, t0.2.2.1, t0.2.2.2.1, ())) none (some ((t1.1.1, t1.1.2.1, t1.1.2.2.1, ()), t1.2.1, t1.2.2.1, t1.2.2.2.1, ())) x9 t2.2 (wrap64 (x11 + 1)) else (if x11 = 1 then Zz33.l4 k x0 x1 x7_0 t2.1 x7_2 (some ((t0.1.1, t0.1.2.1, t0.1.2.2.1, ()), t0.2.1, t0.2.2.1, t0.2.2.2.1, ())) none (some ((t1.1.1, t1.1.2.1, t1.1.2.2.1, ()), t1.2.1, t1.2.2.1, t1.2.2.2.1, ())) x9 t2.2 (wrap64 (x11 + 1)) else (if x11 = 2 then Zz33.l4 k x0 x1 x7_0 x7_1 t2.1 (some ((t0.1.1, t0.1.2.1, t0.1.2.2.1, ()), t0.2.1, t0.2.2.1, t0.2.2.2.1, ())) none (some ((t1.1.1, t1.1.2.1, t1.1.2.2.1, ()), t1.2.1, t1.2.2.1, t1.2.2.2.1, ())) x9 t2.2 (wrap64 (x11 + 1)) else none)))) else (if x11 = 2 then ((Zz77.f k (some ((t1.1.1, t1.1.2.1, t1.1.2.2.1, ()), t1.2.1, t1.2.2.1, t1.2.2.2.1, ())) x0 x1).bind fun t2 => (if x11 = 0 then Zz33.l4 k x0 x1 t2.1 x7_1 x7_2 (some ((t0.1.1, t0.1.2.1, t0.1.2.2.1, ()), t0.2.1, t0.2.2.1, t0.2.2.2.1, ())) none (some ((t1.1.1, t1.1.2.1, t1.1.2.2.1, ()), t1.2.1, t1.2.2.1, t1.2.2.2.1, ())) x9 t2.2 (wrap64 (x11 + 1)) else (if x11 = 1 then Zz33.l4 k x0 x1 x7_0 t2.1 x7_2 (some ((t0.1.1, t0.1.2.1, t0.1.2.2.1, ()), t0.2.1, t0.2.2.1, t0.2.2.2.1, ())) none (some ((t1.1.1, t1.1.2.1, t1.1.2.2.1, ()), t1.2.1, t1.2.2.1, t1.2.2.2.1, ())) x9 t2.2 (wrap64 (x11 + 1)) else (if x11 = 2 then Zz33.l4 k x0 x1 x7_0 x7_1 t2.1 (some ((t0.1.1, t0.1.2.1, t0.1.2.2.1, ()), t0.2.1, t0.2.2.1, t0.2.2.2.1, ())) none (some ((t1.1.1, t1.1.2.1, t1.1.2.2.1, ()), t1.2.1, t1.2.2.1, t1.2.2.2.1, ())) x9 t2.2 (wrap64 (x11 + 1)) else none)))) else none))) else some (x7_0, x7_1, x7_2, x9, x10)) else some (x7_0, x7_1, x7_2, x9, x10)))) fun t1 => (Option.elim x8_2 ((if x11 < 3 then (if x10 = 0 then (if x11 = 0 then ((Zz77.f k (some ((t0.1.1, t0.1.2.1, t0.1.2.2.1, ()), t0.2.1, t0.2.2.1, t0.2.2.2.1, ())) x0 x1).bind fun t2 => (if x11 = 0 then Zz33.l4 k x0 x1 t2.1 x7_1 x7_2 (some ((t0.1.1, t0.1.2.1, t0.1.2.2.1, ()), t0.2.1, t0.2.2.1, t0.2.2.2.1, ())) (some ((t1.1.1, t1.1.2.1, t1.1.2.2.1, ()), t1.2.1, t1.2.2.1, t1.2.2.2.1, ())) none x9 t2.2 (wrap64 (x11 + 1)) else (if x11 = 1 then Zz33.l4 k x0 x1 x7_0 t2.1 x7_2 (some ((t0.1.1, t0.1.2.1, t0.1.2.2.1, ()), t0.2.1, t0.2.2.1, t0.2.2.2.1, ())) (some ((t1.1.1, t1.1.2.1, t1.1.2.2.1, ()), t1.2.1, t1.2.2.1, t1.2.2.2.1, ())) none x9 t2.2 (wrap64 (x11 + 1)) else (if x11 = 2 then Zz33.l4 k x0 x1 x7_0 x7_1 t2.1 (some ((t0.1.1, t0.1.2.1, t0.1.2.2.1, ()), t0.2.1, t0.2.2.1, t0.2.2.2.1, ())) (some ((t1.1.1, t1.1.2.1, t1.1.2.2.1, ()), t1.2.1, t1.2.2.1, t1.2.2.2.1, ())) none x9 t2.2 (wrap64 (x11 + 1)) else none)))) else (if x11 = 1 then ((Zz77.f k (some ((t1.1.1, t1.1.2.1, t1.1.2.2.1, ()), t1.2.1, t1.2.2.1, t1.2.2.2.1, ())) x0 x1).bind fun t2 => (if x11 = 0 then Zz33.l4 k x0 x1 t2.1 x7_1 x7_2 (some ((t0.1.1, t0.1.2.1, t0.1.2.2.1, ()), t0.2.1, t0.2.2.1, t0.2.2.2.1, ())) (some ((t1.1.1, t1.1.2.1, t1.1.2.2.1, ()), t1.2.1, t1.2.2.1, t1.2.2.2.1, ())) none x9 t2.2 (wrap64 (x11 + 1)) else (if x11 = 1 then Zz33.l4 k x0 x1 x7_0 t2.1 x7_2 (some ((t0.1.1, t0.1.2.1, t0.1.2.2.1, ()), t0.2.1, t0.2.2.1, t0.2.2.2.1, ())) (some ((t1.1.1, t1.1.2.1, t1.1.2.2.1, ()), t1.2.1, t1.2.2.1, t1.2.2.2.1, ())) none x9 t2.2 (wrap64 (x11 + 1)) else (if x11 = 2 then Zz33.l4 k x0 x1 x7_0 x7_1 t2.1 (some ((t0.1.1, t0.1.2.1, t0.1.2.2.1, ()), t0.2.1, t0.2.2.1, t0.2.2.2.1, ())) (some ((t1.1.1, t1.1.2.1, t1.1.2.2.1, ()), t1.2.1, t1.2.2.1, t1.2.2.2.1, ())) none x9 t2.2 (wrap64 (x11 + 1)) else none)))) else (if x11 = 2 then ((Zz77.f k none x0 x1).bind fun t2 => (if x11 = 0 then Zz33.l4 k x0 x1 t2.1 x7_1 x7_2 (some ((t0.1.1, t0.1.2.1, t0.1.2.2.1, ()), t0.2.1, t0.2.2.1, t0.2.2.2.1, ())) (some ((t1.1.1, t1.1.2.1, t1.1.2.2.1, ()), t1.2.1, t1.2.2.1, t1.2.2.2.1, ())) none x9 t2.2 (wrap64 (x11 + 1)) else (if x11 = 1 then Zz33.l4 k x0 x1 x7_0 t2.1 x7_2 (some ((t0.1.1, t0.1.2.1, t0.1.2.2.1, ()), t0.2.1, t0.2.2.1, t0.2.2.2.1, ())) (some ((t1.1.1, t1.1.2.1, t1.1.2.2.1, ()), t1.2.1, t1.2.2.1, t1.2.2.2.1, ())) none x9 t2.2 (wrap64 (x11 + 1)) else (if x11 = 2 then Zz33.l4 k x0 x1 x7_0 x7_1 t2.1 (some ((t0.1.1, t0.1.2.1, t0.1.2.2.1, ()), t0.2.1, t0.2.2.1, t0.2.2.2.1, ())) (some ((t1.1.1, t1.1.2.1, t1.1.2.2.1, ()), t1.2.1, t1.2.2.1, t1.2.2.2.1, ())) none x9 t2.2 (wrap64 (x11 + 1)) else none)))) else none))) else some (x7_0, x7_1, x7_2, x9, x10)) else some (x7_0, x7_1, x7_2, x9, x10))) fun t2 => (if x11 < 3 then (if x10 = 0 then (if x11 = 0 then ((Zz77.f k (some ((t0.1.1, t0.1.2.1, t0.1.2.2.1, ()), t0.2.1, t0.2.2.1, t0.2.2.2.1, ())) x0 x1).bind fun t3 => (if x11 = 0 then Zz33.l4 k x0 x1 t3.1 x7_1 x7_2 (some ((t0.1.1, t0.1.2.1, t0.1.2.2.1, ()), t0.2.1, t0.2.2.1, t0.2.2.2.1, ())) (some ((t1.1.1, t1.1.2.1, t1.1.2.2.1, ()), t1.2.1, t1.2.2.1, t1.2.2.2.1, ())) (some ((t2.1.1, t2.1.2.1, t2.1.2.2.1, ()), t2.2.1, t2.2.2.1, t2.2.2.2.1, ())) x9 t3.2 (wrap64 (x11 + 1)) else (if x11 = 1 then Zz33.l4 k x0 x1 x7_0 t3.1 x7_2 (some ((t0.1.1, t0.1.2.1, t0.1.2.2.1, ()), t0.2.1, t0.2.2.1, t0.2.2.2.1, ())) (some ((t1.1.1, t1.1.2.1, t1.1.2.2.1, ()), t1.2.1, t1.2.2.1, t1.2.2.2.1, ())) (some ((t2.1.1, t2.1.2.1, t2.1.2.2.1, ()), t2.2.1, t2.2.2.1, t2.2.2.2.1, ())) x9 t3.2 (wrap64 (x11 + 1)) else (if x11 = 2 then Zz33.l4 k x0 x1 x7_0 x7_1 t3.1 (some ((t0.1.1, t0.1.2.1, t0.1.2.2.1, ()), t0.2.1, t0.2.2.1, t0.2.2.2.1, ())) (some ((t1.1.1, t1.1.2.1, t1.1.2.2.1, ()), t1.2.1, t1.2.2.1, t1.2.2.2.1, ())) (some ((t2.1.1, t2.1.2.1, t2.1.2.2.1, ()), t2.2.1, t2.2.2.1, t2.2.2.2.1, ())) x9 t3.2 (wrap64 (x11 + 1)) else none)))) else (if x11 = 1 then ((Zz77.f k (some ((t1.1.1, t1.1.2.1, t1.1.2.2.1, ()), t1.2.1, t1.2.2.1, t1.2.2.2.1, ())) x0 x1).bind fun t3 => (if x11 = 0 then Zz33.l4 k x0 x1 t3.1 x7_1 x7_2 (some ((t0.1.1, t0.1.2.1, t0.1.2.2.1, ()), t0.2.1, t0.2.2.1, t0.2.2.2.1, ())) (some ((t1.1.1, t1.1.2.1, t1.1.2.2.1, ()), t1.2.1, t1.2.2.1, t1.2.2.2.1, ())) (some ((t2.1.1, t2.1.2.1, t2.1.2.2.1, ()), t2.2.1, t2.2.2.1, t2.2.2.2.1, ())) x9 t3.2 (wrap64 (x11 + 1)) else (if x11 = 1 then Zz33.l4 k x0 x1 x7_0 t3.1 x7_2 (some ((t0.1.1, t0.1.2.1, t0.1.2.2.1, ()), t0.2.1, t0.2.2.1, t0.2.2.2.1, ())) (some ((t1.1.1, t1.1.2.1, t1.1.2.2.1, ()), t1.2.1, t1.2.2.1, t1.2.2.2.1, ())) (some ((t2.1.1, t2.1.2.1, t2.1.2.2.1, ()), t2.2.1, t2.2.2.1, t2.2.2.2.1, ())) x9 t3.2 (wrap64 (x11 + 1)) else (if x11 = 2 then Zz33.l4 k x0 x1 x7_0 x7_1 t3.1 (some ((t0.1.1, t0.1.2.1, t0.1.2.2.1, ()), t0.2.1, t0.2.2.1, t0.2.2.2.1, ())) (some ((t1.1.1, t1.1.2.1, t1.1.2.2.1, ()), t1.2.1, t1.2.2.1, t1.2.2.2.1, ())) (some ((t2.1.1, t2.1.2.1, t2.1.2.2.1, ()), t2.2.1, t2.2.2.1, t2.2.2.2.1, ())) x9 t3.2 (wrap64 (x11 + 1)) else none)))) else (if x11 = 2 then ((Zz77.f k (some ((t2.1.1, t2.1.2.1, t2.1.2.2.1, ()), t2.2.1, t2.2.2.1, t2.2.2.2.1, ())) x0 x1).bind fun t3 => (if x11 = 0 then Zz33.l4 k x0 x1 t3.1 x7_1 x7_2 (some ((t0.1.1, t0.1.2.1, t0.1.2.2.1, ()), t0.2.1, t0.2.2.1, t0.2.2.2.1, ())) (some ((t1.1.1, t1.1.2.1, t1.1.2.2.1, ()), t1.2.1, t1.2.2.1, t1.2.2.2.1, ())) (some ((t2.1.1, t2.1.2.1, t2.1.2.2.1, ()), t2.2.1, t2.2.2.1, t2.2.2.2.1, ())) x9 t3.2 (wrap64 (x11 + 1)) else (if x11 = 1 then Zz33.l4 k x0 x1 x7_0 t3.1 x7_2 (some ((t0.1.1, t0.1.2.1, t0.1.2.2.1, ()), t0.2.1, t0.2.2.1, t0.2.2.2.1, ())) (some ((t1.1.1, t1.1.2.1, t1.1.2.2.1, ()), t1.2.1, t1.2.2.1, t1.2.2.2.1, ())) (some ((t2.1.1, t2.1.2.1, t2.1.2.2.1, ()), t2.2.1, t2.2.2.1, t2.2.2.2.1, ())) x9 t3.2 (wrap64 (x11 + 1)) else (if x11 = 2 then Zz33.l4 k x0 x1 x7_0 x7_1 t3.1 (some ((t0.1.1, t0.1.2.1, t0.1.2.2.1, ()), t0.2.1, t0.2.2.1, t0.2.2.2.1, ())) (some ((t1.1.1, t1.1.2.1, t1.1.2.2.1, ()), t1.2.1, t1.2.2.1, t1.2.2.2.1, ())) (some ((t2.1.1, t2.1.2.1, t2.1.2.2.1, ()), t2.2.1, t2.2.2.1, t2.2.2.2.1, ())) x9 t3.2 (wrap64 (x11 + 1)) else none)))) else none))) else some (x7_0, x7_1, x7_2, x9, x10)) else some (x7_0, x7_1, x7_2, x9, x10))))) : Option (List Int × List Int × List Int × List Int × Int)) := by cases x8_0 <;> cases x8_1 <;> cases x8_2 <;> (rw [← W64_eq]; kernel_rfl)
theorem Zz33.f_eq (k : Nat) (a0 a1 : List Int) : Zz33.f k a0 a1 = (((Zz34.f k (wrap64 ((wrap64 ((a0.length : Int) + (a1.length : Int))) - 1))).bind fun t0 => (Option.elim t0.1 ((Option.elim t0.2.1 ((Option.elim t0.2.2.1 (Zz33.l4 k a0 a1 ([] : List Int) ([] : List Int) ([] : List Int) none none none t0.2.2.2.1 t0.2.2.2.2 0) fun t1 => Zz33.l4 k a0 a1 ([] : List Int) ([] : List Int) ([] : List Int) none none (some ((t1.1.1, t1.1.2.1, t1.1.2.2.1, ()), t1.2.1, t1.2.2.1, t1.2.2.2.1, ())) t0.2.2.2.1 t0.2.2.2.2 0)) fun t1 => (Option.elim t0.2.2.1 (Zz33.l4 k a0 a1 ([] : List Int) ([] : List Int) ([] : List Int) none (some ((t1.1.1, t1.1.2.1, t1.1.2.2.1, ()), t1.2.1, t1.2.2.1, t1.2.2.2.1, ())) none t0.2.2.2.1 t0.2.2.2.2 0) fun t2 => Zz33.l4 k a0 a1 ([] : List Int) ([] : List Int) ([] : List Int) none (some ((t1.1.1, t1.1.2.1, t1.1.2.2.1, ()), t1.2.1, t1.2.2.1, t1.2.2.2.1, ())) (some ((t2.1.1, t2.1.2.1, t2.1.2.2.1, ()), t2.2.1, t2.2.2.1, t2.2.2.2.1, ())) t0.2.2.2.1 t0.2.2.2.2 0))) fun t1 => (Option.elim t0.2.1 ((Option.elim t0.2.2.1 (Zz33.l4 k a0 a1 ([] : List Int) ([] : List Int) ([] : List Int) (some ((t1.1.1, t1.1.2.1, t1.1.2.2.1, ()), t1.2.1, t1.2.2.1, t1.2.2.2.1, ())) none none t0.2.2.2.1 t0.2.2.2.2 0) fun t2 => Zz33.l4 k a0 a1 ([] : List Int) ([] : List Int) ([] : List Int) (some ((t1.1.1, t1.1.2.1, t1.1.2.2.1, ()), t1.2.1, t1.2.2.1, t1.2.2.2.1, ())) none (some ((t2.1.1, t2.1.2.1, t2.1.2.2.1, ()), t2.2.1, t2.2.2.1, t2.2.2.2.1, ())) t0.2.2.2.1 t0.2.2.2.2 0)) fun t2 => (Option.elim t0.2.2.1 (Zz33.l4 k a0 a1 ([] : List Int) ([] : List Int) ([] : List Int) (some ((t1.1.1, t1.1.2.1, t1.1.2.2.1, ()), t1.2.1, t1.2.2.1, t1.2.2.2.1, ())) (some ((t2.1.1, t2.1.2.1, t2.1.2.2.1, ()), t2.2.1, t2.2.2.1, t2.2.2.2.1, ())) none t0.2.2.2.1 t0.2.2.2.2 0) fun t3 => Zz33.l4 k a0 a1 ([] : List Int) ([] : List Int) ([] : List Int) (some ((t1.1.1, t1.1.2.1, t1.1.2.2.1, ()), t1.2.1, t1.2.2.1, t1.2.2.2.1, ())) (some ((t2.1.1, t2.1.2.1, t2.1.2.2.1, ()), t2.2.1, t2.2.2.1, t2.2.2.2.1, ())) (some ((t3.1.1, t3.1.2.1, t3.1.2.2.1, ()), t3.2.1, t3.2.2.1, t3.2.2.2.1, ())) t0.2.2.2.1 t0.2.2.2.2 0)))) : Option (List Int × List Int × List Int × List Int × Int)) := by rw [← W64_eq, Zz33.f_def]; kernel_rfl
theorem Zz39.f_eq (k : Nat) (a0 : Int) : Zz39.f k a0 = ((if a0 ≥ 2 then some (decide (a0 < 9223372036854775808)) else some false) : Option Bool) := by rw [Zz39.f_def]; kernel_rfl
theorem Zz41.l4_eq (k : Nat) (x1 x12 : List Int) (x13 x14 : Int) : Zz41.l4 (k + 1) x1 x12 x13 x14 = ((if x14 < x13 then (if 0 ≤ x14 then (if x14 < (x12.length : Int) then ((Zz39.f k (rd x12 x14)).bind fun t0 => (if (!t0) = true then some 1 else Zz41.l4 k x1 x12 x13 (wrap64 (x14 + 1)))) else none) else none) else (if (x1.length : Int) > 1024 then some 13 else some 0)) : Option Int) := by rw [← W64_eq]; kernel_rfl
theorem Zz41.f_eq (k : Nat) (a0 a1 : List Int) : Zz41.f k a0 a1 = ((if (a0.length : Int) = (a1.length : Int) then Zz41.l4 k a1 a1 (a1.length : Int) 0 else some 1) : Option Int) := by rw [Zz41.f_def]; kernel_rfl
theorem Zz11.f_eq (k : Nat) (a0 : Int) : Zz11.f k a0 = ((if a0 < 0 then some (true, ([(IntKind.u64.wrap (-(IntKind.u64.wrap a0)))] : List Int)) else (if a0 = 0 then some (false, ([] : List Int)) else some (false, ([(IntKind.u64.wrap a0)] : List Int)))) : Option (Bool × List Int)) := by rw [← WK_eq, Zz11.f_def]; kernel_rfl
theorem Zz12.f_eq (k : Nat) (a0 : Bool) (a1 : List Int) : Zz12.f k a0 a1 = ((if a0 = true then some ((decide ((a1.length : Int) > 0)), a1) else some (false, a1)) : Option (Bool × List Int)) := by rw [Zz12.f_def]; kernel_rfl
theorem Zz52.f_eq (k : Nat) (a0 : List Int) (a1 : Int) : Zz52.f k a0 a1 = ((if a1 < (a0.length : Int) then (if 0 ≤ a1 then (if a1 < (a0.length : Int) then some (rd a0 a1) else none) else none) else some 0) : Option Int) := by rw [Zz52.f_def]; kernel_rfl
theorem Zz42.l4_eq (k : Nat) (x0 x1 x5 : List Int) (x6 x16 x17 : Int) : Zz42.l4 (k + 1) x0 x1 x5 x6 x16 x17 = ((if x17 < x16 then ((Zz52.f k x0 x17).bind fun t0 => ((Zz52.f k x1 x17).bind fun t1 => (if x6 ≤ 1 then (if 0 ≤ x17 then (if x17 < (x5.length : Int) then Zz42.l4 k x0 x1 (x5.set (x17 : Int).toNat (adS t0 t1 x6)) (adC t0 t1 x6) x16 (wrap64 (x17 + 1)) else none) else none) else none))) else ((Zz60.f k x5).bind fun t0 => some t0)) : Option (List Int)) := by rw [← W64_eq]; kernel_rfl
theorem Zz42.f_eq (k : Nat) (a0 a1 : List Int) : Zz42.f k a0 a1 = ((if (a1.length : Int) > (a0.length : Int) then (if 0 ≤ (wrap64 ((a1.length : Int) + 1)) then (if ((wrap64 ((a1.length : Int) + 1)) : Int).toNat ≤ 35184372088832 then Zz42.l4 k a0 a1 (List.replicate ((wrap64 ((a1.length : Int) + 1)) : Int).toNat (0 : Int)) 0 ((List.replicate ((wrap64 ((a1.length : Int) + 1)) : Int).toNat (0 : Int)).length : Int) 0 else none) else none) else (if 0 ≤ (wrap64 ((a0.length : Int) + 1)) then (if ((wrap64 ((a0.length : Int) + 1)) : Int).toNat ≤ 35184372088832 then Zz42.l4 k a0 a1 (List.replicate ((wrap64 ((a0.length : Int) + 1)) : Int).toNat (0 : Int)) 0 ((List.replicate ((wrap64 ((a0.length : Int) + 1)) : Int).toNat (0 : Int)).length : Int) 0 else none) else none)) : Option (List Int)) := by rw [← W64_eq, Zz42.f_def]; kernel_rfl
theorem Zz43.l7_eq (k : Nat) (x0 x1 : List Int) (x5 : Int) : Zz43.l7 (k + 1) x0 x1 x5 = ((if x5 ≥ 0 then (if 0 ≤ x5 then (if x5 < (x0.length : Int) then (if 0 ≤ x5 then (if x5 < (x1.length : Int) then (if (rd x0 x5) < (rd x1 x5) then some (-1) else (if 0 ≤ x5 then (if x5 < (x0.length : Int) then (if 0 ≤ x5 then (if x5 < (x1.length : Int) then (if (rd x0 x5) > (rd x1 x5) then some 1 else Zz43.l7 k x0 x1 (wrap64 (x5 - 1))) else none) else none) else none) else none)) else none) else none) else none) else none) else some 0) : Option Int) := by rw [← W64_eq]; kernel_rfl
theorem Zz43.f_eq (k : Nat) (a0 a1 : List Int) : Zz43.f k a0 a1 = (((Zz60.f k a0).bind fun t0 => ((Zz60.f k a1).bind fun t1 => (if (t0.length : Int) < (t1.length : Int) then some (-1) else (if (t0.length : Int) > (t1.length : Int) then some 1 else Zz43.l7 k t0 t1 (wrap64 ((t0.length : Int) - 1)))))) : Option Int) := by rw [← W64_eq, Zz43.f_def]; kernel_rfl
theorem Zz57.l4_eq (k : Nat) (x0 x1 x5 : List Int) (x6 x12 x13 : Int) : Zz57.l4 (k + 1) x0 x1 x5 x6 x12 x13 = ((if x13 < x12 then (if 0 ≤ x13 then (if x13 < (x0.length : Int) then ((Zz52.f k x1 x13).bind fun t0 => (if x6 ≤ 1 then (if 0 ≤ x13 then (if x13 < (x5.length : Int) then Zz57.l4 k x0 x1 (x5.set (x13 : Int).toNat (sbS (rd x0 x13) t0 x6)) (sbC (rd x0 x13) t0 x6) x12 (wrap64 (x13 + 1)) else none) else none) else none)) else none) else none) else ((Zz60.f k x5).bind fun t0 => some t0)) : Option (List Int)) := by rw [← W64_eq]; kernel_rfl
theorem Zz57.f_eq (k : Nat) (a0 a1 : List Int) : Zz57.f k a0 a1 = ((if 0 ≤ (a0.length : Int) then (if ((a0.length : Int) : Int).toNat ≤ 35184372088832 then Zz57.l4 k a0 a1 (List.replicate ((a0.length : Int) : Int).toNat (0 : Int)) 0 ((List.replicate ((a0.length : Int) : Int).toNat (0 : Int)).length : Int) 0 else none) else none) : Option (List Int)) := by rw [Zz57.f_def]; kernel_rfl
theorem Zz51.f_eq (k : Nat) (a0 a1 : List Int) : Zz51.f k a0 a1 = (((Zz60.f k a0).bind fun t0 => ((Zz60.f k a1).bind fun t1 => ((Zz43.f k t0 t1).bind fun t2 => (if t2 < 0 then some (([] : List Int), 1) else ((Zz57.f k t0 t1).bind fun t3 => some (t3, 0)))))) : Option (List Int × Int)) := by rw [Zz51.f_def]; kernel_rfl
theorem Zz1.f_eq (k : Nat) (a0_0 : Bool) (a0_1 : List Int) (a1_0 : Bool) (a1_1 : List Int) : Zz1.f k a0_0 a0_1 a1_0 a1_1 = ((if a0_0 = a1_0 then ((Zz42.f k a0_1 a1_1).bind fun t0 => ((Zz12.f k a0_0 t0).bind fun t1 => some (t1.1, t1.2))) else ((Zz43.f k a0_1 a1_1).bind fun t0 => (if t0 < 0 then ((Zz51.f k a1_1 a0_1).bind fun t1 => ((Zz12.f k a1_0 t1.1).bind fun t2 => some (t2.1, t2.2))) else ((Zz51.f k a0_1 a1_1).bind fun t1 => ((Zz12.f k a0_0 t1.1).bind fun t2 => some (t2.1, t2.2)))))) : Option (Bool × List Int)) := by rw [Zz1.f_def]; kernel_rfl
theorem Zz9.f_eq (k : Nat) (a0_0 : Bool) (a0_1 : List Int) : Zz9.f k a0_0 a0_1 = ((if a0_0 = true then some (-1) else (if (a0_1.length : Int) > 0 then some 1 else some 0)) : Option Int) := by rw [Zz9.f_def]; kernel_rfl
theorem Zz47.f_eq (k : Nat) (a0 : List Int) : Zz47.f k a0 = (((Zz60.f k a0).bind fun t0 => (if (([] : List Int).length + t0.length) ≤ 17592186044416 then some (([] : List Int) ++ t0) else none)) : Option (List Int)) := by rw [Zz47.f_def]; kernel_rfl
theorem Zz58.l3_eq (k : Nat) (x1 : Int) (x5 x12 : List Int) (x13 x14 : Int) : Zz58.l3 (k + 1) x1 x5 x12 x13 x14 = ((if x14 < x13 then (if 0 ≤ x14 then (if x14 < (x12.length : Int) then (if 0 ≤ x14 then (if x14 < (x5.length : Int) then (if 0 ≤ x1 then (if 0 ≤ x14 then (if x14 < (x5.length : Int) then (if 0 ≤ (IntKind.u64.wrap (64 - x1)) then (if 0 ≤ (wrap64 (x14 + 1)) then (if (wrap64 (x14 + 1)) < ((x5.set (x14 : Int).toNat (bits .or .u64 (rd x5 x14) (shl .u64 (rd x12 x14) x1))).length : Int) then Zz58.l3 k x1 ((x5.set (x14 : Int).toNat (bits .or .u64 (rd x5 x14) (shl .u64 (rd x12 x14) x1))).set ((wrap64 (x14 + 1)) : Int).toNat (shr .u64 (rd x12 x14) (IntKind.u64.wrap (64 - x1)))) x12 x13 (wrap64 (x14 + 1)) else none) else none) else none) else none) else none) else none) else none) else none) else none) else none) else some x5) : Option (List Int)) := by rw [← W64_eq, ← WK_eq]; kernel_rfl
theorem Zz58.f_eq (k : Nat) (a0 : List Int) (a1 : Int) : Zz58.f k a0 a1 = ((if 0 ≤ (wrap64 ((a0.length : Int) + 1)) then (if ((wrap64 ((a0.length : Int) + 1)) : Int).toNat ≤ 35184372088832 then Zz58.l3 k a1 (List.replicate ((wrap64 ((a0.length : Int) + 1)) : Int).toNat (0 : Int)) a0 (a0.length : Int) 0 else none) else none) : Option (List Int)) := by rw [← W64_eq, Zz58.f_def]; kernel_rfl
theorem Zz53.f_eq (k : Nat) (a0 a1 a2 a3 : Int) : Zz53.f k a0 a1 a2 a3 = (((Zz18.f k a0 a1).bind fun t0 => (if t0.1 > a2 then some true else (if t0.1 = a2 then some (decide (t0.2 > a3)) else some false))) : Option Bool) := by rw [Zz53.f_def]; kernel_rfl
theorem Zz55.l10_eq (k : Nat) (x2 x3 x4 x14 x15 x16 : Int) : Zz55.l10 (k + 1) x2 x3 x4 x14 x15 x16 = ((if x16 = 0 then ((Zz53.f k x14 x4 x15 x2).bind fun t0 => (if t0 = true then Zz55.l10 k x2 x3 x4 (IntKind.u64.wrap (x14 - 1)) (adS x15 x3 0) (adC x15 x3 0) else some x14)) else some x14) : Option Int) := by rw [← WK_eq]; kernel_rfl
theorem Zz55.l4_eq (k : Nat) (x2 x3 x4 x11 x12 x13 : Int) : Zz55.l4 (k + 1) x2 x3 x4 x11 x12 x13 = ((if x13 = 0 then ((Zz53.f k x11 x4 x12 x2).bind fun t0 => (if t0 = true then Zz55.l4 k x2 x3 x4 (IntKind.u64.wrap (x11 - 1)) (adS x12 x3 0) (adC x12 x3 0) else some x11)) else some x11) : Option Int) := by rw [← WK_eq]; kernel_rfl
theorem Zz55.f_eq (k : Nat) (a0 a1 a2 a3 a4 : Int) : Zz55.f k a0 a1 a2 a3 a4 = ((if a0 ≥ a3 then Zz55.l4 k a2 a3 a4 18446744073709551615 (adS a1 a3 0) (adC a1 a3 0) else ((Zz13.f k a0 a1 a3).bind fun t0 => Zz55.l10 k a2 a3 a4 t0.1 t0.2 0)) : Option Int) := by rw [Zz55.f_def]; kernel_rfl
theorem Zz59.l3_eq (k : Nat) (x0 x1 : List Int) (x2 x3 x9 x10 x11 : Int) : Zz59.l3 (k + 1) x0 x1 x2 x3 x9 x10 x11 = ((if x11 ≤ (x1.length : Int) then ((Zz52.f k x1 x11).bind fun t0 => ((Zz18.f k t0 x2).bind fun t1 => (if 0 ≤ (wrap64 (x3 + x11)) then (if (wrap64 (x3 + x11)) < (x0.length : Int) then (if x10 ≤ 1 then (if 0 ≤ (wrap64 (x3 + x11)) then (if (wrap64 (x3 + x11)) < (x0.length : Int) then Zz59.l3 k (x0.set ((wrap64 (x3 + x11)) : Int).toNat (sbS (rd x0 (wrap64 (x3 + x11))) (adS t1.2 x9 0) x10)) x1 x2 x3 (IntKind.u64.wrap (t1.1 + (adC t1.2 x9 0))) (sbC (rd x0 (wrap64 (x3 + x11))) (adS t1.2 x9 0) x10) (wrap64 (x11 + 1)) else none) else none) else none) else none) else none))) else some ((decide (x10 > 0)), x0)) : Option (Bool × List Int)) := by rw [← W64_eq, ← WK_eq]; kernel_rfl
theorem Zz59.f_eq (k : Nat) (a0 a1 : List Int) (a2 a3 : Int) : Zz59.f k a0 a1 a2 a3 = (Zz59.l3 k a0 a1 a2 a3 0 0 0 : Option (Bool × List Int)) := by rw [Zz59.f_def]; kernel_rfl
theorem Zz54.l2_eq (k : Nat) (x0 x1 : List Int) (x2 x6 x7 : Int) : Zz54.l2 (k + 1) x0 x1 x2 x6 x7 = ((if x7 ≤ (x1.length : Int) then (if 0 ≤ (wrap64 (x2 + x7)) then (if (wrap64 (x2 + x7)) < (x0.length : Int) then ((Zz52.f k x1 x7).bind fun t0 => (if x6 ≤ 1 then (if 0 ≤ (wrap64 (x2 + x7)) then (if (wrap64 (x2 + x7)) < (x0.length : Int) then Zz54.l2 k (x0.set ((wrap64 (x2 + x7)) : Int).toNat (adS (rd x0 (wrap64 (x2 + x7))) t0 x6)) x1 x2 (adC (rd x0 (wrap64 (x2 + x7))) t0 x6) (wrap64 (x7 + 1)) else none) else none) else none)) else none) else none) else some x0) : Option (List Int)) := by rw [← W64_eq]; kernel_rfl
theorem Zz54.f_eq (k : Nat) (a0 a1 : List Int) (a2 : Int) : Zz54.f k a0 a1 a2 = (Zz54.l2 k a0 a1 a2 0 0 : Option (List Int)) := by rw [Zz54.f_def]; kernel_rfl
theorem Zz50.l9_eq (k : Nat) (x0 : List Int) (x1 : Int) (x6 : List Int) (x25 x26 : Int) : Zz50.l9 (k + 1) x0 x1 x6 x25 x26 = ((if x26 < x25 then (if 0 ≤ x26 then (if x26 < (x0.length : Int) then (if 0 ≤ (IntKind.u64.wrap (Int.tmod x1 64)) then ((Zz52.f k x0 (wrap64 (x26 + 1))).bind fun t0 => (if 0 ≤ (IntKind.u64.wrap (wrap64 (64 - (Int.tmod x1 64)))) then (if 0 ≤ x26 then (if x26 < (x6.length : Int) then Zz50.l9 k x0 x1 (x6.set (x26 : Int).toNat (bits .or .u64 (shr .u64 (rd x0 x26) (IntKind.u64.wrap (Int.tmod x1 64))) (shl .u64 t0 (IntKind.u64.wrap (wrap64 (64 - (Int.tmod x1 64))))))) x25 (wrap64 (x26 + 1)) else none) else none) else none)) else none) else none) else none) else ((Zz60.f k x6).bind fun t0 => some (t0, 0))) : Option (List Int × Int)) := by rw [← W64_eq, ← WK_eq]; kernel_rfl
theorem Zz50.f_eq (k : Nat) (a0 : List Int) (a1 : Int) : Zz50.f k a0 a1 = ((if a1 < 0 then some (([] : List Int), 1) else ((Zz60.f k a0).bind fun t0 => (if (wrap64 (Int.tdiv a1 64)) ≥ (t0.length : Int) then some (([] : List Int), 0) else (if 0 ≤ (wrap64 (Int.tdiv a1 64)) then (if (wrap64 (Int.tdiv a1 64)) ≤ (t0.length : Int) then (if 0 ≤ ((t0.drop ((wrap64 (Int.tdiv a1 64)) : Int).toNat).length : Int) then (if (((t0.drop ((wrap64 (Int.tdiv a1 64)) : Int).toNat).length : Int) : Int).toNat ≤ 35184372088832 then Zz50.l9 k (t0.drop ((wrap64 (Int.tdiv a1 64)) : Int).toNat) a1 (List.replicate (((t0.drop ((wrap64 (Int.tdiv a1 64)) : Int).toNat).length : Int) : Int).toNat (0 : Int)) ((List.replicate (((t0.drop ((wrap64 (Int.tdiv a1 64)) : Int).toNat).length : Int) : Int).toNat (0 : Int)).length : Int) 0 else none) else none) else none) else none)))) : Option (List Int × Int)) := by rw [← W64_eq, Zz50.f_def]; kernel_rfl
theorem Zz44.l14_eq (k : Nat) (x10 : Int) (x11 x12 : List Int) (x13 : Int) (x14 : List Int) (x15 : Int) : Zz44.l14 (k + 1) x10 x11 x12 x13 x14 x15 = ((if x15 ≥ 0 then (if 0 ≤ (wrap64 (x15 + x13)) then (if (wrap64 (x15 + x13)) < (x11.length : Int) then (if 0 ≤ (wrap64 ((wrap64 (x15 + x13)) - 1)) then (if (wrap64 ((wrap64 (x15 + x13)) - 1)) < (x11.length : Int) then (if 0 ≤ (wrap64 ((wrap64 (x15 + x13)) - 2)) then (if (wrap64 ((wrap64 (x15 + x13)) - 2)) < (x11.length : Int) then (if 0 ≤ (wrap64 (x13 - 1)) then (if (wrap64 (x13 - 1)) < (x12.length : Int) then (if 0 ≤ (wrap64 (x13 - 2)) then (if (wrap64 (x13 - 2)) < (x12.length : Int) then ((Zz55.f k (rd x11 (wrap64 (x15 + x13))) (rd x11 (wrap64 ((wrap64 (x15 + x13)) - 1))) (rd x11 (wrap64 ((wrap64 (x15 + x13)) - 2))) (rd x12 (wrap64 (x13 - 1))) (rd x12 (wrap64 (x13 - 2)))).bind fun t0 => ((Zz59.f k x11 x12 t0 x15).bind fun t1 => (if t1.1 = true then ((Zz54.f k t1.2 x12 x15).bind fun t2 => (if 0 ≤ x15 then (if x15 < (x14.length : Int) then Zz44.l14 k x10 t2 x12 x13 (x14.set (x15 : Int).toNat (IntKind.u64.wrap (t0 - 1))) (wrap64 (x15 - 1)) else none) else none)) else (if 0 ≤ x15 then (if x15 < (x14.length : Int) then Zz44.l14 k x10 t1.2 x12 x13 (x14.set (x15 : Int).toNat t0) (wrap64 (x15 - 1)) else none) else none)))) else none) else none) else none) else none) else none) else none) else none) else none) else none) else none) else ((Zz50.f k x11 (wrap64 x10)).bind fun t0 => ((Zz60.f k x14).bind fun t1 => some (t1, t0.1, t0.2)))) : Option (List Int × List Int × Int)) := by rw [← W64_eq, ← WK_eq]; kernel_rfl
theorem Zz44.f_eq (k : Nat) (a0 a1 : List Int) : Zz44.f k a0 a1 = (((Zz60.f k a0).bind fun t0 => ((Zz60.f k a1).bind fun t1 => (if (t1.length : Int) = 0 then some (([] : List Int), ([] : List Int), 10) else ((Zz43.f k t0 t1).bind fun t2 => (if t2 < 0 then ((Zz47.f k t0).bind fun t3 => some (([] : List Int), t3, 0)) else (if (t1.length : Int) = 1 then (if 0 < (t1.length : Int) then ((Zz45.f k t0 (rd t1 0)).bind fun t3 => ((Zz47.f k ([t3.2.1] : List Int)).bind fun t4 => some (t3.1, t4, t3.2.2))) else none) else (if 0 ≤ (wrap64 ((t1.length : Int) - 1)) then (if (wrap64 ((t1.length : Int) - 1)) < (t1.length : Int) then ((Zz14.f k (rd t1 (wrap64 ((t1.length : Int) - 1)))).bind fun t3 => ((Zz58.f k t0 (IntKind.u64.wrap t3)).bind fun t4 => ((Zz58.f k t1 (IntKind.u64.wrap t3)).bind fun t5 => ((Zz60.f k t5).bind fun t6 => (if 0 ≤ (wrap64 ((t4.length : Int) - (t6.length : Int))) then (if ((wrap64 ((t4.length : Int) - (t6.length : Int))) : Int).toNat ≤ 35184372088832 then Zz44.l14 k (IntKind.u64.wrap t3) t4 t6 (t6.length : Int) (List.replicate ((wrap64 ((t4.length : Int) - (t6.length : Int))) : Int).toNat (0 : Int)) (wrap64 (((List.replicate ((wrap64 ((t4.length : Int) - (t6.length : Int))) : Int).toNat (0 : Int)).length : Int) - 1)) else none) else none))))) else none) else none))))))) : Option (List Int × List Int × Int)) := by rw [← W64_eq, ← WK_eq, Zz44.f_def]; kernel_rfl
theorem Zz8.f_eq (k : Nat) (a0_0 : Bool) (a0_1 : List Int) (a1_0 : Bool) (a1_1 : List Int) : Zz8.f k a0_0 a0_1 a1_0 a1_1 = (((Zz44.f k a0_1 a1_1).bind fun t0 => (if t0.2.2 = 0 then ((Zz12.f k (!(decide (a0_0 = a1_0))) t0.1).bind fun t1 => ((Zz12.f k a0_0 t0.2.1).bind fun t2 => some (t1.1, t1.2, t2.1, t2.2, 0))) else some (false, ([] : List Int), false, ([] : List Int), t0.2.2))) : Option (Bool × List Int × Bool × List Int × Int)) := by rw [Zz8.f_def]; kernel_rfl
theorem Zz6.f_eq (k : Nat) (a0_0 : Bool) (a0_1 : List Int) : Zz6.f k a0_0 a0_1 = (((Zz12.f k (!a0_0) a0_1).bind fun t0 => some (t0.1, t0.2)) : Option (Bool × List Int)) := by rw [Zz6.f_def]; kernel_rfl
theorem Zz10.f_eq (k : Nat) (a0_0 : Bool) (a0_1 : List Int) (a1_0 : Bool) (a1_1 : List Int) : Zz10.f k a0_0 a0_1 a1_0 a1_1 = (((Zz6.f k a1_0 a1_1).bind fun t0 => ((Zz1.f k a0_0 a0_1 t0.1 t0.2).bind fun t1 => some (t1.1, t1.2))) : Option (Bool × List Int)) := by rw [Zz10.f_def]; kernel_rfl
theorem Zz2.f_eq (k : Nat) (a0_0 : Bool) (a0_1 : List Int) (a1_0 : Bool) (a1_1 : List Int) : Zz2.f k a0_0 a0_1 a1_0 a1_1 = (((Zz8.f k a0_0 a0_1 a1_0 a1_1).bind fun t0 => ((Zz9.f k t0.2.2.1 t0.2.2.2.1).bind fun t1 => ((Zz9.f k a1_0 a1_1).bind fun t2 => (if (wrap64 (t1 * t2)) < 0 then ((Zz11.f k 1).bind fun t3 => ((Zz10.f k t0.1 t0.2.1 t3.1 t3.2).bind fun t4 => ((Zz1.f k t0.2.2.1 t0.2.2.2.1 a1_0 a1_1).bind fun t5 => some (t4.1, t4.2, t5.1, t5.2, t0.2.2.2.2)))) else some (t0.1, t0.2.1, t0.2.2.1, t0.2.2.2.1, t0.2.2.2.2))))) : Option (Bool × List Int × Bool × List Int × Int)) := by rw [← W64_eq, Zz2.f_def]; kernel_rfl
theorem Zz56.l12_eq (k : Nat) (x0 : List Int) (x8 x14 : Int) : Zz56.l12 (k + 1) x0 x8 x14 = ((if x8 > 0 then (if 0 ≤ x14 then (if x14 < (x0.length : Int) then (if 0 ≤ x14 then (if x14 < (x0.length : Int) then Zz56.l12 k (x0.set (x14 : Int).toNat (adS (rd x0 x14) x8 0)) (adC (rd x0 x14) x8 0) (wrap64 (x14 + 1)) else none) else none) else none) else none) else some x0) : Option (List Int)) := by rw [← W64_eq]; kernel_rfl
theorem Zz56.l2_eq (k : Nat) (x0 x1 : List Int) (x2 x3 x8 : Int) (x15 : List Int) (x16 x17 : Int) : Zz56.l2 (k + 1) x0 x1 x2 x3 x8 x15 x16 x17 = ((if x17 < x16 then (if 0 ≤ x17 then (if x17 < (x15.length : Int) then ((Zz18.f k (rd x15 x17) x2).bind fun t0 => (if 0 ≤ (wrap64 (x3 + x17)) then (if (wrap64 (x3 + x17)) < (x0.length : Int) then (if 0 ≤ (wrap64 (x3 + x17)) then (if (wrap64 (x3 + x17)) < (x0.length : Int) then Zz56.l2 k (x0.set ((wrap64 (x3 + x17)) : Int).toNat (adS (rd x0 (wrap64 (x3 + x17))) (adS t0.2 x8 0) 0)) x1 x2 x3 (IntKind.u64.wrap ((IntKind.u64.wrap (t0.1 + (adC t0.2 x8 0))) + (adC (rd x0 (wrap64 (x3 + x17))) (adS t0.2 x8 0) 0))) x15 x16 (wrap64 (x17 + 1)) else none) else none) else none) else none)) else none) else none) else Zz56.l12 k x0 x8 (wrap64 (x3 + (x1.length : Int)))) : Option (List Int)) := by rw [← W64_eq, ← WK_eq]; kernel_rfl
theorem Zz56.f_eq (k : Nat) (a0 a1 : List Int) (a2 a3 : Int) : Zz56.f k a0 a1 a2 a3 = (Zz56.l2 k a0 a1 a2 a3 0 a1 (a1.length : Int) 0 : Option (List Int)) := by rw [Zz56.f_def]; kernel_rfl
theorem Zz46.l4_eq (k : Nat) (x0 x5 x19 : List Int) (x20 x21 : Int) : Zz46.l4 (k + 1) x0 x5 x19 x20 x21 = ((if x21 < x20 then (if 0 ≤ x21 then (if x21 < (x19.length : Int) then ((Zz56.f k x5 x0 (rd x19 x21) x21).bind fun t0 => Zz46.l4 k x0 t0 x19 x20 (wrap64 (x21 + 1))) else none) else none) else ((Zz60.f k x5).bind fun t0 => some t0)) : Option (List Int)) := by rw [← W64_eq]; kernel_rfl
theorem Zz46.f_eq (k : Nat) (a0 a1 : List Int) : Zz46.f k a0 a1 = (((Zz60.f k a0).bind fun t0 => ((Zz60.f k a1).bind fun t1 => (if 0 ≤ (wrap64 ((wrap64 ((t0.length : Int) + (t1.length : Int))) + 1)) then (if ((wrap64 ((wrap64 ((t0.length : Int) + (t1.length : Int))) + 1)) : Int).toNat ≤ 35184372088832 then Zz46.l4 k t0 (List.replicate ((wrap64 ((wrap64 ((t0.length : Int) + (t1.length : Int))) + 1)) : Int).toNat (0 : Int)) t1 (t1.length : Int) 0 else none) else none))) : Option (List Int)) := by rw [← W64_eq, Zz46.f_def]; kernel_rfl
theorem Zz4.f_eq (k : Nat) (a0_0 : Bool) (a0_1 : List Int) (a1_0 : Bool) (a1_1 : List Int) : Zz4.f k a0_0 a0_1 a1_0 a1_1 = (((Zz46.f k a0_1 a1_1).bind fun t0 => ((Zz12.f k (!(decide (a0_0 = a1_0))) t0).bind fun t1 => some (t1.1, t1.2))) : Option (Bool × List Int)) := by rw [Zz4.f_def]; kernel_rfl
theorem Zz0.f_eq (k : Nat) (a0 : Bool) (a1 : List Int) : Zz0.f k a0 a1 = (((Zz47.f k a1).bind fun t0 => ((Zz12.f k a0 t0).bind fun t1 => some (t1.1, t1.2))) : Option (Bool × List Int)) := by rw [Zz0.f_def]; kernel_rfl
theorem Zz40.f_eq (k : Nat) (a0 : Int) : Zz40.f k a0 = (((Zz0.f k false ([a0] : List Int)).bind fun t0 => some (t0.1, t0.2)) : Option (Bool × List Int)) := by rw [Zz40.f_def]; kernel_rfl
theorem Zz38.f_eq (k : Nat) (a0_0 : Bool) (a0_1 : List Int) (a1_0 : Bool) (a1_1 : List Int) (a2 a3 : Int) : Zz38.f k a0_0 a0_1 a1_0 a1_1 a2 a3 = (((Zz9.f k a1_0 a1_1).bind fun t0 => (if t0 ≤ 0 then some (false, ([] : List Int), false, ([] : List Int), 1) else ((Zz39.f k a3).bind fun t1 => (if (!t1) = true then some (false, ([] : List Int), false, ([] : List Int), 1) else ((Zz114.f k a3).bind fun t2 => (Option.elim t2.1 ((if t2.2 = 0 then ((Zz2.f k a0_0 a0_1 a1_0 a1_1).bind fun t3 => ((Zz3.f k a1_0 a1_1 a3).bind fun t4 => ((Zz3.f k t3.2.2.1 t3.2.2.2.1 a3).bind fun t5 => none))) else some (false, ([] : List Int), false, ([] : List Int), t2.2))) fun t3 => (if t2.2 = 0 then ((Zz2.f k a0_0 a0_1 a1_0 a1_1).bind fun t4 => ((Zz3.f k a1_0 a1_1 a3).bind fun t5 => ((Zz3.f k t4.2.2.1 t4.2.2.2.1 a3).bind fun t6 => ((Zz109.f k t3.1 t3.2.1 t3.2.2.1 t5.1).bind fun t7 => (if t7.2 = 0 then ((Zz113.f k t3.1 t3.2.1 t3.2.2.1 a2 t6.1).bind fun t8 => ((Zz110.f k t3.1 t3.2.1 t3.2.2.1 t8 t7.1).bind fun t9 => ((Zz40.f k t9).bind fun t10 => ((Zz4.f k a1_0 a1_1 t10.1 t10.2).bind fun t11 => ((Zz1.f k t4.2.2.1 t4.2.2.2.1 t11.1 t11.2).bind fun t12 => ((Zz40.f k a3).bind fun t13 => ((Zz4.f k a1_0 a1_1 t13.1 t13.2).bind fun t14 => some (t12.1, t12.2, t14.1, t14.2, 0)))))))) else some (false, ([] : List Int), false, ([] : List Int), 11)))))) else some (false, ([] : List Int), false, ([] : List Int), t2.2)))))))) : Option (Bool × List Int × Bool × List Int × Int)) := by rw [Zz38.f_def]; kernel_rfl
theorem Zz37.l1000_eq (k : Nat) (x0 x1 : List Int) (x4_0 : Bool) (x4_1 : List Int) (x5_0 : Bool) (x5_1 : List Int) (x8_0 : Bool) (x8_1 : List Int) (x9_0 : Bool) (x9_1 : List Int) (x11 : Int) : Zz37.l1000 (k + 1) x0 x1 x4_0 x4_1 x5_0 x5_1 x8_0 x8_1 x9_0 x9_1 x11 = ((if x11 < (x1.length : Int) then (if 0 ≤ x11 then (if x11 < (x0.length : Int) then (if 0 ≤ x11 then (if x11 < (x1.length : Int) then ((Zz38.f k x8_0 x8_1 x9_0 x9_1 (rd x0 x11) (rd x1 x11)).bind fun t0 => (if t0.2.2.2.2 = 0 then Zz37.l1000 k x0 x1 x4_0 x4_1 x5_0 x5_1 t0.1 t0.2.1 t0.2.2.1 t0.2.2.2.1 (wrap64 (x11 + 1)) else some (false, ([] : List Int), false, ([] : List Int), t0.2.2.2.2))) else none) else none) else none) else none) else some (x8_0, x8_1, x9_0, x9_1, 0)) : Option (Bool × List Int × Bool × List Int × Int)) := by rw [← W64_eq]; kernel_rfl
theorem Zz37.f_eq (k : Nat) (a0 a1 : List Int) : Zz37.f k a0 a1 = (((Zz41.f k a0 a1).bind fun t0 => (if t0 = 0 then ((Zz11.f k 1).bind fun t1 => (if 0 < (a1.length : Int) then (if 0 < (a0.length : Int) then (if 0 < (a1.length : Int) then ((Zz38.f k false ([] : List Int) t1.1 t1.2 (rd a0 0) (rd a1 0)).bind fun t2 => (if t2.2.2.2.2 = 0 then Zz37.l1000 k a0 a1 false ([] : List Int) false ([] : List Int) t2.1 t2.2.1 t2.2.2.1 t2.2.2.2.1 (wrap64 (0 + 1)) else some (false, ([] : List Int), false, ([] : List Int), t2.2.2.2.2))) else none) else none) else some (false, ([] : List Int), t1.1, t1.2, 0))) else some (false, ([] : List Int), false, ([] : List Int), t0))) : Option (Bool × List Int × Bool × List Int × Int)) := by rw [← W64_eq, Zz37.f_def]; kernel_rfl
theorem Zz35.l8_eq (k : Nat) (x6_0 x6_1 x6_2 x7 x9 : List Int) (x34 x35 : Int) : Zz35.l8 (k + 1) x6_0 x6_1 x6_2 x7 x9 x34 x35 = ((if x35 < x34 then (if 0 ≤ x35 then (if x35 < (x6_0.length : Int) then (if 0 ≤ x35 then (if x35 < (x6_1.length : Int) then (if 0 ≤ x35 then (if x35 < (x6_2.length : Int) then ((Zz37.f k ([(rd x6_0 x35), (rd x6_1 x35), (rd x6_2 x35)] : List Int) x7).bind fun t0 => (if t0.2.2.2.2 = 0 then (if (x9.length + ([(cdB (t0.1, t0.2.1))] : List Int).length) ≤ 4398046511104 then Zz35.l8 k x6_0 x6_1 x6_2 x7 (x9 ++ ([(cdB (t0.1, t0.2.1))] : List Int)) x34 (wrap64 (x35 + 1)) else none) else some (([] : List Int), t0.2.2.2.2))) else none) else none) else none) else none) else none) else none) else some (x9, 0)) : Option (List Int × Int)) := by rw [← W64_eq]; kernel_rfl
theorem Zz35.f_eq (k : Nat) (a0 a1 : List Int) : Zz35.f k a0 a1 = ((if (a0.length : Int) = 0 then some (([] : List Int), 0) else (if (a1.length : Int) = 0 then some (([] : List Int), 0) else ((Zz33.f k a0 a1).bind fun t0 => (if t0.2.2.2.2 = 0 then Zz35.l8 k t0.1 t0.2.1 t0.2.2.1 t0.2.2.2.1 ([] : List Int) (t0.1.length : Int) 0 else some (([] : List Int), t0.2.2.2.2))))) : Option (List Int × Int)) := by rw [Zz35.f_def]; kernel_rfl
theorem Zz31.l3_eq (k : Nat) (x0_0 x0_1 x0_2 : Int) (x5 x11 : List Int) (x12 x13 : Int) : Zz31.l3 (k + 1) x0_0 x0_1 x0_2 x5 x11 x12 x13 = ((if x13 < x12 then (if 0 ≤ x13 then (if x13 < (x11.length : Int) then ((Zz111.f k x0_0 x0_1 x0_2 (rd x11 x13)).bind fun t0 => (if 0 ≤ x13 then (if x13 < (x5.length : Int) then Zz31.l3 k x0_0 x0_1 x0_2 (x5.set (x13 : Int).toNat t0) x11 x12 (wrap64 (x13 + 1)) else none) else none)) else none) else none) else some x5) : Option (List Int)) := by rw [← W64_eq]; kernel_rfl
theorem Zz31.f_eq (k : Nat) (a0_0 a0_1 a0_2 : Int) (a1 : List Int) : Zz31.f k a0_0 a0_1 a0_2 a1 = ((if 0 ≤ (a1.length : Int) then (if ((a1.length : Int) : Int).toNat ≤ 35184372088832 then Zz31.l3 k a0_0 a0_1 a0_2 (List.replicate ((a1.length : Int) : Int).toNat (0 : Int)) a1 (a1.length : Int) 0 else none) else none) : Option (List Int)) := by rw [Zz31.f_def]; kernel_rfl
theorem Zz22.l12_eq (k : Nat) (x2 : Int) (x12 x44 : List Int) (x45 x46 : Int) : Zz22.l12 (k + 1) x2 x12 x44 x45 x46 = ((if x46 < x45 then (if 0 ≤ x46 then (if x46 < (x44.length : Int) then ((Zz3.f k (dcB (rd x44 x46)).1 (dcB (rd x44 x46)).2 x2).bind fun t0 => (if t0.2 = 0 then (if (x12.length + ([t0.1] : List Int).length) ≤ 17592186044416 then Zz22.l12 k x2 (x12 ++ ([t0.1] : List Int)) x44 x45 (wrap64 (x46 + 1)) else none) else some (([] : List Int), t0.2))) else none) else none) else some (x12, 0)) : Option (List Int × Int)) := by rw [← W64_eq]; kernel_rfl
theorem Zz22.f_eq (k : Nat) (a0 a1 : List Int) (a2 : Int) : Zz22.f k a0 a1 a2 = (((Zz114.f k a2).bind fun t0 => (Option.elim t0.1 ((if t0.2 = 0 then ((Zz29.f k a0 a1).bind fun t1 => (if t1 = 0 then none else some (([] : List Int), t1))) else some (([] : List Int), t0.2))) fun t1 => (if t0.2 = 0 then ((Zz29.f k a0 a1).bind fun t2 => (if t2 = 0 then ((Zz31.f k t1.1 t1.2.1 t1.2.2.1 a0).bind fun t3 => ((Zz31.f k t1.1 t1.2.1 t1.2.2.1 a1).bind fun t4 => ((Zz35.f k t3 t4).bind fun t5 => (if t5.2 = 0 then Zz22.l12 k a2 ([] : List Int) t5.1 (t5.1.length : Int) 0 else some (([] : List Int), t5.2))))) else some (([] : List Int), t2))) else some (([] : List Int), t0.2)))) : Option (List Int × Int)) := by rw [Zz22.f_def]; kernel_rfl
theorem Zz103.l4_eq (k : Nat) (x0 x1 : List Int) (x5 : Int) : Zz103.l4 (k + 1) x0 x1 x5 = ((if x5 < (x0.length : Int) then (if 0 ≤ x5 then (if x5 < (x0.length : Int) then (if 0 ≤ x5 then (if x5 < (x1.length : Int) then (if (rd x0 x5) = (rd x1 x5) then Zz103.l4 k x0 x1 (wrap64 (x5 + 1)) else some false) else none) else none) else none) else none) else some true) : Option Bool) := by rw [← W64_eq]; kernel_rfl
theorem Zz103.f_eq (k : Nat) (a0 a1 : List Int) : Zz103.f k a0 a1 = ((if (a0.length : Int) = (a1.length : Int) then Zz103.l4 k a0 a1 0 else some false) : Option Bool) := by rw [Zz103.f_def]; kernel_rfl
theorem Zz30.l3_eq (k : Nat) (x4 x5 x8 : List Int) (x9 x10 : Int) : Zz30.l3 (k + 1) x4 x5 x8 x9 x10 = ((if x10 < x9 then (if 0 ≤ x10 then (if x10 < (x8.length : Int) then (if (x4.length + ([(shr .u64 (rd x8 x10) 32)] : List Int).length) ≤ 17592186044416 then (if (x5.length + ([(bits .and .u64 (rd x8 x10) 4294967295)] : List Int).length) ≤ 17592186044416 then Zz30.l3 k (x4 ++ ([(shr .u64 (rd x8 x10) 32)] : List Int)) (x5 ++ ([(bits .and .u64 (rd x8 x10) 4294967295)] : List Int)) x8 x9 (wrap64 (x10 + 1)) else none) else none) else none) else none) else some (x4, x5)) : Option (List Int × List Int)) := by rw [← W64_eq]; kernel_rfl
theorem Zz30.f_eq (k : Nat) (a0 : List Int) : Zz30.f k a0 = (Zz30.l3 k ([] : List Int) ([] : List Int) a0 (a0.length : Int) 0 : Option (List Int × List Int)) := by rw [Zz30.f_def]; kernel_rfl
theorem Zz61.f_eq (k : Nat) (a0 : List Int) (a1 : Int) : Zz61.f k a0 a1 = ((if (a0.length : Int) = 0 then some ([] : List Int) else (if 0 ≤ a1 then (if a1 ≤ (wrap64 (a1 + (a0.length : Int))) then (if ((wrap64 (a1 + (a0.length : Int))) : Int).toNat ≤ 35184372088832 then (if ((List.replicate (a1 : Int).toNat (0 : Int)).length + a0.length) ≤ 17592186044416 then some ((List.replicate (a1 : Int).toNat (0 : Int)) ++ a0) else none) else none) else none) else none)) : Option (List Int)) := by rw [← W64_eq, Zz61.f_def]; kernel_rfl
theorem Zz49.f_eq (k : Nat) (a0 : List Int) (a1 : Int) : Zz49.f k a0 a1 = ((if a1 < 0 then some (([] : List Int), 1) else (if a1 > 262144 then some (([] : List Int), 13) else ((Zz60.f k a0).bind fun t0 => ((Zz58.f k t0 (IntKind.u64.wrap (Int.tmod a1 64))).bind fun t1 => ((Zz61.f k t1 (wrap64 (Int.tdiv a1 64))).bind fun t2 => ((Zz60.f k t2).bind fun t3 => some (t3, 0))))))) : Option (List Int × Int)) := by rw [← W64_eq, ← WK_eq, Zz49.f_def]; kernel_rfl
theorem Zz5.f_eq (k : Nat) (a0_0 : Bool) (a0_1 : List Int) : Zz5.f k a0_0 a0_1 = (((Zz47.f k a0_1).bind fun t0 => some t0) : Option (List Int)) := by rw [Zz5.f_def]; kernel_rfl
theorem Zz32.f_eq (k : Nat) (a0_0 : Bool) (a0_1 : List Int) (a1 : Int) : Zz32.f k a0_0 a0_1 a1 = (((Zz5.f k a0_0 a0_1).bind fun t0 => ((Zz49.f k t0 a1).bind fun t1 => ((Zz0.f k false t1.1).bind fun t2 => some (t2.1, t2.2)))) : Option (Bool × List Int)) := by rw [Zz32.f_def]; kernel_rfl
theorem Zz36.l7_eq (k : Nat) (x8 : List Int) (x9 : Int) (x10 : List Int) (x33 x34 : Int) : Zz36.l7 (k + 1) x8 x9 x10 x33 x34 = ((if x34 < x33 then (if 0 ≤ x34 then (if x34 < (x8.length : Int) then (if 0 ≤ x34 then (if x34 < (x10.length : Int) then ((Zz32.f k (dcB (rd x10 x34)).1 (dcB (rd x10 x34)).2 32).bind fun t0 => ((Zz1.f k (dcB (rd x8 x34)).1 (dcB (rd x8 x34)).2 t0.1 t0.2).bind fun t1 => (if 0 ≤ x34 then (if x34 < (x8.length : Int) then Zz36.l7 k (x8.set (x34 : Int).toNat (cdB (t1.1, t1.2))) x9 x10 x33 (wrap64 (x34 + 1)) else none) else none))) else none) else none) else none) else none) else some (x8, x9)) : Option (List Int × Int)) := by rw [← W64_eq]; kernel_rfl
theorem Zz36.f_eq (k : Nat) (a0 a1 : List Int) : Zz36.f k a0 a1 = (((Zz30.f k a1).bind fun t0 => ((Zz35.f k a0 t0.2).bind fun t1 => (if t1.2 = 0 then ((Zz35.f k a0 t0.1).bind fun t2 => Zz36.l7 k t1.1 t2.2 t2.1 (t1.1.length : Int) 0) else some (([] : List Int), t1.2)))) : Option (List Int × Int)) := by rw [Zz36.f_def]; kernel_rfl
theorem Zz23.l15_eq (k : Nat) (x1 x9 : List Int) (x10 : Int) (x29 : List Int) (x30 x31 : Int) (x50 : List Int) (x51 x52 : Int) : Zz23.l15 (k + 1) x1 x9 x10 x29 x30 x31 x50 x51 x52 = ((if x52 < x51 then (if 0 ≤ x52 then (if x52 < (x50.length : Int) then (if 0 ≤ x52 then (if x52 < (x9.length : Int) then ((Zz32.f k (dcB (rd x50 x52)).1 (dcB (rd x50 x52)).2 (wrap64 (32 * x10))).bind fun t0 => ((Zz1.f k (dcB (rd x9 x52)).1 (dcB (rd x9 x52)).2 t0.1 t0.2).bind fun t1 => (if 0 ≤ x52 then (if x52 < (x9.length : Int) then Zz23.l15 k x1 (x9.set (x52 : Int).toNat (cdB (t1.1, t1.2))) x10 x29 x30 x31 x50 x51 (wrap64 (x52 + 1)) else none) else none))) else none) else none) else none) else none) else (if (wrap64 (x31 + 1)) < x30 then (if 0 ≤ (wrap64 (x31 + 1)) then (if (wrap64 (x31 + 1)) < (x29.length : Int) then ((Zz36.f k (dcR (rd x29 (wrap64 (x31 + 1)))) x1).bind fun t0 => (if t0.2 = 0 then Zz23.l15 k x1 x9 (wrap64 (x31 + 1)) x29 x30 (wrap64 (x31 + 1)) t0.1 (t0.1.length : Int) 0 else some (([] : List Int), t0.2))) else none) else none) else some (x9, 0))) : Option (List Int × Int)) := by rw [← W64_eq]; kernel_rfl
theorem Zz23.f_eq (k : Nat) (a0 a1 : List Int) : Zz23.f k a0 a1 = (((Zz29.f k a0 a1).bind fun t0 => (if t0 = 0 then ((Zz30.f k a0).bind fun t1 => (if 0 < (([(cdR t1.2), (cdR t1.1)] : List Int).length : Int) then (if 0 < (([(cdR t1.2), (cdR t1.1)] : List Int).length : Int) then ((Zz36.f k (dcR (rd ([(cdR t1.2), (cdR t1.1)] : List Int) 0)) a1).bind fun t2 => (if t2.2 = 0 then (if 0 ≤ (t2.1.length : Int) then (if ((t2.1.length : Int) : Int).toNat ≤ 8796093022208 then Zz23.l15 k a1 (List.replicate ((t2.1.length : Int) : Int).toNat ((cdB (false, ([] : List Int))) : Int)) 0 ([(cdR t1.2), (cdR t1.1)] : List Int) (([(cdR t1.2), (cdR t1.1)] : List Int).length : Int) 0 t2.1 (t2.1.length : Int) 0 else none) else none) else some (([] : List Int), t2.2))) else none) else some (([] : List Int), 0))) else some (([] : List Int), t0))) : Option (List Int × Int)) := by rw [Zz23.f_def]; kernel_rfl
theorem Zz48.l14_eq (k : Nat) (x3 : List Int) (x6 x7 : Int) : Zz48.l14 (k + 1) x3 x6 x7 = ((if x6 < x7 then (if 0 ≤ x7 then (if x7 < (x3.length : Int) then (if 0 ≤ x6 then (if x6 < (x3.length : Int) then (if 0 ≤ x6 then (if x6 < (x3.length : Int) then (if 0 ≤ x7 then (if x7 < ((x3.set (x6 : Int).toNat (rd x3 x7)).length : Int) then Zz48.l14 k ((x3.set (x6 : Int).toNat (rd x3 x7)).set (x7 : Int).toNat (rd x3 x6)) (wrap64 (x6 + 1)) (wrap64 (x7 - 1)) else none) else none) else none) else none) else none) else none) else none) else none) else (if x3.length ≤ 9223372036854775807 then some (Go.strOfNums x3) else none)) : Option ByteArray) := by rw [← W64_eq]; kernel_rfl
theorem Zz48.l9_eq (k : Nat) (x0 x3 : List Int) (x4 x5 : Int) : Zz48.l9 (k + 1) x0 x3 x4 x5 = ((if x5 < 19 then (if x4 > 0 then (if (x3.length + ([((IntKind.u64.wrap (48 + (Int.tmod x4 10))) % 256)] : List Int).length) ≤ 140737488355328 then Zz48.l9 k x0 (x3 ++ ([((IntKind.u64.wrap (48 + (Int.tmod x4 10))) % 256)] : List Int)) (IntKind.u64.wrap (Int.tdiv x4 10)) (wrap64 (x5 + 1)) else none) else (if (x0.length : Int) > 0 then (if (x3.length + ([((IntKind.u64.wrap (48 + (Int.tmod x4 10))) % 256)] : List Int).length) ≤ 140737488355328 then Zz48.l9 k x0 (x3 ++ ([((IntKind.u64.wrap (48 + (Int.tmod x4 10))) % 256)] : List Int)) (IntKind.u64.wrap (Int.tdiv x4 10)) (wrap64 (x5 + 1)) else none) else Zz48.l5 k x0 x3)) else Zz48.l5 k x0 x3) : Option ByteArray) := by rw [← W64_eq, ← WK_eq]; kernel_rfl
theorem Zz48.l5_eq (k : Nat) (x0 x3 : List Int) : Zz48.l5 (k + 1) x0 x3 = ((if (x0.length : Int) > 0 then ((Zz45.f k x0 10000000000000000000).bind fun t0 => Zz48.l9 k t0.1 x3 t0.2.1 0) else Zz48.l14 k x3 0 (wrap64 ((x3.length : Int) - 1))) : Option ByteArray) := by rw [← W64_eq]; kernel_rfl
theorem Zz48.f_eq (k : Nat) (a0 : List Int) : Zz48.f k a0 = (((Zz47.f k a0).bind fun t0 => (if (t0.length : Int) = 0 then some (ByteArray.mk (Array.mk [48])) else Zz48.l5 k t0 ([] : List Int))) : Option ByteArray) := by rw [Zz48.f_def]; kernel_rfl
theorem Zz7.f_eq (k : Nat) (a0_0 : Bool) (a0_1 : List Int) : Zz7.f k a0_0 a0_1 = (((Zz48.f k a0_1).bind fun t0 => (if a0_0 = true then (if ((ByteArray.mk (Array.mk [45])).size + t0.size) ≤ 9223372036854775807 then some (tApp (ByteArray.mk (Array.mk [45])) t0) else none) else some t0)) : Option ByteArray) := by rw [Zz7.f_def]; kernel_rfl
theorem Zz27.f_eq (k : Nat) (a0 : Int) : Zz27.f k a0 = (some (decide (a0 < 1)) : Option Bool) := by rw [Zz27.f_def]; kernel_rfl
theorem Zz72.l2_eq (k : Nat) (x0 : List Int) (x7 x8 : Int) : Zz72.l2 (k + 1) x0 x7 x8 = ((if x8 < x7 then (if 0 ≤ x8 then (if x8 < (x0.length : Int) then ((Zz27.f k (rd x0 x8)).bind fun t0 => (if t0 = true then some x8 else Zz72.l2 k x0 x7 (wrap64 (x8 + 1)))) else none) else none) else some (-1)) : Option Int) := by rw [← W64_eq]; kernel_rfl
theorem Zz72.f_eq (k : Nat) (a0 : List Int) : Zz72.f k a0 = (Zz72.l2 k a0 (a0.length : Int) 0 : Option Int) := by rw [Zz72.f_def]; kernel_rfl
theorem Zz71.f_eq (k : Nat) (a0 : List Int) : Zz71.f k a0 = (((Zz72.f k a0).bind fun t0 => some (decide (t0 ≥ 0))) : Option Bool) := by rw [Zz71.f_def]; kernel_rfl
theorem Zz26.l5_eq (k : Nat) (x4 : Int) (x14 : List Int) (x15 x16 : Int) : Zz26.l5 (k + 1) x4 x14 x15 x16 = ((if x16 < x15 then (if 0 ≤ x16 then (if x16 < (x14.length : Int) then (if x4 = 0 then none else (if (rd x14 x16) > (wrap64 (Int.tdiv 65536 x4)) then some (0, 13) else Zz26.l5 k (wrap64 (x4 * (rd x14 x16))) x14 x15 (wrap64 (x16 + 1)))) else none) else none) else some (x4, 0)) : Option (Int × Int)) := by rw [← W64_eq]; kernel_rfl
theorem Zz26.f_eq (k : Nat) (a0 : List Int) : Zz26.f k a0 = ((if (a0.length : Int) > 8 then some (0, 1) else ((Zz71.f k a0).bind fun t0 => (if t0 = true then some (0, 1) else Zz26.l5 k 1 a0 (a0.length : Int) 0))) : Option (Int × Int)) := by rw [Zz26.f_def]; kernel_rfl
theorem Zz25.l8_eq (k : Nat) (x1 : List Int) (x8 : Int) (x24 : List Int) (x25 x26 : Int) : Zz25.l8 (k + 1) x1 x8 x24 x25 x26 = ((if x26 < x25 then (if 0 ≤ x26 then (if x26 < (x24.length : Int) then (if 0 ≤ x26 then (if x26 < (x1.length : Int) then (if (rd x1 x26) < 0 then some (0, 1) else (if 0 ≤ x26 then (if x26 < (x1.length : Int) then (if (rd x1 x26) ≥ (rd x24 x26) then some (0, 1) else (if 0 ≤ x26 then (if x26 < (x1.length : Int) then Zz25.l8 k x1 (wrap64 ((wrap64 (x8 * (rd x24 x26))) + (rd x1 x26))) x24 x25 (wrap64 (x26 + 1)) else none) else none)) else none) else none)) else none) else none) else none) else none) else some (x8, 0)) : Option (Int × Int)) := by rw [← W64_eq]; kernel_rfl
theorem Zz25.f_eq (k : Nat) (a0 a1 : List Int) : Zz25.f k a0 a1 = (((Zz26.f k a0).bind fun t0 => (if t0.2 = 0 then (if (a1.length : Int) = (a0.length : Int) then Zz25.l8 k a1 0 a0 (a0.length : Int) 0 else some (0, 1)) else some (0, t0.2))) : Option (Int × Int)) := by rw [Zz25.f_def]; kernel_rfl
theorem Zz90.f_eq (k : Nat) : Zz90.f k = (((Zz22.f k ([1, 2] : List Int) ([3, 4] : List Int) 5).bind fun t0 => ((Zz23.f k ([18446744073709551615] : List Int) ([2] : List Int)).bind fun t1 => ((Zz25.f k ([2, 3] : List Int) ([1, 2] : List Int)).bind fun t2 => ((Zz103.f k t0.1 ([3, 0, 3] : List Int)).bind fun t3 => (if t3 = true then (if t0.2 = 0 then (if (t1.1.length : Int) = 1 then (if 0 < (t1.1.length : Int) then ((Zz7.f k (dcB (rd t1.1 0)).1 (dcB (rd t1.1 0)).2).bind fun t4 => (if (tEq t4 (ByteArray.mk (Array.mk [51, 54, 56, 57, 51, 52, 56, 56, 49, 52, 55, 52, 49, 57, 49, 48, 51, 50, 51, 48]))) = true then (if t1.2 = 0 then (if t2.1 = 5 then some (decide (t2.2 = 0)) else some false) else some false) else some false)) else none) else some false) else some false) else some false))))) : Option Bool) := by rw [Zz90.f_def]; kernel_rfl
theorem Zz100.f_eq (k : Nat) (a0 : Int) : Zz100.f k a0 = ((if a0 ≥ 2 then some (decide (a0 < 9223372036854775808)) else some false) : Option Bool) := by rw [Zz100.f_def]; kernel_rfl
theorem Zz99.f_eq (k : Nat) (a0 a1 a2 : Int) : Zz99.f k a0 a1 a2 = ((if a2 = 0 then none else (if a2 = 0 then none else (if a2 = 0 then none else some (Int.tmod (IntKind.u64.wrap ((Int.tmod a0 a2) + (Int.tmod a1 a2))) a2)))) : Option Int) := by rw [← WK_eq, Zz99.f_def]; kernel_rfl
theorem Zz101.l4_eq (k : Nat) (x0 x1 x2 x7 : Int) : Zz101.l4 (k + 1) x0 x1 x2 x7 = ((if x1 > 0 then (if (Int.tmod x1 2) = 1 then ((Zz99.f k x7 x0 x2).bind fun t0 => ((Zz99.f k x0 x0 x2).bind fun t1 => Zz101.l4 k t1 (IntKind.u64.wrap (Int.tdiv x1 2)) x2 t0)) else ((Zz99.f k x0 x0 x2).bind fun t0 => Zz101.l4 k t0 (IntKind.u64.wrap (Int.tdiv x1 2)) x2 x7)) else some x7) : Option Int) := by rw [← WK_eq]; kernel_rfl
theorem Zz101.f_eq (k : Nat) (a0 a1 a2 : Int) : Zz101.f k a0 a1 a2 = ((if a2 = 0 then none else (if a2 = 0 then none else Zz101.l4 k (Int.tmod a0 a2) (Int.tmod a1 a2) a2 0)) : Option Int) := by rw [Zz101.f_def]; kernel_rfl
theorem Zz21.f_eq (k : Nat) (a0_0 a0_1 : List Int) : Zz21.f k a0_0 a0_1 = (((Zz26.f k a0_0).bind fun t0 => (if t0.2 = 0 then some (decide (t0.1 = (a0_1.length : Int))) else some false)) : Option Bool) := by rw [Zz21.f_def]; kernel_rfl
theorem Zz28.l4_eq (k : Nat) (x2_0 x2_1 x3_0 x4_0 x4_1 x23 : List Int) (x24 x25 : Int) : Zz28.l4 (k + 1) x2_0 x2_1 x3_0 x4_0 x4_1 x23 x24 x25 = ((if x25 < x24 then (if 0 ≤ x25 then (if x25 < (x23.length : Int) then (if 0 ≤ x25 then (if x25 < (x2_0.length : Int) then (if (rd x23 x25) < (rd x2_0 x25) then some (([] : List Int), ([] : List Int), 1) else Zz28.l4 k x2_0 x2_1 x3_0 x4_0 x4_1 x23 x24 (wrap64 (x25 + 1))) else none) else none) else none) else none) else ((Zz26.f k x3_0).bind fun t0 => (if t0.2 = 0 then ((Zz70.f k x3_0).bind fun t1 => (if 0 ≤ t0.1 then (if (t0.1 : Int).toNat ≤ 35184372088832 then ((eachF x2_0 x3_0 x2_1 (List.replicate (t0.1 : Int).toNat (0 : Int))).bind fun t2 => some (t1, t2, 0)) else none) else none)) else some (([] : List Int), ([] : List Int), t0.2)))) : Option (List Int × List Int × Int)) := by rw [← W64_eq]; kernel_rfl
theorem Zz28.f_eq (k : Nat) (a0_0 a0_1 a1 : List Int) : Zz28.f k a0_0 a0_1 a1 = (((Zz21.f k a0_0 a0_1).bind fun t0 => (if (!t0) = true then some (([] : List Int), ([] : List Int), 1) else (if (a1.length : Int) = (a0_0.length : Int) then Zz28.l4 k a0_0 a0_1 a1 ([] : List Int) ([] : List Int) a1 (a1.length : Int) 0 else some (([] : List Int), ([] : List Int), 1)))) : Option (List Int × List Int × Int)) := by rw [Zz28.f_def]; kernel_rfl
theorem Zz107.l10_eq (k : Nat) (x0 : List Int) (x5 x6 : Int) : Zz107.l10 (k + 1) x0 x5 x6 = ((if x6 < (x0.length : Int) then (if 0 ≤ x6 then (if x6 < (x0.length : Int) then (if (rd x0 x6) > 65536 then some (0, 13) else (if 0 ≤ x6 then (if x6 < (x0.length : Int) then (if (wrap64 (x5 * (rd x0 x6))) > 65536 then some (0, 13) else (if 0 ≤ x6 then (if x6 < (x0.length : Int) then Zz107.l10 k x0 (wrap64 (x5 * (rd x0 x6))) (wrap64 (x6 + 1)) else none) else none)) else none) else none)) else none) else none) else some (x5, 0)) : Option (Int × Int)) := by rw [← W64_eq]; kernel_rfl
theorem Zz107.l4_eq (k : Nat) (x0 : List Int) (x4 : Int) : Zz107.l4 (k + 1) x0 x4 = ((if x4 < (x0.length : Int) then (if 0 ≤ x4 then (if x4 < (x0.length : Int) then (if (rd x0 x4) < 1 then some (0, 1) else Zz107.l4 k x0 (wrap64 (x4 + 1))) else none) else none) else Zz107.l10 k x0 1 0) : Option (Int × Int)) := by rw [← W64_eq]; kernel_rfl
theorem Zz107.f_eq (k : Nat) (a0 : List Int) : Zz107.f k a0 = ((if (a0.length : Int) > 8 then some (0, 1) else Zz107.l4 k a0 0) : Option (Int × Int)) := by rw [Zz107.f_def]; kernel_rfl
theorem Zz92.f_eq (k : Nat) (a0_0 a0_1 : List Int) : Zz92.f k a0_0 a0_1 = (((Zz107.f k a0_0).bind fun t0 => (if t0.2 = 0 then some (decide (t0.1 = (a0_1.length : Int))) else some false)) : Option Bool) := by rw [Zz92.f_def]; kernel_rfl
theorem Zz91.l4_eq (k : Nat) (x0 x1 : List Int) (x5 : Int) : Zz91.l4 (k + 1) x0 x1 x5 = ((if x5 < (x0.length : Int) then (if 0 ≤ x5 then (if x5 < (x0.length : Int) then (if 0 ≤ x5 then (if x5 < (x1.length : Int) then (if (rd x0 x5) = (rd x1 x5) then Zz91.l4 k x0 x1 (wrap64 (x5 + 1)) else some false) else none) else none) else none) else none) else some true) : Option Bool) := by rw [← W64_eq]; kernel_rfl
theorem Zz91.f_eq (k : Nat) (a0 a1 : List Int) : Zz91.f k a0 a1 = ((if (a0.length : Int) = (a1.length : Int) then Zz91.l4 k a0 a1 0 else some false) : Option Bool) := by rw [Zz91.f_def]; kernel_rfl
theorem Zz106.l8_eq (k : Nat) (x0 x1 : List Int) (x8 x9 : Int) : Zz106.l8 (k + 1) x0 x1 x8 x9 = ((if x9 < (x0.length : Int) then (if 0 ≤ x9 then (if x9 < (x1.length : Int) then (if (rd x1 x9) < 0 then some (0, 1) else (if 0 ≤ x9 then (if x9 < (x1.length : Int) then (if 0 ≤ x9 then (if x9 < (x0.length : Int) then (if (rd x1 x9) ≥ (rd x0 x9) then some (0, 1) else (if 0 ≤ x9 then (if x9 < (x0.length : Int) then (if 0 ≤ x9 then (if x9 < (x1.length : Int) then Zz106.l8 k x0 x1 (wrap64 ((wrap64 (x8 * (rd x0 x9))) + (rd x1 x9))) (wrap64 (x9 + 1)) else none) else none) else none) else none)) else none) else none) else none) else none)) else none) else none) else some (x8, 0)) : Option (Int × Int)) := by rw [← W64_eq]; kernel_rfl
theorem Zz106.f_eq (k : Nat) (a0 a1 : List Int) : Zz106.f k a0 a1 = (((Zz107.f k a0).bind fun t0 => (if t0.2 = 0 then (if (a1.length : Int) = (a0.length : Int) then Zz106.l8 k a0 a1 0 0 else some (0, 1)) else some (0, t0.2))) : Option (Int × Int)) := by rw [Zz106.f_def]; kernel_rfl
theorem Zz105.l3_eq (k : Nat) (x0 : List Int) (x1 : Int) (x5 : List Int) (x6 : Int) : Zz105.l3 (k + 1) x0 x1 x5 x6 = ((if x6 ≥ 0 then (if 0 ≤ x6 then (if x6 < (x0.length : Int) then (if (rd x0 x6) = 0 then none else (if 0 ≤ x6 then (if x6 < (x5.length : Int) then (if 0 ≤ x6 then (if x6 < (x0.length : Int) then (if (rd x0 x6) = 0 then none else Zz105.l3 k x0 (wrap64 (Int.tdiv x1 (rd x0 x6))) (x5.set (x6 : Int).toNat (Int.tmod x1 (rd x0 x6))) (wrap64 (x6 - 1))) else none) else none) else none) else none)) else none) else none) else some x5) : Option (List Int)) := by rw [← W64_eq]; kernel_rfl
theorem Zz105.f_eq (k : Nat) (a0 : List Int) (a1 : Int) : Zz105.f k a0 a1 = ((if 0 ≤ (a0.length : Int) then (if ((a0.length : Int) : Int).toNat ≤ 35184372088832 then Zz105.l3 k a0 a1 (List.replicate ((a0.length : Int) : Int).toNat (0 : Int)) (wrap64 ((a0.length : Int) - 1)) else none) else none) : Option (List Int)) := by rw [← W64_eq, Zz105.f_def]; kernel_rfl
theorem Zz89.l18_eq (k : Nat) (x1 x2_0 x2_1 x5_0 x5_1 x11 : List Int) (x12 : Int) : Zz89.l18 (k + 1) x1 x2_0 x2_1 x5_0 x5_1 x11 x12 = ((if x12 < (x2_1.length : Int) then ((Zz105.f k x2_0 x12).bind fun t0 => ((Zz106.f k x1 t0).bind fun t1 => (if 0 ≤ x12 then (if x12 < (x2_1.length : Int) then (if 0 ≤ t1.1 then (if t1.1 < (x11.length : Int) then Zz89.l18 k x1 x2_0 x2_1 x5_0 x5_1 (x11.set (t1.1 : Int).toNat (rd x2_1 x12)) (wrap64 (x12 + 1)) else none) else none) else none) else none))) else ((Zz103.f k x5_1 x11).bind fun t0 => (if t0 = true then ((Zz90.f k).bind fun t1 => some t1) else some false))) : Option Bool) := by rw [← W64_eq]; kernel_rfl
theorem Zz89.l6_eq (k : Nat) (x1 x2_0 x2_1 x5_0 x5_1 : List Int) (x6 : Int) (x7 : Bool) (x8 : Int) : Zz89.l6 (k + 1) x1 x2_0 x2_1 x5_0 x5_1 x6 x7 x8 = ((if x8 < (x1.length : Int) then (if x7 = true then (if 0 ≤ x8 then (if x8 < (x1.length : Int) then (if 0 ≤ x8 then (if x8 < (x2_0.length : Int) then Zz89.l6 k x1 x2_0 x2_1 x5_0 x5_1 x6 (decide ((rd x1 x8) ≥ (rd x2_0 x8))) (wrap64 (x8 + 1)) else none) else none) else none) else none) else ((Zz107.f k x1).bind fun t0 => ((Zz92.f k x2_0 x2_1).bind fun t1 => (if (!t1) = true then (if x6 = 1 then (if (x5_0.length : Int) = 0 then (if (x5_1.length : Int) = 0 then ((Zz90.f k).bind fun t2 => some t2) else some false) else some false) else some false) else (if (!x7) = true then (if x6 = 1 then (if (x5_0.length : Int) = 0 then (if (x5_1.length : Int) = 0 then ((Zz90.f k).bind fun t2 => some t2) else some false) else some false) else some false) else (if t0.2 = 0 then (if t0.1 > 5000 then (if t0.2 = 0 then (if t0.2 = 0 then (if x6 = 0 then (if (x5_1.length : Int) = t0.1 then ((Zz90.f k).bind fun t2 => some t2) else some false) else some false) else some false) else (if x6 = t0.2 then (if (x5_1.length : Int) = 0 then ((Zz90.f k).bind fun t2 => some t2) else (if t0.2 = 0 then (if x6 = 0 then (if (x5_1.length : Int) = t0.1 then ((Zz90.f k).bind fun t2 => some t2) else some false) else some false) else some false)) else (if t0.2 = 0 then (if x6 = 0 then (if (x5_1.length : Int) = t0.1 then ((Zz90.f k).bind fun t2 => some t2) else some false) else some false) else some false))) else (if x6 = 0 then ((Zz91.f k x5_0 x1).bind fun t2 => (if (!t2) = true then some false else (if (x5_1.length : Int) = t0.1 then (if 0 ≤ t0.1 then (if (t0.1 : Int).toNat ≤ 35184372088832 then Zz89.l18 k x1 x2_0 x2_1 x5_0 x5_1 (List.replicate (t0.1 : Int).toNat (0 : Int)) 0 else none) else none) else some false))) else some false)) else (if t0.2 = 0 then (if t0.2 = 0 then (if x6 = 0 then (if (x5_1.length : Int) = t0.1 then ((Zz90.f k).bind fun t2 => some t2) else some false) else some false) else some false) else (if x6 = t0.2 then (if (x5_1.length : Int) = 0 then ((Zz90.f k).bind fun t2 => some t2) else (if t0.2 = 0 then (if x6 = 0 then (if (x5_1.length : Int) = t0.1 then ((Zz90.f k).bind fun t2 => some t2) else some false) else some false) else some false)) else (if t0.2 = 0 then (if x6 = 0 then (if (x5_1.length : Int) = t0.1 then ((Zz90.f k).bind fun t2 => some t2) else some false) else some false) else some false))))))))) else ((Zz107.f k x1).bind fun t0 => ((Zz92.f k x2_0 x2_1).bind fun t1 => (if (!t1) = true then (if x6 = 1 then (if (x5_0.length : Int) = 0 then (if (x5_1.length : Int) = 0 then ((Zz90.f k).bind fun t2 => some t2) else some false) else some false) else some false) else (if (!x7) = true then (if x6 = 1 then (if (x5_0.length : Int) = 0 then (if (x5_1.length : Int) = 0 then ((Zz90.f k).bind fun t2 => some t2) else some false) else some false) else some false) else (if t0.2 = 0 then (if t0.1 > 5000 then (if t0.2 = 0 then (if t0.2 = 0 then (if x6 = 0 then (if (x5_1.length : Int) = t0.1 then ((Zz90.f k).bind fun t2 => some t2) else some false) else some false) else some false) else (if x6 = t0.2 then (if (x5_1.length : Int) = 0 then ((Zz90.f k).bind fun t2 => some t2) else (if t0.2 = 0 then (if x6 = 0 then (if (x5_1.length : Int) = t0.1 then ((Zz90.f k).bind fun t2 => some t2) else some false) else some false) else some false)) else (if t0.2 = 0 then (if x6 = 0 then (if (x5_1.length : Int) = t0.1 then ((Zz90.f k).bind fun t2 => some t2) else some false) else some false) else some false))) else (if x6 = 0 then ((Zz91.f k x5_0 x1).bind fun t2 => (if (!t2) = true then some false else (if (x5_1.length : Int) = t0.1 then (if 0 ≤ t0.1 then (if (t0.1 : Int).toNat ≤ 35184372088832 then Zz89.l18 k x1 x2_0 x2_1 x5_0 x5_1 (List.replicate (t0.1 : Int).toNat (0 : Int)) 0 else none) else none) else some false))) else some false)) else (if t0.2 = 0 then (if t0.2 = 0 then (if x6 = 0 then (if (x5_1.length : Int) = t0.1 then ((Zz90.f k).bind fun t2 => some t2) else some false) else some false) else some false) else (if x6 = t0.2 then (if (x5_1.length : Int) = 0 then ((Zz90.f k).bind fun t2 => some t2) else (if t0.2 = 0 then (if x6 = 0 then (if (x5_1.length : Int) = t0.1 then ((Zz90.f k).bind fun t2 => some t2) else some false) else some false) else some false)) else (if t0.2 = 0 then (if x6 = 0 then (if (x5_1.length : Int) = t0.1 then ((Zz90.f k).bind fun t2 => some t2) else some false) else some false) else some false))))))))) : Option Bool) := by rw [← W64_eq]; kernel_rfl
theorem Zz89.f_eq (k : Nat) (a0_0 a0_1 a1 : List Int) : Zz89.f k a0_0 a0_1 a1 = ((if (a0_1.length : Int) > 300 then ((Zz90.f k).bind fun t0 => some t0) else (if (a1.length : Int) > 10 then ((Zz90.f k).bind fun t0 => some t0) else (if (a0_0.length : Int) > 10 then ((Zz90.f k).bind fun t0 => some t0) else ((Zz28.f k a0_0 a0_1 a1).bind fun t0 => Zz89.l6 k a1 a0_0 a0_1 t0.1 t0.2.1 t0.2.2 (decide ((a1.length : Int) = (a0_0.length : Int))) 0)))) : Option Bool) := by rw [Zz89.f_def]; kernel_rfl
theorem Zz24.l6_eq (k : Nat) (x2 : Int) (x3_0 x3_1 x4_0 x4_1 : List Int) (x8_0 x8_1 x8_2 : Int) (x10 : List Int) (x48 x49 : Int) : Zz24.l6 (k + 1) x2 x3_0 x3_1 x4_0 x4_1 x8_0 x8_1 x8_2 x10 x48 x49 = ((if x49 < x48 then (if 0 ≤ x49 then (if x49 < (x3_0.length : Int) then (if 0 ≤ x49 then (if x49 < (x4_0.length : Int) then (if 0 ≤ x49 then (if x49 < (x10.length : Int) then Zz24.l6 k x2 x3_0 x3_1 x4_0 x4_1 x8_0 x8_1 x8_2 (x10.set (x49 : Int).toNat (wrap64 ((wrap64 ((rd x3_0 x49) + (rd x4_0 x49))) - 1))) x48 (wrap64 (x49 + 1)) else none) else none) else none) else none) else none) else none) else ((Zz26.f k x10).bind fun t0 => (if t0.2 = 0 then ((Zz28.f k x3_0 x3_1 x10).bind fun t1 => (if t1.2.2 = 0 then ((Zz28.f k x4_0 x4_1 x10).bind fun t2 => (if t2.2.2 = 0 then ((Zz31.f k x8_0 x8_1 x8_2 t1.2.1).bind fun t3 => ((Zz31.f k x8_0 x8_1 x8_2 t2.2.1).bind fun t4 => ((Zz22.f k t3 t4 x2).bind fun t5 => (if t5.2 = 0 then (if 0 ≤ t0.1 then (if t0.1 ≤ (t5.1.length : Int) then (if 0 ≤ t0.1 then (if t0.1 ≤ t0.1 then some (x10, (t5.1.take (t0.1 : Int).toNat), 0) else none) else none) else none) else none) else some (([] : List Int), ([] : List Int), t5.2))))) else some (([] : List Int), ([] : List Int), t2.2.2))) else some (([] : List Int), ([] : List Int), t1.2.2))) else some (([] : List Int), ([] : List Int), t0.2)))) : Option (List Int × List Int × Int)) := by rw [← W64_eq]; kernel_rfl
theorem Zz24.f_eq (k : Nat) (a0_0 a0_1 a1_0 a1_1 : List Int) (a2 : Int) : Zz24.f k a0_0 a0_1 a1_0 a1_1 a2 = (((Zz114.f k a2).bind fun t0 => (Option.elim t0.1 ((if t0.2 = 0 then ((Zz21.f k a0_0 a0_1).bind fun t1 => (if (!t1) = true then some (([] : List Int), ([] : List Int), 1) else ((Zz21.f k a1_0 a1_1).bind fun t2 => (if (!t2) = true then some (([] : List Int), ([] : List Int), 1) else (if (a0_0.length : Int) = (a1_0.length : Int) then (if 0 ≤ (a0_0.length : Int) then (if ((a0_0.length : Int) : Int).toNat ≤ 35184372088832 then none else none) else none) else some (([] : List Int), ([] : List Int), 1)))))) else some (([] : List Int), ([] : List Int), 1))) fun t1 => (if t0.2 = 0 then ((Zz21.f k a0_0 a0_1).bind fun t2 => (if (!t2) = true then some (([] : List Int), ([] : List Int), 1) else ((Zz21.f k a1_0 a1_1).bind fun t3 => (if (!t3) = true then some (([] : List Int), ([] : List Int), 1) else (if (a0_0.length : Int) = (a1_0.length : Int) then (if 0 ≤ (a0_0.length : Int) then (if ((a0_0.length : Int) : Int).toNat ≤ 35184372088832 then Zz24.l6 k a2 a0_0 a0_1 a1_0 a1_1 t1.1 t1.2.1 t1.2.2.1 (List.replicate ((a0_0.length : Int) : Int).toNat (0 : Int)) ((List.replicate ((a0_0.length : Int) : Int).toNat (0 : Int)).length : Int) 0 else none) else none) else some (([] : List Int), ([] : List Int), 1)))))) else some (([] : List Int), ([] : List Int), 1)))) : Option (List Int × List Int × Int)) := by rw [Zz24.f_def]; kernel_rfl
theorem Zz85.l26_eq (k : Nat) (x2 : Int) (x3_0 x3_1 x4_0 x4_1 x7_0 x7_1 x9 x13 : List Int) (x14 x15 : Int) (x16 x17 : List Int) (x18 : Int) : Zz85.l26 (k + 1) x2 x3_0 x3_1 x4_0 x4_1 x7_0 x7_1 x9 x13 x14 x15 x16 x17 x18 = ((if x18 < (x16.length : Int) then (if 0 ≤ x18 then (if x18 < (x16.length : Int) then (if 0 ≤ x18 then (if x18 < (x17.length : Int) then (if 0 ≤ x18 then (if x18 < (x16.length : Int) then Zz85.l26 k x2 x3_0 x3_1 x4_0 x4_1 x7_0 x7_1 x9 x13 x14 x15 (x16.set (x18 : Int).toNat (wrap64 ((rd x16 x18) + (rd x17 x18)))) x17 (wrap64 (x18 + 1)) else none) else none) else none) else none) else none) else none) else ((Zz106.f k x9 x16).bind fun t0 => (if 0 ≤ t0.1 then (if t0.1 < (x13.length : Int) then (if 0 ≤ x14 then (if x14 < (x3_1.length : Int) then (if 0 ≤ x15 then (if x15 < (x4_1.length : Int) then ((Zz101.f k (rd x3_1 x14) (rd x4_1 x15) x2).bind fun t1 => ((Zz99.f k (rd x13 t0.1) t1 x2).bind fun t2 => (if 0 ≤ t0.1 then (if t0.1 < (x13.length : Int) then Zz85.l21 k x2 x3_0 x3_1 x4_0 x4_1 x7_0 x7_1 x9 (x13.set (t0.1 : Int).toNat t2) x14 (wrap64 (x15 + 1)) else none) else none))) else none) else none) else none) else none) else none) else none))) : Option Bool) := by rw [← W64_eq]; kernel_rfl
theorem Zz85.l21_eq (k : Nat) (x2 : Int) (x3_0 x3_1 x4_0 x4_1 x7_0 x7_1 x9 x13 : List Int) (x14 x15 : Int) : Zz85.l21 (k + 1) x2 x3_0 x3_1 x4_0 x4_1 x7_0 x7_1 x9 x13 x14 x15 = ((if x15 < (x4_1.length : Int) then ((Zz105.f k x3_0 x14).bind fun t0 => ((Zz105.f k x4_0 x15).bind fun t1 => Zz85.l26 k x2 x3_0 x3_1 x4_0 x4_1 x7_0 x7_1 x9 x13 x14 x15 t0 t1 0)) else Zz85.l18 k x2 x3_0 x3_1 x4_0 x4_1 x7_0 x7_1 x9 x13 (wrap64 (x14 + 1))) : Option Bool) := by rw [← W64_eq]; kernel_rfl
theorem Zz85.l18_eq (k : Nat) (x2 : Int) (x3_0 x3_1 x4_0 x4_1 x7_0 x7_1 x9 x13 : List Int) (x14 : Int) : Zz85.l18 (k + 1) x2 x3_0 x3_1 x4_0 x4_1 x7_0 x7_1 x9 x13 x14 = ((if x14 < (x3_1.length : Int) then Zz85.l21 k x2 x3_0 x3_1 x4_0 x4_1 x7_0 x7_1 x9 x13 x14 0 else ((Zz103.f k x7_1 x13).bind fun t0 => (if t0 = true then ((Zz90.f k).bind fun t1 => some t1) else some false))) : Option Bool) := by kernel_rfl
theorem Zz85.l8_eq (k : Nat) (x2 : Int) (x3_0 x3_1 x4_0 x4_1 x7_0 x7_1 : List Int) (x8 : Int) (x9 : List Int) (x10 : Int) : Zz85.l8 (k + 1) x2 x3_0 x3_1 x4_0 x4_1 x7_0 x7_1 x8 x9 x10 = ((if x10 < (x3_0.length : Int) then (if 0 ≤ x10 then (if x10 < (x3_0.length : Int) then (if 0 ≤ x10 then (if x10 < (x4_0.length : Int) then (if (x9.length + ([(wrap64 ((wrap64 ((rd x3_0 x10) + (rd x4_0 x10))) - 1))] : List Int).length) ≤ 17592186044416 then Zz85.l8 k x2 x3_0 x3_1 x4_0 x4_1 x7_0 x7_1 x8 (x9 ++ ([(wrap64 ((wrap64 ((rd x3_0 x10) + (rd x4_0 x10))) - 1))] : List Int)) (wrap64 (x10 + 1)) else none) else none) else none) else none) else none) else ((Zz107.f k x9).bind fun t0 => (if t0.2 = 0 then (if t0.1 > 5000 then (if x8 = t0.2 then ((Zz90.f k).bind fun t1 => some t1) else some false) else (if x8 = 0 then ((Zz91.f k x7_0 x9).bind fun t1 => (if (!t1) = true then some false else (if (x7_1.length : Int) = t0.1 then (if 0 ≤ t0.1 then (if (t0.1 : Int).toNat ≤ 35184372088832 then Zz85.l18 k x2 x3_0 x3_1 x4_0 x4_1 x7_0 x7_1 x9 (List.replicate (t0.1 : Int).toNat (0 : Int)) 0 else none) else none) else some false))) else some false)) else (if x8 = t0.2 then ((Zz90.f k).bind fun t1 => some t1) else some false)))) : Option Bool) := by rw [← W64_eq]; kernel_rfl
theorem Zz85.f_eq (k : Nat) (a0_0 a0_1 a1_0 a1_1 : List Int) (a2 : Int) : Zz85.f k a0_0 a0_1 a1_0 a1_1 a2 = ((if (a0_1.length : Int) > 60 then ((Zz90.f k).bind fun t0 => some t0) else (if (a1_1.length : Int) > 60 then ((Zz90.f k).bind fun t0 => some t0) else (if (a0_0.length : Int) > 10 then ((Zz90.f k).bind fun t0 => some t0) else (if (a1_0.length : Int) > 10 then ((Zz90.f k).bind fun t0 => some t0) else ((Zz24.f k a0_0 a0_1 a1_0 a1_1 a2).bind fun t0 => ((Zz100.f k a2).bind fun t1 => (if (!t1) = true then (if t0.2.2 = 1 then (if (t0.2.1.length : Int) = 0 then ((Zz90.f k).bind fun t2 => some t2) else some false) else some false) else ((Zz92.f k a0_0 a0_1).bind fun t2 => (if (!t2) = true then (if t0.2.2 = 1 then (if (t0.2.1.length : Int) = 0 then ((Zz90.f k).bind fun t3 => some t3) else some false) else some false) else ((Zz92.f k a1_0 a1_1).bind fun t3 => (if (!t3) = true then (if t0.2.2 = 1 then (if (t0.2.1.length : Int) = 0 then ((Zz90.f k).bind fun t4 => some t4) else some false) else some false) else (if (a0_0.length : Int) = (a1_0.length : Int) then Zz85.l8 k a2 a0_0 a0_1 a1_0 a1_1 t0.1 t0.2.1 t0.2.2 ([] : List Int) 0 else (if t0.2.2 = 1 then (if (t0.2.1.length : Int) = 0 then ((Zz90.f k).bind fun t4 => some t4) else some false) else some false))))))))))))) : Option Bool) := by rw [Zz85.f_def]; kernel_rfl
theorem Zz88.l9_eq (k : Nat) (x0 x1 : List Int) (x2 : Int) (x7 x11 : List Int) (x13 : Int) : Zz88.l9 (k + 1) x0 x1 x2 x7 x11 x13 = ((if x13 < (x7.length : Int) then (if 0 ≤ x13 then (if x13 < (x11.length : Int) then ((Zz3.f k (dcB (rd x11 x13)).1 (dcB (rd x11 x13)).2 x2).bind fun t0 => (if t0.2 = 0 then (if 0 ≤ x13 then (if x13 < (x7.length : Int) then (if t0.1 = (rd x7 x13) then Zz88.l9 k x0 x1 x2 x7 x11 (wrap64 (x13 + 1)) else some false) else none) else none) else some false)) else none) else none) else (if (x0.length : Int) = 0 then (if (x7.length : Int) = 0 then ((Zz90.f k).bind fun t0 => some t0) else some false) else (if (x1.length : Int) = 0 then (if (x7.length : Int) = 0 then ((Zz90.f k).bind fun t0 => some t0) else some false) else ((Zz24.f k ([(x0.length : Int)] : List Int) x0 ([(x1.length : Int)] : List Int) x1 x2).bind fun t0 => (if t0.2.2 = 0 then ((Zz103.f k t0.2.1 x7).bind fun t1 => (if t1 = true then ((Zz90.f k).bind fun t2 => some t2) else some false)) else some false))))) : Option Bool) := by rw [← W64_eq]; kernel_rfl
theorem Zz88.f_eq (k : Nat) (a0 a1 : List Int) (a2 : Int) : Zz88.f k a0 a1 a2 = ((if (a0.length : Int) > 100 then ((Zz90.f k).bind fun t0 => some t0) else (if (a1.length : Int) > 100 then ((Zz90.f k).bind fun t0 => some t0) else (if a2 < 2 then ((Zz90.f k).bind fun t0 => some t0) else (if a2 ≥ 9223372036854775808 then ((Zz90.f k).bind fun t0 => some t0) else ((Zz22.f k a0 a1 a2).bind fun t0 => ((Zz22.f k a1 a0 a2).bind fun t1 => ((Zz23.f k a0 a1).bind fun t2 => (if t0.2 = 0 then (if t1.2 = 0 then (if t2.2 = 0 then ((Zz103.f k t0.1 t1.1).bind fun t3 => (if (!t3) = true then some false else (if (t2.1.length : Int) = (t0.1.length : Int) then Zz88.l9 k a0 a1 a2 t0.1 t2.1 0 else some false))) else some false) else some false) else some false)))))))) : Option Bool) := by rw [Zz88.f_def]; exact Eq.trans (b := ((@Decidable.rec ((a0.length : Int) > 100) (fun _ => Option Bool) (fun _ => (@Decidable.rec ((a1.length : Int) > 100) (fun _ => Option Bool) (fun _ => (@Decidable.rec (a2 < 2) (fun _ => Option Bool) (fun _ => (@Decidable.rec (a2 ≥ 9223372036854775808) (fun _ => Option Bool) (fun _ => ((Zz22.f k a0 a1 a2).bind fun t0 => ((Zz22.f k a1 a0 a2).bind fun t1 => ((Zz23.f k a0 a1).bind fun t2 => (if t0.2 = 0 then (if t1.2 = 0 then (if t2.2 = 0 then ((Zz103.f k t0.1 t1.1).bind fun t3 => (if (!t3) = true then some false else (if (t2.1.length : Int) = (t0.1.length : Int) then Zz88.l9 k a0 a1 a2 t0.1 t2.1 0 else some false))) else some false) else some false) else some false))))) (fun _ => ((Zz90.f k).bind fun t0 => some t0)) inferInstance)) (fun _ => ((Zz90.f k).bind fun t0 => some t0)) inferInstance)) (fun _ => ((Zz90.f k).bind fun t0 => some t0)) inferInstance)) (fun _ => ((Zz90.f k).bind fun t0 => some t0)) inferInstance) : Option Bool)) (by kernel_rfl) (by kernel_rfl)
end Go.Proofs.YtkoeddgbhohggaaGreatDoor.F
end
section
namespace Go.Proofs.YtkoeddgbhohggaaGreatDoor.Pure
open Go.RowKit Go.Proofs.YtkoeddgbhohggaaGreatDoor.F Go.Proofs.YtkoeddgbhohggaaGreatDoorW.PrintWords Go.Proofs.YtkoeddgbhohggaaGreatDoorW.PrintLast Go.Proofs.YtkoeddgbhohggaaGreatDoorW.PrintMore
set_option linter.unusedVariables false
set_option linter.unusedSimpArgs false
def U (x : Int) : Prop := 0 ≤ x ∧ x < 18446744073709551616
def WF (l : List Int) : Prop := ∀ x ∈ l, U x
theorem U_of_wf {x : Int} (h : (Lit.int .u64 x).wf = true) : U x := by
 simp [Lit.wf, IntKind.min, IntKind.max, IntKind.signed, IntKind.bits] at h
 exact ⟨by omega, by omega⟩
theorem wu (x : Int) : IntKind.u64.wrap x = x % 18446744073709551616 := by rw [IntKind.wrap_u64]
theorem wu_of {x : Int} (h : U x) : IntKind.u64.wrap x = x := by have := h.1; have := h.2; rw [wu]; omega
theorem w64_of {x : Int} (h0 : -9223372036854775808 ≤ x) (h1 : x ≤ 9223372036854775807) : wrap64 x = x := by unfold wrap64; omega
theorem w64_nat {a : Nat} (h : a ≤ 1099511627780) : wrap64 (a : Int) = (a : Int) := w64_of (by omega) (by omega)
theorem w64_add {a b : Nat} (h : a + b ≤ 1099511627780) : wrap64 ((a : Int) + (b : Int)) = ((a + b : Nat) : Int) := by rw [w64_of (by omega) (by omega)]; omega
theorem w64_succ {a : Nat} (h : a ≤ 1099511627779) : wrap64 ((a : Int) + 1) = ((a + 1 : Nat) : Int) := by rw [w64_of (by omega) (by omega)]; omega
theorem w64_pred {a : Nat} (h : a ≤ 1099511627779) : wrap64 (((a + 1 : Nat) : Int) - 1) = (a : Int) := by rw [w64_of (by omega) (by omega)]; omega
theorem w64_dec {a : Nat} (h : a ≤ 1099511627779) : wrap64 ((a : Int) - 1) = (a : Int) - 1 := w64_of (by omega) (by omega)
def nv : List Int → Nat
 | [] => 0
 | x :: xs => x.toNat + 18446744073709551616 * nv xs
theorem WF.nil : WF [] := fun x hx => by cases hx
theorem WF.head {x : Int} {l : List Int} (h : WF (x :: l)) : U x := h x (by simp)
theorem WF.tail {x : Int} {l : List Int} (h : WF (x :: l)) : WF l := fun y hy => h y (by simp [hy])
theorem WF.cons {x : Int} {l : List Int} (hx : U x) (h : WF l) : WF (x :: l) := fun y hy => by
 rcases List.mem_cons.1 hy with rfl | hy
 ·exact hx
 ·exact h y hy
theorem WF.append {a b : List Int} (ha : WF a) (hb : WF b) : WF (a ++ b) := fun x hx => by
 rcases List.mem_append.1 hx with h | h
 ·exact ha x h
 ·exact hb x h
theorem WF.take {l : List Int} (h : WF l) (n : Nat) : WF (l.take n) := fun x hx => h x (List.mem_of_mem_take hx)
theorem WF.drop {l : List Int} (h : WF l) (n : Nat) : WF (l.drop n) := fun x hx => h x (List.mem_of_mem_drop hx)
theorem WF.set {l : List Int} (h : WF l) (n : Nat) {v : Int} (hv : U v) : WF (l.set n v) := fun x hx => by
 rcases List.mem_or_eq_of_mem_set hx with hx | rfl
 ·exact h x hx
 ·exact hv
theorem WF.zeros (n : Nat) : WF (List.replicate n 0) := fun x hx => by
 have := List.eq_of_mem_replicate hx
 subst this
 exact ⟨by omega, by omega⟩
theorem rd_of {l : List Int} {i : Int} {n : Nat} (hn : i = n) (h : n < l.length) : rd l i = l[n] := by
 subst hn
 simp [rd, List.getD_eq_getElem?_getD, h]
theorem WF.get {l : List Int} (h : WF l) {n : Nat} (hn : n < l.length) : U l[n] := h _ (List.getElem_mem hn)
theorem WF.rdU {l : List Int} (h : WF l) (i : Int) : U (rd l i) := by
 by_cases hi : i.toNat < l.length
 ·have e : rd l i = l[i.toNat] := by simp [rd, List.getD_eq_getElem?_getD, hi]
  rw [e]; exact h.get hi
 ·have e : rd l i = 0 := by simp [rd, List.getD_eq_getElem?_getD, List.getElem?_eq_none (Nat.le_of_not_lt hi)]
  rw [e]; exact ⟨by omega, by omega⟩
theorem nv_append (a b : List Int) : nv (a ++ b) = nv a + 18446744073709551616 ^ a.length * nv b := by
 induction a with
 | nil => simp [nv]
 | cons x xs ih => simp only [List.cons_append, nv, ih, List.length_cons, Nat.pow_succ]; grind
theorem nv_zeros (n : Nat) : nv (List.replicate n 0) = 0 := by
 induction n with
 | zero => rfl
 | succ n ih => simp [List.replicate_succ, nv, ih]
theorem nv_lt {l : List Int} (h : WF l) : nv l < 18446744073709551616 ^ l.length := by
 induction l with
 | nil => simp [nv]
 | cons x xs ih =>
  have h1 := ih h.tail
  have h2 := h.head
  have := h2.1; have := h2.2
  simp only [nv, List.length_cons, Nat.pow_succ]
  have h3 : nv xs + 1 ≤ 18446744073709551616 ^ xs.length := h1
  have h4 := Nat.mul_le_mul_left 18446744073709551616 h3
  rw [Nat.mul_comm (18446744073709551616 ^ xs.length)]
  omega
theorem nv_set (l : List Int) (n : Nat) (v : Int) (hn : n < l.length) : nv (l.set n v) + l[n].toNat * 18446744073709551616 ^ n = nv l + v.toNat * 18446744073709551616 ^ n := by
 induction l generalizing n with
 | nil => simp at hn
 | cons x xs ih =>
  cases n with
  | zero => simp [nv]; omega
  | succ n =>
   have h1 := ih n (by simpa using hn)
   simp only [List.set_cons_succ, nv, List.getElem_cons_succ, Nat.pow_succ]
   grind
theorem nv_split (l : List Int) (n : Nat) (hn : n ≤ l.length) : nv l = nv (l.take n) + 18446744073709551616 ^ n * nv (l.drop n) := by
 have := nv_append (l.take n) (l.drop n)
 rw [List.take_append_drop, List.length_take, Nat.min_eq_left hn] at this
 exact this
theorem nv_take_succ (l : List Int) (n : Nat) (hn : n < l.length) : nv (l.take (n + 1)) = nv (l.take n) + 18446744073709551616 ^ n * l[n].toNat := by
 rw [List.take_succ_eq_append_getElem hn, nv_append, List.length_take, Nat.min_eq_left (by omega)]
 simp [nv]
theorem nv_drop (l : List Int) (n : Nat) (hn : n < l.length) : nv (l.drop n) = l[n].toNat + 18446744073709551616 * nv (l.drop (n + 1)) := by
 rw [List.drop_eq_getElem_cons hn]; rfl
def limbs (n : Nat) : List Int := if h : n = 0 then [] else ((n % 18446744073709551616 : Nat) : Int) :: limbs (n / 18446744073709551616)
termination_by n
decreasing_by omega
theorem limbs_zero : limbs 0 = [] := by rw [limbs]; simp
theorem limbs_pos {n : Nat} (h : n ≠ 0) : limbs n = ((n % 18446744073709551616 : Nat) : Int) :: limbs (n / 18446744073709551616) := by rw [limbs]; simp [h]
theorem nv_limbs (n : Nat) : nv (limbs n) = n := by
 induction n using Nat.strongRecOn with
 | _ n ih =>
  by_cases h : n = 0
  ·subst h; rw [limbs_zero]; rfl
  ·rw [limbs_pos h, nv, ih (n / 18446744073709551616) (by omega)]; omega
theorem limbs_WF (n : Nat) : WF (limbs n) := by
 induction n using Nat.strongRecOn with
 | _ n ih =>
  by_cases h : n = 0
  ·subst h; rw [limbs_zero]; exact WF.nil
  ·rw [limbs_pos h]; exact WF.cons ⟨by omega, by omega⟩ (ih _ (by omega))
def Nz (l : List Int) : Prop := ∀ h : l ≠ [], l.getLast h ≠ 0
theorem Nz.nil : Nz [] := fun h => absurd rfl h
theorem nv_pos_of_Nz {l : List Int} (hw : WF l) (hz : Nz l) (hl : l ≠ []) : 0 < nv l := by
 induction l with
 | nil => exact absurd rfl hl
 | cons x xs ih =>
  simp only [nv]
  by_cases hx : xs = []
  ·subst hx
   have h1 := hz hl
   simp at h1
   have := hw.head.1
   omega
  ·have h1 := ih hw.tail (fun h => by have := hz (by simp); rwa [List.getLast_cons h] at this) hx
   omega
theorem limbs_of {l : List Int} (hw : WF l) (hz : Nz l) : l = limbs (nv l) := by
 induction l with
 | nil => rw [nv, limbs_zero]
 | cons x xs ih =>
  have hx := hw.head
  have := hx.1; have := hx.2
  have hp := nv_pos_of_Nz hw hz (by simp)
  have hz' : Nz xs := fun h => by have := hz (by simp); rwa [List.getLast_cons h] at this
  rw [limbs_pos (by omega)]
  simp only [nv]
  have e1 : (x.toNat + 18446744073709551616 * nv xs) % 18446744073709551616 = x.toNat := by omega
  have e2 : (x.toNat + 18446744073709551616 * nv xs) / 18446744073709551616 = nv xs := by omega
  rw [e1, e2, ← ih hw.tail hz', Int.toNat_of_nonneg hx.1]
theorem limbs_Nz (n : Nat) : Nz (limbs n) := by
 induction n using Nat.strongRecOn with
 | _ n ih =>
  by_cases h : n = 0
  ·subst h; rw [limbs_zero]; exact Nz.nil
  ·intro hne
   have e := limbs_pos h
   by_cases h2 : n / 18446744073709551616 = 0
   ·have : limbs n = [((n % 18446744073709551616 : Nat) : Int)] := by rw [e, h2, limbs_zero]
    simp only [this, List.getLast_singleton]
    omega
   ·have h3 : limbs (n / 18446744073709551616) ≠ [] := by rw [limbs_pos h2]; simp
    have h4 := ih _ (by omega) h3
    have : (limbs n).getLast hne = (limbs (n / 18446744073709551616)).getLast h3 := by simp only [e]; rw [List.getLast_cons h3]
    rw [this]; exact h4
theorem limbs_length_le {n m : Nat} (h : n < 18446744073709551616 ^ m) : (limbs n).length ≤ m := by
 induction m generalizing n with
 | zero =>
  have : n = 0 := by simpa using h
  subst this; rw [limbs_zero]; simp
 | succ m ih =>
  by_cases h0 : n = 0
  ·subst h0; rw [limbs_zero]; simp
  ·rw [limbs_pos h0]
   have : n / 18446744073709551616 < 18446744073709551616 ^ m := by
    rw [Nat.pow_succ] at h
    exact Nat.div_lt_of_lt_mul (by rw [Nat.mul_comm]; exact h)
   have := ih this
   simp; omega
theorem limbs_length_pos {n : Nat} (h : n ≠ 0) : 0 < (limbs n).length := by rw [limbs_pos h]; simp
theorem lt_pow_limbs (n : Nat) : n < 18446744073709551616 ^ (limbs n).length := by have := nv_lt (limbs_WF n); rwa [nv_limbs] at this
theorem limbs_length_mono {a b : Nat} (h : a ≤ b) : (limbs a).length ≤ (limbs b).length := limbs_length_le (Nat.lt_of_le_of_lt h (lt_pow_limbs b))
theorem limbs_take_last {n : Nat} (h : n ≠ 0) : ∃ (t : List Int) (x : Int), limbs n = t ++ [x] ∧ WF t ∧ U x ∧ x ≠ 0 := by
 have hne : limbs n ≠ [] := by rw [limbs_pos h]; simp
 refine ⟨(limbs n).dropLast, (limbs n).getLast hne, (List.dropLast_concat_getLast hne).symm, fun y hy => limbs_WF n y (List.dropLast_subset _ hy), limbs_WF n _ (List.getLast_mem hne), limbs_Nz n hne⟩
def bits (n : Nat) : Nat := if n = 0 then 0 else Nat.log2 n + 1
theorem lt_bits (n : Nat) : n < 2 ^ bits n := by
 unfold bits
 by_cases h : n = 0
 ·subst h; decide
 ·rw [if_neg h]; exact Nat.lt_log2_self
theorem le_bits {n i : Nat} (h : 2 ^ i ≤ n) : i < bits n := by
 have h0 : n ≠ 0 := by have := Nat.pow_pos (n := i) (show 0 < 2 by decide); omega
 unfold bits
 rw [if_neg h0]
 exact Nat.lt_succ_of_le ((Nat.le_log2 h0).2 h)
theorem bits_unique {n i : Nat} (h1 : n < 2 ^ i) (h2 : i = 0 ∨ 2 ^ (i - 1) ≤ n) : bits n = i := by
 have h3 : bits n ≤ i := Nat.le_of_not_lt fun h => by
  have h4 : i ≤ bits n - 1 := by omega
  have h5 : bits n ≠ 0 := by omega
  have h6 : 2 ^ (bits n - 1) ≤ n := by
   unfold bits at h5 ⊢
   by_cases h0 : n = 0
   ·rw [if_pos h0] at h5; exact absurd rfl h5
   ·rw [if_neg h0]; exact Nat.log2_self_le h0
  have := Nat.pow_le_pow_right (n := 2) (by decide) h4
  omega
 rcases h2 with h2 | h2
 ·omega
 ·have := le_bits h2; omega
theorem bits_le {n : Nat} (h : bits n ≠ 0) : 2 ^ (bits n - 1) ≤ n := by
 unfold bits at h ⊢
 by_cases h0 : n = 0
 ·rw [if_pos h0] at h; exact absurd rfl h
 ·rw [if_neg h0]; exact Nat.log2_self_le h0
theorem bits_shift {x s : Nat} (h : 2 ^ s ≤ x) : bits x = s + bits (x / 2 ^ s) := by
 have hp : 0 < 2 ^ s := Nat.pow_pos (by decide)
 have h0 : 1 ≤ x / 2 ^ s := (Nat.le_div_iff_mul_le hp).2 (by omega)
 have hb : bits (x / 2 ^ s) ≠ 0 := by unfold bits; rw [if_neg (by omega)]; omega
 apply bits_unique
 ·rw [Nat.pow_add]
  have h1 := lt_bits (x / 2 ^ s)
  rw [Nat.mul_comm]
  exact (Nat.div_lt_iff_lt_mul hp).1 h1
 ·refine .inr ?_
  have e : s + bits (x / 2 ^ s) - 1 = s + (bits (x / 2 ^ s) - 1) := by omega
  rw [e, Nat.pow_add, Nat.mul_comm]
  exact (Nat.le_div_iff_mul_le hp).1 (bits_le hb)
theorem bitLen_aux : ∀ (f x : Nat), x < 2 ^ f → Lib.bitLenAux f x = bits x
 | 0, x, h => by
  have : x = 0 := by simpa using h
  subst this; rfl
 | f + 1, x, h => by
  unfold Lib.bitLenAux
  by_cases h0 : x = 0
  ·subst h0; rfl
  ·rw [if_neg h0, bitLen_aux f (x / 2) (by rw [Nat.pow_succ] at h; omega)]
   by_cases h1 : x = 1
   ·subst h1; rfl
   ·have := bits_shift (x := x) (s := 1) (by omega)
    rw [this]
theorem bitLen_eq {x : Nat} (h : x < 18446744073709551616) : Lib.bitLen x = bits x := bitLen_aux 64 x h
theorem len64_ev {a : Nat} (ha : a < 18446744073709551616) : Ev (fun k => Zz17.f k (a : Int)) (bits a : Int) := by
 refine Ev.congr (fun k => ?_) (Ev.now _)
 unfold Zz17.f
 rw [if_pos (isW_nat ha), Int.toNat_natCast, bitLen_eq ha]
theorem bits_le64 {a : Nat} (ha : a < 18446744073709551616) : bits a ≤ 64 := Nat.le_of_not_lt fun h => by
 have h1 := bits_le (show bits a ≠ 0 by omega)
 have h2 : 2 ^ 64 ≤ 2 ^ (bits a - 1) := Nat.pow_le_pow_right (by decide) (by omega)
 omega
theorem lz64_ev {a : Nat} (ha : a < 18446744073709551616) : Ev (fun k => Zz14.f k (a : Int)) ((64 - bits a : Nat) : Int) := by
 have h := bits_le64 ha
 refine Ev.congr (fun k => ?_) (Ev.now _)
 unfold Zz14.f
 rw [if_pos (isW_nat ha), Int.toNat_natCast, bitLen_eq ha]
 congr 1
 omega
theorem maskN (a : Nat) (ha : a < 18446744073709551616) : Go.bits .and .u64 (a : Int) 4294967295 = ((a % 4294967296 : Nat) : Int) := by
 have h := bits_and_u64_nat a 4294967295 ha (by omega)
 have e : a &&& 4294967295 = a % 4294967296 := Nat.and_two_pow_sub_one_eq_mod a 32
 rw [e] at h
 exact h
theorem mulN (a b : Nat) : (a : Int) * (b : Int) = ((a * b : Nat) : Int) := (Int.natCast_mul a b).symm
theorem addN (a b : Nat) : (a : Int) + (b : Int) = ((a + b : Nat) : Int) := (Int.natCast_add a b).symm
theorem wrapN (a : Nat) (ha : a < 18446744073709551616) : IntKind.u64.wrap (a : Int) = (a : Int) := by rw [wu]; omega
theorem mul64_f (k : Nat) {x y : Nat} (hx : x < 18446744073709551616) (hy : y < 18446744073709551616) : Zz18.f k (x : Int) (y : Int) = some (((x * y / 18446744073709551616 : Nat) : Int), ((x * y % 18446744073709551616 : Nat) : Int)) := by
 unfold Zz18.f
 rw [isW_nat hx, isW_nat hy]
 simp only [Bool.and_self, if_true, Int.toNat_natCast]
theorem mul64_ev {x y : Nat} (hx : x < 18446744073709551616) (hy : y < 18446744073709551616) : Ev (fun k => Zz18.f k (x : Int) (y : Int)) (((x * y / 18446744073709551616 : Nat) : Int), ((x * y % 18446744073709551616 : Nat) : Int)) := ⟨0, fun k _ => mul64_f k hx hy⟩
structure Half (V p o u d t r : Nat) : Prop where
 hV : V = p * 4294967296 + o
 hp : 2147483648 ≤ p
 hp2 : p < 4294967296
 ho : o < 4294967296
 hu : u < V
 hd : d < 4294967296
 inv : t * p + r = u
 le : (u * 4294967296 + d) / V ≤ t
 top : t ≤ 4294967297
theorem half_mul {V p o u d t r : Nat} (h : Half V p o u d t r) : t * V = (u - r) * 4294967296 + t * o ∧ r ≤ u := by
 have h1 := h.inv
 have e : t * V = t * p * 4294967296 + t * o := by rw [h.hV, Nat.mul_add, Nat.mul_assoc]
 rw [e]
 generalize t * p = m at *
 constructor
 ·have : m = u - r := by omega
  rw [this]
 ·omega
theorem half_over {V p o u d t r : Nat} (h : Half V p o u d t r) (c : 4294967296 * r + d < t * o) : (u * 4294967296 + d) / V < t := by
 obtain ⟨e, hr⟩ := half_mul h
 have hV : 0 < V := Nat.lt_of_le_of_lt (Nat.zero_le _) h.hu
 rw [Nat.div_lt_iff_lt_mul hV, e]
 generalize t * o = m at *
 clear e h
 omega
theorem half_fit {V p o u d t r : Nat} (h : Half V p o u d t r) (c : t * o ≤ 4294967296 * r + d) : (u * 4294967296 + d) / V = t := by
 obtain ⟨e, hr⟩ := half_mul h
 have hV : 0 < V := Nat.lt_of_le_of_lt (Nat.zero_le _) h.hu
 apply Nat.le_antisymm h.le
 rw [Nat.le_div_iff_mul_le hV, e]
 generalize t * o = m at *
 clear e h
 omega
theorem half_lt {V u d : Nat} (hu : u < V) (hd : d < 4294967296) : (u * 4294967296 + d) / V < 4294967296 := by
 rw [Nat.div_lt_iff_lt_mul (Nat.lt_of_le_of_lt (Nat.zero_le _) hu)]
 omega
theorem half_next {V p o u d t r : Nat} (h : Half V p o u d t r) (c : 4294967296 ≤ t ∨ 4294967296 * r + d < t * o) : ∃ t', t = t' + 1 ∧ Half V p o u d t' (r + p) ∧ t' ≤ 4294967296 := by
 have hlt : (u * 4294967296 + d) / V < t := by
  rcases c with c | c
  ·exact Nat.lt_of_lt_of_le (half_lt h.hu h.hd) c
  ·exact half_over h c
 obtain ⟨t', rfl⟩ : ∃ m, t = m + 1 := ⟨t - 1, by have := Nat.lt_of_le_of_lt (Nat.zero_le _) hlt; clear hlt c; omega⟩
 have h1 := h.inv
 have h2 := h.top
 rw [Nat.add_mul, Nat.one_mul] at h1
 exact ⟨t', rfl, ⟨h.hV, h.hp, h.hp2, h.ho, h.hu, h.hd, by clear hlt c; omega, Nat.le_of_lt_succ hlt, by clear hlt c; omega⟩, by clear hlt c; omega⟩
theorem half_big {V p o u d t r : Nat} (h : Half V p o u d t r) (ht : t ≤ 4294967296) (hr : 4294967296 ≤ r) : (u * 4294967296 + d) / V = t := by
 apply half_fit h
 have h1 : t * o ≤ 4294967296 * 4294967295 := Nat.mul_le_mul ht (by have := h.ho; omega)
 generalize t * o = m at *
 clear h
 omega
theorem half_first {V p o u d : Nat} (hV : V = p * 4294967296 + o) (hp : 2147483648 ≤ p) (hp2 : p < 4294967296) (ho : o < 4294967296) (hu : u < V) (hd : d < 4294967296) : Half V p o u d (u / p) (u % p) := by
 have hp0 : 0 < p := by omega
 have e := Nat.div_add_mod u p
 have hm := Nat.mod_lt u hp0
 refine ⟨hV, hp, hp2, ho, hu, hd, by rw [Nat.mul_comm]; exact e, ?_, ?_⟩
 ·have hVp : p * 4294967296 ≤ V := by omega
  refine Nat.le_of_lt_succ ((Nat.div_lt_iff_lt_mul (by omega)).2 ?_)
  have h1 : (u / p + 1) * (p * 4294967296) ≤ (u / p + 1) * V := Nat.mul_le_mul_left _ hVp
  refine Nat.lt_of_lt_of_le ?_ h1
  have h2 : (u / p + 1) * (p * 4294967296) = (p * (u / p) + p) * 4294967296 := by grind
  rw [h2]
  generalize p * (u / p) = m at *
  clear h1 h2 hVp
  omega
 ·refine Nat.le_of_lt_succ ((Nat.div_lt_iff_lt_mul hp0).2 ?_)
  clear e hm
  omega
theorem half_word {V p o u d t r : Nat} (h : Half V p o u d t r) (hr : r < 4294967296) : t * o < 18446744073709551616 ∧ 4294967296 * r + d < 18446744073709551616 := by
 have h1 : t * o ≤ 4294967297 * 4294967295 := Nat.mul_le_mul h.top (by have := h.ho; omega)
 have := h.hd
 constructor
 ·generalize t * o = m at *
  clear h
  omega
 ·clear h h1
  omega
theorem wrap_lt {t p r o d : Nat} (h1 : t * o < 18446744073709551616) (h2 : 4294967296 * r + d < 18446744073709551616) :
  IntKind.u64.wrap ((t : Int) * (o : Int)) = ((t * o : Nat) : Int) ∧ IntKind.u64.wrap ((IntKind.u64.wrap (4294967296 * (r : Int))) + (d : Int)) = ((4294967296 * r + d : Nat) : Int) := by
 constructor
 ·rw [mulN, wrapN _ h1]
 ·have e : (4294967296 : Int) * (r : Int) = ((4294967296 * r : Nat) : Int) := by omega
  rw [e, wrapN _ (by omega), addN, wrapN _ h2]
theorem wrap_dec {t' : Nat} (h : t' ≤ 4294967296) : IntKind.u64.wrap (((t' + 1 : Nat) : Int) - 1) = (t' : Int) := by
 have e : ((t' + 1 : Nat) : Int) - 1 = (t' : Int) := by omega
 rw [e, wrapN _ (by omega)]
theorem wrap_inc {r p : Nat} (h : r < 4294967296) (h2 : p < 4294967296) : IntKind.u64.wrap ((r : Int) + (p : Int)) = ((r + p : Nat) : Int) := by
 rw [addN, wrapN _ (by omega)]
theorem d64_l24 {V s p o u d q1 : Nat} (R : Int × Int) (hR : R = (IntKind.u64.wrap ((IntKind.u64.wrap ((q1 : Int) * 4294967296)) + (((u * 4294967296 + d) / V : Nat) : Int)), shr .u64 (IntKind.u64.wrap ((IntKind.u64.wrap ((IntKind.u64.wrap ((u : Int) * 4294967296)) + (d : Int))) - (IntKind.u64.wrap ((((u * 4294967296 + d) / V : Nat) : Int) * (V : Int))))) (s : Int))) :
  ∀ (n t r : Nat), 4294967296 - r ≤ n → r < 4294967296 → Half V p o u d t r → Ev (fun k => Zz13.l24 k (V : Int) (s : Int) (p : Int) (o : Int) (d : Int) (q1 : Int) (r : Int) (u : Int) (t : Int)) R := by
 intro n
 induction n with
 | zero => intro t r hn hr; omega
 | succ n ih =>
  intro t r hn hr h
  obtain ⟨w1, w2⟩ := half_word h hr
  obtain ⟨e1, e2⟩ := wrap_lt (p := p) w1 w2
  have down : (4294967296 ≤ t ∨ 4294967296 * r + d < t * o) → Ev (fun k => (if (IntKind.u64.wrap ((r : Int) + (p : Int))) ≥ 4294967296 then (if 0 ≤ (s : Int) then some ((IntKind.u64.wrap ((IntKind.u64.wrap ((q1 : Int) * 4294967296)) + (IntKind.u64.wrap ((t : Int) - 1)))), (shr .u64 (IntKind.u64.wrap ((IntKind.u64.wrap ((IntKind.u64.wrap ((u : Int) * 4294967296)) + (d : Int))) - (IntKind.u64.wrap ((IntKind.u64.wrap ((t : Int) - 1)) * (V : Int))))) (s : Int))) else none) else Zz13.l24 k (V : Int) (s : Int) (p : Int) (o : Int) (d : Int) (q1 : Int) (IntKind.u64.wrap ((r : Int) + (p : Int))) (u : Int) (IntKind.u64.wrap ((t : Int) - 1)))) R := fun c => by
   obtain ⟨t', rfl, h', ht'⟩ := half_next h c
   have e3 := wrap_dec ht'
   have e4 := wrap_inc hr h.hp2
   have hp := h.hp
   by_cases hb : r + p ≥ 4294967296
   ·rw [half_big h' ht' hb] at hR
    refine Ev.congr (fun k => ?_) (Ev.now R)
    rw [e4, if_pos (by clear e1 e2 e3 e4 hR; omega), if_pos (Int.natCast_nonneg s), e3, hR]
   ·refine Ev.congr (fun k => ?_) (ih t' (r + p) (by clear e1 e2 e3 e4 hR; omega) (by clear e1 e2 e3 e4 hR; omega) h')
    rw [e4, if_neg (by clear e1 e2 e3 e4 hR; omega), e3]
  by_cases c1 : 4294967296 ≤ t
  ·exact Ev.step (fun k => (Zz13.l24_eq ..).trans (if_pos (Int.ofNat_le.2 c1))) (down (.inl c1))
  ·have c1' : ¬ ((t : Int) ≥ 4294967296) := by clear e1 e2 hR; omega
   by_cases c2 : 4294967296 * r + d < t * o
   ·exact Ev.step (fun k => (Zz13.l24_eq ..).trans ((if_neg c1').trans (if_pos (by rw [e1, e2]; exact Int.ofNat_lt.2 c2)))) (down (.inr c2))
   ·rw [half_fit h (Nat.le_of_not_lt c2)] at hR
    refine Ev.step (f := fun k => some R) (fun k => (Zz13.l24_eq ..).trans ((if_neg c1').trans ((if_neg ?_).trans ((if_pos (Int.natCast_nonneg s)).trans ?_)))) (Ev.now _)
    ·rw [e1, e2]; exact fun h3 => c2 (Int.ofNat_lt.1 h3)
    ·rw [hR]
theorem shl_nat (a : Nat) {s : Nat} (hs : s ≤ 64) : shl .u64 (a : Int) (s : Int) = ((a * 2 ^ s % 18446744073709551616 : Nat) : Int) := by
 unfold shl
 have e : min ((s : Int).toNat) (IntKind.bits .u64) = s := by rw [Int.toNat_natCast]; exact Nat.min_eq_left hs
 rw [e, wu]
 have e2 : (a : Int) * 2 ^ s = ((a * 2 ^ s : Nat) : Int) := by simp
 rw [e2]; rfl
theorem shr_nat (a : Nat) {s : Nat} (hs : s ≤ 64) : shr .u64 (a : Int) (s : Int) = ((a / 2 ^ s : Nat) : Int) := by
 unfold shr
 have e : min ((s : Int).toNat) (IntKind.bits .u64) = s := by rw [Int.toNat_natCast]; exact Nat.min_eq_left hs
 rw [e]
 have e2 : (2 : Int) ^ s = ((2 ^ s : Nat) : Int) := by simp
 rw [e2]; rfl
theorem shr32 (a : Nat) : shr .u64 (a : Int) 32 = ((a / 4294967296 : Nat) : Int) := shr_nat a (s := 32) (by decide)
theorem or_add {a b s : Nat} (hb : b < 2 ^ s) (h : a * 2 ^ s + b < 18446744073709551616) : Go.bits .or .u64 ((a * 2 ^ s : Nat) : Int) (b : Int) = ((a * 2 ^ s + b : Nat) : Int) := by
 rw [bits_or_u64_nat _ _ (by omega) (by omega), Nat.mul_comm a, Nat.two_pow_add_eq_or_of_lt hb]
theorem shift_split {lo s : Nat} (hs : s ≤ 64) : lo * 2 ^ s = lo / 2 ^ (64 - s) * 18446744073709551616 + lo * 2 ^ s % 18446744073709551616 := by
 have e : (18446744073709551616 : Nat) = 2 ^ (64 - s) * 2 ^ s := by rw [← Nat.pow_add, Nat.sub_add_cancel hs]
 have h := Nat.div_add_mod (lo * 2 ^ s) 18446744073709551616
 have h2 : lo * 2 ^ s / 18446744073709551616 = lo / 2 ^ (64 - s) := by
  rw [e, Nat.mul_div_mul_right _ _ (Nat.pow_pos (by decide))]
 rw [h2] at h
 rw [Nat.mul_comm (lo / 2 ^ (64 - s))]
 exact h.symm
theorem norm_y {y : Nat} (h0 : 0 < y) (h : y < 18446744073709551616) : 9223372036854775808 ≤ y * 2 ^ (64 - bits y) ∧ y * 2 ^ (64 - bits y) < 18446744073709551616 ∧ 64 - bits y ≤ 63 := by
 have hb := bits_le64 h
 have h1 := lt_bits y
 have hb0 : bits y ≠ 0 := by unfold bits; rw [if_neg (by omega)]; omega
 have h2 := bits_le hb0
 have e1 : (18446744073709551616 : Nat) = 2 ^ bits y * 2 ^ (64 - bits y) := by rw [← Nat.pow_add, Nat.add_sub_cancel' hb]
 have e2 : (9223372036854775808 : Nat) = 2 ^ (bits y - 1) * 2 ^ (64 - bits y) := by
  rw [← Nat.pow_add, show bits y - 1 + (64 - bits y) = 63 by omega]
 have hp : 0 < 2 ^ (64 - bits y) := Nat.pow_pos (by decide)
 refine ⟨?_, ?_, by omega⟩
 ·rw [e2]; exact Nat.mul_le_mul_right _ h2
 ·rw [e1]; exact Nat.mul_lt_mul_of_pos_right h1 hp
theorem wrap3 (a c e : Int) : IntKind.u64.wrap ((IntKind.u64.wrap ((IntKind.u64.wrap a) + c)) - (IntKind.u64.wrap e)) = (a + c - e) % 18446744073709551616 := by
 rw [wu, wu, wu, wu]; omega
theorem wrap_rest {u V d : Nat} (hV : V ≤ 18446744073709551616) (hu : u < V) : IntKind.u64.wrap ((IntKind.u64.wrap ((IntKind.u64.wrap ((u : Int) * 4294967296)) + (d : Int))) - (IntKind.u64.wrap ((((u * 4294967296 + d) / V : Nat) : Int) * (V : Int)))) = (((u * 4294967296 + d) % V : Nat) : Int) := by
 rw [wrap3]
 have h := Nat.div_add_mod (u * 4294967296 + d) V
 have hm := Nat.mod_lt (u * 4294967296 + d) (show 0 < V by omega)
 have e : (((u * 4294967296 + d) / V : Nat) : Int) * (V : Int) = ((V * ((u * 4294967296 + d) / V) : Nat) : Int) := by rw [mulN, Nat.mul_comm]
 rw [e]
 generalize V * ((u * 4294967296 + d) / V) = m at *
 generalize (u * 4294967296 + d) % V = r at *
 clear e
 omega
theorem wrap_mod {u p : Nat} (hu : u < 18446744073709551616) : IntKind.u64.wrap ((u : Int) - (IntKind.u64.wrap (((u / p : Nat) : Int) * (p : Int)))) = ((u % p : Nat) : Int) := by
 have h := Nat.div_add_mod u p
 rw [mulN, Nat.mul_comm]
 rw [wu, wu]
 generalize p * (u / p) = m at *
 generalize u % p = r at *
 omega
theorem tdivN (a b : Nat) : Int.tdiv (a : Int) (b : Int) = ((a / b : Nat) : Int) := rfl
theorem tmodN (a b : Nat) : Int.tmod (a : Int) (b : Int) = ((a % b : Nat) : Int) := rfl
theorem join_core {V u un q1 u2 q0 r M2 : Nat} (h1 : V * q1 + u2 = u * 4294967296 + un / 4294967296) (h2 : V * q0 + r = u2 * 4294967296 + un % 4294967296) (hM : M2 = u * 18446744073709551616 + un) : M2 = V * (q1 * 4294967296 + q0) + r := by
 rw [hM, Nat.mul_add, ← Nat.mul_assoc]
 generalize V * q1 = a at *
 generalize V * q0 = b at *
 omega
theorem join_end {V M2 Q r y s M : Nat} (hM : M * 2 ^ s = V * Q + r) (hV : V = y * 2 ^ s) (hy : 0 < y) (hr : r < V) : Q = M / y ∧ r / 2 ^ s = M % y := by
 have hp : 0 < 2 ^ s := Nat.pow_pos (by decide)
 have hV0 : 0 < V := by rw [hV]; exact Nat.mul_pos hy hp
 have d1 : M * 2 ^ s / (y * 2 ^ s) = M / y := Nat.mul_div_mul_right _ _ hp
 have m1 : M * 2 ^ s % (y * 2 ^ s) = M % y * 2 ^ s := Nat.mul_mod_mul_right _ _ _
 rw [hM, ← hV] at d1 m1
 rw [Nat.mul_add_div hV0, Nat.div_eq_of_lt hr] at d1
 rw [Nat.mul_add_mod, Nat.mod_eq_of_lt hr] at m1
 exact ⟨by rw [← d1]; rfl, by rw [m1, Nat.mul_div_cancel _ hp]⟩
theorem join_shift {hi lo s u un : Nat} (hs : s ≤ 64) (hu : u = hi * 2 ^ s + lo / 2 ^ (64 - s)) (hun : un = lo * 2 ^ s % 18446744073709551616) : (hi * 18446744073709551616 + lo) * 2 ^ s = u * 18446744073709551616 + un := by
 have := shift_split (lo := lo) hs
 rw [Nat.add_mul, this, ← hun, hu, Nat.add_mul (hi * 2 ^ s)]
 have e : hi * 18446744073709551616 * 2 ^ s = hi * 2 ^ s * 18446744073709551616 := by rw [Nat.mul_assoc, Nat.mul_comm 18446744073709551616, Nat.mul_assoc]
 rw [e, Nat.add_assoc]
theorem d64_next {V s p o u d un0 u2 : Nat} (hp0 : 0 < p) (hV1 : V ≤ 18446744073709551616) (hu : u < V) (hu2 : u2 = (u * 4294967296 + d) % V) (R : Int × Int) (H : Ev (fun k => Zz13.l24 k (V : Int) (s : Int) (p : Int) (o : Int) (un0 : Int) (((u * 4294967296 + d) / V : Nat) : Int) ((u2 % p : Nat) : Int) (u2 : Int) ((u2 / p : Nat) : Int)) R) (q : Int) (hq : q = (((u * 4294967296 + d) / V : Nat) : Int)) :
  Ev (fun k => (if (p : Int) = 0 then none else Zz13.l24 k (V : Int) (s : Int) (p : Int) (o : Int) (un0 : Int) q (IntKind.u64.wrap ((IntKind.u64.wrap ((IntKind.u64.wrap ((IntKind.u64.wrap ((u : Int) * 4294967296)) + (d : Int))) - (IntKind.u64.wrap (q * (V : Int))))) - (IntKind.u64.wrap ((IntKind.u64.wrap (Int.tdiv (IntKind.u64.wrap ((IntKind.u64.wrap ((IntKind.u64.wrap ((u : Int) * 4294967296)) + (d : Int))) - (IntKind.u64.wrap (q * (V : Int))))) (p : Int))) * (p : Int))))) (IntKind.u64.wrap ((IntKind.u64.wrap ((IntKind.u64.wrap ((u : Int) * 4294967296)) + (d : Int))) - (IntKind.u64.wrap (q * (V : Int))))) (IntKind.u64.wrap (Int.tdiv (IntKind.u64.wrap ((IntKind.u64.wrap ((IntKind.u64.wrap ((u : Int) * 4294967296)) + (d : Int))) - (IntKind.u64.wrap (q * (V : Int))))) (p : Int))))) R := by
 have hlt : u2 < 18446744073709551616 := by rw [hu2]; exact Nat.lt_of_lt_of_le (Nat.mod_lt _ (by omega)) hV1
 refine Ev.congr (fun k => ?_) H
 have e1 := wrap_rest (d := d) hV1 hu
 rw [← hu2] at e1
 have e2 : IntKind.u64.wrap (Int.tdiv (u2 : Int) (p : Int)) = ((u2 / p : Nat) : Int) := by
  rw [tdivN]; exact wrapN _ (Nat.lt_of_le_of_lt (Nat.div_le_self _ _) hlt)
 have e3 := wrap_mod (p := p) hlt
 have hpne : ¬ (p : Int) = 0 := by clear e1 e2 e3; omega
 rw [if_neg hpne, hq, e1, e2, e3]
theorem d64_l17 {V s p o u d un0 : Nat} (hp0 : 0 < p) (hV1 : V ≤ 18446744073709551616) (hu : u < V) (R : Int × Int) (H : Ev (fun k => Zz13.l24 k (V : Int) (s : Int) (p : Int) (o : Int) (un0 : Int) (((u * 4294967296 + d) / V : Nat) : Int) (((u * 4294967296 + d) % V % p : Nat) : Int) (((u * 4294967296 + d) % V : Nat) : Int) (((u * 4294967296 + d) % V / p : Nat) : Int)) R) :
  ∀ (n t r : Nat), 4294967296 - r ≤ n → r < 4294967296 → Half V p o u d t r → Ev (fun k => Zz13.l17 k (V : Int) (s : Int) (p : Int) (o : Int) (u : Int) (d : Int) (un0 : Int) (t : Int) (r : Int)) R := by
 intro n
 induction n with
 | zero => intro t r hn hr; omega
 | succ n ih =>
  intro t r hn hr h
  obtain ⟨w1, w2⟩ := half_word h hr
  obtain ⟨e1, e2⟩ := wrap_lt (p := p) w1 w2
  have nx := d64_next hp0 hV1 hu rfl R H
  by_cases c : 4294967296 ≤ t ∨ 4294967296 * r + d < t * o
  ·obtain ⟨t', ht1, h', ht'⟩ := half_next h c
   have e3 : IntKind.u64.wrap ((t : Int) - 1) = (t' : Int) := by rw [ht1]; exact wrap_dec ht'
   have e4 := wrap_inc hr h.hp2
   have hp := h.hp
   by_cases hb : r + p ≥ 4294967296
   ·have hb' : IntKind.u64.wrap ((r : Int) + (p : Int)) ≥ 4294967296 := by rw [e4]; exact Int.ofNat_le.2 hb
    have nx' := nx (IntKind.u64.wrap ((t : Int) - 1)) (by rw [e3, half_big h' ht' hb])
    by_cases c1 : 4294967296 ≤ t
    ·exact Ev.step (fun k => (Zz13.l17_eq ..).trans ((if_pos (Int.ofNat_le.2 c1)).trans (if_pos hb'))) nx'
    ·have c1' : ¬ ((t : Int) ≥ 4294967296) := fun hc => c1 (Int.ofNat_le.1 hc)
     have c2 := c.resolve_left c1
     exact Ev.step (fun k => (Zz13.l17_eq ..).trans ((if_neg c1').trans ((if_pos (by rw [e1, e2]; exact Int.ofNat_lt.2 c2)).trans (if_pos hb')))) nx'
   ·have hb' : ¬ IntKind.u64.wrap ((r : Int) + (p : Int)) ≥ 4294967296 := by rw [e4]; exact fun hc => hb (Int.ofNat_le.1 hc)
    have nx' := ih t' (r + p) (by clear e1 e2 e3 e4 hb'; omega) (Nat.lt_of_not_le hb) h'
    by_cases c1 : 4294967296 ≤ t
    ·refine Ev.step (fun k => (Zz13.l17_eq ..).trans ((if_pos (Int.ofNat_le.2 c1)).trans ((if_neg hb').trans ?_))) nx'
     rw [e3, e4]
    ·have c1' : ¬ ((t : Int) ≥ 4294967296) := fun hc => c1 (Int.ofNat_le.1 hc)
     have c2 := c.resolve_left c1
     refine Ev.step (fun k => (Zz13.l17_eq ..).trans ((if_neg c1').trans ((if_pos (by rw [e1, e2]; exact Int.ofNat_lt.2 c2)).trans ((if_neg hb').trans ?_)))) nx'
     rw [e3, e4]
  ·have c1' : ¬ ((t : Int) ≥ 4294967296) := fun hc => c (.inl (Int.ofNat_le.1 hc))
   have c2 : t * o ≤ 4294967296 * r + d := Nat.le_of_not_lt fun hc => c (.inr hc)
   exact Ev.step (fun k => (Zz13.l17_eq ..).trans ((if_neg c1').trans (if_neg (by rw [e1, e2]; exact fun h3 => absurd (Int.ofNat_lt.1 h3) (Nat.not_lt.2 c2))))) (nx (t : Int) (by rw [half_fit h c2]))
theorem d64_core {V s p o u d1 d0 u2 : Nat} (hV : V = p * 4294967296 + o) (hp : 2147483648 ≤ p) (hp2 : p < 4294967296) (ho : o < 4294967296) (hV1 : V ≤ 18446744073709551616) (hu : u < V) (hd1 : d1 < 4294967296) (hd0 : d0 < 4294967296) (hs : s ≤ 64) (hu2 : u2 = (u * 4294967296 + d1) % V) :
  Ev (fun k => Zz13.l17 k (V : Int) (s : Int) (p : Int) (o : Int) (u : Int) (d1 : Int) (d0 : Int) ((u / p : Nat) : Int) ((u % p : Nat) : Int)) (IntKind.u64.wrap ((IntKind.u64.wrap ((((u * 4294967296 + d1) / V : Nat) : Int) * 4294967296)) + (((u2 * 4294967296 + d0) / V : Nat) : Int)), (((u2 * 4294967296 + d0) % V / 2 ^ s : Nat) : Int)) := by
 have hp0 : 0 < p := by omega
 have hu2V : u2 < V := by rw [hu2]; exact Nat.mod_lt _ (Nat.lt_of_le_of_lt (Nat.zero_le _) hu)
 have er := wrap_rest (d := d0) hV1 hu2V
 have es := shr_nat ((u2 * 4294967296 + d0) % V) hs
 have m1 := Nat.mod_lt u hp0
 have m2 := Nat.mod_lt u2 hp0
 subst hu2
 refine d64_l17 hp0 hV1 hu _ (d64_l24 _ ?_ 4294967296 _ _ (Nat.sub_le _ _) (Nat.lt_trans m2 hp2) (half_first hV hp hp2 ho hu2V hd0)) 4294967296 _ _ (Nat.sub_le _ _) (Nat.lt_trans m1 hp2) (half_first hV hp hp2 ho hu hd1)
 rw [er, es]
theorem d64_nat {hi lo y : Nat} (hy : hi < y) (hy2 : y < 18446744073709551616) (hlo : lo < 18446744073709551616) : Ev (fun k => Zz13.f k (hi : Int) (lo : Int) (y : Int)) ((((hi * 18446744073709551616 + lo) / y : Nat) : Int), (((hi * 18446744073709551616 + lo) % y : Nat) : Int)) := by
 simp only [Zz13.f_eq]
 have y0 : 0 < y := by omega
 refine Ev.congr (fun k => if_neg (show ¬ (y : Int) = 0 by omega)) (Ev.congr (fun k => if_neg (show ¬ (y : Int) ≤ (hi : Int) by omega)) ?_)
 by_cases h0 : hi = 0
 ·subst h0
  refine Ev.congr (fun k => (if_pos rfl).trans ((if_neg (show ¬ (y : Int) = 0 by omega)).trans (if_neg (show ¬ (y : Int) = 0 by omega)))) ?_
  have e1 : IntKind.u64.wrap (Int.tdiv (lo : Int) (y : Int)) = ((lo / y : Nat) : Int) := by
   rw [tdivN]; exact wrapN _ (Nat.lt_of_le_of_lt (Nat.div_le_self _ _) hlo)
  rw [e1, tmodN, Nat.zero_mul, Nat.zero_add]
  exact Ev.now _
 ·refine Ev.congr (fun k => if_neg (show ¬ (hi : Int) = 0 by omega)) (Ev.bind (lz64_ev hy2) ?_)
  obtain ⟨n1, n2, n3⟩ := norm_y y0 hy2
  have hsplit := shift_split (lo := lo) (s := 64 - bits y) (by omega)
  generalize hs : 64 - bits y = s at *
  have hs64 : s ≤ 64 := by omega
  have ws : IntKind.u64.wrap (s : Int) = (s : Int) := wrapN _ (by omega)
  have ws2 : IntKind.u64.wrap (64 - (s : Int)) = ((64 - s : Nat) : Int) := by
   have e : (64 : Int) - (s : Int) = ((64 - s : Nat) : Int) := by omega
   rw [e, wrapN _ (by omega)]
  have hpos : 0 < 2 ^ s := Nat.pow_pos (by decide)
  have hlt : lo / 2 ^ (64 - s) < 2 ^ s := by
   rw [Nat.div_lt_iff_lt_mul (Nat.pow_pos (by decide)), ← Nat.pow_add, Nat.add_sub_cancel' hs64]; exact hlo
  have hule : (hi + 1) * 2 ^ s ≤ y * 2 ^ s := Nat.mul_le_mul_right _ hy
  rw [Nat.add_mul, Nat.one_mul] at hule
  have huV : hi * 2 ^ s + lo / 2 ^ (64 - s) < y * 2 ^ s := by omega
  have hhi : hi * 2 ^ s < 18446744073709551616 := by omega
  have ev : shl .u64 (y : Int) (s : Int) = ((y * 2 ^ s : Nat) : Int) := by rw [shl_nat y hs64, Nat.mod_eq_of_lt n2]
  have eh : shl .u64 (hi : Int) (s : Int) = ((hi * 2 ^ s : Nat) : Int) := by rw [shl_nat hi hs64, Nat.mod_eq_of_lt hhi]
  have el : shr .u64 (lo : Int) ((64 - s : Nat) : Int) = ((lo / 2 ^ (64 - s) : Nat) : Int) := shr_nat lo (by omega)
  have eo := or_add hlt (Nat.lt_trans huV n2)
  have en : shl .u64 (lo : Int) (s : Int) = ((lo * 2 ^ s % 18446744073709551616 : Nat) : Int) := shl_nat lo hs64
  rw [ws, ws2, ev, eh, el, eo, en]
  clear ws ws2 ev eh el eo en
  have hun : lo * 2 ^ s % 18446744073709551616 < 18446744073709551616 := Nat.mod_lt _ (by decide)
  have hM := join_shift (hi := hi) (lo := lo) (un := lo * 2 ^ s % 18446744073709551616) hs64 rfl rfl
  generalize hu : hi * 2 ^ s + lo / 2 ^ (64 - s) = u at *
  generalize hue : lo * 2 ^ s % 18446744073709551616 = un at *
  generalize hV : y * 2 ^ s = V at *
  have hV64 : V ≤ 18446744073709551616 := Nat.le_of_lt n2
  have hsplitV : V = V / 4294967296 * 4294967296 + V % 4294967296 := by omega
  have hp : 2147483648 ≤ V / 4294967296 := by omega
  have hp2 : V / 4294967296 < 4294967296 := by omega
  have ho : V % 4294967296 < 4294967296 := Nat.mod_lt _ (by decide)
  have hpne : ¬ (((V / 4294967296 : Nat) : Int) = 0) := by omega
  have hd1 : un / 4294967296 < 4294967296 := by omega
  have hd0 : un % 4294967296 < 4294967296 := Nat.mod_lt _ (by decide)
  have hu64 : u < 18446744073709551616 := by omega
  have core := d64_core (s := s) hsplitV hp hp2 ho hV64 huV hd1 hd0 hs64 rfl
  have j1 := Nat.div_add_mod (u * 4294967296 + un / 4294967296) V
  have j2 := Nat.div_add_mod ((u * 4294967296 + un / 4294967296) % V * 4294967296 + un % 4294967296) V
  have hK := join_core j1 j2 hM
  have hr := Nat.mod_lt ((u * 4294967296 + un / 4294967296) % V * 4294967296 + un % 4294967296) (show 0 < V by omega)
  obtain ⟨f1, f2⟩ := join_end (M2 := 0) hK hV.symm y0 hr
  have q1lt := half_lt huV hd1
  have hQ : (hi * 18446744073709551616 + lo) / y < 18446744073709551616 := by
   rw [Nat.div_lt_iff_lt_mul y0]; omega
  rw [← f1] at hQ
  have eq1 : IntKind.u64.wrap ((IntKind.u64.wrap ((((u * 4294967296 + un / 4294967296) / V : Nat) : Int) * 4294967296)) + ((((u * 4294967296 + un / 4294967296) % V * 4294967296 + un % 4294967296) / V : Nat) : Int)) = (((hi * 18446744073709551616 + lo) / y : Nat) : Int) := by
   rw [← f1]
   have e : (((u * 4294967296 + un / 4294967296) / V : Nat) : Int) * 4294967296 = (((u * 4294967296 + un / 4294967296) / V * 4294967296 : Nat) : Int) := mulN _ 4294967296
   rw [e, wrapN _ (Nat.lt_of_le_of_lt (Nat.le_add_right _ _) hQ), addN, wrapN _ hQ]
  rw [eq1, f2] at core
  have em : Go.bits .and .u64 (V : Int) 4294967295 = ((V % 4294967296 : Nat) : Int) := maskN V n2
  have em2 : Go.bits .and .u64 (un : Int) 4294967295 = ((un % 4294967296 : Nat) : Int) := maskN un hun
  have et : IntKind.u64.wrap (Int.tdiv (u : Int) ((V / 4294967296 : Nat) : Int)) = ((u / (V / 4294967296) : Nat) : Int) := by
   rw [tdivN]; exact wrapN _ (Nat.lt_of_le_of_lt (Nat.div_le_self _ _) hu64)
  have ew := wrap_mod (p := V / 4294967296) hu64
  rw [shr32 V, shr32 un]
  refine Ev.congr (fun k => (if_pos (Int.natCast_nonneg s)).trans ((if_pos (Int.natCast_nonneg s)).trans ((if_pos (Int.natCast_nonneg (64 - s))).trans ((if_pos (Int.natCast_nonneg s)).trans (if_neg hpne))))) ?_
  rw [em, em2, et, ew]
  exact core
theorem elim_none {α β : Type} (a : β) (f : α → β) : Option.elim none a f = a := rfl
theorem elim_some {α β : Type} (x : α) (a : β) (f : α → β) : Option.elim (some x) a f = f x := rfl
theorem rem64_ev {hi lo y : Nat} (hy : 0 < y) (hy2 : y < 18446744073709551616) (hlo : lo < 18446744073709551616) : Ev (fun k => Zz19.f k (hi : Int) (lo : Int) (y : Int)) (((hi * 18446744073709551616 + lo) % y : Nat) : Int) := by
 refine Ev.congr (fun k => (Zz19.f_eq ..).trans (if_neg (by omega))) ?_
 rw [tmodN hi y]
 have g := d64_nat (Nat.mod_lt hi hy) hy2 hlo
 refine Ev.bind g ?_
 have e : (hi % y * 18446744073709551616 + lo) % y = (hi * 18446744073709551616 + lo) % y := by
  rw [Nat.add_mod, Nat.mod_mul_mod, ← Nat.add_mod]
 rw [e]
 exact Ev.now _
theorem prodmod_ev {α : Type} {x y n : Nat} (hx : x < 18446744073709551616) (hy : y < 18446744073709551616) (hn : 0 < n) (hn2 : n < 18446744073709551616) {f : Nat → Int → Option α} {r : α} (h : Ev (fun k => f k ((x * y % n : Nat) : Int)) r) : Ev (fun k => (Zz18.f k (x : Int) (y : Int)).bind fun bt => (Zz19.f k bt.1 bt.2 (n : Int)).bind (f k)) r := by
 refine Ev.bind (mul64_ev hx hy) ?_
 have g := rem64_ev (hi := x * y / 18446744073709551616) (lo := x * y % 18446744073709551616) hn hn2 (Nat.mod_lt _ (by decide))
 rw [Nat.mul_comm (x * y / _), Nat.div_add_mod] at g
 exact Ev.bind g h
theorem and_one {e : Nat} (he : e < 18446744073709551616) : Go.bits .and .u64 (e : Int) 1 = ((e % 2 : Nat) : Int) := by
 have h := bits_and_u64_nat e 1 he (by omega)
 rw [Nat.and_one_is_mod] at h
 exact h
theorem fmul_ev {p x y : Nat} {s1 s2 : Int} (h0 : 0 < p) (hp : p < 18446744073709551616) : Ev (fun k => Zz110.f k (p : Int) s1 s2 (x : Int) (y : Int)) ((x * y % p : Nat) : Int) := by
 have hx2 := Nat.mod_lt x h0
 have hy2 := Nat.mod_lt y h0
 refine Ev.congr (fun k => (Zz110.f_eq ..).trans ((if_neg (by omega)).trans (if_neg (by omega)))) ?_
 rw [tmodN, tmodN]
 have g := prodmod_ev (x := x % p) (y := y % p) (n := p) (f := fun _ v => some v) (Nat.lt_trans hx2 hp) (Nat.lt_trans hy2 hp) h0 hp (Ev.now _)
 rw [← Nat.mul_mod] at g
 exact g
def subM (x y p : Nat) : Nat := (x % p + p - y % p) % p
theorem fsub_ev {p x y : Nat} {s1 s2 : Int} (h0 : 0 < p) (hp : p ≤ 9223372036854775808) : Ev (fun k => Zz113.f k (p : Int) s1 s2 (x : Int) (y : Int)) ((subM x y p : Nat) : Int) := by
 have hx2 := Nat.mod_lt x h0
 have hy2 := Nat.mod_lt y h0
 refine Ev.congr (fun k => ?_) (Ev.now _)
 rw [Zz113.f_eq, if_neg (by omega), if_neg (by omega), tmodN, tmodN]
 unfold subM
 generalize x % p = a at *
 generalize y % p = b at *
 by_cases h : a < b
 ·have e1 : IntKind.u64.wrap ((a : Int) + (p : Int)) = ((a + p : Nat) : Int) := by rw [addN, wrapN _ (by omega)]
  have e2 : IntKind.u64.wrap (((a + p : Nat) : Int) - (b : Int)) = ((a + p - b : Nat) : Int) := by
   have e : ((a + p : Nat) : Int) - (b : Int) = ((a + p - b : Nat) : Int) := by clear e1; omega
   rw [e, wrapN _ (by clear e1; omega)]
  rw [if_pos (Int.ofNat_lt.2 h), e1, e2]
  congr 2
  rw [Nat.mod_eq_of_lt (by clear e1 e2; omega)]
 ·have e2 : IntKind.u64.wrap ((a : Int) - (b : Int)) = ((a - b : Nat) : Int) := by
   have e : (a : Int) - (b : Int) = ((a - b : Nat) : Int) := by omega
   rw [e, wrapN _ (by omega)]
  rw [if_neg (fun h3 => h (Int.ofNat_lt.1 h3)), e2]
  congr 2
  have e3 : a + p - b = (a - b) + p := by clear e2; omega
  rw [e3, Nat.add_mod_right, Nat.mod_eq_of_lt (by clear e2 e3; omega)]
theorem subM_int (x y : Nat) {p : Nat} (h0 : 0 < p) : ∃ u : Int, ((subM x y p : Nat) : Int) = (x : Int) - (y : Int) + (p : Int) * u := by
 unfold subM
 have h1 := Nat.mod_lt x h0
 have h2 := Nat.mod_lt y h0
 have h3 := Nat.div_add_mod x p
 have h4 := Nat.div_add_mod y p
 have h5 := Nat.div_add_mod (x % p + p - y % p) p
 refine ⟨((y / p : Nat) : Int) - ((x / p : Nat) : Int) + 1 - (((x % p + p - y % p) / p : Nat) : Int), ?_⟩
 have h6 : ((x % p + p - y % p : Nat) : Int) = ((x % p : Nat) : Int) + p - ((y % p : Nat) : Int) := by omega
 have h3' : (p : Int) * ((x / p : Nat) : Int) + ((x % p : Nat) : Int) = x := by rw [← Int.natCast_mul, ← Int.natCast_add, h3]
 have h4' : (p : Int) * ((y / p : Nat) : Int) + ((y % p : Nat) : Int) = y := by rw [← Int.natCast_mul, ← Int.natCast_add, h4]
 have h5' : (p : Int) * (((x % p + p - y % p) / p : Nat) : Int) + (((x % p + p - y % p) % p : Nat) : Int) = ((x % p + p - y % p : Nat) : Int) := by
  generalize x % p + p - y % p = z at *
  rw [← Int.natCast_mul, ← Int.natCast_add, h5]
 rw [h6] at h5'
 generalize (((x % p + p - y % p) % p : Nat) : Int) = A at *
 generalize (((x % p + p - y % p) / p : Nat) : Int) = D at *
 generalize ((x / p : Nat) : Int) = X at *
 generalize ((y / p : Nat) : Int) = Y at *
 generalize ((x % p : Nat) : Int) = x' at *
 generalize ((y % p : Nat) : Int) = y' at *
 grind
theorem mod_int (x p : Nat) : ∃ u : Int, ((x % p : Nat) : Int) = (x : Int) + (p : Int) * u := by
 refine ⟨-((x / p : Nat) : Int), ?_⟩
 have h := Nat.div_add_mod x p
 have h' : (p : Int) * ((x / p : Nat) : Int) + ((x % p : Nat) : Int) = x := by rw [← Int.natCast_mul, ← Int.natCast_add, h]
 grind
theorem finv_l8 {p x : Nat} {s1 s2 : Int} (h0 : 0 < p) (hp : p ≤ 9223372036854775808) : ∀ (s r a b : Nat), s < 18446744073709551616 → r < 18446744073709551616 → a < p → b < p → (∃ u : Int, (a : Int) * x = r + p * u) → (∃ u : Int, (b : Int) * x = s + p * u) →
  (Nat.gcd s r ≠ 1 ∧ Ev (fun k => Zz109.l8 k (p : Int) s1 s2 (r : Int) (s : Int) (a : Int) (b : Int)) (0, 11)) ∨ (Nat.gcd s r = 1 ∧ ∃ c : Nat, c < p ∧ (∃ u : Int, (c : Int) * x = 1 + p * u) ∧ Ev (fun k => Zz109.l8 k (p : Int) s1 s2 (r : Int) (s : Int) (a : Int) (b : Int)) ((c : Int), 0)) := by
 intro s
 induction s using Nat.strongRecOn with
 | _ s ih =>
  intro r a b hs hr ha hb hra hsb
  by_cases hz : s = 0
  ·subst hz
   rw [Nat.gcd_zero_left]
   by_cases h1 : r = 1
   ·subst h1
    refine .inr ⟨rfl, a, ha, by simpa using hra, ?_⟩
    refine Ev.step (f := fun k => some ((a : Int), 0)) (fun k => ?_) (Ev.now _)
    exact (Zz109.l8_eq ..).trans ((if_neg (by decide)).trans (if_pos rfl))
   ·refine .inl ⟨h1, Ev.step (f := fun k => some (0, 11)) (fun k => ?_) (Ev.now _)⟩
    exact (Zz109.l8_eq ..).trans ((if_neg (by decide)).trans (if_neg (by omega)))
  ·have hq : IntKind.u64.wrap (Int.tdiv (r : Int) (s : Int)) = ((r / s : Nat) : Int) := by
    rw [tdivN]; exact wrapN _ (Nat.lt_of_le_of_lt (Nat.div_le_self _ _) hr)
   have hm := wrap_mod (p := s) hr
   have hms := Nat.mod_lt r (Nat.pos_of_ne_zero hz)
   obtain ⟨u, hu⟩ := hra
   obtain ⟨v, hv⟩ := hsb
   obtain ⟨w, hw⟩ := mod_int (r / s * b) p
   obtain ⟨t, ht⟩ := subM_int a (r / s * b % p) h0
   have hdm := Nat.div_add_mod r s
   have hdm' : (s : Int) * ((r / s : Nat) : Int) + ((r % s : Nat) : Int) = r := by rw [← Int.natCast_mul, ← Int.natCast_add, hdm]
   have hnew : ∃ u : Int, ((subM a (r / s * b % p) p : Nat) : Int) * x = ((r % s : Nat) : Int) + p * u := by
    refine ⟨u - ((r / s : Nat) : Int) * v - w * x + t * x, ?_⟩
    rw [ht, hw, Int.natCast_mul]
    generalize ((r / s : Nat) : Int) = q at *
    generalize ((r % s : Nat) : Int) = r' at *
    clear ht hw hdm hq hm hms ih
    grind
   have hsub : subM a (r / s * b % p) p < p := Nat.mod_lt _ h0
   have step : ∀ R : Int × Int, Ev (fun k => Zz109.l8 k (p : Int) s1 s2 (s : Int) ((r % s : Nat) : Int) (b : Int) ((subM a (r / s * b % p) p : Nat) : Int)) R → Ev (fun k => Zz109.l8 k (p : Int) s1 s2 (r : Int) (s : Int) (a : Int) (b : Int)) R := fun R g => by
    refine Ev.step (fun k => Zz109.l8_eq ..) ?_
    rw [hq, hm]
    clear hq hm hw ht
    refine Ev.congr (fun k => (if_pos (by omega)).trans (if_neg (by omega))) ?_
    exact Ev.bind (fmul_ev h0 (by omega)) (Ev.bind (fsub_ev h0 hp) g)
   rcases ih (r % s) hms s b (subM a (r / s * b % p) p) (Nat.lt_trans hms hs) hs hb hsub ⟨v, hv⟩ hnew with ⟨g1, g2⟩ | ⟨g1, c, g2, g3, g4⟩
   ·exact .inl ⟨by rw [Nat.gcd_rec]; exact g1, step _ g2⟩
   ·exact .inr ⟨by rw [Nat.gcd_rec]; exact g1, c, g2, g3, step _ g4⟩
theorem finv_ev {p x : Nat} {s1 s2 : Int} (h2 : 2 ≤ p) (hp : p ≤ 9223372036854775808) (hx : x < 18446744073709551616) :
  (x % p = 0 ∧ Ev (fun k => Zz109.f k (p : Int) s1 s2 (x : Int)) (0, 10)) ∨ (x % p ≠ 0 ∧ Nat.gcd (x % p) p ≠ 1 ∧ Ev (fun k => Zz109.f k (p : Int) s1 s2 (x : Int)) (0, 11)) ∨ (x % p ≠ 0 ∧ Nat.gcd (x % p) p = 1 ∧ ∃ c : Nat, c < p ∧ c * x % p = 1 ∧ Ev (fun k => Zz109.f k (p : Int) s1 s2 (x : Int)) ((c : Int), 0)) := by
 by_cases h : x % p = 0
 ·refine .inl ⟨h, Ev.congr (fun k => ?_) (Ev.now _)⟩
  exact (Zz109.f_eq ..).trans ((if_neg (by omega)).trans (if_pos (by rw [tmodN, h]; rfl)))
 ·have e : ∀ k, Zz109.f k (p : Int) s1 s2 (x : Int) = Zz109.l8 k (p : Int) s1 s2 (p : Int) ((x % p : Nat) : Int) ((0 : Nat) : Int) ((1 : Nat) : Int) := fun k => (Zz109.f_eq ..).trans ((if_neg (by omega)).trans (if_neg (by rw [tmodN]; omega)))
  have hxp := Nat.mod_lt x (show 0 < p by omega)
  obtain ⟨w, hw⟩ := mod_int x p
  rcases finv_l8 (p := p) (x := x) (s1 := s1) (s2 := s2) (by omega) hp (x % p) p 0 1 (by omega) (by omega) (by omega) (by omega) ⟨-1, by simp [Int.add_right_neg]⟩ ⟨-w, by rw [hw]; grind⟩ with ⟨g1, g2⟩ | ⟨g1, c, g2, ⟨u, g3⟩, g4⟩
  ·exact .inr (.inl ⟨h, g1, Ev.congr e g2⟩)
  ·refine .inr (.inr ⟨h, g1, c, g2, ?_, Ev.congr e g4⟩)
   have h3 : ((c * x % p : Nat) : Int) = 1 := by
    rw [Int.natCast_emod, Int.natCast_mul, g3, Int.add_mul_emod_self_left]
    exact Int.emod_eq_of_lt (by decide) (by omega)
   omega
theorem new_l7 {p : Nat} (h2 : 2 ≤ p) (hp : p < 9223372036854775808) (b2 b3 : Int) : ∀ (d i : Nat) (inv : Int), 5 - i = d → i ≤ 5 → ∃ s1 s2, Ev (fun k => Zz114.l7 k (p : Int) inv (p : Int) b2 b3 (i : Int)) (some ((p : Int), s1, s2, ()), 0) := by
 intro d
 induction d with
 | zero =>
  intro i inv hd hi
  have : i = 5 := by omega
  subst this
  have hU : 0 ≤ IntKind.u64.wrap (-(p : Int)) ∧ IntKind.u64.wrap (-(p : Int)) < 18446744073709551616 := by rw [wu]; constructor <;> omega
  obtain ⟨w, hw⟩ := Int.eq_ofNat_of_zero_le hU.1
  have gm := fmul_ev (p := p) (s1 := IntKind.u64.wrap (-inv)) (s2 := b3) (x := w % p) (y := w % p) (by omega) (by omega)
  refine ⟨IntKind.u64.wrap (-inv), ((w % p * (w % p) % p : Nat) : Int), ?_⟩
  refine Ev.step (fun k => Zz114.l7_eq ..) ?_
  rw [hw, tmodN]
  refine Ev.congr (fun k => (if_neg (by decide)).trans (if_neg (by omega))) ?_
  exact Ev.bind gm (Ev.now _)
 | succ d ih =>
  intro i inv hd hi
  obtain ⟨s1, s2, g⟩ := ih (i + 1) (IntKind.u64.wrap (inv * (IntKind.u64.wrap (2 - (IntKind.u64.wrap ((p : Int) * inv)))))) (by omega) (by omega)
  refine ⟨s1, s2, Ev.step (fun k => ?_) g⟩
  rw [Zz114.l7_eq, if_pos (by omega), w64_succ (by omega)]
theorem new_ev {p : Nat} (h2 : 2 ≤ p) (hp : p < 9223372036854775808) : ∃ s1 s2, Ev (fun k => Zz114.f k (p : Int)) (some ((p : Int), s1, s2, ()), 0) := by
 by_cases h : Go.bits .and .u64 (p : Int) 1 = 1
 ·obtain ⟨s1, s2, g⟩ := new_l7 h2 hp 0 0 _ 0 (p : Int) rfl (Nat.zero_le _)
  refine ⟨s1, s2, Ev.congr (fun k => ?_) g⟩
  rw [Zz114.f_eq, if_neg (by omega), if_neg (by omega), if_pos h]; rfl
 ·refine ⟨0, 0, Ev.congr (fun k => ?_) (Ev.now _)⟩
  rw [Zz114.f_eq, if_neg (by omega), if_neg (by omega), if_neg h]
theorem new_no {p : Nat} (h : p < 2 ∨ 9223372036854775808 ≤ p) : Ev (fun k => Zz114.f k (p : Int)) (none, 1) := by
 refine Ev.congr (fun k => ?_) (Ev.now _)
 rw [Zz114.f_eq]
 rcases h with h | h
 ·rw [if_pos (by omega)]
 ·rw [if_neg (by omega), if_pos (by omega)]
theorem pmul_ev {x y n : Nat} (hx : x < 18446744073709551616) (hy : y < 18446744073709551616) (hn : 0 < n) (hn2 : n < 18446744073709551616) : Ev (fun k => Zz67.f k (x : Int) (y : Int) (n : Int)) ((x * y % n : Nat) : Int) :=
 Ev.congr (fun k => Zz67.f_eq ..) (prodmod_ev (f := fun _ v => some v) hx hy hn hn2 (Ev.now _))
theorem u_pred {n : Nat} (h0 : 0 < n) (hn : n < 18446744073709551616) : IntKind.u64.wrap ((n : Int) - 1) = ((n - 1 : Nat) : Int) := by
 have e : (n : Int) - 1 = ((n - 1 : Nat) : Int) := by omega
 rw [e, wrapN _ (by omega)]
def sqs (n : Nat) : Nat → Nat → Bool
 | _, 0 => false
 | x, s + 1 => x == n - 1 || sqs n (x * x % n) s
def strongN (n b : Nat) : Bool := (b ^ ((n - 1) / 2 ^ Lib.ctz 64 (n - 1)) % n == 1) || sqs n (b ^ ((n - 1) / 2 ^ Lib.ctz 64 (n - 1)) % n) (Lib.ctz 64 (n - 1))
theorem strong_l1 {n : Nat} (h2 : 2 ≤ n) (hn : n < 18446744073709551616) (T : Nat) (hT : T ≤ 100) : ∀ (d i x : Nat), T - i = d → i ≤ T → x < n → Ev (fun k => Zz69.l12 k (n : Int) (x : Int) (T : Int) (i : Int)) (sqs n x d) := by
 intro d
 induction d with
 | zero =>
  intro i x hd hi hx
  refine Ev.step (f := fun k => some false) (fun k => ?_) (Ev.now _)
  rw [Zz69.l12_eq]
  rw [if_neg (by omega)]
 | succ d ih =>
  intro i x hd hi hx
  have hi0 : (i : Int) < (T : Int) := by omega
  by_cases h : x = n - 1
  ·have e : sqs n x (d + 1) = true := by simp [sqs, h]
   rw [e]
   refine Ev.step (f := fun k => some true) (fun k => ?_) (Ev.now _)
   rw [Zz69.l12_eq]
   rw [if_pos hi0, u_pred (by omega) hn, if_pos (by omega)]
  ·have e : sqs n x (d + 1) = sqs n (x * x % n) d := by simp [sqs, h]
   rw [e]
   have hxB : x < 18446744073709551616 := Nat.lt_trans hx hn
   refine Ev.step (f := fun k => (Zz67.f k (x : Int) (x : Int) (n : Int)).bind fun t112 => Zz69.l12 k (n : Int) t112 (T : Int) ((i + 1 : Nat) : Int)) (fun k => ?_) (Ev.bind (pmul_ev hxB hxB (by omega) hn) (ih (i + 1) (x * x % n) (by omega) (by omega) (Nat.mod_lt _ (by omega))))
   rw [Zz69.l12_eq]
   rw [if_pos hi0, u_pred (by omega) hn, if_neg (by omega), w64_succ (by omega)]
theorem pow_half (b e : Nat) : b ^ e = (b * b) ^ (e / 2) * b ^ (e % 2) := by
 have : b ^ e = b ^ (2 * (e / 2) + e % 2) := by rw [Nat.div_add_mod]
 rw [this, Nat.pow_add, Nat.pow_mul, Nat.pow_two]
theorem strong_l0 {n : Nat} (h2 : 2 ≤ n) (hn : n < 18446744073709551616) (T : Nat) (hT : T ≤ 100) : ∀ (e x b : Nat), e < 18446744073709551616 → x < n → b < n → Ev (fun k => Zz69.l4 k (n : Int) (T : Int) (x : Int) (b : Int) (e : Int)) ((x * b ^ e % n == 1) || sqs n (x * b ^ e % n) T) := by
 intro e
 induction e using Nat.strongRecOn with
 | _ e ih =>
  intro x b he hx hb
  have hxB : x < 18446744073709551616 := Nat.lt_trans hx hn
  have hbB : b < 18446744073709551616 := Nat.lt_trans hb hn
  by_cases h0 : e = 0
  ·subst h0
   rw [Nat.pow_zero, Nat.mul_one, Nat.mod_eq_of_lt hx]
   by_cases h1 : x = 1
   ·have e1 : (x == 1 || sqs n x T) = true := by simp [h1]
    rw [e1]
    refine Ev.step (f := fun k => some true) (fun k => ?_) (Ev.now _)
    rw [Zz69.l4_eq]
    rw [if_neg (by decide), if_pos (by omega)]
   ·have e1 : (x == 1 || sqs n x T) = sqs n x T := by simp [h1]
    rw [e1]
    refine Ev.step (fun k => ?_) (strong_l1 h2 hn T hT _ 0 x rfl (Nat.zero_le _) hx)
    rw [Zz69.l4_eq]
    exact (if_neg (by decide)).trans (if_neg (by omega))
  ·have hdiv : shr .u64 (e : Int) 1 = ((e / 2 : Nat) : Int) := shr_nat e (s := 1) (by decide)
   have hsq := pmul_ev hbB hbB (show 0 < n by omega) hn
   have hbn : b * b % n < n := Nat.mod_lt _ (by omega)
   by_cases h1 : e % 2 = 1
   ·have hxn : x * b % n < n := Nat.mod_lt _ (by omega)
    have ee : x * b % n * (b * b % n) ^ (e / 2) % n = x * b ^ e % n := by
     rw [pow_half b e, h1, Nat.pow_one, Nat.mul_mod, Nat.mod_mod, Nat.pow_mod, Nat.mod_mod, ← Nat.pow_mod, ← Nat.mul_mod, Nat.mul_assoc, Nat.mul_comm b]
    have g := ih (e / 2) (by omega) (x * b % n) (b * b % n) (by omega) hxn hbn
    rw [ee] at g
    refine Ev.step (f := fun k => (Zz67.f k (x : Int) (b : Int) (n : Int)).bind fun t109 => (Zz67.f k (b : Int) (b : Int) (n : Int)).bind fun t110 => Zz69.l4 k (n : Int) (T : Int) t109 t110 ((e / 2 : Nat) : Int)) (fun k => ?_) (Ev.bind (pmul_ev hxB hbB (by omega) hn) (Ev.bind hsq g))
    rw [Zz69.l4_eq]
    rw [if_pos (by omega), and_one he, if_pos (by omega), hdiv]
   ·have h10 : e % 2 = 0 := by omega
    have ee : x * (b * b % n) ^ (e / 2) % n = x * b ^ e % n := by
     rw [pow_half b e, h10, Nat.pow_zero, Nat.mul_one, Nat.mul_mod, ← Nat.pow_mod, ← Nat.mul_mod]
    have g := ih (e / 2) (by omega) x (b * b % n) (by omega) hx hbn
    rw [ee] at g
    refine Ev.step (f := fun k => (Zz67.f k (b : Int) (b : Int) (n : Int)).bind fun t111 => Zz69.l4 k (n : Int) (T : Int) (x : Int) t111 ((e / 2 : Nat) : Int)) (fun k => ?_) (Ev.bind hsq g)
    rw [Zz69.l4_eq]
    rw [if_pos (by omega), and_one he, if_neg (by omega), hdiv]
theorem tz_ev {x : Nat} (hx : x < 18446744073709551616) : Ev (fun k => Zz20.f k (x : Int)) ((Lib.ctz 64 x : Nat) : Int) := by
 refine Ev.congr (fun k => ?_) (Ev.now _)
 unfold Zz20.f
 rw [if_pos (isW_nat hx), Int.toNat_natCast]
theorem ctz_le {x : Nat} (h0 : x ≠ 0) (hx : x < 18446744073709551616) : Lib.ctz 64 x < 64 := (Lib.lowest_bit 64 x h0 hx).2
theorem ctz_spec {x : Nat} (h0 : x ≠ 0) (hx : x < 18446744073709551616) : ∃ m, x = 2 ^ Lib.ctz 64 x * (2 * m + 1) := by
 have e : Lib.ctz 64 x = Lib.ctzFrom 64 x := by simp [Lib.ctz, h0]
 obtain ⟨m, h1, _⟩ := Lib.ctzFrom_spec 64 x (Nat.pos_of_ne_zero h0) hx
 exact ⟨m, by rw [e]; exact h1⟩
theorem strong_ev {n b : Nat} (h2 : 2 ≤ n) (hn : n < 18446744073709551616) (hb : b < 18446744073709551616) : Ev (fun k => Zz69.f k (n : Int) (b : Int)) (strongN n b) := by
 refine Ev.congr (fun k => Zz69.f_eq ..) ?_
 rw [u_pred (by omega) hn]
 refine Ev.bind (tz_ev (by omega)) ?_
 have hs := ctz_le (show n - 1 ≠ 0 by omega) (show n - 1 < 18446744073709551616 by omega)
 unfold strongN
 generalize Lib.ctz 64 (n - 1) = s at *
 rw [wrapN s (by omega), shr_nat (n - 1) (s := s) (by omega), tmodN b n]
 refine Ev.congr (fun k => if_neg (by omega)) (Ev.congr (fun k => if_pos (Int.natCast_nonneg _)) ?_)
 have g := strong_l0 h2 hn s (by omega) ((n - 1) / 2 ^ s) 1 (b % n) (Nat.lt_of_le_of_lt (Nat.div_le_self _ _) (by omega)) (by omega) (Nat.mod_lt _ (by omega))
 rw [Nat.one_mul, ← Nat.pow_mod] at g
 exact g
def BL : List Nat := [2, 3, 5, 7, 11, 13, 17, 19, 23, 29, 31, 37]
def isN (n : Nat) : Bool := if n < 2 then false else match BL.find? (fun b => n % b == 0) with
 | some b => n == b
 | none => BL.all (strongN n)
def BLi : List Int := [2, 3, 5, 7, 11, 13, 17, 19, 23, 29, 31, 37]
theorem BL_rd {i : Nat} (h : i < 12) : rd BLi (i : Int) = ((BL.getD i 0 : Nat) : Int) ∧ 2 ≤ BL.getD i 0 ∧ BL.getD i 0 < 38 := by
 have key : ∀ i : Fin 12, rd BLi (i.val : Int) = ((BL.getD i.val 0 : Nat) : Int) ∧ 2 ≤ BL.getD i.val 0 ∧ BL.getD i.val 0 < 38 := by decide
 exact key ⟨i, h⟩
theorem BL_drop {i : Nat} (h : i < 12) : BL.drop i = BL.getD i 0 :: BL.drop (i + 1) := by
 have key : ∀ i : Fin 12, BL.drop i.val = BL.getD i.val 0 :: BL.drop (i.val + 1) := by decide
 exact key ⟨i, h⟩
theorem is_l10 {n : Nat} (h2 : 2 ≤ n) (hn : n < 18446744073709551616) : ∀ (d i : Nat), 12 - i = d → i ≤ 12 → Ev (fun k => Zz62.l10 k (n : Int) 2 3 5 7 11 13 17 19 23 29 31 37 (i : Int)) ((BL.drop i).all (strongN n)) := by
 intro d
 induction d with
 | zero =>
  intro i hd hi
  have : i = 12 := by omega
  subst this
  refine Ev.step (f := fun k => some true) (fun k => ?_) (Ev.now _)
  rw [Zz62.l10_eq, if_neg (by decide)]
 | succ d ih =>
  intro i hd hi
  have hi0 : i < 12 := by omega
  obtain ⟨e1, e2, e3⟩ := BL_rd hi0
  have g := ih (i + 1) (by omega) (by omega)
  have gs := strong_ev (b := BL.getD i 0) h2 hn (by omega)
  rw [BL_drop hi0, List.all_cons]
  refine Ev.step (f := fun k => (Zz69.f k (n : Int) ((BL.getD i 0 : Nat) : Int)).bind fun t => if (!t) = true then some false else Zz62.l10 k (n : Int) 2 3 5 7 11 13 17 19 23 29 31 37 ((i + 1 : Nat) : Int)) (fun k => ?_) (Ev.bind gs ?_)
  ·refine (Zz62.l10_eq ..).trans ((if_pos (by omega)).trans ((if_pos (by omega)).trans ((if_pos (by omega)).trans ?_)))
   rw [w64_succ (by omega), ← e1]; rfl
  ·by_cases h : strongN n (BL.getD i 0) = true
   ·rw [h, Bool.true_and]
    exact Ev.congr (fun k => if_neg (by decide)) g
   ·rw [Bool.not_eq_true] at h
    rw [h, Bool.false_and]
    exact Ev.congr (fun k => if_pos rfl) (Ev.now _)
theorem is_l4 {n : Nat} (h2 : 2 ≤ n) (hn : n < 18446744073709551616) : ∀ (d i : Nat), 12 - i = d → i ≤ 12 → Ev (fun k => Zz62.l4 k (n : Int) 2 3 5 7 11 13 17 19 23 29 31 37 (i : Int)) (match (BL.drop i).find? (fun b => n % b == 0) with | some b => n == b | none => BL.all (strongN n)) := by
 intro d
 induction d with
 | zero =>
  intro i hd hi
  have : i = 12 := by omega
  subst this
  have g := is_l10 h2 hn _ 0 rfl (Nat.zero_le _)
  refine Ev.step (fun k => ?_) g
  rw [Zz62.l4_eq, if_neg (by decide), Zz65.f_eq]; rfl
 | succ d ih =>
  intro i hd hi
  have hi0 : i < 12 := by omega
  obtain ⟨e1, e2, e3⟩ := BL_rd hi0
  have e1' : rd ([2, 3, 5, 7, 11, 13, 17, 19, 23, 29, 31, 37] : List Int) (i : Int) = _ := e1
  have g := ih (i + 1) (by omega) (by omega)
  rw [BL_drop hi0, List.find?_cons]
  generalize BL.getD i 0 = b at *
  have hb0 : ¬ (b : Int) = 0 := by omega
  by_cases h : n % b = 0
  ·have hb : (n % b == 0) = true := beq_iff_eq.2 h
   rw [hb]
   refine Ev.step (f := fun k => some (n == b)) (fun k => ?_) (Ev.now _)
   rw [Zz62.l4_eq, e1', tmodN]
   refine (if_pos (by omega)).trans ((if_pos (by omega)).trans ((if_pos (by omega)).trans ((if_neg hb0).trans ((if_pos (by omega)).trans ?_))))
   congr 1
   by_cases h3 : n = b
   ·subst h3; simp
   ·have h4 : ¬ (n : Int) = (b : Int) := fun h4 => h3 (by omega)
    rw [decide_eq_false h4, beq_eq_false_iff_ne.2 h3]
  ·have hb : (n % b == 0) = false := beq_eq_false_iff_ne.2 h
   rw [hb]
   refine Ev.step (fun k => ?_) g
   rw [Zz62.l4_eq, e1', tmodN]
   refine (if_pos (by omega)).trans ((if_pos (by omega)).trans ((if_pos (by omega)).trans ((if_neg hb0).trans ((if_neg (by omega)).trans ?_))))
   rw [w64_succ (by omega)]
theorem pis_ev {n : Nat} (hn : n < 18446744073709551616) : Ev (fun k => Zz62.f k (n : Int)) (isN n) := by
 refine Ev.congr (fun k => Zz62.f_eq ..) ?_
 unfold isN
 by_cases h : n < 2
 ·rw [if_pos h]
  exact Ev.congr (fun k => if_pos (by omega)) (Ev.now _)
 ·rw [if_neg h]
  exact Ev.congr (fun k => (if_neg (by omega)).trans (by rw [Zz65.f_eq]; rfl)) (is_l4 (by omega) hn _ 0 rfl (Nat.zero_le _))
end Go.Proofs.YtkoeddgbhohggaaGreatDoor.Pure
end
section
namespace Go.Proofs.YtkoeddgbhohggaaGreatDoor.Pure
set_option linter.unusedVariables false
set_option linter.unusedSimpArgs false
def Pr (p : Nat) : Prop := 2 ≤ p ∧ ∀ d, d ∣ p → d = 1 ∨ d = p
theorem Pr.euclid {p a b : Nat} (h : Pr p) (hd : p ∣ a * b) : p ∣ a ∨ p ∣ b := by
 by_cases ha : p ∣ a
 ·exact .inl ha
 ·refine .inr ?_
  have hg : Nat.gcd p a = 1 := by
   rcases h.2 (Nat.gcd p a) (Nat.gcd_dvd_left p a) with h1 | h1
   ·exact h1
   ·exact absurd (h1 ▸ Nat.gcd_dvd_right p a) ha
  exact Nat.Coprime.dvd_of_dvd_mul_left hg hd
theorem Pr.pos {p : Nat} (h : Pr p) : 0 < p := Nat.lt_of_lt_of_le (by decide) h.1
theorem Pr.dvd_pow {p a : Nat} (h : Pr p) : ∀ n, p ∣ a ^ n → p ∣ a := by
 intro n
 induction n with
 | zero => intro hd; rw [Nat.pow_zero] at hd; have := Nat.le_of_dvd (by decide) hd; have := h.1; omega
 | succ n ih =>
  intro hd
  rw [Nat.pow_succ] at hd
  rcases h.euclid hd with h1 | h1
  ·exact ih h1
  ·exact h1
def sumTo (g : Nat → Nat) : Nat → Nat
 | 0 => 0
 | m + 1 => sumTo g m + g m
theorem sumTo_shift (g : Nat → Nat) : ∀ m, sumTo g (m + 1) = g 0 + sumTo (fun k => g (k + 1)) m
 | 0 => by simp [sumTo]
 | m + 1 => by rw [sumTo, sumTo_shift g m, sumTo, Nat.add_assoc]
theorem sumTo_add (f g : Nat → Nat) : ∀ m, sumTo (fun k => f k + g k) m = sumTo f m + sumTo g m
 | 0 => rfl
 | m + 1 => by rw [sumTo, sumTo_add f g m, sumTo, sumTo]; omega
theorem sumTo_mul (g : Nat → Nat) (a : Nat) : ∀ m, sumTo g m * a = sumTo (fun k => g k * a) m
 | 0 => by simp [sumTo]
 | m + 1 => by rw [sumTo, Nat.add_mul, sumTo_mul g a m, sumTo]
theorem sumTo_congr {f g : Nat → Nat} : ∀ m, (∀ k, k < m → f k = g k) → sumTo f m = sumTo g m
 | 0, _ => rfl
 | m + 1, h => by rw [sumTo, sumTo, sumTo_congr m (fun k hk => h k (Nat.lt_succ_of_lt hk)), h m (Nat.lt_succ_self m)]
theorem sumTo_dvd {g : Nat → Nat} {p : Nat} : ∀ m, (∀ k, k < m → p ∣ g k) → p ∣ sumTo g m
 | 0, _ => Nat.dvd_zero p
 | m + 1, h => by rw [sumTo]; exact Nat.dvd_add (sumTo_dvd m (fun k hk => h k (Nat.lt_succ_of_lt hk))) (h m (Nat.lt_succ_self m))
def choose : Nat → Nat → Nat
 | _, 0 => 1
 | 0, _ + 1 => 0
 | n + 1, k + 1 => choose n k + choose n (k + 1)
theorem choose_zero (n : Nat) : choose n 0 = 1 := by cases n <;> rfl
theorem choose_big : ∀ (n k : Nat), n < k → choose n k = 0
 | 0, k + 1, _ => rfl
 | n + 1, k + 1, h => by rw [choose, choose_big n k (by omega), choose_big n (k + 1) (by omega)]
theorem choose_self : ∀ n, choose n n = 1
 | 0 => rfl
 | n + 1 => by rw [choose, choose_self n, choose_big n (n + 1) (Nat.lt_succ_self n)]
theorem choose_mul : ∀ (n k : Nat), (k + 1) * choose (n + 1) (k + 1) = (n + 1) * choose n k
 | 0, k => by
  cases k with
  | zero => rfl
  | succ k => simp [choose, choose_big 0 (k + 1) (by omega)]
 | n + 1, k => by
  cases k with
  | zero =>
   have h := choose_mul n 0
   rw [choose_zero] at h ⊢
   rw [choose, choose_zero]
   omega
  | succ k =>
   have h1 := choose_mul n k
   have h2 := choose_mul n (k + 1)
   rw [choose]
   have e : choose (n + 1) (k + 1) = choose n k + choose n (k + 1) := rfl
   have h3 : (k + 1 + 1) * choose (n + 1) (k + 1) = (k + 1) * choose (n + 1) (k + 1) + choose (n + 1) (k + 1) := by rw [Nat.add_mul, Nat.one_mul]
   rw [Nat.mul_add, h3, h1, h2, e]
   grind
theorem Pr.dvd_choose {p k : Nat} (h : Pr p) (h0 : 0 < k) (hk : k < p) : p ∣ choose p k := by
 obtain ⟨j, rfl⟩ : ∃ j, k = j + 1 := ⟨k - 1, by omega⟩
 obtain ⟨q, rfl⟩ : ∃ q, p = q + 1 := ⟨p - 1, by omega⟩
 have e := choose_mul q j
 rcases h.euclid (a := j + 1) (b := choose (q + 1) (j + 1)) ⟨choose q j, e⟩ with h1 | h1
 ·have := Nat.le_of_dvd (Nat.succ_pos j) h1; omega
 ·exact h1
theorem binomial (a : Nat) : ∀ n, (a + 1) ^ n = sumTo (fun k => choose n k * a ^ k) (n + 1)
 | 0 => by simp [sumTo, choose]
 | n + 1 => by
  have ih := binomial a n
  rw [sumTo_shift]
  have e1 : sumTo (fun k => choose (n + 1) (k + 1) * a ^ (k + 1)) (n + 1) = sumTo (fun k => choose n k * a ^ k) (n + 1) * a + sumTo (fun k => choose n (k + 1) * a ^ (k + 1)) (n + 1) := by
   rw [sumTo_mul, ← sumTo_add]
   refine sumTo_congr _ fun k _ => ?_
   show (choose n k + choose n (k + 1)) * a ^ (k + 1) = choose n k * a ^ k * a + choose n (k + 1) * a ^ (k + 1)
   rw [Nat.add_mul, Nat.mul_assoc (choose n k), ← Nat.pow_succ]
  have e2 : sumTo (fun k => choose n k * a ^ k) (n + 1 + 1) = sumTo (fun k => choose n k * a ^ k) (n + 1) := by
   rw [sumTo, choose_big n (n + 1) (Nat.lt_succ_self n), Nat.zero_mul, Nat.add_zero]
  rw [sumTo_shift] at e2
  rw [e1, Nat.pow_succ, Nat.mul_add, Nat.mul_one, ih]
  simp only [choose_zero, Nat.pow_zero, Nat.mul_one] at e2 ⊢
  omega
theorem Pr.freshman {p a : Nat} (h : Pr p) : (a + 1) ^ p % p = (a ^ p + 1) % p := by
 rw [binomial, sumTo, choose_self, Nat.one_mul]
 obtain ⟨q, hq⟩ : ∃ q, p = q + 1 := ⟨p - 1, by have := h.1; omega⟩
 have e : sumTo (fun k => choose p k * a ^ k) p = 1 + sumTo (fun k => choose p (k + 1) * a ^ (k + 1)) q := by
  have := sumTo_shift (fun k => choose p k * a ^ k) q
  rw [← hq] at this
  rw [this, choose_zero, Nat.pow_zero]
 obtain ⟨c, hc⟩ := sumTo_dvd (g := fun k => choose p (k + 1) * a ^ (k + 1)) (p := p) q (fun k hk => Nat.dvd_trans (h.dvd_choose (Nat.succ_pos k) (by omega)) (Nat.dvd_mul_right _ _))
 rw [e, hc]
 have : 1 + p * c + a ^ p = a ^ p + 1 + p * c := by omega
 rw [this, Nat.add_mul_mod_self_left]
theorem Pr.fermat0 {p : Nat} (h : Pr p) : ∀ a, a ^ p % p = a % p
 | 0 => by rw [Nat.zero_pow h.pos]
 | a + 1 => by rw [h.freshman, Nat.add_mod, h.fermat0 a, ← Nat.add_mod]
theorem Pr.one_mod {p : Nat} (h : Pr p) : 1 % p = 1 := Nat.mod_eq_of_lt h.1
theorem dvd_sub_of_mod {a b p : Nat} (h : b % p = a % p) (hle : a ≤ b) : p ∣ b - a := by
 have h1 := Nat.div_add_mod b p
 have h2 := Nat.div_add_mod a p
 refine ⟨b / p - a / p, ?_⟩
 have h3 : a / p ≤ b / p := Nat.div_le_div_right hle
 rw [Nat.mul_sub]
 have := Nat.mul_le_mul_left p h3
 omega
theorem Pr.fermat {p a : Nat} (h : Pr p) (ha : ¬ p ∣ a) : a ^ (p - 1) % p = 1 := by
 have ha0 : 0 < a := Nat.pos_of_ne_zero fun h0 => ha (h0 ▸ Nat.dvd_zero p)
 have hpw : 0 < a ^ (p - 1) := Nat.pow_pos ha0
 have h0 := h.fermat0 a
 have e : a ^ p = a ^ (p - 1) * a := by rw [← Nat.pow_succ]; congr 1; have := h.1; omega
 have hle : a ≤ a ^ p := by rw [e]; exact Nat.le_mul_of_pos_left _ hpw
 have hd := dvd_sub_of_mod h0 hle
 have e2 : a ^ p - a = (a ^ (p - 1) - 1) * a := by rw [e, Nat.sub_mul, Nat.one_mul]
 rw [e2] at hd
 rcases h.euclid hd with h1 | h1
 ·obtain ⟨c, hc⟩ := h1
  have : a ^ (p - 1) = 1 + p * c := by omega
  rw [this, Nat.add_mul_mod_self_left, h.one_mod]
 ·exact absurd h1 ha
theorem Pr.sqrt_one {p x : Nat} (h : Pr p) (hx : x < p) (h1 : x * x % p = 1) : x = 1 ∨ x = p - 1 := by
 have hx0 : x ≠ 0 := fun h0 => by rw [h0, Nat.zero_mul, Nat.zero_mod] at h1; cases h1
 have hd : p ∣ x * x - 1 := dvd_sub_of_mod (by rw [h1, h.one_mod]) (Nat.mul_pos (Nat.pos_of_ne_zero hx0) (Nat.pos_of_ne_zero hx0))
 obtain ⟨y, rfl⟩ : ∃ y, x = y + 1 := ⟨x - 1, by omega⟩
 have e : (y + 1) * (y + 1) - 1 = y * (y + 2) := by
  have : (y + 1) * (y + 1) = y * (y + 2) + 1 := by grind
  omega
 rw [e] at hd
 rcases h.euclid hd with h2 | h2
 ·rcases Nat.eq_zero_or_pos y with h3 | h3
  ·exact .inl (by rw [h3])
  ·have := Nat.le_of_dvd h3 h2; omega
 ·have := Nat.le_of_dvd (by omega) h2
  exact .inr (by omega)
theorem least_divisor {n : Nat} (h : 2 ≤ n) : ∃ d, Pr d ∧ d ∣ n ∧ ∀ e, 2 ≤ e → e ∣ n → d ≤ e := by
 have key : ∀ (f m : Nat), n - m = f → 2 ≤ m → m ≤ n → (∀ e, 2 ≤ e → e < m → ¬ e ∣ n) → ∃ d, 2 ≤ d ∧ d ∣ n ∧ ∀ e, 2 ≤ e → e ∣ n → d ≤ e := by
  intro f
  induction f with
  | zero =>
   intro m hf h2 hm hn
   have : m = n := by omega
   subst this
   exact ⟨m, h2, Nat.dvd_refl m, fun e he hd => Nat.le_of_not_lt fun hlt => hn e he hlt hd⟩
  | succ f ih =>
   intro m hf h2 hm hn
   by_cases hd : m ∣ n
   ·exact ⟨m, h2, hd, fun e he hd => Nat.le_of_not_lt fun hlt => hn e he hlt hd⟩
   ·refine ih (m + 1) (by omega) (by omega) (by omega) fun e he hlt => ?_
    by_cases h3 : e = m
    ·rw [h3]; exact hd
    ·exact hn e he (by omega)
 obtain ⟨d, h2, hd, hmin⟩ := key _ 2 rfl (Nat.le_refl 2) h (fun e h1 h2 => absurd h2 (by omega))
 refine ⟨d, ⟨h2, fun e he => ?_⟩, hd, hmin⟩
 by_cases h1 : e = 1
 ·exact .inl h1
 ·refine .inr ?_
  have h0 : e ≠ 0 := fun h0 => by rw [h0] at he; have := Nat.eq_zero_of_zero_dvd he; omega
  have hle := Nat.le_of_dvd (by omega) he
  have := hmin e (by omega) (Nat.dvd_trans he hd)
  omega
theorem composite {n : Nat} (h : 2 ≤ n) (hn : ¬ Pr n) : ∃ d m, Pr d ∧ n = d * m ∧ d ≤ m := by
 obtain ⟨d, hp, ⟨m, hm⟩, hmin⟩ := least_divisor h
 refine ⟨d, m, hp, hm, ?_⟩
 have hdn : d ≠ n := fun h1 => hn (h1 ▸ hp)
 have hm1 : m ≠ 1 := fun h1 => hdn (by rw [hm, h1, Nat.mul_one])
 have hm0 : m ≠ 0 := fun h0 => by rw [h0, Nat.mul_zero] at hm; omega
 exact hmin m (by omega) ⟨d, by rw [hm, Nat.mul_comm]⟩
end Go.Proofs.YtkoeddgbhohggaaGreatDoor.Pure
end
section
namespace Go.Proofs.YtkoeddgbhohggaaGreatDoor.Pure
open Go.RowKit Go.Proofs.YtkoeddgbhohggaaGreatDoor.F Go.Proofs.YtkoeddgbhohggaaGreatDoorW.PrintWords Go.Proofs.YtkoeddgbhohggaaGreatDoorW.PrintLast Go.Proofs.YtkoeddgbhohggaaGreatDoorW.PrintMore
set_option linter.unusedVariables false
set_option linter.unusedSimpArgs false
theorem sqs_prime {p : Nat} (h : Pr p) : ∀ (s x : Nat), x < p → x ^ 2 ^ s % p = 1 → x = 1 ∨ sqs p x s = true := by
 intro s
 induction s with
 | zero =>
  intro x hx h1
  rw [Nat.pow_zero, Nat.pow_one, Nat.mod_eq_of_lt hx] at h1
  exact .inl h1
 | succ s ih =>
  intro x hx h1
  have hxx : x * x % p < p := Nat.mod_lt _ h.pos
  have e : (x * x % p) ^ 2 ^ s % p = 1 := by
   rw [← Nat.pow_mod, ← Nat.pow_two, ← Nat.pow_mul]
   rw [Nat.pow_succ, Nat.mul_comm] at h1
   exact h1
  rcases ih _ hxx e with h2 | h2
  ·rcases h.sqrt_one hx h2 with h3 | h3
   ·exact .inl h3
   ·exact .inr (by simp [sqs, h3])
  ·exact .inr (by simp [sqs, h2])
theorem strong_prime {p b : Nat} (h : Pr p) (hp : p < 18446744073709551616) (hb : ¬ p ∣ b) : strongN p b = true := by
 have h2 := h.1
 obtain ⟨m, hm⟩ := ctz_spec (x := p - 1) (by omega) (by omega)
 have hf := h.fermat hb
 unfold strongN
 generalize Lib.ctz 64 (p - 1) = s at *
 have hd : (p - 1) / 2 ^ s = 2 * m + 1 := by rw [hm, Nat.mul_div_cancel_left _ (Nat.pow_pos (by decide))]
 rw [hd]
 have hx : b ^ (2 * m + 1) % p < p := Nat.mod_lt _ h.pos
 have e : (b ^ (2 * m + 1) % p) ^ 2 ^ s % p = 1 := by
  rw [← Nat.pow_mod, ← Nat.pow_mul, Nat.mul_comm, ← hm]; exact hf
 rcases sqs_prime h s _ hx e with h3 | h3
 ·simp [h3]
 ·simp [h3]
theorem BL_small : ∀ b ∈ BL, 2 ≤ b ∧ b < 38 := by decide
theorem BL_prime : ∀ b ∈ BL, ∀ d, d < 38 → d ∣ b → d = 1 ∨ d = b := by decide
theorem BL_pr {b : Nat} (h : b ∈ BL) : Pr b := ⟨(BL_small b h).1, fun d hd => BL_prime b h d (Nat.lt_of_le_of_lt (Nat.le_of_dvd (by have := (BL_small b h).1; omega) hd) (BL_small b h).2) hd⟩
theorem isN_prime {p : Nat} (h : Pr p) (hp : p < 18446744073709551616) : isN p = true := by
 unfold isN
 rw [if_neg (by have := h.1; omega)]
 cases e : BL.find? (fun b => p % b == 0) with
 | some b =>
  have h1 := List.find?_some e
  have h2 := List.mem_of_find?_eq_some e
  have hb := BL_small b h2
  rcases h.2 b (Nat.dvd_of_mod_eq_zero (beq_iff_eq.1 h1)) with h3 | h3
  ·omega
  ·simp [h3]
 | none =>
  have h1 := List.find?_eq_none.1 e
  refine List.all_eq_true.2 fun b hb => strong_prime h hp fun hd => ?_
  rcases (BL_pr hb).2 p hd with h3 | h3
  ·have := h.1; omega
  ·have := h1 b hb
   rw [h3] at this
   simp at this
theorem isN_cases {n : Nat} (h : isN n = true) : n ∈ BL ∨ (2 ≤ n ∧ (∀ b ∈ BL, n % b ≠ 0) ∧ ∀ b ∈ BL, strongN n b = true) := by
 unfold isN at h
 by_cases h2 : n < 2
 ·rw [if_pos h2] at h; cases h
 rw [if_neg h2] at h
 cases e : BL.find? (fun b => n % b == 0) with
 | some b =>
  rw [e] at h
  have h3 : n = b := beq_iff_eq.1 h
  exact .inl (h3 ▸ List.mem_of_find?_eq_some e)
 | none =>
  rw [e] at h
  have h1 := List.find?_eq_none.1 e
  exact .inr ⟨by omega, fun b hb h4 => h1 b hb (beq_iff_eq.2 h4), List.all_eq_true.1 h⟩
def prims : Nat := 7420738134810
def smallF (n : Nat) : Bool := cond (Nat.beq (Nat.gcd n prims) 1) false true
theorem smallF_spec {n : Nat} (h : smallF n = true) : ∃ b ∈ BL, n % b = 0 := by
 have hg : Nat.gcd n prims ≠ 1 := by
  intro h1
  unfold smallF at h
  rw [h1] at h
  exact absurd h (by decide)
 have h0 : Nat.gcd n prims ≠ 0 := fun h1 => absurd (Nat.gcd_eq_zero_iff.1 h1).2 (by decide)
 obtain ⟨q, hq, hd, _⟩ := least_divisor (n := Nat.gcd n prims) (by omega)
 have hqn : q ∣ n := Nat.dvd_trans hd (Nat.gcd_dvd_left _ _)
 have hqp : q ∣ prims := Nat.dvd_trans hd (Nat.gcd_dvd_right _ _)
 have fin : ∀ b, b ∈ BL → q ∣ b → ∃ b ∈ BL, n % b = 0 := fun b hb hqb => by
  rcases (BL_pr hb).2 q hqb with h1 | h1
  ·have := hq.1; omega
  ·exact ⟨b, hb, Nat.mod_eq_zero_of_dvd (h1 ▸ hqn)⟩
 have e : prims = 2 * (3 * (5 * (7 * (11 * (13 * (17 * (19 * (23 * (29 * (31 * 37)))))))))) := by decide
 rw [e] at hqp
 rcases hq.euclid hqp with h1 | h1
 ·exact fin 2 (by decide) h1
 rcases hq.euclid h1 with h1 | h1
 ·exact fin 3 (by decide) h1
 rcases hq.euclid h1 with h1 | h1
 ·exact fin 5 (by decide) h1
 rcases hq.euclid h1 with h1 | h1
 ·exact fin 7 (by decide) h1
 rcases hq.euclid h1 with h1 | h1
 ·exact fin 11 (by decide) h1
 rcases hq.euclid h1 with h1 | h1
 ·exact fin 13 (by decide) h1
 rcases hq.euclid h1 with h1 | h1
 ·exact fin 17 (by decide) h1
 rcases hq.euclid h1 with h1 | h1
 ·exact fin 19 (by decide) h1
 rcases hq.euclid h1 with h1 | h1
 ·exact fin 23 (by decide) h1
 rcases hq.euclid h1 with h1 | h1
 ·exact fin 29 (by decide) h1
 rcases hq.euclid h1 with h1 | h1
 ·exact fin 31 (by decide) h1
 ·exact fin 37 (by decide) h1
theorem sqs_one {n : Nat} (h2 : 2 ≤ n) : ∀ (s x : Nat), sqs n x s = true → x ^ 2 ^ s % n = 1 := by
 intro s
 induction s with
 | zero => intro x h; cases h
 | succ s ih =>
  intro x h
  have e : x ^ 2 ^ (s + 1) = (x * x) ^ 2 ^ s := by rw [Nat.pow_succ, Nat.mul_comm, Nat.pow_mul, Nat.pow_two]
  rw [e, Nat.pow_mod]
  by_cases h1 : x = n - 1
  ·have e2 : x * x % n = 1 := by
    obtain ⟨m, rfl⟩ : ∃ m, n = m + 2 := ⟨n - 2, by omega⟩
    subst h1
    have e3 : (m + 2 - 1) * (m + 2 - 1) = 1 + (m + 2) * m := by
     have : m + 2 - 1 = m + 1 := by omega
     rw [this]; grind
    rw [e3, Nat.add_mul_mod_self_left, Nat.mod_eq_of_lt (by omega)]
   rw [e2, Nat.one_pow, Nat.mod_eq_of_lt (by omega)]
  ·have h3 : sqs n (x * x % n) s = true := by simpa [sqs, h1] using h
   exact ih _ h3
theorem strong_one {n b : Nat} (h2 : 2 ≤ n) (hn : n < 18446744073709551616) (h : strongN n b = true) : b ^ (n - 1) % n = 1 := by
 obtain ⟨m, hm⟩ := ctz_spec (x := n - 1) (by omega) (by omega)
 unfold strongN at h
 generalize Lib.ctz 64 (n - 1) = s at *
 have hd : (n - 1) / 2 ^ s = 2 * m + 1 := by rw [hm, Nat.mul_div_cancel_left _ (Nat.pow_pos (by decide))]
 rw [hd, Bool.or_eq_true] at h
 have e : b ^ (n - 1) % n = (b ^ (2 * m + 1) % n) ^ 2 ^ s % n := by
  rw [← Nat.pow_mod, ← Nat.pow_mul, Nat.mul_comm (2 * m + 1), ← hm]
 rw [e]
 rcases h with h | h
 ·rw [beq_iff_eq.1 h, Nat.one_pow, Nat.mod_eq_of_lt (by omega)]
 ·exact sqs_one h2 s _ h
def fails (n : Nat) : Bool := cond (Nat.beq (2 ^ (n - 1) % n) 1) (!strongN n 2 || !strongN n 3) true
theorem fails_spec {n : Nat} (h2 : 2 ≤ n) (hn : n < 18446744073709551616) (h : fails n = true) : strongN n 2 = false ∨ strongN n 3 = false := by
 unfold fails at h
 cases e : Nat.beq (2 ^ (n - 1) % n) 1 with
 | true =>
  rw [e, cond_true, Bool.or_eq_true] at h
  simpa using h
 | false =>
  refine .inl ?_
  cases e2 : strongN n 2 with
  | false => rfl
  | true =>
   have := strong_one h2 hn e2
   rw [this] at e
   cases e
def rowOk (d M c : Nat) : Bool := Nat.rec true (fun c ih => cond (cond (smallF (M - c)) true (fails (d * (M - c)))) ih false) c
theorem rowOk_spec {d M : Nat} : ∀ c, rowOk d M c = true → ∀ m, m ≤ M → M < m + c → smallF m = true ∨ fails (d * m) = true := by
 intro c
 induction c with
 | zero => intro _ m h1 h2; omega
 | succ c ih =>
  intro h m h1 h2
  have e : rowOk d M (c + 1) = ((smallF (M - c) || fails (d * (M - c))) && rowOk d M c) := by
   show cond (cond (smallF (M - c)) true (fails (d * (M - c)))) (rowOk d M c) false = _
   cases smallF (M - c) <;> cases fails (d * (M - c)) <;> rfl
  rw [e, Bool.and_eq_true, Bool.or_eq_true] at h
  by_cases h3 : M - c = m
  ·rw [h3] at h; exact h.1
  ·exact ih h.2 m h1 (by omega)
def allOk (N D c : Nat) : Bool := Nat.rec true (fun c ih => cond (cond (smallF (D - c)) true (rowOk (D - c) (N / (D - c)) (N / (D - c) + 1 - (D - c)))) ih false) c
theorem allOk_spec {N D : Nat} : ∀ c, allOk N D c = true → ∀ d, d ≤ D → D < d + c → smallF d = true ∨ ∀ m, d ≤ m → d * m ≤ N → smallF m = true ∨ fails (d * m) = true := by
 intro c
 induction c with
 | zero => intro _ d h1 h2; omega
 | succ c ih =>
  intro h d h1 h2
  have e : allOk N D (c + 1) = ((smallF (D - c) || rowOk (D - c) (N / (D - c)) (N / (D - c) + 1 - (D - c))) && allOk N D c) := by
   show cond (cond (smallF (D - c)) true (rowOk (D - c) (N / (D - c)) (N / (D - c) + 1 - (D - c)))) (allOk N D c) false = _
   cases smallF (D - c) <;> cases rowOk (D - c) (N / (D - c)) (N / (D - c) + 1 - (D - c)) <;> rfl
  rw [e, Bool.and_eq_true, Bool.or_eq_true] at h
  by_cases h3 : D - c = d
  ·rw [h3] at h
   rcases h.1 with h4 | h4
   ·exact .inl h4
   ·by_cases hd0 : d = 0
    ·exact .inl (by rw [hd0]; decide)
    ·refine .inr fun m hdm hN => ?_
     have hm : m ≤ N / d := (Nat.le_div_iff_mul_le (Nat.pos_of_ne_zero hd0)).2 (by rw [Nat.mul_comm]; exact hN)
     exact rowOk_spec _ h4 m hm (by omega)
  ·exact ih h.2 d h1 (by omega)
set_option maxRecDepth 100000 in
theorem table1 : allOk 1000003 60 59 = true := by decide +kernel
set_option maxRecDepth 100000 in
theorem table2 : allOk 1000003 120 60 = true := by decide +kernel
set_option maxRecDepth 100000 in
theorem table3 : allOk 1000003 300 180 = true := by decide +kernel
set_option maxRecDepth 100000 in
theorem table4 : allOk 1000003 1001 701 = true := by decide +kernel
theorem table {d m : Nat} (h2 : 2 ≤ d) (hd : d ≤ 1001) (hdm : d ≤ m) (hN : d * m ≤ 1000003) : smallF d = true ∨ smallF m = true ∨ fails (d * m) = true := by
 have key : smallF d = true ∨ ∀ m, d ≤ m → d * m ≤ 1000003 → smallF m = true ∨ fails (d * m) = true := by
  by_cases h3 : d ≤ 60
  ·exact allOk_spec _ table1 d h3 (by omega)
  ·by_cases h4 : d ≤ 120
   ·exact allOk_spec _ table2 d h4 (by omega)
   ·by_cases h5 : d ≤ 300
    ·exact allOk_spec _ table3 d h5 (by omega)
    ·exact allOk_spec _ table4 d hd (by omega)
 rcases key with h | h
 ·exact .inl h
 ·exact .inr (h m hdm hN)
theorem isN_iff {n : Nat} (hn : n ≤ 1000003) : isN n = true ↔ Pr n := by
 constructor
 ·intro h
  rcases isN_cases h with h1 | ⟨h2, hb, hs⟩
  ·exact BL_pr h1
  ·apply Classical.byContradiction
   intro hp
   obtain ⟨d, m, hd, hdm, hle⟩ := composite h2 hp
   have hd2 := hd.1
   have hdd : d ≤ 1001 := Nat.le_of_not_lt fun h3 => by
    have : 1002 * 1002 ≤ d * m := Nat.mul_le_mul h3 (Nat.le_trans h3 hle)
    omega
   have no : ∀ x, x ∣ n → smallF x ≠ true := fun x hx h3 => by
    obtain ⟨b, hbm, hb0⟩ := smallF_spec h3
    exact hb b hbm (Nat.mod_eq_zero_of_dvd (Nat.dvd_trans (Nat.dvd_of_mod_eq_zero hb0) hx))
   rcases table hd2 hdd hle (by omega) with h3 | h3 | h3
   ·exact no d ⟨m, hdm⟩ h3
   ·exact no m ⟨d, by rw [hdm, Nat.mul_comm]⟩ h3
   ·rw [← hdm] at h3
    rcases fails_spec h2 (by omega) h3 with h4 | h4
    ·rw [hs 2 (by decide)] at h4; cases h4
    ·rw [hs 3 (by decide)] at h4; cases h4
 ·intro h
  exact isN_prime h (by omega)
theorem fof_ev {p x : Nat} {s1 s2 : Int} (h0 : 0 < p) : Ev (fun k => Zz111.f k (p : Int) s1 s2 (x : Int)) ((x % p : Nat) : Int) :=
 Ev.congr (fun k => (Zz111.f_eq ..).trans (if_neg (by omega))) (Ev.now _)
theorem fadd_ev {p x y : Nat} {s1 s2 : Int} (h0 : 0 < p) (hp : p ≤ 9223372036854775808) : Ev (fun k => Zz108.f k (p : Int) s1 s2 (x : Int) (y : Int)) (((x + y) % p : Nat) : Int) := by
 have hx2 := Nat.mod_lt x h0
 have hy2 := Nat.mod_lt y h0
 rw [Nat.add_mod x y p]
 refine Ev.congr (fun k => ?_) (Ev.now _)
 rw [Zz108.f_eq, if_neg (by omega), if_neg (by omega), tmodN, tmodN]
 generalize x % p = a at *
 generalize y % p = b at *
 have e1 : IntKind.u64.wrap ((a : Int) + (b : Int)) = ((a + b : Nat) : Int) := by rw [addN, wrapN _ (by omega)]
 rw [e1]
 by_cases h : a + b ≥ p
 ·have e2 : IntKind.u64.wrap (((a + b : Nat) : Int) - (p : Int)) = ((a + b - p : Nat) : Int) := by
   have e : ((a + b : Nat) : Int) - (p : Int) = ((a + b - p : Nat) : Int) := by clear e1; omega
   rw [e, wrapN _ (by clear e1; omega)]
  rw [if_pos (by clear e1 e2; omega), e2]
  congr 2
  rw [Nat.mod_eq_sub_mod h, Nat.mod_eq_of_lt (by clear e1 e2; omega)]
 ·rw [if_neg (by clear e1; omega)]
  congr 2
  rw [Nat.mod_eq_of_lt (by clear e1; omega)]
theorem fpow_l2 {p : Nat} {s1 s2 : Int} (h0 : 0 < p) (hp : p < 18446744073709551616) : ∀ (n x out : Nat), n < 18446744073709551616 → out < p → Ev (fun k => Zz112.l2 k (p : Int) s1 s2 (x : Int) (n : Int) (out : Int)) ((out * x ^ n % p : Nat) : Int) := by
 intro n
 induction n using Nat.strongRecOn with
 | _ n ih =>
  intro x out hn ho
  by_cases hz : n = 0
  ·subst hz
   rw [Nat.pow_zero, Nat.mul_one, Nat.mod_eq_of_lt ho]
   refine Ev.step (f := fun k => some (out : Int)) (fun k => ?_) (Ev.now _)
   rw [Zz112.l2_eq, if_pos (by omega)]
  ·have hdiv : shr .u64 (n : Int) 1 = ((n / 2 : Nat) : Int) := shr_nat n (s := 1) (by decide)
   have gs := fmul_ev (x := x) (y := x) (s1 := s1) (s2 := s2) h0 hp
   by_cases h1 : n % 2 = 1
   ·have hox : out * x % p < p := Nat.mod_lt _ h0
    have g := ih (n / 2) (by omega) (x * x % p) (out * x % p) (by omega) hox
    have e : out * x % p * (x * x % p) ^ (n / 2) % p = out * x ^ n % p := by
     rw [pow_half x n, h1, Nat.pow_one, Nat.mul_mod, Nat.mod_mod, Nat.pow_mod, Nat.mod_mod, ← Nat.pow_mod, ← Nat.mul_mod, Nat.mul_assoc, Nat.mul_comm x]
    rw [e] at g
    refine Ev.step (fun k => Zz112.l2_eq ..) ?_
    rw [and_one hn, hdiv]
    refine Ev.congr (fun k => (if_neg (by omega)).trans (if_pos (by omega))) ?_
    exact Ev.bind (fmul_ev h0 hp) (Ev.bind gs g)
   ·have h10 : n % 2 = 0 := by omega
    have g := ih (n / 2) (by omega) (x * x % p) out (by omega) ho
    have e : out * (x * x % p) ^ (n / 2) % p = out * x ^ n % p := by
     rw [pow_half x n, h10, Nat.pow_zero, Nat.mul_one, Nat.mul_mod, ← Nat.pow_mod, ← Nat.mul_mod]
    rw [e] at g
    refine Ev.step (fun k => Zz112.l2_eq ..) ?_
    rw [and_one hn, hdiv]
    refine Ev.congr (fun k => (if_neg (by omega)).trans (if_neg (by omega))) ?_
    exact Ev.bind gs g
theorem fpow_ev {p x n : Nat} {s1 s2 : Int} (h0 : 0 < p) (hp : p < 18446744073709551616) (hn : n < 18446744073709551616) : Ev (fun k => Zz112.f k (p : Int) s1 s2 (x : Int) (n : Int)) ((x ^ n % p : Nat) : Int) := by
 refine Ev.congr (fun k => Zz112.f_eq ..) (Ev.bind (fof_ev (x := 1) h0) ?_)
 have g := fpow_l2 (s1 := s1) (s2 := s2) h0 hp n x (1 % p) hn (Nat.mod_lt _ h0)
 have e2 : 1 % p * x ^ n % p = x ^ n % p := by rw [Nat.mod_mul_mod, Nat.one_mul]
 rw [e2] at g
 exact g
theorem Pr.gcd_one {p x : Nat} (h : Pr p) (hx : x % p ≠ 0) : Nat.gcd (x % p) p = 1 := by
 rcases h.2 _ (Nat.gcd_dvd_right (x % p) p) with h1 | h1
 ·exact h1
 ·exfalso
  have h2 := Nat.gcd_dvd_left (x % p) p
  rw [h1] at h2
  have := Nat.le_of_dvd (Nat.pos_of_ne_zero hx) h2
  have := Nat.mod_lt x h.pos
  omega
theorem finv_prime {p x : Nat} {s1 s2 : Int} (h : Pr p) (hp : p ≤ 9223372036854775808) (hx : x < 18446744073709551616) (hx0 : x % p ≠ 0) : ∃ c : Nat, c < p ∧ c * x % p = 1 ∧ Ev (fun k => Zz109.f k (p : Int) s1 s2 (x : Int)) ((c : Int), 0) := by
 rcases finv_ev (s1 := s1) (s2 := s2) h.1 hp hx with ⟨h1, _⟩ | ⟨_, h1, _⟩ | ⟨_, _, h1⟩
 ·exact absurd h1 hx0
 ·exact absurd (h.gcd_one hx0) h1
 ·exact h1
theorem field_yes {p : Nat} (hp : p < 9223372036854775808) (h : isN p = true) : ∃ s1 s2, Ev (fun k => Zz66.f k (p : Int)) (some ((p : Int), s1, s2, ()), 0) := by
 have h2 : 2 ≤ p := Nat.le_of_not_lt fun h3 => by unfold isN at h; rw [if_pos h3] at h; cases h
 obtain ⟨s1, s2, g2⟩ := new_ev h2 hp
 have g := pis_ev (n := p) (by omega)
 rw [h] at g
 exact ⟨s1, s2, Ev.congr (fun k => (Zz66.f_eq ..).trans (if_neg (by omega))) (Ev.bind g (Ev.congr (fun k => if_neg (by decide)) (Ev.bind g2 (Ev.now _))))⟩
def ordF (p : Nat) : Nat → Nat → Nat → Option Nat
 | 0, _, _ => none
 | d + 1, i, y => if y = 1 then some i else ordF p d (i + 1) (y * y % p)
def ordR (r : Option Nat) : Int × Bool := match r with | some n => ((n : Int), true) | none => (0, false)
theorem order_l2 {p : Nat} {s1 s2 : Int} (h0 : 0 < p) (hp : p < 18446744073709551616) : ∀ (d i y : Nat), 63 - i = d → i ≤ 63 → y < p → Ev (fun k => Zz68.l2 k (p : Int) s1 s2 (y : Int) (i : Int)) (ordR (ordF p d i y)) := by
 intro d
 induction d with
 | zero =>
  intro i y hd hi hy
  refine Ev.step (f := fun k => some (0, false)) (fun k => ?_) (Ev.now _)
  rw [Zz68.l2_eq, if_neg (by omega)]
 | succ d ih =>
  intro i y hd hi hy
  rw [ordF]
  by_cases h : y = 1
  ·rw [if_pos h]
   refine Ev.step (f := fun k => some ((i : Int), true)) (fun k => ?_) (Ev.now _)
   rw [Zz68.l2_eq, if_pos (by omega), if_pos (by omega)]
  ·rw [if_neg h]
   refine Ev.step (fun k => Zz68.l2_eq ..) ?_
   rw [w64_succ (by omega)]
   refine Ev.congr (fun k => (if_pos (by omega)).trans (if_neg (by omega))) ?_
   exact Ev.bind (fmul_ev h0 hp) (ih (i + 1) (y * y % p) (by omega) (by omega) (Nat.mod_lt _ h0))
theorem order_ev {p y : Nat} {s1 s2 : Int} (h0 : 0 < p) (hp : p < 18446744073709551616) (hy : y < p) : Ev (fun k => Zz68.f k (p : Int) s1 s2 (y : Int)) (ordR (ordF p 63 0 y)) :=
 Ev.congr (fun k => Zz68.f_eq ..) (order_l2 h0 hp _ 0 y rfl (Nat.zero_le _) hy)
theorem pow_sq (y p s : Nat) : (y * y % p) ^ 2 ^ s % p = y ^ 2 ^ (s + 1) % p := by
 rw [← Nat.pow_mod, ← Nat.pow_two, ← Nat.pow_mul, Nat.pow_succ, Nat.mul_comm 2]
theorem ordF_some {p : Nat} (h2 : 2 ≤ p) : ∀ (d i y t : Nat), y < p → t < d → y ^ 2 ^ t % p = 1 → (∀ s, s < t → y ^ 2 ^ s % p ≠ 1) → ordF p d i y = some (i + t) := by
 intro d
 induction d with
 | zero => intro i y t hy ht; omega
 | succ d ih =>
  intro i y t hy ht h1 hno
  rw [ordF]
  by_cases h : y = 1
  ·rw [if_pos h]
   rcases Nat.eq_zero_or_pos t with h3 | h3
   ·rw [h3, Nat.add_zero]
   ·exact absurd (show y ^ 2 ^ 0 % p = 1 by rw [Nat.pow_zero, Nat.pow_one, h, Nat.mod_eq_of_lt (by omega)]) (hno 0 h3)
  ·rw [if_neg h]
   cases t with
   | zero => rw [Nat.pow_zero, Nat.pow_one, Nat.mod_eq_of_lt hy] at h1; exact absurd h1 h
   | succ t =>
    have := ih (i + 1) (y * y % p) t (Nat.mod_lt _ (by omega)) (by omega) (by rw [pow_sq]; exact h1) (fun s hs => by rw [pow_sq]; exact hno (s + 1) (by omega))
    rw [this]
    congr 1; omega
theorem ordF_none {p : Nat} (h2 : 2 ≤ p) : ∀ (d i y : Nat), y < p → (∀ s, s < d → y ^ 2 ^ s % p ≠ 1) → ordF p d i y = none := by
 intro d
 induction d with
 | zero => intro i y _ _; rfl
 | succ d ih =>
  intro i y hy hno
  rw [ordF]
  have h : y ≠ 1 := fun h => hno 0 (Nat.succ_pos d) (by rw [Nat.pow_zero, Nat.pow_one, h, Nat.mod_eq_of_lt (by omega)])
  rw [if_neg h]
  exact ih (i + 1) (y * y % p) (Nat.mod_lt _ (by omega)) (fun s hs => by rw [pow_sq]; exact hno (s + 1) (by omega))
theorem first_one (p y : Nat) : ∀ d, (∃ t, t < d ∧ y ^ 2 ^ t % p = 1 ∧ ∀ s, s < t → y ^ 2 ^ s % p ≠ 1) ∨ ∀ s, s < d → y ^ 2 ^ s % p ≠ 1 := by
 intro d
 induction d with
 | zero => exact .inr fun s hs => by omega
 | succ d ih =>
  rcases ih with ⟨t, h1, h2, h3⟩ | h
  ·exact .inl ⟨t, by omega, h2, h3⟩
  ·by_cases h1 : y ^ 2 ^ d % p = 1
   ·exact .inl ⟨d, Nat.lt_succ_self d, h1, h⟩
   ·refine .inr fun s hs => ?_
    by_cases h4 : s = d
    ·rw [h4]; exact h1
    ·exact h s (by omega)

theorem radd_f (k : Nat) {x y m : Nat} (h0 : 0 < m) (hm : m ≤ 9223372036854775808) : Zz99.f k (x : Int) (y : Int) (m : Int) = some (((x + y) % m : Nat) : Int) := by
 have h1 := Nat.mod_lt x h0
 have h2 := Nat.mod_lt y h0
 rw [Zz99.f_eq, if_neg (by omega), if_neg (by omega), if_neg (by omega), tmodN, tmodN, addN, wrapN _ (by omega), tmodN, ← Nat.add_mod]
theorem radd_ev {x y m : Nat} (h0 : 0 < m) (hm : m ≤ 9223372036854775808) : Ev (fun k => Zz99.f k (x : Int) (y : Int) (m : Int)) (((x + y) % m : Nat) : Int) := ⟨0, fun k _ => radd_f k h0 hm⟩
theorem rhalf {n : Nat} (hn : n < 18446744073709551616) : IntKind.u64.wrap (Int.tdiv (n : Int) 2) = ((n / 2 : Nat) : Int) := by
 have e : Int.tdiv (n : Int) 2 = ((n / 2 : Nat) : Int) := rfl
 rw [e, wrapN _ (by omega)]
theorem rmul_l4 {m : Nat} (h0 : 0 < m) (hm : m ≤ 9223372036854775808) : ∀ (y x out : Nat), y < 18446744073709551616 → out < m → Ev (fun k => Zz101.l4 k (x : Int) (y : Int) (m : Int) (out : Int)) (((out + x * y) % m : Nat) : Int) := by
 intro y
 induction y using Nat.strongRecOn with
 | _ y ih =>
  intro x out hy ho
  by_cases hz : y = 0
  ·subst hz
   rw [Nat.mul_zero, Nat.add_zero, Nat.mod_eq_of_lt ho]
   exact Ev.step (fun k => (Zz101.l4_eq ..).trans (if_neg (by decide))) (Ev.now _)
  ·have ht : Int.tmod (y : Int) 2 = ((y % 2 : Nat) : Int) := rfl
   have hdm := Nat.div_add_mod y 2
   by_cases h1 : y % 2 = 1
   ·have g := ih (y / 2) (by omega) ((x + x) % m) ((out + x) % m) (by omega) (Nat.mod_lt _ h0)
    have e : ((out + x) % m + (x + x) % m * (y / 2)) % m = (out + x * y) % m := by
     rw [Nat.add_mod, Nat.mod_mod, Nat.mod_mul_mod, ← Nat.add_mod]
     congr 1
     rw [h1] at hdm
     have : x * y = x * (2 * (y / 2) + 1) := by rw [hdm]
     rw [this]; grind
    rw [e] at g
    refine Ev.step (fun k => Zz101.l4_eq ..) ?_
    rw [ht, rhalf hy]
    refine Ev.congr (fun k => (if_pos (by omega)).trans (if_pos (by omega))) ?_
    exact Ev.bind (radd_ev h0 hm) (Ev.bind (radd_ev h0 hm) g)
   ·have g := ih (y / 2) (by omega) ((x + x) % m) out (by omega) ho
    have e : (out + (x + x) % m * (y / 2)) % m = (out + x * y) % m := by
     rw [Nat.add_mod, Nat.mod_mul_mod, ← Nat.add_mod]
     congr 1
     have h10 : y % 2 = 0 := by omega
     rw [h10] at hdm
     have : x * y = x * (2 * (y / 2) + 0) := by rw [hdm]
     rw [this]; grind
    rw [e] at g
    refine Ev.step (fun k => Zz101.l4_eq ..) ?_
    rw [ht, rhalf hy]
    refine Ev.congr (fun k => (if_pos (by omega)).trans (if_neg (by omega))) ?_
    exact Ev.bind (radd_ev h0 hm) g
theorem rmul_ev {x y m : Nat} (h0 : 0 < m) (hm : m ≤ 9223372036854775808) : Ev (fun k => Zz101.f k (x : Int) (y : Int) (m : Int)) ((x * y % m : Nat) : Int) := by
 refine Ev.congr (fun k => (Zz101.f_eq ..).trans ((if_neg (by omega)).trans (if_neg (by omega)))) ?_
 have h2 := Nat.mod_lt y h0
 have g := rmul_l4 h0 hm (y % m) (x % m) 0 (by omega) h0
 rw [Nat.zero_add, ← Nat.mul_mod] at g
 rw [tmodN, tmodN]
 exact g
end Go.Proofs.YtkoeddgbhohggaaGreatDoor.Pure
end
section
namespace Go.Proofs.YtkoeddgbhohggaaGreatDoor.Pure
set_option linter.unusedVariables false
set_option linter.unusedSimpArgs false
end Go.Proofs.YtkoeddgbhohggaaGreatDoor.Pure
end
section
namespace Go.Proofs.YtkoeddgbhohggaaGreatDoor.Pure
open Go.RowKit Go.Proofs.YtkoeddgbhohggaaGreatDoor.F Go.Proofs.YtkoeddgbhohggaaGreatDoorW.PrintWords Go.Proofs.YtkoeddgbhohggaaGreatDoorW.PrintLast Go.Proofs.YtkoeddgbhohggaaGreatDoorW.PrintMore
set_option linter.unusedVariables false
set_option linter.unusedSimpArgs false
theorem pow_one_up {y p a b : Nat} (hp : 1 < p) (h : y ^ 2 ^ a % p = 1) (hab : a ≤ b) : y ^ 2 ^ b % p = 1 := by
 obtain ⟨c, rfl⟩ : ∃ c, b = a + c := ⟨b - a, by omega⟩
 rw [Nat.pow_add, Nat.pow_mul, Nat.pow_mod, h, Nat.one_pow, Nat.mod_eq_of_lt hp]
def firstX (p e k : Nat) : Nat → Nat → Nat
 | 0, x => x
 | d + 1, x => if ordF p 63 0 (x ^ e % p) = some k then x else firstX p e k d (x + 1)
theorem firstX_good {p e k : Nat} : ∀ (d x X : Nat), X - x = d → x ≤ X → ordF p 63 0 (X ^ e % p) = some k → ordF p 63 0 (firstX p e k d x ^ e % p) = some k := by
 intro d
 induction d with
 | zero =>
  intro x X hd hx h
  have : x = X := by omega
  subst this
  exact h
 | succ d ih =>
  intro x X hd hx h
  rw [firstX]
  by_cases h1 : ordF p 63 0 (x ^ e % p) = some k
  ·rw [if_pos h1]; exact h1
  ·rw [if_neg h1]; exact ih (x + 1) X (by omega) (by omega) h
theorem root_l8 {p k e : Nat} {s1 s2 : Int} (h2 : 2 ≤ p) (hp : p < 9223372036854775808) (hk : k ≤ 62) (he : e = (p - 1) / 2 ^ k) (X : Nat) (hX : X < 9223372036854775808) (hXo : ordF p 63 0 (X ^ e % p) = some k) :
  ∀ (d x : Nat), X - x = d → x ≤ X → Ev (fun q => Zz63.l8 q (p : Int) (k : Int) (p : Int) s1 s2 (x : Int)) (((firstX p e k d x ^ e % p : Nat) : Int), 0) := by
 have ep : IntKind.u64.wrap ((p : Int) - 1) = ((p - 1 : Nat) : Int) := u_pred (by omega) (by omega)
 have ek : IntKind.u64.wrap (k : Int) = (k : Int) := wrapN k (by omega)
 have esh : shr .u64 ((p - 1 : Nat) : Int) (k : Int) = (e : Int) := by rw [shr_nat (p - 1) (s := k) (by omega), he]
 have hen : e < 18446744073709551616 := by rw [he]; exact Nat.lt_of_le_of_lt (Nat.div_le_self _ _) (by omega)
 have now : ∀ x, ordF p 63 0 (x ^ e % p) = some k → Ev (fun q => Zz63.l8 q (p : Int) (k : Int) (p : Int) s1 s2 (x : Int)) (((x ^ e % p : Nat) : Int), 0) := fun x h => by
  have gp := fpow_ev (s1 := s1) (s2 := s2) (x := x) (n := e) (show 0 < p by omega) (by omega) hen
  have go := order_ev (s1 := s1) (s2 := s2) (show 0 < p by omega) (show p < 18446744073709551616 by omega) (Nat.mod_lt (x ^ e) (show 0 < p by omega))
  rw [h] at go
  refine Ev.step (fun q => Zz63.l8_eq ..) ?_
  rw [ek, ep, esh]
  exact Ev.congr (fun q => if_pos (Int.natCast_nonneg k)) (Ev.bind gp (Ev.bind go (Ev.congr (fun q => (if_neg (show ¬ ((!true) = true) by decide)).trans (if_pos rfl)) (Ev.now _))))
 intro d
 induction d with
 | zero =>
  intro x hd hx
  have : x = X := by omega
  subst this
  exact now x hXo
 | succ d ih =>
  intro x hd hx
  rw [firstX]
  by_cases h : ordF p 63 0 (x ^ e % p) = some k
  ·rw [if_pos h]; exact now x h
  ·rw [if_neg h]
   have g := ih (x + 1) (by omega) (by omega)
   have gp := fpow_ev (s1 := s1) (s2 := s2) (x := x) (n := e) (show 0 < p by omega) (by omega) hen
   have go := order_ev (s1 := s1) (s2 := s2) (show 0 < p by omega) (show p < 18446744073709551616 by omega) (Nat.mod_lt (x ^ e) (show 0 < p by omega))
   have e1 : IntKind.u64.wrap ((x : Int) + 1) = ((x + 1 : Nat) : Int) := by rw [show (1 : Int) = ((1 : Nat) : Int) from rfl, addN, wrapN _ (by omega)]
   refine Ev.step (fun q => Zz63.l8_eq ..) ?_
   rw [ek, ep, esh, e1]
   refine Ev.congr (fun q => if_pos (Int.natCast_nonneg k)) (Ev.bind gp (Ev.bind go ?_))
   cases h3 : ordF p 63 0 (x ^ e % p) with
   | none => exact Ev.congr (fun q => if_pos (show (!false) = true by decide)) g
   | some n =>
    rw [h3] at h
    exact Ev.congr (fun q => (if_neg (show ¬ ((!true) = true) by decide)).trans (if_neg (fun h4 => h (congrArg some (Int.ofNat_inj.1 h4))))) g
theorem root_mask {p K : Nat} (hp : p < 9223372036854775808) (h2 : 1 ≤ p) (hK : K ≤ 62) : Go.bits .and .u64 (IntKind.u64.wrap ((p : Int) - 1)) (IntKind.u64.wrap ((shl .u64 1 (IntKind.u64.wrap (K : Int))) - 1)) = (((p - 1) % 2 ^ K : Nat) : Int) := by
 have hpw : 2 ^ K ≤ 2 ^ 62 := Nat.pow_le_pow_right (by decide) hK
 have hpw0 : 0 < 2 ^ K := Nat.pow_pos (by decide)
 have e0 : shl .u64 1 (K : Int) = ((2 ^ K : Nat) : Int) := by
  have := shl_nat 1 (s := K) (by omega)
  rw [Nat.one_mul, Nat.mod_eq_of_lt (by omega)] at this
  exact this
 rw [wrapN K (by omega), e0, u_pred hpw0 (by omega), u_pred (by omega) (by omega), bits_and_u64_nat (p - 1) (2 ^ K - 1) (by omega) (by omega), Nat.and_two_pow_sub_one_eq_mod]
theorem root_some {p K X : Nat} (hp : p < 9223372036854775808) (hN : isN p = true) (hK : K ≤ 62) (hd : 2 ^ K ∣ p - 1) (h1 : 1 ≤ X) (hX : X < 9223372036854775808) (hXo : ordF p 63 0 (X ^ ((p - 1) / 2 ^ K) % p) = some K) : Ev (fun q => Zz63.f q (p : Int) (K : Int)) (((firstX p ((p - 1) / 2 ^ K) K (X - 1) 1 ^ ((p - 1) / 2 ^ K) % p : Nat) : Int), 0) := by
 have h2 : 2 ≤ p := Nat.le_of_not_lt fun h3 => by unfold isN at hN; rw [if_pos h3] at hN; cases hN
 obtain ⟨s1, s2, gf⟩ := field_yes hp hN
 have g := root_l8 (s1 := s1) (s2 := s2) h2 hp hK rfl X hX hXo _ 1 rfl h1
 refine Ev.congr (fun q => Zz63.f_eq ..) (Ev.bind gf (Ev.congr (fun q => (elim_some _ _ _).trans (if_pos rfl)) ?_))
 refine Ev.congr (fun q => (if_neg (by omega)).trans ((if_neg (by omega)).trans (if_pos ?_))) ?_
 ·rw [wrapN K (by omega)]; omega
 rw [root_mask hp (by omega) hK, Nat.mod_eq_zero_of_dvd hd]
 exact Ev.congr (fun q => if_pos rfl) g
def sqn (p : Nat) : Nat → Nat → Nat
 | 0, y => y % p
 | s + 1, y => sqn p s (y * y % p)
structure Great (p c k a : Nat) : Prop where
 eq : p = c * 2 ^ k + 1
 k1 : 1 ≤ k
 c0 : 0 < c
 cl : c < 2 ^ k
 a1 : 1 ≤ a
 al : a < 9223372036854775808
 lt : p < 9223372036854775808
 non : sqn p (k - 1) (a ^ c % p) = p - 1
def pwm (n : Nat) : Nat → Nat → Nat → Nat → Nat
 | 0, _, _, x => x
 | f + 1, b, e, x => pwm n f (b * b % n) (e / 2) (cond (Nat.beq (e % 2) 1) (x * b % n) x)
theorem pwm_eq {n : Nat} : ∀ (f b e x : Nat), e < 2 ^ f → x < n → pwm n f b e x = x * b ^ e % n
 | 0, b, e, x, h, hx => by
  have : e = 0 := by rw [Nat.pow_zero] at h; omega
  subst this
  rw [Nat.pow_zero, Nat.mul_one, Nat.mod_eq_of_lt hx]; rfl
 | f + 1, b, e, x, h, hx => by
  rw [Nat.pow_succ] at h
  have hb : b ^ e = (b * b) ^ (e / 2) * b ^ (e % 2) := by
   rw [← Nat.pow_two, ← Nat.pow_mul, ← Nat.pow_add]
   congr 1
   omega
  have hm : (b * b % n) ^ (e / 2) % n = (b * b) ^ (e / 2) % n := (Nat.pow_mod _ _ _).symm
  unfold pwm
  cases ho : Nat.beq (e % 2) 1 with
  | true =>
   have h1 := Nat.eq_of_beq_eq_true ho
   rw [cond_true, pwm_eq f _ _ _ (by omega) (Nat.mod_lt _ (by omega)), hb, h1, Nat.pow_one]
   rw [Nat.mul_mod, hm, Nat.mod_mod, ← Nat.mul_mod]
   congr 1
   grind
  | false =>
   have h1 : e % 2 = 0 := by
    rcases Nat.mod_two_eq_zero_or_one e with h2 | h2
    ·exact h2
    ·rw [h2] at ho; cases ho
   rw [cond_false, pwm_eq f _ _ _ (by omega) hx, hb, h1, Nat.pow_zero, Nat.mul_one]
   rw [Nat.mul_mod, hm, ← Nat.mul_mod]
theorem pock {n q a r : Nat} (hq : Pr q) (h2 : 2 ≤ n) (hd : q ∣ n - 1) (h1 : a ^ (n - 1) % n = 1) (hg : Nat.gcd (a ^ ((n - 1) / q) % n + (n - 1)) n = 1) (hr : Pr r) (hrn : r ∣ n) : q ∣ r - 1 := by
 have hr2 := hr.1
 obtain ⟨t, ht⟩ := hd
 have hq0 : 0 < q := by have := hq.1; omega
 have et : (n - 1) / q = t := by rw [ht, Nat.mul_div_cancel_left _ hq0]
 rw [et] at hg
 have hone : 1 % r = 1 := Nat.mod_eq_of_lt (by omega)
 have hb1 : (a ^ t) ^ q % r = 1 := by
  rw [← Nat.pow_mul, Nat.mul_comm t q, ← ht, ← Nat.mod_mod_of_dvd _ hrn, h1, hone]
 have hna : ¬ r ∣ a ^ t := fun h => by
  have h3 : r ∣ (a ^ t) ^ q := Nat.dvd_trans h (Nat.dvd_of_pow_dvd hq0 (Nat.dvd_refl _))
  have := Nat.mod_eq_zero_of_dvd h3
  omega
 have hf := hr.fermat hna
 apply Classical.byContradiction
 intro hqr
 have hfq := hq.fermat hqr
 obtain ⟨v, hv⟩ : ∃ v, (r - 1) ^ (q - 1) = q * v + 1 := ⟨(r - 1) ^ (q - 1) / q, by have := Nat.div_add_mod ((r - 1) ^ (q - 1)) q; omega⟩
 have hj : q - 1 = (q - 2) + 1 := by have := hq.1; omega
 have hb2 : (a ^ t) ^ ((r - 1) ^ (q - 1)) % r = 1 := by
  rw [hj, Nat.pow_succ, Nat.mul_comm, Nat.pow_mul, Nat.pow_mod, hf, Nat.one_pow, hone]
 have hb3 : (a ^ t) ^ (q * v + 1) % r = a ^ t % r := by
  rw [Nat.pow_succ, Nat.pow_mul, Nat.mul_mod, Nat.pow_mod, hb1, Nat.one_pow, hone, Nat.one_mul, Nat.mod_mod]
 rw [hv, hb3] at hb2
 have h5 : r ∣ a ^ t % n + (n - 1) := by
  apply Nat.dvd_of_mod_eq_zero
  have h6 : (a ^ t % n) % r = 1 := by rw [Nat.mod_mod_of_dvd _ hrn, hb2]
  have h7 : a ^ t % n + (n - 1) + 1 = a ^ t % n + n := by omega
  have h8 : (a ^ t % n + (n - 1) + 1) % r = 1 := by rw [h7, Nat.add_mod, h6, Nat.mod_eq_zero_of_dvd hrn, Nat.add_zero, hone]
  have h10 := Nat.mod_lt (a ^ t % n + (n - 1)) (show 0 < r by omega)
  by_cases h11 : (a ^ t % n + (n - 1)) % r + 1 = r
  ·rw [Nat.add_mod, hone, h11, Nat.mod_self] at h8; cases h8
  ·rw [Nat.add_mod, hone, Nat.mod_eq_of_lt (by omega)] at h8; omega
 have h12 := Nat.dvd_gcd h5 hrn
 rw [hg] at h12
 have := Nat.le_of_dvd (by decide) h12
 omega
def certB (n : Nat) : List (Nat × Nat) → Nat → Bool
 | [], P => Nat.blt n ((P + 1) * (P + 1))
 | (q, a) :: l, P => Nat.beq ((n - 1) % q) 0 && (Nat.beq (Nat.gcd P q) 1 && (Nat.beq (pwm n 64 a (n - 1) 1) 1 && (Nat.beq (Nat.gcd (pwm n 64 a ((n - 1) / q) 1 + (n - 1)) n) 1 && certB n l (P * q))))
theorem cert_go {n : Nat} (h2 : 2 ≤ n) (hn : n < 18446744073709551616) {r m : Nat} (hr : Pr r) (hrm : n = r * m) (hle : r ≤ m) : ∀ (l : List (Nat × Nat)) (P : Nat), (∀ x ∈ l, Pr x.1) → P ∣ r - 1 → certB n l P = true → False
 | [], P, _, hP, h => by
  have h4 : n < (P + 1) * (P + 1) := Nat.le_of_ble_eq_true h
  have h3 := Nat.le_of_dvd (by have := hr.1; omega) hP
  have hr2 := hr.1
  have h5 : (P + 1) * (P + 1) ≤ r * m := Nat.mul_le_mul (by omega) (by omega)
  omega
 | (q, a) :: l, P, hp, hP, h => by
  simp only [certB, Bool.and_eq_true] at h
  obtain ⟨h3, h4, h5, h6, h7⟩ := h
  have h3 := Nat.eq_of_beq_eq_true h3
  have h4 := Nat.eq_of_beq_eq_true h4
  have h5 := Nat.eq_of_beq_eq_true h5
  have h6 := Nat.eq_of_beq_eq_true h6
  have h64 : (2 : Nat) ^ 64 = 18446744073709551616 := by decide
  have hle2 := Nat.div_le_self (n - 1) q
  rw [pwm_eq 64 _ _ _ (by omega) (by omega), Nat.one_mul] at h5 h6
  have hq := hp _ List.mem_cons_self
  have hd := pock hq h2 (Nat.dvd_of_mod_eq_zero h3) h5 h6 hr ⟨m, hrm⟩
  exact cert_go h2 hn hr hrm hle l (P * q) (fun x hx => hp x (List.mem_cons_of_mem _ hx)) (Nat.Coprime.mul_dvd_of_dvd_of_dvd h4 hP hd) h7
theorem cert_pr {n : Nat} {l : List (Nat × Nat)} (h2 : 2 ≤ n) (hn : n < 18446744073709551616) (hp : ∀ x ∈ l, Pr x.1) (h : certB n l 1 = true) : Pr n := by
 apply Classical.byContradiction
 intro hnp
 obtain ⟨r, m, hr, hrm, hle⟩ := composite h2 hnp
 exact cert_go h2 hn hr hrm hle l 1 hp (Nat.one_dvd _) h
end Go.Proofs.YtkoeddgbhohggaaGreatDoor.Pure
end
