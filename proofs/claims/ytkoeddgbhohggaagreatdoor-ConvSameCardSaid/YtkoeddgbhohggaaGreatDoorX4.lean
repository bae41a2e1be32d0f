/-
  Texts of this proof, one behind the other: Da. No condition of their own.
-/
import Derived.Test.YtkoeddgbhohggaaGreatDoorX3
import Derived.Test.YtkoeddgbhohggaaGreatDoorProg
section
namespace Go.Proofs.YtkoeddgbhohggaaGreatDoor.F
open Go.Proofs.YtkoeddgbhohggaaGreatDoor.E Go.RowKit Go.Proofs.YtkoeddgbhohggaaGreatDoorW.PrintWords Go.Proofs.YtkoeddgbhohggaaGreatDoorW.PrintLast
set_option linter.unusedVariables false
set_option maxRecDepth 100000
noncomputable abbrev PG : Program := Go.Proofs.Tryz.prog
def T0x : List (Nat × Bool) := [(72, true), (92, false)]
theorem T0ex : ExAll PG T0x := ⟨fun x y c h w => by rw [run_callFunc_extern Go.Proofs.Tryz.func72 (by kernel_rfl) (by kernel_rfl) (by kernel_rfl) (e := adEntry) (by kernel_rfl), adRun0 x y c h]; rfl, ⟨fun x y c h w => by rw [run_callFunc_extern Go.Proofs.Tryz.func92 (by kernel_rfl) (by kernel_rfl) (by kernel_rfl) (e := sbEntry) (by kernel_rfl), sbRun0 x y c h]; rfl, trivial⟩⟩
noncomputable def T0 : TT := TT.of PG [2, 3, 4, 5, 9, 22, 23, 25, 32, 35, 37, 39, 41, 43, 58, 65, 77, 79, 85, 93, 104, 105, 125, 130, 135, 138, 152] T0x
def Zz13.A : AK := .p (.int .u64) (.p (.int .u64) (.p (.int .u64) .nil))
def Zz13.Q : RK := .p (.int .u64) (.p (.int .u64) .nil)
def Zz13.h : (Int × Int) → Zz13.Q.T × List Int := fun b => ((b.1, b.2, ()), [])
noncomputable def Zz13.D : Decl (Int × Int) := ⟨(Go.Proofs.Tryz.f63.body).getD .skip, 135, [.tmp 6, .tmp 7], Zz13.A, Zz13.Q, fun y m => (y.1, y.2.1), T0, [], [(24, [(2, .p (some (.int .u64))), (8, .p (some (.int .u64))), (9, .p (some (.int .u64))), (10, .p (some (.int .u64))), (14, .p (some (.int .u64))), (15, .p (some (.int .u64))), (16, .p (some (.int .u64))), (17, .p (some (.int .u64))), (18, .p (some (.int .u64)))]), (17, [(2, .p (some (.int .u64))), (8, .p (some (.int .u64))), (9, .p (some (.int .u64))), (10, .p (some (.int .u64))), (11, .p (some (.int .u64))), (13, .p (some (.int .u64))), (14, .p (some (.int .u64))), (15, .p (some (.int .u64))), (16, .p (some (.int .u64)))])], []⟩
noncomputable def Zz13.S (k : Nat) : List (Nat × E.Spec (Int × Int)) := [(78, told _ Zz14.A Zz14.Q (Zz14.g k) Zz14.h)]
noncomputable def Zz13.l24 (k : Nat) (x2 x8 x9 x10 x14 x15 x16 x17 x18 : Int) : Option (Int × Int) := Zz13.D.F Zz13.S k 49 [.p (.lit (.int .u64 x2)), .p (.lit (.int .u64 x8)), .p (.lit (.int .u64 x9)), .p (.lit (.int .u64 x10)), .p (.lit (.int .u64 x14)), .p (.lit (.int .u64 x15)), .p (.lit (.int .u64 x16)), .p (.lit (.int .u64 x17)), .p (.lit (.int .u64 x18))]
noncomputable def Zz13.l17 (k : Nat) (x2 x8 x9 x10 x11 x13 x14 x15 x16 : Int) : Option (Int × Int) := Zz13.D.F Zz13.S k 35 [.p (.lit (.int .u64 x2)), .p (.lit (.int .u64 x8)), .p (.lit (.int .u64 x9)), .p (.lit (.int .u64 x10)), .p (.lit (.int .u64 x11)), .p (.lit (.int .u64 x13)), .p (.lit (.int .u64 x14)), .p (.lit (.int .u64 x15)), .p (.lit (.int .u64 x16))]
noncomputable def Zz13.f0 (k : Nat) (a0 a1 a2 : Int) : Option (Int × Int) := Zz13.D.val Zz13.S k (a0, a1, a2, ())
noncomputable def Zz13.f := (still Zz13.f0).1
theorem Zz13.f_def : Zz13.f = Zz13.f0 := (still Zz13.f0).2
noncomputable def Zz13.g (k : Nat) (x : Zz13.A.T) : Option (Int × Int) := Zz13.f k (x.1) (x.2.1) (x.2.2.1)
theorem Zz13.does (k : Nat) : Does PG 63 Zz13.A Zz13.Q (Zz13.g k) Zz13.h := (show Zz13.g k = Zz13.D.val Zz13.S k from funext fun _ => by unfold Zz13.g; rw [Zz13.f_def]; rfl) ▸ Decl.does (D := Zz13.D) (S := Zz13.S) (fn := Go.Proofs.Tryz.f63) (by constructor <;> first | kernel_rfl | exact TT.of_ok _ T0ex) (fun k => ⟨told_ok (Zz14.does k), trivial⟩) (fun _ _ h => by rw [h rfl]; rfl) k
def Zz60.A : AK := .p (.row .u64) .nil
def Zz60.Q : RK := .p (.row .u64) .nil
def Zz60.h : List Int → Zz60.Q.T × List Int := fun b => ((b, ()), [])
noncomputable def Zz60.D : Decl (List Int) := ⟨(Go.Proofs.Tryz.f64.body).getD .skip, 21, [.tmp 2], Zz60.A, Zz60.Q, fun y m => y.1, T0, [], [(2, [(0, .p (some (.row .u64))), (3, .p (some (.int .i64)))])], []⟩
noncomputable def Zz60.S (k : Nat) : List (Nat × E.Spec (List Int)) := []
noncomputable def Zz60.l2 (k : Nat) (x0 : List Int) (x3 : Int) : Option (List Int) := Zz60.D.F Zz60.S k 5 [.p (.row .u64 x0), .p (.lit (.int .i64 x3))]
noncomputable def Zz60.f0 (k : Nat) (a0 : List Int) : Option (List Int) := Zz60.D.val Zz60.S k (a0, ())
noncomputable def Zz60.f := (still Zz60.f0).1
theorem Zz60.f_def : Zz60.f = Zz60.f0 := (still Zz60.f0).2
noncomputable def Zz60.g (k : Nat) (x : Zz60.A.T) : Option (List Int) := Zz60.f k (x.1)
theorem Zz60.does (k : Nat) : Does PG 64 Zz60.A Zz60.Q (Zz60.g k) Zz60.h := (show Zz60.g k = Zz60.D.val Zz60.S k from funext fun _ => by unfold Zz60.g; rw [Zz60.f_def]; rfl) ▸ Decl.does (D := Zz60.D) (S := Zz60.S) (fn := Go.Proofs.Tryz.f64) (by constructor <;> first | kernel_rfl | exact TT.of_ok _ T0ex) (fun k => trivial) (fun _ _ h => by rw [h rfl]; rfl) k
def Zz45.A : AK := .p (.row .u64) (.p (.int .u64) .nil)
def Zz45.Q : RK := .p (.row .u64) (.p (.int .u64) (.p (.int .i64) .nil))
def Zz45.h : (List Int × Int × Int) → Zz45.Q.T × List Int := fun b => ((b.1, b.2.1, b.2.2, ()), [])
noncomputable def Zz45.D : Decl (List Int × Int × Int) := ⟨(Go.Proofs.Tryz.f44.body).getD .skip, 38, [.tmp 4, .tmp 5, .tmp 6], Zz45.A, Zz45.Q, fun y m => (y.1, y.2.1, y.2.2.1), T0, [], [(6, [(0, .p (some (.row .u64))), (1, .p (some (.int .u64))), (7, .m (.num .u64) 23), (8, .p (some (.int .u64))), (9, .p (some (.int .i64)))])], [(9, [7])]⟩
noncomputable def Zz45.S (k : Nat) : List (Nat × E.Spec (List Int × Int × Int)) := [(63, told _ Zz13.A Zz13.Q (Zz13.g k) Zz13.h), (64, told _ Zz60.A Zz60.Q (Zz60.g k) Zz60.h)]
noncomputable def Zz45.l6 (k : Nat) (x0 : List Int) (x1 : Int) (x7 : List Int) (x8 x9 : Int) : Option (List Int × Int × Int) := Zz45.D.F Zz45.S k 13 [.p (.row .u64 x0), .p (.lit (.int .u64 x1)), .m x7, .p (.lit (.int .u64 x8)), .p (.lit (.int .i64 x9))]
noncomputable def Zz45.f0 (k : Nat) (a0 : List Int) (a1 : Int) : Option (List Int × Int × Int) := Zz45.D.val Zz45.S k (a0, a1, ())
noncomputable def Zz45.f := (still Zz45.f0).1
theorem Zz45.f_def : Zz45.f = Zz45.f0 := (still Zz45.f0).2
noncomputable def Zz45.g (k : Nat) (x : Zz45.A.T) : Option (List Int × Int × Int) := Zz45.f k (x.1) (x.2.1)
theorem Zz45.does (k : Nat) : Does PG 44 Zz45.A Zz45.Q (Zz45.g k) Zz45.h := (show Zz45.g k = Zz45.D.val Zz45.S k from funext fun _ => by unfold Zz45.g; rw [Zz45.f_def]; rfl) ▸ Decl.does (D := Zz45.D) (S := Zz45.S) (fn := Go.Proofs.Tryz.f44) (by constructor <;> first | kernel_rfl | exact TT.of_ok _ T0ex) (fun k => ⟨told_ok (Zz13.does k), ⟨told_ok (Zz60.does k), trivial⟩⟩) (fun _ _ h => by rw [h rfl]; rfl) k
def Zz3.A : AK := .p (.agg (.cons (.bool) (.cons (.row .u64) .nil))) (.p (.int .u64) .nil)
def Zz3.Q : RK := .p (.int .u64) (.p (.int .i64) .nil)
def Zz3.h : (Int × Int) → Zz3.Q.T × List Int := fun b => ((b.1, b.2, ()), [])
noncomputable def Zz3.D : Decl (Int × Int) := ⟨(Go.Proofs.Tryz.f25.body).getD .skip, 28, [.tmp 4, .tmp 5], Zz3.A, Zz3.Q, fun y m => (y.1, y.2.1), T0, [], [], []⟩
noncomputable def Zz3.S (k : Nat) : List (Nat × E.Spec (Int × Int)) := [(44, told _ Zz45.A Zz45.Q (Zz45.g k) Zz45.h)]
noncomputable def Zz3.f0 (k : Nat) (a0_0 : Bool) (a0_1 : List Int) (a1 : Int) : Option (Int × Int) := Zz3.D.val Zz3.S k ((a0_0, a0_1, ()), a1, ())
noncomputable def Zz3.f := (still Zz3.f0).1
theorem Zz3.f_def : Zz3.f = Zz3.f0 := (still Zz3.f0).2
noncomputable def Zz3.g (k : Nat) (x : Zz3.A.T) : Option (Int × Int) := Zz3.f k (x.1.1) (x.1.2.1) (x.2.1)
theorem Zz3.does (k : Nat) : Does PG 25 Zz3.A Zz3.Q (Zz3.g k) Zz3.h := (show Zz3.g k = Zz3.D.val Zz3.S k from funext fun _ => by unfold Zz3.g; rw [Zz3.f_def]; rfl) ▸ Decl.does (D := Zz3.D) (S := Zz3.S) (fn := Go.Proofs.Tryz.f25) (by constructor <;> first | kernel_rfl | exact TT.of_ok _ T0ex) (fun k => ⟨told_ok (Zz45.does k), trivial⟩) (fun _ _ h => by rw [h rfl]; rfl) k
def Zz19.A : AK := .p (.int .u64) (.p (.int .u64) (.p (.int .u64) .nil))
def Zz19.Q : RK := .p (.int .u64) .nil
def Zz19.h : Int → Zz19.Q.T × List Int := fun b => ((b, ()), [])
noncomputable def Zz19.D : Decl Int := ⟨(Go.Proofs.Tryz.f66.body).getD .skip, 19, [.tmp 6], Zz19.A, Zz19.Q, fun y m => y.1, T0, [], [], []⟩
noncomputable def Zz19.S (k : Nat) : List (Nat × E.Spec Int) := [(63, told _ Zz13.A Zz13.Q (Zz13.g k) Zz13.h)]
noncomputable def Zz19.f0 (k : Nat) (a0 a1 a2 : Int) : Option Int := Zz19.D.val Zz19.S k (a0, a1, a2, ())
noncomputable def Zz19.f := (still Zz19.f0).1
theorem Zz19.f_def : Zz19.f = Zz19.f0 := (still Zz19.f0).2
noncomputable def Zz19.g (k : Nat) (x : Zz19.A.T) : Option Int := Zz19.f k (x.1) (x.2.1) (x.2.2.1)
theorem Zz19.does (k : Nat) : Does PG 66 Zz19.A Zz19.Q (Zz19.g k) Zz19.h := (show Zz19.g k = Zz19.D.val Zz19.S k from funext fun _ => by unfold Zz19.g; rw [Zz19.f_def]; rfl) ▸ Decl.does (D := Zz19.D) (S := Zz19.S) (fn := Go.Proofs.Tryz.f66) (by constructor <;> first | kernel_rfl | exact TT.of_ok _ T0ex) (fun k => ⟨told_ok (Zz13.does k), trivial⟩) (fun _ _ h => by rw [h rfl]; rfl) k
def Zz110.A : AK := .p (.fp 77 (.cons (.int .u64) (.cons (.int .u64) (.cons (.int .u64) .nil)))) (.p (.int .u64) (.p (.int .u64) .nil))
def Zz110.Q : RK := .p (.int .u64) .nil
def Zz110.h : Int → Zz110.Q.T × List Int := fun b => ((b, ()), [])
noncomputable def Zz110.D : Decl Int := ⟨(Go.Proofs.Tryz.f45.body).getD .skip, 34, [.tmp 6], Zz110.A, Zz110.Q, fun y m => y.1, T0, [], [], []⟩
noncomputable def Zz110.S (k : Nat) : List (Nat × E.Spec Int) := [(65, told _ Zz18.A Zz18.Q (Zz18.g k) Zz18.h), (66, told _ Zz19.A Zz19.Q (Zz19.g k) Zz19.h)]
noncomputable def Zz110.f0 (k : Nat) (a0_0 a0_1 a0_2 a1 a2 : Int) : Option Int := Zz110.D.val Zz110.S k ((a0_0, a0_1, a0_2, ()), a1, a2, ())
noncomputable def Zz110.f := (still Zz110.f0).1
theorem Zz110.f_def : Zz110.f = Zz110.f0 := (still Zz110.f0).2
noncomputable def Zz110.g (k : Nat) (x : Zz110.A.T) : Option Int := Zz110.f k (x.1.1) (x.1.2.1) (x.1.2.2.1) (x.2.1) (x.2.2.1)
theorem Zz110.does (k : Nat) : Does PG 45 Zz110.A Zz110.Q (Zz110.g k) Zz110.h := (show Zz110.g k = Zz110.D.val Zz110.S k from funext fun _ => by unfold Zz110.g; rw [Zz110.f_def]; rfl) ▸ Decl.does (D := Zz110.D) (S := Zz110.S) (fn := Go.Proofs.Tryz.f45) (by constructor <;> first | kernel_rfl | exact TT.of_ok _ T0ex) (fun k => ⟨told_ok (Zz18.does k), ⟨told_ok (Zz19.does k), trivial⟩⟩) (fun _ _ h => by rw [h rfl]; rfl) k
def Zz114.A : AK := .p (.int .u64) .nil
def Zz114.Q : RK := .p (.np 77 (.cons (.int .u64) (.cons (.int .u64) (.cons (.int .u64) .nil)))) (.p (.int .i64) .nil)
def Zz114.h : ((Option (Int × Int × Int × Unit)) × Int) → Zz114.Q.T × List Int := fun b => ((b.1, b.2, ()), [])
noncomputable def Zz114.D : Decl ((Option (Int × Int × Int × Unit)) × Int) := ⟨(Go.Proofs.Tryz.f27.body).getD .skip, 46, [.tmp 2, .tmp 3], Zz114.A, Zz114.Q, fun y m => (y.1, y.2.1), T0, [], [(7, [(0, .p (some (.int .u64))), (4, .p (some (.pt 3 0))), (5, .p (some (.int .u64))), (15, .b (some (.cons (.int .u64) (.cons (.int .u64) (.cons (.int .u64) .nil))))), (20, .p (some (.int .i64)))])], []⟩
noncomputable def Zz114.S (k : Nat) : List (Nat × E.Spec ((Option (Int × Int × Int × Unit)) × Int)) := [(45, told _ Zz110.A Zz110.Q (Zz110.g k) Zz110.h)]
noncomputable def Zz114.l7 (k : Nat) (x0 x5 x15_0 x15_1 x15_2 x20 : Int) : Option ((Option (Int × Int × Int × Unit)) × Int) := Zz114.D.F Zz114.S k 15 [.p (.lit (.int .u64 x0)), .p (.ptr 3 0), .p (.lit (.int .u64 x5)), .b 77 [.lit (.int .u64 x15_0), .lit (.int .u64 x15_1), .lit (.int .u64 x15_2)], .p (.lit (.int .i64 x20))]
noncomputable def Zz114.f0 (k : Nat) (a0 : Int) : Option ((Option (Int × Int × Int × Unit)) × Int) := Zz114.D.val Zz114.S k (a0, ())
noncomputable def Zz114.f := (still Zz114.f0).1
theorem Zz114.f_def : Zz114.f = Zz114.f0 := (still Zz114.f0).2
noncomputable def Zz114.g (k : Nat) (x : Zz114.A.T) : Option ((Option (Int × Int × Int × Unit)) × Int) := Zz114.f k (x.1)
theorem Zz114.does (k : Nat) : Does PG 27 Zz114.A Zz114.Q (Zz114.g k) Zz114.h := (show Zz114.g k = Zz114.D.val Zz114.S k from funext fun _ => by unfold Zz114.g; rw [Zz114.f_def]; rfl) ▸ Decl.does (D := Zz114.D) (S := Zz114.S) (fn := Go.Proofs.Tryz.f27) (by constructor <;> first | kernel_rfl | exact TT.of_ok _ T0ex) (fun k => ⟨told_ok (Zz110.does k), trivial⟩) (fun _ _ h => by rw [h rfl]; rfl) k
def Zz29.A : AK := .p (.row .u64) (.p (.row .u64) .nil)
def Zz29.Q : RK := .p (.int .i64) .nil
def Zz29.h : Int → Zz29.Q.T × List Int := fun b => ((b, ()), [])
noncomputable def Zz29.D : Decl Int := ⟨(Go.Proofs.Tryz.f28.body).getD .skip, 21, [.tmp 4], Zz29.A, Zz29.Q, fun y m => y.1, T0, [], [], []⟩
noncomputable def Zz29.S (k : Nat) : List (Nat × E.Spec Int) := []
noncomputable def Zz29.f0 (k : Nat) (a0 a1 : List Int) : Option Int := Zz29.D.val Zz29.S k (a0, a1, ())
noncomputable def Zz29.f := (still Zz29.f0).1
theorem Zz29.f_def : Zz29.f = Zz29.f0 := (still Zz29.f0).2
noncomputable def Zz29.g (k : Nat) (x : Zz29.A.T) : Option Int := Zz29.f k (x.1) (x.2.1)
theorem Zz29.does (k : Nat) : Does PG 28 Zz29.A Zz29.Q (Zz29.g k) Zz29.h := (show Zz29.g k = Zz29.D.val Zz29.S k from funext fun _ => by unfold Zz29.g; rw [Zz29.f_def]; rfl) ▸ Decl.does (D := Zz29.D) (S := Zz29.S) (fn := Go.Proofs.Tryz.f28) (by constructor <;> first | kernel_rfl | exact TT.of_ok _ T0ex) (fun k => trivial) (fun _ _ h => by rw [h rfl]; rfl) k
def Zz16.A : AK := .p (.int .u32) .nil
def Zz16.Q : RK := .p (.int .i64) .nil
def Zz16.h : Int → Zz16.Q.T × List Int := fun b => ((b, ()), [])
noncomputable def Zz16.D : Decl Int := ⟨(Go.Proofs.Tryz.f94.body).getD .skip, 19, [.tmp 2], Zz16.A, Zz16.Q, fun y m => y.1, T0, [], [], []⟩
noncomputable def Zz16.S (k : Nat) : List (Nat × E.Spec Int) := []
noncomputable def Zz16.f0 (k : Nat) (a0 : Int) : Option Int := Zz16.D.val Zz16.S k (a0, ())
noncomputable def Zz16.f := (still Zz16.f0).1
theorem Zz16.f_def : Zz16.f = Zz16.f0 := (still Zz16.f0).2
noncomputable def Zz16.g (k : Nat) (x : Zz16.A.T) : Option Int := Zz16.f k (x.1)
theorem Zz16.does (k : Nat) : Does PG 94 Zz16.A Zz16.Q (Zz16.g k) Zz16.h := (show Zz16.g k = Zz16.D.val Zz16.S k from funext fun _ => by unfold Zz16.g; rw [Zz16.f_def]; rfl) ▸ Decl.does (D := Zz16.D) (S := Zz16.S) (fn := Go.Proofs.Tryz.f94) (by constructor <;> first | kernel_rfl | exact TT.of_ok _ T0ex) (fun k => trivial) (fun _ _ h => by rw [h rfl]; rfl) k
def Zz15.A : AK := .p (.int .u64) .nil
def Zz15.Q : RK := .p (.int .i64) .nil
def Zz15.h : Int → Zz15.Q.T × List Int := fun b => ((b, ()), [])
noncomputable def Zz15.D : Decl Int := ⟨(Go.Proofs.Tryz.f79.body).getD .skip, 8, [.tmp 2], Zz15.A, Zz15.Q, fun y m => y.1, T0, [], [], []⟩
noncomputable def Zz15.S (k : Nat) : List (Nat × E.Spec Int) := [(93, told _ Zz17.A Zz17.Q (Zz17.g k) Zz17.h), (94, told _ Zz16.A Zz16.Q (Zz16.g k) Zz16.h)]
noncomputable def Zz15.f0 (k : Nat) (a0 : Int) : Option Int := Zz15.D.val Zz15.S k (a0, ())
noncomputable def Zz15.f := (still Zz15.f0).1
theorem Zz15.f_def : Zz15.f = Zz15.f0 := (still Zz15.f0).2
noncomputable def Zz15.g (k : Nat) (x : Zz15.A.T) : Option Int := Zz15.f k (x.1)
theorem Zz15.does (k : Nat) : Does PG 79 Zz15.A Zz15.Q (Zz15.g k) Zz15.h := (show Zz15.g k = Zz15.D.val Zz15.S k from funext fun _ => by unfold Zz15.g; rw [Zz15.f_def]; rfl) ▸ Decl.does (D := Zz15.D) (S := Zz15.S) (fn := Go.Proofs.Tryz.f79) (by constructor <;> first | kernel_rfl | exact TT.of_ok _ T0ex) (fun k => ⟨told_ok (Zz17.does k), ⟨told_ok (Zz16.does k), trivial⟩⟩) (fun _ _ h => by rw [h rfl]; rfl) k
def Zz65.A : AK := .nil
def Zz65.Q : RK := .p (.agg (.cons (.int .u64) (.cons (.int .u64) (.cons (.int .u64) (.cons (.int .u64) (.cons (.int .u64) (.cons (.int .u64) (.cons (.int .u64) (.cons (.int .u64) (.cons (.int .u64) (.cons (.int .u64) (.cons (.int .u64) (.cons (.int .u64) .nil))))))))))))) .nil
def Zz65.h : (Int × Int × Int × Int × Int × Int × Int × Int × Int × Int × Int × Int) → Zz65.Q.T × List Int := fun b => (((b.1, b.2.1, b.2.2.1, b.2.2.2.1, b.2.2.2.2.1, b.2.2.2.2.2.1, b.2.2.2.2.2.2.1, b.2.2.2.2.2.2.2.1, b.2.2.2.2.2.2.2.2.1, b.2.2.2.2.2.2.2.2.2.1, b.2.2.2.2.2.2.2.2.2.2.1, b.2.2.2.2.2.2.2.2.2.2.2, ()), ()), [])
noncomputable def Zz65.D : Decl (Int × Int × Int × Int × Int × Int × Int × Int × Int × Int × Int × Int) := ⟨(Go.Proofs.Tryz.f104.body).getD .skip, 2, [.cell 0 138], Zz65.A, Zz65.Q, fun y m => (y.1.1, y.1.2.1, y.1.2.2.1, y.1.2.2.2.1, y.1.2.2.2.2.1, y.1.2.2.2.2.2.1, y.1.2.2.2.2.2.2.1, y.1.2.2.2.2.2.2.2.1, y.1.2.2.2.2.2.2.2.2.1, y.1.2.2.2.2.2.2.2.2.2.1, y.1.2.2.2.2.2.2.2.2.2.2.1, y.1.2.2.2.2.2.2.2.2.2.2.2.1), T0, [], [], []⟩
noncomputable def Zz65.S (k : Nat) : List (Nat × E.Spec (Int × Int × Int × Int × Int × Int × Int × Int × Int × Int × Int × Int)) := []
noncomputable def Zz65.f0 (k : Nat) : Option (Int × Int × Int × Int × Int × Int × Int × Int × Int × Int × Int × Int) := Zz65.D.val Zz65.S k (())
noncomputable def Zz65.f := (still Zz65.f0).1
theorem Zz65.f_def : Zz65.f = Zz65.f0 := (still Zz65.f0).2
noncomputable def Zz65.g (k : Nat) (x : Zz65.A.T) : Option (Int × Int × Int × Int × Int × Int × Int × Int × Int × Int × Int × Int) := Zz65.f k
theorem Zz65.does (k : Nat) : Does PG 104 Zz65.A Zz65.Q (Zz65.g k) Zz65.h := (show Zz65.g k = Zz65.D.val Zz65.S k from funext fun _ => by unfold Zz65.g; rw [Zz65.f_def]; rfl) ▸ Decl.does (D := Zz65.D) (S := Zz65.S) (fn := Go.Proofs.Tryz.f104) (by constructor <;> first | kernel_rfl | exact TT.of_ok _ T0ex) (fun k => trivial) (fun _ _ h => by rw [h rfl]; rfl) k
def Zz67.A : AK := .p (.int .u64) (.p (.int .u64) (.p (.int .u64) .nil))
def Zz67.Q : RK := .p (.int .u64) .nil
def Zz67.h : Int → Zz67.Q.T × List Int := fun b => ((b, ()), [])
noncomputable def Zz67.D : Decl Int := ⟨(Go.Proofs.Tryz.f117.body).getD .skip, 19, [.tmp 6], Zz67.A, Zz67.Q, fun y m => y.1, T0, [], [], []⟩
noncomputable def Zz67.S (k : Nat) : List (Nat × E.Spec Int) := [(65, told _ Zz18.A Zz18.Q (Zz18.g k) Zz18.h), (66, told _ Zz19.A Zz19.Q (Zz19.g k) Zz19.h)]
noncomputable def Zz67.f0 (k : Nat) (a0 a1 a2 : Int) : Option Int := Zz67.D.val Zz67.S k (a0, a1, a2, ())
noncomputable def Zz67.f := (still Zz67.f0).1
theorem Zz67.f_def : Zz67.f = Zz67.f0 := (still Zz67.f0).2
noncomputable def Zz67.g (k : Nat) (x : Zz67.A.T) : Option Int := Zz67.f k (x.1) (x.2.1) (x.2.2.1)
theorem Zz67.does (k : Nat) : Does PG 117 Zz67.A Zz67.Q (Zz67.g k) Zz67.h := (show Zz67.g k = Zz67.D.val Zz67.S k from funext fun _ => by unfold Zz67.g; rw [Zz67.f_def]; rfl) ▸ Decl.does (D := Zz67.D) (S := Zz67.S) (fn := Go.Proofs.Tryz.f117) (by constructor <;> first | kernel_rfl | exact TT.of_ok _ T0ex) (fun k => ⟨told_ok (Zz18.does k), ⟨told_ok (Zz19.does k), trivial⟩⟩) (fun _ _ h => by rw [h rfl]; rfl) k
def Zz69.A : AK := .p (.int .u64) (.p (.int .u64) .nil)
def Zz69.Q : RK := .p (.bool) .nil
def Zz69.h : Bool → Zz69.Q.T × List Int := fun b => ((b, ()), [])
noncomputable def Zz69.D : Decl Bool := ⟨(Go.Proofs.Tryz.f105.body).getD .skip, 49, [.tmp 4], Zz69.A, Zz69.Q, fun y m => y.1, T0, [], [(12, [(0, .p (some (.int .u64))), (6, .p (some (.int .u64))), (37, .p (some (.int .i64))), (38, .p (some (.int .i64)))]), (4, [(0, .p (some (.int .u64))), (5, .p (some (.int .i64))), (6, .p (some (.int .u64))), (7, .p (some (.int .u64))), (8, .p (some (.int .u64)))])], []⟩
noncomputable def Zz69.S (k : Nat) : List (Nat × E.Spec Bool) := [(116, told _ Zz20.A Zz20.Q (Zz20.g k) Zz20.h), (117, told _ Zz67.A Zz67.Q (Zz67.g k) Zz67.h)]
noncomputable def Zz69.l12 (k : Nat) (x0 x6 x37 x38 : Int) : Option Bool := Zz69.D.F Zz69.S k 25 [.p (.lit (.int .u64 x0)), .p (.lit (.int .u64 x6)), .p (.lit (.int .i64 x37)), .p (.lit (.int .i64 x38))]
noncomputable def Zz69.l4 (k : Nat) (x0 x5 x6 x7 x8 : Int) : Option Bool := Zz69.D.F Zz69.S k 9 [.p (.lit (.int .u64 x0)), .p (.lit (.int .i64 x5)), .p (.lit (.int .u64 x6)), .p (.lit (.int .u64 x7)), .p (.lit (.int .u64 x8))]
noncomputable def Zz69.f0 (k : Nat) (a0 a1 : Int) : Option Bool := Zz69.D.val Zz69.S k (a0, a1, ())
noncomputable def Zz69.f := (still Zz69.f0).1
theorem Zz69.f_def : Zz69.f = Zz69.f0 := (still Zz69.f0).2
noncomputable def Zz69.g (k : Nat) (x : Zz69.A.T) : Option Bool := Zz69.f k (x.1) (x.2.1)
theorem Zz69.does (k : Nat) : Does PG 105 Zz69.A Zz69.Q (Zz69.g k) Zz69.h := (show Zz69.g k = Zz69.D.val Zz69.S k from funext fun _ => by unfold Zz69.g; rw [Zz69.f_def]; rfl) ▸ Decl.does (D := Zz69.D) (S := Zz69.S) (fn := Go.Proofs.Tryz.f105) (by constructor <;> first | kernel_rfl | exact TT.of_ok _ T0ex) (fun k => ⟨told_ok (Zz20.does k), ⟨told_ok (Zz67.does k), trivial⟩⟩) (fun _ _ h => by rw [h rfl]; rfl) k
def Zz62.A : AK := .p (.int .u64) .nil
def Zz62.Q : RK := .p (.bool) .nil
def Zz62.h : Bool → Zz62.Q.T × List Int := fun b => ((b, ()), [])
noncomputable def Zz62.D : Decl Bool := ⟨(Go.Proofs.Tryz.f95.body).getD .skip, 30, [.tmp 2], Zz62.A, Zz62.Q, fun y m => y.1, T0, [], [(10, [(0, .p (some (.int .u64))), (21, .p (some (.agg (.cons (.int .u64) (.cons (.int .u64) (.cons (.int .u64) (.cons (.int .u64) (.cons (.int .u64) (.cons (.int .u64) (.cons (.int .u64) (.cons (.int .u64) (.cons (.int .u64) (.cons (.int .u64) (.cons (.int .u64) (.cons (.int .u64) .nil))))))))))))))), (22, .p (some (.int .i64)))]), (4, [(0, .p (some (.int .u64))), (9, .p (some (.agg (.cons (.int .u64) (.cons (.int .u64) (.cons (.int .u64) (.cons (.int .u64) (.cons (.int .u64) (.cons (.int .u64) (.cons (.int .u64) (.cons (.int .u64) (.cons (.int .u64) (.cons (.int .u64) (.cons (.int .u64) (.cons (.int .u64) .nil))))))))))))))), (10, .p (some (.int .i64)))])], []⟩
noncomputable def Zz62.S (k : Nat) : List (Nat × E.Spec Bool) := [(104, told _ Zz65.A Zz65.Q (Zz65.g k) Zz65.h), (105, told _ Zz69.A Zz69.Q (Zz69.g k) Zz69.h)]
noncomputable def Zz62.l10 (k : Nat) (x0 x21_0 x21_1 x21_2 x21_3 x21_4 x21_5 x21_6 x21_7 x21_8 x21_9 x21_10 x21_11 x22 : Int) : Option Bool := Zz62.D.F Zz62.S k 21 [.p (.lit (.int .u64 x0)), .p (.agg [.lit (.int .u64 x21_0), .lit (.int .u64 x21_1), .lit (.int .u64 x21_2), .lit (.int .u64 x21_3), .lit (.int .u64 x21_4), .lit (.int .u64 x21_5), .lit (.int .u64 x21_6), .lit (.int .u64 x21_7), .lit (.int .u64 x21_8), .lit (.int .u64 x21_9), .lit (.int .u64 x21_10), .lit (.int .u64 x21_11)]), .p (.lit (.int .i64 x22))]
noncomputable def Zz62.l4 (k : Nat) (x0 x9_0 x9_1 x9_2 x9_3 x9_4 x9_5 x9_6 x9_7 x9_8 x9_9 x9_10 x9_11 x10 : Int) : Option Bool := Zz62.D.F Zz62.S k 9 [.p (.lit (.int .u64 x0)), .p (.agg [.lit (.int .u64 x9_0), .lit (.int .u64 x9_1), .lit (.int .u64 x9_2), .lit (.int .u64 x9_3), .lit (.int .u64 x9_4), .lit (.int .u64 x9_5), .lit (.int .u64 x9_6), .lit (.int .u64 x9_7), .lit (.int .u64 x9_8), .lit (.int .u64 x9_9), .lit (.int .u64 x9_10), .lit (.int .u64 x9_11)]), .p (.lit (.int .i64 x10))]
noncomputable def Zz62.f0 (k : Nat) (a0 : Int) : Option Bool := Zz62.D.val Zz62.S k (a0, ())
noncomputable def Zz62.f := (still Zz62.f0).1
theorem Zz62.f_def : Zz62.f = Zz62.f0 := (still Zz62.f0).2
noncomputable def Zz62.g (k : Nat) (x : Zz62.A.T) : Option Bool := Zz62.f k (x.1)
theorem Zz62.does (k : Nat) : Does PG 95 Zz62.A Zz62.Q (Zz62.g k) Zz62.h := (show Zz62.g k = Zz62.D.val Zz62.S k from funext fun _ => by unfold Zz62.g; rw [Zz62.f_def]; rfl) ▸ Decl.does (D := Zz62.D) (S := Zz62.S) (fn := Go.Proofs.Tryz.f95) (by constructor <;> first | kernel_rfl | exact TT.of_ok _ T0ex) (fun k => ⟨told_ok (Zz65.does k), ⟨told_ok (Zz69.does k), trivial⟩⟩) (fun _ _ h => by rw [h rfl]; rfl) k
def Zz64.A : AK := .p (.int .i64) (.p (.int .i64) (.p (.int .u64) .nil))
def Zz64.Q : RK := .o (.num .u64) 23 (.p (.int .i64) .nil)
def Zz64.h : (List Int × Int) → Zz64.Q.T × List Int := fun b => (((b.1), b.2, ()), [])
noncomputable def Zz64.D : Decl (List Int × Int) := ⟨(Go.Proofs.Tryz.f80.body).getD .skip, 58, [.tmp 6, .tmp 7], Zz64.A, Zz64.Q, fun y m => (y.1, y.2.1), T0, [], [(8, [(1, .p (some (.int .i64))), (8, .p (some (.int .u64))), (9, .m (.num .u64) 23), (10, .p (some (.int .u64)))])], []⟩
noncomputable def Zz64.S (k : Nat) : List (Nat × E.Spec (List Int × Int)) := [(95, told _ Zz62.A Zz62.Q (Zz62.g k) Zz62.h)]
noncomputable def Zz64.l8 (k : Nat) (x1 x8 : Int) (x9 : List Int) (x10 : Int) : Option (List Int × Int) := Zz64.D.F Zz64.S k 17 [.p (.lit (.int .i64 x1)), .p (.lit (.int .u64 x8)), .m x9, .p (.lit (.int .u64 x10))]
noncomputable def Zz64.f0 (k : Nat) (a0 a1 a2 : Int) : Option (List Int × Int) := Zz64.D.val Zz64.S k (a0, a1, a2, ())
noncomputable def Zz64.f := (still Zz64.f0).1
theorem Zz64.f_def : Zz64.f = Zz64.f0 := (still Zz64.f0).2
noncomputable def Zz64.g (k : Nat) (x : Zz64.A.T) : Option (List Int × Int) := Zz64.f k (x.1) (x.2.1) (x.2.2.1)
theorem Zz64.does (k : Nat) : Does PG 80 Zz64.A Zz64.Q (Zz64.g k) Zz64.h := (show Zz64.g k = Zz64.D.val Zz64.S k from funext fun _ => by unfold Zz64.g; rw [Zz64.f_def]; rfl) ▸ Decl.does (D := Zz64.D) (S := Zz64.S) (fn := Go.Proofs.Tryz.f80) (by constructor <;> first | kernel_rfl | exact TT.of_ok _ T0ex) (fun k => ⟨told_ok (Zz62.does k), trivial⟩) (fun _ _ h => by rw [h rfl]; rfl) k
def Zz113.A : AK := .p (.fp 77 (.cons (.int .u64) (.cons (.int .u64) (.cons (.int .u64) .nil)))) (.p (.int .u64) (.p (.int .u64) .nil))
def Zz113.Q : RK := .p (.int .u64) .nil
def Zz113.h : Int → Zz113.Q.T × List Int := fun b => ((b, ()), [])
noncomputable def Zz113.D : Decl Int := ⟨(Go.Proofs.Tryz.f89.body).getD .skip, 33, [.tmp 6], Zz113.A, Zz113.Q, fun y m => y.1, T0, [], [], []⟩
noncomputable def Zz113.S (k : Nat) : List (Nat × E.Spec Int) := []
noncomputable def Zz113.f0 (k : Nat) (a0_0 a0_1 a0_2 a1 a2 : Int) : Option Int := Zz113.D.val Zz113.S k ((a0_0, a0_1, a0_2, ()), a1, a2, ())
noncomputable def Zz113.f := (still Zz113.f0).1
theorem Zz113.f_def : Zz113.f = Zz113.f0 := (still Zz113.f0).2
noncomputable def Zz113.g (k : Nat) (x : Zz113.A.T) : Option Int := Zz113.f k (x.1.1) (x.1.2.1) (x.1.2.2.1) (x.2.1) (x.2.2.1)
theorem Zz113.does (k : Nat) : Does PG 89 Zz113.A Zz113.Q (Zz113.g k) Zz113.h := (show Zz113.g k = Zz113.D.val Zz113.S k from funext fun _ => by unfold Zz113.g; rw [Zz113.f_def]; rfl) ▸ Decl.does (D := Zz113.D) (S := Zz113.S) (fn := Go.Proofs.Tryz.f89) (by constructor <;> first | kernel_rfl | exact TT.of_ok _ T0ex) (fun k => trivial) (fun _ _ h => by rw [h rfl]; rfl) k
def Zz109.A : AK := .p (.fp 77 (.cons (.int .u64) (.cons (.int .u64) (.cons (.int .u64) .nil)))) (.p (.int .u64) .nil)
def Zz109.Q : RK := .p (.int .u64) (.p (.int .i64) .nil)
def Zz109.h : (Int × Int) → Zz109.Q.T × List Int := fun b => ((b.1, b.2, ()), [])
noncomputable def Zz109.D : Decl (Int × Int) := ⟨(Go.Proofs.Tryz.f88.body).getD .skip, 48, [.tmp 4, .tmp 5], Zz109.A, Zz109.Q, fun y m => (y.1, y.2.1), T0, [], [(8, [(0, .p (some (.fp 77 (.cons (.int .u64) (.cons (.int .u64) (.cons (.int .u64) .nil)))))), (6, .p (some (.int .u64))), (7, .p (some (.int .u64))), (8, .p (some (.int .u64))), (9, .p (some (.int .u64)))])], []⟩
noncomputable def Zz109.S (k : Nat) : List (Nat × E.Spec (Int × Int)) := [(45, told _ Zz110.A Zz110.Q (Zz110.g k) Zz110.h), (89, told _ Zz113.A Zz113.Q (Zz113.g k) Zz113.h)]
noncomputable def Zz109.l8 (k : Nat) (x0_0 x0_1 x0_2 x6 x7 x8 x9 : Int) : Option (Int × Int) := Zz109.D.F Zz109.S k 17 [.p (.fp 77 [.lit (.int .u64 x0_0), .lit (.int .u64 x0_1), .lit (.int .u64 x0_2)]), .p (.lit (.int .u64 x6)), .p (.lit (.int .u64 x7)), .p (.lit (.int .u64 x8)), .p (.lit (.int .u64 x9))]
noncomputable def Zz109.f0 (k : Nat) (a0_0 a0_1 a0_2 a1 : Int) : Option (Int × Int) := Zz109.D.val Zz109.S k ((a0_0, a0_1, a0_2, ()), a1, ())
noncomputable def Zz109.f := (still Zz109.f0).1
theorem Zz109.f_def : Zz109.f = Zz109.f0 := (still Zz109.f0).2
noncomputable def Zz109.g (k : Nat) (x : Zz109.A.T) : Option (Int × Int) := Zz109.f k (x.1.1) (x.1.2.1) (x.1.2.2.1) (x.2.1)
theorem Zz109.does (k : Nat) : Does PG 88 Zz109.A Zz109.Q (Zz109.g k) Zz109.h := (show Zz109.g k = Zz109.D.val Zz109.S k from funext fun _ => by unfold Zz109.g; rw [Zz109.f_def]; rfl) ▸ Decl.does (D := Zz109.D) (S := Zz109.S) (fn := Go.Proofs.Tryz.f88) (by constructor <;> first | kernel_rfl | exact TT.of_ok _ T0ex) (fun k => ⟨told_ok (Zz110.does k), ⟨told_ok (Zz113.does k), trivial⟩⟩) (fun _ _ h => by rw [h rfl]; rfl) k
def Zz66.A : AK := .p (.int .u64) .nil
def Zz66.Q : RK := .p (.np 77 (.cons (.int .u64) (.cons (.int .u64) (.cons (.int .u64) .nil)))) (.p (.int .i64) .nil)
def Zz66.h : ((Option (Int × Int × Int × Unit)) × Int) → Zz66.Q.T × List Int := fun b => ((b.1, b.2, ()), [])
noncomputable def Zz66.D : Decl ((Option (Int × Int × Int × Unit)) × Int) := ⟨(Go.Proofs.Tryz.f106.body).getD .skip, 15, [.tmp 2, .tmp 3], Zz66.A, Zz66.Q, fun y m => (y.1, y.2.1), T0, [], [], []⟩
noncomputable def Zz66.S (k : Nat) : List (Nat × E.Spec ((Option (Int × Int × Int × Unit)) × Int)) := [(27, told _ Zz114.A Zz114.Q (Zz114.g k) Zz114.h), (95, told _ Zz62.A Zz62.Q (Zz62.g k) Zz62.h)]
noncomputable def Zz66.f0 (k : Nat) (a0 : Int) : Option ((Option (Int × Int × Int × Unit)) × Int) := Zz66.D.val Zz66.S k (a0, ())
noncomputable def Zz66.f := (still Zz66.f0).1
theorem Zz66.f_def : Zz66.f = Zz66.f0 := (still Zz66.f0).2
noncomputable def Zz66.g (k : Nat) (x : Zz66.A.T) : Option ((Option (Int × Int × Int × Unit)) × Int) := Zz66.f k (x.1)
theorem Zz66.does (k : Nat) : Does PG 106 Zz66.A Zz66.Q (Zz66.g k) Zz66.h := (show Zz66.g k = Zz66.D.val Zz66.S k from funext fun _ => by unfold Zz66.g; rw [Zz66.f_def]; rfl) ▸ Decl.does (D := Zz66.D) (S := Zz66.S) (fn := Go.Proofs.Tryz.f106) (by constructor <;> first | kernel_rfl | exact TT.of_ok _ T0ex) (fun k => ⟨told_ok (Zz114.does k), ⟨told_ok (Zz62.does k), trivial⟩⟩) (fun _ _ h => by rw [h rfl]; rfl) k
def Zz111.A : AK := .p (.fp 77 (.cons (.int .u64) (.cons (.int .u64) (.cons (.int .u64) .nil)))) (.p (.int .u64) .nil)
def Zz111.Q : RK := .p (.int .u64) .nil
def Zz111.h : Int → Zz111.Q.T × List Int := fun b => ((b, ()), [])
noncomputable def Zz111.D : Decl Int := ⟨(Go.Proofs.Tryz.f48.body).getD .skip, 13, [.tmp 4], Zz111.A, Zz111.Q, fun y m => y.1, T0, [], [], []⟩
noncomputable def Zz111.S (k : Nat) : List (Nat × E.Spec Int) := []
noncomputable def Zz111.f0 (k : Nat) (a0_0 a0_1 a0_2 a1 : Int) : Option Int := Zz111.D.val Zz111.S k ((a0_0, a0_1, a0_2, ()), a1, ())
noncomputable def Zz111.f := (still Zz111.f0).1
theorem Zz111.f_def : Zz111.f = Zz111.f0 := (still Zz111.f0).2
noncomputable def Zz111.g (k : Nat) (x : Zz111.A.T) : Option Int := Zz111.f k (x.1.1) (x.1.2.1) (x.1.2.2.1) (x.2.1)
theorem Zz111.does (k : Nat) : Does PG 48 Zz111.A Zz111.Q (Zz111.g k) Zz111.h := (show Zz111.g k = Zz111.D.val Zz111.S k from funext fun _ => by unfold Zz111.g; rw [Zz111.f_def]; rfl) ▸ Decl.does (D := Zz111.D) (S := Zz111.S) (fn := Go.Proofs.Tryz.f48) (by constructor <;> first | kernel_rfl | exact TT.of_ok _ T0ex) (fun k => trivial) (fun _ _ h => by rw [h rfl]; rfl) k
def Zz112.A : AK := .p (.fp 77 (.cons (.int .u64) (.cons (.int .u64) (.cons (.int .u64) .nil)))) (.p (.int .u64) (.p (.int .u64) .nil))
def Zz112.Q : RK := .p (.int .u64) .nil
def Zz112.h : Int → Zz112.Q.T × List Int := fun b => ((b, ()), [])
noncomputable def Zz112.D : Decl Int := ⟨(Go.Proofs.Tryz.f107.body).getD .skip, 28, [.tmp 6], Zz112.A, Zz112.Q, fun y m => y.1, T0, [], [(2, [(0, .p (some (.fp 77 (.cons (.int .u64) (.cons (.int .u64) (.cons (.int .u64) .nil)))))), (1, .p (some (.int .u64))), (2, .p (some (.int .u64))), (7, .p (some (.int .u64)))])], []⟩
noncomputable def Zz112.S (k : Nat) : List (Nat × E.Spec Int) := [(45, told _ Zz110.A Zz110.Q (Zz110.g k) Zz110.h), (48, told _ Zz111.A Zz111.Q (Zz111.g k) Zz111.h)]
noncomputable def Zz112.l2 (k : Nat) (x0_0 x0_1 x0_2 x1 x2 x7 : Int) : Option Int := Zz112.D.F Zz112.S k 5 [.p (.fp 77 [.lit (.int .u64 x0_0), .lit (.int .u64 x0_1), .lit (.int .u64 x0_2)]), .p (.lit (.int .u64 x1)), .p (.lit (.int .u64 x2)), .p (.lit (.int .u64 x7))]
noncomputable def Zz112.f0 (k : Nat) (a0_0 a0_1 a0_2 a1 a2 : Int) : Option Int := Zz112.D.val Zz112.S k ((a0_0, a0_1, a0_2, ()), a1, a2, ())
noncomputable def Zz112.f := (still Zz112.f0).1
theorem Zz112.f_def : Zz112.f = Zz112.f0 := (still Zz112.f0).2
noncomputable def Zz112.g (k : Nat) (x : Zz112.A.T) : Option Int := Zz112.f k (x.1.1) (x.1.2.1) (x.1.2.2.1) (x.2.1) (x.2.2.1)
theorem Zz112.does (k : Nat) : Does PG 107 Zz112.A Zz112.Q (Zz112.g k) Zz112.h := (show Zz112.g k = Zz112.D.val Zz112.S k from funext fun _ => by unfold Zz112.g; rw [Zz112.f_def]; rfl) ▸ Decl.does (D := Zz112.D) (S := Zz112.S) (fn := Go.Proofs.Tryz.f107) (by constructor <;> first | kernel_rfl | exact TT.of_ok _ T0ex) (fun k => ⟨told_ok (Zz110.does k), ⟨told_ok (Zz111.does k), trivial⟩⟩) (fun _ _ h => by rw [h rfl]; rfl) k
def Zz68.A : AK := .p (.fp 77 (.cons (.int .u64) (.cons (.int .u64) (.cons (.int .u64) .nil)))) (.p (.int .u64) .nil)
def Zz68.Q : RK := .p (.int .i64) (.p (.bool) .nil)
def Zz68.h : (Int × Bool) → Zz68.Q.T × List Int := fun b => ((b.1, b.2, ()), [])
noncomputable def Zz68.D : Decl (Int × Bool) := ⟨(Go.Proofs.Tryz.f108.body).getD .skip, 18, [.tmp 4, .tmp 5], Zz68.A, Zz68.Q, fun y m => (y.1, y.2.1), T0, [], [(2, [(0, .p (some (.fp 77 (.cons (.int .u64) (.cons (.int .u64) (.cons (.int .u64) .nil)))))), (1, .p (some (.int .u64))), (7, .p (some (.int .i64)))])], []⟩
noncomputable def Zz68.S (k : Nat) : List (Nat × E.Spec (Int × Bool)) := [(45, told _ Zz110.A Zz110.Q (Zz110.g k) Zz110.h)]
noncomputable def Zz68.l2 (k : Nat) (x0_0 x0_1 x0_2 x1 x7 : Int) : Option (Int × Bool) := Zz68.D.F Zz68.S k 5 [.p (.fp 77 [.lit (.int .u64 x0_0), .lit (.int .u64 x0_1), .lit (.int .u64 x0_2)]), .p (.lit (.int .u64 x1)), .p (.lit (.int .i64 x7))]
noncomputable def Zz68.f0 (k : Nat) (a0_0 a0_1 a0_2 a1 : Int) : Option (Int × Bool) := Zz68.D.val Zz68.S k ((a0_0, a0_1, a0_2, ()), a1, ())
noncomputable def Zz68.f := (still Zz68.f0).1
theorem Zz68.f_def : Zz68.f = Zz68.f0 := (still Zz68.f0).2
noncomputable def Zz68.g (k : Nat) (x : Zz68.A.T) : Option (Int × Bool) := Zz68.f k (x.1.1) (x.1.2.1) (x.1.2.2.1) (x.2.1)
theorem Zz68.does (k : Nat) : Does PG 108 Zz68.A Zz68.Q (Zz68.g k) Zz68.h := (show Zz68.g k = Zz68.D.val Zz68.S k from funext fun _ => by unfold Zz68.g; rw [Zz68.f_def]; rfl) ▸ Decl.does (D := Zz68.D) (S := Zz68.S) (fn := Go.Proofs.Tryz.f108) (by constructor <;> first | kernel_rfl | exact TT.of_ok _ T0ex) (fun k => ⟨told_ok (Zz110.does k), trivial⟩) (fun _ _ h => by rw [h rfl]; rfl) k
def Zz63.A : AK := .p (.int .u64) (.p (.int .i64) .nil)
def Zz63.Q : RK := .p (.int .u64) (.p (.int .i64) .nil)
def Zz63.h : (Int × Int) → Zz63.Q.T × List Int := fun b => ((b.1, b.2, ()), [])
noncomputable def Zz63.D : Decl (Int × Int) := ⟨(Go.Proofs.Tryz.f96.body).getD .skip, 62, [.tmp 4, .tmp 5], Zz63.A, Zz63.Q, fun y m => (y.1, y.2.1), T0, [], [(8, [(0, .p (some (.int .u64))), (1, .p (some (.int .i64))), (6, .p (some (.fp 77 (.cons (.int .u64) (.cons (.int .u64) (.cons (.int .u64) .nil)))))), (8, .p (some (.int .u64)))])], []⟩
noncomputable def Zz63.S (k : Nat) : List (Nat × E.Spec (Int × Int)) := [(106, told _ Zz66.A Zz66.Q (Zz66.g k) Zz66.h), (107, told _ Zz112.A Zz112.Q (Zz112.g k) Zz112.h), (108, told _ Zz68.A Zz68.Q (Zz68.g k) Zz68.h)]
noncomputable def Zz63.l8 (k : Nat) (x0 x1 x6_0 x6_1 x6_2 x8 : Int) : Option (Int × Int) := Zz63.D.F Zz63.S k 17 [.p (.lit (.int .u64 x0)), .p (.lit (.int .i64 x1)), .p (.fp 77 [.lit (.int .u64 x6_0), .lit (.int .u64 x6_1), .lit (.int .u64 x6_2)]), .p (.lit (.int .u64 x8))]
noncomputable def Zz63.f0 (k : Nat) (a0 a1 : Int) : Option (Int × Int) := Zz63.D.val Zz63.S k (a0, a1, ())
noncomputable def Zz63.f := (still Zz63.f0).1
theorem Zz63.f_def : Zz63.f = Zz63.f0 := (still Zz63.f0).2
noncomputable def Zz63.g (k : Nat) (x : Zz63.A.T) : Option (Int × Int) := Zz63.f k (x.1) (x.2.1)
theorem Zz63.does (k : Nat) : Does PG 96 Zz63.A Zz63.Q (Zz63.g k) Zz63.h := (show Zz63.g k = Zz63.D.val Zz63.S k from funext fun _ => by unfold Zz63.g; rw [Zz63.f_def]; rfl) ▸ Decl.does (D := Zz63.D) (S := Zz63.S) (fn := Go.Proofs.Tryz.f96) (by constructor <;> first | kernel_rfl | exact TT.of_ok _ T0ex) (fun k => ⟨told_ok (Zz66.does k), ⟨told_ok (Zz112.does k), ⟨told_ok (Zz68.does k), trivial⟩⟩⟩) (fun _ _ h => by rw [h rfl]; rfl) k
def Zz73.A : AK := .p (.int .u64) (.p (.int .i64) .nil)
def Zz73.Q : RK := .p (.np 125 (.cons (.fp 77 (.cons (.int .u64) (.cons (.int .u64) (.cons (.int .u64) .nil)))) (.cons (.int .i64) (.cons (.row .u64) (.cons (.int .u64) .nil))))) (.p (.int .i64) .nil)
def Zz73.h : ((Option ((Int × Int × Int × Unit) × Int × List Int × Int × Unit)) × Int) → Zz73.Q.T × List Int := fun b => ((b.1, b.2, ()), [])
noncomputable def Zz73.D : Decl ((Option ((Int × Int × Int × Unit) × Int × List Int × Int × Unit)) × Int) := ⟨(Go.Proofs.Tryz.f81.body).getD .skip, 65, [.tmp 4, .tmp 5], Zz73.A, Zz73.Q, fun y m => (y.1, y.2.1), T0, [], [(11, [(1, .p (some (.int .i64))), (6, .p (some (.int .u64))), (7, .p (some (.int .i64))), (8, .p (some (.fp 77 (.cons (.int .u64) (.cons (.int .u64) (.cons (.int .u64) .nil)))))), (9, .p (some (.pt 7 0))), (10, .p (some (.int .i64))), (34, .m (.num .u64) 23), (36, .b (some (.cons (.fp 77 (.cons (.int .u64) (.cons (.int .u64) (.cons (.int .u64) .nil)))) (.cons (.int .i64) (.cons (.sl 6) (.cons (.int .u64) .nil))))))])], []⟩
noncomputable def Zz73.S (k : Nat) : List (Nat × E.Spec ((Option ((Int × Int × Int × Unit) × Int × List Int × Int × Unit)) × Int)) := [(27, told _ Zz114.A Zz114.Q (Zz114.g k) Zz114.h), (45, told _ Zz110.A Zz110.Q (Zz110.g k) Zz110.h), (88, told _ Zz109.A Zz109.Q (Zz109.g k) Zz109.h), (96, told _ Zz63.A Zz63.Q (Zz63.g k) Zz63.h)]
noncomputable def Zz73.l11 (k : Nat) (x1 x6 x7 x8_0 x8_1 x8_2 x10 : Int) (x34 : List Int) (x36_0 x36_1 x36_2 x36_3 x36_4 : Int) : Option ((Option ((Int × Int × Int × Unit) × Int × List Int × Int × Unit)) × Int) := Zz73.D.F Zz73.S k 23 [.p (.lit (.int .i64 x1)), .p (.lit (.int .u64 x6)), .p (.lit (.int .i64 x7)), .p (.fp 77 [.lit (.int .u64 x8_0), .lit (.int .u64 x8_1), .lit (.int .u64 x8_2)]), .p (.ptr 7 0), .p (.lit (.int .i64 x10)), .m x34, .b 125 [.fp 77 [.lit (.int .u64 x36_0), .lit (.int .u64 x36_1), .lit (.int .u64 x36_2)], .lit (.int .i64 x36_3), .sli 6, .lit (.int .u64 x36_4)]]
noncomputable def Zz73.f0 (k : Nat) (a0 a1 : Int) : Option ((Option ((Int × Int × Int × Unit) × Int × List Int × Int × Unit)) × Int) := Zz73.D.val Zz73.S k (a0, a1, ())
noncomputable def Zz73.f := (still Zz73.f0).1
theorem Zz73.f_def : Zz73.f = Zz73.f0 := (still Zz73.f0).2
noncomputable def Zz73.g (k : Nat) (x : Zz73.A.T) : Option ((Option ((Int × Int × Int × Unit) × Int × List Int × Int × Unit)) × Int) := Zz73.f k (x.1) (x.2.1)
theorem Zz73.does (k : Nat) : Does PG 81 Zz73.A Zz73.Q (Zz73.g k) Zz73.h := (show Zz73.g k = Zz73.D.val Zz73.S k from funext fun _ => by unfold Zz73.g; rw [Zz73.f_def]; rfl) ▸ Decl.does (D := Zz73.D) (S := Zz73.S) (fn := Go.Proofs.Tryz.f81) (by constructor <;> first | kernel_rfl | exact TT.of_ok _ T0ex) (fun k => ⟨told_ok (Zz114.does k), ⟨told_ok (Zz110.does k), ⟨told_ok (Zz109.does k), ⟨told_ok (Zz63.does k), trivial⟩⟩⟩⟩) (fun _ _ h => by rw [h rfl]; rfl) k
def Zz34.A : AK := .p (.int .i64) .nil
def Zz34.Q : RK := .p (.agg (.cons (.np 125 (.cons (.fp 77 (.cons (.int .u64) (.cons (.int .u64) (.cons (.int .u64) .nil)))) (.cons (.int .i64) (.cons (.row .u64) (.cons (.int .u64) .nil))))) (.cons (.np 125 (.cons (.fp 77 (.cons (.int .u64) (.cons (.int .u64) (.cons (.int .u64) .nil)))) (.cons (.int .i64) (.cons (.row .u64) (.cons (.int .u64) .nil))))) (.cons (.np 125 (.cons (.fp 77 (.cons (.int .u64) (.cons (.int .u64) (.cons (.int .u64) .nil)))) (.cons (.int .i64) (.cons (.row .u64) (.cons (.int .u64) .nil))))) .nil)))) (.o (.num .u64) 23 (.p (.int .i64) .nil))
def Zz34.h : ((Option ((Int × Int × Int × Unit) × Int × List Int × Int × Unit)) × (Option ((Int × Int × Int × Unit) × Int × List Int × Int × Unit)) × (Option ((Int × Int × Int × Unit) × Int × List Int × Int × Unit)) × List Int × Int) → Zz34.Q.T × List Int := fun b => (((b.1, b.2.1, b.2.2.1, ()), (b.2.2.2.1), b.2.2.2.2, ()), [])
noncomputable def Zz34.D : Decl ((Option ((Int × Int × Int × Unit) × Int × List Int × Int × Unit)) × (Option ((Int × Int × Int × Unit) × Int × List Int × Int × Unit)) × (Option ((Int × Int × Int × Unit) × Int × List Int × Int × Unit)) × List Int × Int) := ⟨(Go.Proofs.Tryz.f67.body).getD .skip, 47, [.cell 2 105, .tmp 3, .tmp 4], Zz34.A, Zz34.Q, fun y m => (y.1.1, y.1.2.1, y.1.2.2.1, y.2.1, y.2.2.1), T0, [], [(7, [(2, .b (some (.cons (.any) (.cons (.any) (.cons (.any) .nil))))), (5, .b (some (.cons (.np 125 (.cons (.fp 77 (.cons (.int .u64) (.cons (.int .u64) (.cons (.int .u64) .nil)))) (.cons (.int .i64) (.cons (.row .u64) (.cons (.int .u64) .nil))))) (.cons (.np 125 (.cons (.fp 77 (.cons (.int .u64) (.cons (.int .u64) (.cons (.int .u64) .nil)))) (.cons (.int .i64) (.cons (.row .u64) (.cons (.int .u64) .nil))))) (.cons (.np 125 (.cons (.fp 77 (.cons (.int .u64) (.cons (.int .u64) (.cons (.int .u64) .nil)))) (.cons (.int .i64) (.cons (.row .u64) (.cons (.int .u64) .nil))))) .nil))))), (6, .p (some (.int .i64))), (7, .m (.num .u64) 23), (25, .p (some (.sl 3))), (26, .p (some (.int .i64))), (27, .p (some (.int .i64)))])], []⟩
noncomputable def Zz34.S (k : Nat) : List (Nat × E.Spec ((Option ((Int × Int × Int × Unit) × Int × List Int × Int × Unit)) × (Option ((Int × Int × Int × Unit) × Int × List Int × Int × Unit)) × (Option ((Int × Int × Int × Unit) × Int × List Int × Int × Unit)) × List Int × Int)) := [(79, told _ Zz15.A Zz15.Q (Zz15.g k) Zz15.h), (80, told _ Zz64.A Zz64.Q (Zz64.g k) Zz64.h), (81, told _ Zz73.A Zz73.Q (Zz73.g k) Zz73.h)]
noncomputable def Zz34.l7 (k : Nat) (x5_0 : Option ((Int × Int × Int × Unit) × Int × List Int × Int × Unit)) (x5_1 : Option ((Int × Int × Int × Unit) × Int × List Int × Int × Unit)) (x5_2 : Option ((Int × Int × Int × Unit) × Int × List Int × Int × Unit)) (x6 : Int) (x7 : List Int) (x26 x27 : Int) : Option ((Option ((Int × Int × Int × Unit) × Int × List Int × Int × Unit)) × (Option ((Int × Int × Int × Unit) × Int × List Int × Int × Unit)) × (Option ((Int × Int × Int × Unit) × Int × List Int × Int × Unit)) × List Int × Int) := Zz34.D.F Zz34.S k 15 [.b 105 [.any, .any, .any], .b 105 [SK.put (.np 125 (.cons (.fp 77 (.cons (.int .u64) (.cons (.int .u64) (.cons (.int .u64) .nil)))) (.cons (.int .i64) (.cons (.row .u64) (.cons (.int .u64) .nil))))) x5_0, SK.put (.np 125 (.cons (.fp 77 (.cons (.int .u64) (.cons (.int .u64) (.cons (.int .u64) .nil)))) (.cons (.int .i64) (.cons (.row .u64) (.cons (.int .u64) .nil))))) x5_1, SK.put (.np 125 (.cons (.fp 77 (.cons (.int .u64) (.cons (.int .u64) (.cons (.int .u64) .nil)))) (.cons (.int .i64) (.cons (.row .u64) (.cons (.int .u64) .nil))))) x5_2], .p (.lit (.int .i64 x6)), .m x7, .p (.sli 3), .p (.lit (.int .i64 x26)), .p (.lit (.int .i64 x27))]
noncomputable def Zz34.f0 (k : Nat) (a0 : Int) : Option ((Option ((Int × Int × Int × Unit) × Int × List Int × Int × Unit)) × (Option ((Int × Int × Int × Unit) × Int × List Int × Int × Unit)) × (Option ((Int × Int × Int × Unit) × Int × List Int × Int × Unit)) × List Int × Int) := Zz34.D.val Zz34.S k (a0, ())
noncomputable def Zz34.f := (still Zz34.f0).1
theorem Zz34.f_def : Zz34.f = Zz34.f0 := (still Zz34.f0).2
noncomputable def Zz34.g (k : Nat) (x : Zz34.A.T) : Option ((Option ((Int × Int × Int × Unit) × Int × List Int × Int × Unit)) × (Option ((Int × Int × Int × Unit) × Int × List Int × Int × Unit)) × (Option ((Int × Int × Int × Unit) × Int × List Int × Int × Unit)) × List Int × Int) := Zz34.f k (x.1)
theorem Zz34.does (k : Nat) : Does PG 67 Zz34.A Zz34.Q (Zz34.g k) Zz34.h := (show Zz34.g k = Zz34.D.val Zz34.S k from funext fun _ => by unfold Zz34.g; rw [Zz34.f_def]; rfl) ▸ Decl.does (D := Zz34.D) (S := Zz34.S) (fn := Go.Proofs.Tryz.f67) (by constructor <;> first | kernel_rfl | exact TT.of_ok _ T0ex) (fun k => ⟨told_ok (Zz15.does k), ⟨told_ok (Zz64.does k), ⟨told_ok (Zz73.does k), trivial⟩⟩⟩) (fun _ _ h => by rw [h rfl]; rfl) k
def Zz76.A : AK := .p (.np 125 (.cons (.fp 77 (.cons (.int .u64) (.cons (.int .u64) (.cons (.int .u64) .nil)))) (.cons (.int .i64) (.cons (.row .u64) (.cons (.int .u64) .nil))))) .nil
def Zz76.Q : RK := .p (.int .i64) .nil
def Zz76.h : Int → Zz76.Q.T × List Int := fun b => ((b, ()), [])
noncomputable def Zz76.D : Decl Int := ⟨(Go.Proofs.Tryz.f82.body).getD .skip, 11, [.tmp 2], Zz76.A, Zz76.Q, fun y m => y.1, T0, [], [], []⟩
noncomputable def Zz76.S (k : Nat) : List (Nat × E.Spec Int) := []
noncomputable def Zz76.f0 (k : Nat) (a0 : Option ((Int × Int × Int × Unit) × Int × List Int × Int × Unit)) : Option Int := Zz76.D.val Zz76.S k (a0, ())
noncomputable def Zz76.f := (still Zz76.f0).1
theorem Zz76.f_def : Zz76.f = Zz76.f0 := (still Zz76.f0).2
noncomputable def Zz76.g (k : Nat) (x : Zz76.A.T) : Option Int := Zz76.f k (x.1)
theorem Zz76.does (k : Nat) : Does PG 82 Zz76.A Zz76.Q (Zz76.g k) Zz76.h := (show Zz76.g k = Zz76.D.val Zz76.S k from funext fun _ => by unfold Zz76.g; rw [Zz76.f_def]; rfl) ▸ Decl.does (D := Zz76.D) (S := Zz76.S) (fn := Go.Proofs.Tryz.f82) (by constructor <;> first | kernel_rfl | exact TT.of_ok _ T0ex) (fun k => trivial) (fun _ _ h => by rw [h rfl]; rfl) k
def Zz108.A : AK := .p (.fp 77 (.cons (.int .u64) (.cons (.int .u64) (.cons (.int .u64) .nil)))) (.p (.int .u64) (.p (.int .u64) .nil))
def Zz108.Q : RK := .p (.int .u64) .nil
def Zz108.h : Int → Zz108.Q.T × List Int := fun b => ((b, ()), [])
noncomputable def Zz108.D : Decl Int := ⟨(Go.Proofs.Tryz.f109.body).getD .skip, 36, [.tmp 6], Zz108.A, Zz108.Q, fun y m => y.1, T0, [], [], []⟩
noncomputable def Zz108.S (k : Nat) : List (Nat × E.Spec Int) := []
noncomputable def Zz108.f0 (k : Nat) (a0_0 a0_1 a0_2 a1 a2 : Int) : Option Int := Zz108.D.val Zz108.S k ((a0_0, a0_1, a0_2, ()), a1, a2, ())
noncomputable def Zz108.f := (still Zz108.f0).1
theorem Zz108.f_def : Zz108.f = Zz108.f0 := (still Zz108.f0).2
noncomputable def Zz108.g (k : Nat) (x : Zz108.A.T) : Option Int := Zz108.f k (x.1.1) (x.1.2.1) (x.1.2.2.1) (x.2.1) (x.2.2.1)
theorem Zz108.does (k : Nat) : Does PG 109 Zz108.A Zz108.Q (Zz108.g k) Zz108.h := (show Zz108.g k = Zz108.D.val Zz108.S k from funext fun _ => by unfold Zz108.g; rw [Zz108.f_def]; rfl) ▸ Decl.does (D := Zz108.D) (S := Zz108.S) (fn := Go.Proofs.Tryz.f109) (by constructor <;> first | kernel_rfl | exact TT.of_ok _ T0ex) (fun k => trivial) (fun _ _ h => by rw [h rfl]; rfl) k
def Zz80.A : AK := .p (.np 125 (.cons (.fp 77 (.cons (.int .u64) (.cons (.int .u64) (.cons (.int .u64) .nil)))) (.cons (.int .i64) (.cons (.row .u64) (.cons (.int .u64) .nil))))) (.p (.int .i64) (.p (.int .u64) .nil))
def Zz80.Q : RK := .p (.agg (.cons (.int .i64) (.cons (.int .u64) (.cons (.int .u64) .nil)))) .nil
def Zz80.h : (Int × Int × Int) → Zz80.Q.T × List Int := fun b => (((b.1, b.2.1, b.2.2, ()), ()), [])
noncomputable def Zz80.D : Decl (Int × Int × Int) := ⟨(Go.Proofs.Tryz.f99.body).getD .skip, 25, [.cell 6 135], Zz80.A, Zz80.Q, fun y m => (y.1.1, y.1.2.1, y.1.2.2.1), T0, [], [(3, [(0, .p (some (.fp 125 (.cons (.fp 77 (.cons (.int .u64) (.cons (.int .u64) (.cons (.int .u64) .nil)))) (.cons (.int .i64) (.cons (.row .u64) (.cons (.int .u64) .nil))))))), (1, .p (some (.int .i64))), (2, .p (some (.int .u64))), (6, .b (some (.cons (.int .i64) (.cons (.int .u64) (.cons (.int .u64) .nil))))), (7, .p (some (.int .u64))), (10, .p (some (.int .i64))), (11, .p (some (.int .i64)))])], []⟩
noncomputable def Zz80.S (k : Nat) : List (Nat × E.Spec (Int × Int × Int)) := [(45, told _ Zz110.A Zz110.Q (Zz110.g k) Zz110.h)]
noncomputable def Zz80.l3 (k : Nat) (x0_0 x0_1 x0_2 x0_3 : Int) (x0_4 : List Int) (x0_5 x1 x2 x6_0 x6_1 x6_2 x7 x10 x11 : Int) : Option (Int × Int × Int) := Zz80.D.F Zz80.S k 7 [.p (.fp 125 [.fp 77 [.lit (.int .u64 x0_0), .lit (.int .u64 x0_1), .lit (.int .u64 x0_2)], .lit (.int .i64 x0_3), .row .u64 x0_4, .lit (.int .u64 x0_5)]), .p (.lit (.int .i64 x1)), .p (.lit (.int .u64 x2)), .b 135 [.lit (.int .i64 x6_0), .lit (.int .u64 x6_1), .lit (.int .u64 x6_2)], .p (.lit (.int .u64 x7)), .p (.lit (.int .i64 x10)), .p (.lit (.int .i64 x11))]
noncomputable def Zz80.f0 (k : Nat) (a0 : Option ((Int × Int × Int × Unit) × Int × List Int × Int × Unit)) (a1 a2 : Int) : Option (Int × Int × Int) := Zz80.D.val Zz80.S k (a0, a1, a2, ())
noncomputable def Zz80.f := (still Zz80.f0).1
theorem Zz80.f_def : Zz80.f = Zz80.f0 := (still Zz80.f0).2
noncomputable def Zz80.g (k : Nat) (x : Zz80.A.T) : Option (Int × Int × Int) := Zz80.f k (x.1) (x.2.1) (x.2.2.1)
theorem Zz80.does (k : Nat) : Does PG 99 Zz80.A Zz80.Q (Zz80.g k) Zz80.h := (show Zz80.g k = Zz80.D.val Zz80.S k from funext fun _ => by unfold Zz80.g; rw [Zz80.f_def]; rfl) ▸ Decl.does (D := Zz80.D) (S := Zz80.S) (fn := Go.Proofs.Tryz.f99) (by constructor <;> first | kernel_rfl | exact TT.of_ok _ T0ex) (fun k => ⟨told_ok (Zz110.does k), trivial⟩) (fun _ _ h => by rw [h rfl]; rfl) k
def Zz78.A : AK := .p (.np 125 (.cons (.fp 77 (.cons (.int .u64) (.cons (.int .u64) (.cons (.int .u64) .nil)))) (.cons (.int .i64) (.cons (.row .u64) (.cons (.int .u64) .nil))))) (.p (.agg (.cons (.int .i64) (.cons (.int .u64) (.cons (.int .u64) .nil)))) .nil)
def Zz78.Q : RK := .p (.agg (.cons (.int .i64) (.cons (.int .u64) (.cons (.int .u64) .nil)))) .nil
def Zz78.h : (Int × Int × Int) → Zz78.Q.T × List Int := fun b => (((b.1, b.2.1, b.2.2, ()), ()), [])
noncomputable def Zz78.D : Decl (Int × Int × Int) := ⟨(Go.Proofs.Tryz.f110.body).getD .skip, 12, [.cell 4 135], Zz78.A, Zz78.Q, fun y m => (y.1.1, y.1.2.1, y.1.2.2.1), T0, [], [], []⟩
noncomputable def Zz78.S (k : Nat) : List (Nat × E.Spec (Int × Int × Int)) := [(99, told _ Zz80.A Zz80.Q (Zz80.g k) Zz80.h)]
noncomputable def Zz78.f0 (k : Nat) (a0 : Option ((Int × Int × Int × Unit) × Int × List Int × Int × Unit)) (a1_0 a1_1 a1_2 : Int) : Option (Int × Int × Int) := Zz78.D.val Zz78.S k (a0, (a1_0, a1_1, a1_2, ()), ())
noncomputable def Zz78.f := (still Zz78.f0).1
theorem Zz78.f_def : Zz78.f = Zz78.f0 := (still Zz78.f0).2
noncomputable def Zz78.g (k : Nat) (x : Zz78.A.T) : Option (Int × Int × Int) := Zz78.f k (x.1) (x.2.1.1) (x.2.1.2.1) (x.2.1.2.2.1)
theorem Zz78.does (k : Nat) : Does PG 110 Zz78.A Zz78.Q (Zz78.g k) Zz78.h := (show Zz78.g k = Zz78.D.val Zz78.S k from funext fun _ => by unfold Zz78.g; rw [Zz78.f_def]; rfl) ▸ Decl.does (D := Zz78.D) (S := Zz78.S) (fn := Go.Proofs.Tryz.f110) (by constructor <;> first | kernel_rfl | exact TT.of_ok _ T0ex) (fun k => ⟨told_ok (Zz80.does k), trivial⟩) (fun _ _ h => by rw [h rfl]; rfl) k
def Zz82.A : AK := .p (.np 125 (.cons (.fp 77 (.cons (.int .u64) (.cons (.int .u64) (.cons (.int .u64) .nil)))) (.cons (.int .i64) (.cons (.row .u64) (.cons (.int .u64) .nil))))) (.p (.agg (.cons (.int .i64) (.cons (.int .u64) (.cons (.int .u64) .nil)))) .nil)
def Zz82.Q : RK := .p (.agg (.cons (.int .i64) (.cons (.int .u64) (.cons (.int .u64) .nil)))) .nil
def Zz82.h : (Int × Int × Int) → Zz82.Q.T × List Int := fun b => (((b.1, b.2.1, b.2.2, ()), ()), [])
noncomputable def Zz82.D : Decl (Int × Int × Int) := ⟨(Go.Proofs.Tryz.f111.body).getD .skip, 25, [.cell 4 135], Zz82.A, Zz82.Q, fun y m => (y.1.1, y.1.2.1, y.1.2.2.1), T0, [], [], []⟩
noncomputable def Zz82.S (k : Nat) : List (Nat × E.Spec (Int × Int × Int)) := [(45, told _ Zz110.A Zz110.Q (Zz110.g k) Zz110.h), (99, told _ Zz80.A Zz80.Q (Zz80.g k) Zz80.h)]
noncomputable def Zz82.f0 (k : Nat) (a0 : Option ((Int × Int × Int × Unit) × Int × List Int × Int × Unit)) (a1_0 a1_1 a1_2 : Int) : Option (Int × Int × Int) := Zz82.D.val Zz82.S k (a0, (a1_0, a1_1, a1_2, ()), ())
noncomputable def Zz82.f := (still Zz82.f0).1
theorem Zz82.f_def : Zz82.f = Zz82.f0 := (still Zz82.f0).2
noncomputable def Zz82.g (k : Nat) (x : Zz82.A.T) : Option (Int × Int × Int) := Zz82.f k (x.1) (x.2.1.1) (x.2.1.2.1) (x.2.1.2.2.1)
theorem Zz82.does (k : Nat) : Does PG 111 Zz82.A Zz82.Q (Zz82.g k) Zz82.h := (show Zz82.g k = Zz82.D.val Zz82.S k from funext fun _ => by unfold Zz82.g; rw [Zz82.f_def]; rfl) ▸ Decl.does (D := Zz82.D) (S := Zz82.S) (fn := Go.Proofs.Tryz.f111) (by constructor <;> first | kernel_rfl | exact TT.of_ok _ T0ex) (fun k => ⟨told_ok (Zz110.does k), ⟨told_ok (Zz80.does k), trivial⟩⟩) (fun _ _ h => by rw [h rfl]; rfl) k
def Zz83.A : AK := .p (.np 125 (.cons (.fp 77 (.cons (.int .u64) (.cons (.int .u64) (.cons (.int .u64) .nil)))) (.cons (.int .i64) (.cons (.row .u64) (.cons (.int .u64) .nil))))) (.p (.row .u64) (.p (.agg (.cons (.int .i64) (.cons (.int .u64) (.cons (.int .u64) .nil)))) (.p (.int .i64) .nil)))
def Zz83.Q : RK := .o (.num .u64) 23 .nil
def Zz83.h : List Int → Zz83.Q.T × List Int := fun b => (((b), ()), [])
noncomputable def Zz83.D : Decl (List Int) := ⟨(Go.Proofs.Tryz.f97.body).getD .skip, 101, [.tmp 8], Zz83.A, Zz83.Q, fun y m => y.1, T0, [], [(8, [(0, .p (some (.fp 125 (.cons (.fp 77 (.cons (.int .u64) (.cons (.int .u64) (.cons (.int .u64) .nil)))) (.cons (.int .i64) (.cons (.row .u64) (.cons (.int .u64) .nil))))))), (1, .p (some (.row .u64))), (3, .p (some (.int .i64))), (6, .b (some (.cons (.int .i64) (.cons (.int .u64) (.cons (.int .u64) .nil))))), (9, .p (some (.int .i64))), (10, .m (.num .u64) 23), (11, .m (.num .u64) 23), (33, .p (some (.int .i64))), (34, .p (some (.int .i64)))])], [(13, [10]), (15, [11])]⟩
def Zz83.rg (R : (Option ((Int × Int × Int × Unit) × Int × List Int × Int × Unit)) → (List Int) → Int → Int → Int → Int → Option (List Int)) (x : Zz83.A.T) : Option (List Int) := R (x.1) (x.2.1) (x.2.2.1.1) (x.2.2.1.2.1) (x.2.2.1.2.2.1) (x.2.2.2.1)
noncomputable def Zz83.S (R : (Option ((Int × Int × Int × Unit) × Int × List Int × Int × Unit)) → (List Int) → Int → Int → Int → Int → Option (List Int)) (k : Nat) : List (Nat × E.Spec (List Int)) := [(45, told _ Zz110.A Zz110.Q (Zz110.g k) Zz110.h), (89, told _ Zz113.A Zz113.Q (Zz113.g k) Zz113.h), (97, told _ Zz83.A Zz83.Q (Zz83.rg R) Zz83.h), (109, told _ Zz108.A Zz108.Q (Zz108.g k) Zz108.h), (110, told _ Zz78.A Zz78.Q (Zz78.g k) Zz78.h), (111, told _ Zz82.A Zz82.Q (Zz82.g k) Zz82.h)]
noncomputable def Zz83.l8 (R : (Option ((Int × Int × Int × Unit) × Int × List Int × Int × Unit)) → (List Int) → Int → Int → Int → Int → Option (List Int)) (k : Nat) (x0_0 x0_1 x0_2 x0_3 : Int) (x0_4 : List Int) (x0_5 : Int) (x1 : List Int) (x3 x6_0 x6_1 x6_2 x9 : Int) (x10 x11 : List Int) (x33 x34 : Int) : Option (List Int) := Zz83.D.F (Zz83.S R) k 17 [.p (.fp 125 [.fp 77 [.lit (.int .u64 x0_0), .lit (.int .u64 x0_1), .lit (.int .u64 x0_2)], .lit (.int .i64 x0_3), .row .u64 x0_4, .lit (.int .u64 x0_5)]), .p (.row .u64 x1), .p (.lit (.int .i64 x3)), .b 135 [.lit (.int .i64 x6_0), .lit (.int .u64 x6_1), .lit (.int .u64 x6_2)], .p (.lit (.int .i64 x9)), .m x10, .m x11, .p (.lit (.int .i64 x33)), .p (.lit (.int .i64 x34))]
noncomputable def Zz83.v (R : (Option ((Int × Int × Int × Unit) × Int × List Int × Int × Unit)) → (List Int) → Int → Int → Int → Int → Option (List Int)) (k : Nat) (a0 : Option ((Int × Int × Int × Unit) × Int × List Int × Int × Unit)) (a1 : List Int) (a2_0 a2_1 a2_2 a3 : Int) : Option (List Int) := Zz83.D.val (Zz83.S R) k (a0, a1, (a2_0, a2_1, a2_2, ()), a3, ())
noncomputable def Zz83.rc : Nat → (Option ((Int × Int × Int × Unit) × Int × List Int × Int × Unit)) → (List Int) → Int → Int → Int → Int → Option (List Int)
 | 0 => fun _ _ _ _ _ _ => none
 | q + 1 => fun a0 a1 a2_0 a2_1 a2_2 a3 => Zz83.v (Zz83.rc q) q a0 a1 a2_0 a2_1 a2_2 a3
theorem Zz83.rdoes : ∀ q : Nat, Does PG 97 Zz83.A Zz83.Q (Zz83.rg (Zz83.rc q)) Zz83.h
 | 0 => fun _ _ h => by cases h
 | q + 1 => by
  have hR := Zz83.rdoes q
  generalize hr : Zz83.rc q = R at hR
  have e : Zz83.rg (Zz83.rc (q + 1)) = Zz83.D.val (Zz83.S R) q := by rw [← hr]; rfl
  rw [e]
  exact Decl.does (D := Zz83.D) (S := Zz83.S R) (fn := Go.Proofs.Tryz.f97) (by constructor <;> first | kernel_rfl | exact TT.of_ok _ T0ex) (fun k => ⟨told_ok (Zz110.does k), ⟨told_ok (Zz113.does k), ⟨told_ok hR, ⟨told_ok (Zz108.does k), ⟨told_ok (Zz78.does k), ⟨told_ok (Zz82.does k), trivial⟩⟩⟩⟩⟩⟩) (fun _ _ h => by rw [h rfl]; rfl) q
noncomputable def Zz83.f0 (k : Nat) (a0 : Option ((Int × Int × Int × Unit) × Int × List Int × Int × Unit)) (a1 : List Int) (a2_0 a2_1 a2_2 a3 : Int) : Option (List Int) := Zz83.rc k a0 a1 a2_0 a2_1 a2_2 a3
noncomputable def Zz83.f := (still Zz83.f0).1
theorem Zz83.f_def : Zz83.f = Zz83.f0 := (still Zz83.f0).2
noncomputable def Zz83.g (k : Nat) (x : Zz83.A.T) : Option (List Int) := Zz83.f k (x.1) (x.2.1) (x.2.2.1.1) (x.2.2.1.2.1) (x.2.2.1.2.2.1) (x.2.2.2.1)
theorem Zz83.f_rc (k : Nat) : Zz83.f k = Zz83.rc k := by rw [Zz83.f_def]; rfl
theorem Zz83.f_succ (k : Nat) (a0 : Option ((Int × Int × Int × Unit) × Int × List Int × Int × Unit)) (a1 : List Int) (a2_0 a2_1 a2_2 a3 : Int) : Zz83.f (k + 1) a0 a1 a2_0 a2_1 a2_2 a3 = Zz83.v (Zz83.f k) k a0 a1 a2_0 a2_1 a2_2 a3 := by rw [Zz83.f_rc, Zz83.f_rc]; rfl
theorem Zz83.does (k : Nat) : Does PG 97 Zz83.A Zz83.Q (Zz83.g k) Zz83.h := (show Zz83.g k = Zz83.rg (Zz83.rc k) from funext fun _ => by unfold Zz83.g; rw [Zz83.f_rc]; rfl) ▸ Zz83.rdoes k
def Zz81.A : AK := .p (.np 125 (.cons (.fp 77 (.cons (.int .u64) (.cons (.int .u64) (.cons (.int .u64) .nil)))) (.cons (.int .i64) (.cons (.row .u64) (.cons (.int .u64) .nil))))) (.p (.row .u64) .nil)
def Zz81.Q : RK := .p (.row .u64) .nil
def Zz81.h : List Int → Zz81.Q.T × List Int := fun b => ((b, ()), [])
noncomputable def Zz81.D : Decl (List Int) := ⟨(Go.Proofs.Tryz.f98.body).getD .skip, 29, [.tmp 4], Zz81.A, Zz81.Q, fun y m => y.1, T0, [], [(3, [(0, .p (some (.fp 125 (.cons (.fp 77 (.cons (.int .u64) (.cons (.int .u64) (.cons (.int .u64) .nil)))) (.cons (.int .i64) (.cons (.row .u64) (.cons (.int .u64) .nil))))))), (5, .m (.num .u64) 23), (11, .p (some (.row .u64))), (12, .p (some (.int .i64))), (13, .p (some (.int .i64)))])], []⟩
noncomputable def Zz81.S (k : Nat) : List (Nat × E.Spec (List Int)) := [(48, told _ Zz111.A Zz111.Q (Zz111.g k) Zz111.h), (82, told _ Zz76.A Zz76.Q (Zz76.g k) Zz76.h)]
noncomputable def Zz81.l3 (k : Nat) (x0_0 x0_1 x0_2 x0_3 : Int) (x0_4 : List Int) (x0_5 : Int) (x5 x11 : List Int) (x12 x13 : Int) : Option (List Int) := Zz81.D.F Zz81.S k 7 [.p (.fp 125 [.fp 77 [.lit (.int .u64 x0_0), .lit (.int .u64 x0_1), .lit (.int .u64 x0_2)], .lit (.int .i64 x0_3), .row .u64 x0_4, .lit (.int .u64 x0_5)]), .m x5, .p (.row .u64 x11), .p (.lit (.int .i64 x12)), .p (.lit (.int .i64 x13))]
noncomputable def Zz81.f0 (k : Nat) (a0 : Option ((Int × Int × Int × Unit) × Int × List Int × Int × Unit)) (a1 : List Int) : Option (List Int) := Zz81.D.val Zz81.S k (a0, a1, ())
noncomputable def Zz81.f := (still Zz81.f0).1
theorem Zz81.f_def : Zz81.f = Zz81.f0 := (still Zz81.f0).2
noncomputable def Zz81.g (k : Nat) (x : Zz81.A.T) : Option (List Int) := Zz81.f k (x.1) (x.2.1)
theorem Zz81.does (k : Nat) : Does PG 98 Zz81.A Zz81.Q (Zz81.g k) Zz81.h := (show Zz81.g k = Zz81.D.val Zz81.S k from funext fun _ => by unfold Zz81.g; rw [Zz81.f_def]; rfl) ▸ Decl.does (D := Zz81.D) (S := Zz81.S) (fn := Go.Proofs.Tryz.f98) (by constructor <;> first | kernel_rfl | exact TT.of_ok _ T0ex) (fun k => ⟨told_ok (Zz111.does k), ⟨told_ok (Zz76.does k), trivial⟩⟩) (fun _ _ h => by rw [h rfl]; rfl) k
def Zz75.A : AK := .p (.np 125 (.cons (.fp 77 (.cons (.int .u64) (.cons (.int .u64) (.cons (.int .u64) .nil)))) (.cons (.int .i64) (.cons (.row .u64) (.cons (.int .u64) .nil))))) (.p (.row .u64) (.p (.int .i64) .nil))
def Zz75.Q : RK := .o (.num .u64) 23 (.p (.int .i64) .nil)
def Zz75.h : (List Int × Int) → Zz75.Q.T × List Int := fun b => (((b.1), b.2, ()), [])
noncomputable def Zz75.D : Decl (List Int × Int) := ⟨(Go.Proofs.Tryz.f83.body).getD .skip, 38, [.tmp 6, .tmp 7], Zz75.A, Zz75.Q, fun y m => (y.1, y.2.1), T0, [], [], []⟩
noncomputable def Zz75.S (k : Nat) : List (Nat × E.Spec (List Int × Int)) := [(82, told _ Zz76.A Zz76.Q (Zz76.g k) Zz76.h), (97, told _ Zz83.A Zz83.Q (Zz83.g k) Zz83.h), (98, told _ Zz81.A Zz81.Q (Zz81.g k) Zz81.h), (99, told _ Zz80.A Zz80.Q (Zz80.g k) Zz80.h)]
noncomputable def Zz75.f0 (k : Nat) (a0 : Option ((Int × Int × Int × Unit) × Int × List Int × Int × Unit)) (a1 : List Int) (a2 : Int) : Option (List Int × Int) := Zz75.D.val Zz75.S k (a0, a1, a2, ())
noncomputable def Zz75.f := (still Zz75.f0).1
theorem Zz75.f_def : Zz75.f = Zz75.f0 := (still Zz75.f0).2
noncomputable def Zz75.g (k : Nat) (x : Zz75.A.T) : Option (List Int × Int) := Zz75.f k (x.1) (x.2.1) (x.2.2.1)
theorem Zz75.does (k : Nat) : Does PG 83 Zz75.A Zz75.Q (Zz75.g k) Zz75.h := (show Zz75.g k = Zz75.D.val Zz75.S k from funext fun _ => by unfold Zz75.g; rw [Zz75.f_def]; rfl) ▸ Decl.does (D := Zz75.D) (S := Zz75.S) (fn := Go.Proofs.Tryz.f83) (by constructor <;> first | kernel_rfl | exact TT.of_ok _ T0ex) (fun k => ⟨told_ok (Zz76.does k), ⟨told_ok (Zz83.does k), ⟨told_ok (Zz81.does k), ⟨told_ok (Zz80.does k), trivial⟩⟩⟩⟩) (fun _ _ h => by rw [h rfl]; rfl) k
def Zz84.A : AK := .p (.np 125 (.cons (.fp 77 (.cons (.int .u64) (.cons (.int .u64) (.cons (.int .u64) .nil)))) (.cons (.int .i64) (.cons (.row .u64) (.cons (.int .u64) .nil))))) (.p (.row .u64) (.p (.row .u64) (.p (.agg (.cons (.int .i64) (.cons (.int .u64) (.cons (.int .u64) .nil)))) .nil)))
def Zz84.Q : RK := .p (.row .u64) .nil
def Zz84.h : List Int → Zz84.Q.T × List Int := fun b => ((b, ()), [])
noncomputable def Zz84.D : Decl (List Int) := ⟨(Go.Proofs.Tryz.f100.body).getD .skip, 181, [.tmp 8], Zz84.A, Zz84.Q, fun y m => y.1, T0, [], [(21, [(0, .p (some (.fp 125 (.cons (.fp 77 (.cons (.int .u64) (.cons (.int .u64) (.cons (.int .u64) .nil)))) (.cons (.int .i64) (.cons (.row .u64) (.cons (.int .u64) .nil))))))), (10, .p (some (.int .i64))), (11, .p (some (.row .u64))), (16, .p (some (.row .u64))), (17, .p (some (.int .u64))), (19, .m (.num .u64) 23), (117, .p (some (.int .i64))), (118, .p (some (.int .i64)))]), (13, [(0, .p (some (.fp 125 (.cons (.fp 77 (.cons (.int .u64) (.cons (.int .u64) (.cons (.int .u64) .nil)))) (.cons (.int .i64) (.cons (.row .u64) (.cons (.int .u64) .nil))))))), (1, .p (some (.row .u64))), (7, .b (some (.cons (.int .i64) (.cons (.int .u64) (.cons (.int .u64) .nil))))), (9, .p (some (.int .i64))), (10, .p (some (.int .i64))), (11, .p (some (.row .u64))), (12, .m (.num .u64) 23), (13, .p (some (.int .u64))), (64, .p (some (.row .u64))), (65, .p (some (.int .i64))), (66, .p (some (.int .i64)))])], [(17, [12])]⟩
def Zz84.rg (R : (Option ((Int × Int × Int × Unit) × Int × List Int × Int × Unit)) → (List Int) → (List Int) → Int → Int → Int → Option (List Int)) (x : Zz84.A.T) : Option (List Int) := R (x.1) (x.2.1) (x.2.2.1) (x.2.2.2.1.1) (x.2.2.2.1.2.1) (x.2.2.2.1.2.2.1)
def Zz79.A : AK := .p (.np 125 (.cons (.fp 77 (.cons (.int .u64) (.cons (.int .u64) (.cons (.int .u64) .nil)))) (.cons (.int .i64) (.cons (.row .u64) (.cons (.int .u64) .nil))))) (.p (.row .u64) (.p (.row .u64) (.p (.agg (.cons (.int .i64) (.cons (.int .u64) (.cons (.int .u64) .nil)))) (.p (.int .i64) .nil))))
def Zz79.Q : RK := .o (.num .u64) 23 .nil
def Zz79.h : List Int → Zz79.Q.T × List Int := fun b => (((b), ()), [])
noncomputable def Zz79.D : Decl (List Int) := ⟨(Go.Proofs.Tryz.f112.body).getD .skip, 104, [.tmp 10], Zz79.A, Zz79.Q, fun y m => y.1, T0, [], [(11, [(0, .p (some (.fp 125 (.cons (.fp 77 (.cons (.int .u64) (.cons (.int .u64) (.cons (.int .u64) .nil)))) (.cons (.int .i64) (.cons (.row .u64) (.cons (.int .u64) .nil))))))), (4, .p (some (.int .i64))), (8, .b (some (.cons (.int .i64) (.cons (.int .u64) (.cons (.int .u64) .nil))))), (12, .p (some (.row .u64))), (15, .p (some (.row .u64))), (16, .m (.num .u64) 23), (66, .p (some (.int .i64))), (67, .p (some (.int .i64)))]), (5, [(0, .p (some (.fp 125 (.cons (.fp 77 (.cons (.int .u64) (.cons (.int .u64) (.cons (.int .u64) .nil)))) (.cons (.int .i64) (.cons (.row .u64) (.cons (.int .u64) .nil))))))), (1, .p (some (.row .u64))), (2, .p (some (.row .u64))), (4, .p (some (.int .i64))), (8, .b (some (.cons (.int .i64) (.cons (.int .u64) (.cons (.int .u64) .nil))))), (11, .p (some (.int .i64))), (12, .p (some (.row .u64))), (13, .m (.num .u64) 23), (14, .p (some (.int .i64)))])], [(8, [13])]⟩
noncomputable def Zz79.S (R : (Option ((Int × Int × Int × Unit) × Int × List Int × Int × Unit)) → (List Int) → (List Int) → Int → Int → Int → Option (List Int)) (k : Nat) : List (Nat × E.Spec (List Int)) := [(45, told _ Zz110.A Zz110.Q (Zz110.g k) Zz110.h), (89, told _ Zz113.A Zz113.Q (Zz113.g k) Zz113.h), (100, told _ Zz84.A Zz84.Q (Zz84.rg R) Zz84.h), (109, told _ Zz108.A Zz108.Q (Zz108.g k) Zz108.h), (110, told _ Zz78.A Zz78.Q (Zz78.g k) Zz78.h)]
noncomputable def Zz79.l11 (R : (Option ((Int × Int × Int × Unit) × Int × List Int × Int × Unit)) → (List Int) → (List Int) → Int → Int → Int → Option (List Int)) (k : Nat) (x0_0 x0_1 x0_2 x0_3 : Int) (x0_4 : List Int) (x0_5 x4 x8_0 x8_1 x8_2 : Int) (x12 x15 x16 : List Int) (x66 x67 : Int) : Option (List Int) := Zz79.D.F (Zz79.S R) k 23 [.p (.fp 125 [.fp 77 [.lit (.int .u64 x0_0), .lit (.int .u64 x0_1), .lit (.int .u64 x0_2)], .lit (.int .i64 x0_3), .row .u64 x0_4, .lit (.int .u64 x0_5)]), .p (.lit (.int .i64 x4)), .b 135 [.lit (.int .i64 x8_0), .lit (.int .u64 x8_1), .lit (.int .u64 x8_2)], .p (.row .u64 x12), .p (.row .u64 x15), .m x16, .p (.lit (.int .i64 x66)), .p (.lit (.int .i64 x67))]
noncomputable def Zz79.l5 (R : (Option ((Int × Int × Int × Unit) × Int × List Int × Int × Unit)) → (List Int) → (List Int) → Int → Int → Int → Option (List Int)) (k : Nat) (x0_0 x0_1 x0_2 x0_3 : Int) (x0_4 : List Int) (x0_5 : Int) (x1 x2 : List Int) (x4 x8_0 x8_1 x8_2 x11 : Int) (x12 x13 : List Int) (x14 : Int) : Option (List Int) := Zz79.D.F (Zz79.S R) k 11 [.p (.fp 125 [.fp 77 [.lit (.int .u64 x0_0), .lit (.int .u64 x0_1), .lit (.int .u64 x0_2)], .lit (.int .i64 x0_3), .row .u64 x0_4, .lit (.int .u64 x0_5)]), .p (.row .u64 x1), .p (.row .u64 x2), .p (.lit (.int .i64 x4)), .b 135 [.lit (.int .i64 x8_0), .lit (.int .u64 x8_1), .lit (.int .u64 x8_2)], .p (.lit (.int .i64 x11)), .p (.row .u64 x12), .m x13, .p (.lit (.int .i64 x14))]
noncomputable def Zz79.f0 (R : (Option ((Int × Int × Int × Unit) × Int × List Int × Int × Unit)) → (List Int) → (List Int) → Int → Int → Int → Option (List Int)) (k : Nat) (a0 : Option ((Int × Int × Int × Unit) × Int × List Int × Int × Unit)) (a1 a2 : List Int) (a3_0 a3_1 a3_2 a4 : Int) : Option (List Int) := Zz79.D.val (Zz79.S R) k (a0, a1, a2, (a3_0, a3_1, a3_2, ()), a4, ())
noncomputable def Zz79.f := (still Zz79.f0).1
theorem Zz79.f_def : Zz79.f = Zz79.f0 := (still Zz79.f0).2
noncomputable def Zz79.g (R : (Option ((Int × Int × Int × Unit) × Int × List Int × Int × Unit)) → (List Int) → (List Int) → Int → Int → Int → Option (List Int)) (k : Nat) (x : Zz79.A.T) : Option (List Int) := Zz79.f R k (x.1) (x.2.1) (x.2.2.1) (x.2.2.2.1.1) (x.2.2.2.1.2.1) (x.2.2.2.1.2.2.1) (x.2.2.2.2.1)
theorem Zz79.does (R : (Option ((Int × Int × Int × Unit) × Int × List Int × Int × Unit)) → (List Int) → (List Int) → Int → Int → Int → Option (List Int)) (hR : Does PG 100 Zz84.A Zz84.Q (Zz84.rg R) Zz84.h) (k : Nat) : Does PG 112 Zz79.A Zz79.Q (Zz79.g R k) Zz79.h := (show Zz79.g R k = Zz79.D.val (Zz79.S R) k from funext fun _ => by unfold Zz79.g; rw [Zz79.f_def]; rfl) ▸ Decl.does (D := Zz79.D) (S := (Zz79.S R)) (fn := Go.Proofs.Tryz.f112) (by constructor <;> first | kernel_rfl | exact TT.of_ok _ T0ex) (fun k => ⟨told_ok (Zz110.does k), ⟨told_ok (Zz113.does k), ⟨told_ok hR, ⟨told_ok (Zz108.does k), ⟨told_ok (Zz78.does k), trivial⟩⟩⟩⟩⟩) (fun _ _ h => by rw [h rfl]; rfl) k
noncomputable def Zz84.S (R : (Option ((Int × Int × Int × Unit) × Int × List Int × Int × Unit)) → (List Int) → (List Int) → Int → Int → Int → Option (List Int)) (k : Nat) : List (Nat × E.Spec (List Int)) := [(45, told _ Zz110.A Zz110.Q (Zz110.g k) Zz110.h), (88, told _ Zz109.A Zz109.Q (Zz109.g k) Zz109.h), (89, told _ Zz113.A Zz113.Q (Zz113.g k) Zz113.h), (100, told _ Zz84.A Zz84.Q (Zz84.rg R) Zz84.h), (109, told _ Zz108.A Zz108.Q (Zz108.g k) Zz108.h), (110, told _ Zz78.A Zz78.Q (Zz78.g k) Zz78.h), (111, told _ Zz82.A Zz82.Q (Zz82.g k) Zz82.h), (112, told _ Zz79.A Zz79.Q (Zz79.g R k) Zz79.h)]
noncomputable def Zz84.l21 (R : (Option ((Int × Int × Int × Unit) × Int × List Int × Int × Unit)) → (List Int) → (List Int) → Int → Int → Int → Option (List Int)) (k : Nat) (x0_0 x0_1 x0_2 x0_3 : Int) (x0_4 : List Int) (x0_5 x10 : Int) (x11 x16 : List Int) (x17 : Int) (x19 : List Int) (x117 x118 : Int) : Option (List Int) := Zz84.D.F (Zz84.S R) k 43 [.p (.fp 125 [.fp 77 [.lit (.int .u64 x0_0), .lit (.int .u64 x0_1), .lit (.int .u64 x0_2)], .lit (.int .i64 x0_3), .row .u64 x0_4, .lit (.int .u64 x0_5)]), .p (.lit (.int .i64 x10)), .p (.row .u64 x11), .p (.row .u64 x16), .p (.lit (.int .u64 x17)), .m x19, .p (.lit (.int .i64 x117)), .p (.lit (.int .i64 x118))]
noncomputable def Zz84.l13 (R : (Option ((Int × Int × Int × Unit) × Int × List Int × Int × Unit)) → (List Int) → (List Int) → Int → Int → Int → Option (List Int)) (k : Nat) (x0_0 x0_1 x0_2 x0_3 : Int) (x0_4 : List Int) (x0_5 : Int) (x1 : List Int) (x7_0 x7_1 x7_2 x9 x10 : Int) (x11 x12 : List Int) (x13 : Int) (x64 : List Int) (x65 x66 : Int) : Option (List Int) := Zz84.D.F (Zz84.S R) k 27 [.p (.fp 125 [.fp 77 [.lit (.int .u64 x0_0), .lit (.int .u64 x0_1), .lit (.int .u64 x0_2)], .lit (.int .i64 x0_3), .row .u64 x0_4, .lit (.int .u64 x0_5)]), .p (.row .u64 x1), .b 135 [.lit (.int .i64 x7_0), .lit (.int .u64 x7_1), .lit (.int .u64 x7_2)], .p (.lit (.int .i64 x9)), .p (.lit (.int .i64 x10)), .p (.row .u64 x11), .m x12, .p (.lit (.int .u64 x13)), .p (.row .u64 x64), .p (.lit (.int .i64 x65)), .p (.lit (.int .i64 x66))]
noncomputable def Zz84.v (R : (Option ((Int × Int × Int × Unit) × Int × List Int × Int × Unit)) → (List Int) → (List Int) → Int → Int → Int → Option (List Int)) (k : Nat) (a0 : Option ((Int × Int × Int × Unit) × Int × List Int × Int × Unit)) (a1 a2 : List Int) (a3_0 a3_1 a3_2 : Int) : Option (List Int) := Zz84.D.val (Zz84.S R) k (a0, a1, a2, (a3_0, a3_1, a3_2, ()), ())
noncomputable def Zz84.rc : Nat → (Option ((Int × Int × Int × Unit) × Int × List Int × Int × Unit)) → (List Int) → (List Int) → Int → Int → Int → Option (List Int)
 | 0 => fun _ _ _ _ _ _ => none
 | q + 1 => fun a0 a1 a2 a3_0 a3_1 a3_2 => Zz84.v (Zz84.rc q) q a0 a1 a2 a3_0 a3_1 a3_2
theorem Zz84.rdoes : ∀ q : Nat, Does PG 100 Zz84.A Zz84.Q (Zz84.rg (Zz84.rc q)) Zz84.h
 | 0 => fun _ _ h => by cases h
 | q + 1 => by
  have hR := Zz84.rdoes q
  generalize hr : Zz84.rc q = R at hR
  have e : Zz84.rg (Zz84.rc (q + 1)) = Zz84.D.val (Zz84.S R) q := by rw [← hr]; rfl
  rw [e]
  exact Decl.does (D := Zz84.D) (S := Zz84.S R) (fn := Go.Proofs.Tryz.f100) (by constructor <;> first | kernel_rfl | exact TT.of_ok _ T0ex) (fun k => ⟨told_ok (Zz110.does k), ⟨told_ok (Zz109.does k), ⟨told_ok (Zz113.does k), ⟨told_ok hR, ⟨told_ok (Zz108.does k), ⟨told_ok (Zz78.does k), ⟨told_ok (Zz82.does k), ⟨told_ok (Zz79.does R hR k), trivial⟩⟩⟩⟩⟩⟩⟩⟩) (fun _ _ h => by rw [h rfl]; rfl) q
noncomputable def Zz84.f0 (k : Nat) (a0 : Option ((Int × Int × Int × Unit) × Int × List Int × Int × Unit)) (a1 a2 : List Int) (a3_0 a3_1 a3_2 : Int) : Option (List Int) := Zz84.rc k a0 a1 a2 a3_0 a3_1 a3_2
noncomputable def Zz84.f := (still Zz84.f0).1
theorem Zz84.f_def : Zz84.f = Zz84.f0 := (still Zz84.f0).2
noncomputable def Zz84.g (k : Nat) (x : Zz84.A.T) : Option (List Int) := Zz84.f k (x.1) (x.2.1) (x.2.2.1) (x.2.2.2.1.1) (x.2.2.2.1.2.1) (x.2.2.2.1.2.2.1)
theorem Zz84.f_rc (k : Nat) : Zz84.f k = Zz84.rc k := by rw [Zz84.f_def]; rfl
theorem Zz84.f_succ (k : Nat) (a0 : Option ((Int × Int × Int × Unit) × Int × List Int × Int × Unit)) (a1 a2 : List Int) (a3_0 a3_1 a3_2 : Int) : Zz84.f (k + 1) a0 a1 a2 a3_0 a3_1 a3_2 = Zz84.v (Zz84.f k) k a0 a1 a2 a3_0 a3_1 a3_2 := by rw [Zz84.f_rc, Zz84.f_rc]; rfl
theorem Zz84.does (k : Nat) : Does PG 100 Zz84.A Zz84.Q (Zz84.g k) Zz84.h := (show Zz84.g k = Zz84.rg (Zz84.rc k) from funext fun _ => by unfold Zz84.g; rw [Zz84.f_rc]; rfl) ▸ Zz84.rdoes k
def Zz74.A : AK := .p (.np 125 (.cons (.fp 77 (.cons (.int .u64) (.cons (.int .u64) (.cons (.int .u64) .nil)))) (.cons (.int .i64) (.cons (.row .u64) (.cons (.int .u64) .nil))))) (.p (.row .u64) .nil)
def Zz74.Q : RK := .p (.row .u64) (.p (.int .i64) .nil)
def Zz74.h : (List Int × Int) → Zz74.Q.T × List Int := fun b => ((b.1, b.2, ()), [])
noncomputable def Zz74.D : Decl (List Int × Int) := ⟨(Go.Proofs.Tryz.f84.body).getD .skip, 42, [.tmp 4, .tmp 5], Zz74.A, Zz74.Q, fun y m => (y.1, y.2.1), T0, [], [], []⟩
noncomputable def Zz74.S (k : Nat) : List (Nat × E.Spec (List Int × Int)) := [(82, told _ Zz76.A Zz76.Q (Zz76.g k) Zz76.h), (98, told _ Zz81.A Zz81.Q (Zz81.g k) Zz81.h), (99, told _ Zz80.A Zz80.Q (Zz80.g k) Zz80.h), (100, told _ Zz84.A Zz84.Q (Zz84.g k) Zz84.h)]
noncomputable def Zz74.f0 (k : Nat) (a0 : Option ((Int × Int × Int × Unit) × Int × List Int × Int × Unit)) (a1 : List Int) : Option (List Int × Int) := Zz74.D.val Zz74.S k (a0, a1, ())
noncomputable def Zz74.f := (still Zz74.f0).1
theorem Zz74.f_def : Zz74.f = Zz74.f0 := (still Zz74.f0).2
noncomputable def Zz74.g (k : Nat) (x : Zz74.A.T) : Option (List Int × Int) := Zz74.f k (x.1) (x.2.1)
theorem Zz74.does (k : Nat) : Does PG 84 Zz74.A Zz74.Q (Zz74.g k) Zz74.h := (show Zz74.g k = Zz74.D.val Zz74.S k from funext fun _ => by unfold Zz74.g; rw [Zz74.f_def]; rfl) ▸ Decl.does (D := Zz74.D) (S := Zz74.S) (fn := Go.Proofs.Tryz.f84) (by constructor <;> first | kernel_rfl | exact TT.of_ok _ T0ex) (fun k => ⟨told_ok (Zz76.does k), ⟨told_ok (Zz81.does k), ⟨told_ok (Zz80.does k), ⟨told_ok (Zz84.does k), trivial⟩⟩⟩⟩) (fun _ _ h => by rw [h rfl]; rfl) k
def Zz77.A : AK := .p (.np 125 (.cons (.fp 77 (.cons (.int .u64) (.cons (.int .u64) (.cons (.int .u64) .nil)))) (.cons (.int .i64) (.cons (.row .u64) (.cons (.int .u64) .nil))))) (.p (.row .u64) (.p (.row .u64) .nil))
def Zz77.Q : RK := .p (.row .u64) (.p (.int .i64) .nil)
def Zz77.h : (List Int × Int) → Zz77.Q.T × List Int := fun b => ((b.1, b.2, ()), [])
noncomputable def Zz77.D : Decl (List Int × Int) := ⟨(Go.Proofs.Tryz.f68.body).getD .skip, 82, [.tmp 6, .tmp 7], Zz77.A, Zz77.Q, fun y m => (y.1, y.2.1), T0, [], [(15, [(0, .p (some (.fp 125 (.cons (.fp 77 (.cons (.int .u64) (.cons (.int .u64) (.cons (.int .u64) .nil)))) (.cons (.int .i64) (.cons (.row .u64) (.cons (.int .u64) .nil))))))), (9, .m (.num .u64) 23), (11, .p (some (.row .u64))), (56, .p (some (.int .i64))), (57, .p (some (.int .i64)))])], [(19, [9])]⟩
noncomputable def Zz77.S (k : Nat) : List (Nat × E.Spec (List Int × Int)) := [(45, told _ Zz110.A Zz110.Q (Zz110.g k) Zz110.h), (82, told _ Zz76.A Zz76.Q (Zz76.g k) Zz76.h), (83, told _ Zz75.A Zz75.Q (Zz75.g k) Zz75.h), (84, told _ Zz74.A Zz74.Q (Zz74.g k) Zz74.h)]
noncomputable def Zz77.l15 (k : Nat) (x0_0 x0_1 x0_2 x0_3 : Int) (x0_4 : List Int) (x0_5 : Int) (x9 x11 : List Int) (x56 x57 : Int) : Option (List Int × Int) := Zz77.D.F Zz77.S k 31 [.p (.fp 125 [.fp 77 [.lit (.int .u64 x0_0), .lit (.int .u64 x0_1), .lit (.int .u64 x0_2)], .lit (.int .i64 x0_3), .row .u64 x0_4, .lit (.int .u64 x0_5)]), .m x9, .p (.row .u64 x11), .p (.lit (.int .i64 x56)), .p (.lit (.int .i64 x57))]
noncomputable def Zz77.f0 (k : Nat) (a0 : Option ((Int × Int × Int × Unit) × Int × List Int × Int × Unit)) (a1 a2 : List Int) : Option (List Int × Int) := Zz77.D.val Zz77.S k (a0, a1, a2, ())
noncomputable def Zz77.f := (still Zz77.f0).1
theorem Zz77.f_def : Zz77.f = Zz77.f0 := (still Zz77.f0).2
noncomputable def Zz77.g (k : Nat) (x : Zz77.A.T) : Option (List Int × Int) := Zz77.f k (x.1) (x.2.1) (x.2.2.1)
theorem Zz77.does (k : Nat) : Does PG 68 Zz77.A Zz77.Q (Zz77.g k) Zz77.h := (show Zz77.g k = Zz77.D.val Zz77.S k from funext fun _ => by unfold Zz77.g; rw [Zz77.f_def]; rfl) ▸ Decl.does (D := Zz77.D) (S := Zz77.S) (fn := Go.Proofs.Tryz.f68) (by constructor <;> first | kernel_rfl | exact TT.of_ok _ T0ex) (fun k => ⟨told_ok (Zz110.does k), ⟨told_ok (Zz76.does k), ⟨told_ok (Zz75.does k), ⟨told_ok (Zz74.does k), trivial⟩⟩⟩⟩) (fun _ _ h => by rw [h rfl]; rfl) k
def Zz33.A : AK := .p (.row .u64) (.p (.row .u64) .nil)
def Zz33.Q : RK := .p (.agg (.cons (.row .u64) (.cons (.row .u64) (.cons (.row .u64) .nil)))) (.o (.num .u64) 23 (.p (.int .i64) .nil))
def Zz33.h : (List Int × List Int × List Int × List Int × Int) → Zz33.Q.T × List Int := fun b => (((b.1, b.2.1, b.2.2.1, ()), (b.2.2.2.1), b.2.2.2.2, ()), [])
noncomputable def Zz33.D : Decl (List Int × List Int × List Int × List Int × Int) := ⟨(Go.Proofs.Tryz.f46.body).getD .skip, 45, [.cell 4 79, .tmp 5, .tmp 6], Zz33.A, Zz33.Q, fun y m => (y.1.1, y.1.2.1, y.1.2.2.1, y.2.1, y.2.2.1), T0, [], [(4, [(0, .p (some (.row .u64))), (1, .p (some (.row .u64))), (4, .b (some (.cons (.any) (.cons (.any) (.cons (.any) .nil))))), (7, .b (some (.cons (.row .u64) (.cons (.row .u64) (.cons (.row .u64) .nil))))), (8, .b (some (.cons (.np 125 (.cons (.fp 77 (.cons (.int .u64) (.cons (.int .u64) (.cons (.int .u64) .nil)))) (.cons (.int .i64) (.cons (.row .u64) (.cons (.int .u64) .nil))))) (.cons (.np 125 (.cons (.fp 77 (.cons (.int .u64) (.cons (.int .u64) (.cons (.int .u64) .nil)))) (.cons (.int .i64) (.cons (.row .u64) (.cons (.int .u64) .nil))))) (.cons (.np 125 (.cons (.fp 77 (.cons (.int .u64) (.cons (.int .u64) (.cons (.int .u64) .nil)))) (.cons (.int .i64) (.cons (.row .u64) (.cons (.int .u64) .nil))))) .nil))))), (9, .m (.num .u64) 23), (10, .p (some (.int .i64))), (11, .p (some (.int .i64)))])], []⟩
noncomputable def Zz33.S (k : Nat) : List (Nat × E.Spec (List Int × List Int × List Int × List Int × Int)) := [(67, told _ Zz34.A Zz34.Q (Zz34.g k) Zz34.h), (68, told _ Zz77.A Zz77.Q (Zz77.g k) Zz77.h)]
noncomputable def Zz33.l4 (k : Nat) (x0 x1 x7_0 x7_1 x7_2 : List Int) (x8_0 : Option ((Int × Int × Int × Unit) × Int × List Int × Int × Unit)) (x8_1 : Option ((Int × Int × Int × Unit) × Int × List Int × Int × Unit)) (x8_2 : Option ((Int × Int × Int × Unit) × Int × List Int × Int × Unit)) (x9 : List Int) (x10 x11 : Int) : Option (List Int × List Int × List Int × List Int × Int) := Zz33.D.F Zz33.S k 9 [.p (.row .u64 x0), .p (.row .u64 x1), .b 79 [.any, .any, .any], .b 79 [.row .u64 x7_0, .row .u64 x7_1, .row .u64 x7_2], .b 105 [SK.put (.np 125 (.cons (.fp 77 (.cons (.int .u64) (.cons (.int .u64) (.cons (.int .u64) .nil)))) (.cons (.int .i64) (.cons (.row .u64) (.cons (.int .u64) .nil))))) x8_0, SK.put (.np 125 (.cons (.fp 77 (.cons (.int .u64) (.cons (.int .u64) (.cons (.int .u64) .nil)))) (.cons (.int .i64) (.cons (.row .u64) (.cons (.int .u64) .nil))))) x8_1, SK.put (.np 125 (.cons (.fp 77 (.cons (.int .u64) (.cons (.int .u64) (.cons (.int .u64) .nil)))) (.cons (.int .i64) (.cons (.row .u64) (.cons (.int .u64) .nil))))) x8_2], .m x9, .p (.lit (.int .i64 x10)), .p (.lit (.int .i64 x11))]
noncomputable def Zz33.f0 (k : Nat) (a0 a1 : List Int) : Option (List Int × List Int × List Int × List Int × Int) := Zz33.D.val Zz33.S k (a0, a1, ())
noncomputable def Zz33.f := (still Zz33.f0).1
theorem Zz33.f_def : Zz33.f = Zz33.f0 := (still Zz33.f0).2
noncomputable def Zz33.g (k : Nat) (x : Zz33.A.T) : Option (List Int × List Int × List Int × List Int × Int) := Zz33.f k (x.1) (x.2.1)
theorem Zz33.does (k : Nat) : Does PG 46 Zz33.A Zz33.Q (Zz33.g k) Zz33.h := (show Zz33.g k = Zz33.D.val Zz33.S k from funext fun _ => by unfold Zz33.g; rw [Zz33.f_def]; rfl) ▸ Decl.does (D := Zz33.D) (S := Zz33.S) (fn := Go.Proofs.Tryz.f46) (by constructor <;> first | kernel_rfl | exact TT.of_ok _ T0ex) (fun k => ⟨told_ok (Zz34.does k), ⟨told_ok (Zz77.does k), trivial⟩⟩) (fun _ _ h => by rw [h rfl]; rfl) k
def Zz39.A : AK := .p (.int .u64) .nil
def Zz39.Q : RK := .p (.bool) .nil
def Zz39.h : Bool → Zz39.Q.T × List Int := fun b => ((b, ()), [])
noncomputable def Zz39.D : Decl Bool := ⟨(Go.Proofs.Tryz.f85.body).getD .skip, 9, [.tmp 2], Zz39.A, Zz39.Q, fun y m => y.1, T0, [], [], []⟩
noncomputable def Zz39.S (k : Nat) : List (Nat × E.Spec Bool) := []
noncomputable def Zz39.f0 (k : Nat) (a0 : Int) : Option Bool := Zz39.D.val Zz39.S k (a0, ())
noncomputable def Zz39.f := (still Zz39.f0).1
theorem Zz39.f_def : Zz39.f = Zz39.f0 := (still Zz39.f0).2
noncomputable def Zz39.g (k : Nat) (x : Zz39.A.T) : Option Bool := Zz39.f k (x.1)
theorem Zz39.does (k : Nat) : Does PG 85 Zz39.A Zz39.Q (Zz39.g k) Zz39.h := (show Zz39.g k = Zz39.D.val Zz39.S k from funext fun _ => by unfold Zz39.g; rw [Zz39.f_def]; rfl) ▸ Decl.does (D := Zz39.D) (S := Zz39.S) (fn := Go.Proofs.Tryz.f85) (by constructor <;> first | kernel_rfl | exact TT.of_ok _ T0ex) (fun k => trivial) (fun _ _ h => by rw [h rfl]; rfl) k
def Zz41.A : AK := .p (.row .u64) (.p (.row .u64) .nil)
def Zz41.Q : RK := .p (.int .i64) .nil
def Zz41.h : Int → Zz41.Q.T × List Int := fun b => ((b, ()), [])
noncomputable def Zz41.D : Decl Int := ⟨(Go.Proofs.Tryz.f69.body).getD .skip, 25, [.tmp 4], Zz41.A, Zz41.Q, fun y m => y.1, T0, [], [(4, [(1, .p (some (.row .u64))), (12, .p (some (.row .u64))), (13, .p (some (.int .i64))), (14, .p (some (.int .i64)))])], []⟩
noncomputable def Zz41.S (k : Nat) : List (Nat × E.Spec Int) := [(85, told _ Zz39.A Zz39.Q (Zz39.g k) Zz39.h)]
noncomputable def Zz41.l4 (k : Nat) (x1 x12 : List Int) (x13 x14 : Int) : Option Int := Zz41.D.F Zz41.S k 9 [.p (.row .u64 x1), .p (.row .u64 x12), .p (.lit (.int .i64 x13)), .p (.lit (.int .i64 x14))]
noncomputable def Zz41.f0 (k : Nat) (a0 a1 : List Int) : Option Int := Zz41.D.val Zz41.S k (a0, a1, ())
noncomputable def Zz41.f := (still Zz41.f0).1
theorem Zz41.f_def : Zz41.f = Zz41.f0 := (still Zz41.f0).2
noncomputable def Zz41.g (k : Nat) (x : Zz41.A.T) : Option Int := Zz41.f k (x.1) (x.2.1)
theorem Zz41.does (k : Nat) : Does PG 69 Zz41.A Zz41.Q (Zz41.g k) Zz41.h := (show Zz41.g k = Zz41.D.val Zz41.S k from funext fun _ => by unfold Zz41.g; rw [Zz41.f_def]; rfl) ▸ Decl.does (D := Zz41.D) (S := Zz41.S) (fn := Go.Proofs.Tryz.f69) (by constructor <;> first | kernel_rfl | exact TT.of_ok _ T0ex) (fun k => ⟨told_ok (Zz39.does k), trivial⟩) (fun _ _ h => by rw [h rfl]; rfl) k
def Zz11.A : AK := .p (.int .i64) .nil
def Zz11.Q : RK := .p (.agg (.cons (.bool) (.cons (.row .u64) .nil))) .nil
def Zz11.h : (Bool × List Int) → Zz11.Q.T × List Int := fun b => (((b.1, b.2, ()), ()), [])
noncomputable def Zz11.D : Decl (Bool × List Int) := ⟨(Go.Proofs.Tryz.f70.body).getD .skip, 19, [.cell 2 39], Zz11.A, Zz11.Q, fun y m => (y.1.1, y.1.2.1), T0, [], [], []⟩
noncomputable def Zz11.S (k : Nat) : List (Nat × E.Spec (Bool × List Int)) := []
noncomputable def Zz11.f0 (k : Nat) (a0 : Int) : Option (Bool × List Int) := Zz11.D.val Zz11.S k (a0, ())
noncomputable def Zz11.f := (still Zz11.f0).1
theorem Zz11.f_def : Zz11.f = Zz11.f0 := (still Zz11.f0).2
noncomputable def Zz11.g (k : Nat) (x : Zz11.A.T) : Option (Bool × List Int) := Zz11.f k (x.1)
theorem Zz11.does (k : Nat) : Does PG 70 Zz11.A Zz11.Q (Zz11.g k) Zz11.h := (show Zz11.g k = Zz11.D.val Zz11.S k from funext fun _ => by unfold Zz11.g; rw [Zz11.f_def]; rfl) ▸ Decl.does (D := Zz11.D) (S := Zz11.S) (fn := Go.Proofs.Tryz.f70) (by constructor <;> first | kernel_rfl | exact TT.of_ok _ T0ex) (fun k => trivial) (fun _ _ h => by rw [h rfl]; rfl) k
def Zz12.A : AK := .p (.bool) (.p (.row .u64) .nil)
def Zz12.Q : RK := .p (.agg (.cons (.bool) (.cons (.row .u64) .nil))) .nil
def Zz12.h : (Bool × List Int) → Zz12.Q.T × List Int := fun b => (((b.1, b.2, ()), ()), [])
noncomputable def Zz12.D : Decl (Bool × List Int) := ⟨(Go.Proofs.Tryz.f49.body).getD .skip, 13, [.cell 4 39], Zz12.A, Zz12.Q, fun y m => (y.1.1, y.1.2.1), T0, [], [], []⟩
noncomputable def Zz12.S (k : Nat) : List (Nat × E.Spec (Bool × List Int)) := []
noncomputable def Zz12.f0 (k : Nat) (a0 : Bool) (a1 : List Int) : Option (Bool × List Int) := Zz12.D.val Zz12.S k (a0, a1, ())
noncomputable def Zz12.f := (still Zz12.f0).1
theorem Zz12.f_def : Zz12.f = Zz12.f0 := (still Zz12.f0).2
noncomputable def Zz12.g (k : Nat) (x : Zz12.A.T) : Option (Bool × List Int) := Zz12.f k (x.1) (x.2.1)
theorem Zz12.does (k : Nat) : Does PG 49 Zz12.A Zz12.Q (Zz12.g k) Zz12.h := (show Zz12.g k = Zz12.D.val Zz12.S k from funext fun _ => by unfold Zz12.g; rw [Zz12.f_def]; rfl) ▸ Decl.does (D := Zz12.D) (S := Zz12.S) (fn := Go.Proofs.Tryz.f49) (by constructor <;> first | kernel_rfl | exact TT.of_ok _ T0ex) (fun k => trivial) (fun _ _ h => by rw [h rfl]; rfl) k
def Zz52.A : AK := .p (.row .u64) (.p (.int .i64) .nil)
def Zz52.Q : RK := .p (.int .u64) .nil
def Zz52.h : Int → Zz52.Q.T × List Int := fun b => ((b, ()), [])
noncomputable def Zz52.D : Decl Int := ⟨(Go.Proofs.Tryz.f73.body).getD .skip, 13, [.tmp 4], Zz52.A, Zz52.Q, fun y m => y.1, T0, [], [], []⟩
noncomputable def Zz52.S (k : Nat) : List (Nat × E.Spec Int) := []
noncomputable def Zz52.f0 (k : Nat) (a0 : List Int) (a1 : Int) : Option Int := Zz52.D.val Zz52.S k (a0, a1, ())
noncomputable def Zz52.f := (still Zz52.f0).1
theorem Zz52.f_def : Zz52.f = Zz52.f0 := (still Zz52.f0).2
noncomputable def Zz52.g (k : Nat) (x : Zz52.A.T) : Option Int := Zz52.f k (x.1) (x.2.1)
theorem Zz52.does (k : Nat) : Does PG 73 Zz52.A Zz52.Q (Zz52.g k) Zz52.h := (show Zz52.g k = Zz52.D.val Zz52.S k from funext fun _ => by unfold Zz52.g; rw [Zz52.f_def]; rfl) ▸ Decl.does (D := Zz52.D) (S := Zz52.S) (fn := Go.Proofs.Tryz.f73) (by constructor <;> first | kernel_rfl | exact TT.of_ok _ T0ex) (fun k => trivial) (fun _ _ h => by rw [h rfl]; rfl) k
def Zz42.A : AK := .p (.row .u64) (.p (.row .u64) .nil)
def Zz42.Q : RK := .p (.row .u64) .nil
def Zz42.h : List Int → Zz42.Q.T × List Int := fun b => ((b, ()), [])
noncomputable def Zz42.D : Decl (List Int) := ⟨(Go.Proofs.Tryz.f50.body).getD .skip, 37, [.tmp 4], Zz42.A, Zz42.Q, fun y m => y.1, T0, [], [(4, [(0, .p (some (.row .u64))), (1, .p (some (.row .u64))), (5, .m (.num .u64) 23), (6, .p (some (.int .u64))), (16, .p (some (.int .i64))), (17, .p (some (.int .i64)))])], [(8, [5])]⟩
noncomputable def Zz42.S (k : Nat) : List (Nat × E.Spec (List Int)) := [(64, told _ Zz60.A Zz60.Q (Zz60.g k) Zz60.h), (73, told _ Zz52.A Zz52.Q (Zz52.g k) Zz52.h)]
noncomputable def Zz42.l4 (k : Nat) (x0 x1 x5 : List Int) (x6 x16 x17 : Int) : Option (List Int) := Zz42.D.F Zz42.S k 9 [.p (.row .u64 x0), .p (.row .u64 x1), .m x5, .p (.lit (.int .u64 x6)), .p (.lit (.int .i64 x16)), .p (.lit (.int .i64 x17))]
noncomputable def Zz42.f0 (k : Nat) (a0 a1 : List Int) : Option (List Int) := Zz42.D.val Zz42.S k (a0, a1, ())
noncomputable def Zz42.f := (still Zz42.f0).1
theorem Zz42.f_def : Zz42.f = Zz42.f0 := (still Zz42.f0).2
noncomputable def Zz42.g (k : Nat) (x : Zz42.A.T) : Option (List Int) := Zz42.f k (x.1) (x.2.1)
theorem Zz42.does (k : Nat) : Does PG 50 Zz42.A Zz42.Q (Zz42.g k) Zz42.h := (show Zz42.g k = Zz42.D.val Zz42.S k from funext fun _ => by unfold Zz42.g; rw [Zz42.f_def]; rfl) ▸ Decl.does (D := Zz42.D) (S := Zz42.S) (fn := Go.Proofs.Tryz.f50) (by constructor <;> first | kernel_rfl | exact TT.of_ok _ T0ex) (fun k => ⟨told_ok (Zz60.does k), ⟨told_ok (Zz52.does k), trivial⟩⟩) (fun _ _ h => by rw [h rfl]; rfl) k
def Zz43.A : AK := .p (.row .u64) (.p (.row .u64) .nil)
def Zz43.Q : RK := .p (.int .i64) .nil
def Zz43.h : Int → Zz43.Q.T × List Int := fun b => ((b, ()), [])
noncomputable def Zz43.D : Decl Int := ⟨(Go.Proofs.Tryz.f51.body).getD .skip, 49, [.tmp 4], Zz43.A, Zz43.Q, fun y m => y.1, T0, [], [(7, [(0, .p (some (.row .u64))), (1, .p (some (.row .u64))), (5, .p (some (.int .i64)))])], []⟩
noncomputable def Zz43.S (k : Nat) : List (Nat × E.Spec Int) := [(64, told _ Zz60.A Zz60.Q (Zz60.g k) Zz60.h)]
noncomputable def Zz43.l7 (k : Nat) (x0 x1 : List Int) (x5 : Int) : Option Int := Zz43.D.F Zz43.S k 15 [.p (.row .u64 x0), .p (.row .u64 x1), .p (.lit (.int .i64 x5))]
noncomputable def Zz43.f0 (k : Nat) (a0 a1 : List Int) : Option Int := Zz43.D.val Zz43.S k (a0, a1, ())
noncomputable def Zz43.f := (still Zz43.f0).1
theorem Zz43.f_def : Zz43.f = Zz43.f0 := (still Zz43.f0).2
noncomputable def Zz43.g (k : Nat) (x : Zz43.A.T) : Option Int := Zz43.f k (x.1) (x.2.1)
theorem Zz43.does (k : Nat) : Does PG 51 Zz43.A Zz43.Q (Zz43.g k) Zz43.h := (show Zz43.g k = Zz43.D.val Zz43.S k from funext fun _ => by unfold Zz43.g; rw [Zz43.f_def]; rfl) ▸ Decl.does (D := Zz43.D) (S := Zz43.S) (fn := Go.Proofs.Tryz.f51) (by constructor <;> first | kernel_rfl | exact TT.of_ok _ T0ex) (fun k => ⟨told_ok (Zz60.does k), trivial⟩) (fun _ _ h => by rw [h rfl]; rfl) k
def Zz57.A : AK := .p (.row .u64) (.p (.row .u64) .nil)
def Zz57.Q : RK := .p (.row .u64) .nil
def Zz57.h : List Int → Zz57.Q.T × List Int := fun b => ((b, ()), [])
noncomputable def Zz57.D : Decl (List Int) := ⟨(Go.Proofs.Tryz.f74.body).getD .skip, 34, [.tmp 4], Zz57.A, Zz57.Q, fun y m => y.1, T0, [], [(4, [(0, .p (some (.row .u64))), (1, .p (some (.row .u64))), (5, .m (.num .u64) 23), (6, .p (some (.int .u64))), (12, .p (some (.int .i64))), (13, .p (some (.int .i64)))])], [(8, [5])]⟩
noncomputable def Zz57.S (k : Nat) : List (Nat × E.Spec (List Int)) := [(64, told _ Zz60.A Zz60.Q (Zz60.g k) Zz60.h), (73, told _ Zz52.A Zz52.Q (Zz52.g k) Zz52.h)]
noncomputable def Zz57.l4 (k : Nat) (x0 x1 x5 : List Int) (x6 x12 x13 : Int) : Option (List Int) := Zz57.D.F Zz57.S k 9 [.p (.row .u64 x0), .p (.row .u64 x1), .m x5, .p (.lit (.int .u64 x6)), .p (.lit (.int .i64 x12)), .p (.lit (.int .i64 x13))]
noncomputable def Zz57.f0 (k : Nat) (a0 a1 : List Int) : Option (List Int) := Zz57.D.val Zz57.S k (a0, a1, ())
noncomputable def Zz57.f := (still Zz57.f0).1
theorem Zz57.f_def : Zz57.f = Zz57.f0 := (still Zz57.f0).2
noncomputable def Zz57.g (k : Nat) (x : Zz57.A.T) : Option (List Int) := Zz57.f k (x.1) (x.2.1)
theorem Zz57.does (k : Nat) : Does PG 74 Zz57.A Zz57.Q (Zz57.g k) Zz57.h := (show Zz57.g k = Zz57.D.val Zz57.S k from funext fun _ => by unfold Zz57.g; rw [Zz57.f_def]; rfl) ▸ Decl.does (D := Zz57.D) (S := Zz57.S) (fn := Go.Proofs.Tryz.f74) (by constructor <;> first | kernel_rfl | exact TT.of_ok _ T0ex) (fun k => ⟨told_ok (Zz60.does k), ⟨told_ok (Zz52.does k), trivial⟩⟩) (fun _ _ h => by rw [h rfl]; rfl) k
def Zz51.A : AK := .p (.row .u64) (.p (.row .u64) .nil)
def Zz51.Q : RK := .p (.row .u64) (.p (.int .i64) .nil)
def Zz51.h : (List Int × Int) → Zz51.Q.T × List Int := fun b => ((b.1, b.2, ()), [])
noncomputable def Zz51.D : Decl (List Int × Int) := ⟨(Go.Proofs.Tryz.f52.body).getD .skip, 17, [.tmp 4, .tmp 5], Zz51.A, Zz51.Q, fun y m => (y.1, y.2.1), T0, [], [], []⟩
noncomputable def Zz51.S (k : Nat) : List (Nat × E.Spec (List Int × Int)) := [(51, told _ Zz43.A Zz43.Q (Zz43.g k) Zz43.h), (64, told _ Zz60.A Zz60.Q (Zz60.g k) Zz60.h), (74, told _ Zz57.A Zz57.Q (Zz57.g k) Zz57.h)]
noncomputable def Zz51.f0 (k : Nat) (a0 a1 : List Int) : Option (List Int × Int) := Zz51.D.val Zz51.S k (a0, a1, ())
noncomputable def Zz51.f := (still Zz51.f0).1
theorem Zz51.f_def : Zz51.f = Zz51.f0 := (still Zz51.f0).2
noncomputable def Zz51.g (k : Nat) (x : Zz51.A.T) : Option (List Int × Int) := Zz51.f k (x.1) (x.2.1)
theorem Zz51.does (k : Nat) : Does PG 52 Zz51.A Zz51.Q (Zz51.g k) Zz51.h := (show Zz51.g k = Zz51.D.val Zz51.S k from funext fun _ => by unfold Zz51.g; rw [Zz51.f_def]; rfl) ▸ Decl.does (D := Zz51.D) (S := Zz51.S) (fn := Go.Proofs.Tryz.f52) (by constructor <;> first | kernel_rfl | exact TT.of_ok _ T0ex) (fun k => ⟨told_ok (Zz43.does k), ⟨told_ok (Zz60.does k), ⟨told_ok (Zz57.does k), trivial⟩⟩⟩) (fun _ _ h => by rw [h rfl]; rfl) k
def Zz1.A : AK := .p (.agg (.cons (.bool) (.cons (.row .u64) .nil))) (.p (.agg (.cons (.bool) (.cons (.row .u64) .nil))) .nil)
def Zz1.Q : RK := .p (.agg (.cons (.bool) (.cons (.row .u64) .nil))) .nil
def Zz1.h : (Bool × List Int) → Zz1.Q.T × List Int := fun b => (((b.1, b.2, ()), ()), [])
noncomputable def Zz1.D : Decl (Bool × List Int) := ⟨(Go.Proofs.Tryz.f33.body).getD .skip, 40, [.cell 4 39], Zz1.A, Zz1.Q, fun y m => (y.1.1, y.1.2.1), T0, [], [], []⟩
noncomputable def Zz1.S (k : Nat) : List (Nat × E.Spec (Bool × List Int)) := [(49, told _ Zz12.A Zz12.Q (Zz12.g k) Zz12.h), (50, told _ Zz42.A Zz42.Q (Zz42.g k) Zz42.h), (51, told _ Zz43.A Zz43.Q (Zz43.g k) Zz43.h), (52, told _ Zz51.A Zz51.Q (Zz51.g k) Zz51.h)]
noncomputable def Zz1.f0 (k : Nat) (a0_0 : Bool) (a0_1 : List Int) (a1_0 : Bool) (a1_1 : List Int) : Option (Bool × List Int) := Zz1.D.val Zz1.S k ((a0_0, a0_1, ()), (a1_0, a1_1, ()), ())
noncomputable def Zz1.f := (still Zz1.f0).1
theorem Zz1.f_def : Zz1.f = Zz1.f0 := (still Zz1.f0).2
noncomputable def Zz1.g (k : Nat) (x : Zz1.A.T) : Option (Bool × List Int) := Zz1.f k (x.1.1) (x.1.2.1) (x.2.1.1) (x.2.1.2.1)
theorem Zz1.does (k : Nat) : Does PG 33 Zz1.A Zz1.Q (Zz1.g k) Zz1.h := (show Zz1.g k = Zz1.D.val Zz1.S k from funext fun _ => by unfold Zz1.g; rw [Zz1.f_def]; rfl) ▸ Decl.does (D := Zz1.D) (S := Zz1.S) (fn := Go.Proofs.Tryz.f33) (by constructor <;> first | kernel_rfl | exact TT.of_ok _ T0ex) (fun k => ⟨told_ok (Zz12.does k), ⟨told_ok (Zz42.does k), ⟨told_ok (Zz43.does k), ⟨told_ok (Zz51.does k), trivial⟩⟩⟩⟩) (fun _ _ h => by rw [h rfl]; rfl) k
def Zz9.A : AK := .p (.agg (.cons (.bool) (.cons (.row .u64) .nil))) .nil
def Zz9.Q : RK := .p (.int .i64) .nil
def Zz9.h : Int → Zz9.Q.T × List Int := fun b => ((b, ()), [])
noncomputable def Zz9.D : Decl Int := ⟨(Go.Proofs.Tryz.f86.body).getD .skip, 13, [.tmp 2], Zz9.A, Zz9.Q, fun y m => y.1, T0, [], [], []⟩
noncomputable def Zz9.S (k : Nat) : List (Nat × E.Spec Int) := []
noncomputable def Zz9.f0 (k : Nat) (a0_0 : Bool) (a0_1 : List Int) : Option Int := Zz9.D.val Zz9.S k ((a0_0, a0_1, ()), ())
noncomputable def Zz9.f := (still Zz9.f0).1
theorem Zz9.f_def : Zz9.f = Zz9.f0 := (still Zz9.f0).2
noncomputable def Zz9.g (k : Nat) (x : Zz9.A.T) : Option Int := Zz9.f k (x.1.1) (x.1.2.1)
theorem Zz9.does (k : Nat) : Does PG 86 Zz9.A Zz9.Q (Zz9.g k) Zz9.h := (show Zz9.g k = Zz9.D.val Zz9.S k from funext fun _ => by unfold Zz9.g; rw [Zz9.f_def]; rfl) ▸ Decl.does (D := Zz9.D) (S := Zz9.S) (fn := Go.Proofs.Tryz.f86) (by constructor <;> first | kernel_rfl | exact TT.of_ok _ T0ex) (fun k => trivial) (fun _ _ h => by rw [h rfl]; rfl) k
def Zz47.A : AK := .p (.row .u64) .nil
def Zz47.Q : RK := .o (.num .u64) 23 .nil
def Zz47.h : List Int → Zz47.Q.T × List Int := fun b => (((b), ()), [])
noncomputable def Zz47.D : Decl (List Int) := ⟨(Go.Proofs.Tryz.f59.body).getD .skip, 6, [.tmp 2], Zz47.A, Zz47.Q, fun y m => y.1, T0, [], [], []⟩
noncomputable def Zz47.S (k : Nat) : List (Nat × E.Spec (List Int)) := [(64, told _ Zz60.A Zz60.Q (Zz60.g k) Zz60.h)]
noncomputable def Zz47.f0 (k : Nat) (a0 : List Int) : Option (List Int) := Zz47.D.val Zz47.S k (a0, ())
noncomputable def Zz47.f := (still Zz47.f0).1
theorem Zz47.f_def : Zz47.f = Zz47.f0 := (still Zz47.f0).2
noncomputable def Zz47.g (k : Nat) (x : Zz47.A.T) : Option (List Int) := Zz47.f k (x.1)
theorem Zz47.does (k : Nat) : Does PG 59 Zz47.A Zz47.Q (Zz47.g k) Zz47.h := (show Zz47.g k = Zz47.D.val Zz47.S k from funext fun _ => by unfold Zz47.g; rw [Zz47.f_def]; rfl) ▸ Decl.does (D := Zz47.D) (S := Zz47.S) (fn := Go.Proofs.Tryz.f59) (by constructor <;> first | kernel_rfl | exact TT.of_ok _ T0ex) (fun k => ⟨told_ok (Zz60.does k), trivial⟩) (fun _ _ h => by rw [h rfl]; rfl) k
def Zz58.A : AK := .p (.row .u64) (.p (.int .u64) .nil)
def Zz58.Q : RK := .o (.num .u64) 23 .nil
def Zz58.h : List Int → Zz58.Q.T × List Int := fun b => (((b), ()), [])
noncomputable def Zz58.D : Decl (List Int) := ⟨(Go.Proofs.Tryz.f76.body).getD .skip, 38, [.tmp 4], Zz58.A, Zz58.Q, fun y m => y.1, T0, [], [(3, [(1, .p (some (.int .u64))), (5, .m (.num .u64) 23), (12, .p (some (.row .u64))), (13, .p (some (.int .i64))), (14, .p (some (.int .i64)))])], []⟩
noncomputable def Zz58.S (k : Nat) : List (Nat × E.Spec (List Int)) := []
noncomputable def Zz58.l3 (k : Nat) (x1 : Int) (x5 x12 : List Int) (x13 x14 : Int) : Option (List Int) := Zz58.D.F Zz58.S k 7 [.p (.lit (.int .u64 x1)), .m x5, .p (.row .u64 x12), .p (.lit (.int .i64 x13)), .p (.lit (.int .i64 x14))]
noncomputable def Zz58.f0 (k : Nat) (a0 : List Int) (a1 : Int) : Option (List Int) := Zz58.D.val Zz58.S k (a0, a1, ())
noncomputable def Zz58.f := (still Zz58.f0).1
theorem Zz58.f_def : Zz58.f = Zz58.f0 := (still Zz58.f0).2
noncomputable def Zz58.g (k : Nat) (x : Zz58.A.T) : Option (List Int) := Zz58.f k (x.1) (x.2.1)
theorem Zz58.does (k : Nat) : Does PG 76 Zz58.A Zz58.Q (Zz58.g k) Zz58.h := (show Zz58.g k = Zz58.D.val Zz58.S k from funext fun _ => by unfold Zz58.g; rw [Zz58.f_def]; rfl) ▸ Decl.does (D := Zz58.D) (S := Zz58.S) (fn := Go.Proofs.Tryz.f76) (by constructor <;> first | kernel_rfl | exact TT.of_ok _ T0ex) (fun k => trivial) (fun _ _ h => by rw [h rfl]; rfl) k
def Zz53.A : AK := .p (.int .u64) (.p (.int .u64) (.p (.int .u64) (.p (.int .u64) .nil)))
def Zz53.Q : RK := .p (.bool) .nil
def Zz53.h : Bool → Zz53.Q.T × List Int := fun b => ((b, ()), [])
noncomputable def Zz53.D : Decl Bool := ⟨(Go.Proofs.Tryz.f122.body).getD .skip, 30, [.tmp 8], Zz53.A, Zz53.Q, fun y m => y.1, T0, [], [], []⟩
noncomputable def Zz53.S (k : Nat) : List (Nat × E.Spec Bool) := [(65, told _ Zz18.A Zz18.Q (Zz18.g k) Zz18.h)]
noncomputable def Zz53.f0 (k : Nat) (a0 a1 a2 a3 : Int) : Option Bool := Zz53.D.val Zz53.S k (a0, a1, a2, a3, ())
noncomputable def Zz53.f := (still Zz53.f0).1
theorem Zz53.f_def : Zz53.f = Zz53.f0 := (still Zz53.f0).2
noncomputable def Zz53.g (k : Nat) (x : Zz53.A.T) : Option Bool := Zz53.f k (x.1) (x.2.1) (x.2.2.1) (x.2.2.2.1)
theorem Zz53.does (k : Nat) : Does PG 122 Zz53.A Zz53.Q (Zz53.g k) Zz53.h := (show Zz53.g k = Zz53.D.val Zz53.S k from funext fun _ => by unfold Zz53.g; rw [Zz53.f_def]; rfl) ▸ Decl.does (D := Zz53.D) (S := Zz53.S) (fn := Go.Proofs.Tryz.f122) (by constructor <;> first | kernel_rfl | exact TT.of_ok _ T0ex) (fun k => ⟨told_ok (Zz18.does k), trivial⟩) (fun _ _ h => by rw [h rfl]; rfl) k
def Zz55.A : AK := .p (.int .u64) (.p (.int .u64) (.p (.int .u64) (.p (.int .u64) (.p (.int .u64) .nil))))
def Zz55.Q : RK := .p (.int .u64) .nil
def Zz55.h : Int → Zz55.Q.T × List Int := fun b => ((b, ()), [])
noncomputable def Zz55.D : Decl Int := ⟨(Go.Proofs.Tryz.f118.body).getD .skip, 69, [.tmp 10], Zz55.A, Zz55.Q, fun y m => y.1, T0, [], [(10, [(2, .p (some (.int .u64))), (3, .p (some (.int .u64))), (4, .p (some (.int .u64))), (14, .p (some (.int .u64))), (15, .p (some (.int .u64))), (16, .p (some (.int .u64)))]), (4, [(2, .p (some (.int .u64))), (3, .p (some (.int .u64))), (4, .p (some (.int .u64))), (11, .p (some (.int .u64))), (12, .p (some (.int .u64))), (13, .p (some (.int .u64)))])], []⟩
noncomputable def Zz55.S (k : Nat) : List (Nat × E.Spec Int) := [(63, told _ Zz13.A Zz13.Q (Zz13.g k) Zz13.h), (122, told _ Zz53.A Zz53.Q (Zz53.g k) Zz53.h)]
noncomputable def Zz55.l10 (k : Nat) (x2 x3 x4 x14 x15 x16 : Int) : Option Int := Zz55.D.F Zz55.S k 21 [.p (.lit (.int .u64 x2)), .p (.lit (.int .u64 x3)), .p (.lit (.int .u64 x4)), .p (.lit (.int .u64 x14)), .p (.lit (.int .u64 x15)), .p (.lit (.int .u64 x16))]
noncomputable def Zz55.l4 (k : Nat) (x2 x3 x4 x11 x12 x13 : Int) : Option Int := Zz55.D.F Zz55.S k 9 [.p (.lit (.int .u64 x2)), .p (.lit (.int .u64 x3)), .p (.lit (.int .u64 x4)), .p (.lit (.int .u64 x11)), .p (.lit (.int .u64 x12)), .p (.lit (.int .u64 x13))]
noncomputable def Zz55.f0 (k : Nat) (a0 a1 a2 a3 a4 : Int) : Option Int := Zz55.D.val Zz55.S k (a0, a1, a2, a3, a4, ())
noncomputable def Zz55.f := (still Zz55.f0).1
theorem Zz55.f_def : Zz55.f = Zz55.f0 := (still Zz55.f0).2
noncomputable def Zz55.g (k : Nat) (x : Zz55.A.T) : Option Int := Zz55.f k (x.1) (x.2.1) (x.2.2.1) (x.2.2.2.1) (x.2.2.2.2.1)
theorem Zz55.does (k : Nat) : Does PG 118 Zz55.A Zz55.Q (Zz55.g k) Zz55.h := (show Zz55.g k = Zz55.D.val Zz55.S k from funext fun _ => by unfold Zz55.g; rw [Zz55.f_def]; rfl) ▸ Decl.does (D := Zz55.D) (S := Zz55.S) (fn := Go.Proofs.Tryz.f118) (by constructor <;> first | kernel_rfl | exact TT.of_ok _ T0ex) (fun k => ⟨told_ok (Zz13.does k), ⟨told_ok (Zz53.does k), trivial⟩⟩) (fun _ _ h => by rw [h rfl]; rfl) k
def Zz59.A : AK := .m none .u64 23 (.p (.row .u64) (.p (.int .u64) (.p (.int .i64) .nil)))
def Zz59.Q : RK := .p (.bool) .nil
def Zz59.h : (Bool × List Int) → Zz59.Q.T × List Int := fun b => ((b.1, ()), b.2)
noncomputable def Zz59.D : Decl (Bool × List Int) := ⟨(Go.Proofs.Tryz.f119.body).getD .skip, 57, [.tmp 8], Zz59.A, Zz59.Q, fun y m => (y.1, m), T0, [], [(3, [(0, .m (.num .u64) 23), (1, .p (some (.row .u64))), (2, .p (some (.int .u64))), (3, .p (some (.int .i64))), (9, .p (some (.int .u64))), (10, .p (some (.int .u64))), (11, .p (some (.int .i64)))])], []⟩
noncomputable def Zz59.S (k : Nat) : List (Nat × E.Spec (Bool × List Int)) := [(65, told _ Zz18.A Zz18.Q (Zz18.g k) Zz18.h), (73, told _ Zz52.A Zz52.Q (Zz52.g k) Zz52.h)]
noncomputable def Zz59.l3 (k : Nat) (x0 x1 : List Int) (x2 x3 x9 x10 x11 : Int) : Option (Bool × List Int) := Zz59.D.F Zz59.S k 7 [.m x0, .p (.row .u64 x1), .p (.lit (.int .u64 x2)), .p (.lit (.int .i64 x3)), .p (.lit (.int .u64 x9)), .p (.lit (.int .u64 x10)), .p (.lit (.int .i64 x11))]
noncomputable def Zz59.f0 (k : Nat) (a0 a1 : List Int) (a2 a3 : Int) : Option (Bool × List Int) := Zz59.D.val Zz59.S k (a0, a1, a2, a3, ())
noncomputable def Zz59.f := (still Zz59.f0).1
theorem Zz59.f_def : Zz59.f = Zz59.f0 := (still Zz59.f0).2
noncomputable def Zz59.g (k : Nat) (x : Zz59.A.T) : Option (Bool × List Int) := Zz59.f k (x.1) (x.2.1) (x.2.2.1) (x.2.2.2.1)
theorem Zz59.does (k : Nat) : Does PG 119 Zz59.A Zz59.Q (Zz59.g k) Zz59.h := (show Zz59.g k = Zz59.D.val Zz59.S k from funext fun _ => by unfold Zz59.g; rw [Zz59.f_def]; rfl) ▸ Decl.does (D := Zz59.D) (S := Zz59.S) (fn := Go.Proofs.Tryz.f119) (by constructor <;> first | kernel_rfl | exact TT.of_ok _ T0ex) (fun k => ⟨told_ok (Zz18.does k), ⟨told_ok (Zz52.does k), trivial⟩⟩) (fun _ _ _ => rfl) k
def Zz54.A : AK := .m none .u64 23 (.p (.row .u64) (.p (.int .i64) .nil))
def Zz54.Q : RK := .nil
def Zz54.h : List Int → Zz54.Q.T × List Int := fun b => ((()), b)
noncomputable def Zz54.D : Decl (List Int) := ⟨(Go.Proofs.Tryz.f120.body).getD .skip, 33, [], Zz54.A, Zz54.Q, fun y m => m, T0, [], [(2, [(0, .m (.num .u64) 23), (1, .p (some (.row .u64))), (2, .p (some (.int .i64))), (6, .p (some (.int .u64))), (7, .p (some (.int .i64)))])], []⟩
noncomputable def Zz54.S (k : Nat) : List (Nat × E.Spec (List Int)) := [(73, told _ Zz52.A Zz52.Q (Zz52.g k) Zz52.h)]
noncomputable def Zz54.l2 (k : Nat) (x0 x1 : List Int) (x2 x6 x7 : Int) : Option (List Int) := Zz54.D.F Zz54.S k 5 [.m x0, .p (.row .u64 x1), .p (.lit (.int .i64 x2)), .p (.lit (.int .u64 x6)), .p (.lit (.int .i64 x7))]
noncomputable def Zz54.f0 (k : Nat) (a0 a1 : List Int) (a2 : Int) : Option (List Int) := Zz54.D.val Zz54.S k (a0, a1, a2, ())
noncomputable def Zz54.f := (still Zz54.f0).1
theorem Zz54.f_def : Zz54.f = Zz54.f0 := (still Zz54.f0).2
noncomputable def Zz54.g (k : Nat) (x : Zz54.A.T) : Option (List Int) := Zz54.f k (x.1) (x.2.1) (x.2.2.1)
theorem Zz54.does (k : Nat) : Does PG 120 Zz54.A Zz54.Q (Zz54.g k) Zz54.h := (show Zz54.g k = Zz54.D.val Zz54.S k from funext fun _ => by unfold Zz54.g; rw [Zz54.f_def]; rfl) ▸ Decl.does (D := Zz54.D) (S := Zz54.S) (fn := Go.Proofs.Tryz.f120) (by constructor <;> first | kernel_rfl | exact TT.of_ok _ T0ex) (fun k => ⟨told_ok (Zz52.does k), trivial⟩) (fun _ _ _ => rfl) k
def Zz50.A : AK := .p (.row .u64) (.p (.int .i64) .nil)
def Zz50.Q : RK := .p (.row .u64) (.p (.int .i64) .nil)
def Zz50.h : (List Int × Int) → Zz50.Q.T × List Int := fun b => ((b.1, b.2, ()), [])
noncomputable def Zz50.D : Decl (List Int × Int) := ⟨(Go.Proofs.Tryz.f121.body).getD .skip, 53, [.tmp 4, .tmp 5], Zz50.A, Zz50.Q, fun y m => (y.1, y.2.1), T0, [], [(9, [(0, .p (some (.row .u64))), (1, .p (some (.int .i64))), (6, .m (.num .u64) 23), (25, .p (some (.int .i64))), (26, .p (some (.int .i64)))])], [(13, [6])]⟩
noncomputable def Zz50.S (k : Nat) : List (Nat × E.Spec (List Int × Int)) := [(64, told _ Zz60.A Zz60.Q (Zz60.g k) Zz60.h), (73, told _ Zz52.A Zz52.Q (Zz52.g k) Zz52.h)]
noncomputable def Zz50.l9 (k : Nat) (x0 : List Int) (x1 : Int) (x6 : List Int) (x25 x26 : Int) : Option (List Int × Int) := Zz50.D.F Zz50.S k 19 [.p (.row .u64 x0), .p (.lit (.int .i64 x1)), .m x6, .p (.lit (.int .i64 x25)), .p (.lit (.int .i64 x26))]
noncomputable def Zz50.f0 (k : Nat) (a0 : List Int) (a1 : Int) : Option (List Int × Int) := Zz50.D.val Zz50.S k (a0, a1, ())
noncomputable def Zz50.f := (still Zz50.f0).1
theorem Zz50.f_def : Zz50.f = Zz50.f0 := (still Zz50.f0).2
noncomputable def Zz50.g (k : Nat) (x : Zz50.A.T) : Option (List Int × Int) := Zz50.f k (x.1) (x.2.1)
theorem Zz50.does (k : Nat) : Does PG 121 Zz50.A Zz50.Q (Zz50.g k) Zz50.h := (show Zz50.g k = Zz50.D.val Zz50.S k from funext fun _ => by unfold Zz50.g; rw [Zz50.f_def]; rfl) ▸ Decl.does (D := Zz50.D) (S := Zz50.S) (fn := Go.Proofs.Tryz.f121) (by constructor <;> first | kernel_rfl | exact TT.of_ok _ T0ex) (fun k => ⟨told_ok (Zz60.does k), ⟨told_ok (Zz52.does k), trivial⟩⟩) (fun _ _ h => by rw [h rfl]; rfl) k
def Zz44.A : AK := .p (.row .u64) (.p (.row .u64) .nil)
def Zz44.Q : RK := .p (.row .u64) (.p (.row .u64) (.p (.int .i64) .nil))
def Zz44.h : (List Int × List Int × Int) → Zz44.Q.T × List Int := fun b => ((b.1, b.2.1, b.2.2, ()), [])
noncomputable def Zz44.D : Decl (List Int × List Int × Int) := ⟨(Go.Proofs.Tryz.f113.body).getD .skip, 138, [.tmp 4, .tmp 5, .tmp 6], Zz44.A, Zz44.Q, fun y m => (y.1, y.2.1, y.2.2.1), T0, [], [(14, [(10, .p (some (.int .u64))), (11, .m (.num .u64) 23), (12, .p (some (.row .u64))), (13, .p (some (.int .i64))), (14, .m (.num .u64) 23), (15, .p (some (.int .i64)))])], [(21, [11]), (22, [14])]⟩
noncomputable def Zz44.S (k : Nat) : List (Nat × E.Spec (List Int × List Int × Int)) := [(44, told _ Zz45.A Zz45.Q (Zz45.g k) Zz45.h), (51, told _ Zz43.A Zz43.Q (Zz43.g k) Zz43.h), (59, told _ Zz47.A Zz47.Q (Zz47.g k) Zz47.h), (64, told _ Zz60.A Zz60.Q (Zz60.g k) Zz60.h), (76, told _ Zz58.A Zz58.Q (Zz58.g k) Zz58.h), (78, told _ Zz14.A Zz14.Q (Zz14.g k) Zz14.h), (118, told _ Zz55.A Zz55.Q (Zz55.g k) Zz55.h), (119, told _ Zz59.A Zz59.Q (Zz59.g k) Zz59.h), (120, told _ Zz54.A Zz54.Q (Zz54.g k) Zz54.h), (121, told _ Zz50.A Zz50.Q (Zz50.g k) Zz50.h)]
noncomputable def Zz44.l14 (k : Nat) (x10 : Int) (x11 x12 : List Int) (x13 : Int) (x14 : List Int) (x15 : Int) : Option (List Int × List Int × Int) := Zz44.D.F Zz44.S k 29 [.p (.lit (.int .u64 x10)), .m x11, .p (.row .u64 x12), .p (.lit (.int .i64 x13)), .m x14, .p (.lit (.int .i64 x15))]
noncomputable def Zz44.f0 (k : Nat) (a0 a1 : List Int) : Option (List Int × List Int × Int) := Zz44.D.val Zz44.S k (a0, a1, ())
noncomputable def Zz44.f := (still Zz44.f0).1
theorem Zz44.f_def : Zz44.f = Zz44.f0 := (still Zz44.f0).2
noncomputable def Zz44.g (k : Nat) (x : Zz44.A.T) : Option (List Int × List Int × Int) := Zz44.f k (x.1) (x.2.1)
theorem Zz44.does (k : Nat) : Does PG 113 Zz44.A Zz44.Q (Zz44.g k) Zz44.h := (show Zz44.g k = Zz44.D.val Zz44.S k from funext fun _ => by unfold Zz44.g; rw [Zz44.f_def]; rfl) ▸ Decl.does (D := Zz44.D) (S := Zz44.S) (fn := Go.Proofs.Tryz.f113) (by constructor <;> first | kernel_rfl | exact TT.of_ok _ T0ex) (fun k => ⟨told_ok (Zz45.does k), ⟨told_ok (Zz43.does k), ⟨told_ok (Zz47.does k), ⟨told_ok (Zz60.does k), ⟨told_ok (Zz58.does k), ⟨told_ok (Zz14.does k), ⟨told_ok (Zz55.does k), ⟨told_ok (Zz59.does k), ⟨told_ok (Zz54.does k), ⟨told_ok (Zz50.does k), trivial⟩⟩⟩⟩⟩⟩⟩⟩⟩⟩) (fun _ _ h => by rw [h rfl]; rfl) k
def Zz8.A : AK := .p (.agg (.cons (.bool) (.cons (.row .u64) .nil))) (.p (.agg (.cons (.bool) (.cons (.row .u64) .nil))) .nil)
def Zz8.Q : RK := .p (.agg (.cons (.bool) (.cons (.row .u64) .nil))) (.p (.agg (.cons (.bool) (.cons (.row .u64) .nil))) (.p (.int .i64) .nil))
def Zz8.h : (Bool × List Int × Bool × List Int × Int) → Zz8.Q.T × List Int := fun b => (((b.1, b.2.1, ()), (b.2.2.1, b.2.2.2.1, ()), b.2.2.2.2, ()), [])
noncomputable def Zz8.D : Decl (Bool × List Int × Bool × List Int × Int) := ⟨(Go.Proofs.Tryz.f101.body).getD .skip, 35, [.cell 4 39, .cell 5 39, .tmp 6], Zz8.A, Zz8.Q, fun y m => (y.1.1, y.1.2.1, y.2.1.1, y.2.1.2.1, y.2.2.1), T0, [], [], []⟩
noncomputable def Zz8.S (k : Nat) : List (Nat × E.Spec (Bool × List Int × Bool × List Int × Int)) := [(49, told _ Zz12.A Zz12.Q (Zz12.g k) Zz12.h), (113, told _ Zz44.A Zz44.Q (Zz44.g k) Zz44.h)]
noncomputable def Zz8.f0 (k : Nat) (a0_0 : Bool) (a0_1 : List Int) (a1_0 : Bool) (a1_1 : List Int) : Option (Bool × List Int × Bool × List Int × Int) := Zz8.D.val Zz8.S k ((a0_0, a0_1, ()), (a1_0, a1_1, ()), ())
noncomputable def Zz8.f := (still Zz8.f0).1
theorem Zz8.f_def : Zz8.f = Zz8.f0 := (still Zz8.f0).2
noncomputable def Zz8.g (k : Nat) (x : Zz8.A.T) : Option (Bool × List Int × Bool × List Int × Int) := Zz8.f k (x.1.1) (x.1.2.1) (x.2.1.1) (x.2.1.2.1)
theorem Zz8.does (k : Nat) : Does PG 101 Zz8.A Zz8.Q (Zz8.g k) Zz8.h := (show Zz8.g k = Zz8.D.val Zz8.S k from funext fun _ => by unfold Zz8.g; rw [Zz8.f_def]; rfl) ▸ Decl.does (D := Zz8.D) (S := Zz8.S) (fn := Go.Proofs.Tryz.f101) (by constructor <;> first | kernel_rfl | exact TT.of_ok _ T0ex) (fun k => ⟨told_ok (Zz12.does k), ⟨told_ok (Zz44.does k), trivial⟩⟩) (fun _ _ h => by rw [h rfl]; rfl) k
def Zz6.A : AK := .p (.agg (.cons (.bool) (.cons (.row .u64) .nil))) .nil
def Zz6.Q : RK := .p (.agg (.cons (.bool) (.cons (.row .u64) .nil))) .nil
def Zz6.h : (Bool × List Int) → Zz6.Q.T × List Int := fun b => (((b.1, b.2, ()), ()), [])
noncomputable def Zz6.D : Decl (Bool × List Int) := ⟨(Go.Proofs.Tryz.f114.body).getD .skip, 9, [.cell 2 39], Zz6.A, Zz6.Q, fun y m => (y.1.1, y.1.2.1), T0, [], [], []⟩
noncomputable def Zz6.S (k : Nat) : List (Nat × E.Spec (Bool × List Int)) := [(49, told _ Zz12.A Zz12.Q (Zz12.g k) Zz12.h)]
noncomputable def Zz6.f0 (k : Nat) (a0_0 : Bool) (a0_1 : List Int) : Option (Bool × List Int) := Zz6.D.val Zz6.S k ((a0_0, a0_1, ()), ())
noncomputable def Zz6.f := (still Zz6.f0).1
theorem Zz6.f_def : Zz6.f = Zz6.f0 := (still Zz6.f0).2
noncomputable def Zz6.g (k : Nat) (x : Zz6.A.T) : Option (Bool × List Int) := Zz6.f k (x.1.1) (x.1.2.1)
theorem Zz6.does (k : Nat) : Does PG 114 Zz6.A Zz6.Q (Zz6.g k) Zz6.h := (show Zz6.g k = Zz6.D.val Zz6.S k from funext fun _ => by unfold Zz6.g; rw [Zz6.f_def]; rfl) ▸ Decl.does (D := Zz6.D) (S := Zz6.S) (fn := Go.Proofs.Tryz.f114) (by constructor <;> first | kernel_rfl | exact TT.of_ok _ T0ex) (fun k => ⟨told_ok (Zz12.does k), trivial⟩) (fun _ _ h => by rw [h rfl]; rfl) k
def Zz10.A : AK := .p (.agg (.cons (.bool) (.cons (.row .u64) .nil))) (.p (.agg (.cons (.bool) (.cons (.row .u64) .nil))) .nil)
def Zz10.Q : RK := .p (.agg (.cons (.bool) (.cons (.row .u64) .nil))) .nil
def Zz10.h : (Bool × List Int) → Zz10.Q.T × List Int := fun b => (((b.1, b.2, ()), ()), [])
noncomputable def Zz10.D : Decl (Bool × List Int) := ⟨(Go.Proofs.Tryz.f102.body).getD .skip, 9, [.cell 4 39], Zz10.A, Zz10.Q, fun y m => (y.1.1, y.1.2.1), T0, [], [], []⟩
noncomputable def Zz10.S (k : Nat) : List (Nat × E.Spec (Bool × List Int)) := [(33, told _ Zz1.A Zz1.Q (Zz1.g k) Zz1.h), (114, told _ Zz6.A Zz6.Q (Zz6.g k) Zz6.h)]
noncomputable def Zz10.f0 (k : Nat) (a0_0 : Bool) (a0_1 : List Int) (a1_0 : Bool) (a1_1 : List Int) : Option (Bool × List Int) := Zz10.D.val Zz10.S k ((a0_0, a0_1, ()), (a1_0, a1_1, ()), ())
noncomputable def Zz10.f := (still Zz10.f0).1
theorem Zz10.f_def : Zz10.f = Zz10.f0 := (still Zz10.f0).2
noncomputable def Zz10.g (k : Nat) (x : Zz10.A.T) : Option (Bool × List Int) := Zz10.f k (x.1.1) (x.1.2.1) (x.2.1.1) (x.2.1.2.1)
theorem Zz10.does (k : Nat) : Does PG 102 Zz10.A Zz10.Q (Zz10.g k) Zz10.h := (show Zz10.g k = Zz10.D.val Zz10.S k from funext fun _ => by unfold Zz10.g; rw [Zz10.f_def]; rfl) ▸ Decl.does (D := Zz10.D) (S := Zz10.S) (fn := Go.Proofs.Tryz.f102) (by constructor <;> first | kernel_rfl | exact TT.of_ok _ T0ex) (fun k => ⟨told_ok (Zz1.does k), ⟨told_ok (Zz6.does k), trivial⟩⟩) (fun _ _ h => by rw [h rfl]; rfl) k
def Zz2.A : AK := .p (.agg (.cons (.bool) (.cons (.row .u64) .nil))) (.p (.agg (.cons (.bool) (.cons (.row .u64) .nil))) .nil)
def Zz2.Q : RK := .p (.agg (.cons (.bool) (.cons (.row .u64) .nil))) (.p (.agg (.cons (.bool) (.cons (.row .u64) .nil))) (.p (.int .i64) .nil))
def Zz2.h : (Bool × List Int × Bool × List Int × Int) → Zz2.Q.T × List Int := fun b => (((b.1, b.2.1, ()), (b.2.2.1, b.2.2.2.1, ()), b.2.2.2.2, ()), [])
noncomputable def Zz2.D : Decl (Bool × List Int × Bool × List Int × Int) := ⟨(Go.Proofs.Tryz.f87.body).getD .skip, 32, [.cell 4 39, .cell 5 39, .tmp 6], Zz2.A, Zz2.Q, fun y m => (y.1.1, y.1.2.1, y.2.1.1, y.2.1.2.1, y.2.2.1), T0, [], [], []⟩
noncomputable def Zz2.S (k : Nat) : List (Nat × E.Spec (Bool × List Int × Bool × List Int × Int)) := [(33, told _ Zz1.A Zz1.Q (Zz1.g k) Zz1.h), (70, told _ Zz11.A Zz11.Q (Zz11.g k) Zz11.h), (86, told _ Zz9.A Zz9.Q (Zz9.g k) Zz9.h), (101, told _ Zz8.A Zz8.Q (Zz8.g k) Zz8.h), (102, told _ Zz10.A Zz10.Q (Zz10.g k) Zz10.h)]
noncomputable def Zz2.f0 (k : Nat) (a0_0 : Bool) (a0_1 : List Int) (a1_0 : Bool) (a1_1 : List Int) : Option (Bool × List Int × Bool × List Int × Int) := Zz2.D.val Zz2.S k ((a0_0, a0_1, ()), (a1_0, a1_1, ()), ())
noncomputable def Zz2.f := (still Zz2.f0).1
theorem Zz2.f_def : Zz2.f = Zz2.f0 := (still Zz2.f0).2
noncomputable def Zz2.g (k : Nat) (x : Zz2.A.T) : Option (Bool × List Int × Bool × List Int × Int) := Zz2.f k (x.1.1) (x.1.2.1) (x.2.1.1) (x.2.1.2.1)
theorem Zz2.does (k : Nat) : Does PG 87 Zz2.A Zz2.Q (Zz2.g k) Zz2.h := (show Zz2.g k = Zz2.D.val Zz2.S k from funext fun _ => by unfold Zz2.g; rw [Zz2.f_def]; rfl) ▸ Decl.does (D := Zz2.D) (S := Zz2.S) (fn := Go.Proofs.Tryz.f87) (by constructor <;> first | kernel_rfl | exact TT.of_ok _ T0ex) (fun k => ⟨told_ok (Zz1.does k), ⟨told_ok (Zz11.does k), ⟨told_ok (Zz9.does k), ⟨told_ok (Zz8.does k), ⟨told_ok (Zz10.does k), trivial⟩⟩⟩⟩⟩) (fun _ _ h => by rw [h rfl]; rfl) k
def Zz56.A : AK := .m none .u64 23 (.p (.row .u64) (.p (.int .u64) (.p (.int .i64) .nil)))
def Zz56.Q : RK := .nil
def Zz56.h : List Int → Zz56.Q.T × List Int := fun b => ((()), b)
noncomputable def Zz56.D : Decl (List Int) := ⟨(Go.Proofs.Tryz.f115.body).getD .skip, 77, [], Zz56.A, Zz56.Q, fun y m => m, T0, [], [(12, [(0, .m (.num .u64) 23), (8, .p (some (.int .u64))), (14, .p (some (.int .i64)))]), (2, [(0, .m (.num .u64) 23), (1, .p (some (.row .u64))), (2, .p (some (.int .u64))), (3, .p (some (.int .i64))), (8, .p (some (.int .u64))), (15, .p (some (.row .u64))), (16, .p (some (.int .i64))), (17, .p (some (.int .i64)))])], []⟩
noncomputable def Zz56.S (k : Nat) : List (Nat × E.Spec (List Int)) := [(65, told _ Zz18.A Zz18.Q (Zz18.g k) Zz18.h)]
noncomputable def Zz56.l12 (k : Nat) (x0 : List Int) (x8 x14 : Int) : Option (List Int) := Zz56.D.F Zz56.S k 25 [.m x0, .p (.lit (.int .u64 x8)), .p (.lit (.int .i64 x14))]
noncomputable def Zz56.l2 (k : Nat) (x0 x1 : List Int) (x2 x3 x8 : Int) (x15 : List Int) (x16 x17 : Int) : Option (List Int) := Zz56.D.F Zz56.S k 5 [.m x0, .p (.row .u64 x1), .p (.lit (.int .u64 x2)), .p (.lit (.int .i64 x3)), .p (.lit (.int .u64 x8)), .p (.row .u64 x15), .p (.lit (.int .i64 x16)), .p (.lit (.int .i64 x17))]
noncomputable def Zz56.f0 (k : Nat) (a0 a1 : List Int) (a2 a3 : Int) : Option (List Int) := Zz56.D.val Zz56.S k (a0, a1, a2, a3, ())
noncomputable def Zz56.f := (still Zz56.f0).1
theorem Zz56.f_def : Zz56.f = Zz56.f0 := (still Zz56.f0).2
noncomputable def Zz56.g (k : Nat) (x : Zz56.A.T) : Option (List Int) := Zz56.f k (x.1) (x.2.1) (x.2.2.1) (x.2.2.2.1)
theorem Zz56.does (k : Nat) : Does PG 115 Zz56.A Zz56.Q (Zz56.g k) Zz56.h := (show Zz56.g k = Zz56.D.val Zz56.S k from funext fun _ => by unfold Zz56.g; rw [Zz56.f_def]; rfl) ▸ Decl.does (D := Zz56.D) (S := Zz56.S) (fn := Go.Proofs.Tryz.f115) (by constructor <;> first | kernel_rfl | exact TT.of_ok _ T0ex) (fun k => ⟨told_ok (Zz18.does k), trivial⟩) (fun _ _ _ => rfl) k
def Zz46.A : AK := .p (.row .u64) (.p (.row .u64) .nil)
def Zz46.Q : RK := .p (.row .u64) .nil
def Zz46.h : List Int → Zz46.Q.T × List Int := fun b => ((b, ()), [])
noncomputable def Zz46.D : Decl (List Int) := ⟨(Go.Proofs.Tryz.f103.body).getD .skip, 34, [.tmp 4], Zz46.A, Zz46.Q, fun y m => y.1, T0, [], [(4, [(0, .p (some (.row .u64))), (5, .m (.num .u64) 23), (19, .p (some (.row .u64))), (20, .p (some (.int .i64))), (21, .p (some (.int .i64)))])], [(8, [5])]⟩
noncomputable def Zz46.S (k : Nat) : List (Nat × E.Spec (List Int)) := [(64, told _ Zz60.A Zz60.Q (Zz60.g k) Zz60.h), (115, told _ Zz56.A Zz56.Q (Zz56.g k) Zz56.h)]
noncomputable def Zz46.l4 (k : Nat) (x0 x5 x19 : List Int) (x20 x21 : Int) : Option (List Int) := Zz46.D.F Zz46.S k 9 [.p (.row .u64 x0), .m x5, .p (.row .u64 x19), .p (.lit (.int .i64 x20)), .p (.lit (.int .i64 x21))]
noncomputable def Zz46.f0 (k : Nat) (a0 a1 : List Int) : Option (List Int) := Zz46.D.val Zz46.S k (a0, a1, ())
noncomputable def Zz46.f := (still Zz46.f0).1
theorem Zz46.f_def : Zz46.f = Zz46.f0 := (still Zz46.f0).2
noncomputable def Zz46.g (k : Nat) (x : Zz46.A.T) : Option (List Int) := Zz46.f k (x.1) (x.2.1)
theorem Zz46.does (k : Nat) : Does PG 103 Zz46.A Zz46.Q (Zz46.g k) Zz46.h := (show Zz46.g k = Zz46.D.val Zz46.S k from funext fun _ => by unfold Zz46.g; rw [Zz46.f_def]; rfl) ▸ Decl.does (D := Zz46.D) (S := Zz46.S) (fn := Go.Proofs.Tryz.f103) (by constructor <;> first | kernel_rfl | exact TT.of_ok _ T0ex) (fun k => ⟨told_ok (Zz60.does k), ⟨told_ok (Zz56.does k), trivial⟩⟩) (fun _ _ h => by rw [h rfl]; rfl) k
def Zz4.A : AK := .p (.agg (.cons (.bool) (.cons (.row .u64) .nil))) (.p (.agg (.cons (.bool) (.cons (.row .u64) .nil))) .nil)
def Zz4.Q : RK := .p (.agg (.cons (.bool) (.cons (.row .u64) .nil))) .nil
def Zz4.h : (Bool × List Int) → Zz4.Q.T × List Int := fun b => (((b.1, b.2, ()), ()), [])
noncomputable def Zz4.D : Decl (Bool × List Int) := ⟨(Go.Proofs.Tryz.f90.body).getD .skip, 16, [.cell 4 39], Zz4.A, Zz4.Q, fun y m => (y.1.1, y.1.2.1), T0, [], [], []⟩
noncomputable def Zz4.S (k : Nat) : List (Nat × E.Spec (Bool × List Int)) := [(49, told _ Zz12.A Zz12.Q (Zz12.g k) Zz12.h), (103, told _ Zz46.A Zz46.Q (Zz46.g k) Zz46.h)]
noncomputable def Zz4.f0 (k : Nat) (a0_0 : Bool) (a0_1 : List Int) (a1_0 : Bool) (a1_1 : List Int) : Option (Bool × List Int) := Zz4.D.val Zz4.S k ((a0_0, a0_1, ()), (a1_0, a1_1, ()), ())
noncomputable def Zz4.f := (still Zz4.f0).1
theorem Zz4.f_def : Zz4.f = Zz4.f0 := (still Zz4.f0).2
noncomputable def Zz4.g (k : Nat) (x : Zz4.A.T) : Option (Bool × List Int) := Zz4.f k (x.1.1) (x.1.2.1) (x.2.1.1) (x.2.1.2.1)
theorem Zz4.does (k : Nat) : Does PG 90 Zz4.A Zz4.Q (Zz4.g k) Zz4.h := (show Zz4.g k = Zz4.D.val Zz4.S k from funext fun _ => by unfold Zz4.g; rw [Zz4.f_def]; rfl) ▸ Decl.does (D := Zz4.D) (S := Zz4.S) (fn := Go.Proofs.Tryz.f90) (by constructor <;> first | kernel_rfl | exact TT.of_ok _ T0ex) (fun k => ⟨told_ok (Zz12.does k), ⟨told_ok (Zz46.does k), trivial⟩⟩) (fun _ _ h => by rw [h rfl]; rfl) k
def Zz0.A : AK := .p (.bool) (.p (.row .u64) .nil)
def Zz0.Q : RK := .p (.agg (.cons (.bool) (.cons (.row .u64) .nil))) .nil
def Zz0.h : (Bool × List Int) → Zz0.Q.T × List Int := fun b => (((b.1, b.2, ()), ()), [])
noncomputable def Zz0.D : Decl (Bool × List Int) := ⟨(Go.Proofs.Tryz.f55.body).getD .skip, 9, [.cell 4 39], Zz0.A, Zz0.Q, fun y m => (y.1.1, y.1.2.1), T0, [], [], []⟩
noncomputable def Zz0.S (k : Nat) : List (Nat × E.Spec (Bool × List Int)) := [(49, told _ Zz12.A Zz12.Q (Zz12.g k) Zz12.h), (59, told _ Zz47.A Zz47.Q (Zz47.g k) Zz47.h)]
noncomputable def Zz0.f0 (k : Nat) (a0 : Bool) (a1 : List Int) : Option (Bool × List Int) := Zz0.D.val Zz0.S k (a0, a1, ())
noncomputable def Zz0.f := (still Zz0.f0).1
theorem Zz0.f_def : Zz0.f = Zz0.f0 := (still Zz0.f0).2
noncomputable def Zz0.g (k : Nat) (x : Zz0.A.T) : Option (Bool × List Int) := Zz0.f k (x.1) (x.2.1)
theorem Zz0.does (k : Nat) : Does PG 55 Zz0.A Zz0.Q (Zz0.g k) Zz0.h := (show Zz0.g k = Zz0.D.val Zz0.S k from funext fun _ => by unfold Zz0.g; rw [Zz0.f_def]; rfl) ▸ Decl.does (D := Zz0.D) (S := Zz0.S) (fn := Go.Proofs.Tryz.f55) (by constructor <;> first | kernel_rfl | exact TT.of_ok _ T0ex) (fun k => ⟨told_ok (Zz12.does k), ⟨told_ok (Zz47.does k), trivial⟩⟩) (fun _ _ h => by rw [h rfl]; rfl) k
def Zz40.A : AK := .p (.int .u64) .nil
def Zz40.Q : RK := .p (.agg (.cons (.bool) (.cons (.row .u64) .nil))) .nil
def Zz40.h : (Bool × List Int) → Zz40.Q.T × List Int := fun b => (((b.1, b.2, ()), ()), [])
noncomputable def Zz40.D : Decl (Bool × List Int) := ⟨(Go.Proofs.Tryz.f91.body).getD .skip, 6, [.cell 2 39], Zz40.A, Zz40.Q, fun y m => (y.1.1, y.1.2.1), T0, [], [], []⟩
noncomputable def Zz40.S (k : Nat) : List (Nat × E.Spec (Bool × List Int)) := [(55, told _ Zz0.A Zz0.Q (Zz0.g k) Zz0.h)]
noncomputable def Zz40.f0 (k : Nat) (a0 : Int) : Option (Bool × List Int) := Zz40.D.val Zz40.S k (a0, ())
noncomputable def Zz40.f := (still Zz40.f0).1
theorem Zz40.f_def : Zz40.f = Zz40.f0 := (still Zz40.f0).2
noncomputable def Zz40.g (k : Nat) (x : Zz40.A.T) : Option (Bool × List Int) := Zz40.f k (x.1)
theorem Zz40.does (k : Nat) : Does PG 91 Zz40.A Zz40.Q (Zz40.g k) Zz40.h := (show Zz40.g k = Zz40.D.val Zz40.S k from funext fun _ => by unfold Zz40.g; rw [Zz40.f_def]; rfl) ▸ Decl.does (D := Zz40.D) (S := Zz40.S) (fn := Go.Proofs.Tryz.f91) (by constructor <;> first | kernel_rfl | exact TT.of_ok _ T0ex) (fun k => ⟨told_ok (Zz0.does k), trivial⟩) (fun _ _ h => by rw [h rfl]; rfl) k
def Zz38.A : AK := .p (.agg (.cons (.bool) (.cons (.row .u64) .nil))) (.p (.agg (.cons (.bool) (.cons (.row .u64) .nil))) (.p (.int .u64) (.p (.int .u64) .nil)))
def Zz38.Q : RK := .p (.agg (.cons (.bool) (.cons (.row .u64) .nil))) (.p (.agg (.cons (.bool) (.cons (.row .u64) .nil))) (.p (.int .i64) .nil))
def Zz38.h : (Bool × List Int × Bool × List Int × Int) → Zz38.Q.T × List Int := fun b => (((b.1, b.2.1, ()), (b.2.2.1, b.2.2.2.1, ()), b.2.2.2.2, ()), [])
noncomputable def Zz38.D : Decl (Bool × List Int × Bool × List Int × Int) := ⟨(Go.Proofs.Tryz.f71.body).getD .skip, 85, [.cell 8 39, .cell 9 39, .tmp 10], Zz38.A, Zz38.Q, fun y m => (y.1.1, y.1.2.1, y.2.1.1, y.2.1.2.1, y.2.2.1), T0, [], [], []⟩
noncomputable def Zz38.S (k : Nat) : List (Nat × E.Spec (Bool × List Int × Bool × List Int × Int)) := [(25, told _ Zz3.A Zz3.Q (Zz3.g k) Zz3.h), (27, told _ Zz114.A Zz114.Q (Zz114.g k) Zz114.h), (33, told _ Zz1.A Zz1.Q (Zz1.g k) Zz1.h), (45, told _ Zz110.A Zz110.Q (Zz110.g k) Zz110.h), (85, told _ Zz39.A Zz39.Q (Zz39.g k) Zz39.h), (86, told _ Zz9.A Zz9.Q (Zz9.g k) Zz9.h), (87, told _ Zz2.A Zz2.Q (Zz2.g k) Zz2.h), (88, told _ Zz109.A Zz109.Q (Zz109.g k) Zz109.h), (89, told _ Zz113.A Zz113.Q (Zz113.g k) Zz113.h), (90, told _ Zz4.A Zz4.Q (Zz4.g k) Zz4.h), (91, told _ Zz40.A Zz40.Q (Zz40.g k) Zz40.h)]
noncomputable def Zz38.f0 (k : Nat) (a0_0 : Bool) (a0_1 : List Int) (a1_0 : Bool) (a1_1 : List Int) (a2 a3 : Int) : Option (Bool × List Int × Bool × List Int × Int) := Zz38.D.val Zz38.S k ((a0_0, a0_1, ()), (a1_0, a1_1, ()), a2, a3, ())
noncomputable def Zz38.f := (still Zz38.f0).1
theorem Zz38.f_def : Zz38.f = Zz38.f0 := (still Zz38.f0).2
noncomputable def Zz38.g (k : Nat) (x : Zz38.A.T) : Option (Bool × List Int × Bool × List Int × Int) := Zz38.f k (x.1.1) (x.1.2.1) (x.2.1.1) (x.2.1.2.1) (x.2.2.1) (x.2.2.2.1)
theorem Zz38.does (k : Nat) : Does PG 71 Zz38.A Zz38.Q (Zz38.g k) Zz38.h := (show Zz38.g k = Zz38.D.val Zz38.S k from funext fun _ => by unfold Zz38.g; rw [Zz38.f_def]; rfl) ▸ Decl.does (D := Zz38.D) (S := Zz38.S) (fn := Go.Proofs.Tryz.f71) (by constructor <;> first | kernel_rfl | exact TT.of_ok _ T0ex) (fun k => ⟨told_ok (Zz3.does k), ⟨told_ok (Zz114.does k), ⟨told_ok (Zz1.does k), ⟨told_ok (Zz110.does k), ⟨told_ok (Zz39.does k), ⟨told_ok (Zz9.does k), ⟨told_ok (Zz2.does k), ⟨told_ok (Zz109.does k), ⟨told_ok (Zz113.does k), ⟨told_ok (Zz4.does k), ⟨told_ok (Zz40.does k), trivial⟩⟩⟩⟩⟩⟩⟩⟩⟩⟩⟩) (fun _ _ h => by rw [h rfl]; rfl) k
def Zz37.A : AK := .p (.row .u64) (.p (.row .u64) .nil)
def Zz37.Q : RK := .p (.agg (.cons (.bool) (.cons (.row .u64) .nil))) (.p (.agg (.cons (.bool) (.cons (.row .u64) .nil))) (.p (.int .i64) .nil))
def Zz37.h : (Bool × List Int × Bool × List Int × Int) → Zz37.Q.T × List Int := fun b => (((b.1, b.2.1, ()), (b.2.2.1, b.2.2.2.1, ()), b.2.2.2.2, ()), [])
noncomputable def Zz37.D : Decl (Bool × List Int × Bool × List Int × Int) := ⟨(Go.Proofs.Tryz.f47.body).getD .skip, 50, [.cell 4 39, .cell 5 39, .tmp 6], Zz37.A, Zz37.Q, fun y m => (y.1.1, y.1.2.1, y.2.1.1, y.2.1.2.1, y.2.2.1), T0, [], [(1000, [(0, .p (some (.row .u64))), (1, .p (some (.row .u64))), (4, .b (some (.cons (.bool) (.cons (.row .u64) .nil)))), (5, .b (some (.cons (.bool) (.cons (.row .u64) .nil)))), (8, .b (some (.cons (.bool) (.cons (.row .u64) .nil)))), (9, .b (some (.cons (.bool) (.cons (.row .u64) .nil)))), (11, .p (some (.int .i64)))])], []⟩
noncomputable def Zz37.S (k : Nat) : List (Nat × E.Spec (Bool × List Int × Bool × List Int × Int)) := [(69, told _ Zz41.A Zz41.Q (Zz41.g k) Zz41.h), (70, told _ Zz11.A Zz11.Q (Zz11.g k) Zz11.h), (71, told _ Zz38.A Zz38.Q (Zz38.g k) Zz38.h)]
noncomputable def Zz37.l1000 (k : Nat) (x0 x1 : List Int) (x4_0 : Bool) (x4_1 : List Int) (x5_0 : Bool) (x5_1 : List Int) (x8_0 : Bool) (x8_1 : List Int) (x9_0 : Bool) (x9_1 : List Int) (x11 : Int) : Option (Bool × List Int × Bool × List Int × Int) := Zz37.D.F Zz37.S k 2001 [.p (.row .u64 x0), .p (.row .u64 x1), .b 39 [.lit (.bool x4_0), .row .u64 x4_1], .b 39 [.lit (.bool x5_0), .row .u64 x5_1], .b 39 [.lit (.bool x8_0), .row .u64 x8_1], .b 39 [.lit (.bool x9_0), .row .u64 x9_1], .p (.lit (.int .i64 x11))]
noncomputable def Zz37.f0 (k : Nat) (a0 a1 : List Int) : Option (Bool × List Int × Bool × List Int × Int) := Zz37.D.val Zz37.S k (a0, a1, ())
noncomputable def Zz37.f := (still Zz37.f0).1
theorem Zz37.f_def : Zz37.f = Zz37.f0 := (still Zz37.f0).2
noncomputable def Zz37.g (k : Nat) (x : Zz37.A.T) : Option (Bool × List Int × Bool × List Int × Int) := Zz37.f k (x.1) (x.2.1)
theorem Zz37.does (k : Nat) : Does PG 47 Zz37.A Zz37.Q (Zz37.g k) Zz37.h := (show Zz37.g k = Zz37.D.val Zz37.S k from funext fun _ => by unfold Zz37.g; rw [Zz37.f_def]; rfl) ▸ Decl.does (D := Zz37.D) (S := Zz37.S) (fn := Go.Proofs.Tryz.f47) (by constructor <;> first | kernel_rfl | exact TT.of_ok _ T0ex) (fun k => ⟨told_ok (Zz41.does k), ⟨told_ok (Zz11.does k), ⟨told_ok (Zz38.does k), trivial⟩⟩⟩) (fun _ _ h => by rw [h rfl]; rfl) k
def Zz35.A : AK := .p (.row .u64) (.p (.row .u64) .nil)
def Zz35.Q : RK := .o .big 39 (.p (.int .i64) .nil)
def Zz35.h : (List Int × Int) → Zz35.Q.T × List Int := fun b => (((b.1), b.2, ()), [])
noncomputable def Zz35.D : Decl (List Int × Int) := ⟨(Go.Proofs.Tryz.f29.body).getD .skip, 69, [.tmp 4, .tmp 5], Zz35.A, Zz35.Q, fun y m => (y.1, y.2.1), T0, [], [(8, [(6, .b (some (.cons (.row .u64) (.cons (.row .u64) (.cons (.row .u64) .nil))))), (7, .p (some (.row .u64))), (9, .m .big 39), (34, .p (some (.int .i64))), (35, .p (some (.int .i64)))])], [(10, [7])]⟩
noncomputable def Zz35.S (k : Nat) : List (Nat × E.Spec (List Int × Int)) := [(46, told _ Zz33.A Zz33.Q (Zz33.g k) Zz33.h), (47, told _ Zz37.A Zz37.Q (Zz37.g k) Zz37.h)]
noncomputable def Zz35.l8 (k : Nat) (x6_0 x6_1 x6_2 x7 x9 : List Int) (x34 x35 : Int) : Option (List Int × Int) := Zz35.D.F Zz35.S k 17 [.b 79 [.row .u64 x6_0, .row .u64 x6_1, .row .u64 x6_2], .p (.row .u64 x7), .m x9, .p (.lit (.int .i64 x34)), .p (.lit (.int .i64 x35))]
noncomputable def Zz35.f0 (k : Nat) (a0 a1 : List Int) : Option (List Int × Int) := Zz35.D.val Zz35.S k (a0, a1, ())
noncomputable def Zz35.f := (still Zz35.f0).1
theorem Zz35.f_def : Zz35.f = Zz35.f0 := (still Zz35.f0).2
noncomputable def Zz35.g (k : Nat) (x : Zz35.A.T) : Option (List Int × Int) := Zz35.f k (x.1) (x.2.1)
theorem Zz35.does (k : Nat) : Does PG 29 Zz35.A Zz35.Q (Zz35.g k) Zz35.h := (show Zz35.g k = Zz35.D.val Zz35.S k from funext fun _ => by unfold Zz35.g; rw [Zz35.f_def]; rfl) ▸ Decl.does (D := Zz35.D) (S := Zz35.S) (fn := Go.Proofs.Tryz.f29) (by constructor <;> first | kernel_rfl | exact TT.of_ok _ T0ex) (fun k => ⟨told_ok (Zz33.does k), ⟨told_ok (Zz37.does k), trivial⟩⟩) (fun _ _ h => by rw [h rfl]; rfl) k
def Zz31.A : AK := .p (.fp 77 (.cons (.int .u64) (.cons (.int .u64) (.cons (.int .u64) .nil)))) (.p (.row .u64) .nil)
def Zz31.Q : RK := .o (.num .u64) 23 .nil
def Zz31.h : List Int → Zz31.Q.T × List Int := fun b => (((b), ()), [])
noncomputable def Zz31.D : Decl (List Int) := ⟨(Go.Proofs.Tryz.f30.body).getD .skip, 26, [.tmp 4], Zz31.A, Zz31.Q, fun y m => y.1, T0, [], [(3, [(0, .p (some (.fp 77 (.cons (.int .u64) (.cons (.int .u64) (.cons (.int .u64) .nil)))))), (5, .m (.num .u64) 23), (11, .p (some (.row .u64))), (12, .p (some (.int .i64))), (13, .p (some (.int .i64)))])], []⟩
noncomputable def Zz31.S (k : Nat) : List (Nat × E.Spec (List Int)) := [(48, told _ Zz111.A Zz111.Q (Zz111.g k) Zz111.h)]
noncomputable def Zz31.l3 (k : Nat) (x0_0 x0_1 x0_2 : Int) (x5 x11 : List Int) (x12 x13 : Int) : Option (List Int) := Zz31.D.F Zz31.S k 7 [.p (.fp 77 [.lit (.int .u64 x0_0), .lit (.int .u64 x0_1), .lit (.int .u64 x0_2)]), .m x5, .p (.row .u64 x11), .p (.lit (.int .i64 x12)), .p (.lit (.int .i64 x13))]
noncomputable def Zz31.f0 (k : Nat) (a0_0 a0_1 a0_2 : Int) (a1 : List Int) : Option (List Int) := Zz31.D.val Zz31.S k ((a0_0, a0_1, a0_2, ()), a1, ())
noncomputable def Zz31.f := (still Zz31.f0).1
theorem Zz31.f_def : Zz31.f = Zz31.f0 := (still Zz31.f0).2
noncomputable def Zz31.g (k : Nat) (x : Zz31.A.T) : Option (List Int) := Zz31.f k (x.1.1) (x.1.2.1) (x.1.2.2.1) (x.2.1)
theorem Zz31.does (k : Nat) : Does PG 30 Zz31.A Zz31.Q (Zz31.g k) Zz31.h := (show Zz31.g k = Zz31.D.val Zz31.S k from funext fun _ => by unfold Zz31.g; rw [Zz31.f_def]; rfl) ▸ Decl.does (D := Zz31.D) (S := Zz31.S) (fn := Go.Proofs.Tryz.f30) (by constructor <;> first | kernel_rfl | exact TT.of_ok _ T0ex) (fun k => ⟨told_ok (Zz111.does k), trivial⟩) (fun _ _ h => by rw [h rfl]; rfl) k
def Zz22.A : AK := .p (.row .u64) (.p (.row .u64) (.p (.int .u64) .nil))
def Zz22.Q : RK := .o (.num .u64) 23 (.p (.int .i64) .nil)
def Zz22.h : (List Int × Int) → Zz22.Q.T × List Int := fun b => (((b.1), b.2, ()), [])
noncomputable def Zz22.D : Decl (List Int × Int) := ⟨(Go.Proofs.Tryz.f9.body).getD .skip, 65, [.tmp 6, .tmp 7], Zz22.A, Zz22.Q, fun y m => (y.1, y.2.1), T0, [], [(12, [(2, .p (some (.int .u64))), (12, .m (.num .u64) 23), (44, .p (some (.rows .big))), (45, .p (some (.int .i64))), (46, .p (some (.int .i64)))])], []⟩
noncomputable def Zz22.S (k : Nat) : List (Nat × E.Spec (List Int × Int)) := [(25, told _ Zz3.A Zz3.Q (Zz3.g k) Zz3.h), (27, told _ Zz114.A Zz114.Q (Zz114.g k) Zz114.h), (28, told _ Zz29.A Zz29.Q (Zz29.g k) Zz29.h), (29, told _ Zz35.A Zz35.Q (Zz35.g k) Zz35.h), (30, told _ Zz31.A Zz31.Q (Zz31.g k) Zz31.h)]
noncomputable def Zz22.l12 (k : Nat) (x2 : Int) (x12 x44 : List Int) (x45 x46 : Int) : Option (List Int × Int) := Zz22.D.F Zz22.S k 25 [.p (.lit (.int .u64 x2)), .m x12, .p (.rows .big x44), .p (.lit (.int .i64 x45)), .p (.lit (.int .i64 x46))]
noncomputable def Zz22.f0 (k : Nat) (a0 a1 : List Int) (a2 : Int) : Option (List Int × Int) := Zz22.D.val Zz22.S k (a0, a1, a2, ())
noncomputable def Zz22.f := (still Zz22.f0).1
theorem Zz22.f_def : Zz22.f = Zz22.f0 := (still Zz22.f0).2
noncomputable def Zz22.g (k : Nat) (x : Zz22.A.T) : Option (List Int × Int) := Zz22.f k (x.1) (x.2.1) (x.2.2.1)
theorem Zz22.does (k : Nat) : Does PG 9 Zz22.A Zz22.Q (Zz22.g k) Zz22.h := (show Zz22.g k = Zz22.D.val Zz22.S k from funext fun _ => by unfold Zz22.g; rw [Zz22.f_def]; rfl) ▸ Decl.does (D := Zz22.D) (S := Zz22.S) (fn := Go.Proofs.Tryz.f9) (by constructor <;> first | kernel_rfl | exact TT.of_ok _ T0ex) (fun k => ⟨told_ok (Zz3.does k), ⟨told_ok (Zz114.does k), ⟨told_ok (Zz29.does k), ⟨told_ok (Zz35.does k), ⟨told_ok (Zz31.does k), trivial⟩⟩⟩⟩⟩) (fun _ _ h => by rw [h rfl]; rfl) k
def Zz103.A : AK := .p (.row .u64) (.p (.row .u64) .nil)
def Zz103.Q : RK := .p (.bool) .nil
def Zz103.h : Bool → Zz103.Q.T × List Int := fun b => ((b, ()), [])
noncomputable def Zz103.D : Decl Bool := ⟨(Go.Proofs.Tryz.f11.body).getD .skip, 26, [.tmp 4], Zz103.A, Zz103.Q, fun y m => y.1, T0, [], [(4, [(0, .p (some (.row .u64))), (1, .p (some (.row .u64))), (5, .p (some (.int .i64)))])], []⟩
noncomputable def Zz103.S (k : Nat) : List (Nat × E.Spec Bool) := []
noncomputable def Zz103.l4 (k : Nat) (x0 x1 : List Int) (x5 : Int) : Option Bool := Zz103.D.F Zz103.S k 9 [.p (.row .u64 x0), .p (.row .u64 x1), .p (.lit (.int .i64 x5))]
noncomputable def Zz103.f0 (k : Nat) (a0 a1 : List Int) : Option Bool := Zz103.D.val Zz103.S k (a0, a1, ())
noncomputable def Zz103.f := (still Zz103.f0).1
theorem Zz103.f_def : Zz103.f = Zz103.f0 := (still Zz103.f0).2
noncomputable def Zz103.g (k : Nat) (x : Zz103.A.T) : Option Bool := Zz103.f k (x.1) (x.2.1)
theorem Zz103.does (k : Nat) : Does PG 11 Zz103.A Zz103.Q (Zz103.g k) Zz103.h := (show Zz103.g k = Zz103.D.val Zz103.S k from funext fun _ => by unfold Zz103.g; rw [Zz103.f_def]; rfl) ▸ Decl.does (D := Zz103.D) (S := Zz103.S) (fn := Go.Proofs.Tryz.f11) (by constructor <;> first | kernel_rfl | exact TT.of_ok _ T0ex) (fun k => trivial) (fun _ _ h => by rw [h rfl]; rfl) k
def Zz30.A : AK := .p (.row .u64) .nil
def Zz30.Q : RK := .p (.row .u64) (.p (.row .u64) .nil)
def Zz30.h : (List Int × List Int) → Zz30.Q.T × List Int := fun b => ((b.1, b.2, ()), [])
noncomputable def Zz30.D : Decl (List Int × List Int) := ⟨(Go.Proofs.Tryz.f31.body).getD .skip, 27, [.tmp 2, .tmp 3], Zz30.A, Zz30.Q, fun y m => (y.1, y.2.1), T0, [], [(3, [(4, .m (.num .u64) 23), (5, .m (.num .u64) 23), (8, .p (some (.row .u64))), (9, .p (some (.int .i64))), (10, .p (some (.int .i64)))])], []⟩
noncomputable def Zz30.S (k : Nat) : List (Nat × E.Spec (List Int × List Int)) := []
noncomputable def Zz30.l3 (k : Nat) (x4 x5 x8 : List Int) (x9 x10 : Int) : Option (List Int × List Int) := Zz30.D.F Zz30.S k 7 [.m x4, .m x5, .p (.row .u64 x8), .p (.lit (.int .i64 x9)), .p (.lit (.int .i64 x10))]
noncomputable def Zz30.f0 (k : Nat) (a0 : List Int) : Option (List Int × List Int) := Zz30.D.val Zz30.S k (a0, ())
noncomputable def Zz30.f := (still Zz30.f0).1
theorem Zz30.f_def : Zz30.f = Zz30.f0 := (still Zz30.f0).2
noncomputable def Zz30.g (k : Nat) (x : Zz30.A.T) : Option (List Int × List Int) := Zz30.f k (x.1)
theorem Zz30.does (k : Nat) : Does PG 31 Zz30.A Zz30.Q (Zz30.g k) Zz30.h := (show Zz30.g k = Zz30.D.val Zz30.S k from funext fun _ => by unfold Zz30.g; rw [Zz30.f_def]; rfl) ▸ Decl.does (D := Zz30.D) (S := Zz30.S) (fn := Go.Proofs.Tryz.f31) (by constructor <;> first | kernel_rfl | exact TT.of_ok _ T0ex) (fun k => trivial) (fun _ _ h => by rw [h rfl]; rfl) k
def Zz61.A : AK := .p (.row .u64) (.p (.int .i64) .nil)
def Zz61.Q : RK := .o (.num .u64) 23 .nil
def Zz61.h : List Int → Zz61.Q.T × List Int := fun b => (((b), ()), [])
noncomputable def Zz61.D : Decl (List Int) := ⟨(Go.Proofs.Tryz.f75.body).getD .skip, 16, [.tmp 4], Zz61.A, Zz61.Q, fun y m => y.1, T0, [], [], []⟩
noncomputable def Zz61.S (k : Nat) : List (Nat × E.Spec (List Int)) := []
noncomputable def Zz61.f0 (k : Nat) (a0 : List Int) (a1 : Int) : Option (List Int) := Zz61.D.val Zz61.S k (a0, a1, ())
noncomputable def Zz61.f := (still Zz61.f0).1
theorem Zz61.f_def : Zz61.f = Zz61.f0 := (still Zz61.f0).2
noncomputable def Zz61.g (k : Nat) (x : Zz61.A.T) : Option (List Int) := Zz61.f k (x.1) (x.2.1)
theorem Zz61.does (k : Nat) : Does PG 75 Zz61.A Zz61.Q (Zz61.g k) Zz61.h := (show Zz61.g k = Zz61.D.val Zz61.S k from funext fun _ => by unfold Zz61.g; rw [Zz61.f_def]; rfl) ▸ Decl.does (D := Zz61.D) (S := Zz61.S) (fn := Go.Proofs.Tryz.f75) (by constructor <;> first | kernel_rfl | exact TT.of_ok _ T0ex) (fun k => trivial) (fun _ _ h => by rw [h rfl]; rfl) k
def Zz49.A : AK := .p (.row .u64) (.p (.int .i64) .nil)
def Zz49.Q : RK := .p (.row .u64) (.p (.int .i64) .nil)
def Zz49.h : (List Int × Int) → Zz49.Q.T × List Int := fun b => ((b.1, b.2, ()), [])
noncomputable def Zz49.D : Decl (List Int × Int) := ⟨(Go.Proofs.Tryz.f53.body).getD .skip, 22, [.tmp 4, .tmp 5], Zz49.A, Zz49.Q, fun y m => (y.1, y.2.1), T0, [], [], []⟩
noncomputable def Zz49.S (k : Nat) : List (Nat × E.Spec (List Int × Int)) := [(64, told _ Zz60.A Zz60.Q (Zz60.g k) Zz60.h), (75, told _ Zz61.A Zz61.Q (Zz61.g k) Zz61.h), (76, told _ Zz58.A Zz58.Q (Zz58.g k) Zz58.h)]
noncomputable def Zz49.f0 (k : Nat) (a0 : List Int) (a1 : Int) : Option (List Int × Int) := Zz49.D.val Zz49.S k (a0, a1, ())
noncomputable def Zz49.f := (still Zz49.f0).1
theorem Zz49.f_def : Zz49.f = Zz49.f0 := (still Zz49.f0).2
noncomputable def Zz49.g (k : Nat) (x : Zz49.A.T) : Option (List Int × Int) := Zz49.f k (x.1) (x.2.1)
theorem Zz49.does (k : Nat) : Does PG 53 Zz49.A Zz49.Q (Zz49.g k) Zz49.h := (show Zz49.g k = Zz49.D.val Zz49.S k from funext fun _ => by unfold Zz49.g; rw [Zz49.f_def]; rfl) ▸ Decl.does (D := Zz49.D) (S := Zz49.S) (fn := Go.Proofs.Tryz.f53) (by constructor <;> first | kernel_rfl | exact TT.of_ok _ T0ex) (fun k => ⟨told_ok (Zz60.does k), ⟨told_ok (Zz61.does k), ⟨told_ok (Zz58.does k), trivial⟩⟩⟩) (fun _ _ h => by rw [h rfl]; rfl) k
def Zz5.A : AK := .p (.agg (.cons (.bool) (.cons (.row .u64) .nil))) .nil
def Zz5.Q : RK := .o (.num .u64) 23 .nil
def Zz5.h : List Int → Zz5.Q.T × List Int := fun b => (((b), ()), [])
noncomputable def Zz5.D : Decl (List Int) := ⟨(Go.Proofs.Tryz.f54.body).getD .skip, 6, [.tmp 2], Zz5.A, Zz5.Q, fun y m => y.1, T0, [], [], []⟩
noncomputable def Zz5.S (k : Nat) : List (Nat × E.Spec (List Int)) := [(59, told _ Zz47.A Zz47.Q (Zz47.g k) Zz47.h)]
noncomputable def Zz5.f0 (k : Nat) (a0_0 : Bool) (a0_1 : List Int) : Option (List Int) := Zz5.D.val Zz5.S k ((a0_0, a0_1, ()), ())
noncomputable def Zz5.f := (still Zz5.f0).1
theorem Zz5.f_def : Zz5.f = Zz5.f0 := (still Zz5.f0).2
noncomputable def Zz5.g (k : Nat) (x : Zz5.A.T) : Option (List Int) := Zz5.f k (x.1.1) (x.1.2.1)
theorem Zz5.does (k : Nat) : Does PG 54 Zz5.A Zz5.Q (Zz5.g k) Zz5.h := (show Zz5.g k = Zz5.D.val Zz5.S k from funext fun _ => by unfold Zz5.g; rw [Zz5.f_def]; rfl) ▸ Decl.does (D := Zz5.D) (S := Zz5.S) (fn := Go.Proofs.Tryz.f54) (by constructor <;> first | kernel_rfl | exact TT.of_ok _ T0ex) (fun k => ⟨told_ok (Zz47.does k), trivial⟩) (fun _ _ h => by rw [h rfl]; rfl) k
def Zz32.A : AK := .p (.agg (.cons (.bool) (.cons (.row .u64) .nil))) (.p (.int .i64) .nil)
def Zz32.Q : RK := .p (.agg (.cons (.bool) (.cons (.row .u64) .nil))) .nil
def Zz32.h : (Bool × List Int) → Zz32.Q.T × List Int := fun b => (((b.1, b.2, ()), ()), [])
noncomputable def Zz32.D : Decl (Bool × List Int) := ⟨(Go.Proofs.Tryz.f34.body).getD .skip, 16, [.cell 4 39], Zz32.A, Zz32.Q, fun y m => (y.1.1, y.1.2.1), T0, [], [], []⟩
noncomputable def Zz32.S (k : Nat) : List (Nat × E.Spec (Bool × List Int)) := [(53, told _ Zz49.A Zz49.Q (Zz49.g k) Zz49.h), (54, told _ Zz5.A Zz5.Q (Zz5.g k) Zz5.h), (55, told _ Zz0.A Zz0.Q (Zz0.g k) Zz0.h)]
noncomputable def Zz32.f0 (k : Nat) (a0_0 : Bool) (a0_1 : List Int) (a1 : Int) : Option (Bool × List Int) := Zz32.D.val Zz32.S k ((a0_0, a0_1, ()), a1, ())
noncomputable def Zz32.f := (still Zz32.f0).1
theorem Zz32.f_def : Zz32.f = Zz32.f0 := (still Zz32.f0).2
noncomputable def Zz32.g (k : Nat) (x : Zz32.A.T) : Option (Bool × List Int) := Zz32.f k (x.1.1) (x.1.2.1) (x.2.1)
theorem Zz32.does (k : Nat) : Does PG 34 Zz32.A Zz32.Q (Zz32.g k) Zz32.h := (show Zz32.g k = Zz32.D.val Zz32.S k from funext fun _ => by unfold Zz32.g; rw [Zz32.f_def]; rfl) ▸ Decl.does (D := Zz32.D) (S := Zz32.S) (fn := Go.Proofs.Tryz.f34) (by constructor <;> first | kernel_rfl | exact TT.of_ok _ T0ex) (fun k => ⟨told_ok (Zz49.does k), ⟨told_ok (Zz5.does k), ⟨told_ok (Zz0.does k), trivial⟩⟩⟩) (fun _ _ h => by rw [h rfl]; rfl) k
def Zz36.A : AK := .p (.row .u64) (.p (.row .u64) .nil)
def Zz36.Q : RK := .o .big 39 (.p (.int .i64) .nil)
def Zz36.h : (List Int × Int) → Zz36.Q.T × List Int := fun b => (((b.1), b.2, ()), [])
noncomputable def Zz36.D : Decl (List Int × Int) := ⟨(Go.Proofs.Tryz.f32.body).getD .skip, 53, [.tmp 4, .tmp 5], Zz36.A, Zz36.Q, fun y m => (y.1, y.2.1), T0, [], [(7, [(8, .m .big 39), (9, .p (some (.int .i64))), (10, .p (some (.rows .big))), (33, .p (some (.int .i64))), (34, .p (some (.int .i64)))])], []⟩
noncomputable def Zz36.S (k : Nat) : List (Nat × E.Spec (List Int × Int)) := [(29, told _ Zz35.A Zz35.Q (Zz35.g k) Zz35.h), (31, told _ Zz30.A Zz30.Q (Zz30.g k) Zz30.h), (33, told _ Zz1.A Zz1.Q (Zz1.g k) Zz1.h), (34, told _ Zz32.A Zz32.Q (Zz32.g k) Zz32.h)]
noncomputable def Zz36.l7 (k : Nat) (x8 : List Int) (x9 : Int) (x10 : List Int) (x33 x34 : Int) : Option (List Int × Int) := Zz36.D.F Zz36.S k 15 [.m x8, .p (.lit (.int .i64 x9)), .p (.rows .big x10), .p (.lit (.int .i64 x33)), .p (.lit (.int .i64 x34))]
noncomputable def Zz36.f0 (k : Nat) (a0 a1 : List Int) : Option (List Int × Int) := Zz36.D.val Zz36.S k (a0, a1, ())
noncomputable def Zz36.f := (still Zz36.f0).1
theorem Zz36.f_def : Zz36.f = Zz36.f0 := (still Zz36.f0).2
noncomputable def Zz36.g (k : Nat) (x : Zz36.A.T) : Option (List Int × Int) := Zz36.f k (x.1) (x.2.1)
theorem Zz36.does (k : Nat) : Does PG 32 Zz36.A Zz36.Q (Zz36.g k) Zz36.h := (show Zz36.g k = Zz36.D.val Zz36.S k from funext fun _ => by unfold Zz36.g; rw [Zz36.f_def]; rfl) ▸ Decl.does (D := Zz36.D) (S := Zz36.S) (fn := Go.Proofs.Tryz.f32) (by constructor <;> first | kernel_rfl | exact TT.of_ok _ T0ex) (fun k => ⟨told_ok (Zz35.does k), ⟨told_ok (Zz30.does k), ⟨told_ok (Zz1.does k), ⟨told_ok (Zz32.does k), trivial⟩⟩⟩⟩) (fun _ _ h => by rw [h rfl]; rfl) k
def Zz23.A : AK := .p (.row .u64) (.p (.row .u64) .nil)
def Zz23.Q : RK := .o .big 39 (.p (.int .i64) .nil)
def Zz23.h : (List Int × Int) → Zz23.Q.T × List Int := fun b => (((b.1), b.2, ()), [])
noncomputable def Zz23.D : Decl (List Int × Int) := ⟨(Go.Proofs.Tryz.f13.body).getD .skip, 72, [.tmp 4, .tmp 5], Zz23.A, Zz23.Q, fun y m => (y.1, y.2.1), T0, [], [(15, [(1, .p (some (.row .u64))), (9, .m .bigN 39), (10, .p (some (.int .i64))), (29, .p (some (.rows (.row .u64)))), (30, .p (some (.int .i64))), (31, .p (some (.int .i64))), (50, .p (some (.rows .big))), (51, .p (some (.int .i64))), (52, .p (some (.int .i64)))])], []⟩
noncomputable def Zz23.S (k : Nat) : List (Nat × E.Spec (List Int × Int)) := [(28, told _ Zz29.A Zz29.Q (Zz29.g k) Zz29.h), (31, told _ Zz30.A Zz30.Q (Zz30.g k) Zz30.h), (32, told _ Zz36.A Zz36.Q (Zz36.g k) Zz36.h), (33, told _ Zz1.A Zz1.Q (Zz1.g k) Zz1.h), (34, told _ Zz32.A Zz32.Q (Zz32.g k) Zz32.h)]
noncomputable def Zz23.l15 (k : Nat) (x1 x9 : List Int) (x10 : Int) (x29 : List Int) (x30 x31 : Int) (x50 : List Int) (x51 x52 : Int) : Option (List Int × Int) := Zz23.D.F Zz23.S k 31 [.p (.row .u64 x1), .m x9, .p (.lit (.int .i64 x10)), .p (.rows (.row .u64) x29), .p (.lit (.int .i64 x30)), .p (.lit (.int .i64 x31)), .p (.rows .big x50), .p (.lit (.int .i64 x51)), .p (.lit (.int .i64 x52))]
noncomputable def Zz23.f0 (k : Nat) (a0 a1 : List Int) : Option (List Int × Int) := Zz23.D.val Zz23.S k (a0, a1, ())
noncomputable def Zz23.f := (still Zz23.f0).1
theorem Zz23.f_def : Zz23.f = Zz23.f0 := (still Zz23.f0).2
noncomputable def Zz23.g (k : Nat) (x : Zz23.A.T) : Option (List Int × Int) := Zz23.f k (x.1) (x.2.1)
theorem Zz23.does (k : Nat) : Does PG 13 Zz23.A Zz23.Q (Zz23.g k) Zz23.h := (show Zz23.g k = Zz23.D.val Zz23.S k from funext fun _ => by unfold Zz23.g; rw [Zz23.f_def]; rfl) ▸ Decl.does (D := Zz23.D) (S := Zz23.S) (fn := Go.Proofs.Tryz.f13) (by constructor <;> first | kernel_rfl | exact TT.of_ok _ T0ex) (fun k => ⟨told_ok (Zz29.does k), ⟨told_ok (Zz30.does k), ⟨told_ok (Zz36.does k), ⟨told_ok (Zz1.does k), ⟨told_ok (Zz32.does k), trivial⟩⟩⟩⟩⟩) (fun _ _ h => by rw [h rfl]; rfl) k
def Zz48.A : AK := .p (.row .u64) .nil
def Zz48.Q : RK := .p (.str) .nil
def Zz48.h : ByteArray → Zz48.Q.T × List Int := fun b => ((b, ()), [])
noncomputable def Zz48.D : Decl ByteArray := ⟨(Go.Proofs.Tryz.f38.body).getD .skip, 70, [.tmp 2], Zz48.A, Zz48.Q, fun y m => y.1, T0, [], [(14, [(3, .m (.num .u8) 5), (6, .p (some (.int .i64))), (7, .p (some (.int .i64)))]), (9, [(0, .p (some (.row .u64))), (3, .m (.num .u8) 5), (4, .p (some (.int .u64))), (5, .p (some (.int .i64)))]), (5, [(0, .p (some (.row .u64))), (3, .m (.num .u8) 5)])], []⟩
noncomputable def Zz48.S (k : Nat) : List (Nat × E.Spec ByteArray) := [(44, told _ Zz45.A Zz45.Q (Zz45.g k) Zz45.h), (59, told _ Zz47.A Zz47.Q (Zz47.g k) Zz47.h)]
noncomputable def Zz48.l14 (k : Nat) (x3 : List Int) (x6 x7 : Int) : Option ByteArray := Zz48.D.F Zz48.S k 29 [.m x3, .p (.lit (.int .i64 x6)), .p (.lit (.int .i64 x7))]
noncomputable def Zz48.l9 (k : Nat) (x0 x3 : List Int) (x4 x5 : Int) : Option ByteArray := Zz48.D.F Zz48.S k 19 [.p (.row .u64 x0), .m x3, .p (.lit (.int .u64 x4)), .p (.lit (.int .i64 x5))]
noncomputable def Zz48.l5 (k : Nat) (x0 x3 : List Int) : Option ByteArray := Zz48.D.F Zz48.S k 11 [.p (.row .u64 x0), .m x3]
noncomputable def Zz48.f0 (k : Nat) (a0 : List Int) : Option ByteArray := Zz48.D.val Zz48.S k (a0, ())
noncomputable def Zz48.f := (still Zz48.f0).1
theorem Zz48.f_def : Zz48.f = Zz48.f0 := (still Zz48.f0).2
noncomputable def Zz48.g (k : Nat) (x : Zz48.A.T) : Option ByteArray := Zz48.f k (x.1)
theorem Zz48.does (k : Nat) : Does PG 38 Zz48.A Zz48.Q (Zz48.g k) Zz48.h := (show Zz48.g k = Zz48.D.val Zz48.S k from funext fun _ => by unfold Zz48.g; rw [Zz48.f_def]; rfl) ▸ Decl.does (D := Zz48.D) (S := Zz48.S) (fn := Go.Proofs.Tryz.f38) (by constructor <;> first | kernel_rfl | exact TT.of_ok _ T0ex) (fun k => ⟨told_ok (Zz45.does k), ⟨told_ok (Zz47.does k), trivial⟩⟩) (fun _ _ h => by rw [h rfl]; rfl) k
def Zz7.A : AK := .p (.agg (.cons (.bool) (.cons (.row .u64) .nil))) .nil
def Zz7.Q : RK := .p (.str) .nil
def Zz7.h : ByteArray → Zz7.Q.T × List Int := fun b => ((b, ()), [])
noncomputable def Zz7.D : Decl ByteArray := ⟨(Go.Proofs.Tryz.f15.body).getD .skip, 12, [.tmp 2], Zz7.A, Zz7.Q, fun y m => y.1, T0, [], [], []⟩
noncomputable def Zz7.S (k : Nat) : List (Nat × E.Spec ByteArray) := [(38, told _ Zz48.A Zz48.Q (Zz48.g k) Zz48.h)]
noncomputable def Zz7.f0 (k : Nat) (a0_0 : Bool) (a0_1 : List Int) : Option ByteArray := Zz7.D.val Zz7.S k ((a0_0, a0_1, ()), ())
noncomputable def Zz7.f := (still Zz7.f0).1
theorem Zz7.f_def : Zz7.f = Zz7.f0 := (still Zz7.f0).2
noncomputable def Zz7.g (k : Nat) (x : Zz7.A.T) : Option ByteArray := Zz7.f k (x.1.1) (x.1.2.1)
theorem Zz7.does (k : Nat) : Does PG 15 Zz7.A Zz7.Q (Zz7.g k) Zz7.h := (show Zz7.g k = Zz7.D.val Zz7.S k from funext fun _ => by unfold Zz7.g; rw [Zz7.f_def]; rfl) ▸ Decl.does (D := Zz7.D) (S := Zz7.S) (fn := Go.Proofs.Tryz.f15) (by constructor <;> first | kernel_rfl | exact TT.of_ok _ T0ex) (fun k => ⟨told_ok (Zz48.does k), trivial⟩) (fun _ _ h => by rw [h rfl]; rfl) k
def Zz27.A : AK := .p (.int .i64) .nil
def Zz27.Q : RK := .p (.bool) .nil
def Zz27.h : Bool → Zz27.Q.T × List Int := fun b => ((b, ()), [])
noncomputable def Zz27.D : Decl Bool := ⟨(Go.Proofs.Tryz.f61.body).getD .skip, 5, [.tmp 2], Zz27.A, Zz27.Q, fun y m => y.1, T0, [], [], []⟩
noncomputable def Zz27.S (k : Nat) : List (Nat × E.Spec Bool) := []
noncomputable def Zz27.f0 (k : Nat) (a0 : Int) : Option Bool := Zz27.D.val Zz27.S k (a0, ())
noncomputable def Zz27.f := (still Zz27.f0).1
theorem Zz27.f_def : Zz27.f = Zz27.f0 := (still Zz27.f0).2
noncomputable def Zz27.g (k : Nat) (x : Zz27.A.T) : Option Bool := Zz27.f k (x.1)
theorem Zz27.does (k : Nat) : Does PG 61 Zz27.A Zz27.Q (Zz27.g k) Zz27.h := (show Zz27.g k = Zz27.D.val Zz27.S k from funext fun _ => by unfold Zz27.g; rw [Zz27.f_def]; rfl) ▸ Decl.does (D := Zz27.D) (S := Zz27.S) (fn := Go.Proofs.Tryz.f61) (by constructor <;> first | kernel_rfl | exact TT.of_ok _ T0ex) (fun k => trivial) (fun _ _ h => by rw [h rfl]; rfl) k
def Zz72.A : AK := .p (.row .i64) (.p (.clo 61 .nil) .nil)
def Zz72.Q : RK := .p (.int .i64) .nil
def Zz72.h : Int → Zz72.Q.T × List Int := fun b => ((b, ()), [])
noncomputable def Zz72.D : Decl Int := ⟨(Go.Proofs.Tryz.f77.body).getD .skip, 19, [.tmp 4], Zz72.A, Zz72.Q, fun y m => y.1, T0, [], [(2, [(0, .p (some (.row .i64))), (1, .p (some (.clo 61 .nil))), (7, .p (some (.int .i64))), (8, .p (some (.int .i64)))])], []⟩
noncomputable def Zz72.S (k : Nat) : List (Nat × E.Spec Int) := [(61, told _ Zz27.A Zz27.Q (Zz27.g k) Zz27.h)]
noncomputable def Zz72.l2 (k : Nat) (x0 : List Int) (x7 x8 : Int) : Option Int := Zz72.D.F Zz72.S k 5 [.p (.row .i64 x0), .p (.clo 61 []), .p (.lit (.int .i64 x7)), .p (.lit (.int .i64 x8))]
noncomputable def Zz72.f0 (k : Nat) (a0 : List Int) : Option Int := Zz72.D.val Zz72.S k (a0, (()), ())
noncomputable def Zz72.f := (still Zz72.f0).1
theorem Zz72.f_def : Zz72.f = Zz72.f0 := (still Zz72.f0).2
noncomputable def Zz72.g (k : Nat) (x : Zz72.A.T) : Option Int := Zz72.f k (x.1)
theorem Zz72.does (k : Nat) : Does PG 77 Zz72.A Zz72.Q (Zz72.g k) Zz72.h := (show Zz72.g k = Zz72.D.val Zz72.S k from funext fun _ => by unfold Zz72.g; rw [Zz72.f_def]; rfl) ▸ Decl.does (D := Zz72.D) (S := Zz72.S) (fn := Go.Proofs.Tryz.f77) (by constructor <;> first | kernel_rfl | exact TT.of_ok _ T0ex) (fun k => ⟨told_ok (Zz27.does k), trivial⟩) (fun _ _ h => by rw [h rfl]; rfl) k
def Zz71.A : AK := .p (.row .i64) (.p (.clo 61 .nil) .nil)
def Zz71.Q : RK := .p (.bool) .nil
def Zz71.h : Bool → Zz71.Q.T × List Int := fun b => ((b, ()), [])
noncomputable def Zz71.D : Decl Bool := ⟨(Go.Proofs.Tryz.f60.body).getD .skip, 9, [.tmp 4], Zz71.A, Zz71.Q, fun y m => y.1, T0, [], [], []⟩
noncomputable def Zz71.S (k : Nat) : List (Nat × E.Spec Bool) := [(61, told _ Zz27.A Zz27.Q (Zz27.g k) Zz27.h), (77, told _ Zz72.A Zz72.Q (Zz72.g k) Zz72.h)]
noncomputable def Zz71.f0 (k : Nat) (a0 : List Int) : Option Bool := Zz71.D.val Zz71.S k (a0, (()), ())
noncomputable def Zz71.f := (still Zz71.f0).1
theorem Zz71.f_def : Zz71.f = Zz71.f0 := (still Zz71.f0).2
noncomputable def Zz71.g (k : Nat) (x : Zz71.A.T) : Option Bool := Zz71.f k (x.1)
theorem Zz71.does (k : Nat) : Does PG 60 Zz71.A Zz71.Q (Zz71.g k) Zz71.h := (show Zz71.g k = Zz71.D.val Zz71.S k from funext fun _ => by unfold Zz71.g; rw [Zz71.f_def]; rfl) ▸ Decl.does (D := Zz71.D) (S := Zz71.S) (fn := Go.Proofs.Tryz.f60) (by constructor <;> first | kernel_rfl | exact TT.of_ok _ T0ex) (fun k => ⟨told_ok (Zz27.does k), ⟨told_ok (Zz72.does k), trivial⟩⟩) (fun _ _ h => by rw [h rfl]; rfl) k
def Zz26.A : AK := .p (.row .i64) .nil
def Zz26.Q : RK := .p (.int .i64) (.p (.int .i64) .nil)
def Zz26.h : (Int × Int) → Zz26.Q.T × List Int := fun b => ((b.1, b.2, ()), [])
noncomputable def Zz26.D : Decl (Int × Int) := ⟨(Go.Proofs.Tryz.f40.body).getD .skip, 29, [.tmp 2, .tmp 3], Zz26.A, Zz26.Q, fun y m => (y.1, y.2.1), T0, [], [(5, [(4, .p (some (.int .i64))), (14, .p (some (.row .i64))), (15, .p (some (.int .i64))), (16, .p (some (.int .i64)))])], []⟩
noncomputable def Zz26.S (k : Nat) : List (Nat × E.Spec (Int × Int)) := [(60, told _ Zz71.A Zz71.Q (Zz71.g k) Zz71.h)]
noncomputable def Zz26.l5 (k : Nat) (x4 : Int) (x14 : List Int) (x15 x16 : Int) : Option (Int × Int) := Zz26.D.F Zz26.S k 11 [.p (.lit (.int .i64 x4)), .p (.row .i64 x14), .p (.lit (.int .i64 x15)), .p (.lit (.int .i64 x16))]
noncomputable def Zz26.f0 (k : Nat) (a0 : List Int) : Option (Int × Int) := Zz26.D.val Zz26.S k (a0, ())
noncomputable def Zz26.f := (still Zz26.f0).1
theorem Zz26.f_def : Zz26.f = Zz26.f0 := (still Zz26.f0).2
noncomputable def Zz26.g (k : Nat) (x : Zz26.A.T) : Option (Int × Int) := Zz26.f k (x.1)
theorem Zz26.does (k : Nat) : Does PG 40 Zz26.A Zz26.Q (Zz26.g k) Zz26.h := (show Zz26.g k = Zz26.D.val Zz26.S k from funext fun _ => by unfold Zz26.g; rw [Zz26.f_def]; rfl) ▸ Decl.does (D := Zz26.D) (S := Zz26.S) (fn := Go.Proofs.Tryz.f40) (by constructor <;> first | kernel_rfl | exact TT.of_ok _ T0ex) (fun k => ⟨told_ok (Zz71.does k), trivial⟩) (fun _ _ h => by rw [h rfl]; rfl) k
def Zz25.A : AK := .p (.row .i64) (.p (.row .i64) .nil)
def Zz25.Q : RK := .p (.int .i64) (.p (.int .i64) .nil)
def Zz25.h : (Int × Int) → Zz25.Q.T × List Int := fun b => ((b.1, b.2, ()), [])
noncomputable def Zz25.D : Decl (Int × Int) := ⟨(Go.Proofs.Tryz.f26.body).getD .skip, 54, [.tmp 4, .tmp 5], Zz25.A, Zz25.Q, fun y m => (y.1, y.2.1), T0, [], [(8, [(1, .p (some (.row .i64))), (8, .p (some (.int .i64))), (24, .p (some (.row .i64))), (25, .p (some (.int .i64))), (26, .p (some (.int .i64)))])], []⟩
noncomputable def Zz25.S (k : Nat) : List (Nat × E.Spec (Int × Int)) := [(40, told _ Zz26.A Zz26.Q (Zz26.g k) Zz26.h)]
noncomputable def Zz25.l8 (k : Nat) (x1 : List Int) (x8 : Int) (x24 : List Int) (x25 x26 : Int) : Option (Int × Int) := Zz25.D.F Zz25.S k 17 [.p (.row .i64 x1), .p (.lit (.int .i64 x8)), .p (.row .i64 x24), .p (.lit (.int .i64 x25)), .p (.lit (.int .i64 x26))]
noncomputable def Zz25.f0 (k : Nat) (a0 a1 : List Int) : Option (Int × Int) := Zz25.D.val Zz25.S k (a0, a1, ())
noncomputable def Zz25.f := (still Zz25.f0).1
theorem Zz25.f_def : Zz25.f = Zz25.f0 := (still Zz25.f0).2
noncomputable def Zz25.g (k : Nat) (x : Zz25.A.T) : Option (Int × Int) := Zz25.f k (x.1) (x.2.1)
theorem Zz25.does (k : Nat) : Does PG 26 Zz25.A Zz25.Q (Zz25.g k) Zz25.h := (show Zz25.g k = Zz25.D.val Zz25.S k from funext fun _ => by unfold Zz25.g; rw [Zz25.f_def]; rfl) ▸ Decl.does (D := Zz25.D) (S := Zz25.S) (fn := Go.Proofs.Tryz.f26) (by constructor <;> first | kernel_rfl | exact TT.of_ok _ T0ex) (fun k => ⟨told_ok (Zz26.does k), trivial⟩) (fun _ _ h => by rw [h rfl]; rfl) k
def Zz90.A : AK := .nil
def Zz90.Q : RK := .p (.bool) .nil
def Zz90.h : Bool → Zz90.Q.T × List Int := fun b => ((b, ()), [])
noncomputable def Zz90.D : Decl Bool := ⟨(Go.Proofs.Tryz.f8.body).getD .skip, 56, [.tmp 0], Zz90.A, Zz90.Q, fun y m => y.1, T0, [], [], []⟩
noncomputable def Zz90.S (k : Nat) : List (Nat × E.Spec Bool) := [(9, told _ Zz22.A Zz22.Q (Zz22.g k) Zz22.h), (11, told _ Zz103.A Zz103.Q (Zz103.g k) Zz103.h), (13, told _ Zz23.A Zz23.Q (Zz23.g k) Zz23.h), (15, told _ Zz7.A Zz7.Q (Zz7.g k) Zz7.h), (26, told _ Zz25.A Zz25.Q (Zz25.g k) Zz25.h)]
noncomputable def Zz90.f0 (k : Nat) : Option Bool := Zz90.D.val Zz90.S k (())
noncomputable def Zz90.f := (still Zz90.f0).1
theorem Zz90.f_def : Zz90.f = Zz90.f0 := (still Zz90.f0).2
noncomputable def Zz90.g (k : Nat) (x : Zz90.A.T) : Option Bool := Zz90.f k
theorem Zz90.does (k : Nat) : Does PG 8 Zz90.A Zz90.Q (Zz90.g k) Zz90.h := (show Zz90.g k = Zz90.D.val Zz90.S k from funext fun _ => by unfold Zz90.g; rw [Zz90.f_def]; rfl) ▸ Decl.does (D := Zz90.D) (S := Zz90.S) (fn := Go.Proofs.Tryz.f8) (by constructor <;> first | kernel_rfl | exact TT.of_ok _ T0ex) (fun k => ⟨told_ok (Zz22.does k), ⟨told_ok (Zz103.does k), ⟨told_ok (Zz23.does k), ⟨told_ok (Zz7.does k), ⟨told_ok (Zz25.does k), trivial⟩⟩⟩⟩⟩) (fun _ _ h => by rw [h rfl]; rfl) k
def Zz100.A : AK := .p (.int .u64) .nil
def Zz100.Q : RK := .p (.bool) .nil
def Zz100.h : Bool → Zz100.Q.T × List Int := fun b => ((b, ()), [])
noncomputable def Zz100.D : Decl Bool := ⟨(Go.Proofs.Tryz.f10.body).getD .skip, 9, [.tmp 2], Zz100.A, Zz100.Q, fun y m => y.1, T0, [], [], []⟩
noncomputable def Zz100.S (k : Nat) : List (Nat × E.Spec Bool) := []
noncomputable def Zz100.f0 (k : Nat) (a0 : Int) : Option Bool := Zz100.D.val Zz100.S k (a0, ())
noncomputable def Zz100.f := (still Zz100.f0).1
theorem Zz100.f_def : Zz100.f = Zz100.f0 := (still Zz100.f0).2
noncomputable def Zz100.g (k : Nat) (x : Zz100.A.T) : Option Bool := Zz100.f k (x.1)
theorem Zz100.does (k : Nat) : Does PG 10 Zz100.A Zz100.Q (Zz100.g k) Zz100.h := (show Zz100.g k = Zz100.D.val Zz100.S k from funext fun _ => by unfold Zz100.g; rw [Zz100.f_def]; rfl) ▸ Decl.does (D := Zz100.D) (S := Zz100.S) (fn := Go.Proofs.Tryz.f10) (by constructor <;> first | kernel_rfl | exact TT.of_ok _ T0ex) (fun k => trivial) (fun _ _ h => by rw [h rfl]; rfl) k
def Zz99.A : AK := .p (.int .u64) (.p (.int .u64) (.p (.int .u64) .nil))
def Zz99.Q : RK := .p (.int .u64) .nil
def Zz99.h : Int → Zz99.Q.T × List Int := fun b => ((b, ()), [])
noncomputable def Zz99.D : Decl Int := ⟨(Go.Proofs.Tryz.f23.body).getD .skip, 16, [.tmp 6], Zz99.A, Zz99.Q, fun y m => y.1, T0, [], [], []⟩
noncomputable def Zz99.S (k : Nat) : List (Nat × E.Spec Int) := []
noncomputable def Zz99.f0 (k : Nat) (a0 a1 a2 : Int) : Option Int := Zz99.D.val Zz99.S k (a0, a1, a2, ())
noncomputable def Zz99.f := (still Zz99.f0).1
theorem Zz99.f_def : Zz99.f = Zz99.f0 := (still Zz99.f0).2
noncomputable def Zz99.g (k : Nat) (x : Zz99.A.T) : Option Int := Zz99.f k (x.1) (x.2.1) (x.2.2.1)
theorem Zz99.does (k : Nat) : Does PG 23 Zz99.A Zz99.Q (Zz99.g k) Zz99.h := (show Zz99.g k = Zz99.D.val Zz99.S k from funext fun _ => by unfold Zz99.g; rw [Zz99.f_def]; rfl) ▸ Decl.does (D := Zz99.D) (S := Zz99.S) (fn := Go.Proofs.Tryz.f23) (by constructor <;> first | kernel_rfl | exact TT.of_ok _ T0ex) (fun k => trivial) (fun _ _ h => by rw [h rfl]; rfl) k
def Zz101.A : AK := .p (.int .u64) (.p (.int .u64) (.p (.int .u64) .nil))
def Zz101.Q : RK := .p (.int .u64) .nil
def Zz101.h : Int → Zz101.Q.T × List Int := fun b => ((b, ()), [])
noncomputable def Zz101.D : Decl Int := ⟨(Go.Proofs.Tryz.f24.body).getD .skip, 30, [.tmp 6], Zz101.A, Zz101.Q, fun y m => y.1, T0, [], [(4, [(0, .p (some (.int .u64))), (1, .p (some (.int .u64))), (2, .p (some (.int .u64))), (7, .p (some (.int .u64)))])], []⟩
noncomputable def Zz101.S (k : Nat) : List (Nat × E.Spec Int) := [(23, told _ Zz99.A Zz99.Q (Zz99.g k) Zz99.h)]
noncomputable def Zz101.l4 (k : Nat) (x0 x1 x2 x7 : Int) : Option Int := Zz101.D.F Zz101.S k 9 [.p (.lit (.int .u64 x0)), .p (.lit (.int .u64 x1)), .p (.lit (.int .u64 x2)), .p (.lit (.int .u64 x7))]
noncomputable def Zz101.f0 (k : Nat) (a0 a1 a2 : Int) : Option Int := Zz101.D.val Zz101.S k (a0, a1, a2, ())
noncomputable def Zz101.f := (still Zz101.f0).1
theorem Zz101.f_def : Zz101.f = Zz101.f0 := (still Zz101.f0).2
noncomputable def Zz101.g (k : Nat) (x : Zz101.A.T) : Option Int := Zz101.f k (x.1) (x.2.1) (x.2.2.1)
theorem Zz101.does (k : Nat) : Does PG 24 Zz101.A Zz101.Q (Zz101.g k) Zz101.h := (show Zz101.g k = Zz101.D.val Zz101.S k from funext fun _ => by unfold Zz101.g; rw [Zz101.f_def]; rfl) ▸ Decl.does (D := Zz101.D) (S := Zz101.S) (fn := Go.Proofs.Tryz.f24) (by constructor <;> first | kernel_rfl | exact TT.of_ok _ T0ex) (fun k => ⟨told_ok (Zz99.does k), trivial⟩) (fun _ _ h => by rw [h rfl]; rfl) k
def Zz21.A : AK := .p (.agg (.cons (.row .i64) (.cons (.row .u64) .nil))) .nil
def Zz21.Q : RK := .p (.bool) .nil
def Zz21.h : Bool → Zz21.Q.T × List Int := fun b => ((b, ()), [])
noncomputable def Zz21.D : Decl Bool := ⟨(Go.Proofs.Tryz.f39.body).getD .skip, 20, [.tmp 2], Zz21.A, Zz21.Q, fun y m => y.1, T0, [], [], []⟩
noncomputable def Zz21.S (k : Nat) : List (Nat × E.Spec Bool) := [(40, told _ Zz26.A Zz26.Q (Zz26.g k) Zz26.h)]
noncomputable def Zz21.f0 (k : Nat) (a0_0 a0_1 : List Int) : Option Bool := Zz21.D.val Zz21.S k ((a0_0, a0_1, ()), ())
noncomputable def Zz21.f := (still Zz21.f0).1
theorem Zz21.f_def : Zz21.f = Zz21.f0 := (still Zz21.f0).2
noncomputable def Zz21.g (k : Nat) (x : Zz21.A.T) : Option Bool := Zz21.f k (x.1.1) (x.1.2.1)
theorem Zz21.does (k : Nat) : Does PG 39 Zz21.A Zz21.Q (Zz21.g k) Zz21.h := (show Zz21.g k = Zz21.D.val Zz21.S k from funext fun _ => by unfold Zz21.g; rw [Zz21.f_def]; rfl) ▸ Decl.does (D := Zz21.D) (S := Zz21.S) (fn := Go.Proofs.Tryz.f39) (by constructor <;> first | kernel_rfl | exact TT.of_ok _ T0ex) (fun k => ⟨told_ok (Zz26.does k), trivial⟩) (fun _ _ h => by rw [h rfl]; rfl) k
def Zz28.A : AK := .p (.agg (.cons (.row .i64) (.cons (.row .u64) .nil))) (.p (.row .i64) .nil)
def Zz28.Q : RK := .p (.agg (.cons (.row .i64) (.cons (.row .u64) .nil))) (.p (.int .i64) .nil)
def Zz28.h : (List Int × List Int × Int) → Zz28.Q.T × List Int := fun b => (((b.1, b.2.1, ()), b.2.2, ()), [])
noncomputable def Zz28.D : Decl (List Int × List Int × Int) := ⟨(Go.Proofs.Tryz.f16.body).getD .skip, 58, [.cell 4 43, .tmp 5], Zz28.A, Zz28.Q, fun y m => (y.1.1, y.1.2.1, y.2.1), T0, [], [(4, [(2, .b (some (.cons (.row .i64) (.cons (.row .u64) .nil)))), (3, .b (some (.cons (.row .i64) .nil))), (4, .b (some (.cons (.row .i64) (.cons (.row .u64) .nil)))), (23, .p (some (.row .i64))), (24, .p (some (.int .i64))), (25, .p (some (.int .i64)))])], []⟩
noncomputable def Zz28.S (k : Nat) : List (Nat × E.Spec (List Int × List Int × Int)) := [(39, told _ Zz21.A Zz21.Q (Zz21.g k) Zz21.h), (40, told _ Zz26.A Zz26.Q (Zz26.g k) Zz26.h), (41, told _ Zz70.A Zz70.Q (Zz70.g k) Zz70.h), (42, eachSpec _)]
noncomputable def Zz28.l4 (k : Nat) (x2_0 x2_1 x3_0 x4_0 x4_1 x23 : List Int) (x24 x25 : Int) : Option (List Int × List Int × Int) := Zz28.D.F Zz28.S k 9 [.b 43 [.row .i64 x2_0, .row .u64 x2_1], .b 41 [.row .i64 x3_0], .b 43 [.row .i64 x4_0, .row .u64 x4_1], .p (.row .i64 x23), .p (.lit (.int .i64 x24)), .p (.lit (.int .i64 x25))]
noncomputable def Zz28.f0 (k : Nat) (a0_0 a0_1 a1 : List Int) : Option (List Int × List Int × Int) := Zz28.D.val Zz28.S k ((a0_0, a0_1, ()), a1, ())
noncomputable def Zz28.f := (still Zz28.f0).1
theorem Zz28.f_def : Zz28.f = Zz28.f0 := (still Zz28.f0).2
noncomputable def Zz28.g (k : Nat) (x : Zz28.A.T) : Option (List Int × List Int × Int) := Zz28.f k (x.1.1) (x.1.2.1) (x.2.1)
theorem Zz28.does (k : Nat) : Does PG 16 Zz28.A Zz28.Q (Zz28.g k) Zz28.h := (show Zz28.g k = Zz28.D.val Zz28.S k from funext fun _ => by unfold Zz28.g; rw [Zz28.f_def]; rfl) ▸ Decl.does (D := Zz28.D) (S := Zz28.S) (fn := Go.Proofs.Tryz.f16) (by constructor <;> first | kernel_rfl | exact TT.of_ok _ T0ex) (fun k => ⟨told_ok (Zz21.does k), ⟨told_ok (Zz26.does k), ⟨told_ok (Zz70.does k), ⟨eachSpec_ok _, trivial⟩⟩⟩⟩) (fun _ _ h => by rw [h rfl]; rfl) k
def Zz107.A : AK := .p (.row .i64) .nil
def Zz107.Q : RK := .p (.int .i64) (.p (.int .i64) .nil)
def Zz107.h : (Int × Int) → Zz107.Q.T × List Int := fun b => ((b.1, b.2, ()), [])
noncomputable def Zz107.D : Decl (Int × Int) := ⟨(Go.Proofs.Tryz.f17.body).getD .skip, 48, [.tmp 2, .tmp 3], Zz107.A, Zz107.Q, fun y m => (y.1, y.2.1), T0, [], [(10, [(0, .p (some (.row .i64))), (5, .p (some (.int .i64))), (6, .p (some (.int .i64)))]), (4, [(0, .p (some (.row .i64))), (4, .p (some (.int .i64)))])], []⟩
noncomputable def Zz107.S (k : Nat) : List (Nat × E.Spec (Int × Int)) := []
noncomputable def Zz107.l10 (k : Nat) (x0 : List Int) (x5 x6 : Int) : Option (Int × Int) := Zz107.D.F Zz107.S k 21 [.p (.row .i64 x0), .p (.lit (.int .i64 x5)), .p (.lit (.int .i64 x6))]
noncomputable def Zz107.l4 (k : Nat) (x0 : List Int) (x4 : Int) : Option (Int × Int) := Zz107.D.F Zz107.S k 9 [.p (.row .i64 x0), .p (.lit (.int .i64 x4))]
noncomputable def Zz107.f0 (k : Nat) (a0 : List Int) : Option (Int × Int) := Zz107.D.val Zz107.S k (a0, ())
noncomputable def Zz107.f := (still Zz107.f0).1
theorem Zz107.f_def : Zz107.f = Zz107.f0 := (still Zz107.f0).2
noncomputable def Zz107.g (k : Nat) (x : Zz107.A.T) : Option (Int × Int) := Zz107.f k (x.1)
theorem Zz107.does (k : Nat) : Does PG 17 Zz107.A Zz107.Q (Zz107.g k) Zz107.h := (show Zz107.g k = Zz107.D.val Zz107.S k from funext fun _ => by unfold Zz107.g; rw [Zz107.f_def]; rfl) ▸ Decl.does (D := Zz107.D) (S := Zz107.S) (fn := Go.Proofs.Tryz.f17) (by constructor <;> first | kernel_rfl | exact TT.of_ok _ T0ex) (fun k => trivial) (fun _ _ h => by rw [h rfl]; rfl) k
def Zz92.A : AK := .p (.agg (.cons (.row .i64) (.cons (.row .u64) .nil))) .nil
def Zz92.Q : RK := .p (.bool) .nil
def Zz92.h : Bool → Zz92.Q.T × List Int := fun b => ((b, ()), [])
noncomputable def Zz92.D : Decl Bool := ⟨(Go.Proofs.Tryz.f18.body).getD .skip, 20, [.tmp 2], Zz92.A, Zz92.Q, fun y m => y.1, T0, [], [], []⟩
noncomputable def Zz92.S (k : Nat) : List (Nat × E.Spec Bool) := [(17, told _ Zz107.A Zz107.Q (Zz107.g k) Zz107.h)]
noncomputable def Zz92.f0 (k : Nat) (a0_0 a0_1 : List Int) : Option Bool := Zz92.D.val Zz92.S k ((a0_0, a0_1, ()), ())
noncomputable def Zz92.f := (still Zz92.f0).1
theorem Zz92.f_def : Zz92.f = Zz92.f0 := (still Zz92.f0).2
noncomputable def Zz92.g (k : Nat) (x : Zz92.A.T) : Option Bool := Zz92.f k (x.1.1) (x.1.2.1)
theorem Zz92.does (k : Nat) : Does PG 18 Zz92.A Zz92.Q (Zz92.g k) Zz92.h := (show Zz92.g k = Zz92.D.val Zz92.S k from funext fun _ => by unfold Zz92.g; rw [Zz92.f_def]; rfl) ▸ Decl.does (D := Zz92.D) (S := Zz92.S) (fn := Go.Proofs.Tryz.f18) (by constructor <;> first | kernel_rfl | exact TT.of_ok _ T0ex) (fun k => ⟨told_ok (Zz107.does k), trivial⟩) (fun _ _ h => by rw [h rfl]; rfl) k
def Zz91.A : AK := .p (.row .i64) (.p (.row .i64) .nil)
def Zz91.Q : RK := .p (.bool) .nil
def Zz91.h : Bool → Zz91.Q.T × List Int := fun b => ((b, ()), [])
noncomputable def Zz91.D : Decl Bool := ⟨(Go.Proofs.Tryz.f19.body).getD .skip, 26, [.tmp 4], Zz91.A, Zz91.Q, fun y m => y.1, T0, [], [(4, [(0, .p (some (.row .i64))), (1, .p (some (.row .i64))), (5, .p (some (.int .i64)))])], []⟩
noncomputable def Zz91.S (k : Nat) : List (Nat × E.Spec Bool) := []
noncomputable def Zz91.l4 (k : Nat) (x0 x1 : List Int) (x5 : Int) : Option Bool := Zz91.D.F Zz91.S k 9 [.p (.row .i64 x0), .p (.row .i64 x1), .p (.lit (.int .i64 x5))]
noncomputable def Zz91.f0 (k : Nat) (a0 a1 : List Int) : Option Bool := Zz91.D.val Zz91.S k (a0, a1, ())
noncomputable def Zz91.f := (still Zz91.f0).1
theorem Zz91.f_def : Zz91.f = Zz91.f0 := (still Zz91.f0).2
noncomputable def Zz91.g (k : Nat) (x : Zz91.A.T) : Option Bool := Zz91.f k (x.1) (x.2.1)
theorem Zz91.does (k : Nat) : Does PG 19 Zz91.A Zz91.Q (Zz91.g k) Zz91.h := (show Zz91.g k = Zz91.D.val Zz91.S k from funext fun _ => by unfold Zz91.g; rw [Zz91.f_def]; rfl) ▸ Decl.does (D := Zz91.D) (S := Zz91.S) (fn := Go.Proofs.Tryz.f19) (by constructor <;> first | kernel_rfl | exact TT.of_ok _ T0ex) (fun k => trivial) (fun _ _ h => by rw [h rfl]; rfl) k
def Zz106.A : AK := .p (.row .i64) (.p (.row .i64) .nil)
def Zz106.Q : RK := .p (.int .i64) (.p (.int .i64) .nil)
def Zz106.h : (Int × Int) → Zz106.Q.T × List Int := fun b => ((b.1, b.2, ()), [])
noncomputable def Zz106.D : Decl (Int × Int) := ⟨(Go.Proofs.Tryz.f20.body).getD .skip, 57, [.tmp 4, .tmp 5], Zz106.A, Zz106.Q, fun y m => (y.1, y.2.1), T0, [], [(8, [(0, .p (some (.row .i64))), (1, .p (some (.row .i64))), (8, .p (some (.int .i64))), (9, .p (some (.int .i64)))])], []⟩
noncomputable def Zz106.S (k : Nat) : List (Nat × E.Spec (Int × Int)) := [(17, told _ Zz107.A Zz107.Q (Zz107.g k) Zz107.h)]
noncomputable def Zz106.l8 (k : Nat) (x0 x1 : List Int) (x8 x9 : Int) : Option (Int × Int) := Zz106.D.F Zz106.S k 17 [.p (.row .i64 x0), .p (.row .i64 x1), .p (.lit (.int .i64 x8)), .p (.lit (.int .i64 x9))]
noncomputable def Zz106.f0 (k : Nat) (a0 a1 : List Int) : Option (Int × Int) := Zz106.D.val Zz106.S k (a0, a1, ())
noncomputable def Zz106.f := (still Zz106.f0).1
theorem Zz106.f_def : Zz106.f = Zz106.f0 := (still Zz106.f0).2
noncomputable def Zz106.g (k : Nat) (x : Zz106.A.T) : Option (Int × Int) := Zz106.f k (x.1) (x.2.1)
theorem Zz106.does (k : Nat) : Does PG 20 Zz106.A Zz106.Q (Zz106.g k) Zz106.h := (show Zz106.g k = Zz106.D.val Zz106.S k from funext fun _ => by unfold Zz106.g; rw [Zz106.f_def]; rfl) ▸ Decl.does (D := Zz106.D) (S := Zz106.S) (fn := Go.Proofs.Tryz.f20) (by constructor <;> first | kernel_rfl | exact TT.of_ok _ T0ex) (fun k => ⟨told_ok (Zz107.does k), trivial⟩) (fun _ _ h => by rw [h rfl]; rfl) k
def Zz105.A : AK := .p (.row .i64) (.p (.int .i64) .nil)
def Zz105.Q : RK := .o (.num .i64) 3 .nil
def Zz105.h : List Int → Zz105.Q.T × List Int := fun b => (((b), ()), [])
noncomputable def Zz105.D : Decl (List Int) := ⟨(Go.Proofs.Tryz.f21.body).getD .skip, 33, [.tmp 4], Zz105.A, Zz105.Q, fun y m => y.1, T0, [], [(3, [(0, .p (some (.row .i64))), (1, .p (some (.int .i64))), (5, .m (.num .i64) 3), (6, .p (some (.int .i64)))])], []⟩
noncomputable def Zz105.S (k : Nat) : List (Nat × E.Spec (List Int)) := []
noncomputable def Zz105.l3 (k : Nat) (x0 : List Int) (x1 : Int) (x5 : List Int) (x6 : Int) : Option (List Int) := Zz105.D.F Zz105.S k 7 [.p (.row .i64 x0), .p (.lit (.int .i64 x1)), .m x5, .p (.lit (.int .i64 x6))]
noncomputable def Zz105.f0 (k : Nat) (a0 : List Int) (a1 : Int) : Option (List Int) := Zz105.D.val Zz105.S k (a0, a1, ())
noncomputable def Zz105.f := (still Zz105.f0).1
theorem Zz105.f_def : Zz105.f = Zz105.f0 := (still Zz105.f0).2
noncomputable def Zz105.g (k : Nat) (x : Zz105.A.T) : Option (List Int) := Zz105.f k (x.1) (x.2.1)
theorem Zz105.does (k : Nat) : Does PG 21 Zz105.A Zz105.Q (Zz105.g k) Zz105.h := (show Zz105.g k = Zz105.D.val Zz105.S k from funext fun _ => by unfold Zz105.g; rw [Zz105.f_def]; rfl) ▸ Decl.does (D := Zz105.D) (S := Zz105.S) (fn := Go.Proofs.Tryz.f21) (by constructor <;> first | kernel_rfl | exact TT.of_ok _ T0ex) (fun k => trivial) (fun _ _ h => by rw [h rfl]; rfl) k
def Zz89.A : AK := .p (.agg (.cons (.row .i64) (.cons (.row .u64) .nil))) (.p (.row .i64) .nil)
def Zz89.Q : RK := .p (.bool) .nil
def Zz89.h : Bool → Zz89.Q.T × List Int := fun b => ((b, ()), [])
noncomputable def Zz89.D : Decl Bool := ⟨(Go.Proofs.Tryz.f5.body).getD .skip, 177, [.tmp 4], Zz89.A, Zz89.Q, fun y m => y.1, T0, [], [(18, [(1, .p (some (.row .i64))), (2, .b (some (.cons (.row .i64) (.cons (.row .u64) .nil)))), (5, .b (some (.cons (.row .i64) (.cons (.row .u64) .nil)))), (11, .m (.num .u64) 23), (12, .p (some (.int .i64)))]), (6, [(1, .p (some (.row .i64))), (2, .b (some (.cons (.row .i64) (.cons (.row .u64) .nil)))), (5, .b (some (.cons (.row .i64) (.cons (.row .u64) .nil)))), (6, .p (some (.int .i64))), (7, .p (some (.bool))), (8, .p (some (.int .i64)))])], []⟩
noncomputable def Zz89.S (k : Nat) : List (Nat × E.Spec Bool) := [(8, told _ Zz90.A Zz90.Q (Zz90.g k) Zz90.h), (11, told _ Zz103.A Zz103.Q (Zz103.g k) Zz103.h), (16, told _ Zz28.A Zz28.Q (Zz28.g k) Zz28.h), (17, told _ Zz107.A Zz107.Q (Zz107.g k) Zz107.h), (18, told _ Zz92.A Zz92.Q (Zz92.g k) Zz92.h), (19, told _ Zz91.A Zz91.Q (Zz91.g k) Zz91.h), (20, told _ Zz106.A Zz106.Q (Zz106.g k) Zz106.h), (21, told _ Zz105.A Zz105.Q (Zz105.g k) Zz105.h)]
noncomputable def Zz89.l18 (k : Nat) (x1 x2_0 x2_1 x5_0 x5_1 x11 : List Int) (x12 : Int) : Option Bool := Zz89.D.F Zz89.S k 37 [.p (.row .i64 x1), .b 43 [.row .i64 x2_0, .row .u64 x2_1], .b 43 [.row .i64 x5_0, .row .u64 x5_1], .m x11, .p (.lit (.int .i64 x12))]
noncomputable def Zz89.l6 (k : Nat) (x1 x2_0 x2_1 x5_0 x5_1 : List Int) (x6 : Int) (x7 : Bool) (x8 : Int) : Option Bool := Zz89.D.F Zz89.S k 13 [.p (.row .i64 x1), .b 43 [.row .i64 x2_0, .row .u64 x2_1], .b 43 [.row .i64 x5_0, .row .u64 x5_1], .p (.lit (.int .i64 x6)), .p (.lit (.bool x7)), .p (.lit (.int .i64 x8))]
noncomputable def Zz89.f0 (k : Nat) (a0_0 a0_1 a1 : List Int) : Option Bool := Zz89.D.val Zz89.S k ((a0_0, a0_1, ()), a1, ())
noncomputable def Zz89.f := (still Zz89.f0).1
theorem Zz89.f_def : Zz89.f = Zz89.f0 := (still Zz89.f0).2
noncomputable def Zz89.g (k : Nat) (x : Zz89.A.T) : Option Bool := Zz89.f k (x.1.1) (x.1.2.1) (x.2.1)
theorem Zz89.does (k : Nat) : Does PG 5 Zz89.A Zz89.Q (Zz89.g k) Zz89.h := (show Zz89.g k = Zz89.D.val Zz89.S k from funext fun _ => by unfold Zz89.g; rw [Zz89.f_def]; rfl) ▸ Decl.does (D := Zz89.D) (S := Zz89.S) (fn := Go.Proofs.Tryz.f5) (by constructor <;> first | kernel_rfl | exact TT.of_ok _ T0ex) (fun k => ⟨told_ok (Zz90.does k), ⟨told_ok (Zz103.does k), ⟨told_ok (Zz28.does k), ⟨told_ok (Zz107.does k), ⟨told_ok (Zz92.does k), ⟨told_ok (Zz91.does k), ⟨told_ok (Zz106.does k), ⟨told_ok (Zz105.does k), trivial⟩⟩⟩⟩⟩⟩⟩⟩) (fun _ _ h => by rw [h rfl]; rfl) k
def Zz24.A : AK := .p (.agg (.cons (.row .i64) (.cons (.row .u64) .nil))) (.p (.agg (.cons (.row .i64) (.cons (.row .u64) .nil))) (.p (.int .u64) .nil))
def Zz24.Q : RK := .p (.agg (.cons (.row .i64) (.cons (.row .u64) .nil))) (.p (.int .i64) .nil)
def Zz24.h : (List Int × List Int × Int) → Zz24.Q.T × List Int := fun b => (((b.1, b.2.1, ()), b.2.2, ()), [])
noncomputable def Zz24.D : Decl (List Int × List Int × Int) := ⟨(Go.Proofs.Tryz.f22.body).getD .skip, 120, [.cell 6 43, .tmp 7], Zz24.A, Zz24.Q, fun y m => (y.1.1, y.1.2.1, y.2.1), T0, [], [(6, [(2, .p (some (.int .u64))), (3, .b (some (.cons (.row .i64) (.cons (.row .u64) .nil)))), (4, .b (some (.cons (.row .i64) (.cons (.row .u64) .nil)))), (6, .b (some (.cons (.any) (.cons (.any) .nil)))), (8, .p (some (.fp 77 (.cons (.int .u64) (.cons (.int .u64) (.cons (.int .u64) .nil)))))), (10, .m (.num .i64) 3), (48, .p (some (.int .i64))), (49, .p (some (.int .i64)))])], [(13, [10]), (16, [10]), (22, [15])]⟩
noncomputable def Zz24.S (k : Nat) : List (Nat × E.Spec (List Int × List Int × Int)) := [(9, told _ Zz22.A Zz22.Q (Zz22.g k) Zz22.h), (16, told _ Zz28.A Zz28.Q (Zz28.g k) Zz28.h), (27, told _ Zz114.A Zz114.Q (Zz114.g k) Zz114.h), (30, told _ Zz31.A Zz31.Q (Zz31.g k) Zz31.h), (39, told _ Zz21.A Zz21.Q (Zz21.g k) Zz21.h), (40, told _ Zz26.A Zz26.Q (Zz26.g k) Zz26.h)]
noncomputable def Zz24.l6 (k : Nat) (x2 : Int) (x3_0 x3_1 x4_0 x4_1 : List Int) (x8_0 x8_1 x8_2 : Int) (x10 : List Int) (x48 x49 : Int) : Option (List Int × List Int × Int) := Zz24.D.F Zz24.S k 13 [.p (.lit (.int .u64 x2)), .b 43 [.row .i64 x3_0, .row .u64 x3_1], .b 43 [.row .i64 x4_0, .row .u64 x4_1], .b 43 [.any, .any], .p (.fp 77 [.lit (.int .u64 x8_0), .lit (.int .u64 x8_1), .lit (.int .u64 x8_2)]), .m x10, .p (.lit (.int .i64 x48)), .p (.lit (.int .i64 x49))]
noncomputable def Zz24.f0 (k : Nat) (a0_0 a0_1 a1_0 a1_1 : List Int) (a2 : Int) : Option (List Int × List Int × Int) := Zz24.D.val Zz24.S k ((a0_0, a0_1, ()), (a1_0, a1_1, ()), a2, ())
noncomputable def Zz24.f := (still Zz24.f0).1
theorem Zz24.f_def : Zz24.f = Zz24.f0 := (still Zz24.f0).2
noncomputable def Zz24.g (k : Nat) (x : Zz24.A.T) : Option (List Int × List Int × Int) := Zz24.f k (x.1.1) (x.1.2.1) (x.2.1.1) (x.2.1.2.1) (x.2.2.1)
theorem Zz24.does (k : Nat) : Does PG 22 Zz24.A Zz24.Q (Zz24.g k) Zz24.h := (show Zz24.g k = Zz24.D.val Zz24.S k from funext fun _ => by unfold Zz24.g; rw [Zz24.f_def]; rfl) ▸ Decl.does (D := Zz24.D) (S := Zz24.S) (fn := Go.Proofs.Tryz.f22) (by constructor <;> first | kernel_rfl | exact TT.of_ok _ T0ex) (fun k => ⟨told_ok (Zz22.does k), ⟨told_ok (Zz28.does k), ⟨told_ok (Zz114.does k), ⟨told_ok (Zz31.does k), ⟨told_ok (Zz21.does k), ⟨told_ok (Zz26.does k), trivial⟩⟩⟩⟩⟩⟩) (fun _ _ h => by rw [h rfl]; rfl) k
def Zz85.A : AK := .p (.agg (.cons (.row .i64) (.cons (.row .u64) .nil))) (.p (.agg (.cons (.row .i64) (.cons (.row .u64) .nil))) (.p (.int .u64) .nil))
def Zz85.Q : RK := .p (.bool) .nil
def Zz85.h : Bool → Zz85.Q.T × List Int := fun b => ((b, ()), [])
noncomputable def Zz85.D : Decl Bool := ⟨(Go.Proofs.Tryz.f6.body).getD .skip, 215, [.tmp 6], Zz85.A, Zz85.Q, fun y m => y.1, T0, [], [(26, [(2, .p (some (.int .u64))), (3, .b (some (.cons (.row .i64) (.cons (.row .u64) .nil)))), (4, .b (some (.cons (.row .i64) (.cons (.row .u64) .nil)))), (7, .b (some (.cons (.row .i64) (.cons (.row .u64) .nil)))), (9, .m (.num .i64) 3), (13, .m (.num .u64) 23), (14, .p (some (.int .i64))), (15, .p (some (.int .i64))), (16, .m (.num .i64) 3), (17, .p (some (.row .i64))), (18, .p (some (.int .i64)))]), (21, [(2, .p (some (.int .u64))), (3, .b (some (.cons (.row .i64) (.cons (.row .u64) .nil)))), (4, .b (some (.cons (.row .i64) (.cons (.row .u64) .nil)))), (7, .b (some (.cons (.row .i64) (.cons (.row .u64) .nil)))), (9, .m (.num .i64) 3), (13, .m (.num .u64) 23), (14, .p (some (.int .i64))), (15, .p (some (.int .i64)))]), (18, [(2, .p (some (.int .u64))), (3, .b (some (.cons (.row .i64) (.cons (.row .u64) .nil)))), (4, .b (some (.cons (.row .i64) (.cons (.row .u64) .nil)))), (7, .b (some (.cons (.row .i64) (.cons (.row .u64) .nil)))), (9, .m (.num .i64) 3), (13, .m (.num .u64) 23), (14, .p (some (.int .i64)))]), (8, [(2, .p (some (.int .u64))), (3, .b (some (.cons (.row .i64) (.cons (.row .u64) .nil)))), (4, .b (some (.cons (.row .i64) (.cons (.row .u64) .nil)))), (7, .b (some (.cons (.row .i64) (.cons (.row .u64) .nil)))), (8, .p (some (.int .i64))), (9, .m (.num .i64) 3), (10, .p (some (.int .i64)))])], []⟩
noncomputable def Zz85.S (k : Nat) : List (Nat × E.Spec Bool) := [(8, told _ Zz90.A Zz90.Q (Zz90.g k) Zz90.h), (10, told _ Zz100.A Zz100.Q (Zz100.g k) Zz100.h), (11, told _ Zz103.A Zz103.Q (Zz103.g k) Zz103.h), (17, told _ Zz107.A Zz107.Q (Zz107.g k) Zz107.h), (18, told _ Zz92.A Zz92.Q (Zz92.g k) Zz92.h), (19, told _ Zz91.A Zz91.Q (Zz91.g k) Zz91.h), (20, told _ Zz106.A Zz106.Q (Zz106.g k) Zz106.h), (21, told _ Zz105.A Zz105.Q (Zz105.g k) Zz105.h), (22, told _ Zz24.A Zz24.Q (Zz24.g k) Zz24.h), (23, told _ Zz99.A Zz99.Q (Zz99.g k) Zz99.h), (24, told _ Zz101.A Zz101.Q (Zz101.g k) Zz101.h)]
noncomputable def Zz85.l26 (k : Nat) (x2 : Int) (x3_0 x3_1 x4_0 x4_1 x7_0 x7_1 x9 x13 : List Int) (x14 x15 : Int) (x16 x17 : List Int) (x18 : Int) : Option Bool := Zz85.D.F Zz85.S k 53 [.p (.lit (.int .u64 x2)), .b 43 [.row .i64 x3_0, .row .u64 x3_1], .b 43 [.row .i64 x4_0, .row .u64 x4_1], .b 43 [.row .i64 x7_0, .row .u64 x7_1], .m x9, .m x13, .p (.lit (.int .i64 x14)), .p (.lit (.int .i64 x15)), .m x16, .p (.row .i64 x17), .p (.lit (.int .i64 x18))]
noncomputable def Zz85.l21 (k : Nat) (x2 : Int) (x3_0 x3_1 x4_0 x4_1 x7_0 x7_1 x9 x13 : List Int) (x14 x15 : Int) : Option Bool := Zz85.D.F Zz85.S k 43 [.p (.lit (.int .u64 x2)), .b 43 [.row .i64 x3_0, .row .u64 x3_1], .b 43 [.row .i64 x4_0, .row .u64 x4_1], .b 43 [.row .i64 x7_0, .row .u64 x7_1], .m x9, .m x13, .p (.lit (.int .i64 x14)), .p (.lit (.int .i64 x15))]
noncomputable def Zz85.l18 (k : Nat) (x2 : Int) (x3_0 x3_1 x4_0 x4_1 x7_0 x7_1 x9 x13 : List Int) (x14 : Int) : Option Bool := Zz85.D.F Zz85.S k 37 [.p (.lit (.int .u64 x2)), .b 43 [.row .i64 x3_0, .row .u64 x3_1], .b 43 [.row .i64 x4_0, .row .u64 x4_1], .b 43 [.row .i64 x7_0, .row .u64 x7_1], .m x9, .m x13, .p (.lit (.int .i64 x14))]
noncomputable def Zz85.l8 (k : Nat) (x2 : Int) (x3_0 x3_1 x4_0 x4_1 x7_0 x7_1 : List Int) (x8 : Int) (x9 : List Int) (x10 : Int) : Option Bool := Zz85.D.F Zz85.S k 17 [.p (.lit (.int .u64 x2)), .b 43 [.row .i64 x3_0, .row .u64 x3_1], .b 43 [.row .i64 x4_0, .row .u64 x4_1], .b 43 [.row .i64 x7_0, .row .u64 x7_1], .p (.lit (.int .i64 x8)), .m x9, .p (.lit (.int .i64 x10))]
noncomputable def Zz85.f0 (k : Nat) (a0_0 a0_1 a1_0 a1_1 : List Int) (a2 : Int) : Option Bool := Zz85.D.val Zz85.S k ((a0_0, a0_1, ()), (a1_0, a1_1, ()), a2, ())
noncomputable def Zz85.f := (still Zz85.f0).1
theorem Zz85.f_def : Zz85.f = Zz85.f0 := (still Zz85.f0).2
noncomputable def Zz85.g (k : Nat) (x : Zz85.A.T) : Option Bool := Zz85.f k (x.1.1) (x.1.2.1) (x.2.1.1) (x.2.1.2.1) (x.2.2.1)
theorem Zz85.does (k : Nat) : Does PG 6 Zz85.A Zz85.Q (Zz85.g k) Zz85.h := (show Zz85.g k = Zz85.D.val Zz85.S k from funext fun _ => by unfold Zz85.g; rw [Zz85.f_def]; rfl) ▸ Decl.does (D := Zz85.D) (S := Zz85.S) (fn := Go.Proofs.Tryz.f6) (by constructor <;> first | kernel_rfl | exact TT.of_ok _ T0ex) (fun k => ⟨told_ok (Zz90.does k), ⟨told_ok (Zz100.does k), ⟨told_ok (Zz103.does k), ⟨told_ok (Zz107.does k), ⟨told_ok (Zz92.does k), ⟨told_ok (Zz91.does k), ⟨told_ok (Zz106.does k), ⟨told_ok (Zz105.does k), ⟨told_ok (Zz24.does k), ⟨told_ok (Zz99.does k), ⟨told_ok (Zz101.does k), trivial⟩⟩⟩⟩⟩⟩⟩⟩⟩⟩⟩) (fun _ _ h => by rw [h rfl]; rfl) k
def Zz88.A : AK := .p (.row .u64) (.p (.row .u64) (.p (.int .u64) .nil))
def Zz88.Q : RK := .p (.bool) .nil
def Zz88.h : Bool → Zz88.Q.T × List Int := fun b => ((b, ()), [])
noncomputable def Zz88.D : Decl Bool := ⟨(Go.Proofs.Tryz.f7.body).getD .skip, 143, [.tmp 6], Zz88.A, Zz88.Q, fun y m => y.1, T0, [], [(9, [(0, .p (some (.row .u64))), (1, .p (some (.row .u64))), (2, .p (some (.int .u64))), (7, .p (some (.row .u64))), (11, .p (some (.rows .big))), (13, .p (some (.int .i64)))])], []⟩
noncomputable def Zz88.S (k : Nat) : List (Nat × E.Spec Bool) := [(8, told _ Zz90.A Zz90.Q (Zz90.g k) Zz90.h), (9, told _ Zz22.A Zz22.Q (Zz22.g k) Zz22.h), (11, told _ Zz103.A Zz103.Q (Zz103.g k) Zz103.h), (13, told _ Zz23.A Zz23.Q (Zz23.g k) Zz23.h), (22, told _ Zz24.A Zz24.Q (Zz24.g k) Zz24.h), (25, told _ Zz3.A Zz3.Q (Zz3.g k) Zz3.h)]
noncomputable def Zz88.l9 (k : Nat) (x0 x1 : List Int) (x2 : Int) (x7 x11 : List Int) (x13 : Int) : Option Bool := Zz88.D.F Zz88.S k 19 [.p (.row .u64 x0), .p (.row .u64 x1), .p (.lit (.int .u64 x2)), .p (.row .u64 x7), .p (.rows .big x11), .p (.lit (.int .i64 x13))]
noncomputable def Zz88.f0 (k : Nat) (a0 a1 : List Int) (a2 : Int) : Option Bool := Zz88.D.val Zz88.S k (a0, a1, a2, ())
noncomputable def Zz88.f := (still Zz88.f0).1
theorem Zz88.f_def : Zz88.f = Zz88.f0 := (still Zz88.f0).2
noncomputable def Zz88.g (k : Nat) (x : Zz88.A.T) : Option Bool := Zz88.f k (x.1) (x.2.1) (x.2.2.1)
theorem Zz88.does (k : Nat) : Does PG 7 Zz88.A Zz88.Q (Zz88.g k) Zz88.h := (show Zz88.g k = Zz88.D.val Zz88.S k from funext fun _ => by unfold Zz88.g; rw [Zz88.f_def]; rfl) ▸ Decl.does (D := Zz88.D) (S := Zz88.S) (fn := Go.Proofs.Tryz.f7) (by constructor <;> first | kernel_rfl | exact TT.of_ok _ T0ex) (fun k => ⟨told_ok (Zz90.does k), ⟨told_ok (Zz22.does k), ⟨told_ok (Zz103.does k), ⟨told_ok (Zz23.does k), ⟨told_ok (Zz24.does k), ⟨told_ok (Zz3.does k), trivial⟩⟩⟩⟩⟩⟩) (fun _ _ h => by rw [h rfl]; rfl) k
end Go.Proofs.YtkoeddgbhohggaaGreatDoor.F
end
